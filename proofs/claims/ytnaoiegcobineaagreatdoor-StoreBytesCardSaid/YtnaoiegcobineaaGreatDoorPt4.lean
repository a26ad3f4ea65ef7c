/-
  Texts put together: Use, Use2, Laws6d, Act, Ref15, Laws15c, Stm, StOk, StOk2, StOk3, Room7, View9, Sto0, Sto1, Plain21, Plain21b, Plain21c, Sto2, Sto3, Sto4, Sto5, Sto6, Sto7.
-/
import Derived.Test.YtnaoiegcobineaaGreatDoorPt3
import Derived.Test.YtnaoiegcobineaaGreatDoorQRule9
import Derived.Test.YtnaoiegcobineaaGreatDoorQRule18
set_option linter.unusedVariables false
namespace Go.Proofs.YtnaoiegcobineaaGreatDoor
open Go.RowKit
structure Use where
 kind:Int
 at':Int
 frm:Int
 n:Int
 w:Int
 a:Option Addr
 cap:Nat
 bs:List Int
structure UseOk (w:World) (u:Use):Prop where
 kind:0≤u.kind∧u.kind<256
 w64:0≤u.w∧u.w<18446744073709551616
 rd:Rd .u8 w u.a u.bs
 rng:InB u.bs
 len:u.bs.length≤9223372036854775807
theorem UseOk.chg {w w':World} {u:Use} (h:UseOk w u) (hc:Chg None' w w'):UseOk w' u:=⟨h.kind,h.w64,h.rd.chg hc,h.rng,h.len⟩
structure Out where
 err:Int
 bs:List Int
 n:Nat
 told:List Int
 word:Int
def outNo (bs:List Int) (e:Int):Out:=⟨e,bs,0,[],0⟩
theorem ArV.charge_zero {V:ArV} {A:Ar}:{V.charge A 0 with bs:=V.bs}=V:=by
 unfold ArV.charge
 split
 ·rfl
 ·simp [charged]
theorem ArV.charge_zero' {V:ArV} {A:Ar}:{V.charge A ((0:Nat):Int) with bs:=V.bs}=V:=ArV.charge_zero
theorem OwnB.rdS {base:Nat} {w:World} {v:Value} {l:List Int} {S:Nat→Prop} (h:OwnB base w v l) (hS:∀ b,S b→b<base):∃ a cap,v = .slice a l.length cap∧RdS S .u8 w a l:=by
 obtain ⟨g,cap,cur,h1,h2,h3,h4,h5,h6⟩:=h.rd
 exact ⟨_,cap,h1,h6,fun b off s e _ hs=>by cases e; have:=hS _ hs; omega⟩
theorem ArOk.foot_lt {w:World} {A:Ar} {V:ArV} (h:ArOk w A V):∀ b,foot A b→b<w.heap.size:=fun b hb=>by
 rcases hb with rfl | hb
 ·exact lt_of_heap h.dat
 ·exact lt_of_heap (h.met b hb).1
theorem RdS.nil {S:Nat→Prop} {k:IntKind} {w:World} {a:Option Addr}:RdS S k w a []:=⟨Rd.nil _ _ _,fun _ _ _ _ h=>absurd h (by simp)⟩
def Used (A:Ar) (V:ArV) (w:World) (o:Out):Value→World→Prop:=fun v w' =>
 ∃ a cap,v = .tuple #[.slice a o.told.length cap,.int .u64 o.word,.int .i64 o.err]∧RdS (foot A) .u8 w' a o.told∧ArOk w' A {V.charge A o.n with bs:=o.bs}∧Chg (foot A) w w'
theorem Used.no {A:Ar} {V:ArV} {w:World} {e:Int} {a:Option Addr} {cap:Nat} (h:ArOk w A V):Used A V w (outNo V.bs e) (.tuple #[.slice a 0 cap,.int .u64 0,.int .i64 e]) w :=
 ⟨a,cap,rfl,RdS.nil,by show ArOk w A {V.charge A ((0:Nat):Int) with bs:=V.bs}; rw [ArV.charge_zero']; exact h,Chg.refl _ _⟩
end Go.Proofs.YtnaoiegcobineaaGreatDoor
namespace Go.Proofs.YtnaoiegcobineaaGreatDoor
open Go.RowKit
theorem RaOk.keep {w w':World} {r:RA} {q t:Nat} {c:Array Value} {fz:Nat × Nat} (h:RaOk w r) (hq:w.heap[q]? = some (.cells c t fz)) (hc:∀ x ∈ c.toList,∀ z,x ≠ .int .u8 z) (hs:Chg (fun b=>b=q) w w'):RaOk w' r :=
 ⟨h.rd.keepU hq hc hs,h.len,h.lc,h.rng⟩
end Go.Proofs.YtnaoiegcobineaaGreatDoor
namespace Go.Proofs.YtnaoiegcobineaaGreatDoor
open Go.RowKit
theorem RaOk.rdS {w:World} {r:RA} {S:Nat→Prop} (h:RaOk w r) (hs:∀ b off s,r.a=some ⟨b,off,s⟩ → ¬ S b):RdS S .u8 w r.a r.bs:=⟨h.rd,fun b off s e _=>hs b off s e⟩
theorem RaOk.far {w w':World} {r:RA} {S:Nat→Prop} (h:RaOk w r) (hs:∀ b off s,r.a=some ⟨b,off,s⟩ → ¬ S b) (hc:Chg S w w'):RaOk w' r :=
 ⟨((h.rdS hs).chg hc).1,h.len,h.lc,h.rng⟩
end Go.Proofs.YtnaoiegcobineaaGreatDoor
namespace Go.Proofs.YtnaoiegcobineaaGreatDoor
open Go.RowKit
structure Act where
 step:Bool
 at':Int
 n:Int
 a:Option Addr
 cap:Nat
 bs:List Int
structure ActOk (w:World) (x:Act):Prop where
 rd:Rd .u8 w x.a x.bs
 rng:InB x.bs
 len:x.bs.length≤9223372036854775807
theorem ActOk.chg {w w':World} {x:Act} (h:ActOk w x) (hc:Chg None' w w'):ActOk w' x:=⟨h.rd.chg hc,h.rng,h.len⟩
end Go.Proofs.YtnaoiegcobineaaGreatDoor
namespace Go.Proofs.YtnaoiegcobineaaGreatDoor
open Go.RowKit
structure RM where
 ra:RA
 f:Nat
 t:Nat
 size:Nat
 gone:Nat
structure MrOk (w:World) (m:RM):Prop where
 ra:RaOk w m.ra
 pos:1≤m.size
 gone:m.gone≤m.size
 f:m.f+m.size≤m.ra.bs.length
 t:m.t+m.size≤m.ra.bs.length
theorem MrOk.grow {w w':World} {m:RM} (h:MrOk w m) (hc:Chg None' w w'):MrOk w' m:=⟨h.ra.grow hc,h.pos,h.gone,h.f,h.t⟩
def MrTo (m:RM) (w:World) (bs:List Int) (st:Int) (g:Nat) (m':RM) (w':World):Prop :=
 m'.ra.bs=bs∧m'.ra.steps=st∧m'.f=m.f∧m'.t=m.t∧m'.size=m.size∧m'.gone=g∧RaOk w' m'.ra∧Chg None' w w'∧(NewA w m'.ra∨m'.ra.a=m.ra.a)
theorem MrTo.self {m:RM} {w w':World} (h:RaOk w' m.ra) (hc:Chg None' w w'):MrTo m w m.ra.bs m.ra.steps m.gone m w':=⟨rfl,rfl,rfl,rfl,rfl,rfl,h,hc,.inr rfl⟩
def stepB (bs:List Int) (f t g k:Nat):List Int:=if k=0 then bs else cpB bs (t+g) (f+g) k
def wroteB (bs:List Int) (f t g i n:Nat):List Int:=if wroteK i n g=0 then bs else cpB bs (t+i) (f+i) (wroteK i n g)
end Go.Proofs.YtnaoiegcobineaaGreatDoor
namespace Go.Proofs.YtnaoiegcobineaaGreatDoor
open Go.RowKit
theorem stepB_length {bs:List Int} {f t g k size:Nat} (hk:g+k≤size) (hf:f+size≤bs.length) (ht:t+size≤bs.length):(stepB bs f t g k).length=bs.length:=by
 unfold stepB
 split
 ·rfl
 ·exact cpB_length (by omega) (by omega)
end Go.Proofs.YtnaoiegcobineaaGreatDoor
namespace Go.Proofs.YtnaoiegcobineaaGreatDoor
open Go.RowKit
structure ThM where
 size:Int
 q:PlcM
structure MvM where
 who:Int
 pf:Int
 fa:Int
 pt:Int
 ta:Int
 f:Nat
 t:Nat
 size:Nat
 gone:Nat
structure StM where
 keep:List Int
 bs:List Int
 rm:RmM
 th:List (Option ThM)
 mv:List (Option MvM)
def PlcM.plc (q:PlcM):Plc:=⟨q.cls,q.page,q.idx,none,0,q.pages⟩
theorem viewIs_plc (c:Conf) (q:Plc):viewIs c q=viewIs c (plcP q).plc:=by cases q; rfl
theorem viewHolds_plc (c:Conf) (q:Plc):viewHolds c q=viewHolds c (plcP q).plc:=by cases q; rfl
theorem checkM_plc (c:Conf) (q:Plc) (i n:Int):checkM c q i n=checkM c (plcP q).plc i n:=by cases q; rfl
theorem whereM_plc (c:Conf) (q:Plc) (i:Nat):whereM c q i=whereM c (plcP q).plc i:=by cases q; rfl
theorem toldM_plc (c:Conf) (q:Plc) (bs:List Int) (i n:Nat):toldM c q bs i n=toldM c (plcP q).plc bs i n:=by cases q; rfl
theorem layM_plc (c:Conf) (q:Plc) (bs:List Int) (i:Nat) (l:List Int):∀ k,layM c q bs i l k=layM c (plcP q).plc bs i l k
 |0=>rfl
 |k+1=>by unfold layM; rw [layM_plc c q bs i l k,whereM_plc]
theorem chargeM_plc (c:Conf) (q:Plc) (i n:Nat):chargeM c q i n=chargeM c (plcP q).plc i n:=by cases q; rfl
def stMv (s:StM) (k:Int):Option MvM:=if 0≤k then s.mv.getD k.toNat none else none
def stTh (s:StM) (o:Int):Option ThM:=if 0≤o then s.th.getD o.toNat none else none
def dueB (opn keep:Int):Bool:=decide (keep<opn) && decide (keep+1<opn)
def blkAt (c:Conf) (k page idx:Int):Int:=viewAt c ⟨k,page,idx,none,0,[]⟩
def chgTot (s:StM) (n:Int):StM:={s with rm:={s.rm with tot:=charged s.rm.tot n}}
def newMv (c:Conf) (M:RmM) (k:Nat):MvM:=⟨rmOwner M k (rmPlanN M k).1 (rmPlanN M k).2.1,(rmPlanN M k).1,(rmPlanN M k).2.1,(rmPlanN M k).2.2.1,(rmPlanN M k).2.2.2,(blkAt c k (rmPlanN M k).1 (rmPlanN M k).2.1).toNat,(blkAt c k (rmPlanN M k).2.2.1 (rmPlanN M k).2.2.2).toNat,(clsM c k).toNat,0⟩
def begins (s:StM) (k:Nat):Bool:=(stMv s k).isNone && dueB (rmOpen s.rm k:Nat) (s.keep.getD k 0) && rmPlanB s.rm k
def stBegin (c:Conf) (s:StM) (k:Nat):StM:=if begins s k=true then {s with rm:=rmTake s.rm k (rmOwner s.rm k (rmPlanN s.rm k).1 (rmPlanN s.rm k).2.1),mv:=s.mv.set k (some (newMv c s.rm k))} else s
def goN (m:MvM) (n:Int):Nat:=stepK n (m.size - m.gone)
def stSize (s:StM) (o:Int):Int:=match stTh s o with | some t=>t.size | none=>0
def stStep (s:StM) (m:MvM) (n:Int):StM:=chgTot {s with bs:=stepB s.bs m.f m.t m.gone (goN m n)} (goN m n)
def stGo (s:StM) (k:Nat) (n:Int):StM:=match stMv s k with
 |none=>s
 |some m=>if m.gone+goN m n<m.size then {stStep s m n with mv:=s.mv.set k (some {m with gone:=m.gone+goN m n})}
  else {stStep s m n with mv:=s.mv.set k none,th:=s.th.set m.who.toNat (some ⟨stSize s m.who,⟨k,m.pt,m.ta,[]⟩⟩),rm:=rmGive (stStep s m n).rm k m.pf m.fa}
def stFinish (s:StM) (k:Int):StM:=match stMv s k with | none=>s | some m=>stGo s k.toNat m.size
def takesOver (c:Conf) (s:StM) (size:Int):Option MvM:=match stMv s (pickM c.classes size) with
 |some m=>if rmOpen s.rm (pickM c.classes size)=0 then some m else none
 |none=>none
def layQ (c:Conf) (s:StM) (who size:Int):PlcM:=match takesOver c s size with
 |some m=>⟨pickM c.classes size,m.pt,m.ta,[]⟩
 |none=>rmPlaceQ c s.rm who size
def layS (c:Conf) (s:StM) (who size:Int):StM:=match takesOver c s size with
 |some m=>chgTot {s with mv:=s.mv.set (pickM c.classes size).toNat none,rm:=rmOwn s.rm (pickM c.classes size) m.pt m.ta who} 3
 |none=>{s with rm:=rmPlace c s.rm who size}
def stPut (c:Conf) (s:StM) (q:PlcM) (at':Nat) (l:List Int):StM:=chgTot {s with bs:=layM c q.plc s.bs at' l l.length} (chargeM c q.plc at' l.length)
def stLay (c:Conf) (s:StM) (who size:Int):StM :=
 {stPut c (layS c s who size) (layQ c s who size) 0 (zeros (viewHolds c (layQ c s who size).plc).toNat) with th:=s.th.set who.toNat (some ⟨size,layQ c s who size⟩)}
def stClear (c:Conf) (s:StM) (q:PlcM):StM :=
 if q.cls<0 then {s with rm:=rmDrop s.rm q} else
  stGo (stBegin c {s with rm:=rmDrop s.rm q} q.cls.toNat) q.cls.toNat c.step
def ownedE (s:StM) (o:Int):Int:=if o<0∨(s.th.length:Int)≤o then 1 else match stTh s o with | none=>9 | some _=>0
def stFits (c:Conf) (s:StM) (size:Int):Int:=if size<1∨c.most<size then 3 else if (stMv s (pickM c.classes size)).isSome then 0 else rmFits c s.rm size
def stAllocE (c:Conf) (s:StM) (o size:Int):Int:=if ownedE s o=1 then 1 else if ownedE s o=0 then 10 else stFits c s size
def stAlloc (c:Conf) (s:StM) (o size:Int):StM:=if stAllocE c s o size=0 then stLay c s o size else s
def stQ (s:StM) (o:Int):PlcM:=match stTh s o with | some t=>t.q | none=>⟨0,0,0,[]⟩
def stFree (c:Conf) (s:StM) (o:Int):StM:=if ownedE s o≠0 then s else
 stClear c {stFinish s (stQ s o).cls with th:=(stFinish s (stQ s o).cls).th.set o.toNat none} (stQ (stFinish s (stQ s o).cls) o)
def staysB (c:Conf) (old size:Int):Bool:=decide (pickM c.classes old=pickM c.classes size) && (decide (pickM c.classes old ≠ -1) || decide (manyM old c.size=manyM size c.size))
def stWrote (s:StM) (o:Int) (at' n:Nat):StM:=match stMv s (stQ s o).cls with
 |some m=>if m.who=o then chgTot {s with bs:=wroteB s.bs m.f m.t m.gone at' n} (wroteK at' n m.gone) else s
 |none=>s
def stResizeE (c:Conf) (s:StM) (o size:Int):Int:=if ownedE s o≠0 then ownedE s o else if size<1∨c.most<size then 3 else if staysB c (stSize s o) size=true then 0 else stFits c s size
def stSetTh (s:StM) (o:Int) (t:ThM):StM:={s with th:=s.th.set o.toNat (some t)}
def stMoveTo (c:Conf) (s:StM) (o size:Int):StM :=
 let s1:=stFinish s (stQ s o).cls
 let m:=(min (stSize s o) size).toNat
 let s2:=stLay c (chgTot s1 (chargeM c (stQ s1 o).plc 0 m)) o size
 stClear c (stPut c s2 (stQ s2 o) 0 (toldM c (stQ s1 o).plc s1.bs 0 m)) (stQ s1 o)
def stResize (c:Conf) (s:StM) (o size:Int):StM :=
 if stResizeE c s o size≠0 then s
 else if staysB c (stSize s o) size=true then
  (if size<stSize s o then stWrote (stSetTh (stPut c s (stQ s o) size.toNat (zeros (stSize s o - size).toNat)) o ⟨size,stQ s o⟩) o size.toNat (stSize s o - size).toNat
   else stSetTh s o ⟨size,stQ s o⟩)
 else stMoveTo c s o size
def withinE (s:StM) (o at' n:Int):Int:=if ownedE s o≠0 then ownedE s o else if at'<0∨n<0∨stSize s o<n∨stSize s o - n<at' then 8 else 0
def stReadB (c:Conf) (s:StM) (o at' n:Int):List Int:=if withinE s o at' n=0 then toldM c (stQ s o).plc s.bs at'.toNat n.toNat else []
def stRead (c:Conf) (s:StM) (o at' n:Int):StM:=if withinE s o at' n=0 then chgTot s (chargeM c (stQ s o).plc at'.toNat n.toNat) else s
def stWrite (c:Conf) (s:StM) (o at':Int) (l:List Int):StM:=if withinE s o at' l.length=0 then stWrote (stPut c s (stQ s o) at'.toNat l) o at'.toNat l.length else s
def tickK (c:Conf) (x:StM × Int) (k:Nat):StM × Int :=
 if x.2<1 then x else match stMv (stBegin c x.1 k) k with
  |none=>(stBegin c x.1 k,x.2)
  |some m=>(stGo (stBegin c x.1 k) k x.2,x.2 - goN m x.2)
def tickTo (c:Conf) (s:StM) (n:Nat):StM × Int:=(List.range n).foldl (tickK c) (s,c.step)
def stTick (c:Conf) (s:StM):StM:=(tickTo c s s.mv.length).1
def stSetE (s:StM) (k keep:Int):Int:=if k<0∨(s.mv.length:Int)≤k∨keep<0∨1024<keep then 1 else 0
def stSet (s:StM) (k keep:Int):StM:=if stSetE s k keep=0 then {s with keep:=s.keep.set k.toNat keep} else s
def stLeft (s:StM) (k:Int):Nat:=match stMv s k with | some m=>m.size - m.gone | none=>0
def thSizes (l:List (Option ThM)):List Int:=l.filterMap fun t=>t.map (·.size)
def stBytes (s:StM):Int:=(thSizes s.th).sum
def newSt (c:Conf):StM:=⟨c.keep,zeros (c.size*c.pages).toNat,newRm c 0,List.replicate c.slots.toNat none,List.replicate c.classes.length none⟩
structure StM.OkP (c:Conf) (s:StM) (pd:Option (Nat × PlcM)):Prop where
 may:mayB c=true
 rm:RmAll c s.rm
 kl:s.keep.length=c.classes.length
 kr:∀ x ∈ s.keep,0≤x∧x≤1024
 bl:(s.bs.length:Int)=c.size*c.pages
 bi:InB s.bs
 tl:(s.th.length:Int)=c.slots
 ml:s.mv.length=c.classes.length
 size:∀ (o:Nat) t,s.th[o]? = some (some t)→1≤t.size∧t.size≤c.most
 small:∀ (o:Nat) t,s.th[o]? = some (some t)→pickM c.classes t.size ≠ -1→t.q.cls=pickM c.classes t.size∧t.q.pages = []∧rmOwner s.rm t.q.cls t.q.page t.q.idx=o
 large:∀ (o:Nat) t,s.th[o]? = some (some t)→pickM c.classes t.size = -1 → ∃ n r,(n,r) ∈ s.rm.lg∧t.q=⟨-1,(n:Nat),0,natsI r⟩∧(r.length+1:Int)=allM t.size c.size
 linj:∀ (o o':Nat) t t',s.th[o]? = some (some t)→s.th[o']? = some (some t')→t.q.cls = -1→t'.q.cls = -1→t.q.page=t'.q.page→o=o'
 mv:∀ (k:Nat) m,s.mv[k]? = some (some m)→(∃ (o:Nat),∃ t,m.who=o∧s.th[o]? = some (some t)∧t.q=⟨(k:Nat),m.pf,m.fa,[]⟩)∧rmOwner s.rm k m.pt m.ta=m.who ∧ ¬ (m.pf=m.pt∧m.fa=m.ta)∧(m.f:Int)=blkAt c k m.pf m.fa∧(m.t:Int)=blkAt c k m.pt m.ta∧(m.size:Int)=clsM c k∧m.gone<m.size
 own:∀ k n a:Int,rmOwner s.rm k n a ≠ -1→(∃ (o:Nat),∃ t,rmOwner s.rm k n a=o∧s.th[o]? = some (some t)∧(t.q=⟨k,n,a,[]⟩ ∨ ∃ m,stMv s k=some m∧m.pt=n∧m.ta=a)) ∨ ∃ o,pd=some (o,⟨k,n,a,[]⟩)
 ps:∀ o q,pd=some (o,q)→q.cls ≠ -1→q.pages = []∧rmOwner s.rm q.cls q.page q.idx=o∧(∀ m,stMv s q.cls=some m → ¬ (m.pt=q.page∧m.ta=q.idx)) ∧ ∀ (o':Nat) t,s.th[o']? = some (some t)→t.q≠q
 pl:∀ o q,pd=some (o,q)→q.cls = -1 → ∃ n r,(n,r) ∈ s.rm.lg∧q=⟨-1,(n:Nat),0,natsI r⟩ ∧ ∀ (o':Nat) t,s.th[o']? = some (some t)→t.q.cls = -1→t.q.page≠(n:Nat)
abbrev StM.Ok (c:Conf) (s:StM):Prop:=s.OkP c none
end Go.Proofs.YtnaoiegcobineaaGreatDoor
namespace Go.Proofs.YtnaoiegcobineaaGreatDoor
open Go.RowKit
section
variable {c:Conf} {s:StM} {pd:Option (Nat × PlcM)}
theorem mv_some {k:Int} {m:MvM} (h:stMv s k=some m):∃ j:Nat,k=j∧j<s.mv.length∧s.mv[j]? = some (some m):=by
 unfold stMv at h
 split at h
 ·rename_i h0
  obtain ⟨j,rfl⟩:=Int.eq_ofNat_of_zero_le h0
  rw [Int.toNat_natCast,List.getD_eq_getElem?_getD] at h
  cases hg:s.mv[j]? with
  |none=>rw [hg] at h; cases h
  |some x =>
   rw [hg] at h
   have:x=some m:=h
   subst this
   exact ⟨j,rfl,(List.getElem?_eq_some_iff.1 hg).1,hg⟩
 ·cases h
theorem mv_of {j:Nat} {m:MvM} (h:s.mv[j]? = some (some m)):stMv s (j:Nat)=some m:=by
 unfold stMv
 rw [if_pos (by omega),Int.toNat_natCast,List.getD_eq_getElem?_getD,h]; rfl
theorem th_some {o:Int} {t:ThM} (h:stTh s o=some t):∃ j:Nat,o=j∧j<s.th.length∧s.th[j]? = some (some t):=by
 unfold stTh at h
 split at h
 ·rename_i h0
  obtain ⟨j,rfl⟩:=Int.eq_ofNat_of_zero_le h0
  rw [Int.toNat_natCast,List.getD_eq_getElem?_getD] at h
  cases hg:s.th[j]? with
  |none=>rw [hg] at h; cases h
  |some x =>
   rw [hg] at h
   have:x=some t:=h
   subst this
   exact ⟨j,rfl,(List.getElem?_eq_some_iff.1 hg).1,hg⟩
 ·cases h
theorem th_of {j:Nat} {t:ThM} (h:s.th[j]? = some (some t)):stTh s (j:Nat)=some t:=by
 unfold stTh
 rw [if_pos (by omega),Int.toNat_natCast,List.getD_eq_getElem?_getD,h]; rfl
theorem set_opt {α:Type} {l:List (Option α)} {k j:Nat} {v:Option α} {x:α} (h:(l.set k v)[j]? = some (some x)):(j=k∧v=some x∧k<l.length)∨(j≠k∧l[j]? = some (some x)):=by
 by_cases e:k=j
 ·subst e
  by_cases hk:k<l.length
  ·rw [List.getElem?_set_self hk] at h
   exact .inl ⟨rfl,Option.some.inj h,hk⟩
  ·rw [List.getElem?_eq_none (by rw [List.length_set]; omega)] at h; cases h
 ·rw [List.getElem?_set_ne e] at h; exact .inr ⟨fun h=>e h.symm,h⟩
theorem mv_set {k:Nat} {v:Option MvM} {j:Int} {m:MvM} {s':StM} (hs:s'.mv=s.mv.set k v) (h:stMv s' j=some m):(j=k∧v=some m)∨(j≠k∧stMv s j=some m):=by
 obtain ⟨i,rfl,_,hi⟩:=mv_some h
 rw [hs] at hi
 rcases set_opt hi with ⟨rfl,e,_⟩ | ⟨hne,hi⟩
 ·exact .inl ⟨rfl,e⟩
 ·exact .inr ⟨by omega,mv_of hi⟩
theorem mv_keep {k:Nat} {v:Option MvM} {j:Int} {m:MvM} {s':StM} (hs:s'.mv=s.mv.set k v) (hj:j≠k) (h:stMv s j=some m):stMv s' j=some m:=by
 obtain ⟨i,rfl,_,hi⟩:=mv_some h
 refine mv_of ?_
 rw [hs,List.getElem?_set_ne (by omega)]; exact hi
theorem blk_is (h:mayB c=true) {k n a:Int} (hk:0≤k∧k<c.classes.length) (hn:0≤n∧n<c.pages) (ha:0≤a∧a<blocksM c k):viewIs c ⟨k,n,a,none,0,[]⟩=true:=by
 unfold viewIs
 rw [if_neg (by simp only; omega)]
 simp only [Bool.and_eq_true,inT_iff]
 exact ⟨⟨hk,hn⟩,ha⟩
theorem owner_is (h:s.OkP c pd) {k n a:Int} (ho:rmOwner s.rm k n a ≠ -1):viewIs c ⟨k,n,a,none,0,[]⟩=true∧0≤k∧k<c.classes.length:=by
 obtain ⟨j,x,rfl,hj,_,_,h1,h2,h3,h4⟩:=rmOwner_in h.rm ho
 exact ⟨blk_is h.may (by omega) ⟨h1,h2⟩ ⟨h3,h4⟩,by omega,by omega⟩
theorem blk_pos (h:mayB c=true) {k n a:Int} (hv:viewIs c ⟨k,n,a,none,0,[]⟩=true) (hk:k ≠ -1):0≤blkAt c k n a∧blkAt c k n a+clsM c k≤c.size*c.pages∧8≤clsM c k∧clsM c k≤c.size:=by
 obtain ⟨j,pg,ix,e1,e2,e3,g1,g2,g3,g4,g5,g6,g7,g8⟩:=is_small h hv hk
 unfold blkAt viewAt
 rw [if_pos ⟨hv,hk⟩]
 simp only at e1 e2 e3
 subst e1
 subst e2
 subst e3
 simp only
 omega
theorem StM.OkP.bytes (h:s.OkP c pd) {bs:List Int} (hl:bs.length=s.bs.length) (hb:InB bs) (n:Int):(chgTot {s with bs:=bs} n).OkP c pd :=
 ⟨h.may,h.rm.charge n,h.kl,h.kr,by show (bs.length:Int)=_; rw [hl]; exact h.bl,hb,h.tl,h.ml,h.size,h.small,h.large,h.linj,h.mv,h.own,h.ps,h.pl⟩
theorem StM.OkP.tot (h:s.OkP c pd) (n:Int):(chgTot s n).OkP c pd:=h.bytes (bs:=s.bs) rfl h.bi n
theorem cls_small (h:s.OkP c pd) {o:Nat} {t:ThM} (ht:s.th[o]? = some (some t)) (hc:t.q.cls ≠ -1):pickM c.classes t.size ≠ -1:=fun e=>by
 obtain ⟨n,r,_,e2,_⟩:=h.large o t ht e
 rw [e2] at hc
 exact hc rfl
theorem rmTake_lg (M:RmM) (k who:Int):(rmTake M k who).lg=M.lg:=by unfold rmTake; split; rfl; split <;> rfl
theorem rmGive_lg (M:RmM) (k n i:Int):(rmGive M k n i).lg=M.lg:=by unfold rmGive; split; rfl; split <;> rfl
theorem rmOwn_lg (M:RmM) (k n i who:Int):(rmOwn M k n i who).lg=M.lg:=by unfold rmOwn; split <;> rfl
structure BeginF (c:Conf) (s:StM) (k:Nat):Prop where
 plan:PlanF s.rm k
 kl:k<c.classes.length
 nomv:stMv s (k:Nat)=none
 who:∃ (o:Nat),∃ t,rmOwner s.rm k (rmPlanN s.rm k).1 (rmPlanN s.rm k).2.1=o∧s.th[o]? = some (some t)∧t.q=⟨(k:Nat),(rmPlanN s.rm k).1,(rmPlanN s.rm k).2.1,[]⟩
 f:viewIs c ⟨(k:Nat),(rmPlanN s.rm k).1,(rmPlanN s.rm k).2.1,none,0,[]⟩=true
 t:viewIs c ⟨(k:Nat),(rmPlanN s.rm k).2.2.1,(rmPlanN s.rm k).2.2.2,none,0,[]⟩=true
theorem begin_facts (h:s.Ok c) {k:Nat} (hB:begins s k=true):BeginF c s k:=by
 unfold begins at hB
 simp only [Bool.and_eq_true] at hB
 obtain ⟨⟨h1,h2⟩,h3⟩:=hB
 have P:=plan_facts h.rm h3
 have hn:stMv s (k:Nat)=Option.none:=by simpa using h1
 obtain ⟨f1,f2,f3⟩:=owner_is h P.own
 have hwho:∃ (o:Nat),∃ t,rmOwner s.rm k (rmPlanN s.rm k).1 (rmPlanN s.rm k).2.1=o∧s.th[o]? = some (some t)∧t.q=⟨(k:Nat),(rmPlanN s.rm k).1,(rmPlanN s.rm k).2.1,[]⟩:=by
  rcases h.own _ _ _ P.own with ⟨o,t,g1,g2,g3 | ⟨m,g3,_⟩⟩ | ⟨o,g⟩
  ·exact ⟨o,t,g1,g2,g3⟩
  ·rw [hn] at g3; cases g3
  ·cases g
 obtain ⟨o,t,g1,g2,g3⟩:=hwho
 refine ⟨P,by omega,hn,⟨o,t,g1,g2,g3⟩,f1,?_⟩
 obtain ⟨T1,T2⟩:=take_ownerM h.rm (P.e (o:Int) (by omega))
 rw [P.n _ (by omega),P.a _ (by omega)] at T1
 have h4:=T1 k (rmPlanN s.rm k).2.2.1 (rmPlanN s.rm k).2.2.2
 rw [if_pos ⟨rfl,rfl,rfl⟩] at h4
 obtain ⟨j,x,e,hj,_,_,a1,a2,a3,a4⟩:=rmOwner_in (h.rm.take k (o:Int)) (k:=k) (n:=(rmPlanN s.rm k).2.2.1) (a:=(rmPlanN s.rm k).2.2.2) (by rw [h4]; omega)
 exact blk_is h.may (by omega) ⟨a1,a2⟩ ⟨a3,a4⟩
theorem StM.OkP.begin (h:s.Ok c) (k:Nat):(stBegin c s k).Ok c:=by
 unfold stBegin
 by_cases hB:begins s k=true
 ·rw [if_pos hB]
  obtain ⟨P,hk,hn,⟨o,t,w1,w2,w3⟩,hf,ht⟩:=begin_facts h hB
  rw [w1]
  obtain ⟨T1,T2⟩:=take_ownerM h.rm (P.e (o:Int) (by omega))
  rw [P.n _ (by omega),P.a _ (by omega)] at T1 T2
  obtain ⟨pf,fa,pt,ta⟩:True∧True∧True∧True:=⟨trivial,trivial,trivial,trivial⟩
  have hmv:∀ (s':StM),s'.mv=s.mv.set k (some (newMv c s.rm k)) → ∀ j m,stMv s j=some m→stMv s' j=some m:=fun s' hs j m hj=>mv_keep hs (fun e=>by rw [e,hn] at hj; cases hj) hj
  have keep:∀ {j n a:Int},rmOwner s.rm j n a ≠ -1→rmOwner (rmTake s.rm k o) j n a=rmOwner s.rm j n a:=fun hne=>by
   rw [T1,if_neg]
   rintro ⟨rfl,rfl,rfl⟩
   exact hne T2
  refine ⟨h.may,h.rm.take _ _,h.kl,h.kr,h.bl,h.bi,h.tl,by show (s.mv.set _ _).length=_; rw [List.length_set]; exact h.ml,h.size,fun o1 t1 h1 h2 => ?_,fun o1 t1 h1 h2 => ?_,h.linj,fun j m hj => ?_,fun j n a hj => .inl ?_,(by rintro _ _ ⟨⟩),(by rintro _ _ ⟨⟩)⟩
  ·obtain ⟨a1,a2,a3⟩:=h.small o1 t1 h1 h2
   exact ⟨a1,a2,(keep (by rw [a3]; omega)).trans a3⟩
  ·show ∃ n r,(n,r) ∈ (rmTake s.rm k o).lg∧_
   rw [rmTake_lg]
   exact h.large o1 t1 h1 h2
  ·rcases set_opt hj with ⟨rfl,e,_⟩ | ⟨hne,hj⟩
   ·have em:=Option.some.inj e
    subst em
    obtain ⟨p1,p2,p3,p4⟩:=blk_pos h.may hf (by omega)
    obtain ⟨q1,q2,_,_⟩:=blk_pos h.may ht (by omega)
    refine ⟨⟨o,t,w1,w2,w3⟩,?_,fun e=>P.ne e.1,?_,?_,?_,?_⟩
    ·show rmOwner (rmTake s.rm j o) j _ _=rmOwner s.rm j _ _
     rw [w1,T1,if_pos ⟨rfl,rfl,rfl⟩]
    ·show (((blkAt c j _ _).toNat:Nat):Int)=_
     exact Int.toNat_of_nonneg p1
    ·show (((blkAt c j _ _).toNat:Nat):Int)=_
     exact Int.toNat_of_nonneg q1
    ·show (((clsM c j).toNat:Nat):Int)=_
     exact Int.toNat_of_nonneg (by omega)
    ·show 0<(clsM c j).toNat
     omega
   ·obtain ⟨a1,a2,a3⟩:=h.mv j m hj
    have a0:=a1
    obtain ⟨o1,t1,b1,_⟩:=a1
    exact ⟨a0,(keep (by rw [a2,b1]; omega)).trans a2,a3⟩
  ·by_cases e:j=k∧n=(rmPlanN s.rm k).2.2.1∧a=(rmPlanN s.rm k).2.2.2
   ·obtain ⟨rfl,rfl,rfl⟩:=e
    refine ⟨o,t,?_,w2,.inr ⟨newMv c s.rm k,?_,rfl,rfl⟩⟩
    ·show rmOwner (rmTake s.rm k o) k _ _=_
     rw [T1,if_pos ⟨rfl,rfl,rfl⟩]
    ·refine mv_of ?_
     show (s.mv.set k _)[k]? = _
     rw [List.getElem?_set_self (by rw [h.ml]; exact hk)]
   ·have e1:rmOwner (rmTake s.rm k o) j n a=rmOwner s.rm j n a:=by rw [T1,if_neg e]
    replace hj:rmOwner (rmTake s.rm k o) j n a ≠ -1:=hj
    rw [e1] at hj
    show ∃ (o1:Nat),∃ t,rmOwner (rmTake s.rm k o) j n a=o1∧_
    rw [e1]
    rcases h.own j n a hj with ⟨o1,t1,g1,g2,g3 | ⟨m,g3,g4⟩⟩ | ⟨_,g⟩
    ·exact ⟨o1,t1,g1,g2,.inl g3⟩
    ·exact ⟨o1,t1,g1,g2,.inr ⟨m,hmv _ rfl j m g3,g4⟩⟩
    ·cases g
 ·rw [if_neg hB]; exact h
theorem mv_lies (h:s.OkP c pd) {k:Nat} {m:MvM} (hm:s.mv[k]? = some (some m)):m.f+m.size≤s.bs.length∧m.t+m.size≤s.bs.length∧0<m.size∧(m.f+m.size≤m.t∨m.t+m.size≤m.f):=by
 obtain ⟨⟨o,t,e1,e2,e3⟩,a2,a3,a4,a5,a6,a7⟩:=h.mv k m hm
 have hk:k<c.classes.length:=by have:=(List.getElem?_eq_some_iff.1 hm).1; have:=h.ml; omega
 have hsm:=h.small o t e2 (cls_small h e2 (by rw [e3]; simp only; omega))
 rw [e3] at hsm
 have hv1:=(owner_is h (k:=(k:Nat)) (n:=m.pf) (a:=m.fa) (by rw [hsm.2.2]; omega)).1
 have hv2:=(owner_is h (k:=(k:Nat)) (n:=m.pt) (a:=m.ta) (by rw [a2,e1]; omega)).1
 have b1:=blk_pos h.may hv1 (by omega)
 have b2:=blk_pos h.may hv2 (by omega)
 have hbl:=h.bl
 refine ⟨by omega,by omega,by omega,?_⟩
 obtain ⟨j1,p1,i1,c1,c2,c3,d1,d2,d3,d4,d5,d6,d7,d8⟩:=is_small h.may hv1 (by simp only; omega)
 obtain ⟨j2,p2,i2,f1,f2,f3,g1,g2,g3,g4,g5,g6,g7,g8⟩:=is_small h.may hv2 (by simp only; omega)
 simp only at c1 c2 c3 f1 f2 f3
 have ej1:j1=k:=by omega
 have ej2:j2=k:=by omega
 subst ej1
 subst ej2
 have x1:blkAt c (j2:Nat) m.pf m.fa=(p1:Int)*c.size+(i1:Int)*clsM c (j2:Nat):=by unfold blkAt viewAt; rw [if_pos ⟨hv1,by simp only; omega⟩]; simp only; rw [c2,c3]
 have x2:blkAt c (j2:Nat) m.pt m.ta=(p2:Int)*c.size+(i2:Int)*clsM c (j2:Nat):=by unfold blkAt viewAt; rw [if_pos ⟨hv2,by simp only; omega⟩]; simp only; rw [f2,f3]
 have hsz:0≤c.size:=by have:=(mayFacts h.may).1; omega
 rcases Nat.lt_trichotomy p1 p2 with hlt | heq | hgt
 ·have:((p1:Int)+1)*c.size≤p2*c.size:=Int.mul_le_mul_of_nonneg_right (by omega) hsz
  rw [Int.add_mul,Int.one_mul] at this
  omega
 ·subst heq
  rcases Nat.lt_trichotomy i1 i2 with hlt | heq | hgt
  ·have:((i1:Int)+1)*clsM c (j2:Nat)≤i2*clsM c (j2:Nat):=Int.mul_le_mul_of_nonneg_right (by omega) (by omega)
   rw [Int.add_mul,Int.one_mul] at this
   omega
  ·exact absurd ⟨by omega,by omega⟩ a3
  ·have:((i2:Int)+1)*clsM c (j2:Nat)≤i1*clsM c (j2:Nat):=Int.mul_le_mul_of_nonneg_right (by omega) (by omega)
   rw [Int.add_mul,Int.one_mul] at this
   omega
 ·have:((p2:Int)+1)*c.size≤p1*c.size:=Int.mul_le_mul_of_nonneg_right (by omega) hsz
  rw [Int.add_mul,Int.one_mul] at this
  omega
theorem cpB_in {bs:List Int} {t f n:Nat} (h:InB bs):InB (cpB bs t f n):=fun x hx=>by
 rcases wrB_mem hx with hx | hx
 ·exact h x hx
 ·unfold sub at hx
  exact h x (List.mem_of_mem_drop (List.mem_of_mem_take hx))
theorem goN_le (m:MvM) (n:Int):goN m n≤m.size - m.gone:=by unfold goN stepK; omega
theorem StM.OkP.step (h:s.OkP c pd) {k:Nat} {m:MvM} (hm:s.mv[k]? = some (some m)) (n:Int):(stStep s m n).OkP c pd:=by
 obtain ⟨h1,h2,h3,_⟩:=mv_lies h hm
 have hg:=goN_le m n
 have hgl:=(h.mv k m hm).2.2.2.2.2.2
 refine h.bytes ?_ ?_ _
 ·exact stepB_length (size:=m.size) (by omega) h1 h2
 ·unfold stepB
  split
  ·exact h.bi
  ·exact cpB_in h.bi
theorem StM.OkP.go (h:s.Ok c) (k:Nat) (n:Int):(stGo s k n).Ok c:=by
 unfold stGo
 cases hg:stMv s (k:Nat) with
 |none=>exact h
 |some m =>
  obtain ⟨j,ej,hj,hm⟩:=mv_some hg
  obtain rfl:k=j:=by omega
  have hs:=StM.OkP.step h hm n
  obtain ⟨⟨o,t,e1,e2,e3⟩,a2,a3,a4,a5,a6,a7⟩:=h.mv k m hm
  have hkl:k<s.mv.length:=hj
  simp only
  by_cases hlt:m.gone+goN m n<m.size
  ·rw [if_pos hlt]
   have hmv:∀ j m',stMv s j=some m' → ∃ m2,stMv {stStep s m n with mv:=s.mv.set k (some {m with gone:=m.gone+goN m n})} j=some m2∧m2.pt=m'.pt∧m2.ta=m'.ta:=fun j m' hj=>by
    by_cases e:j=k
    ·subst e
     rw [hg] at hj
     cases hj
     refine ⟨{m with gone:=m.gone+goN m n},mv_of ?_,rfl,rfl⟩
     show (s.mv.set k _)[k]? = _
     rw [List.getElem?_set_self hkl]
    ·exact ⟨m',mv_keep (s:=s) rfl e hj,rfl,rfl⟩
   refine ⟨h.may,hs.rm,h.kl,h.kr,hs.bl,hs.bi,h.tl,by show (s.mv.set _ _).length=_; rw [List.length_set]; exact h.ml,h.size,h.small,h.large,h.linj,fun j m' hj => ?_,fun j n' a hj => ?_,(by rintro _ _ ⟨⟩),(by rintro _ _ ⟨⟩)⟩
   ·rcases set_opt hj with ⟨rfl,e,_⟩ | ⟨hne,hj⟩
    ·have em:=Option.some.inj e
     subst em
     exact ⟨⟨o,t,e1,e2,e3⟩,a2,a3,a4,a5,a6,hlt⟩
    ·exact h.mv j m' hj
   ·rcases h.own j n' a hj with ⟨o1,t1,g1,g2,g3 | ⟨m',g3,g4,g5⟩⟩ | ⟨_,g⟩
    ·exact .inl ⟨o1,t1,g1,g2,.inl g3⟩
    ·obtain ⟨m2,b1,b2,b3⟩:=hmv j m' g3
     exact .inl ⟨o1,t1,g1,g2,.inr ⟨m2,b1,b2.trans g4,b3.trans g5⟩⟩
    ·cases g
  ·rw [if_neg hlt]
   have hpk:=cls_small h e2 (by rw [e3]; simp only; omega)
   obtain ⟨s1,s2,s3⟩:=h.small o t e2 hpk
   rw [e3] at s1 s3
   simp only at s1 s3
   have hsR:(stStep s m n).rm={s.rm with tot:=charged s.rm.tot (goN m n)}:=rfl
   have hro:∀ j n' a,rmOwner (stStep s m n).rm j n' a=rmOwner s.rm j n' a:=fun _ _ _=>rfl
   obtain ⟨G1,G2⟩:=give_ownerM hs.rm (k:=(k:Nat)) (n:=m.pf) (i:=m.fa) (by rw [hro,s3]; omega)
   have keep:∀ {j n' a:Int},¬ (j=k∧n'=m.pf∧a=m.fa)→rmOwner (rmGive (stStep s m n).rm k m.pf m.fa) j n' a=rmOwner s.rm j n' a:=fun hne=>by rw [G2,if_neg hne]; rfl
   have hwn:m.who.toNat=o:=by omega
   have hol:o<s.th.length:=(List.getElem?_eq_some_iff.1 e2).1
   have hsz:stSize s m.who=t.size:=by unfold stSize; rw [e1,th_of e2]
   rw [hwn,hsz]
   have tset:∀ {o1:Nat} {t1:ThM},(s.th.set o (some ⟨t.size,⟨(k:Nat),m.pt,m.ta,[]⟩⟩))[o1]? = some (some t1)→(o1=o∧t1=⟨t.size,⟨(k:Nat),m.pt,m.ta,[]⟩⟩)∨(o1≠o∧s.th[o1]? = some (some t1)):=fun h=>by
    rcases set_opt h with ⟨a,b,_⟩ | hb
    ·exact .inl ⟨a,(Option.some.inj b).symm⟩
    ·exact .inr hb
   have tkeep:∀ {o1:Nat} {t1:ThM},o1≠o→s.th[o1]? = some (some t1)→(s.th.set o (some ⟨t.size,⟨(k:Nat),m.pt,m.ta,[]⟩⟩))[o1]? = some (some t1):=fun hne h=>by rw [List.getElem?_set_ne (Ne.symm hne)]; exact h
   have tnew:(s.th.set o (some ⟨t.size,⟨(k:Nat),m.pt,m.ta,[]⟩⟩))[o]? = some (some ⟨t.size,⟨(k:Nat),m.pt,m.ta,[]⟩⟩):=by rw [List.getElem?_set_self hol]
   refine ⟨h.may,hs.rm.give _ _ _,h.kl,h.kr,hs.bl,hs.bi,by show ((s.th.set _ _).length:Int)=_; rw [List.length_set]; exact h.tl,by show (s.mv.set _ _).length=_; rw [List.length_set]; exact h.ml,fun o1 t1 h1 => ?_,fun o1 t1 h1 h2 => ?_,fun o1 t1 h1 h2 => ?_,fun o1 o2 t1 t2 h1 h2 c1 c2 hp => ?_,fun j m' hj => ?_,fun j n' a hj => .inl ?_,(by rintro _ _ ⟨⟩),(by rintro _ _ ⟨⟩)⟩
   ·rcases tset h1 with ⟨rfl,rfl⟩ | ⟨_,h1⟩
    ·exact h.size o1 t e2
    ·exact h.size o1 t1 h1
   ·rcases tset h1 with ⟨rfl,rfl⟩ | ⟨hne,h1⟩
    ·refine ⟨s1,rfl,?_⟩
     refine (keep ?_).trans (a2.trans e1)
     rintro ⟨_,b1,b2⟩
     exact a3 ⟨b1.symm,b2.symm⟩
    ·obtain ⟨b1,b2,b3⟩:=h.small o1 t1 h1 h2
     refine ⟨b1,b2,(keep ?_).trans b3⟩
     rintro ⟨d1,d2,d3⟩
     rw [d1,d2,d3,s3] at b3
     omega
   ·show ∃ n' r,(n',r) ∈ (rmGive (stStep s m n).rm k m.pf m.fa).lg∧_
    rw [rmGive_lg]
    rcases tset h1 with ⟨rfl,rfl⟩ | ⟨_,h1⟩
    ·exact absurd h2 hpk
    ·exact h.large o1 t1 h1 h2
   ·rcases tset h1 with ⟨rfl,rfl⟩ | ⟨_,h1⟩
    ·exact absurd c1 (by simp only; omega)
    ·rcases tset h2 with ⟨rfl,rfl⟩ | ⟨_,h2⟩
     ·exact absurd c2 (by simp only; omega)
     ·exact h.linj o1 o2 t1 t2 h1 h2 c1 c2 hp
   ·rcases set_opt hj with ⟨_,e,_⟩ | ⟨hne,hj⟩
    ·cases e
    ·obtain ⟨⟨o1,t1,b1,b2,b3⟩,c2,c3⟩:=h.mv j m' hj
     have hno:o1≠o:=fun e=>by
      subst e
      rw [e2] at b2
      cases b2
      rw [e3] at b3
      have:=congrArg PlcM.cls b3
      simp only at this
      omega
     refine ⟨⟨o1,t1,b1,tkeep hno b2,b3⟩,(keep ?_).trans c2,c3⟩
     rintro ⟨d,_⟩
     omega
   ·replace hj:rmOwner (rmGive (stStep s m n).rm k m.pf m.fa) j n' a ≠ -1:=hj
    have hne:¬ (j=k∧n'=m.pf∧a=m.fa):=fun e=>by rw [G2,if_pos e] at hj; exact hj rfl
    show ∃ (o1:Nat),∃ t1,rmOwner (rmGive (stStep s m n).rm k m.pf m.fa) j n' a=o1∧_
    rw [keep hne] at hj ⊢
    rcases h.own j n' a hj with ⟨o1,t1,g1,g2,g3 | ⟨m',g3,g4,g5⟩⟩ | ⟨_,g⟩
    ·have hno:o1≠o:=fun e=>by
      subst e
      rw [e2] at g2
      cases g2
      rw [e3] at g3
      exact hne ⟨(congrArg PlcM.cls g3).symm,(congrArg PlcM.page g3).symm,(congrArg PlcM.idx g3).symm⟩
     exact ⟨o1,t1,g1,tkeep hno g2,.inl g3⟩
    ·by_cases ek:j=k
     ·subst ek
      rw [hg] at g3
      cases g3
      have:(o1:Int)=o:=by rw [← g1,← g4,← g5,a2,e1]
      obtain rfl:o1=o:=by omega
      exact ⟨o1,_,g1,tnew,.inl (by rw [g4,g5])⟩
     ·obtain ⟨i,ei,_,hi⟩:=mv_some g3
      subst ei
      obtain ⟨⟨o2,t2,b1,b2,b3⟩,c2,_⟩:=h.mv i m' hi
      have h12:o2=o1:=by
       have:(o2:Int)=o1:=by rw [← b1,← c2,g4,g5]; exact g1
       omega
      subst h12
      have hno:o2≠o:=fun e=>by
       subst e
       rw [e2] at b2
       cases b2
       rw [e3] at b3
       have:=congrArg PlcM.cls b3
       simp only at this
       omega
      exact ⟨o2,t1,g1,tkeep hno g2,.inr ⟨m',mv_keep (s:=s) rfl ek g3,g4,g5⟩⟩
    ·cases g
theorem StM.OkP.finish (h:s.Ok c) (k:Int):(stFinish s k).Ok c:=by
 unfold stFinish
 split
 ·exact h
 ·exact StM.OkP.go h _ _
end
end Go.Proofs.YtnaoiegcobineaaGreatDoor
namespace Go.Proofs.YtnaoiegcobineaaGreatDoor
open Go.RowKit
section
variable {c:Conf} {s:StM} {pd:Option (Nat × PlcM)}
theorem layM_inB {q:Plc} {bs l:List Int} {i:Nat} (hb:InB bs) (hl:InB l):∀ k,InB (layM c q bs i l k)
 |0=>hb
 |k+1=>fun x hx=>by
  unfold layM at hx
  rcases List.mem_or_eq_of_mem_set hx with hx | rfl
  ·exact layM_inB hb hl k x hx
  ·rw [List.getD_eq_getElem?_getD]
   cases hg:l[k]? with
   |none=>exact ⟨Int.le_refl _,by decide⟩
   |some y=>exact hl y (List.mem_of_getElem? hg)
theorem zeros_in (n:Nat):InB (zeros n):=fun x hx=>by
 unfold zeros at hx
 rw [List.mem_replicate] at hx
 omega
theorem StM.OkP.put (h:s.OkP c pd) (q:PlcM) (i:Nat) {l:List Int} (hl:InB l):(stPut c s q i l).OkP c pd :=
 h.bytes (layM_len _ _ _ _ _ _) (layM_inB h.bi hl _) _
theorem rmPlace_small {M:RmM} {who size:Int} (hw:0≤who) (hf:rmFits c M size=0) (hp:pickM c.classes size ≠ -1):rmPlace c M who size=rmTake M (pickM c.classes size) who∧rmPlaceQ c M who size=⟨pickM c.classes size,rmTakeN M (pickM c.classes size) who,rmTakeA M (pickM c.classes size) who,[]⟩∧rmPlaceE c M who size=rmTakeE M (pickM c.classes size) who:=by
 refine ⟨?_,?_,?_⟩
 ·unfold rmPlace; rw [if_neg (by omega),if_neg (by omega),if_neg hp]
 ·unfold rmPlaceQ; rw [if_neg (by omega),if_neg (by omega),if_neg hp]
 ·unfold rmPlaceE; rw [if_neg (by omega),if_neg (by omega),if_neg hp]
theorem rmPlace_large {M:RmM} {who size:Int} (hw:0≤who) (hf:rmFits c M size=0) (hp:pickM c.classes size = -1):rmPlace c M who size=rmBig M (allM size c.size).toNat∧rmPlaceQ c M who size=⟨-1,(M.pl.free.getD 0 0:Nat),0,natsI (M.pl.free.take (allM size c.size).toNat).tail⟩:=by
 refine ⟨?_,?_⟩
 ·unfold rmPlace; rw [if_neg (by omega),if_neg (by omega),if_pos hp]
 ·unfold rmPlaceQ; rw [if_neg (by omega),if_neg (by omega),if_pos hp]
theorem fits_cases {size:Int} (hf:stFits c s size=0):(1≤size∧size≤c.most)∧(takesOver c s size=none→rmFits c s.rm size=0):=by
 unfold stFits at hf
 split at hf
 ·exact absurd hf (by decide)
 ·rename_i hr
  refine ⟨by omega,fun hn => ?_⟩
  split at hf
  ·rename_i hs
   unfold takesOver at hn
   cases hm:stMv s (pickM c.classes size) with
   |none=>rw [hm] at hs; cases hs
   |some m =>
    rw [hm] at hn
    simp only at hn
    split at hn
    ·cases hn
    ·rename_i ho
     obtain ⟨j,ej,_⟩:=mv_some hm
     unfold rmFits
     rw [if_neg hr,if_neg]
     unfold rmNeed
     rw [if_neg (by omega)]
     omega
  ·exact hf
theorem tset {l:List (Option ThM)} {o o1:Nat} {t t1:ThM} (h:(l.set o (some t))[o1]? = some (some t1)):(o1=o∧t1=t)∨(o1≠o∧l[o1]? = some (some t1)):=by
 rcases set_opt h with ⟨a,b,_⟩ | hb
 ·exact .inl ⟨a,(Option.some.inj b).symm⟩
 ·exact .inr hb
theorem tkeep {l:List (Option ThM)} {o o1:Nat} {v:Option ThM} {t1:ThM} (hne:o1≠o) (h:l[o1]? = some (some t1)):(l.set o v)[o1]? = some (some t1):=by rw [List.getElem?_set_ne (Ne.symm hne)]; exact h
theorem StM.OkP.over (h:s.OkP c pd) {o k:Nat} {size:Int} {m:MvM} (ho:s.th[o]? = some none) (hs:1≤size∧size≤c.most) (hk:pickM c.classes size=(k:Nat)) (hm:s.mv[k]? = some (some m)) (hpd:∀ o' q,pd=some (o',q)→o'=o) :
 StM.OkP c {s with mv:=s.mv.set k none,rm:=rmOwn s.rm k m.pt m.ta o,th:=s.th.set o (some ⟨size,⟨(k:Nat),m.pt,m.ta,[]⟩⟩)} pd:=by
 have hol:o<s.th.length:=(List.getElem?_eq_some_iff.1 ho).1
 obtain ⟨⟨o2,t2,e1,e2,e3⟩,a2,a3,_⟩:=h.mv k m hm
 have h2o:o2≠o:=fun e=>by subst e; rw [ho] at e2; cases e2
 obtain ⟨W1,W2⟩:=own_ownerM h.rm (k:=(k:Nat)) (n:=m.pt) (i:=m.ta) (who:=(o:Nat)) (by omega) (by rw [a2,e1]; omega)
 have keep:∀ {j n a:Int},¬ (j=k∧n=m.pt∧a=m.ta)→rmOwner (rmOwn s.rm k m.pt m.ta o) j n a=rmOwner s.rm j n a:=fun hne=>by rw [W2,if_neg hne]
 have hsm2:=h.small o2 t2 e2 (cls_small h e2 (by rw [e3]; simp only; omega))
 have other:∀ {o1:Nat} {t1:ThM},s.th[o1]? = some (some t1)→rmOwner s.rm t1.q.cls t1.q.page t1.q.idx=o1→t1.q.pages = [] → ¬ (t1.q.cls=k∧t1.q.page=m.pt∧t1.q.idx=m.ta):=fun {o1 t1} h1 h2 h3=>by
  rintro ⟨d1,d2,d3⟩
  rw [d1,d2,d3,a2,e1] at h2
  obtain rfl:o2=o1:=by omega
  rw [e2] at h1
  cases h1
  rw [e3] at d2 d3
  exact a3 ⟨d2,d3⟩
 have hmv:∀ {j:Int} {m':MvM},stMv {s with mv:=s.mv.set k none,rm:=rmOwn s.rm k m.pt m.ta o,th:=s.th.set o (some ⟨size,⟨(k:Nat),m.pt,m.ta,[]⟩⟩)} j=some m'→j≠k∧stMv s j=some m':=fun hj=>by
  rcases mv_set (s:=s) rfl hj with ⟨_,e⟩ | hj
  ·cases e
  ·exact hj
 refine ⟨h.may,h.rm.own _ _ _ _,h.kl,h.kr,h.bl,h.bi,by show ((s.th.set _ _).length:Int)=_; rw [List.length_set]; exact h.tl,by show (s.mv.set _ _).length=_; rw [List.length_set]; exact h.ml,fun o1 t1 h1 => ?_,fun o1 t1 h1 h2 => ?_,fun o1 t1 h1 h2 => ?_,fun o1 o3 t1 t3 h1 h3 c1 c3 hp => ?_,fun j m' hj => ?_,fun j n a hj => ?_,fun o' q hq hc => ?_,fun o' q hq hc => ?_⟩
 ·rcases tset h1 with ⟨rfl,rfl⟩ | ⟨_,h1⟩
  ·exact hs
  ·exact h.size o1 t1 h1
 ·rcases tset h1 with ⟨rfl,rfl⟩ | ⟨hne,h1⟩
  ·refine ⟨hk.symm,rfl,?_⟩
   show rmOwner (rmOwn s.rm k m.pt m.ta o1) k m.pt m.ta=o1
   rw [W2,if_pos ⟨rfl,rfl,rfl⟩]
  ·obtain ⟨b1,b2,b3⟩:=h.small o1 t1 h1 h2
   exact ⟨b1,b2,(keep (other h1 b3 b2)).trans b3⟩
 ·show ∃ n' r,(n',r) ∈ (rmOwn s.rm k m.pt m.ta o).lg∧_
  rw [rmOwn_lg]
  rcases tset h1 with ⟨rfl,rfl⟩ | ⟨_,h1⟩
  ·rw [hk] at h2; omega
  ·exact h.large o1 t1 h1 h2
 ·rcases tset h1 with ⟨rfl,rfl⟩ | ⟨_,h1⟩
  ·exact absurd c1 (by simp only; omega)
  ·rcases tset h3 with ⟨rfl,rfl⟩ | ⟨_,h3⟩
   ·exact absurd c3 (by simp only; omega)
   ·exact h.linj o1 o3 t1 t3 h1 h3 c1 c3 hp
 ·rcases set_opt hj with ⟨_,e,_⟩ | ⟨hne,hj⟩
  ·cases e
  ·obtain ⟨⟨o1,t1,b1,b2,b3⟩,c2,c3⟩:=h.mv j m' hj
   exact ⟨⟨o1,t1,b1,tkeep (fun e=>by subst e; rw [ho] at b2; cases b2) b2,b3⟩,(keep (fun d=>by have:=d.1; omega)).trans c2,c3⟩
 ·replace hj:rmOwner (rmOwn s.rm k m.pt m.ta o) j n a ≠ -1:=hj
  show (∃ (o1:Nat),∃ t1,rmOwner (rmOwn s.rm k m.pt m.ta o) j n a=o1∧_)∨_
  by_cases e:j=k∧n=m.pt∧a=m.ta
  ·obtain ⟨rfl,rfl,rfl⟩:=e
   exact .inl ⟨o,_,by rw [W2,if_pos ⟨rfl,rfl,rfl⟩],List.getElem?_set_self hol,.inl rfl⟩
  ·rw [keep e] at hj ⊢
   rcases h.own j n a hj with ⟨o1,t1,g1,g2,g3 | ⟨m',g3,g4,g5⟩⟩ | g
   ·exact .inl ⟨o1,t1,g1,tkeep (fun e=>by subst e; rw [ho] at g2; cases g2) g2,.inl g3⟩
   ·have hjk:j≠k:=fun e2=>by
     subst e2
     rw [mv_of hm] at g3
     cases g3
     exact e ⟨rfl,g4.symm,g5.symm⟩
    exact .inl ⟨o1,t1,g1,tkeep (fun e=>by subst e; rw [ho] at g2; cases g2) g2,.inr ⟨m',mv_keep (s:=s) rfl hjk g3,g4,g5⟩⟩
   ·exact .inr g
 ·obtain ⟨p1,p2,p3,p4⟩:=h.ps o' q hq hc
  have hqk:¬ (q.cls=k∧q.page=m.pt∧q.idx=m.ta):=fun e=>by
   refine p3 m ?_ ⟨e.2.1.symm,e.2.2.symm⟩
   rw [e.1]; exact mv_of hm
  refine ⟨p1,(keep hqk).trans p2,fun m' hm'=>p3 m' (hmv hm').2,fun o1 t1 h1 => ?_⟩
  rcases tset h1 with ⟨rfl,rfl⟩ | ⟨_,h1⟩
  ·intro e
   rw [← e] at hqk
   exact hqk ⟨rfl,rfl,rfl⟩
  ·exact p4 o1 t1 h1
 ·obtain ⟨n,r,p1,p2,p3⟩:=h.pl o' q hq hc
  refine ⟨n,r,by show (n,r) ∈ (rmOwn s.rm k m.pt m.ta o).lg; rw [rmOwn_lg]; exact p1,p2,fun o1 t1 h1 c1 => ?_⟩
  rcases tset h1 with ⟨rfl,rfl⟩ | ⟨_,h1⟩
  ·exact absurd c1 (by simp only; omega)
  ·exact p3 o1 t1 h1 c1
theorem StM.OkP.block (h:s.OkP c pd) {o k:Nat} {size:Int} (ho:s.th[o]? = some none) (hs:1≤size∧size≤c.most) (hk:pickM c.classes size=(k:Nat)) (hE:rmTakeE s.rm k o=0) :
 StM.OkP c {s with rm:=rmTake s.rm k o,th:=s.th.set o (some ⟨size,⟨(k:Nat),rmTakeN s.rm k o,rmTakeA s.rm k o,[]⟩⟩)} pd:=by
 have hol:o<s.th.length:=(List.getElem?_eq_some_iff.1 ho).1
 obtain ⟨T1,T2⟩:=take_ownerM h.rm hE
 have keep:∀ {j n a:Int},rmOwner s.rm j n a ≠ -1→rmOwner (rmTake s.rm k o) j n a=rmOwner s.rm j n a:=fun hne=>by
  rw [T1,if_neg]
  rintro ⟨rfl,rfl,rfl⟩
  exact hne T2
 refine ⟨h.may,h.rm.take _ _,h.kl,h.kr,h.bl,h.bi,by show ((s.th.set _ _).length:Int)=_; rw [List.length_set]; exact h.tl,h.ml,fun o1 t1 h1 => ?_,fun o1 t1 h1 h2 => ?_,fun o1 t1 h1 h2 => ?_,fun o1 o3 t1 t3 h1 h3 c1 c3 hp => ?_,fun j m' hj => ?_,fun j n a hj => ?_,fun o' q hq hc => ?_,fun o' q hq hc => ?_⟩
 ·rcases tset h1 with ⟨rfl,rfl⟩ | ⟨_,h1⟩
  ·exact hs
  ·exact h.size o1 t1 h1
 ·rcases tset h1 with ⟨rfl,rfl⟩ | ⟨hne,h1⟩
  ·refine ⟨hk.symm,rfl,?_⟩
   show rmOwner (rmTake s.rm k o1) k _ _=o1
   rw [T1,if_pos ⟨rfl,rfl,rfl⟩]
  ·obtain ⟨b1,b2,b3⟩:=h.small o1 t1 h1 h2
   exact ⟨b1,b2,(keep (by rw [b3]; omega)).trans b3⟩
 ·show ∃ n' r,(n',r) ∈ (rmTake s.rm k o).lg∧_
  rw [rmTake_lg]
  rcases tset h1 with ⟨rfl,rfl⟩ | ⟨_,h1⟩
  ·rw [hk] at h2; omega
  ·exact h.large o1 t1 h1 h2
 ·rcases tset h1 with ⟨rfl,rfl⟩ | ⟨_,h1⟩
  ·exact absurd c1 (by simp only; omega)
  ·rcases tset h3 with ⟨rfl,rfl⟩ | ⟨_,h3⟩
   ·exact absurd c3 (by simp only; omega)
   ·exact h.linj o1 o3 t1 t3 h1 h3 c1 c3 hp
 ·obtain ⟨⟨o1,t1,b1,b2,b3⟩,c2,c3⟩:=h.mv j m' hj
  exact ⟨⟨o1,t1,b1,tkeep (fun e=>by subst e; rw [ho] at b2; cases b2) b2,b3⟩,(keep (by rw [c2,b1]; omega)).trans c2,c3⟩
 ·replace hj:rmOwner (rmTake s.rm k o) j n a ≠ -1:=hj
  show (∃ (o1:Nat),∃ t1,rmOwner (rmTake s.rm k o) j n a=o1∧_)∨_
  by_cases e:j=k∧n=rmTakeN s.rm k o∧a=rmTakeA s.rm k o
  ·obtain ⟨rfl,rfl,rfl⟩:=e
   exact .inl ⟨o,_,by rw [T1,if_pos ⟨rfl,rfl,rfl⟩],List.getElem?_set_self hol,.inl rfl⟩
  ·have e1:rmOwner (rmTake s.rm k o) j n a=rmOwner s.rm j n a:=by rw [T1,if_neg e]
   rw [e1] at hj ⊢
   rcases h.own j n a hj with ⟨o1,t1,g1,g2,g3⟩ | g
   ·exact .inl ⟨o1,t1,g1,tkeep (fun e=>by subst e; rw [ho] at g2; cases g2) g2,g3⟩
   ·exact .inr g
 ·obtain ⟨p1,p2,p3,p4⟩:=h.ps o' q hq hc
  refine ⟨p1,(keep (by rw [p2]; omega)).trans p2,p3,fun o1 t1 h1 => ?_⟩
  rcases tset h1 with ⟨rfl,rfl⟩ | ⟨_,h1⟩
  ·intro e
   rw [← e] at p2
   simp only at p2
   rw [T2] at p2
   omega
  ·exact p4 o1 t1 h1
 ·obtain ⟨n,r,p1,p2,p3⟩:=h.pl o' q hq hc
  refine ⟨n,r,by show (n,r) ∈ (rmTake s.rm k o).lg; rw [rmTake_lg]; exact p1,p2,fun o1 t1 h1 c1 => ?_⟩
  rcases tset h1 with ⟨rfl,rfl⟩ | ⟨_,h1⟩
  ·exact absurd c1 (by simp only; omega)
  ·exact p3 o1 t1 h1 c1
theorem StM.OkP.pages (h:s.OkP c pd) {o:Nat} {size:Int} (ho:s.th[o]? = some none) (hs:1≤size∧size≤c.most) (hf:rmFits c s.rm size=0) (hp:pickM c.classes size = -1) :
 StM.OkP c {s with rm:=rmBig s.rm (allM size c.size).toNat,th:=s.th.set o (some ⟨size,⟨-1,(s.rm.pl.free.getD 0 0:Nat),0,natsI (s.rm.pl.free.take (allM size c.size).toNat).tail⟩⟩)} pd:=by
 have hol:o<s.th.length:=(List.getElem?_eq_some_iff.1 ho).1
 obtain ⟨f1,f2,_,_⟩:=fits_big h.may hf hp
 obtain ⟨many,hmany⟩:∃ many,many=(allM size c.size).toNat:=⟨_,rfl⟩
 have hall:allM size c.size=many:=by omega
 rw [← hmany] at f1 f2 ⊢
 obtain ⟨n0,hn0⟩:∃ n0,n0=s.rm.pl.free.getD 0 0:=⟨_,rfl⟩
 obtain ⟨r0,hr0⟩:∃ r0,r0=(s.rm.pl.free.take many).tail:=⟨_,rfl⟩
 have hn0m:n0 ∈ s.rm.pl.free:=by
  rw [hn0,List.getD_eq_getElem?_getD,List.getElem?_eq_getElem (show 0<s.rm.pl.free.length by omega)]
  exact List.getElem_mem _
 have hfresh:∀ {n:Nat} {r:List Nat},(n,r) ∈ s.rm.lg→n≠n0:=fun {n r} hm e=>by
  subst e
  have h1:=(h.rm.ok.lg n (mem_lgAll hm (List.mem_cons_self ..))).2
  have h2:=(h.rm.mok.good.free _ hn0m).2
  omega
 have hlg:(rmBig s.rm many).lg=s.rm.lg ++ [(n0,r0)]:=by rw [hn0,hr0]; rfl
 have hlen:r0.length+1=many:=by rw [hr0,List.length_tail,List.length_take]; omega
 rw [← hn0,← hr0]
 refine ⟨h.may,h.rm.big (by omega) f2,h.kl,h.kr,h.bl,h.bi,by show ((s.th.set _ _).length:Int)=_; rw [List.length_set]; exact h.tl,h.ml,fun o1 t1 h1 => ?_,fun o1 t1 h1 h2 => ?_,fun o1 t1 h1 h2 => ?_,fun o1 o3 t1 t3 h1 h3 c1 c3 hpp => ?_,fun j m' hj => ?_,fun j n a hj => ?_,fun o' q hq hc => ?_,fun o' q hq hc => ?_⟩
 ·rcases tset h1 with ⟨rfl,rfl⟩ | ⟨_,h1⟩
  ·exact hs
  ·exact h.size o1 t1 h1
 ·rcases tset h1 with ⟨rfl,rfl⟩ | ⟨hne,h1⟩
  ·exact absurd hp h2
  ·exact h.small o1 t1 h1 h2
 ·show ∃ n' r,(n',r) ∈ (rmBig s.rm many).lg∧_
  rw [hlg]
  rcases tset h1 with ⟨rfl,rfl⟩ | ⟨_,h1⟩
  ·exact ⟨n0,r0,by simp,rfl,by show ((r0.length:Int)+1)=allM size c.size; omega⟩
  ·obtain ⟨n',r,g1,g2⟩:=h.large o1 t1 h1 h2
   exact ⟨n',r,List.mem_append_left _ g1,g2⟩
 ·have page:∀ {o1:Nat} {t1:ThM},s.th[o1]? = some (some t1)→t1.q.cls = -1→t1.q.page≠(n0:Int):=fun {o1 t1} h1 c1=>by
   have hl:pickM c.classes t1.size = -1:=Decidable.byContradiction fun hne=>by
    have:=(h.small o1 t1 h1 hne).1
    omega
   obtain ⟨n',r,g1,g2,_⟩:=h.large o1 t1 h1 hl
   have:=hfresh g1
   rw [g2]
   simp only
   omega
  rcases tset h1 with ⟨e1,e2⟩ | ⟨_,g1⟩
  ·rcases tset h3 with ⟨e3,_⟩ | ⟨_,g3⟩
   ·exact e1.trans e3.symm
   ·rw [e2] at hpp
    exact absurd hpp.symm (page g3 c3)
  ·rcases tset h3 with ⟨e3,e4⟩ | ⟨_,g3⟩
   ·rw [e4] at hpp
    exact absurd hpp (page g1 c1)
   ·exact h.linj o1 o3 t1 t3 g1 g3 c1 c3 hpp
 ·obtain ⟨⟨o1,t1,b1,b2,b3⟩,c2⟩:=h.mv j m' hj
  exact ⟨⟨o1,t1,b1,tkeep (fun e=>by subst e; rw [ho] at b2; cases b2) b2,b3⟩,c2⟩
 ·replace hj:rmOwner s.rm j n a ≠ -1:=hj
  rcases h.own j n a hj with ⟨o1,t1,g1,g2,g3⟩ | g
  ·exact .inl ⟨o1,t1,g1,tkeep (fun e=>by subst e; rw [ho] at g2; cases g2) g2,g3⟩
  ·exact .inr g
 ·obtain ⟨p1,p2,p3,p4⟩:=h.ps o' q hq hc
  refine ⟨p1,p2,p3,fun o1 t1 h1 => ?_⟩
  rcases tset h1 with ⟨rfl,rfl⟩ | ⟨_,h1⟩
  ·intro e
   rw [← e] at hc
   exact hc rfl
  ·exact p4 o1 t1 h1
 ·obtain ⟨n,r,p1,p2,p3⟩:=h.pl o' q hq hc
  refine ⟨n,r,by show (n,r) ∈ (rmBig s.rm many).lg; rw [hlg]; exact List.mem_append_left _ p1,p2,fun o1 t1 h1 c1 => ?_⟩
  rcases tset h1 with ⟨rfl,rfl⟩ | ⟨_,h1⟩
  ·have:=hfresh p1
   simp only
   omega
  ·exact p3 o1 t1 h1 c1
theorem StM.OkP.lay (h:s.OkP c pd) {o:Nat} {size:Int} (ho:s.th[o]? = some none) (hf:stFits c s size=0) (hpd:∀ o' q,pd=some (o',q)→o'=o):(stLay c s o size).OkP c pd:=by
 obtain ⟨hs,hfit⟩:=fits_cases hf
 have base:StM.OkP c {layS c s o size with th:=s.th.set o (some ⟨size,layQ c s o size⟩)} pd:=by
  cases ht:takesOver c s size with
  |some m =>
   have e1:layS c s o size=chgTot {s with mv:=s.mv.set (pickM c.classes size).toNat none,rm:=rmOwn s.rm (pickM c.classes size) m.pt m.ta o} 3:=by unfold layS; rw [ht]
   have e2:layQ c s o size=⟨pickM c.classes size,m.pt,m.ta,[]⟩:=by unfold layQ; rw [ht]
   unfold takesOver at ht
   cases hm:stMv s (pickM c.classes size) with
   |none=>rw [hm] at ht; cases ht
   |some m' =>
    rw [hm] at ht
    simp only at ht
    split at ht
    ·cases ht
     obtain ⟨k,hk,_,hmk⟩:=mv_some hm
     rw [e1,e2,hk,Int.toNat_natCast]
     exact (h.over ho hs hk hmk hpd).tot 3
    ·cases ht
  |none =>
   have e1:layS c s o size={s with rm:=rmPlace c s.rm o size}:=by unfold layS; rw [ht]
   have e2:layQ c s o size=rmPlaceQ c s.rm o size:=by unfold layQ; rw [ht]
   have hfr:=hfit ht
   rw [e1,e2]
   by_cases hp:pickM c.classes size = -1
   ·obtain ⟨g1,g2⟩:=rmPlace_large (c:=c) (who:=(o:Nat)) (by omega) hfr hp
    rw [g1,g2]
    exact h.pages ho hs hfr hp
   ·obtain ⟨g1,g2,g3⟩:=rmPlace_small (c:=c) (who:=(o:Nat)) (by omega) hfr hp
    have hE:=fits_place (who:=(o:Nat)) h.rm.ok (by omega) hfr
    rw [g3] at hE
    obtain ⟨p0,p1⟩:=pickM_lt hp
    obtain ⟨k,hk⟩:=Int.eq_ofNat_of_zero_le p0
    rw [g1,g2]
    rw [hk] at hE ⊢
    exact h.block ho hs hk hE
 have e:stLay c s o size=stPut c {layS c s o size with th:=s.th.set o (some ⟨size,layQ c s o size⟩)} (layQ c s o size) 0 (zeros (viewHolds c (layQ c s o size).plc).toNat):=by
  unfold stLay stPut chgTot
  rw [Int.toNat_natCast]
 rw [e]
 exact base.put _ _ (zeros_in _)
theorem rmDrop_small {M:RmM} {q:PlcM} (h:q.cls ≠ -1):rmDrop M q=rmGive M q.cls q.page q.idx:=by unfold rmDrop; rw [if_pos h]
theorem rmDrop_large {M:RmM} (hok:M.Ok c) {n:Nat} {r:List Nat} (hm:(n,r) ∈ M.lg):rmDrop M ⟨-1,(n:Nat),0,natsI r⟩=rmGone M n r:=by
 have hget:lgGet M.lg ((n:Nat):Int)=some r:=by
  cases hg:lgGet M.lg ((n:Nat):Int) with
  |none=>exact absurd rfl (lgGet_none hg _ hm)
  |some r' =>
   obtain ⟨k,hk,hmm⟩:=lgGet_some hg
   have:k=n:=by omega
   subst this
   rw [keys_lg hok.nd hmm hm]
 unfold rmDrop
 rw [if_neg (by simp)]
 simp only
 rw [hget]
 simp
theorem StM.OkP.dropped {o:Nat} {q:PlcM} (h:s.OkP c (some (o,q))):StM.Ok c {s with rm:=rmDrop s.rm q}:=by
 by_cases hc:q.cls = -1
 ·obtain ⟨n,r,p1,p2,p3⟩:=h.pl o q rfl hc
  rw [p2,rmDrop_large h.rm.ok p1]
  refine ⟨h.may,h.rm.gone p1,h.kl,h.kr,h.bl,h.bi,h.tl,h.ml,h.size,h.small,fun o1 t1 h1 h2 => ?_,h.linj,h.mv,fun j n' a hj => .inl ?_,(by rintro _ _ ⟨⟩),(by rintro _ _ ⟨⟩)⟩
  ·obtain ⟨n',r',g1,g2,g3⟩:=h.large o1 t1 h1 h2
   refine ⟨n',r',?_,g2,g3⟩
   show (n',r') ∈ lgDel s.rm.lg n
   unfold lgDel
   refine List.mem_filter.2 ⟨g1,?_⟩
   have:=p3 o1 t1 h1 (by rw [g2])
   rw [g2] at this
   simp only at this
   simp only [bne_iff_ne,ne_eq]
   omega
  ·replace hj:rmOwner s.rm j n' a ≠ -1:=hj
   rcases h.own j n' a hj with g | ⟨o',g⟩
   ·exact g
   ·have e:=(Prod.mk.inj (Option.some.inj g)).2
    have hj1:j = -1:=by rw [e] at hc; exact hc
    exact absurd (by rw [hj1]; unfold rmOwner; rw [rmGet_neg (by omega)]) hj
 ·obtain ⟨p1,p2,p3,p4⟩:=h.ps o q rfl hc
  rw [rmDrop_small hc]
  obtain ⟨G1,G2⟩:=give_ownerM h.rm (k:=q.cls) (n:=q.page) (i:=q.idx) (by rw [p2]; omega)
  have keep:∀ {j n' a:Int},¬ (j=q.cls∧n'=q.page∧a=q.idx)→rmOwner (rmGive s.rm q.cls q.page q.idx) j n' a=rmOwner s.rm j n' a:=fun hne=>by rw [G2,if_neg hne]
  refine ⟨h.may,h.rm.give _ _ _,h.kl,h.kr,h.bl,h.bi,h.tl,h.ml,h.size,fun o1 t1 h1 h2 => ?_,fun o1 t1 h1 h2 => ?_,h.linj,fun j m' hj => ?_,fun j n' a hj => .inl ?_,(by rintro _ _ ⟨⟩),(by rintro _ _ ⟨⟩)⟩
  ·obtain ⟨b1,b2,b3⟩:=h.small o1 t1 h1 h2
   refine ⟨b1,b2,(keep ?_).trans b3⟩
   rintro ⟨d1,d2,d3⟩
   refine p4 o1 t1 h1 ?_
   obtain ⟨sz,a1,a2,a3,a4⟩:=t1
   obtain ⟨q1,q2,q3,q4⟩:=q
   simp only at *
   rw [d1,d2,d3,b2,p1]
  ·show ∃ n' r,(n',r) ∈ (rmGive s.rm q.cls q.page q.idx).lg∧_
   rw [rmGive_lg]
   exact h.large o1 t1 h1 h2
  ·obtain ⟨a1,a2,a3⟩:=h.mv j m' hj
   refine ⟨a1,(keep ?_).trans a2,a3⟩
   rintro ⟨d1,d2,d3⟩
   exact p3 m' (by rw [← d1]; exact mv_of hj) ⟨d2,d3⟩
  ·replace hj:rmOwner (rmGive s.rm q.cls q.page q.idx) j n' a ≠ -1:=hj
   have hne:¬ (j=q.cls∧n'=q.page∧a=q.idx):=fun e=>by rw [G2,if_pos e] at hj; exact hj rfl
   show ∃ (o1:Nat),∃ t1,rmOwner (rmGive s.rm q.cls q.page q.idx) j n' a=o1∧_
   rw [keep hne] at hj ⊢
   rcases h.own j n' a hj with g | ⟨o',g⟩
   ·exact g
   ·have e:=(Prod.mk.inj (Option.some.inj g)).2
    exact absurd ⟨by rw [e],by rw [e],by rw [e]⟩ hne
theorem StM.OkP.clear {o:Nat} {q:PlcM} (h:s.OkP c (some (o,q))):(stClear c s q).Ok c:=by
 unfold stClear
 split
 ·exact h.dropped
 ·exact StM.OkP.go (StM.OkP.begin h.dropped _) _ _
theorem StM.OkP.away (h:s.Ok c) {o:Nat} {t:ThM} (ht:s.th[o]? = some (some t)) (hm:∀ (k:Nat) (m:MvM),s.mv[k]? = some (some m)→m.who≠(o:Nat)):StM.OkP c {s with th:=s.th.set o none} (some (o,t.q)):=by
 have hset:∀ {o1:Nat} {t1:ThM},(s.th.set o none)[o1]? = some (some t1)→o1≠o∧s.th[o1]? = some (some t1):=fun h1=>by
  rcases set_opt h1 with ⟨_,e,_⟩ | h1
  ·cases e
  ·exact h1
 have hwho:∀ {k:Nat} {m:MvM},s.mv[k]? = some (some m) → ∀ {o1:Nat},m.who=(o1:Nat)→o1≠o:=fun hk o1 e1 e=>hm _ _ hk (by rw [e1,e])
 refine ⟨h.may,h.rm,h.kl,h.kr,h.bl,h.bi,by show ((s.th.set _ _).length:Int)=_; rw [List.length_set]; exact h.tl,h.ml,fun o1 t1 h1=>h.size o1 t1 (hset h1).2,fun o1 t1 h1=>h.small o1 t1 (hset h1).2,fun o1 t1 h1=>h.large o1 t1 (hset h1).2,fun o1 o2 t1 t2 h1 h2=>h.linj o1 o2 t1 t2 (hset h1).2 (hset h2).2,fun k m hk => ?_,fun j n a hj => ?_,fun o' q hq hc => ?_,fun o' q hq hc => ?_⟩
 ·obtain ⟨⟨o1,t1,b1,b2,b3⟩,c2⟩:=h.mv k m hk
  exact ⟨⟨o1,t1,b1,tkeep (hwho hk b1) b2,b3⟩,c2⟩
 ·rcases h.own j n a hj with ⟨o1,t1,g1,g2,g3 | ⟨m,g3,g4,g5⟩⟩ | ⟨_,g⟩
  ·by_cases e:o1=o
   ·subst e
    rw [ht] at g2
    cases g2
    exact .inr ⟨o1,by rw [g3]⟩
   ·exact .inl ⟨o1,t1,g1,tkeep e g2,.inl g3⟩
  ·obtain ⟨i,ei,_,hi⟩:=mv_some g3
   subst ei
   obtain ⟨⟨o2,t2,b1,_⟩,c2,_⟩:=h.mv i m hi
   have:(o2:Int)=o1:=by rw [← b1,← c2,g4,g5]; exact g1
   have hne:=hwho hi b1
   exact .inl ⟨o1,t1,g1,tkeep (by omega) g2,.inr ⟨m,g3,g4,g5⟩⟩
  ·cases g
 ·obtain ⟨e1,e2⟩:=Prod.mk.inj (Option.some.inj hq)
  subst e1
  subst e2
  obtain ⟨b1,b2,b3⟩:=h.small o t ht (cls_small h ht hc)
  refine ⟨b2,b3,fun m hmm => ?_,fun o1 t1 h1 e => ?_⟩
  ·obtain ⟨i,ei,_,hi⟩:=mv_some hmm
   rintro ⟨d1,d2⟩
   obtain ⟨⟨o2,t2,c1,_⟩,c2,_⟩:=h.mv i m hi
   rw [d1,d2,← ei,b3,c1] at c2
   exact hwho hi c1 (by omega)
  ·obtain ⟨hne,h1⟩:=hset h1
   obtain ⟨_,_,d3⟩:=h.small o1 t1 h1 (cls_small h h1 (by rw [e]; exact hc))
   rw [e,b3] at d3
   omega
 ·obtain ⟨e1,e2⟩:=Prod.mk.inj (Option.some.inj hq)
  subst e1
  subst e2
  have hl:pickM c.classes t.size = -1:=Decidable.byContradiction fun hne=>by
   have h1:=(h.small o t ht hne).1
   rw [hc] at h1
   exact hne h1.symm
  obtain ⟨n,r,g1,g2,_⟩:=h.large o t ht hl
  refine ⟨n,r,g1,g2,fun o1 t1 h1 c1 e => ?_⟩
  obtain ⟨hne,h1⟩:=hset h1
  exact hne (h.linj o1 o t1 t h1 ht c1 hc (by rw [e,g2]))
end
end Go.Proofs.YtnaoiegcobineaaGreatDoor
namespace Go.Proofs.YtnaoiegcobineaaGreatDoor
open Go.RowKit
section
variable {c:Conf} {s:StM} {pd:Option (Nat × PlcM)}
theorem begin_th (c:Conf) (s:StM) (k:Nat):(stBegin c s k).th=s.th∧(stBegin c s k).keep=s.keep∧(stBegin c s k).bs=s.bs∧(stBegin c s k).mv.length=s.mv.length:=by
 unfold stBegin
 split
 ·exact ⟨rfl,rfl,rfl,List.length_set⟩
 ·exact ⟨rfl,rfl,rfl,rfl⟩
theorem go_keep (s:StM) (k:Nat) (n:Int):(stGo s k n).keep=s.keep∧(stGo s k n).th.length=s.th.length∧(stGo s k n).mv.length=s.mv.length∧(stGo s k n).rm.lg=s.rm.lg:=by
 unfold stGo
 split
 ·exact ⟨rfl,rfl,rfl,rfl⟩
 ·split
  ·exact ⟨rfl,rfl,List.length_set,rfl⟩
  ·exact ⟨rfl,List.length_set,List.length_set,rmGive_lg _ _ _ _⟩
theorem go_other (h:s.Ok c) (k:Nat) (n:Int):(∀ (o:Nat) t,s.th[o]? = some (some t) → ∃ t',(stGo s k n).th[o]? = some (some t')∧t'.size=t.size∧t'.q.cls=t.q.cls∧t'.q.pages=t.q.pages∧(t.q.cls≠(k:Nat)→t'=t))∧(∀ o:Nat,s.th[o]? = some none→(stGo s k n).th[o]? = some none) ∧ ∀ j:Int,j≠k→stMv (stGo s k n) j=stMv s j:=by
 unfold stGo
 cases hg:stMv s (k:Nat) with
 |none=>exact ⟨fun o t ht=>⟨t,ht,rfl,rfl,rfl,fun _=>rfl⟩,fun _ h=>h,fun _ _=>rfl⟩
 |some m =>
  obtain ⟨j,ej,hj,hm⟩:=mv_some hg
  obtain rfl:k=j:=by omega
  have hmv:∀ {s':StM} {v:Option MvM},s'.mv=s.mv.set k v → ∀ j:Int,j≠k→stMv s' j=stMv s j:=fun {s' v} e j hne=>by
   unfold stMv
   split
   ·rename_i h0
    rw [e,List.getD_eq_getElem?_getD,List.getD_eq_getElem?_getD,List.getElem?_set_ne (by omega)]
   ·rfl
  simp only
  split
  ·exact ⟨fun o t ht=>⟨t,ht,rfl,rfl,rfl,fun _=>rfl⟩,fun _ h=>h,hmv rfl⟩
  ·obtain ⟨⟨o,t,e1,e2,e3⟩,_⟩:=h.mv k m hm
   have hol:o<s.th.length:=(List.getElem?_eq_some_iff.1 e2).1
   have hsz:stSize s m.who=t.size:=by unfold stSize; rw [e1,th_of e2]
   have hwn:m.who.toNat=o:=by omega
   refine ⟨fun o1 t1 h1 => ?_,fun o1 h1 => ?_,hmv rfl⟩
   ·show ∃ t',(s.th.set m.who.toNat _)[o1]? = _∧_
    rw [hwn,hsz]
    by_cases e:o1=o
    ·subst e
     rw [e2] at h1
     cases h1
     exact ⟨_,List.getElem?_set_self hol,rfl,by rw [e3],by rw [e3],fun hne=>absurd (by rw [e3]) hne⟩
    ·exact ⟨t1,tkeep e h1,rfl,rfl,rfl,fun _=>rfl⟩
   ·show (s.th.set m.who.toNat _)[o1]? = _
    rw [hwn,List.getElem?_set_ne (fun e=>by subst e; rw [e2] at h1; cases h1)]
    exact h1
theorem go_done (h:s.Ok c) {k:Nat} {m:MvM} (hm:s.mv[k]? = some (some m)) {n:Int} (hn:(m.size - m.gone:Nat)≤n):stMv (stGo s k n) (k:Nat)=none:=by
 have hkl:k<s.mv.length:=(List.getElem?_eq_some_iff.1 hm).1
 have hgl:=(h.mv k m hm).2.2.2.2.2.2
 unfold stGo
 rw [mv_of hm]
 simp only
 have hg:goN m n=m.size - m.gone:=by unfold goN stepK; omega
 rw [if_neg (by omega)]
 unfold stMv
 rw [if_pos (by omega)]
 show ((s.mv.set k none).getD _ none)=none
 rw [Int.toNat_natCast,List.getD_eq_getElem?_getD,List.getElem?_set_self hkl]; rfl
structure FinF (c:Conf) (s s':StM) (κ:Int):Prop where
 ok:s'.Ok c
 mv:stMv s' κ=none
 other:∀ j:Int,j≠κ→stMv s' j=stMv s j
 th:∀ (o:Nat) t,s.th[o]? = some (some t) → ∃ t',s'.th[o]? = some (some t')∧t'.size=t.size∧t'.q.cls=t.q.cls∧t'.q.pages=t.q.pages∧(t.q.cls≠κ→t'=t)
 no:∀ o:Nat,s.th[o]? = some none→s'.th[o]? = some none
 keep:s'.keep=s.keep∧s'.th.length=s.th.length∧s'.mv.length=s.mv.length∧s'.rm.lg=s.rm.lg
theorem fin_facts (h:s.Ok c) (κ:Int):FinF c s (stFinish s κ) κ:=by
 have hok:=h.finish κ
 unfold stFinish at hok ⊢
 cases hm:stMv s κ with
 |none=>exact ⟨h,hm,fun _ _=>rfl,fun o t ht=>⟨t,ht,rfl,rfl,rfl,fun _=>rfl⟩,fun _ h=>h,rfl,rfl,rfl,rfl⟩
 |some m =>
  rw [hm] at hok
  obtain ⟨k,rfl,hk,hmk⟩:=mv_some hm
  simp only [Int.toNat_natCast] at hok ⊢
  obtain ⟨a1,a2,a3⟩:=go_other h k (m.size:Nat)
  exact ⟨hok,go_done h hmk (by omega),a3,a1,a2,go_keep s k _⟩
theorem stQ_of {o:Nat} {t:ThM} (h:s.th[o]? = some (some t)):stQ s (o:Nat)=t.q:=by unfold stQ; rw [th_of h]
theorem stSize_of {o:Nat} {t:ThM} (h:s.th[o]? = some (some t)):stSize s (o:Nat)=t.size:=by unfold stSize; rw [th_of h]
theorem fin_who (h:s.Ok c) {o:Nat} {t:ThM} (ht:s.th[o]? = some (some t)):∃ t',(stFinish s t.q.cls).th[o]? = some (some t')∧t'.size=t.size∧t'.q.cls=t.q.cls∧t'.q.pages=t.q.pages∧(∀ (k:Nat) (m:MvM),(stFinish s t.q.cls).mv[k]? = some (some m)→m.who≠(o:Nat)):=by
 have F:=fin_facts h t.q.cls
 obtain ⟨t',h1,h2,h3,h4,_⟩:=F.th o t ht
 refine ⟨t',h1,h2,h3,h4,fun k m hm e => ?_⟩
 obtain ⟨⟨o1,t1,b1,b2,b3⟩,_⟩:=F.ok.mv k m hm
 obtain rfl:o1=o:=by omega
 rw [h1] at b2
 cases b2
 have:stMv (stFinish s t.q.cls) (k:Nat)=some m:=mv_of hm
 rw [b3] at h3
 simp only at h3
 rw [h3,F.mv] at this
 cases this
theorem owned_0 {o:Int} (h:ownedE s o=0):∃ (j:Nat),∃ t,o=j∧s.th[j]? = some (some t):=by
 unfold ownedE at h
 split at h
 ·exact absurd h (by decide)
 ·cases ht:stTh s o with
  |none=>rw [ht] at h; exact absurd (show (9:Int)=0 from h) (by decide)
  |some t =>
   obtain ⟨j,e,_,hj⟩:=th_some ht
   exact ⟨j,t,e,hj⟩
theorem owned_9 {o:Int} (h1:ownedE s o≠1) (h0:ownedE s o≠0):∃ j:Nat,o=j∧j<s.th.length∧s.th[j]? = some none:=by
 unfold ownedE at h1 h0
 split at h1
 ·exact absurd rfl h1
 ·rename_i hr
  rw [if_neg hr] at h0
  obtain ⟨j,rfl⟩:=Int.eq_ofNat_of_zero_le (show 0≤o by omega)
  have hj:j<s.th.length:=by omega
  refine ⟨j,rfl,hj,?_⟩
  cases hg:s.th[j] with
  |none=>rw [List.getElem?_eq_getElem hj,hg]
  |some t =>
   have:stTh s (j:Nat)=some t:=th_of (by rw [List.getElem?_eq_getElem hj,hg])
   rw [this] at h0
   exact absurd rfl h0
theorem owned_yes {o:Nat} {t:ThM} (h:s.th[o]? = some (some t)):ownedE s (o:Nat)=0:=by
 have hl:=(List.getElem?_eq_some_iff.1 h).1
 unfold ownedE
 rw [if_neg (by omega),th_of h]
theorem alloc_0 {o size:Int} (h:stAllocE c s o size=0):∃ j:Nat,o=j∧j<s.th.length∧s.th[j]? = some none∧stFits c s size=0:=by
 unfold stAllocE at h
 split at h
 ·exact absurd h (by decide)
 ·rename_i h1
  split at h
  ·exact absurd h (by decide)
  ·rename_i h0
   obtain ⟨j,a,b,d⟩:=owned_9 h1 h0
   exact ⟨j,a,b,d,h⟩
theorem StM.OkP.alloc (h:s.Ok c) (o size:Int):(stAlloc c s o size).Ok c:=by
 unfold stAlloc
 split
 ·rename_i hE
  obtain ⟨j,rfl,_,hj,hf⟩:=alloc_0 hE
  exact StM.OkP.lay h hj hf (by rintro _ _ ⟨⟩)
 ·exact h
theorem StM.OkP.free (h:s.Ok c) (o:Int):(stFree c s o).Ok c:=by
 unfold stFree
 split
 ·exact h
 ·rename_i h0
  obtain ⟨j,t,rfl,ht⟩:=owned_0 (Decidable.not_not.1 h0)
  rw [stQ_of ht]
  obtain ⟨t',h1,_,_,_,h2⟩:=fin_who h ht
  rw [stQ_of h1,Int.toNat_natCast]
  exact ((fin_facts h t.q.cls).ok.away h1 h2).clear
theorem StM.OkP.wrote (h:s.OkP c pd) (o:Int) (i n:Nat) (hi:∀ m,stMv s (stQ s o).cls=some m→i+n≤m.size):(stWrote s o i n).OkP c pd:=by
 unfold stWrote
 split
 ·rename_i m hm
  split
  ·obtain ⟨k,_,_,hk⟩:=mv_some hm
   obtain ⟨h1,h2,h3,_⟩:=mv_lies h hk
   have:=hi m hm
   refine h.bytes ?_ ?_ _
   ·unfold wroteB
    split
    ·rfl
    ·unfold wroteK at *
     exact cpB_length (by omega) (by omega)
   ·unfold wroteB
    split
    ·exact h.bi
    ·exact cpB_in h.bi
  ·exact h
 ·exact h
theorem StM.OkP.sized (h:s.Ok c) {o:Nat} {t:ThM} {size:Int} (ht:s.th[o]? = some (some t)) (hs:staysB c t.size size=true) (hr:1≤size∧size≤c.most):(stSetTh s (o:Nat) ⟨size,t.q⟩).Ok c:=by
 have hol:o<s.th.length:=(List.getElem?_eq_some_iff.1 ht).1
 unfold staysB at hs
 simp only [Bool.and_eq_true,Bool.or_eq_true,decide_eq_true_eq] at hs
 obtain ⟨p1,p2⟩:=hs
 have hset:∀ {o1:Nat} {t1:ThM},(s.th.set o (some ⟨size,t.q⟩))[o1]? = some (some t1) → ∃ t0,s.th[o1]? = some (some t0)∧t1.q=t0.q∧((o1=o∧t0=t∧t1.size=size)∨(o1≠o∧t1=t0)):=fun h1=>by
  rcases tset h1 with ⟨rfl,rfl⟩ | ⟨hne,h1⟩
  ·exact ⟨t,ht,rfl,.inl ⟨rfl,rfl,rfl⟩⟩
  ·exact ⟨_,h1,rfl,.inr ⟨hne,rfl⟩⟩
 have hget:∀ {o1:Nat} {t0:ThM},s.th[o1]? = some (some t0) → ∃ t1,(s.th.set o (some ⟨size,t.q⟩))[o1]? = some (some t1)∧t1.q=t0.q:=fun {o1 t0} h1=>by
  by_cases e:o1=o
  ·subst e
   rw [ht] at h1
   cases h1
   exact ⟨_,List.getElem?_set_self hol,rfl⟩
  ·exact ⟨t0,tkeep e h1,rfl⟩
 unfold stSetTh
 rw [Int.toNat_natCast]
 refine ⟨h.may,h.rm,h.kl,h.kr,h.bl,h.bi,by show ((s.th.set _ _).length:Int)=_; rw [List.length_set]; exact h.tl,h.ml,fun o1 t1 h1 => ?_,fun o1 t1 h1 h2 => ?_,fun o1 t1 h1 h2 => ?_,fun o1 o2 t1 t2 h1 h2 c1 c2 hp => ?_,fun k m hk => ?_,fun j n a hj => .inl ?_,(by rintro _ _ ⟨⟩),(by rintro _ _ ⟨⟩)⟩
 ·obtain ⟨t0,g1,g2,⟨_,_,g5⟩ | ⟨_,rfl⟩⟩:=hset h1
  ·rw [g5]; exact hr
  ·exact h.size o1 t1 g1
 ·obtain ⟨t0,g1,g2,⟨_,g4,g5⟩ | ⟨_,rfl⟩⟩:=hset h1
  ·subst g4
   rw [g5,← p1] at h2
   rw [g2,g5,← p1]
   exact h.small o1 t0 g1 h2
  ·exact h.small o1 t1 g1 h2
 ·obtain ⟨t0,g1,g2,⟨_,g4,g5⟩ | ⟨_,rfl⟩⟩:=hset h1
  ·subst g4
   rw [g5,← p1] at h2
   obtain ⟨n,r,k1,k2,k3⟩:=h.large o1 t0 g1 h2
   refine ⟨n,r,k1,g2.trans k2,?_⟩
   rw [k3,g5]
   have e:=p2.resolve_left (fun hne=>hne h2)
   unfold allM
   rw [e]
  ·exact h.large o1 t1 g1 h2
 ·obtain ⟨t0,g1,g2,_⟩:=hset h1
  obtain ⟨t3,k1,k2,_⟩:=hset h2
  rw [g2] at c1 hp
  rw [k2] at c2 hp
  exact h.linj o1 o2 t0 t3 g1 k1 c1 c2 hp
 ·obtain ⟨⟨o1,t0,b1,b2,b3⟩,c2⟩:=h.mv k m hk
  obtain ⟨t1,g1,g2⟩:=hget b2
  exact ⟨⟨o1,t1,b1,g1,g2.trans b3⟩,c2⟩
 ·rcases h.own j n a hj with ⟨o1,t0,g1,g2,g3⟩ | ⟨_,g⟩
  ·obtain ⟨t1,k1,k2⟩:=hget g2
   exact ⟨o1,t1,g1,k1,by rw [k2]; exact g3⟩
  ·cases g
theorem lay_away (c:Conf) (s:StM) (o:Nat) (size:Int):stLay c {s with th:=s.th.set o none} o size=stLay c s o size:=by
 have e1:takesOver c {s with th:=s.th.set o none} size=takesOver c s size:=rfl
 have e2:layQ c {s with th:=s.th.set o none} o size=layQ c s o size:=rfl
 have e3:layS c {s with th:=s.th.set o none} o size={layS c s o size with th:=s.th.set o none}:=by unfold layS; rw [e1]; split <;> rfl
 unfold stLay
 rw [e2,e3]
 simp only [List.set_set,Int.toNat_natCast]
 rfl
theorem give_free (M:RmM) (k n i:Int) (h:RmAll c M):M.pl.free.length≤(rmGive M k n i).pl.free.length ∧ ∀ j,j≠k→rmOpen (rmGive M k n i) j=rmOpen M j:=by
 unfold rmGive
 cases hg:rmGet M k with
 |none=>exact ⟨Nat.le_refl _,fun _ _=>rfl⟩
 |some x =>
  obtain ⟨l,rfl,hl,hx⟩:=rmGet_some hg
  simp only [Int.toNat_natCast]
  split
  ·refine ⟨?_,fun j hj => ?_⟩
   ·show _≤(shGiveP x M.pl n i).free.length
    unfold shGiveP
    split
    ·split
     ·show _≤(PlM.give M.pl _).free.length
      unfold PlM.give
      simp
     ·exact Nat.le_refl _
    ·exact Nat.le_refl _
   ·show rmOpen (rmSet M l (shGive x n i) (shGiveP x M.pl n i)) j=_
    unfold rmOpen
    rw [rmGet_rmSet hl,if_neg hj]
  ·exact ⟨Nat.le_refl _,fun _ _=>rfl⟩
theorem rmFits_mono {M M':RmM} {size:Int} (h1:M.pl.free.length≤M'.pl.free.length) (h2:rmOpen M' (pickM c.classes size)=rmOpen M (pickM c.classes size)) (h:rmFits c M size=0):rmFits c M' size=0:=by
 unfold rmFits at h ⊢
 split at h
 ·exact absurd h (by decide)
 ·rename_i hr
  rw [if_neg hr]
  split at h
  ·exact absurd h (by decide)
  ·rename_i hn
   rw [if_neg]
   unfold rmNeed at hn ⊢
   rw [h2]
   omega
theorem fits_fin (h:s.Ok c) {κ size:Int} (hne:pickM c.classes size = -1∨pickM c.classes size≠κ) (hf:stFits c s size=0):stFits c (stFinish s κ) size=0:=by
 have F:=fin_facts h κ
 unfold stFits at hf ⊢
 split at hf
 ·exact absurd hf (by decide)
 ·rename_i hr
  rw [if_neg hr]
  have hmv:stMv (stFinish s κ) (pickM c.classes size)=stMv s (pickM c.classes size):=by
   rcases hne with e | e
   ·rw [e]; rfl
   ·exact F.other _ e
  rw [hmv]
  split at hf
  ·rename_i hs; rw [if_pos hs]
  ·rename_i hs
   rw [if_neg hs]
   refine rmFits_mono ?_ ?_ hf
   ·unfold stFinish
    split
    ·exact Nat.le_refl _
    ·rename_i m hm
     obtain ⟨k,rfl,_,hk⟩:=mv_some hm
     rw [Int.toNat_natCast]
     unfold stGo
     rw [hm]
     simp only
     split
     ·exact Nat.le_refl _
     ·exact (give_free _ _ _ _ (StM.OkP.step h hk _).rm).1
   ·unfold stFinish
    split
    ·rfl
    ·rename_i m hm
     obtain ⟨k,rfl,_,hk⟩:=mv_some hm
     rw [Int.toNat_natCast]
     unfold stGo
     rw [hm]
     simp only
     split
     ·rfl
     ·rcases hne with e | e
      ·rw [e]
       unfold rmOpen
       rw [rmGet_neg (by omega),rmGet_neg (by omega)]
      ·exact (give_free _ _ _ _ (StM.OkP.step h hk _).rm).2 _ e
theorem toldM_in {q:Plc} {bs:List Int} (hb:InB bs) (i n:Nat):InB (toldM c q bs i n):=fun x hx=>by
 unfold toldM at hx
 obtain ⟨j,_,rfl⟩:=List.mem_map.1 hx
 rw [List.getD_eq_getElem?_getD]
 cases hg:bs[(whereM c q (i+j)).toNat]? with
 |none=>exact ⟨Int.le_refl _,by decide⟩
 |some y=>exact hb y (List.mem_of_getElem? hg)
theorem resize_0 {o size:Int} (h:stResizeE c s o size=0):∃ (j:Nat),∃ t,o=j∧s.th[j]? = some (some t)∧(1≤size∧size≤c.most)∧(staysB c t.size size=true∨(staysB c t.size size=false∧stFits c s size=0)):=by
 unfold stResizeE at h
 by_cases h0:ownedE s o=0
 ·rw [if_neg (fun hn=>hn h0)] at h
  obtain ⟨j,t,rfl,ht⟩:=owned_0 h0
  split at h
  ·exact absurd h (by decide)
  ·rename_i hr
   rw [stSize_of ht] at h
   refine ⟨j,t,rfl,ht,by omega,?_⟩
   split at h
   ·rename_i hs; exact .inl hs
   ·rename_i hs; exact .inr ⟨by simpa using hs,h⟩
 ·rw [if_pos h0] at h; exact absurd h h0
theorem stays_no {old size:Int} (h:staysB c old size=false):pickM c.classes size = -1∨pickM c.classes size≠pickM c.classes old:=by
 unfold staysB at h
 by_cases e:pickM c.classes old=pickM c.classes size
 ·rw [decide_eq_true e,Bool.true_and] at h
  by_cases e1:pickM c.classes old = -1
  ·exact .inl (by omega)
  ·rw [decide_eq_true e1,Bool.true_or] at h; cases h
 ·exact .inr (fun h=>e h.symm)
theorem cls_pick (h:s.OkP c pd) {o:Nat} {t:ThM} (ht:s.th[o]? = some (some t)):t.q.cls=pickM c.classes t.size:=by
 by_cases hp:pickM c.classes t.size = -1
 ·obtain ⟨n,r,_,e,_⟩:=h.large o t ht hp
  rw [e,hp]
 ·exact (h.small o t ht hp).1
structure MoveF (c:Conf) (s:StM) (o:Nat) (t:ThM) (size:Int) (t':ThM):Prop where
 ok1:(stFinish s t.q.cls).Ok c
 th1:(stFinish s t.q.cls).th[o]? = some (some t')
 size':t'.size=t.size
 cls':t'.q.cls=t.q.cls
 pages':t'.q.pages=t.q.pages
 away:StM.OkP c {stFinish s t.q.cls with th:=(stFinish s t.q.cls).th.set o none} (some (o,t'.q))
 fits:stFits c (stFinish s t.q.cls) size=0
 ok2:(stLay c (chgTot (stFinish s t.q.cls) (chargeM c t'.q.plc 0 (min t.size size).toNat)) o size).OkP c (some (o,t'.q))
theorem move_facts22 (h:s.Ok c) {o:Nat} {t:ThM} {size:Int} (ht:s.th[o]? = some (some t)) (hs:staysB c t.size size=false) (hf:stFits c s size=0):∃ t',MoveF c s o t size t':=by
 obtain ⟨t',h1,h2,h3,h4,h5⟩:=fin_who h ht
 have F:=fin_facts h t.q.cls
 have hcp:=cls_pick h ht
 have hf1:=fits_fin (κ:=t.q.cls) h (by rw [hcp]; exact stays_no hs) hf
 have hA:=F.ok.away h1 h5
 refine ⟨t',F.ok,h1,h2,h3,h4,hA,hf1,?_⟩
 have hol:o<(stFinish s t.q.cls).th.length:=(List.getElem?_eq_some_iff.1 h1).1
 have hB:=hA.tot (chargeM c t'.q.plc 0 (min t.size size).toNat)
 have hL:=StM.OkP.lay (o:=o) (size:=size) hB (by show ((stFinish s t.q.cls).th.set o none)[o]? = _; rw [List.getElem?_set_self hol]) hf1 (fun o' q e=>by cases e; rfl)
 have e:chgTot {stFinish s t.q.cls with th:=(stFinish s t.q.cls).th.set o none} (chargeM c t'.q.plc 0 (min t.size size).toNat)={chgTot (stFinish s t.q.cls) (chargeM c t'.q.plc 0 (min t.size size).toNat) with th:=(chgTot (stFinish s t.q.cls) (chargeM c t'.q.plc 0 (min t.size size).toNat)).th.set o none}:=rfl
 rw [e,lay_away] at hL
 exact hL
theorem StM.OkP.moveTo (h:s.Ok c) {o:Nat} {t:ThM} {size:Int} (ht:s.th[o]? = some (some t)) (hs:staysB c t.size size=false) (hf:stFits c s size=0):(stMoveTo c s o size).Ok c:=by
 obtain ⟨t',M⟩:=move_facts22 h ht hs hf
 unfold stMoveTo
 simp only
 rw [stQ_of ht,stQ_of M.th1,stSize_of ht]
 exact (M.ok2.put _ _ (toldM_in M.ok1.bi _ _)).clear
theorem pick_le {zs:List Int} {n:Int} {k:Nat} (h:pickM zs n=(k:Nat)):n≤zs.getD k 0:=by
 unfold pickM at h
 split at h
 ·omega
 ·unfold idx at h
  split at h
  ·rename_i i hi
   obtain ⟨hl,hp,_⟩:=List.findIdx?_eq_some_iff_getElem.1 hi
   obtain rfl:i=k:=by omega
   rw [List.getD_eq_getElem?_getD,List.getElem?_eq_getElem hl]
   exact of_decide_eq_true hp
  ·omega
theorem hold_small (h:s.OkP c pd) {k:Nat} {m:MvM} (hm:s.mv[k]? = some (some m)) {o:Nat} {t:ThM} (ht:s.th[o]? = some (some t)) (hc:t.q.cls=(k:Nat)):t.size≤m.size:=by
 have hcp:=cls_pick h ht
 have a6:=(h.mv k m hm).2.2.2.2.2.1
 rw [hc] at hcp
 rw [a6]
 unfold clsM
 rw [Int.toNat_natCast]
 have hp:pickM c.classes t.size ≠ -1:=by omega
 obtain ⟨_,p1⟩:=pickM_lt hp
 exact pick_le hcp.symm
theorem StM.OkP.resize (h:s.Ok c) (o size:Int):(stResize c s o size).Ok c:=by
 unfold stResize
 split
 ·exact h
 ·rename_i hE
  obtain ⟨j,t,rfl,ht,hr,hs⟩:=resize_0 (Decidable.not_not.1 hE)
  rw [stSize_of ht,stQ_of ht]
  split
  ·rename_i hst
   split
   ·rename_i hlt
    have hP:=h.put t.q size.toNat (zeros_in (t.size - size).toNat)
    have hP1:=StM.OkP.sized hP (o:=j) (t:=t) ht hst hr
    refine hP1.wrote _ _ _ fun m hm => ?_
    have hsz:=h.size j t ht
    have hol:j<s.th.length:=(List.getElem?_eq_some_iff.1 ht).1
    have hg:(stSetTh (stPut c s t.q size.toNat (zeros (t.size - size).toNat)) (j:Nat) ⟨size,t.q⟩).th[j]? = some (some ⟨size,t.q⟩):=by
     show (s.th.set (j:Int).toNat _)[j]? = _
     rw [Int.toNat_natCast,List.getElem?_set_self hol]
    rw [stQ_of hg] at hm
    obtain ⟨k,ek,_,hmk⟩:=mv_some hm
    have:=hold_small h (k:=k) (m:=m) hmk ht ek
    omega
   ·exact h.sized ht hst hr
  ·rename_i hst
   rcases hs with hs | ⟨hs,hf⟩
   ·exact absurd hs hst
   ·exact h.moveTo ht hs hf
theorem within_0 {o i n:Int} (h:withinE s o i n=0):∃ (j:Nat),∃ t,o=j∧s.th[j]? = some (some t)∧0≤i∧0≤n∧i+n≤t.size:=by
 unfold withinE at h
 by_cases h0:ownedE s o=0
 ·rw [if_neg (fun hn=>hn h0)] at h
  obtain ⟨j,t,rfl,ht⟩:=owned_0 h0
  rw [stSize_of ht] at h
  split at h
  ·exact absurd h (by decide)
  ·exact ⟨j,t,rfl,ht,by omega,by omega,by omega⟩
 ·rw [if_pos h0] at h; exact absurd h h0
theorem StM.OkP.read (h:s.Ok c) (o i n:Int):(stRead c s o i n).Ok c:=by
 unfold stRead
 split
 ·exact h.tot _
 ·exact h
theorem StM.OkP.write (h:s.Ok c) (o i:Int) {l:List Int} (hl:InB l):(stWrite c s o i l).Ok c:=by
 unfold stWrite
 split
 ·rename_i hE
  obtain ⟨j,t,rfl,ht,h0,_,h2⟩:=within_0 hE
  refine (h.put _ _ hl).wrote _ _ _ fun m hm => ?_
  have e:stQ (stPut c s (stQ s (j:Nat)) i.toNat l) (j:Nat)=t.q:=stQ_of (s:=stPut c s (stQ s (j:Nat)) i.toNat l) ht
  rw [e] at hm
  obtain ⟨k,ek,_,hmk⟩:=mv_some hm
  have:=hold_small h (k:=k) (m:=m) hmk ht ek
  omega
 ·exact h
theorem StM.OkP.tickK (h:s.Ok c) (n:Int) (k:Nat):(tickK c (s,n) k).1.Ok c:=by
 unfold Go.Proofs.YtnaoiegcobineaaGreatDoor.tickK
 split
 ·exact h
 ·split
  ·exact h.begin k
  ·exact (StM.OkP.begin h k).go k _
theorem tickTo_succ (c:Conf) (s:StM) (n:Nat):tickTo c s (n+1)=tickK c (tickTo c s n) n:=by
 unfold tickTo
 rw [List.range_succ,List.foldl_append]
 rfl
theorem StM.OkP.tickTo (h:s.Ok c):∀ n,(tickTo c s n).1.Ok c
 |0=>h
 |n+1=>by rw [tickTo_succ]; exact StM.OkP.tickK (StM.OkP.tickTo h n) _ _
theorem StM.OkP.tick (h:s.Ok c):(stTick c s).Ok c:=h.tickTo _
theorem StM.OkP.set (h:s.Ok c) (k keep:Int):(stSet s k keep).Ok c:=by
 unfold stSet
 split
 ·rename_i hE
  unfold stSetE at hE
  split at hE
  ·exact absurd hE (by decide)
  ·refine ⟨h.may,h.rm,by show (s.keep.set _ _).length=_; rw [List.length_set]; exact h.kl,fun x hx => ?_,h.bl,h.bi,h.tl,h.ml,h.size,h.small,h.large,h.linj,h.mv,h.own,h.ps,h.pl⟩
   rcases List.mem_or_eq_of_mem_set hx with hx | rfl
   ·exact h.kr x hx
   ·omega
 ·exact h
end
end Go.Proofs.YtnaoiegcobineaaGreatDoor
namespace Go.Proofs.YtnaoiegcobineaaGreatDoor
open Go.RowKit
structure Ext (F:Nat→Prop) (w:World) (R:Rm) (z:Nat):Prop where
 f:¬ F z
 rb:R.rb≠z
 sb:R.sb≠z
 tb:0≠z
 ca:∀ off s,R.p.ca≠some ⟨z,off,s⟩
 ka:∀ off s,R.p.ka≠some ⟨z,off,s⟩
 lb:kd w z≠some (some 264)
 pg:kd w z≠some (some 260)
 int:kd w z=some (some 3)→R.X z
theorem RmSt.other {F S:Nat→Prop} {w w':World} {R:Rm} {M:RmM} (h:RmSt F w R M) (hc:Chg S w w') (hS:∀ z,S z→Ext F w R z):RmSt F w' R M:=by
 have kp:=h.pool.kds
 have hsz:=hc.size
 have out:∀ {a:Option Addr} {l:List Int},Far F w a l→(∀ z,S z → ∀ off s,a≠some ⟨z,off,s⟩)→Far F w' a l:=fun {a l} g hg=>⟨g.1.far (fun b off s e hz=>hg b hz off s e) hc,g.2⟩
 have pb:¬ S R.P.pb:=fun hz=>(hS _ hz).f (h.pf _ (.inl rfl))
 have ab:¬ S R.P.ab:=fun hz=>(hS _ hz).f (h.pf _ (.inr rfl))
 refine ⟨h.ok,hc.heap h.obj (fun hz=>(hS _ hz).rb rfl),out h.cls (fun z hz=>(hS z hz).ca),out h.kee (fun z hz=>(hS z hz).ka),h.may,fun b hb => ?_,fun k hk'=>hc.cell (h.sl k hk') (fun hz=>(hS _ hz).sb rfl),h.pool.chg hc pb ab,h.pf,?_,h.lg.chg hc (fun z hz e => .inr ((hS z e).int hz)) (fun hz=>(hS _ hz).f h.lf),h.lf,h.rf,h.sf,fun z hz=>by have:=h.low z hz; omega,h.tab.chg hc (fun hz=>(hS _ hz).tb rfl),h.tf,fun z hz=>⟨by have:=(h.xl z hz).1; omega,(h.xl z hz).2⟩⟩
 ·obtain ⟨h1,hm⟩:=h.met b hb
  exact ⟨h1,hc.heap hm.1 (fun e=>(hS _ e).f h1),hm.2⟩
 ·obtain ⟨G,a,e⟩:=h.sh
  refine ⟨G,fun k x hx => ?_,e⟩
  obtain ⟨h1,h2,h3⟩:=a k x hx
  have k:=h2.at'.kds
  have nf:∀ z,S z → ¬ shFoot (R.S _) (G _) x.pg z:=fun z hz hf=>(hS z hz).f (h3 z hf).1
  exact ⟨h1,⟨h2.ok,h2.pos,h2.of,h2.at'.chg hc (fun z hz=>⟨fun e=>nf z hz (.inl e),fun e=>nf z hz (.inr (.inl e)),fun e=>(hS z hz).lb (e▸k.lb),fun e=>nf z hz (.inr (.inr (.inl e)))⟩) (fun z hz e he=>⟨fun e'=>(hS z hz).pg (e'▸(h2.at'.pages e he).kds.p),fun e'=>nf z hz (.inr (.inr (.inr ⟨e,he,e'⟩)))⟩) (fun hz=>(hS _ hz).tb rfl),h2.pool.chg hc (by rw [h1]; exact pb) (by rw [h1]; exact ab)⟩,h3⟩
theorem RmTo.keep {F:Nat→Prop} {w w':World} {R:Rm} {M:RmM} (h:RmTo F w w' R M) {z:Nat} {o:Obj} (hz:w.heap[z]? = some o) (hf:¬ F z):∃ F',RmSt F' w' R M∧(∀ z,F' z→F z∨w.heap.size≤z)∧Chg F w w'∧w'.heap[z]? = some o ∧ ¬ F' z:=by
 obtain ⟨F',a,b,c⟩:=h
 exact ⟨F',a,b,c,c.heap hz hf,fun h=>(b z h).elim hf (fun h=>by have:=lt_of_heap hz; omega)⟩
end Go.Proofs.YtnaoiegcobineaaGreatDoor
namespace Go.Proofs.YtnaoiegcobineaaGreatDoor
open Go.RowKit
theorem sub_zeros {n off m:Nat} (h:off+m≤n):sub (zeros n) off m=List.replicate m 0:=by
 unfold sub zeros
 rw [List.drop_replicate,List.take_replicate,Nat.min_eq_left (by omega)]
theorem view_Zero1 (v:Vw) (vb:Nat) (A:Ar) (V:ArV) (i m:Nat) (w:World) (hvb:ptrBox w vb v) (hv:w.heap[v.vb]? = some (.cells (vwL v).toArray 157 (0,0))) (hab:v.ab=A.ab) (hA:ArOk w A V) (him:i+m≤V.bs.length) :
 Does Tryz.prog 150 #[.int .i64 i,.int .i64 m,.pointer (some ⟨vb,0,none⟩)] w (fun _ w'=>ArOk w' A {V.charge A m with bs:=wrB V.bs i (List.replicate m 0)}∧Chg (foot A) w w'):=by
 refine Does.enter Tryz.func150 rfl Tryz.ntmps150 rfl rfl ?_
 refine Goes.adv hTT 400 rfl ?_
 refine Goes.loadb hTT rfl hvb rfl rfl ?_
 refine Goes.loadb hTT rfl hv rfl rfl ?_
 rw [hab]
 refine Goes.call rfl (arena_Fill A V i m 0 w hA him (by decide)) ?_
 rintro _ w1 ⟨rfl,hA1,hs1⟩
 refine Goes.adv hTT 400 rfl ?_
 exact Goes.ret0 hTT rfl Tryz.func150 rfl ⟨hA1,hs1⟩
theorem view_Zero (v:Vw) (q:Plc) (at' n:Nat) (A:Ar) (V:ArV) (w:World) (hv:VwOk w v) (hq:PlcOk w q) (hmb:v.mb=A.mb) (hab:v.ab=A.ab) (hck:checkM v.c q at' n=0) (hfew:q.pages.length≤4096)
 (hPv:¬ foot A v.vb) (hPq:0<q.pages.length→OutA (foot A) q.pa) (hPc:0<v.c.classes.length→OutA (foot A) v.p.ca) (hPk:0<v.c.keep.length→OutA (foot A) v.p.ka) (hA:ArOk w A V) (hlen:(V.bs.length:Int)=v.c.size*v.c.pages) :
 Does Tryz.prog 88 #[vwV v,.agg (plcL q).toArray,.int .i64 at',.int .i64 n] w (fun u w'=>u = .int .i64 0∧ArOk w' A (vsW q A V (partsM v.c q at' n) (zeros n) (partsM v.c q at' n).length)∧Chg (foot A) w w'):=by
 obtain ⟨ps,hps⟩:∃ ps,ps=partsM v.c q at' n:=⟨_,rfl⟩
 have hpin:∀ p ∈ ps,∃ i m:Nat,p=((i:Int),(m:Int))∧i+m≤V.bs.length:=fun p hp=>by
  obtain ⟨i,m,h1,h2⟩:=parts_in hv.may hck hfew p (hps▸hp)
  exact ⟨i,m,h1,by omega⟩
 have htot:totalM ps=n:=by rw [hps]; exact parts_total hv.may
 have hzl:(zeros n).length=n:=List.length_replicate
 rw [← hps]
 refine Does.enter Tryz.func88 rfl Tryz.ntmps88 rfl rfl ?_
 refine Goes.adv hTT 400 rfl ?_
 refine Goes.alloc hTT rfl ?_
 intro vb w1 e1 hvb hw1 hz1
 refine Goes.adv hTT 400 rfl ?_
 refine Goes.alloc hTT rfl ?_
 intro qb w2 e2 hqb hw2 hz2
 refine Goes.adv hTT 400 rfl ?_
 replace hqb:plcBox w2 qb q:=hqb
 have hw:=hw1.trans hw2
 have hvb2:ptrBox w2 vb v:=hw2.heap' hvb
 refine Goes.loadb hTT rfl hvb2 rfl rfl ?_
 refine Goes.loads hTT rfl hqb rfl rfl ?_
 have hflt:=foot_lt hA
 have hmf:∀ z,mFoot A z→foot A z:=fun z h => .inr h
 have hvl:=lt_of_heap hv.obj
 have hE:=view_each v q at' n 150 [.pointer (some ⟨vb,0,none⟩)] A (vsW q A V ps (zeros n))
  (fun k Y x=>(∀ z,Y z↔foot A z)∧ptrBox x vb v∧x.heap[v.vb]? = some (.cells (vwL v).toArray 157 (0,0))∧w2.heap.size≤x.heap.size)
  (foot A) w2 (hv.grow hw) (hq.grow hw) hmb hck hfew
  (by rintro (h | h); exact hPv h; exact hPv (hmf _ h))
  (hq.rd.outNew hPq (fun z hz=>by rcases hz with h | h; exact .inl h; exact .inl (hmf _ h)))
  (hv.conf.classes.outNew hPc (fun z hz=>by rcases hz with h | h; exact .inl h; exact .inl (hmf _ h)))
  (hv.conf.keep.outNew hPk (fun z hz=>by rcases hz with h | h; exact .inl h; exact .inl (hmf _ h)))
  (by
   rintro k Y x ⟨h5,h6,h7,h8⟩ z hz
   have:=hflt z ((h5 z).1 hz)
   omega)
  (by
   rintro k Y x y S ⟨h5,h6,h7,h8⟩ hs hS
   have no:∀ z,z<w2.heap.size → ¬ mFoot A z → ¬ S z:=fun z hz hm h=>(hS z h).elim hm (fun h=>by omega)
   exact ⟨h5,hs.heap h6 (no _ (by omega) (fun h=>by have:=hflt _ (hmf _ h); omega)),hs.heap h7 (no _ (by omega) (fun h=>hPv (hmf _ h))),Nat.le_trans h8 hs.size⟩)
  (by
   rintro k Y x hk hAx ⟨h5,h6,h7,h8⟩
   rw [← hps] at hk
   obtain ⟨i,m,hp,him⟩:=hpin ps[k] (List.getElem_mem hk)
   have hbs:(chgL q A (vsW q A V ps (zeros n) k)).bs=(vsW q A V ps (zeros n) k).bs:=chgL_bs _ _ _
   have hbl2:(vsW q A V ps (zeros n) k).bs.length=V.bs.length:=vsW_len hpin (by rw [hzl]; exact htot) (by omega)
   have htk:=totalM_take hk
   rw [hp] at htk
   simp only [Int.toNat_natCast] at htk
   have hR:=view_Zero1 v vb A (chgL q A (vsW q A V ps (zeros n) k)) i m x h6 h7 hab hAx (by rw [hbs,hbl2]; exact him)
   simp only [← hps]
   rw [hp]
   refine hR.mono fun _ y ⟨a1,a2⟩ => ?_
   rw [hbs] at a1
   refine ⟨by rw [vsW_succ hk hp,sub_zeros (by omega)]; exact a1,a2.mono fun z _ hz=>(h5 z).2 hz,Y,⟨h5,?_,?_,Nat.le_trans h8 a2.size⟩,fun z hz => .inl hz⟩
   ·exact a2.heap h6 (fun h=>by have:=hflt _ h; omega)
   ·exact a2.heap h7 hPv)
  (hA.grow hw) ⟨fun z=>Iff.rfl,hvb2,hw.heap' hv.obj,Nat.le_refl _⟩
 rw [← hps] at hE
 refine Goes.call rfl (hE) ?_
 rintro _ w4 ⟨rfl,hA4,_,hs4⟩
 refine Goes.adv hTT 400 rfl ?_
 have hch:Chg (foot A) w w4:=(hw.mono fun _ _ h=>h.elim).since hs4 (fun z hz h=>by rcases h with h | h; exact h; exact hmf _ h)
 exact Goes.ret1 hTT rfl Tryz.func88 rfl rfl ⟨rfl,hA4,hch⟩
end Go.Proofs.YtnaoiegcobineaaGreatDoor
namespace Go.Proofs.YtnaoiegcobineaaGreatDoor
open Go.RowKit
structure Sto where
 sb:Nat
 c:Conf
 p:ConfAt
 kb:Nat
 kc:Nat
 kr:List Value
 mb:Nat
 A:Ar
 R:Rm
 v:Vw
 tm:Nat
 vb:Nat
 vc:Nat
abbrev stoV (S:Sto):Value := .pointer (some ⟨S.sb,0,none⟩)
def stoL (S:Sto) (nk nm:Nat) (by':Int):List Value:=confL S.c S.p ++ [.slice (some ⟨S.kb,0,none⟩) nk S.kc,.pointer (some ⟨S.mb,0,none⟩),.pointer (some ⟨S.A.ab,0,none⟩),rmV S.R,vwV S.v,.map (some S.tm),.slice (some ⟨S.vb,0,none⟩) nm S.vc,.int .i64 by']
def thL (size:Int) (q:Plc):List Value := .int .i64 size::plcL q
abbrev Mo:=List (Option (Nat × MvM))
def mverL:Option (Nat × MvM)→List Value
 |none => [.pointer none,.int .i64 0,.int .i64 0,.int .i64 0,.int .i64 0,.int .i64 0]
 |some (b,m) => [.pointer (some ⟨b,0,none⟩),.int .i64 m.who,.int .i64 m.pf,.int .i64 m.fa,.int .i64 m.pt,.int .i64 m.ta]
theorem mverL_len (x:Option (Nat × MvM)):(mverL x).length=6:=by cases x <;> rfl
def moMv (mo:Mo):List (Option MvM):=mo.map fun x=>x.map (·.2)
abbrev arV (S:Sto) (s:StM):ArV:=⟨s.bs,s.rm.tot,S.R.lap⟩
abbrev mvAt (b:Nat) (m:MvM):Mv:=⟨b,m.f,m.t,m.size⟩
def IntA (w:World) (a:Option Addr):Prop := ∀ b off s,a=some ⟨b,off,s⟩→kd w b=some (some 3)
theorem IntA.lt {w:World} {a:Option Addr} (h:IntA w a):ALt w a:=fun b off s e=>kd_lt (h b off s e)
theorem IntA.chg {S:Nat→Prop} {w w':World} {a:Option Addr} (h:IntA w a) (hc:Chg S w w') (hS:OutA S a):IntA w' a:=fun b off s e=>kd_chg hc (h b off s e) (hS b off s e)
theorem IntA.grow {w w':World} {a:Option Addr} (h:IntA w a) (hc:Chg None' w w'):IntA w' a:=h.chg hc (fun _ _ _ _ h=>h)
def ThIs (F:Nat→Prop) (w:World) (tm:Nat) (th:List (Option ThM)) (al:AL):Prop:=MapAt w tm al∧(akeys al).Nodup ∧
 (∀ (o:Nat) t,th[o]? = some (some t) → ∃ q:Plc,plcP q=t.q∧alook al o=some (.agg (thL t.size q).toArray)∧PlcOk w q∧OutA F q.pa∧IntA w q.pa) ∧ ∀ k:Int,(∀ (o:Nat) t,th[o]? = some (some t)→(o:Int)≠k)→alook al k=none
def ThAt (F:Nat→Prop) (w:World) (tm:Nat) (th:List (Option ThM)):Prop := ∃ al,ThIs F w tm th al
theorem ThAt.far {F S:Nat→Prop} {w w':World} {tm:Nat} {th:List (Option ThM)} (h:ThAt F w tm th) (hc:Chg S w w') (hS:∀ z,S z→F z) (hm:¬ S tm):ThAt F w' tm th:=by
 obtain ⟨al,a,b,d,e⟩:=h
 exact ⟨al,a.chg hc hm,b,fun o t ht=>by
  obtain ⟨q,g1,g2,g3,g4,g5⟩:=d o t ht
  exact ⟨q,g1,g2,⟨g3.rd.far (g4.mono hS) hc,g3.len⟩,g4,g5.chg hc (g4.mono hS)⟩,e⟩
theorem ThAt.wide {F F':Nat→Prop} {w:World} {tm:Nat} {th:List (Option ThM)} (h:ThAt F w tm th) (hF:∀ z,F' z→F z∨w.heap.size≤z):ThAt F' w tm th:=by
 obtain ⟨al,a,b,d,e⟩:=h
 exact ⟨al,a,b,fun o t ht=>by
  obtain ⟨q,g1,g2,g3,g4,g5⟩:=d o t ht
  exact ⟨q,g1,g2,g3,fun b off s e hz=>(hF b hz).elim (g4 b off s e) (fun h=>by have:=kd_lt (g5 b off s e); omega),g5⟩,e⟩
structure StoOk (F Fr:Nat→Prop) (w:World) (S:Sto) (s:StM) (by':Int) (mo:Mo):Prop where
 obj:w.heap[S.sb]? = some (.cells (stoL S s.keep.length s.mv.length by').toArray 88 (0,0))
 kee:w.heap[S.kb]? = some (.cells (s.keep.map (Value.int .i64)++S.kr).toArray 3 (0,0))
 kcap:s.keep.length≤S.kc
 room:RmSt Fr w S.R s.rm
 ar:ArOk w S.A (arV S s)
 vw:VwOk w S.v
 th:ThAt F w S.tm s.th
 mvs:w.heap[S.vb]? = some (.cells (fl mverL mo).toArray 117 (0,0))
 mvc:s.mv.length≤S.vc
 mom:moMv mo=s.mv
 mob:∀ (k b:Nat) m,mo[k]? = some (some (b,m))→w.heap[b]? = some (.cells (mvCells S.A (mvAt b m) m.gone).toArray 184 (0,0))∧F b ∧ ¬ Fr b
 mdj:∀ (j k b:Nat) m m',mo[j]? = some (some (b,m))→mo[k]? = some (some (b,m'))→j=k
 rc:S.R.c=S.c
 rp:S.R.p=S.p
 rmo:S.R.mo=some S.mb
 rX:S.R.X=fun z=>z=S.kb
 amb:S.A.mb=some S.mb
 vc:S.v.c=S.c
 vp:S.v.p=S.p
 vab:S.v.ab=S.A.ab
 vmb:S.v.mb=some S.mb
 f1:∀ z,Fr z→F z
 f2:F S.sb∧F S.kb∧F S.A.db∧F S.tm∧F S.vb
 nr:¬ Fr S.sb ∧ ¬ Fr S.kb ∧ ¬ Fr S.A.db ∧ ¬ Fr S.tm ∧ ¬ Fr S.vb
 nF:¬ F S.A.ab ∧ ¬ F S.A.mc ∧ ¬ F S.v.vb ∧ ¬ F S.R.rb ∧ ¬ F S.R.sb ∧ ¬ F 0
 ca:Far F w S.p.ca S.c.classes
 ka:Far F w S.p.ka S.c.keep
 low:∀ z,F z→z<w.heap.size
section
variable {F Fr:Nat→Prop} {w w':World} {S:Sto} {s:StM} {by':Int} {mo:Mo}
theorem StoOk.lt (h:StoOk F Fr w S s by' mo):S.sb<w.heap.size∧S.kb<w.heap.size∧S.A.db<w.heap.size∧S.tm<w.heap.size∧S.vb<w.heap.size :=
 ⟨h.low _ h.f2.1,h.low _ h.f2.2.1,h.low _ h.f2.2.2.1,h.low _ h.f2.2.2.2.1,h.low _ h.f2.2.2.2.2⟩
theorem ThAt.kd (h:ThAt F w S.tm s.th):kd w S.tm=some none:=by
 obtain ⟨al,a,_⟩:=h
 exact kd_map a
theorem StoOk.mb (h:StoOk F Fr w S s by' mo):F S.mb∧Fr S.mb∧MeterAt w S.mb s.rm.tot S.R.lap:=by
 obtain ⟨a,b⟩:=h.room.met _ h.rmo
 exact ⟨h.f1 _ a,a,b⟩
theorem StoOk.ext (h:StoOk F Fr w S s by' mo) {z:Nat} {x:Option Nat} (hF:F z) (hn:¬ Fr z) (hk:kd w z=some x) (hx:∀ t,x=some t→t≠264∧t≠260∧t≠152∧(t=3→z=S.kb)):Ext Fr w S.R z:=by
 obtain ⟨n1,n2,n3,n4,n5,n6⟩:=h.nF
 have hm:=may_facts h.room.may
 have far:∀ {a:Option Addr} {l:List Int},Far F w a l→0<l.length → ∀ off s,a≠some ⟨z,off,s⟩:=fun g hl off s e=>g.2 hl z off s e hF
 have hrc:=h.rc
 refine ⟨hn,fun e=>n4 (e▸hF),fun e=>n5 (e▸hF),fun e=>n6 (e▸hF),?_,?_,fun e => ?_,fun e => ?_,fun e => ?_⟩
 ·rw [h.rp]; exact far h.ca (by rw [hrc] at hm; have:=hm.n; omega)
 ·rw [h.rp]; exact far h.ka (by rw [hrc] at hm; have:=hm.keep; have:=hm.n; omega)
 ·rw [hk] at e; exact (hx _ (Option.some.inj e)).1 rfl
 ·rw [hk] at e; exact (hx _ (Option.some.inj e)).2.1 rfl
 ·rw [hk] at e
  rw [h.rX]
  exact (hx _ (Option.some.inj e)).2.2.2 rfl
theorem StoOk.ext' (h:StoOk F Fr w S s by' mo) {z t:Nat} (hF:F z) (hn:¬ Fr z) (hk:kd w z=some (some t)) (ht:t≠264∧t≠260∧t≠152∧t≠3):Ext Fr w S.R z :=
 h.ext hF hn hk (fun t' e=>by cases e; exact ⟨ht.1,ht.2.1,ht.2.2.1,fun e=>absurd e ht.2.2.2⟩)
theorem StoOk.extMap (h:StoOk F Fr w S s by' mo):Ext Fr w S.R S.tm:=h.ext h.f2.2.2.2.1 h.nr.2.2.2.1 h.th.kd (fun t e=>by cases e)
theorem StoOk.extKeep (h:StoOk F Fr w S s by' mo):Ext Fr w S.R S.kb:=h.ext h.f2.2.1 h.nr.2.1 (kd_cells h.kee) (fun t e=>by cases e; exact ⟨by decide,by decide,by decide,fun _=>rfl⟩)
theorem StoOk.grow (h:StoOk F Fr w S s by' mo) (hc:Chg None' w w'):StoOk F Fr w' S s by' mo :=
 {h with
  obj:=hc.heap' h.obj,kee:=hc.heap' h.kee,room:=h.room.grow hc,ar:=h.ar.grow hc,vw:=h.vw.grow hc,th:=h.th.far hc (fun _ h=>h.elim) id,mvs:=hc.heap' h.mvs,
  mob:=fun k b m hm=>by obtain ⟨a,d⟩:=h.mob k b m hm; exact ⟨hc.heap' a,d⟩,
  ca:=h.ca.chg hc (fun _ h=>h.elim),ka:=h.ka.chg hc (fun _ h=>h.elim),low:=fun z hz=>by have:=h.low z hz; have:=hc.size; omega}
structure ExtS (F:Nat→Prop) (w:World) (S:Sto) (z:Nat):Prop where
 f:¬ F z
 e1:S.A.ab≠z∧S.A.mc≠z∧S.v.vb≠z∧S.R.rb≠z∧S.R.sb≠z∧0≠z
 ca:∀ off s,S.p.ca≠some ⟨z,off,s⟩
 ka:∀ off s,S.p.ka≠some ⟨z,off,s⟩
 kd:∃ t,kd w z=some (some t)∧t≠264∧t≠260∧t≠3
def ThOut (S:Nat→Prop) (w:World) (tm:Nat):Prop := ∀ al,MapAt w tm al → ∀ (k:Int) sz (q:Plc),alook al k=some (.agg (thL sz q).toArray)→OutA S q.pa
theorem StoOk.other {T:Nat→Prop} (h:StoOk F Fr w S s by' mo) (hc:Chg T w w') (hT:∀ z,T z→ExtS F w S z) (ho:ThOut T w S.tm):StoOk F Fr w' S s by' mo:=by
 have nf:∀ {z:Nat},F z → ¬ T z:=fun hf ht=>(hT _ ht).f hf
 have hext:∀ z,T z→Ext Fr w S.R z:=fun z hz=>by
  have e:=hT z hz
  obtain ⟨t,k1,k2,k3,k4⟩:=e.kd
  have d:∀ {t':Nat},t≠t'→Go.Proofs.YtnaoiegcobineaaGreatDoor.kd w z≠some (some t'):=fun h e=>h (Option.some.inj (Option.some.inj (k1.symm.trans e)))
  exact ⟨fun hf=>e.f (h.f1 z hf),e.e1.2.2.2.1,e.e1.2.2.2.2.1,e.e1.2.2.2.2.2,by rw [h.rp]; exact e.ca,by rw [h.rp]; exact e.ka,d k2,d k3,fun e=>absurd e (d k4)⟩
 have far:∀ {a:Option Addr} {l:List Int},Far F w a l→(∀ z,T z → ∀ off s,a≠some ⟨z,off,s⟩)→Far F w' a l:=fun g hg=>⟨g.1.far (fun b off s e hz=>hg b hz off s e) hc,g.2⟩
 have hvw:VwOk w' S.v:=⟨hc.heap h.vw.obj (fun hz=>(hT _ hz).e1.2.2.1 rfl),by
  have:=h.vw.conf
  rw [h.vc,h.vp] at this ⊢
  exact ⟨this.classes.far (fun b off s e hz=>(hT b hz).ca off s e) hc,this.keep.far (fun b off s e hz=>(hT b hz).ka off s e) hc,this.lc,this.lk,this.size⟩,h.vw.may⟩
 refine {h with
  obj:=hc.heap h.obj (nf h.f2.1),kee:=hc.heap h.kee (nf h.f2.2.1),room:=h.room.other hc hext,
  ar:=h.ar.chg hc (fun b hb hz => ?_),vw:=hvw,th := ?_,mvs:=hc.heap h.mvs (nf h.f2.2.2.2.2),
  mob:=fun k b m hm=>by obtain ⟨a,d⟩:=h.mob k b m hm; exact ⟨hc.heap a (nf d.1),d⟩,
  ca:=far h.ca (fun z hz=>(hT z hz).ca),ka:=far h.ka (fun z hz=>(hT z hz).ka),low:=fun z hz=>by have:=h.low z hz; have:=hc.size; omega}
 ·rcases hb with rfl | rfl | rfl | hb
  ·exact (hT _ hz).e1.1 rfl
  ·exact nf h.f2.2.2.1 hz
  ·exact (hT _ hz).e1.2.1 rfl
  ·rw [h.amb] at hb; cases hb; exact nf h.mb.1 hz
 ·have ho':=ho
  obtain ⟨al,a,b,d,e⟩:=h.th
  exact ⟨al,a.chg hc (nf h.f2.2.2.2.1),b,fun o t ht=>by
   obtain ⟨q,g1,g2,g3,g4,g5⟩:=d o t ht
   exact ⟨q,g1,g2,⟨g3.rd.far (ho' al a _ _ _ g2) hc,g3.len⟩,g4,g5.chg hc (ho' al a _ _ _ g2)⟩,e⟩
theorem StoOk.own {T:Nat→Prop} (h:StoOk F Fr w S s by' mo) (hc:Chg T w w') (hT:∀ z,T z→F z∧Ext Fr w S.R z) :
 RmSt Fr w' S.R s.rm∧VwOk w' S.v∧(¬ T S.tm→ThAt F w' S.tm s.th)∧(¬ T S.A.db→ArOk w' S.A (arV S s))∧Far F w' S.p.ca S.c.classes∧Far F w' S.p.ka S.c.keep∧(∀ z,F z→z<w'.heap.size)∧MeterAt w' S.mb s.rm.tot S.R.lap:=by
 obtain ⟨n1,n2,n3,n4,n5,n6⟩:=h.nF
 have hmT:¬ T S.mb:=fun hz=>(hT _ hz).2.f h.mb.2.1
 have hcF:Chg F w w':=hc.mono fun z _ hz=>(hT z hz).1
 refine ⟨h.room.other hc (fun z hz=>(hT z hz).2),⟨hc.heap h.vw.obj (fun hz=>n3 (hT _ hz).1),?_,h.vw.may⟩,fun hm=>h.th.far hc (fun z hz=>(hT z hz).1) hm,fun hd=>h.ar.chg hc (fun b hb hz => ?_),h.ca.chg hc (fun z hz=>(hT z hz).1),h.ka.chg hc (fun z hz=>(hT z hz).1),fun z hz=>by have:=h.low z hz; have:=hc.size; omega,h.mb.2.2.1 |> fun hh=>⟨hc.heap hh hmT,h.mb.2.2.2⟩⟩
 ·have:=h.vw.conf
  rw [h.vc,h.vp] at this ⊢
  exact ⟨(h.ca.chg hc (fun z hz=>(hT z hz).1)).1,(h.ka.chg hc (fun z hz=>(hT z hz).1)).1,this.lc,this.lk,this.size⟩
 ·rcases hb with rfl | rfl | rfl | hb
  ·exact n1 (hT _ hz).1
  ·exact hd hz
  ·exact n2 (hT _ hz).1
  ·rw [h.amb] at hb; cases hb; exact hmT hz
end
end Go.Proofs.YtnaoiegcobineaaGreatDoor
namespace Go.Proofs.YtnaoiegcobineaaGreatDoor
open Go.RowKit
theorem RmSt.charge2 {F T:Nat→Prop} {w w':World} {R:Rm} {M:RmM} (h:RmSt F w R M) {b:Nat} (hb:R.mo=some b) {t:Int} (hm:MeterAt w' b t R.lap) (hc:Chg T w w') (hT:∀ z,T z→z=b∨Ext F w R z):RmSt F w' R {M with tot:=t}:=by
 obtain ⟨hF,hm0⟩:=h.met b hb
 have kb:=kd_meter hm0
 have kp:=h.pool.kds
 have hsz:=hc.size
 have no:∀ {z:Nat} {x:Option Nat},kd w z=some x→x≠some 143 → ¬ Ext F w R z → ¬ T z:=fun hk hx hn hz=>by
  rcases hT _ hz with e | e
  ·subst e; rw [kb] at hk; exact hx (Option.some.inj hk).symm
  ·exact hn e
 have mf:∀ {z:Nat} {x:Option Nat},kd w z=some x→x≠some 143→F z → ¬ T z:=fun hk hx hf=>no hk hx (fun e=>e.f hf)
 have out:∀ {a:Option Addr} {l:List Int},Far F w a l→(∀ z,Ext F w R z → ∀ off s,a≠some ⟨z,off,s⟩)→Far F w' a l:=fun {a l} g hg=>by
  refine ⟨?_,g.2⟩
  by_cases hl:0<l.length
  ·exact g.1.far (fun b' off s e hz=>by
    rcases hT _ hz with e' | e'
    ·subst e'; exact g.2 hl b' off s e hF
    ·exact hg b' e' off s e) hc
  ·have:l = []:=List.eq_nil_of_length_eq_zero (by omega)
   subst this
   exact Rd.nil _ _ _
 have rbn:¬ T R.rb:=fun hz=>(hT _ hz).elim (fun e=>h.rf (e▸hF)) (fun e=>e.rb rfl)
 have sbn:¬ T R.sb:=fun hz=>(hT _ hz).elim (fun e=>h.sf (e▸hF)) (fun e=>e.sb rfl)
 have tbn:¬ T 0:=fun hz=>(hT _ hz).elim (fun e=>h.tf (e▸hF)) (fun e=>e.tb rfl)
 have pb:=mf kp.1 (by decide) (h.pf _ (.inl rfl))
 have ab:=mf kp.2 (by decide) (h.pf _ (.inr rfl))
 refine ⟨{h.ok with tot:=by have:=hm.2; show 0≤t∧t≤4611686018427387904; omega},hc.heap h.obj rbn,out h.cls (fun z e=>e.ca),out h.kee (fun z e=>e.ka),h.may,fun b' hb' => ?_,fun k hk=>hc.cell (h.sl k hk) sbn,h.pool.chg hc pb ab,h.pf,?_,h.lg.chg hc (fun z hz e=>(hT z e).elim (fun e => .inl (e▸hF)) (fun e => .inr (e.int hz))) (mf (kd_lg h.lg) (by simp) h.lf),h.lf,h.rf,h.sf,fun z hz=>by have:=h.low z hz; omega,h.tab.chg hc tbn,h.tf,fun z hz=>⟨by have:=(h.xl z hz).1; omega,(h.xl z hz).2⟩⟩
 ·rw [hb] at hb'; cases hb'; exact ⟨hF,hm⟩
 ·obtain ⟨G,a,d⟩:=h.sh
  refine ⟨G,fun k x hx => ?_,d⟩
  obtain ⟨h1,h2,h3⟩:=a k x hx
  have k:=h2.at'.kds
  have ap:=h2.at'.apart kb (by decide)
  have nf:∀ z,Ext F w R z → ¬ shFoot (R.S _) (G _) x.pg z:=fun z hz hf=>hz.f (h3 z hf).1
  refine ⟨h1,⟨h2.ok,h2.pos,h2.of,h2.at'.chg hc (fun z hz => ?_) (fun z hz => ?_) tbn,h2.pool.chg hc (by rw [h1]; exact pb) (by rw [h1]; exact ab)⟩,h3⟩
  ·rcases hT z hz with e | hz
   ·subst e; exact ap.1
   ·exact ⟨fun e=>nf z hz (.inl e),fun e=>nf z hz (.inr (.inl e)),fun e=>hz.lb (e▸k.lb),fun e=>nf z hz (.inr (.inr (.inl e)))⟩
  ·rcases hT z hz with e | hz
   ·subst e; exact ap.2
   ·exact fun e he=>⟨fun e'=>hz.pg (e'▸(h2.at'.pages e he).kds.p),fun e'=>nf z hz (.inr (.inr (.inr ⟨e,he,e'⟩)))⟩
section
variable {F Fr:Nat→Prop} {w w':World} {S:Sto} {s:StM} {by':Int} {mo:Mo}
theorem ThIs.put {tm:Nat} {th:List (Option ThM)} {al:AL} (h:ThIs F w tm th al) {o:Nat} {size:Int} {q:Plc} {qm:PlcM} (hq:plcP q=qm) (ho:o<th.length) (hm:MapAt w' tm (aput al (o:Nat) (.agg (thL size q).toArray))) (hc:Chg (fun z=>z=tm) w w') (ht:F tm) (hp:PlcOk w q) (hF:OutA F q.pa) (hl:IntA w q.pa):ThAt F w' tm (th.set o (some ⟨size,qm⟩)):=by
 obtain ⟨h1,h2,h3,h4⟩:=h
 have up:∀ {q:Plc},PlcOk w q→OutA F q.pa→PlcOk w' q:=fun a b=>⟨a.rd.far (b.mono (S':=fun z=>z=tm) fun z e=>e▸ht) hc,a.len⟩
 refine ⟨_,hm,nodup_put h2 _ _,fun o1 t1 g1 => ?_,fun k hk => ?_⟩
 ·rcases tset g1 with ⟨rfl,rfl⟩ | ⟨hne,g1⟩
  ·exact ⟨q,hq,by rw [alook_put,if_pos rfl],up hp hF,hF,hl.chg hc (hF.mono (S':=fun z=>z=tm) fun z e=>e▸ht)⟩
  ·obtain ⟨q1,a1,a2,a3,a4,a5⟩:=h3 o1 t1 g1
   exact ⟨q1,a1,by rw [alook_put,if_neg (by omega)]; exact a2,up a3 a4,a4,a5.chg hc (a4.mono (S':=fun z=>z=tm) fun z e=>e▸ht)⟩
 ·have hko:(o:Int)≠k:=hk o _ (List.getElem?_set_self ho)
  rw [alook_put,if_neg (fun e=>hko e.symm)]
  refine h4 k fun o1 t1 g1 => ?_
  by_cases e:o1=o
  ·subst e; exact hko
  ·exact hk o1 t1 (tkeep e g1)
theorem ThIs.del {tm:Nat} {th:List (Option ThM)} {al:AL} (h:ThIs F w tm th al) {o:Nat} (hm:MapAt w' tm (adel al (o:Nat))) (hc:Chg (fun z=>z=tm) w w') (ht:F tm):ThAt F w' tm (th.set o none):=by
 obtain ⟨h1,h2,h3,h4⟩:=h
 refine ⟨_,hm,nodup_del h2 _,fun o1 t1 g1 => ?_,fun k hk => ?_⟩
 ·rcases set_opt g1 with ⟨_,e,_⟩ | ⟨hne,g1⟩
  ·cases e
  ·obtain ⟨q1,a1,a2,a3,a4,a5⟩:=h3 o1 t1 g1
   exact ⟨q1,a1,by rw [alook_del h2,if_neg (by omega)]; exact a2,⟨a3.rd.far (a4.mono (S':=fun z=>z=tm) fun z e=>e▸ht) hc,a3.len⟩,a4,a5.chg hc (a4.mono (S':=fun z=>z=tm) fun z e=>e▸ht)⟩
 ·rw [alook_del h2]
  by_cases e:k=(o:Nat)
  ·rw [if_pos e]
  ·rw [if_neg e]
   refine h4 k fun o1 t1 g1 => ?_
   by_cases e1:o1=o
   ·subst e1; exact fun h=>e h.symm
   ·exact hk o1 t1 (tkeep e1 g1)
theorem StoOk.kds (h:StoOk F Fr w S s by' mo):kd w S.sb=some (some 88)∧kd w S.kb=some (some 3)∧kd w S.A.db=some (some 5)∧kd w S.tm=some none∧kd w S.vb=some (some 117)∧kd w S.mb=some (some 143) :=
 ⟨kd_cells h.obj,kd_cells h.kee,kd_cells h.ar.dat,h.th.kd,kd_cells h.mvs,kd_cells h.mb.2.2.1⟩
theorem StoOk.objAt {T:Nat→Prop} (h:StoOk F Fr w S s by' mo) (hc:Chg T w w') (hT:∀ (k b:Nat) m,mo[k]? = some (some (b,m)) → ¬ T b):∀ (k b:Nat) m,mo[k]? = some (some (b,m))→w'.heap[b]? = some (.cells (mvCells S.A (mvAt b m) m.gone).toArray 184 (0,0))∧F b ∧ ¬ Fr b:=fun k b m hm=>by
 obtain ⟨x,y⟩:=h.mob k b m hm
 exact ⟨hc.heap x (hT k b m hm),y⟩
theorem StoOk.kdm (h:StoOk F Fr w S s by' mo) {k b:Nat} {m:MvM} (hm:mo[k]? = some (some (b,m))):kd w b=some (some 184):=kd_cells (h.mob k b m hm).1
theorem StoOk.setBy (h:StoOk F Fr w S s by' mo) {by2:Int} (hc:Chg (fun z=>z=S.sb) w w') (ho:w'.heap[S.sb]? = some (.cells (stoL S s.keep.length s.mv.length by2).toArray 88 (0,0))):StoOk F Fr w' S s by2 mo:=by
 obtain ⟨k1,k2,k3,k4,k5,k6⟩:=h.kds
 obtain ⟨a1,a2,a3,a4,a5,a6,a7,_⟩:=h.own hc (fun z e=>⟨e▸h.f2.1,e▸h.ext' h.f2.1 h.nr.1 k1 (by decide)⟩)
 exact {h with obj:=ho,kee:=hc.heap h.kee (kd_ne k2 k1 (by decide)),room:=a1,ar:=a4 (kd_ne k3 k1 (by decide)),vw:=a2,th:=a3 (kd_ne k4 k1 (by simp)),mvs:=hc.heap h.mvs (kd_ne k5 k1 (by decide)),mob:=h.objAt hc (fun k b m hm=>kd_ne (h.kdm hm) k1 (by decide)),ca:=a5,ka:=a6,low:=a7}
theorem StoOk.setKeep (h:StoOk F Fr w S s by' mo) {l:List Int} (hl:l.length=s.keep.length) (hc:Chg (fun z=>z=S.kb) w w') (ho:w'.heap[S.kb]? = some (.cells (l.map (Value.int .i64)++S.kr).toArray 3 (0,0))):StoOk F Fr w' S {s with keep:=l} by' mo:=by
 obtain ⟨k1,k2,k3,k4,k5,k6⟩:=h.kds
 obtain ⟨a1,a2,a3,a4,a5,a6,a7,_⟩:=h.own hc (fun z e=>⟨e▸h.f2.2.1,e▸h.extKeep⟩)
 exact {h with obj:=by show w'.heap[S.sb]? = some (.cells (stoL S l.length s.mv.length by').toArray _ _); rw [hl]; exact hc.heap h.obj (kd_ne k1 k2 (by decide)),kee:=ho,kcap:=by show l.length≤_; rw [hl]; exact h.kcap,room:=a1,ar:=a4 (kd_ne k3 k2 (by decide)),vw:=a2,th:=a3 (kd_ne k4 k2 (by simp)),mvs:=hc.heap h.mvs (kd_ne k5 k2 (by decide)),mob:=h.objAt hc (fun k b m hm=>kd_ne (h.kdm hm) k2 (by decide)),ca:=a5,ka:=a6,low:=a7}
theorem StoOk.setTh (h:StoOk F Fr w S s by' mo) {th':List (Option ThM)} (hc:Chg (fun z=>z=S.tm) w w') (ht:ThAt F w' S.tm th'):StoOk F Fr w' S {s with th:=th'} by' mo:=by
 obtain ⟨k1,k2,k3,k4,k5,k6⟩:=h.kds
 obtain ⟨a1,a2,a3,a4,a5,a6,a7,_⟩:=h.own hc (fun z e=>⟨e▸h.f2.2.2.2.1,e▸h.extMap⟩)
 exact {h with obj:=hc.heap h.obj (kd_ne k1 k4 (by simp)),kee:=hc.heap h.kee (kd_ne k2 k4 (by simp)),room:=a1,ar:=a4 (kd_ne k3 k4 (by simp)),vw:=a2,th:=ht,mvs:=hc.heap h.mvs (kd_ne k5 k4 (by simp)),mob:=h.objAt hc (fun k b m hm=>kd_ne (h.kdm hm) k4 (by simp)),ca:=a5,ka:=a6,low:=a7}
theorem moMv_set (mo:Mo) (k:Nat) (x:Option (Nat × MvM)):moMv (mo.set k x)=(moMv mo).set k (x.map (·.2)):=by unfold moMv; rw [List.map_set]
theorem mo_set {mo:Mo} {k j b:Nat} {m:MvM} {x:Option (Nat × MvM)} (h:(mo.set k x)[j]? = some (some (b,m))):(j=k∧x=some (b,m)∧k<mo.length)∨(j≠k∧mo[j]? = some (some (b,m))):=set_opt h
theorem StoOk.mol (h:StoOk F Fr w S s by' mo):mo.length=s.mv.length:=by rw [← h.mom]; unfold moMv; rw [List.length_map]
theorem StoOk.setMv (h:StoOk F Fr w S s by' mo) {k:Nat} {x:Option (Nat × MvM)} (hc:Chg (fun z=>z=S.vb) w w') (ho:w'.heap[S.vb]? = some (.cells (fl mverL (mo.set k x)).toArray 117 (0,0)))
 (hx:∀ b m,x=some (b,m)→w.heap[b]? = some (.cells (mvCells S.A (mvAt b m) m.gone).toArray 184 (0,0))∧F b ∧ ¬ Fr b ∧ ∀ (j:Nat) m',mo[j]?≠some (some (b,m'))) :
 StoOk F Fr w' S {s with mv:=s.mv.set k (x.map (·.2))} by' (mo.set k x):=by
 obtain ⟨k1,k2,k3,k4,k5,k6⟩:=h.kds
 obtain ⟨a1,a2,a3,a4,a5,a6,a7,_⟩:=h.own hc (fun z e=>⟨e▸h.f2.2.2.2.2,e▸h.ext' h.f2.2.2.2.2 h.nr.2.2.2.2 k5 (by decide)⟩)
 have hl:(s.mv.set k (x.map (·.2))).length=s.mv.length:=List.length_set
 refine {h with obj:=by show w'.heap[S.sb]? = some (.cells (stoL S s.keep.length (s.mv.set k (x.map (·.2))).length by').toArray _ _); rw [hl]; exact hc.heap h.obj (kd_ne k1 k5 (by decide)),kee:=hc.heap h.kee (kd_ne k2 k5 (by decide)),room:=a1,ar:=a4 (kd_ne k3 k5 (by decide)),vw:=a2,th:=a3 (kd_ne k4 k5 (by simp)),mvs:=ho,mvc:=by show (s.mv.set k _).length≤_; rw [hl]; exact h.mvc,mom:=by rw [moMv_set,h.mom],mob:=fun j b m hm => ?_,mdj:=fun i j b m m' hi hj => ?_,ca:=a5,ka:=a6,low:=a7}
 ·rcases mo_set hm with ⟨_,e,_⟩ | ⟨_,hm⟩
  ·obtain ⟨g1,g2,g3,_⟩:=hx b m e
   exact ⟨hc.heap g1 (kd_ne (kd_cells g1) k5 (by decide)),g2,g3⟩
  ·obtain ⟨g1,g2⟩:=h.mob j b m hm
   exact ⟨hc.heap g1 (kd_ne (kd_cells g1) k5 (by decide)),g2⟩
 ·rcases mo_set hi with ⟨e1,e,_⟩ | ⟨_,gi⟩
  ·rcases mo_set hj with ⟨e2,_,_⟩ | ⟨_,gj⟩
   ·exact e1.trans e2.symm
   ·exact absurd gj ((hx b m e).2.2.2 j m')
  ·rcases mo_set hj with ⟨_,e,_⟩ | ⟨_,gj⟩
   ·exact absurd gi ((hx b m' e).2.2.2 i m)
   ·exact h.mdj i j b m m' gi gj
theorem StoOk.adopt (h:StoOk F Fr w S s by' mo) (hc:Chg None' w w') {b:Nat} (hb:w.heap.size≤b) (hb':b<w'.heap.size):StoOk (fun z=>F z∨z=b) Fr w' S s by' mo:=by
 have g:=h.grow hc
 obtain ⟨n1,n2,n3,n4,n5,n6⟩:=h.nF
 have hF:∀ z,(F z∨z=b)→F z∨w.heap.size≤z:=fun z hz=>hz.elim .inl (fun e => .inr (by omega))
 have hrm:=h.room
 have hm:=may_facts hrm.may
 have l1:=lt_of_heap h.ar.obj
 have l2:=lt_of_heap h.ar.cap
 have l3:=lt_of_heap h.vw.obj
 have l4:=lt_of_heap hrm.obj
 have l5:S.R.sb<w.heap.size:=by have:=World.block_lt_of_cell? w _ (hrm.sl 0 (by have:=hm.n; have:=hrm.ok.n; omega)); exact this
 have l6:0<w.heap.size:=by have:=World.block_lt_of_cell? w _ (hrm.tab 0 (by decide)); exact this
 exact {g with
  th:=((h.th.wide hF).far hc (fun _ h=>h.elim) id),
  mob:=fun k b' m hm=>by obtain ⟨x,y,z⟩:=g.mob k b' m hm; exact ⟨x,.inl y,z⟩,
  f1:=fun z hz => .inl (h.f1 z hz),f2:=⟨.inl h.f2.1,.inl h.f2.2.1,.inl h.f2.2.2.1,.inl h.f2.2.2.2.1,.inl h.f2.2.2.2.2⟩,
  nF:=⟨fun hz=>hz.elim n1 (by omega),fun hz=>hz.elim n2 (by omega),fun hz=>hz.elim n3 (by omega),fun hz=>hz.elim n4 (by omega),fun hz=>hz.elim n5 (by omega),fun hz=>hz.elim n6 (by omega)⟩,
  ca:=(h.ca.grow hF).chg hc (fun _ h=>h.elim),ka:=(h.ka.grow hF).chg hc (fun _ h=>h.elim),low:=fun z hz=>hz.elim (g.low z) (by omega)}
theorem StoOk.arena {T:Nat→Prop} (h:StoOk F Fr w S s by' mo) {bs:List Int} {t:Int} {mo2:Mo} (hc:Chg T w w') (hT:∀ z,T z→z=S.A.db∨z=S.mb ∨ ∃ (k:Nat),∃ m,mo[k]? = some (some (z,m)))
 (hd:w'.heap[S.A.db]? = some (.cells (bs.map (Value.int .u8)).toArray 5 (0,0))) (hl:bs.length=s.bs.length) (hb:InB bs) (hm:MeterAt w' S.mb t S.R.lap)
 (hfl:fl mverL mo2=fl mverL mo) (hml:mo2.length=mo.length) (hmo:∀ (k b:Nat) m,mo2[k]? = some (some (b,m))→w'.heap[b]? = some (.cells (mvCells S.A (mvAt b m) m.gone).toArray 184 (0,0)) ∧ ∃ m0,mo[k]? = some (some (b,m0))) :
 StoOk F Fr w' S {s with bs:=bs,rm:={s.rm with tot:=t},mv:=moMv mo2} by' mo2:=by
 obtain ⟨k1,k2,k3,k4,k5,k6⟩:=h.kds
 obtain ⟨n1,n2,n3,n4,n5,n6⟩:=h.nF
 have hTF:∀ z,T z→F z:=fun z hz=>by
  rcases hT z hz with e | e | ⟨k,m,e⟩
  ·exact e▸h.f2.2.2.1
  ·exact e▸h.mb.1
  ·exact (h.mob k z m e).2.1
 have kT:∀ {z:Nat} {x:Option Nat},kd w z=some x→x≠some 5→x≠some 143→x≠some 184 → ¬ T z:=fun hk h1 h2 h3 hz=>by
  rcases hT _ hz with e | e | ⟨k,m,e⟩
  ·subst e; rw [k3] at hk; exact h1 (Option.some.inj hk).symm
  ·subst e; rw [k6] at hk; exact h2 (Option.some.inj hk).symm
  ·have:=h.kdm e; rw [this] at hk; exact h3 (Option.some.inj hk).symm
 have hrm:RmSt Fr w' S.R {s.rm with tot:=t}:=h.room.charge2 h.rmo hm hc fun z hz=>by
  rcases hT z hz with e | e | ⟨k,m,e⟩
  ·exact .inr (e▸h.ext' h.f2.2.2.1 h.nr.2.2.1 k3 (by decide))
  ·exact .inl e
  ·obtain ⟨_,g1,g2⟩:=h.mob k z m e
   exact .inr (h.ext' g1 g2 (h.kdm e) (by decide))
 have hcl:(moMv mo2).length=s.mv.length:=by unfold moMv; rw [List.length_map,hml,h.mol]
 refine {h with
  obj:=by show w'.heap[S.sb]? = some (.cells (stoL S s.keep.length (moMv mo2).length by').toArray _ _); rw [hcl]; exact hc.heap h.obj (kT k1 (by decide) (by decide) (by decide)),
  kee:=hc.heap h.kee (kT k2 (by decide) (by decide) (by decide)),room:=hrm,ar := ?_,vw := ?_,th:=h.th.far hc hTF (kT k4 (by simp) (by simp) (by simp)),
  mvs:=by rw [hfl]; exact hc.heap h.mvs (kT k5 (by decide) (by decide) (by decide)),mvc:=by show (moMv mo2).length≤_; rw [hcl]; exact h.mvc,mom:=rfl,
  mob:=fun k b m hmm=>by obtain ⟨g1,m0,g2⟩:=hmo k b m hmm; exact ⟨g1,(h.mob k b m0 g2).2⟩,
  mdj:=fun i j b m m' hi hj=>by obtain ⟨_,m0,g2⟩:=hmo i b m hi; obtain ⟨_,m1,g3⟩:=hmo j b m' hj; exact h.mdj i j b m0 m1 g2 g3,
  ca:=h.ca.chg hc hTF,ka:=h.ka.chg hc hTF,low:=fun z hz=>by have:=h.low z hz; have:=hc.size; omega}
 ·refine ⟨?_,hd,hc.heap h.ar.cap (fun hz=>n2 (hTF _ hz)),fun b hbb => ?_,by show bs.length≤_; rw [hl]; exact h.ar.len,hb⟩
  ·have:=hc.heap h.ar.obj (fun hz=>n1 (hTF _ hz))
   show w'.heap[S.A.ab]? = some (.cells #[.slice (some ⟨S.A.db,0,none⟩) bs.length bs.length,usedV S.A] _ _)
   rw [hl]; exact this
  ·rw [h.amb] at hbb; cases hbb; exact hm
 ·refine ⟨hc.heap h.vw.obj (fun hz=>n3 (hTF _ hz)),?_,h.vw.may⟩
  have:=h.vw.conf
  rw [h.vc,h.vp] at this ⊢
  exact ⟨(h.ca.chg hc hTF).1,(h.ka.chg hc hTF).1,this.lc,this.lk,this.size⟩
theorem StoOk.arena' (h:StoOk F Fr w S s by' mo) {bs:List Int} {n:Int} (hc:Chg (foot S.A) w w') (ha:ArOk w' S.A ⟨bs,charged s.rm.tot n,S.R.lap⟩) (hl:bs.length=s.bs.length):StoOk F Fr w' S (chgTot {s with bs:=bs} n) by' mo:=by
 have:=h.arena (bs:=bs) (t:=charged s.rm.tot n) (mo2:=mo) hc (fun z hz=>hz.elim .inl (fun e => .inr (.inl (by rw [h.amb] at e; exact (Option.some.inj e).symm)))) ha.dat hl ha.rng (ha.met _ h.amb) rfl rfl (fun k b m hm=>⟨?_,m,hm⟩)
 ·rw [h.mom] at this
  exact this
 ·have kk:=h.kdm hm
  obtain ⟨_,_,k3,_,_,k6⟩:=h.kds
  refine hc.heap (h.mob k b m hm).1 ?_
  rintro (e | e)
  ·exact kd_ne kk k3 (by decide) e
  ·rw [h.amb] at e; cases e; exact kd_ne kk k6 (by decide) rfl
theorem StoOk.roomed {Fr':Nat→Prop} {M:RmM} (h:StoOk F Fr w S s by' mo) (hr:RmSt Fr' w' S.R M) (hf:∀ z,Fr' z→Fr z∨w.heap.size≤z) (hc:Chg Fr w w'):StoOk (fun z=>F z∨Fr' z) Fr' w' S {s with rm:=M} by' mo:=by
 obtain ⟨n1,n2,n3,n4,n5,n6⟩:=h.nF
 obtain ⟨l1,l2,l3,l4,l5⟩:=h.lt
 obtain ⟨r1,r2,r3,r4,r5⟩:=h.nr
 have hF:∀ z,(F z∨Fr' z)→F z∨w.heap.size≤z:=fun z hz=>hz.elim .inl (fun e=>(hf z e).imp (h.f1 z) id)
 have hr':∀ {z:Nat},¬ Fr z→z<w.heap.size → ¬ Fr' z:=fun hn hl hz=>(hf _ hz).elim hn (by omega)
 have nf:∀ {z:Nat},¬ F z→z<w.heap.size → ¬ (F z∨Fr' z):=fun hn hl hz=>(hF _ hz).elim hn (by omega)
 have hrm:=h.room
 have hm:=may_facts hrm.may
 have m1:=lt_of_heap h.ar.obj
 have m2:=lt_of_heap h.ar.cap
 have m3:=lt_of_heap h.vw.obj
 have m4:=lt_of_heap hrm.obj
 have m5:S.R.sb<w.heap.size:=by have:=World.block_lt_of_cell? w _ (hrm.sl 0 (by have:=hm.n; have:=hrm.ok.n; omega)); exact this
 have m6:0<w.heap.size:=by have:=World.block_lt_of_cell? w _ (hrm.tab 0 (by decide)); exact this
 have hca:=(h.ca.grow hF).chg hc (fun z hz => .inl (h.f1 z hz))
 have hka:=(h.ka.grow hF).chg hc (fun z hz => .inl (h.f1 z hz))
 exact {h with
  obj:=hc.heap h.obj r1,kee:=hc.heap h.kee r2,room:=hr,
  ar:=⟨hc.heap h.ar.obj (fun hz=>n1 (h.f1 _ hz)),hc.heap h.ar.dat r3,hc.heap h.ar.cap (fun hz=>n2 (h.f1 _ hz)),fun b hb=>by rw [h.amb] at hb; cases hb; exact (hr.met _ h.rmo).2,h.ar.len,h.ar.rng⟩,
  vw:=⟨hc.heap h.vw.obj (fun hz=>n3 (h.f1 _ hz)),by
   have:=h.vw.conf
   rw [h.vc,h.vp] at this ⊢
   exact ⟨hca.1,hka.1,this.lc,this.lk,this.size⟩,h.vw.may⟩,
  th:=(h.th.wide hF).far hc (fun z hz => .inl (h.f1 z hz)) r4,mvs:=hc.heap h.mvs r5,
  mob:=fun k b m hm=>by obtain ⟨x,y,z⟩:=h.mob k b m hm; exact ⟨hc.heap x z,.inl y,hr' z (h.low b y)⟩,
  f1:=fun z hz => .inr hz,f2:=⟨.inl h.f2.1,.inl h.f2.2.1,.inl h.f2.2.2.1,.inl h.f2.2.2.2.1,.inl h.f2.2.2.2.2⟩,
  nr:=⟨hr' r1 l1,hr' r2 l2,hr' r3 l3,hr' r4 l4,hr' r5 l5⟩,
  nF:=⟨nf n1 m1,nf n2 m2,nf n3 m3,nf n4 m4,nf n5 m5,nf n6 m6⟩,ca:=hca,ka:=hka,
  low:=fun z hz=>hz.elim (fun hz=>by have:=h.low z hz; have:=hc.size; omega) (hr.low z)}
end
def StTo (F:Nat→Prop) (w w':World) (S:Sto) (s:StM) (by':Int):Prop := ∃ F' Fr' mo',StoOk F' Fr' w' S s by' mo'∧(∀ z,F' z→F z∨w.heap.size≤z)∧Chg F w w'
section
variable {F Fr:Nat→Prop} {w w' w'':World} {S:Sto} {s:StM} {by':Int} {mo:Mo}
theorem StTo.of (h:StoOk F Fr w' S s by' mo) (hc:Chg F w w'):StTo F w w' S s by':=⟨F,Fr,mo,h,fun _ h => .inl h,hc⟩
theorem StTo.trans {F1:Nat→Prop} (hF:∀ z,F1 z→F z∨w.heap.size≤z) (hc:Chg F w w') (h:StTo F1 w' w'' S s by'):StTo F w w'' S s by':=by
 obtain ⟨F2,Fr2,mo2,a,b,c⟩:=h
 refine ⟨F2,Fr2,mo2,a,fun z hz => ?_,hc.since c fun z hz h1 => ?_⟩
 ·rcases b z hz with h | h
  ·exact hF z h
  ·have:=hc.size; exact .inr (by omega)
 ·rcases hF z h1 with h | h
  ·exact h
  ·omega
end
end Go.Proofs.YtnaoiegcobineaaGreatDoor
namespace Go.Proofs.YtnaoiegcobineaaGreatDoor
open Go.RowKit
theorem toldM_add (c:Conf) (q:Plc) (bs:List Int) (at' m k:Nat):toldM c q bs at' (m+k)=toldM c q bs at' m++toldM c q bs (at'+m) k:=by
 unfold toldM
 rw [List.range_add,List.map_append,List.map_map]
 congr 1
 apply List.map_congr_left
 intro i _
 simp only [Function.comp]
 rw [Nat.add_assoc]
theorem sub_range {bs:List Int} {x m:Nat} (h:x+m≤bs.length):sub bs x m=(List.range m).map fun i=>bs.getD (x+i) 0:=by
 apply List.ext_getElem
 ·rw [sub_length h]; simp
 ·intro i h1 h2
  rw [sub_length h] at h1
  simp only [List.getElem_map,List.getElem_range]
  have e:(sub bs x m)[i]? = some (bs.getD (x+i) 0):=by
   unfold sub
   rw [List.getElem?_take,if_pos h1,List.getElem?_drop,List.getElem?_eq_getElem (show x+i<bs.length by omega),List.getD_eq_getElem?_getD,List.getElem?_eq_getElem (show x+i<bs.length by omega)]
   rfl
  exact Option.some.inj ((List.getElem?_eq_getElem _).symm.trans e)
theorem where_large {c:Conf} {q:Plc} {sz at' i:Nat} (hcl:q.cls = -1) (hsz:c.size=sz) (hi:at' % sz+i<sz):whereM c q (at'+i)=q.pages.getD (at' / sz) 0*c.size+((at' % sz:Nat):Int)+i:=by
 unfold whereM
 rw [if_pos hcl,show c.size.toNat=sz from by omega]
 have hd:(at'+i) / sz=at' / sz:=by
  have hdm:=Nat.div_add_mod at' sz
  apply Nat.div_eq_of_lt_le
  ·rw [Nat.mul_comm]; omega
  ·rw [Nat.add_mul,Nat.one_mul,Nat.mul_comm]; omega
 have hm:(at'+i) % sz=at' % sz+i:=by
  have h1:=Nat.div_add_mod at' sz
  have h2:=Nat.div_add_mod (at'+i) sz
  rw [hd] at h2
  omega
 rw [hd,hm]
 omega
theorem read_large {c:Conf} {q:Plc} {bs:List Int} {sz:Nat} (hcl:q.cls = -1) (hsz:c.size=sz) (hp:1≤sz):∀ (n at':Nat),(∀ i,i<n→0≤whereM c q (at'+i)∧whereM c q (at'+i)<bs.length) →
 readM bs ((spansM at' n sz).map fun s=>(q.pages.getD s.1 0*c.size+s.2.1,(s.2.2:Int)))=toldM c q bs at' n:=by
 intro n
 induction n using Nat.strongRecOn with
 |_ n ih =>
  intro at' hw
  by_cases hn:n=0
  ·subst hn; rfl
  ·have hpos:=headS_pos (at':=at') hp (show 0<n by omega)
   have hmod:=Nat.mod_lt at' (show 0<sz by omega)
   rw [spansM_cons hp (by omega),List.map_cons]
   obtain ⟨m,hm⟩:∃ m,m=min n (sz - at' % sz):=⟨_,rfl⟩
   have hhd:headS at' n sz=(at' / sz,at' % sz,m):=by unfold headS; rw [hm]
   rw [hhd,← hm]
   rw [← hm] at hpos
   have hw0:=hw 0 (by omega)
   have hwl:=hw (m - 1) (by omega)
   rw [where_large hcl hsz (by omega)] at hw0 hwl
   obtain ⟨x,hx⟩:=Int.eq_ofNat_of_zero_le (show 0≤q.pages.getD (at' / sz) 0*c.size+((at' % sz:Nat):Int) by omega)
   rw [hx] at hwl
   have hsub:sub bs x m=toldM c q bs at' m:=by
    rw [sub_range (by omega)]
    unfold toldM
    apply List.map_congr_left
    intro i hi
    rw [List.mem_range] at hi
    rw [where_large hcl hsz (by omega),hx]
    congr 1
   have hrec:=ih (n - m) (by omega) (at'+m) (fun i hi=>by rw [Nat.add_assoc]; exact hw (m+i) (by omega))
   have hnm:n=m+(n - m):=by omega
   conv=>rhs; rw [hnm]
   rw [toldM_add,← hsub,← hrec]
   unfold readM
   rw [List.flatMap_cons]
   simp only
   rw [hx]
   rfl
theorem read_told {c:Conf} {q:Plc} {bs:List Int} {at' n:Nat} (hm:mayB c=true) (hck:checkM c q at' n=0) (hlen:(bs.length:Int)=c.size*c.pages):readM bs (partsM c q at' n)=toldM c q bs at' n:=by
 obtain ⟨m1,m2,m3⟩:=mayFacts hm
 obtain ⟨hin,_,_,hle⟩:=check_zero hck
 have hw:∀ i,i<n→0≤whereM c q (at'+i)∧whereM c q (at'+i)<bs.length:=fun i hi=>by
  have:=where_in (i:=at'+i) hm hin (by omega)
  omega
 unfold partsM
 by_cases hcl:q.cls = -1
 ·rw [if_pos hcl]
  obtain ⟨sz,hsz⟩:=Int.eq_ofNat_of_zero_le (show 0≤c.size by omega)
  rw [show c.size.toNat=sz from by omega]
  exact read_large hcl hsz (by omega) n at' hw
 ·rw [if_neg hcl]
  unfold readM
  simp only [List.flatMap_cons,List.flatMap_nil,List.append_nil,Int.toNat_natCast]
  by_cases hn:n=0
  ·subst hn; simp [sub,toldM]
  ·have h0:=hw 0 (by omega)
   have h1:=hw (n - 1) (by omega)
   have hwh:∀ i,whereM c q (at'+i)=viewAt c q+at'+i:=fun i=>by unfold whereM; rw [if_neg hcl]; omega
   rw [hwh] at h0 h1
   obtain ⟨x,hx⟩:=Int.eq_ofNat_of_zero_le (show 0≤viewAt c q+(at':Int) by omega)
   rw [hx,Int.toNat_natCast,sub_range (by omega)]
   unfold toldM
   apply List.map_congr_left
   intro i _
   rw [hwh,hx]
   congr 1
end Go.Proofs.YtnaoiegcobineaaGreatDoor
namespace Go.Proofs.YtnaoiegcobineaaGreatDoor
open Go.RowKit
theorem spans_off {sz:Nat} (hp:1≤sz):∀ (n at' k:Nat) (h:k<(spansM at' n sz).length),(spansM at' n sz)[k].1*sz+(spansM at' n sz)[k].2.1=at'+(((spansM at' n sz).take k).map fun s=>s.2.2).sum:=by
 intro n
 induction n using Nat.strongRecOn with
 |_ n ih =>
  intro at' k h
  by_cases hn:n=0
  ·subst hn; simp [spansM_nil] at h
  ·have hpos:=headS_pos (at':=at') hp (show 0<n by omega)
   have hdm:=Nat.div_add_mod at' sz
   have hcons:=spansM_cons (at':=at') hp (show 0<n by omega)
   cases k with
   |zero =>
    simp only [hcons,List.getElem_cons_zero,List.take_zero,List.map_nil,List.sum_nil]
    unfold headS
    simp only
    rw [Nat.mul_comm]; omega
   |succ k =>
    have hk:k<(spansM (at'+min n (sz - at' % sz)) (n - min n (sz - at' % sz)) sz).length:=by rw [hcons] at h; simpa using h
    have:=ih _ (by omega) _ k hk
    simp only [hcons,List.getElem_cons_succ,List.take_succ_cons,List.map_cons,List.sum_cons]
    rw [this]
    unfold headS
    simp only
    omega
theorem part_where {c:Conf} {q:Plc} {at' n k i m:Nat} (hm:mayB c=true) (hk:k<(partsM c q at' n).length) (hp:(partsM c q at' n)[k]=((i:Int),(m:Int))) :
 ∀ j,j<m→whereM c q (at'+(totalM ((partsM c q at' n).take k)+j))=(i:Int)+j:=by
 obtain ⟨m1,m2,m3⟩:=mayFacts hm
 intro j hj
 by_cases hcl:q.cls = -1
 ·obtain ⟨sz,hsz⟩:=Int.eq_ofNat_of_zero_le (show 0≤c.size by omega)
  have hpe:partsM c q at' n=(spansM at' n sz).map fun s=>(q.pages.getD s.1 0*c.size+s.2.1,(s.2.2:Int)):=by unfold partsM; rw [if_pos hcl,show c.size.toNat=sz from by omega]
  have hk':k<(spansM at' n sz).length:=by rw [hpe,List.length_map] at hk; exact hk
  have hoff:=spans_off (sz:=sz) (by omega) n at' k hk'
  obtain ⟨i1,i2,i3,i4⟩:=span_in (page:=sz) (by omega) n at' _ (List.getElem_mem hk')
  have htt:totalM ((partsM c q at' n).take k)=(((spansM at' n sz).take k).map fun s=>s.2.2).sum:=by
   unfold totalM
   rw [hpe,← List.map_take,List.map_map]
   rfl
  have hpk:(q.pages.getD (spansM at' n sz)[k].1 0*c.size+((spansM at' n sz)[k].2.1:Int),((spansM at' n sz)[k].2.2:Int))=((i:Int),(m:Int)):=by
   rw [← hp]; simp only [hpe,List.getElem_map]
  obtain ⟨e1,e2⟩:=Prod.mk.inj hpk
  rw [htt,← Nat.add_assoc,← hoff]
  obtain ⟨s,hs⟩:∃ s,s=(spansM at' n sz)[k]:=⟨_,rfl⟩
  rw [← hs] at e1 e2 i1 i2 i3 ⊢
  clear hs hoff i4
  obtain ⟨N,A,L⟩:=s
  simp only at e1 e2 i1 i2 i3 ⊢
  have hmodN:(N*sz+A) % sz=A:=by rw [Nat.mul_comm,Nat.mul_add_mod]; exact Nat.mod_eq_of_lt (by omega)
  have hdivN:(N*sz+A) / sz=N:=by rw [Nat.mul_comm,Nat.mul_add_div (by omega),Nat.div_eq_of_lt (by omega)]; rfl
  rw [where_large hcl hsz (by rw [hmodN]; omega),hmodN,hdivN]
  omega
 ·have hpe:partsM c q at' n = [(viewAt c q+at',(n:Int))]:=by unfold partsM; rw [if_neg hcl]
  have hk0:k=0:=by rw [hpe] at hk; simpa using hk
  subst hk0
  have hp':(viewAt c q+(at':Int),(n:Int))=((i:Int),(m:Int)):=by rw [← hp]; simp only [hpe]; rfl
  obtain ⟨e1,e2⟩:=Prod.mk.inj hp'
  unfold whereM
  rw [if_neg hcl]
  simp only [List.take_zero,totalM,List.map_nil,List.sum_nil]
  omega
theorem lay_run {c:Conf} {q:Plc} {bs l:List Int} {at' off i m:Nat} (him:i+m≤bs.length) (hol:off+m≤l.length) (hw:∀ j,j<m→whereM c q (at'+(off+j))=(i:Int)+j) :
 ∀ j,j≤m→layM c q bs at' l (off+j)=partW (layM c q bs at' l off) i (sub l off m) j
 |0,_=>by rw [partW_zero]; rfl
 |j+1,h=>by
  have hsl:(sub l off m).length=m:=sub_length hol
  have ih:=lay_run him hol hw j (by omega)
  have hg:(sub l off m).getD j 0=l.getD (off+j) 0:=by
   rw [sub_range hol,List.getD_eq_getElem?_getD,List.getElem?_map,List.getElem?_range (by omega)]; rfl
  rw [← partW_step (by rw [hsl,layM_len]; exact him) (by rw [hsl]; omega),hg,← ih]
  show (layM c q bs at' l (off+j)).set (whereM c q (at'+(off+j))).toNat (l.getD (off+j) 0)=_
  rw [hw j (by omega)]
  rfl
theorem write_lay {c:Conf} {q:Plc} {A:Ar} {V:ArV} {at':Nat} {l:List Int} (hm:mayB c=true) (hck:checkM c q at' l.length=0) (hfew:q.pages.length≤4096) (hlen:(V.bs.length:Int)=c.size*c.pages) :
 ∀ k,k≤(partsM c q at' l.length).length→(vsW q A V (partsM c q at' l.length) l k).bs=layM c q V.bs at' l (totalM ((partsM c q at' l.length).take k))
 |0,_=>rfl
 |k+1,h=>by
  have hk:k<(partsM c q at' l.length).length:=h
  obtain ⟨i,m,hp,him⟩:=parts_in hm hck hfew _ (List.getElem_mem hk)
  have ih:=write_lay (A:=A) hm hck hfew hlen k (by omega)
  have htot:totalM (partsM c q at' l.length)=l.length:=parts_total hm
  have htk:=totalM_take hk
  rw [hp] at htk
  simp only [Int.toNat_natCast] at htk
  have hoff:totalM ((partsM c q at' l.length).take (k+1))=totalM ((partsM c q at' l.length).take k)+m:=by
   rw [List.take_add_one,List.getElem?_eq_getElem hk,hp,totalM_append]; simp [totalM]
  have him':i+m≤V.bs.length:=by omega
  have hol:totalM ((partsM c q at' l.length).take k)+m≤l.length:=by omega
  rw [vsW_succ hk hp,hoff,lay_run him' hol (part_where hm hk hp) m (Nat.le_refl _)]
  show wrB _ i (sub l _ m)=_
  rw [ih]
  have:=partW_all (bs:=layM c q V.bs at' l (totalM ((partsM c q at' l.length).take k))) (l:=sub l (totalM ((partsM c q at' l.length).take k)) m) (i:=i)
  rw [sub_length hol] at this
  exact this.symm
theorem write_lay_all {c:Conf} {q:Plc} {A:Ar} {V:ArV} {at':Nat} {l:List Int} (hm:mayB c=true) (hck:checkM c q at' l.length=0) (hfew:q.pages.length≤4096) (hlen:(V.bs.length:Int)=c.size*c.pages) :
 (vsW q A V (partsM c q at' l.length) l (partsM c q at' l.length).length).bs=layM c q V.bs at' l l.length:=by
 rw [write_lay hm hck hfew hlen _ (Nat.le_refl _),List.take_length,parts_total hm]
end Go.Proofs.YtnaoiegcobineaaGreatDoor
namespace Go.Proofs.YtnaoiegcobineaaGreatDoor
open Go.RowKit
def bigN (q:Plc) (k:Nat):Int:=if q.cls = -1 then (k:Int) else 0
theorem parts_charge {c:Conf} {q:Plc} {at' n:Nat} (hm:mayB c=true):((totalM (partsM c q at' n):Nat):Int)+bigN q (partsM c q at' n).length=chargeM c q at' n:=by
 rw [parts_total hm]
 unfold bigN chargeM partsM
 by_cases hcl:q.cls = -1
 ·rw [if_pos hcl,if_pos hcl,if_pos hcl,List.length_map]
 ·rw [if_neg hcl,if_neg hcl]
end Go.Proofs.YtnaoiegcobineaaGreatDoor
namespace Go.Proofs.YtnaoiegcobineaaGreatDoor
open Go.RowKit
theorem charged_two {t a b:Int} (h:0≤t∧t≤4611686018427387904) (ha:0≤a) (hb:0≤b):charged (charged t a) b=charged t (a+b):=by
 unfold charged
 split <;> split <;> split <;> omega
theorem charged_0 (t:Int):charged t 0=t:=by unfold charged; rw [if_pos (by omega)]
theorem charge_is {V:ArV} {A:Ar} {b:Nat} {n:Int} (hb:A.mb=some b):(V.charge A n).total=charged V.total n:=by unfold ArV.charge; rw [hb]
theorem chgL_is {q:Plc} {V:ArV} {A:Ar} {b:Nat} (hb:A.mb=some b):(chgL q A V).total=charged V.total (bigN q 1):=by
 unfold chgL bigN
 split
 ·exact charge_is hb
 ·rw [charged_0]
theorem chgL_lap {q:Plc} {V:ArV} {A:Ar}:(chgL q A V).lap=V.lap:=by unfold chgL; split; exact V.charge_lap A _; rfl
theorem bigN_succ (q:Plc) (k:Nat):bigN q (k+1)=bigN q k+bigN q 1∧0≤bigN q k∧0≤bigN q 1:=by unfold bigN; split <;> omega
theorem totalM_succ {ps:List (Int × Int)} {k i m:Nat} (hk:k<ps.length) (hp:ps[k]=((i:Int),(m:Int))):totalM (ps.take (k+1))=totalM (ps.take k)+m:=by
 rw [List.take_add_one,List.getElem?_eq_getElem hk,hp,totalM_append]; simp [totalM]
theorem vsT_charged {q:Plc} {A:Ar} {V:ArV} {ps:List (Int × Int)} {b:Nat} (hb:A.mb=some b) (hps:∀ p ∈ ps,∃ i m:Nat,p=((i:Int),(m:Int))) (hV:0≤V.total∧V.total≤4611686018427387904) :
 ∀ k,k≤ps.length→(vsT q A V ps k).total=charged V.total (totalM (ps.take k)+bigN q k)∧(vsT q A V ps k).lap=V.lap
 |0,_=>by
  have e:((totalM (ps.take 0):Nat):Int)+bigN q 0=0:=by unfold bigN; simp [totalM]
  rw [e,charged_0]
  exact ⟨rfl,rfl⟩
 |k+1,h=>by
  have hk:k<ps.length:=h
  obtain ⟨i,m,hp⟩:=hps _ (List.getElem_mem hk)
  obtain ⟨i1,i2⟩:=vsT_charged (q:=q) hb hps hV k (by omega)
  obtain ⟨b1,b2,b3⟩:=bigN_succ q k
  rw [vsT_succ hk,hp]
  simp only
  rw [ArV.charge_lap,chgL_lap,charge_is hb,chgL_is hb,i1,charged_two hV (by omega) b3,charged_two hV (by omega) (by omega),totalM_succ hk hp,b1]
  exact ⟨by congr 1; omega,i2⟩
theorem vsW_charged {q:Plc} {A:Ar} {V:ArV} {ps:List (Int × Int)} {l:List Int} {b:Nat} (hb:A.mb=some b) (hps:∀ p ∈ ps,∃ i m:Nat,p=((i:Int),(m:Int))) (hV:0≤V.total∧V.total≤4611686018427387904) :
 ∀ k,k≤ps.length→(vsW q A V ps l k).total=charged V.total (totalM (ps.take k)+bigN q k)∧(vsW q A V ps l k).lap=V.lap
 |0,_=>by
  have e:((totalM (ps.take 0):Nat):Int)+bigN q 0=0:=by unfold bigN; simp [totalM]
  rw [e,charged_0]
  exact ⟨rfl,rfl⟩
 |k+1,h=>by
  have hk:k<ps.length:=h
  obtain ⟨i,m,hp⟩:=hps _ (List.getElem_mem hk)
  obtain ⟨i1,i2⟩:=vsW_charged (q:=q) (l:=l) hb hps hV k (by omega)
  obtain ⟨b1,b2,b3⟩:=bigN_succ q k
  rw [vsW_succ hk hp]
  show ((chgL q A (vsW q A V ps l k)).charge A m).total=_∧((chgL q A (vsW q A V ps l k)).charge A m).lap=_
  rw [ArV.charge_lap,chgL_lap,charge_is hb,chgL_is hb,i1,charged_two hV (by omega) b3,charged_two hV (by omega) (by omega),totalM_succ hk hp,b1]
  exact ⟨by congr 1; omega,i2⟩
theorem ArV.eq {V:ArV} {bs:List Int} {t l:Int} (h1:V.bs=bs) (h2:V.total=t) (h3:V.lap=l):V=⟨bs,t,l⟩:=by cases V; cases h1; cases h2; cases h3; rfl
theorem check_of {c:Conf} {q:Plc} {i n:Int} (hv:viewIs c q=true) (hi:0≤i) (hn:0≤n) (h:i+n≤viewHolds c q):checkM c q i n=0:=by
 unfold checkM
 rw [if_neg (by rw [hv]; decide),if_neg (by omega)]
section
variable {F Fr:Nat→Prop} {w w':World} {S:Sto} {s:StM} {by':Int} {mo:Mo} {pd:Option (Nat × PlcM)}
theorem StoOk.footF (h:StoOk F Fr w S s by' mo):∀ z,foot S.A z→F z:=fun z hz=>by
 rcases hz with e | e
 ·exact e▸h.f2.2.2.1
 ·rw [h.amb] at e; cases e; exact h.mb.1
theorem StoOk.tot (h:StoOk F Fr w S s by' mo):0≤s.rm.tot∧s.rm.tot≤4611686018427387904:=h.room.ok.tot
theorem StoOk.vwf (h:StoOk F Fr w S s by' mo):¬ foot S.A S.v.vb∧(0<S.v.c.classes.length→OutA (foot S.A) S.v.p.ca)∧(0<S.v.c.keep.length→OutA (foot S.A) S.v.p.ka):=by
 refine ⟨fun hz=>h.nF.2.2.1 (h.footF _ hz),fun hl => ?_,fun hl => ?_⟩
 ·rw [h.vc] at hl; rw [h.vp]; exact (h.ca.2 hl).mono h.footF
 ·rw [h.vc] at hl; rw [h.vp]; exact (h.ka.2 hl).mono h.footF
theorem parts_nat {c:Conf} {q:Plc} {i n:Nat} (hm:mayB c=true) (hck:checkM c q i n=0) (hfew:q.pages.length≤4096):∀ p ∈ partsM c q i n,∃ a b:Nat,p=((a:Int),(b:Int)):=fun p hp=>by
 obtain ⟨a,b,e,_⟩:=parts_in hm hck hfew p hp
 exact ⟨a,b,e⟩
theorem sto_Write (h:StoOk F Fr w S s by' mo) (hm:mayB S.c=true) (hbl:(s.bs.length:Int)=S.c.size*S.c.pages) (q:Plc) (i:Nat) (a:Option Addr) (cap:Nat) (l:List Int) (hq:PlcOk w q) (hF:OutA F q.pa) (hck:checkM S.c q i l.length=0) (hfew:q.pages.length≤4096) (hr:Rd .u8 w a l) (hlc:l.length≤cap) (hin:InB l) (hout:0<l.length→OutA F a) :
 Does Tryz.prog 90 #[vwV S.v,.agg (plcL q).toArray,.int .i64 i,.slice a l.length cap] w (fun u w'=>u = .int .i64 0∧StoOk F Fr w' S (stPut S.c s (plcP q) i l) by' mo∧Chg F w w'):=by
 obtain ⟨g1,g2,g3⟩:=h.vwf
 have ec:=h.vc
 refine (view_Write S.v q i a cap l S.A (arV S s) w h.vw hq (h.vmb.trans h.amb.symm) h.vab (by rw [ec]; exact hck) hfew g1 (fun _=>hF.mono h.footF) g2 g3 h.ar (by rw [ec]; exact hbl) hr hlc hin (fun hl=>(hout hl).mono h.footF)).mono fun u w' ⟨e,hA,hc⟩=>⟨e,?_,hc.mono fun z _ hz=>h.footF z hz⟩
 rw [ec] at hA
 obtain ⟨t1,t2⟩:=vsW_charged (q:=q) (V:=arV S s) (l:=l) h.amb (parts_nat hm hck hfew) h.tot _ (Nat.le_refl _)
 rw [List.take_length,parts_charge hm] at t1
 have e1:=ArV.eq (write_lay_all (A:=S.A) (V:=arV S s) hm hck hfew hbl) t1 t2
 rw [e1,layM_plc,chargeM_plc] at hA
 exact h.arena' (bs:=layM S.c (plcP q).plc s.bs i l l.length) (n:=chargeM S.c (plcP q).plc i l.length) hc hA (layM_len _ _ _ _ _ _)
theorem zeros_length (n:Nat):(zeros n).length=n:=by unfold zeros; rw [List.length_replicate]
theorem sto_Zero (h:StoOk F Fr w S s by' mo) (hm:mayB S.c=true) (hbl:(s.bs.length:Int)=S.c.size*S.c.pages) (q:Plc) (i n:Nat) (hq:PlcOk w q) (hF:OutA F q.pa) (hck:checkM S.c q i n=0) (hfew:q.pages.length≤4096) :
 Does Tryz.prog 88 #[vwV S.v,.agg (plcL q).toArray,.int .i64 i,.int .i64 n] w (fun u w'=>u = .int .i64 0∧StoOk F Fr w' S (stPut S.c s (plcP q) i (zeros n)) by' mo∧Chg F w w'):=by
 obtain ⟨g1,g2,g3⟩:=h.vwf
 have ec:=h.vc
 have hz:=zeros_length n
 refine (view_Zero S.v q i n S.A (arV S s) w h.vw hq (h.vmb.trans h.amb.symm) h.vab (by rw [ec]; exact hck) hfew g1 (fun _=>hF.mono h.footF) g2 g3 h.ar (by rw [ec]; exact hbl)).mono fun u w' ⟨e,hA,hc⟩=>⟨e,?_,hc.mono fun z _ hz=>h.footF z hz⟩
 rw [ec] at hA
 obtain ⟨t1,t2⟩:=vsW_charged (q:=q) (V:=arV S s) (l:=zeros n) h.amb (parts_nat hm hck hfew) h.tot _ (Nat.le_refl _)
 rw [List.take_length,parts_charge hm] at t1
 have hw:=write_lay_all (A:=S.A) (V:=arV S s) (l:=zeros n) (q:=q) (at':=i) hm (by rw [hz]; exact hck) hfew hbl
 rw [hz] at hw
 have e1:=ArV.eq hw t1 t2
 rw [e1,layM_plc,chargeM_plc] at hA
 have:=h.arena' (bs:=layM S.c (plcP q).plc s.bs i (zeros n) n) (n:=chargeM S.c (plcP q).plc i n) hc hA (layM_len _ _ _ _ _ _)
 unfold stPut
 rw [hz]
 exact this
theorem sto_Read (h:StoOk F Fr w S s by' mo) (hm:mayB S.c=true) (hbl:(s.bs.length:Int)=S.c.size*S.c.pages) (q:Plc) (i n:Nat) (hq:PlcOk w q) (hF:OutA F q.pa) (hck:checkM S.c q i n=0) (hfew:q.pages.length≤4096) :
 Does Tryz.prog 72 #[vwV S.v,.agg (plcL q).toArray,.int .i64 i,.int .i64 n] w (fun u w' => ∃ u1,u = .tuple #[u1,.int .i64 0]∧StoOk F Fr w' S (chgTot s (chargeM S.c (plcP q).plc i n)) by' mo∧Chg (foot S.A) w w' ∧
  Own w.heap.size 5 1 w' u1 n ((toldM S.c (plcP q).plc s.bs i n).map (Value.int .u8))):=by
 obtain ⟨g1,g2,g3⟩:=h.vwf
 have ec:=h.vc
 have mF:∀ z,mFoot S.A z→foot S.A z:=fun z hz => .inr hz
 refine (view_Read S.v q i n S.A (arV S s) w h.vw hq (h.vmb.trans h.amb.symm) h.vab (by rw [ec]; exact hck) hfew (fun hz=>g1 (mF _ hz)) (fun _=>(hF.mono h.footF).mono mF) (fun hl=>(g2 hl).mono mF) (fun hl=>(g3 hl).mono mF) h.ar (by rw [ec]; exact hbl)).mono fun u w' ⟨u1,e,hA,hc,ho⟩=>⟨u1,e,?_,hc.mono fun z _ hz=>mF z hz,?_⟩
 ·rw [ec] at hA
  obtain ⟨t1,t2⟩:=vsT_charged (q:=q) (V:=arV S s) h.amb (parts_nat hm hck hfew) h.tot _ (Nat.le_refl _)
  rw [List.take_length,parts_charge hm] at t1
  have e1:=ArV.eq (vsT_bs q S.A (arV S s) (partsM S.c q i n) _) t1 t2
  rw [e1,chargeM_plc] at hA
  exact h.arena' (bs:=s.bs) (n:=chargeM S.c (plcP q).plc i n) (hc.mono fun z _ hz=>mF z hz) hA rfl
 ·rw [ec,read_told hm hck hbl] at ho
  have e:(toldM S.c q s.bs i n).length=n:=by unfold toldM; rw [List.length_map,List.length_range]
  rw [e,toldM_plc] at ho
  exact ho
end
theorem many_ge {n q:Int} (hn:1≤n) (hq:1≤q):n≤manyM n q*q:=by
 have hmod:=Int.emod_add_mul_ediv (n - 1) q
 have:=Int.emod_lt_of_pos (n - 1) (show 0<q by omega)
 have e:manyM n q=(n - 1) / q+1:=by unfold manyM; rw [if_neg (by omega)]
 rw [e,Int.add_mul,Int.one_mul,Int.mul_comm ((n - 1) / q) q]
 omega
section
variable {c:Conf} {s:StM} {pd:Option (Nat × PlcM)}
theorem lgMany_mem:∀ {l:List (Nat × List Nat)} {e:Nat × List Nat},e ∈ l→e.2.length+1≤lgMany l
 |a::l,e,h=>by
  have hs:lgMany (a::l)=(a.2.length+1)+lgMany l:=by unfold lgMany; simp
  rcases List.mem_cons.1 h with rfl | h
  ·omega
  ·have:=lgMany_mem h; omega
theorem lg_page (h:s.OkP c pd) {n:Nat} {r:List Nat} (hm:(n,r) ∈ s.rm.lg):(∀ m ∈ r,(m:Int)<c.pages)∧r.length≤1024:=by
 have hp:=h.rm.ok.own
 have hg:=h.rm.mok.good
 refine ⟨fun m hmm => ?_,?_⟩
 ·have:=(h.rm.ok.lg m (mem_lgAll hm (List.mem_cons_of_mem _ hmm))).1
  omega
 ·have h1:=lgMany_mem hm
  have h2:=h.rm.ok.sum
  have h3:=hg.many
  have h4:=hg.len
  unfold heldM at h2
  simp only at h1
  omega
theorem large_is (h:s.OkP c pd) {n:Nat} {r:List Nat} {size:Int} (hm:(n,r) ∈ s.rm.lg) (hs:1≤size) (hr:(r.length+1:Int)=allM size c.size):viewIs c (PlcM.mk (-1) (n:Nat) 0 (natsI r)).plc=true∧size≤viewHolds c (PlcM.mk (-1) (n:Nat) 0 (natsI r)).plc∧(natsI r).length≤4096:=by
 obtain ⟨h1,h2⟩:=lg_page h hm
 have hq:1≤c.size:=by have:=(mayFacts h.may).1; omega
 have hmg:=many_ge hs hq
 have hmp:1≤manyM size c.size:=by
  have h0:0≤(size - 1) / c.size:=Int.ediv_nonneg (by omega) (by omega)
  unfold manyM
  rw [if_neg (by omega)]
  omega
 have e:(r.length:Int)=manyM size c.size:=by
  unfold allM at hr
  split at hr <;> omega
 have hl:=natsI_length r
 have hv:viewIs c (PlcM.mk (-1) (n:Nat) 0 (natsI r)).plc=true:=by
  unfold viewIs PlcM.plc
  show (if (-1:Int) = -1 then (decide (0<(natsI r).length) && !(natsI r).any fun n => !inT n c.pages) else _)=true
  rw [if_pos rfl,Bool.and_eq_true]
  refine ⟨decide_eq_true (by omega),?_⟩
  rw [Bool.not_eq_true',List.any_eq_false]
  intro x hx
  unfold natsI at hx
  obtain ⟨m,hm1,rfl⟩:=List.mem_map.1 hx
  have:=h1 m hm1
  rw [inT_iff.2 (by omega)]
  decide
 refine ⟨hv,?_,by omega⟩
 unfold viewHolds
 rw [if_pos hv]
 show size≤if (-1:Int) = -1 then ((natsI r).length:Int)*c.size else _
 rw [if_pos rfl,hl,e]
 exact hmg
theorem small_is (h:s.OkP c pd) {k n a:Int} (ho:rmOwner s.rm k n a ≠ -1):viewIs c (PlcM.mk k n a []).plc=true∧viewHolds c (PlcM.mk k n a []).plc=clsM c k:=by
 obtain ⟨h1,h2,_⟩:=owner_is h ho
 refine ⟨h1,?_⟩
 unfold viewHolds
 rw [if_pos (show viewIs c (PlcM.mk k n a []).plc=true from h1)]
 show (if k = -1 then _ else clsM c k)=_
 rw [if_neg (by omega)]
theorem pick_cls {size:Int} {k:Nat} (hp:pickM c.classes size=(k:Nat)):size≤clsM c k:=by
 unfold clsM
 rw [Int.toNat_natCast]
 exact pick_le hp
theorem place_holds (h:s.OkP c pd) {o:Nat} {t:ThM} (ht:s.th[o]? = some (some t)):viewIs c t.q.plc=true∧t.size≤viewHolds c t.q.plc∧t.q.pages.length≤4096:=by
 by_cases hp:pickM c.classes t.size = -1
 ·obtain ⟨n,r,h1,h2,h3⟩:=h.large o t ht hp
  rw [h2]
  exact large_is h h1 (h.size o t ht).1 h3
 ·obtain ⟨h1,h2,h3⟩:=h.small o t ht hp
  obtain ⟨p0,p1⟩:=pickM_lt hp
  obtain ⟨k,hk⟩:=Int.eq_ofNat_of_zero_le p0
  obtain ⟨g1,g2⟩:=small_is h (k:=t.q.cls) (n:=t.q.page) (a:=t.q.idx) (by rw [h3]; omega)
  have e:t.q=⟨t.q.cls,t.q.page,t.q.idx,[]⟩:=by
   obtain ⟨sz,a1,a2,a3,a4⟩:=t
   simp only at h2
   rw [h2]
  rw [← e] at g1 g2
  refine ⟨g1,?_,by rw [h2]; simp⟩
  rw [g2,h1,hk]
  exact pick_cls hk
end
end Go.Proofs.YtnaoiegcobineaaGreatDoor
namespace Go.Proofs.YtnaoiegcobineaaGreatDoor
open Go.RowKit
section
variable {F Fr:Nat→Prop} {w w':World} {S:Sto} {s:StM} {by':Int} {mo:Mo} {pd:Option (Nat × PlcM)}
def thereK (s:StM) (k:Int):Bool:=decide (0≤k) && decide (k<s.mv.length)
theorem OkP.few (hs:s.OkP S.c pd):s.mv.length≤16∧s.keep.length=s.mv.length∧0<s.mv.length:=by
 have hm:=may_facts hs.may
 have:=hm.n
 have:=hs.ml
 have:=hs.kl
 omega
end
theorem store_there {F Fr:Nat→Prop} {w:World} {S:Sto} {s:StM} {by':Int} {mo:Mo} {pd:Option (Nat × PlcM)} (h:StoOk F Fr w S s by' mo) (hs:s.OkP S.c pd) (k:Int):Does Tryz.prog 91 #[stoV S,.int .i64 k] w (Same (.bool (thereK s k)) w):=by
 refine Does.enter Tryz.func91 rfl Tryz.ntmps91 rfl rfl ?_
 refine Goes.adv hTT 400 rfl ?_
 refine Goes.fork hTT rfl rfl rfl (fun h1 => ?_) (fun h1 => ?_)
 ·refine Goes.loadb hTT rfl h.obj rfl rfl ?_
  have e:thereK s k=decide (k<s.mv.length):=by unfold thereK; rw [decide_eq_true (show 0≤k from of_decide_eq_true h1)]; rfl
  rw [e]
  exact Goes.ret1 hTT rfl Tryz.func91 rfl rfl ⟨rfl,rfl⟩
 ·have e:thereK s k=false:=by unfold thereK; rw [decide_eq_false (show ¬ 0≤k from of_decide_eq_false h1)]; rfl
  rw [e]
  exact Goes.ret1 hTT rfl Tryz.func91 rfl rfl ⟨rfl,rfl⟩
theorem mv_none {s:StM} {k:Int} (h:thereK s k=false):stMv s k=none:=by
 unfold stMv
 split
 ·rename_i h0
  unfold thereK at h
  rw [decide_eq_true h0,Bool.true_and] at h
  have:=of_decide_eq_false h
  rw [List.getD_eq_getElem?_getD,List.getElem?_eq_none (by omega)]; rfl
 ·rfl
theorem there_yes {s:StM} {k:Int} (h:thereK s k=true):∃ j:Nat,k=j∧j<s.mv.length:=by
 unfold thereK at h
 simp only [Bool.and_eq_true,decide_eq_true_eq] at h
 exact ⟨k.toNat,by omega,by omega⟩
theorem mv_at {s:StM} {j:Nat} (h:j<s.mv.length):stMv s (j:Nat)=s.mv[j]:=by
 unfold stMv
 rw [if_pos (by omega),Int.toNat_natCast,List.getD_eq_getElem?_getD,List.getElem?_eq_getElem h]; rfl
section
variable {F Fr:Nat→Prop} {w w':World} {S:Sto} {s:StM} {by':Int} {mo:Mo} {pd:Option (Nat × PlcM)}
theorem StoOk.mo_at (h:StoOk F Fr w S s by' mo) {j:Nat} (hj:j<s.mv.length):∃ x,mo[j]? = some x∧x.map (·.2)=stMv s (j:Nat):=by
 have hl:=h.mol
 have hjl:j<mo.length:=by omega
 refine ⟨mo[j],List.getElem?_eq_getElem hjl,?_⟩
 rw [mv_at hj]
 have e:=h.mom
 unfold moMv at e
 simp only [← e,List.getElem_map]
theorem StoOk.mcell (h:StoOk F Fr w S s by' mo) {j:Nat} {x:Option (Nat × MvM)} (hx:mo[j]? = some x) {i:Nat} (hi:i<6) {v:Value} (hv:(mverL x)[i]? = some v):w.cell? ⟨S.vb,0+j*6+i,none⟩=some v:=by
 refine (cell_of h.mvs).trans ?_
 rw [Nat.zero_add,List.getElem?_toArray,fl_get mverL_len hi mo j x hx,hv]
end
theorem store_moving {F Fr:Nat→Prop} {w:World} {S:Sto} {s:StM} {by':Int} {mo:Mo} {pd:Option (Nat × PlcM)} (h:StoOk F Fr w S s by' mo) (hs:s.OkP S.c pd) (k:Int):Does Tryz.prog 58 #[stoV S,.int .i64 k] w (Same (.bool (stMv s k).isSome) w):=by
 obtain ⟨f1,_,_⟩:=OkP.few hs
 refine Does.enter Tryz.func58 rfl Tryz.ntmps58 rfl rfl ?_
 refine Goes.adv hTT 400 rfl ?_
 refine Goes.call rfl (store_there h hs k) ?_
 rintro _ _ ⟨rfl,rfl⟩
 refine Goes.adv hTT 400 rfl ?_
 cases ht:thereK s k with
 |false =>
  refine Goes.no hTT rfl rfl rfl ?_
  rw [mv_none ht]
  exact Goes.ret1 hTT rfl Tryz.func58 rfl rfl ⟨rfl,rfl⟩
 |true =>
  obtain ⟨j,rfl,hj⟩:=there_yes ht
  obtain ⟨x,hx,e⟩:=h.mo_at hj
  rw [← e]
  refine Goes.yes hTT rfl rfl rfl ?_
  refine Goes.loadb hTT rfl h.obj rfl rfl ?_
  refine Goes.index hTT rfl (j:=(j*6)) (by omega) (by omega) (by first | rfl | omega | (simp; done) | (simp; omega)) rfl ?_
  cases x with
  |none =>
   refine Goes.load hTT rfl (h.mcell hx (i:=0) (by decide) rfl) rfl ?_
   exact Goes.ret1 hTT rfl Tryz.func58 rfl rfl ⟨rfl,rfl⟩
  |some p =>
   obtain ⟨b,m⟩:=p
   refine Goes.load hTT rfl (h.mcell hx (i:=0) (by decide) rfl) rfl ?_
   exact Goes.ret1 hTT rfl Tryz.func58 rfl rfl ⟨rfl,rfl⟩
section
variable {F Fr:Nat→Prop} {w w':World} {S:Sto} {s:StM} {by':Int} {mo:Mo} {pd:Option (Nat × PlcM)}
theorem StoOk.mvOk (h:StoOk F Fr w S s by' mo) (hs:s.OkP S.c pd) {j b:Nat} {m:MvM} (hx:mo[j]? = some (some (b,m))):MvOk w S.A (arV S s) (mvAt b m) m.gone:=by
 have hm:s.mv[j]? = some (some m):=by rw [← h.mom]; unfold moMv; rw [List.getElem?_map,hx]; rfl
 obtain ⟨h1,h2,h3,_⟩:=mv_lies hs hm
 have hg:=(hs.mv j m hm).2.2.2.2.2.2
 exact ⟨h.ar,(h.mob j b m hx).1,h3,by show m.gone≤m.size; omega,h1,h2⟩
end
theorem store_Left {F Fr:Nat→Prop} {w:World} {S:Sto} {s:StM} {by':Int} {mo:Mo} {pd:Option (Nat × PlcM)} (h:StoOk F Fr w S s by' mo) (hs:s.OkP S.c pd) (k:Int):Does Tryz.prog 27 #[stoV S,.int .i64 k] w (Grow (.int .i64 (stLeft s k:Nat)) w):=by
 obtain ⟨f1,_,_⟩:=OkP.few hs
 refine Does.enter Tryz.func27 rfl Tryz.ntmps27 rfl rfl ?_
 refine Goes.adv hTT 400 rfl ?_
 refine Goes.call rfl (store_moving h hs k) ?_
 rintro _ _ ⟨rfl,rfl⟩
 refine Goes.adv hTT 400 rfl ?_
 cases ht:stMv s k with
 |none =>
  have e:stLeft s k=0:=by unfold stLeft; rw [ht]
  rw [e]
  refine Goes.yes hTT rfl rfl rfl ?_
  exact Goes.ret1 hTT rfl Tryz.func27 rfl rfl ⟨rfl,Chg.refl _ _⟩
 |some m =>
  have e:stLeft s k=m.size - m.gone:=by unfold stLeft; rw [ht]
  rw [e]
  obtain ⟨j,rfl,hj,_⟩:=mv_some ht
  obtain ⟨x,hx,e⟩:=h.mo_at hj
  rw [ht] at e
  obtain ⟨⟨b,m'⟩,rfl,e'⟩:=Option.map_eq_some_iff.1 e
  simp only at e'
  subst e'
  refine Goes.no hTT rfl rfl rfl ?_
  refine Goes.loadb hTT rfl h.obj rfl rfl ?_
  refine Goes.index hTT rfl (j:=(j*6)) (by omega) (by omega) (by first | rfl | omega | (simp; done) | (simp; omega)) rfl ?_
  refine Goes.load hTT rfl (h.mcell hx (i:=0) (by decide) rfl) rfl ?_
  refine Goes.call rfl (move_Left S.A (arV S s) (mvAt b m') m'.gone w (h.mvOk hs hx)) ?_
  rintro _ w1 ⟨rfl,hw1⟩
  refine Goes.adv hTT 400 rfl ?_
  exact Goes.ret1 hTT rfl Tryz.func27 rfl rfl ⟨rfl,hw1⟩
def OwnTo (F:Nat→Prop) (w0:World) (s:StM) (o e:Int) (v:Value):Prop := ∃ q,v = .tuple #[.agg (thL (stSize s o) q).toArray,.int .i64 e]∧plcP q=stQ s o∧PlcOk w0 q∧OutA F q.pa∧IntA w0 q.pa
abbrev q0:Plc:=⟨0,0,0,none,0,[]⟩
theorem own_no {F:Nat→Prop} {s:StM} {o e:Int} {w':World} (h:stTh s o=none):OwnTo F w' s o e (.tuple #[.agg (thL 0 q0).toArray,.int .i64 e]):=by
 refine ⟨q0,?_,?_,⟨Rd.nil _ _ _,by simp⟩,(fun _ _ _ e=>by cases e),(fun _ _ _ e=>by cases e)⟩
 ·have:stSize s o=0:=by unfold stSize; rw [h]
  rw [this]
 ·unfold stQ; rw [h]; rfl
theorem store_owned {F Fr:Nat→Prop} {w0 w:World} {S:Sto} {s:StM} {by':Int} {mo:Mo} {pd:Option (Nat × PlcM)} (h0:StoOk F Fr w0 S s by' mo) (hw0:Chg None' w0 w) (hs:s.OkP S.c pd) (o:Int):Does Tryz.prog 70 #[stoV S,.int .i64 o] w (fun v w'=>OwnTo F w0 s o (ownedE s o) v∧Chg None' w w'):=by
 have htl:=hs.tl
 have h:=h0.grow hw0
 refine Does.enter Tryz.func70 rfl Tryz.ntmps70 rfl rfl ?_
 refine Goes.adv hTT 400 rfl ?_
 refine Goes.alloc hTT rfl ?_
 intro b w1 e1 hb hw1 hz1
 refine Goes.adv hTT 400 rfl ?_
 have h1:=h.grow hw1
 by_cases g:o<0∨S.c.slots≤o
 ·have hE:ownedE s o=1:=by unfold ownedE; rw [if_pos (by omega)]
  have hT:stTh s o=none:=by
   unfold stTh
   split
   ·rw [List.getD_eq_getElem?_getD,List.getElem?_eq_none (by omega)]; rfl
   ·rfl
  rw [hE]
  refine Goes.fork hTT rfl rfl rfl (fun g1 => ?_) (fun g1 => ?_)
  ·have g1':=of_decide_eq_true g1
   refine Goes.build hTT rfl rfl ?_
   refine Goes.store hTT rfl hb rfl rfl ?_
   intro w2 hb2 hw2 hz2
   refine Goes.adv hTT 400 rfl ?_
   exact Goes.ret hTT rfl Tryz.func70 (ResOk.cell rfl rfl rfl hb2 rfl (.tmp rfl .nil)) ⟨own_no hT,hw1.since hw2 (fun z hz e=>by omega)⟩
  ·have g1':=of_decide_eq_false g1
   refine Goes.loadb hTT rfl h1.obj rfl rfl ?_
   refine Goes.yes hTT rfl (decide_eq_true (by omega)) rfl ?_
   refine Goes.build hTT rfl rfl ?_
   refine Goes.store hTT rfl hb rfl rfl ?_
   intro w2 hb2 hw2 hz2
   refine Goes.adv hTT 400 rfl ?_
   exact Goes.ret hTT rfl Tryz.func70 (ResOk.cell rfl rfl rfl hb2 rfl (.tmp rfl .nil)) ⟨own_no hT,hw1.since hw2 (fun z hz e=>by omega)⟩
 ·obtain ⟨j,rfl⟩:=Int.eq_ofNat_of_zero_le (show 0≤o by omega)
  refine Goes.no hTT rfl (decide_eq_false (by omega)) rfl ?_
  refine Goes.loadb hTT rfl h1.obj rfl rfl ?_
  refine Goes.no hTT rfl (decide_eq_false (by omega)) rfl ?_
  refine Goes.loadb hTT rfl h1.obj rfl rfl ?_
  obtain ⟨al,hal0,hnd,hin,hno⟩:=h0.th
  have hal:=hal0.chg (hw0.trans hw1) id
  cases hg:s.th[j]? with
  |none=>exact absurd hg (by rw [List.getElem?_eq_none_iff]; omega)
  |some x =>
   cases x with
   |none =>
    have hT:stTh s (j:Nat)=none:=by
     unfold stTh
     rw [if_pos (by omega),Int.toNat_natCast,List.getD_eq_getElem?_getD,hg]; rfl
    have hE:ownedE s (j:Nat)=9:=by unfold ownedE; rw [if_neg (by omega),hT]
    have hl:alook al (j:Nat)=none:=hno _ fun o1 t1 g1 e=>by
     have:o1=j:=by omega
     subst this
     rw [hg] at g1; cases g1
    rw [hE]
    refine Goes.lookup hTT rfl (hal) ((show lookV al _ _ true = .tuple #[.agg (thL 0 q0).toArray,.bool false] from by unfold lookV; rw [hl]; rfl)) rfl ?_
    refine Goes.alloc hTT rfl ?_
    intro b2 w2 e2 hb2 hw2 hz2
    refine Goes.adv hTT 400 rfl ?_
    refine Goes.store hTT rfl hb2 rfl rfl ?_
    intro w3 hb3 hw3 hz3
    refine Goes.adv hTT 400 rfl ?_
    refine Goes.yes hTT rfl rfl rfl ?_
    refine Goes.build hTT rfl rfl ?_
    refine Goes.store hTT rfl (hw3.heap (hw2.heap' hb) (by omega)) rfl rfl ?_
    intro w4 hb4 hw4 hz4
    refine Goes.adv hTT 400 rfl ?_
    exact Goes.ret hTT rfl Tryz.func70 (ResOk.cell rfl rfl rfl hb4 rfl (.tmp rfl .nil)) ⟨own_no hT,((hw1.trans hw2).since hw3 (fun z hz e=>by omega)).since hw4 (fun z hz e=>by omega)⟩
   |some t =>
    have hT:stTh s (j:Nat)=some t:=th_of hg
    have hE:ownedE s (j:Nat)=0:=by unfold ownedE; rw [if_neg (by omega),hT]
    have hsz:stSize s (j:Nat)=t.size:=by unfold stSize; rw [hT]
    obtain ⟨q,q1,q2,q3,q4,q5⟩:=hin j t hg
    rw [hE]
    refine Goes.lookup hTT rfl (hal) ((show lookV al _ _ true = .tuple #[.agg (thL t.size q).toArray,.bool true] from by unfold lookV; rw [q2]; rfl)) rfl ?_
    refine Goes.alloc hTT rfl ?_
    intro b2 w2 e2 hb2 hw2 hz2
    refine Goes.adv hTT 400 rfl ?_
    refine Goes.store hTT rfl hb2 rfl rfl ?_
    intro w3 hb3 hw3 hz3
    refine Goes.adv hTT 400 rfl ?_
    refine Goes.no hTT rfl rfl rfl ?_
    refine Goes.loads hTT rfl hb3 rfl rfl ?_
    refine Goes.store hTT rfl (hw3.heap (hw2.heap' hb) (by omega)) rfl rfl ?_
    intro w4 hb4 hw4 hz4
    refine Goes.adv hTT 400 rfl ?_
    have hw04:Chg None' w w4:=((hw1.trans hw2).since hw3 (fun z hz e=>by omega)).since hw4 (fun z hz e=>by omega)
    exact Goes.ret hTT rfl Tryz.func70 (ResOk.cell rfl rfl rfl hb4 rfl (.tmp rfl .nil)) ⟨⟨q,by rw [hsz]; rfl,q1.trans (stQ_of hg).symm,q3,q4,q5⟩,hw04⟩
theorem store_within {F Fr:Nat→Prop} {w0 w:World} {S:Sto} {s:StM} {by':Int} {mo:Mo} {pd:Option (Nat × PlcM)} (h:StoOk F Fr w0 S s by' mo) (hw0:Chg None' w0 w) (hs:s.OkP S.c pd) (o i n:Int) (hi : -9223372036854775808≤i∧i≤9223372036854775807) (hn : -9223372036854775808≤n∧n≤9223372036854775807):Does Tryz.prog 71 #[stoV S,.int .i64 o,.int .i64 i,.int .i64 n] w (fun v w'=>OwnTo F w0 s o (withinE s o i n) v∧Chg None' w w'):=by
 have hsz:0≤stSize s o∧stSize s o≤1152921504606846976:=by
  unfold stSize
  cases ht:stTh s o with
  |none=>simp
  |some t =>
   obtain ⟨j,_,_,hj⟩:=th_some ht
   have:=hs.size j t hj
   have:=(may_facts hs.may).most
   simp only
   omega
 refine Does.enter Tryz.func71 rfl Tryz.ntmps71 rfl rfl ?_
 refine Goes.adv hTT 400 rfl ?_
 refine Goes.alloc hTT rfl ?_
 intro b w1 e1 hb hw1 hz1
 refine Goes.adv hTT 400 rfl ?_
 refine Goes.call rfl (store_owned h (hw0.trans hw1) hs o) ?_
 rintro _ w2 ⟨⟨q,rfl,q1,q2,q3,q4⟩,hw2⟩
 refine Goes.adv hTT 400 rfl ?_
 have hb2:=hw2.heap' hb
 have hs2:=hw2.size
 refine Goes.alloc hTT rfl ?_
 intro b3 w3 e3 hb3 hw3 hz3
 refine Goes.adv hTT 400 rfl ?_
 refine Goes.store hTT rfl hb3 rfl rfl ?_
 intro w4 hb4 hw4 hz4
 refine Goes.adv hTT 400 rfl ?_
 have hbb4:=hw4.heap (hw3.heap' hb2) (by omega)
 refine Goes.fork hTT rfl rfl rfl (fun g1 => ?_) (fun g1 => ?_)
 ·have g1':ownedE s o=0:=by simpa using g1
  by_cases g:i<0∨n<0∨stSize s o<n∨stSize s o - n<i
  ·have e:withinE s o i n=8:=by unfold withinE; rw [if_neg (by omega),if_pos g]
   refine Goes.fork hTT rfl rfl rfl (fun g2 => ?_) (fun g2 => ?_)
   ·have hw04:Chg None' w w4:=((hw1.trans hw2).trans hw3).since hw4 (fun z hz e=>by omega)
    refine Goes.loads hTT rfl hb4 rfl rfl ?_
    refine Goes.store hTT rfl hbb4 rfl rfl ?_
    intro w5 hb5 hw5 hz5
    refine Goes.adv hTT 400 rfl ?_
    have hw05:Chg None' w w5:=hw04.since hw5 (fun z hz e=>by omega)
    exact Goes.ret hTT rfl Tryz.func71 (ResOk.cell rfl rfl rfl hb5 rfl (.tmp rfl .nil)) ⟨⟨q,by rw [e]; rfl,q1,q2,q3,q4⟩,hw05⟩
   ·have g2':=of_decide_eq_false g2
    refine Goes.fork hTT rfl rfl rfl (fun g3 => ?_) (fun g3 => ?_)
    ·have hw04:Chg None' w w4:=((hw1.trans hw2).trans hw3).since hw4 (fun z hz e=>by omega)
     refine Goes.loads hTT rfl hb4 rfl rfl ?_
     refine Goes.store hTT rfl hbb4 rfl rfl ?_
     intro w5 hb5 hw5 hz5
     refine Goes.adv hTT 400 rfl ?_
     have hw05:Chg None' w w5:=hw04.since hw5 (fun z hz e=>by omega)
     exact Goes.ret hTT rfl Tryz.func71 (ResOk.cell rfl rfl rfl hb5 rfl (.tmp rfl .nil)) ⟨⟨q,by rw [e]; rfl,q1,q2,q3,q4⟩,hw05⟩
    ·have g3':=of_decide_eq_false g3
     refine Goes.loadb hTT rfl hb4 rfl rfl ?_
     refine Goes.fork hTT rfl rfl rfl (fun g4 => ?_) (fun g4 => ?_)
     ·have hw04:Chg None' w w4:=((hw1.trans hw2).trans hw3).since hw4 (fun z hz e=>by omega)
      refine Goes.loads hTT rfl hb4 rfl rfl ?_
      refine Goes.store hTT rfl hbb4 rfl rfl ?_
      intro w5 hb5 hw5 hz5
      refine Goes.adv hTT 400 rfl ?_
      have hw05:Chg None' w w5:=hw04.since hw5 (fun z hz e=>by omega)
      exact Goes.ret hTT rfl Tryz.func71 (ResOk.cell rfl rfl rfl hb5 rfl (.tmp rfl .nil)) ⟨⟨q,by rw [e]; rfl,q1,q2,q3,q4⟩,hw05⟩
     ·have g4':=of_decide_eq_false g4
      refine Goes.loadb hTT rfl hb4 rfl rfl ?_
      refine Goes.arith hTT rfl (w64 (by omega)) rfl ?_
      refine Goes.yes hTT rfl (decide_eq_true (by omega)) rfl ?_
      have hw04:Chg None' w w4:=((hw1.trans hw2).trans hw3).since hw4 (fun z hz e=>by omega)
      refine Goes.loads hTT rfl hb4 rfl rfl ?_
      refine Goes.store hTT rfl hbb4 rfl rfl ?_
      intro w5 hb5 hw5 hz5
      refine Goes.adv hTT 400 rfl ?_
      have hw05:Chg None' w w5:=hw04.since hw5 (fun z hz e=>by omega)
      exact Goes.ret hTT rfl Tryz.func71 (ResOk.cell rfl rfl rfl hb5 rfl (.tmp rfl .nil)) ⟨⟨q,by rw [e]; rfl,q1,q2,q3,q4⟩,hw05⟩
  ·have e:withinE s o i n=0:=by unfold withinE; rw [if_neg (by omega),if_neg g]
   refine Goes.no hTT rfl (decide_eq_false (by omega)) rfl ?_
   refine Goes.no hTT rfl (decide_eq_false (by omega)) rfl ?_
   refine Goes.loadb hTT rfl hb4 rfl rfl ?_
   refine Goes.no hTT rfl (decide_eq_false (by omega)) rfl ?_
   refine Goes.loadb hTT rfl hb4 rfl rfl ?_
   refine Goes.arith hTT rfl (w64 (by omega)) rfl ?_
   refine Goes.no hTT rfl (decide_eq_false (by omega)) rfl ?_
   have g1'':ownedE s o=withinE s o i n:=by rw [g1',e]
   have hw04:Chg None' w w4:=((hw1.trans hw2).trans hw3).since hw4 (fun z hz e=>by omega)
   refine Goes.loads hTT rfl hb4 rfl rfl ?_
   refine Goes.store hTT rfl hbb4 rfl rfl ?_
   intro w5 hb5 hw5 hz5
   refine Goes.adv hTT 400 rfl ?_
   have hw05:Chg None' w w5:=hw04.since hw5 (fun z hz e=>by omega)
   exact Goes.ret hTT rfl Tryz.func71 (ResOk.cell rfl rfl rfl hb5 rfl (.tmp rfl .nil)) ⟨⟨q,by rw [← g1'']; rfl,q1,q2,q3,q4⟩,hw05⟩
 ·have e:ownedE s o=withinE s o i n:=by unfold withinE; rw [if_pos (by simpa using g1)]
  have hw04:Chg None' w w4:=((hw1.trans hw2).trans hw3).since hw4 (fun z hz e=>by omega)
  refine Goes.loads hTT rfl hb4 rfl rfl ?_
  refine Goes.store hTT rfl hbb4 rfl rfl ?_
  intro w5 hb5 hw5 hz5
  refine Goes.adv hTT 400 rfl ?_
  have hw05:Chg None' w w5:=hw04.since hw5 (fun z hz e=>by omega)
  exact Goes.ret hTT rfl Tryz.func71 (ResOk.cell rfl rfl rfl hb5 rfl (.tmp rfl .nil)) ⟨⟨q,by rw [← e]; rfl,q1,q2,q3,q4⟩,hw05⟩
end Go.Proofs.YtnaoiegcobineaaGreatDoor
namespace Go.Proofs.YtnaoiegcobineaaGreatDoor
open Go.RowKit
theorem store_Size {F Fr:Nat→Prop} {w:World} {S:Sto} {s:StM} {by':Int} {mo:Mo} {pd:Option (Nat × PlcM)} (h:StoOk F Fr w S s by' mo) (hs:s.OkP S.c pd) (o:Int):Does Tryz.prog 25 #[stoV S,.int .i64 o] w (Grow (.int .i64 (stSize s o)) w):=by
 refine Does.enter Tryz.func25 rfl Tryz.ntmps25 rfl rfl ?_
 refine Goes.adv hTT 400 rfl ?_
 refine Goes.call rfl (store_owned h (Chg.refl _ _) hs o) ?_
 rintro _ w2 ⟨⟨q,rfl,_⟩,hw2⟩
 refine Goes.adv hTT 400 rfl ?_
 refine Goes.alloc hTT rfl ?_
 intro b3 w3 e3 hb3 hw3 hz3
 refine Goes.adv hTT 400 rfl ?_
 refine Goes.store hTT rfl hb3 rfl rfl ?_
 intro w4 hb4 hw4 hz4
 refine Goes.adv hTT 400 rfl ?_
 refine Goes.loadb hTT rfl hb4 rfl rfl ?_
 exact Goes.ret1 hTT rfl Tryz.func25 rfl rfl ⟨rfl,(hw2.trans hw3).since hw4 (fun z hz e=>by have:=hw2.size; omega)⟩
theorem store_ask {S:Sto} (fk:Nat) (caps:List Value) (w:World) (Q:Int→World→Prop) (hf:Does Tryz.prog fk caps.toArray w (fun v w' => ∃ n:Int,v = .int .i64 n∧Q n w')):Does Tryz.prog 52 #[stoV S,.func (.func fk) #[] caps.toArray] w (fun v w' => ∃ n:Int,v = .int .i64 n∧Q n w'):=by
 refine Does.enter Tryz.func52 rfl Tryz.ntmps52 rfl rfl ?_
 refine Goes.adv hTT 400 rfl ?_
 refine Goes.call rfl (hf) ?_
 rintro _ w1 ⟨n,rfl,hq⟩
 refine Goes.adv hTT 400 rfl ?_
 exact Goes.ret1 hTT rfl Tryz.func52 rfl rfl ⟨n,rfl,hq⟩
abbrev sptrBox (w:World) (b:Nat) (v:Value):Prop:=w.heap[b]? = some (.cells #[v] 26 (0,0))
theorem store_Held1 {F Fr:Nat→Prop} {w:World} {S:Sto} {s:StM} {by':Int} {mo:Mo} (h:StoOk F Fr w S s by' mo) (b:Nat) (hb:sptrBox w b (stoV S)):Does Tryz.prog 53 [.pointer (some ⟨b,0,none⟩)].toArray w (fun v w' => ∃ n:Int,v = .int .i64 n∧n=(heldM s.rm.pl:Nat)∧w=w'):=by
 refine Does.enter Tryz.func53 rfl Tryz.ntmps53 rfl rfl ?_
 refine Goes.adv hTT 400 rfl ?_
 refine Goes.load hTT rfl (cell_nth (off:=0) hb rfl) rfl ?_
 refine Goes.loadb hTT rfl h.obj rfl rfl ?_
 refine Goes.call rfl (room_Held h.room) ?_
 rintro _ _ ⟨rfl,rfl⟩
 refine Goes.adv hTT 400 rfl ?_
 exact Goes.ret1 hTT rfl Tryz.func53 rfl rfl ⟨_,rfl,rfl,rfl⟩
theorem store_Held {F Fr:Nat→Prop} {w:World} {S:Sto} {s:StM} {by':Int} {mo:Mo} (h:StoOk F Fr w S s by' mo):Does Tryz.prog 13 #[stoV S] w (Grow (.int .i64 (heldM s.rm.pl:Nat)) w):=by
 refine Does.enter Tryz.func13 rfl Tryz.ntmps13 rfl rfl ?_
 refine Goes.adv hTT 400 rfl ?_
 refine Goes.alloc hTT rfl ?_
 intro b w1 e1 hb hw1 hz1
 refine Goes.adv hTT 400 rfl ?_
 refine Goes.load hTT rfl (cell_nth (off:=0) hb rfl) rfl ?_
 refine Goes.call rfl (store_ask (S:=S) 53 [.pointer (some ⟨b,0,none⟩)] w1 _ (store_Held1 (h.grow hw1) b hb)) ?_
 rintro _ w2 ⟨n,rfl,rfl,rfl⟩
 refine Goes.adv hTT 400 rfl ?_
 exact Goes.ret1 hTT rfl Tryz.func13 rfl rfl ⟨rfl,hw1⟩
theorem store_Bytes1 {F Fr:Nat→Prop} {w:World} {S:Sto} {s:StM} {by':Int} {mo:Mo} (h:StoOk F Fr w S s by' mo) (b:Nat) (hb:sptrBox w b (stoV S)):Does Tryz.prog 55 [.pointer (some ⟨b,0,none⟩)].toArray w (fun v w' => ∃ n:Int,v = .int .i64 n∧n=by'∧w=w'):=by
 refine Does.enter Tryz.func55 rfl Tryz.ntmps55 rfl rfl ?_
 refine Goes.adv hTT 400 rfl ?_
 refine Goes.load hTT rfl (cell_nth (off:=0) hb rfl) rfl ?_
 refine Goes.loadb hTT rfl h.obj rfl rfl ?_
 exact Goes.ret1 hTT rfl Tryz.func55 rfl rfl ⟨_,rfl,rfl,rfl⟩
theorem store_Bytes {F Fr:Nat→Prop} {w:World} {S:Sto} {s:StM} {by':Int} {mo:Mo} (h:StoOk F Fr w S s by' mo):Does Tryz.prog 14 #[stoV S] w (Grow (.int .i64 by') w):=by
 refine Does.enter Tryz.func14 rfl Tryz.ntmps14 rfl rfl ?_
 refine Goes.adv hTT 400 rfl ?_
 refine Goes.alloc hTT rfl ?_
 intro b w1 e1 hb hw1 hz1
 refine Goes.adv hTT 400 rfl ?_
 refine Goes.load hTT rfl (cell_nth (off:=0) hb rfl) rfl ?_
 refine Goes.call rfl (store_ask (S:=S) 55 [.pointer (some ⟨b,0,none⟩)] w1 _ (store_Bytes1 (h.grow hw1) b hb)) ?_
 rintro _ w2 ⟨n,rfl,rfl,rfl⟩
 refine Goes.adv hTT 400 rfl ?_
 exact Goes.ret1 hTT rfl Tryz.func14 rfl rfl ⟨rfl,hw1⟩
theorem store_Open1 {F Fr:Nat→Prop} {w:World} {S:Sto} {s:StM} {by':Int} {mo:Mo} (h:StoOk F Fr w S s by' mo) (b kb:Nat) (k:Int) (hb:sptrBox w b (stoV S)) (hk:w.heap[kb]? = some (.cells #[.int .i64 k] 3 (0,0))):Does Tryz.prog 74 [.pointer (some ⟨b,0,none⟩),.pointer (some ⟨kb,0,none⟩)].toArray w (fun v w' => ∃ n:Int,v = .int .i64 n∧n=(rmOpen s.rm k:Nat)∧Chg None' w w'):=by
 refine Does.enter Tryz.func74 rfl Tryz.ntmps74 rfl rfl ?_
 refine Goes.adv hTT 400 rfl ?_
 refine Goes.drawn (q:=5) None' hTT mixed (by kernel_rfl) rfl ?_
 intro hB
 refine Drawn.load hTT hB rfl (cell_nth (off:=0) hb rfl) (by first | exact fun h=>h | (intro h; omega) | assumption) rfl ?_
 refine Drawn.loadb hTT hB rfl h.obj (by first | exact fun h=>h | (intro h; omega) | assumption) rfl rfl ?_
 refine Drawn.load hTT hB rfl (cell_nth (off:=0) hk rfl) (by first | exact fun h=>h | (intro h; omega) | assumption) rfl ?_
 refine Drawn.nil hB ?_
 intro w1 hw1
 refine Goes.adv hTT 400 rfl ?_
 refine Goes.call rfl (room_Open (h.room.grow hw1) k) ?_
 rintro _ _ ⟨rfl,rfl⟩
 refine Goes.adv hTT 400 rfl ?_
 exact Goes.ret1 hTT rfl Tryz.func74 rfl rfl ⟨_,rfl,rfl,hw1⟩
theorem store_Open {F Fr:Nat→Prop} {w:World} {S:Sto} {s:StM} {by':Int} {mo:Mo} (h:StoOk F Fr w S s by' mo) (k:Int):Does Tryz.prog 28 #[stoV S,.int .i64 k] w (Grow (.int .i64 (rmOpen s.rm k:Nat)) w):=by
 refine Does.enter Tryz.func28 rfl Tryz.ntmps28 rfl rfl ?_
 refine Goes.adv hTT 400 rfl ?_
 refine Goes.alloc hTT rfl ?_
 intro b w1 e1 hb hw1 hz1
 refine Goes.adv hTT 400 rfl ?_
 refine Goes.alloc hTT rfl ?_
 intro kb w2 e2 hk hw2 hz2
 refine Goes.adv hTT 400 rfl ?_
 refine Goes.load hTT rfl (cell_nth (off:=0) (hw2.heap' hb) rfl) rfl ?_
 refine Goes.call rfl (store_ask (S:=S) 74 [.pointer (some ⟨b,0,none⟩),.pointer (some ⟨kb,0,none⟩)] w2 _ (store_Open1 (h.grow (hw1.trans hw2)) b kb k (hw2.heap' hb) hk)) ?_
 rintro _ w3 ⟨n,rfl,rfl,hw3⟩
 refine Goes.adv hTT 400 rfl ?_
 exact Goes.ret1 hTT rfl Tryz.func28 rfl rfl ⟨rfl,(hw1.trans hw2).trans hw3⟩
theorem store_stays {F Fr:Nat→Prop} {w:World} {S:Sto} {s:StM} {by':Int} {mo:Mo} (h:StoOk F Fr w S s by' mo) (old size:Int) (ho:old≤9223372036854775807) (hz:size≤9223372036854775807):Does Tryz.prog 87 #[stoV S,.int .i64 old,.int .i64 size] w (Grow (.bool (staysB S.c old size)) w):=by
 have hcl:=h.ca.1
 have hl:S.c.classes.length≤9223372036854775807:=by have:=may_facts h.room.may; have:=this.n; rw [h.rc] at this; omega
 refine Does.enter Tryz.func87 rfl Tryz.ntmps87 rfl rfl ?_
 refine Goes.adv hTT 400 rfl ?_
 refine Goes.drawn (q:=13) None' hTT mixed (by kernel_rfl) rfl ?_
 intro hB
 refine Drawn.loadb hTT hB rfl h.obj (by first | exact fun h=>h | (intro h; omega) | assumption) rfl rfl ?_
 refine Drawn.call hTT hB rfl (fun w' hw'=>class_Pick S.p.ca S.p.cc S.c.classes old w' (hcl.chg hw') hl) rfl ?_
 refine Drawn.loadb hTT hB rfl h.obj (by first | exact fun h=>h | (intro h; omega) | assumption) rfl rfl ?_
 refine Drawn.nil hB ?_
 intro w1 hw1
 refine Goes.adv hTT 400 rfl ?_
 refine Goes.call rfl (class_Pick S.p.ca S.p.cc S.c.classes size w1 (hcl.chg hw1) hl) ?_
 rintro _ w2 ⟨rfl,hw2⟩
 refine Goes.adv hTT 400 rfl ?_
 have hw02:=hw1.trans hw2
 have h2:=h.grow hw02
 by_cases e1:pickM S.c.classes old=pickM S.c.classes size
 ·by_cases e2:pickM S.c.classes old = -1
  ·have e:staysB S.c old size=decide (manyM old S.c.size=manyM size S.c.size):=by unfold staysB; rw [decide_eq_true e1,Bool.true_and,decide_eq_false (fun h=>h e2),Bool.false_or]
   rw [e]
   refine Goes.drawn (q:=20) None' hTT mixed (by kernel_rfl) rfl ?_
   intro hB
   refine Drawn.yes hTT hB rfl (by simpa using e1) rfl ?_
   refine Drawn.no hTT hB rfl (by rw [e2]; rfl) rfl ?_
   refine Drawn.loadb hTT hB rfl h2.obj (by first | exact fun h=>h | (intro h; omega) | assumption) rfl rfl ?_
   refine Drawn.call hTT hB rfl (fun w' hw'=>(chain_Data old S.c.size w' ho).grow) rfl ?_
   refine Drawn.loadb hTT hB rfl h2.obj (by first | exact fun h=>h | (intro h; omega) | assumption) rfl rfl ?_
   refine Drawn.nil hB ?_
   intro w3 hw3
   refine Goes.adv hTT 400 rfl ?_
   refine Goes.call rfl (chain_Data size S.c.size w3 hz) ?_
   rintro _ _ ⟨rfl,rfl⟩
   refine Goes.adv hTT 400 rfl ?_
   exact Goes.ret1 hTT rfl Tryz.func87 rfl rfl ⟨rfl,hw02.trans hw3⟩
  ·have e:staysB S.c old size=true:=by unfold staysB; rw [decide_eq_true e1,Bool.true_and,decide_eq_true e2,Bool.true_or]
   rw [e]
   refine Goes.drawn (q:=20) None' hTT mixed (by kernel_rfl) rfl ?_
   intro hB
   refine Drawn.yes hTT hB rfl (by simpa using e1) rfl ?_
   refine Drawn.yes hTT hB rfl (by simpa using e2) rfl ?_
   refine Drawn.nil hB ?_
   intro w3 hw3
   refine Goes.adv hTT 400 rfl ?_
   exact Goes.ret1 hTT rfl Tryz.func87 rfl rfl ⟨rfl,hw02.trans hw3⟩
 ·have e:staysB S.c old size=false:=by unfold staysB; rw [decide_eq_false e1,Bool.false_and]
  rw [e]
  refine Goes.drawn (q:=20) None' hTT mixed (by kernel_rfl) rfl ?_
  intro hB
  refine Drawn.no hTT hB rfl (by simpa using e1) rfl ?_
  refine Drawn.nil hB ?_
  intro w3 hw3
  refine Goes.adv hTT 400 rfl ?_
  exact Goes.ret1 hTT rfl Tryz.func87 rfl rfl ⟨rfl,hw02.trans hw3⟩
theorem store_Fits {F Fr:Nat→Prop} {w:World} {S:Sto} {s:StM} {by':Int} {mo:Mo} {pd:Option (Nat × PlcM)} (h:StoOk F Fr w S s by' mo) (hs:s.OkP S.c pd) (size:Int):Does Tryz.prog 16 #[stoV S,.int .i64 size] w (Grow (.int .i64 (stFits S.c s size)) w):=by
 have hcl:=h.ca.1
 have hl:S.c.classes.length≤9223372036854775807:=by have:=may_facts h.room.may; have:=this.n; rw [h.rc] at this; omega
 refine Does.enter Tryz.func16 rfl Tryz.ntmps16 rfl rfl ?_
 refine Goes.adv hTT 400 rfl ?_
 refine Goes.fork hTT rfl rfl rfl (fun h1 => ?_) (fun h1 => ?_)
 ·have e:stFits S.c s size=3:=by unfold stFits; rw [if_pos (.inl (of_decide_eq_true h1))]
  rw [e]
  exact Goes.ret1 hTT rfl Tryz.func16 rfl rfl ⟨rfl,Chg.refl _ _⟩
 ·have h1':=of_decide_eq_false h1
  refine Goes.loadb hTT rfl h.obj rfl rfl ?_
  refine Goes.fork hTT rfl rfl rfl (fun h2 => ?_) (fun h2 => ?_)
  ·have e:stFits S.c s size=3:=by unfold stFits; rw [if_pos (.inr (of_decide_eq_true h2))]
   rw [e]
   exact Goes.ret1 hTT rfl Tryz.func16 rfl rfl ⟨rfl,Chg.refl _ _⟩
  ·have h2':=of_decide_eq_false h2
   have e:stFits S.c s size=if (stMv s (pickM S.c.classes size)).isSome then 0 else rmFits S.c s.rm size:=by unfold stFits; rw [if_neg (by omega)]
   rw [e]
   refine Goes.loadb hTT rfl h.obj rfl rfl ?_
   refine Goes.call rfl (class_Pick S.p.ca S.p.cc S.c.classes size w hcl hl) ?_
   rintro _ w1 ⟨rfl,hw1⟩
   refine Goes.adv hTT 400 rfl ?_
   have hA:=h.grow hw1
   refine Goes.call rfl (store_moving hA hs (pickM S.c.classes size)) ?_
   rintro _ _ ⟨rfl,rfl⟩
   refine Goes.adv hTT 400 rfl ?_
   cases hm:(stMv s (pickM S.c.classes size)).isSome with
   |true =>
    refine Goes.yes hTT rfl rfl rfl ?_
    exact Goes.ret1 hTT rfl Tryz.func16 rfl rfl ⟨rfl,hw1⟩
   |false =>
    refine Goes.no hTT rfl rfl rfl ?_
    refine Goes.loadb hTT rfl hA.obj rfl rfl ?_
    have hr:=room_Fits hA.room size
    rw [hA.rc] at hr
    refine Goes.call rfl (hr) ?_
    rintro _ w2 ⟨rfl,hw2⟩
    refine Goes.adv hTT 400 rfl ?_
    exact Goes.ret1 hTT rfl Tryz.func16 rfl rfl ⟨rfl,hw1.trans hw2⟩
end Go.Proofs.YtnaoiegcobineaaGreatDoor
namespace Go.Proofs.YtnaoiegcobineaaGreatDoor
open Go.RowKit
theorem plan_Due (opn keep:Int) (w:World) (ho:0≤opn∧opn≤4611686018427387904) (hk:0≤keep∧keep≤4611686018427387904):Does Tryz.prog 137 #[.int .i64 opn,.int .i64 keep] w (Same (.bool (dueB opn keep)) w):=by
 refine Does.enter Tryz.func137 rfl Tryz.ntmps137 rfl rfl ?_
 refine Goes.adv hTT 400 rfl ?_
 refine Goes.fork hTT rfl rfl rfl (fun h1 => ?_) (fun h1 => ?_)
 ·have h1':=of_decide_eq_true h1
  refine Goes.arith hTT rfl (wrap_u64 (by omega)) rfl ?_
  refine Goes.arith hTT rfl (wrap_u64 (by omega)) rfl ?_
  refine Goes.arith hTT rfl (wrap_u64 (by omega)) rfl ?_
  have e:dueB opn keep=decide (opn - keep > 1):=by
   unfold dueB
   rw [decide_eq_true (by omega),Bool.true_and]
   exact decide_eq_decide.2 (by omega)
  rw [e]
  exact Goes.ret1 hTT rfl Tryz.func137 rfl rfl ⟨rfl,rfl⟩
 ·have h1':=of_decide_eq_false h1
  have e:dueB opn keep=false:=by unfold dueB; rw [decide_eq_false (by omega),Bool.false_and]
  rw [e]
  exact Goes.ret1 hTT rfl Tryz.func137 rfl rfl ⟨rfl,rfl⟩
section
variable {F Fr:Nat→Prop} {w w':World} {S:Sto} {s:StM} {by':Int} {mo:Mo} {pd:Option (Nat × PlcM)}
theorem StoOk.kcell (h:StoOk F Fr w S s by' mo) {k:Nat} (hk:k<s.keep.length):w.cell? ⟨S.kb,0+k,none⟩=some (.int .i64 (s.keep.getD k 0)):=by
 refine (cell_of h.kee).trans ?_
 rw [Nat.zero_add,List.getElem?_toArray,List.getElem?_append_left (by rw [List.length_map]; exact hk),List.getElem?_map,List.getElem?_eq_getElem hk,List.getD_eq_getElem?_getD,List.getElem?_eq_getElem hk]
 rfl
theorem keep_in (hs:s.OkP S.c pd) {k:Nat} (hk:k<s.keep.length):0≤s.keep.getD k 0∧s.keep.getD k 0≤1024:=by
 rw [List.getD_eq_getElem?_getD,List.getElem?_eq_getElem hk]
 exact hs.kr _ (List.getElem_mem hk)
theorem open_le (hs:s.OkP S.c pd) (k:Int):rmOpen s.rm k≤1024:=by
 unfold rmOpen
 cases hg:rmGet s.rm k with
 |none=>simp
 |some x =>
  obtain ⟨j,rfl,hj,hx⟩:=rmGet_some hg
  exact ((hs.rm.mok.sh j x hx).1.few).2.1
theorem mver_set {k:Nat} {y:Option (Nat × MvM)} (hk:k<mo.length):setV (fl mverL mo) (0+k*6) (mverL y)=some (fl mverL (mo.set k y)):=by
 have:=fl_set (cells:=mverL) mverL_len (xs:=mo) (k:=k) (y:=y) (rest := []) hk
 simpa using this
theorem plcOk_nil (a b c:Int):PlcOk w ⟨a,b,c,none,0,[]⟩:=⟨Rd.nil _ _ _,by simp⟩
end
set_option maxRecDepth 100000 in
theorem store_begin {F Fr:Nat→Prop} {w:World} {S:Sto} {s:StM} {by':Int} {mo:Mo} (h:StoOk F Fr w S s by' mo) (hs:s.Ok S.c) (k:Nat) (hk:k<s.mv.length):Does Tryz.prog 82 #[stoV S,.int .i64 (k:Nat)] w (fun _ w'=>StTo F w w' S (stBegin S.c s k) by'):=by
 obtain ⟨f1,f2,f3⟩:=OkP.few hs
 have hkk:k<s.keep.length:=by omega
 have hkc:k<S.c.classes.length:=by have:=hs.ml; omega
 have hki:=keep_in hs hkk
 have hop:=open_le hs (k:Nat)
 have no:∀ {w'},Chg None' w w'→begins s k=false→StTo F w w' S (stBegin S.c s k) by':=fun {w'} hc hb=>by
  unfold stBegin
  rw [hb]
  exact .of (h.grow hc) (hc.mono fun _ _ h=>h.elim)
 refine Does.enter Tryz.func82 rfl Tryz.ntmps82 rfl rfl ?_
 refine Goes.adv hTT 400 rfl ?_
 cases hm:(stMv s (k:Nat)).isSome with
 |true =>
  have hb:begins s k=false:=by
   unfold begins
   cases hx:stMv s (k:Nat) with
   |none=>rw [hx] at hm; cases hm
   |some x=>rfl
  refine Goes.drawn (q:=17) None' hTT mixed (by kernel_rfl) rfl ?_
  intro hB
  refine Drawn.call hTT hB rfl (fun w' hw'=>(store_moving (h.grow hw') hs (k:Nat)).grow) rfl ?_
  refine Drawn.yes hTT hB rfl hm rfl ?_
  refine Drawn.nil hB ?_
  intro w1 hw1
  refine Goes.adv hTT 400 rfl ?_
  exact Goes.ret0 hTT rfl Tryz.func82 rfl (no hw1 hb)
 |false =>
  have hnn:(stMv s (k:Nat)).isNone=true:=by
   cases hx:stMv s (k:Nat) with
   |none=>rfl
   |some x=>rw [hx] at hm; cases hm
  refine Goes.drawn (q:=17) None' hTT mixed (by kernel_rfl) rfl ?_
  intro hB
  refine Drawn.call hTT hB rfl (fun w' hw'=>(store_moving (h.grow hw') hs (k:Nat)).grow) rfl ?_
  refine Drawn.no hTT hB rfl hm rfl ?_
  refine Drawn.loadb hTT hB rfl h.obj (by first | exact fun h=>h | (intro h; omega) | assumption) rfl rfl ?_
  refine Drawn.call hTT hB rfl (fun w' hw'=>(room_Open (h.room.grow hw') (k:Nat)).grow) rfl ?_
  refine Drawn.loadb hTT hB rfl h.obj (by first | exact fun h=>h | (intro h; omega) | assumption) rfl rfl ?_
  refine Drawn.index hTT hB rfl (j:=k) (by omega) (by omega) (by first | rfl | omega | (simp; done) | (simp; omega)) rfl ?_
  refine Drawn.load hTT hB rfl (h.kcell hkk) (by first | exact fun h=>h | (intro h; omega) | assumption) rfl ?_
  refine Drawn.nil hB ?_
  intro w1 hw1
  refine Goes.adv hTT 400 rfl ?_
  refine Goes.call rfl (plan_Due (rmOpen s.rm (k:Nat):Nat) (s.keep.getD k 0) w1 (by omega) (by omega)) ?_
  rintro _ _ ⟨rfl,rfl⟩
  refine Goes.adv hTT 400 rfl ?_
  cases hd:dueB (rmOpen s.rm (k:Nat):Nat) (s.keep.getD k 0) with
  |false =>
   have hb:begins s k=false:=by unfold begins; rw [hd,Bool.and_false,Bool.false_and]
   refine Goes.yes hTT rfl rfl rfl ?_
   exact Goes.ret0 hTT rfl Tryz.func82 rfl (no hw1 hb)
  |true =>
   refine Goes.no hTT rfl rfl rfl ?_
   refine Goes.loadb hTT rfl (hw1.heap' h.obj) rfl rfl ?_
   have hPl:=room_Plan (h.room.grow hw1) (k:Nat)
   obtain ⟨⟨pf,fa,pt,ta⟩,ePl⟩:∃ p,p=rmPlanN s.rm (k:Nat):=⟨_,rfl⟩
   rw [rmPlanL_eq,← ePl] at hPl
   simp only at hPl
   refine Goes.call rfl (hPl) ?_
   rintro _ w2 ⟨rfl,hw2⟩
   refine Goes.adv hTT 400 rfl ?_
   refine Goes.alloc hTT rfl ?_
   intro b w3 e3 hb3 hw3 hz3
   refine Goes.adv hTT 400 rfl ?_
   refine Goes.store hTT rfl hb3 rfl rfl ?_
   intro w4 hb4 hw4 hz4
   refine Goes.adv hTT 400 rfl ?_
   have hs2:=hw1.size
   have hs3:=hw2.size
   have hw04:Chg None' w w4:=((hw1.trans hw2).trans hw3).since hw4 (fun z hz e=>by omega)
   cases hp:rmPlanB s.rm (k:Nat) with
   |false =>
    have hb:begins s k=false:=by unfold begins; rw [hp,Bool.and_false]
    refine Goes.yes hTT rfl rfl rfl ?_
    exact Goes.ret0 hTT rfl Tryz.func82 rfl (no hw04 hb)
   |true =>
    have hb:begins s k=true:=by unfold begins; rw [hnn,hd,hp]; rfl
    refine Goes.no hTT rfl rfl rfl ?_
    obtain ⟨P,_,hnone,⟨o,t,w1',w2',w3'⟩,hf,ht⟩:=begin_facts hs hb
    have P1:=P.own
    have P2:=P.n (o:Int) (by omega)
    have P3:=P.a (o:Int) (by omega)
    rw [← ePl] at P1 P2 P3 w1' w3' hf ht
    simp only at P1 P2 P3 w1' w3' hf ht
    have h4:=h.grow hw04
    have hbF:¬ F b:=fun hz=>by have:=h.low b hz; omega
    refine Goes.drawn (q:=9) None' hTT mixed (by kernel_rfl) rfl ?_
    intro hB
    refine Drawn.loadb hTT hB rfl h4.obj (by first | exact fun h=>h | (intro h; omega) | assumption) rfl rfl ?_
    refine Drawn.loadb hTT hB rfl hb4 (by first | exact fun h=>h | (intro h; omega) | assumption) rfl rfl ?_
    refine Drawn.loadb hTT hB rfl hb4 (by first | exact fun h=>h | (intro h; omega) | assumption) rfl rfl ?_
    refine Drawn.nil hB ?_
    intro w5 hw5
    refine Goes.adv hTT 400 rfl ?_
    have h5:=h4.grow hw5
    have hb5:=hw5.heap' hb4
    refine Goes.call rfl (room_Owner h5.room (k:Nat) pf fa) ?_
    rintro _ _ ⟨rfl,rfl⟩
    refine Goes.adv hTT 400 rfl ?_
    rw [w1']
    refine Goes.loadb hTT rfl h5.obj rfl rfl ?_
    refine Goes.call rfl (room_Take h5.room (k:Nat) (o:Nat)) ?_
    rintro _ w6 ⟨rfl,⟨Fr',hr,hfr,hc56⟩⟩
    refine Goes.adv hTT 400 rfl ?_
    have h6:=h5.roomed hr hfr hc56
    have hb6:=hc56.heap hb5 (fun hz=>hbF (h.f1 _ hz))
    have hbF6:¬ (F b∨Fr' b):=fun hz=>hz.elim hbF (fun hz=>(hfr b hz).elim (fun hz=>hbF (h.f1 _ hz)) (by have:=lt_of_heap hb5; omega))
    have hsB:=StM.OkP.begin hs k
    have eB:stBegin S.c s k={s with rm:=rmTake s.rm (k:Nat) (o:Nat),mv:=s.mv.set k (some (newMv S.c s.rm k))}:=by unfold stBegin; rw [if_pos hb,← ePl]; simp only; rw [w1']
    rw [eB] at hsB ⊢
    obtain ⟨m,em⟩:∃ m,m=newMv S.c s.rm k:=⟨_,rfl⟩
    rw [← em] at hsB ⊢
    have hml:=mv_lies hsB (k:=k) (m:=m) (by show (s.mv.set k _)[k]? = _; rw [List.getElem?_set_self hk])
    obtain ⟨_,_,_,mf,mt,ms,_⟩:=hsB.mv k m (by show (s.mv.set k _)[k]? = _; rw [List.getElem?_set_self hk])
    have em2:m.who=o∧m.pf=pf∧m.fa=fa∧m.pt=pt∧m.ta=ta∧m.gone=0:=by rw [em]; unfold newMv; rw [← ePl]; exact ⟨w1',rfl,rfl,rfl,rfl,rfl⟩
    obtain ⟨e1',e2',e3',e4',e5',e6'⟩:=em2
    rw [e2',e3'] at mf
    rw [e4',e5'] at mt
    refine Goes.drawn (q:=10) None' hTT mixed (by kernel_rfl) rfl ?_
    intro hB
    refine Drawn.loadb hTT hB rfl h6.obj (by first | exact fun h=>h | (intro h; omega) | assumption) rfl rfl ?_
    refine Drawn.loadb hTT hB rfl hb6 (by first | exact fun h=>h | (intro h; omega) | assumption) rfl rfl ?_
    refine Drawn.loadb hTT hB rfl hb6 (by first | exact fun h=>h | (intro h; omega) | assumption) rfl rfl ?_
    refine Drawn.build hTT hB rfl rfl ?_
    refine Drawn.nil hB ?_
    intro w7 hw7
    refine Goes.adv hTT 400 rfl ?_
    have h7:=h6.grow hw7
    have hAt:=view_At S.v ⟨(k:Nat),pf,fa,none,0,[]⟩ w7 h7.vw (plcOk_nil _ _ _)
    rw [h.vc,show viewAt S.c ⟨(k:Nat),pf,fa,none,0,[]⟩=(m.f:Int) from mf.symm] at hAt
    refine Goes.call rfl (hAt) ?_
    rintro _ w8 ⟨rfl,hw8⟩
    refine Goes.adv hTT 400 rfl ?_
    have h8:=h7.grow hw8
    have hb8:=hw8.heap' (hw7.heap' hb6)
    refine Goes.drawn (q:=10) None' hTT mixed (by kernel_rfl) rfl ?_
    intro hB
    refine Drawn.loadb hTT hB rfl h8.obj (by first | exact fun h=>h | (intro h; omega) | assumption) rfl rfl ?_
    refine Drawn.loadb hTT hB rfl hb8 (by first | exact fun h=>h | (intro h; omega) | assumption) rfl rfl ?_
    refine Drawn.loadb hTT hB rfl hb8 (by first | exact fun h=>h | (intro h; omega) | assumption) rfl rfl ?_
    refine Drawn.build hTT hB rfl rfl ?_
    refine Drawn.nil hB ?_
    intro w9 hw9
    refine Goes.adv hTT 400 rfl ?_
    have h9:=h8.grow hw9
    have hAt:=view_At S.v ⟨(k:Nat),pt,ta,none,0,[]⟩ w9 h9.vw (plcOk_nil _ _ _)
    rw [h.vc,show viewAt S.c ⟨(k:Nat),pt,ta,none,0,[]⟩=(m.t:Int) from mt.symm] at hAt
    refine Goes.call rfl (hAt) ?_
    rintro _ w10 ⟨rfl,hw10⟩
    refine Goes.adv hTT 400 rfl ?_
    have h10:=h9.grow hw10
    have hb10:=hw10.heap' (hw9.heap' hb8)
    obtain ⟨cb,off,eca,hcc⟩:=h10.ca.1 k hkc
    have esz:S.c.classes.getD k 0=(m.size:Int):=by rw [ms]; unfold clsM; rw [Int.toNat_natCast]
    rw [esz] at hcc
    refine Goes.drawn (q:=19) None' hTT mixed (by kernel_rfl) rfl ?_
    intro hB
    refine Drawn.loadb hTT hB rfl h10.obj (by first | exact fun h=>h | (intro h; omega) | assumption) rfl rfl ?_
    refine Drawn.loadb hTT hB rfl h10.obj (by first | exact fun h=>h | (intro h; omega) | assumption) rfl rfl ?_
    rw [eca]
    refine Drawn.index hTT hB rfl (j:=k) (by omega) (by omega) (by first | rfl | omega | (simp; done) | (simp; omega)) rfl ?_
    refine Drawn.load hTT hB rfl hcc (by first | exact fun h=>h | (intro h; omega) | assumption) rfl ?_
    have hmay:mvMay s.bs.length m.f m.t m.size=true:=mvMay_iff.2 (by obtain ⟨l1,l2,l3,l4⟩:=hml; simp only at l1 l2; omega)
    have hd:∀ w',Chg None' w10 w'→Does Tryz.prog 142 #[.pointer (some ⟨S.A.ab,0,none⟩),.int .i64 m.f,.int .i64 m.t,.int .i64 m.size] w' (fun v w2=>Chg None' w' w2 ∧ ∃ M:Mv,v = .tuple #[.pointer (some ⟨M.mv,0,none⟩),.int .i64 0]∧M.f=m.f∧M.t=m.t∧M.size=m.size∧w10.heap.size≤M.mv∧MvOk w2 S.A (arV S {s with rm:=rmTake s.rm (k:Nat) (o:Nat)}) M 0):=fun w' hw' =>
     (move_New S.A _ m.f m.t m.size w' (h10.ar.grow hw') hmay).mono fun v w2 ⟨M,e,a1,a2,a3,a4,a5,a6⟩=>⟨a6,M,e,a1,a2,a3,by have:=hw'.size; omega,a5⟩
    refine Drawn.callQ hB rfl rfl (hd) ?_
    rintro _ w11 hw11 ⟨M,rfl,hMf,hMt,hMs,hM0,hMk⟩
    refine Drawn.adv hTT hB rfl ?_
    refine Drawn.nil hB ?_
    intro w12 hw12
    refine Goes.adv hTT 400 rfl ?_
    have hMl:=lt_of_heap hMk.obj
    have h12:=(h10.adopt hw11 hM0 hMl).grow hw12
    have hb12:=hw12.heap' (hw11.heap' hb10)
    have hMk:=hMk.grow hw12
    refine Goes.drawn (q:=9) None' hTT mixed (by kernel_rfl) rfl ?_
    intro hB
    refine Drawn.loadb hTT hB rfl h12.obj (by first | exact fun h=>h | (intro h; omega) | assumption) rfl rfl ?_
    refine Drawn.loads hTT hB rfl hb12 (by first | exact fun h=>h | (intro h; omega) | assumption) rfl rfl ?_
    refine Drawn.build hTT hB rfl rfl ?_
    refine Drawn.nil hB ?_
    intro w13 hw13
    refine Goes.adv hTT 400 rfl ?_
    have h13:=h12.grow hw13
    have hMk:=hMk.grow hw13
    have hmol:k<mo.length:=by rw [h.mol]; exact hk
    have hset:=mver_set (mo:=mo) (k:=k) (y:=some (M.mv,m)) hmol
    refine Goes.index hTT rfl (j:=k*6) (by omega) (show (k:Int)<(s.mv.length:Nat) by omega) (by simp) rfl ?_
    have hv:([.pointer (some ⟨M.mv,0,none⟩),.int .i64 (o:Nat),.int .i64 pf,.int .i64 fa,.int .i64 pt,.int .i64 ta]:List Value)=mverL (some (M.mv,m)):=by unfold mverL; simp only; rw [e1',e2',e3',e4',e5']
    refine Goes.store hTT rfl h13.mvs (hv▸hset) rfl ?_
    intro w14 hb14 hs14 hz14
    refine Goes.adv hTT 400 rfl ?_
    have hob:∀ b' m',some (M.mv,m)=some (b',m')→w13.heap[b']? = some (.cells (mvCells S.A (mvAt b' m') m'.gone).toArray 184 (0,0))∧((F b'∨Fr' b')∨b'=M.mv) ∧ ¬ Fr' b' ∧ ∀ (j:Nat) m'',mo[j]?≠some (some (b',m'')):=fun b' m' e=>by
     cases e
     refine ⟨?_,.inr rfl,fun hz=>by have:=hr.low _ hz; have:=hw7.size; have:=hw8.size; have:=hw9.size; have:=hw10.size; omega,fun j m'' hj => ?_⟩
     ·have:=hMk.obj
      rw [e6']
      have eM:M=mvAt M.mv m:=by cases M; simp only at hMf hMt hMs; subst hMf; subst hMt; subst hMs; rfl
      rw [eM] at this
      exact this
     ·have:=h10.low _ (h10.mob j _ m'' hj).2.1
      omega
    have h14:=h13.setMv (x:=some (M.mv,m)) hs14 hb14 hob
    have hc04:Chg F w w5:=(hw04.trans hw5).mono fun _ _ h=>h.elim
    have hc:Chg F w w14:=by
     have c1:Chg F w w6:=hc04.trans (hc56.mono fun z _ hz=>h.f1 z hz)
     have c2:Chg None' w6 w13:=(((((hw7.trans hw8).trans hw9).trans hw10).trans hw11).trans hw12).trans hw13
     exact (c1.trans (c2.mono fun _ _ h=>h.elim)).trans (hs14.mono fun z _ e=>e▸h.f2.2.2.2.2)
    have fF:∀ z,((F z∨Fr' z)∨z=M.mv)→F z∨w.heap.size≤z:=fun z hz=>by
     have:=hw04.size; have:=hw5.size; have:=hw7.size; have:=hw8.size; have:=hw9.size; have:=hw10.size; have:=hc56.size
     rcases hz with (hz | hz) | rfl
     ·exact .inl hz
     ·exact (hfr z hz).imp (h.f1 z) (by omega)
     ·exact .inr (by omega)
    exact Goes.ret0 hTT rfl Tryz.func82 rfl ⟨_,Fr',_,h14,fF,hc⟩
end Go.Proofs.YtnaoiegcobineaaGreatDoor
namespace Go.Proofs.YtnaoiegcobineaaGreatDoor
open Go.RowKit
section
variable {F Fr:Nat→Prop} {w w':World} {S:Sto} {s:StM} {by':Int} {mo:Mo} {pd:Option (Nat × PlcM)}
theorem stepV_is {A:Ar} {V:ArV} {M:Mv} {g k b:Nat} (hb:A.mb=some b):stepV A V M g k=⟨stepB V.bs M.f M.t g k,charged V.total k,V.lap⟩:=by
 unfold stepV stepB
 by_cases h:k=0
 ·subst h
  rw [if_pos rfl,if_pos rfl]
  exact ArV.eq rfl (charged_0 _).symm rfl
 ·rw [if_neg h,if_neg h]
  exact ArV.eq rfl (charge_is hb) (V.charge_lap A _)
theorem wroteV_is {A:Ar} {V:ArV} {M:Mv} {g i n b:Nat} (hb:A.mb=some b):wroteV A V M g i n=⟨wroteB V.bs M.f M.t g i n,charged V.total (wroteK i n g),V.lap⟩:=by
 unfold wroteV wroteB
 by_cases h:wroteK i n g=0
 ·rw [if_pos h,if_pos h,h]
  exact ArV.eq rfl (charged_0 _).symm rfl
 ·rw [if_neg h,if_neg h]
  exact ArV.eq rfl (charge_is hb) (V.charge_lap A _)
theorem mv_find (h:StoOk F Fr w S s by' mo) {k:Nat} {m:MvM} (hm:s.mv[k]? = some (some m)):∃ b,mo[k]? = some (some (b,m)):=by
 have hk:=(List.getElem?_eq_some_iff.1 hm).1
 obtain ⟨x,hx,e⟩:=h.mo_at hk
 rw [mv_of hm] at e
 obtain ⟨⟨b,m'⟩,rfl,e'⟩:=Option.map_eq_some_iff.1 e
 simp only at e'
 subst e'
 exact ⟨b,hx⟩
theorem StoOk.went (h:StoOk F Fr w S s by' mo) {k b g:Nat} {m:MvM} {bs:List Int} {t:Int} (hx:mo[k]? = some (some (b,m))) (hM:MvOk w' S.A ⟨bs,t,S.R.lap⟩ (mvAt b m) g) (hl:bs.length=s.bs.length) (hc:Chg (mFt S.A (mvAt b m)) w w') :
 StoOk F Fr w' S {s with bs:=bs,rm:={s.rm with tot:=t},mv:=s.mv.set k (some {m with gone:=g})} by' (mo.set k (some (b,{m with gone:=g}))):=by
 have hk:=(List.getElem?_eq_some_iff.1 hx).1
 have hcl:∀ (j b':Nat) m',mo[j]? = some (some (b',m'))→j≠k → ¬ mFt S.A (mvAt b m) b':=fun j b' m' hj hne hz=>by
  have kk:=h.kdm hj
  obtain ⟨_,_,k3,_,_,k6⟩:=h.kds
  rcases hz with (e | e) | e
  ·exact kd_ne kk k3 (by decide) e
  ·rw [h.amb] at e; cases e; exact kd_ne kk k6 (by decide) rfl
  ·exact hne (h.mdj j k b' m' m hj (e▸hx))
 have:=h.arena (bs:=bs) (t:=t) (mo2:=mo.set k (some (b,{m with gone:=g}))) hc (fun z hz => ?_) hM.ar.dat hl hM.ar.rng (hM.ar.met _ h.amb) ?_ (by rw [List.length_set]) (fun j b' m' hj => ?_)
 ·rw [moMv_set,h.mom] at this
  exact this
 ·rcases hz with (e | e) | e
  ·exact .inl e
  ·rw [h.amb] at e; exact .inr (.inl (Option.some.inj e).symm)
  ·exact .inr (.inr ⟨k,m,e▸hx⟩)
 ·apply List.ext_getElem?
  intro i
  have e1:=mver_set (mo:=mo) (k:=k) (y:=some (b,{m with gone:=g})) hk
  have e2:=mver_set (mo:=mo) (k:=k) (y:=some (b,m)) hk
  have e3:mo.set k (some (b,m))=mo:=by
   apply List.ext_getElem?
   intro j
   by_cases e:k=j
   ·subst e; rw [List.getElem?_set_self hk,hx]
   ·rw [List.getElem?_set_ne e]
  rw [e3] at e2
  have e4:mverL (some (b,{m with gone:=g}))=mverL (some (b,m)):=rfl
  rw [e4,e2] at e1
  rw [← Option.some.inj e1]
 ·rcases mo_set hj with ⟨rfl,e,_⟩ | ⟨hne,hj⟩
  ·cases e
   exact ⟨hM.obj,m,hx⟩
  ·exact ⟨hc.heap (h.mob j b' m' hj).1 (hcl j b' m' hj hne),m',hj⟩
end
set_option maxRecDepth 100000 in
theorem store_proceed {F Fr:Nat→Prop} {w:World} {S:Sto} {s:StM} {by':Int} {mo:Mo} (h:StoOk F Fr w S s by' mo) (hs:s.Ok S.c) {k:Nat} {m:MvM} (hm:s.mv[k]? = some (some m)) (n:Int):Does Tryz.prog 83 #[stoV S,.int .i64 (k:Nat),.int .i64 n] w (fun v w'=>v = .int .i64 (goN m n:Nat)∧StTo F w w' S (stGo s k n) by'):=by
 obtain ⟨f1,f2,f3⟩:=OkP.few hs
 have hk:=(List.getElem?_eq_some_iff.1 hm).1
 obtain ⟨b,hx⟩:=mv_find h hm
 obtain ⟨⟨o,t,ew,et,eq⟩,ea,en,_,_,_,hgl⟩:=hs.mv k m hm
 have hmol:k<mo.length:=by rw [h.mol]; exact hk
 have hbg:goN m n≤m.size - m.gone:=goN_le m n
 have hmf:∀ z,mFt S.A (mvAt b m) z→F z:=fun z hz=>hz.elim (h.footF z) (fun e=>e▸(h.mob k b m hx).2.1)
 refine Does.enter Tryz.func83 rfl Tryz.ntmps83 rfl rfl ?_
 refine Goes.adv hTT 400 rfl ?_
 refine Goes.loadb hTT rfl h.obj rfl rfl ?_
 refine Goes.index hTT rfl (j:=k*6) (by omega) (show (k:Int)<(s.mv.length:Nat) by omega) (by simp) rfl ?_
 refine Goes.loadC hTT (mverL (some (b,m))) rfl (by first | rfl | (simp; done) | (simp [*]; done) | (simp; omega)) ((fun j v hv=>by have hj:j<6:=(List.getElem?_eq_some_iff.1 hv).1; exact h.mcell hx hj hv)) rfl ?_
 refine Goes.alloc hTT rfl ?_
 intro xb w1 e1 hxb1 hw1 hz1
 refine Goes.adv hTT 400 rfl ?_
 refine Goes.store hTT rfl hxb1 rfl rfl ?_
 intro w2 hxb hs2 hz2
 refine Goes.adv hTT 400 rfl ?_
 have hw02:Chg None' w w2:=hw1.since hs2 (fun z hz e=>by omega)
 have h2:=h.grow hw02
 have hxF:¬ F xb:=fun hz=>by have:=h.low xb hz; omega
 refine Goes.loadb hTT rfl hxb rfl rfl ?_
 refine Goes.call rfl (move_Step S.A (arV S s) (mvAt b m) m.gone n w2 (h2.mvOk hs hx)) ?_
 rintro _ w3 ⟨rfl,hM3,hc3⟩
 refine Goes.adv hTT 400 rfl ?_
 have hM3':MvOk w3 S.A ⟨stepB s.bs m.f m.t m.gone (goN m n),charged s.rm.tot (goN m n:Nat),S.R.lap⟩ (mvAt b m) (m.gone+goN m n):=by
  rw [stepV_is h.amb] at hM3; exact hM3
 obtain ⟨l1,l2,l3,_⟩:=mv_lies hs hm
 have h3:=h2.went hx hM3' (stepB_length (size:=m.size) (by omega) l1 l2) hc3
 have hxb3:=hc3.heap hxb (fun hz=>hxF (hmf _ hz))
 have hc03:Chg F w w3:=(hw02.mono fun _ _ h=>h.elim).trans (hc3.mono fun z _ hz=>hmf z hz)
 refine Goes.loadb hTT rfl hxb3 rfl rfl ?_
 refine Goes.call rfl (move_Left S.A _ (mvAt b m) (m.gone+goN m n) w3 hM3') ?_
 rintro _ w4 ⟨rfl,hw4⟩
 refine Goes.adv hTT 400 rfl ?_
 have h4:=h3.grow hw4
 have hxb4:=hw4.heap' hxb3
 have hc04:Chg F w w4:=hc03.trans (hw4.mono fun _ _ h=>h.elim)
 by_cases hlt:m.gone+goN m n<m.size
 ·have eG:stGo s k n={stStep s m n with mv:=s.mv.set k (some {m with gone:=m.gone+goN m n})}:=by unfold stGo; rw [mv_of hm]; simp only; rw [if_pos hlt]
  rw [eG]
  refine Goes.no hTT rfl (by show ((((m.size - (m.gone+goN m n):Nat):Int) == 0)=false); simp; omega) rfl ?_
  exact Goes.ret1 hTT rfl Tryz.func83 rfl rfl ⟨rfl,.of h4 hc04⟩
 ·have eG:stGo s k n={stStep s m n with mv:=s.mv.set k none,th:=s.th.set m.who.toNat (some ⟨stSize s m.who,⟨k,m.pt,m.ta,[]⟩⟩),rm:=rmGive (stStep s m n).rm k m.pf m.fa}:=by unfold stGo; rw [mv_of hm]; simp only; rw [if_neg hlt]
  rw [eG]
  refine Goes.yes hTT rfl (by show ((((m.size - (m.gone+goN m n):Nat):Int) == 0)=true); simp; omega) rfl ?_
  have hol:o<s.th.length:=(List.getElem?_eq_some_iff.1 et).1
  have hwn:m.who.toNat=o:=by omega
  have hsz:stSize s m.who=t.size:=by unfold stSize; rw [ew,th_of et]
  rw [hwn,hsz]
  obtain ⟨al,hth⟩:=h4.th
  obtain ⟨q,q1,q2,q3,q4,q5⟩:=hth.2.2.1 o t et
  refine Goes.drawn (q:=8) None' hTT mixed (by kernel_rfl) rfl ?_
  intro hB
  refine Drawn.loadb hTT hB rfl h4.obj (by first | exact fun h=>h | (intro h; omega) | assumption) rfl rfl ?_
  refine Drawn.loadb hTT hB rfl hxb4 (by first | exact fun h=>h | (intro h; omega) | assumption) rfl rfl ?_
  refine Drawn.lookup hTT hB rfl (hth.1) (by first | (intro b h; cases h; assumption) | (intro b h hs; cases h; omega)) ((show lookV al _ m.who false = .agg (thL t.size q).toArray from by unfold lookV; rw [ew,q2]; rfl)) rfl ?_
  refine Drawn.turn1 hB rfl ?_
  intro w5 hw5
  refine Turn.alloc hTT hB rfl (fun _=>rfl) ?_
  intro tb w6 e6 htb6 hw6 hz6
  refine Drawn.nil hB ?_
  intro w7 hw7
  refine Goes.adv hTT 400 rfl ?_
  have hw47:=(hw5.trans hw6).trans hw7
  have h7:=h4.grow hw47
  have hxb7:=hw47.heap' hxb4
  have htb7:=hw7.heap' htb6
  have htF:¬ F tb:=fun hz=>by have:=h4.low tb hz; have:=hw5.size; omega
  have htx:tb≠xb:=by have:=lt_of_heap hxb4; have:=hw5.size; omega
  refine Goes.store hTT rfl htb7 rfl rfl ?_
  intro w8 htb8 hs8 hz8
  refine Goes.adv hTT 400 rfl ?_
  have hxb8:=hs8.heap hxb7 (fun e=>htx e.symm)
  refine Goes.loadb hTT rfl hxb8 rfl rfl ?_
  refine Goes.loadb hTT rfl hxb8 rfl rfl ?_
  refine Goes.build hTT rfl rfl ?_
  refine Goes.store hTT rfl htb8 rfl rfl ?_
  intro w9 htb9 hs9 hz9
  refine Goes.adv hTT 400 rfl ?_
  have hw49:Chg None' w4 w9:=(hw47.since hs8 (fun z hz e=>by have:=hw5.size; omega)).since hs9 (fun z hz e=>by have:=hw5.size; omega)
  have h9:=h4.grow hw49
  have hxb9:=hw49.heap' hxb4
  refine Goes.drawn (q:=7) None' hTT mixed (by kernel_rfl) rfl ?_
  intro hB
  refine Drawn.loadb hTT hB rfl h9.obj (by first | exact fun h=>h | (intro h; omega) | assumption) rfl rfl ?_
  refine Drawn.loadb hTT hB rfl hxb9 (by first | exact fun h=>h | (intro h; omega) | assumption) rfl rfl ?_
  refine Drawn.loads hTT hB rfl htb9 (by first | exact fun h=>h | (intro h; omega) | assumption) rfl rfl ?_
  refine Drawn.nil hB ?_
  intro w10 hw10
  refine Goes.adv hTT 400 rfl ?_
  have h10:=h9.grow hw10
  have hxb10:=hw10.heap' hxb9
  obtain ⟨al',hth'⟩:=h10.th
  refine Goes.mapset hTT rfl (hth'.1) ?_
  intro w11 hal11 hs11 hz11
  refine Goes.adv hTT 400 rfl ?_
  rw [ew] at hal11
  have hT11:=hth'.put (o:=o) (size:=t.size) (q:=⟨(k:Nat),m.pt,m.ta,none,0,[]⟩) (qm:=⟨(k:Nat),m.pt,m.ta,[]⟩) rfl hol hal11 hs11 h10.f2.2.2.2.1 (plcOk_nil _ _ _) (fun _ _ _ e=>by cases e) (fun _ _ _ e=>by cases e)
  have h11:=h10.setTh hs11 hT11
  have hxb11:=hs11.heap hxb10 (fun e=>hxF (e▸h.f2.2.2.2.1))
  refine Goes.loadb hTT rfl h11.obj rfl rfl ?_
  refine Goes.build hTT rfl rfl ?_
  have hmol2:k<(mo.set k (some (b,{m with gone:=m.gone+goN m n}))).length:=by rw [List.length_set]; exact hmol
  have hlm:(s.mv.set k (some {m with gone:=m.gone+goN m n})).length=s.mv.length:=List.length_set
  refine Goes.index hTT rfl (j:=k*6) (by omega) (show (k:Int)<((s.mv.set k (some {m with gone:=m.gone+goN m n})).length:Nat) by omega) (by simp) rfl ?_
  refine Goes.store hTT rfl h11.mvs (mver_set (y:=none) hmol2) rfl ?_
  intro w12 hb12 hs12 hz12
  refine Goes.adv hTT 400 rfl ?_
  have h12:=h11.setMv (x:=none) hs12 hb12 (fun _ _ e=>by cases e)
  have hxb12:=hs12.heap hxb11 (fun e=>hxF (e▸h.f2.2.2.2.2))
  refine Goes.drawn (q:=11) None' hTT mixed (by kernel_rfl) rfl ?_
  intro hB
  refine Drawn.loadb hTT hB rfl h12.obj (by first | exact fun h=>h | (intro h; omega) | assumption) rfl rfl ?_
  refine Drawn.loadb hTT hB rfl hxb12 (by first | exact fun h=>h | (intro h; omega) | assumption) rfl rfl ?_
  refine Drawn.loadb hTT hB rfl hxb12 (by first | exact fun h=>h | (intro h; omega) | assumption) rfl rfl ?_
  refine Drawn.nil hB ?_
  intro w13 hw13
  refine Goes.adv hTT 400 rfl ?_
  have h13:=h12.grow hw13
  refine Goes.call rfl (room_Give h13.room (k:Nat) m.pf m.fa) ?_
  rintro _ w14 ⟨rfl,⟨Fr',hr,hfr,hc14⟩⟩
  refine Goes.adv hTT 400 rfl ?_
  have h14:=h13.roomed hr hfr hc14
  have c49:Chg F w w10:=(hc04.trans (hw49.mono fun _ _ h=>h.elim)).trans (hw10.mono fun _ _ h=>h.elim)
  have c12:Chg F w w12:=(c49.trans (hs11.mono fun z _ e=>e▸h.f2.2.2.2.1)).trans (hs12.mono fun z _ e=>e▸h.f2.2.2.2.2)
  have c14:Chg F w w14:=(c12.trans (hw13.mono fun _ _ h=>h.elim)).trans (hc14.mono fun z _ hz=>h.f1 z hz)
  have eS:({stStep s m n with mv:=s.mv.set k none,th:=s.th.set o (some ⟨t.size,⟨(k:Nat),m.pt,m.ta,[]⟩⟩),rm:=rmGive (stStep s m n).rm (k:Nat) m.pf m.fa}:StM)={keep:=s.keep,bs:=stepB s.bs m.f m.t m.gone (goN m n),rm:=rmGive {s.rm with tot:=charged s.rm.tot (goN m n:Nat)} (k:Nat) m.pf m.fa,th:=s.th.set o (some ⟨t.size,⟨(k:Nat),m.pt,m.ta,[]⟩⟩),mv:=(s.mv.set k (some {m with gone:=m.gone+goN m n})).set k none}:=by
   rw [List.set_set]
   rfl
  rw [eS]
  have fF:∀ z,(F z∨Fr' z)→F z∨w.heap.size≤z:=fun z hz=>hz.elim .inl (fun hz=>(hfr z hz).imp (h.f1 z) (fun hl=>by have:=c12.size; have:=hw13.size; omega))
  exact Goes.ret1 hTT rfl Tryz.func83 rfl rfl ⟨rfl,⟨_,Fr',_,h14,fF,c14⟩⟩
end Go.Proofs.YtnaoiegcobineaaGreatDoor
namespace Go.Proofs.YtnaoiegcobineaaGreatDoor
open Go.RowKit
theorem stGo_none {s:StM} {k:Nat} (h:stMv s (k:Nat)=none) (n:Int):stGo s k n=s:=by unfold stGo; rw [h]
theorem stGo_eq {s:StM} {k:Nat} {m:MvM} (h:stMv s (k:Nat)=some m) {n n':Int} (e:goN m n=goN m n'):stGo s k n=stGo s k n':=by
 unfold stGo stStep
 rw [h]
 simp only
 rw [e]
theorem goN_all {m:MvM}:goN m ((m.size - m.gone:Nat):Int)=goN m (m.size:Nat):=by unfold goN stepK; omega
theorem store_finish {F Fr:Nat→Prop} {w:World} {S:Sto} {s:StM} {by':Int} {mo:Mo} (h:StoOk F Fr w S s by' mo) (hs:s.Ok S.c) (κ:Int):Does Tryz.prog 85 #[stoV S,.int .i64 κ] w (fun _ w'=>StTo F w w' S (stFinish s κ) by'):=by
 obtain ⟨f1,f2,f3⟩:=OkP.few hs
 refine Does.enter Tryz.func85 rfl Tryz.ntmps85 rfl rfl ?_
 refine Goes.adv hTT 400 rfl ?_
 refine Goes.call rfl (store_moving h hs κ) ?_
 rintro _ _ ⟨rfl,rfl⟩
 refine Goes.adv hTT 400 rfl ?_
 cases hm:stMv s κ with
 |none =>
  have e:stFinish s κ=s:=by unfold stFinish; rw [hm]
  rw [e]
  refine Goes.no hTT rfl rfl rfl ?_
  exact Goes.ret0 hTT rfl Tryz.func85 rfl (.of h (Chg.refl _ _))
 |some m =>
  obtain ⟨k,rfl,hk,hmk⟩:=mv_some hm
  have e:stFinish s (k:Nat)=stGo s k ((m.size - m.gone:Nat):Int):=by
   unfold stFinish
   rw [hm]
   simp only [Int.toNat_natCast]
   exact stGo_eq hm goN_all.symm
  rw [e]
  obtain ⟨b,hx⟩:=mv_find h hmk
  refine Goes.yes hTT rfl rfl rfl ?_
  refine Goes.loadb hTT rfl h.obj rfl rfl ?_
  refine Goes.index hTT rfl (j:=k*6) (by omega) (show (k:Int)<(s.mv.length:Nat) by omega) (by simp) rfl ?_
  refine Goes.load hTT rfl (h.mcell hx (i:=0) (by decide) rfl) rfl ?_
  refine Goes.call rfl (move_Left S.A (arV S s) (mvAt b m) m.gone w (h.mvOk hs hx)) ?_
  rintro _ w1 ⟨rfl,hw1⟩
  refine Goes.adv hTT 400 rfl ?_
  refine Goes.call rfl (store_proceed (h.grow hw1) hs hmk ((m.size - m.gone:Nat):Int)) ?_
  rintro _ w2 ⟨rfl,hst⟩
  refine Goes.adv hTT 400 rfl ?_
  exact Goes.ret0 hTT rfl Tryz.func85 rfl (.trans (fun _ hz => .inl hz) (hw1.mono fun _ _ h=>h.elim) hst)
theorem store_clear {F Fr:Nat→Prop} {w:World} {S:Sto} {s:StM} {by':Int} {mo:Mo} {o:Nat} (h:StoOk F Fr w S s by' mo) (q:Plc) (hs:s.OkP S.c (some (o,plcP q))) (hq:PlcOk w q):Does Tryz.prog 86 #[stoV S,.agg (plcL q).toArray] w (fun _ w'=>StTo F w w' S (stClear S.c s (plcP q)) by'):=by
 obtain ⟨f1,f2,f3⟩:=OkP.few hs
 have hd:=hs.dropped
 refine Does.enter Tryz.func86 rfl Tryz.ntmps86 rfl rfl ?_
 refine Goes.adv hTT 400 rfl ?_
 refine Goes.alloc hTT rfl ?_
 intro b w1 e1 hb1 hw1 hz1
 refine Goes.adv hTT 400 rfl ?_
 replace hb1:w1.heap[b]? = some (.cells (plcL q).toArray 106 (0,0)):=hb1
 have hbF:¬ F b:=fun hz=>by have:=h.low b hz; omega
 have h1:=h.grow hw1
 refine Goes.drawn (q:=5) None' hTT mixed (by kernel_rfl) rfl ?_
 intro hB
 refine Drawn.loadb hTT hB rfl h1.obj (by first | exact fun h=>h | (intro h; omega) | assumption) rfl rfl ?_
 refine Drawn.loads hTT hB rfl hb1 (by first | exact fun h=>h | (intro h; omega) | assumption) rfl rfl ?_
 refine Drawn.nil hB ?_
 intro w2 hw2
 refine Goes.adv hTT 400 rfl ?_
 have h2:=h1.grow hw2
 have hb2:=hw2.heap' hb1
 refine Goes.call rfl (room_Drop h2.room q (hq.grow (hw1.trans hw2))) ?_
 rintro _ w3 ⟨rfl,⟨Fr',hr,hfr,hc3⟩⟩
 refine Goes.adv hTT 400 rfl ?_
 have h3:=h2.roomed hr hfr hc3
 have hb3:=hc3.heap hb2 (fun hz=>hbF (h.f1 _ hz))
 have hs1:=hw1.size
 have hs2:=hw2.size
 have hs3:=hc3.size
 have hF3:∀ z,(F z∨Fr' z)→F z∨w.heap.size≤z:=fun z hz=>hz.elim .inl (fun hz=>(hfr z hz).imp (h.f1 z) (by omega))
 have hbF3:¬ (F b∨Fr' b):=fun hz=>hz.elim hbF (fun hz=>(hfr b hz).elim (fun hz=>hbF (h.f1 _ hz)) (by have:=lt_of_heap hb2; omega))
 have hc03:Chg F w w3:=((hw1.trans hw2).mono fun _ _ h=>h.elim).trans (hc3.mono fun z _ hz=>h.f1 z hz)
 refine Goes.loadb hTT rfl hb3 rfl rfl ?_
 by_cases hcl:q.cls = -1
 ·have e:stClear S.c s (plcP q)={s with rm:=rmDrop s.rm (plcP q)}:=by unfold stClear; rw [if_pos (show (plcP q).cls<0 by show q.cls<0; omega)]
  rw [e]
  refine Goes.yes hTT rfl (by rw [hcl]; rfl) rfl ?_
  exact Goes.ret0 hTT rfl Tryz.func86 rfl ⟨_,Fr',mo,h3,hF3,hc03⟩
 ·obtain ⟨_,p2,_,_⟩:=hs.ps o (plcP q) rfl hcl
  obtain ⟨_,k0,k1⟩:=owner_is hs (k:=(plcP q).cls) (n:=(plcP q).page) (a:=(plcP q).idx) (by rw [p2]; omega)
  obtain ⟨k,hk⟩:=Int.eq_ofNat_of_zero_le (show 0≤q.cls from k0)
  replace k1:q.cls<S.c.classes.length:=k1
  have hkl:k<s.mv.length:=by have:=hs.ml; omega
  have e:stClear S.c s (plcP q)=stGo (stBegin S.c {s with rm:=rmDrop s.rm (plcP q)} k) k S.c.step:=by
   unfold stClear
   rw [if_neg (show ¬ (plcP q).cls<0 by show ¬ q.cls<0; omega),show (plcP q).cls.toNat=k by show q.cls.toNat=k; omega]
  rw [e]
  refine Goes.no hTT rfl (by simpa using hcl) rfl ?_
  refine Goes.loadb hTT rfl hb3 rfl rfl ?_
  rw [hk]
  refine Goes.call rfl (store_begin h3 hd k hkl) ?_
  rintro _ w4 ⟨F4,Fr4,mo4,h4,hF4,hc4⟩
  refine Goes.adv hTT 400 rfl ?_
  have hb4:=hc4.heap hb3 hbF3
  have hs4:=hd.begin k
  have hc04:Chg F w w4:=hc03.since hc4 (fun z hz hf=>(hF3 z hf).elim id (by omega))
  have hF04:∀ z,F4 z→F z∨w.heap.size≤z:=fun z hz=>(hF4 z hz).elim (hF3 z) (by omega)
  refine Goes.loadb hTT rfl hb4 rfl rfl ?_
  rw [hk]
  refine Goes.call rfl (store_moving h4 hs4 (k:Nat)) ?_
  rintro _ _ ⟨rfl,rfl⟩
  refine Goes.adv hTT 400 rfl ?_
  cases hm:stMv (stBegin S.c {s with rm:=rmDrop s.rm (plcP q)} k) (k:Nat) with
  |none =>
   rw [stGo_none hm]
   refine Goes.no hTT rfl rfl rfl ?_
   exact Goes.ret0 hTT rfl Tryz.func86 rfl ⟨F4,Fr4,mo4,h4,hF04,hc04⟩
  |some m =>
   obtain ⟨k',ek',hk',hmk⟩:=mv_some hm
   obtain rfl:k=k':=by omega
   refine Goes.yes hTT rfl rfl rfl ?_
   refine Goes.drawn (q:=8) None' hTT mixed (by kernel_rfl) rfl ?_
   intro hB
   refine Drawn.loadb hTT hB rfl hb4 (by first | exact fun h=>h | (intro h; omega) | assumption) rfl rfl ?_
   refine Drawn.loadb hTT hB rfl h4.obj (by first | exact fun h=>h | (intro h; omega) | assumption) rfl rfl ?_
   rw [hk]
   refine Drawn.nil hB ?_
   intro w5 hw5
   refine Goes.adv hTT 400 rfl ?_
   refine Goes.call rfl (store_proceed (h4.grow hw5) hs4 hmk S.c.step) ?_
   rintro _ w6 ⟨rfl,hst⟩
   refine Goes.adv hTT 400 rfl ?_
   exact Goes.ret0 hTT rfl Tryz.func86 rfl (.trans hF04 (hc04.trans (hw5.mono fun _ _ h=>h.elim)) hst)
end Go.Proofs.YtnaoiegcobineaaGreatDoor
