/-
  Texts put together: Stm, L6, StOk2, StOk3, Room7, View9, Sto0, Sto1, Plain21, Plain21b, Plain21c, Sto2.
-/
import Derived.Test.YtohjeeapehmkcaaGreatDoorPt6
set_option linter.unusedVariables false
set_option maxRecDepth 100000
namespace Go.Proofs.YtohjeeapehmkcaaGreatDoor
open Go.RowKit
open Bool renaming and_eq_true->XK,true_and->ZZ
open Int renaming toNat_natCast->XA,eq_ofNat_of_zero_le->XD,mul_le_mul_of_nonneg_right->XX,mul_comm->ZY,ediv_nonneg->YD,le_refl->YL,toNat_of_nonneg->YR,add_mul->YW,one_mul->YX
open List renaming getElem?_eq_getElem->XB,getD_eq_getElem?_getD->XC,length_set->XF,getElem?_set_self->XG,length_replicate->XH,map_append->XI,getElem_mem->XJ,length_map->XM,getElem?_map->XN,mem_of_mem_take->XO,length_take->XR,mem_of_getElem?->XS,getElem?_set_ne->XU,getElem?_eq_none->XZ,mem_of_mem_drop->ZA,map_cons->ZB,take_add_one->ZC,take_length->ZI,mem_or_eq_of_mem_set->ZJ,flatMap_cons->ZO,map_congr_left->ZS,append_nil->ZT,eq_nil_of_length_eq_zero->ZU,map_set->ZV,mem_cons_of_mem->YB,length_range->YC,getElem_map->YF,getElem?_take->YG,mem_cons_self->YI,sum_cons->YQ,range_succ->Y2,mem_append_left->QC,length_tail->QD,map_take->QF,mem_replicate->QJ
open Nat renaming le_refl->XE,le_trans->ZX,add_assoc->YE,div_add_mod->YM,mul_comm->YO,strongRecOn->QA,mod_lt->QG
open Go.Proofs.Tryz (func149 func87 ntmps149 ntmps87 prog)
variable {A:Ar} {V:ArV} {c:Conf} {l':IL} {ahead by' size u who z:Int} {lg:List (Nat × List Nat)} {ps:List IL} {bs l p zs:List Int} {l2 ws:List Nat} {cs rest xs:List Value} {N at' b base cap fuel g i j k len lm lo m n n0 o off sz t tm vb xb y:Nat} {e:Nat × List Int} {fz:Nat × Nat} {f:Nat->Int} {G:Nat->Pg} {B C F F' Fr S S' T:Nat->Prop} {pd pd2:Option (Nat × PlcM)} {a:Option Addr} {pg:PgL} {P:Pl} {pl':PlM} {q:Plc} {R:Rm} {M:RmM} {x x':Sm} {α:Type} {v:Value} {w w' w0 w1 w2:World}
structure ThM where
 size:Int
 q:PlcM
structure MvM where
 who:Int
 pf:Int
 fa:Int
 pt:Int
 ta:Int
 f:Nat
 t:Nat
 size:Nat
 gone:Nat
structure StM where
 keep:List Int
 bs:List Int
 rm:RmM
 th:List (Option ThM)
 mv:List (Option MvM)
def PlcM.plc (q:PlcM):Plc:=⟨q.cls,q.page,q.idx,none,0,q.pages⟩
theorem N1 (c:Conf) (q:Plc):Ya c q=Ya c (Xx q).plc:=by cases q; rfl
theorem N0 (c:Conf) (q:Plc):Zt c q=Zt c (Xx q).plc:=by cases q; rfl
theorem Vc (c:Conf) (q:Plc) (i n:Int):Qj c q i n=Qj c (Xx q).plc i n:=by cases q; rfl
theorem XlW (c:Conf) (q:Plc) (i:Nat):Bj c q i=Bj c (Xx q).plc i:=by cases q; rfl
theorem Xbi (c:Conf) (q:Plc) (bs:List Int) (i n:Nat):Yh c q bs i n=Yh c (Xx q).plc bs i n:=by cases q; rfl
theorem I9 (c:Conf) (q:Plc) (bs:List Int) (i:Nat) (l:List Int):∀ k,Ql c q bs i l k=Ql c (Xx q).plc bs i l k
 |0=>rfl
 |k+1=>by unfold Ql; rw [I9 c q bs i l k,XlW]
theorem Gx (c:Conf) (q:Plc) (i n:Nat):X8 c q i n=X8 c (Xx q).plc i n:=by cases q; rfl
def Xz (s:StM) (k:Int):Option MvM:=if 0<=k then s.mv.getD k.toNat none else none
def Bh (s:StM) (o:Int):Option ThM:=if 0<=o then s.th.getD o.toNat none else none
def Fy (opn keep:Int):Bool:=decide (keep<opn) && decide (keep+1<opn)
def Fv (c:Conf) (k page idx:Int):Int:=Q5 c ⟨k,page,idx,none,0,[]⟩
def Qf (s:StM) (n:Int):StM:={s with rm:={s.rm with tot:=Xw s.rm.tot n}}
def Jc (c:Conf) (M:RmM) (k:Nat):MvM:=⟨X9 M k (Yj M k).1 (Yj M k).2.1,(Yj M k).1,(Yj M k).2.1,(Yj M k).2.2.1,(Yj M k).2.2.2,(Fv c k (Yj M k).1 (Yj M k).2.1).toNat,(Fv c k (Yj M k).2.2.1 (Yj M k).2.2.2).toNat,(Z3 c k).toNat,0⟩
def A9 (s:StM) (k:Nat):Bool:=(Xz s k).isNone && Fy (Yg s.rm k:Nat) (s.keep.getD k 0) && H6 s.rm k
def Yw (c:Conf) (s:StM) (k:Nat):StM:=if A9 s k=true then {s with rm:=Qb s.rm k (X9 s.rm k (Yj s.rm k).1 (Yj s.rm k).2.1),mv:=s.mv.set k (some (Jc c s.rm k))} else s
def Zw (m:MvM) (n:Int):Nat:=Df n (m.size - m.gone)
def Qn (s:StM) (o:Int):Int:=match Bh s o with | some t=>t.size | none=>0
def Qy (s:StM) (m:MvM) (n:Int):StM:=Qf {s with bs:=Ib s.bs m.f m.t m.gone (Zw m n)} (Zw m n)
def Yo (s:StM) (k:Nat) (n:Int):StM:=match Xz s k with
 |none=>s
 |some m=>if m.gone+Zw m n<m.size then {Qy s m n with mv:=s.mv.set k (some {m with gone:=m.gone+Zw m n})}
  else {Qy s m n with mv:=s.mv.set k none,th:=s.th.set m.who.toNat (some ⟨Qn s m.who,⟨k,m.pt,m.ta,[]⟩⟩),rm:=Qq (Qy s m n).rm k m.pf m.fa}
def Zj (s:StM) (k:Int):StM:=match Xz s k with | none=>s | some m=>Yo s k.toNat m.size
def Em (c:Conf) (s:StM) (size:Int):Option MvM:=match Xz s (Xm c.classes size) with
 |some m=>if Yg s.rm (Xm c.classes size)=0 then some m else none
 |none=>none
def Za (c:Conf) (s:StM) (who size:Int):PlcM:=match Em c s size with
 |some m=>⟨Xm c.classes size,m.pt,m.ta,[]⟩
 |none=>Bg c s.rm who size
def Zd (c:Conf) (s:StM) (who size:Int):StM:=match Em c s size with
 |some m=>Qf {s with mv:=s.mv.set (Xm c.classes size).toNat none,rm:=Qk s.rm (Xm c.classes size) m.pt m.ta who} 3
 |none=>{s with rm:=Af c s.rm who size}
def Z4 (c:Conf) (s:StM) (q:PlcM) (at':Nat) (l:List Int):StM:=Qf {s with bs:=Ql c q.plc s.bs at' l l.length} (X8 c q.plc at' l.length)
def Y9 (c:Conf) (s:StM) (who size:Int):StM :=
 {Z4 c (Zd c s who size) (Za c s who size) 0 (Xy (Zt c (Za c s who size).plc).toNat) with th:=s.th.set who.toNat (some ⟨size,Za c s who size⟩)}
def B6 (c:Conf) (s:StM) (q:PlcM):StM :=
 if q.cls<0 then {s with rm:=Yv s.rm q} else
  Yo (Yw c {s with rm:=Yv s.rm q} q.cls.toNat) q.cls.toNat c.step
def Yc (s:StM) (o:Int):Int:=if o<0\/(s.th.length:Int)<=o then 1 else match Bh s o with | none=>9 | some _=>0
def Qr (c:Conf) (s:StM) (size:Int):Int:=if size<1\/c.most<size then 3 else if (Xz s (Xm c.classes size)).isSome then 0 else Y7 c s.rm size
def A5 (c:Conf) (s:StM) (o size:Int):Int:=if Yc s o=1 then 1 else if Yc s o=0 then 10 else Qr c s size
def Ao (c:Conf) (s:StM) (o size:Int):StM:=if A5 c s o size=0 then Y9 c s o size else s
def Yy (s:StM) (o:Int):PlcM:=match Bh s o with | some t=>t.q | none=>⟨0,0,0,[]⟩
def C4 (c:Conf) (s:StM) (o:Int):StM:=if Yc s o≠0 then s else
 B6 c {Zj s (Yy s o).cls with th:=(Zj s (Yy s o).cls).th.set o.toNat none} (Yy (Zj s (Yy s o).cls) o)
def Au (c:Conf) (old size:Int):Bool:=decide (Xm c.classes old=Xm c.classes size) && (decide (Xm c.classes old ≠ -1) || decide (Qh old c.size=Qh size c.size))
def Ac (s:StM) (o:Int) (at' n:Nat):StM:=match Xz s (Yy s o).cls with
 |some m=>if m.who=o then Qf {s with bs:=Dv s.bs m.f m.t m.gone at' n} (Qt at' n m.gone) else s
 |none=>s
def Bp (c:Conf) (s:StM) (o size:Int):Int:=if Yc s o≠0 then Yc s o else if size<1\/c.most<size then 3 else if Au c (Qn s o) size=true then 0 else Qr c s size
def Dq (s:StM) (o:Int) (t:ThM):StM:={s with th:=s.th.set o.toNat (some t)}
def Kh (c:Conf) (s:StM) (o size:Int):StM :=
 let s1:=Zj s (Yy s o).cls
 let m:=(min (Qn s o) size).toNat
 let s2:=Y9 c (Qf s1 (X8 c (Yy s1 o).plc 0 m)) o size
 B6 c (Z4 c s2 (Yy s2 o) 0 (Yh c (Yy s1 o).plc s1.bs 0 m)) (Yy s1 o)
def As (c:Conf) (s:StM) (o size:Int):StM :=
 if Bp c s o size≠0 then s
 else if Au c (Qn s o) size=true then
  (if size<Qn s o then Ac (Dq (Z4 c s (Yy s o) size.toNat (Xy (Qn s o - size).toNat)) o ⟨size,Yy s o⟩) o size.toNat (Qn s o - size).toNat
   else Dq s o ⟨size,Yy s o⟩)
 else Kh c s o size
def Qc (s:StM) (o at' n:Int):Int:=if Yc s o≠0 then Yc s o else if at'<0\/n<0\/Qn s o<n\/Qn s o - n<at' then 8 else 0
def C6 (c:Conf) (s:StM) (o at' n:Int):List Int:=if Qc s o at' n=0 then Yh c (Yy s o).plc s.bs at'.toNat n.toNat else []
def C5 (c:Conf) (s:StM) (o at' n:Int):StM:=if Qc s o at' n=0 then Qf s (X8 c (Yy s o).plc at'.toNat n.toNat) else s
def Dr (c:Conf) (s:StM) (o at':Int) (l:List Int):StM:=if Qc s o at' l.length=0 then Ac (Z4 c s (Yy s o) at'.toNat l) o at'.toNat l.length else s
def tickK (c:Conf) (x:StM × Int) (k:Nat):StM × Int :=
 if x.2<1 then x else match Xz (Yw c x.1 k) k with
  |none=>(Yw c x.1 k,x.2)
  |some m=>(Yo (Yw c x.1 k) k x.2,x.2 - Zw m x.2)
def tickTo (c:Conf) (s:StM) (n:Nat):StM × Int:=(List.range n).foldl (tickK c) (s,c.step)
def De (c:Conf) (s:StM):StM:=(tickTo c s s.mv.length).1
def Ch (s:StM) (k keep:Int):Int:=if k<0\/(s.mv.length:Int)<=k\/keep<0\/1024<keep then 1 else 0
def Dp (s:StM) (k keep:Int):StM:=if Ch s k keep=0 then {s with keep:=s.keep.set k.toNat keep} else s
def Gl (s:StM) (k:Int):Nat:=match Xz s k with | some m=>m.size - m.gone | none=>0
def Ci (l:List (Option ThM)):List Int:=l.filterMap fun t=>t.map (·.size)
def Zz (s:StM):Int:=(Ci s.th).sum
def Cn (c:Conf):StM:=⟨c.keep,Xy (c.size*c.pages).toNat,G9 c 0,List.replicate c.slots.toNat none,List.replicate c.classes.length none⟩
structure StM.OkP (c:Conf) (s:StM) (pd:Option (Nat × PlcM)):Prop where
 may:Zb c=true
 rm:Yr c s.rm
 kl:s.keep.length=c.classes.length
 kr:∀ x ∈ s.keep,0<=x/\x<=1024
 bl:(s.bs.length:Int)=c.size*c.pages
 bi:Qd s.bs
 tl:(s.th.length:Int)=c.slots
 ml:s.mv.length=c.classes.length
 size:∀ (o:Nat) t,s.th[o]? = some (some t)->1<=t.size/\t.size<=c.most
 small:∀ (o:Nat) t,s.th[o]? = some (some t)->Xm c.classes t.size ≠ -1->t.q.cls=Xm c.classes t.size/\t.q.pages = []/\X9 s.rm t.q.cls t.q.page t.q.idx=o
 large:∀ (o:Nat) t,s.th[o]? = some (some t)->Xm c.classes t.size = -1 -> ∃ n r,(n,r) ∈ s.rm.lg/\t.q=⟨-1,(n:Nat),0,X3 r⟩/\(r.length+1:Int)=Z5 t.size c.size
 linj:∀ (o o':Nat) t t',s.th[o]? = some (some t)->s.th[o']? = some (some t')->t.q.cls = -1->t'.q.cls = -1->t.q.page=t'.q.page->o=o'
 mv:∀ (k:Nat) m,s.mv[k]? = some (some m)->(∃ (o:Nat),∃ t,m.who=o/\s.th[o]? = some (some t)/\t.q=⟨(k:Nat),m.pf,m.fa,[]⟩)/\X9 s.rm k m.pt m.ta=m.who /\ ¬ (m.pf=m.pt/\m.fa=m.ta)/\(m.f:Int)=Fv c k m.pf m.fa/\(m.t:Int)=Fv c k m.pt m.ta/\(m.size:Int)=Z3 c k/\m.gone<m.size
 own:∀ k n a:Int,X9 s.rm k n a ≠ -1->(∃ (o:Nat),∃ t,X9 s.rm k n a=o/\s.th[o]? = some (some t)/\(t.q=⟨k,n,a,[]⟩ \/ ∃ m,Xz s k=some m/\m.pt=n/\m.ta=a)) \/ ∃ o,pd=some (o,⟨k,n,a,[]⟩)
 ps:∀ o q,pd=some (o,q)->q.cls ≠ -1->q.pages = []/\X9 s.rm q.cls q.page q.idx=o/\(∀ m,Xz s q.cls=some m -> ¬ (m.pt=q.page/\m.ta=q.idx)) /\ ∀ (o':Nat) t,s.th[o']? = some (some t)->t.q≠q
 pl:∀ o q,pd=some (o,q)->q.cls = -1 -> ∃ n r,(n,r) ∈ s.rm.lg/\q=⟨-1,(n:Nat),0,X3 r⟩ /\ ∀ (o':Nat) t,s.th[o']? = some (some t)->t.q.cls = -1->t.q.page≠(n:Nat)
abbrev StM.Ok (c:Conf) (s:StM):Prop:=s.OkP c none
variable {th:List (Option ThM)} {s s':StM}
section
variable {c:Conf} {s:StM} {pd:Option (Nat × PlcM)}
theorem Q9 {k:Int} {m:MvM} (h:Xz s k=some m):∃ j:Nat,k=j/\j<s.mv.length/\s.mv[j]? = some (some m):=by
 unfold Xz at h;split at h
 ·rename_i b
  obtain ⟨j,rfl⟩:=XD b;rw [XA,XC] at h;cases a:s.mv[j]? with
  |none=>rw [a] at h; cases h
  |some x =>
   rw [a] at h;have:x=some m:=h;subst this;exact ⟨j,rfl,(List.getElem?_eq_some_iff.1 a).1,a⟩
 ·cases h
theorem C0 {m:MvM} (h:s.mv[j]? = some (some m)):Xz s (j:Nat)=some m:=by
 unfold Xz;rw [if_pos (by omega),XA,XC,h]; rfl
theorem Xbf {o:Int} {t:ThM} (h:Bh s o=some t):∃ j:Nat,o=j/\j<s.th.length/\s.th[j]? = some (some t):=by
 unfold Bh at h;split at h
 ·rename_i b
  obtain ⟨j,rfl⟩:=XD b;rw [XA,XC] at h;cases a:s.th[j]? with
  |none=>rw [a] at h; cases h
  |some x =>
   rw [a] at h;have:x=some t:=h;subst this;exact ⟨j,rfl,(List.getElem?_eq_some_iff.1 a).1,a⟩
 ·cases h
theorem Gm {t:ThM} (h:s.th[j]? = some (some t)):Bh s (j:Nat)=some t:=by
 unfold Bh;rw [if_pos (by omega),XA,XC,h]; rfl
theorem Iy {l:List (Option α)} {v:Option α} {x:α} (h:(l.set k v)[j]? = some (some x)):(j=k/\v=some x/\k<l.length)\/(j≠k/\l[j]? = some (some x)):=by
 by_cases e:k=j
 ·subst e;by_cases a:k<l.length
  ·rw [XG a] at h;exact .inl ⟨rfl,Option.some.inj h,a⟩
  ·rw [XZ (by rw [XF]; omega)] at h; cases h
 ·rw [XU e] at h; exact .inr ⟨fun h=>e h.symm,h⟩
theorem Xis {v:Option MvM} {j:Int} {m:MvM} (hs:s'.mv=s.mv.set k v) (h:Xz s' j=some m):(j=k/\v=some m)\/(j≠k/\Xz s j=some m):=by
 obtain ⟨i,rfl,_,a⟩:=Q9 h;rw [hs] at a;rcases Iy a with ⟨rfl,e,_⟩ | ⟨b,a⟩
 ·exact .inl ⟨rfl,e⟩
 ·exact .inr ⟨by omega,C0 a⟩
theorem Sp {v:Option MvM} {j:Int} {m:MvM} (hs:s'.mv=s.mv.set k v) (hj:j≠k) (h:Xz s j=some m):Xz s' j=some m:=by
 obtain ⟨i,rfl,_,a⟩:=Q9 h;refine C0 ?_;rw [hs,XU (by omega)]; exact a
theorem Xb5 (h:Zb c=true) {k n a:Int} (hk:0<=k/\k<c.classes.length) (hn:0<=n/\n<c.pages) (ha:0<=a/\a<Am c k):Ya c ⟨k,n,a,none,0,[]⟩=true:=by
 unfold Ya;rw [if_neg (by simp only; omega)];simp only [XK,K6];exact ⟨⟨hk,hn⟩,ha⟩
theorem Na (h:s.OkP c pd) {k n a:Int} (ho:X9 s.rm k n a ≠ -1):Ya c ⟨k,n,a,none,0,[]⟩=true/\0<=k/\k<c.classes.length:=by
 obtain ⟨j,x,rfl,g,_,_,b,d,e,f⟩:=Tb h.rm ho;exact ⟨Xb5 h.may (by omega) ⟨b,d⟩ ⟨e,f⟩,by omega,by omega⟩
theorem Rp (h:Zb c=true) {k n a:Int} (hv:Ya c ⟨k,n,a,none,0,[]⟩=true) (hk:k ≠ -1):0<=Fv c k n a/\Fv c k n a+Z3 c k<=c.size*c.pages/\8<=Z3 c k/\Z3 c k<=c.size:=by
 obtain ⟨j,pg,ix,e1,e2,e3,b,d,e,f,g,i,l,m⟩:=G6 h hv hk;unfold Fv Q5;rw [if_pos ⟨hv,hk⟩];simp only at e1 e2 e3
 subst e1;subst e2;subst e3;simp only
 omega
theorem StM.OkP.bytes (h:s.OkP c pd) (hl:bs.length=s.bs.length) (hb:Qd bs) (n:Int):(Qf {s with bs:=bs} n).OkP c pd :=
 ⟨h.may,h.rm.charge n,h.kl,h.kr,by show (bs.length:Int)=_; rw [hl]; exact h.bl,hb,h.tl,h.ml,h.size,h.small,h.large,h.linj,h.mv,h.own,h.ps,h.pl⟩
theorem StM.OkP.tot (h:s.OkP c pd) (n:Int):(Qf s n).OkP c pd:=h.bytes (bs:=s.bs) rfl h.bi n
theorem Od (h:s.OkP c pd) {t:ThM} (ht:s.th[o]? = some (some t)) (hc:t.q.cls ≠ -1):Xm c.classes t.size ≠ -1:=fun e=>by
 obtain ⟨n,r,_,e2,_⟩:=h.large o t ht e;rw [e2] at hc;exact hc rfl
theorem XaM (M:RmM) (k who:Int):(Qb M k who).lg=M.lg:=by unfold Qb; split; rfl; split <;> rfl
theorem XaI (M:RmM) (k n i:Int):(Qq M k n i).lg=M.lg:=by unfold Qq; split; rfl; split <;> rfl
theorem XeH (M:RmM) (k n i who:Int):(Qk M k n i who).lg=M.lg:=by unfold Qk; split <;> rfl
structure Xf2 (c:Conf) (s:StM) (k:Nat):Prop where
 plan:XbH s.rm k
 kl:k<c.classes.length
 nomv:Xz s (k:Nat)=none
 who:∃ (o:Nat),∃ t,X9 s.rm k (Yj s.rm k).1 (Yj s.rm k).2.1=o/\s.th[o]? = some (some t)/\t.q=⟨(k:Nat),(Yj s.rm k).1,(Yj s.rm k).2.1,[]⟩
 f:Ya c ⟨(k:Nat),(Yj s.rm k).1,(Yj s.rm k).2.1,none,0,[]⟩=true
 t:Ya c ⟨(k:Nat),(Yj s.rm k).2.2.1,(Yj s.rm k).2.2.2,none,0,[]⟩=true
theorem Uv (h:s.Ok c) (hB:A9 s k=true):Xf2 c s k:=by
 unfold A9 at hB;simp only [XK] at hB;obtain ⟨⟨r,A⟩,u⟩:=hB;have P:=XiY h.rm u;have l:Xz s (k:Nat)=Option.none:=by simpa using r
 obtain ⟨f1,f2,B⟩:=Na h P.own;have d:∃ (o:Nat),∃ t,X9 s.rm k (Yj s.rm k).1 (Yj s.rm k).2.1=o/\s.th[o]? = some (some t)/\t.q=⟨(k:Nat),(Yj s.rm k).1,(Yj s.rm k).2.1,[]⟩:=by
  rcases h.own _ _ _ P.own with ⟨o,t,f,i,b | ⟨m,b,_⟩⟩ | ⟨o,g⟩
  ·exact ⟨o,t,f,i,b⟩
  ·rw [l] at b; cases b
  ·cases g
 obtain ⟨o,t,f,i,b⟩:=d;refine ⟨P,by omega,l,⟨o,t,f,i,b⟩,f1,?_⟩;obtain ⟨p,C⟩:=Xbd h.rm (P.e (o:Int) (by omega));rw [P.n _ (by omega),P.a _ (by omega)] at p;have q:=p k (Yj s.rm k).2.2.1 (Yj s.rm k).2.2.2;rw [if_pos ⟨rfl,rfl,rfl⟩] at q;obtain ⟨j,x,e,D,_,_,v,w,y,z⟩:=Tb (h.rm.take k (o:Int)) (k:=k) (n:=(Yj s.rm k).2.2.1) (a:=(Yj s.rm k).2.2.2) (by rw [q]; omega);exact Xb5 h.may (by omega) ⟨v,w⟩ ⟨y,z⟩
theorem StM.OkP.begin (h:s.Ok c) (k:Nat):(Yw c s k).Ok c:=by
 unfold Yw;by_cases v:A9 s k=true
 ·rw [if_pos v];obtain ⟨P,F,G,⟨o,t,w,A,H⟩,I,J⟩:=Uv h v;rw [w];obtain ⟨i,B⟩:=Xbd h.rm (P.e (o:Int) (by omega));rw [P.n _ (by omega),P.a _ (by omega)] at i B;obtain ⟨pf,fa,pt,ta⟩:True/\True/\True/\True:=⟨trivial,trivial,trivial,trivial⟩;have C:∀ (s':StM),s'.mv=s.mv.set k (some (Jc c s.rm k)) -> ∀ j m,Xz s j=some m->Xz s' j=some m:=fun s' K j m b=>Sp K (fun e=>by rw [e,G] at b; cases b) b;have keep:∀ {j n a:Int},X9 s.rm j n a ≠ -1->X9 (Qb s.rm k o) j n a=X9 s.rm j n a:=fun u=>by
   rw [i,if_neg];rintro ⟨rfl,rfl,rfl⟩;exact u B
  refine ⟨h.may,h.rm.take _ _,h.kl,h.kr,h.bl,h.bi,h.tl,by show (s.mv.set _ _).length=_; rw [XF]; exact h.ml,h.size,fun d f x y => ?_,fun d f x y => ?_,h.linj,fun j m b => ?_,fun j n a b => .inl ?_,(by rintro _ _ ⟨⟩),(by rintro _ _ ⟨⟩)⟩
  ·obtain ⟨l,p,q⟩:=h.small d f x y;exact ⟨l,p,(keep (by rw [q]; omega)).trans q⟩
  ·show ∃ n r,(n,r) ∈ (Qb s.rm k o).lg/\_
   rw [XaM];exact h.large d f x y
  ·rcases Iy b with ⟨rfl,e,_⟩ | ⟨u,b⟩
   ·have em:=Option.some.inj e;subst em;obtain ⟨L,R,S,T⟩:=Rp h.may I (by omega);obtain ⟨M,U,_,_⟩:=Rp h.may J (by omega);refine ⟨⟨o,t,w,A,H⟩,?_,fun e=>P.ne e.1,?_,?_,?_,?_⟩
    ·show X9 (Qb s.rm j o) j _ _=X9 s.rm j _ _
     rw [w,i,if_pos ⟨rfl,rfl,rfl⟩]
    ·show (((Fv c j _ _).toNat:Nat):Int)=_
     exact YR L
    ·show (((Fv c j _ _).toNat:Nat):Int)=_
     exact YR M
    ·show (((Z3 c j).toNat:Nat):Int)=_
     exact YR (by omega)
    ·show 0<(Z3 c j).toNat
     omega
   ·obtain ⟨l,p,q⟩:=h.mv j m b;have N:=l;obtain ⟨d,f,O,_⟩:=l;exact ⟨N,(keep (by rw [p,O]; omega)).trans p,q⟩
  ·by_cases e:j=k/\n=(Yj s.rm k).2.2.1/\a=(Yj s.rm k).2.2.2
   ·obtain ⟨rfl,rfl,rfl⟩:=e;refine ⟨o,t,?_,A,.inr ⟨Jc c s.rm k,?_,rfl,rfl⟩⟩
    ·show X9 (Qb s.rm k o) k _ _=_
     rw [i,if_pos ⟨rfl,rfl,rfl⟩]
    ·refine C0 ?_;show (s.mv.set k _)[k]? = _
     rw [XG (by rw [h.ml]; exact F)]
   ·have e1:X9 (Qb s.rm k o) j n a=X9 s.rm j n a:=by rw [i,if_neg e]
    rw [e1] at b;show ∃ (d:Nat),∃ t,X9 (Qb s.rm k o) j n a=d/\_
    rw [e1];rcases h.own j n a b with ⟨d,f,D,E,z | ⟨m,z,Q⟩⟩ | ⟨_,g⟩
    ·exact ⟨d,f,D,E,.inl z⟩
    ·exact ⟨d,f,D,E,.inr ⟨m,C _ rfl j m z,Q⟩⟩
    ·cases g
 ·rw [if_neg v]; exact h
theorem Jb (h:s.OkP c pd) {m:MvM} (hm:s.mv[k]? = some (some m)):m.f+m.size<=s.bs.length/\m.t+m.size<=s.bs.length/\0<m.size/\(m.f+m.size<=m.t\/m.t+m.size<=m.f):=by
 obtain ⟨⟨o,t,e1,e2,e3⟩,y,z,D,E,F,G⟩:=h.mv k m hm;have H:k<c.classes.length:=by have:=(List.getElem?_eq_some_iff.1 hm).1; have:=h.ml; omega
 have l:=h.small o t e2 (Od h e2 (by rw [e3]; simp only; omega));rw [e3] at l;have d:=(Na h (k:=(k:Nat)) (n:=m.pf) (a:=m.fa) (by rw [l.2.2]; omega)).1;have e:=(Na h (k:=(k:Nat)) (n:=m.pt) (a:=m.ta) (by rw [y,e1]; omega)).1;have I:=Rp h.may d (by omega);have J:=Rp h.may e (by omega);have C:=h.bl;refine ⟨by omega,by omega,by omega,?_⟩;obtain ⟨A,f,g,B,q,r,K,L,M,N,O,P,Q,R⟩:=G6 h.may d (by simp only; omega);obtain ⟨b,i,j,f1,f2,u,S,T,U,V,W,g6,g7,g8⟩:=G6 h.may e (by simp only; omega);simp only at B q r f1 f2 u
 have v:A=k:=by omega
 have w:b=k:=by omega
 subst v;subst w;have x1:Fv c (b:Nat) m.pf m.fa=(f:Int)*c.size+(g:Int)*Z3 c (b:Nat):=by unfold Fv Q5; rw [if_pos ⟨d,by simp only; omega⟩]; simp only; rw [q,r]
 have x2:Fv c (b:Nat) m.pt m.ta=(i:Int)*c.size+(j:Int)*Z3 c (b:Nat):=by unfold Fv Q5; rw [if_pos ⟨e,by simp only; omega⟩]; simp only; rw [f2,u]
 have p:0<=c.size:=by have:=(Dc h.may).1; omega
 rcases Nat.lt_trichotomy f i with x | heq | hgt
 ·have:((f:Int)+1)*c.size<=i*c.size:=XX (by omega) p;rw [YW,YX] at this;omega
 ·subst heq;rcases Nat.lt_trichotomy g j with x | heq | hgt
  ·have:((g:Int)+1)*Z3 c (b:Nat)<=j*Z3 c (b:Nat):=XX (by omega) (by omega);rw [YW,YX] at this;omega
  ·exact absurd ⟨by omega,by omega⟩ z
  ·have:((j:Int)+1)*Z3 c (b:Nat)<=g*Z3 c (b:Nat):=XX (by omega) (by omega);rw [YW,YX] at this;omega
 ·have:((i:Int)+1)*c.size<=f*c.size:=XX (by omega) p;rw [YW,YX] at this;omega
theorem Xcu {f:Nat} (h:Qd bs):Qd (G3 bs t f n):=fun x hx=>by
 rcases L1 hx with hx | hx
 ·exact h x hx
 ·unfold sub at hx;exact h x (ZA (XO hx))
theorem R8 (m:MvM) (n:Int):Zw m n<=m.size - m.gone:=by unfold Zw Df; omega
theorem StM.OkP.step (h:s.OkP c pd) {m:MvM} (hm:s.mv[k]? = some (some m)) (n:Int):(Qy s m n).OkP c pd:=by
 obtain ⟨a,b,e,_⟩:=Jb h hm;have f:=R8 m n;have d:=(h.mv k m hm).2.2.2.2.2.2;refine h.bytes ?_ ?_ _
 ·exact Xa0 (size:=m.size) (by omega) a b
 ·unfold Ib;split
  ·exact h.bi
  ·exact Xcu h.bi
theorem StM.OkP.go (h:s.Ok c) (k:Nat) (n:Int):(Yo s k n).Ok c:=by
 unfold Yo;cases M:Xz s (k:Nat) with
 |none=>exact h
 |some m =>
  obtain ⟨j,ej,p,P⟩:=Q9 M;obtain rfl:k=j:=by omega
  have C:=StM.OkP.step h P n;obtain ⟨⟨o,t,e1,e2,e3⟩,N,Q,a4,a5,a6,a7⟩:=h.mv k m P;simp only
  by_cases I:m.gone+Zw m n<m.size
  ·rw [if_pos I];have R:∀ j m',Xz s j=some m' -> ∃ J,Xz {Qy s m n with mv:=s.mv.set k (some {m with gone:=m.gone+Zw m n})} j=some J/\J.pt=m'.pt/\J.ta=m'.ta:=fun j m' p=>by
    by_cases e:j=k
    ·subst e;rw [M] at p;cases p
     refine ⟨{m with gone:=m.gone+Zw m n},C0 ?_,rfl,rfl⟩;show (s.mv.set k _)[k]? = _
     rw [XG p]
    ·exact ⟨m',Sp (s:=s) rfl e p,rfl,rfl⟩
   refine ⟨h.may,C.rm,h.kl,h.kr,C.bl,C.bi,h.tl,by show (s.mv.set _ _).length=_; rw [XF]; exact h.ml,h.size,h.small,h.large,h.linj,fun j m' p => ?_,fun j n' a p => ?_,(by rintro _ _ ⟨⟩),(by rintro _ _ ⟨⟩)⟩
   ·rcases Iy p with ⟨rfl,e,_⟩ | ⟨u,p⟩
    ·have em:=Option.some.inj e;subst em;exact ⟨⟨o,t,e1,e2,e3⟩,N,Q,a4,a5,a6,I⟩
    ·exact h.mv j m' p
   ·rcases h.own j n' a p with ⟨f,l,z,D,v | ⟨m',v,E,F⟩⟩ | ⟨_,g⟩
    ·exact .inl ⟨f,l,z,D,.inl v⟩
    ·obtain ⟨J,y,w,x⟩:=R j m' v;exact .inl ⟨f,l,z,D,.inr ⟨J,y,w.trans E,x.trans F⟩⟩
    ·cases g
  ·rw [if_neg I];have L:=Od h e2 (by rw [e3]; simp only; omega);obtain ⟨O,s2,K⟩:=h.small o t e2 L;rw [e3] at O K;simp only at O K
   have S:∀ j n' a,X9 (Qy s m n).rm j n' a=X9 s.rm j n' a:=fun _ _ _=>rfl;obtain ⟨G1,T⟩:=XcW C.rm (k:=(k:Nat)) (n:=m.pf) (i:=m.fa) (by rw [S,K]; omega);have keep:∀ {j n' a:Int},¬ (j=k/\n'=m.pf/\a=m.fa)->X9 (Qq (Qy s m n).rm k m.pf m.fa) j n' a=X9 s.rm j n' a:=fun u=>by rw [T,if_neg u]; rfl
   have U:m.who.toNat=o:=by omega
   have V:Qn s m.who=t.size:=by unfold Qn; rw [e1,Gm e2]
   rw [U,V];have Ak:∀ {f:Nat} {l:ThM},(s.th.set o (some ⟨t.size,⟨(k:Nat),m.pt,m.ta,[]⟩⟩))[f]? = some (some l)->(f=o/\l=⟨t.size,⟨(k:Nat),m.pt,m.ta,[]⟩⟩)\/(f≠o/\s.th[f]? = some (some l)):=fun h=>by
    rcases Iy h with ⟨a,b,_⟩ | hb
    ·exact .inl ⟨a,(Option.some.inj b).symm⟩
    ·exact .inr hb
   have Dt:∀ {f:Nat} {l:ThM},f≠o->s.th[f]? = some (some l)->(s.th.set o (some ⟨t.size,⟨(k:Nat),m.pt,m.ta,[]⟩⟩))[f]? = some (some l):=fun u h=>by rw [XU (Ne.symm u)]; exact h
   have tnew:(s.th.set o (some ⟨t.size,⟨(k:Nat),m.pt,m.ta,[]⟩⟩))[o]? = some (some ⟨t.size,⟨(k:Nat),m.pt,m.ta,[]⟩⟩):=by rw [XG ((List.getElem?_eq_some_iff.1 e2).1)]
   refine ⟨h.may,C.rm.give _ _ _,h.kl,h.kr,C.bl,C.bi,by show ((s.th.set _ _).length:Int)=_; rw [XF]; exact h.tl,by show (s.mv.set _ _).length=_; rw [XF]; exact h.ml,fun f l q => ?_,fun f l q A => ?_,fun f l q A => ?_,fun f G l W q A c1 H hp => ?_,fun j m' p => ?_,fun j n' a p => .inl ?_,(by rintro _ _ ⟨⟩),(by rintro _ _ ⟨⟩)⟩
   ·rcases Ak q with ⟨rfl,rfl⟩ | ⟨_,q⟩
    ·exact h.size f t e2
    ·exact h.size f l q
   ·rcases Ak q with ⟨rfl,rfl⟩ | ⟨u,q⟩
    ·refine ⟨O,rfl,?_⟩;refine (keep ?_).trans (N.trans e1);rintro ⟨_,y,w⟩;exact Q ⟨y.symm,w.symm⟩
    ·obtain ⟨y,w,x⟩:=h.small f l q A;refine ⟨y,w,(keep ?_).trans x⟩;rintro ⟨d1,d2,d3⟩;rw [d1,d2,d3,K] at x;omega
   ·show ∃ n' r,(n',r) ∈ (Qq (Qy s m n).rm k m.pf m.fa).lg/\_
    rw [XaI];rcases Ak q with ⟨rfl,rfl⟩ | ⟨_,q⟩
    ·exact absurd A L
    ·exact h.large f l q A
   ·rcases Ak q with ⟨rfl,rfl⟩ | ⟨_,q⟩
    ·exact absurd c1 (by simp only; omega)
    ·rcases Ak A with ⟨rfl,rfl⟩ | ⟨_,A⟩
     ·exact absurd H (by simp only; omega)
     ·exact h.linj f G l W q A c1 H hp
   ·rcases Iy p with ⟨_,e,_⟩ | ⟨u,p⟩
    ·cases e
    ·obtain ⟨⟨f,l,y,w,x⟩,H,c3⟩:=h.mv j m' p;have B:f≠o:=fun e=>by
      subst e;rw [e2] at w;cases w
      rw [e3] at x;have:=congrArg PlcM.cls x;simp only at this
      omega
     refine ⟨⟨f,l,y,Dt B w,x⟩,(keep ?_).trans H,c3⟩;rintro ⟨d,_⟩;omega
   ·replace p:X9 (Qq (Qy s m n).rm k m.pf m.fa) j n' a ≠ -1:=p;have u:¬ (j=k/\n'=m.pf/\a=m.fa):=fun e=>by rw [T,if_pos e] at p; exact p rfl
    show ∃ (f:Nat),∃ l,X9 (Qq (Qy s m n).rm k m.pf m.fa) j n' a=f/\_
    rw [keep u] at p ⊢;rcases h.own j n' a p with ⟨f,l,z,D,v | ⟨m',v,E,F⟩⟩ | ⟨_,g⟩
    ·have B:f≠o:=fun e=>by
      subst e;rw [e2] at D;cases D
      rw [e3] at v;exact u ⟨(congrArg PlcM.cls v).symm,(congrArg PlcM.page v).symm,(congrArg PlcM.idx v).symm⟩
     exact ⟨f,l,z,Dt B D,.inl v⟩
    ·by_cases ek:j=k
     ·subst ek;rw [M] at v;cases v
      have:(f:Int)=o:=by rw [<- z,<- E,<- F,N,e1]
      obtain rfl:f=o:=by omega
      exact ⟨f,_,z,tnew,.inl (by rw [E,F])⟩
     ·obtain ⟨i,ei,_,hi⟩:=Q9 v;subst ei;obtain ⟨⟨G,W,y,w,x⟩,H,_⟩:=h.mv i m' hi;have a1:G=f:=by
       have:(G:Int)=f:=by rw [<- y,<- H,E,F]; exact z
       omega
      subst a1;have B:G≠o:=fun e=>by
       subst e;rw [e2] at w;cases w
       rw [e3] at x;have:=congrArg PlcM.cls x;simp only at this
       omega
      exact ⟨G,l,z,Dt B D,.inr ⟨m',Sp (s:=s) rfl ek v,E,F⟩⟩
    ·cases g
theorem StM.OkP.finish (h:s.Ok c) (k:Int):(Zj s k).Ok c:=by
 unfold Zj;split
 ·exact h
 ·exact StM.OkP.go h _ _
end
section
variable {c:Conf} {s:StM} {pd:Option (Nat × PlcM)}
theorem Xc9 (hb:Qd bs) (hl:Qd l):∀ k,Qd (Ql c q bs i l k)
 |0=>hb
 |k+1=>fun x hx=>by
  unfold Ql at hx;rcases ZJ hx with hx | rfl
  ·exact Xc9 hb hl k x hx
  ·rw [XC];cases hg:l[k]? with
   |none=>exact ⟨YL _,by decide⟩
   |some y=>exact hl y (XS hg)
theorem P8 (n:Nat):Qd (Xy n):=fun x a=>by
 unfold Xy at a;rw [QJ] at a;omega
theorem StM.OkP.put (h:s.OkP c pd) (q:PlcM) (i:Nat) (hl:Qd l):(Z4 c s q i l).OkP c pd :=
 h.bytes (Ga _ _ _ _ _ _) (Xc9 h.bi hl _) _
theorem Xka (hw:0<=who) (hf:Y7 c M size=0) (hp:Xm c.classes size ≠ -1):Af c M who size=Qb M (Xm c.classes size) who/\Bg c M who size=⟨Xm c.classes size,Do M (Xm c.classes size) who,Dn M (Xm c.classes size) who,[]⟩/\Cf c M who size=Ew M (Xm c.classes size) who:=by
 refine ⟨?_,?_,?_⟩
 ·unfold Af; rw [if_neg (by omega),if_neg (by omega),if_neg hp]
 ·unfold Bg; rw [if_neg (by omega),if_neg (by omega),if_neg hp]
 ·unfold Cf; rw [if_neg (by omega),if_neg (by omega),if_neg hp]
theorem Xj9 (hw:0<=who) (hf:Y7 c M size=0) (hp:Xm c.classes size = -1):Af c M who size=Dm M (Z5 size c.size).toNat/\Bg c M who size=⟨-1,(M.pl.free.getD 0 0:Nat),0,X3 (M.pl.free.take (Z5 size c.size).toNat).tail⟩:=by
 refine ⟨?_,?_⟩
 ·unfold Af; rw [if_neg (by omega),if_neg (by omega),if_pos hp]
 ·unfold Bg; rw [if_neg (by omega),if_neg (by omega),if_pos hp]
theorem Vp (hf:Qr c s size=0):(1<=size/\size<=c.most)/\(Em c s size=none->Y7 c s.rm size=0):=by
 unfold Qr at hf;split at hf
 ·exact absurd hf (by decide)
 ·rename_i e
  refine ⟨by omega,fun a => ?_⟩;split at hf
  ·rename_i d
   unfold Em at a;cases b:Xz s (Xm c.classes size) with
   |none=>rw [b] at d; cases d
   |some m =>
    rw [b] at a;simp only at a
    split at a
    ·cases a
    ·rename_i f
     obtain ⟨j,ej,_⟩:=Q9 b;unfold Y7;rw [if_neg e,if_neg];unfold Cp;rw [if_neg (by omega)];omega
  ·exact hf
theorem Ak {l:List (Option ThM)} {o1:Nat} {t t1:ThM} (h:(l.set o (some t))[o1]? = some (some t1)):(o1=o/\t1=t)\/(o1≠o/\l[o1]? = some (some t1)):=by
 rcases Iy h with ⟨a,b,_⟩ | hb
 ·exact .inl ⟨a,(Option.some.inj b).symm⟩
 ·exact .inr hb
theorem Dt {l:List (Option ThM)} {o1:Nat} {v:Option ThM} {t1:ThM} (hne:o1≠o) (h:l[o1]? = some (some t1)):(l.set o v)[o1]? = some (some t1):=by rw [XU (Ne.symm hne)]; exact h
theorem StM.OkP.over (h:s.OkP c pd) {m:MvM} (ho:s.th[o]? = some none) (hs:1<=size/\size<=c.most) (hk:Xm c.classes size=(k:Nat)) (hm:s.mv[k]? = some (some m)) (hpd:∀ o' q,pd=some (o',q)->o'=o) :
 StM.OkP c {s with mv:=s.mv.set k none,rm:=Qk s.rm k m.pt m.ta o,th:=s.th.set o (some ⟨size,⟨(k:Nat),m.pt,m.ta,[]⟩⟩)} pd:=by
 obtain ⟨⟨D,T,e1,e2,e3⟩,M,U,_⟩:=h.mv k m hm;have a7:D≠o:=fun e=>by subst e; rw [ho] at e2; cases e2
 obtain ⟨W1,E⟩:=XiJ h.rm (k:=(k:Nat)) (n:=m.pt) (i:=m.ta) (who:=(o:Nat)) (by omega) (by rw [M,e1]; omega);have keep:∀ {j n a:Int},¬ (j=k/\n=m.pt/\a=m.ta)->X9 (Qk s.rm k m.pt m.ta o) j n a=X9 s.rm j n a:=fun v=>by rw [E,if_neg v]
 have V:=h.small D T e2 (Od h e2 (by rw [e3]; simp only; omega));have other:∀ {l:Nat} {b:ThM},s.th[l]? = some (some b)->X9 s.rm b.q.cls b.q.page b.q.idx=l->b.q.pages = [] -> ¬ (b.q.cls=k/\b.q.page=m.pt/\b.q.idx=m.ta):=fun {l b} f p z=>by
  rintro ⟨W,F,G⟩;rw [W,F,G,M,e1] at p;obtain rfl:D=l:=by omega
  rw [e2] at f;cases f
  rw [e3] at F G;exact U ⟨F,G⟩
 have N:∀ {j:Int} {m':MvM},Xz {s with mv:=s.mv.set k none,rm:=Qk s.rm k m.pt m.ta o,th:=s.th.set o (some ⟨size,⟨(k:Nat),m.pt,m.ta,[]⟩⟩)} j=some m'->j≠k/\Xz s j=some m':=fun hj=>by
  rcases Xis (s:=s) rfl hj with ⟨_,e⟩ | hj
  ·cases e
  ·exact hj
 refine ⟨h.may,h.rm.own _ _ _ _,h.kl,h.kr,h.bl,h.bi,by show ((s.th.set _ _).length:Int)=_; rw [XF]; exact h.tl,by show (s.mv.set _ _).length=_; rw [XF]; exact h.ml,fun l b f => ?_,fun l b f p => ?_,fun l b f p => ?_,fun l o3 b t3 f z w A hp => ?_,fun j m' hj => ?_,fun j n a hj => ?_,fun o' q H I => ?_,fun o' q H I => ?_⟩
 ·rcases Ak f with ⟨rfl,rfl⟩ | ⟨_,f⟩
  ·exact hs
  ·exact h.size l b f
 ·rcases Ak f with ⟨rfl,rfl⟩ | ⟨v,f⟩
  ·refine ⟨hk.symm,rfl,?_⟩;show X9 (Qk s.rm k m.pt m.ta l) k m.pt m.ta=l
   rw [E,if_pos ⟨rfl,rfl,rfl⟩]
  ·obtain ⟨J,t,B⟩:=h.small l b f p;exact ⟨J,t,(keep (other f B t)).trans B⟩
 ·show ∃ n' r,(n',r) ∈ (Qk s.rm k m.pt m.ta o).lg/\_
  rw [XeH];rcases Ak f with ⟨rfl,rfl⟩ | ⟨_,f⟩
  ·rw [hk] at p; omega
  ·exact h.large l b f p
 ·rcases Ak f with ⟨rfl,rfl⟩ | ⟨_,f⟩
  ·exact absurd w (by simp only; omega)
  ·rcases Ak z with ⟨rfl,rfl⟩ | ⟨_,z⟩
   ·exact absurd A (by simp only; omega)
   ·exact h.linj l o3 b t3 f z w A hp
 ·rcases Iy hj with ⟨_,e,_⟩ | ⟨v,hj⟩
  ·cases e
  ·obtain ⟨⟨l,b,J,t,B⟩,c2,A⟩:=h.mv j m' hj;exact ⟨⟨l,b,J,Dt (fun e=>by subst e; rw [ho] at t; cases t) t,B⟩,(keep (fun d=>by have:=d.1; omega)).trans c2,A⟩
 ·replace hj:X9 (Qk s.rm k m.pt m.ta o) j n a ≠ -1:=hj;show (∃ (l:Nat),∃ b,X9 (Qk s.rm k m.pt m.ta o) j n a=l/\_)\/_
  by_cases e:j=k/\n=m.pt/\a=m.ta
  ·obtain ⟨rfl,rfl,rfl⟩:=e;exact .inl ⟨o,_,by rw [E,if_pos ⟨rfl,rfl,rfl⟩],XG ((List.getElem?_eq_some_iff.1 ho).1),.inl rfl⟩
  ·rw [keep e] at hj ⊢;rcases h.own j n a hj with ⟨l,b,O,u,x | ⟨m',x,P,Q⟩⟩ | g
   ·exact .inl ⟨l,b,O,Dt (fun e=>by subst e; rw [ho] at u; cases u) u,.inl x⟩
   ·have R:j≠k:=fun e2=>by
     subst e2;rw [C0 hm] at x;cases x
     exact e ⟨rfl,P.symm,Q.symm⟩
    exact .inl ⟨l,b,O,Dt (fun e=>by subst e; rw [ho] at u; cases u) u,.inr ⟨m',Sp (s:=s) rfl R x,P,Q⟩⟩
   ·exact .inr g
 ·obtain ⟨K,L,C,p4⟩:=h.ps o' q H I;have y:¬ (q.cls=k/\q.page=m.pt/\q.idx=m.ta):=fun e=>by
   refine C m ?_ ⟨e.2.1.symm,e.2.2.symm⟩;rw [e.1]; exact C0 hm
  refine ⟨K,(keep y).trans L,fun m' S=>C m' (N S).2,fun l b f => ?_⟩;rcases Ak f with ⟨rfl,rfl⟩ | ⟨_,f⟩
  ·intro e;rw [<- e] at y;exact y ⟨rfl,rfl,rfl⟩
  ·exact p4 l b f
 ·obtain ⟨n,r,K,L,C⟩:=h.pl o' q H I;refine ⟨n,r,by show (n,r) ∈ (Qk s.rm k m.pt m.ta o).lg; rw [XeH]; exact K,L,fun l b f w => ?_⟩;rcases Ak f with ⟨rfl,rfl⟩ | ⟨_,f⟩
  ·exact absurd w (by simp only; omega)
  ·exact C l b f w
theorem StM.OkP.block (h:s.OkP c pd) (ho:s.th[o]? = some none) (hs:1<=size/\size<=c.most) (hk:Xm c.classes size=(k:Nat)) (hE:Ew s.rm k o=0) :
 StM.OkP c {s with rm:=Qb s.rm k o,th:=s.th.set o (some ⟨size,⟨(k:Nat),Do s.rm k o,Dn s.rm k o,[]⟩⟩)} pd:=by
 obtain ⟨t,F⟩:=Xbd h.rm hE;have keep:∀ {j n a:Int},X9 s.rm j n a ≠ -1->X9 (Qb s.rm k o) j n a=X9 s.rm j n a:=fun y=>by
  rw [t,if_neg];rintro ⟨rfl,rfl,rfl⟩;exact y F
 refine ⟨h.may,h.rm.take _ _,h.kl,h.kr,h.bl,h.bi,by show ((s.th.set _ _).length:Int)=_; rw [XF]; exact h.tl,h.ml,fun d f b => ?_,fun d f b u => ?_,fun d f b u => ?_,fun d H f I b z m v J => ?_,fun j m' l => ?_,fun j n a l => ?_,fun o' q A B => ?_,fun o' q A B => ?_⟩
 ·rcases Ak b with ⟨rfl,rfl⟩ | ⟨_,b⟩
  ·exact hs
  ·exact h.size d f b
 ·rcases Ak b with ⟨rfl,rfl⟩ | ⟨y,b⟩
  ·refine ⟨hk.symm,rfl,?_⟩;show X9 (Qb s.rm k d) k _ _=d
   rw [t,if_pos ⟨rfl,rfl,rfl⟩]
  ·obtain ⟨w,p,x⟩:=h.small d f b u;exact ⟨w,p,(keep (by rw [x]; omega)).trans x⟩
 ·show ∃ n' r,(n',r) ∈ (Qb s.rm k o).lg/\_
  rw [XaM];rcases Ak b with ⟨rfl,rfl⟩ | ⟨_,b⟩
  ·rw [hk] at u; omega
  ·exact h.large d f b u
 ·rcases Ak b with ⟨rfl,rfl⟩ | ⟨_,b⟩
  ·exact absurd m (by simp only; omega)
  ·rcases Ak z with ⟨rfl,rfl⟩ | ⟨_,z⟩
   ·exact absurd v (by simp only; omega)
   ·exact h.linj d H f I b z m v J
 ·obtain ⟨⟨d,f,w,p,x⟩,G,v⟩:=h.mv j m' l;exact ⟨⟨d,f,w,Dt (fun e=>by subst e; rw [ho] at p; cases p) p,x⟩,(keep (by rw [G,w]; omega)).trans G,v⟩
 ·replace l:X9 (Qb s.rm k o) j n a ≠ -1:=l;show (∃ (d:Nat),∃ f,X9 (Qb s.rm k o) j n a=d/\_)\/_
  by_cases e:j=k/\n=Do s.rm k o/\a=Dn s.rm k o
  ·obtain ⟨rfl,rfl,rfl⟩:=e;exact .inl ⟨o,_,by rw [t,if_pos ⟨rfl,rfl,rfl⟩],XG ((List.getElem?_eq_some_iff.1 ho).1),.inl rfl⟩
  ·have e1:X9 (Qb s.rm k o) j n a=X9 s.rm j n a:=by rw [t,if_neg e]
   rw [e1] at l ⊢;rcases h.own j n a l with ⟨d,f,K,C,L⟩ | g
   ·exact .inl ⟨d,f,K,Dt (fun e=>by subst e; rw [ho] at C; cases C) C,L⟩
   ·exact .inr g
 ·obtain ⟨D,i,E,M⟩:=h.ps o' q A B;refine ⟨D,(keep (by rw [i]; omega)).trans i,E,fun d f b => ?_⟩;rcases Ak b with ⟨rfl,rfl⟩ | ⟨_,b⟩
  ·intro e;rw [<- e] at i;simp only at i
   rw [F] at i;omega
  ·exact M d f b
 ·obtain ⟨n,r,D,i,E⟩:=h.pl o' q A B;refine ⟨n,r,by show (n,r) ∈ (Qb s.rm k o).lg; rw [XaM]; exact D,i,fun d f b m => ?_⟩;rcases Ak b with ⟨rfl,rfl⟩ | ⟨_,b⟩
  ·exact absurd m (by simp only; omega)
  ·exact E d f b m
theorem StM.OkP.pages (h:s.OkP c pd) (ho:s.th[o]? = some none) (hs:1<=size/\size<=c.most) (hf:Y7 c s.rm size=0) (hp:Xm c.classes size = -1) :
 StM.OkP c {s with rm:=Dm s.rm (Z5 size c.size).toNat,th:=s.th.set o (some ⟨size,⟨-1,(s.rm.pl.free.getD 0 0:Nat),0,X3 (s.rm.pl.free.take (Z5 size c.size).toNat).tail⟩⟩)} pd:=by
 have W:=(List.getElem?_eq_some_iff.1 ho).1;obtain ⟨f1,f2,_,_⟩:=Xhn h.may hf hp;obtain ⟨many,B⟩:∃ many,many=(Z5 size c.size).toNat:=⟨_,rfl⟩;have M:Z5 size c.size=many:=by omega
 rw [<- B] at f1 f2 ⊢;obtain ⟨m,u⟩:∃ m,m=s.rm.pl.free.getD 0 0:=⟨_,rfl⟩;obtain ⟨t,v⟩:∃ t,t=(s.rm.pl.free.take many).tail:=⟨_,rfl⟩;have F:m ∈ s.rm.pl.free:=by
  rw [u,XC,XB (show 0<s.rm.pl.free.length by omega)];exact XJ _
 have i:∀ {n:Nat} {r:List Nat},(n,r) ∈ s.rm.lg->n≠m:=fun {n r} N e=>by
  subst e;have b:=(h.rm.ok.lg n (Hw N (YI ..))).2;have w:=(h.rm.mok.good.free _ F).2;omega
 have D:(Dm s.rm many).lg=s.rm.lg ++ [(m,t)]:=by rw [u,v]; rfl
 have O:t.length+1=many:=by rw [v,QD,XR]; omega
 rw [<- u,<- v];refine ⟨h.may,h.rm.big (by omega) f2,h.kl,h.kr,h.bl,h.bi,by show ((s.th.set _ _).length:Int)=_; rw [XF]; exact h.tl,h.ml,fun f d b => ?_,fun f d b w => ?_,fun f d b w => ?_,fun f P d Q b K x L k => ?_,fun j m' y => ?_,fun j n a y => ?_,fun o' q G z => ?_,fun o' q G z => ?_⟩
 ·rcases Ak b with ⟨rfl,rfl⟩ | ⟨_,b⟩
  ·exact hs
  ·exact h.size f d b
 ·rcases Ak b with ⟨rfl,rfl⟩ | ⟨E,b⟩
  ·exact absurd hp w
  ·exact h.small f d b w
 ·show ∃ n' r,(n',r) ∈ (Dm s.rm many).lg/\_
  rw [D];rcases Ak b with ⟨rfl,rfl⟩ | ⟨_,b⟩
  ·exact ⟨m,t,by simp,rfl,by show ((t.length:Int)+1)=Z5 size c.size; omega⟩
  ·obtain ⟨n',r,l,p⟩:=h.large f d b w;exact ⟨n',r,QC _ l,p⟩
 ·have page:∀ {f:Nat} {d:ThM},s.th[f]? = some (some d)->d.q.cls = -1->d.q.page≠(m:Int):=fun {f d} b x=>by
   have R:=Decidable.byContradiction fun E=>by
    have:=(h.small f d b E).1;omega
   obtain ⟨n',r,l,p,_⟩:=h.large f d b R;have:=i l;rw [p];simp only
   omega
  rcases Ak b with ⟨e1,e2⟩ | ⟨_,l⟩
  ·rcases Ak K with ⟨e3,_⟩ | ⟨_,A⟩
   ·exact e1.trans e3.symm
   ·rw [e2] at k;exact absurd k.symm (page A L)
  ·rcases Ak K with ⟨e3,e4⟩ | ⟨_,A⟩
   ·rw [e4] at k;exact absurd k (page l x)
   ·exact h.linj f P d Q l A x L k
 ·obtain ⟨⟨f,d,S,H,T⟩,U⟩:=h.mv j m' y;exact ⟨⟨f,d,S,Dt (fun e=>by subst e; rw [ho] at H; cases H) H,T⟩,U⟩
 ·replace y:X9 s.rm j n a ≠ -1:=y;rcases h.own j n a y with ⟨f,d,l,p,A⟩ | g
  ·exact .inl ⟨f,d,l,Dt (fun e=>by subst e; rw [ho] at p; cases p) p,A⟩
  ·exact .inr g
 ·obtain ⟨C,I,J,V⟩:=h.ps o' q G z;refine ⟨C,I,J,fun f d b => ?_⟩;rcases Ak b with ⟨rfl,rfl⟩ | ⟨_,b⟩
  ·intro e;rw [<- e] at z;exact z rfl
  ·exact V f d b
 ·obtain ⟨n,r,C,I,J⟩:=h.pl o' q G z;refine ⟨n,r,by show (n,r) ∈ (Dm s.rm many).lg; rw [D]; exact QC _ C,I,fun f d b x => ?_⟩;rcases Ak b with ⟨rfl,rfl⟩ | ⟨_,b⟩
  ·have:=i C;simp only
   omega
  ·exact J f d b x
theorem StM.OkP.lay (h:s.OkP c pd) (ho:s.th[o]? = some none) (hf:Qr c s size=0) (hpd:∀ o' q,pd=some (o',q)->o'=o):(Y9 c s o size).OkP c pd:=by
 obtain ⟨g,i⟩:=Vp hf;have base:StM.OkP c {Zd c s o size with th:=s.th.set o (some ⟨size,Za c s o size⟩)} pd:=by
  cases a:Em c s size with
  |some m =>
   have e1:Zd c s o size=Qf {s with mv:=s.mv.set (Xm c.classes size).toNat none,rm:=Qk s.rm (Xm c.classes size) m.pt m.ta o} 3:=by unfold Zd; rw [a]
   have e2:Za c s o size=⟨Xm c.classes size,m.pt,m.ta,[]⟩:=by unfold Za; rw [a]
   unfold Em at a;cases j:Xz s (Xm c.classes size) with
   |none=>rw [j] at a; cases a
   |some m' =>
    rw [j] at a;simp only at a
    split at a
    ·cases a
     obtain ⟨k,d,_,r⟩:=Q9 j;rw [e1,e2,d,XA];exact (h.over ho g d r hpd).tot 3
    ·cases a
  |none =>
   have e1:Zd c s o size={s with rm:=Af c s.rm o size}:=by unfold Zd; rw [a]
   have e2:Za c s o size=Bg c s.rm o size:=by unfold Za; rw [a]
   have b:=i a;rw [e1,e2];by_cases f:Xm c.classes size = -1
   ·obtain ⟨l,n⟩:=Xj9 (c:=c) (who:=(o:Nat)) (by omega) b f;rw [l,n];exact h.pages ho g b f
   ·obtain ⟨l,n,t⟩:=Xka (c:=c) (who:=(o:Nat)) (by omega) b f;have p:=Xhq (who:=(o:Nat)) h.rm.ok (by omega) b;rw [t] at p;obtain ⟨u,v⟩:=Sx f;obtain ⟨k,d⟩:=XD u;rw [l,n];rw [d] at p ⊢;exact h.block ho g d p
 have e:Y9 c s o size=Z4 c {Zd c s o size with th:=s.th.set o (some ⟨size,Za c s o size⟩)} (Za c s o size) 0 (Xy (Zt c (Za c s o size).plc).toNat):=by
  unfold Y9 Z4 Qf;rw [XA]
 rw [e];exact base.put _ _ (P8 _)
theorem Xj6 {q:PlcM} (h:q.cls ≠ -1):Yv M q=Qq M q.cls q.page q.idx:=by unfold Yv; rw [if_pos h]
theorem Xj5 (hok:M.Ok c) {r:List Nat} (hm:(n,r) ∈ M.lg):Yv M ⟨-1,(n:Nat),0,X3 r⟩=Hf M n r:=by
 have a:Cm M.lg ((n:Nat):Int)=some r:=by
  cases b:Cm M.lg ((n:Nat):Int) with
  |none=>exact absurd rfl (Sc b _ hm)
  |some r' =>
   obtain ⟨k,e,d⟩:=La b;have:k=n:=by omega
   subst this;rw [V3 hok.nd d hm]
 unfold Yv;rw [if_neg (by simp)];simp only
 rw [a]
 simp
theorem StM.OkP.dropped {q:PlcM} (h:s.OkP c (some (o,q))):StM.Ok c {s with rm:=Yv s.rm q}:=by
 by_cases p:q.cls = -1
 ·obtain ⟨n,r,u,v,w⟩:=h.pl o q rfl p;rw [v,Xj5 h.rm.ok u];refine ⟨h.may,h.rm.gone u,h.kl,h.kr,h.bl,h.bi,h.tl,h.ml,h.size,h.small,fun d f l t => ?_,h.linj,h.mv,fun j n' a b => .inl ?_,(by rintro _ _ ⟨⟩),(by rintro _ _ ⟨⟩)⟩
  ·obtain ⟨n',r',H,x,I⟩:=h.large d f l t;refine ⟨n',r',?_,x,I⟩;show (n',r') ∈ Cz s.rm.lg n
   unfold Cz;refine List.mem_filter.2 ⟨H,?_⟩;have:=w d f l (by rw [x]);rw [x] at this;simp only at this
   simp only [bne_iff_ne,ne_eq];omega
  ·replace b:X9 s.rm j n' a ≠ -1:=b;rcases h.own j n' a b with g | ⟨o',g⟩
   ·exact g
   ·have e:=(Prod.mk.inj (Option.some.inj g)).2;have B:j = -1:=by rw [e] at p; exact p
    exact absurd (by rw [B]; unfold X9; rw [Nm (by omega)]) b
 ·obtain ⟨u,v,w,J⟩:=h.ps o q rfl p;rw [Xj6 p];obtain ⟨M,C⟩:=XcW h.rm (k:=q.cls) (n:=q.page) (i:=q.idx) (by rw [v]; omega);have keep:∀ {j n' a:Int},¬ (j=q.cls/\n'=q.page/\a=q.idx)->X9 (Qq s.rm q.cls q.page q.idx) j n' a=X9 s.rm j n' a:=fun m=>by rw [C,if_neg m]
  refine ⟨h.may,h.rm.give _ _ _,h.kl,h.kr,h.bl,h.bi,h.tl,h.ml,h.size,fun d f l t => ?_,fun d f l t => ?_,h.linj,fun j m' b => ?_,fun j n' a b => .inl ?_,(by rintro _ _ ⟨⟩),(by rintro _ _ ⟨⟩)⟩
  ·obtain ⟨K,D,L⟩:=h.small d f l t;refine ⟨K,D,(keep ?_).trans L⟩;rintro ⟨y,z,A⟩;refine J d f l ?_;obtain ⟨sz,E,F,G,N⟩:=f;obtain ⟨O,P,Q,R⟩:=q;simp only at *
   rw [y,z,A,D,u]
  ·show ∃ n' r,(n',r) ∈ (Qq s.rm q.cls q.page q.idx).lg/\_
   rw [XaI];exact h.large d f l t
  ·obtain ⟨E,F,G⟩:=h.mv j m' b;refine ⟨E,(keep ?_).trans F,G⟩;rintro ⟨y,z,A⟩;exact w m' (by rw [<- y]; exact C0 b) ⟨z,A⟩
  ·replace b:X9 (Qq s.rm q.cls q.page q.idx) j n' a ≠ -1:=b;have m:¬ (j=q.cls/\n'=q.page/\a=q.idx):=fun e=>by rw [C,if_pos e] at b; exact b rfl
   show ∃ (d:Nat),∃ f,X9 (Qq s.rm q.cls q.page q.idx) j n' a=d/\_
   rw [keep m] at b ⊢;rcases h.own j n' a b with g | ⟨o',g⟩
   ·exact g
   ·have e:=(Prod.mk.inj (Option.some.inj g)).2;exact absurd ⟨by rw [e],by rw [e],by rw [e]⟩ m
theorem StM.OkP.clear {q:PlcM} (h:s.OkP c (some (o,q))):(B6 c s q).Ok c:=by
 unfold B6;split
 ·exact h.dropped
 ·exact StM.OkP.go (StM.OkP.begin h.dropped _) _ _
theorem StM.OkP.away (h:s.Ok c) {t:ThM} (ht:s.th[o]? = some (some t)) (hm:∀ (k:Nat) (m:MvM),s.mv[k]? = some (some m)->m.who≠(o:Nat)):StM.OkP c {s with th:=s.th.set o none} (some (o,t.q)):=by
 have f:∀ {b:Nat} {d:ThM},(s.th.set o none)[b]? = some (some d)->b≠o/\s.th[b]? = some (some d):=fun h1=>by
  rcases Iy h1 with ⟨_,e,_⟩ | h1
  ·cases e
  ·exact h1
 have p:∀ {k:Nat} {m:MvM},s.mv[k]? = some (some m) -> ∀ {b:Nat},m.who=(b:Nat)->b≠o:=fun C b e1 e=>hm _ _ C (by rw [e1,e]);refine ⟨h.may,h.rm,h.kl,h.kr,h.bl,h.bi,by show ((s.th.set _ _).length:Int)=_; rw [XF]; exact h.tl,h.ml,fun b d h1=>h.size b d (f h1).2,fun b d h1=>h.small b d (f h1).2,fun b d h1=>h.large b d (f h1).2,fun b D d F h1 L=>h.linj b D d F (f h1).2 (f L).2,fun k m C => ?_,fun j n a M => ?_,fun o' q G w => ?_,fun o' q G w => ?_⟩
 ·obtain ⟨⟨b,d,v,H,x⟩,y⟩:=h.mv k m C;exact ⟨⟨b,d,v,Dt (p C v) H,x⟩,y⟩
 ·rcases h.own j n a M with ⟨b,d,z,u,A | ⟨m,A,I,J⟩⟩ | ⟨_,g⟩
  ·by_cases e:b=o
   ·subst e;rw [ht] at u;cases u
    exact .inr ⟨b,by rw [A]⟩
   ·exact .inl ⟨b,d,z,Dt e u,.inl A⟩
  ·obtain ⟨i,ei,_,B⟩:=Q9 A;subst ei;obtain ⟨⟨D,F,v,_⟩,y,_⟩:=h.mv i m B;have:(D:Int)=b:=by rw [<- v,<- y,I,J]; exact z
   have l:=p B v;exact .inl ⟨b,d,z,Dt (by omega) u,.inr ⟨m,A,I,J⟩⟩
  ·cases g
 ·obtain ⟨e1,e2⟩:=Prod.mk.inj (Option.some.inj G);subst e1;subst e2;obtain ⟨v,H,x⟩:=h.small o t ht (Od h ht w);refine ⟨H,x,fun m K => ?_,fun b d h1 e => ?_⟩
  ·obtain ⟨i,ei,_,B⟩:=Q9 K;rintro ⟨N,O⟩;obtain ⟨⟨D,F,E,_⟩,y,_⟩:=h.mv i m B;rw [N,O,<- ei,x,E] at y;exact p B E (by omega)
  ·obtain ⟨l,h1⟩:=f h1;obtain ⟨_,_,P⟩:=h.small b d h1 (Od h h1 (by rw [e]; exact w));rw [e,x] at P;omega
 ·obtain ⟨e1,e2⟩:=Prod.mk.inj (Option.some.inj G);subst e1;subst e2;have Q:=Decidable.byContradiction fun l=>by
   have h1:=(h.small o t ht l).1;rw [w] at h1;exact l h1.symm
  obtain ⟨n,r,z,u,_⟩:=h.large o t ht Q;refine ⟨n,r,z,u,fun b d h1 E e => ?_⟩;obtain ⟨l,h1⟩:=f h1;exact l (h.linj b o d t h1 ht E w (by rw [e,u]))
end
section
variable {c:Conf} {s:StM} {pd:Option (Nat × PlcM)}
theorem N9 (c:Conf) (s:StM) (k:Nat):(Yw c s k).th=s.th/\(Yw c s k).keep=s.keep/\(Yw c s k).bs=s.bs/\(Yw c s k).mv.length=s.mv.length:=by
 unfold Yw;split
 ·exact ⟨rfl,rfl,rfl,XF⟩
 ·exact ⟨rfl,rfl,rfl,rfl⟩
theorem XcX (s:StM) (k:Nat) (n:Int):(Yo s k n).keep=s.keep/\(Yo s k n).th.length=s.th.length/\(Yo s k n).mv.length=s.mv.length/\(Yo s k n).rm.lg=s.rm.lg:=by
 unfold Yo;split
 ·exact ⟨rfl,rfl,rfl,rfl⟩
 ·split
  ·exact ⟨rfl,rfl,XF,rfl⟩
  ·exact ⟨rfl,XF,XF,XaI _ _ _ _⟩
theorem XhD (h:s.Ok c) (k:Nat) (n:Int):(∀ (o:Nat) t,s.th[o]? = some (some t) -> ∃ t',(Yo s k n).th[o]? = some (some t')/\t'.size=t.size/\t'.q.cls=t.q.cls/\t'.q.pages=t.q.pages/\(t.q.cls≠(k:Nat)->t'=t))/\(∀ o:Nat,s.th[o]? = some none->(Yo s k n).th[o]? = some none) /\ ∀ j:Int,j≠k->Xz (Yo s k n) j=Xz s j:=by
 unfold Yo;cases p:Xz s (k:Nat) with
 |none=>exact ⟨fun o t i=>⟨t,i,rfl,rfl,rfl,fun _=>rfl⟩,fun _ h=>h,fun _ _=>rfl⟩
 |some m =>
  obtain ⟨j,ej,u,q⟩:=Q9 p;obtain rfl:k=j:=by omega
  have d:∀ {s':StM} {v:Option MvM},s'.mv=s.mv.set k v -> ∀ j:Int,j≠k->Xz s' j=Xz s j:=fun {s' v} e j f=>by
   unfold Xz;split
   ·rename_i w
    rw [e,XC,XC,XU (by omega)]
   ·rfl
  simp only
  split
  ·exact ⟨fun o t i=>⟨t,i,rfl,rfl,rfl,fun _=>rfl⟩,fun _ h=>h,d rfl⟩
  ·obtain ⟨⟨o,t,e1,e2,e3⟩,_⟩:=h.mv k m q;have l:Qn s m.who=t.size:=by unfold Qn; rw [e1,Gm e2]
   have g:m.who.toNat=o:=by omega
   refine ⟨fun b r a => ?_,fun b a => ?_,d rfl⟩
   ·show ∃ t',(s.th.set m.who.toNat _)[b]? = _/\_
    rw [g,l];by_cases e:b=o
    ·subst e;rw [e2] at a;cases a
     exact ⟨_,XG ((List.getElem?_eq_some_iff.1 e2).1),rfl,by rw [e3],by rw [e3],fun f=>absurd (by rw [e3]) f⟩
    ·exact ⟨r,Dt e a,rfl,rfl,rfl,fun _=>rfl⟩
   ·show (s.th.set m.who.toNat _)[b]? = _
    rw [g,XU (fun e=>by subst e; rw [e2] at a; cases a)];exact a
theorem XhC (h:s.Ok c) {m:MvM} (hm:s.mv[k]? = some (some m)) {n:Int} (hn:(m.size - m.gone:Nat)<=n):Xz (Yo s k n) (k:Nat)=none:=by
 have a:=(h.mv k m hm).2.2.2.2.2.2;unfold Yo;rw [C0 hm];simp only
 have b:Zw m n=m.size - m.gone:=by unfold Zw Df; omega
 rw [if_neg (by omega)];unfold Xz;rw [if_pos (by omega)];show ((s.mv.set k none).getD _ none)=none
 rw [XA,XC,XG ((List.getElem?_eq_some_iff.1 hm).1)]; rfl
structure Xf3 (c:Conf) (s s':StM) (κ:Int):Prop where
 ok:s'.Ok c
 mv:Xz s' κ=none
 other:∀ j:Int,j≠κ->Xz s' j=Xz s j
 th:∀ (o:Nat) t,s.th[o]? = some (some t) -> ∃ t',s'.th[o]? = some (some t')/\t'.size=t.size/\t'.q.cls=t.q.cls/\t'.q.pages=t.q.pages/\(t.q.cls≠κ->t'=t)
 no:∀ o:Nat,s.th[o]? = some none->s'.th[o]? = some none
 keep:s'.keep=s.keep/\s'.th.length=s.th.length/\s'.mv.length=s.mv.length/\s'.rm.lg=s.rm.lg
theorem K0 (h:s.Ok c) (κ:Int):Xf3 c s (Zj s κ) κ:=by
 have a:=h.finish κ;unfold Zj at a ⊢;cases b:Xz s κ with
 |none=>exact ⟨h,b,fun _ _=>rfl,fun o t e=>⟨t,e,rfl,rfl,rfl,fun _=>rfl⟩,fun _ h=>h,rfl,rfl,rfl,rfl⟩
 |some m =>
  rw [b] at a;obtain ⟨k,rfl,j,d⟩:=Q9 b;simp only [XA] at a ⊢;obtain ⟨f,g,i⟩:=XhD h k (m.size:Nat);exact ⟨a,XhC h d (by omega),i,f,g,XcX s k _⟩
theorem Qx {t:ThM} (h:s.th[o]? = some (some t)):Yy s (o:Nat)=t.q:=by unfold Yy; rw [Gm h]
theorem Ez {t:ThM} (h:s.th[o]? = some (some t)):Qn s (o:Nat)=t.size:=by unfold Qn; rw [Gm h]
theorem On (h:s.Ok c) {t:ThM} (ht:s.th[o]? = some (some t)):∃ t',(Zj s t.q.cls).th[o]? = some (some t')/\t'.size=t.size/\t'.q.cls=t.q.cls/\t'.q.pages=t.q.pages/\(∀ (k:Nat) (m:MvM),(Zj s t.q.cls).mv[k]? = some (some m)->m.who≠(o:Nat)):=by
 have F:=K0 h t.q.cls;obtain ⟨t',b,g,a,i,_⟩:=F.th o t ht;refine ⟨t',b,g,a,i,fun k m d e => ?_⟩;obtain ⟨⟨j,n,p,f,l⟩,_⟩:=F.ok.mv k m d;obtain rfl:j=o:=by omega
 rw [b] at f;cases f
 have:Xz (Zj s t.q.cls) (k:Nat)=some m:=C0 d;rw [l] at a;simp only at a
 rw [a,F.mv] at this;cases this
theorem Jd {o:Int} (h:Yc s o=0):∃ (j:Nat),∃ t,o=j/\s.th[j]? = some (some t):=by
 unfold Yc at h;split at h
 ·exact absurd h (by decide)
 ·cases a:Bh s o with
  |none=>rw [a] at h; exact absurd (show (9:Int)=0 from h) (by decide)
  |some t =>
   obtain ⟨j,e,_,b⟩:=Xbf a;exact ⟨j,t,e,b⟩
theorem Xad {o:Int} (h1:Yc s o≠1) (h0:Yc s o≠0):∃ j:Nat,o=j/\j<s.th.length/\s.th[j]? = some none:=by
 unfold Yc at h1 h0;split at h1
 ·exact absurd rfl h1
 ·rename_i c
  rw [if_neg c] at h0;obtain ⟨j,rfl⟩:=XD (show 0<=o by omega);have a:j<s.th.length:=by omega
  refine ⟨j,rfl,a,?_⟩;cases b:s.th[j] with
  |none=>rw [XB a,b]
  |some t =>
   have:Bh s (j:Nat)=some t:=Gm (by rw [XB a,b]);rw [this] at h0;exact absurd rfl h0
theorem XbO {o:Int} (h:A5 c s o size=0):∃ j:Nat,o=j/\j<s.th.length/\s.th[j]? = some none/\Qr c s size=0:=by
 unfold A5 at h;split at h
 ·exact absurd h (by decide)
 ·rename_i e
  split at h
  ·exact absurd h (by decide)
  ·rename_i f
   obtain ⟨j,a,b,d⟩:=Xad e f;exact ⟨j,a,b,d,h⟩
theorem StM.OkP.alloc (h:s.Ok c) (o size:Int):(Ao c s o size).Ok c:=by
 unfold Ao;split
 ·rename_i a
  obtain ⟨j,rfl,_,b,d⟩:=XbO a;exact StM.OkP.lay h b d (by rintro _ _ ⟨⟩)
 ·exact h
theorem StM.OkP.free (h:s.Ok c) (o:Int):(C4 c s o).Ok c:=by
 unfold C4;split
 ·exact h
 ·rename_i d
  obtain ⟨j,t,rfl,a⟩:=Jd (Decidable.not_not.1 d);rw [Qx a];obtain ⟨t',b,_,_,_,e⟩:=On h a;rw [Qx b,XA];exact ((K0 h t.q.cls).ok.away b e).clear
theorem StM.OkP.wrote (h:s.OkP c pd) (o:Int) (i n:Nat) (hi:∀ m,Xz s (Yy s o).cls=some m->i+n<=m.size):(Ac s o i n).OkP c pd:=by
 unfold Ac;split
 ·rename_i m a
  split
  ·obtain ⟨k,_,_,b⟩:=Q9 a;obtain ⟨d,e,f,_⟩:=Jb h b;have:=hi m a;refine h.bytes ?_ ?_ _
   ·unfold Dv;split
    ·rfl
    ·unfold Qt at *;exact Oe (by omega) (by omega)
   ·unfold Dv;split
    ·exact h.bi
    ·exact Xcu h.bi
  ·exact h
 ·exact h
theorem StM.OkP.sized (h:s.Ok c) {t:ThM} (ht:s.th[o]? = some (some t)) (hs:Au c t.size size=true) (hr:1<=size/\size<=c.most):(Dq s (o:Nat) ⟨size,t.q⟩).Ok c:=by
 unfold Au at hs;simp only [XK,Bool.or_eq_true,decide_eq_true_eq] at hs;obtain ⟨B,F⟩:=hs;have p:∀ {b:Nat} {d:ThM},(s.th.set o (some ⟨size,t.q⟩))[b]? = some (some d) -> ∃ f,s.th[b]? = some (some f)/\d.q=f.q/\((b=o/\f=t/\d.size=size)\/(b≠o/\d=f)):=fun i=>by
  rcases Ak i with ⟨rfl,rfl⟩ | ⟨w,i⟩
  ·exact ⟨t,ht,rfl,.inl ⟨rfl,rfl,rfl⟩⟩
  ·exact ⟨_,i,rfl,.inr ⟨w,rfl⟩⟩
 have x:∀ {b:Nat} {f:ThM},s.th[b]? = some (some f) -> ∃ d,(s.th.set o (some ⟨size,t.q⟩))[b]? = some (some d)/\d.q=f.q:=fun {b f} i=>by
  by_cases e:b=o
  ·subst e;rw [ht] at i;cases i
   exact ⟨_,XG ((List.getElem?_eq_some_iff.1 ht).1),rfl⟩
  ·exact ⟨f,Dt e i,rfl⟩
 unfold Dq;rw [XA];refine ⟨h.may,h.rm,h.kl,h.kr,h.bl,h.bi,by show ((s.th.set _ _).length:Int)=_; rw [XF]; exact h.tl,h.ml,fun b d i => ?_,fun b d i q => ?_,fun b d i q => ?_,fun b G d P i q E A C => ?_,fun k m H => ?_,fun j n a I => .inl ?_,(by rintro _ _ ⟨⟩),(by rintro _ _ ⟨⟩)⟩
 ·obtain ⟨f,l,u,⟨_,_,v⟩ | ⟨_,rfl⟩⟩:=p i
  ·rw [v]; exact hr
  ·exact h.size b d l
 ·obtain ⟨f,l,u,⟨_,D,v⟩ | ⟨_,rfl⟩⟩:=p i
  ·subst D;rw [v,<- B] at q;rw [u,v,<- B];exact h.small b f l q
  ·exact h.small b d l q
 ·obtain ⟨f,l,u,⟨_,D,v⟩ | ⟨_,rfl⟩⟩:=p i
  ·subst D;rw [v,<- B] at q;obtain ⟨n,r,y,z,J⟩:=h.large b f l q;refine ⟨n,r,y,u.trans z,?_⟩;rw [J,v];unfold Z5;rw [(F.resolve_left (fun w=>w q))]
  ·exact h.large b d l q
 ·obtain ⟨f,l,u,_⟩:=p i;obtain ⟨K,y,z,_⟩:=p q;rw [u] at E C;rw [z] at A C;exact h.linj b G f K l y E A C
 ·obtain ⟨⟨b,f,L,M,N⟩,A⟩:=h.mv k m H;obtain ⟨d,l,u⟩:=x M;exact ⟨⟨b,d,L,l,u.trans N⟩,A⟩
 ·rcases h.own j n a I with ⟨b,f,l,u,O⟩ | ⟨_,g⟩
  ·obtain ⟨d,y,z⟩:=x u;exact ⟨b,d,l,y,by rw [z]; exact O⟩
  ·cases g
theorem XhZ (c:Conf) (s:StM) (o:Nat) (size:Int):Y9 c {s with th:=s.th.set o none} o size=Y9 c s o size:=by
 have e1:Em c {s with th:=s.th.set o none} size=Em c s size:=rfl;have e2:Za c {s with th:=s.th.set o none} o size=Za c s o size:=rfl;have e3:Zd c {s with th:=s.th.set o none} o size={Zd c s o size with th:=s.th.set o none}:=by unfold Zd; rw [e1]; split <;> rfl
 unfold Y9;rw [e2,e3];simp only [List.set_set,XA];rfl
theorem XcU (M:RmM) (k n i:Int) (h:Yr c M):M.pl.free.length<=(Qq M k n i).pl.free.length /\ ∀ j,j≠k->Yg (Qq M k n i) j=Yg M j:=by
 unfold Qq;cases a:Zs M k with
 |none=>exact ⟨XE _,fun _ _=>rfl⟩
 |some x =>
  obtain ⟨l,rfl,b,e⟩:=Fj a;simp only [XA];split
  ·refine ⟨?_,fun j d => ?_⟩
   ·show _<=(A3 x M.pl n i).free.length
    unfold A3;split
    ·split
     ·show _<=(PlM.give M.pl _).free.length
      unfold PlM.give
      simp
     ·exact XE _
    ·exact XE _
   ·show Yg (Ev M l (Q1 x n i) (A3 x M.pl n i)) j=_
    unfold Yg;rw [XeG b,if_neg d]
  ·exact ⟨XE _,fun _ _=>rfl⟩
theorem Xj7 {M':RmM} (h1:M.pl.free.length<=M'.pl.free.length) (h2:Yg M' (Xm c.classes size)=Yg M (Xm c.classes size)) (h:Y7 c M size=0):Y7 c M' size=0:=by
 unfold Y7 at h ⊢;split at h
 ·exact absurd h (by decide)
 ·rename_i a
  rw [if_neg a];split at h
  ·exact absurd h (by decide)
  ·rename_i b
   rw [if_neg];unfold Cp at b ⊢;rw [h2];omega
theorem Xhp (h:s.Ok c) {κ:Int} (hne:Xm c.classes size = -1\/Xm c.classes size≠κ) (hf:Qr c s size=0):Qr c (Zj s κ) size=0:=by
 unfold Qr at hf ⊢;split at hf
 ·exact absurd hf (by decide)
 ·rename_i g
  rw [if_neg g];have f:Xz (Zj s κ) (Xm c.classes size)=Xz s (Xm c.classes size):=by
   rcases hne with e | e
   ·rw [e]; rfl
   ·exact (K0 h κ).other _ e
  rw [f];split at hf
  ·rename_i b; rw [if_pos b]
  ·rename_i b
   rw [if_neg b];refine Xj7 ?_ ?_ hf
   ·unfold Zj;split
    ·exact XE _
    ·rename_i m a
     obtain ⟨k,rfl,_,d⟩:=Q9 a;rw [XA];unfold Yo;rw [a];simp only
     split
     ·exact XE _
     ·exact (XcU _ _ _ _ (StM.OkP.step h d _).rm).1
   ·unfold Zj;split
    ·rfl
    ·rename_i m a
     obtain ⟨k,rfl,_,d⟩:=Q9 a;rw [XA];unfold Yo;rw [a];simp only
     split
     ·rfl
     ·rcases hne with e | e
      ·rw [e];unfold Yg;rw [Nm (by omega),Nm (by omega)]
      ·exact (XcU _ _ _ _ (StM.OkP.step h d _).rm).2 _ e
theorem Pz (hb:Qd bs) (i n:Nat):Qd (Yh c q bs i n):=fun x a=>by
 unfold Yh at a;obtain ⟨j,_,rfl⟩:=List.mem_map.1 a;rw [XC];cases b:bs[(Bj c q (i+j)).toNat]? with
 |none=>exact ⟨YL _,by decide⟩
 |some y=>exact hb y (XS b)
theorem Xey {o:Int} (h:Bp c s o size=0):∃ (j:Nat),∃ t,o=j/\s.th[j]? = some (some t)/\(1<=size/\size<=c.most)/\(Au c t.size size=true\/(Au c t.size size=false/\Qr c s size=0)):=by
 unfold Bp at h;by_cases a:Yc s o=0
 ·rw [if_neg (fun e=>e a)] at h;obtain ⟨j,t,rfl,d⟩:=Jd a;split at h
  ·exact absurd h (by decide)
  ·rename_i f
   rw [Ez d] at h;refine ⟨j,t,rfl,d,by omega,?_⟩;split at h
   ·rename_i b; exact .inl b
   ·rename_i b; exact .inr ⟨by simpa using b,h⟩
 ·rw [if_pos a] at h; exact absurd h a
theorem Xk5 {old:Int} (h:Au c old size=false):Xm c.classes size = -1\/Xm c.classes size≠Xm c.classes old:=by
 unfold Au at h;by_cases e:Xm c.classes old=Xm c.classes size
 ·rw [decide_eq_true e,ZZ] at h;by_cases e1:Xm c.classes old = -1
  ·exact .inl (by omega)
  ·rw [decide_eq_true e1,Bool.true_or] at h; cases h
 ·exact .inr (fun h=>e h.symm)
theorem Xcl (h:s.OkP c pd) {t:ThM} (ht:s.th[o]? = some (some t)):t.q.cls=Xm c.classes t.size:=by
 by_cases a:Xm c.classes t.size = -1
 ·obtain ⟨n,r,_,e,_⟩:=h.large o t ht a;rw [e,a]
 ·exact (h.small o t ht a).1
structure Xf4 (c:Conf) (s:StM) (o:Nat) (t:ThM) (size:Int) (t':ThM):Prop where
 ok1:(Zj s t.q.cls).Ok c
 th1:(Zj s t.q.cls).th[o]? = some (some t')
 size':t'.size=t.size
 cls':t'.q.cls=t.q.cls
 pages':t'.q.pages=t.q.pages
 away:StM.OkP c {Zj s t.q.cls with th:=(Zj s t.q.cls).th.set o none} (some (o,t'.q))
 fits:Qr c (Zj s t.q.cls) size=0
 ok2:(Y9 c (Qf (Zj s t.q.cls) (X8 c t'.q.plc 0 (min t.size size).toNat)) o size).OkP c (some (o,t'.q))
theorem Sk (h:s.Ok c) {t:ThM} (ht:s.th[o]? = some (some t)) (hs:Au c t.size size=false) (hf:Qr c s size=0):∃ t',Xf4 c s o t size t':=by
 obtain ⟨t',b,g,i,j,k⟩:=On h ht;have F:=K0 h t.q.cls;have a:=Xhp (κ:=t.q.cls) h (by rw [(Xcl h ht)]; exact Xk5 hs) hf;have d:=F.ok.away b k;refine ⟨t',F.ok,b,g,i,j,d,a,?_⟩;have f:=StM.OkP.lay (o:=o) (size:=size) (d.tot (X8 c t'.q.plc 0 (min t.size size).toNat)) (by show ((Zj s t.q.cls).th.set o none)[o]? = _; rw [XG ((List.getElem?_eq_some_iff.1 b).1)]) a (fun o' q e=>by cases e; rfl);have e:Qf {Zj s t.q.cls with th:=(Zj s t.q.cls).th.set o none} (X8 c t'.q.plc 0 (min t.size size).toNat)={Qf (Zj s t.q.cls) (X8 c t'.q.plc 0 (min t.size size).toNat) with th:=(Qf (Zj s t.q.cls) (X8 c t'.q.plc 0 (min t.size size).toNat)).th.set o none}:=rfl;rw [e,XhZ] at f;exact f
theorem StM.OkP.moveTo (h:s.Ok c) {t:ThM} (ht:s.th[o]? = some (some t)) (hs:Au c t.size size=false) (hf:Qr c s size=0):(Kh c s o size).Ok c:=by
 obtain ⟨t',M⟩:=Sk h ht hs hf;unfold Kh;simp only
 rw [Qx ht,Qx M.th1,Ez ht];exact (M.ok2.put _ _ (Pz M.ok1.bi _ _)).clear
theorem Xd2 {n:Int} (h:Xm zs n=(k:Nat)):n<=zs.getD k 0:=by
 unfold Xm at h;split at h
 ·omega
 ·unfold idx at h;split at h
  ·rename_i i a
   obtain ⟨b,c,_⟩:=List.findIdx?_eq_some_iff_getElem.1 a;obtain rfl:i=k:=by omega
   rw [XC,XB b];exact of_decide_eq_true c
  ·omega
theorem Ou (h:s.OkP c pd) {m:MvM} (hm:s.mv[k]? = some (some m)) {t:ThM} (ht:s.th[o]? = some (some t)) (hc:t.q.cls=(k:Nat)):t.size<=m.size:=by
 have a:=Xcl h ht;rw [hc] at a;rw [((h.mv k m hm).2.2.2.2.2.1)];unfold Z3;rw [XA];have b:Xm c.classes t.size ≠ -1:=by omega
 obtain ⟨_,d⟩:=Sx b;exact Xd2 a.symm
theorem StM.OkP.resize (h:s.Ok c) (o size:Int):(As c s o size).Ok c:=by
 unfold As;split
 ·exact h
 ·rename_i i
  obtain ⟨j,t,rfl,a,e,d⟩:=Xey (Decidable.not_not.1 i);rw [Ez a,Qx a];split
  ·rename_i b
   split
   ·rename_i p
    refine (StM.OkP.sized (h.put t.q size.toNat (P8 (t.size - size).toNat)) (o:=j) (t:=t) a b e).wrote _ _ _ fun m f => ?_;have q:=h.size j t a;have l:(Dq (Z4 c s t.q size.toNat (Xy (t.size - size).toNat)) (j:Nat) ⟨size,t.q⟩).th[j]? = some (some ⟨size,t.q⟩):=by
     show (s.th.set (j:Int).toNat _)[j]? = _
     rw [XA,XG ((List.getElem?_eq_some_iff.1 a).1)]
    rw [Qx l] at f;obtain ⟨k,ek,_,g⟩:=Q9 f;have:=Ou h (k:=k) (m:=m) g a ek;omega
   ·exact h.sized a b e
  ·rename_i b
   rcases d with d | ⟨d,n⟩
   ·exact absurd d b
   ·exact h.moveTo a d n
theorem T6 {o i n:Int} (h:Qc s o i n=0):∃ (j:Nat),∃ t,o=j/\s.th[j]? = some (some t)/\0<=i/\0<=n/\i+n<=t.size:=by
 unfold Qc at h;by_cases a:Yc s o=0
 ·rw [if_neg (fun c=>c a)] at h;obtain ⟨j,t,rfl,b⟩:=Jd a;rw [Ez b] at h;split at h
  ·exact absurd h (by decide)
  ·exact ⟨j,t,rfl,b,by omega,by omega,by omega⟩
 ·rw [if_pos a] at h; exact absurd h a
theorem StM.OkP.read (h:s.Ok c) (o i n:Int):(C5 c s o i n).Ok c:=by
 unfold C5;split
 ·exact h.tot _
 ·exact h
theorem StM.OkP.write (h:s.Ok c) (o i:Int) (hl:Qd l):(Dr c s o i l).Ok c:=by
 unfold Dr;split
 ·rename_i e
  obtain ⟨j,t,rfl,a,f,_,g⟩:=T6 e;refine (h.put _ _ hl).wrote _ _ _ fun m b => ?_;rw [(Qx (s:=Z4 c s (Yy s (j:Nat)) i.toNat l) a)] at b;obtain ⟨k,ek,_,d⟩:=Q9 b;have:=Ou h (k:=k) (m:=m) d a ek;omega
 ·exact h
theorem StM.OkP.tickK (h:s.Ok c) (n:Int) (k:Nat):(tickK c (s,n) k).1.Ok c:=by
 unfold Go.Proofs.YtohjeeapehmkcaaGreatDoor.tickK;split
 ·exact h
 ·split
  ·exact h.begin k
  ·exact (StM.OkP.begin h k).go k _
theorem Nx (c:Conf) (s:StM) (n:Nat):tickTo c s (n+1)=tickK c (tickTo c s n) n:=by
 unfold tickTo;rw [Y2,List.foldl_append];rfl
theorem StM.OkP.tickTo (h:s.Ok c):∀ n,(tickTo c s n).1.Ok c
 |0=>h
 |n+1=>by rw [Nx]; exact StM.OkP.tickK (StM.OkP.tickTo h n) _ _
theorem StM.OkP.tick (h:s.Ok c):(De c s).Ok c:=h.tickTo _
theorem StM.OkP.set (h:s.Ok c) (k keep:Int):(Dp s k keep).Ok c:=by
 unfold Dp;split
 ·rename_i a
  unfold Ch at a;split at a
  ·exact absurd a (by decide)
  ·refine ⟨h.may,h.rm,by show (s.keep.set _ _).length=_; rw [XF]; exact h.kl,fun x b => ?_,h.bl,h.bi,h.tl,h.ml,h.size,h.small,h.large,h.linj,h.mv,h.own,h.ps,h.pl⟩;rcases ZJ b with b | rfl
   ·exact h.kr x b
   ·omega
 ·exact h
end
structure Hk (F:Nat->Prop) (w:World) (R:Rm) (z:Nat):Prop where
 f:¬ F z
 rb:R.rb≠z
 sb:R.sb≠z
 tb:0≠z
 ca:∀ off s,R.p.ca≠some ⟨z,off,s⟩
 ka:∀ off s,R.p.ka≠some ⟨z,off,s⟩
 lb:kd w z≠some (some 290)
 pg:kd w z≠some (some 286)
 int:kd w z=some (some 3)->R.X z
theorem Zg.other (h:Zg F w R M) (hc:Xc S w w') (hS:∀ z,S z->Hk F w R z):Zg F w' R M:=by
 have t:=hc.size;have out:∀ {a:Option Addr} {l:List Int},Al F w a l->(∀ z,S z -> ∀ off s,a≠some ⟨z,off,s⟩)->Al F w' a l:=fun {a l} g o=>⟨g.1.far (fun b off s e c=>o b c off s e) hc,g.2⟩;have pb:¬ S R.P.pb:=fun c=>(hS _ c).f (h.pf _ (.inl rfl));have ab:¬ S R.P.ab:=fun c=>(hS _ c).f (h.pf _ (.inr rfl));refine ⟨h.ok,hc.heap h.obj (fun c=>(hS _ c).rb rfl),out h.cls (fun z c=>(hS z c).ca),out h.kee (fun z c=>(hS z c).ka),h.may,fun b p => ?_,fun k i=>hc.cell (h.sl k i) (fun c=>(hS _ c).sb rfl),h.pool.chg hc pb ab,h.pf,?_,h.lg.chg hc (fun z c e => .inr ((hS z e).int c)) (fun c=>(hS _ c).f h.lf),h.lf,h.rf,h.sf,fun z c=>by have:=h.low z c; omega,h.tab.chg hc (fun c=>(hS _ c).tb rfl),h.tf,fun z c=>⟨by have:=(h.xl z c).1; omega,(h.xl z c).2⟩⟩
 ·obtain ⟨f,j⟩:=h.met b p;exact ⟨f,hc.heap j.1 (fun e=>(hS _ e).f f),j.2⟩
 ·obtain ⟨G,a,e⟩:=h.sh;refine ⟨G,fun k x q => ?_,e⟩;obtain ⟨f,d,m⟩:=a k x q;have nf:∀ z,S z -> ¬ Y1 (R.S _) (G _) x.pg z:=fun z c r=>(hS z c).f (m z r).1;exact ⟨f,⟨d.ok,d.pos,d.of,d.at'.chg hc (fun z c=>⟨fun e=>nf z c (.inl e),fun e=>nf z c (.inr (.inl e)),fun e=>(hS z c).lb (e▸d.at'.kds.lb),fun e=>nf z c (.inr (.inr (.inl e)))⟩) (fun z c e n=>⟨fun e'=>(hS z c).pg (e'▸(d.at'.pages e n).kds.p),fun e'=>nf z c (.inr (.inr (.inr ⟨e,n,e'⟩)))⟩) (fun c=>(hS _ c).tb rfl),d.pool.chg hc (by rw [f]; exact pb) (by rw [f]; exact ab)⟩,m⟩
theorem E3.keep (h:E3 F w w' R M) {z:Nat} {o:Obj} (hz:w.heap[z]? = some o) (hf:¬ F z):∃ F',Zg F' w' R M/\(∀ z,F' z->F z\/w.heap.size<=z)/\Xc F w w'/\w'.heap[z]? = some o /\ ¬ F' z:=by
 obtain ⟨F',a,b,c⟩:=h;exact ⟨F',a,b,c,c.heap hz hf,fun h=>(b z h).elim hf (fun h=>by have:=Xg hz; omega)⟩
theorem Xlu (h:off+m<=n):sub (Xy n) off m=List.replicate m 0:=by
 unfold sub Xy;rw [List.drop_replicate,List.take_replicate,Nat.min_eq_left (by omega)]
theorem XlR (v:Vw) (vb:Nat) (A:Ar) (V:ArV) (i m:Nat) (w:World) (hvb:Fg w vb v) (hv:w.heap[v.vb]? = some (.cells (Ly v).toArray 188 (0,0))) (hab:v.ab=A.ab) (hA:X1 w A V) (him:i+m<=V.bs.length) :
 Xf prog 149 #[.int .i64 i,.int .i64 m,.pointer (some ⟨vb,0,none⟩)] w (fun _ w'=>X1 w' A {V.charge A m with bs:=Qs V.bs i (List.replicate m 0)}/\Xc (Zo A) w w'):=by
 refine ζe func149 ntmps149 ϱ (ζl hvb ϱ (ζl hv ϱ ?_));rw [hab];refine ζc ϱ (Xgk A V i m 0 w hA him (by decide)) ?_;rintro _ c ⟨rfl,a,b⟩;exact ζa ϱ (ζr func149 ϱ ⟨a,b⟩)
theorem XlQ (v:Vw) (q:Plc) (at' n:Nat) (A:Ar) (V:ArV) (w:World) (hv:A7 w v) (hq:Zf w q) (hmb:v.mb=A.mb) (hab:v.ab=A.ab) (hck:Qj v.c q at' n=0) (hfew:q.pages.length<=4096)
 (hPv:¬ Zo A v.vb) (hPq:0<q.pages.length->Xj (Zo A) q.pa) (hPc:0<v.c.classes.length->Xj (Zo A) v.p.ca) (hPk:0<v.c.keep.length->Xj (Zo A) v.p.ka) (hA:X1 w A V) (hlen:(V.bs.length:Int)=v.c.size*v.c.pages) :
 Xf prog 87 #[Du v,.agg (Xt q).toArray,.int .i64 at',.int .i64 n] w (fun u w'=>u = .int .i64 0/\X1 w' A (Bi q A V (Zx v.c q at' n) (Xy n) (Zx v.c q at' n).length)/\Xc (Zo A) w w'):=by
 obtain ⟨ps,c⟩:∃ ps,ps=Zx v.c q at' n:=⟨_,rfl⟩;have f:∀ p ∈ ps,∃ i m:Nat,p=((i:Int),(m:Int))/\i+m<=V.bs.length:=fun p g=>by
  obtain ⟨i,m,W,h2⟩:=O8 hv.may hck hfew p (c▸g);exact ⟨i,m,W,by omega⟩
 have H:Zq ps=n:=by rw [c]; exact Nc hv.may
 have K:(Xy n).length=n:=XH;rw [<- c];refine ζe func87 ntmps87 ϱ (ζn ϱ fun vb w1 e1 L M a6=>ζn ϱ fun qb j e2 l E a7 => ?_);replace l:H3 j qb q:=l;have o:=M.trans E;have r:Fg j vb v:=E.heap' L;refine ζl r ϱ (ζl l ϱ ?_);have d:=foot_lt hA;have b:∀ z,Ym A z->Zo A z:=fun z h => .inr h;have a8:=Xg hv.obj;have N:=Xbo v q at' n 149 [.pointer (some ⟨vb,0,none⟩)] A (Bi q A V ps (Xy n))
  (fun k Y x=>(∀ z,Y z↔Zo A z)/\Fg x vb v/\x.heap[v.vb]? = some (.cells (Ly v).toArray 188 (0,0))/\j.heap.size<=x.heap.size)
  (Zo A) j (hv.grow o) (hq.grow o) hmb hck hfew
  (by rintro (h | h); exact hPv h; exact hPv (b _ h))
  (hq.rd.outNew hPq (fun z a=>by rcases a with h | h; exact .inl h; exact .inl (b _ h)))
  (hv.conf.classes.outNew hPc (fun z a=>by rcases a with h | h; exact .inl h; exact .inl (b _ h)))
  (hv.conf.keep.outNew hPk (fun z a=>by rcases a with h | h; exact .inl h; exact .inl (b _ h)))
  (by
   rintro k Y x ⟨e,s,t,B⟩ z a;have:=d z ((e z).1 a);omega)
  (by
   rintro k Y x y S ⟨e,s,t,B⟩ I hS;have no:∀ z,z<j.heap.size -> ¬ Ym A z -> ¬ S z:=fun z a hm h=>(hS z h).elim hm (fun h=>by omega);exact ⟨e,I.heap s (no _ (by omega) (fun h=>by have:=d _ (b _ h); omega)),I.heap t (no _ (by omega) (fun h=>hPv (b _ h))),ZX B I.size⟩)
  (by
   rintro k Y x C O ⟨e,s,t,B⟩;rw [<- c] at C;obtain ⟨i,m,g,P⟩:=f ps[k] (XJ C);have F:(Bm q A (Bi q A V ps (Xy n) k)).bs=(Bi q A V ps (Xy n) k).bs:=Rv _ _ _;have J:(Bi q A V ps (Xy n) k).bs.length=V.bs.length:=Xbs f (by rw [K]; exact H) (by omega);have G:=P0 C;rw [g] at G;simp only [XA] at G;have hR:=XlR v vb A (Bm q A (Bi q A V ps (Xy n) k)) i m x s t hab O (by rw [F,J]; exact P);simp only [<- c];rw [g];refine hR.mono fun _ y ⟨Q,D⟩ => ?_;rw [F] at Q;refine ⟨by rw [P5 C g,Xlu (by omega)]; exact Q,D.mono fun z _ a=>(e z).2 a,Y,⟨e,?_,?_,ZX B D.size⟩,fun z a => .inl a⟩
   ·exact D.heap s (fun h=>by have:=d _ h; omega)
   ·exact D.heap t hPv)
  (hA.grow o) ⟨fun z=>Iff.rfl,r,o.heap' hv.obj,XE _⟩
 rw [<- c] at N;refine ζc ϱ (N) ?_;rintro _ w4 ⟨rfl,R,_,T⟩;refine ζa rfl ?_;have U:Xc (Zo A) w w4:=o.gr.since T (fun z a h=>by rcases h with h | h; exact h; exact b _ h);exact Xa.ret1 Xb rfl func87 rfl rfl ⟨rfl,R,U⟩
structure Sto where
 sb:Nat
 c:Conf
 p:Y4
 kb:Nat
 kc:Nat
 kr:List Value
 mb:Nat
 A:Ar
 R:Rm
 v:Vw
 tm:Nat
 vb:Nat
 vc:Nat
abbrev Zk (S:Sto):Value := .pointer (some ⟨S.sb,0,none⟩)
def Nv (S:Sto) (nk nm:Nat) (by':Int):List Value:=Zl S.c S.p ++ [.slice (some ⟨S.kb,0,none⟩) nk S.kc,.pointer (some ⟨S.mb,0,none⟩),.pointer (some ⟨S.A.ab,0,none⟩),Bw S.R,Du S.v,.map (some S.tm),.slice (some ⟨S.vb,0,none⟩) nm S.vc,.int .i64 by']
def D8 (size:Int) (q:Plc):List Value := .int .i64 size::Xt q
abbrev Mo:=List (Option (Nat × MvM))
def Dk:Option (Nat × MvM)->List Value
 |none => [.pointer none,.int .i64 0,.int .i64 0,.int .i64 0,.int .i64 0,.int .i64 0]
 |some (b,m) => [.pointer (some ⟨b,0,none⟩),.int .i64 m.who,.int .i64 m.pf,.int .i64 m.fa,.int .i64 m.pt,.int .i64 m.ta]
theorem XdF (x:Option (Nat × MvM)):(Dk x).length=6:=by cases x <;> rfl
def Gb (mo:Mo):List (Option MvM):=mo.map fun x=>x.map (·.2)
abbrev Dw (S:Sto) (s:StM):ArV:=⟨s.bs,s.rm.tot,S.R.lap⟩
abbrev D2 (b:Nat) (m:MvM):Mv:=⟨b,m.f,m.t,m.size⟩
def Dg (w:World) (a:Option Addr):Prop := ∀ b off s,a=some ⟨b,off,s⟩->kd w b=some (some 3)
theorem Dg.lt {w:World} (h:Dg w a):Yf w a:=fun b off s e=>Ef (h b off s e)
theorem Dg.chg {S:Nat->Prop} {w w':World} (h:Dg w a) (hc:Xc S w w') (hS:Xj S a):Dg w' a:=fun b off s e=>Fa hc (h b off s e) (hS b off s e)
theorem Dg.grow {w w':World} (h:Dg w a) (hc:Xc Xe w w'):Dg w' a:=h.chg hc (fun _ _ _ _ h=>h)
def N5 (F:Nat->Prop) (w:World) (tm:Nat) (th:List (Option ThM)) (al:AL):Prop:=Yq w tm al/\(A0 al).Nodup /\
 (∀ (o:Nat) t,th[o]? = some (some t) -> ∃ q:Plc,Xx q=t.q/\A8 al o=some (.agg (D8 t.size q).toArray)/\Zf w q/\Xj F q.pa/\Dg w q.pa) /\ ∀ k:Int,(∀ (o:Nat) t,th[o]? = some (some t)->(o:Int)≠k)->A8 al k=none
def Ft (F:Nat->Prop) (w:World) (tm:Nat) (th:List (Option ThM)):Prop := ∃ al,N5 F w tm th al
theorem Ft.far {F S:Nat->Prop} {w w':World} {tm:Nat} {th:List (Option ThM)} (h:Ft F w tm th) (hc:Xc S w w') (hS:∀ z,S z->F z) (hm:¬ S tm):Ft F w' tm th:=by
 obtain ⟨al,a,b,d,e⟩:=h;exact ⟨al,a.chg hc hm,b,fun o t g=>by
  obtain ⟨q,i,j,f,c,k⟩:=d o t g;exact ⟨q,i,j,⟨f.rd.far (c.mono hS) hc,f.len⟩,c,k.chg hc (c.mono hS)⟩,e⟩
theorem Ft.wide {F:Nat->Prop} {w:World} (h:Ft F w tm th) (hF:∀ z,F' z->F z\/w.heap.size<=z):Ft F' w tm th:=by
 obtain ⟨al,a,b,d,e⟩:=h;exact ⟨al,a,b,fun o t f=>by
  obtain ⟨q,g,i,j,k,c⟩:=d o t f;exact ⟨q,g,i,j,fun b off s e l=>(hF b l).elim (k b off s e) (fun h=>by have:=Ef (c b off s e); omega),c⟩,e⟩
structure Xr (F Fr:Nat->Prop) (w:World) (S:Sto) (s:StM) (by':Int) (mo:Mo):Prop where
 obj:w.heap[S.sb]? = some (.cells (Nv S s.keep.length s.mv.length by').toArray 90 (0,0))
 kee:w.heap[S.kb]? = some (.cells (s.keep.map (Value.int .i64)++S.kr).toArray 3 (0,0))
 kcap:s.keep.length<=S.kc
 room:Zg Fr w S.R s.rm
 ar:X1 w S.A (Dw S s)
 vw:A7 w S.v
 th:Ft F w S.tm s.th
 mvs:w.heap[S.vb]? = some (.cells (fl Dk mo).toArray 96 (0,0))
 mvc:s.mv.length<=S.vc
 mom:Gb mo=s.mv
 mob:∀ (k b:Nat) m,mo[k]? = some (some (b,m))->w.heap[b]? = some (.cells (Mx S.A (D2 b m) m.gone).toArray 158 (0,0))/\F b /\ ¬ Fr b
 mdj:∀ (j k b:Nat) m m',mo[j]? = some (some (b,m))->mo[k]? = some (some (b,m'))->j=k
 rc:S.R.c=S.c
 rp:S.R.p=S.p
 rmo:S.R.mo=some S.mb
 rX:S.R.X=fun z=>z=S.kb
 amb:S.A.mb=some S.mb
 vc:S.v.c=S.c
 vp:S.v.p=S.p
 vab:S.v.ab=S.A.ab
 vmb:S.v.mb=some S.mb
 f1:∀ z,Fr z->F z
 f2:F S.sb/\F S.kb/\F S.A.db/\F S.tm/\F S.vb
 nr:¬ Fr S.sb /\ ¬ Fr S.kb /\ ¬ Fr S.A.db /\ ¬ Fr S.tm /\ ¬ Fr S.vb
 nF:¬ F S.A.ab /\ ¬ F S.A.mc /\ ¬ F S.v.vb /\ ¬ F S.R.rb /\ ¬ F S.R.sb /\ ¬ F 0
 ca:Al F w S.p.ca S.c.classes
 ka:Al F w S.p.ka S.c.keep
 low:∀ z,F z->z<w.heap.size
section
variable {F Fr:Nat->Prop} {w w':World} {S:Sto} {s:StM} {by':Int} {mo:Mo}
theorem Xr.lt (h:Xr F Fr w S s by' mo):S.sb<w.heap.size/\S.kb<w.heap.size/\S.A.db<w.heap.size/\S.tm<w.heap.size/\S.vb<w.heap.size :=
 ⟨h.low _ h.f2.1,h.low _ h.f2.2.1,h.low _ h.f2.2.2.1,h.low _ h.f2.2.2.2.1,h.low _ h.f2.2.2.2.2⟩
theorem Ft.kd (h:Ft F w S.tm s.th):kd w S.tm=some none:=by
 obtain ⟨al,a,_⟩:=h;exact Ov a
theorem Xr.mb (h:Xr F Fr w S s by' mo):F S.mb/\Fr S.mb/\Ax w S.mb s.rm.tot S.R.lap:=by
 obtain ⟨a,b⟩:=h.room.met _ h.rmo;exact ⟨h.f1 _ a,a,b⟩
theorem Xr.ext (h:Xr F Fr w S s by' mo) {z:Nat} {x:Option Nat} (hF:F z) (hn:¬ Fr z) (hk:kd w z=some x) (hx:∀ t,x=some t->t≠290/\t≠286/\t≠166/\(t=3->z=S.kb)):Hk Fr w S.R z:=by
 obtain ⟨k,m,n,d,f,i⟩:=h.nF;have b:=Ye h.room.may;have far:∀ {a:Option Addr} {l:List Int},Al F w a l->0<l.length -> ∀ off s,a≠some ⟨z,off,s⟩:=fun g j off s e=>g.2 j z off s e hF;have c:=h.rc;refine ⟨hn,fun e=>d (e▸hF),fun e=>f (e▸hF),fun e=>i (e▸hF),?_,?_,fun e => ?_,fun e => ?_,fun e => ?_⟩
 ·rw [h.rp]; exact far h.ca (by rw [c] at b; have:=b.n; omega)
 ·rw [h.rp]; exact far h.ka (by rw [c] at b; have:=b.keep; have:=b.n; omega)
 ·rw [hk] at e; exact (hx _ (Option.some.inj e)).1 rfl
 ·rw [hk] at e; exact (hx _ (Option.some.inj e)).2.1 rfl
 ·rw [hk] at e;rw [h.rX];exact (hx _ (Option.some.inj e)).2.2.2 rfl
theorem Xr.ext' (h:Xr F Fr w S s by' mo) {z:Nat} (hF:F z) (hn:¬ Fr z) (hk:kd w z=some (some t)) (ht:t≠290/\t≠286/\t≠166/\t≠3):Hk Fr w S.R z :=
 h.ext hF hn hk (fun t' e=>by cases e; exact ⟨ht.1,ht.2.1,ht.2.2.1,fun e=>absurd e ht.2.2.2⟩)
theorem Xr.extMap (h:Xr F Fr w S s by' mo):Hk Fr w S.R S.tm:=h.ext h.f2.2.2.2.1 h.nr.2.2.2.1 h.th.kd (fun t e=>by cases e)
theorem Xr.extKeep (h:Xr F Fr w S s by' mo):Hk Fr w S.R S.kb:=h.ext h.f2.2.1 h.nr.2.1 (Yb h.kee) (fun t e=>by cases e; exact ⟨by decide,by decide,by decide,fun _=>rfl⟩)
theorem Xr.grow (h:Xr F Fr w S s by' mo) (hc:Xc Xe w w'):Xr F Fr w' S s by' mo :=
 {h with
  obj:=hc.heap' h.obj,kee:=hc.heap' h.kee,room:=h.room.grow hc,ar:=h.ar.grow hc,vw:=h.vw.grow hc,th:=h.th.far hc (fun _ h=>h.elim) id,mvs:=hc.heap' h.mvs,
  mob:=fun k b m c=>by obtain ⟨a,d⟩:=h.mob k b m c; exact ⟨hc.heap' a,d⟩,
  ca:=h.ca.chg hc (fun _ h=>h.elim),ka:=h.ka.chg hc (fun _ h=>h.elim),low:=fun z e=>by have:=h.low z e; have:=hc.size; omega}
structure XbE (F:Nat->Prop) (w:World) (S:Sto) (z:Nat):Prop where
 f:¬ F z
 e1:S.A.ab≠z/\S.A.mc≠z/\S.v.vb≠z/\S.R.rb≠z/\S.R.sb≠z/\0≠z
 ca:∀ off s,S.p.ca≠some ⟨z,off,s⟩
 ka:∀ off s,S.p.ka≠some ⟨z,off,s⟩
 kd:∃ t,kd w z=some (some t)/\t≠290/\t≠286/\t≠3
def Xgb (S:Nat->Prop) (w:World) (tm:Nat):Prop := ∀ al,Yq w tm al -> ∀ (k:Int) sz (q:Plc),A8 al k=some (.agg (D8 sz q).toArray)->Xj S q.pa
theorem Xr.other {T:Nat->Prop} (h:Xr F Fr w S s by' mo) (hc:Xc T w w') (hT:∀ z,T z->XbE F w S z) (ho:Xgb T w S.tm):Xr F Fr w' S s by' mo:=by
 have nf:∀ {z:Nat},F z -> ¬ T z:=fun i j=>(hT _ j).f i;have n:∀ z,T z->Hk Fr w S.R z:=fun z c=>by
  have e:=hT z c;obtain ⟨t,v,x,y,A⟩:=e.kd;have d:∀ {t':Nat},t≠t'->Go.Proofs.YtohjeeapehmkcaaGreatDoor.kd w z≠some (some t'):=fun h e=>h (Option.some.inj (Option.some.inj (v.symm.trans e)));exact ⟨fun i=>e.f (h.f1 z i),e.e1.2.2.2.1,e.e1.2.2.2.2.1,e.e1.2.2.2.2.2,by rw [h.rp]; exact e.ca,by rw [h.rp]; exact e.ka,d x,d y,fun e=>absurd e (d A)⟩
 have far:∀ {a:Option Addr} {l:List Int},Al F w a l->(∀ z,T z -> ∀ off s,a≠some ⟨z,off,s⟩)->Al F w' a l:=fun g B=>⟨g.1.far (fun b off s e c=>B b c off s e) hc,g.2⟩;have r:A7 w' S.v:=⟨hc.heap h.vw.obj (fun c=>(hT _ c).e1.2.2.1 rfl),by
  have:=h.vw.conf;rw [h.vc,h.vp] at this ⊢;exact ⟨this.classes.far (fun b off s e c=>(hT b c).ca off s e) hc,this.keep.far (fun b off s e c=>(hT b c).ka off s e) hc,this.lc,this.lk,this.size⟩,h.vw.may⟩
 refine {h with
  obj:=hc.heap h.obj (nf h.f2.1),kee:=hc.heap h.kee (nf h.f2.2.1),room:=h.room.other hc n,
  ar:=h.ar.chg hc (fun b hb c => ?_),vw:=r,th := ?_,mvs:=hc.heap h.mvs (nf h.f2.2.2.2.2),
  mob:=fun k b m C=>by obtain ⟨a,d⟩:=h.mob k b m C; exact ⟨hc.heap a (nf d.1),d⟩,
  ca:=far h.ca (fun z c=>(hT z c).ca),ka:=far h.ka (fun z c=>(hT z c).ka),low:=fun z c=>by have:=h.low z c; have:=hc.size; omega}
 ·rcases hb with rfl | rfl | rfl | hb
  ·exact (hT _ c).e1.1 rfl
  ·exact nf h.f2.2.2.1 c
  ·exact (hT _ c).e1.2.1 rfl
  ·rw [h.amb] at hb; cases hb; exact nf h.mb.1 c
 ·have f:=ho;obtain ⟨al,a,b,d,e⟩:=h.th;exact ⟨al,a.chg hc (nf h.f2.2.2.2.1),b,fun o t j=>by
   obtain ⟨q,D,p,u,E,G⟩:=d o t j;exact ⟨q,D,p,⟨u.rd.far (f al a _ _ _ p) hc,u.len⟩,E,G.chg hc (f al a _ _ _ p)⟩,e⟩
theorem Xr.own (h:Xr F Fr w S s by' mo) (hc:Xc T w w') (hT:∀ z,T z->F z/\Hk Fr w S.R z) :
 Zg Fr w' S.R s.rm/\A7 w' S.v/\(¬ T S.tm->Ft F w' S.tm s.th)/\(¬ T S.A.db->X1 w' S.A (Dw S s))/\Al F w' S.p.ca S.c.classes/\Al F w' S.p.ka S.c.keep/\(∀ z,F z->z<w'.heap.size)/\Ax w' S.mb s.rm.tot S.R.lap:=by
 obtain ⟨d,e,f,k,l,m⟩:=h.nF;have c:¬ T S.mb:=fun a=>(hT _ a).2.f h.mb.2.1;refine ⟨h.room.other hc (fun z a=>(hT z a).2),⟨hc.heap h.vw.obj (fun a=>f (hT _ a).1),?_,h.vw.may⟩,fun g=>h.th.far hc (fun z a=>(hT z a).1) g,fun i=>h.ar.chg hc (fun b hb a => ?_),h.ca.chg hc (fun z a=>(hT z a).1),h.ka.chg hc (fun z a=>(hT z a).1),fun z a=>by have:=h.low z a; have:=hc.size; omega,h.mb.2.2.1 |> fun j=>⟨hc.heap j c,h.mb.2.2.2⟩⟩
 ·have:=h.vw.conf;rw [h.vc,h.vp] at this ⊢;exact ⟨(h.ca.chg hc (fun z a=>(hT z a).1)).1,(h.ka.chg hc (fun z a=>(hT z a).1)).1,this.lc,this.lk,this.size⟩
 ·rcases hb with rfl | rfl | rfl | hb
  ·exact d (hT _ a).1
  ·exact i a
  ·exact e (hT _ a).1
  ·rw [h.amb] at hb; cases hb; exact c a
end
variable {mo:Mo}
theorem Zg.charge2 {F:Nat->Prop} {w w':World} (h:Zg F w R M) (hb:R.mo=some b) {t:Int} (hm:Ax w' b t R.lap) (hc:Xc T w w') (hT:∀ z,T z->z=b\/Hk F w R z):Zg F w' R {M with tot:=t}:=by
 obtain ⟨f,p⟩:=h.met b hb;have kb:=K8 p;have kp:=h.pool.kds;have A:=hc.size;have no:∀ {z:Nat} {x:Option Nat},kd w z=some x->x≠some 154 -> ¬ Hk F w R z -> ¬ T z:=fun i j u hz=>by
  rcases hT _ hz with e | e
  ·subst e; rw [kb] at i; exact j (Option.some.inj i).symm
  ·exact u e
 have mf:∀ {z:Nat} {x:Option Nat},kd w z=some x->x≠some 154->F z -> ¬ T z:=fun i j n=>no i j (fun e=>e.f n);have out:∀ {a:Option Addr} {l:List Int},Al F w a l->(∀ z,Hk F w R z -> ∀ off s,a≠some ⟨z,off,s⟩)->Al F w' a l:=fun {a l} g v=>by
  refine ⟨?_,g.2⟩;by_cases y:0<l.length
  ·exact g.1.far (fun b' off s e hz=>by
    rcases hT _ hz with e' | e'
    ·subst e'; exact g.2 y b' off s e f
    ·exact v b' e' off s e) hc
  ·have:l = []:=ZU (by omega);subst this;exact Rd.nil _ _ _
 have rbn:¬ T R.rb:=fun hz=>(hT _ hz).elim (fun e=>h.rf (e▸f)) (fun e=>e.rb rfl);have sbn:¬ T R.sb:=fun hz=>(hT _ hz).elim (fun e=>h.sf (e▸f)) (fun e=>e.sb rfl);have tbn:¬ T 0:=fun hz=>(hT _ hz).elim (fun e=>h.tf (e▸f)) (fun e=>e.tb rfl);have pb:=mf kp.1 (by decide) (h.pf _ (.inl rfl));have ab:=mf kp.2 (by decide) (h.pf _ (.inr rfl));refine ⟨{h.ok with tot:=by have:=hm.2; show 0<=t/\t<=4611686018427387904; omega},hc.heap h.obj rbn,out h.cls (fun z e=>e.ca),out h.kee (fun z e=>e.ka),h.may,fun b' m => ?_,fun k i=>hc.cell (h.sl k i) sbn,h.pool.chg hc pb ab,h.pf,?_,h.lg.chg hc (fun z hz e=>(hT z e).elim (fun e => .inl (e▸f)) (fun e => .inr (e.int hz))) (mf (G7 h.lg) (by simp) h.lf),h.lf,h.rf,h.sf,fun z hz=>by have:=h.low z hz; omega,h.tab.chg hc tbn,h.tf,fun z hz=>⟨by have:=(h.xl z hz).1; omega,(h.xl z hz).2⟩⟩
 ·rw [hb] at m; cases m; exact ⟨f,hm⟩
 ·obtain ⟨G,a,d⟩:=h.sh;refine ⟨G,fun k x j => ?_,d⟩;obtain ⟨o,c,q⟩:=a k x j;have ap:=c.at'.apart kb (by decide);have nf:∀ z,Hk F w R z -> ¬ Y1 (R.S _) (G _) x.pg z:=fun z hz n=>hz.f (q z n).1;refine ⟨o,⟨c.ok,c.pos,c.of,c.at'.chg hc (fun z hz => ?_) (fun z hz => ?_) tbn,c.pool.chg hc (by rw [o]; exact pb) (by rw [o]; exact ab)⟩,q⟩
  ·rcases hT z hz with e | hz
   ·subst e; exact ap.1
   ·exact ⟨fun e=>nf z hz (.inl e),fun e=>nf z hz (.inr (.inl e)),fun e=>hz.lb (e▸c.at'.kds.lb),fun e=>nf z hz (.inr (.inr (.inl e)))⟩
  ·rcases hT z hz with e | hz
   ·subst e; exact ap.2
   ·exact fun e r=>⟨fun e'=>hz.pg (e'▸(c.at'.pages e r).kds.p),fun e'=>nf z hz (.inr (.inr (.inr ⟨e,r,e'⟩)))⟩
section
variable {F Fr:Nat->Prop} {w w':World} {S:Sto} {s:StM} {by':Int} {mo:Mo}
theorem N5.put {al:AL} (h:N5 F w tm th al) {qm:PlcM} (hq:Xx q=qm) (ho:o<th.length) (hm:Yq w' tm (Ca al (o:Nat) (.agg (D8 size q).toArray))) (hc:Xc (fun z=>z=tm) w w') (ht:F tm) (hp:Zf w q) (hF:Xj F q.pa) (hl:Dg w q.pa):Ft F w' tm (th.set o (some ⟨size,qm⟩)):=by
 obtain ⟨x,l,m,n⟩:=h;have up:∀ {q:Plc},Zf w q->Xj F q.pa->Zf w' q:=fun a b=>⟨a.rd.far (b.mono (S':=fun z=>z=tm) fun z e=>e▸ht) hc,a.len⟩;refine ⟨_,hm,W6 l _ _,fun d g c => ?_,fun k j => ?_⟩
 ·rcases Ak c with ⟨rfl,rfl⟩ | ⟨v,c⟩
  ·exact ⟨q,hq,by rw [Ih,if_pos rfl],up hp hF,hF,hl.chg hc (hF.mono (S':=fun z=>z=tm) fun z e=>e▸ht)⟩
  ·obtain ⟨p,r,s,t,i,u⟩:=m d g c;exact ⟨p,r,by rw [Ih,if_neg (by omega)]; exact s,up t i,i,u.chg hc (i.mono (S':=fun z=>z=tm) fun z e=>e▸ht)⟩
 ·have f:=j o _ (XG ho);rw [Ih,if_neg (fun e=>f e.symm)];refine n k fun d g c => ?_;by_cases e:d=o
  ·subst e; exact f
  ·exact j d g (Dt e c)
theorem N5.del {al:AL} (h:N5 F w tm th al) (hm:Yq w' tm (Cu al (o:Nat))) (hc:Xc (fun z=>z=tm) w w') (ht:F tm):Ft F w' tm (th.set o none):=by
 obtain ⟨s,c,i,j⟩:=h;refine ⟨_,hm,XdJ c _,fun b d a => ?_,fun k l => ?_⟩
 ·rcases Iy a with ⟨_,e,_⟩ | ⟨r,a⟩
  ·cases e
  ·obtain ⟨m,n,p,g,f,q⟩:=i b d a;exact ⟨m,n,by rw [Kq c,if_neg (by omega)]; exact p,⟨g.rd.far (f.mono (S':=fun z=>z=tm) fun z e=>e▸ht) hc,g.len⟩,f,q.chg hc (f.mono (S':=fun z=>z=tm) fun z e=>e▸ht)⟩
 ·rw [Kq c];by_cases e:k=(o:Nat)
  ·rw [if_pos e]
  ·rw [if_neg e];refine j k fun b d a => ?_;by_cases e1:b=o
   ·subst e1; exact fun h=>e h.symm
   ·exact l b d (Dt e1 a)
theorem Xr.kds (h:Xr F Fr w S s by' mo):kd w S.sb=some (some 90)/\kd w S.kb=some (some 3)/\kd w S.A.db=some (some 5)/\kd w S.tm=some none/\kd w S.vb=some (some 96)/\kd w S.mb=some (some 154) :=
 ⟨Yb h.obj,Yb h.kee,Yb h.ar.dat,h.th.kd,Yb h.mvs,Yb h.mb.2.2.1⟩
theorem Xr.objAt (h:Xr F Fr w S s by' mo) (hc:Xc T w w') (hT:∀ (k b:Nat) m,mo[k]? = some (some (b,m)) -> ¬ T b):∀ (k b:Nat) m,mo[k]? = some (some (b,m))->w'.heap[b]? = some (.cells (Mx S.A (D2 b m) m.gone).toArray 158 (0,0))/\F b /\ ¬ Fr b:=fun k b m a=>by
 obtain ⟨x,y⟩:=h.mob k b m a;exact ⟨hc.heap x (hT k b m a),y⟩
theorem Xr.kdm (h:Xr F Fr w S s by' mo) {m:MvM} (hm:mo[k]? = some (some (b,m))):kd w b=some (some 158):=Yb (h.mob k b m hm).1
theorem Xr.setBy (h:Xr F Fr w S s by' mo) {by2:Int} (hc:Xc (fun z=>z=S.sb) w w') (ho:w'.heap[S.sb]? = some (.cells (Nv S s.keep.length s.mv.length by2).toArray 90 (0,0))):Xr F Fr w' S s by2 mo:=by
 obtain ⟨a,c,d,f,g,t⟩:=h.kds;obtain ⟨i,j,l,n,o,p,q,_⟩:=h.own hc (fun z e=>⟨e▸h.f2.1,e▸h.ext' h.f2.1 h.nr.1 a (by decide)⟩);exact {h with obj:=ho,kee:=hc.heap h.kee (Xs c a (by decide)),room:=i,ar:=n (Xs d a (by decide)),vw:=j,th:=l (Xs f a (by simp)),mvs:=hc.heap h.mvs (Xs g a (by decide)),mob:=h.objAt hc (fun k b m r=>Xs (h.kdm r) a (by decide)),ca:=o,ka:=p,low:=q}
theorem Xr.setKeep (h:Xr F Fr w S s by' mo) (hl:l.length=s.keep.length) (hc:Xc (fun z=>z=S.kb) w w') (ho:w'.heap[S.kb]? = some (.cells (l.map (Value.int .i64)++S.kr).toArray 3 (0,0))):Xr F Fr w' S {s with keep:=l} by' mo:=by
 obtain ⟨c,a,d,f,g,u⟩:=h.kds;obtain ⟨i,j,n,o,p,q,r,_⟩:=h.own hc (fun z e=>⟨e▸h.f2.2.1,e▸h.extKeep⟩);exact {h with obj:=by show w'.heap[S.sb]? = some (.cells (Nv S l.length s.mv.length by').toArray _ _); rw [hl]; exact hc.heap h.obj (Xs c a (by decide)),kee:=ho,kcap:=by show l.length<=_; rw [hl]; exact h.kcap,room:=i,ar:=o (Xs d a (by decide)),vw:=j,th:=n (Xs f a (by simp)),mvs:=hc.heap h.mvs (Xs g a (by decide)),mob:=h.objAt hc (fun k b m t=>Xs (h.kdm t) a (by decide)),ca:=p,ka:=q,low:=r}
theorem Xr.setTh (h:Xr F Fr w S s by' mo) {th':List (Option ThM)} (hc:Xc (fun z=>z=S.tm) w w') (ht:Ft F w' S.tm th'):Xr F Fr w' S {s with th:=th'} by' mo:=by
 obtain ⟨c,d,f,a,g,r⟩:=h.kds;obtain ⟨i,j,t,l,n,o,p,_⟩:=h.own hc (fun z e=>⟨e▸h.f2.2.2.2.1,e▸h.extMap⟩);exact {h with obj:=hc.heap h.obj (Xs c a (by simp)),kee:=hc.heap h.kee (Xs d a (by simp)),room:=i,ar:=l (Xs f a (by simp)),vw:=j,th:=ht,mvs:=hc.heap h.mvs (Xs g a (by simp)),mob:=h.objAt hc (fun k b m q=>Xs (h.kdm q) a (by simp)),ca:=n,ka:=o,low:=p}
theorem XdB (mo:Mo) (k:Nat) (x:Option (Nat × MvM)):Gb (mo.set k x)=(Gb mo).set k (x.map (·.2)):=by unfold Gb; rw [ZV]
theorem O1 {mo:Mo} {m:MvM} {x:Option (Nat × MvM)} (h:(mo.set k x)[j]? = some (some (b,m))):(j=k/\x=some (b,m)/\k<mo.length)\/(j≠k/\mo[j]? = some (some (b,m))):=Iy h
theorem Xr.mol (h:Xr F Fr w S s by' mo):mo.length=s.mv.length:=by rw [<- h.mom]; unfold Gb; rw [XM]
theorem Xr.setMv (h:Xr F Fr w S s by' mo) {x:Option (Nat × MvM)} (hc:Xc (fun z=>z=S.vb) w w') (ho:w'.heap[S.vb]? = some (.cells (fl Dk (mo.set k x)).toArray 96 (0,0)))
 (hx:∀ b m,x=some (b,m)->w.heap[b]? = some (.cells (Mx S.A (D2 b m) m.gone).toArray 158 (0,0))/\F b /\ ¬ Fr b /\ ∀ (j:Nat) m',mo[j]?≠some (some (b,m'))) :
 Xr F Fr w' S {s with mv:=s.mv.set k (x.map (·.2))} by' (mo.set k x):=by
 obtain ⟨n,o,p,q,a,E⟩:=h.kds;obtain ⟨r,t,u,v,y,A,B,_⟩:=h.own hc (fun z e=>⟨e▸h.f2.2.2.2.2,e▸h.ext' h.f2.2.2.2.2 h.nr.2.2.2.2 a (by decide)⟩);have g:(s.mv.set k (x.map (·.2))).length=s.mv.length:=XF;refine {h with obj:=by show w'.heap[S.sb]? = some (.cells (Nv S s.keep.length (s.mv.set k (x.map (·.2))).length by').toArray _ _); rw [g]; exact hc.heap h.obj (Xs n a (by decide)),kee:=hc.heap h.kee (Xs o a (by decide)),room:=r,ar:=v (Xs p a (by decide)),vw:=t,th:=u (Xs q a (by simp)),mvs:=ho,mvc:=by show (s.mv.set k _).length<=_; rw [g]; exact h.mvc,mom:=by rw [XdB,h.mom],mob:=fun j b m d => ?_,mdj:=fun i j b m m' C l => ?_,ca:=y,ka:=A,low:=B}
 ·rcases O1 d with ⟨_,e,_⟩ | ⟨_,d⟩
  ·obtain ⟨c,f,D,_⟩:=hx b m e;exact ⟨hc.heap c (Xs (Yb c) a (by decide)),f,D⟩
  ·obtain ⟨c,f⟩:=h.mob j b m d;exact ⟨hc.heap c (Xs (Yb c) a (by decide)),f⟩
 ·rcases O1 C with ⟨e1,e,_⟩ | ⟨_,gi⟩
  ·rcases O1 l with ⟨e2,_,_⟩ | ⟨_,gj⟩
   ·exact e1.trans e2.symm
   ·exact absurd gj ((hx b m e).2.2.2 j m')
  ·rcases O1 l with ⟨_,e,_⟩ | ⟨_,gj⟩
   ·exact absurd gi ((hx b m' e).2.2.2 i m)
   ·exact h.mdj i j b m m' gi gj
theorem Xr.adopt (h:Xr F Fr w S s by' mo) (hc:Xc Xe w w') (hb:w.heap.size<=b) (hb':b<w'.heap.size):Xr (fun z=>F z\/z=b) Fr w' S s by' mo:=by
 have g:=h.grow hc;obtain ⟨i,j,l,n,o,p⟩:=h.nF;have d:∀ z,(F z\/z=b)->F z\/w.heap.size<=z:=fun z a=>a.elim .inl (fun e => .inr (by omega));have c:=h.room;have f:=Ye c.may;have q:=Xg h.ar.obj;have r:=Xg h.ar.cap;have t:=Xg h.vw.obj;have u:=Xg c.obj;have v:S.R.sb<w.heap.size:=by have:=World.block_lt_of_cell? w _ (c.sl 0 (by have:=f.n; have:=c.ok.n; omega)); exact this
 have A:0<w.heap.size:=by have:=World.block_lt_of_cell? w _ (c.tab 0 (by decide)); exact this
 exact {g with
  th:=((h.th.wide d).far hc (fun _ h=>h.elim) id),
  mob:=fun k b' m f=>by obtain ⟨x,y,z⟩:=g.mob k b' m f; exact ⟨x,.inl y,z⟩,
  f1:=fun z a => .inl (h.f1 z a),f2:=⟨.inl h.f2.1,.inl h.f2.2.1,.inl h.f2.2.2.1,.inl h.f2.2.2.2.1,.inl h.f2.2.2.2.2⟩,
  nF:=⟨fun a=>a.elim i (by omega),fun a=>a.elim j (by omega),fun a=>a.elim l (by omega),fun a=>a.elim n (by omega),fun a=>a.elim o (by omega),fun a=>a.elim p (by omega)⟩,
  ca:=(h.ca.grow d).chg hc (fun _ h=>h.elim),ka:=(h.ka.grow d).chg hc (fun _ h=>h.elim),low:=fun z a=>a.elim (g.low z) (by omega)}
theorem Xr.arena (h:Xr F Fr w S s by' mo) {t:Int} {mo2:Mo} (hc:Xc T w w') (hT:∀ z,T z->z=S.A.db\/z=S.mb \/ ∃ (k:Nat),∃ m,mo[k]? = some (some (z,m)))
 (hd:w'.heap[S.A.db]? = some (.cells (bs.map (Value.int .u8)).toArray 5 (0,0))) (hl:bs.length=s.bs.length) (hb:Qd bs) (hm:Ax w' S.mb t S.R.lap)
 (hfl:fl Dk mo2=fl Dk mo) (hml:mo2.length=mo.length) (hmo:∀ (k b:Nat) m,mo2[k]? = some (some (b,m))->w'.heap[b]? = some (.cells (Mx S.A (D2 b m) m.gone).toArray 158 (0,0)) /\ ∃ m0,mo[k]? = some (some (b,m0))) :
 Xr F Fr w' S {s with bs:=bs,rm:={s.rm with tot:=t},mv:=Gb mo2} by' mo2:=by
 obtain ⟨r,u,o,v,y,A⟩:=h.kds;obtain ⟨B,C,D,M,N,O⟩:=h.nF;have c:∀ z,T z->F z:=fun z a=>by
  rcases hT z a with e | e | ⟨k,m,e⟩
  ·exact e▸h.f2.2.2.1
  ·exact e▸h.mb.1
  ·exact (h.mob k z m e).2.1
 have kT:∀ {z:Nat} {x:Option Nat},kd w z=some x->x≠some 5->x≠some 154->x≠some 158 -> ¬ T z:=fun d E G H a=>by
  rcases hT _ a with e | e | ⟨k,m,e⟩
  ·subst e; rw [o] at d; exact E (Option.some.inj d).symm
  ·subst e; rw [A] at d; exact G (Option.some.inj d).symm
  ·have:=h.kdm e; rw [this] at d; exact H (Option.some.inj d).symm
 have p:=h.room.charge2 h.rmo hm hc fun z a=>by
  rcases hT z a with e | e | ⟨k,m,e⟩
  ·exact .inr (e▸h.ext' h.f2.2.2.1 h.nr.2.2.1 o (by decide))
  ·exact .inl e
  ·obtain ⟨_,n,f⟩:=h.mob k z m e;exact .inr (h.ext' n f (h.kdm e) (by decide))
 have g:(Gb mo2).length=s.mv.length:=by unfold Gb; rw [XM,hml,h.mol]
 refine {h with
  obj:=by show w'.heap[S.sb]? = some (.cells (Nv S s.keep.length (Gb mo2).length by').toArray _ _); rw [g]; exact hc.heap h.obj (kT r (by decide) (by decide) (by decide)),
  kee:=hc.heap h.kee (kT u (by decide) (by decide) (by decide)),room:=p,ar := ?_,vw := ?_,th:=h.th.far hc c (kT v (by simp) (by simp) (by simp)),
  mvs:=by rw [hfl]; exact hc.heap h.mvs (kT y (by decide) (by decide) (by decide)),mvc:=by show (Gb mo2).length<=_; rw [g]; exact h.mvc,mom:=rfl,
  mob:=fun k b m q=>by obtain ⟨n,m0,f⟩:=hmo k b m q; exact ⟨n,(h.mob k b m0 f).2⟩,
  mdj:=fun i j b m m' I J=>by obtain ⟨_,m0,f⟩:=hmo i b m I; obtain ⟨_,K,L⟩:=hmo j b m' J; exact h.mdj i j b m0 K f L,
  ca:=h.ca.chg hc c,ka:=h.ka.chg hc c,low:=fun z a=>by have:=h.low z a; have:=hc.size; omega}
 ·refine ⟨?_,hd,hc.heap h.ar.cap (fun a=>C (c _ a)),fun b l => ?_,by show bs.length<=_; rw [hl]; exact h.ar.len,hb⟩
  ·have:=hc.heap h.ar.obj (fun a=>B (c _ a));show w'.heap[S.A.ab]? = some (.cells #[.slice (some ⟨S.A.db,0,none⟩) bs.length bs.length,XfP S.A] _ _)
   rw [hl]; exact this
  ·rw [h.amb] at l; cases l; exact hm
 ·refine ⟨hc.heap h.vw.obj (fun a=>D (c _ a)),?_,h.vw.may⟩;have:=h.vw.conf;rw [h.vc,h.vp] at this ⊢;exact ⟨(h.ca.chg hc c).1,(h.ka.chg hc c).1,this.lc,this.lk,this.size⟩
theorem Xr.arena' (h:Xr F Fr w S s by' mo) {n:Int} (hc:Xc (Zo S.A) w w') (ha:X1 w' S.A ⟨bs,Xw s.rm.tot n,S.R.lap⟩) (hl:bs.length=s.bs.length):Xr F Fr w' S (Qf {s with bs:=bs} n) by' mo:=by
 have:=h.arena (bs:=bs) (t:=Xw s.rm.tot n) (mo2:=mo) hc (fun z c=>c.elim .inl (fun e => .inr (.inl (by rw [h.amb] at e; exact (Option.some.inj e).symm)))) ha.dat hl ha.rng (ha.met _ h.amb) rfl rfl (fun k b m a=>⟨?_,m,a⟩)
 ·rw [h.mom] at this;exact this
 ·have kk:=h.kdm a;obtain ⟨_,_,d,_,_,f⟩:=h.kds;refine hc.heap (h.mob k b m a).1 ?_;rintro (e | e)
  ·exact Xs kk d (by decide) e
  ·rw [h.amb] at e; cases e; exact Xs kk f (by decide) rfl
theorem Xr.roomed {Fr':Nat->Prop} (h:Xr F Fr w S s by' mo) (hr:Zg Fr' w' S.R M) (hf:∀ z,Fr' z->Fr z\/w.heap.size<=z) (hc:Xc Fr w w'):Xr (fun z=>F z\/Fr' z) Fr' w' S {s with rm:=M} by' mo:=by
 obtain ⟨n,o,p,B,C,D⟩:=h.nF;obtain ⟨E,G,H,I,J⟩:=h.lt;obtain ⟨q,r,t,u,v⟩:=h.nr;have f:∀ z,(F z\/Fr' z)->F z\/w.heap.size<=z:=fun z a=>a.elim .inl (fun e=>(hf z e).imp (h.f1 z) id);have c:∀ {z:Nat},¬ Fr z->z<w.heap.size -> ¬ Fr' z:=fun j K a=>(hf _ a).elim j (by omega);have nf:∀ {z:Nat},¬ F z->z<w.heap.size -> ¬ (F z\/Fr' z):=fun j K a=>(f _ a).elim j (by omega);have d:=h.room;have l:=Ye d.may;have L:S.R.sb<w.heap.size:=by have:=World.block_lt_of_cell? w _ (d.sl 0 (by have:=l.n; have:=d.ok.n; omega)); exact this
 have N:0<w.heap.size:=by have:=World.block_lt_of_cell? w _ (d.tab 0 (by decide)); exact this
 have g:=(h.ca.grow f).chg hc (fun z a => .inl (h.f1 z a));have i:=(h.ka.grow f).chg hc (fun z a => .inl (h.f1 z a));exact {h with
  obj:=hc.heap h.obj q,kee:=hc.heap h.kee r,room:=hr,
  ar:=⟨hc.heap h.ar.obj (fun a=>n (h.f1 _ a)),hc.heap h.ar.dat t,hc.heap h.ar.cap (fun a=>o (h.f1 _ a)),fun b A=>by rw [h.amb] at A; cases A; exact (hr.met _ h.rmo).2,h.ar.len,h.ar.rng⟩,
  vw:=⟨hc.heap h.vw.obj (fun a=>p (h.f1 _ a)),by
   have:=h.vw.conf;rw [h.vc,h.vp] at this ⊢;exact ⟨g.1,i.1,this.lc,this.lk,this.size⟩,h.vw.may⟩,
  th:=(h.th.wide f).far hc (fun z a => .inl (h.f1 z a)) u,mvs:=hc.heap h.mvs v,
  mob:=fun k b m l=>by obtain ⟨x,y,z⟩:=h.mob k b m l; exact ⟨hc.heap x z,.inl y,c z (h.low b y)⟩,
  f1:=fun z a => .inr a,f2:=⟨.inl h.f2.1,.inl h.f2.2.1,.inl h.f2.2.2.1,.inl h.f2.2.2.2.1,.inl h.f2.2.2.2.2⟩,
  nr:=⟨c q E,c r G,c t H,c u I,c v J⟩,
  nF:=⟨nf n (Xg h.ar.obj),nf o (Xg h.ar.cap),nf p (Xg h.vw.obj),nf B (Xg d.obj),nf C L,nf D N⟩,ca:=g,ka:=i,
  low:=fun z a=>a.elim (fun a=>by have:=h.low z a; have:=hc.size; omega) (hr.low z)}
end
def Di (F:Nat->Prop) (w w':World) (S:Sto) (s:StM) (by':Int):Prop := ∃ F' Fr' mo',Xr F' Fr' w' S s by' mo'/\(∀ z,F' z->F z\/w.heap.size<=z)/\Xc F w w'
section
variable {F Fr:Nat->Prop} {w w' w'':World} {S:Sto} {s:StM} {by':Int} {mo:Mo}
theorem Di.of (h:Xr F Fr w' S s by' mo) (hc:Xc F w w'):Di F w w' S s by':=⟨F,Fr,mo,h,fun _ h => .inl h,hc⟩
theorem Di.trans {F1:Nat->Prop} (hF:∀ z,F1 z->F z\/w.heap.size<=z) (hc:Xc F w w') (h:Di F1 w' w'' S s by'):Di F w w'' S s by':=by
 obtain ⟨g,d,e,a,b,c⟩:=h;refine ⟨g,d,e,a,fun z f => ?_,hc.since c fun z f i => ?_⟩
 ·rcases b z f with h | h
  ·exact hF z h
  ·have:=hc.size; exact .inr (by omega)
 ·rcases hF z i with h | h
  ·exact h
  ·omega
end
theorem XlA (c:Conf) (q:Plc) (bs:List Int) (at' m k:Nat):Yh c q bs at' (m+k)=Yh c q bs at' m++Yh c q bs (at'+m) k:=by
 unfold Yh;rw [List.range_add,XI,List.map_map]
 congr 1
 apply ZS
 intro i _;simp only [Function.comp];rw [YE]
theorem Xa3 {x:Nat} (h:x+m<=bs.length):sub bs x m=(List.range m).map fun i=>bs.getD (x+i) 0:=by
 apply List.ext_getElem
 ·rw [Fm h]; simp
 ·intro i a b;rw [Fm h] at a;simp only [YF,List.getElem_range];have e:(sub bs x m)[i]? = some (bs.getD (x+i) 0):=by
   unfold sub;rw [YG,if_pos a,List.getElem?_drop,XB (show x+i<bs.length by omega),XC,XB (show x+i<bs.length by omega)];rfl
  exact Option.some.inj ((XB _).symm.trans e)
theorem Xbu (hcl:q.cls = -1) (hsz:c.size=sz) (hi:at' % sz+i<sz):Bj c q (at'+i)=q.pages.getD (at' / sz) 0*c.size+((at' % sz:Nat):Int)+i:=by
 unfold Bj;rw [if_pos hcl,show c.size.toNat=sz from by omega];have a:(at'+i) / sz=at' / sz:=by
  have e:=YM at' sz;apply Nat.div_eq_of_lt_le
  ·rw [YO]; omega
  ·rw [Nat.add_mul,Nat.one_mul,YO]; omega
 have b:(at'+i) % sz=at' % sz+i:=by
  have f:=YM at' sz;have d:=YM (at'+i) sz;rw [a] at d;omega
 rw [a,b];omega
theorem Xi8 (hcl:q.cls = -1) (hsz:c.size=sz) (hp:1<=sz):∀ (n at':Nat),(∀ i,i<n->0<=Bj c q (at'+i)/\Bj c q (at'+i)<bs.length) ->
 Dd bs ((Z1 at' n sz).map fun s=>(q.pages.getD s.1 0*c.size+s.2.1,(s.2.2:Int)))=Yh c q bs at' n:=by
 intro n
 induction n using QA with
 |_ n ih =>
  intro at' b;by_cases o:n=0
  ·subst o; rfl
  ·have d:=I5 (at':=at') hp (show 0<n by omega);have p:=QG at' (show 0<sz by omega);rw [Kg hp (by omega),ZB];obtain ⟨m,e⟩:∃ m,m=min n (sz - at' % sz):=⟨_,rfl⟩;have h:Cw at' n sz=(at' / sz,at' % sz,m):=by unfold Cw; rw [e]
   rw [h,<- e];rw [<- e] at d;have j:=b 0 (by omega);have a:=b (m - 1) (by omega);rw [Xbu hcl hsz (by omega)] at j a;obtain ⟨x,f⟩:=XD (show 0<=q.pages.getD (at' / sz) 0*c.size+((at' % sz:Nat):Int) by omega);rw [f] at a;have g:sub bs x m=Yh c q bs at' m:=by
    rw [Xa3 (by omega)];unfold Yh;apply ZS
    intro i k;rw [List.mem_range] at k;rw [Xbu hcl hsz (by omega),f]
    congr 1
   have l:n=m+(n - m):=by omega
   conv=>rhs; rw [l]
   rw [XlA,<- g,<- (ih (n - m) (by omega) (at'+m) (fun i k=>by rw [YE]; exact b (m+i) (by omega)))];unfold Dd;rw [ZO];simp only
   rw [f];rfl
theorem Xi9 (hm:Zb c=true) (hck:Qj c q at' n=0) (hlen:(bs.length:Int)=c.size*c.pages):Dd bs (Zx c q at' n)=Yh c q bs at' n:=by
 obtain ⟨m,o,p⟩:=Dc hm;obtain ⟨e,_,_,l⟩:=Ru hck;have d:∀ i,i<n->0<=Bj c q (at'+i)/\Bj c q (at'+i)<bs.length:=fun i r=>by
  have:=Xbt (i:=at'+i) hm e (by omega);omega
 unfold Zx;by_cases a:q.cls = -1
 ·rw [if_pos a];obtain ⟨sz,f⟩:=XD (show 0<=c.size by omega);rw [show c.size.toNat=sz from by omega];exact Xi8 a f (by omega) n at' d
 ·rw [if_neg a];unfold Dd;simp only [ZO,List.flatMap_nil,ZT,XA];by_cases h:n=0
  ·subst h; simp [sub,Yh]
  ·have j:=d 0 (by omega);have k:=d (n - 1) (by omega);have b:∀ i,Bj c q (at'+i)=Q5 c q+at'+i:=fun i=>by unfold Bj; rw [if_neg a]; omega
   rw [b] at j k;obtain ⟨x,g⟩:=XD (show 0<=Q5 c q+(at':Int) by omega);rw [g,XA,Xa3 (by omega)];unfold Yh;apply ZS
   intro i _;rw [b,g]
   congr 1
theorem Xk2 (hp:1<=sz):∀ (n at' k:Nat) (h:k<(Z1 at' n sz).length),(Z1 at' n sz)[k].1*sz+(Z1 at' n sz)[k].2.1=at'+(((Z1 at' n sz).take k).map fun s=>s.2.2).sum:=by
 intro n
 induction n using QA with
 |_ n ih =>
  intro at' k h;by_cases b:n=0
  ·subst b; simp [Tp] at h
  ·have c:=I5 (at':=at') hp (show 0<n by omega);have e:=YM at' sz;have a:=Kg (at':=at') hp (show 0<n by omega);cases k with
   |zero =>
    simp only [a,List.getElem_cons_zero,List.take_zero,List.map_nil,List.sum_nil];unfold Cw;simp only
    rw [YO]; omega
   |succ k =>
    have d:k<(Z1 (at'+min n (sz - at' % sz)) (n - min n (sz - at' % sz)) sz).length:=by rw [a] at h; simpa using h
    have:=ih _ (by omega) _ k d;simp only [a,List.getElem_cons_succ,List.take_succ_cons,ZB,YQ];rw [this];unfold Cw;simp only
    omega
theorem XiT (hm:Zb c=true) (hk:k<(Zx c q at' n).length) (hp:(Zx c q at' n)[k]=((i:Int),(m:Int))) :
 ∀ j,j<m->Bj c q (at'+(Zq ((Zx c q at' n).take k)+j))=(i:Int)+j:=by
 obtain ⟨y,z,B⟩:=Dc hm;intro j C;by_cases b:q.cls = -1
 ·obtain ⟨sz,h⟩:=XD (show 0<=c.size by omega);have a:Zx c q at' n=(Z1 at' n sz).map fun s=>(q.pages.getD s.1 0*c.size+s.2.1,(s.2.2:Int)):=by unfold Zx; rw [if_pos b,show c.size.toNat=sz from by omega]
  have g:k<(Z1 at' n sz).length:=by rw [a,XM] at hk; exact hk
  have e:=Xk2 (sz:=sz) (by omega) n at' k g;obtain ⟨l,o,p,x⟩:=XaY (page:=sz) (by omega) n at' _ (XJ g);have r:Zq ((Zx c q at' n).take k)=(((Z1 at' n sz).take k).map fun s=>s.2.2).sum:=by
   unfold Zq;rw [a,<- QF,List.map_map];rfl
  have t:(q.pages.getD (Z1 at' n sz)[k].1 0*c.size+((Z1 at' n sz)[k].2.1:Int),((Z1 at' n sz)[k].2.2:Int))=((i:Int),(m:Int)):=by
   rw [<- hp]; simp only [a,YF]
  obtain ⟨e1,e2⟩:=Prod.mk.inj t;rw [r,<- YE,<- e];obtain ⟨s,u⟩:∃ s,s=(Z1 at' n sz)[k]:=⟨_,rfl⟩;rw [<- u] at e1 e2 l o p ⊢
  clear u e x
  obtain ⟨N,A,L⟩:=s;simp only at e1 e2 l o p ⊢
  have d:(N*sz+A) % sz=A:=by rw [YO,Nat.mul_add_mod]; exact Nat.mod_eq_of_lt (by omega)
  have f:(N*sz+A) / sz=N:=by rw [YO,Nat.mul_add_div (by omega),Nat.div_eq_of_lt (by omega)]; rfl
  rw [Xbu b h (by rw [d]; omega),d,f];omega
 ·have a:Zx c q at' n = [(Q5 c q+at',(n:Int))]:=by unfold Zx; rw [if_neg b]
  have v:k=0:=by rw [a] at hk; simpa using hk
  subst v;have w:(Q5 c q+(at':Int),(n:Int))=((i:Int),(m:Int)):=by rw [<- hp]; simp only [a]; rfl
  obtain ⟨e1,e2⟩:=Prod.mk.inj w;unfold Bj;rw [if_neg b];simp only [List.take_zero,Zq,List.map_nil,List.sum_nil];omega
theorem Xda {c:Conf} {q:Plc} {bs l:List Int} {at' off i m:Nat} (him:i+m<=bs.length) (hol:off+m<=l.length) (hw:∀ j,j<m->Bj c q (at'+(off+j))=(i:Int)+j) :
 ∀ j,j<=m->Ql c q bs at' l (off+j)=Dl (Ql c q bs at' l off) i (sub l off m) j
 |0,_=>by rw [Xag]; rfl
 |j+1,h=>by
  have a:(sub l off m).length=m:=Fm hol;have ih:=Xda him hol hw j (by omega);have b:(sub l off m).getD j 0=l.getD (off+j) 0:=by
   rw [Xa3 hol,XC,XN,List.getElem?_range (by omega)]; rfl
  rw [<- Xaf (by rw [a,Ga]; exact him) (by rw [a]; omega),b,<- ih];show (Ql c q bs at' l (off+j)).set (Bj c q (at'+(off+j))).toNat (l.getD (off+j) 0)=_
  rw [hw j (by omega)];rfl
theorem XfU {c:Conf} {q:Plc} {A:Ar} {V:ArV} {at':Nat} {l:List Int} (hm:Zb c=true) (hck:Qj c q at' l.length=0) (hfew:q.pages.length<=4096) (hlen:(V.bs.length:Int)=c.size*c.pages) :
 ∀ k,k<=(Zx c q at' l.length).length->(Bi q A V (Zx c q at' l.length) l k).bs=Ql c q V.bs at' l (Zq ((Zx c q at' l.length).take k))
 |0,_=>rfl
 |k+1,h=>by
  have a:k<(Zx c q at' l.length).length:=h;obtain ⟨i,m,b,n⟩:=O8 hm hck hfew _ (XJ a);have ih:=XfU (A:=A) hm hck hfew hlen k (by omega);have j:Zq (Zx c q at' l.length)=l.length:=Nc hm;have d:=P0 a;rw [b] at d;simp only [XA] at d;have f:Zq ((Zx c q at' l.length).take (k+1))=Zq ((Zx c q at' l.length).take k)+m:=by
   rw [ZC,XB a,b,T3]; simp [Zq]
  have g:i+m<=V.bs.length:=by omega
  have e:Zq ((Zx c q at' l.length).take k)+m<=l.length:=by omega
  rw [P5 a b,f,Xda g e (XiT hm a b) m (XE _)];show Qs _ i (sub l _ m)=_
  rw [ih];have:=XdY (bs:=Ql c q V.bs at' l (Zq ((Zx c q at' l.length).take k))) (l:=sub l (Zq ((Zx c q at' l.length).take k)) m) (i:=i);rw [Fm e] at this;exact this.symm
theorem XfV (hm:Zb c=true) (hck:Qj c q at' l.length=0) (hfew:q.pages.length<=4096) (hlen:(V.bs.length:Int)=c.size*c.pages) :
 (Bi q A V (Zx c q at' l.length) l (Zx c q at' l.length).length).bs=Ql c q V.bs at' l l.length:=by
 rw [XfU hm hck hfew hlen _ (XE _),ZI,Nc hm]
theorem Ba {t m:Int} (h:0<=t/\0<=m/\t+m<=4611686018427387904):Xw t m=t+m:=by unfold Xw; split <;> omega
def Ed (q:Plc) (k:Nat):Int:=if q.cls = -1 then (k:Int) else 0
theorem Xai (hm:Zb c=true):((Zq (Zx c q at' n):Nat):Int)+Ed q (Zx c q at' n).length=X8 c q at' n:=by
 rw [Nc hm];unfold Ed X8 Zx;by_cases a:q.cls = -1
 ·rw [if_pos a,if_pos a,if_pos a,XM]
 ·rw [if_neg a,if_neg a]
theorem Rt {t a b:Int} (h:0<=t/\t<=4611686018427387904) (ha:0<=a) (hb:0<=b):Xw (Xw t a) b=Xw t (a+b):=by
 unfold Xw;split <;> split <;> split <;> omega
theorem Md (t:Int):Xw t 0=t:=by unfold Xw; rw [if_pos (by omega)]
theorem Ob {n:Int} (hb:A.mb=some b):(V.charge A n).total=Xw V.total n:=by unfold ArV.charge; rw [hb]
theorem Xcg (hb:A.mb=some b):(Bm q A V).total=Xw V.total (Ed q 1):=by
 unfold Bm Ed;split
 ·exact Ob hb
 ·rw [Md]
theorem Xch:(Bm q A V).lap=V.lap:=by unfold Bm; split; exact V.charge_lap A _; rfl
theorem XbX (q:Plc) (k:Nat):Ed q (k+1)=Ed q k+Ed q 1/\0<=Ed q k/\0<=Ed q 1:=by unfold Ed; split <;> omega
theorem XfJ {ps:List (Int × Int)} (hk:k<ps.length) (hp:ps[k]=((i:Int),(m:Int))):Zq (ps.take (k+1))=Zq (ps.take k)+m:=by
 rw [ZC,XB hk,hp,T3]; simp [Zq]
theorem XfQ {q:Plc} {A:Ar} {V:ArV} {ps:List (Int × Int)} {b:Nat} (hb:A.mb=some b) (hps:∀ p ∈ ps,∃ i m:Nat,p=((i:Int),(m:Int))) (hV:0<=V.total/\V.total<=4611686018427387904) :
 ∀ k,k<=ps.length->(Hi q A V ps k).total=Xw V.total (Zq (ps.take k)+Ed q k)/\(Hi q A V ps k).lap=V.lap
 |0,_=>by
  have e:((Zq (ps.take 0):Nat):Int)+Ed q 0=0:=by unfold Ed; simp [Zq]
  rw [e,Md];exact ⟨rfl,rfl⟩
 |k+1,h=>by
  have a:k<ps.length:=h;obtain ⟨i,m,c⟩:=hps _ (XJ a);obtain ⟨d,f⟩:=XfQ (q:=q) hb hps hV k (by omega);obtain ⟨g,l,j⟩:=XbX q k;rw [XfR a,c];simp only
  rw [ArV.charge_lap,Xch,Ob hb,Xcg hb,d,Rt hV (by omega) j,Rt hV (by omega) (by omega),XfJ a c,g];exact ⟨by congr 1; omega,f⟩
theorem Xbr {q:Plc} {A:Ar} {V:ArV} {ps:List (Int × Int)} {l:List Int} {b:Nat} (hb:A.mb=some b) (hps:∀ p ∈ ps,∃ i m:Nat,p=((i:Int),(m:Int))) (hV:0<=V.total/\V.total<=4611686018427387904) :
 ∀ k,k<=ps.length->(Bi q A V ps l k).total=Xw V.total (Zq (ps.take k)+Ed q k)/\(Bi q A V ps l k).lap=V.lap
 |0,_=>by
  have e:((Zq (ps.take 0):Nat):Int)+Ed q 0=0:=by unfold Ed; simp [Zq]
  rw [e,Md];exact ⟨rfl,rfl⟩
 |k+1,h=>by
  have a:k<ps.length:=h;obtain ⟨i,m,c⟩:=hps _ (XJ a);obtain ⟨d,f⟩:=Xbr (q:=q) (l:=l) hb hps hV k (by omega);obtain ⟨g,n,j⟩:=XbX q k;rw [P5 a c];show ((Bm q A (Bi q A V ps l k)).charge A m).total=_/\((Bm q A (Bi q A V ps l k)).charge A m).lap=_
  rw [ArV.charge_lap,Xch,Ob hb,Xcg hb,d,Rt hV (by omega) j,Rt hV (by omega) (by omega),XfJ a c,g];exact ⟨by congr 1; omega,f⟩
theorem ArV.eq {t l:Int} (h1:V.bs=bs) (h2:V.total=t) (h3:V.lap=l):V=⟨bs,t,l⟩:=by cases V; cases h1; cases h2; cases h3; rfl
theorem Fw {c:Conf} {i n:Int} (hv:Ya c q=true) (hi:0<=i) (hn:0<=n) (h:i+n<=Zt c q):Qj c q i n=0:=by
 unfold Qj;rw [if_neg (by rw [hv]; decide),if_neg (by omega)]
section
variable {F Fr:Nat->Prop} {w w':World} {S:Sto} {s:StM} {by':Int} {mo:Mo} {pd:Option (Nat × PlcM)}
theorem Xr.footF (h:Xr F Fr w S s by' mo):∀ z,Zo S.A z->F z:=fun z a=>by
 rcases a with e | e
 ·exact e▸h.f2.2.2.1
 ·rw [h.amb] at e; cases e; exact h.mb.1
theorem Xr.tot (h:Xr F Fr w S s by' mo):0<=s.rm.tot/\s.rm.tot<=4611686018427387904:=h.room.ok.tot
theorem Xr.vwf (h:Xr F Fr w S s by' mo):¬ Zo S.A S.v.vb/\(0<S.v.c.classes.length->Xj (Zo S.A) S.v.p.ca)/\(0<S.v.c.keep.length->Xj (Zo S.A) S.v.p.ka):=by
 refine ⟨fun b=>h.nF.2.2.1 (h.footF _ b),fun a => ?_,fun a => ?_⟩
 ·rw [h.vc] at a; rw [h.vp]; exact (h.ca.2 a).mono h.footF
 ·rw [h.vc] at a; rw [h.vp]; exact (h.ka.2 a).mono h.footF
theorem Xaj {c:Conf} (hm:Zb c=true) (hck:Qj c q i n=0) (hfew:q.pages.length<=4096):∀ p ∈ Zx c q i n,∃ a b:Nat,p=((a:Int),(b:Int)):=fun p d=>by
 obtain ⟨a,b,e,_⟩:=O8 hm hck hfew p d;exact ⟨a,b,e⟩
theorem Xfj (h:Xr F Fr w S s by' mo) (hm:Zb S.c=true) (hbl:(s.bs.length:Int)=S.c.size*S.c.pages) (q:Plc) (i:Nat) (a:Option Addr) (cap:Nat) (l:List Int) (hq:Zf w q) (hF:Xj F q.pa) (hck:Qj S.c q i l.length=0) (hfew:q.pages.length<=4096) (hr:Rd .u8 w a l) (hlc:l.length<=cap) (hin:Qd l) (hout:0<l.length->Xj F a) :
 Xf prog 76 #[Du S.v,.agg (Xt q).toArray,.int .i64 i,.slice a l.length cap] w (fun u w'=>u = .int .i64 0/\Xr F Fr w' S (Z4 S.c s (Xx q) i l) by' mo/\Xc F w w'):=by
 obtain ⟨f,g,j⟩:=h.vwf;have ec:=h.vc;refine (XlO S.v q i a cap l S.A (Dw S s) w h.vw hq (h.vmb.trans h.amb.symm) h.vab (by rw [ec]; exact hck) hfew f (fun _=>hF.mono h.footF) g j h.ar (by rw [ec]; exact hbl) hr hlc hin (fun k=>(hout k).mono h.footF)).mono fun u w' ⟨e,b,c⟩=>⟨e,?_,c.mono fun z _ m=>h.footF z m⟩;rw [ec] at b;obtain ⟨d,o⟩:=Xbr (q:=q) (V:=Dw S s) (l:=l) h.amb (Xaj hm hck hfew) h.tot _ (XE _);rw [ZI,Xai hm] at d;rw [(ArV.eq (XfV (A:=S.A) (V:=Dw S s) hm hck hfew hbl) d o),I9,Gx] at b;exact h.arena' (bs:=Ql S.c (Xx q).plc s.bs i l l.length) (n:=X8 S.c (Xx q).plc i l.length) c b (Ga _ _ _ _ _ _)
theorem C8 (n:Nat):(Xy n).length=n:=by unfold Xy; rw [XH]
theorem Tt (h:Xr F Fr w S s by' mo) (hm:Zb S.c=true) (hbl:(s.bs.length:Int)=S.c.size*S.c.pages) (q:Plc) (i n:Nat) (hq:Zf w q) (hF:Xj F q.pa) (hck:Qj S.c q i n=0) (hfew:q.pages.length<=4096) :
 Xf prog 87 #[Du S.v,.agg (Xt q).toArray,.int .i64 i,.int .i64 n] w (fun u w'=>u = .int .i64 0/\Xr F Fr w' S (Z4 S.c s (Xx q) i (Xy n)) by' mo/\Xc F w w'):=by
 obtain ⟨g,j,k⟩:=h.vwf;have ec:=h.vc;have a:=C8 n;refine (XlQ S.v q i n S.A (Dw S s) w h.vw hq (h.vmb.trans h.amb.symm) h.vab (by rw [ec]; exact hck) hfew g (fun _=>hF.mono h.footF) j k h.ar (by rw [ec]; exact hbl)).mono fun u w' ⟨e,b,c⟩=>⟨e,?_,c.mono fun z _ a=>h.footF z a⟩;rw [ec] at b;obtain ⟨d,m⟩:=Xbr (q:=q) (V:=Dw S s) (l:=Xy n) h.amb (Xaj hm hck hfew) h.tot _ (XE _);rw [ZI,Xai hm] at d;have f:=XfV (A:=S.A) (V:=Dw S s) (l:=Xy n) (q:=q) (at':=i) hm (by rw [a]; exact hck) hfew hbl;rw [a] at f;rw [(ArV.eq f d m),I9,Gx] at b;have:=h.arena' (bs:=Ql S.c (Xx q).plc s.bs i (Xy n) n) (n:=X8 S.c (Xx q).plc i n) c b (Ga _ _ _ _ _ _);unfold Z4;rw [a];exact this
theorem Xfi (h:Xr F Fr w S s by' mo) (hm:Zb S.c=true) (hbl:(s.bs.length:Int)=S.c.size*S.c.pages) (q:Plc) (i n:Nat) (hq:Zf w q) (hF:Xj F q.pa) (hck:Qj S.c q i n=0) (hfew:q.pages.length<=4096) :
 Xf prog 80 #[Du S.v,.agg (Xt q).toArray,.int .i64 i,.int .i64 n] w (fun u w' => ∃ u1,u = .tuple #[u1,.int .i64 0]/\Xr F Fr w' S (Qf s (X8 S.c (Xx q).plc i n)) by' mo/\Xc (Zo S.A) w w' /\
  Xl w.heap.size 5 1 w' u1 n ((Yh S.c (Xx q).plc s.bs i n).map (Value.int .u8))):=by
 obtain ⟨j,k,l⟩:=h.vwf;have ec:=h.vc;have mF:∀ z,Ym S.A z->Zo S.A z:=fun z a => .inr a;refine (XlM S.v q i n S.A (Dw S s) w h.vw hq (h.vmb.trans h.amb.symm) h.vab (by rw [ec]; exact hck) hfew (fun a=>j (mF _ a)) (fun _=>(hF.mono h.footF).mono mF) (fun b=>(k b).mono mF) (fun b=>(l b).mono mF) h.ar (by rw [ec]; exact hbl)).mono fun u w' ⟨u1,e,c,f,d⟩=>⟨u1,e,?_,f.mono fun z _ a=>mF z a,?_⟩
 ·rw [ec] at c;obtain ⟨g,m⟩:=XfQ (q:=q) (V:=Dw S s) h.amb (Xaj hm hck hfew) h.tot _ (XE _);rw [ZI,Xai hm] at g;rw [(ArV.eq (Xbq q S.A (Dw S s) (Zx S.c q i n) _) g m),Gx] at c;exact h.arena' (bs:=s.bs) (n:=X8 S.c (Xx q).plc i n) (f.mono fun z _ a=>mF z a) c rfl
 ·rw [ec,Xi9 hm hck hbl] at d;have e:(Yh S.c q s.bs i n).length=n:=by unfold Yh; rw [XM,YC]
  rw [e,Xbi] at d;exact d
end
theorem Xid {n q:Int} (hn:1<=n) (hq:1<=q):n<=Qh n q*q:=by
 have a:=Int.emod_add_mul_ediv (n - 1) q;have:=Int.emod_lt_of_pos (n - 1) (show 0<q by omega);have e:Qh n q=(n - 1) / q+1:=by unfold Qh; rw [if_neg (by omega)]
 rw [e,YW,YX,ZY ((n - 1) / q) q];omega
section
variable {c:Conf} {s:StM} {pd:Option (Nat × PlcM)}
theorem V6:∀ {l:List (Nat × List Nat)} {e:Nat × List Nat},e ∈ l->e.2.length+1<=Dj l
 |a::l,e,h=>by
  have b:Dj (a::l)=(a.2.length+1)+Dj l:=by unfold Dj; simp
  rcases List.mem_cons.1 h with rfl | h
  ·omega
  ·have:=V6 h; omega
theorem Xh5 (h:s.OkP c pd) {r:List Nat} (hm:(n,r) ∈ s.rm.lg):(∀ m ∈ r,(m:Int)<c.pages)/\r.length<=1024:=by
 have f:=h.rm.ok.own;have a:=h.rm.mok.good;refine ⟨fun m b => ?_,?_⟩
 ·have:=(h.rm.ok.lg m (Hw hm (YB _ b))).1;omega
 ·have d:=V6 hm;have e:=h.rm.ok.sum;have g:=a.many;have i:=a.len;unfold Zh at e;simp only at d
  omega
theorem XhR (h:s.OkP c pd) {r:List Nat} (hm:(n,r) ∈ s.rm.lg) (hs:1<=size) (hr:(r.length+1:Int)=Z5 size c.size):Ya c (PlcM.mk (-1) (n:Nat) 0 (X3 r)).plc=true/\size<=Zt c (PlcM.mk (-1) (n:Nat) 0 (X3 r)).plc/\(X3 r).length<=4096:=by
 obtain ⟨g,l⟩:=Xh5 h hm;have i:1<=c.size:=by have:=(Dc h.may).1; omega
 have a:=Xid hs i;have k:1<=Qh size c.size:=by
  have o:0<=(size - 1) / c.size:=YD (by omega) (by omega);unfold Qh;rw [if_neg (by omega)];omega
 have e:(r.length:Int)=Qh size c.size:=by
  unfold Z5 at hr;split at hr <;> omega
 have j:=C1 r;have b:Ya c (PlcM.mk (-1) (n:Nat) 0 (X3 r)).plc=true:=by
  unfold Ya PlcM.plc;show (if (-1:Int) = -1 then (decide (0<(X3 r).length) && !(X3 r).any fun n => !Bc n c.pages) else _)=true
  rw [if_pos rfl,XK];refine ⟨decide_eq_true (by omega),?_⟩;rw [Bool.not_eq_true',List.any_eq_false];intro x d;unfold X3 at d;obtain ⟨m,f,rfl⟩:=List.mem_map.1 d;have:=g m f;rw [K6.2 (by omega)]
  decide
 refine ⟨b,?_,by omega⟩;unfold Zt;rw [if_pos b];show size<=if (-1:Int) = -1 then ((X3 r).length:Int)*c.size else _
 rw [if_pos rfl,j,e];exact a
theorem XkZ (h:s.OkP c pd) {k n a:Int} (ho:X9 s.rm k n a ≠ -1):Ya c (PlcM.mk k n a []).plc=true/\Zt c (PlcM.mk k n a []).plc=Z3 c k:=by
 obtain ⟨b,d,_⟩:=Na h ho;refine ⟨b,?_⟩;unfold Zt;rw [if_pos (show Ya c (PlcM.mk k n a []).plc=true from b)];show (if k = -1 then _ else Z3 c k)=_
 rw [if_neg (by omega)]
theorem XiV (hp:Xm c.classes size=(k:Nat)):size<=Z3 c k:=by
 unfold Z3;rw [XA];exact Xd2 hp
theorem H1 (h:s.OkP c pd) {t:ThM} (ht:s.th[o]? = some (some t)):Ya c t.q.plc=true/\t.size<=Zt c t.q.plc/\t.q.pages.length<=4096:=by
 by_cases d:Xm c.classes t.size = -1
 ·obtain ⟨n,r,f,b,g⟩:=h.large o t ht d;rw [b];exact XhR h f (h.size o t ht).1 g
 ·obtain ⟨f,b,g⟩:=h.small o t ht d;obtain ⟨m,p⟩:=Sx d;obtain ⟨k,i⟩:=XD m;obtain ⟨j,l⟩:=XkZ h (k:=t.q.cls) (n:=t.q.page) (a:=t.q.idx) (by rw [g]; omega);have e:t.q=⟨t.q.cls,t.q.page,t.q.idx,[]⟩:=by
   obtain ⟨sz,q,u,v,w⟩:=t;simp only at b
   rw [b]
  rw [<- e] at j l;refine ⟨j,?_,by rw [b]; simp⟩;rw [l,f,i];exact XiV i
end
end Go.Proofs.YtohjeeapehmkcaaGreatDoor
