/-
  Texts put together: Stm, Mz, StOk2, StOk3, Room7, View9, Sto0, Sto1, Plain21, Plain21b, Plain21c, Sto2.
-/
import Derived.Test.YtohjeeapehmkcaaGreatDoorPt6
set_option linter.unusedVariables false
set_option maxRecDepth 100000
namespace Go.Proofs.YtohjeeapehmkcaaGreatDoor
open Go.RowKit
open Bool renaming and_eq_true->XJ,true_and->YI
open Int renaming toNat_natCast->XA,eq_ofNat_of_zero_le->XD,mul_le_mul_of_nonneg_right->ZA,le_refl->ZO,ediv_nonneg->ZX,mul_comm->YG,add_mul->YU,toNat_of_nonneg->Y2,one_mul->QC
open List renaming getElem?_eq_getElem->XB,getD_eq_getElem?_getD->XC,getElem?_set_self->XF,length_set->XG,length_replicate->XH,map_append->XI,getElem_mem->XK,length_map->XN,mem_of_getElem?->XP,getElem?_set_ne->XQ,getElem?_map->XR,mem_of_mem_take->XT,length_take->XU,getElem?_eq_none->XV,map_cons->ZB,take_add_one->ZC,mem_of_mem_drop->ZD,mem_cons_of_mem->ZF,mem_cons_self->ZI,take_length->ZL,mem_or_eq_of_mem_set->ZM,flatMap_cons->ZQ,map_congr_left->YA,append_nil->YB,eq_nil_of_length_eq_zero->YC,map_set->YD,sum_cons->YH,length_range->YK,getElem_map->YM,getElem?_take->YN,mem_replicate->YR,range_succ->YX,any_eq_false->YZ,mem_append_left->QG,length_tail->QJ,map_take->QL,map_nil->QQ
open Nat renaming le_refl->XE,le_trans->ZV,mul_comm->YF,add_assoc->YL,add_mul->YT,div_add_mod->YV,strongRecOn->QE,one_mul->QI,mod_lt->QM
open Go.Proofs.Tryz (func149 func87 ntmps149 ntmps87 prog)
variable {A:Ar}{V:ArV}{c:Conf}{l':IL}{ahead by' size u who z:Int}{lg:List (Nat×List Nat)}{ps:List IL}{bs l p zs:List Int}{l2 ws:List Nat}{cs rest xs:List Value}{N at' b base cap fuel g i j k len lm lo n n0 o off sz t tm vb xb y:Nat}{e:Nat×List Int}{fz:Nat×Nat}{f:Nat->Int}{G:Nat->Pg}{B C F F' Fr S S' T:Nat->Prop}{pd pd2:Option (Nat×PlcM)}{a:Option Addr}{pg:PgL}{P:Pl}{pl':PlM}{q:Plc}{R:Rm}{M:RmM}{x x':Sm}{α:Type}{v:Value}{w w' w0 w1 w2:World}
structure ThM where
 size:Int
 q:PlcM
structure MvM where
 who:Int
 pf:Int
 fa:Int
 pt:Int
 ta:Int
 f:Nat
 t:Nat
 size:Nat
 gone:Nat
structure StM where
 keep:List Int
 bs:List Int
 rm:RmM
 th:List (Option ThM)
 mv:List (Option MvM)
def PlcM.plc(q:PlcM):Plc:=⟨q.cls,q.page,q.idx,none,0,q.pages⟩
theorem O0(c:Conf)(q:Plc):Yi c q=Yi c (Xy q).plc:=by cases q;rfl
theorem Oz(c:Conf)(q:Plc):Zy c q=Zy c (Xy q).plc:=by cases q;rfl
theorem W8(c:Conf)(q:Plc)(i n:Int):Qu c q i n=Qu c (Xy q).plc i n:=by cases q;rfl
theorem Xni(c:Conf)(q:Plc)(i:Nat):Bv c q i=Bv c (Xy q).plc i:=by cases q;rfl
theorem Xcd(c:Conf)(q:Plc)(bs:List Int)(i n:Nat):Yr c q bs i n=Yr c (Xy q).plc bs i n:=by cases q;rfl
theorem Jx(c:Conf)(q:Plc)(bs:List Int)(i:Nat)(l:List Int):∀k,Qw c q bs i l k=Qw c (Xy q).plc bs i l k
 |0=>rfl
 |k+1=>by unfold Qw;rw[Jx c q bs i l k,Xni]
theorem Hf(c:Conf)(q:Plc)(i n:Nat):X5 c q i n=X5 c (Xy q).plc i n:=by cases q;rfl
def Xt(s:StM)(k:Int):Option MvM:=if 0<=k then s.mv.getD k.toNat none else none
def Bt(s:StM)(o:Int):Option ThM:=if 0<=o then s.th.getD o.toNat none else none
def E6(opn keep:Int):Bool:=decide (keep<opn) && decide (keep+1<opn)
def Gj(c:Conf)(k page idx:Int):Int:=Ag c ⟨k,page,idx,none,0,[]⟩
def Y1(s:StM)(n:Int):StM:={s with rm:={s.rm with tot:=Xx s.rm.tot n}}
def I9(c:Conf)(M:RmM)(k:Nat):MvM:=⟨Zh M k (Ye M k).1 (Ye M k).2.1,(Ye M k).1,(Ye M k).2.1,(Ye M k).2.2.1,(Ye M k).2.2.2,(Gj c k (Ye M k).1 (Ye M k).2.1).toNat,(Gj c k (Ye M k).2.2.1 (Ye M k).2.2.2).toNat,(Yb c k).toNat,0⟩
def Aw(s:StM)(k:Nat):Bool:=(Xt s k).isNone && E6 (Zf s.rm k:Nat) (s.keep.getD k 0) && Gz s.rm k
def Yc(c:Conf)(s:StM)(k:Nat):StM:=if Aw s k=true then {s with rm:=Z9 s.rm k (Zh s.rm k (Ye s.rm k).1 (Ye s.rm k).2.1),mv:=s.mv.set k (some (I9 c s.rm k))} else s
def Z1(m:MvM)(n:Int):Nat:=Du n (m.size-m.gone)
def Qy(s:StM)(o:Int):Int:=match Bt s o with|some t=>t.size|none=>0
def Q7(s:StM)(m:MvM)(n:Int):StM:=Y1 {s with bs:=Ir s.bs m.f m.t m.gone (Z1 m n)} (Z1 m n)
def Yo(s:StM)(k:Nat)(n:Int):StM:=match Xt s k with
 |none=>s
 |some m=>if m.gone+Z1 m n<m.size then {Q7 s m n with mv:=s.mv.set k (some {m with gone:=m.gone+Z1 m n})}
  else {Q7 s m n with mv:=s.mv.set k none,th:=s.th.set m.who.toNat (some ⟨Qy s m.who,⟨k,m.pt,m.ta,[]⟩⟩),rm:=Qb (Q7 s m n).rm k m.pf m.fa}
def X7(s:StM)(k:Int):StM:=match Xt s k with|none=>s|some m=>Yo s k.toNat m.size
def Ce(c:Conf)(s:StM)(size:Int):Option MvM:=match Xt s (Xk c.classes size) with
 |some m=>if Zf s.rm (Xk c.classes size)=0 then some m else none
 |none=>none
def Zb(c:Conf)(s:StM)(who size:Int):PlcM:=match Ce c s size with
 |some m=>⟨Xk c.classes size,m.pt,m.ta,[]⟩
 |none=>A2 c s.rm who size
def X9(c:Conf)(s:StM)(who size:Int):StM:=match Ce c s size with
 |some m=>Y1 {s with mv:=s.mv.set (Xk c.classes size).toNat none,rm:=Qe s.rm (Xk c.classes size) m.pt m.ta who} 3
 |none=>{s with rm:=Ab c s.rm who size}
def Zw(c:Conf)(s:StM)(q:PlcM)(at':Nat)(l:List Int):StM:=Y1 {s with bs:=Qw c q.plc s.bs at' l l.length} (X5 c q.plc at' l.length)
def Yv(c:Conf)(s:StM)(who size:Int):StM:=
 {Zw c (X9 c s who size) (Zb c s who size) 0 (Xz (Zy c (Zb c s who size).plc).toNat) with th:=s.th.set who.toNat (some ⟨size,Zb c s who size⟩)}
def Au(c:Conf)(s:StM)(q:PlcM):StM:=
 if q.cls<0 then {s with rm:=Ym s.rm q} else
  Yo (Yc c {s with rm:=Ym s.rm q} q.cls.toNat) q.cls.toNat c.step
def Yl(s:StM)(o:Int):Int:=if o<0\/(s.th.length:Int)<=o then 1 else match Bt s o with|none=>9|some _=>0
def Qg(c:Conf)(s:StM)(size:Int):Int:=if size<1\/c.most<size then 3 else if (Xt s (Xk c.classes size)).isSome then 0 else Qd c s.rm size
def Bh(c:Conf)(s:StM)(o size:Int):Int:=if Yl s o=1 then 1 else if Yl s o=0 then 10 else Qg c s size
def Q8(c:Conf)(s:StM)(o size:Int):StM:=if Bh c s o size=0 then Yv c s o size else s
def Yz(s:StM)(o:Int):PlcM:=match Bt s o with|some t=>t.q|none=>⟨0,0,0,[]⟩
def Bq(c:Conf)(s:StM)(o:Int):StM:=if Yl s o≠0 then s else
 Au c {X7 s (Yz s o).cls with th:=(X7 s (Yz s o).cls).th.set o.toNat none} (Yz (X7 s (Yz s o).cls) o)
def Af(c:Conf)(old size:Int):Bool:=decide (Xk c.classes old=Xk c.classes size) && (decide (Xk c.classes old≠-1)||decide (Z2 old c.size=Z2 size c.size))
def Qt(s:StM)(o:Int)(at' n:Nat):StM:=match Xt s (Yz s o).cls with
 |some m=>if m.who=o then Y1 {s with bs:=D7 s.bs m.f m.t m.gone at' n} (Q2 at' n m.gone) else s
 |none=>s
def B2(c:Conf)(s:StM)(o size:Int):Int:=if Yl s o≠0 then Yl s o else if size<1\/c.most<size then 3 else if Af c (Qy s o) size=true then 0 else Qg c s size
def C3(s:StM)(o:Int)(t:ThM):StM:={s with th:=s.th.set o.toNat (some t)}
def G5(c:Conf)(s:StM)(o size:Int):StM:=
 let s1:=X7 s (Yz s o).cls
 let m:=(min (Qy s o) size).toNat
 let s2:=Yv c (Y1 s1 (X5 c (Yz s1 o).plc 0 m)) o size
 Au c (Zw c s2 (Yz s2 o) 0 (Yr c (Yz s1 o).plc s1.bs 0 m)) (Yz s1 o)
def Ac(c:Conf)(s:StM)(o size:Int):StM:=
 if B2 c s o size≠0 then s
 else if Af c (Qy s o) size=true then
  (if size<Qy s o then Qt (C3 (Zw c s (Yz s o) size.toNat (Xz (Qy s o-size).toNat)) o ⟨size,Yz s o⟩) o size.toNat (Qy s o-size).toNat
   else C3 s o ⟨size,Yz s o⟩)
 else G5 c s o size
def Qp(s:StM)(o at' n:Int):Int:=if Yl s o≠0 then Yl s o else if at'<0\/n<0\/Qy s o<n\/Qy s o-n<at' then 8 else 0
def Di(c:Conf)(s:StM)(o at' n:Int):List Int:=if Qp s o at' n=0 then Yr c (Yz s o).plc s.bs at'.toNat n.toNat else []
def Br(c:Conf)(s:StM)(o at' n:Int):StM:=if Qp s o at' n=0 then Y1 s (X5 c (Yz s o).plc at'.toNat n.toNat) else s
def Cc(c:Conf)(s:StM)(o at':Int)(l:List Int):StM:=if Qp s o at' l.length=0 then Qt (Zw c s (Yz s o) at'.toNat l) o at'.toNat l.length else s
def tickK(c:Conf)(x:StM×Int)(k:Nat):StM×Int:=
 if x.2<1 then x else match Xt (Yc c x.1 k) k with
  |none=>(Yc c x.1 k,x.2)
  |some m=>(Yo (Yc c x.1 k) k x.2,x.2-Z1 m x.2)
def tickTo(c:Conf)(s:StM)(n:Nat):StM×Int:=(List.range n).foldl (tickK c) (s,c.step)
def C5(c:Conf)(s:StM):StM:=(tickTo c s s.mv.length).1
def Cv(s:StM)(k keep:Int):Int:=if k<0\/(s.mv.length:Int)<=k\/keep<0\/1024<keep then 1 else 0
def Dj(s:StM)(k keep:Int):StM:=if Cv s k keep=0 then {s with keep:=s.keep.set k.toNat keep} else s
def Jk(s:StM)(k:Int):Nat:=match Xt s k with|some m=>m.size-m.gone|none=>0
def Ze(l:List (Option ThM)):List Int:=l.filterMap λt=>t.map (·.size)
def Z8(s:StM):Int:=(Ze s.th).sum
def Ao(c:Conf):StM:=⟨c.keep,Xz (c.size*c.pages).toNat,Hp c 0,List.replicate c.slots.toNat none,List.replicate c.classes.length none⟩
structure StM.OkP(c:Conf)(s:StM)(pd:Option (Nat×PlcM)):Prop where
 may:X6 c=true
 rm:Yx c s.rm
 kl:s.keep.length=c.classes.length
 kr:∀x∈s.keep,0<=x/\x<=1024
 bl:(s.bs.length:Int)=c.size*c.pages
 bi:Qn s.bs
 tl:(s.th.length:Int)=c.slots
 ml:s.mv.length=c.classes.length
 size:∀(o:Nat) t,s.th[o]?=some (some t)->1<=t.size/\t.size<=c.most
 small:∀(o:Nat) t,s.th[o]?=some (some t)->Xk c.classes t.size≠-1->t.q.cls=Xk c.classes t.size/\t.q.pages=[]/\Zh s.rm t.q.cls t.q.page t.q.idx=o
 large:∀(o:Nat) t,s.th[o]?=some (some t)->Xk c.classes t.size=-1 -> ∃n r,(n,r)∈s.rm.lg/\t.q=⟨-1,(n:Nat),0,X1 r⟩/\(r.length+1:Int)=Zq t.size c.size
 linj:∀(o o':Nat) t t',s.th[o]?=some (some t)->s.th[o']?=some (some t')->t.q.cls=-1->t'.q.cls=-1->t.q.page=t'.q.page->o=o'
 mv:∀(k:Nat) m,s.mv[k]?=some (some m)->(∃(o:Nat),∃t,m.who=o/\s.th[o]?=some (some t)/\t.q=⟨(k:Nat),m.pf,m.fa,[]⟩)/\Zh s.rm k m.pt m.ta=m.who/\¬(m.pf=m.pt/\m.fa=m.ta)/\(m.f:Int)=Gj c k m.pf m.fa/\(m.t:Int)=Gj c k m.pt m.ta/\(m.size:Int)=Yb c k/\m.gone<m.size
 own:∀k n a:Int,Zh s.rm k n a≠-1->(∃(o:Nat),∃t,Zh s.rm k n a=o/\s.th[o]?=some (some t)/\(t.q=⟨k,n,a,[]⟩\/∃m,Xt s k=some m/\m.pt=n/\m.ta=a))\/∃o,pd=some (o,⟨k,n,a,[]⟩)
 ps:∀o q,pd=some (o,q)->q.cls≠-1->q.pages=[]/\Zh s.rm q.cls q.page q.idx=o/\(∀m,Xt s q.cls=some m -> ¬(m.pt=q.page/\m.ta=q.idx))/\∀(o':Nat) t,s.th[o']?=some (some t)->t.q≠q
 pl:∀o q,pd=some (o,q)->q.cls=-1 -> ∃n r,(n,r)∈s.rm.lg/\q=⟨-1,(n:Nat),0,X1 r⟩/\∀(o':Nat) t,s.th[o']?=some (some t)->t.q.cls=-1->t.q.page≠(n:Nat)
abbrev StM.Ok(c:Conf)(s:StM):Prop:=s.OkP c none
variable {th:List (Option ThM)}{m:MvM}{s s':StM}
section
variable {c:Conf}{s:StM}{pd:Option (Nat×PlcM)}
theorem Qr{k:Int}(h:Xt s k=some m):∃j:Nat,k=j/\j<s.mv.length/\s.mv[j]?=some (some m):=by
 unfold Xt at h;split at h
 ·rename_i b
  obtain⟨j,rfl⟩:=XD b;rw[XA,XC] at h;cases a:s.mv[j]? with
  |none=>rw[a] at h;cases h
  |some x=>
   rw[a] at h;have:x=some m:=h;subst this;exact⟨j,rfl,(List.getElem?_eq_some_iff.1 a).1,a⟩
 ·cases h
theorem Cr(h:s.mv[j]?=some (some m)):Xt s (j:Nat)=some m:=by
 unfold Xt;rw[if_pos (by omega),XA,XC,h];rfl
theorem Xca{o:Int}{t:ThM}(h:Bt s o=some t):∃j:Nat,o=j/\j<s.th.length/\s.th[j]?=some (some t):=by
 unfold Bt at h;split at h
 ·rename_i b
  obtain⟨j,rfl⟩:=XD b;rw[XA,XC] at h;cases a:s.th[j]? with
  |none=>rw[a] at h;cases h
  |some x=>
   rw[a] at h;have:x=some t:=h;subst this;exact⟨j,rfl,(List.getElem?_eq_some_iff.1 a).1,a⟩
 ·cases h
theorem G6{t:ThM}(h:s.th[j]?=some (some t)):Bt s (j:Nat)=some t:=by
 unfold Bt;rw[if_pos (by omega),XA,XC,h];rfl
theorem Ji{l:List (Option α)}{v:Option α}{x:α}(h:(l.set k v)[j]?=some (some x)):(j=k/\v=some x/\k<l.length)\/(j≠k/\l[j]?=some (some x)):=by
 by_cases e:k=j
 ·subst e;by_cases a:k<l.length
  ·rw[XF a] at h;exact .inl ⟨rfl,Option.some.inj h,a⟩
  ·rw[XV (by rw[XG];omega)] at h;cases h
 ·rw[XQ e] at h;exact .inr ⟨λh=>e h.symm,h⟩
theorem XjP{v:Option MvM}{j:Int}(hs:s'.mv=s.mv.set k v)(h:Xt s' j=some m):(j=k/\v=some m)\/(j≠k/\Xt s j=some m):=by
 obtain⟨i,rfl,_,hi⟩:=Qr h;rw[hs] at hi;rcases Ji hi with⟨rfl,e,_⟩|⟨a,hi⟩
 ·exact .inl ⟨rfl,e⟩
 ·exact .inr ⟨by omega,Cr hi⟩
theorem Tv{v:Option MvM}{j:Int}(hs:s'.mv=s.mv.set k v)(hj:j≠k)(h:Xt s j=some m):Xt s' j=some m:=by
 obtain⟨i,rfl,_,hi⟩:=Qr h;refine Cr ?_;rw[hs,XQ (by omega)];exact hi
theorem Xc1(h:X6 c=true){k n a:Int}(hk:0<=k/\k<c.classes.length)(hn:0<=n/\n<c.pages)(ha:0<=a/\a<Qi c k):Yi c ⟨k,n,a,none,0,[]⟩=true:=by
 unfold Yi;rw[if_neg (by simp only;omega)];simp only[XJ,Ly];exact⟨⟨hk,hn⟩,ha⟩
theorem N7(h:s.OkP c pd){k n a:Int}(ho:Zh s.rm k n a≠-1):Yi c ⟨k,n,a,none,0,[]⟩=true/\0<=k/\k<c.classes.length:=by
 obtain⟨j,x,rfl,g,_,_,b,d,e,f⟩:=Ui h.rm ho;exact⟨Xc1 h.may (by omega) ⟨b,d⟩ ⟨e,f⟩,by omega,by omega⟩
theorem St(h:X6 c=true){k n a:Int}(hv:Yi c ⟨k,n,a,none,0,[]⟩=true)(hk:k≠-1):0<=Gj c k n a/\Gj c k n a+Yb c k<=c.size*c.pages/\8<=Yb c k/\Yb c k<=c.size:=by
 obtain⟨j,pg,ix,e1,e2,e3,b,d,e,f,g,i,l,m⟩:=Hm h hv hk;unfold Gj Ag;rw[if_pos ⟨hv,hk⟩];simp only at e1 e2 e3
 subst e1;subst e2;subst e3;simp only
 omega
theorem StM.OkP.bytes(h:s.OkP c pd)(hl:bs.length=s.bs.length)(hb:Qn bs)(n:Int):(Y1 {s with bs:=bs} n).OkP c pd:=
 ⟨h.may,h.rm.charge n,h.kl,h.kr,by show(bs.length:Int)=_;rw[hl];exact h.bl,hb,h.tl,h.ml,h.size,h.small,h.large,h.linj,h.mv,h.own,h.ps,h.pl⟩
theorem StM.OkP.tot(h:s.OkP c pd)(n:Int):(Y1 s n).OkP c pd:=h.bytes (bs:=s.bs) rfl h.bi n
theorem Nn(h:s.OkP c pd){t:ThM}(ht:s.th[o]?=some (some t))(hc:t.q.cls≠-1):Xk c.classes t.size≠-1:=λe=>by
 obtain⟨n,r,_,e2,_⟩:=h.large o t ht e;rw[e2] at hc;exact hc rfl
theorem Rz(M:RmM)(k who:Int):(Z9 M k who).lg=M.lg:=by unfold Z9;split;rfl;split <;> rfl
theorem Ry(M:RmM)(k n i:Int):(Qb M k n i).lg=M.lg:=by unfold Qb;split;rfl;split <;> rfl
theorem XbA(M:RmM)(k n i who:Int):(Qe M k n i who).lg=M.lg:=by unfold Qe;split <;> rfl
structure Xhf(c:Conf)(s:StM)(k:Nat):Prop where
 plan:XcC s.rm k
 kl:k<c.classes.length
 nomv:Xt s (k:Nat)=none
 who:∃(o:Nat),∃t,Zh s.rm k (Ye s.rm k).1 (Ye s.rm k).2.1=o/\s.th[o]?=some (some t)/\t.q=⟨(k:Nat),(Ye s.rm k).1,(Ye s.rm k).2.1,[]⟩
 f:Yi c ⟨(k:Nat),(Ye s.rm k).1,(Ye s.rm k).2.1,none,0,[]⟩=true
 t:Yi c ⟨(k:Nat),(Ye s.rm k).2.2.1,(Ye s.rm k).2.2.2,none,0,[]⟩=true
theorem Sp(h:s.Ok c)(hB:Aw s k=true):Xhf c s k:=by
 unfold Aw at hB;simp only[XJ] at hB;obtain⟨⟨r,A⟩,u⟩:=hB;have P:=Xkm h.rm u;have l:Xt s (k:Nat)=Option.none:=by simpa using r
 obtain⟨f1,f2,B⟩:=N7 h P.own;have d:∃(o:Nat),∃t,Zh s.rm k (Ye s.rm k).1 (Ye s.rm k).2.1=o/\s.th[o]?=some (some t)/\t.q=⟨(k:Nat),(Ye s.rm k).1,(Ye s.rm k).2.1,[]⟩:=by
  rcases h.own _ _ _ P.own with⟨o,t,f,i,b|⟨m,b,_⟩⟩|⟨o,g⟩
  ·exact⟨o,t,f,i,b⟩
  ·rw[l] at b;cases b
  ·cases g
 obtain⟨o,t,f,i,b⟩:=d;refine⟨P,by omega,l,⟨o,t,f,i,b⟩,f1,?_⟩;obtain⟨p,C⟩:=Xb5 h.rm (P.e (o:Int) (by omega));rw[P.n _ (by omega),P.a _ (by omega)] at p;have q:=p k (Ye s.rm k).2.2.1 (Ye s.rm k).2.2.2;rw[if_pos ⟨rfl,rfl,rfl⟩] at q;obtain⟨j,x,e,D,_,_,v,w,y,z⟩:=Ui (h.rm.take k (o:Int)) (k:=k) (n:=(Ye s.rm k).2.2.1) (a:=(Ye s.rm k).2.2.2) (by rw[q];omega);exact Xc1 h.may (by omega) ⟨v,w⟩ ⟨y,z⟩
theorem StM.OkP.begin(h:s.Ok c)(k:Nat):(Yc c s k).Ok c:=by
 unfold Yc;by_cases v:Aw s k=true
 ·rw[if_pos v];obtain⟨P,F,G,⟨o,t,w,A,H⟩,I,J⟩:=Sp h v;rw[w];obtain⟨i,B⟩:=Xb5 h.rm (P.e (o:Int) (by omega));rw[P.n _ (by omega),P.a _ (by omega)] at i B;obtain⟨pf,fa,pt,ta⟩:True/\True/\True/\True:=⟨trivial,trivial,trivial,trivial⟩;have C:∀(s':StM),s'.mv=s.mv.set k (some (I9 c s.rm k)) -> ∀j m,Xt s j=some m->Xt s' j=some m:=λs' K j m b=>Tv K (λe=>by rw[e,G] at b;cases b) b;have keep:∀{j n a:Int},Zh s.rm j n a≠-1->Zh (Z9 s.rm k o) j n a=Zh s.rm j n a:=λu=>by
   rw[i,if_neg];rintro⟨rfl,rfl,rfl⟩;exact u B
  refine⟨h.may,h.rm.take _ _,h.kl,h.kr,h.bl,h.bi,h.tl,by show(s.mv.set _ _).length=_;rw[XG];exact h.ml,h.size,λd f x y=>?_,λd f x y=>?_,h.linj,λj m b=>?_,λj n a b=>.inl ?_,(by rintro _ _ ⟨⟩),(by rintro _ _ ⟨⟩)⟩
  ·obtain⟨l,p,q⟩:=h.small d f x y;exact⟨l,p,(keep (by rw[q];omega)).trans q⟩
  ·show ∃n r,(n,r)∈(Z9 s.rm k o).lg/\_
   rw[Rz];exact h.large d f x y
  ·rcases Ji b with⟨rfl,e,_⟩|⟨u,b⟩
   ·have em:=Option.some.inj e;subst em;obtain⟨L,R,S,T⟩:=St h.may I (by omega);obtain⟨M,U,_,_⟩:=St h.may J (by omega);refine⟨⟨o,t,w,A,H⟩,?_,λe=>P.ne e.1,?_,?_,?_,?_⟩
    ·show Zh (Z9 s.rm j o) j _ _=Zh s.rm j _ _
     rw[w,i,if_pos ⟨rfl,rfl,rfl⟩]
    ·show(((Gj c j _ _).toNat:Nat):Int)=_
     exact Y2 L
    ·show(((Gj c j _ _).toNat:Nat):Int)=_
     exact Y2 M
    ·show(((Yb c j).toNat:Nat):Int)=_
     exact Y2 (by omega)
    ·show 0<(Yb c j).toNat
     omega
   ·obtain⟨l,p,q⟩:=h.mv j m b;have N:=l;obtain⟨d,f,O,_⟩:=l;exact⟨N,(keep (by rw[p,O];omega)).trans p,q⟩
  ·by_cases e:j=k/\n=(Ye s.rm k).2.2.1/\a=(Ye s.rm k).2.2.2
   ·obtain⟨rfl,rfl,rfl⟩:=e;refine⟨o,t,?_,A,.inr ⟨I9 c s.rm k,?_,rfl,rfl⟩⟩
    ·show Zh (Z9 s.rm k o) k _ _=_
     rw[i,if_pos ⟨rfl,rfl,rfl⟩]
    ·refine Cr ?_;show(s.mv.set k _)[k]?=_
     rw[XF (by rw[h.ml];exact F)]
   ·have e1:Zh (Z9 s.rm k o) j n a=Zh s.rm j n a:=by rw[i,if_neg e]
    rw[e1] at b;show ∃(d:Nat),∃t,Zh (Z9 s.rm k o) j n a=d/\_
    rw[e1];rcases h.own j n a b with⟨d,f,D,E,z|⟨m,z,Q⟩⟩|⟨_,g⟩
    ·exact⟨d,f,D,E,.inl z⟩
    ·exact⟨d,f,D,E,.inr ⟨m,C _ rfl j m z,Q⟩⟩
    ·cases g
 ·rw[if_neg v];exact h
theorem Jz(h:s.OkP c pd)(hm:s.mv[k]?=some (some m)):m.f+m.size<=s.bs.length/\m.t+m.size<=s.bs.length/\0<m.size/\(m.f+m.size<=m.t\/m.t+m.size<=m.f):=by
 obtain⟨⟨o,t,e1,e2,e3⟩,y,z,D,E,F,G⟩:=h.mv k m hm;have H:k<c.classes.length:=by have:=(List.getElem?_eq_some_iff.1 hm).1;have:=h.ml;omega
 have l:=h.small o t e2 (Nn h e2 (by rw[e3];simp only;omega));rw[e3] at l;have d:=(N7 h (k:=(k:Nat)) (n:=m.pf) (a:=m.fa) (by rw[l.2.2];omega)).1;have e:=(N7 h (k:=(k:Nat)) (n:=m.pt) (a:=m.ta) (by rw[y,e1];omega)).1;have I:=St h.may d (by omega);have J:=St h.may e (by omega);have C:=h.bl;refine⟨by omega,by omega,by omega,?_⟩;obtain⟨A,f,g,B,q,r,K,L,M,N,O,P,Q,R⟩:=Hm h.may d (by simp only;omega);obtain⟨b,i,j,f1,f2,u,S,T,U,V,W,g6,g7,g8⟩:=Hm h.may e (by simp only;omega);simp only at B q r f1 f2 u
 have v:A=k:=by omega
 have w:b=k:=by omega
 subst v;subst w;have x1:Gj c (b:Nat) m.pf m.fa=(f:Int)*c.size+(g:Int)*Yb c (b:Nat):=by unfold Gj Ag;rw[if_pos ⟨d,by simp only;omega⟩];simp only;rw[q,r]
 have x2:Gj c (b:Nat) m.pt m.ta=(i:Int)*c.size+(j:Int)*Yb c (b:Nat):=by unfold Gj Ag;rw[if_pos ⟨e,by simp only;omega⟩];simp only;rw[f2,u]
 have p:0<=c.size:=by have:=(Dr h.may).1;omega
 rcases Nat.lt_trichotomy f i with x|heq|hgt
 ·have:((f:Int)+1)*c.size<=i*c.size:=ZA (by omega) p;rw[YU,QC] at this;omega
 ·subst heq;rcases Nat.lt_trichotomy g j with x|heq|hgt
  ·have:((g:Int)+1)*Yb c (b:Nat)<=j*Yb c (b:Nat):=ZA (by omega) (by omega);rw[YU,QC] at this;omega
  ·exact absurd ⟨by omega,by omega⟩ z
  ·have:((j:Int)+1)*Yb c (b:Nat)<=g*Yb c (b:Nat):=ZA (by omega) (by omega);rw[YU,QC] at this;omega
 ·have:((i:Int)+1)*c.size<=f*c.size:=ZA (by omega) p;rw[YU,QC] at this;omega
theorem Xdu{f:Nat}(h:Qn bs):Qn (Hi bs t f n):=λx hx=>by
 rcases Mt hx with hx|hx
 ·exact h x hx
 ·unfold sub at hx;exact h x (ZD (XT hx))
theorem Td(m:MvM)(n:Int):Z1 m n<=m.size-m.gone:=by unfold Z1 Du;omega
theorem StM.OkP.step(h:s.OkP c pd)(hm:s.mv[k]?=some (some m))(n:Int):(Q7 s m n).OkP c pd:=by
 obtain⟨a,b,e,_⟩:=Jz h hm;have f:=Td m n;have d:=(h.mv k m hm).2.2.2.2.2.2;refine h.bytes ?_ ?_ _
 ·exact XbR (size:=m.size) (by omega) a b
 ·unfold Ir;split
  ·exact h.bi
  ·exact Xdu h.bi
theorem StM.OkP.go(h:s.Ok c)(k:Nat)(n:Int):(Yo s k n).Ok c:=by
 unfold Yo;cases M:Xt s (k:Nat) with
 |none=>exact h
 |some m=>
  obtain⟨j,ej,p,P⟩:=Qr M;obtain rfl:k=j:=by omega
  have C:=StM.OkP.step h P n;obtain⟨⟨o,t,e1,e2,e3⟩,N,Q,a4,a5,a6,a7⟩:=h.mv k m P;simp only
  by_cases I:m.gone+Z1 m n<m.size
  ·rw[if_pos I];have R:∀j m',Xt s j=some m' -> ∃J,Xt {Q7 s m n with mv:=s.mv.set k (some {m with gone:=m.gone+Z1 m n})} j=some J/\J.pt=m'.pt/\J.ta=m'.ta:=λj m' p=>by
    by_cases e:j=k
    ·subst e;rw[M] at p;cases p
     refine⟨{m with gone:=m.gone+Z1 m n},Cr ?_,rfl,rfl⟩;show(s.mv.set k _)[k]?=_
     rw[XF p]
    ·exact⟨m',Tv (s:=s) rfl e p,rfl,rfl⟩
   refine⟨h.may,C.rm,h.kl,h.kr,C.bl,C.bi,h.tl,by show(s.mv.set _ _).length=_;rw[XG];exact h.ml,h.size,h.small,h.large,h.linj,λj m' p=>?_,λj n' a p=>?_,(by rintro _ _ ⟨⟩),(by rintro _ _ ⟨⟩)⟩
   ·rcases Ji p with⟨rfl,e,_⟩|⟨u,p⟩
    ·have em:=Option.some.inj e;subst em;exact⟨⟨o,t,e1,e2,e3⟩,N,Q,a4,a5,a6,I⟩
    ·exact h.mv j m' p
   ·rcases h.own j n' a p with⟨f,l,z,D,v|⟨m',v,E,F⟩⟩|⟨_,g⟩
    ·exact .inl ⟨f,l,z,D,.inl v⟩
    ·obtain⟨J,y,w,x⟩:=R j m' v;exact .inl ⟨f,l,z,D,.inr ⟨J,y,w.trans E,x.trans F⟩⟩
    ·cases g
  ·rw[if_neg I];have L:=Nn h e2 (by rw[e3];simp only;omega);obtain⟨O,s2,K⟩:=h.small o t e2 L;rw[e3] at O K;simp only at O K
   have S:∀j n' a,Zh (Q7 s m n).rm j n' a=Zh s.rm j n' a:=λ_ _ _=>rfl;obtain⟨G1,T⟩:=XdZ C.rm (k:=(k:Nat)) (n:=m.pf) (i:=m.fa) (by rw[S,K];omega);have keep:∀{j n' a:Int},¬(j=k/\n'=m.pf/\a=m.fa)->Zh (Qb (Q7 s m n).rm k m.pf m.fa) j n' a=Zh s.rm j n' a:=λu=>by rw[T,if_neg u];rfl
   have U:m.who.toNat=o:=by omega
   have V:Qy s m.who=t.size:=by unfold Qy;rw[e1,G6 e2]
   rw[U,V];have A0:∀{f:Nat} {l:ThM},(s.th.set o (some ⟨t.size,⟨(k:Nat),m.pt,m.ta,[]⟩⟩))[f]?=some (some l)->(f=o/\l=⟨t.size,⟨(k:Nat),m.pt,m.ta,[]⟩⟩)\/(f≠o/\s.th[f]?=some (some l)):=λh=>by
    rcases Ji h with⟨a,b,_⟩|hb
    ·exact .inl ⟨a,(Option.some.inj b).symm⟩
    ·exact .inr hb
   have D5:∀{f:Nat} {l:ThM},f≠o->s.th[f]?=some (some l)->(s.th.set o (some ⟨t.size,⟨(k:Nat),m.pt,m.ta,[]⟩⟩))[f]?=some (some l):=λu h=>by rw[XQ (Ne.symm u)];exact h
   have tnew:(s.th.set o (some ⟨t.size,⟨(k:Nat),m.pt,m.ta,[]⟩⟩))[o]?=some (some ⟨t.size,⟨(k:Nat),m.pt,m.ta,[]⟩⟩):=by rw[XF ((List.getElem?_eq_some_iff.1 e2).1)]
   refine⟨h.may,C.rm.give _ _ _,h.kl,h.kr,C.bl,C.bi,by show((s.th.set _ _).length:Int)=_;rw[XG];exact h.tl,by show(s.mv.set _ _).length=_;rw[XG];exact h.ml,λf l q=>?_,λf l q A=>?_,λf l q A=>?_,λf G l W q A c1 H hp=>?_,λj m' p=>?_,λj n' a p=>.inl ?_,(by rintro _ _ ⟨⟩),(by rintro _ _ ⟨⟩)⟩
   ·rcases A0 q with⟨rfl,rfl⟩|⟨_,q⟩
    ·exact h.size f t e2
    ·exact h.size f l q
   ·rcases A0 q with⟨rfl,rfl⟩|⟨u,q⟩
    ·refine⟨O,rfl,?_⟩;refine(keep ?_).trans (N.trans e1);rintro⟨_,y,w⟩;exact Q ⟨y.symm,w.symm⟩
    ·obtain⟨y,w,x⟩:=h.small f l q A;refine⟨y,w,(keep ?_).trans x⟩;rintro⟨d1,d2,d3⟩;rw[d1,d2,d3,K] at x;omega
   ·show ∃n' r,(n',r)∈(Qb (Q7 s m n).rm k m.pf m.fa).lg/\_
    rw[Ry];rcases A0 q with⟨rfl,rfl⟩|⟨_,q⟩
    ·exact absurd A L
    ·exact h.large f l q A
   ·rcases A0 q with⟨rfl,rfl⟩|⟨_,q⟩
    ·exact absurd c1 (by simp only;omega)
    ·rcases A0 A with⟨rfl,rfl⟩|⟨_,A⟩
     ·exact absurd H (by simp only;omega)
     ·exact h.linj f G l W q A c1 H hp
   ·rcases Ji p with⟨_,e,_⟩|⟨u,p⟩
    ·cases e
    ·obtain⟨⟨f,l,y,w,x⟩,H,c3⟩:=h.mv j m' p;have B:f≠o:=λe=>by
      subst e;rw[e2] at w;cases w
      rw[e3] at x;have:=congrArg PlcM.cls x;simp only at this
      omega
     refine⟨⟨f,l,y,D5 B w,x⟩,(keep ?_).trans H,c3⟩;rintro⟨d,_⟩;omega
   ·replace p:Zh (Qb (Q7 s m n).rm k m.pf m.fa) j n' a≠-1:=p;have u:¬(j=k/\n'=m.pf/\a=m.fa):=λe=>by rw[T,if_pos e] at p;exact p rfl
    show ∃(f:Nat),∃l,Zh (Qb (Q7 s m n).rm k m.pf m.fa) j n' a=f/\_
    rw[keep u] at p⊢;rcases h.own j n' a p with⟨f,l,z,D,v|⟨m',v,E,F⟩⟩|⟨_,g⟩
    ·have B:f≠o:=λe=>by
      subst e;rw[e2] at D;cases D
      rw[e3] at v;exact u ⟨(congrArg PlcM.cls v).symm,(congrArg PlcM.page v).symm,(congrArg PlcM.idx v).symm⟩
     exact⟨f,l,z,D5 B D,.inl v⟩
    ·by_cases ek:j=k
     ·subst ek;rw[M] at v;cases v
      have:(f:Int)=o:=by rw[<-z,<-E,<-F,N,e1]
      obtain rfl:f=o:=by omega
      exact⟨f,_,z,tnew,.inl (by rw[E,F])⟩
     ·obtain⟨i,ei,_,hi⟩:=Qr v;subst ei;obtain⟨⟨G,W,y,w,x⟩,H,_⟩:=h.mv i m' hi;have a1:G=f:=by
       have:(G:Int)=f:=by rw[<-y,<-H,E,F];exact z
       omega
      subst a1;have B:G≠o:=λe=>by
       subst e;rw[e2] at w;cases w
       rw[e3] at x;have:=congrArg PlcM.cls x;simp only at this
       omega
      exact⟨G,l,z,D5 B D,.inr ⟨m',Tv (s:=s) rfl ek v,E,F⟩⟩
    ·cases g
theorem StM.OkP.finish(h:s.Ok c)(k:Int):(X7 s k).Ok c:=by
 unfold X7;split
 ·exact h
 ·exact StM.OkP.go h _ _
end
section
variable {c:Conf}{s:StM}{pd:Option (Nat×PlcM)}
theorem Xel(hb:Qn bs)(hl:Qn l):∀k,Qn (Qw c q bs i l k)
 |0=>hb
 |k+1=>λx hx=>by
  unfold Qw at hx;rcases ZM hx with hx|rfl
  ·exact Xel hb hl k x hx
  ·rw[XC];cases hg:l[k]? with
   |none=>exact⟨ZO _,by decide⟩
   |some y=>exact hl y (XP hg)
theorem Sb(n:Nat):Qn (Xz n):=λx a=>by
 unfold Xz at a;rw[YR] at a;omega
theorem StM.OkP.put(h:s.OkP c pd)(q:PlcM)(i:Nat)(hl:Qn l):(Zw c s q i l).OkP c pd:=
 h.bytes (Gr _ _ _ _ _ _) (Xel h.bi hl _) _
theorem Xlt(hw:0<=who)(hf:Qd c M size=0)(hp:Xk c.classes size≠-1):Ab c M who size=Z9 M (Xk c.classes size) who/\A2 c M who size=⟨Xk c.classes size,D3 M (Xk c.classes size) who,D2 M (Xk c.classes size) who,[]⟩/\Ct c M who size=Fa M (Xk c.classes size) who:=by
 refine⟨?_,?_,?_⟩
 ·unfold Ab;rw[if_neg (by omega),if_neg (by omega),if_neg hp]
 ·unfold A2;rw[if_neg (by omega),if_neg (by omega),if_neg hp]
 ·unfold Ct;rw[if_neg (by omega),if_neg (by omega),if_neg hp]
theorem Xls(hw:0<=who)(hf:Qd c M size=0)(hp:Xk c.classes size=-1):Ab c M who size=D0 M (Zq size c.size).toNat/\A2 c M who size=⟨-1,(M.pl.free.getD 0 0:Nat),0,X1 (M.pl.free.take (Zq size c.size).toNat).tail⟩:=by
 refine⟨?_,?_⟩
 ·unfold Ab;rw[if_neg (by omega),if_neg (by omega),if_pos hp]
 ·unfold A2;rw[if_neg (by omega),if_neg (by omega),if_pos hp]
theorem Xan(hf:Qg c s size=0):(1<=size/\size<=c.most)/\(Ce c s size=none->Qd c s.rm size=0):=by
 unfold Qg at hf;split at hf
 ·exact absurd hf (by decide)
 ·rename_i e
  refine⟨by omega,λa=>?_⟩;split at hf
  ·rename_i d
   unfold Ce at a;cases b:Xt s (Xk c.classes size) with
   |none=>rw[b] at d;cases d
   |some m=>
    rw[b] at a;simp only at a
    split at a
    ·cases a
    ·rename_i f
     obtain⟨j,ej,_⟩:=Qr b;unfold Qd;rw[if_neg e,if_neg];unfold B8;rw[if_neg (by omega)];omega
  ·exact hf
theorem A0{l:List (Option ThM)}{o1:Nat}{t t1:ThM}(h:(l.set o (some t))[o1]?=some (some t1)):(o1=o/\t1=t)\/(o1≠o/\l[o1]?=some (some t1)):=by
 rcases Ji h with⟨a,b,_⟩|hb
 ·exact .inl ⟨a,(Option.some.inj b).symm⟩
 ·exact .inr hb
theorem D5{l:List (Option ThM)}{o1:Nat}{v:Option ThM}{t1:ThM}(hne:o1≠o)(h:l[o1]?=some (some t1)):(l.set o v)[o1]?=some (some t1):=by rw[XQ (Ne.symm hne)];exact h
theorem StM.OkP.over(h:s.OkP c pd)(ho:s.th[o]?=some none)(hs:1<=size/\size<=c.most)(hk:Xk c.classes size=(k:Nat))(hm:s.mv[k]?=some (some m))(hpd:∀o' q,pd=some (o',q)->o'=o):StM.OkP c {s with mv:=s.mv.set k none,rm:=Qe s.rm k m.pt m.ta o,th:=s.th.set o (some ⟨size,⟨(k:Nat),m.pt,m.ta,[]⟩⟩)} pd:=by
 obtain⟨⟨D,T,e1,e2,e3⟩,M,U,_⟩:=h.mv k m hm;have a7:D≠o:=λe=>by subst e;rw[ho] at e2;cases e2
 obtain⟨W1,E⟩:=Xj7 h.rm (k:=(k:Nat)) (n:=m.pt) (i:=m.ta) (who:=(o:Nat)) (by omega) (by rw[M,e1];omega);have keep:∀{j n a:Int},¬(j=k/\n=m.pt/\a=m.ta)->Zh (Qe s.rm k m.pt m.ta o) j n a=Zh s.rm j n a:=λv=>by rw[E,if_neg v]
 have V:=h.small D T e2 (Nn h e2 (by rw[e3];simp only;omega));have other:∀{l:Nat} {b:ThM},s.th[l]?=some (some b)->Zh s.rm b.q.cls b.q.page b.q.idx=l->b.q.pages=[] -> ¬(b.q.cls=k/\b.q.page=m.pt/\b.q.idx=m.ta):=λ{l b} f p z=>by
  rintro⟨W,F,G⟩;rw[W,F,G,M,e1] at p;obtain rfl:D=l:=by omega
  rw[e2] at f;cases f
  rw[e3] at F G;exact U ⟨F,G⟩
 have N:∀{j:Int} {m':MvM},Xt {s with mv:=s.mv.set k none,rm:=Qe s.rm k m.pt m.ta o,th:=s.th.set o (some ⟨size,⟨(k:Nat),m.pt,m.ta,[]⟩⟩)} j=some m'->j≠k/\Xt s j=some m':=λhj=>by
  rcases XjP (s:=s) rfl hj with⟨_,e⟩|hj
  ·cases e
  ·exact hj
 refine⟨h.may,h.rm.own _ _ _ _,h.kl,h.kr,h.bl,h.bi,by show((s.th.set _ _).length:Int)=_;rw[XG];exact h.tl,by show(s.mv.set _ _).length=_;rw[XG];exact h.ml,λl b f=>?_,λl b f p=>?_,λl b f p=>?_,λl o3 b t3 f z w A hp=>?_,λj m' hj=>?_,λj n a hj=>?_,λo' q H I=>?_,λo' q H I=>?_⟩
 ·rcases A0 f with⟨rfl,rfl⟩|⟨_,f⟩
  ·exact hs
  ·exact h.size l b f
 ·rcases A0 f with⟨rfl,rfl⟩|⟨v,f⟩
  ·refine⟨hk.symm,rfl,?_⟩;show Zh (Qe s.rm k m.pt m.ta l) k m.pt m.ta=l
   rw[E,if_pos ⟨rfl,rfl,rfl⟩]
  ·obtain⟨J,t,B⟩:=h.small l b f p;exact⟨J,t,(keep (other f B t)).trans B⟩
 ·show ∃n' r,(n',r)∈(Qe s.rm k m.pt m.ta o).lg/\_
  rw[XbA];rcases A0 f with⟨rfl,rfl⟩|⟨_,f⟩
  ·rw[hk] at p;omega
  ·exact h.large l b f p
 ·rcases A0 f with⟨rfl,rfl⟩|⟨_,f⟩
  ·exact absurd w (by simp only;omega)
  ·rcases A0 z with⟨rfl,rfl⟩|⟨_,z⟩
   ·exact absurd A (by simp only;omega)
   ·exact h.linj l o3 b t3 f z w A hp
 ·rcases Ji hj with⟨_,e,_⟩|⟨v,hj⟩
  ·cases e
  ·obtain⟨⟨l,b,J,t,B⟩,c2,A⟩:=h.mv j m' hj;exact⟨⟨l,b,J,D5 (λe=>by subst e;rw[ho] at t;cases t) t,B⟩,(keep (λd=>by have:=d.1;omega)).trans c2,A⟩
 ·replace hj:Zh (Qe s.rm k m.pt m.ta o) j n a≠-1:=hj;show(∃(l:Nat),∃b,Zh (Qe s.rm k m.pt m.ta o) j n a=l/\_)\/_
  by_cases e:j=k/\n=m.pt/\a=m.ta
  ·obtain⟨rfl,rfl,rfl⟩:=e;exact .inl ⟨o,_,by rw[E,if_pos ⟨rfl,rfl,rfl⟩],XF ((List.getElem?_eq_some_iff.1 ho).1),.inl rfl⟩
  ·rw[keep e] at hj⊢;rcases h.own j n a hj with⟨l,b,O,u,x|⟨m',x,P,Q⟩⟩|g
   ·exact .inl ⟨l,b,O,D5 (λe=>by subst e;rw[ho] at u;cases u) u,.inl x⟩
   ·have R:j≠k:=λe2=>by
     subst e2;rw[Cr hm] at x;cases x
     exact e ⟨rfl,P.symm,Q.symm⟩
    exact .inl ⟨l,b,O,D5 (λe=>by subst e;rw[ho] at u;cases u) u,.inr ⟨m',Tv (s:=s) rfl R x,P,Q⟩⟩
   ·exact .inr g
 ·obtain⟨K,L,C,p4⟩:=h.ps o' q H I;have y:¬(q.cls=k/\q.page=m.pt/\q.idx=m.ta):=λe=>by
   refine C m ?_ ⟨e.2.1.symm,e.2.2.symm⟩;rw[e.1];exact Cr hm
  refine⟨K,(keep y).trans L,λm' S=>C m' (N S).2,λl b f=>?_⟩;rcases A0 f with⟨rfl,rfl⟩|⟨_,f⟩
  ·intro e;rw[<-e] at y;exact y ⟨rfl,rfl,rfl⟩
  ·exact p4 l b f
 ·obtain⟨n,r,K,L,C⟩:=h.pl o' q H I;refine⟨n,r,by show(n,r)∈(Qe s.rm k m.pt m.ta o).lg;rw[XbA];exact K,L,λl b f w=>?_⟩;rcases A0 f with⟨rfl,rfl⟩|⟨_,f⟩
  ·exact absurd w (by simp only;omega)
  ·exact C l b f w
theorem StM.OkP.block(h:s.OkP c pd)(ho:s.th[o]?=some none)(hs:1<=size/\size<=c.most)(hk:Xk c.classes size=(k:Nat))(hE:Fa s.rm k o=0):StM.OkP c {s with rm:=Z9 s.rm k o,th:=s.th.set o (some ⟨size,⟨(k:Nat),D3 s.rm k o,D2 s.rm k o,[]⟩⟩)} pd:=by
 obtain⟨t,F⟩:=Xb5 h.rm hE;have keep:∀{j n a:Int},Zh s.rm j n a≠-1->Zh (Z9 s.rm k o) j n a=Zh s.rm j n a:=λy=>by
  rw[t,if_neg];rintro⟨rfl,rfl,rfl⟩;exact y F
 refine⟨h.may,h.rm.take _ _,h.kl,h.kr,h.bl,h.bi,by show((s.th.set _ _).length:Int)=_;rw[XG];exact h.tl,h.ml,λd f b=>?_,λd f b u=>?_,λd f b u=>?_,λd H f I b z m v J=>?_,λj m' l=>?_,λj n a l=>?_,λo' q A B=>?_,λo' q A B=>?_⟩
 ·rcases A0 b with⟨rfl,rfl⟩|⟨_,b⟩
  ·exact hs
  ·exact h.size d f b
 ·rcases A0 b with⟨rfl,rfl⟩|⟨y,b⟩
  ·refine⟨hk.symm,rfl,?_⟩;show Zh (Z9 s.rm k d) k _ _=d
   rw[t,if_pos ⟨rfl,rfl,rfl⟩]
  ·obtain⟨w,p,x⟩:=h.small d f b u;exact⟨w,p,(keep (by rw[x];omega)).trans x⟩
 ·show ∃n' r,(n',r)∈(Z9 s.rm k o).lg/\_
  rw[Rz];rcases A0 b with⟨rfl,rfl⟩|⟨_,b⟩
  ·rw[hk] at u;omega
  ·exact h.large d f b u
 ·rcases A0 b with⟨rfl,rfl⟩|⟨_,b⟩
  ·exact absurd m (by simp only;omega)
  ·rcases A0 z with⟨rfl,rfl⟩|⟨_,z⟩
   ·exact absurd v (by simp only;omega)
   ·exact h.linj d H f I b z m v J
 ·obtain⟨⟨d,f,w,p,x⟩,G,v⟩:=h.mv j m' l;exact⟨⟨d,f,w,D5 (λe=>by subst e;rw[ho] at p;cases p) p,x⟩,(keep (by rw[G,w];omega)).trans G,v⟩
 ·replace l:Zh (Z9 s.rm k o) j n a≠-1:=l;show(∃(d:Nat),∃f,Zh (Z9 s.rm k o) j n a=d/\_)\/_
  by_cases e:j=k/\n=D3 s.rm k o/\a=D2 s.rm k o
  ·obtain⟨rfl,rfl,rfl⟩:=e;exact .inl ⟨o,_,by rw[t,if_pos ⟨rfl,rfl,rfl⟩],XF ((List.getElem?_eq_some_iff.1 ho).1),.inl rfl⟩
  ·have e1:Zh (Z9 s.rm k o) j n a=Zh s.rm j n a:=by rw[t,if_neg e]
   rw[e1] at l⊢;rcases h.own j n a l with⟨d,f,K,C,L⟩|g
   ·exact .inl ⟨d,f,K,D5 (λe=>by subst e;rw[ho] at C;cases C) C,L⟩
   ·exact .inr g
 ·obtain⟨D,i,E,M⟩:=h.ps o' q A B;refine⟨D,(keep (by rw[i];omega)).trans i,E,λd f b=>?_⟩;rcases A0 b with⟨rfl,rfl⟩|⟨_,b⟩
  ·intro e;rw[<-e] at i;simp only at i
   rw[F] at i;omega
  ·exact M d f b
 ·obtain⟨n,r,D,i,E⟩:=h.pl o' q A B;refine⟨n,r,by show(n,r)∈(Z9 s.rm k o).lg;rw[Rz];exact D,i,λd f b m=>?_⟩;rcases A0 b with⟨rfl,rfl⟩|⟨_,b⟩
  ·exact absurd m (by simp only;omega)
  ·exact E d f b m
theorem StM.OkP.pages(h:s.OkP c pd)(ho:s.th[o]?=some none)(hs:1<=size/\size<=c.most)(hf:Qd c s.rm size=0)(hp:Xk c.classes size=-1):StM.OkP c {s with rm:=D0 s.rm (Zq size c.size).toNat,th:=s.th.set o (some ⟨size,⟨-1,(s.rm.pl.free.getD 0 0:Nat),0,X1 (s.rm.pl.free.take (Zq size c.size).toNat).tail⟩⟩)} pd:=by
 have W:=(List.getElem?_eq_some_iff.1 ho).1;obtain⟨f1,f2,_,_⟩:=XiH h.may hf hp;obtain⟨many,B⟩:∃many,many=(Zq size c.size).toNat:=⟨_,rfl⟩;have M:Zq size c.size=many:=by omega
 rw[<-B] at f1 f2⊢;obtain⟨m,u⟩:∃m,m=s.rm.pl.free.getD 0 0:=⟨_,rfl⟩;obtain⟨t,v⟩:∃t,t=(s.rm.pl.free.take many).tail:=⟨_,rfl⟩;have F:m∈s.rm.pl.free:=by
  rw[u,XC,XB (show 0<s.rm.pl.free.length by omega)];exact XK _
 have i:∀{n:Nat} {r:List Nat},(n,r)∈s.rm.lg->n≠m:=λ{n r} N e=>by
  subst e;have b:=(h.rm.ok.lg n (Id N (ZI ..))).2;have w:=(h.rm.mok.good.free _ F).2;omega
 have D:(D0 s.rm many).lg=s.rm.lg++[(m,t)]:=by rw[u,v];rfl
 have O:t.length+1=many:=by rw[v,QJ,XU];omega
 rw[<-u,<-v];refine⟨h.may,h.rm.big (by omega) f2,h.kl,h.kr,h.bl,h.bi,by show((s.th.set _ _).length:Int)=_;rw[XG];exact h.tl,h.ml,λf d b=>?_,λf d b w=>?_,λf d b w=>?_,λf P d Q b K x L k=>?_,λj m' y=>?_,λj n a y=>?_,λo' q G z=>?_,λo' q G z=>?_⟩
 ·rcases A0 b with⟨rfl,rfl⟩|⟨_,b⟩
  ·exact hs
  ·exact h.size f d b
 ·rcases A0 b with⟨rfl,rfl⟩|⟨E,b⟩
  ·exact absurd hp w
  ·exact h.small f d b w
 ·show ∃n' r,(n',r)∈(D0 s.rm many).lg/\_
  rw[D];rcases A0 b with⟨rfl,rfl⟩|⟨_,b⟩
  ·exact⟨m,t,by simp,rfl,by show((t.length:Int)+1)=Zq size c.size;omega⟩
  ·obtain⟨n',r,l,p⟩:=h.large f d b w;exact⟨n',r,QG _ l,p⟩
 ·have page:∀{f:Nat} {d:ThM},s.th[f]?=some (some d)->d.q.cls=-1->d.q.page≠(m:Int):=λ{f d} b x=>by
   have R:=Decidable.byContradiction λE=>by
    have:=(h.small f d b E).1;omega
   obtain⟨n',r,l,p,_⟩:=h.large f d b R;have:=i l;rw[p];simp only
   omega
  rcases A0 b with⟨e1,e2⟩|⟨_,l⟩
  ·rcases A0 K with⟨e3,_⟩|⟨_,A⟩
   ·exact e1.trans e3.symm
   ·rw[e2] at k;exact absurd k.symm (page A L)
  ·rcases A0 K with⟨e3,e4⟩|⟨_,A⟩
   ·rw[e4] at k;exact absurd k (page l x)
   ·exact h.linj f P d Q l A x L k
 ·obtain⟨⟨f,d,S,H,T⟩,U⟩:=h.mv j m' y;exact⟨⟨f,d,S,D5 (λe=>by subst e;rw[ho] at H;cases H) H,T⟩,U⟩
 ·replace y:Zh s.rm j n a≠-1:=y;rcases h.own j n a y with⟨f,d,l,p,A⟩|g
  ·exact .inl ⟨f,d,l,D5 (λe=>by subst e;rw[ho] at p;cases p) p,A⟩
  ·exact .inr g
 ·obtain⟨C,I,J,V⟩:=h.ps o' q G z;refine⟨C,I,J,λf d b=>?_⟩;rcases A0 b with⟨rfl,rfl⟩|⟨_,b⟩
  ·intro e;rw[<-e] at z;exact z rfl
  ·exact V f d b
 ·obtain⟨n,r,C,I,J⟩:=h.pl o' q G z;refine⟨n,r,by show(n,r)∈(D0 s.rm many).lg;rw[D];exact QG _ C,I,λf d b x=>?_⟩;rcases A0 b with⟨rfl,rfl⟩|⟨_,b⟩
  ·have:=i C;simp only
   omega
  ·exact J f d b x
theorem StM.OkP.lay(h:s.OkP c pd)(ho:s.th[o]?=some none)(hf:Qg c s size=0)(hpd:∀o' q,pd=some (o',q)->o'=o):(Yv c s o size).OkP c pd:=by
 obtain⟨g,i⟩:=Xan hf;have base:StM.OkP c {X9 c s o size with th:=s.th.set o (some ⟨size,Zb c s o size⟩)} pd:=by
  cases a:Ce c s size with
  |some m=>
   have e1:X9 c s o size=Y1 {s with mv:=s.mv.set (Xk c.classes size).toNat none,rm:=Qe s.rm (Xk c.classes size) m.pt m.ta o} 3:=by unfold X9;rw[a]
   have e2:Zb c s o size=⟨Xk c.classes size,m.pt,m.ta,[]⟩:=by unfold Zb;rw[a]
   unfold Ce at a;cases j:Xt s (Xk c.classes size) with
   |none=>rw[j] at a;cases a
   |some m'=>
    rw[j] at a;simp only at a
    split at a
    ·cases a
     obtain⟨k,d,_,r⟩:=Qr j;rw[e1,e2,d,XA];exact(h.over ho g d r hpd).tot 3
    ·cases a
  |none=>
   have e1:X9 c s o size={s with rm:=Ab c s.rm o size}:=by unfold X9;rw[a]
   have e2:Zb c s o size=A2 c s.rm o size:=by unfold Zb;rw[a]
   have b:=i a;rw[e1,e2];by_cases f:Xk c.classes size=-1
   ·obtain⟨l,n⟩:=Xls (c:=c) (who:=(o:Nat)) (by omega) b f;rw[l,n];exact h.pages ho g b f
   ·obtain⟨l,n,t⟩:=Xlt (c:=c) (who:=(o:Nat)) (by omega) b f;have p:=XiK (who:=(o:Nat)) h.rm.ok (by omega) b;rw[t] at p;obtain⟨u,v⟩:=Ri f;obtain⟨k,d⟩:=XD u;rw[l,n];rw[d] at p⊢;exact h.block ho g d p
 have e:Yv c s o size=Zw c {X9 c s o size with th:=s.th.set o (some ⟨size,Zb c s o size⟩)} (Zb c s o size) 0 (Xz (Zy c (Zb c s o size).plc).toNat):=by
  unfold Yv Zw Y1;rw[XA]
 rw[e];exact base.put _ _ (Sb _)
theorem Uh{q:PlcM}(h:q.cls≠-1):Ym M q=Qb M q.cls q.page q.idx:=by unfold Ym;rw[if_pos h]
theorem XfR(hok:M.Ok c){r:List Nat}(hm:(n,r)∈M.lg):Ym M ⟨-1,(n:Nat),0,X1 r⟩=Hy M n r:=by
 have a:Cz M.lg ((n:Nat):Int)=some r:=by
  cases b:Cz M.lg ((n:Nat):Int) with
  |none=>exact absurd rfl (Ti b _ hm)
  |some r'=>
   obtain⟨k,e,d⟩:=L1 b;have:k=n:=by omega
   subst this;rw[Tg hok.nd d hm]
 unfold Ym;rw[if_neg (by simp)];simp only
 rw[a]
 simp
theorem StM.OkP.dropped{q:PlcM}(h:s.OkP c (some (o,q))):StM.Ok c {s with rm:=Ym s.rm q}:=by
 by_cases p:q.cls=-1
 ·obtain⟨n,r,u,v,w⟩:=h.pl o q rfl p;rw[v,XfR h.rm.ok u];refine⟨h.may,h.rm.gone u,h.kl,h.kr,h.bl,h.bi,h.tl,h.ml,h.size,h.small,λd f l t=>?_,h.linj,h.mv,λj n' a b=>.inl ?_,(by rintro _ _ ⟨⟩),(by rintro _ _ ⟨⟩)⟩
  ·obtain⟨n',r',H,x,I⟩:=h.large d f l t;refine⟨n',r',?_,x,I⟩;show(n',r')∈Cp s.rm.lg n
   unfold Cp;refine List.mem_filter.2 ⟨H,?_⟩;have:=w d f l (by rw[x]);rw[x] at this;simp only at this
   simp only[bne_iff_ne,ne_eq];omega
  ·replace b:Zh s.rm j n' a≠-1:=b;rcases h.own j n' a b with g|⟨o',g⟩
   ·exact g
   ·have e:=(Prod.mk.inj (Option.some.inj g)).2;have B:j=-1:=by rw[e] at p;exact p
    exact absurd (by rw[B];unfold Zh;rw[Ol (by omega)]) b
 ·obtain⟨u,v,w,J⟩:=h.ps o q rfl p;rw[Uh p];obtain⟨M,C⟩:=XdZ h.rm (k:=q.cls) (n:=q.page) (i:=q.idx) (by rw[v];omega);have keep:∀{j n' a:Int},¬(j=q.cls/\n'=q.page/\a=q.idx)->Zh (Qb s.rm q.cls q.page q.idx) j n' a=Zh s.rm j n' a:=λm=>by rw[C,if_neg m]
  refine⟨h.may,h.rm.give _ _ _,h.kl,h.kr,h.bl,h.bi,h.tl,h.ml,h.size,λd f l t=>?_,λd f l t=>?_,h.linj,λj m' b=>?_,λj n' a b=>.inl ?_,(by rintro _ _ ⟨⟩),(by rintro _ _ ⟨⟩)⟩
  ·obtain⟨K,D,L⟩:=h.small d f l t;refine⟨K,D,(keep ?_).trans L⟩;rintro⟨y,z,A⟩;refine J d f l ?_;obtain⟨sz,E,F,G,N⟩:=f;obtain⟨O,P,Q,R⟩:=q;simp only at *
   rw[y,z,A,D,u]
  ·show ∃n' r,(n',r)∈(Qb s.rm q.cls q.page q.idx).lg/\_
   rw[Ry];exact h.large d f l t
  ·obtain⟨E,F,G⟩:=h.mv j m' b;refine⟨E,(keep ?_).trans F,G⟩;rintro⟨y,z,A⟩;exact w m' (by rw[<-y];exact Cr b) ⟨z,A⟩
  ·replace b:Zh (Qb s.rm q.cls q.page q.idx) j n' a≠-1:=b;have m:¬(j=q.cls/\n'=q.page/\a=q.idx):=λe=>by rw[C,if_pos e] at b;exact b rfl
   show ∃(d:Nat),∃f,Zh (Qb s.rm q.cls q.page q.idx) j n' a=d/\_
   rw[keep m] at b⊢;rcases h.own j n' a b with g|⟨o',g⟩
   ·exact g
   ·have e:=(Prod.mk.inj (Option.some.inj g)).2;exact absurd ⟨by rw[e],by rw[e],by rw[e]⟩ m
theorem StM.OkP.clear{q:PlcM}(h:s.OkP c (some (o,q))):(Au c s q).Ok c:=by
 unfold Au;split
 ·exact h.dropped
 ·exact StM.OkP.go (StM.OkP.begin h.dropped _) _ _
theorem StM.OkP.away(h:s.Ok c){t:ThM}(ht:s.th[o]?=some (some t))(hm:∀(k:Nat) (m:MvM),s.mv[k]?=some (some m)->m.who≠(o:Nat)):StM.OkP c {s with th:=s.th.set o none} (some (o,t.q)):=by
 have f:∀{b:Nat} {d:ThM},(s.th.set o none)[b]?=some (some d)->b≠o/\s.th[b]?=some (some d):=λh1=>by
  rcases Ji h1 with⟨_,e,_⟩|h1
  ·cases e
  ·exact h1
 have p:∀{k:Nat} {m:MvM},s.mv[k]?=some (some m) -> ∀{b:Nat},m.who=(b:Nat)->b≠o:=λB b e1 e=>hm _ _ B (by rw[e1,e]);refine⟨h.may,h.rm,h.kl,h.kr,h.bl,h.bi,by show((s.th.set _ _).length:Int)=_;rw[XG];exact h.tl,h.ml,λb d h1=>h.size b d (f h1).2,λb d h1=>h.small b d (f h1).2,λb d h1=>h.large b d (f h1).2,λb C d E h1 K=>h.linj b C d E (f h1).2 (f K).2,λk m B=>?_,λj n a L=>?_,λo' q F w=>?_,λo' q F w=>?_⟩
 ·obtain⟨⟨b,d,v,G,x⟩,y⟩:=h.mv k m B;exact⟨⟨b,d,v,D5 (p B v) G,x⟩,y⟩
 ·rcases h.own j n a L with⟨b,d,z,u,A|⟨m,A,H,I⟩⟩|⟨_,g⟩
  ·by_cases e:b=o
   ·subst e;rw[ht] at u;cases u
    exact .inr ⟨b,by rw[A]⟩
   ·exact .inl ⟨b,d,z,D5 e u,.inl A⟩
  ·obtain⟨i,ei,_,hi⟩:=Qr A;subst ei;obtain⟨⟨C,E,v,_⟩,y,_⟩:=h.mv i m hi;have:(C:Int)=b:=by rw[<-v,<-y,H,I];exact z
   have l:=p hi v;exact .inl ⟨b,d,z,D5 (by omega) u,.inr ⟨m,A,H,I⟩⟩
  ·cases g
 ·obtain⟨e1,e2⟩:=Prod.mk.inj (Option.some.inj F);subst e1;subst e2;obtain⟨v,G,x⟩:=h.small o t ht (Nn h ht w);refine⟨G,x,λm J=>?_,λb d h1 e=>?_⟩
  ·obtain⟨i,ei,_,hi⟩:=Qr J;rintro⟨M,N⟩;obtain⟨⟨C,E,D,_⟩,y,_⟩:=h.mv i m hi;rw[M,N,<-ei,x,D] at y;exact p hi D (by omega)
  ·obtain⟨l,h1⟩:=f h1;obtain⟨_,_,O⟩:=h.small b d h1 (Nn h h1 (by rw[e];exact w));rw[e,x] at O;omega
 ·obtain⟨e1,e2⟩:=Prod.mk.inj (Option.some.inj F);subst e1;subst e2;have P:=Decidable.byContradiction λl=>by
   have h1:=(h.small o t ht l).1;rw[w] at h1;exact l h1.symm
  obtain⟨n,r,z,u,_⟩:=h.large o t ht P;refine⟨n,r,z,u,λb d h1 D e=>?_⟩;obtain⟨l,h1⟩:=f h1;exact l (h.linj b o d t h1 ht D w (by rw[e,u]))
end
section
variable {c:Conf}{s:StM}{pd:Option (Nat×PlcM)}
theorem Kk(c:Conf)(s:StM)(k:Nat):(Yc c s k).th=s.th/\(Yc c s k).keep=s.keep/\(Yc c s k).bs=s.bs/\(Yc c s k).mv.length=s.mv.length:=by
 unfold Yc;split
 ·exact⟨rfl,rfl,rfl,XG⟩
 ·exact⟨rfl,rfl,rfl,rfl⟩
theorem Pn(s:StM)(k:Nat)(n:Int):(Yo s k n).keep=s.keep/\(Yo s k n).th.length=s.th.length/\(Yo s k n).mv.length=s.mv.length/\(Yo s k n).rm.lg=s.rm.lg:=by
 unfold Yo;split
 ·exact⟨rfl,rfl,rfl,rfl⟩
 ·split
  ·exact⟨rfl,rfl,XG,rfl⟩
  ·exact⟨rfl,XG,XG,Ry _ _ _ _⟩
theorem Xd1(h:s.Ok c)(k:Nat)(n:Int):(∀(o:Nat) t,s.th[o]?=some (some t) -> ∃t',(Yo s k n).th[o]?=some (some t')/\t'.size=t.size/\t'.q.cls=t.q.cls/\t'.q.pages=t.q.pages/\(t.q.cls≠(k:Nat)->t'=t))/\(∀o:Nat,s.th[o]?=some none->(Yo s k n).th[o]?=some none)/\∀j:Int,j≠k->Xt (Yo s k n) j=Xt s j:=by
 unfold Yo;cases p:Xt s (k:Nat) with
 |none=>exact⟨λo t i=>⟨t,i,rfl,rfl,rfl,λ_=>rfl⟩,λ_ h=>h,λ_ _=>rfl⟩
 |some m=>
  obtain⟨j,ej,u,q⟩:=Qr p;obtain rfl:k=j:=by omega
  have d:∀{s':StM} {v:Option MvM},s'.mv=s.mv.set k v -> ∀j:Int,j≠k->Xt s' j=Xt s j:=λ{s' v} e j f=>by
   unfold Xt;split
   ·rename_i w
    rw[e,XC,XC,XQ (by omega)]
   ·rfl
  simp only
  split
  ·exact⟨λo t i=>⟨t,i,rfl,rfl,rfl,λ_=>rfl⟩,λ_ h=>h,d rfl⟩
  ·obtain⟨⟨o,t,e1,e2,e3⟩,_⟩:=h.mv k m q;have l:Qy s m.who=t.size:=by unfold Qy;rw[e1,G6 e2]
   have g:m.who.toNat=o:=by omega
   refine⟨λb r a=>?_,λb a=>?_,d rfl⟩
   ·show ∃t',(s.th.set m.who.toNat _)[b]?=_/\_
    rw[g,l];by_cases e:b=o
    ·subst e;rw[e2] at a;cases a
     exact⟨_,XF ((List.getElem?_eq_some_iff.1 e2).1),rfl,by rw[e3],by rw[e3],λf=>absurd (by rw[e3]) f⟩
    ·exact⟨r,D5 e a,rfl,rfl,rfl,λ_=>rfl⟩
   ·show(s.th.set m.who.toNat _)[b]?=_
    rw[g,XQ (λe=>by subst e;rw[e2] at a;cases a)];exact a
theorem Xd0(h:s.Ok c)(hm:s.mv[k]?=some (some m)){n:Int}(hn:(m.size-m.gone:Nat)<=n):Xt (Yo s k n) (k:Nat)=none:=by
 have a:=(h.mv k m hm).2.2.2.2.2.2;unfold Yo;rw[Cr hm];simp only
 have b:Z1 m n=m.size-m.gone:=by unfold Z1 Du;omega
 rw[if_neg (by omega)];unfold Xt;rw[if_pos (by omega)];show((s.mv.set k none).getD _ none)=none
 rw[XA,XC,XF ((List.getElem?_eq_some_iff.1 hm).1)];rfl
structure Xhh(c:Conf)(s s':StM)(κ:Int):Prop where
 ok:s'.Ok c
 mv:Xt s' κ=none
 other:∀j:Int,j≠κ->Xt s' j=Xt s j
 th:∀(o:Nat) t,s.th[o]?=some (some t) -> ∃t',s'.th[o]?=some (some t')/\t'.size=t.size/\t'.q.cls=t.q.cls/\t'.q.pages=t.q.pages/\(t.q.cls≠κ->t'=t)
 no:∀o:Nat,s.th[o]?=some none->s'.th[o]?=some none
 keep:s'.keep=s.keep/\s'.th.length=s.th.length/\s'.mv.length=s.mv.length/\s'.rm.lg=s.rm.lg
theorem Jt(h:s.Ok c)(κ:Int):Xhh c s (X7 s κ) κ:=by
 have a:=h.finish κ;unfold X7 at a⊢;cases b:Xt s κ with
 |none=>exact⟨h,b,λ_ _=>rfl,λo t e=>⟨t,e,rfl,rfl,rfl,λ_=>rfl⟩,λ_ h=>h,rfl,rfl,rfl,rfl⟩
 |some m=>
  rw[b] at a;obtain⟨k,rfl,j,d⟩:=Qr b;simp only[XA] at a⊢;obtain⟨f,g,i⟩:=Xd1 h k (m.size:Nat);exact⟨a,Xd0 h d (by omega),i,f,g,Pn s k _⟩
theorem Yq{t:ThM}(h:s.th[o]?=some (some t)):Yz s (o:Nat)=t.q:=by unfold Yz;rw[G6 h]
theorem C4{t:ThM}(h:s.th[o]?=some (some t)):Qy s (o:Nat)=t.size:=by unfold Qy;rw[G6 h]
theorem Kq(h:s.Ok c){t:ThM}(ht:s.th[o]?=some (some t)):∃t',(X7 s t.q.cls).th[o]?=some (some t')/\t'.size=t.size/\t'.q.cls=t.q.cls/\t'.q.pages=t.q.pages/\(∀(k:Nat) (m:MvM),(X7 s t.q.cls).mv[k]?=some (some m)->m.who≠(o:Nat)):=by
 have F:=Jt h t.q.cls;obtain⟨t',b,g,a,i,_⟩:=F.th o t ht;refine⟨t',b,g,a,i,λk m d e=>?_⟩;obtain⟨⟨j,n,p,f,l⟩,_⟩:=F.ok.mv k m d;obtain rfl:j=o:=by omega
 rw[b] at f;cases f
 have:Xt (X7 s t.q.cls) (k:Nat)=some m:=Cr d;rw[l] at a;simp only at a
 rw[a,F.mv] at this;cases this
theorem Hs{o:Int}(h:Yl s o=0):∃(j:Nat),∃t,o=j/\s.th[j]?=some (some t):=by
 unfold Yl at h;split at h
 ·exact absurd h (by decide)
 ·cases a:Bt s o with
  |none=>rw[a] at h;exact absurd (show(9:Int)=0 from h) (by decide)
  |some t=>
   obtain⟨j,e,_,b⟩:=Xca a;exact⟨j,t,e,b⟩
theorem Xa0{o:Int}(h1:Yl s o≠1)(h0:Yl s o≠0):∃j:Nat,o=j/\j<s.th.length/\s.th[j]?=some none:=by
 unfold Yl at h1 h0;split at h1
 ·exact absurd rfl h1
 ·rename_i c
  rw[if_neg c] at h0;obtain⟨j,rfl⟩:=XD (show 0<=o by omega);have a:j<s.th.length:=by omega
  refine⟨j,rfl,a,?_⟩;cases b:s.th[j] with
  |none=>rw[XB a,b]
  |some t=>
   have:Bt s (j:Nat)=some t:=G6 (by rw[XB a,b]);rw[this] at h0;exact absurd rfl h0
theorem O5{o:Int}(h:Bh c s o size=0):∃j:Nat,o=j/\j<s.th.length/\s.th[j]?=some none/\Qg c s size=0:=by
 unfold Bh at h;split at h
 ·exact absurd h (by decide)
 ·rename_i e
  split at h
  ·exact absurd h (by decide)
  ·rename_i f
   obtain⟨j,a,b,d⟩:=Xa0 e f;exact⟨j,a,b,d,h⟩
theorem StM.OkP.alloc(h:s.Ok c)(o size:Int):(Q8 c s o size).Ok c:=by
 unfold Q8;split
 ·rename_i a
  obtain⟨j,rfl,_,b,d⟩:=O5 a;exact StM.OkP.lay h b d (by rintro _ _ ⟨⟩)
 ·exact h
theorem StM.OkP.free(h:s.Ok c)(o:Int):(Bq c s o).Ok c:=by
 unfold Bq;split
 ·exact h
 ·rename_i d
  obtain⟨j,t,rfl,a⟩:=Hs (Decidable.not_not.1 d);rw[Yq a];obtain⟨t',b,_,_,_,e⟩:=Kq h a;rw[Yq b,XA];exact((Jt h t.q.cls).ok.away b e).clear
theorem StM.OkP.wrote(h:s.OkP c pd)(o:Int)(i n:Nat)(hi:∀m,Xt s (Yz s o).cls=some m->i+n<=m.size):(Qt s o i n).OkP c pd:=by
 unfold Qt;split
 ·rename_i m a
  split
  ·obtain⟨k,_,_,b⟩:=Qr a;obtain⟨d,e,f,_⟩:=Jz h b;have:=hi m a;refine h.bytes ?_ ?_ _
   ·unfold D7;split
    ·rfl
    ·unfold Q2 at *;exact Pd (by omega) (by omega)
   ·unfold D7;split
    ·exact h.bi
    ·exact Xdu h.bi
  ·exact h
 ·exact h
theorem StM.OkP.sized(h:s.Ok c){t:ThM}(ht:s.th[o]?=some (some t))(hs:Af c t.size size=true)(hr:1<=size/\size<=c.most):(C3 s (o:Nat) ⟨size,t.q⟩).Ok c:=by
 unfold Af at hs;simp only[XJ,Bool.or_eq_true,decide_eq_true_eq] at hs;obtain⟨B,F⟩:=hs;have p:∀{b:Nat} {d:ThM},(s.th.set o (some ⟨size,t.q⟩))[b]?=some (some d) -> ∃f,s.th[b]?=some (some f)/\d.q=f.q/\((b=o/\f=t/\d.size=size)\/(b≠o/\d=f)):=λi=>by
  rcases A0 i with⟨rfl,rfl⟩|⟨w,i⟩
  ·exact⟨t,ht,rfl,.inl ⟨rfl,rfl,rfl⟩⟩
  ·exact⟨_,i,rfl,.inr ⟨w,rfl⟩⟩
 have x:∀{b:Nat} {f:ThM},s.th[b]?=some (some f) -> ∃d,(s.th.set o (some ⟨size,t.q⟩))[b]?=some (some d)/\d.q=f.q:=λ{b f} i=>by
  by_cases e:b=o
  ·subst e;rw[ht] at i;cases i
   exact⟨_,XF ((List.getElem?_eq_some_iff.1 ht).1),rfl⟩
  ·exact⟨f,D5 e i,rfl⟩
 unfold C3;rw[XA];refine⟨h.may,h.rm,h.kl,h.kr,h.bl,h.bi,by show((s.th.set _ _).length:Int)=_;rw[XG];exact h.tl,h.ml,λb d i=>?_,λb d i q=>?_,λb d i q=>?_,λb G d P i q E A C=>?_,λk m H=>?_,λj n a I=>.inl ?_,(by rintro _ _ ⟨⟩),(by rintro _ _ ⟨⟩)⟩
 ·obtain⟨f,l,u,⟨_,_,v⟩|⟨_,rfl⟩⟩:=p i
  ·rw[v];exact hr
  ·exact h.size b d l
 ·obtain⟨f,l,u,⟨_,D,v⟩|⟨_,rfl⟩⟩:=p i
  ·subst D;rw[v,<-B] at q;rw[u,v,<-B];exact h.small b f l q
  ·exact h.small b d l q
 ·obtain⟨f,l,u,⟨_,D,v⟩|⟨_,rfl⟩⟩:=p i
  ·subst D;rw[v,<-B] at q;obtain⟨n,r,y,z,J⟩:=h.large b f l q;refine⟨n,r,y,u.trans z,?_⟩;rw[J,v];unfold Zq;rw[(F.resolve_left (λw=>w q))]
  ·exact h.large b d l q
 ·obtain⟨f,l,u,_⟩:=p i;obtain⟨K,y,z,_⟩:=p q;rw[u] at E C;rw[z] at A C;exact h.linj b G f K l y E A C
 ·obtain⟨⟨b,f,L,M,N⟩,A⟩:=h.mv k m H;obtain⟨d,l,u⟩:=x M;exact⟨⟨b,d,L,l,u.trans N⟩,A⟩
 ·rcases h.own j n a I with⟨b,f,l,u,O⟩|⟨_,g⟩
  ·obtain⟨d,y,z⟩:=x u;exact⟨b,d,l,y,by rw[z];exact O⟩
  ·cases g
theorem Xem(c:Conf)(s:StM)(o:Nat)(size:Int):Yv c {s with th:=s.th.set o none} o size=Yv c s o size:=by
 have e1:Ce c {s with th:=s.th.set o none} size=Ce c s size:=rfl;have e2:Zb c {s with th:=s.th.set o none} o size=Zb c s o size:=rfl;have e3:X9 c {s with th:=s.th.set o none} o size={X9 c s o size with th:=s.th.set o none}:=by unfold X9;rw[e1];split <;> rfl
 unfold Yv;rw[e2,e3];simp only[List.set_set,XA];rfl
theorem XdW(M:RmM)(k n i:Int)(h:Yx c M):M.pl.free.length<=(Qb M k n i).pl.free.length/\∀j,j≠k->Zf (Qb M k n i) j=Zf M j:=by
 unfold Qb;cases a:Zc M k with
 |none=>exact⟨XE _,λ_ _=>rfl⟩
 |some x=>
  obtain⟨l,rfl,b,e⟩:=Dt a;simp only[XA];split
  ·refine⟨?_,λj d=>?_⟩
   ·show _<=(A3 x M.pl n i).free.length
    unfold A3;split
    ·split
     ·show _<=(PlM.give M.pl _).free.length
      unfold PlM.give
      simp
     ·exact XE _
    ·exact XE _
   ·show Zf (D1 M l (Qj x n i) (A3 x M.pl n i)) j=_
    unfold Zf;rw[Om b,if_neg d]
  ·exact⟨XE _,λ_ _=>rfl⟩
theorem Xlq{M':RmM}(h1:M.pl.free.length<=M'.pl.free.length)(h2:Zf M' (Xk c.classes size)=Zf M (Xk c.classes size))(h:Qd c M size=0):Qd c M' size=0:=by
 unfold Qd at h⊢;split at h
 ·exact absurd h (by decide)
 ·rename_i a
  rw[if_neg a];split at h
  ·exact absurd h (by decide)
  ·rename_i b
   rw[if_neg];unfold B8 at b⊢;rw[h2];omega
theorem XiJ(h:s.Ok c){κ:Int}(hne:Xk c.classes size=-1\/Xk c.classes size≠κ)(hf:Qg c s size=0):Qg c (X7 s κ) size=0:=by
 unfold Qg at hf⊢;split at hf
 ·exact absurd hf (by decide)
 ·rename_i g
  rw[if_neg g];have f:Xt (X7 s κ) (Xk c.classes size)=Xt s (Xk c.classes size):=by
   rcases hne with e|e
   ·rw[e];rfl
   ·exact(Jt h κ).other _ e
  rw[f];split at hf
  ·rename_i b;rw[if_pos b]
  ·rename_i b
   rw[if_neg b];refine Xlq ?_ ?_ hf
   ·unfold X7;split
    ·exact XE _
    ·rename_i m a
     obtain⟨k,rfl,_,d⟩:=Qr a;rw[XA];unfold Yo;rw[a];simp only
     split
     ·exact XE _
     ·exact(XdW _ _ _ _ (StM.OkP.step h d _).rm).1
   ·unfold X7;split
    ·rfl
    ·rename_i m a
     obtain⟨k,rfl,_,d⟩:=Qr a;rw[XA];unfold Yo;rw[a];simp only
     split
     ·rfl
     ·rcases hne with e|e
      ·rw[e];unfold Zf;rw[Ol (by omega),Ol (by omega)]
      ·exact(XdW _ _ _ _ (StM.OkP.step h d _).rm).2 _ e
theorem K9(hb:Qn bs)(i n:Nat):Qn (Yr c q bs i n):=λx a=>by
 unfold Yr at a;obtain⟨j,_,rfl⟩:=List.mem_map.1 a;rw[XC];cases b:bs[(Bv c q (i+j)).toNat]? with
 |none=>exact⟨ZO _,by decide⟩
 |some y=>exact hb y (XP b)
theorem Rt{o:Int}(h:B2 c s o size=0):∃(j:Nat),∃t,o=j/\s.th[j]?=some (some t)/\(1<=size/\size<=c.most)/\(Af c t.size size=true\/(Af c t.size size=false/\Qg c s size=0)):=by
 unfold B2 at h;by_cases a:Yl s o=0
 ·rw[if_neg (λe=>e a)] at h;obtain⟨j,t,rfl,d⟩:=Hs a;split at h
  ·exact absurd h (by decide)
  ·rename_i f
   rw[C4 d] at h;refine⟨j,t,rfl,d,by omega,?_⟩;split at h
   ·rename_i b;exact .inl b
   ·rename_i b;exact .inr ⟨by simpa using b,h⟩
 ·rw[if_pos a] at h;exact absurd h a
theorem Xgs{old:Int}(h:Af c old size=false):Xk c.classes size=-1\/Xk c.classes size≠Xk c.classes old:=by
 unfold Af at h;by_cases e:Xk c.classes old=Xk c.classes size
 ·rw[decide_eq_true e,YI] at h;by_cases e1:Xk c.classes old=-1
  ·exact .inl (by omega)
  ·rw[decide_eq_true e1,Bool.true_or] at h;cases h
 ·exact .inr (λh=>e h.symm)
theorem Nm(h:s.OkP c pd){t:ThM}(ht:s.th[o]?=some (some t)):t.q.cls=Xk c.classes t.size:=by
 by_cases a:Xk c.classes t.size=-1
 ·obtain⟨n,r,_,e,_⟩:=h.large o t ht a;rw[e,a]
 ·exact(h.small o t ht a).1
structure Xhi(c:Conf)(s:StM)(o:Nat)(t:ThM)(size:Int)(t':ThM):Prop where
 ok1:(X7 s t.q.cls).Ok c
 th1:(X7 s t.q.cls).th[o]?=some (some t')
 size':t'.size=t.size
 cls':t'.q.cls=t.q.cls
 pages':t'.q.pages=t.q.pages
 away:StM.OkP c {X7 s t.q.cls with th:=(X7 s t.q.cls).th.set o none} (some (o,t'.q))
 fits:Qg c (X7 s t.q.cls) size=0
 ok2:(Yv c (Y1 (X7 s t.q.cls) (X5 c t'.q.plc 0 (min t.size size).toNat)) o size).OkP c (some (o,t'.q))
theorem L4(h:s.Ok c){t:ThM}(ht:s.th[o]?=some (some t))(hs:Af c t.size size=false)(hf:Qg c s size=0):∃t',Xhi c s o t size t':=by
 obtain⟨t',b,g,i,j,k⟩:=Kq h ht;have F:=Jt h t.q.cls;have a:=XiJ (κ:=t.q.cls) h (by rw[(Nm h ht)];exact Xgs hs) hf;have d:=F.ok.away b k;refine⟨t',F.ok,b,g,i,j,d,a,?_⟩;have f:=StM.OkP.lay (o:=o) (size:=size) (d.tot (X5 c t'.q.plc 0 (min t.size size).toNat)) (by show((X7 s t.q.cls).th.set o none)[o]?=_;rw[XF ((List.getElem?_eq_some_iff.1 b).1)]) a (λo' q e=>by cases e;rfl);have e:Y1 {X7 s t.q.cls with th:=(X7 s t.q.cls).th.set o none} (X5 c t'.q.plc 0 (min t.size size).toNat)={Y1 (X7 s t.q.cls) (X5 c t'.q.plc 0 (min t.size size).toNat) with th:=(Y1 (X7 s t.q.cls) (X5 c t'.q.plc 0 (min t.size size).toNat)).th.set o none}:=rfl;rw[e,Xem] at f;exact f
theorem StM.OkP.moveTo(h:s.Ok c){t:ThM}(ht:s.th[o]?=some (some t))(hs:Af c t.size size=false)(hf:Qg c s size=0):(G5 c s o size).Ok c:=by
 obtain⟨t',M⟩:=L4 h ht hs hf;unfold G5;simp only
 rw[Yq ht,Yq M.th1,C4 ht];exact(M.ok2.put _ _ (K9 M.ok1.bi _ _)).clear
theorem Xfc{n:Int}(h:Xk zs n=(k:Nat)):n<=zs.getD k 0:=by
 unfold Xk at h;split at h
 ·omega
 ·unfold idx at h;split at h
  ·rename_i i hi
   obtain⟨a,b,_⟩:=List.findIdx?_eq_some_iff_getElem.1 hi;obtain rfl:i=k:=by omega
   rw[XC,XB a];exact of_decide_eq_true b
  ·omega
theorem Pr(h:s.OkP c pd)(hm:s.mv[k]?=some (some m)){t:ThM}(ht:s.th[o]?=some (some t))(hc:t.q.cls=(k:Nat)):t.size<=m.size:=by
 have a:=Nm h ht;rw[hc] at a;rw[((h.mv k m hm).2.2.2.2.2.1)];unfold Yb;rw[XA];have b:Xk c.classes t.size≠-1:=by omega
 obtain⟨_,d⟩:=Ri b;exact Xfc a.symm
theorem StM.OkP.resize(h:s.Ok c)(o size:Int):(Ac c s o size).Ok c:=by
 unfold Ac;split
 ·exact h
 ·rename_i i
  obtain⟨j,t,rfl,a,e,d⟩:=Rt (Decidable.not_not.1 i);rw[C4 a,Yq a];split
  ·rename_i b
   split
   ·rename_i p
    refine(StM.OkP.sized (h.put t.q size.toNat (Sb (t.size-size).toNat)) (o:=j) (t:=t) a b e).wrote _ _ _ λm f=>?_;have q:=h.size j t a;have l:(C3 (Zw c s t.q size.toNat (Xz (t.size-size).toNat)) (j:Nat) ⟨size,t.q⟩).th[j]?=some (some ⟨size,t.q⟩):=by
     show(s.th.set (j:Int).toNat _)[j]?=_
     rw[XA,XF ((List.getElem?_eq_some_iff.1 a).1)]
    rw[Yq l] at f;obtain⟨k,ek,_,g⟩:=Qr f;have:=Pr h (k:=k) (m:=m) g a ek;omega
   ·exact h.sized a b e
  ·rename_i b
   rcases d with d|⟨d,n⟩
   ·exact absurd d b
   ·exact h.moveTo a d n
theorem Vf{o i n:Int}(h:Qp s o i n=0):∃(j:Nat),∃t,o=j/\s.th[j]?=some (some t)/\0<=i/\0<=n/\i+n<=t.size:=by
 unfold Qp at h;by_cases a:Yl s o=0
 ·rw[if_neg (λc=>c a)] at h;obtain⟨j,t,rfl,b⟩:=Hs a;rw[C4 b] at h;split at h
  ·exact absurd h (by decide)
  ·exact⟨j,t,rfl,b,by omega,by omega,by omega⟩
 ·rw[if_pos a] at h;exact absurd h a
theorem StM.OkP.read(h:s.Ok c)(o i n:Int):(Br c s o i n).Ok c:=by
 unfold Br;split
 ·exact h.tot _
 ·exact h
theorem StM.OkP.write(h:s.Ok c)(o i:Int)(hl:Qn l):(Cc c s o i l).Ok c:=by
 unfold Cc;split
 ·rename_i e
  obtain⟨j,t,rfl,a,f,_,g⟩:=Vf e;refine(h.put _ _ hl).wrote _ _ _ λm b=>?_;rw[(Yq (s:=Zw c s (Yz s (j:Nat)) i.toNat l) a)] at b;obtain⟨k,ek,_,d⟩:=Qr b;have:=Pr h (k:=k) (m:=m) d a ek;omega
 ·exact h
theorem StM.OkP.tickK(h:s.Ok c)(n:Int)(k:Nat):(tickK c (s,n) k).1.Ok c:=by
 unfold Go.Proofs.YtohjeeapehmkcaaGreatDoor.tickK;split
 ·exact h
 ·split
  ·exact h.begin k
  ·exact(StM.OkP.begin h k).go k _
theorem Jl(c:Conf)(s:StM)(n:Nat):tickTo c s (n+1)=tickK c (tickTo c s n) n:=by
 unfold tickTo;rw[YX,List.foldl_append];rfl
theorem StM.OkP.tickTo(h:s.Ok c):∀n,(tickTo c s n).1.Ok c
 |0=>h
 |n+1=>by rw[Jl];exact StM.OkP.tickK (StM.OkP.tickTo h n) _ _
theorem StM.OkP.tick(h:s.Ok c):(C5 c s).Ok c:=h.tickTo _
theorem StM.OkP.set(h:s.Ok c)(k keep:Int):(Dj s k keep).Ok c:=by
 unfold Dj;split
 ·rename_i a
  unfold Cv at a;split at a
  ·exact absurd a (by decide)
  ·refine⟨h.may,h.rm,by show(s.keep.set _ _).length=_;rw[XG];exact h.kl,λx b=>?_,h.bl,h.bi,h.tl,h.ml,h.size,h.small,h.large,h.linj,h.mv,h.own,h.ps,h.pl⟩;rcases ZM b with b|rfl
   ·exact h.kr x b
   ·omega
 ·exact h
end
structure H4(F:Nat->Prop)(w:World)(R:Rm)(z:Nat):Prop where
 f:¬F z
 rb:R.rb≠z
 sb:R.sb≠z
 tb:0≠z
 ca:∀off s,R.p.ca≠some ⟨z,off,s⟩
 ka:∀off s,R.p.ka≠some ⟨z,off,s⟩
 lb:kd w z≠some (some 290)
 pg:kd w z≠some (some 286)
 int:kd w z=some (some 3)->R.X z
theorem Zm.other(h:Zm F w R M)(hc:Xc S w w')(hS:∀z,S z->H4 F w R z):Zm F w' R M:=by
 have t:=hc.size;have out:∀{a:Option Addr} {l:List Int},A1 F w a l->(∀z,S z -> ∀off s,a≠some ⟨z,off,s⟩)->A1 F w' a l:=λ{a l} g o=>⟨g.1.far (λb off s e c=>o b c off s e) hc,g.2⟩;have pb:¬S R.P.pb:=λc=>(hS _ c).f (h.pf _ (.inl rfl));have ab:¬S R.P.ab:=λc=>(hS _ c).f (h.pf _ (.inr rfl));refine⟨h.ok,hc.heap h.obj (λc=>(hS _ c).rb rfl),out h.cls (λz c=>(hS z c).ca),out h.kee (λz c=>(hS z c).ka),h.may,λb p=>?_,λk i=>hc.cell (h.sl k i) (λc=>(hS _ c).sb rfl),h.pool.chg hc pb ab,h.pf,?_,h.lg.chg hc (λz c e=>.inr ((hS z e).int c)) (λc=>(hS _ c).f h.lf),h.lf,h.rf,h.sf,λz c=>by have:=h.low z c;omega,h.tab.chg hc (λc=>(hS _ c).tb rfl),h.tf,λz c=>⟨by have:=(h.xl z c).1;omega,(h.xl z c).2⟩⟩
 ·obtain⟨f,j⟩:=h.met b p;exact⟨f,hc.heap j.1 (λe=>(hS _ e).f f),j.2⟩
 ·obtain⟨G,a,e⟩:=h.sh;refine⟨G,λk x q=>?_,e⟩;obtain⟨f,d,m⟩:=a k x q;have nf:∀z,S z -> ¬Qf (R.S _) (G _) x.pg z:=λz c r=>(hS z c).f (m z r).1;exact⟨f,⟨d.ok,d.pos,d.of,d.at'.chg hc (λz c=>⟨λe=>nf z c (.inl e),λe=>nf z c (.inr (.inl e)),λe=>(hS z c).lb (e▸d.at'.kds.lb),λe=>nf z c (.inr (.inr (.inl e)))⟩) (λz c e n=>⟨λe'=>(hS z c).pg (e'▸(d.at'.pages e n).kds.p),λe'=>nf z c (.inr (.inr (.inr ⟨e,n,e'⟩)))⟩) (λc=>(hS _ c).tb rfl),d.pool.chg hc (by rw[f];exact pb) (by rw[f];exact ab)⟩,m⟩
theorem Fg.keep(h:Fg F w w' R M){z:Nat}{o:Obj}(hz:w.heap[z]?=some o)(hf:¬F z):∃F',Zm F' w' R M/\(∀z,F' z->F z\/w.heap.size<=z)/\Xc F w w'/\w'.heap[z]?=some o/\¬F' z:=by
 obtain⟨F',a,b,c⟩:=h;exact⟨F',a,b,c,c.heap hz hf,λh=>(b z h).elim hf (λh=>by have:=Xg hz;omega)⟩
theorem XmQ{m:Nat}(h:off+m<=n):sub (Xz n) off m=List.replicate m 0:=by
 unfold sub Xz;rw[List.drop_replicate,List.take_replicate,Nat.min_eq_left (by omega)]
theorem Xnd(v:Vw)(vb:Nat)(A:Ar)(V:ArV)(i m:Nat)(w:World)(hvb:Fw w vb v)(hv:w.heap[v.vb]?=some (.cells (Mq v).toArray 188 (0,0)))(hab:v.ab=A.ab)(hA:X2 w A V)(him:i+m<=V.bs.length):Xf prog 149 #[.int .i64 i,.int .i64 m,.pointer (some ⟨vb,0,none⟩)] w (λ_ w'=>X2 w' A {V.charge A m with bs:=Q1 V.bs i (List.replicate m 0)}/\Xc (Zr A) w w'):=by
 refine ζe func149 ntmps149 ϱ (ζl hvb ϱ (ζl hv ϱ ?_));rw[hab];refine ζc ϱ (Xhy A V i m 0 w hA him (by decide)) ?_;rintro _ c ⟨rfl,a,b⟩;exact ζa ϱ (ζr func149 ϱ ⟨a,b⟩)
theorem Xnc(v:Vw)(q:Plc)(at' n:Nat)(A:Ar)(V:ArV)(w:World)(hv:Bj w v)(hq:Zl w q)(hmb:v.mb=A.mb)(hab:v.ab=A.ab)(hck:Qu v.c q at' n=0)(hfew:q.pages.length<=4096)(hPv:¬Zr A v.vb)(hPq:0<q.pages.length->Xj (Zr A) q.pa)(hPc:0<v.c.classes.length->Xj (Zr A) v.p.ca)(hPk:0<v.c.keep.length->Xj (Zr A) v.p.ka)(hA:X2 w A V)(hlen:(V.bs.length:Int)=v.c.size*v.c.pages):Xf prog 87 #[D6 v,.agg (Xv q).toArray,.int .i64 at',.int .i64 n] w (λu w'=>u=.int .i64 0/\X2 w' A (Bu q A V (Z3 v.c q at' n) (Xz n) (Z3 v.c q at' n).length)/\Xc (Zr A) w w'):=by
 obtain⟨ps,c⟩:∃ps,ps=Z3 v.c q at' n:=⟨_,rfl⟩;have f:∀p∈ps,∃i m:Nat,p=((i:Int),(m:Int))/\i+m<=V.bs.length:=λp g=>by
  obtain⟨i,m,W,h2⟩:=Ra hv.may hck hfew p (c▸g);exact⟨i,m,W,by omega⟩
 have H:Zt ps=n:=by rw[c];exact N9 hv.may
 have K:(Xz n).length=n:=XH;rw[<-c];refine ζe func87 ntmps87 ϱ (ζn ϱ λvb w1 e1 L M a6=>ζn ϱ λqb j e2 l E a7=>?_);replace l:Ik j qb q:=l;have o:=M.trans E;have r:Fw j vb v:=E.heap' L;refine ζl r ϱ (ζl l ϱ ?_);have d:=foot_lt hA;have b:∀z,Y3 A z->Zr A z:=λz h=>.inr h;have a8:=Xg hv.obj;have N:=Xcj v q at' n 149 [.pointer (some ⟨vb,0,none⟩)] A (Bu q A V ps (Xz n))
  (λk Y x=>(∀z,Y z↔Zr A z)/\Fw x vb v/\x.heap[v.vb]?=some (.cells (Mq v).toArray 188 (0,0))/\j.heap.size<=x.heap.size)
  (Zr A) j (hv.grow o) (hq.grow o) hmb hck hfew
  (by rintro(h|h);exact hPv h;exact hPv (b _ h))
  (hq.rd.outNew hPq (λz a=>by rcases a with h|h;exact .inl h;exact .inl (b _ h)))
  (hv.conf.classes.outNew hPc (λz a=>by rcases a with h|h;exact .inl h;exact .inl (b _ h)))
  (hv.conf.keep.outNew hPk (λz a=>by rcases a with h|h;exact .inl h;exact .inl (b _ h)))
  (by
   rintro k Y x ⟨e,s,t,B⟩ z a;have:=d z ((e z).1 a);omega)
  (by
   rintro k Y x y S ⟨e,s,t,B⟩ I hS;have no:∀z,z<j.heap.size -> ¬Y3 A z -> ¬S z:=λz a hm h=>(hS z h).elim hm (λh=>by omega);exact⟨e,I.heap s (no _ (by omega) (λh=>by have:=d _ (b _ h);omega)),I.heap t (no _ (by omega) (λh=>hPv (b _ h))),ZV B I.size⟩)
  (by
   rintro k Y x C O ⟨e,s,t,B⟩;rw[<-c] at C;obtain⟨i,m,g,P⟩:=f ps[k] (XK C);have F:(By q A (Bu q A V ps (Xz n) k)).bs=(Bu q A V ps (Xz n) k).bs:=Sz _ _ _;have J:(Bu q A V ps (Xz n) k).bs.length=V.bs.length:=Xcn f (by rw[K];exact H) (by omega);have G:=R6 C;rw[g] at G;simp only[XA] at G;have hR:=Xnd v vb A (By q A (Bu q A V ps (Xz n) k)) i m x s t hab O (by rw[F,J];exact P);simp only[<-c];rw[g];refine hR.mono λ_ y ⟨Q,D⟩=>?_;rw[F] at Q;refine⟨by rw[R8 C g,XmQ (by omega)];exact Q,D.mono λz _ a=>(e z).2 a,Y,⟨e,?_,?_,ZV B D.size⟩,λz a=>.inl a⟩
   ·exact D.heap s (λh=>by have:=d _ h;omega)
   ·exact D.heap t hPv)
  (hA.grow o) ⟨λz=>Iff.rfl,r,o.heap' hv.obj,XE _⟩
 rw[<-c] at N;refine ζc ϱ (N) ?_;rintro _ w4 ⟨rfl,R,_,T⟩;refine ζa rfl ?_;have U:Xc (Zr A) w w4:=o.gr.since T (λz a h=>by rcases h with h|h;exact h;exact b _ h);exact Xa.ret1 Xb rfl func87 rfl rfl ⟨rfl,R,U⟩
structure Sto where
 sb:Nat
 c:Conf
 p:Yu
 kb:Nat
 kc:Nat
 kr:List Value
 mb:Nat
 A:Ar
 R:Rm
 v:Vw
 tm:Nat
 vb:Nat
 vc:Nat
abbrev Zx(S:Sto):Value:=.pointer (some ⟨S.sb,0,none⟩)
def Ov(S:Sto)(nk nm:Nat)(by':Int):List Value:=Zj S.c S.p++[.slice (some ⟨S.kb,0,none⟩) nk S.kc,.pointer (some ⟨S.mb,0,none⟩),.pointer (some ⟨S.A.ab,0,none⟩),B9 S.R,D6 S.v,.map (some S.tm),.slice (some ⟨S.vb,0,none⟩) nm S.vc,.int .i64 by']
def El(size:Int)(q:Plc):List Value:=.int .i64 size::Xv q
abbrev Mo:=List (Option (Nat×MvM))
def Dy:Option (Nat×MvM)->List Value
 |none=>[.pointer none,.int .i64 0,.int .i64 0,.int .i64 0,.int .i64 0,.int .i64 0]
 |some (b,m)=>[.pointer (some ⟨b,0,none⟩),.int .i64 m.who,.int .i64 m.pf,.int .i64 m.fa,.int .i64 m.pt,.int .i64 m.ta]
theorem XeP(x:Option (Nat×MvM)):(Dy x).length=6:=by cases x <;> rfl
def Gs(mo:Mo):List (Option MvM):=mo.map λx=>x.map (·.2)
abbrev D9(S:Sto)(s:StM):ArV:=⟨s.bs,s.rm.tot,S.R.lap⟩
abbrev Ef(b:Nat)(m:MvM):Mv:=⟨b,m.f,m.t,m.size⟩
def Dv(w:World)(a:Option Addr):Prop:=∀b off s,a=some ⟨b,off,s⟩->kd w b=some (some 3)
theorem Dv.lt{w:World}(h:Dv w a):Yj w a:=λb off s e=>Eu (h b off s e)
theorem Dv.chg{S:Nat->Prop}{w w':World}(h:Dv w a)(hc:Xc S w w')(hS:Xj S a):Dv w' a:=λb off s e=>Fo hc (h b off s e) (hS b off s e)
theorem Dv.grow{w w':World}(h:Dv w a)(hc:Xc Xe w w'):Dv w' a:=h.chg hc (λ_ _ _ _ h=>h)
def O4(F:Nat->Prop)(w:World)(tm:Nat)(th:List (Option ThM))(al:AL):Prop:=Y6 w tm al/\(Bc al).Nodup/\
 (∀(o:Nat) t,th[o]?=some (some t) -> ∃q:Plc,Xy q=t.q/\Bk al o=some (.agg (El t.size q).toArray)/\Zl w q/\Xj F q.pa/\Dv w q.pa)/\∀k:Int,(∀(o:Nat) t,th[o]?=some (some t)->(o:Int)≠k)->Bk al k=none
def Gh(F:Nat->Prop)(w:World)(tm:Nat)(th:List (Option ThM)):Prop:=∃al,O4 F w tm th al
theorem Gh.far{F S:Nat->Prop}{w w':World}{tm:Nat}{th:List (Option ThM)}(h:Gh F w tm th)(hc:Xc S w w')(hS:∀z,S z->F z)(hm:¬S tm):Gh F w' tm th:=by
 obtain⟨al,a,b,d,e⟩:=h;exact⟨al,a.chg hc hm,b,λo t g=>by
  obtain⟨q,i,j,f,c,k⟩:=d o t g;exact⟨q,i,j,⟨f.rd.far (c.mono hS) hc,f.len⟩,c,k.chg hc (c.mono hS)⟩,e⟩
theorem Gh.wide{F:Nat->Prop}{w:World}(h:Gh F w tm th)(hF:∀z,F' z->F z\/w.heap.size<=z):Gh F' w tm th:=by
 obtain⟨al,a,b,d,e⟩:=h;exact⟨al,a,b,λo t f=>by
  obtain⟨q,g,i,j,k,c⟩:=d o t f;exact⟨q,g,i,j,λb off s e l=>(hF b l).elim (k b off s e) (λh=>by have:=Eu (c b off s e);omega),c⟩,e⟩
structure Xr(F Fr:Nat->Prop)(w:World)(S:Sto)(s:StM)(by':Int)(mo:Mo):Prop where
 obj:w.heap[S.sb]?=some (.cells (Ov S s.keep.length s.mv.length by').toArray 90 (0,0))
 kee:w.heap[S.kb]?=some (.cells (s.keep.map (Value.int .i64)++S.kr).toArray 3 (0,0))
 kcap:s.keep.length<=S.kc
 room:Zm Fr w S.R s.rm
 ar:X2 w S.A (D9 S s)
 vw:Bj w S.v
 th:Gh F w S.tm s.th
 mvs:w.heap[S.vb]?=some (.cells (fl Dy mo).toArray 96 (0,0))
 mvc:s.mv.length<=S.vc
 mom:Gs mo=s.mv
 mob:∀(k b:Nat) m,mo[k]?=some (some (b,m))->w.heap[b]?=some (.cells (N4 S.A (Ef b m) m.gone).toArray 158 (0,0))/\F b/\¬Fr b
 mdj:∀(j k b:Nat) m m',mo[j]?=some (some (b,m))->mo[k]?=some (some (b,m'))->j=k
 rc:S.R.c=S.c
 rp:S.R.p=S.p
 rmo:S.R.mo=some S.mb
 rX:S.R.X=λz=>z=S.kb
 amb:S.A.mb=some S.mb
 vc:S.v.c=S.c
 vp:S.v.p=S.p
 vab:S.v.ab=S.A.ab
 vmb:S.v.mb=some S.mb
 f1:∀z,Fr z->F z
 f2:F S.sb/\F S.kb/\F S.A.db/\F S.tm/\F S.vb
 nr:¬Fr S.sb/\¬Fr S.kb/\¬Fr S.A.db/\¬Fr S.tm/\¬Fr S.vb
 nF:¬F S.A.ab/\¬F S.A.mc/\¬F S.v.vb/\¬F S.R.rb/\¬F S.R.sb/\¬F 0
 ca:A1 F w S.p.ca S.c.classes
 ka:A1 F w S.p.ka S.c.keep
 low:∀z,F z->z<w.heap.size
section
variable {F Fr:Nat->Prop}{w w':World}{S:Sto}{s:StM}{by':Int}{mo:Mo}
theorem Xr.lt(h:Xr F Fr w S s by' mo):S.sb<w.heap.size/\S.kb<w.heap.size/\S.A.db<w.heap.size/\S.tm<w.heap.size/\S.vb<w.heap.size:=
 ⟨h.low _ h.f2.1,h.low _ h.f2.2.1,h.low _ h.f2.2.2.1,h.low _ h.f2.2.2.2.1,h.low _ h.f2.2.2.2.2⟩
theorem Gh.kd(h:Gh F w S.tm s.th):kd w S.tm=some none:=by
 obtain⟨al,a,_⟩:=h;exact Ps a
theorem Xr.mb(h:Xr F Fr w S s by' mo):F S.mb/\Fr S.mb/\A9 w S.mb s.rm.tot S.R.lap:=by
 obtain⟨a,b⟩:=h.room.met _ h.rmo;exact⟨h.f1 _ a,a,b⟩
theorem Xr.ext(h:Xr F Fr w S s by' mo){z:Nat}{x:Option Nat}(hF:F z)(hn:¬Fr z)(hk:kd w z=some x)(hx:∀t,x=some t->t≠290/\t≠286/\t≠166/\(t=3->z=S.kb)):H4 Fr w S.R z:=by
 obtain⟨k,m,n,d,f,i⟩:=h.nF;have b:=Yp h.room.may;have far:∀{a:Option Addr} {l:List Int},A1 F w a l->0<l.length -> ∀off s,a≠some ⟨z,off,s⟩:=λg j off s e=>g.2 j z off s e hF;have c:=h.rc;refine⟨hn,λe=>d (e▸hF),λe=>f (e▸hF),λe=>i (e▸hF),?_,?_,λe=>?_,λe=>?_,λe=>?_⟩
 ·rw[h.rp];exact far h.ca (by rw[c] at b;have:=b.n;omega)
 ·rw[h.rp];exact far h.ka (by rw[c] at b;have:=b.keep;have:=b.n;omega)
 ·rw[hk] at e;exact(hx _ (Option.some.inj e)).1 rfl
 ·rw[hk] at e;exact(hx _ (Option.some.inj e)).2.1 rfl
 ·rw[hk] at e;rw[h.rX];exact(hx _ (Option.some.inj e)).2.2.2 rfl
theorem Xr.ext'(h:Xr F Fr w S s by' mo){z:Nat}(hF:F z)(hn:¬Fr z)(hk:kd w z=some (some t))(ht:t≠290/\t≠286/\t≠166/\t≠3):H4 Fr w S.R z:=
 h.ext hF hn hk (λt' e=>by cases e;exact⟨ht.1,ht.2.1,ht.2.2.1,λe=>absurd e ht.2.2.2⟩)
theorem Xr.extMap(h:Xr F Fr w S s by' mo):H4 Fr w S.R S.tm:=h.ext h.f2.2.2.2.1 h.nr.2.2.2.1 h.th.kd (λt e=>by cases e)
theorem Xr.extKeep(h:Xr F Fr w S s by' mo):H4 Fr w S.R S.kb:=h.ext h.f2.2.1 h.nr.2.1 (Yk h.kee) (λt e=>by cases e;exact⟨by decide,by decide,by decide,λ_=>rfl⟩)
theorem Xr.grow(h:Xr F Fr w S s by' mo)(hc:Xc Xe w w'):Xr F Fr w' S s by' mo:=
 {h with
  obj:=hc.heap' h.obj,kee:=hc.heap' h.kee,room:=h.room.grow hc,ar:=h.ar.grow hc,vw:=h.vw.grow hc,th:=h.th.far hc (λ_ h=>h.elim) id,mvs:=hc.heap' h.mvs,
  mob:=λk b m c=>by obtain⟨a,d⟩:=h.mob k b m c;exact⟨hc.heap' a,d⟩,
  ca:=h.ca.chg hc (λ_ h=>h.elim),ka:=h.ka.chg hc (λ_ h=>h.elim),low:=λz e=>by have:=h.low z e;have:=hc.size;omega}
structure Xcz(F:Nat->Prop)(w:World)(S:Sto)(z:Nat):Prop where
 f:¬F z
 e1:S.A.ab≠z/\S.A.mc≠z/\S.v.vb≠z/\S.R.rb≠z/\S.R.sb≠z/\0≠z
 ca:∀off s,S.p.ca≠some ⟨z,off,s⟩
 ka:∀off s,S.p.ka≠some ⟨z,off,s⟩
 kd:∃t,kd w z=some (some t)/\t≠290/\t≠286/\t≠3
def Xhp(S:Nat->Prop)(w:World)(tm:Nat):Prop:=∀al,Y6 w tm al -> ∀(k:Int) sz (q:Plc),Bk al k=some (.agg (El sz q).toArray)->Xj S q.pa
theorem Xr.other{T:Nat->Prop}(h:Xr F Fr w S s by' mo)(hc:Xc T w w')(hT:∀z,T z->Xcz F w S z)(ho:Xhp T w S.tm):Xr F Fr w' S s by' mo:=by
 have nf:∀{z:Nat},F z -> ¬T z:=λi j=>(hT _ j).f i;have n:∀z,T z->H4 Fr w S.R z:=λz c=>by
  have e:=hT z c;obtain⟨t,v,x,y,A⟩:=e.kd;have d:∀{t':Nat},t≠t'->Go.Proofs.YtohjeeapehmkcaaGreatDoor.kd w z≠some (some t'):=λh e=>h (Option.some.inj (Option.some.inj (v.symm.trans e)));exact⟨λi=>e.f (h.f1 z i),e.e1.2.2.2.1,e.e1.2.2.2.2.1,e.e1.2.2.2.2.2,by rw[h.rp];exact e.ca,by rw[h.rp];exact e.ka,d x,d y,λe=>absurd e (d A)⟩
 have far:∀{a:Option Addr} {l:List Int},A1 F w a l->(∀z,T z -> ∀off s,a≠some ⟨z,off,s⟩)->A1 F w' a l:=λg B=>⟨g.1.far (λb off s e c=>B b c off s e) hc,g.2⟩;have r:Bj w' S.v:=⟨hc.heap h.vw.obj (λc=>(hT _ c).e1.2.2.1 rfl),by
  have:=h.vw.conf;rw[h.vc,h.vp] at this⊢;exact⟨this.classes.far (λb off s e c=>(hT b c).ca off s e) hc,this.keep.far (λb off s e c=>(hT b c).ka off s e) hc,this.lc,this.lk,this.size⟩,h.vw.may⟩
 refine {h with
  obj:=hc.heap h.obj (nf h.f2.1),kee:=hc.heap h.kee (nf h.f2.2.1),room:=h.room.other hc n,
  ar:=h.ar.chg hc (λb hb c=>?_),vw:=r,th:=?_,mvs:=hc.heap h.mvs (nf h.f2.2.2.2.2),
  mob:=λk b m C=>by obtain⟨a,d⟩:=h.mob k b m C;exact⟨hc.heap a (nf d.1),d⟩,
  ca:=far h.ca (λz c=>(hT z c).ca),ka:=far h.ka (λz c=>(hT z c).ka),low:=λz c=>by have:=h.low z c;have:=hc.size;omega}
 ·rcases hb with rfl|rfl|rfl|hb
  ·exact(hT _ c).e1.1 rfl
  ·exact nf h.f2.2.2.1 c
  ·exact(hT _ c).e1.2.1 rfl
  ·rw[h.amb] at hb;cases hb;exact nf h.mb.1 c
 ·have f:=ho;obtain⟨al,a,b,d,e⟩:=h.th;exact⟨al,a.chg hc (nf h.f2.2.2.2.1),b,λo t j=>by
   obtain⟨q,D,p,u,E,G⟩:=d o t j;exact⟨q,D,p,⟨u.rd.far (f al a _ _ _ p) hc,u.len⟩,E,G.chg hc (f al a _ _ _ p)⟩,e⟩
theorem Xr.own(h:Xr F Fr w S s by' mo)(hc:Xc T w w')(hT:∀z,T z->F z/\H4 Fr w S.R z):Zm Fr w' S.R s.rm/\Bj w' S.v/\(¬T S.tm->Gh F w' S.tm s.th)/\(¬T S.A.db->X2 w' S.A (D9 S s))/\A1 F w' S.p.ca S.c.classes/\A1 F w' S.p.ka S.c.keep/\(∀z,F z->z<w'.heap.size)/\A9 w' S.mb s.rm.tot S.R.lap:=by
 obtain⟨d,e,f,k,l,m⟩:=h.nF;have c:¬T S.mb:=λa=>(hT _ a).2.f h.mb.2.1;refine⟨h.room.other hc (λz a=>(hT z a).2),⟨hc.heap h.vw.obj (λa=>f (hT _ a).1),?_,h.vw.may⟩,λg=>h.th.far hc (λz a=>(hT z a).1) g,λi=>h.ar.chg hc (λb hb a=>?_),h.ca.chg hc (λz a=>(hT z a).1),h.ka.chg hc (λz a=>(hT z a).1),λz a=>by have:=h.low z a;have:=hc.size;omega,h.mb.2.2.1|> λj=>⟨hc.heap j c,h.mb.2.2.2⟩⟩
 ·have:=h.vw.conf;rw[h.vc,h.vp] at this⊢;exact⟨(h.ca.chg hc (λz a=>(hT z a).1)).1,(h.ka.chg hc (λz a=>(hT z a).1)).1,this.lc,this.lk,this.size⟩
 ·rcases hb with rfl|rfl|rfl|hb
  ·exact d (hT _ a).1
  ·exact i a
  ·exact e (hT _ a).1
  ·rw[h.amb] at hb;cases hb;exact c a
end
variable {mo:Mo}
theorem Zm.charge2{F:Nat->Prop}{w w':World}(h:Zm F w R M)(hb:R.mo=some b){t:Int}(hm:A9 w' b t R.lap)(hc:Xc T w w')(hT:∀z,T z->z=b\/H4 F w R z):Zm F w' R {M with tot:=t}:=by
 obtain⟨f,p⟩:=h.met b hb;have kb:=L0 p;have kp:=h.pool.kds;have A:=hc.size;have no:∀{z:Nat} {x:Option Nat},kd w z=some x->x≠some 154 -> ¬H4 F w R z -> ¬T z:=λi j u hz=>by
  rcases hT _ hz with e|e
  ·subst e;rw[kb] at i;exact j (Option.some.inj i).symm
  ·exact u e
 have mf:∀{z:Nat} {x:Option Nat},kd w z=some x->x≠some 154->F z -> ¬T z:=λi j n=>no i j (λe=>e.f n);have out:∀{a:Option Addr} {l:List Int},A1 F w a l->(∀z,H4 F w R z -> ∀off s,a≠some ⟨z,off,s⟩)->A1 F w' a l:=λ{a l} g v=>by
  refine⟨?_,g.2⟩;by_cases y:0<l.length
  ·exact g.1.far (λb' off s e hz=>by
    rcases hT _ hz with e'|e'
    ·subst e';exact g.2 y b' off s e f
    ·exact v b' e' off s e) hc
  ·have:l=[]:=YC (by omega);subst this;exact Rd.nil _ _ _
 have rbn:¬T R.rb:=λhz=>(hT _ hz).elim (λe=>h.rf (e▸f)) (λe=>e.rb rfl);have sbn:¬T R.sb:=λhz=>(hT _ hz).elim (λe=>h.sf (e▸f)) (λe=>e.sb rfl);have tbn:¬T 0:=λhz=>(hT _ hz).elim (λe=>h.tf (e▸f)) (λe=>e.tb rfl);have pb:=mf kp.1 (by decide) (h.pf _ (.inl rfl));have ab:=mf kp.2 (by decide) (h.pf _ (.inr rfl));refine⟨{h.ok with tot:=by have:=hm.2;show 0<=t/\t<=4611686018427387904;omega},hc.heap h.obj rbn,out h.cls (λz e=>e.ca),out h.kee (λz e=>e.ka),h.may,λb' m=>?_,λk i=>hc.cell (h.sl k i) sbn,h.pool.chg hc pb ab,h.pf,?_,h.lg.chg hc (λz hz e=>(hT z e).elim (λe=>.inl (e▸f)) (λe=>.inr (e.int hz))) (mf (Hn h.lg) (by simp) h.lf),h.lf,h.rf,h.sf,λz hz=>by have:=h.low z hz;omega,h.tab.chg hc tbn,h.tf,λz hz=>⟨by have:=(h.xl z hz).1;omega,(h.xl z hz).2⟩⟩
 ·rw[hb] at m;cases m;exact⟨f,hm⟩
 ·obtain⟨G,a,d⟩:=h.sh;refine⟨G,λk x j=>?_,d⟩;obtain⟨o,c,q⟩:=a k x j;have ap:=c.at'.apart kb (by decide);have nf:∀z,H4 F w R z -> ¬Qf (R.S _) (G _) x.pg z:=λz hz n=>hz.f (q z n).1;refine⟨o,⟨c.ok,c.pos,c.of,c.at'.chg hc (λz hz=>?_) (λz hz=>?_) tbn,c.pool.chg hc (by rw[o];exact pb) (by rw[o];exact ab)⟩,q⟩
  ·rcases hT z hz with e|hz
   ·subst e;exact ap.1
   ·exact⟨λe=>nf z hz (.inl e),λe=>nf z hz (.inr (.inl e)),λe=>hz.lb (e▸c.at'.kds.lb),λe=>nf z hz (.inr (.inr (.inl e)))⟩
  ·rcases hT z hz with e|hz
   ·subst e;exact ap.2
   ·exact λe r=>⟨λe'=>hz.pg (e'▸(c.at'.pages e r).kds.p),λe'=>nf z hz (.inr (.inr (.inr ⟨e,r,e'⟩)))⟩
section
variable {F Fr:Nat->Prop}{w w':World}{S:Sto}{s:StM}{by':Int}{mo:Mo}
theorem O4.put{al:AL}(h:O4 F w tm th al){qm:PlcM}(hq:Xy q=qm)(ho:o<th.length)(hm:Y6 w' tm (Cm al (o:Nat) (.agg (El size q).toArray)))(hc:Xc (λz=>z=tm) w w')(ht:F tm)(hp:Zl w q)(hF:Xj F q.pa)(hl:Dv w q.pa):Gh F w' tm (th.set o (some ⟨size,qm⟩)):=by
 obtain⟨x,l,m,n⟩:=h;have up:∀{q:Plc},Zl w q->Xj F q.pa->Zl w' q:=λa b=>⟨a.rd.far (b.mono (S':=λz=>z=tm) λz e=>e▸ht) hc,a.len⟩;refine⟨_,hm,XaR l _ _,λd g c=>?_,λk j=>?_⟩
 ·rcases A0 c with⟨rfl,rfl⟩|⟨v,c⟩
  ·exact⟨q,hq,by rw[I0,if_pos rfl],up hp hF,hF,hl.chg hc (hF.mono (S':=λz=>z=tm) λz e=>e▸ht)⟩
  ·obtain⟨p,r,s,t,i,u⟩:=m d g c;exact⟨p,r,by rw[I0,if_neg (by omega)];exact s,up t i,i,u.chg hc (i.mono (S':=λz=>z=tm) λz e=>e▸ht)⟩
 ·have f:=j o _ (XF ho);rw[I0,if_neg (λe=>f e.symm)];refine n k λd g c=>?_;by_cases e:d=o
  ·subst e;exact f
  ·exact j d g (D5 e c)
theorem O4.del{al:AL}(h:O4 F w tm th al)(hm:Y6 w' tm (Da al (o:Nat)))(hc:Xc (λz=>z=tm) w w')(ht:F tm):Gh F w' tm (th.set o none):=by
 obtain⟨s,c,i,j⟩:=h;refine⟨_,hm,XeT c _,λb d a=>?_,λk l=>?_⟩
 ·rcases Ji a with⟨_,e,_⟩|⟨r,a⟩
  ·cases e
  ·obtain⟨m,n,p,g,f,q⟩:=i b d a;exact⟨m,n,by rw[Lh c,if_neg (by omega)];exact p,⟨g.rd.far (f.mono (S':=λz=>z=tm) λz e=>e▸ht) hc,g.len⟩,f,q.chg hc (f.mono (S':=λz=>z=tm) λz e=>e▸ht)⟩
 ·rw[Lh c];by_cases e:k=(o:Nat)
  ·rw[if_pos e]
  ·rw[if_neg e];refine j k λb d a=>?_;by_cases e1:b=o
   ·subst e1;exact λh=>e h.symm
   ·exact l b d (D5 e1 a)
theorem Xr.kds(h:Xr F Fr w S s by' mo):kd w S.sb=some (some 90)/\kd w S.kb=some (some 3)/\kd w S.A.db=some (some 5)/\kd w S.tm=some none/\kd w S.vb=some (some 96)/\kd w S.mb=some (some 154):=
 ⟨Yk h.obj,Yk h.kee,Yk h.ar.dat,h.th.kd,Yk h.mvs,Yk h.mb.2.2.1⟩
theorem Xr.objAt(h:Xr F Fr w S s by' mo)(hc:Xc T w w')(hT:∀(k b:Nat) m,mo[k]?=some (some (b,m)) -> ¬T b):∀(k b:Nat) m,mo[k]?=some (some (b,m))->w'.heap[b]?=some (.cells (N4 S.A (Ef b m) m.gone).toArray 158 (0,0))/\F b/\¬Fr b:=λk b m a=>by
 obtain⟨x,y⟩:=h.mob k b m a;exact⟨hc.heap x (hT k b m a),y⟩
theorem Xr.kdm(h:Xr F Fr w S s by' mo)(hm:mo[k]?=some (some (b,m))):kd w b=some (some 158):=Yk (h.mob k b m hm).1
theorem Xr.setBy(h:Xr F Fr w S s by' mo){by2:Int}(hc:Xc (λz=>z=S.sb) w w')(ho:w'.heap[S.sb]?=some (.cells (Ov S s.keep.length s.mv.length by2).toArray 90 (0,0))):Xr F Fr w' S s by2 mo:=by
 obtain⟨a,c,d,f,g,t⟩:=h.kds;obtain⟨i,j,l,n,o,p,q,_⟩:=h.own hc (λz e=>⟨e▸h.f2.1,e▸h.ext' h.f2.1 h.nr.1 a (by decide)⟩);exact {h with obj:=ho,kee:=hc.heap h.kee (Xs c a (by decide)),room:=i,ar:=n (Xs d a (by decide)),vw:=j,th:=l (Xs f a (by simp)),mvs:=hc.heap h.mvs (Xs g a (by decide)),mob:=h.objAt hc (λk b m r=>Xs (h.kdm r) a (by decide)),ca:=o,ka:=p,low:=q}
theorem Xr.setKeep(h:Xr F Fr w S s by' mo)(hl:l.length=s.keep.length)(hc:Xc (λz=>z=S.kb) w w')(ho:w'.heap[S.kb]?=some (.cells (l.map (Value.int .i64)++S.kr).toArray 3 (0,0))):Xr F Fr w' S {s with keep:=l} by' mo:=by
 obtain⟨c,a,d,f,g,u⟩:=h.kds;obtain⟨i,j,n,o,p,q,r,_⟩:=h.own hc (λz e=>⟨e▸h.f2.2.1,e▸h.extKeep⟩);exact {h with obj:=by show w'.heap[S.sb]?=some (.cells (Ov S l.length s.mv.length by').toArray _ _);rw[hl];exact hc.heap h.obj (Xs c a (by decide)),kee:=ho,kcap:=by show l.length<=_;rw[hl];exact h.kcap,room:=i,ar:=o (Xs d a (by decide)),vw:=j,th:=n (Xs f a (by simp)),mvs:=hc.heap h.mvs (Xs g a (by decide)),mob:=h.objAt hc (λk b m t=>Xs (h.kdm t) a (by decide)),ca:=p,ka:=q,low:=r}
theorem Xr.setTh(h:Xr F Fr w S s by' mo){th':List (Option ThM)}(hc:Xc (λz=>z=S.tm) w w')(ht:Gh F w' S.tm th'):Xr F Fr w' S {s with th:=th'} by' mo:=by
 obtain⟨c,d,f,a,g,r⟩:=h.kds;obtain⟨i,j,t,l,n,o,p,_⟩:=h.own hc (λz e=>⟨e▸h.f2.2.2.2.1,e▸h.extMap⟩);exact {h with obj:=hc.heap h.obj (Xs c a (by simp)),kee:=hc.heap h.kee (Xs d a (by simp)),room:=i,ar:=l (Xs f a (by simp)),vw:=j,th:=ht,mvs:=hc.heap h.mvs (Xs g a (by simp)),mob:=h.objAt hc (λk b m q=>Xs (h.kdm q) a (by simp)),ca:=n,ka:=o,low:=p}
theorem XeL(mo:Mo)(k:Nat)(x:Option (Nat×MvM)):Gs (mo.set k x)=(Gs mo).set k (x.map (·.2)):=by unfold Gs;rw[YD]
theorem Py{mo:Mo}{x:Option (Nat×MvM)}(h:(mo.set k x)[j]?=some (some (b,m))):(j=k/\x=some (b,m)/\k<mo.length)\/(j≠k/\mo[j]?=some (some (b,m))):=Ji h
theorem Xr.mol(h:Xr F Fr w S s by' mo):mo.length=s.mv.length:=by rw[<-h.mom];unfold Gs;rw[XN]
theorem Xr.setMv(h:Xr F Fr w S s by' mo){x:Option (Nat×MvM)}(hc:Xc (λz=>z=S.vb) w w')(ho:w'.heap[S.vb]?=some (.cells (fl Dy (mo.set k x)).toArray 96 (0,0)))(hx:∀b m,x=some (b,m)->w.heap[b]?=some (.cells (N4 S.A (Ef b m) m.gone).toArray 158 (0,0))/\F b/\¬Fr b/\∀(j:Nat) m',mo[j]?≠some (some (b,m'))):Xr F Fr w' S {s with mv:=s.mv.set k (x.map (·.2))} by' (mo.set k x):=by
 obtain⟨n,o,p,q,a,D⟩:=h.kds;obtain⟨r,t,u,v,y,A,B,_⟩:=h.own hc (λz e=>⟨e▸h.f2.2.2.2.2,e▸h.ext' h.f2.2.2.2.2 h.nr.2.2.2.2 a (by decide)⟩);have g:(s.mv.set k (x.map (·.2))).length=s.mv.length:=XG;refine {h with obj:=by show w'.heap[S.sb]?=some (.cells (Ov S s.keep.length (s.mv.set k (x.map (·.2))).length by').toArray _ _);rw[g];exact hc.heap h.obj (Xs n a (by decide)),kee:=hc.heap h.kee (Xs o a (by decide)),room:=r,ar:=v (Xs p a (by decide)),vw:=t,th:=u (Xs q a (by simp)),mvs:=ho,mvc:=by show(s.mv.set k _).length<=_;rw[g];exact h.mvc,mom:=by rw[XeL,h.mom],mob:=λj b m d=>?_,mdj:=λi j b m m' hi l=>?_,ca:=y,ka:=A,low:=B}
 ·rcases Py d with⟨_,e,_⟩|⟨_,d⟩
  ·obtain⟨c,f,C,_⟩:=hx b m e;exact⟨hc.heap c (Xs (Yk c) a (by decide)),f,C⟩
  ·obtain⟨c,f⟩:=h.mob j b m d;exact⟨hc.heap c (Xs (Yk c) a (by decide)),f⟩
 ·rcases Py hi with⟨e1,e,_⟩|⟨_,gi⟩
  ·rcases Py l with⟨e2,_,_⟩|⟨_,gj⟩
   ·exact e1.trans e2.symm
   ·exact absurd gj ((hx b m e).2.2.2 j m')
  ·rcases Py l with⟨_,e,_⟩|⟨_,gj⟩
   ·exact absurd gi ((hx b m' e).2.2.2 i m)
   ·exact h.mdj i j b m m' gi gj
theorem Xr.adopt(h:Xr F Fr w S s by' mo)(hc:Xc Xe w w')(hb:w.heap.size<=b)(hb':b<w'.heap.size):Xr (λz=>F z\/z=b) Fr w' S s by' mo:=by
 have g:=h.grow hc;obtain⟨i,j,l,n,o,p⟩:=h.nF;have d:∀z,(F z\/z=b)->F z\/w.heap.size<=z:=λz a=>a.elim .inl (λe=>.inr (by omega));have c:=h.room;have f:=Yp c.may;have q:=Xg h.ar.obj;have r:=Xg h.ar.cap;have t:=Xg h.vw.obj;have u:=Xg c.obj;have v:S.R.sb<w.heap.size:=by have:=World.block_lt_of_cell? w _ (c.sl 0 (by have:=f.n;have:=c.ok.n;omega));exact this
 have A:0<w.heap.size:=by have:=World.block_lt_of_cell? w _ (c.tab 0 (by decide));exact this
 exact {g with
  th:=((h.th.wide d).far hc (λ_ h=>h.elim) id),
  mob:=λk b' m f=>by obtain⟨x,y,z⟩:=g.mob k b' m f;exact⟨x,.inl y,z⟩,
  f1:=λz a=>.inl (h.f1 z a),f2:=⟨.inl h.f2.1,.inl h.f2.2.1,.inl h.f2.2.2.1,.inl h.f2.2.2.2.1,.inl h.f2.2.2.2.2⟩,
  nF:=⟨λa=>a.elim i (by omega),λa=>a.elim j (by omega),λa=>a.elim l (by omega),λa=>a.elim n (by omega),λa=>a.elim o (by omega),λa=>a.elim p (by omega)⟩,
  ca:=(h.ca.grow d).chg hc (λ_ h=>h.elim),ka:=(h.ka.grow d).chg hc (λ_ h=>h.elim),low:=λz a=>a.elim (g.low z) (by omega)}
theorem Xr.arena(h:Xr F Fr w S s by' mo){t:Int}{mo2:Mo}(hc:Xc T w w')(hT:∀z,T z->z=S.A.db\/z=S.mb\/∃(k:Nat),∃m,mo[k]?=some (some (z,m)))(hd:w'.heap[S.A.db]?=some (.cells (bs.map (Value.int .u8)).toArray 5 (0,0)))(hl:bs.length=s.bs.length)(hb:Qn bs)(hm:A9 w' S.mb t S.R.lap)(hfl:fl Dy mo2=fl Dy mo)(hml:mo2.length=mo.length)(hmo:∀(k b:Nat) m,mo2[k]?=some (some (b,m))->w'.heap[b]?=some (.cells (N4 S.A (Ef b m) m.gone).toArray 158 (0,0))/\∃m0,mo[k]?=some (some (b,m0))):Xr F Fr w' S {s with bs:=bs,rm:={s.rm with tot:=t},mv:=Gs mo2} by' mo2:=by
 obtain⟨r,u,o,v,y,A⟩:=h.kds;obtain⟨B,C,D,L,M,N⟩:=h.nF;have c:∀z,T z->F z:=λz a=>by
  rcases hT z a with e|e|⟨k,m,e⟩
  ·exact e▸h.f2.2.2.1
  ·exact e▸h.mb.1
  ·exact(h.mob k z m e).2.1
 have kT:∀{z:Nat} {x:Option Nat},kd w z=some x->x≠some 5->x≠some 154->x≠some 158 -> ¬T z:=λd E G H a=>by
  rcases hT _ a with e|e|⟨k,m,e⟩
  ·subst e;rw[o] at d;exact E (Option.some.inj d).symm
  ·subst e;rw[A] at d;exact G (Option.some.inj d).symm
  ·have:=h.kdm e;rw[this] at d;exact H (Option.some.inj d).symm
 have p:=h.room.charge2 h.rmo hm hc λz a=>by
  rcases hT z a with e|e|⟨k,m,e⟩
  ·exact .inr (e▸h.ext' h.f2.2.2.1 h.nr.2.2.1 o (by decide))
  ·exact .inl e
  ·obtain⟨_,n,f⟩:=h.mob k z m e;exact .inr (h.ext' n f (h.kdm e) (by decide))
 have g:(Gs mo2).length=s.mv.length:=by unfold Gs;rw[XN,hml,h.mol]
 refine {h with
  obj:=by show w'.heap[S.sb]?=some (.cells (Ov S s.keep.length (Gs mo2).length by').toArray _ _);rw[g];exact hc.heap h.obj (kT r (by decide) (by decide) (by decide)),
  kee:=hc.heap h.kee (kT u (by decide) (by decide) (by decide)),room:=p,ar:=?_,vw:=?_,th:=h.th.far hc c (kT v (by simp) (by simp) (by simp)),
  mvs:=by rw[hfl];exact hc.heap h.mvs (kT y (by decide) (by decide) (by decide)),mvc:=by show(Gs mo2).length<=_;rw[g];exact h.mvc,mom:=rfl,
  mob:=λk b m q=>by obtain⟨n,m0,f⟩:=hmo k b m q;exact⟨n,(h.mob k b m0 f).2⟩,
  mdj:=λi j b m m' hi I=>by obtain⟨_,m0,f⟩:=hmo i b m hi;obtain⟨_,J,K⟩:=hmo j b m' I;exact h.mdj i j b m0 J f K,
  ca:=h.ca.chg hc c,ka:=h.ka.chg hc c,low:=λz a=>by have:=h.low z a;have:=hc.size;omega}
 ·refine⟨?_,hd,hc.heap h.ar.cap (λa=>C (c _ a)),λb l=>?_,by show bs.length<=_;rw[hl];exact h.ar.len,hb⟩
  ·have:=hc.heap h.ar.obj (λa=>B (c _ a));show w'.heap[S.A.ab]?=some (.cells #[.slice (some ⟨S.A.db,0,none⟩) bs.length bs.length,Xg0 S.A] _ _)
   rw[hl];exact this
  ·rw[h.amb] at l;cases l;exact hm
 ·refine⟨hc.heap h.vw.obj (λa=>D (c _ a)),?_,h.vw.may⟩;have:=h.vw.conf;rw[h.vc,h.vp] at this⊢;exact⟨(h.ca.chg hc c).1,(h.ka.chg hc c).1,this.lc,this.lk,this.size⟩
theorem Xr.arena'(h:Xr F Fr w S s by' mo){n:Int}(hc:Xc (Zr S.A) w w')(ha:X2 w' S.A ⟨bs,Xx s.rm.tot n,S.R.lap⟩)(hl:bs.length=s.bs.length):Xr F Fr w' S (Y1 {s with bs:=bs} n) by' mo:=by
 have:=h.arena (bs:=bs) (t:=Xx s.rm.tot n) (mo2:=mo) hc (λz c=>c.elim .inl (λe=>.inr (.inl (by rw[h.amb] at e;exact(Option.some.inj e).symm)))) ha.dat hl ha.rng (ha.met _ h.amb) rfl rfl (λk b m a=>⟨?_,m,a⟩)
 ·rw[h.mom] at this;exact this
 ·have kk:=h.kdm a;obtain⟨_,_,d,_,_,f⟩:=h.kds;refine hc.heap (h.mob k b m a).1 ?_;rintro(e|e)
  ·exact Xs kk d (by decide) e
  ·rw[h.amb] at e;cases e;exact Xs kk f (by decide) rfl
theorem Xr.roomed{Fr':Nat->Prop}(h:Xr F Fr w S s by' mo)(hr:Zm Fr' w' S.R M)(hf:∀z,Fr' z->Fr z\/w.heap.size<=z)(hc:Xc Fr w w'):Xr (λz=>F z\/Fr' z) Fr' w' S {s with rm:=M} by' mo:=by
 obtain⟨n,o,p,B,C,D⟩:=h.nF;obtain⟨E,G,H,I,J⟩:=h.lt;obtain⟨q,r,t,u,v⟩:=h.nr;have f:∀z,(F z\/Fr' z)->F z\/w.heap.size<=z:=λz a=>a.elim .inl (λe=>(hf z e).imp (h.f1 z) id);have c:∀{z:Nat},¬Fr z->z<w.heap.size -> ¬Fr' z:=λj K a=>(hf _ a).elim j (by omega);have nf:∀{z:Nat},¬F z->z<w.heap.size -> ¬(F z\/Fr' z):=λj K a=>(f _ a).elim j (by omega);have d:=h.room;have l:=Yp d.may;have L:S.R.sb<w.heap.size:=by have:=World.block_lt_of_cell? w _ (d.sl 0 (by have:=l.n;have:=d.ok.n;omega));exact this
 have N:0<w.heap.size:=by have:=World.block_lt_of_cell? w _ (d.tab 0 (by decide));exact this
 have g:=(h.ca.grow f).chg hc (λz a=>.inl (h.f1 z a));have i:=(h.ka.grow f).chg hc (λz a=>.inl (h.f1 z a));exact {h with
  obj:=hc.heap h.obj q,kee:=hc.heap h.kee r,room:=hr,
  ar:=⟨hc.heap h.ar.obj (λa=>n (h.f1 _ a)),hc.heap h.ar.dat t,hc.heap h.ar.cap (λa=>o (h.f1 _ a)),λb A=>by rw[h.amb] at A;cases A;exact(hr.met _ h.rmo).2,h.ar.len,h.ar.rng⟩,
  vw:=⟨hc.heap h.vw.obj (λa=>p (h.f1 _ a)),by
   have:=h.vw.conf;rw[h.vc,h.vp] at this⊢;exact⟨g.1,i.1,this.lc,this.lk,this.size⟩,h.vw.may⟩,
  th:=(h.th.wide f).far hc (λz a=>.inl (h.f1 z a)) u,mvs:=hc.heap h.mvs v,
  mob:=λk b m l=>by obtain⟨x,y,z⟩:=h.mob k b m l;exact⟨hc.heap x z,.inl y,c z (h.low b y)⟩,
  f1:=λz a=>.inr a,f2:=⟨.inl h.f2.1,.inl h.f2.2.1,.inl h.f2.2.2.1,.inl h.f2.2.2.2.1,.inl h.f2.2.2.2.2⟩,
  nr:=⟨c q E,c r G,c t H,c u I,c v J⟩,
  nF:=⟨nf n (Xg h.ar.obj),nf o (Xg h.ar.cap),nf p (Xg h.vw.obj),nf B (Xg d.obj),nf C L,nf D N⟩,ca:=g,ka:=i,
  low:=λz a=>a.elim (λa=>by have:=h.low z a;have:=hc.size;omega) (hr.low z)}
end
def Dx(F:Nat->Prop)(w w':World)(S:Sto)(s:StM)(by':Int):Prop:=∃F' Fr' mo',Xr F' Fr' w' S s by' mo'/\(∀z,F' z->F z\/w.heap.size<=z)/\Xc F w w'
section
variable {F Fr:Nat->Prop}{w w' w'':World}{S:Sto}{s:StM}{by':Int}{mo:Mo}
theorem Dx.of(h:Xr F Fr w' S s by' mo)(hc:Xc F w w'):Dx F w w' S s by':=⟨F,Fr,mo,h,λ_ h=>.inl h,hc⟩
theorem Dx.trans{F1:Nat->Prop}(hF:∀z,F1 z->F z\/w.heap.size<=z)(hc:Xc F w w')(h:Dx F1 w' w'' S s by'):Dx F w w'' S s by':=by
 obtain⟨g,d,e,a,b,c⟩:=h;refine⟨g,d,e,a,λz f=>?_,hc.since c λz f i=>?_⟩
 ·rcases b z f with h|h
  ·exact hF z h
  ·have:=hc.size;exact .inr (by omega)
 ·rcases hF z i with h|h
  ·exact h
  ·omega
end
theorem XmW(c:Conf)(q:Plc)(bs:List Int)(at' m k:Nat):Yr c q bs at' (m+k)=Yr c q bs at' m++Yr c q bs (at'+m) k:=by
 unfold Yr;rw[List.range_add,XI,List.map_map]
 congr 1
 apply YA
 intro i _;simp only[Function.comp];rw[YL]
theorem XbV{x m:Nat}(h:x+m<=bs.length):sub bs x m=(List.range m).map λi=>bs.getD (x+i) 0:=by
 apply List.ext_getElem
 ·rw[Gc h];simp
 ·intro i a b;rw[Gc h] at a;simp only[YM,List.getElem_range];have e:(sub bs x m)[i]?=some (bs.getD (x+i) 0):=by
   unfold sub;rw[YN,if_pos a,List.getElem?_drop,XB (show x+i<bs.length by omega),XC,XB (show x+i<bs.length by omega)];rfl
  exact Option.some.inj ((XB _).symm.trans e)
theorem Xcp(hcl:q.cls=-1)(hsz:c.size=sz)(hi:at'%sz+i<sz):Bv c q (at'+i)=q.pages.getD (at'/sz) 0*c.size+((at'%sz:Nat):Int)+i:=by
 unfold Bv;rw[if_pos hcl,show c.size.toNat=sz from by omega];have a:(at'+i)/sz=at'/sz:=by
  have e:=YV at' sz;apply Nat.div_eq_of_lt_le
  ·rw[YF];omega
  ·rw[YT,QI,YF];omega
 have b:(at'+i)%sz=at'%sz+i:=by
  have f:=YV at' sz;have d:=YV (at'+i) sz;rw[a] at d;omega
 rw[a,b];omega
theorem Xkx(hcl:q.cls=-1)(hsz:c.size=sz)(hp:1<=sz):∀(n at':Nat),(∀i,i<n->0<=Bv c q (at'+i)/\Bv c q (at'+i)<bs.length) ->
 Ds bs ((Ya at' n sz).map λs=>(q.pages.getD s.1 0*c.size+s.2.1,(s.2.2:Int)))=Yr c q bs at' n:=by
 intro n
 induction n using QE with
 |_ n ih=>
  intro at' b;by_cases l:n=0
  ·subst l;rfl
  ·have d:=Ju (at':=at') hp (show 0<n by omega);have o:=QM at' (show 0<sz by omega);rw[K6 hp (by omega),ZB];obtain⟨m,e⟩:∃m,m=min n (sz-at'%sz):=⟨_,rfl⟩;have h:Dc at' n sz=(at'/sz,at'%sz,m):=by unfold Dc;rw[e]
   rw[h,<-e];rw[<-e] at d;have j:=b 0 (by omega);have a:=b (m-1) (by omega);rw[Xcp hcl hsz (by omega)] at j a;obtain⟨x,f⟩:=XD (show 0<=q.pages.getD (at'/sz) 0*c.size+((at'%sz:Nat):Int) by omega);rw[f] at a;have g:sub bs x m=Yr c q bs at' m:=by
    rw[XbV (by omega)];unfold Yr;apply YA
    intro i hi;rw[List.mem_range] at hi;rw[Xcp hcl hsz (by omega),f]
    congr 1
   have k:n=m+(n-m):=by omega
   conv=>rhs;rw[k]
   rw[XmW,<-g,<-(ih (n-m) (by omega) (at'+m) (λi hi=>by rw[YL];exact b (m+i) (by omega)))];unfold Ds;rw[ZQ];simp only
   rw[f];rfl
theorem Xky(hm:X6 c=true)(hck:Qu c q at' n=0)(hlen:(bs.length:Int)=c.size*c.pages):Ds bs (Z3 c q at' n)=Yr c q bs at' n:=by
 obtain⟨m,o,p⟩:=Dr hm;obtain⟨e,_,_,l⟩:=Sy hck;have d:∀i,i<n->0<=Bv c q (at'+i)/\Bv c q (at'+i)<bs.length:=λi hi=>by
  have:=Xco (i:=at'+i) hm e (by omega);omega
 unfold Z3;by_cases a:q.cls=-1
 ·rw[if_pos a];obtain⟨sz,f⟩:=XD (show 0<=c.size by omega);rw[show c.size.toNat=sz from by omega];exact Xkx a f (by omega) n at' d
 ·rw[if_neg a];unfold Ds;simp only[ZQ,List.flatMap_nil,YB,XA];by_cases h:n=0
  ·subst h;simp[sub,Yr]
  ·have j:=d 0 (by omega);have k:=d (n-1) (by omega);have b:∀i,Bv c q (at'+i)=Ag c q+at'+i:=λi=>by unfold Bv;rw[if_neg a];omega
   rw[b] at j k;obtain⟨x,g⟩:=XD (show 0<=Ag c q+(at':Int) by omega);rw[g,XA,XbV (by omega)];unfold Yr;apply YA
   intro i _;rw[b,g]
   congr 1
theorem Xmp(hp:1<=sz):∀(n at' k:Nat) (h:k<(Ya at' n sz).length),(Ya at' n sz)[k].1*sz+(Ya at' n sz)[k].2.1=at'+(((Ya at' n sz).take k).map λs=>s.2.2).sum:=by
 intro n
 induction n using QE with
 |_ n ih=>
  intro at' k h;by_cases b:n=0
  ·subst b;simp[Uw] at h
  ·have c:=Ju (at':=at') hp (show 0<n by omega);have e:=YV at' sz;have a:=K6 (at':=at') hp (show 0<n by omega);cases k with
   |zero=>
    simp only[a,List.getElem_cons_zero,List.take_zero,QQ,List.sum_nil];unfold Dc;simp only
    rw[YF];omega
   |succ k=>
    have d:k<(Ya (at'+min n (sz-at'%sz)) (n-min n (sz-at'%sz)) sz).length:=by rw[a] at h;simpa using h
    have:=ih _ (by omega) _ k d;simp only[a,List.getElem_cons_succ,List.take_succ_cons,ZB,YH];rw[this];unfold Dc;simp only
    omega
theorem Xkh{m:Nat}(hm:X6 c=true)(hk:k<(Z3 c q at' n).length)(hp:(Z3 c q at' n)[k]=((i:Int),(m:Int))):∀j,j<m->Bv c q (at'+(Zt ((Z3 c q at' n).take k)+j))=(i:Int)+j:=by
 obtain⟨y,z,B⟩:=Dr hm;intro j C;by_cases b:q.cls=-1
 ·obtain⟨sz,h⟩:=XD (show 0<=c.size by omega);have a:Z3 c q at' n=(Ya at' n sz).map λs=>(q.pages.getD s.1 0*c.size+s.2.1,(s.2.2:Int)):=by unfold Z3;rw[if_pos b,show c.size.toNat=sz from by omega]
  have g:k<(Ya at' n sz).length:=by rw[a,XN] at hk;exact hk
  have e:=Xmp (sz:=sz) (by omega) n at' k g;obtain⟨l,o,p,x⟩:=XbO (page:=sz) (by omega) n at' _ (XK g);have r:Zt ((Z3 c q at' n).take k)=(((Ya at' n sz).take k).map λs=>s.2.2).sum:=by
   unfold Zt;rw[a,<-QL,List.map_map];rfl
  have t:(q.pages.getD (Ya at' n sz)[k].1 0*c.size+((Ya at' n sz)[k].2.1:Int),((Ya at' n sz)[k].2.2:Int))=((i:Int),(m:Int)):=by
   rw[<-hp];simp only[a,YM]
  obtain⟨e1,e2⟩:=Prod.mk.inj t;rw[r,<-YL,<-e];obtain⟨s,u⟩:∃s,s=(Ya at' n sz)[k]:=⟨_,rfl⟩;rw[<-u] at e1 e2 l o p⊢
  clear u e x
  obtain⟨N,A,L⟩:=s;simp only at e1 e2 l o p⊢
  have d:(N*sz+A)%sz=A:=by rw[YF,Nat.mul_add_mod];exact Nat.mod_eq_of_lt (by omega)
  have f:(N*sz+A)/sz=N:=by rw[YF,Nat.mul_add_div (by omega),Nat.div_eq_of_lt (by omega)];rfl
  rw[Xcp b h (by rw[d];omega),d,f];omega
 ·have a:Z3 c q at' n=[(Ag c q+at',(n:Int))]:=by unfold Z3;rw[if_neg b]
  have v:k=0:=by rw[a] at hk;simpa using hk
  subst v;have w:(Ag c q+(at':Int),(n:Int))=((i:Int),(m:Int)):=by rw[<-hp];simp only[a];rfl
  obtain⟨e1,e2⟩:=Prod.mk.inj w;unfold Bv;rw[if_neg b];simp only[List.take_zero,Zt,QQ,List.sum_nil];omega
theorem Xen{c:Conf}{q:Plc}{bs l:List Int}{at' off i m:Nat}(him:i+m<=bs.length)(hol:off+m<=l.length)(hw:∀j,j<m->Bv c q (at'+(off+j))=(i:Int)+j):∀j,j<=m->Qw c q bs at' l (off+j)=Dz (Qw c q bs at' l off) i (sub l off m) j
 |0,_=>by rw[Xa3];rfl
 |j+1,h=>by
  have a:(sub l off m).length=m:=Gc hol;have ih:=Xen him hol hw j (by omega);have b:(sub l off m).getD j 0=l.getD (off+j) 0:=by
   rw[XbV hol,XC,XR,List.getElem?_range (by omega)];rfl
  rw[<-Xa2 (by rw[a,Gr];exact him) (by rw[a];omega),b,<-ih];show(Qw c q bs at' l (off+j)).set (Bv c q (at'+(off+j))).toNat (l.getD (off+j) 0)=_
  rw[hw j (by omega)];rfl
theorem Xg6{c:Conf}{q:Plc}{A:Ar}{V:ArV}{at':Nat}{l:List Int}(hm:X6 c=true)(hck:Qu c q at' l.length=0)(hfew:q.pages.length<=4096)(hlen:(V.bs.length:Int)=c.size*c.pages):∀k,k<=(Z3 c q at' l.length).length->(Bu q A V (Z3 c q at' l.length) l k).bs=Qw c q V.bs at' l (Zt ((Z3 c q at' l.length).take k))
 |0,_=>rfl
 |k+1,h=>by
  have a:k<(Z3 c q at' l.length).length:=h;obtain⟨i,m,b,n⟩:=Ra hm hck hfew _ (XK a);have ih:=Xg6 (A:=A) hm hck hfew hlen k (by omega);have j:Zt (Z3 c q at' l.length)=l.length:=N9 hm;have d:=R6 a;rw[b] at d;simp only[XA] at d;have f:Zt ((Z3 c q at' l.length).take (k+1))=Zt ((Z3 c q at' l.length).take k)+m:=by
   rw[ZC,XB a,b,Vc];simp[Zt]
  have g:i+m<=V.bs.length:=by omega
  have e:Zt ((Z3 c q at' l.length).take k)+m<=l.length:=by omega
  rw[R8 a b,f,Xen g e (Xkh hm a b) m (XE _)];show Q1 _ i (sub l _ m)=_
  rw[ih];have:=Xe9 (bs:=Qw c q V.bs at' l (Zt ((Z3 c q at' l.length).take k))) (l:=sub l (Zt ((Z3 c q at' l.length).take k)) m) (i:=i);rw[Gc e] at this;exact this.symm
theorem Xg7(hm:X6 c=true)(hck:Qu c q at' l.length=0)(hfew:q.pages.length<=4096)(hlen:(V.bs.length:Int)=c.size*c.pages):(Bu q A V (Z3 c q at' l.length) l (Z3 c q at' l.length).length).bs=Qw c q V.bs at' l l.length:=by
 rw[Xg6 hm hck hfew hlen _ (XE _),ZL,N9 hm]
theorem Bl{t m:Int}(h:0<=t/\0<=m/\t+m<=4611686018427387904):Xx t m=t+m:=by unfold Xx;split <;> omega
def Er(q:Plc)(k:Nat):Int:=if q.cls=-1 then (k:Int) else 0
theorem Xa5(hm:X6 c=true):((Zt (Z3 c q at' n):Nat):Int)+Er q (Z3 c q at' n).length=X5 c q at' n:=by
 rw[N9 hm];unfold Er X5 Z3;by_cases a:q.cls=-1
 ·rw[if_pos a,if_pos a,if_pos a,XN]
 ·rw[if_neg a,if_neg a]
theorem Sx{t a b:Int}(h:0<=t/\t<=4611686018427387904)(ha:0<=a)(hb:0<=b):Xx (Xx t a) b=Xx t (a+b):=by
 unfold Xx;split <;> split <;> split <;> omega
theorem Ni(t:Int):Xx t 0=t:=by unfold Xx;rw[if_pos (by omega)]
theorem Pa{n:Int}(hb:A.mb=some b):(V.charge A n).total=Xx V.total n:=by unfold ArV.charge;rw[hb]
theorem Xdc(hb:A.mb=some b):(By q A V).total=Xx V.total (Er q 1):=by
 unfold By Er;split
 ·exact Pa hb
 ·rw[Ni]
theorem Xdd:(By q A V).lap=V.lap:=by unfold By;split;exact V.charge_lap A _;rfl
theorem XcS(q:Plc)(k:Nat):Er q (k+1)=Er q k+Er q 1/\0<=Er q k/\0<=Er q 1:=by unfold Er;split <;> omega
theorem XgU{ps:List (Int×Int)}{m:Nat}(hk:k<ps.length)(hp:ps[k]=((i:Int),(m:Int))):Zt (ps.take (k+1))=Zt (ps.take k)+m:=by
 rw[ZC,XB hk,hp,Vc];simp[Zt]
theorem Xg2{q:Plc}{A:Ar}{V:ArV}{ps:List (Int×Int)}{b:Nat}(hb:A.mb=some b)(hps:∀p∈ps,∃i m:Nat,p=((i:Int),(m:Int)))(hV:0<=V.total/\V.total<=4611686018427387904):∀k,k<=ps.length->(H2 q A V ps k).total=Xx V.total (Zt (ps.take k)+Er q k)/\(H2 q A V ps k).lap=V.lap
 |0,_=>by
  have e:((Zt (ps.take 0):Nat):Int)+Er q 0=0:=by unfold Er;simp[Zt]
  rw[e,Ni];exact⟨rfl,rfl⟩
 |k+1,h=>by
  have a:k<ps.length:=h;obtain⟨i,m,c⟩:=hps _ (XK a);obtain⟨d,f⟩:=Xg2 (q:=q) hb hps hV k (by omega);obtain⟨g,l,j⟩:=XcS q k;rw[Xg3 a,c];simp only
  rw[ArV.charge_lap,Xdd,Pa hb,Xdc hb,d,Sx hV (by omega) j,Sx hV (by omega) (by omega),XgU a c,g];exact⟨by congr 1;omega,f⟩
theorem Xcm{q:Plc}{A:Ar}{V:ArV}{ps:List (Int×Int)}{l:List Int}{b:Nat}(hb:A.mb=some b)(hps:∀p∈ps,∃i m:Nat,p=((i:Int),(m:Int)))(hV:0<=V.total/\V.total<=4611686018427387904):∀k,k<=ps.length->(Bu q A V ps l k).total=Xx V.total (Zt (ps.take k)+Er q k)/\(Bu q A V ps l k).lap=V.lap
 |0,_=>by
  have e:((Zt (ps.take 0):Nat):Int)+Er q 0=0:=by unfold Er;simp[Zt]
  rw[e,Ni];exact⟨rfl,rfl⟩
 |k+1,h=>by
  have a:k<ps.length:=h;obtain⟨i,m,c⟩:=hps _ (XK a);obtain⟨d,f⟩:=Xcm (q:=q) (l:=l) hb hps hV k (by omega);obtain⟨g,n,j⟩:=XcS q k;rw[R8 a c];show((By q A (Bu q A V ps l k)).charge A m).total=_/\((By q A (Bu q A V ps l k)).charge A m).lap=_
  rw[ArV.charge_lap,Xdd,Pa hb,Xdc hb,d,Sx hV (by omega) j,Sx hV (by omega) (by omega),XgU a c,g];exact⟨by congr 1;omega,f⟩
theorem ArV.eq{t l:Int}(h1:V.bs=bs)(h2:V.total=t)(h3:V.lap=l):V=⟨bs,t,l⟩:=by cases V;cases h1;cases h2;cases h3;rfl
theorem Gm{c:Conf}{i n:Int}(hv:Yi c q=true)(hi:0<=i)(hn:0<=n)(h:i+n<=Zy c q):Qu c q i n=0:=by
 unfold Qu;rw[if_neg (by rw[hv];decide),if_neg (by omega)]
section
variable {F Fr:Nat->Prop}{w w':World}{S:Sto}{s:StM}{by':Int}{mo:Mo}{pd:Option (Nat×PlcM)}
theorem Xr.footF(h:Xr F Fr w S s by' mo):∀z,Zr S.A z->F z:=λz a=>by
 rcases a with e|e
 ·exact e▸h.f2.2.2.1
 ·rw[h.amb] at e;cases e;exact h.mb.1
theorem Xr.tot(h:Xr F Fr w S s by' mo):0<=s.rm.tot/\s.rm.tot<=4611686018427387904:=h.room.ok.tot
theorem Xr.vwf(h:Xr F Fr w S s by' mo):¬Zr S.A S.v.vb/\(0<S.v.c.classes.length->Xj (Zr S.A) S.v.p.ca)/\(0<S.v.c.keep.length->Xj (Zr S.A) S.v.p.ka):=by
 refine⟨λb=>h.nF.2.2.1 (h.footF _ b),λa=>?_,λa=>?_⟩
 ·rw[h.vc] at a;rw[h.vp];exact(h.ca.2 a).mono h.footF
 ·rw[h.vc] at a;rw[h.vp];exact(h.ka.2 a).mono h.footF
theorem Xa6{c:Conf}(hm:X6 c=true)(hck:Qu c q i n=0)(hfew:q.pages.length<=4096):∀p∈Z3 c q i n,∃a b:Nat,p=((a:Int),(b:Int)):=λp d=>by
 obtain⟨a,b,e,_⟩:=Ra hm hck hfew p d;exact⟨a,b,e⟩
theorem Xgu(h:Xr F Fr w S s by' mo)(hm:X6 S.c=true)(hbl:(s.bs.length:Int)=S.c.size*S.c.pages)(q:Plc)(i:Nat)(a:Option Addr)(cap:Nat)(l:List Int)(hq:Zl w q)(hF:Xj F q.pa)(hck:Qu S.c q i l.length=0)(hfew:q.pages.length<=4096)(hr:Rd .u8 w a l)(hlc:l.length<=cap)(hin:Qn l)(hout:0<l.length->Xj F a):Xf prog 76 #[D6 S.v,.agg (Xv q).toArray,.int .i64 i,.slice a l.length cap] w (λu w'=>u=.int .i64 0/\Xr F Fr w' S (Zw S.c s (Xy q) i l) by' mo/\Xc F w w'):=by
 obtain⟨f,g,j⟩:=h.vwf;have ec:=h.vc;refine(Xna S.v q i a cap l S.A (D9 S s) w h.vw hq (h.vmb.trans h.amb.symm) h.vab (by rw[ec];exact hck) hfew f (λ_=>hF.mono h.footF) g j h.ar (by rw[ec];exact hbl) hr hlc hin (λk=>(hout k).mono h.footF)).mono λu w' ⟨e,b,c⟩=>⟨e,?_,c.mono λz _ m=>h.footF z m⟩;rw[ec] at b;obtain⟨d,o⟩:=Xcm (q:=q) (V:=D9 S s) (l:=l) h.amb (Xa6 hm hck hfew) h.tot _ (XE _);rw[ZL,Xa5 hm] at d;rw[(ArV.eq (Xg7 (A:=S.A) (V:=D9 S s) hm hck hfew hbl) d o),Jx,Hf] at b;exact h.arena' (bs:=Qw S.c (Xy q).plc s.bs i l l.length) (n:=X5 S.c (Xy q).plc i l.length) c b (Gr _ _ _ _ _ _)
theorem Dl(n:Nat):(Xz n).length=n:=by unfold Xz;rw[XH]
theorem U0(h:Xr F Fr w S s by' mo)(hm:X6 S.c=true)(hbl:(s.bs.length:Int)=S.c.size*S.c.pages)(q:Plc)(i n:Nat)(hq:Zl w q)(hF:Xj F q.pa)(hck:Qu S.c q i n=0)(hfew:q.pages.length<=4096):Xf prog 87 #[D6 S.v,.agg (Xv q).toArray,.int .i64 i,.int .i64 n] w (λu w'=>u=.int .i64 0/\Xr F Fr w' S (Zw S.c s (Xy q) i (Xz n)) by' mo/\Xc F w w'):=by
 obtain⟨g,j,k⟩:=h.vwf;have ec:=h.vc;have a:=Dl n;refine(Xnc S.v q i n S.A (D9 S s) w h.vw hq (h.vmb.trans h.amb.symm) h.vab (by rw[ec];exact hck) hfew g (λ_=>hF.mono h.footF) j k h.ar (by rw[ec];exact hbl)).mono λu w' ⟨e,b,c⟩=>⟨e,?_,c.mono λz _ a=>h.footF z a⟩;rw[ec] at b;obtain⟨d,m⟩:=Xcm (q:=q) (V:=D9 S s) (l:=Xz n) h.amb (Xa6 hm hck hfew) h.tot _ (XE _);rw[ZL,Xa5 hm] at d;have f:=Xg7 (A:=S.A) (V:=D9 S s) (l:=Xz n) (q:=q) (at':=i) hm (by rw[a];exact hck) hfew hbl;rw[a] at f;rw[(ArV.eq f d m),Jx,Hf] at b;have:=h.arena' (bs:=Qw S.c (Xy q).plc s.bs i (Xz n) n) (n:=X5 S.c (Xy q).plc i n) c b (Gr _ _ _ _ _ _);unfold Zw;rw[a];exact this
theorem Xgt(h:Xr F Fr w S s by' mo)(hm:X6 S.c=true)(hbl:(s.bs.length:Int)=S.c.size*S.c.pages)(q:Plc)(i n:Nat)(hq:Zl w q)(hF:Xj F q.pa)(hck:Qu S.c q i n=0)(hfew:q.pages.length<=4096):Xf prog 80 #[D6 S.v,.agg (Xv q).toArray,.int .i64 i,.int .i64 n] w (λu w'=>∃u1,u=.tuple #[u1,.int .i64 0]/\Xr F Fr w' S (Y1 s (X5 S.c (Xy q).plc i n)) by' mo/\Xc (Zr S.A) w w'/\
  Xl w.heap.size 5 1 w' u1 n ((Yr S.c (Xy q).plc s.bs i n).map (Value.int .u8))):=by
 obtain⟨j,k,l⟩:=h.vwf;have ec:=h.vc;have mF:∀z,Y3 S.A z->Zr S.A z:=λz a=>.inr a;refine(Xm8 S.v q i n S.A (D9 S s) w h.vw hq (h.vmb.trans h.amb.symm) h.vab (by rw[ec];exact hck) hfew (λa=>j (mF _ a)) (λ_=>(hF.mono h.footF).mono mF) (λb=>(k b).mono mF) (λb=>(l b).mono mF) h.ar (by rw[ec];exact hbl)).mono λu w' ⟨u1,e,c,f,d⟩=>⟨u1,e,?_,f.mono λz _ a=>mF z a,?_⟩
 ·rw[ec] at c;obtain⟨g,m⟩:=Xg2 (q:=q) (V:=D9 S s) h.amb (Xa6 hm hck hfew) h.tot _ (XE _);rw[ZL,Xa5 hm] at g;rw[(ArV.eq (Xcl q S.A (D9 S s) (Z3 S.c q i n) _) g m),Hf] at c;exact h.arena' (bs:=s.bs) (n:=X5 S.c (Xy q).plc i n) (f.mono λz _ a=>mF z a) c rfl
 ·rw[ec,Xky hm hck hbl] at d;have e:(Yr S.c q s.bs i n).length=n:=by unfold Yr;rw[XN,YK]
  rw[e,Xcd] at d;exact d
end
theorem XjA{n q:Int}(hn:1<=n)(hq:1<=q):n<=Z2 n q*q:=by
 have a:=Int.emod_add_mul_ediv (n-1) q;have:=Int.emod_lt_of_pos (n-1) (show 0<q by omega);have e:Z2 n q=(n-1)/q+1:=by unfold Z2;rw[if_neg (by omega)]
 rw[e,YU,QC,YG ((n-1)/q) q];omega
section
variable {c:Conf}{s:StM}{pd:Option (Nat×PlcM)}
theorem XaD:∀{l:List (Nat×List Nat)} {e:Nat×List Nat},e∈l->e.2.length+1<=Dq l
 |a::l,e,h=>by
  have b:Dq (a::l)=(a.2.length+1)+Dq l:=by unfold Dq;simp
  rcases List.mem_cons.1 h with rfl|h
  ·omega
  ·have:=XaD h;omega
theorem Xjo(h:s.OkP c pd){r:List Nat}(hm:(n,r)∈s.rm.lg):(∀m∈r,(m:Int)<c.pages)/\r.length<=1024:=by
 have f:=h.rm.ok.own;have a:=h.rm.mok.good;refine⟨λm b=>?_,?_⟩
 ·have:=(h.rm.ok.lg m (Id hm (ZF _ b))).1;omega
 ·have d:=XaD hm;have e:=h.rm.ok.sum;have g:=a.many;have i:=a.len;unfold Zn at e;simp only at d
  omega
theorem Xjb(h:s.OkP c pd){r:List Nat}(hm:(n,r)∈s.rm.lg)(hs:1<=size)(hr:(r.length+1:Int)=Zq size c.size):Yi c (PlcM.mk (-1) (n:Nat) 0 (X1 r)).plc=true/\size<=Zy c (PlcM.mk (-1) (n:Nat) 0 (X1 r)).plc/\(X1 r).length<=4096:=by
 obtain⟨g,l⟩:=Xjo h hm;have i:1<=c.size:=by have:=(Dr h.may).1;omega
 have a:=XjA hs i;have k:1<=Z2 size c.size:=by
  have o:0<=(size-1)/c.size:=ZX (by omega) (by omega);unfold Z2;rw[if_neg (by omega)];omega
 have e:(r.length:Int)=Z2 size c.size:=by
  unfold Zq at hr;split at hr <;> omega
 have j:=Df r;have b:Yi c (PlcM.mk (-1) (n:Nat) 0 (X1 r)).plc=true:=by
  unfold Yi PlcM.plc;show(if (-1:Int)=-1 then (decide (0<(X1 r).length) && !(X1 r).any λn=>!Bm n c.pages) else _)=true
  rw[if_pos rfl,XJ];refine⟨decide_eq_true (by omega),?_⟩;rw[Bool.not_eq_true',YZ];intro x d;unfold X1 at d;obtain⟨m,f,rfl⟩:=List.mem_map.1 d;have:=g m f;rw[Ly.2 (by omega)]
  decide
 refine⟨b,?_,by omega⟩;unfold Zy;rw[if_pos b];show size<=if (-1:Int)=-1 then ((X1 r).length:Int)*c.size else _
 rw[if_pos rfl,j,e];exact a
theorem Xmm(h:s.OkP c pd){k n a:Int}(ho:Zh s.rm k n a≠-1):Yi c (PlcM.mk k n a []).plc=true/\Zy c (PlcM.mk k n a []).plc=Yb c k:=by
 obtain⟨b,d,_⟩:=N7 h ho;refine⟨b,?_⟩;unfold Zy;rw[if_pos (show Yi c (PlcM.mk k n a []).plc=true from b)];show(if k=-1 then _ else Yb c k)=_
 rw[if_neg (by omega)]
theorem Xkj(hp:Xk c.classes size=(k:Nat)):size<=Yb c k:=by
 unfold Yb;rw[XA];exact Xfc hp
theorem Ii(h:s.OkP c pd){t:ThM}(ht:s.th[o]?=some (some t)):Yi c t.q.plc=true/\t.size<=Zy c t.q.plc/\t.q.pages.length<=4096:=by
 by_cases d:Xk c.classes t.size=-1
 ·obtain⟨n,r,f,b,g⟩:=h.large o t ht d;rw[b];exact Xjb h f (h.size o t ht).1 g
 ·obtain⟨f,b,g⟩:=h.small o t ht d;obtain⟨m,p⟩:=Ri d;obtain⟨k,i⟩:=XD m;obtain⟨j,l⟩:=Xmm h (k:=t.q.cls) (n:=t.q.page) (a:=t.q.idx) (by rw[g];omega);have e:t.q=⟨t.q.cls,t.q.page,t.q.idx,[]⟩:=by
   obtain⟨sz,q,u,v,w⟩:=t;simp only at b
   rw[b]
  rw[<-e] at j l;refine⟨j,?_,by rw[b];simp⟩;rw[l,f,i];exact Xkj i
end
end Go.Proofs.YtohjeeapehmkcaaGreatDoor
