/-
  Texts put together: Sto3, Sto4, Sto5, Sto6, Sto7, Sto8, StBy, Sto9, Sto10, Sto11, Sto12, Sto13, Sto14, Sto15.
-/
import Derived.Test.YtohjeeapehmkcaaGreatDoorPt7
import Derived.Test.YtohjeeapehmkcaaGreatDoorQRule18
import Derived.Test.YtohjeeapehmkcaaGreatDoorQRule22
import Derived.Test.YtohjeeapehmkcaaGreatDoorQRule23
set_option linter.unusedVariables false
set_option maxRecDepth 100000
namespace Go.Proofs.YtohjeeapehmkcaaGreatDoor
open Go.RowKit
open Bool renaming and_eq_true->XJ,true_and->YI,false_and->YQ,and_false->QA
open Int renaming toNat_natCast->XA,eq_ofNat_of_zero_le->XD,mul_le_mul->ZH,mul_nonneg->ZJ,mul_comm->YG,add_mul->YU,toNat_of_nonneg->Y2,one_mul->QC
open List renaming getElem?_eq_getElem->XB,getD_eq_getElem?_getD->XC,getElem?_set_self->XF,length_set->XG,length_replicate->XH,getElem_mem->XK,length_cons->XM,length_map->XN,mem_of_getElem?->XP,getElem?_set_ne->XQ,getElem?_map->XR,getElem?_eq_none->XV,getElem?_append_left->XX,take_append_drop->XZ,mem_cons_of_mem->ZF,mem_cons_self->ZI,flatMap_cons->ZQ,nil_append->ZR,replicate_succ->ZT,map_set->YD,sum_cons->YH,nodup_nil->YJ,length_range->YK,getElem_map->YM,getElem?_toArray->YO,mem_replicate->YR,ext_getElem?->QF
open Nat renaming le_refl->XE,zero_add->XS,mul_one->ZK,add_assoc->YL
open Go.Proofs.Tryz (func116 func13 func15 func16 func20 func21 func27 func28 func30 func31 func32 func33 func34 func35 func38 func39 func47 func48 func51 func53 func61 func65 func66 func68 func73 func74 func75 func77 func78 func79 func81 func86 func88 ntmps116 ntmps13 ntmps15 ntmps16 ntmps20 ntmps21 ntmps27 ntmps28 ntmps30 ntmps31 ntmps32 ntmps33 ntmps34 ntmps35 ntmps38 ntmps39 ntmps47 ntmps48 ntmps51 ntmps53 ntmps61 ntmps65 ntmps66 ntmps68 ntmps73 ntmps74 ntmps75 ntmps77 ntmps78 ntmps79 ntmps81 ntmps86 ntmps88 prog)
variable {A:Ar}{V:ArV}{c:Conf}{l':IL}{ahead by' size u who z:Int}{lg:List (Nat×List Nat)}{th:List (Option ThM)}{ps:List IL}{bs l p zs:List Int}{l2 ws:List Nat}{cs rest xs:List Value}{mo:Mo}{m:MvM}{N at' b base cap fuel g i j k len lm lo n n0 o off sz t tm vb xb y:Nat}{e:Nat×List Int}{fz:Nat×Nat}{f:Nat->Int}{G:Nat->Pg}{B C F F' Fr S S' T:Nat->Prop}{pd pd2:Option (Nat×PlcM)}{a:Option Addr}{pg:PgL}{P:Pl}{pl':PlM}{q:Plc}{R:Rm}{M:RmM}{x x':Sm}{s s':StM}{α:Type}{v:Value}{w w' w0 w1 w2:World}
section
variable {F Fr:Nat->Prop}{w w':World}{S:Sto}{s:StM}{by':Int}{mo:Mo}{pd:Option (Nat×PlcM)}
def Gd(s:StM)(k:Int):Bool:=decide (0<=k) && decide (k<s.mv.length)
theorem OkP.few(hs:s.OkP S.c pd):s.mv.length<=16/\s.keep.length=s.mv.length/\0<s.mv.length:=by
 have:=(Yp hs.may).n;have:=hs.ml;have:=hs.kl;omega
end
theorem XgA{F Fr:Nat->Prop}{w:World}{S:Sto}{s:StM}{by':Int}{mo:Mo}{pd:Option (Nat×PlcM)}(h:Xr F Fr w S s by' mo)(hs:s.OkP S.c pd)(k:Int):Xf prog 88 #[Zx S,.int .i64 k] w (Za (.bool (Gd s k)) w):=by
 refine ζe func88 ntmps88 ϱ (ζg ϱ (λa=>?_) λa=>?_)
 ·refine ζl h.obj ϱ ?_;have e:Gd s k=decide (k<s.mv.length):=by unfold Gd;rw[decide_eq_true (show 0<=k from of_decide_eq_true a)];rfl
  rw[e];exact ζr func88 ϱ ⟨rfl,rfl⟩
 ·have e:Gd s k=false:=by unfold Gd;rw[decide_eq_false (show ¬0<=k from of_decide_eq_false a)];rfl
  rw[e];exact ζr func88 ϱ ⟨rfl,rfl⟩
theorem XaQ{s:StM}{k:Int}(h:Gd s k=false):Xt s k=none:=by
 unfold Xt;split
 ·rename_i a
  unfold Gd at h;rw[decide_eq_true a,YI] at h;have:=of_decide_eq_false h;rw[XC,XV (by omega)];rfl
 ·rfl
theorem XgN{s:StM}{k:Int}(h:Gd s k=true):∃j:Nat,k=j/\j<s.mv.length:=by
 unfold Gd at h;simp only[XJ,decide_eq_true_eq] at h;exact⟨k.toNat,by omega,by omega⟩
theorem XeO{s:StM}(h:j<s.mv.length):Xt s (j:Nat)=s.mv[j]:=by
 unfold Xt;rw[if_pos (by omega),XA,XC,XB h];rfl
section
variable {F Fr:Nat->Prop}{w w':World}{S:Sto}{s:StM}{by':Int}{mo:Mo}{pd:Option (Nat×PlcM)}
theorem Xr.mo_at(h:Xr F Fr w S s by' mo)(hj:j<s.mv.length):∃x,mo[j]?=some x/\x.map (·.2)=Xt s (j:Nat):=by
 have b:=h.mol;have a:j<mo.length:=by omega
 refine⟨mo[j],XB a,?_⟩;rw[XeO hj];have e:=h.mom;unfold Gs at e;simp only[<-e,YM]
theorem Xr.mcell(h:Xr F Fr w S s by' mo){x:Option (Nat×MvM)}(hx:mo[j]?=some x)(hi:i<6)(hv:(Dy x)[i]?=some v):w.cell? ⟨S.vb,0+j*6+i,none⟩=some v:=by
 refine(Yt h.mvs).trans ?_;rw[XS,YO,Tc XeP hi mo j x hx,hv]
end
theorem Kf{F Fr:Nat->Prop}{w:World}{S:Sto}{s:StM}{by':Int}{mo:Mo}{pd:Option (Nat×PlcM)}(h:Xr F Fr w S s by' mo)(hs:s.OkP S.c pd)(k:Int):Xf prog 51 #[Zx S,.int .i64 k] w (Za (.bool (Xt s k).isSome) w):=by
 obtain⟨f1,_,_⟩:=OkP.few hs;refine ζe func51 ntmps51 ϱ (ζw (XgA h hs k) ϱ ?_);cases a:Gd s k with
 |false=>
  refine ζf ϱ ?_;rw[XaQ a];exact ζr func51 ϱ ⟨rfl,rfl⟩
 |true=>
  obtain⟨j,rfl,d⟩:=XgN a;obtain⟨x,c,e⟩:=h.mo_at d;rw[<-e];refine ζy ϱ (ζl h.obj ϱ (ζi (j*6) ϱ ?_));cases x with
  |none=>
   exact ζk ϱ (h.mcell c (i:=0) (by decide) rfl) ϱ (ζr func51 ϱ ⟨rfl,rfl⟩)
  |some p=>
   obtain⟨b,m⟩:=p;exact ζk ϱ (h.mcell c (i:=0) (by decide) rfl) ϱ (ζr func51 ϱ ⟨rfl,rfl⟩)
section
variable {F Fr:Nat->Prop}{w w':World}{S:Sto}{s:StM}{by':Int}{mo:Mo}{pd:Option (Nat×PlcM)}
theorem Xr.mvOk(h:Xr F Fr w S s by' mo)(hs:s.OkP S.c pd)(hx:mo[j]?=some (some (b,m))):Bw w S.A (D9 S s) (Ef b m) m.gone:=by
 have a:s.mv[j]?=some (some m):=by rw[<-h.mom];unfold Gs;rw[XR,hx];rfl
 obtain⟨c,d,e,_⟩:=Jz hs a;have f:=(hs.mv j m a).2.2.2.2.2.2;exact⟨h.ar,(h.mob j b m hx).1,e,by show m.gone<=m.size;omega,c,d⟩
end
theorem XmC{F Fr:Nat->Prop}{w:World}{S:Sto}{s:StM}{by':Int}{mo:Mo}{pd:Option (Nat×PlcM)}(h:Xr F Fr w S s by' mo)(hs:s.OkP S.c pd)(k:Int):Xf prog 15 #[Zx S,.int .i64 k] w (Grow (.int .i64 (Jk s k:Nat)) w):=by
 obtain⟨f1,_,_⟩:=OkP.few hs;refine ζe func15 ntmps15 ϱ (ζw (Kf h hs k) ϱ ?_);cases a:Xt s k with
 |none=>
  have e:Jk s k=0:=by unfold Jk;rw[a]
  rw[e];exact ζy ϱ (ζr func15 ϱ ⟨rfl,Xc.refl _ _⟩)
 |some m=>
  have e:Jk s k=m.size-m.gone:=by unfold Jk;rw[a]
  rw[e];obtain⟨j,rfl,f,_⟩:=Qr a;obtain⟨x,c,e⟩:=h.mo_at f;rw[a] at e;obtain⟨⟨b,m'⟩,rfl,e'⟩:=Option.map_eq_some_iff.1 e;simp only at e'
  subst e';exact ζf ϱ (ζl h.obj ϱ (ζi (j*6) ϱ (ζk ϱ (h.mcell c (i:=0) (by decide) rfl) ϱ (ζv (Ts S.A (D9 S s) (Ef b m') m'.gone w (h.mvOk hs c)) ϱ λg d=>ζr func15 ϱ ⟨rfl,d⟩))))
def Vn(F:Nat->Prop)(w0:World)(s:StM)(o e:Int)(v:Value):Prop:=∃q,v=.tuple #[.agg (El (Qy s o) q).toArray,.int .i64 e]/\Xy q=Yz s o/\Zl w0 q/\Xj F q.pa/\Dv w0 q.pa
abbrev q0:Plc:=⟨0,0,0,none,0,[]⟩
theorem XaY{F:Nat->Prop}{s:StM}{o e:Int}{w':World}(h:Bt s o=none):Vn F w' s o e (.tuple #[.agg (El 0 q0).toArray,.int .i64 e]):=by
 refine⟨q0,?_,?_,⟨Rd.nil _ _ _,by simp⟩,(λ_ _ _ e=>by cases e),(λ_ _ _ e=>by cases e)⟩
 ·have:Qy s o=0:=by unfold Qy;rw[h]
  rw[this]
 ·unfold Yz;rw[h];rfl
theorem R5{F Fr:Nat->Prop}{w:World}{S:Sto}{s:StM}{by':Int}{mo:Mo}{pd:Option (Nat×PlcM)}(h0:Xr F Fr w0 S s by' mo)(hw0:Xc Xe w0 w)(hs:s.OkP S.c pd)(o:Int):Xf prog 73 #[Zx S,.int .i64 o] w (λv w'=>Vn F w0 s o (Yl s o) v/\Xc Xe w w'):=by
 have V:=hs.tl;refine ζe func73 ntmps73 ϱ (ζn ϱ λb w1 e1 u d W=>?_);have B:=(h0.grow hw0).grow d;by_cases g:o<0\/S.c.slots<=o
 ·have k:Yl s o=1:=by unfold Yl;rw[if_pos (by omega)]
  have f:Bt s o=none:=by
   unfold Bt;split
   ·rw[XC,XV (by omega)];rfl
   ·rfl
  rw[k];refine ζg ϱ (λl=>?_) λl=>?_
  ·exact ζb ϱ (ζs u ϱ λC c a m=>ζR func73 c ϱ ⟨XaY f,d.since a (λz n e=>by omega)⟩)
  ·have a0:=of_decide_eq_false l;exact ζl B.obj ϱ (ζy ϱ (ζb ϱ (ζs u ϱ λC c a m=>ζR func73 c ϱ ⟨XaY f,d.since a (λz n e=>by omega)⟩)))
 ·obtain⟨j,rfl⟩:=XD (show 0<=o by omega);refine ζf ϱ (ζl B.obj ϱ (ζf ϱ (ζl B.obj ϱ ?_)));obtain⟨al,D,a1,E,G⟩:=h0.th;have y:=D.chg (hw0.trans d) id;cases i:s.th[j]? with
  |none=>exact absurd i (by rw[List.getElem?_eq_none_iff];omega)
  |some x=>
   cases x with
   |none=>
    have f:Bt s (j:Nat)=none:=by
     unfold Bt;rw[if_pos (by omega),XA,XC,i];rfl
    have k:Yl s (j:Nat)=9:=by unfold Yl;rw[if_neg (by omega),f]
    have K:Bk al (j:Nat)=none:=G _ λL t1 l e=>by
     have:L=j:=by omega
     subst this;rw[i] at l;cases l
    rw[k];exact Xa.lookup Xb rfl (y) ((show Bf al _ _ true=.tuple #[.agg (El 0 q0).toArray,.bool false] from by unfold Bf;rw[K];rfl)) rfl (ζn ϱ λM C e2 c a m=>ζs c ϱ λN A h H=>ζy ϱ (ζb ϱ (ζs (h.heap (a.heap' u) (by omega)) ϱ λO p r I=>ζR func73 p ϱ ⟨XaY f,((d.trans a).since h (λz n e=>by omega)).since r (λz n e=>by omega)⟩)))
   |some t=>
    have f:=G6 i;have k:Yl s (j:Nat)=0:=by unfold Yl;rw[if_neg (by omega),f]
    have J:Qy s (j:Nat)=t.size:=by unfold Qy;rw[f]
    obtain⟨q,P,Q,R,T,U⟩:=E j t i;rw[k];refine Xa.lookup Xb rfl (y) ((show Bf al _ _ true=.tuple #[.agg (El t.size q).toArray,.bool true] from by unfold Bf;rw[Q];rfl)) rfl (ζn ϱ λM C e2 c a m=>ζs c ϱ λN A h H=>ζf ϱ (ζl A ϱ (ζs (h.heap (a.heap' u) (by omega)) ϱ λO p r I=>?_)));exact ζR func73 p ϱ ⟨⟨q,by rw[J];rfl,P.trans (Yq i).symm,R,T,U⟩,(((d.trans a).since h (λz n e=>by omega)).since r (λz n e=>by omega))⟩
theorem XgB{F Fr:Nat->Prop}{w:World}{S:Sto}{s:StM}{by':Int}{mo:Mo}{pd:Option (Nat×PlcM)}(h:Xr F Fr w0 S s by' mo)(hw0:Xc Xe w0 w)(hs:s.OkP S.c pd)(o i n:Int)(hi : -9223372036854775808<=i/\i<=9223372036854775807)(hn : -9223372036854775808<=n/\n<=9223372036854775807):Xf prog 75 #[Zx S,.int .i64 o,.int .i64 i,.int .i64 n] w (λv w'=>Vn F w0 s o (Qp s o i n) v/\Xc Xe w w'):=by
 have P:0<=Qy s o/\Qy s o<=1152921504606846976:=by
  unfold Qy;cases M:Bt s o with
  |none=>simp
  |some t=>
   obtain⟨j,_,_,N⟩:=Xca M;have:=hs.size j t N;have:=(Yp hs.may).most;simp only
   omega
 refine ζe func75 ntmps75 ϱ (ζn ϱ λb w1 e1 O l Q=>ζc ϱ (R5 h (hw0.trans l) hs o) ?_);rintro _ w2 ⟨⟨q,rfl,y,A,B,C⟩,k⟩;have R:=k.size;refine ζa ϱ (ζn ϱ λb3 w3 e3 H m T=>ζs H ϱ λw4 d p U=>?_);have f:=p.heap (m.heap' (k.heap' O)) (by omega);refine ζg ϱ (λE=>?_) λE=>?_
 ·have I:Yl s o=0:=by simpa using E
  by_cases g:i<0\/n<0\/Qy s o<n\/Qy s o-n<i
  ·have e:Qp s o i n=8:=by unfold Qp;rw[if_neg (by omega),if_pos g]
   refine ζg ϱ (λJ=>?_) λJ=>?_
   ·have r:=((l.trans k).trans m).since p (λz u e=>by omega);refine ζl d ϱ (ζs f ϱ λD a c x=>?_);exact ζR func75 a ϱ ⟨⟨q,by rw[e];rfl,y,A,B,C⟩,(r.since c (λz u e=>by omega))⟩
   ·have V:=of_decide_eq_false J;refine ζg ϱ (λK=>?_) λK=>?_
    ·have r:=((l.trans k).trans m).since p (λz u e=>by omega);refine ζl d ϱ (ζs f ϱ λD a c x=>?_);exact ζR func75 a ϱ ⟨⟨q,by rw[e];rfl,y,A,B,C⟩,(r.since c (λz u e=>by omega))⟩
    ·have W:=of_decide_eq_false K;refine ζl d ϱ (ζg ϱ (λL=>?_) λL=>?_)
     ·have r:=((l.trans k).trans m).since p (λz u e=>by omega);refine ζl d ϱ (ζs f ϱ λD a c x=>?_);exact ζR func75 a ϱ ⟨⟨q,by rw[e];rfl,y,A,B,C⟩,(r.since c (λz u e=>by omega))⟩
     ·have a0:=of_decide_eq_false L;refine ζl d ϱ (ζj ϱ (ζy ϱ ?_));refine ζl d ϱ (ζs f ϱ λD a c x=>?_);exact ζR func75 a ϱ ⟨⟨q,by rw[e];rfl,y,A,B,C⟩,((((l.trans k).trans m).since p (λz u e=>by omega)).since c (λz u e=>by omega))⟩
  ·have e:Qp s o i n=0:=by unfold Qp;rw[if_neg (by omega),if_neg g]
   have G:Yl s o=Qp s o i n:=by rw[I,e]
   refine ζf ϱ (ζf ϱ (ζl d ϱ (ζf ϱ (ζl d ϱ (ζj ϱ (ζf ϱ (ζl d ϱ (ζs f ϱ λD a c x=>?_))))))));exact ζR func75 a ϱ ⟨⟨q,by rw[<-G];rfl,y,A,B,C⟩,((((l.trans k).trans m).since p (λz u e=>by omega)).since c (λz u e=>by omega))⟩
 ·have e:Yl s o=Qp s o i n:=by unfold Qp;rw[if_pos (by simpa using E)]
  refine ζl d ϱ (ζs f ϱ λD a c x=>?_);exact ζR func75 a ϱ ⟨⟨q,by rw[<-e];rfl,y,A,B,C⟩,((((l.trans k).trans m).since p (λz u e=>by omega)).since c (λz u e=>by omega))⟩
theorem XmJ{S:Sto}(h:Xr F Fr w S s by' mo)(hs:s.OkP S.c pd)(o:Int):Xf prog 35 #[Zx S,.int .i64 o] w (Grow (.int .i64 (Qy s o)) w):=by
 refine ζe func35 ntmps35 ϱ (ζc ϱ (R5 h (Xc.refl _ _) hs o) ?_);rintro _ j ⟨⟨q,rfl,_⟩,a⟩;exact ζa ϱ (ζn ϱ λk l e3 b c g=>ζs b ϱ λm d f i=>ζl d ϱ (ζr func35 ϱ ⟨rfl,(a.trans c).since f (λz n e=>by have:=a.size;omega)⟩))
theorem U4{S:Sto}(fk:Nat)(caps:List Value)(w:World)(Q:Int->World->Prop)(hf:Xf prog fk caps.toArray w (λv w'=>∃n:Int,v=.int .i64 n/\Q n w')):Xf prog 47 #[Zx S,.func (.func fk) #[] caps.toArray] w (λv w'=>∃n:Int,v=.int .i64 n/\Q n w'):=by
 refine ζe func47 ntmps47 ϱ (ζc ϱ (hf) ?_);rintro _ b ⟨n,rfl,a⟩;exact ζa ϱ (ζr func47 ϱ ⟨n,rfl,a⟩)
abbrev Ux(w:World)(b:Nat)(v:Value):Prop:=w.heap[b]?=some (.cells #[v] 29 (0,0))
theorem XmB{S:Sto}(h:Xr F Fr w S s by' mo)(b:Nat)(hb:Ux w b (Zx S)):Xf prog 61 [.pointer (some ⟨b,0,none⟩)].toArray w (λv w'=>∃n:Int,v=.int .i64 n/\n=(Zn s.rm.pl:Nat)/\w=w'):=by
 exact ζe func61 ntmps61 ϱ (ζk ϱ (Es (off:=0) hb rfl) ϱ (ζl h.obj ϱ (ζw (R0 h.room) ϱ (ζr func61 ϱ ⟨_,rfl,rfl,rfl⟩))))
theorem XmA{S:Sto}(h:Xr F Fr w S s by' mo):Xf prog 20 #[Zx S] w (Grow (.int .i64 (Zn s.rm.pl:Nat)) w):=by
 refine ζe func20 ntmps20 ϱ (ζn ϱ λb d e1 c a e=>ζk ϱ (Es (off:=0) c rfl) ϱ (ζc ϱ (U4 (S:=S) 61 [.pointer (some ⟨b,0,none⟩)] d _ (XmB (h.grow a) b c)) ?_));rintro _ f ⟨n,rfl,rfl,rfl⟩;exact ζa ϱ (ζr func20 ϱ ⟨rfl,a⟩)
theorem Xmy{S:Sto}(h:Xr F Fr w S s by' mo)(b:Nat)(hb:Ux w b (Zx S)):Xf prog 81 [.pointer (some ⟨b,0,none⟩)].toArray w (λv w'=>∃n:Int,v=.int .i64 n/\n=by'/\w=w'):=by
 exact ζe func81 ntmps81 ϱ (ζk ϱ (Es (off:=0) hb rfl) ϱ (ζl h.obj ϱ (ζr func81 ϱ ⟨_,rfl,rfl,rfl⟩)))
theorem Xmx{S:Sto}(h:Xr F Fr w S s by' mo):Xf prog 34 #[Zx S] w (Grow (.int .i64 by') w):=by
 refine ζe func34 ntmps34 ϱ (ζn ϱ λb d e1 c a e=>ζk ϱ (Es (off:=0) c rfl) ϱ (ζc ϱ (U4 (S:=S) 81 [.pointer (some ⟨b,0,none⟩)] d _ (Xmy (h.grow a) b c)) ?_));rintro _ f ⟨n,rfl,rfl,rfl⟩;exact ζa ϱ (ζr func34 ϱ ⟨rfl,a⟩)
theorem XmF{S:Sto}(h:Xr F Fr w S s by' mo)(b kb:Nat)(k:Int)(hb:Ux w b (Zx S))(hk:w.heap[kb]?=some (.cells #[.int .i64 k] 3 (0,0))):Xf prog 53 [.pointer (some ⟨b,0,none⟩),.pointer (some ⟨kb,0,none⟩)].toArray w (λv w'=>∃n:Int,v=.int .i64 n/\n=(Zf s.rm k:Nat)/\Xc Xe w w'):=by
 exact ζe func53 ntmps53 ϱ (ζd 5 Xe (by kernel_rfl) ϱ λa=>δk a (Es (off:=0) hb rfl) ϱ (δl a h.obj ϱ (δk a (Es (off:=0) hk rfl) ϱ (δn a ϱ λd c=>ζw (R1 (h.room.grow c) k) ϱ (ζr func53 ϱ ⟨_,rfl,rfl,c⟩)))))
theorem XmE{S:Sto}(h:Xr F Fr w S s by' mo)(k:Int):Xf prog 16 #[Zx S,.int .i64 k] w (Grow (.int .i64 (Zf s.rm k:Nat)) w):=by
 refine ζe func16 ntmps16 ϱ (ζn ϱ λb l e1 d c i=>ζn ϱ λkb f e2 g a j=>ζk ϱ (Es (off:=0) (a.heap' d) rfl) ϱ (ζc ϱ (U4 (S:=S) 53 [.pointer (some ⟨b,0,none⟩),.pointer (some ⟨kb,0,none⟩)] f _ (XmF (h.grow (c.trans a)) b kb k (a.heap' d) g)) ?_));rintro _ m ⟨n,rfl,rfl,e⟩;exact ζa ϱ (ζr func16 ϱ ⟨rfl,(c.trans a).trans e⟩)
theorem XmP{S:Sto}(h:Xr F Fr w S s by' mo)(old size:Int)(ho:old<=9223372036854775807)(hz:size<=9223372036854775807):Xf prog 86 #[Zx S,.int .i64 old,.int .i64 size] w (Grow (.bool (Af S.c old size)) w):=by
 have d:=h.ca.1;have j:S.c.classes.length<=9223372036854775807:=by have:=Yp h.room.may;have:=this.n;rw[h.rc] at this;omega
 refine ζe func86 ntmps86 ϱ (ζd 13 Xe (by kernel_rfl) ϱ λa=>δl a h.obj ϱ (δv a (λw' f=>Nl S.p.ca S.p.cc S.c.classes old w' (d.chg f) j) ϱ (δl a h.obj ϱ (δn a ϱ λm g=>ζv (Nl S.p.ca S.p.cc S.c.classes size m (d.chg g) j) ϱ λn k=>?_))));have b:=g.trans k;have l:=h.grow b;by_cases e1:Xk S.c.classes old=Xk S.c.classes size
 ·by_cases e2:Xk S.c.classes old=-1
  ·have e:Af S.c old size=decide (Z2 old S.c.size=Z2 size S.c.size):=by unfold Af;rw[decide_eq_true e1,YI,decide_eq_false (λh=>h e2),Bool.false_or]
   rw[e];exact ζd 20 Xe (by kernel_rfl) ϱ λa=>Xd.yes Xb a rfl (by simpa using e1) rfl (Xd.no Xb a rfl (by rw[e2];rfl) rfl (δl a l.obj ϱ (δw a (λw' f=>W6 old S.c.size w' ho) ϱ (δl a l.obj ϱ (δn a ϱ λi c=>ζw (W6 size S.c.size i hz) ϱ (ζr func86 ϱ ⟨rfl,b.trans c⟩))))))
  ·have e:Af S.c old size=true:=by unfold Af;rw[decide_eq_true e1,YI,decide_eq_true e2,Bool.true_or]
   rw[e];exact ζd 20 Xe (by kernel_rfl) ϱ λa=>Xd.yes Xb a rfl (by simpa using e1) rfl (Xd.yes Xb a rfl (by simpa using e2) rfl (δn a ϱ λi c=>ζr func86 ϱ ⟨rfl,b.trans c⟩))
 ·have e:Af S.c old size=false:=by unfold Af;rw[decide_eq_false e1,YQ]
  rw[e];exact ζd 20 Xe (by kernel_rfl) ϱ λa=>Xd.no Xb a rfl (by simpa using e1) rfl (δn a ϱ λi c=>ζr func86 ϱ ⟨rfl,b.trans c⟩)
theorem XbT{S:Sto}(h:Xr F Fr w S s by' mo)(hs:s.OkP S.c pd)(size:Int):Xf prog 21 #[Zx S,.int .i64 size] w (Grow (.int .i64 (Qg S.c s size)) w):=by
 have i:S.c.classes.length<=9223372036854775807:=by have:=Yp h.room.may;have:=this.n;rw[h.rc] at this;omega
 refine ζe func21 ntmps21 ϱ (ζg ϱ (λc=>?_) λc=>?_)
 ·have e:Qg S.c s size=3:=by unfold Qg;rw[if_pos (.inl (of_decide_eq_true c))]
  rw[e];exact ζr func21 ϱ ⟨rfl,Xc.refl _ _⟩
 ·have j:=of_decide_eq_false c;refine ζl h.obj ϱ (ζg ϱ (λd=>?_) λd=>?_)
  ·have e:Qg S.c s size=3:=by unfold Qg;rw[if_pos (.inr (of_decide_eq_true d))]
   rw[e];exact ζr func21 ϱ ⟨rfl,Xc.refl _ _⟩
  ·have k:=of_decide_eq_false d;have e:Qg S.c s size=if (Xt s (Xk S.c.classes size)).isSome then 0 else Qd S.c s.rm size:=by unfold Qg;rw[if_neg (by omega)]
   rw[e];refine ζl h.obj ϱ (ζv (Nl S.p.ca S.p.cc S.c.classes size w h.ca.1 i) ϱ λl a=>?_);have b:=h.grow a;refine ζw (Kf b hs (Xk S.c.classes size)) ϱ ?_;cases m:(Xt s (Xk S.c.classes size)).isSome with
   |true=>
    exact ζy ϱ (ζr func21 ϱ ⟨rfl,a⟩)
   |false=>
    refine ζf ϱ (ζl b.obj ϱ ?_);have f:=XfV b.room size;rw[b.rc] at f;exact ζv f ϱ λn g=>ζr func21 ϱ ⟨rfl,a.trans g⟩
theorem Xkl(opn keep:Int)(w:World)(ho:0<=opn/\opn<=4611686018427387904)(hk:0<=keep/\keep<=4611686018427387904):Xf prog 116 #[.int .i64 opn,.int .i64 keep] w (Za (.bool (E6 opn keep)) w):=by
 refine ζe func116 ntmps116 ϱ (ζg ϱ (λa=>?_) λa=>?_)
 ·have b:=of_decide_eq_true a;refine Xa.arith Xb rfl (Xct (by omega)) rfl (Xa.arith Xb rfl (Xct (by omega)) rfl (Xa.arith Xb rfl (Xct (by omega)) rfl ?_));have e:E6 opn keep=decide (opn-keep>1):=by
   unfold E6;rw[decide_eq_true (by omega),YI];exact decide_eq_decide.2 (by omega)
  rw[e];exact ζr func116 ϱ ⟨rfl,rfl⟩
 ·have b:=of_decide_eq_false a;have e:E6 opn keep=false:=by unfold E6;rw[decide_eq_false (by omega),YQ]
  rw[e];exact ζr func116 ϱ ⟨rfl,rfl⟩
section
variable {F Fr:Nat->Prop}{w w':World}{S:Sto}{s:StM}{by':Int}{mo:Mo}{pd:Option (Nat×PlcM)}
theorem Xr.kcell(h:Xr F Fr w S s by' mo)(hk:k<s.keep.length):w.cell? ⟨S.kb,0+k,none⟩=some (.int .i64 (s.keep.getD k 0)):=by
 refine(Yt h.kee).trans ?_;rw[XS,YO,XX (by rw[XN];exact hk),XR,XB hk,XC,XB hk];rfl
theorem Xi8(hs:s.OkP S.c pd)(hk:k<s.keep.length):0<=s.keep.getD k 0/\s.keep.getD k 0<=1024:=by
 rw[XC,XB hk];exact hs.kr _ (XK hk)
theorem Xj0(hs:s.OkP S.c pd)(k:Int):Zf s.rm k<=1024:=by
 unfold Zf;cases a:Zc s.rm k with
 |none=>simp
 |some x=>
  obtain⟨j,rfl,c,b⟩:=Dt a;exact((hs.rm.mok.sh j x b).1.few).2.1
theorem Pz{y:Option (Nat×MvM)}(hk:k<mo.length):Yd (fl Dy mo) (0+k*6) (Dy y)=some (fl Dy (mo.set k y)):=by
 have:=Pm (cells:=Dy) XeP (xs:=mo) (k:=k) (y:=y) (rest:=[]) hk
 simpa using this
theorem Il(a b c:Int):Zl w ⟨a,b,c,none,0,[]⟩:=⟨Rd.nil _ _ _,by simp⟩
end
theorem Xgw{F Fr:Nat->Prop}{w:World}{S:Sto}{s:StM}{by':Int}{mo:Mo}(h:Xr F Fr w S s by' mo)(hs:s.Ok S.c)(k:Nat)(hk:k<s.mv.length):Xf prog 65 #[Zx S,.int .i64 (k:Nat)] w (λ_ w'=>Dx F w w' S (Yc S.c s k) by'):=by
 obtain⟨f1,f2,f3⟩:=OkP.few hs;have W:k<s.keep.length:=by omega
 have ap:k<S.c.classes.length:=by have:=hs.ml;omega
 have bw:=Xi8 hs W;have bx:=Xj0 hs (k:Nat);have no:∀{w'},Xc Xe w w'->Aw s k=false->Dx F w w' S (Yc S.c s k) by':=λ{w'} R i=>by
  unfold Yc;rw[i];exact .of (h.grow R) R.gr
 refine ζe func65 ntmps65 ϱ ?_;cases J:(Xt s (k:Nat)).isSome with
 |true=>
  have i:Aw s k=false:=by
   unfold Aw;cases hx:Xt s (k:Nat) with
   |none=>rw[hx] at J;cases J
   |some x=>rfl
  exact ζd 17 Xe (by kernel_rfl) ϱ λa=>δw a (λw' c=>Kf (h.grow c) hs (k:Nat)) ϱ (Xd.yes Xb a rfl J rfl (δn a ϱ λw1 d=>ζr func65 ϱ (no d i)))
 |false=>
  have ar:(Xt s (k:Nat)).isNone=true:=by
   cases hx:Xt s (k:Nat) with
   |none=>rfl
   |some x=>rw[hx] at J;cases J
  refine ζd 17 Xe (by kernel_rfl) ϱ λa=>δw a (λw' c=>Kf (h.grow c) hs (k:Nat)) ϱ (Xd.no Xb a rfl J rfl (δl a h.obj ϱ (δw a (λw' c=>R1 (h.room.grow c) (k:Nat)) ϱ (δl a h.obj ϱ (δi k a ϱ (δk a (h.kcell W) ϱ (δn a ϱ λw1 d=>ζw (Xkl (Zf s.rm (k:Nat):Nat) (s.keep.getD k 0) w1 (by omega) (by omega)) ϱ ?_)))))));cases T:E6 (Zf s.rm (k:Nat):Nat) (s.keep.getD k 0) with
  |false=>
   have i:Aw s k=false:=by unfold Aw;rw[T,QA,YQ]
   exact ζy ϱ (ζr func65 ϱ (no d i))
  |true=>
   refine ζf ϱ (ζl (d.heap' h.obj) ϱ ?_);have K:=XlA (h.room.grow d) (k:Nat);obtain⟨⟨pf,fa,pt,ta⟩,ePl⟩:∃p,p=Ye s.rm (k:Nat):=⟨_,rfl⟩;rw[XfT,<-ePl] at K;simp only at K
   refine ζv K ϱ λU a0=>ζn ϱ λb w3 e3 au av bz=>ζs au ϱ λw4 L aw c0=>?_;have c1:=d.size;have c2:=a0.size;have l:=((d.trans a0).trans av).since aw (λz hz e=>by omega);cases hp:Gz s.rm (k:Nat) with
   |false=>
    have i:Aw s k=false:=by unfold Aw;rw[hp,QA]
    exact ζy ϱ (ζr func65 ϱ (no l i))
   |true=>
    have i:Aw s k=true:=by unfold Aw;rw[ar,T,hp];rfl
    refine ζf ϱ ?_;obtain⟨P,_,bi,⟨o,t,r,c3,a7⟩,hf,ht⟩:=Sp hs i;have P1:=P.own;have P2:=P.n (o:Int) (by omega);have P3:=P.a (o:Int) (by omega);rw[<-ePl] at P1 P2 P3 r a7 hf ht;simp only at P1 P2 P3 r a7 hf ht
    have h4:=h.grow l;have b4:¬F b:=λhz=>by have:=h.low b hz;omega
    refine ζd 9 Xe (by kernel_rfl) ϱ λa=>δl a h4.obj ϱ (δl a L ϱ (δl a L ϱ (δn a ϱ λw5 G=>?_)));have V:=h4.grow G;have b5:=G.heap' L;refine ζw (Xly V.room (k:Nat) pf fa) ϱ ?_;rw[r];refine ζl V.obj ϱ (ζc ϱ (XfX V.room (k:Nat) (o:Nat)) ?_);rintro _ w6 ⟨rfl,⟨Fr',hr,a8,n⟩⟩;refine ζa ϱ ?_;have h6:=V.roomed hr a8 n;have N:=n.heap b5 (λhz=>b4 (h.f1 _ hz));have H:=StM.OkP.begin hs k;have eB:Yc S.c s k={s with rm:=Z9 s.rm (k:Nat) (o:Nat),mv:=s.mv.set k (some (I9 S.c s.rm k))}:=by unfold Yc;rw[if_pos i,<-ePl];simp only;rw[r]
    rw[eB] at H⊢;obtain⟨m,em⟩:∃m,m=I9 S.c s.rm k:=⟨_,rfl⟩;rw[<-em] at H⊢;obtain⟨_,_,_,mf,mt,ms,_⟩:=H.mv k m (by show(s.mv.set k _)[k]?=_;rw[XF hk]);have b8:m.who=o/\m.pf=pf/\m.fa=fa/\m.pt=pt/\m.ta=ta/\m.gone=0:=by rw[em];unfold I9;rw[<-ePl];exact⟨r,rfl,rfl,rfl,rfl,rfl⟩
    obtain⟨b9,a9,aa,ab,ac,ba⟩:=b8;rw[a9,aa] at mf;rw[ab,ac] at mt;refine ζd 10 Xe (by kernel_rfl) ϱ λa=>δl a h6.obj ϱ (δl a N ϱ (δl a N ϱ (Xd.build Xb a rfl rfl (δn a ϱ λw7 u=>?_))));have h7:=h6.grow u;have A:=Xci S.v ⟨(k:Nat),pf,fa,none,0,[]⟩ w7 h7.vw (Il _ _ _);rw[h.vc,show Ag S.c ⟨(k:Nat),pf,fa,none,0,[]⟩=(m.f:Int) from mf.symm] at A;refine ζv A ϱ λw8 B=>?_;have h8:=h7.grow B;have O:=B.heap' (u.heap' N);refine ζd 10 Xe (by kernel_rfl) ϱ λa=>δl a h8.obj ϱ (δl a O ϱ (δl a O ϱ (Xd.build Xb a rfl rfl (δn a ϱ λw9 C=>?_))));have h9:=h8.grow C;have A:=Xci S.v ⟨(k:Nat),pt,ta,none,0,[]⟩ w9 h9.vw (Il _ _ _);rw[h.vc,show Ag S.c ⟨(k:Nat),pt,ta,none,0,[]⟩=(m.t:Int) from mt.symm] at A;refine ζv A ϱ λad f=>?_;have g:=h9.grow f;obtain⟨cb,off,eca,ae⟩:=g.ca.1 k ap;have esz:S.c.classes.getD k 0=(m.size:Int):=by rw[ms];unfold Yb;rw[XA]
    rw[esz] at ae;refine ζd 19 Xe (by kernel_rfl) ϱ λa=>δl a g.obj ϱ (δl a g.obj ϱ ?_);rw[eca];refine δi k a ϱ ?_;refine Xd.load Xb a rfl ae (by first|exact λh=>h|(intro h;omega)|assumption) rfl ?_;have al:N5 s.bs.length m.f m.t m.size=true:=Tt.2 (by obtain⟨l1,l2,l3,l4⟩:=(Jz H (k:=k) (m:=m) (by show(s.mv.set k _)[k]?=_;rw[XF hk]));simp only at l1 l2;omega);have T:∀w',Xc Xe ad w'->Xf prog 121 #[.pointer (some ⟨S.A.ab,0,none⟩),.int .i64 m.f,.int .i64 m.t,.int .i64 m.size] w' (λv U=>Xc Xe w' U/\∃M:Mv,v=.tuple #[.pointer (some ⟨M.mv,0,none⟩),.int .i64 0]/\M.f=m.f/\M.t=m.t/\M.size=m.size/\ad.heap.size<=M.mv/\Bw U S.A (D9 S {s with rm:=Z9 s.rm (k:Nat) (o:Nat)}) M 0):=λw' c=>
     (XjL S.A _ m.f m.t m.size w' (g.ar.grow c) al).mono λv U ⟨M,e,a1,a2,a3,a4,a5,a6⟩=>⟨a6,M,e,a1,a2,a3,by have:=c.size;omega,a5⟩
    refine Xd.callQ a rfl rfl (T) ?_;rintro _ c4 D ⟨M,rfl,af,ag,ah,be,I⟩;refine Xd.adv Xb a rfl (δn a ϱ λc5 q=>?_);have ai:=(g.adopt D be (Xg I.obj)).grow q;have I:=I.grow q;refine ζd 9 Xe (by kernel_rfl) ϱ λa=>δl a ai.obj ϱ (δl a (q.heap' (D.heap' (f.heap' (C.heap' O)))) ϱ (Xd.build Xb a rfl rfl (δn a ϱ λbf E=>?_)));have aj:=ai.grow E;have am:k<mo.length:=by rw[h.mol];exact hk
    refine Xa.index Xb rfl (j:=k*6) (by omega) (show(k:Int)<(s.mv.length:Nat) by omega) (by simp) rfl ?_;have hv:([.pointer (some ⟨M.mv,0,none⟩),.int .i64 (o:Nat),.int .i64 pf,.int .i64 fa,.int .i64 pt,.int .i64 ta]:List Value)=Dy (some (M.mv,m)):=by unfold Dy;simp only;rw[b9,a9,aa,ab,ac]
    refine ζS ϱ aj.mvs (hv▸(Pz (mo:=mo) (k:=k) (y:=some (M.mv,m)) am)) ϱ λbg an Q bu=>?_;have bh:∀b' m',some (M.mv,m)=some (b',m')->bf.heap[b']?=some (.cells (N4 S.A (Ef b' m') m'.gone).toArray 158 (0,0))/\((F b'\/Fr' b')\/b'=M.mv)/\¬Fr' b'/\∀(j:Nat) m'',mo[j]?≠some (some (b',m'')):=λb' m' e=>by
     cases e
     refine⟨?_,.inr rfl,λhz=>by have:=hr.low _ hz;have:=u.size;have:=B.size;have:=C.size;have:=f.size;omega,λj m'' hj=>?_⟩
     ·have:=(I.grow E).obj;rw[ba];have eM:M=Ef M.mv m:=by cases M;simp only at af ag ah;subst af;subst ag;subst ah;rfl
      rw[eM] at this;exact this
     ·have:=g.low _ (g.mob j _ m'' hj).2.1;omega
    have ao:Xc F w w5:=(l.trans G).gr;have R:Xc F w bg:=by
     exact((ao.trans (n.mono λz _ hz=>h.f1 z hz)).trans (((((((u.trans B).trans C).trans f).trans D).trans q).trans E).gr)).trans (Q.mono λz _ e=>e▸h.f2.2.2.2.2)
    have fF:∀z,((F z\/Fr' z)\/z=M.mv)->F z\/w.heap.size<=z:=λz hz=>by
     have:=l.size;have:=G.size;have:=u.size;have:=B.size;have:=C.size;have:=f.size;have:=n.size;rcases hz with(hz|hz)|rfl
     ·exact .inl hz
     ·exact(a8 z hz).imp (h.f1 z) (by omega)
     ·exact .inr (by omega)
    exact ζr func65 ϱ ⟨_,Fr',_,(aj.setMv (x:=some (M.mv,m)) Q an bh),fF,R⟩
section
variable {F Fr:Nat->Prop}{w w':World}{S:Sto}{s:StM}{by':Int}{mo:Mo}{pd:Option (Nat×PlcM)}
theorem Xms{M:Mv}(hb:A.mb=some b):Ou A V M g k=⟨Ir V.bs M.f M.t g k,Xx V.total k,V.lap⟩:=by
 unfold Ou Ir;by_cases h:k=0
 ·subst h;rw[if_pos rfl,if_pos rfl];exact ArV.eq rfl (Ni _).symm rfl
 ·rw[if_neg h,if_neg h];exact ArV.eq rfl (Pa hb) (V.charge_lap A _)
theorem Xnm{M:Mv}(hb:A.mb=some b):Mu A V M g i n=⟨D7 V.bs M.f M.t g i n,Xx V.total (Q2 i n g),V.lap⟩:=by
 unfold Mu D7;by_cases h:Q2 i n g=0
 ·rw[if_pos h,if_pos h,h];exact ArV.eq rfl (Ni _).symm rfl
 ·rw[if_neg h,if_neg h];exact ArV.eq rfl (Pa hb) (V.charge_lap A _)
theorem Tu(h:Xr F Fr w S s by' mo)(hm:s.mv[k]?=some (some m)):∃b,mo[k]?=some (some (b,m)):=by
 obtain⟨x,a,e⟩:=h.mo_at ((List.getElem?_eq_some_iff.1 hm).1);rw[Cr hm] at e;obtain⟨⟨b,m'⟩,rfl,e'⟩:=Option.map_eq_some_iff.1 e;simp only at e'
 subst e';exact⟨b,a⟩
theorem Xr.went(h:Xr F Fr w S s by' mo){t:Int}(hx:mo[k]?=some (some (b,m)))(hM:Bw w' S.A ⟨bs,t,S.R.lap⟩ (Ef b m) g)(hl:bs.length=s.bs.length)(hc:Xc (Pw S.A (Ef b m)) w w'):Xr F Fr w' S {s with bs:=bs,rm:={s.rm with tot:=t},mv:=s.mv.set k (some {m with gone:=g})} by' (mo.set k (some (b,{m with gone:=g}))):=by
 have d:=(List.getElem?_eq_some_iff.1 hx).1;have l:∀(j b':Nat) m',mo[j]?=some (some (b',m'))->j≠k -> ¬Pw S.A (Ef b m) b':=λj b' m' a c f=>by
  have kk:=h.kdm a;obtain⟨_,_,n,_,_,o⟩:=h.kds;rcases f with(e|e)|e
  ·exact Xs kk n (by decide) e
  ·rw[h.amb] at e;cases e;exact Xs kk o (by decide) rfl
  ·exact c (h.mdj j k b' m' m a (e▸hx))
 have:=h.arena (bs:=bs) (t:=t) (mo2:=mo.set k (some (b,{m with gone:=g}))) hc (λz f=>?_) hM.ar.dat hl hM.ar.rng (hM.ar.met _ h.amb) ?_ (by rw[XG]) (λj b' m' a=>?_)
 ·rw[XeL,h.mom] at this;exact this
 ·rcases f with(e|e)|e
  ·exact .inl e
  ·rw[h.amb] at e;exact .inr (.inl (Option.some.inj e).symm)
  ·exact .inr (.inr ⟨k,m,e▸hx⟩)
 ·apply QF
  intro i;have e1:=Pz (mo:=mo) (k:=k) (y:=some (b,{m with gone:=g})) d;have e2:=Pz (mo:=mo) (k:=k) (y:=some (b,m)) d;have e3:mo.set k (some (b,m))=mo:=by
   apply QF
   intro j;by_cases e:k=j
   ·subst e;rw[XF d,hx]
   ·rw[XQ e]
  rw[e3] at e2;have e4:Dy (some (b,{m with gone:=g}))=Dy (some (b,m)):=rfl;rw[e4,e2] at e1;rw[<-Option.some.inj e1]
 ·rcases Py a with⟨rfl,e,_⟩|⟨c,a⟩
  ·cases e
   exact⟨hM.obj,m,hx⟩
  ·exact⟨hc.heap (h.mob j b' m' a).1 (l j b' m' a c),m',a⟩
end
theorem XbU{F Fr:Nat->Prop}{w:World}{S:Sto}{s:StM}{by':Int}{mo:Mo}(h:Xr F Fr w S s by' mo)(hs:s.Ok S.c)(hm:s.mv[k]?=some (some m))(n:Int):Xf prog 66 #[Zx S,.int .i64 (k:Nat),.int .i64 n] w (λv w'=>v=.int .i64 (Z1 m n:Nat)/\Dx F w w' S (Yo s k n) by'):=by
 obtain⟨f1,f2,f3⟩:=OkP.few hs;have hk:=(List.getElem?_eq_some_iff.1 hm).1;obtain⟨b,Q⟩:=Tu h hm;obtain⟨⟨o,t,ew,et,eq⟩,ea,en,_,_,_,b1⟩:=hs.mv k m hm;have a8:k<mo.length:=by rw[h.mol];exact hk
 have b2:=Td m n;have U:∀z,Pw S.A (Ef b m) z->F z:=λz a=>a.elim (h.footF z) (λe=>e▸(h.mob k b m Q).2.1);refine ζe func66 ntmps66 ϱ (ζl h.obj ϱ (Xa.index Xb rfl (j:=k*6) (by omega) (show(k:Int)<(s.mv.length:Nat) by omega) (by simp) rfl ?_));refine Xa.loadC Xb (Dy (some (b,m))) rfl (by first|rfl|(simp;done)|(simp[*];done)|(simp;omega)) ((λj v hv=>by have hj:j<6:=(List.getElem?_eq_some_iff.1 hv).1;exact h.mcell Q hj hv)) rfl ?_;refine ζn ϱ λxb w1 e1 a9 af b3=>ζs a9 ϱ λw2 V ag b4=>?_;have B:=af.since ag (λz a e=>by omega);have h2:=h.grow B;have C:¬F xb:=λa=>by have:=h.low xb a;omega
 refine ζl V ϱ (ζc ϱ (XjM S.A (D9 S s) (Ef b m) m.gone n w2 (h2.mvOk hs Q)) ?_);rintro _ w3 ⟨rfl,W,D⟩;refine ζa ϱ ?_;have E:Bw w3 S.A ⟨Ir s.bs m.f m.t m.gone (Z1 m n),Xx s.rm.tot (Z1 m n:Nat),S.R.lap⟩ (Ef b m) (m.gone+Z1 m n):=by
  rw[Xms h.amb] at W;exact W
 obtain⟨l1,l2,l3,_⟩:=Jz hs hm;have G:=D.heap V (λa=>C (U _ a));refine ζl G ϱ (ζv (Ts S.A _ (Ef b m) (m.gone+Z1 m n) w3 E) ϱ λw4 H=>?_);have R:=(h2.went Q E (XbR (size:=m.size) (by omega) l1 l2) D).grow H;have d:=H.heap' G;have I:=(B.gr.trans (D.mono λz _ a=>U z a)).trans H.gr;by_cases a0:m.gone+Z1 m n<m.size
 ·have eG:Yo s k n={Q7 s m n with mv:=s.mv.set k (some {m with gone:=m.gone+Z1 m n})}:=by unfold Yo;rw[Cr hm];simp only;rw[if_pos a0]
  rw[eG];exact ζF ϱ (by show((((m.size-(m.gone+Z1 m n):Nat):Int) == 0)=false);simp;omega) (ζr func66 ϱ ⟨rfl,.of R I⟩)
 ·have eG:Yo s k n={Q7 s m n with mv:=s.mv.set k none,th:=s.th.set m.who.toNat (some ⟨Qy s m.who,⟨k,m.pt,m.ta,[]⟩⟩),rm:=Qb (Q7 s m n).rm k m.pf m.fa}:=by unfold Yo;rw[Cr hm];simp only;rw[if_neg a0]
  rw[eG];refine ζY ϱ (by show((((m.size-(m.gone+Z1 m n):Nat):Int) == 0)=true);simp;omega) ?_;have aj:m.who.toNat=o:=by omega
  have ak:Qy s m.who=t.size:=by unfold Qy;rw[ew,G6 et]
  rw[aj,ak];obtain⟨al,a1⟩:=R.th;obtain⟨q,q1,q2,q3,q4,q5⟩:=a1.2.2.1 o t et;refine ζd 8 Xe (by kernel_rfl) ϱ λc=>δl c R.obj ϱ (δl c d ϱ (Xd.lookup Xb c rfl (a1.1) (by first|(intro b h;cases h;assumption)|(intro b h hs;cases h;omega)) ((show Bf al _ m.who false=.agg (El t.size q).toArray from by unfold Bf;rw[ew,q2];rfl)) rfl (Xd.turn1 c rfl λw5 r=>Xp.alloc Xb c rfl (λ_=>rfl) λtb w6 e6 aa am b5=>δn c ϱ λw7 a2=>?_)));have J:=(r.trans am).trans a2;have an:tb≠xb:=by have:=Xg d;have:=r.size;omega
  refine ζs (a2.heap' aa) ϱ λw8 ab a3 b6=>?_;have K:=a3.heap (J.heap' d) (λe=>an e.symm);refine ζl K ϱ (ζl K ϱ (ζb ϱ (ζs ab ϱ λw9 ac ao b7=>?_)));have g:=(J.since a3 (λz a e=>by have:=r.size;omega)).since ao (λz a e=>by have:=r.size;omega);have h9:=R.grow g;have L:=g.heap' d;refine ζd 7 Xe (by kernel_rfl) ϱ λc=>δl c h9.obj ϱ (δl c L ϱ (δl c ac ϱ (δn c ϱ λb8 i=>?_)));have M:=h9.grow i;obtain⟨al',N⟩:=M.th;refine Xa.mapset Xb rfl (N.1) λb9 u f ay=>ζa ϱ ?_;rw[ew] at u;have O:=M.setTh f (N.put (o:=o) (size:=t.size) (q:=⟨(k:Nat),m.pt,m.ta,none,0,[]⟩) (qm:=⟨(k:Nat),m.pt,m.ta,[]⟩) rfl ((List.getElem?_eq_some_iff.1 et).1) u f M.f2.2.2.2.1 (Il _ _ _) (λ_ _ _ e=>by cases e) (λ_ _ _ e=>by cases e));refine ζl O.obj ϱ (ζb ϱ ?_);have T:k<(mo.set k (some (b,{m with gone:=m.gone+Z1 m n}))).length:=by rw[XG];exact a8
  have ba:(s.mv.set k (some {m with gone:=m.gone+Z1 m n})).length=s.mv.length:=XG;refine Xa.index Xb rfl (j:=k*6) (by omega) (show(k:Int)<((s.mv.set k (some {m with gone:=m.gone+Z1 m n})).length:Nat) by omega) (by simp) rfl (ζS ϱ O.mvs (Pz (y:=none) T) ϱ λbb ad l az=>?_);have a4:=O.setMv (x:=none) l ad (λ_ _ e=>by cases e);have A:=l.heap (f.heap (i.heap' L) (λe=>C (e▸h.f2.2.2.2.1))) (λe=>C (e▸h.f2.2.2.2.2));refine ζd 11 Xe (by kernel_rfl) ϱ λc=>δl c a4.obj ϱ (δl c A ϱ (δl c A ϱ (δn c ϱ λbc p=>?_)));have a5:=a4.grow p;refine ζc ϱ (XfW a5.room (k:Nat) m.pf m.fa) ?_;rintro _ bd ⟨rfl,⟨Fr',hr,a6,P⟩⟩;refine ζa ϱ ?_;have a7:=(((I.trans g.gr).trans i.gr).trans (f.mono λz _ e=>e▸h.f2.2.2.2.1)).trans (l.mono λz _ e=>e▸h.f2.2.2.2.2);have eS:({Q7 s m n with mv:=s.mv.set k none,th:=s.th.set o (some ⟨t.size,⟨(k:Nat),m.pt,m.ta,[]⟩⟩),rm:=Qb (Q7 s m n).rm (k:Nat) m.pf m.fa}:StM)={keep:=s.keep,bs:=Ir s.bs m.f m.t m.gone (Z1 m n),rm:=Qb {s.rm with tot:=Xx s.rm.tot (Z1 m n:Nat)} (k:Nat) m.pf m.fa,th:=s.th.set o (some ⟨t.size,⟨(k:Nat),m.pt,m.ta,[]⟩⟩),mv:=(s.mv.set k (some {m with gone:=m.gone+Z1 m n})).set k none}:=by
   rw[List.set_set];rfl
  rw[eS];have fF:∀z,(F z\/Fr' z)->F z\/w.heap.size<=z:=λz a=>a.elim .inl (λa=>(a6 z a).imp (h.f1 z) (λhl=>by have:=a7.size;have:=p.size;omega));exact ζr func66 ϱ ⟨rfl,⟨_,Fr',_,(a5.roomed hr a6 P),fF,((a7.trans p.gr).trans (P.mono λz _ a=>h.f1 z a))⟩⟩
theorem Xgr(h:Xt s (k:Nat)=none)(n:Int):Yo s k n=s:=by unfold Yo;rw[h]
theorem Xmr(h:Xt s (k:Nat)=some m){n n':Int}(e:Z1 m n=Z1 m n'):Yo s k n=Yo s k n':=by
 unfold Yo Q7;rw[h];simp only
 rw[e]
theorem XiU:Z1 m ((m.size-m.gone:Nat):Int)=Z1 m (m.size:Nat):=by unfold Z1 Du;omega
theorem Xgy{S:Sto}(h:Xr F Fr w S s by' mo)(hs:s.Ok S.c)(κ:Int):Xf prog 78 #[Zx S,.int .i64 κ] w (λ_ w'=>Dx F w w' S (X7 s κ) by'):=by
 obtain⟨f1,f2,n⟩:=OkP.few hs;refine ζe func78 ntmps78 ϱ (ζw (Kf h hs κ) ϱ ?_);cases a:Xt s κ with
 |none=>
  have e:X7 s κ=s:=by unfold X7;rw[a]
  rw[e];exact ζf ϱ (ζr func78 ϱ (.of h (Xc.refl _ _)))
 |some m=>
  obtain⟨k,rfl,o,c⟩:=Qr a;have e:X7 s (k:Nat)=Yo s k ((m.size-m.gone:Nat):Int):=by
   unfold X7;rw[a];simp only[XA];exact Xmr a XiU.symm
  rw[e];obtain⟨b,f⟩:=Tu h c;refine ζy ϱ (ζl h.obj ϱ (Xa.index Xb rfl (j:=k*6) (by omega) (show(k:Int)<(s.mv.length:Nat) by omega) (by simp) rfl (ζk ϱ (h.mcell f (i:=0) (by decide) rfl) ϱ (ζv (Ts S.A (D9 S s) (Ef b m) m.gone w (h.mvOk hs f)) ϱ λp d=>?_))));refine ζc rfl (XbU (h.grow d) hs c ((m.size-m.gone:Nat):Int)) ?_;rintro _ q ⟨rfl,g⟩;exact ζa ϱ (ζr func78 ϱ (.trans (λ_ l=>.inl l) d.gr g))
theorem Xgx{S:Sto}(h:Xr F Fr w S s by' mo)(q:Plc)(hs:s.OkP S.c (some (o,Xy q)))(hq:Zl w q):Xf prog 79 #[Zx S,.agg (Xv q).toArray] w (λ_ w'=>Dx F w w' S (Au S.c s (Xy q)) by'):=by
 obtain⟨f1,f2,f3⟩:=OkP.few hs;have J:=hs.dropped;refine ζe func79 ntmps79 ϱ (ζn ϱ λb w1 e1 A i a4=>?_);have j:¬F b:=λc=>by have:=h.low b c;omega
 have K:=h.grow i;refine ζd 5 Xe (by kernel_rfl) ϱ λf=>δl f K.obj ϱ (δl f A ϱ (δn f ϱ λw2 d=>?_));have L:=K.grow d;have B:=d.heap' A;refine ζc ϱ (Xlv L.room q (hq.grow (i.trans d))) ?_;rintro _ w3 ⟨rfl,⟨Fr',hr,l,g⟩⟩;have M:=L.roomed hr l g;have p:=g.heap B (λc=>j (h.f1 _ c));have a5:=d.size;have a6:=g.size;have r:∀z,(F z\/Fr' z)->F z\/w.heap.size<=z:=λz c=>c.elim .inl (λc=>(l z c).imp (h.f1 z) (by omega));have H:¬(F b\/Fr' b):=λc=>c.elim j (λc=>(l b c).elim (λc=>j (h.f1 _ c)) (by have:=Xg B;omega));have t:=((i.trans d).gr).trans (g.mono λz _ c=>h.f1 z c);refine ζa ϱ (ζl p ϱ ?_);by_cases u:q.cls=-1
 ·have e:Au S.c s (Xy q)={s with rm:=Ym s.rm (Xy q)}:=by unfold Au;rw[if_pos (show(Xy q).cls<0 by show q.cls<0;omega)]
  rw[e];exact ζY ϱ (by rw[u];rfl) (ζr func79 ϱ ⟨_,Fr',mo,M,r,t⟩)
 ·obtain⟨_,p2,_,_⟩:=hs.ps o (Xy q) rfl u;obtain⟨_,k0,N⟩:=N7 hs (k:=(Xy q).cls) (n:=(Xy q).page) (a:=(Xy q).idx) (by rw[p2];omega);obtain⟨k,I⟩:=XD (show 0<=q.cls from k0);replace N:q.cls<S.c.classes.length:=N;have O:k<s.mv.length:=by have:=hs.ml;omega
  have e:Au S.c s (Xy q)=Yo (Yc S.c {s with rm:=Ym s.rm (Xy q)} k) k S.c.step:=by
   unfold Au;rw[if_neg (show ¬(Xy q).cls<0 by show ¬q.cls<0;omega),show(Xy q).cls.toNat=k by show q.cls.toNat=k;omega]
  rw[e];refine ζF ϱ (by simpa using u) (ζl p ϱ ?_);rw[I];refine ζc ϱ (Xgw M J k O) ?_;rintro _ w4 ⟨P,Q,R,y,T,C⟩;have D:=C.heap p H;have E:=J.begin k;have v:=t.since C (λz c hf=>(r z hf).elim id (by omega));have x:∀z,P z->F z\/w.heap.size<=z:=λz c=>(T z c).elim (r z) (by omega);refine ζa ϱ (ζl D ϱ ?_);rw[I];refine ζw (Kf y E (k:Nat)) ϱ ?_;cases U:Xt (Yc S.c {s with rm:=Ym s.rm (Xy q)} k) (k:Nat) with
  |none=>
   rw[Xgr U];exact ζf ϱ (ζr func79 ϱ ⟨P,Q,R,y,x,v⟩)
  |some m=>
   obtain⟨k',ek',a7,V⟩:=Qr U;obtain rfl:k=k':=by omega
   refine ζy ϱ (ζd 8 Xe (by kernel_rfl) ϱ λf=>δl f D ϱ (δl f y.obj ϱ ?_));rw[I];refine δn f ϱ λw5 G=>?_;refine ζc rfl (XbU (y.grow G) E V S.c.step) ?_;rintro _ w6 ⟨rfl,W⟩;exact ζa ϱ (ζr func79 ϱ (.trans x (v.trans G.gr) W))
section
variable {F Fr:Nat->Prop}{w w':World}{S:Sto}{s:StM}{by':Int}{mo:Mo}{pd:Option (Nat×PlcM)}
theorem XgM{a b:Int}{r:Plc}(h:Value.agg (El a q).toArray=Value.agg (El b r).toArray):q.pa=r.pa:=by
 injection h with h
 have h:=congrArg Array.toList h;simp only[El,Xv,List.toList_toArray,List.cons.injEq,Value.slice.injEq] at h;exact h.2.2.2.2.1.1
theorem Xr.loc{F0 Fr0:Nat->Prop}{s0:StM}{by0:Int}{mo0:Mo}(h0:Xr F0 Fr0 w0 S s0 by0 mo0)(hm:∀al,Y6 w0 S.tm al->Y6 w S.tm al)(h:Xr F Fr w S s by' mo)(hb:w0.heap.size<=b)(hF:¬F b)(hk:kd w b=some (some t))(ht:t≠290/\t≠286/\t≠3)(hc:Xc (λz=>z=b) w w'):Xr F Fr w' S s by' mo:=by
 have d:=h0.room;have c:=Yp d.may;have B:=Xg h0.ar.obj;have C:=Xg h0.ar.cap;have D:=Xg h0.vw.obj;have E:=Xg d.obj;have G:S.R.sb<w0.heap.size:=by have:=World.block_lt_of_cell? w0 _ (d.sl 0 (by have:=c.n;have:=d.ok.n;omega));exact this
 have H:0<w0.heap.size:=by have:=World.block_lt_of_cell? w0 _ (d.tab 0 (by decide));exact this
 have f:=h0.rc;have far:∀{a:Option Addr} {l:List Int},A1 F0 w0 a l->0<l.length -> ∀off s,a≠some ⟨b,off,s⟩:=λg p off s e=>by have:=g.1.block p e;omega
 refine h.other hc (λz e=>e▸⟨hF,⟨by omega,by omega,by omega,by omega,by omega,by omega⟩,far h0.ca (by rw[f] at c;have:=c.n;omega),far h0.ka (by rw[f] at c;have:=c.keep;have:=c.n;omega),t,hk,ht⟩) ?_;intro al j k sz q i;obtain⟨m,r,I,u,v⟩:=h0.th;have:=(hm m r).uniq j;subst this;by_cases hk:∀(o:Nat) t,s0.th[o]?=some (some t)->(o:Int)≠k
 ·rw[v k hk] at i;cases i
 ·simp only[Classical.not_forall,Decidable.not_not] at hk;obtain⟨o,t,x,y⟩:=hk;obtain⟨J,_,n,_,_,A⟩:=u o t x;rw[y,i] at n;rw[(XgM (Option.some.inj n))];intro b' off s' e' K;have:=Eu (A b' off s' e');omega
theorem Xmu(h:Xr F Fr w S s by' mo)(n:Int):Xf prog 132 #[.pointer (some ⟨S.mb,0,none⟩),.int .i64 n] w (λ_ w'=>Xr (λz=>F z\/Fr z) Fr w' S (Y1 s n) by' mo/\Xc Fr w w'):=by
 have c:=Uk h.room n;rw[h.rmo] at c;exact c.mono λ_ w' ⟨a,b⟩=>⟨h.roomed a (λz d=>.inl d) b,b⟩
end
theorem N0(c:Conf)(s:StM)(o size:Int):(X9 c s o size).th=s.th/\(X9 c s o size).keep=s.keep/\(X9 c s o size).bs=s.bs/\(X9 c s o size).mv.length=s.mv.length:=by
 unfold X9;split
 ·exact⟨rfl,rfl,rfl,XG⟩
 ·exact⟨rfl,rfl,rfl,rfl⟩
theorem Xgz{F Fr:Nat->Prop}{w:World}{S:Sto}{s:StM}{by':Int}{mo:Mo}{pd:Option (Nat×PlcM)}(h:Xr F Fr w S s by' mo)(hs:s.OkP S.c pd)(ho:o<s.th.length)(hf:Qg S.c s size=0)(hL:(Yv S.c s (o:Nat) size).OkP S.c pd2)(hby:0<=by'/\by'<=1152921504606846976):Xf prog 74 #[Zx S,.int .i64 (o:Nat),.int .i64 size] w (λ_ w'=>Dx F w w' S (Yv S.c s (o:Nat) size) (by'+size)):=by
 obtain⟨f1,f2,f3⟩:=OkP.few hs;have b1:=Yp hs.may;have Q:=hs.may;have bu:=b1.most;have bv:=b1.n;have ao:=h.vc;obtain⟨c3,bw⟩:=Xan hf;have b7:(Yv S.c s (o:Nat) size).th[o]?=some (some ⟨size,Zb S.c s (o:Nat) size⟩):=by
  show(s.th.set (o:Int).toNat _)[o]?=_
  rw[XA,XF ho]
 obtain⟨pv,ph,pf⟩:=Ii hL b7;simp only at pv ph pf
 refine ζe func74 ntmps74 ϱ (ζl h.obj ϱ (ζv (Nl S.p.ca S.p.cc S.c.classes size w h.ca.1 (by omega)) ϱ λw1 a3=>?_));have h1:=h.grow a3;refine ζn ϱ λb w2 e2 R b2 c4=>?_;have N:=h1.grow b2;have L:¬F b:=λa=>by have:=h1.low b a;omega
 have O:=a3.trans b2;refine ζw (Kf N hs (Xk S.c.classes size)) ϱ ?_;by_cases g:Ce S.c s size=none
 ·have eS:X9 S.c s (o:Nat) size={s with rm:=Ab S.c s.rm (o:Nat) size}:=by unfold X9;rw[g]
  have eQ:Zb S.c s (o:Nat) size=A2 S.c s.rm (o:Nat) size:=by unfold Zb;rw[g]
  have a4:(Xt s (Xk S.c.classes size)).isSome=false\/((Xt s (Xk S.c.classes size)).isSome=true/\Zf s.rm (Xk S.c.classes size)≠0):=by
   unfold Ce at g;cases hm:Xt s (Xk S.c.classes size) with
   |none=>exact .inl rfl
   |some m=>
    rw[hm] at g;simp only at g
    refine .inr ⟨rfl,λe=>?_⟩;rw[if_pos e] at g;cases g
  have hP:=Xlz N.room (o:Nat) size;rw[h.rc] at hP;rcases a4 with a4|⟨a4,ap⟩
  ·rw[a4];refine ζf ϱ (ζl N.obj ϱ (ζc ϱ (hP) ?_));rintro _ w3 ⟨q,rfl,l,⟨Fr',hr,C,E,a5,ah,M⟩⟩;have a6:=E.heap R (λa=>L (h.f1 _ a));have b9:=O.size;have ar:=a3.size;have bk:=E.size;have a7:∀z,(F z\/Fr' z)->F z\/w.heap.size<=z:=λz a=>a.elim .inl (λa=>(C z a).imp (h.f1 z) (by omega));have G:¬(F b\/Fr' b):=λa=>a.elim L (λa=>(C b a).elim (λa=>L (h.f1 _ a)) (by have:=Xg R;omega));have n:Xj (λz=>F z\/Fr' z) q.pa:=λb' off s' e a=>a.elim (λa=>by have:=N.low b' a;have:=M b' off s' e;omega) (ah b' off s' e);have ai:Dv w3 q.pa:=λb' off s' e=>(M b' off s' e).2;have H:Xj (λz=>z=b) q.pa:=λb' off s' e a=>by have:=M b' off s' e;have:=Xg R;omega
   refine ζa ϱ (ζs a6 ϱ λwt B D b3=>?_);have a8:=Xr.loc h (λal I=>(I.chg O id).chg E h.nr.2.2.2.1) (N.roomed hr C E) (by omega) G (Yk a6) (by decide) D;have P:Zl wt q:=⟨a5.rd.far H D,a5.len⟩;have a9:=ai.chg D H;have T:q.pages.length<=4096:=by
    have e:q.pages=(Zb S.c s (o:Nat) size).pages:=by rw[eQ,<-l];rfl
    rw[e];exact pf
   rw[<-eQ] at l;rw[<-eS] at a8;have K:=a8;obtain⟨hn,ehn⟩:=XD (G7 (c:=S.c) (q:=q) Q T).1;have aa:∀w',Xc Xe wt w'->Xf prog 139 #[D6 S.v,.agg (Xv q).toArray] w' (Grow (.int .i64 ((hn:Nat):Int)) w'):=λw' p=>by
    have:=R7 S.v q w' ((K.grow p).vw) (P.grow p) (by omega);rw[ao,ehn] at this;exact this
   have ab:Yi S.c q=true:=by rw[O0,l];exact pv
   obtain⟨y1,y2,y3,y4⟩:=N0 S.c s (o:Nat) size;refine ζd 11 Xe (by kernel_rfl) ϱ λd=>δl d K.obj ϱ (δl d B ϱ (δl d K.obj ϱ (δl d B ϱ (δv d (λw' p=>(aa w' p)) ϱ (δn d ϱ λwa f=>?_)))));refine ζc ϱ (U0 (K.grow f) Q (by rw[y3];exact hs.bl) q 0 hn (P.grow f) n (Gm ab (by omega) (by omega) (by omega)) T) ?_;rintro _ wb ⟨rfl,U,r⟩;have H:Zl wb q:=⟨((P.grow f).rd).far n r,P.len⟩;refine ζa ϱ (ζd 8 Xe (by kernel_rfl) ϱ λd=>δl d U.obj ϱ (δl d (r.heap (f.heap' B) G) ϱ (Xd.build Xb d rfl rfl (δn d ϱ λwc t=>?_))));have u:=U.grow t;obtain⟨al,V⟩:=u.th;refine Xa.mapset Xb rfl (V.1) λwd I J b4=>ζa ϱ ?_;have av:=V.put (o:=o) (size:=size) (q:=q) (qm:=Zb S.c s (o:Nat) size) l (by show o<(X9 S.c s (o:Nat) size).th.length;rw[y1];exact ho) I J u.f2.2.2.2.1 (H.grow t) n (((a9.grow f).chg r n).grow t);have A:=u.setTh J av;refine ζl A.obj ϱ (ζj ϱ (ζs A.obj ϱ λwf ad W b5=>?_));have eL:Yv S.c s (o:Nat) size={Zw S.c (X9 S.c s (o:Nat) size) (Xy q) 0 (Xz hn) with th:=(X9 S.c s (o:Nat) size).th.set o (some ⟨size,Zb S.c s (o:Nat) size⟩)}:=by
    unfold Yv;rw[y1,l,XA,<-l,<-Oz,ehn,XA]
   rw[eL];exact ζr func74 ϱ (.trans a7 ((O.gr.trans (E.mono λz _ a=>h.f1 z a)).since D (λz a e=>by omega)) (.of (A.setBy (by2:=by'+size) W ad) (((f.gr.trans r).trans t.gr).trans ((J.mono λz _ e=>e▸u.f2.2.2.2.1).trans (W.mono λz _ e=>e▸A.f2.1)))))
  ·rw[a4];refine ζy ϱ (ζl N.obj ϱ (ζw (R1 N.room (Xk S.c.classes size)) ϱ (ζF ϱ (by simpa using ap) (ζl N.obj ϱ (ζc ϱ (hP) ?_)))));rintro _ w3 ⟨q,rfl,l,⟨Fr',hr,C,E,a5,ah,M⟩⟩;have a6:=E.heap R (λa=>L (h.f1 _ a));have b9:=O.size;have ar:=a3.size;have bk:=E.size;have a7:∀z,(F z\/Fr' z)->F z\/w.heap.size<=z:=λz a=>a.elim .inl (λa=>(C z a).imp (h.f1 z) (by omega));have G:¬(F b\/Fr' b):=λa=>a.elim L (λa=>(C b a).elim (λa=>L (h.f1 _ a)) (by have:=Xg R;omega));have n:Xj (λz=>F z\/Fr' z) q.pa:=λb' off s' e a=>a.elim (λa=>by have:=N.low b' a;have:=M b' off s' e;omega) (ah b' off s' e);have ai:Dv w3 q.pa:=λb' off s' e=>(M b' off s' e).2;have H:Xj (λz=>z=b) q.pa:=λb' off s' e a=>by have:=M b' off s' e;have:=Xg R;omega
   refine ζa ϱ (ζs a6 ϱ λwt B D b3=>?_);have a8:=Xr.loc h (λal I=>(I.chg O id).chg E h.nr.2.2.2.1) (N.roomed hr C E) (by omega) G (Yk a6) (by decide) D;have P:Zl wt q:=⟨a5.rd.far H D,a5.len⟩;have a9:=ai.chg D H;have T:q.pages.length<=4096:=by
    have e:q.pages=(Zb S.c s (o:Nat) size).pages:=by rw[eQ,<-l];rfl
    rw[e];exact pf
   rw[<-eQ] at l;rw[<-eS] at a8;have K:=a8;obtain⟨hn,ehn⟩:=XD (G7 (c:=S.c) (q:=q) Q T).1;have aa:∀w',Xc Xe wt w'->Xf prog 139 #[D6 S.v,.agg (Xv q).toArray] w' (Grow (.int .i64 ((hn:Nat):Int)) w'):=λw' p=>by
    have:=R7 S.v q w' ((K.grow p).vw) (P.grow p) (by omega);rw[ao,ehn] at this;exact this
   have ab:Yi S.c q=true:=by rw[O0,l];exact pv
   obtain⟨y1,y2,y3,y4⟩:=N0 S.c s (o:Nat) size;refine ζd 11 Xe (by kernel_rfl) ϱ λd=>δl d K.obj ϱ (δl d B ϱ (δl d K.obj ϱ (δl d B ϱ (δv d (λw' p=>(aa w' p)) ϱ (δn d ϱ λwa f=>?_)))));refine ζc ϱ (U0 (K.grow f) Q (by rw[y3];exact hs.bl) q 0 hn (P.grow f) n (Gm ab (by omega) (by omega) (by omega)) T) ?_;rintro _ wb ⟨rfl,U,r⟩;have H:Zl wb q:=⟨((P.grow f).rd).far n r,P.len⟩;refine ζa ϱ (ζd 8 Xe (by kernel_rfl) ϱ λd=>δl d U.obj ϱ (δl d (r.heap (f.heap' B) G) ϱ (Xd.build Xb d rfl rfl (δn d ϱ λwc t=>?_))));have u:=U.grow t;obtain⟨al,V⟩:=u.th;refine Xa.mapset Xb rfl (V.1) λwd I J b4=>ζa ϱ ?_;have av:=V.put (o:=o) (size:=size) (q:=q) (qm:=Zb S.c s (o:Nat) size) l (by show o<(X9 S.c s (o:Nat) size).th.length;rw[y1];exact ho) I J u.f2.2.2.2.1 (H.grow t) n (((a9.grow f).chg r n).grow t);have A:=u.setTh J av;refine ζl A.obj ϱ (ζj ϱ (ζs A.obj ϱ λwf ad W b5=>?_));have eL:Yv S.c s (o:Nat) size={Zw S.c (X9 S.c s (o:Nat) size) (Xy q) 0 (Xz hn) with th:=(X9 S.c s (o:Nat) size).th.set o (some ⟨size,Zb S.c s (o:Nat) size⟩)}:=by
    unfold Yv;rw[y1,l,XA,<-l,<-Oz,ehn,XA]
   rw[eL];exact ζr func74 ϱ (.trans a7 ((O.gr.trans (E.mono λz _ a=>h.f1 z a)).since D (λz a e=>by omega)) (.of (A.setBy (by2:=by'+size) W ad) (((f.gr.trans r).trans t.gr).trans ((J.mono λz _ e=>e▸u.f2.2.2.2.1).trans (W.mono λz _ e=>e▸A.f2.1)))))
 ·obtain⟨m,g⟩:=Option.ne_none_iff_exists'.1 g;have eS:X9 S.c s (o:Nat) size=Y1 {s with mv:=s.mv.set (Xk S.c.classes size).toNat none,rm:=Qe s.rm (Xk S.c.classes size) m.pt m.ta (o:Nat)} 3:=by unfold X9;rw[g]
  have eQ:Zb S.c s (o:Nat) size=⟨Xk S.c.classes size,m.pt,m.ta,[]⟩:=by unfold Zb;rw[g]
  obtain⟨hm,ap⟩:Xt s (Xk S.c.classes size)=some m/\Zf s.rm (Xk S.c.classes size)=0:=by
   unfold Ce at g;cases hm:Xt s (Xk S.c.classes size) with
   |none=>rw[hm] at g;cases g
   |some m'=>
    rw[hm] at g;simp only at g
    split at g
    ·rename_i ho;cases g;exact⟨rfl,ho⟩
    ·cases g
  obtain⟨k,ek,hk,bn⟩:=Qr hm;obtain⟨mb,hx⟩:=Tu N bn;have ba:k<mo.length:=by rw[h.mol];exact hk
  rw[hm];refine ζy ϱ (ζl N.obj ϱ (ζw (R1 N.room (Xk S.c.classes size)) ϱ (ζY ϱ (by rw[ap];rfl) (ζl N.obj ϱ ?_))));rw[ek,XA] at eS;rw[ek] at eQ;rw[ek];refine Xa.index Xb rfl (j:=k*6) (by omega) (show(k:Int)<(s.mv.length:Nat) by omega) (by simp) rfl ?_;refine Xa.loadC Xb ([.int .i64 m.pf,.int .i64 m.fa,.int .i64 m.pt,.int .i64 m.ta]) rfl (by first|rfl|(simp;done)|(simp[*];done)|(simp;omega)) ((λj v hv=>by have hj:j<4:=(List.getElem?_eq_some_iff.1 hv).1;show w2.cell? ⟨S.vb,0+k*6+2+j,none⟩=_;rw[YL];exact N.mcell hx (i:=2+j) (by omega) (by rw[<-hv];show([.pointer (some ⟨mb,0,none⟩),.int .i64 m.who,.int .i64 m.pf,.int .i64 m.fa,.int .i64 m.pt,.int .i64 m.ta]:List Value)[2+j]?=_;rw[Nat.add_comm];rfl))) rfl ?_;refine ζn ϱ λxb w3 e3 bb bp c5=>ζs bb ϱ λw4 bc bq c6=>?_;have ar:=a3.size;have aj:=bp.since bq (λz a e=>by omega);have ak:=O.trans aj;have h4:=h.grow ak;have ax:¬F xb:=λa=>by have:=h.low xb a;omega
  refine ζl h4.obj ϱ (ζb ϱ (Xa.index Xb rfl (j:=k*6) (by omega) (show(k:Int)<(s.mv.length:Nat) by omega) (by simp) rfl (ζS ϱ h4.mvs (Pz (y:=none) ba) ϱ λw5 bd ae c7=>?_)));have h5:=h4.setMv (x:=none) ae bd (λ_ _ e=>by cases e);have a2:=ae.heap bc (λe=>ax (e▸h.f2.2.2.2.2));refine ζd 10 Xe (by kernel_rfl) ϱ λd=>δl d h5.obj ϱ (δl d a2 ϱ (δl d a2 ϱ (δn d ϱ λw6 a0=>?_)));have h6:=h5.grow a0;refine ζc ϱ (Xlx h6.room (k:Nat) m.pt m.ta (o:Nat)) ?_;rintro _ w7 ⟨rfl,⟨Fr',hr,C,af⟩⟩;have h7:=h6.roomed hr C af;have bf:=af.heap (a0.heap' a2) (λa=>ax (h.f1 _ a));have bt:=af.heap (a0.heap' (ae.heap (aj.heap' R) (λe=>L (e▸h.f2.2.2.2.2)))) (λa=>L (h.f1 _ a));have c8:w2.heap.size<=w6.heap.size:=by have:=aj.size;have:=a0.size;omega
  have ay:∀z,Fr' z->F z\/w.heap.size<=z:=λz a=>(C z a).imp (h.f1 z) (by omega);have am:¬Fr' b:=λa=>(C b a).elim (λa=>L (h.f1 _ a)) (by have:=Xg R;omega);have bg:¬Fr' xb:=λa=>(C xb a).elim (λa=>ax (h.f1 _ a)) (by have:=Xg a2;have:=a0.size;have:=Xg (a0.heap' a2);omega);refine ζa ϱ (ζl h7.obj ϱ (ζc ϱ (Xmu h7 3) ?_));rintro _ w8 ⟨h8,an⟩;have az:=an.heap bf bg;have b6:=an.heap bt am;refine ζa ϱ (ζl az ϱ (ζl az ϱ (ζb ϱ (ζs b6 ϱ λwt B D b3=>?_))));obtain⟨q,eq⟩:∃q:Plc,q=⟨(k:Nat),m.pt,m.ta,none,0,[]⟩:=⟨_,rfl⟩;have l:Xy q=Zb S.c s (o:Nat) size:=by rw[eQ,eq];rfl
  have P:Zl wt q:=eq▸Il _ _ _;have M:∀b' off s',q.pa≠some ⟨b',off,s'⟩:=λb' off s' e=>by rw[eq] at e;cases e
  have a9:Dv wt q.pa:=λb' off s' e=>absurd e (M b' off s');have n:Xj (λz=>(F z\/Fr' z)\/Fr' z) q.pa:=λb' off s' e=>absurd e (M b' off s');have T:q.pages.length<=4096:=by rw[eq];simp
  replace B:wt.heap[b]?=some (.cells (Xv q).toArray 98 (0,0)):=by rw[eq];exact B
  have bh:∀al,Y6 w S.tm al->Y6 w8 S.tm al:=λal I=>((((I.chg ak id).chg ae (Xs h4.kds.2.2.2.1 h4.kds.2.2.2.2.1 (by simp))).chg a0 id).chg af h.nr.2.2.2.1).chg an (h7.nr.2.2.2.1);have G:¬((F b\/Fr' b)\/Fr' b):=λa=>a.elim (λa=>a.elim L am) am;have a7:∀z,((F z\/Fr' z)\/Fr' z)->F z\/w.heap.size<=z:=λz a=>a.elim (λa=>a.elim .inl (ay z)) (ay z);have K:=Xr.loc h bh h8 (by omega) G (Yk b6) (by decide) D;replace K:Xr (λz=>(F z\/Fr' z)\/Fr' z) Fr' wt S (X9 S.c s (o:Nat) size) by' (mo.set k none):=by rw[eS];exact K
  obtain⟨hn,ehn⟩:=XD (G7 (c:=S.c) (q:=q) Q T).1;have aa:∀w',Xc Xe wt w'->Xf prog 139 #[D6 S.v,.agg (Xv q).toArray] w' (Grow (.int .i64 ((hn:Nat):Int)) w'):=λw' p=>by
   have:=R7 S.v q w' ((K.grow p).vw) (P.grow p) (by omega);rw[ao,ehn] at this;exact this
  have ab:Yi S.c q=true:=by rw[O0,l];exact pv
  obtain⟨y1,y2,y3,y4⟩:=N0 S.c s (o:Nat) size;refine ζd 11 Xe (by kernel_rfl) ϱ λd=>δl d K.obj ϱ (δl d B ϱ (δl d K.obj ϱ (δl d B ϱ (δv d (λw' p=>(aa w' p)) ϱ (δn d ϱ λwa f=>?_)))));refine ζc ϱ (U0 (K.grow f) Q (by rw[y3];exact hs.bl) q 0 hn (P.grow f) n (Gm ab (by omega) (by omega) (by omega)) T) ?_;rintro _ wb ⟨rfl,U,r⟩;have H:Zl wb q:=⟨((P.grow f).rd).far n r,P.len⟩;refine ζa ϱ (ζd 8 Xe (by kernel_rfl) ϱ λd=>δl d U.obj ϱ (δl d (r.heap (f.heap' B) G) ϱ (Xd.build Xb d rfl rfl (δn d ϱ λwc t=>?_))));have u:=U.grow t;obtain⟨al,V⟩:=u.th;refine Xa.mapset Xb rfl (V.1) λwd I J b4=>ζa ϱ ?_;have A:=u.setTh J (V.put (o:=o) (size:=size) (q:=q) (qm:=Zb S.c s (o:Nat) size) l (by show o<(X9 S.c s (o:Nat) size).th.length;rw[y1];exact ho) I J u.f2.2.2.2.1 (H.grow t) n (((a9.grow f).chg r n).grow t));refine ζl A.obj ϱ (ζj ϱ (ζs A.obj ϱ λwf ad W b5=>?_));have eL:Yv S.c s (o:Nat) size={Zw S.c (X9 S.c s (o:Nat) size) (Xy q) 0 (Xz hn) with th:=(X9 S.c s (o:Nat) size).th.set o (some ⟨size,Zb S.c s (o:Nat) size⟩)}:=by
   unfold Yv;rw[y1,l,XA,<-l,<-Oz,ehn,XA]
  rw[eL];exact ζr func74 ϱ (.trans a7 (((((ak.gr.trans (ae.mono λz _ e=>e▸h.f2.2.2.2.2)).trans a0.gr).trans (af.mono λz _ a=>h.f1 z a)).since an (λz a hf=>(ay z hf).elim id (by omega))).since D (λz a e=>by omega)) (.of (A.setBy (by2:=by'+size) W ad) (((f.gr.trans r).trans t.gr).trans ((J.mono λz _ e=>e▸u.f2.2.2.2.1).trans (W.mono λz _ e=>e▸A.f2.1)))))
def D4:Option ThM->Int
 |some t=>t.size
 |none=>0
theorem Xb8:∀l:List (Option ThM),(Ze l).sum=(l.map D4).sum
 |[]=>rfl
 |none::l=>by
  have:=Xb8 l;unfold Ze at *;simp[D4,this]
 |some t::l=>by
  have:=Xb8 l;unfold Ze at *;simp[D4,this]
theorem Gb(s:StM):Z8 s=(s.th.map D4).sum:=Xb8 s.th
theorem XgG:∀(l:List Int) (i:Nat) (v:Int) (hi:i<l.length),(l.set i v).sum=l.sum-l[i]+v
 |a::l,0,v,_=>by simp[List.set];omega
 |a::l,i+1,v,h=>by
  have:=XgG l i v (by simpa using h);simp[List.set,this];omega
theorem Nh{l:List (Option ThM)}{x y:Option ThM}(h:l[o]?=some x):((l.set o y).map D4).sum=(l.map D4).sum-D4 x+D4 y:=by
 obtain⟨a,e⟩:=List.getElem?_eq_some_iff.1 h;rw[YD,XgG _ _ _ (by simpa using a)];simp[e]
theorem XgF{m:Int}(hm:0<=m):∀l:List Int,(∀x∈l,0<=x/\x<=m)->0<=l.sum/\l.sum<=l.length*m
 |[],_=>by simp
 |a::l,h=>by
  have c:=XgF hm l λx b=>h x (ZF _ b);have d:=h a (ZI ..);simp only[YH,XM,Int.natCast_add,YU,Int.natCast_one,QC];omega
section
variable {c:Conf}{s:StM}{pd:Option (Nat×PlcM)}
theorem Uz(h:s.OkP c pd):0<=Z8 s/\Z8 s<=8589934592:=by
 have e:c.slots<=4096:=by
  have:=h.may;unfold X6 at this;simp only[XJ,decide_eq_true_eq,Qv] at this;omega
 have f:=(Yp h.may).most;have g:=h.tl;have:=XgF (m:=2097152) (by omega) (s.th.map D4) λx a=>by
  obtain⟨y,b,rfl⟩:=List.mem_map.1 a;cases y with
  |none=>exact⟨by decide,by decide⟩
  |some t=>
   obtain⟨o,d⟩:=List.mem_iff_getElem?.1 b;have:=h.size o t d;show 0<=t.size/\t.size<=2097152
   omega
 rw[XN] at this;rw[Gb];omega
theorem W0(h:s.Ok c)(k:Nat)(n:Int):Z8 (Yo s k n)=Z8 s:=by
 unfold Yo;cases d:Xt s (k:Nat) with
 |none=>rfl
 |some m=>
  obtain⟨j,ej,e,a⟩:=Qr d;obtain⟨⟨o,t,e1,e2,e3⟩,_⟩:=h.mv j m a;simp only
  split
  ·rfl
  ·rw[Gb,Gb];have b:Qy s m.who=t.size:=by rw[e1];exact C4 e2
   show((s.th.set m.who.toNat _).map D4).sum=_
   rw[show m.who.toNat=o by omega,Nh e2,b];show _-t.size+t.size=_
   omega
theorem Wy(c:Conf)(s:StM)(k:Nat):Z8 (Yc c s k)=Z8 s:=by unfold Z8;rw[(Kk c s k).1]
theorem Xc6(h:s.Ok c)(κ:Int):Z8 (X7 s κ)=Z8 s:=by
 unfold X7;split
 ·rfl
 ·exact W0 h _ _
theorem Xc5{q:PlcM}(h:s.OkP c (some (o,q))):Z8 (Au c s q)=Z8 s:=by
 unfold Au;split
 ·rfl
 ·rw[W0 (StM.OkP.begin h.dropped _),Wy];rfl
theorem Xc7(o:Nat)(size:Int){x:Option ThM}(h:s.th[o]?=some x):Z8 (Yv c s (o:Nat) size)=Z8 s-D4 x+size:=by
 rw[Gb,Gb];show((s.th.set (o:Int).toNat _).map D4).sum=_
 rw[XA,Nh h];rfl
theorem Xic(o:Int)(i n:Nat):Z8 (Qt s o i n)=Z8 s:=by
 unfold Qt;split
 ·split
  ·rfl
  ·rfl
 ·rfl
end
theorem XgC{S:Sto}(h:Xr F Fr w S s by' mo)(hs:s.OkP S.c pd)(o:Int)(q:Plc)(i n:Nat)(hq:q.cls=(Yz s o).cls)(hi:∀m,Xt s (Yz s o).cls=some m->i+n<=m.size):Xf prog 77 #[Zx S,.int .i64 o,.agg (Xv q).toArray,.int .i64 i,.int .i64 n] w (λ_ w'=>Dx F w w' S (Qt s o i n) by'):=by
 obtain⟨f1,f2,J⟩:=OkP.few hs;have noF:∀{S:Nat->Prop} {w w':World},Xc Xe w w'->Xc S w w':=λh=>h.gr;refine ζe func77 ntmps77 ϱ (ζn ϱ λb K e1 g d I=>?_);have f:=h.grow d;refine ζd 15 Xe (by kernel_rfl) ϱ λa=>δl a g ϱ ?_;rw[hq];refine δw a (λw' y=>Kf (f.grow y) hs (Yz s o).cls) ϱ ?_;cases l:Xt s (Yz s o).cls with
 |none=>
  have e:Qt s o i n=s:=by unfold Qt;rw[l]
  rw[e];exact Xd.no Xb a rfl rfl rfl (δn a ϱ λD c=>ζr func77 ϱ (.of (f.grow c) (noF (d.trans c))))
 |some m=>
  obtain⟨k,ek,L,t⟩:=Qr l;obtain⟨mb,x⟩:=Tu f t;have A:=hi m l;rw[ek] at hq;refine Xd.yes Xb a rfl rfl rfl (δl a f.obj ϱ (δl a g ϱ ?_));rw[hq];refine Xd.index Xb a rfl (j:=k*6) (by omega) (show(k:Int)<(s.mv.length:Nat) by omega) (by simp) rfl (δk a (f.mcell x (i:=1) (by decide) rfl) ϱ (δn a ϱ λD c=>?_));have p:=f.grow c;by_cases r:m.who=o
  ·have e:Qt s o i n=Y1 {s with bs:=D7 s.bs m.f m.t m.gone i n} (Q2 i n m.gone):=by unfold Qt;rw[l];simp only;rw[if_pos r]
   rw[e];refine ζY ϱ (by rw[r];simp) (ζd 11 Xe (by kernel_rfl) ϱ λa=>δl a p.obj ϱ (δl a (c.heap' g) ϱ ?_));rw[hq];refine Xd.index Xb a rfl (j:=k*6) (by omega) (show(k:Int)<(s.mv.length:Nat) by omega) (by simp) rfl (δk a (p.mcell x (i:=0) (by decide) rfl) ϱ (δn a ϱ λE u=>?_));have B:=p.grow u;refine ζc ϱ (XjN S.A (D9 S s) (Ef mb m) m.gone i n E (B.mvOk hs x) A) ?_;rintro _ M ⟨rfl,C,v⟩;refine ζa ϱ ?_;rw[Xnm h.amb] at C;obtain⟨N,O,P,_⟩:=Jz hs t;have G:(D7 s.bs m.f m.t m.gone i n).length=s.bs.length:=by
    unfold D7;split
    ·rfl
    ·unfold Q2;exact Pd (by omega) (by omega)
   exact ζr func77 ϱ (.of (B.arena' v C.ar G) ((noF ((d.trans c).trans u)).trans (v.mono λz _ H=>h.footF z H)))
  ·have e:Qt s o i n=s:=by unfold Qt;rw[l];simp only;rw[if_neg r]
   rw[e];exact ζF ϱ (by simpa using r) (ζr func77 ϱ (.of p (noF (d.trans c))))
def Iz(F:Nat->Prop)(w:World)(S:Sto)(s:StM)(e:Int)(v:Value)(w':World):Prop:=v=.int .i64 e/\Dx F w w' S s (Z8 s)
theorem Xmw{S:Sto}(h:Xr F Fr w S s (Z8 s) mo)(hs:s.Ok S.c)(o size:Int):Xf prog 30 #[Zx S,.int .i64 o,.int .i64 size] w (Iz F w S (Q8 S.c s o size) (Bh S.c s o size)):=by
 have noF:∀{S:Nat->Prop} {w w':World},Xc Xe w w'->Xc S w w':=λh=>h.gr;have same:∀{w'},Xc Xe w w'->Bh S.c s o size≠0->Dx F w w' S (Q8 S.c s o size) (Z8 (Q8 S.c s o size)):=λi t=>by
  have e:Q8 S.c s o size=s:=by unfold Q8;rw[if_neg t]
  rw[e];exact .of (h.grow i) (noF i)
 have v:=Uz hs;refine ζe func30 ntmps30 ϱ (ζc ϱ (R5 h (Xc.refl _ _) hs o) ?_);rintro _ B ⟨⟨q,rfl,_⟩,g⟩;refine ζa ϱ (ζn ϱ λb C e2 k l x=>ζs k ϱ λD y m A=>?_);have a:=(g.trans l).since m (λz E e=>by have:=g.size;omega);by_cases e1:Yl s o=1
 ·have e:Bh S.c s o size=1:=by unfold Bh;rw[if_pos e1]
  rw[e1];exact ζy ϱ (ζr func30 ϱ ⟨by rw[e];rfl,same a (by rw[e];decide)⟩)
 ·refine ζF ϱ (by simpa using e1) ?_;by_cases d:Yl s o=0
  ·have e:Bh S.c s o size=10:=by unfold Bh;rw[if_neg e1,if_pos d]
   rw[d];exact ζy ϱ (ζr func30 ϱ ⟨by rw[e],same a (by rw[e];decide)⟩)
  ·have e:Bh S.c s o size=Qg S.c s size:=by unfold Bh;rw[if_neg e1,if_neg d]
   have n:=h.grow a;refine ζF ϱ (by simpa using d) (ζv (XbT n hs size) ϱ λG f=>?_);by_cases c:Qg S.c s size=0
   ·rw[c];refine ζf ϱ ?_;obtain⟨j,rfl,u,p⟩:=Xa0 e1 d;have eA:Q8 S.c s (j:Nat) size=Yv S.c s (j:Nat) size:=by unfold Q8;rw[if_pos (by rw[e];exact c)]
    refine ζc ϱ (Xgz (n.grow f) hs u c (StM.OkP.lay hs p c (by rintro _ _ ⟨⟩)) (by omega)) ?_;rintro _ H r;have eb:Z8 (Q8 S.c s (j:Nat) size)=Z8 s+size:=by rw[eA,Xc7 j size p];show _-0+_=_;omega
    exact ζa ϱ (ζr func30 ϱ ⟨by rw[e,c],by rw[eb,eA];exact .trans (λ_ h=>.inl h) (noF (a.trans f)) r⟩)
   ·exact ζY ϱ (by simpa using c) (ζr func30 ϱ ⟨by rw[e],same (a.trans f) (by rw[e];exact c)⟩)
theorem Xmz{S:Sto}(h:Xr F Fr w S s (Z8 s) mo)(hs:s.Ok S.c)(o:Int):Xf prog 32 #[Zx S,.int .i64 o] w (Iz F w S (Bq S.c s o) (Yl s o)):=by
 have noF:∀{S:Nat->Prop} {w w':World},Xc Xe w w'->Xc S w w':=λh=>h.gr;have aa:=Uz hs;refine ζe func32 ntmps32 ϱ (ζc ϱ (R5 h (Xc.refl _ _) hs o) ?_);rintro _ w1 ⟨⟨q,rfl,O,ab,ac,ad⟩,A⟩;have ae:=A.size;refine ζa ϱ (ζn ϱ λtb w2 e2 H P af=>ζs H ϱ λw3 b Q ag=>?_);have c:=(A.trans P).since Q (λz a e=>by omega);have B:¬F tb:=λa=>by have:=h.low tb a;omega
 by_cases i:Yl s o=0
 ·obtain⟨j,t,rfl,k⟩:=Hs i;have R:q.cls=t.q.cls:=by have:=congrArg PlcM.cls O;rw[Yq k] at this;exact this
  rw[(C4 k)] at b;have eF:Bq S.c s (j:Nat)=Au S.c {X7 s t.q.cls with th:=(X7 s t.q.cls).th.set j none} (Yz (X7 s t.q.cls) (j:Nat)):=by
   unfold Bq;rw[if_neg (λh=>h i),Yq k,XA]
  obtain⟨t',v,g2,g3,g4,g5⟩:=Kq hs k;have T:=((Jt hs t.q.cls).ok).away v g5;rw[Yq v] at eF;have I:Z8 (Bq S.c s (j:Nat))=Z8 s-t.size:=by
   rw[eF,Xc5 T,Gb];show(((X7 s t.q.cls).th.set j none).map D4).sum=_
   rw[Nh v,<-Gb,Xc6 hs];show _-t'.size+0=_
   omega
  have ah:=hs.size j t k;have ai:=(Yp hs.may).most;rw[i];refine ζf ϱ (ζl b ϱ ?_);rw[R];refine ζc ϱ (Xgy (h.grow c) hs t.q.cls) ?_;rintro _ w4 ⟨U,aj,ak,x,l,C⟩;refine ζa ϱ ?_;have J:¬U tb:=λa=>(l tb a).elim B (by have:=Xg b;omega);obtain⟨al,D⟩:=x.th;obtain⟨m,V,k2,W,k4,k5⟩:=D.2.2.1 j t' v;refine ζl x.obj ϱ (Xa.lookup Xb rfl (D.1) ((show Bf al _ (j:Nat) false=.agg (El t'.size m).toArray from by unfold Bf;rw[k2];rfl)) rfl (Xa.field Xb rfl (show Value.agg ((El t'.size m).toArray.extract 1 5)=.agg (Xv m).toArray from rfl) rfl (ζn ϱ λpb w5 e5 K a0 am=>ζs K ϱ λw6 L a1 an=>?_)));have d:=a0.since a1 (λz a e=>by omega);have g:=x.grow d;have E:¬U pb:=λa=>by have:=x.low pb a;omega
  obtain⟨ao,n⟩:=g.th;refine ζl g.obj ϱ (Xa.mapdel Xb rfl (n.1) λw7 M f ap=>ζa ϱ ?_);have h7:=g.setTh f (n.del (o:=j) M f g.f2.2.2.2.1);refine ζd 6 Xe (by kernel_rfl) ϱ λN=>δl N h7.obj ϱ (δl N (f.heap (d.heap' (C.heap b B)) (λe=>J (e▸g.f2.2.2.2.1))) ϱ (δn N ϱ λw8 p=>?_));have y:=h7.grow p;refine ζj ϱ (ζs y.obj ϱ λw9 a3 r aq=>?_);have u:=((f.mono λz _ e=>e▸g.f2.2.2.2.1).trans (noF p)).trans (r.mono λz _ e=>e▸y.f2.1);have a4:Zl w9 m:=⟨((W.grow d).rd).far k4 u,W.len⟩;refine ζl (r.heap (p.heap' (f.heap L (λe=>E (e▸g.f2.2.2.2.1)))) (λe=>E (e▸y.f2.1))) ϱ (ζc ϱ (Xgx (y.setBy (by2:=Z8 s-t.size) r a3) m (by rw[V];exact T) a4) ?_);rintro _ ar G;refine ζa ϱ ?_;rw[V] at G;exact ζr func32 ϱ ⟨rfl,by rw[I,eF];exact .trans (λz a=>(l z a).imp id (by omega)) ((((noF c).trans C).trans (noF d)).since u (λz a hf=>(l z hf).elim id (by omega))) G⟩
 ·have e:Bq S.c s o=s:=by unfold Bq;rw[if_pos i]
  exact ζY ϱ (by simpa using i) (ζr func32 ϱ ⟨rfl,by rw[e];exact .of (h.grow c) (noF c)⟩)
theorem Vg(hs:s.OkP c pd){o i n:Int}(h:Qp s o i n=0):∃(j:Nat),∃t,∃i' n':Nat,o=j/\s.th[j]?=some (some t)/\i=i'/\n=n'/\(i'+n':Int)<=t.size/\Qu c t.q.plc i' n'=0/\t.q.pages.length<=4096:=by
 obtain⟨j,t,e1,e2,e3,e4,e5⟩:=Vf h;obtain⟨a,d,b⟩:=Ii hs e2;obtain⟨i',rfl⟩:=XD e3;obtain⟨n',rfl⟩:=XD e4;exact⟨j,t,i',n',e1,e2,rfl,rfl,e5,Gm a (by omega) (by omega) (by omega),b⟩
theorem Km{qm:PlcM}(e:Xy q=qm){i n:Int}(h:Qu c qm.plc i n=0):Qu c q i n=0:=by rw[W8,e];exact h
theorem Xl.from'{base' size m:Nat}(h:Xl base t size w v m xs)(hb:base'<=base):Xl base' t size w v m xs:=by
 obtain⟨b,a⟩:=h;refine⟨b,?_⟩;rcases a with a|⟨g,cap,cur,e,c,r⟩
 ·exact .inl a
 ·exact .inr ⟨g,cap,cur,e,by omega,r⟩
theorem XmN{S:Sto}(h:Xr F Fr w S s (Z8 s) mo)(hs:s.Ok S.c)(o i:Int)(a:Option Addr)(cap:Nat)(l:List Int)(hi : -9223372036854775808<=i/\i<=9223372036854775807)(hr:Rd .u8 w a l)(hlc:l.length<=cap)(hl:l.length<=9223372036854775807)(hin:Qn l)(hout:0<l.length->Xj F a):Xf prog 31 #[Zx S,.int .i64 o,.int .i64 i,.slice a l.length cap] w (Iz F w S (Cc S.c s o i l) (Qp s o i l.length)):=by
 have noF:∀{S:Nat->Prop} {w w':World},Xc Xe w w'->Xc S w w':=λh=>h.gr;refine ζe func31 ntmps31 ϱ (ζc ϱ (XgB h (Xc.refl _ _) hs o i l.length hi (by omega)) ?_);rintro _ V ⟨⟨q,rfl,b,C,D,Q⟩,p⟩;have R:=p.size;refine ζa ϱ (ζn ϱ λtb W e2 x E T=>ζs x ϱ λw3 f G U=>?_);have c:=(p.trans E).since G (λz H e=>by omega);have I:¬F tb:=λH=>by have:=h.low tb H;omega
 have y:=h.grow c;by_cases g:Qp s o i l.length=0
 ·obtain⟨j,t,i',n',rfl,A,rfl,hn,h5,J,K⟩:=Vg hs g;obtain rfl:l.length=n':=by omega
  have L:=Yq A;rw[L] at b;have eW:Cc S.c s (j:Nat) (i':Nat) l=Qt (Zw S.c s t.q i' l) (j:Nat) i' l.length:=by unfold Cc;rw[if_pos g,L,XA]
  rw[g];refine ζf ϱ (ζd 8 Xe (by kernel_rfl) ϱ λB=>δl B y.obj ϱ (δl B f ϱ (δn B ϱ λw4 n=>?_)));have d:=c.trans n;refine ζc ϱ (Xgu (y.grow n) hs.may hs.bl q i' a cap l (C.grow d) D (Km b J) (by rw[show q.pages=t.q.pages from congrArg PlcM.pages b];exact K) (hr.chg d) hlc hin hout) ?_;rintro _ w5 ⟨rfl,r,u⟩;refine ζa ϱ ?_;rw[b] at r;have v:=Yq (s:=Zw S.c s t.q i' l) A;have M:∀m,Xt (Zw S.c s t.q i' l) (Yz (Zw S.c s t.q i' l) (j:Nat)).cls=some m->i'+l.length<=m.size:=λm N=>by
   rw[v] at N;obtain⟨k,ek,_,O⟩:=Qr N;have:=Pr hs (k:=k) (m:=m) O A ek;omega
  refine ζl (u.heap (n.heap' f) I) ϱ (ζc ϱ (XgC r (hs.put t.q i' hin) (j:Nat) q i' l.length (by rw[v,<-b];rfl) M) ?_);rintro _ w6 P;exact ζa ϱ (ζr func31 ϱ ⟨rfl,by rw[eW,Xic];exact .trans (λ_ h=>.inl h) ((noF d).trans u) P⟩)
 ·have e:Cc S.c s o i l=s:=by unfold Cc;rw[if_neg g]
  exact ζY ϱ (by simpa using g) (ζr func31 ϱ ⟨rfl,by rw[e];exact .of y (noF c)⟩)
theorem XmG{S:Sto}(h:Xr F Fr w S s (Z8 s) mo)(hs:s.Ok S.c)(o i n:Int)(hi : -9223372036854775808<=i/\i<=9223372036854775807)(hn : -9223372036854775808<=n/\n<=9223372036854775807):Xf prog 33 #[Zx S,.int .i64 o,.int .i64 i,.int .i64 n] w (λv w'=>∃u,v=.tuple #[u,.int .i64 (Qp s o i n)]/\Xl w.heap.size 5 1 w' u (Di S.c s o i n).length ((Di S.c s o i n).map (Value.int .u8))/\∃mo',Xr F Fr w' S (Br S.c s o i n) (Z8 (Br S.c s o i n)) mo'/\Xc F w w'):=by
 have noF:∀{S:Nat->Prop} {w w':World},Xc Xe w w'->Xc S w w':=λh=>h.gr;refine ζe func33 ntmps33 ϱ (ζc ϱ (XgB h (Xc.refl _ _) hs o i n hi hn) ?_);rintro _ w1 ⟨⟨q,rfl,d,C,D,V⟩,p⟩;have W:=p.size;refine ζa ϱ (ζn ϱ λtb g e2 r E a0=>ζs r ϱ λN x G a4=>?_);have a:=(p.trans E).since G (λz b e=>by omega);have H:¬F tb:=λb=>by have:=h.low tb b;omega
 have y:=h.grow a;by_cases c:Qp s o i n=0
 ·obtain⟨j,t,i',n',rfl,O,rfl,rfl,h5,I,J⟩:=Vg hs c;have A:=Yq O;rw[A] at d;have eR:Br S.c s (j:Nat) (i':Nat) (n':Nat)=Y1 s (X5 S.c t.q.plc i' n'):=by unfold Br;rw[if_pos c,A,XA,XA]
  have eB:Di S.c s (j:Nat) (i':Nat) (n':Nat)=Yr S.c t.q.plc s.bs i' n':=by unfold Di;rw[if_pos c,A,XA,XA]
  have B:(Yr S.c t.q.plc s.bs i' n').length=n':=by unfold Yr;rw[XN,YK]
  rw[c];have P:∀w',Xc Xe N w'->Xf prog 80 #[D6 S.v,.agg (Xv q).toArray,.int .i64 (i':Nat),.int .i64 (n':Nat)] w' (λv g=>Xc (Zr S.A) w' g/\∃f,v=.tuple #[f,.int .i64 0]/\Xr F Fr g S (Y1 s (X5 S.c t.q.plc i' n')) (Z8 s) mo/\Xl w.heap.size 5 1 g f n' ((Yr S.c t.q.plc s.bs i' n').map (Value.int .u8))):=λw' k=>by
   have K:=Xgt (y.grow k) hs.may hs.bl q i' n' (C.grow (a.trans k)) D (Km d I) (by rw[show q.pages=t.q.pages from congrArg PlcM.pages d];exact J);rw[d] at K;exact K.mono λv g ⟨f,e,Q,R,T⟩=>⟨R,f,e,Q,T.from' (by have:=a.size;have:=k.size;omega)⟩
  have a5:¬Zr S.A S.sb:=λb=>b.elim (Xs h.kds.1 h.kds.2.2.1 (by decide)) (λe=>by rw[h.amb] at e;exact Xs h.kds.1 h.kds.2.2.2.2.2 (by decide) (Option.some.inj e).symm);have a6:¬Zr S.A tb:=λb=>H (h.footF _ b);refine ζf ϱ (ζd 11 (Zr S.A) (by kernel_rfl) ϱ λl=>δl l y.obj ϱ (δl l x ϱ (Xd.callQ l rfl rfl (P) ?_)));rintro _ w4 L ⟨f,rfl,U,M⟩;refine Xd.adv Xb l rfl (δn l ϱ λw5 m=>?_);rw[eR,eB,B];exact ζr func33 ϱ ⟨f,rfl,M.chg m (λ_ _=>id),_,U.grow m,(((noF a).trans (L.mono λz _ b=>h.footF z b)).trans (noF m))⟩
 ·have e:Br S.c s o i n=s:=by unfold Br;rw[if_neg c]
  have eB:Di S.c s o i n=[]:=by unfold Di;rw[if_neg c]
  rw[e,eB];exact ζY ϱ (by simpa using c) (ζr func33 ϱ ⟨_,rfl,⟨rfl,.inl ⟨rfl,rfl⟩⟩,_,y,noF a⟩)
theorem Xno(s:StM)(o:Int)(i n:Nat):(Qt s o i n).th=s.th:=by
 unfold Qt;split
 ·split <;> rfl
 ·rfl
theorem Xnn{t:ThM}(size:Int)(i n:Nat)(ht:s.th[o]?=some (some t)):Qt (C3 s (o:Nat) ⟨size,t.q⟩) (o:Nat) i n=C3 (Qt s (o:Nat) i n) (o:Nat) ⟨size,t.q⟩:=by
 have e1:Yz (C3 s (o:Nat) ⟨size,t.q⟩) (o:Nat)=t.q:=by
  refine Yq (t:=⟨size,t.q⟩) ?_;show(s.th.set (o:Int).toNat _)[o]?=_
  rw[XA,XF ((List.getElem?_eq_some_iff.1 ht).1)]
 unfold Qt;rw[e1,Yq ht];have e2:Xt (C3 s (o:Nat) ⟨size,t.q⟩) t.q.cls=Xt s t.q.cls:=rfl;rw[e2];split
 ·split <;> rfl
 ·rfl
theorem XmH{S:Sto}(h:Xr F Fr w S s (Z8 s) mo)(hs:s.Ok S.c)(o size:Int):Xf prog 38 #[Zx S,.int .i64 o,.int .i64 size] w (Iz F w S (Ac S.c s o size) (B2 S.c s o size)):=by
 have noF:∀{S:Nat->Prop} {w w':World},Xc Xe w w'->Xc S w w':=λh=>h.gr;have same:∀{w'},Xc Xe w w'->B2 S.c s o size≠0->Dx F w w' S (Ac S.c s o size) (Z8 (Ac S.c s o size)):=λhc he=>by
  have e:Ac S.c s o size=s:=by unfold Ac;rw[if_pos he]
  rw[e];exact .of (h.grow hc) (noF hc)
 have e3:=Uz hs;have e4:=(Yp hs.may).most;refine ζe func38 ntmps38 ϱ (ζc ϱ (R5 h (Xc.refl _ _) hs o) ?_);rintro _ w1 ⟨⟨q,rfl,A,aa,D,aq⟩,bw⟩;have e5:=bw.size;refine ζa ϱ (ζn ϱ λtb w2 e2 cb cq e6=>ζs cb ϱ λw3 ag cr e8=>?_);have E:=(bw.trans cq).since cr (λz a e=>by omega);have O:¬F tb:=λa=>by have:=h.low tb a;omega
 have h3:=h.grow E;by_cases e0:Yl s o=0
 ·obtain⟨j,t,rfl,p⟩:=Hs e0;have P:=C4 p;have hQ:=Yq p;have e9:=hs.size j t p;have bx:=(List.getElem?_eq_some_iff.1 p).1;rw[P] at ag;rw[hQ] at A;rw[e0];refine ζf ϱ ?_;by_cases g1:size<1\/S.c.most<size
  ·have e:B2 S.c s (j:Nat) size=3:=by unfold B2;rw[if_neg (λh=>h e0),if_pos g1]
   by_cases g2:size<1
   ·exact ζy ϱ (ζr func38 ϱ ⟨by rw[e],same E (by rw[e];decide)⟩)
   ·exact ζf ϱ (ζl h3.obj ϱ (ζy ϱ (ζr func38 ϱ ⟨by rw[e],same E (by rw[e];decide)⟩)))
  ·refine ζf ϱ (ζl h3.obj ϱ (ζf ϱ (ζl ag ϱ (ζv (XmP h3 t.size size (by omega) (by omega)) ϱ λw4 bz=>?_))));have U:=E.trans bz;have h4:=h.grow U;have r:=bz.heap' ag;cases Q:Af S.c t.size size with
   |true=>
    have e:B2 S.c s (j:Nat) size=0:=by unfold B2;rw[if_neg (λh=>h e0),if_neg g1,P,if_pos Q]
    rw[e];refine ζy ϱ (ζl r ϱ ?_);by_cases b2:size<t.size
    ·obtain⟨i',rfl⟩:=XD (show 0<=size by omega);obtain⟨n',b3⟩:=XD (show 0<=t.size-(i':Int) by omega);obtain⟨pv,ph,pf⟩:=Ii hs p;have cs:q.pages=t.q.pages:=congrArg PlcM.pages A;refine Xa.yes Xb rfl (decide_eq_true b2) rfl ?_;refine Xa.drawn (q:=11) Xe Xb Xo (by kernel_rfl) rfl ?_;intro d;refine Xd.loadb Xb d rfl h4.obj (by first|exact λh=>h|(intro h;omega)|assumption) rfl rfl ?_;refine Xd.loads Xb d rfl r (by first|exact λh=>h|(intro h;omega)|assumption) rfl rfl ?_;refine Xd.loadb Xb d rfl r (by first|exact λh=>h|(intro h;omega)|assumption) rfl rfl ?_;refine Xd.arith Xb d rfl (w64 (by omega)) rfl ?_;rw[b3];refine Xd.nil d ?_;intro w5 R;refine ζa rfl ?_;have l:=U.trans R;refine ζc rfl (U0 (h4.grow R) hs.may hs.bl q i' n' (aa.grow l) D (Km A (Gm pv (by omega) (by omega) (by omega))) (by rw[cs];exact pf)) ?_;rintro _ w6 ⟨rfl,c0,T⟩;refine ζa ϱ ?_;rw[A] at c0;have V:=T.heap (R.heap' r) O;have c1:=Yq (s:=Zw S.c s t.q i' (Xz n')) p;have ct:∀m,Xt (Zw S.c s t.q i' (Xz n')) (Yz (Zw S.c s t.q i' (Xz n')) (j:Nat)).cls=some m->i'+n'<=m.size:=λm hm=>by
      rw[c1] at hm;obtain⟨k,ek,_,cv⟩:=Qr hm;have:=Pr hs (k:=k) (m:=m) cv p ek;omega
     refine ζl V ϱ (ζl V ϱ (ζj ϱ ?_));rw[b3];refine ζc ϱ (XgC c0 (hs.put t.q i' (Sb n')) (j:Nat) q i' n' (by rw[c1,<-A];rfl) ct) ?_;rintro _ wx ⟨Fx,Frx,mox,hx,c2,c3⟩;refine ζa ϱ ?_;obtain⟨sx,esx⟩:∃sx,sx=Qt (Zw S.c s t.q i' (Xz n')) (j:Nat) i' n':=⟨_,rfl⟩;rw[<-esx] at hx;have W:sx.th=s.th:=by rw[esx,Xno];rfl
     have eR:Ac S.c s (j:Nat) (i':Nat)={sx with th:=sx.th.set j (some ⟨(i':Nat),t.q⟩)}:=by
      unfold Ac;rw[if_neg (λh=>h e),P,if_pos Q,if_pos b2,hQ,XA,b3,XA,Xnn (s:=Zw S.c s t.q i' (Xz n')) _ _ _ p,<-esx];unfold C3;rw[XA]
     have G:Z8 (Ac S.c s (j:Nat) (i':Nat))=Z8 s+((i':Int)-t.size):=by
      rw[eR,Gb];show((sx.th.set j _).map D4).sum=_
      rw[W,Nh p,<-Gb];show _-t.size+(i':Int)=_
      omega
     have b4:=(noF l).trans T;have ac:∀z,Fx z->F z\/w.heap.size<=z:=λz a=>(c2 z a).imp id (by have:=b4.size;omega);have H:=b4.trans c3;have u:=c3.heap V O;have ah:¬Fx tb:=λa=>(c2 tb a).elim O (by have:=Xg V;omega);have b5:Zl wx q:=⟨aa.rd.far D H,aa.len⟩;have ai:Xj Fx q.pa:=λb' off s' e a=>(ac b' a).elim (D b' off s' e) (by have:=Eu (aq b' off s' e);omega);refine ζd 9 Xe (by kernel_rfl) ϱ λd=>δl d hx.obj ϱ (δl d u ϱ (Xd.build Xb d rfl rfl (δn d ϱ λwy i=>?_)));have I:=hx.grow i;obtain⟨al,B⟩:=I.th;refine Xa.mapset Xb rfl (B.1) λwz b6 f cw=>ζa ϱ ?_;have a:=I.setTh f (B.put (o:=j) (size:=((i':Nat):Int)) (q:=q) (qm:=t.q) A (by rw[W];exact bx) b6 f I.f2.2.2.2.1 (b5.grow i) ai ((aq.chg H D).grow i));refine ζd 8 Xe (by kernel_rfl) ϱ λd=>δl d a.obj ϱ (δl d (f.heap (i.heap' u) (λe=>ah (e▸I.f2.2.2.2.1))) ϱ (δj d ϱ (δn d ϱ λwu J=>ζj ϱ (ζs ((a.grow J).obj) ϱ λwv b7 ad cx=>?_))));exact ζr func38 ϱ ⟨rfl,by rw[G,eR];exact .trans ac H (.of ((a.grow J).setBy (by2:=Z8 s+(((i':Nat):Int)-t.size)) ad b7) ((((noF i).trans (f.mono λz _ e=>e▸I.f2.2.2.2.1)).trans (noF J)).trans (ad.mono λz _ e=>e▸a.f2.1)))⟩
    ·have eR:Ac S.c s (j:Nat) size={s with th:=s.th.set j (some ⟨size,t.q⟩)}:=by
      unfold Ac;rw[if_neg (λh=>h e),P,if_pos Q,if_neg b2,hQ];unfold C3;rw[XA]
     have G:Z8 (Ac S.c s (j:Nat) size)=Z8 s+(size-t.size):=by
      rw[eR,Gb];show((s.th.set j _).map D4).sum=_
      rw[Nh p,<-Gb];show _-t.size+size=_
      omega
     refine ζf ϱ ?_;obtain⟨wx,ewx⟩:∃wx,wx=w4:=⟨_,rfl⟩;obtain⟨Fx,eFx⟩:∃Fx,Fx=F:=⟨_,rfl⟩;rw[<-ewx];have hx:Xr Fx Fr wx S s (Z8 s) mo:=by rw[eFx,ewx];exact h4
     have u:=r;rw[<-ewx] at u;have ah:¬Fx tb:=by rw[eFx];exact O
     have ac:∀z,Fx z->F z\/w.heap.size<=z:=λz a=>.inl (by rw[<-eFx];exact a);have H:Xc F w wx:=by rw[ewx];exact noF U
     have W:s.th=s.th:=rfl;have b5:Zl wx q:=⟨aa.rd.far D H,aa.len⟩;have ai:Xj Fx q.pa:=λb' off s' e a=>(ac b' a).elim (D b' off s' e) (by have:=Eu (aq b' off s' e);omega);refine ζd 9 Xe (by kernel_rfl) ϱ λd=>δl d hx.obj ϱ (δl d u ϱ (Xd.build Xb d rfl rfl (δn d ϱ λwy i=>?_)));have I:=hx.grow i;obtain⟨al,B⟩:=I.th;refine Xa.mapset Xb rfl (B.1) λwz b6 f cw=>ζa ϱ ?_;have a:=I.setTh f (B.put (o:=j) (size:=size) (q:=q) (qm:=t.q) A (by rw[W];exact bx) b6 f I.f2.2.2.2.1 (b5.grow i) ai ((aq.chg H D).grow i));refine ζd 8 Xe (by kernel_rfl) ϱ λd=>δl d a.obj ϱ (δl d (f.heap (i.heap' u) (λe=>ah (e▸I.f2.2.2.2.1))) ϱ (δj d ϱ (δn d ϱ λwu J=>ζj ϱ (ζs ((a.grow J).obj) ϱ λwv b7 ad cx=>?_))));exact ζr func38 ϱ ⟨rfl,by rw[G,eR];exact .trans ac H (.of ((a.grow J).setBy (by2:=Z8 s+(size-t.size)) ad b7) ((((noF i).trans (f.mono λz _ e=>e▸I.f2.2.2.2.1)).trans (noF J)).trans (ad.mono λz _ e=>e▸a.f2.1)))⟩
   |false=>
    have e:B2 S.c s (j:Nat) size=Qg S.c s size:=by unfold B2;rw[if_neg (λh=>h e0),if_neg g1,P,if_neg (by rw[Q];decide)]
    refine ζf ϱ (ζv (XbT h4 hs size) ϱ λw5 R=>?_);have l:=U.trans R;have b8:=R.heap' r;by_cases C:Qg S.c s size=0
    ·rw[C];refine ζf ϱ ?_;obtain⟨t',M⟩:=L4 hs p Q C;have cy:q.cls=t.q.cls:=congrArg PlcM.cls A;refine Xa.loadb Xb rfl b8 rfl rfl ?_;rw[cy];refine ζc ϱ (Xgy (h.grow l) hs t.q.cls) ?_;rintro _ w6 ⟨F6,cz,d0,h6,b9,T⟩;refine ζa ϱ ?_;have ea:=l.size;have eb:=T.size;obtain⟨n,ba⟩:∃n,n=X7 s t.q.cls:=⟨_,rfl⟩;obtain⟨M1,M2,M3,M4,M5,M6,M7,M8⟩:=M;have bb:=Xc6 hs t.q.cls;have eR:Ac S.c s (j:Nat) size=G5 S.c s (j:Nat) size:=by unfold Ac;rw[if_neg (λh=>h (e.trans C)),P,if_neg (by rw[Q];decide)]
     have eM:G5 S.c s (j:Nat) size=Au S.c (Zw S.c (Yv S.c (Y1 n (X5 S.c t'.q.plc 0 (min t.size size).toNat)) (j:Nat) size) (Yz (Yv S.c (Y1 n (X5 S.c t'.q.plc 0 (min t.size size).toNat)) (j:Nat) size) (j:Nat)) 0 (Yr S.c t'.q.plc n.bs 0 (min t.size size).toNat)) t'.q:=by
      unfold G5;simp only
      rw[Yq p,C4 p,<-ba,Yq (ba▸M2)]
     rw[<-ba] at h6 M1 M2 M6 M7 M8 bb;obtain⟨m,em⟩:=XD (show 0<=min t.size size by omega);rw[em,XA] at eM M8;have d3:0<m:=by omega
     obtain⟨al,B⟩:=h6.th;obtain⟨N,k1,k2,k3,k4,k5⟩:=B.2.2.1 j t' M2;obtain⟨pv,ph,pf⟩:=Ii M1 M2;have bd:=(List.getElem?_eq_some_iff.1 M2).1;refine ζl h6.obj ϱ (Xa.lookup Xb rfl (B.1) ((show Bf al _ (j:Nat) false=.agg (El t'.size N).toArray from by unfold Bf;rw[k2];rfl)) rfl (Xa.field Xb rfl (show Value.agg ((El t'.size N).toArray.extract 1 5)=.agg (Xv N).toArray from rfl) rfl (ζn ϱ λpb w7 e7 ci d4 ec=>ζs ci ϱ λw8 be d6 ed=>?_)));have K:=d4.since d6 (λz a e=>by omega);have h8:=h6.grow K;have bf:=K.heap' (T.heap b8 O);have ar:¬F6 pb:=λa=>by have:=h6.low pb a;omega
     have hd:∀w',Xc Xe w8 w'->Xf prog 80 #[D6 S.v,.agg (Xv N).toArray,.int .i64 0,.int .i64 (m:Nat)] w' (λv w2=>Xc (Zr S.A) w' w2/\∃u1,v=.tuple #[u1,.int .i64 0]/\Xr F6 cz w2 S (Y1 n (X5 S.c t'.q.plc 0 m)) (Z8 s) d0/\Xl w8.heap.size 5 1 w2 u1 m ((Yr S.c t'.q.plc n.bs 0 m).map (Value.int .u8))):=λw' bh=>by
      have hh:=Xgt (h8.grow bh) M1.may M1.bl N 0 m (k3.grow (K.trans bh)) k4 (Km k1 (Gm pv (by omega) (by omega) (by omega))) (by rw[show N.pages=t'.q.pages from congrArg PlcM.pages k1];exact pf);rw[k1] at hh;exact hh.mono λv w2 ⟨u1,e,a1,a2,a3⟩=>⟨a2,u1,e,a1,a3.from' bh.size⟩
     have ee:¬Zr S.A S.sb:=λa=>a.elim (Xs h.kds.1 h.kds.2.2.1 (by decide)) (λe=>by rw[h.amb] at e;exact Xs h.kds.1 h.kds.2.2.2.2.2 (by decide) (Option.some.inj e).symm);have d8:¬Zr S.A tb:=λa=>O (h.footF _ a);have d9:¬Zr S.A pb:=λa=>ar (h6.footF _ a);have emin:(if size<t.size then size else t.size)=(m:Int):=by rw[<-em];split <;> omega
     refine ζd 14 (Zr S.A) (by kernel_rfl) ϱ λd=>δl d h8.obj ϱ (δl d be ϱ (δl d bf ϱ ?_));rw[emin];refine Xd.callQ d rfl rfl (hd) ?_;rintro _ w9 bi ⟨u1,rfl,h9,da⟩;refine Xd.adv Xb d rfl (δn d ϱ λef L=>?_);have c4:=h9.grow L;obtain⟨g,cap,cur,rfl,eg,db,ck,eh,au⟩:=da.form d3;rw[ZK] at au;have a4:(Yr S.c t'.q.plc n.bs 0 m).length=m:=by unfold Yr;rw[XN,YK]
     have bj:¬F6 g:=λa=>by have:=h8.low g a;omega
     have bq:=L.heap' (bi.heap bf d8);refine ζd 6 Xe (by kernel_rfl) ϱ λd=>δl d c4.obj ϱ (δl d bq ϱ (δn d ϱ λei a5=>?_));have ae:=c4.grow a5;have dc:=Uz M6;have dd:Z8 {n with th:=n.th.set j none}=Z8 s-t.size:=by
      rw[Gb];show((n.th.set j none).map D4).sum=_
      rw[Nh M2,<-Gb,bb];show _-t'.size+0=_
      omega
     rw[dd] at dc;refine ζj ϱ (ζs ae.obj ϱ λej cl a6 dv=>?_);have c5:=ae.setBy (by2:=Z8 s-t.size) a6 cl;have av:=a6.heap (a5.heap' (L.heap' (bi.heap be d9))) (λe=>ar (e▸ae.f2.1));have bk:=a6.heap (a5.heap' (L.heap' db)) (λe=>bj (e▸ae.f2.1));have a7:=(((bi.mono λz _ a=>h6.footF z a).trans (noF L)).trans (noF a5)).trans (a6.mono λz _ e=>e▸ae.f2.1);have aw:=((((noF l).trans T).trans (noF K)).since a7 (λz a C=>(b9 z C).elim id (by omega)));obtain⟨sc,esc⟩:∃sc,sc=Y1 n (X5 S.c t'.q.plc 0 m):=⟨_,rfl⟩;have an:sc.th=n.th:=by rw[esc];rfl
     rw[<-esc] at c5 M8 eM;have de:Qg S.c sc size=0:=by rw[esc];exact M7
     refine ζc ϱ (Xgz c5 (esc▸StM.OkP.tot M1 _) (by rw[an];exact bd) de M8 (by omega)) ?_;rintro _ df ⟨ax,dw,dx,af,a8,a9⟩;refine ζa ϱ ?_;have dy:=a7.size;have br:¬ax pb:=λa=>(a8 pb a).elim ar (by have:=Xg av;omega);have bs:¬ax g:=λa=>(a8 g a).elim bj (by have:=Xg bk;omega);obtain⟨s2,bl⟩:∃s2,s2=Yv S.c sc (j:Nat) size:=⟨_,rfl⟩;have ao:s2.th[j]?=some (some ⟨size,Zb S.c sc (j:Nat) size⟩):=by
      rw[bl];show(sc.th.set (j:Int).toNat _)[j]?=_
      rw[XA,XF (by rw[an];exact bd)]
     have cm:Z8 s2=Z8 s-t.size+size:=by
      rw[bl,Xc7 j size (x:=some t') (by rw[an];exact M2)];have:Z8 sc=Z8 s:=by rw[esc,<-bb];rfl
      rw[this];show _-t'.size+size=_
      omega
     rw[<-bl] at af M8 eM;obtain⟨c6,dg,c7⟩:=Ii M8 ao;simp only at c6 dg c7
     obtain⟨cn,ay⟩:=af.th;obtain⟨q2,j1,j2,j3,j4,j5⟩:=ay.2.2.1 j _ ao;simp only at j1 j2
     refine ζd 12 Xe (by kernel_rfl) ϱ λd=>δl d af.obj ϱ (δl d af.obj ϱ (Xd.lookup Xb d rfl (ay.1) (by first|(intro b h;cases h;assumption)|(intro b h hs;cases h;omega)) ((show Bf cn _ (j:Nat) false=.agg (El size q2).toArray from by unfold Bf;rw[j2];rfl)) rfl (Xd.field Xb d rfl (show Value.agg ((El size q2).toArray.extract 1 5)=.agg (Xv q2).toArray from rfl) rfl (δn d ϱ λel y=>?_))));have c8:=Xgu (af.grow y) M8.may M8.bl q2 0 (some ⟨g,0,none⟩) cap (Yr S.c t'.q.plc n.bs 0 m) (j3.grow y) j4 (Km j1 (by rw[a4];exact Gm c6 (by omega) (by omega) (by omega))) (by rw[show q2.pages=(Zb S.c sc (j:Nat) size).pages from congrArg PlcM.pages j1];exact c7) (Rd.of_take (y.heap' (a9.heap bk bj)) (by rw[a4];exact au)) (by rw[a4];exact ck) (K9 M1.bi 0 m) (λ_ b' off s' e=>by cases e;exact bs);rw[a4] at c8;refine ζc ϱ (c8) ?_;rintro _ di ⟨rfl,c9,ap⟩;refine ζa ϱ ?_;rw[j1] at c9;have bv:Xj ax N.pa:=λb' off s' e a=>(a8 b' a).elim (k4 b' off s' e) (by have:=Eu (k5 b' off s' e);omega);have bn:Zl df N:=⟨((k3.grow K).rd).far k4 (a7.trans a9),k3.len⟩;have co:Zl di N:=⟨((bn.grow y).rd).far bv ap,bn.len⟩;have bo:=M8.put (Zb S.c sc (j:Nat) size) 0 (K9 (c:=S.c) (q:=t'.q.plc) M1.bi 0 m);refine ζl (ap.heap (y.heap' (a9.heap av ar)) br) ϱ (ζc ϱ (Xgx c9 N (by rw[k1];exact bo) co) ?_);rintro _ en az;refine ζa ϱ ?_;rw[k1] at az;rw[(Yq ao)] at eM;have G:Z8 (Ac S.c s (j:Nat) size)=Z8 s-t.size+size:=by
      rw[eR,eM,Xc5 bo,<-cm];rfl
     have ca:∀z,ax z->F z\/w.heap.size<=z:=λz a=>(a8 z a).elim (λa=>(b9 z a).imp id (by omega)) (by have:=aw.size;omega);exact ζr func38 ϱ ⟨by rw[e,C],by rw[G,eR,eM];exact .trans ca (((aw.since a9 (λz a C=>(b9 z C).elim id (by omega))).trans (noF y)).since ap (λz a C=>(ca z C).elim id (by omega))) az⟩
    ·exact ζY ϱ (by simpa using C) (ζr func38 ϱ ⟨by rw[e],same l (by rw[e];exact C)⟩)
 ·have e:B2 S.c s o size=Yl s o:=by unfold B2;rw[if_pos e0]
  exact ζY ϱ (by simpa using e0) (ζr func38 ϱ ⟨by rw[e];rfl,same E (by rw[e];exact e0)⟩)
theorem Xf2{r:List Value}{x:Int}(hk:k<l.length):Yd (l.map (Value.int .i64)++r) (0+k) [.int .i64 x]=some ((l.set k x).map (Value.int .i64)++r):=by
 have:=Pm (cells:=λn:Int=>[Value.int .i64 n]) (sz:=1) (λ_=>rfl) (xs:=l) (k:=k) (y:=x) (rest:=r) hk;have e:∀l:List Int,fl (λn:Int=>[Value.int .i64 n]) l=l.map (Value.int .i64):=λl=>by unfold fl;induction l with|nil=>rfl|cons a l ih=>simp[ZQ,ih]
 rw[e,e,ZK] at this;exact this
theorem XmI{S:Sto}(h:Xr F Fr w S s (Z8 s) mo)(hs:s.Ok S.c)(k keep:Int):Xf prog 39 #[Zx S,.int .i64 k,.int .i64 keep] w (Iz F w S (Dj s k keep) (Cv s k keep)):=by
 obtain⟨f1,f2,p⟩:=OkP.few hs;have same:Cv s k keep=1->Iz F w S (Dj s k keep) (Cv s k keep) (.int .i64 1) w:=λf=>by
  have e:Dj s k keep=s:=by unfold Dj;rw[if_neg (by rw[f];decide)]
  rw[e,f];exact⟨rfl,.of h (Xc.refl _ _)⟩
 refine ζe func39 ntmps39 ϱ (ζw (XgA h hs k) ϱ ?_);cases b:Gd s k with
 |false=>
  have e:Cv s k keep=1:=by
   unfold Cv;rw[if_pos];unfold Gd at b;simp only[Bool.and_eq_false_iff,decide_eq_false_iff_not] at b;omega
  exact ζy ϱ (ζr func39 ϱ (same e))
 |true=>
  obtain⟨j,rfl,q⟩:=XgN b;refine ζf ϱ (ζg ϱ (λc=>?_) λc=>?_)
  ·have e:Cv s (j:Nat) keep=1:=by unfold Cv;rw[if_pos];have:=of_decide_eq_true c;omega
   exact ζr func39 ϱ (same e)
  ·have m:=of_decide_eq_false c;refine ζg ϱ (λd=>?_) λd=>?_
   ·have e:Cv s (j:Nat) keep=1:=by unfold Cv;rw[if_pos];have:=of_decide_eq_true d;omega
    exact ζr func39 ϱ (same e)
   ·have n:=of_decide_eq_false d;have e:Cv s (j:Nat) keep=0:=by unfold Cv;rw[if_neg];omega
    have eS:Dj s (j:Nat) keep={s with keep:=s.keep.set j keep}:=by unfold Dj;rw[if_pos e,XA]
    have g:j<s.keep.length:=by omega
    refine ζl h.obj ϱ (ζi j ϱ (ζS ϱ h.kee (Xf2 (x:=keep) g) ϱ λr i a o=>?_));exact ζr func39 ϱ ⟨by rw[e],by rw[eS];exact .of (h.setKeep (l:=s.keep.set j keep) (by rw[XG]) a i) (a.mono λz _ e=>e▸h.f2.2.1)⟩
theorem XmV{x:StM×Int}(h:x.2<1)(k:Nat):tickK c x k=x:=by unfold tickK;rw[if_pos h]
theorem Xcc(h:(tickTo c s k).2<1):∀d,tickTo c s (k+d)=tickTo c s k
 |0=>rfl
 |d+1=>by rw[<-YL,Jl,Xcc h d,XmV h]
theorem Xmt(h:X6 c=true):1<=c.step/\c.step<=65536:=by
 unfold X6 at h;simp only[XJ,decide_eq_true_eq,Qv] at h;omega
theorem Sv{c:Conf}{s:StM}(h:s.Ok c):∀n,Z8 (tickTo c s n).1=Z8 s/\(tickTo c s n).1.mv.length=s.mv.length/\0<=(tickTo c s n).2/\(tickTo c s n).2<=65536
 |0=>by
  have:=Xmt h.may;exact⟨rfl,rfl,by show 0<=c.step;omega,by show c.step<=_;omega⟩
 |n+1=>by
  obtain⟨a,b,d,e⟩:=Sv h n;rw[Jl];unfold tickK;split
  ·exact⟨a,b,d,e⟩
  ·split
   ·exact⟨(Wy c _ n).trans a,(Kk c _ n).2.2.2.trans b,d,e⟩
   ·refine⟨(W0 (StM.OkP.begin (StM.OkP.tickTo h n) n) n _).trans ((Wy c _ n).trans a),((Pn _ n _).2.2.1).trans ((Kk c _ n).2.2.2.trans b),?_⟩;rename_i m f
    have:(Z1 m (tickTo c s n).2:Int)<=(tickTo c s n).2:=by unfold Z1 Du;omega
    simp only
    omega
theorem XmM{S:Sto}(h:Xr F Fr w S s (Z8 s) mo)(hs:s.Ok S.c):Xf prog 27 #[Zx S] w (Iz F w S (C5 S.c s) 0):=by
 obtain⟨f1,f2,R⟩:=OkP.few hs;have fin:∀{k w'},Dx F w w' S (tickTo S.c s k).1 (Z8 s)->tickTo S.c s s.mv.length=tickTo S.c s k->Iz F w S (C5 S.c s) 0 (.int .i64 0) w':=λ{k w'} E n=>by
  unfold C5;rw[n];exact⟨rfl,by rw[(Sv hs k).1];exact E⟩
 refine ζe func27 ntmps27 ϱ (ζl h.obj ϱ ?_);refine Xa.loop (α:=Nat) (λk=>[(0,false,Zx S),(3,false,.int .i64 (tickTo S.c s k).2),(4,false,.func (.func 65) #[Zx S] #[]),(5,false,.int .i64 k)])
  (λk w'=>Dx F w w' S (tickTo S.c s k).1 (Z8 s)/\k<=s.mv.length) (λk=>s.mv.length-k) 0 ⟨rfl,rfl,rfl,rfl,trivial⟩ ⟨.of h (Xc.refl _ _),by omega⟩ ?_
 rintro k G ⟨⟨H,q,r,i,a,b⟩,I⟩ ih;obtain⟨J,K,L,M⟩:=Sv hs k;have c:=StM.OkP.tickTo hs k;have tsucc:=Jl S.c s k;obtain⟨x,ex⟩:∃x,x=tickTo S.c s k:=⟨_,rfl⟩;rw[<-ex] at i J K L M c tsucc⊢;have e:tickTo S.c s s.mv.length=tickTo S.c s k->Iz F w S (C5 S.c s) 0 (.int .i64 0) G:=λn=>fin ⟨H,q,r,by rw[<-ex];exact i,a,b⟩ n;refine ζa ϱ (ζl i.obj ϱ ?_);by_cases j:k<s.mv.length
 ·refine ζy ϱ ?_;by_cases T:0<x.2
  ·refine ζy ϱ (ζc ϱ (Xgw i c k (by omega)) ?_);rintro _ U ⟨t,u,v,o,y,A⟩;have V:=b.size;have f:∀z,t z->F z\/w.heap.size<=z:=λz B=>(y z B).elim (a z) (by omega);have g:=b.since A (λz B N=>(a z N).elim id (by omega));have l:=StM.OkP.begin c k;refine ζa ϱ (ζw (Kf o l (k:Nat)) ϱ ?_);cases p:Xt (Yc S.c x.1 k) (k:Nat) with
   |none=>
    have et:tickTo S.c s (k+1)=(Yc S.c x.1 k,x.2):=by rw[tsucc];unfold tickK;rw[if_neg (by omega),p]
    refine ζf ϱ (ζj ϱ ?_);refine ih (k+1) _ _ ⟨⟨t,u,v,?_,f,g⟩,j⟩ (by omega) ?_
    ·rw[et];exact o
    ·rw[et];exact⟨rfl,rfl,rfl,rfl,trivial⟩
   |some m=>
    obtain⟨k',ek',P,C⟩:=Qr p;obtain rfl:k=k':=by omega
    have et:tickTo S.c s (k+1)=(Yo (Yc S.c x.1 k) k x.2,x.2-Z1 m x.2):=by rw[tsucc];unfold tickK;rw[if_neg (by omega),p]
    have Q:(Z1 m x.2:Int)<=x.2:=by unfold Z1 Du;omega
    refine ζy ϱ ?_;refine ζc rfl (XbU o l C x.2) ?_;rintro _ W ⟨rfl,D⟩;refine ζa ϱ ?_;refine Xa.arith Xb rfl (w64 (by omega)) rfl ?_;refine ζj ϱ ?_;refine ih (k+1) _ _ ⟨?_,j⟩ (by omega) ?_
    ·rw[et];exact .trans f g D
    ·rw[et];exact⟨rfl,rfl,rfl,rfl,trivial⟩
  ·refine ζf ϱ ?_;exact ζr func27 ϱ (e (by obtain⟨d,O⟩:=Nat.exists_eq_add_of_le I;rw[O];exact Xcc (by rw[<-ex];omega) d))
 ·refine ζf ϱ ?_;exact ζr func27 ϱ (e (by rw[show s.mv.length=k by omega]))
def Rm.relap(R:Rm)(l:Int):Rm:={R with lap:=l}
def Sto.relap(S:Sto)(l:Int):Sto:={S with R:=S.R.relap l}
theorem Zm.relap(h:Zm F w R M)(hb:R.mo=some b){t l:Int}(hm:A9 w' b t l)(hc:Xc (λz=>z=b) w w'):Zm F w' (R.relap l) {M with tot:=t}:=by
 obtain⟨n,p⟩:=h.met b hb;have kb:=L0 p;have g:∀z,z=b->F z:=λz e=>e▸n;have kp:=h.pool.kds;have j:=Xs kp.1 kb (by decide);have m:=Xs kp.2 kb (by decide);have q:0≠b:=λe=>h.tf (e▸n);refine⟨{h.ok with tot:=by have:=hm.2;show 0<=t/\t<=4611686018427387904;omega},hc.heap h.obj (λe=>h.rf (g _ e)),h.cls.chg hc g,h.kee.chg hc g,h.may,λb' c=>?_,λk r=>hc.cell (h.sl k r) (λe=>h.sf (g _ e)),h.pool.chg hc j m,h.pf,?_,h.lg.chg hc (λz _ h=>.inl (g z h)) (Xs (Hn h.lg) kb (by simp)),h.lf,h.rf,h.sf,λz i=>by have:=h.low z i;have:=hc.size;omega,h.tab.chg hc q,h.tf,λz i=>⟨by have:=(h.xl z i).1;have:=hc.size;omega,(h.xl z i).2⟩⟩
 ·replace c:R.mo=some b':=c;rw[hb] at c;cases c;exact⟨n,hm⟩
 ·obtain⟨G,a,d⟩:=h.sh;refine⟨G,λk x s=>?_,d⟩;obtain⟨o,f,u⟩:=a k x s;have ap:=f.at'.apart kb (by decide);exact⟨o,⟨f.ok,f.pos,f.of,f.at'.chg hc (λz e=>e▸ap.1) (λz e=>e▸ap.2) q,f.pool.chg hc (by rw[o];exact j) (by rw[o];exact m)⟩,u⟩
theorem Xr.relap{F Fr:Nat->Prop}{w w':World}{S:Sto}{s:StM}{by':Int}{mo:Mo}(h:Xr F Fr w S s by' mo){l:Int}(hm:A9 w' S.mb s.rm.tot l)(hc:Xc (λz=>z=S.mb) w w'):Xr F Fr w' (S.relap l) s by' mo:=by
 obtain⟨i,j,n,o,p,a⟩:=h.kds;obtain⟨q,r,t,v,x,y⟩:=h.nF;have c:∀z,z=S.mb->F z:=λz e=>e▸h.mb.1;have f:=h.ca.chg hc c;have g:=h.ka.chg hc c;exact {h with
  obj:=hc.heap h.obj (Xs i a (by decide)),kee:=hc.heap h.kee (Xs j a (by decide)),room:=h.room.relap h.rmo hm hc,
  ar:=⟨hc.heap h.ar.obj (λe=>q (c _ e)),hc.heap h.ar.dat (Xs n a (by decide)),hc.heap h.ar.cap (λe=>r (c _ e)),λb d=>by
   replace d:S.A.mb=some b:=d;rw[h.amb] at d;cases d;exact hm,h.ar.len,h.ar.rng⟩,
  vw:=⟨hc.heap h.vw.obj (λe=>t (c _ e)),by
   show Ys w' S.v.c S.v.p
   have:=h.vw.conf;rw[h.vc,h.vp] at this⊢;exact⟨f.1,g.1,this.lc,this.lk,this.size⟩,h.vw.may⟩,
  th:=h.th.far hc c (Xs o a (by simp)),mvs:=hc.heap h.mvs (Xs p a (by decide)),mob:=h.objAt hc (λk b m hm=>Xs (h.kdm hm) a (by decide)),ca:=f,ka:=g,
  low:=λz u=>by have:=h.low z u;have:=hc.size;omega}
theorem XmL{S:Sto}(h:Xr F Fr w S s by' mo)(b:Nat)(hb:Ux w b (Zx S)):Xf prog 48 [.pointer (some ⟨b,0,none⟩)].toArray w (λv w'=>∃n:Int,v=.int .i64 n/\n=s.rm.tot-S.R.lap/\Xr F Fr w' (S.relap s.rm.tot) s by' mo/\Xc (λz=>z=S.mb) w w'):=by
 refine ζe func48 ntmps48 ϱ (ζk ϱ (Es (off:=0) hb rfl) ϱ (ζl h.obj ϱ (ζc ϱ (XjF S.mb s.rm.tot S.R.lap w h.mb.2.2) ?_)));rintro _ d ⟨rfl,c,a⟩;exact ζa ϱ (ζr func48 ϱ ⟨_,rfl,rfl,h.relap c a,a⟩)
theorem XmK{S:Sto}(h:Xr F Fr w S s by' mo):Xf prog 13 #[Zx S] w (λv w'=>v=.int .i64 (s.rm.tot-S.R.lap)/\Xr F Fr w' (S.relap s.rm.tot) s by' mo/\Xc (λz=>z=S.mb) w w'):=by
 refine ζe func13 ntmps13 ϱ (ζn ϱ λb e e1 c a g=>ζk ϱ (Es (off:=0) c rfl) ϱ (ζc ϱ (U4 (S:=S) 48 [.pointer (some ⟨b,0,none⟩)] e _ (XmL (h.grow a) b c)) ?_));rintro _ i ⟨n,rfl,rfl,f,d⟩;exact ζa ϱ (ζr func13 ϱ ⟨rfl,f,a.gr.trans d⟩)
theorem Xio(a:Option Addr)(cap:Nat)(x:List Int)(w:World)(hr:Rd .i64 w a x)(hl:x.length<=1048576)(hn:∃a1,a=some a1):Xf prog 68 #[.slice a x.length cap] w
 (λv w'=>∃g c r,v=.slice (some ⟨g,0,none⟩) x.length c/\w.heap.size<=g/\w'.heap[g]?=some (.cells (x.map (Value.int .i64)++r).toArray 3 (0,0))/\x.length<=c/\Xc Xe w w'):=by
 have t:maxLen=9223372036854775807:=rfl;obtain⟨a1,rfl⟩:=hn;refine ζe func68 ntmps68 ϱ (ζf ϱ (Xa.buildSlice Xb rfl λb m e1 n d u=>ζa ϱ ?_));subst e1;have i:Xl w.heap.size 3 1 m (.slice (some ⟨w.heap.size,0,none⟩) 0 0) 0 []:=Xl.empty (XE _) n;refine Xa.append (base:=w.heap.size) (xs:=[]) (news:=x.map (Value.int .i64)) Xb rfl i (by omega) (by simp) (hr.chg d).cells Jb ⟨by omega,by show(0+x.length)*8<=_;omega⟩ λv y f j k=>ζa ϱ ?_;rw[XS,ZR] at f;have o:=i.since d (XE _) j;rcases f.2 with⟨e,_⟩|⟨g,c,cur,rfl,p,q,s,z,_,l⟩
 ·have:=(k.1.1 e).1;cases this
 ·have h:cur=(x.map (Value.int .i64)++cur.toList.drop x.length).toArray:=by
   rw[ZK] at l;rw[<-l,XZ]
  exact ζr func68 ϱ ⟨g,c,cur.toList.drop x.length,rfl,p,by rw[<-h];exact q,s,o⟩
theorem Sa:∀n,Y5 [.pointer none,.int .i64 0,.int .i64 0,.int .i64 0,.int .i64 0,.int .i64 0] n=fl Dy (List.replicate n none)
 |0=>rfl
 |n+1=>by rw[Y5,Sa n,ZT];rfl
structure Jo(c:Conf)(w:World)(g cap:Nat)(r:List Value)(mb tm vb:Nat):Prop where
 g:w.heap[g]?=some (.cells (c.keep.map (Value.int .i64)++r).toArray 3 (0,0))
 gc:c.keep.length<=cap
 m:A9 w mb 0 0
 t:Y6 w tm []
 v:w.heap[vb]?=some (.cells (fl Dy (List.replicate c.classes.length none)).toArray 96 (0,0))
theorem Jo.grow{r:List Value}{mb:Nat}(h:Jo c w g cap r mb tm vb)(hc:Xc Xe w w'):Jo c w' g cap r mb tm vb:=⟨hc.heap' h.g,h.gc,h.m.chg hc,h.t.chg hc id,hc.heap' h.v⟩
def N6(c:Conf)(p:Yu)(g cap mb tm vb:Nat)(a r v:Value):List Value:=Zj c p++[.slice (some ⟨g,0,none⟩) c.keep.length cap,.pointer (some ⟨mb,0,none⟩),a,r,v,.map (some tm),.slice (some ⟨vb,0,none⟩) c.classes.length c.classes.length,.int .i64 0]
theorem Jo.note{r:List Value}{mb:Nat}(h:Jo c w g cap r mb tm vb)(hc:Xc (λz=>z=xb) w w')(h1:g≠xb)(h2:mb≠xb)(h3:tm≠xb)(h4:vb≠xb):Jo c w' g cap r mb tm vb:=
 ⟨hc.heap h.g h1,h.gc,⟨hc.heap h.m.1 h2,h.m.2⟩,h.t.chg hc h3,hc.heap h.v h4⟩
theorem Zm.apart(h:Zm F w R M)(hcf:Ys w0 R.c R.p)(ht:Bb w0){l:List Value}{n:Int}(hx:w.heap[xb]?=some (.cells (.int .i64 n::l).toArray t fz))(h0:w0.heap.size<=xb)(hF:¬F xb)(htk:t≠290/\t≠286/\t≠3/\t≠166)(hc:Xc (λz=>z=xb) w w'):Zm F w' R M:=by
 have a:=Yp h.may;have b:=Yk hx;refine h.other hc λz e=>e▸⟨hF,Xs (Yk h.obj) b (λe=>htk.2.2.2 (Option.some.inj (Option.some.inj e)).symm),λe=>?_,λe=>?_,λoff s e=>?_,λoff s e=>?_,?_,?_,λe=>?_⟩
 ·have c:=h.sl 0 (by have:=a.n;have:=h.ok.n;omega);rw[e,Yt hx] at c;cases c
 ·have:=World.block_lt_of_cell? w0 _ (ht 0 (by decide));simp only at this
  omega
 ·have:=hcf.classes.block (by have:=a.n;omega) e;omega
 ·have:=hcf.keep.block (by have:=a.keep;have:=a.n;omega) e;omega
 ·rw[b];exact λe=>htk.1 (Option.some.inj (Option.some.inj e))
 ·rw[b];exact λe=>htk.2.1 (Option.some.inj (Option.some.inj e))
 ·rw[b] at e;exact absurd (Option.some.inj (Option.some.inj e)) htk.2.2.1
theorem Xmv{p:Yu}{w7:World}{mb vw:Nat}{r:List Value}(hc:Ys w c p)(ht:Bb w)(hcw:Xc Xe w w')(hm:X6 c=true)(hx:w'.heap[xb]?=some (.cells (N6 c p g cap mb tm vb (.pointer (some ⟨A.ab,0,none⟩)) (B9 R) (.pointer (some ⟨vw,0,none⟩))).toArray 90 (0,0)))(hN:Jo c w' g cap r mb tm vb)(hA:X2 w' A ⟨Xz (c.pages*c.size).toNat,0,0⟩)(hAm:A.mb=some mb)(hR:Zm Fr w' R (Hp c 0))(hRc:R.c=c)(hRp:R.p=p)(hRm:R.mo=some mb)(hRl:R.lap=0)(hRX:R.X=λz=>z=g)(hV:Bj w' ⟨vw,c,p,A.ab,some mb⟩)(hFr:∀z,Fr z->w7.heap.size<=z\/z=mb)(hFv:¬Fr vw)(h7:w.heap.size<=w7.heap.size)(l1:w.heap.size<=g/\g<w7.heap.size)(l2:w.heap.size<=mb)(l3:w.heap.size<=tm/\tm<w7.heap.size)(l4:w.heap.size<=vb/\vb<w7.heap.size)(l5:w.heap.size<=xb/\xb<w7.heap.size)(l6:w.heap.size<=A.db/\A.db<w7.heap.size)(l7:A.ab<w7.heap.size/\A.mc<w7.heap.size):∃F Fr S mo,Zx S=.pointer (some ⟨xb,0,none⟩)/\Xr F Fr w' S (Ao c) 0 mo/\(S.c=c/\S.p=p)/\S.R.lap=0/\∀z,F z->w.heap.size<=z:=by
 have d:=Yp hm;have kx:=Yk hx;have kg:=Yk hN.g;have km:=L0 hN.m;have kt:=Ps hN.t;have kv:=Yk hN.v;have kd':=Yk hA.dat;have ka:=Yk hA.obj;have kc:=Yk hA.cap;have kw:=Yk hV.obj;have kr:=Yk hR.obj;have hz:(Xz (c.size*c.pages).toNat)=Xz (c.pages*c.size).toNat:=by rw[YG]
 have nfr:∀{z:Nat},z<w7.heap.size->z≠mb -> ¬Fr z:=λx y h=>(hFr _ h).elim (by omega) y;have i:∀z,(Fr z\/z=xb\/z=g\/z=A.db\/z=tm\/z=vb)->w.heap.size<=z:=λz hz=>by
  rcases hz with hz|rfl|rfl|rfl|rfl|rfl
  ·rcases hFr z hz with h|h <;> omega
  all_goals omega
 have f:=hR.sl 0 (by have:=d.n;have:=hR.ok.n;rw[hRc] at this;omega);have nsb:∀{b t:Nat} {v:Value} {l:List Value} {fz:Nat×Nat},w'.heap[b]?=some (.cells (v::l).toArray t fz)->v≠Ci (R.S 0)->R.sb≠b:=λE G e=>by
  rw[e,Yt E] at f;exact G (Option.some.inj f)
 have q:=d.keep;have N:=d.n;have sbt:R.sb≠tm:=λe=>by
  obtain⟨es,clock,B,_⟩:=hN.t;rw[e] at f;unfold World.cell? at f;simp[B] at f
 have sbg:R.sb≠g:=by
  obtain⟨C,kl,ek⟩:∃C kl,c.keep=C::kl:=by cases H:c.keep with|nil=>rw[H] at q;simp at q;omega|cons a b=>exact⟨a,b,rfl⟩
  have:=hN.g;rw[ek] at this;exact nsb this (λe=>by cases e)
 have sbv:R.sb≠vb:=by
  obtain⟨n,en⟩:∃n,c.classes.length=n+1:=⟨c.classes.length-1,by omega⟩;have:=hN.v;rw[en,ZT] at this;exact nsb this (λe=>by cases e)
 have sbd:R.sb≠A.db:=by
  obtain⟨n,en⟩:∃n,(c.pages*c.size).toNat=n+1:=⟨(c.pages*c.size).toNat-1,by
   have x:1*64<=c.pages*c.size:=ZH (by have:=d.pages;omega) (by have:=d.size;omega) (by omega) (by have:=d.pages;omega);omega⟩
  have:=hA.dat;simp only[en,Xz,ZT] at this;exact nsb this (λe=>by cases e)
 have tl:0<w.heap.size:=by have:=World.block_lt_of_cell? w _ (ht 0 (by decide));exact this
 have far:∀{a:Option Addr} {l:List Int},Rd .i64 w a l->A1 (λz=>Fr z\/z=xb\/z=g\/z=A.db\/z=tm\/z=vb) w' a l:=λD=>⟨D.chg hcw,λI b off s e hz=>by have:=D.block I e;have:=i b hz;omega⟩;have nF:∀{b:Nat},¬Fr b->b≠xb->b≠g->b≠A.db->b≠tm->b≠vb -> ¬(Fr b\/b=xb\/b=g\/b=A.db\/b=tm\/b=vb):=λJ x y K L M hz=>by
  rcases hz with hz|hz|hz|hz|hz|hz
  ·exact J hz
  ·exact x hz
  ·exact y hz
  ·exact K hz
  ·exact L hz
  ·exact M hz
 have u:∀(k b:Nat) m,(List.replicate c.classes.length (none:Option (Nat×MvM)))[k]?≠some (some (b,m)):=λk b m e=>by
  have:=XP e;rw[YR] at this;cases this.2
 refine⟨λz=>Fr z\/z=xb\/z=g\/z=A.db\/z=tm\/z=vb,Fr,⟨xb,c,p,g,cap,r,mb,A,R,⟨vw,c,p,A.ab,some mb⟩,tm,vb,c.classes.length⟩,List.replicate c.classes.length none,rfl,?_,⟨rfl,rfl⟩,hRl,i⟩;exact {
  obj:=by
   show w'.heap[xb]?=some (.cells (Ov _ c.keep.length (List.replicate c.classes.length (none:Option MvM)).length 0).toArray _ _)
   rw[XH];exact hx
  kee:=hN.g,kcap:=hN.gc,room:=hR,
  ar:=by
   show X2 w' A ⟨Xz (c.size*c.pages).toNat,0,R.lap⟩
   rw[hz,hRl];exact hA
  vw:=hV,
  th:=⟨[],hN.t,YJ,(λo t h=>by
   have:=XP h;simp only[Ao,YR] at this;cases this.2),λk _=>rfl⟩
  mvs:=hN.v,mvc:=by show(List.replicate _ _).length<=_;rw[XH];exact XE _
  mom:=by unfold Gs Ao;rw[List.map_replicate];rfl
  mob:=λk b m h=>absurd h (u k b m),mdj:=λj k b m m' h _=>absurd h (u j b m)
  rc:=hRc,rp:=hRp,rmo:=hRm,rX:=hRX,amb:=hAm,vc:=rfl,vp:=rfl,vab:=rfl,vmb:=rfl
  f1:=λz hz=>.inl hz,f2:=⟨.inr (.inl rfl),.inr (.inr (.inl rfl)),.inr (.inr (.inr (.inl rfl))),.inr (.inr (.inr (.inr (.inl rfl)))),.inr (.inr (.inr (.inr (.inr rfl))))⟩
  nr:=⟨nfr l5.2 (Xs kx km (by decide)),nfr l1.2 (Xs kg km (by decide)),nfr l6.2 (Xs kd' km (by decide)),nfr l3.2 (Xs kt km (by simp)),nfr l4.2 (Xs kv km (by decide))⟩
  nF:=⟨nF (nfr l7.1 (Xs ka km (by decide))) (Xs ka kx (by decide)) (Xs ka kg (by decide)) (Xs ka kd' (by decide)) (Xs ka kt (by simp)) (Xs ka kv (by decide)),
   nF (nfr l7.2 (Xs kc km (by decide))) (Xs kc kx (by decide)) (Xs kc kg (by decide)) (Xs kc kd' (by decide)) (Xs kc kt (by simp)) (Xs kc kv (by decide)),
   nF hFv (Xs kw kx (by decide)) (Xs kw kg (by decide)) (Xs kw kd' (by decide)) (Xs kw kt (by simp)) (Xs kw kv (by decide)),
   nF hR.rf (Xs kr kx (by decide)) (Xs kr kg (by decide)) (Xs kr kd' (by decide)) (Xs kr kt (by simp)) (Xs kr kv (by decide)),
   nF hR.sf (nsb hx (λe=>by cases e)) sbg sbd sbt sbv,λhz=>by have:=i _ hz;omega⟩
  ca:=far hc.classes,ka:=far hc.keep
  low:=λz hz=>by
   rcases hz with hz|rfl|rfl|rfl|rfl|rfl
   ·exact hR.low z hz
   ·exact Xg hx
   ·exact Xg hN.g
   ·exact Xg hA.dat
   ·exact Eu kt
   ·exact Xg hN.v}
set_option maxHeartbeats 2000000 in
theorem XmD(c:Conf)(p:Yu)(w:World)(hc:Ys w c p)(ht:Bb w)(hm:X6 c=true):Xf prog 28 #[.agg (Zj c p).toArray] w (λv w'=>∃F Fr S mo,v=.tuple #[Zx S,.int .i64 0]/\Xr F Fr w' S (Ao c) 0 mo/\(S.c=c/\S.p=p)/\S.R.lap=0/\(∀z,F z->w.heap.size<=z)/\Xc Xe w w'):=by
 have C:=Yp hm;have di:=C.keep;have dj:=C.n;have bs:Nb c.pages c.size=true:=by
  have:=C.size;have:=C.pages;refine Sk.2 ⟨by omega,by omega,by omega,by omega,?_⟩;have h8:=hm;unfold X6 at h8;simp only[XJ] at h8;exact(K5.1 h8.1.1.1.1.1.1.1).2.2
 refine ζe func28 ntmps28 ϱ (ζn ϱ λb w1 e1 hb bb dk=>?_);replace hb:w1.heap[b]?=some (.cells (Zj c p).toArray 24 (0,0)):=hb;refine ζl hb ϱ (ζv (Xae c p w1 (hc.chg bb)) ϱ λw2 bc=>?_);have em:Bo c=0:=by unfold Bo;rw[if_pos hm]
 rw[em];refine ζf ϱ ?_;have J:=bc.heap' hb;have P:=bb.trans bc;obtain⟨dl,koff,eka,_⟩:=hc.keep 0 (by omega);have hC:∀w',Xc Xe w2 w'->Xf prog 68 #[.slice p.ka c.keep.length p.kc] w' (λv j=>Xc Xe w2 j/\Xc Xe w' j/\∃g cap r,v=.slice (some ⟨g,0,none⟩) c.keep.length cap/\w2.heap.size<=g/\j.heap[g]?=some (.cells (c.keep.map (Value.int .i64)++r).toArray 3 (0,0))/\c.keep.length<=cap):=λw' f=>
  (Xio p.ka p.kc c.keep w' (hc.keep.chg (P.trans f)) (by omega) ⟨_,eka⟩).mono λv j ⟨g,cp,r,a1,a2,Q,a4,a5⟩=>⟨f.trans a5,a5,g,cp,r,a1,by have:=f.size;omega,Q,a4⟩
 have hM:∀w',Xc Xe w2 w'->Xf prog 69 #[] w' (λv j=>Xc Xe w2 j/\Xc Xe w' j/\∃mb,v=.pointer (some ⟨mb,0,none⟩)/\w2.heap.size<=mb/\A9 j mb 0 0):=λw' f=>
  (XjH w').mono λv j ⟨a1,a2,Q,a4⟩=>⟨f.trans Q,Q,w'.heap.size,a1,f.size,a2⟩
 refine ζd 10 Xe (by kernel_rfl) ϱ λd=>δl d J ϱ (δl d J ϱ (δl d J ϱ ?_));refine Xd.turn3 d rfl ?_ ?_ ?_
 all_goals
  intro wa k1
  first
  |have q:=hC _ k1;refine Xp.call rfl q.fn (λ_=>q) ?_;rintro _ wb q0 ⟨q1,g,cap,r,rfl,bd,D,aj⟩;refine Xd.adv Xb d rfl ?_
  |have T:=(k1).size;refine Xp.mkmap Xb d rfl (λ_=>rfl) ?_;intro tm wb etm t q1 ak
  |have U:=(k1).size;refine Xp.make Xb d rfl rfl rfl (XE _) (show 48*c.classes.length<=140737488355328 by omega) (by omega) (λ_=>rfl) ?_;intro vb wb evb i q1 al;replace i:(wb).heap[vb]?=some (.cells (Y5 [.pointer none,.int .i64 0,.int .i64 0,.int .i64 0,.int .i64 0,.int .i64 0] c.classes.length).toArray 96 (0,0)):=i;rw[Sa] at i
 all_goals first|refine Xd.turn3 d rfl ?_ ?_ ?_|refine Xd.turn2 d rfl ?_ ?_
 all_goals
  intro wc a2;have k2:=(k1.trans q1).trans a2
  first
  |have q:=hC _ k2;refine Xp.call rfl q.fn (λ_=>q) ?_;rintro _ wd q0 ⟨q2,g,cap,r,rfl,bd,D,aj⟩;refine Xd.adv Xb d rfl ?_
  |have s:=hM _ k2;refine Xp.call rfl s.fn (λ_=>s) ?_;rintro _ wd q0 ⟨q2,mb,rfl,be,E⟩;refine Xd.adv Xb d rfl ?_
  |have T:=(k2).size;refine Xp.mkmap Xb d rfl (λ_=>rfl) ?_;intro tm wd etm t q2 ak
  |have U:=(k2).size;refine Xp.make Xb d rfl rfl rfl (XE _) (show 48*c.classes.length<=140737488355328 by omega) (by omega) (λ_=>rfl) ?_;intro vb wd evb i q2 al;replace i:(wd).heap[vb]?=some (.cells (Y5 [.pointer none,.int .i64 0,.int .i64 0,.int .i64 0,.int .i64 0,.int .i64 0] c.classes.length).toArray 96 (0,0)):=i;rw[Sa] at i
 all_goals first|refine Xd.turn2 d rfl ?_ ?_|refine Xd.turn1 d rfl ?_
 all_goals
  intro we Q;have k3:=(k2.trans q2).trans Q
  first
  |have q:=hC _ k3;refine Xp.call rfl q.fn (λ_=>q) ?_;rintro _ wf q0 ⟨q3,g,cap,r,rfl,bd,D,aj⟩;refine Xd.adv Xb d rfl ?_
  |have s:=hM _ k3;refine Xp.call rfl s.fn (λ_=>s) ?_;rintro _ wf q0 ⟨q3,mb,rfl,be,E⟩;refine Xd.adv Xb d rfl ?_
  |have T:=(k3).size;refine Xp.mkmap Xb d rfl (λ_=>rfl) ?_;intro tm wf etm t q3 ak
  |have U:=(k3).size;refine Xp.make Xb d rfl rfl rfl (XE _) (show 48*c.classes.length<=140737488355328 by omega) (by omega) (λ_=>rfl) ?_;intro vb wf evb i q3 al;replace i:(wf).heap[vb]?=some (.cells (Y5 [.pointer none,.int .i64 0,.int .i64 0,.int .i64 0,.int .i64 0,.int .i64 0] c.classes.length).toArray 96 (0,0)):=i;rw[Sa] at i
 all_goals refine Xd.turn1 d rfl ?_
 all_goals
  intro wg a4;have k4:=(k3.trans q3).trans a4
  first
  |have s:=hM _ k4;refine Xp.call rfl s.fn (λ_=>s) ?_;rintro _ wh q0 ⟨q4,mb,rfl,be,E⟩;refine Xd.adv Xb d rfl ?_
  |have T:=(k4).size;refine Xp.mkmap Xb d rfl (λ_=>rfl) ?_;intro tm wh etm t q4 ak
  |have U:=(k4).size;refine Xp.make Xb d rfl rfl rfl (XE _) (show 48*c.classes.length<=140737488355328 by omega) (by omega) (λ_=>rfl) ?_;intro vb wh evb i q4 al;replace i:(wh).heap[vb]?=some (.cells (Y5 [.pointer none,.int .i64 0,.int .i64 0,.int .i64 0,.int .i64 0,.int .i64 0] c.classes.length).toArray 96 (0,0)):=i;rw[Sa] at i
 all_goals
  refine δn d ϱ λwz a5=>?_;have c4:=a5;have c3:=(a4.trans q4).trans c4;have c2:=(Q.trans q3).trans c3;have c1:=(a2.trans q2).trans c2;have kz:=(k4.trans q4).trans a5;have V:Jo c wz g cap r mb tm vb:=⟨by first|exact c1.heap' D|exact c2.heap' D|exact c3.heap' D|exact c4.heap' D,aj,by first|exact E.chg c1|exact E.chg c2|exact E.chg c3|exact E.chg c4,by first|exact t.chg c1 id|exact t.chg c2 id|exact t.chg c3 id|exact t.chg c4 id,by first|exact c1.heap' i|exact c2.heap' i|exact c3.heap' i|exact c4.heap' i⟩;refine ζb ϱ (ζn ϱ λxb wy exb aa av dm=>?_);replace aa:wy.heap[xb]?=some (.cells (N6 c p g cap mb tm vb (.pointer none) (.pointer none) (.pointer none)).toArray 90 (0,0)):=aa;have bf:=V.grow av;have aw:=(kz.trans av).heap' J;have ch:∀w',Xc Xe wy w'->Xf prog 70 #[.int .i64 c.pages,.int .i64 c.size,.pointer (some ⟨mb,0,none⟩)] w' (λv j=>Xc (λz=>z=xb) w' j/\Xc Xe wy j/\∃A:Ar,v=.tuple #[.pointer (some ⟨A.ab,0,none⟩),.int .i64 0]/\A.mb=some mb/\wy.heap.size<=A.ab/\wy.heap.size<=A.db/\wy.heap.size<=A.mc/\X2 j A ⟨Xz (c.pages*c.size).toNat,0,0⟩):=λw' f=>
   (Xhz (some mb) 0 0 c.pages c.size w' (λb e=>by cases e;exact(bf.grow f).m) bs).mono λv j ⟨A,W,x2,x3,x4,x5,x6,x7⟩=>⟨x7.gr,f.trans x7,A,W,x2,by have:=f.size;omega,by have:=f.size;omega,by have:=f.size;omega,x6⟩
  refine ζd 16 (λz=>z=xb) (by kernel_rfl) ϱ λd=>?_;have bg:¬b=xb:=by have:=Xg (kz.heap' J);omega
  refine δl d aw ϱ (δl d aw ϱ (Xd.turn1 d rfl λj bh=>Xp.loadb Xb d rfl (bh.heap' aa) rfl rfl ?_));have bz:=λw' (f:Xc Xe j w')=>ch w' (bh.trans f);refine Xd.callQ d rfl rfl (bz) ?_;rintro _ w4 dn ⟨ab,A,rfl,K,dp,dq,dr,cj⟩;refine Xd.adv Xb d rfl (Xd.turn1 d rfl λw5 L=>Xp.store Xb d rfl ((ab.trans L).heap' aa) (by first|(intro h;exact rfl)|(intro h;omega)) rfl rfl rfl λw6 a6 ac ds=>δn d ϱ λw7 M=>?_);replace a6:w6.heap[xb]?=some (.cells (N6 c p g cap mb tm vb (.pointer (some ⟨A.ab,0,none⟩)) (.pointer none) (.pointer none)).toArray 90 (0,0)):=a6;have dt:=P.size;have szz:=kz.size;have lg:=Xg V.g;have lm:=Xg V.m.1;have lt':=V.t.lt;have lv:=Xg V.v;have c0:Xc Xe w w5:=(((P.trans kz).trans av).trans ab).trans L;have u:Xc Xe w w7:=(c0.since ac (λz G e=>by omega)).trans M;have bi:Jo c w7 g cap r mb tm vb:=((bf.grow (ab.trans L)).note ac (by omega) (by omega) (by omega) (by omega)).grow M;have ad:X2 w7 A ⟨Xz (c.pages*c.size).toNat,0,0⟩:=((cj.grow L).chg ac (λb' N e=>by
   rcases N with h|h|h|h
   ·omega
   ·omega
   ·omega
   ·rw[K] at h;have:=Option.some.inj h;omega)).grow M
  have bj:=M.heap' (ac.heap ((ab.trans L).heap' aw) bg);have ax:=M.heap' a6;have la:=Xg ad.obj;have ld:=Xg ad.dat;have lc:=Xg ad.cap;have ck:∀w',Xc Xe w7 w'->Xf prog 71 #[.agg (Zj c p).toArray,.pointer (some ⟨mb,0,none⟩)] w' (λv j=>Xc (λz=>z=xb) w' j/\Xc Xe w7 j/\∃Fr R,v=.tuple #[B9 R,.int .i64 0]/\R.c=c/\R.p=p/\R.mo=some mb/\R.lap=0/\(R.X=λz=>z=g)/\Zm Fr j R (Hp c 0)/\∀z,Fr z->w7.heap.size<=z\/z=mb):=λw' f=>by
   have cl:=(bi.grow f).m;have far:∀{a:Option Addr} {l:List Int},Rd .i64 w a l->A1 (λz=>z=mb) w' a l:=λhr=>⟨hr.chg (u.trans f),λhl b1 off s1 e G=>by have:=hr.block hl e;omega⟩;refine(Xlw c p (some mb) 0 0 (λz=>z=g) w' (hc.chg (u.trans f)) (ht.grow (u.trans f)) (λz e=>⟨by have:=f.size;omega,λe2=>by have e3:=Option.some.inj e2;exact Xs (Yk V.g) (L0 V.m) (by decide) (e.symm.trans e3.symm)⟩) (λb1 e=>by cases e;exact⟨cl,far hc.classes,far hc.keep⟩) (by decide)).mono λv j ⟨W,x2⟩=>?_;rw[if_pos hm] at x2;obtain⟨Fr,R,y1,y2,y3,y4,y5,y6,y7,y8⟩:=x2;exact⟨W.gr,f.trans W,Fr,R,y4,y1,y2,y3,y7,y8,y5,λz G=>(y6 z G).imp (λh=>by have:=f.size;omega) (λh=>(Option.some.inj h).symm)⟩
  refine ζd 13 (λz=>z=xb) (by kernel_rfl) ϱ λd=>δl d bj ϱ (Xd.turn1 d rfl λw8 bk=>Xp.loadb Xb d rfl (bk.heap' ax) rfl rfl ?_);have c7:=λw' (f:Xc Xe w8 w')=>ck w' (bk.trans f);refine Xd.callQ d rfl rfl (c7) ?_;rintro _ w9 du ⟨bl,Fr,R,rfl,bm,bn,co,cq,cr,cs,bo⟩;refine Xd.adv Xb d rfl (Xd.turn1 d rfl λdv a7=>Xp.store Xb d rfl ((bl.trans a7).heap' ax) (by first|(intro h;exact rfl)|(intro h;omega)) rfl rfl rfl λct H x dd=>δn d ϱ λO n=>?_);replace H:ct.heap[xb]?=some (.cells (N6 c p g cap mb tm vb (.pointer (some ⟨A.ab,0,none⟩)) (B9 R) (.pointer none)).toArray 90 (0,0)):=H;have bp:¬Fr xb:=λG=>(bo xb G).elim (by omega) (by omega);have m:=bl.trans a7;have b9:=u.trans m;have ae:Xc Xe w O:=(b9.since x (λz G e=>by omega)).trans n;have bq:Ys w R.c R.p:=by rw[bm,bn];exact hc
  have ay:Zm Fr O R (Hp c 0):=((cs.grow a7).apart bq ht (m.heap' ax) (by omega) bp (by decide) x).grow n;have c8:=((bi.grow m).note x (by omega) (by omega) (by omega) (by omega)).grow n;have az:=((ad.grow m).chg x (λb' N e=>by
   rcases N with h|h|h|h
   ·omega
   ·omega
   ·omega
   ·rw[K] at h;have:=Option.some.inj h;omega)).grow n
  have y:=n.heap' H;have c9:=n.heap' (x.heap (m.heap' bj) bg);have cu:((Xz (c.pages*c.size).toNat).length:Int)=c.size*c.pages:=by
   rw[Dl,YG];exact Y2 (ZJ (by have:=C.size;omega) (by have:=C.pages;omega))
  have cv:∀w',Xc Xe O w'->Xf prog 72 #[.agg (Zj c p).toArray,.pointer (some ⟨A.ab,0,none⟩),.pointer (some ⟨mb,0,none⟩)] w' (λv j=>Xc (λz=>z=xb) w' j/\Xc Xe O j/\∃vw,v=.tuple #[.pointer (some ⟨vw,0,none⟩),.int .i64 0]/\O.heap.size<=vw/\Bj j ⟨vw,c,p,A.ab,some mb⟩):=λw' f=>by
   have br:=Xm7 c p A ⟨Xz (c.pages*c.size).toNat,0,0⟩ w' (hc.chg (ae.trans f)) (az.grow f);rw[K] at br;refine br.mono λv j ⟨W,x2⟩=>?_;rw[if_pos ⟨hm,cu⟩] at x2;obtain⟨vw,y1,y2,y3⟩:=x2;exact⟨W.gr,f.trans W,vw,y1,by have:=f.size;omega,y3⟩
  refine ζd 17 (λz=>z=xb) (by kernel_rfl) ϱ λd=>δl d c9 ϱ ?_;refine Xd.turn2 d rfl ?_ ?_
  all_goals
   intro dw a8;refine Xp.loadb Xb d rfl (a8.heap' y) rfl rfl (Xd.turn1 d rfl λcw b0=>Xp.loadb Xb d rfl ((a8.trans b0).heap' y) rfl rfl ?_);have ca:=λw' (f:Xc Xe cw w')=>cv w' ((a8.trans b0).trans f);refine Xd.callQ d rfl rfl (ca) ?_;rintro _ dx de ⟨b2,vw,rfl,dy,hV⟩;refine Xd.adv Xb d rfl (Xd.turn1 d rfl λdz a9=>Xp.store Xb d rfl ((b2.trans a9).heap' y) (by first|(intro h;exact rfl)|(intro h;omega)) rfl rfl rfl λe0 ba B dg=>δn d ϱ λb3 o=>?_);have k:=b2.trans a9;have cb:=o.heap' ba;have e4:=Xg y;have I:Xc Xe w b3:=((ae.trans k).since B (λz G e=>by omega)).trans o;have cc:Zm Fr b3 R (Hp c 0):=((ay.grow k).apart bq ht (k.heap' y) (by omega) bp (by decide) B).grow o;have cd:=((c8.grow k).note B (by omega) (by omega) (by omega) (by omega)).grow o;have ce:=((az.grow k).chg B (λb' N e=>by
    rcases N with h|h|h|h
    ·omega
    ·omega
    ·omega
    ·rw[K] at h;have:=Option.some.inj h;omega)).grow o
   have cf:Bj b3 ⟨vw,c,p,A.ab,some mb⟩:=⟨o.heap' (B.heap (a9.heap' hV.obj) (by simp only;omega)),hc.chg I,hm⟩;have cx:¬Fr vw:=λG=>by have:=ay.low vw G;omega
   obtain⟨F,cy,S,mo,eS,hS,cz,d0,d1⟩:=Xmv (w7:=w7) hc ht I hm cb cd ce K cc bm bn co cq cr cf bo cx u.size (by omega) (by omega) (by omega) (by omega) (by omega) (by omega) (by omega);exact ζr func28 ϱ ⟨F,cy,S,mo,by rw[eS],hS,cz,d0,d1,I⟩
structure Vl(n:Nat)(S:Sto):Prop where
 ab:S.A.ab<n
 mc:S.A.mc<n
 vb:S.v.vb<n
 rb:S.R.rb<n
 sb:S.R.sb<n
 tab:0<n
 ca:∀b off s,S.p.ca=some ⟨b,off,s⟩->b<n
 ka:∀b off s,S.p.ka=some ⟨b,off,s⟩->b<n
section
variable {F Fr:Nat->Prop}{w w':World}{S:Sto}{s:StM}{by':Int}{mo:Mo}
theorem Xr.fixed(h:Xr F Fr w S s by' mo):Vl w.heap.size S:=by
 have a:=h.room;have c:=Yp a.may;have d:=h.rc;rw[d] at c;exact⟨Xg h.ar.obj,Xg h.ar.cap,Xg h.vw.obj,Xg a.obj,World.block_lt_of_cell? w _ (a.sl 0 (by have:=c.n;have:=a.ok.n;rw[d] at this;omega)),World.block_lt_of_cell? w _ (a.tab 0 (by decide)),
  λb off s e=>h.ca.1.block (by have:=c.n;omega) e,λb off s e=>h.ka.1.block (by have:=c.keep;have:=c.n;omega) e⟩
theorem Xr.one(h:Xr F Fr w S s by' mo)(he:Xcz F w S b)(hc:Xc (λz=>z=b) w w'):Xr F Fr w' S s by' mo:=by
 refine h.other hc (λz e=>e▸he) ?_;obtain⟨t,g,i⟩:=he.kd;intro al d k sz q c;obtain⟨x,j,y,l,m⟩:=h.th;have:=j.uniq d;subst this;by_cases a:∀(o:Nat) t,s.th[o]?=some (some t)->(o:Int)≠k
 ·rw[m k a] at c;cases c
 ·simp only[Classical.not_forall,Decidable.not_not] at a;obtain⟨o,n,p,r⟩:=a;obtain⟨A,_,f,_,_,u⟩:=l o n p;rw[r,c] at f;rw[(XgM (Option.some.inj f))];intro b' off s' e' v;have:=u b' off s' e';rw[v,g] at this;exact i.2.2 (Option.some.inj (Option.some.inj this))
theorem Xr.boxed(h:Xr F Fr w S s by' mo)(hf:Vl n S)(hb:n<=b)(hF:¬F b)(hk:kd w b=some (some t))(ht:t≠290/\t≠286/\t≠3)(hc:Xc (λz=>z=b) w w'):Xr F Fr w' S s by' mo:=by
 obtain⟨f1,f2,d,f,g,i,a,c⟩:=hf;exact h.one ⟨hF,⟨by omega,by omega,by omega,by omega,by omega,by omega⟩,λoff s e=>by have:=a _ _ _ e;omega,λoff s e=>by have:=c _ _ _ e;omega,t,hk,ht⟩ hc
theorem Xr.old(h:Xr F Fr w S s by' mo){l:List Value}(hb:w.heap[b]?=some (.cells (v::l).toArray t fz))(hF:¬F b)(ht:(t≠290/\t≠286/\t≠3)/\t≠182/\t≠83/\t≠188/\t≠166)(hv:∀x,v≠Ci x)(htab:0≠b)(hca:∀off s,S.p.ca≠some ⟨b,off,s⟩)(hka:∀off s,S.p.ka≠some ⟨b,off,s⟩)(hc:Xc (λz=>z=b) w w'):Xr F Fr w' S s by' mo:=by
 have c:=h.room;have d:=Yk hb;have ne:∀{a t':Nat},kd w a=some (some t')->t≠t'->a≠b:=λi g=>Xs i d (λe=>g (Option.some.inj (Option.some.inj e)).symm);have f:=c.sl 0 (by have:=(Yp c.may).n;have:=c.ok.n;omega);refine h.one ⟨hF,⟨ne (Yk h.ar.obj) ht.2.1,ne (Yk h.ar.cap) ht.2.2.1,ne (Yk h.vw.obj) ht.2.2.2.1,ne (Yk c.obj) ht.2.2.2.2,λe=>?_,htab⟩,hca,hka,t,d,ht.1⟩ hc;rw[e,Yt hb] at f;exact hv _ (Option.some.inj f)
end
structure Lv(c:Conf)(n0:Nat)(w0 w:World)(F:Nat->Prop)(S:Sto)(s:StM):Prop where
 ok:∃Fr mo,Xr F Fr w S s (Z8 s) mo
 inv:s.Ok c
 sc:S.c=c
 fx:Vl n0 S
 base:∀z,F z->w0.heap.size<=z
 chg:Xc Xe w0 w
def Fe(c:Conf)(n0:Nat)(w0 w:World)(F:Nat->Prop)(S:Sto)(s:StM)(w':World):Prop:=∃F',Lv c n0 w0 w' F' S s/\(∀z,F' z->F z\/w.heap.size<=z)/\Xc F w w'
section
variable {c:Conf}{n0:Nat}{w0 w w':World}{F:Nat->Prop}{S:Sto}{s s':StM}
theorem Lv.low(h:Lv c n0 w0 w F S s):∀z,F z->z<w.heap.size:=by obtain⟨_,_,a⟩:=h.ok;exact a.low
theorem Lv.grow(h:Lv c n0 w0 w F S s)(hc:Xc Xe w w'):Lv c n0 w0 w' F S s:=by
 obtain⟨Fr,mo,a⟩:=h.ok;exact {h with ok:=⟨Fr,mo,a.grow hc⟩,chg:=h.chg.trans hc}
theorem Lv.box(h:Lv c n0 w0 w F S s)(hb:n0<=b)(hF:¬F b)(hk:kd w b=some (some t))(ht:t≠290/\t≠286/\t≠3)(hc:Xc (λz=>z=b) w w')(h0:w0.heap.size<=b):Lv c n0 w0 w' F S s:=by
 obtain⟨Fr,mo,a⟩:=h.ok;exact {h with ok:=⟨Fr,mo,a.boxed h.fx hb hF hk ht hc⟩,chg:=h.chg.since hc (λz d e=>by omega)}
theorem Lv.to(h:Lv c n0 w0 w F S s)(ht:Dx F w w' S s' (Z8 s'))(hi:s'.Ok c):Fe c n0 w0 w F S s' w':=by
 obtain⟨F',Fr',mo',f,a,b⟩:=ht;have i:=h.chg.size;exact⟨F',⟨⟨Fr',mo',f⟩,hi,h.sc,h.fx,λz d=>(a z d).elim (h.base z) (λg=>by omega),h.chg.since b (λz d e=>by have:=h.base z e;omega)⟩,a,b⟩
theorem Lv.self(h:Lv c n0 w0 w F S s)(hc:Xc Xe w w'):Fe c n0 w0 w F S s w':=⟨F,h.grow hc,λ_ h=>.inl h,hc.gr⟩
end
end Go.Proofs.YtohjeeapehmkcaaGreatDoor
