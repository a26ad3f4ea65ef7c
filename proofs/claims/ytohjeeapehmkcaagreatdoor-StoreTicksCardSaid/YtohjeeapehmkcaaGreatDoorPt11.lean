/-
  Texts put together: Lgo, Cnt22, Tgt22, Tck22, Kp22, Laws22k.
-/
import Derived.Test.YtohjeeapehmkcaaGreatDoorPt10
import Derived.Test.YtohjeeapehmkcaaGreatDoorQRule25
set_option linter.unusedVariables false
set_option maxRecDepth 100000
namespace Go.Proofs.YtohjeeapehmkcaaGreatDoor
open Go.RowKit
open Bool renaming and_eq_true->XJ
open Int renaming toNat_natCast->XA,eq_ofNat_of_zero_le->XE,toNat_of_nonneg->YH,le_refl->YI
open List renaming getElem?_eq_getElem->XB,getD_eq_getElem?_getD->XC,getElem?_set_self->XF,map_append->XI,getElem_mem->XL,getElem?_set_ne->XM,length_cons->XP,getElem?_eq_none->XV,filter_cons->ZA,mem_cons_of_mem->ZB,map_cons->ZC,mem_singleton->ZM,mem_cons_self->ZN,map_congr_left->ZQ,length_range->ZR,sum_cons->YK,range_succ->YT,length_tail->YX
open Nat renaming le_refl->XD,zero_le->XK,zero_add->XQ,le_trans->ZE,mul_one->ZJ,mul_le_mul_right->YE,add_mul->QG
open Go.Proofs.Tryz (func26 func6 ntmps26 ntmps6 prog)
variable {A:Ar}{V:ArV}{c:Conf}{l':IL}{ahead by' size u who:Int}{lg:List (Nat×List Nat)}{th:List (Option ThM)}{ps:List IL}{bs l p zs:List Int}{l2 ws:List Nat}{cs rest xs:List Value}{mo:Mo}{m:MvM}{N at' b base cap fuel g i j k len lm lo n n0 o off st sz t tm vb xb y z:Nat}{e:Nat×List Int}{fz:Nat×Nat}{f:Nat->Int}{G:Nat->Pg}{B C F F' Fr S S' T:Nat->Prop}{pd pd2:Option (Nat×PlcM)}{a:Option Addr}{pg:PgL}{P:Pl}{pl':PlM}{q:Plc}{R:Rm}{M:RmM}{r r1:SR}{x x':Sm}{s s':StM}{α:Type}{v:Value}{w w' w0 w1 w2:World}
def Zp(s:StM)(pd:Option (Nat×PlcM)):Prop:=∀e∈s.rm.lg,(∃(o:Nat),∃t,s.th[o]?=some (some t)/\t.q.cls=-1/\t.q.page=(e.1:Nat))\/∃o q,pd=some (o,q)/\q.cls=-1/\q.page=(e.1:Nat)
section
variable {c:Conf}{s s':StM}{pd:Option (Nat×PlcM)}
theorem Zp.of(h:Zp s pd)(e1:s'.rm.lg=s.rm.lg)(e2:s'.th=s.th):Zp s' pd:=λe a=>by
 rw[e2];exact h e (e1▸a)
theorem Zp.begin(h:Zp s pd)(k:Nat):Zp (X7 c s k) pd:=by
 unfold X7;split
 ·exact h.of (R2 ..) rfl
 ·exact h
theorem Zp.go(h:Zp s none)(hs:s.Ok c)(k:Nat)(n:Int):Zp (Zo s k n) none:=by
 unfold Zo;cases l:Xo s (k:Nat) with
 |none=>exact h
 |some m=>
  obtain⟨j,ej,r,f⟩:=Qt l;obtain⟨⟨o,t,e1,e2,e3⟩,_⟩:=hs.mv j m f;simp only
  split
  ·exact h.of rfl rfl
  ·intro e i;rw[R1] at i;rcases h e i with⟨b,p,d,a,q⟩|⟨_,_,g,_⟩
   ·refine .inl ⟨b,p,?_,a,q⟩;show(s.th.set m.who.toNat _)[b]?=_
    rw[XM]
    ·exact d
    ·intro e4;have:b=o:=by omega
     subst this;rw[e2] at d;cases d
     rw[e3] at a;have a:((j:Nat):Int)=-1:=a;omega
   ·cases g
theorem Zp.finish(h:Zp s none)(hs:s.Ok c)(κ:Int):Zp (Zi s κ) none:=by
 unfold Zi;split
 ·exact h
 ·exact h.go hs _ _
theorem Zp.dropped{q:PlcM}(h:Zp s (some (o,q)))(hs:s.OkP c (some (o,q))):Zp {s with rm:=Ym s.rm q} none:=by
 intro e a;by_cases b:q.cls=-1
 ·obtain⟨n,r,k,f,t⟩:=hs.pl o q rfl b;rw[f,XfG hs.rm.ok k] at a;replace a:e∈Co s.rm.lg n:=a;unfold Co at a;obtain⟨l,i⟩:=List.mem_filter.1 a;rcases h e l with g|⟨m,p,g,j,d⟩
  ·exact .inl g
  ·cases g
   rw[f] at d;simp only[bne_iff_ne,ne_eq] at i;exact absurd (Int.ofNat_inj.1 d).symm i
 ·replace a:e∈(Ym s.rm q).lg:=a;rw[Um b,R1] at a;rcases h e a with g|⟨m,p,g,j,d⟩
  ·exact .inl g
  ·cases g
   exact absurd j b
theorem Zp.clear{q:PlcM}(h:Zp s (some (o,q)))(hs:s.OkP c (some (o,q))):Zp (A4 c s q) none:=by
 unfold A4;split
 ·exact h.dropped hs
 ·exact((h.dropped hs).begin _).go (StM.OkP.begin hs.dropped _) _ _
theorem Zp.away(h:Zp s none){t:ThM}(ht:s.th[o]?=some (some t)):Zp {s with th:=s.th.set o none} (some (o,t.q)):=by
 intro e f;rcases h e f with⟨a,i,b,c,d⟩|⟨_,_,g,_⟩
 ·by_cases e1:o=a
  ·subst e1;rw[ht] at b;cases b
   exact .inr ⟨o,t.q,rfl,c,d⟩
  ·exact .inl ⟨a,i,by show(s.th.set o none)[a]?=_;rw[XM e1];exact b,c,d⟩
 ·cases g
theorem Zp.lay(h:Zp s pd)(ho:s.th[o]?=some none):Zp (Yw c s (o:Nat) size) pd:=by
 have old:∀e∈s.rm.lg,(∃(b:Nat),∃t,(Yw c s (o:Nat) size).th[b]?=some (some t)/\t.q.cls=-1/\t.q.page=(e.1:Nat))\/∃b q,pd=some (b,q)/\q.cls=-1/\q.page=(e.1:Nat):=λe a=>by
  rcases h e a with⟨b,l,f,n,p⟩|g
  ·refine .inl ⟨b,l,?_,n,p⟩;show(s.th.set (o:Int).toNat _)[b]?=_
   rw[XA,XM]
   ·exact f
   ·intro e1;subst e1;rw[ho] at f;cases f
  ·exact .inr g
 intro e a;replace a:e∈(Zg c s (o:Nat) size).rm.lg:=a;cases d:Cd c s size with
 |some m=>
  unfold Zg at a;rw[d] at a;replace a:e∈(Qe s.rm (Xk c.classes size) m.pt m.ta o).lg:=a;rw[XbD] at a;exact old e a
 |none=>
  have i:Zd c s (o:Nat) size=A2 c s.rm (o:Nat) size:=by unfold Zd;rw[d]
  unfold Zg at a;rw[d] at a;replace a:e∈(Aa c s.rm (o:Nat) size).lg:=a;unfold Aa at a;rw[if_neg (by omega)] at a;split at a
  ·exact old e a
  ·rename_i j
   split at a
   ·rename_i k
    rcases List.mem_append.1 a with g|g
    ·exact old e g
    ·rw[ZM] at g;refine .inl ⟨o,⟨size,Zd c s (o:Nat) size⟩,?_,?_,?_⟩
     ·show(s.th.set (o:Int).toNat _)[o]?=_
      rw[XA,XF ((List.getElem?_eq_some_iff.1 ho).1)]
     ·show(Zd c s (o:Nat) size).cls=-1
      rw[i];unfold A2;rw[if_neg (by omega),if_neg j,if_pos k]
     ·show(Zd c s (o:Nat) size).page=_
      rw[i,g];unfold A2;rw[if_neg (by omega),if_neg j,if_pos k]
   ·rw[R2] at a;exact old e a
theorem Zp.wrote(h:Zp s pd)(o:Int)(i n:Nat):Zp (Q0 s o i n) pd:=by
 unfold Q0;split
 ·split
  ·exact h.of rfl rfl
  ·exact h
 ·exact h
theorem Zp.sized(h:Zp s pd){t:ThM}(ht:s.th[o]?=some (some t))(size:Int):Zp (Dk s (o:Nat) ⟨size,t.q⟩) pd:=by
 intro e f;rcases h e f with⟨a,i,b,c,d⟩|g
 ·by_cases e1:o=a
  ·subst e1;rw[ht] at b;cases b
   refine .inl ⟨o,⟨size,t.q⟩,?_,c,d⟩;show(s.th.set (o:Int).toNat _)[o]?=_
   rw[XA,XF (List.getElem?_eq_some_iff.1 ht).1]
  ·refine .inl ⟨a,i,?_,c,d⟩;show(s.th.set (o:Int).toNat _)[a]?=_
   rw[XA,XM e1];exact b
 ·exact .inr g
theorem Zp.alloc(h:Zp s none)(o size:Int):Zp (Ah c s o size) none:=by
 unfold Ah;split
 ·rename_i a
  obtain⟨j,rfl,_,b,_⟩:=Sn a;exact h.lay b
 ·exact h
theorem Zp.free(h:Zp s none)(hs:s.Ok c)(o:Int):Zp (B9 c s o) none:=by
 unfold B9;split
 ·exact h
 ·rename_i d
  obtain⟨j,t,rfl,b⟩:=Ig (Decidable.not_not.1 d);rw[Y8 b,XA];obtain⟨t',a,_,_,_,e⟩:=Lp hs b;rw[Y8 a];exact((h.finish hs _).away a).clear ((hs.finish t.q.cls).away a e)
theorem Zp.moveTo(h:Zp s none)(hs:s.Ok c){t:ThM}(ht:s.th[o]?=some (some t))(hst:Ap c t.size size=false)(hf:Qx c s size=0):Zp (Hw c s o size) none:=by
 obtain⟨t',M⟩:=N6 hs ht hst hf;unfold Hw;simp only
 rw[Y8 ht,Y8 M.th1,Ds ht];have b:Zp (Y6 {Zi s t.q.cls with th:=(Zi s t.q.cls).th.set o none} (X8 c t'.q.plc 0 (min t.size size).toNat)) (some (o,t'.q)):=((h.finish hs t.q.cls).away M.th1).of rfl rfl;have a:=b.lay (c:=c) (o:=o) (size:=size) (by show((Zi s t.q.cls).th.set o none)[o]?=_;rw[XF ((List.getElem?_eq_some_iff.1 M.th1).1)]);have e:Y6 {Zi s t.q.cls with th:=(Zi s t.q.cls).th.set o none} (X8 c t'.q.plc 0 (min t.size size).toNat)={Y6 (Zi s t.q.cls) (X8 c t'.q.plc 0 (min t.size size).toNat) with th:=(Y6 (Zi s t.q.cls) (X8 c t'.q.plc 0 (min t.size size).toNat)).th.set o none}:=rfl;rw[e,Xee] at a;exact Zp.clear (a.of rfl rfl) (M.ok2.put _ _ (Ms M.ok1.bi _ _))
theorem Zp.resize(h:Zp s none)(hs:s.Ok c)(o size:Int):Zp (Ao c s o size) none:=by
 unfold Ao;split
 ·exact h
 ·rename_i d
  obtain⟨j,t,rfl,b,f,e⟩:=Uj (Decidable.not_not.1 d);rw[Ds b,Y8 b];split
  ·split
   ·exact((show Zp (Ya c s t.q size.toNat (Xz (t.size-size).toNat)) none from h.of rfl rfl).sized (o:=j) (t:=t) b size).wrote _ _ _
   ·exact h.sized b size
  ·rename_i a
   have a:Ap c t.size size=false:=by simpa using a
   exact h.moveTo hs b a (e.resolve_left (by rw[a];decide)).2
theorem Zp.read(h:Zp s none)(o i n:Int):Zp (Ca c s o i n) none:=by
 unfold Ca;split
 ·exact h.of rfl rfl
 ·exact h
theorem Zp.write(h:Zp s none)(o i:Int)(l:List Int):Zp (Cw c s o i l) none:=by
 unfold Cw;split
 ·exact(show Zp (Ya c s (Yz s o) i.toNat l) none from h.of rfl rfl).wrote _ _ _
 ·exact h
theorem Zp.tickK(h:Zp s none)(hs:s.Ok c)(n:Int)(k:Nat):Zp (tickK c (s,n) k).1 none:=by
 unfold Go.Proofs.YtohjeeapehmkcaaGreatDoor.tickK;split
 ·exact h
 ·split
  ·exact h.begin k
  ·exact(h.begin k).go (StM.OkP.begin hs k) k _
theorem Zp.tickTo(h:Zp s none)(hs:s.Ok c):∀n,Zp (tickTo c s n).1 none
 |0=>h
 |n+1=>by rw[G5];exact Zp.tickK (Zp.tickTo h hs n) (hs.tickTo n) _ _
theorem Zp.tick(h:Zp s none)(hs:s.Ok c):Zp (Ab c s) none:=h.tickTo hs _
theorem Zp.set(h:Zp s none)(k keep:Int):Zp (Dj s k keep) none:=by
 unfold Dj;split
 ·exact h.of rfl rfl
 ·exact h
end
section
variable {c:Conf}{s:StM}
end
section
variable {c:Conf}{s:StM}
end
def Et(s:StM):Prop:=∀k:Nat,Xo s (k:Nat)=none
theorem Et.all{s:StM}(h:Et s)(κ:Int):Xo s κ=none:=by
 by_cases a:0<=κ
 ·obtain⟨k,rfl⟩:=XE a;exact h k
 ·unfold Xo;rw[if_neg a]
theorem Et.of{s:StM}(h:Et s)(e:s'.mv=s.mv):Et s':=λk=>by
 have:=h k;unfold Xo at this⊢;rw[e];exact this
section
variable {c:Conf}{s:StM}{pd:Option (Nat×PlcM)}
theorem Et.clear{q:PlcM}(h:Et s)(hs:s.OkP c (some (o,q)))(hst:∀k:Nat,Zj c (k:Nat)<=c.step):Et (A4 c s q):=by
 unfold A4;split
 ·exact h.of rfl
 ·have b:=StM.OkP.begin hs.dropped q.cls.toNat;have e:∀i:Int,i≠q.cls.toNat->Xo (X7 c {s with rm:=Ym s.rm q} q.cls.toNat) i=none:=λi hi=>by
   unfold X7;split
   ·exact(Kc (s:=s) rfl hi).trans (h.all i)
   ·exact h.all i
  intro i;by_cases f:i=q.cls.toNat
  ·rw[f];cases d:Xo (X7 c {s with rm:=Ym s.rm q} q.cls.toNat) (q.cls.toNat:Nat) with
   |none=>
    unfold Zo;rw[d];exact d
   |some m=>
    obtain⟨j,ej,_,a⟩:=Qt d;have ej:q.cls.toNat=j:=by omega
    rw[ej] at a d b⊢;refine XdZ b a ?_;have g:=(b.mv j m a).2.2.2.2.2.1;have:=hst j;omega
  ·rw[(Xd0 b q.cls.toNat c.step).2.2 _ (by omega)];exact e _ (by omega)
theorem Et.lay(h:Et s)(o:Nat)(size:Int):Et (Yw c s (o:Nat) size):=by
 have e:Cd c s size=none:=by unfold Cd;rw[h.all]
 refine h.of ?_;show(Zg c s (o:Nat) size).mv=s.mv
 unfold Zg;rw[e]
theorem Et.wrote(h:Et s)(o:Int)(i n:Nat):Q0 s o i n=s:=by
 unfold Q0;rw[h.all]
theorem Et.tick(h:Et s)(ho:OI s):∀n,(tickTo c s n).1=s
 |0=>rfl
 |n+1=>by
  have ih:=Et.tick h ho n;rw[G5];unfold tickK;rw[ih,ho.begin];split
  ·exact ih
  ·rw[h n]
end
def sL(f:Nat->Nat)(l:List Nat):Nat:=(l.map f).sum
theorem Jh(f:Nat->Nat)(a:Nat)(l:List Nat):sL f (a::l)=f a+sL f l:=by unfold sL;rw[ZC,YK]
theorem Us{f g:Nat->Nat}:∀{l:List Nat},(∀n∈l,f n<=g n)->sL f l<=sL g l
 |[],_=>XD _
 |a::r,h=>by
  rw[Jh,Jh];have:=Us (l:=r) λn b=>h n (ZB _ b);have:=h a ZN;omega
theorem XbH{f g:Nat->Nat}{p:Nat}:∀{l:List Nat},(∀n∈l,f n<=g n)->p∈l->f p+1<=g p->sL f l+1<=sL g l
 |a::r,h,hp,c=>by
  rw[Jh,Jh];have d:=h a ZN;have e:=Us (l:=r) λn b=>h n (ZB _ b);rcases List.mem_cons.1 hp with rfl|hp
  ·omega
  ·have:=XbH (l:=r) (λn b=>h n (ZB _ b)) hp c;omega
theorem XlK{f:Nat->Nat}{l l':List Nat}(h:l'.Sublist l):sL f l'<=sL f l:=by
 induction h with
 |slnil=>exact XD _
 |cons a _ ih=>rw[Jh];omega
 |cons_cons a _ ih=>rw[Jh,Jh];omega
theorem Ur{f:Nat->Nat}{b:Nat}:∀{l:List Nat},(∀n∈l,f n<=b)->sL f l<=l.length*b
 |[],_=>by rw[List.length_nil,Nat.zero_mul];exact XD _
 |a::r,h=>by
  rw[Jh,XP,QG,Nat.one_mul];have:=Ur (l:=r) λn c=>h n (ZB _ c);have:=h a ZN;omega
theorem XmS(g:Nat->Bool):∀l:List Nat,(l.filter g).tail.Sublist l.tail
 |[]=>List.Sublist.slnil
 |a::r=>by
  rw[ZA];split
  ·exact List.filter_sublist
  ·exact(List.tail_sublist _).trans List.filter_sublist
def A0(x:Sm)(n:Nat):Nat:=match Za x.pg (n:Nat) with|some p=>Xu p|none=>0
def Kf(x:Sm):Nat:=sL (A0 x) x.opn.tail
theorem XdY{n i:Int}(hok:x.Ok)(m:Nat):A0 (Zv x n i) m<=A0 x m/\(Qo x n i≠-1->n=m->A0 (Zv x n i) m+1<=A0 x m):=by
 unfold Zv;cases a:Za x.pg n with
 |none=>exact⟨XD _,λh=>absurd (by unfold Qo;rw[a]) h⟩
 |some p=>
  obtain⟨k,rfl,d⟩:=En a;simp only
  by_cases b:Qu p i=0
  ·rw[if_pos b,XA];have j:=T5 b;have f:A0 x k=Xu p:=by unfold A0;rw[a]
   unfold Sm.giveAt;simp only
   by_cases g:Xu (Zu p i)=0
   ·rw[if_pos g];by_cases c:m=k
    ·subst c;have e:∀o,A0 {x with pg:=Qb x.pg m,opn:=o} m=0:=λo=>by unfold A0;simp only;rw[XbO,if_pos rfl]
     rw[e,f];exact⟨XK _,λ_ _=>by omega⟩
    ·have e:∀o,A0 {x with pg:=Qb x.pg k,opn:=o} m=A0 x m:=λo=>by unfold A0;simp only;rw[XbO,if_neg (by omega)]
     rw[e];exact⟨XD _,λ_ h=>by omega⟩
   ·rw[if_neg g];by_cases c:m=k
    ·subst c;have e:∀o,A0 {x with pg:=Zk x.pg m (Zu p i),opn:=o} m=Xu (Zu p i):=λo=>by unfold A0;simp only;rw[Mm hok.nodup d,if_pos rfl]
     rw[e,f];exact⟨by omega,λ_ _=>by omega⟩
    ·have e:∀o,A0 {x with pg:=Zk x.pg k (Zu p i),opn:=o} m=A0 x m:=λo=>by unfold A0;simp only;rw[Mm hok.nodup d,if_neg (by omega)]
     rw[e];exact⟨XD _,λ_ h=>by omega⟩
  ·rw[if_neg b];refine⟨XD _,λh _=>absurd (XdT.2 h) ?_⟩;unfold Bi;rw[a];exact b
theorem XiT{i:Int}(hok:x.Ok)(h:n∈x.opn):(Zv x n i).opn=x.opn\/(Zv x n i).opn=x.opn.filter (λm=>m != n):=by
 unfold Zv;cases c:Za x.pg (n:Nat) with
 |none=>exact .inl rfl
 |some p=>
  obtain⟨k,ek,d⟩:=En c;obtain rfl:n=k:=by omega
  simp only
  by_cases a:Qu p i=0
  ·rw[if_pos a,XA];unfold Sm.giveAt;simp only
   rw[if_neg ((hok.each _ d).2.2.1 h)];by_cases b:Xu (Zu p i)=0
   ·rw[if_pos b];exact .inr rfl
   ·rw[if_neg b];exact .inl rfl
  ·rw[if_neg a];exact .inl rfl
theorem XmU{pl:PlM}(hok:x.Ok){h:Nat}{r:List Nat}(ho:x.opn=h::r):((Z7 x pl who).opn=x.opn\/(Z7 x pl who).opn=r)/\∀m:Nat,m≠h->A0 (Z7 x pl who) m=A0 x m:=by
 rcases Jl x pl who with⟨_,e,_⟩|⟨_,_,⟨n,r',a,e,_,e3,_⟩|⟨n,r',a,_⟩⟩
 ·rw[e];exact⟨.inl rfl,λ_ _=>rfl⟩
 ·rw[ho] at a;obtain⟨rfl,rfl⟩:=List.cons.inj a;obtain⟨p,c⟩:=hok.osub h (by rw[ho];simp);have b:=hok.onodup;rw[ho] at b;rw[e];constructor
  ·unfold Sm.takeAt;simp only
   split
   ·refine .inr ?_;rw[ho,ZA,if_neg (by simp)];refine List.filter_eq_self.2 λz d=>?_;simp only[bne_iff_ne,ne_eq];exact λe=>(List.nodup_cons.1 b).1 (e▸d)
   ·exact .inl rfl
  ·intro m f;unfold A0 Sm.takeAt;simp only
   rw[Mm hok.nodup c,if_neg (by omega)]
 ·rw[ho] at a;cases a
theorem Xkp{pl:PlM}(hok:x.Ok)(hpos:x.Pos)(hof:x.Of pl)(hg:pl.Good){h:Nat}{r:List Nat}(ho:x.opn=h::r){pf:Nat}(hpf:pf∈r){fa:Int}(hown:Qo (Z7 x pl who) (pf:Nat) fa≠-1):Kf (Zv (Z7 x pl who) (pf:Nat) fa)+1<=Kf x:=by
 have a:=XgF (who:=who) hok hof hg;obtain⟨f,n⟩:=XmU (pl:=pl) (who:=who) hok ho;have g:=hok.onodup;rw[ho] at g;have t:=(List.nodup_cons.1 g).1;have c:∀m∈r,m≠h:=λm b e=>t (e▸b);have o:pf∈(Z7 x pl who).opn:=by
  rcases f with e|e
  ·rw[e,ho];exact ZB _ hpf
  ·rw[e];exact hpf
 have k:(Zv (Z7 x pl who) (pf:Nat) fa).opn.tail.Sublist (Z7 x pl who).opn.tail:=by
  rcases XiT (i:=fa) a o with e|e
  ·rw[e];exact List.Sublist.refl _
  ·rw[e];exact XmS _ _
 have d:Kf (Zv (Z7 x pl who) (pf:Nat) fa)<=sL (A0 (Zv (Z7 x pl who) (pf:Nat) fa)) (Z7 x pl who).opn.tail:=XlK k;have j:∀m,m≠h->A0 (Zv (Z7 x pl who) (pf:Nat) fa) m<=A0 x m:=λm b=>by rw[<-n m b];exact(XdY a m).1
 have e2:Kf x=sL (A0 x) r:=by unfold Kf;rw[ho];rfl
 rw[e2];rcases f with e|e
 ·rw[e,ho] at d;exact ZE (Nat.succ_le_succ d) (XbH (l:=r) (λm b=>j m (c m b)) hpf (by rw[<-n pf (c pf hpf)];exact(XdY a pf).2 hown rfl))
 ·rw[e] at d;cases r with
  |nil=>cases hpf
  |cons q r'=>
   have u:sL (A0 (Zv (Z7 x pl who) (pf:Nat) fa)) r'<=sL (A0 x) r':=Us λm b=>j m (c m (ZB _ b));have v:1<=A0 x q:=by
    obtain⟨p,s⟩:=hok.osub q (by rw[ho];simp);have:=hpos _ s;unfold A0;rw[A8 hok.nodup s];exact this
   rw[Jh];have w:Kf (Zv (Z7 x pl who) (pf:Nat) fa)<=sL (A0 (Zv (Z7 x pl who) (pf:Nat) fa)) r':=d;omega
theorem XgB(hok:x.Ok):Kf x<=(x.opn.length-1)*x.blocks:=by
 have a:Kf x<=x.opn.tail.length*x.blocks:=Ur λn _=>by
  unfold A0;cases b:Za x.pg (n:Nat) with
  |none=>exact XK _
  |some p=>
   obtain⟨m,_,c⟩:=En b;have:=Oe p;have d:p.length=x.blocks:=(hok.each _ c).2.1;show Xu p<=_
   omega
 rw[YX] at a;exact a
theorem XmT{c:Conf}(_h:Ys c M)(k who:Int){j:Int}(hj:j≠k):X0 (Zx M k who) j=X0 M j:=by
 unfold Zx;cases a:X0 M k with
 |none=>rfl
 |some x=>
  obtain⟨n,rfl,b,d⟩:=Cr a;simp only
  split
  ·rw[XA,show X0 (D2 M n (Z7 x M.pl who) (A3 x M.pl who)) j=X0 (Ct M n (Z7 x M.pl who) (A3 x M.pl who)) j from rfl,Je b,if_neg hj]
  ·rfl
theorem XiS(M:RmM)(k n i:Int){j:Int}(hj:j≠k):X0 (Yo M k n i) j=X0 M j:=by
 unfold Yo;cases a:X0 M k with
 |none=>rfl
 |some x=>
  obtain⟨l,rfl,b,c⟩:=Cr a;simp only
  split
  ·rw[XA,show X0 (D2 M l (Zv x n i) (Ag x M.pl n i)) j=X0 (Ct M l (Zv x n i) (Ag x M.pl n i)) j from rfl,Je b,if_neg hj]
  ·rfl
theorem XiR{c:Conf}(h:Ys c M){n i:Int}(hg:X0 M (k:Nat)=some x):X0 (Yo M (k:Nat) n i) (k:Nat)=some (Zv x n i):=by
 obtain⟨l,el,b,e⟩:=Cr hg;obtain rfl:k=l:=by omega
 unfold Yo;rw[hg];simp only
 split
 ·rw[XA,show X0 (D2 M k (Zv x n i) (Ag x M.pl n i)) (k:Nat)=X0 (Ct M k (Zv x n i) (Ag x M.pl n i)) (k:Nat) from rfl,Je b,if_pos rfl]
 ·rename_i a
  rw[hg]
  congr 1
  unfold Zv;unfold Bi at a;cases d:Za x.pg n with
  |none=>rfl
  |some p=>
   rw[d] at a;simp only at a⊢
   rw[if_neg a]
def Dw(s s':StM)(k:Nat):Prop:=X0 s'.rm (k:Nat)=X0 s.rm (k:Nat)/\Xo s' (k:Nat)=Xo s (k:Nat)
theorem Dw.trans{s s' s'':StM}{k:Nat}(h:Dw s s' k)(h':Dw s' s'' k):Dw s s'' k:=⟨h'.1.trans h.1,h'.2.trans h.2⟩
def mN(s:StM)(k:Nat):Nat:=match X0 s.rm (k:Nat) with|none=>0|some x=>Kf (match Xo s (k:Nat) with|none=>x|some m=>Zv x m.pf m.fa)
def Ae(st z:Nat):Nat:=(z+st-1)/st
def phi(c:Conf)(s:StM)(k:Nat):Nat:=Ae c.step.toNat (Yd s (k:Nat))+mN s k*Ae c.step.toNat (Zj c (k:Nat)).toNat
def Vv(s:StM)(k:Nat):Prop:=Xo s (k:Nat)=none/\Qk s k=false
theorem Dw.left{s:StM}(h:Dw s s' k):Yd s' (k:Nat)=Yd s (k:Nat):=by unfold Yd;rw[h.2]
theorem Dw.opn{s:StM}(h:Dw s s' k):X1 s'.rm (k:Nat)=X1 s.rm (k:Nat):=by unfold X1;rw[h.1]
theorem Dw.phi{c:Conf}{s s':StM}{k:Nat}(h:Dw s s' k):phi c s' k=phi c s k:=by
 unfold Go.Proofs.YtohjeeapehmkcaaGreatDoor.phi mN;rw[h.left,h.1,h.2]
theorem Dw.work{s:StM}(h:Dw s s' k)(hk:s'.keep=s.keep):Qk s' k=Qk s k:=by
 unfold Qk;have e:Dr s'.rm (k:Nat)=Dr s.rm (k:Nat):=by unfold Dr;rw[h.1]
 rw[h.2,h.opn,e,hk]
theorem Xdf(h:1<=st):Ae st 0=0:=Nat.div_eq_of_lt (by omega)
theorem Xag{a:Nat}(h:a<=b):Ae st a<=Ae st b:=Nat.div_le_div_right (by omega)
theorem S6{a:Nat}(h:1<=st)(ha:1<=a):Ae st (a-st)+1<=Ae st a:=by
 unfold Ae;by_cases b:st<=a
 ·have e:a+st-1=(a-st+st-1)+st:=by omega
  rw[e,Nat.add_div_right _ (by omega)];exact XD _
 ·have e:a-st=0:=by omega
  rw[e,XQ,Nat.div_eq_of_lt (by omega)];exact(Nat.one_le_div_iff (by omega)).2 (by omega)
theorem Xim{a:Nat}(h:1<=st)(ha:1<=a):1<=Ae st a:=by have:=S6 h ha;omega
section
variable {c:Conf}{s:StM}
theorem Xh0(h:s.Ok c)(k:Nat)(hj:j≠k):Dw s (X7 c s k) j:=by
 unfold X7;split
 ·exact⟨XmT h.rm _ _ (by omega),Kc rfl (by omega)⟩
 ·exact⟨rfl,rfl⟩
theorem Pr(k:Nat)(n:Int)(hj:j≠k):Dw s (Zo s k n) j:=by
 unfold Zo;split
 ·exact⟨rfl,rfl⟩
 ·split
  ·exact⟨rfl,Kc (s:=s) rfl (by omega)⟩
  ·exact⟨XiS _ _ _ _ (by omega),Kc (s:=s) rfl (by omega)⟩
theorem XhZ(h:s.Ok c)(hB:Qk s k=true):Xo s (k:Nat)=none/\(∃m,Xo (X7 c s k) (k:Nat)=some m)/\Yd (X7 c s k) (k:Nat)=(Zj c (k:Nat)).toNat/\mN (X7 c s k) k+1<=mN s k:=by
 have g:=Pb h hB;have q:=h.begin k;have A:=g.nomv;have B:k<s.mv.length:=by have:=g.kl;have:=h.ml;omega
 obtain⟨ob,tb,ew,_⟩:=g.who;have eS:X7 c s k={s with rm:=Zx s.rm k (ob:Nat),mv:=s.mv.set k (some (Eh c s.rm k))}:=by
  unfold X7;rw[if_pos hB,ew]
 have p:(X7 c s k).mv[k]?=some (some (Eh c s.rm k)):=by
  rw[eS];exact XF B
 have i:=Bq p;have u:=hB;unfold Qk at u;simp only[XJ] at u;have d:=u.2;unfold Dr at d;cases f:X0 s.rm (k:Nat) with
 |none=>rw[f] at d;exact absurd d (by decide)
 |some x=>
  rw[f] at d;have l:=of_decide_eq_true d;obtain⟨j,ej,H,C⟩:=Cr f;obtain rfl:k=j:=by omega
  obtain⟨xo,xf⟩:=h.rm.mok.sh k x C;have I:Qg x s.rm.pl (ob:Nat)=0:=by
   unfold Qg;rw[if_neg (by omega),if_neg (by omega)]
  have eR:X0 (Zx s.rm (k:Nat) (ob:Nat)) (k:Nat)=some (Z7 x s.rm.pl (ob:Nat)):=by
   unfold Zx;rw[f];simp only
   rw[if_pos I,XA,show X0 (D2 s.rm k (Z7 x s.rm.pl (ob:Nat)) (A3 x s.rm.pl (ob:Nat))) (k:Nat)=X0 (Ct s.rm k (Z7 x s.rm.pl (ob:Nat)) (A3 x s.rm.pl (ob:Nat))) (k:Nat) from rfl,Je H,if_pos rfl]
  obtain⟨v,r,w⟩:∃v r,x.opn=v::r:=by
   cases J:x.opn with
   |nil=>rw[J] at l;simp at l
   |cons a b=>exact⟨a,b,rfl⟩
  have D:∃a∈r,(Eh c s.rm k).pf=(a:Nat):=by
   have e1:(Eh c s.rm k).pf=A5 (-1) x.opn:=by
    show(Yc s.rm (k:Nat)).1=_
    unfold Yc;rw[f];simp only
    unfold Jk;rw[if_pos l]
   rw[e1,w];rcases H9 ((v:Nat):Int) r with⟨e,_⟩|⟨a,K,e,_⟩
   ·rw[w,e] at l;simp at l
   ·exact⟨a,K,e⟩
  obtain⟨pf,E,epf⟩:=D;obtain⟨⟨o,t,L,F,G⟩,_⟩:=q.mv k _ p;have y:Qo (Z7 x s.rm.pl (ob:Nat)) (pf:Nat) (Eh c s.rm k).fa≠-1:=by
   have n:=(q.small o t F (Nn q F (by rw[G];show((k:Nat):Int)≠-1;omega))).2.2;rw[G] at n;unfold Zh at n;have z:X0 (X7 c s k).rm (k:Nat)=some (Z7 x s.rm.pl (ob:Nat)):=by rw[eS];exact eR
   rw[z] at n;simp only at n
   rw[<-epf,n];omega
  refine⟨A,⟨_,i⟩,?_,?_⟩
  ·unfold Yd;rw[i];exact Nat.sub_zero _
  ·unfold mN;rw[i,f,A];have z:X0 (X7 c s k).rm (k:Nat)=some (Z7 x s.rm.pl (ob:Nat)):=by rw[eS];exact eR
   rw[z];simp only
   rw[epf];exact(Xkp (who:=(ob:Nat)) xo (h.rm.pos k x C) xf h.rm.mok.good w E y)
theorem Pq(h:s.Ok c)(hm:Xo s (k:Nat)=some m)(n:Int):mN (Zo s k n) k=mN s k/\Yd (Zo s k n) (k:Nat)=Yd s (k:Nat)-Zc m n/\1<=Yd s (k:Nat)/\Yd s (k:Nat)=m.size-m.gone:=by
 obtain⟨j,ej,d,a⟩:=Qt hm;obtain rfl:k=j:=by omega
 have i:=(h.mv k m a).2.2.2.2.2.2;have eL:Yd s (k:Nat)=m.size-m.gone:=by unfold Yd;rw[hm]
 refine⟨?_,?_,by omega,eL⟩
 ·unfold Zo;rw[hm];simp only
  split
  ·have e:Xo {Y9 s m n with mv:=s.mv.set k (some {m with gone:=m.gone+Zc m n})} (k:Nat)=some {m with gone:=m.gone+Zc m n}:=Bq (show(s.mv.set k _)[k]?=_ from XF d);unfold mN;rw[e,hm];rfl
  ·have e:Xo {Y9 s m n with mv:=s.mv.set k none,th:=s.th.set m.who.toNat (some ⟨Qv s m.who,⟨k,m.pt,m.ta,[]⟩⟩),rm:=Yo (Y9 s m n).rm k m.pf m.fa} (k:Nat)=none:=Ov (s:=s) rfl;unfold mN;rw[e,hm];simp only
   have b:k<s.rm.shs.length:=by have:=h.rm.ok.n;have:=h.ml;omega
   have f:X0 (Y9 s m n).rm (k:Nat)=some s.rm.shs[k]:=J4 (M:=(Y9 s m n).rm) b;have g:X0 s.rm (k:Nat)=some s.rm.shs[k]:=J4 b;rw[XiR (StM.OkP.step h a n).rm f,g]
 ·rw[eL];unfold Zo;rw[hm];simp only
  split
  ·have e:Xo {Y9 s m n with mv:=s.mv.set k (some {m with gone:=m.gone+Zc m n})} (k:Nat)=some {m with gone:=m.gone+Zc m n}:=Bq (show(s.mv.set k _)[k]?=_ from XF d);unfold Yd;rw[e];simp only
   omega
  ·have e:Xo {Y9 s m n with mv:=s.mv.set k none,th:=s.th.set m.who.toNat (some ⟨Qv s m.who,⟨k,m.pt,m.ta,[]⟩⟩),rm:=Yo (Y9 s m n).rm k m.pf m.fa} (k:Nat)=none:=Ov (s:=s) rfl;unfold Yd;rw[e];simp only
   omega
structure O7(c:Conf)(s:StM)(b:Int)(k:Nat):Prop where
 same:∀j:Nat,j≠k->Dw s (tickK c (s,b) k).1 j
 keep:(tickK c (s,b) k).1.keep=s.keep
 phi:phi c (tickK c (s,b) k).1 k<=phi c s k
 work:(Vv s k/\tickK c (s,b) k=(s,b))\/(b<1/\tickK c (s,b) k=(s,b))\/(b=c.step->Go.Proofs.YtohjeeapehmkcaaGreatDoor.phi c (tickK c (s,b) k).1 k+1<=Go.Proofs.YtohjeeapehmkcaaGreatDoor.phi c s k)
theorem O7.of{t:StM}{b b':Int}(e:tickK c (s,b) k=(t,b'))(h1:∀j:Nat,j≠k->Dw s t j)(h2:t.keep=s.keep)(h3:Go.Proofs.YtohjeeapehmkcaaGreatDoor.phi c t k<=Go.Proofs.YtohjeeapehmkcaaGreatDoor.phi c s k)(h4:b=c.step->Go.Proofs.YtohjeeapehmkcaaGreatDoor.phi c t k+1<=Go.Proofs.YtohjeeapehmkcaaGreatDoor.phi c s k):O7 c s b k:=⟨by rw[e];exact h1,by rw[e];exact h2,by rw[e];exact h3,.inr (.inr (by rw[e];exact h4))⟩
theorem Xm4(h:s.Ok c)(hst:1<=c.step)(b:Int)(k:Nat):O7 c s b k:=by
 have g:1<=c.step.toNat:=by omega
 by_cases i:b<1
 ·have e:tickK c (s,b) k=(s,b):=by unfold tickK;rw[if_pos i]
  exact⟨λ_ _=>by rw[e];exact⟨rfl,rfl⟩,by rw[e],by rw[e];exact XD _,.inr (.inl ⟨i,e⟩)⟩
 cases r:Qk s k with
 |false=>
  have eB:X7 c s k=s:=by unfold X7;rw[r];rfl
  cases p:Xo s (k:Nat) with
  |none=>
   have e:tickK c (s,b) k=(s,b):=by
    unfold tickK;rw[if_neg i];simp only
    rw[eB,p]
   exact⟨λ_ _=>by rw[e];exact⟨rfl,rfl⟩,by rw[e],by rw[e];exact XD _,.inl ⟨⟨p,r⟩,e⟩⟩
  |some m=>
   have e:tickK c (s,b) k=(Zo s k b,b-Zc m b):=by
    unfold tickK;rw[if_neg i];simp only
    rw[eB,p]
   obtain⟨l,n,t,u⟩:=Pq h p b;have o:Zc m b=min b.toNat (Yd s (k:Nat)):=by rw[u];unfold Zc Cx;omega
   have d:phi c (Zo s k b) k<=phi c s k:=by
    unfold phi;rw[l,n];have:=Xag (st:=c.step.toNat) (a:=Yd s (k:Nat)-Zc m b) (b:=Yd s (k:Nat)) (by omega);omega
   refine O7.of e (λj q=>Pr k b q) (Nz s k b).1 d λebs=>?_;unfold phi;rw[l,n];have w:=S6 (st:=c.step.toNat) (a:=Yd s (k:Nat)) g t;have e5:Yd s (k:Nat)-Zc m b=Yd s (k:Nat)-c.step.toNat:=by rw[o,ebs];omega
   rw[e5];omega
 |true=>
  obtain⟨x,⟨m,v⟩,y,z⟩:=XhZ h r;have e:tickK c (s,b) k=(Zo (X7 c s k) k b,b-Zc m b):=by
   unfold tickK;rw[if_neg i];simp only
   rw[v]
  obtain⟨l,n,t,u⟩:=Pq (h.begin k) v b;have o:Zc m b=min b.toNat (Yd (X7 c s k) (k:Nat)):=by rw[u];unfold Zc Cx;omega
  have f:phi c (X7 c s k) k<=phi c s k:=by
   unfold phi;rw[y];have A:Yd s (k:Nat)=0:=by unfold Yd;rw[x]
   rw[A,Xdf g];have:=YE (Ae c.step.toNat (Zj c (k:Nat)).toNat) z;rw[QG,Nat.one_mul] at this;omega
  have d:phi c (Zo (X7 c s k) k b) k<=phi c (X7 c s k) k:=by
   unfold phi;rw[l,n];have:=Xag (st:=c.step.toNat) (a:=Yd (X7 c s k) (k:Nat)-Zc m b) (b:=Yd (X7 c s k) (k:Nat)) (by omega);omega
  refine O7.of e (λj q=>(Xh0 h k q).trans (Pr k b q)) (((Nz _ k b).1).trans (Kk c s k).2.1) (ZE d f) λebs=>?_;refine ZE (m:=phi c (X7 c s k) k) ?_ f;unfold phi;rw[l,n];have w:=S6 (st:=c.step.toNat) (a:=Yd (X7 c s k) (k:Nat)) g t;have e5:Yd (X7 c s k) (k:Nat)-Zc m b=Yd (X7 c s k) (k:Nat)-c.step.toNat:=by rw[o,ebs];omega
  rw[e5];omega
def sN(f:Nat->Nat)(n:Nat):Nat:=sL f (List.range n)
theorem J5(f:Nat->Nat)(n:Nat):sN f (n+1)=sN f n+f n:=by
 unfold sN sL;rw[YT,XI,List.sum_append_nat,List.map_singleton,List.sum_singleton]
theorem XlL{f g:Nat->Nat}(h:∀k,k<n->f k<=g k):sN f n<=sN g n:=Us λk a=>h k (List.mem_range.1 a)
theorem XlM{f g:Nat->Nat}{p:Nat}(h:∀k,k<n->f k<=g k)(hp:p<n)(hl:f p+1<=g p):sN f n+1<=sN g n:=XbH (λk a=>h k (List.mem_range.1 a)) (List.mem_range.2 hp) hl
def Kh(s:StM):Prop:=∀k:Nat,k<s.mv.length->Vv s k
structure ToF(c:Conf)(s:StM)(n:Nat):Prop where
 same:∀j:Nat,n<=j->Dw s (tickTo c s n).1 j
 keep:(tickTo c s n).1.keep=s.keep
 phi:∀j:Nat,Go.Proofs.YtohjeeapehmkcaaGreatDoor.phi c (tickTo c s n).1 j<=Go.Proofs.YtohjeeapehmkcaaGreatDoor.phi c s j
 work:(tickTo c s n=(s,c.step)/\∀j:Nat,j<n->Vv s j)\/∃j:Nat,j<n/\Go.Proofs.YtohjeeapehmkcaaGreatDoor.phi c (tickTo c s n).1 j+1<=Go.Proofs.YtohjeeapehmkcaaGreatDoor.phi c s j
theorem XgO(h:s.Ok c)(hst:1<=c.step):∀n,ToF c s n
 |0=>⟨λ_ _=>⟨rfl,rfl⟩,rfl,λ_=>XD _,.inl ⟨rfl,λ_ h=>absurd h (by omega)⟩⟩
 |n+1=>by
  obtain⟨i,k,l,m⟩:=XgO h hst n;have T:=Xm4 (h.tickTo n) hst (tickTo c s n).2 n;have e:tickTo c s (n+1)=tickK c ((tickTo c s n).1,(tickTo c s n).2) n:=G5 c s n;have b:∀j:Nat,Go.Proofs.YtohjeeapehmkcaaGreatDoor.phi c (tickTo c s (n+1)).1 j<=Go.Proofs.YtohjeeapehmkcaaGreatDoor.phi c (tickTo c s n).1 j:=λj=>by
   rw[e];by_cases a:j=n
   ·subst a;exact T.phi
   ·exact Nat.le_of_eq (T.same j a).phi
  refine⟨λj a=>?_,?_,λj=>ZE (b j) (l j),?_⟩
  ·rw[e];exact(i j (by omega)).trans (T.same j (by omega))
  ·rw[e];exact T.keep.trans k
  ·rcases m with⟨o,p⟩|⟨j,a,g⟩
   ·rw[o] at T e;simp only at T e
    rcases T.work with⟨d,q⟩|⟨d,_⟩|w
    ·refine .inl ⟨e.trans q,λj a=>?_⟩;by_cases f:j=n
     ·subst f;exact d
     ·exact p j (by omega)
    ·omega
    ·refine .inr ⟨n,by omega,?_⟩;rw[e];exact w rfl
   ·exact .inr ⟨j,by omega,ZE (Nat.succ_le_succ (b j)) g⟩
def Rn(c:Conf)(s:StM):Nat:=sN (phi c s) c.classes.length
theorem XmX(h:s.Ok c)(hst:1<=c.step):(Kh s/\Ab c s=s)\/Rn c (Ab c s)+1<=Rn c s:=by
 have T:=XgO h hst s.mv.length;rcases T.work with⟨a,b⟩|⟨j,d,w⟩
 ·exact .inl ⟨b,by unfold Ab;rw[a]⟩
 ·exact .inr (XlM (λk _=>T.phi k) (by have:=h.ml;omega) w)
def Dt(c:Conf)(s:StM):Nat->StM
 |0=>s
 |n+1=>Ab c (Dt c s n)
theorem Xca(c:Conf)(s:StM):∀n,Dt c s (n+1)=Dt c (Ab c s) n
 |0=>rfl
 |n+1=>by
  show Ab c (Dt c s (n+1))=Ab c (Dt c (Ab c s) n)
  rw[Xca c s n]
theorem Xdx(h:s.Ok c)(hst:1<=c.step)(hd:Kh s):Ab c s=s:=by
 have key:∀n,n<=s.mv.length->tickTo c s n=(s,c.step):=by
  intro n
  induction n with
  |zero=>intro _;rfl
  |succ n ih=>
   intro d;rw[G5,ih (by omega)];obtain⟨a,b⟩:=hd n (by omega);unfold tickK;have eB:X7 c s n=s:=by unfold X7;rw[b];rfl
   rw[if_neg (by simp only;omega),eB,a]
 unfold Ab;rw[key _ (XD _)]
theorem Xas(h:s.Ok c)(hst:1<=c.step)(hd:Kh s):∀n,Dt c s n=s
 |0=>rfl
 |n+1=>by
  show Ab c (Dt c s n)=s
  rw[Xas h hst hd n,Xdx h hst hd]
theorem XgL:∀(n:Nat) {s:StM},s.Ok c->1<=c.step->Rn c s<=n->Kh (Dt c s n)
 |n,s,h,hst,hn=>by
  rcases XmX h hst with⟨w1,w2⟩|w
  ·rw[Xas h hst w1];exact w1
  ·cases n with
   |zero=>omega
   |succ n=>
    rw[Xca];exact XgL n h.tick hst (by omega)
def ND(s:StM):Prop:=∀k:Nat,(X1 s.rm (k:Nat):Int)+(if (Xo s (k:Nat)).isSome then 1 else 0)<=s.keep.getD k 0+1
theorem ND.begin(h:ND s)(k:Nat):X7 c s k=s/\Qk s k=false:=by
 have b:Qk s k=false:=by
  cases a:Qk s k with
  |false=>rfl
  |true=>
   unfold Qk at a;simp only[XJ] at a;have e:=Nr.1 a.1.2;have d:=h k;split at d <;> omega
 exact⟨by unfold X7;rw[b];rfl,b⟩
theorem ND.go(h:ND s)(hs:s.Ok c)(k:Nat)(n:Int):ND (Zo s k n):=by
 intro i;have hi:=h i;rw[(Nz s k n).1];by_cases b:i=k
 ·subst b;cases a:Xo s (i:Nat) with
  |none=>unfold Zo;rw[a];simp only;rw[a] at hi;rw[a];exact hi
  |some m=>
   obtain⟨j,ej,f,d⟩:=Qt a;obtain rfl:i=j:=by omega
   rw[a] at hi;rw[if_pos (by rfl)] at hi;unfold Zo;rw[a];simp only
   split
   ·rw[Bq (show(s.mv.set i (some {m with gone:=m.gone+Zc m n}))[i]?=_ from XF f)];rw[if_pos (by rfl)];exact hi
   ·rw[Ov (s:=s) (k:=i) rfl];rw[if_neg (by simp)];obtain⟨_,g,_⟩:=XaA (StM.OkP.step hs d n).rm (i:Nat) m.pf m.fa;have e:Qd (Y9 s m n).rm (i:Nat)=Qd s.rm (i:Nat):=rfl;rw[e] at g;have l:C1 (Qd s.rm (i:Nat)) m.pf.toNat<=(Qd s.rm (i:Nat)).length+1:=by unfold C1;split <;> omega
    rw[Gu] at l;show(X1 (Yo (Y9 s m n).rm (i:Nat) m.pf m.fa) (i:Nat):Int)+0<=_
    omega
 ·have S:=Pr (s:=s) k n b;rw[S.opn,S.2];exact hi
def A6(s:StM)(n:Nat):Nat:=sN (λk=>Yd s (k:Nat)) n
structure ToN(c:Conf)(s:StM)(n:Nat):Prop where
 same:∀j:Nat,n<=j->Dw s (tickTo c s n).1 j
 nd:ND (tickTo c s n).1
 b:(tickTo c s n).2+((A6 s n:Int)-A6 (tickTo c s n).1 n)=c.step/\0<=(tickTo c s n).2
 none:1<=(tickTo c s n).2->A6 (tickTo c s n).1 n=0
theorem XgP(h:s.Ok c)(hn:ND s)(hst:1<=c.step):∀n,ToN c s n
 |0=>⟨λ_ _=>⟨rfl,rfl⟩,hn,⟨by show c.step+(((0:Nat):Int)-(0:Nat))=c.step;omega,by show 0<=c.step;omega⟩,λ_=>rfl⟩
 |n+1=>by
  obtain⟨d,f,⟨p,q⟩,g⟩:=XgP h hn hst n;have i:=h.tickTo (c:=c) n;have e:tickTo c s (n+1)=tickK c (tickTo c s n) n:=G5 c s n;obtain⟨⟨t,b⟩,et⟩:∃x,x=tickTo c s n:=⟨_,rfl⟩;rw[<-et] at d f p q g i e;simp only at d f p q g i
  have eL:∀x:StM,A6 x (n+1)=A6 x n+Yd x (n:Nat):=λx=>J5 _ n;have eLn:Yd t (n:Nat)=Yd s (n:Nat):=(d n (XD _)).left;obtain⟨r,_⟩:=f.begin (c:=c) n;by_cases o:b<1
  ·have e2:tickTo c s (n+1)=(t,b):=by rw[e];unfold tickK;rw[if_pos o]
   refine⟨λj k=>by rw[e2];exact d j (by omega),by rw[e2];exact f,?_,λa=>by rw[e2] at a;simp only at a;omega⟩;rw[e2,eL,eL];simp only
   omega
  ·cases l:Xo t (n:Nat) with
   |none=>
    have e2:tickTo c s (n+1)=(t,b):=by
     rw[e];unfold tickK;rw[if_neg o];simp only
     rw[r,l]
    have v:Yd t (n:Nat)=0:=by unfold Yd;rw[l]
    refine⟨λj k=>by rw[e2];exact d j (by omega),by rw[e2];exact f,?_,λa=>?_⟩
    ·rw[e2,eL,eL];simp only
     omega
    ·rw[e2] at a⊢;simp only at a⊢
     rw[eL,g a,v]
   |some m=>
    have e2:tickTo c s (n+1)=(Zo t n b,b-Zc m b):=by
     rw[e];unfold tickK;rw[if_neg o];simp only
     rw[r,l]
    obtain⟨_,u,z,w⟩:=Pq i l b;have y:Zc m b=min b.toNat (Yd t (n:Nat)):=by rw[w];unfold Zc Cx;omega
    have eLo:A6 (Zo t n b) n=A6 t n:=by
     unfold A6 sN sL
     congr 1
     refine ZQ λj k=>?_;have:=List.mem_range.1 k;exact(Pr (s:=t) n b (j:=j) (by omega)).left
    refine⟨λj k=>by rw[e2];exact(d j (by omega)).trans (Pr n b (by omega)),by rw[e2];exact f.go i n b,?_,λa=>?_⟩
    ·rw[e2,eL,eL];simp only
     rw[eLo,u];omega
    ·rw[e2] at a⊢;simp only at a⊢
     rw[eL,eLo,g (by omega),u];omega
theorem XaJ(h:s.Ok c):Yd s (k:Nat)=0↔Xo s (k:Nat)=none:=by
 cases a:Xo s (k:Nat) with
 |none=>exact⟨λ_=>rfl,λ_=>by unfold Yd;rw[a]⟩
 |some m=>
  refine⟨λb=>?_,λb=>by cases b⟩;have:=(Pq h a 0).2.2.1;omega
theorem XfP{f:Nat->Nat}:∀{l:List Nat},sL f l=0 -> ∀n∈l,f n=0
 |a::r,h,n,hn=>by
  rw[Jh] at h;rcases List.mem_cons.1 hn with rfl|hn
  ·omega
  ·exact XfP (l:=r) (by omega) n hn
theorem XjR(h:s.Ok c)(hn:ND s)(h0:A6 s s.mv.length=0):Kh s:=λk a=>⟨(XaJ h).1 (XfP h0 k (List.mem_range.2 a)),(hn.begin (c:=c) k).2⟩
theorem XgN:∀(n:Nat) {s:StM},s.Ok c->1<=c.step->ND s->Ae c.step.toNat (A6 s c.classes.length)<=n->Kh (Dt c s n)
 |n,s,h,b,d,m=>by
  by_cases f:A6 s s.mv.length=0
  ·have g:=XjR h d f;rw[Xas h b g];exact g
  ·have T:=XgP h d b s.mv.length;rw[h.ml] at T f;have o:=S6 (st:=c.step.toNat) (a:=A6 s c.classes.length) (by omega) (by omega);have e:(tickTo c s c.classes.length).1=Ab c s:=by unfold Ab;rw[h.ml]
   have k:A6 (Ab c s) c.classes.length<=A6 s c.classes.length-c.step.toNat:=by
    have l:=T.b;have i:=T.none;rw[e] at l i;by_cases j:1<=(tickTo c s c.classes.length).2
    ·rw[i j];omega
    ·omega
   have p:=Xag (st:=c.step.toNat) k;cases n with
   |zero=>omega
   |succ n=>
    rw[Xca];exact XgN n h.tick b (e▸T.nd) (by omega)
theorem Xiy(h:s.Ok c)(hd:Kh s)(hk:k<c.classes.length):(X1 s.rm (k:Nat):Int)<=s.keep.getD k 0+1/\Yd s (k:Nat)=0:=by
 obtain⟨b,f⟩:=hd k (by have:=h.ml;omega);refine⟨?_,(XaJ h).2 b⟩;by_cases d:s.keep.getD k 0+1<(X1 s.rm (k:Nat):Int)
 ·refine absurd ?_ (Bool.eq_false_iff.1 f);unfold Qk;rw[b,Nr.2 d];have a:2<=X1 s.rm (k:Nat):=by have:=Px h k;omega
  show(true && true && Dr s.rm (k:Nat))=true
  unfold Dr;unfold X1 at a;cases e:X0 s.rm (k:Nat) with
  |none=>rw[e] at a;simp at a
  |some x=>rw[e] at a;exact decide_eq_true a
 ·omega
def Gd(c:Conf)(s:StM)(k:Nat):Nat:=(X1 s.rm (k:Nat)+1)*(Qn c (k:Nat)).toNat*Ae c.step.toNat (Zj c (k:Nat)).toNat
theorem Xde{st:Nat}(h:1<=st)(f g:Nat->Nat)(hg:∀k,1<=g k):∀n,sN (λk=>Ae st (f k)) n<=Ae st (sN f n)+sN g n
 |0=>by unfold sN sL;simp
 |n+1=>by
  rw[J5,J5,J5];have ih:=Xde h f g hg n;have:=hg n;have key:∀a b:Nat,Ae st b+Ae st a<=Ae st (b+a)+1:=λa b=>by
   unfold Ae;have e:=Nat.div_mul_le_self (a+st-1) st;have i:=Nat.div_mul_le_self (b+st-1) st;have j:=Nat.lt_div_mul_add (a:=b+a+st-1) (show 0<st by omega);refine Nat.le_of_not_lt λd=>?_;have c:((b+a+st-1)/st+2)*st<=((b+st-1)/st+(a+st-1)/st)*st:=YE _ (by omega);rw[QG,QG] at c;omega
  have:=key (f n) (sN f n);omega
theorem Xkk(h:s.Ok c)(hst:1<=c.step):Rn c s<=Ae c.step.toNat (A6 s c.classes.length)+sN (Gd c s) c.classes.length:=by
 have e:1<=c.step.toNat:=by omega
 have v:∀k,k<c.classes.length->mN s k*Ae c.step.toNat (Zj c (k:Nat)).toNat+1<=Gd c s k:=λk w=>by
  have p:k<s.rm.shs.length:=by have:=h.rm.ok.n;omega
  obtain⟨x,d⟩:∃x,s.rm.shs[k]?=some x:=⟨_,XB p⟩;have a:=(h.rm.mok.sh k x d).1;have D:=a.blk;have A:=(h.rm.ok.each k x d).2;have q:X0 s.rm (k:Nat)=some x:=by unfold X0;rw[if_pos (by omega),XA];exact d
  have B:=(Nl (by have:=h.may;unfold Ze at this;simp only[XJ] at this;exact this.1.1.1.1.1.2) k w).1;have j:1<=(Zj c (k:Nat)).toNat:=by unfold Zj;rw[XA];omega
  have y:=Xim (st:=c.step.toNat) e j;have e1:(Qn c (k:Nat)).toNat=x.blocks:=by omega
  have e2:X1 s.rm (k:Nat)=x.opn.length:=by unfold X1;rw[q]
  have r:mN s k<=x.opn.length*x.blocks:=by
   unfold mN;rw[q];cases C:Xo s (k:Nat) with
   |none=>
    simp only
    exact ZE (XgB a) (YE _ (by omega))
   |some m=>
    simp only
    have l:=XgB (XdW (n:=m.pf) (i:=m.fa) a);have t:=(XfY (n:=m.pf) (i:=m.fa) a).1;have u:C1 x.opn m.pf.toNat<=x.opn.length+1:=by unfold C1;split <;> omega
    have o:=(Tj x s.rm.pl m.pf m.fa a (h.rm.mok.sh k x d).2).2.2.1;rw[o] at l;exact ZE l (YE _ (by omega))
  unfold Gd;rw[e1,e2];obtain⟨U,z⟩:∃U,U=Ae c.step.toNat (Zj c (k:Nat)).toNat:=⟨_,rfl⟩;rw[<-z] at y⊢;have E:=YE U r;have F:1<=x.blocks*U:=Nat.mul_pos (by omega) (by omega);rw[QG,Nat.one_mul,QG];omega
 have l:=Xde (st:=c.step.toNat) e (λk=>Yd s (k:Nat)) (λ_=>1) (λ_=>XD _) c.classes.length;have t:sN (λk=>mN s k*Ae c.step.toNat (Zj c (k:Nat)).toNat+1) c.classes.length<=sN (Gd c s) c.classes.length:=XlL v;have b:∀(f g:Nat->Nat) (n:Nat),sN (λk=>f k+g k) n=sN f n+sN g n:=λf g n=>by
  induction n with
  |zero=>rfl
  |succ n ih=>rw[J5,J5,J5,ih];omega
 rw[b] at t;have u:Rn c s=sN (λk=>Ae c.step.toNat (Yd s (k:Nat))) c.classes.length+sN (λk=>mN s k*Ae c.step.toNat (Zj c (k:Nat)).toNat) c.classes.length:=b _ _ _;have o:A6 s c.classes.length=sN (λk=>Yd s (k:Nat)) c.classes.length:=rfl;rw[u,o];omega
end
section
variable {c:Conf}{s:StM}
theorem Xd8(c:Conf)(s:StM):∀n,(tickTo c s n).1.keep=s.keep
 |0=>rfl
 |n+1=>by
  rw[G5];unfold tickK;have ih:=Xd8 c s n;split
  ·exact ih
  ·split
   ·exact((Kk c _ _).2.1).trans ih
   ·exact((Nz _ _ _).1.trans (Kk c _ _).2.1).trans ih
end
theorem Xdd(h:1<=st)(hz:1<=z):Ae st z<=z:=by
 obtain⟨y,rfl⟩:∃y,z=y+1:=⟨z-1,by omega⟩;refine Nat.div_le_of_le_mul ?_;have:=Nat.le_mul_of_pos_left y (show 0<st by omega);rw[Nat.mul_add,ZJ];omega
theorem Xai(hm:Ze c=true)(hk:k<c.classes.length):1<=Zj c (k:Nat)/\Zj c (k:Nat)<=4096:=by
 have a:Bf c.classes c.size=true:=by unfold Ze at hm;simp only[XJ] at hm;exact hm.1.1.1.1.1.2
 have b:=Nl a k hk;have:=(Yq hm).size;unfold Zj;rw[XA];omega
theorem U9(hm:Ze c=true):1<=c.step/\c.step<=65536:=by
 unfold Ze Q8 at hm;simp only[XJ,decide_eq_true_eq] at hm;exact hm.1.1.1.2
structure UnB(c:Conf)(s:StM)(k:Nat):Prop where
 o:X1 s.rm (k:Nat)<=1024
 b:(Qn c (k:Nat)).toNat<=512/\((Qn c (k:Nat)).toNat:Int)=Qn c (k:Nat)
 m:(X1 s.rm (k:Nat)+1)*(Qn c (k:Nat)).toNat<=524800
 u:Gd c s k<=2149580800
theorem Xcg(h:s.Ok c)(hk:k<c.classes.length):UnB c s k:=by
 have d:k<s.rm.shs.length:=by have:=h.rm.ok.n;omega
 obtain⟨x,b⟩:∃x,s.rm.shs[k]?=some x:=⟨_,XB d⟩;have a:=(h.rm.mok.sh k x b).1;have l:=a.blk;have j:=(h.rm.ok.each k x b).2;have g:X0 s.rm (k:Nat)=some x:=by unfold X0;rw[if_pos (by omega),XA];exact b
 have e2:X1 s.rm (k:Nat)=x.opn.length:=by unfold X1;rw[g]
 have m:=a.few.2.1;have e:(Qn c (k:Nat)).toNat<=512/\((Qn c (k:Nat)).toNat:Int)=Qn c (k:Nat):=by omega
 have f:(X1 s.rm (k:Nat)+1)*(Qn c (k:Nat)).toNat<=1025*512:=Nat.mul_le_mul (by omega) e.1;have n:=Xai h.may hk;have o:=Xdd (st:=c.step.toNat) (z:=(Zj c (k:Nat)).toNat) (by have:=U9 h.may;omega) (by omega);have i:Gd c s k<=524800*4096:=Nat.mul_le_mul f (by omega);exact⟨by omega,e,f,i⟩
theorem XgY(h:s.Ok c)(hn:n<=c.classes.length):sN (Gd c s) n<=n*2149580800:=by
 have:=Ur (f:=Gd c s) (b:=2149580800) (l:=List.range n) λk a=>(Xcg h (by have:=List.mem_range.1 a;omega)).u;rw[ZR] at this;exact this
theorem Xei(h:s.Ok c)(hk:k<c.classes.length):Yd s (k:Nat)<=4096:=by
 have d:=Xai h.may hk;cases a:Xo s (k:Nat) with
 |none=>rw[(XaJ h).2 a];exact XK _
 |some m=>
  obtain⟨j,ej,e,b⟩:=Qt a;have ej:k=j:=by omega
  subst ej;have f:=(h.mv k m b).2.2.2.2.2.1;have g:=(Pq h a 0).2.2.2;omega
theorem Xjl(h:s.Ok c)(hn:n<=c.classes.length):A6 s n<=n*4096:=by
 have:=Ur (f:=λk:Nat=>Yd s (k:Nat)) (b:=4096) (l:=List.range n) λk a=>Xei h (by have:=List.mem_range.1 a;omega);rw[ZR] at this;exact this
def Kt(s:StM)(k:Nat):Nat:=X1 s.rm (k:Nat)+if (Xo s (k:Nat)).isSome then 1 else 0
def Gm(s:StM):Nat->Bool
 |0=>false
 |k+1=>if Gm s k then true else Eb (Kt s k:Nat) (s.keep.getD k 0)
theorem Xdy{s:StM}:∀{n:Nat},Gm s n=false -> ∀k,k<n->(Kt s k:Int)<=s.keep.getD k 0+1
 |n+1,h,k,b=>by
  unfold Gm at h;split at h
  ·cases h
  ·rename_i a
   by_cases e:k=n
   ·subst e;have c:=mt Nr.2 (by rw[h];decide);omega
   ·exact Xdy (Bool.eq_false_iff.2 a) k (by omega)
theorem XjS(h:s.Ok c)(hd:Gm s c.classes.length=false):ND s:=λk=>by
 by_cases a:k<c.classes.length
 ·have:=Xdy hd k a;unfold Kt at this;split at this <;> split <;> first|omega|contradiction
 ·have e1:X1 s.rm (k:Nat)=0:=by unfold X1;rw[Me (.inr (by have:=h.rm.ok.n;omega))]
  have e2:Xo s (k:Nat)=none:=by
   unfold Xo;rw[if_pos (by omega),XA,XC,XV (by have:=h.ml;omega)];rfl
  have:=Px h k;rw[e1,e2,if_neg (by simp)];omega
def Iv(c:Conf)(s:StM):Nat:=Ae c.step.toNat (A6 s c.classes.length)+if Gm s c.classes.length then sN (Gd c s) c.classes.length else 0
theorem XmW(h:s.Ok c):Kh (Dt c s (Iv c s)):=by
 have a:=(U9 h.may).1;unfold Iv;cases b:Gm s c.classes.length with
 |true=>rw[if_pos rfl];exact XgL _ h a (Xkk h a)
 |false=>rw[if_neg (by decide)];exact XgN _ h a (XjS h b) (XD _)
theorem Xdc{st:Int}(h:1<=st)(a:Nat):((Ae st.toNat a:Nat):Int)=((a:Int)+st-1)/st:=by
 unfold Ae;obtain⟨k,rfl⟩:=XE (show 0<=st by omega);rw[XA,Int.natCast_ediv]
 congr 1
 omega
theorem XgM(c:Conf)(s:StM):∀n,(Dt c s n).keep=s.keep
 |0=>rfl
 |n+1=>(Xd8 c _ _).trans (XgM c s n)
theorem Xji(h:X6 w r s)(hs:s.Ok c)(hrc:r.c=c):Xf prog 26 #[.agg (Zz r).toArray] w (Grow (.int .i64 (sN (Gd c s) c.classes.length:Nat)) w):=by
 subst hrc;have G:r.rr.ss.length=s.rm.shs.length:=h.rr.n;have D:=h.rr.few;have J:=hs.rm.ok.n;have v:=U9 hs.may;refine Xf.enter func26 rfl ntmps26 rfl rfl ?_;refine ζa rfl ?_;refine Xa.alloc Xb rfl ?_;intro b x e1 t y H;refine ζa rfl ?_;replace t:Zf x b r:=t;refine Xa.loop (α:=Nat) (λk=>[(1,false,.pointer (some ⟨b,0,none⟩)),(3,false,.int .i64 (sN (Gd r.c s) k:Nat)),(4,false,.int .i64 k)])
  (λk w'=>k<=r.c.classes.length/\Xc Xe x w') (λk=>r.c.classes.length-k) 0 ⟨rfl,rfl,rfl,trivial⟩ ⟨XK _,Xc.refl _ _⟩ ?_
 rintro k K ⟨L,e⟩ ih;have d:=e.heap' t;have f:=y.trans e;have l:=h.grow f;refine ζa rfl ?_;refine Xa.loadb Xb rfl d rfl rfl ?_;refine Xa.fork Xb rfl rfl rfl (λg=>?_) (λg=>?_)
 ·have g:=of_decide_eq_true g;have i:k<r.c.classes.length:=by omega
  have z:k<r.rr.ss.length:=by omega
  have o:k<s.rm.shs.length:=by omega
  have U:=Xcg hs i;have E:=XgY hs (n:=k) (by omega);have M:=Xai hs.may i;obtain⟨pk,F,_⟩:=l.rr.each k _ _ (XB z) (XB o);obtain⟨ab,aoff,ea,m⟩:=l.rr.sr.at z;obtain⟨qb,qoff,eca,p⟩:=l.conf.classes k i;have u:((r.rr.ss[k].blocks:Nat):Int)=((Qn r.c (k:Nat)).toNat:Nat):=by
   rw[F.e2];have:=(hs.rm.ok.each k _ (XB o)).2;have:=U.b.2;omega
  have eC:Zj r.c (k:Nat)=r.c.classes.getD k 0:=by unfold Zj;rw[XA]
  rw[<-eC] at p;refine Xa.loadb Xb rfl d rfl rfl ?_;rw[eca];refine Xa.index Xb rfl (j:=k) (by omega) (by omega) (by first|rfl|omega|(simp;done)|(simp;omega)) rfl ?_;refine ζk rfl p rfl ?_;rw[<-eca];refine Xa.loadb Xb rfl d rfl rfl ?_;rw[ea];refine Xa.index Xb rfl (j:=(k*7)) (by omega) (by omega) (by first|rfl|omega|(simp;done)|(simp;omega)) rfl ?_;refine ζk rfl (m 3 _ rfl) rfl ?_;rw[<-ea];refine Xa.drawn (q:=18) Xe Xb Xp (by kernel_rfl) rfl ?_;intro a;refine Xd.loads Xb a rfl d (by first|exact λh=>h|(intro h;omega)|assumption) rfl rfl ?_;refine Xd.call Xb a rfl (λw' A=>(Xeb (l.grow A) hs (k:Nat) (by omega))) rfl ?_;refine Xd.arith Xb a rfl (w64 (by have:=U.o;omega)) rfl ?_;rw[show((X1 s.rm (k:Nat):Nat):Int)+1=((X1 s.rm (k:Nat)+1:Nat):Int) from rfl,u];refine Xd.arith Xb a rfl (w64 (by rw[<-Int.natCast_mul];have:=U.m;omega)) rfl ?_;rw[<-Int.natCast_mul];refine Xd.loadb Xb a rfl d (by first|exact λh=>h|(intro h;omega)|assumption) rfl rfl ?_;refine Xd.arith Xb a rfl (w64 (by omega)) rfl ?_;refine Xd.arith Xb a rfl (w64 (by omega)) rfl ?_;refine Xd.loadb Xb a rfl d (by first|exact λh=>h|(intro h;omega)|assumption) rfl rfl ?_;refine Xd.div Xb a rfl (by omega) (E3 (by omega) (by omega)) rfl ?_;rw[show(Zj r.c (k:Nat)+r.c.step-1)/r.c.step=((Ae r.c.step.toNat (Zj r.c (k:Nat)).toNat:Nat):Int) by rw[Xdc v.1,YH (by omega)]];have N:Gd r.c s k=(X1 s.rm (k:Nat)+1)*(Qn r.c (k:Nat)).toNat*Ae r.c.step.toNat (Zj r.c (k:Nat)).toNat:=rfl;have I:=U.u;have B:((((X1 s.rm (k:Nat)+1)*(Qn r.c (k:Nat)).toNat:Nat):Int)*((Ae r.c.step.toNat (Zj r.c (k:Nat)).toNat:Nat):Int))=(Gd r.c s k:Nat):=(Int.natCast_mul _ _).symm;refine Xd.arith Xb a rfl (w64 (by rw[B];omega)) rfl ?_;rw[B];refine Xd.nil a ?_;intro O C;refine ζa rfl ?_;refine Xa.arith Xb rfl (w64 (by omega)) rfl ?_;refine Xa.arith Xb rfl (w64 (by omega)) rfl ?_;exact ih (k+1) _ _ ⟨by omega,e.trans C⟩ (by omega) ⟨rfl,by rw[J5];rfl,rfl,trivial⟩
 ·have g:=of_decide_eq_false g;have ek:k=r.c.classes.length:=by omega
  subst ek;exact Xa.ret1 Xb rfl func26 rfl rfl ⟨rfl,f⟩
theorem law_StoreTicks(c:Conf)(p:Qi)(sa:Option Addr)(sc:Nat)(xs:List G9)(w:World)(ht:Bd w)(hc:Y1 w c p)(hrs:Rows Fj 5 w sa xs)(hl:xs.length<=9223372036854775807)(hxs:∀x∈xs,Iy w x):Xf prog 6 #[.agg (Zr c p).toArray,.slice sa xs.length sc] w (Grow (.bool true) w):=by
 refine Xf.enter func6 rfl ntmps6 rfl rfl ?_;refine ζa rfl ?_;refine Xa.alloc Xb rfl ?_;intro cb w1 e1 aj bb df;refine ζa rfl ?_;replace aj:w1.heap[cb]?=some (.cells (Zr c p).toArray 24 (0,0)):=aj;refine ζc rfl (Xje w1 (ht.grow bb)) ?_;rintro _ w2 ⟨rfl,bc⟩;refine ζa rfl ?_;have ak:=bb.trans bc;have al:=bc.heap' aj;refine Xa.loads Xb rfl al rfl rfl ?_;refine ζc rfl (XkH c p w2 (hc.chg ak)) ?_;rintro _ L ⟨rfl,bd⟩;refine ζa rfl ?_;have g:=ak.trans bd;have W:=bd.heap' al;cases hf:Pm c with
 |false=>
  refine Xa.yes Xb rfl rfl rfl ?_;exact Xa.ret1 Xb rfl func6 rfl rfl ⟨rfl,g⟩
 |true=>
 obtain⟨hm,dg,dh⟩:=XiG hf;have am:=Yq hm;refine Xa.no Xb rfl rfl rfl ?_;refine ζc rfl (Xlf sa sc xs L (hrs.chg g) hl) ?_;rintro _ w4 ⟨b0,rfl,cc,rfl⟩;refine ζa rfl ?_;refine Xa.fork Xb rfl rfl rfl (λg0=>?_) (λg0=>?_)
 ·exact Xa.ret1 Xb rfl func6 rfl rfl ⟨rfl,g⟩
 obtain⟨cw,cs⟩:=cc (by simpa using g0);have be:Yp w p.ka:=λb off s e=>hc.keep.block (by have:=am.keep;have:=am.n;omega) e;have H:=hc.chg g;refine Xa.loads Xb rfl W rfl rfl ?_;refine ζc rfl (Xjf c p L (hc.chg g) (ht.grow g) hm (by omega) (be.grow g.size)) ?_;rintro _ w5 ⟨F,S,r,n0,rfl,di,h5,cy,bf,ce,bp⟩;refine ζa rfl ?_;refine Xa.alloc Xb rfl ?_;intro xb w6 e6 bg cf dj;refine ζa rfl ?_;have cz:=Yk bg;refine Xa.store Xb rfl bg rfl rfl ?_;intro w7 a1 cg dk;refine ζa rfl ?_;replace a1:Zf w7 xb r:=a1;have an:Xc Xe w5 w7:=cf.since cg (λz y e=>by omega);have h7:=h5.grow an;have dl:=h5.chg.size;have br:Bs c p n0 L w7 F (C3 c) r xb:=⟨bf.grow an,ce,bp F (λz y=>.inr y) (λb off s e y=>by have:=h5.base b y;have:=be b off s e;have:=g.size;omega),(bf.out λz e=>by omega),a1,by omega,by omega,λy=>by have:=h5.low _ y;omega⟩;have d1:=am.n;have bh:=U9 hm;refine Xa.loop (α:=Nat) (λk=>[(1,false,.slice sa xs.length sc),(2,false,.pointer (some ⟨cb,0,none⟩)),(5,false,.bool true),(6,false,Zq S),(7,false,.pointer (some ⟨xb,0,none⟩)),(8,false,.int .i64 k)])
  (λk w'=>k<=xs.length/\∃F s r,Lv c n0 L w' F S s/\Bs c p n0 L w' F s r xb/\0<=s.rm.tot/\s.rm.tot<=k*1000000000) (λk=>xs.length-k) 0 ⟨rfl,rfl,rfl,rfl,rfl,rfl,trivial⟩ ⟨XK _,F,C3 c,r,h7,br,YI _,YI _⟩ ?_
 rintro k w9 ⟨hk,F9,d,A,h9,ao,cj,d2⟩ ih;have f:=h9.inv;have ap:=g.trans h9.chg;refine ζa rfl ?_;refine Xa.fork Xb rfl rfl rfl (λg1=>?_) (λg1=>?_)
 ·have g1:=of_decide_eq_true g1;have E:k<xs.length:=by omega
  obtain⟨ab,aoff,rfl,a9⟩:=hrs.at E;have hu:=hxs xs[k] (XL E);have dm:=hu.kind;have aq:∀i v,(Fj xs[k])[i]?=some v->w9.cell? ⟨ab,aoff+k*5+i,none⟩=some v:=λi v hv=>ap.cell (a9 i v hv) id;refine Xa.index Xb rfl (j:=(k*5)) (by omega) (by omega) (by first|rfl|omega|(simp;done)|(simp;omega)) rfl ?_;refine Xa.loadC Xb ((Fj xs[k])) rfl (by first|rfl|(simp;done)|(simp[*];done)|(simp;omega)) (aq) rfl ?_;have b8:0<xs[k].bs.length->Xj F9 xs[k].ba:=λhp b off s e y=>by
   have:=hu.rd.block hp e;have:=h9.base _ y;have:=g.size;omega
  refine ζc rfl (Xjg h9 xs[k] (hu.grow ap) b8) ?_;rintro _ I ⟨dn,ct,rfl,d4,d5,ar,K,bv,bw⟩;refine ζa rfl ?_;have aa:=g.trans K.chg;have a:=ao.prog (H.chg K.chg) bv bw;have ai:∀i v,(Fj xs[k])[i]?=some v->I.cell? ⟨ab,aoff+k*5+i,none⟩=some v:=λi v hv=>aa.cell (a9 i v hv) id;have dp:=Xm1 (u:=xs[k]) f ⟨cj,by omega⟩;refine Xa.drawn (q:=13) Xe Xb Xp (by kernel_rfl) rfl ?_;intro o;refine Xd.loads Xb o rfl a.box (by first|exact λh=>h|(intro h;omega)|assumption) rfl rfl ?_;refine Xd.index Xb o rfl (j:=(k*5)) (by omega) (by omega) (by first|rfl|omega|(simp;done)|(simp;omega)) rfl ?_;refine Xd.loadC Xb o ((Fj xs[k])) rfl (by first|rfl|(simp;done)|(simp[*];done)|(simp;omega)) (ai) (by first|exact λh=>h|(intro h;omega)|assumption) rfl ?_;have hd:=Xle a xs[k] f (hu.grow aa) (by omega);refine Xd.callAllocG (Xdv (Q6 c d xs[k]).length (Ak c d xs[k])) (Td I A (Qy c d xs[k]) (Q6 c d xs[k])) (Xdw) Xb o rfl rfl rfl (λ_=>rfl) rfl (λ_=>rfl) (λ_=>rfl) rfl rfl (λ_ _=>rfl) rfl (λ_ _=>rfl) (hd) (Xix) ((λ_ h=>h.elim)) ?_;rintro nb x bi dq ck C ⟨q1,P,q3,q4,q5⟩ hG;refine Xd.turn1 o rfl ?_;intro au l;refine Xr.store Xb o rfl (l.heap' ck) (by first|(intro h;exact rfl)|(intro h;omega)) rfl rfl rfl ?_;intro ac M a2 d9;refine Xd.nil o ?_;intro av D;refine ζa rfl ?_;replace M:Zf ac nb x.1:=M;have dr:=K.chg.size;have lxb:=Xg a.box;have Q:Xc Xe I au:=C.trans l;have G:Xc Xe I av:=(Q.since a2 (λz y e=>by omega)).trans D;have b9:Y1 ac x.1.c x.1.cp:=by
   rw[P.1,P.2.1,a.rc.1,a.rc.2];exact H.chg (K.chg.trans (Q.since a2 (λz y e=>by omega)))
  have bx:=((q1.grow l).far hG.1 b9 a2).grow D;refine Xa.loads Xb rfl (D.heap' M) rfl rfl ?_;refine Xa.store Xb rfl (G.heap' a.box) rfl rfl ?_;intro ad N aw da;refine ζa rfl ?_;replace N:Zf ad xb x.1:=N;have bj:Aq (λz=>z=xb) x.1:=P.2.2 _ (λz e=>by omega) a.xr;have bz:=K.grow G;have ax:Lv c n0 L ad ar S (Qy c d xs[k]):=bz.box a.xo.1 a.xo.2.2 (Yk (G.heap' a.box)) (by decide) aw a.xo.2.1;have a3:Bs c p n0 L ad ar (Qy c d xs[k]) x.1 xb:=⟨bx.far bj (by have:=H.chg ax.chg;rw[P.1,P.2.1,a.rc.1,a.rc.2];exact this) aw,⟨P.1.trans a.rc.1,P.2.1.trans a.rc.2⟩,P.2.2 _ (λz y=>K.low z y) a.out,bj,N,a.xo⟩;refine Xa.arith Xb rfl (w64 (by omega)) rfl ?_;exact ih (k+1) _ _ ⟨by omega,ar,Qy c d xs[k],x.1,ax,a3,by omega,by omega⟩ (by omega) ⟨rfl,rfl,rfl,rfl,rfl,rfl,trivial⟩
 ·refine Xa.loop (α:=Nat) (λk=>[(1,false,.slice sa xs.length sc),(2,false,.pointer (some ⟨cb,0,none⟩)),(5,false,.bool true),(6,false,Zq S),(7,false,.pointer (some ⟨xb,0,none⟩)),(12,false,.int .i64 (A6 d k:Nat)),(13,false,.bool (Gm d k)),(14,false,.int .i64 k)])
   (λk w'=>k<=c.classes.length/\Xc Xe w9 w') (λk=>c.classes.length-k) 0 ⟨rfl,rfl,rfl,rfl,rfl,rfl,rfl,rfl,trivial⟩ ⟨XK _,Xc.refl _ _⟩ ?_
  rintro k I ⟨hk,t⟩ ae;have O:=(h9.chg.trans t).heap' W;have a:=ao.grow t;have ds:=Xjl f hk;refine ζa rfl ?_;refine Xa.loadb Xb rfl O rfl rfl ?_;refine Xa.fork Xb rfl rfl rfl (λg2=>?_) (λg2=>?_)
  ·have g2:=of_decide_eq_true g2;have E:k<c.classes.length:=by omega
   have dt:=Xei f E;have U:=Xcg f E;refine Xa.loads Xb rfl a.box rfl rfl ?_;refine ζc rfl (Xlh a.sr f (k:Nat)) ?_;rintro _ bi ⟨rfl,C⟩;refine ζa rfl ?_;refine Xa.arith Xb rfl (w64 (by omega)) rfl ?_;have a4:=a.grow C;refine Xa.loads Xb rfl a4.box rfl rfl ?_;refine ζc rfl (Xeb a4.sr f (k:Nat) (by omega)) ?_;rintro _ au ⟨rfl,l⟩;refine ζa rfl ?_;have a5:=a4.grow l;refine Xa.loads Xb rfl a5.box rfl rfl ?_;refine ζc rfl (Jc a5.sr (by have:=f.ml;omega) (k:Nat)) ?_;rintro _ ac ⟨rfl,az⟩;refine ζa rfl ?_;have m:=a5.grow az;have B:=(C.trans l).trans az;have eS:A6 d (k+1)=A6 d k+Yd d (k:Nat):=J5 _ _;have eD:Gm d (k+1)=if Gm d k then true else Eb (Kt d k:Nat) (d.keep.getD k 0):=rfl;have du:=f.kr;cases hI:(Xo d (k:Nat)).isSome with
   |true=>
    have eM:((Kt d k:Nat):Int)=(X1 d.rm (k:Nat):Nat)+1:=by unfold Kt;rw[hI];rfl
    rw[eM] at eD;refine Xa.yes Xb rfl rfl rfl ?_;refine Xa.arith Xb rfl (w64 (by have:=U.o;omega)) rfl ?_;cases R:Gm d k with
    |true=>
     rw[R,if_pos rfl] at eD;refine Xa.yes Xb rfl rfl rfl ?_;refine Xa.arith Xb rfl (w64 (by omega)) rfl ?_;exact ae (k+1) _ _ ⟨by omega,t.trans B⟩ (by omega) ⟨rfl,rfl,rfl,rfl,rfl,by rw[eS];rfl,by rw[eD];rfl,rfl,trivial⟩
    |false=>
     rw[R,if_neg (by decide)] at eD;refine Xa.no Xb rfl rfl rfl ?_;refine Xa.loadb Xb rfl m.box rfl rfl ?_;have n:=m.sr.ke;have a6:=f.kl;have b1:A.keep.length=c.classes.length:=by rw[n];exact a6
     have bk:0<=A.keep.getD k 0/\A.keep.getD k 0<=1024:=by
      rw[XC,XB (show k<A.keep.length by omega)];exact f.kr _ (by rw[<-n];exact XL _)
     obtain⟨qb,qoff,eqa,T⟩:=m.sr.kr k (by omega);rw[eqa];refine Xa.index Xb rfl (j:=k) (by omega) (by omega) (by first|rfl|omega|(simp;done)|(simp;omega)) rfl ?_;refine ζk rfl T rfl ?_;refine ζc rfl (Xbq (((X1 d.rm (k:Nat):Nat)+1)) _ _ (by omega)) ?_;rintro _ _ ⟨rfl,rfl⟩;refine ζa rfl ?_;refine Xa.arith Xb rfl (w64 (by omega)) rfl ?_;exact ae (k+1) _ _ ⟨by omega,t.trans B⟩ (by omega) ⟨rfl,rfl,rfl,rfl,rfl,by rw[eS];rfl,by rw[eD,<-n];rfl,rfl,trivial⟩
   |false=>
    have eM:((Kt d k:Nat):Int)=(X1 d.rm (k:Nat):Nat):=by unfold Kt;rw[hI];rfl
    rw[eM] at eD;refine Xa.no Xb rfl rfl rfl ?_;cases R:Gm d k with
    |true=>
     rw[R,if_pos rfl] at eD;refine Xa.yes Xb rfl rfl rfl ?_;refine Xa.arith Xb rfl (w64 (by omega)) rfl ?_;exact ae (k+1) _ _ ⟨by omega,t.trans B⟩ (by omega) ⟨rfl,rfl,rfl,rfl,rfl,by rw[eS];rfl,by rw[eD];rfl,rfl,trivial⟩
    |false=>
     rw[R,if_neg (by decide)] at eD;refine Xa.no Xb rfl rfl rfl ?_;refine Xa.loadb Xb rfl m.box rfl rfl ?_;have n:=m.sr.ke;have a6:=f.kl;have b1:A.keep.length=c.classes.length:=by rw[n];exact a6
     have bk:0<=A.keep.getD k 0/\A.keep.getD k 0<=1024:=by
      rw[XC,XB (show k<A.keep.length by omega)];exact f.kr _ (by rw[<-n];exact XL _)
     obtain⟨qb,qoff,eqa,T⟩:=m.sr.kr k (by omega);rw[eqa];refine Xa.index Xb rfl (j:=k) (by omega) (by omega) (by first|rfl|omega|(simp;done)|(simp;omega)) rfl ?_;refine ζk rfl T rfl ?_;refine ζc rfl (Xbq (((X1 d.rm (k:Nat):Nat))) _ _ (by omega)) ?_;rintro _ _ ⟨rfl,rfl⟩;refine ζa rfl ?_;refine Xa.arith Xb rfl (w64 (by omega)) rfl ?_;exact ae (k+1) _ _ ⟨by omega,t.trans B⟩ (by omega) ⟨rfl,rfl,rfl,rfl,rfl,by rw[eS];rfl,by rw[eD,<-n];rfl,rfl,trivial⟩
  ·have g2:=of_decide_eq_false g2;have ek:k=c.classes.length:=by omega
   subst ek;refine Xa.loadb Xb rfl O rfl rfl ?_;refine Xa.arith Xb rfl (w64 (by omega)) rfl ?_;refine Xa.arith Xb rfl (w64 (by omega)) rfl ?_;refine Xa.loadb Xb rfl O rfl rfl ?_;refine Xa.div Xb rfl (by omega) (E3 (by omega) (by omega)) rfl ?_;have eQ:((A6 d c.classes.length:Nat):Int)+c.step-1=((A6 d c.classes.length:Nat):Int)+c.step-1:=rfl;rw[<-Xdc bh.1];have dv:Ae c.step.toNat (A6 d c.classes.length)<=A6 d c.classes.length+1:=by
    by_cases h0:A6 d c.classes.length=0
    ·rw[h0,Xdf (by omega)];omega
    ·have:=Xdd (st:=c.step.toNat) (z:=A6 d c.classes.length) (by omega) (by omega);omega
   have dw:=XgY f (XD _);have eN:Iv c d=Ae c.step.toNat (A6 d c.classes.length)+if Gm d c.classes.length then sN (Gd c d) c.classes.length else 0:=rfl;have b2:=XmW f;have dx:Iv c d<=100000000000:=by rw[eN];split <;> omega
   apply Xa.cut (α:=Unit) (λ_=>[(2,false,.pointer (some ⟨cb,0,none⟩)),(5,false,.bool true),(6,false,Zq S),(7,false,.pointer (some ⟨xb,0,none⟩)),(16,false,.int .i64 (Iv c d:Nat)),(17,false,.int .i64 0)]) (λ_ w'=>Xc Xe I w')
   ·intro J;cases R:Gm d c.classes.length with
    |true=>
     rw[R,if_pos rfl] at eN;refine Xa.yes Xb rfl rfl rfl ?_;refine Xa.loads Xb rfl a.box rfl rfl ?_;refine ζc rfl (Xji a.sr f ao.rc.1) ?_;rintro _ bi ⟨rfl,C⟩;refine ζa rfl ?_;refine Xa.arith Xb rfl (w64 (by omega)) rfl ?_;rw[<-Int.natCast_add,<-eN];exact J () _ _ C ⟨rfl,rfl,rfl,rfl,rfl,rfl,trivial⟩
    |false=>
     rw[R,if_neg (by decide),Nat.add_zero] at eN;refine Xa.no Xb rfl rfl rfl ?_;rw[<-eN];exact J () _ _ (Xc.refl _ _) ⟨rfl,rfl,rfl,rfl,rfl,rfl,trivial⟩
   ·rintro-au l;refine Xa.loop (α:=Nat) (λi=>[(2,false,.pointer (some ⟨cb,0,none⟩)),(5,false,.bool true),(6,false,Zq S),(7,false,.pointer (some ⟨xb,0,none⟩)),(16,false,.int .i64 (Iv c d:Nat)),(17,false,.int .i64 i)])
     (λi w'=>i<=Iv c d/\∃F,Lv c n0 L w' F S (Dt c d i)/\Bs c p n0 L w' F d A xb) (λi=>Iv c d-i) 0 ⟨rfl,rfl,rfl,rfl,rfl,rfl,trivial⟩ ⟨XK _,F9,(h9.grow t).grow l,a.grow l⟩ ?_
    rintro i ac ⟨hi,dy,V,m⟩ cm;refine ζa rfl ?_;refine Xa.fork Xb rfl rfl rfl (λg3=>?_) (λg3=>?_)
    ·have g3:=of_decide_eq_true g3;have dz:i<Iv c d:=by omega
     refine ζc rfl (Tt V) ?_;rintro _ av ⟨rfl,cn,af,c0,c1⟩;refine ζa rfl ?_;refine Xa.arith Xb rfl (w64 (by omega)) rfl ?_;exact cm (i+1) _ _ ⟨by omega,cn,af,m.prog (H.chg af.chg) c0 c1⟩ (by omega) ⟨rfl,rfl,rfl,rfl,rfl,rfl,trivial⟩
    ·have g3:=of_decide_eq_false g3;have ei:i=Iv c d:=by omega
     subst ei;obtain⟨sD,eD⟩:∃sD,sD=Dt c d (Iv c d):=⟨_,rfl⟩;rw[<-eD] at V b2;have bl:=V.inv;refine ζc rfl (XaS V) ?_;rintro _ av ⟨rfl,D⟩;refine ζa rfl ?_;have af:=V.grow D;have c2:=m.grow D;refine ζc rfl (Ts af) ?_;rintro _ ad ⟨rfl,bm,c3⟩;refine ζa rfl ?_;have a3:=c2.prog (H.chg bm.chg) (λz y=>.inl y) c3;rw[show Zq S=Zq (S.relap sD.rm.tot) from rfl];refine ζc rfl (Tt bm) ?_;rintro _ co ⟨rfl,e0,b4,c4,c5⟩;refine ζa rfl ?_;rw[Xdx bl bh.1 b2] at b4;have c6:=a3.prog (H.chg b4.chg) c4 c5;refine Xa.loop (α:=Nat) (λk=>[(2,false,.pointer (some ⟨cb,0,none⟩)),(5,false,.bool true),(6,false,Zq (S.relap sD.rm.tot)),(7,false,.pointer (some ⟨xb,0,none⟩)),(18,false,.int .i64 (Zt sD.rm.pl:Nat)),(19,false,.int .i64 0),(20,false,.int .i64 k)])
      (λk w'=>k<=c.classes.length/\Xc Xe co w') (λk=>c.classes.length-k) 0 ⟨rfl,rfl,rfl,rfl,rfl,rfl,rfl,trivial⟩ ⟨XK _,Xc.refl _ _⟩ ?_
     rintro k e2 ⟨hk,a7⟩ cp;have ag:=b4.grow a7;have a8:=c6.grow a7;have ba:=ag.chg.heap' W;refine ζa rfl ?_;refine Xa.loadb Xb rfl ba rfl rfl ?_;refine Xa.fork Xb rfl rfl rfl (λg4=>?_) (λg4=>?_)
     ·have g4:=of_decide_eq_true g4;have E:k<c.classes.length:=by omega
      obtain⟨o1,o2⟩:=Xiy bl b2 E;have n:=a8.sr.ke;have b1:A.keep.length=c.classes.length:=by rw[n];exact f.kl
      have cq:sD.keep=d.keep:=by rw[eD];exact XgM ..
      have bk:0<=A.keep.getD k 0/\A.keep.getD k 0<=1024:=by
       rw[XC,XB (show k<A.keep.length by omega)];exact f.kr _ (by rw[<-n];exact XL _)
      rw[cq,<-n] at o1;obtain⟨qb,qoff,eqa,T⟩:=a8.sr.kr k (by omega);refine Xa.drawn (q:=14) Xe Xb Xp (by kernel_rfl) rfl ?_;intro o;refine Xd.call Xb o rfl (λw' b5=>(XaT (ag.grow b5) (k:Nat))) rfl ?_;rw[o2];refine Xd.no Xb o rfl rfl rfl ?_;refine Xd.call Xb o rfl (λw' b5=>(Xev (ag.grow b5) (k:Nat))) rfl ?_;refine Xd.loadb Xb o rfl a8.box (by first|exact λh=>h|(intro h;omega)|assumption) rfl rfl ?_;rw[eqa];refine Xd.index Xb o rfl (j:=k) (by omega) (by omega) (by first|rfl|omega|(simp;done)|(simp;omega)) rfl ?_;refine Xd.load Xb o rfl T (by first|exact λh=>h|(intro h;omega)|assumption) rfl ?_;refine Xd.arith Xb o rfl (w64 (by omega)) rfl ?_;refine Xd.nil o ?_;intro cr c8;refine ζa rfl ?_;refine Xa.no Xb rfl (decide_eq_false (by omega)) rfl ?_;refine Xa.arith Xb rfl (w64 (by omega)) rfl ?_;exact cp (k+1) _ _ ⟨by omega,a7.trans c8⟩ (by omega) ⟨rfl,rfl,rfl,rfl,rfl,rfl,rfl,trivial⟩
     ·refine Xa.yes Xb rfl rfl rfl ?_;refine Xa.yes Xb rfl rfl rfl ?_;refine ζc rfl (Ts ag) ?_;rintro _ cr ⟨rfl,bn,de⟩;refine ζa rfl ?_;rw[show sD.rm.tot-((S.relap sD.rm.tot).R.lap)=0 from Int.sub_self _];refine Xa.yes Xb rfl rfl rfl ?_;refine ζc rfl (XaS bn) ?_;rintro _ e3 ⟨rfl,c9⟩;refine ζa rfl ?_;exact Xa.ret1 Xb rfl func6 rfl rfl ⟨Ad (beq_self_eq_true _),g.trans (bn.chg.trans c9)⟩
end Go.Proofs.YtohjeeapehmkcaaGreatDoor
