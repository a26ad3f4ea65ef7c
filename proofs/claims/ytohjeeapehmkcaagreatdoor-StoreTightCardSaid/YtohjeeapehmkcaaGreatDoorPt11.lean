/-
  Texts put together: Laws22c, Tot22, Laws22g, Szs, Bnd22, Lgo, Cnt22, Tgt22, Ref17, Kp22, Laws22j.
-/
import Derived.Test.YtohjeeapehmkcaaGreatDoorPt10
import Derived.Test.YtohjeeapehmkcaaGreatDoorQRule9
import Derived.Test.YtohjeeapehmkcaaGreatDoorQRule6
set_option linter.unusedVariables false
set_option maxRecDepth 100000
namespace Go.Proofs.YtohjeeapehmkcaaGreatDoor
open Go.RowKit
open Bool renaming and_eq_true->XJ
open Int renaming toNat_natCast->XA,eq_ofNat_of_zero_le->XD,le_refl->ZO,ediv_nonneg->ZX,ediv_le_self->YE,add_mul->YU
open List renaming getElem?_eq_getElem->XB,getD_eq_getElem?_getD->XC,getElem?_set_self->XF,length_set->XG,length_replicate->XH,map_append->XI,getElem_mem->XK,length_cons->XM,length_map->XN,length_append->XO,mem_of_getElem?->XP,getElem?_set_ne->XQ,getElem?_eq_none->XV,getElem?_replicate->XW,filter_cons->XY,map_cons->ZB,take_add_one->ZC,take_of_length_le->ZE,mem_cons_of_mem->ZF,eq_of_mem_replicate->ZG,mem_cons_self->ZI,mem_singleton->ZN,flatMap_cons->ZQ,replicate_succ->ZT,mem_append_right->ZU,length_filter_le->ZW,sum_cons->YH,length_range->YK,filter_append->YP,mem_replicate->YR,range_succ->YX,any_eq_false->YZ,map_nil->QQ
open Nat renaming le_refl->XE,zero_le->XL,zero_add->XS,le_trans->ZV,mul_comm->YF,add_mul->YT,mul_le_mul_right->QH,one_mul->QI
open Option renaming getD_some->ZP
open Go.Proofs.Tryz (func10 func11 func19 func5 func59 ntmps10 ntmps11 ntmps19 ntmps5 ntmps59 prog)
variable {A:Ar}{V:ArV}{c:Conf}{l':IL}{ahead by' size u who z:Int}{lg:List (Nat×List Nat)}{th:List (Option ThM)}{ps:List IL}{bs l p zs:List Int}{l2 ws:List Nat}{cs rest xs:List Value}{mo:Mo}{m:MvM}{N at' b base cap fuel g i j k len lm lo n n0 o off sz t tm vb xb y:Nat}{e:Nat×List Int}{fz:Nat×Nat}{f:Nat->Int}{G:Nat->Pg}{B C F F' Fr S S' T:Nat->Prop}{pd pd2:Option (Nat×PlcM)}{a:Option Addr}{pg:PgL}{P:Pl}{pl':PlM}{q:Plc}{R:Rm}{M:RmM}{r r1:SR}{x x':Sm}{s s':StM}{α:Type}{v:Value}{w w' w0 w1 w2:World}
theorem Fe.up{S:Sto}(h:Fe c n0 w0 w1 F S s w')(hc:Xc Xe w w1):Fe c n0 w0 w F S s w':=by
 obtain⟨F',a,b,d⟩:=h;have:=hc.size;exact⟨F',a,λz e=>(b z e).imp id (by omega),hc.gr.trans d⟩
theorem Xjg{S:Sto}(h:Lv c n0 w0 w F S s)(u:D8)(hu:Ix w u)(hout:0<u.bs.length->Xj F u.ba):Xf prog 11 #[Zx S,.agg (Fh u).toArray] w
 (λv w'=>∃a cap,v=.tuple #[.slice a (Q5 c s u).length cap,.int .i64 (Aj c s u)]/\Rd .u8 w' a (Q5 c s u)/\(∀b off s',a=some ⟨b,off,s'⟩->w.heap.size<=b/\b<w'.heap.size)/\Fe c n0 w0 w F S (Yy c s u) w'):=by
 have z:=hu.kind;refine ζe func11 ntmps11 ϱ (ζn ϱ λub A e1 d f y=>?_);have m:=h.grow f;refine ζl d ϱ (Xa.div Xb rfl (by omega) (E9 (by omega)) rfl ?_);by_cases g:u.kind%7=0
 ·have eE:Aj c s u=Bh c s u.own u.a:=by unfold Aj;rw[if_pos g]
  have eS:Yy c s u=Q8 c s u.own u.a:=by unfold Yy;rw[if_pos g]
  have eB:Q5 c s u=[]:=by unfold Q5;rw[if_neg (by omega)]
  refine ζy ϱ (ζl d ϱ (ζl d ϱ ?_));refine ζc rfl (XeA m u.own u.a) ?_;rintro _ n ⟨rfl,i⟩;refine ζa ϱ ?_;rw[eB];exact ζr func11 ϱ ⟨none,0,by rw[eE];rfl,Rd.nil _ _ _,(by intro b off s' e;cases e),by rw[eS];exact i.up f⟩
 by_cases j:u.kind%7=1
 ·have eE:Aj c s u=Yl s u.own:=by unfold Aj;rw[if_neg g,if_pos j]
  have eS:Yy c s u=Bq c s u.own:=by unfold Yy;rw[if_neg g,if_pos j]
  have eB:Q5 c s u=[]:=by unfold Q5;rw[if_neg (by omega)]
  refine ζf ϱ (ζy ϱ (ζl d ϱ ?_));refine ζc rfl (XaK m u.own) ?_;rintro _ n ⟨rfl,i⟩;refine ζa ϱ ?_;rw[eB];exact ζr func11 ϱ ⟨none,0,by rw[eE];rfl,Rd.nil _ _ _,(by intro b off s' e;cases e),by rw[eS];exact i.up f⟩
 by_cases k:u.kind%7=2
 ·have eE:Aj c s u=B2 c s u.own u.a:=by unfold Aj;rw[if_neg g,if_neg j,if_pos k]
  have eS:Yy c s u=Ac c s u.own u.a:=by unfold Yy;rw[if_neg g,if_neg j,if_pos k]
  have eB:Q5 c s u=[]:=by unfold Q5;rw[if_neg (by omega)]
  refine ζf ϱ (ζf ϱ (ζy ϱ (ζl d ϱ (ζl d ϱ ?_))));refine ζc rfl (Xjv m u.own u.a) ?_;rintro _ n ⟨rfl,i⟩;refine ζa ϱ ?_;rw[eB];exact ζr func11 ϱ ⟨none,0,by rw[eE];rfl,Rd.nil _ _ _,(by intro b off s' e;cases e),by rw[eS];exact i.up f⟩
 by_cases l:u.kind%7=3
 ·have eE:Aj c s u=Qp s u.own u.a u.b:=by unfold Aj;rw[if_neg g,if_neg j,if_neg k,if_pos l]
  have eS:Yy c s u=Br c s u.own u.a u.b:=by unfold Yy;rw[if_neg g,if_neg j,if_neg k,if_pos l]
  have eB:Q5 c s u=Di c s u.own u.a u.b:=by unfold Q5;rw[if_pos l]
  refine ζf ϱ (ζf ϱ (ζf ϱ (ζy ϱ (ζl d ϱ (ζl d ϱ (ζl d ϱ (ζc ϱ (XeD m u.own u.a u.b hu.a hu.b) ?_)))))));rintro _ n ⟨x,r,rfl,t,q,i⟩;refine ζa ϱ ?_;rw[eB,eE,eS];exact ζr func11 ϱ ⟨x,r,rfl,t,(λb off s' e=>⟨by have:=(q b off s' e).1;have:=f.size;omega,(q b off s' e).2⟩),i.up f⟩
 by_cases o:u.kind%7=4
 ·have eE:Aj c s u=Qp s u.own u.a u.bs.length:=by unfold Aj;rw[if_neg g,if_neg j,if_neg k,if_neg l,if_pos o]
  have eS:Yy c s u=Cc c s u.own u.a u.bs:=by unfold Yy;rw[if_neg g,if_neg j,if_neg k,if_neg l,if_pos o]
  have eB:Q5 c s u=[]:=by unfold Q5;rw[if_neg (by omega)]
  refine ζf ϱ (ζf ϱ (ζf ϱ (ζf ϱ (ζy ϱ (ζl d ϱ (ζl d ϱ (ζl d ϱ ?_)))))));refine ζc rfl (XeG m u.own u.a u.ba u.bc u.bs hu.a (hu.rd.chg f) hu.lc (by have:=hu.lc;have:=hu.len;omega) hu.rng hout) ?_;rintro _ n ⟨rfl,i⟩;refine ζa ϱ ?_;rw[eB];exact ζr func11 ϱ ⟨none,0,by rw[eE];rfl,Rd.nil _ _ _,(by intro b off s' e;cases e),by rw[eS];exact i.up f⟩
 by_cases p:u.kind%7=5
 ·have eE:Aj c s u=0:=by unfold Aj;rw[if_neg g,if_neg j,if_neg k,if_neg l,if_neg o,if_pos p]
  have eS:Yy c s u=C5 c s:=by unfold Yy;rw[if_neg g,if_neg j,if_neg k,if_neg l,if_neg o,if_pos p]
  have eB:Q5 c s u=[]:=by unfold Q5;rw[if_neg (by omega)]
  refine ζf ϱ (ζf ϱ (ζf ϱ (ζf ϱ (ζf ϱ (ζy ϱ ?_)))));refine ζc rfl (XeF m) ?_;rintro _ n ⟨rfl,i⟩;refine ζa ϱ ?_;rw[eB];exact ζr func11 ϱ ⟨none,0,by rw[eE];rfl,Rd.nil _ _ _,(by intro b off s' e;cases e),by rw[eS];exact i.up f⟩
 ·have eE:Aj c s u=Cv s u.own u.a:=by unfold Aj;rw[if_neg g,if_neg j,if_neg k,if_neg l,if_neg o,if_neg p]
  have eS:Yy c s u=Dj s u.own u.a:=by unfold Yy;rw[if_neg g,if_neg j,if_neg k,if_neg l,if_neg o,if_neg p]
  have eB:Q5 c s u=[]:=by unfold Q5;rw[if_neg (by omega)]
  refine ζf ϱ (ζf ϱ (ζf ϱ (ζf ϱ (ζf ϱ (ζf ϱ (ζl d ϱ (ζl d ϱ ?_)))))));refine ζc rfl (Xjw m u.own u.a) ?_;rintro _ n ⟨rfl,i⟩;refine ζa ϱ ?_;rw[eB];exact ζr func11 ϱ ⟨none,0,by rw[eE];rfl,Rd.nil _ _ _,(by intro b off s' e;cases e),by rw[eS];exact i.up f⟩
theorem Xjf(c:Conf)(p:Yu)(w:World)(hc:Ys w c p)(ht:Bb w)(hm:X6 c=true)(hp:c.pages<=512)(hk:Yj w p.ka):Xf prog 10 #[.agg (Zj c p).toArray] w
 (λv w'=>∃F S r n0,v=.tuple #[Zx S,.agg (Zv r).toArray]/\n0<=w'.heap.size/\Lv c n0 w w' F S (Ao c)/\S.R.lap=0/\X4 w' r (Ao c)/\(r.c=c/\r.cp=p)/\(∀T:Nat->Prop,(∀z,T z->z<w.heap.size\/F z)->Xj T p.ka->Am T r)):=by
 refine ζe func10 ntmps10 ϱ (ζn ϱ λb w1 e1 U I a3=>ζn ϱ λqb V e2 J s a4=>?_);have t:=s.heap' U;have d:=I.trans s;refine ζl t ϱ (ζc ϱ (XeC c p V (hc.chg d) (ht.grow d) hm) ?_);rintro _ C ⟨F,S,rfl,D,E,u,h⟩;have i:=d.trans h;refine ζa ϱ (ζl (h.heap' t) ϱ (ζc ϱ (Xlg c p C (hc.chg i) hm hp) ?_));rintro _ w4 ⟨r,rfl,y,A,K,j,B⟩;refine ζa ϱ (ζn ϱ λxb w5 e5 L M a5=>ζs L ϱ λw6 G N a6=>?_);have f:=M.since N (λz a e=>by omega);refine ζd 3 Xe (by kernel_rfl) ϱ λO=>δl O G ϱ (δn O ϱ λW k=>?_);have m:=(B.trans (f.trans k)).heap' (h.heap' J);have g:=B.trans (f.trans k);have n:=D.grow g;have s3:=h.size;have a7:=g.size;refine ζs m ϱ λw8 H o a8=>?_;have P:¬F qb:=λa=>by have:=D.base qb a;omega
 have q:=(i.trans g).since o (λz a e=>by omega);have tl:0<w.heap.size:=by have:=World.block_lt_of_cell? w _ (ht 0 (by decide));exact this
 have Q:Lv c C.heap.size w w8 F S (Ao c):=by
  obtain⟨Fr,mo,k1⟩:=n.ok;obtain⟨l,a⟩:∃l,W.heap[qb]?=some (.cells (Value.int .i64 0::l).toArray 42 (0,0)):=⟨_,m⟩;exact⟨⟨Fr,mo,(k1.old a P (by decide) (λx e=>by cases e) (by omega) (by rw[u];intro off s' e;have:=hc.classes.block (by have:=(Yp hm).n;omega) e;omega) (by rw[u];intro off s' e;have:=hk _ _ _ e;omega) o)⟩,n.inv,n.sc,n.fx,λz a=>by have:=n.base z a;omega,q⟩
 exact ζq rfl func10 (Xm.tmp rfl (Xm.cell rfl rfl rfl H rfl .nil)) ⟨F,S,r,C.heap.size,rfl,by omega,Q,E,((K.grow (f.trans k)).far (j _ (λz e=>by omega) (λb' off s' e a=>by have:=hk _ _ _ e;omega)) (by rw[y,A];exact hc.chg q) o),⟨y,A⟩,λT hT R=>j T (λz a=>(hT z a).elim (by omega) (λa=>D.low z a)) R⟩
section
variable {c:Conf}{s:StM}{pd:Option (Nat×PlcM)}
theorem XgR{q:PlcM}(h:s.OkP c (some (o,q)))(ht:0<=s.rm.tot/\s.rm.tot<=999999900000):0<=(Au c s q).rm.tot/\(Au c s q).rm.tot<=s.rm.tot+40000:=by
 obtain⟨e,i,j⟩:=Xdr h.rm q;have a:0<=(Ym s.rm q).tot/\(Ym s.rm q).tot<=s.rm.tot+10000:=by
  rw[<-e];show 0<=Xx s.rm.tot _/\Xx s.rm.tot _<=_
  rw[Bl (by omega)];omega
 have b:=h.dropped;unfold Au;split
 ·show 0<=(Ym s.rm q).tot/\(Ym s.rm q).tot<=_
  omega
 ·have d:=Va b q.cls.toNat ⟨a.1,by have:=a.2;show(Ym s.rm q).tot<=_;omega⟩;have g:(Yc c {s with rm:=Ym s.rm q} q.cls.toNat).rm.tot<=(Ym s.rm q).tot+10000:=d.2;have f:=Xce (b.begin q.cls.toNat) q.cls.toNat c.step ⟨d.1,by omega⟩;exact⟨f.1,by omega⟩
theorem XgS(o:Int)(i n:Nat)(hn:n<=25000000)(ht:0<=s.rm.tot/\s.rm.tot<=1000000000000):0<=(Qt s o i n).rm.tot/\(Qt s o i n).rm.tot<=s.rm.tot+n:=by
 unfold Qt;split
 ·rename_i m _
  split
  ·have a:Q2 i n m.gone<=n:=by unfold Q2;omega
   show 0<=Xx s.rm.tot _/\Xx s.rm.tot _<=_
   rw[Bl (by omega)];omega
  ·omega
 ·omega
theorem XgQ(q:Plc)(i n:Nat)(hm:X6 c=true)(hn:n<=25000000)(ht:0<=s.rm.tot/\s.rm.tot<=1000000000000):0<=(Y1 s (X5 c q i n)).rm.tot/\(Y1 s (X5 c q i n)).rm.tot<=s.rm.tot+(2*n+1):=by
 have:=I2 (q:=q) (at':=i) (n:=n) hm;show 0<=Xx s.rm.tot _/\Xx s.rm.tot _<=_
 rw[Bl (by omega)];omega
theorem XmY{u:D8}(h:s.Ok c)(ht:0<=s.rm.tot/\s.rm.tot<=900000000000):0<=(Yy c s u).rm.tot/\(Yy c s u).rm.tot<=s.rm.tot+1000000000:=by
 have z:=(Yp h.may).most.2;unfold Yy;split
 ·unfold Q8;split
  ·rename_i d
   obtain⟨j,e,w,x,n⟩:=O5 d;rw[e];have:=Xcf h j w u.a (StM.OkP.lay h x n (by rintro _ _ ⟨⟩)) ⟨ht.1,by omega⟩;omega
  ·omega
 split
 ·unfold Bq;split
  ·omega
  ·rename_i y
   obtain⟨j,t,e,a⟩:=Hs (Decidable.not_not.1 y);rw[e,Yq a];obtain⟨t',b,_,_,_,f⟩:=Kq h a;rw[Yq b,XA];have i:=Vb h t.q.cls ⟨ht.1,by omega⟩;have p:=XgR ((Jt h t.q.cls).ok.away b f) ⟨i.1,by have:=i.2;show(X7 s t.q.cls).rm.tot<=_;omega⟩;refine⟨p.1,Int.le_trans p.2 ?_⟩;show(X7 s t.q.cls).rm.tot+40000<=_
   omega
 split
 ·unfold Ac;split
  ·omega
  ·rename_i d
   obtain⟨j,t,e,a,A,g⟩:=Rt (Decidable.not_not.1 d);have m:=h.size j t a;rw[e,C4 a,Yq a];split
   ·split
    ·have o:(Xz (t.size-u.a).toNat).length<=25000000:=by rw[Dl];omega
     have b:=Ox (s:=s) h.may t.q u.a.toNat (Xz (t.size-u.a).toNat) ⟨ht.1,by omega⟩ o;rw[Dl] at o b;have f:=XgS (s:=C3 (Zw c s t.q u.a.toNat (Xz (t.size-u.a).toNat)) (j:Nat) ⟨u.a,t.q⟩) (j:Nat) u.a.toNat (t.size-u.a).toNat o ⟨b.1,by have:=b.2;show(Zw c s t.q u.a.toNat _).rm.tot<=_;omega⟩;exact⟨f.1,by have:=f.2;have:=b.2;have e:(C3 (Zw c s t.q u.a.toNat (Xz (t.size-u.a).toNat)) (j:Nat) ⟨u.a,t.q⟩).rm.tot=(Zw c s t.q u.a.toNat (Xz (t.size-u.a).toNat)).rm.tot:=rfl;omega⟩
    ·show 0<=s.rm.tot/\s.rm.tot<=_
     omega
   ·rename_i q
    rcases g with g|⟨g,n⟩
    ·exact absurd g q
    ·obtain⟨t',M⟩:=L4 h a g n;have r:=(List.getElem?_eq_some_iff.1 M.th1).1;unfold G5;simp only
     rw[Yq a,Yq M.th1,C4 a];have i:=Vb h t.q.cls ⟨ht.1,by omega⟩;have b:=XgQ (s:=X7 s t.q.cls) t'.q.plc 0 (min t.size u.a).toNat h.may (by omega) ⟨i.1,by omega⟩;have f:=Xcf (M.ok1.tot (X5 c t'.q.plc 0 (min t.size u.a).toNat)) j r u.a M.ok2 ⟨b.1,by omega⟩;have k:(Yr c t'.q.plc (X7 s t.q.cls).bs 0 (min t.size u.a).toNat).length=(min t.size u.a).toNat:=by unfold Yr;rw[XN,YK]
     have l:=Ox (s:=Yv c (Y1 (X7 s t.q.cls) (X5 c t'.q.plc 0 (min t.size u.a).toNat)) (j:Nat) u.a) h.may (Yz (Yv c (Y1 (X7 s t.q.cls) (X5 c t'.q.plc 0 (min t.size u.a).toNat)) (j:Nat) u.a) (j:Nat)) 0 (Yr c t'.q.plc (X7 s t.q.cls).bs 0 (min t.size u.a).toNat) ⟨f.1,by omega⟩ (by rw[k];omega);rw[k] at l;have v:=XgR (M.ok2.put _ 0 (K9 M.ok1.bi _ _)) ⟨l.1,by omega⟩;exact⟨v.1,by have:=v.2;omega⟩
 split
 ·unfold Br;split
  ·rename_i d
   obtain⟨j,t,e,a,_,_,l⟩:=Vf d;have m:=h.size j t a;have:=XgQ (s:=s) (Yz s u.own).plc u.a.toNat u.b.toNat h.may (by omega) ⟨ht.1,by omega⟩;omega
  ·omega
 split
 ·unfold Cc;split
  ·rename_i d
   obtain⟨j,t,e,a,_,_,l⟩:=Vf d;have m:=h.size j t a;have b:=Ox (s:=s) h.may (Yz s u.own) u.a.toNat u.bs ⟨ht.1,by omega⟩ (by omega);have f:=XgS (s:=Zw c s (Yz s u.own) u.a.toNat u.bs) u.own u.a.toNat u.bs.length (by omega) ⟨b.1,by omega⟩;omega
  ·omega
 split
 ·have k:s.mv.length<=16:=by have:=h.ml;have:=(Yp h.may).n;omega
  have:=Xcg h ⟨ht.1,by omega⟩ s.mv.length k;unfold C5;omega
 ·unfold Dj;split
  ·show 0<=s.rm.tot/\s.rm.tot<=_
   omega
  ·omega
end
theorem Xj.or{A:Nat->Prop}(h1:Xj A a)(h2:Xj B a)(h:∀z,C z->A z\/B z):Xj C a:=λb off s e c=>(h b c).elim (h1 b off s e) (h2 b off s e)
theorem Z6.or{A B C:Nat->Prop}{r:RS}(h1:Z6 A r)(h2:Z6 B r)(h:∀z,C z->A z\/B z):Z6 C r:=⟨h1.o.or h2.o h,h1.f.or h2.f h,h1.nums.or h2.nums h,h1.opn.or h2.opn h,h1.pa.or h2.pa h,λl a=>(h1.each l a).or (h2.each l a) h⟩
theorem B3.or{A B C:Nat->Prop}{r:RR}(h1:B3 A r)(h2:B3 B r)(h:∀z,C z->A z\/B z):B3 C r:=⟨h1.o.or h2.o h,h1.f.or h2.f h,h1.sa.or h2.sa h,λs a=>(h1.each s a).or (h2.each s a) h,h1.la.or h2.la h,λq b=>(h1.lgo q b).or (h2.lgo q b) h⟩
theorem Am.or{A B C:Nat->Prop}{r:SR}(h1:Am A r)(h2:Am B r)(h:∀z,C z->A z\/B z):Am C r:=⟨h1.k.or h2.k h,h1.ra.or h2.ra h,h1.rr.or h2.rr h,h1.ta.or h2.ta h,λt a=>(h1.tq t a).or (h2.tq t a) h,h1.ma.or h2.ma h⟩
structure Bs(c:Conf)(p:Yu)(n0:Nat)(w0 w:World)(F:Nat->Prop)(s:StM)(r:SR)(xb:Nat):Prop where
 sr:X4 w r s
 rc:r.c=c/\r.cp=p
 out:Am F r
 xr:Am (λz=>z=xb) r
 box:Zg w xb r
 xo:n0<=xb/\w0.heap.size<=xb/\¬F xb
section
variable {c:Conf}{p:Yu}{n0:Nat}{w0 w w':World}{F F':Nat->Prop}{S S':Sto}{s s':StM}{r:SR}{xb:Nat}
theorem Bs.grow(h:Bs c p n0 w0 w F s r xb)(hc:Xc Xe w w'):Bs c p n0 w0 w' F s r xb:=⟨h.sr.grow hc,h.rc,h.out,h.xr,hc.heap' h.box,h.xo⟩
theorem Bs.prog(h:Bs c p n0 w0 w F s r xb)(hc:Ys w' c p)(hF:∀z,F' z->F z\/w.heap.size<=z)(hch:Xc F w w'):Bs c p n0 w0 w' F' s r xb:=
 ⟨h.sr.far h.out (by rw[h.rc.1,h.rc.2];exact hc) hch,h.rc,h.out.or (h.sr.out λ_ a=>a) hF,h.xr,hch.heap h.box h.xo.2.2,h.xo.1,h.xo.2.1,λa=>(hF _ a).elim h.xo.2.2 λg=>by have:=Xg h.box;omega⟩
end
abbrev Xdz(n:Nat)(E:Int)(x:SR×Option Addr×Nat):Value:=.tuple #[.agg (Zv x.1).toArray,.slice x.2.1 n x.2.2,.int .i64 E]
abbrev S7(w:World)(r:SR)(s':StM)(bs:List Int)(x:SR×Option Addr×Nat)(w2:World):Prop:=X4 w2 x.1 s'/\Zs w r x.1/\Xc Xe w w2/\Rd .u8 w2 x.2.1 bs/\∀b off s',x.2.1=some ⟨b,off,s'⟩->w.heap.size<=b
abbrev XdA(x:SR×Option Addr×Nat)(b:Nat):Prop:=Am (λz=>z=b) x.1/\Xj (λz=>z=b) x.2.1
theorem Xix{w:World}{r:SR}{s':StM}:∀x w2 w3,S7 w r s' bs x w2->Xc Xe w2 w3->S7 w r s' bs x w3:=λ_ _ _ ⟨a,b,c,d,e⟩ f=>⟨a.grow f,b,c.trans f,d.chg f,e⟩
theorem Xld{c:Conf}{p:Yu}{n0:Nat}{w0 w:World}{F:Nat->Prop}{s:StM}{r:SR}{xb:Nat}(h:Bs c p n0 w0 w F s r xb)(u:D8)(hs:s.Ok c)(hu:Ix w u)(ht:0<=s.rm.tot/\s.rm.tot<=999900000000):∀w',Xc Xe w w'->Xf prog 12 #[.agg (Zv r).toArray,.agg (Fh u).toArray] w' (λv w2=>Xc Xe w' w2/\∃x,v=Xdz (Q5 c s u).length (Aj c s u) x/\S7 w r (Yy c s u) (Q5 c s u) x w2/\∀b,w.heap.size<=b->(b<w'.heap.size\/w2.heap.size<=b)->XdA x b):=λw' d=>by
 have g:=Xlc u (h.sr.grow d) (by rw[h.rc.1];exact hs) (hu.grow d) ht;rw[h.rc.1] at g;refine g.mono λv w2 ⟨r',a,cap,e,k,i,f⟩=>⟨f.2.2,(r',a,cap),e,⟨f.1,f.2.1.back d.size,d.trans f.2.2,k,λb off s' e=>?_⟩,λb l j=>⟨XbP h.sr f.1 f.2.1 b l j,λb' off s' e m=>?_⟩⟩
 ·have:=(i b off s' e).1;have:=d.size;omega
 ·have:=i b' off s' e;omega
section
variable {c:Conf}{s:StM}{pd:Option (Nat×PlcM)}
end
def Eb(l:List Nat)(n:Nat):Nat:=l.length+if n∈l then 0 else 1
theorem S6(l:List Nat)(n:Nat):l.length<=Eb l n:=Nat.le_add_right _ _
def Qs(M:RmM)(k:Int):List Nat:=match Zc M k with|none=>[]|some x=>x.opn
theorem Hr(M:RmM)(k:Int):(Qs M k).length=Zf M k:=by
 unfold Qs Zf;cases Zc M k <;> rfl
theorem P5{M:RmM}{k:Int}(h:Zc M k=some x):Qs M k=x.opn:=by unfold Qs;rw[h]
theorem XdM{l:List Nat}(hn:l.Nodup)(hm:n∈l):(l.filter (λm=>m != n)).length+1=l.length:=by
 rw[<-hn.erase_eq_filter n,List.length_erase_of_mem hm];have:=List.length_pos_of_mem hm;omega
theorem Xiu{l:List Nat}(hn:l.Nodup)(hm:n∈l)(m:Nat):Eb (l.filter (λz=>z != n)) m<=Eb l m:=by
 have:=XdM hn hm;have a:=S6 l m;have b:Eb (l.filter (λz=>z != n)) m<=(l.filter (λz=>z != n)).length+1:=by
  unfold Eb;split <;> omega
 omega
theorem XlQ{pl:PlM}(hok:x.Ok):(x.opn≠[]->(∀m,Eb (Q0 x pl who).opn m<=Eb x.opn m)/\(Q0 x pl who).opn.length<=x.opn.length)/\(x.opn=[]->(Q0 x pl who).opn.length<=1):=by
 rcases J9 x pl who with⟨_,h,_⟩|⟨_,_,⟨n,r,a,h,_⟩|⟨n,r,a,_,h,_⟩⟩
 ·rw[h];exact⟨λ_=>⟨λ_=>XE _,XE _⟩,λe=>by rw[e];exact XL _⟩
 ·rw[h];refine⟨λ_=>?_,λe=>by rw[a] at e;cases e⟩;have b:n∈x.opn:=by rw[a];simp
  unfold Sm.takeAt;simp only
  split
  ·exact⟨λm=>Xiu hok.onodup b m,by have:=XdM hok.onodup b;omega⟩
  ·exact⟨λ_=>XE _,XE _⟩
 ·rw[h];refine⟨λe=>absurd a e,λ_=>?_⟩;unfold Sm.takeAt Sm.fresh;simp only
  rw[a];split
  ·exact ZW (λm=>m != n) [n]
  ·exact XE _
theorem XlP{n i:Int}(hok:x.Ok):(Qj x n i).opn.length<=Eb x.opn n.toNat/\((Qj x n i).opn.length<=x.opn.length\/∃(m:Nat) (p:List Int),n=m/\m∉x.opn/\(Qj x n i).opn=m::x.opn/\Zi (Qj x n i).pg m=some p/\Xu p+1=(Qj x n i).blocks):=by
 have a:=S6 x.opn n.toNat;unfold Qj;cases j:Zi x.pg n with
 |none=>exact⟨a,.inl (XE _)⟩
 |some p=>
  obtain⟨m,rfl,f⟩:=Ga j;simp only
  by_cases d:Qx p i=0
  ·rw[if_pos d,XA];rw[XA] at a;have k:=Xa7 d;obtain⟨e1,e2,e3⟩:=hok.each _ f;simp only at e3
   unfold Sm.giveAt;simp only
   by_cases e:Xu p=x.blocks
   ·have c:m∉x.opn:=λh=>e3.1 h e;rw[if_pos e];by_cases b:Xu (Z7 p i)=0
    ·rw[if_pos b];have g:((m::x.opn).filter (λz=>z != m)).length<=x.opn.length:=by
      rw[XY,if_neg (by simp)];exact ZW _ _
     exact⟨ZV g a,.inl g⟩
    ·rw[if_neg b];refine⟨by unfold Eb;rw[if_neg c];exact XE _,.inr ⟨m,Z7 p i,rfl,c,rfl,?_,?_⟩⟩
     ·show Zi (Zo x.pg m (Z7 p i)) (m:Nat)=_
      rw[Ut hok.nodup f,if_pos rfl]
     ·show Xu (Z7 p i)+1=x.blocks
      omega
   ·rw[if_neg e];by_cases b:Xu (Z7 p i)=0
    ·rw[if_pos b];have:=ZW (λz=>z != m) x.opn;exact⟨ZV this a,.inl this⟩
    ·rw[if_neg b];exact⟨a,.inl (XE _)⟩
  ·rw[if_neg d];exact⟨a,.inl (XE _)⟩
section
variable {c:Conf}{M:RmM}
theorem P6(hn:n<M.shs.length)(x':Sm)(q:PlM)(j:Int):Qs (Fz M n x' q) j=if j=n then x'.opn else Qs M j:=by
 unfold Qs;rw[show Zc (Fz M n x' q) j=Zc (D1 M n x' q) j from rfl,Om hn];by_cases a:j=n
 ·rw[if_pos a,if_pos a]
 ·rw[if_neg a,if_neg a]
theorem XgL(h:Yx c M)(k who:Int):(∀j,j≠k->Qs (Z9 M k who) j=Qs M j)/\(Qs M k≠[]->(∀m,Eb (Qs (Z9 M k who) k) m<=Eb (Qs M k) m)/\Zf (Z9 M k who) k<=Zf M k)/\(Qs M k=[]->Zf (Z9 M k who) k<=1):=by
 rw[<-Hr,<-Hr];unfold Z9;cases d:Zc M k with
 |none=>
  have e:Qs M k=[]:=by unfold Qs;rw[d]
  refine⟨λ_ _=>rfl,λh=>absurd e h,λ_=>?_⟩;simp only
  rw[e];exact XL _
 |some x=>
  obtain⟨n,rfl,f,g⟩:=Dt d;simp only
  split
  ·obtain⟨a,b⟩:=XlQ (pl:=M.pl) (who:=who) (h.mok.sh n x g).1;rw[XA,P6 f,if_pos rfl,P5 d];exact⟨λj i=>by rw[P6 f,if_neg i],a,b⟩
  ·exact⟨λ_ _=>rfl,λ_=>⟨λ_=>XE _,XE _⟩,λh=>by rw[h];exact XL _⟩
theorem XdY(h:Yx c M)(k n i:Int):(∀j,j≠k->Qs (Qb M k n i) j=Qs M j)/\Zf (Qb M k n i) k<=Eb (Qs M k) n.toNat/\(Zf (Qb M k n i) k<=Zf M k\/∃(m:Nat) (x:Sm) (p:List Int),n=m/\m∉Qs M k/\Zc (Qb M k n i) k=some x/\x.opn=m::Qs M k/\Zi x.pg m=some p/\Xu p+1=x.blocks):=by
 rw[<-Hr,<-Hr];have e:=S6 (Qs M k) n.toNat;unfold Qb;cases f:Zc M k with
 |none=>exact⟨λ_ _=>rfl,e,.inl (XE _)⟩
 |some x=>
  obtain⟨l,rfl,d,g⟩:=Dt f;simp only
  split
  ·obtain⟨a,b⟩:=XlP (n:=n) (i:=i) (h.mok.sh l x g).1;rw[XA,P6 d,if_pos rfl,P5 f];refine⟨λj o=>by rw[P6 d,if_neg o],a,b.imp id ?_⟩;rintro⟨m,p,e1,e2,e3,e4,e5⟩;refine⟨m,Qj x n i,p,e1,e2,?_,e3,e4,e5⟩;rw[show Zc (Fz M l (Qj x n i) (A3 x M.pl n i)) (l:Nat)=Zc (D1 M l (Qj x n i) (A3 x M.pl n i)) (l:Nat) from rfl,Om d,if_pos rfl]
  ·exact⟨λ_ _=>rfl,e,.inl (XE _)⟩
theorem Xe3(M:RmM)(k n i who j:Int):Qs (Qe M k n i who) j=Qs M j:=by
 unfold Qe;cases b:Zc M k with
 |none=>rfl
 |some x=>
  obtain⟨l,rfl,c,d⟩:=Dt b;simp only
  rw[XA];by_cases a:j=(l:Nat)
  ·have e:Zc (D1 M l (Aq x n i who) M.pl) j=some (Aq x n i who):=by rw[Om c,if_pos a]
   rw[P5 e,a,P5 b];unfold Aq;split <;> rfl
  ·unfold Qs;rw[Om c,if_neg a]
theorem XiB(M:RmM){q:PlcM}(h:q.cls<0)(j:Int):Qs (Ym M q) j=Qs M j:=by
 unfold Ym;split
 ·unfold Qb;rw[Ol h]
 ·split
  ·rfl
  ·split <;> rfl
end
theorem Ot{s s':StM}{v:Option MvM}(hs:s'.mv=s.mv.set k v){i:Int}(hi:i≠k):Xt s' i=Xt s i:=by
 unfold Xt;rw[hs];by_cases h:0<=i
 ·rw[if_pos h,if_pos h,XC,XC,XQ (by omega)]
 ·rw[if_neg h,if_neg h]
theorem XbQ{s s':StM}(hs:s'.mv=s.mv.set k none):Xt s' (k:Nat)=none:=by
 unfold Xt;rw[hs,if_pos (by omega),XA,XC];by_cases h:k<s.mv.length
 ·rw[XF h];rfl
 ·rw[XV (by rw[XG];omega)];rfl
def Hq(s:StM)(k:Nat):Nat:=match Xt s (k:Nat) with|none=>Zf s.rm (k:Nat)|some m=>Eb (Qs s.rm (k:Nat)) m.pf.toNat
def OI(s:StM):Prop:=∀k:Nat,(Hq s k:Int)<=s.keep.getD k 0+1
theorem Kv{s:StM}(h:Xt s (k:Nat)=none):Hq s k=Zf s.rm (k:Nat):=by unfold Hq;rw[h]
theorem L8{s:StM}(h:Xt s (k:Nat)=some m):Hq s k=Eb (Qs s.rm (k:Nat)) m.pf.toNat:=by unfold Hq;rw[h]
theorem L7{s s':StM}(e1:Qs s'.rm (k:Nat)=Qs s.rm (k:Nat))(e2:Xt s' (k:Nat)=Xt s (k:Nat)):Hq s' k=Hq s k:=by
 unfold Hq;rw[e2,e1,<-Hr,<-Hr,e1]
theorem OI.of{s s':StM}(h:OI s)(e:∀k,Hq s' k<=Hq s k)(ek:s'.keep=s.keep):OI s':=λk=>by
 have a:=h k;have b:=e k;rw[ek];omega
theorem OI.le{s:StM}(h:OI s)(k:Nat):(Zf s.rm (k:Nat):Int)<=s.keep.getD k 0+1:=by
 have a:=h k;cases b:Xt s (k:Nat) with
 |none=>rw[Kv b] at a;exact a
 |some m=>
  rw[L8 b] at a;have:=S6 (Qs s.rm (k:Nat)) m.pf.toNat;rw[Hr] at this;omega
section
variable {c:Conf}{s s':StM}{pd:Option (Nat×PlcM)}
theorem Xaz(h:s.OkP c pd)(k:Nat):0<=s.keep.getD k 0:=by
 rw[XC];by_cases a:k<s.keep.length
 ·rw[XB a];exact(h.kr _ (XK a)).1
 ·rw[XV (by omega)];exact ZO _
theorem Xak{a b:Int}:E6 a b=true↔b+1<a:=by
 unfold E6;simp only[XJ,decide_eq_true_eq];omega
theorem OI.begin(h:OI s)(k:Nat):Yc c s k=s:=by
 unfold Yc;rw[if_neg];intro a;unfold Aw at a;simp only[XJ] at a;have:=Xak.1 a.1.2;have:=h.le k;omega
theorem OI.go(h:OI s)(hs:s.Ok c)(k:Nat)(n:Int):OI (Yo s k n):=by
 unfold Yo;cases b:Xt s (k:Nat) with
 |none=>exact h
 |some m=>
  obtain⟨j,ej,e,d⟩:=Qr b;obtain rfl:k=j:=by omega
  simp only
  split
  ·refine h.of (λi=>Nat.le_of_eq ?_) rfl;by_cases a:i=k
   ·subst a;rw[L8 b,L8 (Cr (j:=i) (show(s.mv.set i _)[i]?=_ from XF e))];rfl
   ·exact L7 rfl (Ot rfl (by omega))
  ·obtain⟨f,g,_⟩:=XdY (StM.OkP.step hs d n).rm (k:Nat) m.pf m.fa;refine h.of (λi=>?_) rfl;by_cases a:i=k
   ·subst a;rw[L8 b,Kv (XbQ rfl)];exact g
   ·exact Nat.le_of_eq (L7 (f _ (by omega)) (Ot rfl (by omega)))
theorem OI.finish(h:OI s)(hs:s.Ok c)(κ:Int):OI (X7 s κ):=by
 unfold X7;split
 ·exact h
 ·exact h.go hs _ _
theorem OI.clear{q:PlcM}(h:OI s)(hs:s.OkP c (some (o,q)))(hn:Xt s q.cls=none):OI (Au c s q):=by
 unfold Au;split
 ·rename_i B
  exact h.of (λi=>Nat.le_of_eq (L7 (XiB _ B _) rfl)) rfl
 ·rename_i S
  refine OI.go ?_ (StM.OkP.begin hs.dropped _) _ _;obtain⟨k,C⟩:=XD (show 0<=q.cls by omega);have g:=hs.dropped;rw[Uh (by omega),C] at g;rw[Uh (by omega),C,XA];rw[C] at hn;obtain⟨D,_,E⟩:=XdY hs.rm (k:Nat) q.page q.idx;have a0:=h.le k;obtain⟨b,eM⟩:∃b,b=Qb s.rm (k:Nat) q.page q.idx:=⟨_,rfl⟩;rw[<-eM] at D E g⊢;have y:Xt {s with rm:=b} (k:Nat)=none:=hn;by_cases l:Aw {s with rm:=b} k=true
  ·have A:=Sp g l;obtain⟨ob,tb,ew,_⟩:=A.who;replace ew:Zh b k (Ye b k).1 (Ye b k).2.1=ob:=ew;have n:=l;unfold Aw at n;simp only[XJ] at n;have F:s.keep.getD k 0+1<(Zf b (k:Nat):Int):=Xak.1 n.1.2;rcases E with E|⟨m,x,p,_,I,f,d,J,a2⟩
   ·omega
   obtain⟨j,ej,K,L⟩:=Dt f;obtain rfl:k=j:=by omega
   have M:=(g.rm.mok.sh k x L).1;obtain⟨m',em,N⟩:=Ga J;obtain rfl:m=m':=by omega
   have O:=(M.each _ N).2.1;have P:Qm x b.pl (ob:Nat)=0:=by
    unfold Qm;rw[if_neg (by omega),if_neg (by rw[d];simp)]
   have T:Qs (Z9 b (k:Nat) (ob:Nat)) (k:Nat)=Qs s.rm (k:Nat):=by
    have e1:Z9 b (k:Nat) (ob:Nat)=Fz b k (Q0 x b.pl (ob:Nat)) (B1 x b.pl (ob:Nat)):=by
     unfold Z9;rw[f];simp only
     rw[if_pos P,XA]
    rw[e1,P6 K,if_pos rfl];rcases J9 x b.pl (ob:Nat) with⟨a,_⟩|⟨_,_,⟨n',r,t,U,_,G,_⟩|⟨_,_,t,_⟩⟩
    ·exact absurd P a
    ·rw[d] at t;obtain rfl:m=n':=(List.cons.inj t).1;rw[J] at G;simp only[ZP] at G;rw[U,G];have a4:=Ja (p:=p) (who:=(ob:Nat)) (by omega) (by rw[O];show Xu p≠x.blocks;omega);unfold Sm.takeAt;simp only
     rw[if_pos (by omega),d,XY,if_neg (by simp)];refine List.filter_eq_self.2 λz V=>?_;simp only[bne_iff_ne,ne_eq];exact λe=>I (e▸V)
    ·rw[d] at t;cases t
   have u:2<=x.opn.length:=by
    have:=Xaz hs k;rw[<-Hr,P5 f] at F;omega
   have Q:∃a∈Qs s.rm (k:Nat),(Ye b (k:Nat)).1=(a:Nat):=by
    have e1:(Ye b (k:Nat)).1=Be (-1) x.opn:=by
     unfold Ye;rw[f];simp only
     unfold J8;rw[if_pos u]
    rw[e1,d];rcases I7 ((m:Nat):Int) (Qs s.rm (k:Nat)) with⟨e,_⟩|⟨a,H,e,_⟩
    ·rw[d,e] at u;simp at u
    ·exact⟨a,H,e⟩
   obtain⟨a,H,epf⟩:=Q;have eS:Yc c {s with rm:=b} k={s with rm:=Z9 b k (ob:Nat),mv:=s.mv.set k (some (I9 c b k))}:=by
    unfold Yc;rw[if_pos l];simp only
    rw[ew]
   rw[eS];refine h.of (λi=>?_) rfl;by_cases v:i=k
   ·subst v;have R:i<s.mv.length:=by have:=hs.ml;have:=A.kl;omega
    rw[Kv hn,L8 (Cr (j:=i) (show(s.mv.set i _)[i]?=_ from XF R))];show Eb (Qs (Z9 b (i:Nat) (ob:Nat)) (i:Nat)) (Ye b (i:Nat)).1.toNat<=_
    rw[T,epf,XA];unfold Eb;rw[if_pos H,Hr];exact XE _
   ·refine Nat.le_of_eq (L7 ?_ (Ot rfl (by omega)));exact((XgL g.rm (k:Nat) (ob:Nat)).1 _ (by omega)).trans (D _ (by omega))
  ·have eS:Yc c {s with rm:=b} k={s with rm:=b}:=by unfold Yc;rw[if_neg l]
   rw[eS];intro i;show(Hq {s with rm:=b} i:Int)<=s.keep.getD i 0+1
   by_cases v:i=k
   ·subst v;rw[Kv y];show(Zf b (i:Nat):Int)<=_
    by_cases W:s.keep.getD i 0+1<(Zf b (i:Nat):Int)
    ·refine absurd ?_ l;unfold Aw;rw[y,Xak.2 (show s.keep.getD i 0+1<(Zf b (i:Nat):Int) from W)];have w:2<=Zf b (i:Nat):=by have:=Xaz hs i;omega
     show(true && true && Gz b (i:Nat))=true
     unfold Gz;unfold Zf at w;cases f:Zc b (i:Nat) with
     |none=>rw[f] at w;simp at w
     |some x=>rw[f] at w;exact decide_eq_true w
    ·omega
   ·have e:=L7 (s:=s) (s':={s with rm:=b}) (k:=i) (D _ (by omega)) rfl;rw[e];exact h i
theorem OI.lay(h:OI s)(hs:s.OkP c pd)(o:Nat)(size:Int):OI (Yv c s (o:Nat) size):=by
 have f:=Xaz hs
 suffices r:OI (X9 c s (o:Nat) size) from r.of (λi=>XE _) rfl
 unfold X9;cases a:Ce c s size with
 |none=>
  simp only
  unfold Ab;rw[if_neg (by omega)];split
  ·exact h
  ·split
   ·exact h.of (λi=>XE _) rfl
   ·obtain⟨t,g,l⟩:=XgL hs.rm (Xk c.classes size) (o:Nat);intro i;show(Hq {s with rm:=Z9 s.rm (Xk c.classes size) (o:Nat)} i:Int)<=s.keep.getD i 0+1
    have hi:=h i;by_cases d:(i:Int)=Xk c.classes size
    ·rw[<-d] at g l⊢;cases b:Xt s (i:Nat) with
     |none=>
      rw[Kv b] at hi;rw[Kv (s:={s with rm:=Z9 s.rm (i:Nat) (o:Nat)}) b];show(Zf (Z9 s.rm (i:Nat) (o:Nat)) (i:Nat):Int)<=_
      by_cases n:Qs s.rm (i:Nat)=[]
      ·have:=l n;have:=f i;omega
      ·have:=(g n).2;omega
     |some m=>
      rw[L8 b] at hi;rw[L8 (s:={s with rm:=Z9 s.rm (i:Nat) (o:Nat)}) b];have p:Qs s.rm (i:Nat)≠[]:=λe=>by
       have u:Zf s.rm (i:Nat)=0:=by rw[<-Hr,e];rfl
       unfold Ce at a;rw[<-d,b] at a;simp only at a
       rw[if_pos u] at a;cases a
      have:=(g p).1 m.pf.toNat;show(Eb (Qs (Z9 s.rm (i:Nat) (o:Nat)) (i:Nat)) m.pf.toNat:Int)<=_
      omega
    ·have e:=L7 (s:=s) (s':={s with rm:=Z9 s.rm (Xk c.classes size) (o:Nat)}) (k:=i) (t _ d) rfl;rw[e];exact hi
 |some m=>
  simp only
  unfold Ce at a;cases b:Xt s (Xk c.classes size) with
  |none=>rw[b] at a;cases a
  |some m'=>
   rw[b] at a;simp only at a
   split at a
   ·rename_i q
    obtain⟨j,ej,w,_⟩:=Qr b;rw[ej] at q⊢;rw[XA];intro i;have v:=f i;by_cases d:i=j
    ·subst d;rw[Kv (XbQ (s:=s) (k:=i) rfl),<-Hr];show((Qs (Qe s.rm (i:Nat) m.pt m.ta (o:Nat)) (i:Nat)).length:Int)<=s.keep.getD i 0+1
     rw[Xe3,Hr,q];omega
    ·have e:=L7 (s:=s) (s':=Y1 {s with mv:=s.mv.set j none,rm:=Qe s.rm (j:Nat) m.pt m.ta (o:Nat)} 3) (k:=i) (Xe3 ..) (Ot rfl (by omega));rw[e];exact(h i)
   ·cases a
theorem OI.wrote(h:OI s)(o:Int)(i n:Nat):OI (Qt s o i n):=by
 unfold Qt;split
 ·split
  ·exact h.of (λi=>XE _) rfl
  ·exact h
 ·exact h
theorem OI.alloc(h:OI s)(hs:s.Ok c)(o size:Int):OI (Q8 c s o size):=by
 unfold Q8;split
 ·rename_i a
  obtain⟨j,rfl,_,b,_⟩:=O5 a;exact h.lay hs _ _
 ·exact h
theorem OI.free(h:OI s)(hs:s.Ok c)(o:Int):OI (Bq c s o):=by
 unfold Bq;split
 ·exact h
 ·rename_i d
  obtain⟨j,t,rfl,a⟩:=Hs (Decidable.not_not.1 d);rw[Yq a,XA];obtain⟨t',b,_,e,_,f⟩:=Kq hs a;rw[Yq b];refine OI.clear ((h.finish hs _).of (λi=>XE _) rfl) ((hs.finish t.q.cls).away b f) ?_;rw[e];exact(Jt hs t.q.cls).mv
theorem Xji(c:Conf)(s:StM)(o:Nat)(size:Int){κ:Int}(hne:Xk c.classes size=-1\/Xk c.classes size≠κ)(hm:Xt s κ=none):Xt (Yv c s (o:Nat) size) κ=none:=by
 show Xt (X9 c s (o:Nat) size) κ=none
 unfold X9;cases a:Ce c s size with
 |none=>exact hm
 |some m=>
  have b:Xt s (Xk c.classes size)=some m:=by
   unfold Ce at a;cases e:Xt s (Xk c.classes size) with
   |none=>rw[e] at a;cases a
   |some m'=>
    rw[e] at a;simp only at a
    split at a
    ·exact a
    ·cases a
  obtain⟨j,ej,d,_⟩:=Qr b;simp only
  rw[ej,XA];by_cases e:κ=(j:Nat)
  ·rw[e];exact XbQ rfl
  ·exact(Ot rfl e).trans hm
theorem OI.moveTo(h:OI s)(hs:s.Ok c){t:ThM}(ht:s.th[o]?=some (some t))(hst:Af c t.size size=false)(hf:Qg c s size=0):OI (G5 c s o size):=by
 obtain⟨t',M⟩:=L4 hs ht hst hf;unfold G5;simp only
 rw[Yq ht,Yq M.th1,C4 ht];have b:OI (Y1 (X7 s t.q.cls) (X5 c t'.q.plc 0 (min t.size size).toNat)):=(h.finish hs _).of (λi=>XE _) rfl;have d:=b.lay (M.ok1.tot _) o size;refine OI.clear (d.of (λi=>XE _) rfl) (M.ok2.put _ _ (K9 M.ok1.bi _ _)) ?_;rw[M.cls'];have a:=Xgs hst;rw[<-Nm hs ht] at a;exact Xji c _ o size a (Jt hs t.q.cls).mv
theorem OI.resize(h:OI s)(hs:s.Ok c)(o size:Int):OI (Ac c s o size):=by
 unfold Ac;split
 ·exact h
 ·rename_i d
  obtain⟨j,t,rfl,b,f,e⟩:=Rt (Decidable.not_not.1 d);rw[C4 b,Yq b];split
  ·split
   ·exact(show OI (C3 (Zw c s t.q size.toNat (Xz (t.size-size).toNat)) (j:Nat) ⟨size,t.q⟩) from h.of (λi=>XE _) rfl).wrote _ _ _
   ·exact h.of (λi=>XE _) rfl
  ·rename_i a
   have a:Af c t.size size=false:=by simpa using a
   exact h.moveTo hs b a (e.resolve_left (by rw[a];decide)).2
theorem OI.read(h:OI s)(o i n:Int):OI (Br c s o i n):=by
 unfold Br;split
 ·exact h.of (λi=>XE _) rfl
 ·exact h
theorem OI.write(h:OI s)(o i:Int)(l:List Int):OI (Cc c s o i l):=by
 unfold Cc;split
 ·exact(show OI (Zw c s (Yz s o) i.toNat l) from h.of (λi=>XE _) rfl).wrote _ _ _
 ·exact h
theorem OI.tickK(h:OI s)(hs:s.Ok c)(n:Int)(k:Nat):OI (tickK c (s,n) k).1:=by
 unfold Go.Proofs.YtohjeeapehmkcaaGreatDoor.tickK;rw[h.begin];split
 ·exact h
 ·split
  ·exact h
  ·exact h.go hs k _
theorem OI.tickTo(h:OI s)(hs:s.Ok c):∀n,OI (tickTo c s n).1
 |0=>h
 |n+1=>by rw[Jl];exact OI.tickK (OI.tickTo h hs n) (hs.tickTo n) _ _
theorem OI.do22(h:OI s)(hs:s.Ok c)(u:D8)(hu:u.kind%7=0\/u.kind%7=1\/u.kind%7=2\/u.kind%7=3\/u.kind%7=4\/u.kind%7=5):OI (Yy c s u):=by
 unfold Yy;split
 ·exact h.alloc hs _ _
 split
 ·exact h.free hs _
 split
 ·exact h.resize hs _ _
 split
 ·exact h.read _ _ _
 split
 ·exact h.write _ _ _
 split
 ·exact h.tickTo hs _
 ·omega
theorem OI.new(hm:X6 c=true):OI (Ao c):=λk=>by
 have e:Xt (Ao c) (k:Nat)=none:=by
  cases h:Xt (Ao c) (k:Nat) with
  |none=>rfl
  |some m=>
   obtain⟨j,_,_,i⟩:=Qr h;have:=XP i;simp only[Ao,YR] at this;cases this.2
 rw[Kv e];have l:Zf (Ao c).rm (k:Nat)=0:=by
  unfold Zf;cases n:Zc (Ao c).rm (k:Nat) with
  |none=>rfl
  |some x=>
   obtain⟨j,_,_,b⟩:=Dt n;obtain⟨_,ex⟩:=L5 b;rw[ex];rfl
 rw[l];show(0:Int)<=c.keep.getD k 0+1
 have d:∀x∈c.keep,0<=x:=λx b=>by
  have a:=hm;unfold X6 at a;simp only[XJ,decide_eq_true_eq,Qv,Bool.not_eq_true'] at a;have f:=a.1.1.1.1.2.2;rw[YZ] at f;have:=f x b;unfold I6 Qv at this;simp at this;omega
 rw[XC];by_cases g:k<c.keep.length
 ·rw[XB g];have:=d _ (XK g);show 0<=c.keep[k]+1
  omega
 ·rw[XV (by omega)]
  decide
end
def Zd(s:StM)(pd:Option (Nat×PlcM)):Prop:=∀e∈s.rm.lg,(∃(o:Nat),∃t,s.th[o]?=some (some t)/\t.q.cls=-1/\t.q.page=(e.1:Nat))\/∃o q,pd=some (o,q)/\q.cls=-1/\q.page=(e.1:Nat)
section
variable {c:Conf}{s s':StM}{pd:Option (Nat×PlcM)}
theorem Zd.of(h:Zd s pd)(e1:s'.rm.lg=s.rm.lg)(e2:s'.th=s.th):Zd s' pd:=λe a=>by
 rw[e2];exact h e (e1▸a)
theorem Zd.begin(h:Zd s pd)(k:Nat):Zd (Yc c s k) pd:=by
 unfold Yc;split
 ·exact h.of (Rz ..) rfl
 ·exact h
theorem Zd.go(h:Zd s none)(hs:s.Ok c)(k:Nat)(n:Int):Zd (Yo s k n) none:=by
 unfold Yo;cases l:Xt s (k:Nat) with
 |none=>exact h
 |some m=>
  obtain⟨j,ej,r,f⟩:=Qr l;obtain⟨⟨o,t,e1,e2,e3⟩,_⟩:=hs.mv j m f;simp only
  split
  ·exact h.of rfl rfl
  ·intro e i;rw[Ry] at i;rcases h e i with⟨b,p,d,a,q⟩|⟨_,_,g,_⟩
   ·refine .inl ⟨b,p,?_,a,q⟩;show(s.th.set m.who.toNat _)[b]?=_
    rw[XQ]
    ·exact d
    ·intro e4;have:b=o:=by omega
     subst this;rw[e2] at d;cases d
     rw[e3] at a;have a:((j:Nat):Int)=-1:=a;omega
   ·cases g
theorem Zd.finish(h:Zd s none)(hs:s.Ok c)(κ:Int):Zd (X7 s κ) none:=by
 unfold X7;split
 ·exact h
 ·exact h.go hs _ _
theorem Zd.dropped{q:PlcM}(h:Zd s (some (o,q)))(hs:s.OkP c (some (o,q))):Zd {s with rm:=Ym s.rm q} none:=by
 intro e a;by_cases b:q.cls=-1
 ·obtain⟨n,r,k,f,t⟩:=hs.pl o q rfl b;rw[f,XfR hs.rm.ok k] at a;replace a:e∈Cp s.rm.lg n:=a;unfold Cp at a;obtain⟨l,i⟩:=List.mem_filter.1 a;rcases h e l with g|⟨m,p,g,j,d⟩
  ·exact .inl g
  ·cases g
   rw[f] at d;simp only[bne_iff_ne,ne_eq] at i;exact absurd (Int.ofNat_inj.1 d).symm i
 ·replace a:e∈(Ym s.rm q).lg:=a;rw[Uh b,Ry] at a;rcases h e a with g|⟨m,p,g,j,d⟩
  ·exact .inl g
  ·cases g
   exact absurd j b
theorem Zd.clear{q:PlcM}(h:Zd s (some (o,q)))(hs:s.OkP c (some (o,q))):Zd (Au c s q) none:=by
 unfold Au;split
 ·exact h.dropped hs
 ·exact((h.dropped hs).begin _).go (StM.OkP.begin hs.dropped _) _ _
theorem Zd.away(h:Zd s none){t:ThM}(ht:s.th[o]?=some (some t)):Zd {s with th:=s.th.set o none} (some (o,t.q)):=by
 intro e f;rcases h e f with⟨a,i,b,c,d⟩|⟨_,_,g,_⟩
 ·by_cases e1:o=a
  ·subst e1;rw[ht] at b;cases b
   exact .inr ⟨o,t.q,rfl,c,d⟩
  ·exact .inl ⟨a,i,by show(s.th.set o none)[a]?=_;rw[XQ e1];exact b,c,d⟩
 ·cases g
theorem Zd.lay(h:Zd s pd)(ho:s.th[o]?=some none):Zd (Yv c s (o:Nat) size) pd:=by
 have old:∀e∈s.rm.lg,(∃(b:Nat),∃t,(Yv c s (o:Nat) size).th[b]?=some (some t)/\t.q.cls=-1/\t.q.page=(e.1:Nat))\/∃b q,pd=some (b,q)/\q.cls=-1/\q.page=(e.1:Nat):=λe a=>by
  rcases h e a with⟨b,l,f,n,p⟩|g
  ·refine .inl ⟨b,l,?_,n,p⟩;show(s.th.set (o:Int).toNat _)[b]?=_
   rw[XA,XQ]
   ·exact f
   ·intro e1;subst e1;rw[ho] at f;cases f
  ·exact .inr g
 intro e a;replace a:e∈(X9 c s (o:Nat) size).rm.lg:=a;cases d:Ce c s size with
 |some m=>
  unfold X9 at a;rw[d] at a;replace a:e∈(Qe s.rm (Xk c.classes size) m.pt m.ta o).lg:=a;rw[XbA] at a;exact old e a
 |none=>
  have i:Zb c s (o:Nat) size=A2 c s.rm (o:Nat) size:=by unfold Zb;rw[d]
  unfold X9 at a;rw[d] at a;replace a:e∈(Ab c s.rm (o:Nat) size).lg:=a;unfold Ab at a;rw[if_neg (by omega)] at a;split at a
  ·exact old e a
  ·rename_i j
   split at a
   ·rename_i k
    rcases List.mem_append.1 a with g|g
    ·exact old e g
    ·rw[ZN] at g;refine .inl ⟨o,⟨size,Zb c s (o:Nat) size⟩,?_,?_,?_⟩
     ·show(s.th.set (o:Int).toNat _)[o]?=_
      rw[XA,XF ((List.getElem?_eq_some_iff.1 ho).1)]
     ·show(Zb c s (o:Nat) size).cls=-1
      rw[i];unfold A2;rw[if_neg (by omega),if_neg j,if_pos k]
     ·show(Zb c s (o:Nat) size).page=_
      rw[i,g];unfold A2;rw[if_neg (by omega),if_neg j,if_pos k]
   ·rw[Rz] at a;exact old e a
theorem Zd.wrote(h:Zd s pd)(o:Int)(i n:Nat):Zd (Qt s o i n) pd:=by
 unfold Qt;split
 ·split
  ·exact h.of rfl rfl
  ·exact h
 ·exact h
theorem Zd.sized(h:Zd s pd){t:ThM}(ht:s.th[o]?=some (some t))(size:Int):Zd (C3 s (o:Nat) ⟨size,t.q⟩) pd:=by
 intro e f;rcases h e f with⟨a,i,b,c,d⟩|g
 ·by_cases e1:o=a
  ·subst e1;rw[ht] at b;cases b
   refine .inl ⟨o,⟨size,t.q⟩,?_,c,d⟩;show(s.th.set (o:Int).toNat _)[o]?=_
   rw[XA,XF (List.getElem?_eq_some_iff.1 ht).1]
  ·refine .inl ⟨a,i,?_,c,d⟩;show(s.th.set (o:Int).toNat _)[a]?=_
   rw[XA,XQ e1];exact b
 ·exact .inr g
theorem Zd.alloc(h:Zd s none)(o size:Int):Zd (Q8 c s o size) none:=by
 unfold Q8;split
 ·rename_i a
  obtain⟨j,rfl,_,b,_⟩:=O5 a;exact h.lay b
 ·exact h
theorem Zd.free(h:Zd s none)(hs:s.Ok c)(o:Int):Zd (Bq c s o) none:=by
 unfold Bq;split
 ·exact h
 ·rename_i d
  obtain⟨j,t,rfl,b⟩:=Hs (Decidable.not_not.1 d);rw[Yq b,XA];obtain⟨t',a,_,_,_,e⟩:=Kq hs b;rw[Yq a];exact((h.finish hs _).away a).clear ((hs.finish t.q.cls).away a e)
theorem Zd.moveTo(h:Zd s none)(hs:s.Ok c){t:ThM}(ht:s.th[o]?=some (some t))(hst:Af c t.size size=false)(hf:Qg c s size=0):Zd (G5 c s o size) none:=by
 obtain⟨t',M⟩:=L4 hs ht hst hf;unfold G5;simp only
 rw[Yq ht,Yq M.th1,C4 ht];have b:Zd (Y1 {X7 s t.q.cls with th:=(X7 s t.q.cls).th.set o none} (X5 c t'.q.plc 0 (min t.size size).toNat)) (some (o,t'.q)):=((h.finish hs t.q.cls).away M.th1).of rfl rfl;have a:=b.lay (c:=c) (o:=o) (size:=size) (by show((X7 s t.q.cls).th.set o none)[o]?=_;rw[XF ((List.getElem?_eq_some_iff.1 M.th1).1)]);have e:Y1 {X7 s t.q.cls with th:=(X7 s t.q.cls).th.set o none} (X5 c t'.q.plc 0 (min t.size size).toNat)={Y1 (X7 s t.q.cls) (X5 c t'.q.plc 0 (min t.size size).toNat) with th:=(Y1 (X7 s t.q.cls) (X5 c t'.q.plc 0 (min t.size size).toNat)).th.set o none}:=rfl;rw[e,Xem] at a;exact Zd.clear (a.of rfl rfl) (M.ok2.put _ _ (K9 M.ok1.bi _ _))
theorem Zd.resize(h:Zd s none)(hs:s.Ok c)(o size:Int):Zd (Ac c s o size) none:=by
 unfold Ac;split
 ·exact h
 ·rename_i d
  obtain⟨j,t,rfl,b,f,e⟩:=Rt (Decidable.not_not.1 d);rw[C4 b,Yq b];split
  ·split
   ·exact((show Zd (Zw c s t.q size.toNat (Xz (t.size-size).toNat)) none from h.of rfl rfl).sized (o:=j) (t:=t) b size).wrote _ _ _
   ·exact h.sized b size
  ·rename_i a
   have a:Af c t.size size=false:=by simpa using a
   exact h.moveTo hs b a (e.resolve_left (by rw[a];decide)).2
theorem Zd.read(h:Zd s none)(o i n:Int):Zd (Br c s o i n) none:=by
 unfold Br;split
 ·exact h.of rfl rfl
 ·exact h
theorem Zd.write(h:Zd s none)(o i:Int)(l:List Int):Zd (Cc c s o i l) none:=by
 unfold Cc;split
 ·exact(show Zd (Zw c s (Yz s o) i.toNat l) none from h.of rfl rfl).wrote _ _ _
 ·exact h
theorem Zd.tickK(h:Zd s none)(hs:s.Ok c)(n:Int)(k:Nat):Zd (tickK c (s,n) k).1 none:=by
 unfold Go.Proofs.YtohjeeapehmkcaaGreatDoor.tickK;split
 ·exact h
 ·split
  ·exact h.begin k
  ·exact(h.begin k).go (StM.OkP.begin hs k) k _
theorem Zd.tickTo(h:Zd s none)(hs:s.Ok c):∀n,Zd (tickTo c s n).1 none
 |0=>h
 |n+1=>by rw[Jl];exact Zd.tickK (Zd.tickTo h hs n) (hs.tickTo n) _ _
theorem Zd.tick(h:Zd s none)(hs:s.Ok c):Zd (C5 c s) none:=h.tickTo hs _
theorem Zd.set(h:Zd s none)(k keep:Int):Zd (Dj s k keep) none:=by
 unfold Dj;split
 ·exact h.of rfl rfl
 ·exact h
theorem Zd.new(c:Conf):Zd (Ao c) none:=λe a=>by cases a
end
def Wu(p:List Int):List Nat:=(List.range p.length).filter λi=>decide (Z4 p (i:Nat)≠-1)
theorem Xc0:∀p:List Int,(Wu p).length=Xu p
 |[]=>rfl
 |o::r=>by
  have ih:=Xc0 r;have e:Xu (o::r)=(if o=-1 then 0 else 1)+Xu r:=by
   unfold Xu Y4;rw[ZB,cnt];by_cases h:o=-1
   ·simp[h]
   ·simp[h]
  rw[e,<-ih];unfold Wu;rw[XM,List.range_succ_eq_map,XY,List.filter_map,];have e2:((λi=>decide (Z4 (o::r) ((i:Nat):Int)≠-1)) ∘ Nat.succ)=λi=>decide (Z4 r ((i:Nat):Int)≠-1):=by
   funext i
   show decide (Z4 (o::r) ((i+1:Nat):Int)≠-1)=_
   unfold Z4;rw[if_pos (by omega),if_pos (by omega),XA,XA];rfl
  rw[e2];have e3:Z4 (o::r) ((0:Nat):Int)=o:=rfl;by_cases h:o=-1
  ·rw[if_neg (by rw[e3];simpa using h),if_pos h,XN];omega
  ·rw[if_pos (by rw[e3];simpa using h),if_neg h,XM,XN];omega
def Nf(x:Sm):List (Int×Int):=x.pg.flatMap λe=>(Wu e.2).map λ(i:Nat)=>((e.1:Int),(i:Int))
theorem Xh8(x:Sm):(Nf x).length=Yh x.pg:=by
 unfold Nf;generalize x.pg=l
 induction l with
 |nil=>rfl
 |cons e r ih=>rw[ZQ,XO,ih,XN,Xc0];rfl
theorem Xh9(hok:x.Ok){n a:Int}:(n,a)∈Nf x↔Qo x n a≠-1:=by
 constructor
 ·intro h;obtain⟨e,g,c⟩:=List.mem_flatMap.1 h;obtain⟨i,hi,b⟩:=List.mem_map.1 c;obtain⟨_,j⟩:=List.mem_filter.1 hi;cases b
  unfold Qo;rw[A6 hok.nodup (m:=e.1) (p:=e.2) g];exact of_decide_eq_true j
 ·intro h;obtain⟨m,p,rfl,d,_,k,c,b⟩:=Ty hok h;obtain⟨i,rfl⟩:=XD k;have f:=(hok.each _ d).2.1;refine List.mem_flatMap.2 ⟨(m,p),d,List.mem_map.2 ⟨i,List.mem_filter.2 ⟨List.mem_range.2 ?_,?_⟩,rfl⟩⟩
  ·show i<p.length
   have f:p.length=x.blocks:=f;omega
  ·rw[b] at h;exact decide_eq_true h
theorem Xia(hok:x.Ok):(Nf x).Nodup:=by
 unfold Nf List.Nodup;rw[List.pairwise_flatMap];refine⟨λe _=>?_,?_⟩
 ·rw[List.pairwise_map];refine List.Pairwise.imp (R:=λa b=>a≠b) (λ{a b} c e=>?_) (List.nodup_range.sublist (List.filter_sublist));have:=(Prod.mk.inj e).2;exact c (by omega)
 ·have h:=hok.nodup;unfold List.Nodup at h;rw[List.pairwise_map] at h;refine h.imp λ{a b} c x d y f e=>?_;obtain⟨i,_,rfl⟩:=List.mem_map.1 d;obtain⟨j,_,rfl⟩:=List.mem_map.1 f;have:=(Prod.mk.inj e).1;omega
def Kg(k:Int)(x:Option ThM):Option (Int×Int):=match x with
 |some t=>if t.q.cls=k then some (t.q.page,t.q.idx) else none
 |none=>none
theorem U8{k:Int}{x:Option ThM}{y:Int×Int}(h:Kg k x=some y):∃t,x=some t/\t.q.cls=k/\y=(t.q.page,t.q.idx):=by
 unfold Kg at h;split at h
 ·rename_i t
  split at h
  ·rename_i a
   cases h
   exact⟨t,rfl,a,rfl⟩
  ·cases h
 ·cases h
def Iu(s:StM)(k:Int):List (Int×Int):=match Xt s k with|none=>[]|some m=>[(m.pt,m.ta)]
section
variable {c:Conf}{s:StM}
theorem Xg1(h:s.Ok c)(hx:s.rm.shs[k]?=some x):Yh x.pg=(s.th.filterMap (Kg (k:Nat))).length+(Iu s (k:Nat)).length:=by
 have u:=(h.rm.mok.sh k x hx).1;have l:∀{o:Nat} {t:ThM},s.th[o]?=some (some t)->t.q.cls=(k:Nat)->t.q.pages=[]/\Qo x t.q.page t.q.idx=o:=λ{o t} C q=>by
  obtain⟨_,v,D⟩:=h.small o t C (Nn h C (by omega));rw[q,Jf hx] at D;exact⟨v,D⟩
 have w:∀a,a∈Nf x↔a∈s.th.filterMap (Kg (k:Nat))++Iu s (k:Nat):=by
  rintro⟨n,a⟩;rw[Xh9 u,<-Jf hx,List.mem_append,List.mem_filterMap];constructor
  ·intro p;rcases h.own _ _ _ p with⟨o,t,U,H,z|⟨m,z,I,J⟩⟩|⟨_,g⟩
   ·exact .inl ⟨some t,XP H,by rw[Kg,z,if_pos rfl]⟩
   ·refine .inr ?_;unfold Iu;rw[z,<-I,<-J];exact List.mem_singleton_self _
   ·cases g
  ·rintro(⟨y,A,h2⟩|h2)
   ·obtain⟨t,rfl,q,e⟩:=U8 h2;obtain⟨o,p⟩:=List.mem_iff_getElem?.1 A;cases e
    rw[Jf hx,(l p q).2];omega
   ·unfold Iu at h2;cases d:Xt s (k:Nat) with
    |none=>rw[d] at h2;cases h2
    |some m=>
     rw[d] at h2;cases List.mem_singleton.1 h2
     obtain⟨j,ej,_,r⟩:=Qr d;obtain rfl:k=j:=by omega
     obtain⟨⟨o,t,e1,_⟩,e2,_⟩:=h.mv k m r;rw[e2,e1];omega
 have E:(s.th.filterMap (Kg (k:Nat))++Iu s (k:Nat)).Nodup:=by
  refine List.nodup_append.2 ⟨?_,?_,?_⟩
  ·unfold List.Nodup;rw[List.pairwise_filterMap,List.pairwise_iff_getElem];intro i j hi K T a B b f e;have F:=XB hi;have h2:=XB K;obtain⟨t,e1,L,M⟩:=U8 B;obtain⟨t',e2,N,v⟩:=U8 f;rw[e1] at F;rw[e2] at h2;have G:=(l F L).2;rw[M,v] at e;obtain⟨e3,e4⟩:=Prod.mk.inj e;rw[e3,e4,((l h2 N).2)] at G;omega
  ·unfold Iu;split <;> simp
  ·intro a B b f e;obtain⟨y,A,h2⟩:=List.mem_filterMap.1 B;obtain⟨t,rfl,q,e1⟩:=U8 h2;obtain⟨o,p⟩:=List.mem_iff_getElem?.1 A;unfold Iu at f;cases d:Xt s (k:Nat) with
   |none=>rw[d] at f;cases f
   |some m=>
    rw[d] at f;obtain⟨j,ej,_,r⟩:=Qr d;obtain rfl:k=j:=by omega
    obtain⟨⟨O,V,f1,f2,P⟩,Q,R,_⟩:=h.mv k m r;obtain⟨G,S⟩:=l p q;rw[e1,(List.mem_singleton.1 f)] at e;obtain⟨e3,e4⟩:=Prod.mk.inj e;rw[Jf hx,<-e3,<-e4,S,f1] at Q;have:o=O:=by omega
    subst this;rw[p] at f2;cases f2
    rw[P] at e3 e4;exact R ⟨e3,e4⟩
 have:=((List.perm_ext_iff_of_nodup (Xia u) E).2 w).length_eq;rw[Xh8,XO] at this;exact this
def thG(x:Option ThM):Option (Nat×Nat):=match x with
 |some t=>if t.q.cls=-1 then some (t.q.page.toNat,t.q.pages.length+1) else none
 |none=>none
theorem Xb6{x:Option ThM}{y:Nat×Nat}(h:thG x=some y):∃t,x=some t/\t.q.cls=-1/\y=(t.q.page.toNat,t.q.pages.length+1):=by
 unfold thG at h;split at h
 ·rename_i t
  split at h
  ·rename_i a
   cases h
   exact⟨t,rfl,a,rfl⟩
  ·cases h
 ·cases h
theorem Xja(h:s.Ok c)(hl:Zd s none):Dq s.rm.lg=((s.th.filterMap thG).map (·.2)).sum:=by
 have d:∀{o:Nat} {t:ThM},s.th[o]?=some (some t)->t.q.cls=-1 -> ∃n r,(n,r)∈s.rm.lg/\t.q=⟨-1,(n:Nat),0,X1 r⟩:=λ{o t} B q=>by
  have K:Xk c.classes t.size=-1:=by rw[<-Nm h B];exact q
  obtain⟨n,r,u,v,_⟩:=h.large o t B K;exact⟨n,r,u,v⟩
 have m:∀r:List Nat,(X1 r).length=r.length:=λr=>by unfold X1;rw[XN]
 have C:(s.rm.lg.map λe=>(e.1,e.2.length+1)).Nodup:=by
  unfold List.Nodup;rw[List.pairwise_map,List.pairwise_iff_getElem];intro i j hi w p e;have f:=h.rm.ok.nd;unfold Y9 at f;unfold List.Nodup at f;rw[List.pairwise_flatMap] at f;have:=(List.pairwise_iff_getElem.1 f.2) i j hi w p _ ZI _ ZI;exact this ((Prod.mk.inj e).1)
 have D:(s.th.filterMap thG).Nodup:=by
  unfold List.Nodup;rw[List.pairwise_filterMap,List.pairwise_iff_getElem];intro i j hi w p a L b M e;have x:=XB hi;have l:=XB w;obtain⟨t,e1,E,u⟩:=Xb6 L;obtain⟨t',e2,F,v⟩:=Xb6 M;rw[e1] at x;rw[e2] at l;obtain⟨n,r,_,k⟩:=d x E;obtain⟨n',r',_,N⟩:=d l F;rw[u,v] at e;have e3:=(Prod.mk.inj e).1;have e4:t.q.page=t'.q.page:=by
   rw[k,N] at e3⊢;simp only[XA] at e3⊢;omega
  have:=h.linj i j t t' x l E F e4;omega
 have z:∀a,a∈(s.rm.lg.map λe=>(e.1,e.2.length+1))↔a∈s.th.filterMap thG:=by
  intro a;rw[List.mem_map,List.mem_filterMap];constructor
  ·rintro⟨e,G,rfl⟩;rcases hl e G with⟨o,t,H,I,J⟩|⟨_,_,g,_⟩
   ·refine⟨some t,XP H,?_⟩;obtain⟨n,r,A,k⟩:=d H I;rw[k] at J;have en:n=e.1:=by simp only at J;omega
    subst en;unfold thG;simp only
    rw[if_pos I,k];simp only[XA];rw[m,(Tg h.rm.ok.nd A G)]
   ·cases g
  ·rintro⟨y,O,l⟩;obtain⟨t,rfl,q,rfl⟩:=Xb6 l;obtain⟨o,P⟩:=List.mem_iff_getElem?.1 O;obtain⟨n,r,A,k⟩:=d P q;refine⟨(n,r),A,?_⟩;rw[k];simp only[XA];rw[m]
 rw[<-(((List.perm_ext_iff_of_nodup C D).2 z).map (·.2)).sum_nat,List.map_map];rfl
end
def Bd(c:Conf)(z:Int):Bool:=decide (1<=z) && decide (z<=c.most)
def Bn(c:Conf)(zs:List Int)(k:Int):Nat:=(zs.filter λz=>Bd c z && decide (Xk c.classes z=k)).length
def Fp(c:Conf)(zs:List Int):Int:=(zs.map λz=>if C2 c<z then Zq z c.size else 0).sum
def Et(f:Nat->Int)(n:Nat):Int:=((List.range n).map f).sum
theorem Lo(f:Nat->Int)(n:Nat):Et f (n+1)=Et f n+f n:=by
 unfold Et;rw[YX,XI,List.sum_append,List.map_singleton,List.sum_singleton]
theorem Xaa{f g:Nat->Int}:∀{n:Nat},(∀k,k<n->f k<=g k)->Et f n<=Et g n
 |0,_=>ZO _
 |n+1,h=>by
  rw[Lo,Lo];have:=Xaa (n:=n) λk a=>h k (by omega);have:=h n (by omega);omega
def C0(c:Conf)(zs:List Int):Int:=Fp c zs+Et (λk=>Z2 (Bn c zs (k:Nat)) (Qi c (k:Nat))) c.classes.length
theorem Xfd{c:Conf}(hm:X6 c=true)(hz:1<=z):Xk c.classes z=-1↔C2 c<z:=by
 have g:Ax c.classes c.size=true:=by unfold X6 at hm;simp only[XJ] at hm;exact hm.1.1.1.1.1.2
 have o:=Nk g;unfold Xk C2;rw[if_neg (by omega),if_neg (by omega)];constructor
 ·intro h;have:=Xd8 (p:=λs=>decide (z<=s)) (l:=c.classes) (by omega);refine Int.not_le.1 λb=>?_;unfold idx at h;cases f:c.classes.findIdx? (λs=>decide (z<=s)) with
  |some i=>rw[f] at h;simp only at h;omega
  |none=>
   rw[List.findIdx?_eq_none_iff] at f;have a:=f (c.classes[c.classes.length-1]'(by omega)) (XK _);rw[XC,XB (show c.classes.length-1<c.classes.length by omega)] at b;simp at a b;omega
 ·intro h;refine Hl λj m=>decide_eq_false ?_;have k:∀d,j+d<c.classes.length->c.classes.getD j 0<=c.classes.getD (j+d) 0:=λd=>by
   induction d with
   |zero=>exact λ_=>ZO _
   |succ d ih=>exact λq=>by have:=ih (by omega);have:=Xdg g (j+d) (by omega);rw[show j+(d+1)=j+d+1 by omega];omega
  have n:=k (c.classes.length-1-j) (by omega);rw[show j+(c.classes.length-1-j)=c.classes.length-1 by omega] at n;have e:c.classes.getD j 0=c.classes[j]:=by rw[XC,XB m];rfl
  omega
theorem XaA{c:Conf}:∀l:List (Option ThM),(∀t,some t∈l->(if C2 c<t.size then Zq t.size c.size else 0)=if t.q.cls=-1 then ((t.q.pages.length+1:Nat):Int) else 0)->Fp c (Ze l)=(((l.filterMap thG).map (·.2)).sum:Nat)
 |[],_=>rfl
 |none::l,h=>XaA l λt b=>h t (ZF _ b)
 |some t::l,h=>by
  have ih:=XaA l λt b=>h t (ZF _ b);have e:=h t ZI;show(if C2 c<t.size then Zq t.size c.size else 0)+Fp c (Ze l)=_
  rw[ih,e,List.filterMap_cons];by_cases a:t.q.cls=-1
  ·rw[if_pos a,thG,if_pos a];simp only
   rw[ZB,YH];omega
  ·rw[if_neg a,thG,if_neg a];simp only
   omega
theorem Tk{c:Conf}{k:Int}:∀l:List (Option ThM),(∀t,some t∈l->Bd c t.size=true/\Xk c.classes t.size=t.q.cls)->Bn c (Ze l) k=(l.filterMap (Kg k)).length
 |[],_=>rfl
 |none::l,h=>Tk l λt b=>h t (ZF _ b)
 |some t::l,h=>by
  have ih:=Tk (k:=k) l λt b=>h t (ZF _ b);obtain⟨e1,e2⟩:=h t ZI;show((t.size::Ze l).filter _).length=_
  rw[XY,e1,e2,List.filterMap_cons];by_cases a:t.q.cls=k
  ·rw[if_pos (by rw[decide_eq_true a];rfl),Kg,if_pos a];simp only
   rw[XM,XM];exact congrArg (· + 1) ih
  ·rw[if_neg (by rw[decide_eq_false a];decide),Kg,if_neg a];exact ih
theorem W5{b:Int}{B:Nat}(hB:b=B)(h1:1<=B):Z2 n b=((n+B-1)/B:Nat):=by
 unfold Z2;by_cases a:n=0
 ·rw[if_pos (by omega),a,XS,Nat.div_eq_of_lt (by omega)];rfl
 ·rw[if_neg (by omega),hB];obtain⟨m,rfl⟩:∃m,n=m+1:=⟨n-1,by omega⟩;rw[show m+1+B-1=m+B by omega,Nat.add_div_right m (by omega)];rw[show(((m+1:Nat):Int)-1)=(m:Nat) by omega]
  norm_cast
section
variable {c:Conf}{s:StM}
def J0(M:RmM)(k:Nat):Nat:=match M.shs[k]? with|some x=>x.pg.length|none=>0
theorem XlN(M:RmM):(Hz M.shs:Int)=Et (λk=>(J0 M k:Nat)) M.shs.length:=by
 have key:∀n,n<=M.shs.length->((((M.shs.take n).map λx=>x.pg.length).sum:Nat):Int)=Et (λk=>(J0 M k:Nat)) n:=by
  intro n
  induction n with
  |zero=>intro _;rfl
  |succ n ih=>
   intro a;have e:=XB (show n<M.shs.length by omega);rw[Lo,<-ih (by omega),ZC,e];simp only[Option.toList_some,XI,ZB,QQ,List.sum_append_nat,YH,List.sum_nil];unfold J0;rw[e];simp only
   omega
 have:=key M.shs.length (XE _);rw[ZE (XE _)] at this;exact this
structure Xhg(c:Conf)(s:StM)(k:Nat):Prop where
 lo:Z2 (Bn c (Ze s.th) (k:Nat)) (Qi c (k:Nat))<=(J0 s.rm k:Nat)
 hi:(J0 s.rm k:Int)<=Z2 (Bn c (Ze s.th) (k:Nat)) (Qi c (k:Nat))+(if (Xt s (k:Nat)).isSome then 1 else 0)+((Zf s.rm (k:Nat)-1:Nat):Int)
theorem Xb9(h:s.Ok c):∀t,some t∈s.th->Bd c t.size=true/\Xk c.classes t.size=t.q.cls:=λt d=>by
 obtain⟨o,a⟩:=List.mem_iff_getElem?.1 d;have b:=h.size o t a;exact⟨by unfold Bd;rw[decide_eq_true b.1,decide_eq_true b.2];rfl,(Nm h a).symm⟩
theorem Xdk(h:s.Ok c)(hk:k<c.classes.length):Xhg c s k:=by
 have t:k<s.rm.shs.length:=by have:=h.rm.ok.n;omega
 obtain⟨x,b⟩:∃x,s.rm.shs[k]?=some x:=⟨_,XB t⟩;have d:=(h.rm.mok.sh k x b).1;have i:=d.blk;have u:=(h.rm.ok.each k x b).2;have j:=h.rm.pos k x b;obtain⟨w,m,K⟩:=Xa1 i.1 (l:=x.pg) λe y=>⟨(d.each e y).2.1,j e y⟩;have D:=Xe0 d;rw[<-D] at w m;have o:=Xg1 h b;have E:=Tk (k:=(k:Nat)) s.th (Xb9 h);have F:Zc s.rm (k:Nat)=some x:=by unfold Zc;rw[if_pos (by omega),XA];exact b
 have eO:Zf s.rm (k:Nat)=x.opn.length:=by unfold Zf;rw[F]
 have eN:J0 s.rm k=x.pg.length:=by unfold J0;rw[b]
 have G:(Iu s (k:Nat)).length=if (Xt s (k:Nat)).isSome then 1 else 0:=by unfold Iu;cases Xt s (k:Nat) <;> rfl
 have f:=W5 (n:=Bn c (Ze s.th) (k:Nat)) u.symm i.1;rw[<-E,G] at o;obtain⟨B,eB⟩:∃B,B=x.blocks:=⟨_,rfl⟩;obtain⟨n,en⟩:∃n,n=Bn c (Ze s.th) (k:Nat):=⟨_,rfl⟩;rw[<-en] at f o;rw[<-eB] at f w m i;have z:((n+B-1)/B)*B<=n+B-1:=Nat.div_mul_le_self _ _;have A:n+B-1<((n+B-1)/B)*B+B:=by
  have:=Nat.lt_div_mul_add (a:=n+B-1) (show 0<B by omega);exact this
 obtain⟨q,eq⟩:∃q,q=(n+B-1)/B:=⟨_,rfl⟩;rw[<-eq] at z A f;refine⟨?_,?_⟩
 ·rw[<-en,f,eN];have:q<=x.pg.length:=by
   refine Nat.le_of_not_lt λg=>?_;have:(x.pg.length+1)*B<=q*B:=QH _ g;rw[YT,QI] at this;omega
  omega
 ·rw[<-en,f,eN,eO];have:x.pg.length<=q+(if (Xt s (k:Nat)).isSome then 1 else 0)+(x.opn.length-1):=by
   refine Nat.le_of_not_lt λg=>?_;obtain⟨v,C⟩:∃v,v=(if (Xt s (k:Nat)).isSome then 1 else 0):=⟨_,rfl⟩;have I:v<=1:=by rw[C];split <;> omega
   rw[<-C] at g o;have J:v<=v*B:=Nat.le_mul_of_pos_right _ i.1;by_cases H:x.opn.length=0
   ·have p:(q+v+1)*B<=x.pg.length*B:=QH _ (by omega);rw[H,Nat.zero_mul] at m;rw[YT,YT,QI] at p;omega
   ·have p:(q+v+x.opn.length)*B<=x.pg.length*B:=QH _ (by omega);rw[YT,YT] at p;omega
  split at this
  ·rename_i r
   rw[if_pos r];omega
  ·rename_i r
   rw[if_neg r];omega
theorem Xd4(h:s.Ok c)(hl:Zd s none):(Zn s.rm.pl:Int)=Fp c (Ze s.th)+Et (λk=>(J0 s.rm k:Nat)) c.classes.length:=by
 have b:=XaA (c:=c) s.th λt i=>by
  obtain⟨o,a⟩:=List.mem_iff_getElem?.1 i;have d:=Xfd h.may (h.size o t a).1;have f:=Nm h a;by_cases e:Xk c.classes t.size=-1
  ·obtain⟨n,r,_,j,l⟩:=h.large o t a e;rw[if_pos (d.1 e),if_pos (f.trans e),j,<-l];simp only
   unfold X1;rw[XN];omega
  ·rw[if_neg (λg=>e (d.2 g)),if_neg (λg=>e (f▸g))]
 rw[b,<-Xja h hl,<-h.rm.ok.n,<-XlN,h.rm.ok.sum];omega
theorem Xi0(h:s.Ok c)(hl:Zd s none):C0 c (Ze s.th)<=(Zn s.rm.pl:Nat):=by
 rw[Xd4 h hl];unfold C0;have:=Xaa (n:=c.classes.length) λk a=>(Xdk h a).lo;omega
theorem Xd5(h:s.Ok c)(hl:Zd s none)(ho:∀k:Nat,Zf s.rm (k:Nat)<=1)(hn:∀k:Nat,Xt s (k:Nat)=none):(Zn s.rm.pl:Int)=C0 c (Ze s.th):=by
 refine Int.le_antisymm ?_ (Xi0 h hl);rw[Xd4 h hl];unfold C0;have d:=Xaa (n:=c.classes.length) (f:=λk=>(J0 s.rm k:Nat)) (g:=λk=>Z2 (Bn c (Ze s.th) (k:Nat)) (Qi c (k:Nat))) λk b=>by
  have a:=(Xdk h b).hi;rw[hn k] at a;have e:=ho k;rw[if_neg (by simp)] at a;omega
 omega
end
def Aa(s:StM):Prop:=∀k:Nat,Xt s (k:Nat)=none
theorem Aa.all{s:StM}(h:Aa s)(κ:Int):Xt s κ=none:=by
 by_cases a:0<=κ
 ·obtain⟨k,rfl⟩:=XD a;exact h k
 ·unfold Xt;rw[if_neg a]
theorem Aa.of{s:StM}(h:Aa s)(e:s'.mv=s.mv):Aa s':=λk=>by
 have:=h k;unfold Xt at this⊢;rw[e];exact this
section
variable {c:Conf}{s:StM}{pd:Option (Nat×PlcM)}
theorem Aa.clear{q:PlcM}(h:Aa s)(hs:s.OkP c (some (o,q)))(hst:∀k:Nat,Yb c (k:Nat)<=c.step):Aa (Au c s q):=by
 unfold Au;split
 ·exact h.of rfl
 ·have b:=StM.OkP.begin hs.dropped q.cls.toNat;have e:∀i:Int,i≠q.cls.toNat->Xt (Yc c {s with rm:=Ym s.rm q} q.cls.toNat) i=none:=λi hi=>by
   unfold Yc;split
   ·exact(Ot (s:=s) rfl hi).trans (h.all i)
   ·exact h.all i
  intro i;by_cases f:i=q.cls.toNat
  ·rw[f];cases d:Xt (Yc c {s with rm:=Ym s.rm q} q.cls.toNat) (q.cls.toNat:Nat) with
   |none=>
    unfold Yo;rw[d];exact d
   |some m=>
    obtain⟨j,ej,_,a⟩:=Qr d;have ej:q.cls.toNat=j:=by omega
    rw[ej] at a d b⊢;refine Xd0 b a ?_;have g:=(b.mv j m a).2.2.2.2.2.1;have:=hst j;omega
  ·rw[(Xd1 b q.cls.toNat c.step).2.2 _ (by omega)];exact e _ (by omega)
theorem Aa.fin(h:Aa s)(κ:Int):X7 s κ=s:=by
 unfold X7;rw[h.all κ]
theorem Aa.lay(h:Aa s)(o:Nat)(size:Int):Aa (Yv c s (o:Nat) size):=by
 have e:Ce c s size=none:=by unfold Ce;rw[h.all]
 refine h.of ?_;show(X9 c s (o:Nat) size).mv=s.mv
 unfold X9;rw[e]
theorem Aa.wrote(h:Aa s)(o:Int)(i n:Nat):Qt s o i n=s:=by
 unfold Qt;rw[h.all]
theorem Aa.tick(h:Aa s)(ho:OI s):∀n,(tickTo c s n).1=s
 |0=>rfl
 |n+1=>by
  have ih:=Aa.tick h ho n;rw[Jl];unfold tickK;rw[ih,ho.begin];split
  ·exact ih
  ·rw[h n]
theorem Aa.do22(h:Aa s)(hs:s.Ok c)(ho:OI s)(hst:∀k:Nat,Yb c (k:Nat)<=c.step)(u:D8)(hu:u.kind%7=0\/u.kind%7=1\/u.kind%7=2\/u.kind%7=3\/u.kind%7=4\/u.kind%7=5):Aa (Yy c s u):=by
 unfold Yy;split
 ·unfold Q8;split
  ·rename_i f
   obtain⟨j,e,_⟩:=O5 f;rw[e];exact h.lay _ _
  ·exact h
 split
 ·unfold Bq;split
  ·exact h
  ·rename_i f
   obtain⟨j,t,e,b⟩:=Hs (Decidable.not_not.1 f);rw[e,Yq b,XA];obtain⟨t',d,_,_,_,g⟩:=Kq hs b;rw[Yq d];refine Aa.clear ?_ ((hs.finish t.q.cls).away d g) hst;rw[h.fin];exact h.of rfl
 split
 ·unfold Ac;split
  ·exact h
  ·rename_i f
   obtain⟨j,t,e,b,l,i⟩:=Rt (Decidable.not_not.1 f);rw[e,C4 b,Yq b];split
   ·split
    ·have d:Aa (C3 (Zw c s t.q u.a.toNat (Xz (t.size-u.a).toNat)) (j:Nat) ⟨u.a,t.q⟩):=h.of rfl;rw[d.wrote];exact d
    ·exact h.of rfl
   ·rename_i a
    have a:Af c t.size u.a=false:=by simpa using a
    obtain⟨t',M⟩:=L4 hs b a (i.resolve_left (by rw[a];decide)).2;unfold G5;simp only
    rw[Yq b,Yq M.th1,C4 b];refine Aa.clear ?_ (M.ok2.put _ _ (K9 M.ok1.bi _ _)) hst;rw[h.fin];exact Aa.of ((show Aa (Y1 s (X5 c t'.q.plc 0 (min t.size u.a).toNat)) from h.of rfl).lay (c:=c) j u.a) rfl
 split
 ·unfold Br;split
  ·exact h.of rfl
  ·exact h
 split
 ·unfold Cc;split
  ·have d:Aa (Zw c s (Yz s u.own) u.a.toNat u.bs):=h.of rfl;rw[d.wrote];exact d
  ·exact h
 split
 ·unfold C5;rw[h.tick ho];exact h
 ·omega
theorem Aa.new(c:Conf):Aa (Ao c):=λk=>by
 cases h:Xt (Ao c) (k:Nat) with
 |none=>rfl
 |some m=>
  obtain⟨j,_,_,a⟩:=Qr h;have:=XP a;simp only[Ao,YR] at this;cases this.2
theorem Tj(c:Conf)(zs:List Int)(z k:Int):Bn c (zs++[z]) k=Bn c zs k+if Bd c z=true/\Xk c.classes z=k then 1 else 0:=by
 unfold Bn;rw[YP,XO]
 congr 1
 rw[XY];by_cases h:Bd c z=true/\Xk c.classes z=k
 ·rw[if_pos h,if_pos (by rw[h.1,decide_eq_true h.2];rfl)];rfl
 ·rw[if_neg h,if_neg (by simpa using h)];rfl
theorem Xei(c:Conf)(zs:List Int)(z:Int):Fp c (zs++[z])=Fp c zs+if C2 c<z then Zq z c.size else 0:=by
 unfold Fp;rw[XI,List.sum_append,List.map_singleton,List.sum_singleton]
theorem Xdi{g:Nat->Int}{κ:Nat}(h:∀k,k≠κ->g k=f k):∀n,Et g n=Et f n+if κ<n then g κ-f κ else 0
 |0=>rfl
 |n+1=>by
  rw[Lo,Lo,Xdi h n];by_cases e:n=κ
  ·subst e;rw[if_neg (by omega),if_pos (by omega)];omega
  ·rw[h n e];by_cases hl:κ<n
   ·rw[if_pos hl,if_pos (by omega)];omega
   ·rw[if_neg hl,if_neg (by omega)];omega
theorem Xip(h:s.Ok c)(hn:Aa s)(hk:k<c.classes.length)(ho:Zf s.rm (k:Nat)<=1):Z2 ((Bn c (Ze s.th) (k:Nat)+1:Nat)) (Qi c (k:Nat))=Z2 (Bn c (Ze s.th) (k:Nat)) (Qi c (k:Nat))+(1-(Zf s.rm (k:Nat):Nat)):=by
 have m:k<s.rm.shs.length:=by have:=h.rm.ok.n;omega
 obtain⟨x,b⟩:∃x,s.rm.shs[k]?=some x:=⟨_,XB m⟩;have d:=(h.rm.mok.sh k x b).1;have f:=d.blk;have i:=(h.rm.ok.each k x b).2;obtain⟨g,a,z⟩:=Xa1 f.1 (l:=x.pg) λe o=>⟨(d.each e o).2.1,(h.rm.pos k x b) e o⟩;rw[<-(Xe0 d)] at g a;have p:=Xg1 h b;have v:Zc s.rm (k:Nat)=some x:=by unfold Zc;rw[if_pos (by omega),XA];exact b
 have eO:Zf s.rm (k:Nat)=x.opn.length:=by unfold Zf;rw[v]
 have w:(Iu s (k:Nat)).length=0:=by unfold Iu;rw[hn k];rfl
 rw[<-(Tk (k:=(k:Nat)) s.th (Xb9 h)),w] at p;rw[(W5 (n:=Bn c (Ze s.th) (k:Nat)) i.symm f.1),(W5 (n:=Bn c (Ze s.th) (k:Nat)+1) i.symm f.1),eO];rw[eO] at ho;obtain⟨B,eB⟩:∃B,B=x.blocks:=⟨_,rfl⟩;obtain⟨n,en⟩:∃n,n=Bn c (Ze s.th) (k:Nat):=⟨_,rfl⟩;rw[<-en] at p⊢;rw[<-eB] at g a f⊢;have key:∀u q:Nat,q*B<u+B->u<=q*B->(u+B-1)/B=q:=λu q A C=>by
  obtain⟨r,t⟩:∃r,u+B-1=B*q+r:=⟨u+B-1-q*B,by rw[YF B q];omega⟩;have j:r<B:=by rw[YF B q] at t;omega
  rw[t,Nat.mul_add_div (by omega),Nat.div_eq_of_lt j];omega
 by_cases y:x.opn.length=0
 ·rw[y] at g a⊢;rw[Nat.zero_mul] at a;rw[key n x.pg.length (by omega) (by omega),key (n+1) (x.pg.length+1) (by rw[YT,QI];omega) (by rw[YT,QI];omega)];omega
 ·have j:x.opn.length=1:=by omega
  rw[j] at g a⊢;rw[QI] at a;rw[key n x.pg.length (by omega) (by omega),key (n+1) x.pg.length (by omega) (by omega)];omega
theorem XjR(h:s.Ok c)(hn:Aa s)(ho:∀k:Nat,Zf s.rm (k:Nat)<=1)(hz:Bd c z=true):C0 c (Ze s.th++[z])=C0 c (Ze s.th)+B8 c s.rm z:=by
 have d:1<=z/\z<=c.most:=by unfold Bd at hz;simpa using hz
 have i:=Xfd h.may d.1;unfold C0 B8;rw[Xei];by_cases a:Xk c.classes z=-1
 ·rw[if_pos (i.1 a),if_pos a];have e:(λk:Nat=>Z2 (Bn c (Ze s.th++[z]) (k:Nat)) (Qi c (k:Nat)))=λk:Nat=>Z2 (Bn c (Ze s.th) (k:Nat)) (Qi c (k:Nat)):=by
   funext k
   rw[Tj,if_neg (λe=>by have:=e.2;omega),Nat.add_zero]
  rw[e];omega
 ·rw[if_neg (λg=>a (i.2 g)),if_neg a];obtain⟨m,n⟩:=Ri a;obtain⟨κ,j⟩:=XD m;rw[j] at n⊢;have l:=Xdi (f:=λk:Nat=>Z2 (Bn c (Ze s.th) (k:Nat)) (Qi c (k:Nat))) (g:=λk:Nat=>Z2 (Bn c (Ze s.th++[z]) (k:Nat)) (Qi c (k:Nat))) (κ:=κ) (λk o=>by rw[Tj,if_neg (λe=>by have:=e.2;omega),Nat.add_zero]) c.classes.length;have b:κ<c.classes.length:=by omega
  rw[if_pos b] at l;rw[l,Tj,if_pos ⟨hz,j⟩,Xip h hn b (ho κ)];have:=ho κ;omega
theorem XdS(h:s.Ok c)(hl:Zd s none)(ho:∀k:Nat,Zf s.rm (k:Nat)<=1)(hn:Aa s)(z:Int):(Bd c z=false->Qg c s z=3)/\(Bd c z=true->Qg c s z=if c.pages<C0 c (Ze s.th++[z]) then 5 else 0):=by
 constructor
 ·intro b;have a:z<1\/c.most<z:=by
   unfold Bd at b;simp only[Bool.and_eq_false_iff,decide_eq_false_iff_not] at b;omega
  unfold Qg;rw[if_pos a]
 ·intro b;have a:¬(z<1\/c.most<z):=by
   unfold Bd at b;simp only[XJ,decide_eq_true_eq] at b;omega
  rw[XjR h hn ho b,<-Xd5 h hl ho hn];unfold Qg Qd;rw[if_neg a,hn.all,if_neg a];have f:=h.rm.mok.good.many;have g:=h.rm.ok.own;have e:Zn s.rm.pl=Xu s.rm.pl.own:=rfl;rw[if_neg (show ¬(Option.isSome (none:Option MvM))=true by decide)];by_cases d:(s.rm.pl.free.length:Int)<B8 c s.rm z
  ·rw[if_pos d,if_pos (by omega)]
  ·rw[if_neg d,if_neg (by omega)]
end
theorem XcJ{q:Int}(hz:z<=2097152):0<=Zq z q/\Zq z q<=2097153:=by
 have a:0<=Z2 z q/\Z2 z q<=2097152:=by
  unfold Z2;split
  ·omega
  ·have b:0<=(z-1)/q:=ZX (by omega) (by omega);have c:(z-1)/q<=z-1:=YE _ (by omega);omega
 unfold Zq;split <;> omega
theorem Xjz(n:Nat)(q:Int):0<=Z2 n q/\Z2 n q<=n:=by
 unfold Z2;split
 ·omega
 ·have a:0<=((n:Int)-1)/q:=ZX (by omega) (by omega);have b:((n:Int)-1)/q<=n-1:=YE _ (by omega);omega
theorem Xeh{c:Conf}:∀{zs:List Int},(∀z∈zs,z<=2097152)->0<=Fp c zs/\Fp c zs<=zs.length*2097153
 |[],_=>⟨ZO _,by show(0:Int)<=((0:Nat):Int)*2097153;omega⟩
 |z::zs,h=>by
  have ih:=Xeh (c:=c) (zs:=zs) λy a=>h y (ZF _ a);have b:=XcJ (q:=c.size) (h z ZI);have e:Fp c (z::zs)=(if C2 c<z then Zq z c.size else 0)+Fp c zs:=rfl;rw[e,XM];split <;> omega
theorem Xdj{f:Nat->Int}{b:Int}(h:∀k,0<=f k/\f k<=b):∀n:Nat,0<=Et f n/\Et f n<=n*b
 |0=>⟨ZO _,by show(0:Int)<=((0:Nat):Int)*b;rw[show((0:Nat):Int)=0 from rfl,Int.zero_mul];exact ZO _⟩
 |n+1=>by
  have ih:=Xdj h n;have:=h n;rw[Lo,Int.natCast_add,YU];omega
theorem XaE(c:Conf)(zs:List Int)(k:Int):Bn c zs k<=zs.length:=ZW _ _
theorem Xb3(h:i<zs.length):zs.take (i+1)=zs.take i++[zs[i]]:=by rw[ZC,XB h];rfl
theorem Xfx(c:Conf)(p:Yu)(n:Int)(w:World):Xf prog 55 #[.agg (Zj c p).toArray,.int .i64 n] w (Grow (.bool (Bd c n)) w):=Ua c p n w
theorem Xk3(c:Conf)(p:Yu)(a:Option Addr)(cap:Nat)(zs:List Int)(k:Nat)(w:World)(hc:Ys w c p)(hr:Rd .i64 w a zs)(hl:zs.length<=8192)(hcl:c.classes.length<=16):Xf prog 59 #[.agg (Zj c p).toArray,.slice a zs.length cap,.int .i64 k] w (Grow (.int .i64 (Bn c zs (k:Nat):Nat)) w):=by
 refine ζe func59 ntmps59 ϱ (ζn ϱ λb u e1 v t y=>?_);refine Xa.loop (α:=Nat) (λi=>[(1,false,.slice a zs.length cap),(2,false,.int .i64 k),(3,false,.pointer (some ⟨b,0,none⟩)),(7,false,.int .i64 (Bn c (zs.take i) (k:Nat):Nat)),(8,false,.int .i64 i)])
  (λi w'=>i<=zs.length/\Xc Xe u w') (λi=>zs.length-i) 0 ⟨rfl,rfl,rfl,rfl,rfl,trivial⟩ ⟨XL _,Xc.refl _ _⟩ ?_
 rintro i C ⟨hi,g⟩ ih;have o:=g.heap' v;have h:=t.trans g;refine ζa ϱ (ζg ϱ (λm=>?_) λm=>?_)
 ·have m:=of_decide_eq_true m;have n:i<zs.length:=by omega
  obtain⟨D,off,rfl,f⟩:=(hr.chg h) i n;have e:zs.getD i 0=zs[i]:=by rw[XC,XB n];rfl
  obtain⟨z,ez⟩:∃z,z=zs[i]:=⟨_,rfl⟩;rw[e,<-ez] at f;have j:=Tj c (zs.take i) zs[i] (k:Nat);rw[<-Xb3 n,<-ez] at j;have A:=XaE c (zs.take i) (k:Nat);have B:(zs.take i).length<=i:=List.length_take_le _ _;refine ζd 19 Xe (by kernel_rfl) ϱ λd=>Xd.yes Xb d rfl (decide_eq_true (show(k:Int)≥0 by omega)) rfl (δl d o ϱ (δi i d ϱ (δk d f ϱ (δv d (λw' q=>(Xfx c p z w')) ϱ ?_))));cases r:Bd c z with
  |false=>
   rw[r,if_neg (by simp)] at j;exact Xd.no Xb d rfl rfl rfl (δn d ϱ λx l=>ζj ϱ (ih (i+1) _ _ ⟨by omega,g.trans l⟩ (by omega) ⟨rfl,rfl,rfl,by rw[j];rfl,rfl,trivial⟩))
  |true=>
   refine Xd.yes Xb d rfl rfl rfl (δl d o ϱ (δi i d ϱ (δk d f ϱ (δw d (λw' q=>(Xfp p.ca p.cc c.classes z w' ((hc.chg (h.trans q)).classes) (by omega))) ϱ (δn d ϱ λx l=>ζg ϱ (λs=>?_) λs=>?_)))))
   ·rw[r,if_pos ⟨rfl,by simpa using s⟩] at j;exact ζj ϱ (ζj ϱ (ih (i+1) _ _ ⟨by omega,g.trans l⟩ (by omega) ⟨rfl,rfl,rfl,by rw[j];rfl,rfl,trivial⟩))
   ·rw[r,if_neg (by simpa using s)] at j;exact ζj ϱ (ih (i+1) _ _ ⟨by omega,g.trans l⟩ (by omega) ⟨rfl,rfl,rfl,by rw[j];rfl,rfl,trivial⟩)
 ·have m:=of_decide_eq_false m;rw[ZE (by omega)];exact ζr func59 ϱ ⟨rfl,h⟩
theorem Xbn(c:Conf)(p:Yu)(a:Option Addr)(cap:Nat)(zs:List Int)(w:World)(hc:Ys w c p)(hm:X6 c=true)(hr:Rd .i64 w a zs)(hl:zs.length<=8192):Xf prog 19 #[.agg (Zj c p).toArray,.slice a zs.length cap] w (Grow (if zs.all (Bd c)=true then .tuple #[.int .i64 (C0 c zs),.int .i64 0] else .tuple #[.int .i64 0,.int .i64 3]) w):=by
 have J:=Yp hm;have N:=J.n;have a1:=J.most.2;refine ζe func19 ntmps19 ϱ (ζn ϱ λb L e1 H K a2=>?_);replace H:L.heap[b]?=some (.cells (Zj c p).toArray 24 (0,0)):=H;refine Xa.loop (α:=Nat) (λi=>[(1,false,.slice a zs.length cap),(2,false,.pointer (some ⟨b,0,none⟩)),(6,false,.int .i64 (Fp c (zs.take i))),(7,false,.int .i64 i)])
  (λi w'=>(i<=zs.length/\∀z∈zs.take i,Bd c z=true)/\Xc Xe L w') (λi=>zs.length-i) 0 ⟨rfl,rfl,rfl,rfl,trivial⟩ ⟨⟨XL _,λz A=>by cases A⟩,Xc.refl _ _⟩ ?_
 rintro i w2 ⟨⟨hi,n⟩,t⟩ ih;have B:=t.heap' H;have v:=K.trans t;have O:=Xeh (c:=c) (zs:=zs.take i) λz A=>by have:=n z A;unfold Bd at this;simp at this;omega
 have a3:(zs.take i).length<=i:=List.length_take_le _ _;refine ζa ϱ (ζg ϱ (λC=>?_) λC=>?_)
 ·have C:=of_decide_eq_true C;have u:i<zs.length:=by omega
  obtain⟨b1,off,rfl,l⟩:=(hr.chg v) i u;have e:zs.getD i 0=zs[i]:=by rw[XC,XB u];rfl
  obtain⟨z,ez⟩:∃z,z=zs[i]:=⟨_,rfl⟩;rw[e,<-ez] at l;have D:=Xei c (zs.take i) zs[i];rw[<-Xb3 u,<-ez] at D;refine ζd 5 Xe (by kernel_rfl) ϱ λd=>δl d B ϱ (δi i d ϱ (δk d l ϱ (δn d ϱ λP m=>ζv (Xfx c p z P) ϱ λV x=>?_)));cases I:Bd c z with
  |false=>
   exact ζy ϱ (ζr func19 ϱ ⟨by rw[if_neg (λh=>by rw[List.all_eq_true] at h;have:=h _ (XK u);rw[<-ez,I] at this;cases this)],(v.trans m).trans x⟩)
  |true=>
   have o:=m.trans x;have M:=v.trans o;have Q:z<=2097152:=by unfold Bd at I;simp at I;omega
   have a4:=XcJ (q:=c.size) Q;have y:∀z∈zs.take (i+1),Bd c z=true:=λz A=>by
    rw[Xb3 u] at A;rcases List.mem_append.1 A with g|g
    ·exact n z g
    ·rw[List.mem_singleton.1 g,<-ez];exact I
   refine ζf ϱ (ζd 6 Xe (by kernel_rfl) ϱ λd=>δi i d ϱ (δk d (o.cell l id) ϱ (δl d (o.heap' B) ϱ (δv d (λw' j=>(XkE c p w' (hc.chg (M.trans j)))) ϱ (δn d ϱ λw5 R=>?_)))));have r:=o.trans R;refine ζg ϱ (λE=>?_) λE=>?_
   ·have E:=of_decide_eq_true E;rw[if_pos (by omega)] at D;exact ζd 8 Xe (by kernel_rfl) ϱ λd=>δi i d ϱ (δk d (r.cell l id) ϱ (δl d (r.heap' B) ϱ (δw d (λw' j=>(Xbm z c.size w' (by omega))) ϱ (δn d ϱ λw6 S=>ζj ϱ (ζj ϱ (ih (i+1) _ _ ⟨⟨by omega,y⟩,(t.trans r).trans S⟩ (by omega) ⟨rfl,rfl,by rw[D];rfl,rfl,trivial⟩))))))
   ·have E:=of_decide_eq_false E;rw[if_neg (by omega),Int.add_zero] at D;exact ζj ϱ (ih (i+1) _ _ ⟨⟨by omega,y⟩,t.trans r⟩ (by omega) ⟨rfl,rfl,by rw[D];rfl,rfl,trivial⟩)
 ·have C:=of_decide_eq_false C;have et:zs.take i=zs:=ZE (by omega);rw[et] at n O⊢;rw[if_pos (List.all_eq_true.2 n)];obtain⟨f,ef⟩:∃f:Nat->Int,f=λk=>Z2 (Bn c zs (k:Nat)) (Qi c (k:Nat)):=⟨_,rfl⟩;have T:=Xdj (f:=f) (b:=8192) (λk=>by
   rw[ef];have:=Xjz (Bn c zs (k:Nat)) (Qi c (k:Nat));have:=XaE c zs (k:Nat);simp only
   omega)
  refine Xa.loop (α:=Nat) (λk=>[(1,false,.slice a zs.length cap),(2,false,.pointer (some ⟨b,0,none⟩)),(6,false,.int .i64 (Fp c zs+Et f k)),(8,false,.int .i64 k)])
   (λk w'=>k<=c.classes.length/\Xc Xe L w') (λk=>c.classes.length-k) 0 ⟨rfl,rfl,by rw[show Et f 0=0 from rfl,Int.add_zero];rfl,rfl,trivial⟩ ⟨XL _,t⟩ ?_
  rintro k P ⟨hk,m⟩ U;have F:=m.heap' H;have s:=K.trans m;refine ζa ϱ (ζl F ϱ (ζg ϱ (λG=>?_) λG=>?_))
  ·have G:=of_decide_eq_true G;have W:=Lo f k;have h3:=T (k+1);have e5:f k=Z2 (Bn c zs (k:Nat)) (Qi c (k:Nat)):=by rw[ef]
   have h4:=XaE c zs (k:Nat);refine ζd 9 Xe (by kernel_rfl) ϱ λd=>δl d F ϱ (δv d (λw' j=>(Xk3 c p a cap zs k w' (hc.chg (s.trans j)) (hr.chg (s.trans j)) hl N.2)) ϱ (δl d F ϱ (δv d (λw' j=>(Xbh c p (k:Nat) w' (hc.chg (s.trans j)))) ϱ (δw d (λw' j=>(Xfo (Bn c zs (k:Nat):Nat) (Qi c (k:Nat)) w' (by omega))) ϱ (δn d ϱ λV x=>?_)))));rw[<-e5];exact ζj ϱ (ζj ϱ (U (k+1) _ _ ⟨by omega,m.trans x⟩ (by omega) ⟨rfl,rfl,by rw[W,<-Int.add_assoc];rfl,rfl,trivial⟩))
  ·have G:=of_decide_eq_false G;have ek:k=c.classes.length:=by omega
   have e6:C0 c zs=Fp c zs+Et f c.classes.length:=by unfold C0;rw[ef]
   rw[e6,ek];exact ζr func19 ϱ ⟨rfl,s⟩
section
variable {c:Conf}{s:StM}
theorem Xed(c:Conf)(s:StM)(o size:Int):(Yv c s o size).keep=s.keep:=by
 show(X9 c s o size).keep=s.keep
 unfold X9;split <;> rfl
theorem Xeb(c:Conf)(s:StM)(q:PlcM):(Au c s q).keep=s.keep:=by
 unfold Au;split
 ·rfl
 ·exact(Pn _ _ _).1.trans (Kk c _ _).2.1
theorem Xec(s:StM)(κ:Int):(X7 s κ).keep=s.keep:=by
 unfold X7;split
 ·rfl
 ·exact(Pn _ _ _).1
theorem Xef(s:StM)(o:Int)(i n:Nat):(Qt s o i n).keep=s.keep:=by
 unfold Qt;split
 ·split <;> rfl
 ·rfl
theorem Xee(c:Conf)(s:StM):∀n,(tickTo c s n).1.keep=s.keep
 |0=>rfl
 |n+1=>by
  rw[Jl];unfold tickK;have ih:=Xee c s n;split
  ·exact ih
  ·split
   ·exact((Kk c _ _).2.1).trans ih
   ·exact((Pn _ _ _).1.trans (Kk c _ _).2.1).trans ih
theorem Xi7(c:Conf)(s:StM)(u:D8)(hu:¬u.kind%7=6)(h0:0<=u.kind):(Yy c s u).keep=s.keep:=by
 unfold Yy;split
 ·unfold Q8;split
  ·exact Xed ..
  ·rfl
 split
 ·unfold Bq;split
  ·rfl
  ·exact(Xeb ..).trans (Xec ..)
 split
 ·unfold Ac;split
  ·rfl
  ·split
   ·split
    ·exact Xef ..
    ·rfl
   ·exact(Xeb ..).trans ((Xed ..).trans (Xec ..))
 split
 ·unfold Br;split <;> rfl
 split
 ·unfold Cc;split
  ·exact Xef ..
  ·rfl
 split
 ·exact Xee ..
 ·omega
theorem Zd.do22(h:Zd s none)(hs:s.Ok c)(u:D8):Zd (Yy c s u) none:=by
 unfold Yy;split
 ·exact h.alloc _ _
 split
 ·exact h.free hs _
 split
 ·exact h.resize hs _ _
 split
 ·exact h.read _ _ _
 split
 ·exact h.write _ _ _
 split
 ·exact h.tick hs
 ·exact h.set _ _
end
theorem Xhd:∀n,Y5 [.int .i64 0] n=(List.replicate n (0:Int)).map (Value.int .i64)
 |0=>rfl
 |n+1=>by rw[Y5,Xhd n,ZT];rfl
theorem Xkw(h:w.heap[b]?=some (.cells (zs.map (Value.int .i64)).toArray t fz)):Rd .i64 w (some ⟨b,0,none⟩) zs:=λi hi=>by
 refine⟨b,0,rfl,?_⟩;rw[Yt h,XS];simp[hi,XC]
def H0(c:Conf):Conf:={c with keep:=List.replicate c.classes.length 0,step:=C2 c}
theorem XmT(hm:X6 c=true):X6 (H0 c)=true/\(∀k:Nat,Yb (H0 c) (k:Nat)<=(H0 c).step)/\1<=C2 c/\C2 c<=4096:=by
 have a:Ax c.classes c.size=true:=by unfold X6 at hm;simp only[XJ] at hm;exact hm.1.1.1.1.1.2
 have o:=Nk a;have p:=(Yp hm).size;have b:1<=C2 c/\C2 c<=4096:=by
  unfold C2;rw[if_neg (by omega)];have:=Pc a (c.classes.length-1) (by omega);omega
 refine⟨?_,λk=>?_,b⟩
 ·unfold X6 at hm⊢;have e1:(List.replicate c.classes.length (0:Int)).any I6=false:=by
   rw[YZ];intro x g;rw[ZG g]
   decide
  have e2:Qv (C2 c) 1 65536=true:=by unfold Qv;rw[decide_eq_true b.1,decide_eq_true (show C2 c<=65536 by omega)];rfl
  simp only[XJ] at hm⊢;obtain⟨⟨⟨⟨⟨⟨⟨h,i⟩,j⟩,q⟩,r⟩,l⟩,m⟩,n⟩:=hm;refine⟨⟨⟨⟨⟨⟨⟨h,i⟩,j⟩,⟨decide_eq_true XH,?_⟩⟩,e2⟩,l⟩,m⟩,n⟩;show(!(List.replicate c.classes.length (0:Int)).any I6)=true
  rw[e1];rfl
 ·show c.classes.getD (k:Int).toNat 0<=C2 c
  rw[XA];unfold C2;rw[if_neg (by omega)];by_cases s:k<c.classes.length
  ·have e:∀d,k+d<c.classes.length->c.classes.getD k 0<=c.classes.getD (k+d) 0:=λd=>by
    induction d with
    |zero=>exact λ_=>ZO _
    |succ d ih=>exact λt=>by have:=ih (by omega);have:=Xdg a (k+d) (by omega);rw[show k+(d+1)=k+d+1 by omega];omega
   have f:=e (c.classes.length-1-k) (by omega);rw[show k+(c.classes.length-1-k)=c.classes.length-1 by omega] at f;exact f
  ·rw[XC,XV (by omega)];have:=Pc a (c.classes.length-1) (by omega);show(0:Int)<=_
   omega
theorem XbJ(h:s.Ok c):(Ze s.th).all (Bd c)=true:=by
 rw[List.all_eq_true];intro z a;unfold Ze at a;obtain⟨x,b,e⟩:=List.mem_filterMap.1 a;cases x with
 |none=>cases e
 |some t=>cases e;exact(Xb9 h t b).1
theorem Xl7(h:X4 w r s)(hs:s.Ok c):∀w',Xc Xe w w'->Xf prog 18 #[.agg (Zv r).toArray] w' (λv w2=>Xc Xe w' w2/\∃a cap,v=.slice a (Ze s.th).length cap/\Rd .i64 w2 a (Ze s.th)):=λw' b=>
 (Xbw (h.grow b) hs).mono λv w2 ⟨d,e⟩=>⟨e,d.ints rfl⟩
theorem law_StoreTight(c:Conf)(p:Yu)(sa:Option Addr)(sc:Nat)(xs:List D8)(z:Int)(w:World)(ht:Bb w)(hc:Ys w c p)(hrs:Rows Fh 5 w sa xs)(hl:xs.length<=9223372036854775807)(hxs:∀x∈xs,Ix w x)(hz64 : -9223372036854775808<=z/\z<=9223372036854775807):Xf prog 5 #[.agg (Zj c p).toArray,.slice sa xs.length sc,.int .i64 z] w (Grow (.bool true) w):=by
 refine ζe func5 ntmps5 ϱ (ζn ϱ λcb w1 e1 cx bq eb=>?_);refine ζv (Xje w1 (ht.grow bq)) ϱ λD br=>?_;have b1:=bq.trans br;have b2:=br.heap' cx;refine ζl b2 ϱ (ζv (XkD c p D (hc.chg b1)) ϱ λK bs=>?_);have l:=b1.trans bs;have B:=bs.heap' b2;cases hf:Pj c with
 |false=>
  exact ζy ϱ (ζr func5 ϱ ⟨rfl,l⟩)
 |true=>
 obtain⟨hm,ed,ee⟩:=XiF hf;have cy:=Yp hm;refine ζf ϱ (ζc ϱ (Xle sa sc xs K (hrs.chg l) hl) ?_);rintro _ w4 ⟨b0,rfl,cz,rfl⟩;refine ζa ϱ (ζg ϱ (λg0=>?_) λg0=>?_)
 ·exact ζr func5 ϱ ⟨rfl,l⟩
 obtain⟨dm,di⟩:=cz (by simpa using g0);have c8:=cy.n;refine ζl B ϱ (Xa.make Xb (m:=c.classes.length) (k:=c.classes.length) rfl rfl rfl (XE _) (show 8*c.classes.length<=140737488355328 by omega) (by omega) λkb wa ea ao t ap=>ζa ϱ ?_);replace ao:wa.heap[kb]?=some (.cells (Y5 [.int .i64 0] c.classes.length).toArray 3 (0,0)):=ao;rw[Xhd] at ao;have lcb:=Xg B;have c9:=t.heap' B;refine ζs c9 ϱ λwb ag a0 d1=>?_;have b3:=(l.trans t).since a0 (λz E e=>by omega);obtain⟨qb,qoff,eqa,d2⟩:=(hc.chg b3).classes (c.classes.length-1) (by omega);refine ζl ag ϱ (ζl ag ϱ (ζj ϱ ?_));rw[eqa];refine ζi (c.classes.length-1) ϱ (ζk ϱ d2 ϱ (ζs ag ϱ λK a3 bt ef=>?_));have ah:=b3.since bt (λz E e=>by omega);have bu:=bt.heap (a0.heap ao (by omega)) (by omega);have eg:=Xg bu;have bv:Ys K (H0 c) {p with ka:=some ⟨kb,0,none⟩,kc:=c.classes.length}:=⟨(hc.chg ah).classes,Xkw bu,hc.lc,by show(List.replicate _ _).length<=_;rw[XH];omega,hc.size⟩;have eL:Zj (H0 c) {p with ka:=some ⟨kb,0,none⟩,kc:=c.classes.length}=[.int .i64 c.size,.int .i64 c.pages,.slice p.ca c.classes.length p.cc,.slice (some ⟨kb,0,none⟩) c.classes.length c.classes.length,.int .i64 (c.classes.getD (c.classes.length-1) 0),.int .i64 c.slots,.int .i64 c.gens,.int .i64 c.most]:=by
  unfold Zj H0 C2;simp only[XH];rw[if_neg (by omega)]
 replace a3:K.heap[cb]?=some (.cells (Zj (H0 c) {p with ka:=some ⟨kb,0,none⟩,kc:=c.classes.length}).toArray 24 (0,0)):=by rw[eL];exact a3
 obtain⟨bw,b4,eh,ei⟩:=XmT hm;have b5:(H0 c).keep=List.replicate c.classes.length 0:=rfl;have d3:(H0 c).pages=c.pages:=rfl;have d4:(H0 c).classes=c.classes:=rfl;have ca:Yj K (some ⟨kb,0,none⟩):=λb off s e=>by cases e;omega
 rename Conf=>c0
 rename Yu=>p0
 obtain⟨c,ec⟩:∃c,c=H0 c0:=⟨_,rfl⟩;obtain⟨p,ep⟩:∃p:Yu,p={p0 with ka:=some ⟨kb,0,none⟩,kc:=c0.classes.length}:=⟨_,rfl⟩;have bx:Yj K p.ka:=by rw[ep];exact ca
 rw[<-ec,<-ep] at a3 bv;rw[<-ec] at bw b4 b5 d3 d4;have hc:=bv;have hm:=bw;have c8:=(Yp hm).n;have ht:=ht.grow ah;have l:Xc Xe K K:=Xc.refl _ _;have B:=a3;refine ζl B ϱ (ζc ϱ (Xjf c p K (hc.chg l) (ht.grow l) hm (by omega) (bx.grow l.size)) ?_);rintro _ w5 ⟨F,S,r,n0,rfl,ej,h5,dp,bz,d6,cc⟩;refine ζa ϱ (ζn ϱ λxb w6 e6 d7 d8 ek=>ζs d7 ϱ λw7 cd d9 el=>?_);have b6:=d8.since d9 (λz E e=>by omega);have h7:=h5.grow b6;have em:=h5.chg.size;have ce:Bs c p n0 K w7 F (Ao c) r xb:=⟨bz.grow b6,d6,cc F (λz E=>.inr E) (λb off s e E=>by have:=h5.base b E;have:=bx b off s e;have:=l.size;omega),(bz.out λz e=>by omega),cd,by omega,by omega,λE=>by have:=h5.low _ E;omega⟩;replace l:=ah;have a1:=hc;refine Xa.loop (α:=Nat) (λk=>[(1,false,.slice sa xs.length sc),(2,false,.int .i64 z),(3,false,.pointer (some ⟨cb,0,none⟩)),(7,false,.bool true),(8,false,Zx S),(9,false,.pointer (some ⟨xb,0,none⟩)),(10,false,.int .i64 k)])
  (λk w'=>k<=xs.length/\∃F s r,Lv c n0 K w' F S s/\Bs c p n0 K w' F s r xb/\(OI s/\Zd s none/\s.keep=c.keep/\Aa s)/\0<=s.rm.tot/\s.rm.tot<=k*1000000000) (λk=>xs.length-k) 0 ⟨rfl,rfl,rfl,rfl,rfl,rfl,rfl,trivial⟩ ⟨XL _,F,Ao c,r,h7,ce,⟨OI.new hm,Zd.new c,rfl,Aa.new c⟩,ZO _,ZO _⟩ ?_
 rintro k w9 ⟨hk,F9,d,r9,N,a6,⟨aq,ar,ai,au⟩,c1,dt⟩ ih;have o:=N.inv;have L:=l.trans N.chg;have aj:=N.chg.heap' B;have b7:∀k:Nat,Zf d.rm (k:Nat)<=1:=λk=>by
  have:=aq.le k;rw[ai,b5,XC,XW] at this;split at this
  ·simp only[ZP] at this;omega
  ·simp only[Option.getD_none] at this;omega
 have du:(Ze d.th).length<=8191:=by have h1:=Xb7 d.th;have h2:=o.tl;have h3:=Jj o;omega
 refine ζa ϱ (ζg ϱ (λg1=>?_) λg1=>?_)
 ·have g1:=of_decide_eq_true g1;have c2:k<xs.length:=by omega
  obtain⟨ab,aoff,rfl,av⟩:=hrs.at c2;have hu:=hxs xs[k] (XK c2);have dc:=hu.kind;have a7:∀i v,(Fh xs[k])[i]?=some v->w9.cell? ⟨ab,aoff+k*5+i,none⟩=some v:=λi v hv=>L.cell (av i v hv) id;refine ζi (k*5) ϱ (ζk ϱ (a7 0 _ rfl) ϱ (Xa.div Xb rfl (by omega) (E9 (by omega)) rfl ?_));by_cases k6:xs[k].kind%7=6
  ·exact ζy ϱ (ζj ϱ (ih (k+1) _ _ ⟨by omega,F9,d,r9,N,a6,⟨aq,ar,ai,au⟩,c1,by omega⟩ (by omega) ⟨rfl,rfl,rfl,rfl,rfl,rfl,rfl,trivial⟩))
  refine ζf ϱ (ζi (k*5) ϱ (Xa.loadC Xb ((Fh xs[k])) rfl (by first|rfl|(simp;done)|(simp[*];done)|(simp;omega)) (a7) rfl ?_));have bl:0<xs[k].bs.length->Xj F9 xs[k].ba:=λhp b off s e E=>by
   have:=hu.rd.block hp e;have:=N.base _ E;have:=l.size;omega
  refine ζc ϱ (Xjg N xs[k] (hu.grow L) bl) ?_;rintro _ c3 ⟨en,dj,rfl,e0,e2,c4,a8,ch,ci⟩;refine ζa ϱ ?_;have aw:=l.trans a8.chg;have f:=a6.prog (a1.chg a8.chg) ch ci;have az:∀i v,(Fh xs[k])[i]?=some v->c3.cell? ⟨ab,aoff+k*5+i,none⟩=some v:=λi v hv=>aw.cell (av i v hv) id;have c5:=XmY (u:=xs[k]) o ⟨c1,by omega⟩;refine ζd 13 Xe (by kernel_rfl) ϱ λa=>δl a f.box ϱ (δi (k*5) a ϱ (Xd.loadC Xb a ((Fh xs[k])) rfl (by first|rfl|(simp;done)|(simp[*];done)|(simp;omega)) (az) (by first|exact λh=>h|(intro h;omega)|assumption) rfl ?_));have hd:=Xld f xs[k] o (hu.grow aw) (by omega);refine Xd.callAllocG (Xdz (Q5 c d xs[k]).length (Aj c d xs[k])) (S7 c3 r9 (Yy c d xs[k]) (Q5 c d xs[k])) (XdA) Xb a rfl rfl rfl (λ_=>rfl) rfl (λ_=>rfl) (λ_=>rfl) rfl rfl (λ_ _=>rfl) rfl (λ_ _=>rfl) (hd) (Xix) ((λ_ h=>h.elim)) ?_;rintro nb x eo er dd cj ⟨q1,q2,q3,q4,q5⟩ hG;refine Xd.turn1 a rfl λes ak=>Xp.store Xb a rfl (ak.heap' dd) (by first|(intro h;exact rfl)|(intro h;omega)) rfl rfl rfl λde bm al e7=>δn a ϱ λet am=>?_;have lxb:=Xg f.box;have aa:=cj.trans ak;have P:=(aa.since al (λz E e=>by omega)).trans am;have bn:Ys de x.1.c x.1.cp:=by
   rw[q2.1,q2.2.1,f.rc.1,f.rc.2];exact a1.chg (a8.chg.trans (aa.since al (λz E e=>by omega)))
  have ck:=((q1.grow ak).far hG.1 bn al).grow am;refine ζl (am.heap' bm) ϱ (ζs (P.heap' f.box) ϱ λc6 bo b8 e8=>?_);have c7:=q2.2.2 _ (λz e=>by omega) f.xr;have cl:=a8.grow P;have y:=cl.box f.xo.1 f.xo.2.2 (Yk (P.heap' f.box)) (by decide) b8 f.xo.2.1;have a4:Bs c p n0 K c6 c4 (Yy c d xs[k]) x.1 xb:=⟨ck.far c7 (by have:=a1.chg y.chg;rw[q2.1,q2.2.1,f.rc.1,f.rc.2];exact this) b8,⟨q2.1.trans f.rc.1,q2.2.1.trans f.rc.2⟩,q2.2.2 _ (λz E=>a8.low z E) f.out,c7,bo,f.xo⟩;have b9:=aq.do22 o xs[k] (by omega);have ba:=ar.do22 o xs[k];have bb:=(Xi7 c d xs[k] k6 dc.1).trans ai;have ax:=au.do22 o aq b4 xs[k] (by omega);obtain⟨s',es'⟩:∃s',s'=Yy c d xs[k]:=⟨_,rfl⟩;rw[<-es'] at y a4 b9 ba bb ax c5;have ac:=y.inv;have ay:=y.chg.heap' B;have cm:∀k:Nat,Zf s'.rm (k:Nat)<=1:=λk=>by
   have:=b9.le k;rw[bb,b5,XC,XW] at this;split at this
   ·simp only[ZP] at this;omega
   ·simp only[Option.getD_none] at this;omega
  have cn:(Ze s'.th).length<=8192:=by have h1:=Xb7 s'.th;have h2:=ac.tl;have h3:=Jj ac;omega
  refine ζd 8 Xe (by kernel_rfl) ϱ λa=>δl a ay ϱ (δl a a4.box ϱ (Xd.callQ a rfl rfl ((Xl7 a4.sr ac)) ?_));rintro _ df bc ⟨dg,bp,rfl,co⟩;refine Xd.adv Xb a rfl ?_;have O:=λw' (g:Xc Xe df w')=>Xbn c p dg bp (Ze s'.th) w' (a1.chg (y.chg.trans (bc.trans g))) hm (co.chg g) cn;rw[if_pos (XbJ ac)] at O;refine Xd.callQ a rfl rfl ((λw' g=>(O w' g).mono λv D ⟨e,h⟩=>⟨h,e⟩)) ?_;rintro _ eu cp rfl;refine Xd.adv Xb a rfl (δn a ϱ λew cq=>?_);have ad:=(bc.trans cp).trans cq;have cr:=y.grow ad;refine ζv (XeB cr) ϱ λex cs=>?_;rw[Xd5 ac ba cm ax];refine ζf ϱ ?_;have bd:=ad.trans cs;refine Xa.loop (α:=Nat) (λj=>[(1,false,.slice (some ⟨ab,aoff,none⟩) xs.length sc),(2,false,.int .i64 z),(3,false,.pointer (some ⟨cb,0,none⟩)),(7,false,.bool true),(8,false,Zx S),(9,false,.pointer (some ⟨xb,0,none⟩)),(10,false,.int .i64 k),(16,false,.int .i64 j)])
   (λj w'=>j<=c.classes.length/\Xc Xe c6 w') (λj=>c.classes.length-j) 0 ⟨rfl,rfl,rfl,rfl,rfl,rfl,rfl,rfl,trivial⟩ ⟨XL _,bd⟩ ?_
  rintro j ey ⟨hj,Q⟩ dh;refine ζa ϱ (ζl (Q.heap' ay) ϱ (ζg ϱ (λg2=>?_) λg2=>?_))
  ·have g2:=of_decide_eq_true g2;refine ζv (XaL (y.grow Q) (j:Nat)) ϱ λez cu=>?_;rw[show Jk s' (j:Nat)=0 by unfold Jk;rw[ax j]];exact ζf ϱ (ζj ϱ (dh (j+1) _ _ ⟨by omega,Q.trans cu⟩ (by omega) ⟨rfl,rfl,rfl,rfl,rfl,rfl,rfl,rfl,trivial⟩))
  ·exact ζj ϱ (ih (k+1) _ _ ⟨by omega,c4,s',x.1,y.grow Q,a4.grow Q,⟨b9,ba,bb,ax⟩,c5.1,by omega⟩ (by omega) ⟨rfl,rfl,rfl,rfl,rfl,rfl,rfl,trivial⟩)
 ·have f0:maxLen=9223372036854775807:=rfl;refine ζd 11 Xe (by kernel_rfl) ϱ λa=>δl a aj ϱ (δl a a6.box ϱ ?_);refine Xd.turn2 a rfl ?_ ?_
  ·intro wa t;have hq:=Xbw (a6.sr.grow t) o;refine Xp.call (Post:=λv D=>Xl wa.heap.size 3 1 D v (Ze d.th).length ((Ze d.th).map (Value.int .i64))/\Xc Xe wa D) rfl hq.fn (λh0=>hq.mono λv D hx=>⟨h0.trans hx.2,hx⟩) ?_;rintro v wb _ ⟨an,M⟩;refine Xd.adv Xb a rfl (Xd.turn1 a rfl λwc A=>Xp.buildSlice Xb a rfl (λ_=>rfl) λsb wd esb a0 R f3=>Xd.turn1 a rfl λwe G=>?_);have ae:=(((t.trans M).trans A).trans R).trans G;have af:=((an.chg A (λ_ _ h=>h)).chg R (λ_ _ h=>h)).chg G (λ_ _ h=>h);refine Xp.append (base:=(wa).heap.size) (xs:=(Ze d.th).map (Value.int .i64)) (news:=[.int .i64 z]) Xb a rfl af (by have:=ae.size;have:=R.size;have:=G.size;have:=A.size;have:=M.size;omega) t.size (by simp) (Gl (G.heap' a0)) (by simp[Value.oneCell']) (by simp only;omega) (λ_=>rfl) ?_;intro v8 w8 bg bh _;have T:=af.since ae t.size bh;have eTl:(Ze d.th).length+1=(Ze d.th++[z]).length:=by rw[XO];rfl
   have eTm:(Ze d.th).map (Value.int .i64)++[.int .i64 z]=(Ze d.th++[z]).map (Value.int .i64):=by rw[XI];rfl
   have H:=bg;rw[eTl,eTm] at H;obtain⟨za,zcap,rfl,ap⟩:=H.ints rfl;have O:=λw' (g:Xc Xe w8 w')=>Xbn c p za zcap (Ze d.th++[z]) w' (a1.chg (N.chg.trans ((T).trans g))) hm (ap.chg g) (by rw[XO];show _+1<=_;omega);obtain⟨f1,f2⟩:=XdS o ar b7 au z;cases hI:Bd c z with
   |false=>
    rw[if_neg (λh=>by rw[List.all_eq_true] at h;have:=h z (ZU _ (List.mem_singleton_self z));rw[hI] at this;cases this)] at O;refine Xd.callQ a rfl rfl ((λw' g=>(O w' g).mono λv D ⟨e,h⟩=>⟨h,e⟩)) ?_;rintro _ wy U rfl;refine Xd.adv Xb a rfl (δn a ϱ λwz V=>?_);have n:=((T).trans U).trans V;have W:=N.grow n;refine ζv (Tp W z) ϱ λwf I=>?_;have q:=L.trans (n.trans I);rw[f1 hI];exact ζy ϱ (ζy ϱ (ζr func5 ϱ ⟨rfl,q⟩))
   |true=>
    rw[if_pos (show(Ze d.th++[z]).all (Bd c)=true by rw[List.all_append,XbJ o];show(true && (Bd c z && true))=true;rw[hI];rfl)] at O;refine Xd.callQ a rfl rfl ((λw' g=>(O w' g).mono λv D ⟨e,h⟩=>⟨h,e⟩)) ?_;rintro _ wy U rfl;refine Xd.adv Xb a rfl (δn a ϱ λwz V=>?_);have n:=((T).trans U).trans V;have W:=N.grow n;refine ζv (Tp W z) ϱ λwf I=>?_;have C:=(n.trans I).heap' aj;have q:=L.trans (n.trans I);rw[f2 hI];refine ζf ϱ (ζy ϱ (ζl C ϱ ?_));by_cases J:c.pages<C0 c (Ze d.th++[z])
    ·rw[if_pos J];exact ζY ϱ (by rw[decide_eq_true (show C0 c (Ze d.th++[z])>c.pages from J)];rfl) (ζl C ϱ (ζr func5 ϱ ⟨by rw[decide_eq_false (show ¬C0 c (Ze d.th++[z])<=c.pages by omega)];rfl,q⟩))
    ·rw[if_neg J];exact ζY ϱ (by rw[decide_eq_false (show ¬C0 c (Ze d.th++[z])>c.pages from J)];rfl) (ζl C ϱ (ζr func5 ϱ ⟨by rw[decide_eq_true (show C0 c (Ze d.th++[z])<=c.pages by omega)];rfl,q⟩))
  ·intro wa t;refine Xp.buildSlice Xb a rfl (λ_=>rfl) λsb wb esb a0 M d1=>Xd.turn1 a rfl λwc A=>?_;have hq:=Xbw (a6.sr.grow ((t.trans M).trans A)) o;refine Xp.call (Post:=λv D=>Xl wc.heap.size 3 1 D v (Ze d.th).length ((Ze d.th).map (Value.int .i64))/\Xc Xe wc D) rfl hq.fn (λh0=>hq.mono λv D hx=>⟨h0.trans hx.2,hx⟩) ?_;rintro v wd _ ⟨an,R⟩;refine Xd.adv Xb a rfl (Xd.turn1 a rfl λwe G=>?_);have ae:=(((t.trans M).trans A).trans R).trans G;have af:=an.chg G (λ_ _ h=>h);refine Xp.append (base:=(wc).heap.size) (xs:=(Ze d.th).map (Value.int .i64)) (news:=[.int .i64 z]) Xb a rfl af (by have:=ae.size;have:=R.size;have:=G.size;have:=A.size;have:=M.size;omega) ((t.trans M).trans A).size (by simp) (Gl (((A.trans R).trans G).heap' a0)) (by simp[Value.oneCell']) (by simp only;omega) (λ_=>rfl) ?_;intro v8 w8 bg bh _;have T:=af.since ae ((t.trans M).trans A).size bh;have eTl:(Ze d.th).length+1=(Ze d.th++[z]).length:=by rw[XO];rfl
   have eTm:(Ze d.th).map (Value.int .i64)++[.int .i64 z]=(Ze d.th++[z]).map (Value.int .i64):=by rw[XI];rfl
   have H:=bg;rw[eTl,eTm] at H;obtain⟨za,zcap,rfl,ap⟩:=H.ints rfl;have O:=λw' (g:Xc Xe w8 w')=>Xbn c p za zcap (Ze d.th++[z]) w' (a1.chg (N.chg.trans ((T).trans g))) hm (ap.chg g) (by rw[XO];show _+1<=_;omega);obtain⟨f1,f2⟩:=XdS o ar b7 au z;cases hI:Bd c z with
   |false=>
    rw[if_neg (λh=>by rw[List.all_eq_true] at h;have:=h z (ZU _ (List.mem_singleton_self z));rw[hI] at this;cases this)] at O;refine Xd.callQ a rfl rfl ((λw' g=>(O w' g).mono λv D ⟨e,h⟩=>⟨h,e⟩)) ?_;rintro _ wy U rfl;refine Xd.adv Xb a rfl (δn a ϱ λwz V=>?_);have n:=((T).trans U).trans V;have W:=N.grow n;refine ζv (Tp W z) ϱ λwf I=>?_;have q:=L.trans (n.trans I);rw[f1 hI];exact ζy ϱ (ζy ϱ (ζr func5 ϱ ⟨rfl,q⟩))
   |true=>
    rw[if_pos (show(Ze d.th++[z]).all (Bd c)=true by rw[List.all_append,XbJ o];show(true && (Bd c z && true))=true;rw[hI];rfl)] at O;refine Xd.callQ a rfl rfl ((λw' g=>(O w' g).mono λv D ⟨e,h⟩=>⟨h,e⟩)) ?_;rintro _ wy U rfl;refine Xd.adv Xb a rfl (δn a ϱ λwz V=>?_);have n:=((T).trans U).trans V;have W:=N.grow n;refine ζv (Tp W z) ϱ λwf I=>?_;have C:=(n.trans I).heap' aj;have q:=L.trans (n.trans I);rw[f2 hI];refine ζf ϱ (ζy ϱ (ζl C ϱ ?_));by_cases J:c.pages<C0 c (Ze d.th++[z])
    ·rw[if_pos J];exact ζY ϱ (by rw[decide_eq_true (show C0 c (Ze d.th++[z])>c.pages from J)];rfl) (ζl C ϱ (ζr func5 ϱ ⟨by rw[decide_eq_false (show ¬C0 c (Ze d.th++[z])<=c.pages by omega)];rfl,q⟩))
    ·rw[if_neg J];exact ζY ϱ (by rw[decide_eq_false (show ¬C0 c (Ze d.th++[z])>c.pages from J)];rfl) (ζl C ϱ (ζr func5 ϱ ⟨by rw[decide_eq_true (show C0 c (Ze d.th++[z])<=c.pages by omega)];rfl,q⟩))
end Go.Proofs.YtohjeeapehmkcaaGreatDoor
