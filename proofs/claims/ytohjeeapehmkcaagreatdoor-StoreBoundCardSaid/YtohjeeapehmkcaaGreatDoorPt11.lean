/-
  Texts put together: Laws22c, Tot22, Laws22g, Szs, Bnd22, Lgo, Cnt22, Tgt22, Ref17, Kp22, Tck22, Laws22i.
-/
import Derived.Test.YtohjeeapehmkcaaGreatDoorPt10
import Derived.Test.YtohjeeapehmkcaaGreatDoorQRule9
set_option linter.unusedVariables false
set_option maxRecDepth 100000
namespace Go.Proofs.YtohjeeapehmkcaaGreatDoor
open Go.RowKit
open Bool renaming and_eq_true->XJ
open Int renaming toNat_natCast->XA,eq_ofNat_of_zero_le->XD,le_refl->ZQ,ediv_nonneg->ZW,ediv_le_self->YD,add_mul->YR
open List renaming getElem?_eq_getElem->XB,getD_eq_getElem?_getD->XC,getElem?_set_self->XF,length_set->XG,length_replicate->XH,map_append->XI,getElem_mem->XK,length_cons->XM,length_map->XN,getElem?_set_ne->XO,mem_of_getElem?->XP,length_append->XS,getElem?_eq_none->XV,filter_cons->XX,map_cons->ZB,take_add_one->ZC,take_of_length_le->ZE,mem_cons_of_mem->ZF,mem_cons_self->ZI,mem_singleton->ZN,append_nil->ZO,flatMap_cons->ZP,replicate_succ->ZT,length_filter_le->ZV,sum_cons->YF,length_range->YI,filter_append->YO,mem_replicate->YQ,range_succ->YV,any_eq_false->QE,map_nil->QP
open Nat renaming le_refl->XE,zero_le->XL,zero_add->XR,mul_one->ZH,le_trans->ZU,mul_le_mul_right->QG,add_mul->QH
open Option renaming getD_some->ZX
open Go.Proofs.Tryz (func10 func11 func17 func19 func4 func59 ntmps10 ntmps11 ntmps17 ntmps19 ntmps4 ntmps59 prog)
variable {A:Ar}{V:ArV}{c:Conf}{l':IL}{ahead by' size u who z:Int}{lg:List (Nat×List Nat)}{th:List (Option ThM)}{ps:List IL}{bs l p zs:List Int}{l2 ws:List Nat}{cs rest xs:List Value}{mo:Mo}{m:MvM}{N at' b base cap fuel g i j k len lm lo n n0 o off sz t tm vb xb y:Nat}{e:Nat×List Int}{fz:Nat×Nat}{f:Nat->Int}{G:Nat->Pg}{B C F F' Fr S S' T:Nat->Prop}{pd pd2:Option (Nat×PlcM)}{a:Option Addr}{pg:PgL}{P:Pl}{pl':PlM}{q:Plc}{R:Rm}{M:RmM}{r r1:SR}{x x':Sm}{s s':StM}{α:Type}{v:Value}{w w' w0 w1 w2:World}
theorem Ff.up{S:Sto}(h:Ff c n0 w0 w1 F S s w')(hc:Xc Xe w w1):Ff c n0 w0 w F S s w':=by
 obtain⟨F',a,b,d⟩:=h;have:=hc.size;exact⟨F',a,λz e=>(b z e).imp id (by omega),hc.gr.trans d⟩
theorem Xjm{S:Sto}(h:Lv c n0 w0 w F S s)(u:D8)(hu:Iw w u)(hout:0<u.bs.length->Xj F u.ba):Xf prog 11 #[Z4 S,.agg (Fi u).toArray] w
 (λv w'=>∃a cap,v=.tuple #[.slice a (Q6 c s u).length cap,.int .i64 (Ak c s u)]/\Rd .u8 w' a (Q6 c s u)/\(∀b off s',a=some ⟨b,off,s'⟩->w.heap.size<=b/\b<w'.heap.size)/\Ff c n0 w0 w F S (Yz c s u) w'):=by
 have z:=hu.kind;refine ζe func11 ntmps11 ϱ (ζn ϱ λub A e1 d f y=>?_);have m:=h.grow f;refine ζl d ϱ (Xa.div Xb rfl (by omega) (Fa (by omega)) rfl ?_);by_cases g:u.kind%7=0
 ·have eE:Ak c s u=Bg c s u.own u.a:=by unfold Ak;rw[if_pos g]
  have eS:Yz c s u=Q9 c s u.own u.a:=by unfold Yz;rw[if_pos g]
  have eB:Q6 c s u=[]:=by unfold Q6;rw[if_neg (by omega)]
  refine ζy ϱ (ζl d ϱ (ζl d ϱ ?_));refine ζc rfl (Xet m u.own u.a) ?_;rintro _ n ⟨rfl,i⟩;refine ζa ϱ ?_;rw[eB];exact ζr func11 ϱ ⟨none,0,by rw[eE];rfl,Rd.nil _ _ _,(by intro b off s' e;cases e),by rw[eS];exact i.up f⟩
 by_cases j:u.kind%7=1
 ·have eE:Ak c s u=Yk s u.own:=by unfold Ak;rw[if_neg g,if_pos j]
  have eS:Yz c s u=Bp c s u.own:=by unfold Yz;rw[if_neg g,if_pos j]
  have eB:Q6 c s u=[]:=by unfold Q6;rw[if_neg (by omega)]
  refine ζf ϱ (ζy ϱ (ζl d ϱ ?_));refine ζc rfl (XaN m u.own) ?_;rintro _ n ⟨rfl,i⟩;refine ζa ϱ ?_;rw[eB];exact ζr func11 ϱ ⟨none,0,by rw[eE];rfl,Rd.nil _ _ _,(by intro b off s' e;cases e),by rw[eS];exact i.up f⟩
 by_cases k:u.kind%7=2
 ·have eE:Ak c s u=B2 c s u.own u.a:=by unfold Ak;rw[if_neg g,if_neg j,if_pos k]
  have eS:Yz c s u=Ac c s u.own u.a:=by unfold Yz;rw[if_neg g,if_neg j,if_pos k]
  have eB:Q6 c s u=[]:=by unfold Q6;rw[if_neg (by omega)]
  refine ζf ϱ (ζf ϱ (ζy ϱ (ζl d ϱ (ζl d ϱ ?_))));refine ζc rfl (XjD m u.own u.a) ?_;rintro _ n ⟨rfl,i⟩;refine ζa ϱ ?_;rw[eB];exact ζr func11 ϱ ⟨none,0,by rw[eE];rfl,Rd.nil _ _ _,(by intro b off s' e;cases e),by rw[eS];exact i.up f⟩
 by_cases l:u.kind%7=3
 ·have eE:Ak c s u=Qp s u.own u.a u.b:=by unfold Ak;rw[if_neg g,if_neg j,if_neg k,if_pos l]
  have eS:Yz c s u=Bq c s u.own u.a u.b:=by unfold Yz;rw[if_neg g,if_neg j,if_neg k,if_pos l]
  have eB:Q6 c s u=Di c s u.own u.a u.b:=by unfold Q6;rw[if_pos l]
  refine ζf ϱ (ζf ϱ (ζf ϱ (ζy ϱ (ζl d ϱ (ζl d ϱ (ζl d ϱ (ζc ϱ (Xew m u.own u.a u.b hu.a hu.b) ?_)))))));rintro _ n ⟨x,r,rfl,t,q,i⟩;refine ζa ϱ ?_;rw[eB,eE,eS];exact ζr func11 ϱ ⟨x,r,rfl,t,(λb off s' e=>⟨by have:=(q b off s' e).1;have:=f.size;omega,(q b off s' e).2⟩),i.up f⟩
 by_cases o:u.kind%7=4
 ·have eE:Ak c s u=Qp s u.own u.a u.bs.length:=by unfold Ak;rw[if_neg g,if_neg j,if_neg k,if_neg l,if_pos o]
  have eS:Yz c s u=Cc c s u.own u.a u.bs:=by unfold Yz;rw[if_neg g,if_neg j,if_neg k,if_neg l,if_pos o]
  have eB:Q6 c s u=[]:=by unfold Q6;rw[if_neg (by omega)]
  refine ζf ϱ (ζf ϱ (ζf ϱ (ζf ϱ (ζy ϱ (ζl d ϱ (ζl d ϱ (ζl d ϱ ?_)))))));refine ζc rfl (Xez m u.own u.a u.ba u.bc u.bs hu.a (hu.rd.chg f) hu.lc (by have:=hu.lc;have:=hu.len;omega) hu.rng hout) ?_;rintro _ n ⟨rfl,i⟩;refine ζa ϱ ?_;rw[eB];exact ζr func11 ϱ ⟨none,0,by rw[eE];rfl,Rd.nil _ _ _,(by intro b off s' e;cases e),by rw[eS];exact i.up f⟩
 by_cases p:u.kind%7=5
 ·have eE:Ak c s u=0:=by unfold Ak;rw[if_neg g,if_neg j,if_neg k,if_neg l,if_neg o,if_pos p]
  have eS:Yz c s u=C4 c s:=by unfold Yz;rw[if_neg g,if_neg j,if_neg k,if_neg l,if_neg o,if_pos p]
  have eB:Q6 c s u=[]:=by unfold Q6;rw[if_neg (by omega)]
  refine ζf ϱ (ζf ϱ (ζf ϱ (ζf ϱ (ζf ϱ (ζy ϱ ?_)))));refine ζc rfl (Xey m) ?_;rintro _ n ⟨rfl,i⟩;refine ζa ϱ ?_;rw[eB];exact ζr func11 ϱ ⟨none,0,by rw[eE];rfl,Rd.nil _ _ _,(by intro b off s' e;cases e),by rw[eS];exact i.up f⟩
 ·have eE:Ak c s u=Cu s u.own u.a:=by unfold Ak;rw[if_neg g,if_neg j,if_neg k,if_neg l,if_neg o,if_neg p]
  have eS:Yz c s u=Dj s u.own u.a:=by unfold Yz;rw[if_neg g,if_neg j,if_neg k,if_neg l,if_neg o,if_neg p]
  have eB:Q6 c s u=[]:=by unfold Q6;rw[if_neg (by omega)]
  refine ζf ϱ (ζf ϱ (ζf ϱ (ζf ϱ (ζf ϱ (ζf ϱ (ζl d ϱ (ζl d ϱ ?_)))))));refine ζc rfl (XjE m u.own u.a) ?_;rintro _ n ⟨rfl,i⟩;refine ζa ϱ ?_;rw[eB];exact ζr func11 ϱ ⟨none,0,by rw[eE];rfl,Rd.nil _ _ _,(by intro b off s' e;cases e),by rw[eS];exact i.up f⟩
theorem Xjl(c:Conf)(p:Yy)(w:World)(hc:Yr w c p)(ht:Bb w)(hm:Zc c=true)(hp:c.pages<=512)(hk:Yo w p.ka):Xf prog 10 #[.agg (Zi c p).toArray] w
 (λv w'=>∃F S r n0,v=.tuple #[Z4 S,.agg (Zv r).toArray]/\n0<=w'.heap.size/\Lv c n0 w w' F S (Ap c)/\S.R.lap=0/\X5 w' r (Ap c)/\(r.c=c/\r.cp=p)/\(∀T:Nat->Prop,(∀z,T z->z<w.heap.size\/F z)->Xj T p.ka->Ao T r)):=by
 refine ζe func10 ntmps10 ϱ (ζn ϱ λb w1 e1 U I a3=>ζn ϱ λqb V e2 J s a4=>?_);have t:=s.heap' U;have d:=I.trans s;refine ζl t ϱ (ζc ϱ (Xeu c p V (hc.chg d) (ht.grow d) hm) ?_);rintro _ C ⟨F,S,rfl,D,E,u,h⟩;have i:=d.trans h;refine ζa ϱ (ζl (h.heap' t) ϱ (ζc ϱ (Xlo c p C (hc.chg i) hm hp) ?_));rintro _ w4 ⟨r,rfl,y,A,K,j,B⟩;refine ζa ϱ (ζn ϱ λxb w5 e5 L M a5=>ζs L ϱ λw6 G N a6=>?_);have f:=M.since N (λz a e=>by omega);refine ζd 3 Xe (by kernel_rfl) ϱ λO=>δl O G ϱ (δn O ϱ λW k=>?_);have m:=(B.trans (f.trans k)).heap' (h.heap' J);have g:=B.trans (f.trans k);have n:=D.grow g;have s3:=h.size;have a7:=g.size;refine ζs m ϱ λw8 H o a8=>?_;have P:¬F qb:=λa=>by have:=D.base qb a;omega
 have q:=(i.trans g).since o (λz a e=>by omega);have tl:0<w.heap.size:=by have:=World.block_lt_of_cell? w _ (ht 0 (by decide));exact this
 have Q:Lv c C.heap.size w w8 F S (Ap c):=by
  obtain⟨Fr,mo,k1⟩:=n.ok;obtain⟨l,a⟩:∃l,W.heap[qb]?=some (.cells (Value.int .i64 0::l).toArray 42 (0,0)):=⟨_,m⟩;exact⟨⟨Fr,mo,(k1.old a P (by decide) (λx e=>by cases e) (by omega) (by rw[u];intro off s' e;have:=hc.classes.block (by have:=(Ys hm).n;omega) e;omega) (by rw[u];intro off s' e;have:=hk _ _ _ e;omega) o)⟩,n.inv,n.sc,n.fx,λz a=>by have:=n.base z a;omega,q⟩
 exact ζq rfl func10 (Xl.tmp rfl (Xl.cell rfl rfl rfl H rfl .nil)) ⟨F,S,r,C.heap.size,rfl,by omega,Q,E,((K.grow (f.trans k)).far (j _ (λz e=>by omega) (λb' off s' e a=>by have:=hk _ _ _ e;omega)) (by rw[y,A];exact hc.chg q) o),⟨y,A⟩,λT hT R=>j T (λz a=>(hT z a).elim (by omega) (λa=>D.low z a)) R⟩
section
variable {c:Conf}{s:StM}{pd:Option (Nat×PlcM)}
theorem XgP{q:PlcM}(h:s.OkP c (some (o,q)))(ht:0<=s.rm.tot/\s.rm.tot<=999999900000):0<=(Av c s q).rm.tot/\(Av c s q).rm.tot<=s.rm.tot+40000:=by
 obtain⟨e,i,j⟩:=Xdo h.rm q;have a:0<=(Yl s.rm q).tot/\(Yl s.rm q).tot<=s.rm.tot+10000:=by
  rw[<-e];show 0<=Xx s.rm.tot _/\Xx s.rm.tot _<=_
  rw[Bk (by omega)];omega
 have b:=h.dropped;unfold Av;split
 ·show 0<=(Yl s.rm q).tot/\(Yl s.rm q).tot<=_
  omega
 ·have d:=Vd b q.cls.toNat ⟨a.1,by have:=a.2;show(Yl s.rm q).tot<=_;omega⟩;have g:(Z7 c {s with rm:=Yl s.rm q} q.cls.toNat).rm.tot<=(Yl s.rm q).tot+10000:=d.2;have f:=Xcb (b.begin q.cls.toNat) q.cls.toNat c.step ⟨d.1,by omega⟩;exact⟨f.1,by omega⟩
theorem XgQ(o:Int)(i n:Nat)(hn:n<=25000000)(ht:0<=s.rm.tot/\s.rm.tot<=1000000000000):0<=(Qs s o i n).rm.tot/\(Qs s o i n).rm.tot<=s.rm.tot+n:=by
 unfold Qs;split
 ·rename_i m _
  split
  ·have a:Q3 i n m.gone<=n:=by unfold Q3;omega
   show 0<=Xx s.rm.tot _/\Xx s.rm.tot _<=_
   rw[Bk (by omega)];omega
  ·omega
 ·omega
theorem XgO(q:Plc)(i n:Nat)(hm:Zc c=true)(hn:n<=25000000)(ht:0<=s.rm.tot/\s.rm.tot<=1000000000000):0<=(Y3 s (X6 c q i n)).rm.tot/\(Y3 s (X6 c q i n)).rm.tot<=s.rm.tot+(2*n+1):=by
 have:=I1 (q:=q) (at':=i) (n:=n) hm;show 0<=Xx s.rm.tot _/\Xx s.rm.tot _<=_
 rw[Bk (by omega)];omega
theorem Xm6{u:D8}(h:s.Ok c)(ht:0<=s.rm.tot/\s.rm.tot<=900000000000):0<=(Yz c s u).rm.tot/\(Yz c s u).rm.tot<=s.rm.tot+1000000000:=by
 have z:=(Ys h.may).most.2;unfold Yz;split
 ·unfold Q9;split
  ·rename_i d
   obtain⟨j,e,w,x,n⟩:=O8 d;rw[e];have:=Xcc h j w u.a (StM.OkP.lay h x n (by rintro _ _ ⟨⟩)) ⟨ht.1,by omega⟩;omega
  ·omega
 split
 ·unfold Bp;split
  ·omega
  ·rename_i y
   obtain⟨j,t,e,a⟩:=Hs (Decidable.not_not.1 y);rw[e,Yp a];obtain⟨t',b,_,_,_,f⟩:=Kr h a;rw[Yp b,XA];have i:=Ve h t.q.cls ⟨ht.1,by omega⟩;have p:=XgP ((Jr h t.q.cls).ok.away b f) ⟨i.1,by have:=i.2;show(X7 s t.q.cls).rm.tot<=_;omega⟩;refine⟨p.1,Int.le_trans p.2 ?_⟩;show(X7 s t.q.cls).rm.tot+40000<=_
   omega
 split
 ·unfold Ac;split
  ·omega
  ·rename_i d
   obtain⟨j,t,e,a,A,g⟩:=Rv (Decidable.not_not.1 d);have m:=h.size j t a;rw[e,C3 a,Yp a];split
   ·split
    ·have o:(Xz (t.size-u.a).toNat).length<=25000000:=by rw[Dl];omega
     have b:=O0 (s:=s) h.may t.q u.a.toNat (Xz (t.size-u.a).toNat) ⟨ht.1,by omega⟩ o;rw[Dl] at o b;have f:=XgQ (s:=C2 (Zx c s t.q u.a.toNat (Xz (t.size-u.a).toNat)) (j:Nat) ⟨u.a,t.q⟩) (j:Nat) u.a.toNat (t.size-u.a).toNat o ⟨b.1,by have:=b.2;show(Zx c s t.q u.a.toNat _).rm.tot<=_;omega⟩;exact⟨f.1,by have:=f.2;have:=b.2;have e:(C2 (Zx c s t.q u.a.toNat (Xz (t.size-u.a).toNat)) (j:Nat) ⟨u.a,t.q⟩).rm.tot=(Zx c s t.q u.a.toNat (Xz (t.size-u.a).toNat)).rm.tot:=rfl;omega⟩
    ·show 0<=s.rm.tot/\s.rm.tot<=_
     omega
   ·rename_i q
    rcases g with g|⟨g,n⟩
    ·exact absurd g q
    ·obtain⟨t',M⟩:=L8 h a g n;have r:=(List.getElem?_eq_some_iff.1 M.th1).1;unfold G6;simp only
     rw[Yp a,Yp M.th1,C3 a];have i:=Ve h t.q.cls ⟨ht.1,by omega⟩;have b:=XgO (s:=X7 s t.q.cls) t'.q.plc 0 (min t.size u.a).toNat h.may (by omega) ⟨i.1,by omega⟩;have f:=Xcc (M.ok1.tot (X6 c t'.q.plc 0 (min t.size u.a).toNat)) j r u.a M.ok2 ⟨b.1,by omega⟩;have k:(Yq c t'.q.plc (X7 s t.q.cls).bs 0 (min t.size u.a).toNat).length=(min t.size u.a).toNat:=by unfold Yq;rw[XN,YI]
     have l:=O0 (s:=Yw c (Y3 (X7 s t.q.cls) (X6 c t'.q.plc 0 (min t.size u.a).toNat)) (j:Nat) u.a) h.may (Y1 (Yw c (Y3 (X7 s t.q.cls) (X6 c t'.q.plc 0 (min t.size u.a).toNat)) (j:Nat) u.a) (j:Nat)) 0 (Yq c t'.q.plc (X7 s t.q.cls).bs 0 (min t.size u.a).toNat) ⟨f.1,by omega⟩ (by rw[k];omega);rw[k] at l;have v:=XgP (M.ok2.put _ 0 (Ld M.ok1.bi _ _)) ⟨l.1,by omega⟩;exact⟨v.1,by have:=v.2;omega⟩
 split
 ·unfold Bq;split
  ·rename_i d
   obtain⟨j,t,e,a,_,_,l⟩:=Vi d;have m:=h.size j t a;have:=XgO (s:=s) (Y1 s u.own).plc u.a.toNat u.b.toNat h.may (by omega) ⟨ht.1,by omega⟩;omega
  ·omega
 split
 ·unfold Cc;split
  ·rename_i d
   obtain⟨j,t,e,a,_,_,l⟩:=Vi d;have m:=h.size j t a;have b:=O0 (s:=s) h.may (Y1 s u.own) u.a.toNat u.bs ⟨ht.1,by omega⟩ (by omega);have f:=XgQ (s:=Zx c s (Y1 s u.own) u.a.toNat u.bs) u.own u.a.toNat u.bs.length (by omega) ⟨b.1,by omega⟩;omega
  ·omega
 split
 ·have k:s.mv.length<=16:=by have:=h.ml;have:=(Ys h.may).n;omega
  have:=Xcd h ⟨ht.1,by omega⟩ s.mv.length k;unfold C4;omega
 ·unfold Dj;split
  ·show 0<=s.rm.tot/\s.rm.tot<=_
   omega
  ·omega
end
theorem Xj.or{A:Nat->Prop}(h1:Xj A a)(h2:Xj B a)(h:∀z,C z->A z\/B z):Xj C a:=λb off s e c=>(h b c).elim (h1 b off s e) (h2 b off s e)
theorem Z5.or{A B C:Nat->Prop}{r:RS}(h1:Z5 A r)(h2:Z5 B r)(h:∀z,C z->A z\/B z):Z5 C r:=⟨h1.o.or h2.o h,h1.f.or h2.f h,h1.nums.or h2.nums h,h1.opn.or h2.opn h,h1.pa.or h2.pa h,λl a=>(h1.each l a).or (h2.each l a) h⟩
theorem B3.or{A B C:Nat->Prop}{r:RR}(h1:B3 A r)(h2:B3 B r)(h:∀z,C z->A z\/B z):B3 C r:=⟨h1.o.or h2.o h,h1.f.or h2.f h,h1.sa.or h2.sa h,λs a=>(h1.each s a).or (h2.each s a) h,h1.la.or h2.la h,λq b=>(h1.lgo q b).or (h2.lgo q b) h⟩
theorem Ao.or{A B C:Nat->Prop}{r:SR}(h1:Ao A r)(h2:Ao B r)(h:∀z,C z->A z\/B z):Ao C r:=⟨h1.k.or h2.k h,h1.ra.or h2.ra h,h1.rr.or h2.rr h,h1.ta.or h2.ta h,λt a=>(h1.tq t a).or (h2.tq t a) h,h1.ma.or h2.ma h⟩
structure Bs(c:Conf)(p:Yy)(n0:Nat)(w0 w:World)(F:Nat->Prop)(s:StM)(r:SR)(xb:Nat):Prop where
 sr:X5 w r s
 rc:r.c=c/\r.cp=p
 out:Ao F r
 xr:Ao (λz=>z=xb) r
 box:Zf w xb r
 xo:n0<=xb/\w0.heap.size<=xb/\¬F xb
section
variable {c:Conf}{p:Yy}{n0:Nat}{w0 w w':World}{F F':Nat->Prop}{S S':Sto}{s s':StM}{r:SR}{xb:Nat}
theorem Bs.grow(h:Bs c p n0 w0 w F s r xb)(hc:Xc Xe w w'):Bs c p n0 w0 w' F s r xb:=⟨h.sr.grow hc,h.rc,h.out,h.xr,hc.heap' h.box,h.xo⟩
theorem Bs.prog(h:Bs c p n0 w0 w F s r xb)(hc:Yr w' c p)(hF:∀z,F' z->F z\/w.heap.size<=z)(hch:Xc F w w'):Bs c p n0 w0 w' F' s r xb:=
 ⟨h.sr.far h.out (by rw[h.rc.1,h.rc.2];exact hc) hch,h.rc,h.out.or (h.sr.out λ_ a=>a) hF,h.xr,hch.heap h.box h.xo.2.2,h.xo.1,h.xo.2.1,λa=>(hF _ a).elim h.xo.2.2 λg=>by have:=Xg h.box;omega⟩
end
abbrev Xdw(n:Nat)(E:Int)(x:SR×Option Addr×Nat):Value:=.tuple #[.agg (Zv x.1).toArray,.slice x.2.1 n x.2.2,.int .i64 E]
abbrev Ta(w:World)(r:SR)(s':StM)(bs:List Int)(x:SR×Option Addr×Nat)(w2:World):Prop:=X5 w2 x.1 s'/\Zs w r x.1/\Xc Xe w w2/\Rd .u8 w2 x.2.1 bs/\∀b off s',x.2.1=some ⟨b,off,s'⟩->w.heap.size<=b
abbrev Xdx(x:SR×Option Addr×Nat)(b:Nat):Prop:=Ao (λz=>z=b) x.1/\Xj (λz=>z=b) x.2.1
theorem Xix{w:World}{r:SR}{s':StM}:∀x w2 w3,Ta w r s' bs x w2->Xc Xe w2 w3->Ta w r s' bs x w3:=λ_ _ _ ⟨a,b,c,d,e⟩ f=>⟨a.grow f,b,c.trans f,d.chg f,e⟩
theorem Xll{c:Conf}{p:Yy}{n0:Nat}{w0 w:World}{F:Nat->Prop}{s:StM}{r:SR}{xb:Nat}(h:Bs c p n0 w0 w F s r xb)(u:D8)(hs:s.Ok c)(hu:Iw w u)(ht:0<=s.rm.tot/\s.rm.tot<=999900000000):∀w',Xc Xe w w'->Xf prog 12 #[.agg (Zv r).toArray,.agg (Fi u).toArray] w' (λv w2=>Xc Xe w' w2/\∃x,v=Xdw (Q6 c s u).length (Ak c s u) x/\Ta w r (Yz c s u) (Q6 c s u) x w2/\∀b,w.heap.size<=b->(b<w'.heap.size\/w2.heap.size<=b)->Xdx x b):=λw' d=>by
 have g:=Xlk u (h.sr.grow d) (by rw[h.rc.1];exact hs) (hu.grow d) ht;rw[h.rc.1] at g;refine g.mono λv w2 ⟨r',a,cap,e,k,i,f⟩=>⟨f.2.2,(r',a,cap),e,⟨f.1,f.2.1.back d.size,d.trans f.2.2,k,λb off s' e=>?_⟩,λb l j=>⟨XbQ h.sr f.1 f.2.1 b l j,λb' off s' e m=>?_⟩⟩
 ·have:=(i b off s' e).1;have:=d.size;omega
 ·have:=i b' off s' e;omega
section
variable {c:Conf}{s:StM}{pd:Option (Nat×PlcM)}
end
def Dn(l:List Nat)(n:Nat):Nat:=l.length+if n∈l then 0 else 1
theorem S9(l:List Nat)(n:Nat):l.length<=Dn l n:=Nat.le_add_right _ _
def Qe(M:RmM)(k:Int):List Nat:=match X2 M k with|none=>[]|some x=>x.opn
theorem Gv(M:RmM)(k:Int):(Qe M k).length=Zh M k:=by
 unfold Qe Zh;cases X2 M k <;> rfl
theorem P8{M:RmM}{k:Int}(h:X2 M k=some x):Qe M k=x.opn:=by unfold Qe;rw[h]
theorem XdJ{l:List Nat}(hn:l.Nodup)(hm:n∈l):(l.filter (λm=>m != n)).length+1=l.length:=by
 rw[<-hn.erase_eq_filter n,List.length_erase_of_mem hm];have:=List.length_pos_of_mem hm;omega
theorem Xiu{l:List Nat}(hn:l.Nodup)(hm:n∈l)(m:Nat):Dn (l.filter (λz=>z != n)) m<=Dn l m:=by
 have:=XdJ hn hm;have a:=S9 l m;have b:Dn (l.filter (λz=>z != n)) m<=(l.filter (λz=>z != n)).length+1:=by
  unfold Dn;split <;> omega
 omega
theorem XlZ{pl:PlM}(hok:x.Ok):(x.opn≠[]->(∀m,Dn (Q0 x pl who).opn m<=Dn x.opn m)/\(Q0 x pl who).opn.length<=x.opn.length)/\(x.opn=[]->(Q0 x pl who).opn.length<=1):=by
 rcases J8 x pl who with⟨_,h,_⟩|⟨_,_,⟨n,r,a,h,_⟩|⟨n,r,a,_,h,_⟩⟩
 ·rw[h];exact⟨λ_=>⟨λ_=>XE _,XE _⟩,λe=>by rw[e];exact XL _⟩
 ·rw[h];refine⟨λ_=>?_,λe=>by rw[a] at e;cases e⟩;have b:n∈x.opn:=by rw[a];simp
  unfold Sm.takeAt;simp only
  split
  ·exact⟨λm=>Xiu hok.onodup b m,by have:=XdJ hok.onodup b;omega⟩
  ·exact⟨λ_=>XE _,XE _⟩
 ·rw[h];refine⟨λe=>absurd a e,λ_=>?_⟩;unfold Sm.takeAt Sm.fresh;simp only
  rw[a];split
  ·exact ZV (λm=>m != n) [n]
  ·exact XE _
theorem XlY{n i:Int}(hok:x.Ok):(Yt x n i).opn.length<=Dn x.opn n.toNat/\((Yt x n i).opn.length<=x.opn.length\/∃(m:Nat) (p:List Int),n=m/\m∉x.opn/\(Yt x n i).opn=m::x.opn/\Zd (Yt x n i).pg m=some p/\Xu p+1=(Yt x n i).blocks):=by
 have a:=S9 x.opn n.toNat;unfold Yt;cases j:Zd x.pg n with
 |none=>exact⟨a,.inl (XE _)⟩
 |some p=>
  obtain⟨m,rfl,f⟩:=Ga j;simp only
  by_cases d:Qx p i=0
  ·rw[if_pos d,XA];rw[XA] at a;have k:=Xba d;obtain⟨e1,e2,e3⟩:=hok.each _ f;simp only at e3
   unfold Sm.giveAt;simp only
   by_cases e:Xu p=x.blocks
   ·have c:m∉x.opn:=λh=>e3.1 h e;rw[if_pos e];by_cases b:Xu (Z6 p i)=0
    ·rw[if_pos b];have g:((m::x.opn).filter (λz=>z != m)).length<=x.opn.length:=by
      rw[XX,if_neg (by simp)];exact ZV _ _
     exact⟨ZU g a,.inl g⟩
    ·rw[if_neg b];refine⟨by unfold Dn;rw[if_neg c];exact XE _,.inr ⟨m,Z6 p i,rfl,c,rfl,?_,?_⟩⟩
     ·show Zd (Zm x.pg m (Z6 p i)) (m:Nat)=_
      rw[Uw hok.nodup f,if_pos rfl]
     ·show Xu (Z6 p i)+1=x.blocks
      omega
   ·rw[if_neg e];by_cases b:Xu (Z6 p i)=0
    ·rw[if_pos b];have:=ZV (λz=>z != m) x.opn;exact⟨ZU this a,.inl this⟩
    ·rw[if_neg b];exact⟨a,.inl (XE _)⟩
  ·rw[if_neg d];exact⟨a,.inl (XE _)⟩
section
variable {c:Conf}{M:RmM}
theorem P9(hn:n<M.shs.length)(x':Sm)(q:PlM)(j:Int):Qe (E0 M n x' q) j=if j=n then x'.opn else Qe M j:=by
 unfold Qe;rw[show X2 (E0 M n x' q) j=X2 (Dh M n x' q) j from rfl,K5 hn];by_cases a:j=n
 ·rw[if_pos a,if_pos a]
 ·rw[if_neg a,if_neg a]
theorem XgH(h:Yu c M)(k who:Int):(∀j,j≠k->Qe (Z9 M k who) j=Qe M j)/\(Qe M k≠[]->(∀m,Dn (Qe (Z9 M k who) k) m<=Dn (Qe M k) m)/\Zh (Z9 M k who) k<=Zh M k)/\(Qe M k=[]->Zh (Z9 M k who) k<=1):=by
 rw[<-Gv,<-Gv];unfold Z9;cases d:X2 M k with
 |none=>
  have e:Qe M k=[]:=by unfold Qe;rw[d]
  refine⟨λ_ _=>rfl,λh=>absurd e h,λ_=>?_⟩;simp only
  rw[e];exact XL _
 |some x=>
  obtain⟨n,rfl,f,g⟩:=C0 d;simp only
  split
  ·obtain⟨a,b⟩:=XlZ (pl:=M.pl) (who:=who) (h.mok.sh n x g).1;rw[XA,P9 f,if_pos rfl,P8 d];exact⟨λj i=>by rw[P9 f,if_neg i],a,b⟩
  ·exact⟨λ_ _=>rfl,λ_=>⟨λ_=>XE _,XE _⟩,λh=>by rw[h];exact XL _⟩
theorem Xav(h:Yu c M)(k n i:Int):(∀j,j≠k->Qe (Yn M k n i) j=Qe M j)/\Zh (Yn M k n i) k<=Dn (Qe M k) n.toNat/\(Zh (Yn M k n i) k<=Zh M k\/∃(m:Nat) (x:Sm) (p:List Int),n=m/\m∉Qe M k/\X2 (Yn M k n i) k=some x/\x.opn=m::Qe M k/\Zd x.pg m=some p/\Xu p+1=x.blocks):=by
 rw[<-Gv,<-Gv];have e:=S9 (Qe M k) n.toNat;unfold Yn;cases f:X2 M k with
 |none=>exact⟨λ_ _=>rfl,e,.inl (XE _)⟩
 |some x=>
  obtain⟨l,rfl,d,g⟩:=C0 f;simp only
  split
  ·obtain⟨a,b⟩:=XlY (n:=n) (i:=i) (h.mok.sh l x g).1;rw[XA,P9 d,if_pos rfl,P8 f];refine⟨λj o=>by rw[P9 d,if_neg o],a,b.imp id ?_⟩;rintro⟨m,p,e1,e2,e3,e4,e5⟩;refine⟨m,Yt x n i,p,e1,e2,?_,e3,e4,e5⟩;rw[show X2 (E0 M l (Yt x n i) (Af x M.pl n i)) (l:Nat)=X2 (Dh M l (Yt x n i) (Af x M.pl n i)) (l:Nat) from rfl,K5 d,if_pos rfl]
  ·exact⟨λ_ _=>rfl,e,.inl (XE _)⟩
theorem XeW(M:RmM)(k n i who j:Int):Qe (Qf M k n i who) j=Qe M j:=by
 unfold Qf;cases b:X2 M k with
 |none=>rfl
 |some x=>
  obtain⟨l,rfl,c,d⟩:=C0 b;simp only
  rw[XA];by_cases a:j=(l:Nat)
  ·have e:X2 (Dh M l (As x n i who) M.pl) j=some (As x n i who):=by rw[K5 c,if_pos a]
   rw[P8 e,a,P8 b];unfold As;split <;> rfl
  ·unfold Qe;rw[K5 c,if_neg a]
theorem XiB(M:RmM){q:PlcM}(h:q.cls<0)(j:Int):Qe (Yl M q) j=Qe M j:=by
 unfold Yl;split
 ·unfold Yn;rw[Oq h]
 ·split
  ·rfl
  ·split <;> rfl
end
theorem La{s s':StM}{v:Option MvM}(hs:s'.mv=s.mv.set k v){i:Int}(hi:i≠k):Xm s' i=Xm s i:=by
 unfold Xm;rw[hs];by_cases h:0<=i
 ·rw[if_pos h,if_pos h,XC,XC,XO (by omega)]
 ·rw[if_neg h,if_neg h]
theorem Ow{s s':StM}(hs:s'.mv=s.mv.set k none):Xm s' (k:Nat)=none:=by
 unfold Xm;rw[hs,if_pos (by omega),XA,XC];by_cases h:k<s.mv.length
 ·rw[XF h];rfl
 ·rw[XV (by rw[XG];omega)];rfl
def Hr(s:StM)(k:Nat):Nat:=match Xm s (k:Nat) with|none=>Zh s.rm (k:Nat)|some m=>Dn (Qe s.rm (k:Nat)) m.pf.toNat
def OI(s:StM):Prop:=∀k:Nat,(Hr s k:Int)<=s.keep.getD k 0+1
theorem Kx{s:StM}(h:Xm s (k:Nat)=none):Hr s k=Zh s.rm (k:Nat):=by unfold Hr;rw[h]
theorem Mc{s:StM}(h:Xm s (k:Nat)=some m):Hr s k=Dn (Qe s.rm (k:Nat)) m.pf.toNat:=by unfold Hr;rw[h]
theorem Mb{s s':StM}(e1:Qe s'.rm (k:Nat)=Qe s.rm (k:Nat))(e2:Xm s' (k:Nat)=Xm s (k:Nat)):Hr s' k=Hr s k:=by
 unfold Hr;rw[e2,e1,<-Gv,<-Gv,e1]
theorem OI.of{s s':StM}(h:OI s)(e:∀k,Hr s' k<=Hr s k)(ek:s'.keep=s.keep):OI s':=λk=>by
 have a:=h k;have b:=e k;rw[ek];omega
theorem OI.le{s:StM}(h:OI s)(k:Nat):(Zh s.rm (k:Nat):Int)<=s.keep.getD k 0+1:=by
 have a:=h k;cases b:Xm s (k:Nat) with
 |none=>rw[Kx b] at a;exact a
 |some m=>
  rw[Mc b] at a;have:=S9 (Qe s.rm (k:Nat)) m.pf.toNat;rw[Gv] at this;omega
section
variable {c:Conf}{s s':StM}{pd:Option (Nat×PlcM)}
theorem Tj(h:s.OkP c pd)(k:Nat):0<=s.keep.getD k 0:=by
 rw[XC];by_cases a:k<s.keep.length
 ·rw[XB a];exact(h.kr _ (XK a)).1
 ·rw[XV (by omega)];exact ZQ _
theorem Tb{a b:Int}:E7 a b=true↔b+1<a:=by
 unfold E7;simp only[XJ,decide_eq_true_eq];omega
theorem OI.begin(h:OI s)(k:Nat):Z7 c s k=s:=by
 unfold Z7;rw[if_neg];intro a;unfold Q8 at a;simp only[XJ] at a;have:=Tb.1 a.1.2;have:=h.le k;omega
theorem OI.go(h:OI s)(hs:s.Ok c)(k:Nat)(n:Int):OI (Zw s k n):=by
 unfold Zw;cases b:Xm s (k:Nat) with
 |none=>exact h
 |some m=>
  obtain⟨j,ej,e,d⟩:=Ql b;obtain rfl:k=j:=by omega
  simp only
  split
  ·refine h.of (λi=>Nat.le_of_eq ?_) rfl;by_cases a:i=k
   ·subst a;rw[Mc b,Mc (B0 (j:=i) (show(s.mv.set i _)[i]?=_ from XF e))];rfl
   ·exact Mb rfl (La rfl (by omega))
  ·obtain⟨f,g,_⟩:=Xav (StM.OkP.step hs d n).rm (k:Nat) m.pf m.fa;refine h.of (λi=>?_) rfl;by_cases a:i=k
   ·subst a;rw[Mc b,Kx (Ow rfl)];exact g
   ·exact Nat.le_of_eq (Mb (f _ (by omega)) (La rfl (by omega)))
theorem OI.finish(h:OI s)(hs:s.Ok c)(κ:Int):OI (X7 s κ):=by
 unfold X7;split
 ·exact h
 ·exact h.go hs _ _
theorem OI.clear{q:PlcM}(h:OI s)(hs:s.OkP c (some (o,q)))(hn:Xm s q.cls=none):OI (Av c s q):=by
 unfold Av;split
 ·rename_i B
  exact h.of (λi=>Nat.le_of_eq (Mb (XiB _ B _) rfl)) rfl
 ·rename_i S
  refine OI.go ?_ (StM.OkP.begin hs.dropped _) _ _;obtain⟨k,C⟩:=XD (show 0<=q.cls by omega);have g:=hs.dropped;rw[Uk (by omega),C] at g;rw[Uk (by omega),C,XA];rw[C] at hn;obtain⟨D,_,E⟩:=Xav hs.rm (k:Nat) q.page q.idx;have a0:=h.le k;obtain⟨b,eM⟩:∃b,b=Yn s.rm (k:Nat) q.page q.idx:=⟨_,rfl⟩;rw[<-eM] at D E g⊢;have y:Xm {s with rm:=b} (k:Nat)=none:=hn;by_cases l:Q8 {s with rm:=b} k=true
  ·have A:=Sr g l;obtain⟨ob,tb,ew,_⟩:=A.who;replace ew:Zg b k (Ye b k).1 (Ye b k).2.1=ob:=ew;have n:=l;unfold Q8 at n;simp only[XJ] at n;have F:s.keep.getD k 0+1<(Zh b (k:Nat):Int):=Tb.1 n.1.2;rcases E with E|⟨m,x,p,_,I,f,d,J,a2⟩
   ·omega
   obtain⟨j,ej,K,L⟩:=C0 f;obtain rfl:k=j:=by omega
   have M:=(g.rm.mok.sh k x L).1;obtain⟨m',em,N⟩:=Ga J;obtain rfl:m=m':=by omega
   have O:=(M.each _ N).2.1;have P:Qm x b.pl (ob:Nat)=0:=by
    unfold Qm;rw[if_neg (by omega),if_neg (by rw[d];simp)]
   have T:Qe (Z9 b (k:Nat) (ob:Nat)) (k:Nat)=Qe s.rm (k:Nat):=by
    have e1:Z9 b (k:Nat) (ob:Nat)=E0 b k (Q0 x b.pl (ob:Nat)) (B1 x b.pl (ob:Nat)):=by
     unfold Z9;rw[f];simp only
     rw[if_pos P,XA]
    rw[e1,P9 K,if_pos rfl];rcases J8 x b.pl (ob:Nat) with⟨a,_⟩|⟨_,_,⟨n',r,t,U,_,G,_⟩|⟨_,_,t,_⟩⟩
    ·exact absurd P a
    ·rw[d] at t;obtain rfl:m=n':=(List.cons.inj t).1;rw[J] at G;simp only[ZX] at G;rw[U,G];have a4:=I8 (p:=p) (who:=(ob:Nat)) (by omega) (by rw[O];show Xu p≠x.blocks;omega);unfold Sm.takeAt;simp only
     rw[if_pos (by omega),d,XX,if_neg (by simp)];refine List.filter_eq_self.2 λz V=>?_;simp only[bne_iff_ne,ne_eq];exact λe=>I (e▸V)
    ·rw[d] at t;cases t
   have u:2<=x.opn.length:=by
    have:=Tj hs k;rw[<-Gv,P8 f] at F;omega
   have Q:∃a∈Qe s.rm (k:Nat),(Ye b (k:Nat)).1=(a:Nat):=by
    have e1:(Ye b (k:Nat)).1=Bd (-1) x.opn:=by
     unfold Ye;rw[f];simp only
     unfold J7;rw[if_pos u]
    rw[e1,d];rcases I5 ((m:Nat):Int) (Qe s.rm (k:Nat)) with⟨e,_⟩|⟨a,H,e,_⟩
    ·rw[d,e] at u;simp at u
    ·exact⟨a,H,e⟩
   obtain⟨a,H,epf⟩:=Q;have eS:Z7 c {s with rm:=b} k={s with rm:=Z9 b k (ob:Nat),mv:=s.mv.set k (some (I7 c b k))}:=by
    unfold Z7;rw[if_pos l];simp only
    rw[ew]
   rw[eS];refine h.of (λi=>?_) rfl;by_cases v:i=k
   ·subst v;have R:i<s.mv.length:=by have:=hs.ml;have:=A.kl;omega
    rw[Kx hn,Mc (B0 (j:=i) (show(s.mv.set i _)[i]?=_ from XF R))];show Dn (Qe (Z9 b (i:Nat) (ob:Nat)) (i:Nat)) (Ye b (i:Nat)).1.toNat<=_
    rw[T,epf,XA];unfold Dn;rw[if_pos H,Gv];exact XE _
   ·refine Nat.le_of_eq (Mb ?_ (La rfl (by omega)));exact((XgH g.rm (k:Nat) (ob:Nat)).1 _ (by omega)).trans (D _ (by omega))
  ·have eS:Z7 c {s with rm:=b} k={s with rm:=b}:=by unfold Z7;rw[if_neg l]
   rw[eS];intro i;show(Hr {s with rm:=b} i:Int)<=s.keep.getD i 0+1
   by_cases v:i=k
   ·subst v;rw[Kx y];show(Zh b (i:Nat):Int)<=_
    by_cases W:s.keep.getD i 0+1<(Zh b (i:Nat):Int)
    ·refine absurd ?_ l;unfold Q8;rw[y,Tb.2 (show s.keep.getD i 0+1<(Zh b (i:Nat):Int) from W)];have w:2<=Zh b (i:Nat):=by have:=Tj hs i;omega
     show(true && true && G3 b (i:Nat))=true
     unfold G3;unfold Zh at w;cases f:X2 b (i:Nat) with
     |none=>rw[f] at w;simp at w
     |some x=>rw[f] at w;exact decide_eq_true w
    ·omega
   ·have e:=Mb (s:=s) (s':={s with rm:=b}) (k:=i) (D _ (by omega)) rfl;rw[e];exact h i
theorem OI.lay(h:OI s)(hs:s.OkP c pd)(o:Nat)(size:Int):OI (Yw c s (o:Nat) size):=by
 have f:=Tj hs
 suffices r:OI (X9 c s (o:Nat) size) from r.of (λi=>XE _) rfl
 unfold X9;cases a:Ce c s size with
 |none=>
  simp only
  unfold Ab;rw[if_neg (by omega)];split
  ·exact h
  ·split
   ·exact h.of (λi=>XE _) rfl
   ·obtain⟨t,g,l⟩:=XgH hs.rm (Xk c.classes size) (o:Nat);intro i;show(Hr {s with rm:=Z9 s.rm (Xk c.classes size) (o:Nat)} i:Int)<=s.keep.getD i 0+1
    have hi:=h i;by_cases d:(i:Int)=Xk c.classes size
    ·rw[<-d] at g l⊢;cases b:Xm s (i:Nat) with
     |none=>
      rw[Kx b] at hi;rw[Kx (s:={s with rm:=Z9 s.rm (i:Nat) (o:Nat)}) b];show(Zh (Z9 s.rm (i:Nat) (o:Nat)) (i:Nat):Int)<=_
      by_cases n:Qe s.rm (i:Nat)=[]
      ·have:=l n;have:=f i;omega
      ·have:=(g n).2;omega
     |some m=>
      rw[Mc b] at hi;rw[Mc (s:={s with rm:=Z9 s.rm (i:Nat) (o:Nat)}) b];have p:Qe s.rm (i:Nat)≠[]:=λe=>by
       have u:Zh s.rm (i:Nat)=0:=by rw[<-Gv,e];rfl
       unfold Ce at a;rw[<-d,b] at a;simp only at a
       rw[if_pos u] at a;cases a
      have:=(g p).1 m.pf.toNat;show(Dn (Qe (Z9 s.rm (i:Nat) (o:Nat)) (i:Nat)) m.pf.toNat:Int)<=_
      omega
    ·have e:=Mb (s:=s) (s':={s with rm:=Z9 s.rm (Xk c.classes size) (o:Nat)}) (k:=i) (t _ d) rfl;rw[e];exact hi
 |some m=>
  simp only
  unfold Ce at a;cases b:Xm s (Xk c.classes size) with
  |none=>rw[b] at a;cases a
  |some m'=>
   rw[b] at a;simp only at a
   split at a
   ·rename_i q
    obtain⟨j,ej,w,_⟩:=Ql b;rw[ej] at q⊢;rw[XA];intro i;have v:=f i;by_cases d:i=j
    ·subst d;rw[Kx (Ow (s:=s) (k:=i) rfl),<-Gv];show((Qe (Qf s.rm (i:Nat) m.pt m.ta (o:Nat)) (i:Nat)).length:Int)<=s.keep.getD i 0+1
     rw[XeW,Gv,q];omega
    ·have e:=Mb (s:=s) (s':=Y3 {s with mv:=s.mv.set j none,rm:=Qf s.rm (j:Nat) m.pt m.ta (o:Nat)} 3) (k:=i) (XeW ..) (La rfl (by omega));rw[e];exact(h i)
   ·cases a
theorem OI.wrote(h:OI s)(o:Int)(i n:Nat):OI (Qs s o i n):=by
 unfold Qs;split
 ·split
  ·exact h.of (λi=>XE _) rfl
  ·exact h
 ·exact h
theorem OI.alloc(h:OI s)(hs:s.Ok c)(o size:Int):OI (Q9 c s o size):=by
 unfold Q9;split
 ·rename_i a
  obtain⟨j,rfl,_,b,_⟩:=O8 a;exact h.lay hs _ _
 ·exact h
theorem OI.free(h:OI s)(hs:s.Ok c)(o:Int):OI (Bp c s o):=by
 unfold Bp;split
 ·exact h
 ·rename_i d
  obtain⟨j,t,rfl,a⟩:=Hs (Decidable.not_not.1 d);rw[Yp a,XA];obtain⟨t',b,_,e,_,f⟩:=Kr hs a;rw[Yp b];refine OI.clear ((h.finish hs _).of (λi=>XE _) rfl) ((hs.finish t.q.cls).away b f) ?_;rw[e];exact(Jr hs t.q.cls).mv
theorem Xjo(c:Conf)(s:StM)(o:Nat)(size:Int){κ:Int}(hne:Xk c.classes size=-1\/Xk c.classes size≠κ)(hm:Xm s κ=none):Xm (Yw c s (o:Nat) size) κ=none:=by
 show Xm (X9 c s (o:Nat) size) κ=none
 unfold X9;cases a:Ce c s size with
 |none=>exact hm
 |some m=>
  have b:Xm s (Xk c.classes size)=some m:=by
   unfold Ce at a;cases e:Xm s (Xk c.classes size) with
   |none=>rw[e] at a;cases a
   |some m'=>
    rw[e] at a;simp only at a
    split at a
    ·exact a
    ·cases a
  obtain⟨j,ej,d,_⟩:=Ql b;simp only
  rw[ej,XA];by_cases e:κ=(j:Nat)
  ·rw[e];exact Ow rfl
  ·exact(La rfl e).trans hm
theorem OI.moveTo(h:OI s)(hs:s.Ok c){t:ThM}(ht:s.th[o]?=some (some t))(hst:Ag c t.size size=false)(hf:Qv c s size=0):OI (G6 c s o size):=by
 obtain⟨t',M⟩:=L8 hs ht hst hf;unfold G6;simp only
 rw[Yp ht,Yp M.th1,C3 ht];have b:OI (Y3 (X7 s t.q.cls) (X6 c t'.q.plc 0 (min t.size size).toNat)):=(h.finish hs _).of (λi=>XE _) rfl;have d:=b.lay (M.ok1.tot _) o size;refine OI.clear (d.of (λi=>XE _) rfl) (M.ok2.put _ _ (Ld M.ok1.bi _ _)) ?_;rw[M.cls'];have a:=Xgn hst;rw[<-Nq hs ht] at a;exact Xjo c _ o size a (Jr hs t.q.cls).mv
theorem OI.resize(h:OI s)(hs:s.Ok c)(o size:Int):OI (Ac c s o size):=by
 unfold Ac;split
 ·exact h
 ·rename_i d
  obtain⟨j,t,rfl,b,f,e⟩:=Rv (Decidable.not_not.1 d);rw[C3 b,Yp b];split
  ·split
   ·exact(show OI (C2 (Zx c s t.q size.toNat (Xz (t.size-size).toNat)) (j:Nat) ⟨size,t.q⟩) from h.of (λi=>XE _) rfl).wrote _ _ _
   ·exact h.of (λi=>XE _) rfl
  ·rename_i a
   have a:Ag c t.size size=false:=by simpa using a
   exact h.moveTo hs b a (e.resolve_left (by rw[a];decide)).2
theorem OI.read(h:OI s)(o i n:Int):OI (Bq c s o i n):=by
 unfold Bq;split
 ·exact h.of (λi=>XE _) rfl
 ·exact h
theorem OI.write(h:OI s)(o i:Int)(l:List Int):OI (Cc c s o i l):=by
 unfold Cc;split
 ·exact(show OI (Zx c s (Y1 s o) i.toNat l) from h.of (λi=>XE _) rfl).wrote _ _ _
 ·exact h
theorem OI.tickK(h:OI s)(hs:s.Ok c)(n:Int)(k:Nat):OI (tickK c (s,n) k).1:=by
 unfold Go.Proofs.YtohjeeapehmkcaaGreatDoor.tickK;rw[h.begin];split
 ·exact h
 ·split
  ·exact h
  ·exact h.go hs k _
theorem OI.tickTo(h:OI s)(hs:s.Ok c):∀n,OI (tickTo c s n).1
 |0=>h
 |n+1=>by rw[Ji];exact OI.tickK (OI.tickTo h hs n) (hs.tickTo n) _ _
theorem OI.do22(h:OI s)(hs:s.Ok c)(u:D8)(hu:u.kind%7=0\/u.kind%7=1\/u.kind%7=2\/u.kind%7=3\/u.kind%7=4\/u.kind%7=5):OI (Yz c s u):=by
 unfold Yz;split
 ·exact h.alloc hs _ _
 split
 ·exact h.free hs _
 split
 ·exact h.resize hs _ _
 split
 ·exact h.read _ _ _
 split
 ·exact h.write _ _ _
 split
 ·exact h.tickTo hs _
 ·omega
theorem OI.new(hm:Zc c=true):OI (Ap c):=λk=>by
 have e:Xm (Ap c) (k:Nat)=none:=by
  cases h:Xm (Ap c) (k:Nat) with
  |none=>rfl
  |some m=>
   obtain⟨j,_,_,i⟩:=Ql h;have:=XP i;simp only[Ap,YQ] at this;cases this.2
 rw[Kx e];have l:Zh (Ap c).rm (k:Nat)=0:=by
  unfold Zh;cases n:X2 (Ap c).rm (k:Nat) with
  |none=>rfl
  |some x=>
   obtain⟨j,_,_,b⟩:=C0 n;obtain⟨_,ex⟩:=L9 b;rw[ex];rfl
 rw[l];show(0:Int)<=c.keep.getD k 0+1
 have d:∀x∈c.keep,0<=x:=λx b=>by
  have a:=hm;unfold Zc at a;simp only[XJ,decide_eq_true_eq,Q1,Bool.not_eq_true'] at a;have f:=a.1.1.1.1.2.2;rw[QE] at f;have:=f x b;unfold Kt Q1 at this;simp at this;omega
 rw[XC];by_cases g:k<c.keep.length
 ·rw[XB g];have:=d _ (XK g);show 0<=c.keep[k]+1
  omega
 ·rw[XV (by omega)]
  decide
end
def Ze(s:StM)(pd:Option (Nat×PlcM)):Prop:=∀e∈s.rm.lg,(∃(o:Nat),∃t,s.th[o]?=some (some t)/\t.q.cls=-1/\t.q.page=(e.1:Nat))\/∃o q,pd=some (o,q)/\q.cls=-1/\q.page=(e.1:Nat)
section
variable {c:Conf}{s s':StM}{pd:Option (Nat×PlcM)}
theorem Ze.of(h:Ze s pd)(e1:s'.rm.lg=s.rm.lg)(e2:s'.th=s.th):Ze s' pd:=λe a=>by
 rw[e2];exact h e (e1▸a)
theorem Ze.begin(h:Ze s pd)(k:Nat):Ze (Z7 c s k) pd:=by
 unfold Z7;split
 ·exact h.of (R1 ..) rfl
 ·exact h
theorem Ze.go(h:Ze s none)(hs:s.Ok c)(k:Nat)(n:Int):Ze (Zw s k n) none:=by
 unfold Zw;cases l:Xm s (k:Nat) with
 |none=>exact h
 |some m=>
  obtain⟨j,ej,r,f⟩:=Ql l;obtain⟨⟨o,t,e1,e2,e3⟩,_⟩:=hs.mv j m f;simp only
  split
  ·exact h.of rfl rfl
  ·intro e i;rw[R0] at i;rcases h e i with⟨b,p,d,a,q⟩|⟨_,_,g,_⟩
   ·refine .inl ⟨b,p,?_,a,q⟩;show(s.th.set m.who.toNat _)[b]?=_
    rw[XO]
    ·exact d
    ·intro e4;have:b=o:=by omega
     subst this;rw[e2] at d;cases d
     rw[e3] at a;have a:((j:Nat):Int)=-1:=a;omega
   ·cases g
theorem Ze.finish(h:Ze s none)(hs:s.Ok c)(κ:Int):Ze (X7 s κ) none:=by
 unfold X7;split
 ·exact h
 ·exact h.go hs _ _
theorem Ze.dropped{q:PlcM}(h:Ze s (some (o,q)))(hs:s.OkP c (some (o,q))):Ze {s with rm:=Yl s.rm q} none:=by
 intro e a;by_cases b:q.cls=-1
 ·obtain⟨n,r,k,f,t⟩:=hs.pl o q rfl b;rw[f,XfK hs.rm.ok k] at a;replace a:e∈Cp s.rm.lg n:=a;unfold Cp at a;obtain⟨l,i⟩:=List.mem_filter.1 a;rcases h e l with g|⟨m,p,g,j,d⟩
  ·exact .inl g
  ·cases g
   rw[f] at d;simp only[bne_iff_ne,ne_eq] at i;exact absurd (Int.ofNat_inj.1 d).symm i
 ·replace a:e∈(Yl s.rm q).lg:=a;rw[Uk b,R0] at a;rcases h e a with g|⟨m,p,g,j,d⟩
  ·exact .inl g
  ·cases g
   exact absurd j b
theorem Ze.clear{q:PlcM}(h:Ze s (some (o,q)))(hs:s.OkP c (some (o,q))):Ze (Av c s q) none:=by
 unfold Av;split
 ·exact h.dropped hs
 ·exact((h.dropped hs).begin _).go (StM.OkP.begin hs.dropped _) _ _
theorem Ze.away(h:Ze s none){t:ThM}(ht:s.th[o]?=some (some t)):Ze {s with th:=s.th.set o none} (some (o,t.q)):=by
 intro e f;rcases h e f with⟨a,i,b,c,d⟩|⟨_,_,g,_⟩
 ·by_cases e1:o=a
  ·subst e1;rw[ht] at b;cases b
   exact .inr ⟨o,t.q,rfl,c,d⟩
  ·exact .inl ⟨a,i,by show(s.th.set o none)[a]?=_;rw[XO e1];exact b,c,d⟩
 ·cases g
theorem Ze.lay(h:Ze s pd)(ho:s.th[o]?=some none):Ze (Yw c s (o:Nat) size) pd:=by
 have old:∀e∈s.rm.lg,(∃(b:Nat),∃t,(Yw c s (o:Nat) size).th[b]?=some (some t)/\t.q.cls=-1/\t.q.page=(e.1:Nat))\/∃b q,pd=some (b,q)/\q.cls=-1/\q.page=(e.1:Nat):=λe a=>by
  rcases h e a with⟨b,l,f,n,p⟩|g
  ·refine .inl ⟨b,l,?_,n,p⟩;show(s.th.set (o:Int).toNat _)[b]?=_
   rw[XA,XO]
   ·exact f
   ·intro e1;subst e1;rw[ho] at f;cases f
  ·exact .inr g
 intro e a;replace a:e∈(X9 c s (o:Nat) size).rm.lg:=a;cases d:Ce c s size with
 |some m=>
  unfold X9 at a;rw[d] at a;replace a:e∈(Qf s.rm (Xk c.classes size) m.pt m.ta o).lg:=a;rw[XbC] at a;exact old e a
 |none=>
  have i:Zb c s (o:Nat) size=A4 c s.rm (o:Nat) size:=by unfold Zb;rw[d]
  unfold X9 at a;rw[d] at a;replace a:e∈(Ab c s.rm (o:Nat) size).lg:=a;unfold Ab at a;rw[if_neg (by omega)] at a;split at a
  ·exact old e a
  ·rename_i j
   split at a
   ·rename_i k
    rcases List.mem_append.1 a with g|g
    ·exact old e g
    ·rw[ZN] at g;refine .inl ⟨o,⟨size,Zb c s (o:Nat) size⟩,?_,?_,?_⟩
     ·show(s.th.set (o:Int).toNat _)[o]?=_
      rw[XA,XF ((List.getElem?_eq_some_iff.1 ho).1)]
     ·show(Zb c s (o:Nat) size).cls=-1
      rw[i];unfold A4;rw[if_neg (by omega),if_neg j,if_pos k]
     ·show(Zb c s (o:Nat) size).page=_
      rw[i,g];unfold A4;rw[if_neg (by omega),if_neg j,if_pos k]
   ·rw[R1] at a;exact old e a
theorem Ze.wrote(h:Ze s pd)(o:Int)(i n:Nat):Ze (Qs s o i n) pd:=by
 unfold Qs;split
 ·split
  ·exact h.of rfl rfl
  ·exact h
 ·exact h
theorem Ze.sized(h:Ze s pd){t:ThM}(ht:s.th[o]?=some (some t))(size:Int):Ze (C2 s (o:Nat) ⟨size,t.q⟩) pd:=by
 intro e f;rcases h e f with⟨a,i,b,c,d⟩|g
 ·by_cases e1:o=a
  ·subst e1;rw[ht] at b;cases b
   refine .inl ⟨o,⟨size,t.q⟩,?_,c,d⟩;show(s.th.set (o:Int).toNat _)[o]?=_
   rw[XA,XF (List.getElem?_eq_some_iff.1 ht).1]
  ·refine .inl ⟨a,i,?_,c,d⟩;show(s.th.set (o:Int).toNat _)[a]?=_
   rw[XA,XO e1];exact b
 ·exact .inr g
theorem Ze.alloc(h:Ze s none)(o size:Int):Ze (Q9 c s o size) none:=by
 unfold Q9;split
 ·rename_i a
  obtain⟨j,rfl,_,b,_⟩:=O8 a;exact h.lay b
 ·exact h
theorem Ze.free(h:Ze s none)(hs:s.Ok c)(o:Int):Ze (Bp c s o) none:=by
 unfold Bp;split
 ·exact h
 ·rename_i d
  obtain⟨j,t,rfl,b⟩:=Hs (Decidable.not_not.1 d);rw[Yp b,XA];obtain⟨t',a,_,_,_,e⟩:=Kr hs b;rw[Yp a];exact((h.finish hs _).away a).clear ((hs.finish t.q.cls).away a e)
theorem Ze.moveTo(h:Ze s none)(hs:s.Ok c){t:ThM}(ht:s.th[o]?=some (some t))(hst:Ag c t.size size=false)(hf:Qv c s size=0):Ze (G6 c s o size) none:=by
 obtain⟨t',M⟩:=L8 hs ht hst hf;unfold G6;simp only
 rw[Yp ht,Yp M.th1,C3 ht];have b:Ze (Y3 {X7 s t.q.cls with th:=(X7 s t.q.cls).th.set o none} (X6 c t'.q.plc 0 (min t.size size).toNat)) (some (o,t'.q)):=((h.finish hs t.q.cls).away M.th1).of rfl rfl;have a:=b.lay (c:=c) (o:=o) (size:=size) (by show((X7 s t.q.cls).th.set o none)[o]?=_;rw[XF ((List.getElem?_eq_some_iff.1 M.th1).1)]);have e:Y3 {X7 s t.q.cls with th:=(X7 s t.q.cls).th.set o none} (X6 c t'.q.plc 0 (min t.size size).toNat)={Y3 (X7 s t.q.cls) (X6 c t'.q.plc 0 (min t.size size).toNat) with th:=(Y3 (X7 s t.q.cls) (X6 c t'.q.plc 0 (min t.size size).toNat)).th.set o none}:=rfl;rw[e,Xef] at a;exact Ze.clear (a.of rfl rfl) (M.ok2.put _ _ (Ld M.ok1.bi _ _))
theorem Ze.resize(h:Ze s none)(hs:s.Ok c)(o size:Int):Ze (Ac c s o size) none:=by
 unfold Ac;split
 ·exact h
 ·rename_i d
  obtain⟨j,t,rfl,b,f,e⟩:=Rv (Decidable.not_not.1 d);rw[C3 b,Yp b];split
  ·split
   ·exact((show Ze (Zx c s t.q size.toNat (Xz (t.size-size).toNat)) none from h.of rfl rfl).sized (o:=j) (t:=t) b size).wrote _ _ _
   ·exact h.sized b size
  ·rename_i a
   have a:Ag c t.size size=false:=by simpa using a
   exact h.moveTo hs b a (e.resolve_left (by rw[a];decide)).2
theorem Ze.read(h:Ze s none)(o i n:Int):Ze (Bq c s o i n) none:=by
 unfold Bq;split
 ·exact h.of rfl rfl
 ·exact h
theorem Ze.write(h:Ze s none)(o i:Int)(l:List Int):Ze (Cc c s o i l) none:=by
 unfold Cc;split
 ·exact(show Ze (Zx c s (Y1 s o) i.toNat l) none from h.of rfl rfl).wrote _ _ _
 ·exact h
theorem Ze.tickK(h:Ze s none)(hs:s.Ok c)(n:Int)(k:Nat):Ze (tickK c (s,n) k).1 none:=by
 unfold Go.Proofs.YtohjeeapehmkcaaGreatDoor.tickK;split
 ·exact h
 ·split
  ·exact h.begin k
  ·exact(h.begin k).go (StM.OkP.begin hs k) k _
theorem Ze.tickTo(h:Ze s none)(hs:s.Ok c):∀n,Ze (tickTo c s n).1 none
 |0=>h
 |n+1=>by rw[Ji];exact Ze.tickK (Ze.tickTo h hs n) (hs.tickTo n) _ _
theorem Ze.tick(h:Ze s none)(hs:s.Ok c):Ze (C4 c s) none:=h.tickTo hs _
theorem Ze.set(h:Ze s none)(k keep:Int):Ze (Dj s k keep) none:=by
 unfold Dj;split
 ·exact h.of rfl rfl
 ·exact h
theorem Ze.new(c:Conf):Ze (Ap c) none:=λe a=>by cases a
end
def Wx(p:List Int):List Nat:=(List.range p.length).filter λi=>decide (Z2 p (i:Nat)≠-1)
theorem XcY:∀p:List Int,(Wx p).length=Xu p
 |[]=>rfl
 |o::r=>by
  have ih:=XcY r;have e:Xu (o::r)=(if o=-1 then 0 else 1)+Xu r:=by
   unfold Xu Y5;rw[ZB,cnt];by_cases h:o=-1
   ·simp[h]
   ·simp[h]
  rw[e,<-ih];unfold Wx;rw[XM,List.range_succ_eq_map,XX,List.filter_map,];have e2:((λi=>decide (Z2 (o::r) ((i:Nat):Int)≠-1)) ∘ Nat.succ)=λi=>decide (Z2 r ((i:Nat):Int)≠-1):=by
   funext i
   show decide (Z2 (o::r) ((i+1:Nat):Int)≠-1)=_
   unfold Z2;rw[if_pos (by omega),if_pos (by omega),XA,XA];rfl
  rw[e2];have e3:Z2 (o::r) ((0:Nat):Int)=o:=rfl;by_cases h:o=-1
  ·rw[if_neg (by rw[e3];simpa using h),if_pos h,XN];omega
  ·rw[if_pos (by rw[e3];simpa using h),if_neg h,XM,XN];omega
def Nj(x:Sm):List (Int×Int):=x.pg.flatMap λe=>(Wx e.2).map λ(i:Nat)=>((e.1:Int),(i:Int))
theorem Xh6(x:Sm):(Nj x).length=Yh x.pg:=by
 unfold Nj;generalize x.pg=l
 induction l with
 |nil=>rfl
 |cons e r ih=>rw[ZP,XS,ih,XN,XcY];rfl
theorem Xh7(hok:x.Ok){n a:Int}:(n,a)∈Nj x↔Qo x n a≠-1:=by
 constructor
 ·intro h;obtain⟨e,g,c⟩:=List.mem_flatMap.1 h;obtain⟨i,hi,b⟩:=List.mem_map.1 c;obtain⟨_,j⟩:=List.mem_filter.1 hi;cases b
  unfold Qo;rw[A6 hok.nodup (m:=e.1) (p:=e.2) g];exact of_decide_eq_true j
 ·intro h;obtain⟨m,p,rfl,d,_,k,c,b⟩:=T0 hok h;obtain⟨i,rfl⟩:=XD k;have f:=(hok.each _ d).2.1;refine List.mem_flatMap.2 ⟨(m,p),d,List.mem_map.2 ⟨i,List.mem_filter.2 ⟨List.mem_range.2 ?_,?_⟩,rfl⟩⟩
  ·show i<p.length
   have f:p.length=x.blocks:=f;omega
  ·rw[b] at h;exact decide_eq_true h
theorem Xh8(hok:x.Ok):(Nj x).Nodup:=by
 unfold Nj List.Nodup;rw[List.pairwise_flatMap];refine⟨λe _=>?_,?_⟩
 ·rw[List.pairwise_map];refine List.Pairwise.imp (R:=λa b=>a≠b) (λ{a b} c e=>?_) (List.nodup_range.sublist (List.filter_sublist));have:=(Prod.mk.inj e).2;exact c (by omega)
 ·have h:=hok.nodup;unfold List.Nodup at h;rw[List.pairwise_map] at h;refine h.imp λ{a b} c x d y f e=>?_;obtain⟨i,_,rfl⟩:=List.mem_map.1 d;obtain⟨j,_,rfl⟩:=List.mem_map.1 f;have:=(Prod.mk.inj e).1;omega
def Kh(k:Int)(x:Option ThM):Option (Int×Int):=match x with
 |some t=>if t.q.cls=k then some (t.q.page,t.q.idx) else none
 |none=>none
theorem Vb{k:Int}{x:Option ThM}{y:Int×Int}(h:Kh k x=some y):∃t,x=some t/\t.q.cls=k/\y=(t.q.page,t.q.idx):=by
 unfold Kh at h;split at h
 ·rename_i t
  split at h
  ·rename_i a
   cases h
   exact⟨t,rfl,a,rfl⟩
  ·cases h
 ·cases h
def Kg(s:StM)(k:Int):List (Int×Int):=match Xm s k with|none=>[]|some m=>[(m.pt,m.ta)]
section
variable {c:Conf}{s:StM}
theorem Xng(h:s.Ok c)(hx:s.rm.shs[k]?=some x):Yh x.pg=(s.th.filterMap (Kh (k:Nat))).length+(Kg s (k:Nat)).length:=by
 have u:=(h.rm.mok.sh k x hx).1;have l:∀{o:Nat} {t:ThM},s.th[o]?=some (some t)->t.q.cls=(k:Nat)->t.q.pages=[]/\Qo x t.q.page t.q.idx=o:=λ{o t} C q=>by
  obtain⟨_,v,D⟩:=h.small o t C (Nr h C (by omega));rw[q,Jd hx] at D;exact⟨v,D⟩
 have w:∀a,a∈Nj x↔a∈s.th.filterMap (Kh (k:Nat))++Kg s (k:Nat):=by
  rintro⟨n,a⟩;rw[Xh7 u,<-Jd hx,List.mem_append,List.mem_filterMap];constructor
  ·intro p;rcases h.own _ _ _ p with⟨o,t,U,H,z|⟨m,z,I,J⟩⟩|⟨_,g⟩
   ·exact .inl ⟨some t,XP H,by rw[Kh,z,if_pos rfl]⟩
   ·refine .inr ?_;unfold Kg;rw[z,<-I,<-J];exact List.mem_singleton_self _
   ·cases g
  ·rintro(⟨y,A,h2⟩|h2)
   ·obtain⟨t,rfl,q,e⟩:=Vb h2;obtain⟨o,p⟩:=List.mem_iff_getElem?.1 A;cases e
    rw[Jd hx,(l p q).2];omega
   ·unfold Kg at h2;cases d:Xm s (k:Nat) with
    |none=>rw[d] at h2;cases h2
    |some m=>
     rw[d] at h2;cases List.mem_singleton.1 h2
     obtain⟨j,ej,_,r⟩:=Ql d;obtain rfl:k=j:=by omega
     obtain⟨⟨o,t,e1,_⟩,e2,_⟩:=h.mv k m r;rw[e2,e1];omega
 have E:(s.th.filterMap (Kh (k:Nat))++Kg s (k:Nat)).Nodup:=by
  refine List.nodup_append.2 ⟨?_,?_,?_⟩
  ·unfold List.Nodup;rw[List.pairwise_filterMap,List.pairwise_iff_getElem];intro i j hi K T a B b f e;have F:=XB hi;have h2:=XB K;obtain⟨t,e1,L,M⟩:=Vb B;obtain⟨t',e2,N,v⟩:=Vb f;rw[e1] at F;rw[e2] at h2;have G:=(l F L).2;rw[M,v] at e;obtain⟨e3,e4⟩:=Prod.mk.inj e;rw[e3,e4,((l h2 N).2)] at G;omega
  ·unfold Kg;split <;> simp
  ·intro a B b f e;obtain⟨y,A,h2⟩:=List.mem_filterMap.1 B;obtain⟨t,rfl,q,e1⟩:=Vb h2;obtain⟨o,p⟩:=List.mem_iff_getElem?.1 A;unfold Kg at f;cases d:Xm s (k:Nat) with
   |none=>rw[d] at f;cases f
   |some m=>
    rw[d] at f;obtain⟨j,ej,_,r⟩:=Ql d;obtain rfl:k=j:=by omega
    obtain⟨⟨O,V,f1,f2,P⟩,Q,R,_⟩:=h.mv k m r;obtain⟨G,S⟩:=l p q;rw[e1,(List.mem_singleton.1 f)] at e;obtain⟨e3,e4⟩:=Prod.mk.inj e;rw[Jd hx,<-e3,<-e4,S,f1] at Q;have:o=O:=by omega
    subst this;rw[p] at f2;cases f2
    rw[P] at e3 e4;exact R ⟨e3,e4⟩
 have:=((List.perm_ext_iff_of_nodup (Xh8 u) E).2 w).length_eq;rw[Xh6,XS] at this;exact this
def thG(x:Option ThM):Option (Nat×Nat):=match x with
 |some t=>if t.q.cls=-1 then some (t.q.page.toNat,t.q.pages.length+1) else none
 |none=>none
theorem Xb5{x:Option ThM}{y:Nat×Nat}(h:thG x=some y):∃t,x=some t/\t.q.cls=-1/\y=(t.q.page.toNat,t.q.pages.length+1):=by
 unfold thG at h;split at h
 ·rename_i t
  split at h
  ·rename_i a
   cases h
   exact⟨t,rfl,a,rfl⟩
  ·cases h
 ·cases h
theorem Xjf(h:s.Ok c)(hl:Ze s none):Dq s.rm.lg=((s.th.filterMap thG).map (·.2)).sum:=by
 have d:∀{o:Nat} {t:ThM},s.th[o]?=some (some t)->t.q.cls=-1 -> ∃n r,(n,r)∈s.rm.lg/\t.q=⟨-1,(n:Nat),0,X1 r⟩:=λ{o t} B q=>by
  have K:Xk c.classes t.size=-1:=by rw[<-Nq h B];exact q
  obtain⟨n,r,u,v,_⟩:=h.large o t B K;exact⟨n,r,u,v⟩
 have m:∀r:List Nat,(X1 r).length=r.length:=λr=>by unfold X1;rw[XN]
 have C:(s.rm.lg.map λe=>(e.1,e.2.length+1)).Nodup:=by
  unfold List.Nodup;rw[List.pairwise_map,List.pairwise_iff_getElem];intro i j hi w p e;have f:=h.rm.ok.nd;unfold Qa at f;unfold List.Nodup at f;rw[List.pairwise_flatMap] at f;have:=(List.pairwise_iff_getElem.1 f.2) i j hi w p _ ZI _ ZI;exact this ((Prod.mk.inj e).1)
 have D:(s.th.filterMap thG).Nodup:=by
  unfold List.Nodup;rw[List.pairwise_filterMap,List.pairwise_iff_getElem];intro i j hi w p a L b M e;have x:=XB hi;have l:=XB w;obtain⟨t,e1,E,u⟩:=Xb5 L;obtain⟨t',e2,F,v⟩:=Xb5 M;rw[e1] at x;rw[e2] at l;obtain⟨n,r,_,k⟩:=d x E;obtain⟨n',r',_,N⟩:=d l F;rw[u,v] at e;have e3:=(Prod.mk.inj e).1;have e4:t.q.page=t'.q.page:=by
   rw[k,N] at e3⊢;simp only[XA] at e3⊢;omega
  have:=h.linj i j t t' x l E F e4;omega
 have z:∀a,a∈(s.rm.lg.map λe=>(e.1,e.2.length+1))↔a∈s.th.filterMap thG:=by
  intro a;rw[List.mem_map,List.mem_filterMap];constructor
  ·rintro⟨e,G,rfl⟩;rcases hl e G with⟨o,t,H,I,J⟩|⟨_,_,g,_⟩
   ·refine⟨some t,XP H,?_⟩;obtain⟨n,r,A,k⟩:=d H I;rw[k] at J;have en:n=e.1:=by simp only at J;omega
    subst en;unfold thG;simp only
    rw[if_pos I,k];simp only[XA];rw[m,(Tk h.rm.ok.nd A G)]
   ·cases g
  ·rintro⟨y,O,l⟩;obtain⟨t,rfl,q,rfl⟩:=Xb5 l;obtain⟨o,P⟩:=List.mem_iff_getElem?.1 O;obtain⟨n,r,A,k⟩:=d P q;refine⟨(n,r),A,?_⟩;rw[k];simp only[XA];rw[m]
 rw[<-(((List.perm_ext_iff_of_nodup C D).2 z).map (·.2)).sum_nat,List.map_map];rfl
end
def Ed(c:Conf)(z:Int):Bool:=decide (1<=z) && decide (z<=c.most)
def Dr(c:Conf)(zs:List Int)(k:Int):Nat:=(zs.filter λz=>Ed c z && decide (Xk c.classes z=k)).length
def Fq(c:Conf)(zs:List Int):Int:=(zs.map λz=>if Jh c<z then Zq z c.size else 0).sum
def A3(f:Nat->Int)(n:Nat):Int:=((List.range n).map f).sum
theorem Jo(f:Nat->Int)(n:Nat):A3 f (n+1)=A3 f n+f n:=by
 unfold A3;rw[YV,XI,List.sum_append,List.map_singleton,List.sum_singleton]
theorem Xad{f g:Nat->Int}:∀{n:Nat},(∀k,k<n->f k<=g k)->A3 f n<=A3 g n
 |0,_=>ZQ _
 |n+1,h=>by
  rw[Jo,Jo];have:=Xad (n:=n) λk a=>h k (by omega);have:=h n (by omega);omega
theorem Xdg{g:Nat->Int}:∀n:Nat,A3 (λk=>f k+g k) n=A3 f n+A3 g n
 |0=>rfl
 |n+1=>by
  rw[Jo,Jo,Jo,Xdg n];omega
def Dz(c:Conf)(zs:List Int):Int:=Fq c zs+A3 (λk=>Yd (Dr c zs (k:Nat)) (Qt c (k:Nat))) c.classes.length
def P4(c:Conf)(keep:List Int)(zs:List Int)(mv:Nat->Bool):Int:=Dz c zs+A3 (λk=>keep.getD k 0+if mv k then 1 else 0) c.classes.length
theorem Xkr{c:Conf}(hm:Zc c=true)(hz:1<=z):Xk c.classes z=-1↔Jh c<z:=by
 have g:A2 c.classes c.size=true:=by unfold Zc at hm;simp only[XJ] at hm;exact hm.1.1.1.1.1.2
 have o:=Pf g;unfold Xk Jh;rw[if_neg (by omega),if_neg (by omega)];constructor
 ·intro h;have:=Xd2 (p:=λs=>decide (z<=s)) (l:=c.classes) (by omega);refine Int.not_le.1 λb=>?_;unfold idx at h;cases f:c.classes.findIdx? (λs=>decide (z<=s)) with
  |some i=>rw[f] at h;simp only at h;omega
  |none=>
   rw[List.findIdx?_eq_none_iff] at f;have a:=f (c.classes[c.classes.length-1]'(by omega)) (XK _);rw[XC,XB (show c.classes.length-1<c.classes.length by omega)] at b;simp at a b;omega
 ·intro h;refine Hm λj m=>decide_eq_false ?_;have k:∀d,j+d<c.classes.length->c.classes.getD j 0<=c.classes.getD (j+d) 0:=λd=>by
   induction d with
   |zero=>exact λ_=>ZQ _
   |succ d ih=>exact λq=>by have:=ih (by omega);have:=Xim g (j+d) (by omega);rw[show j+(d+1)=j+d+1 by omega];omega
  have n:=k (c.classes.length-1-j) (by omega);rw[show j+(c.classes.length-1-j)=c.classes.length-1 by omega] at n;have e:c.classes.getD j 0=c.classes[j]:=by rw[XC,XB m];rfl
  omega
theorem XaD{c:Conf}:∀l:List (Option ThM),(∀t,some t∈l->(if Jh c<t.size then Zq t.size c.size else 0)=if t.q.cls=-1 then ((t.q.pages.length+1:Nat):Int) else 0)->Fq c (Qy l)=(((l.filterMap thG).map (·.2)).sum:Nat)
 |[],_=>rfl
 |none::l,h=>XaD l λt b=>h t (ZF _ b)
 |some t::l,h=>by
  have ih:=XaD l λt b=>h t (ZF _ b);have e:=h t ZI;show(if Jh c<t.size then Zq t.size c.size else 0)+Fq c (Qy l)=_
  rw[ih,e,List.filterMap_cons];by_cases a:t.q.cls=-1
  ·rw[if_pos a,thG,if_pos a];simp only
   rw[ZB,YF];omega
  ·rw[if_neg a,thG,if_neg a];simp only
   omega
theorem XaH{c:Conf}{k:Int}:∀l:List (Option ThM),(∀t,some t∈l->Ed c t.size=true/\Xk c.classes t.size=t.q.cls)->Dr c (Qy l) k=(l.filterMap (Kh k)).length
 |[],_=>rfl
 |none::l,h=>XaH l λt b=>h t (ZF _ b)
 |some t::l,h=>by
  have ih:=XaH (k:=k) l λt b=>h t (ZF _ b);obtain⟨e1,e2⟩:=h t ZI;show((t.size::Qy l).filter _).length=_
  rw[XX,e1,e2,List.filterMap_cons];by_cases a:t.q.cls=k
  ·rw[if_pos (by rw[decide_eq_true a];rfl),Kh,if_pos a];simp only
   rw[XM,XM];exact congrArg (· + 1) ih
  ·rw[if_neg (by rw[decide_eq_false a];decide),Kh,if_neg a];exact ih
theorem Xid{b:Int}{B:Nat}(hB:b=B)(h1:1<=B):Yd n b=((n+B-1)/B:Nat):=by
 unfold Yd;by_cases a:n=0
 ·rw[if_pos (by omega),a,XR,Nat.div_eq_of_lt (by omega)];rfl
 ·rw[if_neg (by omega),hB];obtain⟨m,rfl⟩:∃m,n=m+1:=⟨n-1,by omega⟩;rw[show m+1+B-1=m+B by omega,Nat.add_div_right m (by omega)];rw[show(((m+1:Nat):Int)-1)=(m:Nat) by omega]
  norm_cast
section
variable {c:Conf}{s:StM}
def Jy(M:RmM)(k:Nat):Nat:=match M.shs[k]? with|some x=>x.pg.length|none=>0
theorem XlW(M:RmM):(Hz M.shs:Int)=A3 (λk=>(Jy M k:Nat)) M.shs.length:=by
 have key:∀n,n<=M.shs.length->((((M.shs.take n).map λx=>x.pg.length).sum:Nat):Int)=A3 (λk=>(Jy M k:Nat)) n:=by
  intro n
  induction n with
  |zero=>intro _;rfl
  |succ n ih=>
   intro a;have e:=XB (show n<M.shs.length by omega);rw[Jo,<-ih (by omega),ZC,e];simp only[Option.toList_some,XI,ZB,QP,List.sum_append_nat,YF,List.sum_nil];unfold Jy;rw[e];simp only
   omega
 have:=key M.shs.length (XE _);rw[ZE (XE _)] at this;exact this
structure Xhd(c:Conf)(s:StM)(k:Nat):Prop where
 lo:Yd (Dr c (Qy s.th) (k:Nat)) (Qt c (k:Nat))<=(Jy s.rm k:Nat)
 hi:(Jy s.rm k:Int)<=Yd (Dr c (Qy s.th) (k:Nat)) (Qt c (k:Nat))+(if (Xm s (k:Nat)).isSome then 1 else 0)+((Zh s.rm (k:Nat)-1:Nat):Int)
theorem XgK(h:s.Ok c):∀t,some t∈s.th->Ed c t.size=true/\Xk c.classes t.size=t.q.cls:=λt d=>by
 obtain⟨o,a⟩:=List.mem_iff_getElem?.1 d;have b:=h.size o t a;exact⟨by unfold Ed;rw[decide_eq_true b.1,decide_eq_true b.2];rfl,(Nq h a).symm⟩
theorem Xdh(h:s.Ok c)(hk:k<c.classes.length):Xhd c s k:=by
 have t:k<s.rm.shs.length:=by have:=h.rm.ok.n;omega
 obtain⟨x,b⟩:∃x,s.rm.shs[k]?=some x:=⟨_,XB t⟩;have d:=(h.rm.mok.sh k x b).1;have i:=d.blk;have u:=(h.rm.ok.each k x b).2;have j:=h.rm.pos k x b;obtain⟨w,m,K⟩:=Xe2 i.1 (l:=x.pg) λe y=>⟨(d.each e y).2.1,j e y⟩;have D:=Xj6 d;rw[<-D] at w m;have o:=Xng h b;have E:=XaH (k:=(k:Nat)) s.th (XgK h);have F:X2 s.rm (k:Nat)=some x:=by unfold X2;rw[if_pos (by omega),XA];exact b
 have eO:Zh s.rm (k:Nat)=x.opn.length:=by unfold Zh;rw[F]
 have eN:Jy s.rm k=x.pg.length:=by unfold Jy;rw[b]
 have G:(Kg s (k:Nat)).length=if (Xm s (k:Nat)).isSome then 1 else 0:=by unfold Kg;cases Xm s (k:Nat) <;> rfl
 have f:=Xid (n:=Dr c (Qy s.th) (k:Nat)) u.symm i.1;rw[<-E,G] at o;obtain⟨B,eB⟩:∃B,B=x.blocks:=⟨_,rfl⟩;obtain⟨n,en⟩:∃n,n=Dr c (Qy s.th) (k:Nat):=⟨_,rfl⟩;rw[<-en] at f o;rw[<-eB] at f w m i;have z:((n+B-1)/B)*B<=n+B-1:=Nat.div_mul_le_self _ _;have A:n+B-1<((n+B-1)/B)*B+B:=by
  have:=Nat.lt_div_mul_add (a:=n+B-1) (show 0<B by omega);exact this
 obtain⟨q,eq⟩:∃q,q=(n+B-1)/B:=⟨_,rfl⟩;rw[<-eq] at z A f;refine⟨?_,?_⟩
 ·rw[<-en,f,eN];have:q<=x.pg.length:=by
   refine Nat.le_of_not_lt λg=>?_;have:(x.pg.length+1)*B<=q*B:=QG _ g;rw[QH,Nat.one_mul] at this;omega
  omega
 ·rw[<-en,f,eN,eO];have:x.pg.length<=q+(if (Xm s (k:Nat)).isSome then 1 else 0)+(x.opn.length-1):=by
   refine Nat.le_of_not_lt λg=>?_;obtain⟨v,C⟩:∃v,v=(if (Xm s (k:Nat)).isSome then 1 else 0):=⟨_,rfl⟩;have I:v<=1:=by rw[C];split <;> omega
   rw[<-C] at g o;have J:v<=v*B:=Nat.le_mul_of_pos_right _ i.1;by_cases H:x.opn.length=0
   ·have p:(q+v+1)*B<=x.pg.length*B:=QG _ (by omega);rw[H,Nat.zero_mul] at m;rw[QH,QH,Nat.one_mul] at p;omega
   ·have p:(q+v+x.opn.length)*B<=x.pg.length*B:=QG _ (by omega);rw[QH,QH] at p;omega
  split at this
  ·rename_i r
   rw[if_pos r];omega
  ·rename_i r
   rw[if_neg r];omega
theorem XdZ(h:s.Ok c)(hl:Ze s none):(Zo s.rm.pl:Int)=Fq c (Qy s.th)+A3 (λk=>(Jy s.rm k:Nat)) c.classes.length:=by
 have b:=XaD (c:=c) s.th λt i=>by
  obtain⟨o,a⟩:=List.mem_iff_getElem?.1 i;have d:=Xkr h.may (h.size o t a).1;have f:=Nq h a;by_cases e:Xk c.classes t.size=-1
  ·obtain⟨n,r,_,j,l⟩:=h.large o t a e;rw[if_pos (d.1 e),if_pos (f.trans e),j,<-l];simp only
   unfold X1;rw[XN];omega
  ·rw[if_neg (λg=>e (d.2 g)),if_neg (λg=>e (f▸g))]
 rw[b,<-Xjf h hl,<-h.rm.ok.n,<-XlW,h.rm.ok.sum];omega
theorem Xi5(h:s.Ok c)(hl:Ze s none):Dz c (Qy s.th)<=(Zo s.rm.pl:Nat):=by
 rw[XdZ h hl];unfold Dz;have:=Xad (n:=c.classes.length) λk a=>(Xdh h a).lo;omega
theorem Xi4(h:s.Ok c)(hl:Ze s none)(ho:OI s):(Zo s.rm.pl:Int)<=P4 c s.keep (Qy s.th) λk=>(Xm s (k:Nat)).isSome:=by
 rw[XdZ h hl];unfold P4 Dz;have a:A3 (λk=>(Jy s.rm k:Nat)) c.classes.length<=A3 (λk=>Yd (Dr c (Qy s.th) (k:Nat)) (Qt c (k:Nat))+(s.keep.getD k 0+if (Xm s (k:Nat)).isSome then 1 else 0)) c.classes.length:=Xad λk b=>by
  have d:=(Xdh h b).hi;have e:=ho.le k;have f:=Tj h k;omega
 rw[Xdg] at a;simp only
 omega
end
def A1(s:StM):Prop:=∀k:Nat,Xm s (k:Nat)=none
theorem A1.all{s:StM}(h:A1 s)(κ:Int):Xm s κ=none:=by
 by_cases a:0<=κ
 ·obtain⟨k,rfl⟩:=XD a;exact h k
 ·unfold Xm;rw[if_neg a]
theorem A1.of{s:StM}(h:A1 s)(e:s'.mv=s.mv):A1 s':=λk=>by
 have:=h k;unfold Xm at this⊢;rw[e];exact this
section
variable {c:Conf}{s:StM}{pd:Option (Nat×PlcM)}
theorem A1.clear{q:PlcM}(h:A1 s)(hs:s.OkP c (some (o,q)))(hst:∀k:Nat,Yb c (k:Nat)<=c.step):A1 (Av c s q):=by
 unfold Av;split
 ·exact h.of rfl
 ·have b:=StM.OkP.begin hs.dropped q.cls.toNat;have e:∀i:Int,i≠q.cls.toNat->Xm (Z7 c {s with rm:=Yl s.rm q} q.cls.toNat) i=none:=λi hi=>by
   unfold Z7;split
   ·exact(La (s:=s) rfl hi).trans (h.all i)
   ·exact h.all i
  intro i;by_cases f:i=q.cls.toNat
  ·rw[f];cases d:Xm (Z7 c {s with rm:=Yl s.rm q} q.cls.toNat) (q.cls.toNat:Nat) with
   |none=>
    unfold Zw;rw[d];exact d
   |some m=>
    obtain⟨j,ej,_,a⟩:=Ql d;have ej:q.cls.toNat=j:=by omega
    rw[ej] at a d b⊢;refine XdV b a ?_;have g:=(b.mv j m a).2.2.2.2.2.1;have:=hst j;omega
  ·rw[(XdW b q.cls.toNat c.step).2.2 _ (by omega)];exact e _ (by omega)
theorem A1.fin(h:A1 s)(κ:Int):X7 s κ=s:=by
 unfold X7;rw[h.all κ]
theorem A1.lay(h:A1 s)(o:Nat)(size:Int):A1 (Yw c s (o:Nat) size):=by
 have e:Ce c s size=none:=by unfold Ce;rw[h.all]
 refine h.of ?_;show(X9 c s (o:Nat) size).mv=s.mv
 unfold X9;rw[e]
theorem A1.wrote(h:A1 s)(o:Int)(i n:Nat):Qs s o i n=s:=by
 unfold Qs;rw[h.all]
theorem A1.tick(h:A1 s)(ho:OI s):∀n,(tickTo c s n).1=s
 |0=>rfl
 |n+1=>by
  have ih:=A1.tick h ho n;rw[Ji];unfold tickK;rw[ih,ho.begin];split
  ·exact ih
  ·rw[h n]
theorem A1.do22(h:A1 s)(hs:s.Ok c)(ho:OI s)(hst:∀k:Nat,Yb c (k:Nat)<=c.step)(u:D8)(hu:u.kind%7=0\/u.kind%7=1\/u.kind%7=2\/u.kind%7=3\/u.kind%7=4\/u.kind%7=5):A1 (Yz c s u):=by
 unfold Yz;split
 ·unfold Q9;split
  ·rename_i f
   obtain⟨j,e,_⟩:=O8 f;rw[e];exact h.lay _ _
  ·exact h
 split
 ·unfold Bp;split
  ·exact h
  ·rename_i f
   obtain⟨j,t,e,b⟩:=Hs (Decidable.not_not.1 f);rw[e,Yp b,XA];obtain⟨t',d,_,_,_,g⟩:=Kr hs b;rw[Yp d];refine A1.clear ?_ ((hs.finish t.q.cls).away d g) hst;rw[h.fin];exact h.of rfl
 split
 ·unfold Ac;split
  ·exact h
  ·rename_i f
   obtain⟨j,t,e,b,l,i⟩:=Rv (Decidable.not_not.1 f);rw[e,C3 b,Yp b];split
   ·split
    ·have d:A1 (C2 (Zx c s t.q u.a.toNat (Xz (t.size-u.a).toNat)) (j:Nat) ⟨u.a,t.q⟩):=h.of rfl;rw[d.wrote];exact d
    ·exact h.of rfl
   ·rename_i a
    have a:Ag c t.size u.a=false:=by simpa using a
    obtain⟨t',M⟩:=L8 hs b a (i.resolve_left (by rw[a];decide)).2;unfold G6;simp only
    rw[Yp b,Yp M.th1,C3 b];refine A1.clear ?_ (M.ok2.put _ _ (Ld M.ok1.bi _ _)) hst;rw[h.fin];exact A1.of ((show A1 (Y3 s (X6 c t'.q.plc 0 (min t.size u.a).toNat)) from h.of rfl).lay (c:=c) j u.a) rfl
 split
 ·unfold Bq;split
  ·exact h.of rfl
  ·exact h
 split
 ·unfold Cc;split
  ·have d:A1 (Zx c s (Y1 s u.own) u.a.toNat u.bs):=h.of rfl;rw[d.wrote];exact d
  ·exact h
 split
 ·unfold C4;rw[h.tick ho];exact h
 ·omega
theorem A1.new(c:Conf):A1 (Ap c):=λk=>by
 cases h:Xm (Ap c) (k:Nat) with
 |none=>rfl
 |some m=>
  obtain⟨j,_,_,a⟩:=Ql h;have:=XP a;simp only[Ap,YQ] at this;cases this.2
theorem Xjx(c:Conf)(zs:List Int)(z k:Int):Dr c (zs++[z]) k=Dr c zs k+if Ed c z=true/\Xk c.classes z=k then 1 else 0:=by
 unfold Dr;rw[YO,XS]
 congr 1
 rw[XX];by_cases h:Ed c z=true/\Xk c.classes z=k
 ·rw[if_pos h,if_pos (by rw[h.1,decide_eq_true h.2];rfl)];rfl
 ·rw[if_neg h,if_neg (by simpa using h)];rfl
theorem Xjh(c:Conf)(zs:List Int)(z:Int):Fq c (zs++[z])=Fq c zs+if Jh c<z then Zq z c.size else 0:=by
 unfold Fq;rw[XI,List.sum_append,List.map_singleton,List.sum_singleton]
end
theorem XcH{q:Int}(hz:z<=2097152):0<=Zq z q/\Zq z q<=2097153:=by
 have a:0<=Yd z q/\Yd z q<=2097152:=by
  unfold Yd;split
  ·omega
  ·have b:0<=(z-1)/q:=ZW (by omega) (by omega);have c:(z-1)/q<=z-1:=YD _ (by omega);omega
 unfold Zq;split <;> omega
theorem XeD(n:Nat)(q:Int):0<=Yd n q/\Yd n q<=n:=by
 unfold Yd;split
 ·omega
 ·have a:0<=((n:Int)-1)/q:=ZW (by omega) (by omega);have b:((n:Int)-1)/q<=n-1:=YD _ (by omega);omega
theorem XaC{c:Conf}:∀{zs:List Int},(∀z∈zs,z<=2097152)->0<=Fq c zs/\Fq c zs<=zs.length*2097153
 |[],_=>⟨ZQ _,by show(0:Int)<=((0:Nat):Int)*2097153;omega⟩
 |z::zs,h=>by
  have ih:=XaC (c:=c) (zs:=zs) λy a=>h y (ZF _ a);have b:=XcH (q:=c.size) (h z ZI);have e:Fq c (z::zs)=(if Jh c<z then Zq z c.size else 0)+Fq c zs:=rfl;rw[e,XM];split <;> omega
theorem S5{f:Nat->Int}{b:Int}(h:∀k,0<=f k/\f k<=b):∀n:Nat,0<=A3 f n/\A3 f n<=n*b
 |0=>⟨ZQ _,by show(0:Int)<=((0:Nat):Int)*b;rw[show((0:Nat):Int)=0 from rfl,Int.zero_mul];exact ZQ _⟩
 |n+1=>by
  have ih:=S5 h n;have:=h n;rw[Jo,Int.natCast_add,YR];omega
theorem Tn(c:Conf)(zs:List Int)(k:Int):Dr c zs k<=zs.length:=ZV _ _
theorem Xb2(h:i<zs.length):zs.take (i+1)=zs.take i++[zs[i]]:=by rw[ZC,XB h];rfl
theorem Xfq(c:Conf)(p:Yy)(n:Int)(w:World):Xf prog 55 #[.agg (Zi c p).toArray,.int .i64 n] w (Grow (.bool (Ed c n)) w):=Ud c p n w
theorem Xla(c:Conf)(p:Yy)(a:Option Addr)(cap:Nat)(zs:List Int)(k:Nat)(w:World)(hc:Yr w c p)(hr:Rd .i64 w a zs)(hl:zs.length<=8192)(hcl:c.classes.length<=16):Xf prog 59 #[.agg (Zi c p).toArray,.slice a zs.length cap,.int .i64 k] w (Grow (.int .i64 (Dr c zs (k:Nat):Nat)) w):=by
 refine ζe func59 ntmps59 ϱ (ζn ϱ λb u e1 v t y=>?_);refine Xa.loop (α:=Nat) (λi=>[(1,false,.slice a zs.length cap),(2,false,.int .i64 k),(3,false,.pointer (some ⟨b,0,none⟩)),(7,false,.int .i64 (Dr c (zs.take i) (k:Nat):Nat)),(8,false,.int .i64 i)])
  (λi w'=>i<=zs.length/\Xc Xe u w') (λi=>zs.length-i) 0 ⟨rfl,rfl,rfl,rfl,rfl,trivial⟩ ⟨XL _,Xc.refl _ _⟩ ?_
 rintro i C ⟨hi,g⟩ ih;have o:=g.heap' v;have h:=t.trans g;refine ζa ϱ (ζg ϱ (λm=>?_) λm=>?_)
 ·have m:=of_decide_eq_true m;have n:i<zs.length:=by omega
  obtain⟨D,off,rfl,f⟩:=(hr.chg h) i n;have e:zs.getD i 0=zs[i]:=by rw[XC,XB n];rfl
  obtain⟨z,ez⟩:∃z,z=zs[i]:=⟨_,rfl⟩;rw[e,<-ez] at f;have j:=Xjx c (zs.take i) zs[i] (k:Nat);rw[<-Xb2 n,<-ez] at j;have A:=Tn c (zs.take i) (k:Nat);have B:(zs.take i).length<=i:=List.length_take_le _ _;refine ζd 19 Xe (by kernel_rfl) ϱ λd=>Xd.yes Xb d rfl (decide_eq_true (show(k:Int)≥0 by omega)) rfl (δl d o ϱ (δi i d ϱ (δk d f ϱ (δv d (λw' q=>(Xfq c p z w')) ϱ ?_))));cases r:Ed c z with
  |false=>
   rw[r,if_neg (by simp)] at j;exact Xd.no Xb d rfl rfl rfl (δn d ϱ λx l=>ζj ϱ (ih (i+1) _ _ ⟨by omega,g.trans l⟩ (by omega) ⟨rfl,rfl,rfl,by rw[j];rfl,rfl,trivial⟩))
  |true=>
   refine Xd.yes Xb d rfl rfl rfl (δl d o ϱ (δi i d ϱ (δk d f ϱ (δw d (λw' q=>(Xfi p.ca p.cc c.classes z w' ((hc.chg (h.trans q)).classes) (by omega))) ϱ (δn d ϱ λx l=>ζg ϱ (λs=>?_) λs=>?_)))))
   ·rw[r,if_pos ⟨rfl,by simpa using s⟩] at j;exact ζj ϱ (ζj ϱ (ih (i+1) _ _ ⟨by omega,g.trans l⟩ (by omega) ⟨rfl,rfl,rfl,by rw[j];rfl,rfl,trivial⟩))
   ·rw[r,if_neg (by simpa using s)] at j;exact ζj ϱ (ih (i+1) _ _ ⟨by omega,g.trans l⟩ (by omega) ⟨rfl,rfl,rfl,by rw[j];rfl,rfl,trivial⟩)
 ·have m:=of_decide_eq_false m;rw[ZE (by omega)];exact ζr func59 ϱ ⟨rfl,h⟩
theorem Xbq(c:Conf)(p:Yy)(a:Option Addr)(cap:Nat)(zs:List Int)(w:World)(hc:Yr w c p)(hm:Zc c=true)(hr:Rd .i64 w a zs)(hl:zs.length<=8192):Xf prog 19 #[.agg (Zi c p).toArray,.slice a zs.length cap] w (Grow (if zs.all (Ed c)=true then .tuple #[.int .i64 (Dz c zs),.int .i64 0] else .tuple #[.int .i64 0,.int .i64 3]) w):=by
 have J:=Ys hm;have N:=J.n;have a1:=J.most.2;refine ζe func19 ntmps19 ϱ (ζn ϱ λb L e1 H K a2=>?_);replace H:L.heap[b]?=some (.cells (Zi c p).toArray 24 (0,0)):=H;refine Xa.loop (α:=Nat) (λi=>[(1,false,.slice a zs.length cap),(2,false,.pointer (some ⟨b,0,none⟩)),(6,false,.int .i64 (Fq c (zs.take i))),(7,false,.int .i64 i)])
  (λi w'=>(i<=zs.length/\∀z∈zs.take i,Ed c z=true)/\Xc Xe L w') (λi=>zs.length-i) 0 ⟨rfl,rfl,rfl,rfl,trivial⟩ ⟨⟨XL _,λz A=>by cases A⟩,Xc.refl _ _⟩ ?_
 rintro i w2 ⟨⟨hi,n⟩,t⟩ ih;have B:=t.heap' H;have v:=K.trans t;have O:=XaC (c:=c) (zs:=zs.take i) λz A=>by have:=n z A;unfold Ed at this;simp at this;omega
 have a3:(zs.take i).length<=i:=List.length_take_le _ _;refine ζa ϱ (ζg ϱ (λC=>?_) λC=>?_)
 ·have C:=of_decide_eq_true C;have u:i<zs.length:=by omega
  obtain⟨b1,off,rfl,l⟩:=(hr.chg v) i u;have e:zs.getD i 0=zs[i]:=by rw[XC,XB u];rfl
  obtain⟨z,ez⟩:∃z,z=zs[i]:=⟨_,rfl⟩;rw[e,<-ez] at l;have D:=Xjh c (zs.take i) zs[i];rw[<-Xb2 u,<-ez] at D;refine ζd 5 Xe (by kernel_rfl) ϱ λd=>δl d B ϱ (δi i d ϱ (δk d l ϱ (δn d ϱ λP m=>ζv (Xfq c p z P) ϱ λV x=>?_)));cases I:Ed c z with
  |false=>
   exact ζy ϱ (ζr func19 ϱ ⟨by rw[if_neg (λh=>by rw[List.all_eq_true] at h;have:=h _ (XK u);rw[<-ez,I] at this;cases this)],(v.trans m).trans x⟩)
  |true=>
   have o:=m.trans x;have M:=v.trans o;have Q:z<=2097152:=by unfold Ed at I;simp at I;omega
   have a4:=XcH (q:=c.size) Q;have y:∀z∈zs.take (i+1),Ed c z=true:=λz A=>by
    rw[Xb2 u] at A;rcases List.mem_append.1 A with g|g
    ·exact n z g
    ·rw[List.mem_singleton.1 g,<-ez];exact I
   refine ζf ϱ (ζd 6 Xe (by kernel_rfl) ϱ λd=>δi i d ϱ (δk d (o.cell l id) ϱ (δl d (o.heap' B) ϱ (δv d (λw' j=>(XkL c p w' (hc.chg (M.trans j)))) ϱ (δn d ϱ λw5 R=>?_)))));have r:=o.trans R;refine ζg ϱ (λE=>?_) λE=>?_
   ·have E:=of_decide_eq_true E;rw[if_pos (by omega)] at D;exact ζd 8 Xe (by kernel_rfl) ϱ λd=>δi i d ϱ (δk d (r.cell l id) ϱ (δl d (r.heap' B) ϱ (δw d (λw' j=>(Xbp z c.size w' (by omega))) ϱ (δn d ϱ λw6 S=>ζj ϱ (ζj ϱ (ih (i+1) _ _ ⟨⟨by omega,y⟩,(t.trans r).trans S⟩ (by omega) ⟨rfl,rfl,by rw[D];rfl,rfl,trivial⟩))))))
   ·have E:=of_decide_eq_false E;rw[if_neg (by omega),Int.add_zero] at D;exact ζj ϱ (ih (i+1) _ _ ⟨⟨by omega,y⟩,t.trans r⟩ (by omega) ⟨rfl,rfl,by rw[D];rfl,rfl,trivial⟩)
 ·have C:=of_decide_eq_false C;have et:zs.take i=zs:=ZE (by omega);rw[et] at n O⊢;rw[if_pos (List.all_eq_true.2 n)];obtain⟨f,ef⟩:∃f:Nat->Int,f=λk=>Yd (Dr c zs (k:Nat)) (Qt c (k:Nat)):=⟨_,rfl⟩;have T:=S5 (f:=f) (b:=8192) (λk=>by
   rw[ef];have:=XeD (Dr c zs (k:Nat)) (Qt c (k:Nat));have:=Tn c zs (k:Nat);simp only
   omega)
  refine Xa.loop (α:=Nat) (λk=>[(1,false,.slice a zs.length cap),(2,false,.pointer (some ⟨b,0,none⟩)),(6,false,.int .i64 (Fq c zs+A3 f k)),(8,false,.int .i64 k)])
   (λk w'=>k<=c.classes.length/\Xc Xe L w') (λk=>c.classes.length-k) 0 ⟨rfl,rfl,by rw[show A3 f 0=0 from rfl,Int.add_zero];rfl,rfl,trivial⟩ ⟨XL _,t⟩ ?_
  rintro k P ⟨hk,m⟩ U;have F:=m.heap' H;have s:=K.trans m;refine ζa ϱ (ζl F ϱ (ζg ϱ (λG=>?_) λG=>?_))
  ·have G:=of_decide_eq_true G;have W:=Jo f k;have h3:=T (k+1);have e5:f k=Yd (Dr c zs (k:Nat)) (Qt c (k:Nat)):=by rw[ef]
   have h4:=Tn c zs (k:Nat);refine ζd 9 Xe (by kernel_rfl) ϱ λd=>δl d F ϱ (δv d (λw' j=>(Xla c p a cap zs k w' (hc.chg (s.trans j)) (hr.chg (s.trans j)) hl N.2)) ϱ (δl d F ϱ (δv d (λw' j=>(Xbk c p (k:Nat) w' (hc.chg (s.trans j)))) ϱ (δw d (λw' j=>(Xfh (Dr c zs (k:Nat):Nat) (Qt c (k:Nat)) w' (by omega))) ϱ (δn d ϱ λV x=>?_)))));rw[<-e5];exact ζj ϱ (ζj ϱ (U (k+1) _ _ ⟨by omega,m.trans x⟩ (by omega) ⟨rfl,rfl,by rw[W,<-Int.add_assoc];rfl,rfl,trivial⟩))
  ·have G:=of_decide_eq_false G;have ek:k=c.classes.length:=by omega
   have e6:Dz c zs=Fq c zs+A3 f c.classes.length:=by unfold Dz;rw[ef]
   rw[e6,ek];exact ζr func19 ϱ ⟨rfl,s⟩
theorem Xlb(c:Conf)(p:Yy)(a:Option Addr)(cap:Nat)(zs:List Int)(ma:Option Addr)(mcap:Nat)(mv:Nat->Bool)(w:World)(hc:Yr w c p)(hm:Zc c=true)(hkr:∀k:Nat,0<=c.keep.getD k 0/\c.keep.getD k 0<=1024)(hr:Rd .i64 w a zs)(hl:zs.length<=8192)(hall:zs.all (Ed c)=true)(hmr:∀k,k<c.classes.length -> ∃b off,ma=some ⟨b,off,none⟩/\w.cell? ⟨b,off+k,none⟩=some (.bool (mv k))):Xf prog 17 #[.agg (Zi c p).toArray,.slice a zs.length cap,.slice ma c.classes.length mcap] w (Grow (.tuple #[.int .i64 (P4 c c.keep zs mv),.int .i64 0]) w):=by
 have g:=Ys hm;have C:=g.n;have D:=g.most.2;have E:=g.keep;have F:0<=Dz c zs/\Dz c zs<=100000000000:=by
  have y:=XaC (c:=c) (zs:=zs) λz A=>by have:=List.all_eq_true.1 hall z A;unfold Ed at this;simp at this;omega
  have n:=S5 (f:=λk=>Yd (Dr c zs (k:Nat)) (Qt c (k:Nat))) (b:=8192) (λk=>by
   have:=XeD (Dr c zs (k:Nat)) (Qt c (k:Nat));have:=Tn c zs (k:Nat);omega) c.classes.length
  unfold Dz;omega
 obtain⟨f,ef⟩:∃f:Nat->Int,f=λk=>c.keep.getD k 0+if mv k=true then 1 else 0:=⟨_,rfl⟩;have r:=S5 (f:=f) (b:=1025) (λk=>by
  rw[ef];have:=hkr k;simp only
  split <;> omega)
 refine ζe func17 ntmps17 ϱ (ζn ϱ λb s e1 o h G=>?_);refine ζl o ϱ ?_;have t:=Xbq c p a cap zs s (hc.chg h) hm (hr.chg h) hl;rw[if_pos hall] at t;refine ζv t ϱ λH j=>?_;refine ζf ϱ (ζl (j.heap' o) ϱ (ζf ϱ ?_));refine Xa.loop (α:=Nat) (λk=>[(2,false,.slice ma c.classes.length mcap),(3,false,.pointer (some ⟨b,0,none⟩)),(8,false,.int .i64 (Dz c zs+A3 f k)),(10,false,.int .i64 k)])
  (λk w'=>k<=c.classes.length/\Xc Xe s w') (λk=>c.classes.length-k) 0 ⟨rfl,rfl,by rw[show A3 f 0=0 from rfl,Int.add_zero];rfl,rfl,trivial⟩ ⟨XL _,j⟩ ?_
 rintro k I ⟨J,e⟩ l;have m:=e.heap' o;have d:=h.trans e;refine ζa ϱ (ζl m ϱ (ζg ϱ (λi=>?_) λi=>?_))
 ·have i:=of_decide_eq_true i;have q:k<c.classes.length:=by omega
  have y:=r k;have n:=Jo f k;have K:=hkr k;obtain⟨kb,koff,eka,u⟩:=(hc.chg d).keep k (by omega);obtain⟨mb,moff,ema,v⟩:=hmr k q;refine ζl m ϱ ?_;rw[eka];refine ζi k ϱ (ζk ϱ u ϱ (ζj ϱ ?_));rw[ema];refine ζi k ϱ (ζk ϱ (d.cell v id) ϱ ?_);cases x:mv k with
  |true=>
   have e5:f k=c.keep.getD k 0+1:=by rw[ef];simp only;rw[if_pos x]
   refine ζy ϱ (ζj ϱ (ζj ϱ ?_));rw[<-ema];exact l (k+1) _ _ ⟨by omega,e⟩ (by omega) ⟨rfl,rfl,by rw[n,e5];show some (Value.int .i64 (Dz c zs+A3 f k+c.keep.getD k 0+1))=_;rw[show Dz c zs+A3 f k+c.keep.getD k 0+1=Dz c zs+(A3 f k+(c.keep.getD k 0+1)) by omega],rfl,trivial⟩
  |false=>
   have e5:f k=c.keep.getD k 0:=by rw[ef];simp only;rw[x,if_neg (by decide)];omega
   refine ζf ϱ (ζj ϱ ?_);rw[<-ema];exact l (k+1) _ _ ⟨by omega,e⟩ (by omega) ⟨rfl,rfl,by rw[n,e5];show some (Value.int .i64 (Dz c zs+A3 f k+c.keep.getD k 0))=_;rw[show Dz c zs+A3 f k+c.keep.getD k 0=Dz c zs+(A3 f k+c.keep.getD k 0) by omega],rfl,trivial⟩
 ·have i:=of_decide_eq_false i;have ek:k=c.classes.length:=by omega
  have B:P4 c c.keep zs mv=Dz c zs+A3 f c.classes.length:=by unfold P4;rw[ef]
  rw[B,ek];exact ζr func17 ϱ ⟨rfl,d⟩
section
variable {c:Conf}{s:StM}
theorem Xd8(c:Conf)(s:StM)(o size:Int):(Yw c s o size).keep=s.keep:=by
 show(X9 c s o size).keep=s.keep
 unfold X9;split <;> rfl
theorem Xd6(c:Conf)(s:StM)(q:PlcM):(Av c s q).keep=s.keep:=by
 unfold Av;split
 ·rfl
 ·exact(N2 _ _ _).1.trans (Kl c _ _).2.1
theorem Xd7(s:StM)(κ:Int):(X7 s κ).keep=s.keep:=by
 unfold X7;split
 ·rfl
 ·exact(N2 _ _ _).1
theorem Xea(s:StM)(o:Int)(i n:Nat):(Qs s o i n).keep=s.keep:=by
 unfold Qs;split
 ·split <;> rfl
 ·rfl
theorem Xd9(c:Conf)(s:StM):∀n,(tickTo c s n).1.keep=s.keep
 |0=>rfl
 |n+1=>by
  rw[Ji];unfold tickK;have ih:=Xd9 c s n;split
  ·exact ih
  ·split
   ·exact((Kl c _ _).2.1).trans ih
   ·exact((N2 _ _ _).1.trans (Kl c _ _).2.1).trans ih
theorem Xjc(c:Conf)(s:StM)(u:D8)(hu:¬u.kind%7=6)(h0:0<=u.kind):(Yz c s u).keep=s.keep:=by
 unfold Yz;split
 ·unfold Q9;split
  ·exact Xd8 ..
  ·rfl
 split
 ·unfold Bp;split
  ·rfl
  ·exact(Xd6 ..).trans (Xd7 ..)
 split
 ·unfold Ac;split
  ·rfl
  ·split
   ·split
    ·exact Xea ..
    ·rfl
   ·exact(Xd6 ..).trans ((Xd8 ..).trans (Xd7 ..))
 split
 ·unfold Bq;split <;> rfl
 split
 ·unfold Cc;split
  ·exact Xea ..
  ·rfl
 split
 ·exact Xd9 ..
 ·omega
theorem Ze.do22(h:Ze s none)(hs:s.Ok c)(u:D8):Ze (Yz c s u) none:=by
 unfold Yz;split
 ·exact h.alloc _ _
 split
 ·exact h.free hs _
 split
 ·exact h.resize hs _ _
 split
 ·exact h.read _ _ _
 split
 ·exact h.write _ _ _
 split
 ·exact h.tick hs
 ·exact h.set _ _
end
def sL(f:Nat->Nat)(l:List Nat):Nat:=(l.map f).sum
def uOf(x:Sm)(n:Nat):Nat:=match Zd x.pg (n:Nat) with|some p=>Xu p|none=>0
def XmZ(x:Sm):Nat:=sL (uOf x) x.opn.tail
theorem XiS(M:RmM)(k n i:Int){j:Int}(hj:j≠k):X2 (Yn M k n i) j=X2 M j:=by
 unfold Yn;cases a:X2 M k with
 |none=>rfl
 |some x=>
  obtain⟨l,rfl,b,c⟩:=C0 a;simp only
  split
  ·rw[XA,show X2 (E0 M l (Yt x n i) (Af x M.pl n i)) j=X2 (Dh M l (Yt x n i) (Af x M.pl n i)) j from rfl,K5 b,if_neg hj]
  ·rfl
theorem XiR{c:Conf}(h:Yu c M){n i:Int}(hg:X2 M (k:Nat)=some x):X2 (Yn M (k:Nat) n i) (k:Nat)=some (Yt x n i):=by
 obtain⟨l,el,b,e⟩:=C0 hg;obtain rfl:k=l:=by omega
 unfold Yn;rw[hg];simp only
 split
 ·rw[XA,show X2 (E0 M k (Yt x n i) (Af x M.pl n i)) (k:Nat)=X2 (Dh M k (Yt x n i) (Af x M.pl n i)) (k:Nat) from rfl,K5 b,if_pos rfl]
 ·rename_i a
  rw[hg]
  congr 1
  unfold Yt;unfold Bo at a;cases d:Zd x.pg n with
  |none=>rfl
  |some p=>
   rw[d] at a;simp only at a⊢
   rw[if_neg a]
def Gh(s s':StM)(k:Nat):Prop:=X2 s'.rm (k:Nat)=X2 s.rm (k:Nat)/\Xm s' (k:Nat)=Xm s (k:Nat)
theorem Gh.trans{s s' s'':StM}{k:Nat}(h:Gh s s' k)(h':Gh s' s'' k):Gh s s'' k:=⟨h'.1.trans h.1,h'.2.trans h.2⟩
def mN(s:StM)(k:Nat):Nat:=match X2 s.rm (k:Nat) with|none=>0|some x=>XmZ (match Xm s (k:Nat) with|none=>x|some m=>Yt x m.pf m.fa)
def clN(st z:Nat):Nat:=(z+st-1)/st
def phi(c:Conf)(s:StM)(k:Nat):Nat:=clN c.step.toNat (Cb s (k:Nat))+mN s k*clN c.step.toNat (Yb c (k:Nat)).toNat
def Xhg(s:StM)(k:Nat):Prop:=Xm s (k:Nat)=none/\Q8 s k=false
theorem Gh.left{s:StM}(h:Gh s s' k):Cb s' (k:Nat)=Cb s (k:Nat):=by unfold Cb;rw[h.2]
theorem Gh.opn{s:StM}(h:Gh s s' k):Zh s'.rm (k:Nat)=Zh s.rm (k:Nat):=by unfold Zh;rw[h.1]
theorem Gh.phi{c:Conf}{s s':StM}{k:Nat}(h:Gh s s' k):phi c s' k=phi c s k:=by
 unfold Go.Proofs.YtohjeeapehmkcaaGreatDoor.phi mN;rw[h.left,h.1,h.2]
section
variable {c:Conf}{s:StM}
theorem XiZ(k:Nat)(n:Int)(hj:j≠k):Gh s (Zw s k n) j:=by
 unfold Zw;split
 ·exact⟨rfl,rfl⟩
 ·split
  ·exact⟨rfl,La (s:=s) rfl (by omega)⟩
  ·exact⟨XiS _ _ _ _ (by omega),La (s:=s) rfl (by omega)⟩
theorem XiY(h:s.Ok c)(hm:Xm s (k:Nat)=some m)(n:Int):mN (Zw s k n) k=mN s k/\Cb (Zw s k n) (k:Nat)=Cb s (k:Nat)-Zn m n/\1<=Cb s (k:Nat)/\Cb s (k:Nat)=m.size-m.gone:=by
 obtain⟨j,ej,d,a⟩:=Ql hm;obtain rfl:k=j:=by omega
 have i:=(h.mv k m a).2.2.2.2.2.2;have eL:Cb s (k:Nat)=m.size-m.gone:=by unfold Cb;rw[hm]
 refine⟨?_,?_,by omega,eL⟩
 ·unfold Zw;rw[hm];simp only
  split
  ·have e:Xm {Qc s m n with mv:=s.mv.set k (some {m with gone:=m.gone+Zn m n})} (k:Nat)=some {m with gone:=m.gone+Zn m n}:=B0 (show(s.mv.set k _)[k]?=_ from XF d);unfold mN;rw[e,hm];rfl
  ·have e:Xm {Qc s m n with mv:=s.mv.set k none,th:=s.th.set m.who.toNat (some ⟨Qr s m.who,⟨k,m.pt,m.ta,[]⟩⟩),rm:=Yn (Qc s m n).rm k m.pf m.fa} (k:Nat)=none:=Ow (s:=s) rfl;unfold mN;rw[e,hm];simp only
   have b:k<s.rm.shs.length:=by have:=h.rm.ok.n;have:=h.ml;omega
   have f:X2 (Qc s m n).rm (k:Nat)=some s.rm.shs[k]:=K4 (M:=(Qc s m n).rm) b;have g:X2 s.rm (k:Nat)=some s.rm.shs[k]:=K4 b;rw[XiR (StM.OkP.step h a n).rm f,g]
 ·rw[eL];unfold Zw;rw[hm];simp only
  split
  ·have e:Xm {Qc s m n with mv:=s.mv.set k (some {m with gone:=m.gone+Zn m n})} (k:Nat)=some {m with gone:=m.gone+Zn m n}:=B0 (show(s.mv.set k _)[k]?=_ from XF d);unfold Cb;rw[e];simp only
   omega
  ·have e:Xm {Qc s m n with mv:=s.mv.set k none,th:=s.th.set m.who.toNat (some ⟨Qr s m.who,⟨k,m.pt,m.ta,[]⟩⟩),rm:=Yn (Qc s m n).rm k m.pf m.fa} (k:Nat)=none:=Ow (s:=s) rfl;unfold Cb;rw[e];simp only
   omega
structure XcC(c:Conf)(s:StM)(b:Int)(k:Nat):Prop where
 same:∀j:Nat,j≠k->Gh s (tickK c (s,b) k).1 j
 keep:(tickK c (s,b) k).1.keep=s.keep
 phi:phi c (tickK c (s,b) k).1 k<=phi c s k
 work:(Xhg s k/\tickK c (s,b) k=(s,b))\/(b<1/\tickK c (s,b) k=(s,b))\/(b=c.step->Go.Proofs.YtohjeeapehmkcaaGreatDoor.phi c (tickK c (s,b) k).1 k+1<=Go.Proofs.YtohjeeapehmkcaaGreatDoor.phi c s k)
theorem XcC.of{t:StM}{b b':Int}(e:tickK c (s,b) k=(t,b'))(h1:∀j:Nat,j≠k->Gh s t j)(h2:t.keep=s.keep)(h3:Go.Proofs.YtohjeeapehmkcaaGreatDoor.phi c t k<=Go.Proofs.YtohjeeapehmkcaaGreatDoor.phi c s k)(h4:b=c.step->Go.Proofs.YtohjeeapehmkcaaGreatDoor.phi c t k+1<=Go.Proofs.YtohjeeapehmkcaaGreatDoor.phi c s k):XcC c s b k:=⟨by rw[e];exact h1,by rw[e];exact h2,by rw[e];exact h3,.inr (.inr (by rw[e];exact h4))⟩
def ND(s:StM):Prop:=∀k:Nat,(Zh s.rm (k:Nat):Int)+(if (Xm s (k:Nat)).isSome then 1 else 0)<=s.keep.getD k 0+1
theorem ND.begin(h:ND s)(k:Nat):Z7 c s k=s/\Q8 s k=false:=by
 have b:Q8 s k=false:=by
  cases a:Q8 s k with
  |false=>rfl
  |true=>
   unfold Q8 at a;simp only[XJ] at a;have e:=Tb.1 a.1.2;have d:=h k;split at d <;> omega
 exact⟨by unfold Z7;rw[b];rfl,b⟩
theorem ND.go(h:ND s)(hs:s.Ok c)(k:Nat)(n:Int):ND (Zw s k n):=by
 intro i;have hi:=h i;rw[(N2 s k n).1];by_cases b:i=k
 ·subst b;cases a:Xm s (i:Nat) with
  |none=>unfold Zw;rw[a];simp only;rw[a] at hi;rw[a];exact hi
  |some m=>
   obtain⟨j,ej,f,d⟩:=Ql a;obtain rfl:i=j:=by omega
   rw[a] at hi;rw[if_pos (by rfl)] at hi;unfold Zw;rw[a];simp only
   split
   ·rw[B0 (show(s.mv.set i (some {m with gone:=m.gone+Zn m n}))[i]?=_ from XF f)];rw[if_pos (by rfl)];exact hi
   ·rw[Ow (s:=s) (k:=i) rfl];rw[if_neg (by simp)];obtain⟨_,g,_⟩:=Xav (StM.OkP.step hs d n).rm (i:Nat) m.pf m.fa;have e:Qe (Qc s m n).rm (i:Nat)=Qe s.rm (i:Nat):=rfl;rw[e] at g;have l:Dn (Qe s.rm (i:Nat)) m.pf.toNat<=(Qe s.rm (i:Nat)).length+1:=by unfold Dn;split <;> omega
    rw[Gv] at l;show(Zh (Yn (Qc s m n).rm (i:Nat) m.pf m.fa) (i:Nat):Int)+0<=_
    omega
 ·have S:=XiZ (s:=s) k n b;rw[S.opn,S.2];exact hi
theorem Xjq(h:s.Ok c):Cb s (k:Nat)=0↔Xm s (k:Nat)=none:=by
 cases a:Xm s (k:Nat) with
 |none=>exact⟨λ_=>rfl,λ_=>by unfold Cb;rw[a]⟩
 |some m=>
  refine⟨λb=>?_,λb=>by cases b⟩;have:=(XiY h a 0).2.2.1;omega
end
def Lq(b:Bool):List Value:=[.bool b]
theorem Xha:∀n,Y6 [.bool false] n=fl Lq (List.replicate n false)
 |0=>rfl
 |n+1=>by rw[Y6,Xha n,ZT];rfl
theorem Xia{bs:List Bool}(h:w.heap[b]?=some (.cells (fl Lq bs).toArray t fz))(hk:k<bs.length):w.cell? ⟨b,0+k,none⟩=some (.bool (bs.getD k false)):=by
 obtain⟨b',off,e,c⟩:=(J4 (rest:=[]) (xs:=bs) (cells:=Lq) (sz:=1) (by rw[ZO];exact h) (λ_=>rfl)) k bs[k] (XB hk);have a:=c 0 _ rfl;cases e
 rw[ZH,Nat.add_zero] at a;rw[a,XC,XB hk];rfl
theorem Xjr(h:s.Ok c)(k:Nat):decide (((Cb s (k:Nat):Nat):Int)>0)=(Xm s (k:Nat)).isSome:=by
 have b:=Xjq h (k:=k);cases a:Xm s (k:Nat) with
 |none=>
  rw[b.2 a];rfl
 |some m=>
  refine decide_eq_true ?_;have:Cb s (k:Nat)≠0:=λe=>by rw[b.1 e] at a;cases a
  omega
theorem Xf7(h:s.Ok c):(Qy s.th).all (Ed c)=true:=by
 rw[List.all_eq_true];intro z a;unfold Qy at a;obtain⟨x,b,e⟩:=List.mem_filterMap.1 a;cases x with
 |none=>cases e
 |some t=>cases e;exact(XgK h t b).1
theorem Xf6(h:X5 w r s)(hs:s.Ok c):∀w',Xc Xe w w'->Xf prog 18 #[.agg (Zv r).toArray] w' (λv w2=>Xc Xe w' w2/\∃a cap,v=.slice a (Qy s.th).length cap/\Rd .i64 w2 a (Qy s.th)):=λw' b=>
 (Xls (h.grow b) hs).mono λv w2 ⟨d,e⟩=>⟨e,d.ints rfl⟩
theorem law_StoreBound(c:Conf)(p:Yy)(sa:Option Addr)(sc:Nat)(xs:List D8)(w:World)(ht:Bb w)(hc:Yr w c p)(hrs:Rows Fi 5 w sa xs)(hl:xs.length<=9223372036854775807)(hxs:∀x∈xs,Iw w x):Xf prog 4 #[.agg (Zi c p).toArray,.slice sa xs.length sc] w (Grow (.bool true) w):=by
 refine ζe func4 ntmps4 ϱ (ζn ϱ λcb w1 e1 c9 b7 dn=>?_);refine ζv (Xjk w1 (ht.grow b7)) ϱ λw2 b8=>?_;have ac:=b7.trans b8;have ad:=b8.heap' c9;refine ζl ad ϱ (ζv (XkK c p w2 (hc.chg ac)) ϱ λw3 b9=>?_);have f:=ac.trans b9;have ae:=b9.heap' ad;cases hf:Pn c with
 |false=>
  exact ζy ϱ (ζr func4 ϱ ⟨rfl,f⟩)
 |true=>
 obtain⟨hm,dp,dq⟩:=XiF hf;have a1:=Ys hm;refine ζf ϱ (ζc ϱ (Xlm sa sc xs w3 (hrs.chg f) hl) ?_);rintro _ w4 ⟨b0,rfl,ca,rfl⟩;refine ζa ϱ (ζg ϱ (λg0=>?_) λg0=>?_)
 ·exact ζr func4 ϱ ⟨rfl,f⟩
 obtain⟨d4,d0⟩:=ca (by simpa using g0);have ba:Yo w p.ka:=λb off s e=>hc.keep.block (by have:=a1.keep;have:=a1.n;omega) e;have D:=hc.chg f;have dr:=a1.keep;obtain⟨N,hN⟩:∃N,N=c.classes.length:=⟨_,rfl⟩;have d5:=a1.n;refine ζl ae ϱ (ζc ϱ (Xjl c p w3 (hc.chg f) (ht.grow f) hm (by omega) (ba.grow f.size)) ?_);rintro _ w5 ⟨F,S,r,n0,rfl,ds,h5,d6,bb,ce,bq⟩;refine ζa ϱ (ζn ϱ λxb w6 e6 cf cg dt=>ζs cf ϱ λw7 br ch du=>?_);have ag:=cg.since ch (λz o e=>by omega);have h7:=h5.grow ag;have dv:=h5.chg.size;have bt:Bs c p n0 w3 w7 F (Ap c) r xb:=⟨bb.grow ag,ce,bq F (λz o=>.inr o) (λb off s e o=>by have:=h5.base b o;have:=ba b off s e;have:=f.size;omega),(bb.out λz e=>by omega),br,by omega,by omega,λo=>by have:=h5.low _ o;omega⟩;refine Xa.loop (α:=Nat) (λk=>[(1,false,.slice sa xs.length sc),(2,false,.pointer (some ⟨cb,0,none⟩)),(5,false,.bool true),(6,false,Z4 S),(7,false,.pointer (some ⟨xb,0,none⟩)),(8,false,.int .i64 k)])
  (λk w'=>k<=xs.length/\∃F s r,Lv c n0 w3 w' F S s/\Bs c p n0 w3 w' F s r xb/\(OI s/\Ze s none/\s.keep=c.keep)/\0<=s.rm.tot/\s.rm.tot<=k*1000000000) (λk=>xs.length-k) 0 ⟨rfl,rfl,rfl,rfl,rfl,rfl,trivial⟩ ⟨XL _,F,Ap c,r,h7,bt,⟨OI.new hm,Ze.new c,rfl⟩,ZQ _,ZQ _⟩ ?_
 rintro k w9 ⟨hk,F9,K,r9,h9,bc,⟨bd,be,ai⟩,bf,da⟩ ih;have a2:=h9.inv;have U:=f.trans h9.chg;refine ζa ϱ (ζg ϱ (λg1=>?_) λg1=>?_)
 ·have g1:=of_decide_eq_true g1;have bg:k<xs.length:=by omega
  obtain⟨ab,aoff,rfl,a3⟩:=hrs.at bg;have hu:=hxs xs[k] (XK bg);have ck:=hu.kind;have L:∀i v,(Fi xs[k])[i]?=some v->w9.cell? ⟨ab,aoff+k*5+i,none⟩=some v:=λi v hv=>U.cell (a3 i v hv) id;refine ζi (k*5) ϱ (ζk ϱ (L 0 _ rfl) ϱ (Xa.div Xb rfl (by omega) (Fa (by omega)) rfl ?_));by_cases k6:xs[k].kind%7=6
  ·exact ζy ϱ (ζj ϱ (ih (k+1) _ _ ⟨by omega,F9,K,r9,h9,bc,⟨bd,be,ai⟩,bf,by omega⟩ (by omega) ⟨rfl,rfl,rfl,rfl,rfl,rfl,trivial⟩))
  refine ζf ϱ (ζi (k*5) ϱ (Xa.loadC Xb ((Fi xs[k])) rfl (by first|rfl|(simp;done)|(simp[*];done)|(simp;omega)) (L) rfl ?_));have ay:0<xs[k].bs.length->Xj F9 xs[k].ba:=λhp b off s e o=>by
   have:=hu.rd.block hp e;have:=h9.base _ o;have:=f.size;omega
  refine ζc ϱ (Xjm h9 xs[k] (hu.grow U) ay) ?_;rintro _ bh ⟨dw,d1,rfl,dd,de,bi,M,bw,bx⟩;refine ζa ϱ ?_;have a4:=f.trans M.chg;have a:=bc.prog (D.chg M.chg) bw bx;have aa:∀i v,(Fi xs[k])[i]?=some v->bh.cell? ⟨ab,aoff+k*5+i,none⟩=some v:=λi v hv=>a4.cell (a3 i v hv) id;have bj:=Xm6 (u:=xs[k]) a2 ⟨bf,by omega⟩;refine ζd 13 Xe (by kernel_rfl) ϱ λd=>δl d a.box ϱ (δi (k*5) d ϱ (Xd.loadC Xb d ((Fi xs[k])) rfl (by first|rfl|(simp;done)|(simp[*];done)|(simp;omega)) (aa) (by first|exact λh=>h|(intro h;omega)|assumption) rfl ?_));have hd:=Xll a xs[k] a2 (hu.grow a4) (by omega);refine Xd.callAllocG (Xdw (Q6 c K xs[k]).length (Ak c K xs[k])) (Ta bh r9 (Yz c K xs[k]) (Q6 c K xs[k])) (Xdx) Xb d rfl rfl rfl (λ_=>rfl) rfl (λ_=>rfl) (λ_=>rfl) rfl rfl (λ_ _=>rfl) rfl (λ_ _=>rfl) (hd) (Xix) ((λ_ h=>h.elim)) ?_;rintro nb x dx dy cl bz ⟨q1,O,q3,q4,q5⟩ hG;refine Xd.turn1 d rfl λdz V=>Xr.store Xb d rfl (V.heap' cl) (by first|(intro h;exact rfl)|(intro h;omega)) rfl rfl rfl λcm az W di=>δn d ϱ λe0 a0=>?_;have lxb:=Xg a.box;have P:=bz.trans V;have A:=(P.since W (λz o e=>by omega)).trans a0;have b1:Yr cm x.1.c x.1.cp:=by
   rw[O.1,O.2.1,a.rc.1,a.rc.2];exact D.chg (M.chg.trans (P.since W (λz o e=>by omega)))
  have c0:=((q1.grow V).far hG.1 b1 W).grow a0;refine ζl (a0.heap' az) ϱ (ζs (A.heap' a.box) ϱ λbk b2 aj dj=>?_);have bl:=O.2.2 _ (λz e=>by omega) a.xr;have c1:=M.grow A;have q:=c1.box a.xo.1 a.xo.2.2 (Yj (A.heap' a.box)) (by decide) aj a.xo.2.1;have ak:Bs c p n0 w3 bk bi (Yz c K xs[k]) x.1 xb:=⟨c0.far bl (by have:=D.chg q.chg;rw[O.1,O.2.1,a.rc.1,a.rc.2];exact this) aj,⟨O.1.trans a.rc.1,O.2.1.trans a.rc.2⟩,O.2.2 _ (λz o=>M.low z o) a.out,bl,b2,a.xo⟩;have a5:=bd.do22 a2 xs[k] (by omega);have a6:=be.do22 a2 xs[k];have Q:=(Xjc c K xs[k] k6 ck.1).trans ai;obtain⟨s',es'⟩:∃s',s'=Yz c K xs[k]:=⟨_,rfl⟩;rw[<-es'] at q ak a5 a6 Q bj;have l:=q.inv;have E:=q.chg.heap' ae;refine ζl E ϱ ?_;rw[<-hN];refine Xa.make Xb (m:=N) (k:=N) rfl rfl rfl (XE _) (show 1*N<=140737488355328 by omega) (by omega) λob cn e2 a7 c2 dk=>ζa ϱ ?_;replace a7:cn.heap[ob]?=some (.cells (Y6 [.bool false] N).toArray 4 (0,0)):=a7;rw[Xha] at a7;have al:(Qy s'.th).length<=8192:=by have h1:=XgJ s'.th;have h2:=l.tl;have h3:=Kb l;omega
  have bm:∀j:Nat,0<=c.keep.getD j 0/\c.keep.getD j 0<=1024:=λj=>by
   rw[XC];by_cases hj:j<c.keep.length
   ·rw[XB hj];exact l.kr _ (by rw[Q];exact XK hj)
   ·rw[XV (by omega)];decide
  refine Xa.loop (α:=Nat) (λj=>[(1,false,.slice (some ⟨ab,aoff,none⟩) xs.length sc),(2,false,.pointer (some ⟨cb,0,none⟩)),(5,false,.bool true),(6,false,Z4 S),(7,false,.pointer (some ⟨xb,0,none⟩)),(8,false,.int .i64 k),(12,false,.slice (some ⟨ob,0,none⟩) N N),(13,false,.int .i64 j)])
   (λj w'=>j<=N/\(∃bs:List Bool,bs.length=N/\(∀i,i<j->bs.getD i false=(Xm s' (i:Nat)).isSome)/\w'.heap[ob]?=some (.cells (fl Lq bs).toArray 4 (0,0)))/\Xc Xe bk w') (λj=>N-j) 0 ⟨rfl,rfl,rfl,rfl,rfl,rfl,rfl,rfl,trivial⟩ ⟨XL _,⟨_,XH,λi hi=>by omega,a7⟩,c2⟩ ?_
  rintro j e3 ⟨hj,⟨bs,cp,bn,a8⟩,G⟩ cq;have B:=q.grow G;have H:=ak.grow G;have I:=G.heap' E;refine ζa ϱ (ζl I ϱ (ζg ϱ (λg2=>?_) λg2=>?_))
  ·have g2:=of_decide_eq_true g2;have e4:j<N:=by omega
   refine ζv (XaP B (j:Nat)) ϱ λbo t=>?_;have b3:=t.heap' a8;rw[Xjr l];have c4:Yc (fl Lq bs) (0+j*1) [.bool (Xm s' (j:Nat)).isSome]=some (fl Lq (bs.set j (Xm s' (j:Nat)).isSome)):=by
    have:=Nx (cells:=Lq) (sz:=1) (xs:=bs) (k:=j) (y:=(Xm s' (j:Nat)).isSome) (rest:=[]) (λ_=>rfl) (by omega);rw[ZO,ZO] at this;exact this
   refine ζi (j*1) ϱ (ζS ϱ b3 c4 ϱ λcr b4 c5 dm=>?_);have C:=(G.trans t).since c5 (λz o e=>by omega);have an:=q.grow C;have b5:=C.heap' E;obtain⟨qb,qoff,eqa,cs⟩:=(D.chg an.chg).keep j (by omega);have ct:=a5.le j;rw[Q] at ct;have e5:=bm j;refine ζd 9 Xe (by kernel_rfl) ϱ λd=>δv d (λw' g=>(Xev (an.grow g) (j:Nat))) ϱ (δl d b5 ϱ ?_);rw[eqa];refine δi j d ϱ (δk d cs ϱ (δj d ϱ (δn d ϱ λcu J=>ζf ϱ (ζj ϱ ?_))));exact cq (j+1) _ _ ⟨by omega,⟨_,by rw[XG];exact cp,λi hi=>by
    rw[XC];by_cases e:i=j
    ·subst e;rw[XF (by omega)];rfl
    ·rw[XO (by omega),<-XC];exact bn i (by omega),J.heap' b4⟩,C.trans J⟩ (by omega) ⟨rfl,rfl,rfl,rfl,rfl,rfl,rfl,rfl,trivial⟩
  ·have g2:=of_decide_eq_false g2;have ejN:j=N:=by omega
   subst ejN;refine ζd 9 Xe (by kernel_rfl) ϱ λd=>δl d I ϱ (δl d H.box ϱ (Xd.callQ d rfl rfl ((Xf6 H.sr l)) ?_));rintro _ bo t ⟨za,zcap,rfl,cv⟩;refine Xd.adv Xb d rfl ?_;have hM:=λw' (g:Xc Xe bo w')=>Xlb c p za zcap (Qy s'.th) (some ⟨ob,0,none⟩) j (λk=>(Xm s' (k:Nat)).isSome) w' (D.chg (B.chg.trans (t.trans g))) hm bm (cv.chg g) al (Xf7 l) (λi hi=>⟨ob,0,rfl,by rw[Xia ((t.trans g).heap' a8) (by omega),bn i (by omega)]⟩);rw[<-hN] at hM;refine Xd.callQ d rfl rfl ((λw' g=>(hM w' g).mono λv w2 ⟨e,h⟩=>⟨h,e⟩)) ?_;rintro _ cr C rfl;refine Xd.adv Xb d rfl (δn d ϱ λcu J=>?_);have n:=(t.trans C).trans J;have ao:=H.grow n;refine ζd 8 Xe (by kernel_rfl) ϱ λd=>δl d (n.heap' I) ϱ (δl d ao.box ϱ (Xd.callQ d rfl rfl ((Xf6 ao.sr l)) ?_));rintro _ cx ap ⟨cy,b6,rfl,c6⟩;refine Xd.adv Xb d rfl ?_;have hP:=λw' (g:Xc Xe cx w')=>Xbq c p cy b6 (Qy s'.th) w' (D.chg (B.chg.trans (n.trans (ap.trans g)))) hm (c6.chg g) al;rw[if_pos (Xf7 l)] at hP;refine Xd.callQ d rfl rfl ((λw' g=>(hP w' g).mono λv w2 ⟨e,h⟩=>⟨h,e⟩)) ?_;rintro _ e7 c7 rfl;refine Xd.adv Xb d rfl (δn d ϱ λe8 aq=>?_);have R:=n.trans (ap.trans c7);have ar:=B.grow (R.trans aq);refine ζv (XaO ar) ϱ λe9 au=>?_;have h1:=Xi4 l a6 a5;rw[Q] at h1;have h2:=Xi5 l a6;refine ζf ϱ (ζv (XaO (ar.grow au)) ϱ λea c8=>ζf ϱ (ζj ϱ ?_));have T:=((R.trans aq).trans au).trans c8;exact ih (k+1) _ _ ⟨by omega,bi,s',x.1,B.grow T,H.grow T,⟨a5,a6,Q⟩,bj.1,by omega⟩ (by omega) ⟨rfl,rfl,rfl,rfl,rfl,rfl,trivial⟩
 ·exact ζr func4 ϱ ⟨rfl,U⟩
end Go.Proofs.YtohjeeapehmkcaaGreatDoor
