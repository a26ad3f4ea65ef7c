/-
  Texts put together: Sr11, Sr12, Sr13, Sr14, G9, Sr15, Laws22, Aw22, Laws20, Laws20b, Laws22b, Sr16, Laws22c, Tot22, Laws22g, Szs, Bnd22.
-/
import Derived.Test.YtohjeeapehmkcaaGreatDoorPt9
import Derived.Test.YtohjeeapehmkcaaGreatDoorQRule9
import Derived.Test.YtohjeeapehmkcaaGreatDoorQRule12
set_option linter.unusedVariables false
set_option maxRecDepth 100000
namespace Go.Proofs.YtohjeeapehmkcaaGreatDoor
open Go.RowKit
open Bool renaming and_eq_true->XJ
open Int renaming toNat_natCast->XA,eq_ofNat_of_zero_le->XE,mul_le_mul->ZG,mul_nonneg->ZI,mul_comm->YB,toNat_of_nonneg->YH,le_refl->YI
open List renaming getElem?_eq_getElem->XB,getD_eq_getElem?_getD->XC,getElem?_set_self->XF,length_set->XG,length_replicate->XH,getElem_mem->XL,getElem?_set_ne->XM,length_map->XN,mem_of_getElem?->XS,getElem?_eq_none->XV,getElem?_replicate->XZ,filter_cons->ZA,map_cons->ZC,eq_of_mem_replicate->ZH,length_range->ZR,replicate_succ->ZX,length_filter_le->ZY,append_nil->YF,sum_cons->YK,getElem_of_mem->QH,mem_replicate->QM
open Nat renaming le_refl->XD,zero_le->XK,le_trans->ZE,mul_one->ZJ,add_assoc->YJ
open Option renaming getD_some->ZT
open Go.Proofs.Tryz (func10 func11 func12 func23 func29 func37 func40 func41 func42 func43 func44 func7 func9 ntmps10 ntmps11 ntmps12 ntmps23 ntmps29 ntmps37 ntmps40 ntmps41 ntmps42 ntmps43 ntmps44 ntmps7 ntmps9 prog)
variable {A:Ar}{V:ArV}{c:Conf}{l':IL}{ahead by' size u who:Int}{lg:List (Nat×List Nat)}{th:List (Option ThM)}{ps:List IL}{bs l p zs:List Int}{l2 ws:List Nat}{cs rest xs:List Value}{mo:Mo}{m:MvM}{N at' b base cap fuel g i j k len lm lo n n0 o off st sz t tm vb xb y z:Nat}{e:Nat×List Int}{fz:Nat×Nat}{f:Nat->Int}{G:Nat->Pg}{B C F F' Fr S S' T:Nat->Prop}{pd pd2:Option (Nat×PlcM)}{a:Option Addr}{pg:PgL}{P:Pl}{pl':PlM}{q:Plc}{R:Rm}{M:RmM}{r r1:SR}{x x':Sm}{s s':StM}{α:Type}{v:Value}{w w' w0 w1 w2:World}
theorem Xlc(h:X6 w r s)(hs:s.Ok r.c)(o size:Int)(ht:0<=s.rm.tot/\s.rm.tot<=999999000000):Xf prog 40 #[.agg (Zz r).toArray,.int .i64 o,.int .i64 size] w
 (λv w'=>∃r',v=.tuple #[.agg (Zz r').toArray,.int .i64 (Bj r.c s o size)]/\Cy w r (Ah r.c s o size) r' w'):=by
 refine ζe func40 ntmps40 ϱ (ζn ϱ λb U e1 M I S=>ζn ϱ λqb V e2 B C T=>?_);have D:=C.heap' M;have d:=I.trans C;have lq:=Xg B;refine ζl D ϱ (ζv (Ui (h.grow d) hs o) ϱ λW i=>?_);have k:=i.heap' D;have f:=i.heap' B;have a:=d.trans i;by_cases x:Yl s o=1
 ·have e:Bj r.c s o size=1:=by unfold Bj;rw[if_pos x]
  have eS:Ah r.c s o size=s:=by unfold Ah;rw[if_neg (by rw[e];decide)]
  rw[e,eS];refine ζy ϱ ?_;exact ζl k ϱ (ζs f ϱ λwr n p J=>ζR func40 n ϱ ⟨r,rfl,.self h (a.since p (λz G e=>by omega))⟩)
 ·by_cases H:Yl s o=0
  ·have e:Bj r.c s o size=10:=by unfold Bj;rw[if_neg x,if_pos H]
   have eS:Ah r.c s o size=s:=by unfold Ah;rw[if_neg (by rw[e];decide)]
   rw[e,eS];refine ζf ϱ (ζy ϱ ?_);exact ζl k ϱ (ζs f ϱ λwr n p J=>ζR func40 n ϱ ⟨r,rfl,.self h (a.since p (λz G e=>by omega))⟩)
  ·have e:Bj r.c s o size=Qx r.c s size:=by unfold Bj;rw[if_neg x,if_neg H]
   obtain⟨j,rfl,N,O⟩:=Xa6 x H;refine ζf ϱ (ζf ϱ (ζl k ϱ (ζv (Uh (h.grow a) hs size) ϱ λw4 l=>?_)));have q:=l.heap' k;have t:=l.heap' f;have c:=a.trans l;by_cases gf:Qx r.c s size=0
   ·have eS:Ah r.c s (j:Nat) size=Yw r.c s (j:Nat) size:=by unfold Ah;rw[if_pos (e.trans gf)]
    rw[e,eS,gf];refine ζf ϱ (ζl q ϱ (ζc ϱ (Xfw (h.grow c) hs N gf (StM.OkP.lay hs O gf (λ_ _ e=>by cases e)) ht) ?_));rintro _ P ⟨Q,rfl,y⟩;refine ζa ϱ ?_;refine ζs (y.2.2.heap' t) ϱ λR g m K=>?_;have u:=(c.trans y.2.2).since m (λz G e=>by omega);have E:=y.2.1.back ((i.trans l).size);exact ζR func40 g ϱ ⟨Q,rfl,h.box E y.1 (by omega) (by omega) m u,E.back d.size,u⟩
   ·have eS:Ah r.c s (j:Nat) size=s:=by unfold Ah;rw[if_neg (by rw[e];exact gf)]
    rw[e,eS];exact ζY ϱ (by simpa using gf) (ζd 4 Xe (by kernel_rfl) ϱ λA=>δl A q ϱ (δl A q ϱ (δv A (λw' L=>Uh (h.grow (c.trans L)) hs size) ϱ (δn A ϱ λP F=>ζs (F.heap' t) ϱ λR g m K=>ζR func40 g ϱ ⟨r,rfl,.self h ((c.trans F).since m (λz G e=>by omega))⟩))))
abbrev Xgf(x:SR):Value:=.agg (Zz x).toArray
theorem Vi(hs:s.Ok c)(κ:Int)(ht:0<=s.rm.tot/\s.rm.tot<=1000000000000):0<=(Zi s κ).rm.tot/\(Zi s κ).rm.tot<=s.rm.tot+20000:=by
 unfold Zi;cases a:Xo s κ with
 |none=>exact⟨ht.1,by show s.rm.tot<=_;omega⟩
 |some m=>exact Xcc hs _ _ ht
theorem X6.trowP(h:X6 w r s){t:ThM}(ht:s.th[j]?=some (some t)):∃(hj:j<r.ts.length),(r.ts[j].size=t.size/\Xy r.ts[j].q=t.q)/\Zm w r.ts[j].q/\Yp w r.ts[j].q.pa/\∃b off,r.ta=some ⟨b,off,none⟩/\(∀v,(C6 r.ts[j])[0]?=some v->w.cell? ⟨b,off+j*5,none⟩=some v)/\(∀v,(C6 r.ts[j])[1]?=some v->w.cell? ⟨b,off+j*5+1,none⟩=some v)/\∀i v,(Xv r.ts[j].q)[i]?=some v->w.cell? ⟨b,off+j*5+1+i,none⟩=some v:=by
 have hj:j<r.ts.length:=by rw[h.tn];exact(List.getElem?_eq_some_iff.1 ht).1
 obtain⟨⟨d,f⟩,b,off,e,c⟩:=h.trow hj;obtain⟨g,k⟩:=h.tq _ (XL hj);refine⟨hj,⟨by rw[d,G4 ht];rfl,f t (G4 ht)⟩,g,k,b,off,e,λv a=>c 0 v a,λv a=>c 1 v a,λi v a=>?_⟩;rw[YJ];exact c (1+i) v (by rw[<-a,Nat.add_comm];rfl)
theorem Xlg(h:X6 w r s)(hs:s.Ok r.c)(o:Int)(ht:0<=s.rm.tot/\s.rm.tot<=999999000000):Xf prog 41 #[.agg (Zz r).toArray,.int .i64 o] w
 (λv w'=>∃r',v=.tuple #[.agg (Zz r').toArray,.int .i64 (Yl s o)]/\Cy w r (B9 r.c s o) r' w'):=by
 refine ζe func41 ntmps41 ϱ (ζn ϱ λb w1 e1 hb ae be=>ζn ϱ λqb f e2 Q R bf=>?_);have T:=R.heap' hb;have m:=ae.trans R;have lq:=Xg Q;refine ζl T ϱ (ζv (Ui (h.grow m) hs o) ϱ λL c=>?_);have y:=c.heap' T;have A:=c.heap' Q;have g:=m.trans c;by_cases B:Yl s o=0
 ·obtain⟨j,t,rfl,C⟩:=Ig B;obtain⟨t',f1,f2,f3,f4,f5⟩:=Lp hs C;have F:=Js hs t.q.cls;have eS:B9 r.c s (j:Nat)=A4 r.c {Zi s t.q.cls with th:=(Zi s t.q.cls).th.set j none} t'.q:=by
   unfold B9;rw[if_neg (λe=>e B),Y8 C,Y8 f1,XA]
  have h3:=h.grow g;obtain⟨bg,⟨_,v2⟩,_,_,a0,off,eta,_,af,_⟩:=h3.trowP C;rw[eS,B];refine ζf ϱ (ζd 10 Xe (by kernel_rfl) ϱ λa=>δl a y ϱ (δl a y ϱ ?_));rw[eta];refine δi (j*5) a ϱ (δk a (af _ rfl) ϱ ?_);rw[show r.ts[j].q.cls=t.q.cls from congrArg PlcM.cls v2,<-eta];have hd:∀w',Xc Xe L w'->Xf prog 92 #[.agg (Zz r).toArray,.int .i64 t.q.cls] w' (λv f=>Xc Xe w' f/\∃x,v=Xgf x/\Ou L r (Zi s t.q.cls) x f/\∀b,L.heap.size<=b->(b<w'.heap.size\/f.heap.size<=b)->U7 x b):=λw' d=>
   (Xfu (h3.grow d) hs t.q.cls ⟨ht.1,by omega⟩).mono λv f ⟨x,a1,M,a3,N⟩=>⟨N,x,a1,⟨M,a3.back d.size,d.trans N⟩,XbT h3 M a3⟩
  refine Xd.callAllocG (Xgf) (Ou L r (Zi s t.q.cls)) (U7) Xb a rfl rfl rfl (λ_=>rfl) rfl (λ_=>rfl) (λ_=>rfl) rfl rfl (λ_ _=>rfl) rfl (λ_ _=>rfl) (hd) (Xgg) ((λ_ h=>h.elim)) ?_;rintro nb x w4 bh ah ai ⟨q1,O,q3⟩ hG;refine δn a ϱ λw5 D=>ζs (D.heap' ah) ϱ λw7 E U bi=>?_;have i:=(ai.trans D).since U (λz G e=>by omega);have H:=g.trans i;have V:=(q1.grow D).far hG (by have:=h.conf.chg (g.trans i);rw[O.1,O.2.1];exact this) U;obtain⟨bj,⟨_,y2⟩,p1,p2,b0,b7,a9,_,_,W⟩:=V.trowP f1;obtain⟨q,eq⟩:∃q:Plc,q=x.ts[j].q:=⟨_,rfl⟩;rw[<-eq] at y2 p1 p2 W;refine ζl E ϱ ?_;rw[a9];refine ζi (j*5) ϱ (Xa.loadC Xb ((Xv q)) rfl (by first|rfl|(simp;done)|(simp[*];done)|(simp;omega)) (W) rfl (ζn ϱ λpb w8 e8 aa ak bk=>ζs aa ϱ λw9 ab am bl=>?_));have k:=ak.since am (λz G e=>by omega);have an:∀w',Xc Xe w9 w'->Xf prog 94 #[.agg (Zz x).toArray,.int .i64 (j:Nat),.agg (C6 Iw).toArray] w' (λv f=>Xc Xe w' f/\∃r',v=.agg (Zz r').toArray/\X6 f r' {Zi s t.q.cls with th:=(Zi s t.q.cls).th.set j none}/\Zy w9 x r'):=λw' d=>
   (Om ((V.grow k).grow d) (Ml F.ok) j ((List.getElem?_eq_some_iff.1 f1).1) Iw none ⟨rfl,λ_ e=>by cases e⟩ ⟨Il _ _ _,λ_ _ _ e=>by cases e⟩).mono λv f ⟨r',a1,M,⟨b1,b2,b3⟩,N⟩=>⟨N,r',a1,M,b1,b2,λS hS ho=>b3 S (λz G=>by have:=hS z G;have:=d.size;omega) ho (λ_ _ _ e=>by cases e)⟩
  refine ζd 5 Xe (by kernel_rfl) ϱ λa=>δl a (k.heap' E) ϱ (Xd.build Xb a rfl rfl (δl a ab ϱ (Xd.callQ a rfl rfl (an) ?_)));rintro _ bm ac ⟨ao,rfl,ad,I⟩;refine Xd.adv Xb a rfl (δn a ϱ λbn J=>?_);have l:=ac.trans J;have ec:=I.1.trans O.1;have ap:=Vi hs t.q.cls ⟨ht.1,by omega⟩;have aq:StM.OkP ao.c {Zi s t.q.cls with th:=(Zi s t.q.cls).th.set j none} (some (j,Xy q)):=by rw[ec,y2];exact F.ok.away f1 f5
  refine ζc ϱ (Xfv (ad.grow J) q aq ((p1.grow k).grow l) ⟨ap.1,by show(Zi s t.q.cls).rm.tot<=_;omega⟩) ?_;rintro _ bo ⟨ar,rfl,n⟩;refine ζa ϱ ?_;rw[ec,y2] at n;have p:=(k.trans l).trans n.2.2;have z7:=H.size;have bp:=i.size;refine ζs (p.heap' (i.heap' A)) ϱ λbq P K bd=>?_;have u:=(H.trans p).since K (λz G e=>by have:=c.size;omega);have a5:=(O.back c.size).trans (I.trans n.2.1 l.size) (by have:=c.size;omega);exact ζR func41 P ϱ ⟨ar,rfl,h.box a5 n.1 (by omega) (by have:=c.size;omega) K u,a5.back m.size,u⟩
 ·have eS:B9 r.c s o=s:=by unfold B9;rw[if_pos B]
  rw[eS];refine ζY ϱ (by simpa using B) ?_;exact ζl y ϱ (ζs A ϱ λwr au av br=>ζR func41 au ϱ ⟨r,rfl,.self h (g.since av (λz G e=>by omega))⟩)
theorem Xm.rd8(h:Xm base 5 1 w v n (l.map (Value.int .u8)))(hn:l.length=n):∃a cap,v=.slice a n cap/\Rd .u8 w a l/\∀b off s,a=some ⟨b,off,s⟩->base<=b/\b<w.heap.size:=by
 rcases h.2 with⟨rfl,f⟩|⟨g,cap,cur,rfl,i,d,j,k,_,c⟩
 ·subst f;have:l=[]:=List.length_eq_zero_iff.1 hn;subst this;exact⟨none,0,rfl,Rd.nil _ _ _,(by intro b off s e;cases e)⟩
 ·exact⟨_,cap,rfl,Rd.of_take d (by rw[hn];rw[ZJ] at c;exact c),(by intro b off s e;cases e;exact⟨i,Xg d⟩)⟩
abbrev Uc(c:Conf)(p:Qi)(ra:RA)(n:Nat)(x:Option Addr×Nat):Value:=.tuple #[.agg (Q9 c p ra).toArray,.slice x.1 n x.2,.int .i64 0]
abbrev Oi(l:List Int)(base:Nat)(x:Option Addr×Nat)(w2:World):Prop:=Rd .u8 w2 x.1 l/\∀b off s,x.1=some ⟨b,off,s⟩->base<=b/\b<w2.heap.size
theorem Xfb:∀x w2 w3,Oi l base x w2->Xc Xe w2 w3->Oi l base x w3:=λ_ _ _ ⟨a,b⟩ c=>⟨a.chg c,λb' off s e=>⟨(b b' off s e).1,by have:=(b b' off s e).2;have:=c.size;omega⟩⟩
theorem Xlj(h:X6 w r s)(hs:s.Ok r.c)(o i n:Int)(hi : -9223372036854775808<=i/\i<=9223372036854775807)(hn : -9223372036854775808<=n/\n<=9223372036854775807)(ht:0<=s.rm.tot/\s.rm.tot<=999999000000):Xf prog 43 #[.agg (Zz r).toArray,.int .i64 o,.int .i64 i,.int .i64 n] w
 (λv w'=>∃r' a cap,v=.tuple #[.agg (Zz r').toArray,.slice a (Di r.c s o i n).length cap,.int .i64 (Qp s o i n)]/\Rd .u8 w' a (Di r.c s o i n)/\(∀b off s',a=some ⟨b,off,s'⟩->w.heap.size<=b/\b<w'.heap.size)/\Cy w r (Ca r.c s o i n) r' w'):=by
 have l:=hs.may;refine ζe func43 ntmps43 ϱ (ζn ϱ λb w1 e1 hb a9 ay=>ζn ϱ λqb F e2 aa P az=>?_);have Q:=P.heap' hb;have G:=a9.trans P;refine ζl Q ϱ (ζv (Xfx (h.grow G) hs o i n hi hn) ϱ λH y=>?_);have g:=y.heap' Q;have m:=y.heap' aa;have c:=G.trans y;have z3:=y.size;by_cases p:Qp s o i n=0
 ·obtain⟨j,t,i',n',rfl,A,rfl,rfl,h5,ab,ac⟩:=Vn hs p;have W:=h.grow c;obtain⟨b0,⟨_,I⟩,p1,p2,a0,off,eta,_,_,R⟩:=W.trowP A;obtain⟨q,eq⟩:∃q:Plc,q=r.ts[j].q:=⟨_,rfl⟩;rw[<-eq] at I p1 p2 R;have ae:q.pages.length<=4096:=by have e:q.pages=t.q.pages:=congrArg PlcM.pages I;rw[e];exact ac
  have a1:Qw r.c q i' n'=0:=by rw[Xae,I];exact ab
  have eR:Ca r.c s (j:Nat) (i':Nat) (n':Nat)=Y6 s (X8 r.c t.q.plc i' n'):=by unfold Ca;rw[if_pos p,Y8 A,XA,XA]
  have eB:Di r.c s (j:Nat) (i':Nat) (n':Nat)=Yr r.c q s.bs i' n':=by unfold Di;rw[if_pos p,Y8 A,XA,XA,Xcb r.c q,I]
  obtain⟨ra',era⟩:∃ra':RA,ra'={r.ra with steps:=r.ra.steps+X8 r.c q i' n'}:=⟨_,rfl⟩;have af:(r.ra.bs.length:Int)=r.c.size*r.c.pages:=by rw[h.rb];exact hs.bl
  have J:(Yr r.c q s.bs i' n').length=n':=by unfold Yr;simp
  rw[eR,eB,p];refine ζf ϱ ?_;rw[J];have T:=h.rs;have b1:=I4 (q:=q) (at':=i') (n:=n') l;have b2:=(hs.size j t A).2;have b3:=(Yq l).most;have hd:∀w',Xc Xe H w'->Xf prog 99 #[.agg (Q9 r.c r.cp r.ra).toArray,.agg (Xv q).toArray,.int .i64 (i':Nat),.int .i64 (n':Nat)] w' (λv F=>Xc Xe w' F/\∃x,v=Uc r.c r.cp ra' n' x/\Oi (Yr r.c q s.bs i' n') H.heap.size x F/\∀b,H.heap.size<=b->(b<w'.heap.size\/F.heap.size<=b)->Xj (λz=>z=b) x.1):=λw' k=>
   (Xfq r.c r.cp r.ra q i' n' w' ((W.grow k).conf) (p1.grow k) l ae a1 ((W.grow k).ra) af (by rw[T];omega)).mono λv F ⟨u1,x1,x2,x3⟩=>by
    rw[h.rb] at x2;obtain⟨a,cap,rfl,y1,y2⟩:=x2.rd8 J;have:=c.size;have:=k.size;exact⟨x3,(a,cap),by rw[x1,era],⟨y1,λb off s' e=>⟨by have:=(y2 b off s' e).1;omega,(y2 b off s' e).2⟩⟩,λb hb b4 b' off s' e K=>by have:=y2 b' off s' e;omega⟩
  refine ζd 18 Xe (by kernel_rfl) ϱ λf=>δl f g ϱ (δv f (λw' k=>(Kz (w:=w') (r:=r))) ϱ (δl f g ϱ ?_));rw[eta];refine δi (j*5) f ϱ (Xd.loadC Xb f ((Xv q)) rfl (by first|rfl|(simp;done)|(simp[*];done)|(simp;omega)) (R) (by first|exact λh=>h|(intro h;omega)|assumption) rfl (Xd.callAllocG (Uc r.c r.cp ra' n') (Oi (Yr r.c q s.bs i' n') H.heap.size) ((λx b=>Xj (λz=>z=b) x.1)) Xb f rfl rfl rfl (λ_=>rfl) rfl (λ_=>rfl) (λ_=>rfl) rfl rfl (λ_ _=>rfl) rfl (λ_ _=>rfl) (hd) (Xfb) ((λ_ h=>h.elim)) ?_));rintro nb x w4 b5 ah ai ⟨q1,q2⟩ hG;refine Xd.turn1 f rfl λw5 B=>Xr.store Xb f rfl (B.heap' ah) (by first|(intro h;exact rfl)|(intro h;omega)) rfl rfl rfl λw6 a4 L b6=>δn f ϱ λw7 C=>?_;have u:=((ai.trans B).since L (λz K e=>by omega)).trans C;refine ζl (C.heap' a4) ϱ (ζs (u.heap' g) ϱ λw8 D E b7=>?_);obtain⟨M,N⟩:∃M:SR,M={r with ra:=ra'}:=⟨_,rfl⟩;replace D:Zf w8 b M:=by rw[N];rw[era] at D⊢;exact D
  refine ζl D ϱ (ζs (E.heap (u.heap' m) (by omega)) ϱ λw9 a5 O b8=>?_);have d:=((c.trans u).since E (λz K e=>by omega)).since O (λz K e=>by omega);have U:∀b',b'<H.heap.size->Xj (λz=>z=b') x.1:=λb' h2 b'' off' s' e K=>by
   have:=(q2 b'' off' s' e).1;omega
  have a6:Z4 w9 ra':=by rw[era];exact⟨(h.ra.grow d).rd,h.ra.len,h.ra.lc,h.ra.rng⟩
  have V:=h.putRa d (ra:=ra') (bs:=s.bs) (t:=Xx s.rm.tot (X8 r.c t.q.plc i' n')) a6 (by rw[era];exact h.rb) (by rw[era,<-I,<-Hf];show r.ra.steps+_=_;rw[T,Bn (by omega)]) (by rw[era];exact h.la.grow d.size);rw[<-N] at V;have hk:Zy w r M:=by rw[N,era];exact⟨rfl,rfl,λS hS ho=>{ho with ra:=ho.ra}⟩
  have b9:=d.size;exact ζq rfl func43 (Xl.cell rfl rfl rfl a5 rfl (.tmp rfl (.tmp rfl .nil))) ⟨M,x.1,x.2,rfl,(((((q1.chg B).far hG L).chg C).far (U b (Xg g)) E).far (U qb (Xg m)) O),λb' off' s' e=>⟨by have:=(q2 b' off' s' e).1;have:=c.size;omega,by have:=(q2 b' off' s' e).2;have:=B.size;have:=L.size;have:=C.size;have:=E.size;have:=O.size;omega⟩,V,hk,d⟩
 ·have eR:Ca r.c s o i n=s:=by unfold Ca;rw[if_neg p]
  have eB:Di r.c s o i n=[]:=by unfold Di;rw[if_neg p]
  rw[eR,eB];exact ζY ϱ (by simpa using p) (ζl g ϱ (ζs m ϱ λw4 a7 ak ba=>ζR func43 a7 ϱ ⟨r,none,0,rfl,Rd.nil _ _ _,(by intro b off s e;cases e),.self h (c.since ak (λz K e=>by omega))⟩))
theorem Xcx{r x:RA}(hal:Yp w r.a)(hpos:0<r.bs.length)(hw':Xc Xe w w')(x2:x.bs=Qz c q r.bs i l l.length)(x3:x.steps=r.steps+X8 c q i l.length)(x4:Z4 w2 x)(x5:E5 w' r.a x.a):Ff c w r q i l x w2/\∀b,w.heap.size<=b->(b<w'.heap.size\/w2.heap.size<=b)->Xj (λz=>z=b) x.a:=by
 have a:0<x.bs.length:=by rw[x2,Gq];exact hpos
 refine⟨⟨x2,x3,x4,?_,λb' off' s' e=>x4.rd.block a e⟩,λb j f b' off' s' e k=>?_⟩
 ·exact x5.imp id (λ⟨g,off,e,d⟩=>⟨g,off,e,by have:=hw'.size;omega⟩)
 ·have h:=x4.rd.block a e;rcases x5 with e'|⟨g,off,e',d⟩
  ·have:=hal b' off' s' (e'▸e);omega
  ·rw[e'] at e;cases e;omega
theorem Xd4(h:s.OkP c pd){t:ThM}(ht:s.th[o]?=some (some t))(hm:Xo s t.q.cls=some m):t.size<=m.size:=by
 obtain⟨k,ek,_,a⟩:=Qt hm;exact Pv h a ht ek
theorem W6(h:s.OkP c pd):0<s.bs.length:=by
 have a:=Yq h.may;have b:1*64<=c.pages*c.size:=ZG (by have:=a.pages;omega) (by have:=a.size;omega) (by omega) (by have:=a.pages;omega);rw[YB c.pages] at b;rw[<-h.bl] at b;omega
theorem Xln(h:X6 w r s)(hs:s.Ok r.c)(o i:Int)(a:Option Addr)(cap:Nat)(l:List Int)(hi : -9223372036854775808<=i/\i<=9223372036854775807)(hr:Rd .u8 w a l)(hl:l.length<=9223372036854775807)(hin:Qq l)(ht:0<=s.rm.tot/\s.rm.tot<=999900000000):Xf prog 44 #[.agg (Zz r).toArray,.int .i64 o,.int .i64 i,.slice a l.length cap] w
 (λv w'=>∃r',v=.tuple #[.agg (Zz r').toArray,.int .i64 (Qp s o i l.length)]/\Cy w r (Cw r.c s o i l) r' w'):=by
 have A:=hs.may;have aj:=W6 hs;refine ζe func44 ntmps44 ϱ (ζn ϱ λb w1 e1 hb ak bo=>ζn ϱ λqb L e2 a4 a5 bp=>?_);have a6:=a5.heap' hb;have B:=ak.trans a5;have lq:=Xg a4;refine ζl a6 ϱ (ζv (Xfx (h.grow B) hs o i l.length hi (by omega)) ϱ λI C=>?_);have u:=C.heap' a6;have M:=C.heap' a4;have d:=B.trans C;have z3:=C.size;by_cases N:Qp s o i l.length=0
 ·obtain⟨j,t,i',n',rfl,y,rfl,en,h5,al,am⟩:=Vn hs N;obtain rfl:l.length=n':=by omega
  have U:=h.grow d;obtain⟨bq,⟨_,J⟩,p1,p2,a0,off,eta,_,_,a7⟩:=U.trowP y;obtain⟨q,eq⟩:∃q:Plc,q=r.ts[j].q:=⟨_,rfl⟩;rw[<-eq] at J p1 p2 a7;have ao:q.pages.length<=4096:=by have e:q.pages=t.q.pages:=congrArg PlcM.pages J;rw[e];exact am
  have ab:Qw r.c q i' l.length=0:=by rw[Xae,J];exact al
  have eW:Cw r.c s (j:Nat) (i':Nat) l=Q0 (Ya r.c s t.q i' l) (j:Nat) i' l.length:=by unfold Cw;rw[if_pos N,Y8 y,XA]
  have ap:(r.ra.bs.length:Int)=r.c.size*r.c.pages:=by rw[h.rb];exact hs.bl
  have O:=h.rs;have aq:=I4 (q:=q) (at':=i') (n:=l.length) A;have b6:0<=X8 r.c t.q.plc i' l.length/\X8 r.c t.q.plc i' l.length<=2*l.length+1:=by have:=aq;rw[Hf,J] at this;exact this
  have br:=(hs.size j t y).2;have bt:=(Yq A).most;have a8:Xx s.rm.tot (X8 r.c t.q.plc i' l.length)=s.rm.tot+X8 r.c t.q.plc i' l.length:=Bn (by omega);rw[eW,N];refine ζf ϱ ?_;have hd:∀w',Xc Xe I w'->Xf prog 100 #[.agg (Q9 r.c r.cp r.ra).toArray,.agg (Xv q).toArray,.int .i64 (i':Nat),.slice a l.length cap] w' (λv L=>Xc Xe w' L/\∃x,v=Hz r.c r.cp x/\Ff r.c I r.ra q i' l x L/\∀b,I.heap.size<=b->(b<w'.heap.size\/L.heap.size<=b)->Xj (λz=>z=b) x.a):=λw' c=>
   (Xbx r.c r.cp r.ra q i' a cap l w' ((U.grow c).conf) (p1.grow c) A ao ab ((U.grow c).ra) ap (by rw[O];omega) (hr.chg (d.trans c)) hin).mono λv L ⟨x,x1,x2,x3,x4,x5,x6⟩=>
    ⟨x6,x,x1,Xcx U.la (by rw[h.rb];exact aj) c x2 x3 x4 x5⟩
  refine ζd 16 Xe (by kernel_rfl) ϱ λf=>δl f u ϱ (δv f (λw' c=>(Kz (w:=w') (r:=r))) ϱ (δl f u ϱ ?_));rw[eta];refine δi (j*5) f ϱ (Xd.loadC Xb f ((Xv q)) rfl (by first|rfl|(simp;done)|(simp[*];done)|(simp;omega)) (a7) (by first|exact λh=>h|(intro h;omega)|assumption) rfl (Xd.callAllocG (Hz r.c r.cp) (Ff r.c I r.ra q i' l) ((λx b=>Xj (λz=>z=b) x.a)) Xb f rfl rfl rfl (λ_=>rfl) rfl (λ_=>rfl) (λ_=>rfl) rfl rfl (λ_ _=>rfl) rfl (λ_ _=>rfl) (hd) (O4) ((λ_ h=>h.elim)) ?_));rintro nb x w4 bu ar au ⟨q1,q2,V,q4,q5⟩ hG;refine Xd.turn1 f rfl λw5 D=>Xr.store Xb f rfl (D.heap' ar) (by first|(intro h;exact rfl)|(intro h;omega)) rfl rfl rfl λw6 ac P bv=>δn f ϱ λw7 E=>?_;have ad:=(au.trans D).since P (λz W e=>by omega);have k:=ad.trans E;have ae:=d.trans k;have z7:=k.size;have p:Z4 w6 x:=⟨((V.grow D).rd).far hG P,V.len,V.lc,V.rng⟩;have af:=(q5.grow D.size).grow P.size;have ag:=E.heap' ac;have aw:=k.heap' u;refine ζl ag ϱ (ζs aw ϱ λw8 Q F bw=>?_);obtain⟨K,G⟩:∃K:SR,K={r with ra:=x}:=⟨_,rfl⟩;replace Q:Zf w8 b K:=by rw[G];exact Q
  have R:=ae.since F (λz W e=>by omega);have a1:∀b',w.heap.size<=b'->b'<I.heap.size->Xj (λz=>z=b') x.a:=λb' h1 h2 b'' off' s' e W=>by
   rcases q4 with e'|⟨g,off,e',hg⟩
   ·have:=h.la b'' off' s' (e'▸e);omega
   ·rw[e'] at e;cases e;omega
  have ah:Z4 w8 x:=⟨((p.grow E).rd).far (a1 b (by omega) (Xg u)) F,p.len,p.lc,p.rng⟩;have a9:=h.putRa R (ra:=x) (bs:=Qz r.c t.q.plc s.bs i' l l.length) (t:=Xx s.rm.tot (X8 r.c t.q.plc i' l.length)) ah (by rw[q1,h.rb,<-J,<-Jw]) (by rw[q2,O,<-J,<-Hf,Bn (by omega)]) ((af.grow E.size).grow F.size);rw[<-G] at a9;have ay:K.c=r.c:=by rw[G]
  have az:Zy I r K:=by
   rw[G];exact⟨rfl,rfl,λS hS ho=>{ho with ra:=ho.ra.newer q4 hS}⟩
  have b1:(Ya r.c s t.q i' l).OkP K.c none:=by rw[ay];exact StM.OkP.put hs _ _ hin
  refine ζl Q ϱ (ζc ϱ (Xfy a9 b1 j (show(Ya r.c s t.q i' l).th[j]?=some (some t) from y) i' l.length (λm hm=>by have:=Xd4 hs y (show Xo s t.q.cls=some m from hm);omega) ⟨by show 0<=Xx s.rm.tot _;rw[a8];omega,by show Xx s.rm.tot _<=_;rw[a8];omega⟩) ?_);rintro _ w9 ⟨r9,rfl,h9⟩;refine ζa ϱ ?_;refine ζs (h9.2.2.heap' (F.heap (k.heap' M) (by omega))) ϱ λbx a3 T bn=>?_;have H:=(R.trans h9.2.2).since T (λz W e=>by omega);have aa:=(az.back z3).trans h9.2.1 (by omega);exact ζR func44 a3 ϱ ⟨r9,rfl,h.box aa h9.1 (by omega) (by omega) T H,aa.back B.size,H⟩
 ·have eW:Cw r.c s o i l=s:=by unfold Cw;rw[if_neg N]
  rw[eW];exact ζY ϱ (by simpa using N) (ζl u ϱ (ζs M ϱ λw4 ai b2 bz=>ζR func44 ai ϱ ⟨r,rfl,.self h (d.since b2 (λz W e=>by omega))⟩))
section
variable {c:Conf}{s:StM}{pd:Option (Nat×PlcM)}
theorem Xm2(h:s.OkP c pd)(o size:Int)(ht:0<=s.rm.tot/\s.rm.tot<=1000000000000):0<=(Zg c s o size).rm.tot/\(Zg c s o size).rm.tot<=s.rm.tot+10000:=by
 unfold Zg;cases b:Cd c s size with
 |none=>
  obtain⟨a,d,f⟩:=Xdo h.rm o size;show 0<=(Aa c s.rm o size).tot/\(Aa c s.rm o size).tot<=_
  rw[<-a];show 0<=Xx s.rm.tot _/\Xx s.rm.tot _<=_
  rw[Bn (by omega)];omega
 |some m=>
  show 0<=Xx (Qe s.rm _ m.pt m.ta o).tot 3/\Xx (Qe s.rm _ m.pt m.ta o).tot 3<=_
  have e:(Qe s.rm (Xk c.classes size) m.pt m.ta o).tot=s.rm.tot:=by unfold Qe;split <;> rfl
  rw[e,Bn (by omega)];omega
theorem Oz(hm:Ze c=true)(q:PlcM)(i:Nat)(l:List Int)(ht:0<=s.rm.tot/\s.rm.tot<=1000000000000)(hl:l.length<=25000000):0<=(Ya c s q i l).rm.tot/\(Ya c s q i l).rm.tot<=s.rm.tot+2*l.length+1:=by
 have:=I4 (q:=q.plc) (at':=i) (n:=l.length) hm;show 0<=Xx s.rm.tot _/\Xx s.rm.tot _<=_
 rw[Bn (by omega)];omega
theorem Xcd(h:s.OkP c pd)(o:Nat)(ho:o<s.th.length)(size:Int)(hL:(Yw c s (o:Nat) size).OkP c pd2)(ht:0<=s.rm.tot/\s.rm.tot<=999999900000):0<=(Yw c s (o:Nat) size).rm.tot/\(Yw c s (o:Nat) size).rm.tot<=s.rm.tot+50020000:=by
 have b:=Xm2 h (o:Nat) size ⟨ht.1,by omega⟩;have a:(Yw c s (o:Nat) size).th[o]?=some (some ⟨size,Zd c s (o:Nat) size⟩):=by
  show(s.th.set (o:Int).toNat _)[o]?=_
  rw[XA,XF ho]
 obtain⟨pv,ph,pf⟩:=Ii hL a;have e:=G6 (c:=c) (q:=(Zd c s (o:Nat) size).plc) h.may pf;have d:=Oz (s:=Zg c s (o:Nat) size) h.may (Zd c s (o:Nat) size) 0 (Xz (Z2 c (Zd c s (o:Nat) size).plc).toNat) ⟨b.1,by omega⟩ (by rw[Dm];omega);rw[Dm] at d;show 0<=(Ya c (Zg c s (o:Nat) size) _ _ _).rm.tot/\(Ya c (Zg c s (o:Nat) size) _ _ _).rm.tot<=_
 omega
end
set_option maxHeartbeats 1000000 in
theorem Xlk{s:StM}(h:X6 w r s)(hs:s.Ok r.c)(o size:Int)(hz : -9223372036854775808<=size/\size<=9223372036854775807)(ht:0<=s.rm.tot/\s.rm.tot<=999900000000):Xf prog 42 #[.agg (Zz r).toArray,.int .i64 o,.int .i64 size] w
 (λv w'=>∃r',v=.tuple #[.agg (Zz r').toArray,.int .i64 (B0 r.c s o size)]/\Cy w r (Ao r.c s o size) r' w'):=by
 have F:=hs.may;have hq:=W6 hs;have kg:=(Yq F).most;refine Xf.enter func42 rfl ntmps42 rfl rfl ?_;refine ζa rfl ?_;refine Xa.alloc Xb rfl ?_;intro b w1 e1 hb hr kh;refine ζa rfl ?_;refine Xa.alloc Xb rfl ?_;intro qb D e2 cu fr ki;refine ζa rfl ?_;replace hb:Zf w1 b r:=hb;have fs:=fr.heap' hb;have c9:=hr.trans fr;have z2:=c9.size;have lq:=Xg cu;have lb:=Xg hb;refine Xa.loads Xb rfl fs rfl rfl ?_;refine ζc rfl (Ui (h.grow c9) hs o) ?_;rintro _ w3 ⟨rfl,bw⟩;refine ζa rfl ?_;have d9:=bw.heap' fs;have da:=bw.heap' cu;have db:=c9.trans bw;have no:∀{e:Int},B0 r.c s o size=e->e≠0->Ao r.c s o size=s:=λe1 e2=>by unfold Ao;rw[if_pos (by rw[e1];exact e2)]
 by_cases g0:Yl s o=0
 ·obtain⟨j,t,rfl,u⟩:=Ig g0;rw[g0];refine Xa.no Xb rfl rfl rfl ?_;refine Xa.loads Xb rfl d9 rfl rfl ?_;refine ζc rfl (Xbr r.c r.cp size w3) ?_;rintro _ w4 ⟨rfl,bx⟩;refine ζa rfl ?_;have bz:=bx.heap' d9;have dc:=bx.heap' da;have be:=db.trans bx;by_cases gr:size<1\/r.c.most<size
  ·have e:B0 r.c s (j:Nat) size=3:=by unfold B0;rw[if_neg (λe=>e g0),if_pos gr]
   rw[no e (by decide),e];have eb:(decide (1<=size) && decide (size<=r.c.most))=false:=by
    rw[Bool.and_eq_false_iff,decide_eq_false_iff_not,decide_eq_false_iff_not];omega
   rw[eb];refine Xa.yes Xb rfl rfl rfl ?_;have cb:=bz;have cc:=dc;have cd:=be;have gb:=Xg cu;refine Xa.loads Xb rfl cb rfl rfl ?_;refine Xa.store Xb rfl cc rfl rfl ?_;intro wr dd de hu;refine ζa rfl ?_;exact ζq rfl func42 (Xl.cell rfl rfl rfl dd rfl (.tmp rfl .nil)) ⟨r,rfl,.self h (cd.since de (λz hz e=>by omega))⟩
  ·have e:B0 r.c s (j:Nat) size=if Ap r.c t.size size=true then 0 else Qx r.c s size:=by unfold B0;rw[if_neg (λe=>e g0),if_neg gr,Ds u]
   have eb:(decide (1<=size) && decide (size<=r.c.most))=true:=by
    rw[XJ,decide_eq_true_iff,decide_eq_true_iff];omega
   rw[eb];have kj:=hs.size j t u;have h4:=h.grow be;obtain⟨kk,⟨v1,v2⟩,p1,p2,a0,off,eta,hw,_,ft⟩:=h4.trowP u;obtain⟨q,eq⟩:∃q:Plc,q=r.ts[j].q:=⟨_,rfl⟩;rw[<-eq] at v2 p1 p2 ft;refine Xa.no Xb rfl rfl rfl ?_;refine Xa.loadb Xb rfl bz rfl rfl ?_;rw[eta];refine Xa.index Xb rfl (j:=(j*5)) (by omega) (by omega) (by first|rfl|omega|(simp;done)|(simp;omega)) rfl ?_;refine ζk rfl (hw _ rfl) rfl ?_;rw[v1];refine Xa.loadb Xb rfl bz rfl rfl ?_;rw[eta];refine Xa.index Xb rfl (j:=(j*5)) (by omega) (by omega) (by first|rfl|omega|(simp;done)|(simp;omega)) rfl ?_;refine Xa.loadC Xb ((Xv q)) rfl (by first|rfl|(simp;done)|(simp[*];done)|(simp;omega)) (ft) rfl ?_;rw[<-eta];refine Xa.alloc Xb rfl ?_;intro pb w5 e5 gd hx kl;refine ζa rfl ?_;refine Xa.store Xb rfl gd rfl rfl ?_;intro w6 cf i0 km;refine ζa rfl ?_;replace cf:w6.heap[pb]?=some (.cells (Xv q).toArray 98 (0,0)):=cf;have cg:Xc Xe w4 w6:=hx.since i0 (λz hz e=>by omega);have ge:=be.trans cg;have i1:=cg.heap' bz;refine Xa.loads Xb rfl i1 rfl rfl ?_;refine ζc rfl (Xlo (h.grow ge) hs t.size size (by omega) hz.2) ?_;rintro _ w7 ⟨rfl,df⟩;refine ζa rfl ?_;have jd:=df;have K:=cg.trans df;have ah:=be.trans K;have cv:=K.heap' bz;have ch:=K.heap' dc;have ci:=df.heap' cf;have i2:q.pages.length<=4096:=by have e:q.pages=t.q.pages:=congrArg PlcM.pages v2;rw[e];exact(Ii hs u).2.2
   by_cases O:Ap r.c t.size size=true
   ·rw[if_pos O] at e;have eR:Ao r.c s (j:Nat) size=if size<t.size then Q0 (Dk (Ya r.c s t.q size.toNat (Xz (t.size-size).toNat)) (j:Nat) ⟨size,t.q⟩) (j:Nat) size.toNat (t.size-size).toNat else Dk s (j:Nat) ⟨size,t.q⟩:=by
     unfold Ao;rw[if_neg (λg=>g e),Ds u,Y8 u,if_pos O]
    rw[O,e,eR];refine Xa.yes Xb rfl rfl rfl ?_;have dg:=(List.getElem?_eq_some_iff.1 u).1;have h7:=h.grow ah;refine Xa.loads Xb rfl cv rfl rfl ?_;refine Xa.loads Xb rfl ci rfl rfl ?_;refine Xa.build Xb rfl rfl ?_;refine ζc rfl (Om h7 (Ml hs) j dg ⟨size,q⟩ (some ⟨size,t.q⟩) ⟨rfl,λy e=>by cases e;exact v2⟩ ⟨p1.grow K,p2.grow K.size⟩) ?_;rintro _ w8 ⟨r8,rfl,h8,⟨fu,fv,i3⟩,U⟩;refine ζa rfl ?_;have fw:Zy w7 r r8:=⟨fu,fv,λS hS ho=>i3 S hS ho (by have:=ho.tq r.ts[j] (XL _);rw[<-eq] at this;exact this)⟩;refine Xa.alloc Xb rfl ?_;intro nb w9 e9 gh ba kn;refine ζa rfl ?_;refine Xa.store Xb rfl gh rfl rfl ?_;intro V G bg di;refine ζa rfl ?_;replace G:Zf V nb r8:=G;have ao:Xc Xe w8 V:=ba.since bg (λz hz e=>by omega);have W:=U.trans ao;have cw:=ah.trans W;have i4:=h8.grow ao;have gi:=W.heap' cv;have eu:=W.heap' ci;have ap:=W.heap' ch;have ko:=ah.size;have fx:D.heap.size<=w7.heap.size:=by have:=bw.size;have:=bx.size;have:=K.size;omega
    have z8:=U.size;have z9:=ba.size;have kp:=ao.size;have c0:Zy D r r8:=fw.back fx;by_cases cx:size<t.size
    ·rw[if_pos cx];obtain⟨sz,rfl⟩:=XE (show 0<=size by omega);obtain⟨d,ed⟩:=XE (show 0<=t.size-sz by omega);rw[ed,XA,XA];obtain⟨pv,ph,pf⟩:=Ii hs u;have i6:Qw r.c q sz d=0:=Km v2 (Gl pv (by omega) (by omega) (by omega));have i7:(r.ra.bs.length:Int)=r.c.size*r.c.pages:=by rw[h.rb];exact hs.bl
     have dj:r.ra.steps=s.rm.tot:=h.rs;have ck:=h.grow cw;have hd:∀w',Xc Xe V w'->Xf prog 96 #[.agg (Q9 r.c r.cp r.ra).toArray,.agg (Xv q).toArray,.int .i64 (sz:Nat),.int .i64 (d:Nat)] w' (λv D=>Xc Xe w' D/\∃x,v=Hz r.c r.cp x/\Ff r.c V r.ra q sz (Xz d) x D/\∀b,V.heap.size<=b->(b<w'.heap.size\/D.heap.size<=b)->Xj (λz=>z=b) x.a):=λw' k=>
      (Ug r.c r.cp r.ra q sz d w' ((ck.grow k).conf) ((p1.grow (K.trans W)).grow k) F i2 i6 ((ck.grow k).ra) i7 (by rw[dj];omega)).mono λv D ⟨x,x1,x2,x3,x4,x5,x6⟩=>
       ⟨x6,x,x1,Xcx ck.la (by rw[h.rb];exact hq) k (by rw[Dm];exact x2) (by rw[Dm];exact x3) x4 x5⟩
     refine Xa.yes Xb rfl (decide_eq_true cx) rfl ?_;refine Xa.drawn (q:=13) Xe Xb Xp (by kernel_rfl) rfl ?_;intro f;refine Xd.loads Xb f rfl gi (by first|exact λh=>h|(intro h;omega)|assumption) rfl rfl ?_;refine Xd.call Xb f rfl (λw' k=>(Kz (w:=w') (r:=r))) rfl ?_;refine Xd.loads Xb f rfl eu (by first|exact λh=>h|(intro h;omega)|assumption) rfl rfl ?_;refine Xd.arith Xb f rfl (w64 (by omega)) rfl ?_;rw[ed];refine Xd.callAllocG (Hz r.c r.cp) (Ff r.c V r.ra q sz (Xz d)) ((λx b=>Xj (λz=>z=b) x.a)) Xb f rfl rfl rfl (λ_=>rfl) rfl (λ_=>rfl) (λ_=>rfl) rfl rfl (λ_ _=>rfl) rfl (λ_ _=>rfl) (hd) (O4) ((λ_ h=>h.elim)) ?_;rintro mb x c6 i8 dl dm ⟨C,N,q3,q4,q5⟩ hG;refine Xd.turn1 f rfl ?_;intro ia ai;refine Xr.store Xb f rfl (ai.heap' dl) (by first|(intro h;exact rfl)|(intro h;omega)) rfl rfl rfl ?_;intro J bh az gm;refine Xd.nil f ?_;intro fy R;refine ζa rfl ?_;replace bh:J.heap[mb]?=some (.cells (Q9 r.c r.cp x).toArray 144 (0,0)):=bh;have j3:=dm.size;have dn:Xc Xe V J:=(dm.trans ai).since az (λz hz e=>by omega);have a7:=dn.trans R;have ex:Z4 J x:=⟨((q3.grow ai).rd).far hG az,q3.len,q3.lc,q3.rng⟩;have aq:=ex.grow R;have ey:Yp fy x.a:=((q5.grow ai.size).grow az.size).grow R.size;have ez:=R.heap' bh;have f0:=a7.heap' G;refine Xa.loads Xb rfl ez rfl rfl ?_;refine Xa.store Xb rfl f0 rfl rfl ?_;intro c7 ar bi jj;refine ζa rfl ?_;obtain⟨a8,b2⟩:∃a8:SR,a8={r8 with ra:=x}:=⟨_,rfl⟩;replace ar:Zf c7 nb a8:=by rw[b2];exact ar
     have lnb:=Xg G;have au:Xj (λz=>z=nb) x.a:=λb'' off' s' e hz=>by
      rcases q4 with e'|⟨g,off,e',hg⟩
      ·have:=h.la b'' off' s' (e'▸e);omega
      ·rw[e'] at e;cases e;omega
     have kq:=a7.size;have bj:Xc Xe w8 c7:=(ao.trans a7).since bi (λz hz e=>by omega);have f1:Z4 c7 x:=⟨aq.rd.far au bi,aq.len,aq.lc,aq.rng⟩;have ib:=I4 (q:=q) (at':=sz) (n:=d) F;have bk:=h8.putRa bj (ra:=x) (bs:=Qz r.c t.q.plc s.bs sz (Xz d) (Xz d).length) (t:=Xx s.rm.tot (X8 r.c t.q.plc sz (Xz d).length)) f1 (by rw[C,h.rb,<-v2,<-Jw]) (by rw[N,dj,Dm,<-v2,<-Hf,Bn (by omega)]) (ey.grow bi.size);rw[<-b2] at bk;replace bk:X6 c7 a8 (Dk (Ya r.c s t.q sz (Xz d)) (j:Nat) ⟨(sz:Nat),t.q⟩):=bk;have b3:a8.c=r.c/\a8.cp=r.cp:=by rw[b2];exact⟨fu,fv⟩
     have gn:Zy w7 r a8:=⟨b3.1,b3.2,λS hS ho=>by
      have h1:=fw.2.2 S hS ho;rw[b2];exact {h1 with ra:=ho.ra.newer q4 (λz hz=>by have:=hS z hz;omega)}⟩
     have gq:Aq (λz=>z=nb) a8:=by
      have h1:Aq (λz=>z=nb) r8:=h8.out (λz e=>by omega);rw[b2];exact {h1 with ra:=au}
     have ic:(Dk (Ya r.c s t.q sz (Xz d)) (j:Nat) ⟨(sz:Nat),t.q⟩).OkP a8.c none:=by
      rw[b3.1];exact StM.OkP.sized (StM.OkP.put hs t.q sz (Se d)) (o:=j) (t:=t) u O (by omega)
     have dp:=Oz (s:=s) F t.q sz (Xz d) ⟨ht.1,by omega⟩ (by rw[Dm];omega);rw[Dm] at dp;have gs:(Dk (Ya r.c s t.q sz (Xz d)) (j:Nat) ⟨(sz:Nat),t.q⟩).th[j]?=some (some ⟨(sz:Nat),t.q⟩):=by
      show(s.th.set (j:Int).toNat _)[j]?=_
      rw[XA,XF dg]
     refine Xa.loads Xb rfl ar rfl rfl ?_;refine Xa.arith Xb rfl (w64 (by omega)) rfl ?_;rw[ed];refine ζc rfl (Xfy bk ic j gs sz d (λm hm=>by have:=Xd4 hs u (show Xo s t.q.cls=some m from hm);omega) ⟨dp.1,by show(Ya r.c s t.q sz (Xz d)).rm.tot<=_;omega⟩) ?_;rintro _ dq ⟨fz,rfl,a9⟩;refine ζa rfl ?_;have f2:=U.trans bj;have kr:=Xg ch;have f3:=bi.heap (a7.heap' ap) (by omega);have f4:=f2.trans a9.2.2;have jm:=bj.size;have jn:=a9.2.2.size;refine Xa.store Xb rfl (a9.2.2.heap' ar) rfl rfl ?_;intro cy aa cl jo;refine ζa rfl ?_;replace aa:Zf cy nb fz:=aa;have cz:Xc Xe w cy:=(ah.trans f4).since cl (λz hz e=>by omega);have jp:=bg.size;have ie:=a9.1.far (a9.2.1.2.2 _ (λz e=>by omega) gq) (by have:=h.conf.chg cz;rw[a9.2.1.1,a9.2.1.2.1,b3.1,b3.2];exact this) cl;have f5:=cl.heap (a9.2.2.heap' f3) (by omega);have dr:Zy D r fz:=(gn.back fx).trans a9.2.1 (by omega);refine Xa.loads Xb rfl aa rfl rfl ?_;refine Xa.store Xb rfl f5 rfl rfl ?_;intro wz ds c8 ig;refine ζa rfl ?_;have b4:Xc Xe w wz:=(cz).since c8 (λz hz e=>by omega);exact ζq rfl func42 (Xl.cell rfl rfl rfl ds rfl (.tmp rfl .nil)) ⟨_,rfl,h.box dr ie (by omega) (by omega) c8 b4,Zy.back dr z2,b4⟩
    ·rw[if_neg cx];refine Xa.no Xb rfl (decide_eq_false cx) rfl ?_;refine Xa.loads Xb rfl G rfl rfl ?_;refine Xa.store Xb rfl ap rfl rfl ?_;intro wz ds c8 ig;refine ζa rfl ?_;have b4:Xc Xe w wz:=(cw).since c8 (λz hz e=>by omega);exact ζq rfl func42 (Xl.cell rfl rfl rfl ds rfl (.tmp rfl .nil)) ⟨_,rfl,h.box c0 i4 (by omega) (by omega) c8 b4,Zy.back c0 z2,b4⟩
   ·replace O:Ap r.c t.size size=false:=by simpa using O
    rw[if_neg (by rw[O];decide)] at e;rw[O,e];refine Xa.no Xb rfl rfl rfl ?_;refine Xa.loads Xb rfl cv rfl rfl ?_;refine ζc rfl (Uh (h.grow ah) hs size) ?_;rintro _ w8 ⟨rfl,U⟩;refine ζa rfl ?_;have gt:=U;have aj:=ah.trans U;have dt:=U.heap' cv;have cm:=U.heap' ch;by_cases hf:Qx r.c s size=0
    ·rw[hf];refine Xa.no Xb rfl rfl rfl ?_;have dg:=(List.getElem?_eq_some_iff.1 u).1;have ev:q.cls=t.q.cls:=congrArg PlcM.cls v2;obtain⟨t',M1,M2,M3,M4,M5,M6,M7,M8⟩:=N6 hs u O hf;have ii:=Vi hs t.q.cls ⟨ht.1,by omega⟩;obtain⟨s1,d0⟩:∃s1,s1=Zi s t.q.cls:=⟨_,rfl⟩;obtain⟨m,em⟩:=XE (show 0<=min t.size size by omega);have eM:Ao r.c s (j:Nat) size=A4 r.c (Ya r.c (Yw r.c (Y6 s1 (X8 r.c t'.q.plc 0 m)) (j:Nat) size) (Yz (Yw r.c (Y6 s1 (X8 r.c t'.q.plc 0 m)) (j:Nat) size) (j:Nat)) 0 (Yr r.c t'.q.plc s1.bs 0 m)) t'.q:=by
      unfold Ao;rw[if_neg (λg=>g (e.trans hf)),Ds u,if_neg (by rw[O];decide)];unfold Hw;simp only
      rw[Y8 u,Ds u,<-d0,Y8 (d0▸M2),em,XA]
     rw[em,XA] at M8;rw[<-d0] at M1 M2 M6 M7 M8 ii;rw[eM];have gu:=U.heap' ci;refine Xa.loads Xb rfl dt rfl rfl ?_;refine Xa.loadb Xb rfl gu rfl rfl ?_;rw[ev];refine ζc rfl (Xfu (h.grow aj) hs t.q.cls ⟨ht.1,by omega⟩) ?_;rintro _ w9 ⟨i,rfl,H⟩;refine ζa rfl ?_;rw[<-d0] at H;refine Xa.alloc Xb rfl ?_;intro nb V ks G gv di;refine ζa rfl ?_;refine Xa.store Xb rfl G rfl rfl ?_;intro c6 ac gw jr;refine ζa rfl ?_;replace ac:Zf c6 nb i:=ac;have av:Xc Xe w9 c6:=gv.since gw (λz hz e=>by omega);have g1:=H.1.grow av;have cn:Aq (λz=>z=nb) i:=H.1.out (λz e=>by omega);have noN:∀{a b:World},Xc Xe a b->Xc (λz=>z=nb) a b:=λh=>h.gr;have d1:=H.2.2.trans av;have j4:=aj.trans d1;have f6:=d1.heap' cm;have bb:i.c=r.c:=H.2.1.1;have lnb:=Xg ac;have kt:=aj.size;have ij:D.heap.size<=w8.heap.size:=by have:=bw.size;have:=bx.size;have:=K.size;have:=gt.size;omega
     have z9:=H.2.2.size;have js:=av.size;obtain⟨ku,⟨y1,y2⟩,p3,p4,b0,ju,dx,_,_,dy⟩:=g1.trowP M2;obtain⟨C,g2⟩:∃C:Plc,C=i.ts[j].q:=⟨_,rfl⟩;have im:Xj (λz=>z=nb) C.pa:=by rw[g2];exact cn.tq _ (XL _)
     rw[<-g2] at y2 p3 p4 dy;refine Xa.loadb Xb rfl ac rfl rfl ?_;rw[dx];refine Xa.index Xb rfl (j:=(j*5)) (by omega) (by omega) (by first|rfl|omega|(simp;done)|(simp;omega)) rfl ?_;refine Xa.loadC Xb ((Xv C)) rfl (by first|rfl|(simp;done)|(simp[*];done)|(simp;omega)) (dy) rfl ?_;rw[<-dx];refine Xa.alloc Xb rfl ?_;intro kb ia kv f8 ai jv;refine ζa rfl ?_;refine Xa.store Xb rfl f8 rfl rfl ?_;intro J ad az gm;refine ζa rfl ?_;replace ad:J.heap[kb]?=some (.cells (Xv C).toArray 98 (0,0)):=ad;have A:Xc Xe c6 J:=ai.since az (λz hz e=>by omega);have g3:=g1.grow A;have d2:=A.heap' ac;have j5:=A.size;obtain⟨pv,ph,pf⟩:=Ii M1 M2;have gx:C.pages.length<=4096:=by have e:C.pages=t'.q.pages:=congrArg PlcM.pages y2;rw[e];exact pf
     have kw:(m:Int)<=t.size/\(m:Int)<=size/\1<=m:=by omega
     have gy:Qw i.c C (0:Nat) m=0:=by rw[bb];exact Km y2 (Gl pv (by omega) (by omega) (by omega))
     have gz:(i.ra.bs.length:Int)=i.c.size*i.c.pages:=by rw[H.1.rb,bb];exact M1.bl
     have dz:i.ra.steps=s1.rm.tot:=H.1.rs;have ib:=I4 (q:=C) (at':=0) (n:=m) F;obtain⟨l,el⟩:∃l,l=Yr r.c t'.q.plc s1.bs 0 m:=⟨_,rfl⟩;have e0:l.length=m:=by rw[el];unfold Yr;simp
     have elq:Yr i.c C i.ra.bs 0 m=l:=by rw[bb,H.1.rb,Xcb r.c C,y2,el]
     have e3:Qq l:=by rw[el];exact Ms M1.bi _ _
     obtain⟨ra',era⟩:∃ra':RA,ra'={i.ra with steps:=i.ra.steps+X8 i.c C 0 m}:=⟨_,rfl⟩;have hd:∀w',Xc Xe J w'->Xf prog 99 #[.agg (Q9 i.c i.cp i.ra).toArray,.agg (Xv C).toArray,.int .i64 0,.int .i64 (m:Nat)] w' (λv D=>Xc Xe w' D/\∃x,v=Uc i.c i.cp ra' m x/\Oi l J.heap.size x D/\∀b,J.heap.size<=b->(b<w'.heap.size\/D.heap.size<=b)->Xj (λz=>z=b) x.1):=λw' k=>
      (Xfq i.c i.cp i.ra C 0 m w' ((g3.grow k).conf) (p3.grow (A.trans k)) (by rw[bb];exact F) gx gy ((g3.grow k).ra) gz (by rw[dz];omega)).mono λv D ⟨u1,x1,x2,x3⟩=>by
       rw[elq] at x2;obtain⟨a,cap,rfl,y1,y2⟩:=x2.rd8 e0;have:=k.size;exact⟨x3,(a,cap),by rw[x1,era],⟨y1,λb off s' e=>⟨by have:=(y2 b off s' e).1;omega,(y2 b off s' e).2⟩⟩,λb hb kx b' off' s' e hz=>by have:=y2 b' off' s' e;omega⟩
     have emin:(if size<t.size then size else t.size)=(m:Int):=by rw[<-em];split <;> omega
     refine Xa.drawn (q:=14) Xe Xb Xp (by kernel_rfl) rfl ?_;intro f;refine Xd.loads Xb f rfl d2 (by first|exact λh=>h|(intro h;omega)|assumption) rfl rfl ?_;refine Xd.call Xb f rfl (λw' k=>(Kz (w:=w') (r:=i))) rfl ?_;refine Xd.loads Xb f rfl ad (by first|exact λh=>h|(intro h;omega)|assumption) rfl rfl ?_;rw[emin];refine Xd.callAllocG (Uc i.c i.cp ra' m) (Oi l J.heap.size) ((λx b=>Xj (λz=>z=b) x.1)) Xb f rfl rfl rfl (λ_=>rfl) rfl (λ_=>rfl) (λ_=>rfl) rfl rfl (λ_ _=>rfl) rfl (λ_ _=>rfl) (hd) (Xfb) ((λ_ h=>h.elim)) ?_;rintro mb x fy i8 dl R ⟨x1,x2⟩ hG;refine Xd.turn1 f rfl ?_;intro c7 co;refine Xr.store Xb f rfl (co.heap' dl) (by first|(intro h;exact rfl)|(intro h;omega)) rfl rfl rfl ?_;intro dq bl e4 jw;refine Xd.nil f ?_;intro cy cp;refine ζa rfl ?_;replace bl:dq.heap[mb]?=some (.cells (Q9 i.c i.cp ra').toArray 144 (0,0)):=bl;have j6:=R.size;have e6:Xc Xe J dq:=(R.trans co).since e4 (λz hz e=>by omega);have E:=e6.trans cp;have j7:=E.size;have g4:∀b',b'<J.heap.size->Xj (λz=>z=b') x.1:=λb' h2 b'' off' s' e hz=>by have:=(x2 b'' off' s' e).1;omega
     have h0:Rd .u8 cy x.1 l:=((x1.chg co).far hG e4).chg cp;have f9:=cp.heap' bl;have aa:=E.heap' d2;have lkb:=Xg ad;refine Xa.loads Xb rfl f9 rfl rfl ?_;refine Xa.store Xb rfl aa rfl rfl ?_;intro b6 ae ak jx;refine ζa rfl ?_;obtain⟨P,al⟩:∃P:SR,P={i with ra:=ra'}:=⟨_,rfl⟩;replace ae:Zf b6 nb P:=by rw[al];rw[era] at ae⊢;exact ae
     have aw:Xc Xe w9 b6:=((av.trans A).trans E).since ak (λz hz e=>by omega);have fa:Z4 b6 ra':=by rw[era];exact⟨(H.1.ra.grow aw).rd,H.1.ra.len,H.1.ra.lc,H.1.ra.rng⟩
     have h3:X8 r.c t'.q.plc 0 m=X8 r.c C 0 m:=by rw[Hf r.c C,y2]
     obtain⟨s2,bc⟩:∃s2,s2=Y6 s1 (X8 r.c t'.q.plc 0 m):=⟨_,rfl⟩;have g5:Xx s1.rm.tot (X8 r.c t'.q.plc 0 m)=s1.rm.tot+X8 r.c t'.q.plc 0 m:=Bn (by omega);have bm:=H.1.putRa aw (ra:=ra') (bs:=s1.bs) (t:=Xx s1.rm.tot (X8 r.c t'.q.plc 0 m)) fa (by rw[era];exact H.1.rb) (by rw[era,g5,h3,<-dz,bb]) (by rw[era];exact H.1.la.grow aw.size);rw[<-al] at bm;replace bm:X6 b6 P s2:=by rw[bc];exact bm
     have b7:P.c=r.c:=by rw[al];exact bb
     have h5:P.cp=r.cp:=by rw[al];exact H.2.1.2.1
     have h6:Zy w9 i P:=by rw[al,era];exact⟨rfl,rfl,λS hS ho=>{ho with ra:=ho.ra}⟩
     have ha:Aq (λz=>z=nb) P:=by rw[al,era];exact {cn with ra:=cn.ra}
     have hc:Rd .u8 b6 x.1 l:=h0.far (g4 nb (by omega)) ak;have e7:Xc (λz=>z=nb) c6 b6:=(noN (A.trans E)).trans ak;have fb:=ak.heap (E.heap' ad) (by omega);have lqb:=Xg cm;have fc:=ak.heap ((A.trans E).heap' f6) (by omega);have g6:0<=s2.rm.tot/\s2.rm.tot<=s.rm.tot+20000+2*m+1:=by
      rw[bc];show 0<=Xx s1.rm.tot _/\Xx s1.rm.tot _<=_
      rw[g5];omega
     rw[<-bc] at M8⊢;have cq:s2.OkP P.c none:=by rw[b7,bc];exact M1.tot _
     have e8:j<s2.th.length:=by rw[bc];exact(List.getElem?_eq_some_iff.1 M2).1
     have fd:Qx P.c s2 size=0:=by rw[b7,bc];exact M7
     refine Xa.loads Xb rfl ae rfl rfl ?_;refine ζc rfl (Xfw bm cq e8 fd (by rw[b7];exact M8) ⟨g6.1,by omega⟩) ?_;rintro _ ky ⟨c,rfl,B⟩;refine ζa rfl ?_;rw[b7] at B cq;have g7:=Xcd cq j e8 size M8 ⟨g6.1,by omega⟩;obtain⟨s3,g8⟩:∃s3,s3=Yw r.c s2 (j:Nat) size:=⟨_,rfl⟩;have bo:s3.th[j]?=some (some ⟨size,Zd r.c s2 (j:Nat) size⟩):=by
      rw[g8];show(s2.th.set (j:Int).toNat _)[j]?=_
      rw[XA,XF e8]
     obtain⟨Q,eQ⟩:∃Q,Q=Zd r.c s2 (j:Nat) size:=⟨_,rfl⟩;rw[<-eQ] at bo;rw[<-g8] at B M8 g7⊢;rw[Y8 bo];have kz:=ak.size;have l0:=B.2.2.size;have fe:=B.2.2.heap' ae;refine Xa.store Xb rfl fe rfl rfl ?_;intro L af T jy;refine ζa rfl ?_;replace af:Zf L nb c:=af;have cr:Aq (λz=>z=nb) c:=B.2.1.2.2 _ (λz e=>by omega) ha;have d3:Xc Xe w9 L:=(aw.trans B.2.2).since T (λz hz e=>by omega);have d4:=(aj.trans H.2.2).trans d3;have M:c.c=r.c:=B.2.1.1.trans b7;have ea:c.cp=r.cp:=B.2.1.2.1.trans h5;have ag:=B.1.far cr (by have:=h.conf.chg d4;rw[M,ea];exact this) T;have ec:Xc (λz=>z=nb) b6 L:=(noN B.2.2).trans T;have he:Rd .u8 L x.1 l:=(hc.chg B.2.2).far (g4 nb (by omega)) T;have ff:=T.heap (B.2.2.heap' fb) (by omega);have fg:=T.heap (B.2.2.heap' fc) (by omega);obtain⟨_,⟨_,y4⟩,p5,p6,b1,k0,hh,_,_,ee⟩:=ag.trowP bo;obtain⟨N,ip⟩:∃N:Plc,N=c.ts[j].q:=⟨_,rfl⟩;rw[<-ip] at y4 p5 p6 ee;replace y4:Xy N=Q:=y4;obtain⟨ef,g9,eg⟩:=Ii M8 bo;replace ef:Yj r.c Q.plc=true:=ef;replace g9:size<=Z2 r.c Q.plc:=g9;replace eg:Q.pages.length<=4096:=eg;have hi:N.pages.length<=4096:=by have e:N.pages=Q.pages:=congrArg PlcM.pages y4;rw[e];exact eg
     subst e0;have hj:Qw c.c N (0:Nat) l.length=0:=by rw[M];exact Km y4 (Gl ef (by omega) (by omega) (by omega))
     have hk:(c.ra.bs.length:Int)=c.c.size*c.c.pages:=by rw[ag.rb,M];exact M8.bl
     have eh:c.ra.steps=s3.rm.tot:=ag.rs;have iq:∀w',Xc Xe L w'->Xf prog 100 #[.agg (Q9 c.c c.cp c.ra).toArray,.agg (Xv N).toArray,.int .i64 0,.slice x.1 l.length x.2] w' (λv D=>Xc Xe w' D/\∃y,v=Hz c.c c.cp y/\Ff c.c L c.ra N 0 l y D/\∀b,L.heap.size<=b->(b<w'.heap.size\/D.heap.size<=b)->Xj (λz=>z=b) y.a):=λw' k=>
      (Xbx c.c c.cp c.ra N 0 x.1 x.2 l w' ((ag.grow k).conf) (p5.grow k) (by rw[M];exact F) hi hj ((ag.grow k).ra) hk (by rw[eh];omega) (he.chg k) e3).mono λv D ⟨y,a1,a2,a3,a4,a5,a6⟩=>
       ⟨a6,y,a1,Xcx ag.la (by rw[ag.rb];exact W6 M8) k a2 a3 a4 a5⟩
     refine Xa.drawn (q:=15) Xe Xb Xp (by kernel_rfl) rfl ?_;intro f;refine Xd.loads Xb f rfl af (by first|exact λh=>h|(intro h;omega)|assumption) rfl rfl ?_;refine Xd.call Xb f rfl (λw' k=>(Kz (w:=w') (r:=c))) rfl ?_;refine Xd.loadb Xb f rfl af (by first|exact λh=>h|(intro h;omega)|assumption) rfl rfl ?_;rw[hh];refine Xd.index Xb f rfl (j:=(j*5)) (by omega) (by omega) (by first|rfl|omega|(simp;done)|(simp;omega)) rfl ?_;refine Xd.loadC Xb f ((Xv N)) rfl (by first|rfl|(simp;done)|(simp[*];done)|(simp;omega)) (ee) (by first|exact λh=>h|(intro h;omega)|assumption) rfl ?_;refine Xd.callAllocG (Hz c.c c.cp) (Ff c.c L c.ra N 0 l) ((λx b=>Xj (λz=>z=b) x.a)) Xb f rfl rfl rfl (λ_=>rfl) rfl (λ_=>rfl) (λ_=>rfl) rfl rfl (λ_ _=>rfl) rfl (λ_ _=>rfl) (iq) (O4) ((λ_ h=>h.elim)) ?_;rintro vb y l1 l2 ir ei ⟨c1,c2,c3,c4,c5⟩ iu;refine Xd.turn1 f rfl ?_;intro l3 bp;refine Xr.store Xb f rfl (bp.heap' ir) (by first|(intro h;exact rfl)|(intro h;omega)) rfl rfl rfl ?_;intro ej bq ct ka;refine Xd.nil f ?_;intro iv br;refine ζa rfl ?_;replace bq:ej.heap[vb]?=some (.cells (Q9 c.c c.cp y).toArray 144 (0,0)):=bq;have l4:=T.size;have l5:=ei.size;have ek:Xc Xe L ej:=(ei.trans bp).since ct (λz hz e=>by omega);have p:=ek.trans br;have l6:=p.size;have fi:Z4 ej y:=⟨((c3.grow bp).rd).far iu ct,c3.len,c3.lc,c3.rng⟩;have ax:=fi.grow br;have fj:Yp iv y.a:=((c5.grow bp.size).grow ct.size).grow br.size;have fk:=br.heap' bq;have fm:=p.heap' af;refine Xa.loads Xb rfl fk rfl rfl ?_;refine Xa.store Xb rfl fm rfl rfl ?_;intro am bt I kc;refine ζa rfl ?_;obtain⟨b8,bu⟩:∃b8:SR,b8={c with ra:=y}:=⟨_,rfl⟩;replace bt:Zf am nb b8:=by rw[bu];exact bt
     have au:Xj (λz=>z=nb) y.a:=λb'' off' s' e hz=>by
      rcases c4 with e'|⟨g,off,e',hg⟩
      ·exact cr.ra b'' off' s' (e'▸e) hz
      ·rw[e'] at e;cases e;omega
     have fn:Z4 am y:=⟨ax.rd.far au I,ax.len,ax.lc,ax.rng⟩;have en:Xc (λz=>z=nb) L am:=(noN p).trans I;have ke:=I4 (q:=N) (at':=0) (n:=l.length) F;have hl:X8 r.c Q.plc 0 l.length=X8 r.c N 0 l.length:=by rw[Hf r.c N,y4]
     have d5:Xc Xe w am:=(d4.trans p).since I (λz hz e=>by omega);have iw:Xc Xe w9 am:=(d3.trans p).since I (λz hz e=>by omega);have ix:=ag.grow p;have bv:=(ix.far cr (by have:=h.conf.chg d5;rw[M,ea];exact this) I).putRa (Xc.refl Xe am) (ra:=y) (bs:=Qz r.c Q.plc s3.bs 0 l l.length) (t:=Xx s3.rm.tot (X8 r.c Q.plc 0 l.length)) fn (by rw[c1,ag.rb,M,<-y4,<-Jw]) (by rw[c2,eh,M,hl,Bn (by omega)]) (fj.grow I.size);rw[<-bu] at bv;replace bv:X6 am b8 (Ya r.c s3 Q 0 l):=bv;have eo:b8.c=r.c:=by rw[bu];exact M
     have hn:Zy L c b8:=by rw[bu];exact⟨rfl,rfl,λS hS ho=>{ho with ra:=ho.ra.newer c4 hS}⟩
     have fo:=I.heap (p.heap' ff) (by omega);have fp:=I.heap (p.heap' fg) (by omega);have ep:=(e7.trans ec).trans en;have hp:Zm am C:=⟨p3.rd.far im ep,p3.len⟩;have iy:=Oz (s:=s3) F Q 0 l ⟨g7.1,by omega⟩ (by omega);have iz:(Ya r.c s3 Q 0 l).OkP b8.c (some (j,Xy C)):=by rw[eo,y2];exact StM.OkP.put M8 _ _ e3
     rw[<-el];refine Xa.loads Xb rfl bt rfl rfl ?_;refine Xa.loads Xb rfl fo rfl rfl ?_;refine ζc rfl (Xfv bv C iz hp ⟨iy.1,by omega⟩) ?_;rintro _ l7 ⟨er,rfl,bd⟩;refine ζa rfl ?_;rw[eo,y2] at bd;have l8:=I.size;have l9:=bd.2.2.size;refine Xa.store Xb rfl (bd.2.2.heap' fp) rfl rfl ?_;intro j0 fq es kf;refine ζa rfl ?_;have d6:Xc Xe w j0:=(d5.trans bd.2.2).since es (λz hz e=>by omega);have j1:Zy w9 i c:=h6.trans B.2.1 (by omega);have j2:Zy w9 i er:=(j1.trans hn (by omega)).trans bd.2.1 (by omega);have c0:Zy D r er:=(H.2.1.back ij).trans j2 (by omega);exact ζq rfl func42 (Xl.cell rfl rfl rfl fq rfl (.tmp rfl .nil)) ⟨er,rfl,h.box c0 bd.1 (by omega) (by omega) es d6,Zy.back c0 z2,d6⟩
    ·rw[no e hf];refine Xa.yes Xb rfl (by simpa using hf) rfl ?_;refine Xa.drawn (q:=4) Xe Xb Xp (by kernel_rfl) rfl ?_;intro f;refine Xd.loads Xb f rfl dt (by first|exact λh=>h|(intro h;omega)|assumption) rfl rfl ?_;refine Xd.loads Xb f rfl dt (by first|exact λh=>h|(intro h;omega)|assumption) rfl rfl ?_;refine Xd.call Xb f rfl (λw' k=>Uh (h.grow (aj.trans k)) hs size) rfl ?_;refine Xd.nil f ?_;intro w9 ba;refine ζa rfl ?_;have z9:=ba.size;refine Xa.store Xb rfl (ba.heap' cm) rfl rfl ?_;intro V ap bg di;refine ζa rfl ?_;exact ζq rfl func42 (Xl.cell rfl rfl rfl ap rfl (.tmp rfl .nil)) ⟨r,rfl,.self h ((aj.trans ba).since bg (λz hz e=>by omega))⟩
 ·have e:B0 r.c s o size=Yl s o:=by unfold B0;rw[if_pos g0]
  rw[no e g0,e];refine Xa.yes Xb rfl (by simpa using g0) rfl ?_;have cb:=d9;have cc:=da;have cd:=db;have gb:=Xg cu;refine Xa.loads Xb rfl cb rfl rfl ?_;refine Xa.store Xb rfl cc rfl rfl ?_;intro wr dd de hu;refine ζa rfl ?_;exact ζq rfl func42 (Xl.cell rfl rfl rfl dd rfl (.tmp rfl .nil)) ⟨r,rfl,.self h (cd.since de (λz hz e=>by omega))⟩
structure G9 where
 kind:Int
 own:Int
 a:Int
 b:Int
 bs:List Int
 ba:Option Addr
 bc:Nat
def Fj(u:G9):List Value:=[.int .u8 u.kind,.int .i64 u.own,.int .i64 u.a,.int .i64 u.b,.slice u.ba u.bs.length u.bc]
structure Iy(w:World)(u:G9):Prop where
 kind:0<=u.kind/\u.kind<256
 a : -9223372036854775808<=u.a/\u.a<=9223372036854775807
 b : -9223372036854775808<=u.b/\u.b<=9223372036854775807
 rd:Rd .u8 w u.ba u.bs
 rng:Qq u.bs
 lc:u.bs.length<=u.bc
 len:u.bc<=9223372036854775807
theorem Iy.grow{u:G9}(h:Iy w u)(hc:Xc Xe w w'):Iy w' u:=⟨h.kind,h.a,h.b,h.rd.chg hc,h.rng,h.lc,h.len⟩
def Ak(c:Conf)(s:StM)(u:G9):Int:=if u.kind%7=0 then Bj c s u.own u.a else if u.kind%7=1 then Yl s u.own else if u.kind%7=2 then B0 c s u.own u.a else if u.kind%7=3 then Qp s u.own u.a u.b else if u.kind%7=4 then Qp s u.own u.a u.bs.length else if u.kind%7=5 then 0 else Cv s u.own u.a
def Qy(c:Conf)(s:StM)(u:G9):StM:=if u.kind%7=0 then Ah c s u.own u.a else if u.kind%7=1 then B9 c s u.own else if u.kind%7=2 then Ao c s u.own u.a else if u.kind%7=3 then Ca c s u.own u.a u.b else if u.kind%7=4 then Cw c s u.own u.a u.bs else if u.kind%7=5 then Ab c s else Dj s u.own u.a
def Q6(c:Conf)(s:StM)(u:G9):List Int:=if u.kind%7=3 then Di c s u.own u.a u.b else []
theorem Xlf(a:Option Addr)(cap:Nat)(xs:List G9)(w:World)(hr:Rows Fj 5 w a xs)(hl:xs.length<=9223372036854775807):Xf prog 9 #[.slice a xs.length cap] w (λv w'=>∃b,v=.bool b/\(b=true->xs.length<=20/\∀x∈xs,x.bs.length<=100)/\w=w'):=by
 refine ζe func9 ntmps9 ϱ ?_;refine Xa.loop (α:=Nat) (λk=>[(0,false,.slice a xs.length cap),(3,false,.int .i64 k)])
  (λk w'=>w'=w/\k<=xs.length/\k<=21/\∀j (h:j<xs.length),j<k->xs[j].bs.length<=100) (λk=>21-k) 0 ⟨rfl,rfl,trivial⟩ ⟨rfl,XK _,by omega,λ_ _ h=>by omega⟩ ?_
 rintro k t ⟨o,u,p,c⟩ ih;subst o;have d:¬(k<xs.length/\k<21)->xs.length<=20 -> ∀x∈xs,x.bs.length<=100:=λf g x q=>by
  obtain⟨j,l,rfl⟩:=QH q;exact c j l (by omega)
 refine ζa ϱ (ζg ϱ (λf=>?_) λf=>?_)
 ·refine ζg ϱ (λg=>?_) λg=>?_
  ·have m:k<xs.length:=by have:=of_decide_eq_true f;omega
   have r:k<21:=by have:=of_decide_eq_true g;omega
   obtain⟨b,off,rfl,i⟩:=hr.at m;refine ζi (k*5) ϱ (ζk ϱ (i 4 _ rfl) ϱ (ζg ϱ (λn=>?_) λn=>?_))
   ·exact ζr func9 ϱ ⟨false,rfl,(λh=>Bool.noConfusion h),rfl⟩
   ·have y:=of_decide_eq_false n;refine ζj ϱ ?_;exact ih (k+1) _ _ ⟨rfl,by omega,by omega,λj l s=>by
     by_cases e:j=k
     ·subst e;omega
     ·exact c j l (by omega)⟩ (by omega) ⟨rfl,rfl,trivial⟩
  ·have r:=of_decide_eq_false g;exact ζr func9 ϱ ⟨_,rfl,λh=>by have:=of_decide_eq_true h;exact⟨by omega,d (by omega) (by omega)⟩,rfl⟩
 ·have m:=of_decide_eq_false f;exact ζr func9 ϱ ⟨_,rfl,λh=>by have:=of_decide_eq_true h;exact⟨by omega,d (by omega) (by omega)⟩,rfl⟩
theorem Xld(u:G9)(h:X6 w r s)(hs:s.Ok r.c)(hu:Iy w u)(ht:0<=s.rm.tot/\s.rm.tot<=999900000000):Xf prog 12 #[.agg (Zz r).toArray,.agg (Fj u).toArray] w
 (λv w'=>∃r' a cap,v=.tuple #[.agg (Zz r').toArray,.slice a (Q6 r.c s u).length cap,.int .i64 (Ak r.c s u)]/\Rd .u8 w' a (Q6 r.c s u)/\(∀b off s',a=some ⟨b,off,s'⟩->w.heap.size<=b/\b<w'.heap.size)/\Cy w r (Qy r.c s u) r' w'):=by
 have hk:=hu.kind;refine ζe func12 ntmps12 ϱ (ζn ϱ λb w1 e1 T P U=>ζn ϱ λub w2 e2 Q M V=>ζn ϱ λqb w3 e3 j I W=>?_);have k:=(M.trans I).heap' T;have l:=I.heap' Q;have n:=(P.trans M).trans I;have E:=h.grow n;have y:=n.size;refine ζl l ϱ (Xa.div Xb rfl (by omega) (Fz (by omega)) rfl ?_);by_cases p:u.kind%7=0
 ·have eE:Ak r.c s u=Bj r.c s u.own u.a:=by unfold Ak;rw[if_pos p]
  have eS:Qy r.c s u=Ah r.c s u.own u.a:=by unfold Qy;rw[if_pos p]
  have eB:Q6 r.c s u=[]:=by unfold Q6;rw[if_neg (by omega)]
  rw[eE,eS,eB];refine ζy ϱ (ζl k ϱ (ζl l ϱ (ζl l ϱ (ζc ϱ (Xlc E hs u.own u.a ⟨ht.1,by omega⟩) ?_))));rintro _ F ⟨q,rfl,c⟩;refine ζa ϱ ?_;refine ζs (c.2.2.heap' k) ϱ λJ o f D=>?_;have g:=(n.trans c.2.2).since f (λz t e=>by omega);refine ζl o ϱ (ζs (f.heap (c.2.2.heap' j) (by omega)) ϱ λG m i B=>?_);have d:=g.since i (λz t e=>by omega);exact ζR func12 m ϱ ⟨q,none,0,rfl,Rd.nil _ _ _,(by intro b off s' e;cases e),(h.box c.2.1 (h.box c.2.1 c.1 (by omega) (Xg k) f g) (by omega) (Xg j) i d),c.2.1.back y,d⟩
 by_cases x:u.kind%7=1
 ·have eE:Ak r.c s u=Yl s u.own:=by unfold Ak;rw[if_neg p,if_pos x]
  have eS:Qy r.c s u=B9 r.c s u.own:=by unfold Qy;rw[if_neg p,if_pos x]
  have eB:Q6 r.c s u=[]:=by unfold Q6;rw[if_neg (by omega)]
  rw[eE,eS,eB];refine ζf ϱ (ζy ϱ (ζl k ϱ (ζl l ϱ (ζc ϱ (Xlg E hs u.own ⟨ht.1,by omega⟩) ?_))));rintro _ F ⟨q,rfl,c⟩;refine ζa ϱ ?_;refine ζs (c.2.2.heap' k) ϱ λJ o f D=>?_;have g:=(n.trans c.2.2).since f (λz t e=>by omega);refine ζl o ϱ (ζs (f.heap (c.2.2.heap' j) (by omega)) ϱ λG m i B=>?_);have d:=g.since i (λz t e=>by omega);exact ζR func12 m ϱ ⟨q,none,0,rfl,Rd.nil _ _ _,(by intro b off s' e;cases e),(h.box c.2.1 (h.box c.2.1 c.1 (by omega) (Xg k) f g) (by omega) (Xg j) i d),c.2.1.back y,d⟩
 by_cases A:u.kind%7=2
 ·have eE:Ak r.c s u=B0 r.c s u.own u.a:=by unfold Ak;rw[if_neg p,if_neg x,if_pos A]
  have eS:Qy r.c s u=Ao r.c s u.own u.a:=by unfold Qy;rw[if_neg p,if_neg x,if_pos A]
  have eB:Q6 r.c s u=[]:=by unfold Q6;rw[if_neg (by omega)]
  rw[eE,eS,eB];refine ζf ϱ (ζf ϱ (ζy ϱ (ζl k ϱ (ζl l ϱ (ζl l ϱ (ζc ϱ (Xlk E hs u.own u.a hu.a ht) ?_))))));rintro _ F ⟨q,rfl,c⟩;refine ζa ϱ ?_;refine ζs (c.2.2.heap' k) ϱ λJ o f D=>?_;have g:=(n.trans c.2.2).since f (λz t e=>by omega);refine ζl o ϱ (ζs (f.heap (c.2.2.heap' j) (by omega)) ϱ λG m i B=>?_);have d:=g.since i (λz t e=>by omega);exact ζR func12 m ϱ ⟨q,none,0,rfl,Rd.nil _ _ _,(by intro b off s' e;cases e),(h.box c.2.1 (h.box c.2.1 c.1 (by omega) (Xg k) f g) (by omega) (Xg j) i d),c.2.1.back y,d⟩
 by_cases C:u.kind%7=3
 ·have eE:Ak r.c s u=Qp s u.own u.a u.b:=by unfold Ak;rw[if_neg p,if_neg x,if_neg A,if_pos C]
  have eS:Qy r.c s u=Ca r.c s u.own u.a u.b:=by unfold Qy;rw[if_neg p,if_neg x,if_neg A,if_pos C]
  have eB:Q6 r.c s u=Di r.c s u.own u.a u.b:=by unfold Q6;rw[if_pos C]
  rw[eE,eS,eB];refine ζf ϱ (ζf ϱ (ζf ϱ (ζy ϱ (ζl k ϱ (ζl l ϱ (ζl l ϱ (ζl l ϱ (ζc ϱ (Xlj E hs u.own u.a u.b hu.a hu.b ⟨ht.1,by omega⟩) ?_))))))));rintro _ F ⟨q,R,N,rfl,S,K,c⟩;refine ζa ϱ ?_;refine ζs (c.2.2.heap' j) ϱ λG m i B=>?_;have d:=(n.trans c.2.2).since i (λz t e=>by omega);have O:Xj (λz=>z=qb) R:=λb' off s' e t=>by have:=K b' off s' e;omega
  exact ζR func12 m ϱ ⟨q,R,N,rfl,S.far O i,(λb' off s' e=>⟨by have:=K b' off s' e;omega,by have:=K b' off s' e;have:=i.size;omega⟩),(h.box c.2.1 c.1 (by omega) (Xg j) i d),c.2.1.back y,d⟩
 by_cases H:u.kind%7=4
 ·have eE:Ak r.c s u=Qp s u.own u.a u.bs.length:=by unfold Ak;rw[if_neg p,if_neg x,if_neg A,if_neg C,if_pos H]
  have eS:Qy r.c s u=Cw r.c s u.own u.a u.bs:=by unfold Qy;rw[if_neg p,if_neg x,if_neg A,if_neg C,if_pos H]
  have eB:Q6 r.c s u=[]:=by unfold Q6;rw[if_neg (by omega)]
  rw[eE,eS,eB];refine ζf ϱ (ζf ϱ (ζf ϱ (ζf ϱ (ζy ϱ (ζl k ϱ (ζl l ϱ (ζl l ϱ (ζl l ϱ (ζc ϱ (Xln E hs u.own u.a u.ba u.bc u.bs hu.a (hu.rd.chg n) (by have:=hu.lc;have:=hu.len;omega) hu.rng ⟨ht.1,by omega⟩) ?_)))))))));rintro _ F ⟨q,rfl,c⟩;refine ζa ϱ ?_;refine ζs (c.2.2.heap' k) ϱ λJ o f D=>?_;have g:=(n.trans c.2.2).since f (λz t e=>by omega);refine ζl o ϱ (ζs (f.heap (c.2.2.heap' j) (by omega)) ϱ λG m i B=>?_);have d:=g.since i (λz t e=>by omega);exact ζR func12 m ϱ ⟨q,none,0,rfl,Rd.nil _ _ _,(by intro b off s' e;cases e),(h.box c.2.1 (h.box c.2.1 c.1 (by omega) (Xg k) f g) (by omega) (Xg j) i d),c.2.1.back y,d⟩
 by_cases L:u.kind%7=5
 ·have eE:Ak r.c s u=0:=by unfold Ak;rw[if_neg p,if_neg x,if_neg A,if_neg C,if_neg H,if_pos L]
  have eS:Qy r.c s u=Ab r.c s:=by unfold Qy;rw[if_neg p,if_neg x,if_neg A,if_neg C,if_neg H,if_pos L]
  have eB:Q6 r.c s u=[]:=by unfold Q6;rw[if_neg (by omega)]
  rw[eE,eS,eB];refine ζf ϱ (ζf ϱ (ζf ϱ (ζf ϱ (ζf ϱ (ζy ϱ (ζl k ϱ (ζc ϱ (Xlm E hs ⟨ht.1,by omega⟩) ?_)))))));rintro _ F ⟨q,rfl,c⟩;refine ζa ϱ ?_;refine ζs (c.2.2.heap' k) ϱ λJ o f D=>?_;have g:=(n.trans c.2.2).since f (λz t e=>by omega);refine ζl o ϱ (ζs (f.heap (c.2.2.heap' j) (by omega)) ϱ λG m i B=>?_);have d:=g.since i (λz t e=>by omega);exact ζR func12 m ϱ ⟨q,none,0,rfl,Rd.nil _ _ _,(by intro b off s' e;cases e),(h.box c.2.1 (h.box c.2.1 c.1 (by omega) (Xg k) f g) (by omega) (Xg j) i d),c.2.1.back y,d⟩
 ·have eE:Ak r.c s u=Cv s u.own u.a:=by unfold Ak;rw[if_neg p,if_neg x,if_neg A,if_neg C,if_neg H,if_neg L]
  have eS:Qy r.c s u=Dj s u.own u.a:=by unfold Qy;rw[if_neg p,if_neg x,if_neg A,if_neg C,if_neg H,if_neg L]
  have eB:Q6 r.c s u=[]:=by unfold Q6;rw[if_neg (by omega)]
  rw[eE,eS,eB];refine ζf ϱ (ζf ϱ (ζf ϱ (ζf ϱ (ζf ϱ (ζf ϱ (ζl k ϱ (ζl l ϱ (ζl l ϱ (ζc ϱ (Xll E hs u.own u.a) ?_)))))))));rintro _ F ⟨q,rfl,c⟩;refine ζa ϱ ?_;refine ζs (c.2.2.heap' k) ϱ λJ o f D=>?_;have g:=(n.trans c.2.2).since f (λz t e=>by omega);refine ζl o ϱ (ζs (f.heap (c.2.2.heap' j) (by omega)) ϱ λG m i B=>?_);have d:=g.since i (λz t e=>by omega);exact ζR func12 m ϱ ⟨q,none,0,rfl,Rd.nil _ _ _,(by intro b off s' e;cases e),(h.box c.2.1 (h.box c.2.1 c.1 (by omega) (Xg k) f g) (by omega) (Xg j) i d),c.2.1.back y,d⟩
section
variable {c:Conf}{n0:Nat}{w0 w:World}{F:Nat->Prop}{S:Sto}{s:StM}
theorem Lv.ofE(h:Lv c n0 w0 w F S s){e:Int}(hi:s'.Ok c){P:Program}{k:FuncId}{args:Array Value}(hd:Xf P k args w (I0 F w S s' e)):Xf P k args w (λv w'=>v=.int .i64 e/\Fg c n0 w0 w F S s' w'):=
 hd.mono λv w' ⟨e1,a⟩=>⟨e1,h.to a hi⟩
theorem Xet(h:Lv c n0 w0 w F S s)(o size:Int):Xf prog 30 #[Zq S,.int .i64 o,.int .i64 size] w (λv w'=>v=.int .i64 (Bj c s o size)/\Fg c n0 w0 w F S (Ah c s o size) w'):=by
 obtain⟨Fr,mo,b⟩:=h.ok;have a:=Xmx b (by rw[h.sc];exact h.inv) o size;rw[h.sc] at a;exact h.ofE (h.inv.alloc o size) a
theorem XaR(h:Lv c n0 w0 w F S s)(o:Int):Xf prog 32 #[Zq S,.int .i64 o] w (λv w'=>v=.int .i64 (Yl s o)/\Fg c n0 w0 w F S (B9 c s o) w'):=by
 obtain⟨Fr,mo,b⟩:=h.ok;have a:=XmA b (by rw[h.sc];exact h.inv) o;rw[h.sc] at a;exact h.ofE (h.inv.free o) a
theorem Xjw(h:Lv c n0 w0 w F S s)(o size:Int):Xf prog 38 #[Zq S,.int .i64 o,.int .i64 size] w (λv w'=>v=.int .i64 (B0 c s o size)/\Fg c n0 w0 w F S (Ao c s o size) w'):=by
 obtain⟨Fr,mo,b⟩:=h.ok;have a:=XmI b (by rw[h.sc];exact h.inv) o size;rw[h.sc] at a;exact h.ofE (h.inv.resize o size) a
theorem Xex(h:Lv c n0 w0 w F S s)(o i:Int)(a:Option Addr)(cap:Nat)(l:List Int)(hi : -9223372036854775808<=i/\i<=9223372036854775807)(hr:Rd .u8 w a l)(hlc:l.length<=cap)(hl:l.length<=9223372036854775807)(hin:Qq l)(hout:0<l.length->Xj F a):Xf prog 31 #[Zq S,.int .i64 o,.int .i64 i,.slice a l.length cap] w (λv w'=>v=.int .i64 (Qp s o i l.length)/\Fg c n0 w0 w F S (Cw c s o i l) w'):=by
 obtain⟨Fr,mo,d⟩:=h.ok;have b:=XmO d (by rw[h.sc];exact h.inv) o i a cap l hi hr hlc hl hin hout;rw[h.sc] at b;exact h.ofE (h.inv.write o i hin) b
theorem Xjv(h:Lv c n0 w0 w F S s)(o i n:Int)(hi : -9223372036854775808<=i/\i<=9223372036854775807)(hn : -9223372036854775808<=n/\n<=9223372036854775807):Xf prog 33 #[Zq S,.int .i64 o,.int .i64 i,.int .i64 n] w
 (λv w'=>∃a cap,v=.tuple #[.slice a (Di c s o i n).length cap,.int .i64 (Qp s o i n)]/\Rd .u8 w' a (Di c s o i n)/\(∀b off s',a=some ⟨b,off,s'⟩->w.heap.size<=b/\b<w'.heap.size)/\Lv c n0 w0 w' F S (Ca c s o i n)/\Xc F w w'):=by
 obtain⟨Fr,mo,g⟩:=h.ok;have d:=XmH g (by rw[h.sc];exact h.inv) o i n hi hn;rw[h.sc] at d;refine d.mono λv w' ⟨u,e,j,mo',k,f⟩=>?_;obtain⟨a,cap,e2,l,m⟩:=j.rd8 rfl;exact⟨a,cap,by rw[e,e2],l,m,⟨⟨Fr,mo',k⟩,h.inv.read o i n,h.sc,h.fx,h.base,h.chg.since f (λz p e=>by have:=h.base z e;omega)⟩,f⟩
theorem Xew(h:Lv c n0 w0 w F S s)(o i n:Int)(hi : -9223372036854775808<=i/\i<=9223372036854775807)(hn : -9223372036854775808<=n/\n<=9223372036854775807):Xf prog 33 #[Zq S,.int .i64 o,.int .i64 i,.int .i64 n] w
 (λv w'=>∃a cap,v=.tuple #[.slice a (Di c s o i n).length cap,.int .i64 (Qp s o i n)]/\Rd .u8 w' a (Di c s o i n)/\(∀b off s',a=some ⟨b,off,s'⟩->w.heap.size<=b/\b<w'.heap.size)/\Fg c n0 w0 w F S (Ca c s o i n) w'):=
 (Xjv h o i n hi hn).mono λ_ _ ⟨a,cap,e1,e2,e3,e4,e5⟩=>⟨a,cap,e1,e2,e3,F,e4,λ_ h=>.inl h,e5⟩
theorem Tt(h:Lv c n0 w0 w F S s):Xf prog 27 #[Zq S] w (λv w'=>v=.int .i64 0/\Fg c n0 w0 w F S (Ab c s) w'):=by
 obtain⟨Fr,mo,b⟩:=h.ok;have a:=XmN b (by rw[h.sc];exact h.inv);rw[h.sc] at a;exact h.ofE h.inv.tick a
theorem Xjx(h:Lv c n0 w0 w F S s)(k keep:Int):Xf prog 39 #[Zq S,.int .i64 k,.int .i64 keep] w (λv w'=>v=.int .i64 (Cv s k keep)/\Fg c n0 w0 w F S (Dj s k keep) w'):=by
 obtain⟨Fr,mo,a⟩:=h.ok;exact h.ofE (h.inv.set k keep) (XmJ a (by rw[h.sc];exact h.inv) k keep)
theorem Xjz(h:Lv c n0 w0 w F S s):Xf prog 13 #[Zq S] w (λv w'=>v=.int .i64 (s.rm.tot-S.R.lap)/\Lv c n0 w0 w' F (S.relap s.rm.tot) s/\Xc (λz=>z=S.mb) w w'/\F S.mb):=by
 obtain⟨Fr,mo,a⟩:=h.ok;refine(XmL a).mono λv w' ⟨e,d,b⟩=>⟨e,⟨⟨Fr,mo,d⟩,h.inv,h.sc,?_,h.base,h.chg.since b (λz m e=>by have:=h.base z (e▸a.mb.1);have:=h.chg.size;omega)⟩,b,a.mb.1⟩;obtain⟨f1,f2,f,g,i,j,k,l⟩:=h.fx;exact⟨f1,f2,f,g,i,j,k,l⟩
theorem Ts(h:Lv c n0 w0 w F S s):Xf prog 13 #[Zq S] w (λv w'=>v=.int .i64 (s.rm.tot-S.R.lap)/\Lv c n0 w0 w' F (S.relap s.rm.tot) s/\Xc F w w'):=
 (Xjz h).mono λv w' ⟨e,a,b,d⟩=>⟨e,a,b.mono λz _ e=>e▸d⟩
theorem XaS(h:Lv c n0 w0 w F S s):Xf prog 20 #[Zq S] w (Grow (.int .i64 (Zt s.rm.pl:Nat)) w):=by obtain⟨Fr,mo,a⟩:=h.ok;exact XmB a
theorem Xju(h:Lv c n0 w0 w F S s):Xf prog 34 #[Zq S] w (Grow (.int .i64 (Z9 s)) w):=by obtain⟨Fr,mo,a⟩:=h.ok;exact Xmy a
theorem Xev(h:Lv c n0 w0 w F S s)(k:Int):Xf prog 16 #[Zq S,.int .i64 k] w (Grow (.int .i64 (X1 s.rm k:Nat)) w):=by obtain⟨Fr,mo,a⟩:=h.ok;exact XmF a k
theorem XaT(h:Lv c n0 w0 w F S s)(k:Int):Xf prog 15 #[Zq S,.int .i64 k] w (Grow (.int .i64 (Yd s k:Nat)) w):=by obtain⟨Fr,mo,a⟩:=h.ok;exact XmD a (by rw[h.sc];exact h.inv) k
theorem Xjy(h:Lv c n0 w0 w F S s)(o:Int):Xf prog 35 #[Zq S,.int .i64 o] w (Grow (.int .i64 (Qv s o)) w):=by obtain⟨Fr,mo,a⟩:=h.ok;exact XmK a (by rw[h.sc];exact h.inv) o
end
theorem XjV{c:Conf}(hm:Ze c=true)(hA:Ys c (Ho c 0)):(C3 c).Ok c:=by
 have g:=Yq hm;have b:∀(o:Nat) t,(C3 c).th[o]?≠some (some t):=λo t e=>by
  have:=XS e;simp only[C3,QM] at this;cases this.2
 have i:∀(o:Nat) t,(C3 c).mv[o]?≠some (some t):=λo t e=>by
  have:=XS e;simp only[C3,QM] at this;cases this.2
 have f:=hm;unfold Ze at f;simp only[XJ,decide_eq_true_eq,Q8,Bool.not_eq_true'] at f;refine⟨hm,hA,g.keep,λx d=>?_,?_,Se _,?_,XH,λo t h=>absurd h (b o t),λo t h=>absurd h (b o t),λo t h=>absurd h (b o t),λo _ t _ h=>absurd h (b o t),λk m h=>absurd h (i k m),λk n a h=>absurd ?_ h,(by rintro _ _ ⟨⟩),(by rintro _ _ ⟨⟩)⟩
 ·have j:=f.1.1.1.1.2.2;rw[List.any_eq_false] at j;have:=j x d;unfold Lz Q8 at this;simp at this;omega
 ·show((Xz _).length:Int)=_
  rw[Dm];exact YH (ZI (by have:=g.size;omega) (by have:=g.pages;omega))
 ·show((List.replicate c.slots.toNat none).length:Int)=_
  rw[XH];exact YH (by omega)
 ·unfold Zh;split
  ·rfl
  ·rename_i x d
   unfold X0 at d;split at d
   ·obtain⟨_,e⟩:=Oa d;rw[e];rfl
   ·cases d
theorem XjU(c:Conf):Z9 (C3 c)=0:=by
 rw[Ga];show((List.replicate c.slots.toNat (none:Option ThM)).map D5).sum=0
 generalize c.slots.toNat=n
 induction n with
 |zero=>rfl
 |succ n ih=>rw[ZX,ZC,YK,ih];rfl
theorem Xeu(c:Conf)(p:Qi)(w:World)(hc:Y1 w c p)(ht:Bd w)(hm:Ze c=true):Xf prog 28 #[.agg (Zr c p).toArray] w (λv w'=>∃F S,v=.tuple #[Zq S,.int .i64 0]/\Lv c w'.heap.size w w' F S (C3 c)/\S.R.lap=0/\S.p=p/\Xc Xe w w'):=by
 refine(XmE c p w hc ht hm).mono λv w' ⟨F,Fr,S,mo,e,a,⟨f,h⟩,i,j,g⟩=>⟨F,S,e,?_,i,h,g⟩;have d:=a.room;have b:=d.ok;rw[a.rc,f] at b;exact⟨⟨Fr,mo,by rw[XjU];exact a⟩,XjV hm ⟨b,d.mok,d.mpos⟩,f,a.fixed,j,g⟩
def Av:Conf:=⟨64,4,[32],[0],8,5,3,128⟩
def XaB:List Int:=[104,101,108,108,111]
def Wu:StM:=C3 Av
def Wv:StM:=Ah Av Wu 0 20
def Ww:StM:=Ah Av Wv 1 20
def Wx:StM:=Ah Av Ww 2 20
def O9:StM:=Ah Av Wx 3 20
def aw22x5:StM:=Cw Av O9 3 0 XaB
def aw22x6:StM:=B9 Av aw22x5 0
def aw22x7:StM:=B9 Av aw22x6 2
def XcO:StM:=Ab Av aw22x7
def XcP:StM:=Ab Av XcO
def O8:StM:=Ab Av XcP
def aw22x11:StM:=Ca Av O8 3 0 6
theorem XhQ:Ze Av=true:=by kernel_rfl
theorem XhG:Bj Av Wu 0 20=0:=by kernel_rfl
theorem XhH:Bj Av Wv 1 20=0:=by kernel_rfl
theorem XhI:Bj Av Ww 2 20=0:=by kernel_rfl
theorem XhJ:Bj Av Wx 3 20=0:=by kernel_rfl
theorem XhW:Qp O9 3 0 5=0:=by kernel_rfl
theorem XhL:Yl aw22x5 0=0:=by kernel_rfl
theorem XhM:Yl aw22x6 2=0:=by kernel_rfl
theorem XhV:aw22x7.rm.tot-aw22x6.rm.tot=14:=by kernel_rfl
theorem XhO:Yd aw22x7 0=24:=by kernel_rfl
theorem XhS:Qp O8 3 0 6=0:=by kernel_rfl
theorem XhT:Di Av O8 3 0 6=[104,101,108,108,111,0]:=by kernel_rfl
theorem XhP:Yd aw22x11 0=0:=by kernel_rfl
theorem XhN:Zt aw22x11.rm.pl=1:=by kernel_rfl
theorem XhR:X1 aw22x11.rm 0=0:=by kernel_rfl
theorem XhK:Z9 aw22x11=40:=by kernel_rfl
theorem XhU:Qv aw22x11 3=20:=by kernel_rfl
theorem Rd.of22{k:IntKind}{c:Array Value}{t:TypeId}(h:w.heap[b]?=some (.cells c t fz))(hc:c=(zs.map (Value.int k)).toArray):Rd k w (some ⟨b,0,none⟩) zs:=λi hi=>
 ⟨b,0,rfl,by rw[Yt h,hc];simp[hi]⟩
theorem Xjh(w:World):Xf prog 29 #[] w (λv w'=>∃p,v=.agg (Zr Av p).toArray/\Y1 w' Av p/\Xc Xe w w'):=by
 refine ζe func29 ntmps29 ϱ (ζn ϱ λb u e1 l e o=>Xa.buildSlice Xb rfl λf x e2 g d q=>ζa ϱ (Xa.buildSlice Xb rfl λh y e3 i a r=>ζa ϱ (ζb ϱ (ζs (a.heap' (d.heap' l)) ϱ λm j c s=>?_))));have n:Y1 m Av ⟨some ⟨f,0,none⟩,1,some ⟨h,0,none⟩,1⟩:=
  ⟨Rd.of22 (c.heap (a.heap' g) (by omega)) rfl,Rd.of22 (c.heap i (by omega)) rfl,by decide,by decide,by unfold La;decide⟩
 exact ζR func29 j ϱ ⟨⟨some ⟨f,0,none⟩,1,some ⟨h,0,none⟩,1⟩,rfl,n,((e.trans d).trans a).since c (λk z t=>by omega)⟩
def Pa(k:Nat):StM:=if k=0 then Wu else if k=1 then Wv else if k=2 then Ww else if k=3 then Wx else O9
theorem XhX(h:k<4):Bj Av (Pa k) (k:Nat) 20=0/\Ah Av (Pa k) (k:Nat) 20=Pa (k+1):=by
 obtain rfl|rfl|rfl|rfl:k=0\/k=1\/k=2\/k=3:=by omega
 ·exact⟨XhG,rfl⟩
 ·exact⟨XhH,rfl⟩
 ·exact⟨XhI,rfl⟩
 ·exact⟨XhJ,rfl⟩
def St(k:Nat):StM:=if k=0 then aw22x7 else if k=1 then XcO else if k=2 then XcP else O8
theorem XhY(h:k<3):Ab Av (St k)=St (k+1):=by
 obtain rfl|rfl|rfl:k=0\/k=1\/k=2:=by omega
 ·rfl
 ·rfl
 ·rfl
theorem Xje(w:World)(ht:Bd w):Xf prog 7 #[] w (Grow (.bool true) w):=by
 refine ζe func7 ntmps7 ϱ (ζc ϱ (Xjh w) ?_);rintro _ d ⟨p,rfl,a6,D⟩;refine ζa ϱ (ζc ϱ (Xeu Av p d a6 (ht.grow D) XhQ) ?_);rintro _ w2 ⟨F,S,rfl,h2,am,_,b0⟩;refine ζa ϱ ?_;obtain⟨c,a8⟩:∃c,c=w2.heap.size:=⟨_,rfl⟩;rw[<-a8] at h2;refine Xa.loop (α:=Nat) (λk=>[(1,false,Zq S),(2,false,.int .i64 0),(3,false,.int .i64 k)])
  (λk w'=>k<=4/\∃F,Lv Av c d w' F S (Pa k)) (λk=>4-k) 0 ⟨rfl,rfl,rfl,trivial⟩ ⟨XK _,F,h2⟩ ?_
 rintro k w3 ⟨hk,F3,B⟩ ih;refine ζa ϱ (ζg ϱ (λh=>?_) λh=>?_)
 ·have h:=of_decide_eq_true h;have a9:k<4:=by omega
  obtain⟨a1,a2⟩:=XhX a9;refine ζc ϱ (Xet B (k:Nat) 20) ?_;rintro _ w4 ⟨rfl,F4,h4,_,_⟩;refine ζa ϱ ?_;rw[a1];rw[a2] at h4;exact ζf ϱ (ζj ϱ (ih (k+1) _ _ ⟨by omega,F4,h4⟩ (by omega) ⟨rfl,rfl,rfl,trivial⟩))
 ·have h:=of_decide_eq_false h;obtain rfl:k=4:=by omega
  refine Xa.buildSlice Xb rfl λhb w4 e4 ac ad b1=>ζa ϱ (Xa.mark Xb rfl ac λw5 b2 R ae b3=>ζa ϱ ?_);rw[show Pa 4=O9 from rfl] at B;have T:=ad.since ae (λz C e=>by omega);have h5:=B.grow T;have af:¬F3 hb:=λC=>by have:=B.low _ C;omega
  have E:=Xex h5 3 0 (some ⟨hb,0,none⟩) 5 XaB (by decide) (Rd.of22 R rfl) (by decide) (by decide) (by unfold Qq;decide) (λ_ b off s e C=>by cases e;exact af C);rw[show Qp O9 3 0 (XaB.length:Nat)=0 from XhW] at E;refine ζc ϱ (E) ?_;rintro _ w6 ⟨rfl,F6,U,_,_⟩;refine ζa ϱ ?_;replace U:Lv Av c d w6 F6 S aw22x5:=U;have G:=XaR U 0;rw[XhL] at G;refine ζc ϱ (G) ?_;rintro _ w7 ⟨rfl,F7,V,_,_⟩;refine ζa ϱ ?_;replace V:Lv Av c d w7 F7 S aw22x6:=V;refine ζc ϱ (Ts V) ?_;rintro _ w8 ⟨rfl,h8,_⟩;refine ζa rfl ?_;obtain⟨f,i⟩:∃f,f=S.relap aw22x6.rm.tot:=⟨_,rfl⟩;rw[<-i] at h8;rw[show Zq S=Zq f by rw[i];rfl];have H:=XaR h8 2;rw[XhM] at H;refine ζc ϱ (H) ?_;rintro _ w9 ⟨rfl,F9,W,_,_⟩;refine ζa ϱ ?_;replace W:Lv Av c d w9 F9 f aw22x7:=W;refine ζc ϱ (Ts W) ?_;rintro _ b4 ⟨I,J,_⟩;refine ζa rfl ?_;rw[show f.R.lap=aw22x6.rm.tot by rw[i];rfl,XhV] at I;subst I;have j:=XaT J 0;rw[XhO] at j;refine ζv j ϱ λb5 a0=>?_;have K:=J.grow a0;obtain⟨g,L⟩:∃g,g=f.relap aw22x7.rm.tot:=⟨_,rfl⟩;rw[<-L] at K;rw[show Zq f=Zq g by rw[L];rfl];refine Xa.loop (α:=Nat) (λk=>[(1,false,Zq g),(2,false,.int .i64 0),(4,false,.int .i64 0),(5,false,.int .i64 0),(6,false,.int .i64 0),(7,false,.int .i64 14),(8,false,.int .i64 24),(9,false,.int .i64 k)])
   (λk w'=>k<=3/\∃F,Lv Av c d w' F g (St k)) (λk=>3-k) 0 ⟨rfl,rfl,rfl,rfl,rfl,rfl,rfl,rfl,trivial⟩ ⟨XK _,F9,K⟩ ?_
  rintro k b6 ⟨b7,b8,l⟩ ai;refine ζa ϱ (ζg ϱ (λm=>?_) λm=>?_)
  ·have m:=of_decide_eq_true m;have aj:k<3:=by omega
   refine ζc ϱ (Tt l) ?_;rintro _ M ⟨rfl,n,a,_,_⟩;refine ζa ϱ ?_;rw[XhY aj] at a;exact ζj ϱ (ai (k+1) _ _ ⟨by omega,n,a⟩ (by omega) ⟨rfl,rfl,rfl,rfl,rfl,rfl,rfl,rfl,trivial⟩)
  ·have m:=of_decide_eq_false m;obtain rfl:k=3:=by omega
   rw[show St 3=O8 from rfl] at l;have o:=Xew l 3 0 6 (by decide) (by decide);rw[XhS,XhT] at o;refine ζc ϱ (o) ?_;rintro _ M ⟨b9,ak,rfl,a3,_,n,a,_,_⟩;refine ζa ϱ ?_;replace a:Lv Av c d M n g aw22x11:=a;have q:=XaT a 0;rw[XhP] at q;refine ζy ϱ (ζy ϱ (ζy ϱ (ζy ϱ (ζy ϱ (ζy ϱ (ζv q ϱ λba r=>ζy ϱ ?_))))));have N:=a.grow r;have t:=XaS N;rw[XhN] at t;refine ζv t ϱ λbb u=>ζy ϱ ?_;have O:=N.grow u;have v:=Xev O 0;rw[XhR] at v;refine ζv v ϱ λbc x=>ζy ϱ (ζy ϱ ?_);have P:=O.grow x;refine Xa.bstrN Xb ([104,101,108,108,111,0]) rfl rfl ((((a3.chg r).chg u).chg x)) rfl (Xa.streq Xb rfl (rfl) rfl (ζy ϱ ?_));have y:=Xju P;rw[XhK] at y;refine ζv y ϱ λbd a4=>ζy ϱ ?_;have Q:=P.grow a4;have A:=Xjy Q 3;rw[XhU] at A;exact ζv A ϱ λbe a5=>ζr func7 ϱ ⟨rfl,(D.trans Q.chg).trans a5⟩
theorem Xcv:∀n,Qh [.int .i64 0,.int .i64 0,.int .i64 0,.int .i64 0,.slice none 0 0] n=fl C6 (List.replicate n Iw)
 |0=>rfl
 |n+1=>by rw[Qh,Xcv n,ZX];rfl
theorem Xcw:∀n,Qh (Ce G7) n=fl Ce (List.replicate n G7)
 |0=>rfl
 |n+1=>by rw[Qh,Xcw n,ZX];rfl
theorem Xli(c:Conf)(p:Qi)(w:World)(hc:Y1 w c p)(hm:Ze c=true)(hp:c.pages<=512):Xf prog 37 #[.agg (Zr c p).toArray] w
 (λv w'=>∃r,v=.tuple #[.agg (Zz r).toArray,.int .i64 0]/\r.c=c/\r.cp=p/\X6 w' r (C3 c)/\(∀S:Nat->Prop,(∀z,S z->z<w.heap.size)->Xj S p.ka->Aq S r)/\Xc Xe w w'):=by
 have ae:=Yq hm;have an:Nf c.pages c.size=true:=by
  obtain⟨m1,m2,m3⟩:=Dp hm;exact Sr.2 (by omega)
 have b7:0<c.pages*c.size:=Int.mul_pos (by have:=ae.pages;omega) (by have:=ae.size;omega);have em:Bp c=0:=by unfold Bp;rw[if_pos hm]
 have hf:=Yq hm;have b8:=hf.n;obtain⟨N,V⟩:=XE (show 0<=c.slots by
  have:=hm;unfold Ze at this;simp only[XJ,decide_eq_true_eq,Q8] at this;omega)
 have b9:c.slots<=4096:=by
  have:=hm;unfold Ze at this;simp only[XJ,decide_eq_true_eq,Q8] at this;omega
 refine ζe func37 ntmps37 ϱ (ζn ϱ λb w1 e1 hb af ba=>ζn ϱ λqb w2 e2 ao W bb=>?_);have ag:=W.heap' hb;refine ζl ag ϱ (ζv (Xbm c p w2 (hc.chg (af.trans W))) ϱ λw3 E=>?_);rw[em];have a0:=E.heap' ag;have J:=E.heap' ao;have K:=(af.trans W).trans E;refine ζf ϱ (ζl a0 ϱ (ζl a0 ϱ (ζc ϱ (XkJ c.pages c.size w3 an) ?_)));rintro _ w4 ⟨ab,rfl,bc,L,ah⟩;refine ζa ϱ ?_;obtain⟨F,i⟩:∃F:RA,F=⟨some ⟨ab,0,none⟩,(c.pages*c.size).toNat,Xz (c.pages*c.size).toNat,0⟩:=⟨_,rfl⟩;rw[<-i] at L⊢;refine ζn ϱ λt4 w5 e5 ap a1 bd=>ζs ap ϱ λw6 ak a2 be=>?_;have l:=(ah.trans a1).since a2 (λz a e=>by have:=ah.size;omega);have ai:=l.heap' a0;have C:=l.heap' J;refine ζl ai ϱ (ζc ϱ (Xk6 c p w6 (hc.chg (K.trans l)) hm hp) ?_);rintro _ w7 ⟨r2,rfl,k1,k2,k3,k4,T⟩;refine ζa ϱ (ζn ϱ λt6 w8 e8 av a3 bf=>ζs av ϱ λw9 al a4 bg=>?_);have j:=(T.trans a3).since a4 (λz a e=>by have:=T.size;omega);have U:=j.heap' ai;refine ζd 12 Xe (by kernel_rfl) ϱ λm=>δl m U ϱ (δl m U ϱ (δl m (j.heap' ak) ϱ (δl m al ϱ (δl m U ϱ (δl m U ϱ ?_)))));rw[V];refine Xd.turn2 m rfl ?_ ?_
 ·intro wa ka;refine Xr.make Xb m rfl rfl rfl (XD _) (show 56*N<=140737488355328 by omega) (by omega) (λ_=>rfl) λtb wb etb a5 a6 aw=>Xd.turn1 m rfl λwc u=>Xr.make Xb m rfl rfl rfl (XD _) (show 112*c.classes.length<=140737488355328 by omega) (by omega) (λ_=>rfl) λvb wd evb a7 G ax=>δn m ϱ λwe A=>?_;have za:=ka.size;have zc:=u.size;have H:we.heap[tb]?=some (.cells (fl C6 (List.replicate N Iw)).toArray 100 (0,0)):=by rw[<-Xcv];exact((u.trans G).trans A).heap' a5
  have I:we.heap[vb]?=some (.cells (fl Ce (List.replicate c.classes.length G7)).toArray 109 (0,0)):=by rw[<-Xcw];exact A.heap' a7
  have f:=(((ka.trans a6).trans u).trans G).trans A;have ay:=l.size;have az:=E.size;obtain⟨q,k⟩:∃q:SR,q=⟨c,p,c.keep,p.ka,p.kc,F,r2,List.replicate N Iw,some ⟨tb,0,none⟩,N,List.replicate c.classes.length G7,some ⟨vb,0,none⟩,c.classes.length⟩:=⟨_,rfl⟩;refine ζb ϱ (ζs ((j.trans f).heap' C) ϱ λwz n d b0=>?_);replace n:Zf wz qb q:=by
   have e1:(List.replicate N Iw).length=N:=XH;have e2:(List.replicate c.classes.length G7).length=c.classes.length:=XH;rw[k];unfold Zf Zz;simp only[e1,e2];rw[<-V] at n;exact n
  have g:=(((K.trans l).trans j).trans f).since d (λz a e=>by omega);have b1:=T.size;have a8:Qc wz r2 (Ho c 0):=by
   exact(k3.grow ((a3.since a4 (λz a e=>by omega)).trans f)).far (k4 _ (λz e=>by have:=Xg C;omega)) d
  have h:=((L.grow (a1.since a2 (λz a e=>by omega))).grow j).grow f;have a9:Xj (λz=>z=qb) F.a:=by rw[i];intro b' off s e a;cases e;have:=Xg J;omega
  have B:Z4 wz F:=⟨h.rd.far a9 d,h.len,h.lc,h.rng⟩;have b2:=hf.keep;have M:Yp w p.ka:=λb' off s e=>hc.keep.block (by omega) e;have aa:X6 wz q (C3 c):=by
   rw[k];exact {
    conf:=hc.chg g
    kr:=(hc.chg g).keep
    ke:=rfl
    ra:=B
    rb:=by rw[i];show Xz _=Xz _;rw[YB]
    rs:=by rw[i];rfl
    la:=λb' off s e=>B.rd.block (by rw[i];show 0<(Xz _).length;rw[Dm];omega) e
    lk:=M.grow g.size
    rr:=a8
    rc:=k1
    rp:=k2
    tr:=K0 (rest:=[]) (by rw[YF];exact d.heap H (by omega)) O0
    tl:=by intro b' off s e;cases e;exact Xg (d.heap H (by omega))
    tc:=by rw[XH];exact XD _
    tn:=by show(List.replicate N Iw).length=(List.replicate c.slots.toNat none).length;rw[XH,XH,V];rfl
    te:=λo x t O P=>by
     have e1:=(XZ ..).symm.trans O;have e2:=(XZ ..).symm.trans P;split at e1 <;> split at e2 <;> first|(cases e1;done)|(cases e2;done)|(cases e1;cases e2;exact⟨rfl,λy e=>by cases e⟩)
    tq:=λt Q=>by rw[ZH Q];exact⟨Il _ _ _,λ_ _ _ e=>by cases e⟩
    mr:=K0 (rest:=[]) (by rw[YF];exact d.heap I (by omega)) O3
    ml:=by intro b' off s e;cases e;exact Xg (d.heap I (by omega))
    mc:=by rw[XH];exact XD _
    mn:=by show(List.replicate _ G7).length=(List.replicate _ none).length;rw[XH,XH]
    me:=λo x t O P=>by
     have e1:=(XZ ..).symm.trans O;have e2:=(XZ ..).symm.trans P;split at e1 <;> split at e2 <;> first|(cases e1;done)|(cases e2;done)|(cases e1;cases e2;exact⟨rfl,λy e=>by cases e⟩)}
  have R:∀S:Nat->Prop,(∀z,S z->z<w.heap.size)->Xj S p.ka->Aq S q:=λS D hk=>by
   rw[k];refine⟨hk,?_,k4 S (λz a=>by have:=D z a;omega),?_,λt Q=>?_,?_⟩
   ·rw[i];intro b' off s e a;cases e;have:=D _ a;omega
   ·intro b' off s e a;cases e;have:=D _ a;omega
   ·rw[ZH Q];intro b' off s e;cases e
   ·intro b' off s e a;cases e;have:=D _ a;omega
  exact ζR func37 n ϱ ⟨q,rfl,by rw[k],by rw[k],aa,R,g⟩
 ·intro wa ka;refine Xr.make Xb m rfl rfl rfl (XD _) (show 112*c.classes.length<=140737488355328 by omega) (by omega) (λ_=>rfl) λvb wb evb a7 a6 aw=>Xd.turn1 m rfl λwc u=>Xr.make Xb m rfl rfl rfl (XD _) (show 56*N<=140737488355328 by omega) (by omega) (λ_=>rfl) λtb wd etb a5 G ax=>δn m ϱ λwe A=>?_;have za:=ka.size;have zc:=u.size;have H:we.heap[tb]?=some (.cells (fl C6 (List.replicate N Iw)).toArray 100 (0,0)):=by rw[<-Xcv];exact A.heap' a5
  have I:we.heap[vb]?=some (.cells (fl Ce (List.replicate c.classes.length G7)).toArray 109 (0,0)):=by rw[<-Xcw];exact((u.trans G).trans A).heap' a7
  have f:=(((ka.trans a6).trans u).trans G).trans A;have ay:=l.size;have az:=E.size;obtain⟨q,k⟩:∃q:SR,q=⟨c,p,c.keep,p.ka,p.kc,F,r2,List.replicate N Iw,some ⟨tb,0,none⟩,N,List.replicate c.classes.length G7,some ⟨vb,0,none⟩,c.classes.length⟩:=⟨_,rfl⟩;refine ζb ϱ (ζs ((j.trans f).heap' C) ϱ λwz n d b0=>?_);replace n:Zf wz qb q:=by
   have e1:(List.replicate N Iw).length=N:=XH;have e2:(List.replicate c.classes.length G7).length=c.classes.length:=XH;rw[k];unfold Zf Zz;simp only[e1,e2];rw[<-V] at n;exact n
  have g:=(((K.trans l).trans j).trans f).since d (λz a e=>by omega);have b1:=T.size;have a8:Qc wz r2 (Ho c 0):=by
   exact(k3.grow ((a3.since a4 (λz a e=>by omega)).trans f)).far (k4 _ (λz e=>by have:=Xg C;omega)) d
  have h:=((L.grow (a1.since a2 (λz a e=>by omega))).grow j).grow f;have a9:Xj (λz=>z=qb) F.a:=by rw[i];intro b' off s e a;cases e;have:=Xg J;omega
  have B:Z4 wz F:=⟨h.rd.far a9 d,h.len,h.lc,h.rng⟩;have b2:=hf.keep;have M:Yp w p.ka:=λb' off s e=>hc.keep.block (by omega) e;have aa:X6 wz q (C3 c):=by
   rw[k];exact {
    conf:=hc.chg g
    kr:=(hc.chg g).keep
    ke:=rfl
    ra:=B
    rb:=by rw[i];show Xz _=Xz _;rw[YB]
    rs:=by rw[i];rfl
    la:=λb' off s e=>B.rd.block (by rw[i];show 0<(Xz _).length;rw[Dm];omega) e
    lk:=M.grow g.size
    rr:=a8
    rc:=k1
    rp:=k2
    tr:=K0 (rest:=[]) (by rw[YF];exact d.heap H (by omega)) O0
    tl:=by intro b' off s e;cases e;exact Xg (d.heap H (by omega))
    tc:=by rw[XH];exact XD _
    tn:=by show(List.replicate N Iw).length=(List.replicate c.slots.toNat none).length;rw[XH,XH,V];rfl
    te:=λo x t O P=>by
     have e1:=(XZ ..).symm.trans O;have e2:=(XZ ..).symm.trans P;split at e1 <;> split at e2 <;> first|(cases e1;done)|(cases e2;done)|(cases e1;cases e2;exact⟨rfl,λy e=>by cases e⟩)
    tq:=λt Q=>by rw[ZH Q];exact⟨Il _ _ _,λ_ _ _ e=>by cases e⟩
    mr:=K0 (rest:=[]) (by rw[YF];exact d.heap I (by omega)) O3
    ml:=by intro b' off s e;cases e;exact Xg (d.heap I (by omega))
    mc:=by rw[XH];exact XD _
    mn:=by show(List.replicate _ G7).length=(List.replicate _ none).length;rw[XH,XH]
    me:=λo x t O P=>by
     have e1:=(XZ ..).symm.trans O;have e2:=(XZ ..).symm.trans P;split at e1 <;> split at e2 <;> first|(cases e1;done)|(cases e2;done)|(cases e1;cases e2;exact⟨rfl,λy e=>by cases e⟩)}
  have R:∀S:Nat->Prop,(∀z,S z->z<w.heap.size)->Xj S p.ka->Aq S q:=λS D hk=>by
   rw[k];refine⟨hk,?_,k4 S (λz a=>by have:=D z a;omega),?_,λt Q=>?_,?_⟩
   ·rw[i];intro b' off s e a;cases e;have:=D _ a;omega
   ·intro b' off s e a;cases e;have:=D _ a;omega
   ·rw[ZH Q];intro b' off s e;cases e
   ·intro b' off s e a;cases e;have:=D _ a;omega
  exact ζR func37 n ϱ ⟨q,rfl,by rw[k],by rw[k],aa,R,g⟩
theorem Fg.up{S:Sto}(h:Fg c n0 w0 w1 F S s w')(hc:Xc Xe w w1):Fg c n0 w0 w F S s w':=by
 obtain⟨F',a,b,d⟩:=h;have:=hc.size;exact⟨F',a,λz e=>(b z e).imp id (by omega),hc.gr.trans d⟩
theorem Xjg{S:Sto}(h:Lv c n0 w0 w F S s)(u:G9)(hu:Iy w u)(hout:0<u.bs.length->Xj F u.ba):Xf prog 11 #[Zq S,.agg (Fj u).toArray] w
 (λv w'=>∃a cap,v=.tuple #[.slice a (Q6 c s u).length cap,.int .i64 (Ak c s u)]/\Rd .u8 w' a (Q6 c s u)/\(∀b off s',a=some ⟨b,off,s'⟩->w.heap.size<=b/\b<w'.heap.size)/\Fg c n0 w0 w F S (Qy c s u) w'):=by
 have z:=hu.kind;refine ζe func11 ntmps11 ϱ (ζn ϱ λub A e1 d f y=>?_);have m:=h.grow f;refine ζl d ϱ (Xa.div Xb rfl (by omega) (Fz (by omega)) rfl ?_);by_cases g:u.kind%7=0
 ·have eE:Ak c s u=Bj c s u.own u.a:=by unfold Ak;rw[if_pos g]
  have eS:Qy c s u=Ah c s u.own u.a:=by unfold Qy;rw[if_pos g]
  have eB:Q6 c s u=[]:=by unfold Q6;rw[if_neg (by omega)]
  refine ζy ϱ (ζl d ϱ (ζl d ϱ ?_));refine ζc rfl (Xet m u.own u.a) ?_;rintro _ n ⟨rfl,i⟩;refine ζa ϱ ?_;rw[eB];exact ζr func11 ϱ ⟨none,0,by rw[eE];rfl,Rd.nil _ _ _,(by intro b off s' e;cases e),by rw[eS];exact i.up f⟩
 by_cases j:u.kind%7=1
 ·have eE:Ak c s u=Yl s u.own:=by unfold Ak;rw[if_neg g,if_pos j]
  have eS:Qy c s u=B9 c s u.own:=by unfold Qy;rw[if_neg g,if_pos j]
  have eB:Q6 c s u=[]:=by unfold Q6;rw[if_neg (by omega)]
  refine ζf ϱ (ζy ϱ (ζl d ϱ ?_));refine ζc rfl (XaR m u.own) ?_;rintro _ n ⟨rfl,i⟩;refine ζa ϱ ?_;rw[eB];exact ζr func11 ϱ ⟨none,0,by rw[eE];rfl,Rd.nil _ _ _,(by intro b off s' e;cases e),by rw[eS];exact i.up f⟩
 by_cases k:u.kind%7=2
 ·have eE:Ak c s u=B0 c s u.own u.a:=by unfold Ak;rw[if_neg g,if_neg j,if_pos k]
  have eS:Qy c s u=Ao c s u.own u.a:=by unfold Qy;rw[if_neg g,if_neg j,if_pos k]
  have eB:Q6 c s u=[]:=by unfold Q6;rw[if_neg (by omega)]
  refine ζf ϱ (ζf ϱ (ζy ϱ (ζl d ϱ (ζl d ϱ ?_))));refine ζc rfl (Xjw m u.own u.a) ?_;rintro _ n ⟨rfl,i⟩;refine ζa ϱ ?_;rw[eB];exact ζr func11 ϱ ⟨none,0,by rw[eE];rfl,Rd.nil _ _ _,(by intro b off s' e;cases e),by rw[eS];exact i.up f⟩
 by_cases l:u.kind%7=3
 ·have eE:Ak c s u=Qp s u.own u.a u.b:=by unfold Ak;rw[if_neg g,if_neg j,if_neg k,if_pos l]
  have eS:Qy c s u=Ca c s u.own u.a u.b:=by unfold Qy;rw[if_neg g,if_neg j,if_neg k,if_pos l]
  have eB:Q6 c s u=Di c s u.own u.a u.b:=by unfold Q6;rw[if_pos l]
  refine ζf ϱ (ζf ϱ (ζf ϱ (ζy ϱ (ζl d ϱ (ζl d ϱ (ζl d ϱ (ζc ϱ (Xew m u.own u.a u.b hu.a hu.b) ?_)))))));rintro _ n ⟨x,r,rfl,t,q,i⟩;refine ζa ϱ ?_;rw[eB,eE,eS];exact ζr func11 ϱ ⟨x,r,rfl,t,(λb off s' e=>⟨by have:=(q b off s' e).1;have:=f.size;omega,(q b off s' e).2⟩),i.up f⟩
 by_cases o:u.kind%7=4
 ·have eE:Ak c s u=Qp s u.own u.a u.bs.length:=by unfold Ak;rw[if_neg g,if_neg j,if_neg k,if_neg l,if_pos o]
  have eS:Qy c s u=Cw c s u.own u.a u.bs:=by unfold Qy;rw[if_neg g,if_neg j,if_neg k,if_neg l,if_pos o]
  have eB:Q6 c s u=[]:=by unfold Q6;rw[if_neg (by omega)]
  refine ζf ϱ (ζf ϱ (ζf ϱ (ζf ϱ (ζy ϱ (ζl d ϱ (ζl d ϱ (ζl d ϱ ?_)))))));refine ζc rfl (Xex m u.own u.a u.ba u.bc u.bs hu.a (hu.rd.chg f) hu.lc (by have:=hu.lc;have:=hu.len;omega) hu.rng hout) ?_;rintro _ n ⟨rfl,i⟩;refine ζa ϱ ?_;rw[eB];exact ζr func11 ϱ ⟨none,0,by rw[eE];rfl,Rd.nil _ _ _,(by intro b off s' e;cases e),by rw[eS];exact i.up f⟩
 by_cases p:u.kind%7=5
 ·have eE:Ak c s u=0:=by unfold Ak;rw[if_neg g,if_neg j,if_neg k,if_neg l,if_neg o,if_pos p]
  have eS:Qy c s u=Ab c s:=by unfold Qy;rw[if_neg g,if_neg j,if_neg k,if_neg l,if_neg o,if_pos p]
  have eB:Q6 c s u=[]:=by unfold Q6;rw[if_neg (by omega)]
  refine ζf ϱ (ζf ϱ (ζf ϱ (ζf ϱ (ζf ϱ (ζy ϱ ?_)))));refine ζc rfl (Tt m) ?_;rintro _ n ⟨rfl,i⟩;refine ζa ϱ ?_;rw[eB];exact ζr func11 ϱ ⟨none,0,by rw[eE];rfl,Rd.nil _ _ _,(by intro b off s' e;cases e),by rw[eS];exact i.up f⟩
 ·have eE:Ak c s u=Cv s u.own u.a:=by unfold Ak;rw[if_neg g,if_neg j,if_neg k,if_neg l,if_neg o,if_neg p]
  have eS:Qy c s u=Dj s u.own u.a:=by unfold Qy;rw[if_neg g,if_neg j,if_neg k,if_neg l,if_neg o,if_neg p]
  have eB:Q6 c s u=[]:=by unfold Q6;rw[if_neg (by omega)]
  refine ζf ϱ (ζf ϱ (ζf ϱ (ζf ϱ (ζf ϱ (ζf ϱ (ζl d ϱ (ζl d ϱ ?_)))))));refine ζc rfl (Xjx m u.own u.a) ?_;rintro _ n ⟨rfl,i⟩;refine ζa ϱ ?_;rw[eB];exact ζr func11 ϱ ⟨none,0,by rw[eE];rfl,Rd.nil _ _ _,(by intro b off s' e;cases e),by rw[eS];exact i.up f⟩
theorem Xjf(c:Conf)(p:Qi)(w:World)(hc:Y1 w c p)(ht:Bd w)(hm:Ze c=true)(hp:c.pages<=512)(hk:Yp w p.ka):Xf prog 10 #[.agg (Zr c p).toArray] w
 (λv w'=>∃F S r n0,v=.tuple #[Zq S,.agg (Zz r).toArray]/\n0<=w'.heap.size/\Lv c n0 w w' F S (C3 c)/\S.R.lap=0/\X6 w' r (C3 c)/\(r.c=c/\r.cp=p)/\(∀T:Nat->Prop,(∀z,T z->z<w.heap.size\/F z)->Xj T p.ka->Aq T r)):=by
 refine ζe func10 ntmps10 ϱ (ζn ϱ λb w1 e1 U I a3=>ζn ϱ λqb V e2 J s a4=>?_);have t:=s.heap' U;have d:=I.trans s;refine ζl t ϱ (ζc ϱ (Xeu c p V (hc.chg d) (ht.grow d) hm) ?_);rintro _ C ⟨F,S,rfl,D,E,u,h⟩;have i:=d.trans h;refine ζa ϱ (ζl (h.heap' t) ϱ (ζc ϱ (Xli c p C (hc.chg i) hm hp) ?_));rintro _ w4 ⟨r,rfl,y,A,K,j,B⟩;refine ζa ϱ (ζn ϱ λxb w5 e5 L M a5=>ζs L ϱ λw6 G N a6=>?_);have f:=M.since N (λz a e=>by omega);refine ζd 3 Xe (by kernel_rfl) ϱ λO=>δl O G ϱ (δn O ϱ λW k=>?_);have m:=(B.trans (f.trans k)).heap' (h.heap' J);have g:=B.trans (f.trans k);have n:=D.grow g;have s3:=h.size;have a7:=g.size;refine ζs m ϱ λw8 H o a8=>?_;have P:¬F qb:=λa=>by have:=D.base qb a;omega
 have q:=(i.trans g).since o (λz a e=>by omega);have tl:0<w.heap.size:=by have:=World.block_lt_of_cell? w _ (ht 0 (by decide));exact this
 have Q:Lv c C.heap.size w w8 F S (C3 c):=by
  obtain⟨Fr,mo,k1⟩:=n.ok;obtain⟨l,a⟩:∃l,W.heap[qb]?=some (.cells (Value.int .i64 0::l).toArray 42 (0,0)):=⟨_,m⟩;exact⟨⟨Fr,mo,(k1.old a P (by decide) (λx e=>by cases e) (by omega) (by rw[u];intro off s' e;have:=hc.classes.block (by have:=(Yq hm).n;omega) e;omega) (by rw[u];intro off s' e;have:=hk _ _ _ e;omega) o)⟩,n.inv,n.sc,n.fx,λz a=>by have:=n.base z a;omega,q⟩
 exact ζq rfl func10 (Xl.tmp rfl (Xl.cell rfl rfl rfl H rfl .nil)) ⟨F,S,r,C.heap.size,rfl,by omega,Q,E,((K.grow (f.trans k)).far (j _ (λz e=>by omega) (λb' off s' e a=>by have:=hk _ _ _ e;omega)) (by rw[y,A];exact hc.chg q) o),⟨y,A⟩,λT hT R=>j T (λz a=>(hT z a).elim (by omega) (λa=>D.low z a)) R⟩
section
variable {c:Conf}{s:StM}{pd:Option (Nat×PlcM)}
theorem XgR{q:PlcM}(h:s.OkP c (some (o,q)))(ht:0<=s.rm.tot/\s.rm.tot<=999999900000):0<=(A4 c s q).rm.tot/\(A4 c s q).rm.tot<=s.rm.tot+40000:=by
 obtain⟨e,i,j⟩:=Xdn h.rm q;have a:0<=(Ym s.rm q).tot/\(Ym s.rm q).tot<=s.rm.tot+10000:=by
  rw[<-e];show 0<=Xx s.rm.tot _/\Xx s.rm.tot _<=_
  rw[Bn (by omega)];omega
 have b:=h.dropped;unfold A4;split
 ·show 0<=(Ym s.rm q).tot/\(Ym s.rm q).tot<=_
  omega
 ·have d:=Vh b q.cls.toNat ⟨a.1,by have:=a.2;show(Ym s.rm q).tot<=_;omega⟩;have g:(X7 c {s with rm:=Ym s.rm q} q.cls.toNat).rm.tot<=(Ym s.rm q).tot+10000:=d.2;have f:=Xcc (b.begin q.cls.toNat) q.cls.toNat c.step ⟨d.1,by omega⟩;exact⟨f.1,by omega⟩
theorem XgS(o:Int)(i n:Nat)(hn:n<=25000000)(ht:0<=s.rm.tot/\s.rm.tot<=1000000000000):0<=(Q0 s o i n).rm.tot/\(Q0 s o i n).rm.tot<=s.rm.tot+n:=by
 unfold Q0;split
 ·rename_i m _
  split
  ·have a:Q3 i n m.gone<=n:=by unfold Q3;omega
   show 0<=Xx s.rm.tot _/\Xx s.rm.tot _<=_
   rw[Bn (by omega)];omega
  ·omega
 ·omega
theorem XgQ(q:Plc)(i n:Nat)(hm:Ze c=true)(hn:n<=25000000)(ht:0<=s.rm.tot/\s.rm.tot<=1000000000000):0<=(Y6 s (X8 c q i n)).rm.tot/\(Y6 s (X8 c q i n)).rm.tot<=s.rm.tot+(2*n+1):=by
 have:=I4 (q:=q) (at':=i) (n:=n) hm;show 0<=Xx s.rm.tot _/\Xx s.rm.tot _<=_
 rw[Bn (by omega)];omega
theorem Xm1{u:G9}(h:s.Ok c)(ht:0<=s.rm.tot/\s.rm.tot<=900000000000):0<=(Qy c s u).rm.tot/\(Qy c s u).rm.tot<=s.rm.tot+1000000000:=by
 have z:=(Yq h.may).most.2;unfold Qy;split
 ·unfold Ah;split
  ·rename_i d
   obtain⟨j,e,w,x,n⟩:=Sn d;rw[e];have:=Xcd h j w u.a (StM.OkP.lay h x n (by rintro _ _ ⟨⟩)) ⟨ht.1,by omega⟩;omega
  ·omega
 split
 ·unfold B9;split
  ·omega
  ·rename_i y
   obtain⟨j,t,e,a⟩:=Ig (Decidable.not_not.1 y);rw[e,Y8 a];obtain⟨t',b,_,_,_,f⟩:=Lp h a;rw[Y8 b,XA];have i:=Vi h t.q.cls ⟨ht.1,by omega⟩;have p:=XgR ((Js h t.q.cls).ok.away b f) ⟨i.1,by have:=i.2;show(Zi s t.q.cls).rm.tot<=_;omega⟩;refine⟨p.1,Int.le_trans p.2 ?_⟩;show(Zi s t.q.cls).rm.tot+40000<=_
   omega
 split
 ·unfold Ao;split
  ·omega
  ·rename_i d
   obtain⟨j,t,e,a,A,g⟩:=Uj (Decidable.not_not.1 d);have m:=h.size j t a;rw[e,Ds a,Y8 a];split
   ·split
    ·have o:(Xz (t.size-u.a).toNat).length<=25000000:=by rw[Dm];omega
     have b:=Oz (s:=s) h.may t.q u.a.toNat (Xz (t.size-u.a).toNat) ⟨ht.1,by omega⟩ o;rw[Dm] at o b;have f:=XgS (s:=Dk (Ya c s t.q u.a.toNat (Xz (t.size-u.a).toNat)) (j:Nat) ⟨u.a,t.q⟩) (j:Nat) u.a.toNat (t.size-u.a).toNat o ⟨b.1,by have:=b.2;show(Ya c s t.q u.a.toNat _).rm.tot<=_;omega⟩;exact⟨f.1,by have:=f.2;have:=b.2;have e:(Dk (Ya c s t.q u.a.toNat (Xz (t.size-u.a).toNat)) (j:Nat) ⟨u.a,t.q⟩).rm.tot=(Ya c s t.q u.a.toNat (Xz (t.size-u.a).toNat)).rm.tot:=rfl;omega⟩
    ·show 0<=s.rm.tot/\s.rm.tot<=_
     omega
   ·rename_i q
    rcases g with g|⟨g,n⟩
    ·exact absurd g q
    ·obtain⟨t',M⟩:=N6 h a g n;have r:=(List.getElem?_eq_some_iff.1 M.th1).1;unfold Hw;simp only
     rw[Y8 a,Y8 M.th1,Ds a];have i:=Vi h t.q.cls ⟨ht.1,by omega⟩;have b:=XgQ (s:=Zi s t.q.cls) t'.q.plc 0 (min t.size u.a).toNat h.may (by omega) ⟨i.1,by omega⟩;have f:=Xcd (M.ok1.tot (X8 c t'.q.plc 0 (min t.size u.a).toNat)) j r u.a M.ok2 ⟨b.1,by omega⟩;have k:(Yr c t'.q.plc (Zi s t.q.cls).bs 0 (min t.size u.a).toNat).length=(min t.size u.a).toNat:=by unfold Yr;rw[XN,ZR]
     have l:=Oz (s:=Yw c (Y6 (Zi s t.q.cls) (X8 c t'.q.plc 0 (min t.size u.a).toNat)) (j:Nat) u.a) h.may (Yz (Yw c (Y6 (Zi s t.q.cls) (X8 c t'.q.plc 0 (min t.size u.a).toNat)) (j:Nat) u.a) (j:Nat)) 0 (Yr c t'.q.plc (Zi s t.q.cls).bs 0 (min t.size u.a).toNat) ⟨f.1,by omega⟩ (by rw[k];omega);rw[k] at l;have v:=XgR (M.ok2.put _ 0 (Ms M.ok1.bi _ _)) ⟨l.1,by omega⟩;exact⟨v.1,by have:=v.2;omega⟩
 split
 ·unfold Ca;split
  ·rename_i d
   obtain⟨j,t,e,a,_,_,l⟩:=Vm d;have m:=h.size j t a;have:=XgQ (s:=s) (Yz s u.own).plc u.a.toNat u.b.toNat h.may (by omega) ⟨ht.1,by omega⟩;omega
  ·omega
 split
 ·unfold Cw;split
  ·rename_i d
   obtain⟨j,t,e,a,_,_,l⟩:=Vm d;have m:=h.size j t a;have b:=Oz (s:=s) h.may (Yz s u.own) u.a.toNat u.bs ⟨ht.1,by omega⟩ (by omega);have f:=XgS (s:=Ya c s (Yz s u.own) u.a.toNat u.bs) u.own u.a.toNat u.bs.length (by omega) ⟨b.1,by omega⟩;omega
  ·omega
 split
 ·have k:s.mv.length<=16:=by have:=h.ml;have:=(Yq h.may).n;omega
  have:=Xce h ⟨ht.1,by omega⟩ s.mv.length k;unfold Ab;omega
 ·unfold Dj;split
  ·show 0<=s.rm.tot/\s.rm.tot<=_
   omega
  ·omega
end
theorem Xj.or{A:Nat->Prop}(h1:Xj A a)(h2:Xj B a)(h:∀z,C z->A z\/B z):Xj C a:=λb off s e c=>(h b c).elim (h1 b off s e) (h2 b off s e)
theorem Z8.or{A B C:Nat->Prop}{r:RS}(h1:Z8 A r)(h2:Z8 B r)(h:∀z,C z->A z\/B z):Z8 C r:=⟨h1.o.or h2.o h,h1.f.or h2.f h,h1.nums.or h2.nums h,h1.opn.or h2.opn h,h1.pa.or h2.pa h,λl a=>(h1.each l a).or (h2.each l a) h⟩
theorem B1.or{A B C:Nat->Prop}{r:RR}(h1:B1 A r)(h2:B1 B r)(h:∀z,C z->A z\/B z):B1 C r:=⟨h1.o.or h2.o h,h1.f.or h2.f h,h1.sa.or h2.sa h,λs a=>(h1.each s a).or (h2.each s a) h,h1.la.or h2.la h,λq b=>(h1.lgo q b).or (h2.lgo q b) h⟩
theorem Aq.or{A B C:Nat->Prop}{r:SR}(h1:Aq A r)(h2:Aq B r)(h:∀z,C z->A z\/B z):Aq C r:=⟨h1.k.or h2.k h,h1.ra.or h2.ra h,h1.rr.or h2.rr h,h1.ta.or h2.ta h,λt a=>(h1.tq t a).or (h2.tq t a) h,h1.ma.or h2.ma h⟩
structure Bs(c:Conf)(p:Qi)(n0:Nat)(w0 w:World)(F:Nat->Prop)(s:StM)(r:SR)(xb:Nat):Prop where
 sr:X6 w r s
 rc:r.c=c/\r.cp=p
 out:Aq F r
 xr:Aq (λz=>z=xb) r
 box:Zf w xb r
 xo:n0<=xb/\w0.heap.size<=xb/\¬F xb
section
variable {c:Conf}{p:Qi}{n0:Nat}{w0 w w':World}{F F':Nat->Prop}{S S':Sto}{s s':StM}{r:SR}{xb:Nat}
theorem Bs.grow(h:Bs c p n0 w0 w F s r xb)(hc:Xc Xe w w'):Bs c p n0 w0 w' F s r xb:=⟨h.sr.grow hc,h.rc,h.out,h.xr,hc.heap' h.box,h.xo⟩
theorem Bs.prog(h:Bs c p n0 w0 w F s r xb)(hc:Y1 w' c p)(hF:∀z,F' z->F z\/w.heap.size<=z)(hch:Xc F w w'):Bs c p n0 w0 w' F' s r xb:=
 ⟨h.sr.far h.out (by rw[h.rc.1,h.rc.2];exact hc) hch,h.rc,h.out.or (h.sr.out λ_ a=>a) hF,h.xr,hch.heap h.box h.xo.2.2,h.xo.1,h.xo.2.1,λa=>(hF _ a).elim h.xo.2.2 λg=>by have:=Xg h.box;omega⟩
end
abbrev Xdv(n:Nat)(E:Int)(x:SR×Option Addr×Nat):Value:=.tuple #[.agg (Zz x.1).toArray,.slice x.2.1 n x.2.2,.int .i64 E]
abbrev Td(w:World)(r:SR)(s':StM)(bs:List Int)(x:SR×Option Addr×Nat)(w2:World):Prop:=X6 w2 x.1 s'/\Zy w r x.1/\Xc Xe w w2/\Rd .u8 w2 x.2.1 bs/\∀b off s',x.2.1=some ⟨b,off,s'⟩->w.heap.size<=b
abbrev Xdw(x:SR×Option Addr×Nat)(b:Nat):Prop:=Aq (λz=>z=b) x.1/\Xj (λz=>z=b) x.2.1
theorem Xix{w:World}{r:SR}{s':StM}:∀x w2 w3,Td w r s' bs x w2->Xc Xe w2 w3->Td w r s' bs x w3:=λ_ _ _ ⟨a,b,c,d,e⟩ f=>⟨a.grow f,b,c.trans f,d.chg f,e⟩
theorem Xle{c:Conf}{p:Qi}{n0:Nat}{w0 w:World}{F:Nat->Prop}{s:StM}{r:SR}{xb:Nat}(h:Bs c p n0 w0 w F s r xb)(u:G9)(hs:s.Ok c)(hu:Iy w u)(ht:0<=s.rm.tot/\s.rm.tot<=999900000000):∀w',Xc Xe w w'->Xf prog 12 #[.agg (Zz r).toArray,.agg (Fj u).toArray] w' (λv w2=>Xc Xe w' w2/\∃x,v=Xdv (Q6 c s u).length (Ak c s u) x/\Td w r (Qy c s u) (Q6 c s u) x w2/\∀b,w.heap.size<=b->(b<w'.heap.size\/w2.heap.size<=b)->Xdw x b):=λw' d=>by
 have g:=Xld u (h.sr.grow d) (by rw[h.rc.1];exact hs) (hu.grow d) ht;rw[h.rc.1] at g;refine g.mono λv w2 ⟨r',a,cap,e,k,i,f⟩=>⟨f.2.2,(r',a,cap),e,⟨f.1,f.2.1.back d.size,d.trans f.2.2,k,λb off s' e=>?_⟩,λb l j=>⟨XbT h.sr f.1 f.2.1 b l j,λb' off s' e m=>?_⟩⟩
 ·have:=(i b off s' e).1;have:=d.size;omega
 ·have:=i b' off s' e;omega
theorem Xeb{w:World}{r:SR}{s:StM}{c:Conf}(h:X6 w r s)(hs:s.OkP c pd)(k:Int)(hk : -9223372036854775808<=k/\k<=9223372036854775807):Xf prog 23 #[.agg (Zz r).toArray,.int .i64 k] w (Grow (.int .i64 (X1 s.rm k:Nat)) w):=by
 have f:=h.rr.n;have n:=h.rr.few;refine ζe func23 ntmps23 ϱ (ζn ϱ λb t e1 i a q=>?_);have l:=h.grow a;by_cases o:k<0
 ·have e:X1 s.rm k=0:=by unfold X1;rw[Md o]
  rw[e];exact ζy ϱ (ζr func23 ϱ ⟨rfl,a⟩)
 ·refine ζf ϱ (ζl i ϱ ?_);by_cases u:(r.rr.ss.length:Int)<=k
  ·have e:X1 s.rm k=0:=by unfold X1;rw[Me (.inr (by rw[show(Yv s.rm).shs=s.rm.shs from rfl] at f;omega))]
   rw[e];exact ζy ϱ (ζr func23 ϱ ⟨rfl,a⟩)
  ·obtain⟨j,rfl⟩:=XE (show 0<=k by omega);have m:j<r.rr.ss.length:=by omega
   have g:j<s.rm.shs.length:=by rw[show(Yv s.rm).shs=s.rm.shs from rfl] at f;omega
   obtain⟨pk,p,_⟩:=l.rr.each j _ _ (XB m) (XB g);have eO:X1 s.rm (j:Nat)=r.rr.ss[j].opn.x.length:=by
    unfold X1;rw[J4 g];show s.rm.shs[j].opn.length=_
    rw[p.e5,XN]
   obtain⟨ab,aoff,ea,d⟩:=l.rr.sr.at m;refine ζf ϱ (ζl i ϱ ?_);rw[ea];refine ζi (j*7) ϱ (ζk ϱ (d 6 _ rfl) ϱ ?_);rw[eO];exact ζr func23 ϱ ⟨rfl,a⟩
section
variable {c:Conf}{s:StM}{pd:Option (Nat×PlcM)}
end
def C1(l:List Nat)(n:Nat):Nat:=l.length+if n∈l then 0 else 1
theorem Tc(l:List Nat)(n:Nat):l.length<=C1 l n:=Nat.le_add_right _ _
def Qd(M:RmM)(k:Int):List Nat:=match X0 M k with|none=>[]|some x=>x.opn
theorem Gu(M:RmM)(k:Int):(Qd M k).length=X1 M k:=by
 unfold Qd X1;cases X0 M k <;> rfl
theorem Ra{M:RmM}{k:Int}(h:X0 M k=some x):Qd M k=x.opn:=by unfold Qd;rw[h]
theorem XdK{l:List Nat}(hn:l.Nodup)(hm:n∈l):(l.filter (λm=>m != n)).length+1=l.length:=by
 rw[<-hn.erase_eq_filter n,List.length_erase_of_mem hm];have:=List.length_pos_of_mem hm;omega
theorem Xiu{l:List Nat}(hn:l.Nodup)(hm:n∈l)(m:Nat):C1 (l.filter (λz=>z != n)) m<=C1 l m:=by
 have:=XdK hn hm;have a:=Tc l m;have b:C1 (l.filter (λz=>z != n)) m<=(l.filter (λz=>z != n)).length+1:=by
  unfold C1;split <;> omega
 omega
theorem XlT{pl:PlM}(hok:x.Ok):(x.opn≠[]->(∀m,C1 (Z7 x pl who).opn m<=C1 x.opn m)/\(Z7 x pl who).opn.length<=x.opn.length)/\(x.opn=[]->(Z7 x pl who).opn.length<=1):=by
 rcases Jl x pl who with⟨_,h,_⟩|⟨_,_,⟨n,r,a,h,_⟩|⟨n,r,a,_,h,_⟩⟩
 ·rw[h];exact⟨λ_=>⟨λ_=>XD _,XD _⟩,λe=>by rw[e];exact XK _⟩
 ·rw[h];refine⟨λ_=>?_,λe=>by rw[a] at e;cases e⟩;have b:n∈x.opn:=by rw[a];simp
  unfold Sm.takeAt;simp only
  split
  ·exact⟨λm=>Xiu hok.onodup b m,by have:=XdK hok.onodup b;omega⟩
  ·exact⟨λ_=>XD _,XD _⟩
 ·rw[h];refine⟨λe=>absurd a e,λ_=>?_⟩;unfold Sm.takeAt Sm.fresh;simp only
  rw[a];split
  ·exact ZY (λm=>m != n) [n]
  ·exact XD _
theorem XfY{n i:Int}(hok:x.Ok):(Zv x n i).opn.length<=C1 x.opn n.toNat/\((Zv x n i).opn.length<=x.opn.length\/∃(m:Nat) (p:List Int),n=m/\m∉x.opn/\(Zv x n i).opn=m::x.opn/\Za (Zv x n i).pg m=some p/\Xu p+1=(Zv x n i).blocks):=by
 have a:=Tc x.opn n.toNat;unfold Zv;cases j:Za x.pg n with
 |none=>exact⟨a,.inl (XD _)⟩
 |some p=>
  obtain⟨m,rfl,f⟩:=En j;simp only
  by_cases d:Qu p i=0
  ·rw[if_pos d,XA];rw[XA] at a;have k:=T5 d;obtain⟨e1,e2,e3⟩:=hok.each _ f;simp only at e3
   unfold Sm.giveAt;simp only
   by_cases e:Xu p=x.blocks
   ·have c:m∉x.opn:=λh=>e3.1 h e;rw[if_pos e];by_cases b:Xu (Zu p i)=0
    ·rw[if_pos b];have g:((m::x.opn).filter (λz=>z != m)).length<=x.opn.length:=by
      rw[ZA,if_neg (by simp)];exact ZY _ _
     exact⟨ZE g a,.inl g⟩
    ·rw[if_neg b];refine⟨by unfold C1;rw[if_neg c];exact XD _,.inr ⟨m,Zu p i,rfl,c,rfl,?_,?_⟩⟩
     ·show Za (Zk x.pg m (Zu p i)) (m:Nat)=_
      rw[Mm hok.nodup f,if_pos rfl]
     ·show Xu (Zu p i)+1=x.blocks
      omega
   ·rw[if_neg e];by_cases b:Xu (Zu p i)=0
    ·rw[if_pos b];have:=ZY (λz=>z != m) x.opn;exact⟨ZE this a,.inl this⟩
    ·rw[if_neg b];exact⟨a,.inl (XD _)⟩
  ·rw[if_neg d];exact⟨a,.inl (XD _)⟩
section
variable {c:Conf}{M:RmM}
theorem Rb(hn:n<M.shs.length)(x':Sm)(q:PlM)(j:Int):Qd (D2 M n x' q) j=if j=n then x'.opn else Qd M j:=by
 unfold Qd;rw[show X0 (D2 M n x' q) j=X0 (Ct M n x' q) j from rfl,Je hn];by_cases a:j=n
 ·rw[if_pos a,if_pos a]
 ·rw[if_neg a,if_neg a]
theorem XgG(h:Ys c M)(k who:Int):(∀j,j≠k->Qd (Zx M k who) j=Qd M j)/\(Qd M k≠[]->(∀m,C1 (Qd (Zx M k who) k) m<=C1 (Qd M k) m)/\X1 (Zx M k who) k<=X1 M k)/\(Qd M k=[]->X1 (Zx M k who) k<=1):=by
 rw[<-Gu,<-Gu];unfold Zx;cases d:X0 M k with
 |none=>
  have e:Qd M k=[]:=by unfold Qd;rw[d]
  refine⟨λ_ _=>rfl,λh=>absurd e h,λ_=>?_⟩;simp only
  rw[e];exact XK _
 |some x=>
  obtain⟨n,rfl,f,g⟩:=Cr d;simp only
  split
  ·obtain⟨a,b⟩:=XlT (pl:=M.pl) (who:=who) (h.mok.sh n x g).1;rw[XA,Rb f,if_pos rfl,Ra d];exact⟨λj i=>by rw[Rb f,if_neg i],a,b⟩
  ·exact⟨λ_ _=>rfl,λ_=>⟨λ_=>XD _,XD _⟩,λh=>by rw[h];exact XK _⟩
theorem XaA(h:Ys c M)(k n i:Int):(∀j,j≠k->Qd (Yo M k n i) j=Qd M j)/\X1 (Yo M k n i) k<=C1 (Qd M k) n.toNat/\(X1 (Yo M k n i) k<=X1 M k\/∃(m:Nat) (x:Sm) (p:List Int),n=m/\m∉Qd M k/\X0 (Yo M k n i) k=some x/\x.opn=m::Qd M k/\Za x.pg m=some p/\Xu p+1=x.blocks):=by
 rw[<-Gu,<-Gu];have e:=Tc (Qd M k) n.toNat;unfold Yo;cases f:X0 M k with
 |none=>exact⟨λ_ _=>rfl,e,.inl (XD _)⟩
 |some x=>
  obtain⟨l,rfl,d,g⟩:=Cr f;simp only
  split
  ·obtain⟨a,b⟩:=XfY (n:=n) (i:=i) (h.mok.sh l x g).1;rw[XA,Rb d,if_pos rfl,Ra f];refine⟨λj o=>by rw[Rb d,if_neg o],a,b.imp id ?_⟩;rintro⟨m,p,e1,e2,e3,e4,e5⟩;refine⟨m,Zv x n i,p,e1,e2,?_,e3,e4,e5⟩;rw[show X0 (D2 M l (Zv x n i) (Ag x M.pl n i)) (l:Nat)=X0 (Ct M l (Zv x n i) (Ag x M.pl n i)) (l:Nat) from rfl,Je d,if_pos rfl]
  ·exact⟨λ_ _=>rfl,e,.inl (XD _)⟩
theorem XeU(M:RmM)(k n i who j:Int):Qd (Qe M k n i who) j=Qd M j:=by
 unfold Qe;cases b:X0 M k with
 |none=>rfl
 |some x=>
  obtain⟨l,rfl,c,d⟩:=Cr b;simp only
  rw[XA];by_cases a:j=(l:Nat)
  ·have e:X0 (Ct M l (Au x n i who) M.pl) j=some (Au x n i who):=by rw[Je c,if_pos a]
   rw[Ra e,a,Ra b];unfold Au;split <;> rfl
  ·unfold Qd;rw[Je c,if_neg a]
theorem XiC(M:RmM){q:PlcM}(h:q.cls<0)(j:Int):Qd (Ym M q) j=Qd M j:=by
 unfold Ym;split
 ·unfold Yo;rw[Md h]
 ·split
  ·rfl
  ·split <;> rfl
end
theorem Kc{s s':StM}{v:Option MvM}(hs:s'.mv=s.mv.set k v){i:Int}(hi:i≠k):Xo s' i=Xo s i:=by
 unfold Xo;rw[hs];by_cases h:0<=i
 ·rw[if_pos h,if_pos h,XC,XC,XM (by omega)]
 ·rw[if_neg h,if_neg h]
theorem Ov{s s':StM}(hs:s'.mv=s.mv.set k none):Xo s' (k:Nat)=none:=by
 unfold Xo;rw[hs,if_pos (by omega),XA,XC];by_cases h:k<s.mv.length
 ·rw[XF h];rfl
 ·rw[XV (by rw[XG];omega)];rfl
def Hp(s:StM)(k:Nat):Nat:=match Xo s (k:Nat) with|none=>X1 s.rm (k:Nat)|some m=>C1 (Qd s.rm (k:Nat)) m.pf.toNat
def OI(s:StM):Prop:=∀k:Nat,(Hp s k:Int)<=s.keep.getD k 0+1
theorem L5{s:StM}(h:Xo s (k:Nat)=none):Hp s k=X1 s.rm (k:Nat):=by unfold Hp;rw[h]
theorem L6{s:StM}(h:Xo s (k:Nat)=some m):Hp s k=C1 (Qd s.rm (k:Nat)) m.pf.toNat:=by unfold Hp;rw[h]
theorem L4{s s':StM}(e1:Qd s'.rm (k:Nat)=Qd s.rm (k:Nat))(e2:Xo s' (k:Nat)=Xo s (k:Nat)):Hp s' k=Hp s k:=by
 unfold Hp;rw[e2,e1,<-Gu,<-Gu,e1]
theorem OI.of{s s':StM}(h:OI s)(e:∀k,Hp s' k<=Hp s k)(ek:s'.keep=s.keep):OI s':=λk=>by
 have a:=h k;have b:=e k;rw[ek];omega
theorem OI.le{s:StM}(h:OI s)(k:Nat):(X1 s.rm (k:Nat):Int)<=s.keep.getD k 0+1:=by
 have a:=h k;cases b:Xo s (k:Nat) with
 |none=>rw[L5 b] at a;exact a
 |some m=>
  rw[L6 b] at a;have:=Tc (Qd s.rm (k:Nat)) m.pf.toNat;rw[Gu] at this;omega
section
variable {c:Conf}{s s':StM}{pd:Option (Nat×PlcM)}
theorem Px(h:s.OkP c pd)(k:Nat):0<=s.keep.getD k 0:=by
 rw[XC];by_cases a:k<s.keep.length
 ·rw[XB a];exact(h.kr _ (XL a)).1
 ·rw[XV (by omega)];exact YI _
theorem Nr{a b:Int}:Eb a b=true↔b+1<a:=by
 unfold Eb;simp only[XJ,decide_eq_true_eq];omega
theorem OI.begin(h:OI s)(k:Nat):X7 c s k=s:=by
 unfold X7;rw[if_neg];intro a;unfold Qk at a;simp only[XJ] at a;have:=Nr.1 a.1.2;have:=h.le k;omega
theorem OI.go(h:OI s)(hs:s.Ok c)(k:Nat)(n:Int):OI (Zo s k n):=by
 unfold Zo;cases b:Xo s (k:Nat) with
 |none=>exact h
 |some m=>
  obtain⟨j,ej,e,d⟩:=Qt b;obtain rfl:k=j:=by omega
  simp only
  split
  ·refine h.of (λi=>Nat.le_of_eq ?_) rfl;by_cases a:i=k
   ·subst a;rw[L6 b,L6 (Bq (j:=i) (show(s.mv.set i _)[i]?=_ from XF e))];rfl
   ·exact L4 rfl (Kc rfl (by omega))
  ·obtain⟨f,g,_⟩:=XaA (StM.OkP.step hs d n).rm (k:Nat) m.pf m.fa;refine h.of (λi=>?_) rfl;by_cases a:i=k
   ·subst a;rw[L6 b,L5 (Ov rfl)];exact g
   ·exact Nat.le_of_eq (L4 (f _ (by omega)) (Kc rfl (by omega)))
theorem OI.finish(h:OI s)(hs:s.Ok c)(κ:Int):OI (Zi s κ):=by
 unfold Zi;split
 ·exact h
 ·exact h.go hs _ _
theorem OI.clear{q:PlcM}(h:OI s)(hs:s.OkP c (some (o,q)))(hn:Xo s q.cls=none):OI (A4 c s q):=by
 unfold A4;split
 ·rename_i B
  exact h.of (λi=>Nat.le_of_eq (L4 (XiC _ B _) rfl)) rfl
 ·rename_i S
  refine OI.go ?_ (StM.OkP.begin hs.dropped _) _ _;obtain⟨k,C⟩:=XE (show 0<=q.cls by omega);have g:=hs.dropped;rw[Um (by omega),C] at g;rw[Um (by omega),C,XA];rw[C] at hn;obtain⟨D,_,E⟩:=XaA hs.rm (k:Nat) q.page q.idx;have a0:=h.le k;obtain⟨b,eM⟩:∃b,b=Yo s.rm (k:Nat) q.page q.idx:=⟨_,rfl⟩;rw[<-eM] at D E g⊢;have y:Xo {s with rm:=b} (k:Nat)=none:=hn;by_cases l:Qk {s with rm:=b} k=true
  ·have A:=Pb g l;obtain⟨ob,tb,ew,_⟩:=A.who;replace ew:Zh b k (Yc b k).1 (Yc b k).2.1=ob:=ew;have n:=l;unfold Qk at n;simp only[XJ] at n;have F:s.keep.getD k 0+1<(X1 b (k:Nat):Int):=Nr.1 n.1.2;rcases E with E|⟨m,x,p,_,I,f,d,J,a2⟩
   ·omega
   obtain⟨j,ej,K,L⟩:=Cr f;obtain rfl:k=j:=by omega
   have M:=(g.rm.mok.sh k x L).1;obtain⟨m',em,N⟩:=En J;obtain rfl:m=m':=by omega
   have O:=(M.each _ N).2.1;have P:Qg x b.pl (ob:Nat)=0:=by
    unfold Qg;rw[if_neg (by omega),if_neg (by rw[d];simp)]
   have T:Qd (Zx b (k:Nat) (ob:Nat)) (k:Nat)=Qd s.rm (k:Nat):=by
    have e1:Zx b (k:Nat) (ob:Nat)=D2 b k (Z7 x b.pl (ob:Nat)) (A3 x b.pl (ob:Nat)):=by
     unfold Zx;rw[f];simp only
     rw[if_pos P,XA]
    rw[e1,Rb K,if_pos rfl];rcases Jl x b.pl (ob:Nat) with⟨a,_⟩|⟨_,_,⟨n',r,t,U,_,G,_⟩|⟨_,_,t,_⟩⟩
    ·exact absurd P a
    ·rw[d] at t;obtain rfl:m=n':=(List.cons.inj t).1;rw[J] at G;simp only[ZT] at G;rw[U,G];have a4:=I9 (p:=p) (who:=(ob:Nat)) (by omega) (by rw[O];show Xu p≠x.blocks;omega);unfold Sm.takeAt;simp only
     rw[if_pos (by omega),d,ZA,if_neg (by simp)];refine List.filter_eq_self.2 λz V=>?_;simp only[bne_iff_ne,ne_eq];exact λe=>I (e▸V)
    ·rw[d] at t;cases t
   have u:2<=x.opn.length:=by
    have:=Px hs k;rw[<-Gu,Ra f] at F;omega
   have Q:∃a∈Qd s.rm (k:Nat),(Yc b (k:Nat)).1=(a:Nat):=by
    have e1:(Yc b (k:Nat)).1=A5 (-1) x.opn:=by
     unfold Yc;rw[f];simp only
     unfold Jk;rw[if_pos u]
    rw[e1,d];rcases H9 ((m:Nat):Int) (Qd s.rm (k:Nat)) with⟨e,_⟩|⟨a,H,e,_⟩
    ·rw[d,e] at u;simp at u
    ·exact⟨a,H,e⟩
   obtain⟨a,H,epf⟩:=Q;have eS:X7 c {s with rm:=b} k={s with rm:=Zx b k (ob:Nat),mv:=s.mv.set k (some (Eh c b k))}:=by
    unfold X7;rw[if_pos l];simp only
    rw[ew]
   rw[eS];refine h.of (λi=>?_) rfl;by_cases v:i=k
   ·subst v;have R:i<s.mv.length:=by have:=hs.ml;have:=A.kl;omega
    rw[L5 hn,L6 (Bq (j:=i) (show(s.mv.set i _)[i]?=_ from XF R))];show C1 (Qd (Zx b (i:Nat) (ob:Nat)) (i:Nat)) (Yc b (i:Nat)).1.toNat<=_
    rw[T,epf,XA];unfold C1;rw[if_pos H,Gu];exact XD _
   ·refine Nat.le_of_eq (L4 ?_ (Kc rfl (by omega)));exact((XgG g.rm (k:Nat) (ob:Nat)).1 _ (by omega)).trans (D _ (by omega))
  ·have eS:X7 c {s with rm:=b} k={s with rm:=b}:=by unfold X7;rw[if_neg l]
   rw[eS];intro i;show(Hp {s with rm:=b} i:Int)<=s.keep.getD i 0+1
   by_cases v:i=k
   ·subst v;rw[L5 y];show(X1 b (i:Nat):Int)<=_
    by_cases W:s.keep.getD i 0+1<(X1 b (i:Nat):Int)
    ·refine absurd ?_ l;unfold Qk;rw[y,Nr.2 (show s.keep.getD i 0+1<(X1 b (i:Nat):Int) from W)];have w:2<=X1 b (i:Nat):=by have:=Px hs i;omega
     show(true && true && Dr b (i:Nat))=true
     unfold Dr;unfold X1 at w;cases f:X0 b (i:Nat) with
     |none=>rw[f] at w;simp at w
     |some x=>rw[f] at w;exact decide_eq_true w
    ·omega
   ·have e:=L4 (s:=s) (s':={s with rm:=b}) (k:=i) (D _ (by omega)) rfl;rw[e];exact h i
theorem OI.lay(h:OI s)(hs:s.OkP c pd)(o:Nat)(size:Int):OI (Yw c s (o:Nat) size):=by
 have f:=Px hs
 suffices r:OI (Zg c s (o:Nat) size) from r.of (λi=>XD _) rfl
 unfold Zg;cases a:Cd c s size with
 |none=>
  simp only
  unfold Aa;rw[if_neg (by omega)];split
  ·exact h
  ·split
   ·exact h.of (λi=>XD _) rfl
   ·obtain⟨t,g,l⟩:=XgG hs.rm (Xk c.classes size) (o:Nat);intro i;show(Hp {s with rm:=Zx s.rm (Xk c.classes size) (o:Nat)} i:Int)<=s.keep.getD i 0+1
    have hi:=h i;by_cases d:(i:Int)=Xk c.classes size
    ·rw[<-d] at g l⊢;cases b:Xo s (i:Nat) with
     |none=>
      rw[L5 b] at hi;rw[L5 (s:={s with rm:=Zx s.rm (i:Nat) (o:Nat)}) b];show(X1 (Zx s.rm (i:Nat) (o:Nat)) (i:Nat):Int)<=_
      by_cases n:Qd s.rm (i:Nat)=[]
      ·have:=l n;have:=f i;omega
      ·have:=(g n).2;omega
     |some m=>
      rw[L6 b] at hi;rw[L6 (s:={s with rm:=Zx s.rm (i:Nat) (o:Nat)}) b];have p:Qd s.rm (i:Nat)≠[]:=λe=>by
       have u:X1 s.rm (i:Nat)=0:=by rw[<-Gu,e];rfl
       unfold Cd at a;rw[<-d,b] at a;simp only at a
       rw[if_pos u] at a;cases a
      have:=(g p).1 m.pf.toNat;show(C1 (Qd (Zx s.rm (i:Nat) (o:Nat)) (i:Nat)) m.pf.toNat:Int)<=_
      omega
    ·have e:=L4 (s:=s) (s':={s with rm:=Zx s.rm (Xk c.classes size) (o:Nat)}) (k:=i) (t _ d) rfl;rw[e];exact hi
 |some m=>
  simp only
  unfold Cd at a;cases b:Xo s (Xk c.classes size) with
  |none=>rw[b] at a;cases a
  |some m'=>
   rw[b] at a;simp only at a
   split at a
   ·rename_i q
    obtain⟨j,ej,w,_⟩:=Qt b;rw[ej] at q⊢;rw[XA];intro i;have v:=f i;by_cases d:i=j
    ·subst d;rw[L5 (Ov (s:=s) (k:=i) rfl),<-Gu];show((Qd (Qe s.rm (i:Nat) m.pt m.ta (o:Nat)) (i:Nat)).length:Int)<=s.keep.getD i 0+1
     rw[XeU,Gu,q];omega
    ·have e:=L4 (s:=s) (s':=Y6 {s with mv:=s.mv.set j none,rm:=Qe s.rm (j:Nat) m.pt m.ta (o:Nat)} 3) (k:=i) (XeU ..) (Kc rfl (by omega));rw[e];exact(h i)
   ·cases a
theorem OI.wrote(h:OI s)(o:Int)(i n:Nat):OI (Q0 s o i n):=by
 unfold Q0;split
 ·split
  ·exact h.of (λi=>XD _) rfl
  ·exact h
 ·exact h
theorem OI.alloc(h:OI s)(hs:s.Ok c)(o size:Int):OI (Ah c s o size):=by
 unfold Ah;split
 ·rename_i a
  obtain⟨j,rfl,_,b,_⟩:=Sn a;exact h.lay hs _ _
 ·exact h
theorem OI.free(h:OI s)(hs:s.Ok c)(o:Int):OI (B9 c s o):=by
 unfold B9;split
 ·exact h
 ·rename_i d
  obtain⟨j,t,rfl,a⟩:=Ig (Decidable.not_not.1 d);rw[Y8 a,XA];obtain⟨t',b,_,e,_,f⟩:=Lp hs a;rw[Y8 b];refine OI.clear ((h.finish hs _).of (λi=>XD _) rfl) ((hs.finish t.q.cls).away b f) ?_;rw[e];exact(Js hs t.q.cls).mv
theorem Xjj(c:Conf)(s:StM)(o:Nat)(size:Int){κ:Int}(hne:Xk c.classes size=-1\/Xk c.classes size≠κ)(hm:Xo s κ=none):Xo (Yw c s (o:Nat) size) κ=none:=by
 show Xo (Zg c s (o:Nat) size) κ=none
 unfold Zg;cases a:Cd c s size with
 |none=>exact hm
 |some m=>
  have b:Xo s (Xk c.classes size)=some m:=by
   unfold Cd at a;cases e:Xo s (Xk c.classes size) with
   |none=>rw[e] at a;cases a
   |some m'=>
    rw[e] at a;simp only at a
    split at a
    ·exact a
    ·cases a
  obtain⟨j,ej,d,_⟩:=Qt b;simp only
  rw[ej,XA];by_cases e:κ=(j:Nat)
  ·rw[e];exact Ov rfl
  ·exact(Kc rfl e).trans hm
theorem OI.moveTo(h:OI s)(hs:s.Ok c){t:ThM}(ht:s.th[o]?=some (some t))(hst:Ap c t.size size=false)(hf:Qx c s size=0):OI (Hw c s o size):=by
 obtain⟨t',M⟩:=N6 hs ht hst hf;unfold Hw;simp only
 rw[Y8 ht,Y8 M.th1,Ds ht];have b:OI (Y6 (Zi s t.q.cls) (X8 c t'.q.plc 0 (min t.size size).toNat)):=(h.finish hs _).of (λi=>XD _) rfl;have d:=b.lay (M.ok1.tot _) o size;refine OI.clear (d.of (λi=>XD _) rfl) (M.ok2.put _ _ (Ms M.ok1.bi _ _)) ?_;rw[M.cls'];have a:=Xgj hst;rw[<-Xah hs ht] at a;exact Xjj c _ o size a (Js hs t.q.cls).mv
theorem OI.resize(h:OI s)(hs:s.Ok c)(o size:Int):OI (Ao c s o size):=by
 unfold Ao;split
 ·exact h
 ·rename_i d
  obtain⟨j,t,rfl,b,f,e⟩:=Uj (Decidable.not_not.1 d);rw[Ds b,Y8 b];split
  ·split
   ·exact(show OI (Dk (Ya c s t.q size.toNat (Xz (t.size-size).toNat)) (j:Nat) ⟨size,t.q⟩) from h.of (λi=>XD _) rfl).wrote _ _ _
   ·exact h.of (λi=>XD _) rfl
  ·rename_i a
   have a:Ap c t.size size=false:=by simpa using a
   exact h.moveTo hs b a (e.resolve_left (by rw[a];decide)).2
theorem OI.read(h:OI s)(o i n:Int):OI (Ca c s o i n):=by
 unfold Ca;split
 ·exact h.of (λi=>XD _) rfl
 ·exact h
theorem OI.write(h:OI s)(o i:Int)(l:List Int):OI (Cw c s o i l):=by
 unfold Cw;split
 ·exact(show OI (Ya c s (Yz s o) i.toNat l) from h.of (λi=>XD _) rfl).wrote _ _ _
 ·exact h
theorem OI.tickK(h:OI s)(hs:s.Ok c)(n:Int)(k:Nat):OI (tickK c (s,n) k).1:=by
 unfold Go.Proofs.YtohjeeapehmkcaaGreatDoor.tickK;rw[h.begin];split
 ·exact h
 ·split
  ·exact h
  ·exact h.go hs k _
theorem OI.tickTo(h:OI s)(hs:s.Ok c):∀n,OI (tickTo c s n).1
 |0=>h
 |n+1=>by rw[G5];exact OI.tickK (OI.tickTo h hs n) (hs.tickTo n) _ _
end
end Go.Proofs.YtohjeeapehmkcaaGreatDoor
