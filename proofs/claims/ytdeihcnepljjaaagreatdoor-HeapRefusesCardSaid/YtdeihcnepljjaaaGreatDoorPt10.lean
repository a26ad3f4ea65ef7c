/-
  Texts put together: Sr14, D3, Sr15, Laws22, Tb, Tb0, Tb1, Szs, Hp0, Flt, Hp1, Hp2, Hp3, Hpm.
-/
import Derived.Test.YtdeihcnepljjaaaGreatDoorPt9
import Derived.Test.YtdeihcnepljjaaaGreatDoorQRule25
import Derived.Test.YtdeihcnepljjaaaGreatDoorQRule24
import Derived.Test.YtdeihcnepljjaaaGreatDoorQRule9
set_option linter.unusedVariables false
set_option maxRecDepth 100000
namespace Go.Proofs.YtdeihcnepljjaaaGreatDoor
open Go.RowKit
open Go renaming World→dD,Value→dE
open Bool renaming and_eq_true->XK,false_eq_true->ZR,and_false->YE
open Decidable renaming not_not->YL
open Int renaming toNat_natCast->XB,eq_ofNat_of_zero_le->XE,mul_le_mul->ZG,mul_nonneg->ZJ,sub_self->YI,tdiv_eq_ediv_of_nonneg->YT,toNat_of_nonneg->QG
open List renaming getD_eq_getElem?_getD->XA,getElem?_eq_some_iff->XC,getElem?_eq_getElem->XD,length_set->XG,getElem?_set_self->XH,length_replicate->XI,getElem?_set_ne->XJ,getElem_mem->XM,getElem?_map->XN,length_cons->XO,nodup_cons->XU,length_map->XV,mem_of_getElem?->XW,mem_cons->ZB,getElem?_replicate->ZE,map_cons->ZK,length_range->ZM,mem_cons_self->ZP,map_congr_left->ZW,getElem?_set->ZX,map_set->ZZ,mem_cons_of_mem->YC,replicate_succ->YF,mem_replicate->Y2,any_eq_false->QE,sum_cons->QF
open Nat renaming le_refl->XF,zero_le->XQ,le_trans->ZN,mod_lt->QJ
open Go.Proofs.Tryz (func105 func108 func123 func141 func16 func166 func17 func20 func27 func49 func51 func52 func54 func55 func57 func60 func62 func65 func68 func69 func72 func85 ntmps105 ntmps108 ntmps123 ntmps141 ntmps16 ntmps166 ntmps17 ntmps20 ntmps27 ntmps49 ntmps51 ntmps52 ntmps54 ntmps55 ntmps57 ntmps60 ntmps62 ntmps65 ntmps68 ntmps69 ntmps72 ntmps85 prog)
variable {A:Ar}{V:ArV}{c:Conf}{l':IL}{ahead by' cS h cH size cN u who z:Int}{lg:List (Nat×List Nat)}{th:List (Option ThM)}{ps:List IL}{bs l p zs:List Int}{l2 ws:List Nat}{cs rest xs:List dE}{mo:Mo}{N at' b base cap d fuel g i j k lm lo m n o qb sz t tm ty vb xb y:Nat}{fz:Nat×Nat}{f:Nat->Int}{G:Nat->Pg}{B C F F' Fr Q S S' T X:Nat->Prop}{pd pd2:Option (Nat×PlcM)}{a:Option Addr}{pg:PgL}{pl':PlM}{q:Plc}{R:Rm}{M:RmM}{r:SR}{x x':Sm}{s s':StM}{α:Type}{v:dE}{w w' w'' w0 w1 w2:dD}{cells:α->List dE}
section
variable {c:Conf}{s:StM}{pd:Option (Nat×PlcM)}
theorem XnQ(h:s.OkP c pd)(o size:Int)(ht:0<=s.rm.tot/\s.rm.tot<=1000000000000):0<=(Yd c s o size).rm.tot/\(Yd c s o size).rm.tot<=s.rm.tot+10000:=by
 unfold Yd;cases b:Fy c s size with
 |none=>
  obtain⟨a,d,f⟩:=XdW h.rm o size;show 0<=(Av c s.rm o size).tot/\(Av c s.rm o size).tot<=_
  rw[<-a];show 0<=Xw s.rm.tot _/\Xw s.rm.tot _<=_
  rw[Cv (by omega)];omega
 |some m=>
  show 0<=Xw (Qu s.rm _ m.pt m.ta o).tot 3/\Xw (Qu s.rm _ m.pt m.ta o).tot 3<=_
  have e:(Qu s.rm (Xm c.bT size) m.pt m.ta o).tot=s.rm.tot:=by unfold Qu;split <;> rfl
  rw[e,Cv (by omega)];omega
theorem Pu(hm:Zb c=true)(q:PlcM)(i:Nat)(l:List Int)(ht:0<=s.rm.tot/\s.rm.tot<=1000000000000)(hl:l.length<=25000000):0<=(Yp c s q i l).rm.tot/\(Yp c s q i l).rm.tot<=s.rm.tot+2*l.length+1:=by
 have:=K9 (q:=q.cQ) (at':=i) (n:=l.length) hm;show 0<=Xw s.rm.tot _/\Xw s.rm.tot _<=_
 rw[Cv (by omega)];omega
theorem XcH(h:s.OkP c pd)(o:Nat)(ho:o<s.th.length)(size:Int)(hL:(Q3 c s (o:Nat) size).OkP c pd2)(ht:0<=s.rm.tot/\s.rm.tot<=999999900000):0<=(Q3 c s (o:Nat) size).rm.tot/\(Q3 c s (o:Nat) size).rm.tot<=s.rm.tot+50020000:=by
 have b:=XnQ h (o:Nat) size ⟨ht.1,by omega⟩;have a:(Q3 c s (o:Nat) size).th[o]?=some (some ⟨size,Yl c s (o:Nat) size⟩):=by
  show(s.th.set (o:Int).toNat _)[o]?=_
  rw[XB,XH ho]
 obtain⟨pv,ph,pf⟩:=Jc hL a;have f:=K2 (c:=c) (q:=(Yl c s (o:Nat) size).cQ) h.may pf;have d:=Pu (s:=Yd c s (o:Nat) size) h.may (Yl c s (o:Nat) size) 0 (X6 (Z5 c (Yl c s (o:Nat) size).cQ).toNat) ⟨b.1,by omega⟩ (by rw[Gt];omega);rw[Gt] at d;show 0<=(Yp c (Yd c s (o:Nat) size) _ _ _).rm.tot/\(Yp c (Yd c s (o:Nat) size) _ _ _).rm.tot<=_
 omega
end
set_option maxHeartbeats 1000000 in
theorem Xl5{s:StM}(h:Za w r s)(hs:s.Ok r.c)(o size:Int)(hz : -9223372036854775808<=size/\size<=9223372036854775807)(ht:0<=s.rm.tot/\s.rm.tot<=999900000000):Xf prog 141 #[.agg (Z8 r).toArray,.int .i64 o,.int .i64 size] w
 (λv w'=>∃r',v=.tuple #[.agg (Z8 r').toArray,.int .i64 (A8 r.c s o size)]/\Ej w r (Ag r.c s o size) r' w'):=by
 have E:=hs.may;have he:=Xao hs;have k0:=(Ye E).cH;refine aR func141 ntmps141 aA (bC aA λb w1 e1 hb hi k1=>bC aA λqb H e2 fe ff k2=>?_);have fg:=ff.bP hb;have bu:=hi.trans ff;have z2:=bu.size;have lq:=Xg fe;refine bB fg aA (bG (U5 (h.bQ bu) hs o) aA λw3 bo=>?_);have cy:=bo.bP fg;have cz:=bo.bP fe;have d0:=bu.trans bo;have no:∀{e:Int},A8 r.c s o size=e->e≠0->Ag r.c s o size=s:=λe1 e2=>by unfold Ag;rw[bK (by rw[e1];exact e2)]
 by_cases g0:Z7 s o=0
 .obtain⟨j,t,rfl,u⟩:=J0 g0;rw[g0];refine aS aA (bB cy aA (bG (XbM r.c r.cp size w3) aA λw4 bp=>?_));have bq:=bp.bP cy;have d1:=bp.bP cz;have b8:=d0.trans bp;by_cases gr:size<1\/r.c.cH<size
  .have e:A8 r.c s (j:Nat) size=3:=by unfold A8;rw[bJ (λe=>e g0),bK gr]
   rw[no e (by decide),e];have eb:(decide (1<=size) && decide (size<=r.c.cH))=false:=by
    rw[Bool.and_eq_false_iff,decide_eq_false_iff_not,decide_eq_false_iff_not];omega
   rw[eb];refine bI aA ?_;have bw:=bq;have bx:=d1;have bz:=b8;exact bB bw aA (bF bx aA λwr d2 d3 hj=>aK func141 d2 aA ⟨r,rfl,.self h (bz.sn d3)⟩)
  .have e:A8 r.c s (j:Nat) size=if A0 r.c t.size size=true then 0 else Yt r.c s size:=by unfold A8;rw[bJ (λe=>e g0),bJ gr,Ey u]
   have eb:(decide (1<=size) && decide (size<=r.c.cH))=true:=by
    rw[XK,decide_eq_true_iff,decide_eq_true_iff];omega
   rw[eb];have k3:=hs.size j t u;have h4:=h.bQ b8;obtain⟨k4,⟨v1,v2⟩,p1,p2,a0,off,eta,hl,_,fh⟩:=h4.trowP u;obtain⟨q,eq⟩:∃q:Plc,q=r.ts[j].q:=⟨_,rfl⟩;rw[<-eq] at v2 p1 p2 fh;refine aS aA (bB bq aA ?_);rw[eta];refine aU (j*5) aA (aW aA (hl _ rfl) aA ?_);rw[v1];refine bB bq aA ?_;rw[eta];refine aU (j*5) aA (Xa.loadC Xb ((Xv q)) rfl (by first|rfl|(simp;done)|(simp[*];done)|(simp;omega)) (fh) rfl ?_);rw[<-eta];refine bC aA λpb w5 e5 g2 hn k5=>bF g2 aA λw6 g3 hp k6=>?_;have c6:=hn.sn hp;have g4:=b8.trans c6;have hq:=c6.bP bq;refine bB hq aA (bG (Xl7 (h.bQ g4) hs t.size size (by omega) hz.2) aA λw7 d4=>?_);have j3:=d4;have I:=c6.trans d4;have W:=b8.trans I;have cj:=I.bP bq;have d5:=I.bP d1;have c7:=d4.bP g3;have hr:q.bS.length<=4096:=by have e:q.bS=t.q.bS:=congrArg PlcM.bS v2;rw[e];exact(Jc hs u).2.2
   by_cases M:A0 r.c t.size size=true
   .rw[bK M] at e;have eR:Ag r.c s (j:Nat) size=if size<t.size then Ah (Eb (Yp r.c s t.q size.toNat (X6 (t.size-size).toNat)) (j:Nat) ⟨size,t.q⟩) (j:Nat) size.toNat (t.size-size).toNat else Eb s (j:Nat) ⟨size,t.q⟩:=by
     unfold Ag;rw[bJ (λg=>g e),Ey u,Qr u,bK M]
    rw[M,e,eR];refine bI aA ?_;have fi:=(XC.1 u).1;have h7:=h.bQ W;refine bB cj aA (bB c7 aA (aO aA (aP aA (U6 h7 (Sk hs) j fi ⟨size,q⟩ (some ⟨size,t.q⟩) ⟨rfl,λy e=>by cases e;exact v2⟩ ⟨p1.bQ I,p2.bQ I.size⟩) ?_)));rintro _ w8 ⟨r8,rfl,h8,⟨fj,fk,hv⟩,O⟩;refine aN aA ?_;have fm:Zt w7 r r8:=⟨fj,fk,λS hS ho=>hv S hS ho (by have:=ho.tq r.ts[j] (XM _);rw[<-eq] at this;exact this)⟩;refine bC aA λnb w9 e9 g8 ck k7=>bF g8 aA λb3 ah b9 d6=>?_;have ba:=ck.sn b9;have P:=O.trans ba;have cl:=W.trans P;have hw:=h8.bQ ba;have g9:=P.bP cj;have ea:=P.bP c7;have ai:=P.bP d5;have k8:=W.size;have fn:H.heap.size<=w7.heap.size:=by have:=bo.size;have:=bp.size;have:=I.size;omega
    have z8:=O.size;have br:=fm.dC fn;by_cases fo:size<t.size
    .rw[bK fo];obtain⟨sz,rfl⟩:=XE (show 0<=size by omega);obtain⟨d,ed⟩:=XE (show 0<=t.size-sz by omega);rw[ed,XB,XB];obtain⟨pv,ph,pf⟩:=Jc hs u;have hx:Qt r.c q sz d=0:=La v2 (Kh pv (by omega) (by omega) (by omega));have hy:(r.ra.bs.length:Int)=r.c.size*r.c.bS:=by rw[h.rb];exact hs.bl
     have d7:=h.rs;have c9:=h.bQ cl;have hd:∀w',Xc Xe b3 w'->Xf prog 207 #[.agg (Aj r.c r.cp r.ra).toArray,.agg (Xv q).toArray,.int .i64 (sz:Nat),.int .i64 (d:Nat)] w' (λv H=>Xc Xe w' H/\∃x,v=L2 r.c r.cp x/\Jn r.c b3 r.ra q sz (X6 d) x H/\∀b,b3.heap.size<=b->(b<w'.heap.size\/H.heap.size<=b)->Xj (λz=>z=b) x.a):=λw' i=>
      (XfV r.c r.cp r.ra q sz d w' ((c9.bQ i).cO) ((p1.bQ (I.trans P)).bQ i) E hr hx ((c9.bQ i).ra) hy (by rw[d7];omega)).mono λv H ⟨x,x1,x2,x3,x4,x5,x6⟩=>
       ⟨x6,x,x1,Xc4 c9.la (by rw[h.rb];exact he) i (by rw[Gt];exact x2) (by rw[Gt];exact x3) x4 x5⟩
     refine bI aA (aQ 13 Xe (by kernel_rfl) aA λf=>aE f g9 aA (aG f (λw' i=>(Pc (w:=w') (r:=r))) aA (aE f ea aA (aC f aA ?_))));rw[ed];refine Xd.callAllocG (L2 r.c r.cp) (Jn r.c b3 r.ra q sz (X6 d)) ((λx b=>Xj (λz=>z=b) x.a)) Xb f rfl rfl rfl (λ_=>rfl) rfl (λ_=>rfl) (λ_=>rfl) rfl rfl (λ_ _=>rfl) rfl (λ_ _=>rfl) (hd) (V6) ((λ_ h=>h.elim)) ?_;rintro mb x fp i0 d9 gc ⟨B,L,q3,q4,q5⟩ hG;refine Xd.cK f rfl λi2 a7=>Xn.store Xb f rfl (a7.bP d9) (by first|(intro h;exact rfl)|(intro h;omega)) rfl rfl rfl λap ee aq ge=>aF f aA λi3 a8=>?_;have da:=(gc.trans a7).sn aq;have R:=da.trans a8;have ef:Yh ap x:=⟨((q3.bQ a7).rd).bW hG aq,q3.len,q3.lc,q3.rng⟩;have aj:=ef.bQ a8;have eg:=((q5.bQ a7.size).bQ aq.size).bQ a8.size;have eh:=a8.bP ee;have ei:=R.bP ah;refine bB eh aA (bF ei aA λdb ak bb j9=>?_);obtain⟨ad,ar⟩:∃ad:SR,ad={r8 with ra:=x}:=⟨_,rfl⟩;replace ak:Zk db nb ad:=by rw[ar];exact ak
     have al:Xj (λz=>z=nb) x.a:=λb'' off' s' e hz=>by
      rcases q4 with e'|⟨g,off,e',hg⟩
      .have:=h.la b'' off' s' (e'▸e);omega
      .rw[e'] at e;cases e;omega
     have k9:=R.size;have cm:=(ba.trans R).sn bb;have ej:Yh db x:=⟨aj.rd.bW al bb,aj.len,aj.lc,aj.rng⟩;have i4:=K9 (q:=q) (at':=sz) (n:=d) E;have dc:=h8.putRa cm (ra:=x) (bs:=Q9 r.c t.q.cQ s.bs sz (X6 d) (X6 d).length) (t:=Xw s.rm.tot (Zi r.c t.q.cQ sz (X6 d).length)) ej (by rw[B,h.rb,<-v2,<-Mr]) (by rw[L,d7,Gt,<-v2,<-Ju,Cv (by omega)]) (eg.bQ bb.size);rw[<-ar] at dc;have au:ad.c=r.c/\ad.cp=r.cp:=by rw[ar];exact⟨fj,fk⟩
     have gf:Zt w7 r ad:=⟨au.1,au.2,λS hS ho=>by
      have h1:=fm.2.2 S hS ho;rw[ar];exact {h1 with ra:=ho.ra.newer q4 (λz hz=>by have:=hS z hz;omega)}⟩
     have gh:Bo (λz=>z=nb) ad:=by
      have h1:Bo (λz=>z=nb) r8:=h8.out (λz e=>by omega);rw[ar];exact {h1 with ra:=al}
     have i5:(Eb (Yp r.c s t.q sz (X6 d)) (j:Nat) ⟨(sz:Nat),t.q⟩).OkP ad.c none:=by
      rw[au.1];exact StM.OkP.sized (StM.OkP.put hs t.q sz (Sw d)) (o:=j) (t:=t) u M (by omega)
     have dd:=Pu (s:=s) E t.q sz (X6 d) ⟨ht.1,by omega⟩ (by rw[Gt];omega);rw[Gt] at dd;have gi:(Eb (Yp r.c s t.q sz (X6 d)) (j:Nat) ⟨(sz:Nat),t.q⟩).th[j]?=some (some ⟨(sz:Nat),t.q⟩):=by
      show(s.th.set (j:Int).toNat _)[j]?=_
      rw[XB,XH fi]
     refine bB ak aA (aV aA ?_);rw[ed];refine aP aA (Xf6 dc i5 j gi sz d (λm hm=>by have:=XeB hs u (show Xy s t.q.cL=some m from hm);omega) ⟨dd.1,by show(Yp r.c s t.q sz (X6 d)).rm.tot<=_;omega⟩) ?_;rintro _ i6 ⟨ka,rfl,ae⟩;refine aN aA ?_;have ek:=O.trans cm;have en:=bb.heap (R.bP ai) (by omega);have eo:=ek.trans ae.2.2;refine bF (ae.2.2.bP ak) aA λi7 bc ca jb=>?_;have cn:=(W.trans eo).sn ca;have jc:=b9.size;have i8:=ae.1.bW (ae.2.1.2.2 _ (λz e=>by omega) gh) (by have:=h.cO.bR cn;rw[ae.2.1.1,ae.2.1.2.1,au.1,au.2];exact this) ca;have ep:=ca.heap (ae.2.2.bP en) (by omega);have de:=(gf.dC fn).trans ae.2.1 (by omega);refine bB bc aA (bF ep aA λwz df bt i9=>?_);have av:=(cn).sn bt;exact aK func141 df aA ⟨_,rfl,h.box de i8 (by omega) (by omega) bt av,Zt.dC de z2,av⟩
    .rw[bJ fo];refine aS aA (bB ah aA (bF ai aA λwz df bt i9=>?_));have av:=(cl).sn bt;exact aK func141 df aA ⟨_,rfl,h.box br hw (by omega) (by omega) bt av,Zt.dC br z2,av⟩
   .replace M:A0 r.c t.size size=false:=by simpa using M
    rw[bJ (by rw[M];decide)] at e;rw[M,e];refine aS aA (bB cj aA (bG (R9 (h.bQ W) hs size) aA λw8 O=>?_));have gj:=O;have aw:=W.trans O;have dg:=O.bP cj;have cb:=O.bP d5;by_cases hf:Yt r.c s size=0
    .rw[hf];refine aS aA ?_;have ev:q.cL=t.q.cL:=congrArg PlcM.cL v2;obtain⟨t',M1,M2,M3,M4,M5,M6,M7,M8⟩:=Rt hs u M hf;have ib:=Vx hs t.q.cL ⟨ht.1,by omega⟩;obtain⟨s1,co⟩:∃s1,s1=Zh s t.q.cL:=⟨_,rfl⟩;obtain⟨m,em⟩:=XE (show 0<=min t.size size by omega);have eM:Ag r.c s (j:Nat) size=Cd r.c (Yp r.c (Q3 r.c (Ql s1 (Zi r.c t'.q.cQ 0 m)) (j:Nat) size) (Y9 (Q3 r.c (Ql s1 (Zi r.c t'.q.cQ 0 m)) (j:Nat) size) (j:Nat)) 0 (Yg r.c t'.q.cQ s1.bs 0 m)) t'.q:=by
      unfold Ag;rw[bJ (λg=>g (e.trans hf)),Ey u,bJ (by rw[M];decide)];unfold Ka;simp only
      rw[Qr u,Ey u,<-co,Qr (co▸M2),em,XB]
     rw[em,XB] at M8;rw[<-co] at M1 M2 M6 M7 M8 ib;rw[eM];have gk:=O.bP c7;refine Xa.loads Xb rfl dg rfl rfl ?_;refine Xa.cJ Xb rfl gk rfl rfl ?_;rw[ev];refine aP aA (XfZ (h.bQ aw) hs t.q.cL ⟨ht.1,by omega⟩) ?_;rintro _ w9 ⟨k,rfl,F⟩;refine aN aA ?_;rw[<-co] at F;refine bC aA λnb b3 kc ah gl d6=>bF ah aA λfp cp gm je=>?_;have bd:=gl.sn gm;have fq:=F.1.bQ bd;have cc:Bo (λz=>z=nb) k:=F.1.out (λz e=>by omega);have noN:∀{a b:dD},Xc Xe a b->Xc (λz=>z=nb) a b:=λh=>h.gr;have er:=F.2.2.trans bd;have es:=er.bP cb;have b4:k.c=r.c:=F.2.1.1;have ke:=aw.size;have ic:H.heap.size<=w8.heap.size:=by have:=bo.size;have:=bp.size;have:=I.size;have:=gj.size;omega
     have z9:=F.2.2.size;obtain⟨kf,⟨y1,y2⟩,p3,p4,b0,jg,dj,_,_,dk⟩:=fq.trowP M2;obtain⟨B,fr⟩:∃B:Plc,B=k.ts[j].q:=⟨_,rfl⟩;have ig:Xj (λz=>z=nb) B.pa:=by rw[fr];exact cc.tq _ (XM _)
     rw[<-fr] at y2 p3 p4 dk;refine bB cp aA ?_;rw[dj];refine aU (j*5) aA (Xa.loadC Xb ((Xv B)) rfl (by first|rfl|(simp;done)|(simp[*];done)|(simp;omega)) (dk) rfl ?_);rw[<-dj];refine bC aA λkb i2 kg eu a7 jh=>bF eu aA λap cq aq ge=>?_;have C:=a7.sn aq;have fs:=fq.bQ C;have cr:=C.bP cp;obtain⟨pv,ph,pf⟩:=Jc M1 M2;have gn:B.bS.length<=4096:=by have e:B.bS=t'.q.bS:=congrArg PlcM.bS y2;rw[e];exact pf
     have kh:(m:Int)<=t.size/\(m:Int)<=size/\1<=m:=by omega
     have gp:Qt k.c B (0:Nat) m=0:=by rw[b4];exact La y2 (Kh pv (by omega) (by omega) (by omega))
     have gq:(k.ra.bs.length:Int)=k.c.size*k.c.bS:=by rw[F.1.rb,b4];exact M1.bl
     have dl:=F.1.rs;have i4:=K9 (q:=B) (at':=0) (n:=m) E;obtain⟨l,el⟩:∃l,l=Yg r.c t'.q.cQ s1.bs 0 m:=⟨_,rfl⟩;have dm:l.length=m:=by rw[el];unfold Yg;simp
     have elq:Yg k.c B k.ra.bs 0 m=l:=by rw[b4,F.1.rb,XcF r.c B,y2,el]
     have dn:Qi l:=by rw[el];exact Pt M1.bi _ _
     obtain⟨ra',era⟩:∃ra':RA,ra'={k.ra with cM:=k.ra.cM+Zi k.c B 0 m}:=⟨_,rfl⟩;have hd:∀w',Xc Xe ap w'->Xf prog 213 #[.agg (Aj k.c k.cp k.ra).toArray,.agg (Xv B).toArray,.int .i64 0,.int .i64 (m:Nat)] w' (λv H=>Xc Xe w' H/\∃x,v=Uy k.c k.cp ra' m x/\O9 l ap.heap.size x H/\∀b,ap.heap.size<=b->(b<w'.heap.size\/H.heap.size<=b)->Xj (λz=>z=b) x.1):=λw' i=>
      (XfT k.c k.cp k.ra B 0 m w' ((fs.bQ i).cO) (p3.bQ (C.trans i)) (by rw[b4];exact E) gn gp ((fs.bQ i).ra) gq (by rw[dl];omega)).mono λv H ⟨u1,x1,x2,x3⟩=>by
       rw[elq] at x2;obtain⟨a,cap,rfl,y1,y2⟩:=x2.rd8 dm;have:=i.size;exact⟨x3,(a,cap),by rw[x1,era],⟨y1,λb off s' e=>⟨by have:=(y2 b off s' e).1;omega,(y2 b off s' e).2⟩⟩,λb hb ki b' off' s' e hz=>by have:=y2 b' off' s' e;omega⟩
     have emin:(if size<t.size then size else t.size)=(m:Int):=by rw[<-em];split <;> omega
     refine aQ 14 Xe (by kernel_rfl) aA λf=>aE f cr aA (aG f (λw' i=>(Pc (w:=w') (r:=k))) aA (aE f cq aA ?_));rw[emin];refine Xd.callAllocG (Uy k.c k.cp ra' m) (O9 l ap.heap.size) ((λx b=>Xj (λz=>z=b) x.1)) Xb f rfl rfl rfl (λ_=>rfl) rfl (λ_=>rfl) (λ_=>rfl) rfl rfl (λ_ _=>rfl) rfl (λ_ _=>rfl) (hd) (XfE) ((λ_ h=>h.elim)) ?_;rintro mb x i3 i0 d9 a8 ⟨x1,x2⟩ hG;refine Xd.cK f rfl λdb cd=>Xn.store Xb f rfl (cd.bP d9) (by first|(intro h;exact rfl)|(intro h;omega)) rfl rfl rfl λi6 ew dp ji=>aF f aA λi7 ce=>?_;have dq:=(a8.trans cd).sn dp;have D:=dq.trans ce;have iz:=D.size;have ft:∀b',b'<ap.heap.size->Xj (λz=>z=b') x.1:=λb' h2 b'' off' s' e hz=>by have:=(x2 b'' off' s' e).1;omega
     have gs:=((x1.bR cd).bW hG dp).bR ce;have ex:=ce.bP ew;have bc:=D.bP cr;refine bB ex aA (bF bc aA λb5 T aa jj=>?_);obtain⟨N,ab⟩:∃N:SR,N={k with ra:=ra'}:=⟨_,rfl⟩;replace T:Zk b5 nb N:=by rw[ab];rw[era] at T⊢;exact T
     have am:=((bd.trans C).trans D).sn aa;have ey:Yh b5 ra':=by rw[era];exact⟨(F.1.ra.bQ am).rd,F.1.ra.len,F.1.ra.lc,F.1.ra.rng⟩
     have gt:Zi r.c t'.q.cQ 0 m=Zi r.c B 0 m:=by rw[Ju r.c B,y2]
     obtain⟨s2,b6⟩:∃s2,s2=Ql s1 (Zi r.c t'.q.cQ 0 m):=⟨_,rfl⟩;have fu:Xw s1.rm.tot (Zi r.c t'.q.cQ 0 m)=s1.rm.tot+Zi r.c t'.q.cQ 0 m:=Cv (by omega);have be:=F.1.putRa am (ra:=ra') (bs:=s1.bs) (t:=Xw s1.rm.tot (Zi r.c t'.q.cQ 0 m)) ey (by rw[era];exact F.1.rb) (by rw[era,fu,gt,<-dl,b4]) (by rw[era];exact F.1.la.bQ am.size);rw[<-ab] at be;replace be:Za b5 N s2:=by rw[b6];exact be
     have ay:N.c=r.c:=by rw[ab];exact b4
     have gu:N.cp=r.cp:=by rw[ab];exact F.2.1.2.1
     have gv:Zt w9 k N:=by rw[ab,era];exact⟨rfl,rfl,λS hS ho=>{ho with ra:=ho.ra}⟩
     have gw:Bo (λz=>z=nb) N:=by rw[ab,era];exact {cc with ra:=cc.ra}
     have gx:Rd .u8 b5 x.1 l:=gs.bW (ft nb (by omega)) aa;have dr:Xc (λz=>z=nb) fp b5:=(noN (C.trans D)).trans aa;have ez:=aa.heap (D.bP cq) (by omega);have lqb:=Xg cb;have f0:=aa.heap ((C.trans D).bP es) (by omega);have fv:0<=s2.rm.tot/\s2.rm.tot<=s.rm.tot+20000+2*m+1:=by
      rw[b6];show 0<=Xw s1.rm.tot _/\Xw s1.rm.tot _<=_
      rw[fu];omega
     rw[<-b6] at M8⊢;have cf:s2.OkP N.c none:=by rw[ay,b6];exact M1.tot _
     have ds:j<s2.th.length:=by rw[b6];exact(XC.1 M2).1
     have f1:Yt N.c s2 size=0:=by rw[ay,b6];exact M7
     refine Xa.loads Xb rfl T rfl rfl ?_;refine aP rfl (Xf4 be cf ds f1 (by rw[ay];exact M8) ⟨fv.1,by omega⟩) ?_;rintro _ kj ⟨c,rfl,A⟩;refine aN rfl ?_;rw[ay] at A cf;have fw:=XcH cf j ds size M8 ⟨fv.1,by omega⟩;obtain⟨s3,fx⟩:∃s3,s3=Q3 r.c s2 (j:Nat) size:=⟨_,rfl⟩;have bg:s3.th[j]?=some (some ⟨size,Yl r.c s2 (j:Nat) size⟩):=by
      rw[fx];show(s2.th.set (j:Int).toNat _)[j]?=_
      rw[XB,XH ds]
     obtain⟨Q,eQ⟩:∃Q,Q=Yl r.c s2 (j:Nat) size:=⟨_,rfl⟩;rw[<-eQ] at bg;rw[<-fx] at A M8 fw⊢;rw[Qr bg];have kk:=aa.size;have kl:=A.2.2.size;have f2:=A.2.2.bP T;refine Xa.store Xb rfl f2 rfl rfl ?_;intro J U ac jk;refine aN rfl ?_;replace U:Zk J nb c:=U;have cg:Bo (λz=>z=nb) c:=A.2.1.2.2 _ (λz e=>by omega) gw;have cs:Xc Xe w9 J:=(am.trans A.2.2).sn ac;have ct:=(aw.trans F.2.2).trans cs;have K:c.c=r.c:=A.2.1.1.trans ay;have dt:c.cp=r.cp:=A.2.1.2.1.trans gu;have V:=A.1.bW cg (by have:=h.cO.bR ct;rw[K,dt];exact this) ac;have du:Xc (λz=>z=nb) b5 J:=(noN A.2.2).trans ac;have gy:Rd .u8 J x.1 l:=(gx.bR A.2.2).bW (ft nb (by omega)) ac;have f3:=ac.heap (A.2.2.bP ez) (by omega);have f4:=ac.heap (A.2.2.bP f0) (by omega);obtain⟨_,⟨_,y4⟩,p5,p6,b1,jm,gz,_,_,dv⟩:=V.trowP bg;obtain⟨L,ii⟩:∃L:Plc,L=c.ts[j].q:=⟨_,rfl⟩;rw[<-ii] at y4 p5 p6 dv;replace y4:Xx L=Q:=y4;obtain⟨dw,fy,dx⟩:=Jc M8 bg;replace dw:Yk r.c Q.cQ=true:=dw;replace fy:size<=Z5 r.c Q.cQ:=fy;replace dx:Q.bS.length<=4096:=dx;have h0:L.bS.length<=4096:=by have e:L.bS=Q.bS:=congrArg PlcM.bS y4;rw[e];exact dx
     subst dm;have h3:Qt c.c L (0:Nat) l.length=0:=by rw[K];exact La y4 (Kh dw (by omega) (by omega) (by omega))
     have h5:(c.ra.bs.length:Int)=c.c.size*c.c.bS:=by rw[V.rb,K];exact M8.bl
     have dy:c.ra.cM=s3.rm.tot:=V.rs;have ij:∀w',Xc Xe J w'->Xf prog 214 #[.agg (Aj c.c c.cp c.ra).toArray,.agg (Xv L).toArray,.int .i64 0,.slice x.1 l.length x.2] w' (λv H=>Xc Xe w' H/\∃y,v=L2 c.c c.cp y/\Jn c.c J c.ra L 0 l y H/\∀b,J.heap.size<=b->(b<w'.heap.size\/H.heap.size<=b)->Xj (λz=>z=b) y.a):=λw' i=>
      (XbT c.c c.cp c.ra L 0 x.1 x.2 l w' ((V.bQ i).cO) (p5.bQ i) (by rw[K];exact E) h0 h3 ((V.bQ i).ra) h5 (by rw[dy];omega) (gy.bR i) dn).mono λv H ⟨y,a1,a2,a3,a4,a5,a6⟩=>
       ⟨a6,y,a1,Xc4 V.la (by rw[V.rb];exact Xao M8) i a2 a3 a4 a5⟩
     refine Xa.drawn (q:=15) Xe Xb Xo (by kernel_rfl) rfl ?_;intro f;refine Xd.loads Xb f rfl U (by first|exact λh=>h|(intro h;omega)|assumption) rfl rfl ?_;refine Xd.call Xb f rfl (λw' i=>(Pc (w:=w') (r:=c))) rfl ?_;refine Xd.cJ Xb f rfl U (by first|exact λh=>h|(intro h;omega)|assumption) rfl rfl ?_;rw[gz];refine Xd.index Xb f rfl (j:=(j*5)) (by omega) (by omega) (by first|rfl|omega|(simp;done)|(simp;omega)) rfl ?_;refine Xd.loadC Xb f ((Xv L)) rfl (by first|rfl|(simp;done)|(simp[*];done)|(simp;omega)) (dv) (by first|exact λh=>h|(intro h;omega)|assumption) rfl ?_;refine Xd.callAllocG (L2 c.c c.cp) (Jn c.c J c.ra L 0 l) ((λx b=>Xj (λz=>z=b) x.a)) Xb f rfl rfl rfl (λ_=>rfl) rfl (λ_=>rfl) (λ_=>rfl) rfl rfl (λ_ _=>rfl) rfl (λ_ _=>rfl) (ij) (V6) ((λ_ h=>h.elim)) ?_;rintro vb y km kn ik dz ⟨c1,c2,c3,c4,c5⟩ io;refine Xd.cK f rfl ?_;intro ko bh;refine Xn.store Xb f rfl (bh.bP ik) (by first|(intro h;exact rfl)|(intro h;omega)) rfl rfl rfl ?_;intro e0 bi ci jw;refine Xd.nil f ?_;intro ip bj;refine aN rfl ?_;replace bi:e0.heap[vb]?=some (.cells (Aj c.c c.cp y).toArray 264 (0,0)):=bi;have kp:=dz.size;have e3:Xc Xe J e0:=(dz.trans bh).sn ci;have p:=e3.trans bj;have kq:=p.size;have f6:Yh e0 y:=⟨((c3.bQ bh).rd).bW io ci,c3.len,c3.lc,c3.rng⟩;have an:=f6.bQ bj;have f7:Yr ip y.a:=((c5.bQ bh.size).bQ ci.size).bQ bj.size;have f8:=bj.bP bi;have f9:=p.bP U;refine Xa.loads Xb rfl f8 rfl rfl ?_;refine Xa.store Xb rfl f9 rfl rfl ?_;intro af bk G jx;refine aN rfl ?_;obtain⟨az,bm⟩:∃az:SR,az={c with ra:=y}:=⟨_,rfl⟩;replace bk:Zk af nb az:=by rw[bm];exact bk
     have al:Xj (λz=>z=nb) y.a:=λb'' off' s' e hz=>by
      rcases c4 with e'|⟨g,off,e',hg⟩
      .exact cg.ra b'' off' s' (e'▸e) hz
      .rw[e'] at e;cases e;omega
     have fa:Yh af y:=⟨an.rd.bW al G,an.len,an.lc,an.rng⟩;have e4:Xc (λz=>z=nb) J af:=(noN p).trans G;have jy:=K9 (q:=L) (at':=0) (n:=l.length) E;have h6:Zi r.c Q.cQ 0 l.length=Zi r.c L 0 l.length:=by rw[Ju r.c L,y4]
     have cu:Xc Xe w af:=(ct.trans p).sn G;have iq:Xc Xe w9 af:=(cs.trans p).sn G;have ir:=V.bQ p;have bn:=(ir.bW cg (by have:=h.cO.bR cu;rw[K,dt];exact this) G).putRa (Xc.refl Xe af) (ra:=y) (bs:=Q9 r.c Q.cQ s3.bs 0 l l.length) (t:=Xw s3.rm.tot (Zi r.c Q.cQ 0 l.length)) fa (by rw[c1,V.rb,K,<-y4,<-Mr]) (by rw[c2,dy,K,h6,Cv (by omega)]) (f7.bQ G.size);rw[<-bm] at bn;replace bn:Za af az (Yp r.c s3 Q 0 l):=bn;have e6:az.c=r.c:=by rw[bm];exact K
     have ha:Zt J c az:=by rw[bm];exact⟨rfl,rfl,λS hS ho=>{ho with ra:=ho.ra.newer c4 hS}⟩
     have fb:=G.heap (p.bP f3) (by omega);have fc:=G.heap (p.bP f4) (by omega);have e7:=(dr.trans du).trans e4;have hc:Zp af B:=⟨p3.rd.bW ig e7,p3.len⟩;have it:=Pu (s:=s3) E Q 0 l ⟨fw.1,by omega⟩ (by omega);have iu:(Yp r.c s3 Q 0 l).OkP az.c (some (j,Xx B)):=by rw[e6,y2];exact StM.OkP.put M8 _ _ dn
     rw[<-el];refine Xa.loads Xb rfl bk rfl rfl ?_;refine Xa.loads Xb rfl fb rfl rfl ?_;refine aP rfl (Xf3 bn B iu hc ⟨it.1,by omega⟩) ?_;rintro _ kr ⟨iv,rfl,b7⟩;refine aN rfl ?_;rw[e6,y2] at b7;have ks:=G.size;have kt:=b7.2.2.size;refine Xa.store Xb rfl (b7.2.2.bP fc) rfl rfl ?_;intro iw fd e8 jz;refine aN rfl ?_;have cv:Xc Xe w iw:=(cu.trans b7.2.2).sn e8;have ix:Zt w9 k c:=gv.trans A.2.1 (by omega);have iy:=(ix.trans ha (by omega)).trans b7.2.1 (by omega);have br:=(F.2.1.dC ic).trans iy (by omega);exact aK func141 fd aA ⟨iv,rfl,h.box br b7.1 (by omega) (by omega) e8 cv,Zt.dC br z2,cv⟩
    .rw[no e hf];exact aM aA (by simpa using hf) (aQ 4 Xe (by kernel_rfl) aA λf=>aE f dg aA (aE f dg aA (aG f (λw' i=>R9 (h.bQ (aw.trans i)) hs size) aA (aF f aA λw9 ck=>bF (ck.bP cb) aA λb3 ai b9 d6=>aK func141 ai aA ⟨r,rfl,.self h ((aw.trans ck).sn b9)⟩))))
 .have e:A8 r.c s o size=Z7 s o:=by unfold A8;rw[bK g0]
  rw[no e g0,e];refine aM aA (by simpa using g0) ?_;have bw:=cy;have bx:=cz;have bz:=d0;exact bB bw aA (bF bx aA λwr d2 d3 hj=>aK func141 d2 aA ⟨r,rfl,.self h (bz.sn d3)⟩)
structure D3 where
 kind:Int
 own:Int
 a:Int
 b:Int
 bs:List Int
 ba:Option Addr
 bc:Nat
def Pw(u:D3):List dE:=[.int .u8 u.kind,.int .i64 u.own,.int .i64 u.a,.int .i64 u.b,.slice u.ba u.bs.length u.bc]
structure V8(w:dD)(u:D3):Prop where
 kind:0<=u.kind/\u.kind<256
 a : -9223372036854775808<=u.a/\u.a<=9223372036854775807
 b : -9223372036854775808<=u.b/\u.b<=9223372036854775807
 rd:Rd .u8 w u.ba u.bs
 rng:Qi u.bs
 lc:u.bs.length<=u.bc
 len:u.bc<=9223372036854775807
def Cw(c:Conf)(s:StM)(u:D3):Int:=if u.kind%7=0 then Cn c s u.own u.a else if u.kind%7=1 then Z7 s u.own else if u.kind%7=2 then A8 c s u.own u.a else if u.kind%7=3 then Qo s u.own u.a u.b else if u.kind%7=4 then Qo s u.own u.a u.bs.length else if u.kind%7=5 then 0 else Ce s u.own u.a
def Q8(c:Conf)(s:StM)(u:D3):StM:=if u.kind%7=0 then Ab c s u.own u.a else if u.kind%7=1 then Bn c s u.own else if u.kind%7=2 then Ag c s u.own u.a else if u.kind%7=3 then Co c s u.own u.a u.b else if u.kind%7=4 then C9 c s u.own u.a u.bs else if u.kind%7=5 then Ec c s else C8 s u.own u.a
def B8(c:Conf)(s:StM)(u:D3):List Int:=if u.kind%7=3 then Cp c s u.own u.a u.b else []
theorem Xl2(u:D3)(h:Za w r s)(hs:s.Ok r.c)(hu:V8 w u)(ht:0<=s.rm.tot/\s.rm.tot<=999900000000):Xf prog 85 #[.agg (Z8 r).toArray,.agg (Pw u).toArray] w
 (λv w'=>∃r' a cap,v=.tuple #[.agg (Z8 r').toArray,.slice a (B8 r.c s u).length cap,.int .i64 (Cw r.c s u)]/\Rd .u8 w' a (B8 r.c s u)/\(∀b off s',a=some ⟨b,off,s'⟩->w.heap.size<=b/\b<w'.heap.size)/\Ej w r (Q8 r.c s u) r' w'):=by
 have hk:=hu.kind;refine aR func85 ntmps85 aA (bC aA λb w1 e1 U P a0=>bC aA λub w2 e2 Q K a1=>bC aA λqb V e3 t F a2=>?_);have g:=(K.trans F).bP U;have d:=F.bP Q;have n:=(P.trans K).trans F;have C:=h.bQ n;have L:=n.size;refine bB d aA (Xa.div Xb rfl (by omega) (Hb (by omega)) rfl ?_);apply Xa.cut (α:=SR) (λ_=>[(2,false,.pointer (some ⟨b,0,none⟩)),(4,false,.pointer (some ⟨qb,0,none⟩)),(7,false,.int .i64 (Cw r.c s u))]) (λx y=>∃j,Ej V r (Q8 r.c s u) x j/\Xc (λz=>z=b) j y/\Zk y b x/\B8 r.c s u=[])
 .intro J;by_cases l:u.kind%7=0
  .have eE:Cw r.c s u=Cn r.c s u.own u.a:=by unfold Cw;rw[bK l]
   have eS:Q8 r.c s u=Ab r.c s u.own u.a:=by unfold Q8;rw[bK l]
   have eB:B8 r.c s u=[]:=by unfold B8;rw[bJ (by omega)]
   refine bI aA (bB g aA (bB d aA (bB d aA (aP aA (XfX C hs u.own u.a ⟨ht.1,by omega⟩) ?_))));rintro _ j ⟨k,rfl,c⟩;exact aN aA (bF (c.2.2.bP g) aA λy i f B=>J k _ _ ⟨j,by rw[eS];exact c,f,i,eB⟩ ⟨rfl,rfl,by rw[eE];rfl,trivial⟩)
  by_cases m:u.kind%7=1
  .have eE:Cw r.c s u=Z7 s u.own:=by unfold Cw;rw[bJ l,bK m]
   have eS:Q8 r.c s u=Bn r.c s u.own:=by unfold Q8;rw[bJ l,bK m]
   have eB:B8 r.c s u=[]:=by unfold B8;rw[bJ (by omega)]
   refine aS aA (bI aA (bB g aA (bB d aA (aP aA (Xf0 C hs u.own ⟨ht.1,by omega⟩) ?_))));rintro _ j ⟨k,rfl,c⟩;exact aN aA (bF (c.2.2.bP g) aA λy i f B=>J k _ _ ⟨j,by rw[eS];exact c,f,i,eB⟩ ⟨rfl,rfl,by rw[eE];rfl,trivial⟩)
  by_cases q:u.kind%7=2
  .have eE:Cw r.c s u=A8 r.c s u.own u.a:=by unfold Cw;rw[bJ l,bJ m,bK q]
   have eS:Q8 r.c s u=Ag r.c s u.own u.a:=by unfold Q8;rw[bJ l,bJ m,bK q]
   have eB:B8 r.c s u=[]:=by unfold B8;rw[bJ (by omega)]
   refine aS aA (aS aA (bI aA (bB g aA (bB d aA (bB d aA (aP aA (Xl5 C hs u.own u.a hu.a ht) ?_))))));rintro _ j ⟨k,rfl,c⟩;exact aN aA (bF (c.2.2.bP g) aA λy i f B=>J k _ _ ⟨j,by rw[eS];exact c,f,i,eB⟩ ⟨rfl,rfl,by rw[eE];rfl,trivial⟩)
  by_cases A:u.kind%7=3
  .have eE:Cw r.c s u=Qo s u.own u.a u.b:=by unfold Cw;rw[bJ l,bJ m,bJ q,bK A]
   have eS:Q8 r.c s u=Co r.c s u.own u.a u.b:=by unfold Q8;rw[bJ l,bJ m,bJ q,bK A]
   have eB:B8 r.c s u=Cp r.c s u.own u.a u.b:=by unfold B8;rw[bK A]
   rw[eE,eS,eB];refine aS aA (aS aA (aS aA (bI aA (bB g aA (bB d aA (bB d aA (bB d aA (aP aA (Xl4 C hs u.own u.a u.b hu.a hu.b ⟨ht.1,by omega⟩) ?_))))))));rintro _ j ⟨k,R,M,rfl,S,G,c⟩;have a3:=c.2.2.size;refine aN aA (bF (c.2.2.bP t) aA λW D o T=>?_);have p:=(n.trans c.2.2).sn o;have O:Xj (λz=>z=qb) R:=λb' off s' e N=>by have:=G b' off s' e;omega
   exact aK func85 D aA ⟨k,R,M,rfl,S.bW O o,(λb' off s' e=>⟨by have:=G b' off s' e;omega,by have:=G b' off s' e;have:=o.size;omega⟩),(h.box c.2.1 c.1 (by omega) (Xg t) o p),c.2.1.dC L,p⟩
  by_cases E:u.kind%7=4
  .have eE:Cw r.c s u=Qo s u.own u.a u.bs.length:=by unfold Cw;rw[bJ l,bJ m,bJ q,bJ A,bK E]
   have eS:Q8 r.c s u=C9 r.c s u.own u.a u.bs:=by unfold Q8;rw[bJ l,bJ m,bJ q,bJ A,bK E]
   have eB:B8 r.c s u=[]:=by unfold B8;rw[bJ (by omega)]
   refine aS aA (aS aA (aS aA (aS aA (bI aA (bB g aA (bB d aA (bB d aA (bB d aA (aP aA (Xl6 C hs u.own u.a u.ba u.bc u.bs hu.a (hu.rd.bR n) (by have:=hu.lc;have:=hu.len;omega) hu.rng ⟨ht.1,by omega⟩) ?_)))))))));rintro _ j ⟨k,rfl,c⟩;exact aN aA (bF (c.2.2.bP g) aA λy i f B=>J k _ _ ⟨j,by rw[eS];exact c,f,i,eB⟩ ⟨rfl,rfl,by rw[eE];rfl,trivial⟩)
  by_cases I:u.kind%7=5
  .have eE:Cw r.c s u=0:=by unfold Cw;rw[bJ l,bJ m,bJ q,bJ A,bJ E,bK I]
   have eS:Q8 r.c s u=Ec r.c s:=by unfold Q8;rw[bJ l,bJ m,bJ q,bJ A,bJ E,bK I]
   have eB:B8 r.c s u=[]:=by unfold B8;rw[bJ (by omega)]
   refine aS aA (aS aA (aS aA (aS aA (aS aA (bI aA (bB g aA (aP aA (Xf2 C hs ⟨ht.1,by omega⟩) ?_)))))));rintro _ j ⟨k,rfl,c⟩;exact aN aA (bF (c.2.2.bP g) aA λy i f B=>J k _ _ ⟨j,by rw[eS];exact c,f,i,eB⟩ ⟨rfl,rfl,by rw[eE];rfl,trivial⟩)
  .have eE:Cw r.c s u=Ce s u.own u.a:=by unfold Cw;rw[bJ l,bJ m,bJ q,bJ A,bJ E,bJ I]
   have eS:Q8 r.c s u=C8 s u.own u.a:=by unfold Q8;rw[bJ l,bJ m,bJ q,bJ A,bJ E,bJ I]
   have eB:B8 r.c s u=[]:=by unfold B8;rw[bJ (by omega)]
   refine aS aA (aS aA (aS aA (aS aA (aS aA (aS aA (bB g aA (bB d aA (bB d aA (aP aA (Xf1 C hs u.own u.a) ?_)))))))));rintro _ j ⟨k,rfl,c⟩;exact aN aA (bF (c.2.2.bP g) aA λy i f B=>J k _ _ ⟨j,by rw[eS];exact c,f,i,eB⟩ ⟨rfl,rfl,by rw[eE];rfl,trivial⟩)
 .rintro k y ⟨j,c,f,i,eB⟩;rw[eB];have H:=(n.trans c.2.2).sn f;refine bB i aA (bF (f.heap (c.2.2.bP t) (by omega)) aA λW D o T=>?_);have p:=H.sn o;exact aK func85 D aA ⟨k,none,0,rfl,Rd.nil _ _ _,(by intro b off s' e;cases e),(h.box c.2.1 (h.box c.2.1 c.1 (by omega) (Xg g) f H) (by omega) (Xg t) o p),c.2.1.dC L,p⟩
section
variable {c:Conf}{n0:Nat}{w0 w:dD}{F:Nat->Prop}{S:Sto}{s:StM}
theorem Lv.ofE(h:Lv c n0 w0 w F S s){e:Int}(hi:s'.Ok c){P:Program}{k:FuncId}{args:Array dE}(hd:Xf P k args w (Jr F w S s' e)):Xf P k args w (λv w'=>v=.int .i64 e/\Kd c n0 w0 w F S s' w'):=
 hd.mono λv w' ⟨e1,ht⟩=>⟨e1,h.to ht hi⟩
theorem XjZ(h:Lv c n0 w0 w F S s)(o size:Int):Xf prog 70 #[Yq S,.int .i64 o,.int .i64 size] w (λv w'=>v=.int .i64 (Cn c s o size)/\Kd c n0 w0 w F S (Ab c s o size) w'):=by
 obtain⟨Fr,mo,b⟩:=h.ok;have a:=Xnp b (by rw[h.sc];exact h.inv) o size;rw[h.sc] at a;exact h.ofE (h.inv.alloc o size) a
theorem Xj2(h:Lv c n0 w0 w F S s)(o:Int):Xf prog 53 #[Yq S,.int .i64 o] w (λv w'=>v=.int .i64 (Z7 s o)/\Kd c n0 w0 w F S (Bn c s o) w'):=by
 obtain⟨Fr,mo,b⟩:=h.ok;have a:=Xns b (by rw[h.sc];exact h.inv) o;rw[h.sc] at a;exact h.ofE (h.inv.free o) a
theorem Xj6(h:Lv c n0 w0 w F S s)(o size:Int):Xf prog 63 #[Yq S,.int .i64 o,.int .i64 size] w (λv w'=>v=.int .i64 (A8 c s o size)/\Kd c n0 w0 w F S (Ag c s o size) w'):=by
 obtain⟨Fr,mo,b⟩:=h.ok;have a:=Xnx b (by rw[h.sc];exact h.inv) o size;rw[h.sc] at a;exact h.ofE (h.inv.resize o size) a
theorem Xka(h:Lv c n0 w0 w F S s)(o i:Int)(a:Option Addr)(cap:Nat)(l:List Int)(hi : -9223372036854775808<=i/\i<=9223372036854775807)(hr:Rd .u8 w a l)(hlc:l.length<=cap)(hl:l.length<=9223372036854775807)(hin:Qi l)(hout:0<l.length->Xj F a):Xf prog 61 #[Yq S,.int .i64 o,.int .i64 i,.slice a l.length cap] w (λv w'=>v=.int .i64 (Qo s o i l.length)/\Kd c n0 w0 w F S (C9 c s o i l) w'):=by
 obtain⟨Fr,mo,d⟩:=h.ok;have b:=XnD d (by rw[h.sc];exact h.inv) o i a cap l hi hr hlc hl hin hout;rw[h.sc] at b;exact h.ofE (h.inv.write o i hin) b
theorem Xj5(h:Lv c n0 w0 w F S s)(o i n:Int)(hi : -9223372036854775808<=i/\i<=9223372036854775807)(hn : -9223372036854775808<=n/\n<=9223372036854775807):Xf prog 56 #[Yq S,.int .i64 o,.int .i64 i,.int .i64 n] w
 (λv w'=>∃a cap,v=.tuple #[.slice a (Cp c s o i n).length cap,.int .i64 (Qo s o i n)]/\Rd .u8 w' a (Cp c s o i n)/\(∀b off s',a=some ⟨b,off,s'⟩->w.heap.size<=b/\b<w'.heap.size)/\Lv c n0 w0 w' F S (Co c s o i n)/\Xc F w w'):=by
 obtain⟨Fr,mo,g⟩:=h.ok;have d:=Xnw g (by rw[h.sc];exact h.inv) o i n hi hn;rw[h.sc] at d;refine d.mono λv w' ⟨u,e,j,mo',k,f⟩=>?_;obtain⟨a,cap,e2,hr,l⟩:=j.rd8 rfl;exact⟨a,cap,by rw[e,e2],hr,l,⟨⟨Fr,mo',k⟩,h.inv.read o i n,h.sc,h.fx,h.base,h.bR.bU f (λz m e=>by have:=h.base z e;omega)⟩,f⟩
theorem Xj9(h:Lv c n0 w0 w F S s):Xf prog 78 #[Yq S] w (λv w'=>v=.int .i64 0/\Kd c n0 w0 w F S (Ec c s) w'):=by
 obtain⟨Fr,mo,b⟩:=h.ok;have a:=XnC b (by rw[h.sc];exact h.inv);rw[h.sc] at a;exact h.ofE h.inv.tick a
theorem Xj7(h:Lv c n0 w0 w F S s)(k bV:Int):Xf prog 79 #[Yq S,.int .i64 k,.int .i64 bV] w (λv w'=>v=.int .i64 (Ce s k bV)/\Kd c n0 w0 w F S (C8 s k bV) w'):=by
 obtain⟨Fr,mo,a⟩:=h.ok;exact h.ofE (h.inv.set k bV) (Xny a (by rw[h.sc];exact h.inv) k bV)
theorem Uf(h:Lv c n0 w0 w F S s):Xf prog 71 #[Yq S] w (λv w'=>v=.int .i64 (s.rm.tot-S.R.dA)/\Lv c n0 w0 w' F (S.relap s.rm.tot) s/\Xc (λz=>z=S.mb) w w'/\F S.mb):=by
 obtain⟨Fr,mo,a⟩:=h.ok;refine(XnA a).mono λv w' ⟨e,d,b⟩=>⟨e,⟨⟨Fr,mo,d⟩,h.inv,h.sc,?_,h.base,h.bR.bU b (λz f e=>by have:=h.base z (e▸a.mb.1);have:=h.bR.size;omega)⟩,b,a.mb.1⟩;obtain⟨f1,f2,f3,f4,f5,f6,f7,f8⟩:=h.fx;exact⟨f1,f2,f3,f4,f5,f6,f7,f8⟩
theorem Xj3(h:Lv c n0 w0 w F S s):Xf prog 50 #[Yq S] w (Grow (.int .i64 (Zf s.rm.pl:Nat)) w):=by obtain⟨Fr,mo,a⟩:=h.ok;exact Xnt a
theorem Xj0(h:Lv c n0 w0 w F S s):Xf prog 73 #[Yq S] w (Grow (.int .i64 (Zs s)) w):=by obtain⟨Fr,mo,a⟩:=h.ok;exact Xnq a
theorem Xj8(h:Lv c n0 w0 w F S s)(o:Int):Xf prog 58 #[Yq S,.int .i64 o] w (Grow (.int .i64 (Qw s o)) w):=by obtain⟨Fr,mo,a⟩:=h.ok;exact Xnz a (by rw[h.sc];exact h.inv) o
theorem Xj1(h:Lv c n0 w0 w F S s)(size:Int):Xf prog 67 #[Yq S,.int .i64 size] w (Grow (.int .i64 (Yt c s size)) w):=by
 obtain⟨Fr,mo,a⟩:=h.ok;have:=Xck a (by rw[h.sc];exact h.inv) size;rw[h.sc] at this;exact this
end
theorem Xfa{c:Conf}(hm:Zb c=true)(hA:Qa c (Ii c 0)):(Es c).Ok c:=by
 have hf:=Ye hm;have b:∀(o:Nat) t,(Es c).th[o]?≠some (some t):=λo t e=>by
  have:=XW e;simp only[Es,Y2] at this;cases this.2
 have g:∀(o:Nat) t,(Es c).mv[o]?≠some (some t):=λo t e=>by
  have:=XW e;simp only[Es,Y2] at this;cases this.2
 have f:=hm;unfold Zb at f;simp only[XK,decide_eq_true_eq,Qy,Bool.not_eq_true'] at f;refine⟨hm,hA,hf.bV,λx d=>?_,?_,Sw _,?_,XI,λo t h=>absurd h (b o t),λo t h=>absurd h (b o t),λo t h=>absurd h (b o t),λo _ t _ h=>absurd h (b o t),λk m h=>absurd h (g k m),λk n a h=>absurd ?_ h,(by rintro _ _ ⟨⟩),(by rintro _ _ ⟨⟩)⟩
 .have i:=f.1.1.1.1.2.2;rw[QE] at i;have:=i x d;unfold Mq Qy at this;simp at this;omega
 .show((X6 _).length:Int)=_
  rw[Gt];exact QG (ZJ (by have:=hf.size;omega) (by have:=hf.bS;omega))
 .show((List.replicate c.cN.toNat none).length:Int)=_
  rw[XI];exact QG (by omega)
 .unfold Zd;split
  .rfl
  .rename_i x d
   unfold Zq at d;split at d
   .obtain⟨_,e⟩:=O1 d;rw[e];rfl
   .cases d
theorem Xku(c:Conf):Zs (Es c)=0:=by
 rw[He];show((List.replicate c.cN.toNat (none:Option ThM)).map Bb).sum=0
 generalize c.cN.toNat=n
 induction n with
 |zero=>rfl
 |succ n ih=>rw[YF,ZK,QF,ih];rfl
theorem Xj4(c:Conf)(p:Y4)(w:dD)(hc:Yu w c p)(ht:Bi w)(hm:Zb c=true):Xf prog 64 #[.agg (Zj c p).toArray] w (λv w'=>∃F S,v=.tuple #[Yq S,.int .i64 0]/\Lv c w'.heap.size w w' F S (Es c)/\S.R.dA=0/\S.p=p/\Xc Xe w w'):=by
 refine(Xnv c p w hc ht hm).mono λv w' ⟨F,Fr,S,mo,e,a,⟨d,g⟩,h,i,f⟩=>⟨F,S,e,?_,h,g,f⟩;have hr:=a.cW;have b:=hr.ok;rw[a.rc,d] at b;exact⟨⟨Fr,mo,by rw[Xku];exact a⟩,Xfa hm ⟨b,hr.cU,hr.mpos⟩,d,a.fixed,i,f⟩
structure TbM where
 gen:List Int
 dB:List Bool
 fl:List Nat
 cH:Int
structure TbM.Ok(t:TbM)(cN cS:Int):Prop where
 n:(t.gen.length:Int)=cN
 nl:t.dB.length=t.gen.length
 mg:t.cH=cS
 sl:1<=cN/\cN<=4096
 gs:1<=cS/\cS<=1023
 gen:∀(i:Nat) (g:Int),t.gen[i]?=some g->1<=g/\g<=cS+1
 lv:∀(i:Nat) (g:Int),t.gen[i]?=some g->t.dB[i]?=some true->g<=cS
 fr:∀i∈t.fl,∃g,t.gen[i]?=some g/\g<=cS/\t.dB[i]?=some false
 nd:t.fl.Nodup
 many:t.fl.length+t.dB.count true<=t.gen.length
def Da(slot gen:Int):Bool:=decide (0<=slot) && decide (slot<=4095) && decide (1<=gen) && decide (gen<=1023)
def Zl(h:Int):Int:=h.tmod 4096
def Z1(h:Int):Int:=h.tdiv 4096
def A9(t:TbM)(n:Int):Int:=t.gen[n.toNat]?.getD 0
def Nl(t:TbM)(n:Int):Bool:=t.dB[n.toNat]?.getD false
def X0(t:TbM)(h:Int):Int:=
 if Da (Zl h) (Z1 h)=false then 7
 else if (t.gen.length:Int)<=Zl h then 7
 else if Z1 h<A9 t (Zl h) then 6
 else if A9 t (Zl h)<Z1 h then 7
 else if Nl t (Zl h)=false then 7 else 0
def Zc(t:TbM)(h:Int):Int:=if X0 t h=0 then Zl h else 0
def Ee(t:TbM):TbM:=match t.fl with
 |[]=>t
 |n::r=>{t with dB:=t.dB.set n true,fl:=r}
def Dk(t:TbM):Int:=match t.fl with
 |[]=>0
 |n::_=>n
def Lw(t:TbM):Int:=match t.fl with
 |[]=>0
 |n::_=>A9 t n*4096+n
def Cq(t:TbM)(h:Int):TbM:=
 if X0 t h=0 then
  {t with
   gen:=t.gen.set (Zl h).toNat (A9 t (Zl h)+1),dB:=t.dB.set (Zl h).toNat false,
   fl:=if A9 t (Zl h)+1<=t.cH then (Zl h).toNat::t.fl else t.fl}
 else t
def Xcy(t:TbM):Nat:=t.dB.count true
def Cy(cN cS:Int):TbM:=⟨List.replicate cN.toNat 1,List.replicate cN.toNat false,List.range cN.toNat,cS⟩
section
variable {t:TbM}{cN cS:Int}
theorem Xfb(hs:1<=cN/\cN<=4096)(hg:1<=cS/\cS<=1023):(Cy cN cS).Ok cN cS:=by
 refine⟨?_,?_,rfl,hs,hg,?_,?_,?_,List.nodup_range,?_⟩
 .show((List.replicate cN.toNat (1:Int)).length:Int)=cN
  rw[XI];omega
 .show(List.replicate cN.toNat false).length=(List.replicate cN.toNat (1:Int)).length
  rw[XI,XI]
 .intro i g e;have:=XW e;simp only[Cy,Y2] at this;omega
 .intro i g e h;have:=XW h;simp only[Cy,Y2] at this;cases this.2
 .intro i a;have a:=List.mem_range.1 a;exact⟨1,by simp[Cy,a],hg.1,by simp[Cy,a]⟩
 .show(List.range cN.toNat).length+(List.replicate cN.toNat false).count true<=(List.replicate cN.toNat (1:Int)).length
  rw[List.count_replicate,ZM,XI];exact XF _
theorem T9{l:List Bool}{a b:Bool}(h:l[i]?=some a):(l.set i b).count true+(if a=true then 1 else 0)=l.count true+(if b=true then 1 else 0):=by
 obtain⟨c,e⟩:=XC.1 h;rw[List.count_set c,e];have:a=true->1<=l.count true:=λd=>by
  rw[d] at e;exact List.count_pos_iff.2 (e▸XM c)
 cases a with
 |false=>cases b <;> simp
 |true=>have:=this rfl;cases b <;> simp <;> omega
theorem TbM.Ok.tbE_ok(h:t.Ok cN cS){k:Int}(he:X0 t k=0):0<=Zl k/\Zl k<cN/\(Zl k).toNat<t.gen.length/\1<=Z1 k/\Z1 k<=cS/\t.gen[(Zl k).toNat]?=some (Z1 k)/\t.dB[(Zl k).toNat]?=some true:=by
 unfold X0 at he;have f:=h.n;split at he
 .omega
 rename_i b
 split at he
 .omega
 rename_i g
 split at he
 .omega
 rename_i i
 split at he
 .omega
 rename_i j
 split at he
 .omega
 rename_i d
 simp only[Da,Bool.not_eq_false,XK,decide_eq_true_eq] at b;have a:(Zl k).toNat<t.gen.length:=by omega
 have e1:t.gen[(Zl k).toNat]?=some (Z1 k):=by
  have e:A9 t (Zl k)=Z1 k:=by omega
  rw[<-e];unfold A9;rw[XD a];rfl
 have e2:t.dB[(Zl k).toNat]?=some true:=by
  have c:(Zl k).toNat<t.dB.length:=by rw[h.nl];exact a
  have:Nl t (Zl k)=true:=by simpa using d
  unfold Nl at this;rw[XD c] at this⊢;exact congrArg some this
 exact⟨b.1.1.1,by omega,a,b.1.2,h.lv _ _ e1 e2,e1,e2⟩
theorem TbM.Ok.take(h:t.Ok cN cS):(Ee t).Ok cN cS:=by
 unfold Ee;split
 .exact h
 .rename_i n r e
  have c:=h.nd;rw[e] at c;obtain⟨p,f,j,k⟩:=h.fr n (by rw[e];exact ZP);have d:∀i∈r,i≠n:=λi a e2=>(XU.1 c).1 (e2▸a);refine⟨h.n,?_,h.mg,h.sl,h.gs,h.gen,?_,?_,(XU.1 c).2,?_⟩
  .show(t.dB.set n true).length=_
   rw[XG];exact h.nl
  .intro i g e1 e2;by_cases a:i=n
   .subst a;rw[f] at e1;cases e1
    exact j
   .replace e2:(t.dB.set n true)[i]?=some true:=e2;rw[XJ (Ne.symm a)] at e2;exact h.lv i g e1 e2
  .intro i a;obtain⟨g,l,m,o⟩:=h.fr i (by rw[e];exact YC _ a);refine⟨g,l,m,?_⟩;show(t.dB.set n true)[i]?=_
   rw[XJ (Ne.symm (d i a))];exact o
  .have hm:=h.many;have:=T9 (b:=true) k;rw[e] at hm;simp only[XO,ZR,if_false,if_true] at hm this;show r.length+(t.dB.set n true).count true<=t.gen.length
   omega
theorem TbM.Ok.give(h:t.Ok cN cS)(k:Int):(Cq t k).Ok cN cS:=by
 unfold Cq;split
 .rename_i n
  obtain⟨q,r,f,s,u,o,j⟩:=h.tbE_ok n;have eg:A9 t (Zl k)=Z1 k:=by unfold A9;rw[o];rfl
  have l:(Zl k).toNat<t.dB.length:=by rw[h.nl];exact f
  have p:=h.mg;have c:(Zl k).toNat∉t.fl:=λhm=>by
   obtain⟨g,_,_,m⟩:=h.fr _ hm;rw[j] at m;cases m
  refine⟨?_,?_,h.mg,h.sl,h.gs,?_,?_,?_,?_,?_⟩
  .show((t.gen.set _ _).length:Int)=_
   rw[XG];exact h.n
  .show(t.dB.set _ _).length=(t.gen.set _ _).length
   rw[XG,XG];exact h.nl
  .intro i g e1;by_cases a:i=(Zl k).toNat
   .subst a;rw[XH f] at e1;cases e1
    omega
   .rw[XJ (Ne.symm a)] at e1;exact h.gen i g e1
  .intro i g e1 e2;by_cases a:i=(Zl k).toNat
   .subst a;rw[XH l] at e2;cases e2
   .rw[XJ (Ne.symm a)] at e1 e2;exact h.lv i g e1 e2
  .intro i a;show ∃g,(t.gen.set _ _)[i]?=some g/\g<=cS/\(t.dB.set _ _)[i]?=some false
   by_cases d:i=(Zl k).toNat
   .subst d;rw[XH f,XH l];split at a
    .exact⟨_,rfl,by omega,rfl⟩
    .exact absurd a c
   .rw[XJ (Ne.symm d),XJ (Ne.symm d)];refine h.fr i ?_;split at a
    .exact(ZB.1 a).resolve_left d
    .exact a
  .show(if A9 t (Zl k)+1<=t.cH then (Zl k).toNat::t.fl else t.fl).Nodup
   split
   .exact XU.2 ⟨c,h.nd⟩
   .exact h.nd
  .have hm:=h.many;have:=T9 (b:=false) j;simp only[ZR,if_false,if_true] at this;show(if A9 t (Zl k)+1<=t.cH then (Zl k).toNat::t.fl else t.fl).length+(t.dB.set (Zl k).toNat false).count true<=(t.gen.set _ _).length
   rw[XG];split
   .rw[XO];omega
   .omega
 .exact h
end
structure Ap where
 tb:Nat
 sb:Nat
abbrev K1(P:Ap):dE:=.pointer (some ⟨P.tb,0,none⟩)
def Jl(t:TbM)(i:Nat):Int:=if t.dB.getD i false then 1 else if t.gen.getD i 0<=t.cH then 0 else 2
def Gs(P:Ap)(n:Nat)(cH head:Int)(g:Nat->Int):List dE:=[.slice (some ⟨P.sb,0,none⟩) n n,.int .i64 cH,.int .i64 head,.int .i64 (g 0),.int .i64 (g 1),.int .i64 (g 2)]
def Vq(t:TbM)(i:Nat):Int:=if i=0 then t.fl.length else if i=1 then t.dB.count true else t.gen.length-t.fl.length-t.dB.count true
def Ms(f:Nat->Int)(N:Nat):Int->List Nat->Prop
 |h,[]=>h=N
 |h,a::r=>h=a/\Ms f N (f (a*3+2)) r
theorem Ub{g:Nat->Int}:∀{l:List Nat} {h:Int},(∀a∈l,f (a*3+2)=g (a*3+2))->Ms f N h l->Ms g N h l
 |[],_,_,hl=>hl
 |a::r,_,hfg,hl=>⟨hl.1,by rw[<-hfg a (by simp)];exact Ub (λb hb=>hfg b (by simp[hb])) hl.2⟩
structure Cg(w:dD)(P:Ap)(t:TbM)(cN cS:Int):Prop where
 ok:t.Ok cN cS
 at':∃head f,w.heap[P.tb]?=some (.cells (Gs P t.gen.length t.cH head (Vq t)).toArray 150 (0,0))/\Zm w P.sb 168 (t.gen.length*3) f/\Ms f t.gen.length head t.fl/\
  ∀i,i<t.gen.length->f (i*3)=Jl t i/\f (i*3+1)=t.gen.getD i 0
def Ac(P:Ap):Nat->Prop:=λz=>z=P.tb\/z=P.sb
section
variable {w w':dD}{P:Ap}{t:TbM}{cN cS:Int}{S:Nat->Prop}
theorem Cg.bR(h:Cg w P t cN cS)(hc:Xc S w w')(h1:¬S P.tb)(h2:¬S P.sb):Cg w' P t cN cS:=by
 obtain⟨head,f,a,b,c⟩:=h.at';exact⟨h.ok,head,f,hc.heap a h1,hc.heap b h2,c⟩
theorem Cg.bQ(h:Cg w P t cN cS)(hc:Xc Xe w w'):Cg w' P t cN cS:=h.bR hc id id
theorem Cg.kd(h:Cg w P t cN cS):kd w P.tb=some (some 150)/\kd w P.sb=some (some 168):=by
 obtain⟨head,f,a,b,c⟩:=h.at';exact⟨X1 a,X1 b⟩
theorem Cg.lt(h:Cg w P t cN cS):P.tb<w.heap.size/\P.sb<w.heap.size:=by
 obtain⟨head,f,a,b,c⟩:=h.at';exact⟨Xg a,Xg b⟩
end
theorem XeC(slot gen:Int)(w:dD):Xf prog 166 #[.int .i64 slot,.int .i64 gen] w (Grow (.bool (Da slot gen)) w):=by
 refine aR func166 ntmps166 aA (aO aA (aO aA (aO aA (bC aA λb H e1 A r B=>bF A aA λI n s C=>?_))));have i:=r.sn s;refine Xa.unroll Xb rfl (bI aA (aU 0 aA (bB n aA (bC aA λc J e3 u o D=>bF u aA λK g q E=>?_))));have a:=(i.trans o).bU q (λz t e=>by have:=i.size;omega);refine aU 0 aA (bB g aA (aU 1 aA (bB g aA (aT aA (λj=>?_) λj=>?_))))
 .exact bE func166 aA ⟨Q0 (by unfold Da;rw[bO (by have:=bL j;omega)];rfl),a⟩
 have j:=bM j;refine aU 0 aA (bB g aA (aU 2 aA (bB g aA (aT aA (λk=>?_) λk=>?_))))
 .exact bE func166 aA ⟨Q0 (by unfold Da;rw[bO (p:=slot<=4095) (by have:=bL k;omega),YE];rfl),a⟩
 have k:=bM k;refine aV aA (Xa.again Xb rfl (bI aA (aU 3 aA (bB (q.heap (o.bP n) (show ¬b=c by have:=i.size;omega)) aA (bC aA λd L e5 v x F=>bF v aA λM h y G=>?_)))));have f:=(a.trans x).bU y (λz t e=>by have:=a.size;omega);refine aU 0 aA (bB h aA (aU 1 aA (bB h aA (aT aA (λl=>?_) λl=>?_))))
 .exact bE func166 aA ⟨Q0 (by unfold Da;rw[bO (p:=1<=gen) (by have:=bL l;omega),YE];rfl),f⟩
 have l:=bM l;refine aU 0 aA (bB h aA (aU 2 aA (bB h aA (aT aA (λm=>?_) λm=>?_))))
 .exact bE func166 aA ⟨Q0 (by unfold Da;rw[bO (p:=gen<=1023) (by have:=bL m;omega),YE]),f⟩
 have m:=bM m;exact aV aA (Xa.again Xb rfl (aS aA (bE func166 aA ⟨Q0 (by unfold Da;rw[bN (p:=0<=slot) (by omega),bN (p:=slot<=4095) (by omega),bN (p:=1<=gen) (by omega),bN (p:=gen<=1023) (by omega)];rfl),f⟩)))
theorem XjA(h:Int)(w:dD)(hh : -9223372036854775808<=h/\h<=9223372036854775807):Xf prog 108 #[.int .i64 h] w (Grow (if Da (Zl h) (Z1 h)=true then .tuple #[.int .i64 (Zl h),.int .i64 (Z1 h),.int .i64 0] else .tuple #[.int .i64 0,.int .i64 0,.int .i64 7]) w):=by
 have b:Ib true .i64 h 4096=Z1 h:=by
  unfold Ib;rw[bK rfl];apply w64
  have d:=Int.mul_tdiv_add_tmod h 4096;by_cases c:0<=h
  .rw[YT c];omega
  .obtain⟨x,rfl⟩:∃x,h=-x:=⟨-h,by omega⟩;rw[Int.neg_tdiv,YT (by omega)];omega
 have hr:Ib false .i64 h 4096=Zl h:=by unfold Ib;rw[bJ (by simp)];rfl
 refine aR func108 ntmps108 aA (Xa.div Xb rfl (by omega) hr rfl (Xa.div Xb rfl (by omega) b rfl (bG (XeC (Zl h) (Z1 h) w) aA λf a=>?_)));cases hm:Da (Zl h) (Z1 h) with
 |false=>
  exact bI aA (bD rfl func108 (.tmp rfl (.tmp rfl (.tmp rfl .nil))) ⟨rfl,a⟩)
 |true=>
  exact aS aA (bD rfl func108 (.tmp rfl (.tmp rfl (.tmp rfl .nil))) ⟨rfl,a⟩)
theorem Xjz(slot gen:Int)(w:dD)(hs:0<=slot/\slot<=4095)(hg:1<=gen/\gen<=1023):Xf prog 123 #[.int .i64 slot,.int .i64 gen] w (Grow (.tuple #[.int .i64 (gen*4096+slot),.int .i64 0]) w):=by
 have hm:Da slot gen=true:=by unfold Da;rw[bN (p:=0<=slot) (by omega),bN (p:=slot<=4095) (by omega),bN (p:=1<=gen) (by omega),bN (p:=gen<=1023) (by omega)];rfl
 refine aR func123 ntmps123 aA (bG (XeC slot gen w) aA λb a=>?_);rw[hm];exact aS aA (aV aA (aV aA (bE func123 aA ⟨rfl,a⟩)))
theorem XbF{P:Ap}{head:Int}{g:Nat->Int}{w:dD}{a:Nat}(h1:w.heap[P.tb]?=some (.cells (Gs P n cH head g).toArray 150 (0,0)))(h2:Zm w P.sb 168 (n*3) f)(hk:k<n)(hn:n<=4096)(hf:f (k*3)=a)(hg:∀i,-4096<=g i/\g i<=4096)(hab:a=0/\b=1\/a=1/\b=2\/a=1/\b=0):Xf prog 105 #[K1 P,.int .i64 k,.int .i64 b] w
 (λ_ w'=>w'.heap[P.tb]?=some (.cells (Gs P n cH head (X2 (X2 g a (g a-1)) b (g b+1))).toArray 150 (0,0))/\Zm w' P.sb 168 (n*3) (X2 f (k*3) b)/\Xc (Ac P) w w'):=by
 have l:P.sb≠P.tb:=λe=>by
  have:=Fl h1 h2 (by decide);exact this e.symm
 refine aR func105 ntmps105 aA (bB h1 aA (aU (k*3) aA ?_));have r:w.cell? ⟨P.sb,0+k*3+0,none⟩=some (.int .i64 (a:Nat)):=by rw[Ca h2 (k:=k*3) (by omega) (by omega),hf]
 obtain⟨rfl,rfl⟩|⟨rfl,rfl⟩|⟨rfl,rfl⟩:=hab
 .refine aN aA (aQ 12 Xe (by kernel_rfl) aA λc=>aD c r aA (aB 0 c aA (aE c h1 aA (Xd.arith Xb c rfl (w64 (by have:=hg 0;omega)) rfl (aF c aA λA d=>aU 0 aA ?_)))));refine bF (d.bP h1) aA λB m o x=>aQ 9 Xe (by kernel_rfl) aA λc=>aB 1 c aA (aE c m aA (Xd.arith Xb c rfl (w64 (by have:=hg 1;omega)) rfl (aF c aA λC j=>aU 1 aA ?_)));refine bF (j.bP m) aA λv s p y=>?_;have t:Xc (Ac P) w v:=((d.gr.trans (o.mono λ_ _ h=>.inl h)).trans j.gr).trans (p.mono λ_ _ h=>.inl h);exact Xa.store Xb rfl (p.heap (j.bP (o.heap (d.bP h2) l)) l) (Fw (i:=k*3) (by show 0+k*3+0=_;omega) (by omega)) rfl λD u q z=>aN aA (bE func105 aA ⟨q.heap s (λe=>l e.symm),u,t.trans (q.mono λ_ _ h=>.inr h)⟩)
 .refine aN aA (aQ 12 Xe (by kernel_rfl) aA λc=>aD c r aA (aB 1 c aA (aE c h1 aA (Xd.arith Xb c rfl (w64 (by have:=hg 1;omega)) rfl (aF c aA λA d=>aU 1 aA ?_)))));refine bF (d.bP h1) aA λB m o x=>aQ 9 Xe (by kernel_rfl) aA λc=>aB 2 c aA (aE c m aA (Xd.arith Xb c rfl (w64 (by have:=hg 2;omega)) rfl (aF c aA λC j=>aU 2 aA ?_)));refine bF (j.bP m) aA λv s p y=>?_;have t:Xc (Ac P) w v:=((d.gr.trans (o.mono λ_ _ h=>.inl h)).trans j.gr).trans (p.mono λ_ _ h=>.inl h);exact Xa.store Xb rfl (p.heap (j.bP (o.heap (d.bP h2) l)) l) (Fw (i:=k*3) (by show 0+k*3+0=_;omega) (by omega)) rfl λD u q z=>aN aA (bE func105 aA ⟨q.heap s (λe=>l e.symm),u,t.trans (q.mono λ_ _ h=>.inr h)⟩)
 .refine aN aA (aQ 12 Xe (by kernel_rfl) aA λc=>aD c r aA (aB 1 c aA (aE c h1 aA (Xd.arith Xb c rfl (w64 (by have:=hg 1;omega)) rfl (aF c aA λA d=>aU 1 aA ?_)))));refine bF (d.bP h1) aA λB m o x=>aQ 9 Xe (by kernel_rfl) aA λc=>aB 0 c aA (aE c m aA (Xd.arith Xb c rfl (w64 (by have:=hg 0;omega)) rfl (aF c aA λC j=>aU 0 aA ?_)));refine bF (j.bP m) aA λv s p y=>?_;have t:Xc (Ac P) w v:=((d.gr.trans (o.mono λ_ _ h=>.inl h)).trans j.gr).trans (p.mono λ_ _ h=>.inl h);exact Xa.store Xb rfl (p.heap (j.bP (o.heap (d.bP h2) l)) l) (Fw (i:=k*3) (by show 0+k*3+0=_;omega) (by omega)) rfl λD u q z=>aN aA (bE func105 aA ⟨q.heap s (λe=>l e.symm),u,t.trans (q.mono λ_ _ h=>.inr h)⟩)
variable {P:Ap}
theorem XnL(h2:Zm w b ty N f)(hk:k*3+2<N):∀j v,[Value.int .i64 (f (k*3)),.int .i64 (f (k*3+1)),.int .i64 (f (k*3+2))][j]?=some v->w.cell? ⟨b,0+k*3+j,none⟩=some v
 |0,v,e=>by cases e;exact Ca h2 (by omega) (by omega)
 |1,v,e=>by cases e;exact Ca h2 (by omega) (by omega)
 |2,v,e=>by cases e;exact Ca h2 (by omega) (by omega)
 |j+3,v,e=>by cases e
theorem Xcz{t:TbM}:Jl t i=1↔t.dB.getD i false=true:=by
 unfold Jl;split
 .simp_all
 .split <;> simp_all
theorem XbE{t:TbM}(h:Cg w P t cN cS)(k:Int)(hk : -9223372036854775808<=k/\k<=9223372036854775807):Xf prog 57 #[K1 P,.int .i64 k] w (Grow (.tuple #[.int .i64 (Zc t k),.int .i64 (X0 t k)]) w):=by
 obtain⟨head,f,u,v,E,x⟩:=h.at';have F:=h.ok.n;refine aR func57 ntmps57 aA (bG (XjA k w hk) aA λG a=>?_);have n:=a.bP u;cases hm:Da (Zl k) (Z1 k) with
 |false=>
  have e:X0 t k=7:=by unfold X0;rw[bK hm]
  have en:Zc t k=0:=by unfold Zc;rw[e];rfl
  exact bI aA (bE func57 aA ⟨by rw[e,en];rfl,a⟩)
 |true=>
  have o:=hm;simp only[Da,XK,decide_eq_true_eq] at o;refine aS aA (bB n aA ?_);by_cases c:(t.gen.length:Int)<=Zl k
  .have e:X0 t k=7:=by unfold X0;rw[bJ (by rw[hm];decide),bK c]
   have en:Zc t k=0:=by unfold Zc;rw[e];rfl
   exact bI aA (bE func57 aA ⟨by rw[e,en],a⟩)
  .refine aS aA (bB n aA ?_);obtain⟨j,g⟩:=XE o.1.1.1;have q:j<t.gen.length:=by omega
   obtain⟨y,A⟩:=x j q;have eg:A9 t (Zl k)=f (j*3+1):=by
    rw[A,g];unfold A9;rw[XB,XA]
   have el:Nl t (Zl k)=decide (f (j*3)=1):=by
    rw[y,g,show decide (Jl t j=1)=decide (t.dB.getD j false=true) from decide_eq_decide.2 Xcz];unfold Nl;rw[XB,<-XA,Bool.decide_eq_true]
   rw[g];refine aU (j*3) aA (Xa.loadC Xb ([Value.int .i64 (f (j*3)),.int .i64 (f (j*3+1)),.int .i64 (f (j*3+2))]) rfl (by first|rfl|(simp;done)|(simp[*];done)|(simp;omega)) (XnL (a.bP v) (by omega)) rfl (bC aA λb H e2 B r C=>bF B aA λI d s D=>?_));have i:=(a.trans r).bU s (λz J e=>by have:=a.size;omega);refine bB d aA ?_;by_cases l:Z1 k<f (j*3+1)
   .have e:X0 t k=6:=by unfold X0;rw[bJ (by rw[hm];decide),bJ c,eg,bK l]
    have en:Zc t k=0:=by unfold Zc;rw[e];rfl
    exact bI aA (bE func57 aA ⟨by rw[e,en],i⟩)
   refine aS aA (bB d aA ?_);by_cases p:f (j*3+1)<Z1 k
   .have e:X0 t k=7:=by unfold X0;rw[bJ (by rw[hm];decide),bJ c,eg,bJ l,bK p]
    have en:Zc t k=0:=by unfold Zc;rw[e];rfl
    exact bI aA (bE func57 aA ⟨by rw[e,en],i⟩)
   refine aS aA (bB d aA ?_);by_cases m:f (j*3)=1
   .have e:X0 t k=0:=by unfold X0;rw[bJ (by rw[hm];decide),bJ c,eg,bJ l,bJ p,el,bN m];rfl
    have en:Zc t k=j:=by unfold Zc;rw[bK e,g]
    rw[m];exact aS aA (bE func57 aA ⟨by rw[e,en];rfl,i⟩)
   .have e:X0 t k=7:=by unfold X0;rw[bJ (by rw[hm];decide),bJ c,eg,bJ l,bJ p,el,bO m];rfl
    have en:Zc t k=0:=by unfold Zc;rw[e];rfl
    exact aM aA (bne_iff_ne.2 (λe=>m e)) (bE func57 aA ⟨by rw[e,en],i⟩)
theorem Xk8{t:TbM}(h:Cg w P t cN cS):Xf prog 49 #[K1 P] w (X5 (.int .i64 (Xcy t:Nat)) w):=by
 obtain⟨head,f,a,b,c,d⟩:=h.at';exact aR func49 ntmps49 aA (aU 1 aA (bB a aA (bE func49 aA ⟨rfl,rfl⟩)))
theorem Xk7{t:TbM}(h:Cg w P t cN cS):Xf prog 68 #[K1 P] w (X5 (.int .i64 (t.fl.length:Nat)) w):=by
 obtain⟨head,f,a,b,c,d⟩:=h.at';exact aR func68 ntmps68 aA (aU 0 aA (bB a aA (bE func68 aA ⟨rfl,rfl⟩)))
theorem Xhe{t:TbM}(h:t.Ok cN cS)(i:Nat):-4096<=Vq t i/\Vq t i<=4096:=by
 have:=h.many;have:=h.n;have:=h.sl;unfold Vq;split
 .omega
 .split <;> omega
theorem Vr{head:Int}{g g':Nat->Int}(h0:g 0=g' 0)(h1:g 1=g' 1)(h2:g 2=g' 2):Gs P n cH head g=Gs P n cH head g':=by unfold Gs;rw[h0,h1,h2]
theorem El{l:List α}{x d:α}(h:l[i]?=some x):l.getD i d=x:=by rw[XA,h];rfl
theorem Xla{t:TbM}(h:Cg w P t cN cS)(hne:t.fl≠[]):Xf prog 69 #[K1 P] w
 (λv w'=>v=.tuple #[.int .i64 (Lw t),.int .i64 (Dk t),.int .i64 0]/\Cg w' P (Ee t) cN cS/\Xc (Ac P) w w'):=by
 obtain⟨head,f,m,C,D,E⟩:=h.at';have hn:=h.ok.n;have a3:=h.ok.sl;have a4:=h.ok.gs;obtain⟨n,r,e⟩:∃n r,t.fl=n::r:=by
  cases hf:t.fl with
  |nil=>exact absurd hf hne
  |cons n r=>exact⟨n,r,rfl⟩
 rw[e] at D;obtain⟨rfl,N⟩:=D;obtain⟨A,c,O,F⟩:=h.ok.fr n (by rw[e];exact ZP);have d:=(XC.1 c).1;have G:n<t.dB.length:=by rw[h.ok.nl];exact d
 obtain⟨Q,H⟩:=E n d;have a5:=(h.ok.gen n A c).1;have I:f (n*3)=(0:Nat):=by
  rw[Q];unfold Jl;rw[El F,bJ (by decide),El c,h.ok.mg,bK O];rfl
 rw[El c] at H;have eT:Ee t={t with dB:=t.dB.set n true,fl:=r}:=by unfold Ee;rw[e]
 have J:P.sb≠P.tb:=λe=>by
  have:=Fl m C (by decide);exact this e.symm
 have R:=(XU.1 (e▸h.ok.nd)).1;refine aR func69 ntmps69 aA (aQ 9 Xe (by kernel_rfl) aA λB=>aE B m aA (aE B m aA (aF B aA λS g=>?_)));have o:=g.bP m;refine aS aA (bB o aA (aP aA (XbF (a:=0) (b:=1) o (show Zm S _ _ _ _ from g.bP C) d (by omega) I (Xhe h.ok) (.inl ⟨rfl,rfl⟩)) ?_));rintro _ w2 ⟨p,q,K⟩;refine aN aA (bB p aA (aU (n*3) aA (aW aA (Ca q (k:=n*3+2) (by show 0+n*3+2=_;omega) (by omega)) aA ?_)));rw[X3 _ _ (show n*3+2≠n*3 by omega)];refine bF p aA λT s u a6=>?_;have x:=u.heap q J;refine bB s aA (aU (n*3) aA (aW aA (Ca x (k:=n*3+1) (by show 0+n*3+1=_;omega) (by omega)) aA ?_));rw[X3 _ _ (show n*3+1≠n*3 by omega),H];refine bG (Xjz n A T (by omega) (by omega)) aA λU j=>?_;have y:=h.ok.take;have L:=T9 (b:=true) F;simp only[ZR,if_false,if_true] at L;have V:Cg U P (Ee t) cN cS:=by
  rw[eT] at y⊢;refine⟨y,f (n*3+2),X2 f (n*3) (1:Nat),?_,j.bP x,?_,λi W=>?_⟩
  .rw[j.bP s];refine congrArg (λl:List dE=>some (Obj.cells l.toArray 150 (0,0))) ?_;show Gs P t.gen.length t.cH _ _=Gs P t.gen.length t.cH _ _
   refine Vr ?_ ?_ ?_
   .show t.fl.length-(1:Int)=r.length
    rw[e,XO];omega
   .show t.dB.count true+(1:Int)=((t.dB.set n true).count true:Nat)
    omega
   .show(t.gen.length:Int)-t.fl.length-t.dB.count true=t.gen.length-r.length-((t.dB.set n true).count true:Nat)
    rw[e,XO];omega
  .refine Ub (λa ha=>?_) N;rw[X3 _ _ (by omega)]
  .obtain⟨b1,M⟩:=E i W;by_cases z:i=n
   .subst z;refine⟨?_,by rw[X3 _ _ (by omega)];exact M⟩;rw[A2];exact(Xcz.2 (El (XH G))).symm
   .refine⟨?_,by rw[X3 _ _ (by omega)];exact M⟩;rw[X3 _ _ (by omega),b1];unfold Jl;show _=if (t.dB.set n true).getD i false=true then (1:Int) else _
    simp only[XA];rw[XJ (Ne.symm z)]
 have eg:A9 t (n:Nat)=A:=by unfold A9;rw[XB,c];rfl
 exact bD rfl func69 (.tmp rfl (.tmp rfl (.tmp rfl .nil))) ⟨by unfold Lw Dk;rw[e];simp only[eg];rfl,V,(((g.gr.trans K).trans (u.mono λ_ _ h=>.inl h)).trans j.gr)⟩
theorem Xk6{t:TbM}(h:Cg w P t cN cS)(k:Int)(hk : -9223372036854775808<=k/\k<=9223372036854775807):Xf prog 54 #[K1 P,.int .i64 k] w
 (λv w'=>v=.int .i64 (X0 t k)/\Cg w' P (Cq t k) cN cS/\Xc (Ac P) w w'):=by
 have am:=h.ok.sl;have an:=h.ok.n;have ao:=h.ok.gs;have s:P.sb≠P.tb:=λe=>by
  obtain⟨head,f,B,C,R,D⟩:=h.at';have:=Fl B C (by decide);exact this e.symm
 refine aR func54 ntmps54 aA (bG (XbE h k hk) aA λw1 F=>?_);have hg:=h.bQ F;have G:Xc (Ac P) w w1:=F.gr;by_cases r:X0 t k=0
 .obtain⟨b1,b2,d,b4,b5,S,E⟩:=h.ok.tbE_ok r;obtain⟨head,f,B,C,R,D⟩:=hg.at';obtain⟨n,u⟩:=XE b1;have en:Zc t k=n:=by unfold Zc;rw[bK r,u]
  rw[u,XB] at d S E;have eG:A9 t (Zl k)=Z1 k:=by rw[u];unfold A9;rw[XB,S];rfl
  have H:n<t.dB.length:=by rw[h.ok.nl];exact d
  obtain⟨a1,a2⟩:=D n d;rw[El S] at a2;have I:f (n*3)=(1:Nat):=by rw[a1,Xcz.2 (El E)];rfl
  have m:=h.ok.give k;have o:=Xhe h.ok;have a7:=T9 (b:=false) E;simp only[ZR,if_false,if_true] at a7;have a8:n∉t.fl:=λhm=>by
   obtain⟨g,_,_,a3⟩:=h.ok.fr _ hm;rw[E] at a3;cases a3
  rw[r,en];refine aS aA (bB B aA (aU (n*3) aA (aW aA (Ca C (k:=n*3+1) (by show 0+n*3+1=_;omega) (by omega)) aA ?_)));rw[a2];refine aV aA (aL aA C (Fw (i:=n*3+1) (by show 0+n*3+1=_;omega) (by omega)) aA λw2 p J ap=>?_);have K:=J.heap B (λe=>s e.symm);replace p:Zm w2 P.sb 168 (t.gen.length*3) (X2 f (n*3+1) (Z1 k+1)):=p;have ab:w2.cell? ⟨P.sb,0+n*3+1,none⟩=some (.int .i64 (Z1 k+1)):=by rw[Ca p (k:=n*3+1) (by omega) (by omega),A2]
  refine aQ 8 Xe (by kernel_rfl) aA λT=>aD T ab aA (aE T K aA (aF T aA λw3 x=>?_));have L:=x.bP K;have M:Zm w3 P.sb 168 (t.gen.length*3) (X2 f (n*3+1) (Z1 k+1)):=x.bP p;have N:Xc (Ac P) w w3:=(G.trans (J.mono λ_ _ h=>.inr h)).trans x.gr;by_cases ah:t.cH<Z1 k+1
  .have eT:Cq t k={t with gen:=t.gen.set n (Z1 k+1),dB:=t.dB.set n false}:=by
    unfold Cq;rw[bK r,eG,bJ (by omega),u,XB]
   refine bI aA (aP aA (XbF (a:=1) (b:=2) L M d (by omega) (by rw[X3 _ _ (by omega)];exact I) o (.inr (.inl ⟨rfl,rfl⟩))) ?_);rintro _ U ⟨q,y,z⟩;refine aN aA ?_;have V:Cg U P (Cq t k) cN cS:=by
    rw[eT] at m⊢;refine⟨m,head,X2 (X2 f (n*3+1) (Z1 k+1)) (n*3) (2:Nat),?_,?_,?_,λi j=>?_⟩
    .rw[q];refine congrArg (λl:List dE=>some (Obj.cells l.toArray 150 (0,0))) ?_;show Gs P t.gen.length t.cH _ _=Gs P (t.gen.set n (Z1 k+1)).length t.cH _ _
     rw[XG];refine Vr rfl ?_ ?_
     .show t.dB.count true-(1:Int)=((t.dB.set n false).count true:Nat)
      omega
     .show(t.gen.length:Int)-t.fl.length-t.dB.count true+1=(t.gen.set n (Z1 k+1)).length-t.fl.length-((t.dB.set n false).count true:Nat)
      rw[XG];omega
    .show Zm U P.sb _ ((t.gen.set n (Z1 k+1)).length*3) _
     rw[XG];exact y
    .show Ms _ (t.gen.set n (Z1 k+1)).length _ t.fl
     rw[XG];refine Ub (λa ha=>?_) R;rw[X3 _ _ (by omega),X3 _ _ (by omega)]
    .replace j:i<t.gen.length:=by simpa using j
     obtain⟨W,c2⟩:=D i j;by_cases c:i=n
     .subst c;refine⟨?_,?_⟩
      .rw[A2];unfold Jl;show _=if (t.dB.set i false).getD i false=true then (1:Int) else if (t.gen.set i (Z1 k+1)).getD i 0<=t.cH then 0 else 2
       rw[El (XH H),El (XH d),bJ (by decide),bJ (by omega)];rfl
      .rw[X3 _ _ (by omega),A2];exact(El (XH d)).symm
     .refine⟨?_,?_⟩
      .rw[X3 _ _ (by omega),X3 _ _ (by omega),W];unfold Jl;show _=if (t.dB.set n false).getD i false=true then (1:Int) else if (t.gen.set n (Z1 k+1)).getD i 0<=t.cH then 0 else 2
       simp only[XA];rw[XJ (Ne.symm c),XJ (Ne.symm c)]
      .rw[X3 _ _ (by omega),X3 _ _ (by omega),c2];show _=(t.gen.set n (Z1 k+1)).getD i 0
       simp only[XA];rw[XJ (Ne.symm c)]
   exact bE func54 aA ⟨rfl,V,N.trans z⟩
  .have eT:Cq t k={t with gen:=t.gen.set n (Z1 k+1),dB:=t.dB.set n false,fl:=n::t.fl}:=by
    unfold Cq;rw[bK r,eG,bK (by omega),u,XB]
   refine aS aA (aP aA (XbF (a:=1) (b:=0) L M d (by omega) (by rw[X3 _ _ (by omega)];exact I) o (.inr (.inr ⟨rfl,rfl⟩))) ?_);rintro _ U ⟨q,y,z⟩;refine aN aA (bB q aA (aL aA y (Fw (i:=n*3+2) (by show 0+n*3+2=_;omega) (by omega)) aA λw5 A O aq=>?_));have ae:=O.heap q (λe=>s e.symm);refine bF ae aA λw6 af Q ar=>?_;replace A:Zm w5 P.sb 168 (t.gen.length*3) (X2 (X2 (X2 f (n*3+1) (Z1 k+1)) (n*3) (0:Nat)) (n*3+2) head):=A;have ag:Xc (Ac P) w w6:=((N.trans z).trans (O.mono λ_ _ h=>.inr h)).trans (Q.mono λ_ _ h=>.inl h);have V:Cg w6 P (Cq t k) cN cS:=by
    rw[eT] at m⊢;refine⟨m,n,X2 (X2 (X2 f (n*3+1) (Z1 k+1)) (n*3) (0:Nat)) (n*3+2) head,?_,?_,?_,λi j=>?_⟩
    .rw[af];refine congrArg (λl:List dE=>some (Obj.cells l.toArray 150 (0,0))) ?_;show Gs P t.gen.length t.cH _ _=Gs P (t.gen.set n (Z1 k+1)).length t.cH _ _
     rw[XG];refine Vr ?_ ?_ ?_
     .show(t.fl.length:Int)+1=((n::t.fl).length:Nat)
      rw[XO];omega
     .show t.dB.count true-(1:Int)=((t.dB.set n false).count true:Nat)
      omega
     .show(t.gen.length:Int)-t.fl.length-t.dB.count true=(t.gen.set n (Z1 k+1)).length-(n::t.fl).length-((t.dB.set n false).count true:Nat)
      rw[XG,XO];omega
    .show Zm w6 P.sb _ ((t.gen.set n (Z1 k+1)).length*3) _
     rw[XG];exact Q.heap A s
    .show Ms _ (t.gen.set n (Z1 k+1)).length _ (n::t.fl)
     rw[XG];refine⟨rfl,?_⟩;rw[A2];refine Ub (λa ha=>?_) R;have:a≠n:=λe=>a8 (e▸ha);rw[X3 _ _ (by omega),X3 _ _ (by omega),X3 _ _ (by omega)]
    .replace j:i<t.gen.length:=by simpa using j
     obtain⟨W,c2⟩:=D i j;by_cases c:i=n
     .subst c;refine⟨?_,?_⟩
      .rw[X3 _ _ (by omega),A2];unfold Jl;show _=if (t.dB.set i false).getD i false=true then (1:Int) else if (t.gen.set i (Z1 k+1)).getD i 0<=t.cH then 0 else 2
       rw[El (XH H),El (XH d),bJ (by decide),bK (by omega)];rfl
      .rw[X3 _ _ (by omega),X3 _ _ (by omega),A2];exact(El (XH d)).symm
     .refine⟨?_,?_⟩
      .rw[X3 _ _ (by omega),X3 _ _ (by omega),X3 _ _ (by omega),W];unfold Jl;show _=if (t.dB.set n false).getD i false=true then (1:Int) else if (t.gen.set n (Z1 k+1)).getD i 0<=t.cH then 0 else 2
       simp only[XA];rw[XJ (Ne.symm c),XJ (Ne.symm c)]
      .rw[X3 _ _ (by omega),X3 _ _ (by omega),X3 _ _ (by omega),c2];show _=(t.gen.set n (Z1 k+1)).getD i 0
       simp only[XA];rw[XJ (Ne.symm c)]
   exact bE func54 aA ⟨rfl,V,ag⟩
 .exact bI aA (bE func54 aA ⟨rfl,by unfold Cq;rw[bJ r];exact hg,G⟩)
theorem XhH(t:Nat->Int)(ht:∀i,t i=0):∀n,Y3 [Value.int .i64 0,Value.int .i64 0,Value.int .i64 0] n=Bc (n*3) t
 |0=>rfl
 |n+1=>by
  have e:∀m,Bc m t=List.replicate m (.int .i64 0):=λm=>by
   unfold Bc;rw[ZW (g:=λ_=>Value.int .i64 0) (λi _=>by rw[ht]),List.map_const',ZM]
  rw[Y3,XhH t ht n,e,e];show List.replicate 3 _++_=_
  rw[List.replicate_append_replicate]
  congr 1
  omega
def Ja:Nat->Nat->Int
 |0=>λ_=>0
 |k+1=>X2 (X2 (X2 (Ja k) (k*3) 0) (k*3+1) 1) (k*3+2) (k+1)
theorem Xbg:∀(k n:Nat),n<k->Ja k (n*3)=0/\Ja k (n*3+1)=1/\Ja k (n*3+2)=n+1
 |k+1,n,h=>by
  have e:Ja (k+1)=X2 (X2 (X2 (Ja k) (k*3) 0) (k*3+1) 1) (k*3+2) (k+1):=rfl;rw[e];by_cases a:n=k
  .subst a;exact⟨by rw[X3 _ _ (by omega),X3 _ _ (by omega),A2],by rw[X3 _ _ (by omega),A2],A2 ..⟩
  .rw[X3 _ _ (by omega),X3 _ _ (by omega),X3 _ _ (by omega),X3 _ _ (by omega),X3 _ _ (by omega),X3 _ _ (by omega),X3 _ _ (by omega),X3 _ _ (by omega),X3 _ _ (by omega)];exact Xbg k n (by omega)
theorem XeR{f:Nat->Int}{N:Nat}(h:∀n,n<N->f (n*3+2)=n+1):∀(m k:Nat),k+m=N->Ms f N k (List.range' k m)
 |0,k,e=>by show(k:Int)=N;omega
 |m+1,k,e=>by
  rw[List.range'_succ];refine⟨rfl,?_⟩;rw[h k (by omega)];exact XeR h m (k+1) (by omega)
theorem Xk9(N:Nat)(cS:Int)(w:dD)(hN:1<=N/\N<=4096)(hg:1<=cS/\cS<=1023):Xf prog 65 #[.int .i64 N,.int .i64 cS] w
 (λv w'=>∃P,v=.tuple #[K1 P,.int .i64 0]/\(w.heap.size<=P.tb/\w.heap.size<=P.sb)/\Cg w' P (Cy N cS) N cS/\Xc Xe w w'):=by
 refine aR func65 ntmps65 aA (aS aA (aS aA (aS aA (aS aA (Xa.make Xb (m:=N) (k:=N) rfl rfl rfl (XF _) (by first|omega|(show 24*N<=_;omega)) (by omega) λsb E e1 c d O=>aN aA (aO aA (bC aA λtb s e2 a j Q=>?_)))))));obtain⟨P,eP⟩:∃P:Ap,P=⟨tb,sb⟩:=⟨_,rfl⟩;replace c:Zm E P.sb 168 (N*3) (Ja 0):=by
  unfold Zm;rw[eP,c];exact congrArg (λx:List dE=>some (Obj.cells x.toArray 168 (0,0))) (XhH (Ja 0) (λ_=>rfl) N)
 replace a:s.heap[P.tb]?=some (.cells (Gs P N cS 0 (λ_=>0)).toArray 150 (0,0)):=by rw[eP];exact a
 have o:¬P.tb=P.sb:=by rw[eP];show ¬tb=sb;omega
 rw[show tb=P.tb by rw[eP]];refine bB a aA ?_;rw[show sb=P.sb by rw[eP]];refine Xa.loop (α:=Nat) (λk=>[(0,false,.int .i64 N),(6,false,K1 P),(31,false,.int .i64 N),(32,false,.int .i64 k)])
  (λk w'=>k<=N/\Zm w' P.sb 168 (N*3) (Ja k)/\Xc (λz=>z=P.sb) s w') (λk=>N-k) 0 ⟨rfl,rfl,rfl,rfl,trivial⟩ ⟨XQ _,j.bP c,Xc.refl _ _⟩ ?_
 rintro k F ⟨R,t,f⟩ ih;have g:=f.heap a o;refine aN aA (aT aA (λp=>?_) λp=>?_)
 .have u:k<N:=by have:=bL p;omega
  refine bB g aA (aV aA (aO aA (aU (k*3) aA ?_)));refine Xa.store Xb rfl (show F.heap[P.sb]?=some (.cells (Bc (N*3) (Ja k)).toArray 168 (0,0)) from t) (Xgu (i:=k*3) (by show 0+k*3=_;omega) (by omega)) rfl ?_;intro y G b A;exact aN aA (aV aA (ih (k+1) _ _ ⟨u,G,f.trans b⟩ (by omega) ⟨rfl,rfl,rfl,rfl,trivial⟩))
 .have B:k=N:=by have:=bM p;omega
  subst B;refine aU 0 aA (bF g aA λy q b A=>?_);have h:(Cy k cS).gen.length=k:=by show(List.replicate ((k:Nat):Int).toNat (1:Int)).length=k;rw[XI,XB]
  have r:(Cy k cS).fl=List.range k:=by show List.range ((k:Nat):Int).toNat=_;rw[XB]
  have e1:(Cy k cS).dB.count true=0:=by show(List.replicate ((k:Nat):Int).toNat false).count true=0;rw[List.count_replicate];rfl
  have H:Cg y P (Cy k cS) k cS:=by
   refine⟨Xfb (by omega) hg,0,Ja k,?_,?_,?_,λi C=>?_⟩
   .rw[q,h];refine congrArg (λl:List dE=>some (Obj.cells l.toArray 150 (0,0))) ?_;show Gs P k cS 0 (λi=>if i=0 then (k:Int) else 0)=Gs P k cS 0 _
    refine Vr ?_ ?_ ?_
    .show(k:Int)=((Cy k cS).fl.length:Nat)
     rw[r,ZM]
    .show(0:Int)=((Cy k cS).dB.count true:Nat)
     rw[e1];rfl
    .show(0:Int)=((Cy k cS).gen.length:Nat)-(Cy k cS).fl.length-((Cy k cS).dB.count true:Nat)
     rw[h,r,e1,ZM];omega
   .rw[h];exact b.heap t (λe=>o e.symm)
   .rw[h,r,List.range_eq_range'];exact XeR (λn I=>(Xbg k n I).2.2) k 0 (by omega)
   .rw[h] at C;obtain⟨J,K,_⟩:=Xbg k i C;have L:(Cy k cS).dB[i]?=some false:=by show(List.replicate ((k:Nat):Int).toNat false)[i]?=_;rw[ZE,bK (by omega)]
    have D:(Cy k cS).gen[i]?=some 1:=by show(List.replicate ((k:Nat):Int).toNat (1:Int))[i]?=_;rw[ZE,bK (by omega)]
    rw[J,K,El D];refine⟨?_,rfl⟩;unfold Jl;rw[El L,El D,bJ (by decide),bK (show(1:Int)<=(Cy (k:Nat) cS).cH from hg.1)]
  exact bE func65 aA ⟨P,rfl,⟨by rw[eP];show _<=tb;have:=d.size;omega,by rw[eP];show _<=sb;omega⟩,H,(((d.trans j).bU f (λz M e=>by rw[eP] at e;have:z=sb:=e;omega)).bU b (λz M e=>by rw[eP] at e;have:z=tb:=e;have:=d.size;omega))⟩
def Zx(s:StM):List Int:=s.th.map Bb
section
variable {c:Conf}{s:StM}{pd:Option (Nat×PlcM)}
theorem V7{l:List (Option ThM)}{y:Option ThM}:(l.set o y).map Bb=(l.map Bb).set o (Bb y):=ZZ
theorem XmG{l:List α}{x:α}(h:l[o]?=some x):l.set o x=l:=by
 obtain⟨a,e⟩:=XC.1 h;rw[<-e,List.set_getElem_self]
theorem Xc5{x:Option ThM}(h:s.th[o]?=some x):(Zx s)[o]?=some (Bb x):=by unfold Zx;rw[XN,h];rfl
theorem Xc7(h:s.Ok c)(k:Nat)(n:Int):Zx (Yo s k n)=Zx s:=by
 unfold Yo;cases hm:Xy s (k:Nat) with
 |none=>rfl
 |some m=>
  obtain⟨j,ej,d,a⟩:=At hm;obtain⟨⟨o,t,e1,e2,e3⟩,_⟩:=h.mv j m a;simp only
  split
  .rfl
  .have b:Qw s m.who=t.size:=by rw[e1];exact Ey e2
   show(s.th.set m.who.toNat _).map Bb=_
   rw[show m.who.toNat=o by omega,V7,b];show(Zx s).set o t.size=Zx s
   exact XmG (Xc5 e2)
theorem Xc6(c:Conf)(s:StM)(k:Nat):Zx (Yw c s k)=Zx s:=by unfold Zx;rw[(N4 c s k).1]
theorem XhK(h:s.Ok c)(κ:Int):Zx (Zh s κ)=Zx s:=by
 unfold Zh;split
 .rfl
 .exact Xc7 h _ _
theorem XhJ{q:PlcM}(h:s.OkP c (some (o,q))):Zx (Cd c s q)=Zx s:=by
 unfold Cd;split
 .rfl
 .rw[Xc7 (StM.OkP.begin h.dropped _),Xc6];rfl
theorem XhL(c:Conf)(s:StM)(o:Nat)(size:Int):Zx (Q3 c s (o:Nat) size)=(Zx s).set o size:=by
 show(s.th.set (o:Int).toNat _).map Bb=_
 rw[XB,V7];rfl
theorem XhO(s:StM)(o:Int)(i n:Nat):Zx (Ah s o i n)=Zx s:=by unfold Zx;rw[XhB]
theorem Xog(h:s.Ok c)(o size:Int):Zx (Ab c s o size)=if Cn c s o size=0 then (Zx s).set o.toNat size else Zx s:=by
 unfold Ab;split
 .rename_i a
  obtain⟨j,rfl,_⟩:=W4 a;rw[XhL,XB]
 .rfl
theorem Xoh(h:s.Ok c)(o:Int):Zx (Bn c s o)=if Z7 s o=0 then (Zx s).set o.toNat 0 else Zx s:=by
 unfold Bn;by_cases a:Z7 s o=0
 .rw[bJ (λh=>h a),bK a];obtain⟨j,t,rfl,ht⟩:=J0 a;rw[Qr ht,XB];obtain⟨t',b,_,_,_,d⟩:=Og h ht;rw[Qr b,XhJ ((h.finish t.q.cL).away b d)];show((Zh s t.q.cL).th.set j none).map Bb=_
  rw[V7];show(Zx (Zh s t.q.cL)).set j 0=_
  rw[XhK h]
 .rw[bK a,bJ a]
theorem Xoi(h:s.Ok c){t:ThM}(ht:s.th[o]?=some (some t))(hs:A0 c t.size size=false)(hf:Yt c s size=0):Zx (Ka c s o size)=(Zx s).set o size:=by
 obtain⟨t',M⟩:=Rt h ht hs hf;unfold Ka;simp only
 rw[Qr ht,Qr M.th1,Ey ht,XhJ (M.ok2.put _ _ (Pt M.ok1.bi _ _))];show Zx (Q3 c (Ql (Zh s t.q.cL) _) (o:Nat) size)=_
 rw[XhL];show(Zx (Zh s t.q.cL)).set o size=_
 rw[XhK h]
theorem Xok(h:s.Ok c)(o size:Int):Zx (Ag c s o size)=if A8 c s o size=0 then (Zx s).set o.toNat size else Zx s:=by
 unfold Ag;by_cases b:A8 c s o size=0
 .rw[bJ (λh=>h b),bK b];obtain⟨j,t,rfl,ht,hr,d⟩:=U7 b;rw[Ey ht,XB];have e1:∀(s':StM) q,Zx (Eb s' (j:Nat) ⟨size,q⟩)=(Zx s').set j size:=λs' q=>by
   show(s'.th.set (j:Int).toNat _).map Bb=_
   rw[XB,V7];rfl
  split
  .split
   .rw[XhO,e1];rfl
   .rw[e1]
  .rename_i a
   have a:A0 c t.size size=false:=by simpa using a
   exact Xoi h ht a (d.resolve_left (by rw[a];decide)).2
 .rw[bK b,bJ b]
theorem Xoj(c:Conf)(s:StM)(o i n:Int):Zx (Co c s o i n)=Zx s:=by unfold Co;split <;> rfl
theorem Xoo(c:Conf)(s:StM)(o i:Int)(l:List Int):Zx (C9 c s o i l)=Zx s:=by
 unfold C9;split
 .rw[XhO];rfl
 .rfl
theorem Xon(h:s.Ok c)(n:Int)(k:Nat):Zx (tickK c (s,n) k).1=Zx s:=by
 unfold tickK;split
 .rfl
 .split
  .exact Xc6 ..
  .rw[Xc7 (StM.OkP.begin h k),Xc6]
theorem XhN(h:s.Ok c):∀n,Zx (tickTo c s n).1=Zx s
 |0=>rfl
 |n+1=>by rw[Nn];exact(Xon (h.tickTo n) _ _).trans (XhN h n)
theorem Xom(h:s.Ok c):Zx (Ec c s)=Zx s:=XhN h _
theorem Xol(s:StM)(k bV:Int):Zx (C8 s k bV)=Zx s:=by unfold C8;split <;> rfl
theorem Xc8(h:s.OkP c pd)(o:Nat):(∃t,s.th[o]?=some (some t))↔1<=(Zx s).getD o 0:=by
 constructor
 .rintro⟨t,ht⟩;rw[XA,Xc5 ht];exact(h.size o t ht).1
 .intro a;cases ht:s.th[o]? with
  |none=>
   rw[XA,show(Zx s)[o]?=none by unfold Zx;rw[XN,ht];rfl] at a;exact absurd a (by decide)
  |some x=>
   cases x with
   |none=>
    rw[XA,Xc5 ht] at a;exact absurd a (by decide)
   |some t=>exact⟨t,rfl⟩
theorem XhM:(Zx s).length=s.th.length:=XV _
end
theorem Xq.ones{F:Nat->Prop}{w w':dD}{S:Sto}{s:StM}(h:Xq F Fr w S s by' mo)(he:∀b,X b->Sx F w S b)(hc:Xc X w w'):Xq F Fr w' S s by' mo:=by
 refine h.other hc he ?_;intro al d k sz q c;obtain⟨v,i,x,j,l,_⟩:=h.th;have:=i.uniq d;subst this;by_cases a:∀(o:Nat) t,s.th[o]?=some (some t)->(o:Int)≠k
 .rw[l k a] at c;cases c
 .simp only[Classical.not_forall,YL] at a;obtain⟨o,m,n,p⟩:=a;obtain⟨y,_,f,_,_,g⟩:=j o m n;rw[p,c] at f;rw[(XcA (Option.some.inj f))];intro b' off s' e' r;obtain⟨t,u,ht⟩:=(he b' r).kd;have:=g.i b' off s' e';rw[u] at this;exact g.g b' off s' e' (ht.2.2 (Option.some.inj (Option.some.inj this)))
structure HpM where
 st:StM
 tb:TbM
abbrev Cj(H:Nat):dE:=.pointer (some ⟨H,0,none⟩)
def XbX(e g:Int)(b:dE)(s:Int):dE:=.agg #[.int .i64 e,.int .i64 g,b,.int .i64 s]
abbrev Xfd:dE:=.slice none 0 0
structure Hm(c:Conf)(n0:Nat)(w0 w:dD)(F:Nat->Prop)(S:Sto)(H:Nat)(P:Ap)(s:StM)(t:TbM):Prop where
 lv:Lv c n0 w0 w F S s
 obj:w.heap[H]?=some (.cells [Yq S,K1 P,.int .i64 c.size].toArray 104 (0,0))
 tb:Cg w P t c.cN c.cS
 low:(n0<=P.tb/\n0<=P.sb)/\w0.heap.size<=P.tb/\w0.heap.size<=P.sb
 out:¬F H/\¬F P.tb/\¬F P.sb
def Zz(F:Nat->Prop)(P:Ap):Nat->Prop:=λz=>F z\/Ac P z
def Jo(c:Conf)(n0:Nat)(w0 w:dD)(F:Nat->Prop)(S:Sto)(H:Nat)(P:Ap)(s:StM)(t:TbM)(w':dD):Prop:=
 ∃F',Hm c n0 w0 w' F' S H P s t/\(∀z,F' z->F z\/w.heap.size<=z)/\Xc (Zz F P) w w'
section
variable {c:Conf}{n0:Nat}{w0 w w':dD}{F:Nat->Prop}{S:Sto}{H:Nat}{P:Ap}{s s':StM}{t t':TbM}
theorem Lv.ones(h:Lv c n0 w0 w F S s){X:Nat->Prop}(hX:∀b,X b->n0<=b/\w0.heap.size<=b/\¬F b/\∃t,kd w b=some (some t)/\t≠352/\t≠348/\(t=3->S.G b))(hc:Xc X w w'):Lv c n0 w0 w' F S s:=by
 obtain⟨Fr,mo,a⟩:=h.ok;obtain⟨f1,f2,f3,f4,f5,f6,f7,f8⟩:=h.fx;refine {h with ok:=⟨Fr,mo,a.ones (λb d=>?_) hc⟩,bR:=h.bR.bU hc (λz i e=>by have:=(hX z e).2.1;omega)};obtain⟨j,k,f,t,g,ht⟩:=hX b d;exact⟨f,⟨by omega,by omega,by omega,by omega,by omega,by omega⟩,λoff s e=>by have:=f7 _ _ _ e;omega,λoff s e=>by have:=f8 _ _ _ e;omega,t,g,ht⟩
theorem Hm.bQ(h:Hm c n0 w0 w F S H P s t)(hc:Xc Xe w w'):Hm c n0 w0 w' F S H P s t:={h with lv:=h.lv.bQ hc,obj:=hc.bP h.obj,tb:=h.tb.bQ hc}
theorem Hm.ne(h:Hm c n0 w0 w F S H P s t):¬Ac P H:=λe=>by
 obtain⟨a,b⟩:=h.tb.kd;have:=X1 h.obj;exact e.elim (λe=>by rw[<-e,this] at a;cases a) (λe=>by rw[<-e,this] at b;cases b)
theorem Hm.store(h:Hm c n0 w0 w F S H P s t)(hl:Kd c n0 w0 w F S s' w'):Jo c n0 w0 w F S H P s' t w':=by
 obtain⟨F',j,a,b⟩:=hl;obtain⟨d,f,i⟩:=h.out;obtain⟨k,l⟩:=h.tb.lt;exact⟨F',⟨j,b.heap h.obj d,h.tb.bR b f i,h.low,λz=>(a _ z).elim d (λg=>by have:=Xg h.obj;omega),λz=>(a _ z).elim f (λg=>by omega),λz=>(a _ z).elim i (λg=>by omega)⟩,a,b.mono λ_ _ e=>.inl e⟩
theorem Hm.table(h:Hm c n0 w0 w F S H P s t)(hT:Cg w' P t' c.cN c.cS)(hc:Xc (Ac P) w w'):Jo c n0 w0 w F S H P s t' w':=by
 obtain⟨k,a,d⟩:=h.out;obtain⟨f,g⟩:=h.tb.kd;refine⟨F,⟨h.lv.ones (λb i=>?_) hc,hc.heap h.obj h.ne,hT,h.low,h.out⟩,λz j=>.inl j,hc.mono λ_ _ e=>.inr e⟩;rcases i with rfl|rfl
 .exact⟨h.low.1.1,h.low.2.1,a,_,f,by decide,by decide,λe=>absurd e (by decide)⟩
 .exact⟨h.low.1.2,h.low.2.2,d,_,g,by decide,by decide,λe=>absurd e (by decide)⟩
theorem Jo.up(h:Jo c n0 w0 w1 F S H P s t w')(hc:Xc Xe w w1):Jo c n0 w0 w F S H P s t w':=by
 obtain⟨F',a,b,d⟩:=h;have:=hc.size;exact⟨F',a,λz f=>(b z f).imp id (by omega),hc.gr.trans d⟩
end
theorem XkS{r:Nat}(h:Lm (FloatKind.nearest .f64 0) (FloatKind.nearest .f64 0) r):Rc .eql r r=some false/\Rc .neq r r=some true:=by
 unfold Lm at h;rw[show(FloatKind.format .f64).div (FloatKind.nearest .f64 0) (FloatKind.nearest .f64 0)=none from rfl] at h;obtain⟨t,rfl⟩:=h;have:(FloatKind.format .f64).order (t%2*2^63+9218868437227405312+1+t/2%(2^52-1)) (t%2*2^63+9218868437227405312+1+t/2%(2^52-1))=none:=by
  have a:t/2%(2^52-1)<2^52-1:=QJ _ (by decide);generalize t/2%(2^52-1)=u at *
  have b:t%2<2:=QJ _ (by decide);generalize t%2=z at *
  have:∃sg fr,Ieee.double.read (z*2^63+9218868437227405312+1+u)=.nan sg fr:=by
   unfold Ieee.Format.read;rw[show Ieee.double.signWeight=2^63 from rfl,show Ieee.double.binade=2^52 from rfl,show Ieee.double.infRung=2047*2^52 from rfl];have e2:(z*2^63+9218868437227405312+1+u)%2^63=9218868437227405312+1+u:=by omega
   simp only[e2];rw[bJ (by omega),bJ (by omega),bJ (by omega)];exact⟨_,_,rfl⟩
  obtain⟨sg,fr,e⟩:=this;show Ieee.Format.order _ _ _=_
  unfold Ieee.Format.order;rw[show FloatKind.format .f64=Ieee.double from rfl,e];rfl
 unfold Rc;rw[show(FloatKind.format .f64).order=(FloatKind.format .f64).order from rfl,this];exact⟨rfl,rfl⟩
theorem Xle(a b:Int)(w:dD):Xf prog 72 #[.int .i64 a,.int .i64 b] w (λv w'=>∃r,v=.float .f64 r/\Lm (FloatKind.nearest .f64 a) (FloatKind.nearest .f64 b) r/\Xc Xe w w'):=by
 exact aR func72 ntmps72 aA (Xa.fconv Xb rfl rfl (Xa.fconv Xb rfl rfl (Xa.fquo Xb rfl (λ_=>rfl) λr f d c=>bE func72 aA ⟨r,rfl,d,c⟩)))
section
variable {c:Conf}{n0:Nat}{w0 w:dD}{F:Nat->Prop}{S:Sto}{H:Nat}{P:Ap}{s:StM}{t:TbM}
theorem XaU(h:Hm c n0 w0 w F S H P s t):Xf prog 16 #[Cj H] w (X5 (.int .i64 (Xcy t:Nat)) w):=by
 exact aR func16 ntmps16 aA (bB h.obj aA (bH (Xk8 h.tb) aA (bE func16 aA ⟨rfl,rfl⟩)))
theorem XaT(h:Hm c n0 w0 w F S H P s t):Xf prog 17 #[Cj H] w (Grow (.int .i64 (Zf s.rm.pl:Nat)) w):=by
 exact aR func17 ntmps17 aA (bB h.obj aA (bG (Xj3 h.lv) aA λb a=>bE func17 aA ⟨rfl,a⟩))
theorem Xjt(h:Hm c n0 w0 w F S H P s t)(k:Int)(hk : -9223372036854775808<=k/\k<=9223372036854775807):Xf prog 20 #[Cj H,.int .i64 k] w (Grow (.int .i64 (if X0 t k=0 then Qw s (Zc t k) else 0)) w):=by
 refine aR func20 ntmps20 aA (bB h.obj aA (bG (XbE h.tb k hk) aA λf a=>?_));by_cases b:X0 t k=0
 .rw[b,bK rfl];exact aS aA (bB (a.bP h.obj) aA (bG (Xj8 (h.lv.bQ a) (Zc t k)) aA λg d=>bE func20 aA ⟨rfl,a.trans d⟩))
 .rw[bJ b];exact bI aA (bE func20 aA ⟨rfl,a⟩)
theorem Xew(h:Hm c n0 w0 w F S H P s t):Xf prog 27 #[Cj H] w (λv w'=>∃r,v=.float .f64 r/\Lm (FloatKind.nearest .f64 (Zs s)) (FloatKind.nearest .f64 ((Zf s.rm.pl:Nat)*c.size)) r/\Xc Xe w w'):=by
 have a:=Ye h.lv.inv.may;have f:((Zf s.rm.pl:Nat):Int)<=1024:=by
  have:=O5 s.rm.pl.own;have:=h.lv.inv.rm.ok.own;have:=a.bS;unfold Zf;omega
 have j:0<=((Zf s.rm.pl:Nat):Int)*c.size/\((Zf s.rm.pl:Nat):Int)*c.size<=1024*4096:=⟨ZJ (by omega) (by have:=a.size;omega),ZG f (by have:=a.size;omega) (by have:=a.size;omega) (by decide)⟩;refine aR func27 ntmps27 aA (aQ 11 Xe (by kernel_rfl) aA λb=>aE b h.obj aA (aG b (λw' d=>Xj0 (h.lv.bQ d)) aA (aG b (λw' d=>XaT (h.bQ d)) aA (aE b h.obj aA (aF b aA λk g=>aV aA (aP aA (Xle _ _ k) ?_))))));rintro _ m ⟨r,rfl,l,i⟩;exact aN aA (bE func27 aA ⟨r,rfl,l,g.trans i⟩)
end
def Yc(n:Nat)(F:Nat->Prop)(l:List Int)(b:dE)(w:dD):Prop:=∃a cap,b=.slice a l.length cap/\Rd .u8 w a l/\∀b' off s',a=some ⟨b',off,s'⟩->(n<=b'/\b'<w.heap.size)/\¬F b'
theorem Yc.none(n:Nat)(F:Nat->Prop)(w:dD):Yc n F [] Xfd w:=⟨_,_,rfl,Rd.nil _ _ _,by intro b' off s' e;cases e⟩
theorem Yc.bR{F:Nat->Prop}{b:dE}{w w':dD}(h:Yc n F l b w)(hc:Xc X w w')(hX:∀z,X z->(z<n\/w.heap.size<=z)\/F z):Yc n F l b w':=by
 obtain⟨a,cap,e,hr,c⟩:=h;refine⟨a,cap,e,λi f=>?_,λb' off s' e=>⟨⟨(c b' off s' e).1.1,by have:=(c b' off s' e).1.2;have:=hc.size;omega⟩,(c b' off s' e).2⟩⟩;obtain⟨b',off,e',d⟩:=hr i f;exact⟨b',off,e',hc.cell d (λj=>(hX _ j).elim (λg=>by have:=(c _ _ _ e').1;omega) (c _ _ _ e').2)⟩
theorem Yc.low{F:Nat->Prop}{b:dE}{w:dD}(h:Yc n F l b w)(hm:m<=n)(hF:∀z,n<=z->z<w.heap.size -> ¬F z -> ¬F' z):Yc m F' l b w:=by
 obtain⟨a,cap,e,hr,c⟩:=h;exact⟨a,cap,e,hr,λb' off s' e=>⟨⟨ZN hm (c b' off s' e).1.1,(c b' off s' e).1.2⟩,hF _ (c b' off s' e).1.1 (c b' off s' e).1.2 (c b' off s' e).2⟩⟩
def N2(c:Conf)(n0:Nat)(w0 w:dD)(F:Nat->Prop)(S:Sto)(H:Nat)(P:Ap)(s:StM)(t:TbM)(e g k:Int)(l:List Int)(v:dE)(w':dD):Prop:=
 ∃b F',v=XbX e g b k/\Yc w.heap.size F' l b w'/\Hm c n0 w0 w' F' S H P s t/\(∀z,F' z->F z\/w.heap.size<=z)/\Xc (Zz F P) w w'
def Xdg(c:Conf)(n0:Nat)(w0 w:dD)(F:Nat->Prop)(S:Sto)(H:Nat)(P:Ap)(s:StM)(t:TbM)(e g k:Int)(l:List Int)(v:dE)(w':dD):Prop:=
 ∃b F',v=XbX e g b k/\Yc w.heap.size F' l b w'/\Hm c n0 w0 w' F' (S.relap s.rm.tot) H P s t/\(∀z,F' z->F z\/w.heap.size<=z)/\Xc (Zz F P) w w'
section
variable {c:Conf}{n0:Nat}{w0 w w':dD}{F:Nat->Prop}{S:Sto}{H:Nat}{P:Ap}{s:StM}{t:TbM}{x:HpM}
theorem Hm.low'(h:Hm c n0 w0 w F S H P s t):∀z,F z->z<w.heap.size:=h.lv.low
theorem Hm.since0(h:Hm c n0 w0 w F S H P s t):n0<=w.heap.size/\w0.heap.size<=w.heap.size:=by
 have:=h.tb.lt;have:=h.low;omega
theorem Hm.cM(h:Hm c n0 w0 w F S H P s t){w':dD}(hl:Lv c n0 w0 w' F (S.relap s.rm.tot) s)(hc:Xc (λz=>z=S.mb) w w')(hF:F S.mb):Hm c n0 w0 w' F (S.relap s.rm.tot) H P s t:=by
 obtain⟨a,b,d⟩:=h.out;exact⟨hl,hc.heap h.obj (λe=>a (e▸hF)),h.tb.bR hc (λe=>b (e▸hF)) (λe=>d (e▸hF)),h.low,h.out⟩
theorem Lv.mb(h:Lv c n0 w0 w F S s):F S.mb:=by obtain⟨Fr,mo,a⟩:=h.ok;exact a.mb.1
theorem Hm.ones(h:Hm c n0 w0 w F S H P s t){X:Nat->Prop}(hX:∀q,X q->n0<=q/\w0.heap.size<=q/\¬F q/\¬Ac P q/\H≠q)(hk:∀q,X q -> ∃ty,kd w q=some (some ty)/\ty≠352/\ty≠348/\(ty=3->S.G q))(hc:Xc X w w'):Hm c n0 w0 w' F S H P s t:=
 ⟨h.lv.ones (λq a=>⟨(hX q a).1,(hX q a).2.1,(hX q a).2.2.1,hk q a⟩) hc,hc.heap h.obj (λe=>(hX _ e).2.2.2.2 rfl),h.tb.bR hc (λe=>(hX _ e).2.2.2.1 (.inl rfl)) (λe=>(hX _ e).2.2.2.1 (.inr rfl)),h.low,h.out⟩
theorem Hm.stepsD(h:Hm c n0 w0 w F S H P s t):∀w',Xc Xe w w'->Xf prog 71 #[Yq S] w' (λv w2=>Xc F w' w2/\v=.int .i64 (s.rm.tot-S.R.dA)/\Lv c n0 w0 w2 F (S.relap s.rm.tot) s/\Xc (λz=>z=S.mb) w w2/\F S.mb):=λw' a=>
 (Uf (h.lv.bQ a)).mono λv w2 ⟨e,f,b,d⟩=>⟨b.mono λz _ e=>e▸d,e,f,a.gr.trans b,d⟩
theorem T3(h:Hm c n0 w0 w F S H P x.st x.tb)(hlap:S.R.dA=x.st.rm.tot)(n:Int)(hn : -9223372036854775808<=n/\n<=9223372036854775807){k:FuncId}{cap:List dE}{st':StM}{tb':TbM}{e g:Int}(hz:0<=z/\z<=2)(hd:X0 x.tb n=0 -> ∀w1,Xc Xe w w1->Xf prog k (Value.int .i64 (Zc x.tb n)::cap).toArray w1 (N2 c n0 w0 w1 F S H P st' tb' e g z l)):Xf prog 51 #[Cj H,.int .i64 n,.func (.func k) #[] cap.toArray] w
  (λv w'=>if X0 x.tb n=0 then Xdg c n0 w0 w F S H P st' tb' e g (z+(1+(st'.rm.tot-x.st.rm.tot))) l v w' else Xdg c n0 w0 w F S H P x.st x.tb (X0 x.tb n) 0 1 [] v w'):=by
 have O:=h.low';have b7:=h.since0;refine aR func51 ntmps51 aA (bC aA λb w1 e1 hb Q b8=>bB (Q.bP h.obj) aA (bG (XbE (h.tb.bQ Q) n hn) aA λw2 R=>aO aA (bC aA λd w3 e3 ak a7 b9=>bF ak aA λw4 t a8 a9=>?_)));have ba:=R.size;have o:=((Q.trans R).trans a7).sn a8;have u:=a8.heap (a7.bP (R.bP hb)) (show ¬b=d by omega);have h4:=h.bQ o;by_cases he:X0 x.tb n=0
 .simp only[bK he];refine bI aA (aP aA (hd he w4 o) ?_);rintro _ w5 ⟨bv,D,rfl,am,an,aa,T⟩;refine aN aA ?_;obtain⟨a5,E,rfl,ao,ap⟩:=am;have a9:=o.size;have L:∀q,q=b\/q=d -> ¬Zz F P q:=λq a e=>by
   have ab:=h.tb.lt;rcases e with e|e|e
   .have:=O q e;omega
   .omega
   .omega
  have U:∀q,q=b\/q=d -> ¬D q:=λq a e=>by
   rcases aa q e with e|e
   .have:=O q e;omega
   .have:=Xg u;have:=Xg t;omega
  have y:=U b (.inl rfl);have s:=U d (.inr rfl);have ac:=T.heap t (L d (.inr rfl));have aq:=T.heap u (L b (.inl rfl));refine bF ac aA λw6 ad M bb=>?_;have ab:=h.tb.lt;have ar:∀q,q=d->n0<=q/\w0.heap.size<=q/\¬D q/\¬Ac P q/\H≠q:=λq a=>⟨by omega,by omega,a▸s,λe=>by rcases e with e|e <;> omega,by have:=Xg h.obj;omega⟩;have V:=an.ones ar (λq a=>⟨_,a▸X1 ac,by decide,by decide,λe=>absurd e (by decide)⟩) M;have ae:=M.heap aq (show ¬b=d by omega);have bc:=V.lv.inv.rm.ok.tot;have b2:=h.lv.inv.rm.ok.tot;have au:=V.out.1;refine aQ 8 D (by kernel_rfl) aA λj=>aE j ad aA (aE j V.obj aA (Xd.callQ j rfl rfl (V.stepsD) ?_));rintro _ w7 av ⟨rfl,W,f,m⟩;refine Xd.adv Xb j rfl (Xd.arith Xb j rfl (w64 (by rw[hlap];omega)) rfl (aF j aA λw8 i=>aJ aA (by rw[hlap];omega) ?_));have G:¬d=S.mb:=λe=>s (e▸m);have A:=i.bP (f.heap ad G);refine bF A aA λw9 a1 B aw=>bB a1 aA ?_;have p:¬b=S.mb:=λe=>y (e▸m);have a2:=B.heap (i.bP (f.heap ae p)) (show ¬b=d by omega);refine bF a2 aA λC r I ah=>?_;have a3:=(V.cM W f m).bQ i;have ax:=f.size;have ay:=i.size;have hX:∀q,q=b\/q=d->n0<=q/\w0.heap.size<=q/\¬D q/\¬Ac P q/\H≠q:=λq a=>⟨by omega,by omega,a.elim (λe=>e▸y) (λe=>e▸s),λe=>by
   rcases e with e|e <;> omega,by have:=Xg h.obj;omega⟩
  have a4:∀q,q=b\/q=d->kd w8 q=some (some 55):=λq a=>a.elim (λe=>e▸X1 (i.bP (f.heap ae p))) (λe=>e▸X1 A);have N:Xc (λq=>q=b\/q=d) w8 C:=(B.mono λq _ e=>.inr e).trans (I.mono λq _ e=>.inl e);have J:=a3.ones hX (λq a=>⟨_,a4 q a,by decide,by decide,λe=>absurd e (by decide)⟩) N;rw[hlap] at r;have bd:=O _ h.lv.mb;have hc:=(((((o.gr.trans T).sn M).bU f (λq a e=>.inl (e▸h.lv.mb))).trans i.gr)).sn N;have b5:=Xg u;have b6:=Xg t;have az:Yc w4.heap.size D l (.slice a5 l.length E) w5:=⟨a5,E,rfl,ao,ap⟩;have j:Yc w.heap.size D l (.slice a5 l.length E) C:=((((az.bR M (λq e=>.inl (.inl (by omega)))).bR f (λq e=>.inl (.inl (by omega)))).bR i (λq e=>e.elim)).bR N (λq e=>.inl (.inl (by omega)))).low a9 (λ_ _ _ h=>h);exact bD rfl func51 (Xi.cell rfl rfl rfl r rfl .nil) ⟨_,D,rfl,j,J,λq a=>(aa q a).imp id (by omega),hc⟩
 .simp only[bJ he];refine aS aA ?_;have y:¬F b:=λe=>by have:=O b e;omega
  have s:¬F d:=λe=>by have:=O d e;omega
  have K:=hlap;have au:=h4.out.1;refine aQ 8 F (by kernel_rfl) aA λj=>aE j t aA (aE j h4.obj aA (Xd.callQ j rfl rfl (h4.stepsD) ?_));rintro _ w7 av ⟨rfl,W,f,m⟩;refine Xd.adv Xb j rfl (Xd.arith Xb j rfl (w64 (by rw[K];omega)) rfl (aF j aA λw8 i=>aJ aA (by rw[K];omega) ?_));have G:¬d=S.mb:=λe=>s (e▸m);have A:=i.bP (f.heap t G);refine bF A aA λw9 a1 B aw=>bB a1 aA ?_;have p:¬b=S.mb:=λe=>y (e▸m);have a2:=B.heap (i.bP (f.heap u p)) (show ¬b=d by omega);refine bF a2 aA λC r I ah=>?_;have a3:=(h4.cM W f m).bQ i;have ax:=f.size;have ay:=i.size;have hX:∀q,q=b\/q=d->n0<=q/\w0.heap.size<=q/\¬F q/\¬Ac P q/\H≠q:=λq a=>⟨by omega,by omega,a.elim (λe=>e▸y) (λe=>e▸s),λe=>by
   have ab:=h.tb.lt;rcases e with e|e <;> omega,by have:=Xg h.obj;omega⟩
  have a4:∀q,q=b\/q=d->kd w8 q=some (some 55):=λq a=>a.elim (λe=>e▸X1 (i.bP (f.heap u p))) (λe=>e▸X1 A);have N:Xc (λq=>q=b\/q=d) w8 C:=(B.mono λq _ e=>.inr e).trans (I.mono λq _ e=>.inl e);have J:=a3.ones hX (λq a=>⟨_,a4 q a,by decide,by decide,λe=>absurd e (by decide)⟩) N;rw[K,YI] at r;have hc:Xc (Zz F P) w C:=((o.gr.trans (f.mono λq _ e=>.inl (e▸m))).trans i.gr).sn N;exact aK func51 r aA ⟨Xfd,F,rfl,.none _ _ _,J,λq a=>.inl a,hc⟩
end
section
variable {c:Conf}{n0:Nat}{w0 w w' w1 w2:dD}{F F1:Nat->Prop}{S:Sto}{H:Nat}{P:Ap}{s:StM}{t:TbM}{x:HpM}
theorem Jo.seq(hF1:∀z,F1 z->F z\/w.heap.size<=z)(hc1:Xc (Zz F P) w w1)(h2:Jo c n0 w0 w1 F1 S H P s t w2):Jo c n0 w0 w F S H P s t w2:=by
 obtain⟨F',a,b,d⟩:=h2;have:=hc1.size;exact⟨F',a,λz f=>(b z f).elim (hF1 z) (λe=>.inr (by omega)),hc1.bU d (λq h e=>e.elim (λe=>(hF1 q e).elim .inl (λg=>by omega)) .inr)⟩
theorem Hm.stores(h:Hm c n0 w0 w F S H P s t)(hl:Lv c n0 w0 w' F S s')(hc:Xc F w w'):Hm c n0 w0 w' F S H P s' t:=⟨hl,hc.heap h.obj h.out.1,h.tb.bR hc h.out.2.1 h.out.2.2,h.low,h.out⟩
theorem Hm.boxed(h:Hm c n0 w0 w F S H P s t)(hb:¬F b)(hn:n0<=b/\w0.heap.size<=b)(hP:¬Ac P b/\H≠b)(hk:kd w b=some (some ty))(ht:ty≠352/\ty≠348/\ty≠3)(hc:Xc (λq=>q=b) w w'):Hm c n0 w0 w' F S H P s t:=
 h.ones (X:=λq=>q=b) (λq e=>e▸⟨hn.1,hn.2,hb,hP.1,hP.2⟩) (λq e=>e▸⟨ty,hk,ht.1,ht.2.1,λe=>absurd e ht.2.2⟩) hc
theorem Xjp(h:Hm c n0 w0 w F S H P s t)(slot n:Int)(hn : -9223372036854775808<=n/\n<=9223372036854775807){a:Nat}(ha:w.cell? ⟨a,0,none⟩=some (Cj H))(hd:w.cell? ⟨d,0,none⟩=some (.int .i64 n))(hFa:¬Zz F P a)(hFd:¬Zz F P d):Xf prog 52 #[.int .i64 slot,.pointer (some ⟨a,0,none⟩),.pointer (some ⟨d,0,none⟩)] w (N2 c n0 w0 w F S H P (Bn c s slot) (Cq t n) (X0 t n) 0 2 []):=by
 have z:=h.low';have N:=h.since0;have O:=h.tb.lt;have Q:=Xg h.obj;refine aR func52 ntmps52 aA (bC aA λb W e1 A g R=>?_);have l:=g.cell ha id;have v:=h.bQ g;refine aW aA l aA (bB v.obj aA ?_);refine aP rfl (Xj2 v.lv slot) ?_;rintro _ w2 ⟨rfl,B⟩;refine aN aA ?_;obtain⟨F2,C,m,f⟩:=v.store B;have D:=f.heap A (show ¬Zz F P b from λe=>by
  rcases e with e|e|e
  .have:=z b e;omega
  .omega
  .omega)
 refine aQ 5 Xe (by kernel_rfl) aA λk=>aD k (f.cell l hFa) aA (aE k C.obj aA (aD k (f.cell (g.cell hd id) hFd) aA (aF k aA λw3 i=>?_)));have E:=C.bQ i;refine aP aA (Xk6 E.tb n hn) ?_;rintro _ w4 ⟨rfl,G,j⟩;refine aN aA ?_;obtain⟨x,L,o,M⟩:=E.table G j;have T:=f.size;have U:=i.size;have y:∀q,x q->F q\/w.heap.size<=q:=λq I=>(o q I).elim (λe=>(m q e).imp id (by omega)) (λe=>.inr (by omega));have p:¬Ac P b:=λe=>by rcases e with e|e <;> omega
 have r:=j.heap (i.bP D) p;have J:¬x b:=λe=>by
  rcases o b e with e|e
  .rcases m b e with e|e
   .have:=z b e;omega
   .have:=Xg A;omega
  .omega
 refine aO aA (bF r aA λw5 K u V=>?_);exact aK func52 K aA ⟨_,x,rfl,.none _ _ _,(L.boxed J (by omega) ⟨p,by omega⟩ (X1 r) (by decide) u),y,(((g.gr.trans f).trans i.gr).trans (j.mono λ_ _ e=>.inr e)).sn u⟩
theorem Xjq(h:Hm c n0 w0 w F S H P s t)(slot i m:Int)(hi : -9223372036854775808<=i/\i<=9223372036854775807)(hm : -9223372036854775808<=m/\m<=9223372036854775807){a d':Nat}(ha:w.cell? ⟨a,0,none⟩=some (Cj H))(hd:w.cell? ⟨d,0,none⟩=some (.int .i64 i))(hd':w.cell? ⟨d',0,none⟩=some (.int .i64 m))(hFa:¬Zz F P a)(hFd:¬Zz F P d)(hFd':¬Zz F P d'):Xf prog 55 #[.int .i64 slot,.pointer (some ⟨a,0,none⟩),.pointer (some ⟨d,0,none⟩),.pointer (some ⟨d',0,none⟩)] w (N2 c n0 w0 w F S H P (Co c s slot i m) t (Qo s slot i m) 0 0 (Cp c s slot i m)):=by
 have D:=h.low';have a2:=h.since0;have a3:=h.tb.lt;have a4:=Xg h.obj;refine aR func55 ntmps55 aA (bC aA λb l e1 U g a5=>?_);have J:=g.cell ha id;have K:=g.cell hd id;have E:=g.cell hd' id;have G:=h.bQ g;refine aQ 12 F (by kernel_rfl) aA λj=>?_;have a6:¬F a:=λe=>hFa (.inl e);have a7:¬F d:=λe=>hFd (.inl e);have V:¬F d':=λe=>hFd' (.inl e);have a8:=h.out.1;refine aD j J aA (aE j G.obj aA (aD j K aA (aD j E aA ?_)));have L:∀w',Xc Xe l w'->Xf prog 56 #[Yq S,.int .i64 slot,.int .i64 i,.int .i64 m] w' (λv f=>Xc F w' f/\∃a cap,v=.tuple #[.slice a (Cp c s slot i m).length cap,.int .i64 (Qo s slot i m)]/\Rd .u8 f a (Cp c s slot i m)/\(∀b off s',a=some ⟨b,off,s'⟩->l.heap.size<=b/\b<f.heap.size)/\Lv c n0 w0 f F S (Co c s slot i m)/\Xc F l f):=λw' o=>
  (Xj5 (G.lv.bQ o) slot i m hi hm).mono λv f ⟨a,cap,e1,e2,e3,e4,e5⟩=>
   ⟨e5,a,cap,e1,e2,λb off s' e=>⟨by have:=(e3 b off s' e).1;have:=o.size;omega,(e3 b off s' e).2⟩,e4,o.gr.trans e5⟩
 refine Xd.callQ j rfl rfl (L) ?_;rintro _ f a9 ⟨ra,rcap,rfl,M,x,N,y⟩;refine Xd.adv Xb j rfl (aF j aA λw3 k=>?_);have O:=G.stores N y;have z:Xc (Zz F P) l f:=y.mono λ_ _ e=>.inl e;obtain⟨n,p⟩:∃n,n=F:=⟨_,rfl⟩;rw[<-p] at O;have A:∀q,n q->F q\/l.heap.size<=q:=λq u=>.inl (p▸u);have Q:Yc l.heap.size n (Cp c s slot i m) (.slice ra (Cp c s slot i m).length rcap) f:=⟨ra,rcap,rfl,M,λb' off s' e=>⟨x b' off s' e,λe2=>by have:=(x b' off s' e).1;have:=D b' (p▸e2);omega⟩⟩;have W:=O.bQ k;have B:¬Ac P b:=λe=>by rcases e with e|e <;> omega
 have C:=k.bP (z.heap U (show ¬Zz F P b from λe=>by
  rcases e with e|e
  .have:=D b e;omega
  .exact B e))
 have R:¬n b:=λe=>by
  rcases A b e with e|e
  .have:=D b e;omega
  .omega
 refine aO aA (bF C aA λw5 T r aa=>?_);have h5:=W.boxed R (by omega) ⟨B,by omega⟩ (X1 C) (by decide) r;have I:Xc (Zz F P) w w5:=((g.gr.trans z).trans k.gr).sn r;exact aK func55 T aA ⟨_,n,rfl,((Q.bR k (λq e=>e.elim)).bR r (λq e=>.inl (.inl (by omega)))).low (by omega) (λ_ _ _ h=>h),h5,λq u=>(A q u).imp id (by omega),I⟩
theorem Xjv(h:Hm c n0 w0 w F S H P s t)(slot i:Int)(ba:Option Addr)(bc:Nat)(l:List Int)(hi : -9223372036854775808<=i/\i<=9223372036854775807)(hr:Rd .u8 w ba l)(hlc:l.length<=bc)(hl:l.length<=9223372036854775807)(hin:Qi l)(hout:0<l.length->Xj F ba){a d':Nat}(ha:w.cell? ⟨a,0,none⟩=some (Cj H))(hd:w.cell? ⟨d,0,none⟩=some (.int .i64 i))(hd':w.cell? ⟨d',0,none⟩=some (.slice ba l.length bc)):Xf prog 60 #[.int .i64 slot,.pointer (some ⟨a,0,none⟩),.pointer (some ⟨d,0,none⟩),.pointer (some ⟨d',0,none⟩)] w (N2 c n0 w0 w F S H P (C9 c s slot i l) t (Qo s slot i l.length) 0 0 []):=by
 have E:=h.low';have U:=h.since0;have V:=h.tb.lt;have W:=Xg h.obj;refine aR func60 ntmps60 aA (bC aA λb G e1 N f a0=>?_);have I:=f.cell ha id;have J:=f.cell hd id;have v:=f.cell hd' id;have x:=h.bQ f;refine aQ 7 Xe (by kernel_rfl) aA λk=>aD k I aA (aE k x.obj aA (aD k J aA (aD k v aA (aF k aA λwd j=>?_))));refine aP rfl (Xka (x.lv.bQ j) slot i ba bc l hi ((hr.bR f).bR j) hlc hl hin hout) ?_;rintro _ y ⟨rfl,K⟩;refine aN aA ?_;obtain⟨z,O,A,B⟩:=(x.bQ j).store K;have a1:=j.size;have n:∀q,z q->F q\/G.heap.size<=q:=λq m=>(A q m).imp id (by omega);have o:Xc (Zz F P) G y:=j.gr.trans B;obtain⟨C,g⟩:∃C,C=y:=⟨_,rfl⟩;rw[<-g];replace g:Xc Xe y C:=g▸Xc.refl _ _;have Q:=O.bQ g;have p:¬Ac P b:=λe=>by rcases e with e|e <;> omega
 have r:=g.bP (o.heap N (show ¬Zz F P b from λe=>by
  rcases e with e|e
  .have:=E b e;omega
  .exact p e))
 have L:¬z b:=λe=>by
  rcases n b e with e|e
  .have:=E b e;omega
  .omega
 refine aO aA (bF r aA λR M u a2=>?_);have T:=Q.boxed L (by omega) ⟨p,by omega⟩ (X1 r) (by decide) u;have D:Xc (Zz F P) w R:=((f.gr.trans o).trans g.gr).sn u;exact aK func60 M aA ⟨_,z,rfl,.none _ _ _,T,λq m=>(n q m).imp id (by omega),D⟩
theorem Xjr(h:Hm c n0 w0 w F S H P s t)(slot size:Int){a:Nat}(ha:w.cell? ⟨a,0,none⟩=some (Cj H))(hd:w.cell? ⟨d,0,none⟩=some (.int .i64 size)):Xf prog 62 #[.int .i64 slot,.pointer (some ⟨a,0,none⟩),.pointer (some ⟨d,0,none⟩)] w (N2 c n0 w0 w F S H P (Ag c s slot size) t (A8 c s slot size) 0 0 []):=by
 have B:=h.low';have Q:=h.since0;have R:=h.tb.lt;have T:=Xg h.obj;refine aR func62 ntmps62 aA (bC aA λb C e1 K g U=>?_);have D:=g.cell ha id;have E:=g.cell hd id;have r:=h.bQ g;refine aQ 6 Xe (by kernel_rfl) aA λj=>aD j D aA (aE j r.obj aA (aD j E aA (aF j aA λwd i=>?_)));refine aP rfl (Xj6 (r.lv.bQ i) slot size) ?_;rintro _ u ⟨rfl,G⟩;refine aN aA ?_;obtain⟨v,L,x,y⟩:=(r.bQ i).store G;have V:=i.size;have l:∀q,v q->F q\/C.heap.size<=q:=λq k=>(x q k).imp id (by omega);have m:Xc (Zz F P) C u:=i.gr.trans y;obtain⟨z,f⟩:∃z,z=u:=⟨_,rfl⟩;rw[<-f];replace f:Xc Xe u z:=f▸Xc.refl _ _;have M:=L.bQ f;have n:¬Ac P b:=λe=>by rcases e with e|e <;> omega
 have o:=f.bP (m.heap K (show ¬Zz F P b from λe=>by
  rcases e with e|e
  .have:=B b e;omega
  .exact n e))
 have I:¬v b:=λe=>by
  rcases l b e with e|e
  .have:=B b e;omega
  .omega
 refine aO aA (bF o aA λN J p W=>?_);have O:=M.boxed I (by omega) ⟨n,by omega⟩ (X1 o) (by decide) p;have A:Xc (Zz F P) w N:=((g.gr.trans m).trans f.gr).sn p;exact aK func62 J aA ⟨_,v,rfl,.none _ _ _,O,λq k=>(l q k).imp id (by omega),A⟩
end
structure HpM.Ok(c:Conf)(x:HpM):Prop where
 st:x.st.Ok c
 tb:x.tb.Ok c.cN c.cS
 link:∀o:Nat,x.tb.dB.getD o false=true↔1<=(Zx x.st).getD o 0
def A6(c:Conf)(x:HpM)(n:Int):HpM:=if X0 x.tb n=0 then ⟨Bn c x.st (Zc x.tb n),Cq x.tb n⟩ else x
def D7(c:Conf)(x:HpM)(n i m:Int):HpM:=if X0 x.tb n=0 then ⟨Co c x.st (Zc x.tb n) i m,x.tb⟩ else x
def B9(x:HpM)(n i m:Int):Int:=if X0 x.tb n=0 then Qo x.st (Zc x.tb n) i m else X0 x.tb n
def Jx(c:Conf)(x:HpM)(n i m:Int):List Int:=if X0 x.tb n=0 then Cp c x.st (Zc x.tb n) i m else []
def D8(c:Conf)(x:HpM)(n i:Int)(l:List Int):HpM:=if X0 x.tb n=0 then ⟨C9 c x.st (Zc x.tb n) i l,x.tb⟩ else x
def Gg(c:Conf)(x:HpM)(n size:Int):HpM:=if X0 x.tb n=0 then ⟨Ag c x.st (Zc x.tb n) size,x.tb⟩ else x
def I3(c:Conf)(x:HpM)(n size:Int):Int:=if X0 x.tb n=0 then A8 c x.st (Zc x.tb n) size else X0 x.tb n
def Lc(c:Conf)(x:HpM):HpM:=⟨Ec c x.st,x.tb⟩
def I4(x:HpM)(k bV:Int):HpM:=⟨C8 x.st k bV,x.tb⟩
def Hr(c:Conf)(x:HpM)(size:Int):Prop:=Yt c x.st size=0/\x.tb.fl≠[]
instance (c:Conf) (x:HpM) (size:Int):Decidable (Hr c x size):=by unfold Hr;exact inferInstance
def Bl(c:Conf)(x:HpM)(size:Int):HpM:=if Hr c x size then ⟨Ab c x.st (Dk x.tb) size,Ee x.tb⟩ else x
def Cx(c:Conf)(x:HpM)(size:Int):Int:=if Yt c x.st size=3 then 3 else if x.tb.fl=[] then 4 else Yt c x.st size
def D5(c:Conf)(x:HpM)(size:Int):Int:=if Hr c x size then Lw x.tb else 0
def D6(c:Conf)(x:HpM)(size:Int):Int:=if Hr c x size then 2+((Bl c x size).st.rm.tot-x.st.rm.tot) else 0
def Gj(c:Conf):HpM:=⟨Es c,Cy c.cN c.cS⟩
theorem Xeo(x:List Bool)(i j:Nat)(v:Bool):(x.set i v).getD j false=if i=j/\i<x.length then v else x.getD j false:=by
 rw[XA,ZX,XA];by_cases h:i=j
 .subst h;by_cases a:i<x.length
  .simp[a]
  .simp[a]
 .simp[h]
section
variable {c:Conf}{x:HpM}
theorem XkJ{t:ThM}(h:s.th[j]?=some (some t)):Z7 s (j:Nat)=0:=by
 unfold Z7;have a:=(XC.1 h).1;rw[bJ (by omega),Hg h]
theorem HpM.Ok.len(h:x.Ok c):(Zx x.st).length=x.tb.dB.length:=by
 have:=h.st.tl;have:=h.tb.n;have:=h.tb.nl;rw[XhM];omega
theorem HpM.Ok.slot(h:x.Ok c){n:Int}(hE:X0 x.tb n=0):∃j:Nat,Zc x.tb n=j/\j<x.tb.dB.length/\∃t,x.st.th[j]?=some (some t):=by
 obtain⟨b,d,f,g,i,k,a⟩:=h.tb.tbE_ok hE;refine⟨(Zl n).toNat,by unfold Zc;rw[bK hE];omega,(XC.1 a).1,(Xc8 h.st _).2 ((h.link _).1 (El a))⟩
theorem HpM.Ok.free(h:x.Ok c)(n:Int):(A6 c x n).Ok c:=by
 unfold A6;split
 .rename_i a
  obtain⟨j,ej,b,t,ht⟩:=h.slot a;have d:=h.len;refine⟨h.st.free _,h.tb.give n,λo=>?_⟩;show(Cq x.tb n).dB.getD o false=true↔1<=(Zx (Bn c x.st (Zc x.tb n))).getD o 0
  rw[Xoh h.st,ej,bK (XkJ ht),XB,E5];unfold Cq;have ej':(Zl n).toNat=j:=by unfold Zc at ej;rw[bK a] at ej;omega
  rw[bK a];show(x.tb.dB.set (Zl n).toNat false).getD o false=true↔_
  rw[ej',Xeo];by_cases e:j=o
  .rw[bK ⟨e,b⟩,bK ⟨e,by omega⟩]
   simp
  .rw[bJ (λg=>e g.1),bJ (λg=>e g.1)];exact h.link o
 .exact h
theorem HpM.Ok.bV(h:x.Ok c)(hs:s'.Ok c)(hz:Zx s'=Zx x.st):HpM.Ok c ⟨s',x.tb⟩:=⟨hs,h.tb,λo=>by rw[show Zx (HpM.mk s' x.tb).st=Zx x.st from hz];exact h.link o⟩
theorem HpM.Ok.read(h:x.Ok c)(n i m:Int):(D7 c x n i m).Ok c:=by
 unfold D7;split
 .exact h.bV (h.st.read _ i m) (Xoj ..)
 .exact h
theorem HpM.Ok.write(h:x.Ok c)(n i:Int){l:List Int}(hl:Qi l):(D8 c x n i l).Ok c:=by
 unfold D8;split
 .exact h.bV (h.st.write _ i hl) (Xoo ..)
 .exact h
theorem HpM.Ok.tick(h:x.Ok c):(Lc c x).Ok c:=h.bV h.st.tick (Xom h.st)
theorem HpM.Ok.set(h:x.Ok c)(k bV:Int):(I4 x k bV).Ok c:=h.bV (h.st.set k bV) (Xol ..)
theorem HpM.Ok.resize(h:x.Ok c)(n size:Int):(Gg c x n size).Ok c:=by
 unfold Gg;split
 .rename_i a
  obtain⟨j,ej,d,t,ht⟩:=h.slot a;refine⟨h.st.resize _ size,h.tb,λo=>?_⟩;show x.tb.dB.getD o false=true↔1<=(Zx (Ag c x.st (Zc x.tb n) size)).getD o 0
  rw[Xok h.st];split
  .rename_i b
   obtain⟨_,_,_,_,hr,_⟩:=U7 b;rw[ej,XB,E5];split
   .rename_i g
    rw[<-g.1];exact⟨λ_=>hr.1,λ_=>(h.link j).2 ((Xc8 h.st j).1 ⟨t,ht⟩)⟩
   .exact h.link o
  .exact h.link o
 .exact h
theorem HpM.Ok.goes(h:x.Ok c)(hg:Hr c x size):∃j:Nat,Dk x.tb=j/\j<x.tb.dB.length/\x.tb.dB.getD j false=false/\Ee x.tb={x.tb with dB:=x.tb.dB.set j true,fl:=x.tb.fl.tail}/\Cn c x.st j size=0:=by
 cases hf:x.tb.fl with
 |nil=>exact absurd hf hg.2
 |cons j r=>
  obtain⟨g,m,n,a⟩:=h.tb.fr j (by rw[hf];exact ZP);refine⟨j,by unfold Dk;rw[hf],(XC.1 a).1,El a,by unfold Ee;rw[hf];rfl,?_⟩;have i:=h.len;have l:=(XC.1 a).1;have b:¬∃t,x.st.th[j]?=some (some t):=λk=>by
   have:=(h.link j).2 ((Xc8 h.st j).1 k);rw[El a] at this;cases this
  rw[XhM] at i;have d:x.st.th[j]?=some none:=by
   cases f:x.st.th[j]? with
   |none=>rw[List.getElem?_eq_none_iff] at f;omega
   |some y=>cases y with
    |none=>rfl
    |some t=>exact absurd ⟨t,f⟩ b
  have e:Z7 x.st (j:Nat)=9:=by
   unfold Z7;rw[bJ (by omega),show B3 x.st (j:Nat)=none by unfold B3;rw[bK (by omega),XB,XA,d];rfl]
  unfold Cn;rw[e,bJ (by decide),bJ (by decide)];exact hg.1
theorem HpM.Ok.alloc(h:x.Ok c)(size:Int):(Bl c x size).Ok c:=by
 unfold Bl;split
 .rename_i a
  obtain⟨j,e1,e2,e3,e4,e5⟩:=h.goes a;have b:=h.len;refine⟨h.st.alloc _ size,h.tb.take,λo=>?_⟩;show(Ee x.tb).dB.getD o false=true↔1<=(Zx (Ab c x.st (Dk x.tb) size)).getD o 0
  rw[Xog h.st,e1,bK e5,e4,XB,E5];show(x.tb.dB.set j true).getD o false=true↔_
  rw[Xeo];by_cases e:j=o
  .rw[bK ⟨e,e2⟩,bK ⟨e,by omega⟩];simp[((Tx a.1).1.1)]
  .rw[bJ (λg=>e g.1),bJ (λg=>e g.1)];exact h.link o
 .exact h
theorem Xks(hm:Zb c=true)(hA:Qa c (Ii c 0)):(Gj c).Ok c:=by
 have a:(1<=c.cN/\c.cN<=4096)/\1<=c.cS/\c.cS<=1023:=by
  unfold Zb at hm;simp only[XK,decide_eq_true_eq,Qy] at hm;omega
 refine⟨Xfa hm hA,Xfb a.1 a.2,λo=>?_⟩;have e1:(Gj c).tb.dB.getD o false=false:=by
  show(List.replicate c.cN.toNat false).getD o false=false
  rw[XA,ZE];split <;> rfl
 have e2:(Zx (Gj c).st).getD o 0=0:=by
  show((List.replicate c.cN.toNat (none:Option ThM)).map Bb).getD o 0=0
  rw[XA,XN,ZE];split <;> rfl
 rw[e1,e2]
 simp
end
end Go.Proofs.YtdeihcnepljjaaaGreatDoor
