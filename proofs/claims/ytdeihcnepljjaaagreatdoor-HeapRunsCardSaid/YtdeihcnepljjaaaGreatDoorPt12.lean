/-
  Texts put together: Ref23c, Laws23c, Laws23d, Laws23e, Laws23f.
-/
import Derived.Test.YtdeihcnepljjaaaGreatDoorPt11
import Derived.Test.YtdeihcnepljjaaaGreatDoorQRule23
set_option linter.unusedVariables false
set_option maxRecDepth 100000
namespace Go.Proofs.YtdeihcnepljjaaaGreatDoor
open Go.RowKit
open Go renaming World→dD
open Bool renaming and_eq_true->XJ
open Int renaming eq_ofNat_of_zero_le->XE,le_refl->QN
open List renaming getElem_mem->XM,length_eq_zero_iff->ZR
open Nat renaming le_refl->XF,zero_le->XP
open Go.Proofs.Tryz (func14 func15 func29 func4 func9 ntmps14 ntmps15 ntmps29 ntmps4 ntmps9 prog)
variable {A:Ar}{V:ArV}{c:Conf}{l':IL}{ahead by' cS cH size cN u who z:Int}{lg:List (Nat×List Nat)}{th:List (Option ThM)}{ps:List IL}{bs l p zs:List Int}{l2 ws:List Nat}{cs rest xs:List Value}{mo:Mo}{N at' b base cap d fuel g i j k lm lo m n o qb sz t tm ty vb xb y:Nat}{e:Nat×List Int}{fz:Nat×Nat}{f:Nat->Int}{G:Nat->Pg}{B C F F' Fr Q S S' T X:Nat->Prop}{pd pd2:Option (Nat×PlcM)}{a:Option Addr}{pg:PgL}{pl':PlM}{q:Plc}{R:Rm}{M:RmM}{r:SR}{x x':Sm}{s s':StM}{P:Aw}{α:Type}{v:Value}{w w' w'' w0 w1 w2:dD}{cells:α->List Value}
theorem Xl.bl{x:List Bool}(h:Xl base 4 1 w v m (x.map Value.bool))(hm:x.length=m)(hx:x.length<=512):∃l:BL,v=Ti l/\l.x=x/\Hf w l/\∀b off s,l.a=some ⟨b,off,s⟩->base<=b:=by
 rcases h.2 with⟨rfl,n⟩|⟨g,cap,cur,rfl,f,c,a,k,_,d⟩
 .have:x=[]:=ZR.1 (by omega);subst this;exact⟨⟨none,0,[]⟩,rfl,rfl,⟨(λi j=>by cases j),hx,XF _,(by intro b off s e;cases e)⟩,(by intro b off s e;cases e)⟩
 .subst hm;exact⟨⟨some ⟨g,0,none⟩,cap,x⟩,rfl,rfl,⟨C7.of_take c (by simpa using d),hx,a,(by intro b off s e;cases e;exact Xg c)⟩,(by intro b off s e;cases e;exact f)⟩
theorem XnW{vg vl vf:Value}(h:W0 base w N vg vl vf)(hN:N<=512):∃r:Cm,Cw r=[vg,vl,vf,.int .i64 cH]/\C9 w r (Cs (N:Nat) cH)/\∀S:Nat->Prop,(∀z,S z->z<base)->Iv S r:=by
 have e1:List.replicate N (Value.int .i64 1)=(List.replicate N (1:Int)).map (Value.int .i64):=by rw[List.map_replicate]
 have e2:List.replicate N (Value.bool false)=(List.replicate N false).map Value.bool:=by rw[List.map_replicate]
 have e3:((List.range N).map λn:Nat=>Value.int .i64 (n:Int))=((List.range N).map (λn:Nat=>(n:Int))).map (Value.int .i64):=by rw[List.map_map];rfl
 have d:=h.g;have i:=h.l;have hf:=h.f;rw[e1] at d;rw[e2] at i;rw[e3] at hf;obtain⟨g,rfl,gx,gX,gB⟩:=Xl.il d (by simp) (by simpa using hN);obtain⟨l,rfl,lx,lX,lB⟩:=Xl.bl i (by simp) (by simpa using hN);obtain⟨f,rfl,fx,fX,fB⟩:=Xl.il hf (by simp) (by simpa using hN);exact⟨⟨g,l,f,cH⟩,rfl,⟨gX,lX,fX,gx,lx,fx,rfl⟩,λS c=>⟨λb off s e a=>by have:=gB b off s e;have:=c b a;omega,λb off s e a=>by have:=lB b off s e;have:=c b a;omega,λb off s e a=>by have:=fB b off s e;have:=c b a;omega⟩⟩
theorem Xmq(c:Conf)(p:Y8)(w:dD)(hc:Yw w c p)(hm:Zb c=true)(hp:c.bS<=512)(hsl:c.cN<=512):Xe prog 29 #[.agg (Zj c p).toArray] w
 (λv w'=>∃r,v=.tuple #[.agg (Db r).toArray,.int .i64 0]/\r.s.c=c/\r.s.cp=p/\Ae w' r (Gz c)/\(∀S:Nat->Prop,(∀z,S z->z<w.heap.size)->Xj S p.ka->Fv S r)/\Xc Xf w w'):=by
 have a3:1<=c.cN/\1<=c.cS/\c.cS<=1023:=by
  have:=hm;unfold Zb at this;simp only[XJ,decide_eq_true_eq,Qx] at this;omega
 obtain⟨N,E⟩:=XE (show 0<=c.cN by omega);refine aR func29 ntmps29 aA (bC aA λb w1 e1 F G a4=>bC aA λqb V e2 o i a5=>?_);have a:=G.trans i;refine bB (i.bP F) aA (aP aA (Xme c p V (hc.bR a) hm hp) ?_);rintro _ w3 ⟨n,rfl,q,u,H,x,I⟩;refine aN aA (bC aA λsb w4 e4 J K a6=>bF J aA λW B L a7=>?_);have j:=K.sn L;have d:=I.trans j;have y:=d.bP (i.bP F);refine aS aA (bB y aA (bB y aA ?_));rw[E];refine aP aA (XlF N c.cS W (by omega) (by omega)) ?_;rintro _ w6 ⟨vg,vl,vf,rfl,hT,⟨ga,gn,gc,rfl⟩,⟨la,ln,lc,rfl⟩,⟨fa,fn,fc,rfl⟩,M⟩;refine aN aA ?_;obtain⟨t,et,ht,A⟩:=XnW (cH:=c.cS) hT (by omega);refine bC aA λtb w7 e7 O P a8=>bF O aA λw8 C Q a9=>?_;have k:=P.sn Q;have f:=M.trans k;refine bB (f.bP B) aA (bB C aA (aO aA ?_));refine bF ((d.trans f).bP o) aA λR h l aa=>?_;have ab:=d.size;have m:=((a.trans d).trans f).sn l;have hf:=Z4 hm;have D:Yr w p.ka:=λb' off s e=>hc.bV.block (by have:=hf.bV;have:=hf.n;omega) e;have a1:=(Xg o);have T:C9 R t (Cs c.cN c.cS):=by rw[E];exact(ht.bQ k).bW (A (λz=>z=qb) (λz e=>by omega)) l
 have eV:Db ⟨n,t⟩=Zx n++[.slice ga gn gc,.slice la ln lc,.slice fa fn fc,.int .i64 c.cS]:=by unfold Db;rw[et]
 replace h:D2 R qb ⟨n,t⟩:=by unfold D2;rw[eV];exact h
 exact aK func29 h aA ⟨⟨n,t⟩,rfl,q,u,⟨((H.bQ (j.trans f)).bW (x _ (λz e=>by omega) (λb' off s e g=>by have:=D b' off s e;omega)) (by rw[q,u];exact hc.bR m) l),T⟩,λS U hk=>⟨x S (λz g=>by have:=U z g;have:=a.size;omega) hk,A S (λz g=>by have:=U z g;have:=a.size;omega)⟩,m⟩
theorem Xj.or{A:Nat->Prop}(h1:Xj A a)(h2:Xj B a)(h:∀z,C z->A z\/B z):Xj C a:=λb off s e c=>(h b c).elim (h1 b off s e) (h2 b off s e)
theorem Yi.or{A B C:Nat->Prop}{r:RS}(h1:Yi A r)(h2:Yi B r)(h:∀z,C z->A z\/B z):Yi C r:=⟨h1.o.or h2.o h,h1.f.or h2.f h,h1.cP.or h2.cP h,h1.cG.or h2.cG h,h1.pa.or h2.pa h,λl a=>(h1.cI l a).or (h2.cI l a) h⟩
theorem C8.or{A B C:Nat->Prop}{r:RR}(h1:C8 A r)(h2:C8 B r)(h:∀z,C z->A z\/B z):C8 C r:=⟨h1.o.or h2.o h,h1.f.or h2.f h,h1.sa.or h2.sa h,λs a=>(h1.cI s a).or (h2.cI s a) h,h1.la.or h2.la h,λq b=>(h1.lgo q b).or (h2.lgo q b) h⟩
theorem Bm.or{A B C:Nat->Prop}{r:SR}(h1:Bm A r)(h2:Bm B r)(h:∀z,C z->A z\/B z):Bm C r:=⟨h1.k.or h2.k h,h1.ra.or h2.ra h,h1.rr.or h2.rr h,h1.ta.or h2.ta h,λt ht=>(h1.tq t ht).or (h2.tq t ht) h,h1.ma.or h2.ma h⟩
theorem Iv.or{A B C:Nat->Prop}{r:Cm}(h1:Iv A r)(h2:Iv B r)(h:∀z,C z->A z\/B z):Iv C r:=⟨Xj.or h1.1 h2.1 h,Xj.or h1.2.1 h2.2.1 h,Xj.or h1.2.2 h2.2.2 h⟩
theorem Fv.or{A B C:Nat->Prop}{r:HR}(h1:Fv A r)(h2:Fv B r)(h:∀z,C z->A z\/B z):Fv C r:=⟨h1.1.or h2.1 h,Iv.or h1.2 h2.2 h⟩
structure Bh(c:Conf)(p:Y8)(n0:Nat)(w0 w:dD)(F:Nat->Prop)(P:Aw)(x:HpM)(r:HR)(xb:Nat):Prop where
 hr:Ae w r x
 rc:r.s.c=c/\r.s.cp=p
 out:Fv (Z7 F P) r
 xr:Fv (λz=>z=xb) r
 box:D2 w xb r
 xo:n0<=xb/\w0.heap.size<=xb/\¬Z7 F P xb
section
variable {c:Conf}{p:Y8}{n0:Nat}{w0 w w':dD}{F F':Nat->Prop}{S S':Sto}{H:Nat}{P:Aw}{x x':HpM}{r:HR}{xb:Nat}
theorem Ae.out{S:Nat->Prop}(h:Ae w r x)(hs:∀z,S z->w.heap.size<=z):Fv S r:=⟨h.s.out hs,h.t.out hs⟩
theorem Bh.bQ(h:Bh c p n0 w0 w F P x r xb)(hc:Xc Xf w w'):Bh c p n0 w0 w' F P x r xb:=⟨h.hr.bQ hc,h.rc,h.out,h.xr,hc.bP h.box,h.xo⟩
theorem Ae.bW{Q:Nat->Prop}(h:Ae w r x)(ho:Fv Q r)(hcf:Yw w' r.s.c r.s.cp)(hc:Xc Q w w'):Ae w' r x:=⟨h.s.bW ho.1 hcf hc,h.t.bW ho.2 hc⟩
theorem Bh.prog(h:Bh c p n0 w0 w F P x r xb)(hc:Yw w' c p)(hF:∀z,F' z->F z\/w.heap.size<=z)(hch:Xc (Z7 F P) w w'):Bh c p n0 w0 w' F' P x r xb:=by
 have b:∀z,Z7 F' P z->Z7 F P z\/w.heap.size<=z:=λz a=>a.elim (λg=>(hF z g).elim (λg=>.inl (.inl g)) .inr) (λg=>.inl (.inr g));exact⟨h.hr.bW h.out (by rw[h.rc.1,h.rc.2];exact hc) hch,h.rc,h.out.or (h.hr.out λ_ a=>a) b,h.xr,hch.heap h.box h.xo.2.2,h.xo.1,h.xo.2.1,λa=>(b _ a).elim h.xo.2.2 λg=>by have:=Xg h.box;omega⟩
end
theorem XjP(c:Conf)(p:Y8)(w:dD)(hc:Yw w c p)(ht:Bg w)(hm:Zb c=true)(hp:c.bS<=512)(hsl:c.cN<=512):Xe prog 9 #[.agg (Zj c p).toArray] w
 (λv w'=>∃n0 F S H P r,v=.tuple #[Cg H,.agg (Db r).toArray]/\Hv c n0 w w' F S H P (Gz c)/\w.heap.size<=n0/\Ae w' r (Gz c)/\(r.s.c=c/\r.s.cp=p)/\Fv (Z7 F P) r):=by
 refine aR func9 ntmps9 aA (bC aA λcb w1 e1 J K a7=>bC aA λqb w2 e2 L u a8=>?_);have m:=u.bP J;have d:=K.trans u;refine bB m aA (aP aA (Xev c p w2 (hc.bR d) (ht.bQ d) hm) ?_);rintro _ M ⟨n0,F,S,H,P,rfl,j,f,a9,aa,y⟩;refine aN aA (bB (f.bP m) aA (aP aA (Xmq c p M (hc.bR (d.trans f)) hm hp hsl) ?_));rintro _ w4 ⟨r,rfl,A,B,N,C,O⟩;refine aN aA (bC aA λtb w5 e5 Q R ab=>bF Q aA λw6 E T ac=>?_);refine aQ 3 Xf (by kernel_rfl) aA λU=>aE U E aA (aF U aA λw7 V=>?_);have n:=Z4 hm;have o:Yr w p.ka:=λb off s e=>hc.bV.block (by have:=n.bV;have:=n.n;omega) e;have q:=(R.sn T).trans V;have h:=O.trans q;have i:=h.bP (f.bP L);have a:=j.bQ h;have s3:=f.size;refine bF i aA λW G g ad=>?_;have a0:¬F qb:=λhz=>by have:=j.hm.lv.base qb hz;omega
 have t:=((d.trans f).trans h).sn g;have tl:=World.block_lt_of_cell? w _ (ht 0 (by decide));have a1:Lv c n0 w W F S (Eo c):=by
  obtain⟨Fr,mo,k1⟩:=a.hm.lv.ok;obtain⟨l,hz⟩:∃l,w7.heap[qb]?=some (.cells (Value.int .i64 0::l).toArray 47 (0,0)):=⟨_,i⟩;exact⟨⟨Fr,mo,(k1.old hz a0 (by decide) (λx e=>by cases e) (by omega) (by rw[y];intro off s' e;have:=hc.bT.block (by have:=n.n;omega) e;omega) (by rw[y];intro off s' e;have:=o _ _ _ e;omega) g)⟩,a.hm.lv.inv,a.hm.lv.sc,a.hm.lv.fx,λz hz=>by have:=a.hm.lv.base z hz;omega,t⟩
 have I:=j.hm.low;have hH:¬H=qb:=λe=>by
  have k:=X0 a.hm.obj;rw[e,X0 i] at k;exact absurd (Option.some.inj (Option.some.inj k)) (by decide)
 have a2:Hv c n0 w W F S H P (Gz c):=⟨⟨a1,g.heap a.hm.obj hH,a.hm.tb.bR g (by omega) (by omega),⟨I.1,by omega,by omega⟩,a.hm.out⟩,a.dA,a.ok⟩;have D:∀z,Z7 F P z->w.heap.size<=z/\z<M.heap.size:=λz hz=>by
  obtain⟨hd,fn,ka,kb,_⟩:=j.hm.tb.at';have l1:=Xg ka;have l2:=Xg kb;rcases hz with hz|hz|hz
  .exact⟨by have:=j.hm.lv.base z hz;omega,j.hm.lv.low z hz⟩
  .omega
  .omega
 exact bD rfl func9 (Xi.tmp rfl (Xi.cell rfl rfl rfl G rfl .nil)) ⟨n0,F,S,H,P,r,rfl,a2,by omega,((N.bQ q).bW (C _ (λz e=>by omega) (λb off s e hz=>by have:=o b off s e;omega)) (by rw[A,B];exact hc.bR t) g),⟨A,B⟩,(C _ (λz hz=>(D z hz).2) (λb off s e hz=>by have:=o b off s e;have:=D b hz;omega))⟩
theorem XjR(e g k:Int)(B:List Int)(a a':Option Addr)(cap cap':Nat)(w:dD)(h1:Rd .u8 w a B)(h2:Rd .u8 w a' B):Xe prog 14 #[U7 e g (.slice a B.length cap) k,.agg (Jk e g a' B.length cap' k).toArray] w (Grow (.bool true) w):=by
 refine aR func14 ntmps14 aA (bC aA λb n e1 j i l=>bC aA λtb o e2 d h m=>?_);have f:=h.bP j;have c:=i.trans h;exact bB f aA (bB d aA (bI aA (bB f aA (bB d aA (bI aA (bB f aA (Xa.bstrN Xb (B) rfl rfl ((h1.bR c)) rfl (bB d aA (Xa.bstrN Xb (B) rfl rfl ((h2.bR c)) rfl (Xa.streq Xb rfl (rfl) rfl (bI aA (bB f aA (bB d aA (bE func14 aA ⟨congrArg Value.bool (beq_self_eq_true _),c⟩))))))))))))))
theorem XeG{n0:Nat}{S:Sto}{H:Nat}{x:HpM}{r:HR}(h:Hv c n0 w0 w F S H P x)(hr:Ae w r x)(hrc:r.s.c=c):Xe prog 15 #[Cg H,.agg (Db r).toArray] w (Grow (.bool true) w):=by
 have o:=h.ok.st;have M:x.st.mv.length<=16:=by have:=o.ml;have:=(Z4 o.may).n;omega
 have N:=hr.s.mn;refine aR func15 ntmps15 aA (bC aA λb G e1 I u O=>?_);refine Xa.loop (α:=Nat) (λi=>[(0,false,Cg H),(3,false,.pointer (some ⟨b,0,none⟩)),(5,false,.int .i64 ((i:Int)-1))])
  (λi w'=>i<=x.st.mv.length+2/\Xc Xf G w') (λi=>x.st.mv.length+2-i) 0 ⟨rfl,rfl,rfl,trivial⟩ ⟨XP _,Xc.refl _ _⟩ ?_
 rintro i t ⟨R,l⟩ ih;have f:=l.bP I;have g:=u.trans l;have p:=h.bQ g;have j:=hr.bQ g;refine aN aA (bB f aA ?_);by_cases Q:i<x.st.mv.length+2
 .exact aM aA (bN (show(i:Int)-1<=(r.s.ms.length:Nat) by omega)) (aQ 6 Xf (by kernel_rfl) aA λa=>aG a (λw' d=>(Xjs (p.bQ d).hm ((i:Int)-1))) aA (aE a f aA (aF a aA λT q=>bG (Xmd (j.bQ q).s o ((i:Int)-1)) aA λU A=>aS aA (aV aA (ih (i+1) _ _ ⟨by omega,(l.trans q).trans A⟩ (by omega) ⟨rfl,rfl,by rw[show((i+1:Nat):Int)-1=(i:Int)-1+1 by omega];rfl,trivial⟩)))))
 .refine aI aA (bO (show ¬(i:Int)-1<=(r.s.ms.length:Nat) by omega)) (aQ 17 Xf (by kernel_rfl) aA λa=>aH a (λw' d=>(Xeu (p.bQ d).hm)) aA (aE a f aA (aG a (λw' d=>(XlE (j.bQ d).t)) aA (Xd.yes Xb a rfl (beq_self_eq_true _) rfl (aG a (λw' d=>(Xet (p.bQ d).hm)) aA (aE a f aA (aG a (λw' d=>(Xgc (j.bQ d) o.rm.cU.cV)) aA (Xd.yes Xb a rfl (beq_self_eq_true _) rfl (aE a f aA (Xd.cK a rfl λwa s=>?_))))))))));have m:=XaU (p.bQ s).hm;refine Xo.call (Post:=λv t=>(∃z,v=.float .f64 z/\G6 (FloatKind.nearest .f64 (Zl x.st)) (FloatKind.nearest .f64 ((Za x.st.rm.pl:Nat)*c.size)) z)/\Xc Xf wa t) rfl m.fn (λJ=>m.mono λv t ⟨z,e,k,B⟩=>⟨J.trans B,⟨z,e,k⟩,B⟩) ?_;rintro v wb _ ⟨⟨z,rfl,K⟩,C⟩;refine Xd.adv Xb a rfl (aF a aA λwc D=>?_);have n:=(s.trans C).trans D;have m:=Xmo (j.bQ n) (by rw[hrc];exact h.ok);rw[hrc] at m;refine aP aA (m) ?_;rintro _ wd ⟨y,rfl,L,E⟩;exact aN aA (bH (Xlu z y (Xlh K L) wd) aA (bE func15 aA ⟨rfl,g.trans (n.trans E)⟩))
theorem Xn4{x:HpM}(h:x.Ok c)(u:Gr)(ht:0<=x.st.rm.tot/\x.st.rm.tot<=900000000000):0<=(Yc c x u).st.rm.tot/\(Yc c x u).st.rm.tot<=x.st.rm.tot+1000000000:=by
 have b:=λv:Dz=>Sp (u:=v) h.st ht;unfold Q7 at b;have a:0<=x.st.rm.tot/\x.st.rm.tot<=x.st.rm.tot+1000000000:=⟨ht.1,by omega⟩;unfold Yc;split
 .unfold B5;split
  .exact b ⟨0,Dh x.tb,u.a,0,[],none,0⟩
  .exact a
 split
 .unfold Cf;split
  .exact b ⟨1,Ze x.tb u.h,0,0,[],none,0⟩
  .exact a
 split
 .unfold Gb;split
  .exact b ⟨3,Ze x.tb u.h,u.a,u.b,[],none,0⟩
  .exact a
 split
 .unfold Gc;split
  .exact b ⟨4,Ze x.tb u.h,u.a,0,u.bs,none,0⟩
  .exact a
 split
 .unfold Ho;split
  .exact b ⟨2,Ze x.tb u.h,u.a,0,[],none,0⟩
  .exact a
 split
 .exact b ⟨5,0,0,0,[],none,0⟩
 .exact b ⟨6,u.a,u.b,0,[],none,0⟩
structure Hg(w9:dD)(r:HR)(x':HpM)(B:List Int)(r':HR)(a:Option Addr)(w:dD):Prop where
 hr:Ae w r' x'
 rd:Rd .u8 w a B
 ch:Xc Xf w9 w
 bV:Dj w9 r r'
 lo:∀b off s,a=some ⟨b,off,s⟩->w9.heap.size<=b/\b<w.heap.size
def Kf(r':HR)(a:Option Addr)(b:Nat):Prop:=Fv (λz=>z=b) r'/\Xj (λz=>z=b) a
theorem Xmm{w:dD}{r:HR}{x:HpM}(h:Ae w r x)(hx:x.Ok c)(hc:r.s.c=c)(hsl:c.cN<=500)(u:Gr)(hu:Jp w u)(ht:0<=x.st.rm.tot/\x.st.rm.tot<=900000000000):∀w',Xc Xf w w'->Xe prog 12 #[.agg (Db r).toArray,.agg (Ht u).toArray] w'
 (λv w2=>∃r' a cap,v=.tuple #[.agg (Db r').toArray,.agg (Jk (Qr c x u) (Qs c x u) a (Z9 c x u).length cap (Qt c x u)).toArray]/\Hg w r (Yc c x u) (Z9 c x u) r' a w2/\Xc Xf w' w2/\∀b,w.heap.size<=b->(b<w'.heap.size\/w2.heap.size<=b)->Kf r' a b):=by
 subst hc;intro w' d;refine(Xml (h.bQ d) hx hsl u (hu.bQ d) ht).mono ?_;rintro v w2 ⟨r',a,cap,e,i,f,j,g,k⟩;have m:=d.size;refine⟨r',a,cap,e,⟨j,i,d.trans k,g.dC m,λb off s e=>by have:=f b off s e;omega⟩,k,λb o l=>⟨?_,λb' off s e' n=>by have:=f b' off s e';omega⟩⟩;rcases l with hb'|hb'
 .exact⟨g.1.2.2 _ (λz e=>by omega) (h.s.out λz e=>by omega),g.2 _ (λz e=>by omega) (h.t.out λz e=>by omega)⟩
 .exact j.out λz e=>by omega
structure Ea(w9:dD)(r:HR)(x':HpM)(B:List Int)(r':HR)(a:Option Addr)(qb:Nat)(qc:List Value)(w:dD):Prop where
 d:Hg w9 r x' B r' a w
 box:w.heap[qb]?=some (.cells qc.toArray 47 (0,0))
 q0:w9.heap.size<=qb
 off:Kf r' a qb
structure Fu(w9:dD)(r':HR)(a:Option Addr)(tb:Nat)(tc:List Value)(w:dD):Prop where
 box:w.heap[tb]?=some (.cells tc.toArray 58 (0,0))
 q0:w9.heap.size<=tb
 off:Kf r' a tb
section
variable {w9 w w':dD}{r r':HR}{x x':HpM}{B:List Int}{a:Option Addr}{qb tb:Nat}{qc qc' tc tc':List Value}
theorem Dj.out{w:dD}(h:Dj w r r')(hS:∀z,S z->z<w.heap.size)(ho:Fv S r):Fv S r':=⟨h.1.2.2 S hS ho.1,h.2 S hS ho.2⟩
theorem Hg.bQ(h:Hg w9 r x' B r' a w)(hc:Xc Xf w w'):Hg w9 r x' B r' a w':=⟨h.hr.bQ hc,h.rd.bR hc,h.ch.trans hc,h.bV,λb off s e=>by have:=h.lo b off s e;have:=hc.size;omega⟩
theorem Ea.bQ(h:Ea w9 r x' B r' a qb qc w)(hc:Xc Xf w w'):Ea w9 r x' B r' a qb qc w':=⟨h.d.bQ hc,hc.bP h.box,h.q0,h.off⟩
theorem Fu.bQ(h:Fu w9 r' a tb tc w)(hc:Xc Xf w w'):Fu w9 r' a tb tc w':=⟨hc.bP h.box,h.q0,h.off⟩
theorem Hg.bW{b:Nat}(h:Hg w9 r x' B r' a w)(h0:Ae w9 r x)(hb:w9.heap.size<=b)(ho:Kf r' a b)(hc:Xc (λz=>z=b) w w'):Hg w9 r x' B r' a w':=by
 have c:=h.ch.sn hc;refine⟨h.hr.bW ho.1 ?_ hc,h.rd.bW (λb' off s' e d=>ho.2 b' off s' e d) hc,c,h.bV,λb' off s e=>by have:=h.lo b' off s e;have:=hc.size;omega⟩;have:=h0.s.cO.bR c;rw[h.bV.1.1,h.bV.1.2.1];exact this
theorem Ea.st(h:Ea w9 r x' B r' a qb qc w)(h0:Ae w9 r x)(hb:w'.heap[qb]?=some (.cells qc'.toArray 47 (0,0)))(hc:Xc (λz=>z=qb) w w'):Ea w9 r x' B r' a qb qc' w':=⟨h.d.bW h0 h.q0 h.off hc,hb,h.q0,h.off⟩
theorem Xd1(h:Ea w9 r x' B r' a qb qc w)(k:Fu w9 r' a tb tc w):¬qb=tb:=λe=>by
 have b:=h.box;rw[e,k.box] at b;cases b
theorem Fu.st(k:Fu w9 r' a tb tc w)(h:Ea w9 r x' B r' a qb qc w)(hc:Xc (λz=>z=qb) w w'):Fu w9 r' a tb tc w':=⟨hc.heap k.box (λe=>Xd1 h k e.symm),k.q0,k.off⟩
theorem Ea.stY(h:Ea w9 r x' B r' a qb qc w)(k:Fu w9 r' a tb tc w)(h0:Ae w9 r x)(hc:Xc (λz=>z=tb) w w'):Ea w9 r x' B r' a qb qc w':=⟨h.d.bW h0 k.q0 k.off hc,hc.heap h.box (Xd1 h k),h.q0,h.off⟩
end
theorem Xi2(h:Mg c=true):c.cN<=20:=by
 unfold Mg at h;simp only[XJ,decide_eq_true_eq] at h;exact h.2
theorem law_HeapRuns(c:Conf)(p:Y8)(sa:Option Addr)(sc:Nat)(xs:List Gr)(w:dD)(ht:Bg w)(hc:Yw w c p)(hrs:Rows Ht 5 w sa xs)(hl:xs.length<=9223372036854775807)(hxs:∀x∈xs,Jp w x):Xe prog 4 #[.agg (Zj c p).toArray,.slice sa xs.length sc] w (Grow (.bool true) w):=by
 refine aR func4 ntmps4 aA (bC aA λcb w1 e1 bn b5 cm=>?_);refine bG (XjO w1 (ht.bQ b5)) aA λE b6=>?_;have am:=b5.trans b6;have an:=b6.bP bn;refine bB an aA (bG (Xls c p E (hc.bR am)) aA λw3 b7=>?_);have Q:=am.trans b7;cases hf:Mg c with
 |false=>
  exact bI aA (bE func4 aA ⟨rfl,Q⟩)
 |true=>
 obtain⟨hm,cn,co⟩:=Xi1 hf;have cp:=Xi2 hf;refine aS aA (aP aA (Xmn sa sc xs w3 (hrs.bR Q) hl) ?_);rintro _ w4 ⟨b0,rfl,bo,rfl⟩;refine aN aA (aT aA (λg0=>?_) λg0=>?_)
 .exact bE func4 aA ⟨rfl,Q⟩
 obtain⟨ce,b3⟩:=bo (by simpa using g0);have ao:=hc.bR Q;refine bB (b7.bP an) aA (aP aA (XjP c p w3 ao (ht.bQ Q) hm (by omega) (by omega)) ?_);rintro _ w5 ⟨n0,F,S,H,P,r,rfl,h5,cq,b8,bg,bq⟩;have cr:=h5.hm.lv.bR.size;refine aN aA (bC aA λxb w6 e6 br bs cs=>bF br aA λw7 bh bt ct=>?_);have aq:=bs.sn bt;have lxb:¬Z7 F P xb:=λhz=>by
  rcases hz with hz|hz|hz
  .have:=h5.hm.lv.low _ hz;omega
  .have:=Ek h5.hm.tb.kd.1;omega
  .have:=Ek h5.hm.tb.kd.2;omega
 have cu:n0<=w5.heap.size:=by have:=Ek h5.hm.tb.kd.1;have:=h5.hm.low;omega
 have bu:Bh c p n0 w3 w7 F P (Gz c) r xb:=⟨b8.bQ aq,bg,bq,b8.out (λz e=>by omega),bh,by omega,by omega,lxb⟩;refine Xa.loop (α:=Nat) (λk=>[(1,false,.slice sa xs.length sc),(5,false,.bool true),(6,false,Cg H),(7,false,.pointer (some ⟨xb,0,none⟩)),(8,false,.int .i64 k)])
  (λk w'=>k<=xs.length/\∃F S x r,Hv c n0 w3 w' F S H P x/\Bh c p n0 w3 w' F P x r xb/\0<=x.st.rm.tot/\x.st.rm.tot<=k*1000000000) (λk=>xs.length-k) 0 ⟨rfl,rfl,rfl,rfl,rfl,trivial⟩ ⟨XP _,F,S,_,r,(h5.bQ aq),bu,QN _,QN _⟩ ?_
 rintro k w8 ⟨hk,F8,S8,l,r9,h8,aa,cv,ci⟩ ih;refine aN aA (aT aA (λD=>?_) λD=>?_)
 .have D:=bL D;have ar:k<xs.length:=by omega
  obtain⟨sb,so,rfl,ag⟩:=hrs.at ar;have au:=Q.trans h8.hm.lv.bR;have hu:=hxs _ (XM ar);refine aU (k*5) aA (Xa.loadC Xb ((Ht xs[k])) rfl (by first|rfl|(simp;done)|(simp[*];done)|(simp;omega)) ((λj v e=>Pz au.below (ag j v e))) rfl ?_);have bj:0<xs[k].bs.length->Xj F8 xs[k].ba:=λbw b off s e hz=>by
   obtain⟨b',off',e',av⟩:=hu.rd 0 bw;rw[e] at e';cases e'
   have:=World.block_lt_of_cell? w _ av;have:=h8.hm.lv.base b hz;have:=Q.size;have:b<w.heap.size:=by assumption
   omega
  refine aP aA (XjQ h8 xs[k] (hu.bQ au) (b3 _ (XM ar)).2 bj) ?_;rintro _ w9 ⟨bv,F9,S9,rfl,⟨ba,bcap,rfl,bx,bz⟩,h9,c1,c2⟩;have b9:=aa.prog (ao.bR h9.hm.lv.bR) c1 c2;refine aN aA (bC aA λvb wa ea c3 c4 cw=>bF c3 aA λf b4 c5 cx=>?_);have aw:=c4.sn c5;have a5:=h9.bQ aw;have d:=b9.bQ aw;have ah:=Q.trans a5.hm.lv.bR;have al:∀i v,(Ht xs[k])[i]?=some v->f.cell? ⟨sb,so+k*5+i,none⟩=some v:=λi v hv=>ah.cell (ag i v hv) id;have hD:=Xmm d.hr h8.ok d.rc.1 (by omega) xs[k] (hu.bQ ah) (by omega);apply Xa.cut (α:=HR×Option Addr×Nat×Nat×Nat) (λy=>[(1,false,.slice (some ⟨sb,so,none⟩) xs.length sc),(5,false,.bool true),(6,false,Cg H),(7,false,.pointer (some ⟨xb,0,none⟩)),(8,false,.int .i64 k),(9,false,.pointer (some ⟨vb,0,none⟩)),(10,false,.pointer (some ⟨y.2.2.2.1,0,none⟩)),(11,false,.pointer (some ⟨y.2.2.2.2,0,none⟩))]++[(47,false,.agg (Jk (Qr c l xs[k]) (Qs c l xs[k]) y.2.1 (Z9 c l xs[k]).length y.2.2.1 (Qt c l xs[k])).toArray)])
   (λy w'=>Ea f r9 (Yc c l xs[k]) (Z9 c l xs[k]) y.1 y.2.1 y.2.2.2.1 (Db y.1) w'/\Fu f y.1 y.2.1 y.2.2.2.2 [.int .i64 0,.int .i64 0,.slice none 0 0,.int .i64 0] w')
  .intro J;refine aQ 12 Xf (by kernel_rfl) aA λn=>aE n d.box aA (aB (k*5) n aA (Xd.loadC Xb n ((Ht xs[k])) rfl (by first|rfl|(simp;done)|(simp[*];done)|(simp;omega)) (al) (by first|exact λh=>h|(intro h;omega)|assumption) rfl ?_));refine Xd.turn3 n rfl ?_ ?_ ?_
   .intro wa R;have O:=hD _ R;refine Xo.call (Post:=λv E=>∃r' a cap,v=.tuple #[.agg (Db r').toArray,.agg (Jk (Qr c l xs[k]) (Qs c l xs[k]) a (Z9 c l xs[k]).length cap (Qt c l xs[k])).toArray]/\Hg f r9 (Yc c l xs[k]) (Z9 c l xs[k]) r' a E/\Xc Xf wa E/\∀b,f.heap.size<=b->(b<(wa).heap.size\/E.heap.size<=b)->Kf r' a b) rfl O.fn (λh0=>O.mono λv E ⟨r',a,cap,e1,e2,e3,e4⟩=>⟨h0.trans e3,r',a,cap,e1,e2,e3,e4⟩) ?_;rintro _ wb q0 ⟨rr,da,dcap,rfl,q,U,A⟩;refine Xd.adv Xb n rfl ?_;refine Xd.turn2 n rfl ?_ ?_
    .intro wc B;have a8:=(((R.trans U).trans B)).size;refine Xo.alloc Xb n rfl (λ_=>rfl) ?_;intro qb wd eqb t T ai;have I:f.heap.size<=qb:=by omega
     refine Xd.cK n rfl ?_;intro we L;have a9:=(((((R.trans U).trans B).trans T).trans L)).size;refine Xo.alloc Xb n rfl (λ_=>rfl) ?_;intro tb wf etb u q3 ab;have K:f.heap.size<=tb:=by omega
     have y2:=B.size;have y4:=L.size;have C:=L.trans q3;have D:=(B.trans T).trans C;have V:Ea f r9 (Yc c l xs[k]) (Z9 c l xs[k]) rr da qb _ wf:=⟨by first|exact q|exact q.bQ C|exact q.bQ D,by first|exact t|exact C.bP t|exact D.bP t,I,A qb I (by first|(right;omega)|(left;omega))⟩;have N:Fu f rr da tb _ wf:=⟨by first|exact u|exact C.bP u|exact D.bP u,K,A tb K (by first|(right;omega)|(left;omega))⟩;refine Xd.cK n rfl ?_;intro wg M;have m:=V.bQ M;refine Xo.store Xb n rfl m.box (by first|(intro h;exact rfl)|(intro h;omega)) rfl rfl rfl ?_;intro wh G o ac;refine aF n aA λwz az=>?_;exact J (rr,da,dcap,qb,tb) wz _ ⟨((m.st d.hr G o)).bQ az,(((N.bQ M).st m o)).bQ az⟩ (by repeat (first|exact trivial|refine⟨rfl,?_⟩))
    .intro wc B;have a9:=(((R.trans U).trans B)).size;refine Xo.alloc Xb n rfl (λ_=>rfl) ?_;intro tb wd etb u T ab;have K:f.heap.size<=tb:=by omega
     refine Xd.cK n rfl ?_;intro we L;have a8:=(((((R.trans U).trans B).trans T).trans L)).size;refine Xo.alloc Xb n rfl (λ_=>rfl) ?_;intro qb wf eqb t q3 ai;have I:f.heap.size<=qb:=by omega
     have y2:=B.size;have y4:=L.size;have C:=L.trans q3;have D:=(B.trans T).trans C;have V:Ea f r9 (Yc c l xs[k]) (Z9 c l xs[k]) rr da qb _ wf:=⟨by first|exact q|exact q.bQ C|exact q.bQ D,by first|exact t|exact C.bP t|exact D.bP t,I,A qb I (by first|(right;omega)|(left;omega))⟩;have N:Fu f rr da tb _ wf:=⟨by first|exact u|exact C.bP u|exact D.bP u,K,A tb K (by first|(right;omega)|(left;omega))⟩;refine Xd.cK n rfl ?_;intro wg M;have m:=V.bQ M;refine Xo.store Xb n rfl m.box (by first|(intro h;exact rfl)|(intro h;omega)) rfl rfl rfl ?_;intro wh G o ac;refine aF n aA λwz az=>?_;exact J (rr,da,dcap,qb,tb) wz _ ⟨((m.st d.hr G o)).bQ az,(((N.bQ M).st m o)).bQ az⟩ (by repeat (first|exact trivial|refine⟨rfl,?_⟩))
   .intro wa R;have a8:=(R).size;refine Xo.alloc Xb n rfl (λ_=>rfl) ?_;intro qb wb eqb t U ai;have I:f.heap.size<=qb:=by omega
    refine Xd.turn2 n rfl ?_ ?_
    .intro wc B;have O:=hD _ ((R.trans U).trans B);refine Xo.call (Post:=λv E=>∃r' a cap,v=.tuple #[.agg (Db r').toArray,.agg (Jk (Qr c l xs[k]) (Qs c l xs[k]) a (Z9 c l xs[k]).length cap (Qt c l xs[k])).toArray]/\Hg f r9 (Yc c l xs[k]) (Z9 c l xs[k]) r' a E/\Xc Xf wc E/\∀b,f.heap.size<=b->(b<(wc).heap.size\/E.heap.size<=b)->Kf r' a b) rfl O.fn (λh0=>O.mono λv E ⟨r',a,cap,e1,e2,e3,e4⟩=>⟨h0.trans e3,r',a,cap,e1,e2,e3,e4⟩) ?_;rintro _ wd q0 ⟨rr,da,dcap,rfl,q,T,A⟩;refine Xd.adv Xb n rfl (Xd.cK n rfl λwe L=>?_);have a9:=(((((R.trans U).trans B).trans T).trans L)).size;refine Xo.alloc Xb n rfl (λ_=>rfl) ?_;intro tb wf etb u q3 ab;have K:f.heap.size<=tb:=by omega
     have y2:=B.size;have y4:=L.size;have C:=L.trans q3;have D:=(B.trans T).trans C;have V:Ea f r9 (Yc c l xs[k]) (Z9 c l xs[k]) rr da qb _ wf:=⟨by first|exact q|exact q.bQ C|exact q.bQ D,by first|exact t|exact C.bP t|exact D.bP t,I,A qb I (by first|(right;omega)|(left;omega))⟩;have N:Fu f rr da tb _ wf:=⟨by first|exact u|exact C.bP u|exact D.bP u,K,A tb K (by first|(right;omega)|(left;omega))⟩;refine Xd.cK n rfl ?_;intro wg M;have m:=V.bQ M;refine Xo.store Xb n rfl m.box (by first|(intro h;exact rfl)|(intro h;omega)) rfl rfl rfl ?_;intro wh G o ac;refine aF n aA λwz az=>?_;exact J (rr,da,dcap,qb,tb) wz _ ⟨((m.st d.hr G o)).bQ az,(((N.bQ M).st m o)).bQ az⟩ (by repeat (first|exact trivial|refine⟨rfl,?_⟩))
    .intro wc B;have a9:=(((R.trans U).trans B)).size;refine Xo.alloc Xb n rfl (λ_=>rfl) ?_;intro tb wd etb u T ab;have K:f.heap.size<=tb:=by omega
     refine Xd.cK n rfl ?_;intro we L;have O:=hD _ ((((R.trans U).trans B).trans T).trans L);refine Xo.call (Post:=λv E=>∃r' a cap,v=.tuple #[.agg (Db r').toArray,.agg (Jk (Qr c l xs[k]) (Qs c l xs[k]) a (Z9 c l xs[k]).length cap (Qt c l xs[k])).toArray]/\Hg f r9 (Yc c l xs[k]) (Z9 c l xs[k]) r' a E/\Xc Xf we E/\∀b,f.heap.size<=b->(b<(we).heap.size\/E.heap.size<=b)->Kf r' a b) rfl O.fn (λh0=>O.mono λv E ⟨r',a,cap,e1,e2,e3,e4⟩=>⟨h0.trans e3,r',a,cap,e1,e2,e3,e4⟩) ?_;rintro _ wf q0 ⟨rr,da,dcap,rfl,q,q3,A⟩;refine Xd.adv Xb n rfl ?_;have y2:=B.size;have y4:=L.size;have C:=L.trans q3;have D:=(B.trans T).trans C;have V:Ea f r9 (Yc c l xs[k]) (Z9 c l xs[k]) rr da qb _ wf:=⟨by first|exact q|exact q.bQ C|exact q.bQ D,by first|exact t|exact C.bP t|exact D.bP t,I,A qb I (by first|(right;omega)|(left;omega))⟩;have N:Fu f rr da tb _ wf:=⟨by first|exact u|exact C.bP u|exact D.bP u,K,A tb K (by first|(right;omega)|(left;omega))⟩;refine Xd.cK n rfl ?_;intro wg M;have m:=V.bQ M;refine Xo.store Xb n rfl m.box (by first|(intro h;exact rfl)|(intro h;omega)) rfl rfl rfl ?_;intro wh G o ac;refine aF n aA λwz az=>?_;exact J (rr,da,dcap,qb,tb) wz _ ⟨((m.st d.hr G o)).bQ az,(((N.bQ M).st m o)).bQ az⟩ (by repeat (first|exact trivial|refine⟨rfl,?_⟩))
   .intro wa R;have a9:=(R).size;refine Xo.alloc Xb n rfl (λ_=>rfl) ?_;intro tb wb etb u U ab;have K:f.heap.size<=tb:=by omega
    refine Xd.turn2 n rfl ?_ ?_
    .intro wc B;have O:=hD _ ((R.trans U).trans B);refine Xo.call (Post:=λv E=>∃r' a cap,v=.tuple #[.agg (Db r').toArray,.agg (Jk (Qr c l xs[k]) (Qs c l xs[k]) a (Z9 c l xs[k]).length cap (Qt c l xs[k])).toArray]/\Hg f r9 (Yc c l xs[k]) (Z9 c l xs[k]) r' a E/\Xc Xf wc E/\∀b,f.heap.size<=b->(b<(wc).heap.size\/E.heap.size<=b)->Kf r' a b) rfl O.fn (λh0=>O.mono λv E ⟨r',a,cap,e1,e2,e3,e4⟩=>⟨h0.trans e3,r',a,cap,e1,e2,e3,e4⟩) ?_;rintro _ wd q0 ⟨rr,da,dcap,rfl,q,T,A⟩;refine Xd.adv Xb n rfl (Xd.cK n rfl λwe L=>?_);have a8:=(((((R.trans U).trans B).trans T).trans L)).size;refine Xo.alloc Xb n rfl (λ_=>rfl) ?_;intro qb wf eqb t q3 ai;have I:f.heap.size<=qb:=by omega
     have y2:=B.size;have y4:=L.size;have C:=L.trans q3;have D:=(B.trans T).trans C;have V:Ea f r9 (Yc c l xs[k]) (Z9 c l xs[k]) rr da qb _ wf:=⟨by first|exact q|exact q.bQ C|exact q.bQ D,by first|exact t|exact C.bP t|exact D.bP t,I,A qb I (by first|(right;omega)|(left;omega))⟩;have N:Fu f rr da tb _ wf:=⟨by first|exact u|exact C.bP u|exact D.bP u,K,A tb K (by first|(right;omega)|(left;omega))⟩;refine Xd.cK n rfl ?_;intro wg M;have m:=V.bQ M;refine Xo.store Xb n rfl m.box (by first|(intro h;exact rfl)|(intro h;omega)) rfl rfl rfl ?_;intro wh G o ac;refine aF n aA λwz az=>?_;exact J (rr,da,dcap,qb,tb) wz _ ⟨((m.st d.hr G o)).bQ az,(((N.bQ M).st m o)).bQ az⟩ (by repeat (first|exact trivial|refine⟨rfl,?_⟩))
    .intro wc B;have a8:=(((R.trans U).trans B)).size;refine Xo.alloc Xb n rfl (λ_=>rfl) ?_;intro qb wd eqb t T ai;have I:f.heap.size<=qb:=by omega
     refine Xd.cK n rfl ?_;intro we L;have O:=hD _ ((((R.trans U).trans B).trans T).trans L);refine Xo.call (Post:=λv E=>∃r' a cap,v=.tuple #[.agg (Db r').toArray,.agg (Jk (Qr c l xs[k]) (Qs c l xs[k]) a (Z9 c l xs[k]).length cap (Qt c l xs[k])).toArray]/\Hg f r9 (Yc c l xs[k]) (Z9 c l xs[k]) r' a E/\Xc Xf we E/\∀b,f.heap.size<=b->(b<(we).heap.size\/E.heap.size<=b)->Kf r' a b) rfl O.fn (λh0=>O.mono λv E ⟨r',a,cap,e1,e2,e3,e4⟩=>⟨h0.trans e3,r',a,cap,e1,e2,e3,e4⟩) ?_;rintro _ wf q0 ⟨rr,da,dcap,rfl,q,q3,A⟩;refine Xd.adv Xb n rfl ?_;have y2:=B.size;have y4:=L.size;have C:=L.trans q3;have D:=(B.trans T).trans C;have V:Ea f r9 (Yc c l xs[k]) (Z9 c l xs[k]) rr da qb _ wf:=⟨by first|exact q|exact q.bQ C|exact q.bQ D,by first|exact t|exact C.bP t|exact D.bP t,I,A qb I (by first|(right;omega)|(left;omega))⟩;have N:Fu f rr da tb _ wf:=⟨by first|exact u|exact C.bP u|exact D.bP u,K,A tb K (by first|(right;omega)|(left;omega))⟩;refine Xd.cK n rfl ?_;intro wg M;have m:=V.bQ M;refine Xo.store Xb n rfl m.box (by first|(intro h;exact rfl)|(intro h;omega)) rfl rfl rfl ?_;intro wh G o ac;refine aF n aA λwz az=>?_;exact J (rr,da,dcap,qb,tb) wz _ ⟨((m.st d.hr G o)).bQ az,(((N.bQ M).st m o)).bQ az⟩ (by repeat (first|exact trivial|refine⟨rfl,?_⟩))
  rintro⟨r',da,dcap,qb,tb⟩ wz ⟨V,N⟩;simp only at V N
  refine bF N.box aA λwt c6 c7 ab=>?_;have W:=V.stY N d.hr c7;have aj:=W.d.ch;have bb:=aj.bP d.box;have cy:=Xg b9.box;have bm:∀z,Z7 F9 P z->z<f.heap.size:=λz hz=>by
   rcases hz with hz|hz|hz
   .exact a5.hm.lv.low _ hz
   .have:=Ek a5.hm.tb.kd.1;omega
   .have:=Ek a5.hm.tb.kd.2;omega
  refine bB W.box aA (bF bb aA λwu bc a6 cz=>?_);have bd:=W.d.bV.out (S:=λz=>z=xb) (λz e=>by omega) d.xr;have c8:¬H=xb:=λe=>by
   have k:=X0 a5.hm.obj;rw[e,X0 d.box] at k;exact absurd (Option.some.inj (Option.some.inj k)) (by decide)
  have b2:=Hv.boxed (a5.bQ aj) (λg=>d.xo.2.2 (.inl g)) ⟨d.xo.1,d.xo.2.1⟩ ⟨λg=>d.xo.2.2 (.inr g),c8⟩ (X0 bb) (by decide) a6;have ecf:r'.s.c=c/\r'.s.cp=p:=⟨W.d.bV.1.1.trans d.rc.1,W.d.bV.1.2.1.trans d.rc.2⟩;have be:=W.d.hr.bW bd (by rw[ecf.1,ecf.2];exact ao.bR b2.hm.lv.bR) a6;have c9:Bh c p n0 w3 wu F9 P (Yc c l xs[k]) r' xb:=⟨be,ecf,W.d.bV.out bm d.out,bd,bc,d.xo⟩;have lvx:¬vb=xb:=by omega
  have ltx:¬tb=xb:=by have:=N.q0;omega
  refine bB (a6.heap (aj.bP b4) lvx) aA (bB (a6.heap c6 ltx) aA ?_);have ca:=Xn4 h8.ok xs[k] (by omega);exact bG (XjR (Qr c l xs[k]) (Qs c l xs[k]) (Qt c l xs[k]) (Z9 c l xs[k]) ba da bcap dcap wu (((bx.bR aw).bR aj).bW (λb off s e hz=>by have:=(bz b off s e).1;have:=Xg aa.box;omega) a6) (W.d.rd.bW (λb off s e hz=>by have:=W.d.lo b off s e;omega) a6)) aA λwx ad=>aS aA (bB (ad.bP bc) aA (bG (XeG (b2.bQ ad) (be.bQ ad) ecf.1) aA λwy bf=>aS aA (aV aA (ih (k+1) _ _ ⟨by omega,F9,S9,_,r',(b2.bQ ad).bQ bf,(c9.bQ ad).bQ bf,ca.1,by omega⟩ (by omega) ⟨rfl,rfl,rfl,rfl,rfl,trivial⟩))))
 .exact bI aA (bB aa.box aA (bG (XeG h8 aa.hr aa.rc.1) aA λw9 cc=>bE func4 aA ⟨rfl,(Q.trans h8.hm.lv.bR).trans cc⟩))
end Go.Proofs.YtdeihcnepljjaaaGreatDoor
