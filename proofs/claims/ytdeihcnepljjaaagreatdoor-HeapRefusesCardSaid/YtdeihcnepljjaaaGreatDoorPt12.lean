/-
  Texts put together: Laws23c, Laws23d, Laws23e, Stl23, Laws23g, Laws23h.
-/
import Derived.Test.YtdeihcnepljjaaaGreatDoorPt11
import Derived.Test.YtdeihcnepljjaaaGreatDoorQRule23
import Derived.Test.YtdeihcnepljjaaaGreatDoorQRule25
set_option linter.unusedVariables false
set_option maxRecDepth 100000
namespace Go.Proofs.YtdeihcnepljjaaaGreatDoor
open Go.RowKit
open Go renaming World→dD
open Bool renaming and_eq_true->XK
open Int renaming sub_self->YI,le_refl->QN
open List renaming getElem?_eq_getElem->XD,length_set->XG,getElem?_set_self->XH,map_append->XL,getElem_mem->XM,getElem?_map->XN,mem_append->XS,length_append->ZC,getElem?_eq_none->ZF,getElem?_set->ZX,mem_singleton->YH
open Nat renaming le_refl->XF,zero_le->XQ,le_trans->ZN,mul_one->ZQ
open Option renaming getD_some->ZU
open Go.Proofs.Tryz (func5 func9 ntmps5 ntmps9 prog)
variable {A:Ar}{V:ArV}{c:Conf}{l':IL}{ahead by' cS h cH size cN u who z:Int}{lg:List (Nat×List Nat)}{th:List (Option ThM)}{ps:List IL}{bs l p zs:List Int}{l2 ws:List Nat}{cs rest xs:List Value}{mo:Mo}{N at' b base cap d fuel g i j k lm lo m n o qb sz t tm ty vb xb y:Nat}{fz:Nat×Nat}{f:Nat->Int}{G:Nat->Pg}{B C F F' Fr Q S S' T X:Nat->Prop}{pd pd2:Option (Nat×PlcM)}{a:Option Addr}{pg:PgL}{pl':PlM}{q:Plc}{R:Rm}{M:RmM}{r:SR}{x x':Sm}{s s':StM}{P:Ap}{α:Type}{v:Value}{w w' w'' w0 w1 w2:dD}{cells:α->List Value}
theorem Xj.or{A:Nat->Prop}(h1:Xj A a)(h2:Xj B a)(h:∀z,C z->A z\/B z):Xj C a:=λb off s e c=>(h b c).elim (h1 b off s e) (h2 b off s e)
theorem Yi.or{A B C:Nat->Prop}{r:RS}(h1:Yi A r)(h2:Yi B r)(h:∀z,C z->A z\/B z):Yi C r:=⟨h1.o.or h2.o h,h1.f.or h2.f h,h1.cP.or h2.cP h,h1.cG.or h2.cG h,h1.pa.or h2.pa h,λl a=>(h1.cI l a).or (h2.cI l a) h⟩
theorem De.or{A B C:Nat->Prop}{r:RR}(h1:De A r)(h2:De B r)(h:∀z,C z->A z\/B z):De C r:=⟨h1.o.or h2.o h,h1.f.or h2.f h,h1.sa.or h2.sa h,λs a=>(h1.cI s a).or (h2.cI s a) h,h1.la.or h2.la h,λq b=>(h1.lgo q b).or (h2.lgo q b) h⟩
theorem Bo.or{A B C:Nat->Prop}{r:SR}(h1:Bo A r)(h2:Bo B r)(h:∀z,C z->A z\/B z):Bo C r:=⟨h1.k.or h2.k h,h1.ra.or h2.ra h,h1.rr.or h2.rr h,h1.ta.or h2.ta h,λt ht=>(h1.tq t ht).or (h2.tq t ht) h,h1.ma.or h2.ma h⟩
theorem Iw.or{A B C:Nat->Prop}{r:C1}(h1:Iw A r)(h2:Iw B r)(h:∀z,C z->A z\/B z):Iw C r:=⟨Xj.or h1.1 h2.1 h,Xj.or h1.2.1 h2.2.1 h,Xj.or h1.2.2 h2.2.2 h⟩
theorem E1.or{A B C:Nat->Prop}{r:HR}(h1:E1 A r)(h2:E1 B r)(h:∀z,C z->A z\/B z):E1 C r:=⟨h1.1.or h2.1 h,Iw.or h1.2 h2.2 h⟩
structure Bh(c:Conf)(p:Y4)(n0:Nat)(w0 w:dD)(F:Nat->Prop)(P:Ap)(x:HpM)(r:HR)(xb:Nat):Prop where
 hr:Al w r x
 rc:r.s.c=c/\r.s.cp=p
 out:E1 (Zz F P) r
 xr:E1 (λz=>z=xb) r
 box:Fm w xb r
 xo:n0<=xb/\w0.heap.size<=xb/\¬Zz F P xb
section
variable {c:Conf}{p:Y4}{n0:Nat}{w0 w w':dD}{F F':Nat->Prop}{S S':Sto}{H:Nat}{P:Ap}{x x':HpM}{r:HR}{xb:Nat}
theorem Al.out{S:Nat->Prop}(h:Al w r x)(hs:∀z,S z->w.heap.size<=z):E1 S r:=⟨h.s.out hs,h.t.out hs⟩
theorem Bh.bQ(h:Bh c p n0 w0 w F P x r xb)(hc:Xc Xe w w'):Bh c p n0 w0 w' F P x r xb:=⟨h.hr.bQ hc,h.rc,h.out,h.xr,hc.bP h.box,h.xo⟩
theorem Al.bW{Q:Nat->Prop}(h:Al w r x)(ho:E1 Q r)(hcf:Yu w' r.s.c r.s.cp)(hc:Xc Q w w'):Al w' r x:=⟨h.s.bW ho.1 hcf hc,h.t.bW ho.2 hc⟩
theorem Bh.prog(h:Bh c p n0 w0 w F P x r xb)(hc:Yu w' c p)(hF:∀z,F' z->F z\/w.heap.size<=z)(hch:Xc (Zz F P) w w'):Bh c p n0 w0 w' F' P x r xb:=by
 have b:∀z,Zz F' P z->Zz F P z\/w.heap.size<=z:=λz a=>a.elim (λg=>(hF z g).elim (λg=>.inl (.inl g)) .inr) (λg=>.inl (.inr g));exact⟨h.hr.bW h.out (by rw[h.rc.1,h.rc.2];exact hc) hch,h.rc,h.out.or (h.hr.out λ_ a=>a) b,h.xr,hch.heap h.box h.xo.2.2,h.xo.1,h.xo.2.1,λa=>(b _ a).elim h.xo.2.2 λg=>by have:=Xg h.box;omega⟩
end
theorem XjM(c:Conf)(p:Y4)(w:dD)(hc:Yu w c p)(ht:Bi w)(hm:Zb c=true)(hp:c.bS<=512)(hsl:c.cN<=512):Xf prog 9 #[.agg (Zj c p).toArray] w
 (λv w'=>∃n0 F S H P r,v=.tuple #[Cj H,.agg (En r).toArray]/\Hv c n0 w w' F S H P (Gj c)/\w.heap.size<=n0/\Al w' r (Gj c)/\(r.s.c=c/\r.s.cp=p)/\E1 (Zz F P) r):=by
 refine aR func9 ntmps9 aA (bC aA λcb w1 e1 J K a7=>bC aA λqb w2 e2 L u a8=>?_);have m:=u.bP J;have d:=K.trans u;refine bB m aA (aP aA (Xex c p w2 (hc.bR d) (ht.bQ d) hm) ?_);rintro _ M ⟨n0,F,S,H,P,rfl,j,f,a9,aa,y⟩;refine aN aA (bB (f.bP m) aA (aP aA (Xmd c p M (hc.bR (d.trans f)) hm hp hsl) ?_));rintro _ w4 ⟨r,rfl,A,B,N,C,O⟩;refine aN aA (bC aA λtb w5 e5 Q R ab=>bF Q aA λw6 E T ac=>?_);refine aQ 3 Xe (by kernel_rfl) aA λU=>aE U E aA (aF U aA λw7 V=>?_);have n:=Ye hm;have o:Yr w p.ka:=λb off s e=>hc.bV.block (by have:=n.bV;have:=n.n;omega) e;have q:=(R.sn T).trans V;have h:=O.trans q;have i:=h.bP (f.bP L);have a:=j.bQ h;have s3:=f.size;refine bF i aA λW G g ad=>?_;have a0:¬F qb:=λhz=>by have:=j.hm.lv.base qb hz;omega
 have t:=((d.trans f).trans h).sn g;have tl:=World.block_lt_of_cell? w _ (ht 0 (by decide));have a1:Lv c n0 w W F S (Es c):=by
  obtain⟨Fr,mo,k1⟩:=a.hm.lv.ok;obtain⟨l,hz⟩:∃l,w7.heap[qb]?=some (.cells (Value.int .i64 0::l).toArray 47 (0,0)):=⟨_,i⟩;exact⟨⟨Fr,mo,(k1.old hz a0 (by decide) (λx e=>by cases e) (by omega) (by rw[y];intro off s' e;have:=hc.bT.block (by have:=n.n;omega) e;omega) (by rw[y];intro off s' e;have:=o _ _ _ e;omega) g)⟩,a.hm.lv.inv,a.hm.lv.sc,a.hm.lv.fx,λz hz=>by have:=a.hm.lv.base z hz;omega,t⟩
 have I:=j.hm.low;have hH:¬H=qb:=λe=>by
  have k:=X1 a.hm.obj;rw[e,X1 i] at k;exact absurd (Option.some.inj (Option.some.inj k)) (by decide)
 have a2:Hv c n0 w W F S H P (Gj c):=⟨⟨a1,g.heap a.hm.obj hH,a.hm.tb.bR g (by omega) (by omega),⟨I.1,by omega,by omega⟩,a.hm.out⟩,a.dA,a.ok⟩;have D:∀z,Zz F P z->w.heap.size<=z/\z<M.heap.size:=λz hz=>by
  obtain⟨hd,fn,ka,kb,_⟩:=j.hm.tb.at';have l1:=Xg ka;have l2:=Xg kb;rcases hz with hz|hz|hz
  .exact⟨by have:=j.hm.lv.base z hz;omega,j.hm.lv.low z hz⟩
  .omega
  .omega
 exact bD rfl func9 (Xi.tmp rfl (Xi.cell rfl rfl rfl G rfl .nil)) ⟨n0,F,S,H,P,r,rfl,a2,by omega,((N.bQ q).bW (C _ (λz e=>by omega) (λb off s e hz=>by have:=o b off s e;omega)) (by rw[A,B];exact hc.bR t) g),⟨A,B⟩,(C _ (λz hz=>(D z hz).2) (λb off s e hz=>by have:=o b off s e;have:=D b hz;omega))⟩
theorem XnP{x:HpM}(h:x.Ok c)(u:Fh)(ht:0<=x.st.rm.tot/\x.st.rm.tot<=900000000000):0<=(Ze c x u).st.rm.tot/\(Ze c x u).st.rm.tot<=x.st.rm.tot+1000000000:=by
 have b:=λv:D3=>Sp (u:=v) h.st ht;unfold Q8 at b;have a:0<=x.st.rm.tot/\x.st.rm.tot<=x.st.rm.tot+1000000000:=⟨ht.1,by omega⟩;unfold Ze;split
 .unfold Bl;split
  .exact b ⟨0,Dk x.tb,u.a,0,[],none,0⟩
  .exact a
 split
 .unfold A6;split
  .exact b ⟨1,Zc x.tb u.h,0,0,[],none,0⟩
  .exact a
 split
 .unfold D7;split
  .exact b ⟨3,Zc x.tb u.h,u.a,u.b,[],none,0⟩
  .exact a
 split
 .unfold D8;split
  .exact b ⟨4,Zc x.tb u.h,u.a,0,u.bs,none,0⟩
  .exact a
 split
 .unfold Gg;split
  .exact b ⟨2,Zc x.tb u.h,u.a,0,[],none,0⟩
  .exact a
 split
 .exact b ⟨5,0,0,0,[],none,0⟩
 .exact b ⟨6,u.a,u.b,0,[],none,0⟩
structure Hj(w9:dD)(r:HR)(x':HpM)(B:List Int)(r':HR)(a:Option Addr)(w:dD):Prop where
 hr:Al w r' x'
 rd:Rd .u8 w a B
 ch:Xc Xe w9 w
 bV:Dn w9 r r'
 lo:∀b off s,a=some ⟨b,off,s⟩->w9.heap.size<=b/\b<w.heap.size
def Kf(r':HR)(a:Option Addr)(b:Nat):Prop:=E1 (λz=>z=b) r'/\Xj (λz=>z=b) a
theorem Xma{w:dD}{r:HR}{x:HpM}(h:Al w r x)(hx:x.Ok c)(hc:r.s.c=c)(hsl:c.cN<=500)(u:Fh)(hu:Jq w u)(ht:0<=x.st.rm.tot/\x.st.rm.tot<=900000000000):∀w',Xc Xe w w'->Xf prog 12 #[.agg (En r).toArray,.agg (Hw u).toArray] w'
 (λv w2=>∃r' a cap,v=.tuple #[.agg (En r').toArray,.agg (Ly (Qm c x u) (Qn c x u) a (Z6 c x u).length cap (Y5 c x u)).toArray]/\Hj w r (Ze c x u) (Z6 c x u) r' a w2/\Xc Xe w' w2/\∀b,w.heap.size<=b->(b<w'.heap.size\/w2.heap.size<=b)->Kf r' a b):=by
 subst hc;intro w' d;refine(Xl9 (h.bQ d) hx hsl u (hu.bQ d) ht).mono ?_;rintro v w2 ⟨r',a,cap,e,i,f,j,g,k⟩;have m:=d.size;refine⟨r',a,cap,e,⟨j,i,d.trans k,g.dC m,λb off s e=>by have:=f b off s e;omega⟩,k,λb o l=>⟨?_,λb' off s e' n=>by have:=f b' off s e';omega⟩⟩;rcases l with hb'|hb'
 .exact⟨g.1.2.2 _ (λz e=>by omega) (h.s.out λz e=>by omega),g.2 _ (λz e=>by omega) (h.t.out λz e=>by omega)⟩
 .exact j.out λz e=>by omega
structure Eg(w9:dD)(r:HR)(x':HpM)(B:List Int)(r':HR)(a:Option Addr)(qb:Nat)(qc:List Value)(w:dD):Prop where
 d:Hj w9 r x' B r' a w
 box:w.heap[qb]?=some (.cells qc.toArray 47 (0,0))
 q0:w9.heap.size<=qb
 off:Kf r' a qb
structure F7(w9:dD)(r':HR)(a:Option Addr)(tb:Nat)(tc:List Value)(w:dD):Prop where
 box:w.heap[tb]?=some (.cells tc.toArray 58 (0,0))
 q0:w9.heap.size<=tb
 off:Kf r' a tb
section
variable {w9 w w':dD}{r r':HR}{x x':HpM}{B:List Int}{a:Option Addr}{qb tb:Nat}{qc qc' tc tc':List Value}
theorem Dn.out{w:dD}(h:Dn w r r')(hS:∀z,S z->z<w.heap.size)(ho:E1 S r):E1 S r':=⟨h.1.2.2 S hS ho.1,h.2 S hS ho.2⟩
theorem Hj.bQ(h:Hj w9 r x' B r' a w)(hc:Xc Xe w w'):Hj w9 r x' B r' a w':=⟨h.hr.bQ hc,h.rd.bR hc,h.ch.trans hc,h.bV,λb off s e=>by have:=h.lo b off s e;have:=hc.size;omega⟩
theorem Eg.bQ(h:Eg w9 r x' B r' a qb qc w)(hc:Xc Xe w w'):Eg w9 r x' B r' a qb qc w':=⟨h.d.bQ hc,hc.bP h.box,h.q0,h.off⟩
theorem F7.bQ(h:F7 w9 r' a tb tc w)(hc:Xc Xe w w'):F7 w9 r' a tb tc w':=⟨hc.bP h.box,h.q0,h.off⟩
theorem Hj.bW{b:Nat}(h:Hj w9 r x' B r' a w)(h0:Al w9 r x)(hb:w9.heap.size<=b)(ho:Kf r' a b)(hc:Xc (λz=>z=b) w w'):Hj w9 r x' B r' a w':=by
 have c:=h.ch.sn hc;refine⟨h.hr.bW ho.1 ?_ hc,h.rd.bW (λb' off s' e d=>ho.2 b' off s' e d) hc,c,h.bV,λb' off s e=>by have:=h.lo b' off s e;have:=hc.size;omega⟩;have:=h0.s.cO.bR c;rw[h.bV.1.1,h.bV.1.2.1];exact this
theorem Eg.st(h:Eg w9 r x' B r' a qb qc w)(h0:Al w9 r x)(hb:w'.heap[qb]?=some (.cells qc'.toArray 47 (0,0)))(hc:Xc (λz=>z=qb) w w'):Eg w9 r x' B r' a qb qc' w':=⟨h.d.bW h0 h.q0 h.off hc,hb,h.q0,h.off⟩
theorem Xd3(h:Eg w9 r x' B r' a qb qc w)(k:F7 w9 r' a tb tc w):¬qb=tb:=λe=>by
 have b:=h.box;rw[e,k.box] at b;cases b
theorem F7.st(k:F7 w9 r' a tb tc w)(h:Eg w9 r x' B r' a qb qc w)(hc:Xc (λz=>z=qb) w w'):F7 w9 r' a tb tc w':=⟨hc.heap k.box (λe=>Xd3 h k e.symm),k.q0,k.off⟩
theorem Eg.stY(h:Eg w9 r x' B r' a qb qc w)(k:F7 w9 r' a tb tc w)(h0:Al w9 r x)(hc:Xc (λz=>z=tb) w w'):Eg w9 r x' B r' a qb qc w':=⟨h.d.bW h0 k.q0 k.off hc,hc.heap h.box (Xd3 h k),h.q0,h.off⟩
end
def Db(t:TbM)(h:Int):Prop:=Da (Zl h) (Z1 h)=true/\Zl h<t.gen.length/\Z1 h<A9 t (Zl h)
section
variable {t:TbM}{cN cS:Int}{h:Int}
theorem Db.e(g:Db t h):X0 t h=6:=by
 obtain⟨a,b,c⟩:=g;unfold X0;rw[bJ (by rw[a];decide),bJ (by omega),bK c]
theorem Db.give(g:Db t h)(k:Int):Db (Cq t k) h:=by
 unfold Cq;split
 .refine⟨g.1,by show Zl h<((t.gen.set _ _).length:Nat);rw[XG];exact g.2.1,?_⟩;have a:=g.2.2;unfold A9 at a⊢;simp only
  rw[ZX];split
  .rename_i e
   rw[e];split
   .simp only[ZU];omega
   .rw[ZF (by omega)] at a;simp only[Option.getD_none] at a⊢;omega
  .exact a
 .exact g
theorem Db.take(g:Db t h):Db (Ee t) h:=by
 unfold Ee;split
 .exact g
 .exact g
theorem Xjk(ht:t.Ok cN cS)(he:X0 t h=0):Db (Cq t h) h:=by
 obtain⟨c,d,a,f,g,b,i⟩:=ht.tbE_ok he;have hm:Da (Zl h) (Z1 h)=true:=by
  cases hm:Da (Zl h) (Z1 h) with
  |true=>rfl
  |false=>unfold X0 at he;rw[bK hm] at he;omega
 have j:=ht.n;unfold Cq;rw[bK he];refine⟨hm,by show Zl h<((t.gen.set _ _).length:Nat);rw[XG];omega,?_⟩;have eg:A9 t (Zl h)=Z1 h:=by unfold A9;rw[b];rfl
 rw[eg];unfold A9;simp only
 rw[XH a];simp only[ZU];omega
end
section
variable {c:Conf}{x:HpM}
theorem Db.do{h:Int}(g:Db x.tb h)(u:Fh):Db (Ze c x u).tb h:=by
 unfold Ze;split
 .unfold Bl;split
  .exact g.take
  .exact g
 split
 .unfold A6;split
  .exact g.give _
  .exact g
 split
 .unfold D7;split <;> exact g
 split
 .unfold D8;split <;> exact g
 split
 .unfold Gg;split <;> exact g
 split <;> exact g
theorem XiP(u:Fh)(he:Qm c x u≠0):Ze c x u=x/\Qn c x u=0/\Z6 c x u=[]/\0<=Y5 c x u/\Y5 c x u<=1:=by
 unfold Qm at he;by_cases a:u.kind=1
 .rw[bK a] at he;have l:¬Hr c x u.a:=λg=>by
   unfold Cx at he;rw[bJ (by rw[g.1];decide),bJ g.2,g.1] at he;exact he rfl
  refine⟨?_,?_,?_,?_⟩
  .unfold Ze;rw[bK a];unfold Bl;rw[bJ l]
  .unfold Qn;rw[bK a];unfold D5;rw[bJ l]
  .unfold Z6;rw[bJ (by omega)]
  .unfold Y5;rw[bK a];unfold D6;rw[bJ l];decide
 rw[bJ a] at he;have j:Qn c x u=0:=by unfold Qn;rw[bJ a]
 by_cases d:u.kind=2
 .rw[bK d] at he;have b:Ze c x u=x:=by unfold Ze;rw[bJ a,bK d];unfold A6;rw[bJ he]
  refine⟨b,j,by unfold Z6;rw[bJ (by omega)],?_⟩;unfold Y5;rw[bJ a,bK d,bJ he,b,YI]
  decide
 rw[bJ d] at he;by_cases f:u.kind=3
 .rw[bK f] at he;unfold B9 at he;have b:Ze c x u=x:=by
   unfold Ze;rw[bJ a,bJ d,bK f];unfold D7;split
   .rename_i h
    rw[bK h] at he;unfold Co;rw[bJ he]
   .rfl
  refine⟨b,j,?_,?_⟩
  .unfold Z6;rw[bK f];unfold Jx;split
   .rename_i h
    rw[bK h] at he;unfold Cp;rw[bJ he]
   .rfl
  .unfold Y5;rw[bJ a,bJ d,bK (.inl f),b,YI]
   decide
 rw[bJ f] at he;have m:Z6 c x u=[]:=by unfold Z6;rw[bJ f]
 by_cases i:u.kind=4
 .rw[bK i] at he;unfold B9 at he;have b:Ze c x u=x:=by
   unfold Ze;rw[bJ a,bJ d,bJ f,bK i];unfold D8;split
   .rename_i h
    rw[bK h] at he;unfold C9;rw[bJ he]
   .rfl
  refine⟨b,j,m,?_⟩;unfold Y5;rw[bJ a,bJ d,bK (.inr (.inl i)),b,YI]
  decide
 rw[bJ i] at he;by_cases k:u.kind=5
 .rw[bK k] at he;unfold I3 at he;have b:Ze c x u=x:=by
   unfold Ze;rw[bJ a,bJ d,bJ f,bJ i,bK k];unfold Gg;split
   .rename_i h
    rw[bK h] at he;unfold Ag;rw[bK he]
   .rfl
  refine⟨b,j,m,?_⟩;unfold Y5;rw[bJ a,bJ d,bK (.inr (.inr k)),b,YI]
  decide
 rw[bJ k] at he;by_cases n:u.kind=6
 .rw[bK n] at he;exact absurd rfl he
 rw[bJ n] at he;have b:Ze c x u=x:=by
  unfold Ze;rw[bJ a,bJ d,bJ f,bJ i,bJ k,bJ n];unfold I4 C8;rw[bJ he]
 refine⟨b,j,m,?_⟩;unfold Y5;rw[bJ a,bJ d,bJ (by omega),b,YI]
 decide
end
def Sto.more(S:Sto)(g:Nat):Sto:={S with G:=λz=>S.G z\/z=g,R:={S.R with X:=λz=>z=S.kb\/S.G z\/z=g}}
theorem Xq.more{F Fr:Nat->Prop}{w w':dD}{S:Sto}{s:StM}{by':Int}{mo:Mo}(h:Xq F Fr w S s by' mo){X:Nat->Prop}(he:∀b,X b->Sx F w S b)(hc:Xc X w w'){g:Nat}(hg:w.heap.size<=g)(hg':g<w'.heap.size):Xq F Fr w' (S.more g) s by' mo:=by
 have k:=h.ones he hc;have int:∀b,X b->Go.Proofs.YtdeihcnepljjaaaGreatDoor.kd w b=some (some 3)->S.G b:=λb a d=>by
  obtain⟨t,j,_,_,l⟩:=(he b a).kd;exact l (Option.some.inj (Option.some.inj (j.symm.trans d)))
 obtain⟨al,m,n,p,r,u⟩:=h.th;refine {k with cW:={k.cW with lg:=?_,xl:=?_},th:=⟨al,m.bR hc (λe=>(he _ e).f h.f2.2.2.2.1),n,λo t ht=>?_,r,λz hz=>?_⟩,rX:=rfl}
 .refine(h.cW.lg.bQ (F':=(S.more g).R.FX Fr) (λz hz=>?_)).bR hc (λb d a=>.inr (.inr (.inl (int b a d)))) (λe=>(he _ e).f (h.f1 _ h.cW.lf));rcases hz with hz|hz|hz|hz
  .exact .inl (.inl hz)
  .exact .inl (.inr (by rw[h.rX];exact .inl hz))
  .exact .inl (.inr (by rw[h.rX];exact .inr hz))
  .exact .inr (by omega)
 .intro z hz;rcases hz with hz|hz|hz
  .exact k.cW.xl z (by rw[h.rX];exact .inl hz)
  .exact k.cW.xl z (by rw[h.rX];exact .inr hz)
  .exact⟨by omega,λv=>by have:=h.cW.low z v;omega⟩
 .obtain⟨q,x,y,f,A,c⟩:=p o t ht;have i:Xj X q.pa:=λb off s e a=>c.g b off s e (int b a (c.i b off s e));exact⟨q,x,y,⟨f.rd.bW i hc,f.len⟩,A,⟨(c.bR hc i).i,λb off s e hz=>hz.elim (c.g b off s e) (λe2=>by have:=Dg (c.i b off s e);omega)⟩⟩
 .exact hz.elim (λhz=>by have:=u z hz;omega) (λe=>by omega)
section
variable {c:Conf}{n0:Nat}{w0 w w':dD}{F F':Nat->Prop}{S S':Sto}{H:Nat}{P:Ap}{s:StM}{t:TbM}{x x':HpM}
theorem Hv.more(h:Hv c n0 w0 w F S H P x){X:Nat->Prop}(hX:∀q,X q->n0<=q/\w0.heap.size<=q/\¬F q/\¬Ac P q/\H≠q)(hk:∀q,X q->kd w q=some (some 3)/\S.G q)(hc:Xc X w w'){g:Nat}(hg:w.heap.size<=g)(hg':g<w'.heap.size):Hv c n0 w0 w' F (S.more g) H P x:=by
 have hm:=h.hm;obtain⟨Fr,mo,d⟩:=hm.lv.ok;obtain⟨f1,f2,f3,f4,f5,f6,f7,f8⟩:=hm.lv.fx;refine⟨⟨⟨⟨Fr,mo,d.more (λb a=>?_) hc hg hg'⟩,hm.lv.inv,hm.lv.sc,⟨f1,f2,f3,f4,f5,f6,f7,f8⟩,hm.lv.base,hm.lv.bR.bU hc (λz k e=>by have:=(hX z e).2.1;omega)⟩,hc.heap hm.obj (λe=>(hX _ e).2.2.2.2 rfl),hm.tb.bR hc (λe=>(hX _ e).2.2.2.1 (.inl rfl)) (λe=>(hX _ e).2.2.2.1 (.inr rfl)),hm.low,hm.out⟩,h.dA,h.ok⟩;obtain⟨l,m,f,_,_⟩:=hX b a;obtain⟨i,j⟩:=hk b a;exact⟨f,⟨by omega,by omega,by omega,by omega,by omega,by omega⟩,λoff s e=>by have:=f7 _ _ _ e;omega,λoff s e=>by have:=f8 _ _ _ e;omega,_,i,by decide,by decide,λ_=>j⟩
structure B6(base:Nat)(F:Nat->Prop)(S:Sto)(P:Ap)(x:HpM)(r:HR)(w:dD)(a:Option Addr)(cap:Nat)(gs:List Int)(k:Nat):Prop where
 own:Xl base 3 1 w (.slice a gs.length cap) gs.length (gs.map (Value.int .i64))
 g:∀b,C6 (.slice a gs.length cap) b->S.G b/\¬Zz F P b
 all:∀z∈gs,Db x.tb z/\-9223372036854775808<=z/\z<=9223372036854775807
 few:gs.length<=k
 out:E1 (C6 (.slice a gs.length cap)) r
 bl:base<=w.heap.size
variable {base:Nat}{a:Option Addr}{cap:Nat}{gs:List Int}{k:Nat}{r r':HR}
theorem B6.lt(h:B6 base F S P x r w a cap gs k){b:Nat}(hb:C6 (.slice a gs.length cap) b):base<=b/\b<w.heap.size:=World.ownsRow.lt h.own b hb.symm
theorem B6.bQ(h:B6 base F S P x r w a cap gs k)(hc:Xc Xe w w'):B6 base F S P x r w' a cap gs k:=⟨h.own.bR hc (λ_ _ h=>h),h.g,h.all,h.few,h.out,ZN h.bl hc.size⟩
theorem B6.box(h:B6 base F S P x r w a cap gs k){q:Nat}(hq:q<base)(hc:Xc (λz=>z=q) w w'):B6 base F S P x r w' a cap gs k:=⟨h.own.bR hc (λb c e=>by have:=(h.lt c).1;omega),h.g,h.all,h.few,h.out,ZN h.bl hc.size⟩
theorem B6.op(h:B6 base F S P x r w a cap gs k)(hc:Xc (Zz F P) w w')(hF:∀z,F' z->F z\/w.heap.size<=z)(hG:S'.G=S.G)(hx:∀z,Db x.tb z->Db x'.tb z):B6 base F' S' P x' r w' a cap gs k:=
 ⟨h.own.bR hc (λb c=>(h.g b c).2),λb c=>⟨by rw[hG];exact(h.g b c).1,λe=>e.elim (λe=>(hF b e).elim (λe=>(h.g b c).2 (.inl e)) (λe=>by have:=(h.lt c).2;omega)) (λe=>(h.g b c).2 (.inr e))⟩,λz d=>⟨hx z (h.all z d).1,(h.all z d).2⟩,h.few,h.out,ZN h.bl hc.size⟩
theorem B6.more(h:B6 base F S P x r w a cap gs k):B6 base F S P x r w a cap gs (k+1):=⟨h.own,h.g,h.all,by have:=h.few;omega,h.out,h.bl⟩
theorem B6.kd(h:B6 base F S P x r w a cap gs k){b:Nat}(hb:C6 (.slice a gs.length cap) b):Go.Proofs.YtdeihcnepljjaaaGreatDoor.kd w b=some (some 3):=by
 rcases h.own.2 with⟨e,_⟩|⟨g,c',cur,e,_,c,_⟩
 .unfold C6 at hb;rw[e] at hb;cases hb
 .unfold C6 at hb;rw[e] at hb;cases hb
  unfold Go.Proofs.YtdeihcnepljjaaaGreatDoor.kd;rw[c]
theorem Hv.app(h:Hv c n0 w0 w F S H P x)(g:B6 base F S P x r w a cap gs k)(hr:Al w r x')(hb:n0<=base/\w0.heap.size<=base/\H<base)(hs:Xc (C6 (.slice a gs.length cap)) w w')(ho:Xl base 3 1 w' v (gs.length+1) (gs.map (Value.int .i64)++[.int .i64 z]))(hv:v.ownBlock=(Value.slice a gs.length cap).ownBlock\/v.ownBlock=some w.heap.size)(hz:Db x.tb z/\-9223372036854775808<=z/\z<=9223372036854775807):∃S' q cap',v=.slice (some ⟨q,0,none⟩) (gs++[z]).length cap'/\Hv c n0 w0 w' F S' H P x/\B6 base F S' P x r w' (some ⟨q,0,none⟩) cap' (gs++[z]) (k+1):=by
 obtain⟨q,cap',cur,rfl,A,n,_⟩:=ho.form (by omega);have o:∀q,C6 (.slice a gs.length cap) q->n0<=q/\w0.heap.size<=q/\¬F q/\¬Ac P q/\H≠q:=λq d=>by
  obtain⟨B,C⟩:=g.lt d;exact⟨by omega,by omega,λe=>(g.g q d).2 (.inl e),λe=>(g.g q d).2 (.inr e),by omega⟩
 have eL:(gs++[z]).length=gs.length+1:=by rw[ZC];rfl
 have i:Xl base 3 1 w' (.slice (some ⟨q,0,none⟩) (gs++[z]).length cap') (gs++[z]).length ((gs++[z]).map (Value.int .i64)):=by rw[eL,XL];exact ho
 have j:∀y∈gs++[z],Db x.tb y/\-9223372036854775808<=y/\y<=9223372036854775807:=λy hy=>by
  rcases XS.1 hy with hy|hy
  .exact g.all y hy
  .rw[YH] at hy;subst hy;exact hz
 have p:=g.few;have l:=ZN g.bl hs.size;have f:∀b,C6 (.slice (some ⟨q,0,none⟩) (gs++[z]).length cap') b->b=q:=λb hb=>Option.some.inj hb;by_cases e:C6 (.slice a gs.length cap) q
 .refine⟨S,q,cap',by rw[eL],{h with hm:=h.hm.ones o (λq d=>⟨_,g.kd d,by decide,by decide,λ_=>(g.g q d).1⟩) hs},i,λb hb=>by rw[f b hb];exact g.g q e,j,by omega,?_,l⟩;have e2:C6 (.slice (some ⟨q,0,none⟩) (gs++[z]).length cap')=C6 (.slice a gs.length cap):=funext λb=>propext ⟨λhb=>by rw[f b hb];exact e,λhb=>by
   exact hb.trans e.symm⟩
  rw[e2];exact g.out
 .have eq':q=w.heap.size:=by
   rcases hv with hv|hv
   .exact absurd hv e
   .exact Option.some.inj hv
  subst eq';have s:=Xg n;have m:¬Zz F P w.heap.size:=λe=>by
   obtain⟨t,u⟩:=h.hm.tb.kd;rcases e with e|e|e
   .have:=h.hm.lv.low _ e;omega
   .have:=Dg t;omega
   .have:=Dg u;omega
  exact⟨S.more w.heap.size,w.heap.size,cap',by rw[eL],h.more o (λq d=>⟨g.kd d,(g.g q d).1⟩) hs (XF _) s,i,λb hb=>by rw[f b hb];exact⟨.inr rfl,m⟩,j,by omega,hr.out (λb hb=>by rw[f b hb];exact XF _),l⟩
theorem Bh.bW{p:Y4}{xb:Nat}(h:Bh c p n0 w0 w F P x r xb){Q:Nat->Prop}(ho:E1 Q r)(hQ:¬Q xb)(hcf:Yu w' c p)(hc:Xc Q w w'):Bh c p n0 w0 w' F P x r xb:=
 ⟨h.hr.bW ho (by rw[h.rc.1,h.rc.2];exact hcf) hc,h.rc,h.out,h.xr,hc.heap h.box hQ,h.xo⟩
end
theorem Xjj{c:Conf}{x:HpM}(g:Db x.tb h):A6 c x h=x:=by unfold A6;rw[bJ (by rw[g.e];decide)]
theorem Xeu{c:Conf}{x:HpM}{i m:Int}(g:Db x.tb h):D7 c x h i m=x/\B9 x h i m=6:=by
 refine⟨?_,?_⟩
 .unfold D7;rw[bJ (by rw[g.e];decide)]
 .unfold B9;rw[bJ (by rw[g.e];decide),g.e]
theorem XiX(h:Mg c=true):c.cN<=20:=by
 unfold Mg at h;simp only[XK,decide_eq_true_eq] at h;exact h.2
theorem law_HeapRefuses(c:Conf)(p:Y4)(sa:Option Addr)(sc:Nat)(xs:List Fh)(n:Int)(w:dD)(ht:Bi w)(hc:Yu w c p)(hrs:Rows Hw 5 w sa xs)(hl:xs.length<=9223372036854775807)(hxs:∀x∈xs,Jq w x)(hn : -9223372036854775808<=n/\n<=9223372036854775807):Xf prog 5 #[.agg (Zj c p).toArray,.slice sa xs.length sc,.int .i64 n] w (Grow (.bool true) w):=by
 refine aR func5 ntmps5 aA (bC aA λcb w1 e1 cz c8 es=>?_);refine bG (XjL w1 (ht.bQ c8)) aA λK c9=>?_;have b8:=c8.trans c9;have b9:=c9.bP cz;refine bB b9 aA (bG (Xln c p K (hc.bR b8)) aA λw3 ca=>?_);have M:=b8.trans ca;cases hf:Mg c with
 |false=>
  exact bI aA (bE func5 aA ⟨rfl,M⟩)
 |true=>
 obtain⟨hm,et,eu⟩:=XiW hf;have ew:=XiX hf;refine aS aA (aP aA (Xmb sa sc xs w3 (hrs.bR M) hl) ?_);rintro _ w4 ⟨b0,rfl,d0,rfl⟩;refine aN aA (aT aA (λg0=>?_) λg0=>?_)
 .exact bE func5 aA ⟨rfl,M⟩
 obtain⟨ef,c5⟩:=d0 (by simpa using g0);have ak:=hc.bR M;refine bB (ca.bP b9) aA (aP aA (XjM c p w3 ak (ht.bQ M) hm (by omega) (by omega)) ?_);rintro _ w5 ⟨n0,F,S,H,P,r,rfl,h5,ex,bb,cr,d5⟩;have ey:=h5.hm.lv.bR.size;refine aN aA (bC aA λxb w6 e6 d6 d7 ez=>bF d6 aA λw7 ct d8 f0=>?_);have bc:=d7.sn d8;have lxb:¬Zz F P xb:=λhz=>by
  rcases hz with hz|hz|hz
  .have:=h5.hm.lv.low _ hz;omega
  .have:=Dg h5.hm.tb.kd.1;omega
  .have:=Dg h5.hm.tb.kd.2;omega
 have f1:n0<=w5.heap.size:=by have:=Dg h5.hm.tb.kd.1;have:=h5.hm.low;omega
 have f2:=Xg h5.hm.obj;have d9:Bh c p n0 w3 w7 F P (Gj c) r xb:=⟨bb.bQ bc,cr,d5,bb.out (λz e=>by omega),ct,by omega,by omega,lxb⟩;obtain⟨N7,f3⟩:∃N7,N7=w7.heap.size:=⟨_,rfl⟩;have db:n0<=N7/\w3.heap.size<=N7/\H<N7:=by omega
 have dc:xb<N7:=by omega
 have c6:B6 N7 F S P (Gj c) r w7 none 0 [] 0:=⟨World.ownsRow_nil _ _ _ _,λb hb=>(by cases hb),λz hz=>(by cases hz),XF _,bb.out λb hb=>(by cases hb),by omega⟩;refine Xa.loop (α:=Nat×Option Addr×Nat×List Int) (λy=>[(1,false,.slice sa xs.length sc),(2,false,.int .i64 n),(7,false,.bool true),(8,false,Cj H),(9,false,.pointer (some ⟨xb,0,none⟩)),(10,false,.slice y.2.1 y.2.2.2.length y.2.2.1),(11,false,.int .i64 y.1)])
  (λy w'=>y.1<=xs.length/\∃F S x r,Hv c n0 w3 w' F S H P x/\Bh c p n0 w3 w' F P x r xb/\(0<=x.st.rm.tot/\x.st.rm.tot<=y.1*1000000000)/\B6 N7 F S P x r w' y.2.1 y.2.2.1 y.2.2.2 y.1) (λy=>xs.length-y.1) (0,none,0,[]) ⟨rfl,rfl,rfl,rfl,rfl,rfl,rfl,trivial⟩ ⟨XQ _,F,S,_,r,(h5.bQ bc),d9,⟨QN _,QN _⟩,c6⟩ ?_
 rintro⟨k,ga,gc,gs⟩ w8 ⟨hk,F8,S8,d,r9,h8,ar,⟨f4,cv⟩,ad⟩ ih;simp only at hk cv ad
 have ej:=ad.few;refine aN aA (aT aA (λI=>?_) λI=>?_)
 .have I:=bL I;have bd:k<xs.length:=by omega
  obtain⟨sb,so,rfl,ab⟩:=hrs.at bd;refine bH (XaU h8.hm) aA (bG (XaT h8.hm) aA λwl be=>?_);replace h8:=h8.bQ be;replace ar:=ar.bQ be;replace ad:=ad.bQ be;have bf:=M.trans h8.hm.lv.bR;have hu:=hxs _ (XM bd);refine aU (k*5) aA (Xa.loadC Xb ((Hw xs[k])) rfl (by first|rfl|(simp;done)|(simp[*];done)|(simp;omega)) ((λj v e=>Mc bf.below (ab j v e))) rfl ?_);have cw:0<xs[k].bs.length->Xj F8 xs[k].ba:=λde b off s e hz=>by
   obtain⟨b',off',e',bg⟩:=hu.rd 0 de;rw[e] at e';cases e'
   have:=World.block_lt_of_cell? w _ bg;have:=h8.hm.lv.base b hz;have:=M.size;have:b<w.heap.size:=by assumption
   omega
  refine aP aA (XjN h8 xs[k] (hu.bQ bf) (c5 _ (XM bd)).2 cw) ?_;rintro _ w9 ⟨bv,F9,S9,rfl,⟨ba,bcap,rfl,f5,f6⟩,h9,cc,cd,df⟩;refine aN aA ?_;refine bC aA λvb wa ea dg dh f7=>bF dg aA λwv V di f8=>?_;have bh:=dh.sn di;have ae:=h9.bQ bh;have bi:=(ar.prog (ak.bR h9.hm.lv.bR) cc cd).bQ bh;have bj:=(ad.op cd cc df (λz g=>Db.do (c:=c) g xs[k])).bQ bh;apply Xa.cut (α:=Sto×Option Addr×Nat×List Int) (λy=>[(1,false,.slice (some ⟨sb,so,none⟩) xs.length sc),(2,false,.int .i64 n),(7,false,.bool true),(8,false,Cj H),(9,false,.pointer (some ⟨xb,0,none⟩)),(10,false,.slice y.2.1 y.2.2.2.length y.2.2.1),(11,false,.int .i64 k)])
   (λy w'=>Hv c n0 w3 w' F9 y.1 H P (Ze c d xs[k])/\Bh c p n0 w3 w' F9 P d r9 xb/\B6 N7 F9 y.1 P (Ze c d xs[k]) r9 w' y.2.1 y.2.2.1 y.2.2.2 (k+1))
  .intro J;by_cases he:Qm c d xs[k]=0
   .have f9:∀{w'},Xc Xe wv w'->w'.heap[vb]?=_:=λh=>h.bP V;refine bB V aA ?_;rw[he];refine aS aA (bB V aA ?_);rw[he];refine bI aA (aU (k*5) aA (aW aA (Mc (M.trans ae.hm.lv.bR).below (ab 0 _ rfl)) aA ?_));by_cases ce:xs[k].kind=2
    .refine bI aA (aU (k*5) aA (aW aA (Mc (M.trans ae.hm.lv.bR).below (ab 1 _ rfl)) aA (Xa.buildSlice Xb rfl λfa wb eb dj bk fb=>aN aA ?_)));have au:=bj.bQ bk;have cf:=bi.bQ bk;refine Xa.append (base:=N7) (xs:=gs.map (Value.int .i64)) (news:=[.int .i64 xs[k].h]) Xb rfl au.own au.bl (by simp) (Gv dj) (by simp[Value.oneCell']) (by have fc:maxLen=9223372036854775807:=rfl;simp only;omega) ?_;intro gv wc dk cg dl;have ch:X0 d.tb xs[k].h=0:=by
      unfold Qm at he;rw[bJ (by omega),bK ce] at he;exact he
     have ag:Db (Ze c d xs[k]).tb xs[k].h:=by
      have:=Xjk h8.ok.tb ch;unfold Ze;rw[bJ (by omega),bK ce];unfold A6;rw[bK ch];exact this
     obtain⟨S',q,cap',rfl,bm,dm⟩:=Hv.app (ae.bQ bk) au cf.hr db cg dk dl.2 ⟨ag,hu.h⟩;exact aN aA (J (S',some ⟨q,0,none⟩,cap',gs++[xs[k].h]) wc _ ⟨bm,(cf.bW au.out (λe=>by have:=(au.lt e).1;omega) (ak.bR bm.hm.lv.bR) cg),dm⟩ ⟨rfl,rfl,rfl,rfl,rfl,rfl,rfl,trivial⟩)
    .exact aS aA (J (S9,ga,gc,gs) wv _ ⟨ae,bi,bj.more⟩ ⟨rfl,rfl,rfl,rfl,rfl,rfl,rfl,trivial⟩)
   .obtain⟨d1,d2,d3,_,_⟩:=XiP (c:=c) xs[k] he;refine bB V aA (bI aA (bH (XaU ae.hm) aA ?_));rw[d1];refine aS aA ?_;have ci:=XaT ae.hm;rw[d1] at ci;refine bG ci aA λwh al=>aS aA (bB (al.bP V) aA ?_);rw[d2];refine aS aA (bB (al.bP V) aA ?_);rw[d3];exact aS aA (bB (al.bP V) aA (aS aA (J (S9,ga,gc,gs) wh _ ⟨ae.bQ al,bi.bQ al,(bj.bQ al).more⟩ ⟨rfl,rfl,rfl,rfl,rfl,rfl,rfl,trivial⟩)))
  rintro⟨dp,bn,bo,bp⟩ l ⟨ah,f,am⟩;simp only at ah f am
  have b3:=M.trans ah.hm.lv.bR;have b7:∀i v,(Hw xs[k])[i]?=some v->l.cell? ⟨sb,so+k*5+i,none⟩=some v:=λi v hv=>b3.cell (ab i v hv) id;have hD:=Xma f.hr h8.ok f.rc.1 (by omega) xs[k] (hu.bQ b3) (by omega);apply Xa.cut (α:=HR×Option Addr×Nat×Nat×Nat) (λy=>[(1,false,.slice (some ⟨sb,so,none⟩) xs.length sc),(2,false,.int .i64 n),(7,false,.bool true),(8,false,Cj H),(9,false,.pointer (some ⟨xb,0,none⟩)),(10,false,.slice bn bp.length bo),(11,false,.int .i64 k),(15,false,.pointer (some ⟨y.2.2.2.1,0,none⟩)),(16,false,.pointer (some ⟨y.2.2.2.2,0,none⟩))]++[(104,false,.agg (Ly (Qm c d xs[k]) (Qn c d xs[k]) y.2.1 (Z6 c d xs[k]).length y.2.2.1 (Y5 c d xs[k])).toArray)])
   (λy w'=>Eg l r9 (Ze c d xs[k]) (Z6 c d xs[k]) y.1 y.2.1 y.2.2.2.1 (En y.1) w'/\F7 l y.1 y.2.1 y.2.2.2.2 [.int .i64 0,.int .i64 0,.slice none 0 0,.int .i64 0] w')
  .intro J;refine aQ 12 Xe (by kernel_rfl) aA λt=>aE t f.box aA (aB (k*5) t aA (Xd.loadC Xb t ((Hw xs[k])) rfl (by first|rfl|(simp;done)|(simp[*];done)|(simp;omega)) (b7) (by first|exact λh=>h|(intro h;omega)|assumption) rfl ?_));refine Xd.turn3 t rfl ?_ ?_ ?_
   .intro wa k1;have T:=hD _ k1;refine Xn.call (Post:=λv K=>∃r' a cap,v=.tuple #[.agg (En r').toArray,.agg (Ly (Qm c d xs[k]) (Qn c d xs[k]) a (Z6 c d xs[k]).length cap (Y5 c d xs[k])).toArray]/\Hj l r9 (Ze c d xs[k]) (Z6 c d xs[k]) r' a K/\Xc Xe wa K/\∀b,l.heap.size<=b->(b<(wa).heap.size\/K.heap.size<=b)->Kf r' a b) rfl T.fn (λh0=>T.mono λv K ⟨r',a,cap,e1,e2,e3,e4⟩=>⟨h0.trans e3,r',a,cap,e1,e2,e3,e4⟩) ?_;rintro _ wb q0 ⟨rr,da,dcap,rfl,A,q1,D⟩;refine Xd.adv Xb t rfl ?_;refine Xd.turn2 t rfl ?_ ?_
    .intro wc G;have ao:=(((k1.trans q1).trans G)).size;refine Xn.alloc Xb t rfl (λ_=>rfl) ?_;intro qb wd eqb B q2 b4;have N:l.heap.size<=qb:=by omega
     refine Xd.cK t rfl ?_;intro we Q;have ap:=(((((k1.trans q1).trans G).trans q2).trans Q)).size;refine Xn.alloc Xb t rfl (λ_=>rfl) ?_;intro tb wf etb C q3 av;have O:l.heap.size<=tb:=by omega
     have y2:=G.size;have y4:=Q.size;have E:=Q.trans q3;have I:=(G.trans q2).trans E;have hX:Eg l r9 (Ze c d xs[k]) (Z6 c d xs[k]) rr da qb _ wf:=⟨by first|exact A|exact A.bQ E|exact A.bQ I,by first|exact B|exact E.bP B|exact I.bP B,N,D qb N (by first|(right;omega)|(left;omega))⟩;have U:F7 l rr da tb _ wf:=⟨by first|exact C|exact E.bP C|exact I.bP C,O,D tb O (by first|(right;omega)|(left;omega))⟩;refine Xd.cK t rfl ?_;intro wg R;have o:=hX.bQ R;refine Xn.store Xb t rfl o.box (by first|(intro h;exact rfl)|(intro h;omega)) rfl rfl rfl ?_;intro wh L u aw;refine aF t aA λwz az=>?_;exact J (rr,da,dcap,qb,tb) wz _ ⟨((o.st f.hr L u)).bQ az,(((U.bQ R).st o u)).bQ az⟩ (by repeat (first|exact trivial|refine⟨rfl,?_⟩))
    .intro wc G;have ap:=(((k1.trans q1).trans G)).size;refine Xn.alloc Xb t rfl (λ_=>rfl) ?_;intro tb wd etb C q2 av;have O:l.heap.size<=tb:=by omega
     refine Xd.cK t rfl ?_;intro we Q;have ao:=(((((k1.trans q1).trans G).trans q2).trans Q)).size;refine Xn.alloc Xb t rfl (λ_=>rfl) ?_;intro qb wf eqb B q3 b4;have N:l.heap.size<=qb:=by omega
     have y2:=G.size;have y4:=Q.size;have E:=Q.trans q3;have I:=(G.trans q2).trans E;have hX:Eg l r9 (Ze c d xs[k]) (Z6 c d xs[k]) rr da qb _ wf:=⟨by first|exact A|exact A.bQ E|exact A.bQ I,by first|exact B|exact E.bP B|exact I.bP B,N,D qb N (by first|(right;omega)|(left;omega))⟩;have U:F7 l rr da tb _ wf:=⟨by first|exact C|exact E.bP C|exact I.bP C,O,D tb O (by first|(right;omega)|(left;omega))⟩;refine Xd.cK t rfl ?_;intro wg R;have o:=hX.bQ R;refine Xn.store Xb t rfl o.box (by first|(intro h;exact rfl)|(intro h;omega)) rfl rfl rfl ?_;intro wh L u aw;refine aF t aA λwz az=>?_;exact J (rr,da,dcap,qb,tb) wz _ ⟨((o.st f.hr L u)).bQ az,(((U.bQ R).st o u)).bQ az⟩ (by repeat (first|exact trivial|refine⟨rfl,?_⟩))
   .intro wa k1;have ao:=(k1).size;refine Xn.alloc Xb t rfl (λ_=>rfl) ?_;intro qb wb eqb B q1 b4;have N:l.heap.size<=qb:=by omega
    refine Xd.turn2 t rfl ?_ ?_
    .intro wc G;have T:=hD _ ((k1.trans q1).trans G);refine Xn.call (Post:=λv K=>∃r' a cap,v=.tuple #[.agg (En r').toArray,.agg (Ly (Qm c d xs[k]) (Qn c d xs[k]) a (Z6 c d xs[k]).length cap (Y5 c d xs[k])).toArray]/\Hj l r9 (Ze c d xs[k]) (Z6 c d xs[k]) r' a K/\Xc Xe wc K/\∀b,l.heap.size<=b->(b<(wc).heap.size\/K.heap.size<=b)->Kf r' a b) rfl T.fn (λh0=>T.mono λv K ⟨r',a,cap,e1,e2,e3,e4⟩=>⟨h0.trans e3,r',a,cap,e1,e2,e3,e4⟩) ?_;rintro _ wd q0 ⟨rr,da,dcap,rfl,A,q2,D⟩;refine Xd.adv Xb t rfl (Xd.cK t rfl λwe Q=>?_);have ap:=(((((k1.trans q1).trans G).trans q2).trans Q)).size;refine Xn.alloc Xb t rfl (λ_=>rfl) ?_;intro tb wf etb C q3 av;have O:l.heap.size<=tb:=by omega
     have y2:=G.size;have y4:=Q.size;have E:=Q.trans q3;have I:=(G.trans q2).trans E;have hX:Eg l r9 (Ze c d xs[k]) (Z6 c d xs[k]) rr da qb _ wf:=⟨by first|exact A|exact A.bQ E|exact A.bQ I,by first|exact B|exact E.bP B|exact I.bP B,N,D qb N (by first|(right;omega)|(left;omega))⟩;have U:F7 l rr da tb _ wf:=⟨by first|exact C|exact E.bP C|exact I.bP C,O,D tb O (by first|(right;omega)|(left;omega))⟩;refine Xd.cK t rfl ?_;intro wg R;have o:=hX.bQ R;refine Xn.store Xb t rfl o.box (by first|(intro h;exact rfl)|(intro h;omega)) rfl rfl rfl ?_;intro wh L u aw;refine aF t aA λwz az=>?_;exact J (rr,da,dcap,qb,tb) wz _ ⟨((o.st f.hr L u)).bQ az,(((U.bQ R).st o u)).bQ az⟩ (by repeat (first|exact trivial|refine⟨rfl,?_⟩))
    .intro wc G;have ap:=(((k1.trans q1).trans G)).size;refine Xn.alloc Xb t rfl (λ_=>rfl) ?_;intro tb wd etb C q2 av;have O:l.heap.size<=tb:=by omega
     refine Xd.cK t rfl ?_;intro we Q;have T:=hD _ ((((k1.trans q1).trans G).trans q2).trans Q);refine Xn.call (Post:=λv K=>∃r' a cap,v=.tuple #[.agg (En r').toArray,.agg (Ly (Qm c d xs[k]) (Qn c d xs[k]) a (Z6 c d xs[k]).length cap (Y5 c d xs[k])).toArray]/\Hj l r9 (Ze c d xs[k]) (Z6 c d xs[k]) r' a K/\Xc Xe we K/\∀b,l.heap.size<=b->(b<(we).heap.size\/K.heap.size<=b)->Kf r' a b) rfl T.fn (λh0=>T.mono λv K ⟨r',a,cap,e1,e2,e3,e4⟩=>⟨h0.trans e3,r',a,cap,e1,e2,e3,e4⟩) ?_;rintro _ wf q0 ⟨rr,da,dcap,rfl,A,q3,D⟩;refine Xd.adv Xb t rfl ?_;have y2:=G.size;have y4:=Q.size;have E:=Q.trans q3;have I:=(G.trans q2).trans E;have hX:Eg l r9 (Ze c d xs[k]) (Z6 c d xs[k]) rr da qb _ wf:=⟨by first|exact A|exact A.bQ E|exact A.bQ I,by first|exact B|exact E.bP B|exact I.bP B,N,D qb N (by first|(right;omega)|(left;omega))⟩;have U:F7 l rr da tb _ wf:=⟨by first|exact C|exact E.bP C|exact I.bP C,O,D tb O (by first|(right;omega)|(left;omega))⟩;refine Xd.cK t rfl ?_;intro wg R;have o:=hX.bQ R;refine Xn.store Xb t rfl o.box (by first|(intro h;exact rfl)|(intro h;omega)) rfl rfl rfl ?_;intro wh L u aw;refine aF t aA λwz az=>?_;exact J (rr,da,dcap,qb,tb) wz _ ⟨((o.st f.hr L u)).bQ az,(((U.bQ R).st o u)).bQ az⟩ (by repeat (first|exact trivial|refine⟨rfl,?_⟩))
   .intro wa k1;have ap:=(k1).size;refine Xn.alloc Xb t rfl (λ_=>rfl) ?_;intro tb wb etb C q1 av;have O:l.heap.size<=tb:=by omega
    refine Xd.turn2 t rfl ?_ ?_
    .intro wc G;have T:=hD _ ((k1.trans q1).trans G);refine Xn.call (Post:=λv K=>∃r' a cap,v=.tuple #[.agg (En r').toArray,.agg (Ly (Qm c d xs[k]) (Qn c d xs[k]) a (Z6 c d xs[k]).length cap (Y5 c d xs[k])).toArray]/\Hj l r9 (Ze c d xs[k]) (Z6 c d xs[k]) r' a K/\Xc Xe wc K/\∀b,l.heap.size<=b->(b<(wc).heap.size\/K.heap.size<=b)->Kf r' a b) rfl T.fn (λh0=>T.mono λv K ⟨r',a,cap,e1,e2,e3,e4⟩=>⟨h0.trans e3,r',a,cap,e1,e2,e3,e4⟩) ?_;rintro _ wd q0 ⟨rr,da,dcap,rfl,A,q2,D⟩;refine Xd.adv Xb t rfl (Xd.cK t rfl λwe Q=>?_);have ao:=(((((k1.trans q1).trans G).trans q2).trans Q)).size;refine Xn.alloc Xb t rfl (λ_=>rfl) ?_;intro qb wf eqb B q3 b4;have N:l.heap.size<=qb:=by omega
     have y2:=G.size;have y4:=Q.size;have E:=Q.trans q3;have I:=(G.trans q2).trans E;have hX:Eg l r9 (Ze c d xs[k]) (Z6 c d xs[k]) rr da qb _ wf:=⟨by first|exact A|exact A.bQ E|exact A.bQ I,by first|exact B|exact E.bP B|exact I.bP B,N,D qb N (by first|(right;omega)|(left;omega))⟩;have U:F7 l rr da tb _ wf:=⟨by first|exact C|exact E.bP C|exact I.bP C,O,D tb O (by first|(right;omega)|(left;omega))⟩;refine Xd.cK t rfl ?_;intro wg R;have o:=hX.bQ R;refine Xn.store Xb t rfl o.box (by first|(intro h;exact rfl)|(intro h;omega)) rfl rfl rfl ?_;intro wh L u aw;refine aF t aA λwz az=>?_;exact J (rr,da,dcap,qb,tb) wz _ ⟨((o.st f.hr L u)).bQ az,(((U.bQ R).st o u)).bQ az⟩ (by repeat (first|exact trivial|refine⟨rfl,?_⟩))
    .intro wc G;have ao:=(((k1.trans q1).trans G)).size;refine Xn.alloc Xb t rfl (λ_=>rfl) ?_;intro qb wd eqb B q2 b4;have N:l.heap.size<=qb:=by omega
     refine Xd.cK t rfl ?_;intro we Q;have T:=hD _ ((((k1.trans q1).trans G).trans q2).trans Q);refine Xn.call (Post:=λv K=>∃r' a cap,v=.tuple #[.agg (En r').toArray,.agg (Ly (Qm c d xs[k]) (Qn c d xs[k]) a (Z6 c d xs[k]).length cap (Y5 c d xs[k])).toArray]/\Hj l r9 (Ze c d xs[k]) (Z6 c d xs[k]) r' a K/\Xc Xe we K/\∀b,l.heap.size<=b->(b<(we).heap.size\/K.heap.size<=b)->Kf r' a b) rfl T.fn (λh0=>T.mono λv K ⟨r',a,cap,e1,e2,e3,e4⟩=>⟨h0.trans e3,r',a,cap,e1,e2,e3,e4⟩) ?_;rintro _ wf q0 ⟨rr,da,dcap,rfl,A,q3,D⟩;refine Xd.adv Xb t rfl ?_;have y2:=G.size;have y4:=Q.size;have E:=Q.trans q3;have I:=(G.trans q2).trans E;have hX:Eg l r9 (Ze c d xs[k]) (Z6 c d xs[k]) rr da qb _ wf:=⟨by first|exact A|exact A.bQ E|exact A.bQ I,by first|exact B|exact E.bP B|exact I.bP B,N,D qb N (by first|(right;omega)|(left;omega))⟩;have U:F7 l rr da tb _ wf:=⟨by first|exact C|exact E.bP C|exact I.bP C,O,D tb O (by first|(right;omega)|(left;omega))⟩;refine Xd.cK t rfl ?_;intro wg R;have o:=hX.bQ R;refine Xn.store Xb t rfl o.box (by first|(intro h;exact rfl)|(intro h;omega)) rfl rfl rfl ?_;intro wh L u aw;refine aF t aA λwz az=>?_;exact J (rr,da,dcap,qb,tb) wz _ ⟨((o.st f.hr L u)).bQ az,(((U.bQ R).st o u)).bQ az⟩ (by repeat (first|exact trivial|refine⟨rfl,?_⟩))
  rintro⟨r',da,dcap,qb,tb⟩ wz ⟨hX,U⟩;simp only at hX U
  refine bF U.box aA λwt fd dq av=>?_;have a8:=hX.stY U f.hr dq;have bt:=a8.d.ch;have cj:=bt.bP f.box;have eo:=Xg f.box;have cy:∀z,Zz F9 P z->z<l.heap.size:=λz hz=>by
   rcases hz with hz|hz|hz
   .exact ah.hm.lv.low _ hz
   .have:=Dg ah.hm.tb.kd.1;omega
   .have:=Dg ah.hm.tb.kd.2;omega
  refine bB a8.box aA (bF cj aA λwu dr bu fe=>?_);have ck:=a8.d.bV.out (S:=λz=>z=xb) (λz e=>by omega) f.xr;have ds:¬H=xb:=λe=>by
   have k:=X1 ah.hm.obj;rw[e,X1 f.box] at k;exact absurd (Option.some.inj (Option.some.inj k)) (by decide)
  have cl:=Hv.boxed (ah.bQ bt) (λg=>f.xo.2.2 (.inl g)) ⟨f.xo.1,f.xo.2.1⟩ ⟨λg=>f.xo.2.2 (.inr g),ds⟩ (X1 cj) (by decide) bu;have ecf:r'.s.c=c/\r'.s.cp=p:=⟨a8.d.bV.1.1.trans f.rc.1,a8.d.bV.1.2.1.trans f.rc.2⟩;have dt:Bh c p n0 w3 wu F9 P (Ze c d xs[k]) r' xb:=⟨(a8.d.hr.bW ck (by rw[ecf.1,ecf.2];exact ak.bR cl.hm.lv.bR) bu),ecf,a8.d.bV.out cy f.out,ck,dr,f.xo⟩;have du:=XnP h8.ok xs[k] (by omega);exact aV aA (ih (k+1,bn,bo,bp) _ _ ⟨by show k+1<=_;omega,F9,dp,_,r',cl,dt,⟨du.1,by show _<=((k+1:Nat):Int)*1000000000;omega⟩,({((am.bQ bt).box dc bu) with out:=a8.d.bV.out (λz hz=>(am.lt hz).2) am.out})⟩ (by show xs.length-(k+1)<xs.length-k;omega) ⟨rfl,rfl,rfl,rfl,rfl,rfl,rfl,trivial⟩)
 .refine Xa.loop (α:=Nat) (λi=>[(2,false,.int .i64 n),(7,false,.bool true),(8,false,Cj H),(9,false,.pointer (some ⟨xb,0,none⟩)),(10,false,.slice ga gs.length gc),(17,false,.int .i64 i)])
   (λi w'=>i<=gs.length/\∃F S,Hv c n0 w3 w' F S H P d/\Bh c p n0 w3 w' F P d r9 xb/\B6 N7 F S P d r9 w' ga gc gs k) (λi=>gs.length-i) 0 ⟨rfl,rfl,rfl,rfl,rfl,rfl,trivial⟩ ⟨XQ _,F8,S8,h8,ar,ad⟩ ?_
  clear h8 ar ad
  rintro i w9 ⟨hi,F9,S9,h9,bw,b5⟩ dv;refine aN aA (aT aA (λE=>?_) λE=>?_)
  .have E:=bL E;have cm:i<gs.length:=by omega
   obtain⟨q,cap',cur,eq',ff,fg,_⟩:=b5.own.form (by omega);cases eq'
   obtain⟨ag,bx⟩:=b5.all _ (XM cm);have cellG:∀{F S w'},B6 N7 F S P d r9 w' (some ⟨q,0,none⟩) gc gs k->w'.cell? ⟨q,0+i*1,none⟩=some (.int .i64 gs[i]):=λ{F S w'} g=>by
    have:=World.ownsRow.cells g.own (g:=q) rfl i (.int .i64 gs[i]) (by rw[XN,XD cm];rfl);rw[Cr] at this;rw[ZQ];exact this
   refine aU (i*1) aA (aW aA (cellG b5) aA ?_);have W:=T0 h9 gs[i] bx;rw[Xjj ag,ag.e] at W;refine aP aA (W) ?_;rintro _ dw ⟨dx,F1,S1,rfl,bz,ax,c0,c1,cn⟩;refine aN aA ?_;obtain⟨dy,dz,rfl,-,-⟩:=bz;have co:=b5.op c1 c0 cn (λ_ h=>h);refine Xa.fld Xb rfl rfl (aS aA (aU (i*1) aA (aW aA (cellG co) aA ?_)));have W:=XaV ax gs[i] 0 0 bx (by decide) (by decide);rw[(Xeu (c:=c) ag).1,(Xeu (c:=c) ag).2] at W;refine aP aA (W) ?_;rintro _ e0 ⟨e5,F2,S2,rfl,c2,ay,c3,c4,cp⟩;refine aN aA ?_;obtain⟨e9,ec,rfl,-,-⟩:=c2;have cq:=co.op c4 c3 cp (λ_ h=>h);refine Xa.fld Xb rfl rfl (aS aA (aU (i*1) aA (aW aA (cellG cq) aA ?_)));have W:=Xjt ay.hm gs[i] bx;rw[bJ (by rw[ag.e];decide)] at W;exact bG W aA λwy b1=>aS aA (aV aA (dv (i+1) _ _ ⟨by omega,F2,S2,ay.bQ b1,((bw.prog (ak.bR ax.hm.lv.bR) c0 c1).prog (ak.bR ay.hm.lv.bR) c3 c4).bQ b1,cq.bQ b1⟩ (by omega) ⟨rfl,rfl,rfl,rfl,rfl,rfl,trivial⟩))
  .refine bB bw.box aA (bG (Uz bw.hr.t h9.ok.tb n hn) aA λwy b1=>?_);have hy:=h9.bQ b1;refine bI aA ?_;by_cases he:X0 d.tb n=0
   .rw[he];exact bI aA (bE func5 aA ⟨rfl,(M.trans hy.hm.lv.bR)⟩)
   .refine aS aA ?_;have eR:∀i m,B9 d n i m=X0 d.tb n:=λi m=>by unfold B9;rw[bJ he]
    have W:=XaW hy n 0 none 0 [] hn (by decide) (Rd.nil _ _ _) (XF _) (by decide) (λx h=>by cases h) (λh=>absurd h (by decide));rw[eR] at W;refine aP aA (W) ?_;rintro _ dw ⟨dx,F1,S1,rfl,bz,ax,c0,c1,cn⟩;refine aN aA ?_;obtain⟨dy,dz,rfl,-,-⟩:=bz;refine Xa.fld Xb rfl rfl (bI aA ?_);have eX:D8 c d n 0 []=d:=by unfold D8;rw[bJ he]
    rw[eX] at ax;have W:=Xey ax n 1 hn;rw[show I3 c d n 1=X0 d.tb n by unfold I3;rw[bJ he]] at W;refine aP aA (W) ?_;rintro _ e0 ⟨e5,F2,S2,rfl,c2,ay,c3,c4,cp⟩;refine aN aA ?_;obtain⟨e9,ec,rfl,-,-⟩:=c2;exact Xa.fld Xb rfl rfl (bE func5 aA ⟨congrArg Value.bool (beq_self_eq_true _),M.trans ay.hm.lv.bR⟩)
end Go.Proofs.YtdeihcnepljjaaaGreatDoor
