/-
  Texts put together: Ref20g, Ref20h, Ref20i, RmBack, RmOwn, Qa, Top13, RmPlan, Arena, Arena2, View, View2, Chain, Chain2, View3, View4.
-/
import Derived.Test.YtdeihcnepljjaaaGreatDoorPt4
import Derived.Test.YtdeihcnepljjaaaGreatDoorQRule25
import Derived.Test.YtdeihcnepljjaaaGreatDoorQRule7
import Derived.Test.YtdeihcnepljjaaaGreatDoorQRule11
import Derived.Test.YtdeihcnepljjaaaGreatDoorQPost
set_option linter.unusedVariables false
set_option maxRecDepth 100000
namespace Go.Proofs.YtdeihcnepljjaaaGreatDoor
open Go.RowKit
open Go renaming World→dD,Value→dE
open Bool renaming and_eq_true->XK,true_and->YJ
open Int renaming toNat_natCast->XB,eq_ofNat_of_zero_le->XE,mul_le_mul_of_nonneg_right->ZD,mul_le_mul->ZG,mul_nonneg->ZJ,ediv_nonneg->YM,mul_comm->YQ,ediv_le_self->QI,add_mul->QL,one_mul->QM
open List renaming getD_eq_getElem?_getD->XA,getElem?_eq_some_iff->XC,getElem?_eq_getElem->XD,length_set->XG,getElem?_set_self->XH,length_replicate->XI,getElem?_set_ne->XJ,map_append->XL,getElem_mem->XM,length_cons->XO,mem_map->XP,nodup_append->XR,mem_append->XS,length_map->XV,length_take->XX,getElem?_append_left->XZ,mem_of_mem_take->ZA,mem_cons->ZB,length_append->ZC,getElem?_replicate->ZE,getElem?_eq_none->ZF,take_add_one->ZH,filter_cons->ZI,map_cons->ZK,take_length->ZL,nil_append->ZS,mem_of_mem_drop->ZT,drop_eq_getElem_cons->ZV,flatMap_cons->ZY,eq_of_mem_replicate->YA,length_eq_zero_iff->YB,getElem?_append_right->YD,replicate_succ->YF,eq_nil_of_length_eq_zero->YG,mem_singleton->YH,getElem_map->YU,getElem?_take->YV,mem_append_right->YY,any_eq_false->QE,sum_cons->QF,filter_append->QO,any_eq_true->QS,length_tail->QT,getD->QW,map_take->QZ
open Nat renaming le_refl->XF,zero_le->XQ,zero_add->XT,le_trans->ZN,div_add_mod->QA,mul_comm->QC,mod_lt->QJ,strongRecOn->QQ
open Option renaming getD_some->ZU,map_some->QY
open Go.Proofs.Tryz (func117 func119 func163 func165 func168 func177 func185 func189 func201 func206 func229 func230 func231 func232 func259 func277 func278 func279 func280 func281 func305 func320 func321 ntmps117 ntmps119 ntmps163 ntmps165 ntmps168 ntmps177 ntmps185 ntmps189 ntmps201 ntmps206 ntmps229 ntmps230 ntmps231 ntmps232 ntmps259 ntmps277 ntmps278 ntmps279 ntmps280 ntmps281 ntmps305 ntmps320 ntmps321 prog)
variable {c:Conf}{l':IL}{ahead by' cS h cH size cN u who z:Int}{lg:List (Nat×List Nat)}{ps:List IL}{bs l p zs:List Int}{l2 ws:List Nat}{cs rest xs:List dE}{N at' b base cap d fuel g i j k lm lo m n o qb sz t tm ty vb xb y:Nat}{fz:Nat×Nat}{f:Nat->Int}{G:Nat->Pg}{B C F F' Fr Q S S' T X:Nat->Prop}{pd pd2:Option (Nat×PlcM)}{a:Option Addr}{pg:PgL}{pl':PlM}{q:Plc}{R:Rm}{M:RmM}{x x':Sm}{α:Type}{v:dE}{w w' w'' w0 w1 w2:dD}{cells:α->List dE}
theorem XjS(h:M.Ok c)(hg:M.pl.Good):M.lg.length<=1024:=by
 have d:=h.sum;have f:=Oq hg;have b:∀l:List (Nat×List Nat),l.length<=Eo l:=λl=>by
  induction l with
  |nil=>simp
  |cons a r ih=>unfold Eo at *;rw[ZK,QF,XO];omega
 have:=b M.lg;omega
theorem Lj(q:Plc):(Xv q).length=4:=rfl
theorem O7(q:Plc):∀u∈Xv q,u.oneCell'=true:=λu a=>by
 simp only[Xv,ZB,List.mem_nil_iff,or_false] at a;rcases a with rfl|rfl|rfl|rfl <;> rfl
structure Xde(w w':dD)(q:Plc):Prop where
 ok:Zp w' q
 lt:Yr w' q.pa
 fresh:Be w q.pa
theorem XbA{a b c:Int}:Xde w w' ⟨a,b,c,none,0,[]⟩:=⟨⟨Rd.nil _ _ _,by simp⟩,(by intro b off s e;cases e),(by intro b off s e;cases e)⟩
theorem A4.out{w w2:dD}{r r':RR}{M:RmM}(hK:A4 w2 r r')(h:Qe w r M){S:Nat->Prop}(h1:∀z,S z->w.heap.size<=z)(h2:∀z,S z->z<w2.heap.size):De S r':=hK.2.2 S h2 (h.out h1)
theorem XlY(r:RR)(M:RmM)(who size:Int)(w:dD)(h:Qe w r M)(hm:Jp M)(hMok:M.Ok r.c)(ht:0<=M.tot/\M.tot<=4611686018427000000)(hr:Rd .i64 w r.cp.ca r.c.bT)(hmay:Zb r.c=true):Xf prog 206 #[.agg (A7 r).toArray,.int .i64 who,.int .i64 size] w
 (λv w'=>∃r' q,v=.tuple #[.agg (A7 r').toArray,.agg (Xv q).toArray,.int .i64 (C7 r.c M who size)]/\Xx q=Bz r.c M who size/\Qe w' r' (Av r.c M who size)/\A4 w r r'/\Xde w w' q/\Xc Xe w w'):=by
 have ga:maxLen=9223372036854775807:=rfl;have hf:=Ye hmay;have gb:=hf.size;have cy:=hf.n;have cz:=hf.cH;refine aR func206 ntmps206 aA (bC aA λrb w1 e1 f0 f1 gd=>bC aA λob w2 e2 f2 d0 ge=>bC aA λqb w3 e3 d1 bs gf=>?_);have a5:=(f1.trans d0).trans bs;have ap:=bs.bP (d0.bP f0);have bt:=bs.bP f2;by_cases H:who<0
 .have bu:C7 r.c M who size=1/\Bz r.c M who size=⟨0,0,0,[]⟩/\Av r.c M who size=M:=by
   exact⟨by unfold C7;rw[bK H],by unfold Bz;rw[bK H],by unfold Av;rw[bK H]⟩
  rw[bu.1,bu.2.1,bu.2.2];refine bI aA (bB ap aA (aO aA (bF bt aA λw4 a6 d2 gg=>?_)));have a7:=d2.heap d1 (by omega);refine bF a7 aA λw5 a8 d3 gh=>?_;have a9:=d3.heap a6 (by omega);have hc:=(a5.sn d2).sn d3;exact bD rfl func206 (Xi.cell rfl rfl rfl a9 rfl (.cell rfl rfl rfl a8 rfl (.tmp rfl .nil))) ⟨r,⟨0,0,0,none,0,[]⟩,rfl,rfl,h.bQ hc,A4.refl w r,XbA,hc⟩
 .refine aS aA (bB ap aA (bG (XbN r M size w3 (h.bQ a5) (hr.bR a5) cy.2 cz.2) aA λw4 aj=>?_));have I:=a5.trans aj;have aa:=aj.bP ap;have a6:=aj.bP bt;have a7:=aj.bP d1;have fw:=aj.size;by_cases y:Qg r.c M size=0
  .have a0:¬(Qg r.c M size≠0):=λh=>h y;have dq:¬(size<1\/r.c.cH<size)/\Di r.c M size<=M.pl.free.length:=by
    have y:=y;unfold Qg at y;split at y
    .cases y
    .split at y
     .cases y
     .refine⟨by assumption,by omega⟩
   refine aI aA (by rw[y];rfl) (bB aa aA (bG (R8 r size w4 (hr.bR I) (by omega)) aA λw5 o=>?_));have ab:=I.trans o;have bv:=o.bP aa;have a9:=o.bP a6;have a8:=o.bP a7;have fx:=o.size;by_cases g3:Xm r.c.bT size=-1
   .have K:C7 r.c M who size=0/\Bz r.c M who size=⟨-1,(M.pl.free.getD 0 0:Nat),0,X4 (M.pl.free.take (Z9 size r.c.size).toNat).tail⟩/\Av r.c M who size=Ev M (Z9 size r.c.size).toNat:=by
     exact⟨by unfold C7;rw[bJ H,bJ a0,bK g3],by unfold Bz;rw[bJ H,bJ a0,bK g3],by unfold Av;rw[bJ H,bJ a0,bK g3]⟩
    rw[K.1,K.2.1,K.2.2];have ft:Di r.c M size=Z9 size r.c.size:=by unfold Di;rw[bK g3]
    have gi:2<=Z9 size r.c.size:=by
     have h0:0<=(size-1)/r.c.size:=YM (by omega) (by omega);have h9:(size-1)/r.c.size<=size-1:=QI _ (by omega);have e4:Qp size r.c.size=(size-1)/r.c.size+1:=by unfold Qp;rw[bJ (by omega)]
     unfold Z9;rw[e4,bJ (by omega)];omega
    obtain⟨many,cv⟩:=XE (show 0<=Z9 size r.c.size by omega);have gj:2<=many:=by omega
    have d4:many<=M.pl.free.length:=by have:=dq.2;omega
    have gk:M.pl.free.length<=1024:=by have:=hm.cV.many;have:=hm.cV.len;omega
    refine aS aA (aO aA (bC aA λtb w6 e6 f4 b7 f5=>bF f4 aA λw7 dr f6 f7=>?_));have ac:=b7.sn f6;have A:=ab.trans ac;have bw:=ac.bP bv;have ds:=ac.bP a9;have av:=ac.bP a8;refine bB bw aA (bH (XfQ size r.c.size w7 (by omega)) aA ?_);rw[cv,XB];have hn:=hMok.n;obtain⟨B,a⟩:∃B:Nat->Prop,B=λz=>z=rb\/z=ob\/z=qb\/z=tb:=⟨_,rfl⟩;have L:∀z,B z->w.heap.size<=z/\z<w7.heap.size:=λz c=>by rw[a] at c;rcases c with e|e|e|e <;> omega
    have b8:=h.out (S:=B) (λz c=>(L z c).1);refine Xa.loop (α:=Nat×RP×dE) (λx=>[(3,false,.pointer (some ⟨rb,0,none⟩)),(6,false,.pointer (some ⟨ob,0,none⟩)),(7,false,.pointer (some ⟨qb,0,none⟩)),(14,false,.pointer (some ⟨tb,0,none⟩)),(15,false,.int .i64 many),(16,false,.int .i64 x.1)])
     (λx w'=>x.1<=many/\Yn w' rb {r with p:=x.2.1}/\w'.heap[tb]?=some (.cells ([.int .i64 (-1),.int .i64 (if x.1=0 then 0 else (M.pl.free.getD 0 0:Nat)),.int .i64 0,x.2.2]:List dE).toArray 83 (0,0))/\Ao w' x.2.1 (Az M.pl (M.shs.length:Nat) x.1)/\Xj B x.2.1.o.a/\Xj B x.2.1.f.a/\
      (∀S:Nat->Prop,(∀z,S z->z<w.heap.size)->Xj S r.p.o.a->Xj S r.p.f.a->Xj S x.2.1.o.a/\Xj S x.2.1.f.a)/\Yr w x.2.1.f.a/\Xl w7.heap.size 3 1 w' x.2.2 (x.1-1) ((X4 (M.pl.free.take x.1).tail).map (Value.int .i64))/\Xc (λz=>z=rb\/z=tb) w7 w') (λx=>many-x.1) (0,r.p,.slice none 0 0) ⟨rfl,rfl,rfl,rfl,rfl,rfl,trivial⟩
     ⟨XQ _,bw,dr,h.p.bQ A,b8.o,b8.f,λS _ h1 h2=>⟨h1,h2⟩,h.p.f.lt,⟨rfl,.inl ⟨rfl,rfl⟩⟩,Xc.refl _ _⟩ ?_
    rintro⟨i,rp,v⟩ w8 ⟨hi,N,ad,a2,d5,c0,b9,d6,a3,ak⟩ ih;simp only at hi N ad a2 d5 c0 b9 d6 a3
    have fz:=ak.size;refine aN aA (aT aA (λc2=>?_) λc2=>?_)
    .have d7:i<many:=by have:=bL c2;omega
     have c3:i<M.pl.free.length:=by omega
     obtain⟨q1,q2,q3,q4,q5⟩:=Mz (who:=(M.shs.length:Nat)) (by omega) hm.cV i (by omega);have ba:(Az M.pl (M.shs.length:Nat) i).free=M.pl.free[i]::M.pl.free.drop (i+1):=by rw[q2];exact ZV c3
     obtain⟨t1,t2,t3⟩:=Xbz (who:=(M.shs.length:Nat)) (by omega) ba;have etk:=t3;refine bB N aA (bB N aA ?_);have hd:=XfK rp (M.shs.length:Nat) _ _ _ w8 a2 q1 (by omega) ba;rw[<-etk,hn] at hd;refine aP aA (hd) ?_;rintro _ C ⟨l9,rfl,d8,ax,d9⟩;refine aN aA ?_;rw[<-hn] at d8;refine bC aA λxb wa ea c4 O fa=>bF c4 aA λwb dt fb da=>?_;have g6:=d9.size;have c5:=O.sn fb;have ae:=d9.trans c5;refine bB dt aA (bF (ae.bP N) aA λwc c6 bb gl=>?_);have fc:=d8.bQ c5;have c7:=ax.out (λz c=>by have:=(L z c).2;omega);have c8:Xj B (rp.f.sl 1 rp.f.x.length).a:=IL.sl_out c0;have db:∀S:Nat->Prop,(∀z,S z->z<w.heap.size)->Xj S r.p.o.a->Xj S r.p.f.a->Xj S l9.a/\Xj S (rp.f.sl 1 rp.f.x.length).a:=λS hS h1 h2=>⟨ax.out (λz c=>by have:=hS z c;have:=A.size;omega),IL.sl_out (b9 S hS h1 h2).2⟩;have c9:Yr w (rp.f.sl 1 rp.f.x.length).a:=λb off s e=>by
      obtain⟨_,_,e'⟩:=Xcb e;exact d6 b _ _ e'
     have F:B rb:=by rw[a];exact .inl rfl
     have dc:B tb:=by rw[a];exact .inr (.inr (.inr rfl))
     have bW:∀{w1 w2:dD} {z0:Nat},B z0->Xc (λz=>z=z0) w1 w2->Ao w1 ⟨l9,rp.f.sl 1 rp.f.x.length⟩ (Az M.pl (M.shs.length:Nat) (i+1))->Ao w2 ⟨l9,rp.f.sl 1 rp.f.x.length⟩ (Az M.pl (M.shs.length:Nat) (i+1)):=λa4 k bc=>⟨bc.o.bW (c7.mono (λz e=>by subst e;exact a4)) k,bc.f.bW (c8.mono (λz e=>by subst e;exact a4)) k,bc.eo,bc.ef⟩;have dd:=bW F bb fc;have af:=bb.heap (ae.bP ad) (by omega);have de:=(a3.bR ae (λ_ _ h=>h)).bR bb (λb D e=>by have:=(World.ownsRow.lt a3 b D.symm).1;replace e:b=rb:=e;omega);have ca:=(ak.trans ae.gr).trans (bb.mono λ_ _ e=>.inl e);by_cases df:i=0
     .subst df;refine bI aA (bF af aA λwd du be cb=>aV aA ?_);have dv:((M.pl.free[0]:Nat):Int)=(M.pl.free.getD 0 0:Nat):=by rw[XA,XD c3];rfl
      exact ih (1,⟨l9,rp.f.sl 1 rp.f.x.length⟩,v) _ _ ⟨by omega,be.heap c6 (by omega),by rw[bJ (show ¬(1=0) by omega),<-dv];exact du,bW dc be dd,c7,c8,db,c9,by
       have e:(M.pl.free.take 1).tail=[]:=YG (by rw[QT,XX];omega);have e0:(M.pl.free.take 0).tail=[]:=by simp
       have:=de.bR be (λb D e=>by have:=(World.ownsRow.lt a3 b D.symm).1;replace e:b=tb:=e;omega);rw[e0] at this;show Xl _ _ _ _ _ 0 _
       rw[e];exact this,ca.trans (be.mono λ_ _ e=>.inr e)⟩ (by simp only;omega) ⟨rfl,rfl,rfl,rfl,rfl,rfl,trivial⟩
     .rw[bJ df] at af;refine aI aA (by simp;omega) (bB af aA (Xa.buildSlice Xb rfl λbd wd ed fe d cb=>aN aA ?_));have dg:=de.bR d (λ_ _ h=>h);refine Xa.append (base:=w7.heap.size) (xs:=(X4 (M.pl.free.take i).tail).map (Value.int .i64)) (news:=[.int .i64 (M.pl.free[i]:Nat)]) Xb rfl dg (by omega) (by simp) (Gv fe) (by simp[Value.oneCell']) ⟨by omega,by show(i-1+1)*8<=_;omega⟩ ?_;intro v2 we m al gm;obtain⟨va,vn,vc,rfl⟩:=Xl.isSlice m;refine aN aA ?_;have ag:=λ(b:Nat) (D:some b=v.ownBlock)=>(World.ownsRow.lt dg b D.symm).1;have dw:=al.heap (d.bP c6) (λe=>by have:=ag rb e;omega);have dx:=al.heap (d.bP af) (λe=>by have:=ag tb e;omega);have bf:=dd.bQ d;have ff:Ao we ⟨l9,rp.f.sl 1 rp.f.x.length⟩ (Az M.pl (M.shs.length:Nat) (i+1)):=by
       have fg:=λ(b:Nat) (D:some b=v.ownBlock)=>(World.ownsRow.lt a3 b D.symm).2;exact⟨bf.o.bW (λb off s e D=>by have:=ax b off s e;have:=fg b D;omega) al,bf.f.bW (λb off s e D=>by have:=c9 b off s e;have:=ag b D;omega) al,bf.eo,bf.ef⟩
      refine bF dx aA λwf dy bg gn=>aV aA ?_;exact ih (i+1,⟨l9,rp.f.sl 1 rp.f.x.length⟩,.slice va vn vc) _ _ ⟨by omega,bg.heap dw (by omega),by rw[bJ (show ¬(i+1=0) by omega)];exact dy,bW dc bg ff,c7,c8,db,c9,by
       have e:(M.pl.free.take (i+1)).tail=(M.pl.free.take i).tail++[M.pl.free[i]]:=by
        rw[ZH,XD c3,List.tail_append_of_ne_nil]
        .rfl
        .intro e;have:=congrArg List.length e;rw[XX,List.length_nil] at this;omega
       have:=m.bR bg (λb D e=>by have:=(World.ownsRow.lt m b D.symm).1;replace e:b=tb:=e;omega);rw[e,Xe8,XL];have e2:i-1+1=i+1-1:=by omega
       rw[e2] at this;exact this,((ca.trans d.gr).bU al (λz c e=>by have:=ag z e;omega)).trans (bg.mono λ_ _ e=>.inr e)⟩ (by simp only;omega) ⟨rfl,rfl,rfl,rfl,rfl,rfl,trivial⟩
    .have dz:i=many:=by have:=bM c2;omega
     subst dz;have bh:=a
     clear a
     have cc:(M.pl.free.take i).tail.length=i-1:=by rw[QT,XX];omega
     obtain⟨g,gc,rfl,gp,gq,gs,fh,fi⟩:=Xbp a3 cc (by omega);obtain⟨q0,ah⟩:∃q0:Plc,q0=⟨-1,(M.pl.free.getD 0 0:Nat),0,some ⟨g,0,none⟩,gc,X4 (M.pl.free.take i).tail⟩:=⟨_,rfl⟩;have cw:w8.heap[tb]?=some (.cells (Xv q0).toArray 83 (0,0)):=by
      rw[bJ (show ¬i=0 by omega)] at ad;have e:Xv q0=[.int .i64 (-1),.int .i64 (M.pl.free.getD 0 0:Nat),.int .i64 0,.slice (some ⟨g,0,none⟩) (i-1) gc]:=by
       rw[ah];show [_,_,_,Value.slice _ (X4 (M.pl.free.take i).tail).length _]=_
       rw[Er,cc]
      rw[e];exact ad
     have cd:Xx q0=⟨-1,(M.pl.free.getD 0 0:Nat),0,X4 (M.pl.free.take i).tail⟩:=by rw[ah];rfl
     have ai:q0.pa=some ⟨g,0,none⟩:=by rw[ah]
     have ce:q0.bS=X4 (M.pl.free.take i).tail:=by rw[ah]
     have gt:=h.st;have cf:=A.bU ak (λz c e=>by rcases e with e|e <;> omega);have P:=ak.heap ds (by omega);have Q:=ak.heap av (by omega);obtain⟨t,cg⟩:∃t,t=Xw M.tot (((i:Nat):Int)*4+(((i:Nat):Int)-1)):=⟨_,rfl⟩;have fj:r.cM+4*(i:Int)+(i:Int)-1=t:=by
      rw[cg];unfold Xw;rw[bJ (by omega)];omega
     have e5:=hMok.big hm.cV (show 1<=i by omega) d4;have fk:(r.lg++[q0]).length<=1024:=by
      have h1:=XjS e5 (Mz (who:=(M.shs.length:Nat)) (by omega) hm.cV i d4).1;have h2:(M.lg++[(M.pl.free.getD 0 0,(M.pl.free.take i).tail)]).length<=1024:=h1;have fu:r.lg.length=M.lg.length:=by have:=congrArg List.length h.lge;simpa using this
      simp only[ZC,XO,List.length_nil] at h2⊢;omega
     have bi:w8.heap[rb]?=some (.cells (Zj r.c r.cp++[Xr rp.o,Xr rp.f,.slice r.sa r.ss.length r.scap,.slice r.la r.lg.length r.lcap,.int .i64 r.cM]).toArray 38 (0,0)):=N;refine Xa.cJ Xb rfl bi rfl rfl ?_;refine Xa.arith Xb rfl (w64 (by omega)) rfl ?_;refine Xa.arith Xb rfl (w64 (by omega)) rfl ?_;refine aV aA (aV aA ?_);rw[fj];refine bF bi aA λC ch u fm=>?_;have ci:=u.heap cw (by omega);have az:=u.heap P (by omega);have b1:=u.heap Q (by omega);have e8:Xc B w8 C:=u.mono λ_ _ e=>by rw[bh];exact .inl e
     have b2:=cf.sn u;have cx:=ch;apply Xa.cut (α:=dE×Nat) (λx=>[(3,false,.pointer (some ⟨rb,0,none⟩)),(6,false,.pointer (some ⟨ob,0,none⟩)),(7,false,.pointer (some ⟨qb,0,none⟩)),(14,false,.pointer (some ⟨tb,0,none⟩)),(99,false,x.1),(101,false,.slice (some ⟨x.2,0,none⟩) 1 1)]) (λx w'=>Xc Xe C w'/\Xl C.heap.size 83 4 w' x.1 r.lg.length (fl Xv r.lg)/\w'.heap[x.2]?=some (.cells (Xv q0).toArray 83 (0,0)))
     .intro J;refine aQ 6 Xe (by kernel_rfl) aA λa=>aE a cx aA (aE a ci aA ?_);refine Xd.turn2 a rfl ?_ ?_
      .intro wa O;refine Xn.buildSlice Xb a rfl (λ_=>rfl) ?_;intro b0 wb eb a4 bj da;have k:=O.trans bj;have R:Xl C.heap.size 83 4 wb (.slice (some ⟨b0,0,none⟩) 0 0) 0 (fl Xv []):=Xl.empty (by have:=O.size;omega) a4;refine Xd.turn2 a rfl ?_ ?_
       .intro wc f;refine Xn.appendA Xb a rfl (base:=C.heap.size) (xs:=fl Xv []) (news:=fl Xv r.lg) (R.bR f (λ_ _ h=>h)) ((k.trans f)).size h.lr.noneA (XF _) (Jw Lj r.lg) ((h.lr.bR (b2.trans (k.trans f))).news Lj (by decide)) (Oj O7 r.lg) ⟨by have:=h.lm;omega,by have:=h.lm;show(0+r.lg.length)*48<=_;omega⟩ (λ_=>rfl) ?_;intro v1 wx n T dh;have am:=((R.bR f (λ_ _ h=>h))).bU (k.trans f) (XF _) T;rw[Oi,ZS,XT] at n;exact Xd.cK a rfl λwd d=>Xn.buildSlice Xb a rfl (λ_=>rfl) λW we ee G j gu=>aF a aA λwf l=>J (v1,W) _ _ ⟨(((am.trans d).trans j).trans l),(((n.bR d (λ_ _ h=>h)).bR j (λ_ _ h=>h)).bR l (λ_ _ h=>h)),(l.bP G)⟩ ⟨rfl,rfl,rfl,rfl,rfl,rfl,trivial⟩
       .intro wc f;refine Xn.buildSlice Xb a rfl (λ_=>rfl) λW wd ed G d cb=>Xd.cK a rfl λwe j=>Xn.appendA Xb a rfl (base:=C.heap.size) (xs:=fl Xv []) (news:=fl Xv r.lg) (((R.bR f (λ_ _ h=>h)).bR d (λ_ _ h=>h)).bR j (λ_ _ h=>h)) ((((k.trans f).trans d).trans j)).size h.lr.noneA (XF _) (Jw Lj r.lg) ((h.lr.bR (b2.trans (((k.trans f).trans d).trans j))).news Lj (by decide)) (Oj O7 r.lg) ⟨by have:=h.lm;omega,by have:=h.lm;show(0+r.lg.length)*48<=_;omega⟩ (λ_=>rfl) λv1 wx n T dh=>?_;have am:=((((R.bR f (λ_ _ h=>h)).bR d (λ_ _ h=>h)).bR j (λ_ _ h=>h))).bU (((k.trans f).trans d).trans j) (XF _) T;rw[Oi,ZS,XT] at n;refine aF a aA λwf l=>?_;have cj:¬C6 (.slice (some ⟨b0,0,none⟩) 0 0) W:=by
         intro h;have e:some W=some b0:=h;have:=Option.some.inj e;have:=f.size;omega
        exact J (v1,W) _ _ ⟨(am.trans l),(n.bR l (λ_ _ h=>h)),(l.bP (T.heap (j.bP G) cj))⟩ ⟨rfl,rfl,rfl,rfl,rfl,rfl,trivial⟩
      .intro wa O;refine Xn.buildSlice Xb a rfl (λ_=>rfl) λW wb eb G bj da=>Xd.cK a rfl λwc f=>Xn.buildSlice Xb a rfl (λ_=>rfl) λb0 wd ed a4 d cb=>?_;have k:=((O.trans bj).trans f).trans d;have R:Xl C.heap.size 83 4 wd (.slice (some ⟨b0,0,none⟩) 0 0) 0 (fl Xv []):=Xl.empty (by have:=((O.trans bj).trans f).size;omega) a4;refine Xd.cK a rfl λwe j=>Xn.appendA Xb a rfl (base:=C.heap.size) (xs:=fl Xv []) (news:=fl Xv r.lg) (R.bR j (λ_ _ h=>h)) ((k.trans j)).size h.lr.noneA (XF _) (Jw Lj r.lg) ((h.lr.bR (b2.trans (k.trans j))).news Lj (by decide)) (Oj O7 r.lg) ⟨by have:=h.lm;omega,by have:=h.lm;show(0+r.lg.length)*48<=_;omega⟩ (λ_=>rfl) λv1 wx n T dh=>?_;have am:=((R.bR j (λ_ _ h=>h))).bU (k.trans j) (XF _) T;rw[Oi,ZS,XT] at n;refine aF a aA λwf l=>?_;have cj:¬C6 (.slice (some ⟨b0,0,none⟩) 0 0) W:=by
        intro h;have e:some W=some b0:=h;have:=Option.some.inj e;have:=f.size;omega
       exact J (v1,W) _ _ ⟨(am.trans l),(n.bR l (λ_ _ h=>h)),(l.bP (T.heap ((d.trans j).bP (f.bP G)) cj))⟩ ⟨rfl,rfl,rfl,rfl,rfl,rfl,trivial⟩
     .rintro⟨v1,W⟩ wf ⟨di,m,G⟩;simp only at m G
      have e9:=di.size;obtain⟨a1,n1,c1,rfl⟩:=Xl.isSlice m;refine Xa.appendA (base:=C.heap.size) (xs:=fl Xv r.lg) (news:=Xv q0) Xb rfl m e9 (λe=>by cases e) rfl (P0 G) (O7 q0) ⟨by have:=h.lm;omega,by have:=h.lm;show(r.lg.length+1)*48<=_;omega⟩ ?_;intro v3 wy fn fo gv;have U:=m.bU di (XF _) fo;have ec:Xl C.heap.size 83 4 wy v3 (r.lg.length+1) (fl Xv (r.lg++[q0])):=by
       rw[Oh,Rf];exact fn
      obtain⟨la,lcap,rfl,ef,d7,eg,bk⟩:=Xl.rowsN ec Lj (by simp);refine aN aA (bF (U.bP ch) aA λwz eh an gw=>?_);have ei:=an.heap (U.bP ci) (by omega);have ej:=an.heap (U.bP az) (by omega);have ek:=an.heap (U.bP b1) (by omega);have ck:B ob:=by rw[bh];exact .inr (.inl rfl)
      have cl:B qb:=by rw[bh];exact .inr (.inr (.inl rfl))
      have cm:B rb:=by rw[bh];exact .inl rfl
      have el:Xc B C wz:=U.gr.trans (an.mono λ_ _ e=>by rw[e];exact cm);refine aQ 3 (λz=>z=ob) (by kernel_rfl) aA λa=>aE a eh aA (aE a ei aA (Xd.cK a rfl λwu bm=>Xn.store Xb a rfl (bm.bP ej) (by first|(intro h;exact rfl)|(intro h;omega)) rfl rfl rfl λwv em cn gx=>?_));refine aF a aA λww bn=>?_;have en:=bn.bP (cn.heap (bm.bP ek) (by omega));refine bF en aA λwr eo co gy=>?_;have ep:=co.heap (bn.bP em) (by omega);have F:=(((((e8.trans el).trans bm.gr).trans (cn.mono λ_ _ e=>by rw[e];exact ck)).trans bn.gr).trans (co.mono λ_ _ e=>by rw[e];exact cl));have cp:=cf.bU F (λz c e=>by have:=(L z e).1;omega);have fp:Ao wr rp (Az M.pl (M.shs.length:Nat) i):=⟨a2.o.bW d5 F,a2.f.bW c0 F,a2.eo,a2.ef⟩;have fq:¬B g:=λc=>by have:=(L g c).2;omega
      have er:=fi.bW (S:=B) (λb' off s e=>by cases e;exact fq) F;have V:=h.bQ cp;have cq:Xc B wy wr:=((((an.mono λ_ _ e=>by rw[e];exact cm).trans bm.gr).trans (cn.mono λ_ _ e=>by rw[e];exact ck)).trans bn.gr).trans (co.mono λ_ _ e=>by rw[e];exact cl);have es:Xj B la:=λb off s e c=>by have:=bk b off s e;have:=(L b c).2;omega
      have cr:Yr w8 q0.pa:=λb off s e=>by rw[ai] at e;cases e;exact Dg fh
      have dj:Zp wr q0:=⟨by rw[ai,ce];exact er,by rw[ce,Er,cc];omega⟩;exact bD rfl func206 (Xi.cell rfl rfl rfl ep rfl (.cell rfl rfl rfl eo rfl (.tmp rfl .nil))) ⟨{r with p:=rp,cM:=t,lg:=r.lg++[q0],la:=la,lcap:=lcap},q0,rfl,cd,⟨fp,V.sr,V.sl,V.sc,V.n,V.few,V.cI,ef.bW es cq,d7.bQ cq.size,eg,fk,by show(r.lg++[q0]).map Xx=(M.lg++[(M.pl.free.getD 0 0,(M.pl.free.take i).tail)]).map lgP;rw[XL,XL,h.lge,ZK,List.map_nil,cd];rfl,λq E=>(XS.1 E).elim (λE=>V.lgo q E) (λE=>by rw[YH] at E;subst E;exact⟨dj,cr.bQ F.size⟩),cg⟩,⟨rfl,rfl,λS hS ho=>⟨(b9 S hS ho.o ho.f).1,(b9 S hS ho.o ho.f).2,ho.sa,ho.cI,λb off s e c=>by have:=bk b off s e;have:=hS b c;have:=A.size;omega,λq E=>(XS.1 E).elim (λE=>ho.lgo q E) (λE=>by rw[YH] at E;subst E;exact λb off s e c=>by rw[ai] at e;cases e;have:=hS g c;have:=A.size;omega)⟩⟩,⟨dj,cr.bQ F.size,λb off s e=>by rw[ai] at e;cases e;have:=A.size;omega⟩,cp⟩
   .have K:C7 r.c M who size=Gp M (Xm r.c.bT size) who/\Bz r.c M who size=⟨Xm r.c.bT size,Ex M (Xm r.c.bT size) who,Ew M (Xm r.c.bT size) who,[]⟩/\Av r.c M who size=Qj M (Xm r.c.bT size) who:=by
     exact⟨by unfold C7;rw[bJ H,bJ a0,bJ g3],by unfold Bz;rw[bJ H,bJ a0,bJ g3],by unfold Av;rw[bJ H,bJ a0,bJ g3]⟩
    rw[K.1,K.2.1,K.2.2];have gz:=R3 r.c.bT size;refine bI aA (bB bv aA (aP aA (XfS r M (Xm r.c.bT size) who w5 (h.bQ ab) hm ht) ?_));rintro _ w6 ⟨r',rfl,hR,hK,b7⟩;refine aN aA (bC aA λxb w7 e7 c4 ao f7=>bF c4 aA λw8 eu bo fr=>?_);have ew:=ab.trans b7;have b6:=ao.sn bo;have cs:=b7.trans b6;have P:=cs.bP a9;have Q:=cs.bP a8;refine bB eu aA (aO aA (bF P aA λC az u fm=>?_));have b1:=u.heap Q (by omega);refine bF b1 aA λwa ex ct fa=>?_;have ey:=ct.heap az (by omega);have hc:=((ew.trans b6).sn u).sn ct;have n:De (λz=>z=ob) r':=hK.out h (λz c=>by omega) (λz c=>by omega);have m:De (λz=>z=qb) r':=hK.out h (λz c=>by omega) (λz c=>by omega);exact bD rfl func206 (Xi.cell rfl rfl rfl ey rfl (.cell rfl rfl rfl ex rfl (.tmp rfl .nil))) ⟨r',⟨Xm r.c.bT size,Ex M (Xm r.c.bT size) who,Ew M (Xm r.c.bT size) who,none,0,[]⟩,rfl,rfl,((hR.bQ b6).bW n u).bW m ct,hK.dC ab.size,XbA,hc⟩
  .have cu:C7 r.c M who size=Qg r.c M size/\Bz r.c M who size=⟨0,0,0,[]⟩/\Av r.c M who size=M:=by
    exact⟨by unfold C7;rw[bJ H,bK y],by unfold Bz;rw[bJ H,bK y],by unfold Av;rw[bJ H,bK y]⟩
   rw[cu.1,cu.2.1,cu.2.2];refine aM aA (by simpa using y) ?_;have b8:De (λz=>z=ob) r:=h.out (λz c=>by omega);have fs:∀w',Xc (λz=>z=ob) w4 w'->Xc Xe w w':=λw' bp=>I.sn bp;refine Xa.drawn (q:=6) (λz=>z=ob) Xb Xo (by kernel_rfl) rfl ?_;intro a;refine Xd.loads Xb a rfl aa (by first|exact λh=>h|(intro h;omega)|assumption) rfl rfl ?_;refine Xd.build Xb a rfl rfl ?_;refine Xd.loads Xb a rfl aa (by first|exact λh=>h|(intro h;omega)|assumption) rfl rfl ?_;refine Xd.call Xb a rfl (λw' bp=>XbN r M size w' ((h.bQ I).bW b8 bp) (hr.bR (fs w' bp)) cy.2 cz.2) rfl ?_;refine Xd.cK a rfl λw5 o=>Xn.store Xb a rfl (o.bP a6) (by first|(intro h;exact rfl)|(intro h;omega)) rfl rfl rfl λw6 ez dk f5=>aF a aA λw7 ao=>?_;have av:=ao.bP (dk.heap (o.bP a7) (by omega));refine bF av aA λw8 Q bo fr=>?_;have P:=bo.heap (ao.bP ez) (by omega);have hc:=(((I.trans o).sn dk).trans ao).sn bo;exact bD rfl func206 (Xi.cell rfl rfl rfl P rfl (.cell rfl rfl rfl Q rfl (.tmp rfl .nil))) ⟨r,⟨0,0,0,none,0,[]⟩,rfl,rfl,h.bQ hc,A4.refl w r,XbA,hc⟩
def J7(a b:Plc):Bool:=decide (a.cR=b.cR/\a.bS=b.bS)
theorem Xl0(a b:Plc)(w:dD)(ha:Rd .i64 w a.pa a.bS)(hb:Rd .i64 w b.pa b.bS)(hl:a.bS.length<=9223372036854775807):Xf prog 259 #[.agg (Xv a).toArray,.agg (Xv b).toArray] w (Grow (.bool (J7 a b)) w):=by
 refine aR func259 ntmps259 aA (bC aA λx P e1 H A M=>bC aA λy I e2 r n N=>?_);have g:=n.bP H;have c:=A.trans n;refine bB g aA (bB r aA (aT aA (λs=>?_) λs=>?_))
 .have i:a.cR≠b.cR:=by simpa using s
  have e:J7 a b=false:=bO (λh=>i h.1);rw[e];exact bE func259 aA ⟨rfl,c⟩
 .have i:a.cR=b.cR:=by simpa using s
  refine bB g aA (bB r aA (aT aA (λt=>?_) λt=>?_))
  .have B:a.bS.length≠b.bS.length:=by simp at t;omega
   have e:J7 a b=false:=bO (λh=>B (by rw[h.2]));rw[e];exact bE func259 aA ⟨rfl,c⟩
  .have u:a.bS.length=b.bS.length:=by simp at t;omega
   refine Xa.loop (α:=Nat) (λk=>[(2,false,.pointer (some ⟨x,0,none⟩)),(3,false,.pointer (some ⟨y,0,none⟩)),(5,false,.int .i64 k)])
    (λk w'=>Xc Xe I w'/\k<=a.bS.length/\∀j,j<k->a.bS.getD j 0=b.bS.getD j 0) (λk=>a.bS.length-k) 0 ⟨rfl,rfl,rfl,trivial⟩ ⟨Xc.refl _ _,XQ _,λ_ h=>by omega⟩ ?_
   rintro k Q ⟨d,R,l⟩ ih;have o:=d.bP g;refine aN aA (bB o aA (aT aA (λv=>?_) λv=>?_))
   .have p:k<a.bS.length:=by have:=bL v;omega
    obtain⟨ba,oa,C,D⟩:=((ha.bR c).bR d) k p;obtain⟨bb,obb,E,F⟩:=((hb.bR c).bR d) k (by omega);refine aQ 11 Xe (by kernel_rfl) aA λf=>aE f o aA ?_;rw[C];refine aB k f aA (aD f D aA (aE f (d.bP r) aA ?_));rw[E];refine aB k f aA (aD f F aA (aF f aA λS q=>aT aA (λm=>?_) λm=>?_))
    .have z:a.bS.getD k 0≠b.bS.getD k 0:=by simpa using m
     have e:J7 a b=false:=bO (λh=>z (by rw[h.2]));rw[e];exact bE func259 aA ⟨rfl,(c.trans d).trans q⟩
    .have J:a.bS.getD k 0=b.bS.getD k 0:=by simpa using m
     refine aV aA ?_;exact ih (k+1) _ _ ⟨d.trans q,p,λj T=>by
      by_cases e:j=k
      .subst e;exact J
      .exact l j (by omega)⟩ (by omega) ⟨rfl,rfl,rfl,trivial⟩
   .have O:k=a.bS.length:=by have:=bM v;omega
    have G:=List.ext_getElem u λj K L=>by
     have:=l j (by omega);rw[I1 K,I1 L] at this;exact this
    have e:J7 a b=true:=bN ⟨i,G⟩;rw[e];exact bE func259 aA ⟨rfl,c.trans d⟩
def Ci(q x:Plc):Bool:=decide (q.cL=-1) && J7 x q
def Du(q:Plc)(l:List Plc):List Plc:=l.filter λx=>!Ci q x
theorem Xa0{l:List Plc}(h:i<l.length):Du q (l.take (i+1))=Du q (l.take i)++(if Ci q l[i] then [] else [l[i]]):=by
 unfold Du;rw[ZH,XD h,QO];by_cases e:Ci q l[i]=true
 .rw[bK e];simp[e]
 .rw[bJ e];simp[e]
theorem W6{l:List Plc}(h:i<l.length):(l.take (i+1)).any (Ci q)=((l.take i).any (Ci q)||Ci q l[i]):=by
 rw[ZH,XD h,List.any_append]
 simp
theorem Xjx{ps:List Plc}(hl:ps.map Xx=lg.map lgP)(hq:q.cL=-1):(ps.any (Ci q)=lg.any λe=>decide ((e.1:Int)=q.cR/\X4 e.2=q.bS))/\(Du q ps).map Xx=(lg.filter λe=>!decide ((e.1:Int)=q.cR/\X4 e.2=q.bS)).map lgP:=by
 induction ps generalizing lg with
 |nil=>
  cases lg with
  |nil=>exact⟨rfl,rfl⟩
  |cons a r=>simp at hl
 |cons x xs ih=>
  cases lg with
  |nil=>simp at hl
  |cons a r=>
   rw[ZK,ZK] at hl;obtain⟨b,f⟩:=List.cons.inj hl;obtain⟨g,c⟩:=ih f;have e1:x.cR=(a.1:Nat):=congrArg PlcM.cR b;have e2:x.bS=X4 a.2:=congrArg PlcM.bS b;have e3:Ci q x=decide ((a.1:Int)=q.cR/\X4 a.2=q.bS):=by
    unfold Ci J7;rw[bN hq,YJ,e1,e2]
   refine⟨by rw[List.any_cons,List.any_cons,e3,g],?_⟩;unfold Du at *;rw[ZI,ZI,e3];by_cases d:decide ((a.1:Int)=q.cR/\X4 a.2=q.bS)=true
   .rw[d];exact c
   .have hf:decide ((a.1:Int)=q.cR/\X4 a.2=q.bS)=false:=by simpa using d
    rw[hf];simp only[Bool.not_false,if_true,ZK];rw[c,b]
theorem Xa1(hn:(Y6 lg).Nodup){r r':List Nat}(h:(n,r)∈lg)(h':(n,r')∈lg):r=r':=by
 obtain⟨a,b,e1,e2⟩:=Ov hn h;rw[e1] at h' hn;have c:Y6 (a++(n,r)::b)=Y6 a++((n::r)++Y6 b):=by rw[Kp];rfl
 rw[c] at hn;obtain⟨_,d,f⟩:=XR.1 hn;obtain⟨_,_,i⟩:=XR.1 d;rcases XS.1 h' with g|g
 .exact absurd rfl (f n (I7 g (by simp)) n (by simp))
 .rcases ZB.1 g with g|g
  .exact((Prod.mk.inj g).2).symm
  .exact absurd rfl (i n (by simp) n (I7 g (by simp)))
theorem Xjy(hn:(Y6 lg).Nodup){r:List Nat}(h:(n,r)∈lg){p:Int}{ps:List Int}(hp:p=n)(hps:X4 r=ps):(lg.any λe=>decide ((e.1:Int)=p/\X4 e.2=ps))=true/\(lg.filter λe=>!decide ((e.1:Int)=p/\X4 e.2=ps))=Dv lg n:=by
 refine⟨QS.2 ⟨(n,r),h,bN ⟨hp.symm,hps⟩⟩,?_⟩;unfold Dv;refine List.filter_congr λe a=>?_;by_cases e1:e.1=n
 .have e2:=Xa1 hn (n:=n) (by rw[<-e1];exact a) h;rw[bN ⟨by rw[e1];exact hp.symm,by rw[e2];exact hps⟩,e1]
  simp
 .rw[bO (λh=>e1 (by have:=h.1;omega))];simp[e1]
theorem XeA{p:Int}{ps:List Int}(h:∀r,Dh lg p=some r->X4 r≠ps)(hn:(Y6 lg).Nodup):(lg.any λe=>decide ((e.1:Int)=p/\X4 e.2=ps))=false:=by
 rw[QE];intro e b c;obtain⟨d,f⟩:=bL c;cases a:Dh lg p with
 |none=>exact T8 a e b d
 |some r=>
  obtain⟨n,g,hm⟩:=Ow a;have e1:e.1=n:=by omega
  have:e.2=r:=Xa1 hn (n:=n) (by rw[<-e1];exact b) hm;exact h r a (by rw[<-this];exact f)
def Xda(M:RmM):Prop:=∀(k:Nat) (x:Sm),M.shs[k]?=some x->x.Pos
theorem Zn.mpos(h:Zn F w R M):Xda M:=λk x a=>by
 obtain⟨G,_,b,_⟩:=h.shelf a;exact b.pos
theorem XjB{p:α->Bool}{l:List α}(_ : -1<=idx p l):idx p l<l.length:=by
 by_cases h:∃k,∃a:k<l.length,p l[k]=true/\∀j (b:j<l.length),j<k->p l[j]=false
 .obtain⟨k,a,d,f⟩:=h;rw[Jy a f d];omega
 .rw[I5 λj b=>?_]
  .omega
  .induction j using QQ with
   |ind j ih=>
    cases g:p l[j] with
    |false=>rfl
    |true=>exact absurd ⟨j,b,g,λi m c=>ih i c m⟩ h
theorem Uv{n:Int}(h:Xm zs n≠-1):0<=Xm zs n/\Xm zs n<zs.length:=by
 have a:=R3 zs n;refine⟨by omega,?_⟩;unfold Xm at *;split at h
 .exact absurd rfl h
 .rename_i b
  rw[bJ b] at a;rw[bJ b];exact XjB a
theorem Xi3(hok:M.Ok c)(hw:0<=who)(h:Qg c M size=0):C7 c M who size=0:=by
 have a:(Di c M size:Int)<=M.pl.free.length:=by
  unfold Qg at h;split at h
  .exact absurd h (by decide)
  .split at h
   .exact absurd h (by decide)
   .omega
 unfold C7;rw[bJ (by omega),bJ (by omega)];split
 .rfl
 .rename_i b
  obtain⟨i,j⟩:=Uv b;obtain⟨k,d⟩:=XE i;rw[d] at j⊢;have f:k<M.shs.length:=by have:=hok.n;omega
  have g:=Pe f;unfold Gp;rw[g];simp only
  unfold Qk;rw[bJ (by omega),bJ];intro ⟨l,m⟩;unfold Di at a;rw[bJ b,d] at a;unfold Qq at a;rw[g] at a;simp only[l,m] at a;omega
theorem Xmk{q:PlM}{t:Int}:Zq {M with shs:=M.shs.set k x,pl:=q,tot:=t} j=if k=j/\k<M.shs.length then some x else Zq M j:=by
 unfold Zq;rw[bK (Int.natCast_nonneg _),bK (Int.natCast_nonneg _),XB];show(M.shs.set k x)[j]?=_
 by_cases e:k=j
 .subst e;by_cases a:k<M.shs.length
  .rw[bK ⟨rfl,a⟩,XH a]
  .rw[bJ (λh=>a h.2),ZF (by rw[XG];omega),ZF (by omega)]
 .rw[bJ (λh=>e h.1),XJ e]
theorem XkK{n i:Int}(h:Qx x n i=-1):Cb x n i≠0:=by
 unfold Qx at h;unfold Cb;cases a:Zg x.pg n with
 |none=>simp
 |some p=>
  rw[a] at h;simp only at h⊢
  unfold Q1;split
  .decide
  .first|decide|(rw[bK h];decide)
theorem Sf{k:Int}(h:k<0):Zq M k=none:=Sg (.inl h)
theorem Xcd{l:PgL}{q:List Int}(hn:(l.map (·.1)).Nodup)(hq:(n,q)∈l)(m:Int):Zg (Zr l n p) m=if m=n then some p else Zg l m:=by
 by_cases e:m=n
 .rw[bK e,e];exact Xnb hn hq
 .rw[bJ e]
  clear hn hq
  induction l with
  |nil=>rfl
  |cons a r ih=>
   obtain⟨k,t⟩:=a;by_cases c:k=n
   .have:Zr ((k,t)::r) n p=(n,p)::Zr r n p:=by show(if k=n then (n,p) else (k,t))::Zr r n p=_;rw[bK c]
    rw[this];unfold Zg;rw[bJ (λh=>e h.symm),bJ (λh=>e (by omega))];exact ih
   .have:Zr ((k,t)::r) n p=(k,t)::Zr r n p:=by show(if k=n then (n,p) else (k,t))::Zr r n p=_;rw[bJ c]
    rw[this];unfold Zg;by_cases b:(k:Int)=m
    .rw[bK b,bK b]
    .rw[bJ b,bJ b];exact ih
theorem Xm9{l:PgL}(hn:n∉l.map (·.1))(m:Int):Zg (l++[(n,p)]) m=if m=n then some p else Zg l m:=by
 induction l with
 |nil=>
  show Zg [(n,p)] m=_
  unfold Zg;by_cases e:(n:Int)=m
  .rw[bK e,bK e.symm]
  .rw[bJ e,bJ (λh=>e h.symm)];rfl
 |cons a r ih=>
  obtain⟨k,t⟩:=a;have c:k≠n:=λh=>hn (by simp[h]);have hr:n∉r.map (·.1):=λh=>hn (by simp at h⊢;exact .inr h);show(if (k:Int)=m then some t else Zg (r++[(n,p)]) m)=if m=n then some p else (if (k:Int)=m then some t else Zg r m)
  rw[ih hr];by_cases b:(k:Int)=m
  .rw[bK b,bK b,bJ (by omega)]
  .rw[bJ b,bJ b]
theorem Xna{l:PgL}(m:Int):Zg (Qv l n) m=if m=n then none else Zg l m:=by
 induction l with
 |nil=>show none=_;split <;> rfl
 |cons a r ih=>
  obtain⟨k,t⟩:=a;by_cases c:k=n
  .have:Qv ((k,t)::r) n=Qv r n:=by unfold Qv;rw[ZI];simp[c]
   rw[this,ih];by_cases e:m=n
   .rw[bK e,bK e]
   .rw[bJ e,bJ e];show _=if (k:Int)=m then some t else Zg r m
    rw[bJ (by omega)]
  .have:Qv ((k,t)::r) n=(k,t)::Qv r n:=by unfold Qv;rw[ZI];simp[c]
   rw[this];show(if (k:Int)=m then some t else Zg (Qv r n) m)=if m=n then none else (if (k:Int)=m then some t else Zg r m)
   rw[ih];by_cases b:(k:Int)=m
   .rw[bK b,bK b,bJ (by omega)]
   .rw[bJ b,bJ b]
theorem Uq{v:Int}(h:k<p.length)(j:Int):Yb (p.set k v) j=if j=k then v else Yb p j:=by
 unfold Yb;by_cases a:0<=j
 .obtain⟨j,rfl⟩:=XE a;rw[bK a,bK a];show(p.set k v).getD j (-1)=_
  rw[Oo];by_cases e:k=j
  .subst e;rw[bK ⟨rfl,h⟩,bK rfl]
  .rw[bJ (λh=>e h.1),bJ (by omega)];rfl
 .rw[bJ a,bJ a,bJ (by omega)]
theorem R2{j:Int}(h:Yb p j≠-1):0<=j/\j<p.length:=by
 unfold Yb at h;split at h
 .rename_i a
  refine⟨a,?_⟩;refine Int.not_le.1 λb=>h ?_;rw[XA,ZF (by omega)];rfl
 .exact absurd rfl h
theorem Xbr{n i:Int}(hok:x.Ok)(h:Qx x n i≠-1):∃(m:Nat) (p:List Int),n=m/\(m,p)∈x.pg/\Zg x.pg n=some p/\0<=i/\i<x.cF/\Qx x n i=Yb p i:=by
 unfold Qx at h⊢;cases c:Zg x.pg n with
 |none=>rw[c] at h;exact absurd rfl h
 |some p=>
  rw[c] at h;simp only at h
  obtain⟨m,rfl,hm⟩:=Iq c;have d:=(hok.cI _ hm).2.1;obtain⟨a,b⟩:=R2 h;exact⟨m,p,rfl,hm,rfl,a,by simp only at d;omega,rfl⟩
theorem Xjb{n i:Int}:Cb x n i=0↔Qx x n i≠-1:=by
 constructor
 .intro h d;exact XkK d h
 .intro h;unfold Qx at h;unfold Cb;cases c:Zg x.pg n with
  |none=>rw[c] at h;exact absurd rfl h
  |some p=>
   rw[c] at h;simp only at h⊢
   obtain⟨a,b⟩:=R2 h;unfold Q1;rw[bJ (by omega),bJ h]
theorem XkD{n i:Int}(hw:0<=who):H0 x n i who=0↔Qx x n i≠-1:=by
 unfold Qx H0;cases d:Zg x.pg n with
 |none=>simp
 |some p=>
  simp only
  unfold Am;constructor
  .intro h c;split at h
   .cases h
   .first|(rw[bK c] at h;cases h)|(cases h)
  .intro h;obtain⟨a,b⟩:=R2 h;rw[bJ (by omega),bJ h]
theorem Xjd{n i:Int}(hok:x.Ok)(h:Qx x n i≠-1)(m j:Int):Qx (Af x n i) m j=if m=n/\j=i then -1 else Qx x m j:=by
 obtain⟨k,p,rfl,o,l,t,A,e⟩:=Xbr hok h;obtain⟨i,rfl⟩:=XE t;rw[e] at h;have u:=(hok.cI _ o).2.1;simp only at u
 have q:Q1 p i=0:=by unfold Q1;rw[bJ (by omega),bJ h]
 have w:Af x (k:Nat) i=x.giveAt k p i:=by unfold Af;rw[l];simp only;rw[bK q,XB]
 rw[w];have d:Yj p i=p.set i (-1):=by unfold Yj;rw[bK q,XB]
 unfold Sm.giveAt;simp only
 by_cases r:Xu (Yj p i)=0
 .rw[bK r];unfold Qx;simp only
  rw[Xna];by_cases hm:m=k
  .rw[bK hm];by_cases c:j=i
   .rw[bK ⟨hm,c⟩]
   .rw[bJ (λh=>c h.2),hm,l];simp only
    have s:Yb (Yj p i) j=-1:=Decidable.byContradiction λf=>by
     obtain⟨a,b⟩:=R2 f;obtain⟨j,rfl⟩:=XE a;have g:j<(Yj p i).length:=by omega
     have:=Ik (v:=-1) g;rw[bK rfl] at this;have y:(Yj p i).getD j 0≠-1:=by
      rw[Om g];intro z;apply f
      unfold Yb;rw[bK a,XB];exact z
     rw[bJ y] at this;omega
    rw[d,Uq (by omega),bJ c] at s;exact s.symm
  .rw[bJ hm,bJ (λh=>hm h.1)]
 .rw[bJ r];unfold Qx;simp only
  rw[Xcd hok.nodup o];by_cases hm:m=k
  .rw[bK hm,hm,l];simp only
   rw[d,Uq (by omega)];by_cases c:j=i
   .rw[bK c,bK ⟨by trivial,c⟩]
   .rw[bJ c,bJ (λh=>c h.2)]
  .rw[bJ hm,bJ (λh=>hm h.1)]
theorem XkF{n i:Int}(hok:x.Ok)(hw:0<=who)(h:Qx x n i≠-1)(m j:Int):Qx (Ba x n i who) m j=if m=n/\j=i then who else Qx x m j:=by
 obtain⟨k,p,rfl,b,c,f,q,e⟩:=Xbr hok h;obtain⟨i,rfl⟩:=XE f;rw[e] at h;have g:=(hok.cI _ b).2.1;simp only at g
 have l:Am p i who=0:=by unfold Am;rw[bJ (by omega),bJ h]
 have o:Ba x (k:Nat) i who=x.ownAt k p i who:=by unfold Ba;rw[c];simp only[XB]
 rw[o];have d:By p i who=p.set i who:=by unfold By;rw[bK l,XB]
 unfold Sm.ownAt Qx;simp only
 rw[Xcd hok.nodup b];by_cases hm:m=k
 .rw[bK hm,hm,c];simp only
  rw[d,Uq (by omega)];by_cases a:j=i
  .rw[bK a,bK ⟨by trivial,a⟩]
  .rw[bJ a,bJ (λh=>a h.2)]
 .rw[bJ hm,bJ (λh=>hm h.1)]
theorem Xhb(hok:x.Ok)(hw:0<=who)(hp:(n,p)∈x.pg)(hf:Xu p≠x.cF)(m j:Int):Qx (x.takeAt n p who) m j=(if m=n/\j=Yf p then who else Qx x m j)/\Qx x n (Yf p)=-1/\0<=Yf p/\Yf p<x.cF:=by
 have d:=(hok.cI _ hp).2.1;simp only at d
 have f:=Cc hok.nodup hp;obtain⟨e1,_⟩:=My (p:=p) (who:=who) hw (by rw[d];exact hf);have l:¬Yf p<0:=λe=>by have:=Up.1 e;omega
 obtain⟨b,c⟩:=Uu l;obtain⟨k,g⟩:=XE (show 0<=Yf p by omega);rw[g] at b c⊢;simp only[XB] at b c;have i:Qf p who=p.set k who:=by unfold Qf;rw[bK e1,g,XB]
 refine⟨?_,?_,by omega,by omega⟩
 .unfold Sm.takeAt Qx;simp only
  rw[Xcd hok.nodup hp,i];by_cases hm:m=n
  .rw[bK hm,hm,f];simp only
   rw[Uq b];by_cases a:j=k
   .rw[bK a,bK ⟨by trivial,a⟩]
   .rw[bJ a,bJ (λh=>a h.2)]
  .rw[bJ hm,bJ (λh=>hm h.1)]
 .unfold Qx;rw[f];simp only
  unfold Yb;rw[bK (by omega),XB];exact c
structure XhZ(x:Sm)(pl:PlM)(who:Int):Prop where
 own:∀m j,Qx (Ad x pl who) m j=if m=B1 x pl who/\j=B0 x pl who then who else Qx x m j
 free:Qx x (B1 x pl who) (B0 x pl who)=-1
 n:0<=B1 x pl who/\B1 x pl who<pl.own.length
 a:0<=B0 x pl who/\B0 x pl who<x.cF
 used:Y8 (Ad x pl who).pg=Y8 x.pg+1
 ok:(Ad x pl who).Ok
theorem Xhc{pl:PlM}(hok:x.Ok)(hof:x.Of pl)(hg:pl.Good)(hE:Qk x pl who=0):XhZ x pl who:=by
 rcases Ni x pl who with⟨o,_⟩|⟨_,s,⟨n,r,t,d,z,h,i,f⟩|⟨n,r,t,hf,d,z,h,i,f⟩⟩
 .exact absurd hE o
 .obtain⟨p,c⟩:=hok.osub n (by rw[t];simp);rw[Cc hok.nodup c] at h;simp only[ZU] at h;rw[h] at d f;have g:=(hok.cI _ c).2.2.1 (by rw[t];simp);simp only at g
  have u:=(hok.cI _ c).2.1;simp only at u
  have T:=λm j=>Xhb hok s c g m j;obtain⟨_,e2⟩:=My (p:=p) (who:=who) s (by rw[u];exact g);refine⟨λm j=>by rw[d,i,f];exact(T m j).1,by rw[i,f];exact(T 0 0).2.1,?_,by rw[f];exact(T 0 0).2.2,?_,by rw[d];exact hok.takeAt s c (by rw[t];simp)⟩
  .rw[i];have:=(hof _ c).1;simp only at this;omega
  .rw[d];have:=Po (p:=Qf p who) hok.nodup c;show Y8 (Zr _ _ _)=_
   omega
 .have l:=Ol hok hof hg (n:=n) (by rw[hf];simp);have C:=(hg.free n (by rw[hf];simp)).1;have w:n<1024:=by have:=hg.len;omega
  have q:=hok.fresh w l;have c:(n,List.replicate x.cF (-1))∈(x.fresh n).pg:=YY _ (by simp);rw[Cc q.nodup c] at h;simp only[ZU] at h;rw[h] at d f;have D:=hok.blk;have g:Xu (List.replicate x.cF (-1))≠(x.fresh n).cF:=by rw[Ij];show 0≠x.cF;omega
  have T:=λm j=>Xhb q s c g m j;have v:∀m j,Qx (x.fresh n) m j=Qx x m j:=λm j=>by
   unfold Qx;show(match Zg (x.pg++[(n,List.replicate x.cF (-1))]) m with|some p=>Yb p j|none=>-1)=_
   rw[Xm9 l];by_cases hm:m=n
   .rw[bK hm];have A:Zg x.pg m=none:=by
     cases hg:Zg x.pg m with
     |none=>rfl
     |some p=>
      obtain⟨k,E,y⟩:=Iq hg;have:k=n:=by omega
      subst this;exact absurd (XP.2 ⟨_,y,rfl⟩) l
    rw[A];simp only
    refine Decidable.byContradiction λo=>?_;obtain⟨a,b⟩:=R2 o;apply o
    unfold Yb;rw[bK a,XA,ZE];split <;> rfl
   .rw[bJ hm];rfl
  have u:(List.replicate x.cF (-1:Int)).length=x.cF:=XI;obtain⟨_,e2⟩:=My (p:=List.replicate x.cF (-1)) (who:=who) s (by rw[Ij,u];omega);refine⟨λm j=>by rw[d,i,f,(T m j).1,v],by rw[i,f,<-v];exact(T 0 0).2.1,by rw[i];omega,by rw[f];exact(T 0 0).2.2,?_,by rw[d];exact q.takeAt s c (by show n∈n::x.cG;simp)⟩;rw[d];have B:=Po (p:=Qf (List.replicate x.cF (-1)) who) q.nodup c;have F:Y8 (x.fresh n).pg=Y8 x.pg:=by show Y8 (x.pg++_)=_;rw[Xcf,Ij];rfl
  rw[Ij] at B e2;show Y8 (Zr _ _ _)=_
  omega
structure Qa(c:Conf)(M:RmM):Prop where
 ok:M.Ok c
 cU:Jp M
 pos:Xda M
theorem Xce(hp:x.Pos)(h:0<Xu p):∀e∈Zr x.pg n p,0<Xu e.2:=λe a=>by
 rcases G5 a with⟨rfl,_⟩|⟨_,a⟩
 .exact h
 .exact hp e a
theorem XnK{pl:PlM}(hok:x.Ok)(hpos:x.Pos)(hof:x.Of pl)(hg:pl.Good):(Ad x pl who).Pos:=by
 rcases Ni x pl who with⟨_,h,_⟩|⟨_,j,⟨n,r,f,g,m,a,_⟩|⟨n,r,f,hf,g,m,a,_⟩⟩
 .rw[h];exact hpos
 .obtain⟨p,b⟩:=hok.osub n (by rw[f];simp);rw[Cc hok.nodup b] at a;simp only[ZU] at a;rw[g,a];have c:=(hok.cI _ b).2.1;have d:=(hok.cI _ b).2.2.1 (by rw[f];simp);simp only at c d
  obtain⟨_,e2⟩:=My (p:=p) (who:=who) j (by rw[c];exact d);exact Xce hpos (by omega)
 .have i:=Ol hok hof hg (n:=n) (by rw[hf];simp);have k:n<1024:=by have:=(hg.free n (by rw[hf];simp)).1;have:=hg.len;omega
  have b:(n,List.replicate x.cF (-1))∈(x.fresh n).pg:=YY _ (by simp);rw[Cc (hok.fresh k i).nodup b] at a;simp only[ZU] at a;rw[g,a];have c:(List.replicate x.cF (-1:Int)).length=x.cF:=XI;have o:=hok.blk;obtain⟨_,e2⟩:=My (p:=List.replicate x.cF (-1)) (who:=who) j (by rw[Ij,c];omega);intro e he;rcases G5 he with⟨rfl,_⟩|⟨l,he⟩
  .show 0<Xu (Qf _ _);omega
  .rcases XS.1 he with he|he
   .exact hpos e he
   .have:e=(n,List.replicate x.cF (-1)):=by simpa using he
    subst this;exact absurd rfl l
theorem Xje{n i:Int}(hpos:x.Pos):(Af x n i).Pos:=by
 unfold Af;cases d:Zg x.pg n with
 |none=>exact hpos
 |some p=>
  simp only
  by_cases a:Q1 p i=0
  .rw[bK a];unfold Sm.giveAt;simp only
   by_cases b:Xu (Yj p i)=0
   .rw[bK b];intro e c;exact hpos e (I8.1 c).2
   .rw[bJ b];exact Xce hpos (by omega)
  .rw[bJ a];exact hpos
theorem XkH{n i:Int}(hpos:x.Pos):(Ba x n i who).Pos:=by
 unfold Ba;cases a:Zg x.pg n with
 |none=>exact hpos
 |some p=>
  obtain⟨m,rfl,hm⟩:=Iq a;exact Xce hpos (by rw[Ur];exact hpos _ hm)
theorem Xjc{n i:Int}(hok:x.Ok):(Af x n i).Ok:=by
 unfold Af;cases b:Zg x.pg n with
 |none=>exact hok
 |some p=>
  obtain⟨m,rfl,hm⟩:=Iq b;simp only[XB];by_cases a:Q1 p i=0
  .rw[bK a];exact hok.giveAt hm a
  .rw[bJ a];exact hok
theorem XkE{n i:Int}(hok:x.Ok):(Ba x n i who).Ok:=by
 unfold Ba;cases a:Zg x.pg n with
 |none=>exact hok
 |some p=>
  obtain⟨m,rfl,hm⟩:=Iq a;simp only[XB];exact hok.ownAt hm
theorem XnJ{pl:PlM}(hok:x.Ok)(hof:x.Of pl)(hg:pl.Good):(Ad x pl who).Ok:=by
 by_cases a:Qk x pl who=0
 .exact(Xhc hok hof hg a).ok
 .have:Ad x pl who=x:=by unfold Ad;rw[bJ a]
  rw[this];exact hok
section
variable {c:Conf}{M:RmM}
theorem Qa.set{k:Nat}{x x':Sm}{q:PlM}(h:Qa c M)(hx:M.shs[k]?=some x)(hE:Hl M.pl q x.cL)(hc:x'.cL=x.cL)(hb:x'.cF=x.cF)(hs:Zf q+x.pg.length=Zf M.pl+x'.pg.length)(hok:x'.Ok)(hof:x'.Of q)(hpos:x'.Pos):Qa c (Gn M k x' q):=by
 have f:=(XC.1 hx).1;obtain⟨e1,_⟩:=h.ok.cI k x hx;have get:∀(j:Nat) (y:Sm),(Gn M k x' q).shs[j]?=some y->(j=k/\y=x')\/(j≠k/\M.shs[j]?=some y):=λj y d=>by
  replace d:(M.shs.set k x')[j]?=some y:=d;by_cases e:k=j
  .subst e;rw[XH f] at d;cases d;exact .inl ⟨rfl,rfl⟩
  .rw[XJ e] at d;exact .inr ⟨λh=>e h.symm,d⟩
 refine⟨h.ok.set h.cU.cV hx hE hc hb hs,⟨λj y d=>?_,hE.cV h.cU.cV ((h.cU.sh k x hx).1.cL)⟩,λj y d=>?_⟩
 .rcases get j y d with⟨_,rfl⟩|⟨g,d⟩
  .exact⟨hok,hof⟩
  .obtain⟨a,b⟩:=h.cU.sh j y d;obtain⟨e2,_⟩:=h.ok.cI j y d;exact⟨a,hE.of h.cU.cV b (by omega) (by omega)⟩
 .rcases get j y d with⟨_,rfl⟩|⟨_,d⟩
  .exact hpos
  .exact h.pos j y d
theorem Qa.tot(h:Qa c M){t:Int}(ht:0<=t/\t<=4611686018427387904):Qa c {M with tot:=t}:=⟨{h.ok with tot:=ht},⟨h.cU.sh,h.cU.cV⟩,h.pos⟩
theorem Qa.cT(h:Qa c M)(n:Int):Qa c {M with tot:=Xw M.tot n}:=h.tot (N9 h.ok.tot)
theorem Xgi(k:Nat)(x:Sm)(q:PlM):J5 M k x q={Gn M k x q with tot:=Xw M.tot (I0 M.pl q)}:=rfl
theorem Qa.take(h:Qa c M)(k who:Int):Qa c (Qj M k who):=by
 unfold Qj;cases b:Zq M k with
 |none=>exact h
 |some x=>
  obtain⟨n,rfl,d,a⟩:=Hc b;simp only[XB];split
  .obtain⟨xo,xf⟩:=h.cU.sh n x a;obtain⟨e1,e2,e3,e4⟩:=Xcv x M.pl who h.cU.cV xo.cL;rw[Xgi];exact(h.set a e1 e2 e3 e4 (XnJ xo xf h.cU.cV) (Xhd x M.pl who xf h.cU.cV) (XnK xo (h.pos n x a) xf h.cU.cV)).tot (N9 h.ok.tot)
  .exact h
theorem Qa.give(h:Qa c M)(k n i:Int):Qa c (Q2 M k n i):=by
 unfold Q2;cases b:Zq M k with
 |none=>exact h
 |some x=>
  obtain⟨m,rfl,d,a⟩:=Hc b;simp only[XB];split
  .obtain⟨xo,xf⟩:=h.cU.sh m x a;obtain⟨e1,e2,e3,e4⟩:=XaR x M.pl n i xo xf;rw[Xgi];exact(h.set a e1 e2 e3 e4 (Xjc xo) (Xer x M.pl n i xo xf) (Xje (h.pos m x a))).tot (N9 h.ok.tot)
  .exact h
theorem Qa.own(h:Qa c M)(k n i who:Int):Qa c (Qu M k n i who):=by
 unfold Qu;cases b:Zq M k with
 |none=>exact h
 |some x=>
  obtain⟨m,rfl,d,a⟩:=Hc b;simp only[XB];obtain⟨xo,xf⟩:=h.cU.sh m x a;obtain⟨e1,e2,e3,e4⟩:=Xbn x M.pl n i who;exact h.set a e1 e2 e3 e4 (XkE xo) (Xfm x M.pl n i who xf) (XkH (h.pos m x a))
theorem Qa.big(h:Qa c M){many:Nat}(h1:1<=many)(hm:many<=M.pl.free.length):Qa c (Ev M many):=by
 obtain⟨d,_⟩:=Mz (who:=((M.shs.length:Nat):Int)) (by omega) h.cU.cV many hm;exact⟨h.ok.big h.cU.cV h1 hm,⟨λk x f=>by
  obtain⟨a,b⟩:=h.cU.sh k x f;exact⟨a,Xfz (by omega) h.cU.cV hm a.cL b⟩,d⟩,h.pos⟩
theorem XjU(h:M.Ok c){r:List Nat}(hm:(n,r)∈M.lg):(n::r).Nodup:=by
 obtain⟨A,B,eA,_⟩:=Ov h.nd hm;have e:Y6 M.lg=Y6 A++((n::r)++Y6 B):=by rw[eA,Kp];rfl
 have a:=h.nd;rw[e] at a;exact(XR.1 (XR.1 a).2.1).1
theorem Qa.cE(h:Qa c M){n:Nat}{r:List Nat}(hm:(n,r)∈M.lg):Qa c (Ip M n r):=by
 obtain⟨a,b⟩:=h.ok.cE h.cU.cV hm;have f:∀m∈n::r,m<M.pl.own.length/\M.pl.own.getD m 0=(M.shs.length:Int):=λm d=>h.ok.lg m (I7 hm d);exact⟨a,⟨λk x g=>by
  obtain⟨xo,xf⟩:=h.cU.sh k x g;have j:k<M.shs.length:=(XC.1 g).1;have i:=(h.ok.cI k x g).1;exact⟨xo,Xfy h.cU.cV (XjU h.ok hm) (λm d=>⟨(f m d).1,by have:=(f m d).2;omega⟩) xf (λm d=>by have:=(f m d).2;omega)⟩,b⟩,h.pos⟩
theorem Xi0(hmay:Zb c=true)(h:Qg c M size=0)(hp:Xm c.bT size=-1):2<=(Z9 size c.size).toNat/\(Z9 size c.size).toNat<=M.pl.free.length/\1<=size/\size<=c.cH:=by
 have hf:=Ye hmay;have d:(Di c M size:Int)<=M.pl.free.length/\¬(size<1\/c.cH<size):=by
  unfold Qg at h;split at h
  .exact absurd h (by decide)
  .split at h
   .exact absurd h (by decide)
   .exact⟨by omega,by assumption⟩
 have e:Di c M size=Z9 size c.size:=by unfold Di;rw[bK hp]
 have a:2<=Z9 size c.size:=by
  have f:=hf.size;have b:=hf.cH;have g:0<=(size-1)/c.size:=YM (by omega) (by omega);have i:(size-1)/c.size<=size-1:=QI _ (by omega);have e4:Qp size c.size=(size-1)/c.size+1:=by unfold Qp;rw[bJ (by omega)]
  unfold Z9;rw[e4,bJ (by omega)];omega
 omega
theorem Xge{q:PlM}(hk:k<M.shs.length)(j:Int):Zq (Gn M k x' q) j=if j=k then some x' else Zq M j:=by
 by_cases a:j<0
 .rw[bJ (by omega),Sf a,Sf a]
 .obtain⟨j,rfl⟩:=XE (show 0<=j by omega);have:=Xmk (M:=M) (k:=k) (j:=j) (x:=x') (q:=q) (t:=M.tot);have e:Gn M k x' q={M with shs:=M.shs.set k x',pl:=q,tot:=M.tot}:=rfl;rw[e,this];by_cases h:k=j
  .rw[bK ⟨h,hk⟩,bK (by omega)]
  .rw[bJ (λb=>h b.1),bJ (by omega)]
theorem Xb3{q:PlM}(hx:M.shs[k]?=some x)(j n a:Int):Zd (Gn M k x' q) j n a=if j=k then Qx x' n a else Zd M j n a:=by
 unfold Zd;rw[Xge ((XC.1 hx).1)];by_cases h:j=k
 .rw[bK h,bK h]
 .rw[bJ h,bJ h]
theorem Xgg(k:Nat)(x:Sm)(q:PlM)(j n a:Int):Zd (J5 M k x q) j n a=Zd (Gn M k x q) j n a:=rfl
theorem Ph(hx:M.shs[k]?=some x)(n a:Int):Zd M (k:Nat) n a=Qx x n a:=by
 unfold Zd;rw[Pe ((XC.1 hx).1),((XC.1 hx).2)]
theorem U9(h:Qa c M){k n a:Int}(ho:Zd M k n a≠-1):∃(j:Nat) (x:Sm),k=j/\j<c.bT.length/\M.shs[j]?=some x/\Qx x n a=Zd M k n a/\0<=n/\n<c.bS/\0<=a/\a<A5 c k:=by
 unfold Zd at ho;cases d:Zq M k with
 |none=>rw[d] at ho;exact absurd rfl ho
 |some x=>
  rw[d] at ho;simp only at ho
  obtain⟨j,rfl,l,b⟩:=Hc d;obtain⟨xo,xf⟩:=h.cU.sh j x b;obtain⟨m,p,rfl,hm,_,g,o,_⟩:=Xbr xo ho;have q:=(h.ok.cI j x b).2;have f:=(xf _ hm).1;have i:=h.ok.own;have r:=h.ok.n;exact⟨j,x,rfl,by omega,b,(Ph b _ _).symm,by omega,by simp only at f;omega,g,by omega⟩
theorem Xmn(h:Qa c M){k:Int}(hE:Gp M k who=0):∃(j:Nat) (x:Sm),k=j/\j<M.shs.length/\M.shs[j]?=some x/\Qk x M.pl who=0/\Qj M k who=J5 M j (Ad x M.pl who) (B2 x M.pl who)/\Ex M k who=B1 x M.pl who/\Ew M k who=B0 x M.pl who:=by
 unfold Gp at hE;cases a:Zq M k with
 |none=>rw[a] at hE;exact absurd (show(1:Int)=0 from hE) (by decide)
 |some x=>
  rw[a] at hE;obtain⟨j,rfl,b,d⟩:=Hc a;simp only at hE
  exact⟨j,x,rfl,b,d,hE,by unfold Qj;rw[a];simp only;rw[bK hE,XB],by unfold Ex;rw[a],by unfold Ew;rw[a]⟩
theorem Xcx(h:Qa c M){k:Int}(hE:Gp M k who=0):(∀j n a,Zd (Qj M k who) j n a=if j=k/\n=Ex M k who/\a=Ew M k who then who else Zd M j n a)/\Zd M k (Ex M k who) (Ew M k who)=-1:=by
 obtain⟨i,x,rfl,l,b,g,e1,e2,e3⟩:=Xmn h hE;obtain⟨xo,xf⟩:=h.cU.sh i x b;have T:=Xhc xo xf h.cU.cV g;refine⟨λj n a=>?_,by rw[e2,e3,Ph b];exact T.free⟩;rw[e1,e2,e3,Xgg,Xb3 b];by_cases d:j=i
 .rw[bK d,T.own,d,Ph b];by_cases f:n=B1 x M.pl who/\a=B0 x M.pl who
  .rw[bK f,bK ⟨rfl,f⟩]
  .rw[bJ f,bJ (λh=>f h.2)]
 .rw[bJ d,bJ (λh=>d h.1)]
theorem Xes(h:Qa c M){k n i:Int}(ho:Zd M k n i≠-1):J4 M k n i=0/\∀j m a,Zd (Q2 M k n i) j m a=if j=k/\m=n/\a=i then -1 else Zd M j m a:=by
 obtain⟨l,x,rfl,_,b,e,_⟩:=U9 h ho;obtain⟨xo,xf⟩:=h.cU.sh l x b;have g:Zq M (l:Nat)=some x:=by rw[Pe ((XC.1 b).1)];exact congrArg some (XC.1 b).2
 rw[<-e] at ho;have o:=Xjb.2 ho;have e1:Q2 M (l:Nat) n i=J5 M l (Af x n i) (Bm x M.pl n i):=by unfold Q2;rw[g];simp only;rw[bK o,XB]
 refine⟨by unfold J4;rw[g];exact o,λj m a=>?_⟩;rw[e1,Xgg,Xb3 b];by_cases d:j=l
 .rw[bK d,Xjd xo ho,d,Ph b];by_cases f:m=n/\a=i
  .rw[bK f,bK ⟨rfl,f⟩]
  .rw[bJ f,bJ (λh=>f h.2)]
 .rw[bJ d,bJ (λh=>d h.1)]
theorem XkG(h:Qa c M){k n i:Int}(hw:0<=who)(ho:Zd M k n i≠-1):Pf M k n i who=0/\∀j m a,Zd (Qu M k n i who) j m a=if j=k/\m=n/\a=i then who else Zd M j m a:=by
 obtain⟨l,x,rfl,_,b,e,_⟩:=U9 h ho;obtain⟨xo,xf⟩:=h.cU.sh l x b;have g:Zq M (l:Nat)=some x:=by rw[Pe ((XC.1 b).1)];exact congrArg some (XC.1 b).2
 rw[<-e] at ho;have e1:Qu M (l:Nat) n i who=Gn M l (Ba x n i who) M.pl:=by unfold Qu;rw[g];simp only[XB]
 refine⟨by unfold Pf;rw[g];exact(XkD hw).2 ho,λj m a=>?_⟩;rw[e1,Xb3 b];by_cases d:j=l
 .rw[bK d,XkF xo hw ho,d,Ph b];by_cases f:m=n/\a=i
  .rw[bK f,bK ⟨rfl,f⟩]
  .rw[bJ f,bJ (λh=>f h.2)]
 .rw[bJ d,bJ (λh=>d h.1)]
end
theorem XaP{x:List Bool}(h:j<x.length):x.getD j false=x[j]:=by rw[XA,XD h];rfl
theorem Xjw{x:List Bool}(h:cnt x≠0):∃t,t<x.length/\x.getD t false=true/\Rl x=(t:Int):=by
 have key:∀m,m<=x.length->(∀j,m<=j->x.getD j false=false)->(∀j,x.getD j false=false)\/∃t,t<x.length/\x.getD t false=true/\∀j,t<j->x.getD j false=false:=by
  intro m
  induction m with
  |zero=>intro _ h;exact .inl λj=>h j (XQ _)
  |succ m ihm=>
   intro hm h;cases f:x.getD m false with
   |true=>exact .inr ⟨m,by omega,f,λj a=>h j a⟩
   |false=>exact ihm (by omega) λj a=>(Nat.eq_or_lt_of_le a).elim (λe=>e▸f) (λe=>h j e)
 rcases key x.length (XF _) (λj a=>by rw[XA,ZF a];rfl) with k|⟨t,b,c,g⟩
 .exfalso
  apply h
  have d:x=List.replicate x.length false:=by
   apply List.ext_getElem (by simp)
   intro j l n;rw[<-XaP l,k j];simp
  rw[d,XaC]
 .exact⟨t,b,c,XbY (p:=id) b (λj a i=>by rw[<-XaP a];exact g j i) (by rw[<-XaP b];exact c)⟩
theorem XkU(h:0<Xu p):∃t,t<p.length/\Lh p=(t:Int)/\p.getD t (-1)≠-1:=by
 obtain⟨t,a,b,c⟩:=Xjw (x:=Y1 p) (by unfold Xu at h;omega);rw[Fq] at a;rw[R0] at b;exact⟨t,a,c,by simpa using b⟩
def Lq(x:Sm):Int×Int×Int×Int:=if 2<=x.cG.length then (Bu (-1) x.cG,Lh ((Zg x.pg (Bu (-1) x.cG)).getD []),Ch x.cG,Yf ((Zg x.pg (Ch x.cG)).getD [])) else (0,0,0,0)
def Ym(M:RmM)(k:Int):Int×Int×Int×Int:=match Zq M k with|none=>(0,0,0,0)|some x=>Lq x
theorem Xgh(M:RmM)(k:Int):Nb M k=Kt (Ym M k).1 (Ym M k).2.1 (Ym M k).2.2.1 (Ym M k).2.2.2:=by
 unfold Nb Ym;cases Zq M k with
 |none=>rfl
 |some x=>
  show H1 x=Kt (Lq x).1 (Lq x).2.1 (Lq x).2.2.1 (Lq x).2.2.2
  unfold H1 Lq;split <;> rfl
structure Xdd(M:RmM)(k:Nat):Prop where
 own:Zd M k (Ym M k).1 (Ym M k).2.1≠-1
 e:∀who:Int,0<=who->Gp M k who=0
 n:∀who:Int,0<=who->Ex M k who=(Ym M k).2.2.1
 a:∀who:Int,0<=who->Ew M k who=(Ym M k).2.2.2
 ne:(Ym M k).1≠(Ym M k).2.2.1
theorem XkZ(h:Qa c M)(hB:Jg M k=true):Xdd M k:=by
 unfold Jg at hB;cases l:Zq M k with
 |none=>rw[l] at hB;exact absurd hB (by decide)
 |some x=>
  rw[l] at hB;have d:=bL hB;obtain⟨j,L,K,y⟩:=Hc l;obtain rfl:k=j:=by omega
  obtain⟨xo,xf⟩:=h.cU.sh k x y;obtain⟨f,B,C,l',q⟩:=(Kn (-1) x.cG).resolve_left (λe=>by rw[e.1] at d;simp at d);obtain⟨t,r,hr⟩:∃t r,x.cG=t::r:=by
   cases g:x.cG with
   |nil=>rw[g] at d;simp at d
   |cons t r=>exact⟨t,r,rfl⟩
  obtain⟨p,z⟩:=xo.osub f B;obtain⟨D,u⟩:=xo.osub t (by rw[hr];simp);have o:Ym M k=(((f:Nat):Int),Lh p,((t:Nat):Int),Yf D):=by
   unfold Ym;rw[l];show Lq x=_
   unfold Lq;rw[bK d,C,hr];show((f:Int),Lh ((Zg x.pg f).getD []),(t:Int),Yf ((Zg x.pg t).getD []))=_
   rw[Cc xo.nodup z,Cc xo.nodup u];rfl
  have E:∀who:Int,0<=who->Qk x M.pl who=0:=λwho a=>by unfold Qk;rw[bJ (by omega),bJ (by omega)]
  have F:∀who:Int,0<=who->B1 x M.pl who=t/\B0 x M.pl who=Yf D:=λwho a=>by
   rcases Ni x M.pl who with⟨v,_⟩|⟨_,_,⟨n,r',g,_,_,A,H,G⟩|⟨n,r',g,_⟩⟩
   .exact absurd (E who a) v
   .rw[hr] at g;obtain⟨e1,_⟩:=List.cons.inj g;subst e1;rw[Cc xo.nodup u] at A;simp only[ZU] at A;rw[A] at G;exact⟨H,G⟩
   .rw[hr] at g;cases g
  have v:f≠t:=λe=>by
   have w:=xo.onodup;rw[q] at w d;cases l' with
   |nil=>simp at d
   |cons b s=>
    obtain⟨e1,_⟩:=List.cons.inj (q.symm.trans hr);obtain⟨_,_,I⟩:=XR.1 w;exact I b (by simp) f (by simp) (e1.trans e.symm)
  have m:=l;refine⟨?_,λwho a=>by unfold Gp;rw[m];exact E who a,λwho a=>by unfold Ex;rw[m,o];exact(F who a).1,λwho a=>by unfold Ew;rw[m,o];exact(F who a).2,by rw[o];simp only;omega⟩;rw[o,Ph y];simp only
  obtain⟨i,J,e1,e2⟩:=XkU ((h.pos k x y) _ z);simp only at J e1 e2
  unfold Qx;rw[Cc xo.nodup z];simp only
  rw[e1];unfold Yb;rw[bK (by omega),XB];exact e2
structure Ar where
 ab:Nat
 db:Nat
 mc:Nat
 mb:Option Nat
structure ArV where
 bs:List Int
 total:Int
 dA:Int
abbrev Xhs(A:Ar):dE:=.func (.func 185) #[] #[.pointer (some ⟨A.mc,0,none⟩)]
structure X8(w:dD)(A:Ar)(V:ArV):Prop where
 obj:w.heap[A.ab]?=some (.cells #[.slice (some ⟨A.db,0,none⟩) V.bs.length V.bs.length,Xhs A] 242 (0,0))
 dat:w.heap[A.db]?=some (.cells (V.bs.map (Value.int .u8)).toArray 5 (0,0))
 cap:w.heap[A.mc]?=some (.cells #[Jf A.mb] 152 (0,0))
 met:∀b,A.mb=some b->Bf w b V.total V.dA
 len:V.bs.length<=4194304
 rng:∀x∈V.bs,0<=x/\x<256
theorem H7{a t':Nat}{c c':Array dE}{f f':Nat×Nat}(h:w.heap[a]?=some (.cells c t f))(h':w.heap[b]?=some (.cells c' t' f'))(ht:t≠t'):a≠b:=by
 intro e;subst e;rw[h] at h';cases h';exact ht rfl
def Yv(A:Ar):Nat->Prop:=λb=>A.mb=some b
def Zy(A:Ar):Nat->Prop:=λb=>b=A.db\/A.mb=some b
def ArV.cT(V:ArV)(A:Ar)(n:Int):ArV:=match A.mb with
 |none=>V
 |some _=>{V with total:=Xw V.total n}
theorem ArV.charge_bs(V:ArV)(A:Ar)(n:Int):(V.cT A n).bs=V.bs:=by unfold ArV.cT;split <;> rfl
theorem ArV.charge_lap(V:ArV)(A:Ar)(n:Int):(V.cT A n).dA=V.dA:=by unfold ArV.cT;split <;> rfl
theorem X8.bR{A:Ar}{V:ArV}(h:X8 w A V)(hc:Xc S w w')(hs:∀b,b=A.ab\/b=A.db\/b=A.mc\/A.mb=some b -> ¬S b):X8 w' A V:=
 ⟨hc.heap h.obj (hs _ (.inl rfl)),hc.heap h.dat (hs _ (.inr (.inl rfl))),hc.heap h.cap (hs _ (.inr (.inr (.inl rfl)))),λb a=>⟨hc.heap (h.met b a).1 (hs _ (.inr (.inr (.inr a)))),(h.met b a).2⟩,h.len,h.rng⟩
theorem X8.bQ{A:Ar}{V:ArV}(h:X8 w A V)(hc:Xc Xe w w'):X8 w' A V:=h.bR hc λ_ _ h=>h
theorem X8.metered{A:Ar}{V:ArV}{t:Int}(h:X8 w A V)(hb:A.mb=some b)(hm:Bf w' b t V.dA)(hc:Xc (λx=>x=b) w w'):X8 w' A {V with total:=t}:=by
 have c:=(h.met b hb).1;refine⟨hc.heap h.obj (λe=>H7 h.obj c (by decide) e),hc.heap h.dat (λe=>H7 h.dat c (by decide) e),hc.heap h.cap (λe=>H7 h.cap c (by decide) e),λb' a=>?_,h.len,h.rng⟩;rw[hb] at a;cases a;exact hm
def Nm(N:Nat)(at' n:Int):Bool:=decide (0<=at') && decide (0<=n) && decide (n<=N) && decide (at'<=N-n)
theorem XcD{at' n:Int}:Nm N at' n=true↔0<=at'/\0<=n/\n<=N/\at'<=N-n:=by unfold Nm;simp[and_assoc]
abbrev XgL(A:Ar)(N at' n:Nat):dE:=.slice (Aa (some ⟨A.db,0,none⟩) N at' 1) n (N-at')
theorem Xdn(A:Ar)(V:ArV)(i n:Nat)(w:dD)(h:X8 w A V)(ht:i+n<=V.bs.length):Xf prog 281 #[.pointer (some ⟨A.ab,0,none⟩),.int .i64 i,.int .i64 n] w (X5 (.tuple #[XgL A V.bs.length i n,.int .i64 0]) w):=by
 have a:=h.len;exact aR func281 ntmps281 aA (aS aA (aS aA (bB h.obj aA (aS aA (bB h.obj aA (aV aA (aS aA (bB h.obj aA (aV aA (Xa.slice Xb rfl (l:=i) (h:=(i+n)) (by first|rfl|omega|simp[Dw]) (by first|rfl|omega|simp[Ds]) (by omega) (by omega) rfl (bE func281 aA ⟨by rw[show i+n-i=n from by omega],rfl⟩)))))))))))
theorem Xig(A:Ar)(V:ArV)(n:Int)(w:dD)(h:X8 w A V):Xf prog 185 #[.int .i64 n,.pointer (some ⟨A.mc,0,none⟩)] w (λ_ w'=>X8 w' A (V.cT A n)/\Xc (Yv A) w w'):=by
 have c:=h.cap;cases a:A.mb with
 |none=>
  rw[a] at c;refine aR func185 ntmps185 aA (bB c aA (aP aA (Xbc n w) ?_));rintro _ f rfl;have e:V.cT A n=V:=by unfold ArV.cT;rw[a]
  exact aN aA (bE func185 aA ⟨by rw[e];exact h,Xc.refl _ _⟩)
 |some b=>
  rw[a] at c;refine aR func185 ntmps185 aA (bB c aA (aP aA (Xbb b V.total V.dA n w (h.met b a)) ?_));rintro _ f ⟨hm,d⟩;have e:V.cT A n={V with total:=Xw V.total n}:=by unfold ArV.cT;rw[a]
  exact aN aA (bE func185 aA ⟨by rw[e];exact h.metered a hm d,d.mono (λx _ g=>by unfold Yv;rw[g];exact a)⟩)
theorem Xie(A:Ar)(V:ArV)(i n:Nat)(w:dD)(h:X8 w A V)(ht:i+n<=V.bs.length):Xf prog 231 #[.pointer (some ⟨A.ab,0,none⟩),.int .i64 i,.int .i64 n] w (λv w'=>v=.tuple #[XgL A V.bs.length i n,.int .i64 0]/\X8 w' A (V.cT A n)/\Xc (Yv A) w w'):=by
 refine aR func231 ntmps231 aA (bH (Xdn A V i n w h ht) aA (bI aA (bB h.obj aA (aP aA (Xig A V n w h) ?_))));rintro _ c ⟨a,b⟩;exact aN aA (bE func231 aA ⟨rfl,a,b⟩)
theorem Xab(A:Ar)(V:ArV)(w:dD)(h:X8 w A V):Xf prog 189 #[.pointer (some ⟨A.ab,0,none⟩)] w (X5 (.int .i64 V.bs.length) w):=by
 exact aR func189 ntmps189 aA (bB h.obj aA (bE func189 aA ⟨rfl,rfl⟩))
def N3(p s:Int):Bool:=decide (1<=p) && decide (p<=1024) && decide (64<=s) && decide (s<=4096) && (s%8 == 0)
theorem Te{p s:Int}:N3 p s=true↔1<=p/\p<=1024/\64<=s/\s<=4096/\s%8=0:=by unfold N3;simp[and_assoc]
def X6(n:Nat):List Int:=List.replicate n 0
theorem V5:∀n,Y3 [Value.int .u8 0] n=(X6 n).map (Value.int .u8)
 |0=>rfl
 |n+1=>by rw[Y3,V5 n];simp[X6,YF]
theorem Xib(mb:Option Nat)(total dA:Int)(p s:Int)(w:dD)(hm:∀b,mb=some b->Bf w b total dA)(ht:N3 p s=true):Xf prog 117 #[.int .i64 p,.int .i64 s,Jf mb] w
 (λv w'=>∃A:Ar,v=.tuple #[.pointer (some ⟨A.ab,0,none⟩),.int .i64 0]/\A.mb=mb/\w.heap.size<=A.ab/\w.heap.size<=A.db/\w.heap.size<=A.mc/\X8 w' A ⟨X6 (p*s).toNat,total,dA⟩/\Xc Xe w w'):=by
 have g:=Te.1 ht;have z:0<=p*s:=ZJ (by omega) (by omega);have B:p*s<=1024*4096:=ZG (by omega) (by omega) (by omega) (by omega);refine aR func117 ntmps117 aA (bC aA λmc C e1 j h t=>aS aA (aS aA (aS aA (aS aA (Xa.div Xb rfl (by omega) (Hb (by omega)) rfl (aI aA (by simp;omega) (aV aA (Xa.make Xb (m:=(p*s).toNat) (k:=(p*s).toNat) rfl (by omega) (by omega) (XF _) (by simp only;omega) (by omega) λdb D e2 i d u=>aN aA (aO aA (bC aA λab o e3 f c y=>?_))))))))));have q:(Y3 (Yz (Value.int .u8 0)) (p*s).toNat)=(X6 (p*s).toNat).map (Value.int .u8):=V5 _;rw[q] at i;have a:(X6 (p*s).toNat).length=(p*s).toNat:=XI;rw[<-a] at f;have l:X8 o ⟨ab,db,mc,mb⟩ ⟨X6 (p*s).toNat,total,dA⟩:=
  ⟨f,c.bP i,c.bP (d.bP j),λb n=>⟨c.bP (d.bP (h.bP (hm b n).1)),(hm b n).2⟩,by rw[a];omega,λx r=>by rw[YA r];omega⟩
 rw[a] at f;exact bE func117 aA ⟨⟨ab,db,mc,mb⟩,rfl,rfl,by simp only;omega,by simp only;omega,by simp only;omega,l,(h.trans d).trans c⟩
variable {A:Ar}{V:ArV}
theorem Rd.metered(hr:Rd .u8 w a l)(h:X8 w A V)(hc:Xc (Yv A) w w'):Rd .u8 w' a l:=λi f=>by
 obtain⟨b,off,e,c⟩:=hr i f;refine⟨b,off,e,?_⟩;have d:¬Yv A b:=λg=>by
  rw[Ys ((h.met b g).1)] at c
  match hj:off+i,c with
  |0,c=>simp at c
  |1,c=>simp at c
  |k+2,c=>simp at c
 rw[<-c];simp only[World.cell?,hc.block b (World.block_lt_of_cell? w _ c) d]
def Q4(bs:List Int)(i:Nat)(l:List Int):List Int:=bs.take i++l++bs.drop (i+l.length)
theorem Jm(h:i+l.length<=bs.length):(Q4 bs i l).length=bs.length:=by unfold Q4;simp;omega
theorem Nu{x:Int}(h:x∈Q4 bs i l):x∈bs\/x∈l:=by
 unfold Q4 at h;simp only[XS] at h;rcases h with(h|h)|h
 .exact .inl (ZA h)
 .exact .inr h
 .exact .inl (ZT h)
theorem V3:Q4 bs i []=bs:=by unfold Q4;simp
def Qi(l:List Int):Prop:=∀x∈l,0<=x/\x<256
theorem X8.laid(h:X8 w A V)(hd:w'.heap[A.db]?=some (.cells (bs.map (Value.int .u8)).toArray 5 (0,0)))(hc:Xc (λb=>b=A.db) w w')(hl:bs.length=V.bs.length)(hr:Qi bs):X8 w' A {V with bs:=bs}:=
 ⟨by rw[hl];exact hc.heap h.obj (λe=>H7 h.obj h.dat (by decide) e),hd,hc.heap h.cap (λe=>H7 h.cap h.dat (by decide) e),λb a=>⟨hc.heap (h.met b a).1 (λe=>H7 (h.met b a).1 h.dat (by decide) e),(h.met b a).2⟩,by rw[hl];exact h.len,hr⟩
theorem XgM(h:i+n<=N)(hn:0<n):Aa (some ⟨A.db,0,none⟩) N i 1=some ⟨A.db,i,none⟩:=by
 unfold Aa;rw[bJ (by omega),QY,Cr]
 simp
theorem Tf(A:Ar)(V:ArV)(i n:Nat)(w:dD)(h:X8 w A V)(ht:i+n<=V.bs.length):Xf prog 231 #[.pointer (some ⟨A.ab,0,none⟩),.int .i64 i,.int .i64 n] w
 (λv w'=>∃x,v=.tuple #[.slice x n (V.bs.length-i),.int .i64 0]/\(0<n->x=some ⟨A.db,i,none⟩)/\x.isSome=true/\X8 w' A (V.cT A n)/\Xc (Yv A) w w'):=
 (Xie A V i n w h ht).mono λ_ _ ⟨a,b,c⟩=>⟨_,a,λd=>XgM ht d,by unfold Aa;split <;> rfl,b,c⟩
theorem Xid(A:Ar)(V:ArV)(i:Nat)(a:Option Addr)(cap:Nat)(l:List Int)(w:dD)(h:X8 w A V)(hr:Rd .u8 w a l)(hb:Qi l)(ht:i+l.length<=V.bs.length):Xf prog 168 #[.pointer (some ⟨A.ab,0,none⟩),.int .i64 i,.slice a l.length cap] w (λv w'=>v=.int .i64 0/\X8 w' A {V.cT A l.length with bs:=Q4 V.bs i l}/\Xc (Zy A) w w'):=by
 refine aR func168 ntmps168 aA (aP aA (Tf A V i l.length w h ht) ?_);rintro _ s ⟨x,rfl,j,_,k,o⟩;refine aN aA ?_;have c:Xc (Zy A) w s:=o.mono λb _ hb=>.inr hb;have e1:=V.charge_bs A l.length;by_cases p:l.length=0
 .refine Xa.copy0 Xb rfl (by simp[p]) rfl ?_;have m:l=[]:=YG p;subst m;exact bE func168 aA ⟨rfl,by rw[V3,<-V.charge_bs A 0];exact k,c⟩
 .have q:=j (by omega);subst q;have r:=hr.metered h o;have t:∃aa,a=some aa:=by obtain⟨b,off,e,_⟩:=hr 0 (by omega);exact⟨_,e⟩
  obtain⟨aa,rfl⟩:=t;have d:=k.dat;rw[e1] at d;refine Xa.copy Xb rfl d (cs:=l.map (Value.int .u8)) (by simp) r.cells (by simp;omega) J1 λz f g y=>aN aA ?_;have n:(V.bs.map (Value.int .u8)).take i++l.map (Value.int .u8)++(V.bs.map (Value.int .u8)).drop (i+(l.map (Value.int .u8)).length)=(Q4 V.bs i l).map (Value.int .u8):=by
   unfold Q4;simp[QZ,List.map_drop]
  rw[n] at f;have u:=k.laid f g (by rw[Jm ht,e1]) (λx j=>(Nu j).elim (h.rng x) (hb x));exact bE func168 aA ⟨rfl,u,c.trans (g.mono λb _ hb=>.inl hb)⟩
def Xdc(base:Nat)(w:dD)(v:dE)(l:List Int):Prop:=∃g cap cur,v=.slice (some ⟨g,0,none⟩) l.length cap/\base<=g/\w.heap[g]?=some (.cells cur 5 (0,0))/\l.length<=cap/\cur.toList.take l.length=l.map (Value.int .u8)
theorem Xm0(aa:Addr)(cap:Nat)(l:List Int)(w:dD)(hr:Rd .u8 w (some aa) l)(hl:l.length<=4194304):Xf prog 232 #[.slice (some aa) l.length cap] w (λv w'=>Xdc w.heap.size w' v l/\Xc Xe w w'):=by
 have q:maxLen=9223372036854775807:=rfl;refine aR func232 ntmps232 aA (aS aA (Xa.buildSlice Xb rfl λb j e1 k a r=>aN aA ?_));have c:Xl w.heap.size 5 1 j (.slice (some ⟨b,0,none⟩) 0 0) 0 []:=Xl.empty (by omega) k;refine Xa.append (base:=w.heap.size) (xs:=[]) (news:=l.map (Value.int .u8)) Xb rfl c a.size (by simp) (hr.bR a).cells J1 (by simp only;omega) λs t d f h=>aN aA ?_;have i:=c.bU a (XF _) f;rcases d.2 with⟨m,_⟩|⟨g,cap',cur,rfl,n,o,u,_,_,p⟩
 .exact absurd (h.1.1 m).1 (by simp)
 .exact bE func232 aA ⟨⟨g,cap',cur,by simp,n,o,by omega,by simpa using p⟩,i⟩
def sub(bs:List Int)(i n:Nat):List Int:=(bs.drop i).take n
theorem Hf(h:i+n<=bs.length):(sub bs i n).length=n:=by unfold sub;simp;omega
theorem X8.sub{w:dD}{A:Ar}{V:ArV}{x:Option Addr}{i n:Nat}(h:X8 w A V)(hx:0<n->x=some ⟨A.db,i,none⟩)(ht:i+n<=V.bs.length):Rd .u8 w x (sub V.bs i n):=λj a=>by
 rw[Hf ht] at a;refine⟨A.db,i,hx (by omega),?_⟩;rw[Ys h.dat];have:(Go.Proofs.YtdeihcnepljjaaaGreatDoor.sub V.bs i n).getD j 0=V.bs[i+j]'(by omega):=by unfold Go.Proofs.YtdeihcnepljjaaaGreatDoor.sub;simp[QW,a,show i+j<V.bs.length from by omega]
 rw[this];simp[show i+j<V.bs.length from by omega]
theorem Xic(A:Ar)(V:ArV)(i n:Nat)(w:dD)(h:X8 w A V)(ht:i+n<=V.bs.length):Xf prog 165 #[.pointer (some ⟨A.ab,0,none⟩),.int .i64 i,.int .i64 n] w (λv w'=>∃v',v=.tuple #[v',.int .i64 0]/\Xdc w.heap.size w' v' (sub V.bs i n)/\X8 w' A (V.cT A n)/\Xc (Yv A) w w'):=by
 have q:=h.len;refine aR func165 ntmps165 aA (aP aA (Tf A V i n w h ht) ?_);rintro _ j ⟨x,rfl,k,l,f,b⟩;refine aN aA ?_;obtain⟨aa,rfl⟩:=Option.isSome_iff_exists.1 l;have e1:=V.charge_bs A n;have hr:=f.sub (i:=i) (n:=n) k (by rw[e1];exact ht);rw[e1] at hr;have c:=Xm0 aa (V.bs.length-i) (sub V.bs i n) j hr (by rw[Hf ht];omega);rw[Hf ht] at c;refine aP aA (c) ?_;rintro m r ⟨o,d⟩;refine aN aA ?_;obtain⟨g,cap,cur,p,s,a⟩:=o;exact bE func165 aA ⟨m,rfl,⟨g,cap,cur,p,by have:=b.size;omega,a⟩,f.bQ d,b.trans d.gr⟩
theorem XcW(h:0<=z/\z<18446744073709551616):IntKind.u64.wrap z=z:=by
 simp only[IntKind.wrap,IntKind.signed,IntKind.bits]
 first|omega|(simp;omega)
def Bt(n top:Int):Bool:=decide (0<=n) && decide (n<top)
theorem Mm{n top:Int}:Bt n top=true↔0<=n/\n<top:=by unfold Bt;simp
def Yk(c:Conf)(q:Plc):Bool:=
 if q.cL=-1 then decide (0<q.bS.length) && !q.bS.any (λn=>!Bt n c.bS)
 else Bt q.cL c.bT.length && Bt q.cR c.bS && Bt q.idx (A5 c q.cL)
def Ya(c:Conf)(k:Int):Int:=c.bT.getD k.toNat 0
def Z5(c:Conf)(q:Plc):Int:=if Yk c q then (if q.cL=-1 then q.bS.length*c.size else Ya c q.cL) else 0
def Ai(c:Conf)(q:Plc):Int:=if Yk c q=true/\q.cL≠-1 then q.cR*c.size+q.idx*Ya c q.cL else -1
structure Vw where
 vb:Nat
 c:Conf
 p:Y4
 ab:Nat
 mb:Option Nat
def Nr(v:Vw):List dE:=Zj v.c v.p++[.pointer (some ⟨v.ab,0,none⟩),Jf v.mb]
abbrev Fz(v:Vw):dE:=.pointer (some ⟨v.vb,0,none⟩)
structure Bp(w:dD)(v:Vw):Prop where
 obj:w.heap[v.vb]?=some (.cells (Nr v).toArray 226 (0,0))
 cO:Yu w v.c v.p
 may:Zb v.c=true
theorem Bp.bQ{v:Vw}(h:Bp w v)(hc:Xc Xe w w'):Bp w' v:=⟨hc.bP h.obj,h.cO.bR hc,h.may⟩
theorem Vz(n top:Int)(w:dD):Xf prog 278 #[.int .i64 n,.int .i64 top] w (X5 (.bool (Bt n top)) w):=by
 refine aR func278 ntmps278 aA (aT aA (λh=>?_) λh=>?_)
 .have g:=bL h;exact bE func278 aA ⟨Q0 (by unfold Bt;rw[bN g];rfl),rfl⟩
 .have g:=bM h;exact bE func278 aA ⟨Q0 (by unfold Bt;rw[bO g];rfl),rfl⟩
abbrev G9(w:dD)(b:Nat)(v:Vw):Prop:=w.heap[b]?=some (.cells ([Fz v]:List dE).toArray 155 (0,0))
theorem Xn5(v:Vw)(b:Nat)(x:Int)(w:dD)(h:Bp w v)(hb:G9 w b v):Xf prog 277 #[.int .i64 x,.pointer (some ⟨b,0,none⟩)] w (X5 (.bool (!Bt x v.c.bS)) w):=by
 exact aR func277 ntmps277 aA (bB hb aA (bB h.obj aA (bH (Vz x v.c.bS w) aA (bE func277 aA ⟨rfl,rfl⟩))))
theorem XcN(v:Vw)(q:Plc)(w:dD)(h:Bp w v)(hq:Zp w q):Xf prog 229 #[Fz v,.agg (Xv q).toArray] w (Grow (.bool (Yk v.c q)) w):=by
 have l:=hq.len;refine aR func229 ntmps229 aA (bC aA λvb D e1 t u B=>bC aA λqb p e2 b o C=>?_);have i:=u.trans o;have d:=h.bQ i;have c:=o.bP t;have m:=hq.bQ i;obtain⟨cL,cR,idx,pa,pc,bS⟩:=q;replace b:p.heap[qb]?=some (.cells ([.int .i64 cL,.int .i64 cR,.int .i64 idx,.slice pa bS.length pc]:List dE).toArray 83 (0,0)):=b;replace m:=m.rd;replace l:bS.length<=9223372036854775807:=l;refine Xa.cJ Xb rfl c rfl rfl ?_;refine Xa.cJ Xb rfl b rfl rfl ?_;refine Xa.fork Xb rfl rfl rfl (λj=>?_) (λj=>?_)
 .have g:cL=-1:=by simpa using j
  refine Xa.cJ Xb rfl b rfl rfl ?_;by_cases y:0<bS.length
  .refine Xa.yes Xb rfl (bN (by omega)) rfl ?_;exact bB b aA (bH (XgE pa pc 277 bS [.pointer (some ⟨vb,0,none⟩)] (λn=>!Bt n v.c.bS) p m l (λx _=>Xn5 v vb x p d c)) aA (bE func229 aA ⟨Q0 (by unfold Yk;simp only;rw[bK g,bN y];rfl),i⟩))
  .exact aS aA (bE func229 aA ⟨Q0 (by unfold Yk;simp only;rw[bK g,bO y];rfl),i⟩)
 .have g:¬cL=-1:=by simpa using j
  have z:Yk v.c ⟨cL,cR,idx,pa,pc,bS⟩=(Bt cL v.c.bT.length && Bt cR v.c.bS && Bt idx (A5 v.c cL)):=by unfold Yk;simp only;rw[bJ g]
  rw[z];refine aQ 32 Xe (by kernel_rfl) aA λa=>aE a b aA (aE a c aA (aE a d.obj aA (aH a (λw' k=>Vz cL v.c.bT.length w') aA ?_)));refine Xd.fork Xb a rfl rfl rfl (λr=>?_) (λr=>?_)
  .rw[r];refine aE a b aA (aE a c aA (aE a d.obj aA (aH a (λw' k=>Vz cR v.c.bS w') aA ?_)));refine Xd.fork Xb a rfl rfl rfl (λs=>?_) (λs=>?_)
   .rw[s];exact aE a b aA (aE a c aA (aE a d.obj aA (aE a b aA (aG a (λw' k=>XdR v.c v.p cL w' (d.cO.bR k)) aA (aH a (λw' k=>Vz idx (A5 v.c cL) w') aA (aF a aA λA f=>bE func229 aA ⟨rfl,i.trans f⟩))))))
   .rw[s];exact aF a aA λA f=>bE func229 aA ⟨rfl,i.trans f⟩
  .rw[r];exact aF a aA λA f=>bE func229 aA ⟨rfl,i.trans f⟩
theorem D9(h:Zb c=true):(64<=c.size/\c.size<=4096/\c.size%8=0)/\(1<=c.bS/\c.bS<=1024)/\Bs c.bT c.size=true:=by
 obtain⟨a,b,d,_⟩:=E8.1 h;exact⟨Nk.1 a,b,d⟩
theorem If(hm:Zb c=true)(h:Yk c q=true)(hc:q.cL≠-1):∃k pg ix:Nat,q.cL=k/\q.cR=pg/\q.idx=ix/\k<c.bT.length/\(pg:Int)<c.bS/\8<=Ya c k/\Ya c k<=c.size/\0<=(pg:Int)*c.size/\0<=(ix:Int)*Ya c k/\(ix:Int)*Ya c k+Ya c k<=c.size/\(pg:Int)*c.size+(ix:Int)*Ya c k+Ya c k<=c.size*c.bS:=by
 obtain⟨s,t,l⟩:=D9 hm;unfold Yk at h;rw[bJ hc] at h;simp only[XK,Mm] at h;obtain⟨⟨⟨m,u⟩,n,v⟩,o,p⟩:=h;obtain⟨k,f⟩:=XE m;obtain⟨pg,g⟩:=XE n;obtain⟨ix,b⟩:=XE o;have d:k<c.bT.length:=by omega
 obtain⟨r,w,i⟩:=Xay l k d;have a:Ya c k=c.bT.getD k 0:=rfl;rw[<-a] at r i;have j:A5 c q.cL=c.size/Ya c k:=by
  unfold A5;rw[f,bK (by omega),XB,<-a,V0 (by omega) (by omega)]
 rw[j,b] at p;have e1:(ix:Int)*Ya c k+Ya c k<=c.size:=by
  have:((ix:Int)+1)*Ya c k<=c.size:=by
   calc ((ix:Int)+1)*Ya c k<=(c.size/Ya c k)*Ya c k:=ZD (by omega) (by omega)
    _<=c.size:=Int.ediv_mul_le _ (by omega)
  rw[QL,QM] at this;exact this
 have e2:(pg:Int)*c.size+c.size<=c.size*c.bS:=by
  have:((pg:Int)+1)*c.size<=c.bS*c.size:=ZD (by omega) (by omega);rw[QL,QM,YQ c.bS] at this;exact this
 refine⟨k,pg,ix,f,g,b,d,by omega,by omega,i,ZJ (by omega) (by omega),ZJ (by omega) (by omega),e1,by omega⟩
theorem T6(h:Yk c q=true)(hc:q.cL=-1):0<q.bS.length/\∀n∈q.bS,0<=n/\n<c.bS:=by
 unfold Yk at h;rw[bK hc] at h;simp only[XK,decide_eq_true_eq,Bool.not_eq_true'] at h;refine⟨h.1,λn a=>?_⟩;have:=QE.1 h.2 n a;simp at this;exact Mm.1 this
theorem Bp.cL{v:Vw}(h:Bp w v)(hk:k<v.c.bT.length):∃b off,v.p.ca=some ⟨b,off,none⟩/\w.cell? ⟨b,off+k,none⟩=some (.int .i64 (Ya v.c k)):=h.cO.bT k hk
theorem Nj(hm:Zb c=true):64<=c.size*c.bS/\c.size*c.bS<=4194304:=by
 obtain⟨a,b,_⟩:=D9 hm;constructor
 .calc (64:Int)=64*1:=rfl
   _<=c.size*c.bS:=ZG (by omega) (by omega) (by omega) (by omega)
 .calc c.size*c.bS<=4096*1024:=ZG (by omega) (by omega) (by omega) (by omega)
   _=4194304:=rfl
theorem XcL(v:Vw)(q:Plc)(w:dD)(h:Bp w v)(hq:Zp w q)(hfew:q.bS.length<=1000000000):Xf prog 177 #[Fz v,.agg (Xv q).toArray] w (Grow (.int .i64 (Z5 v.c q)) w):=by
 obtain⟨F,G,H⟩:=D9 h.may;refine aR func177 ntmps177 aA (bC aA λqb y e1 p f A=>?_);have r:=h.bQ f;refine bB p aA (bG (XcN v q y r (hq.bQ f)) aA λI i=>?_);have b:=i.bP p;have l:=r.bQ i;have t:=f.trans i;cases o:Yk v.c q with
 |false=>
  exact bI aA (bE func177 aA ⟨Xz (by unfold Z5;rw[o];rfl),t⟩)
 |true=>
  refine aS aA (bB b aA (aT aA (λd=>?_) λd=>?_))
  .have g:q.cL=-1:=by simpa using d
   have B:0<=(q.bS.length:Int)*v.c.size:=ZJ (by omega) (by omega);have C:(q.bS.length:Int)*v.c.size<=1000000000*4096:=ZG (by omega) (by omega) (by omega) (by omega);refine Xa.drawn (q:=10) Xe Xb Xo (by kernel_rfl) rfl ?_;intro a;refine Xd.cJ Xb a rfl b (by first|exact λh=>h|(intro h;omega)|assumption) rfl rfl ?_;refine Xd.cJ Xb a rfl l.obj (by first|exact λh=>h|(intro h;omega)|assumption) rfl rfl ?_;refine Xd.arith Xb a rfl (w64 (by omega)) rfl ?_;exact aF a aA λz m=>bE func177 aA ⟨Xz (by unfold Z5;rw[bK o,bK g]),t.trans m⟩
  .have g:¬q.cL=-1:=by simpa using d
   obtain⟨k,pg,ix,u,D,E,n,_,_,_,_,_,_,_⟩:=If h.may o g;obtain⟨cb,off,s,x⟩:=l.cL n;obtain⟨vb,c,⟨ca,cc,ka,kc⟩,ab,mb⟩:=v;simp only at s
   subst s;obtain⟨cL,cR,idx,pa,pc,bS⟩:=q;simp only at u
   subst u;replace n:k<c.bT.length:=n;refine aQ 10 Xe (by kernel_rfl) aA λa=>aE a l.obj aA (aE a b aA ?_);refine Xd.index Xb a rfl (j:=k) (show(0:Int)<=k by omega) (show(k:Int)<c.bT.length by omega) (by simp) rfl ?_;exact aD a x aA (aF a aA λz m=>bE func177 aA ⟨Xz (by unfold Z5;rw[bK o];simp only;rw[bJ g]),t.trans m⟩)
theorem XcK(v:Vw)(q:Plc)(w:dD)(h:Bp w v)(hq:Zp w q):Xf prog 201 #[Fz v,.agg (Xv q).toArray] w (Grow (.int .i64 (Ai v.c q)) w):=by
 obtain⟨I,J,K⟩:=D9 h.may;have f:=Nj h.may;refine aR func201 ntmps201 aA (bC aA λqb F e1 o i H=>?_);have p:=h.bQ i;refine bB o aA (bG (XcN v q F p (hq.bQ i)) aA λL l=>?_);have b:=l.bP o;have m:=p.bQ l;have u:=i.trans l;cases x:Yk v.c q with
 |false=>
  exact bI aA (bE func201 aA ⟨Xz (by unfold Ai;rw[x,bJ (by simp)]),u⟩)
 |true=>
  refine aS aA (bB b aA (aT aA (λd=>?_) λd=>?_))
  .have g:q.cL=-1:=by simpa using d
   exact bE func201 aA ⟨Xz (by unfold Ai;rw[bJ (λG=>G.2 g)]),u⟩
  .have g:¬q.cL=-1:=by simpa using d
   obtain⟨k,pg,ix,y,r,s,n,M,z,N,A,B,O,C⟩:=If h.may x g;obtain⟨cb,off,t,D⟩:=m.cL n;obtain⟨vb,c,⟨ca,cc,ka,kc⟩,ab,mb⟩:=v;simp only at t
   subst t;obtain⟨cL,cR,idx,pa,pc,bS⟩:=q;simp only at y r s
   subst y;subst r;subst s;replace n:k<c.bT.length:=n;replace f:64<=c.size*c.bS/\c.size*c.bS<=4194304:=f;replace A:0<=(pg:Int)*c.size:=A;replace B:0<=(ix:Int)*Ya c k:=B;replace C:(pg:Int)*c.size+(ix:Int)*Ya c k+Ya c k<=c.size*c.bS:=C;replace z:8<=Ya c k:=z;refine Xa.drawn (q:=22) Xe Xb Xo (by kernel_rfl) rfl ?_;intro a;refine Xd.cJ Xb a rfl b (by first|exact λh=>h|(intro h;omega)|assumption) rfl rfl ?_;refine Xd.cJ Xb a rfl m.obj (by first|exact λh=>h|(intro h;omega)|assumption) rfl rfl ?_;refine Xd.arith Xb a rfl (w64 (by show _/\_;simp only;omega)) rfl ?_;refine Xd.cJ Xb a rfl b (by first|exact λh=>h|(intro h;omega)|assumption) rfl rfl ?_;refine Xd.cJ Xb a rfl m.obj (by first|exact λh=>h|(intro h;omega)|assumption) rfl rfl ?_;refine Xd.cJ Xb a rfl b (by first|exact λh=>h|(intro h;omega)|assumption) rfl rfl ?_;refine Xd.index Xb a rfl (j:=k) (show(0:Int)<=k by omega) (show(k:Int)<c.bT.length by omega) (by simp) rfl ?_;exact aD a D aA (Xd.arith Xb a rfl (w64 (by show _/\_;simp only;omega)) rfl (Xd.arith Xb a rfl (w64 (by show _/\_;simp only;omega)) rfl (aF a aA λP E=>bE func201 aA ⟨Xz (by unfold Ai;rw[bK ⟨x,g⟩]),u.trans E⟩)))
theorem XnY(c:Conf)(p:Y4)(A:Ar)(V:ArV)(w:dD)(hc:Yu w c p)(hA:X8 w A V):Xf prog 119 #[.agg (Zj c p).toArray,.pointer (some ⟨A.ab,0,none⟩),Jf A.mb] w
 (λv w'=>Xc Xe w w'/\if Zb c=true/\(V.bs.length:Int)=c.size*c.bS then ∃vb,v=.tuple #[.pointer (some ⟨vb,0,none⟩),.int .i64 0]/\w.heap.size<=vb/\Bp w' ⟨vb,c,p,A.ab,A.mb⟩ else v=.tuple #[.pointer none,.int .i64 1]):=by
 refine aR func119 ntmps119 aA (bC aA λcb o e1 h i s=>?_);refine bB h aA (bG (XaD c p o (hc.bR i)) aA λu j=>?_);have f:=i.trans j;have a:=j.bP h;cases hm:Zb c with
 |false=>
  rw[show Bw c=1 from by unfold Bw;rw[hm];rfl];exact bI aA (bE func119 aA ⟨f,by rw[bJ (by simp)]⟩)
 |true=>
  rw[show Bw c=0 from by unfold Bw;rw[hm];rfl];have q:=Nj hm;refine aS aA (aQ 8 Xe (by kernel_rfl) aA λd=>aH d (λw' l=>Xab A V w' ((hA.bQ f).bQ l)) aA (aE d a aA (aE d a aA (Xd.arith Xb d rfl (w64 (by show _/\_;omega)) rfl (Xd.adv Xb d rfl (aF d aA λx b=>?_))))));by_cases g:(V.bs.length:Int)=c.size*c.bS
  .refine aI aA (show((V.bs.length:Int) != c.size*c.bS)=false by rw[g];exact bne_self_eq_false _) (bB (b.bP a) aA (aO aA (bC aA λvb y e4 m n t=>?_)));have k:=(f.trans b).trans n;exact bE func119 aA ⟨k,by rw[bK ⟨rfl,g⟩];exact⟨vb,rfl,by have:=f.size;have:=b.size;omega,⟨m,hc.bR k,hm⟩⟩⟩
  .exact aM aA (show((V.bs.length:Int) != c.size*c.bS)=true by simpa using g) (bE func119 aA ⟨f.trans b,by rw[bJ (λr=>g r.2)]⟩)
abbrev Span:=Nat×Nat×Nat
def Cz(s:Span):List dE:=[.int .i64 (s.1:Nat),.int .i64 (s.2.1:Nat),.int .i64 (s.2.2:Nat)]
def Dr(at' n cR:Nat):Span:=(at'/cR,at'%cR,min n (cR-at'%cR))
def Kz:Nat->Nat->Nat->Nat->List Span
 |0,_,_,_=>[]
 |f+1,at',n,cR=>if n=0 then [] else Dr at' n cR::Kz f (at'+min n (cR-at'%cR)) (n-min n (cR-at'%cR)) cR
def Z0(at' n cR:Nat):List Span:=Kz n at' n cR
theorem Kk{cR:Nat}(hp:1<=cR)(hn:0<n):0<min n (cR-at'%cR):=by
 have:=QJ at' (show 0<cR by omega);omega
theorem XgN{cR:Nat}(hp:1<=cR):∀(f g at' n:Nat),n<=f->n<=g->Kz f at' n cR=Kz g at' n cR
 |0,0,_,_,_,_=>rfl
 |0,g+1,at',n,h,_=>by
   obtain rfl:n=0:=by omega
   simp[Kz]
 |f+1,0,at',n,_,h=>by
   obtain rfl:n=0:=by omega
   simp[Kz]
 |f+1,g+1,at',n,a,b=>by
  unfold Kz;split
  .rfl
  .rename_i c
   have:=Kk (at':=at') hp (show 0<n by omega);rw[XgN hp f g _ _ (by omega) (by omega)]
theorem Vn(at' cR:Nat):Z0 at' 0 cR=[]:=rfl
theorem Ls{cR:Nat}(hp:1<=cR)(hn:0<n):Z0 at' n cR=Dr at' n cR::Z0 (at'+min n (cR-at'%cR)) (n-min n (cR-at'%cR)) cR:=by
 have:=Kk (at':=at') hp hn;unfold Z0;obtain⟨m,rfl⟩:∃m,n=m+1:=⟨n-1,by omega⟩;rw[show Kz (m+1) at' (m+1) cR=Dr at' (m+1) cR::Kz m (at'+min (m+1) (cR-at'%cR)) (m+1-min (m+1) (cR-at'%cR)) cR from by
  show(if m+1=0 then [] else _)=_
  rw[bJ (by omega)]]
 rw[XgN hp m _ _ _ (by omega) (XF _)]
theorem Sn{cR:Nat}(hp:1<=cR):∀(n at':Nat),(Z0 at' n cR).length<=n:=by
 intro n
 induction n using QQ with
 |_ n ih=>
  intro at';by_cases a:n=0
  .subst a;exact XF _
  .have:=Kk (at':=at') hp (show 0<n by omega);rw[Ls hp (by omega),XO];have:=ih (n-min n (cR-at'%cR)) (by omega) (at'+min n (cR-at'%cR));omega
abbrev Dt(w:dD)(b:Nat)(x:Int):Prop:=w.heap[b]?=some (.cells ([.int .i64 x]:List dE).toArray 3 (0,0))
theorem Xiz(pa pp pn at' cR n:Nat)(w:dD)(ha:Dt w pa at')(hp:Dt w pp cR)(hn:Dt w pn n)(hb:at'+n<=16777216/\1<=cR/\cR<=16777216):Xf prog 321 #[.pointer (some ⟨pa,0,none⟩),.pointer (some ⟨pp,0,none⟩),.pointer (some ⟨pn,0,none⟩)] w (Grow (.agg (Cz (Dr at' n cR)).toArray) w):=by
 have h:0<=(at':Int)%cR/\(at':Int)%cR<cR:=⟨Int.emod_nonneg _ (by omega),Int.emod_lt_of_pos _ (by omega)⟩;have e3:((min n (cR-at'%cR):Nat):Int)=if (cR:Int)-(at':Int)%cR<n then (cR:Int)-(at':Int)%cR else n:=by
  rw[show((at':Int)%cR)=((at'%cR:Nat):Int) from rfl];have:=QJ at' (show 0<cR by omega);split <;> omega
 refine aR func321 ntmps321 aA (bC aA λrb l e1 d a i=>bB (a.bP ha) aA (bB (a.bP hp) aA (Xa.div Xb rfl (by omega) (Hb (by omega)) rfl (aQ 10 Xe (by kernel_rfl) aA λb=>aE b (a.bP ha) aA (aE b (a.bP hp) aA (Xd.div Xb b rfl (by omega) (Gm (by omega) (by omega)) rfl (aE b (a.bP hn) aA (aE b (a.bP hp) aA (aC b aA (Xd.adv Xb b rfl (Xd.build Xb b rfl rfl (aF b aA λm c=>bF (c.bP d) aA λo f g j=>?_))))))))))));exact aK func321 f aA ⟨by unfold Cz Dr;simp only;rw[e3];rfl,((a.trans c).sn g)⟩
theorem XiB(l pa pp pn at0 n0 cR:Nat)(w:dD)(Y:Nat->Prop)(I:Nat->dD->Prop)(hb:at0+n0<=16777216/\1<=cR/\cR<=16777216)(ha:Dt w pa at0)(hp:Dt w pp cR)(hn:Dt w pn n0)(hne:pa≠pp/\pa≠pn/\pp≠pn)(hY:¬Y pa/\¬Y pp/\¬Y pn)(hI:∀k w w',I k w->Xc (λz=>z=pa\/z=pn) w w'->I k w')(hy:∀k w0 w (h:k<(Z0 at0 n0 cR).length),I k w0->Xc Xe w0 w->K7 prog l [.agg (Cz (Z0 at0 n0 cR)[k]).toArray] w (λv w'=>v=.bool true/\I (k+1) w'/\Xc (λz=>Y z/\z<w0.heap.size) w w'))(h0:I 0 w):Xf prog 320 #[Kb l,.pointer (some ⟨pa,0,none⟩),.pointer (some ⟨pp,0,none⟩),.pointer (some ⟨pn,0,none⟩)] w (λv w'=>v=.tuple #[]/\I (Z0 at0 n0 cR).length w'/\Xc (λz=>z=pa\/z=pn\/Y z) w w'):=by
 refine aR func320 ntmps320 aA ?_;refine Xa.loop (α:=Nat×Nat×Nat) (λ_=>[(0,false,Kb l),(1,false,.pointer (some ⟨pa,0,none⟩)),(3,false,.pointer (some ⟨pn,0,none⟩)),(5,false,.func (.func 321) #[] #[.pointer (some ⟨pa,0,none⟩),.pointer (some ⟨pp,0,none⟩),.pointer (some ⟨pn,0,none⟩)])])
  (λp w'=>∃pre,Z0 at0 n0 cR=pre++Z0 p.2.1 p.2.2 cR/\pre.length=p.1/\p.2.1+p.2.2=at0+n0/\I p.1 w'/\Dt w' pa p.2.1/\Dt w' pp cR/\Dt w' pn p.2.2/\Xc (λz=>z=pa\/z=pn\/Y z) w w') (λp=>p.2.2) (0,at0,n0) ⟨rfl,rfl,rfl,rfl,trivial⟩
  ⟨[],rfl,rfl,rfl,h0,ha,hp,hn,Xc.refl _ _⟩ ?_
 rintro⟨k,at',n⟩ D ⟨pre,a,P,K,q,i,E,j,F⟩ ih;simp only at a P K q i j
 subst P;refine aN aA (bB j aA (aT aA (λL=>?_) λL=>?_))
 .have m:0<n:=by have:=bL L;omega
  have r:=Kk (at':=at') hb.2.1 m;have d:=Ls (at':=at') hb.2.1 m;refine bG (Xiz pa pp pn at' cR n D i E j (by omega)) aA λw2 s=>bC aA λsb w3 e3 Q R a4=>bF Q aA λw4 t S a5=>?_;have b:=(s.trans R).bU S (λz hz e=>by have:=s.size;omega);have T:pre.length<(Z0 at0 n0 cR).length:=by rw[a,d];simp
  have U:(Z0 at0 n0 cR)[pre.length]=Dr at' n cR:=by
   simp only[a,d];simp
  have G:=hy pre.length D w4 T q b;rw[U] at G;refine bB t aA (Xa.yield rfl G ?_);rintro _ w5 ⟨rfl,V,f⟩;have a3:D.heap.size<=sb:=by have:=s.size;omega
  have a6:=Xg i;have H:=f.heap (b.bP i) (λh=>hY.1 h.1);have J:=f.heap (b.bP j) (λh=>hY.2.2 h.1);have u:=f.heap t (λh=>by have:=h.2;omega);refine aN aA (aS aA (aQ 9 (λz=>z=pa) (by kernel_rfl) aA λc=>Xd.loadbAt (4) Xb c rfl rfl rfl J (by first|exact λh=>h|(intro h;omega)|assumption) rfl rfl (Xd.loadbAt (2) Xb c rfl rfl rfl u (by first|exact λh=>h|(intro h;omega)|assumption) rfl rfl (Xd.loadbAt (6) Xb c rfl rfl rfl u (by first|exact λh=>h|(intro h;omega)|assumption) rfl rfl (Xd.arith Xb c rfl (w64 (by show _/\_;unfold Dr;simp only;omega)) rfl (Xd.cK c rfl λw6 x=>Xn.cJ Xb c rfl (x.bP H) rfl rfl (Xd.arith Xb c rfl (w64 (by show _/\_;unfold Dr;simp only;omega)) rfl (Xd.cK c rfl λW y=>Xn.store Xb c rfl (y.bP (x.bP H)) (by first|(intro h;exact rfl)|(intro h;omega)) rfl rfl rfl λa7 M A a8=>aF c aA λw7 o=>?_))))))));have g:=x.trans y;refine bF (o.bP (A.heap (g.bP J) (λe=>hne.2.1 e.symm))) aA λw8 a1 B a9=>?_;have N:Xc (λz=>z=pa\/z=pn) W w8:=((A.mono λ_ _ h=>.inl h).trans o.gr).trans (B.mono λ_ _ h=>.inr h);have C:=g.gr.trans N;have O:Xc (λz=>z=pa\/z=pn\/Y z) D w8:=(b.gr.trans (f.mono λ_ _ h=>.inr (.inr h.1))).trans (C.mono λ_ _ h=>h.elim .inl (λh=>.inr (.inl h)));exact ih (pre.length+1,at'+min n (cR-at'%cR),n-min n (cR-at'%cR)) _ _ ⟨pre++[Dr at' n cR],by rw[a,d];simp,by simp,by simp only;omega,hI _ _ _ V C,by
   have e:((at':Int)+((Dr at' n cR).2.2:Nat))=((at'+min n (cR-at'%cR):Nat):Int):=by unfold Dr;simp only;omega
   simp only
   rw[<-e];exact(B.heap (o.bP M) hne.2.1),(B.heap (o.bP (A.heap (g.bP (f.heap (b.bP E) (λh=>hY.2.1 h.1))) (λe=>hne.1 e.symm))) hne.2.2),by
   have e:((n:Int)-((Dr at' n cR).2.2:Nat))=((n-min n (cR-at'%cR):Nat):Int):=by unfold Dr;simp only;omega
   simp only
   rw[<-e];exact a1,F.trans O⟩ (by simp only;omega) ⟨rfl,rfl,rfl,rfl,trivial⟩
 .have m:n=0:=by have:=bM L;omega
  subst m;have r:(Z0 at0 n0 cR).length=pre.length:=by rw[a,Vn];simp
  exact bE func320 aA ⟨rfl,by rw[r];exact q,F⟩
theorem XiA(at' n cR:Int)(w:dD):Xf prog 305 #[.int .i64 at',.int .i64 n,.int .i64 cR] w (λv w'=>∃pa pp pn,v=.func (.func 320) #[] #[.pointer (some ⟨pa,0,none⟩),.pointer (some ⟨pp,0,none⟩),.pointer (some ⟨pn,0,none⟩)]/\
 w.heap.size<=pa/\w.heap.size<=pp/\w.heap.size<=pn/\(pa≠pp/\pa≠pn/\pp≠pn)/\Dt w' pa at'/\Dt w' pp cR/\Dt w' pn n/\Xc Xe w w'):=by
 exact aR func305 ntmps305 aA (bC aA λpa k e1 d c h=>bC aA λpn l e2 f b i=>bC aA λpp m e3 g a j=>bE func305 aA ⟨pa,pp,pn,rfl,by omega,by omega,by omega,by omega,a.bP (b.bP d),g,a.bP f,(c.trans b).trans a⟩)
theorem Xmw{L:List Span}(h:Xl base t 3 w v L.length (L.flatMap Cz)):∃a cap,v=.slice a L.length cap/\Rows Cz 3 w a L/\∀b off s,a=some ⟨b,off,s⟩->base<=b:=by
 rcases h.2 with⟨rfl,m⟩|⟨g,cap,cur,rfl,n,o,y,z,A,p⟩
 .obtain rfl:L=[]:=YB.1 m;exact⟨none,0,rfl,λi x c=>by simp at c,λ_ _ _ e=>by cases e⟩
 .refine⟨some ⟨g,0,none⟩,cap,rfl,λi x c=>⟨g,0,rfl,λj v f=>?_⟩,λb off s e=>by cases e;exact n⟩;have u:=(XC.1 c).1;have q:j<3:=by have:=(XC.1 f).1;simpa [Cz] using this
  rw[Ys o];have k:∀(L:List Span) (i:Nat) (x:Span),L[i]?=some x->(L.flatMap Cz)[i*3+j]?=(Cz x)[j]?:=by
   intro L
   induction L with
   |nil=>intro i x c;simp at c
   |cons s r ih=>
    intro i x c;rw[ZY];have d:(Cz s).length=3:=rfl;cases i with
    |zero=>
     simp at c;subst c;rw[Nat.zero_mul,XT,XZ (by rw[d];exact q)]
    |succ i=>
     rw[YD (by rw[d];omega),d,show(i+1)*3+j-3=i*3+j from by omega];exact ih i x (by simpa using c)
  have l:=k L i x c;rw[f,<-p,YV,bK (by omega)] at l;rw[XT]
  simpa using l
theorem Xiy(at' n cR:Nat)(w:dD)(hb:at'+n<=16777216/\1<=cR/\cR<=16777216):Xf prog 280 #[.int .i64 at',.int .i64 n,.int .i64 cR] w
 (λv w'=>∃a cap,v=.slice a (Z0 at' n cR).length cap/\Rows Cz 3 w' a (Z0 at' n cR)/\(∀b off s,a=some ⟨b,off,s⟩->w.heap.size<=b)/\Xc Xe w w'):=by
 have bg:maxLen=9223372036854775807:=rfl;have bh:=Sn (cR:=cR) hb.2.1 n at';refine aR func280 ntmps280 aA (aS aA (aS aA (aS aA (aS aA (aV aA (aS aA (bC aA λlb w1 e1 af p bi=>aP aA (XiA at' n cR w1) ?_)))))));rintro _ w2 ⟨pa,pp,pn,rfl,bj,bk,bm,ag,Q,R,T,E⟩;have ay:=Xg Q;have az:=Xg R;have b0:=Xg T;have F:=p.trans E;have bn:=E.size;refine aN aA (Xa.rangeFunc rfl rfl ⟨Tryz.f320,func320,rfl,rfl⟩ λG B tmps w3 y hB a8 ah ai q bo=>?_);have a9:G.state=.ready:=by rw[y]
 have b2:({G with state:=.ready,pending:=none}:Loop)=G:=by rw[y]
 have aa:G.pending=none:=by rw[y]
 refine(XiB (B+1) pa pp pn at' n cR w3 (λz=>z=lb\/z=B+1\/B+2<=z)
  (λk w'=>k<=(Z0 at' n cR).length/\∃v,w'.heap[lb]?=some (.cells ([v]:List dE).toArray 338 (0,0))/\Xl (B+2) 341 3 w' v k (((Z0 at' n cR).take k).flatMap Cz)/\
   w'.heap[B+1]?=some (.loop G)/\w'.heap[B]?=some (.deferred (some []))/\B+2<=w'.heap.size/\Xc Xe w w')
  hb (q.bP Q) (q.bP R) (q.bP T) ag ⟨by omega,by omega,by omega⟩ ?_ ?_ ⟨XQ _,_,q.bP (E.bP af),World.ownsRow_nil _ _ _ _,ai,ah,by omega,(F.trans q)⟩).mono ?_
 .rintro k w4 L ⟨H,v,t,d,x,I,h5,J⟩ D;refine⟨H,v,D.heap t (by omega),d.bR D (λb hb e=>?_),D.heap x (by omega),D.heap I (by omega),ZN h5 D.size,J.bU D (λz K e=>by have:=p.size;omega)⟩;have:=(World.ownsRow.lt d b hb.symm).1;omega
 .rintro k w4 L H ⟨bp,v,t,d,x,I,h5,J⟩ r;subst y;refine K7.enter (ps:=[33]) (r.bP x) rfl rfl a8 rfl (aN aA (bC aA λsb w6 e6 ak U al=>bF ak aA λw7 ac V bq=>?_));have c:=(r.trans U).bU V (λz K e=>by have:=r.size;omega);have b4:=r.size;refine Xa.beginRound rfl (c.bP x) rfl λw8 ao f br=>aN aA (bB (f.heap (c.bP t) (by omega)) aA (bB (f.heap ac (by omega)) aA (Xa.buildSlice Xb rfl λb9 w9 e9 ap g bs=>aN aA ?_)));have A:=((d.bR c (λ_ _ h=>h)).bR f (λb hb e=>by have:=(World.ownsRow.lt d b hb.symm).1;omega)).bR g (λ_ _ h=>h);have aq:((Z0 at' n cR).take (k+1)).flatMap Cz=((Z0 at' n cR).take k).flatMap Cz++Cz (Z0 at' n cR)[k]:=by
   rw[ZH,XD H,List.flatMap_append];simp
  refine Xa.append (base:=B+2) (news:=Cz (Z0 at' n cR)[k]) Xb rfl A (by have:=c.size;have:=f.size;have:=g.size;omega) rfl (λi u M=>by rw[Cr,Ys ap];simpa [Cz,Y3] using M) (λu M=>by simp[Cz] at M;rcases M with rfl|rfl|rfl <;> rfl) (by simp only;omega) ?_;intro bt W l j b5;obtain⟨bu,av,aw,N,-⟩:=l.form (by omega);subst N;refine aN aA ?_;refine bF (j.heap (g.bP (f.heap (c.bP t) (by omega))) (λe=>by have:=(World.ownsRow.lt A lb e.symm).1;omega)) aA λa0 O m b6=>?_;refine Xa.roundEnd rfl (m.heap (j.heap (g.bP ao) (λe=>by have:=(World.ownsRow.lt A _ e.symm).1;omega)) (by omega)) ?_;intro a6 ad o b7;have hc:∀S:Nat->Prop,S lb->S (B+1)->(∀z,some z=v.ownBlock->S z)->Xc S L a6:=λS c1 c2 c3=>by
   have a1:Xc S L w7:=U.gr.sn V;have a2:Xc S w7 w8:=f.mono λz _ e=>by subst e;exact c2
   have a3:Xc S w8 W:=g.gr.trans (j.mono λz _ e=>c3 z e);have a4:Xc S W a0:=m.mono λz _ e=>by subst e;exact c1
   have a5:Xc S a0 a6:=o.mono λz _ e=>by subst e;exact c2
   exact(((a1.trans a2).trans a3).trans a4).trans a5
  refine⟨_,rfl,rfl,⟨H,_,o.heap O (by omega),?_,ad,(o.heap (m.heap (j.heap (g.bP (f.heap (c.bP I) (by omega))) (λe=>by have:=(World.ownsRow.lt A _ e.symm).1;omega)) (by omega)) (by omega)),by have:=c.size;have:=f.size;have:=g.size;have:=j.size;omega,(J.trans r).bU (hc (λz=>z=lb\/B+1<=z) (.inl rfl) (.inr (XF _)) (λz e=>.inr (by have:=(World.ownsRow.lt d z e.symm).1;omega))) (λz K e=>by have:=p.size;omega)⟩,
   hc _ ⟨.inl rfl,(Xg t)⟩ ⟨.inr (.inl rfl),(Xg x)⟩ (λz e=>⟨.inr (.inr (World.ownsRow.lt d z e.symm).1),(World.ownsRow.lt d z e.symm).2⟩)⟩
  rw[aq];exact(l.bR m (λb hb e=>by have:=(World.ownsRow.lt l b hb.symm).1;omega)).bR o (λb hb e=>by have:=(World.ownsRow.lt l b hb.symm).1;omega)
 .rintro _ w4 ⟨rfl,⟨H,v,t,d,x,I,h5,J⟩,bv⟩;refine⟨_,x,by rw[a9];simp,?_⟩;intro L C bw;rw[aa];refine aN aA (bB (C.heap t (by omega)) aA ?_);rw[ZL] at d;refine Xa.retM Xb rfl func280 (C.heap I (by omega)) (vs:=[v]) (λ_ _=>.tmp rfl .nil) ?_;intro w6 a7 al;obtain⟨a,cap,rfl,P,ae⟩:=Xmw ((d.bR C (λb hb e=>by have:=(World.ownsRow.lt d b hb.symm).1;omega)).bR a7 (λb hb e=>by have:=(World.ownsRow.lt d b hb.symm).1;omega));exact⟨a,cap,rfl,P,λb off s e=>by have:=ae b off s e;have:=F.size;omega,(J.bU C (λz K e=>by have:=p.size;omega)).bU a7 (λz K e=>by have:=p.size;omega)⟩
theorem Rd.far'{k:IntKind}(h:Rd k w a zs)(hs:0<zs.length->Xj S a)(hc:Xc S w w'):Rd k w' a zs:=(N0.bR ⟨h,λb off s e c=>hs c b off s e⟩ hc).1
theorem Zp.bW(h:Zp w q)(hs:0<q.bS.length->Xj S q.pa)(hc:Xc S w w'):Zp w' q:=⟨h.rd.far' hs hc,h.len⟩
theorem Yu.bW{p:Y4}(h:Yu w c p)(h1:0<c.bT.length->Xj S p.ca)(h2:0<c.bV.length->Xj S p.ka)(hc:Xc S w w'):Yu w' c p:=⟨h.bT.far' h1 hc,h.bV.far' h2 hc,h.lc,h.lk,h.size⟩
theorem Bp.bW{w w':dD}{v:Vw}{S:Nat->Prop}(h:Bp w v)(h0:¬S v.vb)(h1:0<v.c.bT.length->Xj S v.p.ca)(h2:0<v.c.bV.length->Xj S v.p.ka)(hc:Xc S w w'):Bp w' v:=⟨hc.heap h.obj h0,h.cO.bW h1 h2 hc,h.may⟩
theorem Rd.outNew{k:IntKind}(h:Rd k w a zs)(hs:0<zs.length->Xj S a)(hS:∀z,S' z->S z\/w.heap.size<=z):0<zs.length->Xj S' a:=λc b off s e d=>by
 rcases hS b d with h1|h1
 .exact hs c b off s e h1
 .obtain⟨b',off',e',f⟩:=h 0 c;rw[e] at e';cases e'
  have:=World.block_lt_of_cell? w _ f;simp only at this
  omega
theorem Xcg{cR:Nat}(hp:1<=cR):∀(n at':Nat),∀s∈Z0 at' n cR,s.1*cR+s.2.1+s.2.2<=at'+n/\0<s.2.2/\s.2.1+s.2.2<=cR/\at'<=s.1*cR+s.2.1:=by
 intro n
 induction n using QQ with
 |_ n ih=>
  intro at' s hs;by_cases b:n=0
  .subst b;cases hs
  .have c:=Kk (at':=at') hp (show 0<n by omega);have d:=QJ at' (show 0<cR by omega);have a:=QA at' cR;rw[Ls hp (by omega)] at hs;rcases ZB.1 hs with rfl|hs
   .unfold Dr;simp only
    rw[QC] at a;omega
   .have:=ih _ (by omega) _ s hs;omega
def Zw(c:Conf)(q:Plc)(at' n:Nat):List (Int×Int):=
 if q.cL=-1 then (Z0 at' n c.size.toNat).map λs=>(q.bS.getD s.1 0*c.size+s.2.1,(s.2.2:Int)) else [(Ai c q+at',(n:Int))]
theorem XiC(A:Ar)(V:ArV)(n:Int)(w:dD)(h:X8 w A V):Xf prog 175 #[Jf A.mb,.int .i64 n] w (λ_ w'=>X8 w' A (V.cT A n)/\Xc (Yv A) w w'):=by
 cases a:A.mb with
 |none=>
  refine(Xbc n w).mono λ_ w' e=>?_;subst e;exact⟨by unfold ArV.cT;rw[a];exact h,Xc.refl _ _⟩
 |some b=>
  refine(Xbb b V.total V.dA n w (h.met b a)).mono λ_ w' ⟨hm,c⟩=>?_;exact⟨by unfold ArV.cT;rw[a];exact h.metered a hm c,c.mono λx _ d=>by unfold Yv;rw[d];exact a⟩
theorem Xn6(v:Vw)(q:Plc)(at' n:Int)(w:dD):Xf prog 230 #[Fz v,.agg (Xv q).toArray,.int .i64 at',.int .i64 n] w (λu w'=>∃pb vb ab nb,u=.func (.func 279) #[] #[.pointer (some ⟨pb,0,none⟩),.pointer (some ⟨vb,0,none⟩),.pointer (some ⟨ab,0,none⟩),.pointer (some ⟨nb,0,none⟩)]/\
 w.heap.size<=pb/\w.heap.size<=vb/\w.heap.size<=ab/\w.heap.size<=nb/\Je w' pb q/\G9 w' vb v/\Dt w' ab at'/\Dt w' nb n/\Xc Xe w w'):=by
 refine aR func230 ntmps230 aA (bC aA λvb p e1 g d k=>bC aA λpb r e2 h f l=>bC aA λab s e3 i c m=>bC aA λnb t e4 j a o=>?_);have b:=f.trans (c.trans a);exact bE func230 aA ⟨pb,vb,ab,nb,rfl,by omega,by omega,by omega,by omega,(c.trans a).bP h,b.bP g,a.bP i,j,d.trans b⟩
def B7(q:Plc)(A:Ar)(V:ArV):ArV:=if q.cL=-1 then V.cT A 1 else V
theorem X8.mlt(h:X8 w A V):∀z,Yv A z->z<w.heap.size:=λz a=>Xg (h.met z a).1
theorem Xn7(l:Nat)(v:Vw)(q:Plc)(at' n pb vb ab nb:Nat)(A:Ar)(Vs:Nat->ArV)(K:Nat->(Nat->Prop)->dD->Prop)(Y0:Nat->Prop)(w:dD)(hv:Bp w v)(hq:Zp w q)(hmb:v.mb=A.mb)(hin:Yk v.c q=true)(hr:(at':Int)+n<=Z5 v.c q)(hfew:q.bS.length<=4096)(hpb:Je w pb q)(hvb:G9 w vb v)(hab:Dt w ab at')(hnb:Dt w nb n)(hP1:∀z,Y0 z\/Yv A z->z≠pb/\z≠vb/\z≠v.vb)(hPq:0<q.bS.length->Xj (λz=>Y0 z\/Yv A z) q.pa)(hPc:0<v.c.bT.length->Xj (λz=>Y0 z\/Yv A z) v.p.ca)(hPk:0<v.c.bV.length->Xj (λz=>Y0 z\/Yv A z) v.p.ka)(hKlt:∀k Y w,K k Y w -> ∀z,Y z->z<w.heap.size)(hK:∀k Y w w',K k Y w->Xc (Yv A) w w'->K k Y w')(hy:∀k Y w0 w (h:k<(Zw v.c q at' n).length),X8 w0 A (B7 q A (Vs k))->K k Y w0->Xc Xe w0 w -> K7 prog l [.int .i64 (Zw v.c q at' n)[k].1,.int .i64 (Zw v.c q at' n)[k].2] w (λu w'=>u=.bool true/\X8 w' A (Vs (k+1))/\Xc Y w w'/\∃Y',K (k+1) Y' w'/\∀z,Y' z->Y z\/w.heap.size<=z))(h0:X8 w A (Vs 0))(hK0:K 0 Y0 w):Xf prog 279 #[Kb l,.pointer (some ⟨pb,0,none⟩),.pointer (some ⟨vb,0,none⟩),.pointer (some ⟨ab,0,none⟩),.pointer (some ⟨nb,0,none⟩)] w
  (λu w'=>u=.tuple #[]/\X8 w' A (Vs (Zw v.c q at' n).length)/\(∃Y',K (Zw v.c q at' n).length Y' w'/\∀z,Y' z->Y0 z\/w.heap.size<=z)/\Xc (λz=>Y0 z\/Yv A z) w w'):=by
 obtain⟨m1,m2,m3⟩:=D9 hv.may;have b0:=Nj hv.may;have a1:∀{x y:dD},Xc Xe x y->Xc (Yv A) x y:=λh=>h.gr;refine aR func279 ntmps279 aA (bB hpb aA ?_);by_cases d:q.cL=-1
 .obtain⟨b1,I⟩:=T6 hin d;have J:Z5 v.c q=(q.bS.length:Int)*v.c.size:=by unfold Z5;rw[bK hin,bK d]
  rw[J] at hr;have a2:(q.bS.length:Int)*v.c.size<=4096*4096:=ZG (by omega) (by omega) (by omega) (by omega);obtain⟨sz,a3⟩:=XE (show 0<=v.c.size by omega);have a8:v.c.size.toNat=sz:=by omega
  have o:Zw v.c q at' n=(Z0 at' n sz).map λs=>(q.bS.getD s.1 0*v.c.size+s.2.1,(s.2.2:Int)):=by unfold Zw;rw[bK d,a8]
  have B:(Zw v.c q at' n).length=(Z0 at' n sz).length:=by rw[o,XV]
  have b8:=Sn (cR:=sz) (by omega) n at';refine Xa.no Xb rfl (show(q.cL != -1)=false by rw[d];rfl) rfl ?_;refine Xa.drawn (q:=10) Xe Xb Xo (by kernel_rfl) rfl ?_;intro c;refine Xd.cJ Xb c rfl hab (by first|exact λh=>h|(intro h;omega)|assumption) rfl rfl ?_;refine Xd.cJ Xb c rfl hnb (by first|exact λh=>h|(intro h;omega)|assumption) rfl rfl ?_;refine Xd.cJ Xb c rfl hvb (by first|exact λh=>h|(intro h;omega)|assumption) rfl rfl ?_;refine Xd.cJ Xb c rfl hv.obj (by first|exact λh=>h|(intro h;omega)|assumption) rfl rfl ?_;have hd:∀w',Xc Xe w w'->Xf prog 280 #[.int .i64 at',.int .i64 n,.int .i64 v.c.size] w' (λu m=>Xc Xe w' m/\∃a cap,u=.slice a (Z0 at' n sz).length cap/\Rows Cz 3 m a (Z0 at' n sz)/\(∀b off s,a=some ⟨b,off,s⟩->w'.heap.size<=b)):=λw' r=>by
   rw[a3];exact(Xiy at' n sz w' (by omega)).mono λu m ⟨a,cap,L,h2,h3,h4⟩=>⟨h4,a,cap,L,h2,h3⟩
  refine Xd.callQ c rfl rfl (λw' r=>(hd w' r).mono λu m ⟨L,a,cap,h2,h3,h4⟩=>(⟨L,a,cap,h2,h3,λb off s e=>ZN r.size (h4 b off s e)⟩:Xc Xe w' m/\∃a cap,u=.slice a (Z0 at' n sz).length cap/\Rows Cz 3 m a (Z0 at' n sz)/\(∀b off s,a=some ⟨b,off,s⟩->w.heap.size<=b))) ?_;rintro _ w1 ah ⟨sa,scap,rfl,a0,ad⟩;refine Xd.adv Xb c rfl (aF c aA λm t=>?_);have f:=ah.trans t;have ai:Xj (λz=>Y0 z\/Yv A z) sa:=λb off s e hb=>by
   have:=ad b off s e;rcases hb with hb|hb
   .have:=hKlt _ _ _ hK0 b hb;omega
   .have:=h0.mlt b hb;omega
  refine Xa.loop (α:=Nat) (λk=>[(0,false,Kb l),(1,false,.pointer (some ⟨pb,0,none⟩)),(2,false,.pointer (some ⟨vb,0,none⟩)),(26,false,.slice sa (Z0 at' n sz).length scap),(27,false,.int .i64 (Z0 at' n sz).length),(28,false,.int .i64 k)])
   (λk w'=>k<=(Z0 at' n sz).length/\X8 w' A (Vs k)/\(∃Y,K k Y w'/\∀z,Y z->Y0 z\/m.heap.size<=z)/\Xc (λz=>Y0 z\/Yv A z) m w') (λk=>(Z0 at' n sz).length-k) 0 ⟨rfl,rfl,rfl,rfl,rfl,rfl,trivial⟩
   ⟨XQ _,h0.bQ f,⟨Y0,hK _ _ _ _ hK0 (a1 f),λ_ h=>.inl h⟩,Xc.refl _ _⟩ ?_
  rintro k w3 ⟨hk,M,⟨Y,a4,N⟩,i⟩ ih;refine aN aA (aT aA (λhc=>?_) λhc=>?_)
  .have C:k<(Z0 at' n sz).length:=by have:=bL hc;omega
   obtain⟨s,hs⟩:∃s,s=(Z0 at' n sz)[k]:=⟨_,rfl⟩;obtain⟨i1,i2,i3,i4⟩:=Xcg (cR:=sz) (by omega) n at' s (hs▸XM C);have G:s.1<q.bS.length:=by
    have L:(s.1*sz:Nat)<q.bS.length*sz:=by
     have:((q.bS.length*sz:Nat):Int)=(q.bS.length:Int)*v.c.size:=by rw[a3];rfl
     omega
    exact Nat.lt_of_mul_lt_mul_right L
   obtain⟨rb,roff,aj,H⟩:=((a0.bR t).at C);subst aj;rw[<-hs] at H;have O:∀j u,(Cz s)[j]?=some u->w3.cell? ⟨rb,roff+k*3+j,none⟩=some u:=λj u hu=>i.cell (H j u hu) (ai rb roff none rfl);have P:=i.heap (f.bP hvb) (λe=>(hP1 _ e).2.1 rfl);have a5:=(hv.bQ f).bW (λe=>(hP1 _ e).2.2 rfl) hPc hPk i;refine aU (k*3) aA (Xa.loadC Xb (Cz s) rfl (by first|rfl|(simp;done)|(simp[*];done)|(simp;omega)) (O) rfl (bC aA λsb w4 e4 ak al b9=>bF ak aA λw5 ag am ba=>?_));have p:=al.sn am;refine bB (p.bP P) aA (bB (a5.bQ p).obj aA ?_);rw[hmb];refine aP aA (XiC A (Vs k) 1 w5 (M.bQ p)) ?_;rintro _ w6 ⟨an,Q⟩;refine aN aA ?_;have ao:∀{x y:dD},Xc (Yv A) x y->Xc (λz=>Y0 z\/Yv A z) x y:=λh=>h.mono λ_ _ h=>.inr h;have g:=p.gr.trans (ao Q);have F:=Q.heap ag (λe=>by have:=M.mlt _ e;omega);obtain⟨gb,goff,a6,ap⟩:=(((hq.bQ f).bW hPq i).bW hPq g).rd s.1 G;have aq:0<=q.bS.getD s.1 0/\q.bS.getD s.1 0<v.c.bS:=I _ (by rw[XA,XD G];exact XM G);have R:0<=q.bS.getD s.1 0*v.c.size/\q.bS.getD s.1 0*v.c.size<=1024*4096:=⟨ZJ aq.1 (by omega),ZG (by omega) (by omega) (by omega) (by omega)⟩;have ar:(Zw v.c q at' n)[k]'(by rw[B];exact C)=(q.bS.getD s.1 0*v.c.size+s.2.1,(s.2.2:Int)):=by
    simp only[o,YU,<-hs]
   obtain⟨cL,cR,idx,pa,pc,bS⟩:=q;simp only at a6
   subst a6;refine aQ 18 Xe (by kernel_rfl) aA λc=>aE c (g.heap (i.heap (f.bP hpb) (λe=>(hP1 _ e).1 rfl)) (λe=>(hP1 _ e).1 rfl)) aA (aE c F aA (Xd.index Xb c rfl (j:=s.1) (show(0:Int)<=(s.1:Nat) by omega) (show((s.1:Nat):Int)<bS.length by have:s.1<bS.length:=G;omega) (by simp) rfl (aD c ap aA (aE c (g.heap P (λe=>(hP1 _ e).2.1 rfl)) aA (aE c (a5.bW (λe=>(hP1 _ e).2.2 rfl) hPc hPk g).obj aA (Xd.arith Xb c rfl (w64 (by show _/\_;simp only at R⊢;omega)) rfl (aE c F aA (Xd.arith Xb c rfl (w64 (by show _/\_;simp only at R⊢;omega)) rfl (aE c F aA (aF c aA λw7 S=>?_))))))))));have D:=hy k Y w6 w7 (by rw[B];exact C) (by unfold B7;rw[bK d];exact an) (hK _ _ _ _ (hK _ _ _ _ a4 (a1 p)) Q) S;rw[ar] at D;refine Xa.yield rfl D ?_;rintro _ w8 ⟨rfl,T,U,Y',V,W⟩;refine aN aA (aS aA (aV aA ?_));have ay:m.heap.size<=w7.heap.size:=by have:=i.size;have:=g.size;have:=S.size;omega
   exact ih (k+1) _ _ ⟨C,T,⟨Y',V,λz E=>(W z E).elim (N z) (λh=>.inr (by omega))⟩,
    ((i.trans g).trans S.gr).bU U (λz E h=>.inl ((N z h).elim id (λh=>by omega)))⟩ (by omega) ⟨rfl,rfl,rfl,rfl,rfl,rfl,trivial⟩
  .have av:k=(Z0 at' n sz).length:=by have:=bM hc;omega
   subst av;have az:=f.size;rw[B];exact bE func279 aA ⟨rfl,M,⟨Y,a4,λz E=>(N z E).imp id (λh=>by omega)⟩,f.gr.trans i⟩
 .have o:Zw v.c q at' n=[(Ai v.c q+at',(n:Int))]:=by unfold Zw;rw[bJ d]
  obtain⟨kk,pg,ix,a7,I,aw,bb,g1,g2,g3,g4,g5,g6,g7⟩:=If hv.may hin d;have ax:Ai v.c q=(pg:Int)*v.c.size+(ix:Int)*Ya v.c kk:=by unfold Ai;rw[bK ⟨hin,d⟩,a7,I,aw]
  have J:Z5 v.c q=Ya v.c kk:=by unfold Z5;rw[bK hin,bJ d,a7]
  rw[J] at hr;refine aM aA (show(q.cL != -1)=true by simpa using d) (aQ 7 Xe (by kernel_rfl) aA λc=>aE c hvb aA (aE c hpb aA (aG c (λw' r=>XcK v q w' (hv.bQ r) (hq.bQ r)) aA (aE c hab aA (Xd.arith Xb c rfl (w64 (by show _/\_;rw[ax];omega)) rfl (aE c hnb aA (aF c aA λm t=>?_)))))));have D:=hy 0 Y0 w m (by rw[o];simp) (by unfold B7;rw[bJ d];exact h0) hK0 t;rw[show(Zw v.c q at' n)[0]'(by rw[o];simp)=(Ai v.c q+at',(n:Int)) from by simp only[o];rfl] at D;refine Xa.yield rfl D ?_;rintro _ w8 ⟨rfl,T,U,Y',V,W⟩;refine aN aA ?_;have a2:(Zw v.c q at' n).length=1:=by rw[o];rfl
  rw[a2];have:=t.size;exact bE func279 aA ⟨rfl,T,⟨Y',V,λz E=>(W z E).imp id (λh=>by omega)⟩,t.gr.trans (U.mono λ_ _ h=>.inl h)⟩
def Qt(c:Conf)(q:Plc)(at' n:Int):Int:=if Yk c q=false then 1 else if at'<0\/n<0\/Z5 c q<n\/Z5 c q-n<at' then 8 else 0
theorem K2(hm:Zb c=true)(hfew:q.bS.length<=4096):0<=Z5 c q/\Z5 c q<=16777216:=by
 obtain⟨g,h,i⟩:=D9 hm;unfold Z5;split
 .rename_i d
  split
  .have j:(q.bS.length:Int)*c.size<=4096*4096:=ZG (by omega) (by omega) (by omega) (by omega);exact⟨ZJ (by omega) (by omega),by omega⟩
  .rename_i a
   obtain⟨kk,pg,ix,b,_,_,f,_,k,l,_⟩:=If hm d a;rw[b];omega
 .omega
theorem X8.blt(h:X8 w A V):∀b,b=A.ab\/b=A.db\/b=A.mc\/A.mb=some b->b<w.heap.size:=λb hb=>by
 rcases hb with rfl|rfl|rfl|hb
 .exact Xg h.obj
 .exact Xg h.dat
 .exact Xg h.cap
 .exact Xg (h.met b hb).1
theorem XcM(v:Vw)(q:Plc)(at' n fk:Nat)(caps:List dE)(A:Ar)(Vs:Nat->ArV)(K:Nat->(Nat->Prop)->dD->Prop)(Y0:Nat->Prop)(w:dD)(hv:Bp w v)(hq:Zp w q)(hmb:v.mb=A.mb)(hck:Qt v.c q at' n=0)(hfew:q.bS.length<=4096)(hPv:¬(Y0 v.vb\/Yv A v.vb))(hPq:0<q.bS.length->Xj (λz=>Y0 z\/Yv A z) q.pa)(hPc:0<v.c.bT.length->Xj (λz=>Y0 z\/Yv A z) v.p.ca)(hPk:0<v.c.bV.length->Xj (λz=>Y0 z\/Yv A z) v.p.ka)(hKlt:∀k Y w,K k Y w -> ∀z,Y z->z<w.heap.size)(hK:∀k Y w1 w2 S,K k Y w1->Xc S w1 w2->(∀z,S z->Yv A z\/(¬Y z/\w.heap.size<=z))->K k Y w2)(hdo:∀k Y w0 (h:k<(Zw v.c q at' n).length),X8 w0 A (B7 q A (Vs k))->K k Y w0 -> Xf prog fk (.int .i64 (Zw v.c q at' n)[k].1::.int .i64 (Zw v.c q at' n)[k].2::caps).toArray w0 (λ_ w'=>X8 w' A (Vs (k+1))/\Xc Y w0 w'/\∃Y',K (k+1) Y' w'/\∀z,Y' z->Y z\/w0.heap.size<=z))(h0:X8 w A (Vs 0))(hK0:K 0 Y0 w):Xf prog 163 #[Fz v,.agg (Xv q).toArray,.int .i64 at',.int .i64 n,.func (.func fk) #[] caps.toArray] w
  (λu w'=>u=.int .i64 0/\X8 w' A (Vs (Zw v.c q at' n).length)/\(∃Y',K (Zw v.c q at' n).length Y' w'/\∀z,Y' z->Y0 z\/w.heap.size<=z)/\Xc (λz=>Y0 z\/Yv A z) w w'):=by
 have l:=K2 (c:=v.c) (q:=q) hv.may hfew;have J:Yk v.c q=true:=by
  cases J:Yk v.c q with
  |true=>rfl
  |false=>unfold Qt at hck;rw[bK J] at hck;cases hck
 have av:¬((at':Int)<0\/(n:Int)<0\/Z5 v.c q<n\/Z5 v.c q-n<at'):=λh=>by
  unfold Qt at hck;rw[bJ (by rw[J];decide),bK h] at hck;cases hck
 refine aR func163 ntmps163 aA (bC aA λqb w1 e1 ad ae af=>bC aA λdb w2 e2 ag a1 b8=>?_);have j:=a1.bP ad;have hw:=ae.trans a1;refine bB j aA (bG (XcN v q w2 (hv.bQ hw) (hq.bQ hw)) aA λw3 D=>?_);have L:=hw.trans D;rw[J];refine aS aA (aS aA (aS aA (bB (D.bP j) aA (bG (XcL v q w3 (hv.bQ L) (hq.bQ L) (by omega)) aA λw4 M=>?_))));have N:=L.trans M;refine aS aA (bB ((D.trans M).bP j) aA (bG (XcL v q w4 (hv.bQ N) (hq.bQ N) (by omega)) aA λw5 a2=>?_));have a3:=N.trans a2;have O:=(D.trans M).trans a2;refine aV aA (aS aA (bB (O.bP j) aA (aP aA (Xn6 v q at' n w5) ?_)));rintro _ w6 ⟨pb,vb,ab,nb,rfl,b9,ba,bb,bc,bpb,bvb,bab,bnb,a4⟩;have ah:=a3.trans a4;have P:=(O.trans a4).bP ag;have l1:=Xg bpb;have l2:=Xg bvb;have b0:=a3.size;have b1:=Xg P;refine aN aA (Xa.rangeFunc rfl rfl ⟨Tryz.f279,func279,rfl,rfl⟩ λQ B tmps w7 E hB a7 ai aj g bd=>?_);have m:=ah.trans g;have R:=hKlt _ _ _ hK0;have F:=h0.mlt;have be:=Xg hv.obj;have hN:∀{x y:dD} {k Y},K k Y x->Xc Xe x y->K k Y y:=λhk hc=>hK _ _ _ _ _ hk hc (λ_ h=>h.elim);have a9:Q.state=.ready:=by rw[E]
 have b4:({Q with state:=.ready,pending:=none}:Loop)=Q:=by rw[E]
 have aa:Q.pending=none:=by rw[E]
 refine(Xn7 (B+1) v q at' n pb vb ab nb A Vs
  (λk T x=>∃Y,K k Y x/\(∀z,T z↔Y z\/z=B+1)/\x.heap[B+1]?=some (.loop Q)/\x.heap[B]?=some (.deferred (some []))/\x.heap[db]?=some (.cells ([.func (.func fk) #[] caps.toArray]:List dE).toArray 169 (0,0))/\(∀z,Y z->z≠B/\z≠B+1/\z≠db))
  (λz=>Y0 z\/z=B+1) w7 (hv.bQ m) (hq.bQ m) hmb J (by omega) hfew (g.bP bpb) (g.bP bvb) (g.bP bab) (g.bP bnb) ?_ ?_ ?_ ?_ ?_ ?_ ?_ (h0.bQ m) ?_).mono ?_
 .intro z hz;rcases hz with(hz|hz)|hz
  .have:=R z hz;exact⟨by omega,by omega,λe=>hPv (.inl (e▸hz))⟩
  .exact⟨by omega,by omega,by omega⟩
  .have:=F z hz;exact⟨by omega,by omega,λe=>hPv (.inr (e▸hz))⟩
 .exact hq.rd.outNew hPq (λz hz=>by rcases hz with(hz|hz)|hz;exact .inl (.inl hz);exact .inr (by omega);exact .inl (.inr hz))
 .exact hv.cO.bT.outNew hPc (λz hz=>by rcases hz with(hz|hz)|hz;exact .inl (.inl hz);exact .inr (by omega);exact .inl (.inr hz))
 .exact hv.cO.bV.outNew hPk (λz hz=>by rcases hz with(hz|hz)|hz;exact .inl (.inl hz);exact .inr (by omega);exact .inl (.inr hz))
 .rintro k T x ⟨Y,p,d,r,I,U,f⟩ z hz;rcases(d z).1 hz with hz|rfl
  .exact hKlt _ _ _ p z hz
  .exact Xg r
 .rintro k T x y ⟨Y,p,d,r,I,U,f⟩ hs;exact⟨Y,hK _ _ _ _ _ p hs (λz h=>.inl h),d,hs.heap r (λe=>by have:=F _ e;omega),hs.heap I (λe=>by have:=F _ e;omega),hs.heap U (λe=>by have:=F _ e;omega),f⟩
 .rintro k T x0 x hk al ⟨Y,p,d,r,I,U,f⟩ V;have s:=V.bP r;have ac:=V.bP I;have t:=V.bP U;subst E;refine K7.enter (ps:=[46,47]) s rfl rfl a7 rfl (aN aA (Xa.beginRound rfl s rfl λx1 am i af=>aN aA ?_));refine bB (i.heap t (by omega)) aA (aP aA (hdo k Y x1 hk ((al.bQ V).bR i (λb l e=>by have:=h0.blt b l;omega)) (hK _ _ _ _ _ (hN p V) i (λz e=>.inr ⟨λa=>(f z a).2.1 e,by omega⟩))) ?_);rintro _ x2 ⟨an,G,Y',ao,a5⟩;refine aN aA ?_;refine Xa.roundEnd rfl (G.heap am (λa=>(f _ a).2.1 rfl)) ?_;intro x3 ap o bf;have b6:=Xg t;have aw:=Xg s;have W:∀z,Y' z->z≠B/\z≠B+1/\z≠db:=λz hz=>(a5 z hz).elim (f z) (λh=>by omega);refine⟨_,rfl,rfl,(an.bR o (λb l e=>by have:=h0.blt b l;omega)),((i.mono λz _ e=>(d z).2 (.inr e)).trans (G.mono λz _ e=>(d z).2 (.inl e))).trans (o.mono λz _ e=>(d z).2 (.inr e)),λz=>Y' z\/z=B+1,⟨Y',(hK _ _ _ _ _ ao o (λz e=>.inr ⟨λa=>(W z a).2.1 e,by omega⟩)),λz=>Iff.rfl,ap,o.heap (G.heap (i.heap ac (by omega)) (λa=>(f _ a).1 rfl)) (by omega),o.heap (G.heap (i.heap t (by omega)) (λa=>(f _ a).2.2 rfl)) (by omega),W⟩,λz hz=>?_⟩;rcases hz with hz|hz
  .exact(a5 z hz).elim (λh=>.inl ((d z).2 (.inl h))) (λh=>.inr (by omega))
  .exact .inl ((d z).2 (.inr hz))
 .exact⟨Y0,hN hK0 m,λz=>Iff.rfl,aj,ai,g.bP P,λz hz=>by have:=R z hz;omega⟩
 .rintro _ w8 ⟨rfl,aq,⟨T,⟨Y,p,d,r,I,U,f⟩,ar⟩,au⟩;refine⟨_,r,by rw[a9];simp,?_⟩;intro w9 H bg;rw[aa];refine aN aA (Xa.retM Xb rfl func163 (H.heap I (by omega)) (vs:=[.int .i64 0]) (λ_ _=>.tmp rfl .nil) λbh C b7=>?_);refine⟨rfl,((aq.bR H (λb l e=>by have:=h0.blt b l;omega)).bR C (λb l e=>by have:=h0.blt b l;omega)),⟨Y,(hK _ _ _ _ _ (hK _ _ _ _ _ p H (λz e=>.inr ⟨λa=>(f z a).2.1 e,by omega⟩)) C (λz e=>.inr ⟨λa=>(f z a).1 e,by omega⟩)),λz hz=>?_⟩,?_⟩
  .rcases ar z ((d z).2 (.inl hz)) with(h|h)|h
   .exact .inl h
   .exact .inr (by omega)
   .exact .inr (by omega)
  .exact(((m.gr.bU au (λz hz h=>by rcases h with(h|h)|h;exact .inl h;exact absurd hz (by omega);exact .inr h))).bU H (λz hz e=>absurd hz (by omega))).bU C (λz hz e=>absurd hz (by omega))
end Go.Proofs.YtdeihcnepljjaaaGreatDoor
