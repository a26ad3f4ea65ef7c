/-
  Texts put together: Ref20g, Ref20h, Ref20i, RmBack, RmOwn, Y9, Top13, RmPlan, Arena, Arena2, View, View2, Chain, Chain2, View3, View4.
-/
import Derived.Test.YtdeihcnepljjaaaGreatDoorPt4
import Derived.Test.YtdeihcnepljjaaaGreatDoorQRule25
import Derived.Test.YtdeihcnepljjaaaGreatDoorQRule7
import Derived.Test.YtdeihcnepljjaaaGreatDoorQRule11
import Derived.Test.YtdeihcnepljjaaaGreatDoorQPost
set_option linter.unusedVariables false
set_option maxRecDepth 100000
namespace Go.Proofs.YtdeihcnepljjaaaGreatDoor
open Go.RowKit
open Go renaming World→dD,Value→dE
open Bool renaming and_eq_true->XJ,true_and->YI
open Int renaming toNat_natCast->XB,eq_ofNat_of_zero_le->XE,mul_le_mul_of_nonneg_right->ZD,mul_le_mul->ZG,mul_nonneg->ZI,ediv_nonneg->YL,mul_comm->YP,ediv_le_self->QK,add_mul->QL,one_mul->QM
open List renaming getD_eq_getElem?_getD->XA,getElem?_eq_some_iff->XC,getElem?_eq_getElem->XD,length_set->XG,getElem?_set_self->XH,length_replicate->XI,getElem?_set_ne->XK,map_append->XL,getElem_mem->XM,length_cons->XN,mem_map->XQ,nodup_append->XR,mem_append->XS,length_map->XV,length_take->XX,mem_of_mem_take->XY,getElem?_append_left->ZA,mem_cons->ZB,length_append->ZC,getElem?_replicate->ZE,getElem?_eq_none->ZF,take_add_one->ZH,filter_cons->ZJ,map_cons->ZK,take_length->ZL,length_eq_zero_iff->ZR,nil_append->ZT,mem_of_mem_drop->ZU,drop_eq_getElem_cons->ZV,flatMap_cons->ZX,eq_of_mem_replicate->YA,getElem?_append_right->YC,replicate_succ->YF,eq_nil_of_length_eq_zero->YG,getElem_map->YU,getElem?_take->YV,mem_append_right->YY,mem_singleton->YZ,any_eq_false->QG,sum_cons->QH,filter_append->QO,any_eq_true->QR,length_tail->QS,getD->QV,map_take->QZ
open Nat renaming le_refl->XF,zero_le->XP,zero_add->XT,le_trans->ZZ,mod_lt->YQ,div_add_mod->QB,mul_comm->QE,strongRecOn->QP
open Option renaming getD_some->YH,map_some->QX
open Go.Proofs.Tryz (func117 func119 func163 func165 func168 func177 func185 func189 func201 func206 func229 func230 func231 func232 func259 func277 func278 func279 func280 func281 func305 func320 func321 ntmps117 ntmps119 ntmps163 ntmps165 ntmps168 ntmps177 ntmps185 ntmps189 ntmps201 ntmps206 ntmps229 ntmps230 ntmps231 ntmps232 ntmps259 ntmps277 ntmps278 ntmps279 ntmps280 ntmps281 ntmps305 ntmps320 ntmps321 prog)
variable {c:Conf}{l':IL}{ahead by' cS cH size cN u who z:Int}{lg:List (Nat×List Nat)}{ps:List IL}{bs l p zs:List Int}{l2 ws:List Nat}{cs rest xs:List dE}{N at' b base cap d fuel g i j k lm lo m n o qb sz t tm ty vb xb y:Nat}{e:Nat×List Int}{fz:Nat×Nat}{f:Nat->Int}{G:Nat->Pg}{B C F F' Fr Q S S' T X:Nat->Prop}{pd pd2:Option (Nat×PlcM)}{a:Option Addr}{pg:PgL}{pl':PlM}{q:Plc}{R:Rm}{M:RmM}{x x':Sm}{α:Type}{v:dE}{w w' w'' w0 w1 w2:dD}{cells:α->List dE}
theorem XjW(h:M.Ok c)(hg:M.pl.Good):M.lg.length<=1024:=by
 have d:=h.sum;have e:=Or hg;have b:∀l:List (Nat×List Nat),l.length<=El l:=λl=>by
  induction l with
  |nil=>simp
  |cons a r ih=>unfold El at *;rw[ZK,QH,XN];omega
 have:=b M.lg;omega
theorem Lo(q:Plc):(Xv q).length=4:=rfl
theorem O7(q:Plc):∀u∈Xv q,u.oneCell'=true:=λu a=>by
 simp only[Xv,ZB,List.mem_nil_iff,or_false] at a;rcases a with rfl|rfl|rfl|rfl <;> rfl
structure Xdb(w w':dD)(q:Plc):Prop where
 ok:Zo w' q
 lt:Yr w' q.pa
 fresh:Bd w q.pa
theorem Xbx{a b c:Int}:Xdb w w' ⟨a,b,c,none,0,[]⟩:=⟨⟨Rd.nil _ _ _,by simp⟩,(by intro b off s e;cases e),(by intro b off s e;cases e)⟩
theorem A4.out{w w2:dD}{r r':RR}{M:RmM}(hK:A4 w2 r r')(h:Qd w r M){S:Nat->Prop}(h1:∀z,S z->w.heap.size<=z)(h2:∀z,S z->z<w2.heap.size):C8 S r':=hK.2.2 S h2 (h.out h1)
theorem Xl7(r:RR)(M:RmM)(who size:Int)(w:dD)(h:Qd w r M)(hm:Jo M)(hMok:M.Ok r.c)(ht:0<=M.tot/\M.tot<=4611686018427000000)(hr:Rd .i64 w r.cp.ca r.c.bT)(hmay:Zb r.c=true):Xe prog 206 #[.agg (A6 r).toArray,.int .i64 who,.int .i64 size] w
 (λv w'=>∃r' q,v=.tuple #[.agg (A6 r').toArray,.agg (Xv q).toArray,.int .i64 (C4 r.c M who size)]/\Xy q=Bx r.c M who size/\Qd w' r' (Au r.c M who size)/\A4 w r r'/\Xdb w w' q/\Xc Xf w w'):=by
 have ga:maxLen=9223372036854775807:=rfl;have hf:=Z4 hmay;have gb:=hf.size;have cy:=hf.n;have cz:=hf.cH;refine aR func206 ntmps206 aA (bC aA λrb w1 e1 f0 f1 gd=>bC aA λob w2 e2 f2 d0 ge=>bC aA λqb w3 e3 d1 bs gf=>?_);have a5:=(f1.trans d0).trans bs;have ap:=bs.bP (d0.bP f0);have bt:=bs.bP f2;by_cases H:who<0
 .have bu:C4 r.c M who size=1/\Bx r.c M who size=⟨0,0,0,[]⟩/\Au r.c M who size=M:=by
   exact⟨by unfold C4;rw[bK H],by unfold Bx;rw[bK H],by unfold Au;rw[bK H]⟩
  rw[bu.1,bu.2.1,bu.2.2];refine bI aA (bB ap aA (aO aA (bF bt aA λw4 a6 d2 gg=>?_)));have a7:=d2.heap d1 (by omega);refine bF a7 aA λw5 a8 d3 gh=>?_;have a9:=d3.heap a6 (by omega);have hc:=(a5.sn d2).sn d3;exact bD rfl func206 (Xi.cell rfl rfl rfl a9 rfl (.cell rfl rfl rfl a8 rfl (.tmp rfl .nil))) ⟨r,⟨0,0,0,none,0,[]⟩,rfl,rfl,h.bQ hc,A4.refl w r,Xbx,hc⟩
 .refine aS aA (bB ap aA (bG (XbK r M size w3 (h.bQ a5) (hr.bR a5) cy.2 cz.2) aA λw4 aj=>?_));have I:=a5.trans aj;have aa:=aj.bP ap;have a6:=aj.bP bt;have a7:=aj.bP d1;have fw:=aj.size;by_cases y:Qf r.c M size=0
  .have a0:¬(Qf r.c M size≠0):=λh=>h y;have dq:¬(size<1\/r.c.cH<size)/\Dd r.c M size<=M.pl.free.length:=by
    have y:=y;unfold Qf at y;split at y
    .cases y
    .split at y
     .cases y
     .refine⟨by assumption,by omega⟩
   refine aI aA (by rw[y];rfl) (bB aa aA (bG (R9 r size w4 (hr.bR I) (by omega)) aA λw5 o=>?_));have ab:=I.trans o;have bv:=o.bP aa;have a9:=o.bP a6;have a8:=o.bP a7;have fx:=o.size;by_cases g3:Xm r.c.bT size=-1
   .have K:C4 r.c M who size=0/\Bx r.c M who size=⟨-1,(M.pl.free.getD 0 0:Nat),0,X4 (M.pl.free.take (Z8 size r.c.size).toNat).tail⟩/\Au r.c M who size=Es M (Z8 size r.c.size).toNat:=by
     exact⟨by unfold C4;rw[bJ H,bJ a0,bK g3],by unfold Bx;rw[bJ H,bJ a0,bK g3],by unfold Au;rw[bJ H,bJ a0,bK g3]⟩
    rw[K.1,K.2.1,K.2.2];have ft:Dd r.c M size=Z8 size r.c.size:=by unfold Dd;rw[bK g3]
    have gi:2<=Z8 size r.c.size:=by
     have h0:0<=(size-1)/r.c.size:=YL (by omega) (by omega);have h9:(size-1)/r.c.size<=size-1:=QK _ (by omega);have e4:Qm size r.c.size=(size-1)/r.c.size+1:=by unfold Qm;rw[bJ (by omega)]
     unfold Z8;rw[e4,bJ (by omega)];omega
    obtain⟨many,cv⟩:=XE (show 0<=Z8 size r.c.size by omega);have gj:2<=many:=by omega
    have d4:many<=M.pl.free.length:=by have:=dq.2;omega
    have gk:M.pl.free.length<=1024:=by have:=hm.cV.many;have:=hm.cV.len;omega
    refine aS aA (aO aA (bC aA λtb w6 e6 f4 b7 f5=>bF f4 aA λw7 dr f6 f7=>?_));have ac:=b7.sn f6;have A:=ab.trans ac;have bw:=ac.bP bv;have ds:=ac.bP a9;have av:=ac.bP a8;refine bB bw aA (bH (XfV size r.c.size w7 (by omega)) aA ?_);rw[cv,XB];have hn:=hMok.n;obtain⟨B,a⟩:∃B:Nat->Prop,B=λz=>z=rb\/z=ob\/z=qb\/z=tb:=⟨_,rfl⟩;have L:∀z,B z->w.heap.size<=z/\z<w7.heap.size:=λz c=>by rw[a] at c;rcases c with e|e|e|e <;> omega
    have b8:=h.out (S:=B) (λz c=>(L z c).1);refine Xa.loop (α:=Nat×RP×dE) (λx=>[(3,false,.pointer (some ⟨rb,0,none⟩)),(6,false,.pointer (some ⟨ob,0,none⟩)),(7,false,.pointer (some ⟨qb,0,none⟩)),(14,false,.pointer (some ⟨tb,0,none⟩)),(15,false,.int .i64 many),(16,false,.int .i64 x.1)])
     (λx w'=>x.1<=many/\Yn w' rb {r with p:=x.2.1}/\w'.heap[tb]?=some (.cells ([.int .i64 (-1),.int .i64 (if x.1=0 then 0 else (M.pl.free.getD 0 0:Nat)),.int .i64 0,x.2.2]:List dE).toArray 83 (0,0))/\Ap w' x.2.1 (Az M.pl (M.shs.length:Nat) x.1)/\Xj B x.2.1.o.a/\Xj B x.2.1.f.a/\
      (∀S:Nat->Prop,(∀z,S z->z<w.heap.size)->Xj S r.p.o.a->Xj S r.p.f.a->Xj S x.2.1.o.a/\Xj S x.2.1.f.a)/\Yr w x.2.1.f.a/\Xl w7.heap.size 3 1 w' x.2.2 (x.1-1) ((X4 (M.pl.free.take x.1).tail).map (Value.int .i64))/\Xc (λz=>z=rb\/z=tb) w7 w') (λx=>many-x.1) (0,r.p,.slice none 0 0) ⟨rfl,rfl,rfl,rfl,rfl,rfl,trivial⟩
     ⟨XP _,bw,dr,h.p.bQ A,b8.o,b8.f,λS _ h1 h2=>⟨h1,h2⟩,h.p.f.lt,⟨rfl,.inl ⟨rfl,rfl⟩⟩,Xc.refl _ _⟩ ?_
    rintro⟨i,rp,v⟩ w8 ⟨hi,N,ad,a2,d5,c0,b9,d6,a3,ak⟩ ih;simp only at hi N ad a2 d5 c0 b9 d6 a3
    have fz:=ak.size;refine aN aA (aT aA (λc2=>?_) λc2=>?_)
    .have d7:i<many:=by have:=bL c2;omega
     have c3:i<M.pl.free.length:=by omega
     obtain⟨q1,q2,q3,q4,q5⟩:=M9 (who:=(M.shs.length:Nat)) (by omega) hm.cV i (by omega);have ba:(Az M.pl (M.shs.length:Nat) i).free=M.pl.free[i]::M.pl.free.drop (i+1):=by rw[q2];exact ZV c3
     obtain⟨t1,t2,t3⟩:=Xbw (who:=(M.shs.length:Nat)) (by omega) ba;have etk:=t3;refine bB N aA (bB N aA ?_);have hd:=XfP rp (M.shs.length:Nat) _ _ _ w8 a2 q1 (by omega) ba;rw[<-etk,hn] at hd;refine aP aA (hd) ?_;rintro _ C ⟨l9,rfl,d8,ax,d9⟩;refine aN aA ?_;rw[<-hn] at d8;refine bC aA λxb wa ea c4 O fa=>bF c4 aA λwb dt fb da=>?_;have g6:=d9.size;have c5:=O.sn fb;have ae:=d9.trans c5;refine bB dt aA (bF (ae.bP N) aA λwc c6 bb gl=>?_);have fc:=d8.bQ c5;have c7:=ax.out (λz c=>by have:=(L z c).2;omega);have c8:Xj B (rp.f.sl 1 rp.f.x.length).a:=IL.sl_out c0;have db:∀S:Nat->Prop,(∀z,S z->z<w.heap.size)->Xj S r.p.o.a->Xj S r.p.f.a->Xj S l9.a/\Xj S (rp.f.sl 1 rp.f.x.length).a:=λS hS h1 h2=>⟨ax.out (λz c=>by have:=hS z c;have:=A.size;omega),IL.sl_out (b9 S hS h1 h2).2⟩;have c9:Yr w (rp.f.sl 1 rp.f.x.length).a:=λb off s e=>by
      obtain⟨_,_,e'⟩:=Xb7 e;exact d6 b _ _ e'
     have F:B rb:=by rw[a];exact .inl rfl
     have dc:B tb:=by rw[a];exact .inr (.inr (.inr rfl))
     have bW:∀{w1 w2:dD} {z0:Nat},B z0->Xc (λz=>z=z0) w1 w2->Ap w1 ⟨l9,rp.f.sl 1 rp.f.x.length⟩ (Az M.pl (M.shs.length:Nat) (i+1))->Ap w2 ⟨l9,rp.f.sl 1 rp.f.x.length⟩ (Az M.pl (M.shs.length:Nat) (i+1)):=λa4 k bc=>⟨bc.o.bW (c7.mono (λz e=>by subst e;exact a4)) k,bc.f.bW (c8.mono (λz e=>by subst e;exact a4)) k,bc.eo,bc.ef⟩;have dd:=bW F bb fc;have af:=bb.heap (ae.bP ad) (by omega);have de:=(a3.bR ae (λ_ _ h=>h)).bR bb (λb D e=>by have:=(World.ownsRow.lt a3 b D.symm).1;replace e:b=rb:=e;omega);have ca:=(ak.trans ae.gr).trans (bb.mono λ_ _ e=>.inl e);by_cases df:i=0
     .subst df;refine bI aA (bF af aA λwd du be cb=>aV aA ?_);have dv:((M.pl.free[0]:Nat):Int)=(M.pl.free.getD 0 0:Nat):=by rw[XA,XD c3];rfl
      exact ih (1,⟨l9,rp.f.sl 1 rp.f.x.length⟩,v) _ _ ⟨by omega,be.heap c6 (by omega),by rw[bJ (show ¬(1=0) by omega),<-dv];exact du,bW dc be dd,c7,c8,db,c9,by
       have e:(M.pl.free.take 1).tail=[]:=YG (by rw[QS,XX];omega);have e0:(M.pl.free.take 0).tail=[]:=by simp
       have:=de.bR be (λb D e=>by have:=(World.ownsRow.lt a3 b D.symm).1;replace e:b=tb:=e;omega);rw[e0] at this;show Xl _ _ _ _ _ 0 _
       rw[e];exact this,ca.trans (be.mono λ_ _ e=>.inr e)⟩ (by simp only;omega) ⟨rfl,rfl,rfl,rfl,rfl,rfl,trivial⟩
     .rw[bJ df] at af;refine aI aA (by simp;omega) (bB af aA (Xa.buildSlice Xb rfl λbd wd ed fe d cb=>aN aA ?_));have dg:=de.bR d (λ_ _ h=>h);refine Xa.append (base:=w7.heap.size) (xs:=(X4 (M.pl.free.take i).tail).map (Value.int .i64)) (news:=[.int .i64 (M.pl.free[i]:Nat)]) Xb rfl dg (by omega) (by simp) (Gs fe) (by simp[Value.oneCell']) ⟨by omega,by show(i-1+1)*8<=_;omega⟩ ?_;intro v2 we m al gm;obtain⟨va,vn,vc,rfl⟩:=Xl.isSlice m;refine aN aA ?_;have ag:=λ(b:Nat) (D:some b=v.ownBlock)=>(World.ownsRow.lt dg b D.symm).1;have dw:=al.heap (d.bP c6) (λe=>by have:=ag rb e;omega);have dx:=al.heap (d.bP af) (λe=>by have:=ag tb e;omega);have bf:=dd.bQ d;have ff:Ap we ⟨l9,rp.f.sl 1 rp.f.x.length⟩ (Az M.pl (M.shs.length:Nat) (i+1)):=by
       have fg:=λ(b:Nat) (D:some b=v.ownBlock)=>(World.ownsRow.lt a3 b D.symm).2;exact⟨bf.o.bW (λb off s e D=>by have:=ax b off s e;have:=fg b D;omega) al,bf.f.bW (λb off s e D=>by have:=c9 b off s e;have:=ag b D;omega) al,bf.eo,bf.ef⟩
      refine bF dx aA λwf dy bg gn=>aV aA ?_;exact ih (i+1,⟨l9,rp.f.sl 1 rp.f.x.length⟩,.slice va vn vc) _ _ ⟨by omega,bg.heap dw (by omega),by rw[bJ (show ¬(i+1=0) by omega)];exact dy,bW dc bg ff,c7,c8,db,c9,by
       have e:(M.pl.free.take (i+1)).tail=(M.pl.free.take i).tail++[M.pl.free[i]]:=by
        rw[ZH,XD c3,List.tail_append_of_ne_nil]
        .rfl
        .intro e;have:=congrArg List.length e;rw[XX,List.length_nil] at this;omega
       have:=m.bR bg (λb D e=>by have:=(World.ownsRow.lt m b D.symm).1;replace e:b=tb:=e;omega);rw[e,Xfa,XL];have e2:i-1+1=i+1-1:=by omega
       rw[e2] at this;exact this,((ca.trans d.gr).bU al (λz c e=>by have:=ag z e;omega)).trans (bg.mono λ_ _ e=>.inr e)⟩ (by simp only;omega) ⟨rfl,rfl,rfl,rfl,rfl,rfl,trivial⟩
    .have dz:i=many:=by have:=bM c2;omega
     subst dz;have bh:=a
     clear a
     have cc:(M.pl.free.take i).tail.length=i-1:=by rw[QS,XX];omega
     obtain⟨g,gc,rfl,gp,gq,gs,fh,fi⟩:=Xbm a3 cc (by omega);obtain⟨q0,ah⟩:∃q0:Plc,q0=⟨-1,(M.pl.free.getD 0 0:Nat),0,some ⟨g,0,none⟩,gc,X4 (M.pl.free.take i).tail⟩:=⟨_,rfl⟩;have cw:w8.heap[tb]?=some (.cells (Xv q0).toArray 83 (0,0)):=by
      rw[bJ (show ¬i=0 by omega)] at ad;have e:Xv q0=[.int .i64 (-1),.int .i64 (M.pl.free.getD 0 0:Nat),.int .i64 0,.slice (some ⟨g,0,none⟩) (i-1) gc]:=by
       rw[ah];show [_,_,_,Value.slice _ (X4 (M.pl.free.take i).tail).length _]=_
       rw[En,cc]
      rw[e];exact ad
     have cd:Xy q0=⟨-1,(M.pl.free.getD 0 0:Nat),0,X4 (M.pl.free.take i).tail⟩:=by rw[ah];rfl
     have ai:q0.pa=some ⟨g,0,none⟩:=by rw[ah]
     have ce:q0.bS=X4 (M.pl.free.take i).tail:=by rw[ah]
     have gt:=h.st;have cf:=A.bU ak (λz c e=>by rcases e with e|e <;> omega);have P:=ak.heap ds (by omega);have Q:=ak.heap av (by omega);obtain⟨t,cg⟩:∃t,t=Xw M.tot (((i:Nat):Int)*4+(((i:Nat):Int)-1)):=⟨_,rfl⟩;have fj:r.cM+4*(i:Int)+(i:Int)-1=t:=by
      rw[cg];unfold Xw;rw[bJ (by omega)];omega
     have e5:=hMok.big hm.cV (show 1<=i by omega) d4;have fk:(r.lg++[q0]).length<=1024:=by
      have h1:=XjW e5 (M9 (who:=(M.shs.length:Nat)) (by omega) hm.cV i d4).1;have h2:(M.lg++[(M.pl.free.getD 0 0,(M.pl.free.take i).tail)]).length<=1024:=h1;have fu:r.lg.length=M.lg.length:=by have:=congrArg List.length h.lge;simpa using this
      simp only[ZC,XN,List.length_nil] at h2⊢;omega
     have bi:w8.heap[rb]?=some (.cells (Zj r.c r.cp++[Xq rp.o,Xq rp.f,.slice r.sa r.ss.length r.scap,.slice r.la r.lg.length r.lcap,.int .i64 r.cM]).toArray 38 (0,0)):=N;refine Xa.cJ Xb rfl bi rfl rfl ?_;refine Xa.arith Xb rfl (w64 (by omega)) rfl ?_;refine Xa.arith Xb rfl (w64 (by omega)) rfl ?_;refine aV aA (aV aA ?_);rw[fj];refine bF bi aA λC ch u fm=>?_;have ci:=u.heap cw (by omega);have az:=u.heap P (by omega);have b1:=u.heap Q (by omega);have e8:Xc B w8 C:=u.mono λ_ _ e=>by rw[bh];exact .inl e
     have b2:=cf.sn u;have cx:=ch;apply Xa.cut (α:=dE×Nat) (λx=>[(3,false,.pointer (some ⟨rb,0,none⟩)),(6,false,.pointer (some ⟨ob,0,none⟩)),(7,false,.pointer (some ⟨qb,0,none⟩)),(14,false,.pointer (some ⟨tb,0,none⟩)),(99,false,x.1),(101,false,.slice (some ⟨x.2,0,none⟩) 1 1)]) (λx w'=>Xc Xf C w'/\Xl C.heap.size 83 4 w' x.1 r.lg.length (fl Xv r.lg)/\w'.heap[x.2]?=some (.cells (Xv q0).toArray 83 (0,0)))
     .intro J;refine aQ 6 Xf (by kernel_rfl) aA λa=>aE a cx aA (aE a ci aA ?_);refine Xd.turn2 a rfl ?_ ?_
      .intro wa O;refine Xo.buildSlice Xb a rfl (λ_=>rfl) ?_;intro b0 wb eb a4 bj da;have k:=O.trans bj;have R:Xl C.heap.size 83 4 wb (.slice (some ⟨b0,0,none⟩) 0 0) 0 (fl Xv []):=Xl.empty (by have:=O.size;omega) a4;refine Xd.turn2 a rfl ?_ ?_
       .intro wc f;refine Xo.appendA Xb a rfl (base:=C.heap.size) (xs:=fl Xv []) (news:=fl Xv r.lg) (R.bR f (λ_ _ h=>h)) ((k.trans f)).size h.lr.noneA (XF _) (Jv Lo r.lg) ((h.lr.bR (b2.trans (k.trans f))).news Lo (by decide)) (Ol O7 r.lg) ⟨by have:=h.lm;omega,by have:=h.lm;show(0+r.lg.length)*48<=_;omega⟩ (λ_=>rfl) ?_;intro v1 wx n T dh;have am:=((R.bR f (λ_ _ h=>h))).bU (k.trans f) (XF _) T;rw[Oj,ZT,XT] at n;exact Xd.cK a rfl λwd d=>Xo.buildSlice Xb a rfl (λ_=>rfl) λW we ee G j gu=>aF a aA λwf l=>J (v1,W) _ _ ⟨(((am.trans d).trans j).trans l),(((n.bR d (λ_ _ h=>h)).bR j (λ_ _ h=>h)).bR l (λ_ _ h=>h)),(l.bP G)⟩ ⟨rfl,rfl,rfl,rfl,rfl,rfl,trivial⟩
       .intro wc f;refine Xo.buildSlice Xb a rfl (λ_=>rfl) λW wd ed G d cb=>Xd.cK a rfl λwe j=>Xo.appendA Xb a rfl (base:=C.heap.size) (xs:=fl Xv []) (news:=fl Xv r.lg) (((R.bR f (λ_ _ h=>h)).bR d (λ_ _ h=>h)).bR j (λ_ _ h=>h)) ((((k.trans f).trans d).trans j)).size h.lr.noneA (XF _) (Jv Lo r.lg) ((h.lr.bR (b2.trans (((k.trans f).trans d).trans j))).news Lo (by decide)) (Ol O7 r.lg) ⟨by have:=h.lm;omega,by have:=h.lm;show(0+r.lg.length)*48<=_;omega⟩ (λ_=>rfl) λv1 wx n T dh=>?_;have am:=((((R.bR f (λ_ _ h=>h)).bR d (λ_ _ h=>h)).bR j (λ_ _ h=>h))).bU (((k.trans f).trans d).trans j) (XF _) T;rw[Oj,ZT,XT] at n;refine aF a aA λwf l=>?_;have cj:¬Jz (.slice (some ⟨b0,0,none⟩) 0 0) W:=by
         intro h;have e:some W=some b0:=h;have:=Option.some.inj e;have:=f.size;omega
        exact J (v1,W) _ _ ⟨(am.trans l),(n.bR l (λ_ _ h=>h)),(l.bP (T.heap (j.bP G) cj))⟩ ⟨rfl,rfl,rfl,rfl,rfl,rfl,trivial⟩
      .intro wa O;refine Xo.buildSlice Xb a rfl (λ_=>rfl) λW wb eb G bj da=>Xd.cK a rfl λwc f=>Xo.buildSlice Xb a rfl (λ_=>rfl) λb0 wd ed a4 d cb=>?_;have k:=((O.trans bj).trans f).trans d;have R:Xl C.heap.size 83 4 wd (.slice (some ⟨b0,0,none⟩) 0 0) 0 (fl Xv []):=Xl.empty (by have:=((O.trans bj).trans f).size;omega) a4;refine Xd.cK a rfl λwe j=>Xo.appendA Xb a rfl (base:=C.heap.size) (xs:=fl Xv []) (news:=fl Xv r.lg) (R.bR j (λ_ _ h=>h)) ((k.trans j)).size h.lr.noneA (XF _) (Jv Lo r.lg) ((h.lr.bR (b2.trans (k.trans j))).news Lo (by decide)) (Ol O7 r.lg) ⟨by have:=h.lm;omega,by have:=h.lm;show(0+r.lg.length)*48<=_;omega⟩ (λ_=>rfl) λv1 wx n T dh=>?_;have am:=((R.bR j (λ_ _ h=>h))).bU (k.trans j) (XF _) T;rw[Oj,ZT,XT] at n;refine aF a aA λwf l=>?_;have cj:¬Jz (.slice (some ⟨b0,0,none⟩) 0 0) W:=by
        intro h;have e:some W=some b0:=h;have:=Option.some.inj e;have:=f.size;omega
       exact J (v1,W) _ _ ⟨(am.trans l),(n.bR l (λ_ _ h=>h)),(l.bP (T.heap ((d.trans j).bP (f.bP G)) cj))⟩ ⟨rfl,rfl,rfl,rfl,rfl,rfl,trivial⟩
     .rintro⟨v1,W⟩ wf ⟨di,m,G⟩;simp only at m G
      have e9:=di.size;obtain⟨a1,n1,c1,rfl⟩:=Xl.isSlice m;refine Xa.appendA (base:=C.heap.size) (xs:=fl Xv r.lg) (news:=Xv q0) Xb rfl m e9 (λe=>by cases e) rfl (P4 G) (O7 q0) ⟨by have:=h.lm;omega,by have:=h.lm;show(r.lg.length+1)*48<=_;omega⟩ ?_;intro v3 wy fn fo gv;have U:=m.bU di (XF _) fo;have ec:Xl C.heap.size 83 4 wy v3 (r.lg.length+1) (fl Xv (r.lg++[q0])):=by
       rw[Oi,Rh];exact fn
      obtain⟨la,lcap,rfl,ef,d7,eg,bk⟩:=Xl.rowsN ec Lo (by simp);refine aN aA (bF (U.bP ch) aA λwz eh an gw=>?_);have ei:=an.heap (U.bP ci) (by omega);have ej:=an.heap (U.bP az) (by omega);have ek:=an.heap (U.bP b1) (by omega);have ck:B ob:=by rw[bh];exact .inr (.inl rfl)
      have cl:B qb:=by rw[bh];exact .inr (.inr (.inl rfl))
      have cm:B rb:=by rw[bh];exact .inl rfl
      have el:Xc B C wz:=U.gr.trans (an.mono λ_ _ e=>by rw[e];exact cm);refine aQ 3 (λz=>z=ob) (by kernel_rfl) aA λa=>aE a eh aA (aE a ei aA (Xd.cK a rfl λwu bm=>Xo.store Xb a rfl (bm.bP ej) (by first|(intro h;exact rfl)|(intro h;omega)) rfl rfl rfl λwv em cn gx=>?_));refine aF a aA λww bn=>?_;have en:=bn.bP (cn.heap (bm.bP ek) (by omega));refine bF en aA λwr eo co gy=>?_;have ep:=co.heap (bn.bP em) (by omega);have F:=(((((e8.trans el).trans bm.gr).trans (cn.mono λ_ _ e=>by rw[e];exact ck)).trans bn.gr).trans (co.mono λ_ _ e=>by rw[e];exact cl));have cp:=cf.bU F (λz c e=>by have:=(L z e).1;omega);have fp:Ap wr rp (Az M.pl (M.shs.length:Nat) i):=⟨a2.o.bW d5 F,a2.f.bW c0 F,a2.eo,a2.ef⟩;have fq:¬B g:=λc=>by have:=(L g c).2;omega
      have er:=fi.bW (S:=B) (λb' off s e=>by cases e;exact fq) F;have V:=h.bQ cp;have cq:Xc B wy wr:=((((an.mono λ_ _ e=>by rw[e];exact cm).trans bm.gr).trans (cn.mono λ_ _ e=>by rw[e];exact ck)).trans bn.gr).trans (co.mono λ_ _ e=>by rw[e];exact cl);have es:Xj B la:=λb off s e c=>by have:=bk b off s e;have:=(L b c).2;omega
      have cr:Yr w8 q0.pa:=λb off s e=>by rw[ai] at e;cases e;exact Ek fh
      have dj:Zo wr q0:=⟨by rw[ai,ce];exact er,by rw[ce,En,cc];omega⟩;exact bD rfl func206 (Xi.cell rfl rfl rfl ep rfl (.cell rfl rfl rfl eo rfl (.tmp rfl .nil))) ⟨{r with p:=rp,cM:=t,lg:=r.lg++[q0],la:=la,lcap:=lcap},q0,rfl,cd,⟨fp,V.sr,V.sl,V.sc,V.n,V.few,V.cI,ef.bW es cq,d7.bQ cq.size,eg,fk,by show(r.lg++[q0]).map Xy=(M.lg++[(M.pl.free.getD 0 0,(M.pl.free.take i).tail)]).map lgP;rw[XL,XL,h.lge,ZK,List.map_nil,cd];rfl,λq E=>(XS.1 E).elim (λE=>V.lgo q E) (λE=>by rw[YZ] at E;subst E;exact⟨dj,cr.bQ F.size⟩),cg⟩,⟨rfl,rfl,λS hS ho=>⟨(b9 S hS ho.o ho.f).1,(b9 S hS ho.o ho.f).2,ho.sa,ho.cI,λb off s e c=>by have:=bk b off s e;have:=hS b c;have:=A.size;omega,λq E=>(XS.1 E).elim (λE=>ho.lgo q E) (λE=>by rw[YZ] at E;subst E;exact λb off s e c=>by rw[ai] at e;cases e;have:=hS g c;have:=A.size;omega)⟩⟩,⟨dj,cr.bQ F.size,λb off s e=>by rw[ai] at e;cases e;have:=A.size;omega⟩,cp⟩
   .have K:C4 r.c M who size=Gj M (Xm r.c.bT size) who/\Bx r.c M who size=⟨Xm r.c.bT size,Eu M (Xm r.c.bT size) who,Et M (Xm r.c.bT size) who,[]⟩/\Au r.c M who size=Qi M (Xm r.c.bT size) who:=by
     exact⟨by unfold C4;rw[bJ H,bJ a0,bJ g3],by unfold Bx;rw[bJ H,bJ a0,bJ g3],by unfold Au;rw[bJ H,bJ a0,bJ g3]⟩
    rw[K.1,K.2.1,K.2.2];have gz:=R4 r.c.bT size;refine bI aA (bB bv aA (aP aA (XfX r M (Xm r.c.bT size) who w5 (h.bQ ab) hm ht) ?_));rintro _ w6 ⟨r',rfl,hR,hK,b7⟩;refine aN aA (bC aA λxb w7 e7 c4 ao f7=>bF c4 aA λw8 eu bo fr=>?_);have ew:=ab.trans b7;have b6:=ao.sn bo;have cs:=b7.trans b6;have P:=cs.bP a9;have Q:=cs.bP a8;refine bB eu aA (aO aA (bF P aA λC az u fm=>?_));have b1:=u.heap Q (by omega);refine bF b1 aA λwa ex ct fa=>?_;have ey:=ct.heap az (by omega);have hc:=((ew.trans b6).sn u).sn ct;have n:C8 (λz=>z=ob) r':=hK.out h (λz c=>by omega) (λz c=>by omega);have m:C8 (λz=>z=qb) r':=hK.out h (λz c=>by omega) (λz c=>by omega);exact bD rfl func206 (Xi.cell rfl rfl rfl ey rfl (.cell rfl rfl rfl ex rfl (.tmp rfl .nil))) ⟨r',⟨Xm r.c.bT size,Eu M (Xm r.c.bT size) who,Et M (Xm r.c.bT size) who,none,0,[]⟩,rfl,rfl,((hR.bQ b6).bW n u).bW m ct,hK.dC ab.size,Xbx,hc⟩
  .have cu:C4 r.c M who size=Qf r.c M size/\Bx r.c M who size=⟨0,0,0,[]⟩/\Au r.c M who size=M:=by
    exact⟨by unfold C4;rw[bJ H,bK y],by unfold Bx;rw[bJ H,bK y],by unfold Au;rw[bJ H,bK y]⟩
   rw[cu.1,cu.2.1,cu.2.2];refine aM aA (by simpa using y) ?_;have b8:C8 (λz=>z=ob) r:=h.out (λz c=>by omega);have fs:∀w',Xc (λz=>z=ob) w4 w'->Xc Xf w w':=λw' bp=>I.sn bp;refine Xa.drawn (q:=6) (λz=>z=ob) Xb Xn (by kernel_rfl) rfl ?_;intro a;refine Xd.loads Xb a rfl aa (by first|exact λh=>h|(intro h;omega)|assumption) rfl rfl ?_;refine Xd.build Xb a rfl rfl ?_;refine Xd.loads Xb a rfl aa (by first|exact λh=>h|(intro h;omega)|assumption) rfl rfl ?_;refine Xd.call Xb a rfl (λw' bp=>XbK r M size w' ((h.bQ I).bW b8 bp) (hr.bR (fs w' bp)) cy.2 cz.2) rfl ?_;refine Xd.cK a rfl λw5 o=>Xo.store Xb a rfl (o.bP a6) (by first|(intro h;exact rfl)|(intro h;omega)) rfl rfl rfl λw6 ez dk f5=>aF a aA λw7 ao=>?_;have av:=ao.bP (dk.heap (o.bP a7) (by omega));refine bF av aA λw8 Q bo fr=>?_;have P:=bo.heap (ao.bP ez) (by omega);have hc:=(((I.trans o).sn dk).trans ao).sn bo;exact bD rfl func206 (Xi.cell rfl rfl rfl P rfl (.cell rfl rfl rfl Q rfl (.tmp rfl .nil))) ⟨r,⟨0,0,0,none,0,[]⟩,rfl,rfl,h.bQ hc,A4.refl w r,Xbx,hc⟩
def J7(a b:Plc):Bool:=decide (a.cR=b.cR/\a.bS=b.bS)
theorem Xl9(a b:Plc)(w:dD)(ha:Rd .i64 w a.pa a.bS)(hb:Rd .i64 w b.pa b.bS)(hl:a.bS.length<=9223372036854775807):Xe prog 259 #[.agg (Xv a).toArray,.agg (Xv b).toArray] w (Grow (.bool (J7 a b)) w):=by
 refine aR func259 ntmps259 aA (bC aA λx P e1 H A M=>bC aA λy I e2 r n N=>?_);have g:=n.bP H;have c:=A.trans n;refine bB g aA (bB r aA (aT aA (λs=>?_) λs=>?_))
 .have i:a.cR≠b.cR:=by simpa using s
  have e:J7 a b=false:=bO (λh=>i h.1);rw[e];exact bE func259 aA ⟨rfl,c⟩
 .have i:a.cR=b.cR:=by simpa using s
  refine bB g aA (bB r aA (aT aA (λt=>?_) λt=>?_))
  .have B:a.bS.length≠b.bS.length:=by simp at t;omega
   have e:J7 a b=false:=bO (λh=>B (by rw[h.2]));rw[e];exact bE func259 aA ⟨rfl,c⟩
  .have u:a.bS.length=b.bS.length:=by simp at t;omega
   refine Xa.loop (α:=Nat) (λk=>[(2,false,.pointer (some ⟨x,0,none⟩)),(3,false,.pointer (some ⟨y,0,none⟩)),(5,false,.int .i64 k)])
    (λk w'=>Xc Xf I w'/\k<=a.bS.length/\∀j,j<k->a.bS.getD j 0=b.bS.getD j 0) (λk=>a.bS.length-k) 0 ⟨rfl,rfl,rfl,trivial⟩ ⟨Xc.refl _ _,XP _,λ_ h=>by omega⟩ ?_
   rintro k Q ⟨d,R,l⟩ ih;have o:=d.bP g;refine aN aA (bB o aA (aT aA (λv=>?_) λv=>?_))
   .have p:k<a.bS.length:=by have:=bL v;omega
    obtain⟨ba,oa,C,D⟩:=((ha.bR c).bR d) k p;obtain⟨bb,obb,E,F⟩:=((hb.bR c).bR d) k (by omega);refine aQ 11 Xf (by kernel_rfl) aA λf=>aE f o aA ?_;rw[C];refine aB k f aA (aD f D aA (aE f (d.bP r) aA ?_));rw[E];refine aB k f aA (aD f F aA (aF f aA λS q=>aT aA (λm=>?_) λm=>?_))
    .have z:a.bS.getD k 0≠b.bS.getD k 0:=by simpa using m
     have e:J7 a b=false:=bO (λh=>z (by rw[h.2]));rw[e];exact bE func259 aA ⟨rfl,(c.trans d).trans q⟩
    .have J:a.bS.getD k 0=b.bS.getD k 0:=by simpa using m
     refine aV aA ?_;exact ih (k+1) _ _ ⟨d.trans q,p,λj T=>by
      by_cases e:j=k
      .subst e;exact J
      .exact l j (by omega)⟩ (by omega) ⟨rfl,rfl,rfl,trivial⟩
   .have O:k=a.bS.length:=by have:=bM v;omega
    have G:=List.ext_getElem u λj K L=>by
     have:=l j (by omega);rw[I0 K,I0 L] at this;exact this
    have e:J7 a b=true:=bN ⟨i,G⟩;rw[e];exact bE func259 aA ⟨rfl,c.trans d⟩
def Ce(q x:Plc):Bool:=decide (q.cL=-1) && J7 x q
def Dp(q:Plc)(l:List Plc):List Plc:=l.filter λx=>!Ce q x
theorem XaZ{l:List Plc}(h:i<l.length):Dp q (l.take (i+1))=Dp q (l.take i)++(if Ce q l[i] then [] else [l[i]]):=by
 unfold Dp;rw[ZH,XD h,QO];by_cases e:Ce q l[i]=true
 .rw[bK e];simp[e]
 .rw[bJ e];simp[e]
theorem W9{l:List Plc}(h:i<l.length):(l.take (i+1)).any (Ce q)=((l.take i).any (Ce q)||Ce q l[i]):=by
 rw[ZH,XD h,List.any_append]
 simp
theorem XjA{ps:List Plc}(hl:ps.map Xy=lg.map lgP)(hq:q.cL=-1):(ps.any (Ce q)=lg.any λe=>decide ((e.1:Int)=q.cR/\X4 e.2=q.bS))/\(Dp q ps).map Xy=(lg.filter λe=>!decide ((e.1:Int)=q.cR/\X4 e.2=q.bS)).map lgP:=by
 induction ps generalizing lg with
 |nil=>
  cases lg with
  |nil=>exact⟨rfl,rfl⟩
  |cons a r=>simp at hl
 |cons x xs ih=>
  cases lg with
  |nil=>simp at hl
  |cons a r=>
   rw[ZK,ZK] at hl;obtain⟨b,f⟩:=List.cons.inj hl;obtain⟨g,c⟩:=ih f;have e1:x.cR=(a.1:Nat):=congrArg PlcM.cR b;have e2:x.bS=X4 a.2:=congrArg PlcM.bS b;have e3:Ce q x=decide ((a.1:Int)=q.cR/\X4 a.2=q.bS):=by
    unfold Ce J7;rw[bN hq,YI,e1,e2]
   refine⟨by rw[List.any_cons,List.any_cons,e3,g],?_⟩;unfold Dp at *;rw[ZJ,ZJ,e3];by_cases d:decide ((a.1:Int)=q.cR/\X4 a.2=q.bS)=true
   .rw[d];exact c
   .have hf:decide ((a.1:Int)=q.cR/\X4 a.2=q.bS)=false:=by simpa using d
    rw[hf];simp only[Bool.not_false,if_true,ZK];rw[c,b]
theorem Xa0(hn:(Y5 lg).Nodup){r r':List Nat}(h:(n,r)∈lg)(h':(n,r')∈lg):r=r':=by
 obtain⟨a,b,e1,e2⟩:=Ow hn h;rw[e1] at h' hn;have c:Y5 (a++(n,r)::b)=Y5 a++((n::r)++Y5 b):=by rw[Kq];rfl
 rw[c] at hn;obtain⟨_,d,e⟩:=XR.1 hn;obtain⟨_,_,f⟩:=XR.1 d;rcases XS.1 h' with g|g
 .exact absurd rfl (e n (I5 g (by simp)) n (by simp))
 .rcases ZB.1 g with g|g
  .exact((Prod.mk.inj g).2).symm
  .exact absurd rfl (f n (by simp) n (I5 g (by simp)))
theorem XjB(hn:(Y5 lg).Nodup){r:List Nat}(h:(n,r)∈lg){p:Int}{ps:List Int}(hp:p=n)(hps:X4 r=ps):(lg.any λe=>decide ((e.1:Int)=p/\X4 e.2=ps))=true/\(lg.filter λe=>!decide ((e.1:Int)=p/\X4 e.2=ps))=Dq lg n:=by
 refine⟨QR.2 ⟨(n,r),h,bN ⟨hp.symm,hps⟩⟩,?_⟩;unfold Dq;refine List.filter_congr λe a=>?_;by_cases e1:e.1=n
 .have e2:=Xa0 hn (n:=n) (by rw[<-e1];exact a) h;rw[bN ⟨by rw[e1];exact hp.symm,by rw[e2];exact hps⟩,e1]
  simp
 .rw[bO (λh=>e1 (by have:=h.1;omega))];simp[e1]
theorem Xez{p:Int}{ps:List Int}(h:∀r,Dc lg p=some r->X4 r≠ps)(hn:(Y5 lg).Nodup):(lg.any λe=>decide ((e.1:Int)=p/\X4 e.2=ps))=false:=by
 rw[QG];intro e b c;obtain⟨d,f⟩:=bL c;cases a:Dc lg p with
 |none=>exact T8 a e b d
 |some r=>
  obtain⟨n,g,hm⟩:=Ox a;have e1:e.1=n:=by omega
  have:e.2=r:=Xa0 hn (n:=n) (by rw[<-e1];exact b) hm;exact h r a (by rw[<-this];exact f)
def Xc7(M:RmM):Prop:=∀(k:Nat) (x:Sm),M.shs[k]?=some x->x.Pos
theorem Zm.mpos(h:Zm F w R M):Xc7 M:=λk x a=>by
 obtain⟨G,_,b,_⟩:=h.shelf a;exact b.pos
theorem XjE{p:α->Bool}{l:List α}(_ : -1<=idx p l):idx p l<l.length:=by
 by_cases h:∃k,∃a:k<l.length,p l[k]=true/\∀j (b:j<l.length),j<k->p l[j]=false
 .obtain⟨k,a,d,e⟩:=h;rw[Jx a e d];omega
 .rw[I2 λj b=>?_]
  .omega
  .induction j using QP with
   |ind j ih=>
    cases f:p l[j] with
    |false=>rfl
    |true=>exact absurd ⟨j,b,f,λi g c=>ih i c g⟩ h
theorem Uw{n:Int}(h:Xm zs n≠-1):0<=Xm zs n/\Xm zs n<zs.length:=by
 have a:=R4 zs n;refine⟨by omega,?_⟩;unfold Xm at *;split at h
 .exact absurd rfl h
 .rename_i b
  rw[bJ b] at a;rw[bJ b];exact XjE a
theorem Xi8(hok:M.Ok c)(hw:0<=who)(h:Qf c M size=0):C4 c M who size=0:=by
 have a:(Dd c M size:Int)<=M.pl.free.length:=by
  unfold Qf at h;split at h
  .exact absurd h (by decide)
  .split at h
   .exact absurd h (by decide)
   .omega
 unfold C4;rw[bJ (by omega),bJ (by omega)];split
 .rfl
 .rename_i b
  obtain⟨g,i⟩:=Uw b;obtain⟨k,d⟩:=XE g;rw[d] at i⊢;have e:k<M.shs.length:=by have:=hok.n;omega
  have f:=Pe e;unfold Gj;rw[f];simp only
  unfold Qj;rw[bJ (by omega),bJ];intro ⟨j,l⟩;unfold Dd at a;rw[bJ b,d] at a;unfold Qn at a;rw[f] at a;simp only[j,l] at a;omega
theorem Xmx{q:PlM}{t:Int}:Zp {M with shs:=M.shs.set k x,pl:=q,tot:=t} j=if k=j/\k<M.shs.length then some x else Zp M j:=by
 unfold Zp;rw[bK (Int.natCast_nonneg _),bK (Int.natCast_nonneg _),XB];show(M.shs.set k x)[j]?=_
 by_cases e:k=j
 .subst e;by_cases a:k<M.shs.length
  .rw[bK ⟨rfl,a⟩,XH a]
  .rw[bJ (λh=>a h.2),ZF (by rw[XG];omega),ZF (by omega)]
 .rw[bJ (λh=>e h.1),XK e]
theorem XkO{n i:Int}(h:Qw x n i=-1):B7 x n i≠0:=by
 unfold Qw at h;unfold B7;cases a:Zf x.pg n with
 |none=>simp
 |some p=>
  rw[a] at h;simp only at h⊢
  unfold Q0;split
  .decide
  .first|decide|(rw[bK h];decide)
theorem Sg{k:Int}(h:k<0):Zp M k=none:=Si (.inl h)
theorem Xb9{l:PgL}{q:List Int}(hn:(l.map (·.1)).Nodup)(hq:(n,q)∈l)(m:Int):Zf (Zq l n p) m=if m=n then some p else Zf l m:=by
 by_cases e:m=n
 .rw[bK e,e];exact Xno hn hq
 .rw[bJ e]
  clear hn hq
  induction l with
  |nil=>rfl
  |cons a r ih=>
   obtain⟨k,t⟩:=a;by_cases c:k=n
   .have:Zq ((k,t)::r) n p=(n,p)::Zq r n p:=by show(if k=n then (n,p) else (k,t))::Zq r n p=_;rw[bK c]
    rw[this];unfold Zf;rw[bJ (λh=>e h.symm),bJ (λh=>e (by omega))];exact ih
   .have:Zq ((k,t)::r) n p=(k,t)::Zq r n p:=by show(if k=n then (n,p) else (k,t))::Zq r n p=_;rw[bJ c]
    rw[this];unfold Zf;by_cases b:(k:Int)=m
    .rw[bK b,bK b]
    .rw[bJ b,bJ b];exact ih
theorem Xnm{l:PgL}(hn:n∉l.map (·.1))(m:Int):Zf (l++[(n,p)]) m=if m=n then some p else Zf l m:=by
 induction l with
 |nil=>
  show Zf [(n,p)] m=_
  unfold Zf;by_cases e:(n:Int)=m
  .rw[bK e,bK e.symm]
  .rw[bJ e,bJ (λh=>e h.symm)];rfl
 |cons a r ih=>
  obtain⟨k,t⟩:=a;have c:k≠n:=λh=>hn (by simp[h]);have hr:n∉r.map (·.1):=λh=>hn (by simp at h⊢;exact .inr h);show(if (k:Int)=m then some t else Zf (r++[(n,p)]) m)=if m=n then some p else (if (k:Int)=m then some t else Zf r m)
  rw[ih hr];by_cases b:(k:Int)=m
  .rw[bK b,bK b,bJ (by omega)]
  .rw[bJ b,bJ b]
theorem Xnn{l:PgL}(m:Int):Zf (Qv l n) m=if m=n then none else Zf l m:=by
 induction l with
 |nil=>show none=_;split <;> rfl
 |cons a r ih=>
  obtain⟨k,t⟩:=a;by_cases c:k=n
  .have:Qv ((k,t)::r) n=Qv r n:=by unfold Qv;rw[ZJ];simp[c]
   rw[this,ih];by_cases e:m=n
   .rw[bK e,bK e]
   .rw[bJ e,bJ e];show _=if (k:Int)=m then some t else Zf r m
    rw[bJ (by omega)]
  .have:Qv ((k,t)::r) n=(k,t)::Qv r n:=by unfold Qv;rw[ZJ];simp[c]
   rw[this];show(if (k:Int)=m then some t else Zf (Qv r n) m)=if m=n then none else (if (k:Int)=m then some t else Zf r m)
   rw[ih];by_cases b:(k:Int)=m
   .rw[bK b,bK b,bJ (by omega)]
   .rw[bJ b,bJ b]
theorem Ur{v:Int}(h:k<p.length)(j:Int):Ya (p.set k v) j=if j=k then v else Ya p j:=by
 unfold Ya;by_cases a:0<=j
 .obtain⟨j,rfl⟩:=XE a;rw[bK a,bK a];show(p.set k v).getD j (-1)=_
  rw[Oq];by_cases e:k=j
  .subst e;rw[bK ⟨rfl,h⟩,bK rfl]
  .rw[bJ (λh=>e h.1),bJ (by omega)];rfl
 .rw[bJ a,bJ a,bJ (by omega)]
theorem R3{j:Int}(h:Ya p j≠-1):0<=j/\j<p.length:=by
 unfold Ya at h;split at h
 .rename_i a
  refine⟨a,?_⟩;refine Int.not_le.1 λb=>h ?_;rw[XA,ZF (by omega)];rfl
 .exact absurd rfl h
theorem Xbo{n i:Int}(hok:x.Ok)(h:Qw x n i≠-1):∃(m:Nat) (p:List Int),n=m/\(m,p)∈x.pg/\Zf x.pg n=some p/\0<=i/\i<x.cF/\Qw x n i=Ya p i:=by
 unfold Qw at h⊢;cases c:Zf x.pg n with
 |none=>rw[c] at h;exact absurd rfl h
 |some p=>
  rw[c] at h;simp only at h
  obtain⟨m,rfl,hm⟩:=Io c;have d:=(hok.cI _ hm).2.1;obtain⟨a,b⟩:=R3 h;exact⟨m,p,rfl,hm,rfl,a,by simp only at d;omega,rfl⟩
theorem Xjf{n i:Int}:B7 x n i=0↔Qw x n i≠-1:=by
 constructor
 .intro h d;exact XkO d h
 .intro h;unfold Qw at h;unfold B7;cases c:Zf x.pg n with
  |none=>rw[c] at h;exact absurd rfl h
  |some p=>
   rw[c] at h;simp only at h⊢
   obtain⟨a,b⟩:=R3 h;unfold Q0;rw[bJ (by omega),bJ h]
theorem XkH{n i:Int}(hw:0<=who):Hy x n i who=0↔Qw x n i≠-1:=by
 unfold Qw Hy;cases d:Zf x.pg n with
 |none=>simp
 |some p=>
  simp only
  unfold Ao;constructor
  .intro h c;split at h
   .cases h
   .first|(rw[bK c] at h;cases h)|(cases h)
  .intro h;obtain⟨a,b⟩:=R3 h;rw[bJ (by omega),bJ h]
theorem Xjh{n i:Int}(hok:x.Ok)(h:Qw x n i≠-1)(m j:Int):Qw (Af x n i) m j=if m=n/\j=i then -1 else Qw x m j:=by
 obtain⟨k,p,rfl,o,l,t,A,e⟩:=Xbo hok h;obtain⟨i,rfl⟩:=XE t;rw[e] at h;have u:=(hok.cI _ o).2.1;simp only at u
 have q:Q0 p i=0:=by unfold Q0;rw[bJ (by omega),bJ h]
 have w:Af x (k:Nat) i=x.giveAt k p i:=by unfold Af;rw[l];simp only;rw[bK q,XB]
 rw[w];have d:Yj p i=p.set i (-1):=by unfold Yj;rw[bK q,XB]
 unfold Sm.giveAt;simp only
 by_cases r:Xu (Yj p i)=0
 .rw[bK r];unfold Qw;simp only
  rw[Xnn];by_cases hm:m=k
  .rw[bK hm];by_cases c:j=i
   .rw[bK ⟨hm,c⟩]
   .rw[bJ (λh=>c h.2),hm,l];simp only
    have s:Ya (Yj p i) j=-1:=Decidable.byContradiction λf=>by
     obtain⟨a,b⟩:=R3 f;obtain⟨j,rfl⟩:=XE a;have g:j<(Yj p i).length:=by omega
     have:=Ii (v:=-1) g;rw[bK rfl] at this;have y:(Yj p i).getD j 0≠-1:=by
      rw[On g];intro z;apply f
      unfold Ya;rw[bK a,XB];exact z
     rw[bJ y] at this;omega
    rw[d,Ur (by omega),bJ c] at s;exact s.symm
  .rw[bJ hm,bJ (λh=>hm h.1)]
 .rw[bJ r];unfold Qw;simp only
  rw[Xb9 hok.nodup o];by_cases hm:m=k
  .rw[bK hm,hm,l];simp only
   rw[d,Ur (by omega)];by_cases c:j=i
   .rw[bK c,bK ⟨by trivial,c⟩]
   .rw[bJ c,bJ (λh=>c h.2)]
  .rw[bJ hm,bJ (λh=>hm h.1)]
theorem XkJ{n i:Int}(hok:x.Ok)(hw:0<=who)(h:Qw x n i≠-1)(m j:Int):Qw (A8 x n i who) m j=if m=n/\j=i then who else Qw x m j:=by
 obtain⟨k,p,rfl,b,c,f,q,e⟩:=Xbo hok h;obtain⟨i,rfl⟩:=XE f;rw[e] at h;have g:=(hok.cI _ b).2.1;simp only at g
 have l:Ao p i who=0:=by unfold Ao;rw[bJ (by omega),bJ h]
 have o:A8 x (k:Nat) i who=x.ownAt k p i who:=by unfold A8;rw[c];simp only[XB]
 rw[o];have d:Bw p i who=p.set i who:=by unfold Bw;rw[bK l,XB]
 unfold Sm.ownAt Qw;simp only
 rw[Xb9 hok.nodup b];by_cases hm:m=k
 .rw[bK hm,hm,c];simp only
  rw[d,Ur (by omega)];by_cases a:j=i
  .rw[bK a,bK ⟨by trivial,a⟩]
  .rw[bJ a,bJ (λh=>a h.2)]
 .rw[bJ hm,bJ (λh=>hm h.1)]
theorem Xhf(hok:x.Ok)(hw:0<=who)(hp:(n,p)∈x.pg)(hf:Xu p≠x.cF)(m j:Int):Qw (x.takeAt n p who) m j=(if m=n/\j=Yf p then who else Qw x m j)/\Qw x n (Yf p)=-1/\0<=Yf p/\Yf p<x.cF:=by
 have d:=(hok.cI _ hp).2.1;simp only at d
 have f:=B8 hok.nodup hp;obtain⟨e1,_⟩:=My (p:=p) (who:=who) hw (by rw[d];exact hf);have l:¬Yf p<0:=λe=>by have:=Uq.1 e;omega
 obtain⟨b,c⟩:=Uv l;obtain⟨k,g⟩:=XE (show 0<=Yf p by omega);rw[g] at b c⊢;simp only[XB] at b c;have i:Qe p who=p.set k who:=by unfold Qe;rw[bK e1,g,XB]
 refine⟨?_,?_,by omega,by omega⟩
 .unfold Sm.takeAt Qw;simp only
  rw[Xb9 hok.nodup hp,i];by_cases hm:m=n
  .rw[bK hm,hm,f];simp only
   rw[Ur b];by_cases a:j=k
   .rw[bK a,bK ⟨by trivial,a⟩]
   .rw[bJ a,bJ (λh=>a h.2)]
  .rw[bJ hm,bJ (λh=>hm h.1)]
 .unfold Qw;rw[f];simp only
  unfold Ya;rw[bK (by omega),XB];exact c
structure Xh4(x:Sm)(pl:PlM)(who:Int):Prop where
 own:∀m j,Qw (Ac x pl who) m j=if m=Bz x pl who/\j=By x pl who then who else Qw x m j
 free:Qw x (Bz x pl who) (By x pl who)=-1
 n:0<=Bz x pl who/\Bz x pl who<pl.own.length
 a:0<=By x pl who/\By x pl who<x.cF
 used:Y6 (Ac x pl who).pg=Y6 x.pg+1
 ok:(Ac x pl who).Ok
theorem Xhg{pl:PlM}(hok:x.Ok)(hof:x.Of pl)(hg:pl.Good)(hE:Qj x pl who=0):Xh4 x pl who:=by
 rcases Nj x pl who with⟨l,_⟩|⟨_,q,⟨n,r,s,d,y,g,h,e⟩|⟨n,r,s,hf,d,y,g,h,e⟩⟩
 .exact absurd hE l
 .obtain⟨p,c⟩:=hok.osub n (by rw[s];simp);rw[B8 hok.nodup c] at g;simp only[YH] at g;rw[g] at d e;have f:=(hok.cI _ c).2.2.1 (by rw[s];simp);simp only at f
  have t:=(hok.cI _ c).2.1;simp only at t
  have T:=λm j=>Xhf hok q c f m j;obtain⟨_,e2⟩:=My (p:=p) (who:=who) q (by rw[t];exact f);refine⟨λm j=>by rw[d,h,e];exact(T m j).1,by rw[h,e];exact(T 0 0).2.1,?_,by rw[e];exact(T 0 0).2.2,?_,by rw[d];exact hok.takeAt q c (by rw[s];simp)⟩
  .rw[h];have:=(hof _ c).1;simp only at this;omega
  .rw[d];have:=Po (p:=Qe p who) hok.nodup c;show Y6 (Zq _ _ _)=_
   omega
 .have i:=Om hok hof hg (n:=n) (by rw[hf];simp);have B:=(hg.free n (by rw[hf];simp)).1;have v:n<1024:=by have:=hg.len;omega
  have o:=hok.fresh v i;have c:(n,List.replicate x.cF (-1))∈(x.fresh n).pg:=YY _ (by simp);rw[B8 o.nodup c] at g;simp only[YH] at g;rw[g] at d e;have C:=hok.blk;have f:Xu (List.replicate x.cF (-1))≠(x.fresh n).cF:=by rw[Ih];show 0≠x.cF;omega
  have T:=λm j=>Xhf o q c f m j;have u:∀m j,Qw (x.fresh n) m j=Qw x m j:=λm j=>by
   unfold Qw;show(match Zf (x.pg++[(n,List.replicate x.cF (-1))]) m with|some p=>Ya p j|none=>-1)=_
   rw[Xnm i];by_cases hm:m=n
   .rw[bK hm];have z:Zf x.pg m=none:=by
     cases hg:Zf x.pg m with
     |none=>rfl
     |some p=>
      obtain⟨k,D,w⟩:=Io hg;have:k=n:=by omega
      subst this;exact absurd (XQ.2 ⟨_,w,rfl⟩) i
    rw[z];simp only
    refine Decidable.byContradiction λl=>?_;obtain⟨a,b⟩:=R3 l;apply l
    unfold Ya;rw[bK a,XA,ZE];split <;> rfl
   .rw[bJ hm];rfl
  have t:(List.replicate x.cF (-1:Int)).length=x.cF:=XI;obtain⟨_,e2⟩:=My (p:=List.replicate x.cF (-1)) (who:=who) q (by rw[Ih,t];omega);refine⟨λm j=>by rw[d,h,e,(T m j).1,u],by rw[h,e,<-u];exact(T 0 0).2.1,by rw[h];omega,by rw[e];exact(T 0 0).2.2,?_,by rw[d];exact o.takeAt q c (by show n∈n::x.cG;simp)⟩;rw[d];have A:=Po (p:=Qe (List.replicate x.cF (-1)) who) o.nodup c;have E:Y6 (x.fresh n).pg=Y6 x.pg:=by show Y6 (x.pg++_)=_;rw[Xcb,Ih];rfl
  rw[Ih] at A e2;show Y6 (Zq _ _ _)=_
  omega
structure Y9(c:Conf)(M:RmM):Prop where
 ok:M.Ok c
 cU:Jo M
 pos:Xc7 M
theorem Xca(hp:x.Pos)(h:0<Xu p):∀e∈Zq x.pg n p,0<Xu e.2:=λe a=>by
 rcases Gy a with⟨rfl,_⟩|⟨_,a⟩
 .exact h
 .exact hp e a
theorem XnY{pl:PlM}(hok:x.Ok)(hpos:x.Pos)(hof:x.Of pl)(hg:pl.Good):(Ac x pl who).Pos:=by
 rcases Nj x pl who with⟨_,h,_⟩|⟨_,j,⟨n,r,f,g,m,a,_⟩|⟨n,r,f,hf,g,m,a,_⟩⟩
 .rw[h];exact hpos
 .obtain⟨p,b⟩:=hok.osub n (by rw[f];simp);rw[B8 hok.nodup b] at a;simp only[YH] at a;rw[g,a];have c:=(hok.cI _ b).2.1;have d:=(hok.cI _ b).2.2.1 (by rw[f];simp);simp only at c d
  obtain⟨_,e2⟩:=My (p:=p) (who:=who) j (by rw[c];exact d);exact Xca hpos (by omega)
 .have i:=Om hok hof hg (n:=n) (by rw[hf];simp);have k:n<1024:=by have:=(hg.free n (by rw[hf];simp)).1;have:=hg.len;omega
  have b:(n,List.replicate x.cF (-1))∈(x.fresh n).pg:=YY _ (by simp);rw[B8 (hok.fresh k i).nodup b] at a;simp only[YH] at a;rw[g,a];have c:(List.replicate x.cF (-1:Int)).length=x.cF:=XI;have o:=hok.blk;obtain⟨_,e2⟩:=My (p:=List.replicate x.cF (-1)) (who:=who) j (by rw[Ih,c];omega);intro e he;rcases Gy he with⟨rfl,_⟩|⟨l,he⟩
  .show 0<Xu (Qe _ _);omega
  .rcases XS.1 he with he|he
   .exact hpos e he
   .have:e=(n,List.replicate x.cF (-1)):=by simpa using he
    subst this;exact absurd rfl l
theorem Xji{n i:Int}(hpos:x.Pos):(Af x n i).Pos:=by
 unfold Af;cases d:Zf x.pg n with
 |none=>exact hpos
 |some p=>
  simp only
  by_cases a:Q0 p i=0
  .rw[bK a];unfold Sm.giveAt;simp only
   by_cases b:Xu (Yj p i)=0
   .rw[bK b];intro e c;exact hpos e (I6.1 c).2
   .rw[bJ b];exact Xca hpos (by omega)
  .rw[bJ a];exact hpos
theorem XkL{n i:Int}(hpos:x.Pos):(A8 x n i who).Pos:=by
 unfold A8;cases a:Zf x.pg n with
 |none=>exact hpos
 |some p=>
  obtain⟨m,rfl,hm⟩:=Io a;exact Xca hpos (by rw[Us];exact hpos _ hm)
theorem Xjg{n i:Int}(hok:x.Ok):(Af x n i).Ok:=by
 unfold Af;cases b:Zf x.pg n with
 |none=>exact hok
 |some p=>
  obtain⟨m,rfl,hm⟩:=Io b;simp only[XB];by_cases a:Q0 p i=0
  .rw[bK a];exact hok.giveAt hm a
  .rw[bJ a];exact hok
theorem XkI{n i:Int}(hok:x.Ok):(A8 x n i who).Ok:=by
 unfold A8;cases a:Zf x.pg n with
 |none=>exact hok
 |some p=>
  obtain⟨m,rfl,hm⟩:=Io a;simp only[XB];exact hok.ownAt hm
theorem XnX{pl:PlM}(hok:x.Ok)(hof:x.Of pl)(hg:pl.Good):(Ac x pl who).Ok:=by
 by_cases a:Qj x pl who=0
 .exact(Xhg hok hof hg a).ok
 .have:Ac x pl who=x:=by unfold Ac;rw[bJ a]
  rw[this];exact hok
section
variable {c:Conf}{M:RmM}
theorem Y9.set{k:Nat}{x x':Sm}{q:PlM}(h:Y9 c M)(hx:M.shs[k]?=some x)(hE:Hi M.pl q x.cL)(hc:x'.cL=x.cL)(hb:x'.cF=x.cF)(hs:Za q+x.pg.length=Za M.pl+x'.pg.length)(hok:x'.Ok)(hof:x'.Of q)(hpos:x'.Pos):Y9 c (Gi M k x' q):=by
 have f:=(XC.1 hx).1;obtain⟨e1,_⟩:=h.ok.cI k x hx;have get:∀(j:Nat) (y:Sm),(Gi M k x' q).shs[j]?=some y->(j=k/\y=x')\/(j≠k/\M.shs[j]?=some y):=λj y d=>by
  replace d:(M.shs.set k x')[j]?=some y:=d;by_cases e:k=j
  .subst e;rw[XH f] at d;cases d;exact .inl ⟨rfl,rfl⟩
  .rw[XK e] at d;exact .inr ⟨λh=>e h.symm,d⟩
 refine⟨h.ok.set h.cU.cV hx hE hc hb hs,⟨λj y d=>?_,hE.cV h.cU.cV ((h.cU.sh k x hx).1.cL)⟩,λj y d=>?_⟩
 .rcases get j y d with⟨_,rfl⟩|⟨g,d⟩
  .exact⟨hok,hof⟩
  .obtain⟨a,b⟩:=h.cU.sh j y d;obtain⟨e2,_⟩:=h.ok.cI j y d;exact⟨a,hE.of h.cU.cV b (by omega) (by omega)⟩
 .rcases get j y d with⟨_,rfl⟩|⟨_,d⟩
  .exact hpos
  .exact h.pos j y d
theorem Y9.tot(h:Y9 c M){t:Int}(ht:0<=t/\t<=4611686018427387904):Y9 c {M with tot:=t}:=⟨{h.ok with tot:=ht},⟨h.cU.sh,h.cU.cV⟩,h.pos⟩
theorem Y9.cT(h:Y9 c M)(n:Int):Y9 c {M with tot:=Xw M.tot n}:=h.tot (Oa h.ok.tot)
theorem Xgo(k:Nat)(x:Sm)(q:PlM):J5 M k x q={Gi M k x q with tot:=Xw M.tot (Iz M.pl q)}:=rfl
theorem Y9.take(h:Y9 c M)(k who:Int):Y9 c (Qi M k who):=by
 unfold Qi;cases b:Zp M k with
 |none=>exact h
 |some x=>
  obtain⟨n,rfl,d,a⟩:=G9 b;simp only[XB];split
  .obtain⟨xo,xf⟩:=h.cU.sh n x a;obtain⟨e1,e2,e3,e4⟩:=Xct x M.pl who h.cU.cV xo.cL;rw[Xgo];exact(h.set a e1 e2 e3 e4 (XnX xo xf h.cU.cV) (Xhh x M.pl who xf h.cU.cV) (XnY xo (h.pos n x a) xf h.cU.cV)).tot (Oa h.ok.tot)
  .exact h
theorem Y9.give(h:Y9 c M)(k n i:Int):Y9 c (Q1 M k n i):=by
 unfold Q1;cases b:Zp M k with
 |none=>exact h
 |some x=>
  obtain⟨m,rfl,d,a⟩:=G9 b;simp only[XB];split
  .obtain⟨xo,xf⟩:=h.cU.sh m x a;obtain⟨e1,e2,e3,e4⟩:=XaS x M.pl n i xo xf;rw[Xgo];exact(h.set a e1 e2 e3 e4 (Xjg xo) (Xep x M.pl n i xo xf) (Xji (h.pos m x a))).tot (Oa h.ok.tot)
  .exact h
theorem Y9.own(h:Y9 c M)(k n i who:Int):Y9 c (Qu M k n i who):=by
 unfold Qu;cases b:Zp M k with
 |none=>exact h
 |some x=>
  obtain⟨m,rfl,d,a⟩:=G9 b;simp only[XB];obtain⟨xo,xf⟩:=h.cU.sh m x a;obtain⟨e1,e2,e3,e4⟩:=Xbk x M.pl n i who;exact h.set a e1 e2 e3 e4 (XkI xo) (Xfp x M.pl n i who xf) (XkL (h.pos m x a))
theorem Y9.big(h:Y9 c M){many:Nat}(h1:1<=many)(hm:many<=M.pl.free.length):Y9 c (Es M many):=by
 obtain⟨d,_⟩:=M9 (who:=((M.shs.length:Nat):Int)) (by omega) h.cU.cV many hm;exact⟨h.ok.big h.cU.cV h1 hm,⟨λk x e=>by
  obtain⟨a,b⟩:=h.cU.sh k x e;exact⟨a,XfC (by omega) h.cU.cV hm a.cL b⟩,d⟩,h.pos⟩
theorem XjY(h:M.Ok c){r:List Nat}(hm:(n,r)∈M.lg):(n::r).Nodup:=by
 obtain⟨A,B,eA,_⟩:=Ow h.nd hm;have e:Y5 M.lg=Y5 A++((n::r)++Y5 B):=by rw[eA,Kq];rfl
 have a:=h.nd;rw[e] at a;exact(XR.1 (XR.1 a).2.1).1
theorem Y9.cE(h:Y9 c M){n:Nat}{r:List Nat}(hm:(n,r)∈M.lg):Y9 c (Im M n r):=by
 obtain⟨a,b⟩:=h.ok.cE h.cU.cV hm;have e:∀m∈n::r,m<M.pl.own.length/\M.pl.own.getD m 0=(M.shs.length:Int):=λm d=>h.ok.lg m (I5 hm d);exact⟨a,⟨λk x f=>by
  obtain⟨xo,xf⟩:=h.cU.sh k x f;have i:k<M.shs.length:=(XC.1 f).1;have g:=(h.ok.cI k x f).1;exact⟨xo,XfB h.cU.cV (XjY h.ok hm) (λm d=>⟨(e m d).1,by have:=(e m d).2;omega⟩) xf (λm d=>by have:=(e m d).2;omega)⟩,b⟩,h.pos⟩
theorem Xi5(hmay:Zb c=true)(h:Qf c M size=0)(hp:Xm c.bT size=-1):2<=(Z8 size c.size).toNat/\(Z8 size c.size).toNat<=M.pl.free.length/\1<=size/\size<=c.cH:=by
 have hf:=Z4 hmay;have d:(Dd c M size:Int)<=M.pl.free.length/\¬(size<1\/c.cH<size):=by
  unfold Qf at h;split at h
  .exact absurd h (by decide)
  .split at h
   .exact absurd h (by decide)
   .exact⟨by omega,by assumption⟩
 have e:Dd c M size=Z8 size c.size:=by unfold Dd;rw[bK hp]
 have a:2<=Z8 size c.size:=by
  have f:=hf.size;have b:=hf.cH;have g:0<=(size-1)/c.size:=YL (by omega) (by omega);have i:(size-1)/c.size<=size-1:=QK _ (by omega);have e4:Qm size c.size=(size-1)/c.size+1:=by unfold Qm;rw[bJ (by omega)]
  unfold Z8;rw[e4,bJ (by omega)];omega
 omega
theorem Xgk{q:PlM}(hk:k<M.shs.length)(j:Int):Zp (Gi M k x' q) j=if j=k then some x' else Zp M j:=by
 by_cases a:j<0
 .rw[bJ (by omega),Sg a,Sg a]
 .obtain⟨j,rfl⟩:=XE (show 0<=j by omega);have:=Xmx (M:=M) (k:=k) (j:=j) (x:=x') (q:=q) (t:=M.tot);have e:Gi M k x' q={M with shs:=M.shs.set k x',pl:=q,tot:=M.tot}:=rfl;rw[e,this];by_cases h:k=j
  .rw[bK ⟨h,hk⟩,bK (by omega)]
  .rw[bJ (λb=>h b.1),bJ (by omega)]
theorem XbZ{q:PlM}(hx:M.shs[k]?=some x)(j n a:Int):Zd (Gi M k x' q) j n a=if j=k then Qw x' n a else Zd M j n a:=by
 unfold Zd;rw[Xgk ((XC.1 hx).1)];by_cases h:j=k
 .rw[bK h,bK h]
 .rw[bJ h,bJ h]
theorem Xgm(k:Nat)(x:Sm)(q:PlM)(j n a:Int):Zd (J5 M k x q) j n a=Zd (Gi M k x q) j n a:=rfl
theorem Ph(hx:M.shs[k]?=some x)(n a:Int):Zd M (k:Nat) n a=Qw x n a:=by
 unfold Zd;rw[Pe ((XC.1 hx).1),((XC.1 hx).2)]
theorem Va(h:Y9 c M){k n a:Int}(ho:Zd M k n a≠-1):∃(j:Nat) (x:Sm),k=j/\j<c.bT.length/\M.shs[j]?=some x/\Qw x n a=Zd M k n a/\0<=n/\n<c.bS/\0<=a/\a<A5 c k:=by
 unfold Zd at ho;cases d:Zp M k with
 |none=>rw[d] at ho;exact absurd rfl ho
 |some x=>
  rw[d] at ho;simp only at ho
  obtain⟨j,rfl,i,b⟩:=G9 d;obtain⟨xo,xf⟩:=h.cU.sh j x b;obtain⟨m,p,rfl,hm,_,f,l,_⟩:=Xbo xo ho;have o:=(h.ok.cI j x b).2;have e:=(xf _ hm).1;have g:=h.ok.own;have q:=h.ok.n;exact⟨j,x,rfl,by omega,b,(Ph b _ _).symm,by omega,by simp only at e;omega,f,by omega⟩
theorem XmA(h:Y9 c M){k:Int}(hE:Gj M k who=0):∃(j:Nat) (x:Sm),k=j/\j<M.shs.length/\M.shs[j]?=some x/\Qj x M.pl who=0/\Qi M k who=J5 M j (Ac x M.pl who) (B0 x M.pl who)/\Eu M k who=Bz x M.pl who/\Et M k who=By x M.pl who:=by
 unfold Gj at hE;cases a:Zp M k with
 |none=>rw[a] at hE;exact absurd (show(1:Int)=0 from hE) (by decide)
 |some x=>
  rw[a] at hE;obtain⟨j,rfl,b,d⟩:=G9 a;simp only at hE
  exact⟨j,x,rfl,b,d,hE,by unfold Qi;rw[a];simp only;rw[bK hE,XB],by unfold Eu;rw[a],by unfold Et;rw[a]⟩
theorem Xcv(h:Y9 c M){k:Int}(hE:Gj M k who=0):(∀j n a,Zd (Qi M k who) j n a=if j=k/\n=Eu M k who/\a=Et M k who then who else Zd M j n a)/\Zd M k (Eu M k who) (Et M k who)=-1:=by
 obtain⟨i,x,rfl,g,b,f,e1,e2,e3⟩:=XmA h hE;obtain⟨xo,xf⟩:=h.cU.sh i x b;have T:=Xhg xo xf h.cU.cV f;refine⟨λj n a=>?_,by rw[e2,e3,Ph b];exact T.free⟩;rw[e1,e2,e3,Xgm,XbZ b];by_cases d:j=i
 .rw[bK d,T.own,d,Ph b];by_cases e:n=Bz x M.pl who/\a=By x M.pl who
  .rw[bK e,bK ⟨rfl,e⟩]
  .rw[bJ e,bJ (λh=>e h.2)]
 .rw[bJ d,bJ (λh=>d h.1)]
theorem Xeq(h:Y9 c M){k n i:Int}(ho:Zd M k n i≠-1):J4 M k n i=0/\∀j m a,Zd (Q1 M k n i) j m a=if j=k/\m=n/\a=i then -1 else Zd M j m a:=by
 obtain⟨l,x,rfl,_,b,e,_⟩:=Va h ho;obtain⟨xo,xf⟩:=h.cU.sh l x b;have g:Zp M (l:Nat)=some x:=by rw[Pe ((XC.1 b).1)];exact congrArg some (XC.1 b).2
 rw[<-e] at ho;have o:=Xjf.2 ho;have e1:Q1 M (l:Nat) n i=J5 M l (Af x n i) (Bk x M.pl n i):=by unfold Q1;rw[g];simp only;rw[bK o,XB]
 refine⟨by unfold J4;rw[g];exact o,λj m a=>?_⟩;rw[e1,Xgm,XbZ b];by_cases d:j=l
 .rw[bK d,Xjh xo ho,d,Ph b];by_cases f:m=n/\a=i
  .rw[bK f,bK ⟨rfl,f⟩]
  .rw[bJ f,bJ (λh=>f h.2)]
 .rw[bJ d,bJ (λh=>d h.1)]
theorem XkK(h:Y9 c M){k n i:Int}(hw:0<=who)(ho:Zd M k n i≠-1):Pf M k n i who=0/\∀j m a,Zd (Qu M k n i who) j m a=if j=k/\m=n/\a=i then who else Zd M j m a:=by
 obtain⟨l,x,rfl,_,b,e,_⟩:=Va h ho;obtain⟨xo,xf⟩:=h.cU.sh l x b;have g:Zp M (l:Nat)=some x:=by rw[Pe ((XC.1 b).1)];exact congrArg some (XC.1 b).2
 rw[<-e] at ho;have e1:Qu M (l:Nat) n i who=Gi M l (A8 x n i who) M.pl:=by unfold Qu;rw[g];simp only[XB]
 refine⟨by unfold Pf;rw[g];exact(XkH hw).2 ho,λj m a=>?_⟩;rw[e1,XbZ b];by_cases d:j=l
 .rw[bK d,XkJ xo hw ho,d,Ph b];by_cases f:m=n/\a=i
  .rw[bK f,bK ⟨rfl,f⟩]
  .rw[bJ f,bJ (λh=>f h.2)]
 .rw[bJ d,bJ (λh=>d h.1)]
end
theorem XaQ{x:List Bool}(h:j<x.length):x.getD j false=x[j]:=by rw[XA,XD h];rfl
theorem Xjz{x:List Bool}(h:cnt x≠0):∃t,t<x.length/\x.getD t false=true/\Rn x=(t:Int):=by
 have key:∀m,m<=x.length->(∀j,m<=j->x.getD j false=false)->(∀j,x.getD j false=false)\/∃t,t<x.length/\x.getD t false=true/\∀j,t<j->x.getD j false=false:=by
  intro m
  induction m with
  |zero=>intro _ h;exact .inl λj=>h j (XP _)
  |succ m ihm=>
   intro hm h;cases f:x.getD m false with
   |true=>exact .inr ⟨m,by omega,f,λj a=>h j a⟩
   |false=>exact ihm (by omega) λj a=>(Nat.eq_or_lt_of_le a).elim (λe=>e▸f) (λe=>h j e)
 rcases key x.length (XF _) (λj a=>by rw[XA,ZF a];rfl) with k|⟨t,b,c,g⟩
 .exfalso
  apply h
  have d:x=List.replicate x.length false:=by
   apply List.ext_getElem (by simp)
   intro j l n;rw[<-XaQ l,k j];simp
  rw[d,XaE]
 .exact⟨t,b,c,XbU (p:=id) b (λj a i=>by rw[<-XaQ a];exact g j i) (by rw[<-XaQ b];exact c)⟩
theorem XkY(h:0<Xu p):∃t,t<p.length/\Lm p=(t:Int)/\p.getD t (-1)≠-1:=by
 obtain⟨t,a,b,c⟩:=Xjz (x:=Y1 p) (by unfold Xu at h;omega);rw[Fk] at a;rw[R1] at b;exact⟨t,a,c,by simpa using b⟩
def Lt(x:Sm):Int×Int×Int×Int:=if 2<=x.cG.length then (Bs (-1) x.cG,Lm ((Zf x.pg (Bs (-1) x.cG)).getD []),Cd x.cG,Yf ((Zf x.pg (Cd x.cG)).getD [])) else (0,0,0,0)
def Ym(M:RmM)(k:Int):Int×Int×Int×Int:=match Zp M k with|none=>(0,0,0,0)|some x=>Lt x
theorem Xgn(M:RmM)(k:Int):Nc M k=Kv (Ym M k).1 (Ym M k).2.1 (Ym M k).2.2.1 (Ym M k).2.2.2:=by
 unfold Nc Ym;cases Zp M k with
 |none=>rfl
 |some x=>
  show Hz x=Kv (Lt x).1 (Lt x).2.1 (Lt x).2.2.1 (Lt x).2.2.2
  unfold Hz Lt;split <;> rfl
structure Xda(M:RmM)(k:Nat):Prop where
 own:Zd M k (Ym M k).1 (Ym M k).2.1≠-1
 e:∀who:Int,0<=who->Gj M k who=0
 n:∀who:Int,0<=who->Eu M k who=(Ym M k).2.2.1
 a:∀who:Int,0<=who->Et M k who=(Ym M k).2.2.2
 ne:(Ym M k).1≠(Ym M k).2.2.1
theorem Xk3(h:Y9 c M)(hB:Je M k=true):Xda M k:=by
 unfold Je at hB;cases l:Zp M k with
 |none=>rw[l] at hB;exact absurd hB (by decide)
 |some x=>
  rw[l] at hB;have d:=bL hB;obtain⟨j,L,K,y⟩:=G9 l;obtain rfl:k=j:=by omega
  obtain⟨xo,xf⟩:=h.cU.sh k x y;obtain⟨f,B,C,l',q⟩:=(Ko (-1) x.cG).resolve_left (λe=>by rw[e.1] at d;simp at d);obtain⟨t,r,hr⟩:∃t r,x.cG=t::r:=by
   cases g:x.cG with
   |nil=>rw[g] at d;simp at d
   |cons t r=>exact⟨t,r,rfl⟩
  obtain⟨p,z⟩:=xo.osub f B;obtain⟨D,u⟩:=xo.osub t (by rw[hr];simp);have o:Ym M k=(((f:Nat):Int),Lm p,((t:Nat):Int),Yf D):=by
   unfold Ym;rw[l];show Lt x=_
   unfold Lt;rw[bK d,C,hr];show((f:Int),Lm ((Zf x.pg f).getD []),(t:Int),Yf ((Zf x.pg t).getD []))=_
   rw[B8 xo.nodup z,B8 xo.nodup u];rfl
  have E:∀who:Int,0<=who->Qj x M.pl who=0:=λwho a=>by unfold Qj;rw[bJ (by omega),bJ (by omega)]
  have F:∀who:Int,0<=who->Bz x M.pl who=t/\By x M.pl who=Yf D:=λwho a=>by
   rcases Nj x M.pl who with⟨v,_⟩|⟨_,_,⟨n,r',g,_,_,A,H,G⟩|⟨n,r',g,_⟩⟩
   .exact absurd (E who a) v
   .rw[hr] at g;obtain⟨e1,_⟩:=List.cons.inj g;subst e1;rw[B8 xo.nodup u] at A;simp only[YH] at A;rw[A] at G;exact⟨H,G⟩
   .rw[hr] at g;cases g
  have v:f≠t:=λe=>by
   have w:=xo.onodup;rw[q] at w d;cases l' with
   |nil=>simp at d
   |cons b s=>
    obtain⟨e1,_⟩:=List.cons.inj (q.symm.trans hr);obtain⟨_,_,I⟩:=XR.1 w;exact I b (by simp) f (by simp) (e1.trans e.symm)
  have m:=l;refine⟨?_,λwho a=>by unfold Gj;rw[m];exact E who a,λwho a=>by unfold Eu;rw[m,o];exact(F who a).1,λwho a=>by unfold Et;rw[m,o];exact(F who a).2,by rw[o];simp only;omega⟩;rw[o,Ph y];simp only
  obtain⟨i,J,e1,e2⟩:=XkY ((h.pos k x y) _ z);simp only at J e1 e2
  unfold Qw;rw[B8 xo.nodup z];simp only
  rw[e1];unfold Ya;rw[bK (by omega),XB];exact e2
structure Ar where
 ab:Nat
 db:Nat
 mc:Nat
 mb:Option Nat
structure ArV where
 bs:List Int
 total:Int
 dA:Int
abbrev Xhx(A:Ar):dE:=.func (.func 185) #[] #[.pointer (some ⟨A.mc,0,none⟩)]
structure X8(w:dD)(A:Ar)(V:ArV):Prop where
 obj:w.heap[A.ab]?=some (.cells #[.slice (some ⟨A.db,0,none⟩) V.bs.length V.bs.length,Xhx A] 242 (0,0))
 dat:w.heap[A.db]?=some (.cells (V.bs.map (Value.int .u8)).toArray 5 (0,0))
 cap:w.heap[A.mc]?=some (.cells #[Jd A.mb] 152 (0,0))
 met:∀b,A.mb=some b->Be w b V.total V.dA
 len:V.bs.length<=4194304
 rng:∀x∈V.bs,0<=x/\x<256
theorem H5{a t':Nat}{c c':Array dE}{f f':Nat×Nat}(h:w.heap[a]?=some (.cells c t f))(h':w.heap[b]?=some (.cells c' t' f'))(ht:t≠t'):a≠b:=by
 intro e;subst e;rw[h] at h';cases h';exact ht rfl
def Yu(A:Ar):Nat->Prop:=λb=>A.mb=some b
def Zw(A:Ar):Nat->Prop:=λb=>b=A.db\/A.mb=some b
def ArV.cT(V:ArV)(A:Ar)(n:Int):ArV:=match A.mb with
 |none=>V
 |some _=>{V with total:=Xw V.total n}
theorem ArV.charge_bs(V:ArV)(A:Ar)(n:Int):(V.cT A n).bs=V.bs:=by unfold ArV.cT;split <;> rfl
theorem ArV.charge_lap(V:ArV)(A:Ar)(n:Int):(V.cT A n).dA=V.dA:=by unfold ArV.cT;split <;> rfl
theorem X8.bR{A:Ar}{V:ArV}(h:X8 w A V)(hc:Xc S w w')(hs:∀b,b=A.ab\/b=A.db\/b=A.mc\/A.mb=some b -> ¬S b):X8 w' A V:=
 ⟨hc.heap h.obj (hs _ (.inl rfl)),hc.heap h.dat (hs _ (.inr (.inl rfl))),hc.heap h.cap (hs _ (.inr (.inr (.inl rfl)))),λb a=>⟨hc.heap (h.met b a).1 (hs _ (.inr (.inr (.inr a)))),(h.met b a).2⟩,h.len,h.rng⟩
theorem X8.bQ{A:Ar}{V:ArV}(h:X8 w A V)(hc:Xc Xf w w'):X8 w' A V:=h.bR hc λ_ _ h=>h
theorem X8.metered{A:Ar}{V:ArV}{t:Int}(h:X8 w A V)(hb:A.mb=some b)(hm:Be w' b t V.dA)(hc:Xc (λx=>x=b) w w'):X8 w' A {V with total:=t}:=by
 have c:=(h.met b hb).1;refine⟨hc.heap h.obj (λe=>H5 h.obj c (by decide) e),hc.heap h.dat (λe=>H5 h.dat c (by decide) e),hc.heap h.cap (λe=>H5 h.cap c (by decide) e),λb' a=>?_,h.len,h.rng⟩;rw[hb] at a;cases a;exact hm
def Np(N:Nat)(at' n:Int):Bool:=decide (0<=at') && decide (0<=n) && decide (n<=N) && decide (at'<=N-n)
theorem XcA{at' n:Int}:Np N at' n=true↔0<=at'/\0<=n/\n<=N/\at'<=N-n:=by unfold Np;simp[and_assoc]
abbrev XgR(A:Ar)(N at' n:Nat):dE:=.slice (Q9 (some ⟨A.db,0,none⟩) N at' 1) n (N-at')
theorem Xdl(A:Ar)(V:ArV)(i n:Nat)(w:dD)(h:X8 w A V)(ht:i+n<=V.bs.length):Xe prog 281 #[.pointer (some ⟨A.ab,0,none⟩),.int .i64 i,.int .i64 n] w (X3 (.tuple #[XgR A V.bs.length i n,.int .i64 0]) w):=by
 have a:=h.len;exact aR func281 ntmps281 aA (aS aA (aS aA (bB h.obj aA (aS aA (bB h.obj aA (aV aA (aS aA (bB h.obj aA (aV aA (Xa.slice Xb rfl (l:=i) (h:=(i+n)) (by first|rfl|omega|simp[Dr]) (by first|rfl|omega|simp[Dn]) (by omega) (by omega) rfl (bE func281 aA ⟨by rw[show i+n-i=n from by omega],rfl⟩)))))))))))
theorem Xil(A:Ar)(V:ArV)(n:Int)(w:dD)(h:X8 w A V):Xe prog 185 #[.int .i64 n,.pointer (some ⟨A.mc,0,none⟩)] w (λ_ w'=>X8 w' A (V.cT A n)/\Xc (Yu A) w w'):=by
 have c:=h.cap;cases a:A.mb with
 |none=>
  rw[a] at c;refine aR func185 ntmps185 aA (bB c aA (aP aA (Xbb n w) ?_));rintro _ f rfl;have e:V.cT A n=V:=by unfold ArV.cT;rw[a]
  exact aN aA (bE func185 aA ⟨by rw[e];exact h,Xc.refl _ _⟩)
 |some b=>
  rw[a] at c;refine aR func185 ntmps185 aA (bB c aA (aP aA (Xba b V.total V.dA n w (h.met b a)) ?_));rintro _ f ⟨hm,d⟩;have e:V.cT A n={V with total:=Xw V.total n}:=by unfold ArV.cT;rw[a]
  exact aN aA (bE func185 aA ⟨by rw[e];exact h.metered a hm d,d.mono (λx _ g=>by unfold Yu;rw[g];exact a)⟩)
theorem Xij(A:Ar)(V:ArV)(i n:Nat)(w:dD)(h:X8 w A V)(ht:i+n<=V.bs.length):Xe prog 231 #[.pointer (some ⟨A.ab,0,none⟩),.int .i64 i,.int .i64 n] w (λv w'=>v=.tuple #[XgR A V.bs.length i n,.int .i64 0]/\X8 w' A (V.cT A n)/\Xc (Yu A) w w'):=by
 refine aR func231 ntmps231 aA (bH (Xdl A V i n w h ht) aA (bI aA (bB h.obj aA (aP aA (Xil A V n w h) ?_))));rintro _ c ⟨a,b⟩;exact aN aA (bE func231 aA ⟨rfl,a,b⟩)
theorem Xae(A:Ar)(V:ArV)(w:dD)(h:X8 w A V):Xe prog 189 #[.pointer (some ⟨A.ab,0,none⟩)] w (X3 (.int .i64 V.bs.length) w):=by
 exact aR func189 ntmps189 aA (bB h.obj aA (bE func189 aA ⟨rfl,rfl⟩))
def N5(p s:Int):Bool:=decide (1<=p) && decide (p<=1024) && decide (64<=s) && decide (s<=4096) && (s%8 == 0)
theorem Td{p s:Int}:N5 p s=true↔1<=p/\p<=1024/\64<=s/\s<=4096/\s%8=0:=by unfold N5;simp[and_assoc]
def X6(n:Nat):List Int:=List.replicate n 0
theorem V6:∀n,Y4 [Value.int .u8 0] n=(X6 n).map (Value.int .u8)
 |0=>rfl
 |n+1=>by rw[Y4,V6 n];simp[X6,YF]
theorem Xig(mb:Option Nat)(total dA:Int)(p s:Int)(w:dD)(hm:∀b,mb=some b->Be w b total dA)(ht:N5 p s=true):Xe prog 117 #[.int .i64 p,.int .i64 s,Jd mb] w
 (λv w'=>∃A:Ar,v=.tuple #[.pointer (some ⟨A.ab,0,none⟩),.int .i64 0]/\A.mb=mb/\w.heap.size<=A.ab/\w.heap.size<=A.db/\w.heap.size<=A.mc/\X8 w' A ⟨X6 (p*s).toNat,total,dA⟩/\Xc Xf w w'):=by
 have g:=Td.1 ht;have y:0<=p*s:=ZI (by omega) (by omega);have z:p*s<=1024*4096:=ZG (by omega) (by omega) (by omega) (by omega);refine aR func117 ntmps117 aA (bC aA λmc B e1 i f r=>aS aA (aS aA (aS aA (aS aA (Xa.div Xb rfl (by omega) (G8 (by omega)) rfl (aI aA (by simp;omega) (aV aA (Xa.make Xb (m:=(p*s).toNat) (k:=(p*s).toNat) rfl (by omega) (by omega) (XF _) (by simp only;omega) (by omega) λdb C e2 h d t=>aN aA (aO aA (bC aA λab n e3 e c u=>?_))))))))));have o:(Y4 (Yz (Value.int .u8 0)) (p*s).toNat)=(X6 (p*s).toNat).map (Value.int .u8):=V6 _;rw[o] at h;have a:(X6 (p*s).toNat).length=(p*s).toNat:=XI;rw[<-a] at e;have j:X8 n ⟨ab,db,mc,mb⟩ ⟨X6 (p*s).toNat,total,dA⟩:=
  ⟨e,c.bP h,c.bP (d.bP i),λb l=>⟨c.bP (d.bP (f.bP (hm b l).1)),(hm b l).2⟩,by rw[a];omega,λx q=>by rw[YA q];omega⟩
 rw[a] at e;exact bE func117 aA ⟨⟨ab,db,mc,mb⟩,rfl,rfl,by simp only;omega,by simp only;omega,by simp only;omega,j,(f.trans d).trans c⟩
variable {A:Ar}{V:ArV}
theorem Rd.metered(hr:Rd .u8 w a l)(h:X8 w A V)(hc:Xc (Yu A) w w'):Rd .u8 w' a l:=λi f=>by
 obtain⟨b,off,e,c⟩:=hr i f;refine⟨b,off,e,?_⟩;have d:¬Yu A b:=λg=>by
  rw[Ys ((h.met b g).1)] at c
  match hj:off+i,c with
  |0,c=>simp at c
  |1,c=>simp at c
  |k+2,c=>simp at c
 rw[<-c];simp only[World.cell?,hc.block b (World.block_lt_of_cell? w _ c) d]
def Q3(bs:List Int)(i:Nat)(l:List Int):List Int:=bs.take i++l++bs.drop (i+l.length)
theorem Jl(h:i+l.length<=bs.length):(Q3 bs i l).length=bs.length:=by unfold Q3;simp;omega
theorem Nw{x:Int}(h:x∈Q3 bs i l):x∈bs\/x∈l:=by
 unfold Q3 at h;simp only[XS] at h;rcases h with(h|h)|h
 .exact .inl (XY h)
 .exact .inr h
 .exact .inl (ZU h)
theorem V4:Q3 bs i []=bs:=by unfold Q3;simp
def Qh(l:List Int):Prop:=∀x∈l,0<=x/\x<256
theorem X8.laid(h:X8 w A V)(hd:w'.heap[A.db]?=some (.cells (bs.map (Value.int .u8)).toArray 5 (0,0)))(hc:Xc (λb=>b=A.db) w w')(hl:bs.length=V.bs.length)(hr:Qh bs):X8 w' A {V with bs:=bs}:=
 ⟨by rw[hl];exact hc.heap h.obj (λe=>H5 h.obj h.dat (by decide) e),hd,hc.heap h.cap (λe=>H5 h.cap h.dat (by decide) e),λb a=>⟨hc.heap (h.met b a).1 (λe=>H5 (h.met b a).1 h.dat (by decide) e),(h.met b a).2⟩,by rw[hl];exact h.len,hr⟩
theorem XgS(h:i+n<=N)(hn:0<n):Q9 (some ⟨A.db,0,none⟩) N i 1=some ⟨A.db,i,none⟩:=by
 unfold Q9;rw[bJ (by omega),QX,Cy]
 simp
theorem Te(A:Ar)(V:ArV)(i n:Nat)(w:dD)(h:X8 w A V)(ht:i+n<=V.bs.length):Xe prog 231 #[.pointer (some ⟨A.ab,0,none⟩),.int .i64 i,.int .i64 n] w
 (λv w'=>∃x,v=.tuple #[.slice x n (V.bs.length-i),.int .i64 0]/\(0<n->x=some ⟨A.db,i,none⟩)/\x.isSome=true/\X8 w' A (V.cT A n)/\Xc (Yu A) w w'):=
 (Xij A V i n w h ht).mono λ_ _ ⟨a,b,c⟩=>⟨_,a,λd=>XgS ht d,by unfold Q9;split <;> rfl,b,c⟩
theorem Xii(A:Ar)(V:ArV)(i:Nat)(a:Option Addr)(cap:Nat)(l:List Int)(w:dD)(h:X8 w A V)(hr:Rd .u8 w a l)(hb:Qh l)(ht:i+l.length<=V.bs.length):Xe prog 168 #[.pointer (some ⟨A.ab,0,none⟩),.int .i64 i,.slice a l.length cap] w (λv w'=>v=.int .i64 0/\X8 w' A {V.cT A l.length with bs:=Q3 V.bs i l}/\Xc (Zw A) w w'):=by
 refine aR func168 ntmps168 aA (aP aA (Te A V i l.length w h ht) ?_);rintro _ s ⟨x,rfl,j,_,k,o⟩;refine aN aA ?_;have c:Xc (Zw A) w s:=o.mono λb _ hb=>.inr hb;have e1:=V.charge_bs A l.length;by_cases p:l.length=0
 .refine Xa.copy0 Xb rfl (by simp[p]) rfl ?_;have m:l=[]:=YG p;subst m;exact bE func168 aA ⟨rfl,by rw[V4,<-V.charge_bs A 0];exact k,c⟩
 .have q:=j (by omega);subst q;have r:=hr.metered h o;have t:∃aa,a=some aa:=by obtain⟨b,off,e,_⟩:=hr 0 (by omega);exact⟨_,e⟩
  obtain⟨aa,rfl⟩:=t;have d:=k.dat;rw[e1] at d;refine Xa.copy Xb rfl d (cs:=l.map (Value.int .u8)) (by simp) r.cells (by simp;omega) J1 λz f g y=>aN aA ?_;have n:(V.bs.map (Value.int .u8)).take i++l.map (Value.int .u8)++(V.bs.map (Value.int .u8)).drop (i+(l.map (Value.int .u8)).length)=(Q3 V.bs i l).map (Value.int .u8):=by
   unfold Q3;simp[QZ,List.map_drop]
  rw[n] at f;have u:=k.laid f g (by rw[Jl ht,e1]) (λx j=>(Nw j).elim (h.rng x) (hb x));exact bE func168 aA ⟨rfl,u,c.trans (g.mono λb _ hb=>.inl hb)⟩
def Xc9(base:Nat)(w:dD)(v:dE)(l:List Int):Prop:=∃g cap cur,v=.slice (some ⟨g,0,none⟩) l.length cap/\base<=g/\w.heap[g]?=some (.cells cur 5 (0,0))/\l.length<=cap/\cur.toList.take l.length=l.map (Value.int .u8)
theorem Xnd(aa:Addr)(cap:Nat)(l:List Int)(w:dD)(hr:Rd .u8 w (some aa) l)(hl:l.length<=4194304):Xe prog 232 #[.slice (some aa) l.length cap] w (λv w'=>Xc9 w.heap.size w' v l/\Xc Xf w w'):=by
 have p:maxLen=9223372036854775807:=rfl;refine aR func232 ntmps232 aA (aS aA (Xa.buildSlice Xb rfl λb i e1 j a q=>aN aA ?_));have c:Xl w.heap.size 5 1 i (.slice (some ⟨b,0,none⟩) 0 0) 0 []:=Xl.empty (by omega) j;refine Xa.append (base:=w.heap.size) (xs:=[]) (news:=l.map (Value.int .u8)) Xb rfl c a.size (by simp) (hr.bR a).cells J1 (by simp only;omega) λr s d e f=>aN aA ?_;have h:=c.bU a (XF _) e;rcases d.2 with⟨k,_⟩|⟨g,cap',cur,rfl,m,n,t,_,_,o⟩
 .exact absurd (f.1.1 k).1 (by simp)
 .exact bE func232 aA ⟨⟨g,cap',cur,by simp,m,n,by omega,by simpa using o⟩,h⟩
def sub(bs:List Int)(i n:Nat):List Int:=(bs.drop i).take n
theorem Hc(h:i+n<=bs.length):(sub bs i n).length=n:=by unfold sub;simp;omega
theorem X8.sub{w:dD}{A:Ar}{V:ArV}{x:Option Addr}{i n:Nat}(h:X8 w A V)(hx:0<n->x=some ⟨A.db,i,none⟩)(ht:i+n<=V.bs.length):Rd .u8 w x (sub V.bs i n):=λj a=>by
 rw[Hc ht] at a;refine⟨A.db,i,hx (by omega),?_⟩;rw[Ys h.dat];have:(Go.Proofs.YtdeihcnepljjaaaGreatDoor.sub V.bs i n).getD j 0=V.bs[i+j]'(by omega):=by unfold Go.Proofs.YtdeihcnepljjaaaGreatDoor.sub;simp[QV,a,show i+j<V.bs.length from by omega]
 rw[this];simp[show i+j<V.bs.length from by omega]
theorem Xih(A:Ar)(V:ArV)(i n:Nat)(w:dD)(h:X8 w A V)(ht:i+n<=V.bs.length):Xe prog 165 #[.pointer (some ⟨A.ab,0,none⟩),.int .i64 i,.int .i64 n] w (λv w'=>∃v',v=.tuple #[v',.int .i64 0]/\Xc9 w.heap.size w' v' (sub V.bs i n)/\X8 w' A (V.cT A n)/\Xc (Yu A) w w'):=by
 have p:=h.len;refine aR func165 ntmps165 aA (aP aA (Te A V i n w h ht) ?_);rintro _ f ⟨x,rfl,j,k,e,b⟩;refine aN aA ?_;obtain⟨aa,rfl⟩:=Option.isSome_iff_exists.1 k;have e1:=V.charge_bs A n;have hr:=e.sub (i:=i) (n:=n) j (by rw[e1];exact ht);rw[e1] at hr;have c:=Xnd aa (V.bs.length-i) (sub V.bs i n) f hr (by rw[Hc ht];omega);rw[Hc ht] at c;refine aP aA (c) ?_;rintro l q ⟨m,d⟩;refine aN aA ?_;obtain⟨g,cap,cur,o,r,a⟩:=m;exact bE func165 aA ⟨l,rfl,⟨g,cap,cur,o,by have:=b.size;omega,a⟩,e.bQ d,b.trans d.gr⟩
theorem XcT(h:0<=z/\z<18446744073709551616):IntKind.u64.wrap z=z:=by
 simp only[IntKind.wrap,IntKind.signed,IntKind.bits]
 first|omega|(simp;omega)
def Br(n top:Int):Bool:=decide (0<=n) && decide (n<top)
theorem Mm{n top:Int}:Br n top=true↔0<=n/\n<top:=by unfold Br;simp
def Yk(c:Conf)(q:Plc):Bool:=
 if q.cL=-1 then decide (0<q.bS.length) && !q.bS.any (λn=>!Br n c.bS)
 else Br q.cL c.bT.length && Br q.cR c.bS && Br q.idx (A5 c q.cL)
def Z6(c:Conf)(k:Int):Int:=c.bT.getD k.toNat 0
def Z3(c:Conf)(q:Plc):Int:=if Yk c q then (if q.cL=-1 then q.bS.length*c.size else Z6 c q.cL) else 0
def Ak(c:Conf)(q:Plc):Int:=if Yk c q=true/\q.cL≠-1 then q.cR*c.size+q.idx*Z6 c q.cL else -1
structure Vw where
 vb:Nat
 c:Conf
 p:Y8
 ab:Nat
 mb:Option Nat
def Nt(v:Vw):List dE:=Zj v.c v.p++[.pointer (some ⟨v.ab,0,none⟩),Jd v.mb]
abbrev Fs(v:Vw):dE:=.pointer (some ⟨v.vb,0,none⟩)
structure Bn(w:dD)(v:Vw):Prop where
 obj:w.heap[v.vb]?=some (.cells (Nt v).toArray 226 (0,0))
 cO:Yw w v.c v.p
 may:Zb v.c=true
theorem Bn.bQ{v:Vw}(h:Bn w v)(hc:Xc Xf w w'):Bn w' v:=⟨hc.bP h.obj,h.cO.bR hc,h.may⟩
theorem V0(n top:Int)(w:dD):Xe prog 278 #[.int .i64 n,.int .i64 top] w (X3 (.bool (Br n top)) w):=by
 refine aR func278 ntmps278 aA (aT aA (λh=>?_) λh=>?_)
 .have g:=bL h;exact bE func278 aA ⟨Qz (by unfold Br;rw[bN g];rfl),rfl⟩
 .have g:=bM h;exact bE func278 aA ⟨Qz (by unfold Br;rw[bO g];rfl),rfl⟩
abbrev G5(w:dD)(b:Nat)(v:Vw):Prop:=w.heap[b]?=some (.cells ([Fs v]:List dE).toArray 155 (0,0))
theorem Xok(v:Vw)(b:Nat)(x:Int)(w:dD)(h:Bn w v)(hb:G5 w b v):Xe prog 277 #[.int .i64 x,.pointer (some ⟨b,0,none⟩)] w (X3 (.bool (!Br x v.c.bS)) w):=by
 exact aR func277 ntmps277 aA (bB hb aA (bB h.obj aA (bH (V0 x v.c.bS w) aA (bE func277 aA ⟨rfl,rfl⟩))))
theorem XcK(v:Vw)(q:Plc)(w:dD)(h:Bn w v)(hq:Zo w q):Xe prog 229 #[Fs v,.agg (Xv q).toArray] w (Grow (.bool (Yk v.c q)) w):=by
 have k:=hq.len;refine aR func229 ntmps229 aA (bC aA λvb C e1 s t A=>bC aA λqb o e2 b m B=>?_);have f:=t.trans m;have d:=h.bQ f;have c:=m.bP s;have l:=hq.bQ f;obtain⟨cL,cR,idx,pa,pc,bS⟩:=q;replace b:o.heap[qb]?=some (.cells ([.int .i64 cL,.int .i64 cR,.int .i64 idx,.slice pa bS.length pc]:List dE).toArray 83 (0,0)):=b;replace l:=l.rd;replace k:bS.length<=9223372036854775807:=k;refine Xa.cJ Xb rfl c rfl rfl ?_;refine Xa.cJ Xb rfl b rfl rfl ?_;refine Xa.fork Xb rfl rfl rfl (λi=>?_) (λi=>?_)
 .have g:cL=-1:=by simpa using i
  refine Xa.cJ Xb rfl b rfl rfl ?_;by_cases u:0<bS.length
  .refine Xa.yes Xb rfl (bN (by omega)) rfl ?_;exact bB b aA (bH (XgK pa pc 277 bS [.pointer (some ⟨vb,0,none⟩)] (λn=>!Br n v.c.bS) o l k (λx _=>Xok v vb x o d c)) aA (bE func229 aA ⟨Qz (by unfold Yk;simp only;rw[bK g,bN u];rfl),f⟩))
  .exact aS aA (bE func229 aA ⟨Qz (by unfold Yk;simp only;rw[bK g,bO u];rfl),f⟩)
 .have g:¬cL=-1:=by simpa using i
  have y:Yk v.c ⟨cL,cR,idx,pa,pc,bS⟩=(Br cL v.c.bT.length && Br cR v.c.bS && Br idx (A5 v.c cL)):=by unfold Yk;simp only;rw[bJ g]
  rw[y];refine aQ 32 Xf (by kernel_rfl) aA λa=>aE a b aA (aE a c aA (aE a d.obj aA (aH a (λw' j=>V0 cL v.c.bT.length w') aA ?_)));refine Xd.fork Xb a rfl rfl rfl (λp=>?_) (λp=>?_)
  .rw[p];refine aE a b aA (aE a c aA (aE a d.obj aA (aH a (λw' j=>V0 cR v.c.bS w') aA ?_)));refine Xd.fork Xb a rfl rfl rfl (λr=>?_) (λr=>?_)
   .rw[r];exact aE a b aA (aE a c aA (aE a d.obj aA (aE a b aA (aG a (λw' j=>XdP v.c v.p cL w' (d.cO.bR j)) aA (aH a (λw' j=>V0 idx (A5 v.c cL) w') aA (aF a aA λz e=>bE func229 aA ⟨rfl,f.trans e⟩))))))
   .rw[r];exact aF a aA λz e=>bE func229 aA ⟨rfl,f.trans e⟩
  .rw[p];exact aF a aA λz e=>bE func229 aA ⟨rfl,f.trans e⟩
theorem D3(h:Zb c=true):(64<=c.size/\c.size<=4096/\c.size%8=0)/\(1<=c.bS/\c.bS<=1024)/\Bq c.bT c.size=true:=by
 obtain⟨a,b,d,_⟩:=E5.1 h;exact⟨Nl.1 a,b,d⟩
theorem Id(hm:Zb c=true)(h:Yk c q=true)(hc:q.cL≠-1):∃k pg ix:Nat,q.cL=k/\q.cR=pg/\q.idx=ix/\k<c.bT.length/\(pg:Int)<c.bS/\8<=Z6 c k/\Z6 c k<=c.size/\0<=(pg:Int)*c.size/\0<=(ix:Int)*Z6 c k/\(ix:Int)*Z6 c k+Z6 c k<=c.size/\(pg:Int)*c.size+(ix:Int)*Z6 c k+Z6 c k<=c.size*c.bS:=by
 obtain⟨r,s,j⟩:=D3 hm;unfold Yk at h;rw[bJ hc] at h;simp only[XJ,Mm] at h;obtain⟨⟨⟨l,t⟩,m,u⟩,n,o⟩:=h;obtain⟨k,e⟩:=XE l;obtain⟨pg,f⟩:=XE m;obtain⟨ix,b⟩:=XE n;have d:k<c.bT.length:=by omega
 obtain⟨p,v,g⟩:=Tq j k d;have a:Z6 c k=c.bT.getD k 0:=rfl;rw[<-a] at p g;have i:A5 c q.cL=c.size/Z6 c k:=by
  unfold A5;rw[e,bK (by omega),XB,<-a,V1 (by omega) (by omega)]
 rw[i,b] at o;have e1:(ix:Int)*Z6 c k+Z6 c k<=c.size:=by
  have:((ix:Int)+1)*Z6 c k<=c.size:=by
   calc ((ix:Int)+1)*Z6 c k<=(c.size/Z6 c k)*Z6 c k:=ZD (by omega) (by omega)
    _<=c.size:=Int.ediv_mul_le _ (by omega)
  rw[QL,QM] at this;exact this
 have e2:(pg:Int)*c.size+c.size<=c.size*c.bS:=by
  have:((pg:Int)+1)*c.size<=c.bS*c.size:=ZD (by omega) (by omega);rw[QL,QM,YP c.bS] at this;exact this
 refine⟨k,pg,ix,e,f,b,d,by omega,by omega,g,ZI (by omega) (by omega),ZI (by omega) (by omega),e1,by omega⟩
theorem T6(h:Yk c q=true)(hc:q.cL=-1):0<q.bS.length/\∀n∈q.bS,0<=n/\n<c.bS:=by
 unfold Yk at h;rw[bK hc] at h;simp only[XJ,decide_eq_true_eq,Bool.not_eq_true'] at h;refine⟨h.1,λn a=>?_⟩;have:=QG.1 h.2 n a;simp at this;exact Mm.1 this
theorem Bn.cL{v:Vw}(h:Bn w v)(hk:k<v.c.bT.length):∃b off,v.p.ca=some ⟨b,off,none⟩/\w.cell? ⟨b,off+k,none⟩=some (.int .i64 (Z6 v.c k)):=h.cO.bT k hk
theorem Nk(hm:Zb c=true):64<=c.size*c.bS/\c.size*c.bS<=4194304:=by
 obtain⟨a,b,_⟩:=D3 hm;constructor
 .calc (64:Int)=64*1:=rfl
   _<=c.size*c.bS:=ZG (by omega) (by omega) (by omega) (by omega)
 .calc c.size*c.bS<=4096*1024:=ZG (by omega) (by omega) (by omega) (by omega)
   _=4194304:=rfl
theorem XcI(v:Vw)(q:Plc)(w:dD)(h:Bn w v)(hq:Zo w q)(hfew:q.bS.length<=1000000000):Xe prog 177 #[Fs v,.agg (Xv q).toArray] w (Grow (.int .i64 (Z3 v.c q)) w):=by
 obtain⟨E,F,G⟩:=D3 h.may;refine aR func177 ntmps177 aA (bC aA λqb x e1 o e z=>?_);have p:=h.bQ e;refine bB o aA (bG (XcK v q x p (hq.bQ e)) aA λH f=>?_);have b:=f.bP o;have i:=p.bQ f;have s:=e.trans f;cases n:Yk v.c q with
 |false=>
  exact bI aA (bE func177 aA ⟨Xz (by unfold Z3;rw[n];rfl),s⟩)
 |true=>
  refine aS aA (bB b aA (aT aA (λd=>?_) λd=>?_))
  .have g:q.cL=-1:=by simpa using d
   have A:0<=(q.bS.length:Int)*v.c.size:=ZI (by omega) (by omega);have B:(q.bS.length:Int)*v.c.size<=1000000000*4096:=ZG (by omega) (by omega) (by omega) (by omega);refine Xa.drawn (q:=10) Xf Xb Xn (by kernel_rfl) rfl ?_;intro a;refine Xd.cJ Xb a rfl b (by first|exact λh=>h|(intro h;omega)|assumption) rfl rfl ?_;refine Xd.cJ Xb a rfl i.obj (by first|exact λh=>h|(intro h;omega)|assumption) rfl rfl ?_;refine Xd.arith Xb a rfl (w64 (by omega)) rfl ?_;exact aF a aA λy l=>bE func177 aA ⟨Xz (by unfold Z3;rw[bK n,bK g]),s.trans l⟩
  .have g:¬q.cL=-1:=by simpa using d
   obtain⟨k,pg,ix,t,C,D,m,_,_,_,_,_,_,_⟩:=Id h.may n g;obtain⟨cb,off,r,u⟩:=i.cL m;obtain⟨vb,c,⟨ca,cc,ka,kc⟩,ab,mb⟩:=v;simp only at r
   subst r;obtain⟨cL,cR,idx,pa,pc,bS⟩:=q;simp only at t
   subst t;replace m:k<c.bT.length:=m;refine aQ 10 Xf (by kernel_rfl) aA λa=>aE a i.obj aA (aE a b aA ?_);refine Xd.index Xb a rfl (j:=k) (show(0:Int)<=k by omega) (show(k:Int)<c.bT.length by omega) (by simp) rfl ?_;exact aD a u aA (aF a aA λy l=>bE func177 aA ⟨Xz (by unfold Z3;rw[bK n];simp only;rw[bJ g]),s.trans l⟩)
theorem XcH(v:Vw)(q:Plc)(w:dD)(h:Bn w v)(hq:Zo w q):Xe prog 201 #[Fs v,.agg (Xv q).toArray] w (Grow (.int .i64 (Ak v.c q)) w):=by
 obtain⟨H,I,J⟩:=D3 h.may;have e:=Nk h.may;refine aR func201 ntmps201 aA (bC aA λqb E e1 n f G=>?_);have o:=h.bQ f;refine bB n aA (bG (XcK v q E o (hq.bQ f)) aA λK i=>?_);have b:=i.bP n;have l:=o.bQ i;have t:=f.trans i;cases u:Yk v.c q with
 |false=>
  exact bI aA (bE func201 aA ⟨Xz (by unfold Ak;rw[u,bJ (by simp)]),t⟩)
 |true=>
  refine aS aA (bB b aA (aT aA (λd=>?_) λd=>?_))
  .have g:q.cL=-1:=by simpa using d
   exact bE func201 aA ⟨Xz (by unfold Ak;rw[bJ (λF=>F.2 g)]),t⟩
  .have g:¬q.cL=-1:=by simpa using d
   obtain⟨k,pg,ix,x,p,r,m,L,y,M,z,A,N,B⟩:=Id h.may u g;obtain⟨cb,off,s,C⟩:=l.cL m;obtain⟨vb,c,⟨ca,cc,ka,kc⟩,ab,mb⟩:=v;simp only at s
   subst s;obtain⟨cL,cR,idx,pa,pc,bS⟩:=q;simp only at x p r
   subst x;subst p;subst r;replace m:k<c.bT.length:=m;replace e:64<=c.size*c.bS/\c.size*c.bS<=4194304:=e;replace z:0<=(pg:Int)*c.size:=z;replace A:0<=(ix:Int)*Z6 c k:=A;replace B:(pg:Int)*c.size+(ix:Int)*Z6 c k+Z6 c k<=c.size*c.bS:=B;replace y:8<=Z6 c k:=y;refine Xa.drawn (q:=22) Xf Xb Xn (by kernel_rfl) rfl ?_;intro a;refine Xd.cJ Xb a rfl b (by first|exact λh=>h|(intro h;omega)|assumption) rfl rfl ?_;refine Xd.cJ Xb a rfl l.obj (by first|exact λh=>h|(intro h;omega)|assumption) rfl rfl ?_;refine Xd.arith Xb a rfl (w64 (by show _/\_;simp only;omega)) rfl ?_;refine Xd.cJ Xb a rfl b (by first|exact λh=>h|(intro h;omega)|assumption) rfl rfl ?_;refine Xd.cJ Xb a rfl l.obj (by first|exact λh=>h|(intro h;omega)|assumption) rfl rfl ?_;refine Xd.cJ Xb a rfl b (by first|exact λh=>h|(intro h;omega)|assumption) rfl rfl ?_;refine Xd.index Xb a rfl (j:=k) (show(0:Int)<=k by omega) (show(k:Int)<c.bT.length by omega) (by simp) rfl ?_;exact aD a C aA (Xd.arith Xb a rfl (w64 (by show _/\_;simp only;omega)) rfl (Xd.arith Xb a rfl (w64 (by show _/\_;simp only;omega)) rfl (aF a aA λO D=>bE func201 aA ⟨Xz (by unfold Ak;rw[bK ⟨u,g⟩]),t.trans D⟩)))
theorem Xod(c:Conf)(p:Y8)(A:Ar)(V:ArV)(w:dD)(hc:Yw w c p)(hA:X8 w A V):Xe prog 119 #[.agg (Zj c p).toArray,.pointer (some ⟨A.ab,0,none⟩),Jd A.mb] w
 (λv w'=>Xc Xf w w'/\if Zb c=true/\(V.bs.length:Int)=c.size*c.bS then ∃vb,v=.tuple #[.pointer (some ⟨vb,0,none⟩),.int .i64 0]/\w.heap.size<=vb/\Bn w' ⟨vb,c,p,A.ab,A.mb⟩ else v=.tuple #[.pointer none,.int .i64 1]):=by
 refine aR func119 ntmps119 aA (bC aA λcb n e1 g h r=>?_);refine bB g aA (bG (XaF c p n (hc.bR h)) aA λt i=>?_);have e:=h.trans i;have a:=i.bP g;cases hm:Zb c with
 |false=>
  rw[show Bu c=1 from by unfold Bu;rw[hm];rfl];exact bI aA (bE func119 aA ⟨e,by rw[bJ (by simp)]⟩)
 |true=>
  rw[show Bu c=0 from by unfold Bu;rw[hm];rfl];have o:=Nk hm;refine aS aA (aQ 8 Xf (by kernel_rfl) aA λd=>aH d (λw' k=>Xae A V w' ((hA.bQ e).bQ k)) aA (aE d a aA (aE d a aA (Xd.arith Xb d rfl (w64 (by show _/\_;omega)) rfl (Xd.adv Xb d rfl (aF d aA λu b=>?_))))));by_cases f:(V.bs.length:Int)=c.size*c.bS
  .refine aI aA (show((V.bs.length:Int) != c.size*c.bS)=false by rw[f];exact bne_self_eq_false _) (bB (b.bP a) aA (aO aA (bC aA λvb x e4 l m s=>?_)));have j:=(e.trans b).trans m;exact bE func119 aA ⟨j,by rw[bK ⟨rfl,f⟩];exact⟨vb,rfl,by have:=e.size;have:=b.size;omega,⟨l,hc.bR j,hm⟩⟩⟩
  .exact aM aA (show((V.bs.length:Int) != c.size*c.bS)=true by simpa using f) (bE func119 aA ⟨e.trans b,by rw[bJ (λq=>f q.2)]⟩)
abbrev Span:=Nat×Nat×Nat
def Ct(s:Span):List dE:=[.int .i64 (s.1:Nat),.int .i64 (s.2.1:Nat),.int .i64 (s.2.2:Nat)]
def Dm(at' n cR:Nat):Span:=(at'/cR,at'%cR,min n (cR-at'%cR))
def K2:Nat->Nat->Nat->Nat->List Span
 |0,_,_,_=>[]
 |f+1,at',n,cR=>if n=0 then [] else Dm at' n cR::K2 f (at'+min n (cR-at'%cR)) (n-min n (cR-at'%cR)) cR
def Zz(at' n cR:Nat):List Span:=K2 n at' n cR
theorem Kk{cR:Nat}(hp:1<=cR)(hn:0<n):0<min n (cR-at'%cR):=by
 have:=YQ at' (show 0<cR by omega);omega
theorem XgT{cR:Nat}(hp:1<=cR):∀(f g at' n:Nat),n<=f->n<=g->K2 f at' n cR=K2 g at' n cR
 |0,0,_,_,_,_=>rfl
 |0,g+1,at',n,h,_=>by
   obtain rfl:n=0:=by omega
   simp[K2]
 |f+1,0,at',n,_,h=>by
   obtain rfl:n=0:=by omega
   simp[K2]
 |f+1,g+1,at',n,a,b=>by
  unfold K2;split
  .rfl
  .rename_i c
   have:=Kk (at':=at') hp (show 0<n by omega);rw[XgT hp f g _ _ (by omega) (by omega)]
theorem Vo(at' cR:Nat):Zz at' 0 cR=[]:=rfl
theorem Lw{cR:Nat}(hp:1<=cR)(hn:0<n):Zz at' n cR=Dm at' n cR::Zz (at'+min n (cR-at'%cR)) (n-min n (cR-at'%cR)) cR:=by
 have:=Kk (at':=at') hp hn;unfold Zz;obtain⟨m,rfl⟩:∃m,n=m+1:=⟨n-1,by omega⟩;rw[show K2 (m+1) at' (m+1) cR=Dm at' (m+1) cR::K2 m (at'+min (m+1) (cR-at'%cR)) (m+1-min (m+1) (cR-at'%cR)) cR from by
  show(if m+1=0 then [] else _)=_
  rw[bJ (by omega)]]
 rw[XgT hp m _ _ _ (by omega) (XF _)]
theorem Sn{cR:Nat}(hp:1<=cR):∀(n at':Nat),(Zz at' n cR).length<=n:=by
 intro n
 induction n using QP with
 |_ n ih=>
  intro at';by_cases a:n=0
  .subst a;exact XF _
  .have:=Kk (at':=at') hp (show 0<n by omega);rw[Lw hp (by omega),XN];have:=ih (n-min n (cR-at'%cR)) (by omega) (at'+min n (cR-at'%cR));omega
abbrev Do(w:dD)(b:Nat)(x:Int):Prop:=w.heap[b]?=some (.cells ([.int .i64 x]:List dE).toArray 3 (0,0))
theorem XiF(pa pp pn at' cR n:Nat)(w:dD)(ha:Do w pa at')(hp:Do w pp cR)(hn:Do w pn n)(hb:at'+n<=16777216/\1<=cR/\cR<=16777216):Xe prog 321 #[.pointer (some ⟨pa,0,none⟩),.pointer (some ⟨pp,0,none⟩),.pointer (some ⟨pn,0,none⟩)] w (Grow (.agg (Ct (Dm at' n cR)).toArray) w):=by
 have g:0<=(at':Int)%cR/\(at':Int)%cR<cR:=⟨Int.emod_nonneg _ (by omega),Int.emod_lt_of_pos _ (by omega)⟩;have e3:((min n (cR-at'%cR):Nat):Int)=if (cR:Int)-(at':Int)%cR<n then (cR:Int)-(at':Int)%cR else n:=by
  rw[show((at':Int)%cR)=((at'%cR:Nat):Int) from rfl];have:=YQ at' (show 0<cR by omega);split <;> omega
 refine aR func321 ntmps321 aA (bC aA λrb k e1 d a h=>bB (a.bP ha) aA (bB (a.bP hp) aA (Xa.div Xb rfl (by omega) (G8 (by omega)) rfl (aQ 10 Xf (by kernel_rfl) aA λb=>aE b (a.bP ha) aA (aE b (a.bP hp) aA (Xd.div Xb b rfl (by omega) (Gh (by omega) (by omega)) rfl (aE b (a.bP hn) aA (aE b (a.bP hp) aA (aC b aA (Xd.adv Xb b rfl (Xd.build Xb b rfl rfl (aF b aA λl c=>bF (c.bP d) aA λm e f i=>?_))))))))))));exact aK func321 e aA ⟨by unfold Ct Dm;simp only;rw[e3];rfl,((a.trans c).sn f)⟩
theorem XiH(l pa pp pn at0 n0 cR:Nat)(w:dD)(Y:Nat->Prop)(I:Nat->dD->Prop)(hb:at0+n0<=16777216/\1<=cR/\cR<=16777216)(ha:Do w pa at0)(hp:Do w pp cR)(hn:Do w pn n0)(hne:pa≠pp/\pa≠pn/\pp≠pn)(hY:¬Y pa/\¬Y pp/\¬Y pn)(hI:∀k w w',I k w->Xc (λz=>z=pa\/z=pn) w w'->I k w')(hy:∀k w0 w (h:k<(Zz at0 n0 cR).length),I k w0->Xc Xf w0 w->Lb prog l [.agg (Ct (Zz at0 n0 cR)[k]).toArray] w (λv w'=>v=.bool true/\I (k+1) w'/\Xc (λz=>Y z/\z<w0.heap.size) w w'))(h0:I 0 w):Xe prog 320 #[Kb l,.pointer (some ⟨pa,0,none⟩),.pointer (some ⟨pp,0,none⟩),.pointer (some ⟨pn,0,none⟩)] w (λv w'=>v=.tuple #[]/\I (Zz at0 n0 cR).length w'/\Xc (λz=>z=pa\/z=pn\/Y z) w w'):=by
 refine aR func320 ntmps320 aA ?_;refine Xa.loop (α:=Nat×Nat×Nat) (λ_=>[(0,false,Kb l),(1,false,.pointer (some ⟨pa,0,none⟩)),(3,false,.pointer (some ⟨pn,0,none⟩)),(5,false,.func (.func 321) #[] #[.pointer (some ⟨pa,0,none⟩),.pointer (some ⟨pp,0,none⟩),.pointer (some ⟨pn,0,none⟩)])])
  (λp w'=>∃pre,Zz at0 n0 cR=pre++Zz p.2.1 p.2.2 cR/\pre.length=p.1/\p.2.1+p.2.2=at0+n0/\I p.1 w'/\Do w' pa p.2.1/\Do w' pp cR/\Do w' pn p.2.2/\Xc (λz=>z=pa\/z=pn\/Y z) w w') (λp=>p.2.2) (0,at0,n0) ⟨rfl,rfl,rfl,rfl,trivial⟩
  ⟨[],rfl,rfl,rfl,h0,ha,hp,hn,Xc.refl _ _⟩ ?_
 rintro⟨k,at',n⟩ D ⟨pre,a,P,K,q,i,E,j,F⟩ ih;simp only at a P K q i j
 subst P;refine aN aA (bB j aA (aT aA (λL=>?_) λL=>?_))
 .have m:0<n:=by have:=bL L;omega
  have r:=Kk (at':=at') hb.2.1 m;have d:=Lw (at':=at') hb.2.1 m;refine bG (XiF pa pp pn at' cR n D i E j (by omega)) aA λw2 s=>bC aA λsb w3 e3 Q R a4=>bF Q aA λw4 t S a5=>?_;have b:=(s.trans R).bU S (λz hz e=>by have:=s.size;omega);have T:pre.length<(Zz at0 n0 cR).length:=by rw[a,d];simp
  have U:(Zz at0 n0 cR)[pre.length]=Dm at' n cR:=by
   simp only[a,d];simp
  have G:=hy pre.length D w4 T q b;rw[U] at G;refine bB t aA (Xa.yield rfl G ?_);rintro _ w5 ⟨rfl,V,f⟩;have a3:D.heap.size<=sb:=by have:=s.size;omega
  have a6:=Xg i;have H:=f.heap (b.bP i) (λh=>hY.1 h.1);have J:=f.heap (b.bP j) (λh=>hY.2.2 h.1);have u:=f.heap t (λh=>by have:=h.2;omega);refine aN aA (aS aA (aQ 9 (λz=>z=pa) (by kernel_rfl) aA λc=>Xd.loadbAt (4) Xb c rfl rfl rfl J (by first|exact λh=>h|(intro h;omega)|assumption) rfl rfl (Xd.loadbAt (2) Xb c rfl rfl rfl u (by first|exact λh=>h|(intro h;omega)|assumption) rfl rfl (Xd.loadbAt (6) Xb c rfl rfl rfl u (by first|exact λh=>h|(intro h;omega)|assumption) rfl rfl (Xd.arith Xb c rfl (w64 (by show _/\_;unfold Dm;simp only;omega)) rfl (Xd.cK c rfl λw6 x=>Xo.cJ Xb c rfl (x.bP H) rfl rfl (Xd.arith Xb c rfl (w64 (by show _/\_;unfold Dm;simp only;omega)) rfl (Xd.cK c rfl λW y=>Xo.store Xb c rfl (y.bP (x.bP H)) (by first|(intro h;exact rfl)|(intro h;omega)) rfl rfl rfl λa7 M A a8=>aF c aA λw7 o=>?_))))))));have g:=x.trans y;refine bF (o.bP (A.heap (g.bP J) (λe=>hne.2.1 e.symm))) aA λw8 a1 B a9=>?_;have N:Xc (λz=>z=pa\/z=pn) W w8:=((A.mono λ_ _ h=>.inl h).trans o.gr).trans (B.mono λ_ _ h=>.inr h);have C:=g.gr.trans N;have O:Xc (λz=>z=pa\/z=pn\/Y z) D w8:=(b.gr.trans (f.mono λ_ _ h=>.inr (.inr h.1))).trans (C.mono λ_ _ h=>h.elim .inl (λh=>.inr (.inl h)));exact ih (pre.length+1,at'+min n (cR-at'%cR),n-min n (cR-at'%cR)) _ _ ⟨pre++[Dm at' n cR],by rw[a,d];simp,by simp,by simp only;omega,hI _ _ _ V C,by
   have e:((at':Int)+((Dm at' n cR).2.2:Nat))=((at'+min n (cR-at'%cR):Nat):Int):=by unfold Dm;simp only;omega
   simp only
   rw[<-e];exact(B.heap (o.bP M) hne.2.1),(B.heap (o.bP (A.heap (g.bP (f.heap (b.bP E) (λh=>hY.2.1 h.1))) (λe=>hne.1 e.symm))) hne.2.2),by
   have e:((n:Int)-((Dm at' n cR).2.2:Nat))=((n-min n (cR-at'%cR):Nat):Int):=by unfold Dm;simp only;omega
   simp only
   rw[<-e];exact a1,F.trans O⟩ (by simp only;omega) ⟨rfl,rfl,rfl,rfl,trivial⟩
 .have m:n=0:=by have:=bM L;omega
  subst m;have r:(Zz at0 n0 cR).length=pre.length:=by rw[a,Vo];simp
  exact bE func320 aA ⟨rfl,by rw[r];exact q,F⟩
theorem XiG(at' n cR:Int)(w:dD):Xe prog 305 #[.int .i64 at',.int .i64 n,.int .i64 cR] w (λv w'=>∃pa pp pn,v=.func (.func 320) #[] #[.pointer (some ⟨pa,0,none⟩),.pointer (some ⟨pp,0,none⟩),.pointer (some ⟨pn,0,none⟩)]/\
 w.heap.size<=pa/\w.heap.size<=pp/\w.heap.size<=pn/\(pa≠pp/\pa≠pn/\pp≠pn)/\Do w' pa at'/\Do w' pp cR/\Do w' pn n/\Xc Xf w w'):=by
 exact aR func305 ntmps305 aA (bC aA λpa j e1 d c g=>bC aA λpn k e2 e b h=>bC aA λpp l e3 f a i=>bE func305 aA ⟨pa,pp,pn,rfl,by omega,by omega,by omega,by omega,a.bP (b.bP d),f,a.bP e,(c.trans b).trans a⟩)
theorem XmJ{L:List Span}(h:Xl base t 3 w v L.length (L.flatMap Ct)):∃a cap,v=.slice a L.length cap/\Rows Ct 3 w a L/\∀b off s,a=some ⟨b,off,s⟩->base<=b:=by
 rcases h.2 with⟨rfl,m⟩|⟨g,cap,cur,rfl,n,o,y,z,A,p⟩
 .obtain rfl:L=[]:=ZR.1 m;exact⟨none,0,rfl,λi x c=>by simp at c,λ_ _ _ e=>by cases e⟩
 .refine⟨some ⟨g,0,none⟩,cap,rfl,λi x c=>⟨g,0,rfl,λj v f=>?_⟩,λb off s e=>by cases e;exact n⟩;have u:=(XC.1 c).1;have q:j<3:=by have:=(XC.1 f).1;simpa [Ct] using this
  rw[Ys o];have k:∀(L:List Span) (i:Nat) (x:Span),L[i]?=some x->(L.flatMap Ct)[i*3+j]?=(Ct x)[j]?:=by
   intro L
   induction L with
   |nil=>intro i x c;simp at c
   |cons s r ih=>
    intro i x c;rw[ZX];have d:(Ct s).length=3:=rfl;cases i with
    |zero=>
     simp at c;subst c;rw[Nat.zero_mul,XT,ZA (by rw[d];exact q)]
    |succ i=>
     rw[YC (by rw[d];omega),d,show(i+1)*3+j-3=i*3+j from by omega];exact ih i x (by simpa using c)
  have l:=k L i x c;rw[f,<-p,YV,bK (by omega)] at l;rw[XT]
  simpa using l
theorem XiE(at' n cR:Nat)(w:dD)(hb:at'+n<=16777216/\1<=cR/\cR<=16777216):Xe prog 280 #[.int .i64 at',.int .i64 n,.int .i64 cR] w
 (λv w'=>∃a cap,v=.slice a (Zz at' n cR).length cap/\Rows Ct 3 w' a (Zz at' n cR)/\(∀b off s,a=some ⟨b,off,s⟩->w.heap.size<=b)/\Xc Xf w w'):=by
 have bg:maxLen=9223372036854775807:=rfl;have bh:=Sn (cR:=cR) hb.2.1 n at';refine aR func280 ntmps280 aA (aS aA (aS aA (aS aA (aS aA (aV aA (aS aA (bC aA λlb w1 e1 af p bi=>aP aA (XiG at' n cR w1) ?_)))))));rintro _ w2 ⟨pa,pp,pn,rfl,bj,bk,bm,ag,Q,R,T,E⟩;have ay:=Xg Q;have az:=Xg R;have b0:=Xg T;have F:=p.trans E;have bn:=E.size;refine aN aA (Xa.rangeFunc rfl rfl ⟨Tryz.f320,func320,rfl,rfl⟩ λG B tmps w3 y hB a8 ah ai q bo=>?_);have a9:G.state=.ready:=by rw[y]
 have b2:({G with state:=.ready,pending:=none}:Loop)=G:=by rw[y]
 have aa:G.pending=none:=by rw[y]
 refine(XiH (B+1) pa pp pn at' n cR w3 (λz=>z=lb\/z=B+1\/B+2<=z)
  (λk w'=>k<=(Zz at' n cR).length/\∃v,w'.heap[lb]?=some (.cells ([v]:List dE).toArray 338 (0,0))/\Xl (B+2) 341 3 w' v k (((Zz at' n cR).take k).flatMap Ct)/\
   w'.heap[B+1]?=some (.loop G)/\w'.heap[B]?=some (.deferred (some []))/\B+2<=w'.heap.size/\Xc Xf w w')
  hb (q.bP Q) (q.bP R) (q.bP T) ag ⟨by omega,by omega,by omega⟩ ?_ ?_ ⟨XP _,_,q.bP (E.bP af),World.ownsRow_nil _ _ _ _,ai,ah,by omega,(F.trans q)⟩).mono ?_
 .rintro k w4 L ⟨H,v,t,d,x,I,h5,J⟩ D;refine⟨H,v,D.heap t (by omega),d.bR D (λb hb e=>?_),D.heap x (by omega),D.heap I (by omega),ZZ h5 D.size,J.bU D (λz K e=>by have:=p.size;omega)⟩;have:=(World.ownsRow.lt d b hb.symm).1;omega
 .rintro k w4 L H ⟨bp,v,t,d,x,I,h5,J⟩ r;subst y;refine Lb.enter (ps:=[33]) (r.bP x) rfl rfl a8 rfl (aN aA (bC aA λsb w6 e6 ak U al=>bF ak aA λw7 ac V bq=>?_));have c:=(r.trans U).bU V (λz K e=>by have:=r.size;omega);have b4:=r.size;refine Xa.beginRound rfl (c.bP x) rfl λw8 ao f br=>aN aA (bB (f.heap (c.bP t) (by omega)) aA (bB (f.heap ac (by omega)) aA (Xa.buildSlice Xb rfl λb9 w9 e9 ap g bs=>aN aA ?_)));have A:=((d.bR c (λ_ _ h=>h)).bR f (λb hb e=>by have:=(World.ownsRow.lt d b hb.symm).1;omega)).bR g (λ_ _ h=>h);have aq:((Zz at' n cR).take (k+1)).flatMap Ct=((Zz at' n cR).take k).flatMap Ct++Ct (Zz at' n cR)[k]:=by
   rw[ZH,XD H,List.flatMap_append];simp
  refine Xa.append (base:=B+2) (news:=Ct (Zz at' n cR)[k]) Xb rfl A (by have:=c.size;have:=f.size;have:=g.size;omega) rfl (λi u M=>by rw[Cy,Ys ap];simpa [Ct,Y4] using M) (λu M=>by simp[Ct] at M;rcases M with rfl|rfl|rfl <;> rfl) (by simp only;omega) ?_;intro bt W l j b5;obtain⟨bu,av,aw,N,-⟩:=l.form (by omega);subst N;refine aN aA ?_;refine bF (j.heap (g.bP (f.heap (c.bP t) (by omega))) (λe=>by have:=(World.ownsRow.lt A lb e.symm).1;omega)) aA λa0 O m b6=>?_;refine Xa.roundEnd rfl (m.heap (j.heap (g.bP ao) (λe=>by have:=(World.ownsRow.lt A _ e.symm).1;omega)) (by omega)) ?_;intro a6 ad o b7;have hc:∀S:Nat->Prop,S lb->S (B+1)->(∀z,some z=v.ownBlock->S z)->Xc S L a6:=λS c1 c2 c3=>by
   have a1:Xc S L w7:=U.gr.sn V;have a2:Xc S w7 w8:=f.mono λz _ e=>by subst e;exact c2
   have a3:Xc S w8 W:=g.gr.trans (j.mono λz _ e=>c3 z e);have a4:Xc S W a0:=m.mono λz _ e=>by subst e;exact c1
   have a5:Xc S a0 a6:=o.mono λz _ e=>by subst e;exact c2
   exact(((a1.trans a2).trans a3).trans a4).trans a5
  refine⟨_,rfl,rfl,⟨H,_,o.heap O (by omega),?_,ad,(o.heap (m.heap (j.heap (g.bP (f.heap (c.bP I) (by omega))) (λe=>by have:=(World.ownsRow.lt A _ e.symm).1;omega)) (by omega)) (by omega)),by have:=c.size;have:=f.size;have:=g.size;have:=j.size;omega,(J.trans r).bU (hc (λz=>z=lb\/B+1<=z) (.inl rfl) (.inr (XF _)) (λz e=>.inr (by have:=(World.ownsRow.lt d z e.symm).1;omega))) (λz K e=>by have:=p.size;omega)⟩,
   hc _ ⟨.inl rfl,(Xg t)⟩ ⟨.inr (.inl rfl),(Xg x)⟩ (λz e=>⟨.inr (.inr (World.ownsRow.lt d z e.symm).1),(World.ownsRow.lt d z e.symm).2⟩)⟩
  rw[aq];exact(l.bR m (λb hb e=>by have:=(World.ownsRow.lt l b hb.symm).1;omega)).bR o (λb hb e=>by have:=(World.ownsRow.lt l b hb.symm).1;omega)
 .rintro _ w4 ⟨rfl,⟨H,v,t,d,x,I,h5,J⟩,bv⟩;refine⟨_,x,by rw[a9];simp,?_⟩;intro L C bw;rw[aa];refine aN aA (bB (C.heap t (by omega)) aA ?_);rw[ZL] at d;refine Xa.retM Xb rfl func280 (C.heap I (by omega)) (vs:=[v]) (λ_ _=>.tmp rfl .nil) ?_;intro w6 a7 al;obtain⟨a,cap,rfl,P,ae⟩:=XmJ ((d.bR C (λb hb e=>by have:=(World.ownsRow.lt d b hb.symm).1;omega)).bR a7 (λb hb e=>by have:=(World.ownsRow.lt d b hb.symm).1;omega));exact⟨a,cap,rfl,P,λb off s e=>by have:=ae b off s e;have:=F.size;omega,(J.bU C (λz K e=>by have:=p.size;omega)).bU a7 (λz K e=>by have:=p.size;omega)⟩
theorem Rd.far'{k:IntKind}(h:Rd k w a zs)(hs:0<zs.length->Xj S a)(hc:Xc S w w'):Rd k w' a zs:=(N2.bR ⟨h,λb off s e c=>hs c b off s e⟩ hc).1
theorem Zo.bW(h:Zo w q)(hs:0<q.bS.length->Xj S q.pa)(hc:Xc S w w'):Zo w' q:=⟨h.rd.far' hs hc,h.len⟩
theorem Yw.bW{p:Y8}(h:Yw w c p)(h1:0<c.bT.length->Xj S p.ca)(h2:0<c.bV.length->Xj S p.ka)(hc:Xc S w w'):Yw w' c p:=⟨h.bT.far' h1 hc,h.bV.far' h2 hc,h.lc,h.lk,h.size⟩
theorem Bn.bW{w w':dD}{v:Vw}{S:Nat->Prop}(h:Bn w v)(h0:¬S v.vb)(h1:0<v.c.bT.length->Xj S v.p.ca)(h2:0<v.c.bV.length->Xj S v.p.ka)(hc:Xc S w w'):Bn w' v:=⟨hc.heap h.obj h0,h.cO.bW h1 h2 hc,h.may⟩
theorem Rd.outNew{k:IntKind}(h:Rd k w a zs)(hs:0<zs.length->Xj S a)(hS:∀z,S' z->S z\/w.heap.size<=z):0<zs.length->Xj S' a:=λc b off s e d=>by
 rcases hS b d with h1|h1
 .exact hs c b off s e h1
 .obtain⟨b',off',e',f⟩:=h 0 c;rw[e] at e';cases e'
  have:=World.block_lt_of_cell? w _ f;simp only at this
  omega
theorem Xcc{cR:Nat}(hp:1<=cR):∀(n at':Nat),∀s∈Zz at' n cR,s.1*cR+s.2.1+s.2.2<=at'+n/\0<s.2.2/\s.2.1+s.2.2<=cR/\at'<=s.1*cR+s.2.1:=by
 intro n
 induction n using QP with
 |_ n ih=>
  intro at' s hs;by_cases b:n=0
  .subst b;cases hs
  .have c:=Kk (at':=at') hp (show 0<n by omega);have d:=YQ at' (show 0<cR by omega);have a:=QB at' cR;rw[Lw hp (by omega)] at hs;rcases ZB.1 hs with rfl|hs
   .unfold Dm;simp only
    rw[QE] at a;omega
   .have:=ih _ (by omega) _ s hs;omega
def Zu(c:Conf)(q:Plc)(at' n:Nat):List (Int×Int):=
 if q.cL=-1 then (Zz at' n c.size.toNat).map λs=>(q.bS.getD s.1 0*c.size+s.2.1,(s.2.2:Int)) else [(Ak c q+at',(n:Int))]
theorem XiI(A:Ar)(V:ArV)(n:Int)(w:dD)(h:X8 w A V):Xe prog 175 #[Jd A.mb,.int .i64 n] w (λ_ w'=>X8 w' A (V.cT A n)/\Xc (Yu A) w w'):=by
 cases a:A.mb with
 |none=>
  refine(Xbb n w).mono λ_ w' e=>?_;subst e;exact⟨by unfold ArV.cT;rw[a];exact h,Xc.refl _ _⟩
 |some b=>
  refine(Xba b V.total V.dA n w (h.met b a)).mono λ_ w' ⟨hm,c⟩=>?_;exact⟨by unfold ArV.cT;rw[a];exact h.metered a hm c,c.mono λx _ d=>by unfold Yu;rw[d];exact a⟩
theorem Xol(v:Vw)(q:Plc)(at' n:Int)(w:dD):Xe prog 230 #[Fs v,.agg (Xv q).toArray,.int .i64 at',.int .i64 n] w (λu w'=>∃pb vb ab nb,u=.func (.func 279) #[] #[.pointer (some ⟨pb,0,none⟩),.pointer (some ⟨vb,0,none⟩),.pointer (some ⟨ab,0,none⟩),.pointer (some ⟨nb,0,none⟩)]/\
 w.heap.size<=pb/\w.heap.size<=vb/\w.heap.size<=ab/\w.heap.size<=nb/\Jc w' pb q/\G5 w' vb v/\Do w' ab at'/\Do w' nb n/\Xc Xf w w'):=by
 refine aR func230 ntmps230 aA (bC aA λvb o e1 f d j=>bC aA λpb p e2 g e k=>bC aA λab r e3 h c l=>bC aA λnb s e4 i a m=>?_);have b:=e.trans (c.trans a);exact bE func230 aA ⟨pb,vb,ab,nb,rfl,by omega,by omega,by omega,by omega,(c.trans a).bP g,b.bP f,a.bP h,i,d.trans b⟩
def B3(q:Plc)(A:Ar)(V:ArV):ArV:=if q.cL=-1 then V.cT A 1 else V
theorem X8.mlt(h:X8 w A V):∀z,Yu A z->z<w.heap.size:=λz a=>Xg (h.met z a).1
theorem Xom(l:Nat)(v:Vw)(q:Plc)(at' n pb vb ab nb:Nat)(A:Ar)(Vs:Nat->ArV)(K:Nat->(Nat->Prop)->dD->Prop)(Y0:Nat->Prop)(w:dD)(hv:Bn w v)(hq:Zo w q)(hmb:v.mb=A.mb)(hin:Yk v.c q=true)(hr:(at':Int)+n<=Z3 v.c q)(hfew:q.bS.length<=4096)(hpb:Jc w pb q)(hvb:G5 w vb v)(hab:Do w ab at')(hnb:Do w nb n)(hP1:∀z,Y0 z\/Yu A z->z≠pb/\z≠vb/\z≠v.vb)(hPq:0<q.bS.length->Xj (λz=>Y0 z\/Yu A z) q.pa)(hPc:0<v.c.bT.length->Xj (λz=>Y0 z\/Yu A z) v.p.ca)(hPk:0<v.c.bV.length->Xj (λz=>Y0 z\/Yu A z) v.p.ka)(hKlt:∀k Y w,K k Y w -> ∀z,Y z->z<w.heap.size)(hK:∀k Y w w',K k Y w->Xc (Yu A) w w'->K k Y w')(hy:∀k Y w0 w (h:k<(Zu v.c q at' n).length),X8 w0 A (B3 q A (Vs k))->K k Y w0->Xc Xf w0 w -> Lb prog l [.int .i64 (Zu v.c q at' n)[k].1,.int .i64 (Zu v.c q at' n)[k].2] w (λu w'=>u=.bool true/\X8 w' A (Vs (k+1))/\Xc Y w w'/\∃Y',K (k+1) Y' w'/\∀z,Y' z->Y z\/w.heap.size<=z))(h0:X8 w A (Vs 0))(hK0:K 0 Y0 w):Xe prog 279 #[Kb l,.pointer (some ⟨pb,0,none⟩),.pointer (some ⟨vb,0,none⟩),.pointer (some ⟨ab,0,none⟩),.pointer (some ⟨nb,0,none⟩)] w
  (λu w'=>u=.tuple #[]/\X8 w' A (Vs (Zu v.c q at' n).length)/\(∃Y',K (Zu v.c q at' n).length Y' w'/\∀z,Y' z->Y0 z\/w.heap.size<=z)/\Xc (λz=>Y0 z\/Yu A z) w w'):=by
 obtain⟨m1,m2,m3⟩:=D3 hv.may;have b0:=Nk hv.may;have a1:∀{x y:dD},Xc Xf x y->Xc (Yu A) x y:=λh=>h.gr;refine aR func279 ntmps279 aA (bB hpb aA ?_);by_cases d:q.cL=-1
 .obtain⟨b1,I⟩:=T6 hin d;have J:Z3 v.c q=(q.bS.length:Int)*v.c.size:=by unfold Z3;rw[bK hin,bK d]
  rw[J] at hr;have a2:(q.bS.length:Int)*v.c.size<=4096*4096:=ZG (by omega) (by omega) (by omega) (by omega);obtain⟨sz,a3⟩:=XE (show 0<=v.c.size by omega);have a8:v.c.size.toNat=sz:=by omega
  have o:Zu v.c q at' n=(Zz at' n sz).map λs=>(q.bS.getD s.1 0*v.c.size+s.2.1,(s.2.2:Int)):=by unfold Zu;rw[bK d,a8]
  have B:(Zu v.c q at' n).length=(Zz at' n sz).length:=by rw[o,XV]
  have b8:=Sn (cR:=sz) (by omega) n at';refine Xa.no Xb rfl (show(q.cL != -1)=false by rw[d];rfl) rfl ?_;refine Xa.drawn (q:=10) Xf Xb Xn (by kernel_rfl) rfl ?_;intro c;refine Xd.cJ Xb c rfl hab (by first|exact λh=>h|(intro h;omega)|assumption) rfl rfl ?_;refine Xd.cJ Xb c rfl hnb (by first|exact λh=>h|(intro h;omega)|assumption) rfl rfl ?_;refine Xd.cJ Xb c rfl hvb (by first|exact λh=>h|(intro h;omega)|assumption) rfl rfl ?_;refine Xd.cJ Xb c rfl hv.obj (by first|exact λh=>h|(intro h;omega)|assumption) rfl rfl ?_;have hd:∀w',Xc Xf w w'->Xe prog 280 #[.int .i64 at',.int .i64 n,.int .i64 v.c.size] w' (λu m=>Xc Xf w' m/\∃a cap,u=.slice a (Zz at' n sz).length cap/\Rows Ct 3 m a (Zz at' n sz)/\(∀b off s,a=some ⟨b,off,s⟩->w'.heap.size<=b)):=λw' r=>by
   rw[a3];exact(XiE at' n sz w' (by omega)).mono λu m ⟨a,cap,L,h2,h3,h4⟩=>⟨h4,a,cap,L,h2,h3⟩
  refine Xd.callQ c rfl rfl (λw' r=>(hd w' r).mono λu m ⟨L,a,cap,h2,h3,h4⟩=>(⟨L,a,cap,h2,h3,λb off s e=>ZZ r.size (h4 b off s e)⟩:Xc Xf w' m/\∃a cap,u=.slice a (Zz at' n sz).length cap/\Rows Ct 3 m a (Zz at' n sz)/\(∀b off s,a=some ⟨b,off,s⟩->w.heap.size<=b))) ?_;rintro _ w1 ah ⟨sa,scap,rfl,a0,ad⟩;refine Xd.adv Xb c rfl (aF c aA λm t=>?_);have f:=ah.trans t;have ai:Xj (λz=>Y0 z\/Yu A z) sa:=λb off s e hb=>by
   have:=ad b off s e;rcases hb with hb|hb
   .have:=hKlt _ _ _ hK0 b hb;omega
   .have:=h0.mlt b hb;omega
  refine Xa.loop (α:=Nat) (λk=>[(0,false,Kb l),(1,false,.pointer (some ⟨pb,0,none⟩)),(2,false,.pointer (some ⟨vb,0,none⟩)),(26,false,.slice sa (Zz at' n sz).length scap),(27,false,.int .i64 (Zz at' n sz).length),(28,false,.int .i64 k)])
   (λk w'=>k<=(Zz at' n sz).length/\X8 w' A (Vs k)/\(∃Y,K k Y w'/\∀z,Y z->Y0 z\/m.heap.size<=z)/\Xc (λz=>Y0 z\/Yu A z) m w') (λk=>(Zz at' n sz).length-k) 0 ⟨rfl,rfl,rfl,rfl,rfl,rfl,trivial⟩
   ⟨XP _,h0.bQ f,⟨Y0,hK _ _ _ _ hK0 (a1 f),λ_ h=>.inl h⟩,Xc.refl _ _⟩ ?_
  rintro k w3 ⟨hk,M,⟨Y,a4,N⟩,i⟩ ih;refine aN aA (aT aA (λhc=>?_) λhc=>?_)
  .have C:k<(Zz at' n sz).length:=by have:=bL hc;omega
   obtain⟨s,hs⟩:∃s,s=(Zz at' n sz)[k]:=⟨_,rfl⟩;obtain⟨i1,i2,i3,i4⟩:=Xcc (cR:=sz) (by omega) n at' s (hs▸XM C);have G:s.1<q.bS.length:=by
    have L:(s.1*sz:Nat)<q.bS.length*sz:=by
     have:((q.bS.length*sz:Nat):Int)=(q.bS.length:Int)*v.c.size:=by rw[a3];rfl
     omega
    exact Nat.lt_of_mul_lt_mul_right L
   obtain⟨rb,roff,aj,H⟩:=((a0.bR t).at C);subst aj;rw[<-hs] at H;have O:∀j u,(Ct s)[j]?=some u->w3.cell? ⟨rb,roff+k*3+j,none⟩=some u:=λj u hu=>i.cell (H j u hu) (ai rb roff none rfl);have P:=i.heap (f.bP hvb) (λe=>(hP1 _ e).2.1 rfl);have a5:=(hv.bQ f).bW (λe=>(hP1 _ e).2.2 rfl) hPc hPk i;refine aU (k*3) aA (Xa.loadC Xb (Ct s) rfl (by first|rfl|(simp;done)|(simp[*];done)|(simp;omega)) (O) rfl (bC aA λsb w4 e4 ak al b9=>bF ak aA λw5 ag am ba=>?_));have p:=al.sn am;refine bB (p.bP P) aA (bB (a5.bQ p).obj aA ?_);rw[hmb];refine aP aA (XiI A (Vs k) 1 w5 (M.bQ p)) ?_;rintro _ w6 ⟨an,Q⟩;refine aN aA ?_;have ao:∀{x y:dD},Xc (Yu A) x y->Xc (λz=>Y0 z\/Yu A z) x y:=λh=>h.mono λ_ _ h=>.inr h;have g:=p.gr.trans (ao Q);have F:=Q.heap ag (λe=>by have:=M.mlt _ e;omega);obtain⟨gb,goff,a6,ap⟩:=(((hq.bQ f).bW hPq i).bW hPq g).rd s.1 G;have aq:0<=q.bS.getD s.1 0/\q.bS.getD s.1 0<v.c.bS:=I _ (by rw[XA,XD G];exact XM G);have R:0<=q.bS.getD s.1 0*v.c.size/\q.bS.getD s.1 0*v.c.size<=1024*4096:=⟨ZI aq.1 (by omega),ZG (by omega) (by omega) (by omega) (by omega)⟩;have ar:(Zu v.c q at' n)[k]'(by rw[B];exact C)=(q.bS.getD s.1 0*v.c.size+s.2.1,(s.2.2:Int)):=by
    simp only[o,YU,<-hs]
   obtain⟨cL,cR,idx,pa,pc,bS⟩:=q;simp only at a6
   subst a6;refine aQ 18 Xf (by kernel_rfl) aA λc=>aE c (g.heap (i.heap (f.bP hpb) (λe=>(hP1 _ e).1 rfl)) (λe=>(hP1 _ e).1 rfl)) aA (aE c F aA (Xd.index Xb c rfl (j:=s.1) (show(0:Int)<=(s.1:Nat) by omega) (show((s.1:Nat):Int)<bS.length by have:s.1<bS.length:=G;omega) (by simp) rfl (aD c ap aA (aE c (g.heap P (λe=>(hP1 _ e).2.1 rfl)) aA (aE c (a5.bW (λe=>(hP1 _ e).2.2 rfl) hPc hPk g).obj aA (Xd.arith Xb c rfl (w64 (by show _/\_;simp only at R⊢;omega)) rfl (aE c F aA (Xd.arith Xb c rfl (w64 (by show _/\_;simp only at R⊢;omega)) rfl (aE c F aA (aF c aA λw7 S=>?_))))))))));have D:=hy k Y w6 w7 (by rw[B];exact C) (by unfold B3;rw[bK d];exact an) (hK _ _ _ _ (hK _ _ _ _ a4 (a1 p)) Q) S;rw[ar] at D;refine Xa.yield rfl D ?_;rintro _ w8 ⟨rfl,T,U,Y',V,W⟩;refine aN aA (aS aA (aV aA ?_));have ay:m.heap.size<=w7.heap.size:=by have:=i.size;have:=g.size;have:=S.size;omega
   exact ih (k+1) _ _ ⟨C,T,⟨Y',V,λz E=>(W z E).elim (N z) (λh=>.inr (by omega))⟩,
    ((i.trans g).trans S.gr).bU U (λz E h=>.inl ((N z h).elim id (λh=>by omega)))⟩ (by omega) ⟨rfl,rfl,rfl,rfl,rfl,rfl,trivial⟩
  .have av:k=(Zz at' n sz).length:=by have:=bM hc;omega
   subst av;have az:=f.size;rw[B];exact bE func279 aA ⟨rfl,M,⟨Y,a4,λz E=>(N z E).imp id (λh=>by omega)⟩,f.gr.trans i⟩
 .have o:Zu v.c q at' n=[(Ak v.c q+at',(n:Int))]:=by unfold Zu;rw[bJ d]
  obtain⟨kk,pg,ix,a7,I,aw,bb,g1,g2,g3,g4,g5,g6,g7⟩:=Id hv.may hin d;have ax:Ak v.c q=(pg:Int)*v.c.size+(ix:Int)*Z6 v.c kk:=by unfold Ak;rw[bK ⟨hin,d⟩,a7,I,aw]
  have J:Z3 v.c q=Z6 v.c kk:=by unfold Z3;rw[bK hin,bJ d,a7]
  rw[J] at hr;refine aM aA (show(q.cL != -1)=true by simpa using d) (aQ 7 Xf (by kernel_rfl) aA λc=>aE c hvb aA (aE c hpb aA (aG c (λw' r=>XcH v q w' (hv.bQ r) (hq.bQ r)) aA (aE c hab aA (Xd.arith Xb c rfl (w64 (by show _/\_;rw[ax];omega)) rfl (aE c hnb aA (aF c aA λm t=>?_)))))));have D:=hy 0 Y0 w m (by rw[o];simp) (by unfold B3;rw[bJ d];exact h0) hK0 t;rw[show(Zu v.c q at' n)[0]'(by rw[o];simp)=(Ak v.c q+at',(n:Int)) from by simp only[o];rfl] at D;refine Xa.yield rfl D ?_;rintro _ w8 ⟨rfl,T,U,Y',V,W⟩;refine aN aA ?_;have a2:(Zu v.c q at' n).length=1:=by rw[o];rfl
  rw[a2];have:=t.size;exact bE func279 aA ⟨rfl,T,⟨Y',V,λz E=>(W z E).imp id (λh=>by omega)⟩,t.gr.trans (U.mono λ_ _ h=>.inl h)⟩
def Qq(c:Conf)(q:Plc)(at' n:Int):Int:=if Yk c q=false then 1 else if at'<0\/n<0\/Z3 c q<n\/Z3 c q-n<at' then 8 else 0
theorem K6(hm:Zb c=true)(hfew:q.bS.length<=4096):0<=Z3 c q/\Z3 c q<=16777216:=by
 obtain⟨f,g,h⟩:=D3 hm;unfold Z3;split
 .rename_i d
  split
  .have i:(q.bS.length:Int)*c.size<=4096*4096:=ZG (by omega) (by omega) (by omega) (by omega);exact⟨ZI (by omega) (by omega),by omega⟩
  .rename_i a
   obtain⟨kk,pg,ix,b,_,_,e,_,j,k,_⟩:=Id hm d a;rw[b];omega
 .omega
theorem X8.blt(h:X8 w A V):∀b,b=A.ab\/b=A.db\/b=A.mc\/A.mb=some b->b<w.heap.size:=λb hb=>by
 rcases hb with rfl|rfl|rfl|hb
 .exact Xg h.obj
 .exact Xg h.dat
 .exact Xg h.cap
 .exact Xg (h.met b hb).1
theorem XcJ(v:Vw)(q:Plc)(at' n fk:Nat)(caps:List dE)(A:Ar)(Vs:Nat->ArV)(K:Nat->(Nat->Prop)->dD->Prop)(Y0:Nat->Prop)(w:dD)(hv:Bn w v)(hq:Zo w q)(hmb:v.mb=A.mb)(hck:Qq v.c q at' n=0)(hfew:q.bS.length<=4096)(hPv:¬(Y0 v.vb\/Yu A v.vb))(hPq:0<q.bS.length->Xj (λz=>Y0 z\/Yu A z) q.pa)(hPc:0<v.c.bT.length->Xj (λz=>Y0 z\/Yu A z) v.p.ca)(hPk:0<v.c.bV.length->Xj (λz=>Y0 z\/Yu A z) v.p.ka)(hKlt:∀k Y w,K k Y w -> ∀z,Y z->z<w.heap.size)(hK:∀k Y w1 w2 S,K k Y w1->Xc S w1 w2->(∀z,S z->Yu A z\/(¬Y z/\w.heap.size<=z))->K k Y w2)(hdo:∀k Y w0 (h:k<(Zu v.c q at' n).length),X8 w0 A (B3 q A (Vs k))->K k Y w0 -> Xe prog fk (.int .i64 (Zu v.c q at' n)[k].1::.int .i64 (Zu v.c q at' n)[k].2::caps).toArray w0 (λ_ w'=>X8 w' A (Vs (k+1))/\Xc Y w0 w'/\∃Y',K (k+1) Y' w'/\∀z,Y' z->Y z\/w0.heap.size<=z))(h0:X8 w A (Vs 0))(hK0:K 0 Y0 w):Xe prog 163 #[Fs v,.agg (Xv q).toArray,.int .i64 at',.int .i64 n,.func (.func fk) #[] caps.toArray] w
  (λu w'=>u=.int .i64 0/\X8 w' A (Vs (Zu v.c q at' n).length)/\(∃Y',K (Zu v.c q at' n).length Y' w'/\∀z,Y' z->Y0 z\/w.heap.size<=z)/\Xc (λz=>Y0 z\/Yu A z) w w'):=by
 have l:=K6 (c:=v.c) (q:=q) hv.may hfew;have J:Yk v.c q=true:=by
  cases J:Yk v.c q with
  |true=>rfl
  |false=>unfold Qq at hck;rw[bK J] at hck;cases hck
 have av:¬((at':Int)<0\/(n:Int)<0\/Z3 v.c q<n\/Z3 v.c q-n<at'):=λh=>by
  unfold Qq at hck;rw[bJ (by rw[J];decide),bK h] at hck;cases hck
 refine aR func163 ntmps163 aA (bC aA λqb w1 e1 ad ae af=>bC aA λdb w2 e2 ag a1 b8=>?_);have j:=a1.bP ad;have hw:=ae.trans a1;refine bB j aA (bG (XcK v q w2 (hv.bQ hw) (hq.bQ hw)) aA λw3 D=>?_);have L:=hw.trans D;rw[J];refine aS aA (aS aA (aS aA (bB (D.bP j) aA (bG (XcI v q w3 (hv.bQ L) (hq.bQ L) (by omega)) aA λw4 M=>?_))));have N:=L.trans M;refine aS aA (bB ((D.trans M).bP j) aA (bG (XcI v q w4 (hv.bQ N) (hq.bQ N) (by omega)) aA λw5 a2=>?_));have a3:=N.trans a2;have O:=(D.trans M).trans a2;refine aV aA (aS aA (bB (O.bP j) aA (aP aA (Xol v q at' n w5) ?_)));rintro _ w6 ⟨pb,vb,ab,nb,rfl,b9,ba,bb,bc,bpb,bvb,bab,bnb,a4⟩;have ah:=a3.trans a4;have P:=(O.trans a4).bP ag;have l1:=Xg bpb;have l2:=Xg bvb;have b0:=a3.size;have b1:=Xg P;refine aN aA (Xa.rangeFunc rfl rfl ⟨Tryz.f279,func279,rfl,rfl⟩ λQ B tmps w7 E hB a7 ai aj g bd=>?_);have m:=ah.trans g;have R:=hKlt _ _ _ hK0;have F:=h0.mlt;have be:=Xg hv.obj;have hN:∀{x y:dD} {k Y},K k Y x->Xc Xf x y->K k Y y:=λhk hc=>hK _ _ _ _ _ hk hc (λ_ h=>h.elim);have a9:Q.state=.ready:=by rw[E]
 have b4:({Q with state:=.ready,pending:=none}:Loop)=Q:=by rw[E]
 have aa:Q.pending=none:=by rw[E]
 refine(Xom (B+1) v q at' n pb vb ab nb A Vs
  (λk T x=>∃Y,K k Y x/\(∀z,T z↔Y z\/z=B+1)/\x.heap[B+1]?=some (.loop Q)/\x.heap[B]?=some (.deferred (some []))/\x.heap[db]?=some (.cells ([.func (.func fk) #[] caps.toArray]:List dE).toArray 169 (0,0))/\(∀z,Y z->z≠B/\z≠B+1/\z≠db))
  (λz=>Y0 z\/z=B+1) w7 (hv.bQ m) (hq.bQ m) hmb J (by omega) hfew (g.bP bpb) (g.bP bvb) (g.bP bab) (g.bP bnb) ?_ ?_ ?_ ?_ ?_ ?_ ?_ (h0.bQ m) ?_).mono ?_
 .intro z hz;rcases hz with(hz|hz)|hz
  .have:=R z hz;exact⟨by omega,by omega,λe=>hPv (.inl (e▸hz))⟩
  .exact⟨by omega,by omega,by omega⟩
  .have:=F z hz;exact⟨by omega,by omega,λe=>hPv (.inr (e▸hz))⟩
 .exact hq.rd.outNew hPq (λz hz=>by rcases hz with(hz|hz)|hz;exact .inl (.inl hz);exact .inr (by omega);exact .inl (.inr hz))
 .exact hv.cO.bT.outNew hPc (λz hz=>by rcases hz with(hz|hz)|hz;exact .inl (.inl hz);exact .inr (by omega);exact .inl (.inr hz))
 .exact hv.cO.bV.outNew hPk (λz hz=>by rcases hz with(hz|hz)|hz;exact .inl (.inl hz);exact .inr (by omega);exact .inl (.inr hz))
 .rintro k T x ⟨Y,p,d,r,I,U,f⟩ z hz;rcases(d z).1 hz with hz|rfl
  .exact hKlt _ _ _ p z hz
  .exact Xg r
 .rintro k T x y ⟨Y,p,d,r,I,U,f⟩ hs;exact⟨Y,hK _ _ _ _ _ p hs (λz h=>.inl h),d,hs.heap r (λe=>by have:=F _ e;omega),hs.heap I (λe=>by have:=F _ e;omega),hs.heap U (λe=>by have:=F _ e;omega),f⟩
 .rintro k T x0 x hk al ⟨Y,p,d,r,I,U,f⟩ V;have s:=V.bP r;have ac:=V.bP I;have t:=V.bP U;subst E;refine Lb.enter (ps:=[46,47]) s rfl rfl a7 rfl (aN aA (Xa.beginRound rfl s rfl λx1 am i af=>aN aA ?_));refine bB (i.heap t (by omega)) aA (aP aA (hdo k Y x1 hk ((al.bQ V).bR i (λb l e=>by have:=h0.blt b l;omega)) (hK _ _ _ _ _ (hN p V) i (λz e=>.inr ⟨λa=>(f z a).2.1 e,by omega⟩))) ?_);rintro _ x2 ⟨an,G,Y',ao,a5⟩;refine aN aA ?_;refine Xa.roundEnd rfl (G.heap am (λa=>(f _ a).2.1 rfl)) ?_;intro x3 ap o bf;have b6:=Xg t;have aw:=Xg s;have W:∀z,Y' z->z≠B/\z≠B+1/\z≠db:=λz hz=>(a5 z hz).elim (f z) (λh=>by omega);refine⟨_,rfl,rfl,(an.bR o (λb l e=>by have:=h0.blt b l;omega)),((i.mono λz _ e=>(d z).2 (.inr e)).trans (G.mono λz _ e=>(d z).2 (.inl e))).trans (o.mono λz _ e=>(d z).2 (.inr e)),λz=>Y' z\/z=B+1,⟨Y',(hK _ _ _ _ _ ao o (λz e=>.inr ⟨λa=>(W z a).2.1 e,by omega⟩)),λz=>Iff.rfl,ap,o.heap (G.heap (i.heap ac (by omega)) (λa=>(f _ a).1 rfl)) (by omega),o.heap (G.heap (i.heap t (by omega)) (λa=>(f _ a).2.2 rfl)) (by omega),W⟩,λz hz=>?_⟩;rcases hz with hz|hz
  .exact(a5 z hz).elim (λh=>.inl ((d z).2 (.inl h))) (λh=>.inr (by omega))
  .exact .inl ((d z).2 (.inr hz))
 .exact⟨Y0,hN hK0 m,λz=>Iff.rfl,aj,ai,g.bP P,λz hz=>by have:=R z hz;omega⟩
 .rintro _ w8 ⟨rfl,aq,⟨T,⟨Y,p,d,r,I,U,f⟩,ar⟩,au⟩;refine⟨_,r,by rw[a9];simp,?_⟩;intro w9 H bg;rw[aa];refine aN aA (Xa.retM Xb rfl func163 (H.heap I (by omega)) (vs:=[.int .i64 0]) (λ_ _=>.tmp rfl .nil) λbh C b7=>?_);refine⟨rfl,((aq.bR H (λb l e=>by have:=h0.blt b l;omega)).bR C (λb l e=>by have:=h0.blt b l;omega)),⟨Y,(hK _ _ _ _ _ (hK _ _ _ _ _ p H (λz e=>.inr ⟨λa=>(f z a).2.1 e,by omega⟩)) C (λz e=>.inr ⟨λa=>(f z a).1 e,by omega⟩)),λz hz=>?_⟩,?_⟩
  .rcases ar z ((d z).2 (.inl hz)) with(h|h)|h
   .exact .inl h
   .exact .inr (by omega)
   .exact .inr (by omega)
  .exact(((m.gr.bU au (λz hz h=>by rcases h with(h|h)|h;exact .inl h;exact absurd hz (by omega);exact .inr h))).bU H (λz hz e=>absurd hz (by omega))).bU C (λz hz e=>absurd hz (by omega))
end Go.Proofs.YtdeihcnepljjaaaGreatDoor
