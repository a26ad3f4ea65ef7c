/-
  Texts put together: Ref13c, Ref13d, Ref13e, Ref13f, Unit, Slices, Class, Conf, Meter, Rmm, Pick, Rml, Room0, Room1, Room2, Room3, Slices2.
-/
import Derived.Test.YtdeihcnepljjaaaGreatDoorPt2
import Derived.Test.YtdeihcnepljjaaaGreatDoorQRule25
import Derived.Test.YtdeihcnepljjaaaGreatDoorQPost
import Derived.Test.YtdeihcnepljjaaaGreatDoorQRule6
import Derived.Test.YtdeihcnepljjaaaGreatDoorQRule11
import Derived.Test.YtdeihcnepljjaaaGreatDoorQRule16
import Derived.Test.YtdeihcnepljjaaaGreatDoorQRule5
import Derived.Test.YtdeihcnepljjaaaGreatDoorQRule15
set_option linter.unusedVariables false
set_option maxRecDepth 100000
namespace Go.Proofs.YtdeihcnepljjaaaGreatDoor
open Go.RowKit
open Go renaming World→dD,Value→dE,Addr→dF
open Bool renaming and_eq_true->XK,eq_iff_iff->QV
open Int renaming toNat_natCast->XB,eq_ofNat_of_zero_le->XE,mul_le_mul_of_nonneg_right->ZD,mul_le_mul->ZG,mul_nonneg->ZJ,ediv_nonneg->YM,ediv_le_self->QI
open List renaming getD_eq_getElem?_getD->XA,getElem?_eq_some_iff->XC,getElem?_eq_getElem->XD,length_set->XG,getElem?_set_self->XH,length_replicate->XI,getElem?_set_ne->XJ,map_append->XL,getElem_mem->XM,getElem?_map->XN,length_cons->XO,nodup_append->XR,mem_append->XS,nodup_cons->XU,length_map->XV,mem_of_getElem?->XW,length_take->XX,mem_of_mem_take->ZA,mem_cons->ZB,length_append->ZC,getElem?_eq_none->ZF,take_add_one->ZH,filter_cons->ZI,map_cons->ZK,mem_or_eq_of_mem_set->ZO,mem_cons_self->ZP,nil_append->ZS,mem_of_mem_drop->ZT,drop_eq_getElem_cons->ZV,flatMap_cons->ZY,map_set->ZZ,mem_cons_of_mem->YC,eq_nil_of_length_eq_zero->YG,mem_singleton->YH,filter_eq_self->YN,take_of_length_le->YP,getElem?_take->YV,mem_append_right->YY,sum_cons->QF,length_drop->QH,filter_append->QO,append_nil->QP,length_tail->QT,map_take->QZ
open Nat renaming le_refl->XF,zero_le->XQ,zero_add->XT,mul_one->ZQ,add_assoc->YR
open Option renaming getD_some->ZU,map_some->QY
open Go.Proofs.Tryz (func101 func114 func115 func116 func121 func122 func157 func170 func173 func174 func175 func178 func179 func180 func181 func182 func183 func184 func188 func190 func191 func192 func198 func199 func200 func204 func217 func218 func219 func225 func226 func234 func235 func237 func239 func241 func247 func248 func251 func256 func282 func306 func307 func75 ntmps101 ntmps114 ntmps115 ntmps116 ntmps121 ntmps122 ntmps157 ntmps170 ntmps173 ntmps174 ntmps175 ntmps178 ntmps179 ntmps180 ntmps181 ntmps182 ntmps183 ntmps184 ntmps188 ntmps190 ntmps191 ntmps192 ntmps198 ntmps199 ntmps200 ntmps204 ntmps217 ntmps218 ntmps219 ntmps225 ntmps226 ntmps234 ntmps235 ntmps237 ntmps239 ntmps241 ntmps247 ntmps248 ntmps251 ntmps256 ntmps282 ntmps306 ntmps307 ntmps75 prog)
variable {l':IL}{ahead by' cS h cH size cN u who z:Int}{lg:List (Nat×List Nat)}{ps:List IL}{bs l p zs:List Int}{l2 ws:List Nat}{cs rest xs:List dE}{N at' b base cap d fuel g i j k lm lo m n o qb sz t tm ty vb xb y:Nat}{fz:Nat×Nat}{f:Nat->Int}{G:Nat->Pg}{B C F F' Fr Q S S' T X:Nat->Prop}{a:Option dF}{pg:PgL}{pl':PlM}{x x':Sm}{α:Type}{v:dE}{w w' w'' w0 w1 w2:dD}{cells:α->List dE}
theorem Qb.setPage{r:RS}{pl:PlM}(h:Qb w r x pl)(hn:(x.pg.map (·.1)).Nodup){q p':List Int}{pa':Option dF}{pcap':Nat}(hi:x.pg[i]?=some (m,q))(hx:l'.x=p')(hy:Dc w l')(h1:D4 w pa' (r.ps.set i l'))(h2:Yr w pa')(h3:(r.ps.set i l').length<=pcap'):Qb w {r with pa:=pa',pcap:=pcap',ps:=r.ps.set i l'} {x with pg:=Zr x.pg m p'} pl:=
 ⟨h.p,h.cP,h.cG,h1,h2,h3,λl a=>by
  rcases ZO a with a|rfl
  .exact h.cI l a
  .exact hy,h.e1,h.e2,by
  have e:=Lr x.pg m p';show r.cP.x=(Zr x.pg m p').map λe=>((e.1:Nat):Int)
  rw[h.e3];have b:∀l:PgL,(l.map λe=>((e.1:Nat):Int))=(l.map (·.1)).map (λn:Nat=>(n:Int)):=λl=>by rw[List.map_map];rfl
  rw[b,b,e],by
  show(r.ps.set i l').map (·.x)=(Zr x.pg m p').map (·.2)
  rw[Xnc hn hi,ZZ,ZZ,h.e4,hx],h.e5⟩
theorem Yi.setPage{r:RS}(h:Yi Q r){pa':Option dF}{pcap':Nat}(h1:Xj Q pa')(h2:Xj Q l'.a):Yi Q {r with pa:=pa',pcap:=pcap',ps:=r.ps.set i l'}:=
 ⟨h.o,h.f,h.cP,h.cG,h1,λl a=>by
  rcases ZO a with a|rfl
  .exact h.cI l a
  .exact h2⟩
theorem Qb.setOpn{r:RS}{pl:PlM}(h:Qb w r x pl){o:List Nat}(hl:Q6 w l')(he:l'.x=o.map (λn:Nat=>(n:Int))):Qb w {r with cG:=l'} {x with cG:=o} pl:=
 ⟨h.p,h.cP,hl,h.rp,h.plt,h.pcap,h.cI,h.e1,h.e2,h.e3,h.e4,he⟩
theorem Yi.setOpn{r:RS}(h:Yi Q r)(h1:Xj Q l'.a):Yi Q {r with cG:=l'}:=⟨h.o,h.f,h.cP,h1,h.pa,h.cI⟩
theorem Xei(l:List Nat)(n:Nat):(l.map (λm:Nat=>(m:Int))).filter (λm=>m != (n:Int))=(l.filter (λm=>m != n)).map (λm:Nat=>(m:Int)):=by
 rw[List.filter_map]
 congr 1
 refine List.filter_congr λm _=>?_;simp only[Function.comp];exact QV.2 (by simp only[bne_iff_ne,ne_eq];omega)
structure TkJ(x:Sm)(pl:PlM)(who:Int)(qb kb:Nat)(w w2:dD)(r r1:RS)(x1:Sm)(pl1:PlM)(p:List Int)(n i:Nat)(W:dD):Prop where
 f1:x1.Ok
 f2:x1.Of pl1
 f3:x1.pg[i]?=some (n,p)
 f4:O8 (x1.pg.map λe=>((e.1:Nat):Int)) (n:Int)=(i:Int)
 f5:p.length=x1.cF
 f6:Xu p≠x1.cF
 f7:∃t,x1.cG=n::t
 f8:Qb W r1 x1 pl1
 f9:W.heap[kb]?=some (.cells (X9 r1).toArray 253 (0,0))
 f10:Yi (λz=>z=kb) r1
 f11:Yi (λz=>z=qb) r1
 f12:W.heap[qb]?=w2.heap[qb]?
 f13:Xc Xe w W
 f14:∀Q:Nat->Prop,(∀z,Q z->z<w.heap.size)->Yi Q r->Yi Q r1
 f15:Ad x pl who=x1.takeAt n p who
 f16:B2 x pl who=pl1
 f17:B1 x pl who=n
 f18:B0 x pl who=Yf p
 f19:Qk x pl who=0
theorem XlL(r:RS)(x:Sm)(pl:PlM)(who:Int)(w:dD)(h:Qb w r x pl)(hok:x.Ok)(hof:x.Of pl)(hg:pl.Good):Xf prog 219 #[.agg (X9 r).toArray,.int .i64 who] w
 (λv w'=>∃r',v=.tuple #[.agg (X9 r').toArray,.int .i64 (B1 x pl who),.int .i64 (B0 x pl who),.int .i64 (Qk x pl who)]/\Qb w' r' (Ad x pl who) (B2 x pl who)/\Fg w r r'/\Xc Xe w w'):=by
 have eN:∀e,Qk x pl who=e->e≠0->B1 x pl who=0/\B0 x pl who=0/\Ad x pl who=x/\B2 x pl who=pl:=λe h1 h2=>by
  unfold B1 B0 Ad B2;rw[h1,bJ h2,bJ h2,bJ h2,bJ h2];exact⟨rfl,rfl,rfl,rfl⟩
 refine aR func219 ntmps219 aA (bC aA λrb w1 e1 ck cl dg=>bC aA λqb w2 e2 T bk dh=>?_);have a8:=bk.bP ck;have a9:=cl.trans bk;refine aT aA (λg1=>?_) λg1=>?_
 .have O:=bL g1;have ee:Qk x pl who=1:=by unfold Qk;rw[bK O]
  obtain⟨a,b,c,d⟩:=eN 1 ee (by decide);rw[a,b,c,d,ee];refine bB a8 aA (bF T aA λw3 c0 bm cm=>?_);exact aK func219 c0 aA ⟨r,rfl,(h.bQ a9).bW (h.out (λz g=>by omega)) bm,Fg.refl _ _,a9.sn bm⟩
 have cn:0<=who:=by have:=bM g1;omega
 refine bB a8 aA (bC aA λkb w3 e3 c1 co cm=>bF c1 aA λw4 aq cq di=>?_);have aa:=co.sn cq;have R:=a9.trans aa;have ab:=aa.bP a8;have ac:=aa.bP T;have c2:r.cG.x.length=x.cG.length:=by rw[h.e5];simp
 have ar:¬qb=kb:=by omega
 have h4:=h.bQ R;refine bB ab aA ?_;rw[c2];apply Xa.cut (α:=RS×Sm×PlM×List Int×Nat×Nat) (λ_=>[(1,false,.int .i64 who),(4,false,.pointer (some ⟨qb,0,none⟩)),(8,false,.pointer (some ⟨kb,0,none⟩)),(34,false,.pointer (some ⟨kb,6,none⟩))]) (λy W=>TkJ x pl who qb kb w w2 r y.1 y.2.1 y.2.2.1 y.2.2.2.1 y.2.2.2.2.1 y.2.2.2.2.2 W)
 .intro J;cases o:x.cG with
  |nil=>
   refine bI aA (bB ab aA ?_);cases hf:pl.free with
   |nil=>
    have ee:Qk x pl who=5:=by unfold Qk;rw[bJ (by omega),bK (by rw[o,hf];exact⟨rfl,rfl⟩)]
    obtain⟨a,b,c,d⟩:=eN 5 ee (by decide);rw[a,b,c,d,ee];refine bG (XlN r x pl w4 h4 hok hf) aA λw5 ai=>bC aA λtb w6 e6 au av cr=>bF au aA λw7 aw ax cs=>?_;have dj:=ai.size;have A:=(ai.trans av).sn ax;have ay:=R.trans A;refine bI aA (bB (A.bP ab) aA (bF (A.bP ac) aA λw8 c4 bn dk=>?_));exact aK func219 c4 aA ⟨r,rfl,(h.bQ ay).bW (h.out (λz g=>by omega)) bn,Fg.refl _ _,ay.sn bn⟩
   |cons n t=>
    have ee:Qk x pl who=0:=by unfold Qk;rw[bJ (by omega),bJ (by rw[hf];simp)]
    have ct:n<1024:=by have:=(hg.free n (by rw[hf];simp)).1;have:=hg.len;omega
    have c5:=Ol hok hof hg (n:=n) (by rw[hf];simp);rcases Ni x pl who with⟨az,_⟩|⟨_,_,⟨n',t',F,_⟩|⟨n',t',_,bo,O,k2,U,k4,V⟩⟩
    .exact absurd ee az
    .rw[o] at F;cases F
    rw[hf] at bo;cases bo
    obtain⟨j,f⟩:∃j,j=x.fresh n:=⟨_,rfl⟩;obtain⟨s,q⟩:∃s,s=pl.take x.cL:=⟨_,rfl⟩;have u:j.Ok:=by rw[f];exact hok.fresh ct c5
    have C:j.Of s:=by rw[f,q];exact hof.fresh hg hf
    obtain⟨p,b0⟩:∃p,p=List.replicate x.cF (-1:Int):=⟨_,rfl⟩;have hp:(n,p)∈j.pg:=by rw[f,b0];exact YY _ (by simp)
    have I:=Cc u.nodup hp;rw[<-f,I] at U;simp only[ZU] at U;rw[<-f,U] at O;rw[U] at V;have bp:j.cF=x.cF:=by rw[f];rfl
    have dl:=hok.blk;have G:p.length=j.cF:=by rw[bp,b0];exact XI
    have P:Xu p≠j.cF:=by rw[bp,b0,Ij];omega
    have K:j.cG=n::[]:=by rw[f];show n::x.cG=_;rw[o]
    rcases Ux (l:=j.pg) (n:=(n:Int)) with⟨a0,_⟩|⟨i,p0,m,hm,L,D,c7,hi⟩
    .rw[I] at a0;cases a0
    have b1:m=n:=by omega
    subst b1;rw[I] at L;cases L
    rw[<-q] at k2;refine aP aA (XlM r x pl m t w4 h4 hok hof hg hf) ?_;rintro _ w5 ⟨k,rfl,bq,b2,ai⟩;refine aN aA ?_;rw[<-f,<-q] at bq;refine bC aA λtb w6 e6 au av cr=>bF au aA λw7 aw ax cs=>?_;have b3:=av.sn ax;have A:=ai.trans b3;have c8:=A.bP aq;refine aS aA (bB aw aA (bF c8 aA λW H b4 dm=>?_));have B:Yi (λz=>z=kb) k:=b2 _ (λz g=>by omega) (h.out (λz g=>by omega));have M:Yi (λz=>z=qb) k:=b2 _ (λz g=>by omega) (h.out (λz g=>by omega));have N:=(bq.bQ b3).bW B b4;have b5:=b4.heap (A.bP ac) ar;have a1:=(R.trans A).sn b4;have a2:∀Q:Nat->Prop,(∀z,Q z->z<w.heap.size)->Yi Q r->Yi Q k:=λQ E o=>b2 Q (λz g=>by have:=E z g;omega) o;exact J (k,j,s,p,m,i) _ _ ⟨u,C,hi,D,G,P,⟨_,K⟩,N,H,B,M,b5.trans T.symm,a1,a2,O,k2,k4,V,ee⟩ ⟨rfl,rfl,rfl,rfl,trivial⟩
  |cons n t=>
   have ee:Qk x pl who=0:=by unfold Qk;rw[bJ (by omega),bJ (by rw[o];simp)]
   rcases Ni x pl who with⟨az,_⟩|⟨_,_,⟨n',t',F,O,k2,U,k4,V⟩|⟨n',t',F,_⟩⟩
   .exact absurd ee az
   .rw[o] at F;cases F
    obtain⟨p,b6⟩:=hok.osub n (by rw[o];simp);obtain⟨j,f⟩:∃j,j=x:=⟨_,rfl⟩;obtain⟨s,q⟩:∃s,s=pl:=⟨_,rfl⟩;have u:j.Ok:=by rw[f];exact hok
    have C:j.Of s:=by rw[f,q];exact hof
    have hp:(n,p)∈j.pg:=by rw[f];exact b6
    have I:=Cc u.nodup hp;have br:=I;rw[f] at br;rw[br] at U;simp only[ZU] at U;rw[U] at O V;have G:p.length=j.cF:=by rw[f];exact(hok.cI _ b6).2.1
    have P:Xu p≠j.cF:=by rw[f];exact(hok.cI _ b6).2.2.1 (by rw[o];simp)
    have K:j.cG=n::t:=by rw[f];exact o
    rcases Ux (l:=j.pg) (n:=(n:Int)) with⟨a0,_⟩|⟨i,p0,m,hm,L,D,c7,hi⟩
    .rw[I] at a0;cases a0
    have b1:m=n:=by omega
    subst b1;rw[I] at L;cases L
    exact aI aA (by simp;omega) (J (r,j,s,p,m,i) _ _ ⟨u,C,hi,D,G,P,⟨_,K⟩,by rw[f,q];exact h4,aq,h.out (λz g=>by omega),h.out (λz g=>by omega),ac.trans T.symm,R,λ_ _ o=>o,by rw[f];exact O,by rw[q];exact k2,k4,V,ee⟩ ⟨rfl,rfl,rfl,rfl,trivial⟩)
   .rw[o] at F;cases F
 .rintro⟨k,j,s,p,n,i⟩ W ⟨u,C,hi,D,G,P,⟨t,K⟩,N,H,B,M,eqW,a1,a2,O,k2,k4,V,ee⟩;have b5:=eqW.trans T;simp only at u C hi D G P K N H B M a2 O k2 k4 V
  rw[O,k2,k4,V,ee];have c9:0<k.cG.x.length:=by rw[N.e5,K];simp
  obtain⟨ob,ooff,ca,b7⟩:=N.cG.ok.rd 0 c9;have cb:k.cG.x.getD 0 0=n:=by rw[N.e5,K];rfl
  rw[cb] at b7;have cc:W.heap[kb]?=some (.cells ([Xr k.p.o,Xr k.p.f,.int .i64 k.cL,.int .i64 (k.cF:Int),Xr k.cP,.slice k.pa k.ps.length k.pcap,.slice (some ⟨ob,ooff,none⟩) k.cG.x.length k.cG.cap]:List dE).toArray 253 (0,0)):=by rw[<-ca];exact H
  refine bB cc aA (aU 0 aA (aW aA b7 aA (bB H aA (bG (Pa k n W N.cP) aA λWa aj=>?_))));obtain⟨dn,dp,dq⟩:=N.few u C;rw[N.e3,D];have b8:=N.bQ aj;have b9:=aj.bP H;obtain⟨l,hl,cu,cv⟩:=b8.get hi;obtain⟨pb,poff,cw,cx⟩:=b8.rp i l hl;have cd:Wa.heap[kb]?=some (.cells ([Xr k.p.o,Xr k.p.f,.int .i64 k.cL,.int .i64 (k.cF:Int),Xr k.cP,.slice (some ⟨pb,poff,none⟩) k.ps.length k.pcap,Xr k.cG]:List dE).toArray 253 (0,0)):=by rw[<-cw];exact b9
  have cy:=(XC.1 hl).1;refine bB cd aA (aU i aA (aW aA cx aA (aP aA (XlE l who Wa cv.ok) ?_)));rintro _ Wb ⟨l',rfl,S,ce,ak,bs⟩;refine aN aA ?_;rw[cu] at S⊢;have bt:=b8.bQ ak;have cf:0<l'.x.length:=by rw[S,Us,G];have:=u.blk;omega
  have ba:=Dc.of ce cf;have cg:=ak.bP b9;refine bB cg aA (aP aA (XbL k i l' Wb bt.rp cy (by rw[N.plen];omega)) ?_);rintro _ Wc ⟨pa',pcap',rfl,cz,d0,d1,d2,a3⟩;refine aN aA ?_;have bu:=(bt.bQ a3).setPage u.nodup hi S (ba.bQ a3) cz d0 d1;have af:=(aj.trans ak).trans a3;have dr:=aj.size;have ds:=ak.size;have dt:=a3.size;obtain⟨r2,bv⟩:∃r2:RS,r2={k with pa:=pa',pcap:=pcap',ps:=k.ps.set i l'}:=⟨_,rfl⟩;have al:∀Q:Nat->Prop,(∀z,Q z->z<W.heap.size)->Yi Q k->Yi Q r2:=λQ E o=>by
   rw[bv];exact o.setPage (d2.out (λz g=>by have:=E z g;omega)) (bs.outS (o.cI l (XW hl)) (λz g=>by have:=E z g;omega))
  rw[<-bv] at bu⊢;have du:=Xg H;refine bF (af.bP H) aA λWd ag a4 dv=>?_;have a5:=bu.bW (al _ (λz g=>by omega) B) a4;have bw:=a4.heap (af.bP b5) ar;have bx:=(a1.trans af).sn a4;have d3:=(ba.bQ a3).bW (bs.outS (B.cI l (XW hl)) (λz g=>by omega)) a4;refine bH (U0 l' Wd d3.ok) aA ?_;rw[S];have a6:Yf (Qf p who)<0↔Xu (Qf p who)=j.cF:=by rw[Up,Us,G]
  have eE:=(My cn (by rw[G];exact P)).1;have eA:Eu p who=Yf p:=by unfold Eu;rw[bK eE]
  rw[eA];refine aT aA (λbb=>?_) λbb=>?_
  .have gfl:=bL bb;refine bB ag aA (aP aA (XfN r2.cG n Wd a5.cG) ?_);rintro _ We ⟨ol,rfl,ch,ci,cj,am⟩;refine aN aA (bF (am.bP ag) aA λWf ah bc dw=>?_);obtain⟨r3,bd⟩:∃r3:RS,r3={r2 with cG:=ol}:=⟨_,rfl⟩;replace ah:Wf.heap[kb]?=some (.cells (X9 r3).toArray 253 (0,0)):=by rw[bd];exact ah
   have be:∀Q:Nat->Prop,(∀z,Q z->z<W.heap.size)->Yi Q k->Yi Q r3:=λQ E o=>by
    rw[bd];exact(al Q E o).setOpn (cj.out (λz g=>by have:=E z g;have:=a4.size;omega))
   have bf:({{j with pg:=Zr j.pg n (Qf p who)} with cG:=j.cG.filter (λm=>m != n)}:Sm)=j.takeAt n p who:=by
    unfold Sm.takeAt;rw[bK (a6.1 gfl)]
   have d4:Qb We r3 (j.takeAt n p who) s:=by
    rw[bd,<-bf];exact(a5.bQ am).setOpn ci (by rw[ch,a5.e5];exact Xei _ _)
   have d5:=d4.bW (be _ (λz g=>by omega) B) bc;refine bB ah aA ?_;have d6:=bc.heap (am.bP bw) ar;refine bF d6 aA λWg bg a7 d7=>?_;have bh:=d5.bW (be _ (λz g=>by omega) M) a7;exact aK func219 bg aA ⟨r3,rfl,bh,λQ E o=>be Q (λz g=>by have:=E z g;have:=a1.size;omega) (a2 Q E o),((bx.trans am).sn bc).sn a7⟩
  .have gfl:=bM bb;have bf:({j with pg:=Zr j.pg n (Qf p who)}:Sm)=j.takeAt n p who:=by
    unfold Sm.takeAt;rw[bJ (λe=>gfl (a6.2 e))]
   rw[bf] at a5;refine bB ag aA (bF bw aA λWg bg a7 d7=>?_);have bh:=a5.bW (al _ (λz g=>by omega) M) a7;exact aK func219 bg aA ⟨r2,rfl,bh,λQ E o=>al Q (λz g=>by have:=E z g;have:=a1.size;omega) (a2 Q E o),bx.sn a7⟩
theorem XbD{l:PgL}{n:Int}(h:Zg l n=none):O8 (l.map λe=>((e.1:Nat):Int)) n=-1:=by
 rcases Ux (l:=l) (n:=n) with⟨_,a⟩|⟨_,_,_,_,a,_⟩
 .exact a
 .rw[h] at a;cases a
theorem R5{l:PgL}{n:Int}(h:Zg l n=some p):∃(i m:Nat),n=m/\O8 (l.map λe=>((e.1:Nat):Int)) n=(i:Int)/\i<l.length/\l[i]?=some (m,p):=by
 rcases Ux (l:=l) (n:=n) with⟨a,_⟩|⟨i,p',m,b,a,c,d,f⟩
 .rw[h] at a;cases a
 .rw[h] at a;cases a;exact⟨i,m,b,c,d,f⟩
theorem XlJ(r:RS)(x:Sm)(pl:PlM)(n i:Int)(w:dD)(h:Qb w r x pl)(hok:x.Ok)(hof:x.Of pl):Xf prog 218 #[.agg (X9 r).toArray,.int .i64 n,.int .i64 i] w (Grow (.int .i64 (Qx x n i)) w):=by
 refine aR func218 ntmps218 aA (bC aA λrb z e1 b c B=>?_);refine bB b aA (bG (Pa r n z (h.cP.bQ c)) aA λj d=>?_);have a:=c.trans d;rw[h.e3];unfold Qx;cases o:Zg x.pg n with
 |none=>
  rw[XbD o];exact bI aA (bE func218 aA ⟨rfl,a⟩)
 |some p=>
  obtain⟨k,m,rfl,f,C,A⟩:=R5 o;rw[f];have q:=h.bQ a;obtain⟨l,s,t,u⟩:=q.get A;obtain⟨pb,poff,v,y⟩:=q.rp k l s;have g:j.heap[rb]?=some (.cells ([Xr r.p.o,Xr r.p.f,.int .i64 r.cL,.int .i64 (r.cF:Int),Xr r.cP,.slice (some ⟨pb,poff,none⟩) r.ps.length r.pcap,Xr r.cG]:List dE).toArray 253 (0,0)):=by rw[<-v];exact(d.bP b)
  have D:=(XC.1 s).1;exact aS aA (bB g aA (aU k aA (aW aA y aA (bH (XlD l i j u.ok) aA (bE func218 aA ⟨Xz (by rw[t]),a⟩)))))
theorem XlI(r:RS)(x:Sm)(pl:PlM)(n i who:Int)(w:dD)(h:Qb w r x pl)(hok:x.Ok)(hof:x.Of pl):Xf prog 256 #[.agg (X9 r).toArray,.int .i64 n,.int .i64 i,.int .i64 who] w
 (λv w'=>∃r',v=.tuple #[.agg (X9 r').toArray,.int .i64 (H0 x n i who)]/\Qb w' r' (Ba x n i who) pl/\Fg w r r'/\Xc Xe w w'):=by
 obtain⟨ak,al,am⟩:=h.few hok hof;refine aR func256 ntmps256 aA (bC aA λrb w1 e1 W b an=>bC aA λqb w2 e2 a0 E ao=>?_);have t:=E.bP W;have u:=b.trans E;refine bB t aA (bG (Pa r n w2 (h.cP.bQ u)) aA λJ q=>?_);have f:=u.trans q;have g:=q.bP t;have y:=q.bP a0;have A:=h.bQ f;have ap:=q.size;rw[h.e3];cases s:Zg x.pg n with
 |none=>
  rw[show H0 x n i who=1 from by unfold H0;rw[s],show Ba x n i who=x from by unfold Ba;rw[s],XbD s];refine bI aA (bB g aA (bF y aA λw4 K F aq=>?_));exact aK func256 K aA ⟨r,rfl,A.bW (h.out (λz a=>by have:=b.size;omega)) F,Fg.refl _ _,f.bU F (λz a e=>by have:=b.size;omega)⟩
 |some p=>
  obtain⟨k,m,rfl,L,ar,M⟩:=R5 s;rw[L,show H0 x m i who=Am p i who from by unfold H0;rw[s],show Ba x m i who=x.ownAt m p i who from by unfold Ba;rw[s];rfl];obtain⟨l,N,a1,a2⟩:=A.get M;obtain⟨pb,poff,a3,a4⟩:=A.rp k l N;have O:J.heap[rb]?=some (.cells ([Xr r.p.o,Xr r.p.f,.int .i64 r.cL,.int .i64 (r.cF:Int),Xr r.cP,.slice (some ⟨pb,poff,none⟩) r.ps.length r.pcap,Xr r.cG]:List dE).toArray 253 (0,0)):=by rw[<-a3];exact g
  have a5:=(XC.1 N).1;have P:=XW M;have a6:=(hok.cI _ P).2.1;refine aS aA (bB O aA (aU k aA (aW aA a4 aA (aP aA (XlC l i who J a2.ok) ?_))));rintro _ w5 ⟨l',rfl,j,R,c,a7⟩;refine aN aA ?_;rw[a1] at j⊢;have S:=Dc.of R (by rw[j,Xfv];have:=hok.blk;simp only at a6;omega);have h5:=A.bQ c;refine bB (c.bP g) aA (aP aA (XbL r k l' w5 h5.rp a5 (by rw[h.plen];omega)) ?_);rintro _ w6 ⟨pa',pcap',rfl,a9,aa,ab,ac,d⟩;refine aN aA ?_;have h6:=(h5.bQ d).setPage hok.nodup M j (S.bQ d) a9 aa ab;obtain⟨B,G⟩:∃B:RS,B={r with pa:=pa',pcap:=pcap',ps:=r.ps.set k l'}:=⟨_,rfl⟩;have au:=c.size;have av:=d.size;have H:∀Q:Nat->Prop,(∀z,Q z->z<J.heap.size)->Yi Q r->Yi Q B:=λQ C D=>by
   rw[G];exact D.setPage (ac.out (λz a=>by have:=C z a;omega)) (a7.outS (D.cI l (XW N)) (λz a=>by have:=C z a;omega))
  rw[<-G] at h6⊢;have T:=(f.trans c).trans d;refine bC aA λtb w7 e7 ae af aw=>bF ae aA λw8 U ag ax=>?_;have o:=af.sn ag;have h8:=h6.bQ o;refine bB U aA (bF (((c.trans d).trans o).bP y) aA λw9 V I ay=>?_);exact aK func256 V aA ⟨B,rfl,h8.bW (H _ (λz a=>by omega) (h.out (λz a=>by have:=b.size;omega))) I,λQ C D=>H Q (λz a=>by have:=C z a;omega) D,(T.trans o).bU I (λz a e=>by have:=b.size;omega)⟩
theorem XeG:∀{l:List Nat} (p:Int),0<l.length->Bu p l=((l.getD (l.length-1) 0:Nat):Int)
 |[a],p,_=>rfl
 |a::b::r,p,_=>by
  have ih:=XeG (l:=b::r) (a:Int) (by simp);show Bu a (b::r)=_
  rw[ih]
  simp
theorem XlK(r:RS)(x:Sm)(pl:PlM)(w:dD)(h:Qb w r x pl)(hok:x.Ok):Xf prog 217 #[.agg (X9 r).toArray] w (Grow (.tuple #[.agg (H1 x).toArray,.bool (Nh x)]) w):=by
 have y:r.cG.x.length=x.cG.length:=by rw[h.e5];simp
 have ad:=hok.few;unfold H1 Nh;refine aR func217 ntmps217 aA (bC aA λrb w1 e1 a4 F ao=>bC aA λqb w2 e2 M N ap=>?_);have s:=N.bP a4;have A:=F.trans N;refine bB s aA ?_;rw[y];by_cases o:2<=x.cG.length
 .rw[bK o,bN o];have J:∃k∈x.cG,Bu (-1) x.cG=(k:Int):=by
   rcases Kn (-1) x.cG with⟨e,_⟩|⟨a,T,e,_⟩
   .rw[e] at o;simp at o
   .exact⟨a,T,e⟩
  have K:∃k∈x.cG,Ch x.cG=(k:Int):=by
   cases U:x.cG with
   |nil=>rw[U] at o;simp at o
   |cons a r=>exact⟨a,by simp,rfl⟩
  obtain⟨a,T,ea⟩:=J;obtain⟨b,hb,eb⟩:=K;obtain⟨p,hp⟩:=hok.osub a T;obtain⟨q,hq⟩:=hok.osub b hb;have gp:=Cc hok.nodup hp;have gq:=Cc hok.nodup hq;rw[ea,eb,gp,gq];simp only[ZU];obtain⟨i,m,hm,V,aq,hi⟩:=R5 gp;obtain⟨j,m',ar,L,au,hj⟩:=R5 gq;have v:=h.bQ A;obtain⟨l,hl,a6,a7⟩:=v.get hi;obtain⟨l',O,W,a0⟩:=v.get hj;obtain⟨pb,poff,P,a8⟩:=v.rp i l hl;obtain⟨pb',poff',G,a1⟩:=v.rp j l' O;rw[P] at G;cases G
  obtain⟨ob,ooff,Q,H⟩:=v.cG.ok.rd (x.cG.length-1) (by rw[y];omega);obtain⟨ob',ooff',I,B⟩:=v.cG.ok.rd 0 (by rw[y];omega);rw[Q] at I;cases I
  have a9:r.cG.x.getD (x.cG.length-1) 0=(a:Int):=by
   rw[h.e5,<-ea,XeG (-1) (by omega),XA,XN,XA,XD (show x.cG.length-1<x.cG.length by omega)];rfl
  have aa:r.cG.x.getD 0 0=(b:Int):=by
   rw[h.e5,<-eb];cases U:x.cG with
   |nil=>rw[U] at o;simp at o
   |cons c t=>rfl
  rw[a9] at H;rw[aa] at B;have ak:=(XC.1 hl).1;have al:=(XC.1 O).1;have u:w2.heap[rb]?=some (.cells ([Xr r.p.o,Xr r.p.f,.int .i64 r.cL,.int .i64 (r.cF:Int),Xr r.cP,.slice (some ⟨pb,poff,none⟩) r.ps.length r.pcap,.slice (some ⟨ob,ooff,none⟩) r.cG.x.length r.cG.cap]:List dE).toArray 253 (0,0)):=by rw[<-P,<-Q];exact s
  have C:((x.cG.length:Int)-1)=((x.cG.length-1:Nat):Int):=by omega
  refine aS aA (aQ 10 Xe (by kernel_rfl) aA λd=>aE d u aA (aE d s aA (aE d u aA (aC d aA ?_))));rw[C];refine aB (x.cG.length-1) d aA (aD d H aA (aG d (λw' g=>Pa r a w' (v.cP.bQ g)) aA ?_));rw[h.e3,V];refine aF d aA λw3 n=>aU i aA (aW aA (n.cell a8 id) aA ?_);have D:=n.bP u;refine aQ 8 Xe (by kernel_rfl) aA λd=>aE d D aA (aE d (n.bP s) aA (aE d D aA (aB 0 d aA (aD d (n.cell B id) aA (aG d (λw' g=>Pa r b w' ((v.bQ n).cP.bQ g)) aA ?_)))));rw[h.e3,L];refine aF d aA λw4 R=>aU j aA (aW aA ((n.trans R).cell a1 id) aA ?_);have f:=n.trans R;have E:=f.bP u;refine aQ 14 Xe (by kernel_rfl) aA λd=>aE d E aA (aC d aA ?_);rw[C];refine aB (x.cG.length-1) d aA (aD d (f.cell H id) aA (aH d (λw' g=>XlF l w' ((a7.bQ f).ok.bQ g)) aA (aE d E aA (aB 0 d aA (aD d (f.cell B id) aA (aH d (λw' g=>U0 l' w' ((a0.bQ f).ok.bQ g)) aA (aF d aA λw5 S=>aO aA ?_)))))));rw[a6,W];exact bF ((f.trans S).bP M) aA λw6 a2 ab av=>aK func217 a2 aA ⟨rfl,(A.trans (f.trans S)).bU ab (λz hz e=>by have:=F.size;omega)⟩
 .refine bI aA ?_;rw[bJ o,bO o];exact aO aA (bF M aA λw3 a3 ac aw=>aK func217 a3 aA ⟨rfl,A.bU ac (λz hz e=>by have:=F.size;omega)⟩)
theorem D4.shift(h:D4 w a ps)(hm:lo+k<=ps.length)(hc:ps.length<=cap):D4 w (Aa a cap lo 1) ((ps.drop lo).take k):=λi l d=>by
 have j:=(XC.1 d).1;have f:i<k:=by rw[XX] at j;omega
 rw[YV,bK f,List.getElem?_drop] at d;obtain⟨b,off,rfl,c⟩:=h (lo+i) l d;have g:¬cap=lo:=by omega
 refine⟨b,off+lo,?_,?_⟩
 .simp only[Aa,bJ g,QY,ZQ,Cr]
 .rw[YR];exact c
theorem Xed{β:Type}(f:α->β)(l:List α)(k:Nat):(l.take k++l.drop (k+1)).map f=(l.map f).take k++(l.map f).drop (k+1):=by
 rw[XL,QZ,List.map_drop]
theorem Rd.noneA'{x:List Int}{k:IntKind}(h:Rd k w a x)(hn:x.length=n):a=none->n=0:=λe=>by rw[<-hn];exact h.noneA e
theorem XlH(r:RS)(x:Sm)(pl:PlM)(n i:Int)(w:dD)(h:Qb w r x pl)(hok:x.Ok)(hof:x.Of pl)(hg:pl.Good):Xf prog 225 #[.agg (X9 r).toArray,.int .i64 n,.int .i64 i] w
 (λv w'=>∃r',v=.tuple #[.agg (X9 r').toArray,.int .i64 (Cb x n i)]/\Qb w' r' (Af x n i) (Bm x pl n i)/\Fg w r r'/\Xc Xe w w'):=by
 obtain⟨fn,fo,fp⟩:=h.few hok hof;have fq:maxLen=9223372036854775807:=rfl;have fr:=hok.blk;refine aR func225 ntmps225 aA (bC aA λrb w1 e1 dw dx fs=>bC aA λqb w2 e2 dy c9 ft=>?_);have b6:=c9.bP dw;have b7:=dx.trans c9;refine bB b6 aA (bG (Pa r n w2 (h.cP.bQ b7)) aA λw3 ak=>?_);have a6:=b7.trans ak;have B:=ak.bP b6;have F:=ak.bP dy;have h3:=h.bQ a6;have fu:=ak.size;rw[h.e3];cases j:Zg x.pg n with
 |none=>
  rw[show Cb x n i=1 from by unfold Cb;rw[j],show Af x n i=x from by unfold Af;rw[j],show Bm x pl n i=pl from by unfold Bm;rw[j],XbD j];refine bI aA (bB B aA ?_);have G:=F;refine bF G aA λWz H t ba=>?_;exact aK func225 H aA ⟨r,rfl,h3.bW (h.out (λz hz=>by omega)) t,Fg.refl _ _,a6.sn t⟩
 |some p=>
  obtain⟨k,m,rfl,d3,fv,hk⟩:=R5 j;rw[d3];obtain⟨l,hl,ca,cb⟩:=h3.get hk;obtain⟨pb,poff,dz,cc⟩:=h3.rp k l hl;have bb:w3.heap[rb]?=some (.cells ([Xr r.p.o,Xr r.p.f,.int .i64 r.cL,.int .i64 (r.cF:Int),Xr r.cP,.slice (some ⟨pb,poff,none⟩) r.ps.length r.pcap,Xr r.cG]:List dE).toArray 253 (0,0)):=by rw[<-dz];exact B
  have d5:=(XC.1 hl).1;have a7:=XW hk;have cd:=(hok.cI _ a7).2.1;simp only at cd
  refine aS aA (bB bb aA (aU k aA (aW aA cc aA (bH (U0 l w3 cb.ok) aA ?_))));rw[ca];refine bB bb aA (aU k aA (aW aA cc aA (aP aA (XlA l i w3 cb.ok) ?_)));rintro _ w5 ⟨l',rfl,S,d6,M,e0⟩;refine aN aA ?_;rw[ca] at S⊢;have a8:=M.bP B;have bc:=M.bP F;have a9:=a6.trans M;have fw:=M.size;by_cases hE:Q1 p i=0
  .rw[show Cb x m i=0 from by unfold Cb;rw[j];exact hE,show Af x m i=x.giveAt m p i from by unfold Af;rw[j];simp only;rw[bK hE];rfl,show Bm x pl m i=(if Xu (Yj p i)=0 then pl.give m else pl) from by unfold Bm;rw[j];simp only[hE,true_and];rfl,hE];refine aS aA ?_;have ab:=Dc.of d6 (by rw[S,Xft];omega);have h5:=h3.bQ M;refine bB a8 aA (aP aA (XbL r k l' w5 h5.rp d5 (by rw[h.plen];omega)) ?_);rintro _ w6 ⟨pa',pcap',rfl,al,bd,am,e4,A⟩;refine aN aA ?_;have h6:=(h5.bQ A).setPage hok.nodup hk S (ab.bQ A) al bd am;have fx:=A.size;obtain⟨E,ce⟩:∃E:RS,E={r with pa:=pa',pcap:=pcap',ps:=r.ps.set k l'}:=⟨_,rfl⟩;have cf:∀Q:Nat->Prop,(∀z,Q z->z<w3.heap.size)->Yi Q r->Yi Q E:=λQ u ho=>by
    rw[ce];exact ho.setPage (e4.out (λz hz=>by have:=u z hz;omega)) (e0.outS (ho.cI l (XW hl)) (λz hz=>by have:=u z hz;omega))
   rw[<-ce] at h6⊢;have d9:∀(z0:Nat),w6.heap.size<=z0->Yi (λz=>z=z0) E:=λz0 fy=>h6.out (λz hz=>by omega);refine bC aA λkb w7 e7 db e5 fz=>bF db aA λw8 ad e6 g0=>?_;have C:=e5.sn e6;have dc:=C.size;have h8:=h6.bQ C;have be:=(a9.trans A).trans C;have bf:=(A.trans C).bP a8;have bg:=(A.trans C).bP bc;have bh:=(ab.bQ A).bQ C;have dd:Xj (λz=>z=kb) l'.a:=(ab.bQ A).lt.out (λz hz=>by omega);have bi:=d9 kb (by omega);have a1:Yf p<0↔Xu p=x.cF:=by rw[Up,cd]
   obtain⟨o,ho⟩:∃o,o=(if Xu p=x.cF then m::x.cG else x.cG):=⟨_,rfl⟩;have de:Xc Xe w w6:=a9.trans A;apply Xa.cut (α:=RS) (λ_=>[(1,false,.int .i64 (m:Int)),(3,false,.pointer (some ⟨rb,0,none⟩)),(6,false,.pointer (some ⟨qb,0,none⟩)),(8,false,.int .i64 k),(10,false,Xr l'),(12,false,.pointer (some ⟨kb,0,none⟩)),(53,false,Xr l')]) (λ(d:RS) (W:dD)=>W.heap[kb]?=some (.cells (X9 d).toArray 253 (0,0))/\Qb W d {x with pg:=Zr x.pg m (Yj p i),cG:=o} pl/\Yi (λz=>z=kb) d/\(∀Q:Nat->Prop,(∀z,Q z->z<w3.heap.size)->Yi Q r->Yi Q d)/\Xc Xe w W/\W.heap[rb]?=w3.heap[rb]?/\W.heap[qb]?=w3.heap[qb]?/\Dc W l'/\w6.heap.size<=W.heap.size)
   .intro J;refine Xa.fork Xb rfl rfl rfl (λae=>?_) (λae=>?_)
    rotate_left
    .have gful:¬Xu p=x.cF:=λe=>by have:=bM ae;exact this (a1.2 e)
     exact J E w8 _ ⟨ad,by rw[ho,bJ gful];exact h8,bi,cf,be,bf.trans B.symm,bg.trans F.symm,bh,dc⟩ ⟨rfl,rfl,rfl,rfl,rfl,rfl,rfl,trivial⟩
    .have gful:Xu p=x.cF:=a1.1 (bL ae);refine Xa.buildSlice Xb rfl ?_;intro b9 w9 e9 e8 an g1;refine aN rfl ?_;refine Xa.cJ Xb rfl (an.bP ad) rfl rfl ?_;have cg:Xl w8.heap.size 3 1 w9 (.slice (some ⟨b9,0,none⟩) 1 1) 1 [.int .i64 (m:Int)]:=Xl.one (by omega) e8;have fa:E.cG.x.length=x.cG.length:=by rw[h8.e5];simp
     have g2:x.cG.length+1<=512:=by
      have ea:m∉x.cG:=λhm=>((hok.cI _ a7).2.2.1 hm) gful;have:(m::x.cG).length<=pl.own.length:=Lg _ _ (XU.2 ⟨ea,hok.onodup⟩) (λz hz=>by
       rcases ZB.1 hz with rfl|hz
       .exact(hof _ a7).1
       .obtain⟨q,hq⟩:=hok.osub z hz;exact(hof _ hq).1)
      simp only[XO] at this;omega
     refine Xa.appendA (base:=w8.heap.size) (xs:=[.int .i64 (m:Int)]) (news:=E.cG.x.map (Value.int .i64)) Xb rfl cg an.size h8.cG.ok.rd.noneA (by simp) (h8.cG.ok.rd.bR an).cellsA Jd (by simp only;omega) ?_;intro ch eb df dg fc;have f:=cg.bU an (XF _) dg;obtain⟨ol,rfl,c2,c5,ao⟩:=Xl.il (x:=(m:Int)::E.cG.x) (v:=ch) (m:=1+E.cG.x.length) (show Xl w8.heap.size 3 1 eb ch (1+E.cG.x.length) (((m:Int)::E.cG.x).map (Value.int .i64)) from df) (by simp;omega) (by simp;omega);refine aN rfl ?_;have f4:=f.size;refine Xa.store Xb rfl (f.bP ad) rfl rfl ?_;intro W dh N g3;refine aN rfl ?_;obtain⟨d,ap⟩:∃d:RS,d={E with cG:=ol}:=⟨_,rfl⟩;have O:W.heap[kb]?=some (.cells (X9 d).toArray 253 (0,0)):=by rw[ap];exact dh
     have ec:o=m::x.cG:=by rw[ho,bK gful]
     have di:Xj (λz=>z=kb) ol.a:=by intro b off s e hz;have:=ao b off s e;omega
     have I:Yi (λz=>z=kb) d:=by rw[ap];exact bi.setOpn di
     have D:Qb W d {x with pg:=Zr x.pg m (Yj p i),cG:=o} pl:=by
      have g:=I;rw[ap] at g⊢;exact((h8.bQ f).setOpn (o:=o) c5 (by rw[c2,h8.e5,ec];rfl)).bW g N
     have aq:∀Q:Nat->Prop,(∀z,Q z->z<w3.heap.size)->Yi Q r->Yi Q d:=λQ u K=>by
      rw[ap];exact(cf Q u K).setOpn (by intro b off s e hz;have:=ao b off s e;have:=u b hz;omega)
     have a2:Xc Xe w W:=(be.trans f).sn N;have af:=N.heap (f.bP bf) (show ¬rb=kb by omega);have a3:=N.heap (f.bP bg) (show ¬qb=kb by omega);have ag:=(bh.bQ f).bW dd N;exact J d W _ ⟨O,D,I,aq,a2,af.trans B.symm,a3.trans F.symm,ag,by have:=N.size;omega⟩ ⟨rfl,rfl,rfl,rfl,rfl,rfl,rfl,trivial⟩
   .rintro d W ⟨O,D,I,aq,a2,erb,eqb,ag,f5⟩;have af:=erb.trans B;have a3:=eqb.trans F;have fd:=Xg O;refine bH (XlG l' W ag.ok) aA ?_;rw[S];by_cases hu:Xu (Yj p i)=0
    .rw[show(if Xu (Yj p i)=0 then pl.give m else pl)=pl.give m from bK hu];refine aI aA (by rw[hu];rfl) ?_;have bk:x.giveAt m p i={x with pg:=Qv x.pg m,cG:=o.filter (λz=>z != m)}:=by unfold Sm.giveAt;simp only;rw[bK hu,ho]
     rw[bk];refine bB O aA (aP aA (XfN d.cG m W D.cG) ?_);rintro _ Wa ⟨ci,rfl,dj,dk,dl,P⟩;refine aN aA ?_;have g4:=P.size;refine bF (P.bP O) aA λWb dm bm g5=>?_;have nn:∀{a b:dD},Xc Xe a b->Xc (λz=>z=kb) a b:=λh=>h.gr;have cj:=(a2.trans P).sn bm;have ah:=bm.heap (P.bP af) (show ¬rb=kb by omega);have ck:=h.cP.bQ cj;have g6:r.cP.x.length=x.pg.length:=by rw[h.e3];simp
     have g7:=h.cP.cap;have g8:=h.pcap;refine aQ 11 Xe (by kernel_rfl) aA λc=>aE c ah aA (Xd.slice Xb c rfl (l:=0) (h:=k) (by first|rfl|omega|simp[Dw]) (by first|rfl|omega|simp[Ds]) (by omega) (by omega) rfl (aE c ah aA (aC c aA (Xd.slice Xb c rfl (l:=(k+1)) (h:=r.cP.x.length) (by first|rfl|omega|simp[Dw]) (by first|rfl|omega|simp[Ds]) (by omega) (by omega) rfl ?_))));obtain⟨cl,T⟩:=ck.sl (lo:=0) (hi:=k) (XQ _) (by omega);obtain⟨cm,U⟩:=ck.sl (lo:=k+1) (hi:=r.cP.x.length) (by omega) (XF _);refine Xd.cK c rfl λWc cn=>Xn.buildSlice Xb c rfl (λ_=>rfl) λb1 Wd g9 ed ee ga=>Xd.cK c rfl λWe co=>?_;have cp:Xl Wb.heap.size 3 1 We (.slice (some ⟨b1,0,none⟩) 0 0) 0 []:=Xl.empty (by have:=cn.size;omega) (co.bP ed);have ar:=(cn.trans ee).trans co;refine Xn.appendA Xb c rfl (base:=Wb.heap.size) (xs:=[]) (news:=(r.cP.sl 0 k).x.map (Value.int .i64)) cp ar.size ((cl.bQ ar).ok.rd.noneA' T) (XF _) (by rw[XV,T,ZQ]) (cl.bQ ar).ok.rd.cellsA Jd (by simp only;omega) (λ_=>rfl) ?_;intro v2 Wf cq ef gb;obtain⟨va,vn,vc,rfl⟩:=Xl.isSlice cq;have eg:=cp.bU ar (XF _) ef;refine aF c aA λWg cr=>?_;have bn:=cq.bR cr (λ_ _ h=>h);have au:=eg.trans cr;refine Xa.appendA (base:=Wb.heap.size) (news:=(r.cP.sl (k+1) r.cP.x.length).x.map (Value.int .i64)) Xb rfl bn au.size ((cm.bQ au).ok.rd.noneA' U) (by rw[XV,U,ZQ]) (cm.bQ au).ok.rd.cellsA Jd (by simp only;omega) ?_;intro v3 Wh eh ei gc;have a4:=bn.bU au (XF _) ei;obtain⟨nl,rfl,dn,dp,dq⟩:=Xl.il (x:=(r.cP.sl 0 k).x++(r.cP.sl (k+1) r.cP.x.length).x) (v:=v3) (by rw[XL];exact eh) (by rw[ZC,T,U];omega) (by rw[ZC,T,U];omega);refine aN aA ?_;have fg:=a4.size;refine bF (a4.bP dm) aA λWi dr av gd=>?_;have cs:=(cj.trans a4).sn av;have bo:=av.heap (a4.bP ah) (show ¬rb=kb by omega);have bp:=h.rp.bQ cs;have ge:=h.plen;refine aQ 11 Xe (by kernel_rfl) aA λc=>aE c bo aA (Xd.slice Xb c rfl (l:=0) (h:=k) (by first|rfl|omega|simp[Dw]) (by first|rfl|omega|simp[Ds]) (by omega) (by omega) rfl (aE c bo aA (aC c aA (Xd.slice Xb c rfl (l:=(k+1)) (h:=r.ps.length) (by first|rfl|omega|simp[Dw]) (by first|rfl|omega|simp[Ds]) (by omega) (by omega) rfl ?_))));have ct:=bp.shift (cap:=r.pcap) (lo:=0) (k:=k) (by omega) h.pcap;have cu:=bp.shift (cap:=r.pcap) (lo:=k+1) (k:=r.ps.length-(k+1)) (by omega) h.pcap;have bq:((r.ps.drop 0).take k).length=k:=by rw[XX,QH];omega
     have br:((r.ps.drop (k+1)).take (r.ps.length-(k+1))).length=r.ps.length-(k+1):=by rw[XX,QH];omega
     refine Xd.cK c rfl λWj cv=>Xn.buildSlice Xb c rfl (λ_=>rfl) λb4 Wk gf ej ek gg=>Xd.cK c rfl λWl cw=>?_;have cx:Xl Wi.heap.size 22 1 Wl (.slice (some ⟨b4,0,none⟩) 0 0) 0 []:=Xl.empty (by have:=cv.size;omega) (cw.bP ej);have aw:=(cv.trans ek).trans cw;refine Xn.appendA Xb c rfl (base:=Wi.heap.size) (xs:=[]) (news:=((r.ps.drop 0).take k).map Xr) cx aw.size (λe=>by have:=(ct.bQ aw).noneA e;omega) (XF _) (by rw[XV,bq];show k=(k-0)*1;omega) (ct.bQ aw).cellsA Uw (by simp only;omega) (λ_=>rfl) ?_;intro v5 Wm cy el gh;obtain⟨vd,ve,vf,rfl⟩:=Xl.isSlice cy;have em:=cx.bU aw (XF _) el;refine aF c aA λWn cz=>?_;have bs:=cy.bR cz (λ_ _ h=>h);have ax:=em.trans cz;refine Xa.appendA (base:=Wi.heap.size) (news:=((r.ps.drop (k+1)).take (r.ps.length-(k+1))).map Xr) Xb rfl bs ax.size (λe=>by have:=(cu.bQ ax).noneA e;omega) (by rw[XV,br,ZQ]) (cu.bQ ax).cellsA Uw (by simp only;omega) ?_;intro v6 Wo en eo gi;have a5:=bs.bU ax (XF _) eo;obtain⟨ep,c6,rfl,al,bd,am,es⟩:=Xl.pl (ps:=(r.ps.drop 0).take k++(r.ps.drop (k+1)).take (r.ps.length-(k+1))) (v:=v6) (by rw[XL];exact en) (by rw[ZC,bq,br];omega);refine aN aA ?_;have fj:=a5.size;obtain⟨ay,V⟩:∃ay,ay=(r.ps.drop 0).take k++(r.ps.drop (k+1)).take (r.ps.length-(k+1)):=⟨_,rfl⟩;rw[<-V] at al am⊢;refine bF (a5.bP dr) aA λWp bt R gj=>?_;have c1:=((bm.trans (nn a4)).trans av).trans ((nn a5).trans R);have az:=D.bQ P;have et:Ao Wp d.p pl:=⟨az.p.o.bW I.o c1,az.p.f.bW I.f c1,az.p.eo,az.p.ef⟩;obtain⟨bu,ds⟩:=hof _ (XW hk);simp only at bu ds
     have gk:=hok.cL;refine bB bt aA (aP aA (XfJ d.p m pl Wp et hg bu (by omega)) ?_);rintro _ Wq ⟨rp',rfl,eu,ew,ex,d0⟩;refine aN aA ?_;have gl:=d0.size;refine bC aA λub Wr er ey ez gm=>bF ey aA λWs dt f0 gn=>?_;have bv:=ez.sn f0;have y:=d0.trans bv;refine bB dt aA (bF (y.bP bt) aA λWt ai L gp=>?_);obtain⟨r7,bw⟩:∃r7:RS,r7=⟨rp',d.cL,d.cF,nl,ep,c6,ay,ci⟩:=⟨_,rfl⟩;replace ai:Wt.heap[kb]?=some (.cells (X9 r7).toArray 253 (0,0)):=by rw[bw];exact ai
     have fk:Wb.heap.size<=Wp.heap.size:=by have:=R.size;omega
     have bx:∀Q:Nat->Prop,(∀z,Q z->z<W.heap.size)->Yi Q r->Yi Q r7:=λQ u K=>by
      rw[bw];exact⟨ew.out (λz hz=>by have:=u z hz;omega),ex.out (λz hz=>by have:=u z hz;omega),(by intro b off s e hz;have:=dq b off s e;have:=u b hz;omega),dl.out (λz hz=>u z hz),(by intro b off s e hz;have:=es b off s e;have:=u b hz;omega),λl2 b0=>K.cI l2 (by
       rw[V] at b0;rcases XS.1 b0 with h1|h1
       .exact ZT (ZA h1)
       .exact ZT (ZA h1))⟩
     have du:Yi (λz=>z=kb) r:=h.out (λz hz=>by have:=de.size;omega);have dv:=bx (λz=>z=kb) (λz hz=>by omega) du;have c3:=L;have c4:=((nn a5).trans R).trans ((nn y).trans L);have d1:=(((cs.trans a5).sn R).trans y).sn L;have f2:Qb Wt r7 {x with pg:=Qv x.pg m,cG:=o.filter (λz=>z != m)} (pl.give m):=by
      have g:=dv;rw[bw] at g⊢;have b2:=eu.bQ bv;refine⟨⟨b2.o.bW g.o c3,b2.f.bW g.f c3,b2.eo,b2.ef⟩,(dp.bW g.cP av).bW g.cP c4,(dk.bW g.cG c1).bW g.cG ((nn y).trans L),(al.bW g.pa R).bW g.pa ((nn y).trans L),bd.bQ (by have:=R.size;have:=L.size;have:=y.size;omega),am,λl2 b0=>?_,D.e1,D.e2,?_,?_,?_⟩
      .have:l2∈r.ps:=by
        have d2:=b0;rw[V] at d2;rcases XS.1 d2 with h1|h1
        .exact ZT (ZA h1)
        .exact ZT (ZA h1)
       exact(h.cI l2 this).bQ d1
      .show nl.x=(Qv x.pg m).map _
       rw[dn,XgH hok.nodup hk,Xed];show(r.cP.x.drop 0).take (k-0)++(r.cP.x.drop (k+1)).take (r.cP.x.length-(k+1))=_
       rw[List.drop_zero,Nat.sub_zero,YP (i:=r.cP.x.length-(k+1)) (by rw[QH];omega),h.e3]
      .show ay.map _=(Qv x.pg m).map _
       rw[V,XgH hok.nodup hk,Xed,<-h.e4,List.drop_zero,YP (i:=r.ps.length-(k+1)) (by rw[QH];omega),XL,QZ,List.map_drop]
      .show ci.x=(o.filter _).map _
       rw[dj,D.e5];exact Xei _ _
     have f3:=(c1.trans ((nn y).trans L)).heap (P.bP a3) (show ¬qb=kb by omega);refine bB ai aA ?_;have G:=f3;refine bF G aA λWz H t ba=>?_;have bz:Yi (λz=>z=qb) r7:=bx _ (λz hz=>by have:=Xg a3;omega) (h.out (λz hz=>by omega));exact aK func225 H aA ⟨r7,rfl,f2.bW bz t,λQ u K=>bx Q (λz hz=>by have:=u z hz;have:=a2.size;omega) K,d1.sn t⟩
    .rw[show(if Xu (Yj p i)=0 then pl.give m else pl)=pl from bJ hu];refine bI aA ?_;have bk:x.giveAt m p i={x with pg:=Zr x.pg m (Yj p i),cG:=o}:=by unfold Sm.giveAt;simp only;rw[bJ hu,ho]
     rw[bk];refine bB O aA ?_;have G:=a3;refine bF G aA λWz H t ba=>?_;have bz:Yi (λz=>z=qb) d:=aq _ (λz hz=>by omega) (h.out (λz hz=>by omega));exact aK func225 H aA ⟨d,rfl,D.bW bz t,λQ u K=>aq Q (λz hz=>by have:=u z hz;omega) K,a2.sn t⟩
  .rw[show Cb x m i=Q1 p i from by unfold Cb;rw[j],show Af x m i=x from by unfold Af;rw[j];simp only;rw[bJ hE],show Bm x pl m i=pl from by unfold Bm;rw[j];simp only;rw[bJ (λh=>hE h.1)]];refine aM aA (show(Q1 p i != 0)=true by simpa using hE) (bB a8 aA ?_);have G:=bc;refine bF G aA λWz H t ba=>?_;exact aK func225 H aA ⟨r,rfl,(h3.bQ M).bW (h.out (λz hz=>by omega)) t,Fg.refl _ _,a9.sn t⟩
def Ef(n q:Int):Int:=if n<1\/q<1 then 0 else n/q
theorem V0{n q:Int}(h:1<=n)(h':1<=q):Ef n q=n/q:=by unfold Ef;rw[bJ (by omega)]
theorem XcT{n q:Int}(h:n<1\/q<1):Ef n q=0:=by unfold Ef;rw[bK h]
theorem Xhp(x:Int)(w:dD):Xf prog 307 #[.int .i64 x] w (X5 (.bool (decide (x<1))) w):=by
 exact aR func307 ntmps307 aA (bE func307 aA ⟨rfl,rfl⟩)
theorem XnX(x y:Int)(w:dD):Xf prog 306 #[.int .i64 x,.int .i64 y,.func (.func 307) #[] #[]] w (X5 (.bool (decide (x<1\/y<1))) w):=by
 refine aR func306 ntmps306 aA (bH (Xhp x w) aA (aT aA (λh=>?_) λh=>?_))
 .exact bE func306 aA ⟨Q0 (by simp at h;simp[h]),rfl⟩
 .exact bH (Xhp y w) aA (bE func306 aA ⟨Q0 (by simp at h;simp[show ¬x<1 from by omega]),rfl⟩)
theorem Xho(x y:Int)(w:dD):Xf prog 282 #[.int .i64 x,.int .i64 y] w (X5 (.bool (decide (x<1\/y<1))) w):=by
 exact aR func282 ntmps282 aA (bH (XnX x y w) aA (bE func282 aA ⟨rfl,rfl⟩))
theorem XnW(n q:Int)(w:dD)(hn:n<=9223372036854775807):Xf prog 247 #[.int .i64 n,.int .i64 q] w (X5 (.int .i64 (Ef n q)) w):=by
 refine aR func247 ntmps247 aA (bH (Xho n q w) aA (aT aA (λh=>?_) λh=>?_))
 .exact bE func247 aA ⟨Xz (XcT (by simpa using h)).symm,rfl⟩
 .have a:1<=n/\1<=q:=by simp at h;omega
  exact Xa.div Xb rfl (by omega) (Gm (by omega) (by omega)) rfl (bE func247 aA ⟨Xz (V0 a.1 a.2).symm,rfl⟩)
theorem Xlk(n q:Int)(w:dD)(hn:n<=9223372036854775807):Xf prog 248 #[.int .i64 n,.int .i64 q] w (X5 (.int .i64 (Ef n q)) w):=by
 refine aR func248 ntmps248 aA (aT aA (λh=>?_) λh=>?_)
 .exact bE func248 aA ⟨Xz (XcT (.inl (by simpa using h))).symm,rfl⟩
 .refine aT aA (λa=>?_) λa=>?_
  .exact bE func248 aA ⟨Xz (XcT (.inr (by simpa using a))).symm,rfl⟩
  .have b:1<=n/\1<=q:=by simp at h a;omega
   exact Xa.div Xb rfl (by omega) (Gm (by omega) (by omega)) rfl (bE func248 aA ⟨Xz (V0 b.1 b.2).symm,rfl⟩)
def Qp(n q:Int):Int:=if n<1\/q<1 then 0 else (n-1)/q+1
theorem XnV(n q:Int)(w:dD)(hn:n<=9223372036854775807):Xf prog 234 #[.int .i64 n,.int .i64 q] w (X5 (.int .i64 (Qp n q)) w):=by
 refine aR func234 ntmps234 aA (bH (Xho n q w) aA (aT aA (λh=>?_) λh=>?_))
 .have:Qp n q=0:=by unfold Qp;rw[bK (by simpa using h)]
  exact bE func234 aA ⟨Xz this.symm,rfl⟩
 .have a:1<=n/\1<=q:=by simp at h;omega
  have:Qp n q=(n-1)/q+1:=by unfold Qp;rw[bJ (by omega)]
  have b:0<=(n-1)/q:=YM (by omega) (by omega);have c:(n-1)/q<=n-1:=QI _ (by omega);exact aV aA (Xa.div Xb rfl (by omega) (Gm (by omega) (by omega)) rfl (aV aA (bE func234 aA ⟨Xz this.symm,rfl⟩)))
theorem Xkc{n q:Int}(h1:1<=n)(h2:1<=q):Qp n q=if 0<n%q then n/q+1 else n/q:=by
 have hm:Qp n q=(n-1)/q+1:=by unfold Qp;rw[bJ (by omega)]
 have b:=Int.mul_ediv_add_emod n q;have hr:=Int.emod_nonneg n (show q≠0 by omega);have a:=Int.emod_lt_of_pos n (show 0<q by omega);rw[hm];split
 .have:(n-1)/q=n/q:=((Int.ediv_emod_unique (show 0<q by omega)).2 ⟨(show(n%q-1)+q*(n/q)=n-1 by omega),by omega,by omega⟩).1;omega
 .have c:q*(n/q-1)=q*(n/q)-q:=by rw[Int.mul_sub,Int.mul_one]
  have:(n-1)/q=n/q-1:=((Int.ediv_emod_unique (show 0<q by omega)).2 ⟨(show(q-1)+q*(n/q-1)=n-1 by omega),by omega,by omega⟩).1;omega
theorem Xlj(n q:Int)(w:dD)(hn:n<=9223372036854775807):Xf prog 157 #[.int .i64 n,.int .i64 q] w (X5 (.int .i64 (Qp n q)) w):=by
 refine aR func157 ntmps157 aA (aT aA (λh=>?_) λh=>?_)
 .exact bE func157 aA ⟨Xz (by unfold Qp;rw[bK (.inl (by simpa using h))]),rfl⟩
 .refine aT aA (λb=>?_) λb=>?_
  .exact bE func157 aA ⟨Xz (by unfold Qp;rw[bK (.inr (by simpa using b))]),rfl⟩
  .have c:1<=n/\1<=q:=by simp at h b;omega
   rw[Xkc c.1 c.2];have d:0<=n/q:=YM (by omega) (by omega);have f:n/q<=n:=QI _ (by omega);refine Xa.div Xb rfl (by omega) (Hb (by omega)) rfl (aT aA (λa=>?_) λa=>?_)
   .rw[bK (bL a)];have g:n/q<n:=by
     have i:=Int.mul_ediv_add_emod n q;have j:=bL a;have k:=ZD c.2 d;omega
    exact Xa.div Xb rfl (by omega) (Gm (by omega) (by omega)) rfl (aV aA (bE func157 aA ⟨rfl,rfl⟩))
   .rw[bJ (bM a)];exact Xa.div Xb rfl (by omega) (Gm (by omega) (by omega)) rfl (bE func157 aA ⟨rfl,rfl⟩)
theorem XgF(a:Option dF)(cap fk:Nat)(zs:List Int)(caps:List dE)(p:Int->Bool)(w:dD)(hr:Rd .i64 w a zs)(hl:zs.length<=9223372036854775807)(hf:∀x,x∈zs->Xf prog fk (.int .i64 x::caps).toArray w (X5 (.bool (p x)) w)):Xf prog 190 #[.slice a zs.length cap,.func (.func fk) #[] caps.toArray] w (X5 (.int .i64 (idx p zs)) w):=by
 refine aR func190 ntmps190 aA ?_;refine Xa.loop (α:=Nat) (λk=>[(0,false,.slice a zs.length cap),(1,false,.func (.func fk) #[] caps.toArray),(7,false,.int .i64 zs.length),(8,false,.int .i64 k)])
  (λk w'=>w'=w/\k<=zs.length/\∀j (h:j<zs.length),j<k->p zs[j]=false) (λk=>zs.length-k) 0 ⟨rfl,rfl,rfl,rfl,trivial⟩ ⟨rfl,XQ _,λ_ _ h=>by omega⟩ ?_
 rintro k o ⟨i,q,d⟩ ih;refine aN aA (aT aA (λh=>?_) λh=>?_)
 .have c:k<zs.length:=by simpa using h
  obtain⟨b,off,rfl,l⟩:=hr k c;rw[I1 c] at l;subst i;refine aU k aA (aW aA l aA (bH (hf _ (XM c)) aA (aT aA (λf=>?_) λf=>?_)))
  .exact bE func190 aA ⟨Xz (Jy c d f).symm,rfl⟩
  .refine aV aA ?_;exact ih (k+1) _ _ ⟨rfl,c,λj g m=>by
    by_cases e:j=k
    .subst e;exact f
    .exact d j g (by omega)⟩ (by omega) ⟨rfl,rfl,rfl,rfl,trivial⟩
 .have n:k=zs.length:=by simp at h;omega
  subst i;exact bE func190 aA ⟨Xz (I5 (λj g=>d j g (by omega))).symm,rfl⟩
theorem XgE(a:Option dF)(cap fk:Nat)(zs:List Int)(caps:List dE)(p:Int->Bool)(w:dD)(hr:Rd .i64 w a zs)(hl:zs.length<=9223372036854775807)(hf:∀x,x∈zs->Xf prog fk (.int .i64 x::caps).toArray w (X5 (.bool (p x)) w)):Xf prog 182 #[.slice a zs.length cap,.func (.func fk) #[] caps.toArray] w (X5 (.bool (zs.any p)) w):=by
 exact aR func182 ntmps182 aA (bH (XgF a cap fk zs caps p w hr hl hf) aA (bE func182 aA ⟨Q0 (by rw[QV];simp only[decide_eq_true_eq];exact XaX),rfl⟩))
theorem Xm6(a:Option dF)(cap:Nat)(bs:List Bool)(x:Bool)(w:dD)(hr:Dd w a bs)(hl:bs.length<=9223372036854775807):Xf prog 241 #[.slice a bs.length cap,.bool x] w (X5 (.int .i64 (idx (λy=>x == y) bs)) w):=by
 refine aR func241 ntmps241 aA ?_;refine Xa.loop (α:=Nat) (λk=>[(0,false,.slice a bs.length cap),(1,false,.bool x),(7,false,.int .i64 bs.length),(8,false,.int .i64 k)])
  (λk w'=>w'=w/\k<=bs.length/\∀j (h:j<bs.length),j<k->(x == bs[j])=false) (λk=>bs.length-k) 0 ⟨rfl,rfl,rfl,rfl,trivial⟩ ⟨rfl,XQ _,λ_ _ h=>by omega⟩ ?_
 rintro k o ⟨i,q,c⟩ ih;refine aN aA (aT aA (λh=>?_) λh=>?_)
 .have d:k<bs.length:=by simpa using h
  obtain⟨b,off,rfl,l⟩:=hr k d;subst i;refine aU k aA (aW aA l aA (aT aA (λf=>?_) λf=>?_))
  .exact bE func241 aA ⟨Xz (Jy (p:=λy=>x == y) d c f).symm,rfl⟩
  .refine aV aA ?_;exact ih (k+1) _ _ ⟨rfl,d,λj g m=>by
    by_cases e:j=k
    .subst e;exact f
    .exact c j g (by omega)⟩ (by omega) ⟨rfl,rfl,rfl,rfl,trivial⟩
 .have n:k=bs.length:=by simp at h;omega
  subst i;exact bE func241 aA ⟨Xz (I5 (p:=λy=>x == y) (λj g=>c j g (by omega))).symm,rfl⟩
theorem Xm3(a:Option dF)(cap:Nat)(bs:List Bool)(x:Bool)(w:dD)(hr:Dd w a bs)(hl:bs.length<=9223372036854775807):Xf prog 184 #[.slice a bs.length cap,.bool x] w (X5 (.bool (bs.any λy=>x == y)) w):=by
 exact aR func184 ntmps184 aA (bH (Xm6 a cap bs x w hr hl) aA (bE func184 aA ⟨Q0 (by rw[QV];simp only[decide_eq_true_eq];exact XaX),rfl⟩))
def Hu(cR:Int):Int->List Int->Bool
 |_,[]=>true
 |ahead,n::r=>decide (8<=n) && (n%8 == 0) && decide (n<=cR) && decide (ahead<n) && Hu cR n r
def Bs(zs:List Int)(cR:Int):Bool:=decide (0<zs.length) && decide (zs.length<=16) && Hu cR 0 zs
def H8(zs:List Int)(cR:Int):Int:=if Bs zs cR then 0 else 1
theorem Xfh{cR:Int}(h:k<zs.length):Hu cR ahead (zs.drop k)=(decide (8<=zs[k]) && (zs[k]%8 == 0) && decide (zs[k]<=cR) && decide (ahead<zs[k]) && Hu cR zs[k] (zs.drop (k+1))):=by
 rw[ZV h];rfl
theorem Xfi{cR:Int}(h:zs.length<=k):Hu cR ahead (zs.drop k)=true:=by
 rw[List.drop_eq_nil_of_le h];rfl
theorem H9{cR:Int}(h:Bs zs cR=false):H8 zs cR=1:=by unfold H8;rw[h];rfl
theorem XdN{cR:Int}(h:Bs zs cR=true):H8 zs cR=0:=by unfold H8;rw[h];rfl
theorem Xfj{cR:Int}:∀{zs:List Int} {ahead:Int},Hu cR ahead zs=true -> ∀i (h:i<zs.length),8<=zs[i]/\zs[i]%8=0/\zs[i]<=cR/\ahead<zs[i]/\∀j (hj:j<i),zs[j]<zs[i]
 |n::r,ahead,h,i,a=>by
  simp only[Hu,XK,decide_eq_true_eq,beq_iff_eq] at h;obtain⟨⟨⟨⟨b,c⟩,d⟩,f⟩,g⟩:=h;cases i with
  |zero=>exact⟨b,c,d,f,λj hj=>by omega⟩
  |succ i=>
   obtain⟨k,l,m,o,p⟩:=Xfj g i (by simpa using a);refine⟨k,l,m,by simp only[List.getElem_cons_succ];omega,λj hj=>?_⟩;cases j with
   |zero=>exact o
   |succ j=>exact p j (by omega)
theorem Xaz{cR:Int}(h:Bs zs cR=true):0<zs.length/\zs.length<=16:=by
 unfold Bs at h;simp only[XK,decide_eq_true_eq] at h;exact h.1
theorem Xay{cR:Int}(h:Bs zs cR=true)(i:Nat)(hi:i<zs.length):8<=zs.getD i 0/\zs.getD i 0%8=0/\zs.getD i 0<=cR:=by
 unfold Bs at h;simp only[XK,decide_eq_true_eq] at h;obtain⟨a,b,c,_⟩:=Xfj h.2 i hi;rw[I1 hi];exact⟨a,b,c⟩
theorem XiG(a:Option dF)(cap:Nat)(zs:List Int)(cR:Int)(w:dD)(hr:Rd .i64 w a zs)(hl:zs.length<=9223372036854775807):Xf prog 181 #[.slice a zs.length cap,.int .i64 cR] w (X5 (.int .i64 (H8 zs cR)) w):=by
 refine aR func181 ntmps181 aA (aT aA (λm=>?_) λm=>?_)
 .have d:0<zs.length:=by simpa using m
  by_cases g:zs.length<=16
  .refine Xa.knowB (t:=5) rfl (bN (by omega)) ?_;have q:Bs zs cR=Hu cR 0 (zs.drop 0):=by unfold Bs;rw[bN d,bN g];simp
   refine Xa.loop (α:=Nat×Int) (λx=>[(0,false,.slice a zs.length cap),(1,false,.int .i64 cR),(5,true,.bool true),(6,false,.int .i64 x.2),(17,false,.slice a zs.length cap),(18,false,.int .i64 zs.length),(19,false,.int .i64 x.1)])
    (λx w'=>w'=w/\x.1<=zs.length/\Bs zs cR=Hu cR x.2 (zs.drop x.1)) (λx=>zs.length-x.1) (0,0) ⟨rfl,rfl,rfl,rfl,rfl,rfl,rfl,trivial⟩ ⟨rfl,XQ _,q⟩ ?_
   rintro⟨k,ahead⟩ y ⟨s,u,f⟩ ih;simp only at u f
   subst s;refine aN aA (aT aA (λh=>?_) λh=>?_)
   .have i:k<zs.length:=by simpa using h
    rw[Xfh i] at f;obtain⟨b,off,rfl,c⟩:=hr k i;rw[I1 i] at c;refine aU k aA (aW aA c aA (aT aA (λj=>?_) λj=>?_))
    .have v:=bL j;refine Xa.div Xb rfl (by omega) (Hb (by omega)) rfl (aT aA (λn=>?_) λn=>?_)
     .refine aT aA (λo=>?_) λo=>?_
      .refine aT aA (λp=>?_) λp=>?_
       .have l:¬ahead<zs[k]:=by simpa using p
        exact bI aA (bE func181 aA ⟨Xz (H9 (by rw[f,bO l];simp)).symm,rfl⟩)
       .have l:ahead<zs[k]:=by simpa using p
        exact aV aA (ih (k+1,zs[k]) _ _ ⟨rfl,i,by rw[f,bN l,show decide (zs[k]<=cR)=true from o,n,bN v];rfl⟩ (by simp only;omega) ⟨rfl,rfl,Xiu (bN l),rfl,rfl,rfl,rfl,trivial⟩)
      .exact bE func181 aA ⟨Xz (H9 (by rw[f,show decide (zs[k]<=cR)=false from o];simp)).symm,rfl⟩
     .exact bE func181 aA ⟨Xz (H9 (by rw[f,n];simp)).symm,rfl⟩
    .exact bE func181 aA ⟨Xz (H9 (by rw[f,show decide (8<=zs[k])=false from j];simp)).symm,rfl⟩
   .have r:zs.length<=k:=by have:=bM h;omega
    exact bE func181 aA ⟨Xz (XdN (by rw[f,Xfi r])).symm,rfl⟩
  .refine Xa.knowB (t:=5) rfl (bO (by omega)) (Xa.unroll Xb rfl (bI aA ?_));obtain⟨b,off,rfl,c⟩:=hr 0 d;rw[I1 d] at c;exact aU 0 aA (aW aA c aA (bE func181 aA ⟨Xz (H9 (by unfold Bs;rw[bO g];simp)).symm,rfl⟩))
 .have d:¬0<zs.length:=by have j:=bM m;omega
  exact Xa.unroll Xb rfl (aS aA (bE func181 aA ⟨Xz (H9 (by unfold Bs;rw[bO d];simp)).symm,rfl⟩))
def Lk(zs:List Int)(k:Nat):Int:=if k=0 then 0 else zs.getD (k-1) 0
theorem XfC(h:k<zs.length):Lk zs (k+1)=zs[k]:=by simp[Lk,h]
theorem Xfk{cR n:Int}{r:List Int}(h1:8<=n)(h2:n%8=0)(h3:n<=cR)(h4:ahead<n):(decide (8<=n) && (n%8 == 0) && decide (n<=cR) && decide (ahead<n) && Hu cR n r)=Hu cR n r:=by
 rw[bN h1,bN h3,bN h4,show(n%8 == 0)=true from by simpa using h2];rfl
theorem Xll(a:Option dF)(cap:Nat)(zs:List Int)(cR:Int)(w:dD)(hr:Rd .i64 w a zs)(hl:zs.length<=9223372036854775807):Xf prog 75 #[.slice a zs.length cap,.int .i64 cR] w (Grow (.int .i64 (H8 zs cR)) w):=by
 refine aR func75 ntmps75 aA (aT aA (λp=>?_) λp=>?_)
 .have z:zs.length=0:=by have:=bL p;omega
  exact bE func75 aA ⟨Xz (H9 (by unfold Bs;rw[bO (by omega)];simp)).symm,Xc.refl _ _⟩
 .have z:¬zs.length=0:=by have:=bM p;omega
  refine aT aA (λq=>?_) λq=>?_
  .have A:=bL q;exact bE func75 aA ⟨Xz (H9 (by unfold Bs;rw[bO (show ¬zs.length<=16 from by omega)];simp)).symm,Xc.refl _ _⟩
  .have A:=bM q;have v:Bs zs cR=Hu cR (Lk zs 0) (zs.drop 0):=by unfold Bs;rw[bN (by omega),bN (by omega)];simp[Lk]
   refine Xa.loop (α:=Nat) (λk=>[(0,false,.slice a zs.length cap),(1,false,.int .i64 cR),(5,false,.int .i64 k)])
    (λk w'=>Xc Xe w w'/\k<=zs.length/\Bs zs cR=Hu cR (Lk zs k) (zs.drop k)) (λk=>zs.length-k) 0 ⟨rfl,rfl,rfl,trivial⟩ ⟨Xc.refl _ _,XQ _,v⟩ ?_
   rintro k D ⟨g,E,i⟩ ih;refine aN aA (aT aA (λh=>?_) λh=>?_)
   .have f:k<zs.length:=by simpa using h
    rw[Xfh f] at i;have o:=hr.bR g;obtain⟨b,off,rfl,d⟩:=o k f;rw[I1 f] at d;refine Xa.quiet rfl Xo (by kernel_rfl) (Xk.adv Xb rfl (Xk.index Xb rfl (j:=k) (by omega) (by omega) (by first|rfl|omega|(simp;done)|(simp;omega)) rfl (Xk.load Xb rfl d rfl ?_)));refine Xk.fork Xb rfl rfl rfl (λr=>?_) (λr=>?_)
    .exact Xk.nil λm c=>aN aA (bE func75 aA ⟨Xz (H9 (by rw[i,bO (show ¬8<=zs[k] from by have:=bL r;omega)];simp)).symm,g.trans c⟩)
    .have F:=bM r;refine Xk.index Xb rfl (j:=k) (by omega) (by omega) (by first|rfl|omega|(simp;done)|(simp;omega)) rfl (Xk.load Xb rfl d rfl (Xk.div Xb rfl (by omega) (Hb (by omega)) rfl ?_));refine Xk.fork Xb rfl rfl rfl (λn=>?_) (λn=>?_)
     .exact Xk.nil λm c=>aN aA (bE func75 aA ⟨Xz (H9 (by rw[i,show(zs[k]%8 == 0)=false from by simpa using n];simp)).symm,g.trans c⟩)
     .refine Xk.index Xb rfl (j:=k) (by omega) (by omega) (by first|rfl|omega|(simp;done)|(simp;omega)) rfl (Xk.load Xb rfl d rfl ?_);refine Xk.fork Xb rfl rfl rfl (λs=>?_) (λs=>?_)
      .exact Xk.nil λm c=>aN aA (bE func75 aA ⟨Xz (H9 (by rw[i,bO (show ¬zs[k]<=cR from by have:=bL s;omega)];simp)).symm,g.trans c⟩)
      .have G:=bM s;refine Xk.fork Xb rfl rfl rfl (λt=>?_) (λt=>?_)
       .have x:=bL t;obtain⟨b',off',e',l⟩:=o (k-1) (by omega);simp only[Option.some.injEq,Addr.mk.injEq] at e';obtain⟨rfl,rfl,_⟩:=e';have B:Lk zs k=zs.getD (k-1) 0:=by unfold Lk;rw[bJ (by omega)]
        refine Xk.index Xb rfl (j:=k) (by omega) (by omega) (by first|rfl|omega|(simp;done)|(simp;omega)) rfl (Xk.load Xb rfl d rfl (Xk.arith Xb rfl (w64 (by omega)) rfl (Xk.index Xb rfl (j:=(k-1)) (by omega) (by omega) (by first|rfl|omega|(simp;done)|(simp;omega)) rfl (Xk.load Xb rfl l rfl (Xk.nil λm c=>aN aA (aT aA (λu=>?_) λu=>?_))))))
        .have C:=bL u;exact bE func75 aA ⟨Xz (H9 (by rw[i,B,bO (show ¬zs.getD (k-1) 0<zs[k] from by omega)];simp)).symm,g.trans c⟩
        .have C:=bM u;exact aV aA (ih (k+1) _ _ ⟨g.trans c,f,by rw[i,Xfk (by omega) (by simpa using n) (by omega) (by omega),XfC f]⟩ (by omega) ⟨rfl,rfl,rfl,trivial⟩)
       .have x:k=0:=by have:=bM t;omega
        subst x;exact Xk.nil λm c=>aN aA (aV aA (ih 1 _ _ ⟨g.trans c,f,by rw[i,Xfk (by omega) (by simpa using n) (by omega) (by simp[Lk];omega),XfC f]⟩ (by omega) ⟨rfl,rfl,rfl,trivial⟩))
   .have y:zs.length<=k:=by have:=bM h;omega
    exact bE func75 aA ⟨Xz (XdN (by rw[i,Xfi y])).symm,g⟩
structure Conf where
 size:Int
 bS:Int
 bT:List Int
 bV:List Int
 step:Int
 cN:Int
 cS:Int
 cH:Int
structure Y4 where
 ca:Option dF
 cc:Nat
 ka:Option dF
 kc:Nat
def Zj(c:Conf)(p:Y4):List dE:=
 [.int .i64 c.size,.int .i64 c.bS,.slice p.ca c.bT.length p.cc,.slice p.ka c.bV.length p.kc,.int .i64 c.step,.int .i64 c.cN,.int .i64 c.cS,.int .i64 c.cH]
def Nx(x:Int):Prop:=-9223372036854775808<=x/\x<=9223372036854775807
structure Yu(w:dD)(c:Conf)(p:Y4):Prop where
 bT:Rd .i64 w p.ca c.bT
 bV:Rd .i64 w p.ka c.bV
 lc:c.bT.length<=9223372036854775807
 lk:c.bV.length<=9223372036854775807
 size:Nx c.size
theorem Yu.bR{w w':dD}{c:Conf}{p:Y4}(h:Yu w c p)(hw:Xc Xe w w'):Yu w' c p:=
 ⟨h.bT.bR hw,h.bV.bR hw,h.lc,h.lk,h.size⟩
def Fd(n:Int):Bool:=decide (64<=n) && decide (n<=4096) && (n%8 == 0)
def E7(c:Conf):Int:=if Fd c.size then c.size*(c.size/8) else 0
def A5(c:Conf)(k:Int):Int:=if 0<=k/\k<c.bT.length then Ef c.size (c.bT.getD k.toNat 0) else 0
def Qy(n a b:Int):Bool:=decide (a<=n) && decide (n<=b)
def Mq(k:Int):Bool:=!Qy k 0 1024
def Zb(c:Conf):Bool:=
 Fd c.size && Qy c.bS 1 1024 && Bs c.bT c.size && (decide (c.bV.length=c.bT.length) && !c.bV.any Mq) && Qy c.step 1 65536 && Qy c.cN 1 4096 && Qy c.cS 1 1023 && Qy c.cH 1 (E7 c)
def Bw(c:Conf):Int:=if Zb c then 0 else 1
theorem Nk{n:Int}:Fd n=true↔64<=n/\n<=4096/\n%8=0:=by
 unfold Fd;simp[and_assoc]
theorem Me(n a b:Int)(w:dD):Xf prog 179 #[.int .i64 n,.int .i64 a,.int .i64 b] w (X5 (.bool (Qy n a b)) w):=by
 refine aR func179 ntmps179 aA (aT aA (λh=>?_) λh=>?_)
 .exact bE func179 aA ⟨Q0 (by unfold Qy;rw[show decide (a<=n)=true from h];rfl),rfl⟩
 .exact bE func179 aA ⟨Q0 (by unfold Qy;rw[show decide (a<=n)=false from h];rfl),rfl⟩
theorem XdT(n:Int)(w:dD):Xf prog 180 #[.int .i64 n] w (X5 (.bool (Fd n)) w):=by
 refine aR func180 ntmps180 aA (bH (Me n 64 4096 w) aA (aT aA (λh=>?_) λh=>?_))
 .have a:0<=n:=by unfold Qy at h;simp at h;omega
  exact Xa.div Xb rfl (by omega) (Hb (by omega)) rfl (bE func180 aA ⟨Q0 (by unfold Fd;rw[show(decide (64<=n) && decide (n<=4096))=true from h];rfl),rfl⟩)
 .exact bE func180 aA ⟨Q0 (by unfold Fd;rw[show(decide (64<=n) && decide (n<=4096))=false from h];rfl),rfl⟩
theorem XiK(c:Conf)(p:Y4)(w:dD):Xf prog 183 #[.agg (Zj c p).toArray] w (Grow (.int .i64 (E7 c)) w):=by
 refine aR func183 ntmps183 aA (bC aA λb i e1 f d k=>bB f aA (bH (XdT c.size i) aA (aT aA (λh=>?_) λh=>?_)))
 .have a:Fd c.size=false:=by simpa using h
  exact bE func183 aA ⟨Xz (by unfold E7;rw[a];rfl),d⟩
 .have a:Fd c.size=true:=by simpa using h
  have j:=Nk.1 a;have g:0<=c.size/8/\c.size/8<=512:=by omega
  have l:0<=c.size*(c.size/8):=ZJ (by omega) g.1;have m:=ZG j.2.1 g.2 g.1 (by omega);exact bB f aA (bB f aA (Xa.div Xb rfl (by omega) (Gm (by omega) (by omega)) rfl (aV aA (bE func183 aA ⟨Xz (by unfold E7;rw[a];rfl),d⟩))))
theorem XdR(c:Conf)(p:Y4)(k:Int)(w:dD)(hc:Yu w c p):Xf prog 188 #[.agg (Zj c p).toArray,.int .i64 k] w (Grow (.int .i64 (A5 c k)) w):=by
 have i:=hc.size;unfold Nx at i;refine aR func188 ntmps188 aA (bC aA λb r e1 f a o=>aT aA (λh=>?_) λh=>?_)
 .have m:=bL h;exact bE func188 aA ⟨Xz (by unfold A5;rw[bJ (by omega)]),a⟩
 .have m:=bM h;refine bB f aA (aT aA (λg=>?_) λg=>?_)
  .have n:=bL g;exact bE func188 aA ⟨Xz (by unfold A5;rw[bJ (by omega)]),a⟩
  .have n:=bM g;obtain⟨s,off,ea,d⟩:=(hc.bR a).bT k.toNat (by omega);obtain⟨ca,cc,ka,kc⟩:=p;simp only at ea
   subst ea;exact Xa.quiet rfl Xo (by kernel_rfl) (Xk.adv Xb rfl (Xk.cJ Xb rfl f rfl rfl (Xk.cJ Xb rfl f rfl rfl (Xk.index Xb rfl (j:=k.toNat) (by omega) (by omega) (by first|rfl|omega|(simp;done)|(simp;omega)) rfl (Xk.load Xb rfl d rfl (Xk.call Xb rfl (λw' q=>(XnW c.size (c.bT.getD k.toNat 0) w' i.2).bQ) rfl (Xk.nil λt l=>aN aA (bE func188 aA ⟨Xz (by unfold A5;rw[bK (by omega)]),a.trans l⟩))))))))
theorem XiL(k:Int)(w:dD):Xf prog 178 #[.int .i64 k] w (X5 (.bool (Mq k)) w):=by
 exact aR func178 ntmps178 aA (bH (Me k 0 1024 w) aA (bE func178 aA ⟨rfl,rfl⟩))
theorem XaD(c:Conf)(p:Y4)(w:dD)(hc:Yu w c p):Xf prog 114 #[.agg (Zj c p).toArray] w (Grow (.int .i64 (Bw c)) w):=by
 refine aR func114 ntmps114 aA (bC aA λb E e1 d f B=>?_);have i:=hc.bR f;refine Xa.quietF (q:=41) Xb Xo (by kernel_rfl) rfl rfl rfl rfl (Xk.adv Xb rfl (Xk.cJ Xb rfl d rfl rfl (Xk.call Xb rfl (λw' a=>(XdT c.size w').bQ) rfl (Xk.cJ Xb rfl d rfl rfl (Xk.call Xb rfl (λw' a=>(Me c.bS 1 1024 w').bQ) rfl (Xk.cJ Xb rfl d rfl rfl (Xk.cJ Xb rfl d rfl rfl (Xk.call Xb rfl (λw' a=>(XiG p.ca p.cc c.bT c.size w' (i.bT.bR a) hc.lc).bQ) rfl (Xk.cJ Xb rfl d rfl rfl (Xk.cJ Xb rfl d rfl rfl ?_))))))))));have fin:∀(kk:Bool),(decide (c.bV.length=c.bT.length) && !c.bV.any Mq)=kk -> 
  ([Fd c.size,Qy c.bS 1 1024,(H8 c.bT c.size == 0),kk,Qy c.step 1 65536,Qy c.cN 1 4096,Qy c.cS 1 1023,Qy c.cH 1 (E7 c)].any λy=>false == y)=!Zb c:=by
  intro kk j;unfold Zb;rw[j];have:(H8 c.bT c.size == 0)=Bs c.bT c.size:=by unfold H8;cases Bs c.bT c.size <;> rfl
  rw[this];cases Fd c.size <;> cases Qy c.bS 1 1024 <;> cases Bs c.bT c.size <;> cases kk <;> cases Qy c.step 1 65536 <;> cases Qy c.cN 1 4096 <;> cases Qy c.cS 1 1023 <;> cases Qy c.cH 1 (E7 c) <;> rfl
 refine Xk.fork Xb rfl rfl rfl (λh=>?_) (λh=>?_)
 case' refine_1=>
  refine Xk.cJ Xb rfl d rfl rfl (Xk.call Xb rfl (λw' a=>(XgE p.ka p.kc 178 c.bV [] Mq w' (i.bV.bR a) hc.lk (λx _=>XiL x w')).bQ) rfl ?_)
 all_goals
  refine Xk.cJ Xb rfl d rfl rfl (Xk.call Xb rfl (λw' a=>(Me c.step 1 65536 w').bQ) rfl (Xk.cJ Xb rfl d rfl rfl (Xk.call Xb rfl (λw' a=>(Me c.cN 1 4096 w').bQ) rfl (Xk.cJ Xb rfl d rfl rfl (Xk.call Xb rfl (λw' a=>(Me c.cS 1 1023 w').bQ) rfl (Xk.cJ Xb rfl d rfl rfl (Xk.loads Xb rfl d rfl rfl (Xk.call Xb rfl (λw' a=>XiK c p w') rfl (Xk.call Xb rfl (λw' a=>(Me c.cH 1 (E7 c) w').bQ) rfl (Xk.build Xb rfl rfl (Xk.nil λm F n C o=>aN aA (bF o aA λr s t D=>Xa.slice Xb rfl (l:=0) (h:=8) (by first|rfl|omega|simp[Dw]) (by first|rfl|omega|simp[Ds]) (by omega) (by omega) rfl ?_))))))))))));have u:Dd r (some ⟨m,0,none⟩) [Fd c.size,Qy c.bS 1 1024,(H8 c.bT c.size == 0),(decide (c.bV.length=c.bT.length) && !c.bV.any Mq),Qy c.step 1 65536,Qy c.cN 1 4096,Qy c.cS 1 1023,Qy c.cH 1 (E7 c)]:=by
   have v:(c.bV.length:Int)=c.bT.length↔c.bV.length=c.bT.length:=by omega
   refine Dd.of s ?_;simp only[v,beq_iff_eq,beq_eq_false_iff_ne,ne_eq] at h;simp[h]
  have z:=(f.trans n).bU t (λk j A=>by have:=f.size;subst A;omega);refine bH (Xm3 (some ⟨m,0,none⟩) 8 _ false r u (by simp)) aA (aT aA (λg=>?_) λg=>?_)
  .exact bE func114 aA ⟨Xz (by rw[fin _ rfl] at g;unfold Bw;rw[bJ (by simpa using g)]),z⟩
  .exact bE func114 aA ⟨Xz (by rw[fin _ rfl] at g;unfold Bw;rw[bK (by simpa using g)]),z⟩
variable {c:Conf}
def Bf(w:dD)(b:Nat)(total dA:Int):Prop:=w.heap[b]?=some (.cells #[.int .i64 total,.int .i64 dA] 240 (0,0))/\0<=dA/\dA<=total/\total<=4611686018427387904
def Xw(total n:Int):Int:=if n<1 then total else total+min n (4611686018427387904-total)
theorem XdJ{total n:Int}(h:0<=total/\total<=4611686018427387904):total<=Xw total n/\Xw total n<=4611686018427387904:=by
 unfold Xw;split <;> omega
abbrev Jf(b:Option Nat):dE:=.pointer (b.map λb=>⟨b,0,none⟩)
theorem Xki(w:dD):Xf prog 116 #[] w (λv w'=>v=.pointer (some ⟨w.heap.size,0,none⟩)/\Bf w' w.heap.size 0 0/\Xc Xe w w'/\w'.heap.size=w.heap.size+1):=by
 refine aR func116 ntmps116 aA (aO aA (bC aA λb f e1 d a c=>?_));subst e1;exact bE func116 aA ⟨rfl,⟨d,by omega,by omega,by omega⟩,a,c⟩
theorem Xkj(b:Nat)(total dA:Int)(w:dD)(h:Bf w b total dA):Xf prog 239 #[.pointer (some ⟨b,0,none⟩)] w (X5 (.int .i64 (4611686018427387904-total)) w):=by
 obtain⟨a,c,d,f⟩:=h;exact aR func239 ntmps239 aA (bB a aA (aV aA (bE func239 aA ⟨rfl,rfl⟩)))
theorem Bf.bR{total dA:Int}(h:Bf w b total dA)(hc:Xc Xe w w'):Bf w' b total dA:=⟨hc.bP h.1,h.2⟩
theorem Xbb(b:Nat)(total dA n:Int)(w:dD)(h:Bf w b total dA):Xf prog 175 #[.pointer (some ⟨b,0,none⟩),.int .i64 n] w (λ_ w'=>Bf w' b (Xw total n) dA/\Xc (λx=>x=b) w w'):=by
 have g:=h;obtain⟨i,m,q,o⟩:=h;refine aR func175 ntmps175 aA (aT aA (λf=>?_) λf=>?_)
 .exact bE func175 aA ⟨by unfold Xw;rw[bK (bL f)];exact g,Xc.refl _ _⟩
 .have j:=bM f;refine aQ 9 Xe (by kernel_rfl) aA λa=>aE a i aA (aH a (λw' k=>Xkj b total dA w' ((show Bf w b total dA from g).bR k)) aA (aC a aA (aF a aA λr c=>bF (c.bP i) aA λs d l p=>?_)));have e:total+(if 4611686018427387904-total<n then 4611686018427387904-total else n)=Xw total n:=by unfold Xw;rw[bJ j];split <;> omega
  rw[e] at d;have:=XdJ (n:=n) ⟨by omega,o⟩;exact bE func175 aA ⟨⟨d,m,by omega,by omega⟩,(Xc.refl _ w).trans ((c.mono (λ_ _ h=>h.elim)).trans l)⟩
theorem Xbc(n:Int)(w:dD):Xf prog 175 #[.pointer none,.int .i64 n] w (λ_ w'=>w=w'):=by
 exact aR func175 ntmps175 aA (bE func175 aA rfl)
structure RmM where
 shs:List Sm
 pl:PlM
 lg:List (Nat×List Nat)
 tot:Int
def Zq(M:RmM)(k:Int):Option Sm:=if 0<=k then M.shs[k.toNat]? else none
def Zf(p:PlM):Nat:=Xu p.own
def I0(p q:PlM):Int:=3+(max (Zf q:Int) (Zf p)-min (Zf q:Int) (Zf p))*4
def Gn(M:RmM)(k:Nat)(x:Sm)(q:PlM):RmM:={M with shs:=M.shs.set k x,pl:=q}
def J5(M:RmM)(k:Nat)(x:Sm)(q:PlM):RmM:={M with shs:=M.shs.set k x,pl:=q,tot:=Xw M.tot (I0 M.pl q)}
def Y6(l:List (Nat×List Nat)):List Nat:=l.flatMap λe=>e.1::e.2
def Eo(l:List (Nat×List Nat)):Nat:=(l.map λe=>e.2.length+1).sum
def Ji(l:List Sm):Nat:=(l.map λx=>x.pg.length).sum
structure RmM.Ok(c:Conf)(M:RmM):Prop where
 n:M.shs.length=c.bT.length
 cI:∀(k:Nat) (x:Sm),M.shs[k]?=some x->x.cL=(k:Int)/\(x.cF:Int)=A5 c (k:Int)
 own:(M.pl.own.length:Int)=c.bS
 lg:∀m∈Y6 M.lg,m<M.pl.own.length/\M.pl.own.getD m 0=(M.shs.length:Int)
 nd:(Y6 M.lg).Nodup
 sum:Zf M.pl=Ji M.shs+Eo M.lg
 tot:0<=M.tot/\M.tot<=4611686018427387904
def Hl(p q:PlM)(c:Int):Prop:=q=p\/(∃n r,p.free=n::r/\q=p.take c)\/∃n,n<p.own.length/\p.own.getD n 0=c/\q=p.give n
theorem Xcw{p:PlM}{r:List Nat}(h:p.free=n::r)(c:Int):(p.take c).own=p.own.set n c/\(p.take c).free=r:=by unfold PlM.take;rw[h];exact⟨rfl,rfl⟩
theorem Hl.own{p q:PlM}{c:Int}(h:Hl p q c)(hg:p.Good):q.own.length=p.own.length/\∀m d,d≠c->0<=d->p.own.getD m 0=d->m<p.own.length->q.own.getD m 0=d:=by
 rcases h with rfl|⟨n,r,hf,rfl⟩|⟨n,i,b,rfl⟩
 .exact⟨rfl,λm d _ _ h _=>h⟩
 .rw[(Xcw hf c).1];refine⟨XG,λm d a f hm g=>?_⟩;rw[E5];obtain⟨j,k⟩:=hg.free n (by rw[hf];simp);rw[bJ (λ⟨e,_⟩=>by subst e;omega)];exact hm
 .refine⟨XG,λm d a f hm g=>?_⟩;show(p.own.set n (-1)).getD m 0=d
  rw[E5,bJ (λ⟨e,_⟩=>by subst e;exact a (hm.symm.trans b))];exact hm
theorem Hl.of{p q:PlM}{c:Int}(h:Hl p q c)(hg:p.Good){y:Sm}(hy:y.Of p)(hc:y.cL≠c)(h0:0<=y.cL):y.Of q:=λe b=>by
 obtain⟨a,d⟩:=hy e b;obtain⟨f,g⟩:=h.own hg;exact⟨by rw[f];exact a,g _ _ hc h0 d a⟩
theorem Xgw:∀{l:List Sm} {k:Nat} {x x':Sm},l[k]?=some x->Ji (l.set k x')+x.pg.length=Ji l+x'.pg.length
 |a::r,0,x,x',h=>by
  cases h
  unfold Ji;simp only[List.set_cons_zero,ZK,QF];omega
 |a::r,k+1,x,x',h=>by
  have:=Xgw (l:=r) (k:=k) (x:=x) (x':=x') h;unfold Ji at *;simp only[List.set_cons_succ,ZK,QF];omega
theorem RmM.Ok.set{c:Conf}{M:RmM}(h:M.Ok c)(hg:M.pl.Good){k:Nat}{x x':Sm}{q:PlM}(hx:M.shs[k]?=some x)(hE:Hl M.pl q x.cL)(hc:x'.cL=x.cL)(hb:x'.cF=x.cF)(hs:Zf q+x.pg.length=Zf M.pl+x'.pg.length):(Gn M k x' q).Ok c:=by
 have b:=(XC.1 hx).1;obtain⟨e1,e2⟩:=h.cI k x hx;obtain⟨d,f⟩:=hE.own hg;refine⟨by show(M.shs.set k x').length=_;rw[XG];exact h.n,λj y a=>?_,by show(q.own.length:Int)=_;rw[d];exact h.own,λm hm=>?_,h.nd,?_,h.tot⟩
 .replace a:(M.shs.set k x')[j]?=some y:=a;by_cases e:k=j
  .subst e;rw[XH b] at a;cases a;exact⟨hc.trans e1,by rw[hb];exact e2⟩
  .rw[XJ e] at a;exact h.cI j y a
 .obtain⟨g,i⟩:=h.lg m hm;refine⟨by show m<q.own.length;omega,?_⟩;show q.own.getD m 0=((M.shs.set k x').length:Int)
  rw[XG];exact f _ _ (by rw[e1];omega) (by omega) i g
 .have:=Xgw (x':=x') hx;have:=h.sum;show Zf q=Ji (M.shs.set k x')+Eo M.lg
  omega
theorem N9{t n:Int}(h:0<=t/\t<=4611686018427387904):0<=Xw t n/\Xw t n<=4611686018427387904:=by have:=XdJ (n:=n) h;omega
theorem Xcv(x:Sm)(pl:PlM)(who:Int)(hg:pl.Good)(hcl:0<=x.cL):Hl pl (B2 x pl who) x.cL/\(Ad x pl who).cL=x.cL/\(Ad x pl who).cF=x.cF/\Zf (B2 x pl who)+x.pg.length=Zf pl+(Ad x pl who).pg.length:=by
 rcases Ni x pl who with⟨_,a,b⟩|⟨_,_,⟨n,r,_,a,b,_⟩|⟨n,r,_,hf,a,b,_⟩⟩
 .rw[a,b];exact⟨.inl rfl,rfl,rfl,rfl⟩
 .rw[a,b];exact⟨.inl rfl,rfl,rfl,by show _=_+(Zr _ _ _).length;rw[Vl]⟩
 .rw[a,b];refine⟨.inr (.inl ⟨n,r,hf,rfl⟩),rfl,rfl,?_⟩;show _=_+(Zr (x.pg++_) _ _).length
  rw[Vl,ZC];obtain⟨c,d⟩:=hg.free n (by rw[hf];simp);have:=Ik (v:=x.cL) c;rw[bK d,bJ (by omega)] at this;unfold Zf;rw[(Xcw hf _).1];simp only[XO,List.length_nil];omega
theorem XaR(x:Sm)(pl:PlM)(n i:Int)(hok:x.Ok)(hof:x.Of pl):Hl pl (Bm x pl n i) x.cL/\(Af x n i).cL=x.cL/\(Af x n i).cF=x.cF/\Zf (Bm x pl n i)+x.pg.length=Zf pl+(Af x n i).pg.length:=by
 unfold Af Bm;split
 .rename_i p f
  obtain⟨k,g,hm⟩:=Iq f;rw[g];by_cases c:Q1 p i=0
  .simp only[c,if_true,true_and,XB];unfold Sm.giveAt;simp only
   by_cases a:Xu (Yj p i)=0
   .rw[bK a,bK a];obtain⟨b,d⟩:=hof _ hm;simp only at b d
    have h:=hok.cL;have:=Ik (v:=-1) b;rw[bJ (by omega),bK rfl] at this;have j:=(Vm hok.nodup hm).2;refine⟨.inr (.inr ⟨k,b,d,rfl⟩),rfl,rfl,?_⟩;show Xu (pl.own.set k (-1))+_=Xu pl.own+(Qv x.pg k).length
    omega
   .rw[bJ a,bJ a];exact⟨.inl rfl,rfl,rfl,by show _=_+(Zr _ _ _).length;rw[Vl]⟩
  .simp only[c,if_false,false_and];refine⟨.inl rfl,?_,?_,?_⟩ <;> first|trivial|rfl
 .exact⟨.inl rfl,rfl,rfl,rfl⟩
theorem Xbn(x:Sm)(pl:PlM)(n i who:Int):Hl pl pl x.cL/\(Ba x n i who).cL=x.cL/\(Ba x n i who).cF=x.cF/\Zf pl+x.pg.length=Zf pl+(Ba x n i who).pg.length:=by
 unfold Ba;split
 .exact⟨.inl rfl,rfl,rfl,by show _=_+(Zr _ _ _).length;rw[Vl]⟩
 .exact⟨.inl rfl,rfl,rfl,rfl⟩
variable {M:RmM}
def Z9(n q:Int):Int:=if Qp n q=0\/Qp n q=9223372036854775807 then 0 else Qp n q+1
def Xm(zs:List Int)(n:Int):Int:=if n<1 then -1 else idx (λs=>decide (n<=s)) zs
theorem Xe1{n q:Int}(hn:n<=9223372036854775807):0<=Qp n q/\Qp n q<=9223372036854775807:=by
 unfold Qp;split
 .omega
 .have a:0<=(n-1)/q:=YM (by omega) (by omega);have b:(n-1)/q<=n-1:=QI _ (by omega);omega
theorem Xau(n q:Int)(w:dD)(hn:n<=9223372036854775807):Xf prog 170 #[.int .i64 n,.int .i64 q] w (X5 (.int .i64 (Qp n q)) w):=by
 exact aR func170 ntmps170 aA (bH (XnV n q w hn) aA (bE func170 aA ⟨rfl,rfl⟩))
theorem XdI(n q:Int)(w:dD)(hn:n<=9223372036854775807):Xf prog 192 #[.int .i64 n,.int .i64 q] w (X5 (.int .i64 (Z9 n q)) w):=by
 have f:=Xe1 (q:=q) hn;refine aR func192 ntmps192 aA (bH (Xau n q w hn) aA (aT aA (λa=>?_) λa=>?_))
 .have e:Z9 n q=0:=by unfold Z9;rw[bK (.inl (bL a))]
  exact bE func192 aA ⟨Xz e.symm,rfl⟩
 .have c:=bM a;refine aT aA (λb=>?_) λb=>?_
  .have e:Z9 n q=0:=by unfold Z9;rw[bK (.inr (bL b))]
   exact bE func192 aA ⟨Xz e.symm,rfl⟩
  .have d:=bM b;have e:Z9 n q=Qp n q+1:=by unfold Z9;rw[bJ (by omega)]
   exact aV aA (bE func192 aA ⟨Xz e.symm,rfl⟩)
abbrev XjF(w:dD)(b:Nat)(n:Int):Prop:=w.heap[b]?=some (.cells ([.int .i64 n]:List dE).toArray 3 (0,0))
theorem XiH(x n:Int)(b:Nat)(w:dD)(h:XjF w b n):Xf prog 191 #[.int .i64 x,.pointer (some ⟨b,0,none⟩)] w (X5 (.bool (decide (n<=x))) w):=by
 exact aR func191 ntmps191 aA (bB h aA (bE func191 aA ⟨rfl,rfl⟩))
theorem Ob(a:Option dF)(cap:Nat)(zs:List Int)(n:Int)(w:dD)(hr:Rd .i64 w a zs)(hl:zs.length<=9223372036854775807):Xf prog 121 #[.slice a zs.length cap,.int .i64 n] w (Grow (.int .i64 (Xm zs n)) w):=by
 refine aR func121 ntmps121 aA (bC aA λb d e1 f c g=>bB f aA (aT aA (λh=>?_) λh=>?_))
 .have e:Xm zs n=-1:=by unfold Xm;rw[bK (bL h)]
  exact bE func121 aA ⟨Xz e.symm,c⟩
 .have e:Xm zs n=idx (λs=>decide (n<=s)) zs:=by unfold Xm;rw[bJ (bM h)]
  exact bH (XgF a cap 191 zs [.pointer (some ⟨b,0,none⟩)] (λs=>decide (n<=s)) d (hr.bR c) hl (λx _=>XiH x n b d f)) aA (bE func121 aA ⟨Xz e.symm,c⟩)
def Gp(M:RmM)(k who:Int):Int:=match Zq M k with|none=>1|some x=>Qk x M.pl who
def Ex(M:RmM)(k who:Int):Int:=match Zq M k with|none=>0|some x=>B1 x M.pl who
def Ew(M:RmM)(k who:Int):Int:=match Zq M k with|none=>0|some x=>B0 x M.pl who
def Qj(M:RmM)(k who:Int):RmM:=match Zq M k with|none=>M|some x=>if Qk x M.pl who=0 then J5 M k.toNat (Ad x M.pl who) (B2 x M.pl who) else M
def J4(M:RmM)(k n i:Int):Int:=match Zq M k with|none=>1|some x=>Cb x n i
def Q2(M:RmM)(k n i:Int):RmM:=match Zq M k with|none=>M|some x=>if Cb x n i=0 then J5 M k.toNat (Af x n i) (Bm x M.pl n i) else M
def Pf(M:RmM)(k n i who:Int):Int:=match Zq M k with|none=>1|some x=>H0 x n i who
def Qu(M:RmM)(k n i who:Int):RmM:=match Zq M k with|none=>M|some x=>Gn M k.toNat (Ba x n i who) M.pl
def Zd(M:RmM)(k n i:Int):Int:=match Zq M k with|none=>-1|some x=>Qx x n i
def Qq(M:RmM)(k:Int):Nat:=match Zq M k with|none=>0|some x=>x.cG.length
def Jg(M:RmM)(k:Int):Bool:=match Zq M k with|none=>false|some x=>Nh x
def Nb(M:RmM)(k:Int):List dE:=match Zq M k with|none=>Kt 0 0 0 0|some x=>H1 x
def Di(c:Conf)(M:RmM)(size:Int):Int:=if Xm c.bT size=-1 then Z9 size c.size else 1-min (Qq M (Xm c.bT size):Int) 1
def Qg(c:Conf)(M:RmM)(size:Int):Int:=if size<1\/c.cH<size then 3 else if (M.pl.free.length:Int)<Di c M size then 5 else 0
structure PlcM where
 cL:Int
 cR:Int
 idx:Int
 bS:List Int
def X4(l:List Nat):List Int:=l.map λ(n:Nat)=>(n:Int)
def Az(p:PlM)(who:Int):Nat->PlM
 |0=>p
 |i+1=>Il (Az p who i) who
def Ay(p:PlM)(l:List Nat):PlM:=l.foldl (λq (n:Nat)=>Hx q (n:Int)) p
def Ev(M:RmM)(many:Nat):RmM:={M with pl:=Az M.pl M.shs.length many,lg:=M.lg++[(M.pl.free.getD 0 0,(M.pl.free.take many).tail)],tot:=Xw M.tot (many*4+(many-1))}
def C7(c:Conf)(M:RmM)(who size:Int):Int:=if who<0 then 1 else if Qg c M size≠0 then Qg c M size else if Xm c.bT size=-1 then 0 else Gp M (Xm c.bT size) who
def Bz(c:Conf)(M:RmM)(who size:Int):PlcM:=if who<0 then ⟨0,0,0,[]⟩ else if Qg c M size≠0 then ⟨0,0,0,[]⟩ else if Xm c.bT size=-1 then ⟨-1,(M.pl.free.getD 0 0:Nat),0,X4 (M.pl.free.take (Z9 size c.size).toNat).tail⟩ else ⟨Xm c.bT size,Ex M (Xm c.bT size) who,Ew M (Xm c.bT size) who,[]⟩
def Av(c:Conf)(M:RmM)(who size:Int):RmM:=if who<0 then M else if Qg c M size≠0 then M else if Xm c.bT size=-1 then Ev M (Z9 size c.size).toNat else Qj M (Xm c.bT size) who
def Dh:List (Nat×List Nat)->Int->Option (List Nat)
 |[],_=>none
 |(m,r)::t,n=>if (m:Int)=n then some r else Dh t n
def Dv(l:List (Nat×List Nat))(n:Nat):List (Nat×List Nat):=l.filter λe=>e.1 != n
def Ip(M:RmM)(n:Nat)(r:List Nat):RmM:={M with pl:=Ay M.pl (n::r),lg:=Dv M.lg n,tot:=Xw M.tot ((r.length+1:Int)*4+r.length)}
def Hz(M:RmM)(q:PlcM):Int:=if q.cL≠-1 then J4 M q.cL q.cR q.idx else match Dh M.lg q.cR with|none=>1|some r=>if X4 r=q.bS then 0 else 1
def Qd(M:RmM)(q:PlcM):RmM:=if q.cL≠-1 then Q2 M q.cL q.cR q.idx else match Dh M.lg q.cR with|none=>M|some r=>if X4 r=q.bS then Ip M q.cR.toNat r else M
theorem Xbz{p:PlM}(hw:0<=who){r:List Nat}(hf:p.free=n::r):Fa p who=0/\Jb p who=n/\Il p who=p.take who:=by
 have e:Fa p who=0:=by unfold Fa;rw[bJ (by omega),hf];rfl
 refine⟨e,?_,?_⟩
 .unfold Jb;rw[bK e,hf];rfl
 .unfold Il;rw[bK e]
theorem Mz{p:PlM}{who:Int}(hw:0<=who)(hg:p.Good):∀i,i<=p.free.length->(Az p who i).Good/\(Az p who i).free=p.free.drop i/\(Az p who i).own.length=p.own.length/\Zf (Az p who i)=Zf p+i/\∀m,m<p.own.length->(Az p who i).own.getD m 0=if m∈p.free.take i then who else p.own.getD m 0
 |0,_=>⟨hg,by simp[Az],rfl,rfl,λm _=>by simp[Az]⟩
 |i+1,o=>by
  obtain⟨c,f,g,q,j⟩:=Mz hw hg i (by omega);have a:i<p.free.length:=by omega
  have hf:(Az p who i).free=p.free[i]::p.free.drop (i+1):=by rw[f];exact ZV a
  obtain⟨_,_,e⟩:=Xbz hw hf;have e1:Az p who (i+1)=(Az p who i).take who:=e;obtain⟨b,k⟩:=Xcw hf who;obtain⟨d,l⟩:=c.free p.free[i] (by rw[hf];exact ZP);have n:=Ik (v:=who) d;rw[bK l,bJ (by omega)] at n;refine⟨e1▸c.take hw hf,by rw[e1];exact k,by rw[e1,b,XG];exact g,?_,λm hm=>?_⟩
  .unfold Zf at *;rw[e1,b];omega
  .rw[e1,b,E5,j m hm];have ht:p.free.take (i+1)=p.free.take i++[p.free[i]]:=by rw[ZH,XD a];rfl
   rw[ht];by_cases e2:p.free[i]=m
   .subst e2;rw[bK ⟨rfl,d⟩,bK (XS.2 (.inr (YH.2 rfl)))]
   .rw[bJ (λh=>e2 h.1)];by_cases e3:m∈p.free.take i
    .rw[bK e3,bK (XS.2 (.inl e3))]
    .rw[bJ e3,bJ (by simp only[XS,YH];rintro(h|h);exact e3 h;exact e2 h.symm)]
theorem Xfz{p:PlM}(hw:0<=who)(hg:p.Good)(hi:i<=p.free.length)(hc:0<=x.cL)(hx:x.Of p):x.Of (Az p who i):=λe a=>by
 obtain⟨b,c⟩:=hx e a;obtain⟨_,_,f,_,d⟩:=Mz hw hg i hi;refine⟨by omega,?_⟩;rw[d _ b,bJ (λhm=>by have:=(hg.free _ (ZA hm)).2;omega)];exact c
theorem Xfx{p:PlM}(hn:n<p.own.length)(ho:p.own.getD n 0≠-1):Fs p n=0/\Hx p n=p.give n:=by
 have a:Yb p.own n=p.own.getD n 0:=by
  unfold Yb;rw[bK (by omega)];simp only[XB];rw[XA,XA,XD hn];rfl
 have e:Fs p n=0:=by unfold Fs;rw[bJ (by omega),a,bJ ho]
 exact⟨e,by unfold Hx;rw[bK e];rfl⟩
theorem O6:∀{l:List Nat} {p:PlM},p.Good->l.Nodup->(∀m∈l,m<p.own.length/\p.own.getD m 0≠-1)->(Ay p l).Good/\(Ay p l).own.length=p.own.length/\Zf (Ay p l)+l.length=Zf p/\∀m,(Ay p l).own.getD m 0=if m∈l then -1 else p.own.getD m 0
 |[],p,f,_,_=>⟨f,rfl,rfl,λm=>by simp[Ay]⟩
 |n::r,p,f,j,h=>by
  obtain⟨i,k⟩:=XU.1 j;obtain⟨c,g⟩:=h n (by simp);obtain⟨_,e⟩:=Xfx c g;have e1:Ay p (n::r)=Ay (p.give n) r:=by unfold Ay;rw[List.foldl_cons,e]
  have o:=Ik (v:=-1) c;rw[bJ g,bK rfl] at o;have d:(p.give n).own=p.own.set n (-1):=rfl;obtain⟨q,s,t,u⟩:=O6 (p:=p.give n) (l:=r) (f.give c g) k (λm hm=>by
   obtain⟨a,b⟩:=h m (by simp[hm]);rw[d,XG,E5,bJ (λ⟨e,_⟩=>i (e▸hm))];exact⟨a,b⟩)
  rw[e1];refine⟨q,by rw[s,d,XG],by unfold Zf at *;rw[d] at t;simp only[XO];omega,λm=>?_⟩;rw[u,d,E5];by_cases e2:n=m
  .subst e2;rw[bJ i,bK ⟨rfl,c⟩,bK (by simp)]
  .by_cases e3:m∈r
   .rw[bK e3,bK (YC _ e3)]
   .rw[bJ e3,bJ (λh=>e2 h.1),bJ (λh=>(ZB.1 h).elim (λh=>e2 h.symm) e3)]
theorem Xfy{p:PlM}(hg:p.Good){l:List Nat}(hn:l.Nodup)(hl:∀m∈l,m<p.own.length/\p.own.getD m 0≠-1)(hx:x.Of p)(hd:∀m∈l,p.own.getD m 0≠x.cL):x.Of (Ay p l):=λe b=>by
 obtain⟨d,a⟩:=hx e b;obtain⟨_,f,_,c⟩:=O6 hg hn hl;refine⟨by omega,?_⟩;rw[c,bJ (λhm=>hd _ hm a)];exact a
theorem Xa3(l l':List (Nat×List Nat)):Eo (l++l')=Eo l+Eo l':=by unfold Eo;rw[XL,List.sum_append]
theorem Kp(l l':List (Nat×List Nat)):Y6 (l++l')=Y6 l++Y6 l':=by unfold Y6;rw[List.flatMap_append]
theorem RmM.Ok.big(h:M.Ok c)(hg:M.pl.Good){many:Nat}(h1:1<=many)(hm:many<=M.pl.free.length):(Ev M many).Ok c:=by
 obtain⟨q,s,k,l,n⟩:=Mz (who:=((M.shs.length:Nat):Int)) (by omega) hg many hm;have i:M.pl.free.getD 0 0::(M.pl.free.take many).tail=M.pl.free.take many:=by
  cases hf:M.pl.free with
  |nil=>rw[hf] at hm;simp at hm;omega
  |cons a r=>
   obtain⟨m,rfl⟩:∃m,many=m+1:=⟨many-1,by omega⟩;rfl
 have eA:Y6 (Ev M many).lg=Y6 M.lg++M.pl.free.take many:=by
  show Y6 (M.lg++_)=_
  rw[Kp];unfold Y6;rw[ZY,List.flatMap_nil,QP,i]
 have d:∀m∈M.pl.free.take many,m∈M.pl.free:=λm hm=>ZA hm;refine⟨h.n,h.cI,by show((Az _ _ _).own.length:Int)=_;rw[k];exact h.own,λm f=>?_,?_,?_,N9 h.tot⟩
 .rw[eA] at f;have j:m<M.pl.own.length:=by
   rcases XS.1 f with g|g
   .exact(h.lg m g).1
   .exact(hg.free m (d m g)).1
  refine⟨by show m<(Az _ _ _).own.length;omega,?_⟩;show(Az _ _ _).own.getD m 0=((M.shs.length:Nat):Int)
  rw[n m j];rcases XS.1 f with g|g
  .by_cases e:m∈M.pl.free.take many
   .rw[bK e]
   .rw[bJ e];exact(h.lg m g).2
  .rw[bK g]
 .rw[eA];refine XR.2 ⟨h.nd,hg.nodup.sublist (List.take_sublist _ _),λa o b p e=>?_⟩;subst e;have:=(h.lg a o).2;have:=(hg.free a (d a p)).2;omega
 .show Zf (Az _ _ _)=Ji M.shs+Eo (M.lg++_)
  rw[l,Xa3,h.sum];have:((M.pl.free.take many).tail.length+1)=many:=by rw[QT,XX];omega
  unfold Eo;simp only[ZK,List.map_nil,QF,List.sum_nil];omega
theorem Ow:∀{l:List (Nat×List Nat)} {n:Int} {r:List Nat},Dh l n=some r -> ∃m:Nat,n=m/\(m,r)∈l
 |(m,q)::t,n,r,h=>by
  unfold Dh at h;by_cases e:(m:Int)=n
  .rw[bK e] at h;cases h;exact⟨m,e.symm,by simp⟩
  .rw[bJ e] at h;obtain⟨m',e',hm⟩:=Ow h;exact⟨m',e',by simp[hm]⟩
theorem T8:∀{l:List (Nat×List Nat)} {n:Int},Dh l n=none -> ∀e∈l,(e.1:Int)≠n
 |[],_,_,_,he=>by cases he
 |(m,q)::r,n,h,e,he=>by
  unfold Dh at h;by_cases hm:(m:Int)=n
  .rw[bK hm] at h;cases h
  .rw[bJ hm] at h;rcases ZB.1 he with rfl|he
   .exact hm
   .exact T8 h e he
theorem I7{l:List (Nat×List Nat)}{e:Nat×List Nat}(h:e∈l)(hm:m∈e.1::e.2):m∈Y6 l:=List.mem_flatMap.2 ⟨e,h,hm⟩
theorem XeN:∀{l:List (Nat×List Nat)} {n:Nat},n∉Y6 l->Dv l n=l:=λ{l n} h=>by
 unfold Dv;refine YN.2 λe a=>?_;simp only[bne_iff_ne,ne_eq];exact λe'=>h (I7 a (by rw[e'];simp))
theorem Ov:∀{l:List (Nat×List Nat)} {n:Nat} {r:List Nat},(Y6 l).Nodup->(n,r)∈l -> ∃a b,l=a++(n,r)::b/\Dv l n=a++b:=λ{l n r} c hm=>by
 obtain⟨a,b,rfl⟩:=List.append_of_mem hm;refine⟨a,b,rfl,?_⟩;have e:Y6 (a++(n,r)::b)=Y6 a++((n::r)++Y6 b):=by rw[Kp];rfl
 rw[e] at c;obtain⟨k,d,f⟩:=XR.1 c;obtain⟨m,o,g⟩:=XR.1 d;have i:n∉Y6 a:=λh=>f n h n (by simp) rfl;have j:n∉Y6 b:=λh=>g n (by simp) n h rfl;have:Dv (a++(n,r)::b) n=Dv a n++Dv b n:=by unfold Dv;rw[QO,ZI];simp
 rw[this,XeN i,XeN j]
theorem RmM.Ok.cE(h:M.Ok c)(hg:M.pl.Good){r:List Nat}(hm:(n,r)∈M.lg):(Ip M n r).Ok c/\(Ay M.pl (n::r)).Good:=by
 obtain⟨a,b,e1,e2⟩:=Ov h.nd hm;have eA:Y6 M.lg=Y6 a++((n::r)++Y6 b):=by rw[e1,Kp];rfl
 have i:=h.nd;rw[eA] at i;obtain⟨q,s,j⟩:=XR.1 i;obtain⟨t,u,v⟩:=XR.1 s;obtain⟨w,z,A,B⟩:=O6 (l:=n::r) hg t (λm d=>by
  obtain⟨k,o⟩:=h.lg m (I7 hm d);exact⟨k,by omega⟩)
 have eB:Y6 (Dv M.lg n)=Y6 a++Y6 b:=by rw[e2,Kp]
 refine⟨⟨h.n,h.cI,by show((Ay _ _).own.length:Int)=_;rw[z];exact h.own,λm d=>?_,?_,?_,N9 h.tot⟩,w⟩
 .replace d:m∈Y6 (Dv M.lg n):=d;rw[eB] at d;have f:m∈Y6 M.lg:=by
   rw[eA];rcases XS.1 d with g|g <;> simp[g]
  obtain⟨k,o⟩:=h.lg m f;refine⟨by show m<(Ay _ _).own.length;omega,?_⟩;show(Ay _ _).own.getD m 0=((M.shs.length:Nat):Int)
  rw[B,bJ]
  .exact o
  .intro p;rcases XS.1 d with g|g
   .exact j m g m (XS.2 (.inl p)) rfl
   .exact v m p m g rfl
 .show(Y6 (Dv M.lg n)).Nodup
  rw[eB];exact XR.2 ⟨q,u,λx C y D=>j x C y (XS.2 (.inr D))⟩
 .show Zf (Ay _ _)=Ji M.shs+Eo (Dv M.lg n)
  have E:=h.sum;rw[e1,Xa3] at E;rw[e2,Xa3];have:Eo ((n,r)::b)=(r.length+1)+Eo b:=by unfold Eo;rw[ZK,QF]
  simp only[XO] at A;omega
variable {pd pd2:Option (Nat×PlcM)}
structure Rm where
 rb:Nat
 c:Conf
 p:Y4
 mo:Option Nat
 P:Pl
 sb:Nat
 sc:Nat
 lm:Nat
 S:Nat->Sh
 dA:Int
 X:Nat->Prop
abbrev Cl(R:Rm):dE:=.pointer (some ⟨R.rb,0,none⟩)
def rmL(R:Rm)(n:Nat):List dE:=Zj R.c R.p++[Jf R.mo,Fb R.P,.slice (some ⟨R.sb,0,none⟩) n R.sc,.map (some R.lm)]
def A3(F:Nat->Prop)(w:dD)(a:Option dF)(l:List Int):Prop:=Rd .i64 w a l/\(0<l.length->Xj F a)
theorem A3.bR{F:Nat->Prop}{w w':dD}(h:A3 F w a l)(hc:Xc S w w')(hS:∀z,S z->F z):A3 F w' a l:=by
 refine⟨?_,h.2⟩;by_cases b:0<l.length
 .exact h.1.bW ((h.2 b).mono hS) hc
 .have:l=[]:=YG (by omega);subst this;exact Rd.nil _ _ _
theorem Rd.block{k:IntKind}{w:dD}(h:Rd k w a l)(hl:0<l.length){off:Nat}{s}(e:a=some ⟨b,off,s⟩):b<w.heap.size:=by
 obtain⟨b',off',e',c⟩:=h 0 hl;rw[e] at e';cases e';exact World.block_lt_of_cell? w _ c
theorem A3.bQ{F:Nat->Prop}{w:dD}(h:A3 F w a l)(hF:∀z,F' z->F z\/w.heap.size<=z):A3 F' w a l:=
 ⟨h.1,λc b off s e hz=>by
  rcases hF b hz with hz|hz
  .exact h.2 c b off s e hz
  .have:=h.1.block c e;omega⟩
theorem Gz{w w':dD}{x:Option Nat}(hc:Xc S w w')(h:kd w b=some x)(hS:¬S b):kd w' b=some x:=by
 unfold kd at *;rw[hc.block b (Dg h) hS];exact h
def L3(F:Nat->Prop)(w:dD)(a:Option dF):Prop:=∀b off s,a=some ⟨b,off,s⟩->kd w b=some (some 3)/\¬F b
theorem L3.bR{F:Nat->Prop}{w w':dD}(h:L3 F w a)(hc:Xc S w w')(hS:∀b,kd w b=some (some 3)->S b->F b):L3 F w' a:=λb off s e=>
 ⟨Gz hc (h b off s e).1 (λc=>(h b off s e).2 (hS b (h b off s e).1 c)),(h b off s e).2⟩
def Eh(F:Nat->Prop)(w:dD)(lm:Nat)(lg:List (Nat×List Nat)):Prop:=∃m,Yx w lm m/\(Bj m).Nodup/\(∀e∈lg,∃a cap,Bq m e.1=some (.slice a e.2.length cap)/\Rd .i64 w a (X4 e.2)/\L3 F w a)/\∀k:Int,(∀e∈lg,(e.1:Int)≠k)->Bq m k=none
theorem Eh.bR{F S:Nat->Prop}{w w':dD}{lm:Nat}{lg:List (Nat×List Nat)}(h:Eh F w lm lg)(hc:Xc S w w')(hS:∀b,kd w b=some (some 3)->S b->F b)(hl:¬S lm):Eh F w' lm lg:=by
 obtain⟨m,d,f,g,i⟩:=h;exact⟨m,d.bR hc hl,f,λe j=>by obtain⟨a,cap,k,l,c⟩:=g e j;exact⟨a,cap,k,l.bW (λb off s e n=>(c b off s e).2 (hS b (c b off s e).1 n)) hc,c.bR hc hS⟩,i⟩
theorem Eh.bQ{F:Nat->Prop}{w:dD}(h:Eh F w lm lg)(hF:∀z,F' z->F z\/w.heap.size<=z):Eh F' w lm lg:=by
 obtain⟨m,d,f,g,i⟩:=h;exact⟨m,d,f,λe j=>by
  obtain⟨a,cap,k,l,c⟩:=g e j;exact⟨a,cap,k,l,λb off s e=>⟨(c b off s e).1,λn=>(hF b n).elim (c b off s e).2 (λh=>by have:=Dg (c b off s e).1;omega)⟩⟩,i⟩
def S0(F:Nat->Prop)(w:dD)(R:Rm)(shs:List Sm)(pl:PlM):Prop:=∃G:Nat->Nat->Pg,
 (∀k x,shs[k]?=some x->(R.S k).P=R.P/\Qs w (R.S k) (G k) x pl/\∀z,Qh (R.S k) (G k) x.pg z->F z/\z≠R.lm)/\
 ∀j k x y,j≠k->shs[j]?=some x->shs[k]?=some y -> ∀z,Qh (R.S j) (G j) x.pg z -> ¬Qh (R.S k) (G k) y.pg z
def Rm.FX(R:Rm)(F:Nat->Prop):Nat->Prop:=λz=>F z\/R.X z
structure Zn(F:Nat->Prop)(w:dD)(R:Rm)(M:RmM):Prop where
 ok:M.Ok R.c
 obj:w.heap[R.rb]?=some (.cells (rmL R M.shs.length).toArray 221 (0,0))
 cL:A3 F w R.p.ca R.c.bT
 kee:A3 F w R.p.ka R.c.bV
 may:Zb R.c=true
 met:∀b,R.mo=some b->F b/\Bf w b M.tot R.dA
 sl:∀k,k<M.shs.length->w.cell? ⟨R.sb,k,none⟩=some (Cm (R.S k))
 pool:Z2 w R.P M.pl
 pf:∀z,Ax R.P z->F z
 sh:S0 F w R M.shs M.pl
 lg:Eh (R.FX F) w R.lm M.lg
 lf:F R.lm
 rf:¬F R.rb
 sf:¬F R.sb
 low:∀z,F z->z<w.heap.size
 tab:Bi w
 tf:¬F 1
 xl:∀z,R.X z->z<w.heap.size/\¬F z
def H5(F:Nat->Prop)(w w':dD)(R:Rm)(M:RmM):Prop:=∃F',Zn F' w' R M/\(∀z,F' z->F z\/w.heap.size<=z)/\Xc F w w'
theorem H5.of{F:Nat->Prop}{w w':dD}{R:Rm}{M:RmM}(h:Zn F w' R M)(hc:Xc F w w'):H5 F w w' R M:=⟨F,h,λ_ h=>.inl h,hc⟩
theorem H5.trans{F:Nat->Prop}{w:dD}{R:Rm}{M:RmM}{F1:Nat->Prop}(hF:∀z,F1 z->F z\/w.heap.size<=z)(hc:Xc F w w1)(h:H5 F1 w1 w2 R M):H5 F w w2 R M:=by
 obtain⟨f,a,b,c⟩:=h;refine⟨f,a,λz d=>?_,hc.bU c λz d g=>?_⟩
 .rcases b z d with h|h
  .exact hF z h
  .have:=hc.size;exact .inr (by omega)
 .rcases hF z g with h|h
  .exact h
  .omega
section
variable {F:Nat->Prop}{w w':dD}{R:Rm}{M:RmM}
theorem S0.bQ{shs:List Sm}{pl:PlM}(h:S0 F w R shs pl)(hc:Xc Xe w w'):S0 F w' R shs pl:=by
 obtain⟨G,a,b⟩:=h;exact⟨G,λk x c=>by obtain⟨d,f,g⟩:=a k x c;exact⟨d,f.bQ hc,g⟩,b⟩
theorem Zn.bQ(h:Zn F w R M)(hc:Xc Xe w w'):Zn F w' R M:=
 ⟨h.ok,hc.bP h.obj,h.cL.bR hc (λ_ h=>h.elim),h.kee.bR hc (λ_ h=>h.elim),h.may,λb c=>by obtain⟨d,f⟩:=h.met b c;exact⟨d,f.bR hc⟩,
  λk g=>hc.cell (h.sl k g) id,h.pool.bQ hc,h.pf,h.sh.bQ hc,h.lg.bR hc (λ_ _ h=>h.elim) id,h.lf,h.rf,h.sf,λz a=>by have:=h.low z a;have:=hc.size;omega,h.tab.bQ hc,h.tf,λz a=>⟨by have:=(h.xl z a).1;have:=hc.size;omega,(h.xl z a).2⟩⟩
theorem Mp{t l:Int}(h:Bf w b t l):kd w b=some (some 240):=X1 h.1
theorem Ig{F:Nat->Prop}(h:Eh F w lm lg):kd w lm=some none:=by
 obtain⟨m,hm,_⟩:=h;exact Ro hm
theorem Zn.cT(h:Zn F w R M)(hb:R.mo=some b){t:Int}(hm:Bf w' b t R.dA)(hc:Xc (λz=>z=b) w w'):Zn F w' R {M with tot:=t}:=by
 obtain⟨m,o⟩:=h.met b hb;have kb:=Mp o;have f:∀z,z=b->F z:=λz e=>e▸m;have kp:=h.pool.kds;have i:=Xs kp.1 kb (by decide);have j:=Xs kp.2 kb (by decide);have ht:1≠b:=λe=>h.tf (e▸m);refine⟨{h.ok with tot:=by have:=hm.2;show 0<=t/\t<=4611686018427387904;omega},hc.heap h.obj (λe=>h.rf (f _ e)),h.cL.bR hc f,h.kee.bR hc f,h.may,λb' l=>?_,λk p=>hc.cell (h.sl k p) (λe=>h.sf (f _ e)),h.pool.bR hc i j,h.pf,?_,h.lg.bR hc (λz _ h=>.inl (f z h)) (Xs (Ig h.lg) kb (by simp)),h.lf,h.rf,h.sf,λz g=>by have:=h.low z g;have:=hc.size;omega,h.tab.bR hc ht,h.tf,λz g=>⟨by have:=(h.xl z g).1;have:=hc.size;omega,(h.xl z g).2⟩⟩
 .rw[hb] at l;cases l;exact⟨m,hm⟩
 .obtain⟨G,a,d⟩:=h.sh;refine⟨G,λk x q=>?_,d⟩;obtain⟨n,c,r⟩:=a k x q;have ap:=c.at'.apart kb (by decide);exact⟨n,⟨c.ok,c.pos,c.of,c.at'.bR hc (λz e=>e▸ap.1) (λz e=>e▸ap.2) ht,c.pool.bR hc (by rw[n];exact i) (by rw[n];exact j)⟩,r⟩
theorem Qs.beside{S S':Sh}{G':Nat->Pg}{pl:PlM}(h:Qs w S G x pl)(h':Qs w S' G' x' pl)(hd:∀z,Qh S' G' x'.pg z -> ¬Qh S G x.pg z)(hc:Xc (Bk S' G' x'.pg) w w')(hP:S.P=S'.P)(hp:Z2 w' S'.P pl')(hof:x.Of pl'):Qs w' S G x pl':=by
 have k':=h'.at'.kds;obtain⟨d,f⟩:=h'.pool.kds;have kx:∀{z:Nat},Bk S' G' x'.pg z->kd w z≠some (some 352)/\kd w z≠some (some 348):=λ{z} a=>by
  rcases a with(e|e|(e|e)|⟨e,b,e1|e1⟩)|e|e
  .subst e;rw[k'.sb];exact⟨by decide,by decide⟩
  .subst e;rw[k'.sm];exact⟨by simp,by simp⟩
  .subst e;rw[k'.ab];exact⟨by decide,by decide⟩
  .subst e;rw[k'.nb];exact⟨by decide,by decide⟩
  .subst e1;rw[(h'.at'.bS e b).kds.bb];exact⟨by decide,by decide⟩
  .subst e1;rw[(h'.at'.bS e b).kds.mb];exact⟨by simp,by simp⟩
  .subst e;rw[d];exact⟨by decide,by decide⟩
  .subst e;rw[f];exact⟨by decide,by decide⟩
 have out:∀z,Qh S G x.pg z -> ¬Bk S' G' x'.pg z:=λz a hz'=>by
  rcases hz' with hz'|hz'
  .exact hd z hz' a
  .have c:=hz';have n:=h.at'.notpool (hP▸h'.pool);rw[hP] at n;rcases c with e|e
   .subst e;exact n.1 a
   .subst e;exact n.2 a
 refine⟨h.ok,h.pos,hof,h.at'.bR hc (λz a=>⟨λe=>out z (.inl e) a,λe=>out z (.inr (.inl e)) a,λe=>(kx a).1 (e▸h.at'.kds.lb),λe=>out z (.inr (.inr (.inl e))) a⟩) (λz a e b=>⟨λe'=>(kx a).2 (e'▸(h.at'.bS e b).kds.p),λe'=>out z (.inr (.inr (.inr ⟨e,b,e'⟩))) a⟩) ?_,hP▸hp⟩;rintro(e|e)
 .rcases e with e|e|e|⟨e,b,e1⟩
  .exact Lu h'.at'.tab (λv e2=>by rw[Ys h'.at'.obj] at e2;simp[Ng] at e2) e
  .obtain⟨m,hm,_⟩:=h'.at'.map;exact Xcs hm h'.at'.tab e
  .exact Xha h'.at'.ring h'.at'.tab e
  .exact Xct (h'.at'.bS e b) e1
 .exact Xcu h'.at'.tab h'.pool e
theorem Zn.shelf(h:Zn F w R M)(hx:M.shs[k]?=some x):∃Gk,(R.S k).P=R.P/\Qs w (R.S k) Gk x M.pl/\(∀z,Bk (R.S k) Gk x.pg z->F z)/\∀w' G' x' pl',Qs w' (R.S k) G' x' pl'->Xc (Bk (R.S k) Gk x.pg) w w' ->
 (∀z,Qh (R.S k) G' x'.pg z->Qh (R.S k) Gk x.pg z\/w.heap.size<=z)->Hl M.pl pl' x.cL->x'.cL=x.cL->x'.cF=x.cF->Zf pl'+x.pg.length=Zf M.pl+x'.pg.length->H5 F w w' R (Gn M k x' pl'):=by
 obtain⟨G,a,d⟩:=h.sh;obtain⟨s,t,hf⟩:=a k x hx;have p:=(XC.1 hx).1;have f:∀z,Bk (R.S k) (G k) x.pg z->F z:=λz hz=>by
  rcases hz with hz|hz
  .exact(hf z hz).1
  .exact h.pf z (s▸hz)
 refine⟨G k,s,t,f,λw' G' x' pl' o m v B C D O=>?_⟩
 let F':Nat->Prop:=λz=>F z\/(w.heap.size<=z/\Qh (R.S k) G' x'.pg z)
 have q:∀z,F' z->F z\/w.heap.size<=z:=λz hz=>hz.imp id (·.1);have E:¬Bk (R.S k) (G k) x.pg R.lm:=by
  rintro(hz|hz)
  .exact(hf _ hz).2 rfl
  .have kl:=Ig h.lg;have kp:=t.pool.kds;rcases hz with e|e
   .exact Xs kl kp.1 (by simp) e
   .exact Xs kl kp.2 (by simp) e
 have N:=h.low _ h.lf;have n:∀(b:Nat),b<w.heap.size -> ¬F b -> ¬F' b:=λb H P hz=>by
  rcases hz with hz|⟨hz,_⟩
  .exact P hz
  .omega
 refine⟨F',⟨h.ok.set h.pool.cV hx B C D O,?_,(h.cL.bQ q).bR m (λz hz=>.inl (f z hz)),(h.kee.bQ q).bR m (λz hz=>.inl (f z hz)),h.may,λb H=>?_,λj A=>?_,s▸o.pool,λz hz=>.inl (h.pf z hz),⟨λj=>if j=k then G' else G j,λj y c=>?_,λi j y y' r c l z hz=>?_⟩,(h.lg.bQ (F':=R.FX F') (λz hz=>hz.elim (λh=>(q z h).imp .inl id) (λh=>.inl (.inr h)))).bR m (λz _ hz=>.inl (.inl (f z hz))) E,.inl h.lf,n _ (Xg h.obj) h.rf,n _ (World.block_lt_of_cell? w _ (h.sl k p)) h.sf,λz hz=>?_,o.at'.tab,n _ (World.block_lt_of_cell? w _ (h.tab 0 (by decide))) h.tf,λz hz=>⟨by have:=(h.xl z hz).1;have:=m.size;omega,n z (h.xl z hz).1 (h.xl z hz).2⟩⟩,q,m.mono λz _ hz=>f z hz⟩
 .show w'.heap[R.rb]?=some (.cells (rmL R (M.shs.set k x').length).toArray _ _)
  rw[XG];exact m.heap h.obj (λhz=>h.rf (f _ hz))
 .obtain⟨I,hm⟩:=h.met b H;have kb:=Mp hm;have kp:=t.pool.kds;have ap:=t.at'.apart kb (by decide);refine⟨.inl I,m.heap hm.1 ?_,hm.2⟩;rintro((e|e|e|⟨e,Q,e1⟩)|e|e)
  .exact ap.1.1 e
  .exact ap.1.2.1 e
  .exact ap.1.2.2.2 e
  .exact(ap.2 e Q).2 e1
  .exact Xs kb kp.1 (by decide) e
  .exact Xs kb kp.2 (by decide) e
 .exact m.cell (h.sl j (by replace A:j<(M.shs.set k x').length:=A;rw[XG] at A;exact A)) (λhz=>h.sf (f _ hz))
 .replace c:(M.shs.set k x')[j]?=some y:=c;by_cases e:j=k
  .subst e;rw[XH p] at c;cases c;simp only[if_true];refine⟨s,o,λz hz=>?_⟩;rcases v z hz with g|g
   .exact⟨.inl (hf z g).1,(hf z g).2⟩
   .exact⟨.inr ⟨g,hz⟩,by omega⟩
  .rw[XJ (Ne.symm e)] at c;simp only[bJ e];obtain⟨J,K,L⟩:=a j y c;obtain⟨T,_⟩:=h.ok.cI j y c;obtain⟨U,_⟩:=h.ok.cI k x hx;exact⟨J,K.beside t (λz o v=>d j k y x e c hx z v o) m (J.trans s.symm) o.pool (B.of h.pool.cV K.of (by omega) (by omega)),λz hz=>⟨.inl (L z hz).1,(L z hz).2⟩⟩
 .replace c:(M.shs.set k x')[i]?=some y:=c;replace l:(M.shs.set k x')[j]?=some y':=l;have old:∀{i:Nat} {y:Sm},i≠k->M.shs[i]?=some y -> ∀{z:Nat},Qh (R.S i) (G i) y.pg z -> ¬Qh (R.S k) G' x'.pg z:=λ{i y} S c {z} hz u=>by
   rcases v z u with g|g
   .exact d i k y x S c hx z hz g
   .have:=h.low z ((a i y c).2.2 z hz).1;omega
  by_cases e:i=k
  .subst e;rw[XH p] at c;cases c;rw[XJ r] at l;simp only[if_true] at hz;simp only[bJ (Ne.symm r)];exact λu=>old (Ne.symm r) l u hz
  .rw[XJ (Ne.symm e)] at c;simp only[bJ e] at hz;by_cases e':j=k
   .subst e';rw[XH p] at l;cases l;simp only[if_true];exact old e c hz
   .rw[XJ (Ne.symm e')] at l;simp only[bJ e'];exact d i j y y' r c l z hz
 .rcases hz with hz|⟨_,hz⟩
  .have:=h.low z hz;have:=m.size;omega
  .exact o.foot_lt z (.inl hz)
theorem Qs.swap{S:Sh}{pl:PlM}(h:Qs w S G x pl)(hlm:kd w lm=some none)(hnl:¬Qh S G x.pg lm)(hc:Xc (λz=>Ax S.P z\/z=lm) w w')(hp:Z2 w' S.P pl')(hof:x.Of pl')(ht:1≠lm):Qs w' S G x pl':=by
 obtain⟨f,g⟩:=h.pool.kds;have c:=h.at'.apart f (by decide);have d:=h.at'.apart g (by decide);refine⟨h.ok,h.pos,hof,h.at'.bR hc (λz b=>?_) (λz b e a=>?_) ?_,hp⟩
 .rcases b with(e|e)|e
  .exact e▸c.1
  .exact e▸d.1
  .subst e;exact⟨λe=>hnl (.inl e),λe=>hnl (.inr (.inl e)),Xs hlm h.at'.kds.lb (by simp),λe=>hnl (.inr (.inr (.inl e)))⟩
 .rcases b with(e1|e1)|e1
  .exact e1▸c.2 e a
  .exact e1▸d.2 e a
  .subst e1;exact⟨Xs hlm (h.at'.bS e a).kds.p (by simp),λe'=>hnl (.inr (.inr (.inr ⟨e,a,e'⟩)))⟩
 .rintro(e|e)
  .exact Xcu h.at'.tab h.pool e
  .exact ht e
theorem Zn.swap(h:Zn F w R M){pl':PlM}{lg':List (Nat×List Nat)}(hok:RmM.Ok R.c {M with pl:=pl',lg:=lg'})(hc:Xc (λz=>Ax R.P z\/z=R.lm) w w')(hp:Z2 w' R.P pl')(hl:Eh (R.FX F) w' R.lm lg')(hof:∀(k:Nat) (x:Sm),M.shs[k]?=some x->x.Of M.pl->x.Of pl'):Zn F w' R {M with pl:=pl',lg:=lg'}:=by
 have f:∀z,(Ax R.P z\/z=R.lm)->F z:=λz c=>c.elim (h.pf z) (λe=>e▸h.lf);have kl:=Ig h.lg;have kp:=h.pool.kds;refine⟨hok,hc.heap h.obj (λc=>h.rf (f _ c)),h.cL.bR hc f,h.kee.bR hc f,h.may,λb m=>?_,λk n=>hc.cell (h.sl k n) (λc=>h.sf (f _ c)),hp,h.pf,?_,hl,h.lf,h.rf,h.sf,λz c=>by have:=h.low z c;have:=hc.size;omega,h.tab.bR hc (λc=>h.tf (f _ c)),h.tf,λz c=>⟨by have:=(h.xl z c).1;have:=hc.size;omega,(h.xl z c).2⟩⟩
 .obtain⟨g,hm⟩:=h.met b m;have kb:=Mp hm;refine⟨g,hc.heap hm.1 ?_,hm.2⟩;rintro((e|e)|e)
  .exact Xs kb kp.1 (by decide) e
  .exact Xs kb kp.2 (by decide) e
  .exact Xs kb kl (by simp) e
 .obtain⟨G,a,d⟩:=h.sh;refine⟨G,λk x i=>?_,d⟩;obtain⟨g,j,l⟩:=a k x i;exact⟨g,j.swap kl (λc=>(l _ c).2 rfl) (by rw[g];exact hc) (by rw[g];exact hp) (hof k x i j.of) (λe=>h.tf (e▸h.lf)),l⟩
theorem Zn.note{F0:Nat->Prop}{M0:RmM}(h0:Zn F0 w0 R M0)(h:Zn F w R M){eb:Nat}(hk:kd w eb=some (some t))(hnew:w0.heap.size<=eb)(hF:¬F eb)(hc:Xc (λz=>z=eb) w w')(ht:t≠240/\t≠291/\t≠337/\t≠3/\t≠314/\t≠352/\t≠357/\t≠359/\t≠348/\t≠375):Zn F w' R M:=by
 have d:∀{t':Nat},t≠t'->some (some t)≠some (some t'):=λh e=>h (Option.some.inj (Option.some.inj e));have n:0<M0.shs.length:=by
  have hm:=h0.may;unfold Zb at hm;simp only[XK,decide_eq_true_eq] at hm;have:=Xaz hm.1.1.1.1.1.2;have:=h0.ok.n;omega
 have o:R.rb≠eb:=by have:=Xg h0.obj;omega
 have p:R.sb≠eb:=by have:=World.block_lt_of_cell? w0 _ (h0.sl 0 n);simp only at this;omega
 have m:1≠eb:=by have:=World.block_lt_of_cell? w0 _ (h0.tab 0 (by decide));simp only at this;omega
 have j:∀{a:Option dF} {l:List Int},A3 F0 w0 a l->A3 F w a l->A3 F w' a l:=λ{a l} y g=>by
  refine⟨?_,g.2⟩;by_cases A:0<l.length
  .exact g.1.bW (λb off s e q=>by have:=y.1.block A e;omega) hc
  .have:l=[]:=YG (by omega);subst this;exact Rd.nil _ _ _
 have kp:=h.pool.kds;have r:=Xs kp.1 hk (Ne.symm (d ht.2.1));have u:=Xs kp.2 hk (Ne.symm (d ht.2.2.1));refine⟨h.ok,hc.heap h.obj o,j h0.cL h.cL,j h0.kee h.kee,h.may,λb q=>?_,λk v=>hc.cell (h.sl k v) p,h.pool.bR hc r u,h.pf,?_,h.lg.bR hc (λz c e=>absurd (c.symm.trans (e▸hk)) (Ne.symm (d ht.2.2.2.1))) (Xs (Ig h.lg) hk (by simp)),h.lf,h.rf,h.sf,λz c=>by have:=h.low z c;have:=hc.size;omega,h.tab.bR hc m,h.tf,λz c=>⟨by have:=(h.xl z c).1;have:=hc.size;omega,(h.xl z c).2⟩⟩
 .obtain⟨f,hm⟩:=h.met b q;exact⟨f,hc.heap hm.1 (λe=>hF (e▸f)),hm.2⟩
 .obtain⟨G,a,e⟩:=h.sh;refine⟨G,λk x B=>?_,e⟩;obtain⟨f,i,C⟩:=a k x B;have ap:=i.at'.apart hk ht.2.2.2.2;exact⟨f,⟨i.ok,i.pos,i.of,i.at'.bR hc (λz e=>e▸ap.1) (λz e=>e▸ap.2) m,i.pool.bR hc (by rw[f];exact r) (by rw[f];exact u)⟩,C⟩
theorem Vc(h:Zn F w R M)(n:Int):Xf prog 175 #[Jf R.mo,.int .i64 n] w (λ_ w'=>Zn F w' R {M with tot:=Xw M.tot n}/\Xc F w w'):=by
 cases hm:R.mo with
 |none=>
  refine(Xbc n w).mono λ_ w' e=>?_;subst e;exact⟨{h with ok:={h.ok with tot:=(N9 (n:=n) h.ok.tot)},met:=λb a=>by rw[hm] at a;cases a},Xc.refl _ _⟩
 |some b=>
  obtain⟨d,a⟩:=h.met b hm;exact(Xbb b M.tot R.dA n w a).mono λ_ w' ⟨f,c⟩=>⟨h.cT hm f c,c.mono λz _ e=>e▸d⟩
end
variable {R:Rm}
def Gq(R:Rm)(M:RmM)(k:Int):dE:=match Zq M k with|none=>.pointer none|some _=>Cm (R.S k.toNat)
theorem Hc{k:Int}(h:Zq M k=some x):∃n:Nat,k=n/\n<M.shs.length/\M.shs[n]?=some x:=by
 unfold Zq at h;by_cases a:0<=k
 .rw[bK a] at h;exact⟨k.toNat,by omega,(XC.1 h).1,h⟩
 .rw[bJ a] at h;cases h
theorem Sg{k:Int}(h:k<0\/(M.shs.length:Int)<=k):Zq M k=none:=by
 unfold Zq;by_cases a:0<=k
 .rw[bK a,ZF (by omega)]
 .rw[bJ a]
theorem Pe(h:k<M.shs.length):Zq M k=some M.shs[k]:=by
 unfold Zq;rw[bK (by omega)];exact XD h
theorem Pj(h:Zn F w R M)(k:Int):Xf prog 237 #[Cl R,.int .i64 k] w (X5 (Gq R M k) w):=by
 have g:=h.ok.n;refine aR func237 ntmps237 aA (aT aA (λa=>?_) λa=>?_)
 .have e:Gq R M k=.pointer none:=by unfold Gq;rw[Sg (.inl (bL a))]
  rw[e];exact aN aA (bE func237 aA ⟨rfl,rfl⟩)
 .have d:=bM a;refine bB h.obj aA (aT aA (λb=>?_) λb=>?_)
  .have e:Gq R M k=.pointer none:=by unfold Gq;rw[Sg (.inr (bL b))]
   rw[e];exact bE func237 aA ⟨rfl,rfl⟩
  .have f:=bM b;obtain⟨n,rfl⟩:=XE (show 0<=k by omega);have c:n<M.shs.length:=by omega
   have e:Gq R M n=Cm (R.S n):=by unfold Gq;rw[Pe c];rfl
   rw[e];exact bB h.obj aA (aU n aA (aW aA (show w.cell? ⟨R.sb,0+n,none⟩=_ from by rw[XT];exact h.sl n c) aA (bE func237 aA ⟨rfl,rfl⟩)))
theorem Si(h:Zn F w R M):Xf prog 101 #[Cl R] w (X5 (.int .i64 (Zf M.pl:Nat)) w):=by
 exact aR func101 ntmps101 aA (bB h.obj aA (bH (Xk0 R.P M.pl w h.pool) aA (bE func101 aA ⟨rfl,rfl⟩)))
theorem Xmr(h:Zn F w R M)(k n i:Int):Xf prog 199 #[Cl R,.int .i64 k,.int .i64 n,.int .i64 i] w (X5 (.int .i64 (Zd M k n i)) w):=by
 refine aR func199 ntmps199 aA (bH (Pj h k) aA ?_);unfold Gq Zd;cases a:Zq M k with
 |none=>
  exact bH (XmP n i w) aA (bE func199 aA ⟨rfl,rfl⟩)
 |some x=>
  obtain⟨j,rfl,d,b⟩:=Hc a;obtain⟨G,_,c,_⟩:=h.shelf b;exact bH (XmO (R.S j) G x M.pl n i w c) aA (bE func199 aA ⟨rfl,rfl⟩)
theorem Xmu(h:Zn F w R M)(k r:Int)(fk:Nat)(hf:Xf prog fk #[Gq R M k] w (X5 (.int .i64 r) w)):Xf prog 235 #[Cl R,.int .i64 k,.func (.func fk) #[] #[]] w (X5 (.int .i64 r) w):=by
 exact aR func235 ntmps235 aA (bH (Pj h k) aA (bH hf aA (bE func235 aA ⟨rfl,rfl⟩)))
theorem Va(h:Zn F w R M)(k:Int):Xf prog 173 #[Cl R,.int .i64 k] w (X5 (.int .i64 (Qq M k:Nat)) w):=by
 have hf:Xf prog 236 #[Gq R M k] w (X5 (.int .i64 (Qq M k:Nat)) w):=by
  unfold Gq Qq;cases a:Zq M k with
  |none=>exact Xgz w
  |some x=>
   obtain⟨j,rfl,d,b⟩:=Hc a;obtain⟨G,_,c,_⟩:=h.shelf b;exact Xgy (R.S j) G x M.pl w c
 exact aR func173 ntmps173 aA (bH (Xmu h k (Qq M k:Nat) 236 hf) aA (bE func173 aA ⟨rfl,rfl⟩))
theorem Xmq(h:Zn F w R M)(k n i who:Int):Xf prog 174 #[Cl R,.int .i64 k,.int .i64 n,.int .i64 i,.int .i64 who] w
 (λv w'=>v=.int .i64 (Pf M k n i who)/\H5 F w w' R (Qu M k n i who)):=by
 refine aR func174 ntmps174 aA (bH (Pj h k) aA ?_);unfold Gq Pf Qu;cases d:Zq M k with
 |none=>
  exact bH (XmN n i who w) aA (bE func174 aA ⟨rfl,.of h (Xc.refl _ _)⟩)
 |some x=>
  obtain⟨j,rfl,p,f⟩:=Hc d;obtain⟨G,_,g,_,a⟩:=h.shelf f;refine aP aA (XmM (R.S j) G x M.pl n i who w g) ?_;rintro _ l ⟨rfl,m,b,c⟩;refine aN aA ?_;obtain⟨e1,e2,e3,e4⟩:=Xbn x M.pl n i who;exact bE func174 aA ⟨rfl,a l G (Ba x n i who) M.pl m b (λz o=>.inl (c z o)) e1 e2 e3 e4⟩
theorem Xmt(h:Zn F w R M)(k:Int):Xf prog 198 #[Cl R,.int .i64 k] w (Grow (.tuple #[.agg (Nb M k).toArray,.bool (Jg M k)]) w):=by
 refine aR func198 ntmps198 aA (bC aA λb m e1 n g B=>?_);have o:=h.bQ g;refine bH (Pj o k) aA ?_;unfold Gq Nb Jg;cases r:Zq M k with
 |none=>
  exact bG (XmR m) aA λs f=>bF (f.bP n) aA λt i l p=>aK func198 i aA ⟨rfl,(g.trans f).bU l (λz u e=>by subst e1;omega)⟩
 |some x=>
  obtain⟨j,rfl,C,y⟩:=Hc r;obtain⟨G,_,A,_⟩:=o.shelf y;obtain⟨pa,pb,pc,pd,ep⟩:∃a b c d,H1 x=Kt a b c d:=by
   unfold H1;split
   .exact⟨_,_,_,_,rfl⟩
   .exact⟨_,_,_,_,rfl⟩
  have q:=XmQ (R.S j) G x M.pl m A;rw[ep] at q;show Xa _ _ (Gc (λv w'=>v=.tuple #[.agg (H1 x).toArray,.bool (Nh x)]/\_)) _ _ _ _ _
  rw[ep];exact bG q aA λs f=>bF (f.bP n) aA λt i l p=>aK func198 i aA ⟨rfl,(g.trans f).bU l (λz u e=>by subst e1;omega)⟩
abbrev XiV(w:dD)(b:Nat)(e:Int):Prop:=w.heap[b]?=some (.cells ([.int .i64 e]:List dE).toArray 53 (0,0))
theorem Oq{p:PlM}(h:p.Good):Zf p<=1024:=by have:=O5 p.own;have:=h.len;unfold Zf;omega
theorem Vb(h:Zn F w R M)(held:Nat)(b:Nat)(E:Int)(hb:XiV w b E)(hh:held<=1024):Hk prog 251 #[Cl R,.int .i64 (held:Int),.pointer (some ⟨b,0,none⟩)] w
 (λ_ w'=>Zn F w' R (if E=0 then {M with tot:=Xw M.tot (3+(max (Zf M.pl:Int) held-min (Zf M.pl:Int) held)*4)} else M)/\Xc F w w'):=by
 refine Hk.enter func251 rfl ntmps251 rfl rfl ?_;have g:=Oq h.pool.cV;refine aN aA (bB hb aA (aT aA (λc=>?_) λc=>?_))
 .have a:E≠0:=by simpa using c
  rw[bJ a];exact bE func251 aA ⟨h,Xc.refl _ _⟩
 .have a:E=0:=by simpa using c
  rw[bK a];have e1:(if (held:Int)>Zf M.pl then (held:Int) else Zf M.pl)=max (Zf M.pl:Int) held:=by split <;> omega
  have e2:(if (held:Int)<Zf M.pl then (held:Int) else Zf M.pl)=min (Zf M.pl:Int) held:=by split <;> omega
  refine bH (Si h) aA (bH (Si h) aA (aV aA ?_));rw[e1,e2];refine bB h.obj aA (aV aA (aV aA (aP aA (Vc h (3+(max (Zf M.pl:Int) held-min (Zf M.pl:Int) held)*4)) ?_)));rintro _ i ⟨f,d⟩;exact aN aA (bE func251 aA ⟨f,d⟩)
theorem Xb4(h:M.shs[k]?=some x):Gn M k x M.pl=M:=by
 have:M.shs.set k x=M.shs:=by rw[<-((XC.1 h).2)];exact List.set_getElem_self ((XC.1 h).1)
 show RmM.mk (M.shs.set k x) M.pl M.lg M.tot=M
 rw[this]
theorem Vd{F2:Nat->Prop}{w3 w4:dD}{M2:RmM}(hc01:Xc Xe w w1)(hF2:∀z,F2 z->F z\/w1.heap.size<=z)(hc13:Xc F w w3)(h4:Zn F2 w4 R M2)(hc34:Xc F2 w3 w4):H5 F w w4 R M2:=by
 have c:=hc01.size;refine⟨F2,h4,λz a=>(hF2 z a).imp id (λh=>by omega),hc13.bU hc34 λz a b=>?_⟩;rcases hF2 z b with h|h
 .exact h
 .omega
theorem Xgl(h:Zn F w R M)(k who:Int):Xf prog 200 #[Cl R,.int .i64 k,.int .i64 who] w
 (λv w'=>v=.tuple #[.int .i64 (Ex M k who),.int .i64 (Ew M k who),.int .i64 (Gp M k who)]/\H5 F w w' R (Qj M k who)):=by
 have p:=Oq h.pool.cV;refine aR func200 ntmps200 aA (bC aA λb D e1 m a a0=>?_);have n:=h.bQ a;have f:¬F b:=λd=>by have:=h.low b d;omega
 refine bH (Si n) aA (Xa.defer rfl rfl (aN aA (bH (Pj n k) aA ?_)));unfold Gq Ex Ew Gp Qj;cases O:Zq M k with
 |none=>
  refine bH (XmT who D) aA (bF m aA λE c q a1=>?_);have g:=Vb (h.note n (X1 m) (by omega) f q (by decide)) (Zf M.pl) b 1 c p;refine Xa.retD Xb rfl func200 rfl (Ot (args:=[Cl R,.int .i64 (Zf M.pl:Nat),.pointer (some ⟨b,0,none⟩)]) (captured:=[]) g.fn) (g.mono λ_ P ⟨Q,r⟩=>?_);exact⟨_,.tmp rfl (.tmp rfl (.one rfl rfl rfl (Ys (r.heap c f)) .nil)),rfl,Vd a (λz h=>.inl h) (a.gr.sn q) Q r⟩
 |some x=>
  obtain⟨j,rfl,hj,H⟩:=Hc O;obtain⟨G,_,I,B,J⟩:=n.shelf H;refine aP aA (XmS (R.S j) G x M.pl who D I) ?_;rintro _ E ⟨rfl,G',K,s,L⟩;refine aN aA ?_;obtain⟨e2,e3,e4,e5⟩:=Xcv x M.pl who h.pool.cV I.ok.cL;obtain⟨S,T,t,C⟩:=J E G' (Ad x M.pl who) (B2 x M.pl who) K s L e2 e3 e4 e5;have i:¬S b:=λd=>(t b d).elim f (λh=>by have:=Xg m;omega);have N:¬Bk (R.S j) G x.pg b:=λd=>f (B b d);have c:=s.heap m N;refine bF c aA λP u y a2=>?_;have g:=Vb (h.note T (X1 c) (by omega) i y (by decide)) (Zf M.pl) b (Qk x M.pl who) u p;refine Xa.retD Xb rfl func200 rfl (Ot (args:=[Cl R,.int .i64 (Zf M.pl:Nat),.pointer (some ⟨b,0,none⟩)]) (captured:=[]) g.fn) (g.mono λ_ w4 ⟨U,A⟩=>?_);refine⟨_,.tmp rfl (.tmp rfl (.one rfl rfl rfl (Ys (A.heap u i)) .nil)),rfl,?_⟩;have l:=Vd a t ((a.gr.trans C).sn y) U A;simp only[XB];by_cases o:Qk x M.pl who=0
  .rw[bK o] at l⊢;exact l
  .rw[bJ o] at l⊢;have V:Ad x M.pl who=x:=by unfold Ad;rw[bJ o]
   have W:B2 x M.pl who=M.pl:=by unfold B2;rw[bJ o]
   rw[V,W,Xb4 H] at l;exact l
theorem XmH{pl:PlM}{n i:Int}(h:Cb x n i≠0):Af x n i=x/\Bm x pl n i=pl:=by
 unfold Cb at h;unfold Af Bm;cases a:Zg x.pg n with
 |none=>exact⟨rfl,rfl⟩
 |some p=>
  rw[a] at h;simp only at h⊢
  rw[bJ h,bJ (λe=>h e.1)];exact⟨rfl,rfl⟩
theorem Xgk(h:Zn F w R M)(k n i:Int):Xf prog 204 #[Cl R,.int .i64 k,.int .i64 n,.int .i64 i] w
 (λv w'=>v=.int .i64 (J4 M k n i)/\H5 F w w' R (Q2 M k n i)):=by
 have q:=Oq h.pool.cV;refine aR func204 ntmps204 aA (bC aA λb I e1 o c a2=>?_);have p:=h.bQ c;have f:¬F b:=λa=>by have:=h.low b a;omega
 refine bH (Si p) aA (Xa.defer rfl rfl (aN aA (bH (Pj p k) aA ?_)));unfold Gq J4 Q2;cases Q:Zq M k with
 |none=>
  refine bH (XmK n i I) aA (bF o aA λJ d r a3=>?_);have g:=Vb (h.note p (X1 o) (by omega) f r (by decide)) (Zf M.pl) b 1 d q;refine Xa.retD Xb rfl func204 rfl (Ot (args:=[Cl R,.int .i64 (Zf M.pl:Nat),.pointer (some ⟨b,0,none⟩)]) (captured:=[]) g.fn) (g.mono λ_ S ⟨T,s⟩=>?_);exact⟨_,.one rfl rfl rfl (Ys (s.heap d f)) .nil,rfl,Vd c (λz h=>.inl h) (c.gr.sn r) T s⟩
 |some x=>
  obtain⟨j,rfl,hj,K⟩:=Hc Q;obtain⟨G,_,C,D,L⟩:=p.shelf K;refine aP aA (XmJ (R.S j) G x M.pl n i I C) ?_;rintro _ J ⟨rfl,N,t,O⟩;refine aN aA ?_;obtain⟨e2,e3,e4,e5⟩:=XaR x M.pl n i C.ok C.of;obtain⟨U,V,u,E⟩:=L J G (Af x n i) (Bm x M.pl n i) N t (λz a=>.inl (O z a)) e2 e3 e4 e5;have l:¬U b:=λa=>(u b a).elim f (λh=>by have:=Xg o;omega);have P:¬Bk (R.S j) G x.pg b:=λa=>f (D b a);have d:=t.heap o P;refine bF d aA λS y A a4=>?_;have g:=Vb (h.note V (X1 d) (by omega) l A (by decide)) (Zf M.pl) b (Cb x n i) y q;refine Xa.retD Xb rfl func204 rfl (Ot (args:=[Cl R,.int .i64 (Zf M.pl:Nat),.pointer (some ⟨b,0,none⟩)]) (captured:=[]) g.fn) (g.mono λ_ w4 ⟨W,B⟩=>?_);refine⟨_,.one rfl rfl rfl (Ys (B.heap y l)) .nil,rfl,?_⟩;have m:=Vd c u ((c.gr.trans E).sn A) W B;simp only[XB];by_cases H:Cb x n i=0
  .rw[bK H] at m⊢;exact m
  .rw[bJ H] at m⊢;obtain⟨t1,t2⟩:=XmH (pl:=M.pl) H;rw[t1,t2,Xb4 K] at m;exact m
structure Xdb(c:Conf):Prop where
 size:64<=c.size/\c.size<=4096
 bS:1<=c.bS/\c.bS<=1024
 n:1<=c.bT.length/\c.bT.length<=16
 bV:c.bV.length=c.bT.length
 cH:1<=c.cH/\c.cH<=2097152
theorem Ye(h:Zb c=true):Xdb c:=by
 unfold Zb at h;simp only[XK,decide_eq_true_eq,Qy] at h;obtain⟨⟨⟨⟨⟨⟨⟨b,f⟩,g⟩,i,_⟩,_⟩,_⟩,_⟩,j⟩:=h;have l:=Xaz g;have a:=Nk.1 b;have hm:E7 c<=2097152:=by
  unfold E7;rw[bK b];have k:c.size/8<=512:=by omega
  have d:0<=c.size/8:=by omega
  calc c.size*(c.size/8)<=4096*(c.size/8):=ZD a.2.1 d
   _<=4096*512:=Int.mul_le_mul_of_nonneg_left k (by omega)
   _=2097152:=by omega
 exact⟨⟨a.1,a.2.1⟩,f,by omega,i,j.1,by omega⟩
theorem Xh3(h:Xdb c){n:Int}(hn:n<=c.cH):0<=Z9 n c.size/\Z9 n c.size<=2097153:=by
 unfold Z9 Qp;have b:=h.size;have hm:=h.cH;by_cases a:n<1\/c.size<1
 .rw[bK a];simp
 .rw[bJ a];have d:0<=(n-1)/c.size:=YM (by omega) (by omega);have f:(n-1)/c.size<=n-1:=QI _ (by omega);split <;> omega
theorem Xgj(h:Zn F w R M)(size:Int):Xf prog 122 #[Cl R,.int .i64 size] w (Grow (.int .i64 (Qg R.c M size)) w):=by
 have hf:=Ye h.may;have n:=hf.n;have o:=hf.cH;refine aR func122 ntmps122 aA (aT aA (λj=>?_) λj=>?_)
 .have e:Qg R.c M size=3:=by unfold Qg;rw[bK (.inl (bL j))]
  rw[e];exact bE func122 aA ⟨rfl,Xc.refl _ _⟩
 .have p:=bM j;refine bB h.obj aA (aT aA (λk=>?_) λk=>?_)
  .have e:Qg R.c M size=3:=by unfold Qg;rw[bK (.inr (bL k))]
   rw[e];exact bE func122 aA ⟨rfl,Xc.refl _ _⟩
  .have q:=bM k;have e3:Qg R.c M size=if (M.pl.free.length:Int)<Di R.c M size then 5 else 0:=by unfold Qg;rw[bJ (by omega)]
   rw[e3];refine aQ 16 Xe (by kernel_rfl) aA λf=>aE f h.obj aA (aG f (λw' i=>Ob R.p.ca R.p.cc R.c.bT size w' (h.cL.1.bR i) (by omega)) aA (aE f h.obj aA (aH f (λw' i=>XdI size R.c.size w' (by omega)) aA (aF f aA λl a=>?_))));have b:=h.bQ a;by_cases g:Xm R.c.bT size=-1
   .have e4:Di R.c M size=Z9 size R.c.size:=by unfold Di;rw[bK g]
    rw[e4];refine aI aA (by rw[g];rfl) (bB b.obj aA (bG (XfB R.P M.pl l b.pool) aA λm c=>aT aA (λd=>?_) λd=>?_))
    .rw[bK (bL d)];exact bE func122 aA ⟨rfl,a.trans c⟩
    .rw[bJ (bM d)];exact bE func122 aA ⟨rfl,a.trans c⟩
   .have e4:Di R.c M size=1-min (Qq M (Xm R.c.bT size):Int) 1:=by unfold Di;rw[bJ g]
    rw[e4];refine aM aA (by simpa using g) (bH (Va b (Xm R.c.bT size)) aA ?_);have e5:(if (1:Int)<(Qq M (Xm R.c.bT size):Nat) then (1:Int) else (Qq M (Xm R.c.bT size):Nat))=min ((Qq M (Xm R.c.bT size):Nat):Int) 1:=by split <;> omega
    rw[e5];refine aV aA (bB b.obj aA (bG (XfB R.P M.pl l b.pool) aA λm c=>aT aA (λd=>?_) λd=>?_))
    .rw[bK (bL d)];exact bE func122 aA ⟨rfl,a.trans c⟩
    .rw[bJ (bM d)];exact bE func122 aA ⟨rfl,a.trans c⟩
theorem Xm4(a a':Option dF)(c c':Nat)(x y:List Int)(w:dD)(hr:Rd .i64 w a x)(hr':Rd .i64 w a' y)(hl:x.length<=9223372036854775807):Xf prog 226 #[.slice a x.length c,.slice a' y.length c'] w (Grow (.bool (decide (x=y))) w):=by
 refine aR func226 ntmps226 aA (aT aA (λn=>?_) λn=>?_)
 .have q:x.length≠y.length:=by simp at n;omega
  have:x≠y:=λe=>q (by rw[e]);exact bE func226 aA ⟨Q0 (bO this).symm,Xc.refl _ _⟩
 .have o:x.length=y.length:=by simp at n;omega
  refine Xa.loop (α:=Nat) (λk=>[(0,false,.slice a x.length c),(1,false,.slice a' y.length c'),(12,false,.int .i64 x.length),(13,false,.int .i64 k)])
   (λk w'=>Xc Xe w w'/\k<=x.length/\∀j,j<k->x.getD j 0=y.getD j 0) (λk=>x.length-k) 0 ⟨rfl,rfl,rfl,rfl,trivial⟩ ⟨Xc.refl _ _,XQ _,λ_ h=>by omega⟩ ?_
  rintro k A ⟨d,B,f⟩ ih;refine aN aA (aT aA (λh=>?_) λh=>?_)
  .have l:k<x.length:=by simpa using h
   obtain⟨b,off,rfl,s⟩:=(hr.bR d) k l;obtain⟨b',off',rfl,r⟩:=(hr'.bR d) k (by omega);refine aQ 9 Xe (by kernel_rfl) aA λg=>aB k g aA (aD g s aA (aB k g aA (aD g r aA (aF g aA λC m=>aT aA (λi=>?_) λi=>?_))))
   .have p:x.getD k 0≠y.getD k 0:=by simpa using i
    have:x≠y:=λe=>p (by rw[e]);exact bE func226 aA ⟨Q0 (bO this).symm,d.trans m⟩
   .have t:x.getD k 0=y.getD k 0:=by simpa using i
    refine aV aA ?_;exact ih (k+1) _ _ ⟨d.trans m,l,λj D=>by
     by_cases e:j=k
     .subst e;exact t
     .exact f j (by omega)⟩ (by omega) ⟨rfl,rfl,rfl,rfl,trivial⟩
  .have z:k=x.length:=by simp at h;omega
   have:x=y:=List.ext_getElem o λj u v=>by
    have:=f j (by omega);rw[I1 u,I1 v] at this;exact this
   exact bE func226 aA ⟨Q0 (bN this).symm,d⟩
theorem Xm1(a:Option dF)(cap:Nat)(x:List Int)(w:dD)(hr:Rd .i64 w a x)(hl:x.length<=1048576)(hn:∃a1,a=some a1):Xf prog 115 #[.slice a x.length cap] w
 (λv w'=>∃g c,v=.slice (some ⟨g,0,none⟩) x.length c/\w.heap.size<=g/\Rd .i64 w' (some ⟨g,0,none⟩) x/\kd w' g=some (some 3)/\Xc Xe w w'):=by
 have q:maxLen=9223372036854775807:=rfl;obtain⟨a1,rfl⟩:=hn;refine aR func115 ntmps115 aA (aS aA (Xa.buildSlice Xb rfl λb m e1 n d r=>aN aA ?_));subst e1;have h:Xl w.heap.size 3 1 m (.slice (some ⟨w.heap.size,0,none⟩) 0 0) 0 []:=Xl.empty (XF _) n;refine Xa.append (base:=w.heap.size) (xs:=[]) (news:=x.map (Value.int .i64)) Xb rfl h (by omega) (by simp) (hr.bR d).cells J1 ⟨by omega,by show(0+x.length)*8<=_;omega⟩ λv s f i j=>aN aA ?_;rw[XT,ZS] at f;have o:=h.bU d (XF _) i;rcases f.2 with⟨e,_⟩|⟨g,c,cur,rfl,p,k,t,u,_,l⟩
 .have:=(j.1.1 e).1;cases this
 .exact bE func115 aA ⟨g,c,rfl,p,Rd.of_take k (by rw[ZQ] at l;exact l),X1 k,o⟩
end Go.Proofs.YtdeihcnepljjaaaGreatDoor
