/-
  Texts put together: Ref20g, Ref20h, Ref20i, RmBack, RmOwn, Yx, Top13, RmPlan, Arena, Arena2, View, View2, Chain, Chain2, View3.
-/
import Derived.Test.YtohjeeapehmkcaaGreatDoorPt4
import Derived.Test.YtohjeeapehmkcaaGreatDoorQRule7
import Derived.Test.YtohjeeapehmkcaaGreatDoorQRule11
import Derived.Test.YtohjeeapehmkcaaGreatDoorQPost
set_option linter.unusedVariables false
set_option maxRecDepth 100000
namespace Go.Proofs.YtohjeeapehmkcaaGreatDoor
open Go.RowKit
open Bool renaming and_eq_true->XJ,true_and->YI
open Int renaming toNat_natCast->XA,eq_ofNat_of_zero_le->XD,mul_le_mul_of_nonneg_right->ZA,mul_le_mul->ZH,mul_nonneg->ZJ,ediv_nonneg->ZX,ediv_le_self->YE,mul_comm->YG,add_mul->YU,one_mul->QC
open List renaming getElem?_eq_getElem->XB,getD_eq_getElem?_getD->XC,getElem?_set_self->XF,length_set->XG,length_replicate->XH,map_append->XI,getElem_mem->XK,length_cons->XM,length_map->XN,length_append->XO,getElem?_set_ne->XQ,mem_of_mem_take->XT,length_take->XU,getElem?_eq_none->XV,getElem?_replicate->XW,getElem?_append_left->XX,filter_cons->XY,map_cons->ZB,take_add_one->ZC,mem_of_mem_drop->ZD,eq_of_mem_replicate->ZG,take_length->ZL,mem_singleton->ZN,flatMap_cons->ZQ,nil_append->ZR,drop_eq_getElem_cons->ZS,replicate_succ->ZT,mem_append_right->ZU,getElem?_append_right->ZZ,eq_nil_of_length_eq_zero->YC,sum_cons->YH,getElem_map->YM,getElem?_take->YN,filter_append->YP,any_eq_false->YZ,length_tail->QJ,map_take->QL,getD->QN,map_nil->QQ,mem_cons->QR,map_drop->QS
open Nat renaming le_refl->XE,zero_le->XL,zero_add->XS,le_trans->ZV,mul_comm->YF,div_add_mod->YV,strongRecOn->QE,mod_lt->QM
open Option renaming getD_some->ZP,map_some->QO
open Go.Proofs.Tryz (func120 func131 func136 func139 func142 func146 func157 func177 func192 func193 func197 func205 func225 func226 func227 func233 func234 func262 func270 func271 func70 func72 ntmps120 ntmps131 ntmps136 ntmps139 ntmps142 ntmps146 ntmps157 ntmps177 ntmps192 ntmps193 ntmps197 ntmps205 ntmps225 ntmps226 ntmps227 ntmps233 ntmps234 ntmps262 ntmps270 ntmps271 ntmps70 ntmps72 prog)
variable {c:Conf}{l':IL}{ahead by' size u who z:Int}{lg:List (Nat×List Nat)}{ps:List IL}{bs l p zs:List Int}{l2 ws:List Nat}{cs rest xs:List Value}{N at' b base cap fuel g i j k len lm lo n n0 o off sz t tm vb xb y:Nat}{e:Nat×List Int}{fz:Nat×Nat}{f:Nat->Int}{G:Nat->Pg}{B C F F' Fr S S' T:Nat->Prop}{pd pd2:Option (Nat×PlcM)}{a:Option Addr}{pg:PgL}{P:Pl}{pl':PlM}{q:Plc}{R:Rm}{M:RmM}{x x':Sm}{α:Type}{v:Value}{w w' w0 w1 w2:World}
theorem Xjl(h:M.Ok c)(hg:M.pl.Good):M.lg.length<=1024:=by
 have d:=h.sum;have e:=Ny hg;have b:∀l:List (Nat×List Nat),l.length<=Dq l:=λl=>by
  induction l with
  |nil=>simp
  |cons a r ih=>unfold Dq at *;rw[ZB,YH,XM];omega
 have:=b M.lg;omega
theorem Jc(q:Plc):(Xv q).length=4:=rfl
theorem Ky(q:Plc):∀u∈Xv q,u.oneCell'=true:=λu a=>by
 simp only[Xv,QR,List.mem_nil_iff,or_false] at a;rcases a with rfl|rfl|rfl|rfl <;> rfl
structure XcD(w w':World)(q:Plc):Prop where
 ok:Zl w' q
 lt:Yj w' q.pa
 fresh:Ck w q.pa
theorem Xbb{a b c:Int}:XcD w w' ⟨a,b,c,none,0,[]⟩:=⟨⟨Rd.nil _ _ _,by simp⟩,(by intro b off s e;cases e),(by intro b off s e;cases e)⟩
theorem Ad.out{w w2:World}{r r':RR}{M:RmM}(hK:Ad w2 r r')(h:Qc w r M){S:Nat->Prop}(h1:∀z,S z->w.heap.size<=z)(h2:∀z,S z->z<w2.heap.size):B3 S r':=hK.2.2 S h2 (h.out h1)
theorem Xfz(r:RR)(M:RmM)(who size:Int)(w:World)(h:Qc w r M)(hm:Iy M)(hMok:M.Ok r.c)(ht:0<=M.tot/\M.tot<=4611686018427000000)(hr:Rd .i64 w r.cp.ca r.c.classes)(hmay:X6 r.c=true):Xf prog 157 #[.agg (A5 r).toArray,.int .i64 who,.int .i64 size] w
 (λv w'=>∃r' q,v=.tuple #[.agg (A5 r').toArray,.agg (Xv q).toArray,.int .i64 (Ct r.c M who size)]/\Xy q=A2 r.c M who size/\Qc w' r' (Ab r.c M who size)/\Ad w r r'/\XcD w w' q/\Xc Xe w w'):=by
 have fu:maxLen=9223372036854775807:=rfl;have hf:=Yp hmay;have fv:=hf.size;have db:=hf.n;have dc:=hf.most;refine ζe func157 ntmps157 ϱ (ζn ϱ λrb w1 e1 et eu fw=>ζn ϱ λob w2 e2 ew dd fx=>ζn ϱ λqb w3 e3 de ch fy=>?_);have ax:=(eu.trans dd).trans ch;have br:=ch.heap' (dd.heap' et);have ci:=ch.heap' ew;by_cases g1:who<0
 ·have cj:Ct r.c M who size=1/\A2 r.c M who size=⟨0,0,0,[]⟩/\Ab r.c M who size=M:=by
   exact⟨by unfold Ct;rw[if_pos g1],by unfold A2;rw[if_pos g1],by unfold Ab;rw[if_pos g1]⟩
  rw[cj.1,cj.2.1,cj.2.2];refine ζy ϱ (ζl br ϱ (ζb ϱ (ζs ci ϱ λw4 ay df fz=>?_)));refine ζs (df.heap de (by omega)) ϱ λw5 az dg g0=>?_;have hc:=(ax.since df (λz a e=>by omega)).since dg (λz a e=>by omega);exact ζq rfl func157 (Xm.cell rfl rfl rfl (dg.heap ay (by omega)) rfl (.cell rfl rfl rfl az rfl (.tmp rfl .nil))) ⟨r,⟨0,0,0,none,0,[]⟩,rfl,rfl,h.grow hc,Ad.refl w r,Xbb,hc⟩
 ·refine ζf ϱ (ζl br ϱ (ζv (Xbo r M size w3 (h.grow ax) (hr.chg ax) db.2 dc.2) ϱ λw4 bg=>?_));have ab:=ax.trans bg;have b1:=bg.heap' br;have ay:=bg.heap' ci;have cl:=bg.heap' de;have fj:=bg.size;by_cases g2:Qd r.c M size=0
  ·have au:¬(Qd r.c M size≠0):=λh=>h g2;have ef:¬(size<1\/r.c.most<size)/\B8 r.c M size<=M.pl.free.length:=by
    have g2:=g2;unfold Qd at g2;split at g2
    ·cases g2
    ·split at g2
     ·cases g2
     ·refine⟨by assumption,by omega⟩
   refine ζF ϱ (by rw[g2];rfl) (ζl b1 ϱ (ζv (Rq r size w4 (hr.chg ab) (by omega)) ϱ λw5 a2=>?_));have b2:=ab.trans a2;have cm:=a2.heap' b1;have cn:=a2.heap' ay;have az:=a2.heap' cl;have fk:=a2.size;by_cases g3:Xk r.c.classes size=-1
   ·have ac:Ct r.c M who size=0/\A2 r.c M who size=⟨-1,(M.pl.free.getD 0 0:Nat),0,X1 (M.pl.free.take (Zq size r.c.size).toNat).tail⟩/\Ab r.c M who size=D0 M (Zq size r.c.size).toNat:=by
     exact⟨by unfold Ct;rw[if_neg g1,if_neg au,if_pos g3],by unfold A2;rw[if_neg g1,if_neg au,if_pos g3],by unfold Ab;rw[if_neg g1,if_neg au,if_pos g3]⟩
    rw[ac.1,ac.2.1,ac.2.2];have fg:B8 r.c M size=Zq size r.c.size:=by unfold B8;rw[if_pos g3]
    have g4:2<=Zq size r.c.size:=by
     have h0:0<=(size-1)/r.c.size:=ZX (by omega) (by omega);have h9:(size-1)/r.c.size<=size-1:=YE _ (by omega);have e4:Z2 size r.c.size=(size-1)/r.c.size+1:=by unfold Z2;rw[if_neg (by omega)]
     unfold Zq;rw[e4,if_neg (by omega)];omega
    obtain⟨many,d9⟩:=XD (show 0<=Zq size r.c.size by omega);have g5:2<=many:=by omega
    have dh:many<=M.pl.free.length:=by have:=ef.2;omega
    have g6:M.pl.free.length<=1024:=by have:=hm.good.many;have:=hm.good.len;omega
    refine ζf ϱ (ζb ϱ (ζn ϱ λtb w6 e6 ey c2 ez=>ζs ey ϱ λw7 eg f0 f1=>?_));have b3:=c2.since f0 (λz a e=>by omega);have m:=b2.trans b3;have co:=b3.heap' cm;refine ζl co ϱ (ζw (Xbm size r.c.size w7 (by omega)) ϱ ?_);rw[d9,XA];have hn:=hMok.n;obtain⟨B,c⟩:∃B:Nat->Prop,B=λz=>z=rb\/z=ob\/z=qb\/z=tb:=⟨_,rfl⟩;have C:∀z,B z->w.heap.size<=z/\z<w7.heap.size:=λz a=>by rw[c] at a;rcases a with e|e|e|e <;> omega
    have c3:=h.out (S:=B) (λz a=>(C z a).1);refine Xa.loop (α:=Nat×RP×Value) (λx=>[(3,false,.pointer (some ⟨rb,0,none⟩)),(6,false,.pointer (some ⟨ob,0,none⟩)),(7,false,.pointer (some ⟨qb,0,none⟩)),(14,false,.pointer (some ⟨tb,0,none⟩)),(15,false,.int .i64 many),(16,false,.int .i64 x.1)])
     (λx w'=>x.1<=many/\Yg w' rb {r with p:=x.2.1}/\w'.heap[tb]?=some (.cells ([.int .i64 (-1),.int .i64 (if x.1=0 then 0 else (M.pl.free.getD 0 0:Nat)),.int .i64 0,x.2.2]:List Value).toArray 98 (0,0))/\Q4 w' x.2.1 (Al M.pl (M.shs.length:Nat) x.1)/\Xj B x.2.1.o.a/\Xj B x.2.1.f.a/\
      (∀S:Nat->Prop,(∀z,S z->z<w.heap.size)->Xj S r.p.o.a->Xj S r.p.f.a->Xj S x.2.1.o.a/\Xj S x.2.1.f.a)/\Yj w x.2.1.f.a/\Xl w7.heap.size 3 1 w' x.2.2 (x.1-1) ((X1 (M.pl.free.take x.1).tail).map (Value.int .i64))/\Xc (λz=>z=rb\/z=tb) w7 w') (λx=>many-x.1) (0,r.p,.slice none 0 0) ⟨rfl,rfl,rfl,rfl,rfl,rfl,trivial⟩
     ⟨XL _,co,eg,h.p.grow m,c3.o,c3.f,λS _ h1 h2=>⟨h1,h2⟩,h.p.f.lt,⟨rfl,.inl ⟨rfl,rfl⟩⟩,Xc.refl _ _⟩ ?_
    rintro⟨i,rp,v⟩ w8 ⟨hi,ad,b6,E,c4,bh,a7,di,ae,bi⟩ ih;simp only at hi ad b6 E c4 bh a7 di ae
    have fm:=bi.size;refine ζa ϱ (ζg ϱ (λcq=>?_) λcq=>?_)
    ·have av:i<many:=by have:=of_decide_eq_true cq;omega
     have cr:i<M.pl.free.length:=by omega
     obtain⟨q1,q2,q3,q4,q5⟩:=Mb (who:=(M.shs.length:Nat)) (by omega) hm.good i (by omega);have c5:(Al M.pl (M.shs.length:Nat) i).free=M.pl.free[i]::M.pl.free.drop (i+1):=by rw[q2];exact ZS cr
     obtain⟨t1,t2,t3⟩:=Xba (who:=(M.shs.length:Nat)) (by omega) c5;refine ζl ad ϱ (ζl ad ϱ ?_);have hd:=Xfr rp (M.shs.length:Nat) _ _ _ w8 E q1 (by omega) c5;rw[<-t3,hn] at hd;refine ζc ϱ (hd) ?_;rintro _ J ⟨l9,rfl,dj,bu,dk⟩;refine ζa ϱ ?_;rw[<-hn] at dj;refine ζn ϱ λxb wa ea cs af f4=>ζs cs ϱ λwb ei f5 dl=>?_;have fq:=dk.size;have ct:=af.since f5 (λz a e=>by omega);have b7:=dk.trans ct;refine ζl ei ϱ (ζs (b7.heap' ad) ϱ λwc cu c6 g7=>?_);have cv:=bu.out (λz a=>by have:=(C z a).2;omega);have cw:Xj B (rp.f.sl 1 rp.f.x.length).a:=IL.sl_out bh;have dm:∀S:Nat->Prop,(∀z,S z->z<w.heap.size)->Xj S r.p.o.a->Xj S r.p.f.a->Xj S l9.a/\Xj S (rp.f.sl 1 rp.f.x.length).a:=λS L h1 h2=>⟨bu.out (λz a=>by have:=L z a;have:=m.size;omega),IL.sl_out (a7 S L h1 h2).2⟩;have cx:Yj w (rp.f.sl 1 rp.f.x.length).a:=λb off s e=>by
      obtain⟨_,_,e'⟩:=XbI e;exact di b _ _ e'
     have k:B rb:=by rw[c];exact .inl rfl
     have dn:B tb:=by rw[c];exact .inr (.inr (.inr rfl))
     have far:∀{w1 w2:World} {z0:Nat},B z0->Xc (λz=>z=z0) w1 w2->Q4 w1 ⟨l9,rp.f.sl 1 rp.f.x.length⟩ (Al M.pl (M.shs.length:Nat) (i+1))->Q4 w2 ⟨l9,rp.f.sl 1 rp.f.x.length⟩ (Al M.pl (M.shs.length:Nat) (i+1)):=λaw K c7=>⟨c7.o.far (cv.mono (λz e=>by subst e;exact aw)) K,c7.f.far (cw.mono (λz e=>by subst e;exact aw)) K,c7.eo,c7.ef⟩;have dp:=far k c6 (dj.grow ct);have b8:=c6.heap (b7.heap' b6) (by omega);have dq:=(ae.chg b7 (λ_ _ h=>h)).chg c6 (λb hb e=>by have:=(World.ownsRow.lt ae b hb.symm).1;replace e:b=rb:=e;omega);have cy:=(bi.trans b7.gr).trans (c6.mono λ_ _ e=>.inl e);by_cases dr:i=0
     ·subst dr;refine ζy ϱ (ζs b8 ϱ λwd ej c8 cz=>ζj ϱ ?_);have ek:((M.pl.free[0]:Nat):Int)=(M.pl.free.getD 0 0:Nat):=by rw[XC,XB cr];rfl
      exact ih (1,⟨l9,rp.f.sl 1 rp.f.x.length⟩,v) _ _ ⟨by omega,c8.heap cu (by omega),by rw[if_neg (show ¬(1=0) by omega),<-ek];exact ej,far dn c8 dp,cv,cw,dm,cx,by
       have e:(M.pl.free.take 1).tail=[]:=YC (by rw[QJ,XU];omega);have e0:(M.pl.free.take 0).tail=[]:=by simp
       have:=dq.chg c8 (λb hb e=>by have:=(World.ownsRow.lt ae b hb.symm).1;replace e:b=tb:=e;omega);rw[e0] at this;show Xl _ _ _ _ _ 0 _
       rw[e];exact this,cy.trans (c8.mono λ_ _ e=>.inr e)⟩ (by simp only;omega) ⟨rfl,rfl,rfl,rfl,rfl,rfl,trivial⟩
     ·rw[if_neg dr] at b8;refine ζF ϱ (by simp;omega) (ζl b8 ϱ (Xa.buildSlice Xb rfl λbd wd ed f7 l cz=>ζa ϱ ?_));have ds:=dq.chg l (λ_ _ h=>h);refine Xa.append (base:=w7.heap.size) (xs:=(X1 (M.pl.free.take i).tail).map (Value.int .i64)) (news:=[.int .i64 (M.pl.free[i]:Nat)]) Xb rfl ds (by omega) (by simp) (Gl f7) (by simp[Value.oneCell']) ⟨by omega,by show(i-1+1)*8<=_;omega⟩ ?_;intro v2 we n bj g8;obtain⟨va,vn,vc,rfl⟩:=Xl.isSlice n;have b9:=λ(b:Nat) (hb:some b=v.ownBlock)=>(World.ownsRow.lt ds b hb.symm).1;have c9:=dp.grow l;have f8:Q4 we ⟨l9,rp.f.sl 1 rp.f.x.length⟩ (Al M.pl (M.shs.length:Nat) (i+1)):=by
       have fs:=m.size;have g9:=λ(b:Nat) (hb:some b=v.ownBlock)=>(World.ownsRow.lt ae b hb.symm).2;exact⟨c9.o.far (λb off s e hb=>by have:=bu b off s e;have:=(λ(b:Nat) (hb:some b=v.ownBlock)=>(World.ownsRow.lt ae b hb.symm).2) b hb;omega) bj,c9.f.far (λb off s e hb=>by have:=cx b off s e;have:=b9 b hb;omega) bj,c9.eo,c9.ef⟩
      refine ζa ϱ (ζs (bj.heap (l.heap' b8) (λe=>by have:=b9 tb e;omega)) ϱ λwf el ca ga=>ζj ϱ ?_);exact ih (i+1,⟨l9,rp.f.sl 1 rp.f.x.length⟩,.slice va vn vc) _ _ ⟨by omega,ca.heap (bj.heap (l.heap' cu) (λe=>by have:=b9 rb e;omega)) (by omega),by rw[if_neg (show ¬(i+1=0) by omega)];exact el,far dn ca f8,cv,cw,dm,cx,by
       have e:(M.pl.free.take (i+1)).tail=(M.pl.free.take i).tail++[M.pl.free[i]]:=by
        rw[ZC,XB cr,List.tail_append_of_ne_nil]
        ·rfl
        ·intro e;have:=congrArg List.length e;rw[XU,List.length_nil] at this;omega
       have:=n.chg ca (λb hb e=>by have:=(World.ownsRow.lt n b hb.symm).1;replace e:b=tb:=e;omega);rw[e,XeQ,XI];have e2:i-1+1=i+1-1:=by omega
       rw[e2] at this;exact this,((cy.trans l.gr).since bj (λz a e=>by have:=b9 z e;omega)).trans (ca.mono λ_ _ e=>.inr e)⟩ (by simp only;omega) ⟨rfl,rfl,rfl,rfl,rfl,rfl,trivial⟩
    ·have em:i=many:=by have:=of_decide_eq_false cq;omega
     subst em;have W:=c
     clear c
     have bk:(M.pl.free.take i).tail.length=i-1:=by rw[QJ,XU];omega
     obtain⟨g,gc,rfl,gb,gd,ge,d0,d1⟩:=XaZ ae bk (by omega);obtain⟨q0,ba⟩:∃q0:Plc,q0=⟨-1,(M.pl.free.getD 0 0:Nat),0,some ⟨g,0,none⟩,gc,X1 (M.pl.free.take i).tail⟩:=⟨_,rfl⟩;have da:w8.heap[tb]?=some (.cells (Xv q0).toArray 98 (0,0)):=by
      rw[if_neg (show ¬i=0 by omega)] at b6;have e:Xv q0=[.int .i64 (-1),.int .i64 (M.pl.free.getD 0 0:Nat),.int .i64 0,.slice (some ⟨g,0,none⟩) (i-1) gc]:=by
       rw[ba];show [_,_,_,Value.slice _ (X1 (M.pl.free.take i).tail).length _]=_
       rw[Df,bk]
      rw[e];exact b6
     have a5:Xy q0=⟨-1,(M.pl.free.getD 0 0:Nat),0,X1 (M.pl.free.take i).tail⟩:=by rw[ba];rfl
     have A:q0.pa=some ⟨g,0,none⟩:=by rw[ba]
     have a6:q0.pages=X1 (M.pl.free.take i).tail:=by rw[ba]
     have gf:=h.st;have bb:=m.since bi (λz a e=>by rcases e with e|e <;> omega);obtain⟨t,bc⟩:∃t,t=Xx M.tot (((i:Nat):Int)*4+(((i:Nat):Int)-1)):=⟨_,rfl⟩;have f9:r.steps+4*(i:Int)+(i:Int)-1=t:=by
      rw[bc];unfold Xx;rw[if_neg (by omega)];omega
     have d2:(r.lg++[q0]).length<=1024:=by
      have h2:(M.lg++[(M.pl.free.getD 0 0,(M.pl.free.take i).tail)]).length<=1024:=(Xjl (hMok.big hm.good (show 1<=i by omega) dh) (Mb (who:=(M.shs.length:Nat)) (by omega) hm.good i dh).1);have fh:r.lg.length=M.lg.length:=by have:=congrArg List.length h.lge;simpa using this
      simp only[XO,XM,List.length_nil] at h2⊢;omega
     have cb:w8.heap[rb]?=some (.cells (Zj r.c r.cp++[Xn rp.o,Xn rp.f,.slice r.sa r.ss.length r.scap,.slice r.la r.lg.length r.lcap,.int .i64 r.steps]).toArray 38 (0,0)):=ad;refine Xa.loadb Xb rfl cb rfl rfl ?_;refine Xa.arith Xb rfl (w64 (by omega)) rfl ?_;refine Xa.arith Xb rfl (w64 (by omega)) rfl ?_;refine ζj ϱ (ζj ϱ ?_);rw[f9];refine ζs cb ϱ λJ be a3 fa=>?_;have bf:=a3.heap da (by omega);have ag:=a3.heap (bi.heap (b3.heap' cn) (by omega)) (by omega);have bv:=a3.heap (bi.heap (b3.heap' az) (by omega)) (by omega);have bw:Xc B w8 J:=a3.mono λ_ _ e=>by rw[W];exact .inl e
     have bx:=bb.since a3 (λz a e=>by omega);refine ζd 6 Xe (by kernel_rfl) ϱ λc=>δl c be ϱ (δl c bf ϱ ?_);refine Xd.turn2 c rfl ?_ ?_
     ·intro wa af;refine Xp.buildSlice Xb c rfl (λ_=>rfl) ?_;intro b0 wb eb aw cc dl;have K:=af.trans cc;have ah:Xl J.heap.size 98 4 wb (.slice (some ⟨b0,0,none⟩) 0 0) 0 (fl Xv []):=Xl.empty (by have:=af.size;omega) aw;refine Xd.turn2 c rfl ?_ ?_
      ·intro wc o;refine Xp.appendA Xb c rfl (base:=J.heap.size) (xs:=fl Xv []) (news:=fl Xv r.lg) (ah.chg o (λ_ _ h=>h)) ((K.trans o)).size h.lr.noneA (XE _) (I4 Jc r.lg) ((h.lr.chg (bx.trans (K.trans o))).news Jc (by decide)) (Nt Ky r.lg) ⟨by have:=h.lm;omega,by have:=h.lm;show(0+r.lg.length)*48<=_;omega⟩ (λ_=>rfl) ?_;intro v1 wx ai aj dt;have a8:=((ah.chg o (λ_ _ h=>h))).since (K.trans o) (XE _) aj;refine Xd.turn1 c rfl λwd l=>Xp.buildSlice Xb c rfl (λ_=>rfl) λb5 we ee bl u gg=>δn c ϱ λwf F=>?_;have n:Xl J.heap.size 98 4 wf v1 r.lg.length (fl Xv r.lg):=by
        have:=(((ai.chg l (λ_ _ h=>h)).chg u (λ_ _ h=>h)).chg F (λ_ _ h=>h));rw[Ns,ZR,XS] at this;exact this
       obtain⟨a1,n1,c1,rfl⟩:=Xl.isSlice n;refine Xa.appendA (base:=J.heap.size) (xs:=fl Xv r.lg) (news:=Xv q0) Xb rfl n (((((a8.trans l).trans u).trans F)).size) (λe=>by cases e) rfl (Lm (F.heap' bl)) (Ky q0) ⟨by have:=h.lm;omega,by have:=h.lm;show(r.lg.length+1)*48<=_;omega⟩ ?_;intro v3 wy bm bn du;have f:=n.since (((a8.trans l).trans u).trans F) (XE _) bn;have ak:Xl J.heap.size 98 4 wy v3 (r.lg.length+1) (fl Xv (r.lg++[q0])):=by
        rw[Kr,Lt];exact bm
       obtain⟨la,lcap,rfl,al,av,am,G⟩:=Xl.rowsN ak Jc (by simp);refine ζa ϱ (ζs (f.heap' be) ϱ λwz an y dv=>?_);have N:B ob:=by rw[W];exact .inr (.inl rfl)
       have O:B qb:=by rw[W];exact .inr (.inr (.inl rfl))
       have P:B rb:=by rw[W];exact .inl rfl
       have ao:Xc B J wz:=f.gr.trans (y.mono λ_ _ e=>by rw[e];exact P);refine ζd 3 (λz=>z=ob) (by kernel_rfl) ϱ λc=>δl c an ϱ (δl c (y.heap (f.heap' bf) (by omega)) ϱ (Xd.turn1 c rfl λwu H=>Xp.store Xb c rfl (H.heap' (y.heap (f.heap' ag) (by omega))) (by first|(intro h;exact rfl)|(intro h;omega)) rfl rfl rfl λwv ap Q dw=>?_));refine δn c ϱ λww I=>?_;refine ζs (I.heap' (Q.heap (H.heap' (y.heap (f.heap' bv) (by omega))) (by omega))) ϱ λwr aq R dx=>?_;have k:=(((((bw.trans ao).trans H.gr).trans (Q.mono λ_ _ e=>by rw[e];exact N)).trans I.gr).trans (R.mono λ_ _ e=>by rw[e];exact O));have T:=bb.since k (λz a e=>by have:=(C z e).1;omega);have bo:Q4 wr rp (Al M.pl (M.shs.length:Nat) i):=⟨E.o.far c4 k,E.f.far bh k,E.eo,E.ef⟩;have bp:¬B g:=λa=>by have:=(C g a).2;omega
       have j:=h.grow T;have U:Xc B wy wr:=((((y.mono λ_ _ e=>by rw[e];exact P).trans H.gr).trans (Q.mono λ_ _ e=>by rw[e];exact N)).trans I.gr).trans (R.mono λ_ _ e=>by rw[e];exact O);have ar:Xj B la:=λb off s e a=>by have:=G b off s e;have:=(C b a).2;omega
       have V:Yj w8 q0.pa:=λb off s e=>by rw[A] at e;cases e;exact Eu d0
       have a9:Zl wr q0:=⟨by rw[A,a6];exact(d1.far (S:=B) (λb' off s e=>by cases e;exact bp) k),by rw[a6,Df,bk];omega⟩;exact ζq rfl func157 (Xm.cell rfl rfl rfl (R.heap (I.heap' ap) (by omega)) rfl (.cell rfl rfl rfl aq rfl (.tmp rfl .nil))) ⟨{r with p:=rp,steps:=t,lg:=r.lg++[q0],la:=la,lcap:=lcap},q0,rfl,a5,⟨bo,j.sr,j.sl,j.sc,j.n,j.few,j.each,al.far ar U,av.grow U.size,am,d2,by show(r.lg++[q0]).map Xy=(M.lg++[(M.pl.free.getD 0 0,(M.pl.free.take i).tail)]).map lgP;rw[XI,XI,h.lge,ZB,QQ,a5];rfl,λq d=>(List.mem_append.1 d).elim (λd=>j.lgo q d) (λd=>by rw[ZN] at d;subst d;exact⟨a9,V.grow k.size⟩),bc⟩,⟨rfl,rfl,λS L D=>⟨(a7 S L D.o D.f).1,(a7 S L D.o D.f).2,D.sa,D.each,λb off s e a=>by have:=G b off s e;have:=L b a;have:=m.size;omega,λq d=>(List.mem_append.1 d).elim (λd=>D.lgo q d) (λd=>by rw[ZN] at d;subst d;exact λb off s e a=>by rw[A] at e;cases e;have:=L g a;have:=m.size;omega)⟩⟩,⟨a9,V.grow k.size,λb off s e=>by rw[A] at e;cases e;have:=m.size;omega⟩,T⟩
      ·intro wc o;refine Xp.buildSlice Xb c rfl (λ_=>rfl) λb5 wd ed bl l cz=>Xd.turn1 c rfl λwe u=>Xp.appendA Xb c rfl (base:=J.heap.size) (xs:=fl Xv []) (news:=fl Xv r.lg) (((ah.chg o (λ_ _ h=>h)).chg l (λ_ _ h=>h)).chg u (λ_ _ h=>h)) ((((K.trans o).trans l).trans u)).size h.lr.noneA (XE _) (I4 Jc r.lg) ((h.lr.chg (bx.trans (((K.trans o).trans l).trans u))).news Jc (by decide)) (Nt Ky r.lg) ⟨by have:=h.lm;omega,by have:=h.lm;show(0+r.lg.length)*48<=_;omega⟩ (λ_=>rfl) λv1 wx ai aj dt=>?_;have a8:=((((ah.chg o (λ_ _ h=>h)).chg l (λ_ _ h=>h)).chg u (λ_ _ h=>h))).since (((K.trans o).trans l).trans u) (XE _) aj;refine δn c ϱ λwf F=>?_;have d5:¬Ig (.slice (some ⟨b0,0,none⟩) 0 0) b5:=by
        intro h;have e:some b5=some b0:=h;have:=Option.some.inj e;have:=o.size;omega
       have n:Xl J.heap.size 98 4 wf v1 r.lg.length (fl Xv r.lg):=by
        have:=(ai.chg F (λ_ _ h=>h));rw[Ns,ZR,XS] at this;exact this
       obtain⟨a1,n1,c1,rfl⟩:=Xl.isSlice n;refine Xa.appendA (base:=J.heap.size) (xs:=fl Xv r.lg) (news:=Xv q0) Xb rfl n (((a8.trans F)).size) (λe=>by cases e) rfl (Lm (F.heap' (aj.heap (u.heap' bl) d5))) (Ky q0) ⟨by have:=h.lm;omega,by have:=h.lm;show(r.lg.length+1)*48<=_;omega⟩ ?_;intro v3 wy bm bn du;have f:=n.since (a8.trans F) (XE _) bn;have ak:Xl J.heap.size 98 4 wy v3 (r.lg.length+1) (fl Xv (r.lg++[q0])):=by
        rw[Kr,Lt];exact bm
       obtain⟨la,lcap,rfl,al,av,am,G⟩:=Xl.rowsN ak Jc (by simp);refine ζa ϱ (ζs (f.heap' be) ϱ λwz an y dv=>?_);have N:B ob:=by rw[W];exact .inr (.inl rfl)
       have O:B qb:=by rw[W];exact .inr (.inr (.inl rfl))
       have P:B rb:=by rw[W];exact .inl rfl
       have ao:Xc B J wz:=f.gr.trans (y.mono λ_ _ e=>by rw[e];exact P);refine ζd 3 (λz=>z=ob) (by kernel_rfl) ϱ λc=>δl c an ϱ (δl c (y.heap (f.heap' bf) (by omega)) ϱ (Xd.turn1 c rfl λwu H=>Xp.store Xb c rfl (H.heap' (y.heap (f.heap' ag) (by omega))) (by first|(intro h;exact rfl)|(intro h;omega)) rfl rfl rfl λwv ap Q dw=>?_));refine δn c ϱ λww I=>?_;refine ζs (I.heap' (Q.heap (H.heap' (y.heap (f.heap' bv) (by omega))) (by omega))) ϱ λwr aq R dx=>?_;have k:=(((((bw.trans ao).trans H.gr).trans (Q.mono λ_ _ e=>by rw[e];exact N)).trans I.gr).trans (R.mono λ_ _ e=>by rw[e];exact O));have T:=bb.since k (λz a e=>by have:=(C z e).1;omega);have bo:Q4 wr rp (Al M.pl (M.shs.length:Nat) i):=⟨E.o.far c4 k,E.f.far bh k,E.eo,E.ef⟩;have bp:¬B g:=λa=>by have:=(C g a).2;omega
       have j:=h.grow T;have U:Xc B wy wr:=((((y.mono λ_ _ e=>by rw[e];exact P).trans H.gr).trans (Q.mono λ_ _ e=>by rw[e];exact N)).trans I.gr).trans (R.mono λ_ _ e=>by rw[e];exact O);have ar:Xj B la:=λb off s e a=>by have:=G b off s e;have:=(C b a).2;omega
       have V:Yj w8 q0.pa:=λb off s e=>by rw[A] at e;cases e;exact Eu d0
       have a9:Zl wr q0:=⟨by rw[A,a6];exact(d1.far (S:=B) (λb' off s e=>by cases e;exact bp) k),by rw[a6,Df,bk];omega⟩;exact ζq rfl func157 (Xm.cell rfl rfl rfl (R.heap (I.heap' ap) (by omega)) rfl (.cell rfl rfl rfl aq rfl (.tmp rfl .nil))) ⟨{r with p:=rp,steps:=t,lg:=r.lg++[q0],la:=la,lcap:=lcap},q0,rfl,a5,⟨bo,j.sr,j.sl,j.sc,j.n,j.few,j.each,al.far ar U,av.grow U.size,am,d2,by show(r.lg++[q0]).map Xy=(M.lg++[(M.pl.free.getD 0 0,(M.pl.free.take i).tail)]).map lgP;rw[XI,XI,h.lge,ZB,QQ,a5];rfl,λq d=>(List.mem_append.1 d).elim (λd=>j.lgo q d) (λd=>by rw[ZN] at d;subst d;exact⟨a9,V.grow k.size⟩),bc⟩,⟨rfl,rfl,λS L D=>⟨(a7 S L D.o D.f).1,(a7 S L D.o D.f).2,D.sa,D.each,λb off s e a=>by have:=G b off s e;have:=L b a;have:=m.size;omega,λq d=>(List.mem_append.1 d).elim (λd=>D.lgo q d) (λd=>by rw[ZN] at d;subst d;exact λb off s e a=>by rw[A] at e;cases e;have:=L g a;have:=m.size;omega)⟩⟩,⟨a9,V.grow k.size,λb off s e=>by rw[A] at e;cases e;have:=m.size;omega⟩,T⟩
     ·intro wa af;refine Xp.buildSlice Xb c rfl (λ_=>rfl) λb5 wb eb bl cc dl=>Xd.turn1 c rfl λwc o=>Xp.buildSlice Xb c rfl (λ_=>rfl) λb0 wd ed aw l cz=>?_;have K:=((af.trans cc).trans o).trans l;have ah:Xl J.heap.size 98 4 wd (.slice (some ⟨b0,0,none⟩) 0 0) 0 (fl Xv []):=Xl.empty (by have:=((af.trans cc).trans o).size;omega) aw;refine Xd.turn1 c rfl λwe u=>Xp.appendA Xb c rfl (base:=J.heap.size) (xs:=fl Xv []) (news:=fl Xv r.lg) (ah.chg u (λ_ _ h=>h)) ((K.trans u)).size h.lr.noneA (XE _) (I4 Jc r.lg) ((h.lr.chg (bx.trans (K.trans u))).news Jc (by decide)) (Nt Ky r.lg) ⟨by have:=h.lm;omega,by have:=h.lm;show(0+r.lg.length)*48<=_;omega⟩ (λ_=>rfl) λv1 wx ai aj dt=>?_;have a8:=((ah.chg u (λ_ _ h=>h))).since (K.trans u) (XE _) aj;refine δn c ϱ λwf F=>?_;have d5:¬Ig (.slice (some ⟨b0,0,none⟩) 0 0) b5:=by
       intro h;have e:some b5=some b0:=h;have:=Option.some.inj e;have:=o.size;omega
      have n:Xl J.heap.size 98 4 wf v1 r.lg.length (fl Xv r.lg):=by
       have:=(ai.chg F (λ_ _ h=>h));rw[Ns,ZR,XS] at this;exact this
      obtain⟨a1,n1,c1,rfl⟩:=Xl.isSlice n;refine Xa.appendA (base:=J.heap.size) (xs:=fl Xv r.lg) (news:=Xv q0) Xb rfl n (((a8.trans F)).size) (λe=>by cases e) rfl (Lm (F.heap' (aj.heap ((l.trans u).heap' (o.heap' bl)) d5))) (Ky q0) ⟨by have:=h.lm;omega,by have:=h.lm;show(r.lg.length+1)*48<=_;omega⟩ ?_;intro v3 wy bm bn du;have f:=n.since (a8.trans F) (XE _) bn;have ak:Xl J.heap.size 98 4 wy v3 (r.lg.length+1) (fl Xv (r.lg++[q0])):=by
       rw[Kr,Lt];exact bm
      obtain⟨la,lcap,rfl,al,av,am,G⟩:=Xl.rowsN ak Jc (by simp);refine ζa ϱ (ζs (f.heap' be) ϱ λwz an y dv=>?_);have N:B ob:=by rw[W];exact .inr (.inl rfl)
      have O:B qb:=by rw[W];exact .inr (.inr (.inl rfl))
      have P:B rb:=by rw[W];exact .inl rfl
      have ao:Xc B J wz:=f.gr.trans (y.mono λ_ _ e=>by rw[e];exact P);refine ζd 3 (λz=>z=ob) (by kernel_rfl) ϱ λc=>δl c an ϱ (δl c (y.heap (f.heap' bf) (by omega)) ϱ (Xd.turn1 c rfl λwu H=>Xp.store Xb c rfl (H.heap' (y.heap (f.heap' ag) (by omega))) (by first|(intro h;exact rfl)|(intro h;omega)) rfl rfl rfl λwv ap Q dw=>?_));refine δn c ϱ λww I=>?_;refine ζs (I.heap' (Q.heap (H.heap' (y.heap (f.heap' bv) (by omega))) (by omega))) ϱ λwr aq R dx=>?_;have k:=(((((bw.trans ao).trans H.gr).trans (Q.mono λ_ _ e=>by rw[e];exact N)).trans I.gr).trans (R.mono λ_ _ e=>by rw[e];exact O));have T:=bb.since k (λz a e=>by have:=(C z e).1;omega);have bo:Q4 wr rp (Al M.pl (M.shs.length:Nat) i):=⟨E.o.far c4 k,E.f.far bh k,E.eo,E.ef⟩;have bp:¬B g:=λa=>by have:=(C g a).2;omega
      have j:=h.grow T;have U:Xc B wy wr:=((((y.mono λ_ _ e=>by rw[e];exact P).trans H.gr).trans (Q.mono λ_ _ e=>by rw[e];exact N)).trans I.gr).trans (R.mono λ_ _ e=>by rw[e];exact O);have ar:Xj B la:=λb off s e a=>by have:=G b off s e;have:=(C b a).2;omega
      have V:Yj w8 q0.pa:=λb off s e=>by rw[A] at e;cases e;exact Eu d0
      have a9:Zl wr q0:=⟨by rw[A,a6];exact(d1.far (S:=B) (λb' off s e=>by cases e;exact bp) k),by rw[a6,Df,bk];omega⟩;exact ζq rfl func157 (Xm.cell rfl rfl rfl (R.heap (I.heap' ap) (by omega)) rfl (.cell rfl rfl rfl aq rfl (.tmp rfl .nil))) ⟨{r with p:=rp,steps:=t,lg:=r.lg++[q0],la:=la,lcap:=lcap},q0,rfl,a5,⟨bo,j.sr,j.sl,j.sc,j.n,j.few,j.each,al.far ar U,av.grow U.size,am,d2,by show(r.lg++[q0]).map Xy=(M.lg++[(M.pl.free.getD 0 0,(M.pl.free.take i).tail)]).map lgP;rw[XI,XI,h.lge,ZB,QQ,a5];rfl,λq d=>(List.mem_append.1 d).elim (λd=>j.lgo q d) (λd=>by rw[ZN] at d;subst d;exact⟨a9,V.grow k.size⟩),bc⟩,⟨rfl,rfl,λS L D=>⟨(a7 S L D.o D.f).1,(a7 S L D.o D.f).2,D.sa,D.each,λb off s e a=>by have:=G b off s e;have:=L b a;have:=m.size;omega,λq d=>(List.mem_append.1 d).elim (λd=>D.lgo q d) (λd=>by rw[ZN] at d;subst d;exact λb off s e a=>by rw[A] at e;cases e;have:=L g a;have:=m.size;omega)⟩⟩,⟨a9,V.grow k.size,λb off s e=>by rw[A] at e;cases e;have:=m.size;omega⟩,T⟩
   ·have ac:Ct r.c M who size=Fa M (Xk r.c.classes size) who/\A2 r.c M who size=⟨Xk r.c.classes size,D3 M (Xk r.c.classes size) who,D2 M (Xk r.c.classes size) who,[]⟩/\Ab r.c M who size=Z9 M (Xk r.c.classes size) who:=by
     exact⟨by unfold Ct;rw[if_neg g1,if_neg au,if_neg g3],by unfold A2;rw[if_neg g1,if_neg au,if_neg g3],by unfold Ab;rw[if_neg g1,if_neg au,if_neg g3]⟩
    rw[ac.1,ac.2.1,ac.2.2];have gh:=Rh r.c.classes size;refine ζy ϱ (ζl cm ϱ (ζc ϱ (XfA r M (Xk r.c.classes size) who w5 (h.grow b2) hm ht) ?_));rintro _ w6 ⟨r',rfl,hR,hK,c2⟩;refine ζa ϱ (ζn ϱ λxb w7 e7 cs bq f1=>ζs cs ϱ λw8 eo cd fe=>?_);have c0:=bq.since cd (λz a e=>by omega);have d6:=c2.trans c0;refine ζl eo ϱ (ζb ϱ (ζs (d6.heap' cn) ϱ λJ ag a3 fa=>?_));have ai:B3 (λz=>z=ob) r':=hK.out h (λz a=>by omega) (λz a=>by omega);have n:B3 (λz=>z=qb) r':=hK.out h (λz a=>by omega) (λz a=>by omega);exact ζs (a3.heap (d6.heap' az) (by omega)) ϱ λwa ep d7 f4=>Xa.ret Xb rfl func157 (Xm.cell rfl rfl rfl (d7.heap ag (by omega)) rfl (.cell rfl rfl rfl ep rfl (.tmp rfl .nil))) ⟨r',⟨Xk r.c.classes size,D3 M (Xk r.c.classes size) who,D2 M (Xk r.c.classes size) who,none,0,[]⟩,rfl,rfl,((hR.grow c0).far ai a3).far n d7,hK.back b2.size,Xbb,((((b2.trans c2).trans c0).since a3 (λz a e=>by omega)).since d7 (λz a e=>by omega))⟩
  ·have d8:Ct r.c M who size=Qd r.c M size/\A2 r.c M who size=⟨0,0,0,[]⟩/\Ab r.c M who size=M:=by
    exact⟨by unfold Ct;rw[if_neg g1,if_pos g2],by unfold A2;rw[if_neg g1,if_pos g2],by unfold Ab;rw[if_neg g1,if_pos g2]⟩
   rw[d8.1,d8.2.1,d8.2.2];refine ζY ϱ (by simpa using g2) ?_;have c3:B3 (λz=>z=ob) r:=h.out (λz a=>by omega);have ff:∀w',Xc (λz=>z=ob) w4 w'->Xc Xe w w':=λw' ce=>ab.since ce (λz a e=>by omega);refine Xa.drawn (q:=6) (λz=>z=ob) Xb Xo (by kernel_rfl) rfl ?_;intro c;refine Xd.loads Xb c rfl b1 (by first|exact λh=>h|(intro h;omega)|assumption) rfl rfl ?_;refine Xd.build Xb c rfl rfl ?_;refine Xd.loads Xb c rfl b1 (by first|exact λh=>h|(intro h;omega)|assumption) rfl rfl ?_;refine Xd.call Xb c rfl (λw' ce=>Xbo r M size w' ((h.grow ab).far c3 ce) (hr.chg (ff w' ce)) db.2 dc.2) rfl ?_;refine Xd.turn1 c rfl λw5 a2=>Xp.store Xb c rfl (a2.heap' ay) (by first|(intro h;exact rfl)|(intro h;omega)) rfl rfl rfl λw6 er dy ez=>δn c ϱ λw7 bq=>?_;refine ζs (bq.heap' (dy.heap (a2.heap' cl) (by omega))) ϱ λw8 es cd fe=>?_;have hc:=(((ab.trans a2).since dy (λz a e=>by omega)).trans bq).since cd (λz a e=>by omega);exact ζq rfl func157 (Xm.cell rfl rfl rfl (cd.heap (bq.heap' er) (by omega)) rfl (.cell rfl rfl rfl es rfl (.tmp rfl .nil))) ⟨r,⟨0,0,0,none,0,[]⟩,rfl,rfl,h.grow hc,Ad.refl w r,Xbb,hc⟩
def Jh(a b:Plc):Bool:=decide (a.page=b.page/\a.pages=b.pages)
theorem Xk9(a b:Plc)(w:World)(ha:Rd .i64 w a.pa a.pages)(hb:Rd .i64 w b.pa b.pages)(hl:a.pages.length<=9223372036854775807):Xf prog 205 #[.agg (Xv a).toArray,.agg (Xv b).toArray] w (Grow (.bool (Jh a b)) w):=by
 refine ζe func205 ntmps205 ϱ (ζn ϱ λx P e1 H A M=>ζn ϱ λy I e2 r n N=>?_);have g:=n.heap' H;have c:=A.trans n;refine ζl g ϱ (ζl r ϱ (ζg ϱ (λs=>?_) λs=>?_))
 ·have i:a.page≠b.page:=by simpa using s
  have e:Jh a b=false:=decide_eq_false (λh=>i h.1);rw[e];exact ζr func205 ϱ ⟨rfl,c⟩
 ·have i:a.page=b.page:=by simpa using s
  refine ζl g ϱ (ζl r ϱ (ζg ϱ (λt=>?_) λt=>?_))
  ·have B:a.pages.length≠b.pages.length:=by simp at t;omega
   have e:Jh a b=false:=decide_eq_false (λh=>B (by rw[h.2]));rw[e];exact ζr func205 ϱ ⟨rfl,c⟩
  ·have u:a.pages.length=b.pages.length:=by simp at t;omega
   refine Xa.loop (α:=Nat) (λk=>[(2,false,.pointer (some ⟨x,0,none⟩)),(3,false,.pointer (some ⟨y,0,none⟩)),(5,false,.int .i64 k)])
    (λk w'=>Xc Xe I w'/\k<=a.pages.length/\∀j,j<k->a.pages.getD j 0=b.pages.getD j 0) (λk=>a.pages.length-k) 0 ⟨rfl,rfl,rfl,trivial⟩ ⟨Xc.refl _ _,XL _,λ_ h=>by omega⟩ ?_
   rintro k Q ⟨d,R,l⟩ ih;have o:=d.heap' g;refine ζa ϱ (ζl o ϱ (ζg ϱ (λv=>?_) λv=>?_))
   ·have p:k<a.pages.length:=by have:=of_decide_eq_true v;omega
    obtain⟨ba,oa,C,D⟩:=((ha.chg c).chg d) k p;obtain⟨bb,obb,E,F⟩:=((hb.chg c).chg d) k (by omega);refine ζd 11 Xe (by kernel_rfl) ϱ λf=>δl f o ϱ ?_;rw[C];refine δi k f ϱ (δk f D ϱ (δl f (d.heap' r) ϱ ?_));rw[E];refine δi k f ϱ (δk f F ϱ (δn f ϱ λS q=>ζg ϱ (λm=>?_) λm=>?_))
    ·have z:a.pages.getD k 0≠b.pages.getD k 0:=by simpa using m
     have e:Jh a b=false:=decide_eq_false (λh=>z (by rw[h.2]));rw[e];exact ζr func205 ϱ ⟨rfl,(c.trans d).trans q⟩
    ·have J:a.pages.getD k 0=b.pages.getD k 0:=by simpa using m
     refine ζj ϱ ?_;exact ih (k+1) _ _ ⟨d.trans q,p,λj T=>by
      by_cases e:j=k
      ·subst e;exact J
      ·exact l j (by omega)⟩ (by omega) ⟨rfl,rfl,rfl,trivial⟩
   ·have O:k=a.pages.length:=by have:=of_decide_eq_false v;omega
    have G:=List.ext_getElem u λj K L=>by
     have:=l j (by omega);rw[Gp K,Gp L] at this;exact this
    have e:Jh a b=true:=decide_eq_true ⟨i,G⟩;rw[e];exact ζr func205 ϱ ⟨rfl,c.trans d⟩
def B6(q x:Plc):Bool:=decide (q.cls=-1) && Jh x q
def De(q:Plc)(l:List Plc):List Plc:=l.filter λx=>!B6 q x
theorem Xay{l:List Plc}(h:i<l.length):De q (l.take (i+1))=De q (l.take i)++(if B6 q l[i] then [] else [l[i]]):=by
 unfold De;rw[ZC,XB h,YP];by_cases e:B6 q l[i]=true
 ·rw[if_pos e];simp[e]
 ·rw[if_neg e];simp[e]
theorem Vv{l:List Plc}(h:i<l.length):(l.take (i+1)).any (B6 q)=((l.take i).any (B6 q)||B6 q l[i]):=by
 rw[ZC,XB h,List.any_append]
 simp
theorem Xi2{ps:List Plc}(hl:ps.map Xy=lg.map lgP)(hq:q.cls=-1):(ps.any (B6 q)=lg.any λe=>decide ((e.1:Int)=q.page/\X1 e.2=q.pages))/\(De q ps).map Xy=(lg.filter λe=>!decide ((e.1:Int)=q.page/\X1 e.2=q.pages)).map lgP:=by
 induction ps generalizing lg with
 |nil=>
  cases lg with
  |nil=>exact⟨rfl,rfl⟩
  |cons a r=>simp at hl
 |cons x xs ih=>
  cases lg with
  |nil=>simp at hl
  |cons a r=>
   rw[ZB,ZB] at hl;obtain⟨b,f⟩:=List.cons.inj hl;obtain⟨g,c⟩:=ih f;have e1:x.page=(a.1:Nat):=congrArg PlcM.page b;have e2:x.pages=X1 a.2:=congrArg PlcM.pages b;have e3:B6 q x=decide ((a.1:Int)=q.page/\X1 a.2=q.pages):=by
    unfold B6 Jh;rw[decide_eq_true hq,YI,e1,e2]
   refine⟨by rw[List.any_cons,List.any_cons,e3,g],?_⟩;unfold De at *;rw[XY,XY,e3];by_cases d:decide ((a.1:Int)=q.page/\X1 a.2=q.pages)=true
   ·rw[d];exact c
   ·have h:decide ((a.1:Int)=q.page/\X1 a.2=q.pages)=false:=by simpa using d
    rw[h];simp only[Bool.not_false,if_true,ZB];rw[c,b]
theorem Tg(hn:(Y9 lg).Nodup){r r':List Nat}(h:(n,r)∈lg)(h':(n,r')∈lg):r=r':=by
 obtain⟨a,b,e1,e2⟩:=N2 hn h;rw[e1] at h' hn;have c:Y9 (a++(n,r)::b)=Y9 a++((n::r)++Y9 b):=by rw[Jy];rfl
 rw[c] at hn;obtain⟨_,d,e⟩:=List.nodup_append.1 hn;obtain⟨_,_,f⟩:=List.nodup_append.1 d;rcases List.mem_append.1 h' with g|g
 ·exact absurd rfl (e n (Id g (by simp)) n (by simp))
 ·rcases List.mem_cons.1 g with g|g
  ·exact((Prod.mk.inj g).2).symm
  ·exact absurd rfl (f n (by simp) n (Id g (by simp)))
theorem Xi3(hn:(Y9 lg).Nodup){r:List Nat}(h:(n,r)∈lg){p:Int}{ps:List Int}(hp:p=n)(hps:X1 r=ps):(lg.any λe=>decide ((e.1:Int)=p/\X1 e.2=ps))=true/\(lg.filter λe=>!decide ((e.1:Int)=p/\X1 e.2=ps))=Cp lg n:=by
 refine⟨List.any_eq_true.2 ⟨(n,r),h,decide_eq_true ⟨hp.symm,hps⟩⟩,?_⟩;unfold Cp;refine List.filter_congr λe a=>?_;by_cases e1:e.1=n
 ·have e2:=Tg hn (n:=n) (by rw[<-e1];exact a) h;rw[decide_eq_true ⟨by rw[e1];exact hp.symm,by rw[e2];exact hps⟩,e1]
  simp
 ·rw[decide_eq_false (λh=>e1 (by have:=h.1;omega))];simp[e1]
theorem Xd6{p:Int}{ps:List Int}(h:∀r,Cz lg p=some r->X1 r≠ps)(hn:(Y9 lg).Nodup):(lg.any λe=>decide ((e.1:Int)=p/\X1 e.2=ps))=false:=by
 rw[YZ];intro e b c;obtain⟨d,f⟩:=of_decide_eq_true c;cases a:Cz lg p with
 |none=>exact Ti a e b d
 |some r=>
  obtain⟨n,i,g⟩:=L1 a;have e1:e.1=n:=by omega
  have:e.2=r:=Tg hn (n:=n) (by rw[<-e1];exact b) g;exact h r a (by rw[<-this];exact f)
def XcA(M:RmM):Prop:=∀(k:Nat) (x:Sm),M.shs[k]?=some x->x.Pos
theorem Zm.mpos(h:Zm F w R M):XcA M:=λk x a=>by
 obtain⟨G,_,b,_⟩:=h.shelf a;exact b.pos
theorem Xd8{p:α->Bool}{l:List α}(_ : -1<=idx p l):idx p l<l.length:=by
 by_cases h:∃k,∃a:k<l.length,p l[k]=true/\∀j (b:j<l.length),j<k->p l[j]=false
 ·obtain⟨k,a,d,e⟩:=h;rw[I5 a e d];omega
 ·rw[Hl λj b=>?_]
  ·omega
  ·induction j using QE with
   |ind j ih=>
    cases f:p l[j] with
    |false=>rfl
    |true=>exact absurd ⟨j,b,f,λi hi c=>ih i c hi⟩ h
theorem Ri{n:Int}(h:Xk zs n≠-1):0<=Xk zs n/\Xk zs n<zs.length:=by
 have a:=Rh zs n;refine⟨by omega,?_⟩;unfold Xk at *;split at h
 ·exact absurd rfl h
 ·rename_i b
  rw[if_neg b] at a;rw[if_neg b];exact Xd8 a
theorem XiK(hok:M.Ok c)(hw:0<=who)(h:Qd c M size=0):Ct c M who size=0:=by
 have a:(B8 c M size:Int)<=M.pl.free.length:=by
  unfold Qd at h;split at h
  ·exact absurd h (by decide)
  ·split at h
   ·exact absurd h (by decide)
   ·omega
 unfold Ct;rw[if_neg (by omega),if_neg (by omega)];split
 ·rfl
 ·rename_i b
  obtain⟨g,i⟩:=Ri b;obtain⟨k,d⟩:=XD g;rw[d] at i⊢;have e:k<M.shs.length:=by have:=hok.n;omega
  have f:=Oj e;unfold Fa;rw[f];simp only
  unfold Qm;rw[if_neg (by omega),if_neg];intro ⟨j,l⟩;unfold B8 at a;rw[if_neg b,d] at a;unfold Zf at a;rw[f] at a;simp only[j,l] at a;omega
theorem Xlr{q:PlM}{t:Int}:Zc {M with shs:=M.shs.set k x,pl:=q,tot:=t} j=if k=j/\k<M.shs.length then some x else Zc M j:=by
 unfold Zc;rw[if_pos (Int.natCast_nonneg _),if_pos (Int.natCast_nonneg _),XA];show(M.shs.set k x)[j]?=_
 by_cases e:k=j
 ·subst e;by_cases a:k<M.shs.length
  ·rw[if_pos ⟨rfl,a⟩,XF a]
  ·rw[if_neg (λh=>a h.2),XV (by rw[XG];omega),XV (by omega)]
 ·rw[if_neg (λh=>e h.1),XQ e]
theorem Xka{n i:Int}(h:Qo x n i=-1):B0 x n i≠0:=by
 unfold Qo at h;unfold B0;cases a:Zi x.pg n with
 |none=>simp
 |some p=>
  rw[a] at h;simp only at h⊢
  unfold Qx;split
  ·decide
  ·first|decide|(rw[if_pos h];decide)
theorem Ol{k:Int}(h:k<0):Zc M k=none:=Rx (.inl h)
theorem Ut{l:PgL}{q:List Int}(hn:(l.map (·.1)).Nodup)(hq:(n,q)∈l)(m:Int):Zi (Zo l n p) m=if m=n then some p else Zi l m:=by
 by_cases e:m=n
 ·rw[if_pos e,e];exact Xmj hn hq
 ·rw[if_neg e]
  clear hn hq
  induction l with
  |nil=>rfl
  |cons a r ih=>
   obtain⟨k,t⟩:=a;by_cases c:k=n
   ·have:Zo ((k,t)::r) n p=(n,p)::Zo r n p:=by show(if k=n then (n,p) else (k,t))::Zo r n p=_;rw[if_pos c]
    rw[this];unfold Zi;rw[if_neg (λh=>e h.symm),if_neg (λh=>e (by omega))];exact ih
   ·have:Zo ((k,t)::r) n p=(k,t)::Zo r n p:=by show(if k=n then (n,p) else (k,t))::Zo r n p=_;rw[if_neg c]
    rw[this];unfold Zi;by_cases b:(k:Int)=m
    ·rw[if_pos b,if_pos b]
    ·rw[if_neg b,if_neg b];exact ih
theorem Xmh{l:PgL}(hn:n∉l.map (·.1))(m:Int):Zi (l++[(n,p)]) m=if m=n then some p else Zi l m:=by
 induction l with
 |nil=>
  show Zi [(n,p)] m=_
  unfold Zi;by_cases e:(n:Int)=m
  ·rw[if_pos e,if_pos e.symm]
  ·rw[if_neg e,if_neg (λh=>e h.symm)];rfl
 |cons a r ih=>
  obtain⟨k,t⟩:=a;have d:k≠n:=λh=>hn (by simp[h]);have c:n∉r.map (·.1):=λh=>hn (by simp at h⊢;exact .inr h);show(if (k:Int)=m then some t else Zi (r++[(n,p)]) m)=if m=n then some p else (if (k:Int)=m then some t else Zi r m)
  rw[ih c];by_cases b:(k:Int)=m
  ·rw[if_pos b,if_pos b,if_neg (by omega)]
  ·rw[if_neg b,if_neg b]
theorem Xmi{l:PgL}(m:Int):Zi (Qk l n) m=if m=n then none else Zi l m:=by
 induction l with
 |nil=>show none=_;split <;> rfl
 |cons a r ih=>
  obtain⟨k,t⟩:=a;by_cases c:k=n
  ·have:Qk ((k,t)::r) n=Qk r n:=by unfold Qk;rw[XY];simp[c]
   rw[this,ih];by_cases e:m=n
   ·rw[if_pos e,if_pos e]
   ·rw[if_neg e,if_neg e];show _=if (k:Int)=m then some t else Zi r m
    rw[if_neg (by omega)]
  ·have:Qk ((k,t)::r) n=(k,t)::Qk r n:=by unfold Qk;rw[XY];simp[c]
   rw[this];show(if (k:Int)=m then some t else Zi (Qk r n) m)=if m=n then none else (if (k:Int)=m then some t else Zi r m)
   rw[ih];by_cases b:(k:Int)=m
   ·rw[if_pos b,if_pos b,if_neg (by omega)]
   ·rw[if_neg b,if_neg b]
theorem T0{v:Int}(h:k<p.length)(j:Int):Z4 (p.set k v) j=if j=k then v else Z4 p j:=by
 unfold Z4;by_cases a:0<=j
 ·obtain⟨j,rfl⟩:=XD a;rw[if_pos a,if_pos a];show(p.set k v).getD j (-1)=_
  rw[Nx];by_cases e:k=j
  ·subst e;rw[if_pos ⟨rfl,h⟩,if_pos rfl]
  ·rw[if_neg (λh=>e h.1),if_neg (by omega)];rfl
 ·rw[if_neg a,if_neg a,if_neg (by omega)]
theorem Rf{j:Int}(h:Z4 p j≠-1):0<=j/\j<p.length:=by
 unfold Z4 at h;split at h
 ·rename_i a
  refine⟨a,?_⟩;refine Int.not_le.1 λb=>h ?_;rw[XC,XV (by omega)];rfl
 ·exact absurd rfl h
theorem Ty{n i:Int}(hok:x.Ok)(h:Qo x n i≠-1):∃(m:Nat) (p:List Int),n=m/\(m,p)∈x.pg/\Zi x.pg n=some p/\0<=i/\i<x.blocks/\Qo x n i=Z4 p i:=by
 unfold Qo at h⊢;cases c:Zi x.pg n with
 |none=>rw[c] at h;exact absurd rfl h
 |some p=>
  rw[c] at h;simp only at h
  obtain⟨m,rfl,d⟩:=Ga c;have e:=(hok.each _ d).2.1;obtain⟨a,b⟩:=Rf h;exact⟨m,p,rfl,d,rfl,a,by simp only at e;omega,rfl⟩
theorem XiQ{n i:Int}:B0 x n i=0↔Qo x n i≠-1:=by
 constructor
 ·intro h d;exact Xka d h
 ·intro h;unfold Qo at h;unfold B0;cases c:Zi x.pg n with
  |none=>rw[c] at h;exact absurd rfl h
  |some p=>
   rw[c] at h;simp only at h⊢
   obtain⟨a,b⟩:=Rf h;unfold Qx;rw[if_neg (by omega),if_neg h]
theorem Xj4{n i:Int}(hw:0<=who):G3 x n i who=0↔Qo x n i≠-1:=by
 unfold Qo G3;cases d:Zi x.pg n with
 |none=>simp
 |some p=>
  simp only
  unfold Ak;constructor
  ·intro h c;split at h
   ·cases h
   ·first|(rw[if_pos c] at h;cases h)|(cases h)
  ·intro h;obtain⟨a,b⟩:=Rf h;rw[if_neg (by omega),if_neg h]
theorem XiS{n i:Int}(hok:x.Ok)(h:Qo x n i≠-1)(m j:Int):Qo (Qj x n i) m j=if m=n/\j=i then -1 else Qo x m j:=by
 obtain⟨k,p,rfl,q,o,u,B,e⟩:=Ty hok h;obtain⟨i,rfl⟩:=XD u;rw[e] at h;have w:=(hok.each _ q).2.1;simp only at w
 have r:Qx p i=0:=by unfold Qx;rw[if_neg (by omega),if_neg h]
 have y:Qj x (k:Nat) i=x.giveAt k p i:=by unfold Qj;rw[o];simp only;rw[if_pos r,XA]
 rw[y];have f:Z7 p i=p.set i (-1):=by unfold Z7;rw[if_pos r,XA]
 unfold Sm.giveAt;simp only
 by_cases s:Xu (Z7 p i)=0
 ·rw[if_pos s];unfold Qo;simp only
  rw[Xmi];by_cases c:m=k
  ·rw[if_pos c];by_cases d:j=i
   ·rw[if_pos ⟨c,d⟩]
   ·rw[if_neg (λh=>d h.2),c,o];simp only
    have t:Z4 (Z7 p i) j=-1:=Decidable.byContradiction λg=>by
     obtain⟨a,b⟩:=Rf g;obtain⟨j,rfl⟩:=XD a;have l:j<(Z7 p i).length:=by omega
     have:=Hu (v:=-1) l;rw[if_pos rfl] at this;have z:(Z7 p i).getD j 0≠-1:=by
      rw[Nv l];intro A;apply g
      unfold Z4;rw[if_pos a,XA];exact A
     rw[if_neg z] at this;omega
    rw[f,T0 (by omega),if_neg d] at t;exact t.symm
  ·rw[if_neg c,if_neg (λh=>c h.1)]
 ·rw[if_neg s];unfold Qo;simp only
  rw[Ut hok.nodup q];by_cases c:m=k
  ·rw[if_pos c,c,o];simp only
   rw[f,T0 (by omega)];by_cases d:j=i
   ·rw[if_pos d,if_pos ⟨by trivial,d⟩]
   ·rw[if_neg d,if_neg (λh=>d h.2)]
  ·rw[if_neg c,if_neg (λh=>c h.1)]
theorem Xj6{n i:Int}(hok:x.Ok)(hw:0<=who)(h:Qo x n i≠-1)(m j:Int):Qo (Aq x n i who) m j=if m=n/\j=i then who else Qo x m j:=by
 obtain⟨k,p,rfl,c,d,g,r,e⟩:=Ty hok h;obtain⟨i,rfl⟩:=XD g;rw[e] at h;have l:=(hok.each _ c).2.1;simp only at l
 have o:Ak p i who=0:=by unfold Ak;rw[if_neg (by omega),if_neg h]
 have q:Aq x (k:Nat) i who=x.ownAt k p i who:=by unfold Aq;rw[d];simp only[XA]
 rw[q];have f:Bp p i who=p.set i who:=by unfold Bp;rw[if_pos o,XA]
 unfold Sm.ownAt Qo;simp only
 rw[Ut hok.nodup c];by_cases a:m=k
 ·rw[if_pos a,a,d];simp only
  rw[f,T0 (by omega)];by_cases b:j=i
  ·rw[if_pos b,if_pos ⟨by trivial,b⟩]
  ·rw[if_neg b,if_neg (λh=>b h.2)]
 ·rw[if_neg a,if_neg (λh=>a h.1)]
theorem XgI(hok:x.Ok)(hw:0<=who)(hp:(n,p)∈x.pg)(hf:Xu p≠x.blocks)(m j:Int):Qo (x.takeAt n p who) m j=(if m=n/\j=Yf p then who else Qo x m j)/\Qo x n (Yf p)=-1/\0<=Yf p/\Yf p<x.blocks:=by
 have f:=(hok.each _ hp).2.1;simp only at f
 have g:=A6 hok.nodup hp;obtain⟨e1,_⟩:=Ja (p:=p) (who:=who) hw (by rw[f];exact hf);have o:¬Yf p<0:=λe=>by have:=Rc.1 e;omega
 obtain⟨c,d⟩:=T5 o;obtain⟨k,i⟩:=XD (show 0<=Yf p by omega);rw[i] at c d⊢;simp only[XA] at c d;have l:Z5 p who=p.set k who:=by unfold Z5;rw[if_pos e1,i,XA]
 refine⟨?_,?_,by omega,by omega⟩
 ·unfold Sm.takeAt Qo;simp only
  rw[Ut hok.nodup hp,l];by_cases a:m=n
  ·rw[if_pos a,a,g];simp only
   rw[T0 c];by_cases b:j=k
   ·rw[if_pos b,if_pos ⟨by trivial,b⟩]
   ·rw[if_neg b,if_neg (λh=>b h.2)]
  ·rw[if_neg a,if_neg (λh=>a h.1)]
 ·unfold Qo;rw[g];simp only
  unfold Z4;rw[if_pos (by omega),XA];exact d
structure Xho(x:Sm)(pl:PlM)(who:Int):Prop where
 own:∀m j,Qo (Q0 x pl who) m j=if m=Cb x pl who/\j=Ca x pl who then who else Qo x m j
 free:Qo x (Cb x pl who) (Ca x pl who)=-1
 n:0<=Cb x pl who/\Cb x pl who<pl.own.length
 a:0<=Ca x pl who/\Ca x pl who<x.blocks
 used:Yh (Q0 x pl who).pg=Yh x.pg+1
 ok:(Q0 x pl who).Ok
theorem XgJ{pl:PlM}(hok:x.Ok)(hof:x.Of pl)(hg:pl.Good)(hE:Qm x pl who=0):Xho x pl who:=by
 rcases J9 x pl who with⟨l,_⟩|⟨_,q,⟨n,r,s,d,A,g,h,e⟩|⟨n,r,s,v,d,A,g,h,e⟩⟩
 ·exact absurd hE l
 ·obtain⟨p,c⟩:=hok.osub n (by rw[s];simp);rw[A6 hok.nodup c] at g;simp only[ZP] at g;rw[g] at d e;have f:=(hok.each _ c).2.2.1 (by rw[s];simp);simp only at f
  have t:=(hok.each _ c).2.1;simp only at t
  have T:=λm j=>XgI hok q c f m j;obtain⟨_,e2⟩:=Ja (p:=p) (who:=who) q (by rw[t];exact f);refine⟨λm j=>by rw[d,h,e];exact(T m j).1,by rw[h,e];exact(T 0 0).2.1,?_,by rw[e];exact(T 0 0).2.2,?_,by rw[d];exact hok.takeAt q c (by rw[s];simp)⟩
  ·rw[h];have:=(hof _ c).1;simp only at this;omega
  ·rw[d];have:=Mm (p:=Z5 p who) hok.nodup c;show Yh (Zo _ _ _)=_
   omega
 ·have i:=Nu hok hof hg (n:=n) (by rw[v];simp);have D:=(hg.free n (by rw[v];simp)).1;have w:n<1024:=by have:=hg.len;omega
  have o:=hok.fresh w i;have c:(n,List.replicate x.blocks (-1))∈(x.fresh n).pg:=ZU _ (by simp);rw[A6 o.nodup c] at g;simp only[ZP] at g;rw[g] at d e;have E:=hok.blk;have f:Xu (List.replicate x.blocks (-1))≠(x.fresh n).blocks:=by rw[Ht];show 0≠x.blocks;omega
  have T:=λm j=>XgI o q c f m j;have u:∀m j,Qo (x.fresh n) m j=Qo x m j:=λm j=>by
   unfold Qo;show(match Zi (x.pg++[(n,List.replicate x.blocks (-1))]) m with|some p=>Z4 p j|none=>-1)=_
   rw[Xmh i];by_cases y:m=n
   ·rw[if_pos y];have B:Zi x.pg m=none:=by
     cases hg:Zi x.pg m with
     |none=>rfl
     |some p=>
      obtain⟨k,F,z⟩:=Ga hg;have:k=n:=by omega
      subst this;exact absurd (List.mem_map.2 ⟨_,z,rfl⟩) i
    rw[B];simp only
    refine Decidable.byContradiction λl=>?_;obtain⟨a,b⟩:=Rf l;apply l
    unfold Z4;rw[if_pos a,XC,XW];split <;> rfl
   ·rw[if_neg y];rfl
  have t:(List.replicate x.blocks (-1:Int)).length=x.blocks:=XH;obtain⟨_,e2⟩:=Ja (p:=List.replicate x.blocks (-1)) (who:=who) q (by rw[Ht,t];omega);refine⟨λm j=>by rw[d,h,e,(T m j).1,u],by rw[h,e,<-u];exact(T 0 0).2.1,by rw[h];omega,by rw[e];exact(T 0 0).2.2,?_,by rw[d];exact o.takeAt q c (by show n∈n::x.opn;simp)⟩;rw[d];have C:=Mm (p:=Z5 (List.replicate x.blocks (-1)) who) o.nodup c;have G:Yh (x.fresh n).pg=Yh x.pg:=by show Yh (x.pg++_)=_;rw[XbN,Ht];rfl
  rw[Ht] at C e2;show Yh (Zo _ _ _)=_
  omega
structure Yx(c:Conf)(M:RmM):Prop where
 ok:M.Ok c
 mok:Iy M
 pos:XcA M
theorem XbM(hp:x.Pos)(h:0<Xu p):∀e∈Zo x.pg n p,0<Xu e.2:=λe a=>by
 rcases E8 a with⟨rfl,_⟩|⟨_,a⟩
 ·exact h
 ·exact hp e a
theorem XmS{pl:PlM}(hok:x.Ok)(hpos:x.Pos)(hof:x.Of pl)(hg:pl.Good):(Q0 x pl who).Pos:=by
 rcases J9 x pl who with⟨_,h,_⟩|⟨_,j,⟨n,r,f,g,o,a,_⟩|⟨n,r,f,k,g,o,a,_⟩⟩
 ·rw[h];exact hpos
 ·obtain⟨p,b⟩:=hok.osub n (by rw[f];simp);rw[A6 hok.nodup b] at a;simp only[ZP] at a;rw[g,a];have c:=(hok.each _ b).2.1;have d:=(hok.each _ b).2.2.1 (by rw[f];simp);simp only at c d
  obtain⟨_,e2⟩:=Ja (p:=p) (who:=who) j (by rw[c];exact d);exact XbM hpos (by omega)
 ·have i:=Nu hok hof hg (n:=n) (by rw[k];simp);have l:n<1024:=by have:=(hg.free n (by rw[k];simp)).1;have:=hg.len;omega
  have b:(n,List.replicate x.blocks (-1))∈(x.fresh n).pg:=ZU _ (by simp);rw[A6 (hok.fresh l i).nodup b] at a;simp only[ZP] at a;rw[g,a];have c:(List.replicate x.blocks (-1:Int)).length=x.blocks:=XH;have q:=hok.blk;obtain⟨_,e2⟩:=Ja (p:=List.replicate x.blocks (-1)) (who:=who) j (by rw[Ht,c];omega);intro e he;rcases E8 he with⟨rfl,_⟩|⟨m,he⟩
  ·show 0<Xu (Z5 _ _);omega
  ·rcases List.mem_append.1 he with he|he
   ·exact hpos e he
   ·have:e=(n,List.replicate x.blocks (-1)):=by simpa using he
    subst this;exact absurd rfl m
theorem XiT{n i:Int}(hpos:x.Pos):(Qj x n i).Pos:=by
 unfold Qj;cases d:Zi x.pg n with
 |none=>exact hpos
 |some p=>
  simp only
  by_cases a:Qx p i=0
  ·rw[if_pos a];unfold Sm.giveAt;simp only
   by_cases b:Xu (Z7 p i)=0
   ·rw[if_pos b];intro e c;exact hpos e (Ie.1 c).2
   ·rw[if_neg b];exact XbM hpos (by omega)
  ·rw[if_neg a];exact hpos
theorem Xj8{n i:Int}(hpos:x.Pos):(Aq x n i who).Pos:=by
 unfold Aq;cases a:Zi x.pg n with
 |none=>exact hpos
 |some p=>
  obtain⟨m,rfl,b⟩:=Ga a;exact XbM hpos (by rw[T3];exact hpos _ b)
theorem XiR{n i:Int}(hok:x.Ok):(Qj x n i).Ok:=by
 unfold Qj;cases b:Zi x.pg n with
 |none=>exact hok
 |some p=>
  obtain⟨m,rfl,c⟩:=Ga b;simp only[XA];by_cases a:Qx p i=0
  ·rw[if_pos a];exact hok.giveAt c a
  ·rw[if_neg a];exact hok
theorem Xj5{n i:Int}(hok:x.Ok):(Aq x n i who).Ok:=by
 unfold Aq;cases a:Zi x.pg n with
 |none=>exact hok
 |some p=>
  obtain⟨m,rfl,b⟩:=Ga a;simp only[XA];exact hok.ownAt b
theorem XmR{pl:PlM}(hok:x.Ok)(hof:x.Of pl)(hg:pl.Good):(Q0 x pl who).Ok:=by
 by_cases a:Qm x pl who=0
 ·exact(XgJ hok hof hg a).ok
 ·have:Q0 x pl who=x:=by unfold Q0;rw[if_neg a]
  rw[this];exact hok
section
variable {c:Conf}{M:RmM}
theorem Yx.set{k:Nat}{x x':Sm}{q:PlM}(h:Yx c M)(hx:M.shs[k]?=some x)(hE:Gf M.pl q x.cls)(hc:x'.cls=x.cls)(hb:x'.blocks=x.blocks)(hs:Zn q+x.pg.length=Zn M.pl+x'.pg.length)(hok:x'.Ok)(hof:x'.Of q)(hpos:x'.Pos):Yx c (D1 M k x' q):=by
 have f:=(List.getElem?_eq_some_iff.1 hx).1;obtain⟨e1,_⟩:=h.ok.each k x hx;have get:∀(j:Nat) (y:Sm),(D1 M k x' q).shs[j]?=some y->(j=k/\y=x')\/(j≠k/\M.shs[j]?=some y):=λj y d=>by
  replace d:(M.shs.set k x')[j]?=some y:=d;by_cases e:k=j
  ·subst e;rw[XF f] at d;cases d;exact .inl ⟨rfl,rfl⟩
  ·rw[XQ e] at d;exact .inr ⟨λh=>e h.symm,d⟩
 refine⟨h.ok.set h.mok.good hx hE hc hb hs,⟨λj y d=>?_,hE.good h.mok.good ((h.mok.sh k x hx).1.cls)⟩,λj y d=>?_⟩
 ·rcases get j y d with⟨_,rfl⟩|⟨g,d⟩
  ·exact⟨hok,hof⟩
  ·obtain⟨a,b⟩:=h.mok.sh j y d;obtain⟨e2,_⟩:=h.ok.each j y d;exact⟨a,hE.of h.mok.good b (by omega) (by omega)⟩
 ·rcases get j y d with⟨_,rfl⟩|⟨_,d⟩
  ·exact hpos
  ·exact h.pos j y d
theorem Yx.tot(h:Yx c M){t:Int}(ht:0<=t/\t<=4611686018427387904):Yx c {M with tot:=t}:=⟨{h.ok with tot:=ht},⟨h.mok.sh,h.mok.good⟩,h.pos⟩
theorem Yx.charge(h:Yx c M)(n:Int):Yx c {M with tot:=Xx M.tot n}:=h.tot (Nj h.ok.tot)
theorem XfU(k:Nat)(x:Sm)(q:PlM):Fz M k x q={D1 M k x q with tot:=Xx M.tot (H8 M.pl q)}:=rfl
theorem Yx.take(h:Yx c M)(k who:Int):Yx c (Z9 M k who):=by
 unfold Z9;cases b:Zc M k with
 |none=>exact h
 |some x=>
  obtain⟨n,rfl,d,a⟩:=Dt b;simp only[XA];split
  ·obtain⟨xo,xf⟩:=h.mok.sh n x a;obtain⟨e1,e2,e3,e4⟩:=Xb2 x M.pl who h.mok.good xo.cls;rw[XfU];exact(h.set a e1 e2 e3 e4 (XmR xo xf h.mok.good) (XgK x M.pl who xf h.mok.good) (XmS xo (h.pos n x a) xf h.mok.good)).tot (Nj h.ok.tot)
  ·exact h
theorem Yx.give(h:Yx c M)(k n i:Int):Yx c (Qb M k n i):=by
 unfold Qb;cases b:Zc M k with
 |none=>exact h
 |some x=>
  obtain⟨m,rfl,d,a⟩:=Dt b;simp only[XA];split
  ·obtain⟨xo,xf⟩:=h.mok.sh m x a;obtain⟨e1,e2,e3,e4⟩:=Xas x M.pl n i xo xf;rw[XfU];exact(h.set a e1 e2 e3 e4 (XiR xo) (XdX x M.pl n i xo xf) (XiT (h.pos m x a))).tot (Nj h.ok.tot)
  ·exact h
theorem Yx.own(h:Yx c M)(k n i who:Int):Yx c (Qe M k n i who):=by
 unfold Qe;cases b:Zc M k with
 |none=>exact h
 |some x=>
  obtain⟨m,rfl,d,a⟩:=Dt b;simp only[XA];obtain⟨xo,xf⟩:=h.mok.sh m x a;obtain⟨e1,e2,e3,e4⟩:=XaX x M.pl n i who;exact h.set a e1 e2 e3 e4 (Xj5 xo) (Xe2 x M.pl n i who xf) (Xj8 (h.pos m x a))
theorem Yx.big(h:Yx c M){many:Nat}(h1:1<=many)(hm:many<=M.pl.free.length):Yx c (D0 M many):=by
 obtain⟨d,_⟩:=Mb (who:=((M.shs.length:Nat):Int)) (by omega) h.mok.good many hm;exact⟨h.ok.big h.mok.good h1 hm,⟨λk x e=>by
  obtain⟨a,b⟩:=h.mok.sh k x e;exact⟨a,Xfg (by omega) h.mok.good hm a.cls b⟩,d⟩,h.pos⟩
theorem Xjn(h:M.Ok c){r:List Nat}(hm:(n,r)∈M.lg):(n::r).Nodup:=by
 obtain⟨A,B,eA,_⟩:=N2 h.nd hm;have e:Y9 M.lg=Y9 A++((n::r)++Y9 B):=by rw[eA,Jy];rfl
 have a:=h.nd;rw[e] at a;exact(List.nodup_append.1 (List.nodup_append.1 a).2.1).1
theorem Yx.gone(h:Yx c M){n:Nat}{r:List Nat}(hm:(n,r)∈M.lg):Yx c (Hy M n r):=by
 obtain⟨a,b⟩:=h.ok.gone h.mok.good hm;have e:∀m∈n::r,m<M.pl.own.length/\M.pl.own.getD m 0=(M.shs.length:Int):=λm d=>h.ok.lg m (Id hm d);exact⟨a,⟨λk x f=>by
  obtain⟨xo,xf⟩:=h.mok.sh k x f;have i:k<M.shs.length:=(List.getElem?_eq_some_iff.1 f).1;have g:=(h.ok.each k x f).1;exact⟨xo,Xff h.mok.good (Xjn h.ok hm) (λm d=>⟨(e m d).1,by have:=(e m d).2;omega⟩) xf (λm d=>by have:=(e m d).2;omega)⟩,b⟩,h.pos⟩
theorem XiH(hmay:X6 c=true)(h:Qd c M size=0)(hp:Xk c.classes size=-1):2<=(Zq size c.size).toNat/\(Zq size c.size).toNat<=M.pl.free.length/\1<=size/\size<=c.most:=by
 have a:=Yp hmay;have f:(B8 c M size:Int)<=M.pl.free.length/\¬(size<1\/c.most<size):=by
  unfold Qd at h;split at h
  ·exact absurd h (by decide)
  ·split at h
   ·exact absurd h (by decide)
   ·exact⟨by omega,by assumption⟩
 have e:B8 c M size=Zq size c.size:=by unfold B8;rw[if_pos hp]
 have b:2<=Zq size c.size:=by
  have g:=a.size;have d:=a.most;have i:0<=(size-1)/c.size:=ZX (by omega) (by omega);have j:(size-1)/c.size<=size-1:=YE _ (by omega);have e4:Z2 size c.size=(size-1)/c.size+1:=by unfold Z2;rw[if_neg (by omega)]
  unfold Zq;rw[e4,if_neg (by omega)];omega
 omega
theorem Yx.drop(h:Yx c M)(q:PlcM):Yx c (Ym M q):=by
 unfold Ym;split
 ·exact h.give _ _ _
 ·split
  ·exact h
  ·rename_i r a
   split
   ·obtain⟨n,b,d⟩:=L1 a;rw[b,XA];exact h.gone d
   ·exact h
theorem Om{q:PlM}(hk:k<M.shs.length)(j:Int):Zc (D1 M k x' q) j=if j=k then some x' else Zc M j:=by
 by_cases a:j<0
 ·rw[if_neg (by omega),Ol a,Ol a]
 ·obtain⟨j,rfl⟩:=XD (show 0<=j by omega);have:=Xlr (M:=M) (k:=k) (j:=j) (x:=x') (q:=q) (t:=M.tot);have e:D1 M k x' q={M with shs:=M.shs.set k x',pl:=q,tot:=M.tot}:=rfl;rw[e,this];by_cases h:k=j
  ·rw[if_pos ⟨h,hk⟩,if_pos (by omega)]
  ·rw[if_neg (λb=>h b.1),if_neg (by omega)]
theorem XbB{q:PlM}(hx:M.shs[k]?=some x)(j n a:Int):Zh (D1 M k x' q) j n a=if j=k then Qo x' n a else Zh M j n a:=by
 unfold Zh;rw[Om ((List.getElem?_eq_some_iff.1 hx).1)];by_cases h:j=k
 ·rw[if_pos h,if_pos h]
 ·rw[if_neg h,if_neg h]
theorem XfS(k:Nat)(x:Sm)(q:PlM)(j n a:Int):Zh (Fz M k x q) j n a=Zh (D1 M k x q) j n a:=rfl
theorem Jf(hx:M.shs[k]?=some x)(n a:Int):Zh M (k:Nat) n a=Qo x n a:=by
 unfold Zh;rw[Oj ((List.getElem?_eq_some_iff.1 hx).1),((List.getElem?_eq_some_iff.1 hx).2)]
theorem Ui(h:Yx c M){k n a:Int}(ho:Zh M k n a≠-1):∃(j:Nat) (x:Sm),k=j/\j<c.classes.length/\M.shs[j]?=some x/\Qo x n a=Zh M k n a/\0<=n/\n<c.pages/\0<=a/\a<Qi c k:=by
 unfold Zh at ho;cases d:Zc M k with
 |none=>rw[d] at ho;exact absurd rfl ho
 |some x=>
  rw[d] at ho;simp only at ho
  obtain⟨j,rfl,l,b⟩:=Dt d;obtain⟨xo,xf⟩:=h.mok.sh j x b;obtain⟨m,p,rfl,f,_,g,o,_⟩:=Ty xo ho;have q:=(h.ok.each j x b).2;have e:=(xf _ f).1;have i:=h.ok.own;have r:=h.ok.n;exact⟨j,x,rfl,by omega,b,(Jf b _ _).symm,by omega,by simp only at e;omega,g,by omega⟩
theorem Xlu(h:Yx c M){k:Int}(hE:Fa M k who=0):∃(j:Nat) (x:Sm),k=j/\j<M.shs.length/\M.shs[j]?=some x/\Qm x M.pl who=0/\Z9 M k who=Fz M j (Q0 x M.pl who) (B1 x M.pl who)/\D3 M k who=Cb x M.pl who/\D2 M k who=Ca x M.pl who:=by
 unfold Fa at hE;cases a:Zc M k with
 |none=>rw[a] at hE;exact absurd (show(1:Int)=0 from hE) (by decide)
 |some x=>
  rw[a] at hE;obtain⟨j,rfl,b,d⟩:=Dt a;simp only at hE
  exact⟨j,x,rfl,b,d,hE,by unfold Z9;rw[a];simp only;rw[if_pos hE,XA],by unfold D3;rw[a],by unfold D2;rw[a]⟩
theorem Xb5(h:Yx c M){k:Int}(hE:Fa M k who=0):(∀j n a,Zh (Z9 M k who) j n a=if j=k/\n=D3 M k who/\a=D2 M k who then who else Zh M j n a)/\Zh M k (D3 M k who) (D2 M k who)=-1:=by
 obtain⟨i,x,rfl,hi,b,f,e1,e2,e3⟩:=Xlu h hE;obtain⟨xo,xf⟩:=h.mok.sh i x b;have T:=XgJ xo xf h.mok.good f;refine⟨λj n a=>?_,by rw[e2,e3,Jf b];exact T.free⟩;rw[e1,e2,e3,XfS,XbB b];by_cases d:j=i
 ·rw[if_pos d,T.own,d,Jf b];by_cases e:n=Cb x M.pl who/\a=Ca x M.pl who
  ·rw[if_pos e,if_pos ⟨rfl,e⟩]
  ·rw[if_neg e,if_neg (λh=>e h.2)]
 ·rw[if_neg d,if_neg (λh=>d h.1)]
theorem XdZ(h:Yx c M){k n i:Int}(ho:Zh M k n i≠-1):Je M k n i=0/\∀j m a,Zh (Qb M k n i) j m a=if j=k/\m=n/\a=i then -1 else Zh M j m a:=by
 obtain⟨l,x,rfl,_,b,e,_⟩:=Ui h ho;obtain⟨xo,xf⟩:=h.mok.sh l x b;have g:Zc M (l:Nat)=some x:=by rw[Oj ((List.getElem?_eq_some_iff.1 b).1)];exact congrArg some (List.getElem?_eq_some_iff.1 b).2
 rw[<-e] at ho;have o:=XiQ.2 ho;have e1:Qb M (l:Nat) n i=Fz M l (Qj x n i) (A3 x M.pl n i):=by unfold Qb;rw[g];simp only;rw[if_pos o,XA]
 refine⟨by unfold Je;rw[g];exact o,λj m a=>?_⟩;rw[e1,XfS,XbB b];by_cases d:j=l
 ·rw[if_pos d,XiS xo ho,d,Jf b];by_cases f:m=n/\a=i
  ·rw[if_pos f,if_pos ⟨rfl,f⟩]
  ·rw[if_neg f,if_neg (λh=>f h.2)]
 ·rw[if_neg d,if_neg (λh=>d h.1)]
theorem Xj7(h:Yx c M){k n i:Int}(hw:0<=who)(ho:Zh M k n i≠-1):On M k n i who=0/\∀j m a,Zh (Qe M k n i who) j m a=if j=k/\m=n/\a=i then who else Zh M j m a:=by
 obtain⟨l,x,rfl,_,b,e,_⟩:=Ui h ho;obtain⟨xo,xf⟩:=h.mok.sh l x b;have g:Zc M (l:Nat)=some x:=by rw[Oj ((List.getElem?_eq_some_iff.1 b).1)];exact congrArg some (List.getElem?_eq_some_iff.1 b).2
 rw[<-e] at ho;have e1:Qe M (l:Nat) n i who=D1 M l (Aq x n i who) M.pl:=by unfold Qe;rw[g];simp only[XA]
 refine⟨by unfold On;rw[g];exact(Xj4 hw).2 ho,λj m a=>?_⟩;rw[e1,XbB b];by_cases d:j=l
 ·rw[if_pos d,Xj6 xo hw ho,d,Jf b];by_cases f:m=n/\a=i
  ·rw[if_pos f,if_pos ⟨rfl,f⟩]
  ·rw[if_neg f,if_neg (λh=>f h.2)]
 ·rw[if_neg d,if_neg (λh=>d h.1)]
end
theorem Xaq{x:List Bool}(h:j<x.length):x.getD j false=x[j]:=by rw[XC,XB h];rfl
theorem Xi1{x:List Bool}(h:cnt x≠0):∃t,t<x.length/\x.getD t false=true/\Pq x=(t:Int):=by
 have key:∀m,m<=x.length->(∀j,m<=j->x.getD j false=false)->(∀j,x.getD j false=false)\/∃t,t<x.length/\x.getD t false=true/\∀j,t<j->x.getD j false=false:=by
  intro m
  induction m with
  |zero=>intro _ h;exact .inl λj=>h j (XL _)
  |succ m ihm=>
   intro n h;cases f:x.getD m false with
   |true=>exact .inr ⟨m,by omega,f,λj a=>h j a⟩
   |false=>exact ihm (by omega) λj a=>(Nat.eq_or_lt_of_le a).elim (λe=>e▸f) (λe=>h j e)
 rcases key x.length (XE _) (λj a=>by rw[XC,XV a];rfl) with k|⟨t,b,c,g⟩
 ·exfalso
  apply h
  have d:x=List.replicate x.length false:=by
   apply List.ext_getElem (by simp)
   intro j l o;rw[<-Xaq l,k j];simp
  rw[d,Xad]
 ·exact⟨t,b,c,Xbx (p:=id) b (λj a i=>by rw[<-Xaq a];exact g j i) (by rw[<-Xaq b];exact c)⟩
theorem Xki(h:0<Xu p):∃t,t<p.length/\Kw p=(t:Int)/\p.getD t (-1)≠-1:=by
 obtain⟨t,a,b,c⟩:=Xi1 (x:=Y4 p) (by unfold Xu at h;omega);rw[Ew] at a;rw[Rb] at b;exact⟨t,a,c,by simpa using b⟩
def J8(x:Sm):Int×Int×Int×Int:=if 2<=x.opn.length then (Be (-1) x.opn,Kw ((Zi x.pg (Be (-1) x.opn)).getD []),B4 x.opn,Yf ((Zi x.pg (B4 x.opn)).getD [])) else (0,0,0,0)
def Ye(M:RmM)(k:Int):Int×Int×Int×Int:=match Zc M k with|none=>(0,0,0,0)|some x=>J8 x
theorem XfT(M:RmM)(k:Int):Mf M k=J1 (Ye M k).1 (Ye M k).2.1 (Ye M k).2.2.1 (Ye M k).2.2.2:=by
 unfold Mf Ye;cases Zc M k with
 |none=>rfl
 |some x=>
  show G4 x=J1 (J8 x).1 (J8 x).2.1 (J8 x).2.2.1 (J8 x).2.2.2
  unfold G4 J8;split <;> rfl
structure XcC(M:RmM)(k:Nat):Prop where
 own:Zh M k (Ye M k).1 (Ye M k).2.1≠-1
 e:∀who:Int,0<=who->Fa M k who=0
 n:∀who:Int,0<=who->D3 M k who=(Ye M k).2.2.1
 a:∀who:Int,0<=who->D2 M k who=(Ye M k).2.2.2
 ne:(Ye M k).1≠(Ye M k).2.2.1
theorem Xkm(h:Yx c M)(hB:Gz M k=true):XcC M k:=by
 unfold Gz at hB;cases l:Zc M k with
 |none=>rw[l] at hB;exact absurd hB (by decide)
 |some x=>
  rw[l] at hB;have d:=of_decide_eq_true hB;obtain⟨j,L,K,z⟩:=Dt l;obtain rfl:k=j:=by omega
  obtain⟨xo,xf⟩:=h.mok.sh k x z;obtain⟨f,C,D,l',u⟩:=(I7 (-1) x.opn).resolve_left (λe=>by rw[e.1] at d;simp at d);obtain⟨t,r,m⟩:∃t r,x.opn=t::r:=by
   cases g:x.opn with
   |nil=>rw[g] at d;simp at d
   |cons t r=>exact⟨t,r,rfl⟩
  obtain⟨p,A⟩:=xo.osub f C;obtain⟨E,v⟩:=xo.osub t (by rw[m];simp);have q:Ye M k=(((f:Nat):Int),Kw p,((t:Nat):Int),Yf E):=by
   unfold Ye;rw[l];show J8 x=_
   unfold J8;rw[if_pos d,D,m];show((f:Int),Kw ((Zi x.pg f).getD []),(t:Int),Yf ((Zi x.pg t).getD []))=_
   rw[A6 xo.nodup A,A6 xo.nodup v];rfl
  have F:∀who:Int,0<=who->Qm x M.pl who=0:=λwho a=>by unfold Qm;rw[if_neg (by omega),if_neg (by omega)]
  have G:∀who:Int,0<=who->Cb x M.pl who=t/\Ca x M.pl who=Yf E:=λwho a=>by
   rcases J9 x M.pl who with⟨w,_⟩|⟨_,_,⟨n,r',g,_,_,B,I,H⟩|⟨n,r',g,_⟩⟩
   ·exact absurd (F who a) w
   ·rw[m] at g;obtain⟨e1,_⟩:=List.cons.inj g;subst e1;rw[A6 xo.nodup v] at B;simp only[ZP] at B;rw[B] at H;exact⟨I,H⟩
   ·rw[m] at g;cases g
  have w:f≠t:=λe=>by
   have y:=xo.onodup;rw[u] at y d;cases l' with
   |nil=>simp at d
   |cons b s=>
    obtain⟨e1,_⟩:=List.cons.inj (u.symm.trans m);obtain⟨_,_,J⟩:=List.nodup_append.1 y;exact J b (by simp) f (by simp) (e1.trans e.symm)
  have o:=l;refine⟨?_,λwho a=>by unfold Fa;rw[o];exact F who a,λwho a=>by unfold D3;rw[o,q];exact(G who a).1,λwho a=>by unfold D2;rw[o,q];exact(G who a).2,by rw[q];simp only;omega⟩;rw[q,Jf z];simp only
  obtain⟨i,hi,e1,e2⟩:=Xki ((h.pos k x z) _ A);simp only at hi e1 e2
  unfold Qo;rw[A6 xo.nodup A];simp only
  rw[e1];unfold Z4;rw[if_pos (by omega),XA];exact e2
structure Ar where
 ab:Nat
 db:Nat
 mc:Nat
 mb:Option Nat
structure ArV where
 bs:List Int
 total:Int
 lap:Int
abbrev Xg0(A:Ar):Value:=.func (.func 131) #[] #[.pointer (some ⟨A.mc,0,none⟩)]
structure X2(w:World)(A:Ar)(V:ArV):Prop where
 obj:w.heap[A.ab]?=some (.cells #[.slice (some ⟨A.db,0,none⟩) V.bs.length V.bs.length,Xg0 A] 182 (0,0))
 dat:w.heap[A.db]?=some (.cells (V.bs.map (Value.int .u8)).toArray 5 (0,0))
 cap:w.heap[A.mc]?=some (.cells #[Im A.mb] 83 (0,0))
 met:∀b,A.mb=some b->A9 w b V.total V.lap
 len:V.bs.length<=4194304
 rng:∀x∈V.bs,0<=x/\x<256
theorem He{a t':Nat}{c c':Array Value}{f f':Nat×Nat}(h:w.heap[a]?=some (.cells c t f))(h':w.heap[b]?=some (.cells c' t' f'))(ht:t≠t'):a≠b:=by
 intro e;subst e;rw[h] at h';cases h';exact ht rfl
def Y3(A:Ar):Nat->Prop:=λb=>A.mb=some b
def Zr(A:Ar):Nat->Prop:=λb=>b=A.db\/A.mb=some b
def ArV.charge(V:ArV)(A:Ar)(n:Int):ArV:=match A.mb with
 |none=>V
 |some _=>{V with total:=Xx V.total n}
theorem ArV.charge_bs(V:ArV)(A:Ar)(n:Int):(V.charge A n).bs=V.bs:=by unfold ArV.charge;split <;> rfl
theorem ArV.charge_lap(V:ArV)(A:Ar)(n:Int):(V.charge A n).lap=V.lap:=by unfold ArV.charge;split <;> rfl
theorem X2.chg{A:Ar}{V:ArV}(h:X2 w A V)(hc:Xc S w w')(hs:∀b,b=A.ab\/b=A.db\/b=A.mc\/A.mb=some b -> ¬S b):X2 w' A V:=
 ⟨hc.heap h.obj (hs _ (.inl rfl)),hc.heap h.dat (hs _ (.inr (.inl rfl))),hc.heap h.cap (hs _ (.inr (.inr (.inl rfl)))),λb a=>⟨hc.heap (h.met b a).1 (hs _ (.inr (.inr (.inr a)))),(h.met b a).2⟩,h.len,h.rng⟩
theorem X2.grow{A:Ar}{V:ArV}(h:X2 w A V)(hc:Xc Xe w w'):X2 w' A V:=h.chg hc λ_ _ h=>h
theorem X2.metered{A:Ar}{V:ArV}{t:Int}(h:X2 w A V)(hb:A.mb=some b)(hm:A9 w' b t V.lap)(hc:Xc (λx=>x=b) w w'):X2 w' A {V with total:=t}:=by
 have c:=(h.met b hb).1;refine⟨hc.heap h.obj (λe=>He h.obj c (by decide) e),hc.heap h.dat (λe=>He h.dat c (by decide) e),hc.heap h.cap (λe=>He h.cap c (by decide) e),λb' a=>?_,h.len,h.rng⟩;rw[hb] at a;cases a;exact hm
def Mn(N:Nat)(at' n:Int):Bool:=decide (0<=at') && decide (0<=n) && decide (n<=N) && decide (at'<=N-n)
theorem Xcb{at' n:Int}:Mn N at' n=true↔0<=at'/\0<=n/\n<=N/\at'<=N-n:=by unfold Mn;simp[and_assoc]
abbrev Xgk(A:Ar)(N at' n:Nat):Value:=.slice (Q6 (some ⟨A.db,0,none⟩) N at' 1) n (N-at')
theorem XcN(A:Ar)(V:ArV)(i n:Nat)(w:World)(h:X2 w A V)(ht:i+n<=V.bs.length):Xf prog 227 #[.pointer (some ⟨A.ab,0,none⟩),.int .i64 i,.int .i64 n] w (Za (.tuple #[Xgk A V.bs.length i n,.int .i64 0]) w):=by
 have a:=h.len;exact ζe func227 ntmps227 ϱ (ζf ϱ (ζf ϱ (ζl h.obj ϱ (ζf ϱ (ζl h.obj ϱ (ζj ϱ (ζf ϱ (ζl h.obj ϱ (ζj ϱ (Xa.slice Xb rfl (l:=i) (h:=(i+n)) (by first|rfl|omega|simp[B7]) (by first|rfl|omega|simp[B5]) (by omega) (by omega) rfl (ζr func227 ϱ ⟨by rw[show i+n-i=n from by omega],rfl⟩)))))))))))
theorem XhE(A:Ar)(V:ArV)(n:Int)(w:World)(h:X2 w A V):Xf prog 131 #[.int .i64 n,.pointer (some ⟨A.mc,0,none⟩)] w (λ_ w'=>X2 w' A (V.charge A n)/\Xc (Y3 A) w w'):=by
 have c:=h.cap;cases a:A.mb with
 |none=>
  rw[a] at c;refine ζe func131 ntmps131 ϱ (ζl c ϱ (ζc ϱ (XaO n w) ?_));rintro _ f rfl;have e:V.charge A n=V:=by unfold ArV.charge;rw[a]
  exact ζa ϱ (ζr func131 ϱ ⟨by rw[e];exact h,Xc.refl _ _⟩)
 |some b=>
  rw[a] at c;refine ζe func131 ntmps131 ϱ (ζl c ϱ (ζc ϱ (XaN b V.total V.lap n w (h.met b a)) ?_));rintro _ f ⟨g,d⟩;have e:V.charge A n={V with total:=Xx V.total n}:=by unfold ArV.charge;rw[a]
  exact ζa ϱ (ζr func131 ϱ ⟨by rw[e];exact h.metered a g d,d.mono (λx _ i=>by unfold Y3;rw[i];exact a)⟩)
theorem XhC(A:Ar)(V:ArV)(i n:Nat)(w:World)(h:X2 w A V)(ht:i+n<=V.bs.length):Xf prog 193 #[.pointer (some ⟨A.ab,0,none⟩),.int .i64 i,.int .i64 n] w (λv w'=>v=.tuple #[Xgk A V.bs.length i n,.int .i64 0]/\X2 w' A (V.charge A n)/\Xc (Y3 A) w w'):=by
 refine ζe func193 ntmps193 ϱ (ζw (XcN A V i n w h ht) ϱ (ζy ϱ (ζl h.obj ϱ (ζc ϱ (XhE A V n w h) ?_))));rintro _ c ⟨a,b⟩;exact ζa ϱ (ζr func193 ϱ ⟨rfl,a,b⟩)
theorem V0(A:Ar)(V:ArV)(w:World)(h:X2 w A V):Xf prog 136 #[.pointer (some ⟨A.ab,0,none⟩)] w (Za (.int .i64 V.bs.length) w):=by
 exact ζe func136 ntmps136 ϱ (ζl h.obj ϱ (ζr func136 ϱ ⟨rfl,rfl⟩))
def Nb(p s:Int):Bool:=decide (1<=p) && decide (p<=1024) && decide (64<=s) && decide (s<=4096) && (s%8 == 0)
theorem Sk{p s:Int}:Nb p s=true↔1<=p/\p<=1024/\64<=s/\s<=4096/\s%8=0:=by unfold Nb;simp[and_assoc]
def Xz(n:Nat):List Int:=List.replicate n 0
theorem Vj:∀n,Y5 [Value.int .u8 0] n=(Xz n).map (Value.int .u8)
 |0=>rfl
 |n+1=>by rw[Y5,Vj n];simp[Xz,ZT]
theorem Xhz(mb:Option Nat)(total lap:Int)(p s:Int)(w:World)(hm:∀b,mb=some b->A9 w b total lap)(ht:Nb p s=true):Xf prog 70 #[.int .i64 p,.int .i64 s,Im mb] w
 (λv w'=>∃A:Ar,v=.tuple #[.pointer (some ⟨A.ab,0,none⟩),.int .i64 0]/\A.mb=mb/\w.heap.size<=A.ab/\w.heap.size<=A.db/\w.heap.size<=A.mc/\X2 w' A ⟨Xz (p*s).toNat,total,lap⟩/\Xc Xe w w'):=by
 have g:=Sk.1 ht;have y:0<=p*s:=ZJ (by omega) (by omega);have z:p*s<=1024*4096:=ZH (by omega) (by omega) (by omega) (by omega);refine ζe func70 ntmps70 ϱ (ζn ϱ λmc B e1 i f r=>ζf ϱ (ζf ϱ (ζf ϱ (ζf ϱ (Xa.div Xb rfl (by omega) (E9 (by omega)) rfl (ζF ϱ (by simp;omega) (ζj ϱ (Xa.make Xb (m:=(p*s).toNat) (k:=(p*s).toNat) rfl (by omega) (by omega) (XE _) (by simp only;omega) (by omega) λdb C e2 h d t=>ζa ϱ (ζb ϱ (ζn ϱ λab n e3 e c u=>?_))))))))));have o:(Y5 (Y8 (Value.int .u8 0)) (p*s).toNat)=(Xz (p*s).toNat).map (Value.int .u8):=Vj _;rw[o] at h;have a:(Xz (p*s).toNat).length=(p*s).toNat:=XH;rw[<-a] at e;have j:X2 n ⟨ab,db,mc,mb⟩ ⟨Xz (p*s).toNat,total,lap⟩:=
  ⟨e,c.heap' h,c.heap' (d.heap' i),λb l=>⟨c.heap' (d.heap' (f.heap' (hm b l).1)),(hm b l).2⟩,by rw[a];omega,λx q=>by rw[ZG q];omega⟩
 rw[a] at e;exact ζr func70 ϱ ⟨⟨ab,db,mc,mb⟩,rfl,rfl,by simp only;omega,by simp only;omega,by simp only;omega,j,(f.trans d).trans c⟩
variable {A:Ar}{V:ArV}
theorem Rd.metered(hr:Rd .u8 w a l)(h:X2 w A V)(hc:Xc (Y3 A) w w'):Rd .u8 w' a l:=λi hi=>by
 obtain⟨b,off,e,c⟩:=hr i hi;refine⟨b,off,e,?_⟩;have d:¬Y3 A b:=λf=>by
  rw[Yt ((h.met b f).1)] at c
  match hj:off+i,c with
  |0,c=>simp at c
  |1,c=>simp at c
  |k+2,c=>simp at c
 rw[<-c];simp only[World.cell?,hc.block b (World.block_lt_of_cell? w _ c) d]
def Q1(bs:List Int)(i:Nat)(l:List Int):List Int:=bs.take i++l++bs.drop (i+l.length)
theorem Iw(h:i+l.length<=bs.length):(Q1 bs i l).length=bs.length:=by unfold Q1;simp;omega
theorem Mt{x:Int}(h:x∈Q1 bs i l):x∈bs\/x∈l:=by
 unfold Q1 at h;simp only[List.mem_append] at h;rcases h with(h|h)|h
 ·exact .inl (XT h)
 ·exact .inr h
 ·exact .inl (ZD h)
theorem Vh:Q1 bs i []=bs:=by unfold Q1;simp
def Qn(l:List Int):Prop:=∀x∈l,0<=x/\x<256
theorem X2.laid(h:X2 w A V)(hd:w'.heap[A.db]?=some (.cells (bs.map (Value.int .u8)).toArray 5 (0,0)))(hc:Xc (λb=>b=A.db) w w')(hl:bs.length=V.bs.length)(hr:Qn bs):X2 w' A {V with bs:=bs}:=
 ⟨by rw[hl];exact hc.heap h.obj (λe=>He h.obj h.dat (by decide) e),hd,hc.heap h.cap (λe=>He h.cap h.dat (by decide) e),λb a=>⟨hc.heap (h.met b a).1 (λe=>He (h.met b a).1 h.dat (by decide) e),(h.met b a).2⟩,by rw[hl];exact h.len,hr⟩
theorem Xgl(h:i+n<=N)(hn:0<n):Q6 (some ⟨A.db,0,none⟩) N i 1=some ⟨A.db,i,none⟩:=by
 unfold Q6;rw[if_neg (by omega),QO,Cl]
 simp
theorem Sn(A:Ar)(V:ArV)(i n:Nat)(w:World)(h:X2 w A V)(ht:i+n<=V.bs.length):Xf prog 193 #[.pointer (some ⟨A.ab,0,none⟩),.int .i64 i,.int .i64 n] w
 (λv w'=>∃x,v=.tuple #[.slice x n (V.bs.length-i),.int .i64 0]/\(0<n->x=some ⟨A.db,i,none⟩)/\x.isSome=true/\X2 w' A (V.charge A n)/\Xc (Y3 A) w w'):=
 (XhC A V i n w h ht).mono λ_ _ ⟨a,b,c⟩=>⟨_,a,λd=>Xgl ht d,by unfold Q6;split <;> rfl,b,c⟩
theorem XhB(A:Ar)(V:ArV)(i:Nat)(a:Option Addr)(cap:Nat)(l:List Int)(w:World)(h:X2 w A V)(hr:Rd .u8 w a l)(hb:Qn l)(ht:i+l.length<=V.bs.length):Xf prog 142 #[.pointer (some ⟨A.ab,0,none⟩),.int .i64 i,.slice a l.length cap] w (λv w'=>v=.int .i64 0/\X2 w' A {V.charge A l.length with bs:=Q1 V.bs i l}/\Xc (Zr A) w w'):=by
 refine ζe func142 ntmps142 ϱ (ζc ϱ (Sn A V i l.length w h ht) ?_);rintro _ s ⟨x,rfl,j,_,k,o⟩;refine ζa ϱ ?_;have c:Xc (Zr A) w s:=o.mono λb _ hb=>.inr hb;have e1:=V.charge_bs A l.length;by_cases p:l.length=0
 ·refine Xa.copy0 Xb rfl (by simp[p]) rfl ?_;have m:l=[]:=YC p;subst m;exact ζr func142 ϱ ⟨rfl,by rw[Vh,<-V.charge_bs A 0];exact k,c⟩
 ·have q:=j (by omega);subst q;have r:=hr.metered h o;have t:∃aa,a=some aa:=by obtain⟨b,off,e,_⟩:=hr 0 (by omega);exact⟨_,e⟩
  obtain⟨aa,rfl⟩:=t;have d:=k.dat;rw[e1] at d;refine Xa.copy Xb rfl d (cs:=l.map (Value.int .u8)) (by simp) r.cells (by simp;omega) Jb λz f g y=>ζa ϱ ?_;have n:(V.bs.map (Value.int .u8)).take i++l.map (Value.int .u8)++(V.bs.map (Value.int .u8)).drop (i+(l.map (Value.int .u8)).length)=(Q1 V.bs i l).map (Value.int .u8):=by
   unfold Q1;simp[QL,QS]
  rw[n] at f;have u:=k.laid f g (by rw[Iw ht,e1]) (λx j=>(Mt j).elim (h.rng x) (hb x));exact ζr func142 ϱ ⟨rfl,u,c.trans (g.mono λb _ hb=>.inl hb)⟩
def My(base:Nat)(w:World)(v:Value)(l:List Int):Prop:=∃g cap cur,v=.slice (some ⟨g,0,none⟩) l.length cap/\base<=g/\w.heap[g]?=some (.cells cur 5 (0,0))/\l.length<=cap/\cur.toList.take l.length=l.map (Value.int .u8)
theorem Xl9(aa:Addr)(cap:Nat)(l:List Int)(w:World)(hr:Rd .u8 w (some aa) l)(hl:l.length<=4194304):Xf prog 197 #[.slice (some aa) l.length cap] w (λv w'=>My w.heap.size w' v l/\Xc Xe w w'):=by
 have p:maxLen=9223372036854775807:=rfl;refine ζe func197 ntmps197 ϱ (ζf ϱ (Xa.buildSlice Xb rfl λb i e1 j a q=>ζa ϱ ?_));have c:Xl w.heap.size 5 1 i (.slice (some ⟨b,0,none⟩) 0 0) 0 []:=Xl.empty (by omega) j;refine Xa.append (base:=w.heap.size) (xs:=[]) (news:=l.map (Value.int .u8)) Xb rfl c a.size (by simp) (hr.chg a).cells Jb (by simp only;omega) λr s d e f=>ζa ϱ ?_;have h:=c.since a (XE _) e;rcases d.2 with⟨k,_⟩|⟨g,cap',cur,rfl,m,n,t,_,_,o⟩
 ·exact absurd (f.1.1 k).1 (by simp)
 ·exact ζr func197 ϱ ⟨⟨g,cap',cur,by simp,m,n,by omega,by simpa using o⟩,h⟩
def sub(bs:List Int)(i n:Nat):List Int:=(bs.drop i).take n
theorem Gc(h:i+n<=bs.length):(sub bs i n).length=n:=by unfold sub;simp;omega
theorem X2.sub{w:World}{A:Ar}{V:ArV}{x:Option Addr}{i n:Nat}(h:X2 w A V)(hx:0<n->x=some ⟨A.db,i,none⟩)(ht:i+n<=V.bs.length):Rd .u8 w x (sub V.bs i n):=λj a=>by
 rw[Gc ht] at a;refine⟨A.db,i,hx (by omega),?_⟩;rw[Yt h.dat];have:(Go.Proofs.YtohjeeapehmkcaaGreatDoor.sub V.bs i n).getD j 0=V.bs[i+j]'(by omega):=by unfold Go.Proofs.YtohjeeapehmkcaaGreatDoor.sub;simp[QN,a,show i+j<V.bs.length from by omega]
 rw[this];simp[show i+j<V.bs.length from by omega]
theorem XhA(A:Ar)(V:ArV)(i n:Nat)(w:World)(h:X2 w A V)(ht:i+n<=V.bs.length):Xf prog 146 #[.pointer (some ⟨A.ab,0,none⟩),.int .i64 i,.int .i64 n] w (λv w'=>∃v',v=.tuple #[v',.int .i64 0]/\My w.heap.size w' v' (sub V.bs i n)/\X2 w' A (V.charge A n)/\Xc (Y3 A) w w'):=by
 have q:=h.len;refine ζe func146 ntmps146 ϱ (ζc ϱ (Sn A V i n w h ht) ?_);rintro _ j ⟨x,rfl,k,l,e,b⟩;refine ζa ϱ ?_;obtain⟨aa,rfl⟩:=Option.isSome_iff_exists.1 l;have e1:=V.charge_bs A n;have f:=e.sub (i:=i) (n:=n) k (by rw[e1];exact ht);rw[e1] at f;have c:=Xl9 aa (V.bs.length-i) (sub V.bs i n) j f (by rw[Gc ht];omega);rw[Gc ht] at c;refine ζc ϱ (c) ?_;rintro m r ⟨o,d⟩;refine ζa ϱ ?_;obtain⟨g,cap,cur,p,s,a⟩:=o;exact ζr func146 ϱ ⟨m,rfl,⟨g,cap,cur,p,by have:=b.size;omega,a⟩,e.grow d,b.trans d.gr⟩
theorem Xct(h:0<=z/\z<18446744073709551616):IntKind.u64.wrap z=z:=by
 simp only[IntKind.wrap,IntKind.signed,IntKind.bits]
 first|omega|(simp;omega)
def Bm(n top:Int):Bool:=decide (0<=n) && decide (n<top)
theorem Ly{n top:Int}:Bm n top=true↔0<=n/\n<top:=by unfold Bm;simp
def Yi(c:Conf)(q:Plc):Bool:=
 if q.cls=-1 then decide (0<q.pages.length) && !q.pages.any (λn=>!Bm n c.pages)
 else Bm q.cls c.classes.length && Bm q.page c.pages && Bm q.idx (Qi c q.cls)
def Yb(c:Conf)(k:Int):Int:=c.classes.getD k.toNat 0
def Zy(c:Conf)(q:Plc):Int:=if Yi c q then (if q.cls=-1 then q.pages.length*c.size else Yb c q.cls) else 0
def Ag(c:Conf)(q:Plc):Int:=if Yi c q=true/\q.cls≠-1 then q.page*c.size+q.idx*Yb c q.cls else -1
structure Vw where
 vb:Nat
 c:Conf
 p:Yu
 ab:Nat
 mb:Option Nat
def Mq(v:Vw):List Value:=Zj v.c v.p++[.pointer (some ⟨v.ab,0,none⟩),Im v.mb]
abbrev D6(v:Vw):Value:=.pointer (some ⟨v.vb,0,none⟩)
structure Bj(w:World)(v:Vw):Prop where
 obj:w.heap[v.vb]?=some (.cells (Mq v).toArray 188 (0,0))
 conf:Ys w v.c v.p
 may:X6 v.c=true
theorem Bj.grow{v:Vw}(h:Bj w v)(hc:Xc Xe w w'):Bj w' v:=⟨hc.heap' h.obj,h.conf.chg hc,h.may⟩
theorem Vd(n top:Int)(w:World):Xf prog 226 #[.int .i64 n,.int .i64 top] w (Za (.bool (Bm n top)) w):=by
 refine ζe func226 ntmps226 ϱ (ζg ϱ (λh=>?_) λh=>?_)
 ·have g:=of_decide_eq_true h;exact ζr func226 ϱ ⟨Ai (by unfold Bm;rw[decide_eq_true g];rfl),rfl⟩
 ·have g:=of_decide_eq_false h;exact ζr func226 ϱ ⟨Ai (by unfold Bm;rw[decide_eq_false g];rfl),rfl⟩
abbrev Fw(w:World)(b:Nat)(v:Vw):Prop:=w.heap[b]?=some (.cells ([D6 v]:List Value).toArray 86 (0,0))
theorem Xne(v:Vw)(b:Nat)(x:Int)(w:World)(h:Bj w v)(hb:Fw w b v):Xf prog 225 #[.int .i64 x,.pointer (some ⟨b,0,none⟩)] w (Za (.bool (!Bm x v.c.pages)) w):=by
 exact ζe func225 ntmps225 ϱ (ζl hb ϱ (ζl h.obj ϱ (ζw (Vd x v.c.pages w) ϱ (ζr func225 ϱ ⟨rfl,rfl⟩))))
theorem Xck(v:Vw)(q:Plc)(w:World)(h:Bj w v)(hq:Zl w q):Xf prog 177 #[D6 v,.agg (Xv q).toArray] w (Grow (.bool (Yi v.c q)) w):=by
 have k:=hq.len;refine ζe func177 ntmps177 ϱ (ζn ϱ λvb C e1 s t A=>ζn ϱ λqb o e2 b m B=>?_);have f:=t.trans m;have d:=h.grow f;have c:=m.heap' s;have l:=hq.grow f;obtain⟨cls,page,idx,pa,pc,pages⟩:=q;replace b:o.heap[qb]?=some (.cells ([.int .i64 cls,.int .i64 page,.int .i64 idx,.slice pa pages.length pc]:List Value).toArray 98 (0,0)):=b;replace l:=l.rd;replace k:pages.length<=9223372036854775807:=k;refine Xa.loadb Xb rfl c rfl rfl ?_;refine Xa.loadb Xb rfl b rfl rfl ?_;refine Xa.fork Xb rfl rfl rfl (λi=>?_) (λi=>?_)
 ·have g:cls=-1:=by simpa using i
  refine Xa.loadb Xb rfl b rfl rfl ?_;by_cases u:0<pages.length
  ·refine Xa.yes Xb rfl (decide_eq_true (by omega)) rfl ?_;exact ζl b ϱ (ζw (Xge pa pc 225 pages [.pointer (some ⟨vb,0,none⟩)] (λn=>!Bm n v.c.pages) o l k (λx _=>Xne v vb x o d c)) ϱ (ζr func177 ϱ ⟨Ai (by unfold Yi;simp only;rw[if_pos g,decide_eq_true u];rfl),f⟩))
  ·exact ζf ϱ (ζr func177 ϱ ⟨Ai (by unfold Yi;simp only;rw[if_pos g,decide_eq_false u];rfl),f⟩)
 ·have g:¬cls=-1:=by simpa using i
  have y:Yi v.c ⟨cls,page,idx,pa,pc,pages⟩=(Bm cls v.c.classes.length && Bm page v.c.pages && Bm idx (Qi v.c cls)):=by unfold Yi;simp only;rw[if_neg g]
  rw[y];refine ζd 32 Xe (by kernel_rfl) ϱ λa=>δl a b ϱ (δl a c ϱ (δl a d.obj ϱ (δw a (λw' j=>Vd cls v.c.classes.length w') ϱ ?_)));refine Xd.fork Xb a rfl rfl rfl (λp=>?_) (λp=>?_)
  ·rw[p];refine δl a b ϱ (δl a c ϱ (δl a d.obj ϱ (δw a (λw' j=>Vd page v.c.pages w') ϱ ?_)));refine Xd.fork Xb a rfl rfl rfl (λr=>?_) (λr=>?_)
   ·rw[r];exact δl a b ϱ (δl a c ϱ (δl a d.obj ϱ (δl a b ϱ (δv a (λw' j=>Xdn v.c v.p cls w' (d.conf.chg j)) ϱ (δw a (λw' j=>Vd idx (Qi v.c cls) w') ϱ (δn a ϱ λz e=>ζr func177 ϱ ⟨rfl,f.trans e⟩))))))
   ·rw[r];exact δn a ϱ λz e=>ζr func177 ϱ ⟨rfl,f.trans e⟩
  ·rw[p];exact δn a ϱ λz e=>ζr func177 ϱ ⟨rfl,f.trans e⟩
theorem Dr(h:X6 c=true):(64<=c.size/\c.size<=4096/\c.size%8=0)/\(1<=c.pages/\c.pages<=1024)/\Ax c.classes c.size=true:=by
 obtain⟨a,b,d,_⟩:=Ee.1 h;exact⟨K5.1 a,b,d⟩
theorem Hm(hm:X6 c=true)(h:Yi c q=true)(hc:q.cls≠-1):∃k pg ix:Nat,q.cls=k/\q.page=pg/\q.idx=ix/\k<c.classes.length/\(pg:Int)<c.pages/\8<=Yb c k/\Yb c k<=c.size/\0<=(pg:Int)*c.size/\0<=(ix:Int)*Yb c k/\(ix:Int)*Yb c k+Yb c k<=c.size/\(pg:Int)*c.size+(ix:Int)*Yb c k+Yb c k<=c.size*c.pages:=by
 obtain⟨r,s,j⟩:=Dr hm;unfold Yi at h;rw[if_neg hc] at h;simp only[XJ,Ly] at h;obtain⟨⟨⟨l,t⟩,m,u⟩,n,o⟩:=h;obtain⟨k,e⟩:=XD l;obtain⟨pg,f⟩:=XD m;obtain⟨ix,b⟩:=XD n;have d:k<c.classes.length:=by omega
 obtain⟨p,v,g⟩:=Pc j k d;have a:Yb c k=c.classes.getD k 0:=rfl;rw[<-a] at p g;have i:Qi c q.cls=c.size/Yb c k:=by
  unfold Qi;rw[e,if_pos (by omega),XA,<-a,Ve (by omega) (by omega)]
 rw[i,b] at o;have e1:(ix:Int)*Yb c k+Yb c k<=c.size:=by
  have:((ix:Int)+1)*Yb c k<=c.size:=by
   calc ((ix:Int)+1)*Yb c k<=(c.size/Yb c k)*Yb c k:=ZA (by omega) (by omega)
    _<=c.size:=Int.ediv_mul_le _ (by omega)
  rw[YU,QC] at this;exact this
 have e2:(pg:Int)*c.size+c.size<=c.size*c.pages:=by
  have:((pg:Int)+1)*c.size<=c.pages*c.size:=ZA (by omega) (by omega);rw[YU,QC,YG c.pages] at this;exact this
 refine⟨k,pg,ix,e,f,b,d,by omega,by omega,g,ZJ (by omega) (by omega),ZJ (by omega) (by omega),e1,by omega⟩
theorem Tf(h:Yi c q=true)(hc:q.cls=-1):0<q.pages.length/\∀n∈q.pages,0<=n/\n<c.pages:=by
 unfold Yi at h;rw[if_pos hc] at h;simp only[XJ,decide_eq_true_eq,Bool.not_eq_true'] at h;refine⟨h.1,λn a=>?_⟩;have:=List.any_eq_false.1 h.2 n a;simp at this;exact Ly.1 this
theorem Bj.cls{v:Vw}(h:Bj w v)(hk:k<v.c.classes.length):∃b off,v.p.ca=some ⟨b,off,none⟩/\w.cell? ⟨b,off+k,none⟩=some (.int .i64 (Yb v.c k)):=h.conf.classes k hk
theorem Mk(hm:X6 c=true):64<=c.size*c.pages/\c.size*c.pages<=4194304:=by
 obtain⟨a,b,_⟩:=Dr hm;constructor
 ·calc (64:Int)=64*1:=rfl
   _<=c.size*c.pages:=ZH (by omega) (by omega) (by omega) (by omega)
 ·calc c.size*c.pages<=4096*1024:=ZH (by omega) (by omega) (by omega) (by omega)
   _=4194304:=rfl
theorem R7(v:Vw)(q:Plc)(w:World)(h:Bj w v)(hq:Zl w q)(hfew:q.pages.length<=1000000000):Xf prog 139 #[D6 v,.agg (Xv q).toArray] w (Grow (.int .i64 (Zy v.c q)) w):=by
 obtain⟨D,E,F⟩:=Dr h.may;refine ζe func139 ntmps139 ϱ (ζn ϱ λqb u e1 n e y=>?_);have o:=h.grow e;refine ζl n ϱ (ζv (Xck v q u o (hq.grow e)) ϱ λG f=>?_);have b:=f.heap' n;have i:=o.grow f;have r:=e.trans f;cases hi:Yi v.c q with
 |false=>
  exact ζy ϱ (ζr func139 ϱ ⟨X0 (by unfold Zy;rw[hi];rfl),r⟩)
 |true=>
  refine ζf ϱ (ζl b ϱ (ζg ϱ (λd=>?_) λd=>?_))
  ·have g:q.cls=-1:=by simpa using d
   have z:0<=(q.pages.length:Int)*v.c.size:=ZJ (by omega) (by omega);have A:(q.pages.length:Int)*v.c.size<=1000000000*4096:=ZH (by omega) (by omega) (by omega) (by omega);refine Xa.drawn (q:=10) Xe Xb Xo (by kernel_rfl) rfl ?_;intro a;refine Xd.loadb Xb a rfl b (by first|exact λh=>h|(intro h;omega)|assumption) rfl rfl ?_;refine Xd.loadb Xb a rfl i.obj (by first|exact λh=>h|(intro h;omega)|assumption) rfl rfl ?_;refine Xd.arith Xb a rfl (w64 (by omega)) rfl ?_;exact δn a ϱ λx l=>ζr func139 ϱ ⟨X0 (by unfold Zy;rw[if_pos hi,if_pos g]),r.trans l⟩
  ·have g:¬q.cls=-1:=by simpa using d
   obtain⟨k,pg,ix,s,B,C,m,_,_,_,_,_,_,_⟩:=Hm h.may hi g;obtain⟨cb,off,p,t⟩:=i.cls m;obtain⟨vb,c,⟨ca,cc,ka,kc⟩,ab,mb⟩:=v;simp only at p
   subst p;obtain⟨cls,page,idx,pa,pc,pages⟩:=q;simp only at s
   subst s;replace m:k<c.classes.length:=m;refine ζd 10 Xe (by kernel_rfl) ϱ λa=>δl a i.obj ϱ (δl a b ϱ ?_);refine Xd.index Xb a rfl (j:=k) (show(0:Int)<=k by omega) (show(k:Int)<c.classes.length by omega) (by simp) rfl ?_;exact δk a t ϱ (δn a ϱ λx l=>ζr func139 ϱ ⟨X0 (by unfold Zy;rw[if_pos hi];simp only;rw[if_neg g]),r.trans l⟩)
theorem Xci(v:Vw)(q:Plc)(w:World)(h:Bj w v)(hq:Zl w q):Xf prog 120 #[D6 v,.agg (Xv q).toArray] w (Grow (.int .i64 (Ag v.c q)) w):=by
 obtain⟨G,H,I⟩:=Dr h.may;have e:=Mk h.may;refine ζe func120 ntmps120 ϱ (ζn ϱ λqb D e1 n f F=>?_);have o:=h.grow f;refine ζl n ϱ (ζv (Xck v q D o (hq.grow f)) ϱ λJ i=>?_);have b:=i.heap' n;have l:=o.grow i;have t:=f.trans i;cases hi:Yi v.c q with
 |false=>
  exact ζy ϱ (ζr func120 ϱ ⟨X0 (by unfold Ag;rw[hi,if_neg (by simp)]),t⟩)
 |true=>
  refine ζf ϱ (ζl b ϱ (ζg ϱ (λd=>?_) λd=>?_))
  ·have g:q.cls=-1:=by simpa using d
   exact ζr func120 ϱ ⟨X0 (by unfold Ag;rw[if_neg (λE=>E.2 g)]),t⟩
  ·have g:¬q.cls=-1:=by simpa using d
   obtain⟨k,pg,ix,u,p,r,m,K,x,L,y,z,M,A⟩:=Hm h.may hi g;obtain⟨cb,off,s,B⟩:=l.cls m;obtain⟨vb,c,⟨ca,cc,ka,kc⟩,ab,mb⟩:=v;simp only at s
   subst s;obtain⟨cls,page,idx,pa,pc,pages⟩:=q;simp only at u p r
   subst u;subst p;subst r;replace m:k<c.classes.length:=m;replace e:64<=c.size*c.pages/\c.size*c.pages<=4194304:=e;replace y:0<=(pg:Int)*c.size:=y;replace z:0<=(ix:Int)*Yb c k:=z;replace A:(pg:Int)*c.size+(ix:Int)*Yb c k+Yb c k<=c.size*c.pages:=A;replace x:8<=Yb c k:=x;refine Xa.drawn (q:=22) Xe Xb Xo (by kernel_rfl) rfl ?_;intro a;refine Xd.loadb Xb a rfl b (by first|exact λh=>h|(intro h;omega)|assumption) rfl rfl ?_;refine Xd.loadb Xb a rfl l.obj (by first|exact λh=>h|(intro h;omega)|assumption) rfl rfl ?_;refine Xd.arith Xb a rfl (w64 (by show _/\_;simp only;omega)) rfl ?_;refine Xd.loadb Xb a rfl b (by first|exact λh=>h|(intro h;omega)|assumption) rfl rfl ?_;refine Xd.loadb Xb a rfl l.obj (by first|exact λh=>h|(intro h;omega)|assumption) rfl rfl ?_;refine Xd.loadb Xb a rfl b (by first|exact λh=>h|(intro h;omega)|assumption) rfl rfl ?_;refine Xd.index Xb a rfl (j:=k) (show(0:Int)<=k by omega) (show(k:Int)<c.classes.length by omega) (by simp) rfl ?_;exact δk a B ϱ (Xd.arith Xb a rfl (w64 (by show _/\_;simp only;omega)) rfl (Xd.arith Xb a rfl (w64 (by show _/\_;simp only;omega)) rfl (δn a ϱ λN C=>ζr func120 ϱ ⟨X0 (by unfold Ag;rw[if_pos ⟨hi,g⟩]),t.trans C⟩)))
theorem Xm7(c:Conf)(p:Yu)(A:Ar)(V:ArV)(w:World)(hc:Ys w c p)(hA:X2 w A V):Xf prog 72 #[.agg (Zj c p).toArray,.pointer (some ⟨A.ab,0,none⟩),Im A.mb] w
 (λv w'=>Xc Xe w w'/\if X6 c=true/\(V.bs.length:Int)=c.size*c.pages then ∃vb,v=.tuple #[.pointer (some ⟨vb,0,none⟩),.int .i64 0]/\w.heap.size<=vb/\Bj w' ⟨vb,c,p,A.ab,A.mb⟩ else v=.tuple #[.pointer none,.int .i64 1]):=by
 refine ζe func72 ntmps72 ϱ (ζn ϱ λcb o e1 h i s=>?_);refine ζl h ϱ (ζv (Xae c p o (hc.chg i)) ϱ λu j=>?_);have e:=i.trans j;have a:=j.heap' h;cases f:X6 c with
 |false=>
  rw[show Bo c=1 from by unfold Bo;rw[f];rfl];exact ζy ϱ (ζr func72 ϱ ⟨e,by rw[if_neg (by simp)]⟩)
 |true=>
  rw[show Bo c=0 from by unfold Bo;rw[f];rfl];have q:=Mk f;refine ζf ϱ (ζd 8 Xe (by kernel_rfl) ϱ λd=>δw d (λw' l=>V0 A V w' ((hA.grow e).grow l)) ϱ (δl d a ϱ (δl d a ϱ (Xd.arith Xb d rfl (w64 (by show _/\_;omega)) rfl (Xd.adv Xb d rfl (δn d ϱ λx b=>?_))))));by_cases g:(V.bs.length:Int)=c.size*c.pages
  ·refine ζF ϱ (show((V.bs.length:Int) != c.size*c.pages)=false by rw[g];exact bne_self_eq_false _) (ζl (b.heap' a) ϱ (ζb ϱ (ζn ϱ λvb y e4 m n t=>?_)));have k:=(e.trans b).trans n;exact ζr func72 ϱ ⟨k,by rw[if_pos ⟨rfl,g⟩];exact⟨vb,rfl,by have:=e.size;have:=b.size;omega,⟨m,hc.chg k,f⟩⟩⟩
  ·exact ζY ϱ (show((V.bs.length:Int) != c.size*c.pages)=true by simpa using g) (ζr func72 ϱ ⟨e.trans b,by rw[if_neg (λr=>g r.2)]⟩)
abbrev Span:=Nat×Nat×Nat
def Cj(s:Span):List Value:=[.int .i64 (s.1:Nat),.int .i64 (s.2.1:Nat),.int .i64 (s.2.2:Nat)]
def Dc(at' n page:Nat):Span:=(at'/page,at'%page,min n (page-at'%page))
def Kd:Nat->Nat->Nat->Nat->List Span
 |0,_,_,_=>[]
 |f+1,at',n,page=>if n=0 then [] else Dc at' n page::Kd f (at'+min n (page-at'%page)) (n-min n (page-at'%page)) page
def Ya(at' n page:Nat):List Span:=Kd n at' n page
theorem Ju{page:Nat}(hp:1<=page)(hn:0<n):0<min n (page-at'%page):=by
 have:=QM at' (show 0<page by omega);omega
theorem Xgm{page:Nat}(hp:1<=page):∀(f g at' n:Nat),n<=f->n<=g->Kd f at' n page=Kd g at' n page
 |0,0,_,_,_,_=>rfl
 |0,g+1,at',n,h,_=>by
   obtain rfl:n=0:=by omega
   simp[Kd]
 |f+1,0,at',n,_,h=>by
   obtain rfl:n=0:=by omega
   simp[Kd]
 |f+1,g+1,at',n,a,b=>by
  unfold Kd;split
  ·rfl
  ·rename_i c
   have:=Ju (at':=at') hp (show 0<n by omega);rw[Xgm hp f g _ _ (by omega) (by omega)]
theorem Uw(at' page:Nat):Ya at' 0 page=[]:=rfl
theorem K6{page:Nat}(hp:1<=page)(hn:0<n):Ya at' n page=Dc at' n page::Ya (at'+min n (page-at'%page)) (n-min n (page-at'%page)) page:=by
 have:=Ju (at':=at') hp hn;unfold Ya;obtain⟨m,rfl⟩:∃m,n=m+1:=⟨n-1,by omega⟩;rw[show Kd (m+1) at' (m+1) page=Dc at' (m+1) page::Kd m (at'+min (m+1) (page-at'%page)) (m+1-min (m+1) (page-at'%page)) page from by
  show(if m+1=0 then [] else _)=_
  rw[if_neg (by omega)]]
 rw[Xgm hp m _ _ _ (by omega) (XE _)]
theorem R4{page:Nat}(hp:1<=page):∀(n at':Nat),(Ya at' n page).length<=n:=by
 intro n
 induction n using QE with
 |_ n ih=>
  intro at';by_cases a:n=0
  ·subst a;exact XE _
  ·have:=Ju (at':=at') hp (show 0<n by omega);rw[K6 hp (by omega),XM];have:=ih (n-min n (page-at'%page)) (by omega) (at'+min n (page-at'%page));omega
abbrev Dd(w:World)(b:Nat)(x:Int):Prop:=w.heap[b]?=some (.cells ([.int .i64 x]:List Value).toArray 3 (0,0))
theorem Xif(pa pp pn at' page n:Nat)(w:World)(ha:Dd w pa at')(hp:Dd w pp page)(hn:Dd w pn n)(hb:at'+n<=16777216/\1<=page/\page<=16777216):Xf prog 271 #[.pointer (some ⟨pa,0,none⟩),.pointer (some ⟨pp,0,none⟩),.pointer (some ⟨pn,0,none⟩)] w (Grow (.agg (Cj (Dc at' n page)).toArray) w):=by
 have g:0<=(at':Int)%page/\(at':Int)%page<page:=⟨Int.emod_nonneg _ (by omega),Int.emod_lt_of_pos _ (by omega)⟩;have e3:((min n (page-at'%page):Nat):Int)=if (page:Int)-(at':Int)%page<n then (page:Int)-(at':Int)%page else n:=by
  rw[show((at':Int)%page)=((at'%page:Nat):Int) from rfl];have:=QM at' (show 0<page by omega);split <;> omega
 refine ζe func271 ntmps271 ϱ (ζn ϱ λrb k e1 d a h=>ζl (a.heap' ha) ϱ (ζl (a.heap' hp) ϱ (Xa.div Xb rfl (by omega) (E9 (by omega)) rfl (ζd 10 Xe (by kernel_rfl) ϱ λb=>δl b (a.heap' ha) ϱ (δl b (a.heap' hp) ϱ (Xd.div Xb b rfl (by omega) (Fy (by omega) (by omega)) rfl (δl b (a.heap' hn) ϱ (δl b (a.heap' hp) ϱ (δj b ϱ (Xd.adv Xb b rfl (Xd.build Xb b rfl rfl (δn b ϱ λl c=>ζs (c.heap' d) ϱ λm e f i=>?_))))))))))));exact ζR func271 e ϱ ⟨by unfold Cj Dc;simp only;rw[e3];rfl,((a.trans c).since f (λx o j=>by omega))⟩
theorem Xih(l pa pp pn at0 n0 page:Nat)(w:World)(Y:Nat->Prop)(I:Nat->World->Prop)(hb:at0+n0<=16777216/\1<=page/\page<=16777216)(ha:Dd w pa at0)(hp:Dd w pp page)(hn:Dd w pn n0)(hne:pa≠pp/\pa≠pn/\pp≠pn)(hY:¬Y pa/\¬Y pp/\¬Y pn)(hI:∀k w w',I k w->Xc (λz=>z=pa\/z=pn) w w'->I k w')(hy:∀k w0 w (h:k<(Ya at0 n0 page).length),I k w0->Xc Xe w0 w->H5 prog l [.agg (Cj (Ya at0 n0 page)[k]).toArray] w (λv w'=>v=.bool true/\I (k+1) w'/\Xc (λz=>Y z/\z<w0.heap.size) w w'))(h0:I 0 w):Xf prog 270 #[Jm l,.pointer (some ⟨pa,0,none⟩),.pointer (some ⟨pp,0,none⟩),.pointer (some ⟨pn,0,none⟩)] w (λv w'=>v=.tuple #[]/\I (Ya at0 n0 page).length w'/\Xc (λz=>z=pa\/z=pn\/Y z) w w'):=by
 refine ζe func270 ntmps270 ϱ ?_;refine Xa.loop (α:=Nat×Nat×Nat) (λ_=>[(0,false,Jm l),(1,false,.pointer (some ⟨pa,0,none⟩)),(3,false,.pointer (some ⟨pn,0,none⟩)),(5,false,.func (.func 271) #[] #[.pointer (some ⟨pa,0,none⟩),.pointer (some ⟨pp,0,none⟩),.pointer (some ⟨pn,0,none⟩)])])
  (λp w'=>∃pre,Ya at0 n0 page=pre++Ya p.2.1 p.2.2 page/\pre.length=p.1/\p.2.1+p.2.2=at0+n0/\I p.1 w'/\Dd w' pa p.2.1/\Dd w' pp page/\Dd w' pn p.2.2/\Xc (λz=>z=pa\/z=pn\/Y z) w w') (λp=>p.2.2) (0,at0,n0) ⟨rfl,rfl,rfl,rfl,trivial⟩
  ⟨[],rfl,rfl,rfl,h0,ha,hp,hn,Xc.refl _ _⟩ ?_
 rintro⟨k,at',n⟩ D ⟨pre,a,P,K,q,i,E,j,F⟩ ih;simp only at a P K q i j
 subst P;refine ζa ϱ (ζl j ϱ (ζg ϱ (λL=>?_) λL=>?_))
 ·have m:0<n:=by have:=of_decide_eq_true L;omega
  have r:=Ju (at':=at') hb.2.1 m;have d:=K6 (at':=at') hb.2.1 m;refine ζv (Xif pa pp pn at' page n D i E j (by omega)) ϱ λw2 s=>ζn ϱ λsb w3 e3 Q R a4=>ζs Q ϱ λw4 t S a5=>?_;have b:=(s.trans R).since S (λz hz e=>by have:=s.size;omega);have T:pre.length<(Ya at0 n0 page).length:=by rw[a,d];simp
  have U:(Ya at0 n0 page)[pre.length]=Dc at' n page:=by
   simp only[a,d];simp
  have G:=hy pre.length D w4 T q b;rw[U] at G;refine ζl t ϱ (Xa.yield rfl G ?_);rintro _ w5 ⟨rfl,V,f⟩;have a3:D.heap.size<=sb:=by have:=s.size;omega
  have a6:=Xg i;have H:=f.heap (b.heap' i) (λh=>hY.1 h.1);have J:=f.heap (b.heap' j) (λh=>hY.2.2 h.1);have u:=f.heap t (λh=>by have:=h.2;omega);refine ζa ϱ (ζf ϱ (ζd 9 (λz=>z=pa) (by kernel_rfl) ϱ λc=>Xd.loadbAt (4) Xb c rfl rfl rfl J (by first|exact λh=>h|(intro h;omega)|assumption) rfl rfl (Xd.loadbAt (2) Xb c rfl rfl rfl u (by first|exact λh=>h|(intro h;omega)|assumption) rfl rfl (Xd.loadbAt (6) Xb c rfl rfl rfl u (by first|exact λh=>h|(intro h;omega)|assumption) rfl rfl (Xd.arith Xb c rfl (w64 (by show _/\_;unfold Dc;simp only;omega)) rfl (Xd.turn1 c rfl λw6 x=>Xp.loadb Xb c rfl (x.heap' H) rfl rfl (Xd.arith Xb c rfl (w64 (by show _/\_;unfold Dc;simp only;omega)) rfl (Xd.turn1 c rfl λW y=>Xp.store Xb c rfl (y.heap' (x.heap' H)) (by first|(intro h;exact rfl)|(intro h;omega)) rfl rfl rfl λa7 M A a8=>δn c ϱ λw7 o=>?_))))))));have g:=x.trans y;refine ζs (o.heap' (A.heap (g.heap' J) (λe=>hne.2.1 e.symm))) ϱ λw8 a1 B a9=>?_;have N:Xc (λz=>z=pa\/z=pn) W w8:=((A.mono λ_ _ h=>.inl h).trans o.gr).trans (B.mono λ_ _ h=>.inr h);have C:=g.gr.trans N;have O:Xc (λz=>z=pa\/z=pn\/Y z) D w8:=(b.gr.trans (f.mono λ_ _ h=>.inr (.inr h.1))).trans (C.mono λ_ _ h=>h.elim .inl (λh=>.inr (.inl h)));exact ih (pre.length+1,at'+min n (page-at'%page),n-min n (page-at'%page)) _ _ ⟨pre++[Dc at' n page],by rw[a,d];simp,by simp,by simp only;omega,hI _ _ _ V C,by
   have e:((at':Int)+((Dc at' n page).2.2:Nat))=((at'+min n (page-at'%page):Nat):Int):=by unfold Dc;simp only;omega
   simp only
   rw[<-e];exact(B.heap (o.heap' M) hne.2.1),(B.heap (o.heap' (A.heap (g.heap' (f.heap (b.heap' E) (λh=>hY.2.1 h.1))) (λe=>hne.1 e.symm))) hne.2.2),by
   have e:((n:Int)-((Dc at' n page).2.2:Nat))=((n-min n (page-at'%page):Nat):Int):=by unfold Dc;simp only;omega
   simp only
   rw[<-e];exact a1,F.trans O⟩ (by simp only;omega) ⟨rfl,rfl,rfl,rfl,trivial⟩
 ·have m:n=0:=by have:=of_decide_eq_false L;omega
  subst m;have r:(Ya at0 n0 page).length=pre.length:=by rw[a,Uw];simp
  exact ζr func270 ϱ ⟨rfl,by rw[r];exact q,F⟩
theorem Xig(at' n page:Int)(w:World):Xf prog 262 #[.int .i64 at',.int .i64 n,.int .i64 page] w (λv w'=>∃pa pp pn,v=.func (.func 270) #[] #[.pointer (some ⟨pa,0,none⟩),.pointer (some ⟨pp,0,none⟩),.pointer (some ⟨pn,0,none⟩)]/\
 w.heap.size<=pa/\w.heap.size<=pp/\w.heap.size<=pn/\(pa≠pp/\pa≠pn/\pp≠pn)/\Dd w' pa at'/\Dd w' pp page/\Dd w' pn n/\Xc Xe w w'):=by
 exact ζe func262 ntmps262 ϱ (ζn ϱ λpa j e1 d c g=>ζn ϱ λpn k e2 e b h=>ζn ϱ λpp l e3 f a i=>ζr func262 ϱ ⟨pa,pp,pn,rfl,by omega,by omega,by omega,by omega,a.heap' (b.heap' d),f,a.heap' e,(c.trans b).trans a⟩)
theorem XlD{L:List Span}(h:Xl base t 3 w v L.length (L.flatMap Cj)):∃a cap,v=.slice a L.length cap/\Rows Cj 3 w a L/\∀b off s,a=some ⟨b,off,s⟩->base<=b:=by
 rcases h.2 with⟨rfl,m⟩|⟨g,cap,cur,rfl,n,o,y,z,A,p⟩
 ·obtain rfl:L=[]:=List.length_eq_zero_iff.1 m;exact⟨none,0,rfl,λi x c=>by simp at c,λ_ _ _ e=>by cases e⟩
 ·refine⟨some ⟨g,0,none⟩,cap,rfl,λi x c=>⟨g,0,rfl,λj v f=>?_⟩,λb off s e=>by cases e;exact n⟩;have u:=(List.getElem?_eq_some_iff.1 c).1;have q:j<3:=by have:=(List.getElem?_eq_some_iff.1 f).1;simpa [Cj] using this
  rw[Yt o];have k:∀(L:List Span) (i:Nat) (x:Span),L[i]?=some x->(L.flatMap Cj)[i*3+j]?=(Cj x)[j]?:=by
   intro L
   induction L with
   |nil=>intro i x c;simp at c
   |cons s r ih=>
    intro i x c;rw[ZQ];have d:(Cj s).length=3:=rfl;cases i with
    |zero=>
     simp at c;subst c;rw[Nat.zero_mul,XS,XX (by rw[d];exact q)]
    |succ i=>
     rw[ZZ (by rw[d];omega),d,show(i+1)*3+j-3=i*3+j from by omega];exact ih i x (by simpa using c)
  have l:=k L i x c;rw[f,<-p,YN,if_pos (by omega)] at l;rw[XS]
  simpa using l
theorem Xie(at' n page:Nat)(w:World)(hb:at'+n<=16777216/\1<=page/\page<=16777216):Xf prog 234 #[.int .i64 at',.int .i64 n,.int .i64 page] w
 (λv w'=>∃a cap,v=.slice a (Ya at' n page).length cap/\Rows Cj 3 w' a (Ya at' n page)/\(∀b off s,a=some ⟨b,off,s⟩->w.heap.size<=b)/\Xc Xe w w'):=by
 have bg:maxLen=9223372036854775807:=rfl;have bh:=R4 (page:=page) hb.2.1 n at';refine ζe func234 ntmps234 ϱ (ζf ϱ (ζf ϱ (ζf ϱ (ζf ϱ (ζj ϱ (ζf ϱ (ζn ϱ λlb w1 e1 af p bi=>ζc ϱ (Xig at' n page w1) ?_)))))));rintro _ w2 ⟨pa,pp,pn,rfl,bj,bk,bl,ag,Q,R,T,E⟩;have ay:=Xg Q;have az:=Xg R;have b0:=Xg T;have F:=p.trans E;have bm:=E.size;refine ζa ϱ (Xa.rangeFunc rfl rfl ⟨Tryz.f270,func270,rfl,rfl⟩ λG B tmps w3 y hB a8 ah ai q bn=>?_);have a9:G.state=.ready:=by rw[y]
 have b2:({G with state:=.ready,pending:=none}:Loop)=G:=by rw[y]
 have aa:G.pending=none:=by rw[y]
 refine(Xih (B+1) pa pp pn at' n page w3 (λz=>z=lb\/z=B+1\/B+2<=z)
  (λk w'=>k<=(Ya at' n page).length/\∃v,w'.heap[lb]?=some (.cells ([v]:List Value).toArray 261 (0,0))/\Xl (B+2) 294 3 w' v k (((Ya at' n page).take k).flatMap Cj)/\
   w'.heap[B+1]?=some (.loop G)/\w'.heap[B]?=some (.deferred (some []))/\B+2<=w'.heap.size/\Xc Xe w w')
  hb (q.heap' Q) (q.heap' R) (q.heap' T) ag ⟨by omega,by omega,by omega⟩ ?_ ?_ ⟨XL _,_,q.heap' (E.heap' af),World.ownsRow_nil _ _ _ _,ai,ah,by omega,(F.trans q)⟩).mono ?_
 ·rintro k w4 L ⟨H,v,t,d,x,I,h5,J⟩ D;refine⟨H,v,D.heap t (by omega),d.chg D (λb hb e=>?_),D.heap x (by omega),D.heap I (by omega),ZV h5 D.size,J.since D (λz K e=>by have:=p.size;omega)⟩;have:=(World.ownsRow.lt d b hb.symm).1;omega
 ·rintro k w4 L H ⟨bo,v,t,d,x,I,h5,J⟩ r;subst y;refine H5.enter (ps:=[33]) (r.heap' x) rfl rfl a8 rfl (ζa ϱ (ζn ϱ λsb w6 e6 ak U al=>ζs ak ϱ λw7 ac V bp=>?_));have c:=(r.trans U).since V (λz K e=>by have:=r.size;omega);have b4:=r.size;refine Xa.beginRound rfl (c.heap' x) rfl λw8 ao f bq=>ζa ϱ (ζl (f.heap (c.heap' t) (by omega)) ϱ (ζl (f.heap ac (by omega)) ϱ (Xa.buildSlice Xb rfl λb9 w9 e9 ap g br=>ζa ϱ ?_)));have A:=((d.chg c (λ_ _ h=>h)).chg f (λb hb e=>by have:=(World.ownsRow.lt d b hb.symm).1;omega)).chg g (λ_ _ h=>h);have aq:((Ya at' n page).take (k+1)).flatMap Cj=((Ya at' n page).take k).flatMap Cj++Cj (Ya at' n page)[k]:=by
   rw[ZC,XB H,List.flatMap_append];simp
  refine Xa.append (base:=B+2) (news:=Cj (Ya at' n page)[k]) Xb rfl A (by have:=c.size;have:=f.size;have:=g.size;omega) rfl (λi u M=>by rw[Cl,Yt ap];simpa [Cj,Y5] using M) (λu M=>by simp[Cj] at M;rcases M with rfl|rfl|rfl <;> rfl) (by simp only;omega) ?_;intro bs W l j b5;obtain⟨bt,av,aw,N,-⟩:=l.form (by omega);subst N;refine ζa ϱ ?_;refine ζs (j.heap (g.heap' (f.heap (c.heap' t) (by omega))) (λe=>by have:=(World.ownsRow.lt A lb e.symm).1;omega)) ϱ λa0 O m b6=>?_;refine Xa.roundEnd rfl (m.heap (j.heap (g.heap' ao) (λe=>by have:=(World.ownsRow.lt A _ e.symm).1;omega)) (by omega)) ?_;intro a6 ad o b7;have hc:∀S:Nat->Prop,S lb->S (B+1)->(∀z,some z=v.ownBlock->S z)->Xc S L a6:=λS c1 c2 c3=>by
   have a1:Xc S L w7:=U.gr.since V (λz K e=>by omega);have a2:Xc S w7 w8:=f.mono λz _ e=>by subst e;exact c2
   have a3:Xc S w8 W:=g.gr.trans (j.mono λz _ e=>c3 z e);have a4:Xc S W a0:=m.mono λz _ e=>by subst e;exact c1
   have a5:Xc S a0 a6:=o.mono λz _ e=>by subst e;exact c2
   exact(((a1.trans a2).trans a3).trans a4).trans a5
  refine⟨_,rfl,rfl,⟨H,_,o.heap O (by omega),?_,ad,(o.heap (m.heap (j.heap (g.heap' (f.heap (c.heap' I) (by omega))) (λe=>by have:=(World.ownsRow.lt A _ e.symm).1;omega)) (by omega)) (by omega)),by have:=c.size;have:=f.size;have:=g.size;have:=j.size;omega,(J.trans r).since (hc (λz=>z=lb\/B+1<=z) (.inl rfl) (.inr (XE _)) (λz e=>.inr (by have:=(World.ownsRow.lt d z e.symm).1;omega))) (λz K e=>by have:=p.size;omega)⟩,
   hc _ ⟨.inl rfl,(Xg t)⟩ ⟨.inr (.inl rfl),(Xg x)⟩ (λz e=>⟨.inr (.inr (World.ownsRow.lt d z e.symm).1),(World.ownsRow.lt d z e.symm).2⟩)⟩
  rw[aq];exact(l.chg m (λb hb e=>by have:=(World.ownsRow.lt l b hb.symm).1;omega)).chg o (λb hb e=>by have:=(World.ownsRow.lt l b hb.symm).1;omega)
 ·rintro _ w4 ⟨rfl,⟨H,v,t,d,x,I,h5,J⟩,bu⟩;refine⟨_,x,by rw[a9];simp,?_⟩;intro L C bv;rw[aa];refine ζa ϱ (ζl (C.heap t (by omega)) ϱ ?_);rw[ZL] at d;refine Xa.retM Xb rfl func234 (C.heap I (by omega)) (vs:=[v]) (λ_ _=>.tmp rfl .nil) ?_;intro w6 a7 al;obtain⟨a,cap,rfl,P,ae⟩:=XlD ((d.chg C (λb hb e=>by have:=(World.ownsRow.lt d b hb.symm).1;omega)).chg a7 (λb hb e=>by have:=(World.ownsRow.lt d b hb.symm).1;omega));exact⟨a,cap,rfl,P,λb off s e=>by have:=ae b off s e;have:=F.size;omega,(J.since C (λz K e=>by have:=p.size;omega)).since a7 (λz K e=>by have:=p.size;omega)⟩
theorem Rd.far'{k:IntKind}(h:Rd k w a zs)(hs:0<zs.length->Xj S a)(hc:Xc S w w'):Rd k w' a zs:=(Gg.chg ⟨h,λb off s e c=>hs c b off s e⟩ hc).1
theorem Zl.far(h:Zl w q)(hs:0<q.pages.length->Xj S q.pa)(hc:Xc S w w'):Zl w' q:=⟨h.rd.far' hs hc,h.len⟩
theorem Ys.far{p:Yu}(h:Ys w c p)(h1:0<c.classes.length->Xj S p.ca)(h2:0<c.keep.length->Xj S p.ka)(hc:Xc S w w'):Ys w' c p:=⟨h.classes.far' h1 hc,h.keep.far' h2 hc,h.lc,h.lk,h.size⟩
theorem Bj.far{w w':World}{v:Vw}{S:Nat->Prop}(h:Bj w v)(h0:¬S v.vb)(h1:0<v.c.classes.length->Xj S v.p.ca)(h2:0<v.c.keep.length->Xj S v.p.ka)(hc:Xc S w w'):Bj w' v:=⟨hc.heap h.obj h0,h.conf.far h1 h2 hc,h.may⟩
theorem Rd.outNew{k:IntKind}(h:Rd k w a zs)(hs:0<zs.length->Xj S a)(hS:∀z,S' z->S z\/w.heap.size<=z):0<zs.length->Xj S' a:=λc b off s e d=>by
 rcases hS b d with h1|h1
 ·exact hs c b off s e h1
 ·obtain⟨b',off',e',f⟩:=h 0 c;rw[e] at e';cases e'
  have:=World.block_lt_of_cell? w _ f;simp only at this
  omega
theorem XbO{page:Nat}(hp:1<=page):∀(n at':Nat),∀s∈Ya at' n page,s.1*page+s.2.1+s.2.2<=at'+n/\0<s.2.2/\s.2.1+s.2.2<=page/\at'<=s.1*page+s.2.1:=by
 intro n
 induction n using QE with
 |_ n ih=>
  intro at' s hs;by_cases b:n=0
  ·subst b;cases hs
  ·have c:=Ju (at':=at') hp (show 0<n by omega);have d:=QM at' (show 0<page by omega);have a:=YV at' page;rw[K6 hp (by omega)] at hs;rcases List.mem_cons.1 hs with rfl|hs
   ·unfold Dc;simp only
    rw[YF] at a;omega
   ·have:=ih _ (by omega) _ s hs;omega
def Z3(c:Conf)(q:Plc)(at' n:Nat):List (Int×Int):=
 if q.cls=-1 then (Ya at' n c.size.toNat).map λs=>(q.pages.getD s.1 0*c.size+s.2.1,(s.2.2:Int)) else [(Ag c q+at',(n:Int))]
theorem Xii(A:Ar)(V:ArV)(n:Int)(w:World)(h:X2 w A V):Xf prog 132 #[Im A.mb,.int .i64 n] w (λ_ w'=>X2 w' A (V.charge A n)/\Xc (Y3 A) w w'):=by
 cases a:A.mb with
 |none=>
  refine(XaO n w).mono λ_ w' e=>?_;subst e;exact⟨by unfold ArV.charge;rw[a];exact h,Xc.refl _ _⟩
 |some b=>
  refine(XaN b V.total V.lap n w (h.met b a)).mono λ_ w' ⟨d,c⟩=>?_;exact⟨by unfold ArV.charge;rw[a];exact h.metered a d c,c.mono λx _ f=>by unfold Y3;rw[f];exact a⟩
theorem Xnf(v:Vw)(q:Plc)(at' n:Int)(w:World):Xf prog 192 #[D6 v,.agg (Xv q).toArray,.int .i64 at',.int .i64 n] w (λu w'=>∃pb vb ab nb,u=.func (.func 233) #[] #[.pointer (some ⟨pb,0,none⟩),.pointer (some ⟨vb,0,none⟩),.pointer (some ⟨ab,0,none⟩),.pointer (some ⟨nb,0,none⟩)]/\
 w.heap.size<=pb/\w.heap.size<=vb/\w.heap.size<=ab/\w.heap.size<=nb/\Ik w' pb q/\Fw w' vb v/\Dd w' ab at'/\Dd w' nb n/\Xc Xe w w'):=by
 refine ζe func192 ntmps192 ϱ (ζn ϱ λvb o e1 f d j=>ζn ϱ λpb p e2 g e k=>ζn ϱ λab r e3 h c l=>ζn ϱ λnb s e4 i a m=>?_);have b:=e.trans (c.trans a);exact ζr func192 ϱ ⟨pb,vb,ab,nb,rfl,by omega,by omega,by omega,by omega,(c.trans a).heap' g,b.heap' f,a.heap' h,i,d.trans b⟩
def By(q:Plc)(A:Ar)(V:ArV):ArV:=if q.cls=-1 then V.charge A 1 else V
theorem X2.mlt(h:X2 w A V):∀z,Y3 A z->z<w.heap.size:=λz a=>Xg (h.met z a).1
theorem Xng(l:Nat)(v:Vw)(q:Plc)(at' n pb vb ab nb:Nat)(A:Ar)(Vs:Nat->ArV)(K:Nat->(Nat->Prop)->World->Prop)(Y0:Nat->Prop)(w:World)(hv:Bj w v)(hq:Zl w q)(hmb:v.mb=A.mb)(hin:Yi v.c q=true)(hr:(at':Int)+n<=Zy v.c q)(hfew:q.pages.length<=4096)(hpb:Ik w pb q)(hvb:Fw w vb v)(hab:Dd w ab at')(hnb:Dd w nb n)(hP1:∀z,Y0 z\/Y3 A z->z≠pb/\z≠vb/\z≠v.vb)(hPq:0<q.pages.length->Xj (λz=>Y0 z\/Y3 A z) q.pa)(hPc:0<v.c.classes.length->Xj (λz=>Y0 z\/Y3 A z) v.p.ca)(hPk:0<v.c.keep.length->Xj (λz=>Y0 z\/Y3 A z) v.p.ka)(hKlt:∀k Y w,K k Y w -> ∀z,Y z->z<w.heap.size)(hK:∀k Y w w',K k Y w->Xc (Y3 A) w w'->K k Y w')(hy:∀k Y w0 w (h:k<(Z3 v.c q at' n).length),X2 w0 A (By q A (Vs k))->K k Y w0->Xc Xe w0 w -> H5 prog l [.int .i64 (Z3 v.c q at' n)[k].1,.int .i64 (Z3 v.c q at' n)[k].2] w (λu w'=>u=.bool true/\X2 w' A (Vs (k+1))/\Xc Y w w'/\∃Y',K (k+1) Y' w'/\∀z,Y' z->Y z\/w.heap.size<=z))(h0:X2 w A (Vs 0))(hK0:K 0 Y0 w):Xf prog 233 #[Jm l,.pointer (some ⟨pb,0,none⟩),.pointer (some ⟨vb,0,none⟩),.pointer (some ⟨ab,0,none⟩),.pointer (some ⟨nb,0,none⟩)] w
  (λu w'=>u=.tuple #[]/\X2 w' A (Vs (Z3 v.c q at' n).length)/\(∃Y',K (Z3 v.c q at' n).length Y' w'/\∀z,Y' z->Y0 z\/w.heap.size<=z)/\Xc (λz=>Y0 z\/Y3 A z) w w'):=by
 obtain⟨m1,m2,m3⟩:=Dr hv.may;have b0:=Mk hv.may;have a1:∀{x y:World},Xc Xe x y->Xc (Y3 A) x y:=λh=>h.gr;refine ζe func233 ntmps233 ϱ (ζl hpb ϱ ?_);by_cases d:q.cls=-1
 ·obtain⟨b1,I⟩:=Tf hin d;have J:Zy v.c q=(q.pages.length:Int)*v.c.size:=by unfold Zy;rw[if_pos hin,if_pos d]
  rw[J] at hr;have a2:(q.pages.length:Int)*v.c.size<=4096*4096:=ZH (by omega) (by omega) (by omega) (by omega);obtain⟨sz,a3⟩:=XD (show 0<=v.c.size by omega);have a8:v.c.size.toNat=sz:=by omega
  have o:Z3 v.c q at' n=(Ya at' n sz).map λs=>(q.pages.getD s.1 0*v.c.size+s.2.1,(s.2.2:Int)):=by unfold Z3;rw[if_pos d,a8]
  have B:(Z3 v.c q at' n).length=(Ya at' n sz).length:=by rw[o,XN]
  have b8:=R4 (page:=sz) (by omega) n at';refine Xa.no Xb rfl (show(q.cls != -1)=false by rw[d];rfl) rfl ?_;refine Xa.drawn (q:=10) Xe Xb Xo (by kernel_rfl) rfl ?_;intro c;refine Xd.loadb Xb c rfl hab (by first|exact λh=>h|(intro h;omega)|assumption) rfl rfl ?_;refine Xd.loadb Xb c rfl hnb (by first|exact λh=>h|(intro h;omega)|assumption) rfl rfl ?_;refine Xd.loadb Xb c rfl hvb (by first|exact λh=>h|(intro h;omega)|assumption) rfl rfl ?_;refine Xd.loadb Xb c rfl hv.obj (by first|exact λh=>h|(intro h;omega)|assumption) rfl rfl ?_;have hd:∀w',Xc Xe w w'->Xf prog 234 #[.int .i64 at',.int .i64 n,.int .i64 v.c.size] w' (λu m=>Xc Xe w' m/\∃a cap,u=.slice a (Ya at' n sz).length cap/\Rows Cj 3 m a (Ya at' n sz)/\(∀b off s,a=some ⟨b,off,s⟩->w'.heap.size<=b)):=λw' r=>by
   rw[a3];exact(Xie at' n sz w' (by omega)).mono λu m ⟨a,cap,L,h2,h3,h4⟩=>⟨h4,a,cap,L,h2,h3⟩
  refine Xd.callQ c rfl rfl (λw' r=>(hd w' r).mono λu m ⟨L,a,cap,h2,h3,h4⟩=>(⟨L,a,cap,h2,h3,λb off s e=>ZV r.size (h4 b off s e)⟩:Xc Xe w' m/\∃a cap,u=.slice a (Ya at' n sz).length cap/\Rows Cj 3 m a (Ya at' n sz)/\(∀b off s,a=some ⟨b,off,s⟩->w.heap.size<=b))) ?_;rintro _ w1 ah ⟨sa,scap,rfl,a0,ad⟩;refine Xd.adv Xb c rfl (δn c ϱ λm t=>?_);have f:=ah.trans t;have ai:Xj (λz=>Y0 z\/Y3 A z) sa:=λb off s e hb=>by
   have:=ad b off s e;rcases hb with hb|hb
   ·have:=hKlt _ _ _ hK0 b hb;omega
   ·have:=h0.mlt b hb;omega
  refine Xa.loop (α:=Nat) (λk=>[(0,false,Jm l),(1,false,.pointer (some ⟨pb,0,none⟩)),(2,false,.pointer (some ⟨vb,0,none⟩)),(26,false,.slice sa (Ya at' n sz).length scap),(27,false,.int .i64 (Ya at' n sz).length),(28,false,.int .i64 k)])
   (λk w'=>k<=(Ya at' n sz).length/\X2 w' A (Vs k)/\(∃Y,K k Y w'/\∀z,Y z->Y0 z\/m.heap.size<=z)/\Xc (λz=>Y0 z\/Y3 A z) m w') (λk=>(Ya at' n sz).length-k) 0 ⟨rfl,rfl,rfl,rfl,rfl,rfl,trivial⟩
   ⟨XL _,h0.grow f,⟨Y0,hK _ _ _ _ hK0 (a1 f),λ_ h=>.inl h⟩,Xc.refl _ _⟩ ?_
  rintro k w3 ⟨hk,M,⟨Y,a4,N⟩,i⟩ ih;refine ζa ϱ (ζg ϱ (λhc=>?_) λhc=>?_)
  ·have C:k<(Ya at' n sz).length:=by have:=of_decide_eq_true hc;omega
   obtain⟨s,hs⟩:∃s,s=(Ya at' n sz)[k]:=⟨_,rfl⟩;obtain⟨i1,i2,i3,i4⟩:=XbO (page:=sz) (by omega) n at' s (hs▸XK C);have G:s.1<q.pages.length:=by
    have L:(s.1*sz:Nat)<q.pages.length*sz:=by
     have:((q.pages.length*sz:Nat):Int)=(q.pages.length:Int)*v.c.size:=by rw[a3];rfl
     omega
    exact Nat.lt_of_mul_lt_mul_right L
   obtain⟨rb,roff,aj,H⟩:=((a0.chg t).at C);subst aj;rw[<-hs] at H;have O:∀j u,(Cj s)[j]?=some u->w3.cell? ⟨rb,roff+k*3+j,none⟩=some u:=λj u hu=>i.cell (H j u hu) (ai rb roff none rfl);have P:=i.heap (f.heap' hvb) (λe=>(hP1 _ e).2.1 rfl);have a5:=(hv.grow f).far (λe=>(hP1 _ e).2.2 rfl) hPc hPk i;refine ζi (k*3) ϱ (Xa.loadC Xb (Cj s) rfl (by first|rfl|(simp;done)|(simp[*];done)|(simp;omega)) (O) rfl (ζn ϱ λsb w4 e4 ak al b9=>ζs ak ϱ λw5 ag am ba=>?_));have p:=al.since am (λz E e=>by omega);refine ζl (p.heap' P) ϱ (ζl (a5.grow p).obj ϱ ?_);rw[hmb];refine ζc ϱ (Xii A (Vs k) 1 w5 (M.grow p)) ?_;rintro _ w6 ⟨an,Q⟩;refine ζa ϱ ?_;have ao:∀{x y:World},Xc (Y3 A) x y->Xc (λz=>Y0 z\/Y3 A z) x y:=λh=>h.mono λ_ _ h=>.inr h;have g:=p.gr.trans (ao Q);have F:=Q.heap ag (λe=>by have:=M.mlt _ e;omega);obtain⟨gb,goff,a6,ap⟩:=(((hq.grow f).far hPq i).far hPq g).rd s.1 G;have aq:0<=q.pages.getD s.1 0/\q.pages.getD s.1 0<v.c.pages:=I _ (by rw[XC,XB G];exact XK G);have R:0<=q.pages.getD s.1 0*v.c.size/\q.pages.getD s.1 0*v.c.size<=1024*4096:=⟨ZJ aq.1 (by omega),ZH (by omega) (by omega) (by omega) (by omega)⟩;have ar:(Z3 v.c q at' n)[k]'(by rw[B];exact C)=(q.pages.getD s.1 0*v.c.size+s.2.1,(s.2.2:Int)):=by
    simp only[o,YM,<-hs]
   obtain⟨cls,page,idx,pa,pc,pages⟩:=q;simp only at a6
   subst a6;refine ζd 18 Xe (by kernel_rfl) ϱ λc=>δl c (g.heap (i.heap (f.heap' hpb) (λe=>(hP1 _ e).1 rfl)) (λe=>(hP1 _ e).1 rfl)) ϱ (δl c F ϱ (Xd.index Xb c rfl (j:=s.1) (show(0:Int)<=(s.1:Nat) by omega) (show((s.1:Nat):Int)<pages.length by have:s.1<pages.length:=G;omega) (by simp) rfl (δk c ap ϱ (δl c (g.heap P (λe=>(hP1 _ e).2.1 rfl)) ϱ (δl c (a5.far (λe=>(hP1 _ e).2.2 rfl) hPc hPk g).obj ϱ (Xd.arith Xb c rfl (w64 (by show _/\_;simp only at R⊢;omega)) rfl (δl c F ϱ (Xd.arith Xb c rfl (w64 (by show _/\_;simp only at R⊢;omega)) rfl (δl c F ϱ (δn c ϱ λw7 S=>?_))))))))));have D:=hy k Y w6 w7 (by rw[B];exact C) (by unfold By;rw[if_pos d];exact an) (hK _ _ _ _ (hK _ _ _ _ a4 (a1 p)) Q) S;rw[ar] at D;refine Xa.yield rfl D ?_;rintro _ w8 ⟨rfl,T,U,Y',V,W⟩;refine ζa ϱ (ζf ϱ (ζj ϱ ?_));have ay:m.heap.size<=w7.heap.size:=by have:=i.size;have:=g.size;have:=S.size;omega
   exact ih (k+1) _ _ ⟨C,T,⟨Y',V,λz E=>(W z E).elim (N z) (λh=>.inr (by omega))⟩,
    ((i.trans g).trans S.gr).since U (λz E h=>.inl ((N z h).elim id (λh=>by omega)))⟩ (by omega) ⟨rfl,rfl,rfl,rfl,rfl,rfl,trivial⟩
  ·have av:k=(Ya at' n sz).length:=by have:=of_decide_eq_false hc;omega
   subst av;have az:=f.size;rw[B];exact ζr func233 ϱ ⟨rfl,M,⟨Y,a4,λz E=>(N z E).imp id (λh=>by omega)⟩,f.gr.trans i⟩
 ·have o:Z3 v.c q at' n=[(Ag v.c q+at',(n:Int))]:=by unfold Z3;rw[if_neg d]
  obtain⟨kk,pg,ix,a7,I,aw,bb,g1,g2,g3,g4,g5,g6,g7⟩:=Hm hv.may hin d;have ax:Ag v.c q=(pg:Int)*v.c.size+(ix:Int)*Yb v.c kk:=by unfold Ag;rw[if_pos ⟨hin,d⟩,a7,I,aw]
  have J:Zy v.c q=Yb v.c kk:=by unfold Zy;rw[if_pos hin,if_neg d,a7]
  rw[J] at hr;refine ζY ϱ (show(q.cls != -1)=true by simpa using d) (ζd 7 Xe (by kernel_rfl) ϱ λc=>δl c hvb ϱ (δl c hpb ϱ (δv c (λw' r=>Xci v q w' (hv.grow r) (hq.grow r)) ϱ (δl c hab ϱ (Xd.arith Xb c rfl (w64 (by show _/\_;rw[ax];omega)) rfl (δl c hnb ϱ (δn c ϱ λm t=>?_)))))));have D:=hy 0 Y0 w m (by rw[o];simp) (by unfold By;rw[if_neg d];exact h0) hK0 t;rw[show(Z3 v.c q at' n)[0]'(by rw[o];simp)=(Ag v.c q+at',(n:Int)) from by simp only[o];rfl] at D;refine Xa.yield rfl D ?_;rintro _ w8 ⟨rfl,T,U,Y',V,W⟩;refine ζa ϱ ?_;have a2:(Z3 v.c q at' n).length=1:=by rw[o];rfl
  rw[a2];have:=t.size;exact ζr func233 ϱ ⟨rfl,T,⟨Y',V,λz E=>(W z E).imp id (λh=>by omega)⟩,t.gr.trans (U.mono λ_ _ h=>.inl h)⟩
end Go.Proofs.YtohjeeapehmkcaaGreatDoor
