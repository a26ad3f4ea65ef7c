/-
  Texts put together: Ref20g, Ref20h, Ref20i, RmBack, RmOwn, Yr, Top13, RmPlan, Arena, Arena2, View, View2, Chain, Chain2, View3.
-/
import Derived.Test.YtohjeeapehmkcaaGreatDoorPt4
import Derived.Test.YtohjeeapehmkcaaGreatDoorQRule7
import Derived.Test.YtohjeeapehmkcaaGreatDoorQRule11
import Derived.Test.YtohjeeapehmkcaaGreatDoorQPost
set_option linter.unusedVariables false
set_option maxRecDepth 100000
namespace Go.Proofs.YtohjeeapehmkcaaGreatDoor
open Go.RowKit
open Bool renaming and_eq_true->XK,true_and->ZZ
open Int renaming toNat_natCast->XA,eq_ofNat_of_zero_le->XD,mul_le_mul_of_nonneg_right->XX,mul_le_mul->ZD,mul_nonneg->ZG,mul_comm->ZY,ediv_nonneg->YD,ediv_le_self->YT,add_mul->YW,one_mul->YX
open List renaming getElem?_eq_getElem->XB,getD_eq_getElem?_getD->XC,length_set->XF,getElem?_set_self->XG,length_replicate->XH,map_append->XI,getElem_mem->XJ,length_map->XM,mem_of_mem_take->XO,length_cons->XP,length_take->XR,length_append->XT,getElem?_set_ne->XU,getElem?_append_left->XV,getElem?_replicate->XY,getElem?_eq_none->XZ,mem_of_mem_drop->ZA,map_cons->ZB,take_add_one->ZC,filter_cons->ZE,eq_of_mem_replicate->ZF,take_length->ZI,nil_append->ZL,mem_singleton->ZM,drop_eq_getElem_cons->ZN,flatMap_cons->ZO,getElem?_append_right->ZQ,replicate_succ->ZR,eq_nil_of_length_eq_zero->ZU,getElem_map->YF,getElem?_take->YG,mem_append_right->YJ,sum_cons->YQ,filter_append->YZ,length_tail->QD,map_take->QF,getD->QH,mem_cons->QK,map_drop->QL
open Nat renaming le_refl->XE,zero_le->XL,zero_add->XQ,le_trans->ZX,div_add_mod->YM,mul_comm->YO,strongRecOn->QA,mod_lt->QG
open Option renaming getD_some->ZW,map_some->QI
open Go.Proofs.Tryz (func120 func131 func136 func139 func142 func146 func157 func177 func192 func193 func197 func205 func225 func226 func227 func233 func234 func262 func270 func271 func70 func72 ntmps120 ntmps131 ntmps136 ntmps139 ntmps142 ntmps146 ntmps157 ntmps177 ntmps192 ntmps193 ntmps197 ntmps205 ntmps225 ntmps226 ntmps227 ntmps233 ntmps234 ntmps262 ntmps270 ntmps271 ntmps70 ntmps72 prog)
variable {c:Conf} {l':IL} {ahead by' size u who z:Int} {lg:List (Nat × List Nat)} {ps:List IL} {bs l p zs:List Int} {l2 ws:List Nat} {cs rest xs:List Value} {N at' b base cap fuel g i j k len lm lo m n n0 o off sz t tm vb xb y:Nat} {e:Nat × List Int} {fz:Nat × Nat} {f:Nat->Int} {G:Nat->Pg} {B C F F' Fr S S' T:Nat->Prop} {pd pd2:Option (Nat × PlcM)} {a:Option Addr} {pg:PgL} {P:Pl} {pl':PlM} {q:Plc} {R:Rm} {M:RmM} {x x':Sm} {α:Type} {v:Value} {w w' w0 w1 w2:World}
theorem Xh2 (h:M.Ok c) (hg:M.pl.Good):M.lg.length<=1024:=by
 have d:=h.sum;have e:=Mq hg;have b:∀ l:List (Nat × List Nat),l.length<=Dj l:=fun l=>by
  induction l with
  |nil=>simp
  |cons a r ih=>unfold Dj at *; rw [ZB,YQ,XP]; omega
 have:=b M.lg;omega
theorem Iq (q:Plc):(Xt q).length=4:=rfl
theorem J8 (q:Plc):∀ u ∈ Xt q,u.oneCell'=true:=fun u a=>by
 simp only [Xt,QK,List.mem_nil_iff,or_false] at a;rcases a with rfl | rfl | rfl | rfl <;> rfl
structure XbI (w w':World) (q:Plc):Prop where
 ok:Zf w' q
 lt:Yf w' q.pa
 fresh:B7 w q.pa
theorem Xan {a b c:Int}:XbI w w' ⟨a,b,c,none,0,[]⟩:=⟨⟨Rd.nil _ _ _,by simp⟩,(by intro b off s e; cases e),(by intro b off s e; cases e)⟩
theorem Q2.out {w w2:World} {r r':RR} {M:RmM} (hK:Q2 w2 r r') (h:Yz w r M) {S:Nat->Prop} (h1:∀ z,S z->w.heap.size<=z) (h2:∀ z,S z->z<w2.heap.size):Bq S r':=hK.2.2 S h2 (h.out h1)
theorem Xen (r:RR) (M:RmM) (who size:Int) (w:World) (h:Yz w r M) (hm:If M) (hMok:M.Ok r.c) (ht:0<=M.tot/\M.tot<=4611686018427000000) (hr:Rd .i64 w r.cp.ca r.c.classes) (hmay:Zb r.c=true):Xf prog 157 #[.agg (Ap r).toArray,.int .i64 who,.int .i64 size] w
 (fun v w' => ∃ r' q,v = .tuple #[.agg (Ap r').toArray,.agg (Xt q).toArray,.int .i64 (Cf r.c M who size)]/\Xx q=Bg r.c M who size/\Yz w' r' (Af r.c M who size)/\Q2 w r r'/\XbI w w' q/\Xc Xe w w'):=by
 have fv:maxLen=9223372036854775807:=rfl;have hf:=Ye hmay;have fw:=hf.size;have db:=hf.n;have dc:=hf.most;refine ζe func157 ntmps157 ϱ (ζn ϱ fun rb w1 e1 et eu fx=>ζn ϱ fun ob w2 e2 ew dd fy=>ζn ϱ fun qb w3 e3 de ch fz => ?_);have ax:=(eu.trans dd).trans ch;have br:=ch.heap' (dd.heap' et);have ci:=ch.heap' ew;by_cases g1:who<0
 ·have cj:Cf r.c M who size=1/\Bg r.c M who size=⟨0,0,0,[]⟩/\Af r.c M who size=M:=by
   exact ⟨by unfold Cf; rw [if_pos g1],by unfold Bg; rw [if_pos g1],by unfold Af; rw [if_pos g1]⟩
  rw [cj.1,cj.2.1,cj.2.2];refine ζy ϱ (ζl br ϱ (ζb ϱ (ζs ci ϱ fun w4 ay df g0 => ?_)));refine ζs (df.heap de (by omega)) ϱ fun w5 az dg g4 => ?_;have hc:=(ax.since df (fun z a e=>by omega)).since dg (fun z a e=>by omega);exact ζq rfl func157 (Xk.cell rfl rfl rfl (dg.heap ay (by omega)) rfl (.cell rfl rfl rfl az rfl (.tmp rfl .nil))) ⟨r,⟨0,0,0,none,0,[]⟩,rfl,rfl,h.grow hc,Q2.refl w r,Xan,hc⟩
 ·refine ζf ϱ (ζl br ϱ (ζv (Xay r M size w3 (h.grow ax) (hr.chg ax) db.2 dc.2) ϱ fun w4 bg => ?_));have ab:=ax.trans bg;have b1:=bg.heap' br;have ay:=bg.heap' ci;have cl:=bg.heap' de;have fj:=bg.size;by_cases g2:Y7 r.c M size=0
  ·have au:¬ (Y7 r.c M size≠0):=fun h=>h g2;have ef:¬ (size<1\/r.c.most<size)/\Cp r.c M size<=M.pl.free.length:=by
    have g2:=g2;unfold Y7 at g2;split at g2
    ·cases g2
    ·split at g2
     ·cases g2
     ·refine ⟨by assumption,by omega⟩
   refine ζF ϱ (by rw [g2]; rfl) (ζl b1 ϱ (ζv (Pn r size w4 (hr.chg ab) (by omega)) ϱ fun w5 a2 => ?_));have b2:=ab.trans a2;have cm:=a2.heap' b1;have cn:=a2.heap' ay;have az:=a2.heap' cl;have fk:=a2.size;by_cases g3:Xm r.c.classes size = -1
   ·have ac:Cf r.c M who size=0/\Bg r.c M who size=⟨-1,(M.pl.free.getD 0 0:Nat),0,X3 (M.pl.free.take (Z5 size r.c.size).toNat).tail⟩/\Af r.c M who size=Dm M (Z5 size r.c.size).toNat:=by
     exact ⟨by unfold Cf; rw [if_neg g1,if_neg au,if_pos g3],by unfold Bg; rw [if_neg g1,if_neg au,if_pos g3],by unfold Af; rw [if_neg g1,if_neg au,if_pos g3]⟩
    rw [ac.1,ac.2.1,ac.2.2];have fg:Cp r.c M size=Z5 size r.c.size:=by unfold Cp; rw [if_pos g3]
    have g5:2<=Z5 size r.c.size:=by
     have h0:0<=(size - 1) / r.c.size:=YD (by omega) (by omega);have h9:(size - 1) / r.c.size<=size - 1:=YT _ (by omega);have e4:Qh size r.c.size=(size - 1) / r.c.size+1:=by unfold Qh; rw [if_neg (by omega)]
     unfold Z5;rw [e4,if_neg (by omega)];omega
    obtain ⟨many,d9⟩:=XD (show 0<=Z5 size r.c.size by omega);have g6:2<=many:=by omega
    have dh:many<=M.pl.free.length:=by have:=ef.2; omega
    have g7:M.pl.free.length<=1024:=by have:=hm.good.many; have:=hm.good.len; omega
    refine ζf ϱ (ζb ϱ (ζn ϱ fun tb w6 e6 ey c2 ez=>ζs ey ϱ fun w7 eg f0 f1 => ?_));have b3:=c2.since f0 (fun z a e=>by omega);have m:=b2.trans b3;have co:=b3.heap' cm;refine ζl co ϱ (ζw (Xel size r.c.size w7 (by omega)) ϱ ?_);rw [d9,XA];have hn:=hMok.n;obtain ⟨B,c⟩:∃ B:Nat->Prop,B=fun z=>z=rb\/z=ob\/z=qb\/z=tb:=⟨_,rfl⟩;have C:∀ z,B z->w.heap.size<=z/\z<w7.heap.size:=fun z a=>by rw [c] at a; rcases a with e | e | e | e <;> omega
    have c3:=h.out (S:=B) (fun z a=>(C z a).1);refine Xa.loop (α:=Nat × RP × Value) (fun x => [(3,false,.pointer (some ⟨rb,0,none⟩)),(6,false,.pointer (some ⟨ob,0,none⟩)),(7,false,.pointer (some ⟨qb,0,none⟩)),(14,false,.pointer (some ⟨tb,0,none⟩)),(15,false,.int .i64 many),(16,false,.int .i64 x.1)])
     (fun x w'=>x.1<=many/\Z9 w' rb {r with p:=x.2.1}/\w'.heap[tb]? = some (.cells ([.int .i64 (-1),.int .i64 (if x.1=0 then 0 else (M.pl.free.getD 0 0:Nat)),.int .i64 0,x.2.2]:List Value).toArray 98 (0,0))/\Qv w' x.2.1 (Ab M.pl (M.shs.length:Nat) x.1)/\Xj B x.2.1.o.a/\Xj B x.2.1.f.a /\
      (∀ S:Nat->Prop,(∀ z,S z->z<w.heap.size)->Xj S r.p.o.a->Xj S r.p.f.a->Xj S x.2.1.o.a/\Xj S x.2.1.f.a)/\Yf w x.2.1.f.a/\Xl w7.heap.size 3 1 w' x.2.2 (x.1 - 1) ((X3 (M.pl.free.take x.1).tail).map (Value.int .i64))/\Xc (fun z=>z=rb\/z=tb) w7 w') (fun x=>many - x.1) (0,r.p,.slice none 0 0) ⟨rfl,rfl,rfl,rfl,rfl,rfl,trivial⟩
     ⟨XL _,co,eg,h.p.grow m,c3.o,c3.f,fun S _ h1 h2=>⟨h1,h2⟩,h.p.f.lt,⟨rfl,.inl ⟨rfl,rfl⟩⟩,Xc.refl _ _⟩ ?_
    rintro ⟨i,rp,v⟩ w8 ⟨hi,ad,b6,E,c4,bh,a7,di,ae,bi⟩ ih;simp only at hi ad b6 E c4 bh a7 di ae
    have fn:=bi.size;refine ζa ϱ (ζg ϱ (fun cq => ?_) fun cq => ?_)
    ·have av:i<many:=by have:=of_decide_eq_true cq; omega
     have cr:i<M.pl.free.length:=by omega
     obtain ⟨q1,q2,q3,q4,q5⟩:=Lh (who:=(M.shs.length:Nat)) (by omega) hm.good i (by omega);have c5:(Ab M.pl (M.shs.length:Nat) i).free=M.pl.free[i]::M.pl.free.drop (i+1):=by rw [q2]; exact ZN cr
     obtain ⟨t1,t2,t3⟩:=Xam (who:=(M.shs.length:Nat)) (by omega) c5;refine ζl ad ϱ (ζl ad ϱ ?_);have hd:=Xef rp (M.shs.length:Nat) _ _ _ w8 E q1 (by omega) c5;rw [<- t3,hn] at hd;refine ζc ϱ (hd) ?_;rintro _ J ⟨l9,rfl,dj,bu,dk⟩;refine ζa ϱ ?_;rw [<- hn] at dj;refine ζn ϱ fun xb wa ea cs af f4=>ζs cs ϱ fun wb ei f5 dl => ?_;have fr:=dk.size;have ct:=af.since f5 (fun z a e=>by omega);have b7:=dk.trans ct;refine ζl ei ϱ (ζs (b7.heap' ad) ϱ fun wc cu c6 g8 => ?_);have cv:=bu.out (fun z a=>by have:=(C z a).2; omega);have cw:Xj B (rp.f.sl 1 rp.f.x.length).a:=IL.sl_out bh;have dm:∀ S:Nat->Prop,(∀ z,S z->z<w.heap.size)->Xj S r.p.o.a->Xj S r.p.f.a->Xj S l9.a/\Xj S (rp.f.sl 1 rp.f.x.length).a:=fun S L h1 h2=>⟨bu.out (fun z a=>by have:=L z a; have:=m.size; omega),IL.sl_out (a7 S L h1 h2).2⟩;have cx:Yf w (rp.f.sl 1 rp.f.x.length).a:=fun b off s e=>by
      obtain ⟨_,_,e'⟩:=XaS e;exact di b _ _ e'
     have k:B rb:=by rw [c]; exact .inl rfl
     have dn:B tb:=by rw [c]; exact .inr (.inr (.inr rfl))
     have far:∀ {w1 w2:World} {z0:Nat},B z0->Xc (fun z=>z=z0) w1 w2->Qv w1 ⟨l9,rp.f.sl 1 rp.f.x.length⟩ (Ab M.pl (M.shs.length:Nat) (i+1))->Qv w2 ⟨l9,rp.f.sl 1 rp.f.x.length⟩ (Ab M.pl (M.shs.length:Nat) (i+1)):=fun aw K c7=>⟨c7.o.far (cv.mono (fun z e=>by subst e; exact aw)) K,c7.f.far (cw.mono (fun z e=>by subst e; exact aw)) K,c7.eo,c7.ef⟩;have dp:=far k c6 (dj.grow ct);have b8:=c6.heap (b7.heap' b6) (by omega);have dq:=(ae.chg b7 (fun _ _ h=>h)).chg c6 (fun b hb e=>by have:=(World.ownsRow.lt ae b hb.symm).1; replace e:b=rb:=e; omega);have cy:=(bi.trans b7.gr).trans (c6.mono fun _ _ e => .inl e);by_cases dr:i=0
     ·subst dr;refine ζy ϱ (ζs b8 ϱ fun wd ej c8 cz=>ζj ϱ ?_);have ek:((M.pl.free[0]:Nat):Int)=(M.pl.free.getD 0 0:Nat):=by rw [XC,XB cr]; rfl
      exact ih (1,⟨l9,rp.f.sl 1 rp.f.x.length⟩,v) _ _ ⟨by omega,c8.heap cu (by omega),by rw [if_neg (show ¬ (1=0) by omega),<- ek]; exact ej,far dn c8 dp,cv,cw,dm,cx,by
       have e:(M.pl.free.take 1).tail = []:=ZU (by rw [QD,XR]; omega);have e0:(M.pl.free.take 0).tail = []:=by simp
       have:=dq.chg c8 (fun b hb e=>by have:=(World.ownsRow.lt ae b hb.symm).1; replace e:b=tb:=e; omega);rw [e0] at this;show Xl _ _ _ _ _ 0 _
       rw [e];exact this,cy.trans (c8.mono fun _ _ e => .inr e)⟩ (by simp only; omega) ⟨rfl,rfl,rfl,rfl,rfl,rfl,trivial⟩
     ·rw [if_neg dr] at b8;refine ζF ϱ (by simp; omega) (ζl b8 ϱ (Xa.buildSlice Xb rfl fun bd wd ed f7 l cz=>ζa ϱ ?_));have ds:=dq.chg l (fun _ _ h=>h);refine Xa.append (base:=w7.heap.size) (xs:=(X3 (M.pl.free.take i).tail).map (Value.int .i64)) (news := [.int .i64 (M.pl.free[i]:Nat)]) Xb rfl ds (by omega) (by simp) (Ho f7) (by simp [Value.oneCell']) ⟨by omega,by show (i - 1+1)*8<=_; omega⟩ ?_;intro v2 we n bj g9;obtain ⟨va,vn,vc,rfl⟩:=Xl.isSlice n;have b9:=fun (b:Nat) (hb:some b=v.ownBlock)=>(World.ownsRow.lt ds b hb.symm).1;have c9:=dp.grow l;have f8:Qv we ⟨l9,rp.f.sl 1 rp.f.x.length⟩ (Ab M.pl (M.shs.length:Nat) (i+1)):=by
       have ft:=m.size;have ga:=fun (b:Nat) (hb:some b=v.ownBlock)=>(World.ownsRow.lt ae b hb.symm).2;exact ⟨c9.o.far (fun b off s e hb=>by have:=bu b off s e; have:=(fun (b:Nat) (hb:some b=v.ownBlock)=>(World.ownsRow.lt ae b hb.symm).2) b hb; omega) bj,c9.f.far (fun b off s e hb=>by have:=cx b off s e; have:=b9 b hb; omega) bj,c9.eo,c9.ef⟩
      refine ζa ϱ (ζs (bj.heap (l.heap' b8) (fun e=>by have:=b9 tb e; omega)) ϱ fun wf el ca gb=>ζj ϱ ?_);exact ih (i+1,⟨l9,rp.f.sl 1 rp.f.x.length⟩,.slice va vn vc) _ _ ⟨by omega,ca.heap (bj.heap (l.heap' cu) (fun e=>by have:=b9 rb e; omega)) (by omega),by rw [if_neg (show ¬ (i+1=0) by omega)]; exact el,far dn ca f8,cv,cw,dm,cx,by
       have e:(M.pl.free.take (i+1)).tail=(M.pl.free.take i).tail ++ [M.pl.free[i]]:=by
        rw [ZC,XB cr,List.tail_append_of_ne_nil]
        ·rfl
        ·intro e; have:=congrArg List.length e; rw [XR,List.length_nil] at this; omega
       have:=n.chg ca (fun b hb e=>by have:=(World.ownsRow.lt n b hb.symm).1; replace e:b=tb:=e; omega);rw [e,XdG,XI];have e2:i - 1+1=i+1 - 1:=by omega
       rw [e2] at this;exact this,((cy.trans l.gr).since bj (fun z a e=>by have:=b9 z e; omega)).trans (ca.mono fun _ _ e => .inr e)⟩ (by simp only; omega) ⟨rfl,rfl,rfl,rfl,rfl,rfl,trivial⟩
    ·have em:i=many:=by have:=of_decide_eq_false cq; omega
     subst em;have W:=c
     clear c
     have bk:(M.pl.free.take i).tail.length=i - 1:=by rw [QD,XR]; omega
     obtain ⟨g,gc,rfl,gd,ge,gf,d0,d1⟩:=Xac ae bk (by omega);obtain ⟨q0,ba⟩:∃ q0:Plc,q0=⟨-1,(M.pl.free.getD 0 0:Nat),0,some ⟨g,0,none⟩,gc,X3 (M.pl.free.take i).tail⟩:=⟨_,rfl⟩;have da:w8.heap[tb]? = some (.cells (Xt q0).toArray 98 (0,0)):=by
      rw [if_neg (show ¬ i=0 by omega)] at b6;have e:Xt q0 = [.int .i64 (-1),.int .i64 (M.pl.free.getD 0 0:Nat),.int .i64 0,.slice (some ⟨g,0,none⟩) (i - 1) gc]:=by
       rw [ba];show [_,_,_,Value.slice _ (X3 (M.pl.free.take i).tail).length _]=_
       rw [C1,bk]
      rw [e]; exact b6
     have a5:Xx q0=⟨-1,(M.pl.free.getD 0 0:Nat),0,X3 (M.pl.free.take i).tail⟩:=by rw [ba]; rfl
     have A:q0.pa=some ⟨g,0,none⟩:=by rw [ba]
     have a6:q0.pages=X3 (M.pl.free.take i).tail:=by rw [ba]
     have gg:=h.st;have bb:=m.since bi (fun z a e=>by rcases e with e | e <;> omega);obtain ⟨t,bc⟩:∃ t,t=Xw M.tot (((i:Nat):Int)*4+(((i:Nat):Int) - 1)):=⟨_,rfl⟩;have f9:r.steps+4*(i:Int)+(i:Int) - 1=t:=by
      rw [bc]; unfold Xw; rw [if_neg (by omega)]; omega
     have d2:(r.lg ++ [q0]).length<=1024:=by
      have h2:(M.lg ++ [(M.pl.free.getD 0 0,(M.pl.free.take i).tail)]).length<=1024:=(Xh2 (hMok.big hm.good (show 1<=i by omega) dh) (Lh (who:=(M.shs.length:Nat)) (by omega) hm.good i dh).1);have fh:r.lg.length=M.lg.length:=by have:=congrArg List.length h.lge; simpa using this
      simp only [XT,XP,List.length_nil] at h2 ⊢;omega
     have cb:w8.heap[rb]? = some (.cells (Zl r.c r.cp ++ [Xn rp.o,Xn rp.f,.slice r.sa r.ss.length r.scap,.slice r.la r.lg.length r.lcap,.int .i64 r.steps]).toArray 38 (0,0)):=ad;refine Xa.loadb Xb rfl cb rfl rfl ?_;refine Xa.arith Xb rfl (w64 (by omega)) rfl ?_;refine Xa.arith Xb rfl (w64 (by omega)) rfl ?_;refine ζj ϱ (ζj ϱ ?_);rw [f9];refine ζs cb ϱ fun J be a3 fa => ?_;have bf:=a3.heap da (by omega);have ag:=a3.heap (bi.heap (b3.heap' cn) (by omega)) (by omega);have bv:=a3.heap (bi.heap (b3.heap' az) (by omega)) (by omega);have bw:Xc B w8 J:=a3.mono fun _ _ e=>by rw [W]; exact .inl e
     have bx:=bb.since a3 (fun z a e=>by omega);refine ζd 6 Xe (by kernel_rfl) ϱ fun c=>δl c be ϱ (δl c bf ϱ ?_);refine Xd.turn2 c rfl ?_ ?_
     ·intro wa af;refine Xq.buildSlice Xb c rfl (fun _=>rfl) ?_;intro b0 wb eb aw cc dl;have K:=af.trans cc;have ah:Xl J.heap.size 98 4 wb (.slice (some ⟨b0,0,none⟩) 0 0) 0 (fl Xt []):=Xl.empty (by have:=af.size; omega) aw;refine Xd.turn2 c rfl ?_ ?_
      ·intro wc o;refine Xq.appendA Xb c rfl (base:=J.heap.size) (xs:=fl Xt []) (news:=fl Xt r.lg) (ah.chg o (fun _ _ h=>h)) ((K.trans o)).size h.lr.noneA (XE _) (Il Iq r.lg) ((h.lr.chg (bx.trans (K.trans o))).news Iq (by decide)) (Mk J8 r.lg) ⟨by have:=h.lm; omega,by have:=h.lm; show (0+r.lg.length)*48<=_; omega⟩ (fun _=>rfl) ?_;intro v1 wx ai aj dt;have a8:=((ah.chg o (fun _ _ h=>h))).since (K.trans o) (XE _) aj;refine Xd.turn1 c rfl fun wd l=>Xq.buildSlice Xb c rfl (fun _=>rfl) fun b5 we ee bl u gh=>δn c ϱ fun wf F => ?_;have n:Xl J.heap.size 98 4 wf v1 r.lg.length (fl Xt r.lg):=by
        have:=(((ai.chg l (fun _ _ h=>h)).chg u (fun _ _ h=>h)).chg F (fun _ _ h=>h));rw [Mj,ZL,XQ] at this;exact this
       obtain ⟨a1,n1,c1,rfl⟩:=Xl.isSlice n;refine Xa.appendA (base:=J.heap.size) (xs:=fl Xt r.lg) (news:=Xt q0) Xb rfl n (((((a8.trans l).trans u).trans F)).size) (fun e=>by cases e) rfl (Kv (F.heap' bl)) (J8 q0) ⟨by have:=h.lm; omega,by have:=h.lm; show (r.lg.length+1)*48<=_; omega⟩ ?_;intro v3 wy bm bn du;have f:=n.since (((a8.trans l).trans u).trans F) (XE _) bn;have ak:Xl J.heap.size 98 4 wy v3 (r.lg.length+1) (fl Xt (r.lg ++ [q0])):=by
        rw [J2,K2]; exact bm
       obtain ⟨la,lcap,rfl,al,av,am,G⟩:=Xl.rowsN ak Iq (by simp);refine ζa ϱ (ζs (f.heap' be) ϱ fun wz an y dv => ?_);have N:B ob:=by rw [W]; exact .inr (.inl rfl)
       have O:B qb:=by rw [W]; exact .inr (.inr (.inl rfl))
       have P:B rb:=by rw [W]; exact .inl rfl
       have ao:Xc B J wz:=f.gr.trans (y.mono fun _ _ e=>by rw [e]; exact P);refine ζd 3 (fun z=>z=ob) (by kernel_rfl) ϱ fun c=>δl c an ϱ (δl c (y.heap (f.heap' bf) (by omega)) ϱ (Xd.turn1 c rfl fun wu H=>Xq.store Xb c rfl (H.heap' (y.heap (f.heap' ag) (by omega))) (by first | (intro h; exact rfl) | (intro h; omega)) rfl rfl rfl fun wv ap Q dw => ?_));refine δn c ϱ fun ww I => ?_;refine ζs (I.heap' (Q.heap (H.heap' (y.heap (f.heap' bv) (by omega))) (by omega))) ϱ fun wr aq R dx => ?_;have k:=(((((bw.trans ao).trans H.gr).trans (Q.mono fun _ _ e=>by rw [e]; exact N)).trans I.gr).trans (R.mono fun _ _ e=>by rw [e]; exact O));have T:=bb.since k (fun z a e=>by have:=(C z e).1; omega);have bo:Qv wr rp (Ab M.pl (M.shs.length:Nat) i):=⟨E.o.far c4 k,E.f.far bh k,E.eo,E.ef⟩;have bp:¬ B g:=fun a=>by have:=(C g a).2; omega
       have j:=h.grow T;have U:Xc B wy wr:=((((y.mono fun _ _ e=>by rw [e]; exact P).trans H.gr).trans (Q.mono fun _ _ e=>by rw [e]; exact N)).trans I.gr).trans (R.mono fun _ _ e=>by rw [e]; exact O);have ar:Xj B la:=fun b off s e a=>by have:=G b off s e; have:=(C b a).2; omega
       have V:Yf w8 q0.pa:=fun b off s e=>by rw [A] at e; cases e; exact Ef d0
       have a9:Zf wr q0:=⟨by rw [A,a6]; exact (d1.far (S:=B) (fun b' off s e=>by cases e; exact bp) k),by rw [a6,C1,bk]; omega⟩;exact ζq rfl func157 (Xk.cell rfl rfl rfl (R.heap (I.heap' ap) (by omega)) rfl (.cell rfl rfl rfl aq rfl (.tmp rfl .nil))) ⟨{r with p:=rp,steps:=t,lg:=r.lg ++ [q0],la:=la,lcap:=lcap},q0,rfl,a5,⟨bo,j.sr,j.sl,j.sc,j.n,j.few,j.each,al.far ar U,av.grow U.size,am,d2,by show (r.lg ++ [q0]).map Xx=(M.lg ++ [(M.pl.free.getD 0 0,(M.pl.free.take i).tail)]).map lgP; rw [XI,XI,h.lge,ZB,List.map_nil,a5]; rfl,fun q d=>(List.mem_append.1 d).elim (fun d=>j.lgo q d) (fun d=>by rw [ZM] at d; subst d; exact ⟨a9,V.grow k.size⟩),bc⟩,⟨rfl,rfl,fun S L D=>⟨(a7 S L D.o D.f).1,(a7 S L D.o D.f).2,D.sa,D.each,fun b off s e a=>by have:=G b off s e; have:=L b a; have:=m.size; omega,fun q d=>(List.mem_append.1 d).elim (fun d=>D.lgo q d) (fun d=>by rw [ZM] at d; subst d; exact fun b off s e a=>by rw [A] at e; cases e; have:=L g a; have:=m.size; omega)⟩⟩,⟨a9,V.grow k.size,fun b off s e=>by rw [A] at e; cases e; have:=m.size; omega⟩,T⟩
      ·intro wc o;refine Xq.buildSlice Xb c rfl (fun _=>rfl) fun b5 wd ed bl l cz=>Xd.turn1 c rfl fun we u=>Xq.appendA Xb c rfl (base:=J.heap.size) (xs:=fl Xt []) (news:=fl Xt r.lg) (((ah.chg o (fun _ _ h=>h)).chg l (fun _ _ h=>h)).chg u (fun _ _ h=>h)) ((((K.trans o).trans l).trans u)).size h.lr.noneA (XE _) (Il Iq r.lg) ((h.lr.chg (bx.trans (((K.trans o).trans l).trans u))).news Iq (by decide)) (Mk J8 r.lg) ⟨by have:=h.lm; omega,by have:=h.lm; show (0+r.lg.length)*48<=_; omega⟩ (fun _=>rfl) fun v1 wx ai aj dt => ?_;have a8:=((((ah.chg o (fun _ _ h=>h)).chg l (fun _ _ h=>h)).chg u (fun _ _ h=>h))).since (((K.trans o).trans l).trans u) (XE _) aj;refine δn c ϱ fun wf F => ?_;have d5:¬ Hz (.slice (some ⟨b0,0,none⟩) 0 0) b5:=by
        intro h; have e:some b5=some b0:=h; have:=Option.some.inj e; have:=o.size; omega
       have n:Xl J.heap.size 98 4 wf v1 r.lg.length (fl Xt r.lg):=by
        have:=(ai.chg F (fun _ _ h=>h));rw [Mj,ZL,XQ] at this;exact this
       obtain ⟨a1,n1,c1,rfl⟩:=Xl.isSlice n;refine Xa.appendA (base:=J.heap.size) (xs:=fl Xt r.lg) (news:=Xt q0) Xb rfl n (((a8.trans F)).size) (fun e=>by cases e) rfl (Kv (F.heap' (aj.heap (u.heap' bl) d5))) (J8 q0) ⟨by have:=h.lm; omega,by have:=h.lm; show (r.lg.length+1)*48<=_; omega⟩ ?_;intro v3 wy bm bn du;have f:=n.since (a8.trans F) (XE _) bn;have ak:Xl J.heap.size 98 4 wy v3 (r.lg.length+1) (fl Xt (r.lg ++ [q0])):=by
        rw [J2,K2]; exact bm
       obtain ⟨la,lcap,rfl,al,av,am,G⟩:=Xl.rowsN ak Iq (by simp);refine ζa ϱ (ζs (f.heap' be) ϱ fun wz an y dv => ?_);have N:B ob:=by rw [W]; exact .inr (.inl rfl)
       have O:B qb:=by rw [W]; exact .inr (.inr (.inl rfl))
       have P:B rb:=by rw [W]; exact .inl rfl
       have ao:Xc B J wz:=f.gr.trans (y.mono fun _ _ e=>by rw [e]; exact P);refine ζd 3 (fun z=>z=ob) (by kernel_rfl) ϱ fun c=>δl c an ϱ (δl c (y.heap (f.heap' bf) (by omega)) ϱ (Xd.turn1 c rfl fun wu H=>Xq.store Xb c rfl (H.heap' (y.heap (f.heap' ag) (by omega))) (by first | (intro h; exact rfl) | (intro h; omega)) rfl rfl rfl fun wv ap Q dw => ?_));refine δn c ϱ fun ww I => ?_;refine ζs (I.heap' (Q.heap (H.heap' (y.heap (f.heap' bv) (by omega))) (by omega))) ϱ fun wr aq R dx => ?_;have k:=(((((bw.trans ao).trans H.gr).trans (Q.mono fun _ _ e=>by rw [e]; exact N)).trans I.gr).trans (R.mono fun _ _ e=>by rw [e]; exact O));have T:=bb.since k (fun z a e=>by have:=(C z e).1; omega);have bo:Qv wr rp (Ab M.pl (M.shs.length:Nat) i):=⟨E.o.far c4 k,E.f.far bh k,E.eo,E.ef⟩;have bp:¬ B g:=fun a=>by have:=(C g a).2; omega
       have j:=h.grow T;have U:Xc B wy wr:=((((y.mono fun _ _ e=>by rw [e]; exact P).trans H.gr).trans (Q.mono fun _ _ e=>by rw [e]; exact N)).trans I.gr).trans (R.mono fun _ _ e=>by rw [e]; exact O);have ar:Xj B la:=fun b off s e a=>by have:=G b off s e; have:=(C b a).2; omega
       have V:Yf w8 q0.pa:=fun b off s e=>by rw [A] at e; cases e; exact Ef d0
       have a9:Zf wr q0:=⟨by rw [A,a6]; exact (d1.far (S:=B) (fun b' off s e=>by cases e; exact bp) k),by rw [a6,C1,bk]; omega⟩;exact ζq rfl func157 (Xk.cell rfl rfl rfl (R.heap (I.heap' ap) (by omega)) rfl (.cell rfl rfl rfl aq rfl (.tmp rfl .nil))) ⟨{r with p:=rp,steps:=t,lg:=r.lg ++ [q0],la:=la,lcap:=lcap},q0,rfl,a5,⟨bo,j.sr,j.sl,j.sc,j.n,j.few,j.each,al.far ar U,av.grow U.size,am,d2,by show (r.lg ++ [q0]).map Xx=(M.lg ++ [(M.pl.free.getD 0 0,(M.pl.free.take i).tail)]).map lgP; rw [XI,XI,h.lge,ZB,List.map_nil,a5]; rfl,fun q d=>(List.mem_append.1 d).elim (fun d=>j.lgo q d) (fun d=>by rw [ZM] at d; subst d; exact ⟨a9,V.grow k.size⟩),bc⟩,⟨rfl,rfl,fun S L D=>⟨(a7 S L D.o D.f).1,(a7 S L D.o D.f).2,D.sa,D.each,fun b off s e a=>by have:=G b off s e; have:=L b a; have:=m.size; omega,fun q d=>(List.mem_append.1 d).elim (fun d=>D.lgo q d) (fun d=>by rw [ZM] at d; subst d; exact fun b off s e a=>by rw [A] at e; cases e; have:=L g a; have:=m.size; omega)⟩⟩,⟨a9,V.grow k.size,fun b off s e=>by rw [A] at e; cases e; have:=m.size; omega⟩,T⟩
     ·intro wa af;refine Xq.buildSlice Xb c rfl (fun _=>rfl) fun b5 wb eb bl cc dl=>Xd.turn1 c rfl fun wc o=>Xq.buildSlice Xb c rfl (fun _=>rfl) fun b0 wd ed aw l cz => ?_;have K:=((af.trans cc).trans o).trans l;have ah:Xl J.heap.size 98 4 wd (.slice (some ⟨b0,0,none⟩) 0 0) 0 (fl Xt []):=Xl.empty (by have:=((af.trans cc).trans o).size; omega) aw;refine Xd.turn1 c rfl fun we u=>Xq.appendA Xb c rfl (base:=J.heap.size) (xs:=fl Xt []) (news:=fl Xt r.lg) (ah.chg u (fun _ _ h=>h)) ((K.trans u)).size h.lr.noneA (XE _) (Il Iq r.lg) ((h.lr.chg (bx.trans (K.trans u))).news Iq (by decide)) (Mk J8 r.lg) ⟨by have:=h.lm; omega,by have:=h.lm; show (0+r.lg.length)*48<=_; omega⟩ (fun _=>rfl) fun v1 wx ai aj dt => ?_;have a8:=((ah.chg u (fun _ _ h=>h))).since (K.trans u) (XE _) aj;refine δn c ϱ fun wf F => ?_;have d5:¬ Hz (.slice (some ⟨b0,0,none⟩) 0 0) b5:=by
       intro h; have e:some b5=some b0:=h; have:=Option.some.inj e; have:=o.size; omega
      have n:Xl J.heap.size 98 4 wf v1 r.lg.length (fl Xt r.lg):=by
       have:=(ai.chg F (fun _ _ h=>h));rw [Mj,ZL,XQ] at this;exact this
      obtain ⟨a1,n1,c1,rfl⟩:=Xl.isSlice n;refine Xa.appendA (base:=J.heap.size) (xs:=fl Xt r.lg) (news:=Xt q0) Xb rfl n (((a8.trans F)).size) (fun e=>by cases e) rfl (Kv (F.heap' (aj.heap ((l.trans u).heap' (o.heap' bl)) d5))) (J8 q0) ⟨by have:=h.lm; omega,by have:=h.lm; show (r.lg.length+1)*48<=_; omega⟩ ?_;intro v3 wy bm bn du;have f:=n.since (a8.trans F) (XE _) bn;have ak:Xl J.heap.size 98 4 wy v3 (r.lg.length+1) (fl Xt (r.lg ++ [q0])):=by
       rw [J2,K2]; exact bm
      obtain ⟨la,lcap,rfl,al,av,am,G⟩:=Xl.rowsN ak Iq (by simp);refine ζa ϱ (ζs (f.heap' be) ϱ fun wz an y dv => ?_);have N:B ob:=by rw [W]; exact .inr (.inl rfl)
      have O:B qb:=by rw [W]; exact .inr (.inr (.inl rfl))
      have P:B rb:=by rw [W]; exact .inl rfl
      have ao:Xc B J wz:=f.gr.trans (y.mono fun _ _ e=>by rw [e]; exact P);refine ζd 3 (fun z=>z=ob) (by kernel_rfl) ϱ fun c=>δl c an ϱ (δl c (y.heap (f.heap' bf) (by omega)) ϱ (Xd.turn1 c rfl fun wu H=>Xq.store Xb c rfl (H.heap' (y.heap (f.heap' ag) (by omega))) (by first | (intro h; exact rfl) | (intro h; omega)) rfl rfl rfl fun wv ap Q dw => ?_));refine δn c ϱ fun ww I => ?_;refine ζs (I.heap' (Q.heap (H.heap' (y.heap (f.heap' bv) (by omega))) (by omega))) ϱ fun wr aq R dx => ?_;have k:=(((((bw.trans ao).trans H.gr).trans (Q.mono fun _ _ e=>by rw [e]; exact N)).trans I.gr).trans (R.mono fun _ _ e=>by rw [e]; exact O));have T:=bb.since k (fun z a e=>by have:=(C z e).1; omega);have bo:Qv wr rp (Ab M.pl (M.shs.length:Nat) i):=⟨E.o.far c4 k,E.f.far bh k,E.eo,E.ef⟩;have bp:¬ B g:=fun a=>by have:=(C g a).2; omega
      have j:=h.grow T;have U:Xc B wy wr:=((((y.mono fun _ _ e=>by rw [e]; exact P).trans H.gr).trans (Q.mono fun _ _ e=>by rw [e]; exact N)).trans I.gr).trans (R.mono fun _ _ e=>by rw [e]; exact O);have ar:Xj B la:=fun b off s e a=>by have:=G b off s e; have:=(C b a).2; omega
      have V:Yf w8 q0.pa:=fun b off s e=>by rw [A] at e; cases e; exact Ef d0
      have a9:Zf wr q0:=⟨by rw [A,a6]; exact (d1.far (S:=B) (fun b' off s e=>by cases e; exact bp) k),by rw [a6,C1,bk]; omega⟩;exact ζq rfl func157 (Xk.cell rfl rfl rfl (R.heap (I.heap' ap) (by omega)) rfl (.cell rfl rfl rfl aq rfl (.tmp rfl .nil))) ⟨{r with p:=rp,steps:=t,lg:=r.lg ++ [q0],la:=la,lcap:=lcap},q0,rfl,a5,⟨bo,j.sr,j.sl,j.sc,j.n,j.few,j.each,al.far ar U,av.grow U.size,am,d2,by show (r.lg ++ [q0]).map Xx=(M.lg ++ [(M.pl.free.getD 0 0,(M.pl.free.take i).tail)]).map lgP; rw [XI,XI,h.lge,ZB,List.map_nil,a5]; rfl,fun q d=>(List.mem_append.1 d).elim (fun d=>j.lgo q d) (fun d=>by rw [ZM] at d; subst d; exact ⟨a9,V.grow k.size⟩),bc⟩,⟨rfl,rfl,fun S L D=>⟨(a7 S L D.o D.f).1,(a7 S L D.o D.f).2,D.sa,D.each,fun b off s e a=>by have:=G b off s e; have:=L b a; have:=m.size; omega,fun q d=>(List.mem_append.1 d).elim (fun d=>D.lgo q d) (fun d=>by rw [ZM] at d; subst d; exact fun b off s e a=>by rw [A] at e; cases e; have:=L g a; have:=m.size; omega)⟩⟩,⟨a9,V.grow k.size,fun b off s e=>by rw [A] at e; cases e; have:=m.size; omega⟩,T⟩
   ·have ac:Cf r.c M who size=Ew M (Xm r.c.classes size) who/\Bg r.c M who size=⟨Xm r.c.classes size,Do M (Xm r.c.classes size) who,Dn M (Xm r.c.classes size) who,[]⟩/\Af r.c M who size=Qb M (Xm r.c.classes size) who:=by
     exact ⟨by unfold Cf; rw [if_neg g1,if_neg au,if_neg g3],by unfold Bg; rw [if_neg g1,if_neg au,if_neg g3],by unfold Af; rw [if_neg g1,if_neg au,if_neg g3]⟩
    rw [ac.1,ac.2.1,ac.2.2];have gi:=Pe r.c.classes size;refine ζy ϱ (ζl cm ϱ (ζc ϱ (Xeo r M (Xm r.c.classes size) who w5 (h.grow b2) hm ht) ?_));rintro _ w6 ⟨r',rfl,hR,hK,c2⟩;refine ζa ϱ (ζn ϱ fun xb w7 e7 cs bq f1=>ζs cs ϱ fun w8 eo cd fe => ?_);have c0:=bq.since cd (fun z a e=>by omega);have d6:=c2.trans c0;refine ζl eo ϱ (ζb ϱ (ζs (d6.heap' cn) ϱ fun J ag a3 fa => ?_));have ai:Bq (fun z=>z=ob) r':=hK.out h (fun z a=>by omega) (fun z a=>by omega);have n:Bq (fun z=>z=qb) r':=hK.out h (fun z a=>by omega) (fun z a=>by omega);exact ζs (a3.heap (d6.heap' az) (by omega)) ϱ fun wa ep d7 f4=>Xa.ret Xb rfl func157 (Xk.cell rfl rfl rfl (d7.heap ag (by omega)) rfl (.cell rfl rfl rfl ep rfl (.tmp rfl .nil))) ⟨r',⟨Xm r.c.classes size,Do M (Xm r.c.classes size) who,Dn M (Xm r.c.classes size) who,none,0,[]⟩,rfl,rfl,((hR.grow c0).far ai a3).far n d7,hK.back b2.size,Xan,((((b2.trans c2).trans c0).since a3 (fun z a e=>by omega)).since d7 (fun z a e=>by omega))⟩
  ·have d8:Cf r.c M who size=Y7 r.c M size/\Bg r.c M who size=⟨0,0,0,[]⟩/\Af r.c M who size=M:=by
    exact ⟨by unfold Cf; rw [if_neg g1,if_pos g2],by unfold Bg; rw [if_neg g1,if_pos g2],by unfold Af; rw [if_neg g1,if_pos g2]⟩
   rw [d8.1,d8.2.1,d8.2.2];refine ζY ϱ (by simpa using g2) ?_;have c3:Bq (fun z=>z=ob) r:=h.out (fun z a=>by omega);have ff:∀ w',Xc (fun z=>z=ob) w4 w'->Xc Xe w w':=fun w' ce=>ab.since ce (fun z a e=>by omega);refine Xa.drawn (q:=6) (fun z=>z=ob) Xb Xo (by kernel_rfl) rfl ?_;intro c;refine Xd.loads Xb c rfl b1 (by first | exact fun h=>h | (intro h; omega) | assumption) rfl rfl ?_;refine Xd.build Xb c rfl rfl ?_;refine Xd.loads Xb c rfl b1 (by first | exact fun h=>h | (intro h; omega) | assumption) rfl rfl ?_;refine Xd.call Xb c rfl (fun w' ce=>Xay r M size w' ((h.grow ab).far c3 ce) (hr.chg (ff w' ce)) db.2 dc.2) rfl ?_;refine Xd.turn1 c rfl fun w5 a2=>Xq.store Xb c rfl (a2.heap' ay) (by first | (intro h; exact rfl) | (intro h; omega)) rfl rfl rfl fun w6 er dy ez=>δn c ϱ fun w7 bq => ?_;refine ζs (bq.heap' (dy.heap (a2.heap' cl) (by omega))) ϱ fun w8 es cd fe => ?_;have hc:=(((ab.trans a2).since dy (fun z a e=>by omega)).trans bq).since cd (fun z a e=>by omega);exact ζq rfl func157 (Xk.cell rfl rfl rfl (cd.heap (bq.heap' er) (by omega)) rfl (.cell rfl rfl rfl es rfl (.tmp rfl .nil))) ⟨r,⟨0,0,0,none,0,[]⟩,rfl,rfl,h.grow hc,Q2.refl w r,Xan,hc⟩
def Ix (a b:Plc):Bool:=decide (a.page=b.page/\a.pages=b.pages)
theorem XjL (a b:Plc) (w:World) (ha:Rd .i64 w a.pa a.pages) (hb:Rd .i64 w b.pa b.pages) (hl:a.pages.length<=9223372036854775807):Xf prog 205 #[.agg (Xt a).toArray,.agg (Xt b).toArray] w (Grow (.bool (Ix a b)) w):=by
 refine ζe func205 ntmps205 ϱ (ζn ϱ fun x P e1 H A M=>ζn ϱ fun y I e2 r n N => ?_);have g:=n.heap' H;have c:=A.trans n;refine ζl g ϱ (ζl r ϱ (ζg ϱ (fun s => ?_) fun s => ?_))
 ·have i:a.page≠b.page:=by simpa using s
  have e:Ix a b=false:=decide_eq_false (fun h=>i h.1);rw [e];exact ζr func205 ϱ ⟨rfl,c⟩
 ·have i:a.page=b.page:=by simpa using s
  refine ζl g ϱ (ζl r ϱ (ζg ϱ (fun t => ?_) fun t => ?_))
  ·have B:a.pages.length≠b.pages.length:=by simp at t; omega
   have e:Ix a b=false:=decide_eq_false (fun h=>B (by rw [h.2]));rw [e];exact ζr func205 ϱ ⟨rfl,c⟩
  ·have u:a.pages.length=b.pages.length:=by simp at t; omega
   refine Xa.loop (α:=Nat) (fun k => [(2,false,.pointer (some ⟨x,0,none⟩)),(3,false,.pointer (some ⟨y,0,none⟩)),(5,false,.int .i64 k)])
    (fun k w'=>Xc Xe I w'/\k<=a.pages.length /\ ∀ j,j<k->a.pages.getD j 0=b.pages.getD j 0) (fun k=>a.pages.length - k) 0 ⟨rfl,rfl,rfl,trivial⟩ ⟨Xc.refl _ _,XL _,fun _ h=>by omega⟩ ?_
   rintro k Q ⟨d,R,l⟩ ih;have o:=d.heap' g;refine ζa ϱ (ζl o ϱ (ζg ϱ (fun v => ?_) fun v => ?_))
   ·have p:k<a.pages.length:=by have:=of_decide_eq_true v; omega
    obtain ⟨ba,oa,C,D⟩:=((ha.chg c).chg d) k p;obtain ⟨bb,obb,E,F⟩:=((hb.chg c).chg d) k (by omega);refine ζd 11 Xe (by kernel_rfl) ϱ fun f=>δl f o ϱ ?_;rw [C];refine δi k f ϱ (δk f D ϱ (δl f (d.heap' r) ϱ ?_));rw [E];refine δi k f ϱ (δk f F ϱ (δn f ϱ fun S q=>ζg ϱ (fun m => ?_) fun m => ?_))
    ·have z:a.pages.getD k 0≠b.pages.getD k 0:=by simpa using m
     have e:Ix a b=false:=decide_eq_false (fun h=>z (by rw [h.2]));rw [e];exact ζr func205 ϱ ⟨rfl,(c.trans d).trans q⟩
    ·have J:a.pages.getD k 0=b.pages.getD k 0:=by simpa using m
     refine ζj ϱ ?_;exact ih (k+1) _ _ ⟨d.trans q,p,fun j T=>by
      by_cases e:j=k
      ·subst e; exact J
      ·exact l j (by omega)⟩ (by omega) ⟨rfl,rfl,rfl,trivial⟩
   ·have O:k=a.pages.length:=by have:=of_decide_eq_false v; omega
    have G:=List.ext_getElem u fun j K L=>by
     have:=l j (by omega);rw [Hq K,Hq L] at this;exact this
    have e:Ix a b=true:=decide_eq_true ⟨i,G⟩;rw [e];exact ζr func205 ϱ ⟨rfl,c.trans d⟩
def Bu (q x:Plc):Bool:=decide (q.cls = -1) && Ix x q
def Cy (q:Plc) (l:List Plc):List Plc:=l.filter fun x => !Bu q x
theorem V2 {l:List Plc} (h:i<l.length):Cy q (l.take (i+1))=Cy q (l.take i)++(if Bu q l[i] then [] else [l[i]]):=by
 unfold Cy;rw [ZC,XB h,YZ];by_cases e:Bu q l[i]=true
 ·rw [if_pos e]; simp [e]
 ·rw [if_neg e]; simp [e]
theorem Ul {l:List Plc} (h:i<l.length):(l.take (i+1)).any (Bu q)=((l.take i).any (Bu q) || Bu q l[i]):=by
 rw [ZC,XB h,List.any_append]
 simp
theorem XhJ {ps:List Plc} (hl:ps.map Xx=lg.map lgP) (hq:q.cls = -1):(ps.any (Bu q)=lg.any fun e=>decide ((e.1:Int)=q.page/\X3 e.2=q.pages))/\(Cy q ps).map Xx=(lg.filter fun e => !decide ((e.1:Int)=q.page/\X3 e.2=q.pages)).map lgP:=by
 induction ps generalizing lg with
 |nil =>
  cases lg with
  |nil=>exact ⟨rfl,rfl⟩
  |cons a r=>simp at hl
 |cons x xs ih =>
  cases lg with
  |nil=>simp at hl
  |cons a r =>
   rw [ZB,ZB] at hl;obtain ⟨b,f⟩:=List.cons.inj hl;obtain ⟨g,c⟩:=ih f;have e1:x.page=(a.1:Nat):=congrArg PlcM.page b;have e2:x.pages=X3 a.2:=congrArg PlcM.pages b;have e3:Bu q x=decide ((a.1:Int)=q.page/\X3 a.2=q.pages):=by
    unfold Bu Ix;rw [decide_eq_true hq,ZZ,e1,e2]
   refine ⟨by rw [List.any_cons,List.any_cons,e3,g],?_⟩;unfold Cy at *;rw [ZE,ZE,e3];by_cases d:decide ((a.1:Int)=q.page/\X3 a.2=q.pages)=true
   ·rw [d]; exact c
   ·have h:decide ((a.1:Int)=q.page/\X3 a.2=q.pages)=false:=by simpa using d
    rw [h];simp only [Bool.not_false,if_true,ZB];rw [c,b]
theorem V3 (hn:(Yx lg).Nodup) {r r':List Nat} (h:(n,r) ∈ lg) (h':(n,r') ∈ lg):r=r':=by
 obtain ⟨a,b,e1,e2⟩:=Mu hn h;rw [e1] at h' hn;have c:Yx (a++(n,r)::b)=Yx a++((n::r)++Yx b):=by rw [Ja]; rfl
 rw [c] at hn;obtain ⟨_,d,e⟩:=List.nodup_append.1 hn;obtain ⟨_,_,f⟩:=List.nodup_append.1 d;rcases List.mem_append.1 h' with g | g
 ·exact absurd rfl (e n (Hw g (by simp)) n (by simp))
 ·rcases List.mem_cons.1 g with g | g
  ·exact ((Prod.mk.inj g).2).symm
  ·exact absurd rfl (f n (by simp) n (Hw g (by simp)))
theorem XhK (hn:(Yx lg).Nodup) {r:List Nat} (h:(n,r) ∈ lg) {p:Int} {ps:List Int} (hp:p=n) (hps:X3 r=ps):(lg.any fun e=>decide ((e.1:Int)=p/\X3 e.2=ps))=true/\(lg.filter fun e => !decide ((e.1:Int)=p/\X3 e.2=ps))=Cz lg n:=by
 refine ⟨List.any_eq_true.2 ⟨(n,r),h,decide_eq_true ⟨hp.symm,hps⟩⟩,?_⟩;unfold Cz;refine List.filter_congr fun e a => ?_;by_cases e1:e.1=n
 ·have e2:=V3 hn (n:=n) (by rw [<- e1]; exact a) h;rw [decide_eq_true ⟨by rw [e1]; exact hp.symm,by rw [e2]; exact hps⟩,e1]
  simp
 ·rw [decide_eq_false (fun h=>e1 (by have:=h.1; omega))];simp [e1]
theorem Xc0 {p:Int} {ps:List Int} (h:∀ r,Cm lg p=some r->X3 r≠ps) (hn:(Yx lg).Nodup):(lg.any fun e=>decide ((e.1:Int)=p/\X3 e.2=ps))=false:=by
 rw [List.any_eq_false];intro e b c;obtain ⟨d,f⟩:=of_decide_eq_true c;cases a:Cm lg p with
 |none=>exact Sc a e b d
 |some r =>
  obtain ⟨n,i,g⟩:=La a;have e1:e.1=n:=by omega
  have:e.2=r:=V3 hn (n:=n) (by rw [<- e1]; exact b) g;exact h r a (by rw [<- this]; exact f)
def XbF (M:RmM):Prop := ∀ (k:Nat) (x:Sm),M.shs[k]? = some x->x.Pos
theorem Zg.mpos (h:Zg F w R M):XbF M:=fun k x a=>by
 obtain ⟨G,_,b,_⟩:=h.shelf a;exact b.pos
theorem XhL {p:α->Bool} {l:List α} (_ : -1<=idx p l):idx p l<l.length:=by
 by_cases h:∃ k,∃ a:k<l.length,p l[k]=true /\ ∀ j (b:j<l.length),j<k->p l[j]=false
 ·obtain ⟨k,a,d,e⟩:=h;rw [Im a e d]; omega
 ·rw [Hs fun j b => ?_]
  ·omega
  ·induction j using QA with
   |ind j ih =>
    cases f:p l[j] with
    |false=>rfl
    |true=>exact absurd ⟨j,b,f,fun i g c=>ih i c g⟩ h
theorem Sx {n:Int} (h:Xm zs n ≠ -1):0<=Xm zs n/\Xm zs n<zs.length:=by
 have a:=Pe zs n;refine ⟨by omega,?_⟩;unfold Xm at *;split at h
 ·exact absurd rfl h
 ·rename_i b
  rw [if_neg b] at a;rw [if_neg b];exact XhL a
theorem Xhq (hok:M.Ok c) (hw:0<=who) (h:Y7 c M size=0):Cf c M who size=0:=by
 have a:(Cp c M size:Int)<=M.pl.free.length:=by
  unfold Y7 at h;split at h
  ·exact absurd h (by decide)
  ·split at h
   ·exact absurd h (by decide)
   ·omega
 unfold Cf;rw [if_neg (by omega),if_neg (by omega)];split
 ·rfl
 ·rename_i b
  obtain ⟨g,i⟩:=Sx b;obtain ⟨k,d⟩:=XD g;rw [d] at i ⊢;have e:k<M.shs.length:=by have:=hok.n; omega
  have f:=Ll e;unfold Ew;rw [f];simp only
  unfold Qi;rw [if_neg (by omega),if_neg];intro ⟨j,l⟩;unfold Cp at a;rw [if_neg b,d] at a;unfold Yg at a;rw [f] at a;simp only [j,l] at a;omega
theorem Xj8 {q:PlM} {t:Int}:Zs {M with shs:=M.shs.set k x,pl:=q,tot:=t} j=if k=j/\k<M.shs.length then some x else Zs M j:=by
 unfold Zs;rw [if_pos (Int.natCast_nonneg _),if_pos (Int.natCast_nonneg _),XA];show (M.shs.set k x)[j]? = _
 by_cases e:k=j
 ·subst e;by_cases a:k<M.shs.length
  ·rw [if_pos ⟨rfl,a⟩,XG a]
  ·rw [if_neg (fun h=>a h.2),XZ (by rw [XF]; omega),XZ (by omega)]
 ·rw [if_neg (fun h=>e h.1),XU e]
theorem XiM {n i:Int} (h:Qm x n i = -1):Bo x n i≠0:=by
 unfold Qm at h;unfold Bo;cases a:Zc x.pg n with
 |none=>simp
 |some p =>
  rw [a] at h;simp only at h ⊢
  unfold Qp;split
  ·decide
  ·first | decide | (rw [if_pos h]; decide)
theorem Nm {k:Int} (h:k<0):Zs M k=none:=Nn (.inl h)
theorem XaV {l:PgL} {q:List Int} (hn:(l.map (·.1)).Nodup) (hq:(n,q) ∈ l) (m:Int):Zc (Zi l n p) m=if m=n then some p else Zc l m:=by
 by_cases e:m=n
 ·rw [if_pos e,e]; exact XkW hn hq
 ·rw [if_neg e]
  clear hn hq
  induction l with
  |nil=>rfl
  |cons a r ih =>
   obtain ⟨k,t⟩:=a;by_cases c:k=n
   ·have:Zi ((k,t)::r) n p=(n,p)::Zi r n p:=by show (if k=n then (n,p) else (k,t))::Zi r n p=_; rw [if_pos c]
    rw [this];unfold Zc;rw [if_neg (fun h=>e h.symm),if_neg (fun h=>e (by omega))];exact ih
   ·have:Zi ((k,t)::r) n p=(k,t)::Zi r n p:=by show (if k=n then (n,p) else (k,t))::Zi r n p=_; rw [if_neg c]
    rw [this];unfold Zc;by_cases b:(k:Int)=m
    ·rw [if_pos b,if_pos b]
    ·rw [if_neg b,if_neg b]; exact ih
theorem XkU {l:PgL} (hn:n ∉ l.map (·.1)) (m:Int):Zc (l ++ [(n,p)]) m=if m=n then some p else Zc l m:=by
 induction l with
 |nil =>
  show Zc [(n,p)] m=_
  unfold Zc;by_cases e:(n:Int)=m
  ·rw [if_pos e,if_pos e.symm]
  ·rw [if_neg e,if_neg (fun h=>e h.symm)]; rfl
 |cons a r ih =>
  obtain ⟨k,t⟩:=a;have d:k≠n:=fun h=>hn (by simp [h]);have c:n ∉ r.map (·.1):=fun h=>hn (by simp at h ⊢; exact .inr h);show (if (k:Int)=m then some t else Zc (r ++ [(n,p)]) m)=if m=n then some p else (if (k:Int)=m then some t else Zc r m)
  rw [ih c];by_cases b:(k:Int)=m
  ·rw [if_pos b,if_pos b,if_neg (by omega)]
  ·rw [if_neg b,if_neg b]
theorem XkV {l:PgL} (m:Int):Zc (Y8 l n) m=if m=n then none else Zc l m:=by
 induction l with
 |nil=>show none=_; split <;> rfl
 |cons a r ih =>
  obtain ⟨k,t⟩:=a;by_cases c:k=n
  ·have:Y8 ((k,t)::r) n=Y8 r n:=by unfold Y8; rw [ZE]; simp [c]
   rw [this,ih];by_cases e:m=n
   ·rw [if_pos e,if_pos e]
   ·rw [if_neg e,if_neg e];show _=if (k:Int)=m then some t else Zc r m
    rw [if_neg (by omega)]
  ·have:Y8 ((k,t)::r) n=(k,t)::Y8 r n:=by unfold Y8; rw [ZE]; simp [c]
   rw [this];show (if (k:Int)=m then some t else Zc (Y8 r n) m)=if m=n then none else (if (k:Int)=m then some t else Zc r m)
   rw [ih];by_cases b:(k:Int)=m
   ·rw [if_pos b,if_pos b,if_neg (by omega)]
   ·rw [if_neg b,if_neg b]
theorem St {v:Int} (h:k<p.length) (j:Int):Z8 (p.set k v) j=if j=k then v else Z8 p j:=by
 unfold Z8;by_cases a:0<=j
 ·obtain ⟨j,rfl⟩:=XD a;rw [if_pos a,if_pos a];show (p.set k v).getD j (-1)=_
  rw [Mp];by_cases e:k=j
  ·subst e; rw [if_pos ⟨rfl,h⟩,if_pos rfl]
  ·rw [if_neg (fun h=>e h.1),if_neg (by omega)]; rfl
 ·rw [if_neg a,if_neg a,if_neg (by omega)]
theorem Pc {j:Int} (h:Z8 p j ≠ -1):0<=j/\j<p.length:=by
 unfold Z8 at h;split at h
 ·rename_i a
  refine ⟨a,?_⟩;refine Int.not_le.1 fun b=>h ?_;rw [XC,XZ (by omega)];rfl
 ·exact absurd rfl h
theorem Xae {n i:Int} (hok:x.Ok) (h:Qm x n i ≠ -1):∃ (m:Nat) (p:List Int),n=m/\(m,p) ∈ x.pg/\Zc x.pg n=some p/\0<=i/\i<x.blocks/\Qm x n i=Z8 p i:=by
 unfold Qm at h ⊢;cases c:Zc x.pg n with
 |none=>rw [c] at h; exact absurd rfl h
 |some p =>
  rw [c] at h;simp only at h
  obtain ⟨m,rfl,d⟩:=Hg c;have e:=(hok.each _ d).2.1;obtain ⟨a,b⟩:=Pc h;exact ⟨m,p,rfl,d,rfl,a,by simp only at e; omega,rfl⟩
theorem Xhw {n i:Int}:Bo x n i=0↔Qm x n i ≠ -1:=by
 constructor
 ·intro h d; exact XiM d h
 ·intro h;unfold Qm at h;unfold Bo;cases c:Zc x.pg n with
  |none=>rw [c] at h; exact absurd rfl h
  |some p =>
   rw [c] at h;simp only at h ⊢
   obtain ⟨a,b⟩:=Pc h;unfold Qp;rw [if_neg (by omega),if_neg h]
theorem XiG {n i:Int} (hw:0<=who):Gi x n i who=0↔Qm x n i ≠ -1:=by
 unfold Qm Gi;cases d:Zc x.pg n with
 |none=>simp
 |some p =>
  simp only
  unfold Aa;constructor
  ·intro h c;split at h
   ·cases h
   ·first | (rw [if_pos c] at h; cases h) | (cases h)
  ·intro h;obtain ⟨a,b⟩:=Pc h;rw [if_neg (by omega),if_neg h]
theorem Xhy {n i:Int} (hok:x.Ok) (h:Qm x n i ≠ -1) (m j:Int):Qm (Q1 x n i) m j=if m=n/\j=i then -1 else Qm x m j:=by
 obtain ⟨k,p,rfl,q,o,u,B,e⟩:=Xae hok h;obtain ⟨i,rfl⟩:=XD u;rw [e] at h;have w:=(hok.each _ q).2.1;simp only at w
 have r:Qp p i=0:=by unfold Qp; rw [if_neg (by omega),if_neg h]
 have y:Q1 x (k:Nat) i=x.giveAt k p i:=by unfold Q1; rw [o]; simp only; rw [if_pos r,XA]
 rw [y];have f:Z6 p i=p.set i (-1):=by unfold Z6; rw [if_pos r,XA]
 unfold Sm.giveAt;simp only
 by_cases s:Xv (Z6 p i)=0
 ·rw [if_pos s];unfold Qm;simp only
  rw [XkV];by_cases c:m=k
  ·rw [if_pos c];by_cases d:j=i
   ·rw [if_pos ⟨c,d⟩]
   ·rw [if_neg (fun h=>d h.2),c,o];simp only
    have t:Z8 (Z6 p i) j = -1:=Decidable.byContradiction fun g=>by
     obtain ⟨a,b⟩:=Pc g;obtain ⟨j,rfl⟩:=XD a;have l:j<(Z6 p i).length:=by omega
     have:=Hb (v := -1) l;rw [if_pos rfl] at this;have z:(Z6 p i).getD j 0 ≠ -1:=by
      rw [Mm l];intro A;apply g
      unfold Z8;rw [if_pos a,XA]; exact A
     rw [if_neg z] at this;omega
    rw [f,St (by omega),if_neg d] at t;exact t.symm
  ·rw [if_neg c,if_neg (fun h=>c h.1)]
 ·rw [if_neg s];unfold Qm;simp only
  rw [XaV hok.nodup q];by_cases c:m=k
  ·rw [if_pos c,c,o];simp only
   rw [f,St (by omega)];by_cases d:j=i
   ·rw [if_pos d,if_pos ⟨by trivial,d⟩]
   ·rw [if_neg d,if_neg (fun h=>d h.2)]
  ·rw [if_neg c,if_neg (fun h=>c h.1)]
theorem XiI {n i:Int} (hok:x.Ok) (hw:0<=who) (h:Qm x n i ≠ -1) (m j:Int):Qm (Aq x n i who) m j=if m=n/\j=i then who else Qm x m j:=by
 obtain ⟨k,p,rfl,c,d,g,r,e⟩:=Xae hok h;obtain ⟨i,rfl⟩:=XD g;rw [e] at h;have l:=(hok.each _ c).2.1;simp only at l
 have o:Aa p i who=0:=by unfold Aa; rw [if_neg (by omega),if_neg h]
 have q:Aq x (k:Nat) i who=x.ownAt k p i who:=by unfold Aq; rw [d]; simp only [XA]
 rw [q];have f:Bf p i who=p.set i who:=by unfold Bf; rw [if_pos o,XA]
 unfold Sm.ownAt Qm;simp only
 rw [XaV hok.nodup c];by_cases a:m=k
 ·rw [if_pos a,a,d];simp only
  rw [f,St (by omega)];by_cases b:j=i
  ·rw [if_pos b,if_pos ⟨by trivial,b⟩]
  ·rw [if_neg b,if_neg (fun h=>b h.2)]
 ·rw [if_neg a,if_neg (fun h=>a h.1)]
theorem Xfx (hok:x.Ok) (hw:0<=who) (hp:(n,p) ∈ x.pg) (hf:Xv p≠x.blocks) (m j:Int):Qm (x.takeAt n p who) m j=(if m=n/\j=Z7 p then who else Qm x m j)/\Qm x n (Z7 p) = -1/\0<=Z7 p/\Z7 p<x.blocks:=by
 have f:=(hok.each _ hp).2.1;simp only at f
 have g:=A4 hok.nodup hp;obtain ⟨e1,_⟩:=Je (p:=p) (who:=who) hw (by rw [f]; exact hf);have o:¬ Z7 p<0:=fun e=>by have:=Pa.1 e; omega
 obtain ⟨c,d⟩:=Sw o;obtain ⟨k,i⟩:=XD (show 0<=Z7 p by omega);rw [i] at c d ⊢;simp only [XA] at c d;have l:Zy p who=p.set k who:=by unfold Zy; rw [if_pos e1,i,XA]
 refine ⟨?_,?_,by omega,by omega⟩
 ·unfold Sm.takeAt Qm;simp only
  rw [XaV hok.nodup hp,l];by_cases a:m=n
  ·rw [if_pos a,a,g];simp only
   rw [St c];by_cases b:j=k
   ·rw [if_pos b,if_pos ⟨by trivial,b⟩]
   ·rw [if_neg b,if_neg (fun h=>b h.2)]
  ·rw [if_neg a,if_neg (fun h=>a h.1)]
 ·unfold Qm;rw [g];simp only
  unfold Z8;rw [if_pos (by omega),XA]; exact d
structure Xga (x:Sm) (pl:PlM) (who:Int):Prop where
 own:∀ m j,Qm (Q4 x pl who) m j=if m=By x pl who/\j=Bx x pl who then who else Qm x m j
 free:Qm x (By x pl who) (Bx x pl who) = -1
 n:0<=By x pl who/\By x pl who<pl.own.length
 a:0<=Bx x pl who/\Bx x pl who<x.blocks
 used:Yn (Q4 x pl who).pg=Yn x.pg+1
 ok:(Q4 x pl who).Ok
theorem Xfy {pl:PlM} (hok:x.Ok) (hof:x.Of pl) (hg:pl.Good) (hE:Qi x pl who=0):Xga x pl who:=by
 rcases Lr x pl who with ⟨l,_⟩ | ⟨_,q,⟨n,r,s,d,A,g,h,e⟩ | ⟨n,r,s,v,d,A,g,h,e⟩⟩
 ·exact absurd hE l
 ·obtain ⟨p,c⟩:=hok.osub n (by rw [s]; simp);rw [A4 hok.nodup c] at g;simp only [ZW] at g;rw [g] at d e;have f:=(hok.each _ c).2.2.1 (by rw [s]; simp);simp only at f
  have t:=(hok.each _ c).2.1;simp only at t
  have T:=fun m j=>Xfx hok q c f m j;obtain ⟨_,e2⟩:=Je (p:=p) (who:=who) q (by rw [t]; exact f);refine ⟨fun m j=>by rw [d,h,e]; exact (T m j).1,by rw [h,e]; exact (T 0 0).2.1,?_,by rw [e]; exact (T 0 0).2.2,?_,by rw [d]; exact hok.takeAt q c (by rw [s]; simp)⟩
  ·rw [h]; have:=(hof _ c).1; simp only at this; omega
  ·rw [d];have:=Lu (p:=Zy p who) hok.nodup c;show Yn (Zi _ _ _)=_
   omega
 ·have i:=Ml hok hof hg (n:=n) (by rw [v]; simp);have D:=(hg.free n (by rw [v]; simp)).1;have w:n<1024:=by have:=hg.len; omega
  have o:=hok.fresh w i;have c:(n,List.replicate x.blocks (-1)) ∈ (x.fresh n).pg:=YJ _ (by simp);rw [A4 o.nodup c] at g;simp only [ZW] at g;rw [g] at d e;have E:=hok.blk;have f:Xv (List.replicate x.blocks (-1))≠(x.fresh n).blocks:=by rw [Ha]; show 0≠x.blocks; omega
  have T:=fun m j=>Xfx o q c f m j;have u:∀ m j,Qm (x.fresh n) m j=Qm x m j:=fun m j=>by
   unfold Qm;show (match Zc (x.pg ++ [(n,List.replicate x.blocks (-1))]) m with | some p=>Z8 p j | none => -1)=_
   rw [XkU i];by_cases y:m=n
   ·rw [if_pos y];have B:Zc x.pg m=none:=by
     cases hg:Zc x.pg m with
     |none=>rfl
     |some p =>
      obtain ⟨k,F,z⟩:=Hg hg;have:k=n:=by omega
      subst this;exact absurd (List.mem_map.2 ⟨_,z,rfl⟩) i
    rw [B];simp only
    refine Decidable.byContradiction fun l => ?_;obtain ⟨a,b⟩:=Pc l;apply l
    unfold Z8;rw [if_pos a,XC,XY];split <;> rfl
   ·rw [if_neg y]; rfl
  have t:(List.replicate x.blocks (-1:Int)).length=x.blocks:=XH;obtain ⟨_,e2⟩:=Je (p:=List.replicate x.blocks (-1)) (who:=who) q (by rw [Ha,t]; omega);refine ⟨fun m j=>by rw [d,h,e,(T m j).1,u],by rw [h,e,<- u]; exact (T 0 0).2.1,by rw [h]; omega,by rw [e]; exact (T 0 0).2.2,?_,by rw [d]; exact o.takeAt q c (by show n ∈ n::x.opn; simp)⟩;rw [d];have C:=Lu (p:=Zy (List.replicate x.blocks (-1)) who) o.nodup c;have G:Yn (x.fresh n).pg=Yn x.pg:=by show Yn (x.pg++_)=_; rw [XaX,Ha]; rfl
  rw [Ha] at C e2;show Yn (Zi _ _ _)=_
  omega
structure Yr (c:Conf) (M:RmM):Prop where
 ok:M.Ok c
 mok:If M
 pos:XbF M
theorem XaW (hp:x.Pos) (h:0<Xv p):∀ e ∈ Zi x.pg n p,0<Xv e.2:=fun e a=>by
 rcases Eu a with ⟨rfl,_⟩ | ⟨_,a⟩
 ·exact h
 ·exact hp e a
theorem Xlx {pl:PlM} (hok:x.Ok) (hpos:x.Pos) (hof:x.Of pl) (hg:pl.Good):(Q4 x pl who).Pos:=by
 rcases Lr x pl who with ⟨_,h,_⟩ | ⟨_,j,⟨n,r,f,g,o,a,_⟩ | ⟨n,r,f,k,g,o,a,_⟩⟩
 ·rw [h]; exact hpos
 ·obtain ⟨p,b⟩:=hok.osub n (by rw [f]; simp);rw [A4 hok.nodup b] at a;simp only [ZW] at a;rw [g,a];have c:=(hok.each _ b).2.1;have d:=(hok.each _ b).2.2.1 (by rw [f]; simp);simp only at c d
  obtain ⟨_,e2⟩:=Je (p:=p) (who:=who) j (by rw [c]; exact d);exact XaW hpos (by omega)
 ·have i:=Ml hok hof hg (n:=n) (by rw [k]; simp);have l:n<1024:=by have:=(hg.free n (by rw [k]; simp)).1; have:=hg.len; omega
  have b:(n,List.replicate x.blocks (-1)) ∈ (x.fresh n).pg:=YJ _ (by simp);rw [A4 (hok.fresh l i).nodup b] at a;simp only [ZW] at a;rw [g,a];have c:(List.replicate x.blocks (-1:Int)).length=x.blocks:=XH;have q:=hok.blk;obtain ⟨_,e2⟩:=Je (p:=List.replicate x.blocks (-1)) (who:=who) j (by rw [Ha,c]; omega);intro e he;rcases Eu he with ⟨rfl,_⟩ | ⟨m,he⟩
  ·show 0<Xv (Zy _ _); omega
  ·rcases List.mem_append.1 he with he | he
   ·exact hpos e he
   ·have:e=(n,List.replicate x.blocks (-1)):=by simpa using he
    subst this;exact absurd rfl m
theorem Xhz {n i:Int} (hpos:x.Pos):(Q1 x n i).Pos:=by
 unfold Q1;cases d:Zc x.pg n with
 |none=>exact hpos
 |some p =>
  simp only
  by_cases a:Qp p i=0
  ·rw [if_pos a];unfold Sm.giveAt;simp only
   by_cases b:Xv (Z6 p i)=0
   ·rw [if_pos b];intro e c;exact hpos e (Hx.1 c).2
   ·rw [if_neg b];exact XaW hpos (by omega)
  ·rw [if_neg a]; exact hpos
theorem XiK {n i:Int} (hpos:x.Pos):(Aq x n i who).Pos:=by
 unfold Aq;cases a:Zc x.pg n with
 |none=>exact hpos
 |some p =>
  obtain ⟨m,rfl,b⟩:=Hg a;exact XaW hpos (by rw [Su]; exact hpos _ b)
theorem Xhx {n i:Int} (hok:x.Ok):(Q1 x n i).Ok:=by
 unfold Q1;cases b:Zc x.pg n with
 |none=>exact hok
 |some p =>
  obtain ⟨m,rfl,c⟩:=Hg b;simp only [XA];by_cases a:Qp p i=0
  ·rw [if_pos a]; exact hok.giveAt c a
  ·rw [if_neg a]; exact hok
theorem XiH {n i:Int} (hok:x.Ok):(Aq x n i who).Ok:=by
 unfold Aq;cases a:Zc x.pg n with
 |none=>exact hok
 |some p =>
  obtain ⟨m,rfl,b⟩:=Hg a;simp only [XA];exact hok.ownAt b
theorem Xlw {pl:PlM} (hok:x.Ok) (hof:x.Of pl) (hg:pl.Good):(Q4 x pl who).Ok:=by
 by_cases a:Qi x pl who=0
 ·exact (Xfy hok hof hg a).ok
 ·have:Q4 x pl who=x:=by unfold Q4; rw [if_neg a]
  rw [this]; exact hok
section
variable {c:Conf} {M:RmM}
theorem Yr.set {k:Nat} {x x':Sm} {q:PlM} (h:Yr c M) (hx:M.shs[k]? = some x) (hE:Fq M.pl q x.cls) (hc:x'.cls=x.cls) (hb:x'.blocks=x.blocks) (hs:Zh q+x.pg.length=Zh M.pl+x'.pg.length) (hok:x'.Ok) (hof:x'.Of q) (hpos:x'.Pos):Yr c (Ev M k x' q):=by
 have f:=(List.getElem?_eq_some_iff.1 hx).1;obtain ⟨e1,_⟩:=h.ok.each k x hx;have get:∀ (j:Nat) (y:Sm),(Ev M k x' q).shs[j]? = some y->(j=k/\y=x')\/(j≠k/\M.shs[j]? = some y):=fun j y d=>by
  replace d:(M.shs.set k x')[j]? = some y:=d;by_cases e:k=j
  ·subst e; rw [XG f] at d; cases d; exact .inl ⟨rfl,rfl⟩
  ·rw [XU e] at d; exact .inr ⟨fun h=>e h.symm,d⟩
 refine ⟨h.ok.set h.mok.good hx hE hc hb hs,⟨fun j y d => ?_,hE.good h.mok.good ((h.mok.sh k x hx).1.cls)⟩,fun j y d => ?_⟩
 ·rcases get j y d with ⟨_,rfl⟩ | ⟨g,d⟩
  ·exact ⟨hok,hof⟩
  ·obtain ⟨a,b⟩:=h.mok.sh j y d;obtain ⟨e2,_⟩:=h.ok.each j y d;exact ⟨a,hE.of h.mok.good b (by omega) (by omega)⟩
 ·rcases get j y d with ⟨_,rfl⟩ | ⟨_,d⟩
  ·exact hpos
  ·exact h.pos j y d
theorem Yr.tot (h:Yr c M) {t:Int} (ht:0<=t/\t<=4611686018427387904):Yr c {M with tot:=t}:=⟨{h.ok with tot:=ht},⟨h.mok.sh,h.mok.good⟩,h.pos⟩
theorem Yr.charge (h:Yr c M) (n:Int):Yr c {M with tot:=Xw M.tot n}:=h.tot (Me h.ok.tot)
theorem XeK (k:Nat) (x:Sm) (q:PlM):Iv M k x q={Ev M k x q with tot:=Xw M.tot (Hp M.pl q)}:=rfl
theorem Yr.take (h:Yr c M) (k who:Int):Yr c (Qb M k who):=by
 unfold Qb;cases b:Zs M k with
 |none=>exact h
 |some x =>
  obtain ⟨n,rfl,d,a⟩:=Fj b;simp only [XA];split
  ·obtain ⟨xo,xf⟩:=h.mok.sh n x a;obtain ⟨e1,e2,e3,e4⟩:=Xbb x M.pl who h.mok.good xo.cls;rw [XeK];exact (h.set a e1 e2 e3 e4 (Xlw xo xf h.mok.good) (Xfz x M.pl who xf h.mok.good) (Xlx xo (h.pos n x a) xf h.mok.good)).tot (Me h.ok.tot)
  ·exact h
theorem Yr.give (h:Yr c M) (k n i:Int):Yr c (Qq M k n i):=by
 unfold Qq;cases b:Zs M k with
 |none=>exact h
 |some x =>
  obtain ⟨m,rfl,d,a⟩:=Fj b;simp only [XA];split
  ·obtain ⟨xo,xf⟩:=h.mok.sh m x a;obtain ⟨e1,e2,e3,e4⟩:=Vv x M.pl n i xo xf;rw [XeK];exact (h.set a e1 e2 e3 e4 (Xhx xo) (XcV x M.pl n i xo xf) (Xhz (h.pos m x a))).tot (Me h.ok.tot)
  ·exact h
theorem Yr.own (h:Yr c M) (k n i who:Int):Yr c (Qk M k n i who):=by
 unfold Qk;cases b:Zs M k with
 |none=>exact h
 |some x =>
  obtain ⟨m,rfl,d,a⟩:=Fj b;simp only [XA];obtain ⟨xo,xf⟩:=h.mok.sh m x a;obtain ⟨e1,e2,e3,e4⟩:=Xaa x M.pl n i who;exact h.set a e1 e2 e3 e4 (XiH xo) (XdS x M.pl n i who xf) (XiK (h.pos m x a))
theorem Yr.big (h:Yr c M) {many:Nat} (h1:1<=many) (hm:many<=M.pl.free.length):Yr c (Dm M many):=by
 obtain ⟨d,_⟩:=Lh (who:=((M.shs.length:Nat):Int)) (by omega) h.mok.good many hm;exact ⟨h.ok.big h.mok.good h1 hm,⟨fun k x e=>by
  obtain ⟨a,b⟩:=h.mok.sh k x e;exact ⟨a,Xd5 (by omega) h.mok.good hm a.cls b⟩,d⟩,h.pos⟩
theorem Xh4 (h:M.Ok c) {r:List Nat} (hm:(n,r) ∈ M.lg):(n::r).Nodup:=by
 obtain ⟨A,B,eA,_⟩:=Mu h.nd hm;have e:Yx M.lg=Yx A++((n::r)++Yx B):=by rw [eA,Ja]; rfl
 have a:=h.nd;rw [e] at a;exact (List.nodup_append.1 (List.nodup_append.1 a).2.1).1
theorem Yr.gone (h:Yr c M) {n:Nat} {r:List Nat} (hm:(n,r) ∈ M.lg):Yr c (Hf M n r):=by
 obtain ⟨a,b⟩:=h.ok.gone h.mok.good hm;have e:∀ m ∈ n::r,m<M.pl.own.length/\M.pl.own.getD m 0=(M.shs.length:Int):=fun m d=>h.ok.lg m (Hw hm d);exact ⟨a,⟨fun k x f=>by
  obtain ⟨xo,xf⟩:=h.mok.sh k x f;have i:k<M.shs.length:=(List.getElem?_eq_some_iff.1 f).1;have g:=(h.ok.each k x f).1;exact ⟨xo,Xd4 h.mok.good (Xh4 h.ok hm) (fun m d=>⟨(e m d).1,by have:=(e m d).2; omega⟩) xf (fun m d=>by have:=(e m d).2; omega)⟩,b⟩,h.pos⟩
theorem Xhn (hmay:Zb c=true) (h:Y7 c M size=0) (hp:Xm c.classes size = -1):2<=(Z5 size c.size).toNat/\(Z5 size c.size).toNat<=M.pl.free.length/\1<=size/\size<=c.most:=by
 have a:=Ye hmay;have f:(Cp c M size:Int)<=M.pl.free.length /\ ¬ (size<1\/c.most<size):=by
  unfold Y7 at h;split at h
  ·exact absurd h (by decide)
  ·split at h
   ·exact absurd h (by decide)
   ·exact ⟨by omega,by assumption⟩
 have e:Cp c M size=Z5 size c.size:=by unfold Cp; rw [if_pos hp]
 have b:2<=Z5 size c.size:=by
  have g:=a.size;have d:=a.most;have i:0<=(size - 1) / c.size:=YD (by omega) (by omega);have j:(size - 1) / c.size<=size - 1:=YT _ (by omega);have e4:Qh size c.size=(size - 1) / c.size+1:=by unfold Qh; rw [if_neg (by omega)]
  unfold Z5;rw [e4,if_neg (by omega)];omega
 omega
theorem Yr.drop (h:Yr c M) (q:PlcM):Yr c (Yv M q):=by
 unfold Yv;split
 ·exact h.give _ _ _
 ·split
  ·exact h
  ·rename_i r a
   split
   ·obtain ⟨n,b,d⟩:=La a;rw [b,XA];exact h.gone d
   ·exact h
theorem XeG {q:PlM} (hk:k<M.shs.length) (j:Int):Zs (Ev M k x' q) j=if j=k then some x' else Zs M j:=by
 by_cases a:j<0
 ·rw [if_neg (by omega),Nm a,Nm a]
 ·obtain ⟨j,rfl⟩:=XD (show 0<=j by omega);have:=Xj8 (M:=M) (k:=k) (j:=j) (x:=x') (q:=q) (t:=M.tot);have e:Ev M k x' q={M with shs:=M.shs.set k x',pl:=q,tot:=M.tot}:=rfl;rw [e,this];by_cases h:k=j
  ·rw [if_pos ⟨h,hk⟩,if_pos (by omega)]
  ·rw [if_neg (fun b=>h b.1),if_neg (by omega)]
theorem XaK {q:PlM} (hx:M.shs[k]? = some x) (j n a:Int):X9 (Ev M k x' q) j n a=if j=k then Qm x' n a else X9 M j n a:=by
 unfold X9;rw [XeG ((List.getElem?_eq_some_iff.1 hx).1)];by_cases h:j=k
 ·rw [if_pos h,if_pos h]
 ·rw [if_neg h,if_neg h]
theorem XeI (k:Nat) (x:Sm) (q:PlM) (j n a:Int):X9 (Iv M k x q) j n a=X9 (Ev M k x q) j n a:=rfl
theorem Nq (hx:M.shs[k]? = some x) (n a:Int):X9 M (k:Nat) n a=Qm x n a:=by
 unfold X9;rw [Ll ((List.getElem?_eq_some_iff.1 hx).1),((List.getElem?_eq_some_iff.1 hx).2)]
theorem Tb (h:Yr c M) {k n a:Int} (ho:X9 M k n a ≠ -1):∃ (j:Nat) (x:Sm),k=j/\j<c.classes.length/\M.shs[j]? = some x/\Qm x n a=X9 M k n a/\0<=n/\n<c.pages/\0<=a/\a<Am c k:=by
 unfold X9 at ho;cases d:Zs M k with
 |none=>rw [d] at ho; exact absurd rfl ho
 |some x =>
  rw [d] at ho;simp only at ho
  obtain ⟨j,rfl,l,b⟩:=Fj d;obtain ⟨xo,xf⟩:=h.mok.sh j x b;obtain ⟨m,p,rfl,f,_,g,o,_⟩:=Xae xo ho;have q:=(h.ok.each j x b).2;have e:=(xf _ f).1;have i:=h.ok.own;have r:=h.ok.n;exact ⟨j,x,rfl,by omega,b,(Nq b _ _).symm,by omega,by simp only at e; omega,g,by omega⟩
theorem Xkb (h:Yr c M) {k:Int} (hE:Ew M k who=0):∃ (j:Nat) (x:Sm),k=j/\j<M.shs.length/\M.shs[j]? = some x/\Qi x M.pl who=0/\Qb M k who=Iv M j (Q4 x M.pl who) (Bz x M.pl who)/\Do M k who=By x M.pl who/\Dn M k who=Bx x M.pl who:=by
 unfold Ew at hE;cases a:Zs M k with
 |none=>rw [a] at hE; exact absurd (show (1:Int)=0 from hE) (by decide)
 |some x =>
  rw [a] at hE;obtain ⟨j,rfl,b,d⟩:=Fj a;simp only at hE
  exact ⟨j,x,rfl,b,d,hE,by unfold Qb; rw [a]; simp only; rw [if_pos hE,XA],by unfold Do; rw [a],by unfold Dn; rw [a]⟩
theorem Xbd (h:Yr c M) {k:Int} (hE:Ew M k who=0):(∀ j n a,X9 (Qb M k who) j n a=if j=k/\n=Do M k who/\a=Dn M k who then who else X9 M j n a)/\X9 M k (Do M k who) (Dn M k who) = -1:=by
 obtain ⟨i,x,rfl,g,b,f,e1,e2,e3⟩:=Xkb h hE;obtain ⟨xo,xf⟩:=h.mok.sh i x b;have T:=Xfy xo xf h.mok.good f;refine ⟨fun j n a => ?_,by rw [e2,e3,Nq b]; exact T.free⟩;rw [e1,e2,e3,XeI,XaK b];by_cases d:j=i
 ·rw [if_pos d,T.own,d,Nq b];by_cases e:n=By x M.pl who/\a=Bx x M.pl who
  ·rw [if_pos e,if_pos ⟨rfl,e⟩]
  ·rw [if_neg e,if_neg (fun h=>e h.2)]
 ·rw [if_neg d,if_neg (fun h=>d h.1)]
theorem XcW (h:Yr c M) {k n i:Int} (ho:X9 M k n i ≠ -1):Iu M k n i=0 /\ ∀ j m a,X9 (Qq M k n i) j m a=if j=k/\m=n/\a=i then -1 else X9 M j m a:=by
 obtain ⟨l,x,rfl,_,b,e,_⟩:=Tb h ho;obtain ⟨xo,xf⟩:=h.mok.sh l x b;have g:Zs M (l:Nat)=some x:=by rw [Ll ((List.getElem?_eq_some_iff.1 b).1)]; exact congrArg some (List.getElem?_eq_some_iff.1 b).2
 rw [<- e] at ho;have o:=Xhw.2 ho;have e1:Qq M (l:Nat) n i=Iv M l (Q1 x n i) (A3 x M.pl n i):=by unfold Qq; rw [g]; simp only; rw [if_pos o,XA]
 refine ⟨by unfold Iu; rw [g]; exact o,fun j m a => ?_⟩;rw [e1,XeI,XaK b];by_cases d:j=l
 ·rw [if_pos d,Xhy xo ho,d,Nq b];by_cases f:m=n/\a=i
  ·rw [if_pos f,if_pos ⟨rfl,f⟩]
  ·rw [if_neg f,if_neg (fun h=>f h.2)]
 ·rw [if_neg d,if_neg (fun h=>d h.1)]
theorem XiJ (h:Yr c M) {k n i:Int} (hw:0<=who) (ho:X9 M k n i ≠ -1):Np M k n i who=0 /\ ∀ j m a,X9 (Qk M k n i who) j m a=if j=k/\m=n/\a=i then who else X9 M j m a:=by
 obtain ⟨l,x,rfl,_,b,e,_⟩:=Tb h ho;obtain ⟨xo,xf⟩:=h.mok.sh l x b;have g:Zs M (l:Nat)=some x:=by rw [Ll ((List.getElem?_eq_some_iff.1 b).1)]; exact congrArg some (List.getElem?_eq_some_iff.1 b).2
 rw [<- e] at ho;have e1:Qk M (l:Nat) n i who=Ev M l (Aq x n i who) M.pl:=by unfold Qk; rw [g]; simp only [XA]
 refine ⟨by unfold Np; rw [g]; exact (XiG hw).2 ho,fun j m a => ?_⟩;rw [e1,XaK b];by_cases d:j=l
 ·rw [if_pos d,XiI xo hw ho,d,Nq b];by_cases f:m=n/\a=i
  ·rw [if_pos f,if_pos ⟨rfl,f⟩]
  ·rw [if_neg f,if_neg (fun h=>f h.2)]
 ·rw [if_neg d,if_neg (fun h=>d h.1)]
end
theorem Vt {x:List Bool} (h:j<x.length):x.getD j false=x[j]:=by rw [XC,XB h]; rfl
theorem XhI {x:List Bool} (h:cnt x≠0):∃ t,t<x.length/\x.getD t false=true/\Ot x=(t:Int):=by
 have key:∀ m,m<=x.length->(∀ j,m<=j->x.getD j false=false)->(∀ j,x.getD j false=false) \/ ∃ t,t<x.length/\x.getD t false=true /\ ∀ j,t<j->x.getD j false=false:=by
  intro m
  induction m with
  |zero=>intro _ h; exact .inl fun j=>h j (XL _)
  |succ m ihm =>
   intro n h;cases f:x.getD m false with
   |true=>exact .inr ⟨m,by omega,f,fun j a=>h j a⟩
   |false=>exact ihm (by omega) fun j a=>(Nat.eq_or_lt_of_le a).elim (fun e=>e▸f) (fun e=>h j e)
 rcases key x.length (XE _) (fun j a=>by rw [XC,XZ a]; rfl) with k | ⟨t,b,c,g⟩
 ·exfalso
  apply h
  have d:x=List.replicate x.length false:=by
   apply List.ext_getElem (by simp)
   intro j l o;rw [<- Vt l,k j]; simp
  rw [d,Vg]
 ·exact ⟨t,b,c,XaG (p:=id) b (fun j a i=>by rw [<- Vt a]; exact g j i) (by rw [<- Vt b]; exact c)⟩
theorem XiU (h:0<Xv p):∃ t,t<p.length/\J6 p=(t:Int)/\p.getD t (-1) ≠ -1:=by
 obtain ⟨t,a,b,c⟩:=XhI (x:=Yu p) (by unfold Xv at h; omega);rw [Eh] at a;rw [O9] at b;exact ⟨t,a,c,by simpa using b⟩
def Ke (x:Sm):Int × Int × Int × Int:=if 2<=x.opn.length then (Bd (-1) x.opn,J6 ((Zc x.pg (Bd (-1) x.opn)).getD []),Br x.opn,Z7 ((Zc x.pg (Br x.opn)).getD [])) else (0,0,0,0)
def Yj (M:RmM) (k:Int):Int × Int × Int × Int:=match Zs M k with | none=>(0,0,0,0) | some x=>Ke x
theorem XeJ (M:RmM) (k:Int):Lm M k=Jf (Yj M k).1 (Yj M k).2.1 (Yj M k).2.2.1 (Yj M k).2.2.2:=by
 unfold Lm Yj;cases Zs M k with
 |none=>rfl
 |some x =>
  show Gj x=Jf (Ke x).1 (Ke x).2.1 (Ke x).2.2.1 (Ke x).2.2.2
  unfold Gj Ke;split <;> rfl
structure XbH (M:RmM) (k:Nat):Prop where
 own:X9 M k (Yj M k).1 (Yj M k).2.1 ≠ -1
 e:∀ who:Int,0<=who->Ew M k who=0
 n:∀ who:Int,0<=who->Do M k who=(Yj M k).2.2.1
 a:∀ who:Int,0<=who->Dn M k who=(Yj M k).2.2.2
 ne:(Yj M k).1≠(Yj M k).2.2.1
theorem XiY (h:Yr c M) (hB:H6 M k=true):XbH M k:=by
 unfold H6 at hB;cases l:Zs M k with
 |none=>rw [l] at hB; exact absurd hB (by decide)
 |some x =>
  rw [l] at hB;have d:=of_decide_eq_true hB;obtain ⟨j,N,L,z⟩:=Fj l;obtain rfl:k=j:=by omega
  obtain ⟨xo,xf⟩:=h.mok.sh k x z;obtain ⟨f,C,D,l',u⟩:=(I8 (-1) x.opn).resolve_left (fun e=>by rw [e.1] at d; simp at d);obtain ⟨t,r,m⟩:∃ t r,x.opn=t::r:=by
   cases g:x.opn with
   |nil=>rw [g] at d; simp at d
   |cons t r=>exact ⟨t,r,rfl⟩
  obtain ⟨p,A⟩:=xo.osub f C;obtain ⟨E,v⟩:=xo.osub t (by rw [m]; simp);have q:Yj M k=(((f:Nat):Int),J6 p,((t:Nat):Int),Z7 E):=by
   unfold Yj;rw [l];show Ke x=_
   unfold Ke;rw [if_pos d,D,m];show ((f:Int),J6 ((Zc x.pg f).getD []),(t:Int),Z7 ((Zc x.pg t).getD []))=_
   rw [A4 xo.nodup A,A4 xo.nodup v];rfl
  have F:∀ who:Int,0<=who->Qi x M.pl who=0:=fun who a=>by unfold Qi; rw [if_neg (by omega),if_neg (by omega)]
  have G:∀ who:Int,0<=who->By x M.pl who=t/\Bx x M.pl who=Z7 E:=fun who a=>by
   rcases Lr x M.pl who with ⟨w,_⟩ | ⟨_,_,⟨n,r',g,_,_,B,I,H⟩ | ⟨n,r',g,_⟩⟩
   ·exact absurd (F who a) w
   ·rw [m] at g;obtain ⟨e1,_⟩:=List.cons.inj g;subst e1;rw [A4 xo.nodup v] at B;simp only [ZW] at B;rw [B] at H;exact ⟨I,H⟩
   ·rw [m] at g; cases g
  have w:f≠t:=fun e=>by
   have y:=xo.onodup;rw [u] at y d;cases l' with
   |nil=>simp at d
   |cons b s =>
    obtain ⟨e1,_⟩:=List.cons.inj (u.symm.trans m);obtain ⟨_,_,J⟩:=List.nodup_append.1 y;exact J b (by simp) f (by simp) (e1.trans e.symm)
  have o:=l;refine ⟨?_,fun who a=>by unfold Ew; rw [o]; exact F who a,fun who a=>by unfold Do; rw [o,q]; exact (G who a).1,fun who a=>by unfold Dn; rw [o,q]; exact (G who a).2,by rw [q]; simp only; omega⟩;rw [q,Nq z];simp only
  obtain ⟨i,K,e1,e2⟩:=XiU ((h.pos k x z) _ A);simp only at K e1 e2
  unfold Qm;rw [A4 xo.nodup A];simp only
  rw [e1];unfold Z8;rw [if_pos (by omega),XA];exact e2
structure Ar where
 ab:Nat
 db:Nat
 mc:Nat
 mb:Option Nat
structure ArV where
 bs:List Int
 total:Int
 lap:Int
abbrev XfP (A:Ar):Value := .func (.func 131) #[] #[.pointer (some ⟨A.mc,0,none⟩)]
structure X1 (w:World) (A:Ar) (V:ArV):Prop where
 obj:w.heap[A.ab]? = some (.cells #[.slice (some ⟨A.db,0,none⟩) V.bs.length V.bs.length,XfP A] 182 (0,0))
 dat:w.heap[A.db]? = some (.cells (V.bs.map (Value.int .u8)).toArray 5 (0,0))
 cap:w.heap[A.mc]? = some (.cells #[H5 A.mb] 83 (0,0))
 met:∀ b,A.mb=some b->Ax w b V.total V.lap
 len:V.bs.length<=4194304
 rng:∀ x ∈ V.bs,0<=x/\x<256
theorem Gw {a t':Nat} {c c':Array Value} {f f':Nat × Nat} (h:w.heap[a]? = some (.cells c t f)) (h':w.heap[b]? = some (.cells c' t' f')) (ht:t≠t'):a≠b:=by
 intro e; subst e; rw [h] at h'; cases h'; exact ht rfl
def Ym (A:Ar):Nat->Prop:=fun b=>A.mb=some b
def Zo (A:Ar):Nat->Prop:=fun b=>b=A.db\/A.mb=some b
def ArV.charge (V:ArV) (A:Ar) (n:Int):ArV:=match A.mb with
 |none=>V
 |some _=>{V with total:=Xw V.total n}
theorem ArV.charge_bs (V:ArV) (A:Ar) (n:Int):(V.charge A n).bs=V.bs:=by unfold ArV.charge; split <;> rfl
theorem ArV.charge_lap (V:ArV) (A:Ar) (n:Int):(V.charge A n).lap=V.lap:=by unfold ArV.charge; split <;> rfl
theorem X1.chg {A:Ar} {V:ArV} (h:X1 w A V) (hc:Xc S w w') (hs:∀ b,b=A.ab\/b=A.db\/b=A.mc\/A.mb=some b -> ¬ S b):X1 w' A V :=
 ⟨hc.heap h.obj (hs _ (.inl rfl)),hc.heap h.dat (hs _ (.inr (.inl rfl))),hc.heap h.cap (hs _ (.inr (.inr (.inl rfl)))),fun b a=>⟨hc.heap (h.met b a).1 (hs _ (.inr (.inr (.inr a)))),(h.met b a).2⟩,h.len,h.rng⟩
theorem X1.grow {A:Ar} {V:ArV} (h:X1 w A V) (hc:Xc Xe w w'):X1 w' A V:=h.chg hc fun _ _ h=>h
theorem X1.metered {A:Ar} {V:ArV} {t:Int} (h:X1 w A V) (hb:A.mb=some b) (hm:Ax w' b t V.lap) (hc:Xc (fun x=>x=b) w w'):X1 w' A {V with total:=t}:=by
 have c:=(h.met b hb).1;refine ⟨hc.heap h.obj (fun e=>Gw h.obj c (by decide) e),hc.heap h.dat (fun e=>Gw h.dat c (by decide) e),hc.heap h.cap (fun e=>Gw h.cap c (by decide) e),fun b' a => ?_,h.len,h.rng⟩;rw [hb] at a; cases a; exact hm
def Lw (N:Nat) (at' n:Int):Bool:=decide (0<=at') && decide (0<=n) && decide (n<=N) && decide (at'<=N - n)
theorem Xbg {at' n:Int}:Lw N at' n=true↔0<=at'/\0<=n/\n<=N/\at'<=N - n:=by unfold Lw; simp [and_assoc]
abbrev Xfa (A:Ar) (N at' n:Nat):Value := .slice (Qw (some ⟨A.db,0,none⟩) N at' 1) n (N - at')
theorem XbS (A:Ar) (V:ArV) (i n:Nat) (w:World) (h:X1 w A V) (ht:i+n<=V.bs.length):Xf prog 227 #[.pointer (some ⟨A.ab,0,none⟩),.int .i64 i,.int .i64 n] w (X7 (.tuple #[Xfa A V.bs.length i n,.int .i64 0]) w):=by
 have a:=h.len;exact ζe func227 ntmps227 ϱ (ζf ϱ (ζf ϱ (ζl h.obj ϱ (ζf ϱ (ζl h.obj ϱ (ζj ϱ (ζf ϱ (ζl h.obj ϱ (ζj ϱ (Xa.slice Xb rfl (l:=i) (h:=(i+n)) (by first | rfl | omega | simp [Bv]) (by first | rfl | omega | simp [Bt]) (by omega) (by omega) rfl (ζr func227 ϱ ⟨by rw [show i+n - i=n from by omega],rfl⟩)))))))))))
theorem Xgq (A:Ar) (V:ArV) (n:Int) (w:World) (h:X1 w A V):Xf prog 131 #[.int .i64 n,.pointer (some ⟨A.mc,0,none⟩)] w (fun _ w'=>X1 w' A (V.charge A n)/\Xc (Ym A) w w'):=by
 have c:=h.cap;cases a:A.mb with
 |none =>
  rw [a] at c;refine ζe func131 ntmps131 ϱ (ζl c ϱ (ζc ϱ (W3 n w) ?_));rintro _ f rfl;have e:V.charge A n=V:=by unfold ArV.charge; rw [a]
  exact ζa ϱ (ζr func131 ϱ ⟨by rw [e]; exact h,Xc.refl _ _⟩)
 |some b =>
  rw [a] at c;refine ζe func131 ntmps131 ϱ (ζl c ϱ (ζc ϱ (W0 b V.total V.lap n w (h.met b a)) ?_));rintro _ f ⟨g,d⟩;have e:V.charge A n={V with total:=Xw V.total n}:=by unfold ArV.charge; rw [a]
  exact ζa ϱ (ζr func131 ϱ ⟨by rw [e]; exact h.metered a g d,d.mono (fun x _ i=>by unfold Ym; rw [i]; exact a)⟩)
theorem Xgo (A:Ar) (V:ArV) (i n:Nat) (w:World) (h:X1 w A V) (ht:i+n<=V.bs.length):Xf prog 193 #[.pointer (some ⟨A.ab,0,none⟩),.int .i64 i,.int .i64 n] w (fun v w'=>v = .tuple #[Xfa A V.bs.length i n,.int .i64 0]/\X1 w' A (V.charge A n)/\Xc (Ym A) w w'):=by
 refine ζe func193 ntmps193 ϱ (ζw (XbS A V i n w h ht) ϱ (ζy ϱ (ζl h.obj ϱ (ζc ϱ (Xgq A V n w h) ?_))));rintro _ c ⟨a,b⟩;exact ζa ϱ (ζr func193 ϱ ⟨rfl,a,b⟩)
theorem Up (A:Ar) (V:ArV) (w:World) (h:X1 w A V):Xf prog 136 #[.pointer (some ⟨A.ab,0,none⟩)] w (X7 (.int .i64 V.bs.length) w):=by
 exact ζe func136 ntmps136 ϱ (ζl h.obj ϱ (ζr func136 ϱ ⟨rfl,rfl⟩))
def L9 (p s:Int):Bool:=decide (1<=p) && decide (p<=1024) && decide (64<=s) && decide (s<=4096) && (s % 8 == 0)
theorem Ri {p s:Int}:L9 p s=true↔1<=p/\p<=1024/\64<=s/\s<=4096/\s % 8=0:=by unfold L9; simp [and_assoc]
def Xy (n:Nat):List Int:=List.replicate n 0
theorem Ua:∀ n,Y3 [Value.int .u8 0] n=(Xy n).map (Value.int .u8)
 |0=>rfl
 |n+1=>by rw [Y3,Ua n]; simp [Xy,ZR]
theorem Xgl (mb:Option Nat) (total lap:Int) (p s:Int) (w:World) (hm:∀ b,mb=some b->Ax w b total lap) (ht:L9 p s=true):Xf prog 70 #[.int .i64 p,.int .i64 s,H5 mb] w
 (fun v w' => ∃ A:Ar,v = .tuple #[.pointer (some ⟨A.ab,0,none⟩),.int .i64 0]/\A.mb=mb/\w.heap.size<=A.ab/\w.heap.size<=A.db/\w.heap.size<=A.mc/\X1 w' A ⟨Xy (p*s).toNat,total,lap⟩/\Xc Xe w w'):=by
 have g:=Ri.1 ht;have y:0<=p*s:=ZG (by omega) (by omega);have z:p*s<=1024*4096:=ZD (by omega) (by omega) (by omega) (by omega);refine ζe func70 ntmps70 ϱ (ζn ϱ fun mc B e1 i f r=>ζf ϱ (ζf ϱ (ζf ϱ (ζf ϱ (Xa.div Xb rfl (by omega) (Fi (by omega)) rfl (ζF ϱ (by simp; omega) (ζj ϱ (Xa.make Xb (m:=(p*s).toNat) (k:=(p*s).toNat) rfl (by omega) (by omega) (XE _) (by simp only; omega) (by omega) fun db C e2 h d t=>ζa ϱ (ζb ϱ (ζn ϱ fun ab n e3 e c u => ?_))))))))));have o:(Y3 (Yt (Value.int .u8 0)) (p*s).toNat)=(Xy (p*s).toNat).map (Value.int .u8):=Ua _;rw [o] at h;have a:(Xy (p*s).toNat).length=(p*s).toNat:=XH;rw [<- a] at e;have j:X1 n ⟨ab,db,mc,mb⟩ ⟨Xy (p*s).toNat,total,lap⟩ :=
  ⟨e,c.heap' h,c.heap' (d.heap' i),fun b l=>⟨c.heap' (d.heap' (f.heap' (hm b l).1)),(hm b l).2⟩,by rw [a]; omega,fun x q=>by rw [ZF q]; omega⟩
 rw [a] at e;exact ζr func70 ϱ ⟨⟨ab,db,mc,mb⟩,rfl,rfl,by simp only; omega,by simp only; omega,by simp only; omega,j,(f.trans d).trans c⟩
variable {A:Ar} {V:ArV}
theorem Rd.metered (hr:Rd .u8 w a l) (h:X1 w A V) (hc:Xc (Ym A) w w'):Rd .u8 w' a l:=fun i f=>by
 obtain ⟨b,off,e,c⟩:=hr i f;refine ⟨b,off,e,?_⟩;have d:¬ Ym A b:=fun g=>by
  rw [Yi ((h.met b g).1)] at c
  match hj:off+i,c with
  |0,c=>simp at c
  |1,c=>simp at c
  |k+2,c=>simp at c
 rw [<- c];simp only [World.cell?,hc.block b (World.block_lt_of_cell? w _ c) d]
def Qs (bs:List Int) (i:Nat) (l:List Int):List Int:=bs.take i++l++bs.drop (i+l.length)
theorem Id (h:i+l.length<=bs.length):(Qs bs i l).length=bs.length:=by unfold Qs; simp; omega
theorem L1 {x:Int} (h:x ∈ Qs bs i l):x ∈ bs\/x ∈ l:=by
 unfold Qs at h;simp only [List.mem_append] at h;rcases h with (h | h) | h
 ·exact .inl (XO h)
 ·exact .inr h
 ·exact .inl (ZA h)
theorem T8:Qs bs i []=bs:=by unfold Qs; simp
def Qd (l:List Int):Prop := ∀ x ∈ l,0<=x/\x<256
theorem X1.laid (h:X1 w A V) (hd:w'.heap[A.db]? = some (.cells (bs.map (Value.int .u8)).toArray 5 (0,0))) (hc:Xc (fun b=>b=A.db) w w') (hl:bs.length=V.bs.length) (hr:Qd bs):X1 w' A {V with bs:=bs} :=
 ⟨by rw [hl]; exact hc.heap h.obj (fun e=>Gw h.obj h.dat (by decide) e),hd,hc.heap h.cap (fun e=>Gw h.cap h.dat (by decide) e),fun b a=>⟨hc.heap (h.met b a).1 (fun e=>Gw (h.met b a).1 h.dat (by decide) e),(h.met b a).2⟩,by rw [hl]; exact h.len,hr⟩
theorem Xfb (h:i+n<=N) (hn:0<n):Qw (some ⟨A.db,0,none⟩) N i 1=some ⟨A.db,i,none⟩:=by
 unfold Qw;rw [if_neg (by omega),QI,B9]
 simp
theorem Rj (A:Ar) (V:ArV) (i n:Nat) (w:World) (h:X1 w A V) (ht:i+n<=V.bs.length):Xf prog 193 #[.pointer (some ⟨A.ab,0,none⟩),.int .i64 i,.int .i64 n] w
 (fun v w' => ∃ x,v = .tuple #[.slice x n (V.bs.length - i),.int .i64 0]/\(0<n->x=some ⟨A.db,i,none⟩)/\x.isSome=true/\X1 w' A (V.charge A n)/\Xc (Ym A) w w') :=
 (Xgo A V i n w h ht).mono fun _ _ ⟨a,b,c⟩=>⟨_,a,fun d=>Xfb ht d,by unfold Qw; split <;> rfl,b,c⟩
theorem Xgn (A:Ar) (V:ArV) (i:Nat) (a:Option Addr) (cap:Nat) (l:List Int) (w:World) (h:X1 w A V) (hr:Rd .u8 w a l) (hb:Qd l) (ht:i+l.length<=V.bs.length) :
 Xf prog 142 #[.pointer (some ⟨A.ab,0,none⟩),.int .i64 i,.slice a l.length cap] w (fun v w'=>v = .int .i64 0/\X1 w' A {V.charge A l.length with bs:=Qs V.bs i l}/\Xc (Zo A) w w'):=by
 refine ζe func142 ntmps142 ϱ (ζc ϱ (Rj A V i l.length w h ht) ?_);rintro _ s ⟨x,rfl,j,_,k,o⟩;refine ζa ϱ ?_;have c:Xc (Zo A) w s:=o.mono fun b _ hb => .inr hb;have e1:=V.charge_bs A l.length;by_cases p:l.length=0
 ·refine Xa.copy0 Xb rfl (by simp [p]) rfl ?_;have m:l = []:=ZU p;subst m;exact ζr func142 ϱ ⟨rfl,by rw [T8,<- V.charge_bs A 0]; exact k,c⟩
 ·have q:=j (by omega);subst q;have r:=hr.metered h o;have t:∃ aa,a=some aa:=by obtain ⟨b,off,e,_⟩:=hr 0 (by omega); exact ⟨_,e⟩
  obtain ⟨aa,rfl⟩:=t;have d:=k.dat;rw [e1] at d;refine Xa.copy Xb rfl d (cs:=l.map (Value.int .u8)) (by simp) r.cells (by simp; omega) Ip fun z f g y=>ζa ϱ ?_;have n:(V.bs.map (Value.int .u8)).take i++l.map (Value.int .u8)++(V.bs.map (Value.int .u8)).drop (i+(l.map (Value.int .u8)).length)=(Qs V.bs i l).map (Value.int .u8):=by
   unfold Qs; simp [QF,QL]
  rw [n] at f;have u:=k.laid f g (by rw [Id ht,e1]) (fun x j=>(L1 j).elim (h.rng x) (hb x));exact ζr func142 ϱ ⟨rfl,u,c.trans (g.mono fun b _ hb => .inl hb)⟩
def L5 (base:Nat) (w:World) (v:Value) (l:List Int):Prop := ∃ g cap cur,v = .slice (some ⟨g,0,none⟩) l.length cap/\base<=g/\w.heap[g]? = some (.cells cur 5 (0,0))/\l.length<=cap/\cur.toList.take l.length=l.map (Value.int .u8)
theorem XkM (aa:Addr) (cap:Nat) (l:List Int) (w:World) (hr:Rd .u8 w (some aa) l) (hl:l.length<=4194304):Xf prog 197 #[.slice (some aa) l.length cap] w (fun v w'=>L5 w.heap.size w' v l/\Xc Xe w w'):=by
 have p:maxLen=9223372036854775807:=rfl;refine ζe func197 ntmps197 ϱ (ζf ϱ (Xa.buildSlice Xb rfl fun b i e1 j a q=>ζa ϱ ?_));have c:Xl w.heap.size 5 1 i (.slice (some ⟨b,0,none⟩) 0 0) 0 []:=Xl.empty (by omega) j;refine Xa.append (base:=w.heap.size) (xs := []) (news:=l.map (Value.int .u8)) Xb rfl c a.size (by simp) (hr.chg a).cells Ip (by simp only; omega) fun r s d e f=>ζa ϱ ?_;have h:=c.since a (XE _) e;rcases d.2 with ⟨k,_⟩ | ⟨g,cap',cur,rfl,m,n,t,_,_,o⟩
 ·exact absurd (f.1.1 k).1 (by simp)
 ·exact ζr func197 ϱ ⟨⟨g,cap',cur,by simp,m,n,by omega,by simpa using o⟩,h⟩
def sub (bs:List Int) (i n:Nat):List Int:=(bs.drop i).take n
theorem Fm (h:i+n<=bs.length):(sub bs i n).length=n:=by unfold sub; simp; omega
theorem X1.sub {w:World} {A:Ar} {V:ArV} {x:Option Addr} {i n:Nat} (h:X1 w A V) (hx:0<n->x=some ⟨A.db,i,none⟩) (ht:i+n<=V.bs.length):Rd .u8 w x (sub V.bs i n):=fun j a=>by
 rw [Fm ht] at a;refine ⟨A.db,i,hx (by omega),?_⟩;rw [Yi h.dat];have:(Go.Proofs.YtohjeeapehmkcaaGreatDoor.sub V.bs i n).getD j 0=V.bs[i+j]'(by omega):=by unfold Go.Proofs.YtohjeeapehmkcaaGreatDoor.sub; simp [QH,a,show i+j<V.bs.length from by omega]
 rw [this];simp [show i+j<V.bs.length from by omega]
theorem Xgm (A:Ar) (V:ArV) (i n:Nat) (w:World) (h:X1 w A V) (ht:i+n<=V.bs.length) :
 Xf prog 146 #[.pointer (some ⟨A.ab,0,none⟩),.int .i64 i,.int .i64 n] w (fun v w' => ∃ v',v = .tuple #[v',.int .i64 0]/\L5 w.heap.size w' v' (sub V.bs i n)/\X1 w' A (V.charge A n)/\Xc (Ym A) w w'):=by
 have q:=h.len;refine ζe func146 ntmps146 ϱ (ζc ϱ (Rj A V i n w h ht) ?_);rintro _ j ⟨x,rfl,k,l,e,b⟩;refine ζa ϱ ?_;obtain ⟨aa,rfl⟩:=Option.isSome_iff_exists.1 l;have e1:=V.charge_bs A n;have f:=e.sub (i:=i) (n:=n) k (by rw [e1]; exact ht);rw [e1] at f;have c:=XkM aa (V.bs.length - i) (sub V.bs i n) j f (by rw [Fm ht]; omega);rw [Fm ht] at c;refine ζc ϱ (c) ?_;rintro m r ⟨o,d⟩;refine ζa ϱ ?_;obtain ⟨g,cap,cur,p,s,a⟩:=o;exact ζr func146 ϱ ⟨m,rfl,⟨g,cap,cur,p,by have:=b.size; omega,a⟩,e.grow d,b.trans d.gr⟩
theorem Xby (h:0<=z/\z<18446744073709551616):IntKind.u64.wrap z=z:=by
 simp only [IntKind.wrap,IntKind.signed,IntKind.bits]
 first | omega | (simp; omega)
def Bc (n top:Int):Bool:=decide (0<=n) && decide (n<top)
theorem K6 {n top:Int}:Bc n top=true↔0<=n/\n<top:=by unfold Bc; simp
def Ya (c:Conf) (q:Plc):Bool :=
 if q.cls = -1 then decide (0<q.pages.length) && !q.pages.any (fun n => !Bc n c.pages)
 else Bc q.cls c.classes.length && Bc q.page c.pages && Bc q.idx (Am c q.cls)
def Z3 (c:Conf) (k:Int):Int:=c.classes.getD k.toNat 0
def Zt (c:Conf) (q:Plc):Int:=if Ya c q then (if q.cls = -1 then q.pages.length*c.size else Z3 c q.cls) else 0
def Q5 (c:Conf) (q:Plc):Int:=if Ya c q=true/\q.cls ≠ -1 then q.page*c.size+q.idx*Z3 c q.cls else -1
structure Vw where
 vb:Nat
 c:Conf
 p:Y4
 ab:Nat
 mb:Option Nat
def Ly (v:Vw):List Value:=Zl v.c v.p ++ [.pointer (some ⟨v.ab,0,none⟩),H5 v.mb]
abbrev Du (v:Vw):Value := .pointer (some ⟨v.vb,0,none⟩)
structure A7 (w:World) (v:Vw):Prop where
 obj:w.heap[v.vb]? = some (.cells (Ly v).toArray 188 (0,0))
 conf:Yp w v.c v.p
 may:Zb v.c=true
theorem A7.grow {v:Vw} (h:A7 w v) (hc:Xc Xe w w'):A7 w' v:=⟨hc.heap' h.obj,h.conf.chg hc,h.may⟩
theorem T4 (n top:Int) (w:World):Xf prog 226 #[.int .i64 n,.int .i64 top] w (X7 (.bool (Bc n top)) w):=by
 refine ζe func226 ntmps226 ϱ (ζg ϱ (fun h => ?_) fun h => ?_)
 ·have g:=of_decide_eq_true h;exact ζr func226 ϱ ⟨Q7 (by unfold Bc; rw [decide_eq_true g]; rfl),rfl⟩
 ·have g:=of_decide_eq_false h;exact ζr func226 ϱ ⟨Q7 (by unfold Bc; rw [decide_eq_false g]; rfl),rfl⟩
abbrev Fg (w:World) (b:Nat) (v:Vw):Prop:=w.heap[b]? = some (.cells ([Du v]:List Value).toArray 86 (0,0))
theorem XlS (v:Vw) (b:Nat) (x:Int) (w:World) (h:A7 w v) (hb:Fg w b v):Xf prog 225 #[.int .i64 x,.pointer (some ⟨b,0,none⟩)] w (X7 (.bool (!Bc x v.c.pages)) w):=by
 exact ζe func225 ntmps225 ϱ (ζl hb ϱ (ζl h.obj ϱ (ζw (T4 x v.c.pages w) ϱ (ζr func225 ϱ ⟨rfl,rfl⟩))))
theorem Xbp (v:Vw) (q:Plc) (w:World) (h:A7 w v) (hq:Zf w q):Xf prog 177 #[Du v,.agg (Xt q).toArray] w (Grow (.bool (Ya v.c q)) w):=by
 have k:=hq.len;refine ζe func177 ntmps177 ϱ (ζn ϱ fun vb C e1 s t A=>ζn ϱ fun qb o e2 b m B => ?_);have f:=t.trans m;have d:=h.grow f;have c:=m.heap' s;have l:=hq.grow f;obtain ⟨cls,page,idx,pa,pc,pages⟩:=q;replace b:o.heap[qb]? = some (.cells ([.int .i64 cls,.int .i64 page,.int .i64 idx,.slice pa pages.length pc]:List Value).toArray 98 (0,0)):=b;replace l:=l.rd;replace k:pages.length<=9223372036854775807:=k;refine Xa.loadb Xb rfl c rfl rfl ?_;refine Xa.loadb Xb rfl b rfl rfl ?_;refine Xa.fork Xb rfl rfl rfl (fun i => ?_) (fun i => ?_)
 ·have g:cls = -1:=by simpa using i
  refine Xa.loadb Xb rfl b rfl rfl ?_;by_cases u:0<pages.length
  ·refine Xa.yes Xb rfl (decide_eq_true (by omega)) rfl ?_;exact ζl b ϱ (ζw (Xe4 pa pc 225 pages [.pointer (some ⟨vb,0,none⟩)] (fun n => !Bc n v.c.pages) o l k (fun x _=>XlS v vb x o d c)) ϱ (ζr func177 ϱ ⟨Q7 (by unfold Ya; simp only; rw [if_pos g,decide_eq_true u]; rfl),f⟩))
  ·exact ζf ϱ (ζr func177 ϱ ⟨Q7 (by unfold Ya; simp only; rw [if_pos g,decide_eq_false u]; rfl),f⟩)
 ·have g:¬ cls = -1:=by simpa using i
  have y:Ya v.c ⟨cls,page,idx,pa,pc,pages⟩=(Bc cls v.c.classes.length && Bc page v.c.pages && Bc idx (Am v.c cls)):=by unfold Ya; simp only; rw [if_neg g]
  rw [y];refine ζd 32 Xe (by kernel_rfl) ϱ fun a=>δl a b ϱ (δl a c ϱ (δl a d.obj ϱ (δw a (fun w' j=>T4 cls v.c.classes.length w') ϱ ?_)));refine Xd.fork Xb a rfl rfl rfl (fun p => ?_) (fun p => ?_)
  ·rw [p];refine δl a b ϱ (δl a c ϱ (δl a d.obj ϱ (δw a (fun w' j=>T4 page v.c.pages w') ϱ ?_)));refine Xd.fork Xb a rfl rfl rfl (fun r => ?_) (fun r => ?_)
   ·rw [r];exact δl a b ϱ (δl a c ϱ (δl a d.obj ϱ (δl a b ϱ (δv a (fun w' j=>Xcn v.c v.p cls w' (d.conf.chg j)) ϱ (δw a (fun w' j=>T4 idx (Am v.c cls) w') ϱ (δn a ϱ fun z e=>ζr func177 ϱ ⟨rfl,f.trans e⟩))))))
   ·rw [r];exact δn a ϱ fun z e=>ζr func177 ϱ ⟨rfl,f.trans e⟩
  ·rw [p];exact δn a ϱ fun z e=>ζr func177 ϱ ⟨rfl,f.trans e⟩
theorem Dc (h:Zb c=true):(64<=c.size/\c.size<=4096/\c.size % 8=0)/\(1<=c.pages/\c.pages<=1024)/\Bb c.classes c.size=true:=by
 obtain ⟨a,b,d,_⟩:=D1.1 h;exact ⟨Kf.1 a,b,d⟩
theorem G6 (hm:Zb c=true) (h:Ya c q=true) (hc:q.cls ≠ -1) :
 ∃ k pg ix:Nat,q.cls=k/\q.page=pg/\q.idx=ix/\k<c.classes.length/\(pg:Int)<c.pages/\8<=Z3 c k/\Z3 c k<=c.size/\0<=(pg:Int)*c.size/\0<=(ix:Int)*Z3 c k/\(ix:Int)*Z3 c k+Z3 c k<=c.size/\(pg:Int)*c.size+(ix:Int)*Z3 c k+Z3 c k<=c.size*c.pages:=by
 obtain ⟨r,s,j⟩:=Dc hm;unfold Ya at h;rw [if_neg hc] at h;simp only [XK,K6] at h;obtain ⟨⟨⟨l,t⟩,m,u⟩,n,o⟩:=h;obtain ⟨k,e⟩:=XD l;obtain ⟨pg,f⟩:=XD m;obtain ⟨ix,b⟩:=XD n;have d:k<c.classes.length:=by omega
 obtain ⟨p,v,g⟩:=Rw j k d;have a:Z3 c k=c.classes.getD k 0:=rfl;rw [<- a] at p g;have i:Am c q.cls=c.size / Z3 c k:=by
  unfold Am;rw [e,if_pos (by omega),XA,<- a,T5 (by omega) (by omega)]
 rw [i,b] at o;have e1:(ix:Int)*Z3 c k+Z3 c k<=c.size:=by
  have:((ix:Int)+1)*Z3 c k<=c.size:=by
   calc ((ix:Int)+1)*Z3 c k<=(c.size / Z3 c k)*Z3 c k:=XX (by omega) (by omega)
    _<=c.size:=Int.ediv_mul_le _ (by omega)
  rw [YW,YX] at this;exact this
 have e2:(pg:Int)*c.size+c.size<=c.size*c.pages:=by
  have:((pg:Int)+1)*c.size<=c.pages*c.size:=XX (by omega) (by omega);rw [YW,YX,ZY c.pages] at this;exact this
 refine ⟨k,pg,ix,e,f,b,d,by omega,by omega,g,ZG (by omega) (by omega),ZG (by omega) (by omega),e1,by omega⟩
theorem Sa (h:Ya c q=true) (hc:q.cls = -1):0<q.pages.length /\ ∀ n ∈ q.pages,0<=n/\n<c.pages:=by
 unfold Ya at h;rw [if_pos hc] at h;simp only [XK,decide_eq_true_eq,Bool.not_eq_true'] at h;refine ⟨h.1,fun n a => ?_⟩;have:=List.any_eq_false.1 h.2 n a;simp at this;exact K6.1 this
theorem A7.cls {v:Vw} (h:A7 w v) (hk:k<v.c.classes.length):∃ b off,v.p.ca=some ⟨b,off,none⟩/\w.cell? ⟨b,off+k,none⟩=some (.int .i64 (Z3 v.c k)):=h.conf.classes k hk
theorem Ls (hm:Zb c=true):64<=c.size*c.pages/\c.size*c.pages<=4194304:=by
 obtain ⟨a,b,_⟩:=Dc hm;constructor
 ·calc (64:Int)=64*1:=rfl
   _<=c.size*c.pages:=ZD (by omega) (by omega) (by omega) (by omega)
 ·calc c.size*c.pages<=4096*1024:=ZD (by omega) (by omega) (by omega) (by omega)
   _=4194304:=rfl
theorem P4 (v:Vw) (q:Plc) (w:World) (h:A7 w v) (hq:Zf w q) (hfew:q.pages.length<=1000000000):Xf prog 139 #[Du v,.agg (Xt q).toArray] w (Grow (.int .i64 (Zt v.c q)) w):=by
 obtain ⟨E,F,G⟩:=Dc h.may;refine ζe func139 ntmps139 ϱ (ζn ϱ fun qb x e1 o e z => ?_);have p:=h.grow e;refine ζl o ϱ (ζv (Xbp v q x p (hq.grow e)) ϱ fun H f => ?_);have b:=f.heap' o;have i:=p.grow f;have s:=e.trans f;cases n:Ya v.c q with
 |false =>
  exact ζy ϱ (ζr func139 ϱ ⟨X0 (by unfold Zt; rw [n]; rfl),s⟩)
 |true =>
  refine ζf ϱ (ζl b ϱ (ζg ϱ (fun d => ?_) fun d => ?_))
  ·have g:q.cls = -1:=by simpa using d
   have A:0<=(q.pages.length:Int)*v.c.size:=ZG (by omega) (by omega);have B:(q.pages.length:Int)*v.c.size<=1000000000*4096:=ZD (by omega) (by omega) (by omega) (by omega);refine Xa.drawn (q:=10) Xe Xb Xo (by kernel_rfl) rfl ?_;intro a;refine Xd.loadb Xb a rfl b (by first | exact fun h=>h | (intro h; omega) | assumption) rfl rfl ?_;refine Xd.loadb Xb a rfl i.obj (by first | exact fun h=>h | (intro h; omega) | assumption) rfl rfl ?_;refine Xd.arith Xb a rfl (w64 (by omega)) rfl ?_;exact δn a ϱ fun y l=>ζr func139 ϱ ⟨X0 (by unfold Zt; rw [if_pos n,if_pos g]),s.trans l⟩
  ·have g:¬ q.cls = -1:=by simpa using d
   obtain ⟨k,pg,ix,t,C,D,m,_,_,_,_,_,_,_⟩:=G6 h.may n g;obtain ⟨cb,off,r,u⟩:=i.cls m;obtain ⟨vb,c,⟨ca,cc,ka,kc⟩,ab,mb⟩:=v;simp only at r
   subst r;obtain ⟨cls,page,idx,pa,pc,pages⟩:=q;simp only at t
   subst t;replace m:k<c.classes.length:=m;refine ζd 10 Xe (by kernel_rfl) ϱ fun a=>δl a i.obj ϱ (δl a b ϱ ?_);refine Xd.index Xb a rfl (j:=k) (show (0:Int)<=k by omega) (show (k:Int)<c.classes.length by omega) (by simp) rfl ?_;exact δk a u ϱ (δn a ϱ fun y l=>ζr func139 ϱ ⟨X0 (by unfold Zt; rw [if_pos n]; simp only; rw [if_neg g]),s.trans l⟩)
theorem Xbn (v:Vw) (q:Plc) (w:World) (h:A7 w v) (hq:Zf w q):Xf prog 120 #[Du v,.agg (Xt q).toArray] w (Grow (.int .i64 (Q5 v.c q)) w):=by
 obtain ⟨H,I,J⟩:=Dc h.may;have e:=Ls h.may;refine ζe func120 ntmps120 ϱ (ζn ϱ fun qb E e1 n f G => ?_);have o:=h.grow f;refine ζl n ϱ (ζv (Xbp v q E o (hq.grow f)) ϱ fun K i => ?_);have b:=i.heap' n;have l:=o.grow i;have t:=f.trans i;cases u:Ya v.c q with
 |false =>
  exact ζy ϱ (ζr func120 ϱ ⟨X0 (by unfold Q5; rw [u,if_neg (by simp)]),t⟩)
 |true =>
  refine ζf ϱ (ζl b ϱ (ζg ϱ (fun d => ?_) fun d => ?_))
  ·have g:q.cls = -1:=by simpa using d
   exact ζr func120 ϱ ⟨X0 (by unfold Q5; rw [if_neg (fun F=>F.2 g)]),t⟩
  ·have g:¬ q.cls = -1:=by simpa using d
   obtain ⟨k,pg,ix,x,p,r,m,L,y,M,z,A,N,B⟩:=G6 h.may u g;obtain ⟨cb,off,s,C⟩:=l.cls m;obtain ⟨vb,c,⟨ca,cc,ka,kc⟩,ab,mb⟩:=v;simp only at s
   subst s;obtain ⟨cls,page,idx,pa,pc,pages⟩:=q;simp only at x p r
   subst x;subst p;subst r;replace m:k<c.classes.length:=m;replace e:64<=c.size*c.pages/\c.size*c.pages<=4194304:=e;replace z:0<=(pg:Int)*c.size:=z;replace A:0<=(ix:Int)*Z3 c k:=A;replace B:(pg:Int)*c.size+(ix:Int)*Z3 c k+Z3 c k<=c.size*c.pages:=B;replace y:8<=Z3 c k:=y;refine Xa.drawn (q:=22) Xe Xb Xo (by kernel_rfl) rfl ?_;intro a;refine Xd.loadb Xb a rfl b (by first | exact fun h=>h | (intro h; omega) | assumption) rfl rfl ?_;refine Xd.loadb Xb a rfl l.obj (by first | exact fun h=>h | (intro h; omega) | assumption) rfl rfl ?_;refine Xd.arith Xb a rfl (w64 (by show _/\_; simp only; omega)) rfl ?_;refine Xd.loadb Xb a rfl b (by first | exact fun h=>h | (intro h; omega) | assumption) rfl rfl ?_;refine Xd.loadb Xb a rfl l.obj (by first | exact fun h=>h | (intro h; omega) | assumption) rfl rfl ?_;refine Xd.loadb Xb a rfl b (by first | exact fun h=>h | (intro h; omega) | assumption) rfl rfl ?_;refine Xd.index Xb a rfl (j:=k) (show (0:Int)<=k by omega) (show (k:Int)<c.classes.length by omega) (by simp) rfl ?_;exact δk a C ϱ (Xd.arith Xb a rfl (w64 (by show _/\_; simp only; omega)) rfl (Xd.arith Xb a rfl (w64 (by show _/\_; simp only; omega)) rfl (δn a ϱ fun O D=>ζr func120 ϱ ⟨X0 (by unfold Q5; rw [if_pos ⟨u,g⟩]),t.trans D⟩)))
theorem XlL (c:Conf) (p:Y4) (A:Ar) (V:ArV) (w:World) (hc:Yp w c p) (hA:X1 w A V):Xf prog 72 #[.agg (Zl c p).toArray,.pointer (some ⟨A.ab,0,none⟩),H5 A.mb] w
 (fun v w'=>Xc Xe w w'/\if Zb c=true/\(V.bs.length:Int)=c.size*c.pages then ∃ vb,v = .tuple #[.pointer (some ⟨vb,0,none⟩),.int .i64 0]/\w.heap.size<=vb/\A7 w' ⟨vb,c,p,A.ab,A.mb⟩ else v = .tuple #[.pointer none,.int .i64 1]):=by
 refine ζe func72 ntmps72 ϱ (ζn ϱ fun cb o e1 h i s => ?_);refine ζl h ϱ (ζv (Vh c p o (hc.chg i)) ϱ fun u j => ?_);have e:=i.trans j;have a:=j.heap' h;cases f:Zb c with
 |false =>
  rw [show Be c=1 from by unfold Be; rw [f]; rfl];exact ζy ϱ (ζr func72 ϱ ⟨e,by rw [if_neg (by simp)]⟩)
 |true =>
  rw [show Be c=0 from by unfold Be; rw [f]; rfl];have q:=Ls f;refine ζf ϱ (ζd 8 Xe (by kernel_rfl) ϱ fun d=>δw d (fun w' l=>Up A V w' ((hA.grow e).grow l)) ϱ (δl d a ϱ (δl d a ϱ (Xd.arith Xb d rfl (w64 (by show _/\_; omega)) rfl (Xd.adv Xb d rfl (δn d ϱ fun x b => ?_))))));by_cases g:(V.bs.length:Int)=c.size*c.pages
  ·refine ζF ϱ (show ((V.bs.length:Int) != c.size*c.pages)=false by rw [g]; exact bne_self_eq_false _) (ζl (b.heap' a) ϱ (ζb ϱ (ζn ϱ fun vb y e4 m n t => ?_)));have k:=(e.trans b).trans n;exact ζr func72 ϱ ⟨k,by rw [if_pos ⟨rfl,g⟩]; exact ⟨vb,rfl,by have:=e.size; have:=b.size; omega,⟨m,hc.chg k,f⟩⟩⟩
  ·exact ζY ϱ (show ((V.bs.length:Int) != c.size*c.pages)=true by simpa using g) (ζr func72 ϱ ⟨e.trans b,by rw [if_neg (fun r=>g r.2)]⟩)
abbrev Span:=Nat × Nat × Nat
def B5 (s:Span):List Value := [.int .i64 (s.1:Nat),.int .i64 (s.2.1:Nat),.int .i64 (s.2.2:Nat)]
def Cw (at' n page:Nat):Span:=(at' / page,at' % page,min n (page - at' % page))
def Jr:Nat->Nat->Nat->Nat->List Span
 |0,_,_,_ => []
 |f+1,at',n,page=>if n=0 then [] else Cw at' n page::Jr f (at'+min n (page - at' % page)) (n - min n (page - at' % page)) page
def Z1 (at' n page:Nat):List Span:=Jr n at' n page
theorem I5 {page:Nat} (hp:1<=page) (hn:0<n):0<min n (page - at' % page):=by
 have:=QG at' (show 0<page by omega); omega
theorem Xfc {page:Nat} (hp:1<=page):∀ (f g at' n:Nat),n<=f->n<=g->Jr f at' n page=Jr g at' n page
 |0,0,_,_,_,_=>rfl
 |0,g+1,at',n,h,_=>by
   obtain rfl:n=0:=by omega
   simp [Jr]
 |f+1,0,at',n,_,h=>by
   obtain rfl:n=0:=by omega
   simp [Jr]
 |f+1,g+1,at',n,a,b=>by
  unfold Jr;split
  ·rfl
  ·rename_i c
   have:=I5 (at':=at') hp (show 0<n by omega);rw [Xfc hp f g _ _ (by omega) (by omega)]
theorem Tp (at' page:Nat):Z1 at' 0 page = []:=rfl
theorem Kg {page:Nat} (hp:1<=page) (hn:0<n):Z1 at' n page=Cw at' n page::Z1 (at'+min n (page - at' % page)) (n - min n (page - at' % page)) page:=by
 have:=I5 (at':=at') hp hn;unfold Z1;obtain ⟨m,rfl⟩:∃ m,n=m+1:=⟨n - 1,by omega⟩;rw [show Jr (m+1) at' (m+1) page=Cw at' (m+1) page::Jr m (at'+min (m+1) (page - at' % page)) (m+1 - min (m+1) (page - at' % page)) page from by
  show (if m+1=0 then [] else _)=_
  rw [if_neg (by omega)]]
 rw [Xfc hp m _ _ _ (by omega) (XE _)]
theorem Px {page:Nat} (hp:1<=page):∀ (n at':Nat),(Z1 at' n page).length<=n:=by
 intro n
 induction n using QA with
 |_ n ih =>
  intro at';by_cases a:n=0
  ·subst a; exact XE _
  ·have:=I5 (at':=at') hp (show 0<n by omega);rw [Kg hp (by omega),XP];have:=ih (n - min n (page - at' % page)) (by omega) (at'+min n (page - at' % page));omega
abbrev Cx (w:World) (b:Nat) (x:Int):Prop:=w.heap[b]? = some (.cells ([.int .i64 x]:List Value).toArray 3 (0,0))
theorem XgY (pa pp pn at' page n:Nat) (w:World) (ha:Cx w pa at') (hp:Cx w pp page) (hn:Cx w pn n) (hb:at'+n<=16777216/\1<=page/\page<=16777216) :
 Xf prog 271 #[.pointer (some ⟨pa,0,none⟩),.pointer (some ⟨pp,0,none⟩),.pointer (some ⟨pn,0,none⟩)] w (Grow (.agg (B5 (Cw at' n page)).toArray) w):=by
 have g:0<=(at':Int) % page/\(at':Int) % page<page:=⟨Int.emod_nonneg _ (by omega),Int.emod_lt_of_pos _ (by omega)⟩;have e3:((min n (page - at' % page):Nat):Int)=if (page:Int) - (at':Int) % page<n then (page:Int) - (at':Int) % page else n:=by
  rw [show ((at':Int) % page)=((at' % page:Nat):Int) from rfl];have:=QG at' (show 0<page by omega);split <;> omega
 refine ζe func271 ntmps271 ϱ (ζn ϱ fun rb k e1 d a h=>ζl (a.heap' ha) ϱ (ζl (a.heap' hp) ϱ (Xa.div Xb rfl (by omega) (Fi (by omega)) rfl (ζd 10 Xe (by kernel_rfl) ϱ fun b=>δl b (a.heap' ha) ϱ (δl b (a.heap' hp) ϱ (Xd.div Xb b rfl (by omega) (Fh (by omega) (by omega)) rfl (δl b (a.heap' hn) ϱ (δl b (a.heap' hp) ϱ (δj b ϱ (Xd.adv Xb b rfl (Xd.build Xb b rfl rfl (δn b ϱ fun l c=>ζs (c.heap' d) ϱ fun m e f i => ?_))))))))))));exact ζR func271 e ϱ ⟨by unfold B5 Cw; simp only; rw [e3]; rfl,((a.trans c).since f (fun x o j=>by omega))⟩
theorem Xg0 (l pa pp pn at0 n0 page:Nat) (w:World) (Y:Nat->Prop) (I:Nat->World->Prop) (hb:at0+n0<=16777216/\1<=page/\page<=16777216) (ha:Cx w pa at0) (hp:Cx w pp page) (hn:Cx w pn n0)
 (hne:pa≠pp/\pa≠pn/\pp≠pn) (hY:¬ Y pa /\ ¬ Y pp /\ ¬ Y pn) (hI:∀ k w w',I k w->Xc (fun z=>z=pa\/z=pn) w w'->I k w')
 (hy:∀ k w0 w (h:k<(Z1 at0 n0 page).length),I k w0->Xc Xe w0 w->Hl prog l [.agg (B5 (Z1 at0 n0 page)[k]).toArray] w (fun v w'=>v = .bool true/\I (k+1) w'/\Xc (fun z=>Y z/\z<w0.heap.size) w w'))
 (h0:I 0 w) :
 Xf prog 270 #[Iz l,.pointer (some ⟨pa,0,none⟩),.pointer (some ⟨pp,0,none⟩),.pointer (some ⟨pn,0,none⟩)] w (fun v w'=>v = .tuple #[]/\I (Z1 at0 n0 page).length w'/\Xc (fun z=>z=pa\/z=pn\/Y z) w w'):=by
 refine ζe func270 ntmps270 ϱ ?_;refine Xa.loop (α:=Nat × Nat × Nat) (fun _ => [(0,false,Iz l),(1,false,.pointer (some ⟨pa,0,none⟩)),(3,false,.pointer (some ⟨pn,0,none⟩)),(5,false,.func (.func 271) #[] #[.pointer (some ⟨pa,0,none⟩),.pointer (some ⟨pp,0,none⟩),.pointer (some ⟨pn,0,none⟩)])])
  (fun p w' => ∃ pre,Z1 at0 n0 page=pre++Z1 p.2.1 p.2.2 page/\pre.length=p.1/\p.2.1+p.2.2=at0+n0/\I p.1 w'/\Cx w' pa p.2.1/\Cx w' pp page/\Cx w' pn p.2.2/\Xc (fun z=>z=pa\/z=pn\/Y z) w w') (fun p=>p.2.2) (0,at0,n0) ⟨rfl,rfl,rfl,rfl,trivial⟩
  ⟨[],rfl,rfl,rfl,h0,ha,hp,hn,Xc.refl _ _⟩ ?_
 rintro ⟨k,at',n⟩ D ⟨pre,a,P,K,q,i,E,j,F⟩ ih;simp only at a P K q i j
 subst P;refine ζa ϱ (ζl j ϱ (ζg ϱ (fun L => ?_) fun L => ?_))
 ·have m:0<n:=by have:=of_decide_eq_true L; omega
  have r:=I5 (at':=at') hb.2.1 m;have d:=Kg (at':=at') hb.2.1 m;refine ζv (XgY pa pp pn at' page n D i E j (by omega)) ϱ fun w2 s=>ζn ϱ fun sb w3 e3 Q R a4=>ζs Q ϱ fun w4 t S a5 => ?_;have b:=(s.trans R).since S (fun z hz e=>by have:=s.size; omega);have T:pre.length<(Z1 at0 n0 page).length:=by rw [a,d]; simp
  have U:(Z1 at0 n0 page)[pre.length]=Cw at' n page:=by
   simp only [a,d]; simp
  have G:=hy pre.length D w4 T q b;rw [U] at G;refine ζl t ϱ (Xa.yield rfl G ?_);rintro _ w5 ⟨rfl,V,f⟩;have a3:D.heap.size<=sb:=by have:=s.size; omega
  have a6:=Xg i;have H:=f.heap (b.heap' i) (fun h=>hY.1 h.1);have J:=f.heap (b.heap' j) (fun h=>hY.2.2 h.1);have u:=f.heap t (fun h=>by have:=h.2; omega);refine ζa ϱ (ζf ϱ (ζd 9 (fun z=>z=pa) (by kernel_rfl) ϱ fun c=>Xd.loadbAt (4) Xb c rfl rfl rfl J (by first | exact fun h=>h | (intro h; omega) | assumption) rfl rfl (Xd.loadbAt (2) Xb c rfl rfl rfl u (by first | exact fun h=>h | (intro h; omega) | assumption) rfl rfl (Xd.loadbAt (6) Xb c rfl rfl rfl u (by first | exact fun h=>h | (intro h; omega) | assumption) rfl rfl (Xd.arith Xb c rfl (w64 (by show _/\_; unfold Cw; simp only; omega)) rfl (Xd.turn1 c rfl fun w6 x=>Xq.loadb Xb c rfl (x.heap' H) rfl rfl (Xd.arith Xb c rfl (w64 (by show _/\_; unfold Cw; simp only; omega)) rfl (Xd.turn1 c rfl fun W y=>Xq.store Xb c rfl (y.heap' (x.heap' H)) (by first | (intro h; exact rfl) | (intro h; omega)) rfl rfl rfl fun a7 M A a8=>δn c ϱ fun w7 o => ?_))))))));have g:=x.trans y;refine ζs (o.heap' (A.heap (g.heap' J) (fun e=>hne.2.1 e.symm))) ϱ fun w8 a1 B a9 => ?_;have N:Xc (fun z=>z=pa\/z=pn) W w8:=((A.mono fun _ _ h => .inl h).trans o.gr).trans (B.mono fun _ _ h => .inr h);have C:=g.gr.trans N;have O:Xc (fun z=>z=pa\/z=pn\/Y z) D w8:=(b.gr.trans (f.mono fun _ _ h => .inr (.inr h.1))).trans (C.mono fun _ _ h=>h.elim .inl (fun h => .inr (.inl h)));exact ih (pre.length+1,at'+min n (page - at' % page),n - min n (page - at' % page)) _ _ ⟨pre ++ [Cw at' n page],by rw [a,d]; simp,by simp,by simp only; omega,hI _ _ _ V C,by
   have e:((at':Int)+((Cw at' n page).2.2:Nat))=((at'+min n (page - at' % page):Nat):Int):=by unfold Cw; simp only; omega
   simp only
   rw [<- e]; exact (B.heap (o.heap' M) hne.2.1),(B.heap (o.heap' (A.heap (g.heap' (f.heap (b.heap' E) (fun h=>hY.2.1 h.1))) (fun e=>hne.1 e.symm))) hne.2.2),by
   have e:((n:Int) - ((Cw at' n page).2.2:Nat))=((n - min n (page - at' % page):Nat):Int):=by unfold Cw; simp only; omega
   simp only
   rw [<- e]; exact a1,F.trans O⟩ (by simp only; omega) ⟨rfl,rfl,rfl,rfl,trivial⟩
 ·have m:n=0:=by have:=of_decide_eq_false L; omega
  subst m;have r:(Z1 at0 n0 page).length=pre.length:=by rw [a,Tp]; simp
  exact ζr func270 ϱ ⟨rfl,by rw [r]; exact q,F⟩
theorem XgZ (at' n page:Int) (w:World):Xf prog 262 #[.int .i64 at',.int .i64 n,.int .i64 page] w (fun v w' => ∃ pa pp pn,v = .func (.func 270) #[] #[.pointer (some ⟨pa,0,none⟩),.pointer (some ⟨pp,0,none⟩),.pointer (some ⟨pn,0,none⟩)] /\
 w.heap.size<=pa/\w.heap.size<=pp/\w.heap.size<=pn/\(pa≠pp/\pa≠pn/\pp≠pn)/\Cx w' pa at'/\Cx w' pp page/\Cx w' pn n/\Xc Xe w w'):=by
 exact ζe func262 ntmps262 ϱ (ζn ϱ fun pa j e1 d c g=>ζn ϱ fun pn k e2 e b h=>ζn ϱ fun pp l e3 f a i=>ζr func262 ϱ ⟨pa,pp,pn,rfl,by omega,by omega,by omega,by omega,a.heap' (b.heap' d),f,a.heap' e,(c.trans b).trans a⟩)
theorem Xkk {L:List Span} (h:Xl base t 3 w v L.length (L.flatMap B5)):∃ a cap,v = .slice a L.length cap/\Rows B5 3 w a L /\ ∀ b off s,a=some ⟨b,off,s⟩->base<=b:=by
 rcases h.2 with ⟨rfl,m⟩ | ⟨g,cap,cur,rfl,n,o,y,z,A,p⟩
 ·obtain rfl:L = []:=List.length_eq_zero_iff.1 m;exact ⟨none,0,rfl,fun i x c=>by simp at c,fun _ _ _ e=>by cases e⟩
 ·refine ⟨some ⟨g,0,none⟩,cap,rfl,fun i x c=>⟨g,0,rfl,fun j v f => ?_⟩,fun b off s e=>by cases e; exact n⟩;have u:=(List.getElem?_eq_some_iff.1 c).1;have q:j<3:=by have:=(List.getElem?_eq_some_iff.1 f).1; simpa [B5] using this
  rw [Yi o];have k:∀ (L:List Span) (i:Nat) (x:Span),L[i]? = some x->(L.flatMap B5)[i*3+j]? = (B5 x)[j]?:=by
   intro L
   induction L with
   |nil=>intro i x c; simp at c
   |cons s r ih =>
    intro i x c;rw [ZO];have d:(B5 s).length=3:=rfl;cases i with
    |zero =>
     simp at c; subst c;rw [Nat.zero_mul,XQ,XV (by rw [d]; exact q)]
    |succ i =>
     rw [ZQ (by rw [d]; omega),d,show (i+1)*3+j - 3=i*3+j from by omega];exact ih i x (by simpa using c)
  have l:=k L i x c;rw [f,<- p,YG,if_pos (by omega)] at l;rw [XQ]
  simpa using l
theorem XgX (at' n page:Nat) (w:World) (hb:at'+n<=16777216/\1<=page/\page<=16777216):Xf prog 234 #[.int .i64 at',.int .i64 n,.int .i64 page] w
 (fun v w' => ∃ a cap,v = .slice a (Z1 at' n page).length cap/\Rows B5 3 w' a (Z1 at' n page)/\(∀ b off s,a=some ⟨b,off,s⟩->w.heap.size<=b)/\Xc Xe w w'):=by
 have bg:maxLen=9223372036854775807:=rfl;have bh:=Px (page:=page) hb.2.1 n at';refine ζe func234 ntmps234 ϱ (ζf ϱ (ζf ϱ (ζf ϱ (ζf ϱ (ζj ϱ (ζf ϱ (ζn ϱ fun lb w1 e1 af p bi=>ζc ϱ (XgZ at' n page w1) ?_)))))));rintro _ w2 ⟨pa,pp,pn,rfl,bj,bk,bl,ag,Q,R,T,E⟩;have ay:=Xg Q;have az:=Xg R;have b0:=Xg T;have F:=p.trans E;have bm:=E.size;refine ζa ϱ (Xa.rangeFunc rfl rfl ⟨Tryz.f270,func270,rfl,rfl⟩ fun G B tmps w3 y hB a8 ah ai q bn => ?_);have a9:G.state = .ready:=by rw [y]
 have b2:({G with state := .ready,pending:=none}:Loop)=G:=by rw [y]
 have aa:G.pending=none:=by rw [y]
 refine (Xg0 (B+1) pa pp pn at' n page w3 (fun z=>z=lb\/z=B+1\/B+2<=z)
  (fun k w'=>k<=(Z1 at' n page).length /\ ∃ v,w'.heap[lb]? = some (.cells ([v]:List Value).toArray 261 (0,0))/\Xl (B+2) 294 3 w' v k (((Z1 at' n page).take k).flatMap B5) /\
   w'.heap[B+1]? = some (.loop G)/\w'.heap[B]? = some (.deferred (some []))/\B+2<=w'.heap.size/\Xc Xe w w')
  hb (q.heap' Q) (q.heap' R) (q.heap' T) ag ⟨by omega,by omega,by omega⟩ ?_ ?_ ⟨XL _,_,q.heap' (E.heap' af),World.ownsRow_nil _ _ _ _,ai,ah,by omega,(F.trans q)⟩).mono ?_
 ·rintro k w4 L ⟨H,v,t,d,x,I,h5,J⟩ D;refine ⟨H,v,D.heap t (by omega),d.chg D (fun b hb e => ?_),D.heap x (by omega),D.heap I (by omega),ZX h5 D.size,J.since D (fun z K e=>by have:=p.size; omega)⟩;have:=(World.ownsRow.lt d b hb.symm).1;omega
 ·rintro k w4 L H ⟨bo,v,t,d,x,I,h5,J⟩ r;subst y;refine Hl.enter (ps := [33]) (r.heap' x) rfl rfl a8 rfl (ζa ϱ (ζn ϱ fun sb w6 e6 ak U al=>ζs ak ϱ fun w7 ac V bp => ?_));have c:=(r.trans U).since V (fun z K e=>by have:=r.size; omega);have b4:=r.size;refine Xa.beginRound rfl (c.heap' x) rfl fun w8 ao f bq=>ζa ϱ (ζl (f.heap (c.heap' t) (by omega)) ϱ (ζl (f.heap ac (by omega)) ϱ (Xa.buildSlice Xb rfl fun b9 w9 e9 ap g br=>ζa ϱ ?_)));have A:=((d.chg c (fun _ _ h=>h)).chg f (fun b hb e=>by have:=(World.ownsRow.lt d b hb.symm).1; omega)).chg g (fun _ _ h=>h);have aq:((Z1 at' n page).take (k+1)).flatMap B5=((Z1 at' n page).take k).flatMap B5++B5 (Z1 at' n page)[k]:=by
   rw [ZC,XB H,List.flatMap_append]; simp
  refine Xa.append (base:=B+2) (news:=B5 (Z1 at' n page)[k]) Xb rfl A (by have:=c.size; have:=f.size; have:=g.size; omega) rfl (fun i u M=>by rw [B9,Yi ap]; simpa [B5,Y3] using M) (fun u M=>by simp [B5] at M; rcases M with rfl | rfl | rfl <;> rfl) (by simp only; omega) ?_;intro bs W l j b5;obtain ⟨bt,av,aw,N,-⟩:=l.form (by omega);subst N;refine ζa ϱ ?_;refine ζs (j.heap (g.heap' (f.heap (c.heap' t) (by omega))) (fun e=>by have:=(World.ownsRow.lt A lb e.symm).1; omega)) ϱ fun a0 O m b6 => ?_;refine Xa.roundEnd rfl (m.heap (j.heap (g.heap' ao) (fun e=>by have:=(World.ownsRow.lt A _ e.symm).1; omega)) (by omega)) ?_;intro a6 ad o b7;have hc:∀ S:Nat->Prop,S lb->S (B+1)->(∀ z,some z=v.ownBlock->S z)->Xc S L a6:=fun S c1 c2 c3=>by
   have a1:Xc S L w7:=U.gr.since V (fun z K e=>by omega);have a2:Xc S w7 w8:=f.mono fun z _ e=>by subst e; exact c2
   have a3:Xc S w8 W:=g.gr.trans (j.mono fun z _ e=>c3 z e);have a4:Xc S W a0:=m.mono fun z _ e=>by subst e; exact c1
   have a5:Xc S a0 a6:=o.mono fun z _ e=>by subst e; exact c2
   exact (((a1.trans a2).trans a3).trans a4).trans a5
  refine ⟨_,rfl,rfl,⟨H,_,o.heap O (by omega),?_,ad,(o.heap (m.heap (j.heap (g.heap' (f.heap (c.heap' I) (by omega))) (fun e=>by have:=(World.ownsRow.lt A _ e.symm).1; omega)) (by omega)) (by omega)),by have:=c.size; have:=f.size; have:=g.size; have:=j.size; omega,(J.trans r).since (hc (fun z=>z=lb\/B+1<=z) (.inl rfl) (.inr (XE _)) (fun z e => .inr (by have:=(World.ownsRow.lt d z e.symm).1; omega))) (fun z K e=>by have:=p.size; omega)⟩,
   hc _ ⟨.inl rfl,(Xg t)⟩ ⟨.inr (.inl rfl),(Xg x)⟩ (fun z e=>⟨.inr (.inr (World.ownsRow.lt d z e.symm).1),(World.ownsRow.lt d z e.symm).2⟩)⟩
  rw [aq];exact (l.chg m (fun b hb e=>by have:=(World.ownsRow.lt l b hb.symm).1; omega)).chg o (fun b hb e=>by have:=(World.ownsRow.lt l b hb.symm).1; omega)
 ·rintro _ w4 ⟨rfl,⟨H,v,t,d,x,I,h5,J⟩,bu⟩;refine ⟨_,x,by rw [a9]; simp,?_⟩;intro L C bv;rw [aa];refine ζa ϱ (ζl (C.heap t (by omega)) ϱ ?_);rw [ZI] at d;refine Xa.retM Xb rfl func234 (C.heap I (by omega)) (vs := [v]) (fun _ _ => .tmp rfl .nil) ?_;intro w6 a7 al;obtain ⟨a,cap,rfl,P,ae⟩:=Xkk ((d.chg C (fun b hb e=>by have:=(World.ownsRow.lt d b hb.symm).1; omega)).chg a7 (fun b hb e=>by have:=(World.ownsRow.lt d b hb.symm).1; omega));exact ⟨a,cap,rfl,P,fun b off s e=>by have:=ae b off s e; have:=F.size; omega,(J.since C (fun z K e=>by have:=p.size; omega)).since a7 (fun z K e=>by have:=p.size; omega)⟩
theorem Rd.far' {k:IntKind} (h:Rd k w a zs) (hs:0<zs.length->Xj S a) (hc:Xc S w w'):Rd k w' a zs:=(Fs.chg ⟨h,fun b off s e c=>hs c b off s e⟩ hc).1
theorem Zf.far (h:Zf w q) (hs:0<q.pages.length->Xj S q.pa) (hc:Xc S w w'):Zf w' q:=⟨h.rd.far' hs hc,h.len⟩
theorem Yp.far {p:Y4} (h:Yp w c p) (h1:0<c.classes.length->Xj S p.ca) (h2:0<c.keep.length->Xj S p.ka) (hc:Xc S w w'):Yp w' c p:=⟨h.classes.far' h1 hc,h.keep.far' h2 hc,h.lc,h.lk,h.size⟩
theorem A7.far {w w':World} {v:Vw} {S:Nat->Prop} (h:A7 w v) (h0:¬ S v.vb) (h1:0<v.c.classes.length->Xj S v.p.ca) (h2:0<v.c.keep.length->Xj S v.p.ka) (hc:Xc S w w'):A7 w' v:=⟨hc.heap h.obj h0,h.conf.far h1 h2 hc,h.may⟩
theorem Rd.outNew {k:IntKind} (h:Rd k w a zs) (hs:0<zs.length->Xj S a) (hS:∀ z,S' z->S z\/w.heap.size<=z):0<zs.length->Xj S' a:=fun c b off s e d=>by
 rcases hS b d with h1 | h1
 ·exact hs c b off s e h1
 ·obtain ⟨b',off',e',f⟩:=h 0 c;rw [e] at e';cases e'
  have:=World.block_lt_of_cell? w _ f;simp only at this
  omega
theorem XaY {page:Nat} (hp:1<=page):∀ (n at':Nat),∀ s ∈ Z1 at' n page,s.1*page+s.2.1+s.2.2<=at'+n/\0<s.2.2/\s.2.1+s.2.2<=page/\at'<=s.1*page+s.2.1:=by
 intro n
 induction n using QA with
 |_ n ih =>
  intro at' s hs;by_cases b:n=0
  ·subst b; cases hs
  ·have c:=I5 (at':=at') hp (show 0<n by omega);have d:=QG at' (show 0<page by omega);have a:=YM at' page;rw [Kg hp (by omega)] at hs;rcases List.mem_cons.1 hs with rfl | hs
   ·unfold Cw;simp only
    rw [YO] at a;omega
   ·have:=ih _ (by omega) _ s hs;omega
def Zx (c:Conf) (q:Plc) (at' n:Nat):List (Int × Int) :=
 if q.cls = -1 then (Z1 at' n c.size.toNat).map fun s=>(q.pages.getD s.1 0*c.size+s.2.1,(s.2.2:Int)) else [(Q5 c q+at',(n:Int))]
theorem Xg1 (A:Ar) (V:ArV) (n:Int) (w:World) (h:X1 w A V):Xf prog 132 #[H5 A.mb,.int .i64 n] w (fun _ w'=>X1 w' A (V.charge A n)/\Xc (Ym A) w w'):=by
 cases a:A.mb with
 |none =>
  refine (W3 n w).mono fun _ w' e => ?_;subst e;exact ⟨by unfold ArV.charge; rw [a]; exact h,Xc.refl _ _⟩
 |some b =>
  refine (W0 b V.total V.lap n w (h.met b a)).mono fun _ w' ⟨d,c⟩ => ?_;exact ⟨by unfold ArV.charge; rw [a]; exact h.metered a d c,c.mono fun x _ f=>by unfold Ym; rw [f]; exact a⟩
theorem XlT (v:Vw) (q:Plc) (at' n:Int) (w:World):Xf prog 192 #[Du v,.agg (Xt q).toArray,.int .i64 at',.int .i64 n] w (fun u w' => ∃ pb vb ab nb,u = .func (.func 233) #[] #[.pointer (some ⟨pb,0,none⟩),.pointer (some ⟨vb,0,none⟩),.pointer (some ⟨ab,0,none⟩),.pointer (some ⟨nb,0,none⟩)] /\
 w.heap.size<=pb/\w.heap.size<=vb/\w.heap.size<=ab/\w.heap.size<=nb/\H3 w' pb q/\Fg w' vb v/\Cx w' ab at'/\Cx w' nb n/\Xc Xe w w'):=by
 refine ζe func192 ntmps192 ϱ (ζn ϱ fun vb o e1 f d j=>ζn ϱ fun pb p e2 g e k=>ζn ϱ fun ab r e3 h c l=>ζn ϱ fun nb s e4 i a m => ?_);have b:=e.trans (c.trans a);exact ζr func192 ϱ ⟨pb,vb,ab,nb,rfl,by omega,by omega,by omega,by omega,(c.trans a).heap' g,b.heap' f,a.heap' h,i,d.trans b⟩
def Bm (q:Plc) (A:Ar) (V:ArV):ArV:=if q.cls = -1 then V.charge A 1 else V
theorem X1.mlt (h:X1 w A V):∀ z,Ym A z->z<w.heap.size:=fun z a=>Xg (h.met z a).1
theorem XlU (l:Nat) (v:Vw) (q:Plc) (at' n pb vb ab nb:Nat) (A:Ar) (Vs:Nat->ArV) (K:Nat->(Nat->Prop)->World->Prop) (Y0:Nat->Prop) (w:World)
 (hv:A7 w v) (hq:Zf w q) (hmb:v.mb=A.mb) (hin:Ya v.c q=true) (hr:(at':Int)+n<=Zt v.c q) (hfew:q.pages.length<=4096)
 (hpb:H3 w pb q) (hvb:Fg w vb v) (hab:Cx w ab at') (hnb:Cx w nb n)
 (hP1:∀ z,Y0 z\/Ym A z->z≠pb/\z≠vb/\z≠v.vb) (hPq:0<q.pages.length->Xj (fun z=>Y0 z\/Ym A z) q.pa) (hPc:0<v.c.classes.length->Xj (fun z=>Y0 z\/Ym A z) v.p.ca) (hPk:0<v.c.keep.length->Xj (fun z=>Y0 z\/Ym A z) v.p.ka)
 (hKlt:∀ k Y w,K k Y w -> ∀ z,Y z->z<w.heap.size) (hK:∀ k Y w w',K k Y w->Xc (Ym A) w w'->K k Y w')
 (hy:∀ k Y w0 w (h:k<(Zx v.c q at' n).length),X1 w0 A (Bm q A (Vs k))->K k Y w0->Xc Xe w0 w ->
  Hl prog l [.int .i64 (Zx v.c q at' n)[k].1,.int .i64 (Zx v.c q at' n)[k].2] w (fun u w'=>u = .bool true/\X1 w' A (Vs (k+1))/\Xc Y w w' /\ ∃ Y',K (k+1) Y' w' /\ ∀ z,Y' z->Y z\/w.heap.size<=z))
 (h0:X1 w A (Vs 0)) (hK0:K 0 Y0 w) :
 Xf prog 233 #[Iz l,.pointer (some ⟨pb,0,none⟩),.pointer (some ⟨vb,0,none⟩),.pointer (some ⟨ab,0,none⟩),.pointer (some ⟨nb,0,none⟩)] w
  (fun u w'=>u = .tuple #[]/\X1 w' A (Vs (Zx v.c q at' n).length)/\(∃ Y',K (Zx v.c q at' n).length Y' w' /\ ∀ z,Y' z->Y0 z\/w.heap.size<=z)/\Xc (fun z=>Y0 z\/Ym A z) w w'):=by
 obtain ⟨m1,m2,m3⟩:=Dc hv.may;have b0:=Ls hv.may;have a1:∀ {x y:World},Xc Xe x y->Xc (Ym A) x y:=fun h=>h.gr;refine ζe func233 ntmps233 ϱ (ζl hpb ϱ ?_);by_cases d:q.cls = -1
 ·obtain ⟨b1,I⟩:=Sa hin d;have J:Zt v.c q=(q.pages.length:Int)*v.c.size:=by unfold Zt; rw [if_pos hin,if_pos d]
  rw [J] at hr;have a2:(q.pages.length:Int)*v.c.size<=4096*4096:=ZD (by omega) (by omega) (by omega) (by omega);obtain ⟨sz,a3⟩:=XD (show 0<=v.c.size by omega);have a8:v.c.size.toNat=sz:=by omega
  have o:Zx v.c q at' n=(Z1 at' n sz).map fun s=>(q.pages.getD s.1 0*v.c.size+s.2.1,(s.2.2:Int)):=by unfold Zx; rw [if_pos d,a8]
  have B:(Zx v.c q at' n).length=(Z1 at' n sz).length:=by rw [o,XM]
  have b8:=Px (page:=sz) (by omega) n at';refine Xa.no Xb rfl (show (q.cls != -1)=false by rw [d]; rfl) rfl ?_;refine Xa.drawn (q:=10) Xe Xb Xo (by kernel_rfl) rfl ?_;intro c;refine Xd.loadb Xb c rfl hab (by first | exact fun h=>h | (intro h; omega) | assumption) rfl rfl ?_;refine Xd.loadb Xb c rfl hnb (by first | exact fun h=>h | (intro h; omega) | assumption) rfl rfl ?_;refine Xd.loadb Xb c rfl hvb (by first | exact fun h=>h | (intro h; omega) | assumption) rfl rfl ?_;refine Xd.loadb Xb c rfl hv.obj (by first | exact fun h=>h | (intro h; omega) | assumption) rfl rfl ?_;have hd:∀ w',Xc Xe w w'->Xf prog 234 #[.int .i64 at',.int .i64 n,.int .i64 v.c.size] w' (fun u m=>Xc Xe w' m /\ ∃ a cap,u = .slice a (Z1 at' n sz).length cap/\Rows B5 3 m a (Z1 at' n sz)/\(∀ b off s,a=some ⟨b,off,s⟩->w'.heap.size<=b)):=fun w' r=>by
   rw [a3];exact (XgX at' n sz w' (by omega)).mono fun u m ⟨a,cap,L,h2,h3,h4⟩=>⟨h4,a,cap,L,h2,h3⟩
  refine Xd.callQ c rfl rfl (fun w' r=>(hd w' r).mono fun u m ⟨L,a,cap,h2,h3,h4⟩=>(⟨L,a,cap,h2,h3,fun b off s e=>ZX r.size (h4 b off s e)⟩:Xc Xe w' m /\ ∃ a cap,u = .slice a (Z1 at' n sz).length cap/\Rows B5 3 m a (Z1 at' n sz)/\(∀ b off s,a=some ⟨b,off,s⟩->w.heap.size<=b))) ?_;rintro _ w1 ah ⟨sa,scap,rfl,a0,ad⟩;refine Xd.adv Xb c rfl (δn c ϱ fun m t => ?_);have f:=ah.trans t;have ai:Xj (fun z=>Y0 z\/Ym A z) sa:=fun b off s e hb=>by
   have:=ad b off s e;rcases hb with hb | hb
   ·have:=hKlt _ _ _ hK0 b hb; omega
   ·have:=h0.mlt b hb; omega
  refine Xa.loop (α:=Nat) (fun k => [(0,false,Iz l),(1,false,.pointer (some ⟨pb,0,none⟩)),(2,false,.pointer (some ⟨vb,0,none⟩)),(26,false,.slice sa (Z1 at' n sz).length scap),(27,false,.int .i64 (Z1 at' n sz).length),(28,false,.int .i64 k)])
   (fun k w'=>k<=(Z1 at' n sz).length/\X1 w' A (Vs k)/\(∃ Y,K k Y w' /\ ∀ z,Y z->Y0 z\/m.heap.size<=z)/\Xc (fun z=>Y0 z\/Ym A z) m w') (fun k=>(Z1 at' n sz).length - k) 0 ⟨rfl,rfl,rfl,rfl,rfl,rfl,trivial⟩
   ⟨XL _,h0.grow f,⟨Y0,hK _ _ _ _ hK0 (a1 f),fun _ h => .inl h⟩,Xc.refl _ _⟩ ?_
  rintro k w3 ⟨hk,M,⟨Y,a4,N⟩,i⟩ ih;refine ζa ϱ (ζg ϱ (fun hc => ?_) fun hc => ?_)
  ·have C:k<(Z1 at' n sz).length:=by have:=of_decide_eq_true hc; omega
   obtain ⟨s,hs⟩:∃ s,s=(Z1 at' n sz)[k]:=⟨_,rfl⟩;obtain ⟨i1,i2,i3,i4⟩:=XaY (page:=sz) (by omega) n at' s (hs▸XJ C);have G:s.1<q.pages.length:=by
    have L:(s.1*sz:Nat)<q.pages.length*sz:=by
     have:((q.pages.length*sz:Nat):Int)=(q.pages.length:Int)*v.c.size:=by rw [a3]; rfl
     omega
    exact Nat.lt_of_mul_lt_mul_right L
   obtain ⟨rb,roff,aj,H⟩:=((a0.chg t).at C);subst aj;rw [<- hs] at H;have O:∀ j u,(B5 s)[j]? = some u->w3.cell? ⟨rb,roff+k*3+j,none⟩=some u:=fun j u hu=>i.cell (H j u hu) (ai rb roff none rfl);have P:=i.heap (f.heap' hvb) (fun e=>(hP1 _ e).2.1 rfl);have a5:=(hv.grow f).far (fun e=>(hP1 _ e).2.2 rfl) hPc hPk i;refine ζi (k*3) ϱ (Xa.loadC Xb (B5 s) rfl (by first | rfl | (simp; done) | (simp [*]; done) | (simp; omega)) (O) rfl (ζn ϱ fun sb w4 e4 ak al b9=>ζs ak ϱ fun w5 ag am ba => ?_));have p:=al.since am (fun z E e=>by omega);refine ζl (p.heap' P) ϱ (ζl (a5.grow p).obj ϱ ?_);rw [hmb];refine ζc ϱ (Xg1 A (Vs k) 1 w5 (M.grow p)) ?_;rintro _ w6 ⟨an,Q⟩;refine ζa ϱ ?_;have ao:∀ {x y:World},Xc (Ym A) x y->Xc (fun z=>Y0 z\/Ym A z) x y:=fun h=>h.mono fun _ _ h => .inr h;have g:=p.gr.trans (ao Q);have F:=Q.heap ag (fun e=>by have:=M.mlt _ e; omega);obtain ⟨gb,goff,a6,ap⟩:=(((hq.grow f).far hPq i).far hPq g).rd s.1 G;have aq:0<=q.pages.getD s.1 0/\q.pages.getD s.1 0<v.c.pages:=I _ (by rw [XC,XB G]; exact XJ G);have R:0<=q.pages.getD s.1 0*v.c.size/\q.pages.getD s.1 0*v.c.size<=1024*4096:=⟨ZG aq.1 (by omega),ZD (by omega) (by omega) (by omega) (by omega)⟩;have ar:(Zx v.c q at' n)[k]'(by rw [B]; exact C)=(q.pages.getD s.1 0*v.c.size+s.2.1,(s.2.2:Int)):=by
    simp only [o,YF,<- hs]
   obtain ⟨cls,page,idx,pa,pc,pages⟩:=q;simp only at a6
   subst a6;refine ζd 18 Xe (by kernel_rfl) ϱ fun c=>δl c (g.heap (i.heap (f.heap' hpb) (fun e=>(hP1 _ e).1 rfl)) (fun e=>(hP1 _ e).1 rfl)) ϱ (δl c F ϱ (Xd.index Xb c rfl (j:=s.1) (show (0:Int)<=(s.1:Nat) by omega) (show ((s.1:Nat):Int)<pages.length by have:s.1<pages.length:=G; omega) (by simp) rfl (δk c ap ϱ (δl c (g.heap P (fun e=>(hP1 _ e).2.1 rfl)) ϱ (δl c (a5.far (fun e=>(hP1 _ e).2.2 rfl) hPc hPk g).obj ϱ (Xd.arith Xb c rfl (w64 (by show _/\_; simp only at R ⊢; omega)) rfl (δl c F ϱ (Xd.arith Xb c rfl (w64 (by show _/\_; simp only at R ⊢; omega)) rfl (δl c F ϱ (δn c ϱ fun w7 S => ?_))))))))));have D:=hy k Y w6 w7 (by rw [B]; exact C) (by unfold Bm; rw [if_pos d]; exact an) (hK _ _ _ _ (hK _ _ _ _ a4 (a1 p)) Q) S;rw [ar] at D;refine Xa.yield rfl D ?_;rintro _ w8 ⟨rfl,T,U,Y',V,W⟩;refine ζa ϱ (ζf ϱ (ζj ϱ ?_));have ay:m.heap.size<=w7.heap.size:=by have:=i.size; have:=g.size; have:=S.size; omega
   exact ih (k+1) _ _ ⟨C,T,⟨Y',V,fun z E=>(W z E).elim (N z) (fun h => .inr (by omega))⟩,
    ((i.trans g).trans S.gr).since U (fun z E h => .inl ((N z h).elim id (fun h=>by omega)))⟩ (by omega) ⟨rfl,rfl,rfl,rfl,rfl,rfl,trivial⟩
  ·have av:k=(Z1 at' n sz).length:=by have:=of_decide_eq_false hc; omega
   subst av;have az:=f.size;rw [B];exact ζr func233 ϱ ⟨rfl,M,⟨Y,a4,fun z E=>(N z E).imp id (fun h=>by omega)⟩,f.gr.trans i⟩
 ·have o:Zx v.c q at' n = [(Q5 v.c q+at',(n:Int))]:=by unfold Zx; rw [if_neg d]
  obtain ⟨kk,pg,ix,a7,I,aw,bb,g1,g2,g3,g4,g5,g6,g7⟩:=G6 hv.may hin d;have ax:Q5 v.c q=(pg:Int)*v.c.size+(ix:Int)*Z3 v.c kk:=by unfold Q5; rw [if_pos ⟨hin,d⟩,a7,I,aw]
  have J:Zt v.c q=Z3 v.c kk:=by unfold Zt; rw [if_pos hin,if_neg d,a7]
  rw [J] at hr;refine ζY ϱ (show (q.cls != -1)=true by simpa using d) (ζd 7 Xe (by kernel_rfl) ϱ fun c=>δl c hvb ϱ (δl c hpb ϱ (δv c (fun w' r=>Xbn v q w' (hv.grow r) (hq.grow r)) ϱ (δl c hab ϱ (Xd.arith Xb c rfl (w64 (by show _/\_; rw [ax]; omega)) rfl (δl c hnb ϱ (δn c ϱ fun m t => ?_)))))));have D:=hy 0 Y0 w m (by rw [o]; simp) (by unfold Bm; rw [if_neg d]; exact h0) hK0 t;rw [show (Zx v.c q at' n)[0]'(by rw [o]; simp)=(Q5 v.c q+at',(n:Int)) from by simp only [o]; rfl] at D;refine Xa.yield rfl D ?_;rintro _ w8 ⟨rfl,T,U,Y',V,W⟩;refine ζa ϱ ?_;have a2:(Zx v.c q at' n).length=1:=by rw [o]; rfl
  rw [a2];have:=t.size;exact ζr func233 ϱ ⟨rfl,T,⟨Y',V,fun z E=>(W z E).imp id (fun h=>by omega)⟩,t.gr.trans (U.mono fun _ _ h => .inl h)⟩
end Go.Proofs.YtohjeeapehmkcaaGreatDoor
