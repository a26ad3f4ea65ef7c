/-
  Texts put together: Sr10, Sr11, Sr12, Sr13, Sr14, D8, Sr15, Laws22, Aw22, Laws20, Laws20b, Laws22b, Sr16.
-/
import Derived.Test.YtohjeeapehmkcaaGreatDoorPt9
import Derived.Test.YtohjeeapehmkcaaGreatDoorQRule9
import Derived.Test.YtohjeeapehmkcaaGreatDoorQRule12
set_option linter.unusedVariables false
set_option maxRecDepth 100000
namespace Go.Proofs.YtohjeeapehmkcaaGreatDoor
open Go.RowKit
open Bool renaming and_eq_true->XJ
open Int renaming toNat_natCast->XA,eq_ofNat_of_zero_le->XD,mul_le_mul->ZH,mul_nonneg->ZJ,le_refl->ZO,mul_comm->YG,toNat_of_nonneg->Y2
open List renaming getElem?_set_self->XF,length_replicate->XH,getElem_mem->XK,mem_of_getElem?->XP,getElem?_replicate->XW,map_cons->ZB,eq_of_mem_replicate->ZG,replicate_succ->ZT,append_nil->YB,sum_cons->YH,mem_replicate->YR,any_eq_false->YZ,getElem_of_mem->QK
open Nat renaming le_refl->XE,zero_le->XL,mul_one->ZK,add_assoc->YL
open Go.Proofs.Tryz (func12 func29 func37 func40 func41 func42 func43 func44 func7 func9 func91 ntmps12 ntmps29 ntmps37 ntmps40 ntmps41 ntmps42 ntmps43 ntmps44 ntmps7 ntmps9 ntmps91 prog)
variable {A:Ar}{V:ArV}{c:Conf}{l':IL}{ahead by' size u who z:Int}{lg:List (Nat×List Nat)}{th:List (Option ThM)}{ps:List IL}{bs l p zs:List Int}{l2 ws:List Nat}{cs rest xs:List Value}{mo:Mo}{m:MvM}{N at' b base cap fuel g i j k len lm lo n n0 o off sz t tm vb xb y:Nat}{e:Nat×List Int}{fz:Nat×Nat}{f:Nat->Int}{G:Nat->Pg}{B C F F' Fr S S' T:Nat->Prop}{pd pd2:Option (Nat×PlcM)}{a:Option Addr}{pg:PgL}{P:Pl}{pl':PlM}{q:Plc}{R:Rm}{M:RmM}{r r1:SR}{x x':Sm}{s s':StM}{α:Type}{v:Value}{w w' w0 w1 w2:World}
theorem Xit(_h:Yx c M)(k n i who:Int):Jn M.tot (Qe M k n i who) (Qe (Qa M) k n i who):=by
 unfold Qe;have e:Zc (Qa M) k=Zc M k:=rfl;rw[e];cases a:Zc M k with
 |none=>exact I3 M
 |some x=>exact I3 (D1 M k.toNat (Aq x n i who) M.pl)
theorem Xds(h:Yx c M)(who size:Int):Jn M.tot (Ab c M who size) (Ab c (Qa M) who size):=by
 have ef:Qd c (Qa M) size=Qd c M size:=rfl;unfold Ab;rw[ef];split
 ·exact I3 M
 ·split
  ·exact I3 M
  ·rename_i f
   split
   ·have b:((Zq size c.size).toNat:Int)<=1024:=by
     have j:=h.mok.good.many;have k:=h.mok.good.len;rename_i g
     have a:=Decidable.not_not.1 f;unfold Qd at a;split at a
     ·exact absurd a (by decide)
     ·split at a
      ·exact absurd a (by decide)
      ·rename_i d
       unfold B8 at d;rw[if_pos g] at d;omega
    obtain⟨many,em⟩:∃many,many=(Zq size c.size).toNat:=⟨_,rfl⟩;rw[<-em] at b⊢;have l : -1<=(many*4+(many-1):Int)/\(many*4+(many-1):Int)<=10000:=by omega
    by_cases i:many=0
    ·subst i;refine⟨?_,?_,?_⟩
     ·show({D0 M 0 with tot:=Xx M.tot (Xx 0 (((0:Nat):Int)*4+(((0:Nat):Int)-1)))}:RmM)=D0 M 0
      unfold D0 Xx
      simp
     ·unfold D0 Xx;simp
     ·unfold D0 Xx;simp
    ·have e:(D0 (Qa M) many).tot=(many*4+(many-1):Int):=W7 (n:=(many*4+(many-1):Int)) (by omega);refine⟨?_,by rw[e];omega,by rw[e];omega⟩;rw[e];rfl
   ·exact Xag h _ _
theorem I2(hm:X6 c=true):0<=X5 c q at' n/\X5 c q at' n<=2*n+1:=by
 obtain⟨a,b,d⟩:=Dr hm;have:=R4 (page:=c.size.toNat) (by omega) n at';unfold X5;split <;> omega
abbrev H3(c:Conf)(p:Yu)(x:RA):Value:=.tuple #[.agg (Q9 c p x).toArray,.int .i64 0]
abbrev Fd(c:Conf)(w:World)(r:RA)(q:Plc)(i:Nat)(l:List Int)(x:RA)(w2:World):Prop:=x.bs=Qw c q r.bs i l l.length/\x.steps=r.steps+X5 c q i l.length/\Z0 w2 x/\E1 w r.a x.a/\Yj w2 x.a
theorem O2{r:RA}:∀x w2 w3,Fd c w r q i l x w2->Xc Xe w2 w3->Fd c w r q i l x w3:=λ_ _ _ ⟨a,b,c,d,e⟩ f=>⟨a,b,c.grow f,d,e.grow f.size⟩
theorem Xj9(M:RmM)(k n i who:Int):{Qe (Qa M) k n i who with tot:=Xx M.tot 3}={Qe M k n i who with tot:=Xx (Qe M k n i who).tot 3}:=by
 unfold Qe;rw[show Zc (Qa M) k=Zc M k from rfl];cases Zc M k <;> rfl
theorem XfH(h:X4 w r s)(hs:s.OkP r.c pd)(ho:o<s.th.length)(hf:Qg r.c s size=0)(hL:(Yv r.c s (o:Nat) size).OkP r.c pd2)(ht:0<=s.rm.tot/\s.rm.tot<=999999000000):Xf prog 91 #[.agg (Zv r).toArray,.int .i64 (o:Nat),.int .i64 size] w (λv w'=>∃r',v=.agg (Zv r').toArray/\Cw w r (Yv r.c s (o:Nat) size) r' w'):=by
 have cs:=Yp hs.may;have hn:=cs.n;have M:=hs.may;have dx:s.mv.length<=16:=by have:=hs.ml;omega
 have c8:=Rw hs.rm;have c3:0<s.bs.length:=by
  have h2:1*64<=r.c.pages*r.c.size:=ZH (by have:=cs.pages;omega) (by have:=cs.size;omega) (by omega) (by have:=cs.pages;omega);rw[YG r.c.pages] at h2;rw[<-hs.bl] at h2;omega
 obtain⟨g0,fj⟩:=Xan hf;have en:(Yv r.c s (o:Nat) size).th[o]?=some (some ⟨size,Zb r.c s (o:Nat) size⟩):=by
  show(s.th.set (o:Int).toNat _)[o]?=_
  rw[XA,XF ho]
 obtain⟨pv,ph,pf⟩:=Ii hL en;simp only at pv ph pf
 have f2:∀(n:Int) w',Xc Xe w w'->Xf prog 151 #[.agg (A5 r.rr).toArray,.int .i64 n] w' (Grow (.int .i64 (Xk r.c.classes n)) w'):=λn w' p=>by
  have:=Rq r.rr n w' (by rw[h.rc,h.rp];exact(h.grow p).conf.classes) (by rw[h.rc];omega);rw[h.rc] at this;exact this
 refine ζe func91 ntmps91 ϱ (ζn ϱ λb w1 e1 hb f3 g1=>ζn ϱ λqb N e2 ae dy g2=>?_);have cw:=dy.heap' hb;have bi:=f3.trans dy;refine ζl cw ϱ (ζv (f2 size N bi) ϱ λw3 b0=>?_);refine ζn ϱ λpb w4 e4 bj c4 g3=>?_;refine ζl (c4.heap' (b0.heap' cw)) ϱ (ζn ϱ λtb w5 e5 eo c9 g4=>ζs eo ϱ λw6 ba dz g5=>?_);have cn:=((b0.trans c4).trans c9).since dz (λz u e=>by have:=b0.size;have:=c4.size;omega);have e0:=cn.heap' cw;have co:=cn.heap' ae;have cp:=dz.heap (c9.heap' bj) (by have:=Xg bj;omega);have cx:=bi.trans cn;refine ζl e0 ϱ (ζv (K0 (h.grow cx) dx (Xk r.c.classes size)) ϱ λw7 T=>?_);have H:=cx.trans T;have af:=T.heap' e0;by_cases O:Ce r.c s size=none
 ·have eS:X9 r.c s (o:Nat) size={s with rm:=Ab r.c s.rm (o:Nat) size}:=by unfold X9;rw[O]
  have eQ:Zb r.c s (o:Nat) size=A2 r.c s.rm (o:Nat) size:=by unfold Zb;rw[O]
  have hC:=Xds hs.rm (o:Int) size;have bk:(Xt s (Xk r.c.classes size)).isSome=false\/((Xt s (Xk r.c.classes size)).isSome=true/\Zf s.rm (Xk r.c.classes size)≠0):=by
   unfold Ce at O;cases hm:Xt s (Xk r.c.classes size) with
   |none=>exact .inl rfl
   |some m=>
    rw[hm] at O;simp only at O
    refine .inr ⟨rfl,λe=>?_⟩;rw[if_pos e] at O;cases O
  rcases bk with bk|⟨bk,cz⟩
  ·rw[bk];refine ζf ϱ (ζl af ϱ ?_);have hP:=Xfz r.rr (Qa s.rm) (o:Nat) size w7 ((h.grow H).rr) c8.mok (by rw[h.rc];exact c8.ok) ⟨ZO _,show(0:Int)<=4611686018427000000 by decide⟩ (by rw[h.rc,h.rp];exact(h.grow H).conf.classes) (by rw[h.rc];exact M);rw[h.rc] at hP;refine ζc ϱ (hP) ?_;rintro _ w8 ⟨f4,q,rfl,ay,cq,d1,al,bl⟩;refine ζa ϱ (ζn ϱ λxb w9 e9 ah bm e6=>ζn ϱ λyb f5 f6 c5 bn ep=>ζs (bn.heap' ah) ϱ λf7 c6 bo er=>?_);have lyx:yb≠xb:=by have:=Xg ah;omega
   refine ζs (bo.heap c5 lyx) ϱ λf8 ax az es=>?_;have ai:=((bm.trans bn).since bo (λz u e=>by omega)).since az (λz u e=>by have:=bm.size;omega);have aj:=bl.trans ai;refine ζl (aj.heap' af) ϱ (ζl (az.heap c6 (λe=>lyx e.symm)) ϱ (ζc ϱ (Og (h.grow (H.trans aj)) (cq.grow ai) d1 ⟨hC.2.1,ht.1,by have:=hC.2.2;omega⟩) ?_));rintro _ d2 ⟨a,rfl,_,ak,l,ad⟩;refine ζa ϱ ?_;rw[hC.1,<-eS] at ak;have e7:=Xg (T.heap' ba);have ea:N.heap.size<=pb/\N.heap.size<=tb:=⟨by have:=b0.size;omega,by have:=b0.size;have:=c4.size;omega⟩;have A:=aj.trans ad;refine ζs (A.heap' (T.heap' ba)) ϱ λeb b1 C d3=>?_;have a7:=(H.trans A).since C (λz u e=>by omega);have a8:∀{w':World},Xc Xe w w'->Ys w' a.c a.cp:=λhc=>by have:=h.conf.chg hc;rw[l.1,l.2.1];exact this
   have z8:=bl.size;have ltp:tb≠pb:=by have:=Xg bj;have:=c9.size;omega
   refine ζl (C.heap (ad.heap' ax) (by have:=bm.size;omega)) ϱ (ζs (C.heap (A.heap' (T.heap' cp)) (λe=>ltp e.symm)) ϱ λD K F d5=>?_);have P:=F.heap b1 ltp;have a9:=a7.since F (λz u e=>by omega);have i:=(ak.far (l.2.2 (λz=>z=tb) (λz e=>by omega) (h.out λz e=>by omega)) (a8 a7) C).far (l.2.2 (λz=>z=pb) (λz e=>by omega) (h.out λz e=>by omega)) (a8 a9) F;obtain⟨y1,y2,y3,y4⟩:=N0 r.c s (o:Nat) size;have E:a.c=r.c/\a.cp=r.cp:=⟨l.1,l.2.1⟩;have b2:Xc (λz=>z=tb\/z=pb) w8 D:=(((ai.trans ad).gr).trans (C.mono λ_ _ e=>.inl e)).trans (F.mono λ_ _ e=>.inr e);have W:Zl D q:=⟨al.ok.rd.far (λb' off s' e u=>by have:=al.fresh b' off s' e;omega) b2,al.ok.len⟩;have bc:q.pages.length<=4096:=by rw[show q.pages=(Zb r.c s (o:Nat) size).pages by rw[eQ];exact congrArg PlcM.pages ay];exact pf
   have ca:∀w',Xc Xe D w'->Xf prog 158 #[.agg (Zj a.c a.cp).toArray,.agg (Xv q).toArray] w' (Grow (.int .i64 (Zy a.c q)) w'):=λw' p=>Rr a.c a.cp q w' ((i.grow p).conf) (W.grow p) (by rw[E.1];exact M) (by omega);have am:0<=a.ra.steps/\a.ra.steps<=1152921504606846976:=by
    rw[i.rs,eS,<-hC.1];show 0<=Xx s.rm.tot _/\Xx s.rm.tot _<=_
    rw[Bl (by have:=hC.2;omega)];have:=hC.2;omega
   have ec:w7.heap.size<=D.heap.size:=by have:=A.size;have:=C.size;have:=F.size;omega
   have bd:∀b' off s',q.pa=some ⟨b',off,s'⟩->w7.heap.size<=b':=λb' off s' e=>al.fresh b' off s' e;refine ζd 13 Xe (by kernel_rfl) ϱ λG=>δl G P ϱ (δv G (λw' p=>(K1 (w:=w') (r:=a))) ϱ (δl G K ϱ (δl G P ϱ (δl G K ϱ (δv G (λw' p=>ca w' p) ϱ ?_)))));have cb:=G7 (c:=r.c) (q:=q) M bc;obtain⟨f,ehn⟩:=XD cb.1;have cc:Yi r.c q=true:=by rw[O0,show Xy q=Zb r.c s (o:Nat) size by rw[eQ];exact ay];exact pv
   rw[show Zy a.c q=((f:Nat):Int) by rw[E.1];exact ehn];have cd:∀w',Xc Xe D w'->Xf prog 96 #[.agg (Q9 a.c a.cp a.ra).toArray,.agg (Xv q).toArray,.int .i64 0,.int .i64 (f:Nat)] w' (λv N=>Xc Xe w' N/\∃x:RA,v=H3 a.c a.cp x/\Fd r.c D a.ra q 0 (Xz f) x N/\∀b,D.heap.size<=b->(b<w'.heap.size\/N.heap.size<=b)->Xj (λz=>z=b) x.a):=λw' p=>by
    have U:=Dl f;have an:a.ra.bs=s.bs:=by rw[i.rb,y3]
    have hh:=Uc a.c a.cp a.ra q 0 f w' ((i.grow p).conf) (W.grow p) (by rw[E.1];exact M) bc (by rw[E.1];exact Gm cc (by omega) (by omega) (by omega)) ((i.grow p).ra) (by rw[an,E.1];exact hs.bl) am;rw[E.1] at hh⊢;refine hh.mono λv N ⟨x,x1,x2,x3,x4,x5,x6⟩=>⟨x6,x,x1,⟨by rw[U];exact x2,by rw[U];exact x3,x4,?_,?_⟩,λb hb ed=>?_⟩
    ·exact x5.imp id (λ⟨g,off,e,hg⟩=>⟨g,off,e,by have:=p.size;omega⟩)
    ·exact λb' off' s' e=>x4.rd.block (by rw[x2,Gr,an];exact c3) e
    ·intro b' off' s' e u;have ee:=x4.rd.block (by rw[x2,Gr,an];exact c3) e;rcases x5 with e'|⟨g,off,e',hg⟩
     ·have:=i.la b' off' s' (e'▸e);omega
     ·rw[e'] at e;cases e;omega
   refine Xd.callAllocG (H3 a.c a.cp) (Fd r.c D a.ra q 0 (Xz f)) ((λx b=>Xj (λz=>z=b) x.a)) Xb G rfl rfl rfl (λ_=>rfl) rfl (λ_=>rfl) (λ_=>rfl) rfl rfl (λ_ _=>rfl) rfl (λ_ _=>rfl) (cd) (O2) ((λ_ h=>h.elim)) ?_;rintro nb x ef eg cg bt ⟨q1,q2,q3,q4,q5⟩ ch;refine Xd.turn1 G rfl λeh I=>Xp.store Xb G rfl (I.heap' cg) (by first|(intro h;exact rfl)|(intro h;omega)) rfl rfl rfl λci b4 a5 df=>δn G ϱ λcj Q=>?_;have ei:=I.size;have ao:=(bt.trans I).since a5 (λz u e=>by omega);have d:=ao.trans Q;have b5:Z0 ci x:=⟨((q3.grow I).rd).far ch a5,q3.len,q3.lc,q3.rng⟩;have b6:=Q.heap' b4;have b7:=d.heap' P;refine ζl b6 ϱ (ζs b7 ϱ λap R B dg=>?_);obtain⟨V,J⟩:∃V:SR,V={a with ra:=x}:=⟨_,rfl⟩;replace R:Zg ap tb V:=by rw[J];exact R
   have U:=Dl f;have aa:Xy q=Zb r.c s (o:Nat) size:=by rw[eQ];exact ay
   have dh:0<=X5 r.c q 0 f/\X5 r.c q 0 f<=50000000:=by
    have:=I2 (q:=q) (at':=0) (n:=f) M;omega
   have b8:x.steps=Xx (X9 r.c s (o:Nat) size).rm.tot (X5 r.c (Zb r.c s (o:Nat) size).plc 0 f):=by
    rw[q2,U,<-aa,<-Hf,i.rs,Bl (by have:=am;rw[i.rs] at this;omega)]
   have bu:X4 cj V (Zw r.c (X9 r.c s (o:Nat) size) (Zb r.c s (o:Nat) size) 0 (Xz f)):=by
    have h1:=i.putRa d (ra:=x) (bs:=Qw r.c (Zb r.c s (o:Nat) size).plc (X9 r.c s (o:Nat) size).bs 0 (Xz f) (Xz f).length) (t:=Xx (X9 r.c s (o:Nat) size).rm.tot (X5 r.c (Zb r.c s (o:Nat) size).plc 0 (Xz f).length)) (b5.grow Q) (by rw[q1,i.rb,<-aa,<-Jx]) (by rw[U];exact b8) (q5.grow ((I.gr.trans a5).size|> λh=>by have:=Q.size;omega));rw[J];exact h1
   have L:Zs w7 r V:=⟨by rw[J];exact l.1,by rw[J];exact l.2.1,λS hS aq=>by
    have ar:=l.2.2 S hS aq;rw[J];exact {ar with ra:=(ar.ra.newer q4 (λz u=>by have:=hS z u;omega))}⟩
   have ab:=(a9.trans d).since B (λz u e=>by omega);have au:=W.grow d;have bv:Zl ap q:=⟨au.rd.far (λb' off s' e u=>by have:=bd b' off s' e;omega) B,au.len⟩;refine ζl R ϱ (ζl (B.heap (d.heap' K) (λe=>ltp e.symm)) ϱ (ζb ϱ (ζc ϱ ((Oh (bu.far (L.2.2 (λz=>z=tb) (λz e=>by omega) (h.out λz e=>by omega)) (by have:=h.conf.chg ab;rw[L.1,L.2.1];exact this) B) (show(X9 r.c s (o:Nat) size).th.length<=4096 by rw[y1];exact Jj hs) o (show o<(X9 r.c s (o:Nat) size).th.length by rw[y1];exact ho) ⟨size,q⟩ (some ⟨size,Zb r.c s (o:Nat) size⟩) ⟨rfl,λy e=>by cases e;exact aa⟩ ⟨bv,((al.lt.grow b2.size).grow d.size).grow B.size⟩)) ?_)));rintro _ ej ⟨be,rfl,ck,⟨bw,bx,bz⟩,av⟩;refine ζa ϱ ?_;refine ζs (av.heap' (B.heap (d.heap' (F.heap (C.heap (A.heap' (T.heap' co)) (by have:=Xg ae;omega)) (by have:=Xg ae;omega))) (by have:=Xg ae;omega))) ϱ λek b9 aw dj=>?_;have lqb:=Xg ae;have ac:=(ab.trans av).since aw (λz u e=>by omega);have zu:w7.heap.size<=ap.heap.size:=by have:=d.size;have:=B.size;omega
   have bf:Zs N r be:=⟨bw.trans L.1,bx.trans L.2.1,λS hS aq=>bz S (λz u=>by have:=hS z u;omega) (L.2.2 S (λz u=>by have:=hS z u;omega) aq) (λb' off s' e u=>by have:=hS _ u;have:=bd b' off s' e;omega)⟩;have eL:Yv r.c s (o:Nat) size={Zw r.c (X9 r.c s (o:Nat) size) (Zb r.c s (o:Nat) size) 0 (Xz f) with th:=(X9 r.c s (o:Nat) size).th.set o (some ⟨size,Zb r.c s (o:Nat) size⟩)}:=by
    unfold Yv;rw[y1,XA,<-aa,<-Oz,ehn,XA]
   rw[eL];exact ζR func91 b9 ϱ ⟨be,rfl,h.box bf ck (by omega) (by omega) aw ac,bf.back bi.size,ac⟩
  ·rw[bk];refine ζy ϱ (ζl af ϱ ?_);have cl:=Ub r.rr (Qa s.rm) (Xk r.c.classes size) w7 (h.grow H).rr;rw[show Zf (Qa s.rm) (Xk r.c.classes size)=Zf s.rm (Xk r.c.classes size) from rfl] at cl;refine ζv cl ϱ λw7 c0=>?_;have af:=c0.heap' af;have T:=T.trans c0;have H:=H.trans c0;refine ζF ϱ (by simpa using cz) (ζl af ϱ ?_);have hP:=Xfz r.rr (Qa s.rm) (o:Nat) size w7 ((h.grow H).rr) c8.mok (by rw[h.rc];exact c8.ok) ⟨ZO _,show(0:Int)<=4611686018427000000 by decide⟩ (by rw[h.rc,h.rp];exact(h.grow H).conf.classes) (by rw[h.rc];exact M);rw[h.rc] at hP;refine ζc ϱ (hP) ?_;rintro _ w8 ⟨f4,q,rfl,ay,cq,d1,al,bl⟩;refine ζa ϱ (ζn ϱ λxb w9 e9 ah bm e6=>ζn ϱ λyb f5 f6 c5 bn ep=>ζs (bn.heap' ah) ϱ λf7 c6 bo er=>?_);have lyx:yb≠xb:=by have:=Xg ah;omega
   refine ζs (bo.heap c5 lyx) ϱ λf8 ax az es=>?_;have ai:=((bm.trans bn).since bo (λz u e=>by omega)).since az (λz u e=>by have:=bm.size;omega);have aj:=bl.trans ai;refine ζl (aj.heap' af) ϱ (ζl (az.heap c6 (λe=>lyx e.symm)) ϱ (ζc ϱ (Og (h.grow (H.trans aj)) (cq.grow ai) d1 ⟨hC.2.1,ht.1,by have:=hC.2.2;omega⟩) ?_));rintro _ d2 ⟨a,rfl,_,ak,l,ad⟩;refine ζa ϱ ?_;rw[hC.1,<-eS] at ak;have e7:=Xg (T.heap' ba);have ea:N.heap.size<=pb/\N.heap.size<=tb:=⟨by have:=b0.size;omega,by have:=b0.size;have:=c4.size;omega⟩;have A:=aj.trans ad;refine ζs (A.heap' (T.heap' ba)) ϱ λeb b1 C d3=>?_;have a7:=(H.trans A).since C (λz u e=>by omega);have a8:∀{w':World},Xc Xe w w'->Ys w' a.c a.cp:=λhc=>by have:=h.conf.chg hc;rw[l.1,l.2.1];exact this
   have z8:=bl.size;have ltp:tb≠pb:=by have:=Xg bj;have:=c9.size;omega
   refine ζl (C.heap (ad.heap' ax) (by have:=bm.size;omega)) ϱ (ζs (C.heap (A.heap' (T.heap' cp)) (λe=>ltp e.symm)) ϱ λD K F d5=>?_);have P:=F.heap b1 ltp;have a9:=a7.since F (λz u e=>by omega);have i:=(ak.far (l.2.2 (λz=>z=tb) (λz e=>by omega) (h.out λz e=>by omega)) (a8 a7) C).far (l.2.2 (λz=>z=pb) (λz e=>by omega) (h.out λz e=>by omega)) (a8 a9) F;obtain⟨y1,y2,y3,y4⟩:=N0 r.c s (o:Nat) size;have E:a.c=r.c/\a.cp=r.cp:=⟨l.1,l.2.1⟩;have b2:Xc (λz=>z=tb\/z=pb) w8 D:=(((ai.trans ad).gr).trans (C.mono λ_ _ e=>.inl e)).trans (F.mono λ_ _ e=>.inr e);have W:Zl D q:=⟨al.ok.rd.far (λb' off s' e u=>by have:=al.fresh b' off s' e;omega) b2,al.ok.len⟩;have bc:q.pages.length<=4096:=by rw[show q.pages=(Zb r.c s (o:Nat) size).pages by rw[eQ];exact congrArg PlcM.pages ay];exact pf
   have ca:∀w',Xc Xe D w'->Xf prog 158 #[.agg (Zj a.c a.cp).toArray,.agg (Xv q).toArray] w' (Grow (.int .i64 (Zy a.c q)) w'):=λw' p=>Rr a.c a.cp q w' ((i.grow p).conf) (W.grow p) (by rw[E.1];exact M) (by omega);have am:0<=a.ra.steps/\a.ra.steps<=1152921504606846976:=by
    rw[i.rs,eS,<-hC.1];show 0<=Xx s.rm.tot _/\Xx s.rm.tot _<=_
    rw[Bl (by have:=hC.2;omega)];have:=hC.2;omega
   have ec:w7.heap.size<=D.heap.size:=by have:=A.size;have:=C.size;have:=F.size;omega
   have bd:∀b' off s',q.pa=some ⟨b',off,s'⟩->w7.heap.size<=b':=λb' off s' e=>al.fresh b' off s' e;refine ζd 13 Xe (by kernel_rfl) ϱ λG=>δl G P ϱ (δv G (λw' p=>(K1 (w:=w') (r:=a))) ϱ (δl G K ϱ (δl G P ϱ (δl G K ϱ (δv G (λw' p=>ca w' p) ϱ ?_)))));have cb:=G7 (c:=r.c) (q:=q) M bc;obtain⟨f,ehn⟩:=XD cb.1;have cc:Yi r.c q=true:=by rw[O0,show Xy q=Zb r.c s (o:Nat) size by rw[eQ];exact ay];exact pv
   rw[show Zy a.c q=((f:Nat):Int) by rw[E.1];exact ehn];have cd:∀w',Xc Xe D w'->Xf prog 96 #[.agg (Q9 a.c a.cp a.ra).toArray,.agg (Xv q).toArray,.int .i64 0,.int .i64 (f:Nat)] w' (λv N=>Xc Xe w' N/\∃x:RA,v=H3 a.c a.cp x/\Fd r.c D a.ra q 0 (Xz f) x N/\∀b,D.heap.size<=b->(b<w'.heap.size\/N.heap.size<=b)->Xj (λz=>z=b) x.a):=λw' p=>by
    have U:=Dl f;have an:a.ra.bs=s.bs:=by rw[i.rb,y3]
    have hh:=Uc a.c a.cp a.ra q 0 f w' ((i.grow p).conf) (W.grow p) (by rw[E.1];exact M) bc (by rw[E.1];exact Gm cc (by omega) (by omega) (by omega)) ((i.grow p).ra) (by rw[an,E.1];exact hs.bl) am;rw[E.1] at hh⊢;refine hh.mono λv N ⟨x,x1,x2,x3,x4,x5,x6⟩=>⟨x6,x,x1,⟨by rw[U];exact x2,by rw[U];exact x3,x4,?_,?_⟩,λb hb ed=>?_⟩
    ·exact x5.imp id (λ⟨g,off,e,hg⟩=>⟨g,off,e,by have:=p.size;omega⟩)
    ·exact λb' off' s' e=>x4.rd.block (by rw[x2,Gr,an];exact c3) e
    ·intro b' off' s' e u;have ee:=x4.rd.block (by rw[x2,Gr,an];exact c3) e;rcases x5 with e'|⟨g,off,e',hg⟩
     ·have:=i.la b' off' s' (e'▸e);omega
     ·rw[e'] at e;cases e;omega
   refine Xd.callAllocG (H3 a.c a.cp) (Fd r.c D a.ra q 0 (Xz f)) ((λx b=>Xj (λz=>z=b) x.a)) Xb G rfl rfl rfl (λ_=>rfl) rfl (λ_=>rfl) (λ_=>rfl) rfl rfl (λ_ _=>rfl) rfl (λ_ _=>rfl) (cd) (O2) ((λ_ h=>h.elim)) ?_;rintro nb x ef eg cg bt ⟨q1,q2,q3,q4,q5⟩ ch;refine Xd.turn1 G rfl λeh I=>Xp.store Xb G rfl (I.heap' cg) (by first|(intro h;exact rfl)|(intro h;omega)) rfl rfl rfl λci b4 a5 df=>δn G ϱ λcj Q=>?_;have ei:=I.size;have ao:=(bt.trans I).since a5 (λz u e=>by omega);have d:=ao.trans Q;have b5:Z0 ci x:=⟨((q3.grow I).rd).far ch a5,q3.len,q3.lc,q3.rng⟩;have b6:=Q.heap' b4;have b7:=d.heap' P;refine ζl b6 ϱ (ζs b7 ϱ λap R B dg=>?_);obtain⟨V,J⟩:∃V:SR,V={a with ra:=x}:=⟨_,rfl⟩;replace R:Zg ap tb V:=by rw[J];exact R
   have U:=Dl f;have aa:Xy q=Zb r.c s (o:Nat) size:=by rw[eQ];exact ay
   have dh:0<=X5 r.c q 0 f/\X5 r.c q 0 f<=50000000:=by
    have:=I2 (q:=q) (at':=0) (n:=f) M;omega
   have b8:x.steps=Xx (X9 r.c s (o:Nat) size).rm.tot (X5 r.c (Zb r.c s (o:Nat) size).plc 0 f):=by
    rw[q2,U,<-aa,<-Hf,i.rs,Bl (by have:=am;rw[i.rs] at this;omega)]
   have bu:X4 cj V (Zw r.c (X9 r.c s (o:Nat) size) (Zb r.c s (o:Nat) size) 0 (Xz f)):=by
    have h1:=i.putRa d (ra:=x) (bs:=Qw r.c (Zb r.c s (o:Nat) size).plc (X9 r.c s (o:Nat) size).bs 0 (Xz f) (Xz f).length) (t:=Xx (X9 r.c s (o:Nat) size).rm.tot (X5 r.c (Zb r.c s (o:Nat) size).plc 0 (Xz f).length)) (b5.grow Q) (by rw[q1,i.rb,<-aa,<-Jx]) (by rw[U];exact b8) (q5.grow ((I.gr.trans a5).size|> λh=>by have:=Q.size;omega));rw[J];exact h1
   have L:Zs w7 r V:=⟨by rw[J];exact l.1,by rw[J];exact l.2.1,λS hS aq=>by
    have ar:=l.2.2 S hS aq;rw[J];exact {ar with ra:=(ar.ra.newer q4 (λz u=>by have:=hS z u;omega))}⟩
   have ab:=(a9.trans d).since B (λz u e=>by omega);have au:=W.grow d;have bv:Zl ap q:=⟨au.rd.far (λb' off s' e u=>by have:=bd b' off s' e;omega) B,au.len⟩;refine ζl R ϱ (ζl (B.heap (d.heap' K) (λe=>ltp e.symm)) ϱ (ζb ϱ (ζc ϱ ((Oh (bu.far (L.2.2 (λz=>z=tb) (λz e=>by omega) (h.out λz e=>by omega)) (by have:=h.conf.chg ab;rw[L.1,L.2.1];exact this) B) (show(X9 r.c s (o:Nat) size).th.length<=4096 by rw[y1];exact Jj hs) o (show o<(X9 r.c s (o:Nat) size).th.length by rw[y1];exact ho) ⟨size,q⟩ (some ⟨size,Zb r.c s (o:Nat) size⟩) ⟨rfl,λy e=>by cases e;exact aa⟩ ⟨bv,((al.lt.grow b2.size).grow d.size).grow B.size⟩)) ?_)));rintro _ ej ⟨be,rfl,ck,⟨bw,bx,bz⟩,av⟩;refine ζa ϱ ?_;refine ζs (av.heap' (B.heap (d.heap' (F.heap (C.heap (A.heap' (T.heap' co)) (by have:=Xg ae;omega)) (by have:=Xg ae;omega))) (by have:=Xg ae;omega))) ϱ λek b9 aw dj=>?_;have lqb:=Xg ae;have ac:=(ab.trans av).since aw (λz u e=>by omega);have zu:w7.heap.size<=ap.heap.size:=by have:=d.size;have:=B.size;omega
   have bf:Zs N r be:=⟨bw.trans L.1,bx.trans L.2.1,λS hS aq=>bz S (λz u=>by have:=hS z u;omega) (L.2.2 S (λz u=>by have:=hS z u;omega) aq) (λb' off s' e u=>by have:=hS _ u;have:=bd b' off s' e;omega)⟩;have eL:Yv r.c s (o:Nat) size={Zw r.c (X9 r.c s (o:Nat) size) (Zb r.c s (o:Nat) size) 0 (Xz f) with th:=(X9 r.c s (o:Nat) size).th.set o (some ⟨size,Zb r.c s (o:Nat) size⟩)}:=by
    unfold Yv;rw[y1,XA,<-aa,<-Oz,ehn,XA]
   rw[eL];exact ζR func91 b9 ϱ ⟨be,rfl,h.box bf ck (by omega) (by omega) aw ac,bf.back bi.size,ac⟩
 ·obtain⟨m,O⟩:∃m,Ce r.c s size=some m:=Option.ne_none_iff_exists'.1 O;have eS:X9 r.c s (o:Nat) size=Y1 {s with mv:=s.mv.set (Xk r.c.classes size).toNat none,rm:=Qe s.rm (Xk r.c.classes size) m.pt m.ta (o:Nat)} 3:=by unfold X9;rw[O]
  have eQ:Zb r.c s (o:Nat) size=⟨Xk r.c.classes size,m.pt,m.ta,[]⟩:=by unfold Zb;rw[O]
  obtain⟨k,ct,hk,el,cz⟩:∃k:Nat,Xk r.c.classes size=k/\k<s.mv.length/\s.mv[k]?=some (some m)/\Zf s.rm (Xk r.c.classes size)=0:=by
   unfold Ce at O;cases hm:Xt s (Xk r.c.classes size) with
   |none=>rw[hm] at O;cases O
   |some m'=>
    rw[hm] at O;simp only at O
    split at O
    ·cases O
     obtain⟨k,e1,e2,e3⟩:=Qr hm;exact⟨k,e1,e2,e3,by assumption⟩
    ·cases O
  have bk:(Xt s (Xk r.c.classes size)).isSome=true:=by rw[ct,Cr el];rfl
  rw[bk];refine ζy ϱ (ζl af ϱ ?_);have cl:=Ub r.rr (Qa s.rm) (Xk r.c.classes size) w7 (h.grow H).rr;rw[show Zf (Qa s.rm) (Xk r.c.classes size)=Zf s.rm (Xk r.c.classes size) from rfl,cz] at cl;refine ζv cl ϱ λw7 c0=>?_;have af:=c0.heap' af;have T:=T.trans c0;have H:=H.trans c0;refine ζy ϱ ?_;have fb:k<r.ms.length:=by have:=h.mn;omega
  obtain⟨⟨_,hv⟩,a0,off,ema,dq⟩:=(h.grow H).mrow fb;obtain⟨_,v2,v3,v4,v5,_⟩:=hv m (Cr el);have fc:∀j v,([.int .i64 m.pf,.int .i64 m.fa,.int .i64 m.pt,.int .i64 m.ta]:List Value)[j]?=some v->w7.cell? ⟨a0,off+k*12+2+j,none⟩=some v:=λj v hv=>by
   have hj:j<4:=(List.getElem?_eq_some_iff.1 hv).1;rw[YL];refine dq (2+j) v ?_;rw[<-hv];obtain rfl|rfl|rfl|rfl:j=0\/j=1\/j=2\/j=3:=by omega
   all_goals rw[<-v2,<-v3,<-v4,<-v5];rfl
  rw[ct];refine ζl af ϱ ?_;rw[ema];refine ζi (k*12) ϱ (Xa.loadC Xb ([.int .i64 m.pf,.int .i64 m.fa,.int .i64 m.pt,.int .i64 m.ta]) rfl (by first|rfl|(simp;done)|(simp[*];done)|(simp;omega)) (fc) rfl (ζn ϱ λxb w8 e8 et bl g6=>ζs et ϱ λw9 ah fd e6=>?_));have bb:=bl.since fd (λz u e=>by omega);refine ζl (bb.heap' af) ϱ (ζl ah ϱ (ζl ah ϱ (ζc ϱ (Xk6 r.rr (Qa s.rm) (k:Nat) m.pt m.ta (o:Nat) w9 ((h.grow (H.trans bb)).rr) c8.mok ⟨ZO _,show(0:Int)<=4611686018427000000 by decide⟩) ?_)));rintro _ g7 ⟨c1,rfl,cu,cr,eu⟩;have fe:(Qe (Qa s.rm) (k:Nat) m.pt m.ta (o:Nat)).tot=0:=by unfold Qe;split <;> rfl
  have fi:=cu.st.trans fe;refine ζa ϱ (ζn ϱ λyb g8 g9 dr ew ft=>ζs dr ϱ λga ax az fu=>?_);refine ζl ax ϱ (ζj ϱ (ζs ax ϱ λem ds ex fv=>?_));have cm:=(ew.since az (λz u e=>by omega)).since ex (λz u e=>by omega);have bh:=eu.trans cm;have A:=bb.trans bh;have dt:=bh.heap' ah;have ff:∀w',Xc Xe em w'->Xf prog 156 #[.agg (Zv r).toArray,.int .i64 (k:Nat),.agg (Cf G8).toArray] w' (λv N=>Xc Xe w' N/\∃r',v=.agg (Zv r').toArray/\r'.rr=r.rr/\X4 N r' {s with mv:=s.mv.set k none}/\Zs em r r'):=λw' p=>
   (Rs (h.grow ((H.trans A).trans p)) dx k hk G8 none ⟨rfl,λ_ e=>by cases e⟩).mono λv N ⟨r',e,a1,a2,a3,a4⟩=>⟨a4,r',e,a1,a2,a3.back p.size⟩
  refine ζd 5 Xe (by kernel_rfl) ϱ λG=>δl G (A.heap' af) ϱ (Xd.build Xb G rfl rfl (δl G ds ϱ (Xd.callQ G rfl rfl (ff) ?_)));rintro _ gb ey ⟨fg,rfl,c7,ez,f0⟩;refine Xd.adv Xb G rfl (δn G ϱ λfh dk=>?_);have c2:=ey.trans dk;have du:Qc fh {c1 with steps:=c1.steps+3} {Qe (Qa s.rm) (k:Nat) m.pt m.ta (o:Nat) with tot:=3}:={cu.grow (cm.trans c2) with st:=by show c1.steps+3=3;omega};have dv:Ad w9 fg.rr {c1 with steps:=c1.steps+3}:=⟨by rw[c7];exact cr.1,by rw[c7];exact cr.2.1,λS hS ho=>by
   rw[c7] at ho;have:=cr.2.2 S hS ho;exact⟨this.o,this.f,this.sa,this.each,this.la,this.lgo⟩⟩
  refine ζc ϱ (Og (ez.grow dk) du dv ⟨show(0:Int)<=3 by decide,ht.1,by show s.rm.tot+3<=_;have:=ht.2;omega⟩) ?_;rintro _ d2 ⟨a,rfl,_,ak,l,ad⟩;refine ζa ϱ ?_;have e3:({s with mv:=s.mv.set k none,rm:={Qe (Qa s.rm) (k:Nat) m.pt m.ta (o:Nat) with tot:=Xx s.rm.tot 3}}:StM)=X9 r.c s (o:Nat) size:=by
   rw[eS,ct,XA,Xj9];rfl
  replace ak:X4 d2 a (X9 r.c s (o:Nat) size):=by rw[<-e3];exact ak
  have A:=(bb.trans (bh.trans c2)).trans ad;replace l:=(f0.back (by have:=bb.size;have:=bh.size;omega)).trans l bb.size;have e7:=Xg (T.heap' ba);have ea:N.heap.size<=pb/\N.heap.size<=tb:=⟨by have:=b0.size;omega,by have:=b0.size;have:=c4.size;omega⟩;refine ζs (A.heap' (T.heap' ba)) ϱ λeb b1 C d3=>?_;have a7:=(H.trans A).since C (λz u e=>by omega);have a8:∀{w':World},Xc Xe w w'->Ys w' a.c a.cp:=λhc=>by have:=h.conf.chg hc;rw[l.1,l.2.1];exact this
  have ltp:tb≠pb:=by have:=Xg bj;have:=c9.size;omega
  have lxt:xb≠tb:=by omega
  have cv:=C.heap (ad.heap' (c2.heap' dt)) lxt;refine ζl cv ϱ (ζl cv ϱ (ζb ϱ ?_));obtain⟨q,eq⟩:∃q:Plc,q=⟨(k:Nat),m.pt,m.ta,none,0,[]⟩:=⟨_,rfl⟩;have ay:Xy q=Zb r.c s (o:Nat) size:=by rw[eq,eQ,ct];rfl
  refine ζs (C.heap (A.heap' (T.heap' cp)) (λe=>ltp e.symm)) ϱ λD K F d5=>?_;replace K:D.heap[pb]?=some (.cells (Xv q).toArray 98 (0,0)):=by rw[eq];exact K
  have P:=F.heap b1 ltp;have a9:=a7.since F (λz u e=>by omega);have i:=(ak.far (l.2.2 (λz=>z=tb) (λz e=>by omega) (h.out λz e=>by omega)) (a8 a7) C).far (l.2.2 (λz=>z=pb) (λz e=>by omega) (h.out λz e=>by omega)) (a8 a9) F;obtain⟨y1,y2,y3,y4⟩:=N0 r.c s (o:Nat) size;have E:a.c=r.c/\a.cp=r.cp:=⟨l.1,l.2.1⟩;have W:Zl D q:=by rw[eq];exact Il _ _ _
  have dw:Yj D q.pa:=by rw[eq];exact λ_ _ _ e=>by cases e
  have bc:q.pages.length<=4096:=by rw[eq];exact XL _
  have ca:∀w',Xc Xe D w'->Xf prog 158 #[.agg (Zj a.c a.cp).toArray,.agg (Xv q).toArray] w' (Grow (.int .i64 (Zy a.c q)) w'):=λw' p=>Rr a.c a.cp q w' ((i.grow p).conf) (W.grow p) (by rw[E.1];exact M) (by omega);have am:0<=a.ra.steps/\a.ra.steps<=1152921504606846976:=by
   rw[i.rs,<-e3];show 0<=Xx s.rm.tot 3/\Xx s.rm.tot 3<=_
   rw[Bl (by omega)];omega
  have ec:w7.heap.size<=D.heap.size:=by have:=A.size;have:=C.size;have:=F.size;omega
  have bd:∀b' off s',q.pa=some ⟨b',off,s'⟩->w7.heap.size<=b':=by rw[eq];exact λ_ _ _ e=>by cases e
  have eQ:Zb r.c s (o:Nat) size=Zb r.c s (o:Nat) size:=rfl;refine ζd 13 Xe (by kernel_rfl) ϱ λG=>δl G P ϱ (δv G (λw' p=>(K1 (w:=w') (r:=a))) ϱ (δl G K ϱ (δl G P ϱ (δl G K ϱ (δv G (λw' p=>ca w' p) ϱ ?_)))));have cb:=G7 (c:=r.c) (q:=q) M bc;obtain⟨f,ehn⟩:=XD cb.1;have cc:Yi r.c q=true:=by rw[O0,show Xy q=Zb r.c s (o:Nat) size by rw[eQ];exact ay];exact pv
  rw[show Zy a.c q=((f:Nat):Int) by rw[E.1];exact ehn];have cd:∀w',Xc Xe D w'->Xf prog 96 #[.agg (Q9 a.c a.cp a.ra).toArray,.agg (Xv q).toArray,.int .i64 0,.int .i64 (f:Nat)] w' (λv N=>Xc Xe w' N/\∃x:RA,v=H3 a.c a.cp x/\Fd r.c D a.ra q 0 (Xz f) x N/\∀b,D.heap.size<=b->(b<w'.heap.size\/N.heap.size<=b)->Xj (λz=>z=b) x.a):=λw' p=>by
   have U:=Dl f;have an:a.ra.bs=s.bs:=by rw[i.rb,y3]
   have hh:=Uc a.c a.cp a.ra q 0 f w' ((i.grow p).conf) (W.grow p) (by rw[E.1];exact M) bc (by rw[E.1];exact Gm cc (by omega) (by omega) (by omega)) ((i.grow p).ra) (by rw[an,E.1];exact hs.bl) am;rw[E.1] at hh⊢;refine hh.mono λv N ⟨x,x1,x2,x3,x4,x5,x6⟩=>⟨x6,x,x1,⟨by rw[U];exact x2,by rw[U];exact x3,x4,?_,?_⟩,λb hb ed=>?_⟩
   ·exact x5.imp id (λ⟨g,off,e,hg⟩=>⟨g,off,e,by have:=p.size;omega⟩)
   ·exact λb' off' s' e=>x4.rd.block (by rw[x2,Gr,an];exact c3) e
   ·intro b' off' s' e u;have ee:=x4.rd.block (by rw[x2,Gr,an];exact c3) e;rcases x5 with e'|⟨g,off,e',hg⟩
    ·have:=i.la b' off' s' (e'▸e);omega
    ·rw[e'] at e;cases e;omega
  refine Xd.callAllocG (H3 a.c a.cp) (Fd r.c D a.ra q 0 (Xz f)) ((λx b=>Xj (λz=>z=b) x.a)) Xb G rfl rfl rfl (λ_=>rfl) rfl (λ_=>rfl) (λ_=>rfl) rfl rfl (λ_ _=>rfl) rfl (λ_ _=>rfl) (cd) (O2) ((λ_ h=>h.elim)) ?_;rintro nb x ef eg cg bt ⟨q1,q2,q3,q4,q5⟩ ch;refine Xd.turn1 G rfl λeh I=>Xp.store Xb G rfl (I.heap' cg) (by first|(intro h;exact rfl)|(intro h;omega)) rfl rfl rfl λci b4 a5 df=>δn G ϱ λcj Q=>?_;have ei:=I.size;have ao:=(bt.trans I).since a5 (λz u e=>by omega);have d:=ao.trans Q;have b5:Z0 ci x:=⟨((q3.grow I).rd).far ch a5,q3.len,q3.lc,q3.rng⟩;have b6:=Q.heap' b4;have b7:=d.heap' P;refine ζl b6 ϱ (ζs b7 ϱ λap R B dg=>?_);obtain⟨V,J⟩:∃V:SR,V={a with ra:=x}:=⟨_,rfl⟩;replace R:Zg ap tb V:=by rw[J];exact R
  have U:=Dl f;have aa:Xy q=Zb r.c s (o:Nat) size:=by rw[eQ];exact ay
  have dh:0<=X5 r.c q 0 f/\X5 r.c q 0 f<=50000000:=by
   have:=I2 (q:=q) (at':=0) (n:=f) M;omega
  have b8:x.steps=Xx (X9 r.c s (o:Nat) size).rm.tot (X5 r.c (Zb r.c s (o:Nat) size).plc 0 f):=by
   rw[q2,U,<-aa,<-Hf,i.rs,Bl (by have:=am;rw[i.rs] at this;omega)]
  have bu:X4 cj V (Zw r.c (X9 r.c s (o:Nat) size) (Zb r.c s (o:Nat) size) 0 (Xz f)):=by
   have h1:=i.putRa d (ra:=x) (bs:=Qw r.c (Zb r.c s (o:Nat) size).plc (X9 r.c s (o:Nat) size).bs 0 (Xz f) (Xz f).length) (t:=Xx (X9 r.c s (o:Nat) size).rm.tot (X5 r.c (Zb r.c s (o:Nat) size).plc 0 (Xz f).length)) (b5.grow Q) (by rw[q1,i.rb,<-aa,<-Jx]) (by rw[U];exact b8) (q5.grow ((I.gr.trans a5).size|> λh=>by have:=Q.size;omega));rw[J];exact h1
  have L:Zs w7 r V:=⟨by rw[J];exact l.1,by rw[J];exact l.2.1,λS hS aq=>by
   have ar:=l.2.2 S hS aq;rw[J];exact {ar with ra:=(ar.ra.newer q4 (λz u=>by have:=hS z u;omega))}⟩
  have ab:=(a9.trans d).since B (λz u e=>by omega);have au:=W.grow d;have bv:Zl ap q:=⟨au.rd.far (λb' off s' e u=>by have:=bd b' off s' e;omega) B,au.len⟩;refine ζl R ϱ (ζl (B.heap (d.heap' K) (λe=>ltp e.symm)) ϱ (ζb ϱ (ζc ϱ ((Oh (bu.far (L.2.2 (λz=>z=tb) (λz e=>by omega) (h.out λz e=>by omega)) (by have:=h.conf.chg ab;rw[L.1,L.2.1];exact this) B) (show(X9 r.c s (o:Nat) size).th.length<=4096 by rw[y1];exact Jj hs) o (show o<(X9 r.c s (o:Nat) size).th.length by rw[y1];exact ho) ⟨size,q⟩ (some ⟨size,Zb r.c s (o:Nat) size⟩) ⟨rfl,λy e=>by cases e;exact aa⟩ ⟨bv,(dw.grow d.size).grow B.size⟩)) ?_)));rintro _ ej ⟨be,rfl,ck,⟨bw,bx,bz⟩,av⟩;refine ζa ϱ ?_;refine ζs (av.heap' (B.heap (d.heap' (F.heap (C.heap (A.heap' (T.heap' co)) (by have:=Xg ae;omega)) (by have:=Xg ae;omega))) (by have:=Xg ae;omega))) ϱ λek b9 aw dj=>?_;have lqb:=Xg ae;have ac:=(ab.trans av).since aw (λz u e=>by omega);have zu:w7.heap.size<=ap.heap.size:=by have:=d.size;have:=B.size;omega
  have bf:Zs N r be:=⟨bw.trans L.1,bx.trans L.2.1,λS hS aq=>bz S (λz u=>by have:=hS z u;omega) (L.2.2 S (λz u=>by have:=hS z u;omega) aq) (λb' off s' e u=>by have:=hS _ u;have:=bd b' off s' e;omega)⟩;have eL:Yv r.c s (o:Nat) size={Zw r.c (X9 r.c s (o:Nat) size) (Zb r.c s (o:Nat) size) 0 (Xz f) with th:=(X9 r.c s (o:Nat) size).th.set o (some ⟨size,Zb r.c s (o:Nat) size⟩)}:=by
   unfold Yv;rw[y1,XA,<-aa,<-Oz,ehn,XA]
  rw[eL];exact ζR func91 b9 ϱ ⟨be,rfl,h.box bf ck (by omega) (by omega) aw ac,bf.back bi.size,ac⟩
theorem Xlb(h:X4 w r s)(hs:s.Ok r.c)(o size:Int)(ht:0<=s.rm.tot/\s.rm.tot<=999999000000):Xf prog 40 #[.agg (Zv r).toArray,.int .i64 o,.int .i64 size] w
 (λv w'=>∃r',v=.tuple #[.agg (Zv r').toArray,.int .i64 (Bh r.c s o size)]/\Cw w r (Q8 r.c s o size) r' w'):=by
 refine ζe func40 ntmps40 ϱ (ζn ϱ λb U e1 M I S=>ζn ϱ λqb V e2 B C T=>?_);have D:=C.heap' M;have d:=I.trans C;have lq:=Xg B;refine ζl D ϱ (ζv (Ue (h.grow d) hs o) ϱ λW i=>?_);have k:=i.heap' D;have f:=i.heap' B;have a:=d.trans i;by_cases x:Yl s o=1
 ·have e:Bh r.c s o size=1:=by unfold Bh;rw[if_pos x]
  have eS:Q8 r.c s o size=s:=by unfold Q8;rw[if_neg (by rw[e];decide)]
  rw[e,eS];refine ζy ϱ ?_;exact ζl k ϱ (ζs f ϱ λwr n p J=>ζR func40 n ϱ ⟨r,rfl,.self h (a.since p (λz G e=>by omega))⟩)
 ·by_cases H:Yl s o=0
  ·have e:Bh r.c s o size=10:=by unfold Bh;rw[if_neg x,if_pos H]
   have eS:Q8 r.c s o size=s:=by unfold Q8;rw[if_neg (by rw[e];decide)]
   rw[e,eS];refine ζf ϱ (ζy ϱ ?_);exact ζl k ϱ (ζs f ϱ λwr n p J=>ζR func40 n ϱ ⟨r,rfl,.self h (a.since p (λz G e=>by omega))⟩)
  ·have e:Bh r.c s o size=Qg r.c s size:=by unfold Bh;rw[if_neg x,if_neg H]
   obtain⟨j,rfl,N,O⟩:=Xa0 x H;refine ζf ϱ (ζf ϱ (ζl k ϱ (ζv (Ud (h.grow a) hs size) ϱ λw4 l=>?_)));have q:=l.heap' k;have t:=l.heap' f;have c:=a.trans l;by_cases gf:Qg r.c s size=0
   ·have eS:Q8 r.c s (j:Nat) size=Yv r.c s (j:Nat) size:=by unfold Q8;rw[if_pos (e.trans gf)]
    rw[e,eS,gf];refine ζf ϱ (ζl q ϱ (ζc ϱ (XfH (h.grow c) hs N gf (StM.OkP.lay hs O gf (λ_ _ e=>by cases e)) ht) ?_));rintro _ P ⟨Q,rfl,y⟩;refine ζa ϱ ?_;refine ζs (y.2.2.heap' t) ϱ λR g m K=>?_;have u:=(c.trans y.2.2).since m (λz G e=>by omega);have E:=y.2.1.back ((i.trans l).size);exact ζR func40 g ϱ ⟨Q,rfl,h.box E y.1 (by omega) (by omega) m u,E.back d.size,u⟩
   ·have eS:Q8 r.c s (j:Nat) size=s:=by unfold Q8;rw[if_neg (by rw[e];exact gf)]
    rw[e,eS];exact ζY ϱ (by simpa using gf) (ζd 4 Xe (by kernel_rfl) ϱ λA=>δl A q ϱ (δl A q ϱ (δv A (λw' L=>Ud (h.grow (c.trans L)) hs size) ϱ (δn A ϱ λP F=>ζs (F.heap' t) ϱ λR g m K=>ζR func40 g ϱ ⟨r,rfl,.self h ((c.trans F).since m (λz G e=>by omega))⟩))))
abbrev Xgo(x:SR):Value:=.agg (Zv x).toArray
theorem Vb(hs:s.Ok c)(κ:Int)(ht:0<=s.rm.tot/\s.rm.tot<=1000000000000):0<=(X7 s κ).rm.tot/\(X7 s κ).rm.tot<=s.rm.tot+20000:=by
 unfold X7;cases a:Xt s κ with
 |none=>exact⟨ht.1,by show s.rm.tot<=_;omega⟩
 |some m=>exact Xce hs _ _ ht
theorem X4.trowP(h:X4 w r s){t:ThM}(ht:s.th[j]?=some (some t)):∃(hj:j<r.ts.length),(r.ts[j].size=t.size/\Xy r.ts[j].q=t.q)/\Zl w r.ts[j].q/\Yj w r.ts[j].q.pa/\∃b off,r.ta=some ⟨b,off,none⟩/\(∀v,(C6 r.ts[j])[0]?=some v->w.cell? ⟨b,off+j*5,none⟩=some v)/\(∀v,(C6 r.ts[j])[1]?=some v->w.cell? ⟨b,off+j*5+1,none⟩=some v)/\∀i v,(Xv r.ts[j].q)[i]?=some v->w.cell? ⟨b,off+j*5+1+i,none⟩=some v:=by
 have hj:j<r.ts.length:=by rw[h.tn];exact(List.getElem?_eq_some_iff.1 ht).1
 obtain⟨⟨d,f⟩,b,off,e,c⟩:=h.trow hj;obtain⟨g,k⟩:=h.tq _ (XK hj);refine⟨hj,⟨by rw[d,G6 ht];rfl,f t (G6 ht)⟩,g,k,b,off,e,λv a=>c 0 v a,λv a=>c 1 v a,λi v a=>?_⟩;rw[YL];exact c (1+i) v (by rw[<-a,Nat.add_comm];rfl)
theorem Xlf(h:X4 w r s)(hs:s.Ok r.c)(o:Int)(ht:0<=s.rm.tot/\s.rm.tot<=999999000000):Xf prog 41 #[.agg (Zv r).toArray,.int .i64 o] w
 (λv w'=>∃r',v=.tuple #[.agg (Zv r').toArray,.int .i64 (Yl s o)]/\Cw w r (Bq r.c s o) r' w'):=by
 refine ζe func41 ntmps41 ϱ (ζn ϱ λb w1 e1 hb ae be=>ζn ϱ λqb f e2 Q R bf=>?_);have T:=R.heap' hb;have m:=ae.trans R;have lq:=Xg Q;refine ζl T ϱ (ζv (Ue (h.grow m) hs o) ϱ λL c=>?_);have y:=c.heap' T;have A:=c.heap' Q;have g:=m.trans c;by_cases B:Yl s o=0
 ·obtain⟨j,t,rfl,C⟩:=Hs B;obtain⟨t',f1,f2,f3,f4,f5⟩:=Kq hs C;have F:=Jt hs t.q.cls;have eS:Bq r.c s (j:Nat)=Au r.c {X7 s t.q.cls with th:=(X7 s t.q.cls).th.set j none} t'.q:=by
   unfold Bq;rw[if_neg (λe=>e B),Yq C,Yq f1,XA]
  have h3:=h.grow g;obtain⟨bg,⟨_,v2⟩,_,_,a0,off,eta,_,af,_⟩:=h3.trowP C;rw[eS,B];refine ζf ϱ (ζd 10 Xe (by kernel_rfl) ϱ λa=>δl a y ϱ (δl a y ϱ ?_));rw[eta];refine δi (j*5) a ϱ (δk a (af _ rfl) ϱ ?_);rw[show r.ts[j].q.cls=t.q.cls from congrArg PlcM.cls v2,<-eta];have hd:∀w',Xc Xe L w'->Xf prog 92 #[.agg (Zv r).toArray,.int .i64 t.q.cls] w' (λv f=>Xc Xe w' f/\∃x,v=Xgo x/\Or L r (X7 s t.q.cls) x f/\∀b,L.heap.size<=b->(b<w'.heap.size\/f.heap.size<=b)->Uy x b):=λw' d=>
   (XfF (h3.grow d) hs t.q.cls ⟨ht.1,by omega⟩).mono λv f ⟨x,a1,M,a3,N⟩=>⟨N,x,a1,⟨M,a3.back d.size,d.trans N⟩,XbP h3 M a3⟩
  refine Xd.callAllocG (Xgo) (Or L r (X7 s t.q.cls)) (Uy) Xb a rfl rfl rfl (λ_=>rfl) rfl (λ_=>rfl) (λ_=>rfl) rfl rfl (λ_ _=>rfl) rfl (λ_ _=>rfl) (hd) (Xgp) ((λ_ h=>h.elim)) ?_;rintro nb x w4 bh ah ai ⟨q1,O,q3⟩ hG;refine δn a ϱ λw5 D=>ζs (D.heap' ah) ϱ λw7 E U bi=>?_;have i:=(ai.trans D).since U (λz G e=>by omega);have H:=g.trans i;have V:=(q1.grow D).far hG (by have:=h.conf.chg (g.trans i);rw[O.1,O.2.1];exact this) U;obtain⟨bj,⟨_,y2⟩,p1,p2,b0,b7,a9,_,_,W⟩:=V.trowP f1;obtain⟨q,eq⟩:∃q:Plc,q=x.ts[j].q:=⟨_,rfl⟩;rw[<-eq] at y2 p1 p2 W;refine ζl E ϱ ?_;rw[a9];refine ζi (j*5) ϱ (Xa.loadC Xb ((Xv q)) rfl (by first|rfl|(simp;done)|(simp[*];done)|(simp;omega)) (W) rfl (ζn ϱ λpb w8 e8 aa ak bk=>ζs aa ϱ λw9 ab am bl=>?_));have k:=ak.since am (λz G e=>by omega);have an:∀w',Xc Xe w9 w'->Xf prog 94 #[.agg (Zv x).toArray,.int .i64 (j:Nat),.agg (C6 Iv).toArray] w' (λv f=>Xc Xe w' f/\∃r',v=.agg (Zv r').toArray/\X4 f r' {X7 s t.q.cls with th:=(X7 s t.q.cls).th.set j none}/\Zs w9 x r'):=λw' d=>
   (Oh ((V.grow k).grow d) (Jj F.ok) j ((List.getElem?_eq_some_iff.1 f1).1) Iv none ⟨rfl,λ_ e=>by cases e⟩ ⟨Il _ _ _,λ_ _ _ e=>by cases e⟩).mono λv f ⟨r',a1,M,⟨b1,b2,b3⟩,N⟩=>⟨N,r',a1,M,b1,b2,λS hS ho=>b3 S (λz G=>by have:=hS z G;have:=d.size;omega) ho (λ_ _ _ e=>by cases e)⟩
  refine ζd 5 Xe (by kernel_rfl) ϱ λa=>δl a (k.heap' E) ϱ (Xd.build Xb a rfl rfl (δl a ab ϱ (Xd.callQ a rfl rfl (an) ?_)));rintro _ bm ac ⟨ao,rfl,ad,I⟩;refine Xd.adv Xb a rfl (δn a ϱ λbn J=>?_);have l:=ac.trans J;have ec:=I.1.trans O.1;have ap:=Vb hs t.q.cls ⟨ht.1,by omega⟩;have aq:StM.OkP ao.c {X7 s t.q.cls with th:=(X7 s t.q.cls).th.set j none} (some (j,Xy q)):=by rw[ec,y2];exact F.ok.away f1 f5
  refine ζc ϱ (XfG (ad.grow J) q aq ((p1.grow k).grow l) ⟨ap.1,by show(X7 s t.q.cls).rm.tot<=_;omega⟩) ?_;rintro _ bo ⟨ar,rfl,n⟩;refine ζa ϱ ?_;rw[ec,y2] at n;have p:=(k.trans l).trans n.2.2;have z7:=H.size;have bp:=i.size;refine ζs (p.heap' (i.heap' A)) ϱ λbq P K bd=>?_;have u:=(H.trans p).since K (λz G e=>by have:=c.size;omega);have a5:=(O.back c.size).trans (I.trans n.2.1 l.size) (by have:=c.size;omega);exact ζR func41 P ϱ ⟨ar,rfl,h.box a5 n.1 (by omega) (by have:=c.size;omega) K u,a5.back m.size,u⟩
 ·have eS:Bq r.c s o=s:=by unfold Bq;rw[if_pos B]
  rw[eS];refine ζY ϱ (by simpa using B) ?_;exact ζl y ϱ (ζs A ϱ λwr au av br=>ζR func41 au ϱ ⟨r,rfl,.self h (g.since av (λz G e=>by omega))⟩)
theorem Xl.rd8(h:Xl base 5 1 w v n (l.map (Value.int .u8)))(hn:l.length=n):∃a cap,v=.slice a n cap/\Rd .u8 w a l/\∀b off s,a=some ⟨b,off,s⟩->base<=b/\b<w.heap.size:=by
 rcases h.2 with⟨rfl,f⟩|⟨g,cap,cur,rfl,i,d,j,k,_,c⟩
 ·subst f;have:l=[]:=List.length_eq_zero_iff.1 hn;subst this;exact⟨none,0,rfl,Rd.nil _ _ _,(by intro b off s e;cases e)⟩
 ·exact⟨_,cap,rfl,Rd.of_take d (by rw[hn];rw[ZK] at c;exact c),(by intro b off s e;cases e;exact⟨i,Xg d⟩)⟩
abbrev T7(c:Conf)(p:Yu)(ra:RA)(n:Nat)(x:Option Addr×Nat):Value:=.tuple #[.agg (Q9 c p ra).toArray,.slice x.1 n x.2,.int .i64 0]
abbrev Od(l:List Int)(base:Nat)(x:Option Addr×Nat)(w2:World):Prop:=Rd .u8 w2 x.1 l/\∀b off s,x.1=some ⟨b,off,s⟩->base<=b/\b<w2.heap.size
theorem Xfl:∀x w2 w3,Od l base x w2->Xc Xe w2 w3->Od l base x w3:=λ_ _ _ ⟨a,b⟩ c=>⟨a.chg c,λb' off s e=>⟨(b b' off s e).1,by have:=(b b' off s e).2;have:=c.size;omega⟩⟩
theorem Xlh(h:X4 w r s)(hs:s.Ok r.c)(o i n:Int)(hi : -9223372036854775808<=i/\i<=9223372036854775807)(hn : -9223372036854775808<=n/\n<=9223372036854775807)(ht:0<=s.rm.tot/\s.rm.tot<=999999000000):Xf prog 43 #[.agg (Zv r).toArray,.int .i64 o,.int .i64 i,.int .i64 n] w
 (λv w'=>∃r' a cap,v=.tuple #[.agg (Zv r').toArray,.slice a (Di r.c s o i n).length cap,.int .i64 (Qp s o i n)]/\Rd .u8 w' a (Di r.c s o i n)/\(∀b off s',a=some ⟨b,off,s'⟩->w.heap.size<=b/\b<w'.heap.size)/\Cw w r (Br r.c s o i n) r' w'):=by
 have l:=hs.may;refine ζe func43 ntmps43 ϱ (ζn ϱ λb w1 e1 hb a9 ay=>ζn ϱ λqb F e2 aa P az=>?_);have Q:=P.heap' hb;have G:=a9.trans P;refine ζl Q ϱ (ζv (XfI (h.grow G) hs o i n hi hn) ϱ λH y=>?_);have g:=y.heap' Q;have m:=y.heap' aa;have c:=G.trans y;have z3:=y.size;by_cases p:Qp s o i n=0
 ·obtain⟨j,t,i',n',rfl,A,rfl,rfl,h5,ab,ac⟩:=Vg hs p;have W:=h.grow c;obtain⟨b0,⟨_,I⟩,p1,p2,a0,off,eta,_,_,R⟩:=W.trowP A;obtain⟨q,eq⟩:∃q:Plc,q=r.ts[j].q:=⟨_,rfl⟩;rw[<-eq] at I p1 p2 R;have ae:q.pages.length<=4096:=by have e:q.pages=t.q.pages:=congrArg PlcM.pages I;rw[e];exact ac
  have a1:Qu r.c q i' n'=0:=by rw[W8,I];exact ab
  have eR:Br r.c s (j:Nat) (i':Nat) (n':Nat)=Y1 s (X5 r.c t.q.plc i' n'):=by unfold Br;rw[if_pos p,Yq A,XA,XA]
  have eB:Di r.c s (j:Nat) (i':Nat) (n':Nat)=Yr r.c q s.bs i' n':=by unfold Di;rw[if_pos p,Yq A,XA,XA,Xcd r.c q,I]
  obtain⟨ra',era⟩:∃ra':RA,ra'={r.ra with steps:=r.ra.steps+X5 r.c q i' n'}:=⟨_,rfl⟩;have af:(r.ra.bs.length:Int)=r.c.size*r.c.pages:=by rw[h.rb];exact hs.bl
  have J:(Yr r.c q s.bs i' n').length=n':=by unfold Yr;simp
  rw[eR,eB,p];refine ζf ϱ ?_;rw[J];have T:=h.rs;have b1:=I2 (q:=q) (at':=i') (n:=n') l;have b2:=(hs.size j t A).2;have b3:=(Yp l).most;have hd:∀w',Xc Xe H w'->Xf prog 99 #[.agg (Q9 r.c r.cp r.ra).toArray,.agg (Xv q).toArray,.int .i64 (i':Nat),.int .i64 (n':Nat)] w' (λv F=>Xc Xe w' F/\∃x,v=T7 r.c r.cp ra' n' x/\Od (Yr r.c q s.bs i' n') H.heap.size x F/\∀b,H.heap.size<=b->(b<w'.heap.size\/F.heap.size<=b)->Xj (λz=>z=b) x.1):=λw' k=>
   (XfB r.c r.cp r.ra q i' n' w' ((W.grow k).conf) (p1.grow k) l ae a1 ((W.grow k).ra) af (by rw[T];omega)).mono λv F ⟨u1,x1,x2,x3⟩=>by
    rw[h.rb] at x2;obtain⟨a,cap,rfl,y1,y2⟩:=x2.rd8 J;have:=c.size;have:=k.size;exact⟨x3,(a,cap),by rw[x1,era],⟨y1,λb off s' e=>⟨by have:=(y2 b off s' e).1;omega,(y2 b off s' e).2⟩⟩,λb hb b4 b' off s' e K=>by have:=y2 b' off s' e;omega⟩
  refine ζd 18 Xe (by kernel_rfl) ϱ λf=>δl f g ϱ (δv f (λw' k=>(K1 (w:=w') (r:=r))) ϱ (δl f g ϱ ?_));rw[eta];refine δi (j*5) f ϱ (Xd.loadC Xb f ((Xv q)) rfl (by first|rfl|(simp;done)|(simp[*];done)|(simp;omega)) (R) (by first|exact λh=>h|(intro h;omega)|assumption) rfl (Xd.callAllocG (T7 r.c r.cp ra' n') (Od (Yr r.c q s.bs i' n') H.heap.size) ((λx b=>Xj (λz=>z=b) x.1)) Xb f rfl rfl rfl (λ_=>rfl) rfl (λ_=>rfl) (λ_=>rfl) rfl rfl (λ_ _=>rfl) rfl (λ_ _=>rfl) (hd) (Xfl) ((λ_ h=>h.elim)) ?_));rintro nb x w4 b5 ah ai ⟨q1,q2⟩ hG;refine Xd.turn1 f rfl λw5 B=>Xp.store Xb f rfl (B.heap' ah) (by first|(intro h;exact rfl)|(intro h;omega)) rfl rfl rfl λw6 a4 L b6=>δn f ϱ λw7 C=>?_;have u:=((ai.trans B).since L (λz K e=>by omega)).trans C;refine ζl (C.heap' a4) ϱ (ζs (u.heap' g) ϱ λw8 D E b7=>?_);obtain⟨M,N⟩:∃M:SR,M={r with ra:=ra'}:=⟨_,rfl⟩;replace D:Zg w8 b M:=by rw[N];rw[era] at D⊢;exact D
  refine ζl D ϱ (ζs (E.heap (u.heap' m) (by omega)) ϱ λw9 a5 O b8=>?_);have d:=((c.trans u).since E (λz K e=>by omega)).since O (λz K e=>by omega);have U:∀b',b'<H.heap.size->Xj (λz=>z=b') x.1:=λb' h2 b'' off' s' e K=>by
   have:=(q2 b'' off' s' e).1;omega
  have a6:Z0 w9 ra':=by rw[era];exact⟨(h.ra.grow d).rd,h.ra.len,h.ra.lc,h.ra.rng⟩
  have V:=h.putRa d (ra:=ra') (bs:=s.bs) (t:=Xx s.rm.tot (X5 r.c t.q.plc i' n')) a6 (by rw[era];exact h.rb) (by rw[era,<-I,<-Hf];show r.ra.steps+_=_;rw[T,Bl (by omega)]) (by rw[era];exact h.la.grow d.size);rw[<-N] at V;have hk:Zs w r M:=by rw[N,era];exact⟨rfl,rfl,λS hS ho=>{ho with ra:=ho.ra}⟩
  have b9:=d.size;exact ζq rfl func43 (Xm.cell rfl rfl rfl a5 rfl (.tmp rfl (.tmp rfl .nil))) ⟨M,x.1,x.2,rfl,(((((q1.chg B).far hG L).chg C).far (U b (Xg g)) E).far (U qb (Xg m)) O),λb' off' s' e=>⟨by have:=(q2 b' off' s' e).1;have:=c.size;omega,by have:=(q2 b' off' s' e).2;have:=B.size;have:=L.size;have:=C.size;have:=E.size;have:=O.size;omega⟩,V,hk,d⟩
 ·have eR:Br r.c s o i n=s:=by unfold Br;rw[if_neg p]
  have eB:Di r.c s o i n=[]:=by unfold Di;rw[if_neg p]
  rw[eR,eB];exact ζY ϱ (by simpa using p) (ζl g ϱ (ζs m ϱ λw4 a7 ak ba=>ζR func43 a7 ϱ ⟨r,none,0,rfl,Rd.nil _ _ _,(by intro b off s e;cases e),.self h (c.since ak (λz K e=>by omega))⟩))
theorem Xcy{r x:RA}(hal:Yj w r.a)(hpos:0<r.bs.length)(hw':Xc Xe w w')(x2:x.bs=Qw c q r.bs i l l.length)(x3:x.steps=r.steps+X5 c q i l.length)(x4:Z0 w2 x)(x5:E1 w' r.a x.a):Fd c w r q i l x w2/\∀b,w.heap.size<=b->(b<w'.heap.size\/w2.heap.size<=b)->Xj (λz=>z=b) x.a:=by
 have a:0<x.bs.length:=by rw[x2,Gr];exact hpos
 refine⟨⟨x2,x3,x4,?_,λb' off' s' e=>x4.rd.block a e⟩,λb j f b' off' s' e k=>?_⟩
 ·exact x5.imp id (λ⟨g,off,e,d⟩=>⟨g,off,e,by have:=hw'.size;omega⟩)
 ·have h:=x4.rd.block a e;rcases x5 with e'|⟨g,off,e',d⟩
  ·have:=hal b' off' s' (e'▸e);omega
  ·rw[e'] at e;cases e;omega
theorem Xd7(h:s.OkP c pd){t:ThM}(ht:s.th[o]?=some (some t))(hm:Xt s t.q.cls=some m):t.size<=m.size:=by
 obtain⟨k,ek,_,a⟩:=Qr hm;exact Pr h a ht ek
theorem Ww(h:s.OkP c pd):0<s.bs.length:=by
 have a:=Yp h.may;have b:1*64<=c.pages*c.size:=ZH (by have:=a.pages;omega) (by have:=a.size;omega) (by omega) (by have:=a.pages;omega);rw[YG c.pages] at b;rw[<-h.bl] at b;omega
theorem Xll(h:X4 w r s)(hs:s.Ok r.c)(o i:Int)(a:Option Addr)(cap:Nat)(l:List Int)(hi : -9223372036854775808<=i/\i<=9223372036854775807)(hr:Rd .u8 w a l)(hl:l.length<=9223372036854775807)(hin:Qn l)(ht:0<=s.rm.tot/\s.rm.tot<=999900000000):Xf prog 44 #[.agg (Zv r).toArray,.int .i64 o,.int .i64 i,.slice a l.length cap] w
 (λv w'=>∃r',v=.tuple #[.agg (Zv r').toArray,.int .i64 (Qp s o i l.length)]/\Cw w r (Cc r.c s o i l) r' w'):=by
 have A:=hs.may;have aj:=Ww hs;refine ζe func44 ntmps44 ϱ (ζn ϱ λb w1 e1 hb ak bo=>ζn ϱ λqb L e2 a4 a5 bp=>?_);have a6:=a5.heap' hb;have B:=ak.trans a5;have lq:=Xg a4;refine ζl a6 ϱ (ζv (XfI (h.grow B) hs o i l.length hi (by omega)) ϱ λI C=>?_);have u:=C.heap' a6;have M:=C.heap' a4;have d:=B.trans C;have z3:=C.size;by_cases N:Qp s o i l.length=0
 ·obtain⟨j,t,i',n',rfl,y,rfl,en,h5,al,am⟩:=Vg hs N;obtain rfl:l.length=n':=by omega
  have U:=h.grow d;obtain⟨bq,⟨_,J⟩,p1,p2,a0,off,eta,_,_,a7⟩:=U.trowP y;obtain⟨q,eq⟩:∃q:Plc,q=r.ts[j].q:=⟨_,rfl⟩;rw[<-eq] at J p1 p2 a7;have ao:q.pages.length<=4096:=by have e:q.pages=t.q.pages:=congrArg PlcM.pages J;rw[e];exact am
  have ab:Qu r.c q i' l.length=0:=by rw[W8,J];exact al
  have eW:Cc r.c s (j:Nat) (i':Nat) l=Qt (Zw r.c s t.q i' l) (j:Nat) i' l.length:=by unfold Cc;rw[if_pos N,Yq y,XA]
  have ap:(r.ra.bs.length:Int)=r.c.size*r.c.pages:=by rw[h.rb];exact hs.bl
  have O:=h.rs;have aq:=I2 (q:=q) (at':=i') (n:=l.length) A;have b6:0<=X5 r.c t.q.plc i' l.length/\X5 r.c t.q.plc i' l.length<=2*l.length+1:=by have:=aq;rw[Hf,J] at this;exact this
  have br:=(hs.size j t y).2;have bt:=(Yp A).most;have a8:Xx s.rm.tot (X5 r.c t.q.plc i' l.length)=s.rm.tot+X5 r.c t.q.plc i' l.length:=Bl (by omega);rw[eW,N];refine ζf ϱ ?_;have hd:∀w',Xc Xe I w'->Xf prog 100 #[.agg (Q9 r.c r.cp r.ra).toArray,.agg (Xv q).toArray,.int .i64 (i':Nat),.slice a l.length cap] w' (λv L=>Xc Xe w' L/\∃x,v=H3 r.c r.cp x/\Fd r.c I r.ra q i' l x L/\∀b,I.heap.size<=b->(b<w'.heap.size\/L.heap.size<=b)->Xj (λz=>z=b) x.a):=λw' c=>
   (Xbt r.c r.cp r.ra q i' a cap l w' ((U.grow c).conf) (p1.grow c) A ao ab ((U.grow c).ra) ap (by rw[O];omega) (hr.chg (d.trans c)) hin).mono λv L ⟨x,x1,x2,x3,x4,x5,x6⟩=>
    ⟨x6,x,x1,Xcy U.la (by rw[h.rb];exact aj) c x2 x3 x4 x5⟩
  refine ζd 16 Xe (by kernel_rfl) ϱ λf=>δl f u ϱ (δv f (λw' c=>(K1 (w:=w') (r:=r))) ϱ (δl f u ϱ ?_));rw[eta];refine δi (j*5) f ϱ (Xd.loadC Xb f ((Xv q)) rfl (by first|rfl|(simp;done)|(simp[*];done)|(simp;omega)) (a7) (by first|exact λh=>h|(intro h;omega)|assumption) rfl (Xd.callAllocG (H3 r.c r.cp) (Fd r.c I r.ra q i' l) ((λx b=>Xj (λz=>z=b) x.a)) Xb f rfl rfl rfl (λ_=>rfl) rfl (λ_=>rfl) (λ_=>rfl) rfl rfl (λ_ _=>rfl) rfl (λ_ _=>rfl) (hd) (O2) ((λ_ h=>h.elim)) ?_));rintro nb x w4 bu ar au ⟨q1,q2,V,q4,q5⟩ hG;refine Xd.turn1 f rfl λw5 D=>Xp.store Xb f rfl (D.heap' ar) (by first|(intro h;exact rfl)|(intro h;omega)) rfl rfl rfl λw6 ac P bv=>δn f ϱ λw7 E=>?_;have ad:=(au.trans D).since P (λz W e=>by omega);have k:=ad.trans E;have ae:=d.trans k;have z7:=k.size;have p:Z0 w6 x:=⟨((V.grow D).rd).far hG P,V.len,V.lc,V.rng⟩;have af:=(q5.grow D.size).grow P.size;have ag:=E.heap' ac;have aw:=k.heap' u;refine ζl ag ϱ (ζs aw ϱ λw8 Q F bw=>?_);obtain⟨K,G⟩:∃K:SR,K={r with ra:=x}:=⟨_,rfl⟩;replace Q:Zg w8 b K:=by rw[G];exact Q
  have R:=ae.since F (λz W e=>by omega);have a1:∀b',w.heap.size<=b'->b'<I.heap.size->Xj (λz=>z=b') x.a:=λb' h1 h2 b'' off' s' e W=>by
   rcases q4 with e'|⟨g,off,e',hg⟩
   ·have:=h.la b'' off' s' (e'▸e);omega
   ·rw[e'] at e;cases e;omega
  have ah:Z0 w8 x:=⟨((p.grow E).rd).far (a1 b (by omega) (Xg u)) F,p.len,p.lc,p.rng⟩;have a9:=h.putRa R (ra:=x) (bs:=Qw r.c t.q.plc s.bs i' l l.length) (t:=Xx s.rm.tot (X5 r.c t.q.plc i' l.length)) ah (by rw[q1,h.rb,<-J,<-Jx]) (by rw[q2,O,<-J,<-Hf,Bl (by omega)]) ((af.grow E.size).grow F.size);rw[<-G] at a9;have ay:K.c=r.c:=by rw[G]
  have az:Zs I r K:=by
   rw[G];exact⟨rfl,rfl,λS hS ho=>{ho with ra:=ho.ra.newer q4 hS}⟩
  have b1:(Zw r.c s t.q i' l).OkP K.c none:=by rw[ay];exact StM.OkP.put hs _ _ hin
  refine ζl Q ϱ (ζc ϱ (XfJ a9 b1 j (show(Zw r.c s t.q i' l).th[j]?=some (some t) from y) i' l.length (λm hm=>by have:=Xd7 hs y (show Xt s t.q.cls=some m from hm);omega) ⟨by show 0<=Xx s.rm.tot _;rw[a8];omega,by show Xx s.rm.tot _<=_;rw[a8];omega⟩) ?_);rintro _ w9 ⟨r9,rfl,h9⟩;refine ζa ϱ ?_;refine ζs (h9.2.2.heap' (F.heap (k.heap' M) (by omega))) ϱ λbx a3 T bn=>?_;have H:=(R.trans h9.2.2).since T (λz W e=>by omega);have aa:=(az.back z3).trans h9.2.1 (by omega);exact ζR func44 a3 ϱ ⟨r9,rfl,h.box aa h9.1 (by omega) (by omega) T H,aa.back B.size,H⟩
 ·have eW:Cc r.c s o i l=s:=by unfold Cc;rw[if_neg N]
  rw[eW];exact ζY ϱ (by simpa using N) (ζl u ϱ (ζs M ϱ λw4 ai b2 bz=>ζR func44 ai ϱ ⟨r,rfl,.self h (d.since b2 (λz W e=>by omega))⟩))
section
variable {c:Conf}{s:StM}{pd:Option (Nat×PlcM)}
theorem XmZ(h:s.OkP c pd)(o size:Int)(ht:0<=s.rm.tot/\s.rm.tot<=1000000000000):0<=(X9 c s o size).rm.tot/\(X9 c s o size).rm.tot<=s.rm.tot+10000:=by
 unfold X9;cases b:Ce c s size with
 |none=>
  obtain⟨a,d,f⟩:=Xds h.rm o size;show 0<=(Ab c s.rm o size).tot/\(Ab c s.rm o size).tot<=_
  rw[<-a];show 0<=Xx s.rm.tot _/\Xx s.rm.tot _<=_
  rw[Bl (by omega)];omega
 |some m=>
  show 0<=Xx (Qe s.rm _ m.pt m.ta o).tot 3/\Xx (Qe s.rm _ m.pt m.ta o).tot 3<=_
  have e:(Qe s.rm (Xk c.classes size) m.pt m.ta o).tot=s.rm.tot:=by unfold Qe;split <;> rfl
  rw[e,Bl (by omega)];omega
theorem Ox(hm:X6 c=true)(q:PlcM)(i:Nat)(l:List Int)(ht:0<=s.rm.tot/\s.rm.tot<=1000000000000)(hl:l.length<=25000000):0<=(Zw c s q i l).rm.tot/\(Zw c s q i l).rm.tot<=s.rm.tot+2*l.length+1:=by
 have:=I2 (q:=q.plc) (at':=i) (n:=l.length) hm;show 0<=Xx s.rm.tot _/\Xx s.rm.tot _<=_
 rw[Bl (by omega)];omega
theorem Xcf(h:s.OkP c pd)(o:Nat)(ho:o<s.th.length)(size:Int)(hL:(Yv c s (o:Nat) size).OkP c pd2)(ht:0<=s.rm.tot/\s.rm.tot<=999999900000):0<=(Yv c s (o:Nat) size).rm.tot/\(Yv c s (o:Nat) size).rm.tot<=s.rm.tot+50020000:=by
 have b:=XmZ h (o:Nat) size ⟨ht.1,by omega⟩;have a:(Yv c s (o:Nat) size).th[o]?=some (some ⟨size,Zb c s (o:Nat) size⟩):=by
  show(s.th.set (o:Int).toNat _)[o]?=_
  rw[XA,XF ho]
 obtain⟨pv,ph,pf⟩:=Ii hL a;have e:=G7 (c:=c) (q:=(Zb c s (o:Nat) size).plc) h.may pf;have d:=Ox (s:=X9 c s (o:Nat) size) h.may (Zb c s (o:Nat) size) 0 (Xz (Zy c (Zb c s (o:Nat) size).plc).toNat) ⟨b.1,by omega⟩ (by rw[Dl];omega);rw[Dl] at d;show 0<=(Zw c (X9 c s (o:Nat) size) _ _ _).rm.tot/\(Zw c (X9 c s (o:Nat) size) _ _ _).rm.tot<=_
 omega
end
set_option maxHeartbeats 1000000 in
theorem Xli{s:StM}(h:X4 w r s)(hs:s.Ok r.c)(o size:Int)(hz : -9223372036854775808<=size/\size<=9223372036854775807)(ht:0<=s.rm.tot/\s.rm.tot<=999900000000):Xf prog 42 #[.agg (Zv r).toArray,.int .i64 o,.int .i64 size] w
 (λv w'=>∃r',v=.tuple #[.agg (Zv r').toArray,.int .i64 (B2 r.c s o size)]/\Cw w r (Ac r.c s o size) r' w'):=by
 have F:=hs.may;have hq:=Ww hs;have kg:=(Yp F).most;refine Xf.enter func42 rfl ntmps42 rfl rfl ?_;refine ζa rfl ?_;refine Xa.alloc Xb rfl ?_;intro b w1 e1 hb hr kh;refine ζa rfl ?_;refine Xa.alloc Xb rfl ?_;intro qb D e2 cu fr ki;refine ζa rfl ?_;replace hb:Zg w1 b r:=hb;have fs:=fr.heap' hb;have c9:=hr.trans fr;have z2:=c9.size;have lq:=Xg cu;have lb:=Xg hb;refine Xa.loads Xb rfl fs rfl rfl ?_;refine ζc rfl (Ue (h.grow c9) hs o) ?_;rintro _ w3 ⟨rfl,bw⟩;refine ζa rfl ?_;have d9:=bw.heap' fs;have da:=bw.heap' cu;have db:=c9.trans bw;have no:∀{e:Int},B2 r.c s o size=e->e≠0->Ac r.c s o size=s:=λe1 e2=>by unfold Ac;rw[if_pos (by rw[e1];exact e2)]
 by_cases g0:Yl s o=0
 ·obtain⟨j,t,rfl,u⟩:=Hs g0;rw[g0];refine Xa.no Xb rfl rfl rfl ?_;refine Xa.loads Xb rfl d9 rfl rfl ?_;refine ζc rfl (Ua r.c r.cp size w3) ?_;rintro _ w4 ⟨rfl,bx⟩;refine ζa rfl ?_;have bz:=bx.heap' d9;have dc:=bx.heap' da;have be:=db.trans bx;by_cases gr:size<1\/r.c.most<size
  ·have e:B2 r.c s (j:Nat) size=3:=by unfold B2;rw[if_neg (λe=>e g0),if_pos gr]
   rw[no e (by decide),e];have eb:(decide (1<=size) && decide (size<=r.c.most))=false:=by
    rw[Bool.and_eq_false_iff,decide_eq_false_iff_not,decide_eq_false_iff_not];omega
   rw[eb];refine Xa.yes Xb rfl rfl rfl ?_;have cb:=bz;have cc:=dc;have cd:=be;have gb:=Xg cu;refine Xa.loads Xb rfl cb rfl rfl ?_;refine Xa.store Xb rfl cc rfl rfl ?_;intro wr dd de hu;refine ζa rfl ?_;exact ζq rfl func42 (Xm.cell rfl rfl rfl dd rfl (.tmp rfl .nil)) ⟨r,rfl,.self h (cd.since de (λz hz e=>by omega))⟩
  ·have e:B2 r.c s (j:Nat) size=if Af r.c t.size size=true then 0 else Qg r.c s size:=by unfold B2;rw[if_neg (λe=>e g0),if_neg gr,C4 u]
   have eb:(decide (1<=size) && decide (size<=r.c.most))=true:=by
    rw[XJ,decide_eq_true_iff,decide_eq_true_iff];omega
   rw[eb];have kj:=hs.size j t u;have h4:=h.grow be;obtain⟨kk,⟨v1,v2⟩,p1,p2,a0,off,eta,hw,_,ft⟩:=h4.trowP u;obtain⟨q,eq⟩:∃q:Plc,q=r.ts[j].q:=⟨_,rfl⟩;rw[<-eq] at v2 p1 p2 ft;refine Xa.no Xb rfl rfl rfl ?_;refine Xa.loadb Xb rfl bz rfl rfl ?_;rw[eta];refine Xa.index Xb rfl (j:=(j*5)) (by omega) (by omega) (by first|rfl|omega|(simp;done)|(simp;omega)) rfl ?_;refine ζk rfl (hw _ rfl) rfl ?_;rw[v1];refine Xa.loadb Xb rfl bz rfl rfl ?_;rw[eta];refine Xa.index Xb rfl (j:=(j*5)) (by omega) (by omega) (by first|rfl|omega|(simp;done)|(simp;omega)) rfl ?_;refine Xa.loadC Xb ((Xv q)) rfl (by first|rfl|(simp;done)|(simp[*];done)|(simp;omega)) (ft) rfl ?_;rw[<-eta];refine Xa.alloc Xb rfl ?_;intro pb w5 e5 gd hx kl;refine ζa rfl ?_;refine Xa.store Xb rfl gd rfl rfl ?_;intro w6 cf i0 km;refine ζa rfl ?_;replace cf:w6.heap[pb]?=some (.cells (Xv q).toArray 98 (0,0)):=cf;have cg:Xc Xe w4 w6:=hx.since i0 (λz hz e=>by omega);have ge:=be.trans cg;have i1:=cg.heap' bz;refine Xa.loads Xb rfl i1 rfl rfl ?_;refine ζc rfl (Xlm (h.grow ge) hs t.size size (by omega) hz.2) ?_;rintro _ w7 ⟨rfl,df⟩;refine ζa rfl ?_;have jd:=df;have K:=cg.trans df;have ah:=be.trans K;have cv:=K.heap' bz;have ch:=K.heap' dc;have ci:=df.heap' cf;have i2:q.pages.length<=4096:=by have e:q.pages=t.q.pages:=congrArg PlcM.pages v2;rw[e];exact(Ii hs u).2.2
   by_cases O:Af r.c t.size size=true
   ·rw[if_pos O] at e;have eR:Ac r.c s (j:Nat) size=if size<t.size then Qt (C3 (Zw r.c s t.q size.toNat (Xz (t.size-size).toNat)) (j:Nat) ⟨size,t.q⟩) (j:Nat) size.toNat (t.size-size).toNat else C3 s (j:Nat) ⟨size,t.q⟩:=by
     unfold Ac;rw[if_neg (λg=>g e),C4 u,Yq u,if_pos O]
    rw[O,e,eR];refine Xa.yes Xb rfl rfl rfl ?_;have dg:=(List.getElem?_eq_some_iff.1 u).1;have h7:=h.grow ah;refine Xa.loads Xb rfl cv rfl rfl ?_;refine Xa.loads Xb rfl ci rfl rfl ?_;refine Xa.build Xb rfl rfl ?_;refine ζc rfl (Oh h7 (Jj hs) j dg ⟨size,q⟩ (some ⟨size,t.q⟩) ⟨rfl,λy e=>by cases e;exact v2⟩ ⟨p1.grow K,p2.grow K.size⟩) ?_;rintro _ w8 ⟨r8,rfl,h8,⟨fu,fv,i3⟩,U⟩;refine ζa rfl ?_;have fw:Zs w7 r r8:=⟨fu,fv,λS hS ho=>i3 S hS ho (by have:=ho.tq r.ts[j] (XK _);rw[<-eq] at this;exact this)⟩;refine Xa.alloc Xb rfl ?_;intro nb w9 e9 gh ba kn;refine ζa rfl ?_;refine Xa.store Xb rfl gh rfl rfl ?_;intro V G bg di;refine ζa rfl ?_;replace G:Zg V nb r8:=G;have ao:Xc Xe w8 V:=ba.since bg (λz hz e=>by omega);have W:=U.trans ao;have cw:=ah.trans W;have i4:=h8.grow ao;have gi:=W.heap' cv;have eu:=W.heap' ci;have ap:=W.heap' ch;have ko:=ah.size;have fx:D.heap.size<=w7.heap.size:=by have:=bw.size;have:=bx.size;have:=K.size;omega
    have z8:=U.size;have z9:=ba.size;have kp:=ao.size;have c0:Zs D r r8:=fw.back fx;by_cases cx:size<t.size
    ·rw[if_pos cx];obtain⟨sz,rfl⟩:=XD (show 0<=size by omega);obtain⟨d,ed⟩:=XD (show 0<=t.size-sz by omega);rw[ed,XA,XA];obtain⟨pv,ph,pf⟩:=Ii hs u;have i6:Qu r.c q sz d=0:=Km v2 (Gm pv (by omega) (by omega) (by omega));have i7:(r.ra.bs.length:Int)=r.c.size*r.c.pages:=by rw[h.rb];exact hs.bl
     have dj:r.ra.steps=s.rm.tot:=h.rs;have ck:=h.grow cw;have hd:∀w',Xc Xe V w'->Xf prog 96 #[.agg (Q9 r.c r.cp r.ra).toArray,.agg (Xv q).toArray,.int .i64 (sz:Nat),.int .i64 (d:Nat)] w' (λv D=>Xc Xe w' D/\∃x,v=H3 r.c r.cp x/\Fd r.c V r.ra q sz (Xz d) x D/\∀b,V.heap.size<=b->(b<w'.heap.size\/D.heap.size<=b)->Xj (λz=>z=b) x.a):=λw' k=>
      (Uc r.c r.cp r.ra q sz d w' ((ck.grow k).conf) ((p1.grow (K.trans W)).grow k) F i2 i6 ((ck.grow k).ra) i7 (by rw[dj];omega)).mono λv D ⟨x,x1,x2,x3,x4,x5,x6⟩=>
       ⟨x6,x,x1,Xcy ck.la (by rw[h.rb];exact hq) k (by rw[Dl];exact x2) (by rw[Dl];exact x3) x4 x5⟩
     refine Xa.yes Xb rfl (decide_eq_true cx) rfl ?_;refine Xa.drawn (q:=13) Xe Xb Xo (by kernel_rfl) rfl ?_;intro f;refine Xd.loads Xb f rfl gi (by first|exact λh=>h|(intro h;omega)|assumption) rfl rfl ?_;refine Xd.call Xb f rfl (λw' k=>(K1 (w:=w') (r:=r))) rfl ?_;refine Xd.loads Xb f rfl eu (by first|exact λh=>h|(intro h;omega)|assumption) rfl rfl ?_;refine Xd.arith Xb f rfl (w64 (by omega)) rfl ?_;rw[ed];refine Xd.callAllocG (H3 r.c r.cp) (Fd r.c V r.ra q sz (Xz d)) ((λx b=>Xj (λz=>z=b) x.a)) Xb f rfl rfl rfl (λ_=>rfl) rfl (λ_=>rfl) (λ_=>rfl) rfl rfl (λ_ _=>rfl) rfl (λ_ _=>rfl) (hd) (O2) ((λ_ h=>h.elim)) ?_;rintro mb x c6 i8 dl dm ⟨C,N,q3,q4,q5⟩ hG;refine Xd.turn1 f rfl ?_;intro ia ai;refine Xp.store Xb f rfl (ai.heap' dl) (by first|(intro h;exact rfl)|(intro h;omega)) rfl rfl rfl ?_;intro J bh az gm;refine Xd.nil f ?_;intro fy R;refine ζa rfl ?_;replace bh:J.heap[mb]?=some (.cells (Q9 r.c r.cp x).toArray 144 (0,0)):=bh;have j3:=dm.size;have dn:Xc Xe V J:=(dm.trans ai).since az (λz hz e=>by omega);have a7:=dn.trans R;have ex:Z0 J x:=⟨((q3.grow ai).rd).far hG az,q3.len,q3.lc,q3.rng⟩;have aq:=ex.grow R;have ey:Yj fy x.a:=((q5.grow ai.size).grow az.size).grow R.size;have ez:=R.heap' bh;have f0:=a7.heap' G;refine Xa.loads Xb rfl ez rfl rfl ?_;refine Xa.store Xb rfl f0 rfl rfl ?_;intro c7 ar bi jj;refine ζa rfl ?_;obtain⟨a8,b2⟩:∃a8:SR,a8={r8 with ra:=x}:=⟨_,rfl⟩;replace ar:Zg c7 nb a8:=by rw[b2];exact ar
     have lnb:=Xg G;have au:Xj (λz=>z=nb) x.a:=λb'' off' s' e hz=>by
      rcases q4 with e'|⟨g,off,e',hg⟩
      ·have:=h.la b'' off' s' (e'▸e);omega
      ·rw[e'] at e;cases e;omega
     have kq:=a7.size;have bj:Xc Xe w8 c7:=(ao.trans a7).since bi (λz hz e=>by omega);have f1:Z0 c7 x:=⟨aq.rd.far au bi,aq.len,aq.lc,aq.rng⟩;have ib:=I2 (q:=q) (at':=sz) (n:=d) F;have bk:=h8.putRa bj (ra:=x) (bs:=Qw r.c t.q.plc s.bs sz (Xz d) (Xz d).length) (t:=Xx s.rm.tot (X5 r.c t.q.plc sz (Xz d).length)) f1 (by rw[C,h.rb,<-v2,<-Jx]) (by rw[N,dj,Dl,<-v2,<-Hf,Bl (by omega)]) (ey.grow bi.size);rw[<-b2] at bk;replace bk:X4 c7 a8 (C3 (Zw r.c s t.q sz (Xz d)) (j:Nat) ⟨(sz:Nat),t.q⟩):=bk;have b3:a8.c=r.c/\a8.cp=r.cp:=by rw[b2];exact⟨fu,fv⟩
     have gn:Zs w7 r a8:=⟨b3.1,b3.2,λS hS ho=>by
      have h1:=fw.2.2 S hS ho;rw[b2];exact {h1 with ra:=ho.ra.newer q4 (λz hz=>by have:=hS z hz;omega)}⟩
     have gq:Am (λz=>z=nb) a8:=by
      have h1:Am (λz=>z=nb) r8:=h8.out (λz e=>by omega);rw[b2];exact {h1 with ra:=au}
     have ic:(C3 (Zw r.c s t.q sz (Xz d)) (j:Nat) ⟨(sz:Nat),t.q⟩).OkP a8.c none:=by
      rw[b3.1];exact StM.OkP.sized (StM.OkP.put hs t.q sz (Sb d)) (o:=j) (t:=t) u O (by omega)
     have dp:=Ox (s:=s) F t.q sz (Xz d) ⟨ht.1,by omega⟩ (by rw[Dl];omega);rw[Dl] at dp;have gs:(C3 (Zw r.c s t.q sz (Xz d)) (j:Nat) ⟨(sz:Nat),t.q⟩).th[j]?=some (some ⟨(sz:Nat),t.q⟩):=by
      show(s.th.set (j:Int).toNat _)[j]?=_
      rw[XA,XF dg]
     refine Xa.loads Xb rfl ar rfl rfl ?_;refine Xa.arith Xb rfl (w64 (by omega)) rfl ?_;rw[ed];refine ζc rfl (XfJ bk ic j gs sz d (λm hm=>by have:=Xd7 hs u (show Xt s t.q.cls=some m from hm);omega) ⟨dp.1,by show(Zw r.c s t.q sz (Xz d)).rm.tot<=_;omega⟩) ?_;rintro _ dq ⟨fz,rfl,a9⟩;refine ζa rfl ?_;have f2:=U.trans bj;have kr:=Xg ch;have f3:=bi.heap (a7.heap' ap) (by omega);have f4:=f2.trans a9.2.2;have jm:=bj.size;have jn:=a9.2.2.size;refine Xa.store Xb rfl (a9.2.2.heap' ar) rfl rfl ?_;intro cy aa cl jo;refine ζa rfl ?_;replace aa:Zg cy nb fz:=aa;have cz:Xc Xe w cy:=(ah.trans f4).since cl (λz hz e=>by omega);have jp:=bg.size;have ie:=a9.1.far (a9.2.1.2.2 _ (λz e=>by omega) gq) (by have:=h.conf.chg cz;rw[a9.2.1.1,a9.2.1.2.1,b3.1,b3.2];exact this) cl;have f5:=cl.heap (a9.2.2.heap' f3) (by omega);have dr:Zs D r fz:=(gn.back fx).trans a9.2.1 (by omega);refine Xa.loads Xb rfl aa rfl rfl ?_;refine Xa.store Xb rfl f5 rfl rfl ?_;intro wz ds c8 ig;refine ζa rfl ?_;have b4:Xc Xe w wz:=(cz).since c8 (λz hz e=>by omega);exact ζq rfl func42 (Xm.cell rfl rfl rfl ds rfl (.tmp rfl .nil)) ⟨_,rfl,h.box dr ie (by omega) (by omega) c8 b4,Zs.back dr z2,b4⟩
    ·rw[if_neg cx];refine Xa.no Xb rfl (decide_eq_false cx) rfl ?_;refine Xa.loads Xb rfl G rfl rfl ?_;refine Xa.store Xb rfl ap rfl rfl ?_;intro wz ds c8 ig;refine ζa rfl ?_;have b4:Xc Xe w wz:=(cw).since c8 (λz hz e=>by omega);exact ζq rfl func42 (Xm.cell rfl rfl rfl ds rfl (.tmp rfl .nil)) ⟨_,rfl,h.box c0 i4 (by omega) (by omega) c8 b4,Zs.back c0 z2,b4⟩
   ·replace O:Af r.c t.size size=false:=by simpa using O
    rw[if_neg (by rw[O];decide)] at e;rw[O,e];refine Xa.no Xb rfl rfl rfl ?_;refine Xa.loads Xb rfl cv rfl rfl ?_;refine ζc rfl (Ud (h.grow ah) hs size) ?_;rintro _ w8 ⟨rfl,U⟩;refine ζa rfl ?_;have gt:=U;have aj:=ah.trans U;have dt:=U.heap' cv;have cm:=U.heap' ch;by_cases hf:Qg r.c s size=0
    ·rw[hf];refine Xa.no Xb rfl rfl rfl ?_;have dg:=(List.getElem?_eq_some_iff.1 u).1;have ev:q.cls=t.q.cls:=congrArg PlcM.cls v2;obtain⟨t',M1,M2,M3,M4,M5,M6,M7,M8⟩:=L4 hs u O hf;have ii:=Vb hs t.q.cls ⟨ht.1,by omega⟩;obtain⟨s1,d0⟩:∃s1,s1=X7 s t.q.cls:=⟨_,rfl⟩;obtain⟨m,em⟩:=XD (show 0<=min t.size size by omega);have eM:Ac r.c s (j:Nat) size=Au r.c (Zw r.c (Yv r.c (Y1 s1 (X5 r.c t'.q.plc 0 m)) (j:Nat) size) (Yz (Yv r.c (Y1 s1 (X5 r.c t'.q.plc 0 m)) (j:Nat) size) (j:Nat)) 0 (Yr r.c t'.q.plc s1.bs 0 m)) t'.q:=by
      unfold Ac;rw[if_neg (λg=>g (e.trans hf)),C4 u,if_neg (by rw[O];decide)];unfold G5;simp only
      rw[Yq u,C4 u,<-d0,Yq (d0▸M2),em,XA]
     rw[em,XA] at M8;rw[<-d0] at M1 M2 M6 M7 M8 ii;rw[eM];have gu:=U.heap' ci;refine Xa.loads Xb rfl dt rfl rfl ?_;refine Xa.loadb Xb rfl gu rfl rfl ?_;rw[ev];refine ζc rfl (XfF (h.grow aj) hs t.q.cls ⟨ht.1,by omega⟩) ?_;rintro _ w9 ⟨i,rfl,H⟩;refine ζa rfl ?_;rw[<-d0] at H;refine Xa.alloc Xb rfl ?_;intro nb V ks G gv di;refine ζa rfl ?_;refine Xa.store Xb rfl G rfl rfl ?_;intro c6 ac gw jr;refine ζa rfl ?_;replace ac:Zg c6 nb i:=ac;have av:Xc Xe w9 c6:=gv.since gw (λz hz e=>by omega);have g1:=H.1.grow av;have cn:Am (λz=>z=nb) i:=H.1.out (λz e=>by omega);have noN:∀{a b:World},Xc Xe a b->Xc (λz=>z=nb) a b:=λh=>h.gr;have d1:=H.2.2.trans av;have j4:=aj.trans d1;have f6:=d1.heap' cm;have bb:i.c=r.c:=H.2.1.1;have lnb:=Xg ac;have kt:=aj.size;have ij:D.heap.size<=w8.heap.size:=by have:=bw.size;have:=bx.size;have:=K.size;have:=gt.size;omega
     have z9:=H.2.2.size;have js:=av.size;obtain⟨ku,⟨y1,y2⟩,p3,p4,b0,ju,dx,_,_,dy⟩:=g1.trowP M2;obtain⟨C,g2⟩:∃C:Plc,C=i.ts[j].q:=⟨_,rfl⟩;have im:Xj (λz=>z=nb) C.pa:=by rw[g2];exact cn.tq _ (XK _)
     rw[<-g2] at y2 p3 p4 dy;refine Xa.loadb Xb rfl ac rfl rfl ?_;rw[dx];refine Xa.index Xb rfl (j:=(j*5)) (by omega) (by omega) (by first|rfl|omega|(simp;done)|(simp;omega)) rfl ?_;refine Xa.loadC Xb ((Xv C)) rfl (by first|rfl|(simp;done)|(simp[*];done)|(simp;omega)) (dy) rfl ?_;rw[<-dx];refine Xa.alloc Xb rfl ?_;intro kb ia kv f8 ai jv;refine ζa rfl ?_;refine Xa.store Xb rfl f8 rfl rfl ?_;intro J ad az gm;refine ζa rfl ?_;replace ad:J.heap[kb]?=some (.cells (Xv C).toArray 98 (0,0)):=ad;have A:Xc Xe c6 J:=ai.since az (λz hz e=>by omega);have g3:=g1.grow A;have d2:=A.heap' ac;have j5:=A.size;obtain⟨pv,ph,pf⟩:=Ii M1 M2;have gx:C.pages.length<=4096:=by have e:C.pages=t'.q.pages:=congrArg PlcM.pages y2;rw[e];exact pf
     have kw:(m:Int)<=t.size/\(m:Int)<=size/\1<=m:=by omega
     have gy:Qu i.c C (0:Nat) m=0:=by rw[bb];exact Km y2 (Gm pv (by omega) (by omega) (by omega))
     have gz:(i.ra.bs.length:Int)=i.c.size*i.c.pages:=by rw[H.1.rb,bb];exact M1.bl
     have dz:i.ra.steps=s1.rm.tot:=H.1.rs;have ib:=I2 (q:=C) (at':=0) (n:=m) F;obtain⟨l,el⟩:∃l,l=Yr r.c t'.q.plc s1.bs 0 m:=⟨_,rfl⟩;have e0:l.length=m:=by rw[el];unfold Yr;simp
     have elq:Yr i.c C i.ra.bs 0 m=l:=by rw[bb,H.1.rb,Xcd r.c C,y2,el]
     have e3:Qn l:=by rw[el];exact K9 M1.bi _ _
     obtain⟨ra',era⟩:∃ra':RA,ra'={i.ra with steps:=i.ra.steps+X5 i.c C 0 m}:=⟨_,rfl⟩;have hd:∀w',Xc Xe J w'->Xf prog 99 #[.agg (Q9 i.c i.cp i.ra).toArray,.agg (Xv C).toArray,.int .i64 0,.int .i64 (m:Nat)] w' (λv D=>Xc Xe w' D/\∃x,v=T7 i.c i.cp ra' m x/\Od l J.heap.size x D/\∀b,J.heap.size<=b->(b<w'.heap.size\/D.heap.size<=b)->Xj (λz=>z=b) x.1):=λw' k=>
      (XfB i.c i.cp i.ra C 0 m w' ((g3.grow k).conf) (p3.grow (A.trans k)) (by rw[bb];exact F) gx gy ((g3.grow k).ra) gz (by rw[dz];omega)).mono λv D ⟨u1,x1,x2,x3⟩=>by
       rw[elq] at x2;obtain⟨a,cap,rfl,y1,y2⟩:=x2.rd8 e0;have:=k.size;exact⟨x3,(a,cap),by rw[x1,era],⟨y1,λb off s' e=>⟨by have:=(y2 b off s' e).1;omega,(y2 b off s' e).2⟩⟩,λb hb kx b' off' s' e hz=>by have:=y2 b' off' s' e;omega⟩
     have emin:(if size<t.size then size else t.size)=(m:Int):=by rw[<-em];split <;> omega
     refine Xa.drawn (q:=14) Xe Xb Xo (by kernel_rfl) rfl ?_;intro f;refine Xd.loads Xb f rfl d2 (by first|exact λh=>h|(intro h;omega)|assumption) rfl rfl ?_;refine Xd.call Xb f rfl (λw' k=>(K1 (w:=w') (r:=i))) rfl ?_;refine Xd.loads Xb f rfl ad (by first|exact λh=>h|(intro h;omega)|assumption) rfl rfl ?_;rw[emin];refine Xd.callAllocG (T7 i.c i.cp ra' m) (Od l J.heap.size) ((λx b=>Xj (λz=>z=b) x.1)) Xb f rfl rfl rfl (λ_=>rfl) rfl (λ_=>rfl) (λ_=>rfl) rfl rfl (λ_ _=>rfl) rfl (λ_ _=>rfl) (hd) (Xfl) ((λ_ h=>h.elim)) ?_;rintro mb x fy i8 dl R ⟨x1,x2⟩ hG;refine Xd.turn1 f rfl ?_;intro c7 co;refine Xp.store Xb f rfl (co.heap' dl) (by first|(intro h;exact rfl)|(intro h;omega)) rfl rfl rfl ?_;intro dq bl e4 jw;refine Xd.nil f ?_;intro cy cp;refine ζa rfl ?_;replace bl:dq.heap[mb]?=some (.cells (Q9 i.c i.cp ra').toArray 144 (0,0)):=bl;have j6:=R.size;have e6:Xc Xe J dq:=(R.trans co).since e4 (λz hz e=>by omega);have E:=e6.trans cp;have j7:=E.size;have g4:∀b',b'<J.heap.size->Xj (λz=>z=b') x.1:=λb' h2 b'' off' s' e hz=>by have:=(x2 b'' off' s' e).1;omega
     have h0:Rd .u8 cy x.1 l:=((x1.chg co).far hG e4).chg cp;have f9:=cp.heap' bl;have aa:=E.heap' d2;have lkb:=Xg ad;refine Xa.loads Xb rfl f9 rfl rfl ?_;refine Xa.store Xb rfl aa rfl rfl ?_;intro b6 ae ak jx;refine ζa rfl ?_;obtain⟨P,al⟩:∃P:SR,P={i with ra:=ra'}:=⟨_,rfl⟩;replace ae:Zg b6 nb P:=by rw[al];rw[era] at ae⊢;exact ae
     have aw:Xc Xe w9 b6:=((av.trans A).trans E).since ak (λz hz e=>by omega);have fa:Z0 b6 ra':=by rw[era];exact⟨(H.1.ra.grow aw).rd,H.1.ra.len,H.1.ra.lc,H.1.ra.rng⟩
     have h3:X5 r.c t'.q.plc 0 m=X5 r.c C 0 m:=by rw[Hf r.c C,y2]
     obtain⟨s2,bc⟩:∃s2,s2=Y1 s1 (X5 r.c t'.q.plc 0 m):=⟨_,rfl⟩;have g5:Xx s1.rm.tot (X5 r.c t'.q.plc 0 m)=s1.rm.tot+X5 r.c t'.q.plc 0 m:=Bl (by omega);have bm:=H.1.putRa aw (ra:=ra') (bs:=s1.bs) (t:=Xx s1.rm.tot (X5 r.c t'.q.plc 0 m)) fa (by rw[era];exact H.1.rb) (by rw[era,g5,h3,<-dz,bb]) (by rw[era];exact H.1.la.grow aw.size);rw[<-al] at bm;replace bm:X4 b6 P s2:=by rw[bc];exact bm
     have b7:P.c=r.c:=by rw[al];exact bb
     have h5:P.cp=r.cp:=by rw[al];exact H.2.1.2.1
     have h6:Zs w9 i P:=by rw[al,era];exact⟨rfl,rfl,λS hS ho=>{ho with ra:=ho.ra}⟩
     have ha:Am (λz=>z=nb) P:=by rw[al,era];exact {cn with ra:=cn.ra}
     have hc:Rd .u8 b6 x.1 l:=h0.far (g4 nb (by omega)) ak;have e7:Xc (λz=>z=nb) c6 b6:=(noN (A.trans E)).trans ak;have fb:=ak.heap (E.heap' ad) (by omega);have lqb:=Xg cm;have fc:=ak.heap ((A.trans E).heap' f6) (by omega);have g6:0<=s2.rm.tot/\s2.rm.tot<=s.rm.tot+20000+2*m+1:=by
      rw[bc];show 0<=Xx s1.rm.tot _/\Xx s1.rm.tot _<=_
      rw[g5];omega
     rw[<-bc] at M8⊢;have cq:s2.OkP P.c none:=by rw[b7,bc];exact M1.tot _
     have e8:j<s2.th.length:=by rw[bc];exact(List.getElem?_eq_some_iff.1 M2).1
     have fd:Qg P.c s2 size=0:=by rw[b7,bc];exact M7
     refine Xa.loads Xb rfl ae rfl rfl ?_;refine ζc rfl (XfH bm cq e8 fd (by rw[b7];exact M8) ⟨g6.1,by omega⟩) ?_;rintro _ ky ⟨c,rfl,B⟩;refine ζa rfl ?_;rw[b7] at B cq;have g7:=Xcf cq j e8 size M8 ⟨g6.1,by omega⟩;obtain⟨s3,g8⟩:∃s3,s3=Yv r.c s2 (j:Nat) size:=⟨_,rfl⟩;have bo:s3.th[j]?=some (some ⟨size,Zb r.c s2 (j:Nat) size⟩):=by
      rw[g8];show(s2.th.set (j:Int).toNat _)[j]?=_
      rw[XA,XF e8]
     obtain⟨Q,eQ⟩:∃Q,Q=Zb r.c s2 (j:Nat) size:=⟨_,rfl⟩;rw[<-eQ] at bo;rw[<-g8] at B M8 g7⊢;rw[Yq bo];have kz:=ak.size;have l0:=B.2.2.size;have fe:=B.2.2.heap' ae;refine Xa.store Xb rfl fe rfl rfl ?_;intro L af T jy;refine ζa rfl ?_;replace af:Zg L nb c:=af;have cr:Am (λz=>z=nb) c:=B.2.1.2.2 _ (λz e=>by omega) ha;have d3:Xc Xe w9 L:=(aw.trans B.2.2).since T (λz hz e=>by omega);have d4:=(aj.trans H.2.2).trans d3;have M:c.c=r.c:=B.2.1.1.trans b7;have ea:c.cp=r.cp:=B.2.1.2.1.trans h5;have ag:=B.1.far cr (by have:=h.conf.chg d4;rw[M,ea];exact this) T;have ec:Xc (λz=>z=nb) b6 L:=(noN B.2.2).trans T;have he:Rd .u8 L x.1 l:=(hc.chg B.2.2).far (g4 nb (by omega)) T;have ff:=T.heap (B.2.2.heap' fb) (by omega);have fg:=T.heap (B.2.2.heap' fc) (by omega);obtain⟨_,⟨_,y4⟩,p5,p6,b1,k0,hh,_,_,ee⟩:=ag.trowP bo;obtain⟨N,ip⟩:∃N:Plc,N=c.ts[j].q:=⟨_,rfl⟩;rw[<-ip] at y4 p5 p6 ee;replace y4:Xy N=Q:=y4;obtain⟨ef,g9,eg⟩:=Ii M8 bo;replace ef:Yi r.c Q.plc=true:=ef;replace g9:size<=Zy r.c Q.plc:=g9;replace eg:Q.pages.length<=4096:=eg;have hi:N.pages.length<=4096:=by have e:N.pages=Q.pages:=congrArg PlcM.pages y4;rw[e];exact eg
     subst e0;have hj:Qu c.c N (0:Nat) l.length=0:=by rw[M];exact Km y4 (Gm ef (by omega) (by omega) (by omega))
     have hk:(c.ra.bs.length:Int)=c.c.size*c.c.pages:=by rw[ag.rb,M];exact M8.bl
     have eh:c.ra.steps=s3.rm.tot:=ag.rs;have iq:∀w',Xc Xe L w'->Xf prog 100 #[.agg (Q9 c.c c.cp c.ra).toArray,.agg (Xv N).toArray,.int .i64 0,.slice x.1 l.length x.2] w' (λv D=>Xc Xe w' D/\∃y,v=H3 c.c c.cp y/\Fd c.c L c.ra N 0 l y D/\∀b,L.heap.size<=b->(b<w'.heap.size\/D.heap.size<=b)->Xj (λz=>z=b) y.a):=λw' k=>
      (Xbt c.c c.cp c.ra N 0 x.1 x.2 l w' ((ag.grow k).conf) (p5.grow k) (by rw[M];exact F) hi hj ((ag.grow k).ra) hk (by rw[eh];omega) (he.chg k) e3).mono λv D ⟨y,a1,a2,a3,a4,a5,a6⟩=>
       ⟨a6,y,a1,Xcy ag.la (by rw[ag.rb];exact Ww M8) k a2 a3 a4 a5⟩
     refine Xa.drawn (q:=15) Xe Xb Xo (by kernel_rfl) rfl ?_;intro f;refine Xd.loads Xb f rfl af (by first|exact λh=>h|(intro h;omega)|assumption) rfl rfl ?_;refine Xd.call Xb f rfl (λw' k=>(K1 (w:=w') (r:=c))) rfl ?_;refine Xd.loadb Xb f rfl af (by first|exact λh=>h|(intro h;omega)|assumption) rfl rfl ?_;rw[hh];refine Xd.index Xb f rfl (j:=(j*5)) (by omega) (by omega) (by first|rfl|omega|(simp;done)|(simp;omega)) rfl ?_;refine Xd.loadC Xb f ((Xv N)) rfl (by first|rfl|(simp;done)|(simp[*];done)|(simp;omega)) (ee) (by first|exact λh=>h|(intro h;omega)|assumption) rfl ?_;refine Xd.callAllocG (H3 c.c c.cp) (Fd c.c L c.ra N 0 l) ((λx b=>Xj (λz=>z=b) x.a)) Xb f rfl rfl rfl (λ_=>rfl) rfl (λ_=>rfl) (λ_=>rfl) rfl rfl (λ_ _=>rfl) rfl (λ_ _=>rfl) (iq) (O2) ((λ_ h=>h.elim)) ?_;rintro vb y l1 l2 ir ei ⟨c1,c2,c3,c4,c5⟩ iu;refine Xd.turn1 f rfl ?_;intro l3 bp;refine Xp.store Xb f rfl (bp.heap' ir) (by first|(intro h;exact rfl)|(intro h;omega)) rfl rfl rfl ?_;intro ej bq ct ka;refine Xd.nil f ?_;intro iv br;refine ζa rfl ?_;replace bq:ej.heap[vb]?=some (.cells (Q9 c.c c.cp y).toArray 144 (0,0)):=bq;have l4:=T.size;have l5:=ei.size;have ek:Xc Xe L ej:=(ei.trans bp).since ct (λz hz e=>by omega);have p:=ek.trans br;have l6:=p.size;have fi:Z0 ej y:=⟨((c3.grow bp).rd).far iu ct,c3.len,c3.lc,c3.rng⟩;have ax:=fi.grow br;have fj:Yj iv y.a:=((c5.grow bp.size).grow ct.size).grow br.size;have fk:=br.heap' bq;have fm:=p.heap' af;refine Xa.loads Xb rfl fk rfl rfl ?_;refine Xa.store Xb rfl fm rfl rfl ?_;intro am bt I kc;refine ζa rfl ?_;obtain⟨b8,bu⟩:∃b8:SR,b8={c with ra:=y}:=⟨_,rfl⟩;replace bt:Zg am nb b8:=by rw[bu];exact bt
     have au:Xj (λz=>z=nb) y.a:=λb'' off' s' e hz=>by
      rcases c4 with e'|⟨g,off,e',hg⟩
      ·exact cr.ra b'' off' s' (e'▸e) hz
      ·rw[e'] at e;cases e;omega
     have fn:Z0 am y:=⟨ax.rd.far au I,ax.len,ax.lc,ax.rng⟩;have en:Xc (λz=>z=nb) L am:=(noN p).trans I;have ke:=I2 (q:=N) (at':=0) (n:=l.length) F;have hl:X5 r.c Q.plc 0 l.length=X5 r.c N 0 l.length:=by rw[Hf r.c N,y4]
     have d5:Xc Xe w am:=(d4.trans p).since I (λz hz e=>by omega);have iw:Xc Xe w9 am:=(d3.trans p).since I (λz hz e=>by omega);have ix:=ag.grow p;have bv:=(ix.far cr (by have:=h.conf.chg d5;rw[M,ea];exact this) I).putRa (Xc.refl Xe am) (ra:=y) (bs:=Qw r.c Q.plc s3.bs 0 l l.length) (t:=Xx s3.rm.tot (X5 r.c Q.plc 0 l.length)) fn (by rw[c1,ag.rb,M,<-y4,<-Jx]) (by rw[c2,eh,M,hl,Bl (by omega)]) (fj.grow I.size);rw[<-bu] at bv;replace bv:X4 am b8 (Zw r.c s3 Q 0 l):=bv;have eo:b8.c=r.c:=by rw[bu];exact M
     have hn:Zs L c b8:=by rw[bu];exact⟨rfl,rfl,λS hS ho=>{ho with ra:=ho.ra.newer c4 hS}⟩
     have fo:=I.heap (p.heap' ff) (by omega);have fp:=I.heap (p.heap' fg) (by omega);have ep:=(e7.trans ec).trans en;have hp:Zl am C:=⟨p3.rd.far im ep,p3.len⟩;have iy:=Ox (s:=s3) F Q 0 l ⟨g7.1,by omega⟩ (by omega);have iz:(Zw r.c s3 Q 0 l).OkP b8.c (some (j,Xy C)):=by rw[eo,y2];exact StM.OkP.put M8 _ _ e3
     rw[<-el];refine Xa.loads Xb rfl bt rfl rfl ?_;refine Xa.loads Xb rfl fo rfl rfl ?_;refine ζc rfl (XfG bv C iz hp ⟨iy.1,by omega⟩) ?_;rintro _ l7 ⟨er,rfl,bd⟩;refine ζa rfl ?_;rw[eo,y2] at bd;have l8:=I.size;have l9:=bd.2.2.size;refine Xa.store Xb rfl (bd.2.2.heap' fp) rfl rfl ?_;intro j0 fq es kf;refine ζa rfl ?_;have d6:Xc Xe w j0:=(d5.trans bd.2.2).since es (λz hz e=>by omega);have j1:Zs w9 i c:=h6.trans B.2.1 (by omega);have j2:Zs w9 i er:=(j1.trans hn (by omega)).trans bd.2.1 (by omega);have c0:Zs D r er:=(H.2.1.back ij).trans j2 (by omega);exact ζq rfl func42 (Xm.cell rfl rfl rfl fq rfl (.tmp rfl .nil)) ⟨er,rfl,h.box c0 bd.1 (by omega) (by omega) es d6,Zs.back c0 z2,d6⟩
    ·rw[no e hf];refine Xa.yes Xb rfl (by simpa using hf) rfl ?_;refine Xa.drawn (q:=4) Xe Xb Xo (by kernel_rfl) rfl ?_;intro f;refine Xd.loads Xb f rfl dt (by first|exact λh=>h|(intro h;omega)|assumption) rfl rfl ?_;refine Xd.loads Xb f rfl dt (by first|exact λh=>h|(intro h;omega)|assumption) rfl rfl ?_;refine Xd.call Xb f rfl (λw' k=>Ud (h.grow (aj.trans k)) hs size) rfl ?_;refine Xd.nil f ?_;intro w9 ba;refine ζa rfl ?_;have z9:=ba.size;refine Xa.store Xb rfl (ba.heap' cm) rfl rfl ?_;intro V ap bg di;refine ζa rfl ?_;exact ζq rfl func42 (Xm.cell rfl rfl rfl ap rfl (.tmp rfl .nil)) ⟨r,rfl,.self h ((aj.trans ba).since bg (λz hz e=>by omega))⟩
 ·have e:B2 r.c s o size=Yl s o:=by unfold B2;rw[if_pos g0]
  rw[no e g0,e];refine Xa.yes Xb rfl (by simpa using g0) rfl ?_;have cb:=d9;have cc:=da;have cd:=db;have gb:=Xg cu;refine Xa.loads Xb rfl cb rfl rfl ?_;refine Xa.store Xb rfl cc rfl rfl ?_;intro wr dd de hu;refine ζa rfl ?_;exact ζq rfl func42 (Xm.cell rfl rfl rfl dd rfl (.tmp rfl .nil)) ⟨r,rfl,.self h (cd.since de (λz hz e=>by omega))⟩
structure D8 where
 kind:Int
 own:Int
 a:Int
 b:Int
 bs:List Int
 ba:Option Addr
 bc:Nat
def Fh(u:D8):List Value:=[.int .u8 u.kind,.int .i64 u.own,.int .i64 u.a,.int .i64 u.b,.slice u.ba u.bs.length u.bc]
structure Ix(w:World)(u:D8):Prop where
 kind:0<=u.kind/\u.kind<256
 a : -9223372036854775808<=u.a/\u.a<=9223372036854775807
 b : -9223372036854775808<=u.b/\u.b<=9223372036854775807
 rd:Rd .u8 w u.ba u.bs
 rng:Qn u.bs
 lc:u.bs.length<=u.bc
 len:u.bc<=9223372036854775807
theorem Ix.grow{u:D8}(h:Ix w u)(hc:Xc Xe w w'):Ix w' u:=⟨h.kind,h.a,h.b,h.rd.chg hc,h.rng,h.lc,h.len⟩
def Aj(c:Conf)(s:StM)(u:D8):Int:=if u.kind%7=0 then Bh c s u.own u.a else if u.kind%7=1 then Yl s u.own else if u.kind%7=2 then B2 c s u.own u.a else if u.kind%7=3 then Qp s u.own u.a u.b else if u.kind%7=4 then Qp s u.own u.a u.bs.length else if u.kind%7=5 then 0 else Cv s u.own u.a
def Yy(c:Conf)(s:StM)(u:D8):StM:=if u.kind%7=0 then Q8 c s u.own u.a else if u.kind%7=1 then Bq c s u.own else if u.kind%7=2 then Ac c s u.own u.a else if u.kind%7=3 then Br c s u.own u.a u.b else if u.kind%7=4 then Cc c s u.own u.a u.bs else if u.kind%7=5 then C5 c s else Dj s u.own u.a
def Q5(c:Conf)(s:StM)(u:D8):List Int:=if u.kind%7=3 then Di c s u.own u.a u.b else []
theorem StM.OkP.do22(h:s.Ok c)(u:D8)(hu:Qn u.bs):(Yy c s u).Ok c:=by
 unfold Yy;split
 ·exact h.alloc _ _
 split
 ·exact h.free _
 split
 ·exact h.resize _ _
 split
 ·exact h.read _ _ _
 split
 ·exact h.write _ _ hu
 split
 ·exact h.tick
 ·exact h.set _ _
theorem Xle(a:Option Addr)(cap:Nat)(xs:List D8)(w:World)(hr:Rows Fh 5 w a xs)(hl:xs.length<=9223372036854775807):Xf prog 9 #[.slice a xs.length cap] w (λv w'=>∃b,v=.bool b/\(b=true->xs.length<=20/\∀x∈xs,x.bs.length<=100)/\w=w'):=by
 refine ζe func9 ntmps9 ϱ ?_;refine Xa.loop (α:=Nat) (λk=>[(0,false,.slice a xs.length cap),(3,false,.int .i64 k)])
  (λk w'=>w'=w/\k<=xs.length/\k<=21/\∀j (h:j<xs.length),j<k->xs[j].bs.length<=100) (λk=>21-k) 0 ⟨rfl,rfl,trivial⟩ ⟨rfl,XL _,by omega,λ_ _ h=>by omega⟩ ?_
 rintro k t ⟨o,u,p,c⟩ ih;subst o;have d:¬(k<xs.length/\k<21)->xs.length<=20 -> ∀x∈xs,x.bs.length<=100:=λf g x q=>by
  obtain⟨j,l,rfl⟩:=QK q;exact c j l (by omega)
 refine ζa ϱ (ζg ϱ (λf=>?_) λf=>?_)
 ·refine ζg ϱ (λg=>?_) λg=>?_
  ·have m:k<xs.length:=by have:=of_decide_eq_true f;omega
   have r:k<21:=by have:=of_decide_eq_true g;omega
   obtain⟨b,off,rfl,i⟩:=hr.at m;refine ζi (k*5) ϱ (ζk ϱ (i 4 _ rfl) ϱ (ζg ϱ (λn=>?_) λn=>?_))
   ·exact ζr func9 ϱ ⟨false,rfl,(λh=>Bool.noConfusion h),rfl⟩
   ·have y:=of_decide_eq_false n;refine ζj ϱ ?_;exact ih (k+1) _ _ ⟨rfl,by omega,by omega,λj l s=>by
     by_cases e:j=k
     ·subst e;omega
     ·exact c j l (by omega)⟩ (by omega) ⟨rfl,rfl,trivial⟩
  ·have r:=of_decide_eq_false g;exact ζr func9 ϱ ⟨_,rfl,λh=>by have:=of_decide_eq_true h;exact⟨by omega,d (by omega) (by omega)⟩,rfl⟩
 ·have m:=of_decide_eq_false f;exact ζr func9 ϱ ⟨_,rfl,λh=>by have:=of_decide_eq_true h;exact⟨by omega,d (by omega) (by omega)⟩,rfl⟩
theorem Xlc(u:D8)(h:X4 w r s)(hs:s.Ok r.c)(hu:Ix w u)(ht:0<=s.rm.tot/\s.rm.tot<=999900000000):Xf prog 12 #[.agg (Zv r).toArray,.agg (Fh u).toArray] w
 (λv w'=>∃r' a cap,v=.tuple #[.agg (Zv r').toArray,.slice a (Q5 r.c s u).length cap,.int .i64 (Aj r.c s u)]/\Rd .u8 w' a (Q5 r.c s u)/\(∀b off s',a=some ⟨b,off,s'⟩->w.heap.size<=b/\b<w'.heap.size)/\Cw w r (Yy r.c s u) r' w'):=by
 have hk:=hu.kind;refine ζe func12 ntmps12 ϱ (ζn ϱ λb w1 e1 T P U=>ζn ϱ λub w2 e2 Q M V=>ζn ϱ λqb w3 e3 j I W=>?_);have k:=(M.trans I).heap' T;have l:=I.heap' Q;have n:=(P.trans M).trans I;have E:=h.grow n;have y:=n.size;refine ζl l ϱ (Xa.div Xb rfl (by omega) (E9 (by omega)) rfl ?_);by_cases p:u.kind%7=0
 ·have eE:Aj r.c s u=Bh r.c s u.own u.a:=by unfold Aj;rw[if_pos p]
  have eS:Yy r.c s u=Q8 r.c s u.own u.a:=by unfold Yy;rw[if_pos p]
  have eB:Q5 r.c s u=[]:=by unfold Q5;rw[if_neg (by omega)]
  rw[eE,eS,eB];refine ζy ϱ (ζl k ϱ (ζl l ϱ (ζl l ϱ (ζc ϱ (Xlb E hs u.own u.a ⟨ht.1,by omega⟩) ?_))));rintro _ F ⟨q,rfl,c⟩;refine ζa ϱ ?_;refine ζs (c.2.2.heap' k) ϱ λJ o f D=>?_;have g:=(n.trans c.2.2).since f (λz t e=>by omega);refine ζl o ϱ (ζs (f.heap (c.2.2.heap' j) (by omega)) ϱ λG m i B=>?_);have d:=g.since i (λz t e=>by omega);exact ζR func12 m ϱ ⟨q,none,0,rfl,Rd.nil _ _ _,(by intro b off s' e;cases e),(h.box c.2.1 (h.box c.2.1 c.1 (by omega) (Xg k) f g) (by omega) (Xg j) i d),c.2.1.back y,d⟩
 by_cases x:u.kind%7=1
 ·have eE:Aj r.c s u=Yl s u.own:=by unfold Aj;rw[if_neg p,if_pos x]
  have eS:Yy r.c s u=Bq r.c s u.own:=by unfold Yy;rw[if_neg p,if_pos x]
  have eB:Q5 r.c s u=[]:=by unfold Q5;rw[if_neg (by omega)]
  rw[eE,eS,eB];refine ζf ϱ (ζy ϱ (ζl k ϱ (ζl l ϱ (ζc ϱ (Xlf E hs u.own ⟨ht.1,by omega⟩) ?_))));rintro _ F ⟨q,rfl,c⟩;refine ζa ϱ ?_;refine ζs (c.2.2.heap' k) ϱ λJ o f D=>?_;have g:=(n.trans c.2.2).since f (λz t e=>by omega);refine ζl o ϱ (ζs (f.heap (c.2.2.heap' j) (by omega)) ϱ λG m i B=>?_);have d:=g.since i (λz t e=>by omega);exact ζR func12 m ϱ ⟨q,none,0,rfl,Rd.nil _ _ _,(by intro b off s' e;cases e),(h.box c.2.1 (h.box c.2.1 c.1 (by omega) (Xg k) f g) (by omega) (Xg j) i d),c.2.1.back y,d⟩
 by_cases A:u.kind%7=2
 ·have eE:Aj r.c s u=B2 r.c s u.own u.a:=by unfold Aj;rw[if_neg p,if_neg x,if_pos A]
  have eS:Yy r.c s u=Ac r.c s u.own u.a:=by unfold Yy;rw[if_neg p,if_neg x,if_pos A]
  have eB:Q5 r.c s u=[]:=by unfold Q5;rw[if_neg (by omega)]
  rw[eE,eS,eB];refine ζf ϱ (ζf ϱ (ζy ϱ (ζl k ϱ (ζl l ϱ (ζl l ϱ (ζc ϱ (Xli E hs u.own u.a hu.a ht) ?_))))));rintro _ F ⟨q,rfl,c⟩;refine ζa ϱ ?_;refine ζs (c.2.2.heap' k) ϱ λJ o f D=>?_;have g:=(n.trans c.2.2).since f (λz t e=>by omega);refine ζl o ϱ (ζs (f.heap (c.2.2.heap' j) (by omega)) ϱ λG m i B=>?_);have d:=g.since i (λz t e=>by omega);exact ζR func12 m ϱ ⟨q,none,0,rfl,Rd.nil _ _ _,(by intro b off s' e;cases e),(h.box c.2.1 (h.box c.2.1 c.1 (by omega) (Xg k) f g) (by omega) (Xg j) i d),c.2.1.back y,d⟩
 by_cases C:u.kind%7=3
 ·have eE:Aj r.c s u=Qp s u.own u.a u.b:=by unfold Aj;rw[if_neg p,if_neg x,if_neg A,if_pos C]
  have eS:Yy r.c s u=Br r.c s u.own u.a u.b:=by unfold Yy;rw[if_neg p,if_neg x,if_neg A,if_pos C]
  have eB:Q5 r.c s u=Di r.c s u.own u.a u.b:=by unfold Q5;rw[if_pos C]
  rw[eE,eS,eB];refine ζf ϱ (ζf ϱ (ζf ϱ (ζy ϱ (ζl k ϱ (ζl l ϱ (ζl l ϱ (ζl l ϱ (ζc ϱ (Xlh E hs u.own u.a u.b hu.a hu.b ⟨ht.1,by omega⟩) ?_))))))));rintro _ F ⟨q,R,N,rfl,S,K,c⟩;refine ζa ϱ ?_;refine ζs (c.2.2.heap' j) ϱ λG m i B=>?_;have d:=(n.trans c.2.2).since i (λz t e=>by omega);have O:Xj (λz=>z=qb) R:=λb' off s' e t=>by have:=K b' off s' e;omega
  exact ζR func12 m ϱ ⟨q,R,N,rfl,S.far O i,(λb' off s' e=>⟨by have:=K b' off s' e;omega,by have:=K b' off s' e;have:=i.size;omega⟩),(h.box c.2.1 c.1 (by omega) (Xg j) i d),c.2.1.back y,d⟩
 by_cases H:u.kind%7=4
 ·have eE:Aj r.c s u=Qp s u.own u.a u.bs.length:=by unfold Aj;rw[if_neg p,if_neg x,if_neg A,if_neg C,if_pos H]
  have eS:Yy r.c s u=Cc r.c s u.own u.a u.bs:=by unfold Yy;rw[if_neg p,if_neg x,if_neg A,if_neg C,if_pos H]
  have eB:Q5 r.c s u=[]:=by unfold Q5;rw[if_neg (by omega)]
  rw[eE,eS,eB];refine ζf ϱ (ζf ϱ (ζf ϱ (ζf ϱ (ζy ϱ (ζl k ϱ (ζl l ϱ (ζl l ϱ (ζl l ϱ (ζc ϱ (Xll E hs u.own u.a u.ba u.bc u.bs hu.a (hu.rd.chg n) (by have:=hu.lc;have:=hu.len;omega) hu.rng ⟨ht.1,by omega⟩) ?_)))))))));rintro _ F ⟨q,rfl,c⟩;refine ζa ϱ ?_;refine ζs (c.2.2.heap' k) ϱ λJ o f D=>?_;have g:=(n.trans c.2.2).since f (λz t e=>by omega);refine ζl o ϱ (ζs (f.heap (c.2.2.heap' j) (by omega)) ϱ λG m i B=>?_);have d:=g.since i (λz t e=>by omega);exact ζR func12 m ϱ ⟨q,none,0,rfl,Rd.nil _ _ _,(by intro b off s' e;cases e),(h.box c.2.1 (h.box c.2.1 c.1 (by omega) (Xg k) f g) (by omega) (Xg j) i d),c.2.1.back y,d⟩
 by_cases L:u.kind%7=5
 ·have eE:Aj r.c s u=0:=by unfold Aj;rw[if_neg p,if_neg x,if_neg A,if_neg C,if_neg H,if_pos L]
  have eS:Yy r.c s u=C5 r.c s:=by unfold Yy;rw[if_neg p,if_neg x,if_neg A,if_neg C,if_neg H,if_pos L]
  have eB:Q5 r.c s u=[]:=by unfold Q5;rw[if_neg (by omega)]
  rw[eE,eS,eB];refine ζf ϱ (ζf ϱ (ζf ϱ (ζf ϱ (ζf ϱ (ζy ϱ (ζl k ϱ (ζc ϱ (Xlk E hs ⟨ht.1,by omega⟩) ?_)))))));rintro _ F ⟨q,rfl,c⟩;refine ζa ϱ ?_;refine ζs (c.2.2.heap' k) ϱ λJ o f D=>?_;have g:=(n.trans c.2.2).since f (λz t e=>by omega);refine ζl o ϱ (ζs (f.heap (c.2.2.heap' j) (by omega)) ϱ λG m i B=>?_);have d:=g.since i (λz t e=>by omega);exact ζR func12 m ϱ ⟨q,none,0,rfl,Rd.nil _ _ _,(by intro b off s' e;cases e),(h.box c.2.1 (h.box c.2.1 c.1 (by omega) (Xg k) f g) (by omega) (Xg j) i d),c.2.1.back y,d⟩
 ·have eE:Aj r.c s u=Cv s u.own u.a:=by unfold Aj;rw[if_neg p,if_neg x,if_neg A,if_neg C,if_neg H,if_neg L]
  have eS:Yy r.c s u=Dj s u.own u.a:=by unfold Yy;rw[if_neg p,if_neg x,if_neg A,if_neg C,if_neg H,if_neg L]
  have eB:Q5 r.c s u=[]:=by unfold Q5;rw[if_neg (by omega)]
  rw[eE,eS,eB];refine ζf ϱ (ζf ϱ (ζf ϱ (ζf ϱ (ζf ϱ (ζf ϱ (ζl k ϱ (ζl l ϱ (ζl l ϱ (ζc ϱ (Xlj E hs u.own u.a) ?_)))))))));rintro _ F ⟨q,rfl,c⟩;refine ζa ϱ ?_;refine ζs (c.2.2.heap' k) ϱ λJ o f D=>?_;have g:=(n.trans c.2.2).since f (λz t e=>by omega);refine ζl o ϱ (ζs (f.heap (c.2.2.heap' j) (by omega)) ϱ λG m i B=>?_);have d:=g.since i (λz t e=>by omega);exact ζR func12 m ϱ ⟨q,none,0,rfl,Rd.nil _ _ _,(by intro b off s' e;cases e),(h.box c.2.1 (h.box c.2.1 c.1 (by omega) (Xg k) f g) (by omega) (Xg j) i d),c.2.1.back y,d⟩
section
variable {c:Conf}{n0:Nat}{w0 w:World}{F:Nat->Prop}{S:Sto}{s:StM}
theorem Lv.ofE(h:Lv c n0 w0 w F S s){e:Int}(hi:s'.Ok c){P:Program}{k:FuncId}{args:Array Value}(hd:Xf P k args w (Iz F w S s' e)):Xf P k args w (λv w'=>v=.int .i64 e/\Fe c n0 w0 w F S s' w'):=
 hd.mono λv w' ⟨e1,a⟩=>⟨e1,h.to a hi⟩
theorem XeA(h:Lv c n0 w0 w F S s)(o size:Int):Xf prog 30 #[Zx S,.int .i64 o,.int .i64 size] w (λv w'=>v=.int .i64 (Bh c s o size)/\Fe c n0 w0 w F S (Q8 c s o size) w'):=by
 obtain⟨Fr,mo,b⟩:=h.ok;have a:=Xmw b (by rw[h.sc];exact h.inv) o size;rw[h.sc] at a;exact h.ofE (h.inv.alloc o size) a
theorem XaK(h:Lv c n0 w0 w F S s)(o:Int):Xf prog 32 #[Zx S,.int .i64 o] w (λv w'=>v=.int .i64 (Yl s o)/\Fe c n0 w0 w F S (Bq c s o) w'):=by
 obtain⟨Fr,mo,b⟩:=h.ok;have a:=Xmz b (by rw[h.sc];exact h.inv) o;rw[h.sc] at a;exact h.ofE (h.inv.free o) a
theorem Xjv(h:Lv c n0 w0 w F S s)(o size:Int):Xf prog 38 #[Zx S,.int .i64 o,.int .i64 size] w (λv w'=>v=.int .i64 (B2 c s o size)/\Fe c n0 w0 w F S (Ac c s o size) w'):=by
 obtain⟨Fr,mo,b⟩:=h.ok;have a:=XmH b (by rw[h.sc];exact h.inv) o size;rw[h.sc] at a;exact h.ofE (h.inv.resize o size) a
theorem XeG(h:Lv c n0 w0 w F S s)(o i:Int)(a:Option Addr)(cap:Nat)(l:List Int)(hi : -9223372036854775808<=i/\i<=9223372036854775807)(hr:Rd .u8 w a l)(hlc:l.length<=cap)(hl:l.length<=9223372036854775807)(hin:Qn l)(hout:0<l.length->Xj F a):Xf prog 31 #[Zx S,.int .i64 o,.int .i64 i,.slice a l.length cap] w (λv w'=>v=.int .i64 (Qp s o i l.length)/\Fe c n0 w0 w F S (Cc c s o i l) w'):=by
 obtain⟨Fr,mo,d⟩:=h.ok;have b:=XmN d (by rw[h.sc];exact h.inv) o i a cap l hi hr hlc hl hin hout;rw[h.sc] at b;exact h.ofE (h.inv.write o i hin) b
theorem Xju(h:Lv c n0 w0 w F S s)(o i n:Int)(hi : -9223372036854775808<=i/\i<=9223372036854775807)(hn : -9223372036854775808<=n/\n<=9223372036854775807):Xf prog 33 #[Zx S,.int .i64 o,.int .i64 i,.int .i64 n] w
 (λv w'=>∃a cap,v=.tuple #[.slice a (Di c s o i n).length cap,.int .i64 (Qp s o i n)]/\Rd .u8 w' a (Di c s o i n)/\(∀b off s',a=some ⟨b,off,s'⟩->w.heap.size<=b/\b<w'.heap.size)/\Lv c n0 w0 w' F S (Br c s o i n)/\Xc F w w'):=by
 obtain⟨Fr,mo,g⟩:=h.ok;have d:=XmG g (by rw[h.sc];exact h.inv) o i n hi hn;rw[h.sc] at d;refine d.mono λv w' ⟨u,e,j,mo',k,f⟩=>?_;obtain⟨a,cap,e2,l,m⟩:=j.rd8 rfl;exact⟨a,cap,by rw[e,e2],l,m,⟨⟨Fr,mo',k⟩,h.inv.read o i n,h.sc,h.fx,h.base,h.chg.since f (λz p e=>by have:=h.base z e;omega)⟩,f⟩
theorem XeD(h:Lv c n0 w0 w F S s)(o i n:Int)(hi : -9223372036854775808<=i/\i<=9223372036854775807)(hn : -9223372036854775808<=n/\n<=9223372036854775807):Xf prog 33 #[Zx S,.int .i64 o,.int .i64 i,.int .i64 n] w
 (λv w'=>∃a cap,v=.tuple #[.slice a (Di c s o i n).length cap,.int .i64 (Qp s o i n)]/\Rd .u8 w' a (Di c s o i n)/\(∀b off s',a=some ⟨b,off,s'⟩->w.heap.size<=b/\b<w'.heap.size)/\Fe c n0 w0 w F S (Br c s o i n) w'):=
 (Xju h o i n hi hn).mono λ_ _ ⟨a,cap,e1,e2,e3,e4,e5⟩=>⟨a,cap,e1,e2,e3,F,e4,λ_ h=>.inl h,e5⟩
theorem XeF(h:Lv c n0 w0 w F S s):Xf prog 27 #[Zx S] w (λv w'=>v=.int .i64 0/\Fe c n0 w0 w F S (C5 c s) w'):=by
 obtain⟨Fr,mo,b⟩:=h.ok;have a:=XmM b (by rw[h.sc];exact h.inv);rw[h.sc] at a;exact h.ofE h.inv.tick a
theorem Xjw(h:Lv c n0 w0 w F S s)(k keep:Int):Xf prog 39 #[Zx S,.int .i64 k,.int .i64 keep] w (λv w'=>v=.int .i64 (Cv s k keep)/\Fe c n0 w0 w F S (Dj s k keep) w'):=by
 obtain⟨Fr,mo,a⟩:=h.ok;exact h.ofE (h.inv.set k keep) (XmI a (by rw[h.sc];exact h.inv) k keep)
theorem Xjy(h:Lv c n0 w0 w F S s):Xf prog 13 #[Zx S] w (λv w'=>v=.int .i64 (s.rm.tot-S.R.lap)/\Lv c n0 w0 w' F (S.relap s.rm.tot) s/\Xc (λz=>z=S.mb) w w'/\F S.mb):=by
 obtain⟨Fr,mo,a⟩:=h.ok;refine(XmK a).mono λv w' ⟨e,d,b⟩=>⟨e,⟨⟨Fr,mo,d⟩,h.inv,h.sc,?_,h.base,h.chg.since b (λz m e=>by have:=h.base z (e▸a.mb.1);have:=h.chg.size;omega)⟩,b,a.mb.1⟩;obtain⟨f1,f2,f,g,i,j,k,l⟩:=h.fx;exact⟨f1,f2,f,g,i,j,k,l⟩
theorem XeE(h:Lv c n0 w0 w F S s):Xf prog 13 #[Zx S] w (λv w'=>v=.int .i64 (s.rm.tot-S.R.lap)/\Lv c n0 w0 w' F (S.relap s.rm.tot) s/\Xc F w w'):=
 (Xjy h).mono λv w' ⟨e,a,b,d⟩=>⟨e,a,b.mono λz _ e=>e▸d⟩
theorem XeB(h:Lv c n0 w0 w F S s):Xf prog 20 #[Zx S] w (Grow (.int .i64 (Zn s.rm.pl:Nat)) w):=by obtain⟨Fr,mo,a⟩:=h.ok;exact XmA a
theorem Xjs(h:Lv c n0 w0 w F S s):Xf prog 34 #[Zx S] w (Grow (.int .i64 (Z8 s)) w):=by obtain⟨Fr,mo,a⟩:=h.ok;exact Xmx a
theorem Xjt(h:Lv c n0 w0 w F S s)(k:Int):Xf prog 16 #[Zx S,.int .i64 k] w (Grow (.int .i64 (Zf s.rm k:Nat)) w):=by obtain⟨Fr,mo,a⟩:=h.ok;exact XmE a k
theorem XaL(h:Lv c n0 w0 w F S s)(k:Int):Xf prog 15 #[Zx S,.int .i64 k] w (Grow (.int .i64 (Jk s k:Nat)) w):=by obtain⟨Fr,mo,a⟩:=h.ok;exact XmC a (by rw[h.sc];exact h.inv) k
theorem Xjx(h:Lv c n0 w0 w F S s)(o:Int):Xf prog 35 #[Zx S,.int .i64 o] w (Grow (.int .i64 (Qy s o)) w):=by obtain⟨Fr,mo,a⟩:=h.ok;exact XmJ a (by rw[h.sc];exact h.inv) o
theorem Tp(h:Lv c n0 w0 w F S s)(size:Int):Xf prog 21 #[Zx S,.int .i64 size] w (Grow (.int .i64 (Qg c s size)) w):=by
 obtain⟨Fr,mo,a⟩:=h.ok;have:=XbT a (by rw[h.sc];exact h.inv) size;rw[h.sc] at this;exact this
end
theorem XjU{c:Conf}(hm:X6 c=true)(hA:Yx c (Hp c 0)):(Ao c).Ok c:=by
 have g:=Yp hm;have b:∀(o:Nat) t,(Ao c).th[o]?≠some (some t):=λo t e=>by
  have:=XP e;simp only[Ao,YR] at this;cases this.2
 have i:∀(o:Nat) t,(Ao c).mv[o]?≠some (some t):=λo t e=>by
  have:=XP e;simp only[Ao,YR] at this;cases this.2
 have f:=hm;unfold X6 at f;simp only[XJ,decide_eq_true_eq,Qv,Bool.not_eq_true'] at f;refine⟨hm,hA,g.keep,λx d=>?_,?_,Sb _,?_,XH,λo t h=>absurd h (b o t),λo t h=>absurd h (b o t),λo t h=>absurd h (b o t),λo _ t _ h=>absurd h (b o t),λk m h=>absurd h (i k m),λk n a h=>absurd ?_ h,(by rintro _ _ ⟨⟩),(by rintro _ _ ⟨⟩)⟩
 ·have j:=f.1.1.1.1.2.2;rw[YZ] at j;have:=j x d;unfold I6 Qv at this;simp at this;omega
 ·show((Xz _).length:Int)=_
  rw[Dl];exact Y2 (ZJ (by have:=g.size;omega) (by have:=g.pages;omega))
 ·show((List.replicate c.slots.toNat none).length:Int)=_
  rw[XH];exact Y2 (by omega)
 ·unfold Zh;split
  ·rfl
  ·rename_i x d
   unfold Zc at d;split at d
   ·obtain⟨_,e⟩:=L5 d;rw[e];rfl
   ·cases d
theorem XjT(c:Conf):Z8 (Ao c)=0:=by
 rw[Gb];show((List.replicate c.slots.toNat (none:Option ThM)).map D4).sum=0
 generalize c.slots.toNat=n
 induction n with
 |zero=>rfl
 |succ n ih=>rw[ZT,ZB,YH,ih];rfl
theorem XeC(c:Conf)(p:Yu)(w:World)(hc:Ys w c p)(ht:Bb w)(hm:X6 c=true):Xf prog 28 #[.agg (Zj c p).toArray] w (λv w'=>∃F S,v=.tuple #[Zx S,.int .i64 0]/\Lv c w'.heap.size w w' F S (Ao c)/\S.R.lap=0/\S.p=p/\Xc Xe w w'):=by
 refine(XmD c p w hc ht hm).mono λv w' ⟨F,Fr,S,mo,e,a,⟨f,h⟩,i,j,g⟩=>⟨F,S,e,?_,i,h,g⟩;have d:=a.room;have b:=d.ok;rw[a.rc,f] at b;exact⟨⟨Fr,mo,by rw[XjT];exact a⟩,XjU hm ⟨b,d.mok,d.mpos⟩,f,a.fixed,j,g⟩
def As:Conf:=⟨64,4,[32],[0],8,5,3,128⟩
def Xat:List Int:=[104,101,108,108,111]
def V2:StM:=Ao As
def V3:StM:=Q8 As V2 0 20
def V4:StM:=Q8 As V3 1 20
def V5:StM:=Q8 As V4 2 20
def O7:StM:=Q8 As V5 3 20
def aw22x5:StM:=Cc As O7 3 0 Xat
def aw22x6:StM:=Bq As aw22x5 0
def aw22x7:StM:=Bq As aw22x6 2
def XcQ:StM:=C5 As aw22x7
def XcR:StM:=C5 As XcQ
def O6:StM:=C5 As XcR
def aw22x11:StM:=Br As O6 3 0 6
theorem XhP:X6 As=true:=by kernel_rfl
theorem XhF:Bh As V2 0 20=0:=by kernel_rfl
theorem XhG:Bh As V3 1 20=0:=by kernel_rfl
theorem XhH:Bh As V4 2 20=0:=by kernel_rfl
theorem XhI:Bh As V5 3 20=0:=by kernel_rfl
theorem XhV:Qp O7 3 0 5=0:=by kernel_rfl
theorem XhK:Yl aw22x5 0=0:=by kernel_rfl
theorem XhL:Yl aw22x6 2=0:=by kernel_rfl
theorem XhU:aw22x7.rm.tot-aw22x6.rm.tot=14:=by kernel_rfl
theorem XhN:Jk aw22x7 0=24:=by kernel_rfl
theorem XhR:Qp O6 3 0 6=0:=by kernel_rfl
theorem XhS:Di As O6 3 0 6=[104,101,108,108,111,0]:=by kernel_rfl
theorem XhO:Jk aw22x11 0=0:=by kernel_rfl
theorem XhM:Zn aw22x11.rm.pl=1:=by kernel_rfl
theorem XhQ:Zf aw22x11.rm 0=0:=by kernel_rfl
theorem XhJ:Z8 aw22x11=40:=by kernel_rfl
theorem XhT:Qy aw22x11 3=20:=by kernel_rfl
theorem Rd.of22{k:IntKind}{c:Array Value}{t:TypeId}(h:w.heap[b]?=some (.cells c t fz))(hc:c=(zs.map (Value.int k)).toArray):Rd k w (some ⟨b,0,none⟩) zs:=λi hi=>
 ⟨b,0,rfl,by rw[Yt h,hc];simp[hi]⟩
theorem Xjh(w:World):Xf prog 29 #[] w (λv w'=>∃p,v=.agg (Zj As p).toArray/\Ys w' As p/\Xc Xe w w'):=by
 refine ζe func29 ntmps29 ϱ (ζn ϱ λb u e1 l e o=>Xa.buildSlice Xb rfl λf x e2 g d q=>ζa ϱ (Xa.buildSlice Xb rfl λh y e3 i a r=>ζa ϱ (ζb ϱ (ζs (a.heap' (d.heap' l)) ϱ λm j c s=>?_))));have n:Ys m As ⟨some ⟨f,0,none⟩,1,some ⟨h,0,none⟩,1⟩:=
  ⟨Rd.of22 (c.heap (a.heap' g) (by omega)) rfl,Rd.of22 (c.heap i (by omega)) rfl,by decide,by decide,by unfold Ld;decide⟩
 exact ζR func29 j ϱ ⟨⟨some ⟨f,0,none⟩,1,some ⟨h,0,none⟩,1⟩,rfl,n,((e.trans d).trans a).since c (λk z t=>by omega)⟩
def O8(k:Nat):StM:=if k=0 then V2 else if k=1 then V3 else if k=2 then V4 else if k=3 then V5 else O7
theorem XhW(h:k<4):Bh As (O8 k) (k:Nat) 20=0/\Q8 As (O8 k) (k:Nat) 20=O8 (k+1):=by
 obtain rfl|rfl|rfl|rfl:k=0\/k=1\/k=2\/k=3:=by omega
 ·exact⟨XhF,rfl⟩
 ·exact⟨XhG,rfl⟩
 ·exact⟨XhH,rfl⟩
 ·exact⟨XhI,rfl⟩
def So(k:Nat):StM:=if k=0 then aw22x7 else if k=1 then XcQ else if k=2 then XcR else O6
theorem XhX(h:k<3):C5 As (So k)=So (k+1):=by
 obtain rfl|rfl|rfl:k=0\/k=1\/k=2:=by omega
 ·rfl
 ·rfl
 ·rfl
theorem Xje(w:World)(ht:Bb w):Xf prog 7 #[] w (Grow (.bool true) w):=by
 refine ζe func7 ntmps7 ϱ (ζc ϱ (Xjh w) ?_);rintro _ d ⟨p,rfl,a6,D⟩;refine ζa ϱ (ζc ϱ (XeC As p d a6 (ht.grow D) XhP) ?_);rintro _ w2 ⟨F,S,rfl,h2,am,_,b0⟩;refine ζa ϱ ?_;obtain⟨c,a8⟩:∃c,c=w2.heap.size:=⟨_,rfl⟩;rw[<-a8] at h2;refine Xa.loop (α:=Nat) (λk=>[(1,false,Zx S),(2,false,.int .i64 0),(3,false,.int .i64 k)])
  (λk w'=>k<=4/\∃F,Lv As c d w' F S (O8 k)) (λk=>4-k) 0 ⟨rfl,rfl,rfl,trivial⟩ ⟨XL _,F,h2⟩ ?_
 rintro k w3 ⟨hk,F3,B⟩ ih;refine ζa ϱ (ζg ϱ (λh=>?_) λh=>?_)
 ·have h:=of_decide_eq_true h;have a9:k<4:=by omega
  obtain⟨a1,a2⟩:=XhW a9;refine ζc ϱ (XeA B (k:Nat) 20) ?_;rintro _ w4 ⟨rfl,F4,h4,_,_⟩;refine ζa ϱ ?_;rw[a1];rw[a2] at h4;exact ζf ϱ (ζj ϱ (ih (k+1) _ _ ⟨by omega,F4,h4⟩ (by omega) ⟨rfl,rfl,rfl,trivial⟩))
 ·have h:=of_decide_eq_false h;obtain rfl:k=4:=by omega
  refine Xa.buildSlice Xb rfl λhb w4 e4 ac ad b1=>ζa ϱ (Xa.mark Xb rfl ac λw5 b2 R ae b3=>ζa ϱ ?_);rw[show O8 4=O7 from rfl] at B;have T:=ad.since ae (λz C e=>by omega);have h5:=B.grow T;have af:¬F3 hb:=λC=>by have:=B.low _ C;omega
  have E:=XeG h5 3 0 (some ⟨hb,0,none⟩) 5 Xat (by decide) (Rd.of22 R rfl) (by decide) (by decide) (by unfold Qn;decide) (λ_ b off s e C=>by cases e;exact af C);rw[show Qp O7 3 0 (Xat.length:Nat)=0 from XhV] at E;refine ζc ϱ (E) ?_;rintro _ w6 ⟨rfl,F6,U,_,_⟩;refine ζa ϱ ?_;replace U:Lv As c d w6 F6 S aw22x5:=U;have G:=XaK U 0;rw[XhK] at G;refine ζc ϱ (G) ?_;rintro _ w7 ⟨rfl,F7,V,_,_⟩;refine ζa ϱ ?_;replace V:Lv As c d w7 F7 S aw22x6:=V;refine ζc ϱ (XeE V) ?_;rintro _ w8 ⟨rfl,h8,_⟩;refine ζa rfl ?_;obtain⟨f,i⟩:∃f,f=S.relap aw22x6.rm.tot:=⟨_,rfl⟩;rw[<-i] at h8;rw[show Zx S=Zx f by rw[i];rfl];have H:=XaK h8 2;rw[XhL] at H;refine ζc ϱ (H) ?_;rintro _ w9 ⟨rfl,F9,W,_,_⟩;refine ζa ϱ ?_;replace W:Lv As c d w9 F9 f aw22x7:=W;refine ζc ϱ (XeE W) ?_;rintro _ b4 ⟨I,J,_⟩;refine ζa rfl ?_;rw[show f.R.lap=aw22x6.rm.tot by rw[i];rfl,XhU] at I;subst I;have j:=XaL J 0;rw[XhN] at j;refine ζv j ϱ λb5 a0=>?_;have K:=J.grow a0;obtain⟨g,L⟩:∃g,g=f.relap aw22x7.rm.tot:=⟨_,rfl⟩;rw[<-L] at K;rw[show Zx f=Zx g by rw[L];rfl];refine Xa.loop (α:=Nat) (λk=>[(1,false,Zx g),(2,false,.int .i64 0),(4,false,.int .i64 0),(5,false,.int .i64 0),(6,false,.int .i64 0),(7,false,.int .i64 14),(8,false,.int .i64 24),(9,false,.int .i64 k)])
   (λk w'=>k<=3/\∃F,Lv As c d w' F g (So k)) (λk=>3-k) 0 ⟨rfl,rfl,rfl,rfl,rfl,rfl,rfl,rfl,trivial⟩ ⟨XL _,F9,K⟩ ?_
  rintro k b6 ⟨b7,b8,l⟩ ai;refine ζa ϱ (ζg ϱ (λm=>?_) λm=>?_)
  ·have m:=of_decide_eq_true m;have aj:k<3:=by omega
   refine ζc ϱ (XeF l) ?_;rintro _ M ⟨rfl,n,a,_,_⟩;refine ζa ϱ ?_;rw[XhX aj] at a;exact ζj ϱ (ai (k+1) _ _ ⟨by omega,n,a⟩ (by omega) ⟨rfl,rfl,rfl,rfl,rfl,rfl,rfl,rfl,trivial⟩)
  ·have m:=of_decide_eq_false m;obtain rfl:k=3:=by omega
   rw[show So 3=O6 from rfl] at l;have o:=XeD l 3 0 6 (by decide) (by decide);rw[XhR,XhS] at o;refine ζc ϱ (o) ?_;rintro _ M ⟨b9,ak,rfl,a3,_,n,a,_,_⟩;refine ζa ϱ ?_;replace a:Lv As c d M n g aw22x11:=a;have q:=XaL a 0;rw[XhO] at q;refine ζy ϱ (ζy ϱ (ζy ϱ (ζy ϱ (ζy ϱ (ζy ϱ (ζv q ϱ λba r=>ζy ϱ ?_))))));have N:=a.grow r;have t:=XeB N;rw[XhM] at t;refine ζv t ϱ λbb u=>ζy ϱ ?_;have O:=N.grow u;have v:=Xjt O 0;rw[XhQ] at v;refine ζv v ϱ λbc x=>ζy ϱ (ζy ϱ ?_);have P:=O.grow x;refine Xa.bstrN Xb ([104,101,108,108,111,0]) rfl rfl ((((a3.chg r).chg u).chg x)) rfl (Xa.streq Xb rfl (rfl) rfl (ζy ϱ ?_));have y:=Xjs P;rw[XhJ] at y;refine ζv y ϱ λbd a4=>ζy ϱ ?_;have Q:=P.grow a4;have A:=Xjx Q 3;rw[XhT] at A;exact ζv A ϱ λbe a5=>ζr func7 ϱ ⟨rfl,(D.trans Q.chg).trans a5⟩
theorem Xcw:∀n,Y5 [.int .i64 0,.int .i64 0,.int .i64 0,.int .i64 0,.slice none 0 0] n=fl C6 (List.replicate n Iv)
 |0=>rfl
 |n+1=>by rw[Y5,Xcw n,ZT];rfl
theorem Xcx:∀n,Y5 (Cf G8) n=fl Cf (List.replicate n G8)
 |0=>rfl
 |n+1=>by rw[Y5,Xcx n,ZT];rfl
theorem Xlg(c:Conf)(p:Yu)(w:World)(hc:Ys w c p)(hm:X6 c=true)(hp:c.pages<=512):Xf prog 37 #[.agg (Zj c p).toArray] w
 (λv w'=>∃r,v=.tuple #[.agg (Zv r).toArray,.int .i64 0]/\r.c=c/\r.cp=p/\X4 w' r (Ao c)/\(∀S:Nat->Prop,(∀z,S z->z<w.heap.size)->Xj S p.ka->Am S r)/\Xc Xe w w'):=by
 have ae:=Yp hm;have an:Nb c.pages c.size=true:=by
  obtain⟨m1,m2,m3⟩:=Dr hm;exact Sk.2 (by omega)
 have b7:0<c.pages*c.size:=Int.mul_pos (by have:=ae.pages;omega) (by have:=ae.size;omega);have em:Bo c=0:=by unfold Bo;rw[if_pos hm]
 have hf:=Yp hm;have b8:=hf.n;obtain⟨N,V⟩:=XD (show 0<=c.slots by
  have:=hm;unfold X6 at this;simp only[XJ,decide_eq_true_eq,Qv] at this;omega)
 have b9:c.slots<=4096:=by
  have:=hm;unfold X6 at this;simp only[XJ,decide_eq_true_eq,Qv] at this;omega
 refine ζe func37 ntmps37 ϱ (ζn ϱ λb w1 e1 hb af ba=>ζn ϱ λqb w2 e2 ao W bb=>?_);have ag:=W.heap' hb;refine ζl ag ϱ (ζv (Xbi c p w2 (hc.chg (af.trans W))) ϱ λw3 E=>?_);rw[em];have a0:=E.heap' ag;have J:=E.heap' ao;have K:=(af.trans W).trans E;refine ζf ϱ (ζl a0 ϱ (ζl a0 ϱ (ζc ϱ (XkG c.pages c.size w3 an) ?_)));rintro _ w4 ⟨ab,rfl,bc,L,ah⟩;refine ζa ϱ ?_;obtain⟨F,i⟩:∃F:RA,F=⟨some ⟨ab,0,none⟩,(c.pages*c.size).toNat,Xz (c.pages*c.size).toNat,0⟩:=⟨_,rfl⟩;rw[<-i] at L⊢;refine ζn ϱ λt4 w5 e5 ap a1 bd=>ζs ap ϱ λw6 ak a2 be=>?_;have l:=(ah.trans a1).since a2 (λz a e=>by have:=ah.size;omega);have ai:=l.heap' a0;have C:=l.heap' J;refine ζl ai ϱ (ζc ϱ (Xk5 c p w6 (hc.chg (K.trans l)) hm hp) ?_);rintro _ w7 ⟨r2,rfl,k1,k2,k3,k4,T⟩;refine ζa ϱ (ζn ϱ λt6 w8 e8 av a3 bf=>ζs av ϱ λw9 al a4 bg=>?_);have j:=(T.trans a3).since a4 (λz a e=>by have:=T.size;omega);have U:=j.heap' ai;refine ζd 12 Xe (by kernel_rfl) ϱ λm=>δl m U ϱ (δl m U ϱ (δl m (j.heap' ak) ϱ (δl m al ϱ (δl m U ϱ (δl m U ϱ ?_)))));rw[V];refine Xd.turn2 m rfl ?_ ?_
 ·intro wa ka;refine Xp.make Xb m rfl rfl rfl (XE _) (show 56*N<=140737488355328 by omega) (by omega) (λ_=>rfl) λtb wb etb a5 a6 aw=>Xd.turn1 m rfl λwc u=>Xp.make Xb m rfl rfl rfl (XE _) (show 112*c.classes.length<=140737488355328 by omega) (by omega) (λ_=>rfl) λvb wd evb a7 G ax=>δn m ϱ λwe A=>?_;have za:=ka.size;have zc:=u.size;have H:we.heap[tb]?=some (.cells (fl C6 (List.replicate N Iv)).toArray 100 (0,0)):=by rw[<-Xcw];exact((u.trans G).trans A).heap' a5
  have I:we.heap[vb]?=some (.cells (fl Cf (List.replicate c.classes.length G8)).toArray 109 (0,0)):=by rw[<-Xcx];exact A.heap' a7
  have f:=(((ka.trans a6).trans u).trans G).trans A;have ay:=l.size;have az:=E.size;obtain⟨q,k⟩:∃q:SR,q=⟨c,p,c.keep,p.ka,p.kc,F,r2,List.replicate N Iv,some ⟨tb,0,none⟩,N,List.replicate c.classes.length G8,some ⟨vb,0,none⟩,c.classes.length⟩:=⟨_,rfl⟩;refine ζb ϱ (ζs ((j.trans f).heap' C) ϱ λwz n d b0=>?_);replace n:Zg wz qb q:=by
   have e1:(List.replicate N Iv).length=N:=XH;have e2:(List.replicate c.classes.length G8).length=c.classes.length:=XH;rw[k];unfold Zg Zv;simp only[e1,e2];rw[<-V] at n;exact n
  have g:=(((K.trans l).trans j).trans f).since d (λz a e=>by omega);have b1:=T.size;have a8:Qc wz r2 (Hp c 0):=by
   exact(k3.grow ((a3.since a4 (λz a e=>by omega)).trans f)).far (k4 _ (λz e=>by have:=Xg C;omega)) d
  have h:=((L.grow (a1.since a2 (λz a e=>by omega))).grow j).grow f;have a9:Xj (λz=>z=qb) F.a:=by rw[i];intro b' off s e a;cases e;have:=Xg J;omega
  have B:Z0 wz F:=⟨h.rd.far a9 d,h.len,h.lc,h.rng⟩;have b2:=hf.keep;have M:Yj w p.ka:=λb' off s e=>hc.keep.block (by omega) e;have aa:X4 wz q (Ao c):=by
   rw[k];exact {
    conf:=hc.chg g
    kr:=(hc.chg g).keep
    ke:=rfl
    ra:=B
    rb:=by rw[i];show Xz _=Xz _;rw[YG]
    rs:=by rw[i];rfl
    la:=λb' off s e=>B.rd.block (by rw[i];show 0<(Xz _).length;rw[Dl];omega) e
    lk:=M.grow g.size
    rr:=a8
    rc:=k1
    rp:=k2
    tr:=K2 (rest:=[]) (by rw[YB];exact d.heap H (by omega)) Oy
    tl:=by intro b' off s e;cases e;exact Xg (d.heap H (by omega))
    tc:=by rw[XH];exact XE _
    tn:=by show(List.replicate N Iv).length=(List.replicate c.slots.toNat none).length;rw[XH,XH,V];rfl
    te:=λo x t O P=>by
     have e1:=(XW ..).symm.trans O;have e2:=(XW ..).symm.trans P;split at e1 <;> split at e2 <;> first|(cases e1;done)|(cases e2;done)|(cases e1;cases e2;exact⟨rfl,λy e=>by cases e⟩)
    tq:=λt Q=>by rw[ZG Q];exact⟨Il _ _ _,λ_ _ _ e=>by cases e⟩
    mr:=K2 (rest:=[]) (by rw[YB];exact d.heap I (by omega)) O1
    ml:=by intro b' off s e;cases e;exact Xg (d.heap I (by omega))
    mc:=by rw[XH];exact XE _
    mn:=by show(List.replicate _ G8).length=(List.replicate _ none).length;rw[XH,XH]
    me:=λo x t O P=>by
     have e1:=(XW ..).symm.trans O;have e2:=(XW ..).symm.trans P;split at e1 <;> split at e2 <;> first|(cases e1;done)|(cases e2;done)|(cases e1;cases e2;exact⟨rfl,λy e=>by cases e⟩)}
  have R:∀S:Nat->Prop,(∀z,S z->z<w.heap.size)->Xj S p.ka->Am S q:=λS D hk=>by
   rw[k];refine⟨hk,?_,k4 S (λz a=>by have:=D z a;omega),?_,λt Q=>?_,?_⟩
   ·rw[i];intro b' off s e a;cases e;have:=D _ a;omega
   ·intro b' off s e a;cases e;have:=D _ a;omega
   ·rw[ZG Q];intro b' off s e;cases e
   ·intro b' off s e a;cases e;have:=D _ a;omega
  exact ζR func37 n ϱ ⟨q,rfl,by rw[k],by rw[k],aa,R,g⟩
 ·intro wa ka;refine Xp.make Xb m rfl rfl rfl (XE _) (show 112*c.classes.length<=140737488355328 by omega) (by omega) (λ_=>rfl) λvb wb evb a7 a6 aw=>Xd.turn1 m rfl λwc u=>Xp.make Xb m rfl rfl rfl (XE _) (show 56*N<=140737488355328 by omega) (by omega) (λ_=>rfl) λtb wd etb a5 G ax=>δn m ϱ λwe A=>?_;have za:=ka.size;have zc:=u.size;have H:we.heap[tb]?=some (.cells (fl C6 (List.replicate N Iv)).toArray 100 (0,0)):=by rw[<-Xcw];exact A.heap' a5
  have I:we.heap[vb]?=some (.cells (fl Cf (List.replicate c.classes.length G8)).toArray 109 (0,0)):=by rw[<-Xcx];exact((u.trans G).trans A).heap' a7
  have f:=(((ka.trans a6).trans u).trans G).trans A;have ay:=l.size;have az:=E.size;obtain⟨q,k⟩:∃q:SR,q=⟨c,p,c.keep,p.ka,p.kc,F,r2,List.replicate N Iv,some ⟨tb,0,none⟩,N,List.replicate c.classes.length G8,some ⟨vb,0,none⟩,c.classes.length⟩:=⟨_,rfl⟩;refine ζb ϱ (ζs ((j.trans f).heap' C) ϱ λwz n d b0=>?_);replace n:Zg wz qb q:=by
   have e1:(List.replicate N Iv).length=N:=XH;have e2:(List.replicate c.classes.length G8).length=c.classes.length:=XH;rw[k];unfold Zg Zv;simp only[e1,e2];rw[<-V] at n;exact n
  have g:=(((K.trans l).trans j).trans f).since d (λz a e=>by omega);have b1:=T.size;have a8:Qc wz r2 (Hp c 0):=by
   exact(k3.grow ((a3.since a4 (λz a e=>by omega)).trans f)).far (k4 _ (λz e=>by have:=Xg C;omega)) d
  have h:=((L.grow (a1.since a2 (λz a e=>by omega))).grow j).grow f;have a9:Xj (λz=>z=qb) F.a:=by rw[i];intro b' off s e a;cases e;have:=Xg J;omega
  have B:Z0 wz F:=⟨h.rd.far a9 d,h.len,h.lc,h.rng⟩;have b2:=hf.keep;have M:Yj w p.ka:=λb' off s e=>hc.keep.block (by omega) e;have aa:X4 wz q (Ao c):=by
   rw[k];exact {
    conf:=hc.chg g
    kr:=(hc.chg g).keep
    ke:=rfl
    ra:=B
    rb:=by rw[i];show Xz _=Xz _;rw[YG]
    rs:=by rw[i];rfl
    la:=λb' off s e=>B.rd.block (by rw[i];show 0<(Xz _).length;rw[Dl];omega) e
    lk:=M.grow g.size
    rr:=a8
    rc:=k1
    rp:=k2
    tr:=K2 (rest:=[]) (by rw[YB];exact d.heap H (by omega)) Oy
    tl:=by intro b' off s e;cases e;exact Xg (d.heap H (by omega))
    tc:=by rw[XH];exact XE _
    tn:=by show(List.replicate N Iv).length=(List.replicate c.slots.toNat none).length;rw[XH,XH,V];rfl
    te:=λo x t O P=>by
     have e1:=(XW ..).symm.trans O;have e2:=(XW ..).symm.trans P;split at e1 <;> split at e2 <;> first|(cases e1;done)|(cases e2;done)|(cases e1;cases e2;exact⟨rfl,λy e=>by cases e⟩)
    tq:=λt Q=>by rw[ZG Q];exact⟨Il _ _ _,λ_ _ _ e=>by cases e⟩
    mr:=K2 (rest:=[]) (by rw[YB];exact d.heap I (by omega)) O1
    ml:=by intro b' off s e;cases e;exact Xg (d.heap I (by omega))
    mc:=by rw[XH];exact XE _
    mn:=by show(List.replicate _ G8).length=(List.replicate _ none).length;rw[XH,XH]
    me:=λo x t O P=>by
     have e1:=(XW ..).symm.trans O;have e2:=(XW ..).symm.trans P;split at e1 <;> split at e2 <;> first|(cases e1;done)|(cases e2;done)|(cases e1;cases e2;exact⟨rfl,λy e=>by cases e⟩)}
  have R:∀S:Nat->Prop,(∀z,S z->z<w.heap.size)->Xj S p.ka->Am S q:=λS D hk=>by
   rw[k];refine⟨hk,?_,k4 S (λz a=>by have:=D z a;omega),?_,λt Q=>?_,?_⟩
   ·rw[i];intro b' off s e a;cases e;have:=D _ a;omega
   ·intro b' off s e a;cases e;have:=D _ a;omega
   ·rw[ZG Q];intro b' off s e;cases e
   ·intro b' off s e a;cases e;have:=D _ a;omega
  exact ζR func37 n ϱ ⟨q,rfl,by rw[k],by rw[k],aa,R,g⟩
end Go.Proofs.YtohjeeapehmkcaaGreatDoor
