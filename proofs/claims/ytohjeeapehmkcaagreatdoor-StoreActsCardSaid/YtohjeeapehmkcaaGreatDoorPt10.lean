/-
  Texts put together: Sr10, Sr11, Sr12, Sr13, Sr14, Gr, Sr15, Laws22, Aw22, Laws20, Laws20b, Laws22b, Sr16.
-/
import Derived.Test.YtohjeeapehmkcaaGreatDoorPt9
import Derived.Test.YtohjeeapehmkcaaGreatDoorQRule9
import Derived.Test.YtohjeeapehmkcaaGreatDoorQRule12
set_option linter.unusedVariables false
set_option maxRecDepth 100000
namespace Go.Proofs.YtohjeeapehmkcaaGreatDoor
open Go.RowKit
open Bool renaming and_eq_true->XK
open Int renaming toNat_natCast->XA,eq_ofNat_of_zero_le->XD,mul_le_mul->ZD,mul_nonneg->ZG,mul_comm->ZY,le_refl->YL,toNat_of_nonneg->YR
open List renaming getElem?_set_self->XG,length_replicate->XH,getElem_mem->XJ,mem_of_getElem?->XS,getElem?_replicate->XY,map_cons->ZB,eq_of_mem_replicate->ZF,replicate_succ->ZR,append_nil->ZT,sum_cons->YQ,getElem_of_mem->QE,mem_replicate->QJ
open Nat renaming le_refl->XE,zero_le->XL,mul_one->ZH,add_assoc->YE
open Go.Proofs.Tryz (func12 func29 func37 func40 func41 func42 func43 func44 func7 func9 func91 ntmps12 ntmps29 ntmps37 ntmps40 ntmps41 ntmps42 ntmps43 ntmps44 ntmps7 ntmps9 ntmps91 prog)
variable {A:Ar} {V:ArV} {c:Conf} {l':IL} {ahead by' size u who z:Int} {lg:List (Nat × List Nat)} {th:List (Option ThM)} {ps:List IL} {bs l p zs:List Int} {l2 ws:List Nat} {cs rest xs:List Value} {mo:Mo} {N at' b base cap fuel g i j k len lm lo m n n0 o off sz t tm vb xb y:Nat} {e:Nat × List Int} {fz:Nat × Nat} {f:Nat->Int} {G:Nat->Pg} {B C F F' Fr S S' T:Nat->Prop} {pd pd2:Option (Nat × PlcM)} {a:Option Addr} {pg:PgL} {P:Pl} {pl':PlM} {q:Plc} {R:Rm} {M:RmM} {r r1:SR} {x x':Sm} {s s':StM} {α:Type} {v:Value} {w w' w0 w1 w2:World}
theorem Xhb (_h:Yr c M) (k n i who:Int):I0 M.tot (Qk M k n i who) (Qk (Yl M) k n i who):=by
 unfold Qk;have e:Zs (Yl M) k=Zs M k:=rfl;rw [e];cases a:Zs M k with
 |none=>exact Ik M
 |some x=>exact Ik (Ev M k.toNat (Aq x n i who) M.pl)
theorem Xcs (h:Yr c M) (who size:Int):I0 M.tot (Af c M who size) (Af c (Yl M) who size):=by
 have ef:Y7 c (Yl M) size=Y7 c M size:=rfl;unfold Af;rw [ef];split
 ·exact Ik M
 ·split
  ·exact Ik M
  ·rename_i f
   split
   ·have b:((Z5 size c.size).toNat:Int)<=1024:=by
     have j:=h.mok.good.many;have k:=h.mok.good.len;rename_i g
     have a:=Decidable.not_not.1 f;unfold Y7 at a;split at a
     ·exact absurd a (by decide)
     ·split at a
      ·exact absurd a (by decide)
      ·rename_i d
       unfold Cp at d;rw [if_pos g] at d;omega
    obtain ⟨many,em⟩:∃ many,many=(Z5 size c.size).toNat:=⟨_,rfl⟩;rw [<- em] at b ⊢;have l : -1<=(many*4+(many - 1):Int)/\(many*4+(many - 1):Int)<=10000:=by omega
    by_cases i:many=0
    ·subst i;refine ⟨?_,?_,?_⟩
     ·show ({Dm M 0 with tot:=Xw M.tot (Xw 0 (((0:Nat):Int)*4+(((0:Nat):Int) - 1)))}:RmM)=Dm M 0
      unfold Dm Xw
      simp
     ·unfold Dm Xw; simp
     ·unfold Dm Xw; simp
    ·have e:(Dm (Yl M) many).tot=(many*4+(many - 1):Int):=Vb (n:=(many*4+(many - 1):Int)) (by omega);refine ⟨?_,by rw [e]; omega,by rw [e]; omega⟩;rw [e];rfl
   ·exact Vj h _ _
theorem Ij (hm:Zb c=true):0<=X8 c q at' n/\X8 c q at' n<=2*n+1:=by
 obtain ⟨a,b,d⟩:=Dc hm;have:=Px (page:=c.size.toNat) (by omega) n at';unfold X8;split <;> omega
abbrev Hj (c:Conf) (p:Y4) (x:RA):Value := .tuple #[.agg (Qz c p x).toArray,.int .i64 0]
abbrev E0 (c:Conf) (w:World) (r:RA) (q:Plc) (i:Nat) (l:List Int) (x:RA) (w2:World):Prop:=x.bs=Ql c q r.bs i l l.length/\x.steps=r.steps+X8 c q i l.length/\Zv w2 x/\En w r.a x.a/\Yf w2 x.a
theorem N3 {r:RA}:∀ x w2 w3,E0 c w r q i l x w2->Xc Xe w2 w3->E0 c w r q i l x w3:=fun _ _ _ ⟨a,b,c,d,e⟩ f=>⟨a,b,c.grow f,d,e.grow f.size⟩
theorem XiL (M:RmM) (k n i who:Int):{Qk (Yl M) k n i who with tot:=Xw M.tot 3}={Qk M k n i who with tot:=Xw (Qk M k n i who).tot 3}:=by
 unfold Qk;rw [show Zs (Yl M) k=Zs M k from rfl];cases Zs M k <;> rfl
theorem Xev (h:X2 w r s) (hs:s.OkP r.c pd) (ho:o<s.th.length) (hf:Qr r.c s size=0) (hL:(Y9 r.c s (o:Nat) size).OkP r.c pd2) (ht:0<=s.rm.tot/\s.rm.tot<=999999000000) :
 Xf prog 91 #[.agg (Zn r).toArray,.int .i64 (o:Nat),.int .i64 size] w (fun v w' => ∃ r',v = .agg (Zn r').toArray/\Cj w r (Y9 r.c s (o:Nat) size) r' w'):=by
 have cs:=Ye hs.may;have hn:=cs.n;have M:=hs.may;have dx:s.mv.length<=16:=by have:=hs.ml; omega
 have c8:=Ps hs.rm;have c3:0<s.bs.length:=by
  have h2:1*64<=r.c.pages*r.c.size:=ZD (by have:=cs.pages; omega) (by have:=cs.size; omega) (by omega) (by have:=cs.pages; omega);rw [ZY r.c.pages] at h2;rw [<- hs.bl] at h2;omega
 obtain ⟨g0,fj⟩:=Vp hf;have en:(Y9 r.c s (o:Nat) size).th[o]? = some (some ⟨size,Za r.c s (o:Nat) size⟩):=by
  show (s.th.set (o:Int).toNat _)[o]? = _
  rw [XA,XG ho]
 obtain ⟨pv,ph,pf⟩:=H1 hL en;simp only at pv ph pf
 have f2:∀ (n:Int) w',Xc Xe w w'->Xf prog 151 #[.agg (Ap r.rr).toArray,.int .i64 n] w' (Grow (.int .i64 (Xm r.c.classes n)) w'):=fun n w' p=>by
  have:=Pn r.rr n w' (by rw [h.rc,h.rp]; exact (h.grow p).conf.classes) (by rw [h.rc]; omega);rw [h.rc] at this;exact this
 refine ζe func91 ntmps91 ϱ (ζn ϱ fun b w1 e1 hb f3 g1=>ζn ϱ fun qb N e2 ae dy g2 => ?_);have cw:=dy.heap' hb;have bi:=f3.trans dy;refine ζl cw ϱ (ζv (f2 size N bi) ϱ fun w3 b0 => ?_);refine ζn ϱ fun pb w4 e4 bj c4 g3 => ?_;refine ζl (c4.heap' (b0.heap' cw)) ϱ (ζn ϱ fun tb w5 e5 eo c9 g4=>ζs eo ϱ fun w6 ba dz g5 => ?_);have cn:=((b0.trans c4).trans c9).since dz (fun z u e=>by have:=b0.size; have:=c4.size; omega);have e0:=cn.heap' cw;have co:=cn.heap' ae;have cp:=dz.heap (c9.heap' bj) (by have:=Xg bj; omega);have cx:=bi.trans cn;refine ζl e0 ϱ (ζv (Ji (h.grow cx) dx (Xm r.c.classes size)) ϱ fun w7 T => ?_);have H:=cx.trans T;have af:=T.heap' e0;by_cases O:Em r.c s size=none
 ·have eS:Zd r.c s (o:Nat) size={s with rm:=Af r.c s.rm (o:Nat) size}:=by unfold Zd; rw [O]
  have eQ:Za r.c s (o:Nat) size=Bg r.c s.rm (o:Nat) size:=by unfold Za; rw [O]
  have hC:=Xcs hs.rm (o:Int) size;have bk:(Xz s (Xm r.c.classes size)).isSome=false\/((Xz s (Xm r.c.classes size)).isSome=true/\Yg s.rm (Xm r.c.classes size)≠0):=by
   unfold Em at O;cases hm:Xz s (Xm r.c.classes size) with
   |none=>exact .inl rfl
   |some m =>
    rw [hm] at O;simp only at O
    refine .inr ⟨rfl,fun e => ?_⟩;rw [if_pos e] at O;cases O
  rcases bk with bk | ⟨bk,cz⟩
  ·rw [bk];refine ζf ϱ (ζl af ϱ ?_);have hP:=Xen r.rr (Yl s.rm) (o:Nat) size w7 ((h.grow H).rr) c8.mok (by rw [h.rc]; exact c8.ok) ⟨YL _,show (0:Int)<=4611686018427000000 by decide⟩ (by rw [h.rc,h.rp]; exact (h.grow H).conf.classes) (by rw [h.rc]; exact M);rw [h.rc] at hP;refine ζc ϱ (hP) ?_;rintro _ w8 ⟨f4,q,rfl,ay,cq,d1,al,bl⟩;refine ζa ϱ (ζn ϱ fun xb w9 e9 ah bm e6=>ζn ϱ fun yb f5 f6 c5 bn ep=>ζs (bn.heap' ah) ϱ fun f7 c6 bo er => ?_);have lyx:yb≠xb:=by have:=Xg ah; omega
   refine ζs (bo.heap c5 lyx) ϱ fun f8 ax az es => ?_;have ai:=((bm.trans bn).since bo (fun z u e=>by omega)).since az (fun z u e=>by have:=bm.size; omega);have aj:=bl.trans ai;refine ζl (aj.heap' af) ϱ (ζl (az.heap c6 (fun e=>lyx e.symm)) ϱ (ζc ϱ (Nj (h.grow (H.trans aj)) (cq.grow ai) d1 ⟨hC.2.1,ht.1,by have:=hC.2.2; omega⟩) ?_));rintro _ d2 ⟨a,rfl,_,ak,l,ad⟩;refine ζa ϱ ?_;rw [hC.1,<- eS] at ak;have e7:=Xg (T.heap' ba);have ea:N.heap.size<=pb/\N.heap.size<=tb:=⟨by have:=b0.size; omega,by have:=b0.size; have:=c4.size; omega⟩;have A:=aj.trans ad;refine ζs (A.heap' (T.heap' ba)) ϱ fun eb b1 C d3 => ?_;have a7:=(H.trans A).since C (fun z u e=>by omega);have a8:∀ {w':World},Xc Xe w w'->Yp w' a.c a.cp:=fun hc=>by have:=h.conf.chg hc; rw [l.1,l.2.1]; exact this
   have z8:=bl.size;have ltp:tb≠pb:=by have:=Xg bj; have:=c9.size; omega
   refine ζl (C.heap (ad.heap' ax) (by have:=bm.size; omega)) ϱ (ζs (C.heap (A.heap' (T.heap' cp)) (fun e=>ltp e.symm)) ϱ fun D K F d5 => ?_);have P:=F.heap b1 ltp;have a9:=a7.since F (fun z u e=>by omega);have i:=(ak.far (l.2.2 (fun z=>z=tb) (fun z e=>by omega) (h.out fun z e=>by omega)) (a8 a7) C).far (l.2.2 (fun z=>z=pb) (fun z e=>by omega) (h.out fun z e=>by omega)) (a8 a9) F;obtain ⟨y1,y2,y3,y4⟩:=Ms r.c s (o:Nat) size;have E:a.c=r.c/\a.cp=r.cp:=⟨l.1,l.2.1⟩;have b2:Xc (fun z=>z=tb\/z=pb) w8 D:=(((ai.trans ad).gr).trans (C.mono fun _ _ e => .inl e)).trans (F.mono fun _ _ e => .inr e);have W:Zf D q:=⟨al.ok.rd.far (fun b' off s' e u=>by have:=al.fresh b' off s' e; omega) b2,al.ok.len⟩;have bc:q.pages.length<=4096:=by rw [show q.pages=(Za r.c s (o:Nat) size).pages by rw [eQ]; exact congrArg PlcM.pages ay]; exact pf
   have ca:∀ w',Xc Xe D w'->Xf prog 158 #[.agg (Zl a.c a.cp).toArray,.agg (Xt q).toArray] w' (Grow (.int .i64 (Zt a.c q)) w'):=fun w' p=>Po a.c a.cp q w' ((i.grow p).conf) (W.grow p) (by rw [E.1]; exact M) (by omega);have am:0<=a.ra.steps/\a.ra.steps<=1152921504606846976:=by
    rw [i.rs,eS,<- hC.1];show 0<=Xw s.rm.tot _/\Xw s.rm.tot _<=_
    rw [Ba (by have:=hC.2; omega)];have:=hC.2;omega
   have ec:w7.heap.size<=D.heap.size:=by have:=A.size; have:=C.size; have:=F.size; omega
   have bd:∀ b' off s',q.pa=some ⟨b',off,s'⟩->w7.heap.size<=b':=fun b' off s' e=>al.fresh b' off s' e;refine ζd 13 Xe (by kernel_rfl) ϱ fun G=>δl G P ϱ (δv G (fun w' p=>(Ka (w:=w') (r:=a))) ϱ (δl G K ϱ (δl G P ϱ (δl G K ϱ (δv G (fun w' p=>ca w' p) ϱ ?_)))));have cb:=Gn (c:=r.c) (q:=q) M bc;obtain ⟨f,ehn⟩:=XD cb.1;have cc:Ya r.c q=true:=by rw [N1,show Xx q=Za r.c s (o:Nat) size by rw [eQ]; exact ay]; exact pv
   rw [show Zt a.c q=((f:Nat):Int) by rw [E.1]; exact ehn];have cd:∀ w',Xc Xe D w'->Xf prog 96 #[.agg (Qz a.c a.cp a.ra).toArray,.agg (Xt q).toArray,.int .i64 0,.int .i64 (f:Nat)] w' (fun v N=>Xc Xe w' N /\ ∃ x:RA,v=Hj a.c a.cp x/\E0 r.c D a.ra q 0 (Xy f) x N /\ ∀ b,D.heap.size<=b->(b<w'.heap.size\/N.heap.size<=b)->Xj (fun z=>z=b) x.a):=fun w' p=>by
    have U:=C8 f;have an:a.ra.bs=s.bs:=by rw [i.rb,y3]
    have hh:=S5 a.c a.cp a.ra q 0 f w' ((i.grow p).conf) (W.grow p) (by rw [E.1]; exact M) bc (by rw [E.1]; exact Fw cc (by omega) (by omega) (by omega)) ((i.grow p).ra) (by rw [an,E.1]; exact hs.bl) am;rw [E.1] at hh ⊢;refine hh.mono fun v N ⟨x,x1,x2,x3,x4,x5,x6⟩=>⟨x6,x,x1,⟨by rw [U]; exact x2,by rw [U]; exact x3,x4,?_,?_⟩,fun b hb ed => ?_⟩
    ·exact x5.imp id (fun ⟨g,off,e,hg⟩=>⟨g,off,e,by have:=p.size; omega⟩)
    ·exact fun b' off' s' e=>x4.rd.block (by rw [x2,Ga,an]; exact c3) e
    ·intro b' off' s' e u;have ee:=x4.rd.block (by rw [x2,Ga,an]; exact c3) e;rcases x5 with e' | ⟨g,off,e',hg⟩
     ·have:=i.la b' off' s' (e'▸e); omega
     ·rw [e'] at e; cases e; omega
   refine Xd.callAllocG (Hj a.c a.cp) (E0 r.c D a.ra q 0 (Xy f)) ((fun x b=>Xj (fun z=>z=b) x.a)) Xb G rfl rfl rfl (fun _=>rfl) rfl (fun _=>rfl) (fun _=>rfl) rfl rfl (fun _ _=>rfl) rfl (fun _ _=>rfl) (cd) (N3) ((fun _ h=>h.elim)) ?_;rintro nb x ef eg cg bt ⟨q1,q2,q3,q4,q5⟩ ch;refine Xd.turn1 G rfl fun eh I=>Xq.store Xb G rfl (I.heap' cg) (by first | (intro h; exact rfl) | (intro h; omega)) rfl rfl rfl fun ci b4 a5 df=>δn G ϱ fun cj Q => ?_;have ei:=I.size;have ao:=(bt.trans I).since a5 (fun z u e=>by omega);have d:=ao.trans Q;have b5:Zv ci x:=⟨((q3.grow I).rd).far ch a5,q3.len,q3.lc,q3.rng⟩;have b6:=Q.heap' b4;have b7:=d.heap' P;refine ζl b6 ϱ (ζs b7 ϱ fun ap R B dg => ?_);obtain ⟨V,J⟩:∃ V:SR,V={a with ra:=x}:=⟨_,rfl⟩;replace R:X6 ap tb V:=by rw [J]; exact R
   have U:=C8 f;have aa:Xx q=Za r.c s (o:Nat) size:=by rw [eQ]; exact ay
   have dh:0<=X8 r.c q 0 f/\X8 r.c q 0 f<=50000000:=by
    have:=Ij (q:=q) (at':=0) (n:=f) M;omega
   have b8:x.steps=Xw (Zd r.c s (o:Nat) size).rm.tot (X8 r.c (Za r.c s (o:Nat) size).plc 0 f):=by
    rw [q2,U,<- aa,<- Gx,i.rs,Ba (by have:=am; rw [i.rs] at this; omega)]
   have bu:X2 cj V (Z4 r.c (Zd r.c s (o:Nat) size) (Za r.c s (o:Nat) size) 0 (Xy f)):=by
    have h1:=i.putRa d (ra:=x) (bs:=Ql r.c (Za r.c s (o:Nat) size).plc (Zd r.c s (o:Nat) size).bs 0 (Xy f) (Xy f).length) (t:=Xw (Zd r.c s (o:Nat) size).rm.tot (X8 r.c (Za r.c s (o:Nat) size).plc 0 (Xy f).length)) (b5.grow Q) (by rw [q1,i.rb,<- aa,<- I9]) (by rw [U]; exact b8) (q5.grow ((I.gr.trans a5).size |> fun h=>by have:=Q.size; omega));rw [J];exact h1
   have L:Zp w7 r V:=⟨by rw [J]; exact l.1,by rw [J]; exact l.2.1,fun S hS aq=>by
    have ar:=l.2.2 S hS aq;rw [J];exact {ar with ra:=(ar.ra.newer q4 (fun z u=>by have:=hS z u; omega))}⟩
   have ab:=(a9.trans d).since B (fun z u e=>by omega);have au:=W.grow d;have bv:Zf ap q:=⟨au.rd.far (fun b' off s' e u=>by have:=bd b' off s' e; omega) B,au.len⟩;refine ζl R ϱ (ζl (B.heap (d.heap' K) (fun e=>ltp e.symm)) ϱ (ζb ϱ (ζc ϱ ((Nk (bu.far (L.2.2 (fun z=>z=tb) (fun z e=>by omega) (h.out fun z e=>by omega)) (by have:=h.conf.chg ab; rw [L.1,L.2.1]; exact this) B) (show (Zd r.c s (o:Nat) size).th.length<=4096 by rw [y1]; exact Jp hs) o (show o<(Zd r.c s (o:Nat) size).th.length by rw [y1]; exact ho) ⟨size,q⟩ (some ⟨size,Za r.c s (o:Nat) size⟩) ⟨rfl,fun y e=>by cases e; exact aa⟩ ⟨bv,((al.lt.grow b2.size).grow d.size).grow B.size⟩)) ?_)));rintro _ ej ⟨be,rfl,ck,⟨bw,bx,bz⟩,av⟩;refine ζa ϱ ?_;refine ζs (av.heap' (B.heap (d.heap' (F.heap (C.heap (A.heap' (T.heap' co)) (by have:=Xg ae; omega)) (by have:=Xg ae; omega))) (by have:=Xg ae; omega))) ϱ fun ek b9 aw dj => ?_;have lqb:=Xg ae;have ac:=(ab.trans av).since aw (fun z u e=>by omega);have zu:w7.heap.size<=ap.heap.size:=by have:=d.size; have:=B.size; omega
   have bf:Zp N r be:=⟨bw.trans L.1,bx.trans L.2.1,fun S hS aq=>bz S (fun z u=>by have:=hS z u; omega) (L.2.2 S (fun z u=>by have:=hS z u; omega) aq) (fun b' off s' e u=>by have:=hS _ u; have:=bd b' off s' e; omega)⟩;have eL:Y9 r.c s (o:Nat) size={Z4 r.c (Zd r.c s (o:Nat) size) (Za r.c s (o:Nat) size) 0 (Xy f) with th:=(Zd r.c s (o:Nat) size).th.set o (some ⟨size,Za r.c s (o:Nat) size⟩)}:=by
    unfold Y9;rw [y1,XA,<- aa,<- N0,ehn,XA]
   rw [eL];exact ζR func91 b9 ϱ ⟨be,rfl,h.box bf ck (by omega) (by omega) aw ac,bf.back bi.size,ac⟩
  ·rw [bk];refine ζy ϱ (ζl af ϱ ?_);have cl:=S4 r.rr (Yl s.rm) (Xm r.c.classes size) w7 (h.grow H).rr;rw [show Yg (Yl s.rm) (Xm r.c.classes size)=Yg s.rm (Xm r.c.classes size) from rfl] at cl;refine ζv cl ϱ fun w7 c0 => ?_;have af:=c0.heap' af;have T:=T.trans c0;have H:=H.trans c0;refine ζF ϱ (by simpa using cz) (ζl af ϱ ?_);have hP:=Xen r.rr (Yl s.rm) (o:Nat) size w7 ((h.grow H).rr) c8.mok (by rw [h.rc]; exact c8.ok) ⟨YL _,show (0:Int)<=4611686018427000000 by decide⟩ (by rw [h.rc,h.rp]; exact (h.grow H).conf.classes) (by rw [h.rc]; exact M);rw [h.rc] at hP;refine ζc ϱ (hP) ?_;rintro _ w8 ⟨f4,q,rfl,ay,cq,d1,al,bl⟩;refine ζa ϱ (ζn ϱ fun xb w9 e9 ah bm e6=>ζn ϱ fun yb f5 f6 c5 bn ep=>ζs (bn.heap' ah) ϱ fun f7 c6 bo er => ?_);have lyx:yb≠xb:=by have:=Xg ah; omega
   refine ζs (bo.heap c5 lyx) ϱ fun f8 ax az es => ?_;have ai:=((bm.trans bn).since bo (fun z u e=>by omega)).since az (fun z u e=>by have:=bm.size; omega);have aj:=bl.trans ai;refine ζl (aj.heap' af) ϱ (ζl (az.heap c6 (fun e=>lyx e.symm)) ϱ (ζc ϱ (Nj (h.grow (H.trans aj)) (cq.grow ai) d1 ⟨hC.2.1,ht.1,by have:=hC.2.2; omega⟩) ?_));rintro _ d2 ⟨a,rfl,_,ak,l,ad⟩;refine ζa ϱ ?_;rw [hC.1,<- eS] at ak;have e7:=Xg (T.heap' ba);have ea:N.heap.size<=pb/\N.heap.size<=tb:=⟨by have:=b0.size; omega,by have:=b0.size; have:=c4.size; omega⟩;have A:=aj.trans ad;refine ζs (A.heap' (T.heap' ba)) ϱ fun eb b1 C d3 => ?_;have a7:=(H.trans A).since C (fun z u e=>by omega);have a8:∀ {w':World},Xc Xe w w'->Yp w' a.c a.cp:=fun hc=>by have:=h.conf.chg hc; rw [l.1,l.2.1]; exact this
   have z8:=bl.size;have ltp:tb≠pb:=by have:=Xg bj; have:=c9.size; omega
   refine ζl (C.heap (ad.heap' ax) (by have:=bm.size; omega)) ϱ (ζs (C.heap (A.heap' (T.heap' cp)) (fun e=>ltp e.symm)) ϱ fun D K F d5 => ?_);have P:=F.heap b1 ltp;have a9:=a7.since F (fun z u e=>by omega);have i:=(ak.far (l.2.2 (fun z=>z=tb) (fun z e=>by omega) (h.out fun z e=>by omega)) (a8 a7) C).far (l.2.2 (fun z=>z=pb) (fun z e=>by omega) (h.out fun z e=>by omega)) (a8 a9) F;obtain ⟨y1,y2,y3,y4⟩:=Ms r.c s (o:Nat) size;have E:a.c=r.c/\a.cp=r.cp:=⟨l.1,l.2.1⟩;have b2:Xc (fun z=>z=tb\/z=pb) w8 D:=(((ai.trans ad).gr).trans (C.mono fun _ _ e => .inl e)).trans (F.mono fun _ _ e => .inr e);have W:Zf D q:=⟨al.ok.rd.far (fun b' off s' e u=>by have:=al.fresh b' off s' e; omega) b2,al.ok.len⟩;have bc:q.pages.length<=4096:=by rw [show q.pages=(Za r.c s (o:Nat) size).pages by rw [eQ]; exact congrArg PlcM.pages ay]; exact pf
   have ca:∀ w',Xc Xe D w'->Xf prog 158 #[.agg (Zl a.c a.cp).toArray,.agg (Xt q).toArray] w' (Grow (.int .i64 (Zt a.c q)) w'):=fun w' p=>Po a.c a.cp q w' ((i.grow p).conf) (W.grow p) (by rw [E.1]; exact M) (by omega);have am:0<=a.ra.steps/\a.ra.steps<=1152921504606846976:=by
    rw [i.rs,eS,<- hC.1];show 0<=Xw s.rm.tot _/\Xw s.rm.tot _<=_
    rw [Ba (by have:=hC.2; omega)];have:=hC.2;omega
   have ec:w7.heap.size<=D.heap.size:=by have:=A.size; have:=C.size; have:=F.size; omega
   have bd:∀ b' off s',q.pa=some ⟨b',off,s'⟩->w7.heap.size<=b':=fun b' off s' e=>al.fresh b' off s' e;refine ζd 13 Xe (by kernel_rfl) ϱ fun G=>δl G P ϱ (δv G (fun w' p=>(Ka (w:=w') (r:=a))) ϱ (δl G K ϱ (δl G P ϱ (δl G K ϱ (δv G (fun w' p=>ca w' p) ϱ ?_)))));have cb:=Gn (c:=r.c) (q:=q) M bc;obtain ⟨f,ehn⟩:=XD cb.1;have cc:Ya r.c q=true:=by rw [N1,show Xx q=Za r.c s (o:Nat) size by rw [eQ]; exact ay]; exact pv
   rw [show Zt a.c q=((f:Nat):Int) by rw [E.1]; exact ehn];have cd:∀ w',Xc Xe D w'->Xf prog 96 #[.agg (Qz a.c a.cp a.ra).toArray,.agg (Xt q).toArray,.int .i64 0,.int .i64 (f:Nat)] w' (fun v N=>Xc Xe w' N /\ ∃ x:RA,v=Hj a.c a.cp x/\E0 r.c D a.ra q 0 (Xy f) x N /\ ∀ b,D.heap.size<=b->(b<w'.heap.size\/N.heap.size<=b)->Xj (fun z=>z=b) x.a):=fun w' p=>by
    have U:=C8 f;have an:a.ra.bs=s.bs:=by rw [i.rb,y3]
    have hh:=S5 a.c a.cp a.ra q 0 f w' ((i.grow p).conf) (W.grow p) (by rw [E.1]; exact M) bc (by rw [E.1]; exact Fw cc (by omega) (by omega) (by omega)) ((i.grow p).ra) (by rw [an,E.1]; exact hs.bl) am;rw [E.1] at hh ⊢;refine hh.mono fun v N ⟨x,x1,x2,x3,x4,x5,x6⟩=>⟨x6,x,x1,⟨by rw [U]; exact x2,by rw [U]; exact x3,x4,?_,?_⟩,fun b hb ed => ?_⟩
    ·exact x5.imp id (fun ⟨g,off,e,hg⟩=>⟨g,off,e,by have:=p.size; omega⟩)
    ·exact fun b' off' s' e=>x4.rd.block (by rw [x2,Ga,an]; exact c3) e
    ·intro b' off' s' e u;have ee:=x4.rd.block (by rw [x2,Ga,an]; exact c3) e;rcases x5 with e' | ⟨g,off,e',hg⟩
     ·have:=i.la b' off' s' (e'▸e); omega
     ·rw [e'] at e; cases e; omega
   refine Xd.callAllocG (Hj a.c a.cp) (E0 r.c D a.ra q 0 (Xy f)) ((fun x b=>Xj (fun z=>z=b) x.a)) Xb G rfl rfl rfl (fun _=>rfl) rfl (fun _=>rfl) (fun _=>rfl) rfl rfl (fun _ _=>rfl) rfl (fun _ _=>rfl) (cd) (N3) ((fun _ h=>h.elim)) ?_;rintro nb x ef eg cg bt ⟨q1,q2,q3,q4,q5⟩ ch;refine Xd.turn1 G rfl fun eh I=>Xq.store Xb G rfl (I.heap' cg) (by first | (intro h; exact rfl) | (intro h; omega)) rfl rfl rfl fun ci b4 a5 df=>δn G ϱ fun cj Q => ?_;have ei:=I.size;have ao:=(bt.trans I).since a5 (fun z u e=>by omega);have d:=ao.trans Q;have b5:Zv ci x:=⟨((q3.grow I).rd).far ch a5,q3.len,q3.lc,q3.rng⟩;have b6:=Q.heap' b4;have b7:=d.heap' P;refine ζl b6 ϱ (ζs b7 ϱ fun ap R B dg => ?_);obtain ⟨V,J⟩:∃ V:SR,V={a with ra:=x}:=⟨_,rfl⟩;replace R:X6 ap tb V:=by rw [J]; exact R
   have U:=C8 f;have aa:Xx q=Za r.c s (o:Nat) size:=by rw [eQ]; exact ay
   have dh:0<=X8 r.c q 0 f/\X8 r.c q 0 f<=50000000:=by
    have:=Ij (q:=q) (at':=0) (n:=f) M;omega
   have b8:x.steps=Xw (Zd r.c s (o:Nat) size).rm.tot (X8 r.c (Za r.c s (o:Nat) size).plc 0 f):=by
    rw [q2,U,<- aa,<- Gx,i.rs,Ba (by have:=am; rw [i.rs] at this; omega)]
   have bu:X2 cj V (Z4 r.c (Zd r.c s (o:Nat) size) (Za r.c s (o:Nat) size) 0 (Xy f)):=by
    have h1:=i.putRa d (ra:=x) (bs:=Ql r.c (Za r.c s (o:Nat) size).plc (Zd r.c s (o:Nat) size).bs 0 (Xy f) (Xy f).length) (t:=Xw (Zd r.c s (o:Nat) size).rm.tot (X8 r.c (Za r.c s (o:Nat) size).plc 0 (Xy f).length)) (b5.grow Q) (by rw [q1,i.rb,<- aa,<- I9]) (by rw [U]; exact b8) (q5.grow ((I.gr.trans a5).size |> fun h=>by have:=Q.size; omega));rw [J];exact h1
   have L:Zp w7 r V:=⟨by rw [J]; exact l.1,by rw [J]; exact l.2.1,fun S hS aq=>by
    have ar:=l.2.2 S hS aq;rw [J];exact {ar with ra:=(ar.ra.newer q4 (fun z u=>by have:=hS z u; omega))}⟩
   have ab:=(a9.trans d).since B (fun z u e=>by omega);have au:=W.grow d;have bv:Zf ap q:=⟨au.rd.far (fun b' off s' e u=>by have:=bd b' off s' e; omega) B,au.len⟩;refine ζl R ϱ (ζl (B.heap (d.heap' K) (fun e=>ltp e.symm)) ϱ (ζb ϱ (ζc ϱ ((Nk (bu.far (L.2.2 (fun z=>z=tb) (fun z e=>by omega) (h.out fun z e=>by omega)) (by have:=h.conf.chg ab; rw [L.1,L.2.1]; exact this) B) (show (Zd r.c s (o:Nat) size).th.length<=4096 by rw [y1]; exact Jp hs) o (show o<(Zd r.c s (o:Nat) size).th.length by rw [y1]; exact ho) ⟨size,q⟩ (some ⟨size,Za r.c s (o:Nat) size⟩) ⟨rfl,fun y e=>by cases e; exact aa⟩ ⟨bv,((al.lt.grow b2.size).grow d.size).grow B.size⟩)) ?_)));rintro _ ej ⟨be,rfl,ck,⟨bw,bx,bz⟩,av⟩;refine ζa ϱ ?_;refine ζs (av.heap' (B.heap (d.heap' (F.heap (C.heap (A.heap' (T.heap' co)) (by have:=Xg ae; omega)) (by have:=Xg ae; omega))) (by have:=Xg ae; omega))) ϱ fun ek b9 aw dj => ?_;have lqb:=Xg ae;have ac:=(ab.trans av).since aw (fun z u e=>by omega);have zu:w7.heap.size<=ap.heap.size:=by have:=d.size; have:=B.size; omega
   have bf:Zp N r be:=⟨bw.trans L.1,bx.trans L.2.1,fun S hS aq=>bz S (fun z u=>by have:=hS z u; omega) (L.2.2 S (fun z u=>by have:=hS z u; omega) aq) (fun b' off s' e u=>by have:=hS _ u; have:=bd b' off s' e; omega)⟩;have eL:Y9 r.c s (o:Nat) size={Z4 r.c (Zd r.c s (o:Nat) size) (Za r.c s (o:Nat) size) 0 (Xy f) with th:=(Zd r.c s (o:Nat) size).th.set o (some ⟨size,Za r.c s (o:Nat) size⟩)}:=by
    unfold Y9;rw [y1,XA,<- aa,<- N0,ehn,XA]
   rw [eL];exact ζR func91 b9 ϱ ⟨be,rfl,h.box bf ck (by omega) (by omega) aw ac,bf.back bi.size,ac⟩
 ·obtain ⟨m,O⟩:∃ m,Em r.c s size=some m:=Option.ne_none_iff_exists'.1 O;have eS:Zd r.c s (o:Nat) size=Qf {s with mv:=s.mv.set (Xm r.c.classes size).toNat none,rm:=Qk s.rm (Xm r.c.classes size) m.pt m.ta (o:Nat)} 3:=by unfold Zd; rw [O]
  have eQ:Za r.c s (o:Nat) size=⟨Xm r.c.classes size,m.pt,m.ta,[]⟩:=by unfold Za; rw [O]
  obtain ⟨k,ct,hk,el,cz⟩:∃ k:Nat,Xm r.c.classes size=k/\k<s.mv.length/\s.mv[k]? = some (some m)/\Yg s.rm (Xm r.c.classes size)=0:=by
   unfold Em at O;cases hm:Xz s (Xm r.c.classes size) with
   |none=>rw [hm] at O; cases O
   |some m' =>
    rw [hm] at O;simp only at O
    split at O
    ·cases O
     obtain ⟨k,e1,e2,e3⟩:=Q9 hm;exact ⟨k,e1,e2,e3,by assumption⟩
    ·cases O
  have bk:(Xz s (Xm r.c.classes size)).isSome=true:=by rw [ct,C0 el]; rfl
  rw [bk];refine ζy ϱ (ζl af ϱ ?_);have cl:=S4 r.rr (Yl s.rm) (Xm r.c.classes size) w7 (h.grow H).rr;rw [show Yg (Yl s.rm) (Xm r.c.classes size)=Yg s.rm (Xm r.c.classes size) from rfl,cz] at cl;refine ζv cl ϱ fun w7 c0 => ?_;have af:=c0.heap' af;have T:=T.trans c0;have H:=H.trans c0;refine ζy ϱ ?_;have fb:k<r.ms.length:=by have:=h.mn; omega
  obtain ⟨⟨_,hv⟩,a0,off,ema,dq⟩:=(h.grow H).mrow fb;obtain ⟨_,v2,v3,v4,v5,_⟩:=hv m (C0 el);have fc:∀ j v,([.int .i64 m.pf,.int .i64 m.fa,.int .i64 m.pt,.int .i64 m.ta]:List Value)[j]? = some v->w7.cell? ⟨a0,off+k*12+2+j,none⟩=some v:=fun j v hv=>by
   have hj:j<4:=(List.getElem?_eq_some_iff.1 hv).1;rw [YE];refine dq (2+j) v ?_;rw [<- hv];obtain rfl | rfl | rfl | rfl:j=0\/j=1\/j=2\/j=3:=by omega
   all_goals rw [<- v2,<- v3,<- v4,<- v5]; rfl
  rw [ct];refine ζl af ϱ ?_;rw [ema];refine ζi (k*12) ϱ (Xa.loadC Xb ([.int .i64 m.pf,.int .i64 m.fa,.int .i64 m.pt,.int .i64 m.ta]) rfl (by first | rfl | (simp; done) | (simp [*]; done) | (simp; omega)) (fc) rfl (ζn ϱ fun xb w8 e8 et bl g6=>ζs et ϱ fun w9 ah fd e6 => ?_));have bb:=bl.since fd (fun z u e=>by omega);refine ζl (bb.heap' af) ϱ (ζl ah ϱ (ζl ah ϱ (ζc ϱ (XjI r.rr (Yl s.rm) (k:Nat) m.pt m.ta (o:Nat) w9 ((h.grow (H.trans bb)).rr) c8.mok ⟨YL _,show (0:Int)<=4611686018427000000 by decide⟩) ?_)));rintro _ g7 ⟨c1,rfl,cu,cr,eu⟩;have fe:(Qk (Yl s.rm) (k:Nat) m.pt m.ta (o:Nat)).tot=0:=by unfold Qk; split <;> rfl
  have fi:=cu.st.trans fe;refine ζa ϱ (ζn ϱ fun yb g8 g9 dr ew ft=>ζs dr ϱ fun ga ax az fu => ?_);refine ζl ax ϱ (ζj ϱ (ζs ax ϱ fun em ds ex fv => ?_));have cm:=(ew.since az (fun z u e=>by omega)).since ex (fun z u e=>by omega);have bh:=eu.trans cm;have A:=bb.trans bh;have dt:=bh.heap' ah;have ff:∀ w',Xc Xe em w'->Xf prog 156 #[.agg (Zn r).toArray,.int .i64 (k:Nat),.agg (B1 Gp).toArray] w' (fun v N=>Xc Xe w' N /\ ∃ r',v = .agg (Zn r').toArray/\r'.rr=r.rr/\X2 N r' {s with mv:=s.mv.set k none}/\Zp em r r'):=fun w' p =>
   (Pp (h.grow ((H.trans A).trans p)) dx k hk Gp none ⟨rfl,fun _ e=>by cases e⟩).mono fun v N ⟨r',e,a1,a2,a3,a4⟩=>⟨a4,r',e,a1,a2,a3.back p.size⟩
  refine ζd 5 Xe (by kernel_rfl) ϱ fun G=>δl G (A.heap' af) ϱ (Xd.build Xb G rfl rfl (δl G ds ϱ (Xd.callQ G rfl rfl (ff) ?_)));rintro _ gb ey ⟨fg,rfl,c7,ez,f0⟩;refine Xd.adv Xb G rfl (δn G ϱ fun fh dk => ?_);have c2:=ey.trans dk;have du:Yz fh {c1 with steps:=c1.steps+3} {Qk (Yl s.rm) (k:Nat) m.pt m.ta (o:Nat) with tot:=3}:={cu.grow (cm.trans c2) with st:=by show c1.steps+3=3; omega};have dv:Q2 w9 fg.rr {c1 with steps:=c1.steps+3}:=⟨by rw [c7]; exact cr.1,by rw [c7]; exact cr.2.1,fun S hS ho=>by
   rw [c7] at ho;have:=cr.2.2 S hS ho;exact ⟨this.o,this.f,this.sa,this.each,this.la,this.lgo⟩⟩
  refine ζc ϱ (Nj (ez.grow dk) du dv ⟨show (0:Int)<=3 by decide,ht.1,by show s.rm.tot+3<=_; have:=ht.2; omega⟩) ?_;rintro _ d2 ⟨a,rfl,_,ak,l,ad⟩;refine ζa ϱ ?_;have e3:({s with mv:=s.mv.set k none,rm:={Qk (Yl s.rm) (k:Nat) m.pt m.ta (o:Nat) with tot:=Xw s.rm.tot 3}}:StM)=Zd r.c s (o:Nat) size:=by
   rw [eS,ct,XA,XiL];rfl
  replace ak:X2 d2 a (Zd r.c s (o:Nat) size):=by rw [<- e3]; exact ak
  have A:=(bb.trans (bh.trans c2)).trans ad;replace l:=(f0.back (by have:=bb.size; have:=bh.size; omega)).trans l bb.size;have e7:=Xg (T.heap' ba);have ea:N.heap.size<=pb/\N.heap.size<=tb:=⟨by have:=b0.size; omega,by have:=b0.size; have:=c4.size; omega⟩;refine ζs (A.heap' (T.heap' ba)) ϱ fun eb b1 C d3 => ?_;have a7:=(H.trans A).since C (fun z u e=>by omega);have a8:∀ {w':World},Xc Xe w w'->Yp w' a.c a.cp:=fun hc=>by have:=h.conf.chg hc; rw [l.1,l.2.1]; exact this
  have ltp:tb≠pb:=by have:=Xg bj; have:=c9.size; omega
  have lxt:xb≠tb:=by omega
  have cv:=C.heap (ad.heap' (c2.heap' dt)) lxt;refine ζl cv ϱ (ζl cv ϱ (ζb ϱ ?_));obtain ⟨q,eq⟩:∃ q:Plc,q=⟨(k:Nat),m.pt,m.ta,none,0,[]⟩:=⟨_,rfl⟩;have ay:Xx q=Za r.c s (o:Nat) size:=by rw [eq,eQ,ct]; rfl
  refine ζs (C.heap (A.heap' (T.heap' cp)) (fun e=>ltp e.symm)) ϱ fun D K F d5 => ?_;replace K:D.heap[pb]? = some (.cells (Xt q).toArray 98 (0,0)):=by rw [eq]; exact K
  have P:=F.heap b1 ltp;have a9:=a7.since F (fun z u e=>by omega);have i:=(ak.far (l.2.2 (fun z=>z=tb) (fun z e=>by omega) (h.out fun z e=>by omega)) (a8 a7) C).far (l.2.2 (fun z=>z=pb) (fun z e=>by omega) (h.out fun z e=>by omega)) (a8 a9) F;obtain ⟨y1,y2,y3,y4⟩:=Ms r.c s (o:Nat) size;have E:a.c=r.c/\a.cp=r.cp:=⟨l.1,l.2.1⟩;have W:Zf D q:=by rw [eq]; exact H4 _ _ _
  have dw:Yf D q.pa:=by rw [eq]; exact fun _ _ _ e=>by cases e
  have bc:q.pages.length<=4096:=by rw [eq]; exact XL _
  have ca:∀ w',Xc Xe D w'->Xf prog 158 #[.agg (Zl a.c a.cp).toArray,.agg (Xt q).toArray] w' (Grow (.int .i64 (Zt a.c q)) w'):=fun w' p=>Po a.c a.cp q w' ((i.grow p).conf) (W.grow p) (by rw [E.1]; exact M) (by omega);have am:0<=a.ra.steps/\a.ra.steps<=1152921504606846976:=by
   rw [i.rs,<- e3];show 0<=Xw s.rm.tot 3/\Xw s.rm.tot 3<=_
   rw [Ba (by omega)];omega
  have ec:w7.heap.size<=D.heap.size:=by have:=A.size; have:=C.size; have:=F.size; omega
  have bd:∀ b' off s',q.pa=some ⟨b',off,s'⟩->w7.heap.size<=b':=by rw [eq]; exact fun _ _ _ e=>by cases e
  have eQ:Za r.c s (o:Nat) size=Za r.c s (o:Nat) size:=rfl;refine ζd 13 Xe (by kernel_rfl) ϱ fun G=>δl G P ϱ (δv G (fun w' p=>(Ka (w:=w') (r:=a))) ϱ (δl G K ϱ (δl G P ϱ (δl G K ϱ (δv G (fun w' p=>ca w' p) ϱ ?_)))));have cb:=Gn (c:=r.c) (q:=q) M bc;obtain ⟨f,ehn⟩:=XD cb.1;have cc:Ya r.c q=true:=by rw [N1,show Xx q=Za r.c s (o:Nat) size by rw [eQ]; exact ay]; exact pv
  rw [show Zt a.c q=((f:Nat):Int) by rw [E.1]; exact ehn];have cd:∀ w',Xc Xe D w'->Xf prog 96 #[.agg (Qz a.c a.cp a.ra).toArray,.agg (Xt q).toArray,.int .i64 0,.int .i64 (f:Nat)] w' (fun v N=>Xc Xe w' N /\ ∃ x:RA,v=Hj a.c a.cp x/\E0 r.c D a.ra q 0 (Xy f) x N /\ ∀ b,D.heap.size<=b->(b<w'.heap.size\/N.heap.size<=b)->Xj (fun z=>z=b) x.a):=fun w' p=>by
   have U:=C8 f;have an:a.ra.bs=s.bs:=by rw [i.rb,y3]
   have hh:=S5 a.c a.cp a.ra q 0 f w' ((i.grow p).conf) (W.grow p) (by rw [E.1]; exact M) bc (by rw [E.1]; exact Fw cc (by omega) (by omega) (by omega)) ((i.grow p).ra) (by rw [an,E.1]; exact hs.bl) am;rw [E.1] at hh ⊢;refine hh.mono fun v N ⟨x,x1,x2,x3,x4,x5,x6⟩=>⟨x6,x,x1,⟨by rw [U]; exact x2,by rw [U]; exact x3,x4,?_,?_⟩,fun b hb ed => ?_⟩
   ·exact x5.imp id (fun ⟨g,off,e,hg⟩=>⟨g,off,e,by have:=p.size; omega⟩)
   ·exact fun b' off' s' e=>x4.rd.block (by rw [x2,Ga,an]; exact c3) e
   ·intro b' off' s' e u;have ee:=x4.rd.block (by rw [x2,Ga,an]; exact c3) e;rcases x5 with e' | ⟨g,off,e',hg⟩
    ·have:=i.la b' off' s' (e'▸e); omega
    ·rw [e'] at e; cases e; omega
  refine Xd.callAllocG (Hj a.c a.cp) (E0 r.c D a.ra q 0 (Xy f)) ((fun x b=>Xj (fun z=>z=b) x.a)) Xb G rfl rfl rfl (fun _=>rfl) rfl (fun _=>rfl) (fun _=>rfl) rfl rfl (fun _ _=>rfl) rfl (fun _ _=>rfl) (cd) (N3) ((fun _ h=>h.elim)) ?_;rintro nb x ef eg cg bt ⟨q1,q2,q3,q4,q5⟩ ch;refine Xd.turn1 G rfl fun eh I=>Xq.store Xb G rfl (I.heap' cg) (by first | (intro h; exact rfl) | (intro h; omega)) rfl rfl rfl fun ci b4 a5 df=>δn G ϱ fun cj Q => ?_;have ei:=I.size;have ao:=(bt.trans I).since a5 (fun z u e=>by omega);have d:=ao.trans Q;have b5:Zv ci x:=⟨((q3.grow I).rd).far ch a5,q3.len,q3.lc,q3.rng⟩;have b6:=Q.heap' b4;have b7:=d.heap' P;refine ζl b6 ϱ (ζs b7 ϱ fun ap R B dg => ?_);obtain ⟨V,J⟩:∃ V:SR,V={a with ra:=x}:=⟨_,rfl⟩;replace R:X6 ap tb V:=by rw [J]; exact R
  have U:=C8 f;have aa:Xx q=Za r.c s (o:Nat) size:=by rw [eQ]; exact ay
  have dh:0<=X8 r.c q 0 f/\X8 r.c q 0 f<=50000000:=by
   have:=Ij (q:=q) (at':=0) (n:=f) M;omega
  have b8:x.steps=Xw (Zd r.c s (o:Nat) size).rm.tot (X8 r.c (Za r.c s (o:Nat) size).plc 0 f):=by
   rw [q2,U,<- aa,<- Gx,i.rs,Ba (by have:=am; rw [i.rs] at this; omega)]
  have bu:X2 cj V (Z4 r.c (Zd r.c s (o:Nat) size) (Za r.c s (o:Nat) size) 0 (Xy f)):=by
   have h1:=i.putRa d (ra:=x) (bs:=Ql r.c (Za r.c s (o:Nat) size).plc (Zd r.c s (o:Nat) size).bs 0 (Xy f) (Xy f).length) (t:=Xw (Zd r.c s (o:Nat) size).rm.tot (X8 r.c (Za r.c s (o:Nat) size).plc 0 (Xy f).length)) (b5.grow Q) (by rw [q1,i.rb,<- aa,<- I9]) (by rw [U]; exact b8) (q5.grow ((I.gr.trans a5).size |> fun h=>by have:=Q.size; omega));rw [J];exact h1
  have L:Zp w7 r V:=⟨by rw [J]; exact l.1,by rw [J]; exact l.2.1,fun S hS aq=>by
   have ar:=l.2.2 S hS aq;rw [J];exact {ar with ra:=(ar.ra.newer q4 (fun z u=>by have:=hS z u; omega))}⟩
  have ab:=(a9.trans d).since B (fun z u e=>by omega);have au:=W.grow d;have bv:Zf ap q:=⟨au.rd.far (fun b' off s' e u=>by have:=bd b' off s' e; omega) B,au.len⟩;refine ζl R ϱ (ζl (B.heap (d.heap' K) (fun e=>ltp e.symm)) ϱ (ζb ϱ (ζc ϱ ((Nk (bu.far (L.2.2 (fun z=>z=tb) (fun z e=>by omega) (h.out fun z e=>by omega)) (by have:=h.conf.chg ab; rw [L.1,L.2.1]; exact this) B) (show (Zd r.c s (o:Nat) size).th.length<=4096 by rw [y1]; exact Jp hs) o (show o<(Zd r.c s (o:Nat) size).th.length by rw [y1]; exact ho) ⟨size,q⟩ (some ⟨size,Za r.c s (o:Nat) size⟩) ⟨rfl,fun y e=>by cases e; exact aa⟩ ⟨bv,(dw.grow d.size).grow B.size⟩)) ?_)));rintro _ ej ⟨be,rfl,ck,⟨bw,bx,bz⟩,av⟩;refine ζa ϱ ?_;refine ζs (av.heap' (B.heap (d.heap' (F.heap (C.heap (A.heap' (T.heap' co)) (by have:=Xg ae; omega)) (by have:=Xg ae; omega))) (by have:=Xg ae; omega))) ϱ fun ek b9 aw dj => ?_;have lqb:=Xg ae;have ac:=(ab.trans av).since aw (fun z u e=>by omega);have zu:w7.heap.size<=ap.heap.size:=by have:=d.size; have:=B.size; omega
  have bf:Zp N r be:=⟨bw.trans L.1,bx.trans L.2.1,fun S hS aq=>bz S (fun z u=>by have:=hS z u; omega) (L.2.2 S (fun z u=>by have:=hS z u; omega) aq) (fun b' off s' e u=>by have:=hS _ u; have:=bd b' off s' e; omega)⟩;have eL:Y9 r.c s (o:Nat) size={Z4 r.c (Zd r.c s (o:Nat) size) (Za r.c s (o:Nat) size) 0 (Xy f) with th:=(Zd r.c s (o:Nat) size).th.set o (some ⟨size,Za r.c s (o:Nat) size⟩)}:=by
   unfold Y9;rw [y1,XA,<- aa,<- N0,ehn,XA]
  rw [eL];exact ζR func91 b9 ϱ ⟨be,rfl,h.box bf ck (by omega) (by omega) aw ac,bf.back bi.size,ac⟩
theorem XjN (h:X2 w r s) (hs:s.Ok r.c) (o size:Int) (ht:0<=s.rm.tot/\s.rm.tot<=999999000000):Xf prog 40 #[.agg (Zn r).toArray,.int .i64 o,.int .i64 size] w
 (fun v w' => ∃ r',v = .tuple #[.agg (Zn r').toArray,.int .i64 (A5 r.c s o size)]/\Cj w r (Ao r.c s o size) r' w'):=by
 refine ζe func40 ntmps40 ϱ (ζn ϱ fun b U e1 M I S=>ζn ϱ fun qb V e2 B C T => ?_);have D:=C.heap' M;have d:=I.trans C;have lq:=Xg B;refine ζl D ϱ (ζv (S7 (h.grow d) hs o) ϱ fun W i => ?_);have k:=i.heap' D;have f:=i.heap' B;have a:=d.trans i;by_cases x:Yc s o=1
 ·have e:A5 r.c s o size=1:=by unfold A5; rw [if_pos x]
  have eS:Ao r.c s o size=s:=by unfold Ao; rw [if_neg (by rw [e]; decide)]
  rw [e,eS];refine ζy ϱ ?_;exact ζl k ϱ (ζs f ϱ fun wr n p J=>ζR func40 n ϱ ⟨r,rfl,.self h (a.since p (fun z G e=>by omega))⟩)
 ·by_cases H:Yc s o=0
  ·have e:A5 r.c s o size=10:=by unfold A5; rw [if_neg x,if_pos H]
   have eS:Ao r.c s o size=s:=by unfold Ao; rw [if_neg (by rw [e]; decide)]
   rw [e,eS];refine ζf ϱ (ζy ϱ ?_);exact ζl k ϱ (ζs f ϱ fun wr n p J=>ζR func40 n ϱ ⟨r,rfl,.self h (a.since p (fun z G e=>by omega))⟩)
  ·have e:A5 r.c s o size=Qr r.c s size:=by unfold A5; rw [if_neg x,if_neg H]
   obtain ⟨j,rfl,N,O⟩:=Xad x H;refine ζf ϱ (ζf ϱ (ζl k ϱ (ζv (S6 (h.grow a) hs size) ϱ fun w4 l => ?_)));have q:=l.heap' k;have t:=l.heap' f;have c:=a.trans l;by_cases gf:Qr r.c s size=0
   ·have eS:Ao r.c s (j:Nat) size=Y9 r.c s (j:Nat) size:=by unfold Ao; rw [if_pos (e.trans gf)]
    rw [e,eS,gf];refine ζf ϱ (ζl q ϱ (ζc ϱ (Xev (h.grow c) hs N gf (StM.OkP.lay hs O gf (fun _ _ e=>by cases e)) ht) ?_));rintro _ P ⟨Q,rfl,y⟩;refine ζa ϱ ?_;refine ζs (y.2.2.heap' t) ϱ fun R g m K => ?_;have u:=(c.trans y.2.2).since m (fun z G e=>by omega);have E:=y.2.1.back ((i.trans l).size);exact ζR func40 g ϱ ⟨Q,rfl,h.box E y.1 (by omega) (by omega) m u,E.back d.size,u⟩
   ·have eS:Ao r.c s (j:Nat) size=s:=by unfold Ao; rw [if_neg (by rw [e]; exact gf)]
    rw [e,eS];exact ζY ϱ (by simpa using gf) (ζd 4 Xe (by kernel_rfl) ϱ fun A=>δl A q ϱ (δl A q ϱ (δv A (fun w' L=>S6 (h.grow (c.trans L)) hs size) ϱ (δn A ϱ fun P F=>ζs (F.heap' t) ϱ fun R g m K=>ζR func40 g ϱ ⟨r,rfl,.self h ((c.trans F).since m (fun z G e=>by omega))⟩))))
abbrev Xfe (x:SR):Value := .agg (Zn x).toArray
theorem T0 (hs:s.Ok c) (κ:Int) (ht:0<=s.rm.tot/\s.rm.tot<=1000000000000):0<=(Zj s κ).rm.tot/\(Zj s κ).rm.tot<=s.rm.tot+20000:=by
 unfold Zj;cases a:Xz s κ with
 |none=>exact ⟨ht.1,by show s.rm.tot<=_; omega⟩
 |some m=>exact Xbj hs _ _ ht
theorem X2.trowP (h:X2 w r s) {t:ThM} (ht:s.th[j]? = some (some t)):∃ (hj:j<r.ts.length),(r.ts[j].size=t.size/\Xx r.ts[j].q=t.q)/\Zf w r.ts[j].q/\Yf w r.ts[j].q.pa /\ ∃ b off,r.ta=some ⟨b,off,none⟩/\(∀ v,(Cq r.ts[j])[0]? = some v->w.cell? ⟨b,off+j*5,none⟩=some v)/\(∀ v,(Cq r.ts[j])[1]? = some v->w.cell? ⟨b,off+j*5+1,none⟩=some v) /\ ∀ i v,(Xt r.ts[j].q)[i]? = some v->w.cell? ⟨b,off+j*5+1+i,none⟩=some v:=by
 have hj:j<r.ts.length:=by rw [h.tn]; exact (List.getElem?_eq_some_iff.1 ht).1
 obtain ⟨⟨d,f⟩,b,off,e,c⟩:=h.trow hj;obtain ⟨g,k⟩:=h.tq _ (XJ hj);refine ⟨hj,⟨by rw [d,Gm ht]; rfl,f t (Gm ht)⟩,g,k,b,off,e,fun v a=>c 0 v a,fun v a=>c 1 v a,fun i v a => ?_⟩;rw [YE];exact c (1+i) v (by rw [<- a,Nat.add_comm]; rfl)
theorem XjS (h:X2 w r s) (hs:s.Ok r.c) (o:Int) (ht:0<=s.rm.tot/\s.rm.tot<=999999000000):Xf prog 41 #[.agg (Zn r).toArray,.int .i64 o] w
 (fun v w' => ∃ r',v = .tuple #[.agg (Zn r').toArray,.int .i64 (Yc s o)]/\Cj w r (C4 r.c s o) r' w'):=by
 refine ζe func41 ntmps41 ϱ (ζn ϱ fun b w1 e1 hb ae be=>ζn ϱ fun qb f e2 Q R bf => ?_);have T:=R.heap' hb;have m:=ae.trans R;have lq:=Xg Q;refine ζl T ϱ (ζv (S7 (h.grow m) hs o) ϱ fun L c => ?_);have y:=c.heap' T;have A:=c.heap' Q;have g:=m.trans c;by_cases B:Yc s o=0
 ·obtain ⟨j,t,rfl,C⟩:=Jd B;obtain ⟨t',f1,f2,f3,f4,f5⟩:=On hs C;have F:=K0 hs t.q.cls;have eS:C4 r.c s (j:Nat)=B6 r.c {Zj s t.q.cls with th:=(Zj s t.q.cls).th.set j none} t'.q:=by
   unfold C4;rw [if_neg (fun e=>e B),Qx C,Qx f1,XA]
  have h3:=h.grow g;obtain ⟨bg,⟨_,v2⟩,_,_,a0,off,eta,_,af,_⟩:=h3.trowP C;rw [eS,B];refine ζf ϱ (ζd 10 Xe (by kernel_rfl) ϱ fun a=>δl a y ϱ (δl a y ϱ ?_));rw [eta];refine δi (j*5) a ϱ (δk a (af _ rfl) ϱ ?_);rw [show r.ts[j].q.cls=t.q.cls from congrArg PlcM.cls v2,<- eta];have hd:∀ w',Xc Xe L w'->Xf prog 92 #[.agg (Zn r).toArray,.int .i64 t.q.cls] w' (fun v f=>Xc Xe w' f /\ ∃ x,v=Xfe x/\Nt L r (Zj s t.q.cls) x f /\ ∀ b,L.heap.size<=b->(b<w'.heap.size\/f.heap.size<=b)->Tr x b):=fun w' d =>
   (Xet (h3.grow d) hs t.q.cls ⟨ht.1,by omega⟩).mono fun v f ⟨x,a1,M,a3,N⟩=>⟨N,x,a1,⟨M,a3.back d.size,d.trans N⟩,XaZ h3 M a3⟩
  refine Xd.callAllocG (Xfe) (Nt L r (Zj s t.q.cls)) (Tr) Xb a rfl rfl rfl (fun _=>rfl) rfl (fun _=>rfl) (fun _=>rfl) rfl rfl (fun _ _=>rfl) rfl (fun _ _=>rfl) (hd) (Xff) ((fun _ h=>h.elim)) ?_;rintro nb x w4 bh ah ai ⟨q1,O,q3⟩ hG;refine δn a ϱ fun w5 D=>ζs (D.heap' ah) ϱ fun w7 E U bi => ?_;have i:=(ai.trans D).since U (fun z G e=>by omega);have H:=g.trans i;have V:=(q1.grow D).far hG (by have:=h.conf.chg (g.trans i); rw [O.1,O.2.1]; exact this) U;obtain ⟨bj,⟨_,y2⟩,p1,p2,b0,b7,a9,_,_,W⟩:=V.trowP f1;obtain ⟨q,eq⟩:∃ q:Plc,q=x.ts[j].q:=⟨_,rfl⟩;rw [<- eq] at y2 p1 p2 W;refine ζl E ϱ ?_;rw [a9];refine ζi (j*5) ϱ (Xa.loadC Xb ((Xt q)) rfl (by first | rfl | (simp; done) | (simp [*]; done) | (simp; omega)) (W) rfl (ζn ϱ fun pb w8 e8 aa ak bk=>ζs aa ϱ fun w9 ab am bl => ?_));have k:=ak.since am (fun z G e=>by omega);have an:∀ w',Xc Xe w9 w'->Xf prog 94 #[.agg (Zn x).toArray,.int .i64 (j:Nat),.agg (Cq Ic).toArray] w' (fun v f=>Xc Xe w' f /\ ∃ r',v = .agg (Zn r').toArray/\X2 f r' {Zj s t.q.cls with th:=(Zj s t.q.cls).th.set j none}/\Zp w9 x r'):=fun w' d =>
   (Nk ((V.grow k).grow d) (Jp F.ok) j ((List.getElem?_eq_some_iff.1 f1).1) Ic none ⟨rfl,fun _ e=>by cases e⟩ ⟨H4 _ _ _,fun _ _ _ e=>by cases e⟩).mono fun v f ⟨r',a1,M,⟨b1,b2,b3⟩,N⟩=>⟨N,r',a1,M,b1,b2,fun S hS ho=>b3 S (fun z G=>by have:=hS z G; have:=d.size; omega) ho (fun _ _ _ e=>by cases e)⟩
  refine ζd 5 Xe (by kernel_rfl) ϱ fun a=>δl a (k.heap' E) ϱ (Xd.build Xb a rfl rfl (δl a ab ϱ (Xd.callQ a rfl rfl (an) ?_)));rintro _ bm ac ⟨ao,rfl,ad,I⟩;refine Xd.adv Xb a rfl (δn a ϱ fun bn J => ?_);have l:=ac.trans J;have ec:=I.1.trans O.1;have ap:=T0 hs t.q.cls ⟨ht.1,by omega⟩;have aq:StM.OkP ao.c {Zj s t.q.cls with th:=(Zj s t.q.cls).th.set j none} (some (j,Xx q)):=by rw [ec,y2]; exact F.ok.away f1 f5
  refine ζc ϱ (Xeu (ad.grow J) q aq ((p1.grow k).grow l) ⟨ap.1,by show (Zj s t.q.cls).rm.tot<=_; omega⟩) ?_;rintro _ bo ⟨ar,rfl,n⟩;refine ζa ϱ ?_;rw [ec,y2] at n;have p:=(k.trans l).trans n.2.2;have z7:=H.size;have bp:=i.size;refine ζs (p.heap' (i.heap' A)) ϱ fun bq P K bd => ?_;have u:=(H.trans p).since K (fun z G e=>by have:=c.size; omega);have a5:=(O.back c.size).trans (I.trans n.2.1 l.size) (by have:=c.size; omega);exact ζR func41 P ϱ ⟨ar,rfl,h.box a5 n.1 (by omega) (by have:=c.size; omega) K u,a5.back m.size,u⟩
 ·have eS:C4 r.c s o=s:=by unfold C4; rw [if_pos B]
  rw [eS];refine ζY ϱ (by simpa using B) ?_;exact ζl y ϱ (ζs A ϱ fun wr au av br=>ζR func41 au ϱ ⟨r,rfl,.self h (g.since av (fun z G e=>by omega))⟩)
theorem Xl.rd8 (h:Xl base 5 1 w v n (l.map (Value.int .u8))) (hn:l.length=n):∃ a cap,v = .slice a n cap/\Rd .u8 w a l /\ ∀ b off s,a=some ⟨b,off,s⟩->base<=b/\b<w.heap.size:=by
 rcases h.2 with ⟨rfl,f⟩ | ⟨g,cap,cur,rfl,i,d,j,k,_,c⟩
 ·subst f;have:l = []:=List.length_eq_zero_iff.1 hn;subst this;exact ⟨none,0,rfl,Rd.nil _ _ _,(by intro b off s e; cases e)⟩
 ·exact ⟨_,cap,rfl,Rd.of_take d (by rw [hn]; rw [ZH] at c; exact c),(by intro b off s e; cases e; exact ⟨i,Xg d⟩)⟩
abbrev Sz (c:Conf) (p:Y4) (ra:RA) (n:Nat) (x:Option Addr × Nat):Value := .tuple #[.agg (Qz c p ra).toArray,.slice x.1 n x.2,.int .i64 0]
abbrev Nh (l:List Int) (base:Nat) (x:Option Addr × Nat) (w2:World):Prop:=Rd .u8 w2 x.1 l /\ ∀ b off s,x.1=some ⟨b,off,s⟩->base<=b/\b<w2.heap.size
theorem Xea:∀ x w2 w3,Nh l base x w2->Xc Xe w2 w3->Nh l base x w3:=fun _ _ _ ⟨a,b⟩ c=>⟨a.chg c,fun b' off s e=>⟨(b b' off s e).1,by have:=(b b' off s e).2; have:=c.size; omega⟩⟩
theorem XjV (h:X2 w r s) (hs:s.Ok r.c) (o i n:Int) (hi : -9223372036854775808<=i/\i<=9223372036854775807) (hn : -9223372036854775808<=n/\n<=9223372036854775807) (ht:0<=s.rm.tot/\s.rm.tot<=999999000000):Xf prog 43 #[.agg (Zn r).toArray,.int .i64 o,.int .i64 i,.int .i64 n] w
 (fun v w' => ∃ r' a cap,v = .tuple #[.agg (Zn r').toArray,.slice a (C6 r.c s o i n).length cap,.int .i64 (Qc s o i n)]/\Rd .u8 w' a (C6 r.c s o i n)/\(∀ b off s',a=some ⟨b,off,s'⟩->w.heap.size<=b/\b<w'.heap.size)/\Cj w r (C5 r.c s o i n) r' w'):=by
 have l:=hs.may;refine ζe func43 ntmps43 ϱ (ζn ϱ fun b w1 e1 hb a9 ay=>ζn ϱ fun qb F e2 aa P az => ?_);have Q:=P.heap' hb;have G:=a9.trans P;refine ζl Q ϱ (ζv (Xew (h.grow G) hs o i n hi hn) ϱ fun H y => ?_);have g:=y.heap' Q;have m:=y.heap' aa;have c:=G.trans y;have z3:=y.size;by_cases p:Qc s o i n=0
 ·obtain ⟨j,t,i',n',rfl,A,rfl,rfl,h5,ab,ac⟩:=T7 hs p;have W:=h.grow c;obtain ⟨b0,⟨_,I⟩,p1,p2,a0,off,eta,_,_,R⟩:=W.trowP A;obtain ⟨q,eq⟩:∃ q:Plc,q=r.ts[j].q:=⟨_,rfl⟩;rw [<- eq] at I p1 p2 R;have ae:q.pages.length<=4096:=by have e:q.pages=t.q.pages:=congrArg PlcM.pages I; rw [e]; exact ac
  have a1:Qj r.c q i' n'=0:=by rw [Vc,I]; exact ab
  have eR:C5 r.c s (j:Nat) (i':Nat) (n':Nat)=Qf s (X8 r.c t.q.plc i' n'):=by unfold C5; rw [if_pos p,Qx A,XA,XA]
  have eB:C6 r.c s (j:Nat) (i':Nat) (n':Nat)=Yh r.c q s.bs i' n':=by unfold C6; rw [if_pos p,Qx A,XA,XA,Xbi r.c q,I]
  obtain ⟨ra',era⟩:∃ ra':RA,ra'={r.ra with steps:=r.ra.steps+X8 r.c q i' n'}:=⟨_,rfl⟩;have af:(r.ra.bs.length:Int)=r.c.size*r.c.pages:=by rw [h.rb]; exact hs.bl
  have J:(Yh r.c q s.bs i' n').length=n':=by unfold Yh; simp
  rw [eR,eB,p];refine ζf ϱ ?_;rw [J];have T:=h.rs;have b1:=Ij (q:=q) (at':=i') (n:=n') l;have b2:=(hs.size j t A).2;have b3:=(Ye l).most;have hd:∀ w',Xc Xe H w'->Xf prog 99 #[.agg (Qz r.c r.cp r.ra).toArray,.agg (Xt q).toArray,.int .i64 (i':Nat),.int .i64 (n':Nat)] w' (fun v F=>Xc Xe w' F /\ ∃ x,v=Sz r.c r.cp ra' n' x/\Nh (Yh r.c q s.bs i' n') H.heap.size x F /\ ∀ b,H.heap.size<=b->(b<w'.heap.size\/F.heap.size<=b)->Xj (fun z=>z=b) x.1):=fun w' k =>
   (Xep r.c r.cp r.ra q i' n' w' ((W.grow k).conf) (p1.grow k) l ae a1 ((W.grow k).ra) af (by rw [T]; omega)).mono fun v F ⟨u1,x1,x2,x3⟩=>by
    rw [h.rb] at x2;obtain ⟨a,cap,rfl,y1,y2⟩:=x2.rd8 J;have:=c.size;have:=k.size;exact ⟨x3,(a,cap),by rw [x1,era],⟨y1,fun b off s' e=>⟨by have:=(y2 b off s' e).1; omega,(y2 b off s' e).2⟩⟩,fun b hb b4 b' off s' e K=>by have:=y2 b' off s' e; omega⟩
  refine ζd 18 Xe (by kernel_rfl) ϱ fun f=>δl f g ϱ (δv f (fun w' k=>(Ka (w:=w') (r:=r))) ϱ (δl f g ϱ ?_));rw [eta];refine δi (j*5) f ϱ (Xd.loadC Xb f ((Xt q)) rfl (by first | rfl | (simp; done) | (simp [*]; done) | (simp; omega)) (R) (by first | exact fun h=>h | (intro h; omega) | assumption) rfl (Xd.callAllocG (Sz r.c r.cp ra' n') (Nh (Yh r.c q s.bs i' n') H.heap.size) ((fun x b=>Xj (fun z=>z=b) x.1)) Xb f rfl rfl rfl (fun _=>rfl) rfl (fun _=>rfl) (fun _=>rfl) rfl rfl (fun _ _=>rfl) rfl (fun _ _=>rfl) (hd) (Xea) ((fun _ h=>h.elim)) ?_));rintro nb x w4 b5 ah ai ⟨q1,q2⟩ hG;refine Xd.turn1 f rfl fun w5 B=>Xq.store Xb f rfl (B.heap' ah) (by first | (intro h; exact rfl) | (intro h; omega)) rfl rfl rfl fun w6 a4 L b6=>δn f ϱ fun w7 C => ?_;have u:=((ai.trans B).since L (fun z K e=>by omega)).trans C;refine ζl (C.heap' a4) ϱ (ζs (u.heap' g) ϱ fun w8 D E b7 => ?_);obtain ⟨M,N⟩:∃ M:SR,M={r with ra:=ra'}:=⟨_,rfl⟩;replace D:X6 w8 b M:=by rw [N]; rw [era] at D ⊢; exact D
  refine ζl D ϱ (ζs (E.heap (u.heap' m) (by omega)) ϱ fun w9 a5 O b8 => ?_);have d:=((c.trans u).since E (fun z K e=>by omega)).since O (fun z K e=>by omega);have U:∀ b',b'<H.heap.size->Xj (fun z=>z=b') x.1:=fun b' h2 b'' off' s' e K=>by
   have:=(q2 b'' off' s' e).1;omega
  have a6:Zv w9 ra':=by rw [era]; exact ⟨(h.ra.grow d).rd,h.ra.len,h.ra.lc,h.ra.rng⟩
  have V:=h.putRa d (ra:=ra') (bs:=s.bs) (t:=Xw s.rm.tot (X8 r.c t.q.plc i' n')) a6 (by rw [era]; exact h.rb) (by rw [era,<- I,<- Gx]; show r.ra.steps+_=_; rw [T,Ba (by omega)]) (by rw [era]; exact h.la.grow d.size);rw [<- N] at V;have hk:Zp w r M:=by rw [N,era]; exact ⟨rfl,rfl,fun S hS ho=>{ho with ra:=ho.ra}⟩
  have b9:=d.size;exact ζq rfl func43 (Xk.cell rfl rfl rfl a5 rfl (.tmp rfl (.tmp rfl .nil))) ⟨M,x.1,x.2,rfl,(((((q1.chg B).far hG L).chg C).far (U b (Xg g)) E).far (U qb (Xg m)) O),fun b' off' s' e=>⟨by have:=(q2 b' off' s' e).1; have:=c.size; omega,by have:=(q2 b' off' s' e).2; have:=B.size; have:=L.size; have:=C.size; have:=E.size; have:=O.size; omega⟩,V,hk,d⟩
 ·have eR:C5 r.c s o i n=s:=by unfold C5; rw [if_neg p]
  have eB:C6 r.c s o i n = []:=by unfold C6; rw [if_neg p]
  rw [eR,eB];exact ζY ϱ (by simpa using p) (ζl g ϱ (ζs m ϱ fun w4 a7 ak ba=>ζR func43 a7 ϱ ⟨r,none,0,rfl,Rd.nil _ _ _,(by intro b off s e; cases e),.self h (c.since ak (fun z K e=>by omega))⟩))
theorem XbD {r x:RA} (hal:Yf w r.a) (hpos:0<r.bs.length) (hw':Xc Xe w w') (x2:x.bs=Ql c q r.bs i l l.length) (x3:x.steps=r.steps+X8 c q i l.length) (x4:Zv w2 x) (x5:En w' r.a x.a) :
 E0 c w r q i l x w2 /\ ∀ b,w.heap.size<=b->(b<w'.heap.size\/w2.heap.size<=b)->Xj (fun z=>z=b) x.a:=by
 have a:0<x.bs.length:=by rw [x2,Ga]; exact hpos
 refine ⟨⟨x2,x3,x4,?_,fun b' off' s' e=>x4.rd.block a e⟩,fun b j f b' off' s' e k => ?_⟩
 ·exact x5.imp id (fun ⟨g,off,e,d⟩=>⟨g,off,e,by have:=hw'.size; omega⟩)
 ·have h:=x4.rd.block a e;rcases x5 with e' | ⟨g,off,e',d⟩
  ·have:=hal b' off' s' (e'▸e); omega
  ·rw [e'] at e; cases e; omega
theorem Xc1 (h:s.OkP c pd) {t:ThM} (ht:s.th[o]? = some (some t)) {m:MvM} (hm:Xz s t.q.cls=some m):t.size<=m.size:=by
 obtain ⟨k,ek,_,a⟩:=Q9 hm;exact Ou h a ht ek
theorem U4 (h:s.OkP c pd):0<s.bs.length:=by
 have a:=Ye h.may;have b:1*64<=c.pages*c.size:=ZD (by have:=a.pages; omega) (by have:=a.size; omega) (by omega) (by have:=a.pages; omega);rw [ZY c.pages] at b;rw [<- h.bl] at b;omega
theorem Xj0 (h:X2 w r s) (hs:s.Ok r.c) (o i:Int) (a:Option Addr) (cap:Nat) (l:List Int) (hi : -9223372036854775808<=i/\i<=9223372036854775807) (hr:Rd .u8 w a l) (hl:l.length<=9223372036854775807) (hin:Qd l) (ht:0<=s.rm.tot/\s.rm.tot<=999900000000):Xf prog 44 #[.agg (Zn r).toArray,.int .i64 o,.int .i64 i,.slice a l.length cap] w
 (fun v w' => ∃ r',v = .tuple #[.agg (Zn r').toArray,.int .i64 (Qc s o i l.length)]/\Cj w r (Dr r.c s o i l) r' w'):=by
 have A:=hs.may;have aj:=U4 hs;refine ζe func44 ntmps44 ϱ (ζn ϱ fun b w1 e1 hb ak bo=>ζn ϱ fun qb L e2 a4 a5 bp => ?_);have a6:=a5.heap' hb;have B:=ak.trans a5;have lq:=Xg a4;refine ζl a6 ϱ (ζv (Xew (h.grow B) hs o i l.length hi (by omega)) ϱ fun I C => ?_);have u:=C.heap' a6;have M:=C.heap' a4;have d:=B.trans C;have z3:=C.size;by_cases N:Qc s o i l.length=0
 ·obtain ⟨j,t,i',n',rfl,y,rfl,en,h5,al,am⟩:=T7 hs N;obtain rfl:l.length=n':=by omega
  have U:=h.grow d;obtain ⟨bq,⟨_,J⟩,p1,p2,a0,off,eta,_,_,a7⟩:=U.trowP y;obtain ⟨q,eq⟩:∃ q:Plc,q=r.ts[j].q:=⟨_,rfl⟩;rw [<- eq] at J p1 p2 a7;have ao:q.pages.length<=4096:=by have e:q.pages=t.q.pages:=congrArg PlcM.pages J; rw [e]; exact am
  have ab:Qj r.c q i' l.length=0:=by rw [Vc,J]; exact al
  have eW:Dr r.c s (j:Nat) (i':Nat) l=Ac (Z4 r.c s t.q i' l) (j:Nat) i' l.length:=by unfold Dr; rw [if_pos N,Qx y,XA]
  have ap:(r.ra.bs.length:Int)=r.c.size*r.c.pages:=by rw [h.rb]; exact hs.bl
  have O:=h.rs;have aq:=Ij (q:=q) (at':=i') (n:=l.length) A;have b6:0<=X8 r.c t.q.plc i' l.length/\X8 r.c t.q.plc i' l.length<=2*l.length+1:=by have:=aq; rw [Gx,J] at this; exact this
  have br:=(hs.size j t y).2;have bt:=(Ye A).most;have a8:Xw s.rm.tot (X8 r.c t.q.plc i' l.length)=s.rm.tot+X8 r.c t.q.plc i' l.length:=Ba (by omega);rw [eW,N];refine ζf ϱ ?_;have hd:∀ w',Xc Xe I w'->Xf prog 100 #[.agg (Qz r.c r.cp r.ra).toArray,.agg (Xt q).toArray,.int .i64 (i':Nat),.slice a l.length cap] w' (fun v L=>Xc Xe w' L /\ ∃ x,v=Hj r.c r.cp x/\E0 r.c I r.ra q i' l x L /\ ∀ b,I.heap.size<=b->(b<w'.heap.size\/L.heap.size<=b)->Xj (fun z=>z=b) x.a):=fun w' c =>
   (XaD r.c r.cp r.ra q i' a cap l w' ((U.grow c).conf) (p1.grow c) A ao ab ((U.grow c).ra) ap (by rw [O]; omega) (hr.chg (d.trans c)) hin).mono fun v L ⟨x,x1,x2,x3,x4,x5,x6⟩ =>
    ⟨x6,x,x1,XbD U.la (by rw [h.rb]; exact aj) c x2 x3 x4 x5⟩
  refine ζd 16 Xe (by kernel_rfl) ϱ fun f=>δl f u ϱ (δv f (fun w' c=>(Ka (w:=w') (r:=r))) ϱ (δl f u ϱ ?_));rw [eta];refine δi (j*5) f ϱ (Xd.loadC Xb f ((Xt q)) rfl (by first | rfl | (simp; done) | (simp [*]; done) | (simp; omega)) (a7) (by first | exact fun h=>h | (intro h; omega) | assumption) rfl (Xd.callAllocG (Hj r.c r.cp) (E0 r.c I r.ra q i' l) ((fun x b=>Xj (fun z=>z=b) x.a)) Xb f rfl rfl rfl (fun _=>rfl) rfl (fun _=>rfl) (fun _=>rfl) rfl rfl (fun _ _=>rfl) rfl (fun _ _=>rfl) (hd) (N3) ((fun _ h=>h.elim)) ?_));rintro nb x w4 bu ar au ⟨q1,q2,V,q4,q5⟩ hG;refine Xd.turn1 f rfl fun w5 D=>Xq.store Xb f rfl (D.heap' ar) (by first | (intro h; exact rfl) | (intro h; omega)) rfl rfl rfl fun w6 ac P bv=>δn f ϱ fun w7 E => ?_;have ad:=(au.trans D).since P (fun z W e=>by omega);have k:=ad.trans E;have ae:=d.trans k;have z7:=k.size;have p:Zv w6 x:=⟨((V.grow D).rd).far hG P,V.len,V.lc,V.rng⟩;have af:=(q5.grow D.size).grow P.size;have ag:=E.heap' ac;have aw:=k.heap' u;refine ζl ag ϱ (ζs aw ϱ fun w8 Q F bw => ?_);obtain ⟨K,G⟩:∃ K:SR,K={r with ra:=x}:=⟨_,rfl⟩;replace Q:X6 w8 b K:=by rw [G]; exact Q
  have R:=ae.since F (fun z W e=>by omega);have a1:∀ b',w.heap.size<=b'->b'<I.heap.size->Xj (fun z=>z=b') x.a:=fun b' h1 h2 b'' off' s' e W=>by
   rcases q4 with e' | ⟨g,off,e',hg⟩
   ·have:=h.la b'' off' s' (e'▸e); omega
   ·rw [e'] at e; cases e; omega
  have ah:Zv w8 x:=⟨((p.grow E).rd).far (a1 b (by omega) (Xg u)) F,p.len,p.lc,p.rng⟩;have a9:=h.putRa R (ra:=x) (bs:=Ql r.c t.q.plc s.bs i' l l.length) (t:=Xw s.rm.tot (X8 r.c t.q.plc i' l.length)) ah (by rw [q1,h.rb,<- J,<- I9]) (by rw [q2,O,<- J,<- Gx,Ba (by omega)]) ((af.grow E.size).grow F.size);rw [<- G] at a9;have ay:K.c=r.c:=by rw [G]
  have az:Zp I r K:=by
   rw [G];exact ⟨rfl,rfl,fun S hS ho=>{ho with ra:=ho.ra.newer q4 hS}⟩
  have b1:(Z4 r.c s t.q i' l).OkP K.c none:=by rw [ay]; exact StM.OkP.put hs _ _ hin
  refine ζl Q ϱ (ζc ϱ (Xex a9 b1 j (show (Z4 r.c s t.q i' l).th[j]? = some (some t) from y) i' l.length (fun m hm=>by have:=Xc1 hs y (show Xz s t.q.cls=some m from hm); omega) ⟨by show 0<=Xw s.rm.tot _; rw [a8]; omega,by show Xw s.rm.tot _<=_; rw [a8]; omega⟩) ?_);rintro _ w9 ⟨r9,rfl,h9⟩;refine ζa ϱ ?_;refine ζs (h9.2.2.heap' (F.heap (k.heap' M) (by omega))) ϱ fun bx a3 T bn => ?_;have H:=(R.trans h9.2.2).since T (fun z W e=>by omega);have aa:=(az.back z3).trans h9.2.1 (by omega);exact ζR func44 a3 ϱ ⟨r9,rfl,h.box aa h9.1 (by omega) (by omega) T H,aa.back B.size,H⟩
 ·have eW:Dr r.c s o i l=s:=by unfold Dr; rw [if_neg N]
  rw [eW];exact ζY ϱ (by simpa using N) (ζl u ϱ (ζs M ϱ fun w4 ai b2 bz=>ζR func44 ai ϱ ⟨r,rfl,.self h (d.since b2 (fun z W e=>by omega))⟩))
section
variable {c:Conf} {s:StM} {pd:Option (Nat × PlcM)}
theorem XlD (h:s.OkP c pd) (o size:Int) (ht:0<=s.rm.tot/\s.rm.tot<=1000000000000):0<=(Zd c s o size).rm.tot/\(Zd c s o size).rm.tot<=s.rm.tot+10000:=by
 unfold Zd;cases b:Em c s size with
 |none =>
  obtain ⟨a,d,f⟩:=Xcs h.rm o size;show 0<=(Af c s.rm o size).tot/\(Af c s.rm o size).tot<=_
  rw [<- a];show 0<=Xw s.rm.tot _/\Xw s.rm.tot _<=_
  rw [Ba (by omega)];omega
 |some m =>
  show 0<=Xw (Qk s.rm _ m.pt m.ta o).tot 3/\Xw (Qk s.rm _ m.pt m.ta o).tot 3<=_
  have e:(Qk s.rm (Xm c.classes size) m.pt m.ta o).tot=s.rm.tot:=by unfold Qk; split <;> rfl
  rw [e,Ba (by omega)];omega
theorem Ny (hm:Zb c=true) (q:PlcM) (i:Nat) (l:List Int) (ht:0<=s.rm.tot/\s.rm.tot<=1000000000000) (hl:l.length<=25000000):0<=(Z4 c s q i l).rm.tot/\(Z4 c s q i l).rm.tot<=s.rm.tot+2*l.length+1:=by
 have:=Ij (q:=q.plc) (at':=i) (n:=l.length) hm;show 0<=Xw s.rm.tot _/\Xw s.rm.tot _<=_
 rw [Ba (by omega)];omega
theorem Xbk (h:s.OkP c pd) (o:Nat) (ho:o<s.th.length) (size:Int) (hL:(Y9 c s (o:Nat) size).OkP c pd2) (ht:0<=s.rm.tot/\s.rm.tot<=999999900000):0<=(Y9 c s (o:Nat) size).rm.tot/\(Y9 c s (o:Nat) size).rm.tot<=s.rm.tot+50020000:=by
 have b:=XlD h (o:Nat) size ⟨ht.1,by omega⟩;have a:(Y9 c s (o:Nat) size).th[o]? = some (some ⟨size,Za c s (o:Nat) size⟩):=by
  show (s.th.set (o:Int).toNat _)[o]? = _
  rw [XA,XG ho]
 obtain ⟨pv,ph,pf⟩:=H1 hL a;have e:=Gn (c:=c) (q:=(Za c s (o:Nat) size).plc) h.may pf;have d:=Ny (s:=Zd c s (o:Nat) size) h.may (Za c s (o:Nat) size) 0 (Xy (Zt c (Za c s (o:Nat) size).plc).toNat) ⟨b.1,by omega⟩ (by rw [C8]; omega);rw [C8] at d;show 0<=(Z4 c (Zd c s (o:Nat) size) _ _ _).rm.tot/\(Z4 c (Zd c s (o:Nat) size) _ _ _).rm.tot<=_
 omega
end
set_option maxHeartbeats 1000000 in
theorem XjW {s:StM} (h:X2 w r s) (hs:s.Ok r.c) (o size:Int) (hz : -9223372036854775808<=size/\size<=9223372036854775807) (ht:0<=s.rm.tot/\s.rm.tot<=999900000000):Xf prog 42 #[.agg (Zn r).toArray,.int .i64 o,.int .i64 size] w
 (fun v w' => ∃ r',v = .tuple #[.agg (Zn r').toArray,.int .i64 (Bp r.c s o size)]/\Cj w r (As r.c s o size) r' w'):=by
 have F:=hs.may;have hq:=U4 hs;have kg:=(Ye F).most;refine Xf.enter func42 rfl ntmps42 rfl rfl ?_;refine ζa rfl ?_;refine Xa.alloc Xb rfl ?_;intro b w1 e1 hb hr kh;refine ζa rfl ?_;refine Xa.alloc Xb rfl ?_;intro qb D e2 cu fr ki;refine ζa rfl ?_;replace hb:X6 w1 b r:=hb;have fs:=fr.heap' hb;have c9:=hr.trans fr;have z2:=c9.size;have lq:=Xg cu;have lb:=Xg hb;refine Xa.loads Xb rfl fs rfl rfl ?_;refine ζc rfl (S7 (h.grow c9) hs o) ?_;rintro _ w3 ⟨rfl,bw⟩;refine ζa rfl ?_;have d9:=bw.heap' fs;have da:=bw.heap' cu;have db:=c9.trans bw;have no:∀ {e:Int},Bp r.c s o size=e->e≠0->As r.c s o size=s:=fun e1 e2=>by unfold As; rw [if_pos (by rw [e1]; exact e2)]
 by_cases g0:Yc s o=0
 ·obtain ⟨j,t,rfl,u⟩:=Jd g0;rw [g0];refine Xa.no Xb rfl rfl rfl ?_;refine Xa.loads Xb rfl d9 rfl rfl ?_;refine ζc rfl (Xax r.c r.cp size w3) ?_;rintro _ w4 ⟨rfl,bx⟩;refine ζa rfl ?_;have bz:=bx.heap' d9;have dc:=bx.heap' da;have be:=db.trans bx;by_cases gr:size<1\/r.c.most<size
  ·have e:Bp r.c s (j:Nat) size=3:=by unfold Bp; rw [if_neg (fun e=>e g0),if_pos gr]
   rw [no e (by decide),e];have eb:(decide (1<=size) && decide (size<=r.c.most))=false:=by
    rw [Bool.and_eq_false_iff,decide_eq_false_iff_not,decide_eq_false_iff_not]; omega
   rw [eb];refine Xa.yes Xb rfl rfl rfl ?_;have cb:=bz;have cc:=dc;have cd:=be;have gb:=Xg cu;refine Xa.loads Xb rfl cb rfl rfl ?_;refine Xa.store Xb rfl cc rfl rfl ?_;intro wr dd de hu;refine ζa rfl ?_;exact ζq rfl func42 (Xk.cell rfl rfl rfl dd rfl (.tmp rfl .nil)) ⟨r,rfl,.self h (cd.since de (fun z hz e=>by omega))⟩
  ·have e:Bp r.c s (j:Nat) size=if Au r.c t.size size=true then 0 else Qr r.c s size:=by unfold Bp; rw [if_neg (fun e=>e g0),if_neg gr,Ez u]
   have eb:(decide (1<=size) && decide (size<=r.c.most))=true:=by
    rw [XK,decide_eq_true_iff,decide_eq_true_iff]; omega
   rw [eb];have kj:=hs.size j t u;have h4:=h.grow be;obtain ⟨kk,⟨v1,v2⟩,p1,p2,a0,off,eta,hw,_,ft⟩:=h4.trowP u;obtain ⟨q,eq⟩:∃ q:Plc,q=r.ts[j].q:=⟨_,rfl⟩;rw [<- eq] at v2 p1 p2 ft;refine Xa.no Xb rfl rfl rfl ?_;refine Xa.loadb Xb rfl bz rfl rfl ?_;rw [eta];refine Xa.index Xb rfl (j:=(j*5)) (by omega) (by omega) (by first | rfl | omega | (simp; done) | (simp; omega)) rfl ?_;refine ζk rfl (hw _ rfl) rfl ?_;rw [v1];refine Xa.loadb Xb rfl bz rfl rfl ?_;rw [eta];refine Xa.index Xb rfl (j:=(j*5)) (by omega) (by omega) (by first | rfl | omega | (simp; done) | (simp; omega)) rfl ?_;refine Xa.loadC Xb ((Xt q)) rfl (by first | rfl | (simp; done) | (simp [*]; done) | (simp; omega)) (ft) rfl ?_;rw [<- eta];refine Xa.alloc Xb rfl ?_;intro pb w5 e5 gd hx kl;refine ζa rfl ?_;refine Xa.store Xb rfl gd rfl rfl ?_;intro w6 cf i0 km;refine ζa rfl ?_;replace cf:w6.heap[pb]? = some (.cells (Xt q).toArray 98 (0,0)):=cf;have cg:Xc Xe w4 w6:=hx.since i0 (fun z hz e=>by omega);have ge:=be.trans cg;have i1:=cg.heap' bz;refine Xa.loads Xb rfl i1 rfl rfl ?_;refine ζc rfl (Xj1 (h.grow ge) hs t.size size (by omega) hz.2) ?_;rintro _ w7 ⟨rfl,df⟩;refine ζa rfl ?_;have jd:=df;have K:=cg.trans df;have ah:=be.trans K;have cv:=K.heap' bz;have ch:=K.heap' dc;have ci:=df.heap' cf;have i2:q.pages.length<=4096:=by have e:q.pages=t.q.pages:=congrArg PlcM.pages v2; rw [e]; exact (H1 hs u).2.2
   by_cases O:Au r.c t.size size=true
   ·rw [if_pos O] at e;have eR:As r.c s (j:Nat) size=if size<t.size then Ac (Dq (Z4 r.c s t.q size.toNat (Xy (t.size - size).toNat)) (j:Nat) ⟨size,t.q⟩) (j:Nat) size.toNat (t.size - size).toNat else Dq s (j:Nat) ⟨size,t.q⟩:=by
     unfold As;rw [if_neg (fun g=>g e),Ez u,Qx u,if_pos O]
    rw [O,e,eR];refine Xa.yes Xb rfl rfl rfl ?_;have dg:=(List.getElem?_eq_some_iff.1 u).1;have h7:=h.grow ah;refine Xa.loads Xb rfl cv rfl rfl ?_;refine Xa.loads Xb rfl ci rfl rfl ?_;refine Xa.build Xb rfl rfl ?_;refine ζc rfl (Nk h7 (Jp hs) j dg ⟨size,q⟩ (some ⟨size,t.q⟩) ⟨rfl,fun y e=>by cases e; exact v2⟩ ⟨p1.grow K,p2.grow K.size⟩) ?_;rintro _ w8 ⟨r8,rfl,h8,⟨fu,fv,i3⟩,U⟩;refine ζa rfl ?_;have fw:Zp w7 r r8:=⟨fu,fv,fun S hS ho=>i3 S hS ho (by have:=ho.tq r.ts[j] (XJ _); rw [<- eq] at this; exact this)⟩;refine Xa.alloc Xb rfl ?_;intro nb w9 e9 gh ba kn;refine ζa rfl ?_;refine Xa.store Xb rfl gh rfl rfl ?_;intro V G bg di;refine ζa rfl ?_;replace G:X6 V nb r8:=G;have ao:Xc Xe w8 V:=ba.since bg (fun z hz e=>by omega);have W:=U.trans ao;have cw:=ah.trans W;have i4:=h8.grow ao;have gi:=W.heap' cv;have eu:=W.heap' ci;have ap:=W.heap' ch;have ko:=ah.size;have fx:D.heap.size<=w7.heap.size:=by have:=bw.size; have:=bx.size; have:=K.size; omega
    have z8:=U.size;have z9:=ba.size;have kp:=ao.size;have c0:Zp D r r8:=fw.back fx;by_cases cx:size<t.size
    ·rw [if_pos cx];obtain ⟨sz,rfl⟩:=XD (show 0<=size by omega);obtain ⟨d,ed⟩:=XD (show 0<=t.size - sz by omega);rw [ed,XA,XA];obtain ⟨pv,ph,pf⟩:=H1 hs u;have i6:Qj r.c q sz d=0:=Jy v2 (Fw pv (by omega) (by omega) (by omega));have i7:(r.ra.bs.length:Int)=r.c.size*r.c.pages:=by rw [h.rb]; exact hs.bl
     have dj:r.ra.steps=s.rm.tot:=h.rs;have ck:=h.grow cw;have hd:∀ w',Xc Xe V w'->Xf prog 96 #[.agg (Qz r.c r.cp r.ra).toArray,.agg (Xt q).toArray,.int .i64 (sz:Nat),.int .i64 (d:Nat)] w' (fun v D=>Xc Xe w' D /\ ∃ x,v=Hj r.c r.cp x/\E0 r.c V r.ra q sz (Xy d) x D /\ ∀ b,V.heap.size<=b->(b<w'.heap.size\/D.heap.size<=b)->Xj (fun z=>z=b) x.a):=fun w' k =>
      (S5 r.c r.cp r.ra q sz d w' ((ck.grow k).conf) ((p1.grow (K.trans W)).grow k) F i2 i6 ((ck.grow k).ra) i7 (by rw [dj]; omega)).mono fun v D ⟨x,x1,x2,x3,x4,x5,x6⟩ =>
       ⟨x6,x,x1,XbD ck.la (by rw [h.rb]; exact hq) k (by rw [C8]; exact x2) (by rw [C8]; exact x3) x4 x5⟩
     refine Xa.yes Xb rfl (decide_eq_true cx) rfl ?_;refine Xa.drawn (q:=13) Xe Xb Xo (by kernel_rfl) rfl ?_;intro f;refine Xd.loads Xb f rfl gi (by first | exact fun h=>h | (intro h; omega) | assumption) rfl rfl ?_;refine Xd.call Xb f rfl (fun w' k=>(Ka (w:=w') (r:=r))) rfl ?_;refine Xd.loads Xb f rfl eu (by first | exact fun h=>h | (intro h; omega) | assumption) rfl rfl ?_;refine Xd.arith Xb f rfl (w64 (by omega)) rfl ?_;rw [ed];refine Xd.callAllocG (Hj r.c r.cp) (E0 r.c V r.ra q sz (Xy d)) ((fun x b=>Xj (fun z=>z=b) x.a)) Xb f rfl rfl rfl (fun _=>rfl) rfl (fun _=>rfl) (fun _=>rfl) rfl rfl (fun _ _=>rfl) rfl (fun _ _=>rfl) (hd) (N3) ((fun _ h=>h.elim)) ?_;rintro mb x c6 i8 dl dm ⟨C,N,q3,q4,q5⟩ hG;refine Xd.turn1 f rfl ?_;intro ia ai;refine Xq.store Xb f rfl (ai.heap' dl) (by first | (intro h; exact rfl) | (intro h; omega)) rfl rfl rfl ?_;intro J bh az gm;refine Xd.nil f ?_;intro fy R;refine ζa rfl ?_;replace bh:J.heap[mb]? = some (.cells (Qz r.c r.cp x).toArray 144 (0,0)):=bh;have j3:=dm.size;have dn:Xc Xe V J:=(dm.trans ai).since az (fun z hz e=>by omega);have a7:=dn.trans R;have ex:Zv J x:=⟨((q3.grow ai).rd).far hG az,q3.len,q3.lc,q3.rng⟩;have aq:=ex.grow R;have ey:Yf fy x.a:=((q5.grow ai.size).grow az.size).grow R.size;have ez:=R.heap' bh;have f0:=a7.heap' G;refine Xa.loads Xb rfl ez rfl rfl ?_;refine Xa.store Xb rfl f0 rfl rfl ?_;intro c7 ar bi jj;refine ζa rfl ?_;obtain ⟨a8,b2⟩:∃ a8:SR,a8={r8 with ra:=x}:=⟨_,rfl⟩;replace ar:X6 c7 nb a8:=by rw [b2]; exact ar
     have lnb:=Xg G;have au:Xj (fun z=>z=nb) x.a:=fun b'' off' s' e hz=>by
      rcases q4 with e' | ⟨g,off,e',hg⟩
      ·have:=h.la b'' off' s' (e'▸e); omega
      ·rw [e'] at e; cases e; omega
     have kq:=a7.size;have bj:Xc Xe w8 c7:=(ao.trans a7).since bi (fun z hz e=>by omega);have f1:Zv c7 x:=⟨aq.rd.far au bi,aq.len,aq.lc,aq.rng⟩;have ib:=Ij (q:=q) (at':=sz) (n:=d) F;have bk:=h8.putRa bj (ra:=x) (bs:=Ql r.c t.q.plc s.bs sz (Xy d) (Xy d).length) (t:=Xw s.rm.tot (X8 r.c t.q.plc sz (Xy d).length)) f1 (by rw [C,h.rb,<- v2,<- I9]) (by rw [N,dj,C8,<- v2,<- Gx,Ba (by omega)]) (ey.grow bi.size);rw [<- b2] at bk;replace bk:X2 c7 a8 (Dq (Z4 r.c s t.q sz (Xy d)) (j:Nat) ⟨(sz:Nat),t.q⟩):=bk;have b3:a8.c=r.c/\a8.cp=r.cp:=by rw [b2]; exact ⟨fu,fv⟩
     have gn:Zp w7 r a8:=⟨b3.1,b3.2,fun S hS ho=>by
      have h1:=fw.2.2 S hS ho;rw [b2];exact {h1 with ra:=ho.ra.newer q4 (fun z hz=>by have:=hS z hz; omega)}⟩
     have gq:Ad (fun z=>z=nb) a8:=by
      have h1:Ad (fun z=>z=nb) r8:=h8.out (fun z e=>by omega);rw [b2];exact {h1 with ra:=au}
     have ic:(Dq (Z4 r.c s t.q sz (Xy d)) (j:Nat) ⟨(sz:Nat),t.q⟩).OkP a8.c none:=by
      rw [b3.1];exact StM.OkP.sized (StM.OkP.put hs t.q sz (P8 d)) (o:=j) (t:=t) u O (by omega)
     have dp:=Ny (s:=s) F t.q sz (Xy d) ⟨ht.1,by omega⟩ (by rw [C8]; omega);rw [C8] at dp;have gs:(Dq (Z4 r.c s t.q sz (Xy d)) (j:Nat) ⟨(sz:Nat),t.q⟩).th[j]? = some (some ⟨(sz:Nat),t.q⟩):=by
      show (s.th.set (j:Int).toNat _)[j]? = _
      rw [XA,XG dg]
     refine Xa.loads Xb rfl ar rfl rfl ?_;refine Xa.arith Xb rfl (w64 (by omega)) rfl ?_;rw [ed];refine ζc rfl (Xex bk ic j gs sz d (fun m hm=>by have:=Xc1 hs u (show Xz s t.q.cls=some m from hm); omega) ⟨dp.1,by show (Z4 r.c s t.q sz (Xy d)).rm.tot<=_; omega⟩) ?_;rintro _ dq ⟨fz,rfl,a9⟩;refine ζa rfl ?_;have f2:=U.trans bj;have kr:=Xg ch;have f3:=bi.heap (a7.heap' ap) (by omega);have f4:=f2.trans a9.2.2;have jm:=bj.size;have jn:=a9.2.2.size;refine Xa.store Xb rfl (a9.2.2.heap' ar) rfl rfl ?_;intro cy aa cl jo;refine ζa rfl ?_;replace aa:X6 cy nb fz:=aa;have cz:Xc Xe w cy:=(ah.trans f4).since cl (fun z hz e=>by omega);have jp:=bg.size;have ie:=a9.1.far (a9.2.1.2.2 _ (fun z e=>by omega) gq) (by have:=h.conf.chg cz; rw [a9.2.1.1,a9.2.1.2.1,b3.1,b3.2]; exact this) cl;have f5:=cl.heap (a9.2.2.heap' f3) (by omega);have dr:Zp D r fz:=(gn.back fx).trans a9.2.1 (by omega);refine Xa.loads Xb rfl aa rfl rfl ?_;refine Xa.store Xb rfl f5 rfl rfl ?_;intro wz ds c8 ig;refine ζa rfl ?_;have b4:Xc Xe w wz:=(cz).since c8 (fun z hz e=>by omega);exact ζq rfl func42 (Xk.cell rfl rfl rfl ds rfl (.tmp rfl .nil)) ⟨_,rfl,h.box dr ie (by omega) (by omega) c8 b4,Zp.back dr z2,b4⟩
    ·rw [if_neg cx];refine Xa.no Xb rfl (decide_eq_false cx) rfl ?_;refine Xa.loads Xb rfl G rfl rfl ?_;refine Xa.store Xb rfl ap rfl rfl ?_;intro wz ds c8 ig;refine ζa rfl ?_;have b4:Xc Xe w wz:=(cw).since c8 (fun z hz e=>by omega);exact ζq rfl func42 (Xk.cell rfl rfl rfl ds rfl (.tmp rfl .nil)) ⟨_,rfl,h.box c0 i4 (by omega) (by omega) c8 b4,Zp.back c0 z2,b4⟩
   ·replace O:Au r.c t.size size=false:=by simpa using O
    rw [if_neg (by rw [O]; decide)] at e;rw [O,e];refine Xa.no Xb rfl rfl rfl ?_;refine Xa.loads Xb rfl cv rfl rfl ?_;refine ζc rfl (S6 (h.grow ah) hs size) ?_;rintro _ w8 ⟨rfl,U⟩;refine ζa rfl ?_;have gt:=U;have aj:=ah.trans U;have dt:=U.heap' cv;have cm:=U.heap' ch;by_cases hf:Qr r.c s size=0
    ·rw [hf];refine Xa.no Xb rfl rfl rfl ?_;have dg:=(List.getElem?_eq_some_iff.1 u).1;have ev:q.cls=t.q.cls:=congrArg PlcM.cls v2;obtain ⟨t',M1,M2,M3,M4,M5,M6,M7,M8⟩:=Sk hs u O hf;have ii:=T0 hs t.q.cls ⟨ht.1,by omega⟩;obtain ⟨s1,d0⟩:∃ s1,s1=Zj s t.q.cls:=⟨_,rfl⟩;obtain ⟨m,em⟩:=XD (show 0<=min t.size size by omega);have eM:As r.c s (j:Nat) size=B6 r.c (Z4 r.c (Y9 r.c (Qf s1 (X8 r.c t'.q.plc 0 m)) (j:Nat) size) (Yy (Y9 r.c (Qf s1 (X8 r.c t'.q.plc 0 m)) (j:Nat) size) (j:Nat)) 0 (Yh r.c t'.q.plc s1.bs 0 m)) t'.q:=by
      unfold As;rw [if_neg (fun g=>g (e.trans hf)),Ez u,if_neg (by rw [O]; decide)];unfold Kh;simp only
      rw [Qx u,Ez u,<- d0,Qx (d0▸M2),em,XA]
     rw [em,XA] at M8;rw [<- d0] at M1 M2 M6 M7 M8 ii;rw [eM];have gu:=U.heap' ci;refine Xa.loads Xb rfl dt rfl rfl ?_;refine Xa.loadb Xb rfl gu rfl rfl ?_;rw [ev];refine ζc rfl (Xet (h.grow aj) hs t.q.cls ⟨ht.1,by omega⟩) ?_;rintro _ w9 ⟨i,rfl,H⟩;refine ζa rfl ?_;rw [<- d0] at H;refine Xa.alloc Xb rfl ?_;intro nb V ks G gv di;refine ζa rfl ?_;refine Xa.store Xb rfl G rfl rfl ?_;intro c6 ac gw jr;refine ζa rfl ?_;replace ac:X6 c6 nb i:=ac;have av:Xc Xe w9 c6:=gv.since gw (fun z hz e=>by omega);have g1:=H.1.grow av;have cn:Ad (fun z=>z=nb) i:=H.1.out (fun z e=>by omega);have noN:∀ {a b:World},Xc Xe a b->Xc (fun z=>z=nb) a b:=fun h=>h.gr;have d1:=H.2.2.trans av;have j4:=aj.trans d1;have f6:=d1.heap' cm;have bb:i.c=r.c:=H.2.1.1;have lnb:=Xg ac;have kt:=aj.size;have ij:D.heap.size<=w8.heap.size:=by have:=bw.size; have:=bx.size; have:=K.size; have:=gt.size; omega
     have z9:=H.2.2.size;have js:=av.size;obtain ⟨ku,⟨y1,y2⟩,p3,p4,b0,ju,dx,_,_,dy⟩:=g1.trowP M2;obtain ⟨C,g2⟩:∃ C:Plc,C=i.ts[j].q:=⟨_,rfl⟩;have im:Xj (fun z=>z=nb) C.pa:=by rw [g2]; exact cn.tq _ (XJ _)
     rw [<- g2] at y2 p3 p4 dy;refine Xa.loadb Xb rfl ac rfl rfl ?_;rw [dx];refine Xa.index Xb rfl (j:=(j*5)) (by omega) (by omega) (by first | rfl | omega | (simp; done) | (simp; omega)) rfl ?_;refine Xa.loadC Xb ((Xt C)) rfl (by first | rfl | (simp; done) | (simp [*]; done) | (simp; omega)) (dy) rfl ?_;rw [<- dx];refine Xa.alloc Xb rfl ?_;intro kb ia kv f8 ai jv;refine ζa rfl ?_;refine Xa.store Xb rfl f8 rfl rfl ?_;intro J ad az gm;refine ζa rfl ?_;replace ad:J.heap[kb]? = some (.cells (Xt C).toArray 98 (0,0)):=ad;have A:Xc Xe c6 J:=ai.since az (fun z hz e=>by omega);have g3:=g1.grow A;have d2:=A.heap' ac;have j5:=A.size;obtain ⟨pv,ph,pf⟩:=H1 M1 M2;have gx:C.pages.length<=4096:=by have e:C.pages=t'.q.pages:=congrArg PlcM.pages y2; rw [e]; exact pf
     have kw:(m:Int)<=t.size/\(m:Int)<=size/\1<=m:=by omega
     have gy:Qj i.c C (0:Nat) m=0:=by rw [bb]; exact Jy y2 (Fw pv (by omega) (by omega) (by omega))
     have gz:(i.ra.bs.length:Int)=i.c.size*i.c.pages:=by rw [H.1.rb,bb]; exact M1.bl
     have dz:i.ra.steps=s1.rm.tot:=H.1.rs;have ib:=Ij (q:=C) (at':=0) (n:=m) F;obtain ⟨l,el⟩:∃ l,l=Yh r.c t'.q.plc s1.bs 0 m:=⟨_,rfl⟩;have e0:l.length=m:=by rw [el]; unfold Yh; simp
     have elq:Yh i.c C i.ra.bs 0 m=l:=by rw [bb,H.1.rb,Xbi r.c C,y2,el]
     have e3:Qd l:=by rw [el]; exact Pz M1.bi _ _
     obtain ⟨ra',era⟩:∃ ra':RA,ra'={i.ra with steps:=i.ra.steps+X8 i.c C 0 m}:=⟨_,rfl⟩;have hd:∀ w',Xc Xe J w'->Xf prog 99 #[.agg (Qz i.c i.cp i.ra).toArray,.agg (Xt C).toArray,.int .i64 0,.int .i64 (m:Nat)] w' (fun v D=>Xc Xe w' D /\ ∃ x,v=Sz i.c i.cp ra' m x/\Nh l J.heap.size x D /\ ∀ b,J.heap.size<=b->(b<w'.heap.size\/D.heap.size<=b)->Xj (fun z=>z=b) x.1):=fun w' k =>
      (Xep i.c i.cp i.ra C 0 m w' ((g3.grow k).conf) (p3.grow (A.trans k)) (by rw [bb]; exact F) gx gy ((g3.grow k).ra) gz (by rw [dz]; omega)).mono fun v D ⟨u1,x1,x2,x3⟩=>by
       rw [elq] at x2;obtain ⟨a,cap,rfl,y1,y2⟩:=x2.rd8 e0;have:=k.size;exact ⟨x3,(a,cap),by rw [x1,era],⟨y1,fun b off s' e=>⟨by have:=(y2 b off s' e).1; omega,(y2 b off s' e).2⟩⟩,fun b hb kx b' off' s' e hz=>by have:=y2 b' off' s' e; omega⟩
     have emin:(if size<t.size then size else t.size)=(m:Int):=by rw [<- em]; split <;> omega
     refine Xa.drawn (q:=14) Xe Xb Xo (by kernel_rfl) rfl ?_;intro f;refine Xd.loads Xb f rfl d2 (by first | exact fun h=>h | (intro h; omega) | assumption) rfl rfl ?_;refine Xd.call Xb f rfl (fun w' k=>(Ka (w:=w') (r:=i))) rfl ?_;refine Xd.loads Xb f rfl ad (by first | exact fun h=>h | (intro h; omega) | assumption) rfl rfl ?_;rw [emin];refine Xd.callAllocG (Sz i.c i.cp ra' m) (Nh l J.heap.size) ((fun x b=>Xj (fun z=>z=b) x.1)) Xb f rfl rfl rfl (fun _=>rfl) rfl (fun _=>rfl) (fun _=>rfl) rfl rfl (fun _ _=>rfl) rfl (fun _ _=>rfl) (hd) (Xea) ((fun _ h=>h.elim)) ?_;rintro mb x fy i8 dl R ⟨x1,x2⟩ hG;refine Xd.turn1 f rfl ?_;intro c7 co;refine Xq.store Xb f rfl (co.heap' dl) (by first | (intro h; exact rfl) | (intro h; omega)) rfl rfl rfl ?_;intro dq bl e4 jw;refine Xd.nil f ?_;intro cy cp;refine ζa rfl ?_;replace bl:dq.heap[mb]? = some (.cells (Qz i.c i.cp ra').toArray 144 (0,0)):=bl;have j6:=R.size;have e6:Xc Xe J dq:=(R.trans co).since e4 (fun z hz e=>by omega);have E:=e6.trans cp;have j7:=E.size;have g4:∀ b',b'<J.heap.size->Xj (fun z=>z=b') x.1:=fun b' h2 b'' off' s' e hz=>by have:=(x2 b'' off' s' e).1; omega
     have h0:Rd .u8 cy x.1 l:=((x1.chg co).far hG e4).chg cp;have f9:=cp.heap' bl;have aa:=E.heap' d2;have lkb:=Xg ad;refine Xa.loads Xb rfl f9 rfl rfl ?_;refine Xa.store Xb rfl aa rfl rfl ?_;intro b6 ae ak jx;refine ζa rfl ?_;obtain ⟨P,al⟩:∃ P:SR,P={i with ra:=ra'}:=⟨_,rfl⟩;replace ae:X6 b6 nb P:=by rw [al]; rw [era] at ae ⊢; exact ae
     have aw:Xc Xe w9 b6:=((av.trans A).trans E).since ak (fun z hz e=>by omega);have fa:Zv b6 ra':=by rw [era]; exact ⟨(H.1.ra.grow aw).rd,H.1.ra.len,H.1.ra.lc,H.1.ra.rng⟩
     have h3:X8 r.c t'.q.plc 0 m=X8 r.c C 0 m:=by rw [Gx r.c C,y2]
     obtain ⟨s2,bc⟩:∃ s2,s2=Qf s1 (X8 r.c t'.q.plc 0 m):=⟨_,rfl⟩;have g5:Xw s1.rm.tot (X8 r.c t'.q.plc 0 m)=s1.rm.tot+X8 r.c t'.q.plc 0 m:=Ba (by omega);have bm:=H.1.putRa aw (ra:=ra') (bs:=s1.bs) (t:=Xw s1.rm.tot (X8 r.c t'.q.plc 0 m)) fa (by rw [era]; exact H.1.rb) (by rw [era,g5,h3,<- dz,bb]) (by rw [era]; exact H.1.la.grow aw.size);rw [<- al] at bm;replace bm:X2 b6 P s2:=by rw [bc]; exact bm
     have b7:P.c=r.c:=by rw [al]; exact bb
     have h5:P.cp=r.cp:=by rw [al]; exact H.2.1.2.1
     have h6:Zp w9 i P:=by rw [al,era]; exact ⟨rfl,rfl,fun S hS ho=>{ho with ra:=ho.ra}⟩
     have ha:Ad (fun z=>z=nb) P:=by rw [al,era]; exact {cn with ra:=cn.ra}
     have hc:Rd .u8 b6 x.1 l:=h0.far (g4 nb (by omega)) ak;have e7:Xc (fun z=>z=nb) c6 b6:=(noN (A.trans E)).trans ak;have fb:=ak.heap (E.heap' ad) (by omega);have lqb:=Xg cm;have fc:=ak.heap ((A.trans E).heap' f6) (by omega);have g6:0<=s2.rm.tot/\s2.rm.tot<=s.rm.tot+20000+2*m+1:=by
      rw [bc];show 0<=Xw s1.rm.tot _/\Xw s1.rm.tot _<=_
      rw [g5];omega
     rw [<- bc] at M8 ⊢;have cq:s2.OkP P.c none:=by rw [b7,bc]; exact M1.tot _
     have e8:j<s2.th.length:=by rw [bc]; exact (List.getElem?_eq_some_iff.1 M2).1
     have fd:Qr P.c s2 size=0:=by rw [b7,bc]; exact M7
     refine Xa.loads Xb rfl ae rfl rfl ?_;refine ζc rfl (Xev bm cq e8 fd (by rw [b7]; exact M8) ⟨g6.1,by omega⟩) ?_;rintro _ ky ⟨c,rfl,B⟩;refine ζa rfl ?_;rw [b7] at B cq;have g7:=Xbk cq j e8 size M8 ⟨g6.1,by omega⟩;obtain ⟨s3,g8⟩:∃ s3,s3=Y9 r.c s2 (j:Nat) size:=⟨_,rfl⟩;have bo:s3.th[j]? = some (some ⟨size,Za r.c s2 (j:Nat) size⟩):=by
      rw [g8];show (s2.th.set (j:Int).toNat _)[j]? = _
      rw [XA,XG e8]
     obtain ⟨Q,eQ⟩:∃ Q,Q=Za r.c s2 (j:Nat) size:=⟨_,rfl⟩;rw [<- eQ] at bo;rw [<- g8] at B M8 g7 ⊢;rw [Qx bo];have kz:=ak.size;have l0:=B.2.2.size;have fe:=B.2.2.heap' ae;refine Xa.store Xb rfl fe rfl rfl ?_;intro L af T jy;refine ζa rfl ?_;replace af:X6 L nb c:=af;have cr:Ad (fun z=>z=nb) c:=B.2.1.2.2 _ (fun z e=>by omega) ha;have d3:Xc Xe w9 L:=(aw.trans B.2.2).since T (fun z hz e=>by omega);have d4:=(aj.trans H.2.2).trans d3;have M:c.c=r.c:=B.2.1.1.trans b7;have ea:c.cp=r.cp:=B.2.1.2.1.trans h5;have ag:=B.1.far cr (by have:=h.conf.chg d4; rw [M,ea]; exact this) T;have ec:Xc (fun z=>z=nb) b6 L:=(noN B.2.2).trans T;have he:Rd .u8 L x.1 l:=(hc.chg B.2.2).far (g4 nb (by omega)) T;have ff:=T.heap (B.2.2.heap' fb) (by omega);have fg:=T.heap (B.2.2.heap' fc) (by omega);obtain ⟨_,⟨_,y4⟩,p5,p6,b1,k0,hh,_,_,ee⟩:=ag.trowP bo;obtain ⟨N,ip⟩:∃ N:Plc,N=c.ts[j].q:=⟨_,rfl⟩;rw [<- ip] at y4 p5 p6 ee;replace y4:Xx N=Q:=y4;obtain ⟨ef,g9,eg⟩:=H1 M8 bo;replace ef:Ya r.c Q.plc=true:=ef;replace g9:size<=Zt r.c Q.plc:=g9;replace eg:Q.pages.length<=4096:=eg;have hi:N.pages.length<=4096:=by have e:N.pages=Q.pages:=congrArg PlcM.pages y4; rw [e]; exact eg
     subst e0;have hj:Qj c.c N (0:Nat) l.length=0:=by rw [M]; exact Jy y4 (Fw ef (by omega) (by omega) (by omega))
     have hk:(c.ra.bs.length:Int)=c.c.size*c.c.pages:=by rw [ag.rb,M]; exact M8.bl
     have eh:c.ra.steps=s3.rm.tot:=ag.rs;have iq:∀ w',Xc Xe L w'->Xf prog 100 #[.agg (Qz c.c c.cp c.ra).toArray,.agg (Xt N).toArray,.int .i64 0,.slice x.1 l.length x.2] w' (fun v D=>Xc Xe w' D /\ ∃ y,v=Hj c.c c.cp y/\E0 c.c L c.ra N 0 l y D /\ ∀ b,L.heap.size<=b->(b<w'.heap.size\/D.heap.size<=b)->Xj (fun z=>z=b) y.a):=fun w' k =>
      (XaD c.c c.cp c.ra N 0 x.1 x.2 l w' ((ag.grow k).conf) (p5.grow k) (by rw [M]; exact F) hi hj ((ag.grow k).ra) hk (by rw [eh]; omega) (he.chg k) e3).mono fun v D ⟨y,a1,a2,a3,a4,a5,a6⟩ =>
       ⟨a6,y,a1,XbD ag.la (by rw [ag.rb]; exact U4 M8) k a2 a3 a4 a5⟩
     refine Xa.drawn (q:=15) Xe Xb Xo (by kernel_rfl) rfl ?_;intro f;refine Xd.loads Xb f rfl af (by first | exact fun h=>h | (intro h; omega) | assumption) rfl rfl ?_;refine Xd.call Xb f rfl (fun w' k=>(Ka (w:=w') (r:=c))) rfl ?_;refine Xd.loadb Xb f rfl af (by first | exact fun h=>h | (intro h; omega) | assumption) rfl rfl ?_;rw [hh];refine Xd.index Xb f rfl (j:=(j*5)) (by omega) (by omega) (by first | rfl | omega | (simp; done) | (simp; omega)) rfl ?_;refine Xd.loadC Xb f ((Xt N)) rfl (by first | rfl | (simp; done) | (simp [*]; done) | (simp; omega)) (ee) (by first | exact fun h=>h | (intro h; omega) | assumption) rfl ?_;refine Xd.callAllocG (Hj c.c c.cp) (E0 c.c L c.ra N 0 l) ((fun x b=>Xj (fun z=>z=b) x.a)) Xb f rfl rfl rfl (fun _=>rfl) rfl (fun _=>rfl) (fun _=>rfl) rfl rfl (fun _ _=>rfl) rfl (fun _ _=>rfl) (iq) (N3) ((fun _ h=>h.elim)) ?_;rintro vb y l1 l2 ir ei ⟨c1,c2,c3,c4,c5⟩ iu;refine Xd.turn1 f rfl ?_;intro l3 bp;refine Xq.store Xb f rfl (bp.heap' ir) (by first | (intro h; exact rfl) | (intro h; omega)) rfl rfl rfl ?_;intro ej bq ct ka;refine Xd.nil f ?_;intro iv br;refine ζa rfl ?_;replace bq:ej.heap[vb]? = some (.cells (Qz c.c c.cp y).toArray 144 (0,0)):=bq;have l4:=T.size;have l5:=ei.size;have ek:Xc Xe L ej:=(ei.trans bp).since ct (fun z hz e=>by omega);have p:=ek.trans br;have l6:=p.size;have fi:Zv ej y:=⟨((c3.grow bp).rd).far iu ct,c3.len,c3.lc,c3.rng⟩;have ax:=fi.grow br;have fj:Yf iv y.a:=((c5.grow bp.size).grow ct.size).grow br.size;have fk:=br.heap' bq;have fm:=p.heap' af;refine Xa.loads Xb rfl fk rfl rfl ?_;refine Xa.store Xb rfl fm rfl rfl ?_;intro am bt I kc;refine ζa rfl ?_;obtain ⟨b8,bu⟩:∃ b8:SR,b8={c with ra:=y}:=⟨_,rfl⟩;replace bt:X6 am nb b8:=by rw [bu]; exact bt
     have au:Xj (fun z=>z=nb) y.a:=fun b'' off' s' e hz=>by
      rcases c4 with e' | ⟨g,off,e',hg⟩
      ·exact cr.ra b'' off' s' (e'▸e) hz
      ·rw [e'] at e; cases e; omega
     have fn:Zv am y:=⟨ax.rd.far au I,ax.len,ax.lc,ax.rng⟩;have en:Xc (fun z=>z=nb) L am:=(noN p).trans I;have ke:=Ij (q:=N) (at':=0) (n:=l.length) F;have hl:X8 r.c Q.plc 0 l.length=X8 r.c N 0 l.length:=by rw [Gx r.c N,y4]
     have d5:Xc Xe w am:=(d4.trans p).since I (fun z hz e=>by omega);have iw:Xc Xe w9 am:=(d3.trans p).since I (fun z hz e=>by omega);have ix:=ag.grow p;have bv:=(ix.far cr (by have:=h.conf.chg d5; rw [M,ea]; exact this) I).putRa (Xc.refl Xe am) (ra:=y) (bs:=Ql r.c Q.plc s3.bs 0 l l.length) (t:=Xw s3.rm.tot (X8 r.c Q.plc 0 l.length)) fn (by rw [c1,ag.rb,M,<- y4,<- I9]) (by rw [c2,eh,M,hl,Ba (by omega)]) (fj.grow I.size);rw [<- bu] at bv;replace bv:X2 am b8 (Z4 r.c s3 Q 0 l):=bv;have eo:b8.c=r.c:=by rw [bu]; exact M
     have hn:Zp L c b8:=by rw [bu]; exact ⟨rfl,rfl,fun S hS ho=>{ho with ra:=ho.ra.newer c4 hS}⟩
     have fo:=I.heap (p.heap' ff) (by omega);have fp:=I.heap (p.heap' fg) (by omega);have ep:=(e7.trans ec).trans en;have hp:Zf am C:=⟨p3.rd.far im ep,p3.len⟩;have iy:=Ny (s:=s3) F Q 0 l ⟨g7.1,by omega⟩ (by omega);have iz:(Z4 r.c s3 Q 0 l).OkP b8.c (some (j,Xx C)):=by rw [eo,y2]; exact StM.OkP.put M8 _ _ e3
     rw [<- el];refine Xa.loads Xb rfl bt rfl rfl ?_;refine Xa.loads Xb rfl fo rfl rfl ?_;refine ζc rfl (Xeu bv C iz hp ⟨iy.1,by omega⟩) ?_;rintro _ l7 ⟨er,rfl,bd⟩;refine ζa rfl ?_;rw [eo,y2] at bd;have l8:=I.size;have l9:=bd.2.2.size;refine Xa.store Xb rfl (bd.2.2.heap' fp) rfl rfl ?_;intro j0 fq es kf;refine ζa rfl ?_;have d6:Xc Xe w j0:=(d5.trans bd.2.2).since es (fun z hz e=>by omega);have j1:Zp w9 i c:=h6.trans B.2.1 (by omega);have j2:Zp w9 i er:=(j1.trans hn (by omega)).trans bd.2.1 (by omega);have c0:Zp D r er:=(H.2.1.back ij).trans j2 (by omega);exact ζq rfl func42 (Xk.cell rfl rfl rfl fq rfl (.tmp rfl .nil)) ⟨er,rfl,h.box c0 bd.1 (by omega) (by omega) es d6,Zp.back c0 z2,d6⟩
    ·rw [no e hf];refine Xa.yes Xb rfl (by simpa using hf) rfl ?_;refine Xa.drawn (q:=4) Xe Xb Xo (by kernel_rfl) rfl ?_;intro f;refine Xd.loads Xb f rfl dt (by first | exact fun h=>h | (intro h; omega) | assumption) rfl rfl ?_;refine Xd.loads Xb f rfl dt (by first | exact fun h=>h | (intro h; omega) | assumption) rfl rfl ?_;refine Xd.call Xb f rfl (fun w' k=>S6 (h.grow (aj.trans k)) hs size) rfl ?_;refine Xd.nil f ?_;intro w9 ba;refine ζa rfl ?_;have z9:=ba.size;refine Xa.store Xb rfl (ba.heap' cm) rfl rfl ?_;intro V ap bg di;refine ζa rfl ?_;exact ζq rfl func42 (Xk.cell rfl rfl rfl ap rfl (.tmp rfl .nil)) ⟨r,rfl,.self h ((aj.trans ba).since bg (fun z hz e=>by omega))⟩
 ·have e:Bp r.c s o size=Yc s o:=by unfold Bp; rw [if_pos g0]
  rw [no e g0,e];refine Xa.yes Xb rfl (by simpa using g0) rfl ?_;have cb:=d9;have cc:=da;have cd:=db;have gb:=Xg cu;refine Xa.loads Xb rfl cb rfl rfl ?_;refine Xa.store Xb rfl cc rfl rfl ?_;intro wr dd de hu;refine ζa rfl ?_;exact ζq rfl func42 (Xk.cell rfl rfl rfl dd rfl (.tmp rfl .nil)) ⟨r,rfl,.self h (cd.since de (fun z hz e=>by omega))⟩
structure Gr where
 kind:Int
 own:Int
 a:Int
 b:Int
 bs:List Int
 ba:Option Addr
 bc:Nat
def E4 (u:Gr):List Value := [.int .u8 u.kind,.int .i64 u.own,.int .i64 u.a,.int .i64 u.b,.slice u.ba u.bs.length u.bc]
structure Ie (w:World) (u:Gr):Prop where
 kind:0<=u.kind/\u.kind<256
 a : -9223372036854775808<=u.a/\u.a<=9223372036854775807
 b : -9223372036854775808<=u.b/\u.b<=9223372036854775807
 rd:Rd .u8 w u.ba u.bs
 rng:Qd u.bs
 lc:u.bs.length<=u.bc
 len:u.bc<=9223372036854775807
theorem Ie.grow {u:Gr} (h:Ie w u) (hc:Xc Xe w w'):Ie w' u:=⟨h.kind,h.a,h.b,h.rd.chg hc,h.rng,h.lc,h.len⟩
def Q8 (c:Conf) (s:StM) (u:Gr):Int:=if u.kind % 7=0 then A5 c s u.own u.a else if u.kind % 7=1 then Yc s u.own else if u.kind % 7=2 then Bp c s u.own u.a else if u.kind % 7=3 then Qc s u.own u.a u.b else if u.kind % 7=4 then Qc s u.own u.a u.bs.length else if u.kind % 7=5 then 0 else Ch s u.own u.a
def Y6 (c:Conf) (s:StM) (u:Gr):StM:=if u.kind % 7=0 then Ao c s u.own u.a else if u.kind % 7=1 then C4 c s u.own else if u.kind % 7=2 then As c s u.own u.a else if u.kind % 7=3 then C5 c s u.own u.a u.b else if u.kind % 7=4 then Dr c s u.own u.a u.bs else if u.kind % 7=5 then De c s else Dp s u.own u.a
def Qg (c:Conf) (s:StM) (u:Gr):List Int:=if u.kind % 7=3 then C6 c s u.own u.a u.b else []
theorem XjR (a:Option Addr) (cap:Nat) (xs:List Gr) (w:World) (hr:Rows E4 5 w a xs) (hl:xs.length<=9223372036854775807) :
 Xf prog 9 #[.slice a xs.length cap] w (fun v w' => ∃ b,v = .bool b/\(b=true->xs.length<=20 /\ ∀ x ∈ xs,x.bs.length<=100)/\w=w'):=by
 refine Xf.enter func9 rfl ntmps9 rfl rfl ?_;refine ζa rfl ?_;refine Xa.loop (α:=Nat) (fun k => [(0,false,.slice a xs.length cap),(3,false,.int .i64 k)])
  (fun k w'=>w'=w/\k<=xs.length/\k<=21 /\ ∀ j (h:j<xs.length),j<k->xs[j].bs.length<=100) (fun k=>21 - k) 0 ⟨rfl,rfl,trivial⟩ ⟨rfl,XL _,by omega,fun _ _ h=>by omega⟩ ?_
 rintro k t ⟨o,u,p,c⟩ ih;subst o;refine ζa rfl ?_;have d:¬ (k<xs.length/\k<21)->xs.length<=20 -> ∀ x ∈ xs,x.bs.length<=100:=fun f g x q=>by
  obtain ⟨j,l,rfl⟩:=QE q;exact c j l (by omega)
 refine Xa.fork Xb rfl rfl rfl (fun f => ?_) (fun f => ?_)
 ·refine Xa.fork Xb rfl rfl rfl (fun g => ?_) (fun g => ?_)
  ·have m:k<xs.length:=by have:=of_decide_eq_true f; omega
   have r:k<21:=by have:=of_decide_eq_true g; omega
   obtain ⟨b,off,rfl,i⟩:=hr.at m;refine Xa.index Xb rfl (j:=(k*5)) (by omega) (by omega) (by first | rfl | omega | (simp; done) | (simp; omega)) rfl ?_;refine ζk rfl (i 4 _ rfl) rfl ?_;refine Xa.fork Xb rfl rfl rfl (fun n => ?_) (fun n => ?_)
   ·exact Xa.ret1 Xb rfl func9 rfl rfl ⟨false,rfl,(fun h=>Bool.noConfusion h),rfl⟩
   ·have y:=of_decide_eq_false n;refine Xa.arith Xb rfl (w64 (by omega)) rfl ?_;exact ih (k+1) _ _ ⟨rfl,by omega,by omega,fun j l s=>by
     by_cases e:j=k
     ·subst e; omega
     ·exact c j l (by omega)⟩ (by omega) ⟨rfl,rfl,trivial⟩
  ·have r:=of_decide_eq_false g;exact Xa.ret1 Xb rfl func9 rfl rfl ⟨_,rfl,fun h=>by have:=of_decide_eq_true h; exact ⟨by omega,d (by omega) (by omega)⟩,rfl⟩
 ·have m:=of_decide_eq_false f;exact Xa.ret1 Xb rfl func9 rfl rfl ⟨_,rfl,fun h=>by have:=of_decide_eq_true h; exact ⟨by omega,d (by omega) (by omega)⟩,rfl⟩
theorem XjP (u:Gr) (h:X2 w r s) (hs:s.Ok r.c) (hu:Ie w u) (ht:0<=s.rm.tot/\s.rm.tot<=999900000000):Xf prog 12 #[.agg (Zn r).toArray,.agg (E4 u).toArray] w
 (fun v w' => ∃ r' a cap,v = .tuple #[.agg (Zn r').toArray,.slice a (Qg r.c s u).length cap,.int .i64 (Q8 r.c s u)]/\Rd .u8 w' a (Qg r.c s u)/\(∀ b off s',a=some ⟨b,off,s'⟩->w.heap.size<=b/\b<w'.heap.size)/\Cj w r (Y6 r.c s u) r' w'):=by
 have hk:=hu.kind;refine ζe func12 ntmps12 ϱ (ζn ϱ fun b w1 e1 T P U=>ζn ϱ fun ub w2 e2 Q M V=>ζn ϱ fun qb w3 e3 j I W => ?_);have k:=(M.trans I).heap' T;have l:=I.heap' Q;have n:=(P.trans M).trans I;have E:=h.grow n;have y:=n.size;refine ζl l ϱ (Xa.div Xb rfl (by omega) (Fi (by omega)) rfl ?_);by_cases p:u.kind % 7=0
 ·have eE:Q8 r.c s u=A5 r.c s u.own u.a:=by unfold Q8; rw [if_pos p]
  have eS:Y6 r.c s u=Ao r.c s u.own u.a:=by unfold Y6; rw [if_pos p]
  have eB:Qg r.c s u = []:=by unfold Qg; rw [if_neg (by omega)]
  rw [eE,eS,eB];refine ζy ϱ (ζl k ϱ (ζl l ϱ (ζl l ϱ (ζc ϱ (XjN E hs u.own u.a ⟨ht.1,by omega⟩) ?_))));rintro _ F ⟨q,rfl,c⟩;refine ζa ϱ ?_;refine ζs (c.2.2.heap' k) ϱ fun J o f D => ?_;have g:=(n.trans c.2.2).since f (fun z t e=>by omega);refine ζl o ϱ (ζs (f.heap (c.2.2.heap' j) (by omega)) ϱ fun G m i B => ?_);have d:=g.since i (fun z t e=>by omega);exact ζR func12 m ϱ ⟨q,none,0,rfl,Rd.nil _ _ _,(by intro b off s' e; cases e),(h.box c.2.1 (h.box c.2.1 c.1 (by omega) (Xg k) f g) (by omega) (Xg j) i d),c.2.1.back y,d⟩
 by_cases x:u.kind % 7=1
 ·have eE:Q8 r.c s u=Yc s u.own:=by unfold Q8; rw [if_neg p,if_pos x]
  have eS:Y6 r.c s u=C4 r.c s u.own:=by unfold Y6; rw [if_neg p,if_pos x]
  have eB:Qg r.c s u = []:=by unfold Qg; rw [if_neg (by omega)]
  rw [eE,eS,eB];refine ζf ϱ (ζy ϱ (ζl k ϱ (ζl l ϱ (ζc ϱ (XjS E hs u.own ⟨ht.1,by omega⟩) ?_))));rintro _ F ⟨q,rfl,c⟩;refine ζa ϱ ?_;refine ζs (c.2.2.heap' k) ϱ fun J o f D => ?_;have g:=(n.trans c.2.2).since f (fun z t e=>by omega);refine ζl o ϱ (ζs (f.heap (c.2.2.heap' j) (by omega)) ϱ fun G m i B => ?_);have d:=g.since i (fun z t e=>by omega);exact ζR func12 m ϱ ⟨q,none,0,rfl,Rd.nil _ _ _,(by intro b off s' e; cases e),(h.box c.2.1 (h.box c.2.1 c.1 (by omega) (Xg k) f g) (by omega) (Xg j) i d),c.2.1.back y,d⟩
 by_cases A:u.kind % 7=2
 ·have eE:Q8 r.c s u=Bp r.c s u.own u.a:=by unfold Q8; rw [if_neg p,if_neg x,if_pos A]
  have eS:Y6 r.c s u=As r.c s u.own u.a:=by unfold Y6; rw [if_neg p,if_neg x,if_pos A]
  have eB:Qg r.c s u = []:=by unfold Qg; rw [if_neg (by omega)]
  rw [eE,eS,eB];refine ζf ϱ (ζf ϱ (ζy ϱ (ζl k ϱ (ζl l ϱ (ζl l ϱ (ζc ϱ (XjW E hs u.own u.a hu.a ht) ?_))))));rintro _ F ⟨q,rfl,c⟩;refine ζa ϱ ?_;refine ζs (c.2.2.heap' k) ϱ fun J o f D => ?_;have g:=(n.trans c.2.2).since f (fun z t e=>by omega);refine ζl o ϱ (ζs (f.heap (c.2.2.heap' j) (by omega)) ϱ fun G m i B => ?_);have d:=g.since i (fun z t e=>by omega);exact ζR func12 m ϱ ⟨q,none,0,rfl,Rd.nil _ _ _,(by intro b off s' e; cases e),(h.box c.2.1 (h.box c.2.1 c.1 (by omega) (Xg k) f g) (by omega) (Xg j) i d),c.2.1.back y,d⟩
 by_cases C:u.kind % 7=3
 ·have eE:Q8 r.c s u=Qc s u.own u.a u.b:=by unfold Q8; rw [if_neg p,if_neg x,if_neg A,if_pos C]
  have eS:Y6 r.c s u=C5 r.c s u.own u.a u.b:=by unfold Y6; rw [if_neg p,if_neg x,if_neg A,if_pos C]
  have eB:Qg r.c s u=C6 r.c s u.own u.a u.b:=by unfold Qg; rw [if_pos C]
  rw [eE,eS,eB];refine ζf ϱ (ζf ϱ (ζf ϱ (ζy ϱ (ζl k ϱ (ζl l ϱ (ζl l ϱ (ζl l ϱ (ζc ϱ (XjV E hs u.own u.a u.b hu.a hu.b ⟨ht.1,by omega⟩) ?_))))))));rintro _ F ⟨q,R,N,rfl,S,K,c⟩;refine ζa ϱ ?_;refine ζs (c.2.2.heap' j) ϱ fun G m i B => ?_;have d:=(n.trans c.2.2).since i (fun z t e=>by omega);have O:Xj (fun z=>z=qb) R:=fun b' off s' e t=>by have:=K b' off s' e; omega
  exact ζR func12 m ϱ ⟨q,R,N,rfl,S.far O i,(fun b' off s' e=>⟨by have:=K b' off s' e; omega,by have:=K b' off s' e; have:=i.size; omega⟩),(h.box c.2.1 c.1 (by omega) (Xg j) i d),c.2.1.back y,d⟩
 by_cases H:u.kind % 7=4
 ·have eE:Q8 r.c s u=Qc s u.own u.a u.bs.length:=by unfold Q8; rw [if_neg p,if_neg x,if_neg A,if_neg C,if_pos H]
  have eS:Y6 r.c s u=Dr r.c s u.own u.a u.bs:=by unfold Y6; rw [if_neg p,if_neg x,if_neg A,if_neg C,if_pos H]
  have eB:Qg r.c s u = []:=by unfold Qg; rw [if_neg (by omega)]
  rw [eE,eS,eB];refine ζf ϱ (ζf ϱ (ζf ϱ (ζf ϱ (ζy ϱ (ζl k ϱ (ζl l ϱ (ζl l ϱ (ζl l ϱ (ζc ϱ (Xj0 E hs u.own u.a u.ba u.bc u.bs hu.a (hu.rd.chg n) (by have:=hu.lc; have:=hu.len; omega) hu.rng ⟨ht.1,by omega⟩) ?_)))))))));rintro _ F ⟨q,rfl,c⟩;refine ζa ϱ ?_;refine ζs (c.2.2.heap' k) ϱ fun J o f D => ?_;have g:=(n.trans c.2.2).since f (fun z t e=>by omega);refine ζl o ϱ (ζs (f.heap (c.2.2.heap' j) (by omega)) ϱ fun G m i B => ?_);have d:=g.since i (fun z t e=>by omega);exact ζR func12 m ϱ ⟨q,none,0,rfl,Rd.nil _ _ _,(by intro b off s' e; cases e),(h.box c.2.1 (h.box c.2.1 c.1 (by omega) (Xg k) f g) (by omega) (Xg j) i d),c.2.1.back y,d⟩
 by_cases L:u.kind % 7=5
 ·have eE:Q8 r.c s u=0:=by unfold Q8; rw [if_neg p,if_neg x,if_neg A,if_neg C,if_neg H,if_pos L]
  have eS:Y6 r.c s u=De r.c s:=by unfold Y6; rw [if_neg p,if_neg x,if_neg A,if_neg C,if_neg H,if_pos L]
  have eB:Qg r.c s u = []:=by unfold Qg; rw [if_neg (by omega)]
  rw [eE,eS,eB];refine ζf ϱ (ζf ϱ (ζf ϱ (ζf ϱ (ζf ϱ (ζy ϱ (ζl k ϱ (ζc ϱ (XjZ E hs ⟨ht.1,by omega⟩) ?_)))))));rintro _ F ⟨q,rfl,c⟩;refine ζa ϱ ?_;refine ζs (c.2.2.heap' k) ϱ fun J o f D => ?_;have g:=(n.trans c.2.2).since f (fun z t e=>by omega);refine ζl o ϱ (ζs (f.heap (c.2.2.heap' j) (by omega)) ϱ fun G m i B => ?_);have d:=g.since i (fun z t e=>by omega);exact ζR func12 m ϱ ⟨q,none,0,rfl,Rd.nil _ _ _,(by intro b off s' e; cases e),(h.box c.2.1 (h.box c.2.1 c.1 (by omega) (Xg k) f g) (by omega) (Xg j) i d),c.2.1.back y,d⟩
 ·have eE:Q8 r.c s u=Ch s u.own u.a:=by unfold Q8; rw [if_neg p,if_neg x,if_neg A,if_neg C,if_neg H,if_neg L]
  have eS:Y6 r.c s u=Dp s u.own u.a:=by unfold Y6; rw [if_neg p,if_neg x,if_neg A,if_neg C,if_neg H,if_neg L]
  have eB:Qg r.c s u = []:=by unfold Qg; rw [if_neg (by omega)]
  rw [eE,eS,eB];refine ζf ϱ (ζf ϱ (ζf ϱ (ζf ϱ (ζf ϱ (ζf ϱ (ζl k ϱ (ζl l ϱ (ζl l ϱ (ζc ϱ (XjX E hs u.own u.a) ?_)))))))));rintro _ F ⟨q,rfl,c⟩;refine ζa ϱ ?_;refine ζs (c.2.2.heap' k) ϱ fun J o f D => ?_;have g:=(n.trans c.2.2).since f (fun z t e=>by omega);refine ζl o ϱ (ζs (f.heap (c.2.2.heap' j) (by omega)) ϱ fun G m i B => ?_);have d:=g.since i (fun z t e=>by omega);exact ζR func12 m ϱ ⟨q,none,0,rfl,Rd.nil _ _ _,(by intro b off s' e; cases e),(h.box c.2.1 (h.box c.2.1 c.1 (by omega) (Xg k) f g) (by omega) (Xg j) i d),c.2.1.back y,d⟩
section
variable {c:Conf} {n0:Nat} {w0 w:World} {F:Nat->Prop} {S:Sto} {s:StM}
theorem Lv.ofE (h:Lv c n0 w0 w F S s) {e:Int} (hi:s'.Ok c) {P:Program} {k:FuncId} {args:Array Value} (hd:Xf P k args w (Ig F w S s' e)):Xf P k args w (fun v w'=>v = .int .i64 e/\E1 c n0 w0 w F S s' w') :=
 hd.mono fun v w' ⟨e1,a⟩=>⟨e1,h.to a hi⟩
theorem Xdn (h:Lv c n0 w0 w F S s) (o size:Int):Xf prog 30 #[Zk S,.int .i64 o,.int .i64 size] w (fun v w'=>v = .int .i64 (A5 c s o size)/\E1 c n0 w0 w F S (Ao c s o size) w'):=by
 obtain ⟨Fr,mo,b⟩:=h.ok;have a:=Xla b (by rw [h.sc]; exact h.inv) o size;rw [h.sc] at a;exact h.ofE (h.inv.alloc o size) a
theorem Ww (h:Lv c n0 w0 w F S s) (o:Int):Xf prog 32 #[Zk S,.int .i64 o] w (fun v w'=>v = .int .i64 (Yc s o)/\E1 c n0 w0 w F S (C4 c s o) w'):=by
 obtain ⟨Fr,mo,b⟩:=h.ok;have a:=Xld b (by rw [h.sc]; exact h.inv) o;rw [h.sc] at a;exact h.ofE (h.inv.free o) a
theorem Xia (h:Lv c n0 w0 w F S s) (o size:Int):Xf prog 38 #[Zk S,.int .i64 o,.int .i64 size] w (fun v w'=>v = .int .i64 (Bp c s o size)/\E1 c n0 w0 w F S (As c s o size) w'):=by
 obtain ⟨Fr,mo,b⟩:=h.ok;have a:=Xll b (by rw [h.sc]; exact h.inv) o size;rw [h.sc] at a;exact h.ofE (h.inv.resize o size) a
theorem Xdw (h:Lv c n0 w0 w F S s) (o i:Int) (a:Option Addr) (cap:Nat) (l:List Int) (hi : -9223372036854775808<=i/\i<=9223372036854775807) (hr:Rd .u8 w a l) (hlc:l.length<=cap) (hl:l.length<=9223372036854775807) (hin:Qd l) (hout:0<l.length->Xj F a):Xf prog 31 #[Zk S,.int .i64 o,.int .i64 i,.slice a l.length cap] w (fun v w'=>v = .int .i64 (Qc s o i l.length)/\E1 c n0 w0 w F S (Dr c s o i l) w'):=by
 obtain ⟨Fr,mo,d⟩:=h.ok;have b:=Xlr d (by rw [h.sc]; exact h.inv) o i a cap l hi hr hlc hl hin hout;rw [h.sc] at b;exact h.ofE (h.inv.write o i hin) b
theorem Xh9 (h:Lv c n0 w0 w F S s) (o i n:Int) (hi : -9223372036854775808<=i/\i<=9223372036854775807) (hn : -9223372036854775808<=n/\n<=9223372036854775807):Xf prog 33 #[Zk S,.int .i64 o,.int .i64 i,.int .i64 n] w
 (fun v w' => ∃ a cap,v = .tuple #[.slice a (C6 c s o i n).length cap,.int .i64 (Qc s o i n)]/\Rd .u8 w' a (C6 c s o i n)/\(∀ b off s',a=some ⟨b,off,s'⟩->w.heap.size<=b/\b<w'.heap.size)/\Lv c n0 w0 w' F S (C5 c s o i n)/\Xc F w w'):=by
 obtain ⟨Fr,mo,g⟩:=h.ok;have d:=Xlk g (by rw [h.sc]; exact h.inv) o i n hi hn;rw [h.sc] at d;refine d.mono fun v w' ⟨u,e,j,mo',k,f⟩ => ?_;obtain ⟨a,cap,e2,l,m⟩:=j.rd8 rfl;exact ⟨a,cap,by rw [e,e2],l,m,⟨⟨Fr,mo',k⟩,h.inv.read o i n,h.sc,h.fx,h.base,h.chg.since f (fun z p e=>by have:=h.base z e; omega)⟩,f⟩
theorem Xds (h:Lv c n0 w0 w F S s) (o i n:Int) (hi : -9223372036854775808<=i/\i<=9223372036854775807) (hn : -9223372036854775808<=n/\n<=9223372036854775807):Xf prog 33 #[Zk S,.int .i64 o,.int .i64 i,.int .i64 n] w
 (fun v w' => ∃ a cap,v = .tuple #[.slice a (C6 c s o i n).length cap,.int .i64 (Qc s o i n)]/\Rd .u8 w' a (C6 c s o i n)/\(∀ b off s',a=some ⟨b,off,s'⟩->w.heap.size<=b/\b<w'.heap.size)/\E1 c n0 w0 w F S (C5 c s o i n) w') :=
 (Xh9 h o i n hi hn).mono fun _ _ ⟨a,cap,e1,e2,e3,e4,e5⟩=>⟨a,cap,e1,e2,e3,F,e4,fun _ h => .inl h,e5⟩
theorem Xdv (h:Lv c n0 w0 w F S s):Xf prog 27 #[Zk S] w (fun v w'=>v = .int .i64 0/\E1 c n0 w0 w F S (De c s) w'):=by
 obtain ⟨Fr,mo,b⟩:=h.ok;have a:=Xlq b (by rw [h.sc]; exact h.inv);rw [h.sc] at a;exact h.ofE h.inv.tick a
theorem Xib (h:Lv c n0 w0 w F S s) (k keep:Int):Xf prog 39 #[Zk S,.int .i64 k,.int .i64 keep] w (fun v w'=>v = .int .i64 (Ch s k keep)/\E1 c n0 w0 w F S (Dp s k keep) w'):=by
 obtain ⟨Fr,mo,a⟩:=h.ok;exact h.ofE (h.inv.set k keep) (Xlm a (by rw [h.sc]; exact h.inv) k keep)
theorem Xdt (h:Lv c n0 w0 w F S s):Xf prog 13 #[Zk S] w (fun v w'=>v = .int .i64 (s.rm.tot - S.R.lap)/\Lv c n0 w0 w' F (S.relap s.rm.tot) s/\Xc (fun z=>z=S.mb) w w'/\F S.mb):=by
 obtain ⟨Fr,mo,a⟩:=h.ok;refine (Xlo a).mono fun v w' ⟨e,d,b⟩=>⟨e,⟨⟨Fr,mo,d⟩,h.inv,h.sc,?_,h.base,h.chg.since b (fun z m e=>by have:=h.base z (e▸a.mb.1); have:=h.chg.size; omega)⟩,b,a.mb.1⟩;obtain ⟨f1,f2,f,g,i,j,k,l⟩:=h.fx;exact ⟨f1,f2,f,g,i,j,k,l⟩
theorem Xdu (h:Lv c n0 w0 w F S s):Xf prog 13 #[Zk S] w (fun v w'=>v = .int .i64 (s.rm.tot - S.R.lap)/\Lv c n0 w0 w' F (S.relap s.rm.tot) s/\Xc F w w') :=
 (Xdt h).mono fun v w' ⟨e,a,b,d⟩=>⟨e,a,b.mono fun z _ e=>e▸d⟩
theorem Xdp (h:Lv c n0 w0 w F S s):Xf prog 20 #[Zk S] w (Grow (.int .i64 (Zh s.rm.pl:Nat)) w):=by obtain ⟨Fr,mo,a⟩:=h.ok; exact Xle a
theorem Xdo (h:Lv c n0 w0 w F S s):Xf prog 34 #[Zk S] w (Grow (.int .i64 (Zz s)) w):=by obtain ⟨Fr,mo,a⟩:=h.ok; exact Xlb a
theorem Xdr (h:Lv c n0 w0 w F S s) (k:Int):Xf prog 16 #[Zk S,.int .i64 k] w (Grow (.int .i64 (Yg s.rm k:Nat)) w):=by obtain ⟨Fr,mo,a⟩:=h.ok; exact Xli a k
theorem Wx (h:Lv c n0 w0 w F S s) (k:Int):Xf prog 15 #[Zk S,.int .i64 k] w (Grow (.int .i64 (Gl s k:Nat)) w):=by obtain ⟨Fr,mo,a⟩:=h.ok; exact Xlg a (by rw [h.sc]; exact h.inv) k
theorem Xic (h:Lv c n0 w0 w F S s) (o:Int):Xf prog 35 #[Zk S,.int .i64 o] w (Grow (.int .i64 (Qn s o)) w):=by obtain ⟨Fr,mo,a⟩:=h.ok; exact Xln a (by rw [h.sc]; exact h.inv) o
end
theorem Xiw {c:Conf} (hm:Zb c=true) (hA:Yr c (G9 c 0)):(Cn c).Ok c:=by
 have g:=Ye hm;have b:∀ (o:Nat) t,(Cn c).th[o]?≠some (some t):=fun o t e=>by
  have:=XS e;simp only [Cn,QJ] at this;cases this.2
 have i:∀ (o:Nat) t,(Cn c).mv[o]?≠some (some t):=fun o t e=>by
  have:=XS e;simp only [Cn,QJ] at this;cases this.2
 have f:=hm;unfold Zb at f;simp only [XK,decide_eq_true_eq,Q0,Bool.not_eq_true'] at f;refine ⟨hm,hA,g.keep,fun x d => ?_,?_,P8 _,?_,XH,fun o t h=>absurd h (b o t),fun o t h=>absurd h (b o t),fun o t h=>absurd h (b o t),fun o _ t _ h=>absurd h (b o t),fun k m h=>absurd h (i k m),fun k n a h=>absurd ?_ h,(by rintro _ _ ⟨⟩),(by rintro _ _ ⟨⟩)⟩
 ·have j:=f.1.1.1.1.2.2;rw [List.any_eq_false] at j;have:=j x d;unfold K9 Q0 at this;simp at this;omega
 ·show ((Xy _).length:Int)=_
  rw [C8];exact YR (ZG (by have:=g.size; omega) (by have:=g.pages; omega))
 ·show ((List.replicate c.slots.toNat none).length:Int)=_
  rw [XH];exact YR (by omega)
 ·unfold X9;split
  ·rfl
  ·rename_i x d
   unfold Zs at d;split at d
   ·obtain ⟨_,e⟩:=M9 d;rw [e];rfl
   ·cases d
theorem Xiv (c:Conf):Zz (Cn c)=0:=by
 rw [Fl];show ((List.replicate c.slots.toNat (none:Option ThM)).map Ds).sum=0
 generalize c.slots.toNat=n
 induction n with
 |zero=>rfl
 |succ n ih=>rw [ZR,ZB,YQ,ih]; rfl
theorem Xdq (c:Conf) (p:Y4) (w:World) (hc:Yp w c p) (ht:Az w) (hm:Zb c=true):Xf prog 28 #[.agg (Zl c p).toArray] w (fun v w' => ∃ F S,v = .tuple #[Zk S,.int .i64 0]/\Lv c w'.heap.size w w' F S (Cn c)/\S.R.lap=0/\S.p=p/\Xc Xe w w'):=by
 refine (Xlh c p w hc ht hm).mono fun v w' ⟨F,Fr,S,mo,e,a,⟨f,h⟩,i,j,g⟩=>⟨F,S,e,?_,i,h,g⟩;have d:=a.room;have b:=d.ok;rw [a.rc,f] at b;exact ⟨⟨Fr,mo,by rw [Xiv]; exact a⟩,Xiw hm ⟨b,d.mok,d.mpos⟩,f,a.fixed,j,g⟩
def Ag:Conf:=⟨64,4,[32],[0],8,5,3,128⟩
def Vx:List Int := [104,101,108,108,111]
def Ur:StM:=Cn Ag
def Us:StM:=Ao Ag Ur 0 20
def Ut:StM:=Ao Ag Us 1 20
def Uu:StM:=Ao Ag Ut 2 20
def N7:StM:=Ao Ag Uu 3 20
def aw22x5:StM:=Dr Ag N7 3 0 Vx
def aw22x6:StM:=C4 Ag aw22x5 0
def aw22x7:StM:=C4 Ag aw22x6 2
def XbV:StM:=De Ag aw22x7
def XbW:StM:=De Ag XbV
def N6:StM:=De Ag XbW
def aw22x11:StM:=C5 Ag N6 3 0 6
theorem XgB:Zb Ag=true:=by kernel_rfl
theorem Xgr:A5 Ag Ur 0 20=0:=by kernel_rfl
theorem Xgs:A5 Ag Us 1 20=0:=by kernel_rfl
theorem Xgt:A5 Ag Ut 2 20=0:=by kernel_rfl
theorem Xgu:A5 Ag Uu 3 20=0:=by kernel_rfl
theorem XgH:Qc N7 3 0 5=0:=by kernel_rfl
theorem Xgw:Yc aw22x5 0=0:=by kernel_rfl
theorem Xgx:Yc aw22x6 2=0:=by kernel_rfl
theorem XgG:aw22x7.rm.tot - aw22x6.rm.tot=14:=by kernel_rfl
theorem Xgz:Gl aw22x7 0=24:=by kernel_rfl
theorem XgD:Qc N6 3 0 6=0:=by kernel_rfl
theorem XgE:C6 Ag N6 3 0 6 = [104,101,108,108,111,0]:=by kernel_rfl
theorem XgA:Gl aw22x11 0=0:=by kernel_rfl
theorem Xgy:Zh aw22x11.rm.pl=1:=by kernel_rfl
theorem XgC:Yg aw22x11.rm 0=0:=by kernel_rfl
theorem Xgv:Zz aw22x11=40:=by kernel_rfl
theorem XgF:Qn aw22x11 3=20:=by kernel_rfl
theorem Rd.of22 {k:IntKind} {c:Array Value} {t:TypeId} (h:w.heap[b]? = some (.cells c t fz)) (hc:c=(zs.map (Value.int k)).toArray):Rd k w (some ⟨b,0,none⟩) zs:=fun i a =>
 ⟨b,0,rfl,by rw [Yi h,hc]; simp [a]⟩
theorem XhY (w:World):Xf prog 29 #[] w (fun v w' => ∃ p,v = .agg (Zl Ag p).toArray/\Yp w' Ag p/\Xc Xe w w'):=by
 refine Xf.enter func29 rfl ntmps29 rfl rfl ?_;refine ζa rfl ?_;refine Xa.alloc Xb rfl ?_;intro b u e1 l e o;refine ζa rfl ?_;refine Xa.buildSlice Xb rfl ?_;intro f x e2 g d q;refine ζa rfl ?_;refine Xa.buildSlice Xb rfl ?_;intro h y e3 i a r;refine ζa rfl ?_;refine Xa.build Xb rfl rfl ?_;refine Xa.store Xb rfl (a.heap' (d.heap' l)) rfl rfl ?_;intro m j c s;refine ζa rfl ?_;have n:Yp m Ag ⟨some ⟨f,0,none⟩,1,some ⟨h,0,none⟩,1⟩ :=
  ⟨Rd.of22 (c.heap (a.heap' g) (by omega)) rfl,Rd.of22 (c.heap i (by omega)) rfl,by decide,by decide,by unfold Kn; decide⟩
 exact ζq rfl func29 (Xk.cell rfl rfl rfl j rfl .nil) ⟨⟨some ⟨f,0,none⟩,1,some ⟨h,0,none⟩,1⟩,rfl,n,((e.trans d).trans a).since c (fun k z t=>by omega)⟩
def N8 (k:Nat):StM:=if k=0 then Ur else if k=1 then Us else if k=2 then Ut else if k=3 then Uu else N7
theorem XgI (h:k<4):A5 Ag (N8 k) (k:Nat) 20=0/\Ao Ag (N8 k) (k:Nat) 20=N8 (k+1):=by
 obtain rfl | rfl | rfl | rfl:k=0\/k=1\/k=2\/k=3:=by omega
 ·exact ⟨Xgr,rfl⟩
 ·exact ⟨Xgs,rfl⟩
 ·exact ⟨Xgt,rfl⟩
 ·exact ⟨Xgu,rfl⟩
def Rk (k:Nat):StM:=if k=0 then aw22x7 else if k=1 then XbV else if k=2 then XbW else N6
theorem XgJ (h:k<3):De Ag (Rk k)=Rk (k+1):=by
 obtain rfl | rfl | rfl:k=0\/k=1\/k=2:=by omega
 ·rfl
 ·rfl
 ·rfl
theorem XhU (w:World) (ht:Az w):Xf prog 7 #[] w (Grow (.bool true) w):=by
 refine Xf.enter func7 rfl ntmps7 rfl rfl ?_;refine ζa rfl ?_;refine ζc rfl (XhY w) ?_;rintro _ d ⟨p,rfl,a6,D⟩;refine ζa rfl ?_;refine ζc rfl (Xdq Ag p d a6 (ht.grow D) XgB) ?_;rintro _ w2 ⟨F,S,rfl,h2,am,_,b2⟩;refine ζa rfl ?_;obtain ⟨c,a8⟩:∃ c,c=w2.heap.size:=⟨_,rfl⟩;rw [<- a8] at h2;refine Xa.loop (α:=Nat) (fun k => [(1,false,Zk S),(2,false,.int .i64 0),(3,false,.int .i64 k)])
  (fun k w'=>k<=4 /\ ∃ F,Lv Ag c d w' F S (N8 k)) (fun k=>4 - k) 0 ⟨rfl,rfl,rfl,trivial⟩ ⟨XL _,F,h2⟩ ?_
 rintro k w3 ⟨hk,F3,B⟩ ih;refine ζa rfl ?_;refine Xa.fork Xb rfl rfl rfl (fun h => ?_) (fun h => ?_)
 ·have h:=of_decide_eq_true h;have a9:k<4:=by omega
  obtain ⟨a1,a2⟩:=XgI a9;refine ζc rfl (Xdn B (k:Nat) 20) ?_;rintro _ w4 ⟨rfl,F4,h4,_,_⟩;refine ζa rfl ?_;rw [a1];rw [a2] at h4;refine Xa.no Xb rfl rfl rfl ?_;refine Xa.arith Xb rfl (w64 (by omega)) rfl ?_;exact ih (k+1) _ _ ⟨by omega,F4,h4⟩ (by omega) ⟨rfl,rfl,rfl,trivial⟩
 ·have h:=of_decide_eq_false h;obtain rfl:k=4:=by omega
  refine Xa.buildSlice Xb rfl ?_;intro hb w4 e4 ac ad b3;refine ζa rfl ?_;refine Xa.mark Xb rfl ac ?_;intro w5 b4 R ae b5;refine ζa rfl ?_;rw [show N8 4=N7 from rfl] at B;have T:Xc Xe w3 w5:=ad.since ae (fun z C e=>by omega);have h5:=B.grow T;have af:¬ F3 hb:=fun C=>by have:=B.low _ C; omega
  have E:=Xdw h5 3 0 (some ⟨hb,0,none⟩) 5 Vx (by decide) (Rd.of22 R rfl) (by decide) (by decide) (by unfold Qd; decide) (fun _ b off s e C=>by cases e; exact af C);rw [show Qc N7 3 0 (Vx.length:Nat)=0 from XgH] at E;refine ζc rfl (E) ?_;rintro _ w6 ⟨rfl,F6,U,_,_⟩;refine ζa rfl ?_;replace U:Lv Ag c d w6 F6 S aw22x5:=U;have G:=Ww U 0;rw [Xgw] at G;refine ζc rfl (G) ?_;rintro _ w7 ⟨rfl,F7,V,_,_⟩;refine ζa rfl ?_;replace V:Lv Ag c d w7 F7 S aw22x6:=V;refine ζc rfl (Xdu V) ?_;rintro _ w8 ⟨rfl,h8,_⟩;refine ζa rfl ?_;obtain ⟨f,i⟩:∃ f,f=S.relap aw22x6.rm.tot:=⟨_,rfl⟩;rw [<- i] at h8;rw [show Zk S=Zk f by rw [i]; rfl];have H:=Ww h8 2;rw [Xgx] at H;refine ζc rfl (H) ?_;rintro _ w9 ⟨rfl,F9,W,_,_⟩;refine ζa rfl ?_;replace W:Lv Ag c d w9 F9 f aw22x7:=W;refine ζc rfl (Xdu W) ?_;rintro _ b6 ⟨I,J,_⟩;refine ζa rfl ?_;rw [show f.R.lap=aw22x6.rm.tot by rw [i]; rfl,XgG] at I;subst I;have j:=Wx J 0;rw [Xgz] at j;refine ζc rfl (j) ?_;rintro _ b7 ⟨rfl,a0⟩;refine ζa rfl ?_;have K:=J.grow a0;obtain ⟨g,L⟩:∃ g,g=f.relap aw22x7.rm.tot:=⟨_,rfl⟩;rw [<- L] at K;rw [show Zk f=Zk g by rw [L]; rfl];refine Xa.loop (α:=Nat) (fun k => [(1,false,Zk g),(2,false,.int .i64 0),(4,false,.int .i64 0),(5,false,.int .i64 0),(6,false,.int .i64 0),(7,false,.int .i64 14),(8,false,.int .i64 24),(9,false,.int .i64 k)])
   (fun k w'=>k<=3 /\ ∃ F,Lv Ag c d w' F g (Rk k)) (fun k=>3 - k) 0 ⟨rfl,rfl,rfl,rfl,rfl,rfl,rfl,rfl,trivial⟩ ⟨XL _,F9,K⟩ ?_
  rintro k b8 ⟨b9,ba,l⟩ ai;refine ζa rfl ?_;refine Xa.fork Xb rfl rfl rfl (fun m => ?_) (fun m => ?_)
  ·have m:=of_decide_eq_true m;have aj:k<3:=by omega
   refine ζc rfl (Xdv l) ?_;rintro _ M ⟨rfl,n,a,_,_⟩;refine ζa rfl ?_;rw [XgJ aj] at a;refine Xa.arith Xb rfl (w64 (by omega)) rfl ?_;exact ai (k+1) _ _ ⟨by omega,n,a⟩ (by omega) ⟨rfl,rfl,rfl,rfl,rfl,rfl,rfl,rfl,trivial⟩
  ·have m:=of_decide_eq_false m;obtain rfl:k=3:=by omega
   rw [show Rk 3=N6 from rfl] at l;have o:=Xds l 3 0 6 (by decide) (by decide);rw [XgD,XgE] at o;refine ζc rfl (o) ?_;rintro _ M ⟨bb,ak,rfl,a3,_,n,a,_,_⟩;refine ζa rfl ?_;replace a:Lv Ag c d M n g aw22x11:=a;have q:=Wx a 0;rw [XgA] at q;refine Xa.yes Xb rfl rfl rfl ?_;refine Xa.yes Xb rfl rfl rfl ?_;refine Xa.yes Xb rfl rfl rfl ?_;refine Xa.yes Xb rfl rfl rfl ?_;refine Xa.yes Xb rfl rfl rfl ?_;refine Xa.yes Xb rfl rfl rfl ?_;refine ζc rfl (q) ?_;rintro _ bc ⟨rfl,r⟩;refine ζa rfl ?_;refine Xa.yes Xb rfl rfl rfl ?_;have N:=a.grow r;have t:=Xdp N;rw [Xgy] at t;refine ζc rfl (t) ?_;rintro _ bd ⟨rfl,u⟩;refine ζa rfl ?_;refine Xa.yes Xb rfl rfl rfl ?_;have O:=N.grow u;have v:=Xdr O 0;rw [XgC] at v;refine ζc rfl (v) ?_;rintro _ be ⟨rfl,x⟩;refine ζa rfl ?_;refine Xa.yes Xb rfl rfl rfl ?_;refine Xa.yes Xb rfl rfl rfl ?_;have P:=O.grow x;refine Xa.bstrN Xb ([104,101,108,108,111,0]) rfl rfl ((((a3.chg r).chg u).chg x)) rfl ?_;refine Xa.streq Xb rfl (rfl) rfl ?_;refine Xa.yes Xb rfl rfl rfl ?_;have y:=Xdo P;rw [Xgv] at y;refine ζc rfl (y) ?_;rintro _ bf ⟨rfl,a4⟩;refine ζa rfl ?_;refine Xa.yes Xb rfl rfl rfl ?_;have Q:=P.grow a4;have A:=Xic Q 3;rw [XgF] at A;refine ζc rfl (A) ?_;rintro _ bg ⟨rfl,a5⟩;refine ζa rfl ?_;exact Xa.ret1 Xb rfl func7 rfl rfl ⟨rfl,(D.trans Q.chg).trans a5⟩
theorem XbB:∀ n,Y3 [.int .i64 0,.int .i64 0,.int .i64 0,.int .i64 0,.slice none 0 0] n=fl Cq (List.replicate n Ic)
 |0=>rfl
 |n+1=>by rw [Y3,XbB n,ZR]; rfl
theorem XbC:∀ n,Y3 (B1 Gp) n=fl B1 (List.replicate n Gp)
 |0=>rfl
 |n+1=>by rw [Y3,XbC n,ZR]; rfl
theorem XjU (c:Conf) (p:Y4) (w:World) (hc:Yp w c p) (hm:Zb c=true) (hp:c.pages<=512):Xf prog 37 #[.agg (Zl c p).toArray] w
 (fun v w' => ∃ r,v = .tuple #[.agg (Zn r).toArray,.int .i64 0]/\r.c=c/\r.cp=p/\X2 w' r (Cn c)/\(∀ S:Nat->Prop,(∀ z,S z->z<w.heap.size)->Xj S p.ka->Ad S r)/\Xc Xe w w'):=by
 have ae:=Ye hm;have an:L9 c.pages c.size=true:=by
  obtain ⟨m1,m2,m3⟩:=Dc hm;exact Ri.2 (by omega)
 have b7:0<c.pages*c.size:=Int.mul_pos (by have:=ae.pages; omega) (by have:=ae.size; omega);have em:Be c=0:=by unfold Be; rw [if_pos hm]
 have hf:=Ye hm;have b8:=hf.n;obtain ⟨N,V⟩:=XD (show 0<=c.slots by
  have:=hm;unfold Zb at this;simp only [XK,decide_eq_true_eq,Q0] at this;omega)
 have b9:c.slots<=4096:=by
  have:=hm;unfold Zb at this;simp only [XK,decide_eq_true_eq,Q0] at this;omega
 refine ζe func37 ntmps37 ϱ (ζn ϱ fun b w1 e1 hb af ba=>ζn ϱ fun qb w2 e2 ao W bb => ?_);have ag:=W.heap' hb;refine ζl ag ϱ (ζv (Xat c p w2 (hc.chg (af.trans W))) ϱ fun w3 E => ?_);rw [em];have a0:=E.heap' ag;have J:=E.heap' ao;have K:=(af.trans W).trans E;refine ζf ϱ (ζl a0 ϱ (ζl a0 ϱ (ζc ϱ (Xji c.pages c.size w3 an) ?_)));rintro _ w4 ⟨ab,rfl,bc,L,ah⟩;refine ζa ϱ ?_;obtain ⟨F,i⟩:∃ F:RA,F=⟨some ⟨ab,0,none⟩,(c.pages*c.size).toNat,Xy (c.pages*c.size).toNat,0⟩:=⟨_,rfl⟩;rw [<- i] at L ⊢;refine ζn ϱ fun t4 w5 e5 ap a1 bd=>ζs ap ϱ fun w6 ak a2 be => ?_;have l:=(ah.trans a1).since a2 (fun z a e=>by have:=ah.size; omega);have ai:=l.heap' a0;have C:=l.heap' J;refine ζl ai ϱ (ζc ϱ (XjH c p w6 (hc.chg (K.trans l)) hm hp) ?_);rintro _ w7 ⟨r2,rfl,k1,k2,k3,k4,T⟩;refine ζa ϱ (ζn ϱ fun t6 w8 e8 av a3 bf=>ζs av ϱ fun w9 al a4 bg => ?_);have j:=(T.trans a3).since a4 (fun z a e=>by have:=T.size; omega);have U:=j.heap' ai;refine ζd 12 Xe (by kernel_rfl) ϱ fun m=>δl m U ϱ (δl m U ϱ (δl m (j.heap' ak) ϱ (δl m al ϱ (δl m U ϱ (δl m U ϱ ?_)))));rw [V];refine Xd.turn2 m rfl ?_ ?_
 ·intro wa ka;refine Xq.make Xb m rfl rfl rfl (XE _) (show 56*N<=140737488355328 by omega) (by omega) (fun _=>rfl) fun tb wb etb a5 a6 aw=>Xd.turn1 m rfl fun wc u=>Xq.make Xb m rfl rfl rfl (XE _) (show 112*c.classes.length<=140737488355328 by omega) (by omega) (fun _=>rfl) fun vb wd evb a7 G ax=>δn m ϱ fun we A => ?_;have za:=ka.size;have zc:=u.size;have H:we.heap[tb]? = some (.cells (fl Cq (List.replicate N Ic)).toArray 100 (0,0)):=by rw [<- XbB]; exact ((u.trans G).trans A).heap' a5
  have I:we.heap[vb]? = some (.cells (fl B1 (List.replicate c.classes.length Gp)).toArray 109 (0,0)):=by rw [<- XbC]; exact A.heap' a7
  have f:=(((ka.trans a6).trans u).trans G).trans A;have ay:=l.size;have az:=E.size;obtain ⟨q,k⟩:∃ q:SR,q=⟨c,p,c.keep,p.ka,p.kc,F,r2,List.replicate N Ic,some ⟨tb,0,none⟩,N,List.replicate c.classes.length Gp,some ⟨vb,0,none⟩,c.classes.length⟩:=⟨_,rfl⟩;refine ζb ϱ (ζs ((j.trans f).heap' C) ϱ fun wz n d b0 => ?_);replace n:X6 wz qb q:=by
   have e1:(List.replicate N Ic).length=N:=XH;have e2:(List.replicate c.classes.length Gp).length=c.classes.length:=XH;rw [k];unfold X6 Zn;simp only [e1,e2];rw [<- V] at n;exact n
  have g:=(((K.trans l).trans j).trans f).since d (fun z a e=>by omega);have b1:=T.size;have a8:Yz wz r2 (G9 c 0):=by
   exact (k3.grow ((a3.since a4 (fun z a e=>by omega)).trans f)).far (k4 _ (fun z e=>by have:=Xg C; omega)) d
  have h:=((L.grow (a1.since a2 (fun z a e=>by omega))).grow j).grow f;have a9:Xj (fun z=>z=qb) F.a:=by rw [i]; intro b' off s e a; cases e; have:=Xg J; omega
  have B:Zv wz F:=⟨h.rd.far a9 d,h.len,h.lc,h.rng⟩;have b2:=hf.keep;have M:Yf w p.ka:=fun b' off s e=>hc.keep.block (by omega) e;have aa:X2 wz q (Cn c):=by
   rw [k];exact {
    conf:=hc.chg g
    kr:=(hc.chg g).keep
    ke:=rfl
    ra:=B
    rb:=by rw [i]; show Xy _=Xy _; rw [ZY]
    rs:=by rw [i]; rfl
    la:=fun b' off s e=>B.rd.block (by rw [i]; show 0<(Xy _).length; rw [C8]; omega) e
    lk:=M.grow g.size
    rr:=a8
    rc:=k1
    rp:=k2
    tr:=Kb (rest := []) (by rw [ZT]; exact d.heap H (by omega)) Nz
    tl:=by intro b' off s e; cases e; exact Xg (d.heap H (by omega))
    tc:=by rw [XH]; exact XE _
    tn:=by show (List.replicate N Ic).length=(List.replicate c.slots.toNat none).length; rw [XH,XH,V]; rfl
    te:=fun o x t O P=>by
     have e1:=(XY ..).symm.trans O;have e2:=(XY ..).symm.trans P;split at e1 <;> split at e2 <;> first | (cases e1; done) | (cases e2; done) | (cases e1; cases e2; exact ⟨rfl,fun y e=>by cases e⟩)
    tq:=fun t Q=>by rw [ZF Q]; exact ⟨H4 _ _ _,fun _ _ _ e=>by cases e⟩
    mr:=Kb (rest := []) (by rw [ZT]; exact d.heap I (by omega)) N2
    ml:=by intro b' off s e; cases e; exact Xg (d.heap I (by omega))
    mc:=by rw [XH]; exact XE _
    mn:=by show (List.replicate _ Gp).length=(List.replicate _ none).length; rw [XH,XH]
    me:=fun o x t O P=>by
     have e1:=(XY ..).symm.trans O;have e2:=(XY ..).symm.trans P;split at e1 <;> split at e2 <;> first | (cases e1; done) | (cases e2; done) | (cases e1; cases e2; exact ⟨rfl,fun y e=>by cases e⟩)}
  have R:∀ S:Nat->Prop,(∀ z,S z->z<w.heap.size)->Xj S p.ka->Ad S q:=fun S D hk=>by
   rw [k];refine ⟨hk,?_,k4 S (fun z a=>by have:=D z a; omega),?_,fun t Q => ?_,?_⟩
   ·rw [i]; intro b' off s e a; cases e; have:=D _ a; omega
   ·intro b' off s e a; cases e; have:=D _ a; omega
   ·rw [ZF Q]; intro b' off s e; cases e
   ·intro b' off s e a; cases e; have:=D _ a; omega
  exact ζR func37 n ϱ ⟨q,rfl,by rw [k],by rw [k],aa,R,g⟩
 ·intro wa ka;refine Xq.make Xb m rfl rfl rfl (XE _) (show 112*c.classes.length<=140737488355328 by omega) (by omega) (fun _=>rfl) fun vb wb evb a7 a6 aw=>Xd.turn1 m rfl fun wc u=>Xq.make Xb m rfl rfl rfl (XE _) (show 56*N<=140737488355328 by omega) (by omega) (fun _=>rfl) fun tb wd etb a5 G ax=>δn m ϱ fun we A => ?_;have za:=ka.size;have zc:=u.size;have H:we.heap[tb]? = some (.cells (fl Cq (List.replicate N Ic)).toArray 100 (0,0)):=by rw [<- XbB]; exact A.heap' a5
  have I:we.heap[vb]? = some (.cells (fl B1 (List.replicate c.classes.length Gp)).toArray 109 (0,0)):=by rw [<- XbC]; exact ((u.trans G).trans A).heap' a7
  have f:=(((ka.trans a6).trans u).trans G).trans A;have ay:=l.size;have az:=E.size;obtain ⟨q,k⟩:∃ q:SR,q=⟨c,p,c.keep,p.ka,p.kc,F,r2,List.replicate N Ic,some ⟨tb,0,none⟩,N,List.replicate c.classes.length Gp,some ⟨vb,0,none⟩,c.classes.length⟩:=⟨_,rfl⟩;refine ζb ϱ (ζs ((j.trans f).heap' C) ϱ fun wz n d b0 => ?_);replace n:X6 wz qb q:=by
   have e1:(List.replicate N Ic).length=N:=XH;have e2:(List.replicate c.classes.length Gp).length=c.classes.length:=XH;rw [k];unfold X6 Zn;simp only [e1,e2];rw [<- V] at n;exact n
  have g:=(((K.trans l).trans j).trans f).since d (fun z a e=>by omega);have b1:=T.size;have a8:Yz wz r2 (G9 c 0):=by
   exact (k3.grow ((a3.since a4 (fun z a e=>by omega)).trans f)).far (k4 _ (fun z e=>by have:=Xg C; omega)) d
  have h:=((L.grow (a1.since a2 (fun z a e=>by omega))).grow j).grow f;have a9:Xj (fun z=>z=qb) F.a:=by rw [i]; intro b' off s e a; cases e; have:=Xg J; omega
  have B:Zv wz F:=⟨h.rd.far a9 d,h.len,h.lc,h.rng⟩;have b2:=hf.keep;have M:Yf w p.ka:=fun b' off s e=>hc.keep.block (by omega) e;have aa:X2 wz q (Cn c):=by
   rw [k];exact {
    conf:=hc.chg g
    kr:=(hc.chg g).keep
    ke:=rfl
    ra:=B
    rb:=by rw [i]; show Xy _=Xy _; rw [ZY]
    rs:=by rw [i]; rfl
    la:=fun b' off s e=>B.rd.block (by rw [i]; show 0<(Xy _).length; rw [C8]; omega) e
    lk:=M.grow g.size
    rr:=a8
    rc:=k1
    rp:=k2
    tr:=Kb (rest := []) (by rw [ZT]; exact d.heap H (by omega)) Nz
    tl:=by intro b' off s e; cases e; exact Xg (d.heap H (by omega))
    tc:=by rw [XH]; exact XE _
    tn:=by show (List.replicate N Ic).length=(List.replicate c.slots.toNat none).length; rw [XH,XH,V]; rfl
    te:=fun o x t O P=>by
     have e1:=(XY ..).symm.trans O;have e2:=(XY ..).symm.trans P;split at e1 <;> split at e2 <;> first | (cases e1; done) | (cases e2; done) | (cases e1; cases e2; exact ⟨rfl,fun y e=>by cases e⟩)
    tq:=fun t Q=>by rw [ZF Q]; exact ⟨H4 _ _ _,fun _ _ _ e=>by cases e⟩
    mr:=Kb (rest := []) (by rw [ZT]; exact d.heap I (by omega)) N2
    ml:=by intro b' off s e; cases e; exact Xg (d.heap I (by omega))
    mc:=by rw [XH]; exact XE _
    mn:=by show (List.replicate _ Gp).length=(List.replicate _ none).length; rw [XH,XH]
    me:=fun o x t O P=>by
     have e1:=(XY ..).symm.trans O;have e2:=(XY ..).symm.trans P;split at e1 <;> split at e2 <;> first | (cases e1; done) | (cases e2; done) | (cases e1; cases e2; exact ⟨rfl,fun y e=>by cases e⟩)}
  have R:∀ S:Nat->Prop,(∀ z,S z->z<w.heap.size)->Xj S p.ka->Ad S q:=fun S D hk=>by
   rw [k];refine ⟨hk,?_,k4 S (fun z a=>by have:=D z a; omega),?_,fun t Q => ?_,?_⟩
   ·rw [i]; intro b' off s e a; cases e; have:=D _ a; omega
   ·intro b' off s e a; cases e; have:=D _ a; omega
   ·rw [ZF Q]; intro b' off s e; cases e
   ·intro b' off s e a; cases e; have:=D _ a; omega
  exact ζR func37 n ϱ ⟨q,rfl,by rw [k],by rw [k],aa,R,g⟩
end Go.Proofs.YtohjeeapehmkcaaGreatDoor
