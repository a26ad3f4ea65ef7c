/-
  Texts put together: Sto5, Sto6, Sto7, Sto8, StBy, Sto9, Sto10, Sto11, Sto12, Sto13, Sto14, Sto15, Ref20j.
-/
import Derived.Test.YtdeihcnepljjaaaGreatDoorPt7
import Derived.Test.YtdeihcnepljjaaaGreatDoorQRule25
import Derived.Test.YtdeihcnepljjaaaGreatDoorQRule22
import Derived.Test.YtdeihcnepljjaaaGreatDoorQRule23
set_option linter.unusedVariables false
set_option maxRecDepth 100000
namespace Go.Proofs.YtdeihcnepljjaaaGreatDoor
open Go.RowKit
open Go renaming World→dD,Value→dE
open Bool renaming and_eq_true->XJ,and_false->YD,true_and->YI,false_and->Y2
open Decidable renaming not_not->YK
open Int renaming toNat_natCast->XB,eq_ofNat_of_zero_le->XE,mul_le_mul->ZG,mul_nonneg->ZI,mul_comm->YP,toNat_of_nonneg->QI,add_mul->QL,one_mul->QM
open List renaming getD_eq_getElem?_getD->XA,getElem?_eq_some_iff->XC,getElem?_eq_getElem->XD,length_set->XG,getElem?_set_self->XH,length_replicate->XI,getElem?_set_ne->XK,getElem_mem->XM,length_cons->XN,getElem?_map->XO,mem_map->XQ,nodup_append->XR,length_map->XV,mem_of_getElem?->XW,length_take->XX,mem_of_mem_take->XY,take_append_drop->XZ,getElem?_append_left->ZA,length_append->ZC,take_add_one->ZH,take_length->ZL,length_range->ZM,mem_cons_self->ZO,nil_append->ZT,flatMap_cons->ZX,map_set->ZY,mem_cons_of_mem->YB,replicate_succ->YF,getElem?_toArray->YW,nodup_nil->YX,mem_replicate->QA,append_nil->QD,ext_getElem?->QF,any_eq_false->QG,sum_cons->QH,getElem_of_mem->QT,mem_filter->QW
open Nat renaming le_refl->XF,zero_le->XP,zero_add->XT,mul_one->ZQ,add_assoc->YR
open Option renaming map_eq_some_iff->YO
open Go.Proofs.Tryz (func103 func104 func110 func113 func115 func124 func129 func130 func197 func210 func53 func56 func61 func63 func64 func70 func71 func78 func79 ntmps103 ntmps104 ntmps110 ntmps113 ntmps115 ntmps124 ntmps129 ntmps130 ntmps197 ntmps210 ntmps53 ntmps56 ntmps61 ntmps63 ntmps64 ntmps70 ntmps71 ntmps78 ntmps79 prog)
variable {A:Ar}{V:ArV}{c:Conf}{l':IL}{ahead by' cS cH size cN u who z:Int}{lg:List (Nat×List Nat)}{th:List (Option ThM)}{ps:List IL}{bs l p zs:List Int}{l2 ws:List Nat}{cs rest xs:List dE}{mo:Mo}{N at' b base cap d fuel g i j k lm lo m n o qb sz t tm ty vb xb y:Nat}{e:Nat×List Int}{fz:Nat×Nat}{f:Nat->Int}{G:Nat->Pg}{B C F F' Fr Q S S' T X:Nat->Prop}{pd pd2:Option (Nat×PlcM)}{a:Option Addr}{pg:PgL}{pl':PlM}{q:Plc}{R:Rm}{M:RmM}{x x':Sm}{s s':StM}{α:Type}{v:dE}{w w' w'' w0 w1 w2:dD}{cells:α->List dE}
theorem Xk2(cG bV:Int)(w:dD)(ho:0<=cG/\cG<=4611686018427387904)(hk:0<=bV/\bV<=4611686018427387904):Xe prog 197 #[.int .i64 cG,.int .i64 bV] w (X3 (.bool (Hl cG bV)) w):=by
 refine aR func197 ntmps197 aA (aT aA (λa=>?_) λa=>?_)
 .have b:=bL a;refine Xa.arith Xb rfl (XcT (by omega)) rfl (Xa.arith Xb rfl (XcT (by omega)) rfl (Xa.arith Xb rfl (XcT (by omega)) rfl ?_));have e:Hl cG bV=decide (cG-bV>1):=by
   unfold Hl;rw[bN (by omega),YI];exact decide_eq_decide.2 (by omega)
  rw[e];exact bE func197 aA ⟨rfl,rfl⟩
 .have b:=bM a;have e:Hl cG bV=false:=by unfold Hl;rw[bO (by omega),Y2]
  rw[e];exact bE func197 aA ⟨rfl,rfl⟩
section
variable {F Fr:Nat->Prop}{w w':dD}{S:Sto}{s:StM}{by':Int}{mo:Mo}{pd:Option (Nat×PlcM)}
theorem Xs.kcell(h:Xs F Fr w S s by' mo)(hk:k<s.bV.length):w.cell? ⟨S.kb,0+k,none⟩=some (.int .i64 (s.bV.getD k 0)):=by
 refine(Ys h.kee).trans ?_;rw[XT,YW,ZA (by rw[XV];exact hk),XO,XD hk,XA,XD hk];rfl
theorem XjJ(hs:s.OkP S.c pd)(hk:k<s.bV.length):0<=s.bV.getD k 0/\s.bV.getD k 0<=1024:=by
 rw[XA,XD hk];exact hs.kr _ (XM hk)
theorem XkD(hs:s.OkP S.c pd)(k:Int):Qn s.rm k<=1024:=by
 unfold Qn;cases a:Zp s.rm k with
 |none=>simp
 |some x=>
  obtain⟨j,rfl,c,b⟩:=G9 a;exact((hs.rm.cU.sh j x b).1.few).2.1
theorem Rv{y:Option (Nat×MvM)}(hk:k<mo.length):Z2 (fl Em mo) (0+k*6) (Em y)=some (fl Em (mo.set k y)):=by
 have:=Ri (cells:=Em) Xe8 (xs:=mo) (k:=k) (y:=y) (rest:=[]) hk
 simpa using this
theorem J2(a b c:Int):Zo w ⟨a,b,c,none,0,[]⟩:=⟨Rd.nil _ _ _,by simp⟩
end
theorem Xg4{F Fr:Nat->Prop}{w:dD}{S:Sto}{s:StM}{by':Int}{mo:Mo}(h:Xs F Fr w S s by' mo)(hs:s.Ok S.c)(k:Nat)(hk:k<s.mv.length):Xe prog 129 #[Yq S,.int .i64 (k:Nat)] w (λ_ w'=>Ee F w w' S (Yv S.c s k) by'):=by
 obtain⟨f1,f2,f3⟩:=OkP.few hs;have V:k<s.bV.length:=by omega
 have ao:k<S.c.bT.length:=by have:=hs.ml;omega
 have bt:=XjJ hs V;have bu:=XkD hs (k:Nat);have no:∀{w'},Xc Xf w w'->Bp s k=false->Ee F w w' S (Yv S.c s k) by':=λ{w'} Q i=>by
  unfold Yv;rw[i];exact .of (h.bQ Q) Q.gr
 refine aR func129 ntmps129 aA ?_;cases hm:(Xx s (k:Nat)).isSome with
 |true=>
  have i:Bp s k=false:=by
   unfold Bp;cases hx:Xx s (k:Nat) with
   |none=>rw[hx] at hm;cases hm
   |some x=>rfl
  exact aQ 17 Xf (by kernel_rfl) aA λa=>aH a (λw' c=>K4 (h.bQ c) hs (k:Nat)) aA (Xd.yes Xb a rfl hm rfl (aF a aA λw1 d=>bE func129 aA (no d i)))
 |false=>
  have aq:(Xx s (k:Nat)).isNone=true:=by
   cases hx:Xx s (k:Nat) with
   |none=>rfl
   |some x=>rw[hx] at hm;cases hm
  refine aQ 17 Xf (by kernel_rfl) aA λa=>aH a (λw' c=>K4 (h.bQ c) hs (k:Nat)) aA (Xd.no Xb a rfl hm rfl (aE a h.obj aA (aH a (λw' c=>Vb (h.cW.bQ c) (k:Nat)) aA (aE a h.obj aA (aB k a aA (aD a (h.kcell V) aA (aF a aA λw1 d=>bH (Xk2 (Qn s.rm (k:Nat):Nat) (s.bV.getD k 0) w1 (by omega) (by omega)) aA ?_)))))));cases R:Hl (Qn s.rm (k:Nat):Nat) (s.bV.getD k 0) with
  |false=>
   have i:Bp s k=false:=by unfold Bp;rw[R,YD,Y2]
   exact bI aA (bE func129 aA (no d i))
  |true=>
   refine aS aA (bB (d.bP h.obj) aA ?_);have J:=XmG (h.cW.bQ d) (k:Nat);obtain⟨⟨pf,fa,pt,ta⟩,ePl⟩:∃p,p=Ym s.rm (k:Nat):=⟨_,rfl⟩;rw[Xgn,<-ePl] at J;simp only at J
   refine bG J aA λT W=>bC aA λb w3 e3 ar au bv=>bF ar aA λw4 K av bw=>?_;have bx:=d.size;have bz:=W.size;have l:=((d.trans W).trans au).sn av;cases hp:Je s.rm (k:Nat) with
   |false=>
    have i:Bp s k=false:=by unfold Bp;rw[hp,YD]
    exact bI aA (bE func129 aA (no l i))
   |true=>
    have i:Bp s k=true:=by unfold Bp;rw[aq,R,hp];rfl
    refine aS aA ?_;obtain⟨P,_,be,⟨o,t,r,c0,a0⟩,hf,ht⟩:=Xal hs i;have P1:=P.own;have P2:=P.n (o:Int) (by omega);have P3:=P.a (o:Int) (by omega);rw[<-ePl] at P1 P2 P3 r a0 hf ht;simp only at P1 P2 P3 r a0 hf ht
    have h4:=h.bQ l;have b1:¬F b:=λhz=>by have:=h.low b hz;omega
    refine aQ 9 Xf (by kernel_rfl) aA λa=>aE a h4.obj aA (aE a K aA (aE a K aA (aF a aA λw5 G=>?_)));have U:=h4.bQ G;have b2:=G.bP K;refine bH (XmE U.cW (k:Nat) pf fa) aA ?_;rw[r];refine bB U.obj aA (aP aA (Xgr U.cW (k:Nat) (o:Nat)) ?_);rintro _ w6 ⟨rfl,⟨Fr',hr,a7,n⟩⟩;refine aN aA ?_;have h6:=U.roomed hr a7 n;have L:=n.heap b2 (λhz=>b1 (h.f1 _ hz));have H:=StM.OkP.begin hs k;have eB:Yv S.c s k={s with rm:=Qi s.rm (k:Nat) (o:Nat),mv:=s.mv.set k (some (Kt S.c s.rm k))}:=by unfold Yv;rw[bK i,<-ePl];simp only;rw[r]
    rw[eB] at H⊢;obtain⟨m,em⟩:∃m,m=Kt S.c s.rm k:=⟨_,rfl⟩;rw[<-em] at H⊢;obtain⟨_,_,_,mf,mt,ms,_⟩:=H.mv k m (by show(s.mv.set k _)[k]?=_;rw[XH hk]);have b4:m.who=o/\m.pf=pf/\m.fa=fa/\m.pt=pt/\m.ta=ta/\m.cE=0:=by rw[em];unfold Kt;rw[<-ePl];exact⟨r,rfl,rfl,rfl,rfl,rfl⟩
    obtain⟨b5,a8,a9,aa,ab,b6⟩:=b4;rw[a8,a9] at mf;rw[aa,ab] at mt;refine aQ 10 Xf (by kernel_rfl) aA λa=>aE a h6.obj aA (aE a L aA (aE a L aA (Xd.build Xb a rfl rfl (aF a aA λw7 u=>?_))));have h7:=h6.bQ u;have A:=XcH S.v ⟨(k:Nat),pf,fa,none,0,[]⟩ w7 h7.vw (J2 _ _ _);rw[h.vc,show Ak S.c ⟨(k:Nat),pf,fa,none,0,[]⟩=(m.f:Int) from mf.symm] at A;refine bG A aA λw8 B=>?_;have h8:=h7.bQ B;have N:=B.bP (u.bP L);refine aQ 10 Xf (by kernel_rfl) aA λa=>aE a h8.obj aA (aE a N aA (aE a N aA (Xd.build Xb a rfl rfl (aF a aA λw9 C=>?_))));have h9:=h8.bQ C;have A:=XcH S.v ⟨(k:Nat),pt,ta,none,0,[]⟩ w9 h9.vw (J2 _ _ _);rw[h.vc,show Ak S.c ⟨(k:Nat),pt,ta,none,0,[]⟩=(m.t:Int) from mt.symm] at A;refine bG A aA λac f=>?_;have g:=h9.bQ f;obtain⟨cb,off,eca,ad⟩:=g.ca.1 k ao;have esz:S.c.bT.getD k 0=(m.size:Int):=by rw[ms];unfold Z6;rw[XB]
    rw[esz] at ad;refine aQ 19 Xf (by kernel_rfl) aA λa=>aE a g.obj aA (aE a g.obj aA ?_);rw[eca];refine aB k a aA ?_;refine Xd.load Xb a rfl ad (by first|exact λh=>h|(intro h;omega)|assumption) rfl ?_;have ak:O0 s.bs.length m.f m.t m.size=true:=Uj.2 (by obtain⟨l1,l2,l3,l4⟩:=(Ks H (k:=k) (m:=m) (by show(s.mv.set k _)[k]?=_;rw[XH hk]));simp only at l1 l2;omega);have R:∀w',Xc Xf ac w'->Xe prog 202 #[.pointer (some ⟨S.A.ab,0,none⟩),.int .i64 m.f,.int .i64 m.t,.int .i64 m.size] w' (λv T=>Xc Xf w' T/\∃M:Mv,v=.tuple #[.pointer (some ⟨M.mv,0,none⟩),.int .i64 0]/\M.f=m.f/\M.t=m.t/\M.size=m.size/\ac.heap.size<=M.mv/\Ey T S.A (E0 S {s with rm:=Qi s.rm (k:Nat) (o:Nat)}) M 0):=λw' c=>
     (Xkq S.A _ m.f m.t m.size w' (g.ar.bQ c) ak).mono λv T ⟨M,e,a1,a2,a3,a4,a5,a6⟩=>⟨a6,M,e,a1,a2,a3,by have:=c.size;omega,a5⟩
    refine Xd.callQ a rfl rfl (R) ?_;rintro _ c1 D ⟨M,rfl,ae,af,ag,ba,I⟩;refine Xd.adv Xb a rfl (aF a aA λc2 q=>?_);have ah:=(g.adopt D ba (Xg I.obj)).bQ q;have I:=I.bQ q;refine aQ 9 Xf (by kernel_rfl) aA λa=>aE a ah.obj aA (aE a (q.bP (D.bP (f.bP (C.bP N)))) aA (Xd.build Xb a rfl rfl (aF a aA λbb E=>?_)));have ai:=ah.bQ E;have al:k<mo.length:=by rw[h.mol];exact hk
    refine Xa.index Xb rfl (j:=k*6) (by omega) (show(k:Int)<(s.mv.length:Nat) by omega) (by simp) rfl ?_;have hv:([.pointer (some ⟨M.mv,0,none⟩),.int .i64 (o:Nat),.int .i64 pf,.int .i64 fa,.int .i64 pt,.int .i64 ta]:List dE)=Em (some (M.mv,m)):=by unfold Em;simp only;rw[b5,a8,a9,aa,ab]
    refine aL aA ai.mvs (hv▸(Rv (mo:=mo) (k:=k) (y:=some (M.mv,m)) al)) aA λbc am O br=>?_;have bd:∀b' m',some (M.mv,m)=some (b',m')->bb.heap[b']?=some (.cells (Oz S.A (E6 b' m') m'.cE).toArray 288 (0,0))/\((F b'\/Fr' b')\/b'=M.mv)/\¬Fr' b'/\∀(j:Nat) m'',mo[j]?≠some (some (b',m'')):=λb' m' e=>by
     cases e
     refine⟨?_,.inr rfl,λhz=>by have:=hr.low _ hz;have:=u.size;have:=B.size;have:=C.size;have:=f.size;omega,λj m'' hj=>?_⟩
     .have:=(I.bQ E).obj;rw[b6];have eM:M=E6 M.mv m:=by cases M;simp only at ae af ag;subst ae;subst af;subst ag;rfl
      rw[eM] at this;exact this
     .have:=g.low _ (g.mob j _ m'' hj).2.1;omega
    have an:Xc F w w5:=(l.trans G).gr;have Q:Xc F w bc:=by
     exact((an.trans (n.mono λz _ hz=>h.f1 z hz)).trans (((((((u.trans B).trans C).trans f).trans D).trans q).trans E).gr)).trans (O.mono λz _ e=>e▸h.f2.2.2.2.2)
    have fF:∀z,((F z\/Fr' z)\/z=M.mv)->F z\/w.heap.size<=z:=λz hz=>by
     have:=l.size;have:=G.size;have:=u.size;have:=B.size;have:=C.size;have:=f.size;have:=n.size;rcases hz with(hz|hz)|rfl
     .exact .inl hz
     .exact(a7 z hz).imp (h.f1 z) (by omega)
     .exact .inr (by omega)
    exact bE func129 aA ⟨_,Fr',_,(ai.setMv (x:=some (M.mv,m)) O am bd),fF,Q⟩
section
variable {F Fr:Nat->Prop}{w w':dD}{S:Sto}{s:StM}{by':Int}{mo:Mo}{pd:Option (Nat×PlcM)}
theorem Xny{M:Mv}(hb:A.mb=some b):Pq A V M g k=⟨Ji V.bs M.f M.t g k,Xw V.total k,V.dA⟩:=by
 unfold Pq Ji;by_cases h:k=0
 .subst h;rw[bK rfl,bK rfl];exact ArV.eq rfl (N9 _).symm rfl
 .rw[bJ h,bJ h];exact ArV.eq rfl (P5 hb) (V.charge_lap A _)
theorem Xos{M:Mv}(hb:A.mb=some b):Nx A V M g i n=⟨Ex V.bs M.f M.t g i n,Xw V.total (Q4 i n g),V.dA⟩:=by
 unfold Nx Ex;by_cases h:Q4 i n g=0
 .rw[bK h,bK h,h];exact ArV.eq rfl (N9 _).symm rfl
 .rw[bJ h,bJ h];exact ArV.eq rfl (P5 hb) (V.charge_lap A _)
theorem Uk(h:Xs F Fr w S s by' mo){m:MvM}(hm:s.mv[k]?=some (some m)):∃b,mo[k]?=some (some (b,m)):=by
 obtain⟨x,a,e⟩:=h.mo_at ((XC.1 hm).1);rw[Ds hm] at e;obtain⟨⟨b,m'⟩,rfl,e'⟩:=YO.1 e;simp only at e'
 subst e';exact⟨b,a⟩
theorem Xs.went(h:Xs F Fr w S s by' mo){m:MvM}{t:Int}(hx:mo[k]?=some (some (b,m)))(hM:Ey w' S.A ⟨bs,t,S.R.dA⟩ (E6 b m) g)(hl:bs.length=s.bs.length)(hc:Xc (Rr S.A (E6 b m)) w w'):Xs F Fr w' S {s with bs:=bs,rm:={s.rm with tot:=t},mv:=s.mv.set k (some {m with cE:=g})} by' (mo.set k (some (b,{m with cE:=g}))):=by
 have d:=(XC.1 hx).1;have l:∀(j b':Nat) m',mo[j]?=some (some (b',m'))->j≠k -> ¬Rr S.A (E6 b m) b':=λj b' m' a c f=>by
  have kk:=h.kdm a;obtain⟨_,_,n,_,_,o⟩:=h.kds;rcases f with(e|e)|e
  .exact Xr kk n (by decide) e
  .rw[h.amb] at e;cases e;exact Xr kk o (by decide) rfl
  .exact c (h.mdj j k b' m' m a (e▸hx))
 have:=h.arena (bs:=bs) (t:=t) (mo2:=mo.set k (some (b,{m with cE:=g}))) hc (λz f=>?_) hM.ar.dat hl hM.ar.rng (hM.ar.met _ h.amb) ?_ (by rw[XG]) (λj b' m' a=>?_)
 .rw[Xe4,h.mom] at this;exact this
 .rcases f with(e|e)|e
  .exact .inl e
  .rw[h.amb] at e;exact .inr (.inl (Option.some.inj e).symm)
  .exact .inr (.inr ⟨k,m,e▸hx⟩)
 .apply QF
  intro i;have e1:=Rv (mo:=mo) (k:=k) (y:=some (b,{m with cE:=g})) d;have e2:=Rv (mo:=mo) (k:=k) (y:=some (b,m)) d;have e3:mo.set k (some (b,m))=mo:=by
   apply QF
   intro j;by_cases e:k=j
   .subst e;rw[XH d,hx]
   .rw[XK e]
  rw[e3] at e2;have e4:Em (some (b,{m with cE:=g}))=Em (some (b,m)):=rfl;rw[e4,e2] at e1;rw[<-Option.some.inj e1]
 .rcases Rt a with⟨rfl,e,_⟩|⟨c,a⟩
  .cases e
   exact⟨hM.obj,m,hx⟩
  .exact⟨hc.heap (h.mob j b' m' a).1 (l j b' m' a c),m',a⟩
end
theorem Xci{F Fr:Nat->Prop}{w:dD}{S:Sto}{s:StM}{by':Int}{mo:Mo}(h:Xs F Fr w S s by' mo)(hs:s.Ok S.c){m:MvM}(hm:s.mv[k]?=some (some m))(n:Int):Xe prog 130 #[Yq S,.int .i64 (k:Nat),.int .i64 n] w (λv w'=>v=.int .i64 (Zt m n:Nat)/\Ee F w w' S (Yo s k n) by'):=by
 obtain⟨f1,f2,f3⟩:=OkP.few hs;have hk:=(XC.1 hm).1;obtain⟨b,Q⟩:=Uk h hm;obtain⟨⟨o,t,ew,et,eq⟩,ea,en,_,_,_,b0⟩:=hs.mv k m hm;have a8:k<mo.length:=by rw[h.mol];exact hk
 have b1:=Tz m n;have U:∀z,Rr S.A (E6 b m) z->F z:=λz a=>a.elim (h.footF z) (λe=>e▸(h.mob k b m Q).2.1);refine aR func130 ntmps130 aA (bB h.obj aA (Xa.index Xb rfl (j:=k*6) (by omega) (show(k:Int)<(s.mv.length:Nat) by omega) (by simp) rfl ?_));refine Xa.loadC Xb (Em (some (b,m))) rfl (by first|rfl|(simp;done)|(simp[*];done)|(simp;omega)) ((λj v hv=>by have hj:j<6:=(XC.1 hv).1;exact h.mcell Q hj hv)) rfl ?_;refine bC aA λxb w1 e1 a9 af b2=>bF a9 aA λw2 V ag b3=>?_;have B:=af.sn ag;have h2:=h.bQ B;have C:¬F xb:=λa=>by have:=h.low xb a;omega
 refine bB V aA (aP aA (Xkr S.A (E0 S s) (E6 b m) m.cE n w2 (h2.mvOk hs Q)) ?_);rintro _ w3 ⟨rfl,W,D⟩;refine aN aA ?_;have E:Ey w3 S.A ⟨Ji s.bs m.f m.t m.cE (Zt m n),Xw s.rm.tot (Zt m n:Nat),S.R.dA⟩ (E6 b m) (m.cE+Zt m n):=by
  rw[Xny h.amb] at W;exact W
 obtain⟨l1,l2,l3,_⟩:=Ks hs hm;have G:=D.heap V (λa=>C (U _ a));refine bB G aA (bG (Ui S.A _ (E6 b m) (m.cE+Zt m n) w3 E) aA λw4 H=>?_);have R:=(h2.went Q E (Xce (size:=m.size) (by omega) l1 l2) D).bQ H;have d:=H.bP G;have I:=(B.gr.trans (D.mono λz _ a=>U z a)).trans H.gr;by_cases a0:m.cE+Zt m n<m.size
 .have eG:Yo s k n={Ad s m n with mv:=s.mv.set k (some {m with cE:=m.cE+Zt m n})}:=by unfold Yo;rw[Ds hm];simp only;rw[bK a0]
  rw[eG];exact aI aA (by show((((m.size-(m.cE+Zt m n):Nat):Int) == 0)=false);simp;omega) (bE func130 aA ⟨rfl,.of R I⟩)
 .have eG:Yo s k n={Ad s m n with mv:=s.mv.set k none,th:=s.th.set m.who.toNat (some ⟨Ab s m.who,⟨k,m.pt,m.ta,[]⟩⟩),rm:=Q1 (Ad s m n).rm k m.pf m.fa}:=by unfold Yo;rw[Ds hm];simp only;rw[bJ a0]
  rw[eG];refine aM aA (by show((((m.size-(m.cE+Zt m n):Nat):Int) == 0)=true);simp;omega) ?_;have aj:m.who.toNat=o:=by omega
  have ak:Ab s m.who=t.size:=by unfold Ab;rw[ew,Hd et]
  rw[aj,ak];obtain⟨al,a1⟩:=R.th;obtain⟨q,q1,q2,q3,q4,q5⟩:=a1.2.2.1 o t et;refine aQ 8 Xf (by kernel_rfl) aA λc=>aE c R.obj aA (aE c d aA (Xd.lookup Xb c rfl (a1.1) (by first|(intro b h;cases h;assumption)|(intro b h hs;cases h;omega)) ((show Bt al _ m.who false=.agg (Fd t.size q).toArray from by unfold Bt;rw[ew,q2];rfl)) rfl (Xd.cK c rfl λw5 r=>Xo.alloc Xb c rfl (λ_=>rfl) λtb w6 e6 aa am b4=>aF c aA λw7 a2=>?_)));have J:=(r.trans am).trans a2;have an:tb≠xb:=by have:=Xg d;have:=r.size;omega
  refine bF (a2.bP aa) aA λw8 ab a3 b5=>?_;have K:=a3.heap (J.bP d) (λe=>an e.symm);refine bB K aA (bB K aA (aO aA (bF ab aA λw9 ac ao b6=>?_)));have g:=(J.bU a3 (λz a e=>by have:=r.size;omega)).bU ao (λz a e=>by have:=r.size;omega);have h9:=R.bQ g;have L:=g.bP d;refine aQ 7 Xf (by kernel_rfl) aA λc=>aE c h9.obj aA (aE c L aA (aE c ac aA (aF c aA λb7 i=>?_)));have M:=h9.bQ i;obtain⟨al',N⟩:=M.th;refine Xa.mapset Xb rfl (N.1) λb8 u f ay=>aN aA ?_;rw[ew] at u;have O:=M.setTh f (N.put (o:=o) (size:=t.size) (q:=⟨(k:Nat),m.pt,m.ta,none,0,[]⟩) (qm:=⟨(k:Nat),m.pt,m.ta,[]⟩) rfl ((XC.1 et).1) u f M.f2.2.2.2.1 (J2 _ _ _) (λ_ _ _ e=>by cases e) (λ_ _ _ e=>by cases e));refine bB O.obj aA (aO aA ?_);have T:k<(mo.set k (some (b,{m with cE:=m.cE+Zt m n}))).length:=by rw[XG];exact a8
  have b9:(s.mv.set k (some {m with cE:=m.cE+Zt m n})).length=s.mv.length:=XG;refine Xa.index Xb rfl (j:=k*6) (by omega) (show(k:Int)<((s.mv.set k (some {m with cE:=m.cE+Zt m n})).length:Nat) by omega) (by simp) rfl (aL aA O.mvs (Rv (y:=none) T) aA λba ad l az=>?_);have a4:=O.setMv (x:=none) l ad (λ_ _ e=>by cases e);have A:=l.heap (f.heap (i.bP L) (λe=>C (e▸h.f2.2.2.2.1))) (λe=>C (e▸h.f2.2.2.2.2));refine aQ 11 Xf (by kernel_rfl) aA λc=>aE c a4.obj aA (aE c A aA (aE c A aA (aF c aA λbb p=>?_)));have a5:=a4.bQ p;refine aP aA (Xgq a5.cW (k:Nat) m.pf m.fa) ?_;rintro _ bc ⟨rfl,⟨Fr',hr,a6,P⟩⟩;refine aN aA ?_;have a7:=(((I.trans g.gr).trans i.gr).trans (f.mono λz _ e=>e▸h.f2.2.2.2.1)).trans (l.mono λz _ e=>e▸h.f2.2.2.2.2);have eS:({Ad s m n with mv:=s.mv.set k none,th:=s.th.set o (some ⟨t.size,⟨(k:Nat),m.pt,m.ta,[]⟩⟩),rm:=Q1 (Ad s m n).rm (k:Nat) m.pf m.fa}:StM)={bV:=s.bV,bs:=Ji s.bs m.f m.t m.cE (Zt m n),rm:=Q1 {s.rm with tot:=Xw s.rm.tot (Zt m n:Nat)} (k:Nat) m.pf m.fa,th:=s.th.set o (some ⟨t.size,⟨(k:Nat),m.pt,m.ta,[]⟩⟩),mv:=(s.mv.set k (some {m with cE:=m.cE+Zt m n})).set k none}:=by
   rw[List.set_set];rfl
  rw[eS];have fF:∀z,(F z\/Fr' z)->F z\/w.heap.size<=z:=λz a=>a.elim .inl (λa=>(a6 z a).imp (h.f1 z) (λhl=>by have:=a7.size;have:=p.size;omega));exact bE func130 aA ⟨rfl,⟨_,Fr',_,(a5.roomed hr a6 P),fF,((a7.trans p.gr).trans (P.mono λz _ a=>h.f1 z a))⟩⟩
theorem XgZ(h:Xx s (k:Nat)=none)(n:Int):Yo s k n=s:=by unfold Yo;rw[h]
theorem Xnw{m:MvM}(h:Xx s (k:Nat)=some m){n n':Int}(e:Zt m n=Zt m n'):Yo s k n=Yo s k n':=by
 unfold Yo Ad;rw[h];simp only
 rw[e]
theorem Xjj{m:MvM}:Zt m ((m.size-m.cE:Nat):Int)=Zt m (m.size:Nat):=by unfold Zt D7;omega
theorem Xg6{S:Sto}(h:Xs F Fr w S s by' mo)(hs:s.Ok S.c)(κ:Int):Xe prog 103 #[Yq S,.int .i64 κ] w (λ_ w'=>Ee F w w' S (Zg s κ) by'):=by
 obtain⟨f1,f2,f3⟩:=OkP.few hs;refine aR func103 ntmps103 aA (bH (K4 h hs κ) aA ?_);cases hm:Xx s κ with
 |none=>
  have e:Zg s κ=s:=by unfold Zg;rw[hm]
  rw[e];exact aS aA (bE func103 aA (.of h (Xc.refl _ _)))
 |some m=>
  obtain⟨k,rfl,l,a⟩:=Ah hm;have e:Zg s (k:Nat)=Yo s k ((m.size-m.cE:Nat):Int):=by
   unfold Zg;rw[hm];simp only[XB];exact Xnw hm Xjj.symm
  rw[e];obtain⟨b,d⟩:=Uk h a;refine bI aA (bB h.obj aA (Xa.index Xb rfl (j:=k*6) (by omega) (show(k:Int)<(s.mv.length:Nat) by omega) (by simp) rfl (aW aA (h.mcell d (i:=0) (by decide) rfl) aA (bG (Ui S.A (E0 S s) (E6 b m) m.cE w (h.mvOk hs d)) aA λn c=>?_))));refine aP rfl (Xci (h.bQ c) hs a ((m.size-m.cE:Nat):Int)) ?_;rintro _ o ⟨rfl,f⟩;exact aN aA (bE func103 aA (.trans (λ_ g=>.inl g) c.gr f))
theorem Xg5{S:Sto}(h:Xs F Fr w S s by' mo)(q:Plc)(hs:s.OkP S.c (some (o,Xy q)))(hq:Zo w q):Xe prog 104 #[Yq S,.agg (Xv q).toArray] w (λ_ w'=>Ee F w w' S (B9 S.c s (Xy q)) by'):=by
 obtain⟨f1,f2,f3⟩:=OkP.few hs;have J:=hs.dropped;refine aR func104 ntmps104 aA (bC aA λb w1 e1 A i a1=>?_);have j:¬F b:=λc=>by have:=h.low b c;omega
 have K:=h.bQ i;refine aQ 5 Xf (by kernel_rfl) aA λf=>aE f K.obj aA (aE f A aA (aF f aA λw2 d=>?_));have L:=K.bQ d;have B:=d.bP A;refine aP aA (XmB L.cW q (hq.bQ (i.trans d))) ?_;rintro _ w3 ⟨rfl,⟨Fr',hr,l,g⟩⟩;have M:=L.roomed hr l g;have p:=g.heap B (λc=>j (h.f1 _ c));have a2:=d.size;have a3:=g.size;have r:∀z,(F z\/Fr' z)->F z\/w.heap.size<=z:=λz c=>c.elim .inl (λc=>(l z c).imp (h.f1 z) (by omega));have H:¬(F b\/Fr' b):=λc=>c.elim j (λc=>(l b c).elim (λc=>j (h.f1 _ c)) (by have:=Xg B;omega));have t:=((i.trans d).gr).trans (g.mono λz _ c=>h.f1 z c);refine aN aA (bB p aA ?_);by_cases u:q.cL=-1
 .have e:B9 S.c s (Xy q)={s with rm:=Qc s.rm (Xy q)}:=by unfold B9;rw[bK (show(Xy q).cL<0 by show q.cL<0;omega)]
  rw[e];exact aM aA (by rw[u];rfl) (bE func104 aA ⟨_,Fr',mo,M,r,t⟩)
 .obtain⟨_,W,_,_⟩:=hs.ps o (Xy q) rfl u;obtain⟨_,k0,N⟩:=O3 hs (k:=(Xy q).cL) (n:=(Xy q).cR) (a:=(Xy q).idx) (by rw[W];omega);obtain⟨k,I⟩:=XE (show 0<=q.cL from k0);replace N:q.cL<S.c.bT.length:=N;have O:k<s.mv.length:=by have:=hs.ml;omega
  have e:B9 S.c s (Xy q)=Yo (Yv S.c {s with rm:=Qc s.rm (Xy q)} k) k S.c.step:=by
   unfold B9;rw[bJ (show ¬(Xy q).cL<0 by show ¬q.cL<0;omega),show(Xy q).cL.toNat=k by show q.cL.toNat=k;omega]
  rw[e];refine aI aA (by simpa using u) (bB p aA ?_);rw[I];refine aP aA (Xg4 M J k O) ?_;rintro _ w4 ⟨P,Q,R,y,T,C⟩;have D:=C.heap p H;have E:=J.begin k;have v:=t.bU C (λz c hf=>(r z hf).elim id (by omega));have x:∀z,P z->F z\/w.heap.size<=z:=λz c=>(T z c).elim (r z) (by omega);refine aN aA (bB D aA ?_);rw[I];refine bH (K4 y E (k:Nat)) aA ?_;cases hm:Xx (Yv S.c {s with rm:=Qc s.rm (Xy q)} k) (k:Nat) with
  |none=>
   rw[XgZ hm];exact aS aA (bE func104 aA ⟨P,Q,R,y,x,v⟩)
  |some m=>
   obtain⟨k',ek',a4,U⟩:=Ah hm;obtain rfl:k=k':=by omega
   refine bI aA (aQ 8 Xf (by kernel_rfl) aA λf=>aE f D aA (aE f y.obj aA ?_));rw[I];refine aF f aA λw5 G=>?_;refine aP rfl (Xci (y.bQ G) E U S.c.step) ?_;rintro _ w6 ⟨rfl,V⟩;exact aN aA (bE func104 aA (.trans x (v.trans G.gr) V))
section
variable {F Fr:Nat->Prop}{w w':dD}{S:Sto}{s:StM}{by':Int}{mo:Mo}{pd:Option (Nat×PlcM)}
theorem Xcx{a b:Int}{r:Plc}(h:Value.agg (Fd a q).toArray=Value.agg (Fd b r).toArray):q.pa=r.pa:=by
 injection h with h
 have h:=congrArg Array.toList h;simp only[Fd,Xv,List.toList_toArray,List.cons.injEq,Value.slice.injEq] at h;exact h.2.2.2.2.1.1
theorem Xs.loc{F0 Fr0:Nat->Prop}{s0:StM}{by0:Int}{mo0:Mo}(h0:Xs F0 Fr0 w0 S s0 by0 mo0)(hm:∀al,Yx w0 S.tm al->Yx w S.tm al)(h:Xs F Fr w S s by' mo)(hb:w0.heap.size<=b)(hF:¬F b)(hk:kd w b=some (some t))(ht:t≠352/\t≠348/\t≠3)(hc:Xc (λz=>z=b) w w'):Xs F Fr w' S s by' mo:=by
 have d:=h0.cW;have c:=Z4 d.may;have B:=Xg h0.ar.obj;have C:=Xg h0.ar.cap;have D:=Xg h0.vw.obj;have E:=Xg d.obj;have G:S.R.sb<w0.heap.size:=by have:=World.block_lt_of_cell? w0 _ (d.sl 0 (by have:=c.n;have:=d.ok.n;omega));exact this
 have H:1<w0.heap.size:=by have:=World.block_lt_of_cell? w0 _ (d.tab 0 (by decide));exact this
 have f:=h0.rc;have bW:∀{a:Option Addr} {l:List Int},A3 F0 w0 a l->0<l.length -> ∀off s,a≠some ⟨b,off,s⟩:=λg p off s e=>by have:=g.1.block p e;omega
 refine h.other hc (λz e=>e▸⟨hF,⟨by omega,by omega,by omega,by omega,by omega,by omega⟩,bW h0.ca (by rw[f] at c;have:=c.n;omega),bW h0.ka (by rw[f] at c;have:=c.bV;have:=c.n;omega),t,hk,ht⟩) ?_;intro al j k sz q i;obtain⟨m,r,I,u,v⟩:=h0.th;have:=(hm m r).uniq j;subst this;by_cases hk:∀(o:Nat) t,s0.th[o]?=some (some t)->(o:Int)≠k
 .rw[v k hk] at i;cases i
 .simp only[Classical.not_forall,YK] at hk;obtain⟨o,t,x,y⟩:=hk;obtain⟨J,_,n,_,_,A⟩:=u o t x;rw[y,i] at n;rw[(Xcx (Option.some.inj n))];intro b' off s' e' K;have:=Ek (A b' off s' e');omega
theorem XnA(h:Xs F Fr w S s by' mo)(n:Int):Xe prog 175 #[.pointer (some ⟨S.mb,0,none⟩),.int .i64 n] w (λ_ w'=>Xs (λz=>F z\/Fr z) Fr w' S (Qk s n) by' mo/\Xc Fr w w'):=by
 have hm:=Vd h.cW n;rw[h.rmo] at hm;exact hm.mono λ_ w' ⟨a,b⟩=>⟨h.roomed a (λz c=>.inl c) b,b⟩
end
theorem XeJ(c:Conf)(s:StM)(o size:Int):(Yd c s o size).th=s.th/\(Yd c s o size).bV=s.bV/\(Yd c s o size).bs=s.bs/\(Yd c s o size).mv.length=s.mv.length:=by
 unfold Yd;split
 .exact⟨rfl,rfl,rfl,XG⟩
 .exact⟨rfl,rfl,rfl,rfl⟩
theorem Xg7{F Fr:Nat->Prop}{w:dD}{S:Sto}{s:StM}{by':Int}{mo:Mo}{pd:Option (Nat×PlcM)}(h:Xs F Fr w S s by' mo)(hs:s.OkP S.c pd)(ho:o<s.th.length)(hf:Yt S.c s size=0)(hL:(Q2 S.c s (o:Nat) size).OkP S.c pd2)(hby:0<=by'/\by'<=1152921504606846976):Xe prog 113 #[Yq S,.int .i64 (o:Nat),.int .i64 size] w (λ_ w'=>Ee F w w' S (Q2 S.c s (o:Nat) size) (by'+size)):=by
 obtain⟨f1,f2,f3⟩:=OkP.few hs;have b8:=h.ca.1;have af:=Z4 hs.may;have a8:=hs.may;have bz:=af.cH;have c0:=af.n;have b9:=h.vc;obtain⟨cb,c1⟩:=Tx hf;have aq:(Q2 S.c s (o:Nat) size).th[o]?=some (some ⟨size,Yl S.c s (o:Nat) size⟩):=by
  show(s.th.set (o:Int).toNat _)[o]?=_
  rw[XB,XH ho]
 obtain⟨pv,ph,pf⟩:=Ja hL aq;simp only at pv ph pf
 refine aR func113 ntmps113 aA (bB h.obj aA (bG (Oc S.p.ca S.p.cc S.c.bT size w b8 (by omega)) aA λw1 a0=>?_));have h1:=h.bQ a0;refine bC aA λb w2 e2 M ag cc=>?_;have u:=h1.bQ ag;have A:¬F b:=λa=>by have:=h1.low b a;omega
 have I:=a0.trans ag;refine bH (K4 u hs (Xm S.c.bT size)) aA ?_;apply Xa.cut (α:=(Nat->Prop)×(Nat->Prop)×Plc×Mo) (λ_=>[(0,false,Yq S),(1,false,.int .i64 (o:Nat)),(2,false,.int .i64 size),(7,false,.pointer (some ⟨b,0,none⟩))]) (λx w'=>(∀z,x.1 z->F z\/w.heap.size<=z)/\¬x.1 b/\w'.heap[b]?=some (.cells (Xv x.2.2.1).toArray 83 (0,0))/\Xy x.2.2.1=Yl S.c s (o:Nat) size/\Zo w' x.2.2.1/\Fw w' x.2.2.1.pa/\Xj x.1 x.2.2.1.pa/\Xc F w w'/\Xs x.1 x.2.1 w' S (Yd S.c s (o:Nat) size) by' x.2.2.2)
 .intro J;by_cases d:Fq S.c s size=none
  .have eS:Yd S.c s (o:Nat) size={s with rm:=Au S.c s.rm (o:Nat) size}:=by unfold Yd;rw[d]
   have eQ:Yl S.c s (o:Nat) size=Bx S.c s.rm (o:Nat) size:=by unfold Yl;rw[d]
   have N:(Xx s (Xm S.c.bT size)).isSome=false\/((Xx s (Xm S.c.bT size)).isSome=true/\Qn s.rm (Xm S.c.bT size)≠0):=by
    unfold Fq at d;cases hm:Xx s (Xm S.c.bT size) with
    |none=>exact .inl rfl
    |some m=>
     rw[hm] at d;simp only at d
     refine .inr ⟨rfl,λe=>?_⟩;rw[bK e] at d;cases d
   have hP:=XmF u.cW (o:Nat) size;rw[h.rc] at hP;apply Xa.cut (α:=Unit) (λ_=>[(0,false,Yq S),(1,false,.int .i64 (o:Nat)),(2,false,.int .i64 size),(7,false,.pointer (some ⟨b,0,none⟩)),(68,false,.pointer (some ⟨S.sb,11,none⟩))]) (λ_ w'=>w'=w2)
   .intro K;rcases N with N|⟨N,a9⟩
    .rw[N];exact aS aA (K () _ _ rfl ⟨rfl,rfl,rfl,rfl,rfl,trivial⟩)
    .rw[N];exact bI aA (bB u.obj aA (bH (Vb u.cW (Xm S.c.bT size)) aA (aI aA (by simpa using a9) (K () _ _ rfl ⟨rfl,rfl,rfl,rfl,rfl,trivial⟩))))
   .rintro-_ rfl;refine bB u.obj aA (aP aA (hP) ?_);rintro _ w3 ⟨q,rfl,f,⟨Fr',hr,r,O,ah,au,D⟩⟩;refine aN aA ?_;have h3:=u.roomed hr r O;have ai:=O.heap M (λa=>A (h.f1 _ a));have c3:=I.size;have av:=a0.size;have cd:=O.size;have E:∀z,(F z\/Fr' z)->F z\/w.heap.size<=z:=λz a=>a.elim .inl (λa=>(r z a).imp (h.f1 z) (by omega));have g:¬(F b\/Fr' b):=λa=>a.elim A (λa=>(r b a).elim (λa=>A (h.f1 _ a)) (by have:=Xg M;omega));have p:Xj (λz=>F z\/Fr' z) q.pa:=λb' off s' e a=>a.elim (λa=>by have:=u.low b' a;have:=D b' off s' e;omega) (au b' off s' e);have aw:Fw w3 q.pa:=λb' off s' e=>(D b' off s' e).2;have a1:Xj (λz=>z=b) q.pa:=λb' off s' e a=>by have:=D b' off s' e;have:=Xg M;omega
    refine bF ai aA λwt n B bd=>?_;have aj:=Xs.loc h (λal P=>(P.bR I id).bR O h.nr.2.2.2.1) h3 (by omega) g (X0 ai) (by decide) B;have L:Zo wt q:=⟨ah.rd.bW a1 B,ah.len⟩;have G:=aw.bR B a1;have Q:=((I.gr.trans (O.mono λz _ a=>h.f1 z a)).sn B);rw[<-eQ] at f;rw[<-eS] at aj;have ht:=aj;exact J (_,Fr',q,mo) _ _ ⟨E,g,n,f,L,G,p,Q,ht⟩ ⟨rfl,rfl,rfl,rfl,trivial⟩
  .obtain⟨m,d⟩:=Option.ne_none_iff_exists'.1 d;have eS:Yd S.c s (o:Nat) size=Qk {s with mv:=s.mv.set (Xm S.c.bT size).toNat none,rm:=Qu s.rm (Xm S.c.bT size) m.pt m.ta (o:Nat)} 3:=by unfold Yd;rw[d]
   have eQ:Yl S.c s (o:Nat) size=⟨Xm S.c.bT size,m.pt,m.ta,[]⟩:=by unfold Yl;rw[d]
   obtain⟨hm,a9⟩:Xx s (Xm S.c.bT size)=some m/\Qn s.rm (Xm S.c.bT size)=0:=by
    unfold Fq at d;cases hm:Xx s (Xm S.c.bT size) with
    |none=>rw[hm] at d;cases d
    |some m'=>
     rw[hm] at d;simp only at d
     split at d
     .rename_i ho;cases d;exact⟨rfl,ho⟩
     .cases d
   obtain⟨k,ek,hk,be⟩:=Ah hm;obtain⟨mb,hx⟩:=Uk u be;have ax:k<mo.length:=by rw[h.mol];exact hk
   rw[hm];refine bI aA (bB u.obj aA (bH (Vb u.cW (Xm S.c.bT size)) aA (aM aA (by rw[a9];rfl) (bB u.obj aA ?_))));rw[ek,XB] at eS;rw[ek] at eQ;rw[ek];refine Xa.index Xb rfl (j:=k*6) (by omega) (show(k:Int)<(s.mv.length:Nat) by omega) (by simp) rfl ?_;refine Xa.loadC Xb ([.int .i64 m.pf,.int .i64 m.fa,.int .i64 m.pt,.int .i64 m.ta]) rfl (by first|rfl|(simp;done)|(simp[*];done)|(simp;omega)) ((λj v hv=>by have hj:j<4:=(XC.1 hv).1;show w2.cell? ⟨S.vb,0+k*6+2+j,none⟩=_;rw[YR];exact u.mcell hx (i:=2+j) (by omega) (by rw[<-hv];show([.pointer (some ⟨mb,0,none⟩),.int .i64 m.who,.int .i64 m.pf,.int .i64 m.fa,.int .i64 m.pt,.int .i64 m.ta]:List dE)[2+j]?=_;rw[Nat.add_comm];rfl))) rfl ?_;refine bC aA λxb w3 e3 ay bg ce=>bF ay aA λw4 az bh cf=>?_;have av:=a0.size;have U:=bg.sn bh;have V:=I.trans U;have h4:=h.bQ V;have bi:=U.bP M;have ab:¬F xb:=λa=>by have:=h.low xb a;omega
   refine bB h4.obj aA (aO aA (Xa.index Xb rfl (j:=k*6) (by omega) (show(k:Int)<(s.mv.length:Nat) by omega) (by simp) rfl (aL aA h4.mvs (Rv (y:=none) ax) aA λw5 b0 R cg=>?_)));have h5:=h4.setMv (x:=none) R b0 (λ_ _ e=>by cases e);have C:=R.heap az (λe=>ab (e▸h.f2.2.2.2.2));have bk:=R.heap bi (λe=>A (e▸h.f2.2.2.2.2));refine aQ 10 Xf (by kernel_rfl) aA λl=>aE l h5.obj aA (aE l C aA (aE l C aA (aF l aA λw6 t=>?_)));have h6:=h5.bQ t;refine aP aA (XmD h6.cW (k:Nat) m.pt m.ta (o:Nat)) ?_;rintro _ w7 ⟨rfl,⟨Fr',hr,r,T⟩⟩;refine aN aA ?_;have h7:=h6.roomed hr r T;have b2:=T.heap (t.bP C) (λa=>ab (h.f1 _ a));have bn:=T.heap (t.bP bk) (λa=>A (h.f1 _ a));have ch:w2.heap.size<=w6.heap.size:=by have:=U.size;have:=t.size;omega
   have ac:∀z,Fr' z->F z\/w.heap.size<=z:=λz a=>(r z a).imp (h.f1 z) (by omega);have W:¬Fr' b:=λa=>(r b a).elim (λa=>A (h.f1 _ a)) (by have:=Xg M;omega);have b3:¬Fr' xb:=λa=>(r xb a).elim (λa=>ab (h.f1 _ a)) (by have:=Xg C;have:=t.size;have:=Xg (t.bP C);omega);refine bB h7.obj aA (aP aA (XnA h7 3) ?_);rintro _ w8 ⟨h8,a2⟩;refine aN aA ?_;have ad:=a2.heap b2 b3;have ak:=a2.heap bn W;refine bB ad aA (bB ad aA (aO aA (bF ak aA λwt n B bd=>?_)));obtain⟨q,eq⟩:∃q:Plc,q=⟨(k:Nat),m.pt,m.ta,none,0,[]⟩:=⟨_,rfl⟩;have f:Xy q=Yl S.c s (o:Nat) size:=by rw[eQ,eq];rfl
   have L:Zo wt q:=eq▸J2 _ _ _;have D:∀b' off s',q.pa≠some ⟨b',off,s'⟩:=λb' off s' e=>by rw[eq] at e;cases e
   have G:Fw wt q.pa:=λb' off s' e=>absurd e (D b' off s');have p:Xj (λz=>(F z\/Fr' z)\/Fr' z) q.pa:=λb' off s' e=>absurd e (D b' off s');replace n:wt.heap[b]?=some (.cells (Xv q).toArray 83 (0,0)):=by rw[eq];exact n
   have b4:∀al,Yx w S.tm al->Yx w8 S.tm al:=λal P=>((((P.bR V id).bR R (Xr h4.kds.2.2.2.1 h4.kds.2.2.2.2.1 (by simp))).bR t id).bR T h.nr.2.2.2.1).bR a2 (h7.nr.2.2.2.1);have g:¬((F b\/Fr' b)\/Fr' b):=λa=>a.elim (λa=>a.elim A W) W;have E:∀z,((F z\/Fr' z)\/Fr' z)->F z\/w.heap.size<=z:=λz a=>a.elim (λa=>a.elim .inl (ac z)) (ac z);have ht:=Xs.loc h b4 h8 (by omega) g (X0 ak) (by decide) B;have b5:=(V.gr.trans (R.mono λz _ e=>e▸h.f2.2.2.2.2)).trans t.gr;have Q:=((b5.trans (T.mono λz _ a=>h.f1 z a)).bU a2 (λz a hf=>(ac z hf).elim id (by omega))).sn B;have bo:=eS;replace ht:Xs (λz=>(F z\/Fr' z)\/Fr' z) Fr' wt S (Yd S.c s (o:Nat) size) by' (mo.set k none):=by rw[bo];exact ht
   exact J (_,Fr',q,mo.set k none) _ _ ⟨E,g,n,f,L,G,p,Q,ht⟩ ⟨rfl,rfl,rfl,rfl,trivial⟩
 .rintro⟨F',Fr',q,mo'⟩ wt ⟨E,g,n,f,L,G,p,Q,ht⟩;simp only at E g n f L G p ht
  have am:q.bS.length<=4096:=by
   have e:q.bS=(Yl S.c s (o:Nat) size).bS:=congrArg PlcM.bS f;rw[e];exact pf
  have bp:=K6 (c:=S.c) (q:=q) a8 am;obtain⟨hn,ehn⟩:=XE bp.1;have bq:∀w',Xc Xf wt w'->Xe prog 177 #[Fs S.v,.agg (Xv q).toArray] w' (Grow (.int .i64 ((hn:Nat):Int)) w'):=λw' a3=>by
   have:=XcI S.v q w' ((ht.bQ a3).vw) (L.bQ a3) (by omega);rw[b9,ehn] at this;exact this
  have br:Yk S.c q=true:=by rw[Xhz,f];exact pv
  obtain⟨y1,y2,y3,y4⟩:=XeJ S.c s (o:Nat) size;refine aQ 11 Xf (by kernel_rfl) aA λl=>aE l ht.obj aA (aE l n aA (aE l ht.obj aA (aE l n aA (aG l (λw' a3=>(bq w' a3)) aA (aF l aA λwa H=>?_)))));have ha:=ht.bQ H;have bt:=H.bP n;refine aP aA (Xg2 ha a8 (by rw[y3];exact hs.bl) q 0 hn (L.bQ H) p (Kh br (by omega) (by omega) (by omega)) am) ?_;rintro _ wb ⟨rfl,an,a4⟩;refine aN aA ?_;have bu:=a4.heap bt g;have a1:Zo wb q:=⟨((L.bQ H).rd).bW p a4,L.len⟩;refine aQ 8 Xf (by kernel_rfl) aA λl=>aE l an.obj aA (aE l bu aA (Xd.build Xb l rfl rfl (aF l aA λwc a5=>?_)));have a6:=an.bQ a5;obtain⟨al,ao⟩:=a6.th;refine Xa.mapset Xb rfl (ao.1) λwd P ae ci=>aN aA ?_;have bv:=ao.put (o:=o) (size:=size) (q:=q) (qm:=Yl S.c s (o:Nat) size) f (by show o<(Yd S.c s (o:Nat) size).th.length;rw[y1];exact ho) P ae a6.f2.2.2.2.1 (a1.bQ a5) p (((G.bQ H).bR a4 p).bQ a5);have a7:=a6.setTh ae bv;refine bB a7.obj aA (aV aA (bF a7.obj aA λwf bw ap cj=>?_));have b7:=a7.setBy (by2:=by'+size) ap bw;have bx:=((H.gr.trans a4).trans a5.gr).trans ((ae.mono λz _ e=>e▸a6.f2.2.2.2.1).trans (ap.mono λz _ e=>e▸a7.f2.1));have eL:Q2 S.c s (o:Nat) size={Yp S.c (Yd S.c s (o:Nat) size) (Xy q) 0 (X6 hn) with th:=(Yd S.c s (o:Nat) size).th.set o (some ⟨size,Yl S.c s (o:Nat) size⟩)}:=by
   unfold Q2;rw[y1,f,XB,<-f,<-Xhy,ehn,XB]
  rw[eL];exact bE func113 aA (.trans E Q (.of b7 bx))
def Ba:Option ThM->Int
 |some t=>t.size
 |none=>0
theorem Xcy:∀l:List (Option ThM),(C5 l).sum=(l.map Ba).sum
 |[]=>rfl
 |none::l=>by
  have:=Xcy l;unfold C5 at *;simp[Ba,this]
 |some t::l=>by
  have:=Xcy l;unfold C5 at *;simp[Ba,this]
theorem Hb(s:StM):Zl s=(s.th.map Ba).sum:=Xcy s.th
theorem Xhc:∀(l:List Int) (i:Nat) (v:Int) (hi:i<l.length),(l.set i v).sum=l.sum-l[i]+v
 |a::l,0,v,_=>by simp[List.set];omega
 |a::l,i+1,v,h=>by
  have:=Xhc l i v (by simpa using h);simp[List.set,this];omega
theorem N8{l:List (Option ThM)}{x y:Option ThM}(h:l[o]?=some x):((l.set o y).map Ba).sum=(l.map Ba).sum-Ba x+Ba y:=by
 obtain⟨a,e⟩:=XC.1 h;rw[ZY,Xhc _ _ _ (by simpa using a)];simp[e]
theorem Xcm{m:Int}(hm:0<=m):∀l:List Int,(∀x∈l,0<=x/\x<=m)->0<=l.sum/\l.sum<=l.length*m
 |[],_=>by simp
 |a::l,h=>by
  have c:=Xcm hm l λx b=>h x (YB _ b);have d:=h a (ZO ..);simp only[QH,XN,Int.natCast_add,QL,Int.natCast_one,QM];omega
section
variable {c:Conf}{s:StM}{pd:Option (Nat×PlcM)}
theorem Vq(h:s.OkP c pd):0<=Zl s/\Zl s<=8589934592:=by
 have e:c.cN<=4096:=by
  have:=h.may;unfold Zb at this;simp only[XJ,decide_eq_true_eq,Qx] at this;omega
 have f:=(Z4 h.may).cH;have g:=h.tl;have:=Xcm (m:=2097152) (by omega) (s.th.map Ba) λx a=>by
  obtain⟨y,b,rfl⟩:=XQ.1 a;cases y with
  |none=>exact⟨by decide,by decide⟩
  |some t=>
   obtain⟨o,d⟩:=List.mem_iff_getElem?.1 b;have:=h.size o t d;show 0<=t.size/\t.size<=2097152
   omega
 rw[XV] at this;rw[Hb];omega
theorem Xau(h:s.Ok c)(k:Nat)(n:Int):Zl (Yo s k n)=Zl s:=by
 unfold Yo;cases hm:Xx s (k:Nat) with
 |none=>rfl
 |some m=>
  obtain⟨j,ej,d,a⟩:=Ah hm;obtain⟨⟨o,t,e1,e2,e3⟩,_⟩:=h.mv j m a;simp only
  split
  .rfl
  .rw[Hb,Hb];have b:Ab s m.who=t.size:=by rw[e1];exact Ev e2
   show((s.th.set m.who.toNat _).map Ba).sum=_
   rw[show m.who.toNat=o by omega,N8 e2,b];show _-t.size+t.size=_
   omega
theorem Xat(c:Conf)(s:StM)(k:Nat):Zl (Yv c s k)=Zl s:=by unfold Zl;rw[(N6 c s k).1]
theorem XdC(h:s.Ok c)(κ:Int):Zl (Zg s κ)=Zl s:=by
 unfold Zg;split
 .rfl
 .exact Xau h _ _
theorem XdB{q:PlcM}(h:s.OkP c (some (o,q))):Zl (B9 c s q)=Zl s:=by
 unfold B9;split
 .rfl
 .rw[Xau (StM.OkP.begin h.dropped _),Xat];rfl
theorem XdD(o:Nat)(size:Int){x:Option ThM}(h:s.th[o]?=some x):Zl (Q2 c s (o:Nat) size)=Zl s-Ba x+size:=by
 rw[Hb,Hb];show((s.th.set (o:Int).toNat _).map Ba).sum=_
 rw[XB,N8 h];rfl
theorem XiB(o:Int)(i n:Nat):Zl (Aj s o i n)=Zl s:=by
 unfold Aj;split
 .split
  .rfl
  .rfl
 .rfl
end
theorem Xha{S:Sto}(h:Xs F Fr w S s by' mo)(hs:s.OkP S.c pd)(o:Int)(q:Plc)(i n:Nat)(hq:q.cL=(Y7 s o).cL)(hi:∀m,Xx s (Y7 s o).cL=some m->i+n<=m.size):Xe prog 110 #[Yq S,.int .i64 o,.agg (Xv q).toArray,.int .i64 i,.int .i64 n] w (λ_ w'=>Ee F w w' S (Aj s o i n) by'):=by
 obtain⟨f1,f2,f3⟩:=OkP.few hs;have noF:∀{S:Nat->Prop} {w w':dD},Xc Xf w w'->Xc S w w':=λh=>h.gr;refine aR func110 ntmps110 aA (bC aA λb I e1 g d H=>?_);have f:=h.bQ d;refine aQ 15 Xf (by kernel_rfl) aA λa=>aE a g aA ?_;rw[hq];refine aH a (λw' x=>K4 (f.bQ x) hs (Y7 s o).cL) aA ?_;cases hm:Xx s (Y7 s o).cL with
 |none=>
  have e:Aj s o i n=s:=by unfold Aj;rw[hm]
  rw[e];exact Xd.no Xb a rfl rfl rfl (aF a aA λC c=>bE func110 aA (.of (f.bQ c) (noF (d.trans c))))
 |some m=>
  obtain⟨k,ek,J,r⟩:=Ah hm;obtain⟨mb,v⟩:=Uk f r;have y:=hi m hm;rw[ek] at hq;refine Xd.yes Xb a rfl rfl rfl (aE a f.obj aA (aE a g aA ?_));rw[hq];refine Xd.index Xb a rfl (j:=k*6) (by omega) (show(k:Int)<(s.mv.length:Nat) by omega) (by simp) rfl (aD a (f.mcell v (i:=1) (by decide) rfl) aA (aF a aA λC c=>?_));have l:=f.bQ c;by_cases p:m.who=o
  .have e:Aj s o i n=Qk {s with bs:=Ex s.bs m.f m.t m.cE i n} (Q4 i n m.cE):=by unfold Aj;rw[hm];simp only;rw[bK p]
   rw[e];refine aM aA (by rw[p];simp) (aQ 11 Xf (by kernel_rfl) aA λa=>aE a l.obj aA (aE a (c.bP g) aA ?_));rw[hq];refine Xd.index Xb a rfl (j:=k*6) (by omega) (show(k:Int)<(s.mv.length:Nat) by omega) (by simp) rfl (aD a (l.mcell v (i:=0) (by decide) rfl) aA (aF a aA λD t=>?_));have A:=l.bQ t;refine aP aA (Xks S.A (E0 S s) (E6 mb m) m.cE i n D (A.mvOk hs v) y) ?_;rintro _ K ⟨rfl,B,u⟩;refine aN aA ?_;rw[Xos h.amb] at B;obtain⟨L,M,N,_⟩:=Ks hs r;have E:(Ex s.bs m.f m.t m.cE i n).length=s.bs.length:=by
    unfold Ex;split
    .rfl
    .unfold Q4;exact P8 (by omega) (by omega)
   exact bE func110 aA (.of (A.arena' u B.ar E) ((noF ((d.trans c).trans t)).trans (u.mono λz _ G=>h.footF z G)))
  .have e:Aj s o i n=s:=by unfold Aj;rw[hm];simp only;rw[bJ p]
   rw[e];exact aI aA (by simpa using p) (bE func110 aA (.of l (noF (d.trans c))))
def Jq(F:Nat->Prop)(w:dD)(S:Sto)(s:StM)(e:Int)(v:dE)(w':dD):Prop:=v=.int .i64 e/\Ee F w w' S s (Zl s)
theorem XnC{S:Sto}(h:Xs F Fr w S s (Zl s) mo)(hs:s.Ok S.c)(o size:Int):Xe prog 70 #[Yq S,.int .i64 o,.int .i64 size] w (Jq F w S (Aa S.c s o size) (Ck S.c s o size)):=by
 have noF:∀{S:Nat->Prop} {w w':dD},Xc Xf w w'->Xc S w w':=λh=>h.gr;have same:∀{w'},Xc Xf w w'->Ck S.c s o size≠0->Ee F w w' S (Aa S.c s o size) (Zl (Aa S.c s o size)):=λg r=>by
  have e:Aa S.c s o size=s:=by unfold Aa;rw[bJ r]
  rw[e];exact .of (h.bQ g) (noF g)
 have u:=Vq hs;refine aR func70 ntmps70 aA (aP aA (Vr h (Xc.refl _ _) hs o) ?_);rintro _ A ⟨⟨q,rfl,_⟩,f⟩;refine aN aA (bC aA λb B e2 i k v=>bF i aA λC x l y=>?_);have a:=(f.trans k).bU l (λz D e=>by have:=f.size;omega);by_cases e1:Z5 s o=1
 .have e:Ck S.c s o size=1:=by unfold Ck;rw[bK e1]
  rw[e1];exact bI aA (bE func70 aA ⟨by rw[e];rfl,same a (by rw[e];decide)⟩)
 .refine aI aA (by simpa using e1) ?_;by_cases c:Z5 s o=0
  .have e:Ck S.c s o size=10:=by unfold Ck;rw[bJ e1,bK c]
   rw[c];exact bI aA (bE func70 aA ⟨by rw[e],same a (by rw[e];decide)⟩)
  .have e:Ck S.c s o size=Yt S.c s size:=by unfold Ck;rw[bJ e1,bJ c]
   have m:=h.bQ a;refine aI aA (by simpa using c) (bG (Xcg m hs size) aA λE d=>?_);by_cases hf:Yt S.c s size=0
   .rw[hf];refine aS aA ?_;obtain⟨j,rfl,t,n⟩:=Xbn e1 c;have eA:Aa S.c s (j:Nat) size=Q2 S.c s (j:Nat) size:=by unfold Aa;rw[bK (by rw[e];exact hf)]
    refine aP aA (Xg7 (m.bQ d) hs t hf (StM.OkP.lay hs n hf (by rintro _ _ ⟨⟩)) (by omega)) ?_;rintro _ G p;have eb:Zl (Aa S.c s (j:Nat) size)=Zl s+size:=by rw[eA,XdD j size n];show _-0+_=_;omega
    exact aN aA (bE func70 aA ⟨by rw[e,hf],by rw[eb,eA];exact .trans (λ_ h=>.inl h) (noF (a.trans d)) p⟩)
   .exact aM aA (by simpa using hf) (bE func70 aA ⟨by rw[e],same (a.trans d) (by rw[e];exact hf)⟩)
theorem XnF{S:Sto}(h:Xs F Fr w S s (Zl s) mo)(hs:s.Ok S.c)(o:Int):Xe prog 53 #[Yq S,.int .i64 o] w (Jq F w S (Bl S.c s o) (Z5 s o)):=by
 have noF:∀{S:Nat->Prop} {w w':dD},Xc Xf w w'->Xc S w w':=λh=>h.gr;have a8:=Vq hs;refine aR func53 ntmps53 aA (aP aA (Vr h (Xc.refl _ _) hs o) ?_);rintro _ w1 ⟨⟨q,rfl,N,a9,aa,ab⟩,y⟩;have ac:=y.size;refine aN aA (bC aA λtb w2 e2 G O ad=>bF G aA λw3 b P ae=>?_);have c:=(y.trans O).sn P;have A:¬F tb:=λa=>by have:=h.low tb a;omega
 by_cases i:Z5 s o=0
 .obtain⟨j,t,rfl,ht⟩:=J0 i;have Q:q.cL=t.q.cL:=by have:=congrArg PlcM.cL N;rw[Qo ht] at this;exact this
  rw[(Ev ht)] at b;have eF:Bl S.c s (j:Nat)=B9 S.c {Zg s t.q.cL with th:=(Zg s t.q.cL).th.set j none} (Y7 (Zg s t.q.cL) (j:Nat)):=by
   unfold Bl;rw[bJ (λh=>h i),Qo ht,XB]
  obtain⟨t',u,g2,g3,g4,g5⟩:=Oh hs ht;have R:=((Mi hs t.q.cL).ok).away u g5;rw[Qo u] at eF;have H:Zl (Bl S.c s (j:Nat))=Zl s-t.size:=by
   rw[eF,XdB R,Hb];show(((Zg s t.q.cL).th.set j none).map Ba).sum=_
   rw[N8 u,<-Hb,XdC hs];show _-t'.size+0=_
   omega
  have af:=hs.size j t ht;have ag:=(Z4 hs.may).cH;rw[i];refine aS aA (bB b aA ?_);rw[Q];refine aP aA (Xg6 (h.bQ c) hs t.q.cL) ?_;rintro _ w4 ⟨T,ah,ai,v,k,B⟩;refine aN aA ?_;have I:¬T tb:=λa=>(k tb a).elim A (by have:=Xg b;omega);obtain⟨al,C⟩:=v.th;obtain⟨l,U,k2,V,k4,k5⟩:=C.2.2.1 j t' u;refine bB v.obj aA (Xa.lookup Xb rfl (C.1) ((show Bt al _ (j:Nat) false=.agg (Fd t'.size l).toArray from by unfold Bt;rw[k2];rfl)) rfl (Xa.field Xb rfl (show Value.agg ((Fd t'.size l).toArray.extract 1 5)=.agg (Xv l).toArray from rfl) rfl (bC aA λpb w5 e5 J W aj=>bF J aA λw6 K a0 ak=>?_)));have d:=W.sn a0;have g:=v.bQ d;have D:¬T pb:=λa=>by have:=v.low pb a;omega
  obtain⟨am,m⟩:=g.th;refine bB g.obj aA (Xa.mapdel Xb rfl (m.1) λw7 L f an=>aN aA ?_);have h7:=g.setTh f (m.del (o:=j) L f g.f2.2.2.2.1);refine aQ 6 Xf (by kernel_rfl) aA λM=>aE M h7.obj aA (aE M (f.heap (d.bP (B.heap b A)) (λe=>I (e▸g.f2.2.2.2.1))) aA (aF M aA λw8 n=>?_));have x:=h7.bQ n;refine aV aA (bF x.obj aA λw9 a2 p ao=>?_);have r:=((f.mono λz _ e=>e▸g.f2.2.2.2.1).trans (noF n)).trans (p.mono λz _ e=>e▸x.f2.1);have a3:Zo w9 l:=⟨((V.bQ d).rd).bW k4 r,V.len⟩;refine bB (p.heap (n.bP (f.heap K (λe=>D (e▸g.f2.2.2.2.1)))) (λe=>D (e▸x.f2.1))) aA (aP aA (Xg5 (x.setBy (by2:=Zl s-t.size) p a2) l (by rw[U];exact R) a3) ?_);rintro _ ap E;refine aN aA ?_;rw[U] at E;exact bE func53 aA ⟨rfl,by rw[H,eF];exact .trans (λz a=>(k z a).imp id (by omega)) ((((noF c).trans B).trans (noF d)).bU r (λz a hf=>(k z hf).elim id (by omega))) E⟩
 .have e:Bl S.c s o=s:=by unfold Bl;rw[bK i]
  exact aM aA (by simpa using i) (bE func53 aA ⟨rfl,by rw[e];exact .of (h.bQ c) (noF c)⟩)
theorem V3(hs:s.OkP c pd){o i n:Int}(h:Ql s o i n=0):∃(j:Nat),∃t,∃i' n':Nat,o=j/\s.th[j]?=some (some t)/\i=i'/\n=n'/\(i'+n':Int)<=t.size/\Qq c t.q.cQ i' n'=0/\t.q.bS.length<=4096:=by
 obtain⟨j,t,e1,e2,e3,e4,e5⟩:=V2 h;obtain⟨a,d,b⟩:=Ja hs e2;obtain⟨i',rfl⟩:=XE e3;obtain⟨n',rfl⟩:=XE e4;exact⟨j,t,i',n',e1,e2,rfl,rfl,e5,Kh a (by omega) (by omega) (by omega),b⟩
theorem Le{qm:PlcM}(e:Xy q=qm){i n:Int}(h:Qq c qm.cQ i n=0):Qq c q i n=0:=by rw[Xaz,e];exact h
theorem Xl.from'{base' size:Nat}(h:Xl base t size w v m xs)(hb:base'<=base):Xl base' t size w v m xs:=by
 obtain⟨b,a⟩:=h;refine⟨b,?_⟩;rcases a with a|⟨g,cap,cur,e,c,r⟩
 .exact .inl a
 .exact .inr ⟨g,cap,cur,e,by omega,r⟩
theorem XnQ{S:Sto}(h:Xs F Fr w S s (Zl s) mo)(hs:s.Ok S.c)(o i:Int)(a:Option Addr)(cap:Nat)(l:List Int)(hi : -9223372036854775808<=i/\i<=9223372036854775807)(hr:Rd .u8 w a l)(hlc:l.length<=cap)(hl:l.length<=9223372036854775807)(hin:Qh l)(hout:0<l.length->Xj F a):Xe prog 61 #[Yq S,.int .i64 o,.int .i64 i,.slice a l.length cap] w (Jq F w S (Dg S.c s o i l) (Ql s o i l.length)):=by
 have noF:∀{S:Nat->Prop} {w w':dD},Xc Xf w w'->Xc S w w':=λh=>h.gr;refine aR func61 ntmps61 aA (aP aA (Xg9 h (Xc.refl _ _) hs o i l.length hi (by omega)) ?_);rintro _ T ⟨⟨q,rfl,b,B,C,O⟩,p⟩;have P:=p.size;refine aN aA (bC aA λtb U e2 x D Q=>bF x aA λV f E R=>?_);have c:=(p.trans D).sn E;have H:¬F tb:=λG=>by have:=h.low tb G;omega
 have y:=h.bQ c;by_cases g:Ql s o i l.length=0
 .obtain⟨j,t,i',n',rfl,ht,rfl,W,h5,I,J⟩:=V3 hs g;obtain rfl:l.length=n':=by omega
  have K:=Qo ht;rw[K] at b;have eW:Dg S.c s (j:Nat) (i':Nat) l=Aj (Yp S.c s t.q i' l) (j:Nat) i' l.length:=by unfold Dg;rw[bK g,K,XB]
  rw[g];refine aS aA (aQ 8 Xf (by kernel_rfl) aA λA=>aE A y.obj aA (aE A f aA (aF A aA λw4 n=>?_)));have d:=c.trans n;refine aP aA (Xg1 (y.bQ n) hs.may hs.bl q i' a cap l (B.bQ d) C (Le b I) (by rw[show q.bS=t.q.bS from congrArg PlcM.bS b];exact J) (hr.bR d) hlc hin hout) ?_;rintro _ w5 ⟨rfl,r,u⟩;refine aN aA ?_;rw[b] at r;have v:=Qo (s:=Yp S.c s t.q i' l) ht;have L:∀m,Xx (Yp S.c s t.q i' l) (Y7 (Yp S.c s t.q i' l) (j:Nat)).cL=some m->i'+l.length<=m.size:=λm hm=>by
   rw[v] at hm;obtain⟨k,ek,_,M⟩:=Ah hm;have:=Ro hs (k:=k) (m:=m) M ht ek;omega
  refine bB (u.heap (n.bP f) H) aA (aP aA (Xha r (hs.put t.q i' hin) (j:Nat) q i' l.length (by rw[v,<-b];rfl) L) ?_);rintro _ w6 N;exact aN aA (bE func61 aA ⟨rfl,by rw[eW,XiB];exact .trans (λ_ h=>.inl h) ((noF d).trans u) N⟩)
 .have e:Dg S.c s o i l=s:=by unfold Dg;rw[bJ g]
  exact aM aA (by simpa using g) (bE func61 aA ⟨rfl,by rw[e];exact .of y (noF c)⟩)
theorem XnK{S:Sto}(h:Xs F Fr w S s (Zl s) mo)(hs:s.Ok S.c)(o i n:Int)(hi : -9223372036854775808<=i/\i<=9223372036854775807)(hn : -9223372036854775808<=n/\n<=9223372036854775807):Xe prog 56 #[Yq S,.int .i64 o,.int .i64 i,.int .i64 n] w (λv w'=>∃u,v=.tuple #[u,.int .i64 (Ql s o i n)]/\Xl w.heap.size 5 1 w' u (Cv S.c s o i n).length ((Cv S.c s o i n).map (Value.int .u8))/\∃mo',Xs F Fr w' S (Cu S.c s o i n) (Zl (Cu S.c s o i n)) mo'/\Xc F w w'):=by
 have noF:∀{S:Nat->Prop} {w w':dD},Xc Xf w w'->Xc S w w':=λh=>h.gr;refine aR func56 ntmps56 aA (aP aA (Xg9 h (Xc.refl _ _) hs o i n hi hn) ?_);rintro _ w1 ⟨⟨q,rfl,d,C,D,U⟩,p⟩;have V:=p.size;refine aN aA (bC aA λtb g e2 r E W=>bF r aA λN x G a0=>?_);have a:=(p.trans E).sn G;have H:¬F tb:=λb=>by have:=h.low tb b;omega
 have y:=h.bQ a;by_cases c:Ql s o i n=0
 .obtain⟨j,t,i',n',rfl,ht,rfl,rfl,h5,I,J⟩:=V3 hs c;have A:=Qo ht;rw[A] at d;have eR:Cu S.c s (j:Nat) (i':Nat) (n':Nat)=Qk s (Zi S.c t.q.cQ i' n'):=by unfold Cu;rw[bK c,A,XB,XB]
  have eB:Cv S.c s (j:Nat) (i':Nat) (n':Nat)=Yg S.c t.q.cQ s.bs i' n':=by unfold Cv;rw[bK c,A,XB,XB]
  have B:(Yg S.c t.q.cQ s.bs i' n').length=n':=by unfold Yg;rw[XV,ZM]
  rw[c];have O:∀w',Xc Xf N w'->Xe prog 107 #[Fs S.v,.agg (Xv q).toArray,.int .i64 (i':Nat),.int .i64 (n':Nat)] w' (λv g=>Xc (Zw S.A) w' g/\∃f,v=.tuple #[f,.int .i64 0]/\Xs F Fr g S (Qk s (Zi S.c t.q.cQ i' n')) (Zl s) mo/\Xl w.heap.size 5 1 g f n' ((Yg S.c t.q.cQ s.bs i' n').map (Value.int .u8))):=λw' k=>by
   have K:=Xg0 (y.bQ k) hs.may hs.bl q i' n' (C.bQ (a.trans k)) D (Le d I) (by rw[show q.bS=t.q.bS from congrArg PlcM.bS d];exact J);rw[d] at K;exact K.mono λv g ⟨f,e,P,Q,R⟩=>⟨Q,f,e,P,R.from' (by have:=a.size;have:=k.size;omega)⟩
  have a4:¬Zw S.A S.sb:=λb=>b.elim (Xr h.kds.1 h.kds.2.2.1 (by decide)) (λe=>by rw[h.amb] at e;exact Xr h.kds.1 h.kds.2.2.2.2.2 (by decide) (Option.some.inj e).symm);have a5:¬Zw S.A tb:=λb=>H (h.footF _ b);refine aS aA (aQ 11 (Zw S.A) (by kernel_rfl) aA λl=>aE l y.obj aA (aE l x aA (Xd.callQ l rfl rfl (O) ?_)));rintro _ w4 L ⟨f,rfl,T,M⟩;refine Xd.adv Xb l rfl (aF l aA λw5 m=>?_);rw[eR,eB,B];exact bE func56 aA ⟨f,rfl,M.bR m (λ_ _=>id),_,T.bQ m,(((noF a).trans (L.mono λz _ b=>h.footF z b)).trans (noF m))⟩
 .have e:Cu S.c s o i n=s:=by unfold Cu;rw[bJ c]
  have eB:Cv S.c s o i n=[]:=by unfold Cv;rw[bJ c]
  rw[e,eB];exact aM aA (by simpa using c) (bE func56 aA ⟨_,rfl,⟨rfl,.inl ⟨rfl,rfl⟩⟩,_,y,noF a⟩)
theorem XhG(s:StM)(o:Int)(i n:Nat):(Aj s o i n).th=s.th:=by
 unfold Aj;split
 .split <;> rfl
 .rfl
theorem Xot{t:ThM}(size:Int)(i n:Nat)(ht:s.th[o]?=some (some t)):Aj (D5 s (o:Nat) ⟨size,t.q⟩) (o:Nat) i n=D5 (Aj s (o:Nat) i n) (o:Nat) ⟨size,t.q⟩:=by
 have e1:Y7 (D5 s (o:Nat) ⟨size,t.q⟩) (o:Nat)=t.q:=by
  refine Qo (t:=⟨size,t.q⟩) ?_;show(s.th.set (o:Int).toNat _)[o]?=_
  rw[XB,XH ((XC.1 ht).1)]
 unfold Aj;rw[e1,Qo ht];have e2:Xx (D5 s (o:Nat) ⟨size,t.q⟩) t.q.cL=Xx s t.q.cL:=rfl;rw[e2];split
 .split <;> rfl
 .rfl
theorem XnL{S:Sto}(h:Xs F Fr w S s (Zl s) mo)(hs:s.Ok S.c)(o size:Int):Xe prog 63 #[Yq S,.int .i64 o,.int .i64 size] w (Jq F w S (Ai S.c s o size) (A7 S.c s o size)):=by
 have noF:∀{S:Nat->Prop} {w w':dD},Xc Xf w w'->Xc S w w':=λh=>h.gr;have same:∀{w'},Xc Xf w w'->A7 S.c s o size≠0->Ee F w w' S (Ai S.c s o size) (Zl (Ai S.c s o size)):=λhc he=>by
  have e:Ai S.c s o size=s:=by unfold Ai;rw[bK he]
  rw[e];exact .of (h.bQ hc) (noF hc)
 have dz:=Vq hs;have e1:=(Z4 hs.may).cH;refine aR func63 ntmps63 aA (aP aA (Vr h (Xc.refl _ _) hs o) ?_);rintro _ w1 ⟨⟨q,rfl,y,a8,B,ao⟩,bv⟩;have e3:=bv.size;refine aN aA (bC aA λtb w2 e2 ca cp e4=>bF ca aA λw3 ae cq e5=>?_);have C:=(bv.trans cp).sn cq;have L:¬F tb:=λa=>by have:=h.low tb a;omega
 have h3:=h.bQ C;by_cases e0:Z5 s o=0
 .obtain⟨j,t,rfl,ht⟩:=J0 e0;have N:=Ev ht;have hQ:=Qo ht;have e6:=hs.size j t ht;have bw:=(XC.1 ht).1;rw[N] at ae;rw[hQ] at y;rw[e0];refine aS aA ?_;by_cases g1:size<1\/S.c.cH<size
  .have e:A7 S.c s (j:Nat) size=3:=by unfold A7;rw[bJ (λh=>h e0),bK g1]
   by_cases g2:size<1
   .exact bI aA (bE func63 aA ⟨by rw[e],same C (by rw[e];decide)⟩)
   .exact aS aA (bB h3.obj aA (bI aA (bE func63 aA ⟨by rw[e],same C (by rw[e];decide)⟩)))
  .refine aS aA (bB h3.obj aA (aS aA (bB ae aA (bG (XnS h3 t.size size (by omega) (by omega)) aA λw4 bx=>?_))));have R:=C.trans bx;have h4:=h.bQ R;have p:=bx.bP ae;cases O:A0 S.c t.size size with
   |true=>
    have e:A7 S.c s (j:Nat) size=0:=by unfold A7;rw[bJ (λh=>h e0),bJ g1,N,bK O]
    rw[e];refine bI aA (bB p aA ?_);by_cases b0:size<t.size
    .obtain⟨i',rfl⟩:=XE (show 0<=size by omega);obtain⟨n',b1⟩:=XE (show 0<=t.size-(i':Int) by omega);obtain⟨pv,ph,pf⟩:=Ja hs ht;have cr:q.bS=t.q.bS:=congrArg PlcM.bS y;refine Xa.yes Xb rfl (bN b0) rfl ?_;refine Xa.drawn (q:=11) Xf Xb Xn (by kernel_rfl) rfl ?_;intro d;refine Xd.cJ Xb d rfl h4.obj (by first|exact λh=>h|(intro h;omega)|assumption) rfl rfl ?_;refine Xd.loads Xb d rfl p (by first|exact λh=>h|(intro h;omega)|assumption) rfl rfl ?_;refine Xd.cJ Xb d rfl p (by first|exact λh=>h|(intro h;omega)|assumption) rfl rfl ?_;refine Xd.arith Xb d rfl (w64 (by omega)) rfl ?_;rw[b1];refine Xd.nil d ?_;intro w5 P;refine aN rfl ?_;have l:=R.trans P;refine aP rfl (Xg2 (h4.bQ P) hs.may hs.bl q i' n' (a8.bQ l) B (Le y (Kh pv (by omega) (by omega) (by omega))) (by rw[cr];exact pf)) ?_;rintro _ w6 ⟨rfl,bz,Q⟩;refine aN aA ?_;rw[y] at bz;have T:=Q.heap (P.bP p) L;have c0:=Qo (s:=Yp S.c s t.q i' (X6 n')) ht;have cs:∀m,Xx (Yp S.c s t.q i' (X6 n')) (Y7 (Yp S.c s t.q i' (X6 n')) (j:Nat)).cL=some m->i'+n'<=m.size:=λm hm=>by
      rw[c0] at hm;obtain⟨k,ek,_,ct⟩:=Ah hm;have:=Ro hs (k:=k) (m:=m) ct ht ek;omega
     refine bB T aA (bB T aA (aV aA ?_));rw[b1];refine aP aA (Xha bz (hs.put t.q i' (Sw n')) (j:Nat) q i' n' (by rw[c0,<-y];rfl) cs) ?_;rintro _ wx ⟨Fx,Frx,mox,hx,c1,c2⟩;refine aN aA ?_;obtain⟨sx,esx⟩:∃sx,sx=Aj (Yp S.c s t.q i' (X6 n')) (j:Nat) i' n':=⟨_,rfl⟩;rw[<-esx] at hx;have U:sx.th=s.th:=by rw[esx,XhG];rfl
     have eR:Ai S.c s (j:Nat) (i':Nat)={sx with th:=sx.th.set j (some ⟨(i':Nat),t.q⟩)}:=by
      unfold Ai;rw[bJ (λh=>h e),N,bK O,bK b0,hQ,XB,b1,XB,Xot (s:=Yp S.c s t.q i' (X6 n')) _ _ _ ht,<-esx];unfold D5;rw[XB]
     have D:Zl (Ai S.c s (j:Nat) (i':Nat))=Zl s+((i':Int)-t.size):=by
      rw[eR,Hb];show((sx.th.set j _).map Ba).sum=_
      rw[U,N8 ht,<-Hb];show _-t.size+(i':Int)=_
      omega
     have b2:=(noF l).trans Q;have aa:∀z,Fx z->F z\/w.heap.size<=z:=λz a=>(c1 z a).imp id (by have:=b2.size;omega);have E:=b2.trans c2;have r:=c2.heap T L;have af:¬Fx tb:=λa=>(c1 tb a).elim L (by have:=Xg T;omega);have b3:Zo wx q:=⟨a8.rd.bW B E,a8.len⟩;have ag:Xj Fx q.pa:=λb' off s' e a=>(aa b' a).elim (B b' off s' e) (by have:=Ek (ao b' off s' e);omega);refine aQ 9 Xf (by kernel_rfl) aA λd=>aE d hx.obj aA (aE d r aA (Xd.build Xb d rfl rfl (aF d aA λwy i=>?_)));have G:=hx.bQ i;obtain⟨al,A⟩:=G.th;refine Xa.mapset Xb rfl (A.1) λwz b4 f cu=>aN aA ?_;have a:=G.setTh f (A.put (o:=j) (size:=((i':Nat):Int)) (q:=q) (qm:=t.q) y (by rw[U];exact bw) b4 f G.f2.2.2.2.1 (b3.bQ i) ag ((ao.bR E B).bQ i));refine aQ 8 Xf (by kernel_rfl) aA λd=>aE d a.obj aA (aE d (f.heap (i.bP r) (λe=>af (e▸G.f2.2.2.2.1))) aA (aC d aA (aF d aA λwu H=>aV aA (bF ((a.bQ H).obj) aA λwv b5 ab cv=>?_))));exact bE func63 aA ⟨rfl,by rw[D,eR];exact .trans aa E (.of ((a.bQ H).setBy (by2:=Zl s+(((i':Nat):Int)-t.size)) ab b5) ((((noF i).trans (f.mono λz _ e=>e▸G.f2.2.2.2.1)).trans (noF H)).trans (ab.mono λz _ e=>e▸a.f2.1)))⟩
    .have eR:Ai S.c s (j:Nat) size={s with th:=s.th.set j (some ⟨size,t.q⟩)}:=by
      unfold Ai;rw[bJ (λh=>h e),N,bK O,bJ b0,hQ];unfold D5;rw[XB]
     have D:Zl (Ai S.c s (j:Nat) size)=Zl s+(size-t.size):=by
      rw[eR,Hb];show((s.th.set j _).map Ba).sum=_
      rw[N8 ht,<-Hb];show _-t.size+size=_
      omega
     refine aS aA ?_;obtain⟨wx,ewx⟩:∃wx,wx=w4:=⟨_,rfl⟩;obtain⟨Fx,eFx⟩:∃Fx,Fx=F:=⟨_,rfl⟩;rw[<-ewx];have hx:Xs Fx Fr wx S s (Zl s) mo:=by rw[eFx,ewx];exact h4
     have r:=p;rw[<-ewx] at r;have af:¬Fx tb:=by rw[eFx];exact L
     have aa:∀z,Fx z->F z\/w.heap.size<=z:=λz a=>.inl (by rw[<-eFx];exact a);have E:Xc F w wx:=by rw[ewx];exact noF R
     have U:s.th=s.th:=rfl;have b3:Zo wx q:=⟨a8.rd.bW B E,a8.len⟩;have ag:Xj Fx q.pa:=λb' off s' e a=>(aa b' a).elim (B b' off s' e) (by have:=Ek (ao b' off s' e);omega);refine aQ 9 Xf (by kernel_rfl) aA λd=>aE d hx.obj aA (aE d r aA (Xd.build Xb d rfl rfl (aF d aA λwy i=>?_)));have G:=hx.bQ i;obtain⟨al,A⟩:=G.th;refine Xa.mapset Xb rfl (A.1) λwz b4 f cu=>aN aA ?_;have a:=G.setTh f (A.put (o:=j) (size:=size) (q:=q) (qm:=t.q) y (by rw[U];exact bw) b4 f G.f2.2.2.2.1 (b3.bQ i) ag ((ao.bR E B).bQ i));refine aQ 8 Xf (by kernel_rfl) aA λd=>aE d a.obj aA (aE d (f.heap (i.bP r) (λe=>af (e▸G.f2.2.2.2.1))) aA (aC d aA (aF d aA λwu H=>aV aA (bF ((a.bQ H).obj) aA λwv b5 ab cv=>?_))));exact bE func63 aA ⟨rfl,by rw[D,eR];exact .trans aa E (.of ((a.bQ H).setBy (by2:=Zl s+(size-t.size)) ab b5) ((((noF i).trans (f.mono λz _ e=>e▸G.f2.2.2.2.1)).trans (noF H)).trans (ab.mono λz _ e=>e▸a.f2.1)))⟩
   |false=>
    have e:A7 S.c s (j:Nat) size=Yt S.c s size:=by unfold A7;rw[bJ (λh=>h e0),bJ g1,N,bJ (by rw[O];decide)]
    refine aS aA (bG (Xcg h4 hs size) aA λw5 P=>?_);have l:=R.trans P;have b6:=P.bP p;by_cases hf:Yt S.c s size=0
    .rw[hf];refine aS aA ?_;obtain⟨t',M⟩:=Ru hs ht O hf;have cw:q.cL=t.q.cL:=congrArg PlcM.cL y;refine Xa.cJ Xb rfl b6 rfl rfl ?_;rw[cw];refine aP aA (Xg6 (h.bQ l) hs t.q.cL) ?_;rintro _ w6 ⟨F6,cx,cy,h6,b7,Q⟩;refine aN aA ?_;have e8:=l.size;have e9:=Q.size;obtain⟨n,b8⟩:∃n,n=Zg s t.q.cL:=⟨_,rfl⟩;obtain⟨M1,M2,M3,M4,M5,M6,M7,V⟩:=M;have b9:=XdC hs t.q.cL;have eR:Ai S.c s (j:Nat) size=Ka S.c s (j:Nat) size:=by unfold Ai;rw[bJ (λh=>h (e.trans hf)),N,bJ (by rw[O];decide)]
     have eM:Ka S.c s (j:Nat) size=B9 S.c (Yp S.c (Q2 S.c (Qk n (Zi S.c t'.q.cQ 0 (min t.size size).toNat)) (j:Nat) size) (Y7 (Q2 S.c (Qk n (Zi S.c t'.q.cQ 0 (min t.size size).toNat)) (j:Nat) size) (j:Nat)) 0 (Yg S.c t'.q.cQ n.bs 0 (min t.size size).toNat)) t'.q:=by
      unfold Ka;simp only
      rw[Qo ht,Ev ht,<-b8,Qo (b8▸M2)]
     rw[<-b8] at h6 M1 M2 M6 M7 V b9;obtain⟨m,em⟩:=XE (show 0<=min t.size size by omega);rw[em,XB] at eM V;have d1:0<m:=by omega
     obtain⟨al,A⟩:=h6.th;obtain⟨K,k1,k2,k3,k4,k5⟩:=A.2.2.1 j t' M2;obtain⟨pv,ph,pf⟩:=Ja M1 M2;have bb:=(XC.1 M2).1;refine bB h6.obj aA (Xa.lookup Xb rfl (A.1) ((show Bt al _ (j:Nat) false=.agg (Fd t'.size K).toArray from by unfold Bt;rw[k2];rfl)) rfl (Xa.field Xb rfl (show Value.agg ((Fd t'.size K).toArray.extract 1 5)=.agg (Xv K).toArray from rfl) rfl (bC aA λpb w7 e7 ch d2 ea=>bF ch aA λw8 bc d4 eb=>?_)));have I:=d2.sn d4;have h8:=h6.bQ I;have bd:=I.bP (Q.heap b6 L);have ap:¬F6 pb:=λa=>by have:=h6.low pb a;omega
     have hd:∀w',Xc Xf w8 w'->Xe prog 107 #[Fs S.v,.agg (Xv K).toArray,.int .i64 0,.int .i64 (m:Nat)] w' (λv w2=>Xc (Zw S.A) w' w2/\∃u1,v=.tuple #[u1,.int .i64 0]/\Xs F6 cx w2 S (Qk n (Zi S.c t'.q.cQ 0 m)) (Zl s) cy/\Xl w8.heap.size 5 1 w2 u1 m ((Yg S.c t'.q.cQ n.bs 0 m).map (Value.int .u8))):=λw' bf=>by
      have hh:=Xg0 (h8.bQ bf) M1.may M1.bl K 0 m (k3.bQ (I.trans bf)) k4 (Le k1 (Kh pv (by omega) (by omega) (by omega))) (by rw[show K.bS=t'.q.bS from congrArg PlcM.bS k1];exact pf);rw[k1] at hh;exact hh.mono λv w2 ⟨u1,e,a1,a2,a3⟩=>⟨a2,u1,e,a1,a3.from' bf.size⟩
     have ec:¬Zw S.A S.sb:=λa=>a.elim (Xr h.kds.1 h.kds.2.2.1 (by decide)) (λe=>by rw[h.amb] at e;exact Xr h.kds.1 h.kds.2.2.2.2.2 (by decide) (Option.some.inj e).symm);have d6:¬Zw S.A tb:=λa=>L (h.footF _ a);have d7:¬Zw S.A pb:=λa=>ap (h6.footF _ a);have emin:(if size<t.size then size else t.size)=(m:Int):=by rw[<-em];split <;> omega
     refine aQ 14 (Zw S.A) (by kernel_rfl) aA λd=>aE d h8.obj aA (aE d bc aA (aE d bd aA ?_));rw[emin];refine Xd.callQ d rfl rfl (hd) ?_;rintro _ w9 bg ⟨u1,rfl,h9,d8⟩;refine Xd.adv Xb d rfl (aF d aA λed J=>?_);have c3:=h9.bQ J;obtain⟨g,cap,cur,rfl,ee,d9,cj,ef,aq⟩:=d8.form d1;rw[ZQ] at aq;have W:(Yg S.c t'.q.cQ n.bs 0 m).length=m:=by unfold Yg;rw[XV,ZM]
     have bh:¬F6 g:=λa=>by have:=h8.low g a;omega
     have bp:=J.bP (bg.heap bd d6);refine aQ 6 Xf (by kernel_rfl) aA λd=>aE d c3.obj aA (aE d bp aA (aF d aA λeg a0=>?_));have ac:=c3.bQ a0;have da:=Vq M6;have db:Zl {n with th:=n.th.set j none}=Zl s-t.size:=by
      rw[Hb];show((n.th.set j none).map Ba).sum=_
      rw[N8 M2,<-Hb,b9];show _-t'.size+0=_
      omega
     rw[db] at da;refine aV aA (bF ac.obj aA λeh ck a4 dt=>?_);have c4:=ac.setBy (by2:=Zl s-t.size) a4 ck;have ar:=a4.heap (a0.bP (J.bP (bg.heap bc d7))) (λe=>ap (e▸ac.f2.1));have bi:=a4.heap (a0.bP (J.bP d9)) (λe=>bh (e▸ac.f2.1));have a5:=(((bg.mono λz _ a=>h6.footF z a).trans (noF J)).trans (noF a0)).trans (a4.mono λz _ e=>e▸ac.f2.1);have au:=((((noF l).trans Q).trans (noF I)).bU a5 (λz a hf=>(b7 z hf).elim id (by omega)));obtain⟨sc,esc⟩:∃sc,sc=Qk n (Zi S.c t'.q.cQ 0 m):=⟨_,rfl⟩;have ak:sc.th=n.th:=by rw[esc];rfl
     rw[<-esc] at c4 V eM;have dc:Yt S.c sc size=0:=by rw[esc];exact M7
     refine aP aA (Xg7 c4 (esc▸StM.OkP.tot M1 _) (by rw[ak];exact bb) dc V (by omega)) ?_;rintro _ dd ⟨av,du,dv,ad,a6,a7⟩;refine aN aA ?_;have dw:=a5.size;have bq:¬av pb:=λa=>(a6 pb a).elim ap (by have:=Xg ar;omega);have br:¬av g:=λa=>(a6 g a).elim bh (by have:=Xg bi;omega);obtain⟨s2,bj⟩:∃s2,s2=Q2 S.c sc (j:Nat) size:=⟨_,rfl⟩;have am:s2.th[j]?=some (some ⟨size,Yl S.c sc (j:Nat) size⟩):=by
      rw[bj];show(sc.th.set (j:Int).toNat _)[j]?=_
      rw[XB,XH (by rw[ak];exact bb)]
     have cl:Zl s2=Zl s-t.size+size:=by
      rw[bj,XdD j size (x:=some t') (by rw[ak];exact M2)];have:Zl sc=Zl s:=by rw[esc,<-b9];rfl
      rw[this];show _-t'.size+size=_
      omega
     rw[<-bj] at ad V eM;obtain⟨c5,de,c6⟩:=Ja V am;simp only at c5 de c6
     obtain⟨cm,aw⟩:=ad.th;obtain⟨q2,j1,j2,j3,j4,j5⟩:=aw.2.2.1 j _ am;simp only at j1 j2
     refine aQ 12 Xf (by kernel_rfl) aA λd=>aE d ad.obj aA (aE d ad.obj aA (Xd.lookup Xb d rfl (aw.1) (by first|(intro b h;cases h;assumption)|(intro b h hs;cases h;omega)) ((show Bt cm _ (j:Nat) false=.agg (Fd size q2).toArray from by unfold Bt;rw[j2];rfl)) rfl (Xd.field Xb d rfl (show Value.agg ((Fd size q2).toArray.extract 1 5)=.agg (Xv q2).toArray from rfl) rfl (aF d aA λei u=>?_))));have c7:=Xg1 (ad.bQ u) V.may V.bl q2 0 (some ⟨g,0,none⟩) cap (Yg S.c t'.q.cQ n.bs 0 m) (j3.bQ u) j4 (Le j1 (by rw[W];exact Kh c5 (by omega) (by omega) (by omega))) (by rw[show q2.bS=(Yl S.c sc (j:Nat) size).bS from congrArg PlcM.bS j1];exact c6) (Rd.of_take (u.bP (a7.heap bi bh)) (by rw[W];exact aq)) (by rw[W];exact cj) (Pt M1.bi 0 m) (λ_ b' off s' e=>by cases e;exact br);rw[W] at c7;refine aP aA (c7) ?_;rintro _ dg ⟨rfl,c8,an⟩;refine aN aA ?_;rw[j1] at c8;have bu:Xj av K.pa:=λb' off s' e a=>(a6 b' a).elim (k4 b' off s' e) (by have:=Ek (k5 b' off s' e);omega);have bm:Zo dd K:=⟨((k3.bQ I).rd).bW k4 (a5.trans a7),k3.len⟩;have cn:Zo dg K:=⟨((bm.bQ u).rd).bW bu an,bm.len⟩;have bn:=V.put (Yl S.c sc (j:Nat) size) 0 (Pt (c:=S.c) (q:=t'.q.cQ) M1.bi 0 m);refine bB (an.heap (u.bP (a7.heap ar ap)) bq) aA (aP aA (Xg5 c8 K (by rw[k1];exact bn) cn) ?_);rintro _ ej ax;refine aN aA ?_;rw[k1] at ax;rw[(Qo am)] at eM;have D:Zl (Ai S.c s (j:Nat) size)=Zl s-t.size+size:=by
      rw[eR,eM,XdB bn,<-cl];rfl
     have c9:∀z,av z->F z\/w.heap.size<=z:=λz a=>(a6 z a).elim (λa=>(b7 z a).imp id (by omega)) (by have:=au.size;omega);exact bE func63 aA ⟨by rw[e,hf],by rw[D,eR,eM];exact .trans c9 (((au.bU a7 (λz a hf=>(b7 z hf).elim id (by omega))).trans (noF u)).bU an (λz a hf=>(c9 z hf).elim id (by omega))) ax⟩
    .exact aM aA (by simpa using hf) (bE func63 aA ⟨by rw[e],same l (by rw[e];exact hf)⟩)
 .have e:A7 S.c s o size=Z5 s o:=by unfold A7;rw[bK e0]
  exact aM aA (by simpa using e0) (bE func63 aA ⟨by rw[e];rfl,same C (by rw[e];exact e0)⟩)
theorem Xgw{r:List dE}{x:Int}(hk:k<l.length):Z2 (l.map (Value.int .i64)++r) (0+k) [.int .i64 x]=some ((l.set k x).map (Value.int .i64)++r):=by
 have:=Ri (cells:=λn:Int=>[Value.int .i64 n]) (sz:=1) (λ_=>rfl) (xs:=l) (k:=k) (y:=x) (rest:=r) hk;have e:∀l:List Int,fl (λn:Int=>[Value.int .i64 n]) l=l.map (Value.int .i64):=λl=>by unfold fl;induction l with|nil=>rfl|cons a l ih=>simp[ZX,ih]
 rw[e,e,ZQ] at this;exact this
theorem XnM{S:Sto}(h:Xs F Fr w S s (Zl s) mo)(hs:s.Ok S.c)(k bV:Int):Xe prog 79 #[Yq S,.int .i64 k,.int .i64 bV] w (Jq F w S (Df s k bV) (Ca s k bV)):=by
 obtain⟨f1,f2,f3⟩:=OkP.few hs;have same:Ca s k bV=1->Jq F w S (Df s k bV) (Ca s k bV) (.int .i64 1) w:=λd=>by
  have e:Df s k bV=s:=by unfold Df;rw[bJ (by rw[d];decide)]
  rw[e,d];exact⟨rfl,.of h (Xc.refl _ _)⟩
 refine aR func79 ntmps79 aA (bH (Xg8 h hs k) aA ?_);cases ht:He s k with
 |false=>
  have e:Ca s k bV=1:=by
   unfold Ca;rw[bK];unfold He at ht;simp only[Bool.and_eq_false_iff,decide_eq_false_iff_not] at ht;omega
  exact bI aA (bE func79 aA (same e))
 |true=>
  obtain⟨j,rfl,o⟩:=Xhk ht;refine aS aA (aT aA (λb=>?_) λb=>?_)
  .have e:Ca s (j:Nat) bV=1:=by unfold Ca;rw[bK];have:=bL b;omega
   exact bE func79 aA (same e)
  .have i:=bM b;refine aT aA (λc=>?_) λc=>?_
   .have e:Ca s (j:Nat) bV=1:=by unfold Ca;rw[bK];have:=bL c;omega
    exact bE func79 aA (same e)
   .have m:=bM c;have e:Ca s (j:Nat) bV=0:=by unfold Ca;rw[bJ];omega
    have eS:Df s (j:Nat) bV={s with bV:=s.bV.set j bV}:=by unfold Df;rw[bK e,XB]
    have f:j<s.bV.length:=by omega
    refine bB h.obj aA (aU j aA (aL aA h.kee (Xgw (x:=bV) f) aA λp g a n=>?_));exact bE func79 aA ⟨by rw[e],by rw[eS];exact .of (h.setKeep (l:=s.bV.set j bV) (by rw[XG]) a g) (a.mono λz _ e=>e▸h.f2.2.1)⟩
theorem Xn1{x:StM×Int}(h:x.2<1)(k:Nat):tickK c x k=x:=by unfold tickK;rw[bK h]
theorem XcB(h:(tickTo c s k).2<1):∀d,tickTo c s (k+d)=tickTo c s k
 |0=>rfl
 |d+1=>by rw[<-YR,Nq,XcB h d,Xn1 h]
theorem Xnz(h:Zb c=true):1<=c.step/\c.step<=65536:=by
 unfold Zb at h;simp only[XJ,decide_eq_true_eq,Qx] at h;omega
theorem Tl{c:Conf}{s:StM}(h:s.Ok c):∀n,Zl (tickTo c s n).1=Zl s/\(tickTo c s n).1.mv.length=s.mv.length/\0<=(tickTo c s n).2/\(tickTo c s n).2<=65536
 |0=>by
  have:=Xnz h.may;exact⟨rfl,rfl,by show 0<=c.step;omega,by show c.step<=_;omega⟩
 |n+1=>by
  obtain⟨a,b,d,e⟩:=Tl h n;rw[Nq];unfold tickK;split
  .exact⟨a,b,d,e⟩
  .split
   .exact⟨(Xat c _ n).trans a,(N6 c _ n).2.2.2.trans b,d,e⟩
   .refine⟨(Xau (StM.OkP.begin (StM.OkP.tickTo h n) n) n _).trans ((Xat c _ n).trans a),((Xer _ n _).2.2.1).trans ((N6 c _ n).2.2.2.trans b),?_⟩;rename_i m hm
    have:(Zt m (tickTo c s n).2:Int)<=(tickTo c s n).2:=by unfold Zt D7;omega
    simp only
    omega
theorem XnP{S:Sto}(h:Xs F Fr w S s (Zl s) mo)(hs:s.Ok S.c):Xe prog 78 #[Yq S] w (Jq F w S (D6 S.c s) 0):=by
 obtain⟨f1,f2,f3⟩:=OkP.few hs;have fin:∀{k w'},Ee F w w' S (tickTo S.c s k).1 (Zl s)->tickTo S.c s s.mv.length=tickTo S.c s k->Jq F w S (D6 S.c s) 0 (.int .i64 0) w':=λ{k w'} ht n=>by
  unfold D6;rw[n];exact⟨rfl,by rw[(Tl hs k).1];exact ht⟩
 refine aR func78 ntmps78 aA (bB h.obj aA ?_);refine Xa.loop (α:=Nat) (λk=>[(0,false,Yq S),(3,false,.int .i64 (tickTo S.c s k).2),(4,false,.func (.func 129) #[Yq S] #[]),(5,false,.int .i64 k)])
  (λk w'=>Ee F w w' S (tickTo S.c s k).1 (Zl s)/\k<=s.mv.length) (λk=>s.mv.length-k) 0 ⟨rfl,rfl,rfl,rfl,trivial⟩ ⟨.of h (Xc.refl _ _),by omega⟩ ?_
 rintro k D ⟨⟨E,p,q,i,a,b⟩,G⟩ ih;obtain⟨H,I,J,K⟩:=Tl hs k;have c:=StM.OkP.tickTo hs k;have tsucc:=Nq S.c s k;obtain⟨x,ex⟩:∃x,x=tickTo S.c s k:=⟨_,rfl⟩;rw[<-ex] at i H I J K c tsucc⊢;have e:tickTo S.c s s.mv.length=tickTo S.c s k->Jq F w S (D6 S.c s) 0 (.int .i64 0) D:=λn=>fin ⟨E,p,q,by rw[<-ex];exact i,a,b⟩ n;refine aN aA (bB i.obj aA ?_);by_cases j:k<s.mv.length
 .refine bI aA ?_;by_cases O:0<x.2
  .refine bI aA (aP aA (Xg4 i c k (by omega)) ?_);rintro _ P ⟨r,t,u,o,v,y⟩;have Q:=b.size;have f:∀z,r z->F z\/w.heap.size<=z:=λz A=>(v z A).elim (a z) (by omega);have g:=b.bU y (λz A hf=>(a z hf).elim id (by omega));have l:=StM.OkP.begin c k;refine aN aA (bH (K4 o l (k:Nat)) aA ?_);cases hm:Xx (Yv S.c x.1 k) (k:Nat) with
   |none=>
    have et:tickTo S.c s (k+1)=(Yv S.c x.1 k,x.2):=by rw[tsucc];unfold tickK;rw[bJ (by omega),hm]
    refine aS aA (aV aA ?_);refine ih (k+1) _ _ ⟨⟨r,t,u,?_,f,g⟩,j⟩ (by omega) ?_
    .rw[et];exact o
    .rw[et];exact⟨rfl,rfl,rfl,rfl,trivial⟩
   |some m=>
    obtain⟨k',ek',M,B⟩:=Ah hm;obtain rfl:k=k':=by omega
    have et:tickTo S.c s (k+1)=(Yo (Yv S.c x.1 k) k x.2,x.2-Zt m x.2):=by rw[tsucc];unfold tickK;rw[bJ (by omega),hm]
    have N:(Zt m x.2:Int)<=x.2:=by unfold Zt D7;omega
    refine bI aA ?_;refine aP rfl (Xci o l B x.2) ?_;rintro _ R ⟨rfl,C⟩;refine aN aA ?_;refine Xa.arith Xb rfl (w64 (by omega)) rfl ?_;refine aV aA ?_;refine ih (k+1) _ _ ⟨?_,j⟩ (by omega) ?_
    .rw[et];exact .trans f g C
    .rw[et];exact⟨rfl,rfl,rfl,rfl,trivial⟩
  .refine aS aA ?_;exact bE func78 aA (e (by obtain⟨d,L⟩:=Nat.exists_eq_add_of_le G;rw[L];exact XcB (by rw[<-ex];omega) d))
 .refine aS aA ?_;exact bE func78 aA (e (by rw[show s.mv.length=k by omega]))
def Rm.relap(R:Rm)(l:Int):Rm:={R with dA:=l}
def Sto.relap(S:Sto)(l:Int):Sto:={S with R:=S.R.relap l}
theorem Zm.relap(h:Zm F w R M)(hb:R.mo=some b){t l:Int}(hm:Be w' b t l)(hc:Xc (λz=>z=b) w w'):Zm F w' (R.relap l) {M with tot:=t}:=by
 obtain⟨n,p⟩:=h.met b hb;have kb:=Mp p;have g:∀z,z=b->F z:=λz e=>e▸n;have kp:=h.pool.kds;have j:=Xr kp.1 kb (by decide);have m:=Xr kp.2 kb (by decide);have ht:1≠b:=λe=>h.tf (e▸n);refine⟨{h.ok with tot:=by have:=hm.2;show 0<=t/\t<=4611686018427387904;omega},hc.heap h.obj (λe=>h.rf (g _ e)),h.cL.bR hc g,h.kee.bR hc g,h.may,λb' c=>?_,λk q=>hc.cell (h.sl k q) (λe=>h.sf (g _ e)),h.pool.bR hc j m,h.pf,?_,h.lg.bR hc (λz _ h=>.inl (g z h)) (Xr (Ie h.lg) kb (by simp)),h.lf,h.rf,h.sf,λz i=>by have:=h.low z i;have:=hc.size;omega,h.tab.bR hc ht,h.tf,λz i=>⟨by have:=(h.xl z i).1;have:=hc.size;omega,(h.xl z i).2⟩⟩
 .replace c:R.mo=some b':=c;rw[hb] at c;cases c;exact⟨n,hm⟩
 .obtain⟨G,a,d⟩:=h.sh;refine⟨G,λk x r=>?_,d⟩;obtain⟨o,f,s⟩:=a k x r;have ap:=f.at'.apart kb (by decide);exact⟨o,⟨f.ok,f.pos,f.of,f.at'.bR hc (λz e=>e▸ap.1) (λz e=>e▸ap.2) ht,f.pool.bR hc (by rw[o];exact j) (by rw[o];exact m)⟩,s⟩
theorem Xs.relap{F Fr:Nat->Prop}{w w':dD}{S:Sto}{s:StM}{by':Int}{mo:Mo}(h:Xs F Fr w S s by' mo){l:Int}(hm:Be w' S.mb s.rm.tot l)(hc:Xc (λz=>z=S.mb) w w'):Xs F Fr w' (S.relap l) s by' mo:=by
 obtain⟨i,j,n,o,p,a⟩:=h.kds;obtain⟨q,r,t,v,x,y⟩:=h.nF;have c:∀z,z=S.mb->F z:=λz e=>e▸h.mb.1;have f:=h.ca.bR hc c;have g:=h.ka.bR hc c;exact {h with
  obj:=hc.heap h.obj (Xr i a (by decide)),kee:=hc.heap h.kee (Xr j a (by decide)),cW:=h.cW.relap h.rmo hm hc,
  ar:=⟨hc.heap h.ar.obj (λe=>q (c _ e)),hc.heap h.ar.dat (Xr n a (by decide)),hc.heap h.ar.cap (λe=>r (c _ e)),λb d=>by
   replace d:S.A.mb=some b:=d;rw[h.amb] at d;cases d;exact hm,h.ar.len,h.ar.rng⟩,
  vw:=⟨hc.heap h.vw.obj (λe=>t (c _ e)),by
   show Yw w' S.v.c S.v.p
   have:=h.vw.cO;rw[h.vc,h.vp] at this⊢;exact⟨f.1,g.1,this.lc,this.lk,this.size⟩,h.vw.may⟩,
  th:=h.th.bW hc c (Xr o a (by simp)),mvs:=hc.heap h.mvs (Xr p a (by decide)),mob:=h.objAt hc (λk b m hm=>Xr (h.kdm hm) a (by decide)),ca:=f,ka:=g,
  low:=λz u=>by have:=h.low z u;have:=hc.size;omega}
theorem XnO{S:Sto}(h:Xs F Fr w S s by' mo)(b:Nat)(hb:Xcd w b (Yq S)):Xe prog 124 [.pointer (some ⟨b,0,none⟩)].toArray w (λv w'=>∃n:Int,v=.int .i64 n/\n=s.rm.tot-S.R.dA/\Xs F Fr w' (S.relap s.rm.tot) s by' mo/\Xc (λz=>z=S.mb) w w'):=by
 refine aR func124 ntmps124 aA (aW aA (Cp (off:=0) hb rfl) aA (bB h.obj aA (aP aA (Xkk S.mb s.rm.tot S.R.dA w h.mb.2.2) ?_)));rintro _ c ⟨rfl,hm,a⟩;exact aN aA (bE func124 aA ⟨_,rfl,rfl,h.relap hm a,a⟩)
theorem XnN{S:Sto}(h:Xs F Fr w S s by' mo):Xe prog 71 #[Yq S] w (λv w'=>v=.int .i64 (s.rm.tot-S.R.dA)/\Xs F Fr w' (S.relap s.rm.tot) s by' mo/\Xc (λz=>z=S.mb) w w'):=by
 refine aR func71 ntmps71 aA (bC aA λb e e1 c a g=>aW aA (Cp (off:=0) c rfl) aA (aP aA (Xch (S:=S) 124 [.pointer (some ⟨b,0,none⟩)] e _ (XnO (h.bQ a) b c)) ?_));rintro _ i ⟨n,rfl,rfl,f,d⟩;exact aN aA (bE func71 aA ⟨rfl,f,a.gr.trans d⟩)
theorem XiO(a:Option Addr)(cap:Nat)(x:List Int)(w:dD)(hr:Rd .i64 w a x)(hl:x.length<=1048576)(hn:∃a1,a=some a1):Xe prog 115 #[.slice a x.length cap] w
 (λv w'=>∃g c r,v=.slice (some ⟨g,0,none⟩) x.length c/\w.heap.size<=g/\w'.heap[g]?=some (.cells (x.map (Value.int .i64)++r).toArray 3 (0,0))/\x.length<=c/\Xc Xf w w'):=by
 have t:maxLen=9223372036854775807:=rfl;obtain⟨a1,rfl⟩:=hn;refine aR func115 ntmps115 aA (aS aA (Xa.buildSlice Xb rfl λb m e1 n d u=>aN aA ?_));subst e1;have i:Xl w.heap.size 3 1 m (.slice (some ⟨w.heap.size,0,none⟩) 0 0) 0 []:=Xl.empty (XF _) n;refine Xa.append (base:=w.heap.size) (xs:=[]) (news:=x.map (Value.int .i64)) Xb rfl i (by omega) (by simp) (hr.bR d).cells J1 ⟨by omega,by show(0+x.length)*8<=_;omega⟩ λv y f j k=>aN aA ?_;rw[XT,ZT] at f;have o:=i.bU d (XF _) j;rcases f.2 with⟨e,_⟩|⟨g,c,cur,rfl,p,q,s,z,_,l⟩
 .have:=(k.1.1 e).1;cases this
 .have h:cur=(x.map (Value.int .i64)++cur.toList.drop x.length).toArray:=by
   rw[ZQ] at l;rw[<-l,XZ]
  exact bE func115 aA ⟨g,c,cur.toList.drop x.length,rfl,p,by rw[<-h];exact q,s,o⟩
theorem Sv:∀n,Y4 [.pointer none,.int .i64 0,.int .i64 0,.int .i64 0,.int .i64 0,.int .i64 0] n=fl Em (List.replicate n none)
 |0=>rfl
 |n+1=>by rw[Y4,Sv n,YF];rfl
structure Ke(c:Conf)(w:dD)(g cap:Nat)(r:List dE)(mb tm vb:Nat):Prop where
 g:w.heap[g]?=some (.cells (c.bV.map (Value.int .i64)++r).toArray 3 (0,0))
 gc:c.bV.length<=cap
 m:Be w mb 0 0
 t:Yx w tm []
 v:w.heap[vb]?=some (.cells (fl Em (List.replicate c.bT.length none)).toArray 214 (0,0))
theorem Ke.bQ{r:List dE}{mb:Nat}(h:Ke c w g cap r mb tm vb)(hc:Xc Xf w w'):Ke c w' g cap r mb tm vb:=⟨hc.bP h.g,h.gc,h.m.bR hc,h.t.bR hc id,hc.bP h.v⟩
def O1(c:Conf)(p:Y8)(g cap mb tm vb:Nat)(a r v:dE):List dE:=Zj c p++[.slice (some ⟨g,0,none⟩) c.bV.length cap,.pointer (some ⟨mb,0,none⟩),a,r,v,.map (some tm),.slice (some ⟨vb,0,none⟩) c.bT.length c.bT.length,.int .i64 0]
theorem Ke.note{r:List dE}{mb:Nat}(h:Ke c w g cap r mb tm vb)(hc:Xc (λz=>z=xb) w w')(h1:g≠xb)(h2:mb≠xb)(h3:tm≠xb)(h4:vb≠xb):Ke c w' g cap r mb tm vb:=
 ⟨hc.heap h.g h1,h.gc,⟨hc.heap h.m.1 h2,h.m.2⟩,h.t.bR hc h3,hc.heap h.v h4⟩
theorem Zm.apart(h:Zm F w R M)(hcf:Yw w0 R.c R.p)(ht:Bg w0){l:List dE}{n:Int}(hx:w.heap[xb]?=some (.cells (.int .i64 n::l).toArray t fz))(h0:w0.heap.size<=xb)(hF:¬F xb)(htk:t≠352/\t≠348/\t≠3/\t≠221)(hc:Xc (λz=>z=xb) w w'):Zm F w' R M:=by
 have hm:=Z4 h.may;have a:=X0 hx;refine h.other hc λz e=>e▸⟨hF,Xr (X0 h.obj) a (λe=>htk.2.2.2 (Option.some.inj (Option.some.inj e)).symm),λe=>?_,λe=>?_,λoff s e=>?_,λoff s e=>?_,?_,?_,λe=>?_⟩
 .have b:=h.sl 0 (by have:=hm.n;have:=h.ok.n;omega);rw[e,Ys hx] at b;cases b
 .have:=World.block_lt_of_cell? w0 _ (ht 0 (by decide));simp only at this
  omega
 .have:=hcf.bT.block (by have:=hm.n;omega) e;omega
 .have:=hcf.bV.block (by have:=hm.bV;have:=hm.n;omega) e;omega
 .rw[a];exact λe=>htk.1 (Option.some.inj (Option.some.inj e))
 .rw[a];exact λe=>htk.2.1 (Option.some.inj (Option.some.inj e))
 .rw[a] at e;exact absurd (Option.some.inj (Option.some.inj e)) htk.2.2.1
theorem XnB{p:Y8}{w7:dD}{mb vw:Nat}{r:List dE}(hc:Yw w c p)(ht:Bg w)(hcw:Xc Xf w w')(hm:Zb c=true)(hx:w'.heap[xb]?=some (.cells (O1 c p g cap mb tm vb (.pointer (some ⟨A.ab,0,none⟩)) (Ci R) (.pointer (some ⟨vw,0,none⟩))).toArray 159 (0,0)))(hN:Ke c w' g cap r mb tm vb)(hA:X8 w' A ⟨X6 (c.bS*c.size).toNat,0,0⟩)(hAm:A.mb=some mb)(hR:Zm Fr w' R (Ig c 0))(hRc:R.c=c)(hRp:R.p=p)(hRm:R.mo=some mb)(hRl:R.dA=0)(hRX:R.X=λz=>z=g)(hV:Bn w' ⟨vw,c,p,A.ab,some mb⟩)(hFr:∀z,Fr z->w7.heap.size<=z\/z=mb)(hFv:¬Fr vw)(h7:w.heap.size<=w7.heap.size)(l1:w.heap.size<=g/\g<w7.heap.size)(l2:w.heap.size<=mb)(l3:w.heap.size<=tm/\tm<w7.heap.size)(l4:w.heap.size<=vb/\vb<w7.heap.size)(l5:w.heap.size<=xb/\xb<w7.heap.size)(l6:w.heap.size<=A.db/\A.db<w7.heap.size)(l7:A.ab<w7.heap.size/\A.mc<w7.heap.size):∃F Fr S mo,Yq S=.pointer (some ⟨xb,0,none⟩)/\Xs F Fr w' S (Eo c) 0 mo/\(S.c=c/\S.p=p)/\S.R.dA=0/\∀z,F z->w.heap.size<=z:=by
 have d:=Z4 hm;have kx:=X0 hx;have kg:=X0 hN.g;have km:=Mp hN.m;have kt:=Rp hN.t;have kv:=X0 hN.v;have kd':=X0 hA.dat;have ka:=X0 hA.obj;have kc:=X0 hA.cap;have kw:=X0 hV.obj;have kr:=X0 hR.obj;have hz:(X6 (c.size*c.bS).toNat)=X6 (c.bS*c.size).toNat:=by rw[YP]
 have nfr:∀{z:Nat},z<w7.heap.size->z≠mb -> ¬Fr z:=λx y h=>(hFr _ h).elim (by omega) y;have i:∀z,(Fr z\/z=xb\/z=g\/z=A.db\/z=tm\/z=vb)->w.heap.size<=z:=λz hz=>by
  rcases hz with hz|rfl|rfl|rfl|rfl|rfl
  .rcases hFr z hz with h|h <;> omega
  all_goals omega
 have f:=hR.sl 0 (by have:=d.n;have:=hR.ok.n;rw[hRc] at this;omega);have nsb:∀{b t:Nat} {v:dE} {l:List dE} {fz:Nat×Nat},w'.heap[b]?=some (.cells (v::l).toArray t fz)->v≠Cj (R.S 0)->R.sb≠b:=λD E e=>by
  rw[e,Ys D] at f;exact E (Option.some.inj f)
 have q:=d.bV;have M:=d.n;have sbt:R.sb≠tm:=λe=>by
  obtain⟨es,clock,B,_⟩:=hN.t;rw[e] at f;unfold World.cell? at f;simp[B] at f
 have sbg:R.sb≠g:=by
  obtain⟨C,kl,ek⟩:∃C kl,c.bV=C::kl:=by cases G:c.bV with|nil=>rw[G] at q;simp at q;omega|cons a b=>exact⟨a,b,rfl⟩
  have:=hN.g;rw[ek] at this;exact nsb this (λe=>by cases e)
 have sbv:R.sb≠vb:=by
  obtain⟨n,en⟩:∃n,c.bT.length=n+1:=⟨c.bT.length-1,by omega⟩;have:=hN.v;rw[en,YF] at this;exact nsb this (λe=>by cases e)
 have sbd:R.sb≠A.db:=by
  obtain⟨n,en⟩:∃n,(c.bS*c.size).toNat=n+1:=⟨(c.bS*c.size).toNat-1,by
   have x:1*64<=c.bS*c.size:=ZG (by have:=d.bS;omega) (by have:=d.size;omega) (by omega) (by have:=d.bS;omega);omega⟩
  have:=hA.dat;simp only[en,X6,YF] at this;exact nsb this (λe=>by cases e)
 have tl:1<w.heap.size:=by have:=World.block_lt_of_cell? w _ (ht 0 (by decide));exact this
 have bW:∀{a:Option Addr} {l:List Int},Rd .i64 w a l->A3 (λz=>Fr z\/z=xb\/z=g\/z=A.db\/z=tm\/z=vb) w' a l:=λhr=>⟨hr.bR hcw,λH b off s e hz=>by have:=hr.block H e;have:=i b hz;omega⟩;have nF:∀{b:Nat},¬Fr b->b≠xb->b≠g->b≠A.db->b≠tm->b≠vb -> ¬(Fr b\/b=xb\/b=g\/b=A.db\/b=tm\/b=vb):=λI x y J K L hz=>by
  rcases hz with hz|hz|hz|hz|hz|hz
  .exact I hz
  .exact x hz
  .exact y hz
  .exact J hz
  .exact K hz
  .exact L hz
 have u:∀(k b:Nat) m,(List.replicate c.bT.length (none:Option (Nat×MvM)))[k]?≠some (some (b,m)):=λk b m e=>by
  have:=XW e;rw[QA] at this;cases this.2
 refine⟨λz=>Fr z\/z=xb\/z=g\/z=A.db\/z=tm\/z=vb,Fr,⟨xb,c,p,g,cap,r,mb,A,R,⟨vw,c,p,A.ab,some mb⟩,tm,vb,c.bT.length⟩,List.replicate c.bT.length none,rfl,?_,⟨rfl,rfl⟩,hRl,i⟩;exact {
  obj:=by
   show w'.heap[xb]?=some (.cells (Pr _ c.bV.length (List.replicate c.bT.length (none:Option MvM)).length 0).toArray _ _)
   rw[XI];exact hx
  kee:=hN.g,kcap:=hN.gc,cW:=hR,
  ar:=by
   show X8 w' A ⟨X6 (c.size*c.bS).toNat,0,R.dA⟩
   rw[hz,hRl];exact hA
  vw:=hV,
  th:=⟨[],hN.t,YX,(λo t h=>by
   have:=XW h;simp only[Eo,QA] at this;cases this.2),λk _=>rfl⟩
  mvs:=hN.v,mvc:=by show(List.replicate _ _).length<=_;rw[XI];exact XF _
  mom:=by unfold Hq Eo;rw[List.map_replicate];rfl
  mob:=λk b m h=>absurd h (u k b m),mdj:=λj k b m m' h _=>absurd h (u j b m)
  rc:=hRc,rp:=hRp,rmo:=hRm,rX:=hRX,amb:=hAm,vc:=rfl,vp:=rfl,vab:=rfl,vmb:=rfl
  f1:=λz hz=>.inl hz,f2:=⟨.inr (.inl rfl),.inr (.inr (.inl rfl)),.inr (.inr (.inr (.inl rfl))),.inr (.inr (.inr (.inr (.inl rfl)))),.inr (.inr (.inr (.inr (.inr rfl))))⟩
  nr:=⟨nfr l5.2 (Xr kx km (by decide)),nfr l1.2 (Xr kg km (by decide)),nfr l6.2 (Xr kd' km (by decide)),nfr l3.2 (Xr kt km (by simp)),nfr l4.2 (Xr kv km (by decide))⟩
  nF:=⟨nF (nfr l7.1 (Xr ka km (by decide))) (Xr ka kx (by decide)) (Xr ka kg (by decide)) (Xr ka kd' (by decide)) (Xr ka kt (by simp)) (Xr ka kv (by decide)),
   nF (nfr l7.2 (Xr kc km (by decide))) (Xr kc kx (by decide)) (Xr kc kg (by decide)) (Xr kc kd' (by decide)) (Xr kc kt (by simp)) (Xr kc kv (by decide)),
   nF hFv (Xr kw kx (by decide)) (Xr kw kg (by decide)) (Xr kw kd' (by decide)) (Xr kw kt (by simp)) (Xr kw kv (by decide)),
   nF hR.rf (Xr kr kx (by decide)) (Xr kr kg (by decide)) (Xr kr kd' (by decide)) (Xr kr kt (by simp)) (Xr kr kv (by decide)),
   nF hR.sf (nsb hx (λe=>by cases e)) sbg sbd sbt sbv,λhz=>by have:=i _ hz;omega⟩
  ca:=bW hc.bT,ka:=bW hc.bV
  low:=λz hz=>by
   rcases hz with hz|rfl|rfl|rfl|rfl|rfl
   .exact hR.low z hz
   .exact Xg hx
   .exact Xg hN.g
   .exact Xg hA.dat
   .exact Ek kt
   .exact Xg hN.v}
set_option maxHeartbeats 2000000 in
theorem XnJ(c:Conf)(p:Y8)(w:dD)(hc:Yw w c p)(ht:Bg w)(hm:Zb c=true):Xe prog 64 #[.agg (Zj c p).toArray] w (λv w'=>∃F Fr S mo,v=.tuple #[Yq S,.int .i64 0]/\Xs F Fr w' S (Eo c) 0 mo/\(S.c=c/\S.p=p)/\S.R.dA=0/\(∀z,F z->w.heap.size<=z)/\Xc Xf w w'):=by
 have C:=Z4 hm;have di:=C.bV;have dj:=C.n;have bt:N5 c.bS c.size=true:=by
  have:=C.size;have:=C.bS;refine Td.2 ⟨by omega,by omega,by omega,by omega,?_⟩;have h8:=hm;unfold Zb at h8;simp only[XJ] at h8;exact(Nl.1 h8.1.1.1.1.1.1.1).2.2
 refine aR func64 ntmps64 aA (bC aA λb w1 e1 hb bb dk=>?_);replace hb:w1.heap[b]?=some (.cells (Zj c p).toArray 24 (0,0)):=hb;refine bB hb aA (bG (XaF c p w1 (hc.bR bb)) aA λw2 bc=>?_);have em:Bu c=0:=by unfold Bu;rw[bK hm]
 rw[em];refine aS aA ?_;have J:=bc.bP hb;have P:=bb.trans bc;obtain⟨dl,koff,eka,_⟩:=hc.bV 0 (by omega);have hC:∀w',Xc Xf w2 w'->Xe prog 115 #[.slice p.ka c.bV.length p.kc] w' (λv j=>Xc Xf w2 j/\Xc Xf w' j/\∃g cap r,v=.slice (some ⟨g,0,none⟩) c.bV.length cap/\w2.heap.size<=g/\j.heap[g]?=some (.cells (c.bV.map (Value.int .i64)++r).toArray 3 (0,0))/\c.bV.length<=cap):=λw' f=>
  (XiO p.ka p.kc c.bV w' (hc.bV.bR (P.trans f)) (by omega) ⟨_,eka⟩).mono λv j ⟨g,cp,r,a1,a2,Q,a4,a5⟩=>⟨f.trans a5,a5,g,cp,r,a1,by have:=f.size;omega,Q,a4⟩
 have hM:∀w',Xc Xf w2 w'->Xe prog 116 #[] w' (λv j=>Xc Xf w2 j/\Xc Xf w' j/\∃mb,v=.pointer (some ⟨mb,0,none⟩)/\w2.heap.size<=mb/\Be j mb 0 0):=λw' f=>
  (Xkm w').mono λv j ⟨a1,a2,Q,a4⟩=>⟨f.trans Q,Q,w'.heap.size,a1,f.size,a2⟩
 refine aQ 10 Xf (by kernel_rfl) aA λd=>aE d J aA (aE d J aA (aE d J aA ?_));refine Xd.turn3 d rfl ?_ ?_ ?_
 all_goals
  intro wa k1
  first
  |have q:=hC _ k1;refine Xo.call rfl q.fn (λ_=>q) ?_;rintro _ wb q0 ⟨q1,g,cap,r,rfl,bd,D,aj⟩;refine Xd.adv Xb d rfl ?_
  |have T:=(k1).size;refine Xo.mkmap Xb d rfl (λ_=>rfl) ?_;intro tm wb etm t q1 ak
  |have U:=(k1).size;refine Xo.make Xb d rfl rfl rfl (XF _) (show 48*c.bT.length<=140737488355328 by omega) (by omega) (λ_=>rfl) ?_;intro vb wb evb i q1 al;replace i:(wb).heap[vb]?=some (.cells (Y4 [.pointer none,.int .i64 0,.int .i64 0,.int .i64 0,.int .i64 0,.int .i64 0] c.bT.length).toArray 214 (0,0)):=i;rw[Sv] at i
 all_goals first|refine Xd.turn3 d rfl ?_ ?_ ?_|refine Xd.turn2 d rfl ?_ ?_
 all_goals
  intro wc a2;have k2:=(k1.trans q1).trans a2
  first
  |have q:=hC _ k2;refine Xo.call rfl q.fn (λ_=>q) ?_;rintro _ wd q0 ⟨q2,g,cap,r,rfl,bd,D,aj⟩;refine Xd.adv Xb d rfl ?_
  |have s:=hM _ k2;refine Xo.call rfl s.fn (λ_=>s) ?_;rintro _ wd q0 ⟨q2,mb,rfl,be,E⟩;refine Xd.adv Xb d rfl ?_
  |have T:=(k2).size;refine Xo.mkmap Xb d rfl (λ_=>rfl) ?_;intro tm wd etm t q2 ak
  |have U:=(k2).size;refine Xo.make Xb d rfl rfl rfl (XF _) (show 48*c.bT.length<=140737488355328 by omega) (by omega) (λ_=>rfl) ?_;intro vb wd evb i q2 al;replace i:(wd).heap[vb]?=some (.cells (Y4 [.pointer none,.int .i64 0,.int .i64 0,.int .i64 0,.int .i64 0,.int .i64 0] c.bT.length).toArray 214 (0,0)):=i;rw[Sv] at i
 all_goals first|refine Xd.turn2 d rfl ?_ ?_|refine Xd.cK d rfl ?_
 all_goals
  intro we Q;have k3:=(k2.trans q2).trans Q
  first
  |have q:=hC _ k3;refine Xo.call rfl q.fn (λ_=>q) ?_;rintro _ wf q0 ⟨q3,g,cap,r,rfl,bd,D,aj⟩;refine Xd.adv Xb d rfl ?_
  |have s:=hM _ k3;refine Xo.call rfl s.fn (λ_=>s) ?_;rintro _ wf q0 ⟨q3,mb,rfl,be,E⟩;refine Xd.adv Xb d rfl ?_
  |have T:=(k3).size;refine Xo.mkmap Xb d rfl (λ_=>rfl) ?_;intro tm wf etm t q3 ak
  |have U:=(k3).size;refine Xo.make Xb d rfl rfl rfl (XF _) (show 48*c.bT.length<=140737488355328 by omega) (by omega) (λ_=>rfl) ?_;intro vb wf evb i q3 al;replace i:(wf).heap[vb]?=some (.cells (Y4 [.pointer none,.int .i64 0,.int .i64 0,.int .i64 0,.int .i64 0,.int .i64 0] c.bT.length).toArray 214 (0,0)):=i;rw[Sv] at i
 all_goals refine Xd.cK d rfl ?_
 all_goals
  intro wg a4;have k4:=(k3.trans q3).trans a4
  first
  |have s:=hM _ k4;refine Xo.call rfl s.fn (λ_=>s) ?_;rintro _ wh q0 ⟨q4,mb,rfl,be,E⟩;refine Xd.adv Xb d rfl ?_
  |have T:=(k4).size;refine Xo.mkmap Xb d rfl (λ_=>rfl) ?_;intro tm wh etm t q4 ak
  |have U:=(k4).size;refine Xo.make Xb d rfl rfl rfl (XF _) (show 48*c.bT.length<=140737488355328 by omega) (by omega) (λ_=>rfl) ?_;intro vb wh evb i q4 al;replace i:(wh).heap[vb]?=some (.cells (Y4 [.pointer none,.int .i64 0,.int .i64 0,.int .i64 0,.int .i64 0,.int .i64 0] c.bT.length).toArray 214 (0,0)):=i;rw[Sv] at i
 all_goals
  refine aF d aA λwz a5=>?_;have c4:=a5;have c3:=(a4.trans q4).trans c4;have c2:=(Q.trans q3).trans c3;have c1:=(a2.trans q2).trans c2;have kz:=(k4.trans q4).trans a5;have V:Ke c wz g cap r mb tm vb:=⟨by first|exact c1.bP D|exact c2.bP D|exact c3.bP D|exact c4.bP D,aj,by first|exact E.bR c1|exact E.bR c2|exact E.bR c3|exact E.bR c4,by first|exact t.bR c1 id|exact t.bR c2 id|exact t.bR c3 id|exact t.bR c4 id,by first|exact c1.bP i|exact c2.bP i|exact c3.bP i|exact c4.bP i⟩;refine aO aA (bC aA λxb wy exb aa av dm=>?_);replace aa:wy.heap[xb]?=some (.cells (O1 c p g cap mb tm vb (.pointer none) (.pointer none) (.pointer none)).toArray 159 (0,0)):=aa;have bf:=V.bQ av;have aw:=(kz.trans av).bP J;have ci:∀w',Xc Xf wy w'->Xe prog 117 #[.int .i64 c.bS,.int .i64 c.size,.pointer (some ⟨mb,0,none⟩)] w' (λv j=>Xc (λz=>z=xb) w' j/\Xc Xf wy j/\∃A:Ar,v=.tuple #[.pointer (some ⟨A.ab,0,none⟩),.int .i64 0]/\A.mb=some mb/\wy.heap.size<=A.ab/\wy.heap.size<=A.db/\wy.heap.size<=A.mc/\X8 j A ⟨X6 (c.bS*c.size).toNat,0,0⟩):=λw' f=>
   (Xig (some mb) 0 0 c.bS c.size w' (λb e=>by cases e;exact(bf.bQ f).m) bt).mono λv j ⟨A,W,x2,x3,x4,x5,x6,x7⟩=>⟨x7.gr,f.trans x7,A,W,x2,by have:=f.size;omega,by have:=f.size;omega,by have:=f.size;omega,x6⟩
  refine aQ 16 (λz=>z=xb) (by kernel_rfl) aA λd=>?_;have bg:¬b=xb:=by have:=Xg (kz.bP J);omega
  refine aE d aw aA (aE d aw aA (Xd.cK d rfl λj bh=>Xo.cJ Xb d rfl (bh.bP aa) rfl rfl ?_));have c0:=λw' (f:Xc Xf j w')=>ci w' (bh.trans f);refine Xd.callQ d rfl rfl (c0) ?_;rintro _ w4 dn ⟨ab,A,rfl,K,dp,dq,dr,ck⟩;refine Xd.adv Xb d rfl (Xd.cK d rfl λw5 L=>Xo.store Xb d rfl ((ab.trans L).bP aa) (by first|(intro h;exact rfl)|(intro h;omega)) rfl rfl rfl λw6 a6 ac ds=>aF d aA λw7 M=>?_);replace a6:w6.heap[xb]?=some (.cells (O1 c p g cap mb tm vb (.pointer (some ⟨A.ab,0,none⟩)) (.pointer none) (.pointer none)).toArray 159 (0,0)):=a6;have dt:=P.size;have szz:=kz.size;have lg:=Xg V.g;have lm:=Xg V.m.1;have lt':=V.t.lt;have lv:=Xg V.v;have c5:Xc Xf w w5:=(((P.trans kz).trans av).trans ab).trans L;have u:Xc Xf w w7:=(c5.sn ac).trans M;have bi:Ke c w7 g cap r mb tm vb:=((bf.bQ (ab.trans L)).note ac (by omega) (by omega) (by omega) (by omega)).bQ M;have ad:X8 w7 A ⟨X6 (c.bS*c.size).toNat,0,0⟩:=((ck.bQ L).bR ac (λb' N e=>by
   rcases N with h|h|h|h
   .omega
   .omega
   .omega
   .rw[K] at h;have:=Option.some.inj h;omega)).bQ M
  have bj:=M.bP (ac.heap ((ab.trans L).bP aw) bg);have ax:=M.bP a6;have la:=Xg ad.obj;have ld:=Xg ad.dat;have lc:=Xg ad.cap;have cl:∀w',Xc Xf w7 w'->Xe prog 118 #[.agg (Zj c p).toArray,.pointer (some ⟨mb,0,none⟩)] w' (λv j=>Xc (λz=>z=xb) w' j/\Xc Xf w7 j/\∃Fr R,v=.tuple #[Ci R,.int .i64 0]/\R.c=c/\R.p=p/\R.mo=some mb/\R.dA=0/\(R.X=λz=>z=g)/\Zm Fr j R (Ig c 0)/\∀z,Fr z->w7.heap.size<=z\/z=mb):=λw' f=>by
   have cm:=(bi.bQ f).m;have bW:∀{a:Option Addr} {l:List Int},Rd .i64 w a l->A3 (λz=>z=mb) w' a l:=λhr=>⟨hr.bR (u.trans f),λhl b1 off s1 e G=>by have:=hr.block hl e;omega⟩;refine(XmC c p (some mb) 0 0 (λz=>z=g) w' (hc.bR (u.trans f)) (ht.bQ (u.trans f)) (λz e=>⟨by have:=f.size;omega,λe2=>by have e3:=Option.some.inj e2;exact Xr (X0 V.g) (Mp V.m) (by decide) (e.symm.trans e3.symm)⟩) (λb1 e=>by cases e;exact⟨cm,bW hc.bT,bW hc.bV⟩) (by decide)).mono λv j ⟨W,x2⟩=>?_;rw[bK hm] at x2;obtain⟨Fr,R,y1,y2,y3,y4,y5,y6,y7,y8⟩:=x2;exact⟨W.gr,f.trans W,Fr,R,y4,y1,y2,y3,y7,y8,y5,λz G=>(y6 z G).imp (λh=>by have:=f.size;omega) (λh=>(Option.some.inj h).symm)⟩
  refine aQ 13 (λz=>z=xb) (by kernel_rfl) aA λd=>aE d bj aA (Xd.cK d rfl λw8 bk=>Xo.cJ Xb d rfl (bk.bP ax) rfl rfl ?_);have c8:=λw' (f:Xc Xf w8 w')=>cl w' (bk.trans f);refine Xd.callQ d rfl rfl (c8) ?_;rintro _ w9 du ⟨bm,Fr,R,rfl,bn,bo,co,cq,cr,cs,bp⟩;refine Xd.adv Xb d rfl (Xd.cK d rfl λdv a7=>Xo.store Xb d rfl ((bm.trans a7).bP ax) (by first|(intro h;exact rfl)|(intro h;omega)) rfl rfl rfl λct H x dd=>aF d aA λO n=>?_);replace H:ct.heap[xb]?=some (.cells (O1 c p g cap mb tm vb (.pointer (some ⟨A.ab,0,none⟩)) (Ci R) (.pointer none)).toArray 159 (0,0)):=H;have bq:¬Fr xb:=λG=>(bp xb G).elim (by omega) (by omega);have m:=bm.trans a7;have b9:=u.trans m;have ae:Xc Xf w O:=(b9.sn x).trans n;have br:Yw w R.c R.p:=by rw[bn,bo];exact hc
  have ay:Zm Fr O R (Ig c 0):=((cs.bQ a7).apart br ht (m.bP ax) (by omega) bq (by decide) x).bQ n;have c9:=((bi.bQ m).note x (by omega) (by omega) (by omega) (by omega)).bQ n;have az:=((ad.bQ m).bR x (λb' N e=>by
   rcases N with h|h|h|h
   .omega
   .omega
   .omega
   .rw[K] at h;have:=Option.some.inj h;omega)).bQ n
  have y:=n.bP H;have ca:=n.bP (x.heap (m.bP bj) bg);have cu:((X6 (c.bS*c.size).toNat).length:Int)=c.size*c.bS:=by
   rw[Gp,YP];exact QI (ZI (by have:=C.size;omega) (by have:=C.bS;omega))
  have cv:∀w',Xc Xf O w'->Xe prog 119 #[.agg (Zj c p).toArray,.pointer (some ⟨A.ab,0,none⟩),.pointer (some ⟨mb,0,none⟩)] w' (λv j=>Xc (λz=>z=xb) w' j/\Xc Xf O j/\∃vw,v=.tuple #[.pointer (some ⟨vw,0,none⟩),.int .i64 0]/\O.heap.size<=vw/\Bn j ⟨vw,c,p,A.ab,some mb⟩):=λw' f=>by
   have bs:=Xod c p A ⟨X6 (c.bS*c.size).toNat,0,0⟩ w' (hc.bR (ae.trans f)) (az.bQ f);rw[K] at bs;refine bs.mono λv j ⟨W,x2⟩=>?_;rw[bK ⟨hm,cu⟩] at x2;obtain⟨vw,y1,y2,y3⟩:=x2;exact⟨W.gr,f.trans W,vw,y1,by have:=f.size;omega,y3⟩
  refine aQ 17 (λz=>z=xb) (by kernel_rfl) aA λd=>aE d ca aA ?_;refine Xd.turn2 d rfl ?_ ?_
  all_goals
   intro dw a8;refine Xo.cJ Xb d rfl (a8.bP y) rfl rfl (Xd.cK d rfl λcw b0=>Xo.cJ Xb d rfl ((a8.trans b0).bP y) rfl rfl ?_);have cb:=λw' (f:Xc Xf cw w')=>cv w' ((a8.trans b0).trans f);refine Xd.callQ d rfl rfl (cb) ?_;rintro _ dx de ⟨b2,vw,rfl,dy,hV⟩;refine Xd.adv Xb d rfl (Xd.cK d rfl λdz a9=>Xo.store Xb d rfl ((b2.trans a9).bP y) (by first|(intro h;exact rfl)|(intro h;omega)) rfl rfl rfl λe0 ba B dg=>aF d aA λb3 o=>?_);have k:=b2.trans a9;have cc:=o.bP ba;have e4:=Xg y;have I:Xc Xf w b3:=((ae.trans k).sn B).trans o;have cd:Zm Fr b3 R (Ig c 0):=((ay.bQ k).apart br ht (k.bP y) (by omega) bq (by decide) B).bQ o;have ce:=((c9.bQ k).note B (by omega) (by omega) (by omega) (by omega)).bQ o;have cf:=((az.bQ k).bR B (λb' N e=>by
    rcases N with h|h|h|h
    .omega
    .omega
    .omega
    .rw[K] at h;have:=Option.some.inj h;omega)).bQ o
   have cg:Bn b3 ⟨vw,c,p,A.ab,some mb⟩:=⟨o.bP (B.heap (a9.bP hV.obj) (by simp only;omega)),hc.bR I,hm⟩;have cx:¬Fr vw:=λG=>by have:=ay.low vw G;omega
   obtain⟨F,cy,S,mo,eS,hS,cz,d0,d1⟩:=XnB (w7:=w7) hc ht I hm cc ce cf K cd bn bo co cq cr cg bp cx u.size (by omega) (by omega) (by omega) (by omega) (by omega) (by omega) (by omega);exact bE func64 aA ⟨F,cy,S,mo,by rw[eS],hS,cz,d0,d1,I⟩
structure Xc6(n:Nat)(S:Sto):Prop where
 ab:S.A.ab<n
 mc:S.A.mc<n
 vb:S.v.vb<n
 rb:S.R.rb<n
 sb:S.R.sb<n
 tab:1<n
 ca:∀b off s,S.p.ca=some ⟨b,off,s⟩->b<n
 ka:∀b off s,S.p.ka=some ⟨b,off,s⟩->b<n
section
variable {F Fr:Nat->Prop}{w w':dD}{S:Sto}{s:StM}{by':Int}{mo:Mo}
theorem Xs.fixed(h:Xs F Fr w S s by' mo):Xc6 w.heap.size S:=by
 have a:=h.cW;have c:=Z4 a.may;have d:=h.rc;rw[d] at c;exact⟨Xg h.ar.obj,Xg h.ar.cap,Xg h.vw.obj,Xg a.obj,World.block_lt_of_cell? w _ (a.sl 0 (by have:=c.n;have:=a.ok.n;rw[d] at this;omega)),World.block_lt_of_cell? w _ (a.tab 0 (by decide)),
  λb off s e=>h.ca.1.block (by have:=c.n;omega) e,λb off s e=>h.ka.1.block (by have:=c.bV;have:=c.n;omega) e⟩
theorem Xs.one(h:Xs F Fr w S s by' mo)(he:Wv F w S b)(hc:Xc (λz=>z=b) w w'):Xs F Fr w' S s by' mo:=by
 refine h.other hc (λz e=>e▸he) ?_;obtain⟨t,g,ht⟩:=he.kd;intro al d k sz q c;obtain⟨v,i,x,j,l⟩:=h.th;have:=i.uniq d;subst this;by_cases a:∀(o:Nat) t,s.th[o]?=some (some t)->(o:Int)≠k
 .rw[l k a] at c;cases c
 .simp only[Classical.not_forall,YK] at a;obtain⟨o,m,n,p⟩:=a;obtain⟨y,_,f,_,_,r⟩:=j o m n;rw[p,c] at f;rw[(Xcx (Option.some.inj f))];intro b' off s' e' u;have:=r b' off s' e';rw[u,g] at this;exact ht.2.2 (Option.some.inj (Option.some.inj this))
theorem Xs.old(h:Xs F Fr w S s by' mo){l:List dE}(hb:w.heap[b]?=some (.cells (v::l).toArray t fz))(hF:¬F b)(ht:(t≠352/\t≠348/\t≠3)/\t≠242/\t≠152/\t≠226/\t≠221)(hv:∀x,v≠Cj x)(htab:1≠b)(hca:∀off s,S.p.ca≠some ⟨b,off,s⟩)(hka:∀off s,S.p.ka≠some ⟨b,off,s⟩)(hc:Xc (λz=>z=b) w w'):Xs F Fr w' S s by' mo:=by
 have c:=h.cW;have d:=X0 hb;have ne:∀{a t':Nat},kd w a=some (some t')->t≠t'->a≠b:=λi g=>Xr i d (λe=>g (Option.some.inj (Option.some.inj e)).symm);have f:=c.sl 0 (by have:=(Z4 c.may).n;have:=c.ok.n;omega);refine h.one ⟨hF,⟨ne (X0 h.ar.obj) ht.2.1,ne (X0 h.ar.cap) ht.2.2.1,ne (X0 h.vw.obj) ht.2.2.2.1,ne (X0 c.obj) ht.2.2.2.2,λe=>?_,htab⟩,hca,hka,t,d,ht.1⟩ hc;rw[e,Ys hb] at f;exact hv _ (Option.some.inj f)
end
structure Lv(c:Conf)(n0:Nat)(w0 w:dD)(F:Nat->Prop)(S:Sto)(s:StM):Prop where
 ok:∃Fr mo,Xs F Fr w S s (Zl s) mo
 inv:s.Ok c
 sc:S.c=c
 fx:Xc6 n0 S
 base:∀z,F z->w0.heap.size<=z
 bR:Xc Xf w0 w
def Kd(c:Conf)(n0:Nat)(w0 w:dD)(F:Nat->Prop)(S:Sto)(s:StM)(w':dD):Prop:=∃F',Lv c n0 w0 w' F' S s/\(∀z,F' z->F z\/w.heap.size<=z)/\Xc F w w'
section
variable {c:Conf}{n0:Nat}{w0 w w':dD}{F:Nat->Prop}{S:Sto}{s s':StM}
theorem Lv.low(h:Lv c n0 w0 w F S s):∀z,F z->z<w.heap.size:=by obtain⟨_,_,a⟩:=h.ok;exact a.low
theorem Lv.bQ(h:Lv c n0 w0 w F S s)(hc:Xc Xf w w'):Lv c n0 w0 w' F S s:=by
 obtain⟨Fr,mo,a⟩:=h.ok;exact {h with ok:=⟨Fr,mo,a.bQ hc⟩,bR:=h.bR.trans hc}
theorem Lv.to(h:Lv c n0 w0 w F S s)(ht:Ee F w w' S s' (Zl s'))(hi:s'.Ok c):Kd c n0 w0 w F S s' w':=by
 obtain⟨F',Fr',mo',f,a,b⟩:=ht;have i:=h.bR.size;exact⟨F',⟨⟨Fr',mo',f⟩,hi,h.sc,h.fx,λz d=>(a z d).elim (h.base z) (λg=>by omega),h.bR.bU b (λz d e=>by have:=h.base z e;omega)⟩,a,b⟩
end
theorem Rd.keepI{q:Nat}{c:Array dE}(hr:Rd .i64 w a l)(hq:w.heap[q]?=some (.cells c t fz))(hc:∀x∈c.toList,∀z,x≠.int .i64 z)(hs:Xc (λb=>b=q) w w'):Rd .i64 w' a l:=λj f=>by
 obtain⟨b,off,e,d⟩:=hr j f;refine⟨b,off,e,hs.cell d (λg=>?_)⟩;subst g;rw[Ys hq] at d;exact hc _ (Array.mem_toList_iff.2 (Array.mem_of_getElem? d)) _ rfl
theorem Ap.bV{r:RP}{pl:PlM}(h:Ap w r pl){q:Nat}{c:Array dE}(hq:w.heap[q]?=some (.cells c t fz))(hc:∀x∈c.toList,∀z,x≠.int .i64 z)(hs:Xc (λb=>b=q) w w'):Ap w' r pl:=
 ⟨⟨⟨h.o.ok.rd.keepI hq hc hs,h.o.ok.len⟩,h.o.cap,h.o.lt.bQ hs.size⟩,⟨⟨h.f.ok.rd.keepI hq hc hs,h.f.ok.len⟩,h.f.cap,h.f.lt.bQ hs.size⟩,h.eo,h.ef⟩
theorem Xl3(r:RR)(M:RmM)(q:Plc)(w:dD)(h:Qd w r M)(hm:Jo M)(hMok:M.Ok r.c)(ht:0<=M.tot/\M.tot<=4611686018427000000)(hq:Zo w q):Xe prog 210 #[.agg (A6 r).toArray,.agg (Xv q).toArray] w
 (λv w'=>∃r',v=.tuple #[.agg (A6 r').toArray,.int .i64 (Hx M (Xy q))]/\Qd w' r' (Qc M (Xy q))/\A4 w r r'/\Xc Xf w w'):=by
 have e8:maxLen=9223372036854775807:=rfl;have e9:=h.lm;refine aR func210 ntmps210 aA (bC aA λrb w1 e1 cw cx ea=>bC aA λpb w2 e2 cy bv eb=>bC aA λob w3 e3 av aw ec=>?_);have a0:=(cx.trans bv).trans aw;have ax:=aw.bP (bv.bP cw);have I:=aw.bP cy;refine bB I aA ?_;by_cases g0:0<=q.cL
 .have eD:Hx M (Xy q)=J4 M q.cL q.cR q.idx/\Qc M (Xy q)=Q1 M q.cL q.cR q.idx:=by
   unfold Hx Qc Xy;exact⟨bK (by simp only;omega),bK (by simp only;omega)⟩
  rw[eD.1,eD.2];refine bI aA (bB ax aA (bB I aA (bB I aA (bB I aA (aP aA (XfW r M q.cL q.cR q.idx w3 (h.bQ a0) hm ht) ?_)))));rintro _ w4 ⟨r',rfl,hR,hK,k⟩;refine aN aA ?_;refine bF (k.bP av) aA λw5 af an bw=>?_;have ao:C8 (λz=>z=ob) r':=hK.out h (λz a=>by omega) (λz a=>by omega);exact aK func210 af aA ⟨r',rfl,hR.bW ao an,hK.dC a0.size,((a0.trans k).sn an)⟩
 .refine aS aA ?_;refine Xa.loop (α:=Nat×dE) (λx=>[(2,false,.pointer (some ⟨rb,0,none⟩)),(3,false,.pointer (some ⟨pb,0,none⟩)),(4,false,.pointer (some ⟨ob,0,none⟩)),(6,false,x.2),(7,false,.bool ((r.lg.take x.1).any (Ce q))),(8,false,.int .i64 x.1)])
   (λx w'=>x.1<=r.lg.length/\Xl w3.heap.size 83 4 w' x.2 (Dp q (r.lg.take x.1)).length (fl Xv (Dp q (r.lg.take x.1)))/\Xc Xf w3 w') (λx=>r.lg.length-x.1) (0,.slice none 0 0) ⟨rfl,rfl,rfl,rfl,rfl,rfl,trivial⟩ ⟨XP _,⟨rfl,.inl ⟨rfl,rfl⟩⟩,Xc.refl _ _⟩ ?_
  rintro⟨i,v⟩ w4 ⟨hi,U,k⟩ ih;simp only at hi U
  have D:=k.bP ax;have J:=k.bP I;have o:=a0.trans k;refine aN aA (bB D aA (aT aA (λaz=>?_) λaz=>?_))
  .have c:i<r.lg.length:=by have:=bL az;omega
   obtain⟨lb,loff,cz,H⟩:=(h.lr.bR o) i r.lg[i] (XD c);have d0:(Dp q (r.lg.take i)).length<=i:=by
    have h1:(Dp q (r.lg.take i)).length<=(r.lg.take i).length:=List.length_filter_le _ _;rw[XX] at h1;omega
   have bx:=(h.lgo r.lg[i] (XM c)).1;by_cases K:q.cL=-1
   .refine aQ 12 Xf (by kernel_rfl) aA λf=>aE f J aA (Xd.yes Xb f rfl (by rw[K];rfl) rfl (aE f D aA ?_));rw[cz];have hd:∀w',Xc Xf w4 w'->Xe prog 259 #[.agg (Xv r.lg[i]).toArray,.agg #[.int .i64 q.cL,.int .i64 q.cR,.int .i64 q.idx,.slice q.pa q.bS.length q.pc]] w' (Grow (.bool (J7 r.lg[i] q)) w'):=λw' F=>Xl9 r.lg[i] q w' ((bx.rd.bR o).bR F) ((hq.rd.bR o).bR F) bx.len;refine aB (i*4) f aA (Xd.loadC Xb f (Xv r.lg[i]) rfl (by first|rfl|(simp;done)|(simp[*];done)|(simp;omega)) (H) (by first|exact λh=>h|(intro h;omega)|assumption) rfl (aE f J aA (aG f (λw' F=>hd w' F) aA (aF f aA λw5 d=>?_))));by_cases hs:J7 r.lg[i] q=true
    .have b0:Ce q r.lg[i]=true:=by unfold Ce;rw[bN K,hs];rfl
     refine bI aA (aV aA ?_);exact ih (i+1,v) _ _ ⟨c,by
      rw[XaZ c,bK b0,QD];exact U.bR d (λ_ _ h=>h),k.trans d⟩ (by simp only;omega) ⟨rfl,rfl,rfl,rfl,congrArg (λb=>some (Value.bool b)) (show true=(r.lg.take (i+1)).any (Ce q) from by rw[W9 c,b0,Bool.or_true]),rfl,trivial⟩
    .have bz:J7 r.lg[i] q=false:=by simpa using hs
     have a9:Ce q r.lg[i]=false:=by unfold Ce;rw[bz,YD]
     refine aI aA bz ?_;obtain⟨mb,moff,b1,L⟩:=(h.lr.bR (o.trans d)) i r.lg[i] (XD c);refine bB (d.bP D) aA ?_;rw[b1];refine aU (i*4) aA (Xa.loadC Xb (Xv r.lg[i]) rfl (by first|rfl|(simp;done)|(simp[*];done)|(simp;omega)) (L) rfl (Xa.buildSlice Xb rfl λb6 w6 e6 b2 aa d2=>aN aA ?_));have G:=(U.bR d (λ_ _ h=>h)).bR aa (λ_ _ h=>h);have N:=(k.trans d).trans aa;refine Xa.appendA (base:=w3.heap.size) (xs:=fl Xv (Dp q (r.lg.take i))) (news:=Xv r.lg[i]) Xb rfl G N.size (λe=>by cases e) rfl (P4 b2) (O7 _) ⟨by omega,by show((Dp q (r.lg.take i)).length+1)*48<=_;omega⟩ λv7 w7 b3 b4 d3=>aN aA (aV aA ?_);exact ih (i+1,v7) _ _ ⟨c,by
      rw[XaZ c,bJ (by rw[a9];decide),ZC,Oi,Rh];exact b3,G.bU N (XF _) b4⟩ (by simp only;omega) ⟨rfl,rfl,rfl,rfl,congrArg (λb=>some (Value.bool b)) (show(r.lg.take i).any (Ce q)=(r.lg.take (i+1)).any (Ce q) from by rw[W9 c,a9,Bool.or_false]),rfl,trivial⟩
   .have a9:Ce q r.lg[i]=false:=by unfold Ce;rw[bO K,Y2]
    refine aQ 12 Xf (by kernel_rfl) aA λf=>aE f J aA (Xd.no Xb f rfl (by simpa using K) rfl (aF f aA λw5 d=>?_));obtain⟨mb,moff,b1,L⟩:=(h.lr.bR (o.trans d)) i r.lg[i] (XD c);refine bB (d.bP D) aA ?_;rw[b1];refine aU (i*4) aA (Xa.loadC Xb (Xv r.lg[i]) rfl (by first|rfl|(simp;done)|(simp[*];done)|(simp;omega)) (L) rfl (Xa.buildSlice Xb rfl λb6 w6 e6 b2 aa d2=>aN aA ?_));have G:=(U.bR d (λ_ _ h=>h)).bR aa (λ_ _ h=>h);have N:=(k.trans d).trans aa;refine Xa.appendA (base:=w3.heap.size) (xs:=fl Xv (Dp q (r.lg.take i))) (news:=Xv r.lg[i]) Xb rfl G N.size (λe=>by cases e) rfl (P4 b2) (O7 _) ⟨by omega,by show((Dp q (r.lg.take i)).length+1)*48<=_;omega⟩ λv7 w7 b3 b4 d3=>aN aA (aV aA ?_);exact ih (i+1,v7) _ _ ⟨c,by
     rw[XaZ c,bJ (by rw[a9];decide),ZC,Oi,Rh];exact b3,G.bU N (XF _) b4⟩ (by simp only;omega) ⟨rfl,rfl,rfl,rfl,congrArg (λb=>some (Value.bool b)) (show(r.lg.take i).any (Ce q)=(r.lg.take (i+1)).any (Ce q) from by rw[W9 c,a9,Bool.or_false]),rfl,trivial⟩
  .have d4:i=r.lg.length:=by have:=bM az;omega
   subst d4;rw[ZL] at U⊢;have bt:(r.lg.any (Ce q)=false/\Hx M (Xy q)=1/\Qc M (Xy q)=M)\/∃n rr,(n,rr)∈M.lg/\r.lg.any (Ce q)=true/\Hx M (Xy q)=0/\Qc M (Xy q)=Im M n rr/\q.cR=(n:Nat)/\X4 rr=q.bS/\(Dp q r.lg).map Xy=(Dq M.lg n).map lgP:=by
    by_cases K:q.cL=-1
    .obtain⟨i1,i2⟩:=XjA h.lge K;have eE:Hx M (Xy q)=(match Dc M.lg q.cR with|none=>1|some r=>if X4 r=q.bS then 0 else 1):=by unfold Hx Xy;exact bJ (λh=>h K)
     have eM:Qc M (Xy q)=(match Dc M.lg q.cR with|none=>M|some r=>if X4 r=q.bS then Im M q.cR.toNat r else M):=by unfold Qc Xy;exact bJ (λh=>h K)
     cases hg:Dc M.lg q.cR with
     |none=>
      rw[hg] at eE eM;exact .inl ⟨by rw[i1];exact Xez (λr hr=>by rw[hg] at hr;cases hr) hMok.nd,eE,eM⟩
     |some rr=>
      rw[hg] at eE eM;simp only at eE eM
      obtain⟨n,hn,O⟩:=Ox hg;by_cases hp:X4 rr=q.bS
      .rw[bK hp] at eE eM;obtain⟨j1,j2⟩:=XjB hMok.nd O hn hp;exact .inr ⟨n,rr,O,by rw[i1];exact j1,eE,by rw[eM,hn,XB],hn,hp,by rw[i2,j2]⟩
      .rw[bJ hp] at eE eM;exact .inl ⟨by rw[i1];exact Xez (λr hr=>by rw[hg] at hr;cases hr;exact hp) hMok.nd,eE,eM⟩
    .have c0:Zp M q.cL=none:=Si (.inl (by omega));refine .inl ⟨?_,?_,?_⟩
     .rw[QG];intro x _;unfold Ce;rw[bO K]
      simp
     .unfold Hx Xy;refine(bK K).trans ?_;unfold J4;rw[c0]
     .unfold Qc Xy;refine(bK K).trans ?_;unfold Q1;rw[c0]
   rcases bt with⟨hf,hE,hM⟩|⟨n,rr,O,hf,hE,hM,d5,c1,d6⟩
   .rw[hE,hM];refine aM aA (by rw[hf];rfl) (bB D aA ?_);refine bF (k.bP av) aA λw5 af an bw=>?_;have hc:=o.sn an;exact aK func210 af aA ⟨r,rfl,h.bQ hc,A4.refl w r,hc⟩
   .rw[hE,hM];have V:(n::rr).Nodup:=by
     obtain⟨A,C,eA,_⟩:=Ow hMok.nd O;have e:Y5 M.lg=Y5 A++((n::rr)++Y5 C):=by rw[eA,Kq];rfl
     have V:=hMok.nd;rw[e] at V;exact(XR.1 (XR.1 V).2.1).1
    have P:∀m∈n::rr,m<M.pl.own.length/\M.pl.own.getD m 0=(M.shs.length:Int):=λm u=>hMok.lg m (I5 O u);have ed:rr.length<=1024:=by
     obtain⟨_,_,p3,_⟩:=O6 (l:=n::rr) hm.cV V (λm u=>⟨(P m u).1,by have:=(P m u).2;omega⟩);have:=Or hm.cV;simp only[XN] at p3;omega
    have d8:q.bS.length=rr.length:=by rw[<-c1,En]
    refine aI aA (by rw[hf];rfl) (bB J aA (Xa.buildSlice Xb rfl λb5 w5 e5 d9 d bw=>aN aA ?_));have c2:Xl w4.heap.size 3 1 w5 (.slice (some ⟨b5,0,none⟩) 1 1) 1 [.int .i64 q.cR]:=Xl.one (by omega) d9;have b9:=o.trans d;refine bB (d.bP J) aA (Xa.appendA (base:=w4.heap.size) (xs:=[.int .i64 q.cR]) (news:=q.bS.map (Value.int .i64)) Xb rfl c2 d.size (hq.rd.bR b9).noneA (by simp) (hq.rd.bR b9).cellsA Jb ⟨by omega,by show(1+q.bS.length)*8<=_;omega⟩ λv6 w6 G da ee=>?_);have E:=c2.bU d (XF _) da;have eall : [.int .i64 q.cR]++q.bS.map (Value.int .i64)=(X4 (n::rr)).map (Value.int .i64):=by rw[<-c1,d5];rfl
    rw[eall] at G;obtain⟨g,gc,rfl,ef,eh,ei,ej,db⟩:=Xbm (l:=n::rr) G (by simp only[XN];omega) (by omega);refine aN aA ?_;have ba:=o.trans E;have du:=E.size;have dv:=k.size;obtain⟨B,bb⟩:∃B:Nat->Prop,B=λz=>z=rb\/z=ob:=⟨_,rfl⟩;have a6:∀z,B z->w.heap.size<=z/\z<w3.heap.size:=λz a=>by rw[bb] at a;rcases a with e|e <;> omega
    have c3:=h.out (S:=B) (λz a=>(a6 z a).1);obtain⟨la,lcap,rfl,ck,cl,cm,ap⟩:=Xl.rowsN U Lo rfl;refine Xa.loop (α:=Nat×RP) (λx=>[(2,false,.pointer (some ⟨rb,0,none⟩)),(4,false,.pointer (some ⟨ob,0,none⟩)),(6,false,.slice la (Dp q r.lg).length lcap),(9,false,.slice (some ⟨g,0,none⟩) (1+q.bS.length) gc),(10,false,.int .i64 x.1)])
     (λx w'=>x.1<=rr.length+1/\Yn w' rb {r with p:=x.2}/\Ap w' x.2 (Ay M.pl ((n::rr).take x.1))/\Xj B x.2.o.a/\Xj B x.2.f.a/\(∀S:Nat->Prop,(∀z,S z->z<w.heap.size)->Xj S r.p.o.a->Xj S r.p.f.a->Xj S x.2.o.a/\Xj S x.2.f.a)/\Xc (λz=>z=rb) w6 w') (λx=>rr.length+1-x.1) (0,r.p) ⟨rfl,rfl,rfl,rfl,rfl,trivial⟩
     ⟨XP _,(E.bP D),h.p.bQ ba,c3.o,c3.f,λS _ h1 h2=>⟨h1,h2⟩,Xc.refl _ _⟩ ?_
    rintro⟨j,rp⟩ w7 ⟨hj,bc,Q,c4,c5,bd,W⟩ dd;simp only at hj bc Q c4 c5 bd
    have dx:=W.size;have ah:=ba.sn W;have ab:B rb:=by rw[bb];exact .inl rfl
    have de:B ob:=by rw[bb];exact .inr rfl
    have a7:=bc;refine aN aA (aT aA (λai=>?_) λai=>?_)
    .have c:j<rr.length+1:=by have:=bL ai;omega
     have R:=c;have T:∀m∈(n::rr).take j,m∈n::rr:=λm u=>XY u;obtain⟨p1,p2,p3,p4⟩:=O6 (l:=(n::rr).take j) hm.cV (V.sublist (List.take_sublist _ _)) (λm u=>⟨(P m (T m u)).1,by have:=(P m (T m u)).2;omega⟩);have cn:(n::rr)[j]∉(n::rr).take j:=λdf=>by
      obtain⟨i,hi,e⟩:=QT df;rw[List.getElem_take] at e;rw[XX] at hi;exact(List.pairwise_iff_getElem.1 V i j (by omega) R (by omega)) e
     obtain⟨o1,o2⟩:=P _ (XM R);have ao:(n::rr)[j]<(Ay M.pl ((n::rr).take j)).own.length:=by omega
     have c6:(Ay M.pl ((n::rr).take j)).own.getD (n::rr)[j] 0≠-1:=by rw[p4,bJ cn];omega
     obtain⟨_,eg⟩:=XfA ao c6;have estep:Ay M.pl ((n::rr).take (j+1))=(Ay M.pl ((n::rr).take j)).give (n::rr)[j]:=by
      rw[<-eg,ZH,XD R];unfold Ay;rw[List.foldl_append];rfl
     obtain⟨b',off',e',H⟩:=(db.bW (S:=λz=>z=rb) (λb' off s e a=>by cases e;omega) W) j (by rw[En];exact R);cases e'
     have ev:(X4 (n::rr)).getD j 0=((n::rr)[j]:Int):=by
      unfold X4;rw[XA,XO,XD R];rfl
     rw[ev] at H;have hd:∀w',Xc Xf w7 w'->Xe prog 260 #[.agg #[Xq rp.o,Xq rp.f],.int .i64 ((n::rr)[j]:Nat)] w' (λv w2=>Xc Xf w' w2/\∃x:RP,v=Value.tuple #[.agg (De x).toArray,.int .i64 0]/\(Ap w2 x (Ay M.pl ((n::rr).take (j+1)))/\Bd w7 x.o.a/\Bd w7 x.f.a)):=λw' F=>by
      have hd:=XfO rp (n::rr)[j] _ w' (Q.bQ F) p1 ao c6;rw[<-estep] at hd;exact hd.mono λv w2 ⟨x,a1,a2,a3,a4,a5⟩=>⟨a5,x,a1,a2,a3.dC F.size,a4.dC F.size⟩
     refine aQ 12 Xf (by kernel_rfl) aA λf=>aE f a7 aA (aB j f aA (aD f H aA (Xd.callAlloc (λx:RP=>Value.tuple #[.agg (De x).toArray,.int .i64 0]) (λ(x:RP) (w2:dD)=>Ap w2 x (Ay M.pl ((n::rr).take (j+1)))/\Bd w7 x.o.a/\Bd w7 x.f.a) Xb f rfl rfl rfl (λ_=>rfl) rfl (λ_=>rfl) (λ_=>rfl) rfl rfl (λ_ _=>rfl) rfl (λ_ _=>rfl) (hd) (λx w2 w3 ⟨a1,a2,a3⟩ hc=>⟨a1.bQ hc,a2,a3⟩) (λ_ h=>h.elim) ?_)));rintro nb x w8 ek c7 dh ⟨di,c8,c9⟩;refine Xd.cK f rfl λw9 be=>Xo.store Xb f rfl (be.bP c7) (by first|(intro h;exact rfl)|(intro h;omega)) rfl rfl rfl λwa cr ac dk=>?_;refine aF f aA λwb bf=>?_;have bg:=((dh.trans be).sn ac).trans bf;refine bB (bf.bP cr) aA (bF (bg.bP a7) aA λwc cs bh el=>?_);have ca:=c8.out (λz a=>by have:=(a6 z a).2;omega);have cb:=c9.out (λz a=>by have:=(a6 z a).2;omega);have aq:=di.bV c7 (by intro y hy z e;subst e;simp[Yz] at hy) ((be.gr.trans ac).trans bf.gr);have dl:Ap wc x (Ay M.pl ((n::rr).take (j+1))):=⟨aq.o.bW (ca.mono (λz e=>by subst e;exact ab)) bh,aq.f.bW (cb.mono (λz e=>by subst e;exact ab)) bh,aq.eo,aq.ef⟩;exact aV aA (dd (j+1,x) _ _ ⟨c,cs,dl,ca,cb,λS hS h1 h2=>⟨c8.out (λz a=>by have:=hS z a;have:=ah.size;omega),c9.out (λz a=>by have:=hS z a;have:=ah.size;omega)⟩,(W.trans bg.gr).trans bh⟩ (by simp only;omega) ⟨rfl,rfl,rfl,rfl,rfl,trivial⟩)
    .have ct:j=rr.length+1:=by have:=bM ai;omega
     subst ct;have etk:(n::rr).take (rr.length+1)=n::rr:=ZL (l:=n::rr);rw[etk] at Q;have em:=h.st;obtain⟨t,bi⟩:∃t,t=Xw M.tot ((rr.length+1:Int)*4+rr.length):=⟨_,rfl⟩;have dm:r.cM+4*(((1+q.bS.length:Nat)):Int)+((1+q.bS.length:Nat):Int)-1=t:=by
      rw[bi,d8];unfold Xw;rw[bJ (by omega)];omega
     refine bF a7 aA λw8 a8 bj en=>?_;replace a8:w8.heap[rb]?=some (.cells (Zj r.c r.cp++[Xq rp.o,Xq rp.f,.slice r.sa r.ss.length r.scap,.slice la (Dp q r.lg).length lcap,.int .i64 r.cM]).toArray 38 (0,0)):=a8;refine bB a8 aA (aV aA ?_);refine Xa.arith Xb rfl (w64 (by omega)) rfl ?_;refine aV aA (aV aA ?_);rw[dm];obtain⟨r',bk⟩:∃r':RR,r'={r with p:=rp,lg:=Dp q r.lg,la:=la,lcap:=lcap,cM:=t}:=⟨_,rfl⟩;refine bF a8 aA λw9 aj bm eo=>?_;replace aj:Yn w9 rb r':=by rw[bk];exact aj
     refine bB aj aA ?_;refine bF (bm.heap (bj.heap (W.heap (E.bP (k.bP av)) (by omega)) (by omega)) (by omega)) aA λwa cu ac dk=>?_;have bn:=((ah.sn bj).sn bm).sn ac;have ak:=((bj.mono λ_ _ e=>e▸ab).trans (bm.mono λ_ _ e=>e▸ab)).trans (ac.mono λ_ _ e=>e▸de);have bo:=(W.mono λ_ _ e=>e▸ab).trans ak;have cv:Xj B la:=λb off s e a=>by have:=ap b off s e;have:=(a6 b a).2;omega
     have d0:(Dp q r.lg).length<=r.lg.length:=List.length_filter_le _ _;have T:∀q'∈Dp q r.lg,q'∈r.lg:=λq' h=>(QW.1 h).1;have h':=h.bQ bn;have hR:Qd wa r' (Im M n rr):=by
      rw[bk];exact⟨⟨Q.o.bW c4 ak,Q.f.bW c5 ak,Q.eo,Q.ef⟩,h'.sr,h'.sl,h'.sc,h'.n,h'.few,h'.cI,(ck.bR E).bW cv bo,(cl.bQ E.size).bQ bo.size,cm,by show(Dp q r.lg).length<=1024;omega,d6,λq' bp=>h'.lgo q' (T q' bp),bi⟩
     have hK:A4 w r r':=by
      rw[bk];exact⟨rfl,rfl,λS hS ho=>⟨(bd S hS ho.o ho.f).1,(bd S hS ho.o ho.f).2,ho.sa,ho.cI,λb off s e a=>by have:=ap b off s e;have:=hS b a;omega,λq' bp=>ho.lgo q' (T q' bp)⟩⟩
     exact aK func210 cu aA ⟨r',rfl,hR,hK,bn⟩
end Go.Proofs.YtdeihcnepljjaaaGreatDoor
