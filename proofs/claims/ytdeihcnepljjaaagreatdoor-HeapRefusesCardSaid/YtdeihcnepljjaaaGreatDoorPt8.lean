/-
  Texts put together: Sto5, Sto6, Sto7, Sto8, StBy, Sto9, Sto10, Sto11, Sto12, Sto13, Sto14, Sto15, Ref20j.
-/
import Derived.Test.YtdeihcnepljjaaaGreatDoorPt7
import Derived.Test.YtdeihcnepljjaaaGreatDoorQRule25
import Derived.Test.YtdeihcnepljjaaaGreatDoorQRule22
import Derived.Test.YtdeihcnepljjaaaGreatDoorQRule23
set_option linter.unusedVariables false
set_option maxRecDepth 100000
namespace Go.Proofs.YtdeihcnepljjaaaGreatDoor
open Go.RowKit
open Go renaming World→dD,Value→dE
open Bool renaming and_eq_true->XK,and_false->YE,true_and->YJ,false_and->YZ
open Decidable renaming not_not->YL
open Int renaming toNat_natCast->XB,eq_ofNat_of_zero_le->XE,mul_le_mul->ZG,mul_nonneg->ZJ,mul_comm->YQ,toNat_of_nonneg->QG,add_mul->QL,one_mul->QM
open List renaming getD_eq_getElem?_getD->XA,getElem?_eq_some_iff->XC,getElem?_eq_getElem->XD,length_set->XG,getElem?_set_self->XH,length_replicate->XI,getElem?_set_ne->XJ,getElem_mem->XM,getElem?_map->XN,length_cons->XO,mem_map->XP,nodup_append->XR,length_map->XV,mem_of_getElem?->XW,length_take->XX,take_append_drop->XY,getElem?_append_left->XZ,mem_of_mem_take->ZA,length_append->ZC,take_add_one->ZH,take_length->ZL,length_range->ZM,mem_cons_self->ZP,nil_append->ZS,flatMap_cons->ZY,map_set->ZZ,mem_cons_of_mem->YC,replicate_succ->YF,getElem?_toArray->YW,nodup_nil->YX,mem_replicate->Y2,ext_getElem?->QD,any_eq_false->QE,sum_cons->QF,append_nil->QP,getElem_of_mem->QU,mem_filter->QX
open Nat renaming le_refl->XF,zero_le->XQ,zero_add->XT,mul_one->ZQ,add_assoc->YR
open Option renaming map_eq_some_iff->QK
open Go.Proofs.Tryz (func103 func104 func110 func113 func115 func124 func129 func130 func197 func210 func53 func56 func61 func63 func64 func70 func71 func78 func79 ntmps103 ntmps104 ntmps110 ntmps113 ntmps115 ntmps124 ntmps129 ntmps130 ntmps197 ntmps210 ntmps53 ntmps56 ntmps61 ntmps63 ntmps64 ntmps70 ntmps71 ntmps78 ntmps79 prog)
variable {A:Ar}{V:ArV}{c:Conf}{l':IL}{ahead by' cS h cH size cN u who z:Int}{lg:List (Nat×List Nat)}{th:List (Option ThM)}{ps:List IL}{bs l p zs:List Int}{l2 ws:List Nat}{cs rest xs:List dE}{mo:Mo}{N at' b base cap d fuel g i j k lm lo m n o qb sz t tm ty vb xb y:Nat}{fz:Nat×Nat}{f:Nat->Int}{G:Nat->Pg}{B C F F' Fr Q S S' T X:Nat->Prop}{pd pd2:Option (Nat×PlcM)}{a:Option Addr}{pg:PgL}{pl':PlM}{q:Plc}{R:Rm}{M:RmM}{x x':Sm}{s s':StM}{α:Type}{v:dE}{w w' w'' w0 w1 w2:dD}{cells:α->List dE}
theorem XkY(cG bV:Int)(w:dD)(ho:0<=cG/\cG<=4611686018427387904)(hk:0<=bV/\bV<=4611686018427387904):Xf prog 197 #[.int .i64 cG,.int .i64 bV] w (X5 (.bool (Hp cG bV)) w):=by
 refine aR func197 ntmps197 aA (aT aA (λa=>?_) λa=>?_)
 .have b:=bL a;refine Xa.arith Xb rfl (XcW (by omega)) rfl (Xa.arith Xb rfl (XcW (by omega)) rfl (Xa.arith Xb rfl (XcW (by omega)) rfl ?_));have e:Hp cG bV=decide (cG-bV>1):=by
   unfold Hp;rw[bN (by omega),YJ];exact decide_eq_decide.2 (by omega)
  rw[e];exact bE func197 aA ⟨rfl,rfl⟩
 .have b:=bM a;have e:Hp cG bV=false:=by unfold Hp;rw[bO (by omega),YZ]
  rw[e];exact bE func197 aA ⟨rfl,rfl⟩
section
variable {F Fr:Nat->Prop}{w w':dD}{S:Sto}{s:StM}{by':Int}{mo:Mo}{pd:Option (Nat×PlcM)}
theorem Xq.kcell(h:Xq F Fr w S s by' mo)(hk:k<s.bV.length):w.cell? ⟨S.kb,0+k,none⟩=some (.int .i64 (s.bV.getD k 0)):=by
 refine(Ys h.kee).trans ?_;rw[XT,YW,XZ (by rw[XV];exact hk),XN,XD hk,XA,XD hk];rfl
theorem XjG(hs:s.OkP S.c pd)(hk:k<s.bV.length):0<=s.bV.getD k 0/\s.bV.getD k 0<=1024:=by
 rw[XA,XD hk];exact hs.kr _ (XM hk)
theorem Xkz(hs:s.OkP S.c pd)(k:Int):Qq s.rm k<=1024:=by
 unfold Qq;cases a:Zq s.rm k with
 |none=>simp
 |some x=>
  obtain⟨j,rfl,c,b⟩:=Hc a;exact((hs.rm.cU.sh j x b).1.few).2.1
theorem Ru{y:Option (Nat×MvM)}(hk:k<mo.length):Z4 (fl Ep mo) (0+k*6) (Ep y)=some (fl Ep (mo.set k y)):=by
 have:=Rh (cells:=Ep) Xe7 (xs:=mo) (k:=k) (y:=y) (rest:=[]) hk
 simpa using this
theorem J2(a b c:Int):Zp w ⟨a,b,c,none,0,[]⟩:=⟨Rd.nil _ _ _,by simp⟩
end
theorem XgY{F Fr:Nat->Prop}{w:dD}{S:Sto}{s:StM}{by':Int}{mo:Mo}(h:Xq F Fr w S s by' mo)(hs:s.Ok S.c)(k:Nat)(hk:k<s.mv.length):Xf prog 129 #[Yq S,.int .i64 (k:Nat)] w (λ_ w'=>Ek F w w' S (Yw S.c s k) by'):=by
 obtain⟨f1,f2,f3⟩:=OkP.few hs;have V:k<s.bV.length:=by omega
 have ao:k<S.c.bT.length:=by have:=hs.ml;omega
 have bt:=XjG hs V;have bu:=Xkz hs (k:Nat);have no:∀{w'},Xc Xe w w'->Br s k=false->Ek F w w' S (Yw S.c s k) by':=λ{w'} Q i=>by
  unfold Yw;rw[i];exact .of (h.bQ Q) Q.gr
 refine aR func129 ntmps129 aA ?_;cases hm:(Xy s (k:Nat)).isSome with
 |true=>
  have i:Br s k=false:=by
   unfold Br;cases hx:Xy s (k:Nat) with
   |none=>rw[hx] at hm;cases hm
   |some x=>rfl
  exact aQ 17 Xe (by kernel_rfl) aA λa=>aH a (λw' c=>Lt (h.bQ c) hs (k:Nat)) aA (Xd.yes Xb a rfl hm rfl (aF a aA λw1 d=>bE func129 aA (no d i)))
 |false=>
  have aq:(Xy s (k:Nat)).isNone=true:=by
   cases hx:Xy s (k:Nat) with
   |none=>rfl
   |some x=>rw[hx] at hm;cases hm
  refine aQ 17 Xe (by kernel_rfl) aA λa=>aH a (λw' c=>Lt (h.bQ c) hs (k:Nat)) aA (Xd.no Xb a rfl hm rfl (aE a h.obj aA (aH a (λw' c=>Va (h.cW.bQ c) (k:Nat)) aA (aE a h.obj aA (aB k a aA (aD a (h.kcell V) aA (aF a aA λw1 d=>bH (XkY (Qq s.rm (k:Nat):Nat) (s.bV.getD k 0) w1 (by omega) (by omega)) aA ?_)))))));cases R:Hp (Qq s.rm (k:Nat):Nat) (s.bV.getD k 0) with
  |false=>
   have i:Br s k=false:=by unfold Br;rw[R,YE,YZ]
   exact bI aA (bE func129 aA (no d i))
  |true=>
   refine aS aA (bB (d.bP h.obj) aA ?_);have J:=Xmt (h.cW.bQ d) (k:Nat);obtain⟨⟨pf,fa,pt,ta⟩,ePl⟩:∃p,p=Ym s.rm (k:Nat):=⟨_,rfl⟩;rw[Xgh,<-ePl] at J;simp only at J
   refine bG J aA λT W=>bC aA λb w3 e3 ar au bv=>bF ar aA λw4 K av bw=>?_;have bx:=d.size;have bz:=W.size;have l:=((d.trans W).trans au).sn av;cases hp:Jg s.rm (k:Nat) with
   |false=>
    have i:Br s k=false:=by unfold Br;rw[hp,YE]
    exact bI aA (bE func129 aA (no l i))
   |true=>
    have i:Br s k=true:=by unfold Br;rw[aq,R,hp];rfl
    refine aS aA ?_;obtain⟨P,_,be,⟨o,t,r,c0,a0⟩,hf,ht⟩:=Xai hs i;have P1:=P.own;have P2:=P.n (o:Int) (by omega);have P3:=P.a (o:Int) (by omega);rw[<-ePl] at P1 P2 P3 r a0 hf ht;simp only at P1 P2 P3 r a0 hf ht
    have h4:=h.bQ l;have b1:¬F b:=λhz=>by have:=h.low b hz;omega
    refine aQ 9 Xe (by kernel_rfl) aA λa=>aE a h4.obj aA (aE a K aA (aE a K aA (aF a aA λw5 G=>?_)));have U:=h4.bQ G;have b2:=G.bP K;refine bH (Xmr U.cW (k:Nat) pf fa) aA ?_;rw[r];refine bB U.obj aA (aP aA (Xgl U.cW (k:Nat) (o:Nat)) ?_);rintro _ w6 ⟨rfl,⟨Fr',hr,a7,n⟩⟩;refine aN aA ?_;have h6:=U.roomed hr a7 n;have L:=n.heap b2 (λhz=>b1 (h.f1 _ hz));have H:=StM.OkP.begin hs k;have eB:Yw S.c s k={s with rm:=Qj s.rm (k:Nat) (o:Nat),mv:=s.mv.set k (some (Ks S.c s.rm k))}:=by unfold Yw;rw[bK i,<-ePl];simp only;rw[r]
    rw[eB] at H⊢;obtain⟨m,em⟩:∃m,m=Ks S.c s.rm k:=⟨_,rfl⟩;rw[<-em] at H⊢;obtain⟨_,_,_,mf,mt,ms,_⟩:=H.mv k m (by show(s.mv.set k _)[k]?=_;rw[XH hk]);have b4:m.who=o/\m.pf=pf/\m.fa=fa/\m.pt=pt/\m.ta=ta/\m.cE=0:=by rw[em];unfold Ks;rw[<-ePl];exact⟨r,rfl,rfl,rfl,rfl,rfl⟩
    obtain⟨b5,a8,a9,aa,ab,b6⟩:=b4;rw[a8,a9] at mf;rw[aa,ab] at mt;refine aQ 10 Xe (by kernel_rfl) aA λa=>aE a h6.obj aA (aE a L aA (aE a L aA (Xd.build Xb a rfl rfl (aF a aA λw7 u=>?_))));have h7:=h6.bQ u;have A:=XcK S.v ⟨(k:Nat),pf,fa,none,0,[]⟩ w7 h7.vw (J2 _ _ _);rw[h.vc,show Ai S.c ⟨(k:Nat),pf,fa,none,0,[]⟩=(m.f:Int) from mf.symm] at A;refine bG A aA λw8 B=>?_;have h8:=h7.bQ B;have N:=B.bP (u.bP L);refine aQ 10 Xe (by kernel_rfl) aA λa=>aE a h8.obj aA (aE a N aA (aE a N aA (Xd.build Xb a rfl rfl (aF a aA λw9 C=>?_))));have h9:=h8.bQ C;have A:=XcK S.v ⟨(k:Nat),pt,ta,none,0,[]⟩ w9 h9.vw (J2 _ _ _);rw[h.vc,show Ai S.c ⟨(k:Nat),pt,ta,none,0,[]⟩=(m.t:Int) from mt.symm] at A;refine bG A aA λac f=>?_;have g:=h9.bQ f;obtain⟨cb,off,eca,ad⟩:=g.ca.1 k ao;have esz:S.c.bT.getD k 0=(m.size:Int):=by rw[ms];unfold Ya;rw[XB]
    rw[esz] at ad;refine aQ 19 Xe (by kernel_rfl) aA λa=>aE a g.obj aA (aE a g.obj aA ?_);rw[eca];refine aB k a aA ?_;refine Xd.load Xb a rfl ad (by first|exact λh=>h|(intro h;omega)|assumption) rfl ?_;have ak:Oz s.bs.length m.f m.t m.size=true:=Ui.2 (by obtain⟨l1,l2,l3,l4⟩:=(Kr H (k:=k) (m:=m) (by show(s.mv.set k _)[k]?=_;rw[XH hk]));simp only at l1 l2;omega);have R:∀w',Xc Xe ac w'->Xf prog 202 #[.pointer (some ⟨S.A.ab,0,none⟩),.int .i64 m.f,.int .i64 m.t,.int .i64 m.size] w' (λv T=>Xc Xe w' T/\∃M:Mv,v=.tuple #[.pointer (some ⟨M.mv,0,none⟩),.int .i64 0]/\M.f=m.f/\M.t=m.t/\M.size=m.size/\ac.heap.size<=M.mv/\E2 T S.A (Fi S {s with rm:=Qj s.rm (k:Nat) (o:Nat)}) M 0):=λw' c=>
     (Xkm S.A _ m.f m.t m.size w' (g.ar.bQ c) ak).mono λv T ⟨M,e,a1,a2,a3,a4,a5,a6⟩=>⟨a6,M,e,a1,a2,a3,by have:=c.size;omega,a5⟩
    refine Xd.callQ a rfl rfl (R) ?_;rintro _ c1 D ⟨M,rfl,ae,af,ag,ba,I⟩;refine Xd.adv Xb a rfl (aF a aA λc2 q=>?_);have ah:=(g.adopt D ba (Xg I.obj)).bQ q;have I:=I.bQ q;refine aQ 9 Xe (by kernel_rfl) aA λa=>aE a ah.obj aA (aE a (q.bP (D.bP (f.bP (C.bP N)))) aA (Xd.build Xb a rfl rfl (aF a aA λbb E=>?_)));have ai:=ah.bQ E;have al:k<mo.length:=by rw[h.mol];exact hk
    refine Xa.index Xb rfl (j:=k*6) (by omega) (show(k:Int)<(s.mv.length:Nat) by omega) (by simp) rfl ?_;have hv:([.pointer (some ⟨M.mv,0,none⟩),.int .i64 (o:Nat),.int .i64 pf,.int .i64 fa,.int .i64 pt,.int .i64 ta]:List dE)=Ep (some (M.mv,m)):=by unfold Ep;simp only;rw[b5,a8,a9,aa,ab]
    refine aL aA ai.mvs (hv▸(Ru (mo:=mo) (k:=k) (y:=some (M.mv,m)) al)) aA λbc am O br=>?_;have bd:∀b' m',some (M.mv,m)=some (b',m')->bb.heap[b']?=some (.cells (Oy S.A (Fp b' m') m'.cE).toArray 288 (0,0))/\((F b'\/Fr' b')\/b'=M.mv)/\¬Fr' b'/\∀(j:Nat) m'',mo[j]?≠some (some (b',m'')):=λb' m' e=>by
     cases e
     refine⟨?_,.inr rfl,λhz=>by have:=hr.low _ hz;have:=u.size;have:=B.size;have:=C.size;have:=f.size;omega,λj m'' hj=>?_⟩
     .have:=(I.bQ E).obj;rw[b6];have eM:M=Fp M.mv m:=by cases M;simp only at ae af ag;subst ae;subst af;subst ag;rfl
      rw[eM] at this;exact this
     .have:=g.low _ (g.mob j _ m'' hj).2.1;omega
    have an:Xc F w w5:=(l.trans G).gr;have Q:Xc F w bc:=by
     exact((an.trans (n.mono λz _ hz=>h.f1 z hz)).trans (((((((u.trans B).trans C).trans f).trans D).trans q).trans E).gr)).trans (O.mono λz _ e=>e▸h.f2.2.2.2.2)
    have fF:∀z,((F z\/Fr' z)\/z=M.mv)->F z\/w.heap.size<=z:=λz hz=>by
     have:=l.size;have:=G.size;have:=u.size;have:=B.size;have:=C.size;have:=f.size;have:=n.size;rcases hz with(hz|hz)|rfl
     .exact .inl hz
     .exact(a7 z hz).imp (h.f1 z) (by omega)
     .exact .inr (by omega)
    exact bE func129 aA ⟨_,Fr',_,(ai.setMv (x:=some (M.mv,m)) O am bd),fF,Q⟩
section
variable {F Fr:Nat->Prop}{w w':dD}{S:Sto}{s:StM}{by':Int}{mo:Mo}{pd:Option (Nat×PlcM)}
theorem Xnl{M:Mv}(hb:A.mb=some b):Pq A V M g k=⟨Jk V.bs M.f M.t g k,Xw V.total k,V.dA⟩:=by
 unfold Pq Jk;by_cases h:k=0
 .subst h;rw[bK rfl,bK rfl];exact ArV.eq rfl (N8 _).symm rfl
 .rw[bJ h,bJ h];exact ArV.eq rfl (P4 hb) (V.charge_lap A _)
theorem Xod{M:Mv}(hb:A.mb=some b):Nv A V M g i n=⟨E0 V.bs M.f M.t g i n,Xw V.total (Q5 i n g),V.dA⟩:=by
 unfold Nv E0;by_cases h:Q5 i n g=0
 .rw[bK h,bK h,h];exact ArV.eq rfl (N8 _).symm rfl
 .rw[bJ h,bJ h];exact ArV.eq rfl (P4 hb) (V.charge_lap A _)
theorem Uj(h:Xq F Fr w S s by' mo){m:MvM}(hm:s.mv[k]?=some (some m)):∃b,mo[k]?=some (some (b,m)):=by
 obtain⟨x,a,e⟩:=h.mo_at ((XC.1 hm).1);rw[Dx hm] at e;obtain⟨⟨b,m'⟩,rfl,e'⟩:=QK.1 e;simp only at e'
 subst e';exact⟨b,a⟩
theorem Xq.went(h:Xq F Fr w S s by' mo){m:MvM}{t:Int}(hx:mo[k]?=some (some (b,m)))(hM:E2 w' S.A ⟨bs,t,S.R.dA⟩ (Fp b m) g)(hl:bs.length=s.bs.length)(hc:Xc (Rq S.A (Fp b m)) w w'):Xq F Fr w' S {s with bs:=bs,rm:={s.rm with tot:=t},mv:=s.mv.set k (some {m with cE:=g})} by' (mo.set k (some (b,{m with cE:=g}))):=by
 have d:=(XC.1 hx).1;have l:∀(j b':Nat) m',mo[j]?=some (some (b',m'))->j≠k -> ¬Rq S.A (Fp b m) b':=λj b' m' a c f=>by
  have kk:=h.kdm a;obtain⟨_,_,n,_,_,o⟩:=h.kds;rcases f with(e|e)|e
  .exact Xs kk n (by decide) e
  .rw[h.amb] at e;cases e;exact Xs kk o (by decide) rfl
  .exact c (h.mdj j k b' m' m a (e▸hx))
 have:=h.arena (bs:=bs) (t:=t) (mo2:=mo.set k (some (b,{m with cE:=g}))) hc (λz f=>?_) hM.ar.dat hl hM.ar.rng (hM.ar.met _ h.amb) ?_ (by rw[XG]) (λj b' m' a=>?_)
 .rw[Xe3,h.mom] at this;exact this
 .rcases f with(e|e)|e
  .exact .inl e
  .rw[h.amb] at e;exact .inr (.inl (Option.some.inj e).symm)
  .exact .inr (.inr ⟨k,m,e▸hx⟩)
 .apply QD
  intro i;have e1:=Ru (mo:=mo) (k:=k) (y:=some (b,{m with cE:=g})) d;have e2:=Ru (mo:=mo) (k:=k) (y:=some (b,m)) d;have e3:mo.set k (some (b,m))=mo:=by
   apply QD
   intro j;by_cases e:k=j
   .subst e;rw[XH d,hx]
   .rw[XJ e]
  rw[e3] at e2;have e4:Ep (some (b,{m with cE:=g}))=Ep (some (b,m)):=rfl;rw[e4,e2] at e1;rw[<-Option.some.inj e1]
 .rcases Rs a with⟨rfl,e,_⟩|⟨c,a⟩
  .cases e
   exact⟨hM.obj,m,hx⟩
  .exact⟨hc.heap (h.mob j b' m' a).1 (l j b' m' a c),m',a⟩
end
theorem Xcm{F Fr:Nat->Prop}{w:dD}{S:Sto}{s:StM}{by':Int}{mo:Mo}(h:Xq F Fr w S s by' mo)(hs:s.Ok S.c){m:MvM}(hm:s.mv[k]?=some (some m))(n:Int):Xf prog 130 #[Yq S,.int .i64 (k:Nat),.int .i64 n] w (λv w'=>v=.int .i64 (Zv m n:Nat)/\Ek F w w' S (Yo s k n) by'):=by
 obtain⟨f1,f2,f3⟩:=OkP.few hs;have hk:=(XC.1 hm).1;obtain⟨b,Q⟩:=Uj h hm;obtain⟨⟨o,t,ew,et,eq⟩,ea,en,_,_,_,bb⟩:=hs.mv k m hm;have aa:k<mo.length:=by rw[h.mol];exact hk
 have bc:=Tz m n;have W:∀z,Rq S.A (Fp b m) z->F z:=λz a=>a.elim (h.footF z) (λe=>e▸(h.mob k b m Q).2.1);refine aR func130 ntmps130 aA (bB h.obj aA (Xa.index Xb rfl (j:=k*6) (by omega) (show(k:Int)<(s.mv.length:Nat) by omega) (by simp) rfl ?_));refine Xa.loadC Xb (Ep (some (b,m))) rfl (by first|rfl|(simp;done)|(simp[*];done)|(simp;omega)) ((λj v hv=>by have hj:j<6:=(XC.1 hv).1;exact h.mcell Q hj hv)) rfl ?_;refine bC aA λxb w1 e1 ab am bd=>bF ab aA λw2 a0 an be=>?_;have B:=am.sn an;have h2:=h.bQ B;have C:¬F xb:=λa=>by have:=h.low xb a;omega
 refine bB a0 aA (aP aA (Xkn S.A (Fi S s) (Fp b m) m.cE n w2 (h2.mvOk hs Q)) ?_);rintro _ w3 ⟨rfl,a1,D⟩;refine aN aA ?_;have E:E2 w3 S.A ⟨Jk s.bs m.f m.t m.cE (Zv m n),Xw s.rm.tot (Zv m n:Nat),S.R.dA⟩ (Fp b m) (m.cE+Zv m n):=by
  rw[Xnl h.amb] at a1;exact a1
 obtain⟨l1,l2,l3,_⟩:=Kr hs hm;have h3:=h2.went Q E (Xci (size:=m.size) (by omega) l1 l2) D;have G:=D.heap a0 (λa=>C (W _ a));have ac:=B.gr.trans (D.mono λz _ a=>W z a);refine bB G aA (bG (Xbe S.A _ (Fp b m) (m.cE+Zv m n) w3 E) aA λw4 H=>?_);have R:=h3.bQ H;have d:=H.bP G;have I:=ac.trans H.gr;by_cases a2:m.cE+Zv m n<m.size
 .have eG:Yo s k n={Ae s m n with mv:=s.mv.set k (some {m with cE:=m.cE+Zv m n})}:=by unfold Yo;rw[Dx hm];simp only;rw[bK a2]
  rw[eG];exact aI aA (by show((((m.size-(m.cE+Zv m n):Nat):Int) == 0)=false);simp;omega) (bE func130 aA ⟨rfl,.of R I⟩)
 .have eG:Yo s k n={Ae s m n with mv:=s.mv.set k none,th:=s.th.set m.who.toNat (some ⟨Qw s m.who,⟨k,m.pt,m.ta,[]⟩⟩),rm:=Q2 (Ae s m n).rm k m.pf m.fa}:=by unfold Yo;rw[Dx hm];simp only;rw[bJ a2]
  rw[eG];refine aM aA (by show((((m.size-(m.cE+Zv m n):Nat):Int) == 0)=true);simp;omega) ?_;have aq:=(XC.1 et).1;have ar:m.who.toNat=o:=by omega
  have au:Qw s m.who=t.size:=by unfold Qw;rw[ew,Hg et]
  rw[ar,au];obtain⟨al,a3⟩:=R.th;obtain⟨q,q1,q2,q3,q4,q5⟩:=a3.2.2.1 o t et;refine aQ 8 Xe (by kernel_rfl) aA λc=>aE c R.obj aA (aE c d aA (Xd.lookup Xb c rfl (a3.1) (by first|(intro b h;cases h;assumption)|(intro b h hs;cases h;omega)) ((show Bv al _ m.who false=.agg (Fe t.size q).toArray from by unfold Bv;rw[ew,q2];rfl)) rfl (Xd.cK c rfl λw5 r=>Xn.alloc Xb c rfl (λ_=>rfl) λtb w6 e6 ad av bf=>aF c aA λw7 a4=>?_)));have J:=(r.trans av).trans a4;have ae:=J.bP d;have af:=a4.bP ad;have aw:tb≠xb:=by have:=Xg d;have:=r.size;omega
  refine bF af aA λw8 ag a5 bg=>?_;have K:=a5.heap ae (λe=>aw e.symm);refine bB K aA (bB K aA (aO aA (bF ag aA λw9 ah ax bh=>?_)));have g:=(J.bU a5 (λz a e=>by have:=r.size;omega)).bU ax (λz a e=>by have:=r.size;omega);have h9:=R.bQ g;have L:=g.bP d;refine aQ 7 Xe (by kernel_rfl) aA λc=>aE c h9.obj aA (aE c L aA (aE c ah aA (aF c aA λbi i=>?_)));have M:=h9.bQ i;have T:=i.bP L;obtain⟨al',N⟩:=M.th;refine Xa.mapset Xb rfl (N.1) λbj u f b9=>aN aA ?_;rw[ew] at u;have ai:=N.put (o:=o) (size:=t.size) (q:=⟨(k:Nat),m.pt,m.ta,none,0,[]⟩) (qm:=⟨(k:Nat),m.pt,m.ta,[]⟩) rfl aq u f M.f2.2.2.2.1 (J2 _ _ _) (λ_ _ _ e=>by cases e) ⟨(λ_ _ _ e=>by cases e),(λ_ _ _ e=>by cases e)⟩;have O:=M.setTh f ai;have U:=f.heap T (λe=>C (e▸h.f2.2.2.2.1));refine bB O.obj aA (aO aA ?_);have V:k<(mo.set k (some (b,{m with cE:=m.cE+Zv m n}))).length:=by rw[XG];exact aa
  have bk:(s.mv.set k (some {m with cE:=m.cE+Zv m n})).length=s.mv.length:=XG;refine Xa.index Xb rfl (j:=k*6) (by omega) (show(k:Int)<((s.mv.set k (some {m with cE:=m.cE+Zv m n})).length:Nat) by omega) (by simp) rfl (aL aA O.mvs (Ru (y:=none) V) aA λbm aj l ba=>?_);have a6:=O.setMv (x:=none) l aj (λ_ _ e=>by cases e);have A:=l.heap U (λe=>C (e▸h.f2.2.2.2.2));refine aQ 11 Xe (by kernel_rfl) aA λc=>aE c a6.obj aA (aE c A aA (aE c A aA (aF c aA λbn p=>?_)));have a7:=a6.bQ p;refine aP aA (Xgk a7.cW (k:Nat) m.pf m.fa) ?_;rintro _ bo ⟨rfl,⟨Fr',hr,a8,P⟩⟩;refine aN aA ?_;have az:=a7.roomed hr a8 P;have b0:=(I.trans g.gr).trans i.gr;have a9:=(b0.trans (f.mono λz _ e=>e▸h.f2.2.2.2.1)).trans (l.mono λz _ e=>e▸h.f2.2.2.2.2);have b1:=(a9.trans p.gr).trans (P.mono λz _ a=>h.f1 z a);have eS:({Ae s m n with mv:=s.mv.set k none,th:=s.th.set o (some ⟨t.size,⟨(k:Nat),m.pt,m.ta,[]⟩⟩),rm:=Q2 (Ae s m n).rm (k:Nat) m.pf m.fa}:StM)={bV:=s.bV,bs:=Jk s.bs m.f m.t m.cE (Zv m n),rm:=Q2 {s.rm with tot:=Xw s.rm.tot (Zv m n:Nat)} (k:Nat) m.pf m.fa,th:=s.th.set o (some ⟨t.size,⟨(k:Nat),m.pt,m.ta,[]⟩⟩),mv:=(s.mv.set k (some {m with cE:=m.cE+Zv m n})).set k none}:=by
   rw[List.set_set];rfl
  rw[eS];have fF:∀z,(F z\/Fr' z)->F z\/w.heap.size<=z:=λz a=>a.elim .inl (λa=>(a8 z a).imp (h.f1 z) (λhl=>by have:=a9.size;have:=p.size;omega));exact bE func130 aA ⟨rfl,⟨_,Fr',_,az,fF,b1⟩⟩
theorem XgT(h:Xy s (k:Nat)=none)(n:Int):Yo s k n=s:=by unfold Yo;rw[h]
theorem Xnj{m:MvM}(h:Xy s (k:Nat)=some m){n n':Int}(e:Zv m n=Zv m n'):Yo s k n=Yo s k n':=by
 unfold Yo Ae;rw[h];simp only
 rw[e]
theorem Xjf{m:MvM}:Zv m ((m.size-m.cE:Nat):Int)=Zv m (m.size:Nat):=by unfold Zv Ed;omega
theorem Xg0{S:Sto}(h:Xq F Fr w S s by' mo)(hs:s.Ok S.c)(κ:Int):Xf prog 103 #[Yq S,.int .i64 κ] w (λ_ w'=>Ek F w w' S (Zh s κ) by'):=by
 obtain⟨f1,f2,f3⟩:=OkP.few hs;refine aR func103 ntmps103 aA (bH (Lt h hs κ) aA ?_);cases hm:Xy s κ with
 |none=>
  have e:Zh s κ=s:=by unfold Zh;rw[hm]
  rw[e];exact aS aA (bE func103 aA (.of h (Xc.refl _ _)))
 |some m=>
  obtain⟨k,rfl,l,a⟩:=At hm;have e:Zh s (k:Nat)=Yo s k ((m.size-m.cE:Nat):Int):=by
   unfold Zh;rw[hm];simp only[XB];exact Xnj hm Xjf.symm
  rw[e];obtain⟨b,d⟩:=Uj h a;refine bI aA (bB h.obj aA (Xa.index Xb rfl (j:=k*6) (by omega) (show(k:Int)<(s.mv.length:Nat) by omega) (by simp) rfl (aW aA (h.mcell d (i:=0) (by decide) rfl) aA (bG (Xbe S.A (Fi S s) (Fp b m) m.cE w (h.mvOk hs d)) aA λn c=>?_))));refine aP rfl (Xcm (h.bQ c) hs a ((m.size-m.cE:Nat):Int)) ?_;rintro _ o ⟨rfl,f⟩;exact aN aA (bE func103 aA (.trans (λ_ g=>.inl g) c.gr f))
theorem XgZ{S:Sto}(h:Xq F Fr w S s by' mo)(q:Plc)(hs:s.OkP S.c (some (o,Xx q)))(hq:Zp w q):Xf prog 104 #[Yq S,.agg (Xv q).toArray] w (λ_ w'=>Ek F w w' S (Cd S.c s (Xx q)) by'):=by
 obtain⟨f1,f2,f3⟩:=OkP.few hs;have J:=hs.dropped;refine aR func104 ntmps104 aA (bC aA λb w1 e1 A i a1=>?_);have j:¬F b:=λc=>by have:=h.low b c;omega
 have K:=h.bQ i;refine aQ 5 Xe (by kernel_rfl) aA λf=>aE f K.obj aA (aE f A aA (aF f aA λw2 d=>?_));have L:=K.bQ d;have B:=d.bP A;refine aP aA (Xmo L.cW q (hq.bQ (i.trans d))) ?_;rintro _ w3 ⟨rfl,⟨Fr',hr,l,g⟩⟩;have M:=L.roomed hr l g;have p:=g.heap B (λc=>j (h.f1 _ c));have a2:=d.size;have a3:=g.size;have r:∀z,(F z\/Fr' z)->F z\/w.heap.size<=z:=λz c=>c.elim .inl (λc=>(l z c).imp (h.f1 z) (by omega));have H:¬(F b\/Fr' b):=λc=>c.elim j (λc=>(l b c).elim (λc=>j (h.f1 _ c)) (by have:=Xg B;omega));have t:=((i.trans d).gr).trans (g.mono λz _ c=>h.f1 z c);refine aN aA (bB p aA ?_);by_cases u:q.cL=-1
 .have e:Cd S.c s (Xx q)={s with rm:=Qd s.rm (Xx q)}:=by unfold Cd;rw[bK (show(Xx q).cL<0 by show q.cL<0;omega)]
  rw[e];exact aM aA (by rw[u];rfl) (bE func104 aA ⟨_,Fr',mo,M,r,t⟩)
 .obtain⟨_,W,_,_⟩:=hs.ps o (Xx q) rfl u;obtain⟨_,k0,N⟩:=O2 hs (k:=(Xx q).cL) (n:=(Xx q).cR) (a:=(Xx q).idx) (by rw[W];omega);obtain⟨k,I⟩:=XE (show 0<=q.cL from k0);replace N:q.cL<S.c.bT.length:=N;have O:k<s.mv.length:=by have:=hs.ml;omega
  have e:Cd S.c s (Xx q)=Yo (Yw S.c {s with rm:=Qd s.rm (Xx q)} k) k S.c.step:=by
   unfold Cd;rw[bJ (show ¬(Xx q).cL<0 by show ¬q.cL<0;omega),show(Xx q).cL.toNat=k by show q.cL.toNat=k;omega]
  rw[e];refine aI aA (by simpa using u) (bB p aA ?_);rw[I];refine aP aA (XgY M J k O) ?_;rintro _ w4 ⟨P,Q,R,y,T,C⟩;have D:=C.heap p H;have E:=J.begin k;have v:=t.bU C (λz c hf=>(r z hf).elim id (by omega));have x:∀z,P z->F z\/w.heap.size<=z:=λz c=>(T z c).elim (r z) (by omega);refine aN aA (bB D aA ?_);rw[I];refine bH (Lt y E (k:Nat)) aA ?_;cases hm:Xy (Yw S.c {s with rm:=Qd s.rm (Xx q)} k) (k:Nat) with
  |none=>
   rw[XgT hm];exact aS aA (bE func104 aA ⟨P,Q,R,y,x,v⟩)
  |some m=>
   obtain⟨k',ek',a4,U⟩:=At hm;obtain rfl:k=k':=by omega
   refine bI aA (aQ 8 Xe (by kernel_rfl) aA λf=>aE f D aA (aE f y.obj aA ?_));rw[I];refine aF f aA λw5 G=>?_;refine aP rfl (Xcm (y.bQ G) E U S.c.step) ?_;rintro _ w6 ⟨rfl,V⟩;exact aN aA (bE func104 aA (.trans x (v.trans G.gr) V))
section
variable {F Fr:Nat->Prop}{w w':dD}{S:Sto}{s:StM}{by':Int}{mo:Mo}{pd:Option (Nat×PlcM)}
theorem XcA{a b:Int}{r:Plc}(h:Value.agg (Fe a q).toArray=Value.agg (Fe b r).toArray):q.pa=r.pa:=by
 injection h with h
 have h:=congrArg Array.toList h;simp only[Fe,Xv,List.toList_toArray,List.cons.injEq,Value.slice.injEq] at h;exact h.2.2.2.2.1.1
theorem Xq.loc{F0 Fr0:Nat->Prop}{s0:StM}{by0:Int}{mo0:Mo}(h0:Xq F0 Fr0 w0 S s0 by0 mo0)(hm:∀al,Yx w0 S.tm al->Yx w S.tm al)(h:Xq F Fr w S s by' mo)(hb:w0.heap.size<=b)(hF:¬F b)(hk:kd w b=some (some t))(ht:t≠352/\t≠348/\t≠3)(hc:Xc (λz=>z=b) w w'):Xq F Fr w' S s by' mo:=by
 have d:=h0.cW;have c:=Ye d.may;have B:=Xg h0.ar.obj;have C:=Xg h0.ar.cap;have D:=Xg h0.vw.obj;have E:=Xg d.obj;have G:S.R.sb<w0.heap.size:=by have:=World.block_lt_of_cell? w0 _ (d.sl 0 (by have:=c.n;have:=d.ok.n;omega));exact this
 have H:1<w0.heap.size:=by have:=World.block_lt_of_cell? w0 _ (d.tab 0 (by decide));exact this
 have f:=h0.rc;have bW:∀{a:Option Addr} {l:List Int},A3 F0 w0 a l->0<l.length -> ∀off s,a≠some ⟨b,off,s⟩:=λg p off s e=>by have:=g.1.block p e;omega
 refine h.other hc (λz e=>e▸⟨hF,⟨by omega,by omega,by omega,by omega,by omega,by omega⟩,bW h0.ca (by rw[f] at c;have:=c.n;omega),bW h0.ka (by rw[f] at c;have:=c.bV;have:=c.n;omega),t,hk,ht.1,ht.2.1,λe=>absurd e ht.2.2⟩) ?_;intro al j k sz q i;obtain⟨m,r,I,u,v,_⟩:=h0.th;have:=(hm m r).uniq j;subst this;by_cases hk:∀(o:Nat) t,s0.th[o]?=some (some t)->(o:Int)≠k
 .rw[v k hk] at i;cases i
 .simp only[Classical.not_forall,YL] at hk;obtain⟨o,t,x,y⟩:=hk;obtain⟨J,_,n,_,_,A⟩:=u o t x;rw[y,i] at n;rw[(XcA (Option.some.inj n))];intro b' off s' e' K;have:=Dg (A.i b' off s' e');omega
theorem Xnn(h:Xq F Fr w S s by' mo)(n:Int):Xf prog 175 #[.pointer (some ⟨S.mb,0,none⟩),.int .i64 n] w (λ_ w'=>Xq (λz=>F z\/Fr z) Fr w' S (Ql s n) by' mo/\Xc Fr w w'):=by
 have hm:=Vc h.cW n;rw[h.rmo] at hm;exact hm.mono λ_ w' ⟨a,b⟩=>⟨h.roomed a (λz c=>.inl c) b,b⟩
end
theorem XeJ(c:Conf)(s:StM)(o size:Int):(Yd c s o size).th=s.th/\(Yd c s o size).bV=s.bV/\(Yd c s o size).bs=s.bs/\(Yd c s o size).mv.length=s.mv.length:=by
 unfold Yd;split
 .exact⟨rfl,rfl,rfl,XG⟩
 .exact⟨rfl,rfl,rfl,rfl⟩
theorem Xg1{F Fr:Nat->Prop}{w:dD}{S:Sto}{s:StM}{by':Int}{mo:Mo}{pd:Option (Nat×PlcM)}(h:Xq F Fr w S s by' mo)(hs:s.OkP S.c pd)(ho:o<s.th.length)(hf:Yt S.c s size=0)(hL:(Q3 S.c s (o:Nat) size).OkP S.c pd2)(hby:0<=by'/\by'<=1152921504606846976):Xf prog 113 #[Yq S,.int .i64 (o:Nat),.int .i64 size] w (λ_ w'=>Ek F w w' S (Q3 S.c s (o:Nat) size) (by'+size)):=by
 obtain⟨f1,f2,f3⟩:=OkP.few hs;have b8:=h.ca.1;have af:=Ye hs.may;have a8:=hs.may;have bz:=af.cH;have c0:=af.n;have b9:=h.vc;obtain⟨cc,c1⟩:=Tx hf;have aq:(Q3 S.c s (o:Nat) size).th[o]?=some (some ⟨size,Yl S.c s (o:Nat) size⟩):=by
  show(s.th.set (o:Int).toNat _)[o]?=_
  rw[XB,XH ho]
 obtain⟨pv,ph,pf⟩:=Jc hL aq;simp only at pv ph pf
 refine aR func113 ntmps113 aA (bB h.obj aA (bG (Ob S.p.ca S.p.cc S.c.bT size w b8 (by omega)) aA λw1 a0=>?_));have h1:=h.bQ a0;refine bC aA λb w2 e2 M ag cd=>?_;have r:=h1.bQ ag;have B:¬F b:=λa=>by have:=h1.low b a;omega
 have I:=a0.trans ag;refine bH (Lt r hs (Xm S.c.bT size)) aA ?_;apply Xa.cut (α:=(Nat->Prop)×(Nat->Prop)×Plc×Mo) (λ_=>[(0,false,Yq S),(1,false,.int .i64 (o:Nat)),(2,false,.int .i64 size),(7,false,.pointer (some ⟨b,0,none⟩))]) (λx w'=>(∀z,x.1 z->F z\/w.heap.size<=z)/\¬x.1 b/\w'.heap[b]?=some (.cells (Xv x.2.2.1).toArray 83 (0,0))/\Xx x.2.2.1=Yl S.c s (o:Nat) size/\Zp w' x.2.2.1/\Ga S.G w' x.2.2.1.pa/\Xj x.1 x.2.2.1.pa/\Xc F w w'/\Xq x.1 x.2.1 w' S (Yd S.c s (o:Nat) size) by' x.2.2.2)
 .intro J;by_cases d:Fy S.c s size=none
  .have eS:Yd S.c s (o:Nat) size={s with rm:=Av S.c s.rm (o:Nat) size}:=by unfold Yd;rw[d]
   have eQ:Yl S.c s (o:Nat) size=Bz S.c s.rm (o:Nat) size:=by unfold Yl;rw[d]
   have N:(Xy s (Xm S.c.bT size)).isSome=false\/((Xy s (Xm S.c.bT size)).isSome=true/\Qq s.rm (Xm S.c.bT size)≠0):=by
    unfold Fy at d;cases hm:Xy s (Xm S.c.bT size) with
    |none=>exact .inl rfl
    |some m=>
     rw[hm] at d;simp only at d
     refine .inr ⟨rfl,λe=>?_⟩;rw[bK e] at d;cases d
   have hP:=Xms r.cW (o:Nat) size;rw[h.rc] at hP;apply Xa.cut (α:=Unit) (λ_=>[(0,false,Yq S),(1,false,.int .i64 (o:Nat)),(2,false,.int .i64 size),(7,false,.pointer (some ⟨b,0,none⟩)),(68,false,.pointer (some ⟨S.sb,11,none⟩))]) (λ_ w'=>w'=w2)
   .intro K;rcases N with N|⟨N,a9⟩
    .rw[N];exact aS aA (K () _ _ rfl ⟨rfl,rfl,rfl,rfl,rfl,trivial⟩)
    .rw[N];exact bI aA (bB r.obj aA (bH (Va r.cW (Xm S.c.bT size)) aA (aI aA (by simpa using a9) (K () _ _ rfl ⟨rfl,rfl,rfl,rfl,rfl,trivial⟩))))
   .rintro-_ rfl;refine bB r.obj aA (aP aA (hP) ?_);rintro _ w3 ⟨q,rfl,f,⟨Fr',hr,t,O,ah,au,u⟩⟩;refine aN aA ?_;have h3:=r.roomed hr t O;have ai:=O.heap M (λa=>B (h.f1 _ a));have c3:=I.size;have av:=a0.size;have ce:=O.size;have E:∀z,(F z\/Fr' z)->F z\/w.heap.size<=z:=λz a=>a.elim .inl (λa=>(t z a).imp (h.f1 z) (by omega));have g:¬(F b\/Fr' b):=λa=>a.elim B (λa=>(t b a).elim (λa=>B (h.f1 _ a)) (by have:=Xg M;omega));have p:Xj (λz=>F z\/Fr' z) q.pa:=λb' off s' e a=>a.elim (λa=>by have:=r.low b' a;have:=u b' off s' e;omega) (au b' off s' e);have aw:Ga S.G w3 q.pa:=⟨λb' off s' e=>(u b' off s' e).2,λb' off s' e a=>by obtain⟨_,_,_,_,_,hG⟩:=r.th;have:=hG b' a;have:=u b' off s' e;omega⟩;have a1:Xj (λz=>z=b) q.pa:=λb' off s' e a=>by have:=u b' off s' e;have:=Xg M;omega
    refine bF ai aA λwt n C bd=>?_;have aj:=Xq.loc h (λal P=>(P.bR I id).bR O h.nr.2.2.2.1) h3 (by omega) g (X1 ai) (by decide) C;have L:Zp wt q:=⟨ah.rd.bW a1 C,ah.len⟩;have G:=aw.bR C a1;have Q:=((I.gr.trans (O.mono λz _ a=>h.f1 z a)).sn C);rw[<-eQ] at f;rw[<-eS] at aj;have ht:=aj;exact J (_,Fr',q,mo) _ _ ⟨E,g,n,f,L,G,p,Q,ht⟩ ⟨rfl,rfl,rfl,rfl,trivial⟩
  .obtain⟨m,d⟩:=Option.ne_none_iff_exists'.1 d;have eS:Yd S.c s (o:Nat) size=Ql {s with mv:=s.mv.set (Xm S.c.bT size).toNat none,rm:=Qu s.rm (Xm S.c.bT size) m.pt m.ta (o:Nat)} 3:=by unfold Yd;rw[d]
   have eQ:Yl S.c s (o:Nat) size=⟨Xm S.c.bT size,m.pt,m.ta,[]⟩:=by unfold Yl;rw[d]
   obtain⟨hm,a9⟩:Xy s (Xm S.c.bT size)=some m/\Qq s.rm (Xm S.c.bT size)=0:=by
    unfold Fy at d;cases hm:Xy s (Xm S.c.bT size) with
    |none=>rw[hm] at d;cases d
    |some m'=>
     rw[hm] at d;simp only at d
     split at d
     .rename_i ho;cases d;exact⟨rfl,ho⟩
     .cases d
   obtain⟨k,ek,hk,be⟩:=At hm;obtain⟨mb,hx⟩:=Uj r be;have ax:k<mo.length:=by rw[h.mol];exact hk
   rw[hm];refine bI aA (bB r.obj aA (bH (Va r.cW (Xm S.c.bT size)) aA (aM aA (by rw[a9];rfl) (bB r.obj aA ?_))));rw[ek,XB] at eS;rw[ek] at eQ;rw[ek];refine Xa.index Xb rfl (j:=k*6) (by omega) (show(k:Int)<(s.mv.length:Nat) by omega) (by simp) rfl ?_;refine Xa.loadC Xb ([.int .i64 m.pf,.int .i64 m.fa,.int .i64 m.pt,.int .i64 m.ta]) rfl (by first|rfl|(simp;done)|(simp[*];done)|(simp;omega)) ((λj v hv=>by have hj:j<4:=(XC.1 hv).1;show w2.cell? ⟨S.vb,0+k*6+2+j,none⟩=_;rw[YR];exact r.mcell hx (i:=2+j) (by omega) (by rw[<-hv];show([.pointer (some ⟨mb,0,none⟩),.int .i64 m.who,.int .i64 m.pf,.int .i64 m.fa,.int .i64 m.pt,.int .i64 m.ta]:List dE)[2+j]?=_;rw[Nat.add_comm];rfl))) rfl ?_;refine bC aA λxb w3 e3 ay bg cf=>bF ay aA λw4 az bh cg=>?_;have av:=a0.size;have U:=bg.sn bh;have V:=I.trans U;have h4:=h.bQ V;have bi:=U.bP M;have ab:¬F xb:=λa=>by have:=h.low xb a;omega
   refine bB h4.obj aA (aO aA (Xa.index Xb rfl (j:=k*6) (by omega) (show(k:Int)<(s.mv.length:Nat) by omega) (by simp) rfl (aL aA h4.mvs (Ru (y:=none) ax) aA λw5 b0 R ch=>?_)));have h5:=h4.setMv (x:=none) R b0 (λ_ _ e=>by cases e);have D:=R.heap az (λe=>ab (e▸h.f2.2.2.2.2));have bk:=R.heap bi (λe=>B (e▸h.f2.2.2.2.2));refine aQ 10 Xe (by kernel_rfl) aA λl=>aE l h5.obj aA (aE l D aA (aE l D aA (aF l aA λw6 A=>?_)));have h6:=h5.bQ A;refine aP aA (Xmq h6.cW (k:Nat) m.pt m.ta (o:Nat)) ?_;rintro _ w7 ⟨rfl,⟨Fr',hr,t,T⟩⟩;refine aN aA ?_;have h7:=h6.roomed hr t T;have b2:=T.heap (A.bP D) (λa=>ab (h.f1 _ a));have bn:=T.heap (A.bP bk) (λa=>B (h.f1 _ a));have ci:w2.heap.size<=w6.heap.size:=by have:=U.size;have:=A.size;omega
   have ac:∀z,Fr' z->F z\/w.heap.size<=z:=λz a=>(t z a).imp (h.f1 z) (by omega);have W:¬Fr' b:=λa=>(t b a).elim (λa=>B (h.f1 _ a)) (by have:=Xg M;omega);have b3:¬Fr' xb:=λa=>(t xb a).elim (λa=>ab (h.f1 _ a)) (by have:=Xg D;have:=A.size;have:=Xg (A.bP D);omega);refine bB h7.obj aA (aP aA (Xnn h7 3) ?_);rintro _ w8 ⟨h8,a2⟩;refine aN aA ?_;have ad:=a2.heap b2 b3;have ak:=a2.heap bn W;refine bB ad aA (bB ad aA (aO aA (bF ak aA λwt n C bd=>?_)));obtain⟨q,eq⟩:∃q:Plc,q=⟨(k:Nat),m.pt,m.ta,none,0,[]⟩:=⟨_,rfl⟩;have f:Xx q=Yl S.c s (o:Nat) size:=by rw[eQ,eq];rfl
   have L:Zp wt q:=eq▸J2 _ _ _;have u:∀b' off s',q.pa≠some ⟨b',off,s'⟩:=λb' off s' e=>by rw[eq] at e;cases e
   have G:Ga S.G wt q.pa:=⟨λb' off s' e=>absurd e (u b' off s'),λb' off s' e=>absurd e (u b' off s')⟩;have p:Xj (λz=>(F z\/Fr' z)\/Fr' z) q.pa:=λb' off s' e=>absurd e (u b' off s');replace n:wt.heap[b]?=some (.cells (Xv q).toArray 83 (0,0)):=by rw[eq];exact n
   have b4:∀al,Yx w S.tm al->Yx w8 S.tm al:=λal P=>((((P.bR V id).bR R (Xs h4.kds.2.2.2.1 h4.kds.2.2.2.2.1 (by simp))).bR A id).bR T h.nr.2.2.2.1).bR a2 (h7.nr.2.2.2.1);have g:¬((F b\/Fr' b)\/Fr' b):=λa=>a.elim (λa=>a.elim B W) W;have E:∀z,((F z\/Fr' z)\/Fr' z)->F z\/w.heap.size<=z:=λz a=>a.elim (λa=>a.elim .inl (ac z)) (ac z);have ht:=Xq.loc h b4 h8 (by omega) g (X1 ak) (by decide) C;have b5:=(V.gr.trans (R.mono λz _ e=>e▸h.f2.2.2.2.2)).trans A.gr;have Q:=((b5.trans (T.mono λz _ a=>h.f1 z a)).bU a2 (λz a hf=>(ac z hf).elim id (by omega))).sn C;have bo:=eS;replace ht:Xq (λz=>(F z\/Fr' z)\/Fr' z) Fr' wt S (Yd S.c s (o:Nat) size) by' (mo.set k none):=by rw[bo];exact ht
   exact J (_,Fr',q,mo.set k none) _ _ ⟨E,g,n,f,L,G,p,Q,ht⟩ ⟨rfl,rfl,rfl,rfl,trivial⟩
 .rintro⟨F',Fr',q,mo'⟩ wt ⟨E,g,n,f,L,G,p,Q,ht⟩;simp only at E g n f L G p ht
  have am:q.bS.length<=4096:=by
   have e:q.bS=(Yl S.c s (o:Nat) size).bS:=congrArg PlcM.bS f;rw[e];exact pf
  have bp:=K2 (c:=S.c) (q:=q) a8 am;obtain⟨hn,ehn⟩:=XE bp.1;have bq:∀w',Xc Xe wt w'->Xf prog 177 #[Fz S.v,.agg (Xv q).toArray] w' (Grow (.int .i64 ((hn:Nat):Int)) w'):=λw' a3=>by
   have:=XcL S.v q w' ((ht.bQ a3).vw) (L.bQ a3) (by omega);rw[b9,ehn] at this;exact this
  have br:Yk S.c q=true:=by rw[Xhu,f];exact pv
  obtain⟨y1,y2,y3,y4⟩:=XeJ S.c s (o:Nat) size;refine aQ 11 Xe (by kernel_rfl) aA λl=>aE l ht.obj aA (aE l n aA (aE l ht.obj aA (aE l n aA (aG l (λw' a3=>(bq w' a3)) aA (aF l aA λwa H=>?_)))));have ha:=ht.bQ H;have bt:=H.bP n;refine aP aA (XgW ha a8 (by rw[y3];exact hs.bl) q 0 hn (L.bQ H) p (Kh br (by omega) (by omega) (by omega)) am) ?_;rintro _ wb ⟨rfl,an,a4⟩;refine aN aA ?_;have bu:=a4.heap bt g;have a1:Zp wb q:=⟨((L.bQ H).rd).bW p a4,L.len⟩;refine aQ 8 Xe (by kernel_rfl) aA λl=>aE l an.obj aA (aE l bu aA (Xd.build Xb l rfl rfl (aF l aA λwc a5=>?_)));have a6:=an.bQ a5;obtain⟨al,ao⟩:=a6.th;refine Xa.mapset Xb rfl (ao.1) λwd P ae cj=>aN aA ?_;have bv:=ao.put (o:=o) (size:=size) (q:=q) (qm:=Yl S.c s (o:Nat) size) f (by show o<(Yd S.c s (o:Nat) size).th.length;rw[y1];exact ho) P ae a6.f2.2.2.2.1 (a1.bQ a5) p (((G.bQ H).bR a4 p).bQ a5);have a7:=a6.setTh ae bv;refine bB a7.obj aA (aV aA (bF a7.obj aA λwf bw ap ck=>?_));have b7:=a7.setBy (by2:=by'+size) ap bw;have bx:=((H.gr.trans a4).trans a5.gr).trans ((ae.mono λz _ e=>e▸a6.f2.2.2.2.1).trans (ap.mono λz _ e=>e▸a7.f2.1));have eL:Q3 S.c s (o:Nat) size={Yp S.c (Yd S.c s (o:Nat) size) (Xx q) 0 (X6 hn) with th:=(Yd S.c s (o:Nat) size).th.set o (some ⟨size,Yl S.c s (o:Nat) size⟩)}:=by
   unfold Q3;rw[y1,f,XB,<-f,<-Xht,ehn,XB]
  rw[eL];exact bE func113 aA (.trans E Q (.of b7 bx))
def Bb:Option ThM->Int
 |some t=>t.size
 |none=>0
theorem XcB:∀l:List (Option ThM),(Vt l).sum=(l.map Bb).sum
 |[]=>rfl
 |none::l=>by
  have:=XcB l;unfold Vt at *;simp[Bb,this]
 |some t::l=>by
  have:=XcB l;unfold Vt at *;simp[Bb,this]
theorem He(s:StM):Zs s=(s.th.map Bb).sum:=XcB s.th
theorem Xg7:∀(l:List Int) (i:Nat) (v:Int) (hi:i<l.length),(l.set i v).sum=l.sum-l[i]+v
 |a::l,0,v,_=>by simp[List.set];omega
 |a::l,i+1,v,h=>by
  have:=Xg7 l i v (by simpa using h);simp[List.set,this];omega
theorem N6{l:List (Option ThM)}{x y:Option ThM}(h:l[o]?=some x):((l.set o y).map Bb).sum=(l.map Bb).sum-Bb x+Bb y:=by
 obtain⟨a,e⟩:=XC.1 h;rw[ZZ,Xg7 _ _ _ (by simpa using a)];simp[e]
theorem Xg6{m:Int}(hm:0<=m):∀l:List Int,(∀x∈l,0<=x/\x<=m)->0<=l.sum/\l.sum<=l.length*m
 |[],_=>by simp
 |a::l,h=>by
  have c:=Xg6 hm l λx b=>h x (YC _ b);have d:=h a (ZP ..);simp only[QF,XO,Int.natCast_add,QL,Int.natCast_one,QM];omega
section
variable {c:Conf}{s:StM}{pd:Option (Nat×PlcM)}
theorem Vp(h:s.OkP c pd):0<=Zs s/\Zs s<=8589934592:=by
 have f:c.cN<=4096:=by
  have:=h.may;unfold Zb at this;simp only[XK,decide_eq_true_eq,Qy] at this;omega
 have g:=(Ye h.may).cH;have i:=h.tl;have:=Xg6 (m:=2097152) (by omega) (s.th.map Bb) λx a=>by
  obtain⟨y,b,rfl⟩:=XP.1 a;cases y with
  |none=>exact⟨by decide,by decide⟩
  |some t=>
   obtain⟨o,d⟩:=List.mem_iff_getElem?.1 b;have:=h.size o t d;show 0<=t.size/\t.size<=2097152
   omega
 rw[XV] at this;rw[He];omega
theorem Xar(h:s.Ok c)(k:Nat)(n:Int):Zs (Yo s k n)=Zs s:=by
 unfold Yo;cases hm:Xy s (k:Nat) with
 |none=>rfl
 |some m=>
  obtain⟨j,ej,d,a⟩:=At hm;obtain⟨⟨o,t,e1,e2,e3⟩,_⟩:=h.mv j m a;simp only
  split
  .rfl
  .rw[He,He];have b:Qw s m.who=t.size:=by rw[e1];exact Ey e2
   show((s.th.set m.who.toNat _).map Bb).sum=_
   rw[show m.who.toNat=o by omega,N6 e2,b];show _-t.size+t.size=_
   omega
theorem Xaq(c:Conf)(s:StM)(k:Nat):Zs (Yw c s k)=Zs s:=by unfold Zs;rw[(N4 c s k).1]
theorem XdE(h:s.Ok c)(κ:Int):Zs (Zh s κ)=Zs s:=by
 unfold Zh;split
 .rfl
 .exact Xar h _ _
theorem XdD{q:PlcM}(h:s.OkP c (some (o,q))):Zs (Cd c s q)=Zs s:=by
 unfold Cd;split
 .rfl
 .rw[Xar (StM.OkP.begin h.dropped _),Xaq];rfl
theorem XdF(o:Nat)(size:Int){x:Option ThM}(h:s.th[o]?=some x):Zs (Q3 c s (o:Nat) size)=Zs s-Bb x+size:=by
 rw[He,He];show((s.th.set (o:Int).toNat _).map Bb).sum=_
 rw[XB,N6 h];rfl
theorem Xiw(o:Int)(i n:Nat):Zs (Ah s o i n)=Zs s:=by
 unfold Ah;split
 .split
  .rfl
  .rfl
 .rfl
end
theorem Xg4{S:Sto}(h:Xq F Fr w S s by' mo)(hs:s.OkP S.c pd)(o:Int)(q:Plc)(i n:Nat)(hq:q.cL=(Y9 s o).cL)(hi:∀m,Xy s (Y9 s o).cL=some m->i+n<=m.size):Xf prog 110 #[Yq S,.int .i64 o,.agg (Xv q).toArray,.int .i64 i,.int .i64 n] w (λ_ w'=>Ek F w w' S (Ah s o i n) by'):=by
 obtain⟨f1,f2,f3⟩:=OkP.few hs;have noF:∀{S:Nat->Prop} {w w':dD},Xc Xe w w'->Xc S w w':=λh=>h.gr;refine aR func110 ntmps110 aA (bC aA λb I e1 g d H=>?_);have f:=h.bQ d;refine aQ 15 Xe (by kernel_rfl) aA λa=>aE a g aA ?_;rw[hq];refine aH a (λw' x=>Lt (f.bQ x) hs (Y9 s o).cL) aA ?_;cases hm:Xy s (Y9 s o).cL with
 |none=>
  have e:Ah s o i n=s:=by unfold Ah;rw[hm]
  rw[e];exact Xd.no Xb a rfl rfl rfl (aF a aA λC c=>bE func110 aA (.of (f.bQ c) (noF (d.trans c))))
 |some m=>
  obtain⟨k,ek,J,r⟩:=At hm;obtain⟨mb,v⟩:=Uj f r;have y:=hi m hm;rw[ek] at hq;refine Xd.yes Xb a rfl rfl rfl (aE a f.obj aA (aE a g aA ?_));rw[hq];refine Xd.index Xb a rfl (j:=k*6) (by omega) (show(k:Int)<(s.mv.length:Nat) by omega) (by simp) rfl (aD a (f.mcell v (i:=1) (by decide) rfl) aA (aF a aA λC c=>?_));have l:=f.bQ c;by_cases p:m.who=o
  .have e:Ah s o i n=Ql {s with bs:=E0 s.bs m.f m.t m.cE i n} (Q5 i n m.cE):=by unfold Ah;rw[hm];simp only;rw[bK p]
   rw[e];refine aM aA (by rw[p];simp) (aQ 11 Xe (by kernel_rfl) aA λa=>aE a l.obj aA (aE a (c.bP g) aA ?_));rw[hq];refine Xd.index Xb a rfl (j:=k*6) (by omega) (show(k:Int)<(s.mv.length:Nat) by omega) (by simp) rfl (aD a (l.mcell v (i:=0) (by decide) rfl) aA (aF a aA λD t=>?_));have A:=l.bQ t;refine aP aA (Xko S.A (Fi S s) (Fp mb m) m.cE i n D (A.mvOk hs v) y) ?_;rintro _ K ⟨rfl,B,u⟩;refine aN aA ?_;rw[Xod h.amb] at B;obtain⟨L,M,N,_⟩:=Kr hs r;have E:(E0 s.bs m.f m.t m.cE i n).length=s.bs.length:=by
    unfold E0;split
    .rfl
    .unfold Q5;exact P7 (by omega) (by omega)
   exact bE func110 aA (.of (A.arena' u B.ar E) ((noF ((d.trans c).trans t)).trans (u.mono λz _ G=>h.footF z G)))
  .have e:Ah s o i n=s:=by unfold Ah;rw[hm];simp only;rw[bJ p]
   rw[e];exact aI aA (by simpa using p) (bE func110 aA (.of l (noF (d.trans c))))
def Jr(F:Nat->Prop)(w:dD)(S:Sto)(s:StM)(e:Int)(v:dE)(w':dD):Prop:=v=.int .i64 e/\Ek F w w' S s (Zs s)
theorem Xnp{S:Sto}(h:Xq F Fr w S s (Zs s) mo)(hs:s.Ok S.c)(o size:Int):Xf prog 70 #[Yq S,.int .i64 o,.int .i64 size] w (Jr F w S (Ab S.c s o size) (Cn S.c s o size)):=by
 have noF:∀{S:Nat->Prop} {w w':dD},Xc Xe w w'->Xc S w w':=λh=>h.gr;have same:∀{w'},Xc Xe w w'->Cn S.c s o size≠0->Ek F w w' S (Ab S.c s o size) (Zs (Ab S.c s o size)):=λg r=>by
  have e:Ab S.c s o size=s:=by unfold Ab;rw[bJ r]
  rw[e];exact .of (h.bQ g) (noF g)
 have u:=Vp hs;refine aR func70 ntmps70 aA (aP aA (So h (Xc.refl _ _) hs o) ?_);rintro _ A ⟨⟨q,rfl,_⟩,f⟩;refine aN aA (bC aA λb B e2 i k v=>bF i aA λC x l y=>?_);have a:=(f.trans k).bU l (λz D e=>by have:=f.size;omega);by_cases e1:Z7 s o=1
 .have e:Cn S.c s o size=1:=by unfold Cn;rw[bK e1]
  rw[e1];exact bI aA (bE func70 aA ⟨by rw[e];rfl,same a (by rw[e];decide)⟩)
 .refine aI aA (by simpa using e1) ?_;by_cases c:Z7 s o=0
  .have e:Cn S.c s o size=10:=by unfold Cn;rw[bJ e1,bK c]
   rw[c];exact bI aA (bE func70 aA ⟨by rw[e],same a (by rw[e];decide)⟩)
  .have e:Cn S.c s o size=Yt S.c s size:=by unfold Cn;rw[bJ e1,bJ c]
   have m:=h.bQ a;refine aI aA (by simpa using c) (bG (Xck m hs size) aA λE d=>?_);by_cases hf:Yt S.c s size=0
   .rw[hf];refine aS aA ?_;obtain⟨j,rfl,t,n⟩:=Xbq e1 c;have eA:Ab S.c s (j:Nat) size=Q3 S.c s (j:Nat) size:=by unfold Ab;rw[bK (by rw[e];exact hf)]
    refine aP aA (Xg1 (m.bQ d) hs t hf (StM.OkP.lay hs n hf (by rintro _ _ ⟨⟩)) (by omega)) ?_;rintro _ G p;have eb:Zs (Ab S.c s (j:Nat) size)=Zs s+size:=by rw[eA,XdF j size n];show _-0+_=_;omega
    exact aN aA (bE func70 aA ⟨by rw[e,hf],by rw[eb,eA];exact .trans (λ_ h=>.inl h) (noF (a.trans d)) p⟩)
   .exact aM aA (by simpa using hf) (bE func70 aA ⟨by rw[e],same (a.trans d) (by rw[e];exact hf)⟩)
theorem Xns{S:Sto}(h:Xq F Fr w S s (Zs s) mo)(hs:s.Ok S.c)(o:Int):Xf prog 53 #[Yq S,.int .i64 o] w (Jr F w S (Bn S.c s o) (Z7 s o)):=by
 have noF:∀{S:Nat->Prop} {w w':dD},Xc Xe w w'->Xc S w w':=λh=>h.gr;have a8:=Vp hs;refine aR func53 ntmps53 aA (aP aA (So h (Xc.refl _ _) hs o) ?_);rintro _ w1 ⟨⟨q,rfl,N,a9,aa,ab⟩,y⟩;have ac:=y.size;refine aN aA (bC aA λtb w2 e2 G O ad=>bF G aA λw3 b P ae=>?_);have c:=(y.trans O).sn P;have A:¬F tb:=λa=>by have:=h.low tb a;omega
 by_cases i:Z7 s o=0
 .obtain⟨j,t,rfl,ht⟩:=J0 i;have Q:q.cL=t.q.cL:=by have:=congrArg PlcM.cL N;rw[Qr ht] at this;exact this
  rw[(Ey ht)] at b;have eF:Bn S.c s (j:Nat)=Cd S.c {Zh s t.q.cL with th:=(Zh s t.q.cL).th.set j none} (Y9 (Zh s t.q.cL) (j:Nat)):=by
   unfold Bn;rw[bJ (λh=>h i),Qr ht,XB]
  obtain⟨t',u,g2,g3,g4,g5⟩:=Og hs ht;have R:=((Mi hs t.q.cL).ok).away u g5;rw[Qr u] at eF;have H:Zs (Bn S.c s (j:Nat))=Zs s-t.size:=by
   rw[eF,XdD R,He];show(((Zh s t.q.cL).th.set j none).map Bb).sum=_
   rw[N6 u,<-He,XdE hs];show _-t'.size+0=_
   omega
  have af:=hs.size j t ht;have ag:=(Ye hs.may).cH;rw[i];refine aS aA (bB b aA ?_);rw[Q];refine aP aA (Xg0 (h.bQ c) hs t.q.cL) ?_;rintro _ w4 ⟨T,ah,ai,v,k,B⟩;refine aN aA ?_;have I:¬T tb:=λa=>(k tb a).elim A (by have:=Xg b;omega);obtain⟨al,C⟩:=v.th;obtain⟨l,U,k2,V,k4,k5⟩:=C.2.2.1 j t' u;refine bB v.obj aA (Xa.lookup Xb rfl (C.1) ((show Bv al _ (j:Nat) false=.agg (Fe t'.size l).toArray from by unfold Bv;rw[k2];rfl)) rfl (Xa.field Xb rfl (show Value.agg ((Fe t'.size l).toArray.extract 1 5)=.agg (Xv l).toArray from rfl) rfl (bC aA λpb w5 e5 J W aj=>bF J aA λw6 K a0 ak=>?_)));have d:=W.sn a0;have g:=v.bQ d;have D:¬T pb:=λa=>by have:=v.low pb a;omega
  obtain⟨am,m⟩:=g.th;refine bB g.obj aA (Xa.mapdel Xb rfl (m.1) λw7 L f an=>aN aA ?_);have h7:=g.setTh f (m.del (o:=j) L f g.f2.2.2.2.1);refine aQ 6 Xe (by kernel_rfl) aA λM=>aE M h7.obj aA (aE M (f.heap (d.bP (B.heap b A)) (λe=>I (e▸g.f2.2.2.2.1))) aA (aF M aA λw8 n=>?_));have x:=h7.bQ n;refine aV aA (bF x.obj aA λw9 a2 p ao=>?_);have r:=((f.mono λz _ e=>e▸g.f2.2.2.2.1).trans (noF n)).trans (p.mono λz _ e=>e▸x.f2.1);have a3:Zp w9 l:=⟨((V.bQ d).rd).bW k4 r,V.len⟩;refine bB (p.heap (n.bP (f.heap K (λe=>D (e▸g.f2.2.2.2.1)))) (λe=>D (e▸x.f2.1))) aA (aP aA (XgZ (x.setBy (by2:=Zs s-t.size) p a2) l (by rw[U];exact R) a3) ?_);rintro _ ap E;refine aN aA ?_;rw[U] at E;exact bE func53 aA ⟨rfl,by rw[H,eF];exact .trans (λz a=>(k z a).imp id (by omega)) ((((noF c).trans B).trans (noF d)).bU r (λz a hf=>(k z hf).elim id (by omega))) E⟩
 .have e:Bn S.c s o=s:=by unfold Bn;rw[bK i]
  exact aM aA (by simpa using i) (bE func53 aA ⟨rfl,by rw[e];exact .of (h.bQ c) (noF c)⟩)
theorem V2(hs:s.OkP c pd){o i n:Int}(h:Qo s o i n=0):∃(j:Nat),∃t,∃i' n':Nat,o=j/\s.th[j]?=some (some t)/\i=i'/\n=n'/\(i'+n':Int)<=t.size/\Qt c t.q.cQ i' n'=0/\t.q.bS.length<=4096:=by
 obtain⟨j,t,e1,e2,e3,e4,e5⟩:=V1 h;obtain⟨a,d,b⟩:=Jc hs e2;obtain⟨i',rfl⟩:=XE e3;obtain⟨n',rfl⟩:=XE e4;exact⟨j,t,i',n',e1,e2,rfl,rfl,e5,Kh a (by omega) (by omega) (by omega),b⟩
theorem La{qm:PlcM}(e:Xx q=qm){i n:Int}(h:Qt c qm.cQ i n=0):Qt c q i n=0:=by rw[Xaw,e];exact h
theorem Xl.from'{base' size:Nat}(h:Xl base t size w v m xs)(hb:base'<=base):Xl base' t size w v m xs:=by
 obtain⟨b,a⟩:=h;refine⟨b,?_⟩;rcases a with a|⟨g,cap,cur,e,c,r⟩
 .exact .inl a
 .exact .inr ⟨g,cap,cur,e,by omega,r⟩
theorem XnD{S:Sto}(h:Xq F Fr w S s (Zs s) mo)(hs:s.Ok S.c)(o i:Int)(a:Option Addr)(cap:Nat)(l:List Int)(hi : -9223372036854775808<=i/\i<=9223372036854775807)(hr:Rd .u8 w a l)(hlc:l.length<=cap)(hl:l.length<=9223372036854775807)(hin:Qi l)(hout:0<l.length->Xj F a):Xf prog 61 #[Yq S,.int .i64 o,.int .i64 i,.slice a l.length cap] w (Jr F w S (C9 S.c s o i l) (Qo s o i l.length)):=by
 have noF:∀{S:Nat->Prop} {w w':dD},Xc Xe w w'->Xc S w w':=λh=>h.gr;refine aR func61 ntmps61 aA (aP aA (Xg3 h (Xc.refl _ _) hs o i l.length hi (by omega)) ?_);rintro _ T ⟨⟨q,rfl,b,B,C,O⟩,p⟩;have P:=p.size;refine aN aA (bC aA λtb U e2 x D Q=>bF x aA λV f E R=>?_);have c:=(p.trans D).sn E;have H:¬F tb:=λG=>by have:=h.low tb G;omega
 have y:=h.bQ c;by_cases g:Qo s o i l.length=0
 .obtain⟨j,t,i',n',rfl,ht,rfl,W,h5,I,J⟩:=V2 hs g;obtain rfl:l.length=n':=by omega
  have K:=Qr ht;rw[K] at b;have eW:C9 S.c s (j:Nat) (i':Nat) l=Ah (Yp S.c s t.q i' l) (j:Nat) i' l.length:=by unfold C9;rw[bK g,K,XB]
  rw[g];refine aS aA (aQ 8 Xe (by kernel_rfl) aA λA=>aE A y.obj aA (aE A f aA (aF A aA λw4 n=>?_)));have d:=c.trans n;refine aP aA (XgV (y.bQ n) hs.may hs.bl q i' a cap l (B.bQ d) C (La b I) (by rw[show q.bS=t.q.bS from congrArg PlcM.bS b];exact J) (hr.bR d) hlc hin hout) ?_;rintro _ w5 ⟨rfl,r,u⟩;refine aN aA ?_;rw[b] at r;have v:=Qr (s:=Yp S.c s t.q i' l) ht;have L:∀m,Xy (Yp S.c s t.q i' l) (Y9 (Yp S.c s t.q i' l) (j:Nat)).cL=some m->i'+l.length<=m.size:=λm hm=>by
   rw[v] at hm;obtain⟨k,ek,_,M⟩:=At hm;have:=Rn hs (k:=k) (m:=m) M ht ek;omega
  refine bB (u.heap (n.bP f) H) aA (aP aA (Xg4 r (hs.put t.q i' hin) (j:Nat) q i' l.length (by rw[v,<-b];rfl) L) ?_);rintro _ w6 N;exact aN aA (bE func61 aA ⟨rfl,by rw[eW,Xiw];exact .trans (λ_ h=>.inl h) ((noF d).trans u) N⟩)
 .have e:C9 S.c s o i l=s:=by unfold C9;rw[bJ g]
  exact aM aA (by simpa using g) (bE func61 aA ⟨rfl,by rw[e];exact .of y (noF c)⟩)
theorem Xnw{S:Sto}(h:Xq F Fr w S s (Zs s) mo)(hs:s.Ok S.c)(o i n:Int)(hi : -9223372036854775808<=i/\i<=9223372036854775807)(hn : -9223372036854775808<=n/\n<=9223372036854775807):Xf prog 56 #[Yq S,.int .i64 o,.int .i64 i,.int .i64 n] w (λv w'=>∃u,v=.tuple #[u,.int .i64 (Qo s o i n)]/\Xl w.heap.size 5 1 w' u (Cp S.c s o i n).length ((Cp S.c s o i n).map (Value.int .u8))/\∃mo',Xq F Fr w' S (Co S.c s o i n) (Zs (Co S.c s o i n)) mo'/\Xc F w w'):=by
 have noF:∀{S:Nat->Prop} {w w':dD},Xc Xe w w'->Xc S w w':=λh=>h.gr;refine aR func56 ntmps56 aA (aP aA (Xg3 h (Xc.refl _ _) hs o i n hi hn) ?_);rintro _ w1 ⟨⟨q,rfl,d,C,D,U⟩,p⟩;have V:=p.size;refine aN aA (bC aA λtb g e2 r E W=>bF r aA λN x G a0=>?_);have a:=(p.trans E).sn G;have H:¬F tb:=λb=>by have:=h.low tb b;omega
 have y:=h.bQ a;by_cases c:Qo s o i n=0
 .obtain⟨j,t,i',n',rfl,ht,rfl,rfl,h5,I,J⟩:=V2 hs c;have A:=Qr ht;rw[A] at d;have eR:Co S.c s (j:Nat) (i':Nat) (n':Nat)=Ql s (Zi S.c t.q.cQ i' n'):=by unfold Co;rw[bK c,A,XB,XB]
  have eB:Cp S.c s (j:Nat) (i':Nat) (n':Nat)=Yg S.c t.q.cQ s.bs i' n':=by unfold Cp;rw[bK c,A,XB,XB]
  have B:(Yg S.c t.q.cQ s.bs i' n').length=n':=by unfold Yg;rw[XV,ZM]
  rw[c];have O:∀w',Xc Xe N w'->Xf prog 107 #[Fz S.v,.agg (Xv q).toArray,.int .i64 (i':Nat),.int .i64 (n':Nat)] w' (λv g=>Xc (Zy S.A) w' g/\∃f,v=.tuple #[f,.int .i64 0]/\Xq F Fr g S (Ql s (Zi S.c t.q.cQ i' n')) (Zs s) mo/\Xl w.heap.size 5 1 g f n' ((Yg S.c t.q.cQ s.bs i' n').map (Value.int .u8))):=λw' k=>by
   have K:=XgU (y.bQ k) hs.may hs.bl q i' n' (C.bQ (a.trans k)) D (La d I) (by rw[show q.bS=t.q.bS from congrArg PlcM.bS d];exact J);rw[d] at K;exact K.mono λv g ⟨f,e,P,Q,R⟩=>⟨Q,f,e,P,R.from' (by have:=a.size;have:=k.size;omega)⟩
  have a4:¬Zy S.A S.sb:=λb=>b.elim (Xs h.kds.1 h.kds.2.2.1 (by decide)) (λe=>by rw[h.amb] at e;exact Xs h.kds.1 h.kds.2.2.2.2.2 (by decide) (Option.some.inj e).symm);have a5:¬Zy S.A tb:=λb=>H (h.footF _ b);refine aS aA (aQ 11 (Zy S.A) (by kernel_rfl) aA λl=>aE l y.obj aA (aE l x aA (Xd.callQ l rfl rfl (O) ?_)));rintro _ w4 L ⟨f,rfl,T,M⟩;refine Xd.adv Xb l rfl (aF l aA λw5 m=>?_);rw[eR,eB,B];exact bE func56 aA ⟨f,rfl,M.bR m (λ_ _=>id),_,T.bQ m,(((noF a).trans (L.mono λz _ b=>h.footF z b)).trans (noF m))⟩
 .have e:Co S.c s o i n=s:=by unfold Co;rw[bJ c]
  have eB:Cp S.c s o i n=[]:=by unfold Cp;rw[bJ c]
  rw[e,eB];exact aM aA (by simpa using c) (bE func56 aA ⟨_,rfl,⟨rfl,.inl ⟨rfl,rfl⟩⟩,_,y,noF a⟩)
theorem XhB(s:StM)(o:Int)(i n:Nat):(Ah s o i n).th=s.th:=by
 unfold Ah;split
 .split <;> rfl
 .rfl
theorem Xoe{t:ThM}(size:Int)(i n:Nat)(ht:s.th[o]?=some (some t)):Ah (Eb s (o:Nat) ⟨size,t.q⟩) (o:Nat) i n=Eb (Ah s (o:Nat) i n) (o:Nat) ⟨size,t.q⟩:=by
 have e1:Y9 (Eb s (o:Nat) ⟨size,t.q⟩) (o:Nat)=t.q:=by
  refine Qr (t:=⟨size,t.q⟩) ?_;show(s.th.set (o:Int).toNat _)[o]?=_
  rw[XB,XH ((XC.1 ht).1)]
 unfold Ah;rw[e1,Qr ht];have e2:Xy (Eb s (o:Nat) ⟨size,t.q⟩) t.q.cL=Xy s t.q.cL:=rfl;rw[e2];split
 .split <;> rfl
 .rfl
theorem Xnx{S:Sto}(h:Xq F Fr w S s (Zs s) mo)(hs:s.Ok S.c)(o size:Int):Xf prog 63 #[Yq S,.int .i64 o,.int .i64 size] w (Jr F w S (Ag S.c s o size) (A8 S.c s o size)):=by
 have noF:∀{S:Nat->Prop} {w w':dD},Xc Xe w w'->Xc S w w':=λh=>h.gr;have same:∀{w'},Xc Xe w w'->A8 S.c s o size≠0->Ek F w w' S (Ag S.c s o size) (Zs (Ag S.c s o size)):=λhc he=>by
  have e:Ag S.c s o size=s:=by unfold Ag;rw[bK he]
  rw[e];exact .of (h.bQ hc) (noF hc)
 have et:=Vp hs;have eu:=(Ye hs.may).cH;refine aR func63 ntmps63 aA (aP aA (So h (Xc.refl _ _) hs o) ?_);rintro _ w1 ⟨⟨q,rfl,A,a9,C,av⟩,c8⟩;refine aN aA ?_;have ew:=c8.size;refine bC aA λtb w2 e2 cm d9 ex=>bF cm aA λw3 af da ey=>?_;have D:=(c8.trans d9).sn da;have N:¬F tb:=λa=>by have:=h.low tb a;omega
 have h3:=h.bQ D;by_cases e0:Z7 s o=0
 .obtain⟨j,t,rfl,ht⟩:=J0 e0;have O:=Ey ht;have hQ:=Qr ht;have ez:=hs.size j t ht;have c9:=(XC.1 ht).1;rw[O] at af;rw[hQ] at A;rw[e0];refine aS aA ?_;by_cases g1:size<1\/S.c.cH<size
  .have e:A8 S.c s (j:Nat) size=3:=by unfold A8;rw[bJ (λh=>h e0),bK g1]
   by_cases g2:size<1
   .exact bI aA (bE func63 aA ⟨by rw[e],same D (by rw[e];decide)⟩)
   .exact aS aA (bB h3.obj aA (bI aA (bE func63 aA ⟨by rw[e],same D (by rw[e];decide)⟩)))
  .refine aS aA (bB h3.obj aA (aS aA (bB af aA (bG (XnF h3 t.size size (by omega) (by omega)) aA λw4 ca=>?_))));have T:=D.trans ca;have h4:=h.bQ T;have p:=ca.bP af;cases P:A0 S.c t.size size with
   |true=>
    have e:A8 S.c s (j:Nat) size=0:=by unfold A8;rw[bJ (λh=>h e0),bJ g1,O,bK P]
    rw[e];refine bI aA (bB p aA ?_);by_cases b5:size<t.size
    .obtain⟨i',rfl⟩:=XE (show 0<=size by omega);obtain⟨n',b6⟩:=XE (show 0<=t.size-(i':Int) by omega);obtain⟨pv,ph,pf⟩:=Jc hs ht;have db:q.bS=t.q.bS:=congrArg PlcM.bS A;refine Xa.yes Xb rfl (bN b5) rfl ?_;refine Xa.drawn (q:=11) Xe Xb Xo (by kernel_rfl) rfl ?_;intro d;refine Xd.cJ Xb d rfl h4.obj (by first|exact λh=>h|(intro h;omega)|assumption) rfl rfl ?_;refine Xd.loads Xb d rfl p (by first|exact λh=>h|(intro h;omega)|assumption) rfl rfl ?_;refine Xd.cJ Xb d rfl p (by first|exact λh=>h|(intro h;omega)|assumption) rfl rfl ?_;refine Xd.arith Xb d rfl (w64 (by omega)) rfl ?_;rw[b6];refine Xd.nil d ?_;intro w5 Q;refine aN rfl ?_;have l:=T.trans Q;refine aP rfl (XgW (h4.bQ Q) hs.may hs.bl q i' n' (a9.bQ l) C (La A (Kh pv (by omega) (by omega) (by omega))) (by rw[db];exact pf)) ?_;rintro _ w6 ⟨rfl,cb,R⟩;refine aN aA ?_;rw[A] at cb;have r:=R.heap (Q.bP p) N;have dc:=hs.put t.q i' (Sw n');have cc:=Qr (s:=Yp S.c s t.q i' (X6 n')) ht;have dd:∀m,Xy (Yp S.c s t.q i' (X6 n')) (Y9 (Yp S.c s t.q i' (X6 n')) (j:Nat)).cL=some m->i'+n'<=m.size:=λm hm=>by
      rw[cc] at hm;obtain⟨k,ek,_,de⟩:=At hm;have:=Rn hs (k:=k) (m:=m) de ht ek;omega
     refine bB r aA (bB r aA (aV aA ?_));rw[b6];refine aP aA (Xg4 cb dc (j:Nat) q i' n' (by rw[cc,<-A];rfl) dd) ?_;rintro _ wx ⟨Fx,Frx,mox,hx,cd,ce⟩;refine aN aA ?_;obtain⟨sx,esx⟩:∃sx,sx=Ah (Yp S.c s t.q i' (X6 n')) (j:Nat) i' n':=⟨_,rfl⟩;rw[<-esx] at hx;have U:sx.th=s.th:=by rw[esx,XhB];rfl
     have eR:Ag S.c s (j:Nat) (i':Nat)={sx with th:=sx.th.set j (some ⟨(i':Nat),t.q⟩)}:=by
      unfold Ag;rw[bJ (λh=>h e),O,bK P,bK b5,hQ,XB,b6,XB,Xoe (s:=Yp S.c s t.q i' (X6 n')) _ _ _ ht,<-esx];unfold Eb;rw[XB]
     have E:Zs (Ag S.c s (j:Nat) (i':Nat))=Zs s+((i':Int)-t.size):=by
      rw[eR,He];show((sx.th.set j _).map Bb).sum=_
      rw[U,N6 ht,<-He];show _-t.size+(i':Int)=_
      omega
     have V:=(noF l).trans R;have ab:∀z,Fx z->F z\/w.heap.size<=z:=λz a=>(cd z a).imp id (by have:=V.size;omega);have G:=V.trans ce;have u:=ce.heap r N;have ag:¬Fx tb:=λa=>(cd tb a).elim N (by have:=Xg r;omega);have b7:Zp wx q:=⟨a9.rd.bW C G,a9.len⟩;have ah:Xj Fx q.pa:=λb' off s' e a=>(ab b' a).elim (C b' off s' e) (by have:=Dg (av.i b' off s' e);omega);have ai:=av.bR G C;refine aQ 9 Xe (by kernel_rfl) aA λd=>aE d hx.obj aA (aE d u aA (Xd.build Xb d rfl rfl (aF d aA λwy i=>?_)));have H:=hx.bQ i;have aj:=i.bP u;obtain⟨al,B⟩:=H.th;refine Xa.mapset Xb rfl (B.1) λwz b8 f df=>aN aA ?_;have b9:=B.put (o:=j) (size:=((i':Nat):Int)) (q:=q) (qm:=t.q) A (by rw[U];exact c9) b8 f H.f2.2.2.2.1 (b7.bQ i) ah (ai.bQ i);have a:=H.setTh f b9;have ak:=f.heap aj (λe=>ag (e▸H.f2.2.2.2.1));refine aQ 8 Xe (by kernel_rfl) aA λd=>aE d a.obj aA (aE d ak aA (aC d aA (aF d aA λwu I=>aV aA (bF ((a.bQ I).obj) aA λwv ba ac dg=>?_))));have hv:=(a.bQ I).setBy (by2:=Zs s+(((i':Nat):Int)-t.size)) ac ba;have am:=(((noF i).trans (f.mono λz _ e=>e▸H.f2.2.2.2.1)).trans (noF I)).trans (ac.mono λz _ e=>e▸a.f2.1);exact bE func63 aA ⟨rfl,by rw[E,eR];exact .trans ab G (.of hv am)⟩
    .have eR:Ag S.c s (j:Nat) size={s with th:=s.th.set j (some ⟨size,t.q⟩)}:=by
      unfold Ag;rw[bJ (λh=>h e),O,bK P,bJ b5,hQ];unfold Eb;rw[XB]
     have E:Zs (Ag S.c s (j:Nat) size)=Zs s+(size-t.size):=by
      rw[eR,He];show((s.th.set j _).map Bb).sum=_
      rw[N6 ht,<-He];show _-t.size+size=_
      omega
     refine aS aA ?_;obtain⟨wx,ewx⟩:∃wx,wx=w4:=⟨_,rfl⟩;obtain⟨Fx,eFx⟩:∃Fx,Fx=F:=⟨_,rfl⟩;rw[<-ewx];have hx:Xq Fx Fr wx S s (Zs s) mo:=by rw[eFx,ewx];exact h4
     have u:=p;rw[<-ewx] at u;have ag:¬Fx tb:=by rw[eFx];exact N
     have ab:∀z,Fx z->F z\/w.heap.size<=z:=λz a=>.inl (by rw[<-eFx];exact a);have G:Xc F w wx:=by rw[ewx];exact noF T
     have U:s.th=s.th:=rfl;have b7:Zp wx q:=⟨a9.rd.bW C G,a9.len⟩;have ah:Xj Fx q.pa:=λb' off s' e a=>(ab b' a).elim (C b' off s' e) (by have:=Dg (av.i b' off s' e);omega);have ai:=av.bR G C;refine aQ 9 Xe (by kernel_rfl) aA λd=>aE d hx.obj aA (aE d u aA (Xd.build Xb d rfl rfl (aF d aA λwy i=>?_)));have H:=hx.bQ i;have aj:=i.bP u;obtain⟨al,B⟩:=H.th;refine Xa.mapset Xb rfl (B.1) λwz b8 f df=>aN aA ?_;have b9:=B.put (o:=j) (size:=size) (q:=q) (qm:=t.q) A (by rw[U];exact c9) b8 f H.f2.2.2.2.1 (b7.bQ i) ah (ai.bQ i);have a:=H.setTh f b9;have ak:=f.heap aj (λe=>ag (e▸H.f2.2.2.2.1));refine aQ 8 Xe (by kernel_rfl) aA λd=>aE d a.obj aA (aE d ak aA (aC d aA (aF d aA λwu I=>aV aA (bF ((a.bQ I).obj) aA λwv ba ac dg=>?_))));have hv:=(a.bQ I).setBy (by2:=Zs s+(size-t.size)) ac ba;have am:=(((noF i).trans (f.mono λz _ e=>e▸H.f2.2.2.2.1)).trans (noF I)).trans (ac.mono λz _ e=>e▸a.f2.1);exact bE func63 aA ⟨rfl,by rw[E,eR];exact .trans ab G (.of hv am)⟩
   |false=>
    have e:A8 S.c s (j:Nat) size=Yt S.c s size:=by unfold A8;rw[bJ (λh=>h e0),bJ g1,O,bJ (by rw[P];decide)]
    refine aS aA (bG (Xck h4 hs size) aA λw5 Q=>?_);have l:=T.trans Q;have bb:=Q.bP p;by_cases hf:Yt S.c s size=0
    .rw[hf];refine aS aA ?_;obtain⟨t',M⟩:=Rt hs ht P hf;have dh:q.cL=t.q.cL:=congrArg PlcM.cL A;refine Xa.cJ Xb rfl bb rfl rfl ?_;rw[dh];refine aP aA (Xg0 (h.bQ l) hs t.q.cL) ?_;rintro _ w6 ⟨F6,di,dj,h6,bc,R⟩;refine aN aA ?_;have r:=R.heap bb N;have f0:=l.size;have f1:=R.size;have V:=(noF l).trans R;obtain⟨n,bd⟩:∃n,n=Zh s t.q.cL:=⟨_,rfl⟩;obtain⟨M1,M2,M3,M4,M5,M6,M7,W⟩:=M;have be:=XdE hs t.q.cL;have eR:Ag S.c s (j:Nat) size=Ka S.c s (j:Nat) size:=by unfold Ag;rw[bJ (λh=>h (e.trans hf)),O,bJ (by rw[P];decide)]
     have eM:Ka S.c s (j:Nat) size=Cd S.c (Yp S.c (Q3 S.c (Ql n (Zi S.c t'.q.cQ 0 (min t.size size).toNat)) (j:Nat) size) (Y9 (Q3 S.c (Ql n (Zi S.c t'.q.cQ 0 (min t.size size).toNat)) (j:Nat) size) (j:Nat)) 0 (Yg S.c t'.q.cQ n.bs 0 (min t.size size).toNat)) t'.q:=by
      unfold Ka;simp only
      rw[Qr ht,Ey ht,<-bd,Qr (bd▸M2)]
     rw[<-bd] at h6 M1 M2 M6 M7 W be;obtain⟨m,em⟩:=XE (show 0<=min t.size size by omega);rw[em,XB] at eM W;have dm:0<m:=by omega
     obtain⟨al,B⟩:=h6.th;obtain⟨L,k1,k2,k3,k4,k5⟩:=B.2.2.1 j t' M2;obtain⟨pv,ph,pf⟩:=Jc M1 M2;have bg:=(XC.1 M2).1;refine bB h6.obj aA (Xa.lookup Xb rfl (B.1) ((show Bv al _ (j:Nat) false=.agg (Fe t'.size L).toArray from by unfold Bv;rw[k2];rfl)) rfl (Xa.field Xb rfl (show Value.agg ((Fe t'.size L).toArray.extract 1 5)=.agg (Xv L).toArray from rfl) rfl (bC aA λpb w7 e7 cu dn f2=>bF cu aA λw8 bh dq f3=>?_)));have J:=dn.sn dq;have h8:=h6.bQ J;have bi:=J.bP r;have aw:¬F6 pb:=λa=>by have:=h6.low pb a;omega
     have hd:∀w',Xc Xe w8 w'->Xf prog 107 #[Fz S.v,.agg (Xv L).toArray,.int .i64 0,.int .i64 (m:Nat)] w' (λv w2=>Xc (Zy S.A) w' w2/\∃u1,v=.tuple #[u1,.int .i64 0]/\Xq F6 di w2 S (Ql n (Zi S.c t'.q.cQ 0 m)) (Zs s) dj/\Xl w8.heap.size 5 1 w2 u1 m ((Yg S.c t'.q.cQ n.bs 0 m).map (Value.int .u8))):=λw' bk=>by
      have hh:=XgU (h8.bQ bk) M1.may M1.bl L 0 m (k3.bQ (J.trans bk)) k4 (La k1 (Kh pv (by omega) (by omega) (by omega))) (by rw[show L.bS=t'.q.bS from congrArg PlcM.bS k1];exact pf);rw[k1] at hh;exact hh.mono λv w2 ⟨u1,e,a1,a2,a3⟩=>⟨a2,u1,e,a1,a3.from' bk.size⟩
     have f4:¬Zy S.A S.sb:=λa=>a.elim (Xs h.kds.1 h.kds.2.2.1 (by decide)) (λe=>by rw[h.amb] at e;exact Xs h.kds.1 h.kds.2.2.2.2.2 (by decide) (Option.some.inj e).symm);have ds:¬Zy S.A tb:=λa=>N (h.footF _ a);have dt:¬Zy S.A pb:=λa=>aw (h6.footF _ a);have emin:(if size<t.size then size else t.size)=(m:Int):=by rw[<-em];split <;> omega
     refine aQ 14 (Zy S.A) (by kernel_rfl) aA λd=>aE d h8.obj aA (aE d bh aA (aE d bi aA ?_));rw[emin];refine Xd.callQ d rfl rfl (hd) ?_;rintro _ w9 bm ⟨u1,rfl,h9,du⟩;refine Xd.adv Xb d rfl (aF d aA λf5 K=>?_);have cf:=h9.bQ K;have cw:=bm.heap bi ds;have cx:=bm.heap bh dt;obtain⟨g,cap,cur,rfl,f6,dv,cy,f7,ax⟩:=du.form dm;rw[ZQ] at ax;have a0:(Yg S.c t'.q.cQ n.bs 0 m).length=m:=by unfold Yg;rw[XV,ZM]
     have cz:=K.bP dv;have bn:¬F6 g:=λa=>by have:=h8.low g a;omega
     have bu:=K.bP cw;have bv:=K.bP cx;refine aQ 6 Xe (by kernel_rfl) aA λd=>aE d cf.obj aA (aE d bu aA (aF d aA λf8 a4=>?_));have ad:=cf.bQ a4;have bw:=a4.bP bv;have d0:=a4.bP cz;have dw:=Vp M6;have dx:Zs {n with th:=n.th.set j none}=Zs s-t.size:=by
      rw[He];show((n.th.set j none).map Bb).sum=_
      rw[N6 M2,<-He,be];show _-t'.size+0=_
      omega
     rw[dx] at dw;refine aV aA (bF ad.obj aA λf9 d1 a5 el=>?_);have cg:=ad.setBy (by2:=Zs s-t.size) a5 d1;have ay:=a5.heap bw (λe=>aw (e▸ad.f2.1));have bo:=a5.heap d0 (λe=>bn (e▸ad.f2.1));have a6:=(((bm.mono λz _ a=>h6.footF z a).trans (noF K)).trans (noF a4)).trans (a5.mono λz _ e=>e▸ad.f2.1);have az:=((V.trans (noF J)).bU a6 (λz a hf=>(bc z hf).elim id (by omega)));obtain⟨sc,esc⟩:∃sc,sc=Ql n (Zi S.c t'.q.cQ 0 m):=⟨_,rfl⟩;have dy:=esc▸StM.OkP.tot M1 _;have aq:sc.th=n.th:=by rw[esc];rfl
     rw[<-esc] at cg W eM;have dz:Yt S.c sc size=0:=by rw[esc];exact M7
     refine aP aA (Xg1 cg dy (by rw[aq];exact bg) dz W (by omega)) ?_;rintro _ e1 ⟨b0,en,eo,ae,a7,a8⟩;refine aN aA ?_;have ep:=a6.size;have bx:¬b0 pb:=λa=>(a7 pb a).elim aw (by have:=Xg ay;omega);have bz:¬b0 g:=λa=>(a7 g a).elim bn (by have:=Xg bo;omega);have c0:=a8.heap ay aw;have d2:=a8.heap bo bn;obtain⟨s2,bp⟩:∃s2,s2=Q3 S.c sc (j:Nat) size:=⟨_,rfl⟩;have ar:s2.th[j]?=some (some ⟨size,Yl S.c sc (j:Nat) size⟩):=by
      rw[bp];show(sc.th.set (j:Int).toNat _)[j]?=_
      rw[XB,XH (by rw[aq];exact bg)]
     have d3:Zs s2=Zs s-t.size+size:=by
      rw[bp,XdF j size (x:=some t') (by rw[aq];exact M2)];have:Zs sc=Zs s:=by rw[esc,<-be];rfl
      rw[this];show _-t'.size+size=_
      omega
     rw[<-bp] at ae W eM;obtain⟨ch,e3,ci⟩:=Jc W ar;simp only at ch e3 ci
     obtain⟨d4,b1⟩:=ae.th;obtain⟨q2,j1,j2,j3,j4,j5⟩:=b1.2.2.1 j _ ar;simp only at j1 j2
     refine aQ 12 Xe (by kernel_rfl) aA λd=>aE d ae.obj aA (aE d ae.obj aA (Xd.lookup Xb d rfl (b1.1) (by first|(intro b h;cases h;assumption)|(intro b h hs;cases h;omega)) ((show Bv d4 _ (j:Nat) false=.agg (Fe size q2).toArray from by unfold Bv;rw[j2];rfl)) rfl (Xd.field Xb d rfl (show Value.agg ((Fe size q2).toArray.extract 1 5)=.agg (Xv q2).toArray from rfl) rfl (aF d aA λfa y=>?_))));have e5:=ae.bQ y;have d5:=y.bP d2;have c3:=y.bP c0;have d6:=Rd.of_take d5 (by rw[a0];exact ax);have cj:=XgV e5 W.may W.bl q2 0 (some ⟨g,0,none⟩) cap (Yg S.c t'.q.cQ n.bs 0 m) (j3.bQ y) j4 (La j1 (by rw[a0];exact Kh ch (by omega) (by omega) (by omega))) (by rw[show q2.bS=(Yl S.c sc (j:Nat) size).bS from congrArg PlcM.bS j1];exact ci) d6 (by rw[a0];exact cy) (Pt M1.bi 0 m) (λ_ b' off s' e=>by cases e;exact bz);rw[a0] at cj;refine aP aA (cj) ?_;rintro _ e6 ⟨rfl,ck,au⟩;refine aN aA ?_;rw[j1] at ck;have c4:=au.heap c3 bx;have c5:Xj b0 L.pa:=λb' off s' e a=>(a7 b' a).elim (k4 b' off s' e) (by have:=Dg (k5.i b' off s' e);omega);have br:Zp e1 L:=⟨((k3.bQ J).rd).bW k4 (a6.trans a8),k3.len⟩;have d7:Zp e6 L:=⟨((br.bQ y).rd).bW c5 au,br.len⟩;refine bB c4 aA ?_;have e8:=Qr ar;have bs:=W.put (Yl S.c sc (j:Nat) size) 0 (Pt (c:=S.c) (q:=t'.q.cQ) M1.bi 0 m);refine aP aA (XgZ ck L (by rw[k1];exact bs) d7) ?_;rintro _ fb b2;refine aN aA ?_;rw[k1] at b2;rw[e8] at eM;have E:Zs (Ag S.c s (j:Nat) size)=Zs s-t.size+size:=by
      rw[eR,eM,XdD bs,<-d3];rfl
     have cl:∀z,b0 z->F z\/w.heap.size<=z:=λz a=>(a7 z a).elim (λa=>(bc z a).imp id (by omega)) (by have:=az.size;omega);have c6:=az.bU a8 (λz a hf=>(bc z hf).elim id (by omega));have c7:=(c6.trans (noF y)).bU au (λz a hf=>(cl z hf).elim id (by omega));exact bE func63 aA ⟨by rw[e,hf],by rw[E,eR,eM];exact .trans cl c7 b2⟩
    .exact aM aA (by simpa using hf) (bE func63 aA ⟨by rw[e],same l (by rw[e];exact hf)⟩)
 .have e:A8 S.c s o size=Z7 s o:=by unfold A8;rw[bK e0]
  exact aM aA (by simpa using e0) (bE func63 aA ⟨by rw[e];rfl,same D (by rw[e];exact e0)⟩)
theorem Xgq{r:List dE}{x:Int}(hk:k<l.length):Z4 (l.map (Value.int .i64)++r) (0+k) [.int .i64 x]=some ((l.set k x).map (Value.int .i64)++r):=by
 have:=Rh (cells:=λn:Int=>[Value.int .i64 n]) (sz:=1) (λ_=>rfl) (xs:=l) (k:=k) (y:=x) (rest:=r) hk;have e:∀l:List Int,fl (λn:Int=>[Value.int .i64 n]) l=l.map (Value.int .i64):=λl=>by unfold fl;induction l with|nil=>rfl|cons a l ih=>simp[ZY,ih]
 rw[e,e,ZQ] at this;exact this
theorem Xny{S:Sto}(h:Xq F Fr w S s (Zs s) mo)(hs:s.Ok S.c)(k bV:Int):Xf prog 79 #[Yq S,.int .i64 k,.int .i64 bV] w (Jr F w S (C8 s k bV) (Ce s k bV)):=by
 obtain⟨f1,f2,f3⟩:=OkP.few hs;have same:Ce s k bV=1->Jr F w S (C8 s k bV) (Ce s k bV) (.int .i64 1) w:=λd=>by
  have e:C8 s k bV=s:=by unfold C8;rw[bJ (by rw[d];decide)]
  rw[e,d];exact⟨rfl,.of h (Xc.refl _ _)⟩
 refine aR func79 ntmps79 aA (bH (Xg2 h hs k) aA ?_);cases ht:Hh s k with
 |false=>
  have e:Ce s k bV=1:=by
   unfold Ce;rw[bK];unfold Hh at ht;simp only[Bool.and_eq_false_iff,decide_eq_false_iff_not] at ht;omega
  exact bI aA (bE func79 aA (same e))
 |true=>
  obtain⟨j,rfl,o⟩:=Xhf ht;refine aS aA (aT aA (λb=>?_) λb=>?_)
  .have e:Ce s (j:Nat) bV=1:=by unfold Ce;rw[bK];have:=bL b;omega
   exact bE func79 aA (same e)
  .have i:=bM b;refine aT aA (λc=>?_) λc=>?_
   .have e:Ce s (j:Nat) bV=1:=by unfold Ce;rw[bK];have:=bL c;omega
    exact bE func79 aA (same e)
   .have m:=bM c;have e:Ce s (j:Nat) bV=0:=by unfold Ce;rw[bJ];omega
    have eS:C8 s (j:Nat) bV={s with bV:=s.bV.set j bV}:=by unfold C8;rw[bK e,XB]
    have f:j<s.bV.length:=by omega
    refine bB h.obj aA (aU j aA (aL aA h.kee (Xgq (x:=bV) f) aA λp g a n=>?_));exact bE func79 aA ⟨by rw[e],by rw[eS];exact .of (h.setKeep (l:=s.bV.set j bV) (by rw[XG]) a g) (a.mono λz _ e=>e▸h.f2.2.1)⟩
theorem XnM{x:StM×Int}(h:x.2<1)(k:Nat):tickK c x k=x:=by unfold tickK;rw[bK h]
theorem XcE(h:(tickTo c s k).2<1):∀d,tickTo c s (k+d)=tickTo c s k
 |0=>rfl
 |d+1=>by rw[<-YR,Nn,XcE h d,XnM h]
theorem Xnm(h:Zb c=true):1<=c.step/\c.step<=65536:=by
 unfold Zb at h;simp only[XK,decide_eq_true_eq,Qy] at h;omega
theorem Tm{c:Conf}{s:StM}(h:s.Ok c):∀n,Zs (tickTo c s n).1=Zs s/\(tickTo c s n).1.mv.length=s.mv.length/\0<=(tickTo c s n).2/\(tickTo c s n).2<=65536
 |0=>by
  have:=Xnm h.may;exact⟨rfl,rfl,by show 0<=c.step;omega,by show c.step<=_;omega⟩
 |n+1=>by
  obtain⟨a,b,d,f⟩:=Tm h n;rw[Nn];unfold tickK;split
  .exact⟨a,b,d,f⟩
  .split
   .exact⟨(Xaq c _ n).trans a,(N4 c _ n).2.2.2.trans b,d,f⟩
   .refine⟨(Xar (StM.OkP.begin (StM.OkP.tickTo h n) n) n _).trans ((Xaq c _ n).trans a),((Xet _ n _).2.2.1).trans ((N4 c _ n).2.2.2.trans b),?_⟩;rename_i m hm
    have:(Zv m (tickTo c s n).2:Int)<=(tickTo c s n).2:=by unfold Zv Ed;omega
    simp only
    omega
theorem XnC{S:Sto}(h:Xq F Fr w S s (Zs s) mo)(hs:s.Ok S.c):Xf prog 78 #[Yq S] w (Jr F w S (Ec S.c s) 0):=by
 obtain⟨f1,f2,f3⟩:=OkP.few hs;have fin:∀{k w'},Ek F w w' S (tickTo S.c s k).1 (Zs s)->tickTo S.c s s.mv.length=tickTo S.c s k->Jr F w S (Ec S.c s) 0 (.int .i64 0) w':=λ{k w'} ht o=>by
  unfold Ec;rw[o];exact⟨rfl,by rw[(Tm hs k).1];exact ht⟩
 refine aR func78 ntmps78 aA (bB h.obj aA ?_);refine Xa.loop (α:=Nat) (λk=>[(0,false,Yq S),(3,false,.int .i64 (tickTo S.c s k).2),(4,false,.func (.func 129) #[Yq S] #[]),(5,false,.int .i64 k)])
  (λk w'=>Ek F w w' S (tickTo S.c s k).1 (Zs s)/\k<=s.mv.length) (λk=>s.mv.length-k) 0 ⟨rfl,rfl,rfl,rfl,trivial⟩ ⟨.of h (Xc.refl _ _),by omega⟩ ?_
 rintro k E ⟨⟨G,q,r,j,a,b⟩,H⟩ ih;obtain⟨I,J,K,L⟩:=Tm hs k;have c:=StM.OkP.tickTo hs k;have tsucc:=Nn S.c s k;obtain⟨x,ex⟩:∃x,x=tickTo S.c s k:=⟨_,rfl⟩;rw[<-ex] at j I J K L c tsucc⊢;have f:tickTo S.c s s.mv.length=tickTo S.c s k->Jr F w S (Ec S.c s) 0 (.int .i64 0) E:=λo=>fin ⟨G,q,r,by rw[<-ex];exact j,a,b⟩ o;refine aN aA (bB j.obj aA ?_);by_cases l:k<s.mv.length
 .refine bI aA ?_;by_cases P:0<x.2
  .refine bI aA (aP aA (XgY j c k (by omega)) ?_);rintro _ Q ⟨t,u,v,p,y,A⟩;have R:=b.size;have g:∀z,t z->F z\/w.heap.size<=z:=λz B=>(y z B).elim (a z) (by omega);have i:=b.bU A (λz B hf=>(a z hf).elim id (by omega));have n:=StM.OkP.begin c k;refine aN aA (bH (Lt p n (k:Nat)) aA ?_);cases hm:Xy (Yw S.c x.1 k) (k:Nat) with
   |none=>
    have et:tickTo S.c s (k+1)=(Yw S.c x.1 k,x.2):=by rw[tsucc];unfold tickK;rw[bJ (by omega),hm]
    refine aS aA (aV aA ?_);refine ih (k+1) _ _ ⟨⟨t,u,v,?_,g,i⟩,l⟩ (by omega) ?_
    .rw[et];exact p
    .rw[et];exact⟨rfl,rfl,rfl,rfl,trivial⟩
   |some m=>
    obtain⟨k',ek',N,C⟩:=At hm;obtain rfl:k=k':=by omega
    have et:tickTo S.c s (k+1)=(Yo (Yw S.c x.1 k) k x.2,x.2-Zv m x.2):=by rw[tsucc];unfold tickK;rw[bJ (by omega),hm]
    have O:(Zv m x.2:Int)<=x.2:=by unfold Zv Ed;omega
    refine bI aA ?_;refine aP rfl (Xcm p n C x.2) ?_;rintro _ T ⟨rfl,D⟩;refine aN aA ?_;refine Xa.arith Xb rfl (w64 (by omega)) rfl ?_;refine aV aA ?_;refine ih (k+1) _ _ ⟨?_,l⟩ (by omega) ?_
    .rw[et];exact .trans g i D
    .rw[et];exact⟨rfl,rfl,rfl,rfl,trivial⟩
  .refine aS aA ?_;exact bE func78 aA (f (by obtain⟨d,M⟩:=Nat.exists_eq_add_of_le H;rw[M];exact XcE (by rw[<-ex];omega) d))
 .refine aS aA ?_;exact bE func78 aA (f (by rw[show s.mv.length=k by omega]))
def Rm.relap(R:Rm)(l:Int):Rm:={R with dA:=l}
def Sto.relap(S:Sto)(l:Int):Sto:={S with R:=S.R.relap l}
theorem Zn.relap(h:Zn F w R M)(hb:R.mo=some b){t l:Int}(hm:Bf w' b t l)(hc:Xc (λz=>z=b) w w'):Zn F w' (R.relap l) {M with tot:=t}:=by
 obtain⟨n,p⟩:=h.met b hb;have kb:=Mp p;have g:∀z,z=b->F z:=λz e=>e▸n;have kp:=h.pool.kds;have j:=Xs kp.1 kb (by decide);have m:=Xs kp.2 kb (by decide);have ht:1≠b:=λe=>h.tf (e▸n);refine⟨{h.ok with tot:=by have:=hm.2;show 0<=t/\t<=4611686018427387904;omega},hc.heap h.obj (λe=>h.rf (g _ e)),h.cL.bR hc g,h.kee.bR hc g,h.may,λb' c=>?_,λk q=>hc.cell (h.sl k q) (λe=>h.sf (g _ e)),h.pool.bR hc j m,h.pf,?_,h.lg.bR hc (λz _ h=>.inl (g z h)) (Xs (Ig h.lg) kb (by simp)),h.lf,h.rf,h.sf,λz i=>by have:=h.low z i;have:=hc.size;omega,h.tab.bR hc ht,h.tf,λz i=>⟨by have:=(h.xl z i).1;have:=hc.size;omega,(h.xl z i).2⟩⟩
 .replace c:R.mo=some b':=c;rw[hb] at c;cases c;exact⟨n,hm⟩
 .obtain⟨G,a,d⟩:=h.sh;refine⟨G,λk x r=>?_,d⟩;obtain⟨o,f,s⟩:=a k x r;have ap:=f.at'.apart kb (by decide);exact⟨o,⟨f.ok,f.pos,f.of,f.at'.bR hc (λz e=>e▸ap.1) (λz e=>e▸ap.2) ht,f.pool.bR hc (by rw[o];exact j) (by rw[o];exact m)⟩,s⟩
theorem Xq.relap{F Fr:Nat->Prop}{w w':dD}{S:Sto}{s:StM}{by':Int}{mo:Mo}(h:Xq F Fr w S s by' mo){l:Int}(hm:Bf w' S.mb s.rm.tot l)(hc:Xc (λz=>z=S.mb) w w'):Xq F Fr w' (S.relap l) s by' mo:=by
 obtain⟨i,j,n,o,p,a⟩:=h.kds;obtain⟨q,r,t,v,x,y⟩:=h.nF;have c:∀z,z=S.mb->F z:=λz e=>e▸h.mb.1;have f:=h.ca.bR hc c;have g:=h.ka.bR hc c;exact {h with
  obj:=hc.heap h.obj (Xs i a (by decide)),kee:=hc.heap h.kee (Xs j a (by decide)),cW:=h.cW.relap h.rmo hm hc,
  ar:=⟨hc.heap h.ar.obj (λe=>q (c _ e)),hc.heap h.ar.dat (Xs n a (by decide)),hc.heap h.ar.cap (λe=>r (c _ e)),λb d=>by
   replace d:S.A.mb=some b:=d;rw[h.amb] at d;cases d;exact hm,h.ar.len,h.ar.rng⟩,
  vw:=⟨hc.heap h.vw.obj (λe=>t (c _ e)),by
   show Yu w' S.v.c S.v.p
   have:=h.vw.cO;rw[h.vc,h.vp] at this⊢;exact⟨f.1,g.1,this.lc,this.lk,this.size⟩,h.vw.may⟩,
  th:=h.th.bW hc c (Xs o a (by simp)),mvs:=hc.heap h.mvs (Xs p a (by decide)),mob:=h.objAt hc (λk b m hm=>Xs (h.kdm hm) a (by decide)),ca:=f,ka:=g,
  low:=λz u=>by have:=h.low z u;have:=hc.size;omega}
theorem XnB{S:Sto}(h:Xq F Fr w S s by' mo)(b:Nat)(hb:Xch w b (Yq S)):Xf prog 124 [.pointer (some ⟨b,0,none⟩)].toArray w (λv w'=>∃n:Int,v=.int .i64 n/\n=s.rm.tot-S.R.dA/\Xq F Fr w' (S.relap s.rm.tot) s by' mo/\Xc (λz=>z=S.mb) w w'):=by
 refine aR func124 ntmps124 aA (aW aA (Cu (off:=0) hb rfl) aA (bB h.obj aA (aP aA (Xkg S.mb s.rm.tot S.R.dA w h.mb.2.2) ?_)));rintro _ c ⟨rfl,hm,a⟩;exact aN aA (bE func124 aA ⟨_,rfl,rfl,h.relap hm a,a⟩)
theorem XnA{S:Sto}(h:Xq F Fr w S s by' mo):Xf prog 71 #[Yq S] w (λv w'=>v=.int .i64 (s.rm.tot-S.R.dA)/\Xq F Fr w' (S.relap s.rm.tot) s by' mo/\Xc (λz=>z=S.mb) w w'):=by
 refine aR func71 ntmps71 aA (bC aA λb f e1 c a i=>aW aA (Cu (off:=0) c rfl) aA (aP aA (Xcl (S:=S) 124 [.pointer (some ⟨b,0,none⟩)] f _ (XnB (h.bQ a) b c)) ?_));rintro _ j ⟨n,rfl,rfl,g,d⟩;exact aN aA (bE func71 aA ⟨rfl,g,a.gr.trans d⟩)
theorem XiI(a:Option Addr)(cap:Nat)(x:List Int)(w:dD)(hr:Rd .i64 w a x)(hl:x.length<=1048576)(hn:∃a1,a=some a1):Xf prog 115 #[.slice a x.length cap] w
 (λv w'=>∃g c r,v=.slice (some ⟨g,0,none⟩) x.length c/\w.heap.size<=g/\w'.heap[g]?=some (.cells (x.map (Value.int .i64)++r).toArray 3 (0,0))/\x.length<=c/\Xc Xe w w'):=by
 have t:maxLen=9223372036854775807:=rfl;obtain⟨a1,rfl⟩:=hn;refine aR func115 ntmps115 aA (aS aA (Xa.buildSlice Xb rfl λb m e1 n d u=>aN aA ?_));subst e1;have i:Xl w.heap.size 3 1 m (.slice (some ⟨w.heap.size,0,none⟩) 0 0) 0 []:=Xl.empty (XF _) n;refine Xa.append (base:=w.heap.size) (xs:=[]) (news:=x.map (Value.int .i64)) Xb rfl i (by omega) (by simp) (hr.bR d).cells J1 ⟨by omega,by show(0+x.length)*8<=_;omega⟩ λv y f j k=>aN aA ?_;rw[XT,ZS] at f;have o:=i.bU d (XF _) j;rcases f.2 with⟨e,_⟩|⟨g,c,cur,rfl,p,q,s,z,_,l⟩
 .have:=(k.1.1 e).1;cases this
 .have h:cur=(x.map (Value.int .i64)++cur.toList.drop x.length).toArray:=by
   rw[ZQ] at l;rw[<-l,XY]
  exact bE func115 aA ⟨g,c,cur.toList.drop x.length,rfl,p,by rw[<-h];exact q,s,o⟩
theorem Sv:∀n,Y3 [.pointer none,.int .i64 0,.int .i64 0,.int .i64 0,.int .i64 0,.int .i64 0] n=fl Ep (List.replicate n none)
 |0=>rfl
 |n+1=>by rw[Y3,Sv n,YF];rfl
structure Ke(c:Conf)(w:dD)(g cap:Nat)(r:List dE)(mb tm vb:Nat):Prop where
 g:w.heap[g]?=some (.cells (c.bV.map (Value.int .i64)++r).toArray 3 (0,0))
 gc:c.bV.length<=cap
 m:Bf w mb 0 0
 t:Yx w tm []
 v:w.heap[vb]?=some (.cells (fl Ep (List.replicate c.bT.length none)).toArray 214 (0,0))
theorem Ke.bQ{r:List dE}{mb:Nat}(h:Ke c w g cap r mb tm vb)(hc:Xc Xe w w'):Ke c w' g cap r mb tm vb:=⟨hc.bP h.g,h.gc,h.m.bR hc,h.t.bR hc id,hc.bP h.v⟩
def O0(c:Conf)(p:Y4)(g cap mb tm vb:Nat)(a r v:dE):List dE:=Zj c p++[.slice (some ⟨g,0,none⟩) c.bV.length cap,.pointer (some ⟨mb,0,none⟩),a,r,v,.map (some tm),.slice (some ⟨vb,0,none⟩) c.bT.length c.bT.length,.int .i64 0]
theorem Ke.note{r:List dE}{mb:Nat}(h:Ke c w g cap r mb tm vb)(hc:Xc (λz=>z=xb) w w')(h1:g≠xb)(h2:mb≠xb)(h3:tm≠xb)(h4:vb≠xb):Ke c w' g cap r mb tm vb:=
 ⟨hc.heap h.g h1,h.gc,⟨hc.heap h.m.1 h2,h.m.2⟩,h.t.bR hc h3,hc.heap h.v h4⟩
theorem Zn.apart(h:Zn F w R M)(hcf:Yu w0 R.c R.p)(ht:Bi w0){l:List dE}{n:Int}(hx:w.heap[xb]?=some (.cells (.int .i64 n::l).toArray t fz))(h0:w0.heap.size<=xb)(hF:¬F xb)(htk:t≠352/\t≠348/\t≠3/\t≠221)(hc:Xc (λz=>z=xb) w w'):Zn F w' R M:=by
 have hm:=Ye h.may;have a:=X1 hx;refine h.other hc λz e=>e▸⟨hF,Xs (X1 h.obj) a (λe=>htk.2.2.2 (Option.some.inj (Option.some.inj e)).symm),λe=>?_,λe=>?_,λoff s e=>?_,λoff s e=>?_,?_,?_,λe=>?_⟩
 .have b:=h.sl 0 (by have:=hm.n;have:=h.ok.n;omega);rw[e,Ys hx] at b;cases b
 .have:=World.block_lt_of_cell? w0 _ (ht 0 (by decide));simp only at this
  omega
 .have:=hcf.bT.block (by have:=hm.n;omega) e;omega
 .have:=hcf.bV.block (by have:=hm.bV;have:=hm.n;omega) e;omega
 .rw[a];exact λe=>htk.1 (Option.some.inj (Option.some.inj e))
 .rw[a];exact λe=>htk.2.1 (Option.some.inj (Option.some.inj e))
 .rw[a] at e;exact absurd (Option.some.inj (Option.some.inj e)) htk.2.2.1
theorem Xno{p:Y4}{w7:dD}{mb vw:Nat}{r:List dE}(hc:Yu w c p)(ht:Bi w)(hcw:Xc Xe w w')(hm:Zb c=true)(hx:w'.heap[xb]?=some (.cells (O0 c p g cap mb tm vb (.pointer (some ⟨A.ab,0,none⟩)) (Cl R) (.pointer (some ⟨vw,0,none⟩))).toArray 159 (0,0)))(hN:Ke c w' g cap r mb tm vb)(hA:X8 w' A ⟨X6 (c.bS*c.size).toNat,0,0⟩)(hAm:A.mb=some mb)(hR:Zn Fr w' R (Ii c 0))(hRc:R.c=c)(hRp:R.p=p)(hRm:R.mo=some mb)(hRl:R.dA=0)(hRX:R.X=λz=>z=g)(hV:Bp w' ⟨vw,c,p,A.ab,some mb⟩)(hFr:∀z,Fr z->w7.heap.size<=z\/z=mb)(hFv:¬Fr vw)(h7:w.heap.size<=w7.heap.size)(l1:w.heap.size<=g/\g<w7.heap.size)(l2:w.heap.size<=mb)(l3:w.heap.size<=tm/\tm<w7.heap.size)(l4:w.heap.size<=vb/\vb<w7.heap.size)(l5:w.heap.size<=xb/\xb<w7.heap.size)(l6:w.heap.size<=A.db/\A.db<w7.heap.size)(l7:A.ab<w7.heap.size/\A.mc<w7.heap.size):∃F Fr S mo,Yq S=.pointer (some ⟨xb,0,none⟩)/\Xq F Fr w' S (Es c) 0 mo/\(S.c=c/\S.p=p)/\S.R.dA=0/\∀z,F z->w.heap.size<=z:=by
 have d:=Ye hm;have kx:=X1 hx;have kg:=X1 hN.g;have km:=Mp hN.m;have kt:=Ro hN.t;have kv:=X1 hN.v;have kd':=X1 hA.dat;have ka:=X1 hA.obj;have kc:=X1 hA.cap;have kw:=X1 hV.obj;have kr:=X1 hR.obj;have hz:(X6 (c.size*c.bS).toNat)=X6 (c.bS*c.size).toNat:=by rw[YQ]
 have nfr:∀{z:Nat},z<w7.heap.size->z≠mb -> ¬Fr z:=λx y h=>(hFr _ h).elim (by omega) y;have i:∀z,(Fr z\/z=xb\/z=g\/z=A.db\/z=tm\/z=vb)->w.heap.size<=z:=λz hz=>by
  rcases hz with hz|rfl|rfl|rfl|rfl|rfl
  .rcases hFr z hz with h|h <;> omega
  all_goals omega
 have f:=hR.sl 0 (by have:=d.n;have:=hR.ok.n;rw[hRc] at this;omega);have nsb:∀{b t:Nat} {v:dE} {l:List dE} {fz:Nat×Nat},w'.heap[b]?=some (.cells (v::l).toArray t fz)->v≠Cm (R.S 0)->R.sb≠b:=λD E e=>by
  rw[e,Ys D] at f;exact E (Option.some.inj f)
 have q:=d.bV;have M:=d.n;have sbt:R.sb≠tm:=λe=>by
  obtain⟨es,clock,B,_⟩:=hN.t;rw[e] at f;unfold World.cell? at f;simp[B] at f
 have sbg:R.sb≠g:=by
  obtain⟨C,kl,ek⟩:∃C kl,c.bV=C::kl:=by cases G:c.bV with|nil=>rw[G] at q;simp at q;omega|cons a b=>exact⟨a,b,rfl⟩
  have:=hN.g;rw[ek] at this;exact nsb this (λe=>by cases e)
 have sbv:R.sb≠vb:=by
  obtain⟨n,en⟩:∃n,c.bT.length=n+1:=⟨c.bT.length-1,by omega⟩;have:=hN.v;rw[en,YF] at this;exact nsb this (λe=>by cases e)
 have sbd:R.sb≠A.db:=by
  obtain⟨n,en⟩:∃n,(c.bS*c.size).toNat=n+1:=⟨(c.bS*c.size).toNat-1,by
   have x:1*64<=c.bS*c.size:=ZG (by have:=d.bS;omega) (by have:=d.size;omega) (by omega) (by have:=d.bS;omega);omega⟩
  have:=hA.dat;simp only[en,X6,YF] at this;exact nsb this (λe=>by cases e)
 have sbx:=nsb hx (λe=>by cases e);have tl:1<w.heap.size:=by have:=World.block_lt_of_cell? w _ (ht 0 (by decide));exact this
 have bW:∀{a:Option Addr} {l:List Int},Rd .i64 w a l->A3 (λz=>Fr z\/z=xb\/z=g\/z=A.db\/z=tm\/z=vb) w' a l:=λhr=>⟨hr.bR hcw,λH b off s e hz=>by have:=hr.block H e;have:=i b hz;omega⟩;have nF:∀{b:Nat},¬Fr b->b≠xb->b≠g->b≠A.db->b≠tm->b≠vb -> ¬(Fr b\/b=xb\/b=g\/b=A.db\/b=tm\/b=vb):=λI x y J K L hz=>by
  rcases hz with hz|hz|hz|hz|hz|hz
  .exact I hz
  .exact x hz
  .exact y hz
  .exact J hz
  .exact K hz
  .exact L hz
 have u:∀(k b:Nat) m,(List.replicate c.bT.length (none:Option (Nat×MvM)))[k]?≠some (some (b,m)):=λk b m e=>by
  have:=XW e;rw[Y2] at this;cases this.2
 refine⟨λz=>Fr z\/z=xb\/z=g\/z=A.db\/z=tm\/z=vb,Fr,⟨xb,c,p,g,cap,r,mb,A,R,⟨vw,c,p,A.ab,some mb⟩,tm,vb,c.bT.length,Xe⟩,List.replicate c.bT.length none,rfl,?_,⟨rfl,rfl⟩,hRl,i⟩;exact {
  obj:=by
   show w'.heap[xb]?=some (.cells (Pr _ c.bV.length (List.replicate c.bT.length (none:Option MvM)).length 0).toArray _ _)
   rw[XI];exact hx
  kee:=hN.g,kcap:=hN.gc,cW:=hR,
  ar:=by
   show X8 w' A ⟨X6 (c.size*c.bS).toNat,0,R.dA⟩
   rw[hz,hRl];exact hA
  vw:=hV,
  th:=⟨[],hN.t,YX,(λo t h=>by
   have:=XW h;simp only[Es,Y2] at this;cases this.2),λk _=>rfl,λz hz=>hz.elim⟩
  mvs:=hN.v,mvc:=by show(List.replicate _ _).length<=_;rw[XI];exact XF _
  mom:=by unfold Ht Es;rw[List.map_replicate];rfl
  mob:=λk b m h=>absurd h (u k b m),mdj:=λj k b m m' h _=>absurd h (u j b m)
  rc:=hRc,rp:=hRp,rmo:=hRm,rX:=hRX.trans (funext λz=>propext ⟨.inl,λh=>h.elim id False.elim⟩),amb:=hAm,vc:=rfl,vp:=rfl,vab:=rfl,vmb:=rfl
  f1:=λz hz=>.inl hz,f2:=⟨.inr (.inl rfl),.inr (.inr (.inl rfl)),.inr (.inr (.inr (.inl rfl))),.inr (.inr (.inr (.inr (.inl rfl)))),.inr (.inr (.inr (.inr (.inr rfl))))⟩
  nr:=⟨nfr l5.2 (Xs kx km (by decide)),nfr l1.2 (Xs kg km (by decide)),nfr l6.2 (Xs kd' km (by decide)),nfr l3.2 (Xs kt km (by simp)),nfr l4.2 (Xs kv km (by decide))⟩
  nF:=⟨nF (nfr l7.1 (Xs ka km (by decide))) (Xs ka kx (by decide)) (Xs ka kg (by decide)) (Xs ka kd' (by decide)) (Xs ka kt (by simp)) (Xs ka kv (by decide)),
   nF (nfr l7.2 (Xs kc km (by decide))) (Xs kc kx (by decide)) (Xs kc kg (by decide)) (Xs kc kd' (by decide)) (Xs kc kt (by simp)) (Xs kc kv (by decide)),
   nF hFv (Xs kw kx (by decide)) (Xs kw kg (by decide)) (Xs kw kd' (by decide)) (Xs kw kt (by simp)) (Xs kw kv (by decide)),
   nF hR.rf (Xs kr kx (by decide)) (Xs kr kg (by decide)) (Xs kr kd' (by decide)) (Xs kr kt (by simp)) (Xs kr kv (by decide)),
   nF hR.sf sbx sbg sbd sbt sbv,λhz=>by have:=i _ hz;omega⟩
  ca:=bW hc.bT,ka:=bW hc.bV
  low:=λz hz=>by
   rcases hz with hz|rfl|rfl|rfl|rfl|rfl
   .exact hR.low z hz
   .exact Xg hx
   .exact Xg hN.g
   .exact Xg hA.dat
   .exact Dg kt
   .exact Xg hN.v}
set_option maxHeartbeats 2000000 in
theorem Xnv(c:Conf)(p:Y4)(w:dD)(hc:Yu w c p)(ht:Bi w)(hm:Zb c=true):Xf prog 64 #[.agg (Zj c p).toArray] w (λv w'=>∃F Fr S mo,v=.tuple #[Yq S,.int .i64 0]/\Xq F Fr w' S (Es c) 0 mo/\(S.c=c/\S.p=p)/\S.R.dA=0/\(∀z,F z->w.heap.size<=z)/\Xc Xe w w'):=by
 have C:=Ye hm;have di:=C.bV;have dj:=C.n;have bt:N3 c.bS c.size=true:=by
  have:=C.size;have:=C.bS;refine Te.2 ⟨by omega,by omega,by omega,by omega,?_⟩;have h8:=hm;unfold Zb at h8;simp only[XK] at h8;exact(Nk.1 h8.1.1.1.1.1.1.1).2.2
 refine aR func64 ntmps64 aA (bC aA λb w1 e1 hb bb dk=>?_);replace hb:w1.heap[b]?=some (.cells (Zj c p).toArray 24 (0,0)):=hb;refine bB hb aA (bG (XaD c p w1 (hc.bR bb)) aA λw2 bc=>?_);have em:Bw c=0:=by unfold Bw;rw[bK hm]
 rw[em];refine aS aA ?_;have J:=bc.bP hb;have P:=bb.trans bc;obtain⟨dl,koff,eka,_⟩:=hc.bV 0 (by omega);have hC:∀w',Xc Xe w2 w'->Xf prog 115 #[.slice p.ka c.bV.length p.kc] w' (λv j=>Xc Xe w2 j/\Xc Xe w' j/\∃g cap r,v=.slice (some ⟨g,0,none⟩) c.bV.length cap/\w2.heap.size<=g/\j.heap[g]?=some (.cells (c.bV.map (Value.int .i64)++r).toArray 3 (0,0))/\c.bV.length<=cap):=λw' f=>
  (XiI p.ka p.kc c.bV w' (hc.bV.bR (P.trans f)) (by omega) ⟨_,eka⟩).mono λv j ⟨g,cp,r,a1,a2,Q,a4,a5⟩=>⟨f.trans a5,a5,g,cp,r,a1,by have:=f.size;omega,Q,a4⟩
 have hM:∀w',Xc Xe w2 w'->Xf prog 116 #[] w' (λv j=>Xc Xe w2 j/\Xc Xe w' j/\∃mb,v=.pointer (some ⟨mb,0,none⟩)/\w2.heap.size<=mb/\Bf j mb 0 0):=λw' f=>
  (Xki w').mono λv j ⟨a1,a2,Q,a4⟩=>⟨f.trans Q,Q,w'.heap.size,a1,f.size,a2⟩
 refine aQ 10 Xe (by kernel_rfl) aA λd=>aE d J aA (aE d J aA (aE d J aA ?_));refine Xd.turn3 d rfl ?_ ?_ ?_
 all_goals
  intro wa k1
  first
  |have q:=hC _ k1;refine Xn.call rfl q.fn (λ_=>q) ?_;rintro _ wb q0 ⟨q1,g,cap,r,rfl,bd,D,aj⟩;refine Xd.adv Xb d rfl ?_
  |have T:=(k1).size;refine Xn.mkmap Xb d rfl (λ_=>rfl) ?_;intro tm wb etm t q1 ak
  |have U:=(k1).size;refine Xn.make Xb d rfl rfl rfl (XF _) (show 48*c.bT.length<=140737488355328 by omega) (by omega) (λ_=>rfl) ?_;intro vb wb evb i q1 al;replace i:(wb).heap[vb]?=some (.cells (Y3 [.pointer none,.int .i64 0,.int .i64 0,.int .i64 0,.int .i64 0,.int .i64 0] c.bT.length).toArray 214 (0,0)):=i;rw[Sv] at i
 all_goals first|refine Xd.turn3 d rfl ?_ ?_ ?_|refine Xd.turn2 d rfl ?_ ?_
 all_goals
  intro wc a2;have k2:=(k1.trans q1).trans a2
  first
  |have q:=hC _ k2;refine Xn.call rfl q.fn (λ_=>q) ?_;rintro _ wd q0 ⟨q2,g,cap,r,rfl,bd,D,aj⟩;refine Xd.adv Xb d rfl ?_
  |have s:=hM _ k2;refine Xn.call rfl s.fn (λ_=>s) ?_;rintro _ wd q0 ⟨q2,mb,rfl,be,E⟩;refine Xd.adv Xb d rfl ?_
  |have T:=(k2).size;refine Xn.mkmap Xb d rfl (λ_=>rfl) ?_;intro tm wd etm t q2 ak
  |have U:=(k2).size;refine Xn.make Xb d rfl rfl rfl (XF _) (show 48*c.bT.length<=140737488355328 by omega) (by omega) (λ_=>rfl) ?_;intro vb wd evb i q2 al;replace i:(wd).heap[vb]?=some (.cells (Y3 [.pointer none,.int .i64 0,.int .i64 0,.int .i64 0,.int .i64 0,.int .i64 0] c.bT.length).toArray 214 (0,0)):=i;rw[Sv] at i
 all_goals first|refine Xd.turn2 d rfl ?_ ?_|refine Xd.cK d rfl ?_
 all_goals
  intro we Q;have k3:=(k2.trans q2).trans Q
  first
  |have q:=hC _ k3;refine Xn.call rfl q.fn (λ_=>q) ?_;rintro _ wf q0 ⟨q3,g,cap,r,rfl,bd,D,aj⟩;refine Xd.adv Xb d rfl ?_
  |have s:=hM _ k3;refine Xn.call rfl s.fn (λ_=>s) ?_;rintro _ wf q0 ⟨q3,mb,rfl,be,E⟩;refine Xd.adv Xb d rfl ?_
  |have T:=(k3).size;refine Xn.mkmap Xb d rfl (λ_=>rfl) ?_;intro tm wf etm t q3 ak
  |have U:=(k3).size;refine Xn.make Xb d rfl rfl rfl (XF _) (show 48*c.bT.length<=140737488355328 by omega) (by omega) (λ_=>rfl) ?_;intro vb wf evb i q3 al;replace i:(wf).heap[vb]?=some (.cells (Y3 [.pointer none,.int .i64 0,.int .i64 0,.int .i64 0,.int .i64 0,.int .i64 0] c.bT.length).toArray 214 (0,0)):=i;rw[Sv] at i
 all_goals refine Xd.cK d rfl ?_
 all_goals
  intro wg a4;have k4:=(k3.trans q3).trans a4
  first
  |have s:=hM _ k4;refine Xn.call rfl s.fn (λ_=>s) ?_;rintro _ wh q0 ⟨q4,mb,rfl,be,E⟩;refine Xd.adv Xb d rfl ?_
  |have T:=(k4).size;refine Xn.mkmap Xb d rfl (λ_=>rfl) ?_;intro tm wh etm t q4 ak
  |have U:=(k4).size;refine Xn.make Xb d rfl rfl rfl (XF _) (show 48*c.bT.length<=140737488355328 by omega) (by omega) (λ_=>rfl) ?_;intro vb wh evb i q4 al;replace i:(wh).heap[vb]?=some (.cells (Y3 [.pointer none,.int .i64 0,.int .i64 0,.int .i64 0,.int .i64 0,.int .i64 0] c.bT.length).toArray 214 (0,0)):=i;rw[Sv] at i
 all_goals
  refine aF d aA λwz a5=>?_;have c4:=a5;have c3:=(a4.trans q4).trans c4;have c2:=(Q.trans q3).trans c3;have c1:=(a2.trans q2).trans c2;have kz:=(k4.trans q4).trans a5;have V:Ke c wz g cap r mb tm vb:=⟨by first|exact c1.bP D|exact c2.bP D|exact c3.bP D|exact c4.bP D,aj,by first|exact E.bR c1|exact E.bR c2|exact E.bR c3|exact E.bR c4,by first|exact t.bR c1 id|exact t.bR c2 id|exact t.bR c3 id|exact t.bR c4 id,by first|exact c1.bP i|exact c2.bP i|exact c3.bP i|exact c4.bP i⟩;refine aO aA (bC aA λxb wy exb aa av dm=>?_);replace aa:wy.heap[xb]?=some (.cells (O0 c p g cap mb tm vb (.pointer none) (.pointer none) (.pointer none)).toArray 159 (0,0)):=aa;have bf:=V.bQ av;have aw:=(kz.trans av).bP J;have ci:∀w',Xc Xe wy w'->Xf prog 117 #[.int .i64 c.bS,.int .i64 c.size,.pointer (some ⟨mb,0,none⟩)] w' (λv j=>Xc (λz=>z=xb) w' j/\Xc Xe wy j/\∃A:Ar,v=.tuple #[.pointer (some ⟨A.ab,0,none⟩),.int .i64 0]/\A.mb=some mb/\wy.heap.size<=A.ab/\wy.heap.size<=A.db/\wy.heap.size<=A.mc/\X8 j A ⟨X6 (c.bS*c.size).toNat,0,0⟩):=λw' f=>
   (Xib (some mb) 0 0 c.bS c.size w' (λb e=>by cases e;exact(bf.bQ f).m) bt).mono λv j ⟨A,W,x2,x3,x4,x5,x6,x7⟩=>⟨x7.gr,f.trans x7,A,W,x2,by have:=f.size;omega,by have:=f.size;omega,by have:=f.size;omega,x6⟩
  refine aQ 16 (λz=>z=xb) (by kernel_rfl) aA λd=>?_;have bg:¬b=xb:=by have:=Xg (kz.bP J);omega
  refine aE d aw aA (aE d aw aA (Xd.cK d rfl λj bh=>Xn.cJ Xb d rfl (bh.bP aa) rfl rfl ?_));have c0:=λw' (f:Xc Xe j w')=>ci w' (bh.trans f);refine Xd.callQ d rfl rfl (c0) ?_;rintro _ w4 dn ⟨ab,A,rfl,K,dp,dq,dr,ck⟩;refine Xd.adv Xb d rfl (Xd.cK d rfl λw5 L=>Xn.store Xb d rfl ((ab.trans L).bP aa) (by first|(intro h;exact rfl)|(intro h;omega)) rfl rfl rfl λw6 a6 ac ds=>aF d aA λw7 M=>?_);replace a6:w6.heap[xb]?=some (.cells (O0 c p g cap mb tm vb (.pointer (some ⟨A.ab,0,none⟩)) (.pointer none) (.pointer none)).toArray 159 (0,0)):=a6;have dt:=P.size;have szz:=kz.size;have lg:=Xg V.g;have lm:=Xg V.m.1;have lt':=V.t.lt;have lv:=Xg V.v;have c5:Xc Xe w w5:=(((P.trans kz).trans av).trans ab).trans L;have u:Xc Xe w w7:=(c5.sn ac).trans M;have bi:Ke c w7 g cap r mb tm vb:=((bf.bQ (ab.trans L)).note ac (by omega) (by omega) (by omega) (by omega)).bQ M;have ad:X8 w7 A ⟨X6 (c.bS*c.size).toNat,0,0⟩:=((ck.bQ L).bR ac (λb' N e=>by
   rcases N with h|h|h|h
   .omega
   .omega
   .omega
   .rw[K] at h;have:=Option.some.inj h;omega)).bQ M
  have bj:=M.bP (ac.heap ((ab.trans L).bP aw) bg);have ax:=M.bP a6;have la:=Xg ad.obj;have ld:=Xg ad.dat;have lc:=Xg ad.cap;have cl:∀w',Xc Xe w7 w'->Xf prog 118 #[.agg (Zj c p).toArray,.pointer (some ⟨mb,0,none⟩)] w' (λv j=>Xc (λz=>z=xb) w' j/\Xc Xe w7 j/\∃Fr R,v=.tuple #[Cl R,.int .i64 0]/\R.c=c/\R.p=p/\R.mo=some mb/\R.dA=0/\(R.X=λz=>z=g)/\Zn Fr j R (Ii c 0)/\∀z,Fr z->w7.heap.size<=z\/z=mb):=λw' f=>by
   have cm:=(bi.bQ f).m;have bW:∀{a:Option Addr} {l:List Int},Rd .i64 w a l->A3 (λz=>z=mb) w' a l:=λhr=>⟨hr.bR (u.trans f),λhl b1 off s1 e G=>by have:=hr.block hl e;omega⟩;refine(Xmp c p (some mb) 0 0 (λz=>z=g) w' (hc.bR (u.trans f)) (ht.bQ (u.trans f)) (λz e=>⟨by have:=f.size;omega,λe2=>by have e3:=Option.some.inj e2;exact Xs (X1 V.g) (Mp V.m) (by decide) (e.symm.trans e3.symm)⟩) (λb1 e=>by cases e;exact⟨cm,bW hc.bT,bW hc.bV⟩) (by decide)).mono λv j ⟨W,x2⟩=>?_;rw[bK hm] at x2;obtain⟨Fr,R,y1,y2,y3,y4,y5,y6,y7,y8⟩:=x2;exact⟨W.gr,f.trans W,Fr,R,y4,y1,y2,y3,y7,y8,y5,λz G=>(y6 z G).imp (λh=>by have:=f.size;omega) (λh=>(Option.some.inj h).symm)⟩
  refine aQ 13 (λz=>z=xb) (by kernel_rfl) aA λd=>aE d bj aA (Xd.cK d rfl λw8 bk=>Xn.cJ Xb d rfl (bk.bP ax) rfl rfl ?_);have c8:=λw' (f:Xc Xe w8 w')=>cl w' (bk.trans f);refine Xd.callQ d rfl rfl (c8) ?_;rintro _ w9 du ⟨bm,Fr,R,rfl,bn,bo,co,cq,cr,cs,bp⟩;refine Xd.adv Xb d rfl (Xd.cK d rfl λdv a7=>Xn.store Xb d rfl ((bm.trans a7).bP ax) (by first|(intro h;exact rfl)|(intro h;omega)) rfl rfl rfl λct H x dd=>aF d aA λO n=>?_);replace H:ct.heap[xb]?=some (.cells (O0 c p g cap mb tm vb (.pointer (some ⟨A.ab,0,none⟩)) (Cl R) (.pointer none)).toArray 159 (0,0)):=H;have bq:¬Fr xb:=λG=>(bp xb G).elim (by omega) (by omega);have m:=bm.trans a7;have b9:=u.trans m;have ae:Xc Xe w O:=(b9.sn x).trans n;have br:Yu w R.c R.p:=by rw[bn,bo];exact hc
  have ay:Zn Fr O R (Ii c 0):=((cs.bQ a7).apart br ht (m.bP ax) (by omega) bq (by decide) x).bQ n;have c9:=((bi.bQ m).note x (by omega) (by omega) (by omega) (by omega)).bQ n;have az:=((ad.bQ m).bR x (λb' N e=>by
   rcases N with h|h|h|h
   .omega
   .omega
   .omega
   .rw[K] at h;have:=Option.some.inj h;omega)).bQ n
  have y:=n.bP H;have ca:=n.bP (x.heap (m.bP bj) bg);have cu:((X6 (c.bS*c.size).toNat).length:Int)=c.size*c.bS:=by
   rw[Gt,YQ];exact QG (ZJ (by have:=C.size;omega) (by have:=C.bS;omega))
  have cv:∀w',Xc Xe O w'->Xf prog 119 #[.agg (Zj c p).toArray,.pointer (some ⟨A.ab,0,none⟩),.pointer (some ⟨mb,0,none⟩)] w' (λv j=>Xc (λz=>z=xb) w' j/\Xc Xe O j/\∃vw,v=.tuple #[.pointer (some ⟨vw,0,none⟩),.int .i64 0]/\O.heap.size<=vw/\Bp j ⟨vw,c,p,A.ab,some mb⟩):=λw' f=>by
   have bs:=XnY c p A ⟨X6 (c.bS*c.size).toNat,0,0⟩ w' (hc.bR (ae.trans f)) (az.bQ f);rw[K] at bs;refine bs.mono λv j ⟨W,x2⟩=>?_;rw[bK ⟨hm,cu⟩] at x2;obtain⟨vw,y1,y2,y3⟩:=x2;exact⟨W.gr,f.trans W,vw,y1,by have:=f.size;omega,y3⟩
  refine aQ 17 (λz=>z=xb) (by kernel_rfl) aA λd=>aE d ca aA ?_;refine Xd.turn2 d rfl ?_ ?_
  all_goals
   intro dw a8;refine Xn.cJ Xb d rfl (a8.bP y) rfl rfl (Xd.cK d rfl λcw b0=>Xn.cJ Xb d rfl ((a8.trans b0).bP y) rfl rfl ?_);have cb:=λw' (f:Xc Xe cw w')=>cv w' ((a8.trans b0).trans f);refine Xd.callQ d rfl rfl (cb) ?_;rintro _ dx de ⟨b2,vw,rfl,dy,hV⟩;refine Xd.adv Xb d rfl (Xd.cK d rfl λdz a9=>Xn.store Xb d rfl ((b2.trans a9).bP y) (by first|(intro h;exact rfl)|(intro h;omega)) rfl rfl rfl λe0 ba B dg=>aF d aA λb3 o=>?_);have k:=b2.trans a9;have cc:=o.bP ba;have e4:=Xg y;have I:Xc Xe w b3:=((ae.trans k).sn B).trans o;have cd:Zn Fr b3 R (Ii c 0):=((ay.bQ k).apart br ht (k.bP y) (by omega) bq (by decide) B).bQ o;have ce:=((c9.bQ k).note B (by omega) (by omega) (by omega) (by omega)).bQ o;have cf:=((az.bQ k).bR B (λb' N e=>by
    rcases N with h|h|h|h
    .omega
    .omega
    .omega
    .rw[K] at h;have:=Option.some.inj h;omega)).bQ o
   have cg:Bp b3 ⟨vw,c,p,A.ab,some mb⟩:=⟨o.bP (B.heap (a9.bP hV.obj) (by simp only;omega)),hc.bR I,hm⟩;have cx:¬Fr vw:=λG=>by have:=ay.low vw G;omega
   obtain⟨F,cy,S,mo,eS,hS,cz,d0,d1⟩:=Xno (w7:=w7) hc ht I hm cc ce cf K cd bn bo co cq cr cg bp cx u.size (by omega) (by omega) (by omega) (by omega) (by omega) (by omega) (by omega);exact bE func64 aA ⟨F,cy,S,mo,by rw[eS],hS,cz,d0,d1,I⟩
structure Xc9(n:Nat)(S:Sto):Prop where
 ab:S.A.ab<n
 mc:S.A.mc<n
 vb:S.v.vb<n
 rb:S.R.rb<n
 sb:S.R.sb<n
 tab:1<n
 ca:∀b off s,S.p.ca=some ⟨b,off,s⟩->b<n
 ka:∀b off s,S.p.ka=some ⟨b,off,s⟩->b<n
section
variable {F Fr:Nat->Prop}{w w':dD}{S:Sto}{s:StM}{by':Int}{mo:Mo}
theorem Xq.fixed(h:Xq F Fr w S s by' mo):Xc9 w.heap.size S:=by
 have a:=h.cW;have c:=Ye a.may;have d:=h.rc;rw[d] at c;exact⟨Xg h.ar.obj,Xg h.ar.cap,Xg h.vw.obj,Xg a.obj,World.block_lt_of_cell? w _ (a.sl 0 (by have:=c.n;have:=a.ok.n;rw[d] at this;omega)),World.block_lt_of_cell? w _ (a.tab 0 (by decide)),
  λb off s e=>h.ca.1.block (by have:=c.n;omega) e,λb off s e=>h.ka.1.block (by have:=c.bV;have:=c.n;omega) e⟩
theorem Xq.one(h:Xq F Fr w S s by' mo)(he:Sx F w S b)(hc:Xc (λz=>z=b) w w'):Xq F Fr w' S s by' mo:=by
 refine h.other hc (λz e=>e▸he) ?_;obtain⟨t,j,ht⟩:=he.kd;intro al d k sz q c;obtain⟨v,l,x,m,n,_⟩:=h.th;have:=l.uniq d;subst this;by_cases a:∀(o:Nat) t,s.th[o]?=some (some t)->(o:Int)≠k
 .rw[n k a] at c;cases c
 .simp only[Classical.not_forall,YL] at a;obtain⟨o,p,r,u⟩:=a;obtain⟨y,_,f,_,_,g⟩:=m o p r;rw[u,c] at f;rw[(XcA (Option.some.inj f))];intro b' off s' e' i;have:=g.i b' off s' e';rw[i,j] at this;exact g.g b' off s' e' (i▸ht.2.2 (Option.some.inj (Option.some.inj this)))
theorem Xq.old(h:Xq F Fr w S s by' mo){l:List dE}(hb:w.heap[b]?=some (.cells (v::l).toArray t fz))(hF:¬F b)(ht:(t≠352/\t≠348/\t≠3)/\t≠242/\t≠152/\t≠226/\t≠221)(hv:∀x,v≠Cm x)(htab:1≠b)(hca:∀off s,S.p.ca≠some ⟨b,off,s⟩)(hka:∀off s,S.p.ka≠some ⟨b,off,s⟩)(hc:Xc (λz=>z=b) w w'):Xq F Fr w' S s by' mo:=by
 have c:=h.cW;have d:=X1 hb;have ne:∀{a t':Nat},kd w a=some (some t')->t≠t'->a≠b:=λi g=>Xs i d (λe=>g (Option.some.inj (Option.some.inj e)).symm);have f:=c.sl 0 (by have:=(Ye c.may).n;have:=c.ok.n;omega);refine h.one ⟨hF,⟨ne (X1 h.ar.obj) ht.2.1,ne (X1 h.ar.cap) ht.2.2.1,ne (X1 h.vw.obj) ht.2.2.2.1,ne (X1 c.obj) ht.2.2.2.2,λe=>?_,htab⟩,hca,hka,t,d,ht.1.1,ht.1.2.1,λe=>absurd e ht.1.2.2⟩ hc;rw[e,Ys hb] at f;exact hv _ (Option.some.inj f)
end
structure Lv(c:Conf)(n0:Nat)(w0 w:dD)(F:Nat->Prop)(S:Sto)(s:StM):Prop where
 ok:∃Fr mo,Xq F Fr w S s (Zs s) mo
 inv:s.Ok c
 sc:S.c=c
 fx:Xc9 n0 S
 base:∀z,F z->w0.heap.size<=z
 bR:Xc Xe w0 w
def Kd(c:Conf)(n0:Nat)(w0 w:dD)(F:Nat->Prop)(S:Sto)(s:StM)(w':dD):Prop:=∃F',Lv c n0 w0 w' F' S s/\(∀z,F' z->F z\/w.heap.size<=z)/\Xc F w w'
section
variable {c:Conf}{n0:Nat}{w0 w w':dD}{F:Nat->Prop}{S:Sto}{s s':StM}
theorem Lv.low(h:Lv c n0 w0 w F S s):∀z,F z->z<w.heap.size:=by obtain⟨_,_,a⟩:=h.ok;exact a.low
theorem Lv.bQ(h:Lv c n0 w0 w F S s)(hc:Xc Xe w w'):Lv c n0 w0 w' F S s:=by
 obtain⟨Fr,mo,a⟩:=h.ok;exact {h with ok:=⟨Fr,mo,a.bQ hc⟩,bR:=h.bR.trans hc}
theorem Lv.to(h:Lv c n0 w0 w F S s)(ht:Ek F w w' S s' (Zs s'))(hi:s'.Ok c):Kd c n0 w0 w F S s' w':=by
 obtain⟨F',Fr',mo',f,a,b⟩:=ht;have i:=h.bR.size;exact⟨F',⟨⟨Fr',mo',f⟩,hi,h.sc,h.fx,λz d=>(a z d).elim (h.base z) (λg=>by omega),h.bR.bU b (λz d e=>by have:=h.base z e;omega)⟩,a,b⟩
end
theorem Rd.keepI{q:Nat}{c:Array dE}(hr:Rd .i64 w a l)(hq:w.heap[q]?=some (.cells c t fz))(hc:∀x∈c.toList,∀z,x≠.int .i64 z)(hs:Xc (λb=>b=q) w w'):Rd .i64 w' a l:=λj f=>by
 obtain⟨b,off,e,d⟩:=hr j f;refine⟨b,off,e,hs.cell d (λg=>?_)⟩;subst g;rw[Ys hq] at d;exact hc _ (Array.mem_toList_iff.2 (Array.mem_of_getElem? d)) _ rfl
theorem Ao.bV{r:RP}{pl:PlM}(h:Ao w r pl){q:Nat}{c:Array dE}(hq:w.heap[q]?=some (.cells c t fz))(hc:∀x∈c.toList,∀z,x≠.int .i64 z)(hs:Xc (λb=>b=q) w w'):Ao w' r pl:=
 ⟨⟨⟨h.o.ok.rd.keepI hq hc hs,h.o.ok.len⟩,h.o.cap,h.o.lt.bQ hs.size⟩,⟨⟨h.f.ok.rd.keepI hq hc hs,h.f.ok.len⟩,h.f.cap,h.f.lt.bQ hs.size⟩,h.eo,h.ef⟩
theorem XlU(r:RR)(M:RmM)(q:Plc)(w:dD)(h:Qe w r M)(hm:Jp M)(hMok:M.Ok r.c)(ht:0<=M.tot/\M.tot<=4611686018427000000)(hq:Zp w q):Xf prog 210 #[.agg (A7 r).toArray,.agg (Xv q).toArray] w
 (λv w'=>∃r',v=.tuple #[.agg (A7 r').toArray,.int .i64 (Hz M (Xx q))]/\Qe w' r' (Qd M (Xx q))/\A4 w r r'/\Xc Xe w w'):=by
 have e8:maxLen=9223372036854775807:=rfl;have e9:=h.lm;refine aR func210 ntmps210 aA (bC aA λrb w1 e1 cw cx ea=>bC aA λpb w2 e2 cy bv eb=>bC aA λob w3 e3 av aw ec=>?_);have a0:=(cx.trans bv).trans aw;have ax:=aw.bP (bv.bP cw);have I:=aw.bP cy;refine bB I aA ?_;by_cases g0:0<=q.cL
 .have eD:Hz M (Xx q)=J4 M q.cL q.cR q.idx/\Qd M (Xx q)=Q2 M q.cL q.cR q.idx:=by
   unfold Hz Qd Xx;exact⟨bK (by simp only;omega),bK (by simp only;omega)⟩
  rw[eD.1,eD.2];refine bI aA (bB ax aA (bB I aA (bB I aA (bB I aA (aP aA (XfR r M q.cL q.cR q.idx w3 (h.bQ a0) hm ht) ?_)))));rintro _ w4 ⟨r',rfl,hR,hK,k⟩;refine aN aA ?_;refine bF (k.bP av) aA λw5 af an bw=>?_;have ao:De (λz=>z=ob) r':=hK.out h (λz a=>by omega) (λz a=>by omega);exact aK func210 af aA ⟨r',rfl,hR.bW ao an,hK.dC a0.size,((a0.trans k).sn an)⟩
 .refine aS aA ?_;refine Xa.loop (α:=Nat×dE) (λx=>[(2,false,.pointer (some ⟨rb,0,none⟩)),(3,false,.pointer (some ⟨pb,0,none⟩)),(4,false,.pointer (some ⟨ob,0,none⟩)),(6,false,x.2),(7,false,.bool ((r.lg.take x.1).any (Ci q))),(8,false,.int .i64 x.1)])
   (λx w'=>x.1<=r.lg.length/\Xl w3.heap.size 83 4 w' x.2 (Du q (r.lg.take x.1)).length (fl Xv (Du q (r.lg.take x.1)))/\Xc Xe w3 w') (λx=>r.lg.length-x.1) (0,.slice none 0 0) ⟨rfl,rfl,rfl,rfl,rfl,rfl,trivial⟩ ⟨XQ _,⟨rfl,.inl ⟨rfl,rfl⟩⟩,Xc.refl _ _⟩ ?_
  rintro⟨i,v⟩ w4 ⟨hi,U,k⟩ ih;simp only at hi U
  have D:=k.bP ax;have J:=k.bP I;have o:=a0.trans k;refine aN aA (bB D aA (aT aA (λaz=>?_) λaz=>?_))
  .have c:i<r.lg.length:=by have:=bL az;omega
   obtain⟨lb,loff,cz,H⟩:=(h.lr.bR o) i r.lg[i] (XD c);have d0:(Du q (r.lg.take i)).length<=i:=by
    have h1:(Du q (r.lg.take i)).length<=(r.lg.take i).length:=List.length_filter_le _ _;rw[XX] at h1;omega
   have bx:=(h.lgo r.lg[i] (XM c)).1;by_cases K:q.cL=-1
   .refine aQ 12 Xe (by kernel_rfl) aA λf=>aE f J aA (Xd.yes Xb f rfl (by rw[K];rfl) rfl (aE f D aA ?_));rw[cz];have hd:∀w',Xc Xe w4 w'->Xf prog 259 #[.agg (Xv r.lg[i]).toArray,.agg #[.int .i64 q.cL,.int .i64 q.cR,.int .i64 q.idx,.slice q.pa q.bS.length q.pc]] w' (Grow (.bool (J7 r.lg[i] q)) w'):=λw' F=>Xl0 r.lg[i] q w' ((bx.rd.bR o).bR F) ((hq.rd.bR o).bR F) bx.len;refine aB (i*4) f aA (Xd.loadC Xb f (Xv r.lg[i]) rfl (by first|rfl|(simp;done)|(simp[*];done)|(simp;omega)) (H) (by first|exact λh=>h|(intro h;omega)|assumption) rfl (aE f J aA (aG f (λw' F=>hd w' F) aA (aF f aA λw5 d=>?_))));by_cases hs:J7 r.lg[i] q=true
    .have b0:Ci q r.lg[i]=true:=by unfold Ci;rw[bN K,hs];rfl
     refine bI aA (aV aA ?_);exact ih (i+1,v) _ _ ⟨c,by
      rw[Xa0 c,bK b0,QP];exact U.bR d (λ_ _ h=>h),k.trans d⟩ (by simp only;omega) ⟨rfl,rfl,rfl,rfl,congrArg (λb=>some (Value.bool b)) (show true=(r.lg.take (i+1)).any (Ci q) from by rw[W6 c,b0,Bool.or_true]),rfl,trivial⟩
    .have bz:J7 r.lg[i] q=false:=by simpa using hs
     have a9:Ci q r.lg[i]=false:=by unfold Ci;rw[bz,YE]
     refine aI aA bz ?_;obtain⟨mb,moff,b1,L⟩:=(h.lr.bR (o.trans d)) i r.lg[i] (XD c);refine bB (d.bP D) aA ?_;rw[b1];refine aU (i*4) aA (Xa.loadC Xb (Xv r.lg[i]) rfl (by first|rfl|(simp;done)|(simp[*];done)|(simp;omega)) (L) rfl (Xa.buildSlice Xb rfl λb6 w6 e6 b2 aa d2=>aN aA ?_));have G:=(U.bR d (λ_ _ h=>h)).bR aa (λ_ _ h=>h);have N:=(k.trans d).trans aa;refine Xa.appendA (base:=w3.heap.size) (xs:=fl Xv (Du q (r.lg.take i))) (news:=Xv r.lg[i]) Xb rfl G N.size (λe=>by cases e) rfl (P0 b2) (O7 _) ⟨by omega,by show((Du q (r.lg.take i)).length+1)*48<=_;omega⟩ λv7 w7 b3 b4 d3=>aN aA (aV aA ?_);exact ih (i+1,v7) _ _ ⟨c,by
      rw[Xa0 c,bJ (by rw[a9];decide),ZC,Oh,Rf];exact b3,G.bU N (XF _) b4⟩ (by simp only;omega) ⟨rfl,rfl,rfl,rfl,congrArg (λb=>some (Value.bool b)) (show(r.lg.take i).any (Ci q)=(r.lg.take (i+1)).any (Ci q) from by rw[W6 c,a9,Bool.or_false]),rfl,trivial⟩
   .have a9:Ci q r.lg[i]=false:=by unfold Ci;rw[bO K,YZ]
    refine aQ 12 Xe (by kernel_rfl) aA λf=>aE f J aA (Xd.no Xb f rfl (by simpa using K) rfl (aF f aA λw5 d=>?_));obtain⟨mb,moff,b1,L⟩:=(h.lr.bR (o.trans d)) i r.lg[i] (XD c);refine bB (d.bP D) aA ?_;rw[b1];refine aU (i*4) aA (Xa.loadC Xb (Xv r.lg[i]) rfl (by first|rfl|(simp;done)|(simp[*];done)|(simp;omega)) (L) rfl (Xa.buildSlice Xb rfl λb6 w6 e6 b2 aa d2=>aN aA ?_));have G:=(U.bR d (λ_ _ h=>h)).bR aa (λ_ _ h=>h);have N:=(k.trans d).trans aa;refine Xa.appendA (base:=w3.heap.size) (xs:=fl Xv (Du q (r.lg.take i))) (news:=Xv r.lg[i]) Xb rfl G N.size (λe=>by cases e) rfl (P0 b2) (O7 _) ⟨by omega,by show((Du q (r.lg.take i)).length+1)*48<=_;omega⟩ λv7 w7 b3 b4 d3=>aN aA (aV aA ?_);exact ih (i+1,v7) _ _ ⟨c,by
     rw[Xa0 c,bJ (by rw[a9];decide),ZC,Oh,Rf];exact b3,G.bU N (XF _) b4⟩ (by simp only;omega) ⟨rfl,rfl,rfl,rfl,congrArg (λb=>some (Value.bool b)) (show(r.lg.take i).any (Ci q)=(r.lg.take (i+1)).any (Ci q) from by rw[W6 c,a9,Bool.or_false]),rfl,trivial⟩
  .have d4:i=r.lg.length:=by have:=bM az;omega
   subst d4;rw[ZL] at U⊢;have bt:(r.lg.any (Ci q)=false/\Hz M (Xx q)=1/\Qd M (Xx q)=M)\/∃n rr,(n,rr)∈M.lg/\r.lg.any (Ci q)=true/\Hz M (Xx q)=0/\Qd M (Xx q)=Ip M n rr/\q.cR=(n:Nat)/\X4 rr=q.bS/\(Du q r.lg).map Xx=(Dv M.lg n).map lgP:=by
    by_cases K:q.cL=-1
    .obtain⟨i1,i2⟩:=Xjx h.lge K;have eE:Hz M (Xx q)=(match Dh M.lg q.cR with|none=>1|some r=>if X4 r=q.bS then 0 else 1):=by unfold Hz Xx;exact bJ (λh=>h K)
     have eM:Qd M (Xx q)=(match Dh M.lg q.cR with|none=>M|some r=>if X4 r=q.bS then Ip M q.cR.toNat r else M):=by unfold Qd Xx;exact bJ (λh=>h K)
     cases hg:Dh M.lg q.cR with
     |none=>
      rw[hg] at eE eM;exact .inl ⟨by rw[i1];exact XeA (λr hr=>by rw[hg] at hr;cases hr) hMok.nd,eE,eM⟩
     |some rr=>
      rw[hg] at eE eM;simp only at eE eM
      obtain⟨n,hn,O⟩:=Ow hg;by_cases hp:X4 rr=q.bS
      .rw[bK hp] at eE eM;obtain⟨j1,j2⟩:=Xjy hMok.nd O hn hp;exact .inr ⟨n,rr,O,by rw[i1];exact j1,eE,by rw[eM,hn,XB],hn,hp,by rw[i2,j2]⟩
      .rw[bJ hp] at eE eM;exact .inl ⟨by rw[i1];exact XeA (λr hr=>by rw[hg] at hr;cases hr;exact hp) hMok.nd,eE,eM⟩
    .have c0:Zq M q.cL=none:=Sg (.inl (by omega));refine .inl ⟨?_,?_,?_⟩
     .rw[QE];intro x _;unfold Ci;rw[bO K]
      simp
     .unfold Hz Xx;refine(bK K).trans ?_;unfold J4;rw[c0]
     .unfold Qd Xx;refine(bK K).trans ?_;unfold Q2;rw[c0]
   rcases bt with⟨hf,hE,hM⟩|⟨n,rr,O,hf,hE,hM,d5,c1,d6⟩
   .rw[hE,hM];refine aM aA (by rw[hf];rfl) (bB D aA ?_);refine bF (k.bP av) aA λw5 af an bw=>?_;have hc:=o.sn an;exact aK func210 af aA ⟨r,rfl,h.bQ hc,A4.refl w r,hc⟩
   .rw[hE,hM];have V:(n::rr).Nodup:=by
     obtain⟨A,C,eA,_⟩:=Ov hMok.nd O;have e:Y6 M.lg=Y6 A++((n::rr)++Y6 C):=by rw[eA,Kp];rfl
     have V:=hMok.nd;rw[e] at V;exact(XR.1 (XR.1 V).2.1).1
    have P:∀m∈n::rr,m<M.pl.own.length/\M.pl.own.getD m 0=(M.shs.length:Int):=λm u=>hMok.lg m (I7 O u);have ed:rr.length<=1024:=by
     obtain⟨_,_,p3,_⟩:=O6 (l:=n::rr) hm.cV V (λm u=>⟨(P m u).1,by have:=(P m u).2;omega⟩);have:=Oq hm.cV;simp only[XO] at p3;omega
    have d8:q.bS.length=rr.length:=by rw[<-c1,Er]
    refine aI aA (by rw[hf];rfl) (bB J aA (Xa.buildSlice Xb rfl λb5 w5 e5 d9 d bw=>aN aA ?_));have c2:Xl w4.heap.size 3 1 w5 (.slice (some ⟨b5,0,none⟩) 1 1) 1 [.int .i64 q.cR]:=Xl.one (by omega) d9;have b9:=o.trans d;refine bB (d.bP J) aA (Xa.appendA (base:=w4.heap.size) (xs:=[.int .i64 q.cR]) (news:=q.bS.map (Value.int .i64)) Xb rfl c2 d.size (hq.rd.bR b9).noneA (by simp) (hq.rd.bR b9).cellsA Jd ⟨by omega,by show(1+q.bS.length)*8<=_;omega⟩ λv6 w6 G da ee=>?_);have E:=c2.bU d (XF _) da;have eall : [.int .i64 q.cR]++q.bS.map (Value.int .i64)=(X4 (n::rr)).map (Value.int .i64):=by rw[<-c1,d5];rfl
    rw[eall] at G;obtain⟨g,gc,rfl,ef,eh,ei,ej,db⟩:=Xbp (l:=n::rr) G (by simp only[XO];omega) (by omega);refine aN aA ?_;have ba:=o.trans E;have du:=E.size;have dv:=k.size;obtain⟨B,bb⟩:∃B:Nat->Prop,B=λz=>z=rb\/z=ob:=⟨_,rfl⟩;have a6:∀z,B z->w.heap.size<=z/\z<w3.heap.size:=λz a=>by rw[bb] at a;rcases a with e|e <;> omega
    have c3:=h.out (S:=B) (λz a=>(a6 z a).1);obtain⟨la,lcap,rfl,ck,cl,cm,ap⟩:=Xl.rowsN U Lj rfl;refine Xa.loop (α:=Nat×RP) (λx=>[(2,false,.pointer (some ⟨rb,0,none⟩)),(4,false,.pointer (some ⟨ob,0,none⟩)),(6,false,.slice la (Du q r.lg).length lcap),(9,false,.slice (some ⟨g,0,none⟩) (1+q.bS.length) gc),(10,false,.int .i64 x.1)])
     (λx w'=>x.1<=rr.length+1/\Yn w' rb {r with p:=x.2}/\Ao w' x.2 (Ay M.pl ((n::rr).take x.1))/\Xj B x.2.o.a/\Xj B x.2.f.a/\(∀S:Nat->Prop,(∀z,S z->z<w.heap.size)->Xj S r.p.o.a->Xj S r.p.f.a->Xj S x.2.o.a/\Xj S x.2.f.a)/\Xc (λz=>z=rb) w6 w') (λx=>rr.length+1-x.1) (0,r.p) ⟨rfl,rfl,rfl,rfl,rfl,trivial⟩
     ⟨XQ _,(E.bP D),h.p.bQ ba,c3.o,c3.f,λS _ h1 h2=>⟨h1,h2⟩,Xc.refl _ _⟩ ?_
    rintro⟨j,rp⟩ w7 ⟨hj,bc,Q,c4,c5,bd,W⟩ dd;simp only at hj bc Q c4 c5 bd
    have dx:=W.size;have ah:=ba.sn W;have ab:B rb:=by rw[bb];exact .inl rfl
    have de:B ob:=by rw[bb];exact .inr rfl
    have a7:=bc;refine aN aA (aT aA (λai=>?_) λai=>?_)
    .have c:j<rr.length+1:=by have:=bL ai;omega
     have R:=c;have T:∀m∈(n::rr).take j,m∈n::rr:=λm u=>ZA u;obtain⟨p1,p2,p3,p4⟩:=O6 (l:=(n::rr).take j) hm.cV (V.sublist (List.take_sublist _ _)) (λm u=>⟨(P m (T m u)).1,by have:=(P m (T m u)).2;omega⟩);have cn:(n::rr)[j]∉(n::rr).take j:=λdf=>by
      obtain⟨i,hi,e⟩:=QU df;rw[List.getElem_take] at e;rw[XX] at hi;exact(List.pairwise_iff_getElem.1 V i j (by omega) R (by omega)) e
     obtain⟨o1,o2⟩:=P _ (XM R);have ao:(n::rr)[j]<(Ay M.pl ((n::rr).take j)).own.length:=by omega
     have c6:(Ay M.pl ((n::rr).take j)).own.getD (n::rr)[j] 0≠-1:=by rw[p4,bJ cn];omega
     obtain⟨_,eg⟩:=Xfx ao c6;have estep:Ay M.pl ((n::rr).take (j+1))=(Ay M.pl ((n::rr).take j)).give (n::rr)[j]:=by
      rw[<-eg,ZH,XD R];unfold Ay;rw[List.foldl_append];rfl
     obtain⟨b',off',e',H⟩:=(db.bW (S:=λz=>z=rb) (λb' off s e a=>by cases e;omega) W) j (by rw[Er];exact R);cases e'
     have ev:(X4 (n::rr)).getD j 0=((n::rr)[j]:Int):=by
      unfold X4;rw[XA,XN,XD R];rfl
     rw[ev] at H;have hd:∀w',Xc Xe w7 w'->Xf prog 260 #[.agg #[Xr rp.o,Xr rp.f],.int .i64 ((n::rr)[j]:Nat)] w' (λv w2=>Xc Xe w' w2/\∃x:RP,v=Value.tuple #[.agg (Dj x).toArray,.int .i64 0]/\(Ao w2 x (Ay M.pl ((n::rr).take (j+1)))/\Be w7 x.o.a/\Be w7 x.f.a)):=λw' F=>by
      have hd:=XfJ rp (n::rr)[j] _ w' (Q.bQ F) p1 ao c6;rw[<-estep] at hd;exact hd.mono λv w2 ⟨x,a1,a2,a3,a4,a5⟩=>⟨a5,x,a1,a2,a3.dC F.size,a4.dC F.size⟩
     refine aQ 12 Xe (by kernel_rfl) aA λf=>aE f a7 aA (aB j f aA (aD f H aA (Xd.callAlloc (λx:RP=>Value.tuple #[.agg (Dj x).toArray,.int .i64 0]) (λ(x:RP) (w2:dD)=>Ao w2 x (Ay M.pl ((n::rr).take (j+1)))/\Be w7 x.o.a/\Be w7 x.f.a) Xb f rfl rfl rfl (λ_=>rfl) rfl (λ_=>rfl) (λ_=>rfl) rfl rfl (λ_ _=>rfl) rfl (λ_ _=>rfl) (hd) (λx w2 w3 ⟨a1,a2,a3⟩ hc=>⟨a1.bQ hc,a2,a3⟩) (λ_ h=>h.elim) ?_)));rintro nb x w8 ek c7 dh ⟨di,c8,c9⟩;refine Xd.cK f rfl λw9 be=>Xn.store Xb f rfl (be.bP c7) (by first|(intro h;exact rfl)|(intro h;omega)) rfl rfl rfl λwa cr ac dk=>?_;refine aF f aA λwb bf=>?_;have bg:=((dh.trans be).sn ac).trans bf;refine bB (bf.bP cr) aA (bF (bg.bP a7) aA λwc cs bh el=>?_);have ca:=c8.out (λz a=>by have:=(a6 z a).2;omega);have cb:=c9.out (λz a=>by have:=(a6 z a).2;omega);have aq:=di.bV c7 (by intro y hy z e;subst e;simp[Yz] at hy) ((be.gr.trans ac).trans bf.gr);have dl:Ao wc x (Ay M.pl ((n::rr).take (j+1))):=⟨aq.o.bW (ca.mono (λz e=>by subst e;exact ab)) bh,aq.f.bW (cb.mono (λz e=>by subst e;exact ab)) bh,aq.eo,aq.ef⟩;exact aV aA (dd (j+1,x) _ _ ⟨c,cs,dl,ca,cb,λS hS h1 h2=>⟨c8.out (λz a=>by have:=hS z a;have:=ah.size;omega),c9.out (λz a=>by have:=hS z a;have:=ah.size;omega)⟩,(W.trans bg.gr).trans bh⟩ (by simp only;omega) ⟨rfl,rfl,rfl,rfl,rfl,trivial⟩)
    .have ct:j=rr.length+1:=by have:=bM ai;omega
     subst ct;have etk:(n::rr).take (rr.length+1)=n::rr:=ZL (l:=n::rr);rw[etk] at Q;have em:=h.st;obtain⟨t,bi⟩:∃t,t=Xw M.tot ((rr.length+1:Int)*4+rr.length):=⟨_,rfl⟩;have dm:r.cM+4*(((1+q.bS.length:Nat)):Int)+((1+q.bS.length:Nat):Int)-1=t:=by
      rw[bi,d8];unfold Xw;rw[bJ (by omega)];omega
     refine bF a7 aA λw8 a8 bj en=>?_;replace a8:w8.heap[rb]?=some (.cells (Zj r.c r.cp++[Xr rp.o,Xr rp.f,.slice r.sa r.ss.length r.scap,.slice la (Du q r.lg).length lcap,.int .i64 r.cM]).toArray 38 (0,0)):=a8;refine bB a8 aA (aV aA ?_);refine Xa.arith Xb rfl (w64 (by omega)) rfl ?_;refine aV aA (aV aA ?_);rw[dm];obtain⟨r',bk⟩:∃r':RR,r'={r with p:=rp,lg:=Du q r.lg,la:=la,lcap:=lcap,cM:=t}:=⟨_,rfl⟩;refine bF a8 aA λw9 aj bm eo=>?_;replace aj:Yn w9 rb r':=by rw[bk];exact aj
     refine bB aj aA ?_;refine bF (bm.heap (bj.heap (W.heap (E.bP (k.bP av)) (by omega)) (by omega)) (by omega)) aA λwa cu ac dk=>?_;have bn:=((ah.sn bj).sn bm).sn ac;have ak:=((bj.mono λ_ _ e=>e▸ab).trans (bm.mono λ_ _ e=>e▸ab)).trans (ac.mono λ_ _ e=>e▸de);have bo:=(W.mono λ_ _ e=>e▸ab).trans ak;have cv:Xj B la:=λb off s e a=>by have:=ap b off s e;have:=(a6 b a).2;omega
     have d0:(Du q r.lg).length<=r.lg.length:=List.length_filter_le _ _;have T:∀q'∈Du q r.lg,q'∈r.lg:=λq' h=>(QX.1 h).1;have h':=h.bQ bn;have hR:Qe wa r' (Ip M n rr):=by
      rw[bk];exact⟨⟨Q.o.bW c4 ak,Q.f.bW c5 ak,Q.eo,Q.ef⟩,h'.sr,h'.sl,h'.sc,h'.n,h'.few,h'.cI,(ck.bR E).bW cv bo,(cl.bQ E.size).bQ bo.size,cm,by show(Du q r.lg).length<=1024;omega,d6,λq' bp=>h'.lgo q' (T q' bp),bi⟩
     have hK:A4 w r r':=by
      rw[bk];exact⟨rfl,rfl,λS hS ho=>⟨(bd S hS ho.o ho.f).1,(bd S hS ho.o ho.f).2,ho.sa,ho.cI,λb off s e a=>by have:=ap b off s e;have:=hS b a;omega,λq' bp=>ho.lgo q' (T q' bp)⟩⟩
     exact aK func210 cu aA ⟨r',rfl,hR,hK,bn⟩
end Go.Proofs.YtdeihcnepljjaaaGreatDoor
