/-
  Texts put together: Sto4, Sto5, Sto6, Sto7, Sto8, StBy, Sto9, Sto10, Sto11, Sto12, Sto13, Sto14, Sto15, Ref20j, Sr0, Sr1, Sr2, Sr3, Sr4, Sr5, Sr6, Sr7, Sr8, Sr9, Sr10, Sr11, Sr12, Sr13, Sr14, D7, Sr15.
-/
import Derived.Test.YtdeihcnepljjaaaGreatDoorPt3
import Derived.Test.YtdeihcnepljjaaaGreatDoorQRule25
import Derived.Test.YtdeihcnepljjaaaGreatDoorQRule22
import Derived.Test.YtdeihcnepljjaaaGreatDoorQRule23
import Derived.Test.YtdeihcnepljjaaaGreatDoorQRule21
set_option linter.unusedVariables false
set_option maxRecDepth 100000
namespace Go.Proofs.YtdeihcnepljjaaaGreatDoor
open Go.RowKit
open Go renaming World→dD,Value→dE,Addr→dF
open Bool renaming and_eq_true->XI,and_false->YD,true_and->YM,false_and->QE
open Decidable renaming not_not->YP
open Int renaming toNat_natCast->XA,eq_ofNat_of_zero_le->XE,mul_nonneg->ZG,mul_le_mul->ZH,mul_comm->YK,le_refl->YN,toNat_of_nonneg->YT,add_mul->QG,one_mul->QO
open List renaming getD_eq_getElem?_getD->XB,getElem?_eq_some_iff->XC,getElem?_eq_getElem->XD,length_set->XG,getElem?_set_self->XH,length_replicate->XJ,getElem?_set_ne->XK,getElem_mem->XL,length_cons->XN,getElem?_map->XO,mem_map->XP,nodup_append->XR,length_map->XU,mem_of_getElem?->XW,length_take->XX,take_append_drop->XY,getElem?_append_left->ZA,mem_of_mem_take->ZB,mem_cons->ZC,length_append->ZE,take_add_one->ZI,length_range->ZK,take_length->ZM,mem_or_eq_of_mem_set->ZN,mem_cons_self->ZO,nil_append->ZQ,flatMap_cons->ZV,map_set->ZW,length_eq_zero_iff->ZZ,mem_cons_of_mem->YA,replicate_succ->YF,getElem?_toArray->QA,nodup_nil->QB,mem_replicate->QF,ext_getElem?->QH,any_eq_false->QI,sum_cons->QJ,append_nil->QR,getElem_of_mem->QV,mem_filter->QY
open Nat renaming le_refl->XF,zero_le->XQ,zero_add->XT,mul_one->ZS,add_assoc->YX
open Option renaming map_eq_some_iff->QN
open Go.Proofs.Tryz (func100 func103 func104 func110 func111 func113 func115 func124 func126 func129 func130 func136 func137 func138 func139 func140 func141 func142 func143 func144 func149 func152 func197 func208 func210 func211 func212 func215 func35 func36 func50 func53 func56 func61 func63 func64 func67 func70 func71 func73 func78 func79 func80 func82 func83 func85 func86 func87 func88 func99 ntmps100 ntmps103 ntmps104 ntmps110 ntmps111 ntmps113 ntmps115 ntmps124 ntmps126 ntmps129 ntmps130 ntmps136 ntmps137 ntmps138 ntmps139 ntmps140 ntmps141 ntmps142 ntmps143 ntmps144 ntmps149 ntmps152 ntmps197 ntmps208 ntmps210 ntmps211 ntmps212 ntmps215 ntmps35 ntmps36 ntmps50 ntmps53 ntmps56 ntmps61 ntmps63 ntmps64 ntmps67 ntmps70 ntmps71 ntmps73 ntmps78 ntmps79 ntmps80 ntmps82 ntmps83 ntmps85 ntmps86 ntmps87 ntmps88 ntmps99 prog)
variable {A:Ar}{V:ArV}{c:Conf}{l':IL}{ahead by' cS cH size cN u who z:Int}{lg:List (Nat×List Nat)}{th:List (Option ThM)}{ps:List IL}{bs l p zs:List Int}{l2 ws:List Nat}{cs rest xs:List dE}{mo:Mo}{N at' b base cap d fuel g i j k lm lo m n o qb sz t tm ty vb xb y:Nat}{e:Nat×List Int}{fz:Nat×Nat}{f:Nat->Int}{G:Nat->Pg}{B C F F' Fr Q S S' T xX:Nat->Prop}{pd pd2:Option (Nat×PlcM)}{a:Option dF}{pg:PgL}{pl':PlM}{q:Plc}{R:Rm}{M:RmM}{x x':Sm}{s s':StM}{α:Type}{v:dE}{w w' w'' w0 w1 w2:dD}{cells:α->List dE}
theorem XcP{S:Sto}(fk:Nat)(caps:List dE)(w:dD)(Q:Int->dD->Prop)(hf:Xe prog fk caps.toArray w (λv w'=>∃n:Int,v=W n/\Q n w')):Xe prog 99 #[Y6 S,.func (.func fk) #[] caps.toArray] w (λv w'=>∃n:Int,v=W n/\Q n w'):=by
 refine aR func99 ntmps99 Y (aP Y (hf) ?_);rintro _ b ⟨n,rfl,a⟩;exact aN Y (bE func99 Y ⟨n,rfl,a⟩)
abbrev XcL(w:dD)(b:Nat)(v:dE):Prop:=w.heap[b]?=some (.cells #[v] 101 (0,0))
theorem Xop{S:Sto}(h:Xs F Fr w S s by' mo)(b:Nat)(hb:XcL w b (Y6 S)):Xe prog 100 [xV b].toArray w (λv w'=>∃n:Int,v=W n/\n=(Zd s.rm.pl:Nat)/\w=w'):=by
 exact aR func100 ntmps100 Y (aW Y (Cr (off:=0) hb rfl) Y (bB h.obj Y (bH (Tf h.cW) Y (bE func100 Y ⟨_,rfl,rfl,rfl⟩))))
theorem Xoo{S:Sto}(h:Xs F Fr w S s by' mo):Xe prog 50 #[Y6 S] w (Grow (W (Zd s.rm.pl:Nat)) w):=by
 refine aR func50 ntmps50 Y (bC Y λb d e1 c a f=>aW Y (Cr (off:=0) c rfl) Y (aP Y (XcP (S:=S) 100 [xV b] d _ (Xop (h.bQ a) b c)) ?_));rintro _ g ⟨n,rfl,rfl,rfl⟩;exact aN Y (bE func50 Y ⟨rfl,a⟩)
theorem Xom{S:Sto}(h:Xs F Fr w S s by' mo)(b:Nat)(hb:XcL w b (Y6 S)):Xe prog 126 [xV b].toArray w (λv w'=>∃n:Int,v=W n/\n=by'/\w=w'):=by
 exact aR func126 ntmps126 Y (aW Y (Cr (off:=0) hb rfl) Y (bB h.obj Y (bE func126 Y ⟨_,rfl,rfl,rfl⟩)))
theorem Xol{S:Sto}(h:Xs F Fr w S s by' mo):Xe prog 73 #[Y6 S] w (Grow (W by') w):=by
 refine aR func73 ntmps73 Y (bC Y λb d e1 c a f=>aW Y (Cr (off:=0) c rfl) Y (aP Y (XcP (S:=S) 126 [xV b] d _ (Xom (h.bQ a) b c)) ?_));rintro _ g ⟨n,rfl,rfl,rfl⟩;exact aN Y (bE func73 Y ⟨rfl,a⟩)
theorem Xoz{S:Sto}(h:Xs F Fr w S s by' mo)(old size:Int)(ho:old<=9223372036854775807)(hz:size<=9223372036854775807):Xe prog 111 #[Y6 S,W old,W size] w (Grow (.bool (Ay S.c old size)) w):=by
 have d:=h.ca.1;have j:S.c.bT.length<=9223372036854775807:=by have:=Zr h.cW.may;have:=this.n;rw[h.rc] at this;omega
 refine aR func111 ntmps111 Y (aQ 13 Xf xK Y λa=>aE a h.obj Y (aG a (λw' f=>Ov S.p.ca S.p.cc S.c.bT old w' (d.bR f) j) Y (aE a h.obj Y (aF a Y λm g=>bG (Ov S.p.ca S.p.cc S.c.bT size m (d.bR g) j) Y λn k=>?_))));have b:=g.trans k;have l:=h.bQ b;by_cases e1:Xl S.c.bT old=Xl S.c.bT size
 .by_cases e2:Xl S.c.bT old=-1
  .have e:Ay S.c old size=decide (Zj old S.c.size=Zj size S.c.size):=by unfold Ay;rw[bN e1,YM,bO (λh=>h e2),Bool.false_or]
   rw[e];exact aQ 20 Xf xK Y λa=>Xd.yes Xb a rfl (xU e1) rfl (Xd.no Xb a rfl (by rw[e2];rfl) rfl (aE a l.obj Y (aH a (λw' f=>Xa1 old S.c.size w' ho) Y (aE a l.obj Y (aF a Y λi c=>bH (Xa1 size S.c.size i hz) Y (bE func111 Y ⟨rfl,b.trans c⟩))))))
  .have e:Ay S.c old size=true:=by unfold Ay;rw[bN e1,YM,bN e2,Bool.true_or]
   rw[e];exact aQ 20 Xf xK Y λa=>Xd.yes Xb a rfl (xU e1) rfl (Xd.yes Xb a rfl (xU e2) rfl (aF a Y λi c=>bE func111 Y ⟨rfl,b.trans c⟩))
 .have e:Ay S.c old size=false:=by unfold Ay;rw[bO e1,QE]
  rw[e];exact aQ 20 Xf xK Y λa=>Xd.no Xb a rfl (xU e1) rfl (aF a Y λi c=>bE func111 Y ⟨rfl,b.trans c⟩)
theorem XcO{S:Sto}(h:Xs F Fr w S s by' mo)(hs:s.OkP S.c pd)(size:Int):Xe prog 67 #[Y6 S,W size] w (Grow (W (Ys S.c s size)) w):=by
 have g:S.c.bT.length<=9223372036854775807:=by have:=Zr h.cW.may;have:=this.n;rw[h.rc] at this;omega
 refine aR func67 ntmps67 Y (aT Y (λc=>?_) λc=>?_)
 .have e:Ys S.c s size=3:=by unfold Ys;rw[bK (.inl (bL c))]
  rw[e];exact bE func67 Y ⟨rfl,Xc.refl _ _⟩
 .have i:=bM c;refine bB h.obj Y (aT Y (λd=>?_) λd=>?_)
  .have e:Ys S.c s size=3:=by unfold Ys;rw[bK (.inr (bL d))]
   rw[e];exact bE func67 Y ⟨rfl,Xc.refl _ _⟩
  .have j:=bM d;have e:Ys S.c s size=if (Xx s (Xl S.c.bT size)).isSome then 0 else Ql S.c s.rm size:=by unfold Ys;rw[bJ X]
   rw[e];refine bB h.obj Y (bG (Ov S.p.ca S.p.cc S.c.bT size w h.ca.1 g) Y λk a=>?_);have b:=h.bQ a;refine bH (L8 b hs (Xl S.c.bT size)) Y ?_;cases hm:(Xx s (Xl S.c.bT size)).isSome with
   |true=>
    exact bI Y (bE func67 Y ⟨rfl,a⟩)
   |false=>
    refine aS Y (bB b.obj Y ?_);have hr:=Xg0 b.cW size;rw[b.rc] at hr;exact bG hr Y λl f=>bE func67 Y ⟨rfl,a.trans f⟩
theorem XlP(cG bV:Int)(w:dD)(ho:0<=cG/\cG<=4611686018427387904)(hk:0<=bV/\bV<=4611686018427387904):Xe prog 197 #[W cG,W bV] w (X9 (.bool (Ht cG bV)) w):=by
 refine aR func197 ntmps197 Y (aT Y (λa=>?_) λa=>?_)
 .have b:=bL a;refine Xa.arith Xb rfl (Xdo X) rfl (Xa.arith Xb rfl (Xdo X) rfl (Xa.arith Xb rfl (Xdo X) rfl ?_));have e:Ht cG bV=decide (cG-bV>1):=by
   unfold Ht;rw[bN X,YM];exact decide_eq_decide.2 X
  rw[e];exact bE func197 Y ⟨rfl,rfl⟩
 .have b:=bM a;have e:Ht cG bV=false:=by unfold Ht;rw[bO X,QE]
  rw[e];exact bE func197 Y ⟨rfl,rfl⟩
section
variable {F Fr:Nat->Prop}{w w':dD}{S:Sto}{s:StM}{by':Int}{mo:Mo}{pd:Option (Nat×PlcM)}
theorem Xs.kcell(h:Xs F Fr w S s by' mo)(hk:k<s.bV.length):w.cell? ⟨S.kb,0+k,none⟩=some (W (s.bV.getD k 0)):=by
 refine(Yx h.kee).trans ?_;rw[XT,QA,ZA (by rw[XU];exact hk),XO,XD hk,XB,XD hk];rfl
theorem Xkx(hs:s.OkP S.c pd)(hk:k<s.bV.length):0<=s.bV.getD k 0/\s.bV.getD k 0<=1024:=by
 rw[XB,XD hk];exact hs.kr _ (XL hk)
theorem Xlr(hs:s.OkP S.c pd)(k:Int):Qm s.rm k<=1024:=by
 unfold Qm;cases a:Zs s.rm k with
 |none=>simp
 |some x=>
  obtain⟨j,rfl,c,b⟩:=Fz a;exact((hs.rm.cU.sh j x b).1.few).2.1
theorem Sj{y:Option (Nat×MvM)}(hk:k<mo.length):Ya (fl Er mo) (0+k*6) (Er y)=some (fl Er (mo.set k y)):=by
 have:=R4 (cells:=Er) XfG (xs:=mo) (k:=k) (y:=y) (rest:=[]) hk
 simpa using this
theorem J6(a b c:Int):Zw w ⟨a,b,c,none,0,[]⟩:=⟨Rd.nil _ _ _,xS⟩
end
theorem XhH{F Fr:Nat->Prop}{w:dD}{S:Sto}{s:StM}{by':Int}{mo:Mo}(h:Xs F Fr w S s by' mo)(hs:s.Ok S.c)(k:Nat)(hk:k<s.mv.length):Xe prog 129 #[Y6 S,W (k:Nat)] w (λ_ w'=>Ej F w w' S (Yj S.c s k) by'):=by
 obtain⟨f1,f2,f3⟩:=OkP.few hs;have V:k<s.bV.length:=X
 have ap:k<S.c.bT.length:=xH hs.ml
 have bu:=Xkx hs V;have bv:=Xlr hs (k:Nat);have no:∀{w'},Xc Xf w w'->Bn s k=false->Ej F w w' S (Yj S.c s k) by':=λ{w'} Q i=>by
  unfold Yj;rw[i];exact .of (h.bQ Q) Q.gr
 refine aR func129 ntmps129 Y ?_;cases hm:(Xx s (k:Nat)).isSome with
 |true=>
  have i:Bn s k=false:=by
   unfold Bn;cases hx:Xx s (k:Nat) with
   |none=>rw[hx] at hm;cases hm
   |some x=>rfl
  exact aQ 17 Xf xK Y λa=>aH a (λw' c=>L8 (h.bQ c) hs (k:Nat)) Y (Xd.yes Xb a rfl hm rfl (aF a Y λw1 d=>bE func129 Y (no d i)))
 |false=>
  have ar:(Xx s (k:Nat)).isNone=true:=by
   cases hx:Xx s (k:Nat) with
   |none=>rfl
   |some x=>rw[hx] at hm;cases hm
  refine aQ 17 Xf xK Y λa=>aH a (λw' c=>L8 (h.bQ c) hs (k:Nat)) Y (Xd.no Xb a rfl hm rfl (aE a h.obj Y (aH a (λw' c=>V6 (h.cW.bQ c) (k:Nat)) Y (aE a h.obj Y (aB k a Y (aD a (h.kcell V) Y (aF a Y λw1 d=>bH (XlP (Qm s.rm (k:Nat):Nat) (s.bV.getD k 0) w1 X X) Y ?_)))))));cases R:Ht (Qm s.rm (k:Nat):Nat) (s.bV.getD k 0) with
  |false=>
   have i:Bn s k=false:=by unfold Bn;rw[R,YD,QE]
   exact bI Y (bE func129 Y (no d i))
  |true=>
   refine aS Y (bB (d.bP h.obj) Y ?_);have J:=Xno (h.cW.bQ d) (k:Nat);obtain⟨⟨pf,fa,pt,ta⟩,ePl⟩:∃p,p=Yu s.rm (k:Nat):=⟨_,rfl⟩;rw[XgY,<-ePl] at J;simp only at J
   refine bG J Y λT a0=>bC Y λb w3 e3 au av bw=>bF au Y λw4 K aw bx=>?_;have bz:=d.size;have c0:=a0.size;have l:=((d.trans a0).trans av).sn aw;cases hp:Iw s.rm (k:Nat) with
   |false=>
    have i:Bn s k=false:=by unfold Bn;rw[hp,YD]
    exact bI Y (bE func129 Y (no l i))
   |true=>
    have i:Bn s k=true:=by unfold Bn;rw[ar,R,hp];rfl
    refine aS Y ?_;obtain⟨P,_,bf,⟨o,t,r,c1,a7⟩,hf,ht⟩:=XaP hs i;have P1:=P.own;have P2:=P.n (o:Int) X;have P3:=P.a (o:Int) X;rw[<-ePl] at P1 P2 P3 r a7 hf ht;simp only at P1 P2 P3 r a7 hf ht
    have h4:=h.bQ l;have b2:¬F b:=λhz=>xH (h.low b hz)
    refine aQ 9 Xf xK Y λa=>aE a h4.obj Y (aE a K Y (aE a K Y (aF a Y λw5 G=>?_)));have U:=h4.bQ G;have b3:=G.bP K;refine bH (Xnm U.cW (k:Nat) pf fa) Y ?_;rw[r];refine bB U.obj Y (aP Y (Xg2 U.cW (k:Nat) (o:Nat)) ?_);rintro _ w6 ⟨rfl,⟨Fr',hr,a8,n⟩⟩;refine aN Y ?_;have h6:=U.roomed hr a8 n;have L:=n.heap b3 (λhz=>b2 (h.f1 _ hz));have H:=StM.OkP.begin hs k;have eB:Yj S.c s k={s with rm:=Qe s.rm (k:Nat) (o:Nat),mv:=s.mv.set k (some (Kz S.c s.rm k))}:=by unfold Yj;rw[bK i,<-ePl];simp only;rw[r]
    rw[eB] at H⊢;obtain⟨m,em⟩:∃m,m=Kz S.c s.rm k:=⟨_,rfl⟩;rw[<-em] at H⊢;obtain⟨_,_,_,mf,mt,ms,_⟩:=H.mv k m (by show(s.mv.set k _)[k]?=_;rw[XH hk]);have b5:m.who=o/\m.pf=pf/\m.fa=fa/\m.pt=pt/\m.ta=ta/\m.cE=0:=by rw[em];unfold Kz;rw[<-ePl];exact⟨r,rfl,rfl,rfl,rfl,rfl⟩
    obtain⟨b6,a9,aa,ab,ac,b7⟩:=b5;rw[a9,aa] at mf;rw[ab,ac] at mt;refine aQ 10 Xf xK Y λa=>aE a h6.obj Y (aE a L Y (aE a L Y (Xd.build Xb a rfl rfl (aF a Y λw7 u=>?_))));have h7:=h6.bQ u;have A:=Xdc S.v ⟨(k:Nat),pf,fa,none,0,[]⟩ w7 h7.vw (J6 _ _ _);rw[h.vc,show Aj S.c ⟨(k:Nat),pf,fa,none,0,[]⟩=(m.f:Int) from mf.symm] at A;refine bG A Y λw8 B=>?_;have h8:=h7.bQ B;have N:=B.bP (u.bP L);refine aQ 10 Xf xK Y λa=>aE a h8.obj Y (aE a N Y (aE a N Y (Xd.build Xb a rfl rfl (aF a Y λw9 C=>?_))));have h9:=h8.bQ C;have A:=Xdc S.v ⟨(k:Nat),pt,ta,none,0,[]⟩ w9 h9.vw (J6 _ _ _);rw[h.vc,show Aj S.c ⟨(k:Nat),pt,ta,none,0,[]⟩=(m.t:Int) from mt.symm] at A;refine bG A Y λad f=>?_;have g:=h9.bQ f;obtain⟨cb,off,eca,ae⟩:=g.ca.1 k ap;have esz:S.c.bT.getD k 0=(m.size:Int):=by rw[ms];unfold Zn;rw[XA]
    rw[esz] at ae;refine aQ 19 Xf xK Y λa=>aE a g.obj Y (aE a g.obj Y ?_);rw[eca];refine aB k a Y ?_;refine Xd.load Xb a rfl ae (by first|exact λh=>h|(intro h;omega)|assumption) rfl ?_;have al:Pi s.bs.length m.f m.t m.size=true:=Vf.2 (by obtain⟨l1,l2,l3,l4⟩:=(Ky H (k:=k) (m:=m) (by show(s.mv.set k _)[k]?=_;rw[XH hk]));simp only at l1 l2;omega);have R:∀w',Xc Xf ad w'->Xe prog 202 #[.pointer (some ⟨S.A.ab,0,none⟩),W m.f,W m.t,W m.size] w' (λv T=>Xc Xf w' T/\∃M:Mv,v=.tuple #[.pointer (some ⟨M.mv,0,none⟩),W 0]/\M.f=m.f/\M.t=m.t/\M.size=m.size/\ad.heap.size<=M.mv/\E3 T S.A (Fl S {s with rm:=Qe s.rm (k:Nat) (o:Nat)}) M 0):=λw' c=>
     (Xle S.A _ m.f m.t m.size w' (g.ar.bQ c) al).mono λv T ⟨M,e,a1,a2,a3,a4,a5,a6⟩=>⟨a6,M,e,a1,a2,a3,xH c.size,a5⟩
    refine Xd.callQ a rfl rfl (R) ?_;rintro _ c2 D ⟨M,rfl,af,ag,ah,bb,I⟩;refine Xd.adv Xb a rfl (aF a Y λc3 q=>?_);have ai:=(g.adopt D bb (Xg I.obj)).bQ q;have I:=I.bQ q;refine aQ 9 Xf xK Y λa=>aE a ai.obj Y (aE a (q.bP (D.bP (f.bP (C.bP N)))) Y (Xd.build Xb a rfl rfl (aF a Y λbc E=>?_)));have aj:=ai.bQ E;have am:k<mo.length:=by rw[h.mol];exact hk
    refine Xa.index Xb rfl (j:=k*6) X (show(k:Int)<(s.mv.length:Nat) by omega) xS rfl ?_;have hv:([.pointer (some ⟨M.mv,0,none⟩),W (o:Nat),W pf,W fa,W pt,W ta]:List dE)=Er (some (M.mv,m)):=by unfold Er;simp only;rw[b6,a9,aa,ab,ac]
    refine aL Y aj.mvs (hv▸(Sj (mo:=mo) (k:=k) (y:=some (M.mv,m)) am)) Y λbd an O bs=>?_;have be:∀b' m',some (M.mv,m)=some (b',m')->bc.heap[b']?=some (.cells (Ph S.A (Fu b' m') m'.cE).toArray 288 (0,0))/\((F b'\/Fr' b')\/b'=M.mv)/\¬Fr' b'/\∀(j:Nat) m'',mo[j]?≠some (some (b',m'')):=λb' m' e=>by
     cases e
     refine⟨?_,.inr rfl,λhz=>by have:=hr.low _ hz;have:=u.size;have:=B.size;have:=C.size;have:=f.size;omega,λj m'' hj=>?_⟩
     .have:=(I.bQ E).obj;rw[b7];have eM:M=Fu M.mv m:=by cases M;simp only at af ag ah;subst af;subst ag;subst ah;rfl
      rw[eM] at this;exact this
     .have:=g.low _ (g.mob j _ m'' hj).2.1;omega
    have ao:Xc F w w5:=(l.trans G).gr;have Q:Xc F w bd:=by
     exact((ao.trans (n.mono λz _ hz=>h.f1 z hz)).trans (((((((u.trans B).trans C).trans f).trans D).trans q).trans E).gr)).trans (O.mono λz _ e=>e▸h.f2.2.2.2.2)
    have fF:∀z,((F z\/Fr' z)\/z=M.mv)->F z\/w.heap.size<=z:=λz hz=>by
     have:=l.size;have:=G.size;have:=u.size;have:=B.size;have:=C.size;have:=f.size;have:=n.size;rcases hz with(hz|hz)|rfl
     .exact .inl hz
     .exact(a8 z hz).imp (h.f1 z) X
     .exact .inr X
    exact bE func129 Y ⟨_,Fr',_,(aj.setMv (x:=some (M.mv,m)) O an be),fF,Q⟩
section
variable {F Fr:Nat->Prop}{w w':dD}{S:Sto}{s:StM}{by':Int}{mo:Mo}{pd:Option (Nat×PlcM)}
theorem Xog{M:Mv}(hb:A.mb=some b):Rc A V M g k=⟨Jo V.bs M.f M.t g k,Xu V.total k,V.dA⟩:=by
 unfold Rc Jo;by_cases h:k=0
 .subst h;rw[bK rfl,bK rfl];exact ArV.eq rfl (Oq _).symm rfl
 .rw[bJ h,bJ h];exact ArV.eq rfl (Rr hb) (V.charge_lap A _)
theorem Xo7{M:Mv}(hb:A.mb=some b):Oa A V M g i n=⟨E1 V.bs M.f M.t g i n,Xu V.total (Qv i n g),V.dA⟩:=by
 unfold Oa E1;by_cases h:Qv i n g=0
 .rw[bK h,bK h,h];exact ArV.eq rfl (Oq _).symm rfl
 .rw[bJ h,bJ h];exact ArV.eq rfl (Rr hb) (V.charge_lap A _)
theorem Vg(h:Xs F Fr w S s by' mo){m:MvM}(hm:s.mv[k]?=some (some m)):∃b,mo[k]?=some (some (b,m)):=by
 obtain⟨x,a,e⟩:=h.mo_at ((XC.1 hm).1);rw[Dy hm] at e;obtain⟨⟨b,m'⟩,rfl,e'⟩:=QN.1 e;simp only at e'
 subst e';exact⟨b,a⟩
theorem Xs.went(h:Xs F Fr w S s by' mo){m:MvM}{t:Int}(hx:mo[k]?=some (some (b,m)))(hM:E3 w' S.A ⟨bs,t,S.R.dA⟩ (Fu b m) g)(hl:bs.length=s.bs.length)(hc:Xc (Se S.A (Fu b m)) w w'):Xs F Fr w' S {s with bs:=bs,rm:={s.rm with tot:=t},mv:=s.mv.set k (some {m with cE:=g})} by' (mo.set k (some (b,{m with cE:=g}))):=by
 have d:=(XC.1 hx).1;have l:∀(j b':Nat) m',mo[j]?=some (some (b',m'))->j≠k -> ¬Se S.A (Fu b m) b':=λj b' m' a c f=>by
  have kk:=h.kdm a;obtain⟨_,_,n,_,_,o⟩:=h.kds;rcases f with(e|e)|e
  .exact Xr kk n xD e
  .rw[h.amb] at e;cases e;exact Xr kk o xD rfl
  .exact c (h.mdj j k b' m' m a (e▸hx))
 have:=h.arena (bs:=bs) (t:=t) (mo2:=mo.set k (some (b,{m with cE:=g}))) hc (λz f=>?_) hM.ar.dat hl hM.ar.rng (hM.ar.met _ h.amb) ?_ (by rw[XG]) (λj b' m' a=>?_)
 .rw[XfC,h.mom] at this;exact this
 .rcases f with(e|e)|e
  .exact .inl e
  .rw[h.amb] at e;exact .inr (.inl (Option.some.inj e).symm)
  .exact .inr (.inr ⟨k,m,e▸hx⟩)
 .apply QH
  intro i;have e1:=Sj (mo:=mo) (k:=k) (y:=some (b,{m with cE:=g})) d;have e2:=Sj (mo:=mo) (k:=k) (y:=some (b,m)) d;have e3:mo.set k (some (b,m))=mo:=by
   apply QH
   intro j;by_cases e:k=j
   .subst e;rw[XH d,hx]
   .rw[XK e]
  rw[e3] at e2;have e4:Er (some (b,{m with cE:=g}))=Er (some (b,m)):=rfl;rw[e4,e2] at e1;rw[<-Option.some.inj e1]
 .rcases Si a with⟨rfl,e,_⟩|⟨c,a⟩
  .cases e
   exact⟨hM.obj,m,hx⟩
  .exact⟨hc.heap (h.mob j b' m' a).1 (l j b' m' a c),m',a⟩
end
theorem XcQ{F Fr:Nat->Prop}{w:dD}{S:Sto}{s:StM}{by':Int}{mo:Mo}(h:Xs F Fr w S s by' mo)(hs:s.Ok S.c){m:MvM}(hm:s.mv[k]?=some (some m))(n:Int):Xe prog 130 #[Y6 S,W (k:Nat),W n] w (λv w'=>v=W (Zm m n:Nat)/\Ej F w w' S (Yg s k n) by'):=by
 obtain⟨f1,f2,f3⟩:=OkP.few hs;have hk:=(XC.1 hm).1;obtain⟨b,Q⟩:=Vg h hm;obtain⟨⟨o,t,ew,et,eq⟩,ea,en,_,_,_,bc⟩:=hs.mv k m hm;have ab:k<mo.length:=by rw[h.mol];exact hk
 have bd:=Uq m n;have a0:∀z,Se S.A (Fu b m) z->F z:=λz a=>a.elim (h.footF z) (λe=>e▸(h.mob k b m Q).2.1);refine aR func130 ntmps130 Y (bB h.obj Y (Xa.index Xb rfl (j:=k*6) X (show(k:Int)<(s.mv.length:Nat) by omega) xS rfl ?_));refine Xa.loadC Xb (Er (some (b,m))) rfl xT ((λj v hv=>by have hj:j<6:=(XC.1 hv).1;exact h.mcell Q hj hv)) rfl ?_;refine bC Y λxb w1 e1 ac an be=>bF ac Y λw2 a1 ao bf=>?_;have B:=an.sn ao;have h2:=h.bQ B;have C:¬F xb:=λa=>xH (h.low xb a)
 refine bB a1 Y (aP Y (Xlf S.A (Fl S s) (Fu b m) m.cE n w2 (h2.mvOk hs Q)) ?_);rintro _ w3 ⟨rfl,a2,D⟩;refine aN Y ?_;have E:E3 w3 S.A ⟨Jo s.bs m.f m.t m.cE (Zm m n),Xu s.rm.tot (Zm m n:Nat),S.R.dA⟩ (Fu b m) (m.cE+Zm m n):=by
  rw[Xog h.amb] at a2;exact a2
 obtain⟨l1,l2,l3,_⟩:=Ky hs hm;have h3:=h2.went Q E (XcM (size:=m.size) X l1 l2) D;have G:=D.heap a1 (λa=>C (a0 _ a));have ad:=B.gr.trans (D.mono λz _ a=>a0 z a);refine bB G Y (bG (XbI S.A _ (Fu b m) (m.cE+Zm m n) w3 E) Y λw4 H=>?_);have R:=h3.bQ H;have d:=H.bP G;have I:=ad.trans H.gr;by_cases a3:m.cE+Zm m n<m.size
 .have eG:Yg s k n={Q3 s m n with mv:=s.mv.set k (some {m with cE:=m.cE+Zm m n})}:=by unfold Yg;rw[Dy hm];simp only;rw[bK a3]
  rw[eG];exact aI Y (by show((((m.size-(m.cE+Zm m n):Nat):Int) == 0)=false);simp;omega) (bE func130 Y ⟨rfl,.of R I⟩)
 .have eG:Yg s k n={Q3 s m n with mv:=s.mv.set k none,th:=s.th.set m.who.toNat (some ⟨Q2 s m.who,⟨k,m.pt,m.ta,[]⟩⟩),rm:=Qw (Q3 s m n).rm k m.pf m.fa}:=by unfold Yg;rw[Dy hm];simp only;rw[bJ a3]
  rw[eG];refine aM Y (by show((((m.size-(m.cE+Zm m n):Nat):Int) == 0)=true);simp;omega) ?_;have ar:=(XC.1 et).1;have au:m.who.toNat=o:=X
  have av:Q2 s m.who=t.size:=by unfold Q2;rw[ew,Hk et]
  rw[au,av];obtain⟨al,a4⟩:=R.th;obtain⟨q,q1,q2,q3,q4,q5⟩:=a4.2.2.1 o t et;refine aQ 8 Xf xK Y λc=>aE c R.obj Y (aE c d Y (Xd.lookup Xb c rfl (a4.1) (by first|(intro b h;cases h;assumption)|(intro b h hs;cases h;omega)) ((show Bv al _ m.who false=.agg (Fi t.size q).toArray from by unfold Bv;rw[ew,q2];rfl)) rfl (Xd.cK c rfl λw5 r=>Xo.alloc Xb c rfl (λ_=>rfl) λtb w6 e6 ae aw bg=>aF c Y λw7 a5=>?_)));have J:=(r.trans aw).trans a5;have af:=J.bP d;have ag:=a5.bP ae;have ax:tb≠xb:=xI (Xg d) r.size
  refine bF ag Y λw8 ah a6 bh=>?_;have K:=a6.heap af (λe=>ax e.symm);refine bB K Y (bB K Y (aO Y (bF ah Y λw9 ai ay bi=>?_)));have g:=(J.bU a6 (λz a e=>xH r.size)).bU ay (λz a e=>xH r.size);have h9:=R.bQ g;have L:=g.bP d;refine aQ 7 Xf xK Y λc=>aE c h9.obj Y (aE c L Y (aE c ai Y (aF c Y λbj i=>?_)));have M:=h9.bQ i;have T:=i.bP L;obtain⟨al',N⟩:=M.th;refine Xa.mapset Xb rfl (N.1) λbk u f ba=>aN Y ?_;rw[ew] at u;have aj:=N.put (o:=o) (size:=t.size) (q:=⟨(k:Nat),m.pt,m.ta,none,0,[]⟩) (qm:=⟨(k:Nat),m.pt,m.ta,[]⟩) rfl ar u f M.f2.2.2.2.1 (J6 _ _ _) (λ_ _ _ e=>by cases e) ⟨(λ_ _ _ e=>by cases e),(λ_ _ _ e=>by cases e)⟩;have O:=M.setTh f aj;have U:=f.heap T (λe=>C (e▸h.f2.2.2.2.1));refine bB O.obj Y (aO Y ?_);have V:k<(mo.set k (some (b,{m with cE:=m.cE+Zm m n}))).length:=by rw[XG];exact ab
  have bm:(s.mv.set k (some {m with cE:=m.cE+Zm m n})).length=s.mv.length:=XG;refine Xa.index Xb rfl (j:=k*6) X (show(k:Int)<((s.mv.set k (some {m with cE:=m.cE+Zm m n})).length:Nat) by omega) xS rfl (aL Y O.mvs (Sj (y:=none) V) Y λbn ak l bb=>?_);have a7:=O.setMv (x:=none) l ak (λ_ _ e=>by cases e);have A:=l.heap U (λe=>C (e▸h.f2.2.2.2.2));refine aQ 11 Xf xK Y λc=>aE c a7.obj Y (aE c A Y (aE c A Y (aF c Y λbo p=>?_)));have a8:=a7.bQ p;refine aP Y (Xg1 a8.cW (k:Nat) m.pf m.fa) ?_;rintro _ bp ⟨rfl,⟨Fr',hr,a9,P⟩⟩;refine aN Y ?_;have b0:=a8.roomed hr a9 P;have b1:=(I.trans g.gr).trans i.gr;have aa:=(b1.trans (f.mono λz _ e=>e▸h.f2.2.2.2.1)).trans (l.mono λz _ e=>e▸h.f2.2.2.2.2);have b2:=(aa.trans p.gr).trans (P.mono λz _ a=>h.f1 z a);have eS:({Q3 s m n with mv:=s.mv.set k none,th:=s.th.set o (some ⟨t.size,⟨(k:Nat),m.pt,m.ta,[]⟩⟩),rm:=Qw (Q3 s m n).rm (k:Nat) m.pf m.fa}:StM)={bV:=s.bV,bs:=Jo s.bs m.f m.t m.cE (Zm m n),rm:=Qw {s.rm with tot:=Xu s.rm.tot (Zm m n:Nat)} (k:Nat) m.pf m.fa,th:=s.th.set o (some ⟨t.size,⟨(k:Nat),m.pt,m.ta,[]⟩⟩),mv:=(s.mv.set k (some {m with cE:=m.cE+Zm m n})).set k none}:=by
   rw[List.set_set];rfl
  rw[eS];have fF:∀z,(F z\/Fr' z)->F z\/w.heap.size<=z:=λz a=>a.elim .inl (λa=>(a9 z a).imp (h.f1 z) (λhl=>xI aa.size p.size));exact bE func130 Y ⟨rfl,⟨_,Fr',_,b0,fF,b2⟩⟩
theorem XhC(h:Xx s (k:Nat)=none)(n:Int):Yg s k n=s:=by unfold Yg;rw[h]
theorem Xoe{m:MvM}(h:Xx s (k:Nat)=some m){n n':Int}(e:Zm m n=Zm m n'):Yg s k n=Yg s k n':=by
 unfold Yg Q3;rw[h];simp only
 rw[e]
theorem Xj6{m:MvM}:Zm m ((m.size-m.cE:Nat):Int)=Zm m (m.size:Nat):=by unfold Zm Dh;omega
theorem XhJ{S:Sto}(h:Xs F Fr w S s by' mo)(hs:s.Ok S.c)(κ:Int):Xe prog 103 #[Y6 S,W κ] w (λ_ w'=>Ej F w w' S (X8 s κ) by'):=by
 obtain⟨f1,f2,f3⟩:=OkP.few hs;refine aR func103 ntmps103 Y (bH (L8 h hs κ) Y ?_);cases hm:Xx s κ with
 |none=>
  have e:X8 s κ=s:=by unfold X8;rw[hm]
  rw[e];exact aS Y (bE func103 Y (.of h (Xc.refl _ _)))
 |some m=>
  obtain⟨k,rfl,l,a⟩:=Ao hm;have e:X8 s (k:Nat)=Yg s k ((m.size-m.cE:Nat):Int):=by
   unfold X8;rw[hm];simp only[XA];exact Xoe hm Xj6.symm
  rw[e];obtain⟨b,d⟩:=Vg h a;refine bI Y (bB h.obj Y (Xa.index Xb rfl (j:=k*6) X (show(k:Int)<(s.mv.length:Nat) by omega) xS rfl (aW Y (h.mcell d (i:=0) xD rfl) Y (bG (XbI S.A (Fl S s) (Fu b m) m.cE w (h.mvOk hs d)) Y λn c=>?_))));refine aP rfl (XcQ (h.bQ c) hs a ((m.size-m.cE:Nat):Int)) ?_;rintro _ o ⟨rfl,f⟩;exact aN Y (bE func103 Y (.trans (λ_ g=>.inl g) c.gr f))
theorem XhI{S:Sto}(h:Xs F Fr w S s by' mo)(q:Plc)(hs:s.OkP S.c (some (o,Xz q)))(hq:Zw w q):Xe prog 104 #[Y6 S,.agg (Xw q).toArray] w (λ_ w'=>Ej F w w' S (Ax S.c s (Xz q)) by'):=by
 obtain⟨f1,f2,f3⟩:=OkP.few hs;have J:=hs.dropped;refine aR func104 ntmps104 Y (bC Y λb w1 e1 A i a2=>?_);have j:¬F b:=λc=>xH (h.low b c)
 have K:=h.bQ i;refine aQ 5 Xf xK Y λf=>aE f K.obj Y (aE f A Y (aF f Y λw2 d=>?_));have L:=K.bQ d;have B:=d.bP A;refine aP Y (Xnj L.cW q (hq.bQ (i.trans d))) ?_;rintro _ w3 ⟨rfl,⟨Fr',hr,l,g⟩⟩;have M:=L.roomed hr l g;have p:=g.heap B (λc=>j (h.f1 _ c));have a3:=d.size;have a4:=g.size;have r:∀z,(F z\/Fr' z)->F z\/w.heap.size<=z:=λz c=>c.elim .inl (λc=>(l z c).imp (h.f1 z) X);have H:¬(F b\/Fr' b):=λc=>c.elim j (λc=>(l b c).elim (λc=>j (h.f1 _ c)) (xH (Xg B)));have t:=((i.trans d).gr).trans (g.mono λz _ c=>h.f1 z c);refine aN Y (bB p Y ?_);by_cases u:q.cL=-1
 .have e:Ax S.c s (Xz q)={s with rm:=Yo s.rm (Xz q)}:=by unfold Ax;rw[bK (show(Xz q).cL<0 by show q.cL<0;omega)]
  rw[e];exact aM Y (by rw[u];rfl) (bE func104 Y ⟨_,Fr',mo,M,r,t⟩)
 .obtain⟨_,p2,_,_⟩:=hs.ps o (Xz q) rfl u;obtain⟨_,k0,N⟩:=Pm hs (k:=(Xz q).cL) (n:=(Xz q).cR) (a:=(Xz q).idx) (by rw[p2];omega);obtain⟨k,I⟩:=XE (show 0<=q.cL from k0);replace N:q.cL<S.c.bT.length:=N;have O:k<s.mv.length:=xH hs.ml
  have e:Ax S.c s (Xz q)=Yg (Yj S.c {s with rm:=Yo s.rm (Xz q)} k) k S.c.step:=by
   unfold Ax;rw[bJ (show ¬(Xz q).cL<0 by show ¬q.cL<0;omega),show(Xz q).cL.toNat=k by show q.cL.toNat=k;omega]
  rw[e];refine aI Y (xU u) (bB p Y ?_);rw[I];refine aP Y (XhH M J k O) ?_;rintro _ w4 ⟨P,Q,R,y,T,C⟩;have D:=C.heap p H;have E:=J.begin k;have v:=t.bU C (λz c hf=>(r z hf).elim id X);have x:∀z,P z->F z\/w.heap.size<=z:=λz c=>(T z c).elim (r z) X;refine aN Y (bB D Y ?_);rw[I];refine bH (L8 y E (k:Nat)) Y ?_;cases hm:Xx (Yj S.c {s with rm:=Yo s.rm (Xz q)} k) (k:Nat) with
  |none=>
   rw[XhC hm];exact aS Y (bE func104 Y ⟨P,Q,R,y,x,v⟩)
  |some m=>
   obtain⟨k',ek',a5,U⟩:=Ao hm;obtain rfl:k=k':=X
   refine bI Y (aQ 8 Xf xK Y λf=>aE f D Y (aE f y.obj Y ?_));rw[I];refine aF f Y λw5 G=>?_;refine aP rfl (XcQ (y.bQ G) E U S.c.step) ?_;rintro _ w6 ⟨rfl,V⟩;exact aN Y (bE func104 Y (.trans x (v.trans G.gr) V))
section
variable {F Fr:Nat->Prop}{w w':dD}{S:Sto}{s:StM}{by':Int}{mo:Mo}{pd:Option (Nat×PlcM)}
theorem Xc2{a b:Int}{r:Plc}(h:Value.agg (Fi a q).toArray=Value.agg (Fi b r).toArray):q.pa=r.pa:=by
 injection h with h
 have h:=congrArg Array.toList h;simp only[Fi,Xw,List.toList_toArray,List.cons.injEq,Value.slice.injEq] at h;exact h.2.2.2.2.1.1
theorem Xs.loc{F0 Fr0:Nat->Prop}{s0:StM}{by0:Int}{mo0:Mo}(h0:Xs F0 Fr0 w0 S s0 by0 mo0)(hm:∀al,Y7 w0 S.tm al->Y7 w S.tm al)(h:Xs F Fr w S s by' mo)(hb:w0.heap.size<=b)(hF:¬F b)(hk:kd w b=some (some t))(ht:t≠352/\t≠348/\t≠3)(hc:Xc (λz=>z=b) w w'):Xs F Fr w' S s by' mo:=by
 have d:=h0.cW;have c:=Zr d.may;have B:=Xg h0.ar.obj;have C:=Xg h0.ar.cap;have D:=Xg h0.vw.obj;have E:=Xg d.obj;have G:S.R.sb<w0.heap.size:=by have:=World.block_lt_of_cell? w0 _ (d.sl 0 (xI c.n d.ok.n));exact this
 have H:1<w0.heap.size:=by have:=World.block_lt_of_cell? w0 _ (d.tab 0 xD);exact this
 have f:=h0.rc;have bW:∀{a:Option dF} {l:List Int},A5 F0 w0 a l->0<l.length -> ∀off s,a≠some ⟨b,off,s⟩:=λg p off s e=>xH (g.1.block p e)
 refine h.other hc (λz e=>e▸⟨hF,⟨X,X,X,X,X,X⟩,bW h0.ca (by rw[f] at c;have:=c.n;omega),bW h0.ka (by rw[f] at c;have:=c.bV;have:=c.n;omega),t,hk,ht.1,ht.2.1,λe=>absurd e ht.2.2⟩) ?_;intro al j k sz q i;obtain⟨m,r,I,u,v,_⟩:=h0.th;have:=(hm m r).uniq j;subst this;by_cases hk:∀(o:Nat) t,s0.th[o]?=some (some t)->(o:Int)≠k
 .rw[v k hk] at i;cases i
 .simp only[Classical.not_forall,YP] at hk;obtain⟨o,t,x,y⟩:=hk;obtain⟨J,_,n,_,_,A⟩:=u o t x;rw[y,i] at n;rw[(Xc2 (Option.some.inj n))];intro b' off s' e' K;have:=Eo (A.i b' off s' e');omega
theorem Xoi(h:Xs F Fr w S s by' mo)(n:Int):Xe prog 175 #[.pointer (some ⟨S.mb,0,none⟩),W n] w (λ_ w'=>Xs (λz=>F z\/Fr z) Fr w' S (Y3 s n) by' mo/\Xc Fr w w'):=by
 have hm:=V8 h.cW n;rw[h.rmo] at hm;exact hm.mono λ_ w' ⟨a,b⟩=>⟨h.roomed a (λz c=>.inl c) b,b⟩
end
theorem Xfg(c:Conf)(s:StM)(o size:Int):(Yb c s o size).th=s.th/\(Yb c s o size).bV=s.bV/\(Yb c s o size).bs=s.bs/\(Yb c s o size).mv.length=s.mv.length:=by
 unfold Yb;split
 .exact⟨rfl,rfl,rfl,XG⟩
 .exact⟨rfl,rfl,rfl,rfl⟩
theorem XhK{F Fr:Nat->Prop}{w:dD}{S:Sto}{s:StM}{by':Int}{mo:Mo}{pd:Option (Nat×PlcM)}(h:Xs F Fr w S s by' mo)(hs:s.OkP S.c pd)(ho:o<s.th.length)(hf:Ys S.c s size=0)(hL:(Qs S.c s (o:Nat) size).OkP S.c pd2)(hby:0<=by'/\by'<=1152921504606846976):Xe prog 113 #[Y6 S,W (o:Nat),W size] w (λ_ w'=>Ej F w w' S (Qs S.c s (o:Nat) size) (by'+size)):=by
 obtain⟨f1,f2,f3⟩:=OkP.few hs;have b9:=h.ca.1;have ag:=Zr hs.may;have a9:=hs.may;have c0:=ag.cH;have c1:=ag.n;have ba:=h.vc;obtain⟨cd,c2⟩:=Oz hf;have ar:(Qs S.c s (o:Nat) size).th[o]?=some (some ⟨size,Zp S.c s (o:Nat) size⟩):=by
  show(s.th.set (o:Int).toNat _)[o]?=_
  rw[XA,XH ho]
 obtain⟨pv,ph,pf⟩:=Jg hL ar;simp only at pv ph pf
 refine aR func113 ntmps113 Y (bB h.obj Y (bG (Ov S.p.ca S.p.cc S.c.bT size w b9 X) Y λw1 a1=>?_));have h1:=h.bQ a1;refine bC Y λb w2 e2 M ah ce=>?_;have r:=h1.bQ ah;have B:¬F b:=λa=>xH (h1.low b a)
 have I:=a1.trans ah;refine bH (L8 r hs (Xl S.c.bT size)) Y ?_;apply Xa.cut (α:=(Nat->Prop)×(Nat->Prop)×Plc×Mo) (λ_=>[(0,false,Y6 S),(1,false,W (o:Nat)),(2,false,W size),(7,false,xV b)]) (λx w'=>(∀z,x.1 z->F z\/w.heap.size<=z)/\¬x.1 b/\w'.heap[b]?=some (.cells (Xw x.2.2.1).toArray 83 (0,0))/\Xz x.2.2.1=Zp S.c s (o:Nat) size/\Zw w' x.2.2.1/\Gf S.G w' x.2.2.1.pa/\Xj x.1 x.2.2.1.pa/\Xc F w w'/\Xs x.1 x.2.1 w' S (Yb S.c s (o:Nat) size) by' x.2.2.2)
 .intro J;by_cases d:Di S.c s size=none
  .have eS:Yb S.c s (o:Nat) size={s with rm:=Ai S.c s.rm (o:Nat) size}:=by unfold Yb;rw[d]
   have eQ:Zp S.c s (o:Nat) size=Bz S.c s.rm (o:Nat) size:=by unfold Zp;rw[d]
   have N:(Xx s (Xl S.c.bT size)).isSome=false\/((Xx s (Xl S.c.bT size)).isSome=true/\Qm s.rm (Xl S.c.bT size)≠0):=by
    unfold Di at d;cases hm:Xx s (Xl S.c.bT size) with
    |none=>exact .inl rfl
    |some m=>
     rw[hm] at d;simp only at d
     refine .inr ⟨rfl,λe=>?_⟩;rw[bK e] at d;cases d
   have hP:=Xnn r.cW (o:Nat) size;rw[h.rc] at hP;apply Xa.cut (α:=Unit) (λ_=>[(0,false,Y6 S),(1,false,W (o:Nat)),(2,false,W size),(7,false,xV b),(68,false,.pointer (some ⟨S.sb,11,none⟩))]) (λ_ w'=>w'=w2)
   .intro K;rcases N with N|⟨N,aa⟩
    .rw[N];exact aS Y (K () _ _ rfl ⟨rfl,rfl,rfl,rfl,rfl,trivial⟩)
    .rw[N];exact bI Y (bB r.obj Y (bH (V6 r.cW (Xl S.c.bT size)) Y (aI Y (xU aa) (K () _ _ rfl ⟨rfl,rfl,rfl,rfl,rfl,trivial⟩))))
   .rintro-_ rfl;refine bB r.obj Y (aP Y (hP) ?_);rintro _ w3 ⟨q,rfl,f,⟨Fr',hr,t,O,ai,av,u⟩⟩;refine aN Y ?_;have h3:=r.roomed hr t O;have aj:=O.heap M (λa=>B (h.f1 _ a));have c4:=I.size;have aw:=a1.size;have cf:=O.size;have E:∀z,(F z\/Fr' z)->F z\/w.heap.size<=z:=λz a=>a.elim .inl (λa=>(t z a).imp (h.f1 z) X);have g:¬(F b\/Fr' b):=λa=>a.elim B (λa=>(t b a).elim (λa=>B (h.f1 _ a)) (xH (Xg M)));have p:Xj (λz=>F z\/Fr' z) q.pa:=λb' off s' e a=>a.elim (λa=>xI (r.low b' a) (u b' off s' e)) (av b' off s' e);have ax:Gf S.G w3 q.pa:=⟨λb' off s' e=>(u b' off s' e).2,λb' off s' e a=>by obtain⟨_,_,_,_,_,hG⟩:=r.th;have:=hG b' a;have:=u b' off s' e;omega⟩;have a2:Xj (λz=>z=b) q.pa:=λb' off s' e a=>xI (u b' off s' e) (Xg M)
    refine bF aj Y λwt n C be=>?_;have ak:=Xs.loc h (λal P=>(P.bR I id).bR O h.nr.2.2.2.1) h3 X g (X2 aj) xD C;have L:Zw wt q:=⟨ai.rd.bW a2 C,ai.len⟩;have G:=ax.bR C a2;have Q:=((I.gr.trans (O.mono λz _ a=>h.f1 z a)).sn C);rw[<-eQ] at f;rw[<-eS] at ak;have ht:=ak;exact J (_,Fr',q,mo) _ _ ⟨E,g,n,f,L,G,p,Q,ht⟩ ⟨rfl,rfl,rfl,rfl,trivial⟩
  .obtain⟨m,d⟩:=Option.ne_none_iff_exists'.1 d;have eS:Yb S.c s (o:Nat) size=Y3 {s with mv:=s.mv.set (Xl S.c.bT size).toNat none,rm:=Qq s.rm (Xl S.c.bT size) m.pt m.ta (o:Nat)} 3:=by unfold Yb;rw[d]
   have eQ:Zp S.c s (o:Nat) size=⟨Xl S.c.bT size,m.pt,m.ta,[]⟩:=by unfold Zp;rw[d]
   obtain⟨hm,aa⟩:Xx s (Xl S.c.bT size)=some m/\Qm s.rm (Xl S.c.bT size)=0:=by
    unfold Di at d;cases hm:Xx s (Xl S.c.bT size) with
    |none=>rw[hm] at d;cases d
    |some m'=>
     rw[hm] at d;simp only at d
     split at d
     .rename_i ho;cases d;exact⟨rfl,ho⟩
     .cases d
   obtain⟨k,ek,hk,bf⟩:=Ao hm;obtain⟨mb,hx⟩:=Vg r bf;have ay:k<mo.length:=by rw[h.mol];exact hk
   rw[hm];refine bI Y (bB r.obj Y (bH (V6 r.cW (Xl S.c.bT size)) Y (aM Y (by rw[aa];rfl) (bB r.obj Y ?_))));rw[ek,XA] at eS;rw[ek] at eQ;rw[ek];refine Xa.index Xb rfl (j:=k*6) X (show(k:Int)<(s.mv.length:Nat) by omega) xS rfl ?_;refine Xa.loadC Xb ([W m.pf,W m.fa,W m.pt,W m.ta]) rfl xT ((λj v hv=>by have hj:j<4:=(XC.1 hv).1;show w2.cell? ⟨S.vb,0+k*6+2+j,none⟩=_;rw[YX];exact r.mcell hx (i:=2+j) X (by rw[<-hv];show([xV mb,W m.who,W m.pf,W m.fa,W m.pt,W m.ta]:List dE)[2+j]?=_;rw[Nat.add_comm];rfl))) rfl ?_;refine bC Y λxb w3 e3 az bh cg=>bF az Y λw4 b0 bi ch=>?_;have aw:=a1.size;have U:=bh.sn bi;have V:=I.trans U;have h4:=h.bQ V;have bj:=U.bP M;have ac:¬F xb:=λa=>xH (h.low xb a)
   refine bB h4.obj Y (aO Y (Xa.index Xb rfl (j:=k*6) X (show(k:Int)<(s.mv.length:Nat) by omega) xS rfl (aL Y h4.mvs (Sj (y:=none) ay) Y λw5 b1 R ci=>?_)));have h5:=h4.setMv (x:=none) R b1 (λ_ _ e=>by cases e);have D:=R.heap b0 (λe=>ac (e▸h.f2.2.2.2.2));have bm:=R.heap bj (λe=>B (e▸h.f2.2.2.2.2));refine aQ 10 Xf xK Y λl=>aE l h5.obj Y (aE l D Y (aE l D Y (aF l Y λw6 A=>?_)));have h6:=h5.bQ A;refine aP Y (Xnl h6.cW (k:Nat) m.pt m.ta (o:Nat)) ?_;rintro _ w7 ⟨rfl,⟨Fr',hr,t,T⟩⟩;refine aN Y ?_;have h7:=h6.roomed hr t T;have b3:=T.heap (A.bP D) (λa=>ac (h.f1 _ a));have bo:=T.heap (A.bP bm) (λa=>B (h.f1 _ a));have cj:w2.heap.size<=w6.heap.size:=xI U.size A.size
   have ad:∀z,Fr' z->F z\/w.heap.size<=z:=λz a=>(t z a).imp (h.f1 z) X;have a0:¬Fr' b:=λa=>(t b a).elim (λa=>B (h.f1 _ a)) (xH (Xg M));have b4:¬Fr' xb:=λa=>(t xb a).elim (λa=>ac (h.f1 _ a)) (by have:=Xg D;have:=A.size;have:=Xg (A.bP D);omega);refine bB h7.obj Y (aP Y (Xoi h7 3) ?_);rintro _ w8 ⟨h8,a3⟩;refine aN Y ?_;have ae:=a3.heap b3 b4;have am:=a3.heap bo a0;refine bB ae Y (bB ae Y (aO Y (bF am Y λwt n C be=>?_)));obtain⟨q,eq⟩:∃q:Plc,q=⟨(k:Nat),m.pt,m.ta,none,0,[]⟩:=⟨_,rfl⟩;have f:Xz q=Zp S.c s (o:Nat) size:=by rw[eQ,eq];rfl
   have L:Zw wt q:=eq▸J6 _ _ _;have u:∀b' off s',q.pa≠some ⟨b',off,s'⟩:=λb' off s' e=>by rw[eq] at e;cases e
   have G:Gf S.G wt q.pa:=⟨λb' off s' e=>absurd e (u b' off s'),λb' off s' e=>absurd e (u b' off s')⟩;have p:Xj (λz=>(F z\/Fr' z)\/Fr' z) q.pa:=λb' off s' e=>absurd e (u b' off s');replace n:wt.heap[b]?=some (.cells (Xw q).toArray 83 (0,0)):=by rw[eq];exact n
   have b5:∀al,Y7 w S.tm al->Y7 w8 S.tm al:=λal P=>((((P.bR V id).bR R (Xr h4.kds.2.2.2.1 h4.kds.2.2.2.2.1 xS)).bR A id).bR T h.nr.2.2.2.1).bR a3 (h7.nr.2.2.2.1);have g:¬((F b\/Fr' b)\/Fr' b):=λa=>a.elim (λa=>a.elim B a0) a0;have E:∀z,((F z\/Fr' z)\/Fr' z)->F z\/w.heap.size<=z:=λz a=>a.elim (λa=>a.elim .inl (ad z)) (ad z);have ht:=Xs.loc h b5 h8 X g (X2 am) xD C;have b6:=(V.gr.trans (R.mono λz _ e=>e▸h.f2.2.2.2.2)).trans A.gr;have Q:=((b6.trans (T.mono λz _ a=>h.f1 z a)).bU a3 (λz a hf=>(ad z hf).elim id X)).sn C;have bp:=eS;replace ht:Xs (λz=>(F z\/Fr' z)\/Fr' z) Fr' wt S (Yb S.c s (o:Nat) size) by' (mo.set k none):=by rw[bp];exact ht
   exact J (_,Fr',q,mo.set k none) _ _ ⟨E,g,n,f,L,G,p,Q,ht⟩ ⟨rfl,rfl,rfl,rfl,trivial⟩
 .rintro⟨F',Fr',q,mo'⟩ wt ⟨E,g,n,f,L,G,p,Q,ht⟩;simp only at E g n f L G p ht
  have an:q.bS.length<=4096:=by
   have e:q.bS=(Zp S.c s (o:Nat) size).bS:=congrArg PlcM.bS f;rw[e];exact pf
  have bq:=Lb (c:=S.c) (q:=q) a9 an;obtain⟨hn,ehn⟩:=XE bq.1;have br:∀w',Xc Xf wt w'->Xe prog 177 #[Gb S.v,.agg (Xw q).toArray] w' (Grow (W ((hn:Nat):Int)) w'):=λw' a4=>by
   have:=Xdd S.v q w' ((ht.bQ a4).vw) (L.bQ a4) X;rw[ba,ehn] at this;exact this
  have bs:Ym S.c q=true:=by rw[Xif,f];exact pv
  obtain⟨y1,y2,y3,y4⟩:=Xfg S.c s (o:Nat) size;refine aQ 11 Xf xK Y λl=>aE l ht.obj Y (aE l n Y (aE l ht.obj Y (aE l n Y (aG l (λw' a4=>(br w' a4)) Y (aF l Y λwa H=>?_)))));have ha:=ht.bQ H;have bu:=H.bP n;refine aP Y (XhF ha a9 (by rw[y3];exact hs.bl) q 0 hn (L.bQ H) p (Kk bs X X X) an) ?_;rintro _ wb ⟨rfl,ao,a5⟩;refine aN Y ?_;have bv:=a5.heap bu g;have a2:Zw wb q:=⟨((L.bQ H).rd).bW p a5,L.len⟩;refine aQ 8 Xf xK Y λl=>aE l ao.obj Y (aE l bv Y (Xd.build Xb l rfl rfl (aF l Y λwc a6=>?_)));have a7:=ao.bQ a6;obtain⟨al,ap⟩:=a7.th;refine Xa.mapset Xb rfl (ap.1) λwd P af ck=>aN Y ?_;have bw:=ap.put (o:=o) (size:=size) (q:=q) (qm:=Zp S.c s (o:Nat) size) f (by show o<(Yb S.c s (o:Nat) size).th.length;rw[y1];exact ho) P af a7.f2.2.2.2.1 (a2.bQ a6) p (((G.bQ H).bR a5 p).bQ a6);have a8:=a7.setTh af bw;refine bB a8.obj Y (aV Y (bF a8.obj Y λwf bx aq cl=>?_));have b8:=a8.setBy (by2:=by'+size) aq bx;have bz:=((H.gr.trans a5).trans a6.gr).trans ((af.mono λz _ e=>e▸a7.f2.2.2.2.1).trans (aq.mono λz _ e=>e▸a8.f2.1));have eL:Qs S.c s (o:Nat) size={Yk S.c (Yb S.c s (o:Nat) size) (Xz q) 0 (X7 hn) with th:=(Yb S.c s (o:Nat) size).th.set o (some ⟨size,Zp S.c s (o:Nat) size⟩)}:=by
   unfold Qs;rw[y1,f,XA,<-f,<-Xie,ehn,XA]
  rw[eL];exact bE func113 Y (.trans E Q (.of b8 bz))
def Bd:Option ThM->Int
 |some t=>t.size
 |none=>0
theorem Xc3:∀l:List (Option ThM),(Xad l).sum=(l.map Bd).sum
 |[]=>rfl
 |none::l=>by
  have:=Xc3 l;unfold Xad at *;simp[Bd,this]
 |some t::l=>by
  have:=Xc3 l;unfold Xad at *;simp[Bd,this]
theorem Hi(s:StM):Zy s=(s.th.map Bd).sum:=Xc3 s.th
theorem XhQ:∀(l:List Int) (i:Nat) (v:Int) (hi:i<l.length),(l.set i v).sum=l.sum-l[i]+v
 |a::l,0,v,_=>by simp[List.set];omega
 |a::l,i+1,v,h=>by
  have:=XhQ l i v (xU h);simp[List.set,this];omega
theorem Oo{l:List (Option ThM)}{x y:Option ThM}(h:l[o]?=some x):((l.set o y).map Bd).sum=(l.map Bd).sum-Bd x+Bd y:=by
 obtain⟨a,e⟩:=XC.1 h;rw[ZW,XhQ _ _ _ (xU a)];simp[e]
theorem XhP{m:Int}(hm:0<=m):∀l:List Int,(∀x∈l,0<=x/\x<=m)->0<=l.sum/\l.sum<=l.length*m
 |[],_=>xS
 |a::l,h=>by
  have c:=XhP hm l λx b=>h x (YA _ b);have d:=h a (ZO ..);simp only[QJ,XN,Int.natCast_add,QG,Int.natCast_one,QO];omega
section
variable {c:Conf}{s:StM}{pd:Option (Nat×PlcM)}
theorem W7(h:s.OkP c pd):0<=Zy s/\Zy s<=8589934592:=by
 have f:c.cN<=4096:=by
  have:=h.may;unfold Xy at this;simp only[XI,decide_eq_true_eq,Qu] at this;omega
 have g:=(Zr h.may).cH;have i:=h.tl;have:=XhP (m:=2097152) X (s.th.map Bd) λx a=>by
  obtain⟨y,b,rfl⟩:=XP.1 a;cases y with
  |none=>exact⟨xD,xD⟩
  |some t=>
   obtain⟨o,d⟩:=List.mem_iff_getElem?.1 b;have:=h.size o t d;show 0<=t.size/\t.size<=2097152
   omega
 rw[XU] at this;rw[Hi];omega
theorem XaY(h:s.Ok c)(k:Nat)(n:Int):Zy (Yg s k n)=Zy s:=by
 unfold Yg;cases hm:Xx s (k:Nat) with
 |none=>rfl
 |some m=>
  obtain⟨j,ej,d,a⟩:=Ao hm;obtain⟨⟨o,t,e1,e2,e3⟩,_⟩:=h.mv j m a;simp only
  split
  .rfl
  .rw[Hi,Hi];have b:Q2 s m.who=t.size:=by rw[e1];exact C6 e2
   show((s.th.set m.who.toNat _).map Bd).sum=_
   rw[show m.who.toNat=o by omega,Oo e2,b];show _-t.size+t.size=_
   omega
theorem XaX(c:Conf)(s:StM)(k:Nat):Zy (Yj c s k)=Zy s:=by unfold Zy;rw[(Ol c s k).1]
theorem Xd8(h:s.Ok c)(κ:Int):Zy (X8 s κ)=Zy s:=by
 unfold X8;split
 .rfl
 .exact XaY h _ _
theorem Xd7{q:PlcM}(h:s.OkP c (some (o,q))):Zy (Ax c s q)=Zy s:=by
 unfold Ax;split
 .rfl
 .rw[XaY (StM.OkP.begin h.dropped _),XaX];rfl
theorem Xd9(o:Nat)(size:Int){x:Option ThM}(h:s.th[o]?=some x):Zy (Qs c s (o:Nat) size)=Zy s-Bd x+size:=by
 rw[Hi,Hi];show((s.th.set (o:Int).toNat _).map Bd).sum=_
 rw[XA,Oo h];rfl
theorem Xjh(o:Int)(i n:Nat):Zy (Af s o i n)=Zy s:=by
 unfold Af;split
 .split
  .rfl
  .rfl
 .rfl
end
theorem XhN{S:Sto}(h:Xs F Fr w S s by' mo)(hs:s.OkP S.c pd)(o:Int)(q:Plc)(i n:Nat)(hq:q.cL=(Yy s o).cL)(hi:∀m,Xx s (Yy s o).cL=some m->i+n<=m.size):Xe prog 110 #[Y6 S,W o,.agg (Xw q).toArray,W i,W n] w (λ_ w'=>Ej F w w' S (Af s o i n) by'):=by
 obtain⟨f1,f2,f3⟩:=OkP.few hs;have noF:∀{S:Nat->Prop} {w w':dD},Xc Xf w w'->Xc S w w':=λh=>h.gr;refine aR func110 ntmps110 Y (bC Y λb I e1 g d H=>?_);have f:=h.bQ d;refine aQ 15 Xf xK Y λa=>aE a g Y ?_;rw[hq];refine aH a (λw' x=>L8 (f.bQ x) hs (Yy s o).cL) Y ?_;cases hm:Xx s (Yy s o).cL with
 |none=>
  have e:Af s o i n=s:=by unfold Af;rw[hm]
  rw[e];exact Xd.no Xb a rfl rfl rfl (aF a Y λC c=>bE func110 Y (.of (f.bQ c) (noF (d.trans c))))
 |some m=>
  obtain⟨k,ek,J,r⟩:=Ao hm;obtain⟨mb,v⟩:=Vg f r;have y:=hi m hm;rw[ek] at hq;refine Xd.yes Xb a rfl rfl rfl (aE a f.obj Y (aE a g Y ?_));rw[hq];refine Xd.index Xb a rfl (j:=k*6) X (show(k:Int)<(s.mv.length:Nat) by omega) xS rfl (aD a (f.mcell v (i:=1) xD rfl) Y (aF a Y λC c=>?_));have l:=f.bQ c;by_cases p:m.who=o
  .have e:Af s o i n=Y3 {s with bs:=E1 s.bs m.f m.t m.cE i n} (Qv i n m.cE):=by unfold Af;rw[hm];simp only;rw[bK p]
   rw[e];refine aM Y (by rw[p];simp) (aQ 11 Xf xK Y λa=>aE a l.obj Y (aE a (c.bP g) Y ?_));rw[hq];refine Xd.index Xb a rfl (j:=k*6) X (show(k:Int)<(s.mv.length:Nat) by omega) xS rfl (aD a (l.mcell v (i:=0) xD rfl) Y (aF a Y λD t=>?_));have A:=l.bQ t;refine aP Y (Xlg S.A (Fl S s) (Fu mb m) m.cE i n D (A.mvOk hs v) y) ?_;rintro _ K ⟨rfl,B,u⟩;refine aN Y ?_;rw[Xo7 h.amb] at B;obtain⟨L,M,N,_⟩:=Ky hs r;have E:(E1 s.bs m.f m.t m.cE i n).length=s.bs.length:=by
    unfold E1;split
    .rfl
    .unfold Qv;exact Rw X X
   exact bE func110 Y (.of (A.arena' u B.ar E) ((noF ((d.trans c).trans t)).trans (u.mono λz _ G=>h.footF z G)))
  .have e:Af s o i n=s:=by unfold Af;rw[hm];simp only;rw[bJ p]
   rw[e];exact aI Y (xU p) (bE func110 Y (.of l (noF (d.trans c))))
def Ju(F:Nat->Prop)(w:dD)(S:Sto)(s:StM)(e:Int)(v:dE)(w':dD):Prop:=v=.int .i64 e/\Ej F w w' S s (Zy s)
theorem Xok{S:Sto}(h:Xs F Fr w S s (Zy s) mo)(hs:s.Ok S.c)(o size:Int):Xe prog 70 #[Y6 S,W o,W size] w (Ju F w S (Q1 S.c s o size) (Cm S.c s o size)):=by
 have noF:∀{S:Nat->Prop} {w w':dD},Xc Xf w w'->Xc S w w':=λh=>h.gr;have same:∀{w'},Xc Xf w w'->Cm S.c s o size≠0->Ej F w w' S (Q1 S.c s o size) (Zy (Q1 S.c s o size)):=λg r=>by
  have e:Q1 S.c s o size=s:=by unfold Q1;rw[bJ r]
  rw[e];exact .of (h.bQ g) (noF g)
 have u:=W7 hs;refine aR func70 ntmps70 Y (aP Y (W8 h (Xc.refl _ _) hs o) ?_);rintro _ A ⟨⟨q,rfl,_⟩,f⟩;refine aN Y (bC Y λb B e2 i k v=>bF i Y λC x l y=>?_);have a:=(f.trans k).bU l (λz D e=>xH f.size);by_cases e1:Z9 s o=1
 .have e:Cm S.c s o size=1:=by unfold Cm;rw[bK e1]
  rw[e1];exact bI Y (bE func70 Y ⟨by rw[e];rfl,same a (by rw[e];decide)⟩)
 .refine aI Y (xU e1) ?_;by_cases c:Z9 s o=0
  .have e:Cm S.c s o size=10:=by unfold Cm;rw[bJ e1,bK c]
   rw[c];exact bI Y (bE func70 Y ⟨by rw[e],same a (by rw[e];decide)⟩)
  .have e:Cm S.c s o size=Ys S.c s size:=by unfold Cm;rw[bJ e1,bJ c]
   have m:=h.bQ a;refine aI Y (xU c) (bG (XcO m hs size) Y λE d=>?_);by_cases hf:Ys S.c s size=0
   .rw[hf];refine aS Y ?_;obtain⟨j,rfl,t,n⟩:=XbU e1 c;have eA:Q1 S.c s (j:Nat) size=Qs S.c s (j:Nat) size:=by unfold Q1;rw[bK (by rw[e];exact hf)]
    refine aP Y (XhK (m.bQ d) hs t hf (StM.OkP.lay hs n hf (by rintro _ _ ⟨⟩)) X) ?_;rintro _ G p;have eb:Zy (Q1 S.c s (j:Nat) size)=Zy s+size:=by rw[eA,Xd9 j size n];show _-0+_=_;omega
    exact aN Y (bE func70 Y ⟨by rw[e,hf],by rw[eb,eA];exact .trans (λ_ h=>.inl h) (noF (a.trans d)) p⟩)
   .exact aM Y (xU hf) (bE func70 Y ⟨by rw[e],same (a.trans d) (by rw[e];exact hf)⟩)
theorem Xon{S:Sto}(h:Xs F Fr w S s (Zy s) mo)(hs:s.Ok S.c)(o:Int):Xe prog 53 #[Y6 S,W o] w (Ju F w S (Aq S.c s o) (Z9 s o)):=by
 have noF:∀{S:Nat->Prop} {w w':dD},Xc Xf w w'->Xc S w w':=λh=>h.gr;have a9:=W7 hs;refine aR func53 ntmps53 Y (aP Y (W8 h (Xc.refl _ _) hs o) ?_);rintro _ w1 ⟨⟨q,rfl,N,aa,ab,ac⟩,y⟩;have ad:=y.size;refine aN Y (bC Y λtb w2 e2 G O ae=>bF G Y λw3 b P af=>?_);have c:=(y.trans O).sn P;have A:¬F tb:=λa=>xH (h.low tb a)
 by_cases i:Z9 s o=0
 .obtain⟨j,t,rfl,ht⟩:=J4 i;have Q:q.cL=t.q.cL:=by have:=congrArg PlcM.cL N;rw[Y5 ht] at this;exact this
  rw[(C6 ht)] at b;have eF:Aq S.c s (j:Nat)=Ax S.c {X8 s t.q.cL with th:=(X8 s t.q.cL).th.set j none} (Yy (X8 s t.q.cL) (j:Nat)):=by
   unfold Aq;rw[bJ (λh=>h i),Y5 ht,XA]
  obtain⟨t',u,g2,g3,g4,g5⟩:=My hs ht;have R:=((Lm hs t.q.cL).ok).away u g5;rw[Y5 u] at eF;have H:Zy (Aq S.c s (j:Nat))=Zy s-t.size:=by
   rw[eF,Xd7 R,Hi];show(((X8 s t.q.cL).th.set j none).map Bd).sum=_
   rw[Oo u,<-Hi,Xd8 hs];show _-t'.size+0=_
   omega
  have ag:=hs.size j t ht;have ah:=(Zr hs.may).cH;rw[i];refine aS Y (bB b Y ?_);rw[Q];refine aP Y (XhJ (h.bQ c) hs t.q.cL) ?_;rintro _ w4 ⟨T,ai,aj,v,k,B⟩;refine aN Y ?_;have I:¬T tb:=λa=>(k tb a).elim A (xH (Xg b));obtain⟨al,C⟩:=v.th;obtain⟨l,U,k2,V,k4,k5⟩:=C.2.2.1 j t' u;refine bB v.obj Y (Xa.lookup Xb rfl (C.1) ((show Bv al _ (j:Nat) false=.agg (Fi t'.size l).toArray from by unfold Bv;rw[k2];rfl)) rfl (Xa.field Xb rfl (show Value.agg ((Fi t'.size l).toArray.extract 1 5)=.agg (Xw l).toArray from rfl) rfl (bC Y λpb w5 e5 J a0 ak=>bF J Y λw6 K a1 am=>?_)));have d:=a0.sn a1;have g:=v.bQ d;have D:¬T pb:=λa=>xH (v.low pb a)
  obtain⟨an,m⟩:=g.th;refine bB g.obj Y (Xa.mapdel Xb rfl (m.1) λw7 L f ao=>aN Y ?_);have h7:=g.setTh f (m.del (o:=j) L f g.f2.2.2.2.1);refine aQ 6 Xf xK Y λM=>aE M h7.obj Y (aE M (f.heap (d.bP (B.heap b A)) (λe=>I (e▸g.f2.2.2.2.1))) Y (aF M Y λw8 n=>?_));have x:=h7.bQ n;refine aV Y (bF x.obj Y λw9 a3 p ap=>?_);have r:=((f.mono λz _ e=>e▸g.f2.2.2.2.1).trans (noF n)).trans (p.mono λz _ e=>e▸x.f2.1);have a4:Zw w9 l:=⟨((V.bQ d).rd).bW k4 r,V.len⟩;refine bB (p.heap (n.bP (f.heap K (λe=>D (e▸g.f2.2.2.2.1)))) (λe=>D (e▸x.f2.1))) Y (aP Y (XhI (x.setBy (by2:=Zy s-t.size) p a3) l (by rw[U];exact R) a4) ?_);rintro _ aq E;refine aN Y ?_;rw[U] at E;exact bE func53 Y ⟨rfl,by rw[H,eF];exact .trans (λz a=>(k z a).imp id X) ((((noF c).trans B).trans (noF d)).bU r (λz a hf=>(k z hf).elim id X)) E⟩
 .have e:Aq S.c s o=s:=by unfold Aq;rw[bK i]
  exact aM Y (xU i) (bE func53 Y ⟨rfl,by rw[e];exact .of (h.bQ c) (noF c)⟩)
theorem Xak(hs:s.OkP c pd){o i n:Int}(h:Qt s o i n=0):∃(j:Nat),∃t,∃i' n':Nat,o=j/\s.th[j]?=some (some t)/\i=i'/\n=n'/\(i'+n':Int)<=t.size/\Qy c t.q.cQ i' n'=0/\t.q.bS.length<=4096:=by
 obtain⟨j,t,e1,e2,e3,e4,e5⟩:=Ri h;obtain⟨a,d,b⟩:=Jg hs e2;obtain⟨i',rfl⟩:=XE e3;obtain⟨n',rfl⟩:=XE e4;exact⟨j,t,i',n',e1,e2,rfl,rfl,e5,Kk a X X X,b⟩
theorem Lk{qm:PlcM}(e:Xz q=qm){i n:Int}(h:Qy c qm.cQ i n=0):Qy c q i n=0:=by rw[Xa3,e];exact h
theorem Xm.from'{base' size:Nat}(h:Xm base t size w v m xs)(hb:base'<=base):Xm base' t size w v m xs:=by
 obtain⟨b,a⟩:=h;refine⟨b,?_⟩;rcases a with a|⟨g,cap,cur,e,c,r⟩
 .exact .inl a
 .exact .inr ⟨g,cap,cur,e,X,r⟩
theorem Xox{S:Sto}(h:Xs F Fr w S s (Zy s) mo)(hs:s.Ok S.c)(o i:Int)(a:Option dF)(cap:Nat)(l:List Int)(hi : -9223372036854775808<=i/\i<=9223372036854775807)(hr:Rd .u8 w a l)(hlc:l.length<=cap)(hl:l.length<=9223372036854775807)(hin:Qo l)(hout:0<l.length->Xj F a):Xe prog 61 #[Y6 S,W o,W i,.slice a l.length cap] w (Ju F w S (Cx S.c s o i l) (Qt s o i l.length)):=by
 have noF:∀{S:Nat->Prop} {w w':dD},Xc Xf w w'->Xc S w w':=λh=>h.gr;refine aR func61 ntmps61 Y (aP Y (XhM h (Xc.refl _ _) hs o i l.length hi X) ?_);rintro _ T ⟨⟨q,rfl,b,B,C,O⟩,p⟩;have P:=p.size;refine aN Y (bC Y λtb U e2 x D Q=>bF x Y λV f E R=>?_);have c:=(p.trans D).sn E;have H:¬F tb:=λG=>xH (h.low tb G)
 have y:=h.bQ c;by_cases g:Qt s o i l.length=0
 .obtain⟨j,t,i',n',rfl,ht,rfl,hn,h5,I,J⟩:=Xak hs g;obtain rfl:l.length=n':=X
  have K:=Y5 ht;rw[K] at b;have eW:Cx S.c s (j:Nat) (i':Nat) l=Af (Yk S.c s t.q i' l) (j:Nat) i' l.length:=by unfold Cx;rw[bK g,K,XA]
  rw[g];refine aS Y (aQ 8 Xf xK Y λA=>aE A y.obj Y (aE A f Y (aF A Y λw4 n=>?_)));have d:=c.trans n;refine aP Y (XhE (y.bQ n) hs.may hs.bl q i' a cap l (B.bQ d) C (Lk b I) (by rw[show q.bS=t.q.bS from congrArg PlcM.bS b];exact J) (hr.bR d) hlc hin hout) ?_;rintro _ w5 ⟨rfl,r,u⟩;refine aN Y ?_;rw[b] at r;have v:=Y5 (s:=Yk S.c s t.q i' l) ht;have L:∀m,Xx (Yk S.c s t.q i' l) (Yy (Yk S.c s t.q i' l) (j:Nat)).cL=some m->i'+l.length<=m.size:=λm hm=>by
   rw[v] at hm;obtain⟨k,ek,_,M⟩:=Ao hm;have:=R9 hs (k:=k) (m:=m) M ht ek;omega
  refine bB (u.heap (n.bP f) H) Y (aP Y (XhN r (hs.put t.q i' hin) (j:Nat) q i' l.length (by rw[v,<-b];rfl) L) ?_);rintro _ w6 N;exact aN Y (bE func61 Y ⟨rfl,by rw[eW,Xjh];exact .trans (λ_ h=>.inl h) ((noF d).trans u) N⟩)
 .have e:Cx S.c s o i l=s:=by unfold Cx;rw[bJ g]
  exact aM Y (xU g) (bE func61 Y ⟨rfl,by rw[e];exact .of y (noF c)⟩)
theorem Xor{S:Sto}(h:Xs F Fr w S s (Zy s) mo)(hs:s.Ok S.c)(o i n:Int)(hi : -9223372036854775808<=i/\i<=9223372036854775807)(hn : -9223372036854775808<=n/\n<=9223372036854775807):Xe prog 56 #[Y6 S,W o,W i,W n] w (λv w'=>∃u,v=.tuple #[u,W (Qt s o i n)]/\Xm w.heap.size 5 1 w' u (Cn S.c s o i n).length ((Cn S.c s o i n).map (Value.int .u8))/\∃mo',Xs F Fr w' S (Cc S.c s o i n) (Zy (Cc S.c s o i n)) mo'/\Xc F w w'):=by
 have noF:∀{S:Nat->Prop} {w w':dD},Xc Xf w w'->Xc S w w':=λh=>h.gr;refine aR func56 ntmps56 Y (aP Y (XhM h (Xc.refl _ _) hs o i n hi hn) ?_);rintro _ w1 ⟨⟨q,rfl,d,C,D,U⟩,p⟩;have V:=p.size;refine aN Y (bC Y λtb g e2 r E a0=>bF r Y λN x G a4=>?_);have a:=(p.trans E).sn G;have H:¬F tb:=λb=>xH (h.low tb b)
 have y:=h.bQ a;by_cases c:Qt s o i n=0
 .obtain⟨j,t,i',n',rfl,ht,rfl,rfl,h5,I,J⟩:=Xak hs c;have A:=Y5 ht;rw[A] at d;have eR:Cc S.c s (j:Nat) (i':Nat) (n':Nat)=Y3 s (Zb S.c t.q.cQ i' n'):=by unfold Cc;rw[bK c,A,XA,XA]
  have eB:Cn S.c s (j:Nat) (i':Nat) (n':Nat)=Yh S.c t.q.cQ s.bs i' n':=by unfold Cn;rw[bK c,A,XA,XA]
  have B:(Yh S.c t.q.cQ s.bs i' n').length=n':=by unfold Yh;rw[XU,ZK]
  rw[c];have O:∀w',Xc Xf N w'->Xe prog 107 #[Gb S.v,.agg (Xw q).toArray,W (i':Nat),W (n':Nat)] w' (λv g=>Xc (Z4 S.A) w' g/\∃f,v=.tuple #[f,W 0]/\Xs F Fr g S (Y3 s (Zb S.c t.q.cQ i' n')) (Zy s) mo/\Xm w.heap.size 5 1 g f n' ((Yh S.c t.q.cQ s.bs i' n').map (Value.int .u8))):=λw' k=>by
   have K:=XhD (y.bQ k) hs.may hs.bl q i' n' (C.bQ (a.trans k)) D (Lk d I) (by rw[show q.bS=t.q.bS from congrArg PlcM.bS d];exact J);rw[d] at K;exact K.mono λv g ⟨f,e,P,Q,R⟩=>⟨Q,f,e,P,R.from' (xI a.size k.size)⟩
  have a5:¬Z4 S.A S.sb:=λb=>b.elim (Xr h.kds.1 h.kds.2.2.1 xD) (λe=>by rw[h.amb] at e;exact Xr h.kds.1 h.kds.2.2.2.2.2 xD (Option.some.inj e).symm);have a6:¬Z4 S.A tb:=λb=>H (h.footF _ b);refine aS Y (aQ 11 (Z4 S.A) xK Y λl=>aE l y.obj Y (aE l x Y (Xd.callQ l rfl rfl (O) ?_)));rintro _ w4 L ⟨f,rfl,T,M⟩;refine Xd.adv Xb l rfl (aF l Y λw5 m=>?_);rw[eR,eB,B];exact bE func56 Y ⟨f,rfl,M.bR m (λ_ _=>id),_,T.bQ m,(((noF a).trans (L.mono λz _ b=>h.footF z b)).trans (noF m))⟩
 .have e:Cc S.c s o i n=s:=by unfold Cc;rw[bJ c]
  have eB:Cn S.c s o i n=[]:=by unfold Cn;rw[bJ c]
  rw[e,eB];exact aM Y (xU c) (bE func56 Y ⟨_,rfl,⟨rfl,.inl ⟨rfl,rfl⟩⟩,_,y,noF a⟩)
theorem Xim(s:StM)(o:Int)(i n:Nat):(Af s o i n).th=s.th:=by
 unfold Af;split
 .split <;> rfl
 .rfl
theorem Xo8{t:ThM}(size:Int)(i n:Nat)(ht:s.th[o]?=some (some t)):Af (D3 s (o:Nat) ⟨size,t.q⟩) (o:Nat) i n=D3 (Af s (o:Nat) i n) (o:Nat) ⟨size,t.q⟩:=by
 have e1:Yy (D3 s (o:Nat) ⟨size,t.q⟩) (o:Nat)=t.q:=by
  refine Y5 (t:=⟨size,t.q⟩) ?_;show(s.th.set (o:Int).toNat _)[o]?=_
  rw[XA,XH ((XC.1 ht).1)]
 unfold Af;rw[e1,Y5 ht];have e2:Xx (D3 s (o:Nat) ⟨size,t.q⟩) t.q.cL=Xx s t.q.cL:=rfl;rw[e2];split
 .split <;> rfl
 .rfl
theorem Xos{S:Sto}(h:Xs F Fr w S s (Zy s) mo)(hs:s.Ok S.c)(o size:Int):Xe prog 63 #[Y6 S,W o,W size] w (Ju F w S (Q7 S.c s o size) (A2 S.c s o size)):=by
 have noF:∀{S:Nat->Prop} {w w':dD},Xc Xf w w'->Xc S w w':=λh=>h.gr;have same:∀{w'},Xc Xf w w'->A2 S.c s o size≠0->Ej F w w' S (Q7 S.c s o size) (Zy (Q7 S.c s o size)):=λhc he=>by
  have e:Q7 S.c s o size=s:=by unfold Q7;rw[bK he]
  rw[e];exact .of (h.bQ hc) (noF hc)
 have eu:=W7 hs;have ew:=(Zr hs.may).cH;refine aR func63 ntmps63 Y (aP Y (W8 h (Xc.refl _ _) hs o) ?_);rintro _ w1 ⟨⟨q,rfl,A,aa,C,aw⟩,c9⟩;refine aN Y ?_;have ex:=c9.size;refine bC Y λtb w2 e2 cn da ey=>bF cn Y λw3 ag db ez=>?_;have D:=(c9.trans da).sn db;have N:¬F tb:=λa=>xH (h.low tb a)
 have h3:=h.bQ D;by_cases e0:Z9 s o=0
 .obtain⟨j,t,rfl,ht⟩:=J4 e0;have O:=C6 ht;have hQ:=Y5 ht;have f0:=hs.size j t ht;have ca:=(XC.1 ht).1;rw[O] at ag;rw[hQ] at A;rw[e0];refine aS Y ?_;by_cases g1:size<1\/S.c.cH<size
  .have e:A2 S.c s (j:Nat) size=3:=by unfold A2;rw[bJ (λh=>h e0),bK g1]
   by_cases g2:size<1
   .exact bI Y (bE func63 Y ⟨by rw[e],same D (by rw[e];decide)⟩)
   .exact aS Y (bB h3.obj Y (bI Y (bE func63 Y ⟨by rw[e],same D (by rw[e];decide)⟩)))
  .refine aS Y (bB h3.obj Y (aS Y (bB ag Y (bG (Xoz h3 t.size size X X) Y λw4 cb=>?_))));have T:=D.trans cb;have h4:=h.bQ T;have p:=cb.bP ag;cases P:Ay S.c t.size size with
   |true=>
    have e:A2 S.c s (j:Nat) size=0:=by unfold A2;rw[bJ (λh=>h e0),bJ g1,O,bK P]
    rw[e];refine bI Y (bB p Y ?_);by_cases b6:size<t.size
    .obtain⟨i',rfl⟩:=XE (show 0<=size by omega);obtain⟨n',b7⟩:=XE (show 0<=t.size-(i':Int) by omega);obtain⟨pv,ph,pf⟩:=Jg hs ht;have dc:q.bS=t.q.bS:=congrArg PlcM.bS A;refine Xa.yes Xb rfl (bN b6) rfl ?_;refine Xa.drawn (q:=11) Xf Xb Xn xK rfl ?_;intro d;refine Xd.cJ Xb d rfl h4.obj (by first|exact λh=>h|(intro h;omega)|assumption) rfl rfl ?_;refine Xd.loads Xb d rfl p (by first|exact λh=>h|(intro h;omega)|assumption) rfl rfl ?_;refine Xd.cJ Xb d rfl p (by first|exact λh=>h|(intro h;omega)|assumption) rfl rfl ?_;refine Xd.arith Xb d rfl (w64 X) rfl ?_;rw[b7];refine Xd.nil d ?_;intro w5 Q;refine aN rfl ?_;have l:=T.trans Q;refine aP rfl (XhF (h4.bQ Q) hs.may hs.bl q i' n' (aa.bQ l) C (Lk A (Kk pv X X X)) (by rw[dc];exact pf)) ?_;rintro _ w6 ⟨rfl,cc,R⟩;refine aN Y ?_;rw[A] at cc;have r:=R.heap (Q.bP p) N;have dd:=hs.put t.q i' (Ts n');have cd:=Y5 (s:=Yk S.c s t.q i' (X7 n')) ht;have de:∀m,Xx (Yk S.c s t.q i' (X7 n')) (Yy (Yk S.c s t.q i' (X7 n')) (j:Nat)).cL=some m->i'+n'<=m.size:=λm hm=>by
      rw[cd] at hm;obtain⟨k,ek,_,df⟩:=Ao hm;have:=R9 hs (k:=k) (m:=m) df ht ek;omega
     refine bB r Y (bB r Y (aV Y ?_));rw[b7];refine aP Y (XhN cc dd (j:Nat) q i' n' (by rw[cd,<-A];rfl) de) ?_;rintro _ wx ⟨Fx,Frx,mox,hx,ce,cf⟩;refine aN Y ?_;obtain⟨sx,esx⟩:∃sx,sx=Af (Yk S.c s t.q i' (X7 n')) (j:Nat) i' n':=⟨_,rfl⟩;rw[<-esx] at hx;have U:sx.th=s.th:=by rw[esx,Xim];rfl
     have eR:Q7 S.c s (j:Nat) (i':Nat)={sx with th:=sx.th.set j (some ⟨(i':Nat),t.q⟩)}:=by
      unfold Q7;rw[bJ (λh=>h e),O,bK P,bK b6,hQ,XA,b7,XA,Xo8 (s:=Yk S.c s t.q i' (X7 n')) _ _ _ ht,<-esx];unfold D3;rw[XA]
     have E:Zy (Q7 S.c s (j:Nat) (i':Nat))=Zy s+((i':Int)-t.size):=by
      rw[eR,Hi];show((sx.th.set j _).map Bd).sum=_
      rw[U,Oo ht,<-Hi];show _-t.size+(i':Int)=_
      omega
     have V:=(noF l).trans R;have ac:∀z,Fx z->F z\/w.heap.size<=z:=λz a=>(ce z a).imp id (xH V.size);have G:=V.trans cf;have u:=cf.heap r N;have ah:¬Fx tb:=λa=>(ce tb a).elim N (xH (Xg r));have b8:Zw wx q:=⟨aa.rd.bW C G,aa.len⟩;have ai:Xj Fx q.pa:=λb' off s' e a=>(ac b' a).elim (C b' off s' e) (xH (Eo (aw.i b' off s' e)));have aj:=aw.bR G C;refine aQ 9 Xf xK Y λd=>aE d hx.obj Y (aE d u Y (Xd.build Xb d rfl rfl (aF d Y λwy i=>?_)));have H:=hx.bQ i;have ak:=i.bP u;obtain⟨al,B⟩:=H.th;refine Xa.mapset Xb rfl (B.1) λwz b9 f dg=>aN Y ?_;have ba:=B.put (o:=j) (size:=((i':Nat):Int)) (q:=q) (qm:=t.q) A (by rw[U];exact ca) b9 f H.f2.2.2.2.1 (b8.bQ i) ai (aj.bQ i);have a:=H.setTh f ba;have am:=f.heap ak (λe=>ah (e▸H.f2.2.2.2.1));refine aQ 8 Xf xK Y λd=>aE d a.obj Y (aE d am Y (aC d Y (aF d Y λwu I=>aV Y (bF ((a.bQ I).obj) Y λwv bb ad dh=>?_))));have hv:=(a.bQ I).setBy (by2:=Zy s+(((i':Nat):Int)-t.size)) ad bb;have an:=(((noF i).trans (f.mono λz _ e=>e▸H.f2.2.2.2.1)).trans (noF I)).trans (ad.mono λz _ e=>e▸a.f2.1);exact bE func63 Y ⟨rfl,by rw[E,eR];exact .trans ac G (.of hv an)⟩
    .have eR:Q7 S.c s (j:Nat) size={s with th:=s.th.set j (some ⟨size,t.q⟩)}:=by
      unfold Q7;rw[bJ (λh=>h e),O,bK P,bJ b6,hQ];unfold D3;rw[XA]
     have E:Zy (Q7 S.c s (j:Nat) size)=Zy s+(size-t.size):=by
      rw[eR,Hi];show((s.th.set j _).map Bd).sum=_
      rw[Oo ht,<-Hi];show _-t.size+size=_
      omega
     refine aS Y ?_;obtain⟨wx,ewx⟩:∃wx,wx=w4:=⟨_,rfl⟩;obtain⟨Fx,eFx⟩:∃Fx,Fx=F:=⟨_,rfl⟩;rw[<-ewx];have hx:Xs Fx Fr wx S s (Zy s) mo:=by rw[eFx,ewx];exact h4
     have u:=p;rw[<-ewx] at u;have ah:¬Fx tb:=by rw[eFx];exact N
     have ac:∀z,Fx z->F z\/w.heap.size<=z:=λz a=>.inl (by rw[<-eFx];exact a);have G:Xc F w wx:=by rw[ewx];exact noF T
     have U:s.th=s.th:=rfl;have b8:Zw wx q:=⟨aa.rd.bW C G,aa.len⟩;have ai:Xj Fx q.pa:=λb' off s' e a=>(ac b' a).elim (C b' off s' e) (xH (Eo (aw.i b' off s' e)));have aj:=aw.bR G C;refine aQ 9 Xf xK Y λd=>aE d hx.obj Y (aE d u Y (Xd.build Xb d rfl rfl (aF d Y λwy i=>?_)));have H:=hx.bQ i;have ak:=i.bP u;obtain⟨al,B⟩:=H.th;refine Xa.mapset Xb rfl (B.1) λwz b9 f dg=>aN Y ?_;have ba:=B.put (o:=j) (size:=size) (q:=q) (qm:=t.q) A (by rw[U];exact ca) b9 f H.f2.2.2.2.1 (b8.bQ i) ai (aj.bQ i);have a:=H.setTh f ba;have am:=f.heap ak (λe=>ah (e▸H.f2.2.2.2.1));refine aQ 8 Xf xK Y λd=>aE d a.obj Y (aE d am Y (aC d Y (aF d Y λwu I=>aV Y (bF ((a.bQ I).obj) Y λwv bb ad dh=>?_))));have hv:=(a.bQ I).setBy (by2:=Zy s+(size-t.size)) ad bb;have an:=(((noF i).trans (f.mono λz _ e=>e▸H.f2.2.2.2.1)).trans (noF I)).trans (ad.mono λz _ e=>e▸a.f2.1);exact bE func63 Y ⟨rfl,by rw[E,eR];exact .trans ac G (.of hv an)⟩
   |false=>
    have e:A2 S.c s (j:Nat) size=Ys S.c s size:=by unfold A2;rw[bJ (λh=>h e0),bJ g1,O,bJ (by rw[P];decide)]
    refine aS Y (bG (XcO h4 hs size) Y λw5 Q=>?_);have l:=T.trans Q;have bc:=Q.bP p;by_cases hf:Ys S.c s size=0
    .rw[hf];refine aS Y ?_;obtain⟨t',M⟩:=Pf hs ht P hf;have di:q.cL=t.q.cL:=congrArg PlcM.cL A;refine Xa.cJ Xb rfl bc rfl rfl ?_;rw[di];refine aP Y (XhJ (h.bQ l) hs t.q.cL) ?_;rintro _ w6 ⟨F6,dj,dk,h6,bd,R⟩;refine aN Y ?_;have r:=R.heap bc N;have f1:=l.size;have f2:=R.size;have V:=(noF l).trans R;obtain⟨n,be⟩:∃n,n=X8 s t.q.cL:=⟨_,rfl⟩;obtain⟨M1,M2,M3,M4,M5,M6,M7,M8⟩:=M;have bf:=Xd8 hs t.q.cL;have eR:Q7 S.c s (j:Nat) size=Jn S.c s (j:Nat) size:=by unfold Q7;rw[bJ (λh=>h (e.trans hf)),O,bJ (by rw[P];decide)]
     have eM:Jn S.c s (j:Nat) size=Ax S.c (Yk S.c (Qs S.c (Y3 n (Zb S.c t'.q.cQ 0 (min t.size size).toNat)) (j:Nat) size) (Yy (Qs S.c (Y3 n (Zb S.c t'.q.cQ 0 (min t.size size).toNat)) (j:Nat) size) (j:Nat)) 0 (Yh S.c t'.q.cQ n.bs 0 (min t.size size).toNat)) t'.q:=by
      unfold Jn;simp only
      rw[Y5 ht,C6 ht,<-be,Y5 (be▸M2)]
     rw[<-be] at h6 M1 M2 M6 M7 M8 bf;obtain⟨m,em⟩:=XE (show 0<=min t.size size by omega);rw[em,XA] at eM M8;have dn:0<m:=X
     obtain⟨al,B⟩:=h6.th;obtain⟨L,k1,k2,k3,k4,k5⟩:=B.2.2.1 j t' M2;obtain⟨pv,ph,pf⟩:=Jg M1 M2;have bh:=(XC.1 M2).1;refine bB h6.obj Y (Xa.lookup Xb rfl (B.1) ((show Bv al _ (j:Nat) false=.agg (Fi t'.size L).toArray from by unfold Bv;rw[k2];rfl)) rfl (Xa.field Xb rfl (show Value.agg ((Fi t'.size L).toArray.extract 1 5)=.agg (Xw L).toArray from rfl) rfl (bC Y λpb w7 e7 cv dp f3=>bF cv Y λw8 bi dr f4=>?_)));have J:=dp.sn dr;have h8:=h6.bQ J;have bj:=J.bP r;have ax:¬F6 pb:=λa=>xH (h6.low pb a)
     have hd:∀w',Xc Xf w8 w'->Xe prog 107 #[Gb S.v,.agg (Xw L).toArray,W 0,W (m:Nat)] w' (λv w2=>Xc (Z4 S.A) w' w2/\∃u1,v=.tuple #[u1,W 0]/\Xs F6 dj w2 S (Y3 n (Zb S.c t'.q.cQ 0 m)) (Zy s) dk/\Xm w8.heap.size 5 1 w2 u1 m ((Yh S.c t'.q.cQ n.bs 0 m).map (Value.int .u8))):=λw' bm=>by
      have hh:=XhD (h8.bQ bm) M1.may M1.bl L 0 m (k3.bQ (J.trans bm)) k4 (Lk k1 (Kk pv X X X)) (by rw[show L.bS=t'.q.bS from congrArg PlcM.bS k1];exact pf);rw[k1] at hh;exact hh.mono λv w2 ⟨u1,e,a1,a2,a3⟩=>⟨a2,u1,e,a1,a3.from' bm.size⟩
     have f5:¬Z4 S.A S.sb:=λa=>a.elim (Xr h.kds.1 h.kds.2.2.1 xD) (λe=>by rw[h.amb] at e;exact Xr h.kds.1 h.kds.2.2.2.2.2 xD (Option.some.inj e).symm);have dt:¬Z4 S.A tb:=λa=>N (h.footF _ a);have du:¬Z4 S.A pb:=λa=>ax (h6.footF _ a);have emin:(if size<t.size then size else t.size)=(m:Int):=by rw[<-em];split <;> omega
     refine aQ 14 (Z4 S.A) xK Y λd=>aE d h8.obj Y (aE d bi Y (aE d bj Y ?_));rw[emin];refine Xd.callQ d rfl rfl (hd) ?_;rintro _ w9 bn ⟨u1,rfl,h9,dv⟩;refine Xd.adv Xb d rfl (aF d Y λf6 K=>?_);have cg:=h9.bQ K;have cx:=bn.heap bj dt;have cy:=bn.heap bi du;obtain⟨g,cap,cur,rfl,f7,dw,cz,f8,ay⟩:=dv.form dn;rw[ZS] at ay;have a4:(Yh S.c t'.q.cQ n.bs 0 m).length=m:=by unfold Yh;rw[XU,ZK]
     have d0:=K.bP dw;have bo:¬F6 g:=λa=>xH (h8.low g a)
     have bv:=K.bP cx;have bw:=K.bP cy;refine aQ 6 Xf xK Y λd=>aE d cg.obj Y (aE d bv Y (aF d Y λf9 a5=>?_));have ae:=cg.bQ a5;have bx:=a5.bP bw;have d1:=a5.bP d0;have dx:=W7 M6;have dy:Zy {n with th:=n.th.set j none}=Zy s-t.size:=by
      rw[Hi];show((n.th.set j none).map Bd).sum=_
      rw[Oo M2,<-Hi,bf];show _-t'.size+0=_
      omega
     rw[dy] at dx;refine aV Y (bF ae.obj Y λfa d2 a6 en=>?_);have ch:=ae.setBy (by2:=Zy s-t.size) a6 d2;have az:=a6.heap bx (λe=>ax (e▸ae.f2.1));have bp:=a6.heap d1 (λe=>bo (e▸ae.f2.1));have a7:=(((bn.mono λz _ a=>h6.footF z a).trans (noF K)).trans (noF a5)).trans (a6.mono λz _ e=>e▸ae.f2.1);have b0:=((V.trans (noF J)).bU a7 (λz a hf=>(bd z hf).elim id X));obtain⟨sc,esc⟩:∃sc,sc=Y3 n (Zb S.c t'.q.cQ 0 m):=⟨_,rfl⟩;have dz:=esc▸StM.OkP.tot M1 _;have ar:sc.th=n.th:=by rw[esc];rfl
     rw[<-esc] at ch M8 eM;have e1:Ys S.c sc size=0:=by rw[esc];exact M7
     refine aP Y (XhK ch dz (by rw[ar];exact bh) e1 M8 X) ?_;rintro _ e3 ⟨b1,eo,ep,af,a8,a9⟩;refine aN Y ?_;have er:=a7.size;have bz:¬b1 pb:=λa=>(a8 pb a).elim ax (xH (Xg az));have c0:¬b1 g:=λa=>(a8 g a).elim bo (xH (Xg bp));have c1:=a9.heap az ax;have d3:=a9.heap bp bo;obtain⟨s2,bq⟩:∃s2,s2=Qs S.c sc (j:Nat) size:=⟨_,rfl⟩;have au:s2.th[j]?=some (some ⟨size,Zp S.c sc (j:Nat) size⟩):=by
      rw[bq];show(sc.th.set (j:Int).toNat _)[j]?=_
      rw[XA,XH (by rw[ar];exact bh)]
     have d4:Zy s2=Zy s-t.size+size:=by
      rw[bq,Xd9 j size (x:=some t') (by rw[ar];exact M2)];have:Zy sc=Zy s:=by rw[esc,<-bf];rfl
      rw[this];show _-t'.size+size=_
      omega
     rw[<-bq] at af M8 eM;obtain⟨ci,e4,cj⟩:=Jg M8 au;simp only at ci e4 cj
     obtain⟨d5,b2⟩:=af.th;obtain⟨q2,j1,j2,j3,j4,j5⟩:=b2.2.2.1 j _ au;simp only at j1 j2
     refine aQ 12 Xf xK Y λd=>aE d af.obj Y (aE d af.obj Y (Xd.lookup Xb d rfl (b2.1) (by first|(intro b h;cases h;assumption)|(intro b h hs;cases h;omega)) ((show Bv d5 _ (j:Nat) false=.agg (Fi size q2).toArray from by unfold Bv;rw[j2];rfl)) rfl (Xd.field Xb d rfl (show Value.agg ((Fi size q2).toArray.extract 1 5)=.agg (Xw q2).toArray from rfl) rfl (aF d Y λfb y=>?_))));have e6:=af.bQ y;have d6:=y.bP d3;have c4:=y.bP c1;have d7:=Rd.of_take d6 (by rw[a4];exact ay);have ck:=XhE e6 M8.may M8.bl q2 0 (some ⟨g,0,none⟩) cap (Yh S.c t'.q.cQ n.bs 0 m) (j3.bQ y) j4 (Lk j1 (by rw[a4];exact Kk ci X X X)) (by rw[show q2.bS=(Zp S.c sc (j:Nat) size).bS from congrArg PlcM.bS j1];exact cj) d7 (by rw[a4];exact cz) (N4 M1.bi 0 m) (λ_ b' off s' e=>by cases e;exact c0);rw[a4] at ck;refine aP Y (ck) ?_;rintro _ e8 ⟨rfl,cl,av⟩;refine aN Y ?_;rw[j1] at cl;have c5:=av.heap c4 bz;have c6:Xj b1 L.pa:=λb' off s' e a=>(a8 b' a).elim (k4 b' off s' e) (xH (Eo (k5.i b' off s' e)));have bs:Zw e3 L:=⟨((k3.bQ J).rd).bW k4 (a7.trans a9),k3.len⟩;have d8:Zw e8 L:=⟨((bs.bQ y).rd).bW c6 av,bs.len⟩;refine bB c5 Y ?_;have e9:=Y5 au;have bt:=M8.put (Zp S.c sc (j:Nat) size) 0 (N4 (c:=S.c) (q:=t'.q.cQ) M1.bi 0 m);refine aP Y (XhI cl L (by rw[k1];exact bt) d8) ?_;rintro _ fc b3;refine aN Y ?_;rw[k1] at b3;rw[e9] at eM;have E:Zy (Q7 S.c s (j:Nat) size)=Zy s-t.size+size:=by
      rw[eR,eM,Xd7 bt,<-d4];rfl
     have cm:∀z,b1 z->F z\/w.heap.size<=z:=λz a=>(a8 z a).elim (λa=>(bd z a).imp id X) (xH b0.size);have c7:=b0.bU a9 (λz a hf=>(bd z hf).elim id X);have c8:=(c7.trans (noF y)).bU av (λz a hf=>(cm z hf).elim id X);exact bE func63 Y ⟨by rw[e,hf],by rw[E,eR,eM];exact .trans cm c8 b3⟩
    .exact aM Y (xU hf) (bE func63 Y ⟨by rw[e],same l (by rw[e];exact hf)⟩)
 .have e:A2 S.c s o size=Z9 s o:=by unfold A2;rw[bK e0]
  exact aM Y (xU e0) (bE func63 Y ⟨by rw[e];rfl,same D (by rw[e];exact e0)⟩)
theorem Xg7{r:List dE}{x:Int}(hk:k<l.length):Ya (l.map W++r) (0+k) [W x]=some ((l.set k x).map W++r):=by
 have:=R4 (cells:=λn:Int=>[W n]) (sz:=1) (λ_=>rfl) (xs:=l) (k:=k) (y:=x) (rest:=r) hk;have e:∀l:List Int,fl (λn:Int=>[W n]) l=l.map W:=λl=>by unfold fl;induction l with|nil=>rfl|cons a l ih=>simp[ZV,ih]
 rw[e,e,ZS] at this;exact this
theorem Xot{S:Sto}(h:Xs F Fr w S s (Zy s) mo)(hs:s.Ok S.c)(k bV:Int):Xe prog 79 #[Y6 S,W k,W bV] w (Ju F w S (Cw s k bV) (Cd s k bV)):=by
 obtain⟨f1,f2,f3⟩:=OkP.few hs;have same:Cd s k bV=1->Ju F w S (Cw s k bV) (Cd s k bV) (W 1) w:=λd=>by
  have e:Cw s k bV=s:=by unfold Cw;rw[bJ (by rw[d];decide)]
  rw[e,d];exact⟨rfl,.of h (Xc.refl _ _)⟩
 refine aR func79 ntmps79 Y (bH (XhL h hs k) Y ?_);cases ht:Hl s k with
 |false=>
  have e:Cd s k bV=1:=by
   unfold Cd;rw[bK];unfold Hl at ht;simp only[Bool.and_eq_false_iff,decide_eq_false_iff_not] at ht;omega
  exact bI Y (bE func79 Y (same e))
 |true=>
  obtain⟨j,rfl,o⟩:=XhZ ht;refine aS Y (aT Y (λb=>?_) λb=>?_)
  .have e:Cd s (j:Nat) bV=1:=by unfold Cd;rw[bK];have:=bL b;omega
   exact bE func79 Y (same e)
  .have i:=bM b;refine aT Y (λc=>?_) λc=>?_
   .have e:Cd s (j:Nat) bV=1:=by unfold Cd;rw[bK];have:=bL c;omega
    exact bE func79 Y (same e)
   .have m:=bM c;have e:Cd s (j:Nat) bV=0:=by unfold Cd;rw[bJ];omega
    have eS:Cw s (j:Nat) bV={s with bV:=s.bV.set j bV}:=by unfold Cw;rw[bK e,XA]
    have f:j<s.bV.length:=X
    refine bB h.obj Y (aU j Y (aL Y h.kee (Xg7 (x:=bV) f) Y λp g a n=>?_));exact bE func79 Y ⟨by rw[e],by rw[eS];exact .of (h.setKeep (l:=s.bV.set j bV) (by rw[XG]) a g) (a.mono λz _ e=>e▸h.f2.2.1)⟩
theorem XoG{x:StM×Int}(h:x.2<1)(k:Nat):tickK c x k=x:=by unfold tickK;rw[bK h]
theorem Xc6(h:(tickTo c s k).2<1):∀d,tickTo c s (k+d)=tickTo c s k
 |0=>rfl
 |d+1=>by rw[<-YX,N2,Xc6 h d,XoG h]
theorem Xoh(h:Xy c=true):1<=c.step/\c.step<=65536:=by
 unfold Xy at h;simp only[XI,decide_eq_true_eq,Qu] at h;omega
theorem Ub{c:Conf}{s:StM}(h:s.Ok c):∀n,Zy (tickTo c s n).1=Zy s/\(tickTo c s n).1.mv.length=s.mv.length/\0<=(tickTo c s n).2/\(tickTo c s n).2<=65536
 |0=>by
  have:=Xoh h.may;exact⟨rfl,rfl,by show 0<=c.step;omega,by show c.step<=_;omega⟩
 |n+1=>by
  obtain⟨a,b,d,f⟩:=Ub h n;rw[N2];unfold tickK;split
  .exact⟨a,b,d,f⟩
  .split
   .exact⟨(XaX c _ n).trans a,(Ol c _ n).2.2.2.trans b,d,f⟩
   .refine⟨(XaY (StM.OkP.begin (StM.OkP.tickTo h n) n) n _).trans ((XaX c _ n).trans a),((XeY _ n _).2.2.1).trans ((Ol c _ n).2.2.2.trans b),?_⟩;rename_i m hm
    have:(Zm m (tickTo c s n).2:Int)<=(tickTo c s n).2:=by unfold Zm Dh;omega
    simp only
    omega
theorem Xow{S:Sto}(h:Xs F Fr w S s (Zy s) mo)(hs:s.Ok S.c):Xe prog 78 #[Y6 S] w (Ju F w S (D4 S.c s) 0):=by
 obtain⟨f1,f2,f3⟩:=OkP.few hs;have fin:∀{k w'},Ej F w w' S (tickTo S.c s k).1 (Zy s)->tickTo S.c s s.mv.length=tickTo S.c s k->Ju F w S (D4 S.c s) 0 (W 0) w':=λ{k w'} ht o=>by
  unfold D4;rw[o];exact⟨rfl,by rw[(Ub hs k).1];exact ht⟩
 refine aR func78 ntmps78 Y (bB h.obj Y ?_);refine Xa.loop (α:=Nat) (λk=>[(0,false,Y6 S),(3,false,W (tickTo S.c s k).2),(4,false,.func (.func 129) #[Y6 S] #[]),(5,false,W k)])
  (λk w'=>Ej F w w' S (tickTo S.c s k).1 (Zy s)/\k<=s.mv.length) (λk=>s.mv.length-k) 0 ⟨rfl,rfl,rfl,rfl,trivial⟩ ⟨.of h (Xc.refl _ _),X⟩ ?_
 rintro k E ⟨⟨G,q,r,j,a,b⟩,H⟩ ih;obtain⟨I,J,K,L⟩:=Ub hs k;have c:=StM.OkP.tickTo hs k;have tsucc:=N2 S.c s k;obtain⟨x,ex⟩:∃x,x=tickTo S.c s k:=⟨_,rfl⟩;rw[<-ex] at j I J K L c tsucc⊢;have f:tickTo S.c s s.mv.length=tickTo S.c s k->Ju F w S (D4 S.c s) 0 (W 0) E:=λo=>fin ⟨G,q,r,by rw[<-ex];exact j,a,b⟩ o;refine aN Y (bB j.obj Y ?_);by_cases l:k<s.mv.length
 .refine bI Y ?_;by_cases P:0<x.2
  .refine bI Y (aP Y (XhH j c k X) ?_);rintro _ Q ⟨t,u,v,p,y,A⟩;have R:=b.size;have g:∀z,t z->F z\/w.heap.size<=z:=λz B=>(y z B).elim (a z) X;have i:=b.bU A (λz B hf=>(a z hf).elim id X);have n:=StM.OkP.begin c k;refine aN Y (bH (L8 p n (k:Nat)) Y ?_);cases hm:Xx (Yj S.c x.1 k) (k:Nat) with
   |none=>
    have et:tickTo S.c s (k+1)=(Yj S.c x.1 k,x.2):=by rw[tsucc];unfold tickK;rw[bJ X,hm]
    refine aS Y (aV Y ?_);refine ih (k+1) _ _ ⟨⟨t,u,v,?_,g,i⟩,l⟩ X ?_
    .rw[et];exact p
    .rw[et];exact⟨rfl,rfl,rfl,rfl,trivial⟩
   |some m=>
    obtain⟨k',ek',N,C⟩:=Ao hm;obtain rfl:k=k':=X
    have et:tickTo S.c s (k+1)=(Yg (Yj S.c x.1 k) k x.2,x.2-Zm m x.2):=by rw[tsucc];unfold tickK;rw[bJ X,hm]
    have O:(Zm m x.2:Int)<=x.2:=by unfold Zm Dh;omega
    refine bI Y ?_;refine aP rfl (XcQ p n C x.2) ?_;rintro _ T ⟨rfl,D⟩;refine aN Y ?_;refine Xa.arith Xb rfl (w64 X) rfl ?_;refine aV Y ?_;refine ih (k+1) _ _ ⟨?_,l⟩ X ?_
    .rw[et];exact .trans g i D
    .rw[et];exact⟨rfl,rfl,rfl,rfl,trivial⟩
  .refine aS Y ?_;exact bE func78 Y (f (by obtain⟨d,M⟩:=Nat.exists_eq_add_of_le H;rw[M];exact Xc6 (by rw[<-ex];omega) d))
 .refine aS Y ?_;exact bE func78 Y (f (by rw[show s.mv.length=k by omega]))
def Rm.relap(R:Rm)(l:Int):Rm:={R with dA:=l}
def Sto.relap(S:Sto)(l:Int):Sto:={S with R:=S.R.relap l}
theorem Zu.relap(h:Zu F w R M)(hb:R.mo=some b){t l:Int}(hm:Bi w' b t l)(hc:Xc (λz=>z=b) w w'):Zu F w' (R.relap l) {M with tot:=t}:=by
 obtain⟨n,p⟩:=h.met b hb;have kb:=Nf p;have g:∀z,z=b->F z:=λz e=>e▸n;have kp:=h.pool.kds;have j:=Xr kp.1 kb xD;have m:=Xr kp.2 kb xD;have ht:1≠b:=λe=>h.tf (e▸n);refine⟨{h.ok with tot:=by have:=hm.2;show 0<=t/\t<=4611686018427387904;omega},hc.heap h.obj (λe=>h.rf (g _ e)),h.cL.bR hc g,h.kee.bR hc g,h.may,λb' c=>?_,λk q=>hc.cell (h.sl k q) (λe=>h.sf (g _ e)),h.pool.bR hc j m,h.pf,?_,h.lg.bR hc (λz _ h=>.inl (g z h)) (Xr (Il h.lg) kb xS),h.lf,h.rf,h.sf,λz i=>xI (h.low z i) hc.size,h.tab.bR hc ht,h.tf,λz i=>⟨xI (h.xl z i).1 hc.size,(h.xl z i).2⟩⟩
 .replace c:R.mo=some b':=c;rw[hb] at c;cases c;exact⟨n,hm⟩
 .obtain⟨G,a,d⟩:=h.sh;refine⟨G,λk x r=>?_,d⟩;obtain⟨o,f,s⟩:=a k x r;have ap:=f.at'.apart kb xD;exact⟨o,⟨f.ok,f.pos,f.of,f.at'.bR hc (λz e=>e▸ap.1) (λz e=>e▸ap.2) ht,f.pool.bR hc (by rw[o];exact j) (by rw[o];exact m)⟩,s⟩
theorem Xs.relap{F Fr:Nat->Prop}{w w':dD}{S:Sto}{s:StM}{by':Int}{mo:Mo}(h:Xs F Fr w S s by' mo){l:Int}(hm:Bi w' S.mb s.rm.tot l)(hc:Xc (λz=>z=S.mb) w w'):Xs F Fr w' (S.relap l) s by' mo:=by
 obtain⟨i,j,n,o,p,a⟩:=h.kds;obtain⟨q,r,t,v,x,y⟩:=h.nF;have c:∀z,z=S.mb->F z:=λz e=>e▸h.mb.1;have f:=h.ca.bR hc c;have g:=h.ka.bR hc c;exact {h with
  obj:=hc.heap h.obj (Xr i a xD),kee:=hc.heap h.kee (Xr j a xD),cW:=h.cW.relap h.rmo hm hc,
  ar:=⟨hc.heap h.ar.obj (λe=>q (c _ e)),hc.heap h.ar.dat (Xr n a xD),hc.heap h.ar.cap (λe=>r (c _ e)),λb d=>by
   replace d:S.A.mb=some b:=d;rw[h.amb] at d;cases d;exact hm,h.ar.len,h.ar.rng⟩,
  vw:=⟨hc.heap h.vw.obj (λe=>t (c _ e)),by
   show Yd w' S.v.c S.v.p
   have:=h.vw.cO;rw[h.vc,h.vp] at this⊢;exact⟨f.1,g.1,this.lc,this.lk,this.size⟩,h.vw.may⟩,
  th:=h.th.bW hc c (Xr o a xS),mvs:=hc.heap h.mvs (Xr p a xD),mob:=h.objAt hc (λk b m hm=>Xr (h.kdm hm) a xD),ca:=f,ka:=g,
  low:=λz u=>xI (h.low z u) hc.size}
theorem Xov{S:Sto}(h:Xs F Fr w S s by' mo)(b:Nat)(hb:XcL w b (Y6 S)):Xe prog 124 [xV b].toArray w (λv w'=>∃n:Int,v=W n/\n=s.rm.tot-S.R.dA/\Xs F Fr w' (S.relap s.rm.tot) s by' mo/\Xc (λz=>z=S.mb) w w'):=by
 refine aR func124 ntmps124 Y (aW Y (Cr (off:=0) hb rfl) Y (bB h.obj Y (aP Y (Xk8 S.mb s.rm.tot S.R.dA w h.mb.2.2) ?_)));rintro _ c ⟨rfl,hm,a⟩;exact aN Y (bE func124 Y ⟨_,rfl,rfl,h.relap hm a,a⟩)
theorem Xou{S:Sto}(h:Xs F Fr w S s by' mo):Xe prog 71 #[Y6 S] w (λv w'=>v=W (s.rm.tot-S.R.dA)/\Xs F Fr w' (S.relap s.rm.tot) s by' mo/\Xc (λz=>z=S.mb) w w'):=by
 refine aR func71 ntmps71 Y (bC Y λb f e1 c a i=>aW Y (Cr (off:=0) c rfl) Y (aP Y (XcP (S:=S) 124 [xV b] f _ (Xov (h.bQ a) b c)) ?_));rintro _ j ⟨n,rfl,rfl,g,d⟩;exact aN Y (bE func71 Y ⟨rfl,g,a.gr.trans d⟩)
theorem Xjw(a:Option dF)(cap:Nat)(x:List Int)(w:dD)(hr:Rd .i64 w a x)(hl:x.length<=1048576)(hn:∃a1,a=some a1):Xe prog 115 #[.slice a x.length cap] w
 (λv w'=>∃g c r,v=.slice (some ⟨g,0,none⟩) x.length c/\w.heap.size<=g/\w'.heap[g]?=some (.cells (x.map W++r).toArray 3 (0,0))/\x.length<=c/\Xc Xf w w'):=by
 have t:maxLen=9223372036854775807:=rfl;obtain⟨a1,rfl⟩:=hn;refine aR func115 ntmps115 Y (aS Y (Xa.buildSlice Xb rfl λb m e1 n d u=>aN Y ?_));subst e1;have i:Xm w.heap.size 3 1 m (.slice (some ⟨w.heap.size,0,none⟩) 0 0) 0 []:=Xm.empty (XF _) n;refine Xa.append (base:=w.heap.size) (xs:=[]) (news:=x.map W) Xb rfl i X xS (hr.bR d).cells J5 ⟨X,by show(0+x.length)*8<=_;omega⟩ λv y f j k=>aN Y ?_;rw[XT,ZQ] at f;have o:=i.bU d (XF _) j;rcases f.2 with⟨e,_⟩|⟨g,c,cur,rfl,p,q,s,z,_,l⟩
 .have:=(k.1.1 e).1;cases this
 .have h:cur=(x.map W++cur.toList.drop x.length).toArray:=by
   rw[ZS] at l;rw[<-l,XY]
  exact bE func115 Y ⟨g,c,cur.toList.drop x.length,rfl,p,by rw[<-h];exact q,s,o⟩
theorem Tr:∀n,Qa [.pointer none,W 0,W 0,W 0,W 0,W 0] n=fl Er (List.replicate n none)
 |0=>rfl
 |n+1=>by rw[Qa,Tr n,YF];rfl
structure Kh(c:Conf)(w:dD)(g cap:Nat)(r:List dE)(mb tm vb:Nat):Prop where
 g:w.heap[g]?=some (.cells (c.bV.map (Value.int .i64)++r).toArray 3 (0,0))
 gc:c.bV.length<=cap
 m:Bi w mb 0 0
 t:Y7 w tm []
 v:w.heap[vb]?=some (.cells (fl Er (List.replicate c.bT.length none)).toArray 214 (0,0))
theorem Kh.bQ{r:List dE}{mb:Nat}(h:Kh c w g cap r mb tm vb)(hc:Xc Xf w w'):Kh c w' g cap r mb tm vb:=⟨hc.bP h.g,h.gc,h.m.bR hc,h.t.bR hc id,hc.bP h.v⟩
def Pj(c:Conf)(p:Yz)(g cap mb tm vb:Nat)(a r v:dE):List dE:=X5 c p++[.slice (some ⟨g,0,none⟩) c.bV.length cap,.pointer (some ⟨mb,0,none⟩),a,r,v,.map (some tm),.slice (some ⟨vb,0,none⟩) c.bT.length c.bT.length,.int .i64 0]
theorem Kh.note{r:List dE}{mb:Nat}(h:Kh c w g cap r mb tm vb)(hc:Xc (λz=>z=xb) w w')(h1:g≠xb)(h2:mb≠xb)(h3:tm≠xb)(h4:vb≠xb):Kh c w' g cap r mb tm vb:=
 ⟨hc.heap h.g h1,h.gc,⟨hc.heap h.m.1 h2,h.m.2⟩,h.t.bR hc h3,hc.heap h.v h4⟩
theorem Zu.apart(h:Zu F w R M)(hcf:Yd w0 R.c R.p)(ht:Bk w0){l:List dE}{n:Int}(hx:w.heap[xb]?=some (.cells (W n::l).toArray t fz))(h0:w0.heap.size<=xb)(hF:¬F xb)(htk:t≠352/\t≠348/\t≠3/\t≠221)(hc:Xc (λz=>z=xb) w w'):Zu F w' R M:=by
 have hm:=Zr h.may;have a:=X2 hx;refine h.other hc λz e=>e▸⟨hF,Xr (X2 h.obj) a (λe=>htk.2.2.2 (Option.some.inj (Option.some.inj e)).symm),λe=>?_,λe=>?_,λoff s e=>?_,λoff s e=>?_,?_,?_,λe=>?_⟩
 .have b:=h.sl 0 (xI hm.n h.ok.n);rw[e,Yx hx] at b;cases b
 .have:=World.block_lt_of_cell? w0 _ (ht 0 xD);simp only at this
  omega
 .have:=hcf.bT.block (xH hm.n) e;omega
 .have:=hcf.bV.block (xI hm.bV hm.n) e;omega
 .rw[a];exact λe=>htk.1 (Option.some.inj (Option.some.inj e))
 .rw[a];exact λe=>htk.2.1 (Option.some.inj (Option.some.inj e))
 .rw[a] at e;exact absurd (Option.some.inj (Option.some.inj e)) htk.2.2.1
theorem Xoj{p:Yz}{w7:dD}{mb vw:Nat}{r:List dE}(hc:Yd w c p)(ht:Bk w)(hcw:Xc Xf w w')(hm:Xy c=true)(hx:w'.heap[xb]?=some (.cells (Pj c p g cap mb tm vb (.pointer (some ⟨A.ab,0,none⟩)) (Ck R) (xV vw)).toArray 159 (0,0)))(hN:Kh c w' g cap r mb tm vb)(hA:Zc w' A ⟨X7 (c.bS*c.size).toNat,0,0⟩)(hAm:A.mb=some mb)(hR:Zu Fr w' R (Io c 0))(hRc:R.c=c)(hRp:R.p=p)(hRm:R.mo=some mb)(hRl:R.dA=0)(hRX:R.xX=λz=>z=g)(hV:Bq w' ⟨vw,c,p,A.ab,some mb⟩)(hFr:∀z,Fr z->w7.heap.size<=z\/z=mb)(hFv:¬Fr vw)(h7:w.heap.size<=w7.heap.size)(l1:w.heap.size<=g/\g<w7.heap.size)(l2:w.heap.size<=mb)(l3:w.heap.size<=tm/\tm<w7.heap.size)(l4:w.heap.size<=vb/\vb<w7.heap.size)(l5:w.heap.size<=xb/\xb<w7.heap.size)(l6:w.heap.size<=A.db/\A.db<w7.heap.size)(l7:A.ab<w7.heap.size/\A.mc<w7.heap.size):∃F Fr S mo,Y6 S=xV xb/\Xs F Fr w' S (Es c) 0 mo/\(S.c=c/\S.p=p)/\S.R.dA=0/\∀z,F z->w.heap.size<=z:=by
 have d:=Zr hm;have kx:=X2 hx;have kg:=X2 hN.g;have km:=Nf hN.m;have kt:=Sb hN.t;have kv:=X2 hN.v;have kd':=X2 hA.dat;have ka:=X2 hA.obj;have kc:=X2 hA.cap;have kw:=X2 hV.obj;have kr:=X2 hR.obj;have hz:(X7 (c.size*c.bS).toNat)=X7 (c.bS*c.size).toNat:=by rw[YK]
 have nfr:∀{z:Nat},z<w7.heap.size->z≠mb -> ¬Fr z:=λx y h=>(hFr _ h).elim X y;have i:∀z,(Fr z\/z=xb\/z=g\/z=A.db\/z=tm\/z=vb)->w.heap.size<=z:=λz hz=>by
  rcases hz with hz|rfl|rfl|rfl|rfl|rfl
  .rcases hFr z hz with h|h <;> omega
  all_goals omega
 have f:=hR.sl 0 (by have:=d.n;have:=hR.ok.n;rw[hRc] at this;omega);have nsb:∀{b t:Nat} {v:dE} {l:List dE} {fz:Nat×Nat},w'.heap[b]?=some (.cells (v::l).toArray t fz)->v≠Cl (R.S 0)->R.sb≠b:=λD E e=>by
  rw[e,Yx D] at f;exact E (Option.some.inj f)
 have q:=d.bV;have M:=d.n;have sbt:R.sb≠tm:=λe=>by
  obtain⟨es,clock,B,_⟩:=hN.t;rw[e] at f;unfold World.cell? at f;simp[B] at f
 have sbg:R.sb≠g:=by
  obtain⟨C,kl,ek⟩:∃C kl,c.bV=C::kl:=by cases G:c.bV with|nil=>rw[G] at q;simp at q;omega|cons a b=>exact⟨a,b,rfl⟩
  have:=hN.g;rw[ek] at this;exact nsb this (λe=>by cases e)
 have sbv:R.sb≠vb:=by
  obtain⟨n,en⟩:∃n,c.bT.length=n+1:=⟨c.bT.length-1,X⟩;have:=hN.v;rw[en,YF] at this;exact nsb this (λe=>by cases e)
 have sbd:R.sb≠A.db:=by
  obtain⟨n,en⟩:∃n,(c.bS*c.size).toNat=n+1:=⟨(c.bS*c.size).toNat-1,by
   have x:1*64<=c.bS*c.size:=ZH (xH d.bS) (xH d.size) X (xH d.bS);omega⟩
  have:=hA.dat;simp only[en,X7,YF] at this;exact nsb this (λe=>by cases e)
 have sbx:=nsb hx (λe=>by cases e);have tl:1<w.heap.size:=by have:=World.block_lt_of_cell? w _ (ht 0 xD);exact this
 have bW:∀{a:Option dF} {l:List Int},Rd .i64 w a l->A5 (λz=>Fr z\/z=xb\/z=g\/z=A.db\/z=tm\/z=vb) w' a l:=λhr=>⟨hr.bR hcw,λH b off s e hz=>xI (hr.block H e) (i b hz)⟩;have nF:∀{b:Nat},¬Fr b->b≠xb->b≠g->b≠A.db->b≠tm->b≠vb -> ¬(Fr b\/b=xb\/b=g\/b=A.db\/b=tm\/b=vb):=λI x y J K L hz=>by
  rcases hz with hz|hz|hz|hz|hz|hz
  .exact I hz
  .exact x hz
  .exact y hz
  .exact J hz
  .exact K hz
  .exact L hz
 have u:∀(k b:Nat) m,(List.replicate c.bT.length (none:Option (Nat×MvM)))[k]?≠some (some (b,m)):=λk b m e=>by
  have:=XW e;rw[QF] at this;cases this.2
 refine⟨λz=>Fr z\/z=xb\/z=g\/z=A.db\/z=tm\/z=vb,Fr,⟨xb,c,p,g,cap,r,mb,A,R,⟨vw,c,p,A.ab,some mb⟩,tm,vb,c.bT.length,Xf⟩,List.replicate c.bT.length none,rfl,?_,⟨rfl,rfl⟩,hRl,i⟩;exact {
  obj:=by
   show w'.heap[xb]?=some (.cells (Re _ c.bV.length (List.replicate c.bT.length (none:Option MvM)).length 0).toArray _ _)
   rw[XJ];exact hx
  kee:=hN.g,kcap:=hN.gc,cW:=hR,
  ar:=by
   show Zc w' A ⟨X7 (c.size*c.bS).toNat,0,R.dA⟩
   rw[hz,hRl];exact hA
  vw:=hV,
  th:=⟨[],hN.t,QB,(λo t h=>by
   have:=XW h;simp only[Es,QF] at this;cases this.2),λk _=>rfl,λz hz=>hz.elim⟩
  mvs:=hN.v,mvc:=by show(List.replicate _ _).length<=_;rw[XJ];exact XF _
  mom:=by unfold Hy Es;rw[List.map_replicate];rfl
  mob:=λk b m h=>absurd h (u k b m),mdj:=λj k b m m' h _=>absurd h (u j b m)
  rc:=hRc,rp:=hRp,rmo:=hRm,rX:=hRX.trans (funext λz=>propext ⟨.inl,λh=>h.elim id False.elim⟩),amb:=hAm,vc:=rfl,vp:=rfl,vab:=rfl,vmb:=rfl
  f1:=λz hz=>.inl hz,f2:=⟨.inr (.inl rfl),.inr (.inr (.inl rfl)),.inr (.inr (.inr (.inl rfl))),.inr (.inr (.inr (.inr (.inl rfl)))),.inr (.inr (.inr (.inr (.inr rfl))))⟩
  nr:=⟨nfr l5.2 (Xr kx km xD),nfr l1.2 (Xr kg km xD),nfr l6.2 (Xr kd' km xD),nfr l3.2 (Xr kt km xS),nfr l4.2 (Xr kv km xD)⟩
  nF:=⟨nF (nfr l7.1 (Xr ka km xD)) (Xr ka kx xD) (Xr ka kg xD) (Xr ka kd' xD) (Xr ka kt xS) (Xr ka kv xD),
   nF (nfr l7.2 (Xr kc km xD)) (Xr kc kx xD) (Xr kc kg xD) (Xr kc kd' xD) (Xr kc kt xS) (Xr kc kv xD),
   nF hFv (Xr kw kx xD) (Xr kw kg xD) (Xr kw kd' xD) (Xr kw kt xS) (Xr kw kv xD),
   nF hR.rf (Xr kr kx xD) (Xr kr kg xD) (Xr kr kd' xD) (Xr kr kt xS) (Xr kr kv xD),
   nF hR.sf sbx sbg sbd sbt sbv,λhz=>xH (i _ hz)⟩
  ca:=bW hc.bT,ka:=bW hc.bV
  low:=λz hz=>by
   rcases hz with hz|rfl|rfl|rfl|rfl|rfl
   .exact hR.low z hz
   .exact Xg hx
   .exact Xg hN.g
   .exact Xg hA.dat
   .exact Eo kt
   .exact Xg hN.v}
set_option maxHeartbeats 2000000 in
theorem Xoq(c:Conf)(p:Yz)(w:dD)(hc:Yd w c p)(ht:Bk w)(hm:Xy c=true):Xe prog 64 #[.agg (X5 c p).toArray] w (λv w'=>∃F Fr S mo,v=.tuple #[Y6 S,W 0]/\Xs F Fr w' S (Es c) 0 mo/\(S.c=c/\S.p=p)/\S.R.dA=0/\(∀z,F z->w.heap.size<=z)/\Xc Xf w w'):=by
 have C:=Zr hm;have dj:=C.bV;have dk:=C.n;have bu:Oj c.bS c.size=true:=by
  have:=C.size;have:=C.bS;refine T3.2 ⟨X,X,X,X,?_⟩;have h8:=hm;unfold Xy at h8;simp only[XI] at h8;exact(Nz.1 h8.1.1.1.1.1.1.1).2.2
 refine aR func64 ntmps64 Y (bC Y λb w1 e1 hb bc dl=>?_);replace hb:w1.heap[b]?=some (.cells (X5 c p).toArray 24 (0,0)):=hb;refine bB hb Y (bG (Xa8 c p w1 (hc.bR bc)) Y λw2 bd=>?_);have em:Bw c=0:=by unfold Bw;rw[bK hm]
 rw[em];refine aS Y ?_;have J:=bd.bP hb;have P:=bc.trans bd;obtain⟨dm,koff,eka,_⟩:=hc.bV 0 X;have hC:∀w',Xc Xf w2 w'->Xe prog 115 #[.slice p.ka c.bV.length p.kc] w' (λv j=>Xc Xf w2 j/\Xc Xf w' j/\∃g cap r,v=.slice (some ⟨g,0,none⟩) c.bV.length cap/\w2.heap.size<=g/\j.heap[g]?=some (.cells (c.bV.map W++r).toArray 3 (0,0))/\c.bV.length<=cap):=λw' f=>
  (Xjw p.ka p.kc c.bV w' (hc.bV.bR (P.trans f)) X ⟨_,eka⟩).mono λv j ⟨g,cp,r,a1,a2,Q,a4,a5⟩=>⟨f.trans a5,a5,g,cp,r,a1,xH f.size,Q,a4⟩
 have hM:∀w',Xc Xf w2 w'->Xe prog 116 #[] w' (λv j=>Xc Xf w2 j/\Xc Xf w' j/\∃mb,v=xV mb/\w2.heap.size<=mb/\Bi j mb 0 0):=λw' f=>
  (Xla w').mono λv j ⟨a1,a2,Q,a4⟩=>⟨f.trans Q,Q,w'.heap.size,a1,f.size,a2⟩
 refine aQ 10 Xf xK Y λd=>aE d J Y (aE d J Y (aE d J Y ?_));refine Xd.turn3 d rfl ?_ ?_ ?_
 all_goals
  intro wa k1
  first
  |have q:=hC _ k1;refine Xo.call rfl q.fn (λ_=>q) ?_;rintro _ wb q0 ⟨q1,g,cap,r,rfl,be,D,ak⟩;refine Xd.adv Xb d rfl ?_
  |have T:=(k1).size;refine Xo.mkmap Xb d rfl (λ_=>rfl) ?_;intro tm wb etm t q1 al
  |have U:=(k1).size;refine Xo.make Xb d rfl rfl rfl (XF _) (show 48*c.bT.length<=140737488355328 by omega) X (λ_=>rfl) ?_;intro vb wb evb i q1 am;replace i:(wb).heap[vb]?=some (.cells (Qa [.pointer none,.int .i64 0,.int .i64 0,.int .i64 0,.int .i64 0,.int .i64 0] c.bT.length).toArray 214 (0,0)):=i;rw[Tr] at i
 all_goals first|refine Xd.turn3 d rfl ?_ ?_ ?_|refine Xd.turn2 d rfl ?_ ?_
 all_goals
  intro wc a2;have k2:=(k1.trans q1).trans a2
  first
  |have q:=hC _ k2;refine Xo.call rfl q.fn (λ_=>q) ?_;rintro _ wd q0 ⟨q2,g,cap,r,rfl,be,D,ak⟩;refine Xd.adv Xb d rfl ?_
  |have s:=hM _ k2;refine Xo.call rfl s.fn (λ_=>s) ?_;rintro _ wd q0 ⟨q2,mb,rfl,bf,E⟩;refine Xd.adv Xb d rfl ?_
  |have T:=(k2).size;refine Xo.mkmap Xb d rfl (λ_=>rfl) ?_;intro tm wd etm t q2 al
  |have U:=(k2).size;refine Xo.make Xb d rfl rfl rfl (XF _) (show 48*c.bT.length<=140737488355328 by omega) X (λ_=>rfl) ?_;intro vb wd evb i q2 am;replace i:(wd).heap[vb]?=some (.cells (Qa [.pointer none,.int .i64 0,.int .i64 0,.int .i64 0,.int .i64 0,.int .i64 0] c.bT.length).toArray 214 (0,0)):=i;rw[Tr] at i
 all_goals first|refine Xd.turn2 d rfl ?_ ?_|refine Xd.cK d rfl ?_
 all_goals
  intro we Q;have k3:=(k2.trans q2).trans Q
  first
  |have q:=hC _ k3;refine Xo.call rfl q.fn (λ_=>q) ?_;rintro _ wf q0 ⟨q3,g,cap,r,rfl,be,D,ak⟩;refine Xd.adv Xb d rfl ?_
  |have s:=hM _ k3;refine Xo.call rfl s.fn (λ_=>s) ?_;rintro _ wf q0 ⟨q3,mb,rfl,bf,E⟩;refine Xd.adv Xb d rfl ?_
  |have T:=(k3).size;refine Xo.mkmap Xb d rfl (λ_=>rfl) ?_;intro tm wf etm t q3 al
  |have U:=(k3).size;refine Xo.make Xb d rfl rfl rfl (XF _) (show 48*c.bT.length<=140737488355328 by omega) X (λ_=>rfl) ?_;intro vb wf evb i q3 am;replace i:(wf).heap[vb]?=some (.cells (Qa [.pointer none,.int .i64 0,.int .i64 0,.int .i64 0,.int .i64 0,.int .i64 0] c.bT.length).toArray 214 (0,0)):=i;rw[Tr] at i
 all_goals refine Xd.cK d rfl ?_
 all_goals
  intro wg a4;have k4:=(k3.trans q3).trans a4
  first
  |have s:=hM _ k4;refine Xo.call rfl s.fn (λ_=>s) ?_;rintro _ wh q0 ⟨q4,mb,rfl,bf,E⟩;refine Xd.adv Xb d rfl ?_
  |have T:=(k4).size;refine Xo.mkmap Xb d rfl (λ_=>rfl) ?_;intro tm wh etm t q4 al
  |have U:=(k4).size;refine Xo.make Xb d rfl rfl rfl (XF _) (show 48*c.bT.length<=140737488355328 by omega) X (λ_=>rfl) ?_;intro vb wh evb i q4 am;replace i:(wh).heap[vb]?=some (.cells (Qa [.pointer none,.int .i64 0,.int .i64 0,.int .i64 0,.int .i64 0,.int .i64 0] c.bT.length).toArray 214 (0,0)):=i;rw[Tr] at i
 all_goals
  refine aF d Y λwz a5=>?_;have c4:=a5;have c3:=(a4.trans q4).trans c4;have c2:=(Q.trans q3).trans c3;have c1:=(a2.trans q2).trans c2;have kz:=(k4.trans q4).trans a5;have V:Kh c wz g cap r mb tm vb:=⟨by first|exact c1.bP D|exact c2.bP D|exact c3.bP D|exact c4.bP D,ak,by first|exact E.bR c1|exact E.bR c2|exact E.bR c3|exact E.bR c4,by first|exact t.bR c1 id|exact t.bR c2 id|exact t.bR c3 id|exact t.bR c4 id,by first|exact c1.bP i|exact c2.bP i|exact c3.bP i|exact c4.bP i⟩;refine aO Y (bC Y λxb wy exb ab aw dn=>?_);replace ab:wy.heap[xb]?=some (.cells (Pj c p g cap mb tm vb (.pointer none) (.pointer none) (.pointer none)).toArray 159 (0,0)):=ab;have bg:=V.bQ aw;have ax:=(kz.trans aw).bP J;have cj:∀w',Xc Xf wy w'->Xe prog 117 #[W c.bS,W c.size,xV mb] w' (λv j=>Xc (λz=>z=xb) w' j/\Xc Xf wy j/\∃A:Ar,v=.tuple #[.pointer (some ⟨A.ab,0,none⟩),W 0]/\A.mb=some mb/\wy.heap.size<=A.ab/\wy.heap.size<=A.db/\wy.heap.size<=A.mc/\Zc j A ⟨X7 (c.bS*c.size).toNat,0,0⟩):=λw' f=>
   (XiW (some mb) 0 0 c.bS c.size w' (λb e=>by cases e;exact(bg.bQ f).m) bu).mono λv j ⟨A,x1,x2,x3,x4,x5,x6,x7⟩=>⟨x7.gr,f.trans x7,A,x1,x2,xH f.size,xH f.size,xH f.size,x6⟩
  refine aQ 16 (λz=>z=xb) xK Y λd=>?_;have bh:¬b=xb:=xH (Xg (kz.bP J))
  refine aE d ax Y (aE d ax Y (Xd.cK d rfl λj bi=>Xo.cJ Xb d rfl (bi.bP ab) rfl rfl ?_));have c5:=λw' (f:Xc Xf j w')=>cj w' (bi.trans f);refine Xd.callQ d rfl rfl (c5) ?_;rintro _ w4 dp ⟨ac,A,rfl,K,dq,dr,ds,cl⟩;refine Xd.adv Xb d rfl (Xd.cK d rfl λw5 L=>Xo.store Xb d rfl ((ac.trans L).bP ab) (by first|(intro h;exact rfl)|(intro h;omega)) rfl rfl rfl λw6 a7 ad dt=>aF d Y λw7 M=>?_);replace a7:w6.heap[xb]?=some (.cells (Pj c p g cap mb tm vb (.pointer (some ⟨A.ab,0,none⟩)) (.pointer none) (.pointer none)).toArray 159 (0,0)):=a7;have du:=P.size;have szz:=kz.size;have lg:=Xg V.g;have lm:=Xg V.m.1;have lt':=V.t.lt;have lv:=Xg V.v;have c6:Xc Xf w w5:=(((P.trans kz).trans aw).trans ac).trans L;have u:Xc Xf w w7:=(c6.sn ad).trans M;have bj:Kh c w7 g cap r mb tm vb:=((bg.bQ (ac.trans L)).note ad X X X X).bQ M;have ae:Zc w7 A ⟨X7 (c.bS*c.size).toNat,0,0⟩:=((cl.bQ L).bR ad (λb' N e=>by
   rcases N with h|h|h|h
   .omega
   .omega
   .omega
   .rw[K] at h;have:=Option.some.inj h;omega)).bQ M
  have bk:=M.bP (ad.heap ((ac.trans L).bP ax) bh);have ay:=M.bP a7;have la:=Xg ae.obj;have ld:=Xg ae.dat;have lc:=Xg ae.cap;have cm:∀w',Xc Xf w7 w'->Xe prog 118 #[.agg (X5 c p).toArray,xV mb] w' (λv j=>Xc (λz=>z=xb) w' j/\Xc Xf w7 j/\∃Fr R,v=.tuple #[Ck R,W 0]/\R.c=c/\R.p=p/\R.mo=some mb/\R.dA=0/\(R.xX=λz=>z=g)/\Zu Fr j R (Io c 0)/\∀z,Fr z->w7.heap.size<=z\/z=mb):=λw' f=>by
   have cn:=(bj.bQ f).m;have bW:∀{a:Option dF} {l:List Int},Rd .i64 w a l->A5 (λz=>z=mb) w' a l:=λhr=>⟨hr.bR (u.trans f),λhl b1 off s1 e G=>xH (hr.block hl e)⟩;refine(Xnk c p (some mb) 0 0 (λz=>z=g) w' (hc.bR (u.trans f)) (ht.bQ (u.trans f)) (λz e=>⟨xH f.size,λe2=>by have e3:=Option.some.inj e2;exact Xr (X2 V.g) (Nf V.m) xD (e.symm.trans e3.symm)⟩) (λb1 e=>by cases e;exact⟨cn,bW hc.bT,bW hc.bV⟩) xD).mono λv j ⟨x1,x2⟩=>?_;rw[bK hm] at x2;obtain⟨Fr,R,y1,y2,y3,y4,y5,y6,y7,y8⟩:=x2;exact⟨x1.gr,f.trans x1,Fr,R,y4,y1,y2,y3,y7,y8,y5,λz G=>(y6 z G).imp (λh=>xH f.size) (λh=>(Option.some.inj h).symm)⟩
  refine aQ 13 (λz=>z=xb) xK Y λd=>aE d bk Y (Xd.cK d rfl λw8 bm=>Xo.cJ Xb d rfl (bm.bP ay) rfl rfl ?_);have c9:=λw' (f:Xc Xf w8 w')=>cm w' (bm.trans f);refine Xd.callQ d rfl rfl (c9) ?_;rintro _ w9 dv ⟨bn,Fr,R,rfl,bo,bp,cq,cr,cs,ct,bq⟩;refine Xd.adv Xb d rfl (Xd.cK d rfl λdw a8=>Xo.store Xb d rfl ((bn.trans a8).bP ay) (by first|(intro h;exact rfl)|(intro h;omega)) rfl rfl rfl λcu H x de=>aF d Y λO n=>?_);replace H:cu.heap[xb]?=some (.cells (Pj c p g cap mb tm vb (.pointer (some ⟨A.ab,0,none⟩)) (Ck R) (.pointer none)).toArray 159 (0,0)):=H;have br:¬Fr xb:=λG=>(bq xb G).elim X X;have m:=bn.trans a8;have ba:=u.trans m;have af:Xc Xf w O:=(ba.sn x).trans n;have bs:Yd w R.c R.p:=by rw[bo,bp];exact hc
  have az:Zu Fr O R (Io c 0):=((ct.bQ a8).apart bs ht (m.bP ay) X br xD x).bQ n;have ca:=((bj.bQ m).note x X X X X).bQ n;have b0:=((ae.bQ m).bR x (λb' N e=>by
   rcases N with h|h|h|h
   .omega
   .omega
   .omega
   .rw[K] at h;have:=Option.some.inj h;omega)).bQ n
  have y:=n.bP H;have cb:=n.bP (x.heap (m.bP bk) bh);have cv:((X7 (c.bS*c.size).toNat).length:Int)=c.size*c.bS:=by
   rw[Fj,YK];exact YT (ZG (xH C.size) (xH C.bS))
  have cw:∀w',Xc Xf O w'->Xe prog 119 #[.agg (X5 c p).toArray,.pointer (some ⟨A.ab,0,none⟩),xV mb] w' (λv j=>Xc (λz=>z=xb) w' j/\Xc Xf O j/\∃vw,v=.tuple #[xV vw,W 0]/\O.heap.size<=vw/\Bq j ⟨vw,c,p,A.ab,some mb⟩):=λw' f=>by
   have bt:=XoS c p A ⟨X7 (c.bS*c.size).toNat,0,0⟩ w' (hc.bR (af.trans f)) (b0.bQ f);rw[K] at bt;refine bt.mono λv j ⟨x1,x2⟩=>?_;rw[bK ⟨hm,cv⟩] at x2;obtain⟨vw,y1,y2,y3⟩:=x2;exact⟨x1.gr,f.trans x1,vw,y1,xH f.size,y3⟩
  refine aQ 17 (λz=>z=xb) xK Y λd=>aE d cb Y ?_;refine Xd.turn2 d rfl ?_ ?_
  all_goals
   intro dx a9;refine Xo.cJ Xb d rfl (a9.bP y) rfl rfl (Xd.cK d rfl λcx b2=>Xo.cJ Xb d rfl ((a9.trans b2).bP y) rfl rfl ?_);have cc:=λw' (f:Xc Xf cx w')=>cw w' ((a9.trans b2).trans f);refine Xd.callQ d rfl rfl (cc) ?_;rintro _ dy df ⟨b3,vw,rfl,dz,hV⟩;refine Xd.adv Xb d rfl (Xd.cK d rfl λe0 aa=>Xo.store Xb d rfl ((b3.trans aa).bP y) (by first|(intro h;exact rfl)|(intro h;omega)) rfl rfl rfl λe4 bb B dh=>aF d Y λb4 o=>?_);have k:=b3.trans aa;have cd:=o.bP bb;have e5:=Xg y;have I:Xc Xf w b4:=((af.trans k).sn B).trans o;have ce:Zu Fr b4 R (Io c 0):=((az.bQ k).apart bs ht (k.bP y) X br xD B).bQ o;have cf:=((ca.bQ k).note B X X X X).bQ o;have cg:=((b0.bQ k).bR B (λb' N e=>by
    rcases N with h|h|h|h
    .omega
    .omega
    .omega
    .rw[K] at h;have:=Option.some.inj h;omega)).bQ o
   have ch:Bq b4 ⟨vw,c,p,A.ab,some mb⟩:=⟨o.bP (B.heap (aa.bP hV.obj) xP),hc.bR I,hm⟩;have cy:¬Fr vw:=λG=>xH (az.low vw G)
   obtain⟨F,cz,S,mo,eS,hS,d0,d1,d2⟩:=Xoj (w7:=w7) hc ht I hm cd cf cg K ce bo bp cq cr cs ch bq cy u.size X X X X X X X;exact bE func64 Y ⟨F,cz,S,mo,by rw[eS],hS,d0,d1,d2,I⟩
structure XdB(n:Nat)(S:Sto):Prop where
 ab:S.A.ab<n
 mc:S.A.mc<n
 vb:S.v.vb<n
 rb:S.R.rb<n
 sb:S.R.sb<n
 tab:1<n
 ca:∀b off s,S.p.ca=some ⟨b,off,s⟩->b<n
 ka:∀b off s,S.p.ka=some ⟨b,off,s⟩->b<n
section
variable {F Fr:Nat->Prop}{w w':dD}{S:Sto}{s:StM}{by':Int}{mo:Mo}
theorem Xs.fixed(h:Xs F Fr w S s by' mo):XdB w.heap.size S:=by
 have a:=h.cW;have c:=Zr a.may;have d:=h.rc;rw[d] at c;exact⟨Xg h.ar.obj,Xg h.ar.cap,Xg h.vw.obj,Xg a.obj,World.block_lt_of_cell? w _ (a.sl 0 (by have:=c.n;have:=a.ok.n;rw[d] at this;omega)),World.block_lt_of_cell? w _ (a.tab 0 xD),
  λb off s e=>h.ca.1.block (xH c.n) e,λb off s e=>h.ka.1.block (xI c.bV c.n) e⟩
theorem Xs.one(h:Xs F Fr w S s by' mo)(he:Xar F w S b)(hc:Xc (λz=>z=b) w w'):Xs F Fr w' S s by' mo:=by
 refine h.other hc (λz e=>e▸he) ?_;obtain⟨t,j,ht⟩:=he.kd;intro al d k sz q c;obtain⟨v,l,x,m,n,_⟩:=h.th;have:=l.uniq d;subst this;by_cases a:∀(o:Nat) t,s.th[o]?=some (some t)->(o:Int)≠k
 .rw[n k a] at c;cases c
 .simp only[Classical.not_forall,YP] at a;obtain⟨o,p,r,u⟩:=a;obtain⟨y,_,f,_,_,g⟩:=m o p r;rw[u,c] at f;rw[(Xc2 (Option.some.inj f))];intro b' off s' e' i;have:=g.i b' off s' e';rw[i,j] at this;exact g.g b' off s' e' (i▸ht.2.2 (Option.some.inj (Option.some.inj this)))
theorem Xs.old(h:Xs F Fr w S s by' mo){l:List dE}(hb:w.heap[b]?=some (.cells (v::l).toArray t fz))(hF:¬F b)(ht:(t≠352/\t≠348/\t≠3)/\t≠242/\t≠152/\t≠226/\t≠221)(hv:∀x,v≠Cl x)(htab:1≠b)(hca:∀off s,S.p.ca≠some ⟨b,off,s⟩)(hka:∀off s,S.p.ka≠some ⟨b,off,s⟩)(hc:Xc (λz=>z=b) w w'):Xs F Fr w' S s by' mo:=by
 have c:=h.cW;have d:=X2 hb;have ne:∀{a t':Nat},kd w a=some (some t')->t≠t'->a≠b:=λi g=>Xr i d (λe=>g (Option.some.inj (Option.some.inj e)).symm);have f:=c.sl 0 (xI (Zr c.may).n c.ok.n);refine h.one ⟨hF,⟨ne (X2 h.ar.obj) ht.2.1,ne (X2 h.ar.cap) ht.2.2.1,ne (X2 h.vw.obj) ht.2.2.2.1,ne (X2 c.obj) ht.2.2.2.2,λe=>?_,htab⟩,hca,hka,t,d,ht.1.1,ht.1.2.1,λe=>absurd e ht.1.2.2⟩ hc;rw[e,Yx hb] at f;exact hv _ (Option.some.inj f)
end
structure Lv(c:Conf)(n0:Nat)(w0 w:dD)(F:Nat->Prop)(S:Sto)(s:StM):Prop where
 ok:∃Fr mo,Xs F Fr w S s (Zy s) mo
 inv:s.Ok c
 sc:S.c=c
 fx:XdB n0 S
 base:∀z,F z->w0.heap.size<=z
 bR:Xc Xf w0 w
def Kg(c:Conf)(n0:Nat)(w0 w:dD)(F:Nat->Prop)(S:Sto)(s:StM)(w':dD):Prop:=∃F',Lv c n0 w0 w' F' S s/\(∀z,F' z->F z\/w.heap.size<=z)/\Xc F w w'
section
variable {c:Conf}{n0:Nat}{w0 w w':dD}{F:Nat->Prop}{S:Sto}{s s':StM}
theorem Lv.low(h:Lv c n0 w0 w F S s):∀z,F z->z<w.heap.size:=by obtain⟨_,_,a⟩:=h.ok;exact a.low
theorem Lv.bQ(h:Lv c n0 w0 w F S s)(hc:Xc Xf w w'):Lv c n0 w0 w' F S s:=by
 obtain⟨Fr,mo,a⟩:=h.ok;exact {h with ok:=⟨Fr,mo,a.bQ hc⟩,bR:=h.bR.trans hc}
theorem Lv.to(h:Lv c n0 w0 w F S s)(ht:Ej F w w' S s' (Zy s'))(hi:s'.Ok c):Kg c n0 w0 w F S s' w':=by
 obtain⟨F',Fr',mo',f,a,b⟩:=ht;have i:=h.bR.size;exact⟨F',⟨⟨Fr',mo',f⟩,hi,h.sc,h.fx,λz d=>(a z d).elim (h.base z) (λg=>X),h.bR.bU b (λz d e=>xH (h.base z e))⟩,a,b⟩
end
theorem Rd.keepI{q:Nat}{c:Array dE}(hr:Rd .i64 w a l)(hq:w.heap[q]?=some (.cells c t fz))(hc:∀x∈c.toList,∀z,x≠W z)(hs:Xc (λb=>b=q) w w'):Rd .i64 w' a l:=λj f=>by
 obtain⟨b,off,e,d⟩:=hr j f;refine⟨b,off,e,hs.cell d (λg=>?_)⟩;subst g;rw[Yx hq] at d;exact hc _ (Array.mem_toList_iff.2 (Array.mem_of_getElem? d)) _ rfl
theorem At.bV{r:RP}{pl:PlM}(h:At w r pl){q:Nat}{c:Array dE}(hq:w.heap[q]?=some (.cells c t fz))(hc:∀x∈c.toList,∀z,x≠W z)(hs:Xc (λb=>b=q) w w'):At w' r pl:=
 ⟨⟨⟨h.o.ok.rd.keepI hq hc hs,h.o.ok.len⟩,h.o.cap,h.o.lt.bQ hs.size⟩,⟨⟨h.f.ok.rd.keepI hq hc hs,h.f.ok.len⟩,h.f.cap,h.f.lt.bQ hs.size⟩,h.eo,h.ef⟩
theorem XmP(r:RR)(M:RmM)(q:Plc)(w:dD)(h:Qi w r M)(hm:Jt M)(hMok:M.Ok r.c)(ht:0<=M.tot/\M.tot<=4611686018427000000)(hq:Zw w q):Xe prog 210 #[.agg (Ba r).toArray,.agg (Xw q).toArray] w
 (λv w'=>∃r',v=.tuple #[.agg (Ba r').toArray,W (H3 M (Xz q))]/\Qi w' r' (Yo M (Xz q))/\A6 w r r'/\Xc Xf w w'):=by
 have e8:maxLen=9223372036854775807:=rfl;have e9:=h.lm;refine aR func210 ntmps210 Y (bC Y λrb w1 e1 cw cx ea=>bC Y λpb w2 e2 cy bw eb=>bC Y λob w3 e3 aw ax ec=>?_);have a6:=(cx.trans bw).trans ax;have ay:=ax.bP (bw.bP cw);have I:=ax.bP cy;refine bB I Y ?_;by_cases g0:0<=q.cL
 .have eD:H3 M (Xz q)=J9 M q.cL q.cR q.idx/\Yo M (Xz q)=Qw M q.cL q.cR q.idx:=by
   unfold H3 Yo Xz;exact⟨bK xP,bK xP⟩
  rw[eD.1,eD.2];refine bI Y (bB ay Y (bB I Y (bB I Y (bB I Y (aP Y (Xgw r M q.cL q.cR q.idx w3 (h.bQ a6) hm ht) ?_)))));rintro _ w4 ⟨r',rfl,hR,hK,k⟩;refine aN Y ?_;refine bF (k.bP aw) Y λw5 ag ao bx=>?_;have ap:Da (λz=>z=ob) r':=hK.out h (λz a=>X) (λz a=>X);exact aK func210 ag Y ⟨r',rfl,hR.bW ap ao,hK.dC a6.size,((a6.trans k).sn ao)⟩
 .refine aS Y ?_;refine Xa.loop (α:=Nat×dE) (λx=>[(2,false,xV rb),(3,false,xV pb),(4,false,xV ob),(6,false,x.2),(7,false,.bool ((r.lg.take x.1).any (Ch q))),(8,false,W x.1)])
   (λx w'=>x.1<=r.lg.length/\Xm w3.heap.size 83 4 w' x.2 (Dv q (r.lg.take x.1)).length (fl Xw (Dv q (r.lg.take x.1)))/\Xc Xf w3 w') (λx=>r.lg.length-x.1) (0,.slice none 0 0) ⟨rfl,rfl,rfl,rfl,rfl,rfl,trivial⟩ ⟨XQ _,⟨rfl,.inl ⟨rfl,rfl⟩⟩,Xc.refl _ _⟩ ?_
  rintro⟨i,v⟩ w4 ⟨hi,U,k⟩ ih;simp only at hi U
  have D:=k.bP ay;have J:=k.bP I;have o:=a6.trans k;refine aN Y (bB D Y (aT Y (λb0=>?_) λb0=>?_))
  .have c:i<r.lg.length:=xH (bL b0)
   obtain⟨lb,loff,cz,H⟩:=(h.lr.bR o) i r.lg[i] (XD c);have d0:(Dv q (r.lg.take i)).length<=i:=by
    have h1:(Dv q (r.lg.take i)).length<=(r.lg.take i).length:=List.length_filter_le _ _;rw[XX] at h1;omega
   have bz:=(h.lgo r.lg[i] (XL c)).1;by_cases K:q.cL=-1
   .refine aQ 12 Xf xK Y λf=>aE f J Y (Xd.yes Xb f rfl (by rw[K];rfl) rfl (aE f D Y ?_));rw[cz];have hd:∀w',Xc Xf w4 w'->Xe prog 259 #[.agg (Xw r.lg[i]).toArray,.agg #[W q.cL,W q.cR,W q.idx,.slice q.pa q.bS.length q.pc]] w' (Grow (.bool (Kb r.lg[i] q)) w'):=λw' F=>XmV r.lg[i] q w' ((bz.rd.bR o).bR F) ((hq.rd.bR o).bR F) bz.len;refine aB (i*4) f Y (Xd.loadC Xb f (Xw r.lg[i]) rfl xT (H) (by first|exact λh=>h|(intro h;omega)|assumption) rfl (aE f J Y (aG f (λw' F=>hd w' F) Y (aF f Y λw5 d=>?_))));by_cases hs:Kb r.lg[i] q=true
    .have b1:Ch q r.lg[i]=true:=by unfold Ch;rw[bN K,hs];rfl
     refine bI Y (aV Y ?_);exact ih (i+1,v) _ _ ⟨c,by
      rw[Xbs c,bK b1,QR];exact U.bR d (λ_ _ h=>h),k.trans d⟩ xP ⟨rfl,rfl,rfl,rfl,congrArg (λb=>some (Value.bool b)) (show true=(r.lg.take (i+1)).any (Ch q) from by rw[XaD c,b1,Bool.or_true]),rfl,trivial⟩
    .have c0:Kb r.lg[i] q=false:=xU hs
     have aa:Ch q r.lg[i]=false:=by unfold Ch;rw[c0,YD]
     refine aI Y c0 ?_;obtain⟨mb,moff,b2,L⟩:=(h.lr.bR (o.trans d)) i r.lg[i] (XD c);refine bB (d.bP D) Y ?_;rw[b2];refine aU (i*4) Y (Xa.loadC Xb (Xw r.lg[i]) rfl xT (L) rfl (Xa.buildSlice Xb rfl λb6 w6 e6 b3 ab d2=>aN Y ?_));have G:=(U.bR d (λ_ _ h=>h)).bR ab (λ_ _ h=>h);have N:=(k.trans d).trans ab;refine Xa.appendA (base:=w3.heap.size) (xs:=fl Xw (Dv q (r.lg.take i))) (news:=Xw r.lg[i]) Xb rfl G N.size (λe=>by cases e) rfl (Rq b3) (Pr _) ⟨X,by show((Dv q (r.lg.take i)).length+1)*48<=_;omega⟩ λv7 w7 b4 b7 d3=>aN Y (aV Y ?_);exact ih (i+1,v7) _ _ ⟨c,by
      rw[Xbs c,bJ (by rw[aa];decide),ZE,O0,R3];exact b4,G.bU N (XF _) b7⟩ xP ⟨rfl,rfl,rfl,rfl,congrArg (λb=>some (Value.bool b)) (show(r.lg.take i).any (Ch q)=(r.lg.take (i+1)).any (Ch q) from by rw[XaD c,aa,Bool.or_false]),rfl,trivial⟩
   .have aa:Ch q r.lg[i]=false:=by unfold Ch;rw[bO K,QE]
    refine aQ 12 Xf xK Y λf=>aE f J Y (Xd.no Xb f rfl (xU K) rfl (aF f Y λw5 d=>?_));obtain⟨mb,moff,b2,L⟩:=(h.lr.bR (o.trans d)) i r.lg[i] (XD c);refine bB (d.bP D) Y ?_;rw[b2];refine aU (i*4) Y (Xa.loadC Xb (Xw r.lg[i]) rfl xT (L) rfl (Xa.buildSlice Xb rfl λb6 w6 e6 b3 ab d2=>aN Y ?_));have G:=(U.bR d (λ_ _ h=>h)).bR ab (λ_ _ h=>h);have N:=(k.trans d).trans ab;refine Xa.appendA (base:=w3.heap.size) (xs:=fl Xw (Dv q (r.lg.take i))) (news:=Xw r.lg[i]) Xb rfl G N.size (λe=>by cases e) rfl (Rq b3) (Pr _) ⟨X,by show((Dv q (r.lg.take i)).length+1)*48<=_;omega⟩ λv7 w7 b4 b7 d3=>aN Y (aV Y ?_);exact ih (i+1,v7) _ _ ⟨c,by
     rw[Xbs c,bJ (by rw[aa];decide),ZE,O0,R3];exact b4,G.bU N (XF _) b7⟩ xP ⟨rfl,rfl,rfl,rfl,congrArg (λb=>some (Value.bool b)) (show(r.lg.take i).any (Ch q)=(r.lg.take (i+1)).any (Ch q) from by rw[XaD c,aa,Bool.or_false]),rfl,trivial⟩
  .have d4:i=r.lg.length:=xH (bM b0)
   subst d4;rw[ZM] at U⊢;have bu:(r.lg.any (Ch q)=false/\H3 M (Xz q)=1/\Yo M (Xz q)=M)\/∃n rr,(n,rr)∈M.lg/\r.lg.any (Ch q)=true/\H3 M (Xz q)=0/\Yo M (Xz q)=Iv M n rr/\q.cR=(n:Nat)/\X3 rr=q.bS/\(Dv q r.lg).map Xz=(Dw M.lg n).map lgP:=by
    by_cases K:q.cL=-1
    .obtain⟨i1,i2⟩:=Xko h.lge K;have eE:H3 M (Xz q)=(match Dd M.lg q.cR with|none=>1|some r=>if X3 r=q.bS then 0 else 1):=by unfold H3 Xz;exact bJ (λh=>h K)
     have eM:Yo M (Xz q)=(match Dd M.lg q.cR with|none=>M|some r=>if X3 r=q.bS then Iv M q.cR.toNat r else M):=by unfold Yo Xz;exact bJ (λh=>h K)
     cases hg:Dd M.lg q.cR with
     |none=>
      rw[hg] at eE eM;exact .inl ⟨by rw[i1];exact Xe6 (λr hr=>by rw[hg] at hr;cases hr) hMok.nd,eE,eM⟩
     |some rr=>
      rw[hg] at eE eM;simp only at eE eM
      obtain⟨n,hn,O⟩:=Pc hg;by_cases hp:X3 rr=q.bS
      .rw[bK hp] at eE eM;obtain⟨j1,j2⟩:=Xkp hMok.nd O hn hp;exact .inr ⟨n,rr,O,by rw[i1];exact j1,eE,by rw[eM,hn,XA],hn,hp,by rw[i2,j2]⟩
      .rw[bJ hp] at eE eM;exact .inl ⟨by rw[i1];exact Xe6 (λr hr=>by rw[hg] at hr;cases hr;exact hp) hMok.nd,eE,eM⟩
    .have c1:Zs M q.cL=none:=Te (.inl X);refine .inl ⟨?_,?_,?_⟩
     .rw[QI];intro x _;unfold Ch;rw[bO K]
      simp
     .unfold H3 Xz;refine(bK K).trans ?_;unfold J9;rw[c1]
     .unfold Yo Xz;refine(bK K).trans ?_;unfold Qw;rw[c1]
   rcases bu with⟨hf,hE,hM⟩|⟨n,rr,O,hf,hE,hM,d5,c2,d6⟩
   .rw[hE,hM];refine aM Y (by rw[hf];rfl) (bB D Y ?_);refine bF (k.bP aw) Y λw5 ag ao bx=>?_;have hc:=o.sn ao;exact aK func210 ag Y ⟨r,rfl,h.bQ hc,A6.refl w r,hc⟩
   .rw[hE,hM];have V:(n::rr).Nodup:=by
     obtain⟨A,C,eA,_⟩:=Pb hMok.nd O;have e:Qc M.lg=Qc A++((n::rr)++Qc C):=by rw[eA,Kt];rfl
     have V:=hMok.nd;rw[e] at V;exact(XR.1 (XR.1 V).2.1).1
    have P:∀m∈n::rr,m<M.pl.own.length/\M.pl.own.getD m 0=(M.shs.length:Int):=λm u=>hMok.lg m (Jb O u);have ed:rr.length<=1024:=by
     obtain⟨_,_,p3,_⟩:=Pq (l:=n::rr) hm.cV V (λm u=>⟨(P m u).1,xH (P m u).2⟩);have:=O7 hm.cV;simp only[XN] at p3;omega
    have d8:q.bS.length=rr.length:=by rw[<-c2,De]
    refine aI Y (by rw[hf];rfl) (bB J Y (Xa.buildSlice Xb rfl λb5 w5 e5 d9 d bx=>aN Y ?_));have c3:Xm w4.heap.size 3 1 w5 (.slice (some ⟨b5,0,none⟩) 1 1) 1 [W q.cR]:=Xm.one X d9;have ba:=o.trans d;refine bB (d.bP J) Y (Xa.appendA (base:=w4.heap.size) (xs:=[W q.cR]) (news:=q.bS.map W) Xb rfl c3 d.size (hq.rd.bR ba).noneA xS (hq.rd.bR ba).cellsA Jh ⟨X,by show(1+q.bS.length)*8<=_;omega⟩ λv6 w6 G da ee=>?_);have E:=c3.bU d (XF _) da;have eall : [W q.cR]++q.bS.map W=(X3 (n::rr)).map W:=by rw[<-c2,d5];rfl
    rw[eall] at G;obtain⟨g,gc,rfl,ef,eh,ei,ej,db⟩:=XbT (l:=n::rr) G (by simp only[XN];omega) X;refine aN Y ?_;have bb:=o.trans E;have du:=E.size;have dv:=k.size;obtain⟨B,bc⟩:∃B:Nat->Prop,B=λz=>z=rb\/z=ob:=⟨_,rfl⟩;have a7:∀z,B z->w.heap.size<=z/\z<w3.heap.size:=λz a=>by rw[bc] at a;rcases a with e|e <;> omega
    have c4:=h.out (S:=B) (λz a=>(a7 z a).1);obtain⟨la,lcap,rfl,ck,cl,cm,aq⟩:=Xm.rowsN U Lx rfl;refine Xa.loop (α:=Nat×RP) (λx=>[(2,false,xV rb),(4,false,xV ob),(6,false,.slice la (Dv q r.lg).length lcap),(9,false,.slice (some ⟨g,0,none⟩) (1+q.bS.length) gc),(10,false,W x.1)])
     (λx w'=>x.1<=rr.length+1/\Yv w' rb {r with p:=x.2}/\At w' x.2 (A0 M.pl ((n::rr).take x.1))/\Xj B x.2.o.a/\Xj B x.2.f.a/\(∀S:Nat->Prop,(∀z,S z->z<w.heap.size)->Xj S r.p.o.a->Xj S r.p.f.a->Xj S x.2.o.a/\Xj S x.2.f.a)/\Xc (λz=>z=rb) w6 w') (λx=>rr.length+1-x.1) (0,r.p) ⟨rfl,rfl,rfl,rfl,rfl,trivial⟩
     ⟨XQ _,(E.bP D),h.p.bQ bb,c4.o,c4.f,λS _ h1 h2=>⟨h1,h2⟩,Xc.refl _ _⟩ ?_
    rintro⟨j,rp⟩ w7 ⟨hj,bd,Q,c5,c6,be,a0⟩ dd;simp only at hj bd Q c5 c6 be
    have dx:=a0.size;have ai:=bb.sn a0;have ac:B rb:=by rw[bc];exact .inl rfl
    have de:B ob:=by rw[bc];exact .inr rfl
    have a8:=bd;refine aN Y (aT Y (λaj=>?_) λaj=>?_)
    .have c:j<rr.length+1:=xH (bL aj)
     have R:=c;have T:∀m∈(n::rr).take j,m∈n::rr:=λm u=>ZB u;obtain⟨p1,p2,p3,p4⟩:=Pq (l:=(n::rr).take j) hm.cV (V.sublist (List.take_sublist _ _)) (λm u=>⟨(P m (T m u)).1,xH (P m (T m u)).2⟩);have cn:(n::rr)[j]∉(n::rr).take j:=λdf=>by
      obtain⟨i,hi,e⟩:=QV df;rw[List.getElem_take] at e;rw[XX] at hi;exact(List.pairwise_iff_getElem.1 V i j X R X) e
     obtain⟨o1,o2⟩:=P _ (XL R);have ap:(n::rr)[j]<(A0 M.pl ((n::rr).take j)).own.length:=X
     have c7:(A0 M.pl ((n::rr).take j)).own.getD (n::rr)[j] 0≠-1:=by rw[p4,bJ cn];omega
     obtain⟨_,eg⟩:=Xf7 ap c7;have estep:A0 M.pl ((n::rr).take (j+1))=(A0 M.pl ((n::rr).take j)).give (n::rr)[j]:=by
      rw[<-eg,ZI,XD R];unfold A0;rw[List.foldl_append];rfl
     obtain⟨b',off',e',H⟩:=(db.bW (S:=λz=>z=rb) (λb' off s e a=>by cases e;omega) a0) j (by rw[De];exact R);cases e'
     have ev:(X3 (n::rr)).getD j 0=((n::rr)[j]:Int):=by
      unfold X3;rw[XB,XO,XD R];rfl
     rw[ev] at H;have hd:∀w',Xc Xf w7 w'->Xe prog 260 #[.agg #[Xq rp.o,Xq rp.f],W ((n::rr)[j]:Nat)] w' (λv w2=>Xc Xf w' w2/\∃x:RP,v=Value.tuple #[.agg (Dg x).toArray,W 0]/\(At w2 x (A0 M.pl ((n::rr).take (j+1)))/\Bg w7 x.o.a/\Bg w7 x.f.a)):=λw' F=>by
      have hd:=Xgm rp (n::rr)[j] _ w' (Q.bQ F) p1 ap c7;rw[<-estep] at hd;exact hd.mono λv w2 ⟨x,a1,a2,a3,a4,a5⟩=>⟨a5,x,a1,a2,a3.dC F.size,a4.dC F.size⟩
     refine aQ 12 Xf xK Y λf=>aE f a8 Y (aB j f Y (aD f H Y (Xd.callAlloc (λx:RP=>Value.tuple #[.agg (Dg x).toArray,W 0]) (λ(x:RP) (w2:dD)=>At w2 x (A0 M.pl ((n::rr).take (j+1)))/\Bg w7 x.o.a/\Bg w7 x.f.a) Xb f rfl rfl rfl (λ_=>rfl) rfl (λ_=>rfl) (λ_=>rfl) rfl rfl (λ_ _=>rfl) rfl (λ_ _=>rfl) (hd) (λx w2 w3 ⟨a1,a2,a3⟩ hc=>⟨a1.bQ hc,a2,a3⟩) (λ_ h=>h.elim) ?_)));rintro nb x w8 ek c8 dh ⟨di,c9,ca⟩;refine Xd.cK f rfl λw9 bf=>Xo.store Xb f rfl (bf.bP c8) (by first|(intro h;exact rfl)|(intro h;omega)) rfl rfl rfl λwa cr ad dk=>?_;refine aF f Y λwb bg=>?_;have bh:=((dh.trans bf).sn ad).trans bg;refine bB (bg.bP cr) Y (bF (bh.bP a8) Y λwc cs bi el=>?_);have cb:=c9.out (λz a=>xH (a7 z a).2);have cc:=ca.out (λz a=>xH (a7 z a).2);have ar:=di.bV c8 (by intro y hy z e;subst e;simp[Y8] at hy) ((bf.gr.trans ad).trans bg.gr);have dl:At wc x (A0 M.pl ((n::rr).take (j+1))):=⟨ar.o.bW (cb.mono (λz e=>by subst e;exact ac)) bi,ar.f.bW (cc.mono (λz e=>by subst e;exact ac)) bi,ar.eo,ar.ef⟩;exact aV Y (dd (j+1,x) _ _ ⟨c,cs,dl,cb,cc,λS hS h1 h2=>⟨c9.out (λz a=>xI (hS z a) ai.size),ca.out (λz a=>xI (hS z a) ai.size)⟩,(a0.trans bh.gr).trans bi⟩ xP ⟨rfl,rfl,rfl,rfl,rfl,trivial⟩)
    .have ct:j=rr.length+1:=xH (bM aj)
     subst ct;have etk:(n::rr).take (rr.length+1)=n::rr:=ZM (l:=n::rr);rw[etk] at Q;have em:=h.st;obtain⟨t,bj⟩:∃t,t=Xu M.tot ((rr.length+1:Int)*4+rr.length):=⟨_,rfl⟩;have dm:r.cM+4*(((1+q.bS.length:Nat)):Int)+((1+q.bS.length:Nat):Int)-1=t:=by
      rw[bj,d8];unfold Xu;rw[bJ X];omega
     refine bF a8 Y λw8 a9 bk en=>?_;replace a9:w8.heap[rb]?=some (.cells (X5 r.c r.cp++[Xq rp.o,Xq rp.f,.slice r.sa r.ss.length r.scap,.slice la (Dv q r.lg).length lcap,W r.cM]).toArray 38 (0,0)):=a9;refine bB a9 Y (aV Y ?_);refine Xa.arith Xb rfl (w64 X) rfl ?_;refine aV Y (aV Y ?_);rw[dm];obtain⟨r',bm⟩:∃r':RR,r'={r with p:=rp,lg:=Dv q r.lg,la:=la,lcap:=lcap,cM:=t}:=⟨_,rfl⟩;refine bF a9 Y λw9 ak bn eo=>?_;replace ak:Yv w9 rb r':=by rw[bm];exact ak
     refine bB ak Y ?_;refine bF (bn.heap (bk.heap (a0.heap (E.bP (k.bP aw)) X) X) X) Y λwa cu ad dk=>?_;have bo:=((ai.sn bk).sn bn).sn ad;have al:=((bk.mono λ_ _ e=>e▸ac).trans (bn.mono λ_ _ e=>e▸ac)).trans (ad.mono λ_ _ e=>e▸de);have bp:=(a0.mono λ_ _ e=>e▸ac).trans al;have cv:Xj B la:=λb off s e a=>xI (aq b off s e) (a7 b a).2
     have d0:(Dv q r.lg).length<=r.lg.length:=List.length_filter_le _ _;have T:∀q'∈Dv q r.lg,q'∈r.lg:=λq' h=>(QY.1 h).1;have h':=h.bQ bo;have hR:Qi wa r' (Iv M n rr):=by
      rw[bm];exact⟨⟨Q.o.bW c5 al,Q.f.bW c6 al,Q.eo,Q.ef⟩,h'.sr,h'.sl,h'.sc,h'.n,h'.few,h'.cI,(ck.bR E).bW cv bp,(cl.bQ E.size).bQ bp.size,cm,by show(Dv q r.lg).length<=1024;omega,d6,λq' bq=>h'.lgo q' (T q' bq),bj⟩
     have hK:A6 w r r':=by
      rw[bm];exact⟨rfl,rfl,λS hS ho=>⟨(be S hS ho.o ho.f).1,(be S hS ho.o ho.f).2,ho.sa,ho.cI,λb off s e a=>xI (aq b off s e) (hS b a),λq' bq=>ho.lgo q' (T q' bq)⟩⟩
     exact aK func210 cu Y ⟨r',rfl,hR,hK,bo⟩
structure TR where
 size:Int
 q:Plc
def D5(t:TR):List dE:=.int .i64 t.size::Xw t.q
structure VR where
 is:Bool
 who:Int
 pf:Int
 fa:Int
 pt:Int
 ta:Int
 sa:Option dF
 sl:Nat
 sc:Nat
 st:Int
 f:Int
 t:Int
 size:Int
 cE:Int
def Cy(v:VR):List dE:=[.bool v.is,.int .i64 v.who,.int .i64 v.pf,.int .i64 v.fa,.int .i64 v.pt,.int .i64 v.ta,.slice v.sa v.sl v.sc,.int .i64 v.st,.int .i64 v.f,.int .i64 v.t,.int .i64 v.size,.int .i64 v.cE]
theorem Tn(t:TR):(D5 t).length=5:=rfl
theorem To(t:VR):(Cy t).length=12:=rfl
theorem XoL(s:TR):∀u∈D5 s,u.oneCell'=true:=λu a=>by
 simp only[D5,Xw,ZC,List.mem_nil_iff,or_false] at a;rcases a with rfl|rfl|rfl|rfl|rfl <;> rfl
theorem Xo2(s:VR):∀u∈Cy s,u.oneCell'=true:=λu a=>by
 simp only[Cy,ZC,List.mem_nil_iff,or_false] at a;rcases a with rfl|rfl|rfl|rfl|rfl|rfl|rfl|rfl|rfl|rfl|rfl|rfl <;> rfl
abbrev N5:TR:=⟨0,q0⟩
abbrev Lc:VR:=⟨false,0,0,0,0,0,none,0,0,0,0,0,0,0⟩
structure SR where
 c:Conf
 cp:Yz
 bV:List Int
 ka:Option dF
 kcap:Nat
 ra:RA
 rr:RR
 ts:List TR
 ta:Option dF
 tcap:Nat
 ms:List VR
 ma:Option dF
 mcap:Nat
def Yc(r:SR):List dE:=X5 r.c r.cp++[.slice r.ka r.bV.length r.kcap]++Hf r.ra++Ba r.rr++[.slice r.ta r.ts.length r.tcap,.slice r.ma r.ms.length r.mcap]
def Rf(x:Option ThM)(t:TR):Prop:=t.size=Bd x/\∀y,x=some y->Xz t.q=y.q
def Me(x:Option MvM)(v:VR):Prop:=v.is=x.isSome/\∀m,x=some m->v.who=m.who/\v.pf=m.pf/\v.fa=m.fa/\v.pt=m.pt/\v.ta=m.ta/\v.f=m.f/\v.t=m.t/\v.size=m.size/\v.cE=m.cE
abbrev Qd(M:RmM):RmM:={M with tot:=0}
structure Zf(w:dD)(r:SR)(s:StM):Prop where
 cO:Yd w r.c r.cp
 kr:Rd .i64 w r.ka r.bV
 ke:r.bV=s.bV
 ra:Yp w r.ra
 rb:r.ra.bs=s.bs
 rs:r.ra.cM=s.rm.tot
 la:Yw w r.ra.a
 lk:Yw w r.ka
 rr:Qi w r.rr (Qd s.rm)
 rc:r.rr.c=r.c
 rp:r.rr.cp=r.cp
 tr:Rows D5 5 w r.ta r.ts
 tl:Yw w r.ta
 tc:r.ts.length<=r.tcap
 tn:r.ts.length=s.th.length
 te:∀(o:Nat) x t,s.th[o]?=some x->r.ts[o]?=some t->Rf x t
 tq:∀t∈r.ts,Zw w t.q/\Yw w t.q.pa
 mr:Rows Cy 12 w r.ma r.ms
 ml:Yw w r.ma
 mc:r.ms.length<=r.mcap
 mn:r.ms.length=s.mv.length
 me:∀(k:Nat) x v,s.mv[k]?=some x->r.ms[k]?=some v->Me x v
structure Bp(S:Nat->Prop)(r:SR):Prop where
 k:Xj S r.ka
 ra:Xj S r.ra.a
 rr:Da S r.rr
 ta:Xj S r.ta
 tq:∀t∈r.ts,Xj S t.q.pa
 ma:Xj S r.ma
theorem Zf.bQ{w w':dD}{r:SR}{s:StM}(h:Zf w r s)(hc:Xc Xf w w'):Zf w' r s:=
 {h with cO:=h.cO.bR hc,kr:=h.kr.bR hc,ra:=h.ra.bQ hc,la:=h.la.bQ hc.size,lk:=h.lk.bQ hc.size,rr:=h.rr.bQ hc,tr:=h.tr.bR hc,tl:=h.tl.bQ hc.size,tq:=λt ht=>⟨(h.tq t ht).1.bQ hc,(h.tq t ht).2.bQ hc.size⟩,mr:=h.mr.bR hc,ml:=h.ml.bQ hc.size}
theorem Zf.bW{w w':dD}{r:SR}{s:StM}{S:Nat->Prop}(h:Zf w r s)(ho:Bp S r)(hcf:Yd w' r.c r.cp)(hc:Xc S w w'):Zf w' r s:=
 {h with cO:=hcf,kr:=h.kr.bW ho.k hc,ra:=⟨h.ra.rd.bW ho.ra hc,h.ra.len,h.ra.lc,h.ra.rng⟩,la:=h.la.bQ hc.size,lk:=h.lk.bQ hc.size,rr:=h.rr.bW ho.rr hc,tr:=h.tr.bW ho.ta hc,tl:=h.tl.bQ hc.size,tq:=λt ht=>⟨⟨(h.tq t ht).1.rd.bW (ho.tq t ht) hc,(h.tq t ht).1.len⟩,(h.tq t ht).2.bQ hc.size⟩,mr:=h.mr.bW ho.ma hc,ml:=h.ml.bQ hc.size}
def Zz(w:dD)(r r':SR):Prop:=r'.c=r.c/\r'.cp=r.cp/\∀S:Nat->Prop,(∀z,S z->z<w.heap.size)->Bp S r->Bp S r'
theorem Zz.refl(w:dD)(r:SR):Zz w r r:=⟨rfl,rfl,λ_ _ h=>h⟩
theorem Zz.trans{w w1:dD}{r r1 r2:SR}(h:Zz w r r1)(h':Zz w1 r1 r2)(hs:w.heap.size<=w1.heap.size):Zz w r r2:=⟨h'.1.trans h.1,h'.2.1.trans h.2.1,λS a b=>
 h'.2.2 S (λz c=>xH (a z c)) (h.2.2 S a b)⟩
theorem Zz.dC{r r1:SR}(h:Zz w1 r r1)(hs:w.heap.size<=w1.heap.size):Zz w r r1:=⟨h.1,h.2.1,λS a b=>h.2.2 S (λz c=>xH (a z c)) b⟩
abbrev Zo(w:dD)(b:Nat)(r:SR):Prop:=w.heap[b]?=some (.cells (Yc r).toArray 42 (0,0))
theorem Zf.out{w:dD}{r:SR}{s:StM}{S:Nat->Prop}(h:Zf w r s)(hs:∀z,S z->w.heap.size<=z):Bp S r:=⟨h.lk.out hs,h.la.out hs,h.rr.out hs,h.tl.out hs,λt ht=>(h.tq t ht).2.out hs,h.ml.out hs⟩
theorem Zf.box{r r':SR}(h:Zf w r s)(hk:Zz w2 r r')(h':Zf w' r' s')(hw:w.heap.size<=qb)(hq:qb<w2.heap.size)(hc:Xc (λz=>z=qb) w' w'')(hcc:Xc Xf w w''):Zf w'' r' s':=by
 refine h'.bW (hk.2.2 (λz=>z=qb) (λz e=>e▸hq) (h.out λz e=>e▸hw)) ?_ hc;have:=h.cO.bR hcc;rw[hk.1,hk.2.1];exact this
def Ei(w:dD)(r:SR)(s':StM)(r':SR)(w':dD):Prop:=Zf w' r' s'/\Zz w r r'/\Xc Xf w w'
theorem Ei.self{r:SR}(h:Zf w r s)(hc:Xc Xf w w'):Ei w r s r w':=⟨h.bQ hc,.refl w r,hc⟩
theorem Zf.putMv{r:SR}(h:Zf w r s)(hc:Xc Xf w w'){v:VR}{x:Option MvM}(hr:Rows Cy 12 w' a (r.ms.set k v))(hl:Yw w' a)(hcap:(r.ms.set k v).length<=cap)(hx:Me x v):Zf w' {r with ms:=r.ms.set k v,ma:=a,mcap:=cap} {s with mv:=s.mv.set k x}:=by
 have d:∀(j:Nat) y v',(s.mv.set k x)[j]?=some y->(r.ms.set k v)[j]?=some v'->Me y v':=λj y v' c b=>by
  by_cases e:k=j
  .subst e;have f:k<r.ms.length:=by have:=(XC.1 b).1;rw[XG] at this;exact this
   rw[XH f] at b;rw[XH (by rw[<-h.mn];exact f)] at c;cases c;cases b
   exact hx
  .rw[XK e] at c b;exact h.me j y v' c b
 have g:(r.ms.set k v).length=(s.mv.set k x).length:=by rw[XG,XG];exact h.mn
 exact {(h.bQ hc) with mr:=hr,ml:=hl,mc:=hcap,mn:=g,me:=d}
theorem Zf.putTh{r:SR}(h:Zf w r s)(hc:Xc Xf w w'){t:TR}{x:Option ThM}(hr:Rows D5 5 w' a (r.ts.set o t))(hl:Yw w' a)(hcap:(r.ts.set o t).length<=cap)(hx:Rf x t)(hq:Zw w' t.q/\Yw w' t.q.pa):Zf w' {r with ts:=r.ts.set o t,ta:=a,tcap:=cap} {s with th:=s.th.set o x}:=by
 have d:=h.bQ hc;have f:∀(j:Nat) y v',(s.th.set o x)[j]?=some y->(r.ts.set o t)[j]?=some v'->Rf y v':=λj y v' b c=>by
  by_cases e:o=j
  .subst e;have g:o<r.ts.length:=by have:=(XC.1 c).1;rw[XG] at this;exact this
   rw[XH g] at c;rw[XH (by rw[<-h.tn];exact g)] at b;cases b;cases c
   exact hx
  .rw[XK e] at b c;exact h.te j y v' b c
 have i:(r.ts.set o t).length=(s.th.set o x).length:=by rw[XG,XG];exact h.tn
 have k:∀t'∈r.ts.set o t,Zw w' t'.q/\Yw w' t'.q.pa:=λt' l=>by
  rcases ZN l with b|rfl
  .exact d.tq t' b
  .exact hq
 exact {d with tr:=hr,tl:=hl,tc:=hcap,tn:=i,te:=f,tq:=k}
theorem Zf.putRa{r:SR}(h:Zf w r s)(hc:Xc Xf w w'){ra:RA}{t:Int}(hr:Yp w' ra)(hb:ra.bs=bs)(ht:ra.cM=t)(hl:Yw w' ra.a):Zf w' {r with ra:=ra} {s with bs:=bs,rm:={s.rm with tot:=t}}:=by
 exact {(h.bQ hc) with ra:=hr,rb:=hb,rs:=ht,la:=hl}
theorem Zf.putRr{r:SR}(h:Zf w r s)(hc:Xc Xf w w'){rr:RR}(hr:Qi w' rr (Qd M))(hk:rr.c=r.rr.c/\rr.cp=r.rr.cp)(ht:M.tot=s.rm.tot):Zf w' {r with rr:=rr} {s with rm:=M}:=by
 exact {(h.bQ hc) with rr:=hr,rc:=hk.1.trans h.rc,rp:=hk.2.trans h.rp,rs:=h.rs.trans ht.symm}
theorem Zf.mrow{r:SR}(h:Zf w r s)(hj:j<r.ms.length):Me (Xx s (j:Nat)) r.ms[j]/\∃b off,r.ma=some ⟨b,off,none⟩/\∀i v,(Cy r.ms[j])[i]?=some v->w.cell? ⟨b,off+j*12+i,none⟩=some v:=by
 obtain⟨b,off,e,c⟩:=h.mr j r.ms[j] (XD hj);have a:j<s.mv.length:=by rw[<-h.mn];exact hj
 refine⟨?_,b,off,e,c⟩;have:=h.me j s.mv[j] r.ms[j] (XD a) (XD hj);rw[XfF a];exact this
theorem Zf.trow{r:SR}(h:Zf w r s)(hj:j<r.ts.length):Rf (B3 s (j:Nat)) r.ts[j]/\∃b off,r.ta=some ⟨b,off,none⟩/\∀i v,(D5 r.ts[j])[i]?=some v->w.cell? ⟨b,off+j*5+i,none⟩=some v:=by
 obtain⟨b,off,e,c⟩:=h.tr j r.ts[j] (XD hj);have a:j<s.th.length:=by rw[<-h.tn];exact hj
 refine⟨?_,b,off,e,c⟩;have:=h.te j s.th[j] r.ts[j] (XD a) (XD hj);have e2:B3 s (j:Nat)=s.th[j]:=by
  unfold B3;rw[bK X,XA,XB,XD a];rfl
 rw[e2];exact this
theorem L1{r:SR}(h:Zf w r s)(hl:s.mv.length<=16)(k:Int):Xe prog 87 #[.agg (Yc r).toArray,W k] w (Grow (.bool (Xx s k).isSome) w):=by
 refine aR func87 ntmps87 Y (bC Y λb n e1 d a l=>?_);have m:=h.mn;by_cases f:0<=k
 .obtain⟨j,rfl⟩:=XE f;refine bI Y (bB d Y ?_);by_cases g:j<r.ms.length
  .refine bI Y (bB d Y ?_);obtain⟨i,o,off,ea,c⟩:=(h.bQ a).mrow g;rw[ea,<-i.1];exact aU (j*12) Y (aW Y (c 0 _ rfl) Y (bE func87 Y ⟨rfl,a⟩))
  .have e:=XbJ (by unfold Hl;rw[bO (show ¬(j:Int)<s.mv.length by omega),YD]);rw[e];exact aS Y (bE func87 Y ⟨rfl,a⟩)
 .have e:Xx s k=none:=XbJ (by unfold Hl;rw[bO f];rfl);rw[e];exact aS Y (bE func87 Y ⟨rfl,a⟩)
theorem Pw{r:SR}:Xe prog 208 #[.agg (Yc r).toArray] w (Grow (.agg (Ak r.c r.cp r.ra).toArray) w):=by
 refine aR func208 ntmps208 Y (bC Y λb m e1 i f j=>bC Y λqb n e2 g a k=>?_);have c:=a.bP i;exact bB c Y (bB c Y (aO Y (bF g Y λo d h l=>aK func208 d Y ⟨rfl,(f.trans a).sn h⟩)))
theorem S7{r:SR}{rr:RR}(h:Zf w r s)(hr:Qi w rr M)(hk:A6 w0 r.rr rr)(hM:0<=M.tot/\0<=s.rm.tot/\s.rm.tot+M.tot<=4611686018427387904):Xe prog 149 #[.agg (Yc r).toArray,.agg (Ba rr).toArray] w
 (λv w'=>∃r',v=.agg (Yc r').toArray/\r'.rr={rr with cM:=0}/\Zf w' r' {s with rm:={M with tot:=Xu s.rm.tot M.tot}}/\Zz w0 r r'/\Xc Xf w w'):=by
 have q:=hr.st;have t:=h.rs;refine aR func149 ntmps149 Y (bC Y λb U e1 G u L=>bC Y λrb V e2 x k N=>bC Y λqb w3 e3 y c O=>?_);have d:=(k.trans c).bP G;have f:=c.bP x;refine bB d Y (bB d Y (bB f Y (aV Y (aO Y (bF d Y λw4 A g P=>bF (g.heap f X) Y λw5 m i Q=>?_)))));refine bB m Y (bF (i.heap A X) Y λH j l R=>?_);obtain⟨r',er⟩:∃r':SR,r'={r with ra:={r.ra with cM:=r.ra.cM+rr.cM},rr:={rr with cM:=0}}:=⟨_,rfl⟩;replace j:Zo H b r':=by rw[er];exact j
 refine bB j Y (bF (l.heap (i.heap (g.heap y X) X) X) Y λn o B T=>?_);have a:=(((((u.trans k).trans c).sn g).sn i).sn l).sn B;have C:Qi n {rr with cM:=0} (Qd M):={hr.bQ a with st:=rfl};have D:Yp n {r.ra with cM:=r.ra.cM+rr.cM}:=⟨(h.ra.bQ a).rd,h.ra.len,h.ra.lc,h.ra.rng⟩;have ht:r.ra.cM+rr.cM=Xu s.rm.tot M.tot:=by rw[t,q,Cs X]
 have I:=h.putRa a D h.rb ht (h.la.bQ a.size);have J:=I.putRr (Xc.refl Xf n) (M:={M with tot:=Xu s.rm.tot M.tot}) C ⟨hk.1,hk.2.1⟩ rfl;have E:Zz w0 r r':=⟨by rw[er],by rw[er],λS K F=>by
  have:=hk.2.2 S K F.rr;rw[er];exact {F with rr:=⟨this.o,this.f,this.sa,this.cI,this.la,this.lgo⟩}⟩
 exact aK func149 o Y ⟨r',rfl,by rw[er],by rw[er];exact J,E,a⟩
theorem S0{r:SR}(h:Zf w r s)(hl:s.mv.length<=16)(k:Nat)(hk:k<s.mv.length)(v:VR)(x:Option MvM)(hx:Me x v):Xe prog 152 #[.agg (Yc r).toArray,W (k:Nat),.agg (Cy v).toArray] w
 (λu w'=>∃r',u=.agg (Yc r').toArray/\r'.rr=r.rr/\Ei w r {s with mv:=s.mv.set k x} r' w'):=by
 have ag:=h.mn;have ah:maxLen=9223372036854775807:=rfl;refine aR func152 ntmps152 Y (bC Y λrb w1 e1 E F ai=>bC Y λvb w2 e2 i j aj=>bC Y λob I e3 U f ak=>?_);replace i:w2.heap[vb]?=some (.cells (Cy v).toArray 142 (0,0)):=i;refine Xa.buildSlice Xb rfl λb4 w4 e4 V l al=>aN Y ?_;have m:=(j.trans f).trans l;have J:=F.trans m;have K:=m.bP E;refine bB K Y ?_;have B:Xm I.heap.size 142 12 w4 (.slice (some ⟨b4,0,none⟩) 0 0) 0 (fl Cy []):=Xm.empty X V;refine Xa.appendA (base:=I.heap.size) (xs:=fl Cy []) (news:=fl Cy r.ms) Xb rfl B l.size h.mr.noneA (Jz To r.ms) ((h.mr.bR J).news To xD) (O2 Xo2 r.ms) ⟨X,by show(0+r.ms.length)*112<=_;omega⟩ ?_;intro v5 w5 n a1 am;replace n:Xm I.heap.size 142 12 w5 v5 r.ms.length (fl Cy r.ms):=by
  have h:=n;rw[O1,ZQ,XT] at h;exact h
 have c:=B.bU l (XF _) a1;obtain⟨g,o,cur,rfl,an,a2,ao,ap,a3⟩:=n.form X;have p:cur.toList=fl Cy r.ms++cur.toList.drop (r.ms.length*12):=by
  have e:=XY (r.ms.length*12) cur.toList;rw[a3] at e;exact e.symm
 obtain⟨rest,C⟩:∃rest,rest=cur.toList.drop (r.ms.length*12):=⟨_,rfl⟩;rw[<-C] at p;have L:w5.heap[g]?=some (.cells (fl Cy r.ms++rest).toArray 142 (0,0)):=by rw[<-p];exact a2
 have M:=c.bP (f.bP (j.bP E));have N:=c.bP (f.bP i);have O:=c.bP U;refine aN Y (bB N Y (aU (k*12) Y (aL Y L (R4 (cells:=Cy) (y:=v) To X) Y λw6 a4 q aq=>?_)));have P:=q.heap M X;have Q:=q.heap O X;refine bF P Y λw7 d t ar=>?_;obtain⟨r',er⟩:∃r':SR,r'={r with ms:=r.ms.set k v,ma:=some ⟨g,0,none⟩,mcap:=o}:=⟨_,rfl⟩;replace d:Zo w7 rb r':=by
  rw[er];have a5:(r.ms.set k v).length=r.ms.length:=XG;unfold Zo Yc;simp only[a5];exact d
 have R:=t.heap Q X;have a6:=t.heap a4 X;refine bB d Y (bF R Y λw8 T G au=>?_);have H:=G.heap a6 X;have A:Xc Xf w w8:=(((((F.trans j).trans f).trans c).sn q).sn t).sn G;have hO:=h.putMv A (k:=k) (v:=v) (x:=x) (a:=some ⟨g,0,none⟩) (cap:=o) (P7 H To) (by intro b off s e;cases e;exact Xg H) (by rw[XG];omega) hx;have a7:Zz w r r':=⟨by rw[er],by rw[er],λS hS B=>by
  rw[er];exact {B with ma:=λb off s e D=>by cases e;have:=hS _ D;omega}⟩
 exact aK func152 T Y ⟨r',rfl,by rw[er],by rw[er];exact hO,a7,A⟩
variable {r:SR}
theorem V3{w:dD}{r:SR}{s:StM}(h:Zf w r s)(hl:s.th.length<=4096)(k:Nat)(hk:k<s.th.length)(v:TR)(x:Option ThM)(hx:Rf x v)(hq:Zw w v.q/\Yw w v.q.pa):Xe prog 140 #[.agg (Yc r).toArray,W (k:Nat),.agg (D5 v).toArray] w
 (λu w'=>∃r',u=.agg (Yc r').toArray/\Zf w' r' {s with th:=s.th.set k x}/\(r'.c=r.c/\r'.cp=r.cp/\∀S:Nat->Prop,(∀z,S z->z<w.heap.size)->Bp S r->Xj S v.q.pa->Bp S r')/\Xc Xf w w'):=by
 have aj:=h.tn;have ak:maxLen=9223372036854775807:=rfl;refine aR func140 ntmps140 Y (bC Y λrb w1 e1 G H al=>bC Y λvb w2 e2 j l am=>bC Y λob K e3 a0 i an=>?_);replace j:w2.heap[vb]?=some (.cells (D5 v).toArray 85 (0,0)):=j;refine Xa.buildSlice Xb rfl λb4 w4 e4 a1 m ao=>aN Y ?_;have n:=(l.trans i).trans m;have L:=H.trans n;have M:=n.bP G;refine bB M Y ?_;have p:Xm K.heap.size 85 5 w4 (.slice (some ⟨b4,0,none⟩) 0 0) 0 (fl D5 []):=Xm.empty X a1;refine Xa.appendA (base:=K.heap.size) (xs:=fl D5 []) (news:=fl D5 r.ts) Xb rfl p m.size h.tr.noneA (Jz Tn r.ts) ((h.tr.bR L).news Tn xD) (O2 XoL r.ts) ⟨X,by show(0+r.ts.length)*56<=_;omega⟩ ?_;intro v5 w5 q a3 ap;replace q:Xm K.heap.size 85 5 w5 v5 r.ts.length (fl D5 r.ts):=by
  have h:=q;rw[O1,ZQ,XT] at h;exact h
 have c:=p.bU m (XF _) a3;obtain⟨g,A,cur,rfl,aq,a4,ar,au,a5⟩:=q.form X;have B:cur.toList=fl D5 r.ts++cur.toList.drop (r.ts.length*5):=by
  have e:=XY (r.ts.length*5) cur.toList;rw[a5] at e;exact e.symm
 obtain⟨rest,E⟩:∃rest,rest=cur.toList.drop (r.ts.length*5):=⟨_,rfl⟩;rw[<-E] at B;have N:w5.heap[g]?=some (.cells (fl D5 r.ts++rest).toArray 85 (0,0)):=by rw[<-B];exact a4
 have O:=c.bP (i.bP (l.bP G));have P:=c.bP (i.bP j);have Q:=c.bP a0;refine aN Y (bB P Y (aU (k*5) Y (aL Y N (R4 (cells:=D5) (y:=v) Tn X) Y λw6 a6 C av=>?_)));have R:=C.heap O X;have T:=C.heap Q X;refine bF R Y λw7 f D aw=>?_;obtain⟨r',er⟩:∃r':SR,r'={r with ts:=r.ts.set k v,ta:=some ⟨g,0,none⟩,tcap:=A}:=⟨_,rfl⟩;replace f:Zo w7 rb r':=by
  rw[er];have a7:(r.ts.set k v).length=r.ts.length:=XG;unfold Zo Yc;simp only[a7];exact f
 have U:=D.heap T X;have a8:=D.heap a6 X;refine bB f Y (bF U Y λw8 V I ax=>?_);have J:=I.heap a8 X;have d:Xc Xf w w8:=(((((H.trans l).trans i).trans c).sn C).sn D).sn I;have hO:=h.putTh d (o:=k) (t:=v) (x:=x) (a:=some ⟨g,0,none⟩) (cap:=A) (P7 J Tn) (by intro b off s e;cases e;exact Xg J) (by rw[XG];omega) hx ⟨hq.1.bQ d,hq.2.bQ d.size⟩;have a9:r'.c=r.c/\r'.cp=r.cp/\∀S:Nat->Prop,(∀z,S z->z<w.heap.size)->Bp S r->Xj S v.q.pa->Bp S r':=⟨by rw[er],by rw[er],λS hS p hv=>by
  rw[er];exact {p with ta:=λb off s e F=>by cases e;have:=hS _ F;omega,tq:=λt ht=>(ZN ht).elim (p.tq t) (λe=>e▸hv)}⟩
 exact aK func140 V Y ⟨r',rfl,by rw[er];exact hO,a9,d⟩
section
variable {w:dD}{r:SR}{s:StM}{pd:Option (Nat×PlcM)}
theorem Th(hs:s.OkP c pd):s.th.length<=4096:=by
 have h:=hs.may;have ht:=hs.tl;unfold Xy at h;simp only[XI,decide_eq_true_eq,Qu] at h;omega
theorem XhR(hs:s.OkP c pd){t:ThM}(h:B3 s (o:Nat)=some t):1<=t.size/\t.size<=2097152:=by
 obtain⟨j,e,_,a⟩:=Xc4 h;have:=hs.size j t a;have:=(Zr hs.may).cH;omega
end
theorem V2{w:dD}{r:SR}{s:StM}{pd:Option (Nat×PlcM)}(h:Zf w r s)(hs:s.OkP c pd)(o:Int):Xe prog 136 #[.agg (Yc r).toArray,W o] w (Grow (W (Z9 s o)) w):=by
 have l:=h.tn;refine aR func136 ntmps136 Y (bC Y λb n e1 f a m=>?_);by_cases g:o<0
 .have e:Z9 s o=1:=by unfold Z9;rw[bK (.inl g)]
  rw[e];exact bI Y (bE func136 Y ⟨rfl,a⟩)
 .obtain⟨j,rfl⟩:=XE (show 0<=o by omega);refine aS Y (bB f Y ?_);by_cases i:j<r.ts.length
  .refine aS Y (bB f Y ?_);obtain⟨k,p,off,ea,d⟩:=(h.bQ a).trow i;rw[ea];refine aU (j*5) Y (aW Y (d 0 _ rfl) Y ?_);rw[k.1];cases ht:B3 s (j:Nat) with
   |none=>
    have e:Z9 s (j:Nat)=9:=by unfold Z9;rw[bJ X,ht]
    rw[e];exact bI Y (bE func136 Y ⟨rfl,a⟩)
   |some t=>
    have e:Z9 s (j:Nat)=0:=by unfold Z9;rw[bJ X,ht]
    have:=XhR hs ht;rw[e];exact aI Y (by show(t.size == 0)=false;simp;omega) (bE func136 Y ⟨rfl,a⟩)
  .have e:Z9 s (j:Nat)=1:=by unfold Z9;rw[bK X]
   rw[e];exact bI Y (bE func136 Y ⟨rfl,a⟩)
theorem XgK{w:dD}{r:SR}{s:StM}{pd:Option (Nat×PlcM)}(h:Zf w r s)(hs:s.OkP c pd)(o i n:Int)(hi : -9223372036854775808<=i/\i<=9223372036854775807)(hn : -9223372036854775808<=n/\n<=9223372036854775807):Xe prog 215 #[.agg (Yc r).toArray,W o,W i,W n] w (Grow (W (Qt s o i n)) w):=by
 have B:=h.tn;refine aR func215 ntmps215 Y (bC Y λb G e1 p k C=>?_);refine bB p Y (bG (V2 (h.bQ k) hs o) Y λH l=>?_);have a:=k.trans l;by_cases d:Z9 s o=0
 .obtain⟨j,t,rfl,ht⟩:=J4 d;have q:=Hk ht;have z:j<r.ts.length:=xH (XC.1 ht).1
  have I:=XhR hs q;have m:=C6 ht;rw[d];refine aS Y (bB (l.bP p) Y ?_);obtain⟨A,J,off,ea,f⟩:=(h.bQ a).trow z;have u:r.ts[j].size=t.size:=by rw[A.1,q];rfl
  rw[ea];refine aU (j*5) Y (aW Y (f 0 _ rfl) Y ?_);rw[u];by_cases g:i<0\/n<0\/t.size<n\/t.size-n<i
  .have e:Qt s (j:Nat) i n=8:=by unfold Qt;rw[bJ (λh=>h d),m,bK g]
   rw[e];refine aT Y (λv=>?_) λv=>?_
   .exact bE func215 Y ⟨rfl,a⟩
   .have D:=bM v;refine aT Y (λx=>?_) λx=>?_
    .exact bE func215 Y ⟨rfl,a⟩
    .have E:=bM x;refine aT Y (λy=>?_) λy=>?_
     .exact bE func215 Y ⟨rfl,a⟩
     .have F:=bM y;exact aV Y (bI Y (bE func215 Y ⟨rfl,a⟩))
  .have e:Qt s (j:Nat) i n=0:=by unfold Qt;rw[bJ (λh=>h d),m,bJ g]
   rw[e];exact aS Y (aS Y (aS Y (aV Y (aS Y (bE func215 Y ⟨rfl,a⟩)))))
 .have e:Qt s o i n=Z9 s o:=by unfold Qt;rw[bK d]
  rw[e];exact aM Y (xU d) (bE func215 Y ⟨rfl,a⟩)
def Kf(t:Int)(M1 M0:RmM):Prop:={M0 with tot:=Xu t M0.tot}=M1/\0<=M0.tot/\M0.tot<=10000
theorem Xa2{n:Int}(h:0<=n/\n<=4611686018427387904):Xu 0 n=n:=by unfold Xu;split <;> omega
theorem Jy(M:RmM):Kf M.tot M (Qd M):=⟨by show({M with tot:=Xu M.tot 0}:RmM)=M;rw[Oq],YN _,show(0:Int)<=10000 by decide⟩
theorem Xeq(h1:Zd M.pl<=1024){q:PlM}(h2:Zd q<=1024):Kf M.tot (Ix M k x q) (Ix (Qd M) k x q):=by
 have a:0<=Ek M.pl q/\Ek M.pl q<=10000:=by unfold Ek;omega
 have e:(Ix (Qd M) k x q).tot=Ek M.pl q:=Xa2 (n:=Ek M.pl q) X;refine⟨?_,by rw[e];exact a.1,by rw[e];exact a.2⟩;rw[e];rfl
theorem R7(h:Y1 c M):Zd M.pl<=1024:=by
 have a:=h.cU.cV.many;have b:=h.cU.cV.len;unfold Zd;omega
theorem Xba(h:Y1 c M)(k who:Int):Kf M.tot (Qe M k who) (Qe (Qd M) k who):=by
 have a:=R7 (h.take k who);unfold Qe at a⊢;have e:Zs (Qd M) k=Zs M k:=rfl;rw[e];cases b:Zs M k with
 |none=>exact Jy M
 |some x=>
  rw[b] at a;simp only at a⊢
  split
  .rename_i d
   rw[bK d] at a;exact Xeq (R7 h) a
  .exact Jy M
theorem Xa9(h:Y1 c M)(k n i:Int):Kf M.tot (Qw M k n i) (Qw (Qd M) k n i):=by
 have a:=R7 (h.give k n i);unfold Qw at a⊢;have e:Zs (Qd M) k=Zs M k:=rfl;rw[e];cases b:Zs M k with
 |none=>exact Jy M
 |some x=>
  rw[b] at a;simp only at a⊢
  split
  .rename_i d
   rw[bK d] at a;exact Xeq (R7 h) a
  .exact Jy M
theorem Tc(h:Y1 c M):Y1 c (Qd M):=⟨{h.ok with tot:=by show(0:Int)<=0/\(0:Int)<=4611686018427387904;decide},⟨h.cU.sh,h.cU.cV⟩,h.pos⟩
theorem XmG(cG bV:Int)(w:dD)(hk : -4611686018427387904<=bV/\bV<=4611686018427387904):Xe prog 144 #[W cG,W bV] w (X9 (.bool (Ht cG bV)) w):=by
 refine aR func144 ntmps144 Y (aT Y (λa=>?_) λa=>?_)
 .have e:Ht cG bV=decide (bV+1<cG):=by unfold Ht;rw[a,YM]
  rw[e];exact aV Y (bE func144 Y ⟨rfl,rfl⟩)
 .have e:Ht cG bV=false:=by unfold Ht;rw[a,QE]
  rw[e];exact bE func144 Y ⟨rfl,rfl⟩
theorem XgD(h:Zf w r s)(hs:s.Ok r.c)(k:Nat)(hk:k<s.mv.length)(ht:0<=s.rm.tot/\s.rm.tot<=1000000000000):Xe prog 86 #[.agg (Yc r).toArray,W (k:Nat)] w
 (λv w'=>∃r',v=.agg (Yc r').toArray/\Ei w r (Yj r.c s k) r' w'):=by
 have hl:=h.mn;have a2:s.mv.length<=16:=xI hs.ml (Zr hs.may).n
 have S:k<s.bV.length:=xI hs.ml hs.kl
 have bn:k<r.c.bT.length:=xH hs.ml
 have c8:k<r.bV.length:=by rw[h.ke];exact S
 have cn:0<=s.bV.getD k 0/\s.bV.getD k 0<=1024:=by
  rw[XB,XD S];exact hs.kr _ (XL S)
 have a3:=Tc hs.rm;have aj:∀who,Kf s.rm.tot (Qe s.rm k who) (Qe (Qd s.rm) k who):=λwho=>Xba hs.rm k who;refine aR func86 ntmps86 Y (bC Y λb w1 e1 hb bo co=>bC Y λqb w2 e2 a4 ar cp=>?_);have B:=ar.bP hb;have C:=bo.trans ar;have h2:=h.bQ C;obtain⟨kb,koff,eka,F⟩:=h2.kr k (by rw[h.ke];exact S);have bp:r.bV.getD k 0=s.bV.getD k 0:=by rw[h.ke]
 rw[bp] at F;cases hm:(Xx s (k:Nat)).isSome with
 |true=>
  have g:Bn s k=false:=by
   unfold Bn;cases hx:Xx s (k:Nat) with
   |none=>rw[hx] at hm;cases hm
   |some x=>rfl
  have eS:Yj r.c s k=s:=by unfold Yj;rw[g];rfl
  rw[eS];refine aQ 13 Xf xK Y λc=>aE c B Y (aG c (λw' q=>L1 (h2.bQ q) a2 (k:Nat)) Y (Xd.yes Xb c rfl hm rfl (aF c Y λw3 i=>?_)));exact bB (i.bP B) Y (bF (i.bP a4) Y λwr G H au=>aK func86 G Y ⟨r,rfl,.self h ((C.trans i).sn H)⟩)
 |false=>
  have bq:(Xx s (k:Nat)).isNone=true:=by
   cases hx:Xx s (k:Nat) with
   |none=>rfl
   |some x=>rw[hx] at hm;cases hm
  refine aQ 13 Xf xK Y λc=>aE c B Y (aG c (λw' q=>L1 (h2.bQ q) a2 (k:Nat)) Y (Xd.no Xb c rfl hm rfl (aE c B Y (aG c (λw' q=>V1 r.rr (Qd s.rm) (k:Nat) w' (h2.rr.bQ q)) Y (aE c B Y ?_)))));rw[eka];refine aB k c Y (aD c F Y (aF c Y λw3 i=>?_));have a5:=i.bP B;have a6:=i.bP a4;have N:=C.trans i;have eo:Qm (Qd s.rm) (k:Nat)=Qm s.rm (k:Nat):=rfl;rw[eo];refine bH (XmG (Qm s.rm (k:Nat):Nat) (s.bV.getD k 0) w3 X) Y ?_;cases hd:Ht (Qm s.rm (k:Nat):Nat) (s.bV.getD k 0) with
  |false=>
   have g:Bn s k=false:=by unfold Bn;rw[hd,YD,QE]
   have eS:Yj r.c s k=s:=by unfold Yj;rw[g];rfl
   rw[eS];refine bI Y ?_;exact bB a5 Y (bF a6 Y λwr G H au=>aK func86 G Y ⟨r,rfl,.self h (N.sn H)⟩)
  |true=>
   refine aS Y (bB a5 Y ?_);have av:=XmU r.rr (Qd s.rm) (k:Nat) w3 (h.bQ N).rr a3.cU;obtain⟨⟨pf,fa,pt,ta⟩,ePl⟩:∃p,p=Yu s.rm (k:Nat):=⟨_,rfl⟩;have b9:Nt (Qd s.rm) (k:Nat)=K1 pf fa pt ta:=by rw[XgY,show Yu (Qd s.rm) (k:Nat)=Yu s.rm (k:Nat) from rfl,<-ePl]
   have ePb:Iw (Qd s.rm) (k:Nat)=Iw s.rm (k:Nat):=rfl;rw[b9,ePb] at av;refine bG av Y λw4 aw=>bC Y λxb w5 e5 ba bs cq=>bF ba Y λw6 O bt cr=>?_;have z3:=i.size;have z4:=aw.size;have u:=(aw.trans bs).sn bt;have J:=u.bP a5;have a7:=u.bP a6;have y:=N.trans u;cases hp:Iw s.rm (k:Nat) with
   |false=>
    have g:Bn s k=false:=by unfold Bn;rw[hp,YD]
    have eS:Yj r.c s k=s:=by unfold Yj;rw[g];rfl
    rw[eS];refine bI Y ?_;exact bB J Y (bF a7 Y λwr G H au=>aK func86 G Y ⟨r,rfl,.self h (y.sn H)⟩)
   |true=>
    have g:Bn s k=true:=by unfold Bn;rw[bq,hd,hp];rfl
    refine aS Y ?_;obtain⟨P,_,c7,⟨o,t,K,cs,ax⟩,hf,ay⟩:=XaP hs g;have P2:=P.n (o:Int) X;have P3:=P.a (o:Int) X;rw[<-ePl] at P2 P3 K ax hf ay;simp only at P2 P3 K ax hf ay
    have T:=StM.OkP.begin hs k;have eB:Yj r.c s k={s with rm:=Qe s.rm (k:Nat) (o:Nat),mv:=s.mv.set k (some (Kz r.c s.rm k))}:=by unfold Yj;rw[bK g,<-ePl];simp only;rw[K]
    rw[eB] at T⊢;obtain⟨m,em⟩:∃m,m=Kz r.c s.rm k:=⟨_,rfl⟩;rw[<-em] at T⊢;obtain⟨_,_,_,mf,mt,ms,_⟩:=T.mv k m (by show(s.mv.set k _)[k]?=_;rw[XH hk]);have bx:m.who=o/\m.pf=pf/\m.fa=fa/\m.pt=pt/\m.ta=ta/\m.cE=0:=by rw[em];unfold Kz;rw[<-ePl];exact⟨K,rfl,rfl,rfl,rfl,rfl⟩
    obtain⟨bz,az,b0,b1,b2,c0⟩:=bx;rw[az,b0] at mf;rw[b1,b2] at mt;have h6:=h.bQ y;refine bB J Y (bB O Y (bB O Y ?_));have b3:=XmS r.rr (Qd s.rm) (k:Nat) pf fa w6 h6.rr a3.cU;rw[show Zi (Qd s.rm) (k:Nat) pf fa=(o:Int) from K] at b3;refine bG b3 Y λw7 L=>?_;refine bB (L.bP J) Y (aP Y (Xgx r.rr (Qd s.rm) (k:Nat) (o:Nat) w7 (h6.bQ L).rr a3.cU ⟨YN _,show(0:Int)<=4611686018427000000 by decide⟩) ?_);rintro _ w8 ⟨ct,rfl,bb,c2,c3⟩;refine aN Y (bC Y λab w9 e9 bc c4 cu=>bF bc Y λcv al bd ce=>?_);have be:=L.trans c3;have a8:=c4.sn bd;have D:=be.trans a8;have hT:=aj (o:Nat);refine bB (D.bP J) Y (bB al Y (aP Y (S7 (h.bQ (y.trans D)) (bb.bQ a8) c2 ⟨hT.2.1,ht.1,xH hT.2.2⟩) ?_));rintro _ cw ⟨A,rfl,cf,a9,bg,aa⟩;refine aN Y (bC Y λtb cx cy am ac cg=>bF am Y λc5 an ad ch=>?_);rw[hT.1] at a9;have cz:=aa.size;have f:=D.trans ((aa.trans ac).sn ad);have U:=y.trans f;have Q:=f.bP J;have l:=f.bP O;have ae:=h.bQ U;refine bB Q Y (bB l Y (bB l Y (aO Y ?_)));have M:=Xck r.c r.cp ⟨(k:Nat),pf,fa,none,0,[]⟩ c5 ae.cO (J6 _ _ _) hs.may;rw[show Aj r.c ⟨(k:Nat),pf,fa,none,0,[]⟩=(m.f:Int) from mf.symm] at M;refine bG M Y λc6 E=>?_;have V:=E.bP l;refine bB (E.bP Q) Y (bB V Y (bB V Y (aO Y ?_)));have M:=Xck r.c r.cp ⟨(k:Nat),pt,ta,none,0,[]⟩ c6 (ae.bQ E).cO (J6 _ _ _) hs.may;rw[show Aj r.c ⟨(k:Nat),pt,ta,none,0,[]⟩=(m.t:Int) from mt.symm] at M;refine bG M Y λd0 bh=>?_;have a:=E.trans bh;have a0:=a.bP an;have R:=(a9.bQ (ac.sn ad)).bQ a;obtain⟨cb,coff,eca,b4⟩:=((ae.bQ a).cO).bT k bn;have esz:r.c.bT.getD k 0=(m.size:Int):=by rw[ms];unfold Zn;rw[XA]
    rw[esz] at b4;have d1:A.ra.bs.length=s.bs.length:=by rw[R.rb]
    have bi:Pi A.ra.bs.length m.f m.t m.size=true:=Vf.2 (by obtain⟨l1,l2,l3,l4⟩:=(Ky T (k:=k) (m:=m) (by show(s.mv.set k _)[k]?=_;rw[XH hk]));simp only at l1 l2;omega);refine aQ 16 Xf xK Y λc=>aE c a0 Y (aE c (a.bP Q) Y ?_);rw[eca];refine Xd.index Xb c rfl (j:=k) X X (by first|rfl|omega|(simp;done)|(simp;omega)) rfl ?_;refine Xd.load Xb c rfl b4 (by first|exact λh=>h|(intro h;omega)|assumption) rfl ?_;refine Xd.call Xb c rfl (λw' q=>XmH A.ra m.f m.t m.size w' ((R.ra).bQ q) bi) rfl ?_;refine Xd.cK c rfl λd2 af=>Xo.alloc Xb c rfl (λ_=>rfl) λyb d3 d4 ao bj ck=>?_;have d5:=af.size;refine Xd.cK c rfl λd6 ag=>Xo.store Xb c rfl (ag.bP ao) (by first|(intro h;exact rfl)|(intro h;omega)) rfl rfl rfl λd7 ap bk cl=>aF c Y λd8 ah=>?_;have d:=(((af.trans bj).trans ag).sn bk).trans ah;have bm:Me (some m) ⟨true,(o:Nat),pf,fa,pt,ta,A.ra.a,A.ra.bs.length,A.ra.cap,A.ra.cM,m.f,m.t,m.size,0⟩:=⟨rfl,λm' e=>by cases e;exact⟨bz.symm,az.symm,b0.symm,b1.symm,b2.symm,rfl,rfl,rfl,by rw[c0];rfl⟩⟩;refine bB (d.bP a0) Y (bB (d.bP (a.bP l)) Y (bB (ah.bP ap) Y (aO Y (aP Y ((S0 (R.bQ d) a2 k hk _ (some m) bm)) ?_))));rintro _ d9 ⟨b5,rfl,_,n⟩;have da:=(y.trans L).size;refine aN Y (bF (n.2.2.bP (d.bP (a.bP (f.bP a7)))) Y λdb aq ai cm=>?_);have a1:=(((U.trans a).trans d).trans n.2.2).sn ai;have b6:Zz w2 r b5:=(bg.dC (xH (u.trans L).size)).trans n.2.1 (xH ((u.trans f).trans (a.trans d)).size);exact aK func86 aq Y ⟨b5,rfl,(h.box b6 n.1 X (xH (Xg a4)) ai a1),b6.dC C.size,a1⟩
theorem Xcp(h:Zf w r s)(hs:s.Ok r.c){m:MvM}(hm:s.mv[k]?=some (some m))(n:Int)(ht:0<=s.rm.tot/\s.rm.tot<=1000000000000):Xe prog 88 #[.agg (Yc r).toArray,W (k:Nat),W n] w
 (λv w'=>∃r',v=.tuple #[.agg (Yc r').toArray,W (Zm m n:Nat)]/\Ei w r (Yg s k n) r' w'):=by
 have hl:=h.mn;have bu:s.mv.length<=16:=xI hs.ml (Zr hs.may).n
 have hk:=(XC.1 hm).1;have bv:k<r.ms.length:=X
 obtain⟨⟨o,t,ew,et,eq⟩,ea,en,_,_,_,f5⟩:=hs.mv k m hm;have f7:Zm m n<=m.size-m.cE:=Uq m n;obtain⟨l1,l2,l3,_⟩:=Ky hs hm;obtain⟨sa,sl,sc,sst,ev⟩:∃sa sl sc sst,r.ms[k]=⟨true,m.who,m.pf,m.fa,m.pt,m.ta,sa,sl,sc,sst,m.f,m.t,m.size,m.cE⟩:=by
  obtain⟨⟨a1,a2⟩,_⟩:=h.mrow bv;obtain⟨b1,b2,b3,b4,b5,b6,b7,b8,b9⟩:=a2 m (Dy hm);rw[Dy hm] at a1;generalize r.ms[k]=v at *
  obtain⟨i1,i2,i3,i4,i5,i6,i7,i8,i9,de,f8,f9,fa,fb⟩:=v;simp only at a1 b1 b2 b3 b4 b5 b6 b7 b8 b9
  subst b1;subst b2;subst b3;subst b4;subst b5;subst b6;subst b7;subst b8;subst b9;exact⟨i7,i8,i9,de,by rw[a1];rfl⟩
 refine aR func88 ntmps88 Y (bC Y λb w1 e1 hb df fc=>bC Y λqb w2 e2 bw bx fd=>?_);replace hb:Zo w1 b r:=hb;have aj:=bx.bP hb;have a3:=df.trans bx;have z2:=a3.size;obtain⟨_,a0,off,ema,a8⟩:=(h.bQ a3).mrow bv;rw[ev] at a8;refine bB aj Y ?_;rw[ema];refine aU (k*12) Y (Xa.loadC Xb (Cy ⟨true,m.who,m.pf,m.fa,m.pt,m.ta,sa,sl,sc,sst,m.f,m.t,m.size,m.cE⟩) rfl xT (a8) rfl (bC Y λxb w3 e3 dh di fe=>bF dh Y λw4 ca dj ff=>?_));have ak:Xc Xf w2 w4:=di.sn dj;have dk:=ak.bP aj;refine bB dk Y (bF ca Y λw5 al dl fg=>?_);have H:Xc Xf w2 w5:=ak.sn dl;have a4:=a3.trans H;have dm:=H.bP aj;have cb:=H.bP bw;have h5:=h.bQ a4;have hM:Lg w5 ⟨r.ra,m.f,m.t,m.size,m.cE⟩:=⟨h5.ra,l3,by show m.cE<=m.size;omega,by rw[h.rb];exact l1,by rw[h.rb];exact l2⟩;refine bB al Y (aP Y (XmI ⟨r.ra,m.f,m.t,m.size,m.cE⟩ n w5 hM ⟨by show 0<=r.ra.cM;rw[h.rs];exact ht.1,by show r.ra.cM<=_;rw[h.rs];exact ht.2⟩) ?_);rintro _ w6 ⟨⟨a,f6,t6,fh,g6⟩,rfl,x1,x2,x3,x4,x5,x6,u,M,an⟩;refine aN Y ?_;simp only at x1 x2 x3 x4 x5 x6 u an
 subst x3;subst x4;subst x5;subst x6;have ce:=a4.trans M;have z5:=a4.size;have bz:=H.size;have z6:=M.size;have eg:Dh n (m.size-m.cE)=Zm m n:=rfl;rw[eg] at x1 x2;rw[h.rb] at x1;have ds:0<a.bs.length:=by
  rw[x1,XcM (size:=m.size) X l1 l2];omega
 have cf:Yw w6 a.a:=λb' off' s' e=>u.rd.block ds e;refine bC Y λyb w7 e7 cg dt fi=>bF cg Y λw8 ao du fj=>?_;have D:Xc Xf w6 w8:=dt.sn du;have lq:=Xg bw;have dv:=(M.trans D).bP dm;have ch:=(M.trans D).bP al;have ci:=(M.trans D).bP cb;refine bB ao Y (bF dv Y λw9 ap N fk=>?_);obtain⟨O,p⟩:∃O:SR,O={r with ra:=a}:=⟨_,rfl⟩;replace ap:Zo w9 b O:=by rw[p];exact ap
 have aq:=N.heap ao X;have cj:=N.heap ch X;refine bB aq Y (bF cj Y λP A E ey=>?_);obtain⟨v,ev'⟩:∃v:VR,v=⟨true,m.who,m.pf,m.fa,m.pt,m.ta,a.a,a.bs.length,a.cap,a.cM,m.f,m.t,m.size,(m.cE+Zm m n:Nat)⟩:=⟨_,rfl⟩;replace A:P.heap[xb]?=some (.cells (Cy v).toArray 142 (0,0)):=by rw[ev'];exact A
 have a9:=E.heap aq X;have a5:=E.heap ap X;have aa:=E.heap (N.heap ci X) X;have I:Xc Xf w P:=(((ce.trans D).sn N).sn E);have ac:Xc (λz=>z=b\/z=xb) w6 P:=(D.gr.trans (N.mono λ_ _ e=>.inl e)).trans (E.mono λ_ _ e=>.inr e);have be:Xj (λz=>z=b\/z=xb) a.a:=λb' off' s' e l=>by
  rcases an with⟨g,eg',ck⟩|eg'
  .rw[eg'] at e;cases e;omega
  .have:=h.la b' off' s' (eg'▸e);omega
 have bf:Yp P a:=⟨u.rd.bW be ac,u.len,u.lc,u.rng⟩;have ez:s.bs.length<=4194304:=by rw[<-h.rb];exact h.ra.len
 have cl:a.cM=Xu s.rm.tot (Zm m n:Nat):=by
  rw[x2,h.rs,Cs X]
 have ar:Zf P O (Q3 s m n):=p▸h.putRa I bf x1 cl (cf.bQ ac.size);have au:∀{w0:dD},w0.heap.size<=w5.heap.size->Zz w0 r O:=λl=>⟨by rw[p],by rw[p],λS hS ho=>by
  have dx:Xj S a.a:=λb' off' s' e c0=>by
   rcases an with⟨g,eg',ck⟩|eg'
   .rw[eg'] at e;cases e;have:=hS _ c0;omega
   .exact ho.ra b' off' s' (eg'▸e) c0
  rw[p];exact {ho with ra:=dx}⟩
 refine bB a9 Y (bB a9 Y ?_);by_cases c1:m.cE+Zm m n<m.size
 .have eG:Yg s k n={Q3 s m n with mv:=s.mv.set k (some {m with cE:=m.cE+Zm m n})}:=by unfold Yg;rw[Dy hm];simp only;rw[bK c1]
  rw[eG];have cm:Me (some {m with cE:=m.cE+Zm m n}) v:=by rw[ev'];exact⟨rfl,λm' e=>by cases e;exact⟨rfl,rfl,rfl,rfl,rfl,rfl,rfl,rfl,rfl⟩⟩
  refine aM Y (bN (show((m.cE+Zm m n:Nat):Int)<((m.size:Nat):Int) by omega)) (bB a5 Y (bB A Y (aP Y (S0 ar bu k hk v (some {m with cE:=m.cE+Zm m n}) cm) ?_)));rintro _ c2 ⟨F,rfl,_,i⟩;refine aN Y (bF (i.2.2.bP aa) Y λc3 bg av cn=>?_);have ad:Xc Xf w c3:=(I.trans i.2.2).sn av;have Q:Zz w2 r F:=(au bz).trans i.2.1 X;exact aK func88 bg Y ⟨F,rfl,h.box Q i.1 X X av ad,Q.dC z2,ad⟩
 .have eG:Yg s k n={Q3 s m n with mv:=s.mv.set k none,th:=s.th.set m.who.toNat (some ⟨Q2 s m.who,⟨k,m.pt,m.ta,[]⟩⟩),rm:=Qw (Q3 s m n).rm k m.pf m.fa}:=by unfold Yg;rw[Dy hm];simp only;rw[bJ c1]
  have dy:m.who.toNat=o:=X
  have dz:Q2 s m.who=t.size:=by unfold Q2;rw[ew,Hk et]
  rw[eG,dy,dz];have e0:o<s.th.length:=(XC.1 et).1;have aw:o<r.ts.length:=xH h.tn
  refine aI Y (bO (show ¬((m.cE+Zm m n:Nat):Int)<((m.size:Nat):Int) by omega)) (bB a5 Y (aO Y (aP Y (S0 ar bu k hk Lc none ⟨rfl,λ_ e=>by cases e⟩) ?_)));rintro _ c2 ⟨F,rfl,_,i⟩;refine aN Y ?_;have fm:=i.2.2.size;refine bC Y λtb c3 fn bh co cn=>bF bh Y λax B cp f0=>?_;replace B:Zo ax tb F:=B;have R:Xc Xf c2 ax:=co.sn cp;have c:=i.2.2.trans R;have cq:=c.bP a5;have f:=c.bP A;have bi:=c.bP aa;have e4:=i.1.bQ R;have e5:=ar.bQ c;have T:Zz w2 r F:=(au bz).trans i.2.1 X;obtain⟨cr,fo,toff,eta,ay⟩:=(e5.trow (by rw[p];exact aw):Rf (B3 (Q3 s m n) (o:Nat)) (O.ts[o]'(by rw[p];exact aw))/\_);have e6:(O.ts[o]'(by rw[p];exact aw)).size=t.size:=by
   rw[cr.1,show B3 (Q3 s m n) (o:Nat)=B3 s (o:Nat) from rfl,Hk et];rfl
  rw[ev'] at f;refine aQ 19 Xf xK Y λG=>aE G B Y (aE G f Y (aE G cq Y (aE G f Y ?_)));rw[eta,ew];refine Xd.index Xb G rfl (j:=o*5) (show(0:Int)<=(o:Int) by omega) (show(o:Int)<(O.ts.length:Nat) by rw[p];show(o:Int)<(r.ts.length:Nat);omega) xS rfl (aD G (ay 0 _ rfl) Y ?_);rw[e6];refine aE G f Y (aE G f Y (Xd.build Xb G rfl rfl (Xd.build Xb G rfl rfl (aF G Y λfp d=>?_))));have bj:=d.bP f;have bk:=d.bP bi;have bm:=d.bP B;have e8:=e4.bQ d;have e9:=V3 e8 (show s.th.length<=4096 from Th hs) o e0 ⟨t.size,⟨(k:Nat),m.pt,m.ta,none,0,[]⟩⟩ (some ⟨t.size,⟨(k:Nat),m.pt,m.ta,[]⟩⟩) ⟨rfl,λy e=>by cases e;rfl⟩ ⟨J6 _ _ _,λ_ _ _ e=>by cases e⟩;refine aP Y (e9) ?_;rintro _ eb ⟨U,rfl,ec,⟨a6,a7,az⟩,x⟩;have eh:=(d.trans x).size;refine aN Y (bF (x.bP bm) Y λb0 C J f1=>?_);replace C:Zo b0 tb U:=C;have ae:=J.heap (x.bP bj) X;have bn:=J.heap (x.bP bk) X;have fq:=d.size;have ed:Zz w2 r U:=⟨a6.trans T.1,a7.trans T.2.1,λS hS ho=>az S (λz l=>xH (hS z l)) (T.2.2 S hS ho) (λ_ _ _ e=>by cases e)⟩;have cs:Zz ax F U:=⟨a6,a7,λS hS ho=>az S (λz l=>xI (hS z l) d.size) ho (λ_ _ _ e=>by cases e)⟩;have ct:Bp (λz=>z=tb) F:=i.1.out (λz e=>X);have cu:Bp (λz=>z=tb) U:=cs.2.2 _ (λz e=>X) ct;have bo:Xc Xf w eb:=((I.trans c).trans d).trans x;have K:Xc Xf w b0:=bo.sn J;have c4:=ec.bW cu (by have:=h.cO.bR K;rw[a6.trans T.1,a7.trans T.2.1];exact this) J;have c5:Y1 r.c (Q3 s m n).rm:=(StM.OkP.step hs hm n).rm;have hG:=Xa9 c5 (k:Nat) m.pf m.fa;refine bB C Y (bB ae Y (bB ae Y (aP Y (Xgw U.rr (Qd (Q3 s m n).rm) (k:Nat) m.pf m.fa b0 c4.rr (Tc c5).cU ⟨YN _,show(0:Int)<=4611686018427000000 by decide⟩) ?_)));rintro _ ee ⟨cw,rfl,bp,cx,cy⟩;refine aN Y (bC Y λab fr fs bq cz f2=>bF bq Y λc6 L d0 f3=>?_);replace L:Yv c6 ab cw:=L;have V:Xc Xf ee c6:=cz.sn d0;have q:=cy.trans V;refine bB (q.bP C) Y (bB L Y ?_);have br:0<=(Q3 s m n).rm.tot/\(Q3 s m n).rm.tot<=1000004194304:=by
   show 0<=Xu s.rm.tot (Zm m n:Nat)/\Xu s.rm.tot (Zm m n:Nat)<=_
   rw[Cs X];omega
  refine aP Y (S7 (c4.bQ q) (bp.bQ V) cx ⟨hG.2.1,br.1,by have:=hG.2.2;show(Q3 s m n).rm.tot+_<=_;omega⟩) ?_;rintro _ ft ⟨c7,rfl,_,ba,d1,bb⟩;refine aN Y ?_;rw[hG.1] at ba;have bs:=bb.bP (q.bP bn);have fu:=K.size;refine bF bs Y λef bt bc f4=>?_;have af:Xc Xf w ef:=((K.trans q).trans bb).sn bc;have Q:Zz w2 r c7:=ed.trans d1 (xH x.size);exact aK func88 bt Y ⟨c7,rfl,h.box Q ba X X bc af,Q.dC z2,af⟩
theorem Xaf(hs:s.Ok c)(k:Nat)(ht:0<=s.rm.tot/\s.rm.tot<=1000000000000):0<=(Yj c s k).rm.tot/\(Yj c s k).rm.tot<=s.rm.tot+10000:=by
 unfold Yj;split
 .have:=Xba hs.rm (k:Nat) (Zi s.rm k (Yu s.rm k).1 (Yu s.rm k).2.1);show 0<=(Qe s.rm k _).tot/\(Qe s.rm k _).tot<=_
  rw[<-this.1];show 0<=Xu s.rm.tot _/\Xu s.rm.tot _<=_
  rw[Cs (by have:=this.2;omega)];have:=this.2;omega
 .omega
theorem XeX(m:MvM)(n:Int):Zm m n<=m.size:=xH (Uq m n)
theorem Xlj(hs:s.OkP c pd){m:MvM}(hm:s.mv[k]?=some (some m)):m.size<=4096:=by
 have a:=(hs.mv k m hm).2.2.2.2.2.1;have b:=(XC.1 hm).1;have d:=(Ou (by have:=hs.may;unfold Xy at this;simp only[XI] at this;exact this.1.1.1.1.1.2) k (xH hs.ml)).2.2;have:=(Zr hs.may).size;unfold Zn at a;rw[XA] at a;omega
theorem Xc8(hs:s.Ok c)(k:Nat)(n:Int)(ht:0<=s.rm.tot/\s.rm.tot<=1000000000000):0<=(Yg s k n).rm.tot/\(Yg s k n).rm.tot<=s.rm.tot+20000:=by
 unfold Yg;cases hm:Xx s (k:Nat) with
 |none=>simp only;omega
 |some m=>
  obtain⟨j,ej,_,a⟩:=Ao hm;obtain rfl:k=j:=X
  have d:=Xlj hs a;have f:=XeX m n;have g:(Q3 s m n).rm.tot=s.rm.tot+Zm m n:=by
   show Xu s.rm.tot (Zm m n:Nat)=_
   rw[Cs X]
  have b:=Xa9 (StM.OkP.step hs a n).rm (k:Nat) m.pf m.fa;simp only
  split
  .show 0<=(Q3 s m n).rm.tot/\(Q3 s m n).rm.tot<=_
   omega
  .show 0<=(Qw (Q3 s m n).rm k m.pf m.fa).tot/\(Qw (Q3 s m n).rm k m.pf m.fa).tot<=_
   rw[<-b.1];show 0<=Xu (Q3 s m n).rm.tot _/\Xu (Q3 s m n).rm.tot _<=_
   rw[Cs (xH b.2)];have:=b.2;omega
theorem XhA{x:SR}(h:Zf w r s)(h2:Zf w2 x s')(hk:Zz w' r x):∀b,w.heap.size<=b->(b<w'.heap.size\/w2.heap.size<=b)->Bp (λz=>z=b) x:=λb c a=>by
 rcases a with hb'|hb'
 .exact hk.2.2 _ (λz e=>X) (h.out λz e=>X)
 .exact h2.out λz e=>X
abbrev srF(g:Int)(x:SR):dE:=.tuple #[.agg (Yc x).toArray,.int .i64 g]
abbrev Rb(w:dD)(r:SR)(s':StM)(x:SR)(w2:dD):Prop:=Zf w2 x s'/\Zz w r x/\Xc Xf w w2
abbrev W6(x:SR)(b:Nat):Prop:=Bp (λz=>z=b) x
theorem Xhz:∀x w2 w3,Rb w r s' x w2->Xc Xf w2 w3->Rb w r s' x w3:=λ_ _ _ ⟨a,b,c⟩ d=>⟨a.bQ d,b,c.trans d⟩
theorem XgE(h:Zf w r s)(hs:s.Ok r.c)(κ:Int)(ht:0<=s.rm.tot/\s.rm.tot<=1000000000000):Xe prog 138 #[.agg (Yc r).toArray,W κ] w (λv w'=>∃r',v=.agg (Yc r').toArray/\Ei w r (X8 s κ) r' w'):=by
 have hl:=h.mn;have K:s.mv.length<=16:=xI hs.ml (Zr hs.may).n
 refine aR func138 ntmps138 Y (bC Y λb w1 e1 V L ab=>bC Y λqb g e2 A B ac=>?_);have C:=B.bP V;have d:=L.trans B;refine bB C Y (bG (L1 (h.bQ d) K κ) Y λu f=>?_);have i:=f.bP C;have j:=f.bP A;have a:=d.trans f;cases hm:Xx s κ with
 |none=>
  have e:X8 s κ=s:=by unfold X8;rw[hm]
  rw[e];refine bI Y ?_;exact bB i Y (bF j Y λwr M N ad=>aK func138 M Y ⟨r,rfl,.self h (a.sn N)⟩)
 |some m=>
  obtain⟨k,rfl,hk,P⟩:=Ao hm;have e:X8 s (k:Nat)=Yg s k ((m.size:Nat):Int):=by
   unfold X8;rw[hm];simp only[XA]
  rw[e];have G:=h.bQ a;obtain⟨hv,a0,off,ema,y⟩:=G.mrow (show k<r.ms.length by omega);obtain⟨_,_,_,_,_,_,_,v8,_⟩:=hv.2 m hm;refine aS Y (aQ 15 Xf xK Y λc=>aE c i Y (aE c i Y ?_));rw[ema];refine aB (k*12) c Y (aD c (y 10 _ rfl) Y ?_);rw[v8,<-ema];have hd:∀w',Xc Xf u w'->Xe prog 88 #[.agg (Yc r).toArray,W (k:Nat),W (m.size:Nat)] w' (λv g=>Xc Xf w' g/\∃x,v=srF (Zm m (m.size:Nat):Nat) x/\Rb u r (Yg s k (m.size:Nat)) x g/\∀b,u.heap.size<=b->(b<w'.heap.size\/g.heap.size<=b)->W6 x b):=λw' l=>
   (Xcp (G.bQ l) hs P (m.size:Nat) ht).mono λv g ⟨x,a1,Q,R,S⟩=>⟨S,x,a1,⟨Q,R.dC l.size,l.trans S⟩,XhA G Q R⟩
  refine Xd.callAllocG (srF (Zm m (m.size:Nat):Nat)) (Rb u r (Yg s k (m.size:Nat))) (W6) Xb c rfl rfl rfl (λ_=>rfl) rfl (λ_=>rfl) (λ_=>rfl) rfl rfl (λ_ _=>rfl) rfl (λ_ _=>rfl) (hd) (Xhz) ((λ_ h=>h.elim)) ?_;rintro nb x w4 ae T U ⟨q1,H,q3⟩ hG;refine Xd.cK c rfl λw5 n=>Xo.store Xb c rfl (n.bP T) (by first|(intro h;exact rfl)|(intro h;omega)) rfl rfl rfl λw6 I D af=>aF c Y λw7 o=>?_;have z3:=a.size;have p:=(U.trans n).sn D;have q:=p.trans o;refine bB (o.bP I) Y (bF (q.bP j) Y λw8 J E ag=>?_);have lq:=Xg A;have t:=(a.trans q).sn E;have F:=H.dC f.size;exact aK func138 J Y ⟨x,rfl,h.box F (((q1.bQ n).bW hG (by have:=h.cO.bR (a.trans p);rw[H.1,H.2.1];exact this) D).bQ o) X X E t,F.dC d.size,t⟩
theorem XkM(h:Y1 c M){r:List Nat}(hm:(n,r)∈M.lg):r.length<=1024:=by
 have a:=Xbx hm;have b:=h.ok.sum;have d:=R7 h;simp only at a
 omega
theorem Xeo(h:Y1 c M)(q:PlcM):Kf M.tot (Yo M q) (Yo (Qd M) q):=by
 unfold Yo;split
 .exact Xa9 h _ _ _
 .show Kf M.tot (match Dd M.lg q.cR with|none=>M|some r=>if X3 r=q.bS then Iv M q.cR.toNat r else M) (match Dd M.lg q.cR with|none=>Qd M|some r=>if X3 r=q.bS then Iv (Qd M) q.cR.toNat r else Qd M)
  cases b:Dd M.lg q.cR with
  |none=>exact Jy M
  |some r=>
   simp only
   split
   .obtain⟨k,_,a⟩:=Pc b;have d:=XkM h a;have e:(Iv (Qd M) q.cR.toNat r).tot=(r.length+1:Int)*4+r.length:=Xa2 (n:=(r.length+1:Int)*4+r.length) X;refine⟨?_,by rw[e];omega,by rw[e];omega⟩;rw[e];rfl
   .exact Jy M
theorem XgI(h:Zf w r s)(q:Plc)(hs:s.OkP r.c (some (o,Xz q)))(hq:Zw w q)(ht:0<=s.rm.tot/\s.rm.tot<=999999900000):Xe prog 139 #[.agg (Yc r).toArray,.agg (Xw q).toArray] w (λv w'=>∃r',v=.agg (Yc r').toArray/\Ei w r (Ax r.c s (Xz q)) r' w'):=by
 have bb:s.mv.length<=16:=xI hs.ml (Zr hs.may).n
 have hd:=hs.dropped;have P:=Xeo hs.rm (Xz q);have ah:=Tc hs.rm;refine aR func139 ntmps139 Y (bC Y λb w1 e1 hb bc ca=>bC Y λpb w2 e2 bd ai cb=>bC Y λqb w3 e3 aj R cc=>?_);have E:=(ai.trans R).bP hb;have y:=R.bP bd;have i:=(bc.trans ai).trans R;have h3:=h.bQ i;refine bB E Y (bB y Y (aP Y (XmP r.rr (Qd s.rm) q w3 h3.rr ah.cU (by rw[h.rc];exact ah.ok) ⟨YN _,show(0:Int)<=4611686018427000000 by decide⟩ (hq.bQ i)) ?_));rintro _ w4 ⟨cd,rfl,ax,be,ak⟩;refine aN Y (bC Y λab w5 e5 ay bf ce=>bF ay Y λw6 az bg cf=>?_);have z3:=i.size;have z4:=ak.size;have T:=bf.sn bg;have A:=ak.trans T;have b1:=i.trans A;refine bB (A.bP E) Y (bB az Y (aP Y (S7 (h.bQ b1) (ax.bQ T) be ⟨P.2.1,ht.1,xH P.2.2⟩) ?_));rintro _ w7 ⟨r7,rfl,_,h7,F,al⟩;refine aN Y ?_;rw[P.1] at h7;have z7:=al.size;refine bC Y λtb w8 e8 b3 bh cg=>bF b3 Y λw9 B bi ch=>?_;have U:=bh.sn bi;have p:=(A.trans al).trans U;have V:=i.trans p;have h9:=h7.bQ U;have bk:=p.bP E;have C:=p.bP y;have a0:=p.bP aj;have a1:=F;have lq:=Xg aj;have u:0<=(Yo s.rm (Xz q)).tot/\(Yo s.rm (Xz q)).tot<=999999910000:=by
  rw[<-P.1];show 0<=Xu s.rm.tot _/\Xu s.rm.tot _<=_
  rw[Cs (xH P.2)];have:=P.2;omega
 refine bB C Y ?_;by_cases am:q.cL<0
 .have e:Ax r.c s (Xz q)={s with rm:=Yo s.rm (Xz q)}:=by unfold Ax;rw[bK (show(Xz q).cL<0 from am)]
  rw[e];refine bI Y (bB B Y (bF a0 Y λbm a9 a2 c0=>?_));have G:=V.sn a2;exact aK func139 a9 Y ⟨r7,rfl,h.box a1 h9 X X a2 G,a1.dC z3,G⟩
 .obtain⟨_,p2,_,_⟩:=hs.ps o (Xz q) rfl (show q.cL≠-1 by omega);obtain⟨_,k0,k1⟩:=Pm hs (k:=(Xz q).cL) (n:=(Xz q).cR) (a:=(Xz q).idx) (by rw[p2];omega);obtain⟨k,hk⟩:=XE (show 0<=q.cL from k0);replace k1:q.cL<r.c.bT.length:=k1;have bo:k<s.mv.length:=xH hs.ml
  have e:Ax r.c s (Xz q)=Yg (Yj r.c {s with rm:=Yo s.rm (Xz q)} k) k r.c.step:=by
   unfold Ax;rw[bJ (show ¬(Xz q).cL<0 from am),show(Xz q).cL.toNat=k by show q.cL.toNat=k;omega]
  rw[e];refine aS Y (bB B Y (bB C Y ?_));rw[hk];have a3:=F.1;have an:=XgD h9 (by rw[a3];exact hd) k bo ⟨u.1,by have:=u.2;show(Yo s.rm (Xz q)).tot<=_;omega⟩;rw[a3] at an;refine aP Y (an) ?_;rintro _ bm ⟨x,rfl,bp,j,f⟩;have c3:=f.size;refine aN Y (bF (f.bP B) Y λao g l c4=>?_);replace g:Zo ao tb x:=g;have H:Xc Xf w ao:=(V.trans f).sn l;have bq:∀{w':dD},Xc Xf w w'->Yd w' x.c x.cp:=λhc=>by have:=h.cO.bR hc;rw[j.1,j.2.1,F.1,F.2.1];exact this
  have ap:=bp.bW (j.2.2 _ (λz e=>X) (h7.out (S:=λz=>z=tb) (λz e=>X))) (bq H) l;have b5:=l.heap (f.bP bk) (xH (Xg E));have I:=l.heap (f.bP C) (xH (Xg y));have aa:=l.heap (f.bP a0) X;have a4:Zz w3 r x:=a1.trans j X;have br:=StM.OkP.begin hd k;have b6:(Yj r.c {s with rm:=Yo s.rm (Xz q)} k).mv.length<=16:=by rw[(Ol r.c _ k).2.2.2];exact bb
  have J:=Xaf hd k ⟨u.1,by have:=u.2;show(Yo s.rm (Xz q)).tot<=_;omega⟩;replace J:0<=(Yj r.c {s with rm:=Yo s.rm (Xz q)} k).rm.tot/\(Yj r.c {s with rm:=Yo s.rm (Xz q)} k).rm.tot<=(Yo s.rm (Xz q)).tot+10000:=J;refine Xa.loads Xb rfl g rfl rfl ?_;refine Xa.cJ Xb rfl I rfl rfl ?_;rw[hk];refine aP rfl (L1 ap b6 (k:Nat)) ?_;rintro _ ci ⟨rfl,c⟩;refine aN rfl ?_;have aq:=ap.bQ c;have b7:=c.bP b5;have ac:=c.bP I;have K:=c.bP aa;have L:=c.bP g;have M:=H.trans c;have cj:=c.size;cases hm:Xx (Yj r.c {s with rm:=Yo s.rm (Xz q)} k) (k:Nat) with
  |none=>
   rw[XhC hm];refine Xa.yes Xb rfl rfl rfl ?_;refine Xa.loads Xb rfl L rfl rfl ?_;refine Xa.store Xb rfl K rfl rfl ?_;intro a5 ad a6 c6;refine aN rfl ?_;have N:Xc Xf w a5:=M.sn a6;exact bD rfl func139 (Xi.cell rfl rfl rfl ad rfl .nil) ⟨x,rfl,h.box a4 aq X X a6 N,a4.dC z3,N⟩
  |some m=>
   obtain⟨k',ek',ck,bs⟩:=Ao hm;obtain rfl:k=k':=X
   refine Xa.no Xb rfl rfl rfl ?_;refine Xa.loads Xb rfl L rfl rfl ?_;refine Xa.cJ Xb rfl ac rfl rfl ?_;rw[hk];refine Xa.cJ Xb rfl b7 rfl rfl ?_;have bt:=Xcp aq (by rw[j.1,a3];exact br) bs r.c.step ⟨J.1,xI J.2 u.2⟩;refine aP rfl (bt) ?_;rintro _ a5 ⟨a7,rfl,bu,b8,D⟩;refine aN rfl ?_;refine Xa.alloc Xb rfl ?_;intro yb cl cm ae b9 c7;refine aN rfl ?_;refine Xa.store Xb rfl ae rfl rfl ?_;intro ar t ba c8;refine aN rfl ?_;replace t:Zo ar yb a7:=t;have cn:=D.size;have d:Xc Xf a5 ar:=b9.sn ba;have af:=(D.trans d).bP K;have co:=d.size;refine Xa.loads Xb rfl t rfl rfl ?_;refine Xa.store Xb rfl af rfl rfl ?_;intro bv ag a8 c9;refine aN rfl ?_;have O:Xc Xf w bv:=((M.trans D).trans d).sn a8;have au:Zz w3 r a7:=a4.trans b8 X;exact aK func139 ag Y ⟨a7,rfl,h.box au (bu.bQ d) X X a8 O,au.dC z3,O⟩
theorem Sz(h:Zf w r s)(hs:s.OkP r.c pd)(size:Int):Xe prog 80 #[.agg (Yc r).toArray,W size] w (Grow (W (Ys r.c s size)) w):=by
 have k:=Zr hs.may;have C:=k.n;have A:=k.cH;have n:s.mv.length<=16:=xH hs.ml
 refine aR func80 ntmps80 Y (bC Y λb x e1 o p B=>?_);refine bB o Y (bG (K3 r.c r.cp size x) Y λy l=>?_);have d:=l.bP o;have c:=p.trans l;by_cases g:size<1\/r.c.cH<size
 .have e:Ys r.c s size=3:=by unfold Ys;rw[bK g]
  rw[e];have eb:(decide (1<=size) && decide (size<=r.c.cH))=false:=by
   rw[Bool.and_eq_false_iff,decide_eq_false_iff_not,decide_eq_false_iff_not];omega
  rw[eb];exact bI Y (bE func80 Y ⟨rfl,c⟩)
 .have e:Ys r.c s size=if (Xx s (Xl r.c.bT size)).isSome then 0 else Ql r.c s.rm size:=by unfold Ys;rw[bJ g]
  rw[e];have eb:(decide (1<=size) && decide (size<=r.c.cH))=true:=by
   rw[XI,decide_eq_true_iff,decide_eq_true_iff];omega
  rw[eb];have i:=h.bQ c;have q:∀w',Xc Xf y w'->Xe prog 132 #[.agg (Ba r.rr).toArray,W size] w' (Grow (W (Xl r.c.bT size)) w'):=λw' f=>by
   have:=Sy r.rr size w' (by rw[h.rc,h.rp];exact(i.bQ f).cO.bT) (by rw[h.rc];omega);rw[h.rc] at this;exact this
  refine aS Y (aQ 5 Xf xK Y λj=>aE j d Y (aE j d Y (aG j (λw' f=>q w' f) Y (aF j Y λD m=>?_))));refine bG (L1 (i.bQ m) n (Xl r.c.bT size)) Y λz t=>?_;have a:=m.trans t;cases hm:(Xx s (Xl r.c.bT size)).isSome with
  |true=>
   exact bI Y (bE func80 Y ⟨rfl,c.trans a⟩)
  |false=>
   refine aS Y (bB (a.bP d) Y ?_);have u:=Xch r.rr (Qd s.rm) size z (i.bQ a).rr (by rw[h.rc,h.rp];exact(i.bQ a).cO.bT) (by rw[h.rc];omega) (by rw[h.rc];omega);rw[h.rc] at u;exact bG u Y λE v=>bE func80 Y ⟨rfl,(c.trans a).trans v⟩
theorem Xm2(h:Zf w r s)(hs:s.OkP r.c pd)(old size:Int)(ho:old<=9223372036854775807)(hz:size<=9223372036854775807):Xe prog 211 #[.agg (Yc r).toArray,W old,W size] w (Grow (.bool (Ay r.c old size)) w):=by
 have y:=(Zr hs.may).n;have g:∀(n:Int) w',Xc Xf w w'->Xe prog 132 #[.agg (Ba r.rr).toArray,W n] w' (Grow (W (Xl r.c.bT n)) w'):=λn w' i=>by
  have:=Sy r.rr n w' (by rw[h.rc,h.rp];exact(h.bQ i).cO.bT) (by rw[h.rc];omega);rw[h.rc] at this;exact this
 have v:=Su r.c.bT old;refine aR func211 ntmps211 Y (bC Y λb t e1 p j x=>?_);refine bB p Y (bG (g old t j) Y λu k=>?_);have d:=j.trans k;have l:=k.bP p;refine bB l Y (bG (g size u d) Y λz m=>?_);have c:=d.trans m;have o:=m.bP l;by_cases e1:Xl r.c.bT old=Xl r.c.bT size
 .refine aI Y (xU e1) ?_;by_cases e2:Xl r.c.bT old=-1
  .have e:Ay r.c old size=decide (Zj old r.c.size=Zj size r.c.size):=by unfold Ay;rw[bN e1,YM,bO (λh=>h e2),Bool.false_or]
   rw[e];exact aQ 12 Xf xK Y λa=>Xd.no Xb a rfl (by rw[e2];rfl) rfl (aE a o Y (aH a (λw' i=>J7 old r.c.size w' ho) Y (aE a o Y (aF a Y λq f=>bH (J7 size r.c.size q hz) Y (bE func211 Y ⟨rfl,c.trans f⟩)))))
  .have e:Ay r.c old size=true:=by unfold Ay;rw[bN e1,YM,bN e2,Bool.true_or]
   rw[e];exact aQ 12 Xf xK Y λa=>Xd.yes Xb a rfl (bN X) rfl (aF a Y λq f=>bE func211 Y ⟨rfl,c.trans f⟩)
 .have e:Ay r.c old size=false:=by unfold Ay;rw[bO e1,QE]
  rw[e];exact aM Y (xU e1) (bE func211 Y ⟨rfl,c⟩)
theorem XgL(h:Zf w r s)(hs:s.OkP r.c pd)(o:Nat){t:ThM}(het:s.th[o]?=some (some t))(i n:Nat)(hi:∀m,Xx s t.q.cL=some m->i+n<=m.size)(ht:0<=s.rm.tot/\s.rm.tot<=1000000000000):Xe prog 212 #[.agg (Yc r).toArray,W (o:Nat),W (i:Nat),W (n:Nat)] w (λv w'=>∃r',v=.agg (Yc r').toArray/\Ei w r (Af s (o:Nat) i n) r' w'):=by
 have hl:=h.mn;have ab:s.mv.length<=16:=xI hs.ml (Zr hs.may).n
 have cm:=(XC.1 het).1;have ac:o<r.ts.length:=xH h.tn
 have hQ:=Y5 het;have ak:r.ts[o].q.cL=t.q.cL:=by
  have:=(h.trow ac).1.2 t (Hk het);exact congrArg PlcM.cL this
 refine aR func212 ntmps212 Y (bC Y λb w1 e1 hb ax cn=>bC Y λqb w2 e2 ad ae co=>?_);have M:=ae.bP hb;have u:=ax.trans ae;obtain⟨_,t0,toff,eta,ay⟩:=(h.bQ u).trow ac;refine bB M Y ?_;rw[eta];refine aU (o*5) Y (aW Y (ay 1 _ rfl) Y ?_);rw[ak,<-eta];refine bB M Y (bG (L1 (h.bQ u) ab t.q.cL) Y λw3 p=>?_);have q:=p.bP M;have G:=p.bP ad;have d:=u.trans p;cases hm:Xx s t.q.cL with
 |none=>
  have e:Af s (o:Nat) i n=s:=by unfold Af;rw[hQ,hm]
  rw[e];refine bI Y ?_;exact bB q Y (bF G Y λwr N O az=>aK func212 N Y ⟨r,rfl,.self h (d.sn O)⟩)
 |some m=>
  obtain⟨k,ek,hk,D⟩:=Ao hm;have af:k<r.ms.length:=X
  have ba:=hi m hm;rw[ek] at hm⊢;obtain⟨sa,sl,sc,sst,ev⟩:∃sa sl sc sst,r.ms[k]=⟨true,m.who,m.pf,m.fa,m.pt,m.ta,sa,sl,sc,sst,m.f,m.t,m.size,m.cE⟩:=by
   obtain⟨⟨a1,a2⟩,_⟩:=h.mrow af;obtain⟨b1,b2,b3,b4,b5,b6,b7,b8,b9⟩:=a2 m (Dy D);rw[Dy D] at a1;generalize r.ms[k]=v at *
   obtain⟨i1,i2,i3,i4,i5,i6,i7,i8,i9,bk,cp,cq,cr,cs⟩:=v;simp only at a1 b1 b2 b3 b4 b5 b6 b7 b8 b9
   subst b1;subst b2;subst b3;subst b4;subst b5;subst b6;subst b7;subst b8;subst b9;exact⟨i7,i8,i9,bk,by rw[a1];rfl⟩
  obtain⟨_,a0,off,ema,x⟩:=(h.bQ d).mrow af;rw[ev] at x;obtain⟨l1,l2,l3,_⟩:=Ky hs D;have ct:=(hs.mv k m D).2.2.2.2.2.2;refine aS Y (bB q Y ?_);rw[ema];refine aU (k*12) Y (aW Y (x 1 _ rfl) Y ?_);rw[<-ema];by_cases H:m.who=o
  .have e:Af s (o:Nat) i n=Y3 {s with bs:=E1 s.bs m.f m.t m.cE i n} (Qv i n m.cE):=by unfold Af;rw[hQ,ek,hm];simp only;rw[bK H]
   have emv:s.mv.set k (some m)=s.mv:=by
    apply QH
    intro j;by_cases ej:k=j
    .subst ej;rw[XH hk,D]
    .rw[XK ej]
   rw[e];refine aI Y (by rw[H];simp) (bB q Y ?_);rw[ema];refine aU (k*12) Y (Xa.loadC Xb (Cy ⟨true,m.who,m.pf,m.fa,m.pt,m.ta,sa,sl,sc,sst,m.f,m.t,m.size,m.cE⟩) rfl xT (x) rfl (bC Y λxb w4 e4 bm bn cu=>bF bm Y λw5 am bo cv=>?_));have P:=bn.sn bo;refine bB (P.bP q) Y (bF am Y λw6 Q bq cw=>?_);have y:=P.sn bq;have R:=d.trans y;have hM:Lg w6 ⟨r.ra,m.f,m.t,m.size,m.cE⟩:=⟨(h.bQ R).ra,l3,by show m.cE<=m.size;omega,by rw[h.rb];exact l1,by rw[h.rb];exact l2⟩;refine bB Q Y (aP Y (XmJ ⟨r.ra,m.f,m.t,m.size,m.cE⟩ i n w6 hM ⟨by show 0<=r.ra.cM;rw[h.rs];exact ht.1,by show r.ra.cM<=_;rw[h.rs];exact ht.2⟩ ba) ?_);rintro _ w7 ⟨⟨a,f7,t7,cx,g7⟩,rfl,x1,x2,x3,x4,x5,x6,c,E,T⟩;refine aN Y ?_;simp only at x1 x2 x3 x4 x5 x6 c T
   subst x3;subst x4;subst x5;subst x6;have z3:=d.size;have cy:=y.size;have z7:=E.size;rw[h.rb] at x1;have an:(E1 s.bs m.f m.t m.cE i n).length=s.bs.length:=by
    unfold E1;split
    .rfl
    .unfold Qv;exact Rw X X
   have bz:0<a.bs.length:=by rw[x1,an];omega
   have ao:Yw w7 a.a:=λb' off' s' e=>c.rd.block bz e;refine bC Y λyb w8 e8 ap c0 cz=>bF ap Y λw9 U c1 d0=>?_;have f:=c0.sn c1;have lq:=Xg ad;have zy:=p.size;refine bB U Y (bF ((E.trans f).bP (y.bP q)) Y λc2 I l ch=>?_);obtain⟨r1,F⟩:∃r1:SR,r1={r with ra:=a}:=⟨_,rfl⟩;replace I:Zo c2 b r1:=by rw[F];exact I
   refine bB (l.heap U X) Y (bF (l.heap ((E.trans f).bP Q) X) Y λV A B ci=>?_);obtain⟨v,ev'⟩:∃v:VR,v=⟨true,m.who,m.pf,m.fa,m.pt,m.ta,a.a,a.bs.length,a.cap,a.cM,m.f,m.t,m.size,m.cE⟩:=⟨_,rfl⟩;replace A:V.heap[xb]?=some (.cells (Cy v).toArray 142 (0,0)):=by rw[ev'];exact A
   have J:=(((R.trans E).trans f).sn l).sn B;have K:Xc (λz=>z=b\/z=xb) w7 V:=(f.gr.trans (l.mono λ_ _ e=>.inl e)).trans (B.mono λ_ _ e=>.inr e);have a8:Xj (λz=>z=b\/z=xb) a.a:=λb' off' s' e C=>by
    rcases T with⟨g,eg',aq⟩|eg'
    .rw[eg'] at e;cases e;omega
    .have:=h.la b' off' s' (eg'▸e);omega
   have a9:Yp V a:=⟨c.rd.bW a8 K,c.len,c.lc,c.rng⟩;have d1:Qv i n m.cE<=m.size:=by unfold Qv;omega
   have cj:s.bs.length<=4194304:=by rw[<-h.rb];exact h.ra.len
   have ar:a.cM=Xu s.rm.tot (Qv i n m.cE:Nat):=by
    rw[x2,h.rs,Cs X]
   have c3:=F▸h.putRa J a9 x1 ar (ao.bQ K.size);have au:Zz w2 r r1:=⟨by rw[F],by rw[F],λS hS H=>by
    have c4:Xj S a.a:=λb' off' s' e ag=>by
     rcases T with⟨g,eg',aq⟩|eg'
     .rw[eg'] at e;cases e;have:=hS _ ag;have:=p.size;omega
     .exact H.ra b' off' s' (eg'▸e) ag
    rw[F];exact {H with ra:=c4}⟩
   have av:Me (some m) v:=by rw[ev'];exact⟨rfl,λm' e=>by cases e;exact⟨rfl,rfl,rfl,rfl,rfl,rfl,rfl,rfl,rfl⟩⟩
   have c5:=S0 c3 ab k hk v (some m) av;refine bB (B.heap I X) Y (bB A Y (aP Y (c5) ?_));rintro _ c6 ⟨ah,rfl,_,a3,aw,a4⟩;refine aN Y ?_;replace a3:Zf c6 ah (Y3 {s with bs:=E1 s.bs m.f m.t m.cE i n} (Qv i n m.cE)):=by
    have e2:({Y3 {s with bs:=E1 s.bs m.f m.t m.cE i n} (Qv i n m.cE) with mv:=s.mv.set k (some m)}:StM)=Y3 {s with bs:=E1 s.bs m.f m.t m.cE i n} (Qv i n m.cE):=by rw[emv];rfl
    rw[<-e2];exact a3
   refine bF (a4.bP (B.heap (l.heap ((E.trans f).bP (y.bP G)) X) X)) Y λd2 aa a5 cl=>?_;have L:=(J.trans a4).sn a5;have ai:=au.trans aw (xH p.size);exact aK func212 aa Y ⟨ah,rfl,h.box ai a3 X X a5 L,ai.dC u.size,L⟩
  .have e:Af s (o:Nat) i n=s:=by unfold Af;rw[hQ,ek,hm];simp only;rw[bJ H]
   rw[e];refine aM Y (xU H) ?_;exact bB q Y (bF G Y λwr N O az=>aK func212 N Y ⟨r,rfl,.self h (d.sn O)⟩)
theorem XgG(h:Zf w r s)(hs:s.OkP r.c pd)(k bV:Int):Xe prog 36 #[.agg (Yc r).toArray,W k,W bV] w
 (λv w'=>∃r',v=.tuple #[.agg (Yc r').toArray,W (Cd s k bV)]/\Ei w r (Cw s k bV) r' w'):=by
 have a4:maxLen=9223372036854775807:=rfl;have hn:=(Zr hs.may).n;have ad:=hs.kl;have ae:=hs.ml;have af:r.bV.length=s.bV.length:=by rw[h.ke]
 refine aR func36 ntmps36 Y (bC Y λb w1 e1 hb O ag=>bC Y λqb P e2 i E ah=>?_);have d:=E.bP hb;have c:=O.trans E;by_cases g:k<0\/(s.mv.length:Int)<=k\/bV<0\/1024<bV
 .have e:Cd s k bV=1:=by unfold Cd;rw[bK g]
  have eS:Cw s k bV=s:=by unfold Cw;rw[bJ (by rw[e];decide)]
  rw[e,eS];by_cases g1:k<0
  .exact bI Y (bB d Y (bF i Y λJ a f o=>aK func36 a Y ⟨r,rfl,.self h (c.sn f)⟩))
  .refine aS Y (bB d Y ?_);by_cases g2:(r.bV.length:Int)<=k
   .exact bI Y (bB d Y (bF i Y λJ a f o=>aK func36 a Y ⟨r,rfl,.self h (c.sn f)⟩))
   .refine aS Y ?_;by_cases g3:bV<0
    .exact bI Y (bB d Y (bF i Y λJ a f o=>aK func36 a Y ⟨r,rfl,.self h (c.sn f)⟩))
    .exact aS Y (bI Y (bB d Y (bF i Y λJ a f o=>aK func36 a Y ⟨r,rfl,.self h (c.sn f)⟩)))
 .have e:Cd s k bV=0:=by unfold Cd;rw[bJ g]
  obtain⟨j,rfl⟩:=XE (show 0<=k by omega);have eS:Cw s (j:Nat) bV={s with bV:=s.bV.set j bV}:=by unfold Cw;rw[bK e,XA]
  rw[e,eS];refine aS Y (bB d Y (aS Y (aS Y (aS Y (Xa.buildSlice Xb rfl λb4 w4 e4 Q n ai=>aN Y ?_)))));refine bB (n.bP d) Y ?_;obtain⟨aj,koff,eka,_⟩:=h.kr 0 X;have p:=(h.kr.bR (c.trans n));rw[eka] at p⊢;have C:Xm P.heap.size 3 1 w4 (.slice (some ⟨b4,0,none⟩) 0 0) 0 []:=Xm.empty X Q;refine Xa.append (base:=P.heap.size) (xs:=[]) (news:=r.bV.map W) Xb rfl C n.size xS p.cells J5 ⟨X,by show(0+r.bV.length)*8<=_;omega⟩ λv5 w5 F R ak=>aN Y ?_;rw[XT,ZQ] at F;have m:=C.bU n (XF _) R;obtain⟨q,K,cur,rfl,al,T,am,an,G⟩:=F.form X;have t:cur.toList=r.bV.map W++cur.toList.drop r.bV.length:=by
   have U:=XY r.bV.length cur.toList;rw[ZS] at G;rw[G] at U;exact U.symm
  obtain⟨rest,D⟩:∃rest,rest=cur.toList.drop r.bV.length:=⟨_,rfl⟩;rw[<-D] at t;have L:w5.heap[q]?=some (.cells (r.bV.map W++rest).toArray 3 (0,0)):=by rw[<-t];exact T
  refine aU j Y (aL Y L (Xg7 (x:=bV) X) Y λw6 V u ao=>?_);refine bF (u.heap (m.bP d) X) Y λw7 y A ap=>?_;have a0:(r.bV.set j bV).length=r.bV.length:=XG;obtain⟨r',er⟩:∃r':SR,r'={r with bV:=r.bV.set j bV,ka:=some ⟨q,0,none⟩,kcap:=K}:=⟨_,rfl⟩;replace y:Zo w7 b r':=by
   rw[er];unfold Zo Yc;simp only[a0];exact y
  refine bB y Y (bF (A.heap (u.heap (m.bP i) X) X) Y λM N H aq=>?_);have I:=H.heap (A.heap V X) X;have B:=(((c.trans m).sn u).sn A).sn H;have a1:Rd .i64 M (some ⟨q,0,none⟩) (r.bV.set j bV):=Rd.of_take I xS;have a2:Yw M (some ⟨q,0,none⟩):=λb' off' s' e=>by cases e;exact Xg I
  have hO:Zf M r' {s with bV:=s.bV.set j bV}:=by
   rw[er];exact {(h.bQ B) with kr:=a1,ke:=by show r.bV.set j bV=s.bV.set j bV;rw[h.ke],lk:=a2}
  have a3:Zz w r r':=⟨by rw[er],by rw[er],λS hS C=>by
   have hk:Xj S (some ⟨q,0,none⟩):=λb' off' s' e l=>by cases e;have:=hS _ l;omega
   rw[er];exact {C with k:=hk}⟩
  exact aK func36 N Y ⟨r',rfl,hO,a3,B⟩
theorem Xda{c:Conf}{s:StM}(hs:s.Ok c)(ht:0<=s.rm.tot/\s.rm.tot<=999999000000):∀n,n<=16->0<=(tickTo c s n).1.rm.tot/\(tickTo c s n).1.rm.tot<=s.rm.tot+30000*n
 |0,_=>⟨ht.1,by show s.rm.tot<=_;omega⟩
 |n+1,h=>by
  obtain⟨d,g⟩:=Xda hs ht n X;have a:=StM.OkP.tickTo hs n;have b:=Xaf a n ⟨d,X⟩;rw[N2];unfold tickK;split
  .omega
  .split
   .exact⟨b.1,by show(Yj c (tickTo c s n).1 n).rm.tot<=_;omega⟩
   .have f:=Xc8 (StM.OkP.begin a n) n (tickTo c s n).2 ⟨b.1,X⟩;exact⟨f.1,by show(Yg (Yj c (tickTo c s n).1 n) n (tickTo c s n).2).rm.tot<=_;omega⟩
theorem XgH(h:Zf w r s)(hs:s.Ok r.c)(ht:0<=s.rm.tot/\s.rm.tot<=999999000000):Xe prog 35 #[.agg (Yc r).toArray] w
 (λv w'=>∃r',v=.agg (Yc r').toArray/\Ei w r (D4 r.c s) r' w'):=by
 have ar:=h.mn;have a5:s.mv.length<=16:=xI hs.ml (Zr hs.may).n
 refine aR func35 ntmps35 Y (bC Y λb w1 e1 hb a6 au=>bC Y λqb K e2 N O av=>?_);have P:=O.bP hb;have l:=a6.trans O;have z2:=l.size;have lq:=Xg N;refine bB P Y ?_;refine Xa.loop (α:=Nat×SR) (λx=>[(1,false,xV b),(2,false,xV qb),(3,false,W (tickTo r.c s x.1).2),(4,false,W x.1)])
  (λx w'=>x.1<=s.mv.length/\Zo w' b x.2/\Zf w' x.2 (tickTo r.c s x.1).1/\Zz K r x.2/\Xc (λz=>z=b) K w') (λx=>s.mv.length-x.1) (0,r) ⟨rfl,rfl,rfl,rfl,trivial⟩ ⟨X,P,h.bQ l,.refl _ _,Xc.refl _ _⟩ ?_
 rintro⟨k,rk⟩ w5 ⟨n,i,A,a,u⟩ ih;simp only at n i A a
 obtain⟨b1,b2,b3,b4⟩:=Ub hs k;have aw:(tickTo r.c s (k,rk).fst).snd=(tickTo r.c s k).2:=rfl;have B:=StM.OkP.tickTo hs k;have tsucc:=N2 r.c s k;have Q:=Xda hs ht k X;have o:=l.sn u;have D:=u.heap N X;have R:∀{w':dD} {x:SR},Xc Xf w w'->Zz K r x->Yd w' x.c x.cp:=λhc n=>by have:=h.cO.bR hc;rw[n.1,n.2.1];exact this
 have S:∀{x:SR},Zz K r x->Bp (λz=>z=b) x:=λn=>n.2.2 _ (λz e=>X) (h.out λz e=>X);have ax:=A.mn;refine aN Y (bB i Y ?_);by_cases T:k<s.mv.length
 .refine bI Y ?_;by_cases hl:(tickTo r.c s k).2<1
  .have e:D4 r.c s=(tickTo r.c s k).1:=by
    unfold D4;obtain⟨d,hd⟩:=Nat.exists_eq_add_of_le n;rw[hd,Xc6 hl d]
   rw[e];refine bI Y (bB i Y (bF D Y λw6 p j a9=>?_));have f:=o.sn j;exact aK func35 p Y ⟨rk,rfl,h.box a A X X j f,a.dC z2,f⟩
  .refine aS Y (bB i Y ?_);have U:=XgD A (by rw[a.1];exact B) k X ⟨Q.1,X⟩;rw[a.1] at U;refine aP Y (U) ?_;rintro _ w6 ⟨r6,rfl,h6,aa,E⟩;refine aN Y (bF (E.bP i) Y λw7 V F ay=>?_);have g:=a.trans aa u.size;have G:=(o.trans E).sn F;have h7:=h6.bW (S g) (R G g) F;have a1:(Yj r.c (tickTo r.c s k).1 k).mv.length<=16:=by rw[(Ol r.c _ k).2.2.2,b2];exact a5
   refine bB V Y (bG (L1 h7 a1 (k:Nat)) Y λw8 y=>?_);have H:=y.bP V;have h8:=h7.bQ y;have I:=((u.trans E.gr).trans F).trans y.gr;cases hm:Xx (Yj r.c (tickTo r.c s k).1 k) (k:Nat) with
   |none=>
    have et:tickTo r.c s (k+1)=(Yj r.c (tickTo r.c s k).1 k,(tickTo r.c s k).2):=by rw[tsucc];unfold tickK;rw[bJ hl,hm]
    refine aS Y (aV Y (ih (k+1,r6) _ _ ⟨T,H,by rw[et];exact h8,g,I⟩ xP ?_));rw[et];exact⟨rfl,rfl,rfl,rfl,trivial⟩
   |some m=>
    obtain⟨k',ek',az,ad⟩:=Ao hm;obtain rfl:k=k':=X
    have et:tickTo r.c s (k+1)=(Yg (Yj r.c (tickTo r.c s k).1 k) k (tickTo r.c s k).2,(tickTo r.c s k).2-Zm m (tickTo r.c s k).2):=by rw[tsucc];unfold tickK;rw[bJ hl,hm]
    have b0:(Zm m (tickTo r.c s k).2:Int)<=(tickTo r.c s k).2:=by unfold Zm Dh;omega
    have ae:=Xaf B k ⟨Q.1,X⟩;refine bI Y (bB H Y (aP Y (Xcp h8 (by rw[g.1];exact(StM.OkP.begin B k)) ad (tickTo r.c s k).2 ⟨ae.1,X⟩) ?_));rintro _ w9 ⟨r9,rfl,h9,af,J⟩;refine aN Y (bC Y λyb b5 b6 L a2 ao=>bF L Y λb7 M a3 ap=>?_);have c:=a2.sn a3;have q:=g.trans af I.size;refine bB M Y (bF ((J.trans c).bP H) Y λb8 a4 t aq=>?_);refine aV Y (aV Y (ih (k+1,r9) _ _ ⟨T,a4,by rw[et];exact((h9.bQ c).bW (S q) (R ((((G.trans y).trans J).trans c).sn t) q) t),q,((I.trans ((J.trans c).gr)).trans t)⟩ xP ?_));rw[et];exact⟨rfl,rfl,rfl,rfl,trivial⟩
 .refine aS Y ?_;have e:D4 r.c s=(tickTo r.c s k).1:=by unfold D4;rw[show s.mv.length=k by omega]
  rw[e];refine bB i Y (bF D Y λw6 p j a9=>?_);have f:=o.sn j;exact aK func35 p Y ⟨rk,rfl,h.box a A X X j f,a.dC z2,f⟩
theorem XjA(_h:Y1 c M)(k n i who:Int):Kf M.tot (Qq M k n i who) (Qq (Qd M) k n i who):=by
 unfold Qq;have e:Zs (Qd M) k=Zs M k:=rfl;rw[e];cases a:Zs M k with
 |none=>exact Jy M
 |some x=>exact Jy (Gs M k.toNat (Bc x n i who) M.pl)
theorem Xep(h:Y1 c M)(who size:Int):Kf M.tot (Ai c M who size) (Ai c (Qd M) who size):=by
 have ef:Ql c (Qd M) size=Ql c M size:=rfl;unfold Ai;rw[ef];split
 .exact Jy M
 .split
  .exact Jy M
  .rename_i hf
   split
   .have b:((Zl size c.size).toNat:Int)<=1024:=by
     have i:=h.cU.cV.many;have j:=h.cU.cV.len;rename_i f
     have a:=YP.1 hf;unfold Ql at a;split at a
     .exact absurd a xD
     .split at a
      .exact absurd a xD
      .rename_i d
       unfold Df at d;rw[bK f] at d;omega
    obtain⟨many,em⟩:∃many,many=(Zl size c.size).toNat:=⟨_,rfl⟩;rw[<-em] at b⊢;have k : -1<=(many*4+(many-1):Int)/\(many*4+(many-1):Int)<=10000:=X
    by_cases g:many=0
    .subst g;refine⟨?_,?_,?_⟩
     .show({Ew M 0 with tot:=Xu M.tot (Xu 0 (((0:Nat):Int)*4+(((0:Nat):Int)-1)))}:RmM)=Ew M 0
      unfold Ew Xu
      simp
     .unfold Ew Xu;simp
     .unfold Ew Xu;simp
    .have e:(Ew (Qd M) many).tot=(many*4+(many-1):Int):=Xa2 (n:=(many*4+(many-1):Int)) X;refine⟨?_,by rw[e];omega,by rw[e];omega⟩;rw[e];rfl
   .exact Xba h _ _
theorem Lj(hm:Xy c=true):0<=Zb c q at' n/\Zb c q at' n<=2*n+1:=by
 obtain⟨a,b,d⟩:=Ea hm;have:=Ti (cR:=c.size.toNat) X n at';unfold Zb;split <;> omega
abbrev Mg(c:Conf)(p:Yz)(x:RA):dE:=.tuple #[.agg (Ak c p x).toArray,.int .i64 0]
abbrev Jr(c:Conf)(w:dD)(r:RA)(q:Plc)(i:Nat)(l:List Int)(x:RA)(w2:dD):Prop:=x.bs=Ac c q r.bs i l l.length/\x.cM=r.cM+Zb c q i l.length/\Yp w2 x/\Gg w r.a x.a/\Yw w2 x.a
theorem Xao{r:RA}:∀x w2 w3,Jr c w r q i l x w2->Xc Xf w2 w3->Jr c w r q i l x w3:=λ_ _ _ ⟨a,b,c,d,e⟩ f=>⟨a,b,c.bQ f,d,e.bQ f.size⟩
theorem XlA(M:RmM)(k n i who:Int):{Qq (Qd M) k n i who with tot:=Xu M.tot 3}={Qq M k n i who with tot:=Xu (Qq M k n i who).tot 3}:=by
 unfold Qq;rw[show Zs (Qd M) k=Zs M k from rfl];cases Zs M k <;> rfl
theorem XgJ(h:Zf w r s)(hs:s.OkP r.c pd)(ho:o<s.th.length)(hf:Ys r.c s size=0)(hL:(Qs r.c s (o:Nat) size).OkP r.c pd2)(ht:0<=s.rm.tot/\s.rm.tot<=999999000000):Xe prog 137 #[.agg (Yc r).toArray,W (o:Nat),W size] w (λv w'=>∃r',v=.agg (Yc r').toArray/\Ei w r (Qs r.c s (o:Nat) size) r' w'):=by
 have bj:=Zr hs.may;have hn:=bj.n;have ag:=hs.may;have d2:s.mv.length<=16:=xH hs.ml
 have bw:=Tc hs.rm;have d3:0<s.bs.length:=by
  have h1:=hs.bl;have h2:1*64<=r.c.bS*r.c.size:=ZH (xH bj.bS) (xH bj.size) X (xH bj.bS);rw[YK r.c.bS] at h2;rw[<-h1] at h2;omega
 obtain⟨g7,fc⟩:=Oz hf;have de:(Qs r.c s (o:Nat) size).th[o]?=some (some ⟨size,Zp r.c s (o:Nat) size⟩):=by
  show(s.th.set (o:Int).toNat _)[o]?=_
  rw[XA,XH ho]
 obtain⟨pv,ph,pf⟩:=Jg hL de;simp only at pv ph pf
 have ed:∀(n:Int) w',Xc Xf w w'->Xe prog 132 #[.agg (Ba r.rr).toArray,W n] w' (Grow (W (Xl r.c.bT n)) w'):=λn w' F=>by
  have:=Sy r.rr n w' (by rw[h.rc,h.rp];exact(h.bQ F).cO.bT) (by rw[h.rc];omega);rw[h.rc] at this;exact this
 refine aR func137 ntmps137 Y (bC Y λb w1 e1 hb ef g8=>bC Y λqb T e2 R d4 g9=>?_);have bx:=d4.bP hb;have bg:=ef.trans d4;refine bB bx Y (bG (ed size T bg) Y λw3 b5=>?_);have eg:=b5.bP bx;refine bC Y λpb w4 e4 ah bk ga=>?_;have eh:=bk.bP eg;refine bB eh Y (bC Y λtb w5 e5 df b6 gb=>bF df Y λw6 ar d5 gc=>?_);have ai:=((b5.trans bk).trans b6).bU d5 (λz G e=>xI b5.size bk.size);have d6:=ai.bP bx;have bz:=ai.bP R;have au:=d5.heap (b6.bP ah) (xH (Xg ah));have c0:=bg.trans ai;refine bB d6 Y (bG (L1 (h.bQ c0) d2 (Xl r.c.bT size)) Y λQ A=>?_);have l:=c0.trans A;have M:=A.bP d6;have ei:=bg.size;have gd:T.heap.size<=pb/\T.heap.size<=tb:=⟨xH b5.size,xI b5.size bk.size⟩;have ltp:tb≠pb:=xI (Xg ah) b6.size
 apply Xa.cut (α:=dD×Plc×SR) (λ_=>[(1,false,W (o:Nat)),(2,false,W size),(6,false,xV qb),(8,false,xV pb),(9,false,xV tb)]) (λx w'=>T.heap.size<=x.1.heap.size/\Xc Xf w w'/\Zz x.1 r x.2.2/\Zf w' x.2.2 (Yb r.c s (o:Nat) size)/\Zo w' tb x.2.2/\w'.heap[pb]?=some (.cells (Xw x.2.1).toArray 83 (0,0))/\w'.heap[qb]?=T.heap[qb]?/\Xz x.2.1=Zp r.c s (o:Nat) size/\Zw w' x.2.1/\Yw w' x.2.1.pa/\(x.1.heap.size<=w'.heap.size/\tb<x.1.heap.size/\pb<x.1.heap.size)/\(∀b' off s',x.2.1.pa=some ⟨b',off,s'⟩->x.1.heap.size<=b')/\0<=(Yb r.c s (o:Nat) size).rm.tot/\(Yb r.c s (o:Nat) size).rm.tot<=1152921504606846976)
 .intro J;by_cases p:Di r.c s size=none
  .have eS:Yb r.c s (o:Nat) size={s with rm:=Ai r.c s.rm (o:Nat) size}:=by unfold Yb;rw[p]
   have eQ:Zp r.c s (o:Nat) size=Bz r.c s.rm (o:Nat) size:=by unfold Zp;rw[p]
   have hC:=Xep hs.rm (o:Int) size;have aj:(Xx s (Xl r.c.bT size)).isSome=false\/((Xx s (Xl r.c.bT size)).isSome=true/\Qm s.rm (Xl r.c.bT size)≠0):=by
    unfold Di at p;cases hm:Xx s (Xl r.c.bT size) with
    |none=>exact .inl rfl
    |some m=>
     rw[hm] at p;simp only at p
     refine .inr ⟨rfl,λe=>?_⟩;rw[bK e] at p;cases p
   apply Xa.cut (α:=Unit) (λ_=>[(1,false,W (o:Nat)),(2,false,W size),(3,false,xV b),(6,false,xV qb),(8,false,xV pb),(9,false,xV tb),(68,false,.pointer (some ⟨b,11,none⟩))]) (λ_ w'=>Xc Xf Q w')
   .intro K;rcases aj with aj|⟨aj,c1⟩
    .rw[aj];exact aS Y (K () _ _ (Xc.refl _ _) ⟨rfl,rfl,rfl,rfl,rfl,rfl,rfl,trivial⟩)
    .rw[aj];refine bI Y (bB M Y ?_);have b7:=V1 r.rr (Qd s.rm) (Xl r.c.bT size) Q (h.bQ l).rr;rw[show Qm (Qd s.rm) (Xl r.c.bT size)=Qm s.rm (Xl r.c.bT size) from rfl] at b7;exact bG b7 Y λwx V=>aI Y (xU c1) (K () _ _ V ⟨rfl,rfl,rfl,rfl,rfl,rfl,rfl,trivial⟩)
   .rintro-Q V;have M:=V.bP M;have A:=A.trans V;have l:=l.trans V;refine bB M Y ?_;have hP:=XmT r.rr (Qd s.rm) (o:Nat) size Q ((h.bQ l).rr) bw.cU (by rw[h.rc];exact bw.ok) ⟨YN _,show(0:Int)<=4611686018427000000 by decide⟩ (by rw[h.rc,h.rp];exact(h.bQ l).cO.bT) (by rw[h.rc];exact ag);rw[h.rc] at hP;refine aP Y (hP) ?_;rintro _ w8 ⟨ge,q,rfl,ad,dg,el,b8,bm⟩;refine aN Y (bC Y λxb w9 e9 a7 c2 em=>bC Y λyb gf gg ce c3 fd=>bF (c3.bP a7) Y λgh cf c4 fe=>?_);have lyx:yb≠xb:=xH (Xg a7)
    refine bF (c4.heap ce lyx) Y λgi ae av ff=>?_;have aw:=((c2.trans c3).sn c4).bU av (λz G e=>xH c2.size);have cg:=av.heap cf (λe=>lyx e.symm);have ax:=bm.trans aw;have di:=ax.bP M;refine bB di Y (bB cg Y (aP Y (S7 (h.bQ (l.trans ax)) (dg.bQ aw) el ⟨hC.2.1,ht.1,xH hC.2.2⟩) ?_));rintro _ d7 ⟨a,rfl,_,a8,d,a9⟩;refine aN Y ?_;rw[hC.1,<-eS] at a8;have b9:=Xg (A.bP ar);have ba:=Xg (A.bP au);have f:=ax.trans a9;refine bF (f.bP (A.bP ar)) Y λen ay u dj=>?_;have a5:=(l.trans f).sn u;have a6:∀{w':dD},Xc Xf w w'->Yd w' a.c a.cp:=λhc=>by have:=h.cO.bR hc;rw[d.1,d.2.1];exact this
    have ak:=a8.bW (d.2.2 (λz=>z=tb) (λz e=>X) (h.out λz e=>X)) (a6 a5) u;have z8:=bm.size;have ltp:tb≠pb:=xI (Xg ah) b6.size
    have ch:=u.heap (a9.bP ae) (xH c2.size);have az:=u.heap (f.bP (A.bP au)) (λe=>ltp e.symm);refine bB ch Y (bF az Y λH B D dl=>?_);have I:=D.heap ay ltp;have L:=a5.sn D;have i:=ak.bW (d.2.2 (λz=>z=pb) (λz e=>X) (h.out λz e=>X)) (a6 L) D;have bn:Xc (λz=>z=tb\/z=pb) w8 H:=(((aw.trans a9).gr).trans (u.mono λ_ _ e=>.inl e)).trans (D.mono λ_ _ e=>.inr e);have N:Zw H q:=⟨b8.ok.rd.bW (λb' off s' e G=>xH (b8.fresh b' off s' e)) bn,b8.ok.len⟩;have P:=b8.lt.bQ bn.size;have aa:0<=(Yb r.c s (o:Nat) size).rm.tot/\(Yb r.c s (o:Nat) size).rm.tot<=1152921504606846976:=by
     rw[eS,<-hC.1];show 0<=Xu s.rm.tot _/\Xu s.rm.tot _<=_
     rw[Cs (xH hC.2)];have:=hC.2;omega
    have b0:=(D.heap (u.heap (f.bP (A.bP bz)) (xH (Xg R))) (xH (Xg R))).trans R.symm;have bb:Q.heap.size<=H.heap.size:=by have:=f.size;have:=u.size;have:=D.size;omega
    have al:∀b' off s',q.pa=some ⟨b',off,s'⟩->Q.heap.size<=b':=λb' off s' e=>b8.fresh b' off s' e;exact J ⟨Q,q,a⟩ _ _ ⟨(ai.trans A).size,L,d,i,I,B,b0,by rw[eQ];exact ad,N,P,⟨bb,b9,ba⟩,al,aa⟩ ⟨rfl,rfl,rfl,rfl,rfl,trivial⟩
  .obtain⟨m,p⟩:∃m,Di r.c s size=some m:=Option.ne_none_iff_exists'.1 p;have eS:Yb r.c s (o:Nat) size=Y3 {s with mv:=s.mv.set (Xl r.c.bT size).toNat none,rm:=Qq s.rm (Xl r.c.bT size) m.pt m.ta (o:Nat)} 3:=by unfold Yb;rw[p]
   have eQ:Zp r.c s (o:Nat) size=⟨Xl r.c.bT size,m.pt,m.ta,[]⟩:=by unfold Zp;rw[p]
   obtain⟨k,bo,hk,d8,c1⟩:∃k:Nat,Xl r.c.bT size=k/\k<s.mv.length/\s.mv[k]?=some (some m)/\Qm s.rm (Xl r.c.bT size)=0:=by
    unfold Di at p;cases hm:Xx s (Xl r.c.bT size) with
    |none=>rw[hm] at p;cases p
    |some m'=>
     rw[hm] at p;simp only at p
     split at p
     .cases p
      obtain⟨k,e1,e2,e3⟩:=Ao hm;exact⟨k,e1,e2,e3,by assumption⟩
     .cases p
   have aj:(Xx s (Xl r.c.bT size)).isSome=true:=by rw[bo,Dy d8];rfl
   rw[aj];refine bI Y (bB M Y ?_);have b7:=V1 r.rr (Qd s.rm) (Xl r.c.bT size) Q (h.bQ l).rr;rw[show Qm (Qd s.rm) (Xl r.c.bT size)=Qm s.rm (Xl r.c.bT size) from rfl,c1] at b7;refine bG b7 Y λQ V=>?_;have M:=V.bP M;have A:=A.trans V;have l:=l.trans V;refine bI Y ?_;have eo:k<r.ms.length:=xH h.mn
   obtain⟨⟨_,hv⟩,a0,off,ema,cj⟩:=(h.bQ l).mrow eo;obtain⟨_,v2,v3,v4,v5,_⟩:=hv m (Dy d8);have ep:∀j v,([W m.pf,W m.fa,W m.pt,W m.ta]:List dE)[j]?=some v->Q.cell? ⟨a0,off+k*12+2+j,none⟩=some v:=λj v hv=>by
    have hj:j<4:=(XC.1 hv).1;rw[YX];refine cj (2+j) v ?_;rw[<-hv];obtain rfl|rfl|rfl|rfl:j=0\/j=1\/j=2\/j=3:=X
    all_goals rw[<-v2,<-v3,<-v4,<-v5];rfl
   rw[bo];refine bB M Y ?_;rw[ema];refine aU (k*12) Y (Xa.loadC Xb ([W m.pf,W m.fa,W m.pt,W m.ta]) rfl xT (ep) rfl (bC Y λxb w8 e8 dm bm gj=>bF dm Y λw9 a7 er em=>?_));have ab:=bm.sn er;have es:=ab.bP M;refine bB es Y (bB a7 Y (bB a7 Y (aP Y (XmR r.rr (Qd s.rm) (k:Nat) m.pt m.ta (o:Nat) w9 ((h.bQ (l.trans ab)).rr) bw.cU ⟨YN _,show(0:Int)<=4611686018427000000 by decide⟩) ?_)));rintro _ gk ⟨am,rfl,bp,bh,dn⟩;refine aN Y ?_;have et:(Qq (Qd s.rm) (k:Nat) m.pt m.ta (o:Nat)).tot=0:=by unfold Qq;split <;> rfl
   have fb:=bp.st.trans et;refine bC Y λyb gl gm ck dp fn=>bF ck Y λgn ae av fo=>?_;refine bB ae Y (aV Y (bF ae Y λd9 cl dq fp=>?_));have bc:=(dp.sn av).sn dq;have af:=dn.trans bc;have f:=ab.trans af;have dr:=f.bP M;have b1:=af.bP a7;have eu:∀w',Xc Xf d9 w'->Xe prog 152 #[.agg (Yc r).toArray,W (k:Nat),.agg (Cy Lc).toArray] w' (λv T=>Xc Xf w' T/\∃r',v=.agg (Yc r').toArray/\r'.rr=r.rr/\Zf T r' {s with mv:=s.mv.set k none}/\Zz d9 r r'):=λw' F=>
    (S0 (h.bQ ((l.trans f).trans F)) d2 k hk Lc none ⟨rfl,λ_ e=>by cases e⟩).mono λv T ⟨r',e,a1,a2,a3,a4⟩=>⟨a4,r',e,a1,a2,a3.dC F.size⟩
   refine aQ 5 Xf xK Y λO=>aE O dr Y (Xd.build Xb O rfl rfl (aE O cl Y (Xd.callQ O rfl rfl (eu) ?_)));rintro _ gp ds ⟨ew,rfl,b2,ak,dt⟩;refine Xd.adv Xb O rfl (aF O Y λex c5=>?_);have an:=ds.trans c5;have cm:Qi ex {am with cM:=am.cM+3} {Qq (Qd s.rm) (k:Nat) m.pt m.ta (o:Nat) with tot:=3}:={bp.bQ (bc.trans an) with st:=by show am.cM+3=3;omega};have cn:A6 w9 ew.rr {am with cM:=am.cM+3}:=⟨by rw[b2];exact bh.1,by rw[b2];exact bh.2.1,λS hS ho=>by
    rw[b2] at ho;have:=bh.2.2 S hS ho;exact⟨this.o,this.f,this.sa,this.cI,this.la,this.lgo⟩⟩
   refine aP Y (S7 (ak.bQ c5) cm cn ⟨show(0:Int)<=3 by decide,ht.1,by show s.rm.tot+3<=_;have:=ht.2;omega⟩) ?_;rintro _ d7 ⟨a,rfl,_,a8,d,a9⟩;refine aN Y ?_;have e3:({s with mv:=s.mv.set k none,rm:={Qq (Qd s.rm) (k:Nat) m.pt m.ta (o:Nat) with tot:=Xu s.rm.tot 3}}:StM)=Yb r.c s (o:Nat) size:=by
    rw[eS,bo,XA,XlA];rfl
   replace a8:Zf d7 a (Yb r.c s (o:Nat) size):=by rw[<-e3];exact a8
   have co:=af.trans an;have f:=(ab.trans co).trans a9;replace d:=(dt.dC (xI ab.size af.size)).trans d ab.size;have b1:=a9.bP (an.bP b1);have b9:=Xg (A.bP ar);have ba:=Xg (A.bP au);refine bF (f.bP (A.bP ar)) Y λen ay u dj=>?_;have a5:=(l.trans f).sn u;have a6:∀{w':dD},Xc Xf w w'->Yd w' a.c a.cp:=λhc=>by have:=h.cO.bR hc;rw[d.1,d.2.1];exact this
   have ak:=a8.bW (d.2.2 (λz=>z=tb) (λz e=>X) (h.out λz e=>X)) (a6 a5) u;have ltp:tb≠pb:=xI (Xg ah) b6.size
   have lxt:xb≠tb:=X
   have bq:=u.heap b1 lxt;have az:=u.heap (f.bP (A.bP au)) (λe=>ltp e.symm);refine bB bq Y (bB bq Y (aO Y ?_));obtain⟨q,eq⟩:∃q:Plc,q=⟨(k:Nat),m.pt,m.ta,none,0,[]⟩:=⟨_,rfl⟩;have ad:Xz q=Zp r.c s (o:Nat) size:=by rw[eq,eQ,bo];rfl
   refine bF az Y λH B D dl=>?_;replace B:H.heap[pb]?=some (.cells (Xw q).toArray 83 (0,0)):=by rw[eq];exact B
   have I:=D.heap ay ltp;have L:=a5.sn D;have i:=ak.bW (d.2.2 (λz=>z=pb) (λz e=>X) (h.out λz e=>X)) (a6 L) D;have N:Zw H q:=by rw[eq];exact J6 _ _ _
   have P:Yw H q.pa:=by rw[eq];exact λ_ _ _ e=>by cases e
   have aa:0<=(Yb r.c s (o:Nat) size).rm.tot/\(Yb r.c s (o:Nat) size).rm.tot<=1152921504606846976:=by
    rw[<-e3];show 0<=Xu s.rm.tot 3/\Xu s.rm.tot 3<=_
    rw[Cs X];omega
   have b0:=(D.heap (u.heap (f.bP (A.bP bz)) (xH (Xg R))) (xH (Xg R))).trans R.symm;have bb:Q.heap.size<=H.heap.size:=by have:=f.size;have:=u.size;have:=D.size;omega
   have al:∀b' off s',q.pa=some ⟨b',off,s'⟩->Q.heap.size<=b':=by rw[eq];exact λ_ _ _ e=>by cases e
   exact J ⟨Q,q,a⟩ _ _ ⟨(ai.trans A).size,L,d,i,I,B,b0,ad,N,P,⟨bb,b9,ba⟩,al,aa⟩ ⟨rfl,rfl,rfl,rfl,rfl,trivial⟩
 .rintro⟨Q,q,a⟩ H ⟨zt,L,d,i,I,B,eqb,ad,N,P,⟨bb,b9,ba⟩,al,du⟩;simp only at zt d i I B eqb ad N P bb b9 ba al
  obtain⟨y1,y2,y3,y4⟩:=Xfg r.c s (o:Nat) size;have ac:a.c=r.c/\a.cp=r.cp:=⟨d.1,d.2.1⟩;have cp:=eqb.trans R;have da:q.bS.length<=4096:=by rw[show q.bS=(Zp r.c s (o:Nat) size).bS from congrArg PlcM.bS ad];exact pf
  have ey:∀w',Xc Xf H w'->Xe prog 209 #[.agg (X5 a.c a.cp).toArray,.agg (Xw q).toArray] w' (Grow (W (Zt a.c q)) w'):=λw' F=>Xcl a.c a.cp q w' ((i.bQ F).cO) (N.bQ F) (by rw[ac.1];exact ag) X;have aa:0<=a.ra.cM/\a.ra.cM<=1152921504606846976:=by rw[i.rs];exact du
  refine aQ 13 Xf xK Y λO=>aE O I Y (aG O (λw' F=>(Pw (w:=w') (r:=a))) Y (aE O B Y (aE O I Y (aE O B Y (aG O (λw' F=>ey w' F) Y ?_)))));have ez:=Lb (c:=r.c) (q:=q) ag da;obtain⟨E,ehn⟩:=XE ez.1;have f0:Ym r.c q=true:=by rw[Xif,show Xz q=Zp r.c s (o:Nat) size from ad];exact pv
  rw[show Zt a.c q=((E:Nat):Int) by rw[ac.1];exact ehn];have f1:∀w',Xc Xf H w'->Xe prog 207 #[.agg (Ak a.c a.cp a.ra).toArray,.agg (Xw q).toArray,W 0,W (E:Nat)] w' (λv T=>Xc Xf w' T/\∃x:RA,v=Mg a.c a.cp x/\Jr r.c H a.ra q 0 (X7 E) x T/\∀b,H.heap.size<=b->(b<w'.heap.size\/T.heap.size<=b)->Xj (λz=>z=b) x.a):=λw' F=>by
   have be:=Fj E;have c6:a.ra.bs=s.bs:=by rw[i.rb,y3]
   have hh:=XgA a.c a.cp a.ra q 0 E w' ((i.bQ F).cO) (N.bQ F) (by rw[ac.1];exact ag) da (by rw[ac.1];exact Kk f0 X X X) ((i.bQ F).ra) (by rw[c6,ac.1];exact hs.bl) aa;rw[ac.1] at hh⊢;refine hh.mono λv T ⟨x,x1,x2,x3,x4,x5,x6⟩=>⟨x6,x,x1,⟨by rw[be];exact x2,by rw[be];exact x3,x4,?_,?_⟩,λb hb gq=>?_⟩
   .exact x5.imp id (λ⟨g,off,e,hg⟩=>⟨g,off,e,xH F.size⟩)
   .exact λb' off' s' e=>x4.rd.block (by rw[x2,Ks,c6];exact d3) e
   .intro b' off' s' e G;have gs:=x4.rd.block (by rw[x2,Ks,c6];exact d3) e;rcases x5 with e'|⟨g,off,e',hg⟩
    .have:=i.la b' off' s' (e'▸e);omega
    .rw[e'] at e;cases e;omega
  refine Xd.callAllocG (Mg a.c a.cp) (Jr r.c H a.ra q 0 (X7 E)) ((λx b=>Xj (λz=>z=b) x.a)) Xb O rfl rfl rfl (λ_=>rfl) rfl (λ_=>rfl) (λ_=>rfl) rfl rfl (λ_ _=>rfl) rfl (λ_ _=>rfl) (f1) (Xao) ((λ_ h=>h.elim)) ?_;rintro nb x gt gu f4 dy ⟨q1,q2,q3,q4,q5⟩ f5;refine Xd.cK O rfl λgv ao=>Xo.store Xb O rfl (ao.bP f4) (by first|(intro h;exact rfl)|(intro h;omega)) rfl rfl rfl λf6 cr bi g3=>aF O Y λf7 b3=>?_;have gw:=ao.size;have c7:=(dy.trans ao).sn bi;have C:=c7.trans b3;have cs:Yp f6 x:=⟨((q3.bQ ao).rd).bW f5 bi,q3.len,q3.lc,q3.rng⟩;have ct:=b3.bP cr;have cu:=C.bP I;have cv:=C.bP B;refine bB ct Y (bF cu Y λc8 b4 U g4=>?_);obtain⟨bf,ap⟩:∃bf:SR,bf={a with ra:=x}:=⟨_,rfl⟩;replace b4:Zo c8 tb bf:=by rw[ap];exact b4
  have be:=Fj E;have cw:=i.rb;have br:=ad;have g5:0<=Zb r.c q 0 E/\Zb r.c q 0 E<=50000000:=by
   have:=Lj (q:=q) (at':=0) (n:=E) ag;omega
  have cx:x.cM=Xu (Yb r.c s (o:Nat) size).rm.tot (Zb r.c (Zp r.c s (o:Nat) size).cQ 0 E):=by
   rw[q2,be,<-br,<-Jx,i.rs,Cs (by have:=aa;rw[i.rs] at this;omega)]
  have dz:Zf f7 bf (Yk r.c (Yb r.c s (o:Nat) size) (Zp r.c s (o:Nat) size) 0 (X7 E)):=by
   have h1:=i.putRa C (ra:=x) (bs:=Ac r.c (Zp r.c s (o:Nat) size).cQ (Yb r.c s (o:Nat) size).bs 0 (X7 E) (X7 E).length) (t:=Xu (Yb r.c s (o:Nat) size).rm.tot (Zb r.c (Zp r.c s (o:Nat) size).cQ 0 (X7 E).length)) (cs.bQ b3) (by rw[q1,cw,<-br,<-Ni]) (by rw[be];exact cx) (q5.bQ ((ao.gr.trans bi).size|> λh=>xH b3.size));rw[ap];exact h1
  have aq:Zz Q r bf:=⟨by rw[ap];exact d.1,by rw[ap];exact d.2.1,λS hS c9=>by
   have ca:=d.2.2 S hS c9;have f8:=ca.ra.newer q4 (λz G=>xH (hS z G));rw[ap];exact {ca with ra:=f8}⟩
  have bt:=(L.trans C).sn U;have e0:=dz.bW (aq.2.2 (λz=>z=tb) (λz e=>X) (h.out λz e=>X)) (by have:=h.cO.bR bt;rw[aq.1,aq.2.1];exact this) U;have cy:=U.heap cv (λe=>ltp e.symm);refine bB b4 Y (bB cy Y (aO Y ?_));have cb:=N.bQ C;have e6:Zw c8 q:=⟨cb.rd.bW (λb' off s' e G=>xH (al b' off s' e)) U,cb.len⟩;have f9:=V3 e0 (show(Yb r.c s (o:Nat) size).th.length<=4096 by rw[y1];exact Th hs) o (show o<(Yb r.c s (o:Nat) size).th.length by rw[y1];exact ho) ⟨size,q⟩ (some ⟨size,Zp r.c s (o:Nat) size⟩) ⟨rfl,λy e=>by cases e;exact br⟩ ⟨e6,(P.bQ C.size).bQ U.size⟩;refine aP Y (f9) ?_;rintro _ gx ⟨db,rfl,fa,⟨e7,ea,eb⟩,cc⟩;refine aN Y ?_;have cz:=C.bP cp;have d0:=cc.bP (U.heap cz (xH (Xg R)));refine bF d0 Y λgy d1 cd g6=>?_;have lqb:=Xg R;have bu:=(bt.trans cc).sn cd;have zu:Q.heap.size<=c8.heap.size:=xI C.size U.size
  have dc:Zz T r db:=⟨e7.trans aq.1,ea.trans aq.2.1,λS hS c9=>eb S (λz G=>xH (hS z G)) (aq.2.2 S (λz G=>xH (hS z G)) c9) (λb' off s' e G=>xI (hS _ G) (al b' off s' e))⟩;have eL:Qs r.c s (o:Nat) size={Yk r.c (Yb r.c s (o:Nat) size) (Zp r.c s (o:Nat) size) 0 (X7 E) with th:=(Yb r.c s (o:Nat) size).th.set o (some ⟨size,Zp r.c s (o:Nat) size⟩)}:=by
   unfold Qs;rw[y1,XA,<-br,<-Xie,ehn,XA]
  rw[eL];exact aK func137 d1 Y ⟨db,rfl,h.box dc fa X X cd bu,dc.dC ei,bu⟩
theorem XgC(h:Zf w r s)(hs:s.Ok r.c)(o size:Int)(ht:0<=s.rm.tot/\s.rm.tot<=999999000000):Xe prog 82 #[.agg (Yc r).toArray,W o,W size] w
 (λv w'=>∃r',v=.tuple #[.agg (Yc r').toArray,W (Cm r.c s o size)]/\Ei w r (Q1 r.c s o size) r' w'):=by
 refine aR func82 ntmps82 Y (bC Y λb U e1 M I S=>bC Y λqb V e2 B C T=>?_);have D:=C.bP M;have d:=I.trans C;have lq:=Xg B;refine bB D Y (bG (V2 (h.bQ d) hs o) Y λw3 i=>?_);have k:=i.bP D;have f:=i.bP B;have a:=d.trans i;by_cases x:Z9 s o=1
 .have e:Cm r.c s o size=1:=by unfold Cm;rw[bK x]
  have eS:Q1 r.c s o size=s:=by unfold Q1;rw[bJ (by rw[e];decide)]
  rw[e,eS];refine bI Y ?_;exact bB k Y (bF f Y λwr n p J=>aK func82 n Y ⟨r,rfl,.self h (a.sn p)⟩)
 .by_cases H:Z9 s o=0
  .have e:Cm r.c s o size=10:=by unfold Cm;rw[bJ x,bK H]
   have eS:Q1 r.c s o size=s:=by unfold Q1;rw[bJ (by rw[e];decide)]
   rw[e,eS];refine aS Y (bI Y ?_);exact bB k Y (bF f Y λwr n p J=>aK func82 n Y ⟨r,rfl,.self h (a.sn p)⟩)
  .have e:Cm r.c s o size=Ys r.c s size:=by unfold Cm;rw[bJ x,bJ H]
   obtain⟨j,rfl,N,O⟩:=XbU x H;refine aS Y (aS Y (bB k Y (bG (Sz (h.bQ a) hs size) Y λw4 l=>?_)));have q:=l.bP k;have t:=l.bP f;have c:=a.trans l;by_cases gf:Ys r.c s size=0
   .have eS:Q1 r.c s (j:Nat) size=Qs r.c s (j:Nat) size:=by unfold Q1;rw[bK (e.trans gf)]
    rw[e,eS,gf];refine aS Y (bB q Y (aP Y (XgJ (h.bQ c) hs N gf (StM.OkP.lay hs O gf (λ_ _ e=>by cases e)) ht) ?_));rintro _ P ⟨Q,rfl,y⟩;refine aN Y ?_;refine bF (y.2.2.bP t) Y λR g m K=>?_;have u:=(c.trans y.2.2).sn m;have E:=y.2.1.dC ((i.trans l).size);exact aK func82 g Y ⟨Q,rfl,h.box E y.1 X X m u,E.dC d.size,u⟩
   .have eS:Q1 r.c s (j:Nat) size=s:=by unfold Q1;rw[bJ (by rw[e];exact gf)]
    rw[e,eS];exact aM Y (xU gf) (aQ 4 Xf xK Y λA=>aE A q Y (aE A q Y (aG A (λw' L=>Sz (h.bQ (c.trans L)) hs size) Y (aF A Y λP F=>bF (F.bP t) Y λR g m K=>aK func82 g Y ⟨r,rfl,.self h ((c.trans F).sn m)⟩))))
abbrev Xhy(x:SR):dE:=.agg (Yc x).toArray
theorem Xag(hs:s.Ok c)(κ:Int)(ht:0<=s.rm.tot/\s.rm.tot<=1000000000000):0<=(X8 s κ).rm.tot/\(X8 s κ).rm.tot<=s.rm.tot+20000:=by
 unfold X8;cases hm:Xx s κ with
 |none=>exact⟨ht.1,by show s.rm.tot<=_;omega⟩
 |some m=>exact Xc8 hs _ _ ht
theorem Zf.trowP(h:Zf w r s){t:ThM}(ht:s.th[j]?=some (some t)):∃(hj:j<r.ts.length),(r.ts[j].size=t.size/\Xz r.ts[j].q=t.q)/\Zw w r.ts[j].q/\Yw w r.ts[j].q.pa/\∃b off,r.ta=some ⟨b,off,none⟩/\(∀v,(D5 r.ts[j])[0]?=some v->w.cell? ⟨b,off+j*5,none⟩=some v)/\(∀v,(D5 r.ts[j])[1]?=some v->w.cell? ⟨b,off+j*5+1,none⟩=some v)/\∀i v,(Xw r.ts[j].q)[i]?=some v->w.cell? ⟨b,off+j*5+1+i,none⟩=some v:=by
 have hj:j<r.ts.length:=by rw[h.tn];exact(XC.1 ht).1
 obtain⟨⟨d,f⟩,b,off,e,c⟩:=h.trow hj;obtain⟨g,k⟩:=h.tq _ (XL hj);refine⟨hj,⟨by rw[d,Hk ht];rfl,f t (Hk ht)⟩,g,k,b,off,e,λv a=>c 0 v a,λv a=>c 1 v a,λi v a=>?_⟩;rw[YX];exact c (1+i) v (by rw[<-a,Nat.add_comm];rfl)
theorem XgF(h:Zf w r s)(hs:s.Ok r.c)(o:Int)(ht:0<=s.rm.tot/\s.rm.tot<=999999000000):Xe prog 83 #[.agg (Yc r).toArray,W o] w
 (λv w'=>∃r',v=.tuple #[.agg (Yc r').toArray,W (Z9 s o)]/\Ei w r (Aq r.c s o) r' w'):=by
 refine aR func83 ntmps83 Y (bC Y λb w1 e1 hb af be=>bC Y λqb f e2 Q R bf=>?_);have T:=R.bP hb;have m:=af.trans R;have lq:=Xg Q;refine bB T Y (bG (V2 (h.bQ m) hs o) Y λL c=>?_);have y:=c.bP T;have A:=c.bP Q;have g:=m.trans c;by_cases B:Z9 s o=0
 .obtain⟨j,t,rfl,C⟩:=J4 B;obtain⟨t',f1,f2,f3,f4,f5⟩:=My hs C;have F:=Lm hs t.q.cL;have eS:Aq r.c s (j:Nat)=Ax r.c {X8 s t.q.cL with th:=(X8 s t.q.cL).th.set j none} t'.q:=by
   unfold Aq;rw[bJ (λe=>e B),Y5 C,Y5 f1,XA]
  have h3:=h.bQ g;obtain⟨bg,⟨_,v2⟩,_,_,a0,off,eta,_,ag,_⟩:=h3.trowP C;rw[eS,B];refine aS Y (aQ 10 Xf xK Y λa=>aE a y Y (aE a y Y ?_));rw[eta];refine aB (j*5) a Y (aD a (ag _ rfl) Y ?_);rw[show r.ts[j].q.cL=t.q.cL from congrArg PlcM.cL v2,<-eta];have hd:∀w',Xc Xf L w'->Xe prog 138 #[.agg (Yc r).toArray,W t.q.cL] w' (λv f=>Xc Xf w' f/\∃x,v=Xhy x/\Rb L r (X8 s t.q.cL) x f/\∀b,L.heap.size<=b->(b<w'.heap.size\/f.heap.size<=b)->W6 x b):=λw' d=>
   (XgE (h3.bQ d) hs t.q.cL ⟨ht.1,X⟩).mono λv f ⟨x,a1,M,a3,N⟩=>⟨N,x,a1,⟨M,a3.dC d.size,d.trans N⟩,XhA h3 M a3⟩
  refine Xd.callAllocG (Xhy) (Rb L r (X8 s t.q.cL)) (W6) Xb a rfl rfl rfl (λ_=>rfl) rfl (λ_=>rfl) (λ_=>rfl) rfl rfl (λ_ _=>rfl) rfl (λ_ _=>rfl) (hd) (Xhz) ((λ_ h=>h.elim)) ?_;rintro nb x w4 bh ai aj ⟨q1,O,q3⟩ hG;refine aF a Y λw5 D=>bF (D.bP ai) Y λw7 E U bi=>?_;have i:=(aj.trans D).sn U;have H:=g.trans i;have V:=(q1.bQ D).bW hG (by have:=h.cO.bR (g.trans i);rw[O.1,O.2.1];exact this) U;obtain⟨bj,⟨_,y2⟩,p1,p2,b0,b7,aa,_,_,a5⟩:=V.trowP f1;obtain⟨q,eq⟩:∃q:Plc,q=x.ts[j].q:=⟨_,rfl⟩;rw[<-eq] at y2 p1 p2 a5;refine bB E Y ?_;rw[aa];refine aU (j*5) Y (Xa.loadC Xb ((Xw q)) rfl xT (a5) rfl (bC Y λpb w8 e8 ab al bk=>bF ab Y λw9 ac an bm=>?_));have k:=al.sn an;have ao:∀w',Xc Xf w9 w'->Xe prog 140 #[.agg (Yc x).toArray,W (j:Nat),.agg (D5 N5).toArray] w' (λv f=>Xc Xf w' f/\∃r',v=.agg (Yc r').toArray/\Zf f r' {X8 s t.q.cL with th:=(X8 s t.q.cL).th.set j none}/\Zz w9 x r'):=λw' d=>
   (V3 ((V.bQ k).bQ d) (Th F.ok) j ((XC.1 f1).1) N5 none ⟨rfl,λ_ e=>by cases e⟩ ⟨J6 _ _ _,λ_ _ _ e=>by cases e⟩).mono λv f ⟨r',a1,M,⟨b1,b2,b3⟩,N⟩=>⟨N,r',a1,M,b1,b2,λS hS ho=>b3 S (λz G=>xI (hS z G) d.size) ho (λ_ _ _ e=>by cases e)⟩
  refine aQ 5 Xf xK Y λa=>aE a (k.bP E) Y (Xd.build Xb a rfl rfl (aE a ac Y (Xd.callQ a rfl rfl (ao) ?_)));rintro _ bn ad ⟨ap,rfl,ae,I⟩;refine Xd.adv Xb a rfl (aF a Y λbo J=>?_);have l:=ad.trans J;have ec:=I.1.trans O.1;have aq:=Xag hs t.q.cL ⟨ht.1,X⟩;have ar:StM.OkP ap.c {X8 s t.q.cL with th:=(X8 s t.q.cL).th.set j none} (some (j,Xz q)):=by rw[ec,y2];exact F.ok.away f1 f5
  refine aP Y (XgI (ae.bQ J) q ar ((p1.bQ k).bQ l) ⟨aq.1,by show(X8 s t.q.cL).rm.tot<=_;omega⟩) ?_;rintro _ bp ⟨au,rfl,n⟩;refine aN Y ?_;rw[ec,y2] at n;have p:=(k.trans l).trans n.2.2;have z7:=H.size;have bq:=i.size;refine bF (p.bP (i.bP A)) Y λbr P K bd=>?_;have u:=(H.trans p).bU K (λz G e=>xH c.size);have a6:=(O.dC c.size).trans (I.trans n.2.1 l.size) (xH c.size);exact aK func83 P Y ⟨au,rfl,h.box a6 n.1 X (xH c.size) K u,a6.dC m.size,u⟩
 .have eS:Aq r.c s o=s:=by unfold Aq;rw[bK B]
  rw[eS];refine aM Y (xU B) ?_;exact bB y Y (bF A Y λwr av aw bs=>aK func83 av Y ⟨r,rfl,.self h (g.sn aw)⟩)
theorem Xm.rd8(h:Xm base 5 1 w v n (l.map (Value.int .u8)))(hn:l.length=n):∃a cap,v=.slice a n cap/\Rd .u8 w a l/\∀b off s,a=some ⟨b,off,s⟩->base<=b/\b<w.heap.size:=by
 rcases h.2 with⟨rfl,f⟩|⟨g,cap,cur,rfl,i,d,j,k,_,c⟩
 .subst f;have:l=[]:=ZZ.1 hn;subst this;exact⟨none,0,rfl,Rd.nil _ _ _,(by intro b off s e;cases e)⟩
 .exact⟨_,cap,rfl,Rd.of_take d (by rw[hn];rw[ZS] at c;exact c),(by intro b off s e;cases e;exact⟨i,Xg d⟩)⟩
abbrev Vx(c:Conf)(p:Yz)(ra:RA)(n:Nat)(x:Option dF×Nat):dE:=.tuple #[.agg (Ak c p ra).toArray,.slice x.1 n x.2,.int .i64 0]
abbrev Pt(l:List Int)(base:Nat)(x:Option dF×Nat)(w2:dD):Prop:=Rd .u8 w2 x.1 l/\∀b off s,x.1=some ⟨b,off,s⟩->base<=b/\b<w2.heap.size
theorem Xgg:∀x w2 w3,Pt l base x w2->Xc Xf w2 w3->Pt l base x w3:=λ_ _ _ ⟨a,b⟩ c=>⟨a.bR c,λb' off s e=>⟨(b b' off s e).1,xI (b b' off s e).2 c.size⟩⟩
theorem XmZ(h:Zf w r s)(hs:s.Ok r.c)(o i n:Int)(hi : -9223372036854775808<=i/\i<=9223372036854775807)(hn : -9223372036854775808<=n/\n<=9223372036854775807)(ht:0<=s.rm.tot/\s.rm.tot<=999999000000):Xe prog 142 #[.agg (Yc r).toArray,W o,W i,W n] w
 (λv w'=>∃r' a cap,v=.tuple #[.agg (Yc r').toArray,.slice a (Cn r.c s o i n).length cap,W (Qt s o i n)]/\Rd .u8 w' a (Cn r.c s o i n)/\(∀b off s',a=some ⟨b,off,s'⟩->w.heap.size<=b/\b<w'.heap.size)/\Ei w r (Cc r.c s o i n) r' w'):=by
 have l:=hs.may;refine aR func142 ntmps142 Y (bC Y λb w1 e1 hb aa az=>bC Y λqb F e2 ab P b0=>?_);have Q:=P.bP hb;have G:=aa.trans P;refine bB Q Y (bG (XgK (h.bQ G) hs o i n hi hn) Y λH y=>?_);have g:=y.bP Q;have m:=y.bP ab;have c:=G.trans y;have z3:=y.size;by_cases p:Qt s o i n=0
 .obtain⟨j,t,i',n',rfl,A,rfl,rfl,h5,ac,ad⟩:=Xak hs p;have h3:=h.bQ c;obtain⟨b1,⟨_,I⟩,p1,p2,a0,off,eta,_,_,R⟩:=h3.trowP A;obtain⟨q,eq⟩:∃q:Plc,q=r.ts[j].q:=⟨_,rfl⟩;rw[<-eq] at I p1 p2 R;have af:q.bS.length<=4096:=by have e:q.bS=t.q.bS:=congrArg PlcM.bS I;rw[e];exact ad
  have a2:Qy r.c q i' n'=0:=by rw[Xa3,I];exact ac
  have eR:Cc r.c s (j:Nat) (i':Nat) (n':Nat)=Y3 s (Zb r.c t.q.cQ i' n'):=by unfold Cc;rw[bK p,Y5 A,XA,XA]
  have eB:Cn r.c s (j:Nat) (i':Nat) (n':Nat)=Yh r.c q s.bs i' n':=by unfold Cn;rw[bK p,Y5 A,XA,XA,Xc7 r.c q,I]
  obtain⟨ra',era⟩:∃ra':RA,ra'={r.ra with cM:=r.ra.cM+Zb r.c q i' n'}:=⟨_,rfl⟩;have ag:(r.ra.bs.length:Int)=r.c.size*r.c.bS:=by rw[h.rb];exact hs.bl
  have J:(Yh r.c q s.bs i' n').length=n':=by unfold Yh;simp
  rw[eR,eB,p];refine aS Y ?_;rw[J];have T:=h.rs;have b2:=Lj (q:=q) (at':=i') (n:=n') l;have b3:=(hs.size j t A).2;have b4:=(Zr l).cH;have hd:∀w',Xc Xf H w'->Xe prog 213 #[.agg (Ak r.c r.cp r.ra).toArray,.agg (Xw q).toArray,W (i':Nat),W (n':Nat)] w' (λv F=>Xc Xf w' F/\∃x,v=Vx r.c r.cp ra' n' x/\Pt (Yh r.c q s.bs i' n') H.heap.size x F/\∀b,H.heap.size<=b->(b<w'.heap.size\/F.heap.size<=b)->Xj (λz=>z=b) x.1):=λw' k=>
   (Xgy r.c r.cp r.ra q i' n' w' ((h3.bQ k).cO) (p1.bQ k) l af a2 ((h3.bQ k).ra) ag (by rw[T];omega)).mono λv F ⟨u1,x1,x2,x3⟩=>by
    rw[h.rb] at x2;obtain⟨a,cap,rfl,y1,y2⟩:=x2.rd8 J;have:=c.size;have:=k.size;exact⟨x3,(a,cap),by rw[x1,era],⟨y1,λb off s' e=>⟨xH (y2 b off s' e).1,(y2 b off s' e).2⟩⟩,λb hb b5 b' off s' e K=>xH (y2 b' off s' e)⟩
  refine aQ 18 Xf xK Y λf=>aE f g Y (aG f (λw' k=>(Pw (w:=w') (r:=r))) Y (aE f g Y ?_));rw[eta];refine aB (j*5) f Y (Xd.loadC Xb f ((Xw q)) rfl xT (R) (by first|exact λh=>h|(intro h;omega)|assumption) rfl (Xd.callAllocG (Vx r.c r.cp ra' n') (Pt (Yh r.c q s.bs i' n') H.heap.size) ((λx b=>Xj (λz=>z=b) x.1)) Xb f rfl rfl rfl (λ_=>rfl) rfl (λ_=>rfl) (λ_=>rfl) rfl rfl (λ_ _=>rfl) rfl (λ_ _=>rfl) (hd) (Xgg) ((λ_ h=>h.elim)) ?_));rintro nb x w4 b6 ai aj ⟨q1,q2⟩ hG;refine Xd.cK f rfl λw5 B=>Xo.store Xb f rfl (B.bP ai) (by first|(intro h;exact rfl)|(intro h;omega)) rfl rfl rfl λw6 a5 L b7=>aF f Y λw7 C=>?_;have u:=((aj.trans B).sn L).trans C;refine bB (C.bP a5) Y (bF (u.bP g) Y λw8 D E b8=>?_);obtain⟨M,N⟩:∃M:SR,M={r with ra:=ra'}:=⟨_,rfl⟩;replace D:Zo w8 b M:=by rw[N];rw[era] at D⊢;exact D
  refine bB D Y (bF (E.heap (u.bP m) X) Y λw9 a6 O b9=>?_);have d:=((c.trans u).sn E).sn O;have U:∀b',b'<H.heap.size->Xj (λz=>z=b') x.1:=λb' h2 b'' off' s' e K=>by
   have:=(q2 b'' off' s' e).1;omega
  have a7:Yp w9 ra':=by rw[era];exact⟨(h.ra.bQ d).rd,h.ra.len,h.ra.lc,h.ra.rng⟩
  have V:=h.putRa d (ra:=ra') (bs:=s.bs) (t:=Xu s.rm.tot (Zb r.c t.q.cQ i' n')) a7 (by rw[era];exact h.rb) (by rw[era,<-I,<-Jx];show r.ra.cM+_=_;rw[T,Cs X]) (by rw[era];exact h.la.bQ d.size);rw[<-N] at V;have hk:Zz w r M:=by rw[N,era];exact⟨rfl,rfl,λS hS ho=>{ho with ra:=ho.ra}⟩
  have ba:=d.size;exact bD rfl func142 (Xi.cell rfl rfl rfl a6 rfl (.tmp rfl (.tmp rfl .nil))) ⟨M,x.1,x.2,rfl,(((((q1.bR B).bW hG L).bR C).bW (U b (Xg g)) E).bW (U qb (Xg m)) O),λb' off' s' e=>⟨xI (q2 b' off' s' e).1 c.size,by have:=(q2 b' off' s' e).2;have:=B.size;have:=L.size;have:=C.size;have:=E.size;have:=O.size;omega⟩,V,hk,d⟩
 .have eR:Cc r.c s o i n=s:=by unfold Cc;rw[bJ p]
  have eB:Cn r.c s o i n=[]:=by unfold Cn;rw[bJ p]
  rw[eR,eB];exact aM Y (xU p) (bB g Y (bF m Y λw4 a8 al bb=>aK func142 a8 Y ⟨r,none,0,rfl,Rd.nil _ _ _,(by intro b off s e;cases e),.self h (c.sn al)⟩))
theorem Xdw{r x:RA}(hal:Yw w r.a)(hpos:0<r.bs.length)(hw':Xc Xf w w')(x2:x.bs=Ac c q r.bs i l l.length)(x3:x.cM=r.cM+Zb c q i l.length)(x4:Yp w2 x)(x5:Gg w' r.a x.a):Jr c w r q i l x w2/\∀b,w.heap.size<=b->(b<w'.heap.size\/w2.heap.size<=b)->Xj (λz=>z=b) x.a:=by
 have a:0<x.bs.length:=by rw[x2,Ks];exact hpos
 refine⟨⟨x2,x3,x4,?_,λb' off' s' e=>x4.rd.block a e⟩,λb j f b' off' s' e k=>?_⟩
 .exact x5.imp id (λ⟨g,off,e,d⟩=>⟨g,off,e,xH hw'.size⟩)
 .have h:=x4.rd.block a e;rcases x5 with e'|⟨g,off,e',d⟩
  .have:=hal b' off' s' (e'▸e);omega
  .rw[e'] at e;cases e;omega
theorem Xe7(h:s.OkP c pd){t:ThM}(ht:s.th[o]?=some (some t)){m:MvM}(hm:Xx s t.q.cL=some m):t.size<=m.size:=by
 obtain⟨k,ek,_,a⟩:=Ao hm;exact R9 h a ht ek
theorem XaV(h:s.OkP c pd):0<s.bs.length:=by
 have a:=Zr h.may;have b:1*64<=c.bS*c.size:=ZH (xH a.bS) (xH a.size) X (xH a.bS);rw[YK c.bS] at b;rw[<-h.bl] at b;omega
theorem Xm1(h:Zf w r s)(hs:s.Ok r.c)(o i:Int)(a:Option dF)(cap:Nat)(l:List Int)(hi : -9223372036854775808<=i/\i<=9223372036854775807)(hr:Rd .u8 w a l)(hl:l.length<=9223372036854775807)(hin:Qo l)(ht:0<=s.rm.tot/\s.rm.tot<=999900000000):Xe prog 143 #[.agg (Yc r).toArray,W o,W i,.slice a l.length cap] w
 (λv w'=>∃r',v=.tuple #[.agg (Yc r').toArray,W (Qt s o i l.length)]/\Ei w r (Cx r.c s o i l) r' w'):=by
 have A:=hs.may;have ak:=XaV hs;refine aR func143 ntmps143 Y (bC Y λb w1 e1 hb al bp=>bC Y λqb L e2 a5 a6 bq=>?_);have a7:=a6.bP hb;have B:=al.trans a6;have lq:=Xg a5;refine bB a7 Y (bG (XgK (h.bQ B) hs o i l.length hi X) Y λI C=>?_);have u:=C.bP a7;have M:=C.bP a5;have d:=B.trans C;have z3:=C.size;by_cases N:Qt s o i l.length=0
 .obtain⟨j,t,i',n',rfl,y,rfl,en,h5,am,an⟩:=Xak hs N;obtain rfl:l.length=n':=X
  have U:=h.bQ d;obtain⟨br,⟨_,J⟩,p1,p2,a0,off,eta,_,_,a8⟩:=U.trowP y;obtain⟨q,eq⟩:∃q:Plc,q=r.ts[j].q:=⟨_,rfl⟩;rw[<-eq] at J p1 p2 a8;have ap:q.bS.length<=4096:=by have e:q.bS=t.q.bS:=congrArg PlcM.bS J;rw[e];exact an
  have ac:Qy r.c q i' l.length=0:=by rw[Xa3,J];exact am
  have eW:Cx r.c s (j:Nat) (i':Nat) l=Af (Yk r.c s t.q i' l) (j:Nat) i' l.length:=by unfold Cx;rw[bK N,Y5 y,XA]
  have aq:(r.ra.bs.length:Int)=r.c.size*r.c.bS:=by rw[h.rb];exact hs.bl
  have O:=h.rs;have ar:=Lj (q:=q) (at':=i') (n:=l.length) A;have b7:0<=Zb r.c t.q.cQ i' l.length/\Zb r.c t.q.cQ i' l.length<=2*l.length+1:=by have:=ar;rw[Jx,J] at this;exact this
  have bt:=(hs.size j t y).2;have bu:=(Zr A).cH;have a9:Xu s.rm.tot (Zb r.c t.q.cQ i' l.length)=s.rm.tot+Zb r.c t.q.cQ i' l.length:=Cs X;rw[eW,N];refine aS Y ?_;have hd:∀w',Xc Xf I w'->Xe prog 214 #[.agg (Ak r.c r.cp r.ra).toArray,.agg (Xw q).toArray,W (i':Nat),.slice a l.length cap] w' (λv L=>Xc Xf w' L/\∃x,v=Mg r.c r.cp x/\Jr r.c I r.ra q i' l x L/\∀b,I.heap.size<=b->(b<w'.heap.size\/L.heap.size<=b)->Xj (λz=>z=b) x.a):=λw' c=>
   (Xcn r.c r.cp r.ra q i' a cap l w' ((U.bQ c).cO) (p1.bQ c) A ap ac ((U.bQ c).ra) aq (by rw[O];omega) (hr.bR (d.trans c)) hin).mono λv L ⟨x,x1,x2,x3,x4,x5,x6⟩=>
    ⟨x6,x,x1,Xdw U.la (by rw[h.rb];exact ak) c x2 x3 x4 x5⟩
  refine aQ 16 Xf xK Y λf=>aE f u Y (aG f (λw' c=>(Pw (w:=w') (r:=r))) Y (aE f u Y ?_));rw[eta];refine aB (j*5) f Y (Xd.loadC Xb f ((Xw q)) rfl xT (a8) (by first|exact λh=>h|(intro h;omega)|assumption) rfl (Xd.callAllocG (Mg r.c r.cp) (Jr r.c I r.ra q i' l) ((λx b=>Xj (λz=>z=b) x.a)) Xb f rfl rfl rfl (λ_=>rfl) rfl (λ_=>rfl) (λ_=>rfl) rfl rfl (λ_ _=>rfl) rfl (λ_ _=>rfl) (hd) (Xao) ((λ_ h=>h.elim)) ?_));rintro nb x w4 bv au av ⟨q1,q2,V,q4,q5⟩ hG;refine Xd.cK f rfl λw5 D=>Xo.store Xb f rfl (D.bP au) (by first|(intro h;exact rfl)|(intro h;omega)) rfl rfl rfl λw6 ad P bw=>aF f Y λw7 E=>?_;have ae:=(av.trans D).sn P;have k:=ae.trans E;have af:=d.trans k;have z7:=k.size;have p:Yp w6 x:=⟨((V.bQ D).rd).bW hG P,V.len,V.lc,V.rng⟩;have ag:=(q5.bQ D.size).bQ P.size;have ah:=E.bP ad;have ax:=k.bP u;refine bB ah Y (bF ax Y λw8 Q F bx=>?_);obtain⟨K,G⟩:∃K:SR,K={r with ra:=x}:=⟨_,rfl⟩;replace Q:Zo w8 b K:=by rw[G];exact Q
  have R:=af.sn F;have a2:∀b',w.heap.size<=b'->b'<I.heap.size->Xj (λz=>z=b') x.a:=λb' h1 h2 b'' off' s' e hz=>by
   rcases q4 with e'|⟨g,off,e',hg⟩
   .have:=h.la b'' off' s' (e'▸e);omega
   .rw[e'] at e;cases e;omega
  have ai:Yp w8 x:=⟨((p.bQ E).rd).bW (a2 b X (Xg u)) F,p.len,p.lc,p.rng⟩;have aa:=h.putRa R (ra:=x) (bs:=Ac r.c t.q.cQ s.bs i' l l.length) (t:=Xu s.rm.tot (Zb r.c t.q.cQ i' l.length)) ai (by rw[q1,h.rb,<-J,<-Ni]) (by rw[q2,O,<-J,<-Jx,Cs X]) ((ag.bQ E.size).bQ F.size);rw[<-G] at aa;have az:K.c=r.c:=by rw[G]
  have b0:Zz I r K:=by
   rw[G];exact⟨rfl,rfl,λS hS ho=>{ho with ra:=ho.ra.newer q4 hS}⟩
  have b2:(Yk r.c s t.q i' l).OkP K.c none:=by rw[az];exact StM.OkP.put hs _ _ hin
  refine bB Q Y (aP Y (XgL aa b2 j (show(Yk r.c s t.q i' l).th[j]?=some (some t) from y) i' l.length (λm hm=>xH (Xe7 hs y (show Xx s t.q.cL=some m from hm))) ⟨by show 0<=Xu s.rm.tot _;rw[a9];omega,by show Xu s.rm.tot _<=_;rw[a9];omega⟩) ?_);rintro _ w9 ⟨r9,rfl,h9⟩;refine aN Y ?_;refine bF (h9.2.2.bP (F.heap (k.bP M) X)) Y λbz a4 T bo=>?_;have H:=(R.trans h9.2.2).sn T;have ab:=(b0.dC z3).trans h9.2.1 X;exact aK func143 a4 Y ⟨r9,rfl,h.box ab h9.1 X X T H,ab.dC B.size,H⟩
 .have eW:Cx r.c s o i l=s:=by unfold Cx;rw[bJ N]
  rw[eW];exact aM Y (xU N) (bB u Y (bF M Y λw4 aj b3 c0=>aK func143 aj Y ⟨r,rfl,.self h (d.sn b3)⟩))
section
variable {c:Conf}{s:StM}{pd:Option (Nat×PlcM)}
theorem XoK(h:s.OkP c pd)(o size:Int)(ht:0<=s.rm.tot/\s.rm.tot<=1000000000000):0<=(Yb c s o size).rm.tot/\(Yb c s o size).rm.tot<=s.rm.tot+10000:=by
 unfold Yb;cases b:Di c s size with
 |none=>
  obtain⟨a,d,f⟩:=Xep h.rm o size;show 0<=(Ai c s.rm o size).tot/\(Ai c s.rm o size).tot<=_
  rw[<-a];show 0<=Xu s.rm.tot _/\Xu s.rm.tot _<=_
  rw[Cs X];omega
 |some m=>
  show 0<=Xu (Qq s.rm _ m.pt m.ta o).tot 3/\Xu (Qq s.rm _ m.pt m.ta o).tot 3<=_
  have e:(Qq s.rm (Xl c.bT size) m.pt m.ta o).tot=s.rm.tot:=by unfold Qq;split <;> rfl
  rw[e,Cs X];omega
theorem Rh(hm:Xy c=true)(q:PlcM)(i:Nat)(l:List Int)(ht:0<=s.rm.tot/\s.rm.tot<=1000000000000)(hl:l.length<=25000000):0<=(Yk c s q i l).rm.tot/\(Yk c s q i l).rm.tot<=s.rm.tot+2*l.length+1:=by
 have:=Lj (q:=q.cQ) (at':=i) (n:=l.length) hm;show 0<=Xu s.rm.tot _/\Xu s.rm.tot _<=_
 rw[Cs X];omega
theorem Xc9(h:s.OkP c pd)(o:Nat)(ho:o<s.th.length)(size:Int)(hL:(Qs c s (o:Nat) size).OkP c pd2)(ht:0<=s.rm.tot/\s.rm.tot<=999999900000):0<=(Qs c s (o:Nat) size).rm.tot/\(Qs c s (o:Nat) size).rm.tot<=s.rm.tot+50020000:=by
 have b:=XoK h (o:Nat) size ⟨ht.1,X⟩;have a:(Qs c s (o:Nat) size).th[o]?=some (some ⟨size,Zp c s (o:Nat) size⟩):=by
  show(s.th.set (o:Int).toNat _)[o]?=_
  rw[XA,XH ho]
 obtain⟨pv,ph,pf⟩:=Jg hL a;have f:=Lb (c:=c) (q:=(Zp c s (o:Nat) size).cQ) h.may pf;have d:=Rh (s:=Yb c s (o:Nat) size) h.may (Zp c s (o:Nat) size) 0 (X7 (Zt c (Zp c s (o:Nat) size).cQ).toNat) ⟨b.1,X⟩ (by rw[Fj];omega);rw[Fj] at d;show 0<=(Yk c (Yb c s (o:Nat) size) _ _ _).rm.tot/\(Yk c (Yb c s (o:Nat) size) _ _ _).rm.tot<=_
 omega
end
set_option maxHeartbeats 1000000 in
theorem Xm0{s:StM}(h:Zf w r s)(hs:s.Ok r.c)(o size:Int)(hz : -9223372036854775808<=size/\size<=9223372036854775807)(ht:0<=s.rm.tot/\s.rm.tot<=999900000000):Xe prog 141 #[.agg (Yc r).toArray,W o,W size] w
 (λv w'=>∃r',v=.tuple #[.agg (Yc r').toArray,W (A2 r.c s o size)]/\Ei w r (Q7 r.c s o size) r' w'):=by
 have E:=hs.may;have hh:=XaV hs;have k1:=(Zr E).cH;refine aR func141 ntmps141 Y (bC Y λb w1 e1 hb hj k2=>bC Y λqb H e2 ff fg k3=>?_);have fh:=fg.bP hb;have bv:=hj.trans fg;have z2:=bv.size;have lq:=Xg ff;refine bB fh Y (bG (V2 (h.bQ bv) hs o) Y λw3 bp=>?_);have cz:=bp.bP fh;have d0:=bp.bP ff;have d1:=bv.trans bp;have no:∀{e:Int},A2 r.c s o size=e->e≠0->Q7 r.c s o size=s:=λe1 e2=>by unfold Q7;rw[bK (by rw[e1];exact e2)]
 by_cases g0:Z9 s o=0
 .obtain⟨j,t,rfl,u⟩:=J4 g0;rw[g0];refine aS Y (bB cz Y (bG (K3 r.c r.cp size w3) Y λw4 bq=>?_));have br:=bq.bP cz;have d2:=bq.bP d0;have b9:=d1.trans bq;by_cases gr:size<1\/r.c.cH<size
  .have e:A2 r.c s (j:Nat) size=3:=by unfold A2;rw[bJ (λe=>e g0),bK gr]
   rw[no e xD,e];have eb:(decide (1<=size) && decide (size<=r.c.cH))=false:=by
    rw[Bool.and_eq_false_iff,decide_eq_false_iff_not,decide_eq_false_iff_not];omega
   rw[eb];refine bI Y ?_;have bx:=br;have bz:=d2;have c0:=b9;exact bB bx Y (bF bz Y λwr d3 d4 hk=>aK func141 d3 Y ⟨r,rfl,.self h (c0.sn d4)⟩)
  .have e:A2 r.c s (j:Nat) size=if Ay r.c t.size size=true then 0 else Ys r.c s size:=by unfold A2;rw[bJ (λe=>e g0),bJ gr,C6 u]
   have eb:(decide (1<=size) && decide (size<=r.c.cH))=true:=by
    rw[XI,decide_eq_true_iff,decide_eq_true_iff];omega
   rw[eb];have k4:=hs.size j t u;have h4:=h.bQ b9;obtain⟨k5,⟨v1,v2⟩,p1,p2,a0,off,eta,hn,_,fi⟩:=h4.trowP u;obtain⟨q,eq⟩:∃q:Plc,q=r.ts[j].q:=⟨_,rfl⟩;rw[<-eq] at v2 p1 p2 fi;refine aS Y (bB br Y ?_);rw[eta];refine aU (j*5) Y (aW Y (hn _ rfl) Y ?_);rw[v1];refine bB br Y ?_;rw[eta];refine aU (j*5) Y (Xa.loadC Xb ((Xw q)) rfl xT (fi) rfl ?_);rw[<-eta];refine bC Y λpb w5 e5 g3 hp k6=>bF g3 Y λw6 g4 hq k7=>?_;have c7:=hp.sn hq;have g5:=b9.trans c7;have hr:=c7.bP br;refine bB hr Y (bG (Xm2 (h.bQ g5) hs t.size size X hz.2) Y λw7 d5=>?_);have j4:=d5;have I:=c7.trans d5;have a7:=b9.trans I;have ck:=I.bP br;have d6:=I.bP d2;have c8:=d5.bP g4;have hu:q.bS.length<=4096:=by have e:q.bS=t.q.bS:=congrArg PlcM.bS v2;rw[e];exact(Jg hs u).2.2
   by_cases M:Ay r.c t.size size=true
   .rw[bK M] at e;have eR:Q7 r.c s (j:Nat) size=if size<t.size then Af (D3 (Yk r.c s t.q size.toNat (X7 (t.size-size).toNat)) (j:Nat) ⟨size,t.q⟩) (j:Nat) size.toNat (t.size-size).toNat else D3 s (j:Nat) ⟨size,t.q⟩:=by
     unfold Q7;rw[bJ (λg=>g e),C6 u,Y5 u,bK M]
    rw[M,e,eR];refine bI Y ?_;have fj:=(XC.1 u).1;have h7:=h.bQ a7;refine bB ck Y (bB c8 Y (aO Y (aP Y (V3 h7 (Th hs) j fj ⟨size,q⟩ (some ⟨size,t.q⟩) ⟨rfl,λy e=>by cases e;exact v2⟩ ⟨p1.bQ I,p2.bQ I.size⟩) ?_)));rintro _ w8 ⟨r8,rfl,h8,⟨fk,fm,hw⟩,O⟩;refine aN Y ?_;have fn:Zz w7 r r8:=⟨fk,fm,λS hS ho=>hw S hS ho (by have:=ho.tq r.ts[j] (XL _);rw[<-eq] at this;exact this)⟩;refine bC Y λnb w9 e9 g9 cl k8=>bF g9 Y λb4 ai ba d7=>?_;have bb:=cl.sn ba;have P:=O.trans bb;have cm:=a7.trans P;have hx:=h8.bQ bb;have ga:=P.bP ck;have ec:=P.bP c8;have aj:=P.bP d6;have k9:=a7.size;have fo:H.heap.size<=w7.heap.size:=by have:=bp.size;have:=bq.size;have:=I.size;omega
    have z8:=O.size;have bt:=fn.dC fo;by_cases fp:size<t.size
    .rw[bK fp];obtain⟨sz,rfl⟩:=XE (show 0<=size by omega);obtain⟨d,ed⟩:=XE (show 0<=t.size-sz by omega);rw[ed,XA,XA];obtain⟨pv,ph,pf⟩:=Jg hs u;have hy:Qy r.c q sz d=0:=Lk v2 (Kk pv X X X);have i0:(r.ra.bs.length:Int)=r.c.size*r.c.bS:=by rw[h.rb];exact hs.bl
     have d8:=h.rs;have ca:=h.bQ cm;have hd:∀w',Xc Xf b4 w'->Xe prog 207 #[.agg (Ak r.c r.cp r.ra).toArray,.agg (Xw q).toArray,W (sz:Nat),W (d:Nat)] w' (λv H=>Xc Xf w' H/\∃x,v=Mg r.c r.cp x/\Jr r.c b4 r.ra q sz (X7 d) x H/\∀b,b4.heap.size<=b->(b<w'.heap.size\/H.heap.size<=b)->Xj (λz=>z=b) x.a):=λw' i=>
      (XgA r.c r.cp r.ra q sz d w' ((ca.bQ i).cO) ((p1.bQ (I.trans P)).bQ i) E hu hy ((ca.bQ i).ra) i0 (by rw[d8];omega)).mono λv H ⟨x,x1,x2,x3,x4,x5,x6⟩=>
       ⟨x6,x,x1,Xdw ca.la (by rw[h.rb];exact hh) i (by rw[Fj];exact x2) (by rw[Fj];exact x3) x4 x5⟩
     refine bI Y (aQ 13 Xf xK Y λf=>aE f ga Y (aG f (λw' i=>(Pw (w:=w') (r:=r))) Y (aE f ec Y (aC f Y ?_))));rw[ed];refine Xd.callAllocG (Mg r.c r.cp) (Jr r.c b4 r.ra q sz (X7 d)) ((λx b=>Xj (λz=>z=b) x.a)) Xb f rfl rfl rfl (λ_=>rfl) rfl (λ_=>rfl) (λ_=>rfl) rfl rfl (λ_ _=>rfl) rfl (λ_ _=>rfl) (hd) (Xao) ((λ_ h=>h.elim)) ?_;rintro mb x fq i1 da gd ⟨B,L,q3,q4,q5⟩ hG;refine Xd.cK f rfl λi3 a8=>Xo.store Xb f rfl (a8.bP da) (by first|(intro h;exact rfl)|(intro h;omega)) rfl rfl rfl λaq ef ar gf=>aF f Y λi4 a9=>?_;have db:=(gd.trans a8).sn ar;have R:=db.trans a9;have eg:Yp aq x:=⟨((q3.bQ a8).rd).bW hG ar,q3.len,q3.lc,q3.rng⟩;have ak:=eg.bQ a9;have eh:=((q5.bQ a8.size).bQ ar.size).bQ a9.size;have ei:=a9.bP ef;have ej:=R.bP ai;refine bB ei Y (bF ej Y λdc al bc ja=>?_);obtain⟨ae,au⟩:∃ae:SR,ae={r8 with ra:=x}:=⟨_,rfl⟩;replace al:Zo dc nb ae:=by rw[au];exact al
     have am:Xj (λz=>z=nb) x.a:=λb'' off' s' e hz=>by
      rcases q4 with e'|⟨g,off,e',hg⟩
      .have:=h.la b'' off' s' (e'▸e);omega
      .rw[e'] at e;cases e;omega
     have ka:=R.size;have cn:=(bb.trans R).sn bc;have ek:Yp dc x:=⟨ak.rd.bW am bc,ak.len,ak.lc,ak.rng⟩;have i5:=Lj (q:=q) (at':=sz) (n:=d) E;have dd:=h8.putRa cn (ra:=x) (bs:=Ac r.c t.q.cQ s.bs sz (X7 d) (X7 d).length) (t:=Xu s.rm.tot (Zb r.c t.q.cQ sz (X7 d).length)) ek (by rw[B,h.rb,<-v2,<-Ni]) (by rw[L,d8,Fj,<-v2,<-Jx,Cs X]) (eh.bQ bc.size);rw[<-au] at dd;have av:ae.c=r.c/\ae.cp=r.cp:=by rw[au];exact⟨fk,fm⟩
     have gg:Zz w7 r ae:=⟨av.1,av.2,λS hS ho=>by
      have h1:=fn.2.2 S hS ho;rw[au];exact {h1 with ra:=ho.ra.newer q4 (λz hz=>xH (hS z hz))}⟩
     have gi:Bp (λz=>z=nb) ae:=by
      have h1:Bp (λz=>z=nb) r8:=h8.out (λz e=>X);rw[au];exact {h1 with ra:=am}
     have i6:(D3 (Yk r.c s t.q sz (X7 d)) (j:Nat) ⟨(sz:Nat),t.q⟩).OkP ae.c none:=by
      rw[av.1];exact StM.OkP.sized (StM.OkP.put hs t.q sz (Ts d)) (o:=j) (t:=t) u M X
     have de:=Rh (s:=s) E t.q sz (X7 d) ⟨ht.1,X⟩ (by rw[Fj];omega);rw[Fj] at de;have gj:(D3 (Yk r.c s t.q sz (X7 d)) (j:Nat) ⟨(sz:Nat),t.q⟩).th[j]?=some (some ⟨(sz:Nat),t.q⟩):=by
      show(s.th.set (j:Int).toNat _)[j]?=_
      rw[XA,XH fj]
     refine bB al Y (aV Y ?_);rw[ed];refine aP Y (XgL dd i6 j gj sz d (λm hm=>xH (Xe7 hs u (show Xx s t.q.cL=some m from hm))) ⟨de.1,by show(Yk r.c s t.q sz (X7 d)).rm.tot<=_;omega⟩) ?_;rintro _ i7 ⟨kc,rfl,af⟩;refine aN Y ?_;have en:=O.trans cn;have eo:=bc.heap (R.bP aj) X;have ep:=en.trans af.2.2;refine bF (af.2.2.bP al) Y λi8 bd cb jc=>?_;have co:=(a7.trans ep).sn cb;have jd:=ba.size;have i9:=af.1.bW (af.2.1.2.2 _ (λz e=>X) gi) (by have:=h.cO.bR co;rw[af.2.1.1,af.2.1.2.1,av.1,av.2];exact this) cb;have er:=cb.heap (af.2.2.bP eo) X;have df:=(gg.dC fo).trans af.2.1 X;refine bB bd Y (bF er Y λwz dg bu ia=>?_);have aw:=(co).sn bu;exact aK func141 dg Y ⟨_,rfl,h.box df i9 X X bu aw,Zz.dC df z2,aw⟩
    .rw[bJ fp];refine aS Y (bB ai Y (bF aj Y λwz dg bu ia=>?_));have aw:=(cm).sn bu;exact aK func141 dg Y ⟨_,rfl,h.box bt hx X X bu aw,Zz.dC bt z2,aw⟩
   .replace M:Ay r.c t.size size=false:=xU M
    rw[bJ (by rw[M];decide)] at e;rw[M,e];refine aS Y (bB ck Y (bG (Sz (h.bQ a7) hs size) Y λw8 O=>?_));have gk:=O;have ax:=a7.trans O;have dh:=O.bP ck;have cc:=O.bP d6;by_cases hf:Ys r.c s size=0
    .rw[hf];refine aS Y ?_;have ev:q.cL=t.q.cL:=congrArg PlcM.cL v2;obtain⟨t',M1,M2,M3,M4,M5,M6,M7,M8⟩:=Pf hs u M hf;have ic:=Xag hs t.q.cL ⟨ht.1,X⟩;obtain⟨s1,cp⟩:∃s1,s1=X8 s t.q.cL:=⟨_,rfl⟩;obtain⟨m,em⟩:=XE (show 0<=min t.size size by omega);have eM:Q7 r.c s (j:Nat) size=Ax r.c (Yk r.c (Qs r.c (Y3 s1 (Zb r.c t'.q.cQ 0 m)) (j:Nat) size) (Yy (Qs r.c (Y3 s1 (Zb r.c t'.q.cQ 0 m)) (j:Nat) size) (j:Nat)) 0 (Yh r.c t'.q.cQ s1.bs 0 m)) t'.q:=by
      unfold Q7;rw[bJ (λg=>g (e.trans hf)),C6 u,bJ (by rw[M];decide)];unfold Jn;simp only
      rw[Y5 u,C6 u,<-cp,Y5 (cp▸M2),em,XA]
     rw[em,XA] at M8;rw[<-cp] at M1 M2 M6 M7 M8 ic;rw[eM];have gl:=O.bP c8;refine Xa.loads Xb rfl dh rfl rfl ?_;refine Xa.cJ Xb rfl gl rfl rfl ?_;rw[ev];refine aP Y (XgE (h.bQ ax) hs t.q.cL ⟨ht.1,X⟩) ?_;rintro _ w9 ⟨k,rfl,F⟩;refine aN Y ?_;rw[<-cp] at F;refine bC Y λnb b4 ke ai gm d7=>bF ai Y λfq cq gn jf=>?_;have be:=gm.sn gn;have fr:=F.1.bQ be;have cd:Bp (λz=>z=nb) k:=F.1.out (λz e=>X);have noN:∀{a b:dD},Xc Xf a b->Xc (λz=>z=nb) a b:=λh=>h.gr;have es:=F.2.2.trans be;have et:=es.bP cc;have b5:k.c=r.c:=F.2.1.1;have kf:=ax.size;have ie:H.heap.size<=w8.heap.size:=by have:=bp.size;have:=bq.size;have:=I.size;have:=gk.size;omega
     have z9:=F.2.2.size;obtain⟨kg,⟨y1,y2⟩,p3,p4,b0,jh,dk,_,_,dl⟩:=fr.trowP M2;obtain⟨B,fs⟩:∃B:Plc,B=k.ts[j].q:=⟨_,rfl⟩;have ih:Xj (λz=>z=nb) B.pa:=by rw[fs];exact cd.tq _ (XL _)
     rw[<-fs] at y2 p3 p4 dl;refine bB cq Y ?_;rw[dk];refine aU (j*5) Y (Xa.loadC Xb ((Xw B)) rfl xT (dl) rfl ?_);rw[<-dk];refine bC Y λkb i3 kh ew a8 ji=>bF ew Y λaq cr ar gf=>?_;have C:=a8.sn ar;have ft:=fr.bQ C;have cs:=C.bP cq;obtain⟨pv,ph,pf⟩:=Jg M1 M2;have gp:B.bS.length<=4096:=by have e:B.bS=t'.q.bS:=congrArg PlcM.bS y2;rw[e];exact pf
     have ki:(m:Int)<=t.size/\(m:Int)<=size/\1<=m:=X
     have gq:Qy k.c B (0:Nat) m=0:=by rw[b5];exact Lk y2 (Kk pv X X X)
     have gs:(k.ra.bs.length:Int)=k.c.size*k.c.bS:=by rw[F.1.rb,b5];exact M1.bl
     have dm:=F.1.rs;have i5:=Lj (q:=B) (at':=0) (n:=m) E;obtain⟨l,el⟩:∃l,l=Yh r.c t'.q.cQ s1.bs 0 m:=⟨_,rfl⟩;have dn:l.length=m:=by rw[el];unfold Yh;simp
     have elq:Yh k.c B k.ra.bs 0 m=l:=by rw[b5,F.1.rb,Xc7 r.c B,y2,el]
     have dp:Qo l:=by rw[el];exact N4 M1.bi _ _
     obtain⟨ra',era⟩:∃ra':RA,ra'={k.ra with cM:=k.ra.cM+Zb k.c B 0 m}:=⟨_,rfl⟩;have hd:∀w',Xc Xf aq w'->Xe prog 213 #[.agg (Ak k.c k.cp k.ra).toArray,.agg (Xw B).toArray,W 0,W (m:Nat)] w' (λv H=>Xc Xf w' H/\∃x,v=Vx k.c k.cp ra' m x/\Pt l aq.heap.size x H/\∀b,aq.heap.size<=b->(b<w'.heap.size\/H.heap.size<=b)->Xj (λz=>z=b) x.1):=λw' i=>
      (Xgy k.c k.cp k.ra B 0 m w' ((ft.bQ i).cO) (p3.bQ (C.trans i)) (by rw[b5];exact E) gp gq ((ft.bQ i).ra) gs (by rw[dm];omega)).mono λv H ⟨u1,x1,x2,x3⟩=>by
       rw[elq] at x2;obtain⟨a,cap,rfl,y1,y2⟩:=x2.rd8 dn;have:=i.size;exact⟨x3,(a,cap),by rw[x1,era],⟨y1,λb off s' e=>⟨xH (y2 b off s' e).1,(y2 b off s' e).2⟩⟩,λb hb kj b' off' s' e hz=>xH (y2 b' off' s' e)⟩
     have emin:(if size<t.size then size else t.size)=(m:Int):=by rw[<-em];split <;> omega
     refine aQ 14 Xf xK Y λf=>aE f cs Y (aG f (λw' i=>(Pw (w:=w') (r:=k))) Y (aE f cr Y ?_));rw[emin];refine Xd.callAllocG (Vx k.c k.cp ra' m) (Pt l aq.heap.size) ((λx b=>Xj (λz=>z=b) x.1)) Xb f rfl rfl rfl (λ_=>rfl) rfl (λ_=>rfl) (λ_=>rfl) rfl rfl (λ_ _=>rfl) rfl (λ_ _=>rfl) (hd) (Xgg) ((λ_ h=>h.elim)) ?_;rintro mb x i4 i1 da a9 ⟨x1,x2⟩ hG;refine Xd.cK f rfl λdc ce=>Xo.store Xb f rfl (ce.bP da) (by first|(intro h;exact rfl)|(intro h;omega)) rfl rfl rfl λi7 ex dq jj=>aF f Y λi8 cf=>?_;have dr:=(a9.trans ce).sn dq;have D:=dr.trans cf;have j0:=D.size;have fu:∀b',b'<aq.heap.size->Xj (λz=>z=b') x.1:=λb' h2 b'' off' s' e hz=>xH (x2 b'' off' s' e).1
     have gt:=((x1.bR ce).bW hG dq).bR cf;have ey:=cf.bP ex;have bd:=D.bP cs;refine bB ey Y (bF bd Y λb6 T ab jk=>?_);obtain⟨N,ac⟩:∃N:SR,N={k with ra:=ra'}:=⟨_,rfl⟩;replace T:Zo b6 nb N:=by rw[ac];rw[era] at T⊢;exact T
     have an:=((be.trans C).trans D).sn ab;have ez:Yp b6 ra':=by rw[era];exact⟨(F.1.ra.bQ an).rd,F.1.ra.len,F.1.ra.lc,F.1.ra.rng⟩
     have gu:Zb r.c t'.q.cQ 0 m=Zb r.c B 0 m:=by rw[Jx r.c B,y2]
     obtain⟨s2,b7⟩:∃s2,s2=Y3 s1 (Zb r.c t'.q.cQ 0 m):=⟨_,rfl⟩;have fv:Xu s1.rm.tot (Zb r.c t'.q.cQ 0 m)=s1.rm.tot+Zb r.c t'.q.cQ 0 m:=Cs X;have bf:=F.1.putRa an (ra:=ra') (bs:=s1.bs) (t:=Xu s1.rm.tot (Zb r.c t'.q.cQ 0 m)) ez (by rw[era];exact F.1.rb) (by rw[era,fv,gu,<-dm,b5]) (by rw[era];exact F.1.la.bQ an.size);rw[<-ac] at bf;replace bf:Zf b6 N s2:=by rw[b7];exact bf
     have az:N.c=r.c:=by rw[ac];exact b5
     have gv:N.cp=r.cp:=by rw[ac];exact F.2.1.2.1
     have gw:Zz w9 k N:=by rw[ac,era];exact⟨rfl,rfl,λS hS ho=>{ho with ra:=ho.ra}⟩
     have gx:Bp (λz=>z=nb) N:=by rw[ac,era];exact {cd with ra:=cd.ra}
     have gy:Rd .u8 b6 x.1 l:=gt.bW (fu nb X) ab;have ds:Xc (λz=>z=nb) fq b6:=(noN (C.trans D)).trans ab;have f0:=ab.heap (D.bP cr) X;have lqb:=Xg cc;have f1:=ab.heap ((C.trans D).bP et) X;have fw:0<=s2.rm.tot/\s2.rm.tot<=s.rm.tot+20000+2*m+1:=by
      rw[b7];show 0<=Xu s1.rm.tot _/\Xu s1.rm.tot _<=_
      rw[fv];omega
     rw[<-b7] at M8⊢;have cg:s2.OkP N.c none:=by rw[az,b7];exact M1.tot _
     have dt:j<s2.th.length:=by rw[b7];exact(XC.1 M2).1
     have f2:Ys N.c s2 size=0:=by rw[az,b7];exact M7
     refine Xa.loads Xb rfl T rfl rfl ?_;refine aP rfl (XgJ bf cg dt f2 (by rw[az];exact M8) ⟨fw.1,X⟩) ?_;rintro _ kk ⟨c,rfl,A⟩;refine aN rfl ?_;rw[az] at A cg;have fx:=Xc9 cg j dt size M8 ⟨fw.1,X⟩;obtain⟨s3,fy⟩:∃s3,s3=Qs r.c s2 (j:Nat) size:=⟨_,rfl⟩;have bh:s3.th[j]?=some (some ⟨size,Zp r.c s2 (j:Nat) size⟩):=by
      rw[fy];show(s2.th.set (j:Int).toNat _)[j]?=_
      rw[XA,XH dt]
     obtain⟨Q,eQ⟩:∃Q,Q=Zp r.c s2 (j:Nat) size:=⟨_,rfl⟩;rw[<-eQ] at bh;rw[<-fy] at A M8 fx⊢;rw[Y5 bh];have kl:=ab.size;have km:=A.2.2.size;have f3:=A.2.2.bP T;refine Xa.store Xb rfl f3 rfl rfl ?_;intro J U ad jl;refine aN rfl ?_;replace U:Zo J nb c:=U;have ch:Bp (λz=>z=nb) c:=A.2.1.2.2 _ (λz e=>X) gx;have ct:Xc Xf w9 J:=(an.trans A.2.2).sn ad;have cu:=(ax.trans F.2.2).trans ct;have K:c.c=r.c:=A.2.1.1.trans az;have du:c.cp=r.cp:=A.2.1.2.1.trans gv;have V:=A.1.bW ch (by have:=h.cO.bR cu;rw[K,du];exact this) ad;have dv:Xc (λz=>z=nb) b6 J:=(noN A.2.2).trans ad;have gz:Rd .u8 J x.1 l:=(gy.bR A.2.2).bW (fu nb X) ad;have f4:=ad.heap (A.2.2.bP f0) X;have f5:=ad.heap (A.2.2.bP f1) X;obtain⟨_,⟨_,y4⟩,p5,p6,b1,jn,h0,_,_,dw⟩:=V.trowP bh;obtain⟨L,ij⟩:∃L:Plc,L=c.ts[j].q:=⟨_,rfl⟩;rw[<-ij] at y4 p5 p6 dw;replace y4:Xz L=Q:=y4;obtain⟨dx,fz,dy⟩:=Jg M8 bh;replace dx:Ym r.c Q.cQ=true:=dx;replace fz:size<=Zt r.c Q.cQ:=fz;replace dy:Q.bS.length<=4096:=dy;have h3:L.bS.length<=4096:=by have e:L.bS=Q.bS:=congrArg PlcM.bS y4;rw[e];exact dy
     subst dn;have h5:Qy c.c L (0:Nat) l.length=0:=by rw[K];exact Lk y4 (Kk dx X X X)
     have h6:(c.ra.bs.length:Int)=c.c.size*c.c.bS:=by rw[V.rb,K];exact M8.bl
     have dz:c.ra.cM=s3.rm.tot:=V.rs;have ik:∀w',Xc Xf J w'->Xe prog 214 #[.agg (Ak c.c c.cp c.ra).toArray,.agg (Xw L).toArray,W 0,.slice x.1 l.length x.2] w' (λv H=>Xc Xf w' H/\∃y,v=Mg c.c c.cp y/\Jr c.c J c.ra L 0 l y H/\∀b,J.heap.size<=b->(b<w'.heap.size\/H.heap.size<=b)->Xj (λz=>z=b) y.a):=λw' i=>
      (Xcn c.c c.cp c.ra L 0 x.1 x.2 l w' ((V.bQ i).cO) (p5.bQ i) (by rw[K];exact E) h3 h5 ((V.bQ i).ra) h6 (by rw[dz];omega) (gz.bR i) dp).mono λv H ⟨y,a1,a2,a3,a4,a5,a6⟩=>
       ⟨a6,y,a1,Xdw V.la (by rw[V.rb];exact XaV M8) i a2 a3 a4 a5⟩
     refine Xa.drawn (q:=15) Xf Xb Xn xK rfl ?_;intro f;refine Xd.loads Xb f rfl U (by first|exact λh=>h|(intro h;omega)|assumption) rfl rfl ?_;refine Xd.call Xb f rfl (λw' i=>(Pw (w:=w') (r:=c))) rfl ?_;refine Xd.cJ Xb f rfl U (by first|exact λh=>h|(intro h;omega)|assumption) rfl rfl ?_;rw[h0];refine Xd.index Xb f rfl (j:=(j*5)) X X (by first|rfl|omega|(simp;done)|(simp;omega)) rfl ?_;refine Xd.loadC Xb f ((Xw L)) rfl xT (dw) (by first|exact λh=>h|(intro h;omega)|assumption) rfl ?_;refine Xd.callAllocG (Mg c.c c.cp) (Jr c.c J c.ra L 0 l) ((λx b=>Xj (λz=>z=b) x.a)) Xb f rfl rfl rfl (λ_=>rfl) rfl (λ_=>rfl) (λ_=>rfl) rfl rfl (λ_ _=>rfl) rfl (λ_ _=>rfl) (ik) (Xao) ((λ_ h=>h.elim)) ?_;rintro vb y kn ko im e0 ⟨c1,c2,c3,c4,c5⟩ ip;refine Xd.cK f rfl ?_;intro kp bi;refine Xo.store Xb f rfl (bi.bP im) (by first|(intro h;exact rfl)|(intro h;omega)) rfl rfl rfl ?_;intro e3 bj cj jx;refine Xd.nil f ?_;intro iq bk;refine aN rfl ?_;replace bj:e3.heap[vb]?=some (.cells (Ak c.c c.cp y).toArray 264 (0,0)):=bj;have kq:=e0.size;have e4:Xc Xf J e3:=(e0.trans bi).sn cj;have p:=e4.trans bk;have kr:=p.size;have f7:Yp e3 y:=⟨((c3.bQ bi).rd).bW ip cj,c3.len,c3.lc,c3.rng⟩;have ao:=f7.bQ bk;have f8:Yw iq y.a:=((c5.bQ bi.size).bQ cj.size).bQ bk.size;have f9:=bk.bP bj;have fa:=p.bP U;refine Xa.loads Xb rfl f9 rfl rfl ?_;refine Xa.store Xb rfl fa rfl rfl ?_;intro ag bm G jy;refine aN rfl ?_;obtain⟨b2,bn⟩:∃b2:SR,b2={c with ra:=y}:=⟨_,rfl⟩;replace bm:Zo ag nb b2:=by rw[bn];exact bm
     have am:Xj (λz=>z=nb) y.a:=λb'' off' s' e hz=>by
      rcases c4 with e'|⟨g,off,e',hg⟩
      .exact ch.ra b'' off' s' (e'▸e) hz
      .rw[e'] at e;cases e;omega
     have fb:Yp ag y:=⟨ao.rd.bW am G,ao.len,ao.lc,ao.rng⟩;have e6:Xc (λz=>z=nb) J ag:=(noN p).trans G;have jz:=Lj (q:=L) (at':=0) (n:=l.length) E;have ha:Zb r.c Q.cQ 0 l.length=Zb r.c L 0 l.length:=by rw[Jx r.c L,y4]
     have cv:Xc Xf w ag:=(cu.trans p).sn G;have ir:Xc Xf w9 ag:=(ct.trans p).sn G;have it:=V.bQ p;have bo:=(it.bW ch (by have:=h.cO.bR cv;rw[K,du];exact this) G).putRa (Xc.refl Xf ag) (ra:=y) (bs:=Ac r.c Q.cQ s3.bs 0 l l.length) (t:=Xu s3.rm.tot (Zb r.c Q.cQ 0 l.length)) fb (by rw[c1,V.rb,K,<-y4,<-Ni]) (by rw[c2,dz,K,ha,Cs X]) (f8.bQ G.size);rw[<-bn] at bo;replace bo:Zf ag b2 (Yk r.c s3 Q 0 l):=bo;have e7:b2.c=r.c:=by rw[bn];exact K
     have hc:Zz J c b2:=by rw[bn];exact⟨rfl,rfl,λS hS ho=>{ho with ra:=ho.ra.newer c4 hS}⟩
     have fc:=G.heap (p.bP f4) X;have fd:=G.heap (p.bP f5) X;have e8:=(ds.trans dv).trans e6;have he:Zw ag B:=⟨p3.rd.bW ih e8,p3.len⟩;have iu:=Rh (s:=s3) E Q 0 l ⟨fx.1,X⟩ X;have iv:(Yk r.c s3 Q 0 l).OkP b2.c (some (j,Xz B)):=by rw[e7,y2];exact StM.OkP.put M8 _ _ dp
     rw[<-el];refine Xa.loads Xb rfl bm rfl rfl ?_;refine Xa.loads Xb rfl fc rfl rfl ?_;refine aP rfl (XgI bo B iv he ⟨iu.1,X⟩) ?_;rintro _ ks ⟨iw,rfl,b8⟩;refine aN rfl ?_;rw[e7,y2] at b8;have kt:=G.size;have ku:=b8.2.2.size;refine Xa.store Xb rfl (b8.2.2.bP fd) rfl rfl ?_;intro ix fe ea k0;refine aN rfl ?_;have cw:Xc Xf w ix:=(cv.trans b8.2.2).sn ea;have iy:Zz w9 k c:=gw.trans A.2.1 X;have iz:=(iy.trans hc X).trans b8.2.1 X;have bt:=(F.2.1.dC ie).trans iz X;exact aK func141 fe Y ⟨iw,rfl,h.box bt b8.1 X X ea cw,Zz.dC bt z2,cw⟩
    .rw[no e hf];exact aM Y (xU hf) (aQ 4 Xf xK Y λf=>aE f dh Y (aE f dh Y (aG f (λw' i=>Sz (h.bQ (ax.trans i)) hs size) Y (aF f Y λw9 cl=>bF (cl.bP cc) Y λb4 aj ba d7=>aK func141 aj Y ⟨r,rfl,.self h ((ax.trans cl).sn ba)⟩))))
 .have e:A2 r.c s o size=Z9 s o:=by unfold A2;rw[bK g0]
  rw[no e g0,e];refine aM Y (xU g0) ?_;have bx:=cz;have bz:=d0;have c0:=d1;exact bB bx Y (bF bz Y λwr d3 d4 hk=>aK func141 d3 Y ⟨r,rfl,.self h (c0.sn d4)⟩)
structure D7 where
 kind:Int
 own:Int
 a:Int
 b:Int
 bs:List Int
 ba:Option dF
 bc:Nat
def Rk(u:D7):List dE:=[.int .u8 u.kind,.int .i64 u.own,.int .i64 u.a,.int .i64 u.b,.slice u.ba u.bs.length u.bc]
structure Xaq(w:dD)(u:D7):Prop where
 kind:0<=u.kind/\u.kind<256
 a : -9223372036854775808<=u.a/\u.a<=9223372036854775807
 b : -9223372036854775808<=u.b/\u.b<=9223372036854775807
 rd:Rd .u8 w u.ba u.bs
 rng:Qo u.bs
 lc:u.bs.length<=u.bc
 len:u.bc<=9223372036854775807
def Ct(c:Conf)(s:StM)(u:D7):Int:=if u.kind%7=0 then Cm c s u.own u.a else if u.kind%7=1 then Z9 s u.own else if u.kind%7=2 then A2 c s u.own u.a else if u.kind%7=3 then Qt s u.own u.a u.b else if u.kind%7=4 then Qt s u.own u.a u.bs.length else if u.kind%7=5 then 0 else Cd s u.own u.a
def Ab(c:Conf)(s:StM)(u:D7):StM:=if u.kind%7=0 then Q1 c s u.own u.a else if u.kind%7=1 then Aq c s u.own else if u.kind%7=2 then Q7 c s u.own u.a else if u.kind%7=3 then Cc c s u.own u.a u.b else if u.kind%7=4 then Cx c s u.own u.a u.bs else if u.kind%7=5 then D4 c s else Cw s u.own u.a
def B7(c:Conf)(s:StM)(u:D7):List Int:=if u.kind%7=3 then Cn c s u.own u.a u.b else []
theorem XmX(u:D7)(h:Zf w r s)(hs:s.Ok r.c)(hu:Xaq w u)(ht:0<=s.rm.tot/\s.rm.tot<=999900000000):Xe prog 85 #[.agg (Yc r).toArray,.agg (Rk u).toArray] w
 (λv w'=>∃r' a cap,v=.tuple #[.agg (Yc r').toArray,.slice a (B7 r.c s u).length cap,W (Ct r.c s u)]/\Rd .u8 w' a (B7 r.c s u)/\(∀b off s',a=some ⟨b,off,s'⟩->w.heap.size<=b/\b<w'.heap.size)/\Ei w r (Ab r.c s u) r' w'):=by
 have hk:=hu.kind;refine aR func85 ntmps85 Y (bC Y λb w1 e1 U P a1=>bC Y λub w2 e2 Q K a2=>bC Y λqb V e3 t F a3=>?_);have g:=(K.trans F).bP U;have d:=F.bP Q;have n:=(P.trans K).trans F;have C:=h.bQ n;have L:=n.size;refine bB d Y (Xa.div Xb rfl X (Hg X) rfl ?_);apply Xa.cut (α:=SR) (λ_=>[(2,false,xV b),(4,false,xV qb),(7,false,W (Ct r.c s u))]) (λx y=>∃j,Ei V r (Ab r.c s u) x j/\Xc (λz=>z=b) j y/\Zo y b x/\B7 r.c s u=[])
 .intro J;by_cases l:u.kind%7=0
  .have eE:Ct r.c s u=Cm r.c s u.own u.a:=by unfold Ct;rw[bK l]
   have eS:Ab r.c s u=Q1 r.c s u.own u.a:=by unfold Ab;rw[bK l]
   have eB:B7 r.c s u=[]:=by unfold B7;rw[bJ X]
   refine bI Y (bB g Y (bB d Y (bB d Y (aP Y (XgC C hs u.own u.a ⟨ht.1,X⟩) ?_))));rintro _ j ⟨k,rfl,c⟩;exact aN Y (bF (c.2.2.bP g) Y λy i f B=>J k _ _ ⟨j,by rw[eS];exact c,f,i,eB⟩ ⟨rfl,rfl,by rw[eE];rfl,trivial⟩)
  by_cases m:u.kind%7=1
  .have eE:Ct r.c s u=Z9 s u.own:=by unfold Ct;rw[bJ l,bK m]
   have eS:Ab r.c s u=Aq r.c s u.own:=by unfold Ab;rw[bJ l,bK m]
   have eB:B7 r.c s u=[]:=by unfold B7;rw[bJ X]
   refine aS Y (bI Y (bB g Y (bB d Y (aP Y (XgF C hs u.own ⟨ht.1,X⟩) ?_))));rintro _ j ⟨k,rfl,c⟩;exact aN Y (bF (c.2.2.bP g) Y λy i f B=>J k _ _ ⟨j,by rw[eS];exact c,f,i,eB⟩ ⟨rfl,rfl,by rw[eE];rfl,trivial⟩)
  by_cases q:u.kind%7=2
  .have eE:Ct r.c s u=A2 r.c s u.own u.a:=by unfold Ct;rw[bJ l,bJ m,bK q]
   have eS:Ab r.c s u=Q7 r.c s u.own u.a:=by unfold Ab;rw[bJ l,bJ m,bK q]
   have eB:B7 r.c s u=[]:=by unfold B7;rw[bJ X]
   refine aS Y (aS Y (bI Y (bB g Y (bB d Y (bB d Y (aP Y (Xm0 C hs u.own u.a hu.a ht) ?_))))));rintro _ j ⟨k,rfl,c⟩;exact aN Y (bF (c.2.2.bP g) Y λy i f B=>J k _ _ ⟨j,by rw[eS];exact c,f,i,eB⟩ ⟨rfl,rfl,by rw[eE];rfl,trivial⟩)
  by_cases A:u.kind%7=3
  .have eE:Ct r.c s u=Qt s u.own u.a u.b:=by unfold Ct;rw[bJ l,bJ m,bJ q,bK A]
   have eS:Ab r.c s u=Cc r.c s u.own u.a u.b:=by unfold Ab;rw[bJ l,bJ m,bJ q,bK A]
   have eB:B7 r.c s u=Cn r.c s u.own u.a u.b:=by unfold B7;rw[bK A]
   rw[eE,eS,eB];refine aS Y (aS Y (aS Y (bI Y (bB g Y (bB d Y (bB d Y (bB d Y (aP Y (XmZ C hs u.own u.a u.b hu.a hu.b ⟨ht.1,X⟩) ?_))))))));rintro _ j ⟨k,R,M,rfl,S,G,c⟩;have a5:=c.2.2.size;refine aN Y (bF (c.2.2.bP t) Y λw6 D o T=>?_);have p:=(n.trans c.2.2).sn o;have O:Xj (λz=>z=qb) R:=λb' off s' e N=>xH (G b' off s' e)
   exact aK func85 D Y ⟨k,R,M,rfl,S.bW O o,(λb' off s' e=>⟨xH (G b' off s' e),xI (G b' off s' e) o.size⟩),(h.box c.2.1 c.1 X (Xg t) o p),c.2.1.dC L,p⟩
  by_cases E:u.kind%7=4
  .have eE:Ct r.c s u=Qt s u.own u.a u.bs.length:=by unfold Ct;rw[bJ l,bJ m,bJ q,bJ A,bK E]
   have eS:Ab r.c s u=Cx r.c s u.own u.a u.bs:=by unfold Ab;rw[bJ l,bJ m,bJ q,bJ A,bK E]
   have eB:B7 r.c s u=[]:=by unfold B7;rw[bJ X]
   refine aS Y (aS Y (aS Y (aS Y (bI Y (bB g Y (bB d Y (bB d Y (bB d Y (aP Y (Xm1 C hs u.own u.a u.ba u.bc u.bs hu.a (hu.rd.bR n) (xI hu.lc hu.len) hu.rng ⟨ht.1,X⟩) ?_)))))))));rintro _ j ⟨k,rfl,c⟩;exact aN Y (bF (c.2.2.bP g) Y λy i f B=>J k _ _ ⟨j,by rw[eS];exact c,f,i,eB⟩ ⟨rfl,rfl,by rw[eE];rfl,trivial⟩)
  by_cases I:u.kind%7=5
  .have eE:Ct r.c s u=0:=by unfold Ct;rw[bJ l,bJ m,bJ q,bJ A,bJ E,bK I]
   have eS:Ab r.c s u=D4 r.c s:=by unfold Ab;rw[bJ l,bJ m,bJ q,bJ A,bJ E,bK I]
   have eB:B7 r.c s u=[]:=by unfold B7;rw[bJ X]
   refine aS Y (aS Y (aS Y (aS Y (aS Y (bI Y (bB g Y (aP Y (XgH C hs ⟨ht.1,X⟩) ?_)))))));rintro _ j ⟨k,rfl,c⟩;exact aN Y (bF (c.2.2.bP g) Y λy i f B=>J k _ _ ⟨j,by rw[eS];exact c,f,i,eB⟩ ⟨rfl,rfl,by rw[eE];rfl,trivial⟩)
  .have eE:Ct r.c s u=Cd s u.own u.a:=by unfold Ct;rw[bJ l,bJ m,bJ q,bJ A,bJ E,bJ I]
   have eS:Ab r.c s u=Cw s u.own u.a:=by unfold Ab;rw[bJ l,bJ m,bJ q,bJ A,bJ E,bJ I]
   have eB:B7 r.c s u=[]:=by unfold B7;rw[bJ X]
   refine aS Y (aS Y (aS Y (aS Y (aS Y (aS Y (bB g Y (bB d Y (bB d Y (aP Y (XgG C hs u.own u.a) ?_)))))))));rintro _ j ⟨k,rfl,c⟩;exact aN Y (bF (c.2.2.bP g) Y λy i f B=>J k _ _ ⟨j,by rw[eS];exact c,f,i,eB⟩ ⟨rfl,rfl,by rw[eE];rfl,trivial⟩)
 .rintro k y ⟨j,c,f,i,eB⟩;rw[eB];have H:=(n.trans c.2.2).sn f;refine bB i Y (bF (f.heap (c.2.2.bP t) X) Y λw6 D o T=>?_);have p:=H.sn o;exact aK func85 D Y ⟨k,none,0,rfl,Rd.nil _ _ _,(by intro b off s' e;cases e),(h.box c.2.1 (h.box c.2.1 c.1 X (Xg g) f H) X (Xg t) o p),c.2.1.dC L,p⟩
end Go.Proofs.YtdeihcnepljjaaaGreatDoor
