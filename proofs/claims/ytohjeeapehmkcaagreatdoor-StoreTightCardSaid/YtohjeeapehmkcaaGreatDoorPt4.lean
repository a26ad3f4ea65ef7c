/-
  Texts put together: Room2, Room3, Slices2, Slices3, Plc, Room4, Room5, Room6, Flat, Ref20, Ref20b, Ref20c, Ref20d, Ref3, Ref20e, Ref20f.
-/
import Derived.Test.YtohjeeapehmkcaaGreatDoorPt3
import Derived.Test.YtohjeeapehmkcaaGreatDoorQRule16
import Derived.Test.YtohjeeapehmkcaaGreatDoorQRule5
import Derived.Test.YtohjeeapehmkcaaGreatDoorQRule15
import Derived.Test.YtohjeeapehmkcaaGreatDoorQRule17
import Derived.Test.YtohjeeapehmkcaaGreatDoorQRule18
import Derived.Test.YtohjeeapehmkcaaGreatDoorQRule19
set_option linter.unusedVariables false
set_option maxRecDepth 100000
namespace Go.Proofs.YtohjeeapehmkcaaGreatDoor
open Go.RowKit
open Bool renaming and_eq_true->XJ,true_and->YI,false_and->YQ,and_false->QA
open Int renaming toNat_natCast->XA,eq_ofNat_of_zero_le->XD,mul_le_mul_of_nonneg_right->ZA,mul_le_mul->ZH,mul_nonneg->ZJ,ediv_nonneg->ZX,ediv_le_self->YE
open List renaming getElem?_eq_getElem->XB,getD_eq_getElem?_getD->XC,getElem?_set_self->XF,length_set->XG,length_replicate->XH,map_append->XI,getElem_mem->XK,length_cons->XM,length_map->XN,length_append->XO,mem_of_getElem?->XP,getElem?_set_ne->XQ,getElem?_map->XR,length_take->XU,getElem?_append_left->XX,take_append_drop->XZ,take_add_one->ZC,take_of_length_le->ZE,take_length->ZL,mem_or_eq_of_mem_set->ZM,mem_singleton->ZN,flatMap_cons->ZQ,nil_append->ZR,drop_eq_getElem_cons->ZS,getElem?_append_right->ZZ,append_nil->YB,nodup_nil->YJ,length_range->YK,getElem?_toArray->YO,range_succ->YX,any_eq_false->YZ,length_tail->QJ,getElem_of_mem->QK,mem_cons->QR
open Nat renaming le_refl->XE,zero_le->XL,zero_add->XS,mul_one->ZK,mul_comm->YF,add_assoc->YL,div_add_mod->YV,mul_le_mul_right->QH,mod_lt->QM,succ_mul->QP
open Option renaming map_eq_some_iff->QB,map_some->QO
open Go.Proofs.Tryz (func108 func109 func119 func123 func138 func144 func151 func152 func153 func154 func164 func165 func166 func170 func175 func194 func195 func199 func201 func202 func235 func36 func55 func56 func57 func60 func64 func68 func71 func82 func85 ntmps108 ntmps109 ntmps119 ntmps123 ntmps138 ntmps144 ntmps151 ntmps152 ntmps153 ntmps154 ntmps164 ntmps165 ntmps166 ntmps170 ntmps175 ntmps194 ntmps195 ntmps199 ntmps201 ntmps202 ntmps235 ntmps36 ntmps55 ntmps56 ntmps57 ntmps60 ntmps64 ntmps68 ntmps71 ntmps82 ntmps85 prog)
variable {c:Conf}{l':IL}{ahead by' size u who z:Int}{lg:List (Nat×List Nat)}{ps:List IL}{bs l p zs:List Int}{l2 ws:List Nat}{cs rest xs:List Value}{N at' b base cap fuel g i j k len lm lo n n0 o off sz t tm vb xb y:Nat}{e:Nat×List Int}{fz:Nat×Nat}{f:Nat->Int}{G:Nat->Pg}{B C F F' Fr S S' T:Nat->Prop}{pd pd2:Option (Nat×PlcM)}{a:Option Addr}{pg:PgL}{P:Pl}{pl':PlM}{R:Rm}{M:RmM}{x x':Sm}{α:Type}{v:Value}{w w' w0 w1 w2:World}
abbrev XiE(w:World)(b:Nat)(e:Int):Prop:=w.heap[b]?=some (.cells ([.int .i64 e]:List Value).toArray 45 (0,0))
theorem Ny{p:PlM}(h:p.Good):Zn p<=1024:=by have:=Oa p.own;have:=h.len;unfold Zn;omega
theorem Uj(h:Zm F w R M)(held:Nat)(b:Nat)(E:Int)(hb:XiE w b E)(hh:held<=1024):Ge prog 175 #[B9 R,.int .i64 (held:Int),.pointer (some ⟨b,0,none⟩)] w
 (λ_ w'=>Zm F w' R (if E=0 then {M with tot:=Xx M.tot (3+(max (Zn M.pl:Int) held-min (Zn M.pl:Int) held)*4)} else M)/\Xc F w w'):=by
 refine Ge.enter func175 rfl ntmps175 rfl rfl ?_;have f:=Ny h.pool.good;refine ζa ϱ (ζl hb ϱ (ζg ϱ (λc=>?_) λc=>?_))
 ·have a:E≠0:=by simpa using c
  rw[if_neg a];exact ζr func175 ϱ ⟨h,Xc.refl _ _⟩
 ·have a:E=0:=by simpa using c
  rw[if_pos a];have e1:(if (held:Int)>Zn M.pl then (held:Int) else Zn M.pl)=max (Zn M.pl:Int) held:=by split <;> omega
  have e2:(if (held:Int)<Zn M.pl then (held:Int) else Zn M.pl)=min (Zn M.pl:Int) held:=by split <;> omega
  refine ζw (R0 h) ϱ (ζw (R0 h) ϱ (ζj ϱ ?_));rw[e1,e2];refine ζl h.obj ϱ (ζj ϱ (ζj ϱ (ζc ϱ (Uk h (3+(max (Zn M.pl:Int) held-min (Zn M.pl:Int) held)*4)) ?_)));rintro _ g ⟨e,d⟩;exact ζa ϱ (ζr func175 ϱ ⟨e,d⟩)
theorem XbC(h:M.shs[k]?=some x):D1 M k x M.pl=M:=by
 have:M.shs.set k x=M.shs:=by rw[<-((List.getElem?_eq_some_iff.1 h).2)];exact List.set_getElem_self ((List.getElem?_eq_some_iff.1 h).1)
 show RmM.mk (M.shs.set k x) M.pl M.lg M.tot=M
 rw[this]
theorem Zm.wide(h:Zm F w R M)(hc:∀z,F' z->F z\/w.heap.size<=z):∀z,z<w.heap.size->F' z->F z:=λz b a=>(hc z a).elim id (λh=>by omega)
theorem Ul{F2:Nat->Prop}{w3 w4:World}{M2:RmM}(hc01:Xc Xe w w1)(hF2:∀z,F2 z->F z\/w1.heap.size<=z)(hc13:Xc F w w3)(h4:Zm F2 w4 R M2)(hc34:Xc F2 w3 w4):Fg F w w4 R M2:=by
 have c:=hc01.size;refine⟨F2,h4,λz a=>(hF2 z a).imp id (λh=>by omega),hc13.since hc34 λz a b=>?_⟩;rcases hF2 z b with h|h
 ·exact h
 ·omega
theorem XfX(h:Zm F w R M)(k who:Int):Xf prog 119 #[B9 R,.int .i64 k,.int .i64 who] w
 (λv w'=>v=.tuple #[.int .i64 (D3 M k who),.int .i64 (D2 M k who),.int .i64 (Fa M k who)]/\Fg F w w' R (Z9 M k who)):=by
 have p:=Ny h.pool.good;refine ζe func119 ntmps119 ϱ (ζn ϱ λb D e1 m a a0=>?_);have n:=h.grow a;have f:¬F b:=λd=>by have:=h.low b d;omega
 refine ζw (R0 n) ϱ (Xa.defer rfl rfl (ζa ϱ (ζw (Oq n k) ϱ ?_)));unfold Fb D3 D2 Fa Z9;cases O:Zc M k with
 |none=>
  refine ζw (Xl1 who D) ϱ (ζs m ϱ λE c q a1=>?_);have g:=Uj (h.note n (Yk m) (by omega) f q (by decide)) (Zn M.pl) b 1 c p;refine Xa.retD Xb rfl func119 rfl (Nz (args:=[B9 R,.int .i64 (Zn M.pl:Nat),.pointer (some ⟨b,0,none⟩)]) (captured:=[]) g.fn) (g.mono λ_ P ⟨Q,r⟩=>?_);exact⟨_,.tmp rfl (.tmp rfl (.one rfl rfl rfl (Yt (r.heap c f)) .nil)),rfl,Ul a (λz h=>.inl h) (a.gr.since q (λz d e=>by omega)) Q r⟩
 |some x=>
  obtain⟨j,rfl,hj,H⟩:=Dt O;obtain⟨G,_,I,B,J⟩:=n.shelf H;refine ζc ϱ (Xl0 (R.S j) G x M.pl who D I) ?_;rintro _ E ⟨rfl,G',K,s,L⟩;refine ζa ϱ ?_;obtain⟨e2,e3,e4,e5⟩:=Xb2 x M.pl who h.pool.good I.ok.cls;obtain⟨S,T,t,C⟩:=J E G' (Q0 x M.pl who) (B1 x M.pl who) K s L e2 e3 e4 e5;have i:¬S b:=λd=>(t b d).elim f (λh=>by have:=Xg m;omega);have N:¬Av (R.S j) G x.pg b:=λd=>f (B b d);have c:=s.heap m N;refine ζs c ϱ λP u y a2=>?_;have g:=Uj (h.note T (Yk c) (by omega) i y (by decide)) (Zn M.pl) b (Qm x M.pl who) u p;refine Xa.retD Xb rfl func119 rfl (Nz (args:=[B9 R,.int .i64 (Zn M.pl:Nat),.pointer (some ⟨b,0,none⟩)]) (captured:=[]) g.fn) (g.mono λ_ w4 ⟨U,A⟩=>?_);refine⟨_,.tmp rfl (.tmp rfl (.one rfl rfl rfl (Yt (A.heap u i)) .nil)),rfl,?_⟩;have l:=Ul a t ((a.gr.trans C).since y (λz d e=>by omega)) U A;simp only[XA];by_cases o:Qm x M.pl who=0
  ·rw[if_pos o] at l⊢;exact l
  ·rw[if_neg o] at l⊢;have V:Q0 x M.pl who=x:=by unfold Q0;rw[if_neg o]
   have W:B1 x M.pl who=M.pl:=by unfold B1;rw[if_neg o]
   rw[V,W,XbC H] at l;exact l
theorem XlM{pl:PlM}{n i:Int}(h:B0 x n i≠0):Qj x n i=x/\A3 x pl n i=pl:=by
 unfold B0 at h;unfold Qj A3;cases a:Zi x.pg n with
 |none=>exact⟨rfl,rfl⟩
 |some p=>
  rw[a] at h;simp only at h⊢
  rw[if_neg h,if_neg (λe=>h e.1)];exact⟨rfl,rfl⟩
theorem XfW(h:Zm F w R M)(k n i:Int):Xf prog 123 #[B9 R,.int .i64 k,.int .i64 n,.int .i64 i] w
 (λv w'=>v=.int .i64 (Je M k n i)/\Fg F w w' R (Qb M k n i)):=by
 have q:=Ny h.pool.good;refine ζe func123 ntmps123 ϱ (ζn ϱ λb I e1 o c a2=>?_);have p:=h.grow c;have f:¬F b:=λa=>by have:=h.low b a;omega
 refine ζw (R0 p) ϱ (Xa.defer rfl rfl (ζa ϱ (ζw (Oq p k) ϱ ?_)));unfold Fb Je Qb;cases Q:Zc M k with
 |none=>
  refine ζw (XlS n i I) ϱ (ζs o ϱ λJ d r a3=>?_);have g:=Uj (h.note p (Yk o) (by omega) f r (by decide)) (Zn M.pl) b 1 d q;refine Xa.retD Xb rfl func123 rfl (Nz (args:=[B9 R,.int .i64 (Zn M.pl:Nat),.pointer (some ⟨b,0,none⟩)]) (captured:=[]) g.fn) (g.mono λ_ S ⟨T,s⟩=>?_);exact⟨_,.one rfl rfl rfl (Yt (s.heap d f)) .nil,rfl,Ul c (λz h=>.inl h) (c.gr.since r (λz a e=>by omega)) T s⟩
 |some x=>
  obtain⟨j,rfl,hj,K⟩:=Dt Q;obtain⟨G,_,C,D,L⟩:=p.shelf K;refine ζc ϱ (XlR (R.S j) G x M.pl n i I C) ?_;rintro _ J ⟨rfl,N,t,O⟩;refine ζa ϱ ?_;obtain⟨e2,e3,e4,e5⟩:=Xas x M.pl n i C.ok C.of;obtain⟨U,V,u,E⟩:=L J G (Qj x n i) (A3 x M.pl n i) N t (λz a=>.inl (O z a)) e2 e3 e4 e5;have l:¬U b:=λa=>(u b a).elim f (λh=>by have:=Xg o;omega);have P:¬Av (R.S j) G x.pg b:=λa=>f (D b a);have d:=t.heap o P;refine ζs d ϱ λS y A a4=>?_;have g:=Uj (h.note V (Yk d) (by omega) l A (by decide)) (Zn M.pl) b (B0 x n i) y q;refine Xa.retD Xb rfl func123 rfl (Nz (args:=[B9 R,.int .i64 (Zn M.pl:Nat),.pointer (some ⟨b,0,none⟩)]) (captured:=[]) g.fn) (g.mono λ_ w4 ⟨W,B⟩=>?_);refine⟨_,.one rfl rfl rfl (Yt (B.heap y l)) .nil,rfl,?_⟩;have m:=Ul c u ((c.gr.trans E).since A (λz a e=>by omega)) W B;simp only[XA];by_cases H:B0 x n i=0
  ·rw[if_pos H] at m⊢;exact m
  ·rw[if_neg H] at m⊢;obtain⟨t1,t2⟩:=XlM (pl:=M.pl) H;rw[t1,t2,XbC K] at m;exact m
structure XcB(c:Conf):Prop where
 size:64<=c.size/\c.size<=4096
 pages:1<=c.pages/\c.pages<=1024
 n:1<=c.classes.length/\c.classes.length<=16
 keep:c.keep.length=c.classes.length
 most:1<=c.most/\c.most<=2097152
theorem Yp(h:X6 c=true):XcB c:=by
 unfold X6 at h;simp only[XJ,decide_eq_true_eq,Qv] at h;obtain⟨⟨⟨⟨⟨⟨⟨b,e⟩,f⟩,g,_⟩,_⟩,_⟩,_⟩,i⟩:=h;have k:=Nk f;have a:=K5.1 b;have l:Dp c<=2097152:=by
  unfold Dp;rw[if_pos b];have j:c.size/8<=512:=by omega
  have d:0<=c.size/8:=by omega
  calc c.size*(c.size/8)<=4096*(c.size/8):=ZA a.2.1 d
   _<=4096*512:=Int.mul_le_mul_of_nonneg_left j (by omega)
   _=2097152:=by omega
 exact⟨⟨a.1,a.2.1⟩,e,by omega,g,i.1,by omega⟩
theorem Xhr(h:XcB c){n:Int}(hn:n<=c.most):0<=Zq n c.size/\Zq n c.size<=2097153:=by
 unfold Zq Z2;have b:=h.size;have d:=h.most;by_cases a:n<1\/c.size<1
 ·rw[if_pos a];simp
 ·rw[if_neg a];have e:0<=(n-1)/c.size:=ZX (by omega) (by omega);have f:(n-1)/c.size<=n-1:=YE _ (by omega);split <;> omega
theorem XfV(h:Zm F w R M)(size:Int):Xf prog 64 #[B9 R,.int .i64 size] w (Grow (.int .i64 (Qd R.c M size)) w):=by
 have l:=Yp h.may;have o:=l.n;have p:=l.most;refine ζe func64 ntmps64 ϱ (ζg ϱ (λj=>?_) λj=>?_)
 ·have e:Qd R.c M size=3:=by unfold Qd;rw[if_pos (.inl (of_decide_eq_true j))]
  rw[e];exact ζr func64 ϱ ⟨rfl,Xc.refl _ _⟩
 ·have q:=of_decide_eq_false j;refine ζl h.obj ϱ (ζg ϱ (λk=>?_) λk=>?_)
  ·have e:Qd R.c M size=3:=by unfold Qd;rw[if_pos (.inr (of_decide_eq_true k))]
   rw[e];exact ζr func64 ϱ ⟨rfl,Xc.refl _ _⟩
  ·have r:=of_decide_eq_false k;have e3:Qd R.c M size=if (M.pl.free.length:Int)<B8 R.c M size then 5 else 0:=by unfold Qd;rw[if_neg (by omega)]
   rw[e3];refine ζd 16 Xe (by kernel_rfl) ϱ λf=>δl f h.obj ϱ (δv f (λw' i=>Nl R.p.ca R.p.cc R.c.classes size w' (h.cls.1.chg i) (by omega)) ϱ (δl f h.obj ϱ (δw f (λw' i=>Xda size R.c.size w' (by omega)) ϱ (δn f ϱ λm a=>?_))));have b:=h.grow a;by_cases g:Xk R.c.classes size=-1
   ·have e4:B8 R.c M size=Zq size R.c.size:=by unfold B8;rw[if_pos g]
    rw[e4];refine ζF ϱ (by rw[g];rfl) (ζl b.obj ϱ (ζv (Xfi R.P M.pl m b.pool) ϱ λn c=>ζg ϱ (λd=>?_) λd=>?_))
    ·rw[if_pos (of_decide_eq_true d)];exact ζr func64 ϱ ⟨rfl,a.trans c⟩
    ·rw[if_neg (of_decide_eq_false d)];exact ζr func64 ϱ ⟨rfl,a.trans c⟩
   ·have e4:B8 R.c M size=1-min (Zf M (Xk R.c.classes size):Int) 1:=by unfold B8;rw[if_neg g]
    rw[e4];refine ζY ϱ (by simpa using g) (ζw (R1 b (Xk R.c.classes size)) ϱ ?_);have e5:(if (1:Int)<(Zf M (Xk R.c.classes size):Nat) then (1:Int) else (Zf M (Xk R.c.classes size):Nat))=min ((Zf M (Xk R.c.classes size):Nat):Int) 1:=by split <;> omega
    rw[e5];refine ζj ϱ (ζl b.obj ϱ (ζv (Xfi R.P M.pl m b.pool) ϱ λn c=>ζg ϱ (λd=>?_) λd=>?_))
    ·rw[if_pos (of_decide_eq_true d)];exact ζr func64 ϱ ⟨rfl,a.trans c⟩
    ·rw[if_neg (of_decide_eq_false d)];exact ζr func64 ϱ ⟨rfl,a.trans c⟩
theorem Xmd(a a':Option Addr)(c c':Nat)(x y:List Int)(w:World)(hr:Rd .i64 w a x)(hr':Rd .i64 w a' y)(hl:x.length<=9223372036854775807):Xf prog 194 #[.slice a x.length c,.slice a' y.length c'] w (Grow (.bool (decide (x=y))) w):=by
 refine ζe func194 ntmps194 ϱ (ζg ϱ (λn=>?_) λn=>?_)
 ·have q:x.length≠y.length:=by simp at n;omega
  have:x≠y:=λe=>q (by rw[e]);exact ζr func194 ϱ ⟨Ai (decide_eq_false this).symm,Xc.refl _ _⟩
 ·have o:x.length=y.length:=by simp at n;omega
  refine Xa.loop (α:=Nat) (λk=>[(0,false,.slice a x.length c),(1,false,.slice a' y.length c'),(12,false,.int .i64 x.length),(13,false,.int .i64 k)])
   (λk w'=>Xc Xe w w'/\k<=x.length/\∀j,j<k->x.getD j 0=y.getD j 0) (λk=>x.length-k) 0 ⟨rfl,rfl,rfl,rfl,trivial⟩ ⟨Xc.refl _ _,XL _,λ_ h=>by omega⟩ ?_
  rintro k A ⟨d,B,f⟩ ih;refine ζa ϱ (ζg ϱ (λh=>?_) λh=>?_)
  ·have l:k<x.length:=by simpa using h
   obtain⟨b,off,rfl,s⟩:=(hr.chg d) k l;obtain⟨b',off',rfl,r⟩:=(hr'.chg d) k (by omega);refine ζd 9 Xe (by kernel_rfl) ϱ λg=>δi k g ϱ (δk g s ϱ (δi k g ϱ (δk g r ϱ (δn g ϱ λC m=>ζg ϱ (λi=>?_) λi=>?_))))
   ·have p:x.getD k 0≠y.getD k 0:=by simpa using i
    have:x≠y:=λe=>p (by rw[e]);exact ζr func194 ϱ ⟨Ai (decide_eq_false this).symm,d.trans m⟩
   ·have t:x.getD k 0=y.getD k 0:=by simpa using i
    refine ζj ϱ ?_;exact ih (k+1) _ _ ⟨d.trans m,l,λj D=>by
     by_cases e:j=k
     ·subst e;exact t
     ·exact f j (by omega)⟩ (by omega) ⟨rfl,rfl,rfl,rfl,trivial⟩
  ·have z:k=x.length:=by simp at h;omega
   have:x=y:=List.ext_getElem o λj u v=>by
    have:=f j (by omega);rw[Gp u,Gp v] at this;exact this
   exact ζr func194 ϱ ⟨Ai (decide_eq_true this).symm,d⟩
theorem Xma(a:Option Addr)(cap:Nat)(x:List Int)(w:World)(hr:Rd .i64 w a x)(hl:x.length<=1048576)(hn:∃a1,a=some a1):Xf prog 68 #[.slice a x.length cap] w
 (λv w'=>∃g c,v=.slice (some ⟨g,0,none⟩) x.length c/\w.heap.size<=g/\Rd .i64 w' (some ⟨g,0,none⟩) x/\kd w' g=some (some 3)/\Xc Xe w w'):=by
 have q:maxLen=9223372036854775807:=rfl;obtain⟨a1,rfl⟩:=hn;refine ζe func68 ntmps68 ϱ (ζf ϱ (Xa.buildSlice Xb rfl λb m e1 n d r=>ζa ϱ ?_));subst e1;have h:Xl w.heap.size 3 1 m (.slice (some ⟨w.heap.size,0,none⟩) 0 0) 0 []:=Xl.empty (XE _) n;refine Xa.append (base:=w.heap.size) (xs:=[]) (news:=x.map (Value.int .i64)) Xb rfl h (by omega) (by simp) (hr.chg d).cells Jb ⟨by omega,by show(0+x.length)*8<=_;omega⟩ λv s f i j=>ζa ϱ ?_;rw[XS,ZR] at f;have o:=h.since d (XE _) i;rcases f.2 with⟨e,_⟩|⟨g,c,cur,rfl,p,k,t,u,_,l⟩
 ·have:=(j.1.1 e).1;cases this
 ·exact ζr func68 ϱ ⟨g,c,rfl,p,Rd.of_take k (by rw[ZK] at l;exact l),Yk k,o⟩
theorem Xme(k:Nat)(w:World)(hk:0<k)(hb:k<=1048576):Xf prog 235 #[.slice none 0 0,.int .i64 (k:Int)] w
 (λv w'=>Xl w.heap.size 3 1 w' v 0 []/\Xc Xe w w'/\v.ownBlock=some w.heap.size/\v≠.slice none 0 0):=by
 refine ζe func235 ntmps235 ϱ (ζf ϱ (Xa.cap Xb rfl (ζa ϱ (ζj ϱ (ζj ϱ (ζy ϱ (Xa.cap Xb rfl (ζa ϱ ?_))))))));rw[show(k:Int)-(((0:Nat):Int)-((0:Nat):Int))=(k:Nat) from by omega];refine Xa.slice Xb rfl (l:=0) (h:=0) (by first|rfl|omega|simp[B7]) (by first|rfl|omega|simp[B5]) (by omega) (by omega) rfl (Xa.appendZ (k:=k) Xb rfl hk (by show k*8<=_;omega) (by omega) λcap cur g a d e b c f=>ζa ϱ (Xa.slice Xb rfl (l:=0) (h:=0) (by first|rfl|omega|simp[B7]) (by first|rfl|omega|simp[B5]) (by omega) (by omega) rfl ?_));have es:Q6 (some ⟨w.heap.size,0,none⟩) cap 0 1=some ⟨w.heap.size,0,none⟩:=by
  unfold Q6;split
  ·omega
  ·rfl
 show Xa _ _ _ _ _ _ ((4,false,.slice (Q6 (some ⟨w.heap.size,0,none⟩) cap 0 1) 0 cap)::_) _
 rw[es];exact ζr func235 ϱ ⟨⟨rfl,.inr ⟨w.heap.size,cap,cur,rfl,XE _,c,by omega,b,by omega,by simp⟩⟩,a,rfl,by simp⟩
structure Sl where
 a:Option Addr
 cap:Nat
 x:List Int
abbrev slV(l:Sl):Value:=.slice l.a l.x.length l.cap
def Cn(ls:List Sl):List Int:=(ls.map (·.x)).flatten
theorem W4{ls:List Sl}(h:i<ls.length):Cn (ls.take (i+1))=Cn (ls.take i)++ls[i].x:=by
 unfold Cn;rw[ZC,XB h,XI,List.flatten_append]
 simp
theorem Xc9(ls:List Sl)(i:Nat):(Cn (ls.take i)).length<=(Cn ls).length:=by
 have:Cn ls=Cn (ls.take i)++Cn (ls.drop i):=by
  unfold Cn;rw[<-List.flatten_append,<-XI,XZ]
 rw[this,XO];omega
theorem Xmb(ob:Nat)(ls:List Sl)(w:World)(h:∀i (hi:i<ls.length),w.cell? ⟨ob,i,none⟩=some (slV ls[i]))(hr:∀l∈ls,Rd .i64 w l.a l.x)(hn:ls.length<=1024)(hpos:0<(Cn ls).length)(hb:(Cn ls).length<=1048576):Xf prog 195 #[.slice (some ⟨ob,0,none⟩) ls.length ls.length] w
 (λv w'=>∃g c,v=.slice (some ⟨g,0,none⟩) (Cn ls).length c/\w.heap.size<=g/\Rd .i64 w' (some ⟨g,0,none⟩) (Cn ls)/\Xc Xe w w'):=by
 have M:maxLen=9223372036854775807:=rfl;refine ζe func195 ntmps195 ϱ ?_;refine Xa.loop (α:=Nat) (λk=>[(0,false,.slice (some ⟨ob,0,none⟩) ls.length ls.length),(3,false,.int .i64 (Cn (ls.take k)).length),(9,false,.slice (some ⟨ob,0,none⟩) ls.length ls.length),(10,false,.int .i64 ls.length),(11,false,.int .i64 k)])
  (λk w'=>w'=w/\k<=ls.length) (λk=>ls.length-k) 0 ⟨rfl,rfl,rfl,rfl,rfl,trivial⟩ ⟨rfl,XL _⟩ ?_
 rintro k m ⟨G,P⟩ ih;subst G;refine ζa ϱ (ζg ϱ (λr=>?_) λr=>?_)
 ·have a:k<ls.length:=by simpa using r
  have t:=Xc9 ls (k+1);have q:=congrArg List.length (W4 a);rw[XO] at q;refine ζi k ϱ (ζk ϱ (show m.cell? ⟨ob,0+k,none⟩=_ from by rw[XS];exact h k a) ϱ (ζj ϱ (ζf ϱ (ζj ϱ ?_))));exact ih (k+1) _ _ ⟨rfl,a⟩ (by omega) ⟨rfl,congrArg (λz=>some (Value.int .i64 z)) (show((Cn (ls.take k)).length:Int)+(ls[k].x.length:Int)=((Cn (ls.take (k+1))).length:Int) from by rw[q];omega),rfl,rfl,rfl,trivial⟩
 ·have n:k=ls.length:=by simp at r;omega
  subst n;rw[ZL];refine ζc ϱ (Xme (Cn ls).length m hpos hb) ?_;rintro v Q ⟨H,x,N,y⟩;refine ζa ϱ ?_;refine Xa.loop (α:=Nat×Value) (λp=>[(6,false,p.2),(25,false,.slice (some ⟨ob,0,none⟩) ls.length ls.length),(26,false,.int .i64 ls.length),(27,false,.int .i64 p.1)])
   (λp w'=>p.1<=ls.length/\Xl m.heap.size 3 1 w' p.2 (Cn (ls.take p.1)).length ((Cn (ls.take p.1)).map (Value.int .i64))/\p.2≠.slice none 0 0/\Xc Xe m w') (λp=>ls.length-p.1) (0,v) ⟨rfl,rfl,rfl,rfl,trivial⟩ ⟨XL _,H,y,x⟩ ?_
  rintro⟨i,u⟩ I ⟨hi,d,A,f⟩ ih;simp only at hi d A
  refine ζa ϱ (ζg ϱ (λs=>?_) λs=>?_)
  ·have a:i<ls.length:=by simpa using s
   have t:=Xc9 ls (i+1);have q:=congrArg List.length (W4 a);rw[XO] at q;have o:=(hr ls[i] (XK a)).chg f;refine ζi i ϱ (ζk ϱ (show I.cell? ⟨ob,0+i,none⟩=_ from by rw[XS];exact f.cell (h i a) id) ϱ ?_);refine Xa.appendA (base:=m.heap.size) (xs:=(Cn (ls.take i)).map (Value.int .i64)) (news:=ls[i].x.map (Value.int .i64)) Xb rfl d f.size (λe=>by
    by_cases J:0<ls[i].x.length
    ·obtain⟨b,off,e',_⟩:=o 0 J;rw[e] at e';cases e'
    ·omega) (by simp) (λj u B=>by
    have O:j<ls[i].x.length:=by have:=(List.getElem?_eq_some_iff.1 B).1;simpa using this
    obtain⟨b,off,e',_⟩:=o 0 (by omega);exact⟨_,e',(Rd.cells (e'▸o)) j u B⟩) Jb ⟨by omega,by show(_+_)*8<=_;omega⟩ ?_
   intro u' R C D E;exact ζa ϱ (ζj ϱ (ih (i+1,u') _ _ ⟨a,by rw[W4 a,XO,XI];exact C,λe=>A (E.1.1 e).1,d.since f (XE _) D⟩ (by simp only;omega) ⟨rfl,rfl,rfl,rfl,trivial⟩))
  ·have n:i=ls.length:=by simp at s;omega
   subst n;rw[ZL] at d;obtain⟨g,c,cur,rfl,K,L,S,T,F⟩:=d.form hpos;exact ζr func195 ϱ ⟨g,c,rfl,K,Rd.of_take L (by rw[ZK] at F;exact F),f⟩
structure Plc where
 cls:Int
 page:Int
 idx:Int
 pa:Option Addr
 pc:Nat
 pages:List Int
def Xv(q:Plc):List Value:=[.int .i64 q.cls,.int .i64 q.page,.int .i64 q.idx,.slice q.pa q.pages.length q.pc]
structure Zl(w:World)(q:Plc):Prop where
 rd:Rd .i64 w q.pa q.pages
 len:q.pages.length<=9223372036854775807
abbrev Ik(w:World)(b:Nat)(q:Plc):Prop:=w.heap[b]?=some (.cells (Xv q).toArray 98 (0,0))
theorem Zl.grow{q:Plc}(h:Zl w q)(hc:Xc Xe w w'):Zl w' q:=⟨h.rd.chg hc,h.len⟩
variable {q:Plc}
theorem Dw.put{r:List Nat}(h:Dw F w lm lg)(hc:Xc (λz=>z=lm) w w')(hm':∀m,Y6 w lm m->Y6 w' lm (Cm m n (.slice a r.length cap)))(hnew:∀e∈lg,e.1≠n)(hr:Rd .i64 w' a (X1 r))(hmine:Lg F w' a):Dw F w' lm (lg++[(n,r)]):=by
 have l:=Hn h;obtain⟨m,o,p,q,i⟩:=h;have c:=i n λe he e'=>hnew e he (by omega);refine⟨_,hm' m o,?_,λe he=>?_,λk d=>?_⟩
 ·rw[Vr,if_neg (Sj.1 c)];exact List.nodup_append.2 ⟨p,by simp,λx t y j e=>by
   rw[ZN] at j;subst j;subst e;exact Sj.1 c t⟩
 ·rcases List.mem_append.1 he with he|he
  ·obtain⟨a',cap',u,v,g⟩:=q e he;have f:∀b off s,a'=some ⟨b,off,s⟩->b≠lm:=λb off s e'=>Xs (g b off s e').1 l (by simp);refine⟨a',cap',by rw[I0,if_neg (by have:=hnew e he;omega)];exact u,v.far f hc,λb off s e'=>⟨Fo hc (g b off s e').1 (f b off s e'),(g b off s e').2⟩⟩
  ·rw[ZN] at he;subst he;exact⟨a,cap,by rw[I0,if_pos rfl],hr,hmine⟩
 ·rw[I0,if_neg (λe=>d (n,r) (by simp) e.symm)];exact i k λe he=>d e (by simp[he])
theorem Dw.del(h:Dw F w lm lg)(hc:Xc (λz=>z=lm) w w')(hm':∀m,Y6 w lm m->Y6 w' lm (Da m n)):Dw F w' lm (Cp lg n):=by
 have j:=Hn h;obtain⟨m,l,c,o,p⟩:=h;refine⟨_,hm' m l,by rw[Vq];exact c.erase _,λe d=>?_,λk g=>?_⟩
 ·obtain⟨d,a⟩:=List.mem_filter.1 d;have q:e.1≠n:=by simpa using a
  obtain⟨a',cap',r,t,f⟩:=o e d;have a:∀b off s,a'=some ⟨b,off,s⟩->b≠lm:=λb off s e'=>Xs (f b off s e').1 j (by simp);exact⟨a',cap',by rw[Lh c,if_neg (by omega)];exact r,t.far a hc,λb off s e'=>⟨Fo hc (f b off s e').1 (a b off s e'),(f b off s e').2⟩⟩
 ·rw[Lh c];by_cases e:k=n
  ·rw[if_pos e]
  ·rw[if_neg e];refine p k λe' i e2=>?_;by_cases e3:e'.1=n
   ·exact e (by omega)
   ·exact g e' (List.mem_filter.2 ⟨i,by simpa using e3⟩) e2
theorem Xl5{l:Nat}{s}(h:Q6 a cap l sz=some ⟨b,off,s⟩):∃off' s',a=some ⟨b,off',s'⟩:=by
 unfold Q6 at h;by_cases c:cap=l
 ·rw[if_pos c] at h;exact⟨off,s,h⟩
 ·rw[if_neg c] at h;cases a with
  |none=>cases h
  |some x=>
   obtain⟨xb,xo,xs⟩:=x;simp only[QO,Option.some.injEq] at h;have:xb=b:=by
    have:=congrArg Addr.block h;unfold Addr.add at this;split at this <;> exact this
   subst this;exact⟨xo,xs,rfl⟩
theorem XaZ{l:List Nat}{m:Nat}(h:Xl base 3 1 w v m ((X1 l).map (Value.int .i64)))(hm:l.length=m)(hp:0<m):∃g cap,v=.slice (some ⟨g,0,none⟩) m cap/\base<=g/\m<=cap/\cap<=maxLen/\kd w g=some (some 3)/\Rd .i64 w (some ⟨g,0,none⟩) (X1 l):=by
 obtain⟨g,cap,cur,e,c,a,d,f,b⟩:=h.form hp;have i:(X1 l).length=m:=by unfold X1;rw[XN];exact hm
 exact⟨g,cap,e,c,d,f,Yk a,Rd.of_take a (by rw[i];rw[ZK] at b;exact b)⟩
theorem XeQ(l r:List Nat):X1 (l++r)=X1 l++X1 r:=by unfold X1;rw[XI]
theorem Df(l:List Nat):(X1 l).length=l.length:=by unfold X1;rw[XN]
def Xhk(F:Nat->Prop)(w w':World)(R:Rm)(M:RmM)(q:Plc):Prop:=∃F',Zm F' w' R M/\(∀z,F' z->F z\/w.heap.size<=z)/\Xc F w w'/\Zl w' q/\Xj F' q.pa/\∀b off s,q.pa=some ⟨b,off,s⟩->w.heap.size<=b/\kd w' b=some (some 3)
def Xy(q:Plc):PlcM:=⟨q.cls,q.page,q.idx,q.pages⟩
theorem Xlz(h:Zm F w R M)(who size:Int):Xf prog 138 #[B9 R,.int .i64 who,.int .i64 size] w
 (λv w'=>∃q:Plc,v=.tuple #[.agg (Xv q).toArray,.int .i64 (Ct R.c M who size)]/\Xy q=A2 R.c M who size/\Xhk F w w' R (Ab R.c M who size) q):=by
 have d9:maxLen=9223372036854775807:=rfl;have hf:=Yp h.may;have da:=hf.size;have db:=hf.n;have dc:=hf.most;have noq:∀{F':Nat->Prop} {w':World} (c i j:Int),Zl w' ⟨c,i,j,none,0,[]⟩/\Xj F' none/\∀b off s,(none:Option Addr)=some ⟨b,off,s⟩->w.heap.size<=b/\kd w' b=some (some 3):=λc i j=>⟨⟨Rd.nil _ _ _,by simp⟩,⟨(λ_ _ _ e=>by cases e),(λ_ _ _ e=>by cases e)⟩⟩;refine ζe func138 ntmps138 ϱ (ζn ϱ λb w1 e1 hb O dd=>?_);have A:¬F b:=λd=>by have:=h.low b d;omega
 have bl:Xc F w w1:=O.gr;by_cases C:who<0
 ·have ac:Ct R.c M who size=1/\A2 R.c M who size=⟨0,0,0,[]⟩/\Ab R.c M who size=M:=by
   unfold Ct A2 Ab;rw[if_pos C,if_pos C,if_pos C];exact⟨rfl,rfl,rfl⟩
  rw[ac.1,ac.2.1,ac.2.2];refine ζy ϱ (ζb ϱ (ζs hb ϱ λD P ad de=>?_));have h2:=h.note (h.grow O) (Yk hb) (by omega) A ad (by decide);exact ζR func138 P ϱ ⟨⟨0,0,0,none,0,[]⟩,rfl,rfl,F,h2,λz d=>.inl d,bl.since ad (λz d e=>by omega),noq 0 0 0⟩
 ·refine ζf ϱ (ζv (XfV (h.grow O) size) ϱ λD ae=>?_);have h2:=(h.grow O).grow ae;have P:=ae.heap' hb;have af:=O.trans ae;by_cases n:Qd R.c M size=0
  ·have bm:¬(size<1\/R.c.most<size)/\B8 R.c M size<=M.pl.free.length:=by
    unfold Qd at n;split at n
    ·cases n
    ·split at n
     ·cases n
     ·refine⟨by assumption,by omega⟩
   have J:¬(Qd R.c M size≠0):=λh=>h n;refine ζF ϱ (by rw[n];rfl) (ζl h2.obj ϱ (ζv (Nl R.p.ca R.p.cc R.c.classes size D h2.cls.1 (by omega)) ϱ λw3 ag=>?_));have o:=h2.grow ag;have Q:=ag.heap' P;have a1:=af.trans ag;by_cases L:Xk R.c.classes size=-1
   ·have G:Ct R.c M who size=0/\A2 R.c M who size=⟨-1,(M.pl.free.getD 0 0:Nat),0,X1 (M.pl.free.take (Zq size R.c.size).toNat).tail⟩/\Ab R.c M who size=D0 M (Zq size R.c.size).toNat:=by
     exact⟨by unfold Ct;rw[if_neg C,if_neg J,if_pos L],by unfold A2;rw[if_neg C,if_neg J,if_pos L],by unfold Ab;rw[if_neg C,if_neg J,if_pos L]⟩
    rw[G.1,G.2.1,G.2.2];have cq:B8 R.c M size=Zq size R.c.size:=by unfold B8;rw[if_pos L]
    have df:2<=Zq size R.c.size:=by
     have h0:0<=(size-1)/R.c.size:=ZX (by omega) (by omega);have h9:(size-1)/R.c.size<=size-1:=YE _ (by omega);have e4:Z2 size R.c.size=(size-1)/R.c.size+1:=by unfold Z2;rw[if_neg (by omega)]
     unfold Zq;rw[e4,if_neg (by omega)];omega
    obtain⟨many,b3⟩:=XD (show 0<=Zq size R.c.size by omega);have dg:2<=many:=by omega
    have K:many<=M.pl.free.length:=by have:=bm.2;omega
    have dh:M.pl.free.length<=1024:=by have:=h.pool.good.many;have:=h.pool.good.len;omega
    refine ζF ϱ (by rw[L];rfl) (ζl o.obj ϱ (ζw (Xda size R.c.size w3 (by omega)) ϱ ?_));rw[b3,XA];have ah:¬Ay R.P R.rb:=λd=>h.rf (h.pf _ d);refine Xa.loop (α:=Nat×Value) (λp=>[(0,false,B9 R),(6,false,.pointer (some ⟨b,0,none⟩)),(13,false,p.2),(58,false,.int .i64 many),(59,false,.int .i64 p.1)])
     (λp w'=>p.1<=many/\Xl w3.heap.size 3 1 w' p.2 p.1 ((X1 (M.pl.free.take p.1)).map (Value.int .i64))/\Zz w' R.P (Al M.pl (M.shs.length:Nat) p.1)/\Xc (Ay R.P) w3 w') (λp=>many-p.1) (0,.slice none 0 0) ⟨rfl,rfl,rfl,rfl,rfl,trivial⟩ ⟨XL _,⟨rfl,.inl ⟨rfl,rfl⟩⟩,o.pool,Xc.refl _ _⟩ ?_
    rintro⟨i,v⟩ w4 ⟨hi,a4,ai,r⟩ ih;simp only at hi a4 ai
    refine ζa ϱ (ζg ϱ (λaj=>?_) λaj=>?_)
    ·have c0:i<many:=by simpa using aj
     have ba:i<M.pl.free.length:=by omega
     obtain⟨q1,q2,q3,q4,q5⟩:=Mb (who:=(M.shs.length:Nat)) (by omega) h.pool.good i (by omega);have b4:(Al M.pl (M.shs.length:Nat) i).free=M.pl.free[i]::M.pl.free.drop (i+1):=by rw[q2];exact ZS ba
     obtain⟨t1,t2,t3⟩:=Xba (who:=(M.shs.length:Nat)) (by omega) b4;have hn:=h.ok.n;have E:=r.heap o.obj ah;refine ζd 16 (Ay R.P) (by kernel_rfl) ϱ λf=>δl f E ϱ (δl f E ϱ (Xd.turn1 f rfl λw5 t=>?_));have hd:=Xbd R.P _ (M.shs.length:Nat) w5 (ai.grow t);rw[t1,t2] at hd;rw[hn] at hd;refine Xp.call rfl hd.fn (Post:=λv D=>v=.tuple #[.int .i64 (M.pl.free[i]:Nat),.int .i64 0]/\Zz D R.P (Al M.pl (M.shs.length:Nat) (i+1))/\Xc (Ay R.P) w5 D) (λh0=>hd.mono λv D hp=>⟨h0.trans hp.2.2,hp.1,by rw[hn];exact hp.2.1,hp.2.2⟩) ?_;rintro _ w6 _ ⟨rfl,al,u⟩;refine Xd.adv Xb f rfl (δn f ϱ λw7 B=>Xa.buildSlice Xb rfl λb8 T e8 U bb di=>ζa ϱ ?_);have a3:Xc (Ay R.P) w4 T:=((t.gr.trans u).trans B.gr).trans bb.gr;have cw:=o.pool.lt;have a5:=a4.chg a3 (λz d hP=>by
      have dj:=(World.ownsRow.lt a4 z d.symm).1;rcases hP with e|e <;> omega)
     have bo:w3.heap.size<=T.heap.size:=(r.trans a3).size;refine Xa.append (base:=w3.heap.size) (xs:=(X1 (M.pl.free.take i)).map (Value.int .i64)) (news:=[.int .i64 (M.pl.free[i]:Nat)]) Xb rfl a5 bo (by simp) (Gl U) (by simp[Value.oneCell']) ⟨by omega,by show(i+1)*8<=_;omega⟩ λv9 w9 c7 bc dk=>ζa ϱ (ζj ϱ ?_);exact ih (i+1,v9) _ _ ⟨c0,by
      have e:(X1 (M.pl.free.take (i+1))).map (Value.int .i64)=(X1 (M.pl.free.take i)).map (Value.int .i64)++[.int .i64 (M.pl.free[i]:Nat)]:=by
       rw[ZC,XB ba,XeQ,XI];rfl
      rw[e];exact c7,(al.grow (B.trans bb)).chg bc (λe=>by have:=(World.ownsRow.lt a5 _ e.symm).1;omega) (λe=>by have:=(World.ownsRow.lt a5 _ e.symm).1;omega),(r.trans a3).since bc (λz d e=>by have:=(World.ownsRow.lt a5 z e.symm).1;omega)⟩ (by simp only;omega) ⟨rfl,rfl,rfl,rfl,rfl,trivial⟩
    ·have bp:i=many:=by simp at aj;omega
     subst bp;have am:(M.pl.free.take i).length=i:=by rw[XU];omega
     obtain⟨g,cap,rfl,hg,d0,dl,c8,bd⟩:=XaZ a4 am (by omega);have a6:¬F g:=λd=>by have:=o.low g d;omega
     have V:∀{w':World},Rd .i64 w' (some ⟨g,0,none⟩) (X1 (M.pl.free.take i))->w'.cell? ⟨g,0+0,none⟩=some (.int .i64 (M.pl.free.getD 0 0:Nat)):=λ{w'} hr=>by
      obtain⟨b',off',e',hc⟩:=hr 0 (by rw[Df];omega);cases e'
      have e:(X1 (M.pl.free.take i)).getD 0 0=((M.pl.free.getD 0 0:Nat):Int):=by
       cases an:M.pl.free with
       |nil=>rw[an] at K;simp at K;omega
       |cons x y=>
        obtain⟨j,rfl⟩:∃j,i=j+1:=⟨i-1,by omega⟩;rfl
      rw[e] at hc;exact hc
     have W:∀{w':World},Rd .i64 w' (some ⟨g,0,none⟩) (X1 (M.pl.free.take i))->Rd .i64 w' (Q6 (some ⟨g,0,none⟩) cap 1 1) (X1 (M.pl.free.take i).tail):=λ{w'} hr=>by
      have:=hr.shift (cap:=cap) (l:=1) (m:=i-1) (by rw[Df];omega) (by rw[Df];omega);have e:((X1 (M.pl.free.take i)).drop 1).take (i-1)=X1 (M.pl.free.take i).tail:=by
       have e1:(X1 (M.pl.free.take i)).drop 1=X1 (M.pl.free.take i).tail:=by unfold X1;rw[List.drop_one,List.map_tail]
       rw[e1];exact ZE (by rw[Df,QJ];omega)
      rw[e] at this;exact this
     have dm:¬R.rb=R.lm:=λe=>h.rf (e▸h.lf);have be:¬g=R.lm:=λe=>a6 (e▸h.lf);have E:=r.heap o.obj ah;refine ζd 10 (λz=>z=R.lm) (by kernel_rfl) ϱ λf=>δl f E ϱ (δi 0 f ϱ (δk f (V bd) ϱ (Xd.slice Xb f rfl (l:=1) (h:=i) (by first|rfl|omega|simp[B7]) (by first|rfl|omega|simp[B5]) (by omega) (by omega) rfl (Xd.turn1 f rfl λw5 t=>?_))));have bf:=o.lg.chg r (λz _ d=>.inl (o.pf z d)) (λd=>by
      have kl:=Hn o.lg;have kp:=o.pool.kds;rcases d with e|e
      ·exact Xs kl kp.1 (by simp) e
      ·exact Xs kl kp.2 (by simp) e)
     have a7:=bf.chg t (λ_ _ h=>h.elim) id;obtain⟨m,hm,_⟩:=a7;have a7:=bf.chg t (λ_ _ h=>h.elim) id;refine Xp.mapset Xb f rfl (hm) (by first|(intro h;exact rfl)|(intro h;omega)) rfl λw6 cb u dn=>δn f ϱ λw7 B=>?_;have ao:kd w6 g=some (some 3):=Fo u (Fo t c8 id) be;have ap:Rd .i64 w6 (some ⟨g,0,none⟩) (X1 (M.pl.free.take i)):=(bd.chg t).far (λb' off s e=>by cases e;exact be) u;have b7:∀{w':World},kd w' g=some (some 3)->Lg (R.FX F) w' (Q6 (some ⟨g,0,none⟩) cap 1 1):=λ{w'} hk b' off s e=>by
      obtain⟨_,_,e'⟩:=Xl5 e;cases e'
      exact⟨hk,λd=>d.elim a6 (λhx=>by have:=(o.xl _ hx).1;omega)⟩
     have a0:(M.pl.free.take i).tail.length=i-1:=by rw[QJ,am]
     have aq:M.pl.free.getD 0 0∈M.pl.free:=by
      cases an:M.pl.free with
      |nil=>rw[an] at K;simp at K;omega
      |cons x y=>simp
     have cc:Dw (R.FX F) w6 R.lm (M.lg++[(M.pl.free.getD 0 0,(M.pl.free.take i).tail)]):=a7.put (cap:=cap-1) (a:=Q6 (some ⟨g,0,none⟩) cap 1 1) u (λm' h'=>by
      rw[h'.uniq hm,a0];exact cb) (λe he e'=>by
       have h8:=(h.ok.lg e.1 (Id he (by simp))).2;have h9:=(h.pool.good.free _ aq).2;rw[e'] at h8;omega) (W ap) (b7 ao)
     have bg:=Hn a7;have au:=ai.grow t;have al:Zz w6 R.P (Al M.pl (M.shs.length:Nat) i):=au.chg u (Xs au.kds.1 bg (by simp)) (Xs au.kds.2 bg (by simp));have cd:=h.ok.big h.pool.good (show 1<=i by omega) K;have h6:=o.swap (pl':=Al M.pl (M.shs.length:Nat) i) (lg':=M.lg++[(M.pl.free.getD 0 0,(M.pl.free.take i).tail)]) {cd with tot:=h.ok.tot} (((r.mono λ_ _ h=>.inl h).trans t.gr).trans (u.mono λ_ _ h=>.inr h)) al cc (λk x hx ce=>Xfg (by omega) h.pool.good K (by have:=(h.ok.each k x hx).1;omega) ce);have h7:=h6.grow B;refine ζl h7.obj ϱ (ζj ϱ (ζj ϱ (ζj ϱ (ζj ϱ ?_))));rw[show((i:Nat):Int)*4+(((i:Nat):Int)-1)*1=(i:Int)*4+((i:Int)-1) from by omega];refine ζc ϱ (Uk h7 ((i:Int)*4+((i:Int)-1))) ?_;rintro _ T ⟨h8,a8⟩;refine ζa ϱ ?_;replace h8:Zm F T R (D0 M i):=h8;have a9:=r.heap Q (λd=>A (o.pf b d));have cg:=B.heap' (u.heap (t.heap' a9) (λe=>A (e▸h.lf)));have U:=a8.heap cg A;have av:=(ap.chg B).far (λb' off s e=>by cases e;exact a6) a8;have bs:=Fo a8 (Fo B ao id) a6;have dp:¬g=b:=λe=>by
      have:=Yk U;rw[<-e,bs] at this
      revert this;decide
     have d5:=Xg U;have ch:∀w',Xc Xe T w'->Xf prog 68 #[.slice (Q6 (some ⟨g,0,none⟩) cap 1 1) (i-1) (cap-1)] w' (λv D=>Xc (λz=>z=b) w' D/\Xc Xe T D/\∃n c2,v=.slice (some ⟨n,0,none⟩) (i-1) c2/\T.heap.size<=n/\Rd .i64 D (some ⟨n,0,none⟩) (X1 (M.pl.free.take i).tail)/\kd D n=some (some 3)):=λw' ax=>by
      have hd:=Xma (Q6 (some ⟨g,0,none⟩) cap 1 1) (cap-1) (X1 (M.pl.free.take i).tail) w' ((W av).chg ax) (by rw[Df,a0];omega) (by unfold Q6;split <;> exact⟨_,rfl⟩);rw[Df,a0] at hd;exact hd.mono λv D ⟨n,c2,q1,q2,q3,q4,q5⟩=>⟨q5.gr,ax.trans q5,n,c2,q1,by have:=ax.size;omega,q3,q4⟩
     refine ζd 9 (λz=>z=b) (by kernel_rfl) ϱ λf=>δi 0 f ϱ (δk f (V av) ϱ (Xd.slice Xb f rfl (l:=1) (h:=i) (by first|rfl|omega|simp[B7]) (by first|rfl|omega|simp[B5]) (by omega) (by omega) rfl (Xd.callQ f rfl rfl (ch) ?_)));rintro _ w9 _ ⟨ay,n,c2,rfl,dq,ci,cj⟩;refine Xd.adv Xb f rfl (Xd.build Xb f rfl rfl (Xd.turn1 f rfl λdr H=>?_));have az:=(ay.trans H).heap' U;refine Xp.store Xb f rfl az (by first|(intro h;exact rfl)|(intro h;omega)) rfl rfl rfl λds bt N d6=>δn f ϱ λck I=>?_;have b0:n≠b:=by omega
     have cl:=h.note (h8.grow (ay.trans H)) (Yk az) (by omega) A N (by decide);have cm:=cl.grow I;have bu:=I.heap' bt;have bv:=(((ci.chg H).far (S:=λz=>z=b) (λb' off s e=>by cases e;exact b0) N).chg I);have cn:Xc F w T:=(((((a1.gr.trans (r.mono λz _ d=>o.pf z d)).trans t.gr).trans (u.mono λz _ e=>e▸h.lf)).trans B.gr).trans a8);have b9:Xc F w ck:=((cn.trans ((ay.trans H).gr)).since N (λz d e=>by omega)).trans I.gr;exact ζR func138 bu ϱ ⟨⟨-1,(M.pl.free.getD 0 0:Nat),0,some ⟨n,0,none⟩,c2,X1 (M.pl.free.take i).tail⟩,by show Value.tuple #[Value.agg _,_]=Value.tuple #[Value.agg (#[_,_,_,Value.slice _ (X1 (M.pl.free.take i).tail).length _]:Array Value),_];rw[Df,a0],rfl,F,cm,λz d=>.inl d,b9,⟨bv,by rw[Df,a0];omega⟩,λb' off s e d=>by cases e;have:=h.low _ d;omega,λb' off s e=>by cases e;exact⟨by omega,Fo I (Fo N (Fo H cj id) b0) id⟩⟩
   ·have G:Ct R.c M who size=Fa M (Xk R.c.classes size) who/\A2 R.c M who size=⟨Xk R.c.classes size,D3 M (Xk R.c.classes size) who,D2 M (Xk R.c.classes size) who,[]⟩/\Ab R.c M who size=Z9 M (Xk R.c.classes size) who:=by
     exact⟨by unfold Ct;rw[if_neg C,if_neg J,if_neg L],by unfold A2;rw[if_neg C,if_neg J,if_neg L],by unfold Ab;rw[if_neg C,if_neg J,if_neg L]⟩
    rw[G.1,G.2.1,G.2.2];refine ζY ϱ (by simpa using L) (ζc ϱ (XfX o (Xk R.c.classes size) who) ?_);rintro _ w4 ⟨rfl,F4,h4,bh,r⟩;refine ζa ϱ ?_;have bw:¬F4 b:=λd=>(bh b d).elim A (λh=>by have:=Xg Q;omega);have a9:=r.heap Q A;refine ζb ϱ (ζs a9 ϱ λw5 cp bi dt=>?_);have h5:=h.note h4 (Yk a9) (by omega) bw bi (by decide);exact ζR func138 cp ϱ ⟨⟨Xk R.c.classes size,D3 M (Xk R.c.classes size) who,D2 M (Xk R.c.classes size) who,none,0,[]⟩,rfl,rfl,F4,h5,(λz d=>(bh z d).imp id (λh=>by have:=a1.size;omega)),(a1.gr.trans r).since bi (λz d e=>by omega),noq _ _ _⟩
  ·have b1:Ct R.c M who size=Qd R.c M size/\A2 R.c M who size=⟨0,0,0,[]⟩/\Ab R.c M who size=M:=by
    unfold Ct A2 Ab;rw[if_neg C,if_neg C,if_neg C,if_pos n,if_pos n,if_pos n];exact⟨rfl,rfl,rfl⟩
   rw[b1.1,b1.2.1,b1.2.2];refine ζY ϱ (by simpa using n) (ζb ϱ (ζs P ϱ λw3 Q b2 du=>?_));have o:=h.note h2 (Yk P) (by omega) A b2 (by decide);exact ζR func138 Q ϱ ⟨⟨0,0,0,none,0,[]⟩,rfl,rfl,F,o,λz d=>.inl d,af.gr.since b2 (λz d e=>by omega),noq 0 0 0⟩
theorem Xjk(h:Dw F w lm lg):∃m,Y6 w lm m/\(∀n:Int,Cz lg n=none->Bk m n=none)/\∀(n:Nat) r,(n,r)∈lg -> ∃a cap,Bk m n=some (.slice a r.length cap)/\Rd .i64 w a (X1 r)/\Lg F w a:=by
 obtain⟨m,b,j,c,d⟩:=h;exact⟨m,b,λn f=>d n λe g=>Ti f e g,λn r i=>c _ i⟩
theorem Xlv(h:Zm F w R M)(q:Plc)(hq:Zl w q):Xf prog 144 #[B9 R,.agg (Xv q).toArray] w
 (λv w'=>v=.int .i64 (Gy M (Xy q))/\Fg F w w' R (Ym M (Xy q))):=by
 refine ζe func144 ntmps144 ϱ (ζn ϱ λb w1 e1 C V c0=>?_);have b0:¬F b:=λc=>by have:=h.low b c;omega
 have Q:=h.grow V;replace C:w1.heap[b]?=some (.cells (Xv q).toArray 98 (0,0)):=C;have O:Xc F w w1:=V.gr;refine ζl C ϱ ?_;by_cases D:q.cls=-1
 ·have eD:Gy M (Xy q)=(match Cz M.lg q.page with|none=>1|some r=>if X1 r=q.pages then 0 else 1)/\Ym M (Xy q)=(match Cz M.lg q.page with|none=>M|some r=>if X1 r=q.pages then Hy M q.page.toNat r else M):=by
   unfold Gy Ym Xy;exact⟨if_neg (λh=>h D),if_neg (λh=>h D)⟩
  rw[eD.1,eD.2];refine ζF ϱ (by simp[D]) ?_;obtain⟨m,hm,b2,a5⟩:=Xjk Q.lg;cases hg:Cz M.lg q.page with
  |none=>
   simp only
   exact ζd 12 Xe (by kernel_rfl) ϱ λf=>δl f Q.obj ϱ (δl f C ϱ (Xd.lookup Xb f rfl (hm) (by first|(intro b h;cases h;assumption)|(intro b h hs;cases h;omega)) ((show Bf m _ _ true=.tuple #[.slice none 0 0,.bool false] from by unfold Bf;rw[b2 _ hg];rfl)) rfl (δn f ϱ λw2 d=>ζy ϱ (ζr func144 ϱ ⟨rfl,.of (Q.grow d) (O.trans d.gr)⟩))))
  |some r=>
   simp only
   obtain⟨n,hn,j⟩:=L1 hg;obtain⟨a,cap,a7,ab,a8⟩:=a5 n r j;refine ζd 12 Xe (by kernel_rfl) ϱ λf=>δl f Q.obj ϱ (δl f C ϱ (Xd.lookup Xb f rfl (hm) (by first|(intro b h;cases h;assumption)|(intro b h hs;cases h;omega)) ((show Bf m _ _ true=.tuple #[.slice a r.length cap,.bool true] from by unfold Bf;rw[hn,a7];rfl)) rfl (δn f ϱ λw2 d=>ζf ϱ ?_)));have h2:=Q.grow d;have ac:=d.heap' C;have c1:r.length<=1024:=by
    obtain⟨_,_,p3,_⟩:=Ob (l:=n::r) h.pool.good (by
     obtain⟨A,B,eA,_⟩:=N2 h.ok.nd j;have e:Y9 M.lg=Y9 A++((n::r)++Y9 B):=by rw[eA,Jy];rfl
     have t:=h.ok.nd;rw[e] at t;exact(List.nodup_append.1 (List.nodup_append.1 t).2.1).1) (λm p=>by
     obtain⟨D,g2⟩:=h.ok.lg m (Id j p);exact⟨D,by omega⟩)
    have:=Ny h.pool.good;simp only[XM] at p3;omega
   have hd:=Xmd a q.pa cap q.pc (X1 r) q.pages w2 (ab.chg d) ((hq.rd.chg V).chg d) (by rw[Df];omega);rw[Df] at hd;refine ζl ac ϱ (ζv hd ϱ λw3 E=>?_);have G:=h2.grow E;have ad:=E.heap' ac;have W:=d.trans E;by_cases S:X1 r=q.pages
   ·rw[if_pos S,if_pos S,hn,XA];refine ζF ϱ (by rw[decide_eq_true S];rfl) ?_;have bt:¬R.rb=R.lm:=λe=>h.rf (e▸h.lf);have b6:¬b=R.lm:=λe=>b0 (e▸h.lf);refine ζd 7 (λz=>z=R.lm) (by kernel_rfl) ϱ λf=>δl f G.obj ϱ (δl f ad ϱ (Xd.turn1 f rfl λw4 y=>?_));have T:=G.grow y;obtain⟨m4,ae,_⟩:=T.lg;refine Xp.mapdel Xb f rfl (ae) (by first|(intro h;exact rfl)|(intro h;omega)) rfl λw5 b8 H c2=>δn f ϱ λw6 af=>?_;have b9:=af.heap' (H.heap (y.heap' ad) b6);refine ζl b9 ϱ (Xa.buildSlice Xb rfl λb7 w7 e7 ba bb c3=>ζa ϱ (Xa.buildSlice Xb rfl λob w8 e8 ag ah c4=>ζa ϱ ?_));have bc:Dw (R.FX F) w5 R.lm (Cp M.lg n):=T.lg.del H (λm' h'=>by
     rw[h'.uniq ae,<-hn];exact b8)
    have ar:Xc Xe w6 w8:=bb.trans ah;have u:Xc Xe w5 w8:=af.trans ar;have bd:=bc.chg u (λ_ _ h=>h.elim) id;have a0:=Hn T.lg;have be:Zz w8 R.P M.pl:=(T.pool.chg H (Xs T.pool.kds.1 a0 (by simp)) (Xs T.pool.kds.2 a0 (by simp))).grow u;have bf:Rd .i64 w5 a (X1 r):=(((ab.chg d).chg E).chg y).far (λb' off s e=>by
     have hk:=(a8 b' off s e).1;exact Xs (Fo y (Fo E (Fo d hk id) id) id) a0 (by simp)) H
    have bh:=bf.chg u
    let ls:List Sl:=[⟨some ⟨b7,0,none⟩,1,[(n:Int)]⟩,⟨a,cap,X1 r⟩]
    have a1:Cn ls=X1 (n::r):=by show [(n:Int)]++(X1 r++[])=_;rw[YB];rfl
    have bi:(Cn ls).length=r.length+1:=by rw[a1,Df];rfl
    have ai:=Xmb ob ls w8 (λi hi=>by
     replace hi:i<2:=hi;rcases(show i=0\/i=1 by omega) with rfl|rfl
     ·rw[Yt ag];rfl
     ·rw[Yt ag];show some (Value.slice a r.length cap)=some (Value.slice a (X1 r).length cap)
      rw[Df]) (λl hl=>by
     rcases List.mem_cons.1 hl with rfl|hl
     ·have au:=ah.heap' ba;exact Rd.of_cells λi hi=>by
       have:i=0:=by replace hi:i<1:=hi;omega
       subst this;rw[Yt au,hn];rfl
     ·rw[ZN] at hl;subst hl;exact bh) (by show 2<=1024;omega) (by omega) (by omega)
    rw[bi] at ai;refine ζc ϱ (ai) ?_;rintro _ w9 ⟨g,c9,rfl,c5,aj,a2⟩;refine ζa ϱ ?_;rw[a1] at aj;have bk:=be.grow a2;have I:Xc (λz=>Ay R.P z\/z=R.lm) w3 w9:=(((y.gr.trans (H.mono λ_ _ h=>.inr h)).trans u.gr).trans a2.gr);have ak:∀z,(Ay R.P z\/z=R.lm)->F z:=λz c=>c.elim (h.pf z) (λe=>e▸h.lf);have aa:=I.heap G.obj (λc=>h.rf (ak _ c));have av:¬Ay R.P R.rb:=λc=>h.rf (h.pf _ c);refine Xa.loop (α:=Nat) (λi=>[(0,false,B9 R),(5,false,.slice a r.length cap),(54,false,.slice (some ⟨g,0,none⟩) (r.length+1) c9),(55,false,.int .i64 ((r.length+1:Nat):Int)),(56,false,.int .i64 i)])
     (λi w'=>i<=r.length+1/\Zz w' R.P (Az M.pl ((n::r).take i))/\Xc (Ay R.P) w9 w') (λi=>r.length+1-i) 0 ⟨rfl,rfl,rfl,rfl,rfl,trivial⟩ ⟨XL _,bk,Xc.refl _ _⟩ ?_
    rintro i bl ⟨hi,J,o⟩ ih;refine ζa ϱ (ζg ϱ (λa3=>?_) λa3=>?_)
    ·have al:i<r.length+1:=by have:=of_decide_eq_true a3;omega
     have K:i<(n::r).length:=al;obtain⟨b',off',e',P⟩:=aj i (by rw[Df];exact K);cases e'
     have ev:(X1 (n::r)).getD i 0=((n::r)[i]:Int):=by
      unfold X1;rw[XC,XR,XB K];rfl
     rw[ev] at P;have U:=o.cell P (λc=>by
      have:=G.pool.lt;have:=y.size;have:=u.size;rcases c with e|e <;> omega)
     refine ζi i ϱ (ζk ϱ U ϱ (ζl (o.heap aa av) ϱ (ζc ϱ (Xbc R.P _ (((n::r)[i]:Nat):Int) bl J) ?_)));rintro _ am ⟨_,aw,L⟩;refine ζa ϱ (ζj ϱ ?_);exact ih (i+1) _ _ ⟨al,by
      have e:Az M.pl ((n::r).take (i+1))=Gv (Az M.pl ((n::r).take i)) (((n::r)[i]:Nat):Int):=by
       rw[ZC,XB K];unfold Az;rw[List.foldl_append];rfl
      rw[e];exact aw,o.trans L⟩ (by omega) ⟨rfl,rfl,rfl,rfl,rfl,trivial⟩
    ·have bm:i=r.length+1:=by have:=of_decide_eq_false a3;omega
     subst bm;have etk:(n::r).take (r.length+1)=n::r:=ZL (l:=n::r);rw[etk] at J;obtain⟨bn,_⟩:=h.ok.gone h.pool.good j;have ax:=(bd.chg a2 (λ_ _ h=>h.elim) id).chg o (λz _ c=>.inl (h.pf z c)) (λc=>by
      have an:=Hn G.lg;have kp:=G.pool.kds;rcases c with e|e
      ·exact Xs an kp.1 (by simp) e
      ·exact Xs an kp.2 (by simp) e)
     have t:(n::r).Nodup:=by
      obtain⟨A,B,eA,_⟩:=N2 h.ok.nd j;have e:Y9 M.lg=Y9 A++((n::r)++Y9 B):=by rw[eA,Jy];rfl
      have t:=h.ok.nd;rw[e] at t;exact(List.nodup_append.1 (List.nodup_append.1 t).2.1).1
     have N:∀m∈n::r,m<M.pl.own.length/\M.pl.own.getD m 0=(M.shs.length:Int):=λm p=>h.ok.lg m (Id j p);have ao:=G.swap (pl':=Az M.pl (n::r)) (lg':=Cp M.lg n) {bn with tot:=h.ok.tot} (I.trans (o.mono λ_ _ h=>.inl h)) J ax (λk x hx bp=>by
      have hk:k<M.shs.length:=(List.getElem?_eq_some_iff.1 hx).1;have c6:=(h.ok.each k x hx).1;exact Xff h.pool.good t (λm p=>⟨(N m p).1,by have:=(N m p).2;omega⟩) bp (λm p=>by have:=(N m p).2;omega))
     refine ζl ao.obj ϱ (ζj ϱ (ζj ϱ (ζj ϱ (ζj ϱ ?_))));rw[show((r.length:Nat):Int)*1=(r.length:Int) from by omega];refine ζc ϱ (Uk ao ((((r.length:Nat):Int)+1)*4+(r.length:Int))) ?_;rintro _ am ⟨a4,L⟩;refine ζa ϱ ?_;replace a4:Zm F am R (Hy M n r):=a4;have ay:Xc F w w3:=O.trans W.gr;exact ζr func144 ϱ ⟨rfl,.of a4 (((ay.trans (I.mono λz _ c=>ak z c)).trans (o.mono λz _ c=>h.pf z c)).trans L)⟩
   ·rw[if_neg S,if_neg S];exact ζY ϱ (by rw[decide_eq_false S];rfl) (ζr func144 ϱ ⟨rfl,.of G (O.trans W.gr)⟩)
 ·have eD:Gy M (Xy q)=Je M q.cls q.page q.idx/\Ym M (Xy q)=Qb M q.cls q.page q.idx:=by
   unfold Gy Ym Xy;exact⟨if_pos D,if_pos D⟩
  rw[eD.1,eD.2];refine ζY ϱ (by simpa using D) (ζl C ϱ (ζl C ϱ (ζl C ϱ ?_)));refine ζc rfl (XfW Q q.cls q.page q.idx) ?_;rintro _ w2 ⟨rfl,hT⟩;exact ζa ϱ (ζr func144 ϱ ⟨rfl,Fg.trans (λz c=>.inl c) O hT⟩)
theorem Qq.note{S:Sh}{pl:PlM}(h:Qq w S G x pl){eb:Nat}(hk:kd w eb=some (some t))(hc:Xc (λz=>z=eb) w w')(htb:0≠eb)(ht:t≠227/\t≠280/\t≠224/\t≠290/\t≠275/\t≠292/\t≠286/\t≠312):Qq w' S G x pl:=by
 have d:∀{t':Nat},t≠t'->some (some t)≠some (some t'):=λh e=>h (Option.some.inj (Option.some.inj e));have kp:=h.pool.kds;have ap:=h.at'.apart hk ht.2.2;exact⟨h.ok,h.pos,h.of,h.at'.chg hc (λz e=>e▸ap.1) (λz e=>e▸ap.2) htb,h.pool.chg hc (Xs kp.1 hk (Ne.symm (d ht.1))) (Xs kp.2 hk (Ne.symm (d ht.2.1)))⟩
theorem Qq.own{S:Sh}{pl:PlM}(h:Qq w S G x pl){m:Nat}(ho:Xl base 161 1 w v m xs)(hc:Xc (Ig v) w w')(htb:0<base):Qq w' S G x pl:=by
 rcases ho.2 with⟨rfl,_⟩|⟨g,cap,cur,rfl,b,a,_⟩
 ·exact h.grow (hc.mono λz _ e=>by cases e)
 ·exact h.note (Yk a) (hc.mono λz _ e=>Option.some.inj e) (by omega) (by decide)
def Fu(c:Conf)(n:Nat):List Sm:=(List.range n).map λk=>P0 (k:Nat) (Qi c (k:Nat)).toNat
def Hp(c:Conf)(tot:Int):RmM:=⟨Fu c c.classes.length,Dg c.pages.toNat,[],tot⟩
theorem L5(h:(Fu c n)[k]?=some x):k<n/\x=P0 (k:Nat) (Qi c (k:Nat)).toNat:=by
 unfold Fu at h;rw[XR,QB] at h;obtain⟨j,d,e⟩:=h;obtain⟨a,b⟩:=List.getElem?_eq_some_iff.1 d;simp only[YK] at a;rw[List.getElem_range] at b;subst b;exact⟨a,e.symm⟩
theorem XeR(c:Conf):∀n,Hz (Fu c n)=0
 |0=>rfl
 |n+1=>by
  have:=XeR c n;unfold Hz Fu at *;rw[YX,XI,XI,List.sum_append,this];rfl
theorem Wv(h:X6 c=true)(hk:k<c.classes.length):1<=Qi c k/\Qi c k<=512:=by
 have f:=(Yp h).size;have a:Ax c.classes c.size=true:=by
  unfold X6 at h;simp only[XJ,decide_eq_true_eq] at h;exact h.1.1.1.1.1.2
 obtain⟨d,_,g⟩:=Pc a k hk;unfold Qi;rw[if_pos (by omega),XA,Ve (by omega) (by omega)];constructor
 ·exact(Int.le_ediv_iff_mul_le (by omega)).2 (by omega)
 ·have i:c.size/c.classes.getD k 0<=c.size/8:=by
   refine Int.le_ediv_of_mul_le (by omega) ?_;have j:=Int.ediv_mul_le c.size (b:=c.classes.getD k 0) (by omega);have e:0<=c.size/c.classes.getD k 0:=ZX (by omega) (by omega);have l:=Int.mul_le_mul_of_nonneg_left d e;omega
  omega
theorem XjS(h:X6 c=true){tot:Int}(ht:0<=tot/\tot<=4611686018427387904):(Hp c tot).Ok c:=by
 have e:=(Yp h).pages;refine⟨by show(Fu c _).length=_;unfold Fu;simp,λk x a=>?_,?_,(λm b=>by cases b),YJ,?_,ht⟩
 ·obtain⟨d,rfl⟩:=L5 a;have:=Wv h d;exact⟨rfl,by show(((Qi c k).toNat:Nat):Int)=_;omega⟩
 ·show(((List.replicate c.pages.toNat (-1:Int)).length:Nat):Int)=_
  rw[XH];omega
 ·show Zn (Dg c.pages.toNat)=Hz (Fu c _)+0
  rw[XeR];exact Ht _
theorem Xlw(c:Conf)(p:Yu)(mo:Option Nat)(tot lap:Int)(X:Nat->Prop)(w:World)(hc:Ys w c p)(ht:Bb w)(hX:∀z,X z->z<w.heap.size/\mo≠some z)(hmo:∀b,mo=some b->A9 w b tot lap/\A1 (λz=>z=b) w p.ca c.classes/\A1 (λz=>z=b) w p.ka c.keep)(htot:0<=tot/\tot<=4611686018427387904):Xf prog 71 #[.agg (Zj c p).toArray,Im mo] w (λv w'=>Xc Xe w w'/\if X6 c=true then ∃F R,R.c=c/\R.p=p/\R.mo=mo/\v=.tuple #[B9 R,.int .i64 0]/\Zm F w' R (Hp c tot)/\(∀z,F z->w.heap.size<=z\/mo=some z)/\R.lap=lap/\R.X=X else v=.tuple #[.pointer none,.int .i64 1]):=by
 have c8:maxLen=9223372036854775807:=rfl;refine ζe func71 ntmps71 ϱ (ζn ϱ λcb w1 e1 ao a8 c9=>?_);refine ζl ao ϱ (ζv (Xae c p w1 (hc.chg a8)) ϱ λw2 T=>?_);have a9:=T.heap' ao;by_cases A:X6 c=true
 ·have em:Bo c=0:=by unfold Bo;rw[if_pos A]
  have hf:=Yp A;have ca:=hf.n;have cc:=hf.pages;rw[em];simp only[A,if_true];refine ζf ϱ (ζl a9 ϱ ?_);obtain⟨N,hN⟩:=XD (show 0<=c.pages by omega);rw[hN];refine ζc ϱ (Xko N w2 (by omega)) ?_;rintro _ w3 ⟨P,rfl,⟨cd,ce⟩,aq,aa⟩;have ab:=aa.heap' a9;have bs:=aq.lt;refine ζa ϱ (ζl ab ϱ (Xa.mkmap rfl λlm w4 e4 bc ac cf=>ζa ϱ (ζb ϱ (ζn ϱ λrb K e5 ar U cg=>?_))));have ch:=T.size;have ci:=aa.size;have ad:=U.heap' (ac.heap' ab);have L:=(((a8.trans T).trans aa).trans ac).trans U;have bt:0<w.heap.size:=World.block_lt_of_cell? w _ (ht 0 (by decide));have bd:Zz K P (Dg N):=(aq.grow ac).grow U;refine Xa.loadb Xb rfl ad rfl rfl ?_;refine Xa.loop (α:=Nat×Value×List Sh) (λx=>[(2,false,.pointer (some ⟨cb,0,none⟩)),(7,false,Ei P),(8,false,.int .i64 0),(9,false,.pointer (some ⟨rb,0,none⟩)),(32,false,.int .i64 c.classes.length),(33,false,.int .i64 x.1)])
   (λx w'=>x.1<=c.classes.length/\x.2.2.length=x.1/\w'.heap[rb]?=some (.cells (Zj c p++[Im mo,Ei P,x.2.1,.map (some lm)]).toArray 166 (0,0))/\Xl K.heap.size 161 1 w' x.2.1 x.1 (x.2.2.map Ci)/\
    (∀(k:Nat) (S:Sh),x.2.2[k]?=some S->S.P=P/\(∀G,Qq w' S G (P0 (k:Nat) (Qi c (k:Nat)).toNat) (Dg N))/\∀G z,Qf S G [] z->K.heap.size<=z/\z<w'.heap.size)/\
    (∀(j k:Nat) (S S':Sh),j<k->x.2.2[j]?=some S->x.2.2[k]?=some S' -> ∀G G' z,Qf S G [] z -> ¬Qf S' G' [] z)/\Xc (λz=>z=rb) K w') (λx=>c.classes.length-x.1) (0,.slice none 0 0,[]) ⟨rfl,rfl,rfl,rfl,rfl,rfl,trivial⟩ ⟨XL _,rfl,ar,⟨rfl,.inl ⟨rfl,rfl⟩⟩,(λk S h=>by cases h),(λj k S S' _ h=>by cases h),Xc.refl _ _⟩ ?_
  rintro⟨i,v,ls⟩ J ⟨hi,ae,C,V,n,D,r⟩ ih;simp only at hi ae C V n D
  have f:Xc Xe w J:=L.since r (λz hz e=>by omega);have au:Zz J P (Dg N):=bd.chg r (by omega) (by omega);refine ζa rfl ?_;refine Xa.fork Xb rfl rfl rfl (λaf=>?_) (λaf=>?_)
  ·have ag:i<c.classes.length:=by have:=of_decide_eq_true af;omega
   have cj:=Wv A ag;obtain⟨bk,ah⟩:=XD (show 0<=Qi c i by omega);refine Xa.loads Xb rfl (r.heap ad (by omega)) rfl rfl ?_;refine ζc rfl (Xdn c p (i:Nat) J (hc.chg f)) ?_;rintro _ w7 ⟨rfl,W⟩;refine ζa rfl ?_;rw[ah];refine ζc rfl (XlT P (Dg N) (i:Nat) bk w7 (ht.grow (f.trans W)) (by omega) (by omega) (au.grow W)) ?_;rintro _ w8 ⟨S,be,rfl,av,d,aw⟩;refine ζa rfl ?_;have ai:=W.trans aw;refine Xa.loadb Xb rfl (ai.heap' C) rfl rfl ?_;refine Xa.buildSlice Xb rfl ?_;intro b9 w9 e9 bf ax ck;refine ζa rfl ?_;have t:=ai.trans ax;have a0:=V.chg t (λ_ _ h=>h);have bw:=r.size;have bx:=t.size;refine Xa.append (base:=K.heap.size) (xs:=ls.map Ci) (news:=[Ci S]) Xb rfl a0 (by omega) (by simp) (Gl bf) (by simp[Value.oneCell']) ⟨by omega,by show(i+1)*8<=_;omega⟩ ?_;intro v' cl M E bz;refine ζa rfl ?_;have bo:=Xg ar;have b4:¬Ig v rb:=λe=>by have:=(World.ownsRow.lt a0 _ e.symm).1;omega
   have a4:=E.heap (t.heap' C) b4;obtain⟨g',cap',cur',rfl,_⟩:=M.form (by omega);refine Xa.store Xb rfl a4 rfl rfl ?_;intro aj H O c0;refine ζa rfl ?_;replace H:aj.heap[rb]?=some (.cells (Zj c p++[Im mo,Ei P,.slice (some ⟨g',0,none⟩) (i+1) cap',.map (some lm)]).toArray 166 (0,0)):=H;refine Xa.arith Xb rfl (w64 (by omega)) rfl ?_;have bp:=E.size;have ay:∀{S':Sh} {G:Nat->Pg} {x:Sm} {pl:PlM},Qq w9 S' G x pl->Qq aj S' G x pl:=λh=>(h.own a0 E (by have:=L.size;omega)).note (Yk a4) O (by have:=L.size;omega) (by decide);have am:Xc (λz=>z=rb) K aj:=((r.trans t.gr).since E (λz hz e=>by have:=(World.ownsRow.lt a0 _ e.symm).1;omega)).trans O;have c1:=aw.size;have c2:=W.size;exact ih (i+1,.slice (some ⟨g',0,none⟩) (i+1) cap',ls++[S]) _ _ ⟨ag,by simp[ae],H,by
    have:=M.chg O (λz hz e=>by
     subst e;have:=(World.ownsRow.lt M _ hz.symm).1;omega)
    simpa using this,λk S' m=>by
    by_cases e:k<ls.length
    ·rw[XX e] at m;obtain⟨a1,a2,a3⟩:=n k S' m;exact⟨a1,λG=>ay ((a2 G).grow t),λG z hz=>by obtain⟨b1,b2⟩:=a3 G z hz;exact⟨b1,by omega⟩⟩
    ·rw[ZZ (by omega)] at m;have e2:k=ls.length:=by
      have:=(List.getElem?_eq_some_iff.1 m).1;simp only[List.length_singleton] at this;omega
     subst e2;simp only[Nat.sub_self,List.getElem?_cons_zero,Option.some.injEq] at m;subst m;refine⟨be,λG=>ay ?_,λG z hz=>?_⟩
     ·rw[ae,ah,XA];exact(d G).grow ax
     ·have g1:=av G z hz;have g2:=(λG=>(d G).foot_lt) G z (.inl hz);exact⟨by omega,by omega⟩,λj k S1 S2 a5 h1 h2 G G' z hz=>by
    by_cases e:k<ls.length
    ·rw[XX e] at h2;rw[XX (by omega)] at h1;exact D j k S1 S2 a5 h1 h2 G G' z hz
    ·rw[ZZ (by omega)] at h2;have e2:k=ls.length:=by
      have:=(List.getElem?_eq_some_iff.1 h2).1;simp only[List.length_singleton] at this;omega
     subst e2;simp only[Nat.sub_self,List.getElem?_cons_zero,Option.some.injEq] at h2;subst h2;rw[XX a5] at h1;have g1:=((n j S1 h1).2.2 G z hz).2;exact λu=>by have:=av G' z u;omega,am⟩ (by simp only;omega) ⟨rfl,rfl,rfl,rfl,rfl,rfl,trivial⟩
  ·have bj:i=c.classes.length:=by have:=of_decide_eq_false af;omega
   subst bj;obtain⟨g,cap,cur,rfl,cm,az,_⟩:=V.form (by omega);have cn:=Xg az;have c5:=r.size
   let q:Nat->Pg:=λ_=>⟨0,0,0⟩
   let R:Rm:=⟨rb,c,p,mo,P,g,cap,lm,λk=>ls.getD k ⟨0,0,⟨0,0,0⟩,P⟩,lap,X⟩
   let F:Nat->Prop:=λz=>(∃(k:Nat) (S:Sh),ls[k]?=some S/\Qf S q [] z)\/Ay P z\/z=lm\/mo=some z
   have o:∀z,F z->(w.heap.size<=z/\z<J.heap.size)\/mo=some z:=λz hz=>by
    rcases hz with⟨k,S,d,hz⟩|hz|hz|hz
    ·obtain⟨b1,b2⟩:=(n k S d).2.2 q z hz;exact .inl ⟨by omega,b2⟩
    ·rcases hz with e|e <;> exact .inl ⟨by omega,by omega⟩
    ·exact .inl ⟨by omega,by omega⟩
    ·exact .inr hz
   have Q:∀b,mo=some b->b<w.heap.size:=λb B=>by
    obtain⟨A,_⟩:=hmo b B;exact Xg A.1
   have ak:∀{a:Option Addr} {l:List Int},Rd .i64 w a l->(∀b,mo=some b->A1 (λz=>z=b) w a l)->A1 F J a l:=λ{a l} hr B=>⟨hr.chg f,λhl b off s e hz=>by
    have ag:=hr.block hl e;rcases o b hz with⟨h,_⟩|h
    ·omega
    ·exact(B b h).2 hl b off s e rfl⟩
   have a6:∀(k:Nat) (S:Sh),ls[k]?=some S->R.S k=S:=λk S h=>by
    show ls.getD k _=S
    rw[XC,h];rfl
   have I:∀(k:Nat),k<c.classes.length -> ∃S,ls[k]?=some S:=λk m=>⟨_,XB (by omega)⟩;have b0:(Fu c c.classes.length).length=c.classes.length:=by unfold Fu;simp
   exact Xa.ret2 Xb rfl func71 rfl rfl rfl ⟨f,F,R,rfl,rfl,rfl,rfl,⟨XjS A htot,by show J.heap[rb]?=some (.cells (rmL R (Fu c c.classes.length).length).toArray _ _);rw[b0];exact C,ak hc.classes (λb B=>(hmo b B).2.1),ak hc.keep (λb B=>(hmo b B).2.2),A,
    λb B=>⟨.inr (.inr (.inr B)),by obtain⟨h,_⟩:=hmo b B;exact h.chg f⟩,λk m=>by
     replace m:k<(Fu c c.classes.length).length:=m;rw[b0] at m;obtain⟨S,d⟩:=I k m;have:=(World.ownsRow.cells V (g:=g) rfl) k (Ci S) (by rw[XR,d];rfl);rw[Cl] at this;rw[a6 k S d]
     simpa using this,by show Zz J P (Dg c.pages.toNat);rw[hN,XA];exact au,λz hz=>.inr (.inl hz),⟨λ_=>q,λk x hx=>by
     obtain⟨m,rfl⟩:=L5 hx;obtain⟨S,d⟩:=I k m;obtain⟨a1,a2,a3⟩:=n k S d;rw[a6 k S d];refine⟨a1,by show Qq J S q _ (Dg c.pages.toNat);rw[hN,XA];exact a2 q,λz hz=>⟨.inl ⟨k,S,d,hz⟩,λe=>?_⟩⟩;have:=(a3 q z hz).1;have e':z=lm:=e;omega,λj k x y a5 hx hy z hz u=>by
     obtain⟨hj,rfl⟩:=L5 hx;obtain⟨m,rfl⟩:=L5 hy;obtain⟨S,d⟩:=I j hj;obtain⟨S',al⟩:=I k m;rw[a6 j S d] at hz;rw[a6 k S' al] at u;rcases Nat.lt_or_gt_of_ne a5 with h|h
     ·exact D j k S S' h d al q q z hz u
     ·exact D k j S' S h al d q q z u hz⟩,⟨[],(bc.chg U id).chg r (by omega),YJ,(λe he=>by cases he),λ_ _=>rfl⟩,.inr (.inr (.inl rfl)),λhz=>by
     rcases hz with⟨k,S,d,hz⟩|hz|hz|hz
     ·have:=((n k S d).2.2 q _ hz).1;replace this:K.heap.size<=rb:=this;omega
     ·rcases hz with e|e
      ·replace e:rb=P.pb:=e;omega
      ·replace e:rb=P.ab:=e;omega
     ·replace hz:rb=lm:=hz;omega
     ·have:=Q _ hz;replace this:rb<w.heap.size:=this;omega,λhz=>by
     rcases hz with⟨k,S,d,hz⟩|hz|hz|hz
     ·have ap:=((n k S d).2.1 q).at'.apart (Yk az) (by decide);rcases hz with e|e|e|⟨e,he,_⟩
      ·exact ap.1.1 e
      ·exact ap.1.2.1 e
      ·exact ap.1.2.2.2 e
      ·cases he
     ·rcases hz with e|e
      ·replace e:g=P.pb:=e;omega
      ·replace e:g=P.ab:=e;omega
     ·replace hz:g=lm:=hz;omega
     ·have:=Q _ hz;replace this:g<w.heap.size:=this;omega,λz hz=>by
     rcases o z hz with⟨_,h⟩|h
     ·exact h
     ·have:=Q z h;have:=f.size;omega,ht.grow f,λhz=>by
     rcases o _ hz with⟨h,_⟩|h
     ·omega
     ·obtain⟨bn,_⟩:=hmo _ h;exact K7 ht (λv e=>by rw[Yt bn.1] at e;simp at e) rfl,λz hz=>⟨by have:=(hX z hz).1;have:=f.size;omega,λu=>by
     rcases o z u with⟨h,_⟩|h
     ·have:=(hX z hz).1;omega
     ·exact(hX z hz).2 h⟩⟩,λz hz=>(o z hz).imp (·.1) id,rfl,rfl⟩
 ·have em:Bo c=1:=by unfold Bo;rw[if_neg A]
  rw[em];simp only[A];exact ζy ϱ (ζr func71 ϱ ⟨a8.trans T,rfl⟩)
section
variable {α:Type}{cells:α->List Value}{sz:Nat}
def fl(cells:α->List Value)(xs:List α):List Value:=xs.flatMap cells
theorem Ns:fl cells []=[]:=rfl
theorem Kr(xs ys:List α):fl cells (xs++ys)=fl cells xs++fl cells ys:=by unfold fl;rw[List.flatMap_append]
theorem Lt(x:α):fl cells [x]=cells x:=by unfold fl;simp
theorem I4(hl:∀x,(cells x).length=sz):∀xs:List α,(fl cells xs).length=xs.length*sz
 |[]=>by simp[fl]
 |x::r=>by
  have:=I4 hl r;unfold fl at *;rw[ZQ,XO,this,hl,XM,QP];omega
theorem Tc(hl:∀x,(cells x).length=sz){j:Nat}(hj:j<sz):∀(xs:List α) (i:Nat) (x:α),xs[i]?=some x->(fl cells xs)[i*sz+j]?=(cells x)[j]?
 |[],i,x,h=>by simp at h
 |y::r,0,x,h=>by
  cases h
  unfold fl;rw[ZQ,Nat.zero_mul,XS,XX (by rw[hl];exact hj)]
 |y::r,i+1,x,h=>by
  have:=Tc hl hj r i x h;unfold fl at *;rw[ZQ,ZZ (by rw[hl,QP];omega),hl,<-this]
  congr 1
  rw[QP];omega
theorem Rows.news{xs:List α}(h:Rows cells sz w a xs)(hl:∀x,(cells x).length=sz)(hz:0<sz):∀i u,(fl cells xs)[i]?=some u -> ∃a',a=some a'/\w.cell? (a'.add i)=some u:=λi u c=>by
 have hi:i<xs.length*sz:=by rw[<-I4 hl];exact(List.getElem?_eq_some_iff.1 c).1
 have d:i/sz<xs.length:=(Nat.div_lt_iff_lt_mul hz).2 hi;have g:i%sz<sz:=QM _ hz;have e:i/sz*sz+i%sz=i:=by rw[YF];exact YV i sz
 obtain⟨b,off,rfl,j⟩:=h (i/sz) xs[i/sz] (XB d);have f:=Tc hl g xs (i/sz) xs[i/sz] (XB d);rw[e,c] at f;refine⟨_,rfl,?_⟩;rw[Cl];have:=j (i%sz) u f.symm;rw[YL,e] at this;exact this
theorem Rows.noneA{xs:List α}(h:Rows cells sz w a xs):a=none->xs.length=0:=λe=>by
 cases xs with
 |nil=>rfl
 |cons l r=>
  obtain⟨b,off,e',_⟩:=h 0 l rfl;rw[e] at e';cases e'
theorem Nt(hp:∀x,∀u∈cells x,u.oneCell'=true)(xs:List α):∀u∈fl cells xs,u.oneCell'=true:=λu a=>by
 unfold fl at a;obtain⟨x,_,h⟩:=List.mem_flatMap.1 a;exact hp x u h
theorem K2{xs:List α}(h:w.heap[g]?=some (.cells (fl cells xs++rest).toArray t fz))(hl:∀x,(cells x).length=sz):Rows cells sz w (some ⟨g,0,none⟩) xs:=λi x a=>by
 refine⟨g,0,rfl,λj v b=>?_⟩;have c:j<sz:=by have:=(List.getElem?_eq_some_iff.1 b).1;rw[hl] at this;exact this
 rw[Yt h,XS,YO,XX,Tc hl c xs i x a]
 ·exact b
 ·rw[I4 hl];have:(i+1)*sz<=xs.length*sz:=QH _ ((List.getElem?_eq_some_iff.1 a).1);rw[QP] at this;omega
theorem Xl.rowsN{xs:List α}(h:Xl base t sz w v n (fl cells xs))(hl:∀x,(cells x).length=sz)(hn:xs.length=n):∃a cap,v=.slice a xs.length cap/\Rows cells sz w a xs/\Yj w a/\xs.length<=cap/\∀b off s,a=some ⟨b,off,s⟩->base<=b:=by
 rcases h.2 with⟨rfl,m⟩|⟨g,cap,cur,rfl,j,d,c,k,_,f⟩
 ·have:xs=[]:=List.length_eq_zero_iff.1 (by omega);subst this;exact⟨none,0,rfl,(λi l hl=>by simp at hl),(by intro b off s e;cases e),XE _,(by intro b off s e;cases e)⟩
 ·subst hn;refine⟨some ⟨g,0,none⟩,cap,rfl,K2 (rest:=cur.toList.drop (xs.length*sz)) (t:=t) (fz:=(0,0)) ?_ hl,(by intro b off s e;cases e;exact Xg d),c,(by intro b off s e;cases e;exact j)⟩;rw[d,<-f,XZ]
theorem XbF:∀(A old vs B:List Value),old.length=vs.length->Yd (A++(old++B)) A.length vs=some (A++(vs++B))
 |[],[],[],B,_=>by cases B <;> rfl
 |[],o::old,v::vs,B,h=>by
  have:=XbF [] old vs B (by simpa using h);simp only[ZR,List.length_nil] at this;show Yd (o::(old++B)) 0 (v::vs)=_
  unfold Yd;rw[this];rfl
 |x::A,old,vs,B,h=>by
  have:=XbF A old vs B h;show Yd (x::(A++(old++B))) (A.length+1) vs=_
  unfold Yd;rw[this];rfl
theorem Pm(hl:∀x,(cells x).length=sz){xs:List α}{y:α}(hk:k<xs.length):Yd (fl cells xs++rest) (0+k*sz) (cells y)=some (fl cells (xs.set k y)++rest):=by
 have e1:xs=xs.take k++(xs[k]::xs.drop (k+1)):=by rw[<-ZS hk,XZ]
 have a:(fl cells (xs.take k)).length=0+k*sz:=by rw[I4 hl,XU,Nat.min_eq_left (by omega),XS]
 have f1:∀z,fl cells (xs.take k++(z::xs.drop (k+1)))++rest=fl cells (xs.take k)++(cells z++(fl cells (xs.drop (k+1))++rest)):=λz=>by
  rw[Kr];unfold fl;rw[ZQ];simp only[List.append_assoc]
 rw[(List.set_eq_take_append_cons_drop.trans (if_pos hk)),f1 y,<-a]
 conv=>lhs;rw[e1,f1 xs[k]]
 rw[show(xs.take k++xs[k]::xs.drop (k+1)).take k=xs.take k from by rw[<-e1]];exact XbF _ _ _ _ (by rw[hl,hl])
end
structure RR where
 c:Conf
 cp:Yu
 p:RP
 ss:List RS
 sa:Option Addr
 scap:Nat
 lg:List Plc
 la:Option Addr
 lcap:Nat
 steps:Int
def A5(r:RR):List Value:=Zj r.c r.cp++[Xn r.p.o,Xn r.p.f,.slice r.sa r.ss.length r.scap,.slice r.la r.lg.length r.lcap,.int .i64 r.steps]
def lgP(e:Nat×List Nat):PlcM:=⟨-1,(e.1:Nat),0,X1 e.2⟩
structure Iy(M:RmM):Prop where
 sh:∀(k:Nat) (x:Sm),M.shs[k]?=some x->x.Ok/\x.Of M.pl
 good:M.pl.Good
theorem Zm.mok(h:Zm F w R M):Iy M:=⟨λk x b=>by
 obtain⟨G,_,a,_⟩:=h.shelf b;exact⟨a.ok,a.of⟩,h.pool.good⟩
structure Qc(w:World)(r:RR)(M:RmM):Prop where
 p:Q4 w r.p M.pl
 sr:Rows X3 7 w r.sa r.ss
 sl:Yj w r.sa
 sc:r.ss.length<=r.scap
 n:r.ss.length=M.shs.length
 few:r.ss.length<=16
 each:∀(k:Nat) (s:RS) (x:Sm),r.ss[k]?=some s->M.shs[k]?=some x -> ∃pk,Y7 w s x pk/\x.Of pk
 lr:Rows Xv 4 w r.la r.lg
 ll:Yj w r.la
 lc:r.lg.length<=r.lcap
 lm:r.lg.length<=1024
 lge:r.lg.map Xy=M.lg.map lgP
 lgo:∀q∈r.lg,Zl w q/\Yj w q.pa
 st:r.steps=M.tot
structure B3(S:Nat->Prop)(r:RR):Prop where
 o:Xj S r.p.o.a
 f:Xj S r.p.f.a
 sa:Xj S r.sa
 each:∀s∈r.ss,Z6 S s
 la:Xj S r.la
 lgo:∀q∈r.lg,Xj S q.pa
theorem Rows.far{cells:α->List Value}{xs:List α}(h:Rows cells sz w a xs)(hs:Xj S a)(hc:Xc S w w'):Rows cells sz w' a xs:=λi x d=>by
 obtain⟨b,off,e,c⟩:=h i x d;exact⟨b,off,e,λj v f=>hc.cell (c j v f) (hs b off _ e)⟩
theorem Qc.grow{w w':World}{r:RR}{M:RmM}(h:Qc w r M)(hc:Xc Xe w w'):Qc w' r M:=
 ⟨h.p.grow hc,h.sr.chg hc,h.sl.grow hc.size,h.sc,h.n,h.few,λk s x d e=>by obtain⟨pk,a,b⟩:=h.each k s x d e;exact⟨pk,a.grow hc,b⟩,h.lr.chg hc,h.ll.grow hc.size,h.lc,h.lm,h.lge,λq c=>⟨(h.lgo q c).1.grow hc,(h.lgo q c).2.grow hc.size⟩,h.st⟩
theorem Qc.far{w w':World}{r:RR}{M:RmM}{S:Nat->Prop}(h:Qc w r M)(ho:B3 S r)(hc:Xc S w w'):Qc w' r M:=
 ⟨⟨h.p.o.far ho.o hc,h.p.f.far ho.f hc,h.p.eo,h.p.ef⟩,h.sr.far ho.sa hc,h.sl.grow hc.size,h.sc,h.n,h.few,λk s x d e=>by obtain⟨pk,a,b⟩:=h.each k s x d e;exact⟨pk,a.far (ho.each s (XP d)) hc,b⟩,h.lr.far ho.la hc,h.ll.grow hc.size,h.lc,h.lm,h.lge,λq c=>⟨⟨(h.lgo q c).1.rd.far (ho.lgo q c) hc,(h.lgo q c).1.len⟩,(h.lgo q c).2.grow hc.size⟩,h.st⟩
theorem Qc.out{w:World}{r:RR}{M:RmM}{S:Nat->Prop}(h:Qc w r M)(hs:∀z,S z->w.heap.size<=z):B3 S r:=
 ⟨h.p.o.lt.out hs,h.p.f.lt.out hs,h.sl.out hs,λs c=>by
  obtain⟨k,b,rfl⟩:=QK c;obtain⟨pk,a,_⟩:=h.each k _ _ (XB b) (XB (by rw[<-h.n];exact b));exact a.out hs,h.ll.out hs,λq d=>(h.lgo q d).2.out hs⟩
theorem B3.mono{S S':Nat->Prop}{r:RR}(h:B3 S r)(hs:∀z,S' z->S z):B3 S' r:=
 ⟨h.o.mono hs,h.f.mono hs,h.sa.mono hs,λs a=>⟨(h.each s a).o.mono hs,(h.each s a).f.mono hs,(h.each s a).nums.mono hs,(h.each s a).opn.mono hs,(h.each s a).pa.mono hs,λl b=>((h.each s a).each l b).mono hs⟩,h.la.mono hs,λq c=>(h.lgo q c).mono hs⟩
def Ad(w:World)(r r':RR):Prop:=r'.c=r.c/\r'.cp=r.cp/\∀S:Nat->Prop,(∀z,S z->z<w.heap.size)->B3 S r->B3 S r'
theorem Ad.refl(w:World)(r:RR):Ad w r r:=⟨rfl,rfl,λ_ _ h=>h⟩
theorem Ad.trans{w w1:World}{r r1 r2:RR}(h:Ad w r r1)(h':Ad w1 r1 r2)(hs:w.heap.size<=w1.heap.size):Ad w r r2:=⟨h'.1.trans h.1,h'.2.1.trans h.2.1,λS a b=>
 h'.2.2 S (λz c=>by have:=a z c;omega) (h.2.2 S a b)⟩
theorem Y7.setP{s:RS}{pl:PlM}{p':RP}(h:Y7 w s x pl)(hp:Q4 w p' pl'):Y7 w {s with p:=p'} x pl':=⟨hp,h.nums,h.opn,h.rp,h.plt,h.pcap,h.each,h.e1,h.e2,h.e3,h.e4,h.e5⟩
abbrev Yg(w:World)(b:Nat)(r:RR):Prop:=w.heap[b]?=some (.cells (A5 r).toArray 38 (0,0))
theorem Oe(r:RR)(k:Int)(w:World):Xf prog 199 #[.agg (A5 r).toArray,.int .i64 k] w (Grow (.bool (decide (0<=k) && decide (k<r.ss.length))) w):=by
 refine ζe func199 ntmps199 ϱ (ζn ϱ λb f e1 d a e=>?_);refine ζg ϱ (λc=>?_) λc=>?_
 ·refine ζl d ϱ ?_;rw[decide_eq_true (of_decide_eq_true c),YI];exact ζr func199 ϱ ⟨rfl,a⟩
 ·rw[decide_eq_false (of_decide_eq_false c),YQ];exact ζr func199 ϱ ⟨rfl,a⟩
theorem Xbp(r:RR)(M:RmM)(k:Nat)(s:RS)(w:World)(h:Qc w r M)(hk:r.ss[k]?=some s):Xf prog 201 #[.agg (A5 r).toArray,.int .i64 (k:Int)] w (Grow (.agg (X3 {s with p:=r.p}).toArray) w):=by
 have A:=(List.getElem?_eq_some_iff.1 hk).1;refine ζe func201 ntmps201 ϱ (ζn ϱ λb H e1 m n B=>ζn ϱ λob I e2 o c C=>?_);have d:=n.trans c;obtain⟨sb,soff,q,f⟩:=(h.sr.chg d) k s hk;refine ζl (c.heap' m) ϱ ?_;rw[q];refine ζi (k*7) ϱ (Xa.loadC Xb (X3 s) rfl (by first|rfl|(simp;done)|(simp[*];done)|(simp;omega)) (f) rfl (ζn ϱ λtb J e3 t u D=>ζs t ϱ λK i v E=>?_));have a:=u.since v (λz x e=>by omega);refine ζl (a.heap' (c.heap' m)) ϱ (ζs i ϱ λL j g F=>?_);refine ζl j ϱ ?_;refine ζs (g.heap (a.heap' o) (by omega)) ϱ λN l y G=>?_;exact ζR func201 l ϱ ⟨rfl,((d.trans a).since g (λz x e=>by omega)).since y (λz x e=>by omega)⟩
theorem R2(s:RS):(X3 s).length=7:=rfl
theorem XbD(s:RS):∀u∈X3 s,u.oneCell'=true:=λu a=>by
 simp only[X3,QR,List.mem_nil_iff,or_false] at a;rcases a with rfl|rfl|rfl|rfl|rfl|rfl|rfl <;> rfl
theorem Xla(r:RR)(k:Nat)(s:RS)(w:World)(hsr:Rows X3 7 w r.sa r.ss)(hk:k<r.ss.length)(hl:r.ss.length<=16)(h1:r.p.f.x.length<=1024)(h2:s.p.f.x.length<=1024)(h3:0<=r.steps/\r.steps<=4611686018427387904):Xf prog 202 #[.agg (A5 r).toArray,.int .i64 (k:Int),.agg (X3 s).toArray] w
 (λv w'=>∃sa' scap',v=.agg (A5 {r with sa:=sa',scap:=scap',ss:=r.ss.set k s,p:=s.p,steps:=r.steps+(3+(max (r.p.f.x.length:Int) s.p.f.x.length-min (r.p.f.x.length:Int) s.p.f.x.length)*4)}).toArray/\Rows X3 7 w' sa' (r.ss.set k s)/\Yj w' sa'/\(r.ss.set k s).length<=scap'/\Ck w sa'/\Xc Xe w w'):=by
 have ai:maxLen=9223372036854775807:=rfl;obtain⟨c,cp,p,ss,sa,scap,lg,la,lcap,steps⟩:=r;simp only at hk hl hsr h1 h3
 refine ζe func202 ntmps202 ϱ (ζn ϱ λrb w1 e1 f H aj=>ζn ϱ λqb w2 e2 m n ak=>ζn ϱ λob K e3 a2 i al=>?_);replace f:w1.heap[rb]?=some (.cells (Zj c cp++[Xn p.o,Xn p.f,.slice sa ss.length scap,.slice la lg.length lcap,.int .i64 steps]).toArray 38 (0,0)):=f;replace m:w2.heap[qb]?=some (.cells (X3 s).toArray 112 (0,0)):=m;refine Xa.buildSlice Xb rfl ?_;intro b4 w4 e4 a3 o am;refine ζa rfl ?_;have q:=(n.trans i).trans o;have L:=H.trans q;have M:=q.heap' f;refine Xa.loadb Xb rfl M rfl rfl ?_;have ho:Xl K.heap.size 112 7 w4 (.slice (some ⟨b4,0,none⟩) 0 0) 0 (fl X3 []):=Xl.empty (by omega) a3;refine Xa.appendA (base:=K.heap.size) (xs:=fl X3 []) (news:=fl X3 ss) Xb rfl ho o.size hsr.noneA (I4 R2 ss) ((hsr.chg L).news R2 (by decide)) (Nt XbD ss) ⟨by omega,by show(0+ss.length)*136<=_;omega⟩ ?_;intro v5 w5 t a6 an;replace t:Xl K.heap.size 112 7 w5 v5 ss.length (fl X3 ss):=by
  have h:=t;rw[Ns,ZR,XS] at h;exact h
 have d:=ho.since o (XE _) a6;obtain⟨g,u,cur,rfl,ao,a7,a8,ap,a9⟩:=t.form (by omega);have x:cur.toList=fl X3 ss++cur.toList.drop (ss.length*7):=by
  have e:=XZ (ss.length*7) cur.toList;rw[a9] at e;exact e.symm
 obtain⟨rest,F⟩:∃rest,rest=cur.toList.drop (ss.length*7):=⟨_,rfl⟩;rw[<-F] at x;have N:w5.heap[g]?=some (.cells (fl X3 ss++rest).toArray 112 (0,0)):=by rw[<-x];exact a7
 have O:=d.heap' (i.heap' (n.heap' f));have A:=d.heap' (i.heap' m);have P:=d.heap' a2;refine ζa ϱ (ζl A ϱ (ζi (k*7) ϱ (ζS ϱ N (Pm (cells:=X3) (y:=s) R2 hk) ϱ λw6 aa j aq=>?_)));have B:=j.heap O (by omega);have Q:=j.heap A (by omega);have R:=j.heap P (by omega);refine ζl B ϱ (ζs B ϱ λw7 S l ar=>?_);have T:=l.heap Q (by omega);refine ζl T ϱ (ζs S ϱ λw8 a C au=>?_);replace a:w8.heap[rb]?=some (.cells (Zj c cp++[Xn s.p.o,Xn s.p.f,.slice (some ⟨g,0,none⟩) ss.length u,.slice la lg.length lcap,.int .i64 steps]).toArray 38 (0,0)):=a;refine ζl a ϱ (ζl a ϱ (ζj ϱ ?_));have em:(if ((s.p.f.x.length:Nat):Int)>(p.f.x.length:Nat) then ((s.p.f.x.length:Nat):Int) else (p.f.x.length:Nat))=max ((p.f.x.length:Nat):Int) (s.p.f.x.length:Nat):=by split <;> omega
 have en:(if ((s.p.f.x.length:Nat):Int)<(p.f.x.length:Nat) then ((s.p.f.x.length:Nat):Int) else (p.f.x.length:Nat))=min ((p.f.x.length:Nat):Int) (s.p.f.x.length:Nat):=by split <;> omega
 rw[em,en];refine ζj ϱ (ζj ϱ (ζj ϱ ?_));rw[show steps+3+4*(max ((p.f.x.length:Nat):Int) (s.p.f.x.length:Nat)-min ((p.f.x.length:Nat):Int) (s.p.f.x.length:Nat))=steps+(3+(max ((p.f.x.length:Nat):Int) (s.p.f.x.length:Nat)-min ((p.f.x.length:Nat):Int) (s.p.f.x.length:Nat))*4) from by omega];refine ζs a ϱ λw9 U D av=>ζl U ϱ ?_;have V:=D.heap (C.heap (l.heap R (by omega)) (by omega)) (by omega);refine ζs V ϱ λwa W E aw=>?_;have I:=E.heap (D.heap (C.heap (l.heap aa (by omega)) (by omega)) (by omega)) (by omega);have J:(ss.set k s).length=ss.length:=XG;have a0:Xc Xe w w6:=(((H.trans n).trans i).trans d).since j (λz G e=>by omega);have a1:Xc Xe w wa:=(((a0.since l (λz G e=>by omega)).since C (λz G e=>by omega)).since D (λz G e=>by omega)).since E (λz G e=>by omega);exact ζR func202 W ϱ ⟨some ⟨g,0,none⟩,u,by show _=Value.agg (Zj c cp++[Xn s.p.o,Xn s.p.f,.slice _ (ss.set k s).length _,_,_]).toArray;rw[J];rfl,K2 I R2,(by intro b off s e;cases e;exact Xg I),by rw[J];exact a8,(by intro b off s e;cases e;omega),a1⟩
theorem Qc.sout{r:RR}(h:B3 S r){s:RS}(hk:r.ss[k]?=some s)(_:Qc w r M):Z6 S {s with p:=r.p}:=by
 have:=h.each s (XP hk);exact⟨h.o,h.f,this.nums,this.opn,this.pa,this.each⟩
theorem Qc.put{r:RR}(h:Qc w r M)(hc:Xc Xe w w'){s:RS}{t:Int}{sa':Option Addr}{scap':Nat}(hk:k<r.ss.length)(hs:Y7 w' s x' pl')(hof:x'.Of pl')(hrow:Rows X3 7 w' sa' (r.ss.set k s))(hlt:Yj w' sa')(hcap:(r.ss.set k s).length<=scap'):Qc w' {r with sa:=sa',scap:=scap',ss:=r.ss.set k s,p:=s.p,steps:=t} {M with shs:=M.shs.set k x',pl:=pl',tot:=t}:=by
 have a:=h.grow hc;refine⟨hs.p,hrow,hlt,hcap,by show(r.ss.set k s).length=(M.shs.set k x').length;rw[XG,XG];exact h.n,by show(r.ss.set k s).length<=16;rw[XG];exact h.few,λj d f b c=>?_,a.lr,a.ll,a.lc,a.lm,a.lge,a.lgo,rfl⟩;by_cases e:k=j
 ·subst e;rw[XF hk] at b;rw[XF (by rw[<-h.n];exact hk)] at c;cases b;cases c
  exact⟨pl',hs,hof⟩
 ·rw[XQ e] at b c;exact a.each j d f b c
theorem Ad.put{r:RR}(h:Qc w r M){s0 s:RS}{t:Int}{sa':Option Addr}{scap':Nat}(hk:r.ss[k]?=some s0)(hs:w.heap.size<=w1.heap.size)(hkeep:A4 w1 {s0 with p:=r.p} s)(hf:Ck w' sa')(hs':w.heap.size<=w'.heap.size):Ad w r {r with sa:=sa',scap:=scap',ss:=r.ss.set k s,p:=s.p,steps:=t}:=⟨rfl,rfl,λS e b=>by
 have a:=hkeep S (λz c=>by have:=e z c;omega) (Qc.sout b hk h);refine⟨a.o,a.f,hf.out (λz c=>by have:=e z c;omega),λf d=>?_,b.la,b.lgo⟩;rcases ZM d with d|rfl
 ·exact b.each f d
 ·exact a⟩
theorem Xil{p q:PlM}(hp:p.Good)(hq:q.Good)(ho:q.own.length=p.own.length){t:Int}(ht:0<=t/\t<=4611686018427000000):Xx t (H8 p q)=t+(3+(max (p.free.length:Int) q.free.length-min (p.free.length:Int) q.free.length)*4):=by
 have a:=hp.many;have b:=hq.many;have c:=hp.len;have e:max (Zn q:Int) (Zn p)-min (Zn q:Int) (Zn p)=max (p.free.length:Int) q.free.length-min (p.free.length:Int) q.free.length:=by unfold Zn;omega
 unfold H8 Xx;rw[e,if_neg (by omega)];have:max (p.free.length:Int) q.free.length-min (p.free.length:Int) q.free.length<=1024:=by omega
 omega
theorem Gf.good{p q:PlM}{c:Int}(h:Gf p q c)(hg:p.Good)(hc:0<=c):q.Good:=by
 rcases h with rfl|⟨n,r,a,rfl⟩|⟨n,b,d,rfl⟩
 ·exact hg
 ·exact hg.take hc a
 ·exact hg.give b (by omega)
theorem Oo(r:RR)(M:RmM)(k:Int)(hn:r.ss.length=M.shs.length):(Zc M k=none/\(decide (0<=k) && decide (k<r.ss.length))=false)\/∃(j:Nat) (x:Sm) (s:RS),k=j/\Zc M k=some x/\M.shs[j]?=some x/\r.ss[j]?=some s/\(decide (0<=k) && decide (k<r.ss.length))=true:=by
 by_cases h:0<=k/\k<r.ss.length
 ·obtain⟨j,rfl⟩:=XD h.1;have a:j<M.shs.length:=by omega
  refine .inr ⟨j,M.shs[j],r.ss[j],rfl,Oj a,XB a,XB (by omega),?_⟩;rw[decide_eq_true h.1,decide_eq_true h.2];rfl
 ·refine .inl ⟨Rx (by omega),?_⟩;by_cases b:0<=k
  ·rw[decide_eq_false (λe:k<r.ss.length=>h ⟨b,e⟩),QA]
  ·rw[decide_eq_false b];rfl
theorem Ad.back{r r':RR}(h:Ad w2 r r')(hs:w.heap.size<=w2.heap.size):Ad w r r':=⟨h.1,h.2.1,λS a b=>h.2.2 S (λz c=>by have:=a z c;omega) b⟩
theorem XgK(x:Sm)(pl:PlM)(who:Int)(hof:x.Of pl)(hg:pl.Good):(Q0 x pl who).Of (B1 x pl who):=by
 rcases J9 x pl who with⟨_,a,b⟩|⟨_,_,⟨n,r,_,a,b,_⟩|⟨n,r,_,d,a,b,_⟩⟩
 ·rw[a,b];exact hof
 ·rw[a,b];exact hof.set rfl (λe c=>Ml c)
 ·rw[a,b];exact(hof.fresh hg d).set rfl (λe c=>Ml c)
theorem XdX(x:Sm)(pl:PlM)(n i:Int)(hok:x.Ok)(hof:x.Of pl):(Qj x n i).Of (A3 x pl n i):=by
 unfold Qj A3;cases c:Zi x.pg n with
 |none=>exact hof
 |some p=>
  simp only
  by_cases a:Qx p i=0
  ·rw[if_pos a];have:=Sm.Of.giveAt hok hof (n:=n.toNat) (p:=p) (i:=i);by_cases b:Xu (Z7 p i)=0
   ·rw[if_pos b] at this;rw[if_pos ⟨a,b⟩];exact this
   ·rw[if_neg b] at this;rw[if_neg (λh=>b h.2)];exact this
  ·rw[if_neg a,if_neg (λh=>a h.1)];exact hof
theorem Xe2(x:Sm)(pl:PlM)(n i who:Int)(hof:x.Of pl):(Aq x n i who).Of pl:=by
 unfold Aq;split
 ·exact hof.set rfl (λe a=>Ml a)
 ·exact hof
theorem Xbq(r:RR)(M:RmM)(j:Nat)(x x':Sm)(s s5:RS)(pl':PlM)(w0 w1 w:World)(h:Qc w0 r M)(hc:Xc Xe w0 w)(hm:Iy M)(ht:0<=M.tot/\M.tot<=4611686018427000000)(hs:r.ss[j]?=some s)(hx:M.shs[j]?=some x)(hS:Y7 w s5 x' pl')(hof':x'.Of pl')(hE:Gf M.pl pl' x.cls)(hk:A4 w1 {s with p:=r.p} s5)(hw1:w0.heap.size<=w1.heap.size):Xf prog 202 #[.agg (A5 r).toArray,.int .i64 (j:Int),.agg (X3 s5).toArray] w (λv w'=>∃r',v=.agg (A5 r').toArray/\Qc w' r' (Fz M j x' pl')/\Ad w0 r r'/\Xc Xe w w'):=by
 obtain⟨i,o⟩:=hm.sh j x hx;have c:=(List.getElem?_eq_some_iff.1 hs).1;have k:r.p.f.x.length=M.pl.free.length:=by rw[h.p.ef,XN]
 have d:s5.p.f.x.length=pl'.free.length:=by rw[hS.p.ef,XN]
 have a:=hE.good hm.good i.cls;have q:=hm.good.many;have u:=hm.good.len;have y:=a.many;have z:=a.len;refine(Xla r j s5 w (h.sr.chg hc) c h.few (by omega) (by omega) (by rw[h.st];omega)).mono λv w' ⟨sa',scap',e,f,l,g,m,b⟩=>?_;have n:Xx M.tot (H8 M.pl pl')=r.steps+(3+(max (r.p.f.x.length:Int) s5.p.f.x.length-min (r.p.f.x.length:Int) s5.p.f.x.length)*4):=by
  rw[Xil hm.good a (hE.own hm.good).1 ht,k,d,h.st]
 rw[<-n] at e;exact⟨_,e,h.put (t:=Xx M.tot (H8 M.pl pl')) (hc.trans b) c (hS.grow b) hof' f l g,Ad.put (M:=M) h hs hw1 hk m hc.size,b⟩
theorem XfA(r:RR)(M:RmM)(k who:Int)(w:World)(h:Qc w r M)(hm:Iy M)(ht:0<=M.tot/\M.tot<=4611686018427000000):Xf prog 166 #[.agg (A5 r).toArray,.int .i64 k,.int .i64 who] w
 (λv w'=>∃r',v=.tuple #[.agg (A5 r').toArray,.int .i64 (D3 M k who),.int .i64 (D2 M k who),.int .i64 (Fa M k who)]/\Qc w' r' (Z9 M k who)/\Ad w r r'/\Xc Xe w w'):=by
 refine ζe func166 ntmps166 ϱ (ζn ϱ λrb w1 e1 Q R ac=>ζn ϱ λob S e2 T A ad=>?_);have d:=R.trans A;have i:=A.heap' Q;refine ζl i ϱ (ζv (Oe r k S) ϱ λw3 c=>?_);have l:=c.heap' T;have f:=c.heap' i;have a:=d.trans c;unfold D3 D2 Fa Z9;rcases Oo r M k h.n with⟨F,G⟩|⟨j,x,s,rfl,F,H,I,G⟩
 ·rw[F,G];simp only
  refine ζy ϱ (ζl f ϱ (ζs l ϱ λJ K U ae=>?_));have m:=a.since U (λz n e=>by omega);exact ζR func166 K ϱ ⟨r,rfl,h.grow m,Ad.refl w r,m⟩
 ·rw[F,G];simp only[XA];refine ζf ϱ ?_;obtain⟨pk,V,_⟩:=h.each j s x I H;obtain⟨B,C⟩:=hm.sh j x H;refine ζl f ϱ (ζv (Xbp r M j s w3 (h.grow a) I) ϱ λJ o=>ζc ϱ (XkU {s with p:=r.p} x M.pl who J (((V.setP h.p).grow a).grow o) B C hm.good) ?_);rintro _ w5 ⟨s5,rfl,W,a0,a1⟩;refine ζa ϱ (ζn ϱ λqb w6 e6 a2 a3 af=>ζs a2 ϱ λw7 L a4 ag=>?_);have q:=a3.since a4 (λz n e=>by omega);have b:=(o.trans a1).trans q;have t:=b.heap' f;have u:=b.heap' l;have y:=a.trans b;by_cases g:Qm x M.pl who=0
  ·rw[if_pos g,g];refine ζf ϱ (ζl t ϱ (ζl L ϱ ?_));obtain⟨e2,_⟩:=Xb2 x M.pl who hm.good B.cls;refine ζc ϱ (Xbq r M j x _ s s5 _ S J w7 (h.grow d) (c.trans b) hm ht I H (W.grow q) (XgK x M.pl who C hm.good) e2 a0 (c.trans o).size) ?_;rintro _ w8 ⟨r',rfl,hR,hK,D⟩;refine ζa ϱ ?_;have N:B3 (λz=>z=ob) r':=hK.2.2 _ (λz n=>by omega) (h.out (λz n=>by omega));exact ζs (D.heap' u) ϱ λw9 O E ah=>ζR func166 O ϱ ⟨r',rfl,hR.far N E,hK.back d.size,((y.trans D).since E (λz n e=>by omega))⟩
  ·rw[if_neg g];have eN:Cb x M.pl who=0/\Ca x M.pl who=0:=by unfold Cb Ca;rw[if_neg g,if_neg g];exact⟨rfl,rfl⟩
   rw[eN.1,eN.2];refine ζY ϱ (by simpa using g) (ζl t ϱ (ζs u ϱ λw8 P a6 ai=>?_));have m:=y.since a6 (λz n e=>by omega);exact ζR func166 P ϱ ⟨r,rfl,h.grow m,Ad.refl w r,m⟩
theorem Xfy(r:RR)(M:RmM)(k n i:Int)(w:World)(h:Qc w r M)(hm:Iy M)(ht:0<=M.tot/\M.tot<=4611686018427000000):Xf prog 170 #[.agg (A5 r).toArray,.int .i64 k,.int .i64 n,.int .i64 i] w
 (λv w'=>∃r',v=.tuple #[.agg (A5 r').toArray,.int .i64 (Je M k n i)]/\Qc w' r' (Qb M k n i)/\Ad w r r'/\Xc Xe w w'):=by
 refine ζe func170 ntmps170 ϱ (ζn ϱ λrb w1 e1 S T ae=>ζn ϱ λob U e2 V E af=>?_);have d:=T.trans E;have g:=E.heap' S;refine ζl g ϱ (ζv (Oe r k U) ϱ λw3 c=>?_);have l:=c.heap' V;have f:=c.heap' g;have a:=d.trans c;unfold Je Qb;rcases Oo r M k h.n with⟨H,I⟩|⟨j,x,s,rfl,H,J,K,I⟩
 ·rw[H,I];simp only
  refine ζy ϱ (ζl f ϱ (ζs l ϱ λL N W ag=>?_));have m:=a.since W (λz o e=>by omega);exact ζR func170 N ϱ ⟨r,rfl,h.grow m,Ad.refl w r,m⟩
 ·rw[H,I];simp only[XA];refine ζf ϱ ?_;obtain⟨pk,a0,_⟩:=h.each j s x K J;obtain⟨q,t⟩:=hm.sh j x J;refine ζl f ϱ (ζv (Xbp r M j s w3 (h.grow a) K) ϱ λL u=>ζc ϱ (XkQ {s with p:=r.p} x M.pl n i L (((a0.setP h.p).grow a).grow u) q t hm.good) ?_);rintro _ w5 ⟨s5,rfl,a1,a2,a3⟩;refine ζa ϱ (ζn ϱ λqb w6 e6 a4 a5 ah=>ζs a4 ϱ λw7 O a6 ai=>?_);have y:=a5.since a6 (λz o e=>by omega);have b:=(u.trans a3).trans y;have A:=b.heap' f;have B:=b.heap' l;have C:=a.trans b;by_cases D:B0 x n i=0
  ·rw[if_pos D,D];refine ζf ϱ (ζl A ϱ (ζl O ϱ ?_));obtain⟨e2,_⟩:=Xas x M.pl n i q t;refine ζc ϱ (Xbq r M j x _ s s5 _ U L w7 (h.grow d) (c.trans b) hm ht K J (a1.grow y) (XdX x M.pl n i q t) e2 a2 (c.trans u).size) ?_;rintro _ w8 ⟨r',rfl,hR,hK,F⟩;refine ζa ϱ ?_;have P:B3 (λz=>z=ob) r':=hK.2.2 _ (λz o=>by omega) (h.out (λz o=>by omega));exact ζs (F.heap' B) ϱ λw9 Q G aj=>ζR func170 Q ϱ ⟨r',rfl,hR.far P G,hK.back d.size,((C.trans F).since G (λz o e=>by omega))⟩
  ·rw[if_neg D];refine ζY ϱ (by simpa using D) (ζl A ϱ (ζs B ϱ λw8 R a8 ak=>?_));have m:=C.since a8 (λz o e=>by omega);exact ζR func170 R ϱ ⟨r,rfl,h.grow m,Ad.refl w r,m⟩
theorem XlO{n i:Int}(hok:x.Ok)(h:G3 x n i who≠0):Aq x n i who=x:=by
 unfold G3 at h;unfold Aq;cases a:Zi x.pg n with
 |none=>rfl
 |some p=>
  rw[a] at h;obtain⟨m,rfl,b⟩:=Ga a;have e:Bp p i who=p:=by unfold Bp;exact if_neg h
  show x.ownAt (m:Int).toNat p i who=x
  unfold Sm.ownAt;rw[e,XA,Xgi hok.nodup b]
theorem Xk6(r:RR)(M:RmM)(k n i who:Int)(w:World)(h:Qc w r M)(hm:Iy M)(ht:0<=M.tot/\M.tot<=4611686018427000000):Xf prog 154 #[.agg (A5 r).toArray,.int .i64 k,.int .i64 n,.int .i64 i,.int .i64 who] w
 (λv w'=>∃r',v=.tuple #[.agg (A5 r').toArray,.int .i64 (On M k n i who)]/\Qc w' r' (Qe M k n i who)/\Ad w r r'/\Xc Xe w w'):=by
 refine ζe func154 ntmps154 ϱ (ζn ϱ λrb w1 e1 a4 a5 au=>ζn ϱ λob N e2 a6 I av=>?_);have f:=a5.trans I;have q:=I.heap' a4;refine ζl q ϱ (ζv (Oe r k N) ϱ λw3 d=>?_);have t:=d.heap' a6;have g:=d.heap' q;have b:=f.trans d;unfold On Qe;rcases Oo r M k h.n with⟨O,P⟩|⟨j,x,s,rfl,O,F,Q,P⟩
 ·rw[O,P];simp only
  refine ζy ϱ (ζl g ϱ (ζs t ϱ λR T a7 aw=>?_));have u:=b.since a7 (λz l e=>by omega);exact ζR func154 T ϱ ⟨r,rfl,h.grow u,Ad.refl w r,u⟩
 ·rw[O,P];simp only[XA];refine ζf ϱ ?_;obtain⟨pk,a8,_⟩:=h.each j s x Q F;have U:=(a8.setP h.p).grow b;obtain⟨J,K⟩:=hm.sh j x F;refine ζl g ϱ (ζv (Xbp r M j s w3 (h.grow b) Q) ϱ λR y=>ζc ϱ (XkR {s with p:=r.p} x M.pl n i who R (U.grow y) J K) ?_);rintro _ w5 ⟨s5,rfl,a9,aa,ab⟩;refine ζa ϱ (ζn ϱ λqb w6 e6 ac ad ax=>ζs ac ϱ λw7 V ae ay=>?_);have A:=ad.since ae (λz l e=>by omega);have c:=(y.trans ab).trans A;have m:=c.heap' g;have B:=c.heap' t;have C:=b.trans c;by_cases W:G3 x n i who=0
  ·rw[W];refine ζf ϱ (ζl m ϱ (ζl V ϱ ?_));obtain⟨e2,_⟩:=XaX x M.pl n i who;refine ζc ϱ (Xbq r M j x _ s s5 _ N R w7 (h.grow f) (d.trans c) hm ht Q F (a9.grow A) (Xe2 x M.pl n i who K) e2 aa (d.trans y).size) ?_;rintro _ w8 ⟨r',rfl,hR,G,D⟩;refine ζa ϱ ?_;refine ζn ϱ λtb w9 e9 ag ah az=>ζs ag ϱ λwa a0 ai b0=>?_;have E:=ah.since ai (λz l e=>by omega);refine ζl (E.heap' (D.heap' m)) ϱ (ζs a0 ϱ λwb a1 aj b1=>?_);have o:=E.since aj (λz l e=>by omega);refine ζl a1 ϱ (ζs (o.heap' (D.heap' B)) ϱ λwc a2 L b2=>?_);have a:B3 (λz=>z=ob) r':=G.2.2 _ (λz l=>by omega) (h.out (λz l=>by omega));have ak:Qc w8 {r' with steps:=r.steps} (D1 M j (Aq x n i who) M.pl):={hR with st:=h.st};have H:B3 (λz=>z=ob) {r' with steps:=r.steps}:=⟨a.o,a.f,a.sa,a.each,a.la,a.lgo⟩;have al:Ad N r {r' with steps:=r.steps}:=⟨G.1,G.2.1,λS U ho=>by have:=G.2.2 S U ho;exact⟨this.o,this.f,this.sa,this.each,this.la,this.lgo⟩⟩;exact ζR func154 a2 ϱ ⟨{r' with steps:=r.steps},rfl,(ak.grow o).far H L,al.back f.size,(((C.trans D).trans o).since L (λz l e=>by omega))⟩
  ·rw[XlO J W,XbC F];refine ζY ϱ (by simpa using W) (ζl m ϱ (ζs B ϱ λw8 a3 am b3=>?_));have u:=C.since am (λz l e=>by omega);exact ζR func154 a3 ϱ ⟨r,rfl,h.grow u,Ad.refl w r,u⟩
theorem Xfp(a:Option Addr)(cap:Nat)(zs:List Int)(n:Int)(w:World)(hr:Rd .i64 w a zs)(hl:zs.length<=9223372036854775806):Xf prog 109 #[.slice a zs.length cap,.int .i64 n] w (Za (.int .i64 (Xk zs n)) w):=by
 refine ζe func109 ntmps109 ϱ ?_;refine Xa.loop (α:=Nat) (λk=>[(0,false,.slice a zs.length cap),(1,false,.int .i64 n),(5,false,.int .i64 k)])
  (λk w'=>w'=w/\k<=zs.length/\∀j (h:j<zs.length),j<k->n<1\/decide (n<=zs[j])=false) (λk=>zs.length-k) 0 ⟨rfl,rfl,rfl,trivial⟩ ⟨rfl,XL _,λ_ _ h=>by omega⟩ ?_
 rintro k s ⟨q,t,d⟩ ih;subst q;refine ζa ϱ (ζg ϱ (λh=>?_) λh=>?_)
 ·have c:k<zs.length:=by simpa using h
  refine ζg ϱ (λf=>?_) λf=>?_
  ·have m:1<=n:=by have:=of_decide_eq_true f;omega
   obtain⟨b,off,rfl,p⟩:=hr k c;rw[Gp c] at p;refine ζi k ϱ (ζk ϱ p ϱ (ζg ϱ (λo=>?_) λo=>?_))
   ·have i:n<=zs[k]:=by have:=of_decide_eq_true o;omega
    have e:Xk zs n=k:=by
     unfold Xk;rw[if_neg (by omega)];exact I5 c (λj g l=>(d j g l).elim (λh=>by omega) id) (decide_eq_true i)
    exact ζr func109 ϱ ⟨X0 e.symm,rfl⟩
   ·have i:¬n<=zs[k]:=by have:=of_decide_eq_false o;omega
    refine ζj ϱ ?_;exact ih (k+1) _ _ ⟨rfl,c,λj g l=>by
     by_cases e:j=k
     ·subst e;exact .inr (decide_eq_false i)
     ·exact d j g (by omega)⟩ (by omega) ⟨rfl,rfl,rfl,trivial⟩
  ·have m:n<1:=by have:=of_decide_eq_false f;omega
   exact ζj ϱ (ih (k+1) _ _ ⟨rfl,c,λj g l=>.inl m⟩ (by omega) ⟨rfl,rfl,rfl,trivial⟩)
 ·have r:k=zs.length:=by simp at h;omega
  have e:Xk zs n=-1:=by
   unfold Xk;by_cases f:n<1
   ·rw[if_pos f]
   ·rw[if_neg f];exact Hl (λj g=>(d j g (by omega)).elim (λh=>absurd h f) id)
  exact ζr func109 ϱ ⟨X0 e.symm,rfl⟩
theorem Rp(n q:Int)(w:World)(hn:n<=9223372036854775807):Xf prog 108 #[.int .i64 n,.int .i64 q] w (Za (.int .i64 (Z2 n q)) w):=by
 exact ζe func108 ntmps108 ϱ (ζw (Xfo n q w hn) ϱ (ζr func108 ϱ ⟨rfl,rfl⟩))
theorem Xbm(n q:Int)(w:World)(hn:n<=9223372036854775807):Xf prog 57 #[.int .i64 n,.int .i64 q] w (Za (.int .i64 (Zq n q)) w):=by
 have f:=XeJ (q:=q) hn;refine ζe func57 ntmps57 ϱ (ζw (Rp n q w hn) ϱ (ζg ϱ (λa=>?_) λa=>?_))
 ·have e:Zq n q=0:=by unfold Zq;rw[if_pos (.inl (of_decide_eq_true a))]
  exact ζr func57 ϱ ⟨X0 e.symm,rfl⟩
 ·have c:=of_decide_eq_false a;refine ζw (Rp n q w hn) ϱ (ζg ϱ (λb=>?_) λb=>?_)
  ·have e:Zq n q=0:=by unfold Zq;rw[if_pos (.inr (of_decide_eq_true b))]
   exact ζr func57 ϱ ⟨X0 e.symm,rfl⟩
  ·have d:=of_decide_eq_false b;have e:Zq n q=Z2 n q+1:=by unfold Zq;rw[if_neg (by omega)]
   exact ζw (Rp n q w hn) ϱ (ζj ϱ (ζr func57 ϱ ⟨X0 e.symm,rfl⟩))
theorem Ua(c:Conf)(p:Yu)(n:Int)(w:World):Xf prog 55 #[.agg (Zj c p).toArray,.int .i64 n] w (Grow (.bool (decide (1<=n) && decide (n<=c.most))) w):=by
 refine ζe func55 ntmps55 ϱ (ζn ϱ λb g e1 e a f=>?_);refine ζg ϱ (λd=>?_) λd=>?_
 ·refine ζl e ϱ ?_;rw[decide_eq_true (show 1<=n from of_decide_eq_true d),YI];exact ζr func55 ϱ ⟨rfl,a⟩
 ·rw[decide_eq_false (show ¬1<=n from of_decide_eq_false d),YQ];exact ζr func55 ϱ ⟨rfl,a⟩
theorem Rq(r:RR)(n:Int)(w:World)(hr:Rd .i64 w r.cp.ca r.c.classes)(hl:r.c.classes.length<=9223372036854775806):Xf prog 151 #[.agg (A5 r).toArray,.int .i64 n] w (Grow (.int .i64 (Xk r.c.classes n)) w):=by
 refine ζe func151 ntmps151 ϱ (ζn ϱ λb c e1 d a e=>?_);exact ζl d ϱ (ζw (Xfp r.cp.ca r.cp.cc r.c.classes n c (hr.chg a) hl) ϱ (ζr func151 ϱ ⟨rfl,a⟩))
theorem Ub(r:RR)(M:RmM)(k:Int)(w:World)(h:Qc w r M):Xf prog 153 #[.agg (A5 r).toArray,.int .i64 k] w (Grow (.int .i64 (Zf M k:Nat)) w):=by
 refine ζe func153 ntmps153 ϱ (ζn ϱ λrb n e1 c i p=>?_);refine ζl c ϱ (ζv (Oe r k n) ϱ λt d=>?_);have a:=i.trans d;unfold Zf;rcases Oo r M k h.n with⟨e,f⟩|⟨j,x,s,rfl,e,o,g,f⟩
 ·rw[e,f];exact ζy ϱ (ζr func153 ϱ ⟨rfl,a⟩)
 ·rw[e,f];refine ζf ϱ ?_;have q:=(List.getElem?_eq_some_iff.1 g).1;obtain⟨pk,l,_⟩:=h.each j s x g o;have e5:s.opn.x.length=x.opn.length:=by rw[l.e5,XN]
  obtain⟨sb,soff,m,b⟩:=(h.sr.chg a) j s g;refine ζl (d.heap' c) ϱ ?_;rw[m];exact ζi (j*7) ϱ (ζk ϱ (b 6 _ rfl) ϱ (ζr func153 ϱ ⟨X0 (by rw[e5]),a⟩))
theorem Xk7(r:RR)(M:RmM)(k n i:Int)(w:World)(h:Qc w r M)(hm:Iy M):Xf prog 165 #[.agg (A5 r).toArray,.int .i64 k,.int .i64 n,.int .i64 i] w (Grow (.int .i64 (Zh M k n i)) w):=by
 refine ζe func165 ntmps165 ϱ (ζn ϱ λrb v e1 c l z=>?_);refine ζl c ϱ (ζv (Oe r k v) ϱ λy d=>?_);have a:=l.trans d;unfold Zh;rcases Oo r M k h.n with⟨e,f⟩|⟨j,x,s,rfl,e,m,g,f⟩
 ·rw[e,f];exact ζy ϱ (ζr func165 ϱ ⟨rfl,a⟩)
 ·rw[e,f];refine ζf ϱ ?_;have A:=(List.getElem?_eq_some_iff.1 g).1;obtain⟨pk,o,p⟩:=h.each j s x g m;obtain⟨q,_⟩:=hm.sh j x m;obtain⟨sb,soff,t,b⟩:=(h.sr.chg a) j s g;refine ζl (d.heap' c) ϱ ?_;rw[t];exact ζi (j*7) ϱ (Xa.loadC Xb (X3 s) rfl (by first|rfl|(simp;done)|(simp[*];done)|(simp;omega)) (b) rfl (ζv (XkS s x pk n i y (o.grow a) q p) ϱ λB u=>ζr func165 ϱ ⟨rfl,a.trans u⟩))
theorem Xk8(r:RR)(M:RmM)(k:Int)(w:World)(h:Qc w r M)(hm:Iy M):Xf prog 164 #[.agg (A5 r).toArray,.int .i64 k] w (Grow (.tuple #[.agg (Mf M k).toArray,.bool (Gz M k)]) w):=by
 refine ζe func164 ntmps164 ϱ (ζn ϱ λrb V e1 A B P=>ζn ϱ λob K e2 C n Q=>?_);have g:=n.heap' A;refine ζl g ϱ (ζv (Oe r k K) ϱ λL i=>?_);have l:=i.heap' C;have f:=(B.trans n).trans i;unfold Mf Gz;rcases Oo r M k h.n with⟨p,q⟩|⟨j,x,s,rfl,p,D,t,q⟩
 ·rw[p,q];exact ζy ϱ (ζb ϱ (ζs l ϱ λN u E R=>ζR func164 u ϱ ⟨rfl,f.since E (λz O e=>by omega)⟩))
 ·rw[p,q];refine ζf ϱ ?_;have S:=(List.getElem?_eq_some_iff.1 t).1;obtain⟨pk,F,T⟩:=h.each j s x t D;obtain⟨G,_⟩:=hm.sh j x D;obtain⟨sb,soff,H,m⟩:=(h.sr.chg f) j s t;refine ζl (i.heap' g) ϱ ?_;rw[H];refine ζi (j*7) ϱ (Xa.loadC Xb (X3 s) rfl (by first|rfl|(simp;done)|(simp[*];done)|(simp;omega)) (m) rfl ?_);obtain⟨pa,pb,pc,pd,ep⟩:∃a b c d,G4 x=J1 a b c d:=by
   unfold G4;split
   ·exact⟨_,_,_,_,rfl⟩
   ·exact⟨_,_,_,_,rfl⟩
  have I:=XkT s x pk L (F.grow f) G;rw[ep] at I;show Xa _ _ (E2 (λv w'=>v=.tuple #[.agg (G4 x).toArray,.bool (Mj x)]/\_)) _ _ _ _ _
  rw[ep];exact ζv I ϱ λN o=>ζs (o.heap' l) ϱ λW y J U=>ζR func164 y ϱ ⟨rfl,(f.trans o).since J (λz O e=>by omega)⟩
theorem Xnj{n a b:Int}:Qv n a b=true↔a<=n/\n<=b:=by unfold Qv;simp
theorem Ee:X6 c=true↔Ek c.size=true/\(1<=c.pages/\c.pages<=1024)/\Ax c.classes c.size=true/\c.keep.length=c.classes.length/\(∀k,k∈c.keep->0<=k/\k<=1024)/\
 (1<=c.step/\c.step<=65536)/\(1<=c.slots/\c.slots<=4096)/\(1<=c.gens/\c.gens<=1023)/\(1<=c.most/\c.most<=Dp c):=by
 unfold X6 I6;simp only[XJ,Xnj,decide_eq_true_eq,Bool.not_eq_true',YZ,Bool.not_eq_false,and_assoc]
theorem E7(h:X6 c=true->False):Value.int .i64 1=.int .i64 (Bo c):=by unfold Bo;rw[if_neg h]
theorem XjD(h:X6 c=true):Value.int .i64 0=.int .i64 (Bo c):=by unfold Bo;rw[if_pos h]
theorem Xeg:Dp c=0↔Ek c.size=false:=by
 unfold Dp;by_cases h:Ek c.size=true
 ·rw[if_pos h,h];have a:=K5.1 h;have b:64*8<=c.size*(c.size/8):=ZH a.1 (by omega) (by omega) (by omega);constructor
  ·intro;omega
  ·intro h;cases h
 ·rw[if_neg h];simpa using h
theorem Xfq(c:Conf)(p:Yu)(w:World):Xf prog 82 #[.agg (Zj c p).toArray] w (Grow (.int .i64 (Dp c)) w):=by
 have no:(64<=c.size/\c.size<=4096/\c.size%8=0->False)->Value.int .i64 0=.int .i64 (Dp c):=λh=>by unfold Dp;rw[if_neg (λi=>h (K5.1 i))]
 refine ζe func82 ntmps82 ϱ (ζn ϱ λb l e1 e d k=>ζl e ϱ (ζg ϱ (λf=>?_) λf=>?_))
 ·exact ζr func82 ϱ ⟨no (λh=>by have:=of_decide_eq_true f;omega),d⟩
 ·have m:=of_decide_eq_false f;refine ζl e ϱ (ζg ϱ (λg=>?_) λg=>?_)
  ·exact ζr func82 ϱ ⟨no (λh=>by have:=of_decide_eq_true g;omega),d⟩
  ·have n:=of_decide_eq_false g;refine ζl e ϱ (Xa.div Xb rfl (by omega) (E9 (by omega)) rfl (ζg ϱ (λa=>?_) λa=>?_))
   ·exact ζr func82 ϱ ⟨no (λh=>by have:=h.2.2;simp[this] at a),d⟩
   ·have j:c.size%8=0:=by simpa using a
    have a:0<=c.size/8/\c.size/8<=512:=by omega
    have o:0<=c.size*(c.size/8):=ZJ (by omega) a.1;have q:c.size*(c.size/8)<=4096*512:=ZH (by omega) a.2 a.1 (by omega);refine Xa.loadb Xb rfl e rfl rfl ?_;refine Xa.loadb Xb rfl e rfl rfl ?_;refine Xa.div Xb rfl (by omega) (Fy (by omega) (by omega)) rfl ?_;refine Xa.arith Xb rfl (w64 (by omega)) rfl ?_;exact ζr func82 ϱ ⟨X0 (by unfold Dp;rw[if_pos (K5.2 ⟨by omega,by omega,j⟩)]),d⟩
theorem XkE(c:Conf)(p:Yu)(w:World)(hc:Ys w c p):Xf prog 56 #[.agg (Zj c p).toArray] w (Grow (.int .i64 (C2 c)) w):=by
 have i:=hc.lc;refine ζe func56 ntmps56 ϱ (ζn ϱ λb j e1 e a g=>ζl e ϱ (ζg ϱ (λh=>?_) λh=>?_))
 ·have f:c.classes.length=0:=by simpa using h
  exact ζr func56 ϱ ⟨X0 (by unfold C2;rw[if_pos f]),a⟩
 ·have f:¬c.classes.length=0:=by simpa using h
  obtain⟨k,off,ea,d⟩:=(hc.chg a).classes (c.classes.length-1) (by omega);obtain⟨ca,cc,ka,kc⟩:=p;simp only at ea
  subst ea;exact ζl e ϱ (ζl e ϱ (ζj ϱ (ζi (c.classes.length-1) ϱ (ζk ϱ d ϱ (ζr func56 ϱ ⟨X0 (by unfold C2;rw[if_neg f]),a⟩)))))
theorem Xbh(c:Conf)(p:Yu)(k:Int)(w:World)(hc:Ys w c p):Xf prog 60 #[.agg (Zj c p).toArray,.int .i64 k] w (Grow (.int .i64 (Qi c k)) w):=by
 have g:=hc.size;unfold Ld at g;refine ζe func60 ntmps60 ϱ (ζn ϱ λb q e1 e a n=>ζg ϱ (λh=>?_) λh=>?_)
 ·have l:=of_decide_eq_true h;exact ζr func60 ϱ ⟨X0 (by unfold Qi;rw[if_neg (by omega)]),a⟩
 ·have l:=of_decide_eq_false h;refine ζl e ϱ (ζg ϱ (λf=>?_) λf=>?_)
  ·have m:=of_decide_eq_true f;exact ζr func60 ϱ ⟨X0 (by unfold Qi;rw[if_neg (by omega)]),a⟩
  ·have m:=of_decide_eq_false f;obtain⟨r,off,ea,d⟩:=(hc.chg a).classes k.toNat (by omega);obtain⟨ca,cc,ka,kc⟩:=p;simp only at ea
   subst ea;exact Xa.quiet rfl Xo (by kernel_rfl) (Xi.adv Xb rfl (Xi.loadb Xb rfl e rfl rfl (Xi.loadb Xb rfl e rfl rfl (Xi.index Xb rfl (j:=k.toNat) (by omega) (by omega) (by first|rfl|omega|(simp;done)|(simp;omega)) rfl (Xi.load Xb rfl d rfl (Xi.call Xb rfl (λw' o=>(XkB c.size (c.classes.getD k.toNat 0) w' g.2).grow) rfl (Xi.nil λs i=>ζa ϱ (ζr func60 ϱ ⟨X0 (by unfold Qi;rw[if_pos (by omega)]),a.trans i⟩))))))))
theorem Xbi(c:Conf)(p:Yu)(w:World)(hc:Ys w c p):Xf prog 36 #[.agg (Zj c p).toArray] w (Grow (.int .i64 (Bo c)) w):=by
 have S:=hc.lc;refine ζe func36 ntmps36 ϱ (ζn ϱ λb T e1 N O ac=>ζl N ϱ (ζv (Xfq c p T) ϱ λwL P=>?_));have i:=O.trans P;have l:=P.heap' N;have v:=hc.chg i;refine ζg ϱ (λs=>?_) λs=>?_
 ·exact ζr func36 ϱ ⟨E7 (λh=>by have:=(Ee.1 h).1;rw[Xeg.1 (by simpa using s)] at this;cases this),i⟩
 ·have U:Ek c.size=true:=by
   cases h:Ek c.size with
   |true=>rfl
   |false=>rw[Xeg.2 h] at s;cases s
  refine ζl l ϱ (ζg ϱ (λy=>?_) λy=>?_)
  ·exact ζr func36 ϱ ⟨E7 (λh=>by have:=(Ee.1 h).2.1;have:=of_decide_eq_true y;omega),i⟩
  ·refine ζl l ϱ (ζg ϱ (λz=>?_) λz=>?_)
   ·exact ζr func36 ϱ ⟨E7 (λh=>by have:=(Ee.1 h).2.1;have:=of_decide_eq_true z;omega),i⟩
   ·refine ζl l ϱ (ζl l ϱ (ζv (XkC p.ca p.cc c.classes c.size wL v.classes S) ϱ λV A=>?_));have o:=i.trans A;have q:=A.heap' l;have Q:=v.chg A;refine ζg ϱ (λt=>?_) λt=>?_
    ·exact ζr func36 ϱ ⟨E7 (λh=>by have:=(Ee.1 h).2.2.1;simp[Hg,this] at t),o⟩
    ·refine ζl q ϱ (ζl q ϱ (ζg ϱ (λB=>?_) λB=>?_))
     ·exact ζr func36 ϱ ⟨E7 (λh=>by have:=(Ee.1 h).2.2.2.1;simp[this] at B),o⟩
     ·have g2:=of_decide_eq_false y;have g3:=of_decide_eq_false z;have W:Ax c.classes c.size=true:=by unfold Hg at t;cases hh:Ax c.classes c.size <;> simp[hh] at t⊢
      have g5:c.keep.length=c.classes.length:=by simp at B;omega
      refine Xa.loop (α:=Nat) (λk=>[(1,false,.pointer (some ⟨b,0,none⟩)),(3,false,.int .i64 k)])
       (λk w'=>Xc Xe V w'/\k<=c.keep.length/\∀j (h:j<c.keep.length),j<k->0<=c.keep[j]/\c.keep[j]<=1024) (λk=>c.keep.length-k) 0 ⟨rfl,rfl,trivial⟩ ⟨Xc.refl _ _,XL _,λ_ _ h=>by omega⟩ ?_
      rintro k w4 ⟨u,hk,r⟩ ih;have f:=o.trans u;have d:=u.heap' q;have R:=Q.chg u;refine ζa ϱ (ζl d ϱ (ζg ϱ (λh=>?_) λh=>?_))
      ·have m:k<c.keep.length:=by simpa using h
       obtain⟨b1,off,ea,g⟩:=R.keep k m;rw[Gp m] at g;obtain⟨ca,cc,ka,kc⟩:=p;simp only at ea
       subst ea;refine ζl d ϱ (ζi k ϱ (ζk ϱ g ϱ (ζg ϱ (λC=>?_) λC=>?_)))
       ·exact ζr func36 ϱ ⟨E7 (λh=>by have:=(Ee.1 h).2.2.2.2.1 _ (XK m);have:=of_decide_eq_true C;omega),f⟩
       ·refine ζl d ϱ (ζi k ϱ (ζk ϱ g ϱ (ζg ϱ (λD=>?_) λD=>?_)))
        ·exact ζr func36 ϱ ⟨E7 (λh=>by have:=(Ee.1 h).2.2.2.2.1 _ (XK m);have:=of_decide_eq_true D;omega),f⟩
        ·refine ζj ϱ ?_;exact ih (k+1) _ _ ⟨u,m,λj E ad=>by
          by_cases e:j=k
          ·subst e;exact⟨by have:=of_decide_eq_false C;omega,by have:=of_decide_eq_false D;omega⟩
          ·exact r j E (by omega)⟩ (by omega) ⟨rfl,rfl,trivial⟩
      ·have ae:k=c.keep.length:=by simp at h;omega
       have g6:∀x,x∈c.keep->0<=x/\x<=1024:=λx hx=>by obtain⟨j,E,rfl⟩:=List.mem_iff_getElem.1 hx;exact r j E (by omega)
       refine Xa.quiet rfl Xo (by kernel_rfl) (Xi.adv Xb rfl (Xi.loadb Xb rfl d rfl rfl ?_));refine Xi.fork Xb rfl rfl rfl (λF=>?_) (λF=>?_)
       ·exact Xi.nil λn a=>ζa ϱ (ζr func36 ϱ ⟨E7 (λh=>by have:=(Ee.1 h).2.2.2.2.2;have:=of_decide_eq_true F;omega),f.trans a⟩)
       refine Xi.loadb Xb rfl d rfl rfl ?_;refine Xi.fork Xb rfl rfl rfl (λG=>?_) (λG=>?_)
       ·exact Xi.nil λn a=>ζa ϱ (ζr func36 ϱ ⟨E7 (λh=>by have:=(Ee.1 h).2.2.2.2.2;have:=of_decide_eq_true G;omega),f.trans a⟩)
       refine Xi.loadb Xb rfl d rfl rfl ?_;refine Xi.fork Xb rfl rfl rfl (λH=>?_) (λH=>?_)
       ·exact Xi.nil λn a=>ζa ϱ (ζr func36 ϱ ⟨E7 (λh=>by have:=(Ee.1 h).2.2.2.2.2;have:=of_decide_eq_true H;omega),f.trans a⟩)
       refine Xi.loadb Xb rfl d rfl rfl ?_;refine Xi.fork Xb rfl rfl rfl (λI=>?_) (λI=>?_)
       ·exact Xi.nil λn a=>ζa ϱ (ζr func36 ϱ ⟨E7 (λh=>by have:=(Ee.1 h).2.2.2.2.2;have:=of_decide_eq_true I;omega),f.trans a⟩)
       refine Xi.loadb Xb rfl d rfl rfl ?_;refine Xi.fork Xb rfl rfl rfl (λJ=>?_) (λJ=>?_)
       ·exact Xi.nil λn a=>ζa ϱ (ζr func36 ϱ ⟨E7 (λh=>by have:=(Ee.1 h).2.2.2.2.2;have:=of_decide_eq_true J;omega),f.trans a⟩)
       refine Xi.loadb Xb rfl d rfl rfl ?_;refine Xi.fork Xb rfl rfl rfl (λK=>?_) (λK=>?_)
       ·exact Xi.nil λn a=>ζa ϱ (ζr func36 ϱ ⟨E7 (λh=>by have:=(Ee.1 h).2.2.2.2.2;have:=of_decide_eq_true K;omega),f.trans a⟩)
       refine Xi.loadb Xb rfl d rfl rfl ?_;refine Xi.fork Xb rfl rfl rfl (λL=>?_) (λL=>?_)
       ·exact Xi.nil λn a=>ζa ϱ (ζr func36 ϱ ⟨E7 (λh=>by have:=(Ee.1 h).2.2.2.2.2;have:=of_decide_eq_true L;omega),f.trans a⟩)
       refine Xi.loadb Xb rfl d rfl rfl (Xi.loads Xb rfl d rfl rfl (Xi.call Xb rfl (λw' af=>Xfq c p w') rfl (Xi.nil λn a=>ζa ϱ (ζg ϱ (λM=>?_) λM=>?_))))
       ·exact ζr func36 ϱ ⟨E7 (λh=>by have:=(Ee.1 h).2.2.2.2.2;have:=of_decide_eq_true M;omega),f.trans a⟩
       have:=of_decide_eq_false F;have:=of_decide_eq_false G;have:=of_decide_eq_false H;have:=of_decide_eq_false I;have:=of_decide_eq_false J;have:=of_decide_eq_false K;have:=of_decide_eq_false L;have:=of_decide_eq_false M;exact ζr func36 ϱ ⟨XjD (Ee.2 ⟨U,by omega,W,g5,g6,by omega,by omega,by omega,by omega⟩),f.trans a⟩
theorem Rd.of{k:IntKind}{c:Array Value}{t:TypeId}(h:w.heap[b]?=some (.cells c t fz))(hc:c=(zs.map (Value.int k)).toArray):Rd k w (some ⟨b,0,none⟩) zs:=λi hi=>
 ⟨b,0,rfl,by rw[Yt h,hc];simp[hi]⟩
theorem Rh(zs:List Int)(n:Int):-1<=Xk zs n:=by
 unfold Xk;split
 ·omega
 ·by_cases h:zs.any (λs=>decide (n<=s))=true
  ·have:=Xau.2 h;omega
  ·rw[Hl (λj b=>by
    by_cases a:n<=zs[j]
    ·exact absurd (List.any_eq_true.2 ⟨zs[j],XK b,decide_eq_true a⟩) h
    ·exact decide_eq_false a)]
   omega
theorem XiI(c:Conf)(M:RmM)(size:Int)(h:¬(size<1\/c.most<size)):Qd c M size=if (0<=Xk c.classes size/\Zf M (Xk c.classes size)=0/\M.pl.free.length=0)\/(Xk c.classes size<0/\(M.pl.free.length:Int)<Zq size c.size) then 5 else 0:=by
 have b:=Rh c.classes size;unfold Qd B8;rw[if_neg h];by_cases e:Xk c.classes size=-1
 ·rw[if_pos e];by_cases a:(M.pl.free.length:Int)<Zq size c.size
  ·rw[if_pos a,if_pos (.inr ⟨by omega,a⟩)]
  ·rw[if_neg a,if_neg (by omega)]
 ·rw[if_neg e];by_cases a:Zf M (Xk c.classes size)=0/\M.pl.free.length=0
  ·rw[if_pos (by omega),if_pos (.inl ⟨by omega,a⟩)]
  ·rw[if_neg (by omega),if_neg (by omega)]
theorem Xbo(r:RR)(M:RmM)(size:Int)(w:World)(h:Qc w r M)(hr:Rd .i64 w r.cp.ca r.c.classes)(hl:r.c.classes.length<=16)(hmost:r.c.most<=2097152):Xf prog 152 #[.agg (A5 r).toArray,.int .i64 size] w (Grow (.int .i64 (Qd r.c M size)) w):=by
 have k:r.p.f.x.length=M.pl.free.length:=by rw[h.p.ef,XN]
 have B:=Rh r.c.classes size;refine ζe func152 ntmps152 ϱ (ζn ϱ λrb t e1 l q y=>?_);refine ζl l ϱ (ζv (Ua r.c r.cp size t) ϱ λu m=>?_);have i:=m.heap' l;have f:=q.trans m;by_cases h0:size<1\/r.c.most<size
 ·have e:Qd r.c M size=3:=by unfold Qd;rw[if_pos h0]
  rw[e];have z:(!(decide (1<=size) && decide (size<=r.c.most)))=true:=by
   rcases h0 with h0|h0
   ·rw[decide_eq_false (show ¬1<=size by omega)];rfl
   ·rw[decide_eq_false (show ¬size<=r.c.most by omega),QA];rfl
  exact ζy ϱ (ζr func152 ϱ ⟨rfl,f⟩)
 ·rw[XiI r.c M size h0];refine ζF ϱ (by rw[decide_eq_true (show 1<=size by omega),decide_eq_true (show size<=r.c.most by omega)];rfl) (ζl i ϱ (ζv (Rq r size u (hr.chg f) (by omega)) ϱ λv n=>?_));have c:=n.heap' i;have d:=f.trans n;by_cases x:0<=Xk r.c.classes size
  ·refine ζy ϱ (ζl c ϱ (ζv (Ub r M (Xk r.c.classes size) v (h.grow d)) ϱ λC o=>?_));have g:=d.trans o;by_cases p:Zf M (Xk r.c.classes size)=0
   ·refine ζY ϱ (by rw[p];rfl) (ζl (o.heap' c) ϱ ?_);rw[k];by_cases j:M.pl.free.length=0
    ·rw[if_pos (.inl ⟨x,p,j⟩)];exact ζY ϱ (by rw[j];rfl) (ζr func152 ϱ ⟨rfl,g⟩)
    ·rw[if_neg (by omega)];exact ζF ϱ (by simpa using j) (ζd 14 Xe (by kernel_rfl) ϱ λa=>Xd.no Xb a rfl (decide_eq_false (by omega)) rfl (δn a ϱ λs b=>ζr func152 ϱ ⟨rfl,g.trans b⟩))
   ·rw[if_neg (by omega)];exact ζF ϱ (by simpa using p) (ζd 14 Xe (by kernel_rfl) ϱ λa=>Xd.no Xb a rfl (decide_eq_false (by omega)) rfl (δn a ϱ λs b=>ζr func152 ϱ ⟨rfl,g.trans b⟩))
  ·refine ζf ϱ (ζd 14 Xe (by kernel_rfl) ϱ λa=>Xd.yes Xb a rfl (decide_eq_true (by omega)) rfl (δl a c ϱ (δl a c ϱ (δw a (λw' A=>Xbm size r.c.size w' (by omega)) ϱ (δn a ϱ λs b=>?_)))));rw[k];by_cases j:(M.pl.free.length:Int)<Zq size r.c.size
   ·rw[if_pos (.inr ⟨by omega,j⟩)];exact ζy ϱ (ζr func152 ϱ ⟨rfl,d.trans b⟩)
   ·rw[if_neg (by omega)];exact ζf ϱ (ζr func152 ϱ ⟨rfl,d.trans b⟩)
def nilIL:IL:=⟨none,0,[]⟩
def Jg(k:Int)(b:Nat):RS:=⟨⟨nilIL,nilIL⟩,k,b,nilIL,none,0,[],nilIL⟩
def E0(c:Conf)(n:Nat):List RS:=(List.range n).map λk=>Jg (k:Nat) (Qi c (k:Nat)).toNat
theorem XfY{s:RS}(h:(E0 c n)[k]?=some s):k<n/\s=Jg (k:Nat) (Qi c (k:Nat)).toNat:=by
 unfold E0 at h;rw[XR,QB] at h;obtain⟨j,d,e⟩:=h;obtain⟨a,b⟩:=List.getElem?_eq_some_iff.1 d;simp only[YK] at a;rw[List.getElem_range] at b;subst b;exact⟨a,e.symm⟩
theorem XfZ(c:Conf)(n:Nat):E0 c (n+1)=E0 c n++[Jg (n:Nat) (Qi c (n:Nat)).toNat]:=by
 unfold E0;rw[YX,XI];rfl
theorem XlE(w:World)(k:Int)(b:Nat):Y7 w (Jg k b) (P0 k b) ⟨[],[]⟩:=by
 have a:A8 w nilIL:=⟨⟨Rd.nil _ _ _,by simp[nilIL]⟩,XE _,(by intro b off s e;cases e)⟩;exact⟨⟨a,a,rfl,rfl⟩,a,a,(λi l c=>by simp[Jg] at c),(by intro b off s e;cases e),XE _,(λl c=>by simp[Jg] at c),rfl,rfl,rfl,rfl,rfl⟩
theorem XlF(S:Nat->Prop)(k:Int)(b:Nat):Z6 S (Jg k b):=by
 have a:Xj S (none:Option Addr):=λb off s e=>by cases e
 exact⟨a,a,a,a,a,λl c=>by simp[Jg] at c⟩
theorem Lm{l:List Value}{t:TypeId}(h:w.heap[b]?=some (.cells l.toArray t fz)):∀i u,l[i]?=some u -> ∃a',(some ⟨b,0,none⟩:Option Addr)=some a'/\w.cell? (a'.add i)=some u:=λi u a=>
 ⟨_,rfl,by rw[Cl,Yt h,XS];simpa using a⟩
theorem Xk5(c:Conf)(p:Yu)(w:World)(hc:Ys w c p)(hm:X6 c=true)(hp:c.pages<=512):Xf prog 85 #[.agg (Zj c p).toArray] w
 (λv w'=>∃r,v=.tuple #[.agg (A5 r).toArray,.int .i64 0]/\r.c=c/\r.cp=p/\Qc w' r (Hp c 0)/\(∀S:Nat->Prop,(∀z,S z->z<w.heap.size)->B3 S r)/\Xc Xe w w'):=by
 have bm:maxLen=9223372036854775807:=rfl;have hf:=Yp hm;have bn:=hf.n;have bo:=hf.pages;obtain⟨N,hN⟩:=XD (show 0<=c.pages by omega);have em:Bo c=0:=by unfold Bo;rw[if_pos hm]
 refine ζe func85 ntmps85 ϱ (ζn ϱ λcb w1 e1 ap aq bp=>ζn ϱ λob w2 e2 ar ab bq=>?_);have y:=aq.trans ab;have V:=ab.heap' ap;refine ζl V ϱ (ζv (Xbi c p w2 (hc.chg y)) ϱ λw3 D=>?_);rw[em];have W:=D.heap' V;refine ζf ϱ (ζl W ϱ ?_);rw[hN];refine ζc ϱ (XkJ N w3 (by omega)) ?_;rintro _ w4 ⟨rp,rfl,a0,ac,ad,P⟩;refine ζa ϱ (ζn ϱ λpb w5 e5 au av br=>ζs au ϱ λw6 ae aw bs=>?_);have g:=av.since aw (λz a e=>by omega);have a1:=g.heap' (P.heap' W);refine ζl a1 ϱ (ζl ae ϱ (ζb ϱ (ζn ϱ λtb w7 e7 ax ay bt=>ζs ax ϱ λw8 af az bu=>?_)));have A:=ay.since az (λz a e=>by omega);have L:=(((y.trans D).trans P).trans g).trans A;have ba:=((D.trans P).trans g).size;refine Xa.loop (α:=Nat×Value) (λx=>[(1,false,.pointer (some ⟨cb,0,none⟩)),(2,false,.pointer (some ⟨ob,0,none⟩)),(6,false,.pointer (some ⟨tb,0,none⟩)),(7,false,.int .i64 x.1)])
  (λx w'=>x.1<=c.classes.length/\w'.heap[tb]?=some (.cells (Zj c p++[Xn rp.o,Xn rp.f,x.2,.slice none 0 0,.int .i64 0]).toArray 38 (0,0))/\Xl w8.heap.size 112 7 w' x.2 x.1 (fl X3 (E0 c x.1))/\Xc (λz=>z=tb) w8 w') (λx=>c.classes.length-x.1) (0,.slice none 0 0) ⟨rfl,rfl,rfl,rfl,trivial⟩ ⟨XL _,af,⟨rfl,.inl ⟨rfl,rfl⟩⟩,Xc.refl _ _⟩ ?_
 rintro⟨i,v⟩ w9 ⟨hi,j,Q,m⟩ ih;simp only at hi j Q
 have a3:=m.heap (A.heap' a1) (by omega);have a4:=L.since m (λz a e=>by have:=L.size;omega);have bb:=m.size;refine ζa ϱ (ζl a3 ϱ (ζg ϱ (λa5=>?_) λa5=>?_))
 ·have E:i<c.classes.length:=by have:=of_decide_eq_true a5;omega
  have bv:=Wv hm E;obtain⟨bk,B⟩:=XD (show 0<=Qi c i by omega);refine ζd 11 (λz=>z=tb\/w8.heap.size<=z) (by kernel_rfl) ϱ λd=>Xd.loadsAt (3) Xb d rfl rfl rfl a3 (by first|exact λh=>h|(intro h;omega)|assumption) rfl rfl (δv d (λw' b0=>Xbh c p (i:Nat) w' (hc.chg (a4.since b0 (λz a e=>by have:=L.size;rcases e with e|e <;> omega)))) ϱ (Xd.build Xb d rfl rfl ?_));refine Xd.turn2 d rfl ?_ ?_
  ·intro wa F;refine Xp.loadb Xb d rfl (F.heap' j) rfl rfl (Xd.turn1 d rfl λwb T=>Xp.buildSlice Xb d rfl (λ_=>rfl) λb7 wc ec a6 G bw=>Xd.turn1 d rfl λwd H=>?_);have f:=((F.trans T).trans G).trans H;have l:=Q.chg f (λ_ _ h=>h);have n:=H.heap' a6;rw[B] at n;refine Xp.appendS Xb d rfl (base:=w8.heap.size) (xs:=fl X3 (E0 c i)) (news:=X3 (Jg (i:Nat) bk)) l (by have:=f.size;omega) (λe=>by cases e) (λb M _=>.inr (World.ownsRow.lt l b M.symm).1) rfl (Lm n) (XbD _) ⟨by omega,by show(i+1)*136<=_;omega⟩ (λ_=>rfl) ?_;intro v2 wf o I b1;obtain⟨va,vn,vc,rfl⟩:=Xl.isSlice o;refine Xd.turn1 d rfl ?_;intro wg t;refine Xp.store Xb d rfl (t.heap' (I.heap (f.heap' j) (λe=>by have:=(World.ownsRow.lt l tb (Eq.symm e)).1;omega))) (by first|(intro h;exact rfl)|(intro h;omega)) rfl rfl rfl λwh O J b2=>δn d ϱ λwi u=>?_;exact ζj ϱ (ih (i+1,.slice va vn vc) _ _ ⟨E,u.heap' O,by rw[XfZ,Kr,Lt,B,XA];exact(((o.chg t (λ_ _ h=>h)).chg J (λb M e=>by have:=(World.ownsRow.lt o b M.symm).1;replace e:b=tb:=e;omega)).chg u (λ_ _ h=>h)),(((((m.trans f.gr).since I (λz a e=>by have:=(World.ownsRow.lt l z e.symm).1;omega)).trans t.gr).trans J).trans u.gr)⟩ (by simp only;omega) ⟨rfl,rfl,rfl,rfl,trivial⟩)
  ·intro wa F;refine Xp.buildSlice Xb d rfl (λ_=>rfl) λb7 wb eb a6 T bx=>Xd.turn1 d rfl λwc G=>Xp.loadb Xb d rfl (((F.trans T).trans G).heap' j) rfl rfl (Xd.turn1 d rfl λwd H=>?_);have f:=((F.trans T).trans G).trans H;have l:=Q.chg f (λ_ _ h=>h);have n:=H.heap' (G.heap' a6);rw[B] at n;refine Xp.appendS Xb d rfl (base:=w8.heap.size) (xs:=fl X3 (E0 c i)) (news:=X3 (Jg (i:Nat) bk)) l (by have:=f.size;omega) (λe=>by cases e) (λb M _=>.inr (World.ownsRow.lt l b M.symm).1) rfl (Lm n) (XbD _) ⟨by omega,by show(i+1)*136<=_;omega⟩ (λ_=>rfl) ?_;intro v2 wf o I b1;obtain⟨va,vn,vc,rfl⟩:=Xl.isSlice o;refine Xd.turn1 d rfl ?_;intro wg t;refine Xp.store Xb d rfl (t.heap' (I.heap (f.heap' j) (λe=>by have:=(World.ownsRow.lt l tb (Eq.symm e)).1;omega))) (by first|(intro h;exact rfl)|(intro h;omega)) rfl rfl rfl λwh O J b2=>δn d ϱ λwi u=>?_;exact ζj ϱ (ih (i+1,.slice va vn vc) _ _ ⟨E,u.heap' O,by rw[XfZ,Kr,Lt,B,XA];exact(((o.chg t (λ_ _ h=>h)).chg J (λb M e=>by have:=(World.ownsRow.lt o b M.symm).1;replace e:b=tb:=e;omega)).chg u (λ_ _ h=>h)),(((((m.trans f.gr).since I (λz a e=>by have:=(World.ownsRow.lt l z e.symm).1;omega)).trans t.gr).trans J).trans u.gr)⟩ (by simp only;omega) ⟨rfl,rfl,rfl,rfl,trivial⟩)
 ·have b3:i=c.classes.length:=by have:=of_decide_eq_false a5;omega
  subst b3;have C:(E0 c c.classes.length).length=c.classes.length:=by unfold E0;simp
  obtain⟨sa,scap,rfl,ah,E,a7,U⟩:=Xl.rowsN Q R2 C;rw[C] at j a7
  let R:RR:=⟨c,p,rp,E0 c c.classes.length,sa,scap,[],none,0,0⟩
  have a8:Yg w9 tb R:=by
   show w9.heap[tb]?=some (.cells (Zj c p++[Xn rp.o,Xn rp.f,.slice sa (E0 c c.classes.length).length scap,.slice none 0 0,.int .i64 0]).toArray _ _)
   rw[C];exact j
  refine ζl a8 ϱ ?_;refine ζs (m.heap ((((D.trans P).trans g).trans A).heap' ar) (by omega)) ϱ λwa ai K bz=>?_;have b4:∀S:Nat->Prop,Xj S (none:Option Addr):=λS b off s e=>by cases e
  have be:=D.size;have b5:Q4 wa rp (Dg N):=by
   have h9:Q4 w9 rp (Dg N):=by
    have h8:=(a0.grow g).grow A;exact⟨h8.o.far (λb off s e a=>by have:=a0.o.lt b off s e;have:=g.size;replace a:b=tb:=a;omega) m,h8.f.far (λb off s e a=>by have:=a0.f.lt b off s e;have:=g.size;replace a:b=tb:=a;omega) m,h8.eo,h8.ef⟩
   exact⟨h9.o.far (λb off s e a=>by have:=ac b off s e;replace a:b=ob:=a;omega) K,h9.f.far (λb off s e a=>by have:=ad b off s e;replace a:b=ob:=a;omega) K,h9.eo,h9.ef⟩
  have aj:Xj (λz=>z=ob) sa:=λb off s e a=>by have:=U b off s e;replace a:b=ob:=a;omega
  have ak:∀S:Nat->Prop,(∀z,S z->z<w.heap.size)->B3 S R:=λS hS=>⟨ac.out (λz a=>by have:=hS z a;have:=y.size;omega),ad.out (λz a=>by have:=hS z a;have:=y.size;omega),λb off s e a=>by have:=U b off s e;have:=hS b a;omega,λs hs=>by
   obtain⟨k,hk,rfl⟩:=QK hs;obtain⟨_,e⟩:=XfY (XB hk);rw[e];exact XlF S _ _,b4 S,λq hq=>by cases hq⟩
  have b6:Qc wa R (Hp c 0):=by
   refine⟨by show Q4 wa rp (Dg c.pages.toNat);rw[hN,XA];exact b5,ah.far aj K,E.grow K.size,by show(E0 c c.classes.length).length<=scap;rw[C];exact a7,by show(E0 c _).length=(Fu c _).length;unfold E0 Fu;simp,by show(E0 c c.classes.length).length<=16;omega,λk s x h1 h2=>?_,(λi x hx=>by simp[R] at hx),(by intro b off s e;cases e),XE _,by show 0<=1024;omega,rfl,(λq hq=>by cases hq),rfl⟩;obtain⟨_,rfl⟩:=XfY h1;obtain⟨_,rfl⟩:=L5 h2;exact⟨⟨[],[]⟩,XlE _ _ _,λe he=>by cases he⟩
  exact ζR func85 ai ϱ ⟨R,rfl,rfl,rfl,b6,ak,(a4.since K (λz a e=>by omega))⟩
end Go.Proofs.YtohjeeapehmkcaaGreatDoor
