/-
  Texts put together: Room2, Room3, Slices2, Slices3, Plc, Room4, Room5, Room6, Flat, Ref20, Ref20b, Ref20c, Ref20d, Ref3, Ref20e, Ref20f.
-/
import Derived.Test.YtohjeeapehmkcaaGreatDoorPt3
import Derived.Test.YtohjeeapehmkcaaGreatDoorQRule16
import Derived.Test.YtohjeeapehmkcaaGreatDoorQRule5
import Derived.Test.YtohjeeapehmkcaaGreatDoorQRule15
import Derived.Test.YtohjeeapehmkcaaGreatDoorQRule17
import Derived.Test.YtohjeeapehmkcaaGreatDoorQRule18
import Derived.Test.YtohjeeapehmkcaaGreatDoorQRule19
set_option linter.unusedVariables false
set_option maxRecDepth 100000
namespace Go.Proofs.YtohjeeapehmkcaaGreatDoor
open Go.RowKit
open Bool renaming and_eq_true->XK,true_and->ZZ,false_and->YK,and_false->YU
open Int renaming toNat_natCast->XA,eq_ofNat_of_zero_le->XD,mul_le_mul_of_nonneg_right->XX,mul_le_mul->ZD,mul_nonneg->ZG,ediv_nonneg->YD,ediv_le_self->YT
open List renaming getElem?_eq_getElem->XB,getD_eq_getElem?_getD->XC,length_set->XF,getElem?_set_self->XG,length_replicate->XH,map_append->XI,getElem_mem->XJ,length_map->XM,getElem?_map->XN,length_cons->XP,length_take->XR,mem_of_getElem?->XS,length_append->XT,getElem?_set_ne->XU,getElem?_append_left->XV,take_append_drop->XW,take_add_one->ZC,take_length->ZI,mem_or_eq_of_mem_set->ZJ,take_of_length_le->ZK,nil_append->ZL,mem_singleton->ZM,drop_eq_getElem_cons->ZN,flatMap_cons->ZO,getElem?_append_right->ZQ,append_nil->ZT,nodup_nil->YA,length_range->YC,getElem?_toArray->YH,range_succ->Y2,length_tail->QD,getElem_of_mem->QE,mem_cons->QK
open Nat renaming le_refl->XE,zero_le->XL,zero_add->XQ,mul_one->ZH,add_assoc->YE,div_add_mod->YM,mul_comm->YO,mod_lt->QG
open Option renaming map_eq_some_iff->YV,map_some->QI
open Go.Proofs.Tryz (func108 func109 func119 func123 func138 func144 func151 func152 func153 func154 func164 func165 func166 func170 func175 func194 func195 func199 func201 func202 func235 func36 func55 func57 func60 func64 func68 func71 func82 func85 ntmps108 ntmps109 ntmps119 ntmps123 ntmps138 ntmps144 ntmps151 ntmps152 ntmps153 ntmps154 ntmps164 ntmps165 ntmps166 ntmps170 ntmps175 ntmps194 ntmps195 ntmps199 ntmps201 ntmps202 ntmps235 ntmps36 ntmps55 ntmps57 ntmps60 ntmps64 ntmps68 ntmps71 ntmps82 ntmps85 prog)
variable {c:Conf} {l':IL} {ahead by' size u who z:Int} {lg:List (Nat × List Nat)} {ps:List IL} {bs l p zs:List Int} {l2 ws:List Nat} {cs rest xs:List Value} {N at' b base cap fuel g i j k len lm lo m n n0 o off sz t tm vb xb y:Nat} {e:Nat × List Int} {fz:Nat × Nat} {f:Nat->Int} {G:Nat->Pg} {B C F F' Fr S S' T:Nat->Prop} {pd pd2:Option (Nat × PlcM)} {a:Option Addr} {pg:PgL} {P:Pl} {pl':PlM} {R:Rm} {M:RmM} {x x':Sm} {α:Type} {v:Value} {w w' w0 w1 w2:World}
abbrev Xhk (w:World) (b:Nat) (e:Int):Prop:=w.heap[b]? = some (.cells ([.int .i64 e]:List Value).toArray 45 (0,0))
theorem Mq {p:PlM} (h:p.Good):Zh p<=1024:=by have:=Pd p.own; have:=h.len; unfold Zh; omega
theorem Tc (h:Zg F w R M) (held:Nat) (b:Nat) (E:Int) (hb:Xhk w b E) (hh:held<=1024):Fp prog 175 #[Bw R,.int .i64 (held:Int),.pointer (some ⟨b,0,none⟩)] w
 (fun _ w'=>Zg F w' R (if E=0 then {M with tot:=Xw M.tot (3+(max (Zh M.pl:Int) held - min (Zh M.pl:Int) held)*4)} else M)/\Xc F w w'):=by
 refine Fp.enter func175 rfl ntmps175 rfl rfl ?_;have f:=Mq h.pool.good;refine ζa ϱ (ζl hb ϱ (ζg ϱ (fun c => ?_) fun c => ?_))
 ·have a:E≠0:=by simpa using c
  rw [if_neg a];exact ζr func175 ϱ ⟨h,Xc.refl _ _⟩
 ·have a:E=0:=by simpa using c
  rw [if_pos a];have e1:(if (held:Int) > Zh M.pl then (held:Int) else Zh M.pl)=max (Zh M.pl:Int) held:=by split <;> omega
  have e2:(if (held:Int)<Zh M.pl then (held:Int) else Zh M.pl)=min (Zh M.pl:Int) held:=by split <;> omega
  refine ζw (Pt h) ϱ (ζw (Pt h) ϱ (ζj ϱ ?_));rw [e1,e2];refine ζl h.obj ϱ (ζj ϱ (ζj ϱ (ζc ϱ (Td h (3+(max (Zh M.pl:Int) held - min (Zh M.pl:Int) held)*4)) ?_)));rintro _ g ⟨e,d⟩;exact ζa ϱ (ζr func175 ϱ ⟨e,d⟩)
theorem XaL (h:M.shs[k]? = some x):Ev M k x M.pl=M:=by
 have:M.shs.set k x=M.shs:=by rw [<- ((List.getElem?_eq_some_iff.1 h).2)]; exact List.set_getElem_self ((List.getElem?_eq_some_iff.1 h).1)
 show RmM.mk (M.shs.set k x) M.pl M.lg M.tot=M
 rw [this]
theorem Zg.wide (h:Zg F w R M) (hc:∀ z,F' z->F z\/w.heap.size<=z):∀ z,z<w.heap.size->F' z->F z:=fun z b a=>(hc z a).elim id (fun h=>by omega)
theorem Te {F2:Nat->Prop} {w3 w4:World} {M2:RmM} (hc01:Xc Xe w w1) (hF2:∀ z,F2 z->F z\/w1.heap.size<=z) (hc13:Xc F w w3) (h4:Zg F2 w4 R M2) (hc34:Xc F2 w3 w4):E3 F w w4 R M2:=by
 have c:=hc01.size;refine ⟨F2,h4,fun z a=>(hF2 z a).imp id (fun h=>by omega),hc13.since hc34 fun z a b => ?_⟩;rcases hF2 z b with h | h
 ·exact h
 ·omega
theorem XeN (h:Zg F w R M) (k who:Int):Xf prog 119 #[Bw R,.int .i64 k,.int .i64 who] w
 (fun v w'=>v = .tuple #[.int .i64 (Do M k who),.int .i64 (Dn M k who),.int .i64 (Ew M k who)]/\E3 F w w' R (Qb M k who)):=by
 have p:=Mq h.pool.good;refine ζe func119 ntmps119 ϱ (ζn ϱ fun b D e1 m a a0 => ?_);have n:=h.grow a;have f:¬ F b:=fun d=>by have:=h.low b d; omega
 refine ζw (Pt n) ϱ (Xa.defer rfl rfl (ζa ϱ (ζw (Ns n k) ϱ ?_)));unfold Ex Do Dn Ew Qb;cases O:Zs M k with
 |none =>
  refine ζw (XkF who D) ϱ (ζs m ϱ fun E c q a1 => ?_);have g:=Tc (h.note n (Yb m) (by omega) f q (by decide)) (Zh M.pl) b 1 c p;refine Xa.retD Xb rfl func119 rfl (Mr (args := [Bw R,.int .i64 (Zh M.pl:Nat),.pointer (some ⟨b,0,none⟩)]) (captured := []) g.fn) (g.mono fun _ P ⟨Q,r⟩ => ?_);exact ⟨_,.tmp rfl (.tmp rfl (.one rfl rfl rfl (Yi (r.heap c f)) .nil)),rfl,Te a (fun z h => .inl h) (a.gr.since q (fun z d e=>by omega)) Q r⟩
 |some x =>
  obtain ⟨j,rfl,hj,H⟩:=Fj O;obtain ⟨G,_,I,B,J⟩:=n.shelf H;refine ζc ϱ (XkE (R.S j) G x M.pl who D I) ?_;rintro _ E ⟨rfl,G',K,s,L⟩;refine ζa ϱ ?_;obtain ⟨e2,e3,e4,e5⟩:=Xbb x M.pl who h.pool.good I.ok.cls;obtain ⟨S,T,t,C⟩:=J E G' (Q4 x M.pl who) (Bz x M.pl who) K s L e2 e3 e4 e5;have i:¬ S b:=fun d=>(t b d).elim f (fun h=>by have:=Xg m; omega);have N:¬ Ah (R.S j) G x.pg b:=fun d=>f (B b d);have c:=s.heap m N;refine ζs c ϱ fun P u y a2 => ?_;have g:=Tc (h.note T (Yb c) (by omega) i y (by decide)) (Zh M.pl) b (Qi x M.pl who) u p;refine Xa.retD Xb rfl func119 rfl (Mr (args := [Bw R,.int .i64 (Zh M.pl:Nat),.pointer (some ⟨b,0,none⟩)]) (captured := []) g.fn) (g.mono fun _ w4 ⟨U,A⟩ => ?_);refine ⟨_,.tmp rfl (.tmp rfl (.one rfl rfl rfl (Yi (A.heap u i)) .nil)),rfl,?_⟩;have l:=Te a t ((a.gr.trans C).since y (fun z d e=>by omega)) U A;simp only [XA];by_cases o:Qi x M.pl who=0
  ·rw [if_pos o] at l ⊢;exact l
  ·rw [if_neg o] at l ⊢;have V:Q4 x M.pl who=x:=by unfold Q4; rw [if_neg o]
   have W:Bz x M.pl who=M.pl:=by unfold Bz; rw [if_neg o]
   rw [V,W,XaL H] at l;exact l
theorem Xkt {pl:PlM} {n i:Int} (h:Bo x n i≠0):Q1 x n i=x/\A3 x pl n i=pl:=by
 unfold Bo at h;unfold Q1 A3;cases a:Zc x.pg n with
 |none=>exact ⟨rfl,rfl⟩
 |some p =>
  rw [a] at h;simp only at h ⊢
  rw [if_neg h,if_neg (fun e=>h e.1)];exact ⟨rfl,rfl⟩
theorem XeM (h:Zg F w R M) (k n i:Int):Xf prog 123 #[Bw R,.int .i64 k,.int .i64 n,.int .i64 i] w
 (fun v w'=>v = .int .i64 (Iu M k n i)/\E3 F w w' R (Qq M k n i)):=by
 have q:=Mq h.pool.good;refine ζe func123 ntmps123 ϱ (ζn ϱ fun b I e1 o c a2 => ?_);have p:=h.grow c;have f:¬ F b:=fun a=>by have:=h.low b a; omega
 refine ζw (Pt p) ϱ (Xa.defer rfl rfl (ζa ϱ (ζw (Ns p k) ϱ ?_)));unfold Ex Iu Qq;cases Q:Zs M k with
 |none =>
  refine ζw (Xkw n i I) ϱ (ζs o ϱ fun J d r a3 => ?_);have g:=Tc (h.note p (Yb o) (by omega) f r (by decide)) (Zh M.pl) b 1 d q;refine Xa.retD Xb rfl func123 rfl (Mr (args := [Bw R,.int .i64 (Zh M.pl:Nat),.pointer (some ⟨b,0,none⟩)]) (captured := []) g.fn) (g.mono fun _ S ⟨T,s⟩ => ?_);exact ⟨_,.one rfl rfl rfl (Yi (s.heap d f)) .nil,rfl,Te c (fun z h => .inl h) (c.gr.since r (fun z a e=>by omega)) T s⟩
 |some x =>
  obtain ⟨j,rfl,hj,K⟩:=Fj Q;obtain ⟨G,_,C,D,L⟩:=p.shelf K;refine ζc ϱ (Xkv (R.S j) G x M.pl n i I C) ?_;rintro _ J ⟨rfl,N,t,O⟩;refine ζa ϱ ?_;obtain ⟨e2,e3,e4,e5⟩:=Vv x M.pl n i C.ok C.of;obtain ⟨U,V,u,E⟩:=L J G (Q1 x n i) (A3 x M.pl n i) N t (fun z a => .inl (O z a)) e2 e3 e4 e5;have l:¬ U b:=fun a=>(u b a).elim f (fun h=>by have:=Xg o; omega);have P:¬ Ah (R.S j) G x.pg b:=fun a=>f (D b a);have d:=t.heap o P;refine ζs d ϱ fun S y A a4 => ?_;have g:=Tc (h.note V (Yb d) (by omega) l A (by decide)) (Zh M.pl) b (Bo x n i) y q;refine Xa.retD Xb rfl func123 rfl (Mr (args := [Bw R,.int .i64 (Zh M.pl:Nat),.pointer (some ⟨b,0,none⟩)]) (captured := []) g.fn) (g.mono fun _ w4 ⟨W,B⟩ => ?_);refine ⟨_,.one rfl rfl rfl (Yi (B.heap y l)) .nil,rfl,?_⟩;have m:=Te c u ((c.gr.trans E).since A (fun z a e=>by omega)) W B;simp only [XA];by_cases H:Bo x n i=0
  ·rw [if_pos H] at m ⊢;exact m
  ·rw [if_neg H] at m ⊢;obtain ⟨t1,t2⟩:=Xkt (pl:=M.pl) H;rw [t1,t2,XaL K] at m;exact m
structure XbG (c:Conf):Prop where
 size:64<=c.size/\c.size<=4096
 pages:1<=c.pages/\c.pages<=1024
 n:1<=c.classes.length/\c.classes.length<=16
 keep:c.keep.length=c.classes.length
 most:1<=c.most/\c.most<=2097152
theorem Ye (h:Zb c=true):XbG c:=by
 unfold Zb at h;simp only [XK,decide_eq_true_eq,Q0] at h;obtain ⟨⟨⟨⟨⟨⟨⟨b,e⟩,f⟩,g,_⟩,_⟩,_⟩,_⟩,i⟩:=h;have k:=Rx f;have a:=Kf.1 b;have l:D0 c<=2097152:=by
  unfold D0;rw [if_pos b];have j:c.size / 8<=512:=by omega
  have d:0<=c.size / 8:=by omega
  calc c.size*(c.size / 8)<=4096*(c.size / 8):=XX a.2.1 d
   _<=4096*512:=Int.mul_le_mul_of_nonneg_left j (by omega)
   _=2097152:=by omega
 exact ⟨⟨a.1,a.2.1⟩,e,by omega,g,i.1,by omega⟩
theorem Xgd (h:XbG c) {n:Int} (hn:n<=c.most):0<=Z5 n c.size/\Z5 n c.size<=2097153:=by
 unfold Z5 Qh;have b:=h.size;have d:=h.most;by_cases a:n<1\/c.size<1
 ·rw [if_pos a]; simp
 ·rw [if_neg a];have e:0<=(n - 1) / c.size:=YD (by omega) (by omega);have f:(n - 1) / c.size<=n - 1:=YT _ (by omega);split <;> omega
theorem XeL (h:Zg F w R M) (size:Int):Xf prog 64 #[Bw R,.int .i64 size] w (Grow (.int .i64 (Y7 R.c M size)) w):=by
 have l:=Ye h.may;have o:=l.n;have p:=l.most;refine ζe func64 ntmps64 ϱ (ζg ϱ (fun j => ?_) fun j => ?_)
 ·have e:Y7 R.c M size=3:=by unfold Y7; rw [if_pos (.inl (of_decide_eq_true j))]
  rw [e];exact ζr func64 ϱ ⟨rfl,Xc.refl _ _⟩
 ·have q:=of_decide_eq_false j;refine ζl h.obj ϱ (ζg ϱ (fun k => ?_) fun k => ?_)
  ·have e:Y7 R.c M size=3:=by unfold Y7; rw [if_pos (.inr (of_decide_eq_true k))]
   rw [e];exact ζr func64 ϱ ⟨rfl,Xc.refl _ _⟩
  ·have r:=of_decide_eq_false k;have e3:Y7 R.c M size=if (M.pl.free.length:Int)<Cp R.c M size then 5 else 0:=by unfold Y7; rw [if_neg (by omega)]
   rw [e3];refine ζd 16 Xe (by kernel_rfl) ϱ fun f=>δl f h.obj ϱ (δv f (fun w' i=>Mf R.p.ca R.p.cc R.c.classes size w' (h.cls.1.chg i) (by omega)) ϱ (δl f h.obj ϱ (δw f (fun w' i=>Xce size R.c.size w' (by omega)) ϱ (δn f ϱ fun m a => ?_))));have b:=h.grow a;by_cases g:Xm R.c.classes size = -1
   ·have e4:Cp R.c M size=Z5 size R.c.size:=by unfold Cp; rw [if_pos g]
    rw [e4];refine ζF ϱ (by rw [g]; rfl) (ζl b.obj ϱ (ζv (Xd7 R.P M.pl m b.pool) ϱ fun n c=>ζg ϱ (fun d => ?_) fun d => ?_))
    ·rw [if_pos (of_decide_eq_true d)];exact ζr func64 ϱ ⟨rfl,a.trans c⟩
    ·rw [if_neg (of_decide_eq_false d)];exact ζr func64 ϱ ⟨rfl,a.trans c⟩
   ·have e4:Cp R.c M size=1 - min (Yg M (Xm R.c.classes size):Int) 1:=by unfold Cp; rw [if_neg g]
    rw [e4];refine ζY ϱ (by simpa using g) (ζw (Pu b (Xm R.c.classes size)) ϱ ?_);have e5:(if (1:Int)<(Yg M (Xm R.c.classes size):Nat) then (1:Int) else (Yg M (Xm R.c.classes size):Nat))=min ((Yg M (Xm R.c.classes size):Nat):Int) 1:=by split <;> omega
    rw [e5];refine ζj ϱ (ζl b.obj ϱ (ζv (Xd7 R.P M.pl m b.pool) ϱ fun n c=>ζg ϱ (fun d => ?_) fun d => ?_))
    ·rw [if_pos (of_decide_eq_true d)];exact ζr func64 ϱ ⟨rfl,a.trans c⟩
    ·rw [if_neg (of_decide_eq_false d)];exact ζr func64 ϱ ⟨rfl,a.trans c⟩
theorem XkQ (a a':Option Addr) (c c':Nat) (x y:List Int) (w:World) (hr:Rd .i64 w a x) (hr':Rd .i64 w a' y) (hl:x.length<=9223372036854775807):Xf prog 194 #[.slice a x.length c,.slice a' y.length c'] w (Grow (.bool (decide (x=y))) w):=by
 refine ζe func194 ntmps194 ϱ (ζg ϱ (fun n => ?_) fun n => ?_)
 ·have q:x.length≠y.length:=by simp at n; omega
  have:x≠y:=fun e=>q (by rw [e]);exact ζr func194 ϱ ⟨Q7 (decide_eq_false this).symm,Xc.refl _ _⟩
 ·have o:x.length=y.length:=by simp at n; omega
  refine Xa.loop (α:=Nat) (fun k => [(0,false,.slice a x.length c),(1,false,.slice a' y.length c'),(12,false,.int .i64 x.length),(13,false,.int .i64 k)])
   (fun k w'=>Xc Xe w w'/\k<=x.length /\ ∀ j,j<k->x.getD j 0=y.getD j 0) (fun k=>x.length - k) 0 ⟨rfl,rfl,rfl,rfl,trivial⟩ ⟨Xc.refl _ _,XL _,fun _ h=>by omega⟩ ?_
  rintro k A ⟨d,B,f⟩ ih;refine ζa ϱ (ζg ϱ (fun h => ?_) fun h => ?_)
  ·have l:k<x.length:=by simpa using h
   obtain ⟨b,off,rfl,s⟩:=(hr.chg d) k l;obtain ⟨b',off',rfl,r⟩:=(hr'.chg d) k (by omega);refine ζd 9 Xe (by kernel_rfl) ϱ fun g=>δi k g ϱ (δk g s ϱ (δi k g ϱ (δk g r ϱ (δn g ϱ fun C m=>ζg ϱ (fun i => ?_) fun i => ?_))))
   ·have p:x.getD k 0≠y.getD k 0:=by simpa using i
    have:x≠y:=fun e=>p (by rw [e]);exact ζr func194 ϱ ⟨Q7 (decide_eq_false this).symm,d.trans m⟩
   ·have t:x.getD k 0=y.getD k 0:=by simpa using i
    refine ζj ϱ ?_;exact ih (k+1) _ _ ⟨d.trans m,l,fun j D=>by
     by_cases e:j=k
     ·subst e; exact t
     ·exact f j (by omega)⟩ (by omega) ⟨rfl,rfl,rfl,rfl,trivial⟩
  ·have z:k=x.length:=by simp at h; omega
   have:x=y:=List.ext_getElem o fun j u v=>by
    have:=f j (by omega);rw [Hq u,Hq v] at this;exact this
   exact ζr func194 ϱ ⟨Q7 (decide_eq_true this).symm,d⟩
theorem XkN (a:Option Addr) (cap:Nat) (x:List Int) (w:World) (hr:Rd .i64 w a x) (hl:x.length<=1048576) (hn:∃ a1,a=some a1):Xf prog 68 #[.slice a x.length cap] w
 (fun v w' => ∃ g c,v = .slice (some ⟨g,0,none⟩) x.length c/\w.heap.size<=g/\Rd .i64 w' (some ⟨g,0,none⟩) x/\kd w' g=some (some 3)/\Xc Xe w w'):=by
 have q:maxLen=9223372036854775807:=rfl;obtain ⟨a1,rfl⟩:=hn;refine ζe func68 ntmps68 ϱ (ζf ϱ (Xa.buildSlice Xb rfl fun b m e1 n d r=>ζa ϱ ?_));subst e1;have h:Xl w.heap.size 3 1 m (.slice (some ⟨w.heap.size,0,none⟩) 0 0) 0 []:=Xl.empty (XE _) n;refine Xa.append (base:=w.heap.size) (xs := []) (news:=x.map (Value.int .i64)) Xb rfl h (by omega) (by simp) (hr.chg d).cells Ip ⟨by omega,by show (0+x.length)*8<=_; omega⟩ fun v s f i j=>ζa ϱ ?_;rw [XQ,ZL] at f;have o:=h.since d (XE _) i;rcases f.2 with ⟨e,_⟩ | ⟨g,c,cur,rfl,p,k,t,u,_,l⟩
 ·have:=(j.1.1 e).1; cases this
 ·exact ζr func68 ϱ ⟨g,c,rfl,p,Rd.of_take k (by rw [ZH] at l; exact l),Yb k,o⟩
theorem XkR (k:Nat) (w:World) (hk:0<k) (hb:k<=1048576):Xf prog 235 #[.slice none 0 0,.int .i64 (k:Int)] w
 (fun v w'=>Xl w.heap.size 3 1 w' v 0 []/\Xc Xe w w'/\v.ownBlock=some w.heap.size/\v ≠ .slice none 0 0):=by
 refine ζe func235 ntmps235 ϱ (ζf ϱ (Xa.cap Xb rfl (ζa ϱ (ζj ϱ (ζj ϱ (ζy ϱ (Xa.cap Xb rfl (ζa ϱ ?_))))))));rw [show (k:Int) - (((0:Nat):Int) - ((0:Nat):Int))=(k:Nat) from by omega];refine Xa.slice Xb rfl (l:=0) (h:=0) (by first | rfl | omega | simp [Bv]) (by first | rfl | omega | simp [Bt]) (by omega) (by omega) rfl (Xa.appendZ (k:=k) Xb rfl hk (by show k*8<=_; omega) (by omega) fun cap cur g a d e b c f=>ζa ϱ (Xa.slice Xb rfl (l:=0) (h:=0) (by first | rfl | omega | simp [Bv]) (by first | rfl | omega | simp [Bt]) (by omega) (by omega) rfl ?_));have es:Qw (some ⟨w.heap.size,0,none⟩) cap 0 1=some ⟨w.heap.size,0,none⟩:=by
  unfold Qw;split
  ·omega
  ·rfl
 show Xa _ _ _ _ _ _ ((4,false,.slice (Qw (some ⟨w.heap.size,0,none⟩) cap 0 1) 0 cap)::_) _
 rw [es];exact ζr func235 ϱ ⟨⟨rfl,.inr ⟨w.heap.size,cap,cur,rfl,XE _,c,by omega,b,by omega,by simp⟩⟩,a,rfl,by simp⟩
structure Sl where
 a:Option Addr
 cap:Nat
 x:List Int
abbrev slV (l:Sl):Value := .slice l.a l.x.length l.cap
def Cb (ls:List Sl):List Int:=(ls.map (·.x)).flatten
theorem U9 {ls:List Sl} (h:i<ls.length):Cb (ls.take (i+1))=Cb (ls.take i)++ls[i].x:=by
 unfold Cb;rw [ZC,XB h,XI,List.flatten_append]
 simp
theorem Xcd (ls:List Sl) (i:Nat):(Cb (ls.take i)).length<=(Cb ls).length:=by
 have:Cb ls=Cb (ls.take i)++Cb (ls.drop i):=by
  unfold Cb;rw [<- List.flatten_append,<- XI,XW]
 rw [this,XT];omega
theorem XkO (ob:Nat) (ls:List Sl) (w:World) (h:∀ i (hi:i<ls.length),w.cell? ⟨ob,i,none⟩=some (slV ls[i])) (hr:∀ l ∈ ls,Rd .i64 w l.a l.x) (hn:ls.length<=1024) (hpos:0<(Cb ls).length) (hb:(Cb ls).length<=1048576):Xf prog 195 #[.slice (some ⟨ob,0,none⟩) ls.length ls.length] w
 (fun v w' => ∃ g c,v = .slice (some ⟨g,0,none⟩) (Cb ls).length c/\w.heap.size<=g/\Rd .i64 w' (some ⟨g,0,none⟩) (Cb ls)/\Xc Xe w w'):=by
 have M:maxLen=9223372036854775807:=rfl;refine ζe func195 ntmps195 ϱ ?_;refine Xa.loop (α:=Nat) (fun k => [(0,false,.slice (some ⟨ob,0,none⟩) ls.length ls.length),(3,false,.int .i64 (Cb (ls.take k)).length),(9,false,.slice (some ⟨ob,0,none⟩) ls.length ls.length),(10,false,.int .i64 ls.length),(11,false,.int .i64 k)])
  (fun k w'=>w'=w/\k<=ls.length) (fun k=>ls.length - k) 0 ⟨rfl,rfl,rfl,rfl,rfl,trivial⟩ ⟨rfl,XL _⟩ ?_
 rintro k m ⟨G,P⟩ ih;subst G;refine ζa ϱ (ζg ϱ (fun r => ?_) fun r => ?_)
 ·have a:k<ls.length:=by simpa using r
  have t:=Xcd ls (k+1);have q:=congrArg List.length (U9 a);rw [XT] at q;refine ζi k ϱ (ζk ϱ (show m.cell? ⟨ob,0+k,none⟩=_ from by rw [XQ]; exact h k a) ϱ (ζj ϱ (ζf ϱ (ζj ϱ ?_))));exact ih (k+1) _ _ ⟨rfl,a⟩ (by omega) ⟨rfl,congrArg (fun z=>some (Value.int .i64 z)) (show ((Cb (ls.take k)).length:Int)+(ls[k].x.length:Int)=((Cb (ls.take (k+1))).length:Int) from by rw [q]; omega),rfl,rfl,rfl,trivial⟩
 ·have n:k=ls.length:=by simp at r; omega
  subst n;rw [ZI];refine ζc ϱ (XkR (Cb ls).length m hpos hb) ?_;rintro v Q ⟨H,x,N,y⟩;refine ζa ϱ ?_;refine Xa.loop (α:=Nat × Value) (fun p => [(6,false,p.2),(25,false,.slice (some ⟨ob,0,none⟩) ls.length ls.length),(26,false,.int .i64 ls.length),(27,false,.int .i64 p.1)])
   (fun p w'=>p.1<=ls.length/\Xl m.heap.size 3 1 w' p.2 (Cb (ls.take p.1)).length ((Cb (ls.take p.1)).map (Value.int .i64))/\p.2 ≠ .slice none 0 0/\Xc Xe m w') (fun p=>ls.length - p.1) (0,v) ⟨rfl,rfl,rfl,rfl,trivial⟩ ⟨XL _,H,y,x⟩ ?_
  rintro ⟨i,u⟩ I ⟨hi,d,A,f⟩ ih;simp only at hi d A
  refine ζa ϱ (ζg ϱ (fun s => ?_) fun s => ?_)
  ·have a:i<ls.length:=by simpa using s
   have t:=Xcd ls (i+1);have q:=congrArg List.length (U9 a);rw [XT] at q;have o:=(hr ls[i] (XJ a)).chg f;refine ζi i ϱ (ζk ϱ (show I.cell? ⟨ob,0+i,none⟩=_ from by rw [XQ]; exact f.cell (h i a) id) ϱ ?_);refine Xa.appendA (base:=m.heap.size) (xs:=(Cb (ls.take i)).map (Value.int .i64)) (news:=ls[i].x.map (Value.int .i64)) Xb rfl d f.size (fun e=>by
    by_cases J:0<ls[i].x.length
    ·obtain ⟨b,off,e',_⟩:=o 0 J;rw [e] at e'; cases e'
    ·omega) (by simp) (fun j u B=>by
    have O:j<ls[i].x.length:=by have:=(List.getElem?_eq_some_iff.1 B).1; simpa using this
    obtain ⟨b,off,e',_⟩:=o 0 (by omega);exact ⟨_,e',(Rd.cells (e'▸o)) j u B⟩) Ip ⟨by omega,by show (_+_)*8<=_; omega⟩ ?_
   intro u' R C D E;exact ζa ϱ (ζj ϱ (ih (i+1,u') _ _ ⟨a,by rw [U9 a,XT,XI]; exact C,fun e=>A (E.1.1 e).1,d.since f (XE _) D⟩ (by simp only; omega) ⟨rfl,rfl,rfl,rfl,trivial⟩))
  ·have n:i=ls.length:=by simp at s; omega
   subst n;rw [ZI] at d;obtain ⟨g,c,cur,rfl,K,L,S,T,F⟩:=d.form hpos;exact ζr func195 ϱ ⟨g,c,rfl,K,Rd.of_take L (by rw [ZH] at F; exact F),f⟩
structure Plc where
 cls:Int
 page:Int
 idx:Int
 pa:Option Addr
 pc:Nat
 pages:List Int
def Xt (q:Plc):List Value := [.int .i64 q.cls,.int .i64 q.page,.int .i64 q.idx,.slice q.pa q.pages.length q.pc]
structure Zf (w:World) (q:Plc):Prop where
 rd:Rd .i64 w q.pa q.pages
 len:q.pages.length<=9223372036854775807
abbrev H3 (w:World) (b:Nat) (q:Plc):Prop:=w.heap[b]? = some (.cells (Xt q).toArray 98 (0,0))
theorem Zf.grow {q:Plc} (h:Zf w q) (hc:Xc Xe w w'):Zf w' q:=⟨h.rd.chg hc,h.len⟩
variable {q:Plc}
theorem Dh.put {r:List Nat} (h:Dh F w lm lg) (hc:Xc (fun z=>z=lm) w w') (hm':∀ m,Yq w lm m->Yq w' lm (Ca m n (.slice a r.length cap))) (hnew:∀ e ∈ lg,e.1≠n)
 (hr:Rd .i64 w' a (X3 r)) (hmine:Kp F w' a):Dh F w' lm (lg ++ [(n,r)]):=by
 have l:=G7 h;obtain ⟨m,o,p,q,i⟩:=h;have c:=i n fun e he e'=>hnew e he (by omega);refine ⟨_,hm' m o,?_,fun e he => ?_,fun k d => ?_⟩
 ·rw [Ui,if_neg (Rh.1 c)];exact List.nodup_append.2 ⟨p,by simp,fun x t y j e=>by
   rw [ZM] at j; subst j; subst e;exact Rh.1 c t⟩
 ·rcases List.mem_append.1 he with he | he
  ·obtain ⟨a',cap',u,v,g⟩:=q e he;have f:∀ b off s,a'=some ⟨b,off,s⟩->b≠lm:=fun b off s e'=>Xs (g b off s e').1 l (by simp);refine ⟨a',cap',by rw [Ih,if_neg (by have:=hnew e he; omega)]; exact u,v.far f hc,fun b off s e'=>⟨Fa hc (g b off s e').1 (f b off s e'),(g b off s e').2⟩⟩
  ·rw [ZM] at he; subst he;exact ⟨a,cap,by rw [Ih,if_pos rfl],hr,hmine⟩
 ·rw [Ih,if_neg (fun e=>d (n,r) (by simp) e.symm)];exact i k fun e he=>d e (by simp [he])
theorem Dh.del (h:Dh F w lm lg) (hc:Xc (fun z=>z=lm) w w') (hm':∀ m,Yq w lm m->Yq w' lm (Cu m n)):Dh F w' lm (Cz lg n):=by
 have j:=G7 h;obtain ⟨m,l,c,o,p⟩:=h;refine ⟨_,hm' m l,by rw [Uh]; exact c.erase _,fun e d => ?_,fun k g => ?_⟩
 ·obtain ⟨d,a⟩:=List.mem_filter.1 d;have q:e.1≠n:=by simpa using a
  obtain ⟨a',cap',r,t,f⟩:=o e d;have a:∀ b off s,a'=some ⟨b,off,s⟩->b≠lm:=fun b off s e'=>Xs (f b off s e').1 j (by simp);exact ⟨a',cap',by rw [Kq c,if_neg (by omega)]; exact r,t.far a hc,fun b off s e'=>⟨Fa hc (f b off s e').1 (a b off s e'),(f b off s e').2⟩⟩
 ·rw [Kq c];by_cases e:k=n
  ·rw [if_pos e]
  ·rw [if_neg e];refine p k fun e' i e2 => ?_;by_cases e3:e'.1=n
   ·exact e (by omega)
   ·exact g e' (List.mem_filter.2 ⟨i,by simpa using e3⟩) e2
theorem XkJ {l:Nat} {s} (h:Qw a cap l sz=some ⟨b,off,s⟩):∃ off' s',a=some ⟨b,off',s'⟩:=by
 unfold Qw at h;by_cases c:cap=l
 ·rw [if_pos c] at h; exact ⟨off,s,h⟩
 ·rw [if_neg c] at h;cases a with
  |none=>cases h
  |some x =>
   obtain ⟨xb,xo,xs⟩:=x;simp only [QI,Option.some.injEq] at h;have:xb=b:=by
    have:=congrArg Addr.block h;unfold Addr.add at this;split at this <;> exact this
   subst this;exact ⟨xo,xs,rfl⟩
theorem Xac {l:List Nat} (h:Xl base 3 1 w v m ((X3 l).map (Value.int .i64))) (hm:l.length=m) (hp:0<m):∃ g cap,v = .slice (some ⟨g,0,none⟩) m cap/\base<=g/\m<=cap/\cap<=maxLen/\kd w g=some (some 3)/\Rd .i64 w (some ⟨g,0,none⟩) (X3 l):=by
 obtain ⟨g,cap,cur,e,c,a,d,f,b⟩:=h.form hp;have i:(X3 l).length=m:=by unfold X3; rw [XM]; exact hm
 exact ⟨g,cap,e,c,d,f,Yb a,Rd.of_take a (by rw [i]; rw [ZH] at b; exact b)⟩
theorem XdG (l r:List Nat):X3 (l++r)=X3 l++X3 r:=by unfold X3; rw [XI]
theorem C1 (l:List Nat):(X3 l).length=l.length:=by unfold X3; rw [XM]
def Xf6 (F:Nat->Prop) (w w':World) (R:Rm) (M:RmM) (q:Plc):Prop := ∃ F',Zg F' w' R M/\(∀ z,F' z->F z\/w.heap.size<=z)/\Xc F w w'/\Zf w' q/\Xj F' q.pa /\ ∀ b off s,q.pa=some ⟨b,off,s⟩->w.heap.size<=b/\kd w' b=some (some 3)
def Xx (q:Plc):PlcM:=⟨q.cls,q.page,q.idx,q.pages⟩
theorem Xkg (h:Zg F w R M) (who size:Int):Xf prog 138 #[Bw R,.int .i64 who,.int .i64 size] w
 (fun v w' => ∃ q:Plc,v = .tuple #[.agg (Xt q).toArray,.int .i64 (Cf R.c M who size)]/\Xx q=Bg R.c M who size/\Xf6 F w w' R (Af R.c M who size) q):=by
 have da:maxLen=9223372036854775807:=rfl;have hf:=Ye h.may;have db:=hf.size;have dc:=hf.n;have dd:=hf.most;have noq:∀ {F':Nat->Prop} {w':World} (c i j:Int),Zf w' ⟨c,i,j,none,0,[]⟩/\Xj F' none /\ ∀ b off s,(none:Option Addr)=some ⟨b,off,s⟩->w.heap.size<=b/\kd w' b=some (some 3):=fun c i j=>⟨⟨Rd.nil _ _ _,by simp⟩,⟨(fun _ _ _ e=>by cases e),(fun _ _ _ e=>by cases e)⟩⟩;refine ζe func138 ntmps138 ϱ (ζn ϱ fun b w1 e1 hb O de => ?_);have A:¬ F b:=fun d=>by have:=h.low b d; omega
 have bl:Xc F w w1:=O.gr;by_cases C:who<0
 ·have ac:Cf R.c M who size=1/\Bg R.c M who size=⟨0,0,0,[]⟩/\Af R.c M who size=M:=by
   unfold Cf Bg Af; rw [if_pos C,if_pos C,if_pos C]; exact ⟨rfl,rfl,rfl⟩
  rw [ac.1,ac.2.1,ac.2.2];refine ζy ϱ (ζb ϱ (ζs hb ϱ fun D P ad df => ?_));have h2:=h.note (h.grow O) (Yb hb) (by omega) A ad (by decide);exact ζR func138 P ϱ ⟨⟨0,0,0,none,0,[]⟩,rfl,rfl,F,h2,fun z d => .inl d,bl.since ad (fun z d e=>by omega),noq 0 0 0⟩
 ·refine ζf ϱ (ζv (XeL (h.grow O) size) ϱ fun D ae => ?_);have h2:=(h.grow O).grow ae;have P:=ae.heap' hb;have af:=O.trans ae;by_cases n:Y7 R.c M size=0
  ·have bm:¬ (size<1\/R.c.most<size)/\Cp R.c M size<=M.pl.free.length:=by
    unfold Y7 at n;split at n
    ·cases n
    ·split at n
     ·cases n
     ·refine ⟨by assumption,by omega⟩
   have J:¬ (Y7 R.c M size≠0):=fun h=>h n;refine ζF ϱ (by rw [n]; rfl) (ζl h2.obj ϱ (ζv (Mf R.p.ca R.p.cc R.c.classes size D h2.cls.1 (by omega)) ϱ fun w3 ag => ?_));have o:=h2.grow ag;have Q:=ag.heap' P;have a1:=af.trans ag;by_cases L:Xm R.c.classes size = -1
   ·have G:Cf R.c M who size=0/\Bg R.c M who size=⟨-1,(M.pl.free.getD 0 0:Nat),0,X3 (M.pl.free.take (Z5 size R.c.size).toNat).tail⟩/\Af R.c M who size=Dm M (Z5 size R.c.size).toNat:=by
     exact ⟨by unfold Cf; rw [if_neg C,if_neg J,if_pos L],by unfold Bg; rw [if_neg C,if_neg J,if_pos L],by unfold Af; rw [if_neg C,if_neg J,if_pos L]⟩
    rw [G.1,G.2.1,G.2.2];have cq:Cp R.c M size=Z5 size R.c.size:=by unfold Cp; rw [if_pos L]
    have dg:2<=Z5 size R.c.size:=by
     have h0:0<=(size - 1) / R.c.size:=YD (by omega) (by omega);have h9:(size - 1) / R.c.size<=size - 1:=YT _ (by omega);have e4:Qh size R.c.size=(size - 1) / R.c.size+1:=by unfold Qh; rw [if_neg (by omega)]
     unfold Z5;rw [e4,if_neg (by omega)];omega
    obtain ⟨many,b3⟩:=XD (show 0<=Z5 size R.c.size by omega);have dh:2<=many:=by omega
    have K:many<=M.pl.free.length:=by have:=bm.2; omega
    have di:M.pl.free.length<=1024:=by have:=h.pool.good.many; have:=h.pool.good.len; omega
    refine ζF ϱ (by rw [L]; rfl) (ζl o.obj ϱ (ζw (Xce size R.c.size w3 (by omega)) ϱ ?_));rw [b3,XA];have ah:¬ Ai R.P R.rb:=fun d=>h.rf (h.pf _ d);refine Xa.loop (α:=Nat × Value) (fun p => [(0,false,Bw R),(6,false,.pointer (some ⟨b,0,none⟩)),(13,false,p.2),(58,false,.int .i64 many),(59,false,.int .i64 p.1)])
     (fun p w'=>p.1<=many/\Xl w3.heap.size 3 1 w' p.2 p.1 ((X3 (M.pl.free.take p.1)).map (Value.int .i64))/\Zu w' R.P (Ab M.pl (M.shs.length:Nat) p.1)/\Xc (Ai R.P) w3 w') (fun p=>many - p.1) (0,.slice none 0 0) ⟨rfl,rfl,rfl,rfl,rfl,trivial⟩ ⟨XL _,⟨rfl,.inl ⟨rfl,rfl⟩⟩,o.pool,Xc.refl _ _⟩ ?_
    rintro ⟨i,v⟩ w4 ⟨hi,a4,ai,r⟩ ih;simp only at hi a4 ai
    refine ζa ϱ (ζg ϱ (fun aj => ?_) fun aj => ?_)
    ·have c0:i<many:=by simpa using aj
     have ba:i<M.pl.free.length:=by omega
     obtain ⟨q1,q2,q3,q4,q5⟩:=Lh (who:=(M.shs.length:Nat)) (by omega) h.pool.good i (by omega);have b4:(Ab M.pl (M.shs.length:Nat) i).free=M.pl.free[i]::M.pl.free.drop (i+1):=by rw [q2]; exact ZN ba
     obtain ⟨t1,t2,t3⟩:=Xam (who:=(M.shs.length:Nat)) (by omega) b4;have hn:=h.ok.n;have E:=r.heap o.obj ah;refine ζd 16 (Ai R.P) (by kernel_rfl) ϱ fun f=>δl f E ϱ (δl f E ϱ (Xd.turn1 f rfl fun w5 t => ?_));have hd:=Xap R.P _ (M.shs.length:Nat) w5 (ai.grow t);rw [t1,t2] at hd;rw [hn] at hd;refine Xq.call rfl hd.fn (Post:=fun v D=>v = .tuple #[.int .i64 (M.pl.free[i]:Nat),.int .i64 0]/\Zu D R.P (Ab M.pl (M.shs.length:Nat) (i+1))/\Xc (Ai R.P) w5 D) (fun h0=>hd.mono fun v D hp=>⟨h0.trans hp.2.2,hp.1,by rw [hn]; exact hp.2.1,hp.2.2⟩) ?_;rintro _ w6 _ ⟨rfl,al,u⟩;refine Xd.adv Xb f rfl (δn f ϱ fun w7 B=>Xa.buildSlice Xb rfl fun b8 T e8 U bb dj=>ζa ϱ ?_);have a3:Xc (Ai R.P) w4 T:=((t.gr.trans u).trans B.gr).trans bb.gr;have cx:=o.pool.lt;have a5:=a4.chg a3 (fun z d hP=>by
      have dk:=(World.ownsRow.lt a4 z d.symm).1;rcases hP with e | e <;> omega)
     have bo:w3.heap.size<=T.heap.size:=(r.trans a3).size;refine Xa.append (base:=w3.heap.size) (xs:=(X3 (M.pl.free.take i)).map (Value.int .i64)) (news := [.int .i64 (M.pl.free[i]:Nat)]) Xb rfl a5 bo (by simp) (Ho U) (by simp [Value.oneCell']) ⟨by omega,by show (i+1)*8<=_; omega⟩ fun v9 w9 c7 bc dl=>ζa ϱ (ζj ϱ ?_);exact ih (i+1,v9) _ _ ⟨c0,by
      have e:(X3 (M.pl.free.take (i+1))).map (Value.int .i64)=(X3 (M.pl.free.take i)).map (Value.int .i64) ++ [.int .i64 (M.pl.free[i]:Nat)]:=by
       rw [ZC,XB ba,XdG,XI]; rfl
      rw [e]; exact c7,(al.grow (B.trans bb)).chg bc (fun e=>by have:=(World.ownsRow.lt a5 _ e.symm).1; omega) (fun e=>by have:=(World.ownsRow.lt a5 _ e.symm).1; omega),(r.trans a3).since bc (fun z d e=>by have:=(World.ownsRow.lt a5 z e.symm).1; omega)⟩ (by simp only; omega) ⟨rfl,rfl,rfl,rfl,rfl,trivial⟩
    ·have bp:i=many:=by simp at aj; omega
     subst bp;have am:(M.pl.free.take i).length=i:=by rw [XR]; omega
     obtain ⟨g,cap,rfl,hg,d1,dm,c8,bd⟩:=Xac a4 am (by omega);have a6:¬ F g:=fun d=>by have:=o.low g d; omega
     have V:∀ {w':World},Rd .i64 w' (some ⟨g,0,none⟩) (X3 (M.pl.free.take i))->w'.cell? ⟨g,0+0,none⟩=some (.int .i64 (M.pl.free.getD 0 0:Nat)):=fun {w'} hr=>by
      obtain ⟨b',off',e',hc⟩:=hr 0 (by rw [C1]; omega);cases e'
      have e:(X3 (M.pl.free.take i)).getD 0 0=((M.pl.free.getD 0 0:Nat):Int):=by
       cases an:M.pl.free with
       |nil=>rw [an] at K; simp at K; omega
       |cons x y =>
        obtain ⟨j,rfl⟩:∃ j,i=j+1:=⟨i - 1,by omega⟩;rfl
      rw [e] at hc;exact hc
     have W:∀ {w':World},Rd .i64 w' (some ⟨g,0,none⟩) (X3 (M.pl.free.take i))->Rd .i64 w' (Qw (some ⟨g,0,none⟩) cap 1 1) (X3 (M.pl.free.take i).tail):=fun {w'} hr=>by
      have:=hr.shift (cap:=cap) (l:=1) (m:=i - 1) (by rw [C1]; omega) (by rw [C1]; omega);have e:((X3 (M.pl.free.take i)).drop 1).take (i - 1)=X3 (M.pl.free.take i).tail:=by
       have e1:(X3 (M.pl.free.take i)).drop 1=X3 (M.pl.free.take i).tail:=by unfold X3; rw [List.drop_one,List.map_tail]
       rw [e1];exact ZK (by rw [C1,QD]; omega)
      rw [e] at this;exact this
     have dn:¬ R.rb=R.lm:=fun e=>h.rf (e▸h.lf);have be:¬ g=R.lm:=fun e=>a6 (e▸h.lf);have E:=r.heap o.obj ah;refine ζd 10 (fun z=>z=R.lm) (by kernel_rfl) ϱ fun f=>δl f E ϱ (δi 0 f ϱ (δk f (V bd) ϱ (Xd.slice Xb f rfl (l:=1) (h:=i) (by first | rfl | omega | simp [Bv]) (by first | rfl | omega | simp [Bt]) (by omega) (by omega) rfl (Xd.turn1 f rfl fun w5 t => ?_))));have bf:=o.lg.chg r (fun z _ d => .inl (o.pf z d)) (fun d=>by
      have kl:=G7 o.lg;have kp:=o.pool.kds;rcases d with e | e
      ·exact Xs kl kp.1 (by simp) e
      ·exact Xs kl kp.2 (by simp) e)
     have a7:=bf.chg t (fun _ _ h=>h.elim) id;obtain ⟨m,hm,_⟩:=a7;have a7:=bf.chg t (fun _ _ h=>h.elim) id;refine Xq.mapset Xb f rfl (hm) (by first | (intro h; exact rfl) | (intro h; omega)) rfl fun w6 cb u dp=>δn f ϱ fun w7 B => ?_;have ao:kd w6 g=some (some 3):=Fa u (Fa t c8 id) be;have ap:Rd .i64 w6 (some ⟨g,0,none⟩) (X3 (M.pl.free.take i)):=(bd.chg t).far (fun b' off s e=>by cases e; exact be) u;have b7:∀ {w':World},kd w' g=some (some 3)->Kp (R.FX F) w' (Qw (some ⟨g,0,none⟩) cap 1 1):=fun {w'} hk b' off s e=>by
      obtain ⟨_,_,e'⟩:=XkJ e;cases e'
      exact ⟨hk,fun d=>d.elim a6 (fun hx=>by have:=(o.xl _ hx).1; omega)⟩
     have a0:(M.pl.free.take i).tail.length=i - 1:=by rw [QD,am]
     have aq:M.pl.free.getD 0 0 ∈ M.pl.free:=by
      cases an:M.pl.free with
      |nil=>rw [an] at K; simp at K; omega
      |cons x y=>simp
     have cc:Dh (R.FX F) w6 R.lm (M.lg ++ [(M.pl.free.getD 0 0,(M.pl.free.take i).tail)]):=a7.put (cap:=cap - 1) (a:=Qw (some ⟨g,0,none⟩) cap 1 1) u (fun m' h'=>by
      rw [h'.uniq hm,a0];exact cb) (fun e he e'=>by
       have h8:=(h.ok.lg e.1 (Hw he (by simp))).2;have h9:=(h.pool.good.free _ aq).2;rw [e'] at h8;omega) (W ap) (b7 ao)
     have bg:=G7 a7;have au:=ai.grow t;have al:Zu w6 R.P (Ab M.pl (M.shs.length:Nat) i):=au.chg u (Xs au.kds.1 bg (by simp)) (Xs au.kds.2 bg (by simp));have cd:=h.ok.big h.pool.good (show 1<=i by omega) K;have h6:=o.swap (pl':=Ab M.pl (M.shs.length:Nat) i) (lg':=M.lg ++ [(M.pl.free.getD 0 0,(M.pl.free.take i).tail)]) {cd with tot:=h.ok.tot} (((r.mono fun _ _ h => .inl h).trans t.gr).trans (u.mono fun _ _ h => .inr h)) al cc (fun k x hx ce=>Xd5 (by omega) h.pool.good K (by have:=(h.ok.each k x hx).1; omega) ce);have h7:=h6.grow B;refine ζl h7.obj ϱ (ζj ϱ (ζj ϱ (ζj ϱ (ζj ϱ ?_))));rw [show ((i:Nat):Int)*4+(((i:Nat):Int) - 1)*1=(i:Int)*4+((i:Int) - 1) from by omega];refine ζc ϱ (Td h7 ((i:Int)*4+((i:Int) - 1))) ?_;rintro _ T ⟨h8,a8⟩;refine ζa ϱ ?_;replace h8:Zg F T R (Dm M i):=h8;have a9:=r.heap Q (fun d=>A (o.pf b d));have cg:=B.heap' (u.heap (t.heap' a9) (fun e=>A (e▸h.lf)));have U:=a8.heap cg A;have av:=(ap.chg B).far (fun b' off s e=>by cases e; exact a6) a8;have bs:=Fa a8 (Fa B ao id) a6;have dq:¬ g=b:=fun e=>by
      have:=Yb U;rw [<- e,bs] at this
      revert this; decide
     have d6:=Xg U;have ch:∀ w',Xc Xe T w'->Xf prog 68 #[.slice (Qw (some ⟨g,0,none⟩) cap 1 1) (i - 1) (cap - 1)] w' (fun v D=>Xc (fun z=>z=b) w' D/\Xc Xe T D /\ ∃ n c2,v = .slice (some ⟨n,0,none⟩) (i - 1) c2/\T.heap.size<=n/\Rd .i64 D (some ⟨n,0,none⟩) (X3 (M.pl.free.take i).tail)/\kd D n=some (some 3)):=fun w' ax=>by
      have hd:=XkN (Qw (some ⟨g,0,none⟩) cap 1 1) (cap - 1) (X3 (M.pl.free.take i).tail) w' ((W av).chg ax) (by rw [C1,a0]; omega) (by unfold Qw; split <;> exact ⟨_,rfl⟩);rw [C1,a0] at hd;exact hd.mono fun v D ⟨n,c2,q1,q2,q3,q4,q5⟩=>⟨q5.gr,ax.trans q5,n,c2,q1,by have:=ax.size; omega,q3,q4⟩
     refine ζd 9 (fun z=>z=b) (by kernel_rfl) ϱ fun f=>δi 0 f ϱ (δk f (V av) ϱ (Xd.slice Xb f rfl (l:=1) (h:=i) (by first | rfl | omega | simp [Bv]) (by first | rfl | omega | simp [Bt]) (by omega) (by omega) rfl (Xd.callQ f rfl rfl (ch) ?_)));rintro _ w9 _ ⟨ay,n,c2,rfl,dr,ci,cj⟩;refine Xd.adv Xb f rfl (Xd.build Xb f rfl rfl (Xd.turn1 f rfl fun ds H => ?_));have az:=(ay.trans H).heap' U;refine Xq.store Xb f rfl az (by first | (intro h; exact rfl) | (intro h; omega)) rfl rfl rfl fun dt bt N d7=>δn f ϱ fun ck I => ?_;have b0:n≠b:=by omega
     have cl:=h.note (h8.grow (ay.trans H)) (Yb az) (by omega) A N (by decide);have cm:=cl.grow I;have bu:=I.heap' bt;have bv:=(((ci.chg H).far (S:=fun z=>z=b) (fun b' off s e=>by cases e; exact b0) N).chg I);have cn:Xc F w T:=(((((a1.gr.trans (r.mono fun z _ d=>o.pf z d)).trans t.gr).trans (u.mono fun z _ e=>e▸h.lf)).trans B.gr).trans a8);have b9:Xc F w ck:=((cn.trans ((ay.trans H).gr)).since N (fun z d e=>by omega)).trans I.gr;exact ζR func138 bu ϱ ⟨⟨-1,(M.pl.free.getD 0 0:Nat),0,some ⟨n,0,none⟩,c2,X3 (M.pl.free.take i).tail⟩,by show Value.tuple #[Value.agg _,_]=Value.tuple #[Value.agg (#[_,_,_,Value.slice _ (X3 (M.pl.free.take i).tail).length _]:Array Value),_]; rw [C1,a0],rfl,F,cm,fun z d => .inl d,b9,⟨bv,by rw [C1,a0]; omega⟩,fun b' off s e d=>by cases e; have:=h.low _ d; omega,fun b' off s e=>by cases e; exact ⟨by omega,Fa I (Fa N (Fa H cj id) b0) id⟩⟩
   ·have G:Cf R.c M who size=Ew M (Xm R.c.classes size) who/\Bg R.c M who size=⟨Xm R.c.classes size,Do M (Xm R.c.classes size) who,Dn M (Xm R.c.classes size) who,[]⟩/\Af R.c M who size=Qb M (Xm R.c.classes size) who:=by
     exact ⟨by unfold Cf; rw [if_neg C,if_neg J,if_neg L],by unfold Bg; rw [if_neg C,if_neg J,if_neg L],by unfold Af; rw [if_neg C,if_neg J,if_neg L]⟩
    rw [G.1,G.2.1,G.2.2];refine ζY ϱ (by simpa using L) (ζc ϱ (XeN o (Xm R.c.classes size) who) ?_);rintro _ w4 ⟨rfl,F4,h4,bh,r⟩;refine ζa ϱ ?_;have bw:¬ F4 b:=fun d=>(bh b d).elim A (fun h=>by have:=Xg Q; omega);have a9:=r.heap Q A;refine ζb ϱ (ζs a9 ϱ fun w5 cp bi du => ?_);have h5:=h.note h4 (Yb a9) (by omega) bw bi (by decide);exact ζR func138 cp ϱ ⟨⟨Xm R.c.classes size,Do M (Xm R.c.classes size) who,Dn M (Xm R.c.classes size) who,none,0,[]⟩,rfl,rfl,F4,h5,(fun z d=>(bh z d).imp id (fun h=>by have:=a1.size; omega)),(a1.gr.trans r).since bi (fun z d e=>by omega),noq _ _ _⟩
  ·have b1:Cf R.c M who size=Y7 R.c M size/\Bg R.c M who size=⟨0,0,0,[]⟩/\Af R.c M who size=M:=by
    unfold Cf Bg Af; rw [if_neg C,if_neg C,if_neg C,if_pos n,if_pos n,if_pos n]; exact ⟨rfl,rfl,rfl⟩
   rw [b1.1,b1.2.1,b1.2.2];refine ζY ϱ (by simpa using n) (ζb ϱ (ζs P ϱ fun w3 Q b2 dv => ?_));have o:=h.note h2 (Yb P) (by omega) A b2 (by decide);exact ζR func138 Q ϱ ⟨⟨0,0,0,none,0,[]⟩,rfl,rfl,F,o,fun z d => .inl d,af.gr.since b2 (fun z d e=>by omega),noq 0 0 0⟩
theorem Xh1 (h:Dh F w lm lg):∃ m,Yq w lm m/\(∀ n:Int,Cm lg n=none->A8 m n=none) /\ ∀ (n:Nat) r,(n,r) ∈ lg -> ∃ a cap,A8 m n=some (.slice a r.length cap)/\Rd .i64 w a (X3 r)/\Kp F w a:=by
 obtain ⟨m,b,j,c,d⟩:=h;exact ⟨m,b,fun n f=>d n fun e g=>Sc f e g,fun n r i=>c _ i⟩
theorem Xkc (h:Zg F w R M) (q:Plc) (hq:Zf w q):Xf prog 144 #[Bw R,.agg (Xt q).toArray] w
 (fun v w'=>v = .int .i64 (Gh M (Xx q))/\E3 F w w' R (Yv M (Xx q))):=by
 refine ζe func144 ntmps144 ϱ (ζn ϱ fun b w1 e1 C W c1 => ?_);have b1:¬ F b:=fun c=>by have:=h.low b c; omega
 have Q:=h.grow W;replace C:w1.heap[b]? = some (.cells (Xt q).toArray 98 (0,0)):=C;have O:Xc F w w1:=W.gr;refine ζl C ϱ ?_;by_cases D:q.cls = -1
 ·have eD:Gh M (Xx q)=(match Cm M.lg q.page with | none=>1 | some r=>if X3 r=q.pages then 0 else 1)/\Yv M (Xx q)=(match Cm M.lg q.page with | none=>M | some r=>if X3 r=q.pages then Hf M q.page.toNat r else M):=by
   unfold Gh Yv Xx;exact ⟨if_neg (fun h=>h D),if_neg (fun h=>h D)⟩
  rw [eD.1,eD.2];refine ζF ϱ (by simp [D]) ?_;obtain ⟨m,hm,b3,a6⟩:=Xh1 Q.lg;cases hg:Cm M.lg q.page with
  |none =>
   simp only
   exact ζd 12 Xe (by kernel_rfl) ϱ fun f=>δl f Q.obj ϱ (δl f C ϱ (Xd.lookup Xb f rfl (hm) (by first | (intro b h; cases h; assumption) | (intro b h hs; cases h; omega)) ((show A1 m _ _ true = .tuple #[.slice none 0 0,.bool false] from by unfold A1; rw [b3 _ hg]; rfl)) rfl (δn f ϱ fun w2 d=>ζy ϱ (ζr func144 ϱ ⟨rfl,.of (Q.grow d) (O.trans d.gr)⟩))))
  |some r =>
   simp only
   obtain ⟨n,hn,j⟩:=La hg;obtain ⟨a,cap,a8,ac,a9⟩:=a6 n r j;refine ζd 12 Xe (by kernel_rfl) ϱ fun f=>δl f Q.obj ϱ (δl f C ϱ (Xd.lookup Xb f rfl (hm) (by first | (intro b h; cases h; assumption) | (intro b h hs; cases h; omega)) ((show A1 m _ _ true = .tuple #[.slice a r.length cap,.bool true] from by unfold A1; rw [hn,a8]; rfl)) rfl (δn f ϱ fun w2 d=>ζf ϱ ?_)));have h2:=Q.grow d;have ad:=d.heap' C;have c2:r.length<=1024:=by
    obtain ⟨_,_,p3,_⟩:=Nf (l:=n::r) h.pool.good (by
     obtain ⟨A,B,eA,_⟩:=Mu h.ok.nd j;have e:Yx M.lg=Yx A++((n::r)++Yx B):=by rw [eA,Ja]; rfl
     have t:=h.ok.nd;rw [e] at t;exact (List.nodup_append.1 (List.nodup_append.1 t).2.1).1) (fun m p=>by
     obtain ⟨D,g2⟩:=h.ok.lg m (Hw j p);exact ⟨D,by omega⟩)
    have:=Mq h.pool.good;simp only [XP] at p3;omega
   have hd:=XkQ a q.pa cap q.pc (X3 r) q.pages w2 (ac.chg d) ((hq.rd.chg W).chg d) (by rw [C1]; omega);rw [C1] at hd;refine ζl ad ϱ (ζv hd ϱ fun w3 E => ?_);have G:=h2.grow E;have ae:=E.heap' ad;have a0:=d.trans E;by_cases S:X3 r=q.pages
   ·rw [if_pos S,if_pos S,hn,XA];refine ζF ϱ (by rw [decide_eq_true S]; rfl) ?_;have bu:¬ R.rb=R.lm:=fun e=>h.rf (e▸h.lf);have b8:¬ b=R.lm:=fun e=>b1 (e▸h.lf);refine ζd 7 (fun z=>z=R.lm) (by kernel_rfl) ϱ fun f=>δl f G.obj ϱ (δl f ae ϱ (Xd.turn1 f rfl fun w4 y => ?_));have T:=G.grow y;obtain ⟨m4,af,_⟩:=T.lg;refine Xq.mapdel Xb f rfl (af) (by first | (intro h; exact rfl) | (intro h; omega)) rfl fun w5 b9 H c3=>δn f ϱ fun w6 ag => ?_;have ba:=ag.heap' (H.heap (y.heap' ae) b8);refine ζl ba ϱ (Xa.buildSlice Xb rfl fun b7 w7 e7 bb bc c4=>ζa ϱ (Xa.buildSlice Xb rfl fun ob w8 e8 ah ai c5=>ζa ϱ ?_));have bd:Dh (R.FX F) w5 R.lm (Cz M.lg n):=T.lg.del H (fun m' h'=>by
     rw [h'.uniq af,<- hn];exact b9)
    have au:Xc Xe w6 w8:=bc.trans ai;have u:Xc Xe w5 w8:=ag.trans au;have be:=bd.chg u (fun _ _ h=>h.elim) id;have a1:=G7 T.lg;have bf:Zu w8 R.P M.pl:=(T.pool.chg H (Xs T.pool.kds.1 a1 (by simp)) (Xs T.pool.kds.2 a1 (by simp))).grow u;have bg:Rd .i64 w5 a (X3 r):=(((ac.chg d).chg E).chg y).far (fun b' off s e=>by
     have hk:=(a9 b' off s e).1;exact Xs (Fa y (Fa E (Fa d hk id) id) id) a1 (by simp)) H
    have bi:=bg.chg u
    let ls:List Sl := [⟨some ⟨b7,0,none⟩,1,[(n:Int)]⟩,⟨a,cap,X3 r⟩]
    have a2:Cb ls=X3 (n::r):=by show [(n:Int)]++(X3 r ++ [])=_; rw [ZT]; rfl
    have bj:(Cb ls).length=r.length+1:=by rw [a2,C1]; rfl
    have aj:=XkO ob ls w8 (fun i U=>by
     replace U:i<2:=U;rcases (show i=0\/i=1 by omega) with rfl | rfl
     ·rw [Yi ah]; rfl
     ·rw [Yi ah];show some (Value.slice a r.length cap)=some (Value.slice a (X3 r).length cap)
      rw [C1]) (fun l hl=>by
     rcases List.mem_cons.1 hl with rfl | hl
     ·have av:=ai.heap' bb;exact Rd.of_cells fun i U=>by
       have:i=0:=by replace U:i<1:=U; omega
       subst this;rw [Yi av,hn]; rfl
     ·rw [ZM] at hl; subst hl;exact bi) (by show 2<=1024; omega) (by omega) (by omega)
    rw [bj] at aj;refine ζc ϱ (aj) ?_;rintro _ w9 ⟨g,c9,rfl,c6,ak,a3⟩;refine ζa ϱ ?_;rw [a2] at ak;have bl:=bf.grow a3;have I:Xc (fun z=>Ai R.P z\/z=R.lm) w3 w9:=(((y.gr.trans (H.mono fun _ _ h => .inr h)).trans u.gr).trans a3.gr);have al:∀ z,(Ai R.P z\/z=R.lm)->F z:=fun z c=>c.elim (h.pf z) (fun e=>e▸h.lf);have ab:=I.heap G.obj (fun c=>h.rf (al _ c));have aw:¬ Ai R.P R.rb:=fun c=>h.rf (h.pf _ c);refine Xa.loop (α:=Nat) (fun i => [(0,false,Bw R),(5,false,.slice a r.length cap),(54,false,.slice (some ⟨g,0,none⟩) (r.length+1) c9),(55,false,.int .i64 ((r.length+1:Nat):Int)),(56,false,.int .i64 i)])
     (fun i w'=>i<=r.length+1/\Zu w' R.P (Aj M.pl ((n::r).take i))/\Xc (Ai R.P) w9 w') (fun i=>r.length+1 - i) 0 ⟨rfl,rfl,rfl,rfl,rfl,trivial⟩ ⟨XL _,bl,Xc.refl _ _⟩ ?_
    rintro i bm ⟨U,J,o⟩ ih;refine ζa ϱ (ζg ϱ (fun a4 => ?_) fun a4 => ?_)
    ·have am:i<r.length+1:=by have:=of_decide_eq_true a4; omega
     have K:i<(n::r).length:=am;obtain ⟨b',off',e',P⟩:=ak i (by rw [C1]; exact K);cases e'
     have ev:(X3 (n::r)).getD i 0=((n::r)[i]:Int):=by
      unfold X3;rw [XC,XN,XB K];rfl
     rw [ev] at P;have V:=o.cell P (fun c=>by
      have:=G.pool.lt;have:=y.size;have:=u.size;rcases c with e | e <;> omega)
     refine ζi i ϱ (ζk ϱ V ϱ (ζl (o.heap ab aw) ϱ (ζc ϱ (Xao R.P _ (((n::r)[i]:Nat):Int) bm J) ?_)));rintro _ an ⟨_,ax,L⟩;refine ζa ϱ (ζj ϱ ?_);exact ih (i+1) _ _ ⟨am,by
      have e:Aj M.pl ((n::r).take (i+1))=Ge (Aj M.pl ((n::r).take i)) (((n::r)[i]:Nat):Int):=by
       rw [ZC,XB K];unfold Aj;rw [List.foldl_append];rfl
      rw [e]; exact ax,o.trans L⟩ (by omega) ⟨rfl,rfl,rfl,rfl,rfl,trivial⟩
    ·have bn:i=r.length+1:=by have:=of_decide_eq_false a4; omega
     subst bn;have etk:(n::r).take (r.length+1)=n::r:=ZI (l:=n::r);rw [etk] at J;obtain ⟨bo,_⟩:=h.ok.gone h.pool.good j;have ay:=(be.chg a3 (fun _ _ h=>h.elim) id).chg o (fun z _ c => .inl (h.pf z c)) (fun c=>by
      have ao:=G7 G.lg;have kp:=G.pool.kds;rcases c with e | e
      ·exact Xs ao kp.1 (by simp) e
      ·exact Xs ao kp.2 (by simp) e)
     have t:(n::r).Nodup:=by
      obtain ⟨A,B,eA,_⟩:=Mu h.ok.nd j;have e:Yx M.lg=Yx A++((n::r)++Yx B):=by rw [eA,Ja]; rfl
      have t:=h.ok.nd;rw [e] at t;exact (List.nodup_append.1 (List.nodup_append.1 t).2.1).1
     have N:∀ m ∈ n::r,m<M.pl.own.length/\M.pl.own.getD m 0=(M.shs.length:Int):=fun m p=>h.ok.lg m (Hw j p);have ap:=G.swap (pl':=Aj M.pl (n::r)) (lg':=Cz M.lg n) {bo with tot:=h.ok.tot} (I.trans (o.mono fun _ _ h => .inl h)) J ay (fun k x hx bq=>by
      have hk:k<M.shs.length:=(List.getElem?_eq_some_iff.1 hx).1;have c7:=(h.ok.each k x hx).1;exact Xd4 h.pool.good t (fun m p=>⟨(N m p).1,by have:=(N m p).2; omega⟩) bq (fun m p=>by have:=(N m p).2; omega))
     refine ζl ap.obj ϱ (ζj ϱ (ζj ϱ (ζj ϱ (ζj ϱ ?_))));rw [show ((r.length:Nat):Int)*1=(r.length:Int) from by omega];refine ζc ϱ (Td ap ((((r.length:Nat):Int)+1)*4+(r.length:Int))) ?_;rintro _ an ⟨a5,L⟩;refine ζa ϱ ?_;replace a5:Zg F an R (Hf M n r):=a5;have az:Xc F w w3:=O.trans a0.gr;exact ζr func144 ϱ ⟨rfl,.of a5 (((az.trans (I.mono fun z _ c=>al z c)).trans (o.mono fun z _ c=>h.pf z c)).trans L)⟩
   ·rw [if_neg S,if_neg S];exact ζY ϱ (by rw [decide_eq_false S]; rfl) (ζr func144 ϱ ⟨rfl,.of G (O.trans a0.gr)⟩)
 ·have eD:Gh M (Xx q)=Iu M q.cls q.page q.idx/\Yv M (Xx q)=Qq M q.cls q.page q.idx:=by
   unfold Gh Yv Xx;exact ⟨if_pos D,if_pos D⟩
  rw [eD.1,eD.2];refine ζY ϱ (by simpa using D) (ζl C ϱ (ζl C ϱ (ζl C ϱ ?_)));refine ζc rfl (XeM Q q.cls q.page q.idx) ?_;rintro _ w2 ⟨rfl,hT⟩;exact ζa ϱ (ζr func144 ϱ ⟨rfl,E3.trans (fun z c => .inl c) O hT⟩)
theorem Qe.note {S:Sh} {pl:PlM} (h:Qe w S G x pl) {eb:Nat} (hk:kd w eb=some (some t)) (hc:Xc (fun z=>z=eb) w w') (htb:0≠eb)
 (ht:t≠227/\t≠280/\t≠224/\t≠290/\t≠275/\t≠292/\t≠286/\t≠312):Qe w' S G x pl:=by
 have d:∀ {t':Nat},t≠t'->some (some t)≠some (some t'):=fun h e=>h (Option.some.inj (Option.some.inj e));have kp:=h.pool.kds;have ap:=h.at'.apart hk ht.2.2;exact ⟨h.ok,h.pos,h.of,h.at'.chg hc (fun z e=>e▸ap.1) (fun z e=>e▸ap.2) htb,h.pool.chg hc (Xs kp.1 hk (Ne.symm (d ht.1))) (Xs kp.2 hk (Ne.symm (d ht.2.1)))⟩
theorem Qe.own {S:Sh} {pl:PlM} (h:Qe w S G x pl) (ho:Xl base 161 1 w v m xs) (hc:Xc (Hz v) w w') (htb:0<base):Qe w' S G x pl:=by
 rcases ho.2 with ⟨rfl,_⟩ | ⟨g,cap,cur,rfl,b,a,_⟩
 ·exact h.grow (hc.mono fun z _ e=>by cases e)
 ·exact h.note (Yb a) (hc.mono fun z _ e=>Option.some.inj e) (by omega) (by decide)
def Fe (c:Conf) (n:Nat):List Sm:=(List.range n).map fun k=>O3 (k:Nat) (Am c (k:Nat)).toNat
def G9 (c:Conf) (tot:Int):RmM:=⟨Fe c c.classes.length,C2 c.pages.toNat,[],tot⟩
theorem M9 (h:(Fe c n)[k]? = some x):k<n/\x=O3 (k:Nat) (Am c (k:Nat)).toNat:=by
 unfold Fe at h;rw [XN,YV] at h;obtain ⟨j,d,e⟩:=h;obtain ⟨a,b⟩:=List.getElem?_eq_some_iff.1 d;simp only [YC] at a;rw [List.getElem_range] at b;subst b;exact ⟨a,e.symm⟩
theorem XdH (c:Conf):∀ n,H9 (Fe c n)=0
 |0=>rfl
 |n+1=>by
  have:=XdH c n;unfold H9 Fe at *;rw [Y2,XI,XI,List.sum_append,this];rfl
theorem U0 (h:Zb c=true) (hk:k<c.classes.length):1<=Am c k/\Am c k<=512:=by
 have f:=(Ye h).size;have a:Bb c.classes c.size=true:=by
  unfold Zb at h;simp only [XK,decide_eq_true_eq] at h;exact h.1.1.1.1.1.2
 obtain ⟨d,_,g⟩:=Rw a k hk;unfold Am;rw [if_pos (by omega),XA,T5 (by omega) (by omega)];constructor
 ·exact (Int.le_ediv_iff_mul_le (by omega)).2 (by omega)
 ·have i:c.size / c.classes.getD k 0<=c.size / 8:=by
   refine Int.le_ediv_of_mul_le (by omega) ?_;have j:=Int.ediv_mul_le c.size (b:=c.classes.getD k 0) (by omega);have e:0<=c.size / c.classes.getD k 0:=YD (by omega) (by omega);have l:=Int.mul_le_mul_of_nonneg_left d e;omega
  omega
theorem Xiu (h:Zb c=true) {tot:Int} (ht:0<=tot/\tot<=4611686018427387904):(G9 c tot).Ok c:=by
 have e:=(Ye h).pages;refine ⟨by show (Fe c _).length=_; unfold Fe; simp,fun k x a => ?_,?_,(fun m b=>by cases b),YA,?_,ht⟩
 ·obtain ⟨d,rfl⟩:=M9 a;have:=U0 h d;exact ⟨rfl,by show (((Am c k).toNat:Nat):Int)=_; omega⟩
 ·show (((List.replicate c.pages.toNat (-1:Int)).length:Nat):Int)=_
  rw [XH]; omega
 ·show Zh (C2 c.pages.toNat)=H9 (Fe c _)+0
  rw [XdH];exact Ha _
theorem Xkd (c:Conf) (p:Y4) (mo:Option Nat) (tot lap:Int) (X:Nat->Prop) (w:World) (hc:Yp w c p) (ht:Az w) (hX:∀ z,X z->z<w.heap.size/\mo≠some z) (hmo:∀ b,mo=some b->Ax w b tot lap/\Al (fun z=>z=b) w p.ca c.classes/\Al (fun z=>z=b) w p.ka c.keep) (htot:0<=tot/\tot<=4611686018427387904) :
 Xf prog 71 #[.agg (Zl c p).toArray,H5 mo] w (fun v w'=>Xc Xe w w'/\if Zb c=true then ∃ F R,R.c=c/\R.p=p/\R.mo=mo/\v = .tuple #[Bw R,.int .i64 0]/\Zg F w' R (G9 c tot)/\(∀ z,F z->w.heap.size<=z\/mo=some z)/\R.lap=lap/\R.X=X else v = .tuple #[.pointer none,.int .i64 1]):=by
 have c9:maxLen=9223372036854775807:=rfl;refine ζe func71 ntmps71 ϱ (ζn ϱ fun cb w1 e1 ao a8 ca => ?_);refine ζl ao ϱ (ζv (Vh c p w1 (hc.chg a8)) ϱ fun w2 T => ?_);have a9:=T.heap' ao;by_cases A:Zb c=true
 ·have em:Be c=0:=by unfold Be; rw [if_pos A]
  have hf:=Ye A;have cc:=hf.n;have cd:=hf.pages;rw [em];simp only [A,if_true];refine ζf ϱ (ζl a9 ϱ ?_);obtain ⟨N,hN⟩:=XD (show 0<=c.pages by omega);rw [hN];refine ζc ϱ (Xi0 N w2 (by omega)) ?_;rintro _ w3 ⟨P,rfl,⟨ce,cf⟩,aq,aa⟩;have ab:=aa.heap' a9;have bs:=aq.lt;refine ζa ϱ (ζl ab ϱ (Xa.mkmap rfl fun lm w4 e4 bc ac cg=>ζa ϱ (ζb ϱ (ζn ϱ fun rb K e5 ar U ch => ?_))));have ci:=T.size;have cj:=aa.size;have ad:=U.heap' (ac.heap' ab);have L:=(((a8.trans T).trans aa).trans ac).trans U;have bt:0<w.heap.size:=World.block_lt_of_cell? w _ (ht 0 (by decide));have bd:Zu K P (C2 N):=(aq.grow ac).grow U;refine Xa.loadb Xb rfl ad rfl rfl ?_;refine Xa.loop (α:=Nat × Value × List Sh) (fun x => [(2,false,.pointer (some ⟨cb,0,none⟩)),(7,false,D5 P),(8,false,.int .i64 0),(9,false,.pointer (some ⟨rb,0,none⟩)),(32,false,.int .i64 c.classes.length),(33,false,.int .i64 x.1)])
   (fun x w'=>x.1<=c.classes.length/\x.2.2.length=x.1/\w'.heap[rb]? = some (.cells (Zl c p ++ [H5 mo,D5 P,x.2.1,.map (some lm)]).toArray 166 (0,0))/\Xl K.heap.size 161 1 w' x.2.1 x.1 (x.2.2.map B4) /\
    (∀ (k:Nat) (S:Sh),x.2.2[k]? = some S->S.P=P/\(∀ G,Qe w' S G (O3 (k:Nat) (Am c (k:Nat)).toNat) (C2 N)) /\ ∀ G z,Y1 S G [] z->K.heap.size<=z/\z<w'.heap.size) /\
    (∀ (j k:Nat) (S S':Sh),j<k->x.2.2[j]? = some S->x.2.2[k]? = some S' -> ∀ G G' z,Y1 S G [] z -> ¬ Y1 S' G' [] z)/\Xc (fun z=>z=rb) K w') (fun x=>c.classes.length - x.1) (0,.slice none 0 0,[]) ⟨rfl,rfl,rfl,rfl,rfl,rfl,trivial⟩ ⟨XL _,rfl,ar,⟨rfl,.inl ⟨rfl,rfl⟩⟩,(fun k S h=>by cases h),(fun j k S S' _ h=>by cases h),Xc.refl _ _⟩ ?_
  rintro ⟨i,v,ls⟩ J ⟨hi,ae,C,V,n,D,r⟩ ih;simp only at hi ae C V n D
  have f:Xc Xe w J:=L.since r (fun z hz e=>by omega);have au:Zu J P (C2 N):=bd.chg r (by omega) (by omega);refine ζa rfl ?_;refine Xa.fork Xb rfl rfl rfl (fun af => ?_) (fun af => ?_)
  ·have ag:i<c.classes.length:=by have:=of_decide_eq_true af; omega
   have ck:=U0 A ag;obtain ⟨bk,ah⟩:=XD (show 0<=Am c i by omega);refine Xa.loads Xb rfl (r.heap ad (by omega)) rfl rfl ?_;refine ζc rfl (Xcn c p (i:Nat) J (hc.chg f)) ?_;rintro _ w7 ⟨rfl,W⟩;refine ζa rfl ?_;rw [ah];refine ζc rfl (Xkx P (C2 N) (i:Nat) bk w7 (ht.grow (f.trans W)) (by omega) (by omega) (au.grow W)) ?_;rintro _ w8 ⟨S,be,rfl,av,d,aw⟩;refine ζa rfl ?_;have ai:=W.trans aw;refine Xa.loadb Xb rfl (ai.heap' C) rfl rfl ?_;refine Xa.buildSlice Xb rfl ?_;intro b9 w9 e9 bf ax cl;refine ζa rfl ?_;have t:=ai.trans ax;have a0:=V.chg t (fun _ _ h=>h);have bx:=r.size;have bz:=t.size;refine Xa.append (base:=K.heap.size) (xs:=ls.map B4) (news := [B4 S]) Xb rfl a0 (by omega) (by simp) (Ho bf) (by simp [Value.oneCell']) ⟨by omega,by show (i+1)*8<=_; omega⟩ ?_;intro v' cm M E c0;refine ζa rfl ?_;have bo:=Xg ar;have b4:¬ Hz v rb:=fun e=>by have:=(World.ownsRow.lt a0 _ e.symm).1; omega
   have a4:=E.heap (t.heap' C) b4;obtain ⟨g',cap',cur',rfl,_⟩:=M.form (by omega);refine Xa.store Xb rfl a4 rfl rfl ?_;intro aj H O c1;refine ζa rfl ?_;replace H:aj.heap[rb]? = some (.cells (Zl c p ++ [H5 mo,D5 P,.slice (some ⟨g',0,none⟩) (i+1) cap',.map (some lm)]).toArray 166 (0,0)):=H;refine Xa.arith Xb rfl (w64 (by omega)) rfl ?_;have bp:=E.size;have ay:∀ {S':Sh} {G:Nat->Pg} {x:Sm} {pl:PlM},Qe w9 S' G x pl->Qe aj S' G x pl:=fun h=>(h.own a0 E (by have:=L.size; omega)).note (Yb a4) O (by have:=L.size; omega) (by decide);have am:Xc (fun z=>z=rb) K aj:=((r.trans t.gr).since E (fun z hz e=>by have:=(World.ownsRow.lt a0 _ e.symm).1; omega)).trans O;have c2:=aw.size;have c3:=W.size;exact ih (i+1,.slice (some ⟨g',0,none⟩) (i+1) cap',ls ++ [S]) _ _ ⟨ag,by simp [ae],H,by
    have:=M.chg O (fun z hz e=>by
     subst e;have:=(World.ownsRow.lt M _ hz.symm).1; omega)
    simpa using this,fun k S' m=>by
    by_cases e:k<ls.length
    ·rw [XV e] at m;obtain ⟨a1,a2,a3⟩:=n k S' m;exact ⟨a1,fun G=>ay ((a2 G).grow t),fun G z hz=>by obtain ⟨b1,b2⟩:=a3 G z hz; exact ⟨b1,by omega⟩⟩
    ·rw [ZQ (by omega)] at m;have e2:k=ls.length:=by
      have:=(List.getElem?_eq_some_iff.1 m).1;simp only [List.length_singleton] at this;omega
     subst e2;simp only [Nat.sub_self,List.getElem?_cons_zero,Option.some.injEq] at m;subst m;refine ⟨be,fun G=>ay ?_,fun G z hz => ?_⟩
     ·rw [ae,ah,XA]; exact (d G).grow ax
     ·have g1:=av G z hz;have g2:=(fun G=>(d G).foot_lt) G z (.inl hz);exact ⟨by omega,by omega⟩,fun j k S1 S2 a5 h1 h2 G G' z hz=>by
    by_cases e:k<ls.length
    ·rw [XV e] at h2;rw [XV (by omega)] at h1;exact D j k S1 S2 a5 h1 h2 G G' z hz
    ·rw [ZQ (by omega)] at h2;have e2:k=ls.length:=by
      have:=(List.getElem?_eq_some_iff.1 h2).1;simp only [List.length_singleton] at this;omega
     subst e2;simp only [Nat.sub_self,List.getElem?_cons_zero,Option.some.injEq] at h2;subst h2;rw [XV a5] at h1;have g1:=((n j S1 h1).2.2 G z hz).2;exact fun u=>by have:=av G' z u; omega,am⟩ (by simp only; omega) ⟨rfl,rfl,rfl,rfl,rfl,rfl,trivial⟩
  ·have bj:i=c.classes.length:=by have:=of_decide_eq_false af; omega
   subst bj;obtain ⟨g,cap,cur,rfl,cn,az,_⟩:=V.form (by omega);have co:=Xg az;have c6:=r.size
   let q:Nat->Pg:=fun _=>⟨0,0,0⟩
   let R:Rm:=⟨rb,c,p,mo,P,g,cap,lm,fun k=>ls.getD k ⟨0,0,⟨0,0,0⟩,P⟩,lap,X⟩
   let F:Nat->Prop:=fun z=>(∃ (k:Nat) (S:Sh),ls[k]? = some S/\Y1 S q [] z)\/Ai P z\/z=lm\/mo=some z
   have o:∀ z,F z->(w.heap.size<=z/\z<J.heap.size)\/mo=some z:=fun z hz=>by
    rcases hz with ⟨k,S,d,hz⟩ | hz | hz | hz
    ·obtain ⟨b1,b2⟩:=(n k S d).2.2 q z hz;exact .inl ⟨by omega,b2⟩
    ·rcases hz with e | e <;> exact .inl ⟨by omega,by omega⟩
    ·exact .inl ⟨by omega,by omega⟩
    ·exact .inr hz
   have Q:∀ b,mo=some b->b<w.heap.size:=fun b B=>by
    obtain ⟨A,_⟩:=hmo b B;exact Xg A.1
   have ak:∀ {a:Option Addr} {l:List Int},Rd .i64 w a l->(∀ b,mo=some b->Al (fun z=>z=b) w a l)->Al F J a l:=fun {a l} hr B=>⟨hr.chg f,fun hl b off s e hz=>by
    have ag:=hr.block hl e;rcases o b hz with ⟨h,_⟩ | h
    ·omega
    ·exact (B b h).2 hl b off s e rfl⟩
   have a6:∀ (k:Nat) (S:Sh),ls[k]? = some S->R.S k=S:=fun k S h=>by
    show ls.getD k _=S
    rw [XC,h]; rfl
   have I:∀ (k:Nat),k<c.classes.length -> ∃ S,ls[k]? = some S:=fun k m=>⟨_,XB (by omega)⟩;have b0:(Fe c c.classes.length).length=c.classes.length:=by unfold Fe; simp
   exact Xa.ret2 Xb rfl func71 rfl rfl rfl ⟨f,F,R,rfl,rfl,rfl,rfl,⟨Xiu A htot,by show J.heap[rb]? = some (.cells (rmL R (Fe c c.classes.length).length).toArray _ _); rw [b0]; exact C,ak hc.classes (fun b B=>(hmo b B).2.1),ak hc.keep (fun b B=>(hmo b B).2.2),A,
    fun b B=>⟨.inr (.inr (.inr B)),by obtain ⟨h,_⟩:=hmo b B; exact h.chg f⟩,fun k m=>by
     replace m:k<(Fe c c.classes.length).length:=m;rw [b0] at m;obtain ⟨S,d⟩:=I k m;have:=(World.ownsRow.cells V (g:=g) rfl) k (B4 S) (by rw [XN,d]; rfl);rw [B9] at this;rw [a6 k S d]
     simpa using this,by show Zu J P (C2 c.pages.toNat); rw [hN,XA]; exact au,fun z hz => .inr (.inl hz),⟨fun _=>q,fun k x hx=>by
     obtain ⟨m,rfl⟩:=M9 hx;obtain ⟨S,d⟩:=I k m;obtain ⟨a1,a2,a3⟩:=n k S d;rw [a6 k S d];refine ⟨a1,by show Qe J S q _ (C2 c.pages.toNat); rw [hN,XA]; exact a2 q,fun z hz=>⟨.inl ⟨k,S,d,hz⟩,fun e => ?_⟩⟩;have:=(a3 q z hz).1;have e':z=lm:=e;omega,fun j k x y a5 hx hy z hz u=>by
     obtain ⟨hj,rfl⟩:=M9 hx;obtain ⟨m,rfl⟩:=M9 hy;obtain ⟨S,d⟩:=I j hj;obtain ⟨S',al⟩:=I k m;rw [a6 j S d] at hz;rw [a6 k S' al] at u;rcases Nat.lt_or_gt_of_ne a5 with h | h
     ·exact D j k S S' h d al q q z hz u
     ·exact D k j S' S h al d q q z u hz⟩,⟨[],(bc.chg U id).chg r (by omega),YA,(fun e he=>by cases he),fun _ _=>rfl⟩,.inr (.inr (.inl rfl)),fun hz=>by
     rcases hz with ⟨k,S,d,hz⟩ | hz | hz | hz
     ·have:=((n k S d).2.2 q _ hz).1;replace this:K.heap.size<=rb:=this;omega
     ·rcases hz with e | e
      ·replace e:rb=P.pb:=e; omega
      ·replace e:rb=P.ab:=e; omega
     ·replace hz:rb=lm:=hz; omega
     ·have:=Q _ hz;replace this:rb<w.heap.size:=this;omega,fun hz=>by
     rcases hz with ⟨k,S,d,hz⟩ | hz | hz | hz
     ·have ap:=((n k S d).2.1 q).at'.apart (Yb az) (by decide);rcases hz with e | e | e | ⟨e,he,_⟩
      ·exact ap.1.1 e
      ·exact ap.1.2.1 e
      ·exact ap.1.2.2.2 e
      ·cases he
     ·rcases hz with e | e
      ·replace e:g=P.pb:=e; omega
      ·replace e:g=P.ab:=e; omega
     ·replace hz:g=lm:=hz; omega
     ·have:=Q _ hz;replace this:g<w.heap.size:=this;omega,fun z hz=>by
     rcases o z hz with ⟨_,h⟩ | h
     ·exact h
     ·have:=Q z h; have:=f.size; omega,ht.grow f,fun hz=>by
     rcases o _ hz with ⟨h,_⟩ | h
     ·omega
     ·obtain ⟨bn,_⟩:=hmo _ h;exact Ki ht (fun v e=>by rw [Yi bn.1] at e; simp at e) rfl,fun z hz=>⟨by have:=(hX z hz).1; have:=f.size; omega,fun u=>by
     rcases o z u with ⟨h,_⟩ | h
     ·have:=(hX z hz).1; omega
     ·exact (hX z hz).2 h⟩⟩,fun z hz=>(o z hz).imp (·.1) id,rfl,rfl⟩
 ·have em:Be c=1:=by unfold Be; rw [if_neg A]
  rw [em];simp only [A];exact ζy ϱ (ζr func71 ϱ ⟨a8.trans T,rfl⟩)
section
variable {α:Type} {cells:α->List Value} {sz:Nat}
def fl (cells:α->List Value) (xs:List α):List Value:=xs.flatMap cells
theorem Mj:fl cells [] = []:=rfl
theorem J2 (xs ys:List α):fl cells (xs++ys)=fl cells xs++fl cells ys:=by unfold fl; rw [List.flatMap_append]
theorem K2 (x:α):fl cells [x]=cells x:=by unfold fl; simp
theorem Il (hl:∀ x,(cells x).length=sz):∀ xs:List α,(fl cells xs).length=xs.length*sz
 |[]=>by simp [fl]
 |x::r=>by
  have:=Il hl r;unfold fl at *;rw [ZO,XT,this,hl,XP,Nat.succ_mul];omega
theorem R7 (hl:∀ x,(cells x).length=sz) {j:Nat} (hj:j<sz):∀ (xs:List α) (i:Nat) (x:α),xs[i]? = some x->(fl cells xs)[i*sz+j]? = (cells x)[j]?
 |[],i,x,h=>by simp at h
 |y::r,0,x,h=>by
  cases h
  unfold fl;rw [ZO,Nat.zero_mul,XQ,XV (by rw [hl]; exact hj)]
 |y::r,i+1,x,h=>by
  have:=R7 hl hj r i x h;unfold fl at *;rw [ZO,ZQ (by rw [hl,Nat.succ_mul]; omega),hl,<- this]
  congr 1
  rw [Nat.succ_mul]; omega
theorem Rows.news {xs:List α} (h:Rows cells sz w a xs) (hl:∀ x,(cells x).length=sz) (hz:0<sz):∀ i u,(fl cells xs)[i]? = some u -> ∃ a',a=some a'/\w.cell? (a'.add i)=some u:=fun i u c=>by
 have g:i<xs.length*sz:=by rw [<- Il hl]; exact (List.getElem?_eq_some_iff.1 c).1
 have d:i / sz<xs.length:=(Nat.div_lt_iff_lt_mul hz).2 g;have j:i % sz<sz:=QG _ hz;have e:i / sz*sz+i % sz=i:=by rw [YO]; exact YM i sz
 obtain ⟨b,off,rfl,k⟩:=h (i / sz) xs[i / sz] (XB d);have f:=R7 hl j xs (i / sz) xs[i / sz] (XB d);rw [e,c] at f;refine ⟨_,rfl,?_⟩;rw [B9];have:=k (i % sz) u f.symm;rw [YE,e] at this;exact this
theorem Rows.noneA {xs:List α} (h:Rows cells sz w a xs):a=none->xs.length=0:=fun e=>by
 cases xs with
 |nil=>rfl
 |cons l r =>
  obtain ⟨b,off,e',_⟩:=h 0 l rfl;rw [e] at e'; cases e'
theorem Mk (hp:∀ x,∀ u ∈ cells x,u.oneCell'=true) (xs:List α):∀ u ∈ fl cells xs,u.oneCell'=true:=fun u a=>by
 unfold fl at a;obtain ⟨x,_,h⟩:=List.mem_flatMap.1 a;exact hp x u h
theorem Kb {xs:List α} (h:w.heap[g]? = some (.cells (fl cells xs++rest).toArray t fz)) (hl:∀ x,(cells x).length=sz):Rows cells sz w (some ⟨g,0,none⟩) xs:=fun i x a=>by
 refine ⟨g,0,rfl,fun j v b => ?_⟩;have c:j<sz:=by have:=(List.getElem?_eq_some_iff.1 b).1; rw [hl] at this; exact this
 rw [Yi h,XQ,YH,XV,R7 hl c xs i x a]
 ·exact b
 ·rw [Il hl];have:(i+1)*sz<=xs.length*sz:=Nat.mul_le_mul_right _ ((List.getElem?_eq_some_iff.1 a).1);rw [Nat.succ_mul] at this;omega
theorem Xl.rowsN {xs:List α} (h:Xl base t sz w v n (fl cells xs)) (hl:∀ x,(cells x).length=sz) (hn:xs.length=n) :
 ∃ a cap,v = .slice a xs.length cap/\Rows cells sz w a xs/\Yf w a/\xs.length<=cap /\ ∀ b off s,a=some ⟨b,off,s⟩->base<=b:=by
 rcases h.2 with ⟨rfl,m⟩ | ⟨g,cap,cur,rfl,j,d,c,k,_,f⟩
 ·have:xs = []:=List.length_eq_zero_iff.1 (by omega);subst this;exact ⟨none,0,rfl,(fun i l hl=>by simp at hl),(by intro b off s e; cases e),XE _,(by intro b off s e; cases e)⟩
 ·subst hn;refine ⟨some ⟨g,0,none⟩,cap,rfl,Kb (rest:=cur.toList.drop (xs.length*sz)) (t:=t) (fz:=(0,0)) ?_ hl,(by intro b off s e; cases e; exact Xg d),c,(by intro b off s e; cases e; exact j)⟩;rw [d,<- f,XW]
theorem XaP:∀ (A old vs B:List Value),old.length=vs.length->Z2 (A++(old++B)) A.length vs=some (A++(vs++B))
 |[],[],[],B,_=>by cases B <;> rfl
 |[],o::old,v::vs,B,h=>by
  have:=XaP [] old vs B (by simpa using h);simp only [ZL,List.length_nil] at this;show Z2 (o::(old++B)) 0 (v::vs)=_
  unfold Z2;rw [this]; rfl
 |x::A,old,vs,B,h=>by
  have:=XaP A old vs B h;show Z2 (x::(A++(old++B))) (A.length+1) vs=_
  unfold Z2;rw [this]; rfl
theorem Oo (hl:∀ x,(cells x).length=sz) {xs:List α} {y:α} (hk:k<xs.length):Z2 (fl cells xs++rest) (0+k*sz) (cells y)=some (fl cells (xs.set k y)++rest):=by
 have e1:xs=xs.take k++(xs[k]::xs.drop (k+1)):=by rw [<- ZN hk,XW]
 have a:(fl cells (xs.take k)).length=0+k*sz:=by rw [Il hl,XR,Nat.min_eq_left (by omega),XQ]
 have f1:∀ z,fl cells (xs.take k++(z::xs.drop (k+1)))++rest=fl cells (xs.take k)++(cells z++(fl cells (xs.drop (k+1))++rest)):=fun z=>by
  rw [J2];unfold fl;rw [ZO];simp only [List.append_assoc]
 rw [(List.set_eq_take_append_cons_drop.trans (if_pos hk)),f1 y,<- a]
 conv=>lhs; rw [e1,f1 xs[k]]
 rw [show (xs.take k++xs[k]::xs.drop (k+1)).take k=xs.take k from by rw [<- e1]];exact XaP _ _ _ _ (by rw [hl,hl])
end
structure RR where
 c:Conf
 cp:Y4
 p:RP
 ss:List RS
 sa:Option Addr
 scap:Nat
 lg:List Plc
 la:Option Addr
 lcap:Nat
 steps:Int
def Ap (r:RR):List Value:=Zl r.c r.cp ++ [Xn r.p.o,Xn r.p.f,.slice r.sa r.ss.length r.scap,.slice r.la r.lg.length r.lcap,.int .i64 r.steps]
def lgP (e:Nat × List Nat):PlcM:=⟨-1,(e.1:Nat),0,X3 e.2⟩
structure If (M:RmM):Prop where
 sh:∀ (k:Nat) (x:Sm),M.shs[k]? = some x->x.Ok/\x.Of M.pl
 good:M.pl.Good
theorem Zg.mok (h:Zg F w R M):If M:=⟨fun k x b=>by
 obtain ⟨G,_,a,_⟩:=h.shelf b;exact ⟨a.ok,a.of⟩,h.pool.good⟩
structure Yz (w:World) (r:RR) (M:RmM):Prop where
 p:Qv w r.p M.pl
 sr:Rows X4 7 w r.sa r.ss
 sl:Yf w r.sa
 sc:r.ss.length<=r.scap
 n:r.ss.length=M.shs.length
 few:r.ss.length<=16
 each:∀ (k:Nat) (s:RS) (x:Sm),r.ss[k]? = some s->M.shs[k]? = some x -> ∃ pk,Ys w s x pk/\x.Of pk
 lr:Rows Xt 4 w r.la r.lg
 ll:Yf w r.la
 lc:r.lg.length<=r.lcap
 lm:r.lg.length<=1024
 lge:r.lg.map Xx=M.lg.map lgP
 lgo:∀ q ∈ r.lg,Zf w q/\Yf w q.pa
 st:r.steps=M.tot
structure Bq (S:Nat->Prop) (r:RR):Prop where
 o:Xj S r.p.o.a
 f:Xj S r.p.f.a
 sa:Xj S r.sa
 each:∀ s ∈ r.ss,Z0 S s
 la:Xj S r.la
 lgo:∀ q ∈ r.lg,Xj S q.pa
theorem Rows.far {cells:α->List Value} {xs:List α} (h:Rows cells sz w a xs) (hs:Xj S a) (hc:Xc S w w'):Rows cells sz w' a xs:=fun i x d=>by
 obtain ⟨b,off,e,c⟩:=h i x d;exact ⟨b,off,e,fun j v f=>hc.cell (c j v f) (hs b off _ e)⟩
theorem Yz.grow {w w':World} {r:RR} {M:RmM} (h:Yz w r M) (hc:Xc Xe w w'):Yz w' r M :=
 ⟨h.p.grow hc,h.sr.chg hc,h.sl.grow hc.size,h.sc,h.n,h.few,fun k s x d e=>by obtain ⟨pk,a,b⟩:=h.each k s x d e; exact ⟨pk,a.grow hc,b⟩,h.lr.chg hc,h.ll.grow hc.size,h.lc,h.lm,h.lge,fun q c=>⟨(h.lgo q c).1.grow hc,(h.lgo q c).2.grow hc.size⟩,h.st⟩
theorem Yz.far {w w':World} {r:RR} {M:RmM} {S:Nat->Prop} (h:Yz w r M) (ho:Bq S r) (hc:Xc S w w'):Yz w' r M :=
 ⟨⟨h.p.o.far ho.o hc,h.p.f.far ho.f hc,h.p.eo,h.p.ef⟩,h.sr.far ho.sa hc,h.sl.grow hc.size,h.sc,h.n,h.few,fun k s x d e=>by obtain ⟨pk,a,b⟩:=h.each k s x d e; exact ⟨pk,a.far (ho.each s (XS d)) hc,b⟩,h.lr.far ho.la hc,h.ll.grow hc.size,h.lc,h.lm,h.lge,fun q c=>⟨⟨(h.lgo q c).1.rd.far (ho.lgo q c) hc,(h.lgo q c).1.len⟩,(h.lgo q c).2.grow hc.size⟩,h.st⟩
theorem Yz.out {w:World} {r:RR} {M:RmM} {S:Nat->Prop} (h:Yz w r M) (hs:∀ z,S z->w.heap.size<=z):Bq S r :=
 ⟨h.p.o.lt.out hs,h.p.f.lt.out hs,h.sl.out hs,fun s c=>by
  obtain ⟨k,b,rfl⟩:=QE c;obtain ⟨pk,a,_⟩:=h.each k _ _ (XB b) (XB (by rw [<- h.n]; exact b));exact a.out hs,h.ll.out hs,fun q d=>(h.lgo q d).2.out hs⟩
theorem Bq.mono {S S':Nat->Prop} {r:RR} (h:Bq S r) (hs:∀ z,S' z->S z):Bq S' r :=
 ⟨h.o.mono hs,h.f.mono hs,h.sa.mono hs,fun s a=>⟨(h.each s a).o.mono hs,(h.each s a).f.mono hs,(h.each s a).nums.mono hs,(h.each s a).opn.mono hs,(h.each s a).pa.mono hs,fun l b=>((h.each s a).each l b).mono hs⟩,h.la.mono hs,fun q c=>(h.lgo q c).mono hs⟩
def Q2 (w:World) (r r':RR):Prop:=r'.c=r.c/\r'.cp=r.cp /\ ∀ S:Nat->Prop,(∀ z,S z->z<w.heap.size)->Bq S r->Bq S r'
theorem Q2.refl (w:World) (r:RR):Q2 w r r:=⟨rfl,rfl,fun _ _ h=>h⟩
theorem Q2.trans {w w1:World} {r r1 r2:RR} (h:Q2 w r r1) (h':Q2 w1 r1 r2) (hs:w.heap.size<=w1.heap.size):Q2 w r r2:=⟨h'.1.trans h.1,h'.2.1.trans h.2.1,fun S a b =>
 h'.2.2 S (fun z c=>by have:=a z c; omega) (h.2.2 S a b)⟩
theorem Ys.setP {s:RS} {pl:PlM} {p':RP} (h:Ys w s x pl) (hp:Qv w p' pl'):Ys w {s with p:=p'} x pl':=⟨hp,h.nums,h.opn,h.rp,h.plt,h.pcap,h.each,h.e1,h.e2,h.e3,h.e4,h.e5⟩
abbrev Z9 (w:World) (b:Nat) (r:RR):Prop:=w.heap[b]? = some (.cells (Ap r).toArray 38 (0,0))
theorem Ni (r:RR) (k:Int) (w:World):Xf prog 199 #[.agg (Ap r).toArray,.int .i64 k] w (Grow (.bool (decide (0<=k) && decide (k<r.ss.length))) w):=by
 refine ζe func199 ntmps199 ϱ (ζn ϱ fun b f e1 d a e => ?_);refine ζg ϱ (fun c => ?_) fun c => ?_
 ·refine ζl d ϱ ?_;rw [decide_eq_true (of_decide_eq_true c),ZZ];exact ζr func199 ϱ ⟨rfl,a⟩
 ·rw [decide_eq_false (of_decide_eq_false c),YK];exact ζr func199 ϱ ⟨rfl,a⟩
theorem Xaz (r:RR) (M:RmM) (k:Nat) (s:RS) (w:World) (h:Yz w r M) (hk:r.ss[k]? = some s):Xf prog 201 #[.agg (Ap r).toArray,.int .i64 (k:Int)] w (Grow (.agg (X4 {s with p:=r.p}).toArray) w):=by
 have A:=(List.getElem?_eq_some_iff.1 hk).1;refine ζe func201 ntmps201 ϱ (ζn ϱ fun b H e1 m n B=>ζn ϱ fun ob I e2 o c C => ?_);have d:=n.trans c;obtain ⟨sb,soff,q,f⟩:=(h.sr.chg d) k s hk;refine ζl (c.heap' m) ϱ ?_;rw [q];refine ζi (k*7) ϱ (Xa.loadC Xb (X4 s) rfl (by first | rfl | (simp; done) | (simp [*]; done) | (simp; omega)) (f) rfl (ζn ϱ fun tb J e3 t u D=>ζs t ϱ fun K i v E => ?_));have a:=u.since v (fun z x e=>by omega);refine ζl (a.heap' (c.heap' m)) ϱ (ζs i ϱ fun L j g F => ?_);refine ζl j ϱ ?_;refine ζs (g.heap (a.heap' o) (by omega)) ϱ fun N l y G => ?_;exact ζR func201 l ϱ ⟨rfl,((d.trans a).since g (fun z x e=>by omega)).since y (fun z x e=>by omega)⟩
theorem Pv (s:RS):(X4 s).length=7:=rfl
theorem XaN (s:RS):∀ u ∈ X4 s,u.oneCell'=true:=fun u a=>by
 simp only [X4,QK,List.mem_nil_iff,or_false] at a;rcases a with rfl | rfl | rfl | rfl | rfl | rfl | rfl <;> rfl
theorem XjM (r:RR) (k:Nat) (s:RS) (w:World) (hsr:Rows X4 7 w r.sa r.ss) (hk:k<r.ss.length) (hl:r.ss.length<=16) (h1:r.p.f.x.length<=1024) (h2:s.p.f.x.length<=1024) (h3:0<=r.steps/\r.steps<=4611686018427387904):Xf prog 202 #[.agg (Ap r).toArray,.int .i64 (k:Int),.agg (X4 s).toArray] w
 (fun v w' => ∃ sa' scap',v = .agg (Ap {r with sa:=sa',scap:=scap',ss:=r.ss.set k s,p:=s.p,steps:=r.steps+(3+(max (r.p.f.x.length:Int) s.p.f.x.length - min (r.p.f.x.length:Int) s.p.f.x.length)*4)}).toArray/\Rows X4 7 w' sa' (r.ss.set k s)/\Yf w' sa'/\(r.ss.set k s).length<=scap'/\B7 w sa'/\Xc Xe w w'):=by
 have ai:maxLen=9223372036854775807:=rfl;obtain ⟨c,cp,p,ss,sa,scap,lg,la,lcap,steps⟩:=r;simp only at hk hl hsr h1 h3
 refine ζe func202 ntmps202 ϱ (ζn ϱ fun rb w1 e1 f H aj=>ζn ϱ fun qb w2 e2 m n ak=>ζn ϱ fun ob K e3 a2 i al => ?_);replace f:w1.heap[rb]? = some (.cells (Zl c cp ++ [Xn p.o,Xn p.f,.slice sa ss.length scap,.slice la lg.length lcap,.int .i64 steps]).toArray 38 (0,0)):=f;replace m:w2.heap[qb]? = some (.cells (X4 s).toArray 112 (0,0)):=m;refine Xa.buildSlice Xb rfl ?_;intro b4 w4 e4 a3 o am;refine ζa rfl ?_;have q:=(n.trans i).trans o;have L:=H.trans q;have M:=q.heap' f;refine Xa.loadb Xb rfl M rfl rfl ?_;have ho:Xl K.heap.size 112 7 w4 (.slice (some ⟨b4,0,none⟩) 0 0) 0 (fl X4 []):=Xl.empty (by omega) a3;refine Xa.appendA (base:=K.heap.size) (xs:=fl X4 []) (news:=fl X4 ss) Xb rfl ho o.size hsr.noneA (Il Pv ss) ((hsr.chg L).news Pv (by decide)) (Mk XaN ss) ⟨by omega,by show (0+ss.length)*136<=_; omega⟩ ?_;intro v5 w5 t a6 an;replace t:Xl K.heap.size 112 7 w5 v5 ss.length (fl X4 ss):=by
  have h:=t;rw [Mj,ZL,XQ] at h;exact h
 have d:=ho.since o (XE _) a6;obtain ⟨g,u,cur,rfl,ao,a7,a8,ap,a9⟩:=t.form (by omega);have x:cur.toList=fl X4 ss++cur.toList.drop (ss.length*7):=by
  have e:=XW (ss.length*7) cur.toList;rw [a9] at e;exact e.symm
 obtain ⟨rest,F⟩:∃ rest,rest=cur.toList.drop (ss.length*7):=⟨_,rfl⟩;rw [<- F] at x;have N:w5.heap[g]? = some (.cells (fl X4 ss++rest).toArray 112 (0,0)):=by rw [<- x]; exact a7
 have O:=d.heap' (i.heap' (n.heap' f));have A:=d.heap' (i.heap' m);have P:=d.heap' a2;refine ζa ϱ (ζl A ϱ (ζi (k*7) ϱ (ζS ϱ N (Oo (cells:=X4) (y:=s) Pv hk) ϱ fun w6 aa j aq => ?_)));have B:=j.heap O (by omega);have Q:=j.heap A (by omega);have R:=j.heap P (by omega);refine ζl B ϱ (ζs B ϱ fun w7 S l ar => ?_);have T:=l.heap Q (by omega);refine ζl T ϱ (ζs S ϱ fun w8 a C au => ?_);replace a:w8.heap[rb]? = some (.cells (Zl c cp ++ [Xn s.p.o,Xn s.p.f,.slice (some ⟨g,0,none⟩) ss.length u,.slice la lg.length lcap,.int .i64 steps]).toArray 38 (0,0)):=a;refine ζl a ϱ (ζl a ϱ (ζj ϱ ?_));have em:(if ((s.p.f.x.length:Nat):Int) > (p.f.x.length:Nat) then ((s.p.f.x.length:Nat):Int) else (p.f.x.length:Nat))=max ((p.f.x.length:Nat):Int) (s.p.f.x.length:Nat):=by split <;> omega
 have en:(if ((s.p.f.x.length:Nat):Int)<(p.f.x.length:Nat) then ((s.p.f.x.length:Nat):Int) else (p.f.x.length:Nat))=min ((p.f.x.length:Nat):Int) (s.p.f.x.length:Nat):=by split <;> omega
 rw [em,en];refine ζj ϱ (ζj ϱ (ζj ϱ ?_));rw [show steps+3+4*(max ((p.f.x.length:Nat):Int) (s.p.f.x.length:Nat) - min ((p.f.x.length:Nat):Int) (s.p.f.x.length:Nat))=steps+(3+(max ((p.f.x.length:Nat):Int) (s.p.f.x.length:Nat) - min ((p.f.x.length:Nat):Int) (s.p.f.x.length:Nat))*4) from by omega];refine ζs a ϱ fun w9 U D av=>ζl U ϱ ?_;have V:=D.heap (C.heap (l.heap R (by omega)) (by omega)) (by omega);refine ζs V ϱ fun wa W E aw => ?_;have I:=E.heap (D.heap (C.heap (l.heap aa (by omega)) (by omega)) (by omega)) (by omega);have J:(ss.set k s).length=ss.length:=XF;have a0:Xc Xe w w6:=(((H.trans n).trans i).trans d).since j (fun z G e=>by omega);have a1:Xc Xe w wa:=(((a0.since l (fun z G e=>by omega)).since C (fun z G e=>by omega)).since D (fun z G e=>by omega)).since E (fun z G e=>by omega);exact ζR func202 W ϱ ⟨some ⟨g,0,none⟩,u,by show _=Value.agg (Zl c cp ++ [Xn s.p.o,Xn s.p.f,.slice _ (ss.set k s).length _,_,_]).toArray; rw [J]; rfl,Kb I Pv,(by intro b off s e; cases e; exact Xg I),by rw [J]; exact a8,(by intro b off s e; cases e; omega),a1⟩
theorem Yz.sout {r:RR} (h:Bq S r) {s:RS} (hk:r.ss[k]? = some s) (_:Yz w r M):Z0 S {s with p:=r.p}:=by
 have:=h.each s (XS hk);exact ⟨h.o,h.f,this.nums,this.opn,this.pa,this.each⟩
theorem Yz.put {r:RR} (h:Yz w r M) (hc:Xc Xe w w') {s:RS} {t:Int} {sa':Option Addr} {scap':Nat} (hk:k<r.ss.length) (hs:Ys w' s x' pl') (hof:x'.Of pl') (hrow:Rows X4 7 w' sa' (r.ss.set k s)) (hlt:Yf w' sa') (hcap:(r.ss.set k s).length<=scap') :
 Yz w' {r with sa:=sa',scap:=scap',ss:=r.ss.set k s,p:=s.p,steps:=t} {M with shs:=M.shs.set k x',pl:=pl',tot:=t}:=by
 have a:=h.grow hc;refine ⟨hs.p,hrow,hlt,hcap,by show (r.ss.set k s).length=(M.shs.set k x').length; rw [XF,XF]; exact h.n,by show (r.ss.set k s).length<=16; rw [XF]; exact h.few,fun j d f b c => ?_,a.lr,a.ll,a.lc,a.lm,a.lge,a.lgo,rfl⟩;by_cases e:k=j
 ·subst e;rw [XG hk] at b;rw [XG (by rw [<- h.n]; exact hk)] at c;cases b; cases c
  exact ⟨pl',hs,hof⟩
 ·rw [XU e] at b c;exact a.each j d f b c
theorem Q2.put {r:RR} (h:Yz w r M) {s0 s:RS} {t:Int} {sa':Option Addr} {scap':Nat} (hk:r.ss[k]? = some s0) (hs:w.heap.size<=w1.heap.size) (hkeep:B8 w1 {s0 with p:=r.p} s) (hf:B7 w' sa') (hs':w.heap.size<=w'.heap.size) :
 Q2 w r {r with sa:=sa',scap:=scap',ss:=r.ss.set k s,p:=s.p,steps:=t}:=⟨rfl,rfl,fun S e b=>by
 have a:=hkeep S (fun z c=>by have:=e z c; omega) (Yz.sout b hk h);refine ⟨a.o,a.f,hf.out (fun z c=>by have:=e z c; omega),fun f d => ?_,b.la,b.lgo⟩;rcases ZJ d with d | rfl
 ·exact b.each f d
 ·exact a⟩
theorem Xg4 {p q:PlM} (hp:p.Good) (hq:q.Good) (ho:q.own.length=p.own.length) {t:Int} (ht:0<=t/\t<=4611686018427000000):Xw t (Hp p q)=t+(3+(max (p.free.length:Int) q.free.length - min (p.free.length:Int) q.free.length)*4):=by
 have a:=hp.many;have b:=hq.many;have c:=hp.len;have e:max (Zh q:Int) (Zh p) - min (Zh q:Int) (Zh p)=max (p.free.length:Int) q.free.length - min (p.free.length:Int) q.free.length:=by unfold Zh; omega
 unfold Hp Xw;rw [e,if_neg (by omega)];have:max (p.free.length:Int) q.free.length - min (p.free.length:Int) q.free.length<=1024:=by omega
 omega
theorem Fq.good {p q:PlM} {c:Int} (h:Fq p q c) (hg:p.Good) (hc:0<=c):q.Good:=by
 rcases h with rfl | ⟨n,r,a,rfl⟩ | ⟨n,b,d,rfl⟩
 ·exact hg
 ·exact hg.take hc a
 ·exact hg.give b (by omega)
theorem Nr (r:RR) (M:RmM) (k:Int) (hn:r.ss.length=M.shs.length):(Zs M k=none/\(decide (0<=k) && decide (k<r.ss.length))=false) \/ ∃ (j:Nat) (x:Sm) (s:RS),k=j/\Zs M k=some x/\M.shs[j]? = some x/\r.ss[j]? = some s/\(decide (0<=k) && decide (k<r.ss.length))=true:=by
 by_cases h:0<=k/\k<r.ss.length
 ·obtain ⟨j,rfl⟩:=XD h.1;have a:j<M.shs.length:=by omega
  refine .inr ⟨j,M.shs[j],r.ss[j],rfl,Ll a,XB a,XB (by omega),?_⟩;rw [decide_eq_true h.1,decide_eq_true h.2]; rfl
 ·refine .inl ⟨Nn (by omega),?_⟩;by_cases b:0<=k
  ·rw [decide_eq_false (fun e:k<r.ss.length=>h ⟨b,e⟩),YU]
  ·rw [decide_eq_false b]; rfl
theorem Q2.back {r r':RR} (h:Q2 w2 r r') (hs:w.heap.size<=w2.heap.size):Q2 w r r':=⟨h.1,h.2.1,fun S a b=>h.2.2 S (fun z c=>by have:=a z c; omega) b⟩
theorem Xfz (x:Sm) (pl:PlM) (who:Int) (hof:x.Of pl) (hg:pl.Good):(Q4 x pl who).Of (Bz x pl who):=by
 rcases Lr x pl who with ⟨_,a,b⟩ | ⟨_,_,⟨n,r,_,a,b,_⟩ | ⟨n,r,_,d,a,b,_⟩⟩
 ·rw [a,b]; exact hof
 ·rw [a,b]; exact hof.set rfl (fun e c=>Lt c)
 ·rw [a,b]; exact (hof.fresh hg d).set rfl (fun e c=>Lt c)
theorem XcV (x:Sm) (pl:PlM) (n i:Int) (hok:x.Ok) (hof:x.Of pl):(Q1 x n i).Of (A3 x pl n i):=by
 unfold Q1 A3;cases c:Zc x.pg n with
 |none=>exact hof
 |some p =>
  simp only
  by_cases a:Qp p i=0
  ·rw [if_pos a];have:=Sm.Of.giveAt hok hof (n:=n.toNat) (p:=p) (i:=i);by_cases b:Xv (Z6 p i)=0
   ·rw [if_pos b] at this; rw [if_pos ⟨a,b⟩]; exact this
   ·rw [if_neg b] at this; rw [if_neg (fun h=>b h.2)]; exact this
  ·rw [if_neg a,if_neg (fun h=>a h.1)]; exact hof
theorem XdS (x:Sm) (pl:PlM) (n i who:Int) (hof:x.Of pl):(Aq x n i who).Of pl:=by
 unfold Aq;split
 ·exact hof.set rfl (fun e a=>Lt a)
 ·exact hof
theorem XaA (r:RR) (M:RmM) (j:Nat) (x x':Sm) (s s5:RS) (pl':PlM) (w0 w1 w:World) (h:Yz w0 r M) (hc:Xc Xe w0 w) (hm:If M) (ht:0<=M.tot/\M.tot<=4611686018427000000) (hs:r.ss[j]? = some s) (hx:M.shs[j]? = some x) (hS:Ys w s5 x' pl') (hof':x'.Of pl') (hE:Fq M.pl pl' x.cls)
 (hk:B8 w1 {s with p:=r.p} s5) (hw1:w0.heap.size<=w1.heap.size):Xf prog 202 #[.agg (Ap r).toArray,.int .i64 (j:Int),.agg (X4 s5).toArray] w (fun v w' => ∃ r',v = .agg (Ap r').toArray/\Yz w' r' (Iv M j x' pl')/\Q2 w0 r r'/\Xc Xe w w'):=by
 obtain ⟨i,o⟩:=hm.sh j x hx;have c:=(List.getElem?_eq_some_iff.1 hs).1;have k:r.p.f.x.length=M.pl.free.length:=by rw [h.p.ef,XM]
 have d:s5.p.f.x.length=pl'.free.length:=by rw [hS.p.ef,XM]
 have a:=hE.good hm.good i.cls;have q:=hm.good.many;have u:=hm.good.len;have y:=a.many;have z:=a.len;refine (XjM r j s5 w (h.sr.chg hc) c h.few (by omega) (by omega) (by rw [h.st]; omega)).mono fun v w' ⟨sa',scap',e,f,l,g,m,b⟩ => ?_;have n:Xw M.tot (Hp M.pl pl')=r.steps+(3+(max (r.p.f.x.length:Int) s5.p.f.x.length - min (r.p.f.x.length:Int) s5.p.f.x.length)*4):=by
  rw [Xg4 hm.good a (hE.own hm.good).1 ht,k,d,h.st]
 rw [<- n] at e;exact ⟨_,e,h.put (t:=Xw M.tot (Hp M.pl pl')) (hc.trans b) c (hS.grow b) hof' f l g,Q2.put (M:=M) h hs hw1 hk m hc.size,b⟩
theorem Xeo (r:RR) (M:RmM) (k who:Int) (w:World) (h:Yz w r M) (hm:If M) (ht:0<=M.tot/\M.tot<=4611686018427000000):Xf prog 166 #[.agg (Ap r).toArray,.int .i64 k,.int .i64 who] w
 (fun v w' => ∃ r',v = .tuple #[.agg (Ap r').toArray,.int .i64 (Do M k who),.int .i64 (Dn M k who),.int .i64 (Ew M k who)]/\Yz w' r' (Qb M k who)/\Q2 w r r'/\Xc Xe w w'):=by
 refine ζe func166 ntmps166 ϱ (ζn ϱ fun rb w1 e1 Q R ac=>ζn ϱ fun ob S e2 T A ad => ?_);have d:=R.trans A;have i:=A.heap' Q;refine ζl i ϱ (ζv (Ni r k S) ϱ fun w3 c => ?_);have l:=c.heap' T;have f:=c.heap' i;have a:=d.trans c;unfold Do Dn Ew Qb;rcases Nr r M k h.n with ⟨F,G⟩ | ⟨j,x,s,rfl,F,H,I,G⟩
 ·rw [F,G];simp only
  refine ζy ϱ (ζl f ϱ (ζs l ϱ fun J K U ae => ?_));have m:=a.since U (fun z n e=>by omega);exact ζR func166 K ϱ ⟨r,rfl,h.grow m,Q2.refl w r,m⟩
 ·rw [F,G];simp only [XA];refine ζf ϱ ?_;obtain ⟨pk,V,_⟩:=h.each j s x I H;obtain ⟨B,C⟩:=hm.sh j x H;refine ζl f ϱ (ζv (Xaz r M j s w3 (h.grow a) I) ϱ fun J o=>ζc ϱ (Xjw {s with p:=r.p} x M.pl who J (((V.setP h.p).grow a).grow o) B C hm.good) ?_);rintro _ w5 ⟨s5,rfl,W,a0,a1⟩;refine ζa ϱ (ζn ϱ fun qb w6 e6 a2 a3 af=>ζs a2 ϱ fun w7 L a4 ag => ?_);have q:=a3.since a4 (fun z n e=>by omega);have b:=(o.trans a1).trans q;have t:=b.heap' f;have u:=b.heap' l;have y:=a.trans b;by_cases g:Qi x M.pl who=0
  ·rw [if_pos g,g];refine ζf ϱ (ζl t ϱ (ζl L ϱ ?_));obtain ⟨e2,_⟩:=Xbb x M.pl who hm.good B.cls;refine ζc ϱ (XaA r M j x _ s s5 _ S J w7 (h.grow d) (c.trans b) hm ht I H (W.grow q) (Xfz x M.pl who C hm.good) e2 a0 (c.trans o).size) ?_;rintro _ w8 ⟨r',rfl,hR,hK,D⟩;refine ζa ϱ ?_;have N:Bq (fun z=>z=ob) r':=hK.2.2 _ (fun z n=>by omega) (h.out (fun z n=>by omega));exact ζs (D.heap' u) ϱ fun w9 O E ah=>ζR func166 O ϱ ⟨r',rfl,hR.far N E,hK.back d.size,((y.trans D).since E (fun z n e=>by omega))⟩
  ·rw [if_neg g];have eN:By x M.pl who=0/\Bx x M.pl who=0:=by unfold By Bx; rw [if_neg g,if_neg g]; exact ⟨rfl,rfl⟩
   rw [eN.1,eN.2];refine ζY ϱ (by simpa using g) (ζl t ϱ (ζs u ϱ fun w8 P a6 ai => ?_));have m:=y.since a6 (fun z n e=>by omega);exact ζR func166 P ϱ ⟨r,rfl,h.grow m,Q2.refl w r,m⟩
theorem Xem (r:RR) (M:RmM) (k n i:Int) (w:World) (h:Yz w r M) (hm:If M) (ht:0<=M.tot/\M.tot<=4611686018427000000):Xf prog 170 #[.agg (Ap r).toArray,.int .i64 k,.int .i64 n,.int .i64 i] w
 (fun v w' => ∃ r',v = .tuple #[.agg (Ap r').toArray,.int .i64 (Iu M k n i)]/\Yz w' r' (Qq M k n i)/\Q2 w r r'/\Xc Xe w w'):=by
 refine ζe func170 ntmps170 ϱ (ζn ϱ fun rb w1 e1 S T ae=>ζn ϱ fun ob U e2 V E af => ?_);have d:=T.trans E;have g:=E.heap' S;refine ζl g ϱ (ζv (Ni r k U) ϱ fun w3 c => ?_);have l:=c.heap' V;have f:=c.heap' g;have a:=d.trans c;unfold Iu Qq;rcases Nr r M k h.n with ⟨H,I⟩ | ⟨j,x,s,rfl,H,J,K,I⟩
 ·rw [H,I];simp only
  refine ζy ϱ (ζl f ϱ (ζs l ϱ fun L N W ag => ?_));have m:=a.since W (fun z o e=>by omega);exact ζR func170 N ϱ ⟨r,rfl,h.grow m,Q2.refl w r,m⟩
 ·rw [H,I];simp only [XA];refine ζf ϱ ?_;obtain ⟨pk,a0,_⟩:=h.each j s x K J;obtain ⟨q,t⟩:=hm.sh j x J;refine ζl f ϱ (ζv (Xaz r M j s w3 (h.grow a) K) ϱ fun L u=>ζc ϱ (Xjs {s with p:=r.p} x M.pl n i L (((a0.setP h.p).grow a).grow u) q t hm.good) ?_);rintro _ w5 ⟨s5,rfl,a1,a2,a3⟩;refine ζa ϱ (ζn ϱ fun qb w6 e6 a4 a5 ah=>ζs a4 ϱ fun w7 O a6 ai => ?_);have y:=a5.since a6 (fun z o e=>by omega);have b:=(u.trans a3).trans y;have A:=b.heap' f;have B:=b.heap' l;have C:=a.trans b;by_cases D:Bo x n i=0
  ·rw [if_pos D,D];refine ζf ϱ (ζl A ϱ (ζl O ϱ ?_));obtain ⟨e2,_⟩:=Vv x M.pl n i q t;refine ζc ϱ (XaA r M j x _ s s5 _ U L w7 (h.grow d) (c.trans b) hm ht K J (a1.grow y) (XcV x M.pl n i q t) e2 a2 (c.trans u).size) ?_;rintro _ w8 ⟨r',rfl,hR,hK,F⟩;refine ζa ϱ ?_;have P:Bq (fun z=>z=ob) r':=hK.2.2 _ (fun z o=>by omega) (h.out (fun z o=>by omega));exact ζs (F.heap' B) ϱ fun w9 Q G aj=>ζR func170 Q ϱ ⟨r',rfl,hR.far P G,hK.back d.size,((C.trans F).since G (fun z o e=>by omega))⟩
  ·rw [if_neg D];refine ζY ϱ (by simpa using D) (ζl A ϱ (ζs B ϱ fun w8 R a8 ak => ?_));have m:=C.since a8 (fun z o e=>by omega);exact ζR func170 R ϱ ⟨r,rfl,h.grow m,Q2.refl w r,m⟩
theorem Xku {n i:Int} (hok:x.Ok) (h:Gi x n i who≠0):Aq x n i who=x:=by
 unfold Gi at h;unfold Aq;cases a:Zc x.pg n with
 |none=>rfl
 |some p =>
  rw [a] at h;obtain ⟨m,rfl,b⟩:=Hg a;have e:Bf p i who=p:=by unfold Bf; exact if_neg h
  show x.ownAt (m:Int).toNat p i who=x
  unfold Sm.ownAt;rw [e,XA,Xe8 hok.nodup b]
theorem XjI (r:RR) (M:RmM) (k n i who:Int) (w:World) (h:Yz w r M) (hm:If M) (ht:0<=M.tot/\M.tot<=4611686018427000000):Xf prog 154 #[.agg (Ap r).toArray,.int .i64 k,.int .i64 n,.int .i64 i,.int .i64 who] w
 (fun v w' => ∃ r',v = .tuple #[.agg (Ap r').toArray,.int .i64 (Np M k n i who)]/\Yz w' r' (Qk M k n i who)/\Q2 w r r'/\Xc Xe w w'):=by
 refine ζe func154 ntmps154 ϱ (ζn ϱ fun rb w1 e1 a4 a5 au=>ζn ϱ fun ob N e2 a6 I av => ?_);have f:=a5.trans I;have q:=I.heap' a4;refine ζl q ϱ (ζv (Ni r k N) ϱ fun w3 d => ?_);have t:=d.heap' a6;have g:=d.heap' q;have b:=f.trans d;unfold Np Qk;rcases Nr r M k h.n with ⟨O,P⟩ | ⟨j,x,s,rfl,O,F,Q,P⟩
 ·rw [O,P];simp only
  refine ζy ϱ (ζl g ϱ (ζs t ϱ fun R T a7 aw => ?_));have u:=b.since a7 (fun z l e=>by omega);exact ζR func154 T ϱ ⟨r,rfl,h.grow u,Q2.refl w r,u⟩
 ·rw [O,P];simp only [XA];refine ζf ϱ ?_;obtain ⟨pk,a8,_⟩:=h.each j s x Q F;have U:=(a8.setP h.p).grow b;obtain ⟨J,K⟩:=hm.sh j x F;refine ζl g ϱ (ζv (Xaz r M j s w3 (h.grow b) Q) ϱ fun R y=>ζc ϱ (Xjt {s with p:=r.p} x M.pl n i who R (U.grow y) J K) ?_);rintro _ w5 ⟨s5,rfl,a9,aa,ab⟩;refine ζa ϱ (ζn ϱ fun qb w6 e6 ac ad ax=>ζs ac ϱ fun w7 V ae ay => ?_);have A:=ad.since ae (fun z l e=>by omega);have c:=(y.trans ab).trans A;have m:=c.heap' g;have B:=c.heap' t;have C:=b.trans c;by_cases W:Gi x n i who=0
  ·rw [W];refine ζf ϱ (ζl m ϱ (ζl V ϱ ?_));obtain ⟨e2,_⟩:=Xaa x M.pl n i who;refine ζc ϱ (XaA r M j x _ s s5 _ N R w7 (h.grow f) (d.trans c) hm ht Q F (a9.grow A) (XdS x M.pl n i who K) e2 aa (d.trans y).size) ?_;rintro _ w8 ⟨r',rfl,hR,G,D⟩;refine ζa ϱ ?_;refine ζn ϱ fun tb w9 e9 ag ah az=>ζs ag ϱ fun wa a0 ai b0 => ?_;have E:=ah.since ai (fun z l e=>by omega);refine ζl (E.heap' (D.heap' m)) ϱ (ζs a0 ϱ fun wb a1 aj b1 => ?_);have o:=E.since aj (fun z l e=>by omega);refine ζl a1 ϱ (ζs (o.heap' (D.heap' B)) ϱ fun wc a2 L b2 => ?_);have a:Bq (fun z=>z=ob) r':=G.2.2 _ (fun z l=>by omega) (h.out (fun z l=>by omega));have ak:Yz w8 {r' with steps:=r.steps} (Ev M j (Aq x n i who) M.pl):={hR with st:=h.st};have H:Bq (fun z=>z=ob) {r' with steps:=r.steps}:=⟨a.o,a.f,a.sa,a.each,a.la,a.lgo⟩;have al:Q2 N r {r' with steps:=r.steps}:=⟨G.1,G.2.1,fun S U ho=>by have:=G.2.2 S U ho; exact ⟨this.o,this.f,this.sa,this.each,this.la,this.lgo⟩⟩;exact ζR func154 a2 ϱ ⟨{r' with steps:=r.steps},rfl,(ak.grow o).far H L,al.back f.size,(((C.trans D).trans o).since L (fun z l e=>by omega))⟩
  ·rw [Xku J W,XaL F];refine ζY ϱ (by simpa using W) (ζl m ϱ (ζs B ϱ fun w8 a3 am b3 => ?_));have u:=C.since am (fun z l e=>by omega);exact ζR func154 a3 ϱ ⟨r,rfl,h.grow u,Q2.refl w r,u⟩
theorem Xjf (a:Option Addr) (cap:Nat) (zs:List Int) (n:Int) (w:World) (hr:Rd .i64 w a zs) (hl:zs.length<=9223372036854775806):Xf prog 109 #[.slice a zs.length cap,.int .i64 n] w (X7 (.int .i64 (Xm zs n)) w):=by
 refine ζe func109 ntmps109 ϱ ?_;refine Xa.loop (α:=Nat) (fun k => [(0,false,.slice a zs.length cap),(1,false,.int .i64 n),(5,false,.int .i64 k)])
  (fun k w'=>w'=w/\k<=zs.length /\ ∀ j (h:j<zs.length),j<k->n<1\/decide (n<=zs[j])=false) (fun k=>zs.length - k) 0 ⟨rfl,rfl,rfl,trivial⟩ ⟨rfl,XL _,fun _ _ h=>by omega⟩ ?_
 rintro k s ⟨q,t,d⟩ ih;subst q;refine ζa ϱ (ζg ϱ (fun h => ?_) fun h => ?_)
 ·have c:k<zs.length:=by simpa using h
  refine ζg ϱ (fun f => ?_) fun f => ?_
  ·have m:1<=n:=by have:=of_decide_eq_true f; omega
   obtain ⟨b,off,rfl,p⟩:=hr k c;rw [Hq c] at p;refine ζi k ϱ (ζk ϱ p ϱ (ζg ϱ (fun o => ?_) fun o => ?_))
   ·have i:n<=zs[k]:=by have:=of_decide_eq_true o; omega
    have e:Xm zs n=k:=by
     unfold Xm;rw [if_neg (by omega)];exact Im c (fun j g l=>(d j g l).elim (fun h=>by omega) id) (decide_eq_true i)
    exact ζr func109 ϱ ⟨X0 e.symm,rfl⟩
   ·have i:¬ n<=zs[k]:=by have:=of_decide_eq_false o; omega
    refine ζj ϱ ?_;exact ih (k+1) _ _ ⟨rfl,c,fun j g l=>by
     by_cases e:j=k
     ·subst e; exact .inr (decide_eq_false i)
     ·exact d j g (by omega)⟩ (by omega) ⟨rfl,rfl,rfl,trivial⟩
  ·have m:n<1:=by have:=of_decide_eq_false f; omega
   exact ζj ϱ (ih (k+1) _ _ ⟨rfl,c,fun j g l => .inl m⟩ (by omega) ⟨rfl,rfl,rfl,trivial⟩)
 ·have r:k=zs.length:=by simp at h; omega
  have e:Xm zs n = -1:=by
   unfold Xm;by_cases f:n<1
   ·rw [if_pos f]
   ·rw [if_neg f];exact Hs (fun j g=>(d j g (by omega)).elim (fun h=>absurd h f) id)
  exact ζr func109 ϱ ⟨X0 e.symm,rfl⟩
theorem Pm (n q:Int) (w:World) (hn:n<=9223372036854775807):Xf prog 108 #[.int .i64 n,.int .i64 q] w (X7 (.int .i64 (Qh n q)) w):=by
 exact ζe func108 ntmps108 ϱ (ζw (Xjc n q w hn) ϱ (ζr func108 ϱ ⟨rfl,rfl⟩))
theorem Xel (n q:Int) (w:World) (hn:n<=9223372036854775807):Xf prog 57 #[.int .i64 n,.int .i64 q] w (X7 (.int .i64 (Z5 n q)) w):=by
 have f:=Xdz (q:=q) hn;refine ζe func57 ntmps57 ϱ (ζw (Pm n q w hn) ϱ (ζg ϱ (fun a => ?_) fun a => ?_))
 ·have e:Z5 n q=0:=by unfold Z5; rw [if_pos (.inl (of_decide_eq_true a))]
  exact ζr func57 ϱ ⟨X0 e.symm,rfl⟩
 ·have c:=of_decide_eq_false a;refine ζw (Pm n q w hn) ϱ (ζg ϱ (fun b => ?_) fun b => ?_)
  ·have e:Z5 n q=0:=by unfold Z5; rw [if_pos (.inr (of_decide_eq_true b))]
   exact ζr func57 ϱ ⟨X0 e.symm,rfl⟩
  ·have d:=of_decide_eq_false b;have e:Z5 n q=Qh n q+1:=by unfold Z5; rw [if_neg (by omega)]
   exact ζw (Pm n q w hn) ϱ (ζj ϱ (ζr func57 ϱ ⟨X0 e.symm,rfl⟩))
theorem Xax (c:Conf) (p:Y4) (n:Int) (w:World):Xf prog 55 #[.agg (Zl c p).toArray,.int .i64 n] w (Grow (.bool (decide (1<=n) && decide (n<=c.most))) w):=by
 refine ζe func55 ntmps55 ϱ (ζn ϱ fun b g e1 e a f => ?_);refine ζg ϱ (fun d => ?_) fun d => ?_
 ·refine ζl e ϱ ?_;rw [decide_eq_true (show 1<=n from of_decide_eq_true d),ZZ];exact ζr func55 ϱ ⟨rfl,a⟩
 ·rw [decide_eq_false (show ¬ 1<=n from of_decide_eq_false d),YK];exact ζr func55 ϱ ⟨rfl,a⟩
theorem Pn (r:RR) (n:Int) (w:World) (hr:Rd .i64 w r.cp.ca r.c.classes) (hl:r.c.classes.length<=9223372036854775806):Xf prog 151 #[.agg (Ap r).toArray,.int .i64 n] w (Grow (.int .i64 (Xm r.c.classes n)) w):=by
 refine ζe func151 ntmps151 ϱ (ζn ϱ fun b c e1 d a e => ?_);exact ζl d ϱ (ζw (Xjf r.cp.ca r.cp.cc r.c.classes n c (hr.chg a) hl) ϱ (ζr func151 ϱ ⟨rfl,a⟩))
theorem S4 (r:RR) (M:RmM) (k:Int) (w:World) (h:Yz w r M):Xf prog 153 #[.agg (Ap r).toArray,.int .i64 k] w (Grow (.int .i64 (Yg M k:Nat)) w):=by
 refine ζe func153 ntmps153 ϱ (ζn ϱ fun rb n e1 c i p => ?_);refine ζl c ϱ (ζv (Ni r k n) ϱ fun t d => ?_);have a:=i.trans d;unfold Yg;rcases Nr r M k h.n with ⟨e,f⟩ | ⟨j,x,s,rfl,e,o,g,f⟩
 ·rw [e,f];exact ζy ϱ (ζr func153 ϱ ⟨rfl,a⟩)
 ·rw [e,f];refine ζf ϱ ?_;have q:=(List.getElem?_eq_some_iff.1 g).1;obtain ⟨pk,l,_⟩:=h.each j s x g o;have e5:s.opn.x.length=x.opn.length:=by rw [l.e5,XM]
  obtain ⟨sb,soff,m,b⟩:=(h.sr.chg a) j s g;refine ζl (d.heap' c) ϱ ?_;rw [m];exact ζi (j*7) ϱ (ζk ϱ (b 6 _ rfl) ϱ (ζr func153 ϱ ⟨X0 (by rw [e5]),a⟩))
theorem XjJ (r:RR) (M:RmM) (k n i:Int) (w:World) (h:Yz w r M) (hm:If M):Xf prog 165 #[.agg (Ap r).toArray,.int .i64 k,.int .i64 n,.int .i64 i] w (Grow (.int .i64 (X9 M k n i)) w):=by
 refine ζe func165 ntmps165 ϱ (ζn ϱ fun rb v e1 c l z => ?_);refine ζl c ϱ (ζv (Ni r k v) ϱ fun y d => ?_);have a:=l.trans d;unfold X9;rcases Nr r M k h.n with ⟨e,f⟩ | ⟨j,x,s,rfl,e,m,g,f⟩
 ·rw [e,f];exact ζy ϱ (ζr func165 ϱ ⟨rfl,a⟩)
 ·rw [e,f];refine ζf ϱ ?_;have A:=(List.getElem?_eq_some_iff.1 g).1;obtain ⟨pk,o,p⟩:=h.each j s x g m;obtain ⟨q,_⟩:=hm.sh j x m;obtain ⟨sb,soff,t,b⟩:=(h.sr.chg a) j s g;refine ζl (d.heap' c) ϱ ?_;rw [t];exact ζi (j*7) ϱ (Xa.loadC Xb (X4 s) rfl (by first | rfl | (simp; done) | (simp [*]; done) | (simp; omega)) (b) rfl (ζv (Xju s x pk n i y (o.grow a) q p) ϱ fun B u=>ζr func165 ϱ ⟨rfl,a.trans u⟩))
theorem XjK (r:RR) (M:RmM) (k:Int) (w:World) (h:Yz w r M) (hm:If M):Xf prog 164 #[.agg (Ap r).toArray,.int .i64 k] w (Grow (.tuple #[.agg (Lm M k).toArray,.bool (H6 M k)]) w):=by
 refine ζe func164 ntmps164 ϱ (ζn ϱ fun rb V e1 A B P=>ζn ϱ fun ob K e2 C n Q => ?_);have g:=n.heap' A;refine ζl g ϱ (ζv (Ni r k K) ϱ fun L i => ?_);have l:=i.heap' C;have f:=(B.trans n).trans i;unfold Lm H6;rcases Nr r M k h.n with ⟨p,q⟩ | ⟨j,x,s,rfl,p,D,t,q⟩
 ·rw [p,q];exact ζy ϱ (ζb ϱ (ζs l ϱ fun N u E R=>ζR func164 u ϱ ⟨rfl,f.since E (fun z O e=>by omega)⟩))
 ·rw [p,q];refine ζf ϱ ?_;have S:=(List.getElem?_eq_some_iff.1 t).1;obtain ⟨pk,F,T⟩:=h.each j s x t D;obtain ⟨G,_⟩:=hm.sh j x D;obtain ⟨sb,soff,H,m⟩:=(h.sr.chg f) j s t;refine ζl (i.heap' g) ϱ ?_;rw [H];refine ζi (j*7) ϱ (Xa.loadC Xb (X4 s) rfl (by first | rfl | (simp; done) | (simp [*]; done) | (simp; omega)) (m) rfl ?_);obtain ⟨pa,pb,pc,pd,ep⟩:∃ a b c d,Gj x=Jf a b c d:=by
   unfold Gj;split
   ·exact ⟨_,_,_,_,rfl⟩
   ·exact ⟨_,_,_,_,rfl⟩
  have I:=Xjv s x pk L (F.grow f) G;rw [ep] at I;show Xa _ _ (Eo (fun v w'=>v = .tuple #[.agg (Gj x).toArray,.bool (Lq x)]/\_)) _ _ _ _ _
  rw [ep];exact ζv I ϱ fun N o=>ζs (o.heap' l) ϱ fun W y J U=>ζR func164 y ϱ ⟨rfl,(f.trans o).since J (fun z O e=>by omega)⟩
theorem XlX {n a b:Int}:Q0 n a b=true↔a<=n/\n<=b:=by unfold Q0; simp
theorem D1:Zb c=true↔D7 c.size=true/\(1<=c.pages/\c.pages<=1024)/\Bb c.classes c.size=true/\c.keep.length=c.classes.length/\(∀ k,k ∈ c.keep->0<=k/\k<=1024) /\
 (1<=c.step/\c.step<=65536)/\(1<=c.slots/\c.slots<=4096)/\(1<=c.gens/\c.gens<=1023)/\(1<=c.most/\c.most<=D0 c):=by
 unfold Zb K9;simp only [XK,XlX,decide_eq_true_eq,Bool.not_eq_true',List.any_eq_false,Bool.not_eq_false,and_assoc]
theorem Et (h:Zb c=true->False):Value.int .i64 1 = .int .i64 (Be c):=by unfold Be; rw [if_neg h]
theorem Xig (h:Zb c=true):Value.int .i64 0 = .int .i64 (Be c):=by unfold Be; rw [if_pos h]
theorem Xc5:D0 c=0↔D7 c.size=false:=by
 unfold D0;by_cases h:D7 c.size=true
 ·rw [if_pos h,h];have a:=Kf.1 h;have b:64*8<=c.size*(c.size / 8):=ZD a.1 (by omega) (by omega) (by omega);constructor
  ·intro; omega
  ·intro h; cases h
 ·rw [if_neg h]; simpa using h
theorem Xee (c:Conf) (p:Y4) (w:World):Xf prog 82 #[.agg (Zl c p).toArray] w (Grow (.int .i64 (D0 c)) w):=by
 have no:(64<=c.size/\c.size<=4096/\c.size % 8=0->False)->Value.int .i64 0 = .int .i64 (D0 c):=fun h=>by unfold D0; rw [if_neg (fun i=>h (Kf.1 i))]
 refine ζe func82 ntmps82 ϱ (ζn ϱ fun b l e1 e d k=>ζl e ϱ (ζg ϱ (fun f => ?_) fun f => ?_))
 ·exact ζr func82 ϱ ⟨no (fun h=>by have:=of_decide_eq_true f; omega),d⟩
 ·have m:=of_decide_eq_false f;refine ζl e ϱ (ζg ϱ (fun g => ?_) fun g => ?_)
  ·exact ζr func82 ϱ ⟨no (fun h=>by have:=of_decide_eq_true g; omega),d⟩
  ·have n:=of_decide_eq_false g;refine ζl e ϱ (Xa.div Xb rfl (by omega) (Fi (by omega)) rfl (ζg ϱ (fun a => ?_) fun a => ?_))
   ·exact ζr func82 ϱ ⟨no (fun h=>by have:=h.2.2; simp [this] at a),d⟩
   ·have j:c.size % 8=0:=by simpa using a
    have a:0<=c.size / 8/\c.size / 8<=512:=by omega
    have o:0<=c.size*(c.size / 8):=ZG (by omega) a.1;have q:c.size*(c.size / 8)<=4096*512:=ZD (by omega) a.2 a.1 (by omega);refine Xa.loadb Xb rfl e rfl rfl ?_;refine Xa.loadb Xb rfl e rfl rfl ?_;refine Xa.div Xb rfl (by omega) (Fh (by omega) (by omega)) rfl ?_;refine Xa.arith Xb rfl (w64 (by omega)) rfl ?_;exact ζr func82 ϱ ⟨X0 (by unfold D0; rw [if_pos (Kf.2 ⟨by omega,by omega,j⟩)]),d⟩
theorem Xed (c:Conf) (p:Y4) (k:Int) (w:World) (hc:Yp w c p):Xf prog 60 #[.agg (Zl c p).toArray,.int .i64 k] w (Grow (.int .i64 (Am c k)) w):=by
 have g:=hc.size;unfold Kn at g;refine ζe func60 ntmps60 ϱ (ζn ϱ fun b q e1 e a n=>ζg ϱ (fun h => ?_) fun h => ?_)
 ·have l:=of_decide_eq_true h;exact ζr func60 ϱ ⟨X0 (by unfold Am; rw [if_neg (by omega)]),a⟩
 ·have l:=of_decide_eq_false h;refine ζl e ϱ (ζg ϱ (fun f => ?_) fun f => ?_)
  ·have m:=of_decide_eq_true f;exact ζr func60 ϱ ⟨X0 (by unfold Am; rw [if_neg (by omega)]),a⟩
  ·have m:=of_decide_eq_false f;obtain ⟨r,off,ea,d⟩:=(hc.chg a).classes k.toNat (by omega);obtain ⟨ca,cc,ka,kc⟩:=p;simp only at ea
   subst ea;exact Xa.quiet rfl Xo (by kernel_rfl) (Xi.adv Xb rfl (Xi.loadb Xb rfl e rfl rfl (Xi.loadb Xb rfl e rfl rfl (Xi.index Xb rfl (j:=k.toNat) (by omega) (by omega) (by first | rfl | omega | (simp; done) | (simp; omega)) rfl (Xi.load Xb rfl d rfl (Xi.call Xb rfl (fun w' o=>(Xjd c.size (c.classes.getD k.toNat 0) w' g.2).grow) rfl (Xi.nil fun s i=>ζa ϱ (ζr func60 ϱ ⟨X0 (by unfold Am; rw [if_pos (by omega)]),a.trans i⟩))))))))
theorem Xat (c:Conf) (p:Y4) (w:World) (hc:Yp w c p):Xf prog 36 #[.agg (Zl c p).toArray] w (Grow (.int .i64 (Be c)) w):=by
 have S:=hc.lc;refine ζe func36 ntmps36 ϱ (ζn ϱ fun b T e1 N O ac=>ζl N ϱ (ζv (Xee c p T) ϱ fun wL P => ?_));have i:=O.trans P;have l:=P.heap' N;have v:=hc.chg i;refine ζg ϱ (fun s => ?_) fun s => ?_
 ·exact ζr func36 ϱ ⟨Et (fun h=>by have:=(D1.1 h).1; rw [Xc5.1 (by simpa using s)] at this; cases this),i⟩
 ·have U:D7 c.size=true:=by
   cases h:D7 c.size with
   |true=>rfl
   |false=>rw [Xc5.2 h] at s; cases s
  refine ζl l ϱ (ζg ϱ (fun y => ?_) fun y => ?_)
  ·exact ζr func36 ϱ ⟨Et (fun h=>by have:=(D1.1 h).2.1; have:=of_decide_eq_true y; omega),i⟩
  ·refine ζl l ϱ (ζg ϱ (fun z => ?_) fun z => ?_)
   ·exact ζr func36 ϱ ⟨Et (fun h=>by have:=(D1.1 h).2.1; have:=of_decide_eq_true z; omega),i⟩
   ·refine ζl l ϱ (ζl l ϱ (ζv (Xje p.ca p.cc c.classes c.size wL v.classes S) ϱ fun V A => ?_));have o:=i.trans A;have q:=A.heap' l;have Q:=v.chg A;refine ζg ϱ (fun t => ?_) fun t => ?_
    ·exact ζr func36 ϱ ⟨Et (fun h=>by have:=(D1.1 h).2.2.1; simp [Gy,this] at t),o⟩
    ·refine ζl q ϱ (ζl q ϱ (ζg ϱ (fun B => ?_) fun B => ?_))
     ·exact ζr func36 ϱ ⟨Et (fun h=>by have:=(D1.1 h).2.2.2.1; simp [this] at B),o⟩
     ·have g2:=of_decide_eq_false y;have g3:=of_decide_eq_false z;have W:Bb c.classes c.size=true:=by unfold Gy at t; cases hh:Bb c.classes c.size <;> simp [hh] at t ⊢
      have g5:c.keep.length=c.classes.length:=by simp at B; omega
      refine Xa.loop (α:=Nat) (fun k => [(1,false,.pointer (some ⟨b,0,none⟩)),(3,false,.int .i64 k)])
       (fun k w'=>Xc Xe V w'/\k<=c.keep.length /\ ∀ j (h:j<c.keep.length),j<k->0<=c.keep[j]/\c.keep[j]<=1024) (fun k=>c.keep.length - k) 0 ⟨rfl,rfl,trivial⟩ ⟨Xc.refl _ _,XL _,fun _ _ h=>by omega⟩ ?_
      rintro k w4 ⟨u,hk,r⟩ ih;have f:=o.trans u;have d:=u.heap' q;have R:=Q.chg u;refine ζa ϱ (ζl d ϱ (ζg ϱ (fun h => ?_) fun h => ?_))
      ·have m:k<c.keep.length:=by simpa using h
       obtain ⟨b1,off,ea,g⟩:=R.keep k m;rw [Hq m] at g;obtain ⟨ca,cc,ka,kc⟩:=p;simp only at ea
       subst ea;refine ζl d ϱ (ζi k ϱ (ζk ϱ g ϱ (ζg ϱ (fun C => ?_) fun C => ?_)))
       ·exact ζr func36 ϱ ⟨Et (fun h=>by have:=(D1.1 h).2.2.2.2.1 _ (XJ m); have:=of_decide_eq_true C; omega),f⟩
       ·refine ζl d ϱ (ζi k ϱ (ζk ϱ g ϱ (ζg ϱ (fun D => ?_) fun D => ?_)))
        ·exact ζr func36 ϱ ⟨Et (fun h=>by have:=(D1.1 h).2.2.2.2.1 _ (XJ m); have:=of_decide_eq_true D; omega),f⟩
        ·refine ζj ϱ ?_;exact ih (k+1) _ _ ⟨u,m,fun j E ad=>by
          by_cases e:j=k
          ·subst e; exact ⟨by have:=of_decide_eq_false C; omega,by have:=of_decide_eq_false D; omega⟩
          ·exact r j E (by omega)⟩ (by omega) ⟨rfl,rfl,trivial⟩
      ·have ae:k=c.keep.length:=by simp at h; omega
       have g6:∀ x,x ∈ c.keep->0<=x/\x<=1024:=fun x hx=>by obtain ⟨j,E,rfl⟩:=List.mem_iff_getElem.1 hx; exact r j E (by omega)
       refine Xa.quiet rfl Xo (by kernel_rfl) (Xi.adv Xb rfl (Xi.loadb Xb rfl d rfl rfl ?_));refine Xi.fork Xb rfl rfl rfl (fun F => ?_) (fun F => ?_)
       ·exact Xi.nil fun n a=>ζa ϱ (ζr func36 ϱ ⟨Et (fun h=>by have:=(D1.1 h).2.2.2.2.2; have:=of_decide_eq_true F; omega),f.trans a⟩)
       refine Xi.loadb Xb rfl d rfl rfl ?_;refine Xi.fork Xb rfl rfl rfl (fun G => ?_) (fun G => ?_)
       ·exact Xi.nil fun n a=>ζa ϱ (ζr func36 ϱ ⟨Et (fun h=>by have:=(D1.1 h).2.2.2.2.2; have:=of_decide_eq_true G; omega),f.trans a⟩)
       refine Xi.loadb Xb rfl d rfl rfl ?_;refine Xi.fork Xb rfl rfl rfl (fun H => ?_) (fun H => ?_)
       ·exact Xi.nil fun n a=>ζa ϱ (ζr func36 ϱ ⟨Et (fun h=>by have:=(D1.1 h).2.2.2.2.2; have:=of_decide_eq_true H; omega),f.trans a⟩)
       refine Xi.loadb Xb rfl d rfl rfl ?_;refine Xi.fork Xb rfl rfl rfl (fun I => ?_) (fun I => ?_)
       ·exact Xi.nil fun n a=>ζa ϱ (ζr func36 ϱ ⟨Et (fun h=>by have:=(D1.1 h).2.2.2.2.2; have:=of_decide_eq_true I; omega),f.trans a⟩)
       refine Xi.loadb Xb rfl d rfl rfl ?_;refine Xi.fork Xb rfl rfl rfl (fun J => ?_) (fun J => ?_)
       ·exact Xi.nil fun n a=>ζa ϱ (ζr func36 ϱ ⟨Et (fun h=>by have:=(D1.1 h).2.2.2.2.2; have:=of_decide_eq_true J; omega),f.trans a⟩)
       refine Xi.loadb Xb rfl d rfl rfl ?_;refine Xi.fork Xb rfl rfl rfl (fun K => ?_) (fun K => ?_)
       ·exact Xi.nil fun n a=>ζa ϱ (ζr func36 ϱ ⟨Et (fun h=>by have:=(D1.1 h).2.2.2.2.2; have:=of_decide_eq_true K; omega),f.trans a⟩)
       refine Xi.loadb Xb rfl d rfl rfl ?_;refine Xi.fork Xb rfl rfl rfl (fun L => ?_) (fun L => ?_)
       ·exact Xi.nil fun n a=>ζa ϱ (ζr func36 ϱ ⟨Et (fun h=>by have:=(D1.1 h).2.2.2.2.2; have:=of_decide_eq_true L; omega),f.trans a⟩)
       refine Xi.loadb Xb rfl d rfl rfl (Xi.loads Xb rfl d rfl rfl (Xi.call Xb rfl (fun w' af=>Xee c p w') rfl (Xi.nil fun n a=>ζa ϱ (ζg ϱ (fun M => ?_) fun M => ?_))))
       ·exact ζr func36 ϱ ⟨Et (fun h=>by have:=(D1.1 h).2.2.2.2.2; have:=of_decide_eq_true M; omega),f.trans a⟩
       have:=of_decide_eq_false F;have:=of_decide_eq_false G;have:=of_decide_eq_false H;have:=of_decide_eq_false I;have:=of_decide_eq_false J;have:=of_decide_eq_false K;have:=of_decide_eq_false L;have:=of_decide_eq_false M;exact ζr func36 ϱ ⟨Xig (D1.2 ⟨U,by omega,W,g5,g6,by omega,by omega,by omega,by omega⟩),f.trans a⟩
theorem Rd.of {k:IntKind} {c:Array Value} {t:TypeId} (h:w.heap[b]? = some (.cells c t fz)) (hc:c=(zs.map (Value.int k)).toArray):Rd k w (some ⟨b,0,none⟩) zs:=fun i a =>
 ⟨b,0,rfl,by rw [Yi h,hc]; simp [a]⟩
theorem Pe (zs:List Int) (n:Int) : -1<=Xm zs n:=by
 unfold Xm;split
 ·omega
 ·by_cases h:zs.any (fun s=>decide (n<=s))=true
  ·have:=Vy.2 h; omega
  ·rw [Hs (fun j b=>by
    by_cases a:n<=zs[j]
    ·exact absurd (List.any_eq_true.2 ⟨zs[j],XJ b,decide_eq_true a⟩) h
    ·exact decide_eq_false a)]
   omega
theorem Xho (c:Conf) (M:RmM) (size:Int) (h:¬ (size<1\/c.most<size)):Y7 c M size=if (0<=Xm c.classes size/\Yg M (Xm c.classes size)=0/\M.pl.free.length=0)\/(Xm c.classes size<0/\(M.pl.free.length:Int)<Z5 size c.size) then 5 else 0:=by
 have b:=Pe c.classes size;unfold Y7 Cp;rw [if_neg h];by_cases e:Xm c.classes size = -1
 ·rw [if_pos e];by_cases a:(M.pl.free.length:Int)<Z5 size c.size
  ·rw [if_pos a,if_pos (.inr ⟨by omega,a⟩)]
  ·rw [if_neg a,if_neg (by omega)]
 ·rw [if_neg e];by_cases a:Yg M (Xm c.classes size)=0/\M.pl.free.length=0
  ·rw [if_pos (by omega),if_pos (.inl ⟨by omega,a⟩)]
  ·rw [if_neg (by omega),if_neg (by omega)]
theorem Xay (r:RR) (M:RmM) (size:Int) (w:World) (h:Yz w r M) (hr:Rd .i64 w r.cp.ca r.c.classes) (hl:r.c.classes.length<=16) (hmost:r.c.most<=2097152):Xf prog 152 #[.agg (Ap r).toArray,.int .i64 size] w (Grow (.int .i64 (Y7 r.c M size)) w):=by
 have k:r.p.f.x.length=M.pl.free.length:=by rw [h.p.ef,XM]
 have B:=Pe r.c.classes size;refine ζe func152 ntmps152 ϱ (ζn ϱ fun rb t e1 l q y => ?_);refine ζl l ϱ (ζv (Xax r.c r.cp size t) ϱ fun u m => ?_);have i:=m.heap' l;have f:=q.trans m;by_cases h0:size<1\/r.c.most<size
 ·have e:Y7 r.c M size=3:=by unfold Y7; rw [if_pos h0]
  rw [e];have z:(!(decide (1<=size) && decide (size<=r.c.most)))=true:=by
   rcases h0 with h0 | h0
   ·rw [decide_eq_false (show ¬ 1<=size by omega)]; rfl
   ·rw [decide_eq_false (show ¬ size<=r.c.most by omega),YU]; rfl
  exact ζy ϱ (ζr func152 ϱ ⟨rfl,f⟩)
 ·rw [Xho r.c M size h0];refine ζF ϱ (by rw [decide_eq_true (show 1<=size by omega),decide_eq_true (show size<=r.c.most by omega)]; rfl) (ζl i ϱ (ζv (Pn r size u (hr.chg f) (by omega)) ϱ fun v n => ?_));have c:=n.heap' i;have d:=f.trans n;by_cases x:0<=Xm r.c.classes size
  ·refine ζy ϱ (ζl c ϱ (ζv (S4 r M (Xm r.c.classes size) v (h.grow d)) ϱ fun C o => ?_));have g:=d.trans o;by_cases p:Yg M (Xm r.c.classes size)=0
   ·refine ζY ϱ (by rw [p]; rfl) (ζl (o.heap' c) ϱ ?_);rw [k];by_cases j:M.pl.free.length=0
    ·rw [if_pos (.inl ⟨x,p,j⟩)];exact ζY ϱ (by rw [j]; rfl) (ζr func152 ϱ ⟨rfl,g⟩)
    ·rw [if_neg (by omega)];exact ζF ϱ (by simpa using j) (ζd 14 Xe (by kernel_rfl) ϱ fun a=>Xd.no Xb a rfl (decide_eq_false (by omega)) rfl (δn a ϱ fun s b=>ζr func152 ϱ ⟨rfl,g.trans b⟩))
   ·rw [if_neg (by omega)];exact ζF ϱ (by simpa using p) (ζd 14 Xe (by kernel_rfl) ϱ fun a=>Xd.no Xb a rfl (decide_eq_false (by omega)) rfl (δn a ϱ fun s b=>ζr func152 ϱ ⟨rfl,g.trans b⟩))
  ·refine ζf ϱ (ζd 14 Xe (by kernel_rfl) ϱ fun a=>Xd.yes Xb a rfl (decide_eq_true (by omega)) rfl (δl a c ϱ (δl a c ϱ (δw a (fun w' A=>Xel size r.c.size w' (by omega)) ϱ (δn a ϱ fun s b => ?_)))));rw [k];by_cases j:(M.pl.free.length:Int)<Z5 size r.c.size
   ·rw [if_pos (.inr ⟨by omega,j⟩)];exact ζy ϱ (ζr func152 ϱ ⟨rfl,d.trans b⟩)
   ·rw [if_neg (by omega)];exact ζf ϱ (ζr func152 ϱ ⟨rfl,d.trans b⟩)
def nilIL:IL:=⟨none,0,[]⟩
def Iw (k:Int) (b:Nat):RS:=⟨⟨nilIL,nilIL⟩,k,b,nilIL,none,0,[],nilIL⟩
def El (c:Conf) (n:Nat):List RS:=(List.range n).map fun k=>Iw (k:Nat) (Am c (k:Nat)).toNat
theorem XeO {s:RS} (h:(El c n)[k]? = some s):k<n/\s=Iw (k:Nat) (Am c (k:Nat)).toNat:=by
 unfold El at h;rw [XN,YV] at h;obtain ⟨j,d,e⟩:=h;obtain ⟨a,b⟩:=List.getElem?_eq_some_iff.1 d;simp only [YC] at a;rw [List.getElem_range] at b;subst b;exact ⟨a,e.symm⟩
theorem XeP (c:Conf) (n:Nat):El c (n+1)=El c n ++ [Iw (n:Nat) (Am c (n:Nat)).toNat]:=by
 unfold El;rw [Y2,XI]; rfl
theorem Xkl (w:World) (k:Int) (b:Nat):Ys w (Iw k b) (O3 k b) ⟨[],[]⟩:=by
 have a:Aw w nilIL:=⟨⟨Rd.nil _ _ _,by simp [nilIL]⟩,XE _,(by intro b off s e; cases e)⟩;exact ⟨⟨a,a,rfl,rfl⟩,a,a,(fun i l c=>by simp [Iw] at c),(by intro b off s e; cases e),XE _,(fun l c=>by simp [Iw] at c),rfl,rfl,rfl,rfl,rfl⟩
theorem Xkm (S:Nat->Prop) (k:Int) (b:Nat):Z0 S (Iw k b):=by
 have a:Xj S (none:Option Addr):=fun b off s e=>by cases e
 exact ⟨a,a,a,a,a,fun l c=>by simp [Iw] at c⟩
theorem Kv {l:List Value} {t:TypeId} (h:w.heap[b]? = some (.cells l.toArray t fz)):∀ i u,l[i]? = some u -> ∃ a',(some ⟨b,0,none⟩:Option Addr)=some a'/\w.cell? (a'.add i)=some u:=fun i u a =>
 ⟨_,rfl,by rw [B9,Yi h,XQ]; simpa using a⟩
theorem XjH (c:Conf) (p:Y4) (w:World) (hc:Yp w c p) (hm:Zb c=true) (hp:c.pages<=512):Xf prog 85 #[.agg (Zl c p).toArray] w
 (fun v w' => ∃ r,v = .tuple #[.agg (Ap r).toArray,.int .i64 0]/\r.c=c/\r.cp=p/\Yz w' r (G9 c 0)/\(∀ S:Nat->Prop,(∀ z,S z->z<w.heap.size)->Bq S r)/\Xc Xe w w'):=by
 have bn:maxLen=9223372036854775807:=rfl;have hf:=Ye hm;have bo:=hf.n;have bp:=hf.pages;obtain ⟨N,hN⟩:=XD (show 0<=c.pages by omega);have em:Be c=0:=by unfold Be; rw [if_pos hm]
 refine ζe func85 ntmps85 ϱ (ζn ϱ fun cb w1 e1 ap aq bq=>ζn ϱ fun ob w2 e2 ar ab br => ?_);have y:=aq.trans ab;have V:=ab.heap' ap;refine ζl V ϱ (ζv (Xat c p w2 (hc.chg y)) ϱ fun w3 D => ?_);rw [em];have W:=D.heap' V;refine ζf ϱ (ζl W ϱ ?_);rw [hN];refine ζc ϱ (Xjl N w3 (by omega)) ?_;rintro _ w4 ⟨rp,rfl,a0,ac,ad,P⟩;refine ζa ϱ (ζn ϱ fun pb w5 e5 au av bs=>ζs au ϱ fun w6 ae aw bt => ?_);have g:=av.since aw (fun z a e=>by omega);have a1:=g.heap' (P.heap' W);refine ζl a1 ϱ (ζl ae ϱ (ζb ϱ (ζn ϱ fun tb w7 e7 ax ay bu=>ζs ax ϱ fun w8 af az bv => ?_)));have A:=ay.since az (fun z a e=>by omega);have L:=(((y.trans D).trans P).trans g).trans A;have ba:=((D.trans P).trans g).size;refine Xa.loop (α:=Nat × Value) (fun x => [(1,false,.pointer (some ⟨cb,0,none⟩)),(2,false,.pointer (some ⟨ob,0,none⟩)),(6,false,.pointer (some ⟨tb,0,none⟩)),(7,false,.int .i64 x.1)])
  (fun x w'=>x.1<=c.classes.length/\w'.heap[tb]? = some (.cells (Zl c p ++ [Xn rp.o,Xn rp.f,x.2,.slice none 0 0,.int .i64 0]).toArray 38 (0,0))/\Xl w8.heap.size 112 7 w' x.2 x.1 (fl X4 (El c x.1))/\Xc (fun z=>z=tb) w8 w') (fun x=>c.classes.length - x.1) (0,.slice none 0 0) ⟨rfl,rfl,rfl,rfl,trivial⟩ ⟨XL _,af,⟨rfl,.inl ⟨rfl,rfl⟩⟩,Xc.refl _ _⟩ ?_
 rintro ⟨i,v⟩ w9 ⟨hi,j,Q,m⟩ ih;simp only at hi j Q
 have a3:=m.heap (A.heap' a1) (by omega);have a4:=L.since m (fun z a e=>by have:=L.size; omega);have bc:=m.size;refine ζa ϱ (ζl a3 ϱ (ζg ϱ (fun a5 => ?_) fun a5 => ?_))
 ·have E:i<c.classes.length:=by have:=of_decide_eq_true a5; omega
  have bw:=U0 hm E;obtain ⟨bk,B⟩:=XD (show 0<=Am c i by omega);refine ζd 11 (fun z=>z=tb\/w8.heap.size<=z) (by kernel_rfl) ϱ fun d=>Xd.loadsAt (3) Xb d rfl rfl rfl a3 (by first | exact fun h=>h | (intro h; omega) | assumption) rfl rfl (δv d (fun w' b0=>Xed c p (i:Nat) w' (hc.chg (a4.since b0 (fun z a e=>by have:=L.size; rcases e with e | e <;> omega)))) ϱ (Xd.build Xb d rfl rfl ?_));refine Xd.turn2 d rfl ?_ ?_
  ·intro wa F;refine Xq.loadb Xb d rfl (F.heap' j) rfl rfl (Xd.turn1 d rfl fun wb T=>Xq.buildSlice Xb d rfl (fun _=>rfl) fun b7 wc ec a6 G bx=>Xd.turn1 d rfl fun wd H => ?_);have f:=((F.trans T).trans G).trans H;have l:=Q.chg f (fun _ _ h=>h);have n:=H.heap' a6;rw [B] at n;refine Xq.appendS Xb d rfl (base:=w8.heap.size) (xs:=fl X4 (El c i)) (news:=X4 (Iw (i:Nat) bk)) l (by have:=f.size; omega) (fun e=>by cases e) (fun b M _ => .inr (World.ownsRow.lt l b M.symm).1) rfl (Kv n) (XaN _) ⟨by omega,by show (i+1)*136<=_; omega⟩ (fun _=>rfl) ?_;intro v2 wf o I b1;obtain ⟨va,vn,vc,rfl⟩:=Xl.isSlice o;refine Xd.turn1 d rfl ?_;intro wg t;refine Xq.store Xb d rfl (t.heap' (I.heap (f.heap' j) (fun e=>by have:=(World.ownsRow.lt l tb (Eq.symm e)).1; omega))) (by first | (intro h; exact rfl) | (intro h; omega)) rfl rfl rfl fun wh O J b2=>δn d ϱ fun wi u => ?_;exact ζj ϱ (ih (i+1,.slice va vn vc) _ _ ⟨E,u.heap' O,by rw [XeP,J2,K2,B,XA]; exact (((o.chg t (fun _ _ h=>h)).chg J (fun b M e=>by have:=(World.ownsRow.lt o b M.symm).1; replace e:b=tb:=e; omega)).chg u (fun _ _ h=>h)),(((((m.trans f.gr).since I (fun z a e=>by have:=(World.ownsRow.lt l z e.symm).1; omega)).trans t.gr).trans J).trans u.gr)⟩ (by simp only; omega) ⟨rfl,rfl,rfl,rfl,trivial⟩)
  ·intro wa F;refine Xq.buildSlice Xb d rfl (fun _=>rfl) fun b7 wb eb a6 T bz=>Xd.turn1 d rfl fun wc G=>Xq.loadb Xb d rfl (((F.trans T).trans G).heap' j) rfl rfl (Xd.turn1 d rfl fun wd H => ?_);have f:=((F.trans T).trans G).trans H;have l:=Q.chg f (fun _ _ h=>h);have n:=H.heap' (G.heap' a6);rw [B] at n;refine Xq.appendS Xb d rfl (base:=w8.heap.size) (xs:=fl X4 (El c i)) (news:=X4 (Iw (i:Nat) bk)) l (by have:=f.size; omega) (fun e=>by cases e) (fun b M _ => .inr (World.ownsRow.lt l b M.symm).1) rfl (Kv n) (XaN _) ⟨by omega,by show (i+1)*136<=_; omega⟩ (fun _=>rfl) ?_;intro v2 wf o I b1;obtain ⟨va,vn,vc,rfl⟩:=Xl.isSlice o;refine Xd.turn1 d rfl ?_;intro wg t;refine Xq.store Xb d rfl (t.heap' (I.heap (f.heap' j) (fun e=>by have:=(World.ownsRow.lt l tb (Eq.symm e)).1; omega))) (by first | (intro h; exact rfl) | (intro h; omega)) rfl rfl rfl fun wh O J b2=>δn d ϱ fun wi u => ?_;exact ζj ϱ (ih (i+1,.slice va vn vc) _ _ ⟨E,u.heap' O,by rw [XeP,J2,K2,B,XA]; exact (((o.chg t (fun _ _ h=>h)).chg J (fun b M e=>by have:=(World.ownsRow.lt o b M.symm).1; replace e:b=tb:=e; omega)).chg u (fun _ _ h=>h)),(((((m.trans f.gr).since I (fun z a e=>by have:=(World.ownsRow.lt l z e.symm).1; omega)).trans t.gr).trans J).trans u.gr)⟩ (by simp only; omega) ⟨rfl,rfl,rfl,rfl,trivial⟩)
 ·have b3:i=c.classes.length:=by have:=of_decide_eq_false a5; omega
  subst b3;have C:(El c c.classes.length).length=c.classes.length:=by unfold El; simp
  obtain ⟨sa,scap,rfl,ah,E,a7,U⟩:=Xl.rowsN Q Pv C;rw [C] at j a7
  let R:RR:=⟨c,p,rp,El c c.classes.length,sa,scap,[],none,0,0⟩
  have a8:Z9 w9 tb R:=by
   show w9.heap[tb]? = some (.cells (Zl c p ++ [Xn rp.o,Xn rp.f,.slice sa (El c c.classes.length).length scap,.slice none 0 0,.int .i64 0]).toArray _ _)
   rw [C]; exact j
  refine ζl a8 ϱ ?_;refine ζs (m.heap ((((D.trans P).trans g).trans A).heap' ar) (by omega)) ϱ fun wa ai K c0 => ?_;have b4:∀ S:Nat->Prop,Xj S (none:Option Addr):=fun S b off s e=>by cases e
  have bf:=D.size;have b5:Qv wa rp (C2 N):=by
   have h9:Qv w9 rp (C2 N):=by
    have h8:=(a0.grow g).grow A;exact ⟨h8.o.far (fun b off s e a=>by have:=a0.o.lt b off s e; have:=g.size; replace a:b=tb:=a; omega) m,h8.f.far (fun b off s e a=>by have:=a0.f.lt b off s e; have:=g.size; replace a:b=tb:=a; omega) m,h8.eo,h8.ef⟩
   exact ⟨h9.o.far (fun b off s e a=>by have:=ac b off s e; replace a:b=ob:=a; omega) K,h9.f.far (fun b off s e a=>by have:=ad b off s e; replace a:b=ob:=a; omega) K,h9.eo,h9.ef⟩
  have aj:Xj (fun z=>z=ob) sa:=fun b off s e a=>by have:=U b off s e; replace a:b=ob:=a; omega
  have ak:∀ S:Nat->Prop,(∀ z,S z->z<w.heap.size)->Bq S R:=fun S hS=>⟨ac.out (fun z a=>by have:=hS z a; have:=y.size; omega),ad.out (fun z a=>by have:=hS z a; have:=y.size; omega),fun b off s e a=>by have:=U b off s e; have:=hS b a; omega,fun s hs=>by
   obtain ⟨k,hk,rfl⟩:=QE hs;obtain ⟨_,e⟩:=XeO (XB hk);rw [e]; exact Xkm S _ _,b4 S,fun q hq=>by cases hq⟩
  have b6:Yz wa R (G9 c 0):=by
   refine ⟨by show Qv wa rp (C2 c.pages.toNat); rw [hN,XA]; exact b5,ah.far aj K,E.grow K.size,by show (El c c.classes.length).length<=scap; rw [C]; exact a7,by show (El c _).length=(Fe c _).length; unfold El Fe; simp,by show (El c c.classes.length).length<=16; omega,fun k s x h1 h2 => ?_,(fun i x hx=>by simp [R] at hx),(by intro b off s e; cases e),XE _,by show 0<=1024; omega,rfl,(fun q hq=>by cases hq),rfl⟩;obtain ⟨_,rfl⟩:=XeO h1;obtain ⟨_,rfl⟩:=M9 h2;exact ⟨⟨[],[]⟩,Xkl _ _ _,fun e he=>by cases he⟩
  exact ζR func85 ai ϱ ⟨R,rfl,rfl,rfl,b6,ak,(a4.since K (fun z a e=>by omega))⟩
end Go.Proofs.YtohjeeapehmkcaaGreatDoor
