/-
  Texts put together: Hp4, Aw23, Laws20, Laws20b, Laws23, Act23, Lgo, Lay, By1, By2, Bcnt, Ref10, Sr16, Laws23b, Ref10b, Ref10c, Tot22, Ref23, Ref23b, Ref23c.
-/
import Derived.Test.YtdeihcnepljjaaaGreatDoorPt10
import Derived.KernelRfl
import Derived.Test.YtdeihcnepljjaaaGreatDoorQRule24
import Derived.Test.YtdeihcnepljjaaaGreatDoorQRule25
import Derived.Test.YtdeihcnepljjaaaGreatDoorQRule12
import Derived.Test.YtdeihcnepljjaaaGreatDoorQRule21
import Derived.Test.YtdeihcnepljjaaaGreatDoorQRule9
import Derived.Test.YtdeihcnepljjaaaGreatDoorQRule26
set_option linter.unusedVariables false
set_option maxRecDepth 100000
namespace Go.Proofs.YtdeihcnepljjaaaGreatDoor
open Go.RowKit
open Go renaming World→dD,Value→dE
open Bool renaming and_eq_true->XK
open Decidable renaming not_not->YL
open Int renaming toNat_natCast->XB,eq_ofNat_of_zero_le->XE,sub_self->YI,mul_comm->YQ,tdiv_eq_ediv_of_nonneg->YT
open List renaming getD_eq_getElem?_getD->XA,getElem?_eq_some_iff->XC,getElem?_eq_getElem->XD,length_set->XG,length_replicate->XI,map_append->XL,getElem?_map->XN,mem_map->XP,length_map->XV,take_append_drop->XY,getElem?_replicate->ZE,length_range->ZM,mem_cons_self->ZP,nil_append->ZS,getElem?_set->ZX,map_set->ZZ,eq_of_mem_replicate->YA,length_eq_zero_iff->YB,replicate_succ->YF,set_append_left->YK,take_of_length_le->YP,range_succ->QB,ext_getElem?->QD,length_drop->QH,append_nil->QP,getElem_of_mem->QU
open Nat renaming le_refl->XF,zero_le->XQ,zero_add->XT,mul_one->ZQ
open Go.Proofs.Tryz (func11 func12 func134 func135 func18 func19 func21 func22 func23 func24 func25 func26 func29 func30 func31 func32 func33 func34 func59 func6 func76 func77 func8 func81 func84 ntmps11 ntmps12 ntmps134 ntmps135 ntmps18 ntmps19 ntmps21 ntmps22 ntmps23 ntmps24 ntmps25 ntmps26 ntmps29 ntmps30 ntmps31 ntmps32 ntmps33 ntmps34 ntmps59 ntmps6 ntmps76 ntmps77 ntmps8 ntmps81 ntmps84 prog)
variable {A:Ar}{V:ArV}{c:Conf}{l':IL}{ahead by' cS h cH size cN u who z:Int}{lg:List (Nat×List Nat)}{th:List (Option ThM)}{ps:List IL}{bs l p zs:List Int}{l2 ws:List Nat}{cs rest xs:List dE}{mo:Mo}{N at' b base cap d fuel g i j k lm lo m n o qb sz t tm ty vb xb y:Nat}{fz:Nat×Nat}{f:Nat->Int}{G:Nat->Pg}{B C F F' Fr Q S S' T X:Nat->Prop}{pd pd2:Option (Nat×PlcM)}{a:Option Addr}{pg:PgL}{pl':PlM}{q:Plc}{R:Rm}{M:RmM}{r:SR}{x x':Sm}{s s':StM}{P:Ap}{α:Type}{v:dE}{w w' w'' w0 w1 w2:dD}{cells:α->List dE}
structure Hv(c:Conf)(n0:Nat)(w0 w:dD)(F:Nat->Prop)(S:Sto)(H:Nat)(P:Ap)(x:HpM):Prop where
 hm:Hm c n0 w0 w F S H P x.st x.tb
 dA:S.R.dA=x.st.rm.tot
 ok:x.Ok c
def K5(c:Conf)(n0:Nat)(w0 w:dD)(F:Nat->Prop)(S:Sto)(H:Nat)(P:Ap)(x:HpM)(e g k:Int)(l:List Int)(v:dE)(w':dD):Prop:=
 ∃b F' S',v=XbX e g b k/\Yc w.heap.size F' l b w'/\Hv c n0 w0 w' F' S' H P x/\(∀z,F' z->F z\/w.heap.size<=z)/\Xc (Zz F P) w w'/\S'.G=S.G
section
variable {c:Conf}{n0:Nat}{w0 w w':dD}{F:Nat->Prop}{S:Sto}{H:Nat}{P:Ap}{s:StM}{t:TbM}{x x':HpM}{e g k:Int}{l:List Int}{v:dE}
theorem Hv.bQ(h:Hv c n0 w0 w F S H P x)(hc:Xc Xe w w'):Hv c n0 w0 w' F S H P x:={h with hm:=h.hm.bQ hc}
theorem Hv.boxed(h:Hv c n0 w0 w F S H P x){b ty:Nat}(hb:¬F b)(hn:n0<=b/\w0.heap.size<=b)(hP:¬Ac P b/\H≠b)(hk:kd w b=some (some ty))(ht:ty≠352/\ty≠348/\ty≠3)(hc:Xc (λq=>q=b) w w'):Hv c n0 w0 w' F S H P x:=
 {h with hm:=h.hm.boxed hb hn hP hk ht hc}
theorem T0(h:Hv c n0 w0 w F S H P x)(n:Int)(hn : -9223372036854775808<=n/\n<=9223372036854775807):Xf prog 18 #[Cj H,.int .i64 n] w
 (K5 c n0 w0 w F S H P (A6 c x n) (X0 x.tb n) 0 ((if X0 x.tb n=0 then 2 else 0)+(1+((A6 c x n).st.rm.tot-x.st.rm.tot))) []):=by
 have t:=h.hm.low';have W:=h.hm.since0;have a0:=h.hm.tb.lt;have a1:=Xg h.hm.obj;have D:=h.ok.free n;refine aR func18 ntmps18 aA (bC aA λa w1 e1 T N a2=>bC aA λd w2 e2 U E a3=>bC aA λb O e3 Q u a4=>?_);have G:=u.bP (E.bP T);have I:=u.bP U;have g:=(N.trans E).trans u;have J:=g.size;have L:=h.bQ g;have K:∀q,w.heap.size<=q -> ¬Zz F P q:=λq s e=>by
  rcases e with e|e|e
  .have:=t q e;omega
  .omega
  .omega
 refine bB G aA (bB I aA (aP aA (T3 L.hm L.dA n hn (k:=52) (cap:=[.pointer (some ⟨a,0,none⟩),.pointer (some ⟨d,0,none⟩)]) (z:=2) (by omega) (λp w' v=>Xjp (L.hm.bQ v) (Zc x.tb n) n hn (v.cell (Cu (off:=0) G rfl) id) (v.cell (Cu (off:=0) I rfl) id) (K a (by omega)) (K d (by omega)))) ?_));rintro _ w4 i;refine aN aA ?_;by_cases p:X0 x.tb n=0
 .have eX:A6 c x n=⟨Bn c x.st (Zc x.tb n),Cq x.tb n⟩:=by unfold A6;rw[bK p]
  rw[bK p] at i;rw[eX] at D⊢;rw[bK p];obtain⟨bv,r,rfl,y,M,j,l⟩:=i;obtain⟨ra,rc,rfl,hr,A⟩:=y;have m:¬Ac P b:=λe=>by rcases e with e|e <;> omega
  have o:=l.heap Q (show ¬Zz F P b from λe=>by
   rcases e with e|e
   .have:=t b e;omega
   .exact m e)
  have B:¬r b:=λe=>by
   rcases j b e with e|e
   .have:=t b e;omega
   .omega
  refine bF o aA λV C f R=>?_;exact aK func18 C aA ⟨_,r,_,rfl,(((show Yc O.heap.size r _ (.slice ra _ rc) _ from⟨ra,rc,rfl,hr,A⟩).bR f (λq e=>.inl (.inl (by omega)))).low J (λ_ _ _ h=>h)),⟨(M.boxed B (by omega) ⟨m,by omega⟩ (X1 o) (by decide) f),rfl,D⟩,λq s=>(j q s).imp id (by omega),((g.gr.trans l)).sn f,rfl⟩
 .have eX:A6 c x n=x:=by unfold A6;rw[bJ p]
  rw[bJ p] at i;rw[eX,bJ p,YI];obtain⟨bv,r,rfl,y,M,j,l⟩:=i;obtain⟨ra,rc,rfl,hr,A⟩:=y;have m:¬Ac P b:=λe=>by rcases e with e|e <;> omega
  have o:=l.heap Q (show ¬Zz F P b from λe=>by
   rcases e with e|e
   .have:=t b e;omega
   .exact m e)
  have B:¬r b:=λe=>by
   rcases j b e with e|e
   .have:=t b e;omega
   .omega
  refine bF o aA λV C f R=>?_;exact aK func18 C aA ⟨_,r,_,rfl,(((show Yc O.heap.size r _ (.slice ra _ rc) _ from⟨ra,rc,rfl,hr,A⟩).bR f (λq e=>.inl (.inl (by omega)))).low J (λ_ _ _ h=>h)),⟨(M.boxed B (by omega) ⟨m,by omega⟩ (X1 o) (by decide) f),rfl,h.ok⟩,λq s=>(j q s).imp id (by omega),((g.gr.trans l)).sn f,rfl⟩
theorem XaV(h:Hv c n0 w0 w F S H P x)(n i m:Int)(hn : -9223372036854775808<=n/\n<=9223372036854775807)(hi : -9223372036854775808<=i/\i<=9223372036854775807)(hm : -9223372036854775808<=m/\m<=9223372036854775807):Xf prog 19 #[Cj H,.int .i64 n,.int .i64 i,.int .i64 m] w
 (K5 c n0 w0 w F S H P (D7 c x n i m) (B9 x n i m) 0 (0+(1+((D7 c x n i m).st.rm.tot-x.st.rm.tot))) (Jx c x n i m)):=by
 have B:=h.hm.low';have a3:=h.hm.since0;have a4:=h.hm.tb.lt;have a5:=Xg h.hm.obj;have J:=h.ok.read n i m;refine aR func19 ntmps19 aA (bC aA λa w1 e1 W Q a6=>bC aA λd w2 e2 hd K a7=>bC aA λd' a8 a9 R t a1=>bC aA λb T e3 U v aa=>?_);have L:=v.bP (t.bP (K.bP W));have g:=((Q.trans K).trans t).trans v;have M:=g.size;have N:=h.bQ g;have C:∀q,w.heap.size<=q -> ¬Zz F P q:=λq A e=>by
  rcases e with e|e|e
  .have:=B q e;omega
  .omega
  .omega
 refine bB L aA (aP aA (T3 N.hm N.dA n hn (k:=55) (cap:=[.pointer (some ⟨a,0,none⟩),.pointer (some ⟨d,0,none⟩),.pointer (some ⟨d',0,none⟩)]) (z:=0) (by omega) (λj w' y=>Xjq (N.hm.bQ y) (Zc x.tb n) i m hi hm (y.cell (Cu (off:=0) L rfl) id) (y.cell (Cu (off:=0) (v.bP (t.bP hd)) rfl) id) (y.cell (Cu (off:=0) (v.bP R) rfl) id) (C a (by omega)) (C d (by omega)) (C d' (by omega)))) ?_);rintro _ w4 l;refine aN aA ?_;by_cases j:X0 x.tb n=0
 .have eX:D7 c x n i m=⟨Co c x.st (Zc x.tb n) i m,x.tb⟩:=by unfold D7;rw[bK j]
  have eE:B9 x n i m=Qo x.st (Zc x.tb n) i m:=by unfold B9;rw[bK j]
  have eB:Jx c x n i m=Cp c x.st (Zc x.tb n) i m:=by unfold Jx;rw[bK j]
  rw[bK j] at l;rw[eX] at J⊢;rw[eE,eB];obtain⟨bv,u,rfl,D,O,o,p⟩:=l;obtain⟨ra,rc,rfl,hr,E⟩:=D;have r:¬Ac P b:=λe=>by rcases e with e|e <;> omega
  have s:=p.heap U (show ¬Zz F P b from λe=>by
   rcases e with e|e
   .have:=B b e;omega
   .exact r e)
  have G:¬u b:=λe=>by
   rcases o b e with e|e
   .have:=B b e;omega
   .omega
  refine bF s aA λw5 I f V=>?_;exact aK func19 I aA ⟨_,u,_,rfl,(((show Yc T.heap.size u _ (.slice ra _ rc) _ from⟨ra,rc,rfl,hr,E⟩).bR f (λq e=>.inl (.inl (by omega)))).low M (λ_ _ _ h=>h)),⟨(O.boxed G (by omega) ⟨r,by omega⟩ (X1 s) (by decide) f),rfl,J⟩,λq A=>(o q A).imp id (by omega),((g.gr.trans p)).sn f,rfl⟩
 .have eX:D7 c x n i m=x:=by unfold D7;rw[bJ j]
  have eE:B9 x n i m=X0 x.tb n:=by unfold B9;rw[bJ j]
  have eB:Jx c x n i m=[]:=by unfold Jx;rw[bJ j]
  rw[bJ j] at l;rw[eX,eE,eB,YI];obtain⟨bv,u,rfl,D,O,o,p⟩:=l;obtain⟨ra,rc,rfl,hr,E⟩:=D;have r:¬Ac P b:=λe=>by rcases e with e|e <;> omega
  have s:=p.heap U (show ¬Zz F P b from λe=>by
   rcases e with e|e
   .have:=B b e;omega
   .exact r e)
  have G:¬u b:=λe=>by
   rcases o b e with e|e
   .have:=B b e;omega
   .omega
  refine bF s aA λw5 I f V=>?_;exact aK func19 I aA ⟨_,u,_,rfl,(((show Yc T.heap.size u _ (.slice ra _ rc) _ from⟨ra,rc,rfl,hr,E⟩).bR f (λq e=>.inl (.inl (by omega)))).low M (λ_ _ _ h=>h)),⟨(O.boxed G (by omega) ⟨r,by omega⟩ (X1 s) (by decide) f),rfl,h.ok⟩,λq A=>(o q A).imp id (by omega),((g.gr.trans p)).sn f,rfl⟩
theorem XaW(h:Hv c n0 w0 w F S H P x)(n i:Int)(ba:Option Addr)(bc:Nat)(l:List Int)(hn : -9223372036854775808<=n/\n<=9223372036854775807)(hi : -9223372036854775808<=i/\i<=9223372036854775807)(hr:Rd .u8 w ba l)(hlc:l.length<=bc)(hl:l.length<=9223372036854775807)(hin:Qi l)(hout:0<l.length->Xj F ba):Xf prog 22 #[Cj H,.int .i64 n,.int .i64 i,.slice ba l.length bc] w
 (K5 c n0 w0 w F S H P (D8 c x n i l) (B9 x n i l.length) 0 (0+(1+((D8 c x n i l).st.rm.tot-x.st.rm.tot))) []):=by
 have G:=h.hm.low';have a2:=h.hm.since0;have a3:=h.hm.tb.lt;have a4:=Xg h.hm.obj;have I:=h.ok.write n i hin;refine aR func22 ntmps22 aA (bC aA λa w1 e1 V O a5=>bC aA λd w2 e2 W J a6=>bC aA λd' a7 a8 Q t a0=>bC aA λb R e3 T y a9=>?_);have K:=y.bP (t.bP (J.bP V));have f:=((O.trans J).trans t).trans y;have L:=f.size;have M:=h.bQ f;refine bB K aA (aP aA (T3 M.hm M.dA n hn (k:=60) (cap:=[.pointer (some ⟨a,0,none⟩),.pointer (some ⟨d,0,none⟩),.pointer (some ⟨d',0,none⟩)]) (z:=0) (by omega) (λu w' m=>Xjv (M.hm.bQ m) (Zc x.tb n) i ba bc l hi ((hr.bR f).bR m) hlc hl hin hout (m.cell (Cu (off:=0) K rfl) id) (m.cell (Cu (off:=0) (y.bP (t.bP W)) rfl) id) (m.cell (Cu (off:=0) (y.bP Q) rfl) id))) ?_);rintro _ w4 j;refine aN aA ?_;by_cases u:X0 x.tb n=0
 .have eX:D8 c x n i l=⟨C9 c x.st (Zc x.tb n) i l,x.tb⟩:=by unfold D8;rw[bK u]
  have eE:B9 x n i l.length=Qo x.st (Zc x.tb n) i l.length:=by unfold B9;rw[bK u]
  rw[bK u] at j;rw[eX] at I⊢;rw[eE];obtain⟨bv,v,rfl,A,N,o,p⟩:=j;obtain⟨ra,rc,rfl,hr,B⟩:=A;have r:¬Ac P b:=λe=>by rcases e with e|e <;> omega
  have s:=p.heap T (show ¬Zz F P b from λe=>by
   rcases e with e|e
   .have:=G b e;omega
   .exact r e)
  have C:¬v b:=λe=>by
   rcases o b e with e|e
   .have:=G b e;omega
   .omega
  refine bF s aA λw5 D g U=>?_;exact aK func22 D aA ⟨_,v,_,rfl,(((show Yc R.heap.size v _ (.slice ra _ rc) _ from⟨ra,rc,rfl,hr,B⟩).bR g (λq e=>.inl (.inl (by omega)))).low L (λ_ _ _ h=>h)),⟨(N.boxed C (by omega) ⟨r,by omega⟩ (X1 s) (by decide) g),rfl,I⟩,λq E=>(o q E).imp id (by omega),((f.gr.trans p)).sn g,rfl⟩
 .have eX:D8 c x n i l=x:=by unfold D8;rw[bJ u]
  have eE:B9 x n i l.length=X0 x.tb n:=by unfold B9;rw[bJ u]
  rw[bJ u] at j;rw[eX,eE,YI];obtain⟨bv,v,rfl,A,N,o,p⟩:=j;obtain⟨ra,rc,rfl,hr,B⟩:=A;have r:¬Ac P b:=λe=>by rcases e with e|e <;> omega
  have s:=p.heap T (show ¬Zz F P b from λe=>by
   rcases e with e|e
   .have:=G b e;omega
   .exact r e)
  have C:¬v b:=λe=>by
   rcases o b e with e|e
   .have:=G b e;omega
   .omega
  refine bF s aA λw5 D g U=>?_;exact aK func22 D aA ⟨_,v,_,rfl,(((show Yc R.heap.size v _ (.slice ra _ rc) _ from⟨ra,rc,rfl,hr,B⟩).bR g (λq e=>.inl (.inl (by omega)))).low L (λ_ _ _ h=>h)),⟨(N.boxed C (by omega) ⟨r,by omega⟩ (X1 s) (by decide) g),rfl,h.ok⟩,λq E=>(o q E).imp id (by omega),((f.gr.trans p)).sn g,rfl⟩
theorem Xey(h:Hv c n0 w0 w F S H P x)(n size:Int)(hn : -9223372036854775808<=n/\n<=9223372036854775807):Xf prog 23 #[Cj H,.int .i64 n,.int .i64 size] w
 (K5 c n0 w0 w F S H P (Gg c x n size) (I3 c x n size) 0 (0+(1+((Gg c x n size).st.rm.tot-x.st.rm.tot))) []):=by
 have C:=h.hm.low';have U:=h.hm.since0;have V:=h.hm.tb.lt;have W:=Xg h.hm.obj;have D:=h.ok.resize n size;refine aR func23 ntmps23 aA (bC aA λa w1 e1 Q L a0=>bC aA λd w2 e2 R E a1=>bC aA λb M e3 N s a2=>?_);have G:=s.bP (E.bP Q);have g:=(L.trans E).trans s;have I:=g.size;have J:=h.bQ g;refine bB G aA (aP aA (T3 J.hm J.dA n hn (k:=62) (cap:=[.pointer (some ⟨a,0,none⟩),.pointer (some ⟨d,0,none⟩)]) (z:=0) (by omega) (λp w' t=>Xjr (J.hm.bQ t) (Zc x.tb n) size (t.cell (Cu (off:=0) G rfl) id) (t.cell (Cu (off:=0) (s.bP R) rfl) id))) ?_);rintro _ w4 i;refine aN aA ?_;by_cases p:X0 x.tb n=0
 .have eX:Gg c x n size=⟨Ag c x.st (Zc x.tb n) size,x.tb⟩:=by unfold Gg;rw[bK p]
  have eE:I3 c x n size=A8 c x.st (Zc x.tb n) size:=by unfold I3;rw[bK p]
  rw[bK p] at i;rw[eX] at D⊢;rw[eE];obtain⟨bv,r,rfl,u,K,j,l⟩:=i;obtain⟨ra,rc,rfl,hr,v⟩:=u;have m:¬Ac P b:=λe=>by rcases e with e|e <;> omega
  have o:=l.heap N (show ¬Zz F P b from λe=>by
   rcases e with e|e
   .have:=C b e;omega
   .exact m e)
  have y:¬r b:=λe=>by
   rcases j b e with e|e
   .have:=C b e;omega
   .omega
  refine bF o aA λT A f O=>?_;exact aK func23 A aA ⟨_,r,_,rfl,(((show Yc M.heap.size r _ (.slice ra _ rc) _ from⟨ra,rc,rfl,hr,v⟩).bR f (λq e=>.inl (.inl (by omega)))).low I (λ_ _ _ h=>h)),⟨(K.boxed y (by omega) ⟨m,by omega⟩ (X1 o) (by decide) f),rfl,D⟩,λq B=>(j q B).imp id (by omega),((g.gr.trans l)).sn f,rfl⟩
 .have eX:Gg c x n size=x:=by unfold Gg;rw[bJ p]
  have eE:I3 c x n size=X0 x.tb n:=by unfold I3;rw[bJ p]
  rw[bJ p] at i;rw[eX,eE,YI];obtain⟨bv,r,rfl,u,K,j,l⟩:=i;obtain⟨ra,rc,rfl,hr,v⟩:=u;have m:¬Ac P b:=λe=>by rcases e with e|e <;> omega
  have o:=l.heap N (show ¬Zz F P b from λe=>by
   rcases e with e|e
   .have:=C b e;omega
   .exact m e)
  have y:¬r b:=λe=>by
   rcases j b e with e|e
   .have:=C b e;omega
   .omega
  refine bF o aA λT A f O=>?_;exact aK func23 A aA ⟨_,r,_,rfl,(((show Yc M.heap.size r _ (.slice ra _ rc) _ from⟨ra,rc,rfl,hr,v⟩).bR f (λq e=>.inl (.inl (by omega)))).low I (λ_ _ _ h=>h)),⟨(K.boxed y (by omega) ⟨m,by omega⟩ (X1 o) (by decide) f),rfl,h.ok⟩,λq B=>(j q B).imp id (by omega),((g.gr.trans l)).sn f,rfl⟩
theorem Xju(h:Hv c n0 w0 w F S H P x):Xf prog 30 #[Cj H] w (K5 c n0 w0 w F S H P (Lc c x) 0 0 ((Lc c x).st.rm.tot-x.st.rm.tot) []):=by
 have t:=h.hm.low';have E:=h.hm.since0;have G:=h.hm.tb.lt;have I:=Xg h.hm.obj;have u:=h.ok.tick;refine aR func30 ntmps30 aA (bC aA λb L e1 B d J=>?_);have o:=h.hm.bQ d;refine bB o.obj aA ?_;refine aP rfl (Xj9 o.lv) ?_;rintro _ M ⟨rfl,v⟩;refine aN aA ?_;obtain⟨y,p,f,g⟩:=o.store v;have z:=p.obj;refine bB z aA (aP aA (Uf p.lv) ?_);rintro _ N ⟨rfl,A,a,i⟩;refine aN aA ?_;have C:=p.cM A a i;have j:¬Ac P b:=λe=>by rcases e with e|e <;> omega
 have k:¬y b:=λe=>by
  rcases f b e with e|e
  .have:=t b e;omega
  .omega
 have l:=a.heap (g.heap B (show ¬Zz F P b from λe=>by
  rcases e with e|e
  .have:=t b e;omega
  .exact j e)) (λe=>k (e▸i))
 refine aO aA (bF l aA λO m n K=>?_);have D:=C.boxed k (by omega) ⟨j,by omega⟩ (X1 l) (by decide) n;have r:=((d.gr.trans g).bU a (λq s e=>.inl (e▸h.hm.lv.mb))).sn n;rw[h.dA] at m;exact bD rfl func30 (Xi.cell rfl rfl rfl m rfl .nil) ⟨_,y,_,rfl,.none _ _ _,⟨D,rfl,u⟩,λq s=>(f q s).imp id (by omega),r,rfl⟩
theorem Xjs(h:Hv c n0 w0 w F S H P x)(k bV:Int):Xf prog 31 #[Cj H,.int .i64 k,.int .i64 bV] w (K5 c n0 w0 w F S H P (I4 x k bV) (Ce x.st k bV) 0 ((I4 x k bV).st.rm.tot-x.st.rm.tot) []):=by
 have u:=h.hm.low';have G:=h.hm.since0;have I:=h.hm.tb.lt;have J:=Xg h.hm.obj;have v:=h.ok.set k bV;refine aR func31 ntmps31 aA (bC aA λb M e1 C d K=>?_);have p:=h.hm.bQ d;refine bB p.obj aA ?_;refine aP rfl (Xj7 p.lv k bV) ?_;rintro _ N ⟨rfl,y⟩;refine aN aA ?_;obtain⟨z,r,f,g⟩:=p.store y;have A:=r.obj;refine bB A aA (aP aA (Uf r.lv) ?_);rintro _ O ⟨rfl,B,a,i⟩;refine aN aA ?_;have D:=r.cM B a i;have j:¬Ac P b:=λe=>by rcases e with e|e <;> omega
 have l:¬z b:=λe=>by
  rcases f b e with e|e
  .have:=u b e;omega
  .omega
 have m:=a.heap (g.heap C (show ¬Zz F P b from λe=>by
  rcases e with e|e
  .have:=u b e;omega
  .exact j e)) (λe=>l (e▸i))
 refine aO aA (bF m aA λQ n o L=>?_);have E:=D.boxed l (by omega) ⟨j,by omega⟩ (X1 m) (by decide) o;have s:=((d.gr.trans g).bU a (λq t e=>.inl (e▸h.hm.lv.mb))).sn o;rw[h.dA] at n;exact bD rfl func31 (Xi.cell rfl rfl rfl n rfl .nil) ⟨_,z,_,rfl,.none _ _ _,⟨E,rfl,v⟩,λq t=>(f q t).imp id (by omega),s,rfl⟩
theorem XaS(h:Hv c n0 w0 w F S H P x)(size:Int):Xf prog 26 #[Cj H,.int .i64 size] w (K5 c n0 w0 w F S H P (Bl c x size) (Cx c x size) (D5 c x size) (D6 c x size) []):=by
 have J:=h.hm.low';have a2:=h.hm.since0;have a3:=h.hm.tb.lt;have a4:=Xg h.hm.obj;have m:=h.ok.alloc size;refine aR func26 ntmps26 aA (bC aA λb w1 e1 r k a5=>?_);have D:=h.hm.bQ k;refine bB D.obj aA (bG (Xj1 D.lv size) aA λw2 d=>?_);have i:=D.bQ d;by_cases e3:Yt c x.st size=3
 .have a:¬Hr c x size:=λa=>by have:=a.1;omega
  have eX:Bl c x size=x:=by unfold Bl;rw[bJ a]
  have eE:Cx c x size=3:=by unfold Cx;rw[bK e3]
  have eH:D5 c x size=0:=by unfold D5;rw[bJ a]
  have eK:D6 c x size=0:=by unfold D6;rw[bJ a]
  rw[eX,eE,eH,eK,e3];refine aS aA (bI aA (aO aA (bF (d.bP r) aA λE f l t=>?_)));have g:=(k.trans d).sn l;exact aK func26 f aA ⟨_,F,S,rfl,.none _ _ _,h.bQ g,λ_ h=>.inl h,g.gr,rfl⟩
 refine bI aA (bB i.obj aA (bH (Xk7 i.tb) aA ?_));by_cases e4:x.tb.fl=[]
 .have a:¬Hr c x size:=λa=>a.2 e4;have eX:Bl c x size=x:=by unfold Bl;rw[bJ a]
  have eE:Cx c x size=4:=by unfold Cx;rw[bJ e3,bK e4]
  have eH:D5 c x size=0:=by unfold D5;rw[bJ a]
  have eK:D6 c x size=0:=by unfold D6;rw[bJ a]
  rw[eX,eE,eH,eK,e4];refine bI aA (aO aA (bF (d.bP r) aA λE f l t=>?_));have g:=(k.trans d).sn l;exact aK func26 f aA ⟨_,F,S,rfl,.none _ _ _,h.bQ g,λ_ h=>.inl h,g.gr,rfl⟩
 have a6:=List.length_pos_iff.2 e4;refine aS aA ?_;by_cases s:Yt c x.st size=0
 .have a:Hr c x size:=⟨s,e4⟩;obtain⟨j,K,g2,g3,g4,V⟩:=h.ok.goes a;have eX:Bl c x size=⟨Ab c x.st (Dk x.tb) size,Ee x.tb⟩:=by unfold Bl;rw[bK a]
  have eE:Cx c x size=0:=by unfold Cx;rw[bJ e3,bJ e4,s]
  have eH:D5 c x size=Lw x.tb:=by unfold D5;rw[bK a]
  have eK:D6 c x size=2+((Bl c x size).st.rm.tot-x.st.rm.tot):=by unfold D6;rw[bK a]
  rw[eX] at m eK⊢;rw[eE,eH,eK,s];refine aS aA (bB i.obj aA (aP aA (Xla i.tb e4) ?_));rintro _ wt ⟨rfl,L,M⟩;refine aN aA ?_;obtain⟨Ft,ht,N,G⟩:=i.table L M;have O:=ht.obj;refine bB O aA ?_;refine aP rfl (XjZ ht.lv (Dk x.tb) size) ?_;rintro _ wa ⟨rfl,Q⟩;refine aN aA ?_;rw[K,V];have o:=(Jo.seq N G (ht.store Q)).up d;rw[K] at o m;have a7:0<=(Ab c x.st (j:Nat) size).rm.tot/\(Ab c x.st (j:Nat) size).rm.tot<=4611686018427387904:=m.st.rm.ok.tot;have W:=h.hm.lv.inv.rm.ok.tot;obtain⟨R,i,u,v⟩:=o;have T:=i.obj;refine Xa.cJ Xb rfl T rfl rfl ?_;refine aP rfl (Uf i.lv) ?_;rintro _ E ⟨rfl,U,p,y⟩;refine aN rfl ?_;have h3:=i.cM U p y;have z:¬Ac P b:=λe=>by rcases e with e|e <;> omega
  have A:¬R b:=λe=>by
   rcases u b e with e|e
   .have:=J b e;omega
   .omega
  have f:=p.heap (v.heap r (show ¬Zz F P b from λe=>by
   rcases e with e|e
   .have:=J b e;omega
   .exact z e)) (λe=>A (e▸y))
  refine Xa.arith Xb rfl (w64 (by rw[h.dA];omega)) rfl ?_;refine aO aA (bF f aA λw5 B C a8=>?_);have h5:=h3.boxed A (by omega) ⟨z,by omega⟩ (X1 f) (by decide) C;have I:=((k.gr.trans v).bU p (λq n e=>.inl (e▸h.hm.lv.mb))).sn C;rw[h.dA] at B;exact bD rfl func26 (Xi.cell rfl rfl rfl B rfl .nil) ⟨_,R,_,rfl,.none _ _ _,⟨h5,rfl,m⟩,λq n=>(u q n).imp id (by omega),I,rfl⟩
 .have a:¬Hr c x size:=λa=>s a.1;have eX:Bl c x size=x:=by unfold Bl;rw[bJ a]
  have eE:Cx c x size=Yt c x.st size:=by unfold Cx;rw[bJ e3,bJ e4]
  have eH:D5 c x size=0:=by unfold D5;rw[bJ a]
  have eK:D6 c x size=0:=by unfold D6;rw[bJ a]
  rw[eX,eE,eH,eK];refine bI aA (aO aA (bF (d.bP r) aA λE f l t=>?_));have g:=(k.trans d).sn l;exact aK func26 f aA ⟨_,F,S,rfl,.none _ _ _,h.bQ g,λ_ h=>.inl h,g.gr,rfl⟩
end
theorem Xex(c:Conf)(p:Y4)(w:dD)(hc:Yu w c p)(ht:Bi w)(hm:Zb c=true):Xf prog 24 #[.agg (Zj c p).toArray] w (λv w'=>∃n0 F S H P,v=.tuple #[Cj H,.int .i64 0]/\Hv c n0 w w' F S H P (Gj c)/\Xc Xe w w'/\w.heap.size<=n0/\n0<=w'.heap.size/\S.p=p):=by
 have q:(1<=c.cN/\c.cN<=4096)/\1<=c.cS/\c.cS<=1023:=by
  have hm:=hm;unfold Zb at hm;simp only[XK,decide_eq_true_eq,Qy] at hm;omega
 refine aR func24 ntmps24 aA (bC aA λb x e1 r g C=>?_);refine bB r aA (aP aA (Xj4 c p x (hc.bR g) (ht.bQ g) hm) ?_);rintro _ m ⟨F,S,rfl,k,n,s,h⟩;have i:=h.bP r;refine aN aA (aS aA (bB i aA (bB i aA ?_)));obtain⟨N,o⟩:=XE (show 0<=c.cN by omega);rw[o];refine aP aA (Xk9 N c.cS m (by omega) q.2) ?_;rintro _ I ⟨P,rfl,t,y,j⟩;refine aN aA (bB (j.bP i) aA (aO aA (bC aA λH A e4 B l D=>?_)));have E:=h.size;have G:=j.size;have a:=k.low;have d:=j.trans l;have u:Hm c m.heap.size w A F S H P (Es c) (Cy N c.cS):=
  ⟨{(k.bQ d) with base:=λz f=>by have:=k.base z f;omega,bR:=((g.trans h).trans d)},by rw[B];rfl,by rw[o];exact y.bQ l,⟨⟨t.1,t.2⟩,by omega,by omega⟩,
   λf=>by have:=a _ f;omega,λf=>by have:=a _ f;omega,λf=>by have:=a _ f;omega⟩
 have eN:Gj c=⟨Es c,Cy N c.cS⟩:=by unfold Gj;rw[o]
 exact bE func24 aA ⟨m.heap.size,F,S,H,P,rfl,⟨by rw[eN];exact u,by rw[eN];exact n,Xks hm k.inv.rm⟩,(g.trans h).trans d,by omega,by omega,s⟩
def Aw:Conf:=⟨64,4,[32],[0],8,5,3,128⟩
def T4:List Int:=[104,105]
def Py:HpM:=Gj Aw
def aw23x1:HpM:=Bl Aw Py 20
def aw23x2:HpM:=D8 Aw aw23x1 4096 0 T4
def aw23x3:HpM:=D7 Aw aw23x2 4096 0 3
def aw23x4:HpM:=A6 Aw aw23x3 4096
def aw23x5:HpM:=A6 Aw aw23x4 4096
def aw23x6:HpM:=Bl Aw aw23x5 0
theorem Xii:Zb Aw=true:=by kernel_rfl
theorem Xad:Cx Aw Py 20=0/\D5 Aw Py 20=4096/\D6 Aw Py 20=41:=⟨by kernel_rfl,by kernel_rfl,by kernel_rfl⟩
theorem Xdq:B9 aw23x1 4096 0 2=0/\0+(1+(aw23x2.st.rm.tot-aw23x1.st.rm.tot))=3:=⟨by kernel_rfl,by kernel_rfl⟩
theorem Xae:B9 aw23x2 4096 0 3=0/\0+(1+(aw23x3.st.rm.tot-aw23x2.st.rm.tot))=4/\Jx Aw aw23x2 4096 0 3=[104,105,0]:=⟨by kernel_rfl,by kernel_rfl,by kernel_rfl⟩
theorem Xdr:Zs aw23x3.st=20/\((Zf aw23x3.st.rm.pl:Nat):Int)*64=64:=⟨by kernel_rfl,by kernel_rfl⟩
theorem Xaf:X0 aw23x3.tb 4096=0/\2+(1+(aw23x4.st.rm.tot-aw23x3.st.rm.tot))=10:=⟨by kernel_rfl,by kernel_rfl⟩
theorem Xag:X0 aw23x4.tb 4096=6/\0+(1+(aw23x5.st.rm.tot-aw23x4.st.rm.tot))=1:=⟨by kernel_rfl,by kernel_rfl⟩
theorem Xih:Cx Aw aw23x5 0=3:=by kernel_rfl
theorem Xah:Zs aw23x6.st=0/\((Zf aw23x6.st.rm.pl:Nat):Int)*64=0/\Xcy aw23x6.tb=0:=⟨by kernel_rfl,by kernel_rfl,by kernel_rfl⟩
theorem Xij:(FloatKind.format .f64).div (FloatKind.nearest .f64 20) (FloatKind.nearest .f64 64)=some 4599301119452119040:=by kernel_rfl
theorem Rd.of23{k:IntKind}{w:dD}{c:Array dE}{t:TypeId}(h:w.heap[b]?=some (.cells c t fz))(hc:c=(zs.map (Value.int k)).toArray):Rd k w (some ⟨b,0,none⟩) zs:=λi a=>
 ⟨b,0,rfl,by rw[Ys h,hc];simp[a]⟩
section
variable {c:Conf}{n0:Nat}{w0 w w1 w2 w':dD}{F F':Nat->Prop}{S:Sto}{H:Nat}{P:Ap}{x:HpM}
theorem Hv.off(h:Hv c n0 w0 w F S H P x)(hb:w.heap.size<=b):¬Zz F P b:=λe=>by
 have a:=h.hm.tb.lt;rcases e with e|e|e
 .have:=h.hm.low' b e;omega
 .omega
 .omega
theorem Hv.fresh(h:Hv c n0 w0 w F S H P x)(hc:Xc Xe w w1)(hb:w.heap.size<=b)(hk:kd w1 b=some (some ty))(ht:ty≠352/\ty≠348/\ty≠3)(hst:Xc (λq=>q=b) w1 w2):Hv c n0 w0 w2 F S H P x:=by
 have f:=h.hm.since0;have d:=Xg h.hm.obj;have a:=h.off hb;exact(h.bQ hc).boxed (λe=>a (.inl e)) (by omega) ⟨λe=>a (.inr e),by omega⟩ hk ht hst
theorem Gh{o:Obj}(h:w.heap[b]?=some o)(hn:¬Zz F P b)(hc:Xc (Zz F P) w w')(hF:∀z,F' z->F z\/w.heap.size<=z):w'.heap[b]?=some o/\¬Zz F' P b:=
 ⟨hc.heap h hn,λe=>e.elim (λe=>(hF b e).elim (λg=>hn (.inl g)) (λg=>by have:=Xg h;omega)) (λe=>hn (.inr e))⟩
theorem Yc.op{b:dE}(h:Yc n F l b w)(hP:P.tb<n/\P.sb<n)(hc:Xc (Zz F P) w w')(hF:∀z,F' z->F z\/w.heap.size<=z):Yc n F' l b w':=by
 obtain⟨a,cap,e,hr,f⟩:=h;obtain⟨j,d,e2,i,c⟩:=((show Yc n F l b w from⟨a,cap,e,hr,f⟩).bR hc (λz k=>k.elim .inr (λe=>.inl (.inl (by rcases e with e|e <;> omega)))));have e3:a=j:=by rw[e] at e2;cases e2;rfl
 subst e3;exact⟨a,d,e2,i,λb' off s' e=>⟨(c b' off s' e).1,λg=>(hF b' g).elim (c b' off s' e).2 (λg=>by have:=(f b' off s' e).1;omega)⟩⟩
end
theorem XjO(w:dD):Xf prog 25 #[] w (λv w'=>∃p,v=.agg (Zj Aw p).toArray/\Yu w' Aw p/\Xc Xe w w'):=by
 refine aR func25 ntmps25 aA (bC aA λb x e1 m f q=>Xa.buildSlice Xb rfl λg y e2 h d r=>aN aA (Xa.buildSlice Xb rfl λi z e3 j a s=>aN aA (aO aA (bF (a.bP (d.bP m)) aA λn l c t=>?_))));have o:Yu n Aw ⟨some ⟨g,0,none⟩,1,some ⟨i,0,none⟩,1⟩:=
  ⟨Rd.of23 (c.heap (a.bP h) (by omega)) rfl,Rd.of23 (c.heap j (by omega)) rfl,by decide,by decide,by unfold Nx;decide⟩
 exact aK func25 l aA ⟨⟨some ⟨g,0,none⟩,1,some ⟨i,0,none⟩,1⟩,rfl,o,((f.trans d).trans a).sn c⟩
theorem XjL(w:dD)(ht:Bi w):Xf prog 6 #[] w (Grow (.bool true) w):=by
 refine aR func6 ntmps6 aA (aP aA (XjO w) ?_);rintro _ ws ⟨p,rfl,be,a9⟩;refine aN aA (aP aA (Xex Aw p ws be (ht.bQ a9) Xii) ?_);rintro _ w0 ⟨n0,F,S,H,P,rfl,h0,dl,_,_⟩;refine aN aA ?_;have aa:=XaS h0 20;rw[show Gj Aw=Py from rfl,Xad.1,Xad.2.1,Xad.2.2] at aa;refine aP aA (aa) ?_;rintro _ dm ⟨dn,F1,S1,rfl,bf,ab,dp,dq,_⟩;refine aN aA ?_;obtain⟨dr,ds,rfl,dt,cv⟩:=bf;refine bC aA λN du dv ac b8 cw=>bF ac aA λbg ad b9 cx=>?_;have h1:=ab.fresh b8 (by omega) (X1 ac) (by decide) b9;have bh:=ab.off (b:=N) (by omega);replace h1:Hv Aw n0 ws bg F1 S1 H P aw23x1:=h1;refine bB ad aA (Xa.buildSlice Xb rfl λhb w4 e4 bj bk dw=>aN aA (Xa.mark Xb rfl bj λw5 dx ba bm dy=>aN aA ?_));have R:=bk.sn bm;have h5:=h1.bQ R;have ae:=XaW h5 4096 0 (some ⟨hb,0,none⟩) 2 T4 (by decide) (by decide) (Rd.of23 ba rfl) (by decide) (by decide) (by unfold Qi;decide) (λ_ b off s e hz=>by cases e;exact h1.off (b:=hb) (by omega) (.inl hz));rw[show B9 aw23x1 4096 0 (T4.length:Nat)=0 from Xdq.1,show D8 Aw aw23x1 4096 0 T4=aw23x2 from rfl,Xdq.2] at ae;have u:=R.bP ad;have T:=bh;refine aP aA (ae) ?_;rintro _ dz ⟨e0,F2,S2,rfl,bo,af,bp,ag,_⟩;refine aN aA ?_;obtain⟨e1,e2,rfl,e3,cy⟩:=bo;refine bC aA λO e5 e6 ah U d0=>bF ah aA λbq br V d1=>?_;have h2:=af.fresh U (by omega) (X1 ah) (by decide) V;have bs:=af.off (b:=O) (by omega);have d2:=ag.size;obtain⟨D,bt⟩:=Gh u T ag bp;replace D:=V.heap (U.bP D) (show ¬N=O by omega);refine bB D aA ?_;have ai:=XaV h2 4096 0 3 (by decide) (by decide) (by decide);rw[Xae.1,show D7 Aw aw23x2 4096 0 3=aw23x3 from rfl,Xae.2.1,Xae.2.2] at ai;refine aP aA (ai) ?_;rintro _ bu ⟨e7,F3,S3,rfl,a,aj,ak,W,_⟩;refine aN aA ?_;obtain⟨al,am,rfl,bv,bc⟩:=a;refine bC aA λA e8 e9 an r d4=>bF an aA λea bw t d5=>?_;have h3:=aj.fresh r (by omega) (X1 an) (by decide) t;have bz:=aj.off (b:=A) (by omega);have d6:=W.size;obtain⟨a0,c0⟩:=Gh D bt W ak;replace a0:=t.heap (r.bP a0) (show ¬N=A by omega);obtain⟨a1,c1⟩:=Gh br bs W ak;replace a1:=t.heap (r.bP a1) (show ¬O=A by omega);have a:Yc bq.heap.size F3 [104,105,0] (.slice al 3 am) bu:=⟨al,am,rfl,bv,bc⟩;replace a:=a.bR (X:=λq=>q=A) (r.gr.trans t) (λq e=>.inl (.inr (by omega)));have ao:=Xew h3.hm;rw[Xdr.1,show((Zf aw23x3.st.rm.pl:Nat):Int)*Aw.size=64 from Xdr.2] at ao;refine aP aA (ao) ?_;rintro _ wf ⟨fl,rfl,hq,m⟩;refine aN aA ?_;unfold Lm at hq;rw[Xij] at hq;subst hq;have hf:=h3.bQ m;have d7:=m.size;have ap:=m.bP a0;have c2:=m.bP a1;have c3:=m.bP bw;have c4:=c0;have c5:=c1;have c6:=bz;replace a:=a.bR m (λq e=>e.elim);refine bB ap aA ?_;have aq:=T0 hf 4096 (by decide);rw[show A6 Aw aw23x3 4096=aw23x4 from rfl,bK Xaf.1,Xaf.1,Xaf.2] at aq;refine aP aA (aq) ?_;rintro _ eb ⟨ec,F4,S4,rfl,c7,ar,E,x,_⟩;refine aN aA ?_;obtain⟨ed,ee,rfl,ef,d8⟩:=c7;refine bC aA λB eg eh au j d9=>bF au aA λei c8 k da=>?_;have h4:=ar.fresh j (by omega) (X1 au) (by decide) k;have c9:=ar.off (b:=B) (by omega);have dc:=x.size;obtain⟨G,ca⟩:=Gh ap c4 x E;replace G:=k.heap (j.bP G) (show ¬N=B by omega);obtain⟨a2,cb⟩:=Gh c2 c5 x E;replace a2:=k.heap (j.bP a2) (show ¬O=B by omega);obtain⟨a3,cc⟩:=Gh c3 c6 x E;replace a3:=k.heap (j.bP a3) (show ¬A=B by omega);replace a:=a.op (by have:=h2.hm.tb.lt;exact this) x E;replace a:=a.bR (X:=λq=>q=B) (j.gr.trans k) (λq e=>.inl (.inr (by omega)));refine bB G aA ?_;have av:=T0 h4 4096 (by decide);rw[show A6 Aw aw23x4 4096=aw23x5 from rfl,bJ (by rw[Xag.1];decide),Xag.1,Xag.2] at av;refine aP aA (av) ?_;rintro _ ej ⟨ek,F5,S5,rfl,cd,aw,y,n,_⟩;refine aN aA ?_;obtain⟨el,em,rfl,en,dd⟩:=cd;refine bC aA λC eo ep ax g de=>bF ax aA λer ce i df=>?_;have h5:=aw.fresh g (by omega) (X1 ax) (by decide) i;have cf:=aw.off (b:=C) (by omega);have dg:=n.size;obtain⟨u,T⟩:=Gh G ca n y;replace u:=i.heap (g.bP u) (show ¬N=C by omega);obtain⟨a4,cg⟩:=Gh a2 cb n y;replace a4:=i.heap (g.bP a4) (show ¬O=C by omega);obtain⟨a5,ch⟩:=Gh a3 cc n y;replace a5:=i.heap (g.bP a5) (show ¬A=C by omega);obtain⟨a6,ci⟩:=Gh c8 c9 n y;replace a6:=i.heap (g.bP a6) (show ¬B=C by omega);replace a:=a.op (by have:=h2.hm.tb.lt;exact this) n y;replace a:=a.bR (X:=λq=>q=C) (g.gr.trans i) (λq e=>.inl (.inr (by omega)));have ay:=XaS h5 0;rw[show Bl Aw aw23x5 0=aw23x6 from rfl,Xih] at ay;refine aP aA (ay) ?_;rintro _ es ⟨et,F6,S6,rfl,cj,ck,o,l,_⟩;refine aN aA ?_;obtain⟨eu,ew,rfl,ex,dh⟩:=cj;refine bC aA λQ ey f0 az d di=>bF az aA λf1 cl f dj=>?_;have h6:=ck.fresh d (by omega) (X1 az) (by decide) f;have dk:=l.size;obtain⟨I,f2⟩:=Gh u T l o;replace I:=f.heap (d.bP I) (show ¬N=Q by omega);obtain⟨J,f3⟩:=Gh a4 cg l o;replace J:=f.heap (d.bP J) (show ¬O=Q by omega);obtain⟨K,f4⟩:=Gh a5 ch l o;replace K:=f.heap (d.bP K) (show ¬A=Q by omega);obtain⟨L,f5⟩:=Gh a6 ci l o;replace L:=f.heap (d.bP L) (show ¬B=Q by omega);obtain⟨M,f6⟩:=Gh ce cf l o;replace M:=f.heap (d.bP M) (show ¬C=Q by omega);replace a:=a.op (by have:=h2.hm.tb.lt;exact this) l o;replace a:=a.bR (X:=λq=>q=Q) (d.gr.trans f) (λq e=>.inl (.inr (by omega)));have b0:=Xew h6.hm;rw[Xah.1,show((Zf aw23x6.st.rm.pl:Nat):Int)*Aw.size=0 from Xah.2.1] at b0;refine aP aA (b0) ?_;rintro _ wg ⟨fg,rfl,cn,c⟩;refine aN aA ?_;have co:=(XkS cn).2;have hg:=h6.bQ c;refine bI aA (bB (c.bP I) aA (bI aA (bB (c.bP I) aA (bI aA (bB (c.bP J) aA (bI aA (bB (c.bP J) aA (bI aA (bB (c.bP K) aA ?_)))))))));obtain⟨rz,cz,ez,cq,_⟩:=a;cases ez
 refine Xa.bstrN Xb ([104,105,0]) rfl rfl ((cq.bR c)) rfl (Xa.streq Xb rfl (rfl) rfl (bI aA (bB (c.bP K) aA (bI aA (Xa.fcmp Xb rfl (v:=true) rfl rfl (bI aA (bB (c.bP L) aA (bI aA (bB (c.bP L) aA (bI aA (bB (c.bP M) aA (bI aA (bB (c.bP M) aA (bI aA (bB (c.bP cl) aA (bI aA (Xa.fcmp Xb rfl co rfl (bI aA ?_))))))))))))))))));have b7:=XaU hg.hm;rw[Xah.2.2] at b7;exact bH b7 aA (bE func6 aA ⟨rfl,a9.trans hg.hm.lv.bR⟩)
structure Fh where
 kind:Int
 h:Int
 a:Int
 b:Int
 bs:List Int
 ba:Option Addr
 bc:Nat
def Hw(u:Fh):List dE:=[.int .i64 u.kind,.int .i64 u.h,.int .i64 u.a,.int .i64 u.b,.slice u.ba u.bs.length u.bc]
structure Jq(w:dD)(u:Fh):Prop where
 kind : -9223372036854775808<=u.kind/\u.kind<=9223372036854775807
 h : -9223372036854775808<=u.h/\u.h<=9223372036854775807
 a : -9223372036854775808<=u.a/\u.a<=9223372036854775807
 b : -9223372036854775808<=u.b/\u.b<=9223372036854775807
 rd:Rd .u8 w u.ba u.bs
 rng:Qi u.bs
 lc:u.bs.length<=u.bc
 len:u.bc<=9223372036854775807
theorem Jq.bQ{u:Fh}(h:Jq w u)(hc:Xc Xe w w'):Jq w' u:=⟨h.kind,h.h,h.a,h.b,h.rd.bR hc,h.rng,h.lc,h.len⟩
def Ze(c:Conf)(x:HpM)(u:Fh):HpM:=
 if u.kind=1 then Bl c x u.a else if u.kind=2 then A6 c x u.h else if u.kind=3 then D7 c x u.h u.a u.b else if u.kind=4 then D8 c x u.h u.a u.bs
 else if u.kind=5 then Gg c x u.h u.a else if u.kind=6 then Lc c x else I4 x u.a u.b
def Qm(c:Conf)(x:HpM)(u:Fh):Int:=
 if u.kind=1 then Cx c x u.a else if u.kind=2 then X0 x.tb u.h else if u.kind=3 then B9 x u.h u.a u.b else if u.kind=4 then B9 x u.h u.a u.bs.length
 else if u.kind=5 then I3 c x u.h u.a else if u.kind=6 then 0 else Ce x.st u.a u.b
def Qn(c:Conf)(x:HpM)(u:Fh):Int:=if u.kind=1 then D5 c x u.a else 0
def Z6(c:Conf)(x:HpM)(u:Fh):List Int:=if u.kind=3 then Jx c x u.h u.a u.b else []
def Y5(c:Conf)(x:HpM)(u:Fh):Int:=
 if u.kind=1 then D6 c x u.a else if u.kind=2 then (if X0 x.tb u.h=0 then 2 else 0)+(1+((Ze c x u).st.rm.tot-x.st.rm.tot))
 else if u.kind=3\/u.kind=4\/u.kind=5 then 0+(1+((Ze c x u).st.rm.tot-x.st.rm.tot)) else (Ze c x u).st.rm.tot-x.st.rm.tot
section
variable {c:Conf}{s s':StM}{pd:Option (Nat×PlcM)}
end
section
variable {c:Conf}{s:StM}{pd:Option (Nat×PlcM)}
end
section
variable {c:Conf}{s:StM}{pd:Option (Nat×PlcM)}
variable {own:List (List Int)}
end
section
variable {c:Conf}{s:StM}{pd:Option (Nat×PlcM)}
end
section
variable {base t size m:Nat}{w:dD}{v v' u u':dE}{xs ys:List dE}
theorem W8(h0:∀b,some b=v.ownBlock->some b≠u.ownBlock)(h:u'.ownBlock=u.ownBlock\/u'.ownBlock=some w.heap.size)(ho:Xl base t size w v m xs):∀b,some b=v.ownBlock->some b≠u'.ownBlock:=λb a e=>by
 rcases h with h|h
 .exact h0 b a (e.trans h)
 .rw[h] at e;have e1:=Option.some.inj e;have:=(World.ownsRow.lt ho b a.symm).2;omega
theorem W7(h0:∀b,some b=v.ownBlock->some b≠u.ownBlock)(h:v'.ownBlock=v.ownBlock\/v'.ownBlock=some w.heap.size)(ho:Xl base t size w u m ys):∀b,some b=v'.ownBlock->some b≠u.ownBlock:=λb a e=>by
 rcases h with h|h
 .exact h0 b (a.trans h) e
 .rw[h] at a;have e1:=Option.some.inj a;have:=(World.ownsRow.lt ho b e.symm).2;omega
end
theorem Xbm{base t size m m':Nat}{w:dD}{v:dE}{xs ys:List dE}(h:Xl base t size w v m xs)(e1:m=m')(e2:xs=ys):Xl base t size w v m' ys:=by rw[<-e1,<-e2];exact h
structure Ww(base:Nat)(w:dD)(i:Nat)(vg vl vf:dE):Prop where
 g:Xl base 3 1 w vg i (List.replicate i (.int .i64 1))
 l:Xl base 4 1 w vl i (List.replicate i (.bool false))
 f:Xl base 3 1 w vf i ((List.range i).map λn:Nat=>.int .i64 (n:Int))
 gl:∀b,some b=vg.ownBlock->some b≠vl.ownBlock
 gf:∀b,some b=vg.ownBlock->some b≠vf.ownBlock
 lf:∀b,some b=vl.ownBlock->some b≠vf.ownBlock
theorem Xlx(N:Nat)(cH:Int)(w:dD)(hN:1<=N/\N<=4096)(hg:1<=cH/\cH<=1023):Xf prog 77 #[.int .i64 N,.int .i64 cH] w
 (λv w'=>∃vg vl vf,v=.tuple #[.agg #[vg,vl,vf,.int .i64 cH],.int .i64 0]/\Ww w.heap.size w' N vg vl vf/\(∃a n c,vg=.slice a n c)/\(∃a n c,vl=.slice a n c)/\(∃a n c,vf=.slice a n c)/\Xc Xe w w'):=by
 have au:maxLen=9223372036854775807:=rfl;refine aR func77 ntmps77 aA (bC aA λqb w1 e1 ab B av=>aO aA (bC aA λtb r e2 ac J aw=>bF ac aA λax a6 ad ay=>?_));have a7:=B.trans J;refine aS aA (aS aA (aS aA (aS aA ?_)));refine Xa.loop (α:=Nat×dE×dE×dE) (λp=>[(0,false,.int .i64 N),(4,false,.pointer (some ⟨qb,0,none⟩)),(6,false,.pointer (some ⟨tb,0,none⟩)),(7,false,.int .i64 p.1)])
  (λp w'=>p.1<=N/\w'.heap[tb]?=some (.cells ([p.2.1,p.2.2.1,p.2.2.2,.int .i64 cH]:List dE).toArray 45 (0,0))/\Ww r.heap.size w' p.1 p.2.1 p.2.2.1 p.2.2.2/\Xc (λz=>z=tb) r w')
  (λp=>N-p.1) (0,.slice none 0 0,.slice none 0 0,.slice none 0 0) ⟨rfl,rfl,rfl,rfl,trivial⟩ ⟨XQ _,a6,⟨World.ownsRow_nil _ _ _ _,World.ownsRow_nil _ _ _ _,World.ownsRow_nil _ _ _ _,(λb h=>by cases h),(λb h=>by cases h),(λb h=>by cases h)⟩,ad⟩ ?_
 rintro⟨i,vg,vl,vf⟩ w3 ⟨hi,f,⟨og,ol,of',gl,gf,lf⟩,s⟩ ih;simp only at hi f og ol of' gl gf lf
 have ao:=s.size;refine aN aA (aT aA (λhc=>?_) λhc=>?_)
 .have ae:i<N:=by have:=bL hc;omega
  refine bB f aA (Xa.buildSlice Xb rfl λb4 w4 e4 ag j ah=>aN aA ?_);have C:=og.bR j (λ_ _ h=>h);have K:=ol.bR j (λ_ _ h=>h);have L:=of'.bR j (λ_ _ h=>h);refine Xa.append (base:=r.heap.size) (xs:=List.replicate i (.int .i64 1)) (news:=[.int .i64 1]) Xb rfl C (by omega) (by simp) (Gv ag) (by simp[Value.oneCell']) (by simp only;omega) ?_;intro vg' w5 D k M;obtain⟨ga,gn,gc,rfl⟩:=Xl.isSlice D;have az:=k.size;have O:=K.bR k (λb d e=>gl b e d);have P:=L.bR k (λb d e=>gf b e d);have Q:=W7 gl M.2 K;have R:=W7 gf M.2 L;refine aN aA (bF (k.heap (j.bP f) (λe=>by have:=(World.ownsRow.lt C tb (Eq.symm e)).1;omega)) aA λw6 E u b0=>?_);refine bB E aA (Xa.buildSlice Xb rfl λb7 w7 e7 ai l b1=>aN aA ?_);have S:=(D.bR u (λb d e=>by have:=(World.ownsRow.lt D b d.symm).1;omega)).bR l (λ_ _ h=>h);have F:=(O.bR u (λb d e=>by have:=(World.ownsRow.lt O b d.symm).1;omega)).bR l (λ_ _ h=>h);have T:=(P.bR u (λb d e=>by have:=(World.ownsRow.lt P b d.symm).1;omega)).bR l (λ_ _ h=>h);refine Xa.append (base:=r.heap.size) (xs:=List.replicate i (.bool false)) (news:=[.bool false]) Xb rfl F (by omega) (by simp) (Gv ai) (by simp[Value.oneCell']) (by simp only;omega) ?_;intro vl' w8 G o U;obtain⟨la,ln,lc,rfl⟩:=Xl.isSlice G;have b2:=o.size;have V:=S.bR o (λb d e=>Q b d e);have W:=T.bR o (λb d e=>lf b e d);have a0:=W7 lf U.2 T;refine aN aA (bF (o.heap (l.bP E) (λe=>by have:=(World.ownsRow.lt F tb (Eq.symm e)).1;omega)) aA λw9 H x b3=>?_);refine bB H aA (Xa.buildSlice Xb rfl λba wa ea aj q b5=>aN aA ?_);have oga:=(V.bR x (λb d e=>by have:=(World.ownsRow.lt V b d.symm).1;omega)).bR q (λ_ _ h=>h);have ola:=(G.bR x (λb d e=>by have:=(World.ownsRow.lt G b d.symm).1;omega)).bR q (λ_ _ h=>h);have ofa:=(W.bR x (λb d e=>by have:=(World.ownsRow.lt W b d.symm).1;omega)).bR q (λ_ _ h=>h);refine Xa.append (base:=r.heap.size) (xs:=(List.range i).map λn:Nat=>.int .i64 (n:Int)) (news:=[.int .i64 (i:Int)]) Xb rfl ofa (by omega) (by simp) (Gv aj) (by simp[Value.oneCell']) (by simp only;omega) ?_;intro vf' wb ofb y a4;obtain⟨fa,fn,fc,rfl⟩:=Xl.isSlice ofb;have ogb:=oga.bR y (λb d e=>R b d e);have olb:=ola.bR y (λb d e=>a0 b d e);refine aN aA (bF (y.heap (q.bP H) (λe=>by have:=(World.ownsRow.lt ofa tb (Eq.symm e)).1;omega)) aA λwc a9 A b6=>?_);have hS:Xc (λz=>z=tb) r wc:=by
   exact((((((((s.trans j.gr).bU k (λz I e=>by have:=(World.ownsRow.lt C z (Eq.symm e)).1;omega)).trans u).trans l.gr).bU o (λz I e=>by have:=(World.ownsRow.lt F z (Eq.symm e)).1;omega)).trans x).trans q.gr).bU y (λz I e=>by have:=(World.ownsRow.lt ofa z (Eq.symm e)).1;omega)).trans A
  exact aV aA (ih (i+1,.slice ga gn gc,.slice la ln lc,.slice fa fn fc) _ _ ⟨ae,a9,⟨Xbm (ogb.bR A (λb d e=>by have:=(World.ownsRow.lt ogb b d.symm).1;omega)) rfl (List.replicate_succ' ..).symm,Xbm (olb.bR A (λb d e=>by have:=(World.ownsRow.lt olb b d.symm).1;omega)) rfl (List.replicate_succ' ..).symm,Xbm (ofb.bR A (λb d e=>by have:=(World.ownsRow.lt ofb b d.symm).1;omega)) rfl (by rw[QB,XL];rfl),(W8 Q U.2 S),(W8 R a4.2 oga),(W8 a0 a4.2 ola)⟩,hS⟩ (by simp only;omega) ⟨rfl,rfl,rfl,rfl,trivial⟩)
 .have ak:i=N:=by have:=bM hc;omega
  subst ak;obtain⟨ga,gn,gc,rfl⟩:=Xl.isSlice og;obtain⟨la,ln,lc,rfl⟩:=Xl.isSlice ol;obtain⟨fa,fn,fc,rfl⟩:=Xl.isSlice of';refine bB f aA ?_;refine bF (s.heap (J.bP ab) (show ¬qb=tb by omega)) aA λw4 aa a5 ah=>?_;have fr:∀{t size m:Nat} {v:dE} {xs:List dE},Xl r.heap.size t size w3 v m xs->Xl w.heap.size t size w4 v m xs:=λ{t size m v xs} h=>by
   have h4:=h.bR a5 (λb d e=>by have:=(World.ownsRow.lt h b d.symm).1;omega);exact⟨h4.1,h4.2.imp id λ⟨g,cap,cur,a1,a2,a3⟩=>⟨g,cap,cur,a1,by omega,a3⟩⟩
  exact aK func77 aa aA ⟨_,_,_,rfl,⟨fr og,fr ol,fr of',gl,gf,lf⟩,⟨_,_,_,rfl⟩,⟨_,_,_,rfl⟩,⟨_,_,_,rfl⟩,(a7.bU s (λz I e=>by have:=B.size;omega)).bU a5 (λz I e=>by have:=B.size;omega)⟩
theorem Xc2:∀n,Y3 [.int .i64 0,.int .i64 0,.int .i64 0,.int .i64 0,.slice none 0 0] n=fl D1 (List.replicate n Nq)
 |0=>rfl
 |n+1=>by rw[Y3,Xc2 n,YF];rfl
theorem Xc3:∀n,Y3 (C0 K3) n=fl C0 (List.replicate n K3)
 |0=>rfl
 |n+1=>by rw[Y3,Xc3 n,YF];rfl
theorem Xl3(c:Conf)(p:Y4)(w:dD)(hc:Yu w c p)(hm:Zb c=true)(hp:c.bS<=512):Xf prog 76 #[.agg (Zj c p).toArray] w
 (λv w'=>∃r,v=.tuple #[.agg (Z8 r).toArray,.int .i64 0]/\r.c=c/\r.cp=p/\Za w' r (Es c)/\(∀S:Nat->Prop,(∀z,S z->z<w.heap.size)->Xj S p.ka->Bo S r)/\Xc Xe w w'):=by
 have a0:=Ye hm;have am:N3 c.bS c.size=true:=by
  obtain⟨m1,m2,m3⟩:=D9 hm;exact Te.2 (by omega)
 have b6:0<c.bS*c.size:=Int.mul_pos (by have:=a0.bS;omega) (by have:=a0.size;omega);have em:Bw c=0:=by unfold Bw;rw[bK hm]
 have hf:=Ye hm;have b7:=hf.n;obtain⟨N,hN⟩:=XE (show 0<=c.cN by
  have:=hm;unfold Zb at this;simp only[XK,decide_eq_true_eq,Qy] at this;omega)
 have b8:c.cN<=4096:=by
  have:=hm;unfold Zb at this;simp only[XK,decide_eq_true_eq,Qy] at this;omega
 refine aR func76 ntmps76 aA (bC aA λb w1 e1 hb a1 b9=>bC aA λqb w2 e2 an F ba=>?_);have a2:=F.bP hb;refine bB a2 aA (bG (XbI c p w2 (hc.bR (a1.trans F))) aA λw3 A=>?_);rw[em];have G:=A.bP a2;have H:=A.bP an;have I:=(a1.trans F).trans A;refine aS aA (bB G aA (bB G aA (aP aA (Xlp c.bS c.size w3 am) ?_)));rintro _ w4 ⟨ab,rfl,bb,K,a3⟩;refine aN aA ?_;obtain⟨D,k⟩:∃D:RA,D=⟨some ⟨ab,0,none⟩,(c.bS*c.size).toNat,X6 (c.bS*c.size).toNat,0⟩:=⟨_,rfl⟩;rw[<-k] at K⊢;refine bC aA λt4 w5 e5 ao a4 bc=>bF ao aA λw6 aa a5 bd=>?_;have ac:=aa;have f:=(a3.trans a4).bU a5 (λz d e=>by have:=a3.size;omega);have a6:=f.bP G;have L:=f.bP H;refine bB a6 aA (aP aA (XlV c p w6 (hc.bR (I.trans f)) hm hp) ?_);rintro _ w7 ⟨r2,rfl,k1,k2,k3,k4,M⟩;refine aN aA (bC aA λt6 w8 e8 aq a7 be=>bF aq aA λw9 af a8 bf=>?_);have g:=(M.trans a7).bU a8 (λz d e=>by have:=M.size;omega);have B:=g.bP a6;have ag:=g.bP ac;apply Xa.cut (α:=Nat×Nat) (λx=>[(2,false,.pointer (some ⟨qb,0,none⟩)),(25,false,.agg (Zj {c with cN:=(N:Int)} p).toArray),(27,false,.slice p.ka c.bV.length p.kc),(28,false,.agg (Ha D).toArray),(29,false,.agg (A7 r2).toArray),(32,false,.slice (some ⟨x.1,0,none⟩) N N),(36,false,.slice (some ⟨x.2,0,none⟩) c.bT.length c.bT.length)]) (λx w'=>w'.heap[x.1]?=some (.cells (fl D1 (List.replicate N Nq)).toArray 85 (0,0))/\w'.heap[x.2]?=some (.cells (fl C0 (List.replicate c.bT.length K3)).toArray 142 (0,0))/\Xc Xe w9 w'/\w9.heap.size<=x.1/\w9.heap.size<=x.2)
 .intro J;refine aQ 12 Xe (by kernel_rfl) aA λa=>aE a B aA (aE a B aA (aE a ag aA (aE a af aA (aE a B aA (aE a B aA ?_)))));rw[hN];refine Xd.turn2 a rfl ?_ ?_
  .intro wa ka;refine Xn.make Xb a rfl rfl rfl (XF _) (show 56*N<=140737488355328 by omega) (by omega) (λ_=>rfl) λtb wb etb O P ar=>Xd.cK a rfl λwc h=>Xn.make Xb a rfl rfl rfl (XF _) (show 112*c.bT.length<=140737488355328 by omega) (by omega) (λ_=>rfl) λvb wd evb Q q au=>aF a aA λwe i=>?_;have za:=ka.size;have zc:=h.size;exact J (tb,vb) _ _ ⟨by rw[<-Xc2];exact((h.trans q).trans i).bP O,by rw[<-Xc3];exact i.bP Q,(((ka.trans P).trans h).trans q).trans i,by omega,by omega⟩ ⟨rfl,rfl,rfl,rfl,rfl,rfl,rfl,trivial⟩
  .intro wa ka;refine Xn.make Xb a rfl rfl rfl (XF _) (show 112*c.bT.length<=140737488355328 by omega) (by omega) (λ_=>rfl) λvb wb evb Q P ar=>Xd.cK a rfl λwc h=>Xn.make Xb a rfl rfl rfl (XF _) (show 56*N<=140737488355328 by omega) (by omega) (λ_=>rfl) λtb wd etb O q au=>aF a aA λwe i=>?_;have za:=ka.size;have zc:=h.size;exact J (tb,vb) _ _ ⟨by rw[<-Xc2];exact i.bP O,by rw[<-Xc3];exact((h.trans q).trans i).bP Q,(((ka.trans P).trans h).trans q).trans i,by omega,by omega⟩ ⟨rfl,rfl,rfl,rfl,rfl,rfl,rfl,trivial⟩
 .rintro⟨tb,vb⟩ we ⟨R,T,l,ztb,zvb⟩;simp only at R T ztb zvb
  have bg:=f.size;have bh:=A.size;obtain⟨E,u⟩:∃E:SR,E=⟨c,p,c.bV,p.ka,p.kc,D,r2,List.replicate N Nq,some ⟨tb,0,none⟩,N,List.replicate c.bT.length K3,some ⟨vb,0,none⟩,c.bT.length⟩:=⟨_,rfl⟩;have ah:=((I.trans f).trans g).trans l;have ai:=(g.trans l).bP L;refine aO aA (bF ai aA λwz C j bi=>?_);replace C:Zk wz qb E:=by
   have e1:(List.replicate N Nq).length=N:=XI;have e2:(List.replicate c.bT.length K3).length=c.bT.length:=XI;rw[u];unfold Zk Z8;simp only[e1,e2];rw[<-hN] at C;exact C
  have m:=ah.sn j;have bj:=M.size;have av:Qe wz r2 (Ii c 0):=by
   have U:=(k3.bQ ((a7.sn a8).trans l));exact U.bW (k4 _ (λz e=>by have:=Xg L;omega)) j
  have n:=((K.bQ (a4.sn a5)).bQ g).bQ l;have aw:Xj (λz=>z=qb) D.a:=by rw[k];intro b' off s e d;cases e;have:=Xg H;omega
  have V:Yh wz D:=⟨n.rd.bW aw j,n.len,n.lc,n.rng⟩;have bk:=hf.bV;have aj:Yr w p.ka:=λb' off s e=>hc.bV.block (by omega) e;have ax:Za wz E (Es c):=by
   rw[u];exact {
    cO:=hc.bR m
    kr:=(hc.bR m).bV
    ke:=rfl
    ra:=V
    rb:=by rw[k];show X6 _=X6 _;rw[YQ]
    rs:=by rw[k];rfl
    la:=λb' off s e=>V.rd.block (by rw[k];show 0<(X6 _).length;rw[Gt];omega) e
    lk:=aj.bQ m.size
    rr:=av
    rc:=k1
    rp:=k2
    tr:=Pk (rest:=[]) (by rw[QP];exact j.heap R (by omega)) Sr
    tl:=by intro b' off s e;cases e;exact Xg (j.heap R (by omega))
    tc:=by rw[XI];exact XF _
    tn:=by show(List.replicate N Nq).length=(List.replicate c.cN.toNat none).length;rw[XI,XI,hN];rfl
    te:=λo x t U h2=>by
     have e1:=(ZE ..).symm.trans U;have e2:=(ZE ..).symm.trans h2;split at e1 <;> split at e2 <;> first|(cases e1;done)|(cases e2;done)|(cases e1;cases e2;exact⟨rfl,λy e=>by cases e⟩)
    tq:=λt ht=>by rw[YA ht];exact⟨J2 _ _ _,λ_ _ _ e=>by cases e⟩
    mr:=Pk (rest:=[]) (by rw[QP];exact j.heap T (by omega)) Ss
    ml:=by intro b' off s e;cases e;exact Xg (j.heap T (by omega))
    mc:=by rw[XI];exact XF _
    mn:=by show(List.replicate _ K3).length=(List.replicate _ none).length;rw[XI,XI]
    me:=λo x t U h2=>by
     have e1:=(ZE ..).symm.trans U;have e2:=(ZE ..).symm.trans h2;split at e1 <;> split at e2 <;> first|(cases e1;done)|(cases e2;done)|(cases e1;cases e2;exact⟨rfl,λy e=>by cases e⟩)}
  have al:∀S:Nat->Prop,(∀z,S z->z<w.heap.size)->Xj S p.ka->Bo S E:=λS W hk=>by
   rw[u];refine⟨hk,?_,k4 S (λz d=>by have:=W z d;omega),?_,λt ht=>?_,?_⟩
   .rw[k];intro b' off s e d;cases e;have:=W _ d;omega
   .intro b' off s e d;cases e;have:=W _ d;omega
   .rw[YA ht];intro b' off s e;cases e
   .intro b' off s e d;cases e;have:=W _ d;omega
  exact aK func76 C aA ⟨E,rfl,by rw[u],by rw[u],ax,al,m⟩
theorem Xmb(a:Option Addr)(cap:Nat)(xs:List Fh)(w:dD)(hr:Rows Hw 5 w a xs)(hl:xs.length<=9223372036854775807):Xf prog 8 #[.slice a xs.length cap] w (λv w'=>∃b,v=.bool b/\(b=true->xs.length<=20/\∀x∈xs,x.bs.length<=100/\1<=x.kind/\x.kind<=7)/\w=w'):=by
 refine aR func8 ntmps8 aA ?_;refine Xa.loop (α:=Nat) (λk=>[(0,false,.slice a xs.length cap),(3,false,.int .i64 k)])
  (λk w'=>w'=w/\k<=xs.length/\k<=21/\∀j (h:j<xs.length),j<k->xs[j].bs.length<=100/\1<=xs[j].kind/\xs[j].kind<=7) (λk=>21-k) 0 ⟨rfl,rfl,trivial⟩ ⟨rfl,XQ _,by omega,λ_ _ h=>by omega⟩ ?_
 rintro k y ⟨q,z,r,d⟩ ih;subst q;have f:¬(k<xs.length/\k<21)->xs.length<=20 -> ∀x∈xs,x.bs.length<=100/\1<=x.kind/\x.kind<=7:=λg i x s=>by
  obtain⟨j,l,rfl⟩:=QU s;exact d j l (by omega)
 refine aN aA (aT aA (λg=>?_) λg=>?_)
 .refine aT aA (λi=>?_) λi=>?_
  .have m:k<xs.length:=by have:=bL g;omega
   have t:k<21:=by have:=bL i;omega
   obtain⟨b,off,rfl,c⟩:=hr.at m;refine aU (k*5) aA (aW aA (c 4 _ rfl) aA (aT aA (λn=>?_) λn=>?_))
   .exact bE func8 aA ⟨false,rfl,(λh=>Bool.noConfusion h),rfl⟩
   .have A:=bM n;refine aU (k*5) aA (aW aA (c 0 _ rfl) aA (aT aA (λo=>?_) λo=>?_))
    .exact bE func8 aA ⟨false,rfl,(λh=>Bool.noConfusion h),rfl⟩
    have B:=bM o;refine aU (k*5) aA (aW aA (c 0 _ rfl) aA (aT aA (λp=>?_) λp=>?_))
    .exact bE func8 aA ⟨false,rfl,(λh=>Bool.noConfusion h),rfl⟩
    have C:=bM p;refine aV aA ?_;exact ih (k+1) _ _ ⟨rfl,by omega,by omega,λj l u=>by
     by_cases e:j=k
     .subst e;omega
     .exact d j l (by omega)⟩ (by omega) ⟨rfl,rfl,trivial⟩
  .have t:=bM i;exact bE func8 aA ⟨_,rfl,λh=>by have:=bL h;exact⟨by omega,f (by omega) (by omega)⟩,rfl⟩
 .have m:=bM g;exact bE func8 aA ⟨_,rfl,λh=>by have:=bL h;exact⟨by omega,f (by omega) (by omega)⟩,rfl⟩
theorem XjN{n0:Nat}{S:Sto}{H:Nat}{x:HpM}(h:Hv c n0 w0 w F S H P x)(u:Fh)(hu:Jq w u)(hk:1<=u.kind/\u.kind<=7)(hout:0<u.bs.length->Xj F u.ba):Xf prog 11 #[Cj H,.agg (Hw u).toArray] w
 (K5 c n0 w0 w F S H P (Ze c x u) (Qm c x u) (Qn c x u) (Y5 c x u) (Z6 c x u)):=by
 refine aR func11 ntmps11 aA (bC aA λub w1 e1 U V W=>?_);refine bC aA λrb L e2 i T a0=>?_;have s:=V.trans T;have M:=h.bQ s;have m:=T.bP U;have E:=s.size;have a:=h.off (b:=rb) (by omega);refine bB m aA ?_;by_cases l:u.kind=1
 .have eX:Ze c x u=Bl c x u.a:=by unfold Ze;rw[bK l]
  have eE:Qm c x u=Cx c x u.a:=by unfold Qm;rw[bK l]
  have eG:Qn c x u=D5 c x u.a:=by unfold Qn;rw[bK l]
  have eK:Y5 c x u=D6 c x u.a:=by unfold Y5;rw[bK l]
  have eB:Z6 c x u=[]:=by unfold Z6;rw[bJ (by omega)]
  refine bI aA (bB m aA ?_);rw[eE,eG,eK,eX,eB];refine aP aA (XaS M u.a) ?_;rintro _ O ⟨bv,g,B,rfl,t,C,j,k,v⟩;refine aN aA ?_;obtain⟨ra,rc,rfl,y,n⟩:=t;have d:=k.heap i a;have o:∀q,g q->F q\/w.heap.size<=q:=λq z=>(j q z).imp id (by omega);have p:¬g rb:=λe=>by
   rcases j rb e with e|e
   .exact a (.inl e)
   .have:=Xg i;omega
  have G:=h.hm.since0;have I:=Xg h.hm.obj;exact bF d aA λQ r f J=>aK func11 r aA ⟨_,g,B,rfl,(((show Yc L.heap.size g _ (.slice ra _ rc) _ from⟨ra,rc,rfl,y,n⟩).bR f (λq e=>.inl (.inl (by have:=Xg i;omega)))).low E (λ_ _ _ h=>h)),(C.boxed p (by omega) ⟨λe=>a (.inr e),by omega⟩ (X1 d) (by decide) f),o,(s.gr.trans k).sn f,v⟩
 by_cases A:u.kind=2
 .have eX:Ze c x u=A6 c x u.h:=by unfold Ze;rw[bJ l,bK A]
  have eE:Qm c x u=X0 x.tb u.h:=by unfold Qm;rw[bJ l,bK A]
  have eG:Qn c x u=0:=by unfold Qn;rw[bJ l]
  have eK:Y5 c x u=(if X0 x.tb u.h=0 then 2 else 0)+(1+((A6 c x u.h).st.rm.tot-x.st.rm.tot)):=by unfold Y5;rw[bJ l,bK A,eX]
  have eB:Z6 c x u=[]:=by unfold Z6;rw[bJ (by omega)]
  refine aS aA (bI aA (bB m aA ?_));rw[eE,eG,eK,eX,eB];refine aP aA (T0 M u.h hu.h) ?_;rintro _ O ⟨bv,g,B,rfl,t,C,j,k,v⟩;refine aN aA ?_;obtain⟨ra,rc,rfl,y,n⟩:=t;have d:=k.heap i a;have o:∀q,g q->F q\/w.heap.size<=q:=λq z=>(j q z).imp id (by omega);have p:¬g rb:=λe=>by
   rcases j rb e with e|e
   .exact a (.inl e)
   .have:=Xg i;omega
  have G:=h.hm.since0;have I:=Xg h.hm.obj;exact bF d aA λQ r f J=>aK func11 r aA ⟨_,g,B,rfl,(((show Yc L.heap.size g _ (.slice ra _ rc) _ from⟨ra,rc,rfl,y,n⟩).bR f (λq e=>.inl (.inl (by have:=Xg i;omega)))).low E (λ_ _ _ h=>h)),(C.boxed p (by omega) ⟨λe=>a (.inr e),by omega⟩ (X1 d) (by decide) f),o,(s.gr.trans k).sn f,v⟩
 by_cases D:u.kind=3
 .have eX:Ze c x u=D7 c x u.h u.a u.b:=by unfold Ze;rw[bJ l,bJ A,bK D]
  have eE:Qm c x u=B9 x u.h u.a u.b:=by unfold Qm;rw[bJ l,bJ A,bK D]
  have eG:Qn c x u=0:=by unfold Qn;rw[bJ l]
  have eK:Y5 c x u=0+(1+((D7 c x u.h u.a u.b).st.rm.tot-x.st.rm.tot)):=by unfold Y5;rw[bJ l,bJ A,bK (.inl D),eX]
  have eB:Z6 c x u=Jx c x u.h u.a u.b:=by unfold Z6;rw[bK D]
  refine aS aA (aS aA (bI aA (bB m aA (bB m aA (bB m aA ?_)))));rw[eE,eG,eK,eX,eB];refine aP aA (XaV M u.h u.a u.b hu.h hu.a hu.b) ?_;rintro _ O ⟨bv,g,B,rfl,t,C,j,k,v⟩;refine aN aA ?_;obtain⟨ra,rc,rfl,y,n⟩:=t;have d:=k.heap i a;have o:∀q,g q->F q\/w.heap.size<=q:=λq z=>(j q z).imp id (by omega);have p:¬g rb:=λe=>by
   rcases j rb e with e|e
   .exact a (.inl e)
   .have:=Xg i;omega
  have G:=h.hm.since0;have I:=Xg h.hm.obj;exact bF d aA λQ r f J=>aK func11 r aA ⟨_,g,B,rfl,(((show Yc L.heap.size g _ (.slice ra _ rc) _ from⟨ra,rc,rfl,y,n⟩).bR f (λq e=>.inl (.inl (by have:=Xg i;omega)))).low E (λ_ _ _ h=>h)),(C.boxed p (by omega) ⟨λe=>a (.inr e),by omega⟩ (X1 d) (by decide) f),o,(s.gr.trans k).sn f,v⟩
 by_cases K:u.kind=4
 .have eX:Ze c x u=D8 c x u.h u.a u.bs:=by unfold Ze;rw[bJ l,bJ A,bJ D,bK K]
  have eE:Qm c x u=B9 x u.h u.a u.bs.length:=by unfold Qm;rw[bJ l,bJ A,bJ D,bK K]
  have eG:Qn c x u=0:=by unfold Qn;rw[bJ l]
  have eK:Y5 c x u=0+(1+((D8 c x u.h u.a u.bs).st.rm.tot-x.st.rm.tot)):=by unfold Y5;rw[bJ l,bJ A,bK (.inr (.inl K)),eX]
  have eB:Z6 c x u=[]:=by unfold Z6;rw[bJ (by omega)]
  refine aS aA (aS aA (aS aA (bI aA (bB m aA (bB m aA (bB m aA ?_))))));rw[eE,eG,eK,eX,eB];refine aP aA (XaW M u.h u.a u.ba u.bc u.bs hu.h hu.a (hu.rd.bR s) hu.lc (by have:=hu.lc;have:=hu.len;omega) hu.rng hout) ?_;rintro _ O ⟨bv,g,B,rfl,t,C,j,k,v⟩;refine aN aA ?_;obtain⟨ra,rc,rfl,y,n⟩:=t;have d:=k.heap i a;have o:∀q,g q->F q\/w.heap.size<=q:=λq z=>(j q z).imp id (by omega);have p:¬g rb:=λe=>by
   rcases j rb e with e|e
   .exact a (.inl e)
   .have:=Xg i;omega
  have G:=h.hm.since0;have I:=Xg h.hm.obj;exact bF d aA λQ r f J=>aK func11 r aA ⟨_,g,B,rfl,(((show Yc L.heap.size g _ (.slice ra _ rc) _ from⟨ra,rc,rfl,y,n⟩).bR f (λq e=>.inl (.inl (by have:=Xg i;omega)))).low E (λ_ _ _ h=>h)),(C.boxed p (by omega) ⟨λe=>a (.inr e),by omega⟩ (X1 d) (by decide) f),o,(s.gr.trans k).sn f,v⟩
 by_cases N:u.kind=5
 .have eX:Ze c x u=Gg c x u.h u.a:=by unfold Ze;rw[bJ l,bJ A,bJ D,bJ K,bK N]
  have eE:Qm c x u=I3 c x u.h u.a:=by unfold Qm;rw[bJ l,bJ A,bJ D,bJ K,bK N]
  have eG:Qn c x u=0:=by unfold Qn;rw[bJ l]
  have eK:Y5 c x u=0+(1+((Gg c x u.h u.a).st.rm.tot-x.st.rm.tot)):=by unfold Y5;rw[bJ l,bJ A,bK (.inr (.inr N)),eX]
  have eB:Z6 c x u=[]:=by unfold Z6;rw[bJ (by omega)]
  refine aS aA (aS aA (aS aA (aS aA (bI aA (bB m aA (bB m aA ?_))))));rw[eE,eG,eK,eX,eB];refine aP aA (Xey M u.h u.a hu.h) ?_;rintro _ O ⟨bv,g,B,rfl,t,C,j,k,v⟩;refine aN aA ?_;obtain⟨ra,rc,rfl,y,n⟩:=t;have d:=k.heap i a;have o:∀q,g q->F q\/w.heap.size<=q:=λq z=>(j q z).imp id (by omega);have p:¬g rb:=λe=>by
   rcases j rb e with e|e
   .exact a (.inl e)
   .have:=Xg i;omega
  have G:=h.hm.since0;have I:=Xg h.hm.obj;exact bF d aA λQ r f J=>aK func11 r aA ⟨_,g,B,rfl,(((show Yc L.heap.size g _ (.slice ra _ rc) _ from⟨ra,rc,rfl,y,n⟩).bR f (λq e=>.inl (.inl (by have:=Xg i;omega)))).low E (λ_ _ _ h=>h)),(C.boxed p (by omega) ⟨λe=>a (.inr e),by omega⟩ (X1 d) (by decide) f),o,(s.gr.trans k).sn f,v⟩
 by_cases R:u.kind=6
 .have eX:Ze c x u=Lc c x:=by unfold Ze;rw[bJ l,bJ A,bJ D,bJ K,bJ N,bK R]
  have eE:Qm c x u=0:=by unfold Qm;rw[bJ l,bJ A,bJ D,bJ K,bJ N,bK R]
  have eG:Qn c x u=0:=by unfold Qn;rw[bJ l]
  have eK:Y5 c x u=(Lc c x).st.rm.tot-x.st.rm.tot:=by unfold Y5;rw[bJ l,bJ A,bJ (by omega),eX]
  have eB:Z6 c x u=[]:=by unfold Z6;rw[bJ (by omega)]
  refine aS aA (aS aA (aS aA (aS aA (aS aA (bI aA ?_)))));rw[eE,eG,eK,eX,eB];refine aP aA (Xju M) ?_;rintro _ O ⟨bv,g,B,rfl,t,C,j,k,v⟩;refine aN aA ?_;obtain⟨ra,rc,rfl,y,n⟩:=t;have d:=k.heap i a;have o:∀q,g q->F q\/w.heap.size<=q:=λq z=>(j q z).imp id (by omega);have p:¬g rb:=λe=>by
   rcases j rb e with e|e
   .exact a (.inl e)
   .have:=Xg i;omega
  have G:=h.hm.since0;have I:=Xg h.hm.obj;exact bF d aA λQ r f J=>aK func11 r aA ⟨_,g,B,rfl,(((show Yc L.heap.size g _ (.slice ra _ rc) _ from⟨ra,rc,rfl,y,n⟩).bR f (λq e=>.inl (.inl (by have:=Xg i;omega)))).low E (λ_ _ _ h=>h)),(C.boxed p (by omega) ⟨λe=>a (.inr e),by omega⟩ (X1 d) (by decide) f),o,(s.gr.trans k).sn f,v⟩
 .have eX:Ze c x u=I4 x u.a u.b:=by unfold Ze;rw[bJ l,bJ A,bJ D,bJ K,bJ N,bJ R]
  have eE:Qm c x u=Ce x.st u.a u.b:=by unfold Qm;rw[bJ l,bJ A,bJ D,bJ K,bJ N,bJ R]
  have eG:Qn c x u=0:=by unfold Qn;rw[bJ l]
  have eK:Y5 c x u=(I4 x u.a u.b).st.rm.tot-x.st.rm.tot:=by unfold Y5;rw[bJ l,bJ A,bJ (by omega),eX]
  have eB:Z6 c x u=[]:=by unfold Z6;rw[bJ (by omega)]
  refine aS aA (aS aA (aS aA (aS aA (aS aA (aS aA (bB m aA (bB m aA ?_)))))));rw[eE,eG,eK,eX,eB];refine aP aA (Xjs M u.a u.b) ?_;rintro _ O ⟨bv,g,B,rfl,t,C,j,k,v⟩;refine aN aA ?_;obtain⟨ra,rc,rfl,y,n⟩:=t;have d:=k.heap i a;have o:∀q,g q->F q\/w.heap.size<=q:=λq z=>(j q z).imp id (by omega);have p:¬g rb:=λe=>by
   rcases j rb e with e|e
   .exact a (.inl e)
   .have:=Xg i;omega
  have G:=h.hm.since0;have I:=Xg h.hm.obj;exact bF d aA λQ r f J=>aK func11 r aA ⟨_,g,B,rfl,(((show Yc L.heap.size g _ (.slice ra _ rc) _ from⟨ra,rc,rfl,y,n⟩).bR f (λq e=>.inl (.inl (by have:=Xg i;omega)))).low E (λ_ _ _ h=>h)),(C.boxed p (by omega) ⟨λe=>a (.inr e),by omega⟩ (X1 d) (by decide) f),o,(s.gr.trans k).sn f,v⟩
structure BL where
 a:Option Addr
 cap:Nat
 x:List Bool
abbrev Tj(l:BL):dE:=.slice l.a l.x.length l.cap
structure Hi(w:dD)(l:BL):Prop where
 rd:Dd w l.a l.x
 len:l.x.length<=512
 cap:l.x.length<=l.cap
 lt:Yr w l.a
theorem Dd.bW{x:List Bool}(h:Dd w a x)(hs:Xj S a)(hc:Xc S w w'):Dd w' a x:=λi c=>by
 obtain⟨b,off,e,d⟩:=h i c;exact⟨b,off,e,hc.cell d (hs _ _ _ e)⟩
theorem Dd.atD{x:List Bool}(h:Dd w a x)(hi:i<x.length):∃b off,a=some ⟨b,off,none⟩/\w.cell? ⟨b,off+i,none⟩=some (.bool (x.getD i false)):=by
 obtain⟨b,off,e,c⟩:=h i hi;exact⟨b,off,e,by rw[c,XA,XD hi];rfl⟩
theorem Hi.bW{w w':dD}{l:BL}{S:Nat->Prop}(h:Hi w l)(hs:Xj S l.a)(hc:Xc S w w'):Hi w' l:=⟨h.rd.bW hs hc,h.len,h.cap,h.lt.bQ hc.size⟩
theorem Hi.bQ{l:BL}(h:Hi w l)(hc:Xc Xe w w'):Hi w' l:=h.bW (λ_ _ _ _ h=>h) hc
theorem Dd.cellsA{x:List Bool}(h:Dd w a x):∀i u,(x.map Value.bool)[i]?=some u -> ∃a',a=some a'/\w.cell? (a'.add i)=some u:=λi u c=>by
 have d:i<x.length:=by have:=(XC.1 c).1;simpa using this
 obtain⟨b,off,rfl,f⟩:=h i d;refine⟨_,rfl,?_⟩;rw[Cr,f];rw[XN,XD d] at c;exact c
theorem XkX{x:List Bool}:∀u∈x.map Value.bool,u.oneCell'=true:=by
 intro u a;obtain⟨z,_,rfl⟩:=XP.1 a;rfl
structure C1 where
 g:IL
 l:BL
 f:IL
 cH:Int
def Dl(r:C1):List dE:=[Xr r.g,Tj r.l,Xr r.f,.int .i64 r.cH]
structure Do(w:dD)(r:C1)(t:TbM):Prop where
 g:Q6 w r.g
 l:Hi w r.l
 f:Q6 w r.f
 eg:r.g.x=t.gen
 el:r.l.x=t.dB
 ef:r.f.x=t.fl.map (λn:Nat=>(n:Int))
 em:r.cH=t.cH
theorem Do.bQ{w w':dD}{r:C1}{t:TbM}(h:Do w r t)(hc:Xc Xe w w'):Do w' r t:=⟨h.g.bQ hc,h.l.bQ hc,h.f.bQ hc,h.eg,h.el,h.ef,h.em⟩
def Iw(S:Nat->Prop)(r:C1):Prop:=Xj S r.g.a/\Xj S r.l.a/\Xj S r.f.a
theorem Do.bW{w w':dD}{r:C1}{t:TbM}{S:Nat->Prop}(h:Do w r t)(hs:Iw S r)(hc:Xc S w w'):Do w' r t:=⟨h.g.bW hs.1 hc,h.l.bW hs.2.1 hc,h.f.bW hs.2.2 hc,h.eg,h.el,h.ef,h.em⟩
theorem Do.out{w:dD}{r:C1}{t:TbM}{S:Nat->Prop}(h:Do w r t)(hs:∀z,S z->w.heap.size<=z):Iw S r:=⟨h.g.lt.out hs,h.l.lt.out hs,h.f.lt.out hs⟩
def L5(w:dD)(r r':C1):Prop:=∀S:Nat->Prop,(∀z,S z->z<w.heap.size)->Iw S r->Iw S r'
theorem Xba:Da (Zl h) (Z1 h)=true↔4096<=h/\h<4194304:=by
 simp only[Da,XK,decide_eq_true_eq];unfold Zl Z1;by_cases a:0<=h
 .rw[YT a,Int.tmod_eq_emod_of_nonneg a];omega
 .obtain⟨y,rfl⟩:∃y,h=-y:=⟨-h,by omega⟩;rw[Int.neg_tdiv,YT (by omega)];omega
theorem Xm7(h1:4096<=h/\h<4194304):Zl h=h%4096/\Z1 h=h/4096:=by
 unfold Zl Z1;exact⟨Int.tmod_eq_emod_of_nonneg (by omega),YT (by omega)⟩
theorem Xfn{f:α->dE}{x:List α}(h:Xl base t 1 w v m ([]++x.map f))(hm:0<m)(hx:x.length=m):∃g cap rest,v=.slice (some ⟨g,0,none⟩) m cap/\base<=g/\w.heap[g]?=some (.cells (x.map f++rest).toArray t (0,0))/\m<=cap:=by
 obtain⟨g,cap,cur,rfl,b,c,d,i,a⟩:=h.form hm;refine⟨g,cap,cur.toList.drop m,rfl,b,?_,d⟩;have e:=XY m cur.toList;rw[ZQ,ZS] at a;rw[a] at e;rw[e];exact c
theorem Xgt{f:α->dE}{x:List α}{y:α}(hi:i<x.length):Z4 (x.map f++rest) (0+i) [f y]=some ((x.set i y).map f++rest):=by
 rw[XT,J8 _ _ _ (by simp;omega),YK _ _ (by simpa using hi),ZZ]
theorem Xlv(h:Int)(w:dD)(hh : -9223372036854775808<=h/\h<=9223372036854775807):Xf prog 59 #[.int .i64 h] w (X5 (if Da (Zl h) (Z1 h)=true then .tuple #[.int .i64 (Zl h),.int .i64 (Z1 h),.int .i64 0] else .tuple #[.int .i64 0,.int .i64 0,.int .i64 7]) w):=by
 refine aR func59 ntmps59 aA ?_;by_cases a:h<4096
 .exact bI aA (bD rfl func59 (.tmp rfl (.tmp rfl (.tmp rfl .nil))) ⟨by rw[bJ (λe=>by have:=Xba.1 e;omega)];rfl,rfl⟩)
 .refine aS aA ?_;by_cases b:4194304<=h
  .exact bI aA (bD rfl func59 (.tmp rfl (.tmp rfl (.tmp rfl .nil))) ⟨by rw[bJ (λe=>by have:=Xba.1 e;omega)];rfl,rfl⟩)
  .refine aS aA (Xa.div Xb rfl (by omega) (Hb (by omega)) rfl (Xa.div Xb rfl (by omega) (Gm (by omega) (by omega)) rfl ?_));have hm:=Xm7 (h:=h) (by omega);exact bD rfl func59 (.tmp rfl (.tmp rfl (.tmp rfl .nil))) ⟨by rw[bK (Xba.2 (by omega)),hm.1,hm.2];rfl,rfl⟩
theorem Xlu(slot gen:Int)(w:dD)(hs:0<=slot/\slot<=4095)(hg:1<=gen/\gen<=1023):Xf prog 134 #[.int .i64 slot,.int .i64 gen] w (X5 (.tuple #[.int .i64 (4096*gen+slot),.int .i64 0]) w):=by
 exact aR func134 ntmps134 aA (aS aA (aS aA (aS aA (aS aA (aV aA (aV aA (bE func134 aA ⟨rfl,rfl⟩)))))))
theorem Uz{r:C1}{t:TbM}(h:Do w r t)(ht:t.Ok cN cS)(k:Int)(hk : -9223372036854775808<=k/\k<=9223372036854775807):Xf prog 21 #[.agg (Dl r).toArray,.int .i64 k] w (Grow (.tuple #[.int .i64 (Zc t k),.int .i64 (X0 t k)]) w):=by
 have v:=ht.n;have s:=ht.nl;refine aR func21 ntmps21 aA (bC aA λb o e1 p a u=>?_);refine bH (Xlv k o hk) aA ?_;cases hm:Da (Zl k) (Z1 k) with
 |false=>
  have e:X0 t k=7:=by unfold X0;rw[bK hm]
  have en:Zc t k=0:=by unfold Zc;rw[e];rfl
  exact bI aA (bE func21 aA ⟨by rw[e,en];rfl,a⟩)
 |true=>
  have l:=hm;simp only[Da,XK,decide_eq_true_eq] at l;refine aS aA (bB p aA ?_);have egl:r.g.x.length=t.gen.length:=by rw[h.eg]
  have ell:r.l.x.length=t.dB.length:=by rw[h.el]
  by_cases x:(r.g.x.length:Int)<=Zl k
  .have e:X0 t k=7:=by unfold X0;rw[bJ (by rw[hm];decide),bK (by omega)]
   have en:Zc t k=0:=by unfold Zc;rw[e];rfl
   exact bI aA (bE func21 aA ⟨by rw[e,en],a⟩)
  .refine aS aA ?_;obtain⟨j,f⟩:=XE l.1.1.1;obtain⟨gb,go,ega,c⟩:=(h.g.bQ a).ok.rd j (by omega);obtain⟨lb,lo,ela,m⟩:=(h.l.bQ a).rd.atD (i:=j) (by omega);have eg:A9 t (Zl k)=r.g.x.getD j 0:=by rw[f,h.eg];unfold A9;rw[XB,XA]
   have el:Nl t (Zl k)=r.l.x.getD j false:=by rw[f,h.el];unfold Nl;rw[XB,XA]
   obtain⟨G,eG⟩:∃G,G=r.g.x.getD j 0:=⟨_,rfl⟩;obtain⟨L,eL⟩:∃L,L=r.l.x.getD j false:=⟨_,rfl⟩;rw[<-eG] at c eg;rw[<-eL] at m el;have g:X0 t k=if Z1 k<G then 6 else if G<Z1 k then 7 else if L=false then 7 else 0:=by
    unfold X0;rw[bJ (by rw[hm];decide),bJ (by omega),eg,el]
   have q:Zc t k=if X0 t k=0 then (j:Int) else 0:=by unfold Zc;rw[f]
   have d:o.heap[b]?=some (.cells ([.slice (some ⟨gb,go,none⟩) r.g.x.length r.g.cap,.slice (some ⟨lb,lo,none⟩) r.l.x.length r.l.cap,Xr r.f,.int .i64 r.cH]:List dE).toArray 45 (0,0)):=by rw[<-ega,<-ela];exact p
   rw[q,f];refine bB d aA (aU j aA (aW aA c aA ?_));by_cases n:G<Z1 k
   .exact bI aA (bE func21 aA ⟨by rw[show X0 t k=7 by rw[g,bJ (by omega),bK n]];rfl,a⟩)
   .refine aS aA (bB d aA (aU j aA (aW aA c aA ?_)));by_cases y:G=Z1 k
    .refine bI aA (bB d aA (aU j aA (aW aA m aA ?_)));cases L with
     |false=>
      exact bI aA (bE func21 aA ⟨by rw[show X0 t k=7 by rw[g,bJ (by omega),bJ n,bK rfl]];rfl,a⟩)
     |true=>
      exact aS aA (bB d aA (aU j aA (aW aA c aA (aS aA (bE func21 aA ⟨by rw[show X0 t k=0 by rw[g,bJ (by omega),bJ n,bJ (by decide)]];rfl,a⟩)))))
    .exact aS aA (bB d aA (aU j aA (aW aA c aA (bI aA (bE func21 aA ⟨by rw[show X0 t k=6 by rw[g,bK (by omega)]];rfl,a⟩)))))
theorem Xlz(r:C1)(i:Nat)(g:Int)(b:Bool)(w:dD)(h:Q6 w r.g)(hl:Hi w r.l)(hi:i<r.g.x.length)(hi2:i<r.l.x.length):Xf prog 135 #[.agg (Dl r).toArray,.int .i64 i,.int .i64 g,.bool b] w
 (λu w'=>∃g' l',u=.agg (Dl ⟨g',l',r.f,r.cH⟩).toArray/\g'.x=r.g.x.set i g/\l'.x=r.l.x.set i b/\Q6 w' g'/\Hi w' l'/\Be w g'.a/\Be w l'.a/\Xc Xe w w'):=by
 have aj:maxLen=9223372036854775807:=rfl;have ak:=h.ok.len;have al:=hl.len;refine aR func135 ntmps135 aA (bC aA λpb w1 e1 c B am=>bC aA λqb R e2 S m an=>?_);replace c:w1.heap[pb]?=some (.cells (Dl r).toArray 45 (0,0)):=c;refine Xa.buildSlice Xb rfl λb3 w3 e3 T n ao=>aN aA ?_;have o:=m.trans n;have G:=B.trans o;refine bB (o.bP c) aA ?_;have U:Xl R.heap.size 3 1 w3 (.slice (some ⟨b3,0,none⟩) 0 0) 0 []:=Xl.empty (by omega) T;refine Xa.appendA (base:=R.heap.size) (xs:=[]) (news:=r.g.x.map (Value.int .i64)) Xb rfl U n.size h.ok.rd.noneA (by simp) (h.ok.rd.bR G).cellsA Jd (by simp only;omega) λv4 w4 V W ap=>aN aA ?_;have d:=U.bU n (XF _) W;obtain⟨gb,H,rest,rfl,aq,a0,ar⟩:=Xfn V (by omega) (by simp);refine aU i aA (aL aA a0 (Xgt (f:=Value.int .i64) (y:=g) hi) aA λx C p au=>?_);have af:=d.size;have q:Xc Xe w x:=((B.trans m).trans d).sn p;have t:=p.heap (d.bP (m.bP c)) (show ¬pb=gb by omega);have I:=p.heap (d.bP S) (show ¬qb=gb by omega);refine Xa.buildSlice Xb rfl λb6 w6 e6 a1 j av=>aN aA (bB (j.bP t) aA ?_);have D:Xl x.heap.size 4 1 w6 (.slice (some ⟨b6,0,none⟩) 0 0) 0 []:=Xl.empty (by omega) a1;refine Xa.appendA (base:=x.heap.size) (xs:=[]) (news:=r.l.x.map Value.bool) Xb rfl D j.size (λe=>by have:=hl.rd 0 (by omega);obtain⟨_,_,e',_⟩:=this;rw[e] at e';cases e') (by simp) (hl.rd.bR (q.trans j)).cellsA XkX (by simp only;omega) λv7 w7 a2 a3 aw=>aN aA ?_;have a4:=D.bU j (XF _) a3;obtain⟨lb,J,ab,rfl,ax,a5,ay⟩:=Xfn a2 (by omega) (by simp);refine aU i aA (aL aA a5 (Xgt (f:=Value.bool) (y:=b) hi2) aA λw8 a6 a7 az=>?_);have b0:=Xg C;have a:Xc Xe x w8:=a4.sn a7;have K:=a.bP t;have L:=a.bP I;have a8:=a.bP C;refine bF K aA λw9 M k b1=>bF M aA λwa N l b2=>?_;have O:=l.heap (k.heap L (by omega)) (by omega);have a9:=l.heap (k.heap a8 (by omega)) (by omega);have aa:=l.heap (k.heap a6 (by omega)) (by omega);refine bB N aA (bF O aA λwb P v b4=>?_);have E:=v.heap a9 (by omega);have F:=v.heap aa (by omega);have Q:Xc Xe w wb:=(((q.trans a).sn k).sn l).sn v;have e1:(r.g.x.set i g).length=0+r.g.x.length:=by rw[XG];omega
 have e2:(r.l.x.set i b).length=0+r.l.x.length:=by rw[XG];omega
 exact aK func135 P aA ⟨⟨some ⟨gb,0,none⟩,H,r.g.x.set i g⟩,⟨some ⟨lb,0,none⟩,J,r.l.x.set i b⟩,by show _=Value.agg [Value.slice _ (r.g.x.set i g).length _,Value.slice _ (r.l.x.set i b).length _,_,_].toArray;rw[e1,e2];rfl,rfl,rfl,⟨⟨Rd.of_take E (by simp),by simp only;omega⟩,by simp only;omega,(by intro b off s e;cases e;exact Xg E)⟩,⟨Dd.of_take F (by simp),by simp only;omega,by simp only;omega,(by intro b off s e;cases e;exact Xg F)⟩,(by intro b off s e;cases e;omega),(by intro b off s e;cases e;omega),Q⟩
abbrev wtF(x:C1):dE:=.agg (Dl x).toArray
abbrev Su(w:dD)(r:C1)(i:Nat)(g:Int)(b:Bool)(x:C1)(w2:dD):Prop:=x.g.x=r.g.x.set i g/\x.l.x=r.l.x.set i b/\(x.f=r.f/\x.cH=r.cH)/\Q6 w2 x.g/\Hi w2 x.l/\Be w x.g.a/\Be w x.l.a
abbrev wtG(x:C1)(b:Nat):Prop:=Xj (λz=>z=b) x.g.a/\Xj (λz=>z=b) x.l.a
theorem XhC{r:C1}{g:Int}{b:Bool}:∀x w2 w3,Su w r i g b x w2->Xc Xe w2 w3->Su w r i g b x w3:=λ_ _ _ ⟨a,b,c,d,e,f,g⟩ h=>⟨a,b,c,d.bQ h,e.bQ h,f,g⟩
theorem XfM(r:C1)(i:Nat)(g:Int)(b:Bool)(h:Q6 w r.g)(hl:Hi w r.l)(hi:i<r.g.x.length)(hi2:i<r.l.x.length):∀w',Xc Xe w w'->Xf prog 135 #[.agg (Dl r).toArray,.int .i64 i,.int .i64 g,.bool b] w'
 (λv w2=>Xc Xe w' w2/\∃x,v=wtF x/\Su w r i g b x w2/\∀z,w.heap.size<=z->(z<w'.heap.size\/w2.heap.size<=z)->wtG x z):=λw' a=>
 (Xlz r i g b w' (h.bQ a) (hl.bQ a) hi hi2).mono λv w2 ⟨g',l',e,e1,e2,c,d,fg,fl,j⟩=>by
  have l:=a.size;exact⟨j,⟨g',l',r.f,r.cH⟩,e,⟨e1,e2,⟨rfl,rfl⟩,c,d,(λb off s e=>by have:=fg b off s e;omega),(λb off s e=>by have:=fl b off s e;omega)⟩,λz m k=>⟨λb off s e f=>by have:=fg b off s e;have:=c.lt b off s e;omega,λb off s e f=>by have:=fl b off s e;have:=d.lt b off s e;omega⟩⟩
theorem XmF{x:List Int}{g:Int}(h:x[i]?=some g):x.set i g=x:=by
 refine QD λj=>?_;rw[ZX];split
 .rename_i e;subst e
  rw[bK (XC.1 h).1,h]
 .rfl
theorem Xly{r:C1}{t:TbM}(h:Do w r t)(ht:t.Ok cN cS)(hne:t.fl≠[]):Xf prog 81 #[.agg (Dl r).toArray] w (λv w'=>∃r',v=.tuple #[.agg (Dl r').toArray,.int .i64 (Lw t),.int .i64 (Dk t),.int .i64 0]/\Do w' r' (Ee t)/\L5 w r r'/\Xc Xe w w'):=by
 obtain⟨n,fl,ef⟩:=List.exists_cons_of_ne_nil hne;obtain⟨g,q,q2,q3⟩:=ht.fr n (by rw[ef];exact ZP);have al:=ht.gen n g q;have am:=ht.gs;have an:=ht.sl;have hn:=ht.n;have ao:=ht.nl;have ap:=(XC.1 q).1;have egl:r.g.x.length=t.gen.length:=by rw[h.eg]
 have ell:r.l.x.length=t.dB.length:=by rw[h.el]
 have efx:r.f.x=(n:Int)::fl.map (λn:Nat=>(n:Int)):=by rw[h.ef,ef];rfl
 have efl:r.f.x.length=fl.length+1:=by rw[efx];simp
 have aq:=h.f.ok.len;have aa:=h.f.cap;refine aR func81 ntmps81 aA (bC aA λb L e1 C D ar=>bC aA λqb G e2 M u au=>?_);have a:=D.trans u;obtain⟨fb,fo,efa,E⟩:=h.f.ok.rd 0 (by omega);obtain⟨gb,go,ega,y⟩:=h.g.ok.rd n (by omega);have N:r.g.x.getD n 0=g:=by rw[h.eg,XA,q];rfl
 have O:r.f.x.getD 0 0=n:=by rw[efx];rfl
 rw[N] at y;rw[O] at E;replace C:L.heap[b]?=some (.cells (Dl r).toArray 45 (0,0)):=C;have P:L.heap[b]?=some (.cells ([.slice (some ⟨gb,go,none⟩) r.g.x.length r.g.cap,Tj r.l,.slice (some ⟨fb,fo,none⟩) r.f.x.length r.f.cap,.int .i64 r.cH]:List dE).toArray 45 (0,0)):=by rw[<-efa,<-ega];exact C
 have Q:=u.bP C;have c:=u.bP P;refine bB c aA (aS aA (bB c aA (aU 0 aA (aW aA (a.cell E id) aA (bB c aA (aU n aA (aW aA (a.cell y id) aA (bH (Xlu (n:Int) g G (by omega) (by omega)) aA (aQ 9 Xe (by kernel_rfl) aA λp=>aE p Q aA (aE p c aA (aB n p aA (aD p (a.cell y id) aA (Xd.callAllocG (wtF) (Su G r n g true) (wtG) Xb p rfl rfl rfl (λ_=>rfl) rfl (λ_=>rfl) (λ_=>rfl) rfl rfl (λ_ _=>rfl) rfl (λ_ _=>rfl) ((XfM r n g true (h.g.bQ a) (h.l.bQ a) (by omega) (by omega))) (XhC) ((λ_ h=>h.elim)) ?_)))))))))))));rintro nb x w3 av R T ⟨x1,x2,⟨x3,x4⟩,x5,x6,U,V⟩ W;refine aF p aA λw4 k=>?_;have f:Xc Xe G w4:=T.trans k;refine bF (k.bP R) aA λw5 i m aw=>?_;replace i:w5.heap[nb]?=some (.cells (Dl x).toArray 45 (0,0)):=i;have H:=m.heap (f.bP c) (show ¬b=nb by omega);refine bB H aA (Xa.slice Xb rfl (l:=1) (h:=r.f.x.length) (by first|rfl|omega|simp[Dw]) (by first|rfl|omega|simp[Ds]) (by omega) (by omega) rfl ?_);obtain⟨f',o⟩:∃f':IL,f'=r.f.sl 1 r.f.x.length:=⟨_,rfl⟩;obtain⟨a1,a2⟩:=h.f.sl (lo:=1) (hi:=r.f.x.length) (by omega) (XF _);have a3:Xr f'=.slice (Aa (some ⟨fb,fo,none⟩) r.f.cap 1 1) (r.f.x.length-1) (r.f.cap-1):=by rw[o,<-efa];show Value.slice _ (r.f.sl 1 r.f.x.length).x.length _=_;rw[a2];rfl
 rw[<-a3];refine bF i aA λw6 j A ax=>?_;replace j:w6.heap[nb]?=some (.cells (Dl ⟨x.g,x.l,f',r.cH⟩).toArray 45 (0,0)):=by rw[<-x4];exact j
 refine bB j aA ?_;have I:=A.heap (m.heap (f.bP M) (by omega)) (by omega);refine bF I aA λw7 J F ay=>?_;have K:Xc Xe w w6:=((a.trans f).bU m (λz d e=>by have:=a.size;omega)).bU A (λz d e=>by have:=a.size;omega);have B:Xc Xe w w7:=K.bU F (λz d e=>by have:=D.size;omega);have eH:Lw t=4096*g+n:=by unfold Lw;rw[ef];show A9 t n*4096+n=_;unfold A9;rw[XB,q];show g*4096+n=_;omega
 have eN:Dk t=n:=by unfold Dk;rw[ef]
 have eT:Ee t={t with dB:=t.dB.set n true,fl:=fl}:=by unfold Ee;rw[ef]
 rw[eH,eN,eT];have a6:Q6 w f':=o▸a1;have cg:Xc (λz=>z=nb\/z=qb) w4 w7:=((m.mono λ_ _ e=>.inl e).trans (A.mono λ_ _ e=>.inl e)).trans (F.mono λ_ _ e=>.inr e);have a7:Xj (λz=>z=nb\/z=qb) x.g.a:=λb off s e d=>d.elim (W.1 b off s e) λh=>by have:=U b off s e;omega
 have a8:Xj (λz=>z=nb\/z=qb) x.l.a:=λb off s e d=>d.elim (W.2 b off s e) λh=>by have:=V b off s e;omega
 have g1:x.g.x=t.gen:=by rw[x1,h.eg,XmF q]
 have g2:x.l.x=t.dB.set n true:=by rw[x2,h.el]
 have g3:f'.x=fl.map (λn:Nat=>(n:Int)):=by
  rw[o];show(r.f.x.drop 1).take (r.f.x.length-1)=_
  rw[YP (by rw[QH];omega),efx];rfl
 exact aK func81 J aA ⟨⟨x.g,x.l,f',r.cH⟩,rfl,⟨(x5.bQ k).bW a7 cg,(x6.bQ k).bW a8 cg,a6.bQ B,g1,g2,g3,h.em⟩,λS hS ho=>⟨λb off s e d=>by have:=U b off s e;have:=hS b d;omega,λb off s e d=>by have:=V b off s e;have:=hS b d;omega,by rw[o];exact IL.sl_out ho.2.2⟩,B⟩
theorem Xlw{r:C1}{t:TbM}(h:Do w r t)(ht:t.Ok cN cS)(hs20:cN<=500)(k:Int)(hk : -9223372036854775808<=k/\k<=9223372036854775807)(hE:X0 t k=0):Xf prog 84 #[.agg (Dl r).toArray,.int .i64 k] w (λv w'=>∃r',v=.tuple #[.agg (Dl r').toArray,.int .i64 0]/\Do w' r' (Cq t k)/\L5 w r r'/\Xc Xe w w'):=by
 have bw:maxLen=9223372036854775807:=rfl;obtain⟨b1,b2,b3,b4,b5,T,b7⟩:=ht.tbE_ok hE;obtain⟨j,U⟩:=XE b1;obtain⟨g,hg⟩:∃g,g=Z1 k:=⟨_,rfl⟩;rw[U,XB] at b3 T b7;rw[<-hg] at b4 b5 T;have bx:=ht.gs;have hn:=ht.n;have bz:=ht.nl;have b9:=ht.many;have egl:r.g.x.length=t.gen.length:=by rw[h.eg]
 have ell:r.l.x.length=t.dB.length:=by rw[h.el]
 have efl:r.f.x.length=t.fl.length:=by rw[h.ef];simp
 have eN:Zc t k=(j:Int):=by unfold Zc;rw[bK hE,U]
 have eG:A9 t (Zl k)=g:=by rw[U];unfold A9;rw[XB,T];rfl
 have eT:Cq t k={t with gen:=t.gen.set j (g+1),dB:=t.dB.set j false,fl:=if g+1<=t.cH then j::t.fl else t.fl}:=by unfold Cq;rw[bK hE,eG,U,XB]
 rw[eT];refine aR func84 ntmps84 aA (bC aA λb w1 e1 hb aa c0=>bC aA λqb w2 e2 ab G c1=>?_);have H:=aa.trans G;obtain⟨gb,go,ega,I⟩:=h.g.ok.rd j (by omega);have ac:r.g.x.getD j 0=g:=by rw[h.eg,XA,T];rfl
 rw[ac] at I;have ad:w1.heap[b]?=some (.cells ([.slice (some ⟨gb,go,none⟩) r.g.x.length r.g.cap,Tj r.l,Xr r.f,.int .i64 r.cH]:List dE).toArray 45 (0,0)):=by rw[<-ega];exact hb
 have a1:=G.bP hb;have a5:=G.bP ad;refine bB a1 aA (bG (Uz (h.bQ H) ht k hk) aA λw3 q=>?_);rw[hE,eN];have o:=H.trans q;have a2:=q.bP a1;have K:=q.bP a5;refine aS aA (aQ 10 Xe (by kernel_rfl) aA λd=>aE d a2 aA (aE d K aA (aB j d aA (aD d (o.cell I id) aA (aC d aA (Xd.callAllocG (wtF) (Su w3 r j (g+1) false) (wtG) Xb d rfl rfl rfl (λ_=>rfl) rfl (λ_=>rfl) (λ_=>rfl) rfl rfl (λ_ _=>rfl) rfl (λ_ _=>rfl) ((XfM r j (g+1) false (h.g.bQ o) (h.l.bQ o) (by omega) (by omega))) (XhC) ((λ_ h=>h.elim)) ?_))))));rintro nb x w4 c2 ae af ⟨x1,x2,⟨x3,x4⟩,x5,x6,x7,x8⟩ hG;refine aF d aA λw5 C=>?_;have f:=af.trans C;have c3:=q.size;have c4:=f.size;refine bF (C.bP ae) aA λV y u c5=>?_;have i:=(o.trans f).sn u;have ak:=u.heap (f.bP a2) (show ¬b=nb by omega);have L:=u.heap (f.bP K) (show ¬b=nb by omega);have A:=u.heap (f.bP (q.bP ab)) (show ¬qb=nb by omega);have hX:∀w',Xc (λz=>z=nb\/V.heap.size<=z) V w'->Q6 w' x.g/\Hi w' x.l:=λw' hc=>by
  have c:=(u.mono λ_ _ e=>.inl e).trans hc;have W:=x5.bQ C;have k2:=x6.bQ C;exact⟨W.bW (λb off s e a=>a.elim (hG.1 b off s e) λh=>by have:=W.lt b off s e;omega) c,k2.bW (λb off s e a=>a.elim (hG.2 b off s e) λh=>by have:=k2.lt b off s e;omega) c⟩
 have g1:x.g.x=t.gen.set j (g+1):=by rw[x1,h.eg]
 have g2:x.l.x=t.dB.set j false:=by rw[x2,h.el]
 have a3:=h.em;apply Xa.cut (α:=IL) (λ_=>[(4,false,.pointer (some ⟨qb,0,none⟩)),(8,false,.pointer (some ⟨nb,0,none⟩))]) (λf' w'=>w'.heap[nb]?=some (.cells (Dl ⟨x.g,x.l,f',r.cH⟩).toArray 45 (0,0))/\Q6 w' f'/\f'.x=(if g+1<=t.cH then j::t.fl else t.fl).map (λn:Nat=>(n:Int))/\(∀S:Nat->Prop,(∀z,S z->z<w.heap.size)->Xj S r.f.a->Xj S f'.a)/\Xc (λz=>z=nb\/V.heap.size<=z) V w'/\Xc Xe w w'/\Xj (λz=>z=qb) f'.a)
 .intro J;refine aQ 8 Xe (by kernel_rfl) aA λd=>aE d L aA (aB j d aA (aD d (i.cell I id) aA (aC d aA (aE d L aA (aF d aA λE l=>?_)))));have p:=i.trans l;rw[a3];by_cases a4:g+1<=t.cH
  .refine bI aA (Xa.buildSlice Xb rfl λb8 w8 e8 am M an=>aN aA ?_);have N:=l.trans M;refine bB (N.bP ak) aA ?_;have F:Xl E.heap.size 3 1 w8 (.slice (some ⟨b8,0,none⟩) 1 1) 1 [.int .i64 (j:Int)]:=Xl.one (by omega) am;refine Xa.appendA (base:=E.heap.size) (xs:=[.int .i64 (j:Int)]) (news:=r.f.x.map (Value.int .i64)) Xb rfl F M.size h.f.ok.rd.noneA (by simp) (h.f.ok.rd.bR (i.trans N)).cellsA Jd (by simp only;omega) ?_;intro v9 w9 ap aq c6;have a6:=F.bU M (XF _) aq;obtain⟨f',rfl,ar,au,O⟩:=Xl.il (x:=(j:Int)::r.f.x) (v:=v9) (m:=1+r.f.x.length) (show Xl E.heap.size 3 1 w9 v9 (1+r.f.x.length) (((j:Int)::r.f.x).map (Value.int .i64)) from ap) (by simp;omega) (by simp;omega);have B:=l.trans a6;have z7:=l.size;refine aN aA (bF (B.bP y) aA λwa av P bu=>?_);have aw:Xj (λz=>z=nb) f'.a:=λb off s e a=>by have:=O b off s e;have:=Xg y;omega
   exact J f' wa _ ⟨by rw[<-x4];exact av,au.bW aw P,by rw[bK a4,ar,h.ef];rfl,λS Q _ b off s e a=>by have:=O b off s e;have:=Q b a;have:=i.size;omega,B.gr.trans (P.mono λ_ _ e=>.inl e),(i.trans B).sn P,λb off s e a=>by have:=O b off s e;have:=Xg A;omega⟩ ⟨rfl,rfl,trivial⟩
  .exact aS aA (J r.f E _ ⟨by rw[<-x4,<-x3];exact l.bP y,h.f.bQ p,by rw[bJ a4];exact h.ef,λS _ F=>F,l.gr,p,h.f.lt.out (λz e=>by omega)⟩ ⟨rfl,rfl,trivial⟩)
 .rintro f' E ⟨ax,ay,g3,az,R,p,b0⟩;obtain⟨W,k2⟩:=hX E R;have a7:=R.heap A (λh=>by have:=Xg A;omega);exact bB ax aA (bF a7 aA λw8 a8 D an=>aK func84 a8 aA ⟨⟨x.g,x.l,f',r.cH⟩,rfl,⟨W.bW (λb off s e a=>by have:=x7 b off s e;omega) D,k2.bW (λb off s e a=>by have:=x8 b off s e;omega) D,ay.bW b0 D,g1,g2,g3,a3⟩,λS Q F=>⟨λb off s e a=>by have:=x7 b off s e;have:=Q b a;omega,λb off s e a=>by have:=x8 b off s e;have:=Q b a;omega,az S Q F.2.2⟩,p.sn D⟩)
section
variable {c:Conf}{s:StM}{pd:Option (Nat×PlcM)}
theorem Xhj{q:PlcM}(h:s.OkP c (some (o,q)))(ht:0<=s.rm.tot/\s.rm.tot<=999999900000):0<=(Cd c s q).rm.tot/\(Cd c s q).rm.tot<=s.rm.tot+40000:=by
 obtain⟨f,j,k⟩:=XdV h.rm q;have a:0<=(Qd s.rm q).tot/\(Qd s.rm q).tot<=s.rm.tot+10000:=by
  rw[<-f];show 0<=Xw s.rm.tot _/\Xw s.rm.tot _<=_
  rw[Cv (by omega)];omega
 have b:=h.dropped;unfold Cd;split
 .show 0<=(Qd s.rm q).tot/\(Qd s.rm q).tot<=_
  omega
 .have d:=Vv b q.cL.toNat ⟨a.1,by have:=a.2;show(Qd s.rm q).tot<=_;omega⟩;have i:(Yw c {s with rm:=Qd s.rm q} q.cL.toNat).rm.tot<=(Qd s.rm q).tot+10000:=d.2;have g:=XcG (b.begin q.cL.toNat) q.cL.toNat c.step ⟨d.1,by omega⟩;exact⟨g.1,by omega⟩
theorem Xhk(o:Int)(i n:Nat)(hn:n<=25000000)(ht:0<=s.rm.tot/\s.rm.tot<=1000000000000):0<=(Ah s o i n).rm.tot/\(Ah s o i n).rm.tot<=s.rm.tot+n:=by
 unfold Ah;split
 .rename_i m _
  split
  .have a:Q5 i n m.cE<=n:=by unfold Q5;omega
   show 0<=Xw s.rm.tot _/\Xw s.rm.tot _<=_
   rw[Cv (by omega)];omega
  .omega
 .omega
theorem Xhi(q:Plc)(i n:Nat)(hm:Zb c=true)(hn:n<=25000000)(ht:0<=s.rm.tot/\s.rm.tot<=1000000000000):0<=(Ql s (Zi c q i n)).rm.tot/\(Ql s (Zi c q i n)).rm.tot<=s.rm.tot+(2*n+1):=by
 have:=K9 (q:=q) (at':=i) (n:=n) hm;show 0<=Xw s.rm.tot _/\Xw s.rm.tot _<=_
 rw[Cv (by omega)];omega
theorem Sp{u:D3}(h:s.Ok c)(ht:0<=s.rm.tot/\s.rm.tot<=900000000000):0<=(Q8 c s u).rm.tot/\(Q8 c s u).rm.tot<=s.rm.tot+1000000000:=by
 have y:=(Ye h.may).cH.2;unfold Q8;split
 .unfold Ab;split
  .rename_i d
   obtain⟨j,e,v,w,hf⟩:=W4 d;rw[e];have:=XcH h j v u.a (StM.OkP.lay h w hf (by rintro _ _ ⟨⟩)) ⟨ht.1,by omega⟩;omega
  .omega
 split
 .unfold Bn;split
  .omega
  .rename_i x
   obtain⟨j,t,e,a⟩:=J0 (YL.1 x);rw[e,Qr a];obtain⟨t',b,_,_,_,f⟩:=Og h a;rw[Qr b,XB];have i:=Vx h t.q.cL ⟨ht.1,by omega⟩;have o:=Xhj ((Mi h t.q.cL).ok.away b f) ⟨i.1,by have:=i.2;show(Zh s t.q.cL).rm.tot<=_;omega⟩;refine⟨o.1,Int.le_trans o.2 ?_⟩;show(Zh s t.q.cL).rm.tot+40000<=_
   omega
 split
 .unfold Ag;split
  .omega
  .rename_i d
   obtain⟨j,t,e,a,hr,g⟩:=U7 (YL.1 d);have m:=h.size j t a;rw[e,Ey a,Qr a];split
   .split
    .have n:(X6 (t.size-u.a).toNat).length<=25000000:=by rw[Gt];omega
     have b:=Pu (s:=s) h.may t.q u.a.toNat (X6 (t.size-u.a).toNat) ⟨ht.1,by omega⟩ n;rw[Gt] at n b;have f:=Xhk (s:=Eb (Yp c s t.q u.a.toNat (X6 (t.size-u.a).toNat)) (j:Nat) ⟨u.a,t.q⟩) (j:Nat) u.a.toNat (t.size-u.a).toNat n ⟨b.1,by have:=b.2;show(Yp c s t.q u.a.toNat _).rm.tot<=_;omega⟩;exact⟨f.1,by have:=f.2;have:=b.2;have e:(Eb (Yp c s t.q u.a.toNat (X6 (t.size-u.a).toNat)) (j:Nat) ⟨u.a,t.q⟩).rm.tot=(Yp c s t.q u.a.toNat (X6 (t.size-u.a).toNat)).rm.tot:=rfl;omega⟩
    .show 0<=s.rm.tot/\s.rm.tot<=_
     omega
   .rename_i p
    rcases g with g|⟨g,hf⟩
    .exact absurd g p
    .obtain⟨t',M⟩:=Rt h a g hf;have q:=(XC.1 M.th1).1;unfold Ka;simp only
     rw[Qr a,Qr M.th1,Ey a];have i:=Vx h t.q.cL ⟨ht.1,by omega⟩;have b:=Xhi (s:=Zh s t.q.cL) t'.q.cQ 0 (min t.size u.a).toNat h.may (by omega) ⟨i.1,by omega⟩;have f:=XcH (M.ok1.tot (Zi c t'.q.cQ 0 (min t.size u.a).toNat)) j q u.a M.ok2 ⟨b.1,by omega⟩;have k:(Yg c t'.q.cQ (Zh s t.q.cL).bs 0 (min t.size u.a).toNat).length=(min t.size u.a).toNat:=by unfold Yg;rw[XV,ZM]
     have l:=Pu (s:=Q3 c (Ql (Zh s t.q.cL) (Zi c t'.q.cQ 0 (min t.size u.a).toNat)) (j:Nat) u.a) h.may (Y9 (Q3 c (Ql (Zh s t.q.cL) (Zi c t'.q.cQ 0 (min t.size u.a).toNat)) (j:Nat) u.a) (j:Nat)) 0 (Yg c t'.q.cQ (Zh s t.q.cL).bs 0 (min t.size u.a).toNat) ⟨f.1,by omega⟩ (by rw[k];omega);rw[k] at l;have r:=Xhj (M.ok2.put _ 0 (Pt M.ok1.bi _ _)) ⟨l.1,by omega⟩;exact⟨r.1,by have:=r.2;omega⟩
 split
 .unfold Co;split
  .rename_i d
   obtain⟨j,t,e,a,_,_,l⟩:=V1 d;have m:=h.size j t a;have:=Xhi (s:=s) (Y9 s u.own).cQ u.a.toNat u.b.toNat h.may (by omega) ⟨ht.1,by omega⟩;omega
  .omega
 split
 .unfold C9;split
  .rename_i d
   obtain⟨j,t,e,a,_,_,l⟩:=V1 d;have m:=h.size j t a;have b:=Pu (s:=s) h.may (Y9 s u.own) u.a.toNat u.bs ⟨ht.1,by omega⟩ (by omega);have f:=Xhk (s:=Yp c s (Y9 s u.own) u.a.toNat u.bs) u.own u.a.toNat u.bs.length (by omega) ⟨b.1,by omega⟩;omega
  .omega
 split
 .have k:s.mv.length<=16:=by have:=h.ml;have:=(Ye h.may).n;omega
  have:=XcI h ⟨ht.1,by omega⟩ s.mv.length k;unfold Ec;omega
 .unfold C8;split
  .show 0<=s.rm.tot/\s.rm.tot<=_
   omega
  .omega
end
structure HR where
 s:SR
 t:C1
def En(r:HR):List dE:=Z8 r.s++Dl r.t
abbrev Fm(w:dD)(b:Nat)(r:HR):Prop:=w.heap[b]?=some (.cells (En r).toArray 47 (0,0))
structure Al(w:dD)(r:HR)(x:HpM):Prop where
 s:Za w r.s x.st
 t:Do w r.t x.tb
def E1(S:Nat->Prop)(r:HR):Prop:=Bo S r.s/\Iw S r.t
def Dn(w:dD)(r r':HR):Prop:=Zt w r.s r'.s/\L5 w r.t r'.t
theorem Al.bQ{w w':dD}{r:HR}{x:HpM}(h:Al w r x)(hc:Xc Xe w w'):Al w' r x:=⟨h.s.bQ hc,h.t.bQ hc⟩
theorem Dn.refl(w:dD)(r:HR):Dn w r r:=⟨Zt.refl _ _,λ_ _ h=>h⟩
theorem Dn.dC{w w1:dD}{r r1:HR}(h:Dn w1 r r1)(hs:w.heap.size<=w1.heap.size):Dn w r r1:=⟨h.1.dC hs,λS a b=>h.2 S (λz c=>by have:=a z c;omega) b⟩
def XhS(w:dD)(r:HR)(x':HpM)(r':HR)(w':dD):Prop:=Al w' r' x'/\Dn w r r'/\Xc Xe w w'
theorem Do.box{r r':C1}{t t':TbM}(h:Do w r t)(hk:L5 w2 r r')(h':Do w' r' t')(hw:w.heap.size<=qb)(hq:qb<w2.heap.size)(hc:Xc (λz=>z=qb) w' w''):Do w'' r' t':=
 h'.bW (hk _ (λz e=>by omega) (h.out λz e=>by omega)) hc
theorem Al.box{w w2 w' w'':dD}{r r':HR}{x x':HpM}{qb:Nat}(h:Al w r x)(hk:Dn w2 r r')(h':Al w' r' x')(hw:w.heap.size<=qb)(hq:qb<w2.heap.size)(hc:Xc (λz=>z=qb) w' w'')(hcc:Xc Xe w w''):Al w'' r' x':=
 ⟨h.s.box hk.1 h'.s hw hq hc hcc,h.t.box hk.2 h'.t hw hq hc⟩
def Ly(e g:Int)(a:Option Addr)(n cap:Nat)(k:Int):List dE:=[.int .i64 e,.int .i64 g,.slice a n cap,.int .i64 k]
def Sy(w:dD)(r:HR)(E G K:Int)(B:List Int)(x':HpM):dE->dD->Prop:=λv w'=>∃r' a cap,v=.tuple #[.agg (En r').toArray,.agg (Ly E G a B.length cap K).toArray]/\Rd .u8 w' a B/\(∀b off s',a=some ⟨b,off,s'⟩->w.heap.size<=b/\b<w'.heap.size)/\XhS w r x' r' w'
theorem L5.dC{r r1:C1}(h:L5 w1 r r1)(hs:w.heap.size<=w1.heap.size):L5 w r r1:=λS a b=>h S (λz c=>by have:=a z c;omega) b
theorem Xl8{r:HR}{x:HpM}(h:Al w r x)(hx:x.Ok r.s.c)(size:Int)(ht:0<=x.st.rm.tot/\x.st.rm.tot<=900000000000):Xf prog 32 #[.agg (En r).toArray,.int .i64 size] w
 (Sy w r (Cx r.s.c x size) (D5 r.s.c x size) (D6 r.s.c x size) [] (Bl r.s.c x size)):=by
 have hs:=hx.st;refine aR func32 ntmps32 aA (bC aA λb w1 e1 hb ad au=>bC aA λqb w2 e2 ae a0 av=>bC aA λub w3 e3 a1 H aw=>?_);have a2:=(a0.trans H).bP hb;have I:=(ad.trans a0).trans H;refine bB a2 aA (bG (R9 (h.s.bQ I) hs size) aA λw4 v=>?_);have a:=I.trans v;have i:=v.bP a2;have j:=v.bP (H.bP ae);have k:=v.bP a1;have lu:=Xg a1;have ax:=v.size;have J:∀{e:Int},¬Hr r.s.c x size->Cx r.s.c x size=e->Cx r.s.c x size=e/\D5 r.s.c x size=0/\D6 r.s.c x size=0/\Bl r.s.c x size=x:=λh1 h2=>⟨h2,by unfold D5;rw[bJ h1],by unfold D6;rw[bJ h1],by unfold Bl;rw[bJ h1]⟩;have efl:r.t.f.x.length=x.tb.fl.length:=by rw[h.t.ef];simp
 by_cases L:Yt r.s.c x.st size=3
 .obtain⟨M,N,O,P⟩:=J (e:=3) (λg=>by have:=g.1;omega) (by unfold Cx;rw[bK L]);rw[M,N,O,P,L];refine bI aA ?_;refine bB i aA (aO aA (bF j aA λwe y m a3=>?_));refine bF (m.heap k (by omega)) aA λwg n d Q=>?_;have f:=((a).sn m).sn d;exact bD rfl func32 (Xi.cell rfl rfl rfl (d.heap y (by omega)) rfl (.cell rfl rfl rfl n rfl .nil)) ⟨r,none,0,rfl,Rd.nil _ _ _,(by intro b off s' e;cases e),h.bQ f,Dn.refl _ _,f⟩
 .refine aS aA (bB i aA ?_);by_cases A:x.tb.fl=[]
  .obtain⟨M,N,O,P⟩:=J (e:=4) (λg=>g.2 A) (by unfold Cx;rw[bJ L,bK A]);rw[M,N,O,P];refine aM aA (by rw[efl,A];rfl) ?_;refine bB i aA (aO aA (bF j aA λwe y m a3=>?_));refine bF (m.heap k (by omega)) aA λwg n d Q=>?_;have f:=((a).sn m).sn d;exact bD rfl func32 (Xi.cell rfl rfl rfl (d.heap y (by omega)) rfl (.cell rfl rfl rfl n rfl .nil)) ⟨r,none,0,rfl,Rd.nil _ _ _,(by intro b off s' e;cases e),h.bQ f,Dn.refl _ _,f⟩
  .refine aI aA (beq_eq_false_iff_ne.2 (by have:=List.length_pos_iff.2 A;omega)) ?_;by_cases V:Yt r.s.c x.st size=0
   .have R:Hr r.s.c x size:=⟨V,A⟩;have eE:Cx r.s.c x size=0:=by unfold Cx;rw[bJ L,bJ A,V]
    have eH:D5 r.s.c x size=Lw x.tb:=by unfold D5;rw[bK R]
    have eX:Bl r.s.c x size=⟨Ab r.s.c x.st (Dk x.tb) size,Ee x.tb⟩:=by unfold Bl;rw[bK R]
    have eK:D6 r.s.c x size=2+((Ab r.s.c x.st (Dk x.tb) size).rm.tot-x.st.rm.tot):=by unfold D6;rw[bK R,eX]
    rw[eE,eH,eX,eK];have af:=Sp (u:=⟨0,Dk x.tb,size,0,[],none,0⟩) hs ht;rw[show Q8 r.s.c x.st ⟨0,Dk x.tb,size,0,[],none,0⟩=Ab r.s.c x.st (Dk x.tb) size by unfold Q8;rw[bK (show(0:Int)%7=0 by decide)]] at af;refine aI aA (by rw[V];rfl) (bB i aA (aP aA (Xly (h.t.bQ a) hx.tb A) ?_));rintro _ w5 ⟨W,rfl,a4,a5,a6⟩;refine aN aA (bC aA λtb w6 e6 ag ah ay=>bF ag aA λw7 S ai az=>?_);have C:=ah.sn ai;have l:=a6.trans C;have D:=a.trans l;refine bB (l.bP i) aA (aP aA (XfX (h.s.bQ D) hs (Dk x.tb) size ⟨ht.1,by omega⟩) ?_);rintro _ w8 ⟨T,rfl,o⟩;refine aN aA (bC aA λsb w9 e9 aj ak b0=>bF aj aA λwa F al b1=>?_);have t:=ak.sn al;have c:=o.2.2.trans t;have b2:=a6.size;have b3:=o.2.2.size;have aa:=a.trans ((l.trans c));have ab:=((o.1.bQ t)).rs;have am:(2:Int)+T.ra.cM-r.s.ra.cM=2+((Ab r.s.c x.st (Dk x.tb) size).rm.tot-x.st.rm.tot):=by rw[h.s.rs,ab];omega
    refine aQ 15 (λz=>z=qb) (by kernel_rfl) aA λp=>aE p F aA (aE p (c.bP S) aA (Xd.build Xb p rfl rfl (aE p F aA (aC p aA (aE p (((l.trans c)).bP i) aA (aC p aA (Xd.build Xb p rfl rfl (Xd.cK p rfl λwc B=>Xn.store Xb p rfl (B.bP (((l.trans c)).bP j)) (by first|(intro h;exact rfl)|(intro h;omega)) rfl rfl rfl λwd an U b4=>aF p aA λwe G=>?_))))))));refine bF (G.bP (U.heap (B.bP (((l.trans c)).bP k)) (show ¬ub=qb by omega))) aA λwg n d Q=>?_;have a7:=(aa.trans B).sn U;have f:=(a7.trans G).sn d;have hK:Dn w3 r ⟨T,W⟩:=⟨(o.2.1.dC (by have:=D.size;omega)),a5.dC (by have:=a.size;omega)⟩;exact bD rfl func32 (Xi.cell rfl rfl rfl (d.heap (G.bP an) (show ¬qb=ub by omega)) rfl (.cell rfl rfl rfl n rfl .nil)) ⟨⟨T,W⟩,none,0,by rw[<-am];rfl,Rd.nil _ _ _,(by intro b off s' e;cases e),(h.box hK ((h.box hK (⟨((o.1.bQ t)).bQ B,((a4.bQ (C.trans c))).bQ B⟩:Al wc ⟨T,W⟩ ⟨Ab r.s.c x.st (Dk x.tb) size,Ee x.tb⟩) (by omega) (by omega) U a7).bQ G) (show w.heap.size<=ub by omega) (by omega) d f),hK.dC (by omega),f⟩
   .obtain⟨M,N,O,P⟩:=J (e:=Yt r.s.c x.st size) (λg=>V g.1) (by unfold Cx;rw[bJ L,bJ A]);rw[M,N,O,P];refine bI aA ?_;refine bB i aA (aO aA (bF j aA λwe y m a3=>?_));refine bF (m.heap k (by omega)) aA λwg n d Q=>?_;have f:=((a).sn m).sn d;exact bD rfl func32 (Xi.cell rfl rfl rfl (d.heap y (by omega)) rfl (.cell rfl rfl rfl n rfl .nil)) ⟨r,none,0,rfl,Rd.nil _ _ _,(by intro b off s' e;cases e),h.bQ f,Dn.refl _ _,f⟩
theorem Xmc{r:HR}{x:HpM}(h:Al w r x)(hx:x.Ok r.s.c)(hsl:r.s.c.cN<=500)(k:Int)(hk : -9223372036854775808<=k/\k<=9223372036854775807)(ht:0<=x.st.rm.tot/\x.st.rm.tot<=900000000000):Xf prog 33 #[.agg (En r).toArray,.int .i64 k] w
 (Sy w r (X0 x.tb k) 0 ((if X0 x.tb k=0 then 2 else 0)+(1+((A6 r.s.c x k).st.rm.tot-x.st.rm.tot))) [] (A6 r.s.c x k)):=by
 have hs:=hx.st;refine aR func33 ntmps33 aA (bC aA λb w1 e1 hb a1 ah=>bC aA λqb w2 e2 a2 M ai=>bC aA λub w3 e3 N C aj=>?_);have O:=(M.trans C).bP hb;have D:=(a1.trans M).trans C;refine bB O aA (bG (Uz (h.t.bQ D) hx.tb k hk) aA λw4 l=>?_);have c:=D.trans l;have m:=l.bP O;have p:=l.bP (C.bP a2);have s:=l.bP N;have lu:=Xg N;have ak:=l.size;by_cases B:X0 x.tb k=0
 .have eX:A6 r.s.c x k=⟨Bn r.s.c x.st (Zc x.tb k),Cq x.tb k⟩:=by unfold A6;rw[bK B]
  rw[bK B,eX,B];have a3:=Sp (u:=⟨1,Zc x.tb k,0,0,[],none,0⟩) hs ht;rw[show Q8 r.s.c x.st ⟨1,Zc x.tb k,0,0,[],none,0⟩=Bn r.s.c x.st (Zc x.tb k) by unfold Q8;rw[bJ (show ¬(1:Int)%7=0 by decide),bK (show(1:Int)%7=1 by decide)]] at a3;refine aS aA (bB m aA (aP aA (Xf0 (h.s.bQ c) hs (Zc x.tb k) ⟨ht.1,by omega⟩) ?_));rintro _ w5 ⟨F,rfl,f⟩;refine aN aA (bC aA λsb w6 e6 a4 a5 al=>bF a4 aA λw7 t a6 am=>?_);have j:=a5.sn a6;have d:=f.2.2.trans j;have v:=c.trans d;refine bB (d.bP m) aA (aP aA (Xlw (h.t.bQ v) hx.tb hsl k hk B) ?_);rintro _ w8 ⟨L,rfl,P,Q,R⟩;refine aN aA (bC aA λtb w9 e9 a7 a8 an=>bF a7 aA λwa H a9 ao=>?_);have y:=a8.sn a9;have a:=R.trans y;have ap:=f.2.2.size;have aq:=R.size;have U:=c.trans ((d.trans a));have V:=((f.1.bQ (j.trans a))).rs;have aa:(3:Int)+F.ra.cM-r.s.ra.cM=2+(1+((Bn r.s.c x.st (Zc x.tb k)).rm.tot-x.st.rm.tot)):=by rw[h.s.rs,V];omega
  refine aQ 14 (λz=>z=qb) (by kernel_rfl) aA λg=>aE g (a.bP t) aA (aE g H aA (Xd.build Xb g rfl rfl (aE g (a.bP t) aA (aC g aA (aE g (((d.trans a)).bP m) aA (aC g aA (Xd.build Xb g rfl rfl (Xd.cK g rfl λwc n=>Xn.store Xb g rfl (n.bP (((d.trans a)).bP p)) (by first|(intro h;exact rfl)|(intro h;omega)) rfl rfl rfl λwd ab I ar=>aF g aA λwe A=>?_))))))));refine bF (A.bP (I.heap (n.bP (((d.trans a)).bP s)) (show ¬ub=qb by omega))) aA λwg J i ac=>?_;have S:=(U.trans n).sn I;have o:=(S.trans A).sn i;have W:Dn w3 r ⟨F,L⟩:=⟨(f.2.1.dC (by have:=c.size;omega)),Q.dC (by have:=v.size;omega)⟩;exact bD rfl func33 (Xi.cell rfl rfl rfl (i.heap (A.bP ab) (show ¬qb=ub by omega)) rfl (.cell rfl rfl rfl J rfl .nil)) ⟨⟨F,L⟩,none,0,by rw[<-aa];rfl,Rd.nil _ _ _,(by intro b off s' e;cases e),(h.box W ((h.box W (⟨((f.1.bQ (j.trans a))).bQ n,((P.bQ y)).bQ n⟩:Al wc ⟨F,L⟩ ⟨Bn r.s.c x.st (Zc x.tb k),Cq x.tb k⟩) (by omega) (by omega) I S).bQ A) (show w.heap.size<=ub by omega) (by omega) i o),W.dC (by omega),o⟩
 .have eX:A6 r.s.c x k=x:=by unfold A6;rw[bJ B]
  rw[bJ B,eX,YI];refine bI aA ?_;refine bB m aA (aO aA (bF p aA λwe ad T au=>?_));refine bF (T.heap s (by omega)) aA λwg J i ac=>?_;have o:=((c).sn T).sn i;exact bD rfl func33 (Xi.cell rfl rfl rfl (i.heap ad (by omega)) rfl (.cell rfl rfl rfl J rfl .nil)) ⟨r,none,0,rfl,Rd.nil _ _ _,(by intro b off s' e;cases e),h.bQ o,Dn.refl _ _,o⟩
theorem XbW{r:HR}{x:HpM}(h:Al w r x)(hx:x.Ok r.s.c)(k:Int)(hk : -9223372036854775808<=k/\k<=9223372036854775807)(u:D3)(hu:V8 w u)(ht:0<=x.st.rm.tot/\x.st.rm.tot<=900000000000):Xf prog 34 #[.agg (En r).toArray,.int .i64 k,.agg (Pw u).toArray] w
 (Sy w r (if X0 x.tb k=0 then Cw r.s.c x.st {u with own:=Zc x.tb k} else X0 x.tb k) 0 (1+((if X0 x.tb k=0 then (⟨Q8 r.s.c x.st {u with own:=Zc x.tb k},x.tb⟩:HpM) else x).st.rm.tot-x.st.rm.tot)) (if X0 x.tb k=0 then B8 r.s.c x.st {u with own:=Zc x.tb k} else []) (if X0 x.tb k=0 then ⟨Q8 r.s.c x.st {u with own:=Zc x.tb k},x.tb⟩ else x)):=by
 have hs:=hx.st;refine aR func34 ntmps34 aA (bC aA λb w1 e1 hb a6 ao=>bC aA λab ap aq O D ai=>bC aA λqb w2 e2 a7 F ar=>bC aA λub w3 e3 P C au=>?_);have Q:=((D.trans F).trans C).bP hb;have G:=((a6.trans D).trans F).trans C;refine bB Q aA (bG (Uz (h.t.bQ G) hx.tb k hk) aA λw4 f=>?_);have p:=G.trans f;have H:=f.bP Q;have q:=f.bP (C.bP a7);have s:=f.bP P;have lu:=Xg P;have av:=f.size;by_cases t:X0 x.tb k=0
 .rw[bK t,bK t,bK t];obtain⟨v,ev⟩:∃v,v=({u with own:=Zc x.tb k}:D3):=⟨_,rfl⟩;rw[<-ev,t];have aw:=Sp (u:=v) hs ht;have ax:=Xg hb;have lab:=Xg O;refine aS aA (bF (f.bP ((F.trans C).bP O)) aA λw5 y l ay=>?_);replace y:w5.heap[ab]?=some (.cells (Pw v).toArray 90 (0,0)):=by rw[ev];exact y
  have A:=p.sn l;have R:=l.heap H (show ¬b=ab by omega);have V:=l.heap q (show ¬qb=ab by omega);have W:=l.heap s (show ¬ub=ab by omega);have hv:V8 w5 v:=by rw[ev];exact⟨hu.kind,hu.a,hu.b,hu.rd.bR A,hu.rng,hu.lc,hu.len⟩
  refine bB R aA (bB y aA (aP aA (Xl2 v (h.s.bQ A) hs hv ⟨ht.1,by omega⟩) ?_));rintro _ w6 ⟨N,a8,a0,rfl,aa,I,m⟩;refine aN aA (bC aA λsb w7 e7 ac ad az=>bF ac aA λw8 J a1 b0=>?_);have i:=ad.sn a1;have j:=m.2.2.trans i;have S:=j.bP R;have L:=A.trans j;have a2:=m.1.rs;have ae:(1:Int)+N.ra.cM-r.s.ra.cM=1+((Q8 r.s.c x.st v).rm.tot-x.st.rm.tot):=by rw[h.s.rs,a2];omega
  have b1:=m.2.2.size;refine aQ 17 (λz=>z=qb) (by kernel_rfl) aA λc=>aE c J aA (aE c S aA (Xd.build Xb c rfl rfl (aE c J aA (aC c aA (aE c S aA (aC c aA (Xd.build Xb c rfl rfl (Xd.cK c rfl λwc d=>Xn.store Xb c rfl (d.bP (j.bP V)) (by first|(intro h;exact rfl)|(intro h;omega)) rfl rfl rfl λwd af n b2=>aF c aA λwe g=>?_))))))));refine bF (g.bP (n.heap (d.bP (j.bP W)) (show ¬ub=qb by omega))) aA λwg M a ag=>?_;have T:=(L.trans d).sn n;have o:=(T.trans g).sn a;have hK:Dn w3 r ⟨N,r.t⟩:=⟨m.2.1.dC (by have:=l.size;omega),λ_ _ h=>h⟩;have an:w6.heap.size<=wg.heap.size:=by have:=i.size;have:=d.size;have:=n.size;have:=g.size;have:=a.size;omega
  exact bD rfl func34 (Xi.cell rfl rfl rfl (a.heap (g.bP af) (show ¬qb=ub by omega)) rfl (.cell rfl rfl rfl M rfl .nil)) ⟨⟨N,r.t⟩,a8,a0,by rw[<-ae];rfl,((((aa.bR (i.trans d)).bW (λb off s' e B=>by have:=I b off s' e;omega) n).bR g).bW (λb off s' e B=>by have:=I b off s' e;omega) a),(λb off s' e=>by have:=I b off s' e;omega),(h.box hK ((h.box hK (⟨m.1.bQ (i.trans d),h.t.bQ (L.trans d)⟩:Al wc ⟨N,r.t⟩ ⟨Q8 r.s.c x.st v,x.tb⟩) (by omega) (by omega) n T).bQ g) (show w.heap.size<=ub by omega) (by omega) a o),hK.dC (by omega),o⟩
 .rw[bJ t,bJ t,bJ t,YI];refine bI aA ?_;refine bB H aA (aO aA (bF q aA λwe ah U b3=>?_));refine bF (U.heap s (by omega)) aA λwg M a ag=>?_;have o:=((p).sn U).sn a;exact bD rfl func34 (Xi.cell rfl rfl rfl (a.heap ah (by omega)) rfl (.cell rfl rfl rfl M rfl .nil)) ⟨r,none,0,rfl,Rd.nil _ _ _,(by intro b off s' e;cases e),h.bQ o,Dn.refl _ _,o⟩
theorem Xl9{r:HR}{x:HpM}(h:Al w r x)(hx:x.Ok r.s.c)(hsl:r.s.c.cN<=500)(u:Fh)(hu:Jq w u)(ht:0<=x.st.rm.tot/\x.st.rm.tot<=900000000000):Xf prog 12 #[.agg (En r).toArray,.agg (Hw u).toArray] w
 (Sy w r (Qm r.s.c x u) (Qn r.s.c x u) (Y5 r.s.c x u) (Z6 r.s.c x u) (Ze r.s.c x u)):=by
 have hs:=hx.st;refine aR func12 ntmps12 aA (bC aA λb w1 e1 hb ai ax=>bC aA λub w2 e2 aj af ay=>bC aA λqb w3 e3 ak a3 az=>bC aA λtb w4 e4 n V b0=>?_);have A:=((af.trans a3).trans V).bP hb;have k:=(a3.trans V).bP aj;have y:=V.bP ak;have m:=((ai.trans af).trans a3).trans V;have S:=h.bQ m;refine bB k aA ?_;by_cases j:u.kind=1
 .have eX:Ze r.s.c x u=Bl r.s.c x u.a:=by unfold Ze;rw[bK j]
  have eE:Qm r.s.c x u=Cx r.s.c x u.a:=by unfold Qm;rw[bK j]
  have eG:Qn r.s.c x u=D5 r.s.c x u.a:=by unfold Qn;rw[bK j]
  have eK:Y5 r.s.c x u=D6 r.s.c x u.a:=by unfold Y5;rw[bK j]
  have eB:Z6 r.s.c x u=[]:=by unfold Z6;rw[bJ (by omega)]
  refine bI aA (bB A aA (bB k aA ?_));rw[eE,eG,eK,eX,eB];refine aP aA (Xl8 S hx u.a ht) ?_;rintro _ w6 ⟨I,J,o,rfl,B,f,c⟩;have M:=c.2.2.size;refine aN aA (bF (c.2.2.bP y) aA λw7 p d H=>bF (d.heap (c.2.2.bP n) (by omega)) aA λw8 q a W=>?_);have g:=(m.trans c.2.2).sn d;have i:=g.sn a;exact bD rfl func12 (Xi.cell rfl rfl rfl (a.heap p (by omega)) rfl (.cell rfl rfl rfl q rfl .nil)) ⟨I,J,o,rfl,((B.bW (λb off s' e l=>by have:=f b off s' e;omega) d).bW (λb off s' e l=>by have:=f b off s' e;omega) a),(λb off s' e=>by have:=f b off s' e;omega),(h.box c.2.1 (h.box c.2.1 c.1 (by omega) (by omega) d g) (by omega) (by omega) a i),c.2.1.dC (by omega),i⟩
 by_cases t:u.kind=2
 .have eX:Ze r.s.c x u=A6 r.s.c x u.h:=by unfold Ze;rw[bJ j,bK t]
  have eE:Qm r.s.c x u=X0 x.tb u.h:=by unfold Qm;rw[bJ j,bK t]
  have eG:Qn r.s.c x u=0:=by unfold Qn;rw[bJ j]
  have eK:Y5 r.s.c x u=(if X0 x.tb u.h=0 then 2 else 0)+(1+((A6 r.s.c x u.h).st.rm.tot-x.st.rm.tot)):=by unfold Y5;rw[bJ j,bK t,eX]
  have eB:Z6 r.s.c x u=[]:=by unfold Z6;rw[bJ (by omega)]
  refine aS aA (bI aA (bB A aA (bB k aA ?_)));rw[eE,eG,eK,eX,eB];refine aP aA (Xmc S hx hsl u.h hu.h ht) ?_;rintro _ w6 ⟨I,J,o,rfl,B,f,c⟩;have M:=c.2.2.size;refine aN aA (bF (c.2.2.bP y) aA λw7 p d H=>bF (d.heap (c.2.2.bP n) (by omega)) aA λw8 q a W=>?_);have g:=(m.trans c.2.2).sn d;have i:=g.sn a;exact bD rfl func12 (Xi.cell rfl rfl rfl (a.heap p (by omega)) rfl (.cell rfl rfl rfl q rfl .nil)) ⟨I,J,o,rfl,((B.bW (λb off s' e l=>by have:=f b off s' e;omega) d).bW (λb off s' e l=>by have:=f b off s' e;omega) a),(λb off s' e=>by have:=f b off s' e;omega),(h.box c.2.1 (h.box c.2.1 c.1 (by omega) (by omega) d g) (by omega) (by omega) a i),c.2.1.dC (by omega),i⟩
 by_cases v:u.kind=3
 .have N:=XbW S hx u.h hu.h ⟨3,0,u.a,u.b,[],none,0⟩ ⟨⟨show(0:Int)<=3 by decide,show(3:Int)<256 by decide⟩,hu.a,hu.b,Rd.nil _ _ _,(λ_ h=>by cases h),XF _,XQ _⟩ ht;have eG:Qn r.s.c x u=0:=by unfold Qn;rw[bJ j]
  have q1:(if X0 x.tb u.h=0 then Cw r.s.c x.st {(⟨3,0,u.a,u.b,[],none,0⟩:D3) with own:=Zc x.tb u.h} else X0 x.tb u.h)=Qm r.s.c x u:=by unfold Qm;rw[bJ j,bJ t,bK v];unfold B9 Cw;simp
  have q2:(if X0 x.tb u.h=0 then B8 r.s.c x.st {(⟨3,0,u.a,u.b,[],none,0⟩:D3) with own:=Zc x.tb u.h} else [])=Z6 r.s.c x u:=by unfold Z6;rw[bK v];unfold Jx B8;simp
  have q3:(if X0 x.tb u.h=0 then (⟨Q8 r.s.c x.st {(⟨3,0,u.a,u.b,[],none,0⟩:D3) with own:=Zc x.tb u.h},x.tb⟩:HpM) else x)=Ze r.s.c x u:=by unfold Ze;rw[bJ j,bJ t,bK v];unfold D7 Q8;simp
  have eK:Y5 r.s.c x u=1+((Ze r.s.c x u).st.rm.tot-x.st.rm.tot):=by unfold Y5;rw[bJ j,bJ t,bK (.inl v),Int.zero_add]
  rw[q1,q2,q3] at N;rw[eG,eK];refine aS aA (aS aA (bI aA (bB A aA (bB k aA (bB k aA (bB k aA (aO aA (aP aA (N) ?_))))))));rintro _ w6 ⟨I,J,o,rfl,B,f,c⟩;have M:=c.2.2.size;refine aN aA (bF (c.2.2.bP y) aA λw7 p d H=>bF (d.heap (c.2.2.bP n) (by omega)) aA λw8 q a W=>?_);have g:=(m.trans c.2.2).sn d;have i:=g.sn a;exact bD rfl func12 (Xi.cell rfl rfl rfl (a.heap p (by omega)) rfl (.cell rfl rfl rfl q rfl .nil)) ⟨I,J,o,rfl,((B.bW (λb off s' e l=>by have:=f b off s' e;omega) d).bW (λb off s' e l=>by have:=f b off s' e;omega) a),(λb off s' e=>by have:=f b off s' e;omega),(h.box c.2.1 (h.box c.2.1 c.1 (by omega) (by omega) d g) (by omega) (by omega) a i),c.2.1.dC (by omega),i⟩
 by_cases K:u.kind=4
 .have N:=XbW S hx u.h hu.h ⟨4,0,u.a,0,u.bs,u.ba,u.bc⟩ ⟨⟨show(0:Int)<=4 by decide,show(4:Int)<256 by decide⟩,hu.a,⟨show(-9223372036854775808:Int)<=0 by decide,show(0:Int)<=9223372036854775807 by decide⟩,hu.rd.bR m,hu.rng,hu.lc,hu.len⟩ ht;have eG:Qn r.s.c x u=0:=by unfold Qn;rw[bJ j]
  have q1:(if X0 x.tb u.h=0 then Cw r.s.c x.st {(⟨4,0,u.a,0,u.bs,u.ba,u.bc⟩:D3) with own:=Zc x.tb u.h} else X0 x.tb u.h)=Qm r.s.c x u:=by unfold Qm;rw[bJ j,bJ t,bJ v,bK K];unfold B9 Cw;simp
  have q2:(if X0 x.tb u.h=0 then B8 r.s.c x.st {(⟨4,0,u.a,0,u.bs,u.ba,u.bc⟩:D3) with own:=Zc x.tb u.h} else [])=Z6 r.s.c x u:=by unfold Z6;rw[bJ v];unfold B8;simp
  have q3:(if X0 x.tb u.h=0 then (⟨Q8 r.s.c x.st {(⟨4,0,u.a,0,u.bs,u.ba,u.bc⟩:D3) with own:=Zc x.tb u.h},x.tb⟩:HpM) else x)=Ze r.s.c x u:=by unfold Ze;rw[bJ j,bJ t,bJ v,bK K];unfold D8 Q8;simp
  have eK:Y5 r.s.c x u=1+((Ze r.s.c x u).st.rm.tot-x.st.rm.tot):=by unfold Y5;rw[bJ j,bJ t,bK (.inr (.inl K)),Int.zero_add]
  rw[q1,q2,q3] at N;rw[eG,eK];refine aS aA (aS aA (aS aA (bI aA (bB A aA (bB k aA (bB k aA (bB k aA (aO aA (aP aA (N) ?_)))))))));rintro _ w6 ⟨I,J,o,rfl,B,f,c⟩;have M:=c.2.2.size;refine aN aA (bF (c.2.2.bP y) aA λw7 p d H=>bF (d.heap (c.2.2.bP n) (by omega)) aA λw8 q a W=>?_);have g:=(m.trans c.2.2).sn d;have i:=g.sn a;exact bD rfl func12 (Xi.cell rfl rfl rfl (a.heap p (by omega)) rfl (.cell rfl rfl rfl q rfl .nil)) ⟨I,J,o,rfl,((B.bW (λb off s' e l=>by have:=f b off s' e;omega) d).bW (λb off s' e l=>by have:=f b off s' e;omega) a),(λb off s' e=>by have:=f b off s' e;omega),(h.box c.2.1 (h.box c.2.1 c.1 (by omega) (by omega) d g) (by omega) (by omega) a i),c.2.1.dC (by omega),i⟩
 by_cases T:u.kind=5
 .have N:=XbW S hx u.h hu.h ⟨2,0,u.a,0,[],none,0⟩ ⟨⟨show(0:Int)<=2 by decide,show(2:Int)<256 by decide⟩,hu.a,⟨show(-9223372036854775808:Int)<=0 by decide,show(0:Int)<=9223372036854775807 by decide⟩,Rd.nil _ _ _,(λ_ h=>by cases h),XF _,XQ _⟩ ht;have eG:Qn r.s.c x u=0:=by unfold Qn;rw[bJ j]
  have q1:(if X0 x.tb u.h=0 then Cw r.s.c x.st {(⟨2,0,u.a,0,[],none,0⟩:D3) with own:=Zc x.tb u.h} else X0 x.tb u.h)=Qm r.s.c x u:=by unfold Qm;rw[bJ j,bJ t,bJ v,bJ K,bK T];unfold I3 Cw;simp
  have q2:(if X0 x.tb u.h=0 then B8 r.s.c x.st {(⟨2,0,u.a,0,[],none,0⟩:D3) with own:=Zc x.tb u.h} else [])=Z6 r.s.c x u:=by unfold Z6;rw[bJ v];unfold B8;simp
  have q3:(if X0 x.tb u.h=0 then (⟨Q8 r.s.c x.st {(⟨2,0,u.a,0,[],none,0⟩:D3) with own:=Zc x.tb u.h},x.tb⟩:HpM) else x)=Ze r.s.c x u:=by unfold Ze;rw[bJ j,bJ t,bJ v,bJ K,bK T];unfold Gg Q8;simp
  have eK:Y5 r.s.c x u=1+((Ze r.s.c x u).st.rm.tot-x.st.rm.tot):=by unfold Y5;rw[bJ j,bJ t,bK (.inr (.inr T)),Int.zero_add]
  rw[q1,q2,q3] at N;rw[eG,eK];refine aS aA (aS aA (aS aA (aS aA (bI aA (bB A aA (bB k aA (bB k aA (aO aA (aP aA (N) ?_)))))))));rintro _ w6 ⟨I,J,o,rfl,B,f,c⟩;have M:=c.2.2.size;refine aN aA (bF (c.2.2.bP y) aA λw7 p d H=>bF (d.heap (c.2.2.bP n) (by omega)) aA λw8 q a W=>?_);have g:=(m.trans c.2.2).sn d;have i:=g.sn a;exact bD rfl func12 (Xi.cell rfl rfl rfl (a.heap p (by omega)) rfl (.cell rfl rfl rfl q rfl .nil)) ⟨I,J,o,rfl,((B.bW (λb off s' e l=>by have:=f b off s' e;omega) d).bW (λb off s' e l=>by have:=f b off s' e;omega) a),(λb off s' e=>by have:=f b off s' e;omega),(h.box c.2.1 (h.box c.2.1 c.1 (by omega) (by omega) d g) (by omega) (by omega) a i),c.2.1.dC (by omega),i⟩
 by_cases k6:u.kind=6
 .have eX:Ze r.s.c x u=Lc r.s.c x:=by unfold Ze;rw[bJ j,bJ t,bJ v,bJ K,bJ T,bK k6]
  have eE:Qm r.s.c x u=0:=by unfold Qm;rw[bJ j,bJ t,bJ v,bJ K,bJ T,bK k6]
  have eG:Qn r.s.c x u=0:=by unfold Qn;rw[bJ j]
  have eB:Z6 r.s.c x u=[]:=by unfold Z6;rw[bJ v]
  have eK:Y5 r.s.c x u=(Ec r.s.c x.st).rm.tot-x.st.rm.tot:=by unfold Y5;rw[bJ j,bJ t,bJ (by omega),eX];rfl
  rw[eE,eG,eK,eX,eB];refine aS aA (aS aA (aS aA (aS aA (aS aA (bI aA (bB A aA (aP aA (Xf2 S.s hs ⟨ht.1,by omega⟩) ?_)))))));rintro _ w6 ⟨O,rfl,a⟩;refine aN aA (bC aA λsb w7 e7 a8 a9 H=>bF a8 aA λw9 L aa an=>?_);have C:=a9.sn aa;have s:=a.2.2.trans C;have ag:=s.bP A;have D:=m.trans s;have ao:O.ra.cM-r.s.ra.cM=(Ec r.s.c x.st).rm.tot-x.st.rm.tot:=by rw[h.s.rs,a.1.rs]
  have M:=a.2.2.size;have ap:=Xg n;have aq:=Sp (u:=⟨5,0,0,0,[],none,0⟩) hs ht;rw[show Q8 r.s.c x.st ⟨5,0,0,0,[],none,0⟩=Ec r.s.c x.st by unfold Q8;rw[bJ (show ¬(5:Int)%7=0 by decide),bJ (show ¬(5:Int)%7=1 by decide),bJ (show ¬(5:Int)%7=2 by decide),bJ (show ¬(5:Int)%7=3 by decide),bJ (show ¬(5:Int)%7=4 by decide),bK (show(5:Int)%7=5 by decide)]] at aq;have b1:¬sb=qb:=by omega
  have b2:¬b=qb:=by omega
  refine aQ 14 (λz=>z=qb) (by kernel_rfl) aA λG=>aE G L aA (aE G ag aA (Xd.build Xb G rfl rfl (aE G L aA (aE G ag aA (aC G aA (Xd.build Xb G rfl rfl (Xd.cK G rfl λwc P=>Xn.store Xb G rfl (P.bP (s.bP y)) (by first|(intro h;exact rfl)|(intro h;omega)) rfl rfl rfl λwd ab E ar=>aF G aA λwe a0=>?_)))))));refine bF (a0.bP (E.heap (P.bP (s.bP n)) (show ¬tb=qb by omega))) aA λwg ac F au=>?_;have Q:=(D.trans P).sn E;have R:=(Q.trans a0).sn F;have U:Dn w4 r ⟨O,r.t⟩:=⟨a.2.1,λ_ _ h=>h⟩;exact bD rfl func12 (Xi.cell rfl rfl rfl (F.heap (a0.bP ab) (show ¬qb=tb by omega)) rfl (.cell rfl rfl rfl ac rfl .nil)) ⟨⟨O,r.t⟩,none,0,by rw[<-ao];rfl,Rd.nil _ _ _,(by intro b off s' e;cases e),(h.box U ((h.box U (⟨(a.1.bQ C).bQ P,h.t.bQ (D.trans P)⟩:Al wc ⟨O,r.t⟩ (Lc r.s.c x)) (by omega) (by omega) E Q).bQ a0) (show w.heap.size<=tb by omega) (by omega) F R),U.dC (by have:=m.size;omega),R⟩
 have eX:Ze r.s.c x u=I4 x u.a u.b:=by unfold Ze;rw[bJ j,bJ t,bJ v,bJ K,bJ T,bJ k6]
 have eE:Qm r.s.c x u=Ce x.st u.a u.b:=by unfold Qm;rw[bJ j,bJ t,bJ v,bJ K,bJ T,bJ k6]
 have eG:Qn r.s.c x u=0:=by unfold Qn;rw[bJ j]
 have eB:Z6 r.s.c x u=[]:=by unfold Z6;rw[bJ v]
 have eK:Y5 r.s.c x u=0:=by
  unfold Y5;rw[bJ j,bJ t,bJ (by omega),eX];have:(I4 x u.a u.b).st.rm.tot=x.st.rm.tot:=by unfold I4 C8;split <;> rfl
  omega
 rw[eE,eG,eK,eX,eB];refine aS aA (aS aA (aS aA (aS aA (aS aA (aS aA (bB A aA (bB k aA (bB k aA (aP aA (Xf1 S.s hs u.a u.b) ?_)))))))));rintro _ w6 ⟨O,rfl,a⟩;refine aN aA (bC aA λsb w7 e7 a8 a9 H=>bF a8 aA λw9 L aa an=>?_);have C:=a9.sn aa;have s:=a.2.2.trans C;have D:=m.trans s;have ap:=Xg n;refine bB L aA (bB (s.bP A) aA (aO aA (aO aA (bF (s.bP y) aA λwd ab E ar=>bF (E.heap (s.bP n) (show ¬tb=qb by omega)) aA λwg ac F au=>?_))));have Q:=D.sn E;have R:=Q.sn F;have U:Dn w4 r ⟨O,r.t⟩:=⟨a.2.1,λ_ _ h=>h⟩;exact bD rfl func12 (Xi.cell rfl rfl rfl (F.heap ab (show ¬qb=tb by omega)) rfl (.cell rfl rfl rfl ac rfl .nil)) ⟨⟨O,r.t⟩,none,0,rfl,Rd.nil _ _ _,(by intro b off s' e;cases e),(h.box U (h.box U (⟨a.1.bQ C,h.t.bQ D⟩:Al w9 ⟨O,r.t⟩ (I4 x u.a u.b)) (by omega) (by omega) E Q) (show w.heap.size<=tb by omega) (by omega) F R),U.dC (by have:=m.size;omega),R⟩
theorem Xl.bl{x:List Bool}(h:Xl base 4 1 w v m (x.map Value.bool))(hm:x.length=m)(hx:x.length<=512):∃l:BL,v=Tj l/\l.x=x/\Hi w l/\∀b off s,l.a=some ⟨b,off,s⟩->base<=b:=by
 rcases h.2 with⟨rfl,n⟩|⟨g,cap,cur,rfl,f,c,a,k,_,d⟩
 .have:x=[]:=YB.1 (by omega);subst this;exact⟨⟨none,0,[]⟩,rfl,rfl,⟨(λi j=>by cases j),hx,XF _,(by intro b off s e;cases e)⟩,(by intro b off s e;cases e)⟩
 .subst hm;exact⟨⟨some ⟨g,0,none⟩,cap,x⟩,rfl,rfl,⟨Dd.of_take c (by simpa using d),hx,a,(by intro b off s e;cases e;exact Xg c)⟩,(by intro b off s e;cases e;exact f)⟩
theorem XnI{vg vl vf:dE}(h:Ww base w N vg vl vf)(hN:N<=512):∃r:C1,Dl r=[vg,vl,vf,.int .i64 cH]/\Do w r (Cy (N:Nat) cH)/\∀S:Nat->Prop,(∀z,S z->z<base)->Iw S r:=by
 have e1:List.replicate N (Value.int .i64 1)=(List.replicate N (1:Int)).map (Value.int .i64):=by rw[List.map_replicate]
 have e2:List.replicate N (Value.bool false)=(List.replicate N false).map Value.bool:=by rw[List.map_replicate]
 have e3:((List.range N).map λn:Nat=>Value.int .i64 (n:Int))=((List.range N).map (λn:Nat=>(n:Int))).map (Value.int .i64):=by rw[List.map_map];rfl
 have d:=h.g;have i:=h.l;have hf:=h.f;rw[e1] at d;rw[e2] at i;rw[e3] at hf;obtain⟨g,rfl,gx,gX,gB⟩:=Xl.il d (by simp) (by simpa using hN);obtain⟨l,rfl,lx,lX,lB⟩:=Xl.bl i (by simp) (by simpa using hN);obtain⟨f,rfl,fx,fX,fB⟩:=Xl.il hf (by simp) (by simpa using hN);exact⟨⟨g,l,f,cH⟩,rfl,⟨gX,lX,fX,gx,lx,fx,rfl⟩,λS c=>⟨λb off s e a=>by have:=gB b off s e;have:=c b a;omega,λb off s e a=>by have:=lB b off s e;have:=c b a;omega,λb off s e a=>by have:=fB b off s e;have:=c b a;omega⟩⟩
theorem Xmd(c:Conf)(p:Y4)(w:dD)(hc:Yu w c p)(hm:Zb c=true)(hp:c.bS<=512)(hsl:c.cN<=512):Xf prog 29 #[.agg (Zj c p).toArray] w
 (λv w'=>∃r,v=.tuple #[.agg (En r).toArray,.int .i64 0]/\r.s.c=c/\r.s.cp=p/\Al w' r (Gj c)/\(∀S:Nat->Prop,(∀z,S z->z<w.heap.size)->Xj S p.ka->E1 S r)/\Xc Xe w w'):=by
 have a3:1<=c.cN/\1<=c.cS/\c.cS<=1023:=by
  have:=hm;unfold Zb at this;simp only[XK,decide_eq_true_eq,Qy] at this;omega
 obtain⟨N,E⟩:=XE (show 0<=c.cN by omega);refine aR func29 ntmps29 aA (bC aA λb w1 e1 F G a4=>bC aA λqb V e2 o i a5=>?_);have a:=G.trans i;refine bB (i.bP F) aA (aP aA (Xl3 c p V (hc.bR a) hm hp) ?_);rintro _ w3 ⟨n,rfl,q,u,H,x,I⟩;refine aN aA (bC aA λsb w4 e4 J K a6=>bF J aA λW B L a7=>?_);have j:=K.sn L;have d:=I.trans j;have y:=d.bP (i.bP F);refine aS aA (bB y aA (bB y aA ?_));rw[E];refine aP aA (Xlx N c.cS W (by omega) (by omega)) ?_;rintro _ w6 ⟨vg,vl,vf,rfl,hT,⟨ga,gn,gc,rfl⟩,⟨la,ln,lc,rfl⟩,⟨fa,fn,fc,rfl⟩,M⟩;refine aN aA ?_;obtain⟨t,et,ht,A⟩:=XnI (cH:=c.cS) hT (by omega);refine bC aA λtb w7 e7 O P a8=>bF O aA λw8 C Q a9=>?_;have k:=P.sn Q;have f:=M.trans k;refine bB (f.bP B) aA (bB C aA (aO aA ?_));refine bF ((d.trans f).bP o) aA λR h l aa=>?_;have ab:=d.size;have m:=((a.trans d).trans f).sn l;have hf:=Ye hm;have D:Yr w p.ka:=λb' off s e=>hc.bV.block (by have:=hf.bV;have:=hf.n;omega) e;have a1:=(Xg o);have T:Do R t (Cy c.cN c.cS):=by rw[E];exact(ht.bQ k).bW (A (λz=>z=qb) (λz e=>by omega)) l
 have eV:En ⟨n,t⟩=Z8 n++[.slice ga gn gc,.slice la ln lc,.slice fa fn fc,.int .i64 c.cS]:=by unfold En;rw[et]
 replace h:Fm R qb ⟨n,t⟩:=by unfold Fm;rw[eV];exact h
 exact aK func29 h aA ⟨⟨n,t⟩,rfl,q,u,⟨((H.bQ (j.trans f)).bW (x _ (λz e=>by omega) (λb' off s e g=>by have:=D b' off s e;omega)) (by rw[q,u];exact hc.bR m) l),T⟩,λS U hk=>⟨x S (λz g=>by have:=U z g;have:=a.size;omega) hk,A S (λz g=>by have:=U z g;have:=a.size;omega)⟩,m⟩
end Go.Proofs.YtdeihcnepljjaaaGreatDoor
