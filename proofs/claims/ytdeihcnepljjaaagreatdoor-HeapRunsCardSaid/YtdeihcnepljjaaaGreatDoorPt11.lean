/-
  Texts put together: Hp4, Aw23, Laws20, Laws20b, Laws23, Act23, Lgo, Lay, By1, By2, Bcnt, Ref10, Sr16, Laws23b, Ref10b, Ref10c, Tot22, Ref23, Ref23b.
-/
import Derived.Test.YtdeihcnepljjaaaGreatDoorPt10
import Derived.KernelRfl
import Derived.Test.YtdeihcnepljjaaaGreatDoorQRule24
import Derived.Test.YtdeihcnepljjaaaGreatDoorQRule25
import Derived.Test.YtdeihcnepljjaaaGreatDoorQRule12
import Derived.Test.YtdeihcnepljjaaaGreatDoorQRule21
import Derived.Test.YtdeihcnepljjaaaGreatDoorQRule9
import Derived.Test.YtdeihcnepljjaaaGreatDoorQRule26
set_option linter.unusedVariables false
set_option maxRecDepth 100000
namespace Go.Proofs.YtdeihcnepljjaaaGreatDoor
open Go.RowKit
open Go renaming World→dD,Value→dE
open Bool renaming and_eq_true->XJ
open Decidable renaming not_not->YK
open Int renaming toNat_natCast->XB,eq_ofNat_of_zero_le->XE,mul_le_mul->ZG,mul_nonneg->ZI,mul_comm->YP,tdiv_eq_ediv_of_nonneg->YT,sub_self->QY
open List renaming getD_eq_getElem?_getD->XA,getElem?_eq_some_iff->XC,getElem?_eq_getElem->XD,length_set->XG,length_replicate->XI,map_append->XL,getElem?_map->XO,mem_map->XQ,length_map->XV,take_append_drop->XZ,getElem?_replicate->ZE,take_add_one->ZH,length_range->ZM,mem_cons_self->ZO,take_of_length_le->ZP,nil_append->ZT,map_set->ZY,eq_of_mem_replicate->YA,getElem?_set->YE,replicate_succ->YF,set_append_left->YJ,range_succ->QC,append_nil->QD,ext_getElem?->QF,length_drop->QJ,getElem_of_mem->QT
open Nat renaming le_refl->XF,zero_le->XP,zero_add->XT,mul_one->ZQ,le_trans->ZZ,mod_lt->YQ
open Go.Proofs.Tryz (func11 func12 func134 func135 func18 func19 func21 func22 func23 func24 func25 func26 func30 func31 func32 func33 func34 func45 func46 func47 func48 func59 func6 func76 func77 func8 func81 func84 func95 func96 func97 ntmps11 ntmps12 ntmps134 ntmps135 ntmps18 ntmps19 ntmps21 ntmps22 ntmps23 ntmps24 ntmps25 ntmps26 ntmps30 ntmps31 ntmps32 ntmps33 ntmps34 ntmps45 ntmps46 ntmps47 ntmps48 ntmps59 ntmps6 ntmps76 ntmps77 ntmps8 ntmps81 ntmps84 ntmps95 ntmps97 prog)
variable {A:Ar}{V:ArV}{c:Conf}{l':IL}{ahead by' cS cH size cN u who z:Int}{lg:List (Nat×List Nat)}{th:List (Option ThM)}{ps:List IL}{bs l p zs:List Int}{l2 ws:List Nat}{cs rest xs:List dE}{mo:Mo}{N at' b base cap d fuel g i j k lm lo m n o qb sz t tm ty vb xb y:Nat}{e:Nat×List Int}{fz:Nat×Nat}{f:Nat->Int}{G:Nat->Pg}{B C F F' Fr Q S S' T X:Nat->Prop}{pd pd2:Option (Nat×PlcM)}{a:Option Addr}{pg:PgL}{pl':PlM}{q:Plc}{R:Rm}{M:RmM}{r:SR}{x x':Sm}{s s':StM}{P:Aw}{α:Type}{v:dE}{w w' w'' w0 w1 w2:dD}{cells:α->List dE}
structure Hv(c:Conf)(n0:Nat)(w0 w:dD)(F:Nat->Prop)(S:Sto)(H:Nat)(P:Aw)(x:HpM):Prop where
 hm:Hm c n0 w0 w F S H P x.st x.tb
 dA:S.R.dA=x.st.rm.tot
 ok:x.Ok c
def K9(c:Conf)(n0:Nat)(w0 w:dD)(F:Nat->Prop)(H:Nat)(P:Aw)(x:HpM)(e g k:Int)(l:List Int)(v:dE)(w':dD):Prop:=
 ∃b F' S',v=U7 e g b k/\Yb w.heap.size F' l b w'/\Hv c n0 w0 w' F' S' H P x/\(∀z,F' z->F z\/w.heap.size<=z)/\Xc (Z7 F P) w w'
section
variable {c:Conf}{n0:Nat}{w0 w w':dD}{F:Nat->Prop}{S:Sto}{H:Nat}{P:Aw}{s:StM}{t:TbM}{x x':HpM}{e g k:Int}{l:List Int}{v:dE}
theorem Hv.bQ(h:Hv c n0 w0 w F S H P x)(hc:Xc Xf w w'):Hv c n0 w0 w' F S H P x:={h with hm:=h.hm.bQ hc}
theorem Hv.boxed(h:Hv c n0 w0 w F S H P x){b ty:Nat}(hb:¬F b)(hn:n0<=b/\w0.heap.size<=b)(hP:¬Ag P b/\H≠b)(hk:kd w b=some (some ty))(ht:ty≠352/\ty≠348/\ty≠3)(hc:Xc (λq=>q=b) w w'):Hv c n0 w0 w' F S H P x:=
 {h with hm:=h.hm.boxed hb hn hP hk ht hc}
theorem XaV(h:Hv c n0 w0 w F S H P x)(n:Int)(hn : -9223372036854775808<=n/\n<=9223372036854775807):Xe prog 18 #[Cg H,.int .i64 n] w
 (K9 c n0 w0 w F H P (Cf c x n) (X5 x.tb n) 0 ((if X5 x.tb n=0 then 2 else 0)+(1+((Cf c x n).st.rm.tot-x.st.rm.tot))) []):=by
 have t:=h.hm.low';have W:=h.hm.since0;have a0:=h.hm.tb.lt;have a1:=Xg h.hm.obj;have D:=h.ok.free n;refine aR func18 ntmps18 aA (bC aA λa w1 e1 T N a2=>bC aA λd w2 e2 U E a3=>bC aA λb O e3 Q u a4=>?_);have G:=u.bP (E.bP T);have I:=u.bP U;have g:=(N.trans E).trans u;have J:=g.size;have L:=h.bQ g;have K:∀q,w.heap.size<=q -> ¬Z7 F P q:=λq s e=>by
  rcases e with e|e|e
  .have:=t q e;omega
  .omega
  .omega
 refine bB G aA (bB I aA (aP aA (T0 L.hm L.dA n hn (k:=52) (cap:=[.pointer (some ⟨a,0,none⟩),.pointer (some ⟨d,0,none⟩)]) (z:=2) (by omega) (λp w' v=>Xjr (L.hm.bQ v) (Ze x.tb n) n hn (v.cell (Cp (off:=0) G rfl) id) (v.cell (Cp (off:=0) I rfl) id) (K a (by omega)) (K d (by omega)))) ?_));rintro _ w4 i;refine aN aA ?_;by_cases p:X5 x.tb n=0
 .have eX:Cf c x n=⟨Bl c x.st (Ze x.tb n),Dw x.tb n⟩:=by unfold Cf;rw[bK p]
  rw[bK p] at i;rw[eX] at D⊢;rw[bK p];obtain⟨bv,r,rfl,y,M,j,l⟩:=i;obtain⟨ra,rc,rfl,hr,A⟩:=y;have m:¬Ag P b:=λe=>by rcases e with e|e <;> omega
  have o:=l.heap Q (show ¬Z7 F P b from λe=>by
   rcases e with e|e
   .have:=t b e;omega
   .exact m e)
  have B:¬r b:=λe=>by
   rcases j b e with e|e
   .have:=t b e;omega
   .omega
  refine bF o aA λV C f R=>?_;exact aK func18 C aA ⟨_,r,_,rfl,(((show Yb O.heap.size r _ (.slice ra _ rc) _ from⟨ra,rc,rfl,hr,A⟩).bR f (λq e=>.inl (.inl (by omega)))).low J (λ_ _ _ h=>h)),⟨(M.boxed B (by omega) ⟨m,by omega⟩ (X0 o) (by decide) f),rfl,D⟩,λq s=>(j q s).imp id (by omega),((g.gr.trans l)).sn f⟩
 .have eX:Cf c x n=x:=by unfold Cf;rw[bJ p]
  rw[bJ p] at i;rw[eX,bJ p,QY];obtain⟨bv,r,rfl,y,M,j,l⟩:=i;obtain⟨ra,rc,rfl,hr,A⟩:=y;have m:¬Ag P b:=λe=>by rcases e with e|e <;> omega
  have o:=l.heap Q (show ¬Z7 F P b from λe=>by
   rcases e with e|e
   .have:=t b e;omega
   .exact m e)
  have B:¬r b:=λe=>by
   rcases j b e with e|e
   .have:=t b e;omega
   .omega
  refine bF o aA λV C f R=>?_;exact aK func18 C aA ⟨_,r,_,rfl,(((show Yb O.heap.size r _ (.slice ra _ rc) _ from⟨ra,rc,rfl,hr,A⟩).bR f (λq e=>.inl (.inl (by omega)))).low J (λ_ _ _ h=>h)),⟨(M.boxed B (by omega) ⟨m,by omega⟩ (X0 o) (by decide) f),rfl,h.ok⟩,λq s=>(j q s).imp id (by omega),((g.gr.trans l)).sn f⟩
theorem Xew(h:Hv c n0 w0 w F S H P x)(n i m:Int)(hn : -9223372036854775808<=n/\n<=9223372036854775807)(hi : -9223372036854775808<=i/\i<=9223372036854775807)(hm : -9223372036854775808<=m/\m<=9223372036854775807):Xe prog 19 #[Cg H,.int .i64 n,.int .i64 i,.int .i64 m] w
 (K9 c n0 w0 w F H P (Gb c x n i m) (D1 x n i m) 0 (0+(1+((Gb c x n i m).st.rm.tot-x.st.rm.tot))) (Km c x n i m)):=by
 have B:=h.hm.low';have a3:=h.hm.since0;have a4:=h.hm.tb.lt;have a5:=Xg h.hm.obj;have J:=h.ok.read n i m;refine aR func19 ntmps19 aA (bC aA λa w1 e1 W Q a6=>bC aA λd w2 e2 hd K a7=>bC aA λd' a8 a9 R t a1=>bC aA λb T e3 U v aa=>?_);have L:=v.bP (t.bP (K.bP W));have g:=((Q.trans K).trans t).trans v;have M:=g.size;have N:=h.bQ g;have C:∀q,w.heap.size<=q -> ¬Z7 F P q:=λq A e=>by
  rcases e with e|e|e
  .have:=B q e;omega
  .omega
  .omega
 refine bB L aA (aP aA (T0 N.hm N.dA n hn (k:=55) (cap:=[.pointer (some ⟨a,0,none⟩),.pointer (some ⟨d,0,none⟩),.pointer (some ⟨d',0,none⟩)]) (z:=0) (by omega) (λj w' y=>Xjt (N.hm.bQ y) (Ze x.tb n) i m hi hm (y.cell (Cp (off:=0) L rfl) id) (y.cell (Cp (off:=0) (v.bP (t.bP hd)) rfl) id) (y.cell (Cp (off:=0) (v.bP R) rfl) id) (C a (by omega)) (C d (by omega)) (C d' (by omega)))) ?_);rintro _ w4 l;refine aN aA ?_;by_cases j:X5 x.tb n=0
 .have eX:Gb c x n i m=⟨Cu c x.st (Ze x.tb n) i m,x.tb⟩:=by unfold Gb;rw[bK j]
  have eE:D1 x n i m=Ql x.st (Ze x.tb n) i m:=by unfold D1;rw[bK j]
  have eB:Km c x n i m=Cv c x.st (Ze x.tb n) i m:=by unfold Km;rw[bK j]
  rw[bK j] at l;rw[eX] at J⊢;rw[eE,eB];obtain⟨bv,u,rfl,D,O,o,p⟩:=l;obtain⟨ra,rc,rfl,hr,E⟩:=D;have r:¬Ag P b:=λe=>by rcases e with e|e <;> omega
  have s:=p.heap U (show ¬Z7 F P b from λe=>by
   rcases e with e|e
   .have:=B b e;omega
   .exact r e)
  have G:¬u b:=λe=>by
   rcases o b e with e|e
   .have:=B b e;omega
   .omega
  refine bF s aA λw5 I f V=>?_;exact aK func19 I aA ⟨_,u,_,rfl,(((show Yb T.heap.size u _ (.slice ra _ rc) _ from⟨ra,rc,rfl,hr,E⟩).bR f (λq e=>.inl (.inl (by omega)))).low M (λ_ _ _ h=>h)),⟨(O.boxed G (by omega) ⟨r,by omega⟩ (X0 s) (by decide) f),rfl,J⟩,λq A=>(o q A).imp id (by omega),((g.gr.trans p)).sn f⟩
 .have eX:Gb c x n i m=x:=by unfold Gb;rw[bJ j]
  have eE:D1 x n i m=X5 x.tb n:=by unfold D1;rw[bJ j]
  have eB:Km c x n i m=[]:=by unfold Km;rw[bJ j]
  rw[bJ j] at l;rw[eX,eE,eB,QY];obtain⟨bv,u,rfl,D,O,o,p⟩:=l;obtain⟨ra,rc,rfl,hr,E⟩:=D;have r:¬Ag P b:=λe=>by rcases e with e|e <;> omega
  have s:=p.heap U (show ¬Z7 F P b from λe=>by
   rcases e with e|e
   .have:=B b e;omega
   .exact r e)
  have G:¬u b:=λe=>by
   rcases o b e with e|e
   .have:=B b e;omega
   .omega
  refine bF s aA λw5 I f V=>?_;exact aK func19 I aA ⟨_,u,_,rfl,(((show Yb T.heap.size u _ (.slice ra _ rc) _ from⟨ra,rc,rfl,hr,E⟩).bR f (λq e=>.inl (.inl (by omega)))).low M (λ_ _ _ h=>h)),⟨(O.boxed G (by omega) ⟨r,by omega⟩ (X0 s) (by decide) f),rfl,h.ok⟩,λq A=>(o q A).imp id (by omega),((g.gr.trans p)).sn f⟩
theorem Xex(h:Hv c n0 w0 w F S H P x)(n i:Int)(ba:Option Addr)(bc:Nat)(l:List Int)(hn : -9223372036854775808<=n/\n<=9223372036854775807)(hi : -9223372036854775808<=i/\i<=9223372036854775807)(hr:Rd .u8 w ba l)(hlc:l.length<=bc)(hl:l.length<=9223372036854775807)(hin:Qh l)(hout:0<l.length->Xj F ba):Xe prog 22 #[Cg H,.int .i64 n,.int .i64 i,.slice ba l.length bc] w
 (K9 c n0 w0 w F H P (Gc c x n i l) (D1 x n i l.length) 0 (0+(1+((Gc c x n i l).st.rm.tot-x.st.rm.tot))) []):=by
 have G:=h.hm.low';have a2:=h.hm.since0;have a3:=h.hm.tb.lt;have a4:=Xg h.hm.obj;have I:=h.ok.write n i hin;refine aR func22 ntmps22 aA (bC aA λa w1 e1 V O a5=>bC aA λd w2 e2 W J a6=>bC aA λd' a7 a8 Q t a0=>bC aA λb R e3 T y a9=>?_);have K:=y.bP (t.bP (J.bP V));have f:=((O.trans J).trans t).trans y;have L:=f.size;have M:=h.bQ f;refine bB K aA (aP aA (T0 M.hm M.dA n hn (k:=60) (cap:=[.pointer (some ⟨a,0,none⟩),.pointer (some ⟨d,0,none⟩),.pointer (some ⟨d',0,none⟩)]) (z:=0) (by omega) (λu w' m=>Xjy (M.hm.bQ m) (Ze x.tb n) i ba bc l hi ((hr.bR f).bR m) hlc hl hin hout (m.cell (Cp (off:=0) K rfl) id) (m.cell (Cp (off:=0) (y.bP (t.bP W)) rfl) id) (m.cell (Cp (off:=0) (y.bP Q) rfl) id))) ?_);rintro _ w4 j;refine aN aA ?_;by_cases u:X5 x.tb n=0
 .have eX:Gc c x n i l=⟨Dg c x.st (Ze x.tb n) i l,x.tb⟩:=by unfold Gc;rw[bK u]
  have eE:D1 x n i l.length=Ql x.st (Ze x.tb n) i l.length:=by unfold D1;rw[bK u]
  rw[bK u] at j;rw[eX] at I⊢;rw[eE];obtain⟨bv,v,rfl,A,N,o,p⟩:=j;obtain⟨ra,rc,rfl,hr,B⟩:=A;have r:¬Ag P b:=λe=>by rcases e with e|e <;> omega
  have s:=p.heap T (show ¬Z7 F P b from λe=>by
   rcases e with e|e
   .have:=G b e;omega
   .exact r e)
  have C:¬v b:=λe=>by
   rcases o b e with e|e
   .have:=G b e;omega
   .omega
  refine bF s aA λw5 D g U=>?_;exact aK func22 D aA ⟨_,v,_,rfl,(((show Yb R.heap.size v _ (.slice ra _ rc) _ from⟨ra,rc,rfl,hr,B⟩).bR g (λq e=>.inl (.inl (by omega)))).low L (λ_ _ _ h=>h)),⟨(N.boxed C (by omega) ⟨r,by omega⟩ (X0 s) (by decide) g),rfl,I⟩,λq E=>(o q E).imp id (by omega),((f.gr.trans p)).sn g⟩
 .have eX:Gc c x n i l=x:=by unfold Gc;rw[bJ u]
  have eE:D1 x n i l.length=X5 x.tb n:=by unfold D1;rw[bJ u]
  rw[bJ u] at j;rw[eX,eE,QY];obtain⟨bv,v,rfl,A,N,o,p⟩:=j;obtain⟨ra,rc,rfl,hr,B⟩:=A;have r:¬Ag P b:=λe=>by rcases e with e|e <;> omega
  have s:=p.heap T (show ¬Z7 F P b from λe=>by
   rcases e with e|e
   .have:=G b e;omega
   .exact r e)
  have C:¬v b:=λe=>by
   rcases o b e with e|e
   .have:=G b e;omega
   .omega
  refine bF s aA λw5 D g U=>?_;exact aK func22 D aA ⟨_,v,_,rfl,(((show Yb R.heap.size v _ (.slice ra _ rc) _ from⟨ra,rc,rfl,hr,B⟩).bR g (λq e=>.inl (.inl (by omega)))).low L (λ_ _ _ h=>h)),⟨(N.boxed C (by omega) ⟨r,by omega⟩ (X0 s) (by decide) g),rfl,h.ok⟩,λq E=>(o q E).imp id (by omega),((f.gr.trans p)).sn g⟩
theorem Xju(h:Hv c n0 w0 w F S H P x)(n size:Int)(hn : -9223372036854775808<=n/\n<=9223372036854775807):Xe prog 23 #[Cg H,.int .i64 n,.int .i64 size] w
 (K9 c n0 w0 w F H P (Ho c x n size) (Lh c x n size) 0 (0+(1+((Ho c x n size).st.rm.tot-x.st.rm.tot))) []):=by
 have C:=h.hm.low';have U:=h.hm.since0;have V:=h.hm.tb.lt;have W:=Xg h.hm.obj;have D:=h.ok.resize n size;refine aR func23 ntmps23 aA (bC aA λa w1 e1 Q L a0=>bC aA λd w2 e2 R E a1=>bC aA λb M e3 N s a2=>?_);have G:=s.bP (E.bP Q);have g:=(L.trans E).trans s;have I:=g.size;have J:=h.bQ g;refine bB G aA (aP aA (T0 J.hm J.dA n hn (k:=62) (cap:=[.pointer (some ⟨a,0,none⟩),.pointer (some ⟨d,0,none⟩)]) (z:=0) (by omega) (λp w' t=>Xjv (J.hm.bQ t) (Ze x.tb n) size (t.cell (Cp (off:=0) G rfl) id) (t.cell (Cp (off:=0) (s.bP R) rfl) id))) ?_);rintro _ w4 i;refine aN aA ?_;by_cases p:X5 x.tb n=0
 .have eX:Ho c x n size=⟨Ai c x.st (Ze x.tb n) size,x.tb⟩:=by unfold Ho;rw[bK p]
  have eE:Lh c x n size=A7 c x.st (Ze x.tb n) size:=by unfold Lh;rw[bK p]
  rw[bK p] at i;rw[eX] at D⊢;rw[eE];obtain⟨bv,r,rfl,u,K,j,l⟩:=i;obtain⟨ra,rc,rfl,hr,v⟩:=u;have m:¬Ag P b:=λe=>by rcases e with e|e <;> omega
  have o:=l.heap N (show ¬Z7 F P b from λe=>by
   rcases e with e|e
   .have:=C b e;omega
   .exact m e)
  have y:¬r b:=λe=>by
   rcases j b e with e|e
   .have:=C b e;omega
   .omega
  refine bF o aA λT A f O=>?_;exact aK func23 A aA ⟨_,r,_,rfl,(((show Yb M.heap.size r _ (.slice ra _ rc) _ from⟨ra,rc,rfl,hr,v⟩).bR f (λq e=>.inl (.inl (by omega)))).low I (λ_ _ _ h=>h)),⟨(K.boxed y (by omega) ⟨m,by omega⟩ (X0 o) (by decide) f),rfl,D⟩,λq B=>(j q B).imp id (by omega),((g.gr.trans l)).sn f⟩
 .have eX:Ho c x n size=x:=by unfold Ho;rw[bJ p]
  have eE:Lh c x n size=X5 x.tb n:=by unfold Lh;rw[bJ p]
  rw[bJ p] at i;rw[eX,eE,QY];obtain⟨bv,r,rfl,u,K,j,l⟩:=i;obtain⟨ra,rc,rfl,hr,v⟩:=u;have m:¬Ag P b:=λe=>by rcases e with e|e <;> omega
  have o:=l.heap N (show ¬Z7 F P b from λe=>by
   rcases e with e|e
   .have:=C b e;omega
   .exact m e)
  have y:¬r b:=λe=>by
   rcases j b e with e|e
   .have:=C b e;omega
   .omega
  refine bF o aA λT A f O=>?_;exact aK func23 A aA ⟨_,r,_,rfl,(((show Yb M.heap.size r _ (.slice ra _ rc) _ from⟨ra,rc,rfl,hr,v⟩).bR f (λq e=>.inl (.inl (by omega)))).low I (λ_ _ _ h=>h)),⟨(K.boxed y (by omega) ⟨m,by omega⟩ (X0 o) (by decide) f),rfl,h.ok⟩,λq B=>(j q B).imp id (by omega),((g.gr.trans l)).sn f⟩
theorem Xjx(h:Hv c n0 w0 w F S H P x):Xe prog 30 #[Cg H] w (K9 c n0 w0 w F H P (Li c x) 0 0 ((Li c x).st.rm.tot-x.st.rm.tot) []):=by
 have t:=h.hm.low';have A:=h.hm.since0;have B:=h.hm.tb.lt;have C:=Xg h.hm.obj;refine aR func30 ntmps30 aA (bC aA λb G e1 z d D=>?_);have o:=h.hm.bQ d;refine bB o.obj aA ?_;refine aP rfl (Xkd o.lv) ?_;rintro _ I ⟨rfl,u⟩;refine aN aA ?_;obtain⟨v,p,f,g⟩:=o.store u;refine bB p.obj aA (aP aA (Uf p.lv) ?_);rintro _ J ⟨rfl,y,a,i⟩;have j:¬Ag P b:=λe=>by rcases e with e|e <;> omega
 have k:¬v b:=λe=>by
  rcases f b e with e|e
  .have:=t b e;omega
  .omega
 have l:=a.heap (g.heap z (show ¬Z7 F P b from λe=>by
  rcases e with e|e
  .have:=t b e;omega
  .exact j e)) (λe=>k (e▸i))
 refine aN aA (aO aA (bF l aA λK m n E=>?_));have r:=((d.gr.trans g).bU a (λq s e=>.inl (e▸h.hm.lv.mb))).sn n;rw[h.dA] at m;exact bD rfl func30 (Xi.cell rfl rfl rfl m rfl .nil) ⟨_,v,_,rfl,.none _ _ _,⟨((p.cM y a i).boxed k (by omega) ⟨j,by omega⟩ (X0 l) (by decide) n),rfl,h.ok.tick⟩,λq s=>(f q s).imp id (by omega),r⟩
theorem Xjw(h:Hv c n0 w0 w F S H P x)(k bV:Int):Xe prog 31 #[Cg H,.int .i64 k,.int .i64 bV] w (K9 c n0 w0 w F H P (Jw x k bV) (Ca x.st k bV) 0 ((Jw x k bV).st.rm.tot-x.st.rm.tot) []):=by
 have u:=h.hm.low';have B:=h.hm.since0;have C:=h.hm.tb.lt;have D:=Xg h.hm.obj;refine aR func31 ntmps31 aA (bC aA λb I e1 A d E=>?_);have p:=h.hm.bQ d;refine bB p.obj aA ?_;refine aP rfl (Xkc p.lv k bV) ?_;rintro _ J ⟨rfl,v⟩;refine aN aA ?_;obtain⟨y,r,f,g⟩:=p.store v;refine bB r.obj aA (aP aA (Uf r.lv) ?_);rintro _ K ⟨rfl,z,a,i⟩;have j:¬Ag P b:=λe=>by rcases e with e|e <;> omega
 have l:¬y b:=λe=>by
  rcases f b e with e|e
  .have:=u b e;omega
  .omega
 have m:=a.heap (g.heap A (show ¬Z7 F P b from λe=>by
  rcases e with e|e
  .have:=u b e;omega
  .exact j e)) (λe=>l (e▸i))
 refine aN aA (aO aA (bF m aA λL n o G=>?_));have s:=((d.gr.trans g).bU a (λq t e=>.inl (e▸h.hm.lv.mb))).sn o;rw[h.dA] at n;exact bD rfl func31 (Xi.cell rfl rfl rfl n rfl .nil) ⟨_,y,_,rfl,.none _ _ _,⟨((r.cM z a i).boxed l (by omega) ⟨j,by omega⟩ (X0 m) (by decide) o),rfl,(h.ok.set k bV)⟩,λq t=>(f q t).imp id (by omega),s⟩
theorem XaT(h:Hv c n0 w0 w F S H P x)(size:Int):Xe prog 26 #[Cg H,.int .i64 size] w (K9 c n0 w0 w F H P (B5 c x size) (C2 c x size) (Ei c x size) (Ej c x size) []):=by
 have J:=h.hm.low';have V:=h.hm.since0;have W:=h.hm.tb.lt;have a0:=Xg h.hm.obj;have m:=h.ok.alloc size;refine aR func26 ntmps26 aA (bC aA λb w1 e1 r k a1=>?_);have D:=h.hm.bQ k;refine bB D.obj aA (bG (Xj5 D.lv size) aA λw2 d=>?_);have i:=D.bQ d;by_cases e3:Yt c x.st size=3
 .have a:¬Ic c x size:=λa=>by have:=a.1;omega
  have eX:B5 c x size=x:=by unfold B5;rw[bJ a]
  have eE:C2 c x size=3:=by unfold C2;rw[bK e3]
  have eH:Ei c x size=0:=by unfold Ei;rw[bJ a]
  have eK:Ej c x size=0:=by unfold Ej;rw[bJ a]
  rw[eX,eE,eH,eK,e3];refine aS aA (bI aA (aO aA (bF (d.bP r) aA λE f l t=>?_)));have g:=(k.trans d).sn l;exact aK func26 f aA ⟨_,F,S,rfl,.none _ _ _,h.bQ g,λ_ h=>.inl h,g.gr⟩
 refine bI aA (bB i.obj aA (bH (Xlb i.tb) aA ?_));by_cases e4:x.tb.fl=[]
 .have a:¬Ic c x size:=λa=>a.2 e4;have eX:B5 c x size=x:=by unfold B5;rw[bJ a]
  have eE:C2 c x size=4:=by unfold C2;rw[bJ e3,bK e4]
  have eH:Ei c x size=0:=by unfold Ei;rw[bJ a]
  have eK:Ej c x size=0:=by unfold Ej;rw[bJ a]
  rw[eX,eE,eH,eK,e4];refine bI aA (aO aA (bF (d.bP r) aA λE f l t=>?_));have g:=(k.trans d).sn l;exact aK func26 f aA ⟨_,F,S,rfl,.none _ _ _,h.bQ g,λ_ h=>.inl h,g.gr⟩
 have a2:=List.length_pos_iff.2 e4;refine aS aA ?_;by_cases s:Yt c x.st size=0
 .have a:Ic c x size:=⟨s,e4⟩;obtain⟨j,K,g2,g3,g4,T⟩:=h.ok.goes a;have eX:B5 c x size=⟨Aa c x.st (Dh x.tb) size,Fc x.tb⟩:=by unfold B5;rw[bK a]
  have eE:C2 c x size=0:=by unfold C2;rw[bJ e3,bJ e4,s]
  have eH:Ei c x size=Ly x.tb:=by unfold Ei;rw[bK a]
  have eK:Ej c x size=2+((B5 c x size).st.rm.tot-x.st.rm.tot):=by unfold Ej;rw[bK a]
  rw[eX] at m eK⊢;rw[eE,eH,eK,s];refine aS aA (bB i.obj aA (aP aA (Xle i.tb e4) ?_));rintro _ wt ⟨rfl,L,M⟩;refine aN aA ?_;obtain⟨Ft,ht,N,G⟩:=i.table L M;refine bB ht.obj aA ?_;refine aP rfl (Xj3 ht.lv (Dh x.tb) size) ?_;rintro _ wa ⟨rfl,O⟩;refine aN aA ?_;rw[K,T];have o:=(Jn.seq N G (ht.store O)).up d;rw[K] at o m;have a3:0<=(Aa c x.st (j:Nat) size).rm.tot/\(Aa c x.st (j:Nat) size).rm.tot<=4611686018427387904:=m.st.rm.ok.tot;have U:=h.hm.lv.inv.rm.ok.tot;obtain⟨Q,i,u,v⟩:=o;refine Xa.cJ Xb rfl i.obj rfl rfl ?_;refine aP rfl (Uf i.lv) ?_;rintro _ E ⟨rfl,R,p,y⟩;refine aN rfl ?_;have z:¬Ag P b:=λe=>by rcases e with e|e <;> omega
  have A:¬Q b:=λe=>by
   rcases u b e with e|e
   .have:=J b e;omega
   .omega
  have f:=p.heap (v.heap r (show ¬Z7 F P b from λe=>by
   rcases e with e|e
   .have:=J b e;omega
   .exact z e)) (λe=>A (e▸y))
  refine Xa.arith Xb rfl (w64 (by rw[h.dA];omega)) rfl ?_;refine aO aA (bF f aA λw5 B C a4=>?_);have I:=((k.gr.trans v).bU p (λq n e=>.inl (e▸h.hm.lv.mb))).sn C;rw[h.dA] at B;exact bD rfl func26 (Xi.cell rfl rfl rfl B rfl .nil) ⟨_,Q,_,rfl,.none _ _ _,⟨((i.cM R p y).boxed A (by omega) ⟨z,by omega⟩ (X0 f) (by decide) C),rfl,m⟩,λq n=>(u q n).imp id (by omega),I⟩
 .have a:¬Ic c x size:=λa=>s a.1;have eX:B5 c x size=x:=by unfold B5;rw[bJ a]
  have eE:C2 c x size=Yt c x.st size:=by unfold C2;rw[bJ e3,bJ e4]
  have eH:Ei c x size=0:=by unfold Ei;rw[bJ a]
  have eK:Ej c x size=0:=by unfold Ej;rw[bJ a]
  rw[eX,eE,eH,eK];refine bI aA (aO aA (bF (d.bP r) aA λE f l t=>?_));have g:=(k.trans d).sn l;exact aK func26 f aA ⟨_,F,S,rfl,.none _ _ _,h.bQ g,λ_ h=>.inl h,g.gr⟩
end
theorem Xev(c:Conf)(p:Y8)(w:dD)(hc:Yw w c p)(ht:Bg w)(hm:Zb c=true):Xe prog 24 #[.agg (Zj c p).toArray] w (λv w'=>∃n0 F S H P,v=.tuple #[Cg H,.int .i64 0]/\Hv c n0 w w' F S H P (Gz c)/\Xc Xf w w'/\w.heap.size<=n0/\n0<=w'.heap.size/\S.p=p):=by
 have o:(1<=c.cN/\c.cN<=4096)/\1<=c.cS/\c.cS<=1023:=by
  have hm:=hm;unfold Zb at hm;simp only[XJ,decide_eq_true_eq,Qx] at hm;omega
 refine aR func24 ntmps24 aA (bC aA λb u e1 q f B=>?_);refine bB q aA (aP aA (Xj9 c p u (hc.bR f) (ht.bQ f) hm) ?_);rintro _ l ⟨F,S,rfl,j,m,r,g⟩;have h:=g.bP q;refine aN aA (aS aA (bB h aA (bB h aA ?_)));obtain⟨N,n⟩:=XE (show 0<=c.cN by omega);rw[n];refine aP aA (Xld N c.cS l (by omega) o.2) ?_;rintro _ G ⟨P,rfl,s,x,i⟩;refine aN aA (bB (i.bP h) aA (aO aA (bC aA λH y e4 A k C=>?_)));have D:=g.size;have E:=i.size;have a:=j.low;have d:=i.trans k;have t:Hm c l.heap.size w y F S H P (Eo c) (Cs N c.cS):=
  ⟨{(j.bQ d) with base:=λz e=>by have:=j.base z e;omega,bR:=((f.trans g).trans d)},by rw[A];rfl,by rw[n];exact x.bQ k,⟨⟨s.1,s.2⟩,by omega,by omega⟩,
   λe=>by have:=a _ e;omega,λe=>by have:=a _ e;omega,λe=>by have:=a _ e;omega⟩
 have eN:Gz c=⟨Eo c,Cs N c.cS⟩:=by unfold Gz;rw[n]
 exact bE func24 aA ⟨l.heap.size,F,S,H,P,rfl,⟨by rw[eN];exact t,by rw[eN];exact m,Xkw hm j.inv.rm⟩,(f.trans g).trans d,by omega,by omega,r⟩
def Av:Conf:=⟨64,4,[32],[0],8,5,3,128⟩
def T3:List Int:=[104,105]
def Py:HpM:=Gz Av
def aw23x1:HpM:=B5 Av Py 20
def aw23x2:HpM:=Gc Av aw23x1 4096 0 T3
def aw23x3:HpM:=Gb Av aw23x2 4096 0 3
def aw23x4:HpM:=Cf Av aw23x3 4096
def aw23x5:HpM:=Cf Av aw23x4 4096
def aw23x6:HpM:=B5 Av aw23x5 0
theorem Xin:Zb Av=true:=by kernel_rfl
theorem Xag:C2 Av Py 20=0/\Ei Av Py 20=4096/\Ej Av Py 20=41:=⟨by kernel_rfl,by kernel_rfl,by kernel_rfl⟩
theorem Xdo:D1 aw23x1 4096 0 2=0/\0+(1+(aw23x2.st.rm.tot-aw23x1.st.rm.tot))=3:=⟨by kernel_rfl,by kernel_rfl⟩
theorem Xah:D1 aw23x2 4096 0 3=0/\0+(1+(aw23x3.st.rm.tot-aw23x2.st.rm.tot))=4/\Km Av aw23x2 4096 0 3=[104,105,0]:=⟨by kernel_rfl,by kernel_rfl,by kernel_rfl⟩
theorem Xdp:Zl aw23x3.st=20/\((Za aw23x3.st.rm.pl:Nat):Int)*64=64:=⟨by kernel_rfl,by kernel_rfl⟩
theorem Xai:X5 aw23x3.tb 4096=0/\2+(1+(aw23x4.st.rm.tot-aw23x3.st.rm.tot))=10:=⟨by kernel_rfl,by kernel_rfl⟩
theorem Xaj:X5 aw23x4.tb 4096=6/\0+(1+(aw23x5.st.rm.tot-aw23x4.st.rm.tot))=1:=⟨by kernel_rfl,by kernel_rfl⟩
theorem Xim:C2 Av aw23x5 0=3:=by kernel_rfl
theorem Xak:Zl aw23x6.st=0/\((Za aw23x6.st.rm.pl:Nat):Int)*64=0/\So aw23x6.tb=0:=⟨by kernel_rfl,by kernel_rfl,by kernel_rfl⟩
theorem Xio:(FloatKind.format .f64).div (FloatKind.nearest .f64 20) (FloatKind.nearest .f64 64)=some 4599301119452119040:=by kernel_rfl
theorem Rd.of23{k:IntKind}{w:dD}{c:Array dE}{t:TypeId}(h:w.heap[b]?=some (.cells c t fz))(hc:c=(zs.map (Value.int k)).toArray):Rd k w (some ⟨b,0,none⟩) zs:=λi a=>
 ⟨b,0,rfl,by rw[Ys h,hc];simp[a]⟩
section
variable {c:Conf}{n0:Nat}{w0 w w1 w2 w':dD}{F F':Nat->Prop}{S:Sto}{H:Nat}{P:Aw}{x:HpM}
theorem Hv.off(h:Hv c n0 w0 w F S H P x)(hb:w.heap.size<=b):¬Z7 F P b:=λe=>by
 have a:=h.hm.tb.lt;rcases e with e|e|e
 .have:=h.hm.low' b e;omega
 .omega
 .omega
theorem Hv.fresh(h:Hv c n0 w0 w F S H P x)(hc:Xc Xf w w1)(hb:w.heap.size<=b)(hk:kd w1 b=some (some ty))(ht:ty≠352/\ty≠348/\ty≠3)(hst:Xc (λq=>q=b) w1 w2):Hv c n0 w0 w2 F S H P x:=by
 have f:=h.hm.since0;have d:=Xg h.hm.obj;have a:=h.off hb;exact(h.bQ hc).boxed (λe=>a (.inl e)) (by omega) ⟨λe=>a (.inr e),by omega⟩ hk ht hst
theorem Gd{o:Obj}(h:w.heap[b]?=some o)(hn:¬Z7 F P b)(hc:Xc (Z7 F P) w w')(hF:∀z,F' z->F z\/w.heap.size<=z):w'.heap[b]?=some o/\¬Z7 F' P b:=
 ⟨hc.heap h hn,λe=>e.elim (λe=>(hF b e).elim (λg=>hn (.inl g)) (λg=>by have:=Xg h;omega)) (λe=>hn (.inr e))⟩
theorem Yb.op{b:dE}(h:Yb n F l b w)(hP:P.tb<n/\P.sb<n)(hc:Xc (Z7 F P) w w')(hF:∀z,F' z->F z\/w.heap.size<=z):Yb n F' l b w':=by
 obtain⟨a,cap,e,hr,f⟩:=h;obtain⟨j,d,e2,i,c⟩:=((show Yb n F l b w from⟨a,cap,e,hr,f⟩).bR hc (λz k=>k.elim .inr (λe=>.inl (.inl (by rcases e with e|e <;> omega)))));have e3:a=j:=by rw[e] at e2;cases e2;rfl
 subst e3;exact⟨a,d,e2,i,λb' off s' e=>⟨(c b' off s' e).1,λg=>(hF b' g).elim (c b' off s' e).2 (λg=>by have:=(f b' off s' e).1;omega)⟩⟩
end
theorem XjS(w:dD):Xe prog 25 #[] w (λv w'=>∃p,v=.agg (Zj Av p).toArray/\Yw w' Av p/\Xc Xf w w'):=by
 refine aR func25 ntmps25 aA (bC aA λb u e1 l e o=>Xa.buildSlice Xb rfl λf x e2 g d q=>aN aA (Xa.buildSlice Xb rfl λh y e3 i a r=>aN aA (aO aA (bF (a.bP (d.bP l)) aA λm j c s=>?_))));have n:Yw m Av ⟨some ⟨f,0,none⟩,1,some ⟨h,0,none⟩,1⟩:=
  ⟨Rd.of23 (c.heap (a.bP g) (by omega)) rfl,Rd.of23 (c.heap i (by omega)) rfl,by decide,by decide,by unfold Nz;decide⟩
 exact aK func25 j aA ⟨⟨some ⟨f,0,none⟩,1,some ⟨h,0,none⟩,1⟩,rfl,n,((e.trans d).trans a).sn c⟩
theorem XjO(w:dD)(ht:Bg w):Xe prog 6 #[] w (Grow (.bool true) w):=by
 refine aR func6 ntmps6 aA (aP aA (XjS w) ?_);rintro _ ws ⟨p,rfl,be,a9⟩;refine aN aA (aP aA (Xev Av p ws be (ht.bQ a9) Xin) ?_);rintro _ w0 ⟨n0,F,S,H,P,rfl,h0,da,_,_⟩;refine aN aA ?_;have aa:=XaT h0 20;rw[show Gz Av=Py from rfl,Xag.1,Xag.2.1,Xag.2.2] at aa;refine aP aA (aa) ?_;rintro _ db ⟨dc,F1,S1,rfl,bf,ab,dd,de⟩;refine aN aA ?_;obtain⟨df,dg,rfl,dh,ck⟩:=bf;refine bC aA λN di dj ac b8 cl=>bF ac aA λbg ad b9 cm=>?_;have h1:=ab.fresh b8 (by omega) (X0 ac) (by decide) b9;replace h1:Hv Av n0 ws bg F1 S1 H P aw23x1:=h1;refine bB ad aA (Xa.buildSlice Xb rfl λhb w4 e4 bi bj dk=>aN aA (Xa.mark Xb rfl bi λw5 dl ba bk dm=>aN aA ?_));have R:=bj.sn bk;have h5:=h1.bQ R;have ae:=Xex h5 4096 0 (some ⟨hb,0,none⟩) 2 T3 (by decide) (by decide) (Rd.of23 ba rfl) (by decide) (by decide) (by unfold Qh;decide) (λ_ b off s e hz=>by cases e;exact h1.off (b:=hb) (by omega) (.inl hz));rw[show D1 aw23x1 4096 0 (T3.length:Nat)=0 from Xdo.1,show Gc Av aw23x1 4096 0 T3=aw23x2 from rfl,Xdo.2] at ae;have u:=R.bP ad;have T:=(ab.off (b:=N) (by omega));refine aP aA (ae) ?_;rintro _ dn ⟨dp,F2,S2,rfl,bn,af,bo,ag⟩;refine aN aA ?_;obtain⟨dq,dr,rfl,ds,cn⟩:=bn;refine bC aA λO dt du ah U co=>bF ah aA λbp bq V cp=>?_;have h2:=af.fresh U (by omega) (X0 ah) (by decide) V;have cq:=ag.size;obtain⟨D,br⟩:=Gd u T ag bo;replace D:=V.heap (U.bP D) (show ¬N=O by omega);refine bB D aA ?_;have ai:=Xew h2 4096 0 3 (by decide) (by decide) (by decide);rw[Xah.1,show Gb Av aw23x2 4096 0 3=aw23x3 from rfl,Xah.2.1,Xah.2.2] at ai;refine aP aA (ai) ?_;rintro _ bs ⟨dv,F3,S3,rfl,a,aj,ak,W⟩;refine aN aA ?_;obtain⟨al,am,rfl,bt,bc⟩:=a;refine bC aA λA dw dx an r cs=>bF an aA λdy bu t ct=>?_;have h3:=aj.fresh r (by omega) (X0 an) (by decide) t;have cu:=W.size;obtain⟨a0,bw⟩:=Gd D br W ak;replace a0:=t.heap (r.bP a0) (show ¬N=A by omega);obtain⟨a1,bx⟩:=Gd bq (af.off (b:=O) (by omega)) W ak;replace a1:=t.heap (r.bP a1) (show ¬O=A by omega);have a:Yb bp.heap.size F3 [104,105,0] (.slice al 3 am) bs:=⟨al,am,rfl,bt,bc⟩;replace a:=a.bR (X:=λq=>q=A) (r.gr.trans t) (λq e=>.inl (.inr (by omega)));have ao:=XaU h3.hm;rw[Xdp.1,show((Za aw23x3.st.rm.pl:Nat):Int)*Av.size=64 from Xdp.2] at ao;refine aP aA (ao) ?_;rintro _ wf ⟨fl,rfl,hq,m⟩;refine aN aA ?_;unfold G6 at hq;rw[Xio] at hq;subst hq;have cv:=m.size;have ap:=m.bP a0;replace a:=a.bR m (λq e=>e.elim);refine bB ap aA ?_;have aq:=XaV (h3.bQ m) 4096 (by decide);rw[show Cf Av aw23x3 4096=aw23x4 from rfl,bK Xai.1,Xai.1,Xai.2] at aq;refine aP aA (aq) ?_;rintro _ dz ⟨e0,F4,S4,rfl,bz,ar,E,x⟩;refine aN aA ?_;obtain⟨e1,e2,rfl,e3,cw⟩:=bz;refine bC aA λB e5 e6 au j cx=>bF au aA λe7 c0 k cy=>?_;have h4:=ar.fresh j (by omega) (X0 au) (by decide) k;have d1:=x.size;obtain⟨G,c1⟩:=Gd ap bw x E;replace G:=k.heap (j.bP G) (show ¬N=B by omega);obtain⟨a2,c2⟩:=Gd (m.bP a1) bx x E;replace a2:=k.heap (j.bP a2) (show ¬O=B by omega);obtain⟨a3,c3⟩:=Gd (m.bP bu) (aj.off (b:=A) (by omega)) x E;replace a3:=k.heap (j.bP a3) (show ¬A=B by omega);replace a:=a.op (by have:=h2.hm.tb.lt;exact this) x E;replace a:=a.bR (X:=λq=>q=B) (j.gr.trans k) (λq e=>.inl (.inr (by omega)));refine bB G aA ?_;have av:=XaV h4 4096 (by decide);rw[show Cf Av aw23x4 4096=aw23x5 from rfl,bJ (by rw[Xaj.1];decide),Xaj.1,Xaj.2] at av;refine aP aA (av) ?_;rintro _ e8 ⟨e9,F5,S5,rfl,c4,aw,y,n⟩;refine aN aA ?_;obtain⟨ea,eb,rfl,ec,d2⟩:=c4;refine bC aA λC ed ee ax g d3=>bF ax aA λef c5 i d4=>?_;have h5:=aw.fresh g (by omega) (X0 ax) (by decide) i;have d5:=n.size;obtain⟨u,T⟩:=Gd G c1 n y;replace u:=i.heap (g.bP u) (show ¬N=C by omega);obtain⟨a4,c6⟩:=Gd a2 c2 n y;replace a4:=i.heap (g.bP a4) (show ¬O=C by omega);obtain⟨a5,c7⟩:=Gd a3 c3 n y;replace a5:=i.heap (g.bP a5) (show ¬A=C by omega);obtain⟨a6,c8⟩:=Gd c0 (ar.off (b:=B) (by omega)) n y;replace a6:=i.heap (g.bP a6) (show ¬B=C by omega);replace a:=a.op (by have:=h2.hm.tb.lt;exact this) n y;replace a:=a.bR (X:=λq=>q=C) (g.gr.trans i) (λq e=>.inl (.inr (by omega)));have ay:=XaT h5 0;rw[show B5 Av aw23x5 0=aw23x6 from rfl,Xim] at ay;refine aP aA (ay) ?_;rintro _ eg ⟨eh,F6,S6,rfl,c9,ca,o,l⟩;refine aN aA ?_;obtain⟨ei,ej,rfl,ek,d6⟩:=c9;refine bC aA λQ el em az d d7=>bF az aA λen cb f d8=>?_;have h6:=ca.fresh d (by omega) (X0 az) (by decide) f;have d9:=l.size;obtain⟨I,eo⟩:=Gd u T l o;replace I:=f.heap (d.bP I) (show ¬N=Q by omega);obtain⟨J,ep⟩:=Gd a4 c6 l o;replace J:=f.heap (d.bP J) (show ¬O=Q by omega);obtain⟨K,er⟩:=Gd a5 c7 l o;replace K:=f.heap (d.bP K) (show ¬A=Q by omega);obtain⟨L,es⟩:=Gd a6 c8 l o;replace L:=f.heap (d.bP L) (show ¬B=Q by omega);obtain⟨M,et⟩:=Gd c5 (aw.off (b:=C) (by omega)) l o;replace M:=f.heap (d.bP M) (show ¬C=Q by omega);replace a:=a.op (by have:=h2.hm.tb.lt;exact this) l o;replace a:=a.bR (X:=λq=>q=Q) (d.gr.trans f) (λq e=>.inl (.inr (by omega)));have b0:=XaU h6.hm;rw[Xak.1,show((Za aw23x6.st.rm.pl:Nat):Int)*Av.size=0 from Xak.2.1] at b0;refine aP aA (b0) ?_;rintro _ wg ⟨fg,rfl,cd,c⟩;have hg:=h6.bQ c;refine aN aA (bI aA (bB (c.bP I) aA (bI aA (bB (c.bP I) aA (bI aA (bB (c.bP J) aA (bI aA (bB (c.bP J) aA (bI aA (bB (c.bP K) aA ?_))))))))));obtain⟨rz,cz,ez,cf,_⟩:=a;cases ez
 refine Xa.bstrN Xb ([104,105,0]) rfl rfl ((cf.bR c)) rfl (Xa.streq Xb rfl (rfl) rfl (bI aA (bB (c.bP K) aA (bI aA (Xa.fcmp Xb rfl (v:=true) rfl rfl (bI aA (bB (c.bP L) aA (bI aA (bB (c.bP L) aA (bI aA (bB (c.bP M) aA (bI aA (bB (c.bP M) aA (bI aA (bB (c.bP cb) aA (bI aA (Xa.fcmp Xb rfl ((XkW cd).2) rfl (bI aA ?_))))))))))))))))));have b7:=Xeu hg.hm;rw[Xak.2.2] at b7;exact bH b7 aA (bE func6 aA ⟨rfl,a9.trans hg.hm.lv.bR⟩)
structure Gr where
 kind:Int
 h:Int
 a:Int
 b:Int
 bs:List Int
 ba:Option Addr
 bc:Nat
def Ht(u:Gr):List dE:=[.int .i64 u.kind,.int .i64 u.h,.int .i64 u.a,.int .i64 u.b,.slice u.ba u.bs.length u.bc]
structure Jp(w:dD)(u:Gr):Prop where
 kind : -9223372036854775808<=u.kind/\u.kind<=9223372036854775807
 h : -9223372036854775808<=u.h/\u.h<=9223372036854775807
 a : -9223372036854775808<=u.a/\u.a<=9223372036854775807
 b : -9223372036854775808<=u.b/\u.b<=9223372036854775807
 rd:Rd .u8 w u.ba u.bs
 rng:Qh u.bs
 lc:u.bs.length<=u.bc
 len:u.bc<=9223372036854775807
theorem Jp.bQ{u:Gr}(h:Jp w u)(hc:Xc Xf w w'):Jp w' u:=⟨h.kind,h.h,h.a,h.b,h.rd.bR hc,h.rng,h.lc,h.len⟩
def Yc(c:Conf)(x:HpM)(u:Gr):HpM:=
 if u.kind=1 then B5 c x u.a else if u.kind=2 then Cf c x u.h else if u.kind=3 then Gb c x u.h u.a u.b else if u.kind=4 then Gc c x u.h u.a u.bs
 else if u.kind=5 then Ho c x u.h u.a else if u.kind=6 then Li c x else Jw x u.a u.b
def Qr(c:Conf)(x:HpM)(u:Gr):Int:=
 if u.kind=1 then C2 c x u.a else if u.kind=2 then X5 x.tb u.h else if u.kind=3 then D1 x u.h u.a u.b else if u.kind=4 then D1 x u.h u.a u.bs.length
 else if u.kind=5 then Lh c x u.h u.a else if u.kind=6 then 0 else Ca x.st u.a u.b
def Qs(c:Conf)(x:HpM)(u:Gr):Int:=if u.kind=1 then Ei c x u.a else 0
def Z9(c:Conf)(x:HpM)(u:Gr):List Int:=if u.kind=3 then Km c x u.h u.a u.b else []
def Qt(c:Conf)(x:HpM)(u:Gr):Int:=
 if u.kind=1 then Ej c x u.a else if u.kind=2 then (if X5 x.tb u.h=0 then 2 else 0)+(1+((Yc c x u).st.rm.tot-x.st.rm.tot))
 else if u.kind=3\/u.kind=4\/u.kind=5 then 0+(1+((Yc c x u).st.rm.tot-x.st.rm.tot)) else (Yc c x u).st.rm.tot-x.st.rm.tot
section
variable {c:Conf}{s s':StM}{pd:Option (Nat×PlcM)}
end
section
variable {c:Conf}{s:StM}{pd:Option (Nat×PlcM)}
end
section
variable {c:Conf}{s:StM}{pd:Option (Nat×PlcM)}
variable {own:List (List Int)}
end
section
variable {c:Conf}{s:StM}{pd:Option (Nat×PlcM)}
end
section
variable {base t size m:Nat}{w:dD}{v v' u u':dE}{xs ys:List dE}
theorem apR(h0:∀b,some b=v.ownBlock->some b≠u.ownBlock)(h:u'.ownBlock=u.ownBlock\/u'.ownBlock=some w.heap.size)(ho:Xl base t size w v m xs):∀b,some b=v.ownBlock->some b≠u'.ownBlock:=λb a e=>by
 rcases h with h|h
 .exact h0 b a (e.trans h)
 .rw[h] at e;have e1:=Option.some.inj e;have:=(World.ownsRow.lt ho b a.symm).2;omega
theorem apL(h0:∀b,some b=v.ownBlock->some b≠u.ownBlock)(h:v'.ownBlock=v.ownBlock\/v'.ownBlock=some w.heap.size)(ho:Xl base t size w u m ys):∀b,some b=v'.ownBlock->some b≠u.ownBlock:=λb a e=>by
 rcases h with h|h
 .exact h0 b (a.trans h) e
 .rw[h] at a;have e1:=Option.some.inj a;have:=(World.ownsRow.lt ho b e.symm).2;omega
end
theorem Xbj{base t size m m':Nat}{w:dD}{v:dE}{xs ys:List dE}(h:Xl base t size w v m xs)(e1:m=m')(e2:xs=ys):Xl base t size w v m' ys:=by rw[<-e1,<-e2];exact h
structure W0(base:Nat)(w:dD)(i:Nat)(vg vl vf:dE):Prop where
 g:Xl base 3 1 w vg i (List.replicate i (.int .i64 1))
 l:Xl base 4 1 w vl i (List.replicate i (.bool false))
 f:Xl base 3 1 w vf i ((List.range i).map λn:Nat=>.int .i64 (n:Int))
 gl:∀b,some b=vg.ownBlock->some b≠vl.ownBlock
 gf:∀b,some b=vg.ownBlock->some b≠vf.ownBlock
 lf:∀b,some b=vl.ownBlock->some b≠vf.ownBlock
theorem XlF(N:Nat)(cH:Int)(w:dD)(hN:1<=N/\N<=4096)(hg:1<=cH/\cH<=1023):Xe prog 77 #[.int .i64 N,.int .i64 cH] w
 (λv w'=>∃vg vl vf,v=.tuple #[.agg #[vg,vl,vf,.int .i64 cH],.int .i64 0]/\W0 w.heap.size w' N vg vl vf/\(∃a n c,vg=.slice a n c)/\(∃a n c,vl=.slice a n c)/\(∃a n c,vf=.slice a n c)/\Xc Xf w w'):=by
 have au:maxLen=9223372036854775807:=rfl;refine aR func77 ntmps77 aA (bC aA λqb w1 e1 ab B av=>aO aA (bC aA λtb r e2 ac J aw=>bF ac aA λax a6 ad ay=>?_));have a7:=B.trans J;refine aS aA (aS aA (aS aA (aS aA ?_)));refine Xa.loop (α:=Nat×dE×dE×dE) (λp=>[(0,false,.int .i64 N),(4,false,.pointer (some ⟨qb,0,none⟩)),(6,false,.pointer (some ⟨tb,0,none⟩)),(7,false,.int .i64 p.1)])
  (λp w'=>p.1<=N/\w'.heap[tb]?=some (.cells ([p.2.1,p.2.2.1,p.2.2.2,.int .i64 cH]:List dE).toArray 45 (0,0))/\W0 r.heap.size w' p.1 p.2.1 p.2.2.1 p.2.2.2/\Xc (λz=>z=tb) r w')
  (λp=>N-p.1) (0,.slice none 0 0,.slice none 0 0,.slice none 0 0) ⟨rfl,rfl,rfl,rfl,trivial⟩ ⟨XP _,a6,⟨World.ownsRow_nil _ _ _ _,World.ownsRow_nil _ _ _ _,World.ownsRow_nil _ _ _ _,(λb h=>by cases h),(λb h=>by cases h),(λb h=>by cases h)⟩,ad⟩ ?_
 rintro⟨i,vg,vl,vf⟩ w3 ⟨hi,f,⟨og,ol,of',gl,gf,lf⟩,s⟩ ih;simp only at hi f og ol of' gl gf lf
 have ao:=s.size;refine aN aA (aT aA (λhc=>?_) λhc=>?_)
 .have ae:i<N:=by have:=bL hc;omega
  refine bB f aA (Xa.buildSlice Xb rfl λb4 w4 e4 ag j ah=>aN aA ?_);have C:=og.bR j (λ_ _ h=>h);have K:=ol.bR j (λ_ _ h=>h);have L:=of'.bR j (λ_ _ h=>h);refine Xa.append (base:=r.heap.size) (xs:=List.replicate i (.int .i64 1)) (news:=[.int .i64 1]) Xb rfl C (by omega) (by simp) (Gs ag) (by simp[Value.oneCell']) (by simp only;omega) ?_;intro vg' w5 D k M;obtain⟨ga,gn,gc,rfl⟩:=Xl.isSlice D;have az:=k.size;have O:=K.bR k (λb d e=>gl b e d);have P:=L.bR k (λb d e=>gf b e d);have Q:=apL gl M.2 K;have R:=apL gf M.2 L;refine aN aA (bF (k.heap (j.bP f) (λe=>by have:=(World.ownsRow.lt C tb (Eq.symm e)).1;omega)) aA λw6 E u b0=>?_);refine bB E aA (Xa.buildSlice Xb rfl λb7 w7 e7 ai l b1=>aN aA ?_);have S:=(D.bR u (λb d e=>by have:=(World.ownsRow.lt D b d.symm).1;omega)).bR l (λ_ _ h=>h);have F:=(O.bR u (λb d e=>by have:=(World.ownsRow.lt O b d.symm).1;omega)).bR l (λ_ _ h=>h);have T:=(P.bR u (λb d e=>by have:=(World.ownsRow.lt P b d.symm).1;omega)).bR l (λ_ _ h=>h);refine Xa.append (base:=r.heap.size) (xs:=List.replicate i (.bool false)) (news:=[.bool false]) Xb rfl F (by omega) (by simp) (Gs ai) (by simp[Value.oneCell']) (by simp only;omega) ?_;intro vl' w8 G o U;obtain⟨la,ln,lc,rfl⟩:=Xl.isSlice G;have b2:=o.size;have V:=S.bR o (λb d e=>Q b d e);have W:=T.bR o (λb d e=>lf b e d);have a0:=apL lf U.2 T;refine aN aA (bF (o.heap (l.bP E) (λe=>by have:=(World.ownsRow.lt F tb (Eq.symm e)).1;omega)) aA λw9 H x b3=>?_);refine bB H aA (Xa.buildSlice Xb rfl λba wa ea aj q b5=>aN aA ?_);have oga:=(V.bR x (λb d e=>by have:=(World.ownsRow.lt V b d.symm).1;omega)).bR q (λ_ _ h=>h);have ola:=(G.bR x (λb d e=>by have:=(World.ownsRow.lt G b d.symm).1;omega)).bR q (λ_ _ h=>h);have ofa:=(W.bR x (λb d e=>by have:=(World.ownsRow.lt W b d.symm).1;omega)).bR q (λ_ _ h=>h);refine Xa.append (base:=r.heap.size) (xs:=(List.range i).map λn:Nat=>.int .i64 (n:Int)) (news:=[.int .i64 (i:Int)]) Xb rfl ofa (by omega) (by simp) (Gs aj) (by simp[Value.oneCell']) (by simp only;omega) ?_;intro vf' wb ofb y a4;obtain⟨fa,fn,fc,rfl⟩:=Xl.isSlice ofb;have ogb:=oga.bR y (λb d e=>R b d e);have olb:=ola.bR y (λb d e=>a0 b d e);refine aN aA (bF (y.heap (q.bP H) (λe=>by have:=(World.ownsRow.lt ofa tb (Eq.symm e)).1;omega)) aA λwc a9 A b6=>?_);have hS:Xc (λz=>z=tb) r wc:=by
   exact((((((((s.trans j.gr).bU k (λz I e=>by have:=(World.ownsRow.lt C z (Eq.symm e)).1;omega)).trans u).trans l.gr).bU o (λz I e=>by have:=(World.ownsRow.lt F z (Eq.symm e)).1;omega)).trans x).trans q.gr).bU y (λz I e=>by have:=(World.ownsRow.lt ofa z (Eq.symm e)).1;omega)).trans A
  exact aV aA (ih (i+1,.slice ga gn gc,.slice la ln lc,.slice fa fn fc) _ _ ⟨ae,a9,⟨Xbj (ogb.bR A (λb d e=>by have:=(World.ownsRow.lt ogb b d.symm).1;omega)) rfl (List.replicate_succ' ..).symm,Xbj (olb.bR A (λb d e=>by have:=(World.ownsRow.lt olb b d.symm).1;omega)) rfl (List.replicate_succ' ..).symm,Xbj (ofb.bR A (λb d e=>by have:=(World.ownsRow.lt ofb b d.symm).1;omega)) rfl (by rw[QC,XL];rfl),(apR Q U.2 S),(apR R a4.2 oga),(apR a0 a4.2 ola)⟩,hS⟩ (by simp only;omega) ⟨rfl,rfl,rfl,rfl,trivial⟩)
 .have ak:i=N:=by have:=bM hc;omega
  subst ak;obtain⟨ga,gn,gc,rfl⟩:=Xl.isSlice og;obtain⟨la,ln,lc,rfl⟩:=Xl.isSlice ol;obtain⟨fa,fn,fc,rfl⟩:=Xl.isSlice of';refine bB f aA ?_;refine bF (s.heap (J.bP ab) (show ¬qb=tb by omega)) aA λw4 aa a5 ah=>?_;have fr:∀{t size m:Nat} {v:dE} {xs:List dE},Xl r.heap.size t size w3 v m xs->Xl w.heap.size t size w4 v m xs:=λ{t size m v xs} h=>by
   have h4:=h.bR a5 (λb d e=>by have:=(World.ownsRow.lt h b d.symm).1;omega);exact⟨h4.1,h4.2.imp id λ⟨g,cap,cur,a1,a2,a3⟩=>⟨g,cap,cur,a1,by omega,a3⟩⟩
  exact aK func77 aa aA ⟨_,_,_,rfl,⟨fr og,fr ol,fr of',gl,gf,lf⟩,⟨_,_,_,rfl⟩,⟨_,_,_,rfl⟩,⟨_,_,_,rfl⟩,(a7.bU s (λz I e=>by have:=B.size;omega)).bU a5 (λz I e=>by have:=B.size;omega)⟩
theorem XcZ:∀n,Y4 [.int .i64 0,.int .i64 0,.int .i64 0,.int .i64 0,.slice none 0 0] n=fl Dx (List.replicate n Ns)
 |0=>rfl
 |n+1=>by rw[Y4,XcZ n,YF];rfl
theorem Xc0:∀n,Y4 (Cx K7) n=fl Cx (List.replicate n K7)
 |0=>rfl
 |n+1=>by rw[Y4,Xc0 n,YF];rfl
theorem Xme(c:Conf)(p:Y8)(w:dD)(hc:Yw w c p)(hm:Zb c=true)(hp:c.bS<=512):Xe prog 76 #[.agg (Zj c p).toArray] w
 (λv w'=>∃r,v=.tuple #[.agg (Zx r).toArray,.int .i64 0]/\r.c=c/\r.cp=p/\X9 w' r (Eo c)/\(∀S:Nat->Prop,(∀z,S z->z<w.heap.size)->Xj S p.ka->Bm S r)/\Xc Xf w w'):=by
 have a0:=Z4 hm;have am:N5 c.bS c.size=true:=by
  obtain⟨m1,m2,m3⟩:=D3 hm;exact Td.2 (by omega)
 have b6:0<c.bS*c.size:=Int.mul_pos (by have:=a0.bS;omega) (by have:=a0.size;omega);have em:Bu c=0:=by unfold Bu;rw[bK hm]
 have hf:=Z4 hm;have b7:=hf.n;obtain⟨N,hN⟩:=XE (show 0<=c.cN by
  have:=hm;unfold Zb at this;simp only[XJ,decide_eq_true_eq,Qx] at this;omega)
 have b8:c.cN<=4096:=by
  have:=hm;unfold Zb at this;simp only[XJ,decide_eq_true_eq,Qx] at this;omega
 refine aR func76 ntmps76 aA (bC aA λb w1 e1 hb a1 b9=>bC aA λqb w2 e2 an F ba=>?_);have a2:=F.bP hb;refine bB a2 aA (bG (XbE c p w2 (hc.bR (a1.trans F))) aA λw3 A=>?_);rw[em];have G:=A.bP a2;have H:=A.bP an;have I:=(a1.trans F).trans A;refine aS aA (bB G aA (bB G aA (aP aA (Xlw c.bS c.size w3 am) ?_)));rintro _ w4 ⟨ab,rfl,bb,K,a3⟩;refine aN aA ?_;obtain⟨D,k⟩:∃D:RA,D=⟨some ⟨ab,0,none⟩,(c.bS*c.size).toNat,X6 (c.bS*c.size).toNat,0⟩:=⟨_,rfl⟩;rw[<-k] at K⊢;refine bC aA λt4 w5 e5 ao a4 bc=>bF ao aA λw6 aa a5 bd=>?_;have ac:=aa;have f:=(a3.trans a4).bU a5 (λz d e=>by have:=a3.size;omega);have a6:=f.bP G;have L:=f.bP H;refine bB a6 aA (aP aA (Xl4 c p w6 (hc.bR (I.trans f)) hm hp) ?_);rintro _ w7 ⟨r2,rfl,k1,k2,k3,k4,M⟩;refine aN aA (bC aA λt6 w8 e8 aq a7 be=>bF aq aA λw9 af a8 bf=>?_);have g:=(M.trans a7).bU a8 (λz d e=>by have:=M.size;omega);have B:=g.bP a6;have ag:=g.bP ac;apply Xa.cut (α:=Nat×Nat) (λx=>[(2,false,.pointer (some ⟨qb,0,none⟩)),(25,false,.agg (Zj {c with cN:=(N:Int)} p).toArray),(27,false,.slice p.ka c.bV.length p.kc),(28,false,.agg (G7 D).toArray),(29,false,.agg (A6 r2).toArray),(32,false,.slice (some ⟨x.1,0,none⟩) N N),(36,false,.slice (some ⟨x.2,0,none⟩) c.bT.length c.bT.length)]) (λx w'=>w'.heap[x.1]?=some (.cells (fl Dx (List.replicate N Ns)).toArray 85 (0,0))/\w'.heap[x.2]?=some (.cells (fl Cx (List.replicate c.bT.length K7)).toArray 142 (0,0))/\Xc Xf w9 w'/\w9.heap.size<=x.1/\w9.heap.size<=x.2)
 .intro J;refine aQ 12 Xf (by kernel_rfl) aA λa=>aE a B aA (aE a B aA (aE a ag aA (aE a af aA (aE a B aA (aE a B aA ?_)))));rw[hN];refine Xd.turn2 a rfl ?_ ?_
  .intro wa ka;refine Xo.make Xb a rfl rfl rfl (XF _) (show 56*N<=140737488355328 by omega) (by omega) (λ_=>rfl) λtb wb etb O P ar=>Xd.cK a rfl λwc h=>Xo.make Xb a rfl rfl rfl (XF _) (show 112*c.bT.length<=140737488355328 by omega) (by omega) (λ_=>rfl) λvb wd evb Q q au=>aF a aA λwe i=>?_;have za:=ka.size;have zc:=h.size;exact J (tb,vb) _ _ ⟨by rw[<-XcZ];exact((h.trans q).trans i).bP O,by rw[<-Xc0];exact i.bP Q,(((ka.trans P).trans h).trans q).trans i,by omega,by omega⟩ ⟨rfl,rfl,rfl,rfl,rfl,rfl,rfl,trivial⟩
  .intro wa ka;refine Xo.make Xb a rfl rfl rfl (XF _) (show 112*c.bT.length<=140737488355328 by omega) (by omega) (λ_=>rfl) λvb wb evb Q P ar=>Xd.cK a rfl λwc h=>Xo.make Xb a rfl rfl rfl (XF _) (show 56*N<=140737488355328 by omega) (by omega) (λ_=>rfl) λtb wd etb O q au=>aF a aA λwe i=>?_;have za:=ka.size;have zc:=h.size;exact J (tb,vb) _ _ ⟨by rw[<-XcZ];exact i.bP O,by rw[<-Xc0];exact((h.trans q).trans i).bP Q,(((ka.trans P).trans h).trans q).trans i,by omega,by omega⟩ ⟨rfl,rfl,rfl,rfl,rfl,rfl,rfl,trivial⟩
 .rintro⟨tb,vb⟩ we ⟨R,T,l,ztb,zvb⟩;simp only at R T ztb zvb
  have bg:=f.size;have bh:=A.size;obtain⟨E,u⟩:∃E:SR,E=⟨c,p,c.bV,p.ka,p.kc,D,r2,List.replicate N Ns,some ⟨tb,0,none⟩,N,List.replicate c.bT.length K7,some ⟨vb,0,none⟩,c.bT.length⟩:=⟨_,rfl⟩;have ah:=((I.trans f).trans g).trans l;have ai:=(g.trans l).bP L;refine aO aA (bF ai aA λwz C j bi=>?_);replace C:Zh wz qb E:=by
   have e1:(List.replicate N Ns).length=N:=XI;have e2:(List.replicate c.bT.length K7).length=c.bT.length:=XI;rw[u];unfold Zh Zx;simp only[e1,e2];rw[<-hN] at C;exact C
  have m:=ah.sn j;have bj:=M.size;have av:Qd wz r2 (Ig c 0):=by
   have U:=(k3.bQ ((a7.sn a8).trans l));exact U.bW (k4 _ (λz e=>by have:=Xg L;omega)) j
  have n:=((K.bQ (a4.sn a5)).bQ g).bQ l;have aw:Xj (λz=>z=qb) D.a:=by rw[k];intro b' off s e d;cases e;have:=Xg H;omega
  have V:Yh wz D:=⟨n.rd.bW aw j,n.len,n.lc,n.rng⟩;have bk:=hf.bV;have aj:Yr w p.ka:=λb' off s e=>hc.bV.block (by omega) e;have ax:X9 wz E (Eo c):=by
   rw[u];exact {
    cO:=hc.bR m
    kr:=(hc.bR m).bV
    ke:=rfl
    ra:=V
    rb:=by rw[k];show X6 _=X6 _;rw[YP]
    rs:=by rw[k];rfl
    la:=λb' off s e=>V.rd.block (by rw[k];show 0<(X6 _).length;rw[Gp];omega) e
    lk:=aj.bQ m.size
    rr:=av
    rc:=k1
    rp:=k2
    tr:=Pk (rest:=[]) (by rw[QD];exact j.heap R (by omega)) Sr
    tl:=by intro b' off s e;cases e;exact Xg (j.heap R (by omega))
    tc:=by rw[XI];exact XF _
    tn:=by show(List.replicate N Ns).length=(List.replicate c.cN.toNat none).length;rw[XI,XI,hN];rfl
    te:=λo x t U h2=>by
     have e1:=(ZE ..).symm.trans U;have e2:=(ZE ..).symm.trans h2;split at e1 <;> split at e2 <;> first|(cases e1;done)|(cases e2;done)|(cases e1;cases e2;exact⟨rfl,λy e=>by cases e⟩)
    tq:=λt ht=>by rw[YA ht];exact⟨J2 _ _ _,λ_ _ _ e=>by cases e⟩
    mr:=Pk (rest:=[]) (by rw[QD];exact j.heap T (by omega)) Ss
    ml:=by intro b' off s e;cases e;exact Xg (j.heap T (by omega))
    mc:=by rw[XI];exact XF _
    mn:=by show(List.replicate _ K7).length=(List.replicate _ none).length;rw[XI,XI]
    me:=λo x t U h2=>by
     have e1:=(ZE ..).symm.trans U;have e2:=(ZE ..).symm.trans h2;split at e1 <;> split at e2 <;> first|(cases e1;done)|(cases e2;done)|(cases e1;cases e2;exact⟨rfl,λy e=>by cases e⟩)}
  have al:∀S:Nat->Prop,(∀z,S z->z<w.heap.size)->Xj S p.ka->Bm S E:=λS W hk=>by
   rw[u];refine⟨hk,?_,k4 S (λz d=>by have:=W z d;omega),?_,λt ht=>?_,?_⟩
   .rw[k];intro b' off s e d;cases e;have:=W _ d;omega
   .intro b' off s e d;cases e;have:=W _ d;omega
   .rw[YA ht];intro b' off s e;cases e
   .intro b' off s e d;cases e;have:=W _ d;omega
  exact aK func76 C aA ⟨E,rfl,by rw[u],by rw[u],ax,al,m⟩
theorem Xmn(a:Option Addr)(cap:Nat)(xs:List Gr)(w:dD)(hr:Rows Ht 5 w a xs)(hl:xs.length<=9223372036854775807):Xe prog 8 #[.slice a xs.length cap] w (λv w'=>∃b,v=.bool b/\(b=true->xs.length<=20/\∀x∈xs,x.bs.length<=100/\1<=x.kind/\x.kind<=7)/\w=w'):=by
 refine aR func8 ntmps8 aA ?_;refine Xa.loop (α:=Nat) (λk=>[(0,false,.slice a xs.length cap),(3,false,.int .i64 k)])
  (λk w'=>w'=w/\k<=xs.length/\k<=21/\∀j (h:j<xs.length),j<k->xs[j].bs.length<=100/\1<=xs[j].kind/\xs[j].kind<=7) (λk=>21-k) 0 ⟨rfl,rfl,trivial⟩ ⟨rfl,XP _,by omega,λ_ _ h=>by omega⟩ ?_
 rintro k y ⟨q,z,r,d⟩ ih;subst q;have f:¬(k<xs.length/\k<21)->xs.length<=20 -> ∀x∈xs,x.bs.length<=100/\1<=x.kind/\x.kind<=7:=λg i x s=>by
  obtain⟨j,l,rfl⟩:=QT s;exact d j l (by omega)
 refine aN aA (aT aA (λg=>?_) λg=>?_)
 .refine aT aA (λi=>?_) λi=>?_
  .have m:k<xs.length:=by have:=bL g;omega
   have t:k<21:=by have:=bL i;omega
   obtain⟨b,off,rfl,c⟩:=hr.at m;refine aU (k*5) aA (aW aA (c 4 _ rfl) aA (aT aA (λn=>?_) λn=>?_))
   .exact bE func8 aA ⟨false,rfl,(λh=>Bool.noConfusion h),rfl⟩
   .have A:=bM n;refine aU (k*5) aA (aW aA (c 0 _ rfl) aA (aT aA (λo=>?_) λo=>?_))
    .exact bE func8 aA ⟨false,rfl,(λh=>Bool.noConfusion h),rfl⟩
    have B:=bM o;refine aU (k*5) aA (aW aA (c 0 _ rfl) aA (aT aA (λp=>?_) λp=>?_))
    .exact bE func8 aA ⟨false,rfl,(λh=>Bool.noConfusion h),rfl⟩
    have C:=bM p;refine aV aA ?_;exact ih (k+1) _ _ ⟨rfl,by omega,by omega,λj l u=>by
     by_cases e:j=k
     .subst e;omega
     .exact d j l (by omega)⟩ (by omega) ⟨rfl,rfl,trivial⟩
  .have t:=bM i;exact bE func8 aA ⟨_,rfl,λh=>by have:=bL h;exact⟨by omega,f (by omega) (by omega)⟩,rfl⟩
 .have m:=bM g;exact bE func8 aA ⟨_,rfl,λh=>by have:=bL h;exact⟨by omega,f (by omega) (by omega)⟩,rfl⟩
theorem XjQ{n0:Nat}{S:Sto}{H:Nat}{x:HpM}(h:Hv c n0 w0 w F S H P x)(u:Gr)(hu:Jp w u)(hk:1<=u.kind/\u.kind<=7)(hout:0<u.bs.length->Xj F u.ba):Xe prog 11 #[Cg H,.agg (Ht u).toArray] w
 (K9 c n0 w0 w F H P (Yc c x u) (Qr c x u) (Qs c x u) (Qt c x u) (Z9 c x u)):=by
 refine aR func11 ntmps11 aA (bC aA λub w1 e1 T U V=>?_);refine bC aA λrb K e2 i R W=>?_;have s:=U.trans R;have L:=h.bQ s;have m:=R.bP T;have D:=s.size;have a:=h.off (b:=rb) (by omega);refine bB m aA ?_;by_cases l:u.kind=1
 .have eX:Yc c x u=B5 c x u.a:=by unfold Yc;rw[bK l]
  have eE:Qr c x u=C2 c x u.a:=by unfold Qr;rw[bK l]
  have eG:Qs c x u=Ei c x u.a:=by unfold Qs;rw[bK l]
  have eK:Qt c x u=Ej c x u.a:=by unfold Qt;rw[bK l]
  have eB:Z9 c x u=[]:=by unfold Z9;rw[bJ (by omega)]
  refine bI aA (bB m aA ?_);rw[eE,eG,eK,eX,eB];refine aP aA (XaT L u.a) ?_;rintro _ N ⟨bv,g,A,rfl,t,B,j,k⟩;refine aN aA ?_;obtain⟨ra,rc,rfl,v,n⟩:=t;have d:=k.heap i a;have o:∀q,g q->F q\/w.heap.size<=q:=λq y=>(j q y).imp id (by omega);have p:¬g rb:=λe=>by
   rcases j rb e with e|e
   .exact a (.inl e)
   .have:=Xg i;omega
  have E:=h.hm.since0;have G:=Xg h.hm.obj;exact bF d aA λO r f I=>aK func11 r aA ⟨_,g,A,rfl,(((show Yb K.heap.size g _ (.slice ra _ rc) _ from⟨ra,rc,rfl,v,n⟩).bR f (λq e=>.inl (.inl (by have:=Xg i;omega)))).low D (λ_ _ _ h=>h)),(B.boxed p (by omega) ⟨λe=>a (.inr e),by omega⟩ (X0 d) (by decide) f),o,(s.gr.trans k).sn f⟩
 by_cases z:u.kind=2
 .have eX:Yc c x u=Cf c x u.h:=by unfold Yc;rw[bJ l,bK z]
  have eE:Qr c x u=X5 x.tb u.h:=by unfold Qr;rw[bJ l,bK z]
  have eG:Qs c x u=0:=by unfold Qs;rw[bJ l]
  have eK:Qt c x u=(if X5 x.tb u.h=0 then 2 else 0)+(1+((Cf c x u.h).st.rm.tot-x.st.rm.tot)):=by unfold Qt;rw[bJ l,bK z,eX]
  have eB:Z9 c x u=[]:=by unfold Z9;rw[bJ (by omega)]
  refine aS aA (bI aA (bB m aA ?_));rw[eE,eG,eK,eX,eB];refine aP aA (XaV L u.h hu.h) ?_;rintro _ N ⟨bv,g,A,rfl,t,B,j,k⟩;refine aN aA ?_;obtain⟨ra,rc,rfl,v,n⟩:=t;have d:=k.heap i a;have o:∀q,g q->F q\/w.heap.size<=q:=λq y=>(j q y).imp id (by omega);have p:¬g rb:=λe=>by
   rcases j rb e with e|e
   .exact a (.inl e)
   .have:=Xg i;omega
  have E:=h.hm.since0;have G:=Xg h.hm.obj;exact bF d aA λO r f I=>aK func11 r aA ⟨_,g,A,rfl,(((show Yb K.heap.size g _ (.slice ra _ rc) _ from⟨ra,rc,rfl,v,n⟩).bR f (λq e=>.inl (.inl (by have:=Xg i;omega)))).low D (λ_ _ _ h=>h)),(B.boxed p (by omega) ⟨λe=>a (.inr e),by omega⟩ (X0 d) (by decide) f),o,(s.gr.trans k).sn f⟩
 by_cases C:u.kind=3
 .have eX:Yc c x u=Gb c x u.h u.a u.b:=by unfold Yc;rw[bJ l,bJ z,bK C]
  have eE:Qr c x u=D1 x u.h u.a u.b:=by unfold Qr;rw[bJ l,bJ z,bK C]
  have eG:Qs c x u=0:=by unfold Qs;rw[bJ l]
  have eK:Qt c x u=0+(1+((Gb c x u.h u.a u.b).st.rm.tot-x.st.rm.tot)):=by unfold Qt;rw[bJ l,bJ z,bK (.inl C),eX]
  have eB:Z9 c x u=Km c x u.h u.a u.b:=by unfold Z9;rw[bK C]
  refine aS aA (aS aA (bI aA (bB m aA (bB m aA (bB m aA ?_)))));rw[eE,eG,eK,eX,eB];refine aP aA (Xew L u.h u.a u.b hu.h hu.a hu.b) ?_;rintro _ N ⟨bv,g,A,rfl,t,B,j,k⟩;refine aN aA ?_;obtain⟨ra,rc,rfl,v,n⟩:=t;have d:=k.heap i a;have o:∀q,g q->F q\/w.heap.size<=q:=λq y=>(j q y).imp id (by omega);have p:¬g rb:=λe=>by
   rcases j rb e with e|e
   .exact a (.inl e)
   .have:=Xg i;omega
  have E:=h.hm.since0;have G:=Xg h.hm.obj;exact bF d aA λO r f I=>aK func11 r aA ⟨_,g,A,rfl,(((show Yb K.heap.size g _ (.slice ra _ rc) _ from⟨ra,rc,rfl,v,n⟩).bR f (λq e=>.inl (.inl (by have:=Xg i;omega)))).low D (λ_ _ _ h=>h)),(B.boxed p (by omega) ⟨λe=>a (.inr e),by omega⟩ (X0 d) (by decide) f),o,(s.gr.trans k).sn f⟩
 by_cases J:u.kind=4
 .have eX:Yc c x u=Gc c x u.h u.a u.bs:=by unfold Yc;rw[bJ l,bJ z,bJ C,bK J]
  have eE:Qr c x u=D1 x u.h u.a u.bs.length:=by unfold Qr;rw[bJ l,bJ z,bJ C,bK J]
  have eG:Qs c x u=0:=by unfold Qs;rw[bJ l]
  have eK:Qt c x u=0+(1+((Gc c x u.h u.a u.bs).st.rm.tot-x.st.rm.tot)):=by unfold Qt;rw[bJ l,bJ z,bK (.inr (.inl J)),eX]
  have eB:Z9 c x u=[]:=by unfold Z9;rw[bJ (by omega)]
  refine aS aA (aS aA (aS aA (bI aA (bB m aA (bB m aA (bB m aA ?_))))));rw[eE,eG,eK,eX,eB];refine aP aA (Xex L u.h u.a u.ba u.bc u.bs hu.h hu.a (hu.rd.bR s) hu.lc (by have:=hu.lc;have:=hu.len;omega) hu.rng hout) ?_;rintro _ N ⟨bv,g,A,rfl,t,B,j,k⟩;refine aN aA ?_;obtain⟨ra,rc,rfl,v,n⟩:=t;have d:=k.heap i a;have o:∀q,g q->F q\/w.heap.size<=q:=λq y=>(j q y).imp id (by omega);have p:¬g rb:=λe=>by
   rcases j rb e with e|e
   .exact a (.inl e)
   .have:=Xg i;omega
  have E:=h.hm.since0;have G:=Xg h.hm.obj;exact bF d aA λO r f I=>aK func11 r aA ⟨_,g,A,rfl,(((show Yb K.heap.size g _ (.slice ra _ rc) _ from⟨ra,rc,rfl,v,n⟩).bR f (λq e=>.inl (.inl (by have:=Xg i;omega)))).low D (λ_ _ _ h=>h)),(B.boxed p (by omega) ⟨λe=>a (.inr e),by omega⟩ (X0 d) (by decide) f),o,(s.gr.trans k).sn f⟩
 by_cases M:u.kind=5
 .have eX:Yc c x u=Ho c x u.h u.a:=by unfold Yc;rw[bJ l,bJ z,bJ C,bJ J,bK M]
  have eE:Qr c x u=Lh c x u.h u.a:=by unfold Qr;rw[bJ l,bJ z,bJ C,bJ J,bK M]
  have eG:Qs c x u=0:=by unfold Qs;rw[bJ l]
  have eK:Qt c x u=0+(1+((Ho c x u.h u.a).st.rm.tot-x.st.rm.tot)):=by unfold Qt;rw[bJ l,bJ z,bK (.inr (.inr M)),eX]
  have eB:Z9 c x u=[]:=by unfold Z9;rw[bJ (by omega)]
  refine aS aA (aS aA (aS aA (aS aA (bI aA (bB m aA (bB m aA ?_))))));rw[eE,eG,eK,eX,eB];refine aP aA (Xju L u.h u.a hu.h) ?_;rintro _ N ⟨bv,g,A,rfl,t,B,j,k⟩;refine aN aA ?_;obtain⟨ra,rc,rfl,v,n⟩:=t;have d:=k.heap i a;have o:∀q,g q->F q\/w.heap.size<=q:=λq y=>(j q y).imp id (by omega);have p:¬g rb:=λe=>by
   rcases j rb e with e|e
   .exact a (.inl e)
   .have:=Xg i;omega
  have E:=h.hm.since0;have G:=Xg h.hm.obj;exact bF d aA λO r f I=>aK func11 r aA ⟨_,g,A,rfl,(((show Yb K.heap.size g _ (.slice ra _ rc) _ from⟨ra,rc,rfl,v,n⟩).bR f (λq e=>.inl (.inl (by have:=Xg i;omega)))).low D (λ_ _ _ h=>h)),(B.boxed p (by omega) ⟨λe=>a (.inr e),by omega⟩ (X0 d) (by decide) f),o,(s.gr.trans k).sn f⟩
 by_cases Q:u.kind=6
 .have eX:Yc c x u=Li c x:=by unfold Yc;rw[bJ l,bJ z,bJ C,bJ J,bJ M,bK Q]
  have eE:Qr c x u=0:=by unfold Qr;rw[bJ l,bJ z,bJ C,bJ J,bJ M,bK Q]
  have eG:Qs c x u=0:=by unfold Qs;rw[bJ l]
  have eK:Qt c x u=(Li c x).st.rm.tot-x.st.rm.tot:=by unfold Qt;rw[bJ l,bJ z,bJ (by omega),eX]
  have eB:Z9 c x u=[]:=by unfold Z9;rw[bJ (by omega)]
  refine aS aA (aS aA (aS aA (aS aA (aS aA (bI aA ?_)))));rw[eE,eG,eK,eX,eB];refine aP aA (Xjx L) ?_;rintro _ N ⟨bv,g,A,rfl,t,B,j,k⟩;refine aN aA ?_;obtain⟨ra,rc,rfl,v,n⟩:=t;have d:=k.heap i a;have o:∀q,g q->F q\/w.heap.size<=q:=λq y=>(j q y).imp id (by omega);have p:¬g rb:=λe=>by
   rcases j rb e with e|e
   .exact a (.inl e)
   .have:=Xg i;omega
  have E:=h.hm.since0;have G:=Xg h.hm.obj;exact bF d aA λO r f I=>aK func11 r aA ⟨_,g,A,rfl,(((show Yb K.heap.size g _ (.slice ra _ rc) _ from⟨ra,rc,rfl,v,n⟩).bR f (λq e=>.inl (.inl (by have:=Xg i;omega)))).low D (λ_ _ _ h=>h)),(B.boxed p (by omega) ⟨λe=>a (.inr e),by omega⟩ (X0 d) (by decide) f),o,(s.gr.trans k).sn f⟩
 .have eX:Yc c x u=Jw x u.a u.b:=by unfold Yc;rw[bJ l,bJ z,bJ C,bJ J,bJ M,bJ Q]
  have eE:Qr c x u=Ca x.st u.a u.b:=by unfold Qr;rw[bJ l,bJ z,bJ C,bJ J,bJ M,bJ Q]
  have eG:Qs c x u=0:=by unfold Qs;rw[bJ l]
  have eK:Qt c x u=(Jw x u.a u.b).st.rm.tot-x.st.rm.tot:=by unfold Qt;rw[bJ l,bJ z,bJ (by omega),eX]
  have eB:Z9 c x u=[]:=by unfold Z9;rw[bJ (by omega)]
  refine aS aA (aS aA (aS aA (aS aA (aS aA (aS aA (bB m aA (bB m aA ?_)))))));rw[eE,eG,eK,eX,eB];refine aP aA (Xjw L u.a u.b) ?_;rintro _ N ⟨bv,g,A,rfl,t,B,j,k⟩;refine aN aA ?_;obtain⟨ra,rc,rfl,v,n⟩:=t;have d:=k.heap i a;have o:∀q,g q->F q\/w.heap.size<=q:=λq y=>(j q y).imp id (by omega);have p:¬g rb:=λe=>by
   rcases j rb e with e|e
   .exact a (.inl e)
   .have:=Xg i;omega
  have E:=h.hm.since0;have G:=Xg h.hm.obj;exact bF d aA λO r f I=>aK func11 r aA ⟨_,g,A,rfl,(((show Yb K.heap.size g _ (.slice ra _ rc) _ from⟨ra,rc,rfl,v,n⟩).bR f (λq e=>.inl (.inl (by have:=Xg i;omega)))).low D (λ_ _ _ h=>h)),(B.boxed p (by omega) ⟨λe=>a (.inr e),by omega⟩ (X0 d) (by decide) f),o,(s.gr.trans k).sn f⟩
structure BL where
 a:Option Addr
 cap:Nat
 x:List Bool
abbrev Ti(l:BL):dE:=.slice l.a l.x.length l.cap
structure Hf(w:dD)(l:BL):Prop where
 rd:C7 w l.a l.x
 len:l.x.length<=512
 cap:l.x.length<=l.cap
 lt:Yr w l.a
theorem C7.bW{x:List Bool}(h:C7 w a x)(hs:Xj S a)(hc:Xc S w w'):C7 w' a x:=λi c=>by
 obtain⟨b,off,e,d⟩:=h i c;exact⟨b,off,e,hc.cell d (hs _ _ _ e)⟩
theorem C7.atD{x:List Bool}(h:C7 w a x)(hi:i<x.length):∃b off,a=some ⟨b,off,none⟩/\w.cell? ⟨b,off+i,none⟩=some (.bool (x.getD i false)):=by
 obtain⟨b,off,e,c⟩:=h i hi;exact⟨b,off,e,by rw[c,XA,XD hi];rfl⟩
theorem Hf.bW{w w':dD}{l:BL}{S:Nat->Prop}(h:Hf w l)(hs:Xj S l.a)(hc:Xc S w w'):Hf w' l:=⟨h.rd.bW hs hc,h.len,h.cap,h.lt.bQ hc.size⟩
theorem Hf.bQ{l:BL}(h:Hf w l)(hc:Xc Xf w w'):Hf w' l:=h.bW (λ_ _ _ _ h=>h) hc
theorem C7.cellsA{x:List Bool}(h:C7 w a x):∀i u,(x.map Value.bool)[i]?=some u -> ∃a',a=some a'/\w.cell? (a'.add i)=some u:=λi u c=>by
 have d:i<x.length:=by have:=(XC.1 c).1;simpa using this
 obtain⟨b,off,rfl,e⟩:=h i d;refine⟨_,rfl,?_⟩;rw[Cy,e];rw[XO,XD d] at c;exact c
theorem Xk1{x:List Bool}:∀u∈x.map Value.bool,u.oneCell'=true:=by
 intro u a;obtain⟨z,_,rfl⟩:=XQ.1 a;rfl
structure Cm where
 g:IL
 l:BL
 f:IL
 cH:Int
def Cw(r:Cm):List dE:=[Xq r.g,Ti r.l,Xq r.f,.int .i64 r.cH]
structure C9(w:dD)(r:Cm)(t:TbM):Prop where
 g:Q5 w r.g
 l:Hf w r.l
 f:Q5 w r.f
 eg:r.g.x=t.gen
 el:r.l.x=t.dB
 ef:r.f.x=t.fl.map (λn:Nat=>(n:Int))
 em:r.cH=t.cH
theorem C9.bQ{w w':dD}{r:Cm}{t:TbM}(h:C9 w r t)(hc:Xc Xf w w'):C9 w' r t:=⟨h.g.bQ hc,h.l.bQ hc,h.f.bQ hc,h.eg,h.el,h.ef,h.em⟩
def Iv(S:Nat->Prop)(r:Cm):Prop:=Xj S r.g.a/\Xj S r.l.a/\Xj S r.f.a
theorem C9.bW{w w':dD}{r:Cm}{t:TbM}{S:Nat->Prop}(h:C9 w r t)(hs:Iv S r)(hc:Xc S w w'):C9 w' r t:=⟨h.g.bW hs.1 hc,h.l.bW hs.2.1 hc,h.f.bW hs.2.2 hc,h.eg,h.el,h.ef,h.em⟩
theorem C9.out{w:dD}{r:Cm}{t:TbM}{S:Nat->Prop}(h:C9 w r t)(hs:∀z,S z->w.heap.size<=z):Iv S r:=⟨h.g.lt.out hs,h.l.lt.out hs,h.f.lt.out hs⟩
def L6(w:dD)(r r':Cm):Prop:=∀S:Nat->Prop,(∀z,S z->z<w.heap.size)->Iv S r->Iv S r'
theorem Xa9{h:Int}:D8 (Zy h) (Ye h)=true↔4096<=h/\h<4194304:=by
 simp only[D8,XJ,decide_eq_true_eq];unfold Zy Ye;by_cases a:0<=h
 .rw[YT a,Int.tmod_eq_emod_of_nonneg a];omega
 .obtain⟨y,rfl⟩:∃y,h=-y:=⟨-h,by omega⟩;rw[Int.neg_tdiv,YT (by omega)];omega
theorem Xnk{h:Int}(h1:4096<=h/\h<4194304):Zy h=h%4096/\Ye h=h/4096:=by
 unfold Zy Ye;exact⟨Int.tmod_eq_emod_of_nonneg (by omega),YT (by omega)⟩
theorem Xfq{f:α->dE}{x:List α}(h:Xl base t 1 w v m ([]++x.map f))(hm:0<m)(hx:x.length=m):∃g cap rest,v=.slice (some ⟨g,0,none⟩) m cap/\base<=g/\w.heap[g]?=some (.cells (x.map f++rest).toArray t (0,0))/\m<=cap:=by
 obtain⟨g,cap,cur,rfl,b,c,d,i,a⟩:=h.form hm;refine⟨g,cap,cur.toList.drop m,rfl,b,?_,d⟩;have e:=XZ m cur.toList;rw[ZQ,ZT] at a;rw[a] at e;rw[e];exact c
theorem Xgz{f:α->dE}{x:List α}{y:α}(hi:i<x.length):Z2 (x.map f++rest) (0+i) [f y]=some ((x.set i y).map f++rest):=by
 rw[XT,J8 _ _ _ (by simp;omega),YJ _ _ (by simpa using hi),ZY]
theorem XlC(h:Int)(w:dD)(hh : -9223372036854775808<=h/\h<=9223372036854775807):Xe prog 59 #[.int .i64 h] w (X3 (if D8 (Zy h) (Ye h)=true then .tuple #[.int .i64 (Zy h),.int .i64 (Ye h),.int .i64 0] else .tuple #[.int .i64 0,.int .i64 0,.int .i64 7]) w):=by
 refine aR func59 ntmps59 aA ?_;by_cases a:h<4096
 .exact bI aA (bD rfl func59 (.tmp rfl (.tmp rfl (.tmp rfl .nil))) ⟨by rw[bJ (λe=>by have:=Xa9.1 e;omega)];rfl,rfl⟩)
 .refine aS aA ?_;by_cases b:4194304<=h
  .exact bI aA (bD rfl func59 (.tmp rfl (.tmp rfl (.tmp rfl .nil))) ⟨by rw[bJ (λe=>by have:=Xa9.1 e;omega)];rfl,rfl⟩)
  .refine aS aA (Xa.div Xb rfl (by omega) (G8 (by omega)) rfl (Xa.div Xb rfl (by omega) (Gh (by omega) (by omega)) rfl ?_));have hm:=Xnk (h:=h) (by omega);exact bD rfl func59 (.tmp rfl (.tmp rfl (.tmp rfl .nil))) ⟨by rw[bK (Xa9.2 (by omega)),hm.1,hm.2];rfl,rfl⟩
theorem XlB(slot gen:Int)(w:dD)(hs:0<=slot/\slot<=4095)(hg:1<=gen/\gen<=1023):Xe prog 134 #[.int .i64 slot,.int .i64 gen] w (X3 (.tuple #[.int .i64 (4096*gen+slot),.int .i64 0]) w):=by
 exact aR func134 ntmps134 aA (aS aA (aS aA (aS aA (aS aA (aV aA (aV aA (bE func134 aA ⟨rfl,rfl⟩)))))))
theorem XbG{r:Cm}{t:TbM}(h:C9 w r t)(ht:t.Ok cN cS)(k:Int)(hk : -9223372036854775808<=k/\k<=9223372036854775807):Xe prog 21 #[.agg (Cw r).toArray,.int .i64 k] w (Grow (.tuple #[.int .i64 (Ze t k),.int .i64 (X5 t k)]) w):=by
 have v:=ht.n;have s:=ht.nl;refine aR func21 ntmps21 aA (bC aA λb o e1 p a u=>?_);refine bH (XlC k o hk) aA ?_;cases hm:D8 (Zy k) (Ye k) with
 |false=>
  have e:X5 t k=7:=by unfold X5;rw[bK hm]
  have en:Ze t k=0:=by unfold Ze;rw[e];rfl
  exact bI aA (bE func21 aA ⟨by rw[e,en];rfl,a⟩)
 |true=>
  have l:=hm;simp only[D8,XJ,decide_eq_true_eq] at l;refine aS aA (bB p aA ?_);have egl:r.g.x.length=t.gen.length:=by rw[h.eg]
  have ell:r.l.x.length=t.dB.length:=by rw[h.el]
  by_cases x:(r.g.x.length:Int)<=Zy k
  .have e:X5 t k=7:=by unfold X5;rw[bJ (by rw[hm];decide),bK (by omega)]
   have en:Ze t k=0:=by unfold Ze;rw[e];rfl
   exact bI aA (bE func21 aA ⟨by rw[e,en],a⟩)
  .refine aS aA ?_;obtain⟨j,f⟩:=XE l.1.1.1;obtain⟨gb,go,ega,c⟩:=(h.g.bQ a).ok.rd j (by omega);obtain⟨lb,lo,ela,m⟩:=(h.l.bQ a).rd.atD (i:=j) (by omega);have eg:Cl t (Zy k)=r.g.x.getD j 0:=by rw[f,h.eg];unfold Cl;rw[XB,XA]
   have el:Nn t (Zy k)=r.l.x.getD j false:=by rw[f,h.el];unfold Nn;rw[XB,XA]
   obtain⟨G,eG⟩:∃G,G=r.g.x.getD j 0:=⟨_,rfl⟩;obtain⟨L,eL⟩:∃L,L=r.l.x.getD j false:=⟨_,rfl⟩;rw[<-eG] at c eg;rw[<-eL] at m el;have g:X5 t k=if Ye k<G then 6 else if G<Ye k then 7 else if L=false then 7 else 0:=by
    unfold X5;rw[bJ (by rw[hm];decide),bJ (by omega),eg,el]
   have q:Ze t k=if X5 t k=0 then (j:Int) else 0:=by unfold Ze;rw[f]
   have d:o.heap[b]?=some (.cells ([.slice (some ⟨gb,go,none⟩) r.g.x.length r.g.cap,.slice (some ⟨lb,lo,none⟩) r.l.x.length r.l.cap,Xq r.f,.int .i64 r.cH]:List dE).toArray 45 (0,0)):=by rw[<-ega,<-ela];exact p
   rw[q,f];refine bB d aA (aU j aA (aW aA c aA ?_));by_cases n:G<Ye k
   .exact bI aA (bE func21 aA ⟨by rw[show X5 t k=7 by rw[g,bJ (by omega),bK n]];rfl,a⟩)
   .refine aS aA (bB d aA (aU j aA (aW aA c aA ?_)));by_cases y:G=Ye k
    .refine bI aA (bB d aA (aU j aA (aW aA m aA ?_)));cases L with
     |false=>
      exact bI aA (bE func21 aA ⟨by rw[show X5 t k=7 by rw[g,bJ (by omega),bJ n,bK rfl]];rfl,a⟩)
     |true=>
      exact aS aA (bB d aA (aU j aA (aW aA c aA (aS aA (bE func21 aA ⟨by rw[show X5 t k=0 by rw[g,bJ (by omega),bJ n,bJ (by decide)]];rfl,a⟩)))))
    .exact aS aA (bB d aA (aU j aA (aW aA c aA (bI aA (bE func21 aA ⟨by rw[show X5 t k=6 by rw[g,bK (by omega)]];rfl,a⟩)))))
theorem XlH(r:Cm)(i:Nat)(g:Int)(b:Bool)(w:dD)(h:Q5 w r.g)(hl:Hf w r.l)(hi:i<r.g.x.length)(hi2:i<r.l.x.length):Xe prog 135 #[.agg (Cw r).toArray,.int .i64 i,.int .i64 g,.bool b] w
 (λu w'=>∃g' l',u=.agg (Cw ⟨g',l',r.f,r.cH⟩).toArray/\g'.x=r.g.x.set i g/\l'.x=r.l.x.set i b/\Q5 w' g'/\Hf w' l'/\Bd w g'.a/\Bd w l'.a/\Xc Xf w w'):=by
 have aj:maxLen=9223372036854775807:=rfl;have ak:=h.ok.len;have al:=hl.len;refine aR func135 ntmps135 aA (bC aA λpb w1 e1 c B am=>bC aA λqb R e2 S m an=>?_);replace c:w1.heap[pb]?=some (.cells (Cw r).toArray 45 (0,0)):=c;refine Xa.buildSlice Xb rfl λb3 w3 e3 T n ao=>aN aA ?_;have o:=m.trans n;have G:=B.trans o;refine bB (o.bP c) aA ?_;have U:Xl R.heap.size 3 1 w3 (.slice (some ⟨b3,0,none⟩) 0 0) 0 []:=Xl.empty (by omega) T;refine Xa.appendA (base:=R.heap.size) (xs:=[]) (news:=r.g.x.map (Value.int .i64)) Xb rfl U n.size h.ok.rd.noneA (by simp) (h.ok.rd.bR G).cellsA Jb (by simp only;omega) λv4 w4 V W ap=>aN aA ?_;have d:=U.bU n (XF _) W;obtain⟨gb,H,rest,rfl,aq,a0,ar⟩:=Xfq V (by omega) (by simp);refine aU i aA (aL aA a0 (Xgz (f:=Value.int .i64) (y:=g) hi) aA λx C p au=>?_);have af:=d.size;have q:Xc Xf w x:=((B.trans m).trans d).sn p;have t:=p.heap (d.bP (m.bP c)) (show ¬pb=gb by omega);have I:=p.heap (d.bP S) (show ¬qb=gb by omega);refine Xa.buildSlice Xb rfl λb6 w6 e6 a1 j av=>aN aA (bB (j.bP t) aA ?_);have D:Xl x.heap.size 4 1 w6 (.slice (some ⟨b6,0,none⟩) 0 0) 0 []:=Xl.empty (by omega) a1;refine Xa.appendA (base:=x.heap.size) (xs:=[]) (news:=r.l.x.map Value.bool) Xb rfl D j.size (λe=>by have:=hl.rd 0 (by omega);obtain⟨_,_,e',_⟩:=this;rw[e] at e';cases e') (by simp) (hl.rd.bR (q.trans j)).cellsA Xk1 (by simp only;omega) λv7 w7 a2 a3 aw=>aN aA ?_;have a4:=D.bU j (XF _) a3;obtain⟨lb,J,ab,rfl,ax,a5,ay⟩:=Xfq a2 (by omega) (by simp);refine aU i aA (aL aA a5 (Xgz (f:=Value.bool) (y:=b) hi2) aA λw8 a6 a7 az=>?_);have b0:=Xg C;have a:Xc Xf x w8:=a4.sn a7;have K:=a.bP t;have L:=a.bP I;have a8:=a.bP C;refine bF K aA λw9 M k b1=>bF M aA λwa N l b2=>?_;have O:=l.heap (k.heap L (by omega)) (by omega);have a9:=l.heap (k.heap a8 (by omega)) (by omega);have aa:=l.heap (k.heap a6 (by omega)) (by omega);refine bB N aA (bF O aA λwb P v b4=>?_);have E:=v.heap a9 (by omega);have F:=v.heap aa (by omega);have Q:Xc Xf w wb:=(((q.trans a).sn k).sn l).sn v;have e1:(r.g.x.set i g).length=0+r.g.x.length:=by rw[XG];omega
 have e2:(r.l.x.set i b).length=0+r.l.x.length:=by rw[XG];omega
 exact aK func135 P aA ⟨⟨some ⟨gb,0,none⟩,H,r.g.x.set i g⟩,⟨some ⟨lb,0,none⟩,J,r.l.x.set i b⟩,by show _=Value.agg [Value.slice _ (r.g.x.set i g).length _,Value.slice _ (r.l.x.set i b).length _,_,_].toArray;rw[e1,e2];rfl,rfl,rfl,⟨⟨Rd.of_take E (by simp),by simp only;omega⟩,by simp only;omega,(by intro b off s e;cases e;exact Xg E)⟩,⟨C7.of_take F (by simp),by simp only;omega,by simp only;omega,(by intro b off s e;cases e;exact Xg F)⟩,(by intro b off s e;cases e;omega),(by intro b off s e;cases e;omega),Q⟩
abbrev wtF(x:Cm):dE:=.agg (Cw x).toArray
abbrev Su(w:dD)(r:Cm)(i:Nat)(g:Int)(b:Bool)(x:Cm)(w2:dD):Prop:=x.g.x=r.g.x.set i g/\x.l.x=r.l.x.set i b/\(x.f=r.f/\x.cH=r.cH)/\Q5 w2 x.g/\Hf w2 x.l/\Bd w x.g.a/\Bd w x.l.a
abbrev wtG(x:Cm)(b:Nat):Prop:=Xj (λz=>z=b) x.g.a/\Xj (λz=>z=b) x.l.a
theorem XhH{r:Cm}{g:Int}{b:Bool}:∀x w2 w3,Su w r i g b x w2->Xc Xf w2 w3->Su w r i g b x w3:=λ_ _ _ ⟨a,b,c,d,e,f,g⟩ h=>⟨a,b,c,d.bQ h,e.bQ h,f,g⟩
theorem XfR(r:Cm)(i:Nat)(g:Int)(b:Bool)(h:Q5 w r.g)(hl:Hf w r.l)(hi:i<r.g.x.length)(hi2:i<r.l.x.length):∀w',Xc Xf w w'->Xe prog 135 #[.agg (Cw r).toArray,.int .i64 i,.int .i64 g,.bool b] w'
 (λv w2=>Xc Xf w' w2/\∃x,v=wtF x/\Su w r i g b x w2/\∀z,w.heap.size<=z->(z<w'.heap.size\/w2.heap.size<=z)->wtG x z):=λw' a=>
 (XlH r i g b w' (h.bQ a) (hl.bQ a) hi hi2).mono λv w2 ⟨g',l',e,e1,e2,c,d,fg,fl,j⟩=>by
  have l:=a.size;exact⟨j,⟨g',l',r.f,r.cH⟩,e,⟨e1,e2,⟨rfl,rfl⟩,c,d,(λb off s e=>by have:=fg b off s e;omega),(λb off s e=>by have:=fl b off s e;omega)⟩,λz m k=>⟨λb off s e f=>by have:=fg b off s e;have:=c.lt b off s e;omega,λb off s e f=>by have:=fl b off s e;have:=d.lt b off s e;omega⟩⟩
theorem XmS{x:List Int}{g:Int}(h:x[i]?=some g):x.set i g=x:=by
 refine QF λj=>?_;rw[YE];split
 .rename_i e;subst e
  rw[bK (XC.1 h).1,h]
 .rfl
theorem XlG{r:Cm}{t:TbM}(h:C9 w r t)(ht:t.Ok cN cS)(hne:t.fl≠[]):Xe prog 81 #[.agg (Cw r).toArray] w (λv w'=>∃r',v=.tuple #[.agg (Cw r').toArray,.int .i64 (Ly t),.int .i64 (Dh t),.int .i64 0]/\C9 w' r' (Fc t)/\L6 w r r'/\Xc Xf w w'):=by
 obtain⟨n,fl,ef⟩:=List.exists_cons_of_ne_nil hne;obtain⟨g,q,q2,q3⟩:=ht.fr n (by rw[ef];exact ZO);have al:=ht.gen n g q;have am:=ht.gs;have an:=ht.sl;have hn:=ht.n;have ao:=ht.nl;have ap:=(XC.1 q).1;have egl:r.g.x.length=t.gen.length:=by rw[h.eg]
 have ell:r.l.x.length=t.dB.length:=by rw[h.el]
 have efx:r.f.x=(n:Int)::fl.map (λn:Nat=>(n:Int)):=by rw[h.ef,ef];rfl
 have efl:r.f.x.length=fl.length+1:=by rw[efx];simp
 have aq:=h.f.ok.len;have aa:=h.f.cap;refine aR func81 ntmps81 aA (bC aA λb L e1 C D ar=>bC aA λqb G e2 M u au=>?_);have a:=D.trans u;obtain⟨fb,fo,efa,E⟩:=h.f.ok.rd 0 (by omega);obtain⟨gb,go,ega,y⟩:=h.g.ok.rd n (by omega);have N:r.g.x.getD n 0=g:=by rw[h.eg,XA,q];rfl
 have O:r.f.x.getD 0 0=n:=by rw[efx];rfl
 rw[N] at y;rw[O] at E;replace C:L.heap[b]?=some (.cells (Cw r).toArray 45 (0,0)):=C;have P:L.heap[b]?=some (.cells ([.slice (some ⟨gb,go,none⟩) r.g.x.length r.g.cap,Ti r.l,.slice (some ⟨fb,fo,none⟩) r.f.x.length r.f.cap,.int .i64 r.cH]:List dE).toArray 45 (0,0)):=by rw[<-efa,<-ega];exact C
 have Q:=u.bP C;have c:=u.bP P;refine bB c aA (aS aA (bB c aA (aU 0 aA (aW aA (a.cell E id) aA (bB c aA (aU n aA (aW aA (a.cell y id) aA (bH (XlB (n:Int) g G (by omega) (by omega)) aA (aQ 9 Xf (by kernel_rfl) aA λp=>aE p Q aA (aE p c aA (aB n p aA (aD p (a.cell y id) aA (Xd.callAllocG (wtF) (Su G r n g true) (wtG) Xb p rfl rfl rfl (λ_=>rfl) rfl (λ_=>rfl) (λ_=>rfl) rfl rfl (λ_ _=>rfl) rfl (λ_ _=>rfl) ((XfR r n g true (h.g.bQ a) (h.l.bQ a) (by omega) (by omega))) (XhH) ((λ_ h=>h.elim)) ?_)))))))))))));rintro nb x w3 av R T ⟨x1,x2,⟨x3,x4⟩,x5,x6,U,V⟩ W;refine aF p aA λw4 k=>?_;have f:Xc Xf G w4:=T.trans k;refine bF (k.bP R) aA λw5 i m aw=>?_;replace i:w5.heap[nb]?=some (.cells (Cw x).toArray 45 (0,0)):=i;have H:=m.heap (f.bP c) (show ¬b=nb by omega);refine bB H aA (Xa.slice Xb rfl (l:=1) (h:=r.f.x.length) (by first|rfl|omega|simp[Dr]) (by first|rfl|omega|simp[Dn]) (by omega) (by omega) rfl ?_);obtain⟨f',o⟩:∃f':IL,f'=r.f.sl 1 r.f.x.length:=⟨_,rfl⟩;obtain⟨a1,a2⟩:=h.f.sl (lo:=1) (hi:=r.f.x.length) (by omega) (XF _);have a3:Xq f'=.slice (Q9 (some ⟨fb,fo,none⟩) r.f.cap 1 1) (r.f.x.length-1) (r.f.cap-1):=by rw[o,<-efa];show Value.slice _ (r.f.sl 1 r.f.x.length).x.length _=_;rw[a2];rfl
 rw[<-a3];refine bF i aA λw6 j A ax=>?_;replace j:w6.heap[nb]?=some (.cells (Cw ⟨x.g,x.l,f',r.cH⟩).toArray 45 (0,0)):=by rw[<-x4];exact j
 refine bB j aA ?_;have I:=A.heap (m.heap (f.bP M) (by omega)) (by omega);refine bF I aA λw7 J F ay=>?_;have K:Xc Xf w w6:=((a.trans f).bU m (λz d e=>by have:=a.size;omega)).bU A (λz d e=>by have:=a.size;omega);have B:Xc Xf w w7:=K.bU F (λz d e=>by have:=D.size;omega);have eH:Ly t=4096*g+n:=by unfold Ly;rw[ef];show Cl t n*4096+n=_;unfold Cl;rw[XB,q];show g*4096+n=_;omega
 have eN:Dh t=n:=by unfold Dh;rw[ef]
 have eT:Fc t={t with dB:=t.dB.set n true,fl:=fl}:=by unfold Fc;rw[ef]
 rw[eH,eN,eT];have a6:Q5 w f':=o▸a1;have cg:Xc (λz=>z=nb\/z=qb) w4 w7:=((m.mono λ_ _ e=>.inl e).trans (A.mono λ_ _ e=>.inl e)).trans (F.mono λ_ _ e=>.inr e);have a7:Xj (λz=>z=nb\/z=qb) x.g.a:=λb off s e d=>d.elim (W.1 b off s e) λh=>by have:=U b off s e;omega
 have a8:Xj (λz=>z=nb\/z=qb) x.l.a:=λb off s e d=>d.elim (W.2 b off s e) λh=>by have:=V b off s e;omega
 have g1:x.g.x=t.gen:=by rw[x1,h.eg,XmS q]
 have g2:x.l.x=t.dB.set n true:=by rw[x2,h.el]
 have g3:f'.x=fl.map (λn:Nat=>(n:Int)):=by
  rw[o];show(r.f.x.drop 1).take (r.f.x.length-1)=_
  rw[ZP (by rw[QJ];omega),efx];rfl
 exact aK func81 J aA ⟨⟨x.g,x.l,f',r.cH⟩,rfl,⟨(x5.bQ k).bW a7 cg,(x6.bQ k).bW a8 cg,a6.bQ B,g1,g2,g3,h.em⟩,λS hS ho=>⟨λb off s e d=>by have:=U b off s e;have:=hS b d;omega,λb off s e d=>by have:=V b off s e;have:=hS b d;omega,by rw[o];exact IL.sl_out ho.2.2⟩,B⟩
theorem XlD{r:Cm}{t:TbM}(h:C9 w r t)(ht:t.Ok cN cS)(hs20:cN<=500)(k:Int)(hk : -9223372036854775808<=k/\k<=9223372036854775807)(hE:X5 t k=0):Xe prog 84 #[.agg (Cw r).toArray,.int .i64 k] w (λv w'=>∃r',v=.tuple #[.agg (Cw r').toArray,.int .i64 0]/\C9 w' r' (Dw t k)/\L6 w r r'/\Xc Xf w w'):=by
 have bw:maxLen=9223372036854775807:=rfl;obtain⟨b1,b2,b3,b4,b5,T,b7⟩:=ht.tbE_ok hE;obtain⟨j,U⟩:=XE b1;obtain⟨g,hg⟩:∃g,g=Ye k:=⟨_,rfl⟩;rw[U,XB] at b3 T b7;rw[<-hg] at b4 b5 T;have bx:=ht.gs;have hn:=ht.n;have bz:=ht.nl;have b9:=ht.many;have egl:r.g.x.length=t.gen.length:=by rw[h.eg]
 have ell:r.l.x.length=t.dB.length:=by rw[h.el]
 have efl:r.f.x.length=t.fl.length:=by rw[h.ef];simp
 have eN:Ze t k=(j:Int):=by unfold Ze;rw[bK hE,U]
 have eG:Cl t (Zy k)=g:=by rw[U];unfold Cl;rw[XB,T];rfl
 have eT:Dw t k={t with gen:=t.gen.set j (g+1),dB:=t.dB.set j false,fl:=if g+1<=t.cH then j::t.fl else t.fl}:=by unfold Dw;rw[bK hE,eG,U,XB]
 rw[eT];refine aR func84 ntmps84 aA (bC aA λb w1 e1 hb aa c0=>bC aA λqb w2 e2 ab G c1=>?_);have H:=aa.trans G;obtain⟨gb,go,ega,I⟩:=h.g.ok.rd j (by omega);have ac:r.g.x.getD j 0=g:=by rw[h.eg,XA,T];rfl
 rw[ac] at I;have ad:w1.heap[b]?=some (.cells ([.slice (some ⟨gb,go,none⟩) r.g.x.length r.g.cap,Ti r.l,Xq r.f,.int .i64 r.cH]:List dE).toArray 45 (0,0)):=by rw[<-ega];exact hb
 have a1:=G.bP hb;have a5:=G.bP ad;refine bB a1 aA (bG (XbG (h.bQ H) ht k hk) aA λw3 q=>?_);rw[hE,eN];have o:=H.trans q;have a2:=q.bP a1;have K:=q.bP a5;refine aS aA (aQ 10 Xf (by kernel_rfl) aA λd=>aE d a2 aA (aE d K aA (aB j d aA (aD d (o.cell I id) aA (aC d aA (Xd.callAllocG (wtF) (Su w3 r j (g+1) false) (wtG) Xb d rfl rfl rfl (λ_=>rfl) rfl (λ_=>rfl) (λ_=>rfl) rfl rfl (λ_ _=>rfl) rfl (λ_ _=>rfl) ((XfR r j (g+1) false (h.g.bQ o) (h.l.bQ o) (by omega) (by omega))) (XhH) ((λ_ h=>h.elim)) ?_))))));rintro nb x w4 c2 ae af ⟨x1,x2,⟨x3,x4⟩,x5,x6,x7,x8⟩ hG;refine aF d aA λw5 C=>?_;have f:=af.trans C;have c3:=q.size;have c4:=f.size;refine bF (C.bP ae) aA λV y u c5=>?_;have i:=(o.trans f).sn u;have ak:=u.heap (f.bP a2) (show ¬b=nb by omega);have L:=u.heap (f.bP K) (show ¬b=nb by omega);have A:=u.heap (f.bP (q.bP ab)) (show ¬qb=nb by omega);have hX:∀w',Xc (λz=>z=nb\/V.heap.size<=z) V w'->Q5 w' x.g/\Hf w' x.l:=λw' hc=>by
  have c:=(u.mono λ_ _ e=>.inl e).trans hc;have W:=x5.bQ C;have k2:=x6.bQ C;exact⟨W.bW (λb off s e a=>a.elim (hG.1 b off s e) λh=>by have:=W.lt b off s e;omega) c,k2.bW (λb off s e a=>a.elim (hG.2 b off s e) λh=>by have:=k2.lt b off s e;omega) c⟩
 have g1:x.g.x=t.gen.set j (g+1):=by rw[x1,h.eg]
 have g2:x.l.x=t.dB.set j false:=by rw[x2,h.el]
 have a3:=h.em;apply Xa.cut (α:=IL) (λ_=>[(4,false,.pointer (some ⟨qb,0,none⟩)),(8,false,.pointer (some ⟨nb,0,none⟩))]) (λf' w'=>w'.heap[nb]?=some (.cells (Cw ⟨x.g,x.l,f',r.cH⟩).toArray 45 (0,0))/\Q5 w' f'/\f'.x=(if g+1<=t.cH then j::t.fl else t.fl).map (λn:Nat=>(n:Int))/\(∀S:Nat->Prop,(∀z,S z->z<w.heap.size)->Xj S r.f.a->Xj S f'.a)/\Xc (λz=>z=nb\/V.heap.size<=z) V w'/\Xc Xf w w'/\Xj (λz=>z=qb) f'.a)
 .intro J;refine aQ 8 Xf (by kernel_rfl) aA λd=>aE d L aA (aB j d aA (aD d (i.cell I id) aA (aC d aA (aE d L aA (aF d aA λE l=>?_)))));have p:=i.trans l;rw[a3];by_cases a4:g+1<=t.cH
  .refine bI aA (Xa.buildSlice Xb rfl λb8 w8 e8 am M an=>aN aA ?_);have N:=l.trans M;refine bB (N.bP ak) aA ?_;have F:Xl E.heap.size 3 1 w8 (.slice (some ⟨b8,0,none⟩) 1 1) 1 [.int .i64 (j:Int)]:=Xl.one (by omega) am;refine Xa.appendA (base:=E.heap.size) (xs:=[.int .i64 (j:Int)]) (news:=r.f.x.map (Value.int .i64)) Xb rfl F M.size h.f.ok.rd.noneA (by simp) (h.f.ok.rd.bR (i.trans N)).cellsA Jb (by simp only;omega) ?_;intro v9 w9 ap aq c6;have a6:=F.bU M (XF _) aq;obtain⟨f',rfl,ar,au,O⟩:=Xl.il (x:=(j:Int)::r.f.x) (v:=v9) (m:=1+r.f.x.length) (show Xl E.heap.size 3 1 w9 v9 (1+r.f.x.length) (((j:Int)::r.f.x).map (Value.int .i64)) from ap) (by simp;omega) (by simp;omega);have B:=l.trans a6;have z7:=l.size;refine aN aA (bF (B.bP y) aA λwa av P bu=>?_);have aw:Xj (λz=>z=nb) f'.a:=λb off s e a=>by have:=O b off s e;have:=Xg y;omega
   exact J f' wa _ ⟨by rw[<-x4];exact av,au.bW aw P,by rw[bK a4,ar,h.ef];rfl,λS Q _ b off s e a=>by have:=O b off s e;have:=Q b a;have:=i.size;omega,B.gr.trans (P.mono λ_ _ e=>.inl e),(i.trans B).sn P,λb off s e a=>by have:=O b off s e;have:=Xg A;omega⟩ ⟨rfl,rfl,trivial⟩
  .exact aS aA (J r.f E _ ⟨by rw[<-x4,<-x3];exact l.bP y,h.f.bQ p,by rw[bJ a4];exact h.ef,λS _ F=>F,l.gr,p,h.f.lt.out (λz e=>by omega)⟩ ⟨rfl,rfl,trivial⟩)
 .rintro f' E ⟨ax,ay,g3,az,R,p,b0⟩;obtain⟨W,k2⟩:=hX E R;have a7:=R.heap A (λh=>by have:=Xg A;omega);exact bB ax aA (bF a7 aA λw8 a8 D an=>aK func84 a8 aA ⟨⟨x.g,x.l,f',r.cH⟩,rfl,⟨W.bW (λb off s e a=>by have:=x7 b off s e;omega) D,k2.bW (λb off s e a=>by have:=x8 b off s e;omega) D,ay.bW b0 D,g1,g2,g3,a3⟩,λS Q F=>⟨λb off s e a=>by have:=x7 b off s e;have:=Q b a;omega,λb off s e a=>by have:=x8 b off s e;have:=Q b a;omega,az S Q F.2.2⟩,p.sn D⟩)
theorem XlE{r:Cm}{t:TbM}(h:C9 w r t):Xe prog 45 #[.agg (Cw r).toArray] w (Grow (.int .i64 (So t:Nat)) w):=by
 have q:=h.l.len;refine aR func45 ntmps45 aA (bC aA λb n e1 o k s=>?_);refine Xa.loop (α:=Nat) (λi=>[(1,false,.pointer (some ⟨b,0,none⟩)),(3,false,.int .i64 ((r.l.x.take i).count true:Nat)),(4,false,.int .i64 i)])
  (λi w'=>i<=r.l.x.length/\Xc Xf n w') (λi=>r.l.x.length-i) 0 ⟨rfl,rfl,rfl,trivial⟩ ⟨XP _,Xc.refl _ _⟩ ?_
 rintro i p ⟨v,a⟩ ih;have c:=k.trans a;have d:=a.bP o;have u:(r.l.x.take i).count true<=i:=ZZ List.count_le_length (List.length_take_le _ _);refine aN aA (bB d aA (aT aA (λg=>?_) λg=>?_))
 .have g:=bL g;have f:i<r.l.x.length:=by omega
  obtain⟨lb,lo,ela,l⟩:=(h.l.bQ c).rd i f;have j:p.heap[b]?=some (.cells ([Xq r.g,.slice (some ⟨lb,lo,none⟩) r.l.x.length r.l.cap,Xq r.f,.int .i64 r.cH]:List dE).toArray 45 (0,0)):=by rw[<-ela];exact d
  have eC:(r.l.x.take (i+1)).count true=(r.l.x.take i).count true+if r.l.x[i]=true then 1 else 0:=by
   rw[ZH,XD f,List.count_append]
   congr 1
   cases r.l.x[i] <;> rfl
  refine bB j aA (aU i aA (aW aA l aA ?_));cases m:r.l.x[i] with
  |true=>
   rw[m,bK rfl] at eC;exact bI aA (aV aA (aV aA (ih (i+1) _ _ ⟨by omega,a⟩ (by omega) ⟨rfl,by rw[eC];rfl,rfl,trivial⟩)))
  |false=>
   rw[m,bJ (by decide)] at eC;exact aS aA (aV aA (ih (i+1) _ _ ⟨by omega,a⟩ (by omega) ⟨rfl,by rw[eC];rfl,rfl,trivial⟩))
 .have g:=bM g;have e:So t=(r.l.x.take i).count true:=by rw[ZP (by omega),h.el];rfl
  rw[e];exact bE func45 aA ⟨rfl,c⟩
section
variable {c:Conf}{s:StM}{pd:Option (Nat×PlcM)}
theorem Xho{q:PlcM}(h:s.OkP c (some (o,q)))(ht:0<=s.rm.tot/\s.rm.tot<=999999900000):0<=(B9 c s q).rm.tot/\(B9 c s q).rm.tot<=s.rm.tot+40000:=by
 obtain⟨e,i,j⟩:=XdT h.rm q;have a:0<=(Qc s.rm q).tot/\(Qc s.rm q).tot<=s.rm.tot+10000:=by
  rw[<-e];show 0<=Xw s.rm.tot _/\Xw s.rm.tot _<=_
  rw[Cq (by omega)];omega
 have b:=h.dropped;unfold B9;split
 .show 0<=(Qc s.rm q).tot/\(Qc s.rm q).tot<=_
  omega
 .have d:=Vx b q.cL.toNat ⟨a.1,by have:=a.2;show(Qc s.rm q).tot<=_;omega⟩;have g:(Yv c {s with rm:=Qc s.rm q} q.cL.toNat).rm.tot<=(Qc s.rm q).tot+10000:=d.2;have f:=XcD (b.begin q.cL.toNat) q.cL.toNat c.step ⟨d.1,by omega⟩;exact⟨f.1,by omega⟩
theorem Xhp(o:Int)(i n:Nat)(hn:n<=25000000)(ht:0<=s.rm.tot/\s.rm.tot<=1000000000000):0<=(Aj s o i n).rm.tot/\(Aj s o i n).rm.tot<=s.rm.tot+n:=by
 unfold Aj;split
 .rename_i m _
  split
  .have a:Q4 i n m.cE<=n:=by unfold Q4;omega
   show 0<=Xw s.rm.tot _/\Xw s.rm.tot _<=_
   rw[Cq (by omega)];omega
  .omega
 .omega
theorem Xhn(q:Plc)(i n:Nat)(hm:Zb c=true)(hn:n<=25000000)(ht:0<=s.rm.tot/\s.rm.tot<=1000000000000):0<=(Qk s (Zi c q i n)).rm.tot/\(Qk s (Zi c q i n)).rm.tot<=s.rm.tot+(2*n+1):=by
 have:=Ld (q:=q) (at':=i) (n:=n) hm;show 0<=Xw s.rm.tot _/\Xw s.rm.tot _<=_
 rw[Cq (by omega)];omega
theorem Sp{u:Dz}(h:s.Ok c)(ht:0<=s.rm.tot/\s.rm.tot<=900000000000):0<=(Q7 c s u).rm.tot/\(Q7 c s u).rm.tot<=s.rm.tot+1000000000:=by
 have y:=(Z4 h.may).cH.2;unfold Q7;split
 .unfold Aa;split
  .rename_i d
   obtain⟨j,e,v,w,hf⟩:=W7 d;rw[e];have:=XcE h j v u.a (StM.OkP.lay h w hf (by rintro _ _ ⟨⟩)) ⟨ht.1,by omega⟩;omega
  .omega
 split
 .unfold Bl;split
  .omega
  .rename_i x
   obtain⟨j,t,e,a⟩:=J0 (YK.1 x);rw[e,Qo a];obtain⟨t',b,_,_,_,f⟩:=Oh h a;rw[Qo b,XB];have i:=Vy h t.q.cL ⟨ht.1,by omega⟩;have o:=Xho ((Mi h t.q.cL).ok.away b f) ⟨i.1,by have:=i.2;show(Zg s t.q.cL).rm.tot<=_;omega⟩;refine⟨o.1,Int.le_trans o.2 ?_⟩;show(Zg s t.q.cL).rm.tot+40000<=_
   omega
 split
 .unfold Ai;split
  .omega
  .rename_i d
   obtain⟨j,t,e,a,hr,g⟩:=U8 (YK.1 d);have m:=h.size j t a;rw[e,Ev a,Qo a];split
   .split
    .have n:(X6 (t.size-u.a).toNat).length<=25000000:=by rw[Gp];omega
     have b:=Pu (s:=s) h.may t.q u.a.toNat (X6 (t.size-u.a).toNat) ⟨ht.1,by omega⟩ n;rw[Gp] at n b;have f:=Xhp (s:=D5 (Yp c s t.q u.a.toNat (X6 (t.size-u.a).toNat)) (j:Nat) ⟨u.a,t.q⟩) (j:Nat) u.a.toNat (t.size-u.a).toNat n ⟨b.1,by have:=b.2;show(Yp c s t.q u.a.toNat _).rm.tot<=_;omega⟩;exact⟨f.1,by have:=f.2;have:=b.2;have e:(D5 (Yp c s t.q u.a.toNat (X6 (t.size-u.a).toNat)) (j:Nat) ⟨u.a,t.q⟩).rm.tot=(Yp c s t.q u.a.toNat (X6 (t.size-u.a).toNat)).rm.tot:=rfl;omega⟩
    .show 0<=s.rm.tot/\s.rm.tot<=_
     omega
   .rename_i p
    rcases g with g|⟨g,hf⟩
    .exact absurd g p
    .obtain⟨t',M⟩:=Ru h a g hf;have q:=(XC.1 M.th1).1;unfold Ka;simp only
     rw[Qo a,Qo M.th1,Ev a];have i:=Vy h t.q.cL ⟨ht.1,by omega⟩;have b:=Xhn (s:=Zg s t.q.cL) t'.q.cQ 0 (min t.size u.a).toNat h.may (by omega) ⟨i.1,by omega⟩;have f:=XcE (M.ok1.tot (Zi c t'.q.cQ 0 (min t.size u.a).toNat)) j q u.a M.ok2 ⟨b.1,by omega⟩;have k:(Yg c t'.q.cQ (Zg s t.q.cL).bs 0 (min t.size u.a).toNat).length=(min t.size u.a).toNat:=by unfold Yg;rw[XV,ZM]
     have l:=Pu (s:=Q2 c (Qk (Zg s t.q.cL) (Zi c t'.q.cQ 0 (min t.size u.a).toNat)) (j:Nat) u.a) h.may (Y7 (Q2 c (Qk (Zg s t.q.cL) (Zi c t'.q.cQ 0 (min t.size u.a).toNat)) (j:Nat) u.a) (j:Nat)) 0 (Yg c t'.q.cQ (Zg s t.q.cL).bs 0 (min t.size u.a).toNat) ⟨f.1,by omega⟩ (by rw[k];omega);rw[k] at l;have r:=Xho (M.ok2.put _ 0 (Pt M.ok1.bi _ _)) ⟨l.1,by omega⟩;exact⟨r.1,by have:=r.2;omega⟩
 split
 .unfold Cu;split
  .rename_i d
   obtain⟨j,t,e,a,_,_,l⟩:=V2 d;have m:=h.size j t a;have:=Xhn (s:=s) (Y7 s u.own).cQ u.a.toNat u.b.toNat h.may (by omega) ⟨ht.1,by omega⟩;omega
  .omega
 split
 .unfold Dg;split
  .rename_i d
   obtain⟨j,t,e,a,_,_,l⟩:=V2 d;have m:=h.size j t a;have b:=Pu (s:=s) h.may (Y7 s u.own) u.a.toNat u.bs ⟨ht.1,by omega⟩ (by omega);have f:=Xhp (s:=Yp c s (Y7 s u.own) u.a.toNat u.bs) u.own u.a.toNat u.bs.length (by omega) ⟨b.1,by omega⟩;omega
  .omega
 split
 .have k:s.mv.length<=16:=by have:=h.ml;have:=(Z4 h.may).n;omega
  have:=XcF h ⟨ht.1,by omega⟩ s.mv.length k;unfold D6;omega
 .unfold Df;split
  .show 0<=s.rm.tot/\s.rm.tot<=_
   omega
  .omega
end
structure HR where
 s:SR
 t:Cm
def Db(r:HR):List dE:=Zx r.s++Cw r.t
abbrev D2(w:dD)(b:Nat)(r:HR):Prop:=w.heap[b]?=some (.cells (Db r).toArray 47 (0,0))
structure Ae(w:dD)(r:HR)(x:HpM):Prop where
 s:X9 w r.s x.st
 t:C9 w r.t x.tb
def Fv(S:Nat->Prop)(r:HR):Prop:=Bm S r.s/\Iv S r.t
def Dj(w:dD)(r r':HR):Prop:=Zr w r.s r'.s/\L6 w r.t r'.t
theorem Ae.bQ{w w':dD}{r:HR}{x:HpM}(h:Ae w r x)(hc:Xc Xf w w'):Ae w' r x:=⟨h.s.bQ hc,h.t.bQ hc⟩
theorem Dj.refl(w:dD)(r:HR):Dj w r r:=⟨Zr.refl _ _,λ_ _ h=>h⟩
theorem Dj.dC{w w1:dD}{r r1:HR}(h:Dj w1 r r1)(hs:w.heap.size<=w1.heap.size):Dj w r r1:=⟨h.1.dC hs,λS a b=>h.2 S (λz c=>by have:=a z c;omega) b⟩
def XhX(w:dD)(r:HR)(x':HpM)(r':HR)(w':dD):Prop:=Ae w' r' x'/\Dj w r r'/\Xc Xf w w'
theorem C9.box{r r':Cm}{t t':TbM}(h:C9 w r t)(hk:L6 w2 r r')(h':C9 w' r' t')(hw:w.heap.size<=qb)(hq:qb<w2.heap.size)(hc:Xc (λz=>z=qb) w' w''):C9 w'' r' t':=
 h'.bW (hk _ (λz e=>by omega) (h.out λz e=>by omega)) hc
theorem Ae.box{w w2 w' w'':dD}{r r':HR}{x x':HpM}{qb:Nat}(h:Ae w r x)(hk:Dj w2 r r')(h':Ae w' r' x')(hw:w.heap.size<=qb)(hq:qb<w2.heap.size)(hc:Xc (λz=>z=qb) w' w'')(hcc:Xc Xf w w''):Ae w'' r' x':=
 ⟨h.s.box hk.1 h'.s hw hq hc hcc,h.t.box hk.2 h'.t hw hq hc⟩
def Jk(e g:Int)(a:Option Addr)(n cap:Nat)(k:Int):List dE:=[.int .i64 e,.int .i64 g,.slice a n cap,.int .i64 k]
def Sx(w:dD)(r:HR)(E G K:Int)(B:List Int)(x':HpM):dE->dD->Prop:=λv w'=>∃r' a cap,v=.tuple #[.agg (Db r').toArray,.agg (Jk E G a B.length cap K).toArray]/\Rd .u8 w' a B/\(∀b off s',a=some ⟨b,off,s'⟩->w.heap.size<=b/\b<w'.heap.size)/\XhX w r x' r' w'
theorem L6.dC{r r1:Cm}(h:L6 w1 r r1)(hs:w.heap.size<=w1.heap.size):L6 w r r1:=λS a b=>h S (λz c=>by have:=a z c;omega) b
theorem Xmk{r:HR}{x:HpM}(h:Ae w r x)(hx:x.Ok r.s.c)(size:Int)(ht:0<=x.st.rm.tot/\x.st.rm.tot<=900000000000):Xe prog 32 #[.agg (Db r).toArray,.int .i64 size] w
 (Sx w r (C2 r.s.c x size) (Ei r.s.c x size) (Ej r.s.c x size) [] (B5 r.s.c x size)):=by
 have hs:=hx.st;refine aR func32 ntmps32 aA (bC aA λb w1 e1 hb ad au=>bC aA λqb w2 e2 ae a0 av=>bC aA λub w3 e3 a1 H aw=>?_);have a2:=(a0.trans H).bP hb;have I:=(ad.trans a0).trans H;refine bB a2 aA (bG (Sa (h.s.bQ I) hs size) aA λw4 v=>?_);have a:=I.trans v;have i:=v.bP a2;have j:=v.bP (H.bP ae);have k:=v.bP a1;have lu:=Xg a1;have ax:=v.size;have J:∀{e:Int},¬Ic r.s.c x size->C2 r.s.c x size=e->C2 r.s.c x size=e/\Ei r.s.c x size=0/\Ej r.s.c x size=0/\B5 r.s.c x size=x:=λh1 h2=>⟨h2,by unfold Ei;rw[bJ h1],by unfold Ej;rw[bJ h1],by unfold B5;rw[bJ h1]⟩;have efl:r.t.f.x.length=x.tb.fl.length:=by rw[h.t.ef];simp
 by_cases L:Yt r.s.c x.st size=3
 .obtain⟨M,N,O,P⟩:=J (e:=3) (λg=>by have:=g.1;omega) (by unfold C2;rw[bK L]);rw[M,N,O,P,L];refine bI aA ?_;refine bB i aA (aO aA (bF j aA λwe y m a3=>?_));refine bF (m.heap k (by omega)) aA λwg n d Q=>?_;have f:=((a).sn m).sn d;exact bD rfl func32 (Xi.cell rfl rfl rfl (d.heap y (by omega)) rfl (.cell rfl rfl rfl n rfl .nil)) ⟨r,none,0,rfl,Rd.nil _ _ _,(by intro b off s' e;cases e),h.bQ f,Dj.refl _ _,f⟩
 .refine aS aA (bB i aA ?_);by_cases A:x.tb.fl=[]
  .obtain⟨M,N,O,P⟩:=J (e:=4) (λg=>g.2 A) (by unfold C2;rw[bJ L,bK A]);rw[M,N,O,P];refine aM aA (by rw[efl,A];rfl) ?_;refine bB i aA (aO aA (bF j aA λwe y m a3=>?_));refine bF (m.heap k (by omega)) aA λwg n d Q=>?_;have f:=((a).sn m).sn d;exact bD rfl func32 (Xi.cell rfl rfl rfl (d.heap y (by omega)) rfl (.cell rfl rfl rfl n rfl .nil)) ⟨r,none,0,rfl,Rd.nil _ _ _,(by intro b off s' e;cases e),h.bQ f,Dj.refl _ _,f⟩
  .refine aI aA (beq_eq_false_iff_ne.2 (by have:=List.length_pos_iff.2 A;omega)) ?_;by_cases V:Yt r.s.c x.st size=0
   .have R:Ic r.s.c x size:=⟨V,A⟩;have eE:C2 r.s.c x size=0:=by unfold C2;rw[bJ L,bJ A,V]
    have eH:Ei r.s.c x size=Ly x.tb:=by unfold Ei;rw[bK R]
    have eX:B5 r.s.c x size=⟨Aa r.s.c x.st (Dh x.tb) size,Fc x.tb⟩:=by unfold B5;rw[bK R]
    have eK:Ej r.s.c x size=2+((Aa r.s.c x.st (Dh x.tb) size).rm.tot-x.st.rm.tot):=by unfold Ej;rw[bK R,eX]
    rw[eE,eH,eX,eK];have af:=Sp (u:=⟨0,Dh x.tb,size,0,[],none,0⟩) hs ht;rw[show Q7 r.s.c x.st ⟨0,Dh x.tb,size,0,[],none,0⟩=Aa r.s.c x.st (Dh x.tb) size by unfold Q7;rw[bK (show(0:Int)%7=0 by decide)]] at af;refine aI aA (by rw[V];rfl) (bB i aA (aP aA (XlG (h.t.bQ a) hx.tb A) ?_));rintro _ w5 ⟨W,rfl,a4,a5,a6⟩;refine aN aA (bC aA λtb w6 e6 ag ah ay=>bF ag aA λw7 S ai az=>?_);have C:=ah.sn ai;have l:=a6.trans C;have D:=a.trans l;refine bB (l.bP i) aA (aP aA (Xf2 (h.s.bQ D) hs (Dh x.tb) size ⟨ht.1,by omega⟩) ?_);rintro _ w8 ⟨T,rfl,o⟩;refine aN aA (bC aA λsb w9 e9 aj ak b0=>bF aj aA λwa F al b1=>?_);have t:=ak.sn al;have c:=o.2.2.trans t;have b2:=a6.size;have b3:=o.2.2.size;have aa:=a.trans ((l.trans c));have ab:=((o.1.bQ t)).rs;have am:(2:Int)+T.ra.cM-r.s.ra.cM=2+((Aa r.s.c x.st (Dh x.tb) size).rm.tot-x.st.rm.tot):=by rw[h.s.rs,ab];omega
    refine aQ 15 (λz=>z=qb) (by kernel_rfl) aA λp=>aE p F aA (aE p (c.bP S) aA (Xd.build Xb p rfl rfl (aE p F aA (aC p aA (aE p (((l.trans c)).bP i) aA (aC p aA (Xd.build Xb p rfl rfl (Xd.cK p rfl λwc B=>Xo.store Xb p rfl (B.bP (((l.trans c)).bP j)) (by first|(intro h;exact rfl)|(intro h;omega)) rfl rfl rfl λwd an U b4=>aF p aA λwe G=>?_))))))));refine bF (G.bP (U.heap (B.bP (((l.trans c)).bP k)) (show ¬ub=qb by omega))) aA λwg n d Q=>?_;have a7:=(aa.trans B).sn U;have f:=(a7.trans G).sn d;have hK:Dj w3 r ⟨T,W⟩:=⟨(o.2.1.dC (by have:=D.size;omega)),a5.dC (by have:=a.size;omega)⟩;exact bD rfl func32 (Xi.cell rfl rfl rfl (d.heap (G.bP an) (show ¬qb=ub by omega)) rfl (.cell rfl rfl rfl n rfl .nil)) ⟨⟨T,W⟩,none,0,by rw[<-am];rfl,Rd.nil _ _ _,(by intro b off s' e;cases e),(h.box hK ((h.box hK (⟨((o.1.bQ t)).bQ B,((a4.bQ (C.trans c))).bQ B⟩:Ae wc ⟨T,W⟩ ⟨Aa r.s.c x.st (Dh x.tb) size,Fc x.tb⟩) (by omega) (by omega) U a7).bQ G) (show w.heap.size<=ub by omega) (by omega) d f),hK.dC (by omega),f⟩
   .obtain⟨M,N,O,P⟩:=J (e:=Yt r.s.c x.st size) (λg=>V g.1) (by unfold C2;rw[bJ L,bJ A]);rw[M,N,O,P];refine bI aA ?_;refine bB i aA (aO aA (bF j aA λwe y m a3=>?_));refine bF (m.heap k (by omega)) aA λwg n d Q=>?_;have f:=((a).sn m).sn d;exact bD rfl func32 (Xi.cell rfl rfl rfl (d.heap y (by omega)) rfl (.cell rfl rfl rfl n rfl .nil)) ⟨r,none,0,rfl,Rd.nil _ _ _,(by intro b off s' e;cases e),h.bQ f,Dj.refl _ _,f⟩
theorem Xmp{r:HR}{x:HpM}(h:Ae w r x)(hx:x.Ok r.s.c)(hsl:r.s.c.cN<=500)(k:Int)(hk : -9223372036854775808<=k/\k<=9223372036854775807)(ht:0<=x.st.rm.tot/\x.st.rm.tot<=900000000000):Xe prog 33 #[.agg (Db r).toArray,.int .i64 k] w
 (Sx w r (X5 x.tb k) 0 ((if X5 x.tb k=0 then 2 else 0)+(1+((Cf r.s.c x k).st.rm.tot-x.st.rm.tot))) [] (Cf r.s.c x k)):=by
 have hs:=hx.st;refine aR func33 ntmps33 aA (bC aA λb w1 e1 hb a1 ah=>bC aA λqb w2 e2 a2 M ai=>bC aA λub w3 e3 N C aj=>?_);have O:=(M.trans C).bP hb;have D:=(a1.trans M).trans C;refine bB O aA (bG (XbG (h.t.bQ D) hx.tb k hk) aA λw4 l=>?_);have c:=D.trans l;have m:=l.bP O;have p:=l.bP (C.bP a2);have s:=l.bP N;have lu:=Xg N;have ak:=l.size;by_cases B:X5 x.tb k=0
 .have eX:Cf r.s.c x k=⟨Bl r.s.c x.st (Ze x.tb k),Dw x.tb k⟩:=by unfold Cf;rw[bK B]
  rw[bK B,eX,B];have a3:=Sp (u:=⟨1,Ze x.tb k,0,0,[],none,0⟩) hs ht;rw[show Q7 r.s.c x.st ⟨1,Ze x.tb k,0,0,[],none,0⟩=Bl r.s.c x.st (Ze x.tb k) by unfold Q7;rw[bJ (show ¬(1:Int)%7=0 by decide),bK (show(1:Int)%7=1 by decide)]] at a3;refine aS aA (bB m aA (aP aA (Xf5 (h.s.bQ c) hs (Ze x.tb k) ⟨ht.1,by omega⟩) ?_));rintro _ w5 ⟨F,rfl,f⟩;refine aN aA (bC aA λsb w6 e6 a4 a5 al=>bF a4 aA λw7 t a6 am=>?_);have j:=a5.sn a6;have d:=f.2.2.trans j;have v:=c.trans d;refine bB (d.bP m) aA (aP aA (XlD (h.t.bQ v) hx.tb hsl k hk B) ?_);rintro _ w8 ⟨L,rfl,P,Q,R⟩;refine aN aA (bC aA λtb w9 e9 a7 a8 an=>bF a7 aA λwa H a9 ao=>?_);have y:=a8.sn a9;have a:=R.trans y;have ap:=f.2.2.size;have aq:=R.size;have U:=c.trans ((d.trans a));have V:=((f.1.bQ (j.trans a))).rs;have aa:(3:Int)+F.ra.cM-r.s.ra.cM=2+(1+((Bl r.s.c x.st (Ze x.tb k)).rm.tot-x.st.rm.tot)):=by rw[h.s.rs,V];omega
  refine aQ 14 (λz=>z=qb) (by kernel_rfl) aA λg=>aE g (a.bP t) aA (aE g H aA (Xd.build Xb g rfl rfl (aE g (a.bP t) aA (aC g aA (aE g (((d.trans a)).bP m) aA (aC g aA (Xd.build Xb g rfl rfl (Xd.cK g rfl λwc n=>Xo.store Xb g rfl (n.bP (((d.trans a)).bP p)) (by first|(intro h;exact rfl)|(intro h;omega)) rfl rfl rfl λwd ab I ar=>aF g aA λwe A=>?_))))))));refine bF (A.bP (I.heap (n.bP (((d.trans a)).bP s)) (show ¬ub=qb by omega))) aA λwg J i ac=>?_;have S:=(U.trans n).sn I;have o:=(S.trans A).sn i;have W:Dj w3 r ⟨F,L⟩:=⟨(f.2.1.dC (by have:=c.size;omega)),Q.dC (by have:=v.size;omega)⟩;exact bD rfl func33 (Xi.cell rfl rfl rfl (i.heap (A.bP ab) (show ¬qb=ub by omega)) rfl (.cell rfl rfl rfl J rfl .nil)) ⟨⟨F,L⟩,none,0,by rw[<-aa];rfl,Rd.nil _ _ _,(by intro b off s' e;cases e),(h.box W ((h.box W (⟨((f.1.bQ (j.trans a))).bQ n,((P.bQ y)).bQ n⟩:Ae wc ⟨F,L⟩ ⟨Bl r.s.c x.st (Ze x.tb k),Dw x.tb k⟩) (by omega) (by omega) I S).bQ A) (show w.heap.size<=ub by omega) (by omega) i o),W.dC (by omega),o⟩
 .have eX:Cf r.s.c x k=x:=by unfold Cf;rw[bJ B]
  rw[bJ B,eX,QY];refine bI aA ?_;refine bB m aA (aO aA (bF p aA λwe ad T au=>?_));refine bF (T.heap s (by omega)) aA λwg J i ac=>?_;have o:=((c).sn T).sn i;exact bD rfl func33 (Xi.cell rfl rfl rfl (i.heap ad (by omega)) rfl (.cell rfl rfl rfl J rfl .nil)) ⟨r,none,0,rfl,Rd.nil _ _ _,(by intro b off s' e;cases e),h.bQ o,Dj.refl _ _,o⟩
theorem XbT{r:HR}{x:HpM}(h:Ae w r x)(hx:x.Ok r.s.c)(k:Int)(hk : -9223372036854775808<=k/\k<=9223372036854775807)(u:Dz)(hu:V9 w u)(ht:0<=x.st.rm.tot/\x.st.rm.tot<=900000000000):Xe prog 34 #[.agg (Db r).toArray,.int .i64 k,.agg (Pw u).toArray] w
 (Sx w r (if X5 x.tb k=0 then Cr r.s.c x.st {u with own:=Ze x.tb k} else X5 x.tb k) 0 (1+((if X5 x.tb k=0 then (⟨Q7 r.s.c x.st {u with own:=Ze x.tb k},x.tb⟩:HpM) else x).st.rm.tot-x.st.rm.tot)) (if X5 x.tb k=0 then B4 r.s.c x.st {u with own:=Ze x.tb k} else []) (if X5 x.tb k=0 then ⟨Q7 r.s.c x.st {u with own:=Ze x.tb k},x.tb⟩ else x)):=by
 have hs:=hx.st;refine aR func34 ntmps34 aA (bC aA λb w1 e1 hb a6 ao=>bC aA λab ap aq O D ai=>bC aA λqb w2 e2 a7 F ar=>bC aA λub w3 e3 P C au=>?_);have Q:=((D.trans F).trans C).bP hb;have G:=((a6.trans D).trans F).trans C;refine bB Q aA (bG (XbG (h.t.bQ G) hx.tb k hk) aA λw4 f=>?_);have p:=G.trans f;have H:=f.bP Q;have q:=f.bP (C.bP a7);have s:=f.bP P;have lu:=Xg P;have av:=f.size;by_cases t:X5 x.tb k=0
 .rw[bK t,bK t,bK t];obtain⟨v,ev⟩:∃v,v=({u with own:=Ze x.tb k}:Dz):=⟨_,rfl⟩;rw[<-ev,t];have aw:=Sp (u:=v) hs ht;have ax:=Xg hb;have lab:=Xg O;refine aS aA (bF (f.bP ((F.trans C).bP O)) aA λw5 y l ay=>?_);replace y:w5.heap[ab]?=some (.cells (Pw v).toArray 90 (0,0)):=by rw[ev];exact y
  have A:=p.sn l;have R:=l.heap H (show ¬b=ab by omega);have V:=l.heap q (show ¬qb=ab by omega);have W:=l.heap s (show ¬ub=ab by omega);have hv:V9 w5 v:=by rw[ev];exact⟨hu.kind,hu.a,hu.b,hu.rd.bR A,hu.rng,hu.lc,hu.len⟩
  refine bB R aA (bB y aA (aP aA (Xmc v (h.s.bQ A) hs hv ⟨ht.1,by omega⟩) ?_));rintro _ w6 ⟨N,a8,a0,rfl,aa,I,m⟩;refine aN aA (bC aA λsb w7 e7 ac ad az=>bF ac aA λw8 J a1 b0=>?_);have i:=ad.sn a1;have j:=m.2.2.trans i;have S:=j.bP R;have L:=A.trans j;have a2:=m.1.rs;have ae:(1:Int)+N.ra.cM-r.s.ra.cM=1+((Q7 r.s.c x.st v).rm.tot-x.st.rm.tot):=by rw[h.s.rs,a2];omega
  have b1:=m.2.2.size;refine aQ 17 (λz=>z=qb) (by kernel_rfl) aA λc=>aE c J aA (aE c S aA (Xd.build Xb c rfl rfl (aE c J aA (aC c aA (aE c S aA (aC c aA (Xd.build Xb c rfl rfl (Xd.cK c rfl λwc d=>Xo.store Xb c rfl (d.bP (j.bP V)) (by first|(intro h;exact rfl)|(intro h;omega)) rfl rfl rfl λwd af n b2=>aF c aA λwe g=>?_))))))));refine bF (g.bP (n.heap (d.bP (j.bP W)) (show ¬ub=qb by omega))) aA λwg M a ag=>?_;have T:=(L.trans d).sn n;have o:=(T.trans g).sn a;have hK:Dj w3 r ⟨N,r.t⟩:=⟨m.2.1.dC (by have:=l.size;omega),λ_ _ h=>h⟩;have an:w6.heap.size<=wg.heap.size:=by have:=i.size;have:=d.size;have:=n.size;have:=g.size;have:=a.size;omega
  exact bD rfl func34 (Xi.cell rfl rfl rfl (a.heap (g.bP af) (show ¬qb=ub by omega)) rfl (.cell rfl rfl rfl M rfl .nil)) ⟨⟨N,r.t⟩,a8,a0,by rw[<-ae];rfl,((((aa.bR (i.trans d)).bW (λb off s' e B=>by have:=I b off s' e;omega) n).bR g).bW (λb off s' e B=>by have:=I b off s' e;omega) a),(λb off s' e=>by have:=I b off s' e;omega),(h.box hK ((h.box hK (⟨m.1.bQ (i.trans d),h.t.bQ (L.trans d)⟩:Ae wc ⟨N,r.t⟩ ⟨Q7 r.s.c x.st v,x.tb⟩) (by omega) (by omega) n T).bQ g) (show w.heap.size<=ub by omega) (by omega) a o),hK.dC (by omega),o⟩
 .rw[bJ t,bJ t,bJ t,QY];refine bI aA ?_;refine bB H aA (aO aA (bF q aA λwe ah U b3=>?_));refine bF (U.heap s (by omega)) aA λwg M a ag=>?_;have o:=((p).sn U).sn a;exact bD rfl func34 (Xi.cell rfl rfl rfl (a.heap ah (by omega)) rfl (.cell rfl rfl rfl M rfl .nil)) ⟨r,none,0,rfl,Rd.nil _ _ _,(by intro b off s' e;cases e),h.bQ o,Dj.refl _ _,o⟩
theorem Xgc{r:HR}{x:HpM}(h:Ae w r x)(hgood:x.st.rm.pl.Good):Xe prog 46 #[.agg (Db r).toArray] w (Grow (.int .i64 (Za x.st.rm.pl:Nat)) w):=by
 refine aR func46 ntmps46 aA (bC aA λb j e1 a c i=>?_);have d:=hgood;have f:=h.s.rr.p.eo;have hf:=h.s.rr.p.ef;have g:(Y3 x.st.rm).pl=x.st.rm.pl:=rfl;rw[g] at f hf;have e1:r.s.rr.p.o.x.length=x.st.rm.pl.own.length:=by rw[f]
 have e2:r.s.rr.p.f.x.length=x.st.rm.pl.free.length:=by rw[hf];simp
 have k:=d.many;have l:=d.len;refine bB a aA (bB a aA (aV aA ?_));have e:((r.s.rr.p.o.x.length:Nat):Int)-(r.s.rr.p.f.x.length:Nat)=(Za x.st.rm.pl:Nat):=by unfold Za;omega
 rw[e];exact bE func46 aA ⟨rfl,c⟩
theorem Xml{r:HR}{x:HpM}(h:Ae w r x)(hx:x.Ok r.s.c)(hsl:r.s.c.cN<=500)(u:Gr)(hu:Jp w u)(ht:0<=x.st.rm.tot/\x.st.rm.tot<=900000000000):Xe prog 12 #[.agg (Db r).toArray,.agg (Ht u).toArray] w
 (Sx w r (Qr r.s.c x u) (Qs r.s.c x u) (Qt r.s.c x u) (Z9 r.s.c x u) (Yc r.s.c x u)):=by
 have hs:=hx.st;refine aR func12 ntmps12 aA (bC aA λb w1 e1 hb ai ax=>bC aA λub w2 e2 aj af ay=>bC aA λqb w3 e3 ak a3 az=>bC aA λtb w4 e4 n V b0=>?_);have A:=((af.trans a3).trans V).bP hb;have k:=(a3.trans V).bP aj;have y:=V.bP ak;have m:=((ai.trans af).trans a3).trans V;have S:=h.bQ m;refine bB k aA ?_;by_cases j:u.kind=1
 .have eX:Yc r.s.c x u=B5 r.s.c x u.a:=by unfold Yc;rw[bK j]
  have eE:Qr r.s.c x u=C2 r.s.c x u.a:=by unfold Qr;rw[bK j]
  have eG:Qs r.s.c x u=Ei r.s.c x u.a:=by unfold Qs;rw[bK j]
  have eK:Qt r.s.c x u=Ej r.s.c x u.a:=by unfold Qt;rw[bK j]
  have eB:Z9 r.s.c x u=[]:=by unfold Z9;rw[bJ (by omega)]
  refine bI aA (bB A aA (bB k aA ?_));rw[eE,eG,eK,eX,eB];refine aP aA (Xmk S hx u.a ht) ?_;rintro _ w6 ⟨I,J,o,rfl,B,f,c⟩;have M:=c.2.2.size;refine aN aA (bF (c.2.2.bP y) aA λw7 p d H=>bF (d.heap (c.2.2.bP n) (by omega)) aA λw8 q a W=>?_);have g:=(m.trans c.2.2).sn d;have i:=g.sn a;exact bD rfl func12 (Xi.cell rfl rfl rfl (a.heap p (by omega)) rfl (.cell rfl rfl rfl q rfl .nil)) ⟨I,J,o,rfl,((B.bW (λb off s' e l=>by have:=f b off s' e;omega) d).bW (λb off s' e l=>by have:=f b off s' e;omega) a),(λb off s' e=>by have:=f b off s' e;omega),(h.box c.2.1 (h.box c.2.1 c.1 (by omega) (by omega) d g) (by omega) (by omega) a i),c.2.1.dC (by omega),i⟩
 by_cases t:u.kind=2
 .have eX:Yc r.s.c x u=Cf r.s.c x u.h:=by unfold Yc;rw[bJ j,bK t]
  have eE:Qr r.s.c x u=X5 x.tb u.h:=by unfold Qr;rw[bJ j,bK t]
  have eG:Qs r.s.c x u=0:=by unfold Qs;rw[bJ j]
  have eK:Qt r.s.c x u=(if X5 x.tb u.h=0 then 2 else 0)+(1+((Cf r.s.c x u.h).st.rm.tot-x.st.rm.tot)):=by unfold Qt;rw[bJ j,bK t,eX]
  have eB:Z9 r.s.c x u=[]:=by unfold Z9;rw[bJ (by omega)]
  refine aS aA (bI aA (bB A aA (bB k aA ?_)));rw[eE,eG,eK,eX,eB];refine aP aA (Xmp S hx hsl u.h hu.h ht) ?_;rintro _ w6 ⟨I,J,o,rfl,B,f,c⟩;have M:=c.2.2.size;refine aN aA (bF (c.2.2.bP y) aA λw7 p d H=>bF (d.heap (c.2.2.bP n) (by omega)) aA λw8 q a W=>?_);have g:=(m.trans c.2.2).sn d;have i:=g.sn a;exact bD rfl func12 (Xi.cell rfl rfl rfl (a.heap p (by omega)) rfl (.cell rfl rfl rfl q rfl .nil)) ⟨I,J,o,rfl,((B.bW (λb off s' e l=>by have:=f b off s' e;omega) d).bW (λb off s' e l=>by have:=f b off s' e;omega) a),(λb off s' e=>by have:=f b off s' e;omega),(h.box c.2.1 (h.box c.2.1 c.1 (by omega) (by omega) d g) (by omega) (by omega) a i),c.2.1.dC (by omega),i⟩
 by_cases v:u.kind=3
 .have N:=XbT S hx u.h hu.h ⟨3,0,u.a,u.b,[],none,0⟩ ⟨⟨show(0:Int)<=3 by decide,show(3:Int)<256 by decide⟩,hu.a,hu.b,Rd.nil _ _ _,(λ_ h=>by cases h),XF _,XP _⟩ ht;have eG:Qs r.s.c x u=0:=by unfold Qs;rw[bJ j]
  have q1:(if X5 x.tb u.h=0 then Cr r.s.c x.st {(⟨3,0,u.a,u.b,[],none,0⟩:Dz) with own:=Ze x.tb u.h} else X5 x.tb u.h)=Qr r.s.c x u:=by unfold Qr;rw[bJ j,bJ t,bK v];unfold D1 Cr;simp
  have q2:(if X5 x.tb u.h=0 then B4 r.s.c x.st {(⟨3,0,u.a,u.b,[],none,0⟩:Dz) with own:=Ze x.tb u.h} else [])=Z9 r.s.c x u:=by unfold Z9;rw[bK v];unfold Km B4;simp
  have q3:(if X5 x.tb u.h=0 then (⟨Q7 r.s.c x.st {(⟨3,0,u.a,u.b,[],none,0⟩:Dz) with own:=Ze x.tb u.h},x.tb⟩:HpM) else x)=Yc r.s.c x u:=by unfold Yc;rw[bJ j,bJ t,bK v];unfold Gb Q7;simp
  have eK:Qt r.s.c x u=1+((Yc r.s.c x u).st.rm.tot-x.st.rm.tot):=by unfold Qt;rw[bJ j,bJ t,bK (.inl v),Int.zero_add]
  rw[q1,q2,q3] at N;rw[eG,eK];refine aS aA (aS aA (bI aA (bB A aA (bB k aA (bB k aA (bB k aA (aO aA (aP aA (N) ?_))))))));rintro _ w6 ⟨I,J,o,rfl,B,f,c⟩;have M:=c.2.2.size;refine aN aA (bF (c.2.2.bP y) aA λw7 p d H=>bF (d.heap (c.2.2.bP n) (by omega)) aA λw8 q a W=>?_);have g:=(m.trans c.2.2).sn d;have i:=g.sn a;exact bD rfl func12 (Xi.cell rfl rfl rfl (a.heap p (by omega)) rfl (.cell rfl rfl rfl q rfl .nil)) ⟨I,J,o,rfl,((B.bW (λb off s' e l=>by have:=f b off s' e;omega) d).bW (λb off s' e l=>by have:=f b off s' e;omega) a),(λb off s' e=>by have:=f b off s' e;omega),(h.box c.2.1 (h.box c.2.1 c.1 (by omega) (by omega) d g) (by omega) (by omega) a i),c.2.1.dC (by omega),i⟩
 by_cases K:u.kind=4
 .have N:=XbT S hx u.h hu.h ⟨4,0,u.a,0,u.bs,u.ba,u.bc⟩ ⟨⟨show(0:Int)<=4 by decide,show(4:Int)<256 by decide⟩,hu.a,⟨show(-9223372036854775808:Int)<=0 by decide,show(0:Int)<=9223372036854775807 by decide⟩,hu.rd.bR m,hu.rng,hu.lc,hu.len⟩ ht;have eG:Qs r.s.c x u=0:=by unfold Qs;rw[bJ j]
  have q1:(if X5 x.tb u.h=0 then Cr r.s.c x.st {(⟨4,0,u.a,0,u.bs,u.ba,u.bc⟩:Dz) with own:=Ze x.tb u.h} else X5 x.tb u.h)=Qr r.s.c x u:=by unfold Qr;rw[bJ j,bJ t,bJ v,bK K];unfold D1 Cr;simp
  have q2:(if X5 x.tb u.h=0 then B4 r.s.c x.st {(⟨4,0,u.a,0,u.bs,u.ba,u.bc⟩:Dz) with own:=Ze x.tb u.h} else [])=Z9 r.s.c x u:=by unfold Z9;rw[bJ v];unfold B4;simp
  have q3:(if X5 x.tb u.h=0 then (⟨Q7 r.s.c x.st {(⟨4,0,u.a,0,u.bs,u.ba,u.bc⟩:Dz) with own:=Ze x.tb u.h},x.tb⟩:HpM) else x)=Yc r.s.c x u:=by unfold Yc;rw[bJ j,bJ t,bJ v,bK K];unfold Gc Q7;simp
  have eK:Qt r.s.c x u=1+((Yc r.s.c x u).st.rm.tot-x.st.rm.tot):=by unfold Qt;rw[bJ j,bJ t,bK (.inr (.inl K)),Int.zero_add]
  rw[q1,q2,q3] at N;rw[eG,eK];refine aS aA (aS aA (aS aA (bI aA (bB A aA (bB k aA (bB k aA (bB k aA (aO aA (aP aA (N) ?_)))))))));rintro _ w6 ⟨I,J,o,rfl,B,f,c⟩;have M:=c.2.2.size;refine aN aA (bF (c.2.2.bP y) aA λw7 p d H=>bF (d.heap (c.2.2.bP n) (by omega)) aA λw8 q a W=>?_);have g:=(m.trans c.2.2).sn d;have i:=g.sn a;exact bD rfl func12 (Xi.cell rfl rfl rfl (a.heap p (by omega)) rfl (.cell rfl rfl rfl q rfl .nil)) ⟨I,J,o,rfl,((B.bW (λb off s' e l=>by have:=f b off s' e;omega) d).bW (λb off s' e l=>by have:=f b off s' e;omega) a),(λb off s' e=>by have:=f b off s' e;omega),(h.box c.2.1 (h.box c.2.1 c.1 (by omega) (by omega) d g) (by omega) (by omega) a i),c.2.1.dC (by omega),i⟩
 by_cases T:u.kind=5
 .have N:=XbT S hx u.h hu.h ⟨2,0,u.a,0,[],none,0⟩ ⟨⟨show(0:Int)<=2 by decide,show(2:Int)<256 by decide⟩,hu.a,⟨show(-9223372036854775808:Int)<=0 by decide,show(0:Int)<=9223372036854775807 by decide⟩,Rd.nil _ _ _,(λ_ h=>by cases h),XF _,XP _⟩ ht;have eG:Qs r.s.c x u=0:=by unfold Qs;rw[bJ j]
  have q1:(if X5 x.tb u.h=0 then Cr r.s.c x.st {(⟨2,0,u.a,0,[],none,0⟩:Dz) with own:=Ze x.tb u.h} else X5 x.tb u.h)=Qr r.s.c x u:=by unfold Qr;rw[bJ j,bJ t,bJ v,bJ K,bK T];unfold Lh Cr;simp
  have q2:(if X5 x.tb u.h=0 then B4 r.s.c x.st {(⟨2,0,u.a,0,[],none,0⟩:Dz) with own:=Ze x.tb u.h} else [])=Z9 r.s.c x u:=by unfold Z9;rw[bJ v];unfold B4;simp
  have q3:(if X5 x.tb u.h=0 then (⟨Q7 r.s.c x.st {(⟨2,0,u.a,0,[],none,0⟩:Dz) with own:=Ze x.tb u.h},x.tb⟩:HpM) else x)=Yc r.s.c x u:=by unfold Yc;rw[bJ j,bJ t,bJ v,bJ K,bK T];unfold Ho Q7;simp
  have eK:Qt r.s.c x u=1+((Yc r.s.c x u).st.rm.tot-x.st.rm.tot):=by unfold Qt;rw[bJ j,bJ t,bK (.inr (.inr T)),Int.zero_add]
  rw[q1,q2,q3] at N;rw[eG,eK];refine aS aA (aS aA (aS aA (aS aA (bI aA (bB A aA (bB k aA (bB k aA (aO aA (aP aA (N) ?_)))))))));rintro _ w6 ⟨I,J,o,rfl,B,f,c⟩;have M:=c.2.2.size;refine aN aA (bF (c.2.2.bP y) aA λw7 p d H=>bF (d.heap (c.2.2.bP n) (by omega)) aA λw8 q a W=>?_);have g:=(m.trans c.2.2).sn d;have i:=g.sn a;exact bD rfl func12 (Xi.cell rfl rfl rfl (a.heap p (by omega)) rfl (.cell rfl rfl rfl q rfl .nil)) ⟨I,J,o,rfl,((B.bW (λb off s' e l=>by have:=f b off s' e;omega) d).bW (λb off s' e l=>by have:=f b off s' e;omega) a),(λb off s' e=>by have:=f b off s' e;omega),(h.box c.2.1 (h.box c.2.1 c.1 (by omega) (by omega) d g) (by omega) (by omega) a i),c.2.1.dC (by omega),i⟩
 by_cases k6:u.kind=6
 .have eX:Yc r.s.c x u=Li r.s.c x:=by unfold Yc;rw[bJ j,bJ t,bJ v,bJ K,bJ T,bK k6]
  have eE:Qr r.s.c x u=0:=by unfold Qr;rw[bJ j,bJ t,bJ v,bJ K,bJ T,bK k6]
  have eG:Qs r.s.c x u=0:=by unfold Qs;rw[bJ j]
  have eB:Z9 r.s.c x u=[]:=by unfold Z9;rw[bJ v]
  have eK:Qt r.s.c x u=(D6 r.s.c x.st).rm.tot-x.st.rm.tot:=by unfold Qt;rw[bJ j,bJ t,bJ (by omega),eX];rfl
  rw[eE,eG,eK,eX,eB];refine aS aA (aS aA (aS aA (aS aA (aS aA (bI aA (bB A aA (aP aA (Xf7 S.s hs ⟨ht.1,by omega⟩) ?_)))))));rintro _ w6 ⟨O,rfl,a⟩;refine aN aA (bC aA λsb w7 e7 a8 a9 H=>bF a8 aA λw9 L aa an=>?_);have C:=a9.sn aa;have s:=a.2.2.trans C;have ag:=s.bP A;have D:=m.trans s;have ao:O.ra.cM-r.s.ra.cM=(D6 r.s.c x.st).rm.tot-x.st.rm.tot:=by rw[h.s.rs,a.1.rs]
  have M:=a.2.2.size;have ap:=Xg n;have aq:=Sp (u:=⟨5,0,0,0,[],none,0⟩) hs ht;rw[show Q7 r.s.c x.st ⟨5,0,0,0,[],none,0⟩=D6 r.s.c x.st by unfold Q7;rw[bJ (show ¬(5:Int)%7=0 by decide),bJ (show ¬(5:Int)%7=1 by decide),bJ (show ¬(5:Int)%7=2 by decide),bJ (show ¬(5:Int)%7=3 by decide),bJ (show ¬(5:Int)%7=4 by decide),bK (show(5:Int)%7=5 by decide)]] at aq;have b1:¬sb=qb:=by omega
  have b2:¬b=qb:=by omega
  refine aQ 14 (λz=>z=qb) (by kernel_rfl) aA λG=>aE G L aA (aE G ag aA (Xd.build Xb G rfl rfl (aE G L aA (aE G ag aA (aC G aA (Xd.build Xb G rfl rfl (Xd.cK G rfl λwc P=>Xo.store Xb G rfl (P.bP (s.bP y)) (by first|(intro h;exact rfl)|(intro h;omega)) rfl rfl rfl λwd ab E ar=>aF G aA λwe a0=>?_)))))));refine bF (a0.bP (E.heap (P.bP (s.bP n)) (show ¬tb=qb by omega))) aA λwg ac F au=>?_;have Q:=(D.trans P).sn E;have R:=(Q.trans a0).sn F;have U:Dj w4 r ⟨O,r.t⟩:=⟨a.2.1,λ_ _ h=>h⟩;exact bD rfl func12 (Xi.cell rfl rfl rfl (F.heap (a0.bP ab) (show ¬qb=tb by omega)) rfl (.cell rfl rfl rfl ac rfl .nil)) ⟨⟨O,r.t⟩,none,0,by rw[<-ao];rfl,Rd.nil _ _ _,(by intro b off s' e;cases e),(h.box U ((h.box U (⟨(a.1.bQ C).bQ P,h.t.bQ (D.trans P)⟩:Ae wc ⟨O,r.t⟩ (Li r.s.c x)) (by omega) (by omega) E Q).bQ a0) (show w.heap.size<=tb by omega) (by omega) F R),U.dC (by have:=m.size;omega),R⟩
 have eX:Yc r.s.c x u=Jw x u.a u.b:=by unfold Yc;rw[bJ j,bJ t,bJ v,bJ K,bJ T,bJ k6]
 have eE:Qr r.s.c x u=Ca x.st u.a u.b:=by unfold Qr;rw[bJ j,bJ t,bJ v,bJ K,bJ T,bJ k6]
 have eG:Qs r.s.c x u=0:=by unfold Qs;rw[bJ j]
 have eB:Z9 r.s.c x u=[]:=by unfold Z9;rw[bJ v]
 have eK:Qt r.s.c x u=0:=by
  unfold Qt;rw[bJ j,bJ t,bJ (by omega),eX];have:(Jw x u.a u.b).st.rm.tot=x.st.rm.tot:=by unfold Jw Df;split <;> rfl
  omega
 rw[eE,eG,eK,eX,eB];refine aS aA (aS aA (aS aA (aS aA (aS aA (aS aA (bB A aA (bB k aA (bB k aA (aP aA (Xf6 S.s hs u.a u.b) ?_)))))))));rintro _ w6 ⟨O,rfl,a⟩;refine aN aA (bC aA λsb w7 e7 a8 a9 H=>bF a8 aA λw9 L aa an=>?_);have C:=a9.sn aa;have s:=a.2.2.trans C;have D:=m.trans s;have ap:=Xg n;refine bB L aA (bB (s.bP A) aA (aO aA (aO aA (bF (s.bP y) aA λwd ab E ar=>bF (E.heap (s.bP n) (show ¬tb=qb by omega)) aA λwg ac F au=>?_))));have Q:=D.sn E;have R:=Q.sn F;have U:Dj w4 r ⟨O,r.t⟩:=⟨a.2.1,λ_ _ h=>h⟩;exact bD rfl func12 (Xi.cell rfl rfl rfl (F.heap ab (show ¬qb=tb by omega)) rfl (.cell rfl rfl rfl ac rfl .nil)) ⟨⟨O,r.t⟩,none,0,rfl,Rd.nil _ _ _,(by intro b off s' e;cases e),(h.box U (h.box U (⟨a.1.bQ C,h.t.bQ D⟩:Ae w9 ⟨O,r.t⟩ (Jw x u.a u.b)) (by omega) (by omega) E Q) (show w.heap.size<=tb by omega) (by omega) F R),U.dC (by have:=m.size;omega),R⟩
def Ku(x:Nat):Bool:=(FloatKind.format .f64).order x x == some .eq
theorem Xe9(t:Nat):Ku (t%2*2^63+0x7ff0000000000000+1+t/2%(2^52-1))=false:=by
 have:(FloatKind.format .f64).order (t%2*2^63+9218868437227405312+1+t/2%(2^52-1)) (t%2*2^63+9218868437227405312+1+t/2%(2^52-1))=none:=by
  have a:t/2%(2^52-1)<2^52-1:=YQ _ (by decide);generalize t/2%(2^52-1)=u at *
  have b:t%2<2:=YQ _ (by decide);generalize t%2=z at *
  have:∃sg fr,Ieee.double.read (z*2^63+9218868437227405312+1+u)=.nan sg fr:=by
   unfold Ieee.Format.read;rw[show Ieee.double.signWeight=2^63 from rfl,show Ieee.double.binade=2^52 from rfl,show Ieee.double.infRung=2047*2^52 from rfl];have e2:(z*2^63+9218868437227405312+1+u)%2^63=9218868437227405312+1+u:=by omega
   simp only[e2];rw[bJ (by omega),bJ (by omega),bJ (by omega)];exact⟨_,_,rfl⟩
  obtain⟨sg,fr,e⟩:=this;show Ieee.Format.order _ _ _=_
  unfold Ieee.Format.order;rw[show FloatKind.format .f64=Ieee.double from rfl,e];rfl
 unfold Ku;rw[this];rfl
def Xde(x y:Nat):Prop:=x=y\/Ku x=false/\Ku y=false
theorem Xlh{a x:Nat}(h:G6 a b x)(k:G6 a b y):Xde x y:=by
 unfold G6 at h k;split at h
 .rename_i r e
  rw[e] at k;exact .inl (h.trans k.symm)
 .rename_i e
  rw[e] at k;obtain⟨t,rfl⟩:=h;obtain⟨u,rfl⟩:=k;exact .inr ⟨Xe9 t,Xe9 u⟩
theorem XfN(x:Nat)(w:dD):Xe prog 95 #[.float .f64 x] w (X3 (.bool (Ku x)) w):=by
 exact aR func95 ntmps95 aA (Xa.fcmp Xb rfl (v:=Ku x) rfl rfl (bE func95 aA ⟨rfl,rfl⟩))
theorem Xe2(x:Nat):Wu prog 96 #[.float .f64 x] (.int .u64 x):=⟨_,Extern.MathFloatBits.float64bits,func96,by kernel_rfl,by kernel_rfl,by kernel_rfl,by kernel_rfl,λ_=>rfl⟩
theorem Xlu(x y:Nat)(h:Xde x y)(w:dD):Xe prog 47 #[.float .f64 x,.float .f64 y] w (X3 (.bool true) w):=by
 refine aR func47 ntmps47 aA (bH (XfN x w) aA ?_);by_cases q:Ku x=true
 .obtain rfl:x=y:=h.resolve_right (λg=>by rw[q] at g;cases g.1);rw[q];exact aS aA (Xa.ext Xb rfl (Xe2 x) rfl (Xa.ext Xb rfl (Xe2 x) rfl (bE func47 aA ⟨by simp,rfl⟩)))
 .have q0:Ku x=false:=by simpa using q
  have a:Ku y=false:=by rcases h with rfl|g;exact q0;exact g.2
  rw[q0];refine bI aA (bH (XfN y w) aA ?_);rw[a];exact bI aA (bE func47 aA ⟨rfl,rfl⟩)
theorem Xlt(a b:Int)(w:dD):Xe prog 97 #[.int .i64 a,.int .i64 b] w (λv w'=>∃r,v=.float .f64 r/\G6 (FloatKind.nearest .f64 a) (FloatKind.nearest .f64 b) r/\Xc Xf w w'):=by
 exact aR func97 ntmps97 aA (Xa.fconv Xb rfl rfl (Xa.fconv Xb rfl rfl (Xa.fquo Xb rfl (λ_=>rfl) λr e d c=>bE func97 aA ⟨r,rfl,d,c⟩)))
theorem Xmo{r:HR}{x:HpM}(h:Ae w r x)(hx:x.Ok r.s.c):Xe prog 48 #[.agg (Db r).toArray] w (λv w'=>∃z,v=.float .f64 z/\G6 (FloatKind.nearest .f64 (Zl x.st)) (FloatKind.nearest .f64 ((Za x.st.rm.pl:Nat)*r.s.c.size)) z/\Xc Xf w w'):=by
 have a:=Z4 hx.st.may;have g:((Za x.st.rm.pl:Nat):Int)<=1024:=by
  have:=Mz x.st.rm.pl.own;have:=hx.st.rm.ok.own;have:=a.bS;unfold Za;omega
 have k:0<=((Za x.st.rm.pl:Nat):Int)*r.s.c.size/\((Za x.st.rm.pl:Nat):Int)*r.s.c.size<=1024*4096:=⟨ZI (by omega) (by have:=a.size;omega),ZG g (by have:=a.size;omega) (by have:=a.size;omega) (by decide)⟩;refine aR func48 ntmps48 aA (bC aA λb o e1 f d n=>?_);refine aQ 9 Xf (by kernel_rfl) aA λc=>aE c f aA (aG c (λw' e=>Xmb ((h.bQ d).s.bQ e) hx.st) aA (aE c f aA (aG c (λw' e=>Xgc ((h.bQ d).bQ e) hx.st.rm.cU.cV) aA (aE c f aA (aF c aA λl i=>aV aA (aP aA (Xlt _ _ l) ?_))))));rintro _ p ⟨z,rfl,m,j⟩;exact aN aA (bE func48 aA ⟨z,rfl,m,(d.trans i).trans j⟩)
end Go.Proofs.YtdeihcnepljjaaaGreatDoor
