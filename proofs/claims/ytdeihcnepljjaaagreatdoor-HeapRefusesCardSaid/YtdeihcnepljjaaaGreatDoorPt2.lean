/-
  Texts put together: Shelf, Shelf2, Shelf3, Shelf4, Shelf5, Shst, Shp, Back13, RowsD, Ref12, Ref08, Ref08b, Ref13, Ref13b.
-/
import Derived.Test.YtdeihcnepljjaaaGreatDoorPt1
import Derived.Test.YtdeihcnepljjaaaGreatDoorQRule13
import Derived.Test.YtdeihcnepljjaaaGreatDoorQRule25
import Derived.Test.YtdeihcnepljjaaaGreatDoorQRule8
import Derived.Test.YtdeihcnepljjaaaGreatDoorQRule9
import Derived.Test.YtdeihcnepljjaaaGreatDoorQRule6
import Derived.Test.YtdeihcnepljjaaaGreatDoorQRule15
set_option linter.unusedVariables false
set_option maxRecDepth 100000
namespace Go.Proofs.YtdeihcnepljjaaaGreatDoor
open Go.RowKit
open Go renaming World→dD,Value→dE
open Bool renaming false_eq_true->ZR,eq_iff_iff->QV
open Int renaming toNat_natCast->XB,eq_ofNat_of_zero_le->XE
open List renaming getD_eq_getElem?_getD->XA,getElem?_eq_some_iff->XC,getElem?_eq_getElem->XD,length_set->XG,length_replicate->XI,map_append->XL,getElem_mem->XM,getElem?_map->XN,length_cons->XO,mem_map->XP,nodup_append->XR,mem_append->XS,nodup_cons->XU,length_map->XV,mem_of_getElem?->XW,length_take->XX,take_append_drop->XY,getElem?_append_left->XZ,mem_cons->ZB,length_append->ZC,getElem?_eq_none->ZF,take_add_one->ZH,filter_cons->ZI,map_cons->ZK,take_length->ZL,nil_append->ZS,drop_eq_getElem_cons->ZV,map_congr_left->ZW,getElem?_set->ZX,map_set->ZZ,length_eq_zero_iff->YB,set_append_left->YK,filter_eq_self->YN,take_of_length_le->YP,getElem_map->YU,getElem?_take->YV,getElem?_toArray->YW,nodup_nil->YX,mem_append_right->YY,range_succ->QB,ext_getElem?->QD,length_drop->QH,filter_append->QO,mem_append_left->QR
open Nat renaming le_refl->XF,zero_le->XQ,zero_add->XT,le_trans->ZN,mul_one->ZQ
open Option renaming getD_some->ZU,map_eq_some_iff->QK,map_some->QY
open Go.Proofs.Tryz (func187 func195 func236 func238 func249 func250 func252 func255 func257 func260 func264 func265 func266 func267 func268 func269 func270 func271 func273 func274 func284 func292 func297 func298 func299 func301 func302 ntmps187 ntmps195 ntmps236 ntmps238 ntmps249 ntmps250 ntmps252 ntmps255 ntmps257 ntmps260 ntmps264 ntmps265 ntmps266 ntmps267 ntmps268 ntmps269 ntmps270 ntmps271 ntmps273 ntmps274 ntmps284 ntmps292 ntmps297 ntmps298 ntmps299 ntmps301 ntmps302 prog)
variable {ahead by' cS h cH size cN u who z:Int}{lg:List (Nat×List Nat)}{bs l p zs:List Int}{l2 ws:List Nat}{cs rest xs:List dE}{N at' b base cap d fuel g i j k lm lo m n o qb sz t tm ty vb xb y:Nat}{fz:Nat×Nat}{f:Nat->Int}{G:Nat->Pg}{B C F F' Fr Q S S' T X:Nat->Prop}{a:Option Addr}{pg:PgL}{pl':PlM}{x x':Sm}{α:Type}{v:dE}{w w' w'' w0 w1 w2:dD}{cells:α->List dE}
def kd(w:dD)(b:Nat):Option (Option Nat):=match w.heap[b]? with
 |some (.cells _ t _)=>some (some t)
 |some (.map _ _)=>some none
 |_=>none
theorem X1{w:dD}{c:Array dE}{f:Nat×Nat}(h:w.heap[b]?=some (.cells c t f)):kd w b=some (some t):=by unfold kd;rw[h]
theorem Ro{w:dD}{m:AL}(h:Yx w b m):kd w b=some none:=by
 obtain⟨es,c,hm,_⟩:=h;unfold kd;rw[hm]
theorem Xs{w:dD}{a:Nat}{x y:Option (Option Nat)}(h1:kd w a=x)(h2:kd w b=y)(h:x≠y):a≠b:=λe=>h (by rw[<-h1,<-h2,e])
theorem Dg{w:dD}{x:Option Nat}(h:kd w b=some x):b<w.heap.size:=by
 by_cases a:b<w.heap.size
 .exact a
 .unfold kd at h;rw[Array.getElem?_eq_none (by omega)] at h;cases h
theorem Lu{w:dD}(h:Bi w)(hb:∀v,w.cell? ⟨b,0,none⟩≠some (.int .u8 v)):1≠b:=λe=>by
 exact hb _ ((congrArg (λx=>w.cell? ⟨x,0,none⟩) e.symm).trans (h 0 (by decide)))
structure Sh where
 sb:Nat
 sm:Nat
 R:Rg
 P:Pl
abbrev Cm(S:Sh):dE:=.pointer (some ⟨S.sb,0,none⟩)
def Ng(S:Sh)(cL:Int)(cF:Nat)(used:Int):List dE:=[Fb S.P,.int .i64 cL,.int .i64 (cF:Int),.map (some S.sm),Io S.R,.int .i64 used]
structure Qc(w:dD)(S:Sh)(G:Nat->Pg)(cL:Int)(cF:Nat)(pg:PgL)(cG:List Nat)(used:Int):Prop where
 nodup:(pg.map (·.1)).Nodup
 tab:Bi w
 obj:w.heap[S.sb]?=some (.cells (Ng S cL cF used).toArray 314 (0,0))
 map:∃m,Yx w S.sm m/\(Bj m).Nodup/\m.length=pg.length/\(∀e∈pg,Bq m e.1=some (E9 (G e.1)))/\∀k:Int,(∀e∈pg,(e.1:Int)≠k)->Bq m k=none
 ring:Ei w S.R cG
 bS:∀e∈pg,Q7 w (G e.1) e.2
 sep:∀e∈pg,(G e.1).mb≠S.sm/\∀e'∈pg,e.1≠e'.1->(G e.1).bb≠(G e'.1).bb/\(G e.1).mb≠(G e'.1).mb
def Qh(S:Sh)(G:Nat->Pg)(pg:PgL):Nat->Prop:=λz=>z=S.sb\/z=S.sm\/Hy S.R z\/∃e∈pg,G8 (G e.1) z
structure XhY(w:dD)(S:Sh):Prop where
 sb:kd w S.sb=some (some 314)
 sm:kd w S.sm=some none
 lb:kd w S.R.lb=some (some 352)
 ab:kd w S.R.ab=some (some 357)
 nb:kd w S.R.nb=some (some 359)
structure XhU(w:dD)(g:Pg):Prop where
 p:kd w g.p=some (some 348)
 bb:kd w g.bb=some (some 375)
 mb:kd w g.mb=some none
theorem Q7.kds{w:dD}{g:Pg}{x:List Int}(h:Q7 w g x):XhU w g:=by
 obtain⟨m,hm,_⟩:=h.own;obtain⟨ws,_,_,_,a⟩:=h.bits.ws;exact⟨X1 h.pc,X1 a,Ro hm⟩
theorem Qc.kds{w:dD}{S:Sh}{G:Nat->Pg}{cL:Int}{cF:Nat}{pg:PgL}{cG:List Nat}{used:Int}(h:Qc w S G cL cF pg cG used):XhY w S:=by
 obtain⟨m,hm,_⟩:=h.map;obtain⟨g,f,a,b,_⟩:=h.ring.at';exact⟨X1 h.obj,Ro hm,X1 h.ring.obj,X1 a,X1 b⟩
theorem Xct{w:dD}{g:Pg}{x:List Int}(h:Q7 w g x):¬G8 g 1:=λa=>by
 rcases a with e|e
 .exact h.bits.ne e
 .exact h.notab e
theorem Q7.other{w w':dD}{g g':Pg}{x x':List Int}(h:Q7 w g x)(h':Q7 w g' x')(hb:g'.bb≠g.bb)(hm:g'.mb≠g.mb)(hc:Xc (G8 g) w w'):Q7 w' g' x':=by
 have k:=h.kds;have k':=h'.kds;refine h'.bR hc ?_ ?_ ?_ (Xct h)
 .rintro(e|e)
  .exact Xs k'.p k.bb (by decide) e
  .exact Xs k'.p k.mb (by decide) e
 .rintro(e|e)
  .exact hb e
  .exact Xs k'.bb k.mb (by decide) e
 .rintro(e|e)
  .exact Xs k'.mb k.bb (by decide) e
  .exact hm e
section
variable {w w':dD}{S:Sh}{G:Nat->Pg}{cL:Int}{cF:Nat}{pg:PgL}{cG:List Nat}{used:Int}
theorem Qc.bR{S':Nat->Prop}(h:Qc w S G cL cF pg cG used)(hc:Xc S' w w')(h1:∀z,S' z->z≠S.sb/\z≠S.sm/\z≠S.R.lb/\¬Hy S.R z)(h2:∀z,S' z -> ∀e∈pg,z≠(G e.1).p/\¬G8 (G e.1) z)(h3:¬S' 1):Qc w' S G cL cF pg cG used:=by
 obtain⟨m,hm,r⟩:=h.map;exact⟨h.nodup,h.tab.bR hc h3,hc.heap h.obj (λa=>(h1 _ a).1 rfl),⟨m,hm.bR hc (λa=>(h1 _ a).2.1 rfl),r⟩,h.ring.bR hc (λa=>(h1 _ a).2.2.1 rfl) (λa=>(h1 _ a).2.2.2 (.inl rfl)) (λa=>(h1 _ a).2.2.2 (.inr rfl)),
  λe b=>(h.bS e b).bR hc (λa=>(h2 _ a e b).1 rfl) (λa=>(h2 _ a e b).2 (.inl rfl)) (λa=>(h2 _ a e b).2 (.inr rfl)) h3,h.sep⟩
theorem Qc.bQ(h:Qc w S G cL cF pg cG used)(hc:Xc Xe w w'):Qc w' S G cL cF pg cG used:=h.bR hc (λ_ h=>h.elim) (λ_ h=>h.elim) id
theorem Qc.apart(h:Qc w S G cL cF pg cG used){z:Nat}(hz:kd w z=some (some t))(ht:t≠314/\t≠352/\t≠357/\t≠359/\t≠348/\t≠375):(z≠S.sb/\z≠S.sm/\z≠S.R.lb/\¬Hy S.R z)/\∀e∈pg,z≠(G e.1).p/\¬G8 (G e.1) z:=by
 have k:=h.kds;have d:∀{t':Nat},t≠t'->some (some t)≠some (some t'):=λh e=>h (Option.some.inj (Option.some.inj e));refine⟨⟨Xs hz k.sb (d ht.1),Xs hz k.sm (by simp),Xs hz k.lb (d ht.2.1),?_⟩,λe a=>?_⟩
 .rintro(e|e)
  .exact Xs hz k.ab (d ht.2.2.1) e
  .exact Xs hz k.nb (d ht.2.2.2.1) e
 .have kp:=(h.bS e a).kds;refine⟨Xs hz kp.p (d ht.2.2.2.2.1),?_⟩;rintro(e|e)
  .exact Xs hz kp.bb (d ht.2.2.2.2.2) e
  .exact Xs hz kp.mb (by simp) e
theorem Qc.cR(h:Qc w S G cL cF pg cG used){p':List Int}(hp:(n,p)∈pg)(hk:Q7 w' (G n) p')(hc:Xc (G8 (G n)) w w'):Qc w' S G cL cF (Zr pg n p') cG used:=by
 have k:=h.kds;have d:=h.bS _ hp;have kp:=d.kds;obtain⟨m,hm,s,u,g,v⟩:=h.map;have hf:∀z t,kd w z=some (some t)->t≠375 -> ¬G8 (G n) z:=λz t i ht=>by
  rintro(e|e)
  .exact Xs i kp.bb (λe=>ht (Option.some.inj (Option.some.inj e))) e
  .exact Xs i kp.mb (by simp) e
 have l:¬G8 (G n) S.sm:=by
  rintro(e|e)
  .exact Xs k.sm kp.bb (by simp) e
  .exact(h.sep _ hp).1 e.symm
 refine⟨by rw[Lr];exact h.nodup,h.tab.bR hc (Xct d),hc.heap h.obj (hf _ _ k.sb (by decide)),⟨m,hm.bR hc l,s,by unfold Zr;rw[XV];exact u,λe c=>?_,λj o=>v j λe c=>?_⟩,h.ring.bR hc (hf _ _ k.lb (by decide)) (hf _ _ k.ab (by decide)) (hf _ _ k.nb (by decide)),λe c=>?_,λe c=>?_⟩
 .rcases G5 c with⟨rfl,_⟩|⟨_,c⟩
  .exact g (n,p) hp
  .exact g e c
 .by_cases e1:e.1=n
  .have:=o (n,p') (XP.2 ⟨e,c,bK e1⟩);rw[e1];exact this
  .exact o e (XP.2 ⟨e,c,bJ e1⟩)
 .rcases G5 c with⟨rfl,_⟩|⟨r,c⟩
  .exact hk
  .obtain⟨a,b⟩:=(h.sep _ hp).2 e c (Ne.symm r);exact d.other (h.bS e c) a.symm b.symm hc
 .have old:∃q,(e.1,q)∈pg:=by
   rcases G5 c with⟨rfl,_⟩|⟨_,c⟩
   .exact⟨p,hp⟩
   .exact⟨e.2,c⟩
  obtain⟨q,x⟩:=old;obtain⟨a,b⟩:=h.sep _ x;refine⟨a,λe' f=>?_⟩;rcases G5 f with⟨rfl,_⟩|⟨_,f⟩
  .exact b (n,p) hp
  .exact b e' f
theorem Qc.setUsed(h:Qc w S G cL cF pg cG used)(ho:w'.heap[S.sb]?=some (.cells (Ng S cL cF u).toArray 314 (0,0)))(hc:Xc (λz=>z=S.sb) w w'):Qc w' S G cL cF pg cG u:=by
 have k:=h.kds;obtain⟨m,hm,r⟩:=h.map;have a:=Lu h.tab (λv e=>by rw[Ys h.obj] at e;simp[Ng] at e);exact⟨h.nodup,h.tab.bR hc a,ho,⟨m,hm.bR hc (Xs k.sm k.sb (by simp)),r⟩,h.ring.bR hc (Xs k.lb k.sb (by decide)) (Xs k.ab k.sb (by decide)) (Xs k.nb k.sb (by decide)),
  λe b=>by have kp:=(h.bS e b).kds;exact(h.bS e b).bR hc (Xs kp.p k.sb (by decide)) (Xs kp.bb k.sb (by decide)) (Xs kp.mb k.sb (by simp)) a,h.sep⟩
theorem Xha{R:Rg}{o:List Nat}(h:Ei w R o)(ht:Bi w):¬Hy R 1:=λa=>by
 obtain⟨g,f,b,c,_⟩:=h.at';rcases a with e|e
 .exact Lu ht (λv e=>by rw[Ca b (j:=0) (k:=0) rfl (by decide)] at e;cases e) e
 .exact Lu ht (λv e=>by rw[Ca c (j:=0) (k:=0) rfl (by decide)] at e;cases e) e
theorem Qc.setRing(h:Qc w S G cL cF pg cG used){o:List Nat}(hr:Ei w' S.R o)(hc:Xc (Hy S.R) w w'):Qc w' S G cL cF pg o used:=by
 have k:=h.kds;obtain⟨m,hm,r⟩:=h.map;have a:=Xha h.ring h.tab;have hf:∀z x,kd w z=some x->x≠some 357->x≠some 359 -> ¬Hy S.R z:=λz x b d f=>by
  rintro(e|e)
  .exact Xs b k.ab (λe=>d (Option.some.inj e)) e
  .exact Xs b k.nb (λe=>f (Option.some.inj e)) e
 exact⟨h.nodup,h.tab.bR hc a,hc.heap h.obj (hf _ _ k.sb (by decide) (by decide)),⟨m,hm.bR hc (hf _ _ k.sm (by simp) (by simp)),r⟩,hr,
  λe c=>by have kp:=(h.bS e c).kds;exact(h.bS e c).bR hc (hf _ _ kp.p (by decide) (by decide)) (hf _ _ kp.bb (by decide) (by decide)) (hf _ _ kp.mb (by simp) (by simp)) a,h.sep⟩
theorem Xcs{r:Nat}{m:AL}(h:Yx w r m)(ht:Bi w):1≠r:=by
 obtain⟨es,c,hm,_⟩:=h;exact Lu ht (λv e=>by simp only[World.cell?,hm] at e;cases e)
theorem Qc.del(h:Qc w S G cL cF pg cG used)(hp:(n,p)∈pg)(hm':∀m,Yx w S.sm m->Yx w' S.sm (Dp m n))(hc:Xc (λz=>z=S.sm) w w'):Qc w' S G cL cF (Qv pg n) cG used:=by
 have k:=h.kds;obtain⟨m,hm,d,o,f,i⟩:=h.map;have g:=Xcs hm h.tab;refine⟨by rw[XgG];exact h.nodup.filter _,h.tab.bR hc g,hc.heap h.obj (Xs k.sb k.sm (by simp)),⟨Dp m n,hm' m hm,by rw[Wy];exact d.erase _,?_,λe a=>?_,λj l=>?_⟩,h.ring.bR hc (Xs k.lb k.sm (by simp)) (Xs k.ab k.sm (by simp)) (Xs k.nb k.sm (by simp)),λe a=>?_,λe a=>?_⟩
 .have:=(Vm h.nodup hp).2;rw[Xh2,f _ hp];simp only[Option.isSome_some,if_true];omega
 .obtain⟨c,a⟩:=I8.1 a;rw[L6 d,bJ (by omega)];exact f e a
 .rw[L6 d];by_cases e:j=n
  .rw[bK e]
  .rw[bJ e];refine i j λe' b=>?_;by_cases e2:e'.1=n
   .rw[e2];exact λh=>e h.symm
   .exact l e' (I8.2 ⟨e2,b⟩)
 .obtain⟨c,a⟩:=I8.1 a;have kp:=(h.bS e a).kds;exact(h.bS e a).bR hc (Xs kp.p k.sm (by simp)) (Xs kp.bb k.sm (by simp)) (h.sep e a).1 g
 .obtain⟨c,a⟩:=I8.1 a;exact⟨(h.sep e a).1,λe' b=>(h.sep e a).2 e' (I8.1 b).2⟩
def Im(G:Nat->Pg)(n:Nat)(g:Pg):Nat->Pg:=λm=>if m=n then g else G m
theorem Qc.add(h:Qc w S G cL cF pg cG used){g:Pg}(hn:n∉pg.map (·.1))(hg:Q7 w g p)(hsm:g.mb≠S.sm)(hd:∀e∈pg,(G e.1).bb≠g.bb/\(G e.1).mb≠g.mb)(hm':∀m,Yx w S.sm m->Yx w' S.sm (C2 m n (E9 g)))(hc:Xc (λz=>z=S.sm) w w'):Qc w' S (Im G n g) cL cF (pg++[(n,p)]) cG used:=by
 have k:=h.kds;obtain⟨m,hm,v,x,y,s⟩:=h.map;have l:=Xcs hm h.tab;have o:∀e∈pg,Im G n g e.1=G e.1:=λe he=>bJ (λe'=>hn (XP.2 ⟨e,he,e'⟩));have f:Im G n g n=g:=bK rfl;have i:Bq m n=none:=s n λe he e'=>hn (XP.2 ⟨e,he,by omega⟩);have kg:=hg.kds;refine⟨?_,h.tab.bR hc l,hc.heap h.obj (Xs k.sb k.sm (by simp)),⟨C2 m n (E9 g),hm' m hm,?_,?_,λe he=>?_,λj t=>?_⟩,h.ring.bR hc (Xs k.lb k.sm (by simp)) (Xs k.ab k.sm (by simp)) (Xs k.nb k.sm (by simp)),λe he=>?_,λe he=>?_⟩
 .rw[XL];refine XR.2 ⟨h.nodup,by simp,λa q b r e=>?_⟩;have:b=n:=by simpa using r
  exact hn (this▸e▸q)
 .rw[W0];have:=Td.1 i;rw[bJ this];refine XR.2 ⟨v,by simp,λa q b r e=>?_⟩;have u:b=(n:Int):=by simpa using r
  exact this (u▸e▸q)
 .rw[Xh9,i];simp[x]
 .rw[Js];rcases XS.1 he with he|he
  .have d:e.1≠n:=λe'=>hn (XP.2 ⟨e,he,e'⟩);rw[bJ (by omega),o e he];exact y e he
  .have:e=(n,p):=by simpa using he
   subst this;rw[bK rfl,f]
 .rw[Js,bJ (λe=>(t (n,p) (by simp)) e.symm)];exact s j λe he=>t e (QR _ he)
 .rcases XS.1 he with he|he
  .rw[o e he];have kp:=(h.bS e he).kds;exact(h.bS e he).bR hc (Xs kp.p k.sm (by simp)) (Xs kp.bb k.sm (by simp)) (h.sep e he).1 l
  .have:e=(n,p):=by simpa using he
   subst this;show Q7 w' (Im G n g n) p
   rw[f];exact hg.bR hc (Xs kg.p k.sm (by simp)) (Xs kg.bb k.sm (by simp)) hsm l
 .have gl:∀e∈pg++[(n,p)],(e∈pg/\Im G n g e.1=G e.1)\/(e.1=n/\Im G n g e.1=g):=λe he=>by
   rcases XS.1 he with he|he
   .exact .inl ⟨he,o e he⟩
   .have:e=(n,p):=by simpa using he
    subst this;exact .inr ⟨rfl,f⟩
  rcases gl e he with⟨he,e1⟩|⟨en,e1⟩
  .rw[e1];refine⟨(h.sep e he).1,λe' c d=>?_⟩;rcases gl e' c with⟨c,e2⟩|⟨_,e2⟩
   .rw[e2];exact(h.sep e he).2 e' c d
   .rw[e2];exact hd e he
  .rw[e1];refine⟨hsm,λe' c d=>?_⟩;rcases gl e' c with⟨c,e2⟩|⟨en',e2⟩
   .rw[e2];exact⟨(hd e' c).1.symm,(hd e' c).2.symm⟩
   .exact absurd (en.trans en'.symm) d
theorem Qc.foot_lt(h:Qc w S G cL cF pg cG used):∀z,Qh S G pg z->z<w.heap.size:=λz a=>by
 have k:=h.kds;rcases a with rfl|rfl|(rfl|rfl)|⟨e,b,a⟩
 .exact Dg k.sb
 .exact Dg k.sm
 .exact Dg k.ab
 .exact Dg k.nb
 .exact(h.bS e b).footlt z a
theorem Qc.look(h:Qc w S G cL cF pg cG used)(n:Int):∃m,Yx w S.sm m/\Bv m (.pointer none) n false=(match Zg pg n with|some _=>E9 (G n.toNat)|none=>.pointer none):=by
 obtain⟨m,hm,f,g,b,c⟩:=h.map;refine⟨m,hm,?_⟩;unfold Bv;cases a:Zg pg n with
 |none=>rw[c n (Xcc a)];rfl
 |some p=>
  obtain⟨k,rfl,d⟩:=Iq a;rw[b _ d];rfl
end
theorem Lg:∀(N:Nat) (l:List Nat),l.Nodup->(∀n∈l,n<N)->l.length<=N
 |0,l,_,h=>by
  cases l with
  |nil=>exact XF _
  |cons a r=>exact absurd (h a (by simp)) (Nat.not_lt_zero _)
 |N+1,l,b,h=>by
  have ih:=Lg N (l.erase N) (b.erase N) (λn hm=>by
   obtain⟨d,c⟩:=(b.mem_erase_iff).1 hm;have:=h n c;omega)
  by_cases hm:N∈l
  .rw[List.length_erase_of_mem hm] at ih;omega
  .rw[List.erase_of_not_mem hm] at ih;omega
theorem Xd7:∀{m m':AL},(m.map λp=>((Value.int .i64 p.1,p.2):dE×dE))=m'.map (λp=>(Value.int .i64 p.1,p.2))->m=m'
 |[],[],_=>rfl
 |[],_::_,h=>by cases h
 |_::_,[],h=>by cases h
 |(a,v)::r,(b,u)::t,h=>by
  simp only[ZK,List.cons.injEq,Prod.mk.injEq,Value.int.injEq,true_and] at h;obtain⟨⟨rfl,rfl⟩,h⟩:=h;rw[Xd7 h]
theorem Yx.uniq{w:dD}{r:Nat}{m m':AL}(h:Yx w r m)(h':Yx w r m'):m=m':=by
 obtain⟨es,c,f,a⟩:=h;obtain⟨es',c',b,d⟩:=h';rw[f] at b;cases b
 unfold Ak at a d;exact Xd7 (a.symm.trans d)
theorem Sm.Ok.few(h:x.Ok):x.pg.length<=1024/\x.cG.length<=1024/\Y8 x.pg<=524288:=by
 have a:=Lg _ _ h.nodup (λn c=>by obtain⟨e,d,rfl⟩:=XP.1 c;exact(h.cI e d).1);rw[XV] at a;have g:=XgK (l:=x.pg) (b:=x.cF) (λe d=>(h.cI e d).2.1);have i:=Nat.mul_le_mul a h.blk.2;exact⟨a,(Lg 1024 x.cG h.onodup (λn c=>by obtain⟨p,f⟩:=h.osub n c;exact(h.cI _ f).1)),by omega⟩
theorem Z2.kds{w:dD}{P:Pl}{x:PlM}(h:Z2 w P x):kd w P.pb=some (some 291)/\kd w P.ab=some (some 337):=by
 obtain⟨head,f,a,b,_⟩:=h.at';exact⟨X1 a,X1 b⟩
def Bk(S:Sh)(G:Nat->Pg)(pg:PgL):Nat->Prop:=λz=>Qh S G pg z\/Ax S.P z
section
variable {w w':dD}{S:Sh}{G:Nat->Pg}{cL:Int}{cF:Nat}{pg:PgL}{cG:List Nat}{used:Int}{pl:PlM}
theorem Qc.notpool(h:Qc w S G cL cF pg cG used)(hp:Z2 w S.P pl):¬Qh S G pg S.P.pb/\¬Qh S G pg S.P.ab:=by
 obtain⟨f,g⟩:=hp.kds;have a:=h.apart f (by decide);have b:=h.apart g (by decide);constructor
 .rintro(e|e|e|⟨e,c,d⟩)
  .exact a.1.1 e
  .exact a.1.2.1 e
  .exact a.1.2.2.2 e
  .exact(a.2 e c).2 d
 .rintro(e|e|e|⟨e,c,d⟩)
  .exact b.1.1 e
  .exact b.1.2.1 e
  .exact b.1.2.2.2 e
  .exact(b.2 e c).2 d
theorem Z2.bW(h:Qc w S G cL cF pg cG used)(hp:Z2 w S.P pl)(hc:Xc S' w w')(hs:∀z,S' z->Qh S G pg z):Z2 w' S.P pl:=by
 obtain⟨a,b⟩:=h.notpool hp;exact hp.bR hc (λc=>a (hs _ c)) (λc=>b (hs _ c))
theorem Xcu(ht:Bi w)(hp:Z2 w S.P pl):¬Ax S.P 1:=λc=>by
 obtain⟨head,f,a,b,_⟩:=hp.at';have d:=hp.cV.len;rcases c with e|e
 .exact Lu ht (λv e=>by rw[Ys a] at e;simp[Li] at e) e
 .exact Lu ht (λv e=>by rw[Ca b (j:=0) (k:=0) rfl (by omega)] at e;cases e) e
theorem Qc.pool(h:Qc w S G cL cF pg cG used)(hp:Z2 w S.P pl)(hc:Xc (Ax S.P) w w'):Qc w' S G cL cF pg cG used:=by
 obtain⟨d,f⟩:=hp.kds;have b:=h.apart d (by decide);have c:=h.apart f (by decide);refine h.bR hc (λz a=>?_) (λz a=>?_) (Xcu h.tab hp)
 .rcases a with rfl|rfl
  .exact b.1
  .exact c.1
 .rcases a with rfl|rfl
  .exact b.2
  .exact c.2
end
structure Qs(w:dD)(S:Sh)(G:Nat->Pg)(x:Sm)(pl:PlM):Prop where
 ok:x.Ok
 pos:x.Pos
 of:x.Of pl
 at':Qc w S G x.cL x.cF x.pg x.cG (Y8 x.pg:Nat)
 pool:Z2 w S.P pl
theorem Qs.bQ{w w':dD}{S:Sh}{G:Nat->Pg}{x:Sm}{pl:PlM}(h:Qs w S G x pl)(hc:Xc Xe w w'):Qs w' S G x pl:=⟨h.ok,h.pos,h.of,h.at'.bQ hc,h.pool.bQ hc⟩
theorem Ol{pl:PlM}(hok:x.Ok)(hof:x.Of pl)(hg:pl.Good)(hn:n∈pl.free):n∉x.pg.map (·.1):=λhm=>by
 obtain⟨e,a,rfl⟩:=XP.1 hm;have b:=(hof e a).2;have c:=(hg.free _ hn).2;have:=hok.cL;omega
theorem XmV(S:Sh)(G:Nat->Pg)(x:Sm)(pl:PlM)(w:dD)(h:Qs w S G x pl)(hf:pl.free=[]):Xf prog 292 #[Cm S] w (λv w'=>v=.tuple #[.int .i64 0,.int .i64 5]/\Qs w' S G x pl/\Xc (Ax S.P) w w'):=by
 have p:=h.ok.cL;have eE:Fa pl x.cL=5:=by unfold Fa;rw[bJ (by omega),hf];rfl
 have eN:Jb pl x.cL=0:=by unfold Jb;rw[eE];rfl
 have eT:Il pl x.cL=pl:=by unfold Il;rw[eE];rfl
 have q:¬Ax S.P S.sb:=λl=>by
  obtain⟨m,n⟩:=h.pool.kds;rcases l with e|e
  .exact Xs h.at'.kds.sb m (by decide) e
  .exact Xs h.at'.kds.sb n (by decide) e
 refine aR func292 ntmps292 aA (aQ 14 (Ax S.P) (by kernel_rfl) aA λb=>aE b h.at'.obj aA (aE b h.at'.obj aA (Xd.cK b rfl λi a=>?_)));have g:=XbC S.P pl x.cL i (h.pool.bQ a);rw[eE,eN,eT] at g;refine Xn.call rfl g.fn (Post:=λv d=>v=.tuple #[.int .i64 0,.int .i64 5]/\Z2 d S.P pl/\Xc (Ax S.P) i d) (λo=>g.mono λv d j=>⟨o.trans j.2.2,j⟩) ?_;rintro _ d _ ⟨rfl,k,f⟩;refine Xd.adv Xb b rfl (aF b aA λr c=>bI aA ?_);exact bE func292 aA ⟨rfl,⟨h.ok,h.pos,h.of,((h.at'.bQ a).pool (h.pool.bQ a) f).bQ c,k.bQ c⟩,(a.gr.trans f).trans c.gr⟩
theorem XmU(S:Sh)(G:Nat->Pg)(x:Sm)(pl:PlM)(n:Nat)(r:List Nat)(w:dD)(h:Qs w S G x pl)(hf:pl.free=n::r)(hn4:n<1024):Xf prog 292 #[Cm S] w (λv w'=>v=.tuple #[.int .i64 n,.int .i64 0]/\∃g,(w.heap.size<=g.p/\w.heap.size<=g.bb/\w.heap.size<=g.mb)/\Qc w' S (Im G n g) x.cL x.cF (x.fresh n).pg (x.fresh n).cG (Y8 x.pg:Nat)/\Z2 w' S.P (pl.take x.cL)/\Xc (Bk S G x.pg) w w'):=by
 have a1:=h.ok.cL;have eE:Fa pl x.cL=0:=by unfold Fa;rw[bJ (by omega),hf];rfl
 have eN:Jb pl x.cL=n:=by unfold Jb;rw[bK eE,hf];rfl
 have eT:Il pl x.cL=pl.take x.cL:=by unfold Il;rw[bK eE]
 have o:=Ol h.ok h.of h.pool.cV (n:=n) (by rw[hf];simp);have E:n∉x.cG:=λhm=>by obtain⟨p,C⟩:=h.ok.osub n hm;exact o (XP.2 ⟨_,C,rfl⟩)
 have ho:¬Ax S.P S.sb:=λO=>by
  obtain⟨P,Q⟩:=h.pool.kds;rcases O with e|e
  .exact Xs h.at'.kds.sb P (by decide) e
  .exact Xs h.at'.kds.sb Q (by decide) e
 refine aR func292 ntmps292 aA (aQ 14 (Ax S.P) (by kernel_rfl) aA λa=>aE a h.at'.obj aA (aE a h.at'.obj aA (Xd.cK a rfl λF d=>?_)));have D:=XbC S.P pl x.cL F (h.pool.bQ d);rw[eE,eN,eT] at D;refine Xn.call rfl D.fn (Post:=λv c=>v=.tuple #[.int .i64 n,.int .i64 0]/\Z2 c S.P (pl.take x.cL)/\Xc (Ax S.P) F c) (λR=>D.mono λv c C=>⟨R.trans C.2.2,C⟩) ?_;rintro _ c _ ⟨rfl,H,q⟩;refine Xd.adv Xb a rfl (aF a aA λl i=>aS aA ?_);have b:=((h.at'.bQ d).pool (h.pool.bQ d) q).bQ i;have a2:w.heap.size<=l.heap.size:=by have:=d.size;have:=q.size;have:=i.size;omega
 have a3:=Xs b.kds.sb b.kds.sm (by simp);have I:∀w',Xc Xe l w'->Xf prog 245 #[.int .i64 x.cF] w' (λv c=>Xc (λz=>z=S.sm) w' c/\Xc Xe l c/\∃g,v=.tuple #[E9 g,.int .i64 0]/\(l.heap.size<=g.p/\l.heap.size<=g.bb/\l.heap.size<=g.mb)/\Q7 c g (List.replicate x.cF (-1))):=λw' f=>
  (Xfo x.cF w' (b.bQ f).tab h.ok.blk).mono λv c ⟨g,T,⟨b1,b2,b3⟩,U,J⟩=>⟨J.gr,f.trans J,g,T,⟨by have:=f.size;omega,by have:=f.size;omega,by have:=f.size;omega⟩,U⟩
 refine aQ 15 (λz=>z=S.sm) (by kernel_rfl) aA λa=>aE a b.obj aA (aE a b.obj aA (Xd.callQ a rfl rfl (I) ?_));rintro _ w4 _ ⟨s,g,rfl,hb,V⟩;refine Xd.adv Xb a rfl (Xd.cK a rfl λw5 j=>?_);have t:=b.bQ (s.trans j);obtain⟨m,hm,a4⟩:=t.map;refine Xn.mapset Xb a rfl (hm) (by first|(intro h;exact rfl)|(intro h;omega)) rfl λw6 K u a5=>aF a aA λW y=>?_;have A:=b.foot_lt;have L:=t.add o (V.bQ j) (λe=>by have:=A S.sm (.inr (.inl rfl));omega) (λe M=>⟨λe'=>by have:=A _ (.inr (.inr (.inr ⟨e,M,.inl rfl⟩)));omega,λe'=>by have:=A _ (.inr (.inr (.inr ⟨e,M,.inr rfl⟩)));omega⟩) (λm' h'=>by
  rw[h'.uniq hm];exact K) u
 have k:=L.bQ y;refine bB k.obj aA (aP aA (Xf9 S.R x.cG n W k.ring hn4 E (by have:=h.ok.few;omega)) ?_);rintro _ w8 ⟨rfl,N,B⟩;refine aN aA ?_;exact bE func292 aA ⟨rfl,g,⟨by omega,by omega,by omega⟩,(k.setRing N B),(Z2.bW k ((Z2.bW t ((H.bQ i).bQ (s.trans j)) u (λz e=>.inr (.inl e))).bQ y) B (λz e=>.inr (.inr (.inl e)))),(((((d.gr.trans q).trans i.gr).mono λz _ h=>.inr h).trans ((s.trans j).gr)).trans ((u.mono λz _ e=>.inl (.inr (.inl e))).trans y.gr)).trans (B.mono λz _ e=>.inl (.inr (.inr (.inl e))))⟩
def Hd(x:Sm)(pl:PlM):Nat:=match x.cG with
 |n::_=>n
 |[]=>pl.free.headD 0
def Jj(x:Sm)(pl:PlM):Sm:=match x.cG with
 |_::_=>x
 |[]=>x.fresh (pl.free.headD 0)
def Kw(x:Sm)(pl:PlM):PlM:=match x.cG with
 |_::_=>pl
 |[]=>pl.take x.cL
def Gr(x:Sm)(pl:PlM):List Int:=(Zg (Jj x pl).pg (Hd x pl)).getD []
def Qk(x:Sm)(pl:PlM)(who:Int):Int:=if who<0 then 1 else if x.cG.length=0/\pl.free.length=0 then 5 else 0
def B1(x:Sm)(pl:PlM)(who:Int):Int:=if Qk x pl who=0 then (Hd x pl:Int) else 0
def B0(x:Sm)(pl:PlM)(who:Int):Int:=if Qk x pl who=0 then Yf (Gr x pl) else 0
def Ad(x:Sm)(pl:PlM)(who:Int):Sm:=if Qk x pl who=0 then (Jj x pl).takeAt (Hd x pl) (Gr x pl) who else x
def B2(x:Sm)(pl:PlM)(who:Int):PlM:=if Qk x pl who=0 then Kw x pl else pl
theorem Ri{S:Sh}:∀z,Qh S G (Zr pg n p) z->Qh S G pg z:=λz h=>by
 rcases h with h|h|h|⟨e,a,b⟩
 .exact .inl h
 .exact .inr (.inl h)
 .exact .inr (.inr (.inl h))
 .rcases G5 a with⟨rfl,q,c⟩|⟨_,a⟩
  .exact .inr (.inr (.inr ⟨_,c,b⟩))
  .exact .inr (.inr (.inr ⟨e,a,b⟩))
theorem Xi5{S:Sh}:∀z,Qh S G (Qv pg n) z->Qh S G pg z:=λz h=>by
 rcases h with h|h|h|⟨e,a,b⟩
 .exact .inl h
 .exact .inr (.inl h)
 .exact .inr (.inr (.inl h))
 .exact .inr (.inr (.inr ⟨e,(I8.1 a).2,b⟩))
theorem Xi7{S:Sh}{g:Pg}(hn:n∉pg.map (·.1))(hg:b<=g.bb/\b<=g.mb):∀z,Qh S (Im G n g) (pg++[(n,p)]) z->Qh S G pg z\/b<=z:=λz h=>by
 rcases h with h|h|h|⟨e,he,a⟩
 .exact .inl (.inl h)
 .exact .inl (.inr (.inl h))
 .exact .inl (.inr (.inr (.inl h)))
 .rcases XS.1 he with he|he
  .have:Im G n g e.1=G e.1:=bJ (λe'=>hn (XP.2 ⟨e,he,e'⟩));rw[this] at a;exact .inl (.inr (.inr (.inr ⟨e,he,a⟩)))
  .have:e=(n,p):=by simpa using he
   subst this;have:Im G n g n=g:=bK rfl;rw[this] at a;rcases a with rfl|rfl
   .exact .inr hg.1
   .exact .inr hg.2
theorem Sm.Of.set{pl:PlM}(h:x.Of pl)(hc:x'.cL=x.cL)(hs:∀e∈x'.pg,∃q,(e.1,q)∈x.pg):x'.Of pl:=λe a=>by
 obtain⟨q,b⟩:=hs e a;rw[hc];exact h (e.1,q) b
theorem Pn{e:Nat×List Int}(h:e∈Zr pg n p):∃q,(e.1,q)∈pg:=by
 rcases G5 h with⟨rfl,q,a⟩|⟨_,b⟩
 .exact⟨q,a⟩
 .exact⟨e.2,b⟩
theorem Sm.Of.fresh{pl:PlM}(h:x.Of pl)(hg:pl.Good){r:List Nat}(hf:pl.free=n::r):(x.fresh n).Of (pl.take x.cL):=by
 have e:pl.take x.cL=⟨pl.own.set n x.cL,r⟩:=by unfold PlM.take;rw[hf]
 obtain⟨a,b⟩:=hg.free n (by rw[hf];simp);rw[e];intro u hu;show u.1<(pl.own.set n x.cL).length/\(pl.own.set n x.cL).getD u.1 0=x.cL
 rw[XG,E5];rcases XS.1 hu with hu|hu
 .refine⟨(h u hu).1,?_⟩;split
  .rfl
  .exact(h u hu).2
 .have:u=(n,List.replicate x.cF (-1)):=by simpa using hu
  subst this;exact⟨a,bK ⟨rfl,a⟩⟩
theorem XiZ{r:List Nat}(h:(n::r).Nodup):(n::r).filter (λm=>m != n)=r:=by
 obtain⟨a,_⟩:=XU.1 h;rw[ZI];simp only[bne_self_eq_false,ZR,if_false];refine YN.2 λm hm=>?_;simp only[bne_iff_ne,ne_eq];exact λe=>a (e▸hm)
theorem XmT(who:Int)(w:dD):Xf prog 252 #[.pointer none,.int .i64 who] w (X5 (.tuple #[.int .i64 0,.int .i64 0,.int .i64 1]) w):=by
 exact aR func252 ntmps252 aA (bD rfl func252 (Xi.tmp rfl (.tmp rfl (.tmp rfl .nil))) ⟨rfl,rfl⟩)
theorem XmS(S:Sh)(G:Nat->Pg)(x:Sm)(pl:PlM)(who:Int)(w:dD)(h:Qs w S G x pl):Xf prog 252 #[Cm S,.int .i64 who] w
 (λv w'=>v=.tuple #[.int .i64 (B1 x pl who),.int .i64 (B0 x pl who),.int .i64 (Qk x pl who)]/\∃G',Qs w' S G' (Ad x pl who) (B2 x pl who)/\Xc (Bk S G x.pg) w w'/\∀z,Qh S G' (Ad x pl who).pg z->Qh S G x.pg z\/w.heap.size<=z):=by
 have eN:∀e,Qk x pl who=e->e≠0->B1 x pl who=0/\B0 x pl who=0/\Ad x pl who=x/\B2 x pl who=pl:=λe h1 h2=>by
  unfold B1 B0 Ad B2;rw[h1,bJ h2,bJ h2,bJ h2,bJ h2];exact⟨rfl,rfl,rfl,rfl⟩
 refine aR func252 ntmps252 aA (aT aA (λg1=>?_) λg1=>?_)
 .have k1:=bL g1;have e1:Qk x pl who=1:=by unfold Qk;rw[bK k1]
  obtain⟨a,b,c,d⟩:=eN 1 e1 (by decide);rw[a,b,c,d,e1];exact bD rfl func252 (Xi.tmp rfl (.tmp rfl (.tmp rfl .nil))) ⟨rfl,G,h,Xc.refl _ _,λz t=>.inl t⟩
 have a1:0<=who:=by have:=bM g1;omega
 refine bB h.at'.obj aA (bH (Xf8 S.R x.cG w h.at'.ring) aA ?_);obtain⟨f,u⟩:∃f,f=Jj x pl:=⟨_,rfl⟩;obtain⟨k,C⟩:∃k,k=Kw x pl:=⟨_,rfl⟩;apply Xa.cut (α:=Nat×List Nat×List Int×(Nat->Pg)) (λy=>[(0,false,Cm S),(1,false,.int .i64 who),(7,false,.int .i64 y.1),(37,false,.pointer (some ⟨S.sb,3,none⟩))]) (λy W=>(y.1,y.2.2.1)∈f.pg/\y.2.2.1.length=f.cF/\f.cG=y.1::y.2.1/\Xu y.2.2.1≠f.cF/\(∀e:Nat×List Int,e.1≠y.1->e∈f.pg->0<Xu e.2)/\(B1 x pl who=y.1/\B0 x pl who=Yf y.2.2.1/\Ad x pl who=f.takeAt y.1 y.2.2.1 who/\B2 x pl who=k/\Qk x pl who=0)/\f.Ok/\f.Of k/\Qc W S y.2.2.2 f.cL f.cF f.pg f.cG (Y8 f.pg:Nat)/\Z2 W S.P k/\Xc (Bk S G x.pg) w W/\∀z,Qh S y.2.2.2 f.pg z->Qh S G x.pg z\/w.heap.size<=z)
 .intro J;cases A:x.cG with
  |nil=>
   refine bI aA ?_;cases hf:pl.free with
   |nil=>
    have e1:Qk x pl who=5:=by unfold Qk;rw[bJ (by omega),bK (by rw[A,hf];exact⟨rfl,rfl⟩)]
    obtain⟨a,b,c,d⟩:=eN 5 e1 (by decide);rw[a,b,c,d,e1];refine aP aA (XmV S G x pl w h hf) ?_;rintro _ w1 ⟨rfl,h1,aq⟩;exact aN aA (bI aA (bD rfl func252 (Xi.tmp rfl (.tmp rfl (.tmp rfl .nil))) ⟨rfl,G,h1,aq.mono λz _ h=>.inr h,λz t=>.inl t⟩))
   |cons n r0=>
    have ag:n<1024:=by have:=(h.pool.cV.free n (by rw[hf];simp)).1;have:=h.pool.cV.len;omega
    have e1:Qk x pl who=0:=by unfold Qk;rw[bJ (by omega),bJ (by rw[hf];simp)]
    have a2:=Ol h.ok h.of h.pool.cV (n:=n) (by rw[hf];simp);have i:f=x.fresh n:=by rw[u];unfold Jj;rw[A,hf];rfl
    have D:k=pl.take x.cL:=by rw[C];unfold Kw;rw[A]
    have E:Hd x pl=n:=by unfold Hd;rw[A,hf];rfl
    refine aP aA (XmU S G x pl n r0 w h hf ag) ?_;rintro _ W ⟨rfl,g,ah,B,M,a3⟩;refine aN aA (aS aA ?_);have j:f.Ok:=by rw[i];exact h.ok.fresh ag a2
    have F:f.Of k:=by rw[i,D];exact h.of.fresh h.pool.cV hf
    obtain⟨p,a4⟩:∃p,p=List.replicate x.cF (-1:Int):=⟨_,rfl⟩;have s:(n,p)∈f.pg:=by rw[i,a4];exact YY _ (by simp)
    have H:p.length=f.cF:=by rw[i,a4];exact XI
    have b9:Xu p=0:=by rw[a4];exact Ij _
    have l:f.cG=n::[]:=by rw[i];show n::x.cG=_;rw[A]
    obtain⟨r,ar⟩:∃r:List Nat,r=[]:=⟨_,rfl⟩;rw[<-ar] at l;have ba:=h.ok.blk;have au:f.cF=x.cF:=by rw[i];rfl
    have L:Gr x pl=p:=by unfold Gr;rw[<-u,E,Cc j.nodup s];rfl
    have o:∀e:Nat×List Int,e.1≠n->e∈f.pg->0<Xu e.2:=λe P he=>by
     rw[i] at he;rcases XS.1 he with he|he
     .exact h.pos e he
     .have:e=(n,List.replicate x.cF (-1)):=by simpa using he
      rw[this] at P;exact absurd rfl P
    have U:B1 x pl who=n:=by unfold B1;rw[bK e1,E]
    have V:B0 x pl who=Yf p:=by unfold B0;rw[bK e1,L]
    have r3:Ad x pl who=f.takeAt n p who:=by unfold Ad;rw[bK e1,L,E,<-u]
    have r4:B2 x pl who=k:=by unfold B2;rw[bK e1,<-C]
    rw[<-D] at M;obtain⟨I,ai⟩:∃I,I=Im G n g:=⟨_,rfl⟩;rw[<-ai,show x.cL=f.cL from by rw[i];rfl,show x.cF=f.cF from au.symm,show(x.fresh n).pg=f.pg from by rw[i],show(x.fresh n).cG=f.cG from by rw[i],show((Y8 x.pg:Nat):Int)=(Y8 f.pg:Nat) from by
     rw[i];show((Y8 x.pg:Nat):Int)=(Y8 (x.pg++[(n,List.replicate x.cF (-1))]):Nat);rw[Xcf,Ij];rfl] at B
    have q:∀z,Qh S I f.pg z->Qh S G x.pg z\/w.heap.size<=z:=by rw[ai,i];exact Xi7 a2 ⟨ah.2.1,ah.2.2⟩
    exact J (n,r,p,I) _ _ ⟨s,H,l,by show Xu p≠f.cF;omega,o,⟨U,V,r3,r4,e1⟩,j,F,B,M,a3,q⟩ ⟨rfl,rfl,rfl,rfl,trivial⟩
  |cons n r=>
   have e1:Qk x pl who=0:=by unfold Qk;rw[bJ (by omega),bJ (by rw[A];simp)]
   have i:f=x:=by rw[u];unfold Jj;rw[A]
   have D:k=pl:=by rw[C];unfold Kw;rw[A]
   have E:Hd x pl=n:=by unfold Hd;rw[A]
   have hn:=h.ok.osub n (by rw[A];simp);refine aI aA (by show((n:Int) == -1)=false;simp) ?_;obtain⟨p,a6⟩:=hn;have j:f.Ok:=by rw[i];exact h.ok
   have F:f.Of k:=by rw[i,D];exact h.of
   have s:(n,p)∈f.pg:=by rw[i];exact a6
   have H:p.length=f.cF:=by rw[i];exact(h.ok.cI _ a6).2.1
   have l:f.cG=n::r:=by rw[i];exact A
   have Q:Xu p≠f.cF:=by rw[i];exact(h.ok.cI _ a6).2.2.1 (by rw[A];simp)
   have L:Gr x pl=p:=by unfold Gr;rw[<-u,E,Cc j.nodup s];rfl
   have o:∀e:Nat×List Int,e.1≠n->e∈f.pg->0<Xu e.2:=λe _ he=>by rw[i] at he;exact h.pos e he
   have U:B1 x pl who=n:=by unfold B1;rw[bK e1,E]
   have V:B0 x pl who=Yf p:=by unfold B0;rw[bK e1,L]
   have r3:Ad x pl who=f.takeAt n p who:=by unfold Ad;rw[bK e1,L,E,<-u]
   have r4:B2 x pl who=k:=by unfold B2;rw[bK e1,<-C]
   have B:=h.at';have M:=h.pool;rw[<-i] at B;rw[<-D] at M;exact J (n,r,p,G) _ _ ⟨s,H,l,Q,o,⟨U,V,r3,r4,e1⟩,j,F,B,M,Xc.refl _ _,λz t=>.inl (by rw[i] at t;exact t)⟩ ⟨rfl,rfl,rfl,rfl,trivial⟩
 .rintro⟨n,r,p,I⟩ W ⟨s,H,l,Q,o,⟨U,V,r3,r4,e1⟩,j,F,B,M,a3,q⟩;simp only at s H l Q o U V r3 B q
  rw[U,V,r3,r4,e1];obtain⟨eE,eU⟩:=My (p:=p) a1 (by rw[H];exact Q);have eA:Eu p who=Yf p:=by unfold Eu;rw[bK eE]
  have N:∀z,z<w.heap.size->Qh S I f.pg z->Bk S G x.pg z:=λz t h=>by
   rcases q z h with h|h
   .exact .inl h
   .omega
  refine bB B.obj aA ?_;obtain⟨ma,av,aj⟩:=B.look n;rw[Cc j.nodup s] at aj;refine Xa.lookup Xb rfl (av) (aj) rfl ?_;have hd:=XkP (I n) p who W (B.bS _ s);rw[eE,eA] at hd;refine aP aA (hd) ?_;rintro _ wa ⟨rfl,ax,a7⟩;refine aN aA ?_;have R:=B.cR s ax a7;have ay:=Z2.bW B M a7 (λz h=>.inr (.inr (.inr ⟨_,s,h⟩)));refine bB R.obj aA (aJ aA (by have:=j.few;omega) (bF R.obj aA λwb az a8 bb=>?_));have T:=R.setUsed az a8;have b0:=Z2.bW R ay a8 (λz h=>.inl h);have ak:(n,Qf p who)∈Zr f.pg n (Qf p who):=XP.2 ⟨(n,p),s,bK rfl⟩;refine bB T.obj aA ?_;obtain⟨mb,b1,al⟩:=T.look n;rw[Cc (by rw[Lr];exact j.nodup) ak] at al;refine Xa.lookup Xb rfl (b1) (al) rfl (bG (Un (I n) (Qf p who) wb (T.bS _ ak)) aA λwc a9=>?_);have K:=T.bQ a9;have am:=b0.bQ a9;have an:=((a3.bU a7 (λz t h=>N z t (.inr (.inr (.inr ⟨_,s,h⟩))))).bU a8 (λz t h=>N z t (.inl h))).trans a9.gr;have b2:((Y8 (Zr f.pg n (Qf p who)):Nat):Int)=(Y8 f.pg:Nat)+1:=by have:=Po (p:=Qf p who) j.nodup s;omega
  rw[<-b2] at K;have aa:(f.takeAt n p who).Pos:=λe he=>by
   rcases G5 he with⟨rfl,_⟩|⟨P,he⟩
   .show 0<Xu (Qf p who);omega
   .exact o e P he
  have ab:(f.takeAt n p who).Of k:=F.set rfl (λe he=>Pn he);have af:((Xu (Qf p who):Int) == (Qf p who).length)=decide (Xu (Qf p who)=f.cF):=by rw[Us,H];exact QV.2 (by simp only[beq_iff_eq,decide_eq_true_eq];omega)
  rw[af];refine aT aA (λO=>?_) λO=>?_
  .have gful:=bL O;refine bB K.obj aA ?_;have hr:=K.ring;rw[l] at hr;refine aP aA (XbZ S.R [] r n wc hr (by have:=j.few;have e:=congrArg List.length l;simp only[XO,ZS] at e⊢;omega)) ?_;rintro _ wd ⟨rfl,b3,ac⟩;refine aN aA ?_;have b4:=K.setRing b3 ac;have b5:=Z2.bW K am ac (λz h=>.inr (.inr (.inl h)));have ad:(f.takeAt n p who).cG=r:=by
    show(if Xu (Qf p who)=f.cF then f.cG.filter (λm=>m != n) else f.cG)=r
    rw[bK gful,l];exact XiZ (l▸j.onodup)
   exact bD rfl func252 (Xi.tmp rfl (.tmp rfl (.tmp rfl .nil))) ⟨rfl,I,⟨j.takeAt a1 s (by rw[l];simp),aa,ab,by rw[ad];exact b4,b5⟩,an.bU ac (λz t h=>N z t (.inr (.inr (.inl h)))),λz h=>q z (Ri z h)⟩
  .have gful:=bM O;have ad:(f.takeAt n p who).cG=f.cG:=by
    show(if Xu (Qf p who)=f.cF then f.cG.filter (λm=>m != n) else f.cG)=_
    rw[bJ gful]
   exact bD rfl func252 (Xi.tmp rfl (.tmp rfl (.tmp rfl .nil))) ⟨rfl,I,⟨j.takeAt a1 s (by rw[l];simp),aa,ab,by rw[ad];exact K,am⟩,an,λz h=>q z (Ri z h)⟩
def XbG(G:Nat->Pg)(n:Int)(o:Option (List Int)):dE:=match o with
 |some _=>E9 (G n.toNat)
 |none=>.pointer none
theorem Xb9(S:Sh)(G:Nat->Pg)(x:Sm)(pl:PlM)(n:Int)(w:dD)(h:Qs w S G x pl):Xf prog 284 #[Cm S,.int .i64 n] w (X5 (XbG G n (Zg x.pg n)) w):=by
 obtain⟨m,hm,a⟩:=h.at'.look n;exact aR func284 ntmps284 aA (bB h.at'.obj aA (Xa.lookup Xb rfl (hm) ((a.trans (show _=XbG G n (Zg x.pg n) from by unfold XbG;cases Zg x.pg n <;> rfl))) rfl (bE func284 aA ⟨rfl,rfl⟩)))
theorem Xca(n:Int)(w:dD):Xf prog 284 #[.pointer none,.int .i64 n] w (X5 (.pointer none) w):=by
 exact aR func284 ntmps284 aA (bE func284 aA ⟨rfl,rfl⟩)
def Qx(x:Sm)(n i:Int):Int:=match Zg x.pg n with
 |some p=>Yb p i
 |none=>-1
theorem XmO(S:Sh)(G:Nat->Pg)(x:Sm)(pl:PlM)(n i:Int)(w:dD)(h:Qs w S G x pl):Xf prog 250 #[Cm S,.int .i64 n,.int .i64 i] w (X5 (.int .i64 (Qx x n i)) w):=by
 unfold Qx;refine aR func250 ntmps250 aA (bH (Xb9 S G x pl n w h) aA ?_);cases a:Zg x.pg n with
 |none=>
  exact bH (Xfq i w) aA (bE func250 aA ⟨rfl,rfl⟩)
 |some p=>
  obtain⟨k,rfl,b⟩:=Iq a;exact bH (XkO (G k) p i w (h.at'.bS _ b)) aA (bE func250 aA ⟨rfl,rfl⟩)
theorem XmP(n i:Int)(w:dD):Xf prog 250 #[.pointer none,.int .i64 n,.int .i64 i] w (X5 (.int .i64 (-1)) w):=by
 exact aR func250 ntmps250 aA (bH (Xca n w) aA (bH (Xfq i w) aA (bE func250 aA ⟨rfl,rfl⟩)))
theorem Xgy(S:Sh)(G:Nat->Pg)(x:Sm)(pl:PlM)(w:dD)(h:Qs w S G x pl):Xf prog 236 #[Cm S] w (X5 (.int .i64 (x.cG.length:Nat)) w):=by
 exact aR func236 ntmps236 aA (bB h.at'.obj aA (bH (Xmf S.R x.cG w h.at'.ring) aA (bE func236 aA ⟨rfl,rfl⟩)))
theorem Xgz(w:dD):Xf prog 236 #[.pointer none] w (X5 (.int .i64 0) w):=by
 exact aR func236 ntmps236 aA (bE func236 aA ⟨rfl,rfl⟩)
theorem XgJ{l:PgL}(hn:(l.map (·.1)).Nodup)(hp:(n,p)∈l):Zr l n p=l:=by
 unfold Zr
 conv=>rhs;rw[<-List.map_id l]
 refine ZW λe b=>?_;by_cases h:e.1=n
 .rw[bK h];have a:=Cc hn (show(e.1,e.2)∈l from b);rw[h,(Cc hn hp)] at a;cases a
  rw[<-h];rfl
 .rw[bJ h];rfl
def H0(x:Sm)(n i who:Int):Int:=match Zg x.pg n with
 |some p=>Am p i who
 |none=>1
def Ba(x:Sm)(n i who:Int):Sm:=match Zg x.pg n with
 |some p=>x.ownAt n.toNat p i who
 |none=>x
theorem XmM(S:Sh)(G:Nat->Pg)(x:Sm)(pl:PlM)(n i who:Int)(w:dD)(h:Qs w S G x pl):Xf prog 238 #[Cm S,.int .i64 n,.int .i64 i,.int .i64 who] w
 (λv w'=>v=.int .i64 (H0 x n i who)/\Qs w' S G (Ba x n i who) pl/\Xc (Bk S G x.pg) w w'/\∀z,Qh S G (Ba x n i who).pg z->Qh S G x.pg z):=by
 unfold H0 Ba;refine aR func238 ntmps238 aA (bH (Xb9 S G x pl n w h) aA ?_);cases f:Zg x.pg n with
 |none=>
  exact bH (Xfp i who w) aA (bE func238 aA ⟨rfl,h,Xc.refl _ _,λ_ h=>h⟩)
 |some p=>
  obtain⟨k,rfl,a⟩:=Iq f;refine aP aA (XkN (G k) p i who w (h.at'.bS _ a)) ?_;rintro _ g ⟨rfl,j,c⟩;have l:Y8 (Zr x.pg k (By p i who))=Y8 x.pg:=by have:=Po (p:=By p i who) h.ok.nodup a;rw[Ur] at this;omega
  have d:(x.ownAt k p i who).Pos:=λe b=>by
   rcases G5 b with⟨rfl,_⟩|⟨_,b⟩
   .show 0<Xu (By p i who);rw[Ur];exact h.pos _ a
   .exact h.pos e b
  exact aN aA (bE func238 aA ⟨rfl,⟨h.ok.ownAt a,d,h.of.set rfl (λe b=>Pn b),by show Qc g S G x.cL x.cF (Zr x.pg k (By p i who)) x.cG (Y8 (Zr x.pg k (By p i who)):Nat);rw[l];exact(h.at'.cR a j c),(Z2.bW h.at' h.pool c (λz e=>.inr (.inr (.inr ⟨_,a,e⟩))))⟩,c.mono λz _ e=>.inl (.inr (.inr (.inr ⟨_,a,e⟩))),λz e=>Ri z e⟩)
theorem XmN(n i who:Int)(w:dD):Xf prog 238 #[.pointer none,.int .i64 n,.int .i64 i,.int .i64 who] w (X5 (.int .i64 1) w):=by
 exact aR func238 ntmps238 aA (bH (Xca n w) aA (bH (Xfp i who w) aA (bE func238 aA ⟨rfl,rfl⟩)))
theorem Xej{l1:List Nat}(h:(l1++n::l2).Nodup):(l1++n::l2).filter (λm=>m != n)=l1++l2:=by
 obtain⟨d,a,b⟩:=XR.1 h;obtain⟨c,f⟩:=XU.1 a;rw[QO,ZI];simp only[bne_self_eq_false,ZR,if_false];rw[YN.2 (λm hm=>by simp only[bne_iff_ne,ne_eq];exact λe=>b m hm n (by simp) e),YN.2 (λm hm=>by simp only[bne_iff_ne,ne_eq];exact λe=>c (e▸hm))]
theorem XmW(S:Sh)(G:Nat->Pg)(cL:Int)(cF:Nat)(pg:PgL)(cG:List Nat)(used:Int)(pl:PlM)(n:Nat)(p:List Int)(full:Bool)(w:dD)(hS:Qc w S G cL cF pg cG used)(hP:Z2 w S.P pl)(hp:(n,p)∈pg)(hn4:n<1024)(hfo:full=true->n∉cG)(hfo':full=false->n∈cG)(hon:cG.Nodup)(hol:cG.length<=1024)(hcl:0<=cL)(hof:n<pl.own.length/\pl.own.getD n 0=cL):Hk prog 297 #[Cm S,.int .i64 n,E9 (G n),.bool full] w (λ_ w'=>Qc w' S G cL cF (if Xu p=0 then Qv pg n else pg) (if Xu p=0 then (if full then n::cG else cG).filter (λm=>m != n) else if full then n::cG else cG) used/\Z2 w' S.P (if Xu p=0 then pl.give n else pl)/\Xc (Bk S G pg) w w'):=by
 refine Hk.enter func297 rfl ntmps297 rfl rfl (aN aA ?_);cases full with
 |true=>
  have J:=hfo rfl;refine bI aA (bB hS.obj aA (aP aA (Xf9 S.R cG n w hS.ring hn4 J (by omega)) ?_));rintro _ W ⟨rfl,O,K⟩;refine aN aA ?_;have a:=hS.setRing O K;have k:=Z2.bW hS hP K (λz h=>.inr (.inr (.inl h)));have g:Xc (Bk S G pg) w W:=K.mono λz _ h=>.inl (.inr (.inr (.inl h)));simp only[if_true];obtain⟨c,b⟩:∃o,o=n::cG:=⟨_,rfl⟩;have v:n∈c:=by rw[b];simp
  have t:c.Nodup:=by rw[b];exact XU.2 ⟨J,hon⟩
  have u:c.length<=4096:=by rw[b,XO];omega
  rw[<-b] at a⊢;refine bH (Xfr (G n) p W (a.bS _ hp)) aA ?_;by_cases d:Xu p=0
  .rw[bK d,bK d,bK d];obtain⟨x,y,l⟩:=List.append_of_mem v;refine aM aA (show(((Xu p:Nat):Int) == 0)=true by rw[d];rfl) (bB a.obj aA ?_);have hr:=a.ring;rw[l] at hr;refine aP aA (XbZ S.R x y n W hr (by rw[<-l];exact u)) ?_;rintro _ wa ⟨rfl,A,i⟩;have f:=a.setRing A i;refine aN aA (bB f.obj aA ?_);obtain⟨m,hm,_⟩:=f.map;refine Xa.mapdel Xb rfl (hm) λwb B j N=>aN aA ?_;have q:=f.del hp (λm' L=>by rw[L.uniq hm];exact B) j;have r:=Z2.bW f (Z2.bW a k i (λz h=>.inr (.inr (.inl h)))) j (λz h=>.inr (.inl h));refine bB q.obj aA ?_;have C:Yb pl.own n=pl.own.getD n 0:=by
    unfold Yb;rw[bK (by omega)];simp only[XB];rw[Om hof.1]
   have D:Fs pl n=0:=by unfold Fs;rw[bJ (by have:=hof.1;omega),C,bJ (by rw[hof.2];omega)]
   have E:=XbB S.P pl n wb r;rw[show Hx pl n=pl.give n from by unfold Hx;rw[bK D];rfl] at E;refine aP aA (E) ?_;rintro _ wc ⟨rfl,F,s⟩;refine aN aA ?_;have H:c.filter (λm=>m != n)=x++y:=by rw[l];exact Xej (l▸t)
   rw[H];exact bE func297 aA ⟨(q.pool r s),F,((g.trans (i.mono λz _ h=>.inl (.inr (.inr (.inl h))))).trans (j.mono λz _ h=>.inl (.inr (.inl h)))).trans (s.mono λz _ h=>.inr h)⟩
  .rw[bJ d,bJ d,bJ d];exact aI aA (show(((Xu p:Nat):Int) == 0)=false by simp;omega) (bE func297 aA ⟨a,k,g⟩)
 |false=>
  refine aS aA ?_;simp only[ZR,if_false];obtain⟨c,b⟩:∃o,o=cG:=⟨_,rfl⟩;have v:n∈c:=by rw[b];exact(hfo' rfl)
  have t:c.Nodup:=by rw[b];exact hon
  have u:c.length<=4096:=by rw[b];omega
  have a:=hS;have k:=hP;have g:Xc (Bk S G pg) w w:=Xc.refl _ _;rw[<-b] at a⊢;obtain⟨W,M⟩:∃W,W=w:=⟨_,rfl⟩;have I:∀{X:dD->Prop},X W->X w:=λh=>M▸h;rw[<-M] at a k;replace g:Xc (Bk S G pg) w W:=by rw[M];exact g
  refine I (X:=λP=>Xa _ _ _ _ _ _ _ P) (bH (Xfr (G n) p W (a.bS _ hp)) aA ?_);by_cases d:Xu p=0
  .rw[bK d,bK d,bK d];obtain⟨x,y,l⟩:=List.append_of_mem v;refine aM aA (show(((Xu p:Nat):Int) == 0)=true by rw[d];rfl) (bB a.obj aA ?_);have hr:=a.ring;rw[l] at hr;refine aP aA (XbZ S.R x y n W hr (by rw[<-l];exact u)) ?_;rintro _ wa ⟨rfl,A,i⟩;have f:=a.setRing A i;refine aN aA (bB f.obj aA ?_);obtain⟨m,hm,_⟩:=f.map;refine Xa.mapdel Xb rfl (hm) λwb B j N=>aN aA ?_;have q:=f.del hp (λm' L=>by rw[L.uniq hm];exact B) j;have r:=Z2.bW f (Z2.bW a k i (λz h=>.inr (.inr (.inl h)))) j (λz h=>.inr (.inl h));refine bB q.obj aA ?_;have C:Yb pl.own n=pl.own.getD n 0:=by
    unfold Yb;rw[bK (by omega)];simp only[XB];rw[Om hof.1]
   have D:Fs pl n=0:=by unfold Fs;rw[bJ (by have:=hof.1;omega),C,bJ (by rw[hof.2];omega)]
   have E:=XbB S.P pl n wb r;rw[show Hx pl n=pl.give n from by unfold Hx;rw[bK D];rfl] at E;refine aP aA (E) ?_;rintro _ wc ⟨rfl,F,s⟩;refine aN aA ?_;have H:c.filter (λm=>m != n)=x++y:=by rw[l];exact Xej (l▸t)
   rw[H];exact bE func297 aA ⟨(q.pool r s),F,((g.trans (i.mono λz _ h=>.inl (.inr (.inr (.inl h))))).trans (j.mono λz _ h=>.inl (.inr (.inl h)))).trans (s.mono λz _ h=>.inr h)⟩
  .rw[bJ d,bJ d,bJ d];exact aI aA (show(((Xu p:Nat):Int) == 0)=false by simp;omega) (bE func297 aA ⟨a,k,g⟩)
def Cb(x:Sm)(n i:Int):Int:=match Zg x.pg n with
 |some p=>Q1 p i
 |none=>1
def Af(x:Sm)(n i:Int):Sm:=match Zg x.pg n with
 |some p=>if Q1 p i=0 then x.giveAt n.toNat p i else x
 |none=>x
def Bm(x:Sm)(pl:PlM)(n i:Int):PlM:=match Zg x.pg n with
 |some p=>if Q1 p i=0/\Xu (Yj p i)=0 then pl.give n.toNat else pl
 |none=>pl
theorem XgI(l:PgL)(n:Nat)(p:List Int):Qv (Zr l n p) n=Qv l n:=by
 induction l with
 |nil=>rfl
 |cons e r ih=>
  unfold Qv Zr at *;rw[ZK,ZI,ZI];by_cases h:e.1=n
  .rw[bK h];simp only[bne_self_eq_false,ZR,if_false,h];exact ih
  .rw[bJ h];have:(e.1 != n)=true:=by simpa using h
   rw[bK this,bK this,ih]
theorem Xi6{S:Sh}{i:Int}:∀z,Qh S G (x.giveAt n p i).pg z->Qh S G x.pg z:=λz h=>by
 unfold Sm.giveAt at h;simp only at h
 split at h
 .exact Xi5 z h
 .exact Ri z h
theorem Sm.Of.giveAt{x:Sm}{pl:PlM}(hok:x.Ok)(h:x.Of pl){n:Nat}{p:List Int}{i:Int}:(x.giveAt n p i).Of (if Xu (Yj p i)=0 then pl.give n else pl):=by
 unfold Sm.giveAt;simp only
 split
 .intro e c;obtain⟨d,c⟩:=I8.1 c;obtain⟨a,b⟩:=h e c;show e.1<(pl.own.set n (-1)).length/\(pl.own.set n (-1)).getD e.1 0=x.cL
  rw[XG,E5,bJ (λh=>d h.1.symm)];exact⟨a,b⟩
 .exact h.set rfl (λe c=>Pn c)
theorem XmK(n i:Int)(w:dD):Xf prog 255 #[.pointer none,.int .i64 n,.int .i64 i] w (X5 (.int .i64 1) w):=by
 exact aR func255 ntmps255 aA (bH (Xca n w) aA (bE func255 aA ⟨rfl,rfl⟩))
theorem XmJ(S:Sh)(G:Nat->Pg)(x:Sm)(pl:PlM)(n i:Int)(w:dD)(h:Qs w S G x pl):Xf prog 255 #[Cm S,.int .i64 n,.int .i64 i] w
 (λv w'=>v=.int .i64 (Cb x n i)/\Qs w' S G (Af x n i) (Bm x pl n i)/\Xc (Bk S G x.pg) w w'/\∀z,Qh S G (Af x n i).pg z->Qh S G x.pg z):=by
 refine aR func255 ntmps255 aA (bH (Xb9 S G x pl n w h) aA ?_);cases b:Zg x.pg n with
 |none=>
  rw[show Cb x n i=1 from by unfold Cb;rw[b],show Af x n i=x from by unfold Af;rw[b],show Bm x pl n i=pl from by unfold Bm;rw[b]];exact bE func255 aA ⟨rfl,h,Xc.refl _ _,λ_ h=>h⟩
 |some p=>
  obtain⟨k,rfl,a⟩:=Iq b;obtain⟨B,C,l⟩:=h.ok.cI _ a;simp only at B C l
  have P:=h.ok.few;refine bG (Un (G k) p w (h.at'.bS _ a)) aA λQ m=>?_;have o:=h.at'.bQ m;refine aP aA (XkL (G k) p i Q (o.bS _ a)) ?_;rintro _ R ⟨rfl,J,q⟩;refine aN aA ?_;have f:=o.cR a J q;have r:=Z2.bW o (h.pool.bQ m) q (λz e=>.inr (.inr (.inr ⟨_,a,e⟩)));have D:Xc (Bk S G x.pg) w R:=m.gr.trans (q.mono λz _ e=>.inl (.inr (.inr (.inr ⟨_,a,e⟩))));by_cases d:Q1 p i=0
  .rw[show Cb x k i=0 from by unfold Cb;rw[b];exact d,show Af x k i=x.giveAt k p i from by unfold Af;rw[b];simp only;rw[bK d];rfl,show Bm x pl k i=(if Xu (Yj p i)=0 then pl.give k else pl) from by unfold Bm;rw[b];simp only[d,true_and];rfl,d];have hu:=Xfu d;have W:=Po (p:=Yj p i) h.ok.nodup a;refine aS aA (Xa.defer rfl rfl (aN aA (bB f.obj aA (aV aA (bF f.obj aA λT E s a0=>?_)))));have K:((Y8 x.pg:Nat):Int)-1=(Y8 (Zr x.pg k (Yj p i)):Nat):=by omega
   rw[K] at E;have F:(k,Yj p i)∈Zr x.pg k (Yj p i):=XP.2 ⟨(k,p),a,bK rfl⟩;have H:((Xu p:Int) == p.length)=decide (Xu p=x.cF):=by rw[C];exact QV.2 (by simp only[beq_iff_eq,decide_eq_true_eq];omega)
   have u:=XmW S G x.cL x.cF _ x.cG _ pl k (Yj p i) (decide (Xu p=x.cF)) T (f.setUsed E s) (Z2.bW f r s (λz e=>.inl e)) F B (λe hm=>(l.1 hm) (bL e)) (λe=>l.2 (bM e)) h.ok.onodup (by omega) h.ok.cL (h.of _ a);rw[<-H] at u;refine Xa.ret1D Xb rfl func255 rfl rfl rfl (Ot (args:=[Cm S,.int .i64 k,E9 (G k),.bool ((Xu p:Int) == p.length)]) (captured:=[]) u.fn) ⟨u.fn,?_⟩;intro c cs L;obtain⟨en,u',w',fr,⟨U,v,V,g,M,N⟩,y⟩:=u.calls c cs L;have I:(x.giveAt k p i).Pos:=by
    unfold Sm.giveAt;simp only
    split
    .intro e t;exact h.pos e (I8.1 t).2
    .rename_i j
     intro e t;rcases G5 t with⟨rfl,_⟩|⟨_,t⟩
     .exact Nat.pos_of_ne_zero j
     .exact h.pos e t
   refine⟨en,u',w',fr,⟨U,v,V,rfl,⟨h.ok.giveAt a d,I,h.of.giveAt h.ok,?_,?_⟩,(D.trans (s.mono λz _ e=>.inl (.inl e))).trans (N.mono λz _ j=>j.imp (Ri z) id),Xi6⟩,y⟩
   .rw[H] at g;show Qc w' S G (x.giveAt k p i).cL (x.giveAt k p i).cF (x.giveAt k p i).pg (x.giveAt k p i).cG (Y8 (x.giveAt k p i).pg:Nat)
    unfold Sm.giveAt;simp only
    simp only[decide_eq_true_eq] at g;by_cases j:Xu (Yj p i)=0
    .rw[bK j] at g⊢;rw[bK j,XgI] at g;have O:=(Vm (by rw[Lr];exact h.ok.nodup) F).1;rw[XgI] at O;show Qc w' S G x.cL x.cF (Qv x.pg k) _ (Y8 (Qv x.pg k):Nat)
     rw[show Y8 (Qv x.pg k)=Y8 (Zr x.pg k (Yj p i)) by omega];exact g
    .rw[bJ j] at g⊢;rw[bJ j] at g;exact g
   .exact M
  .have A:Yj p i=p:=by unfold Yj;rw[bJ d]
   rw[A,XgJ h.ok.nodup a] at f;rw[show Cb x k i=Q1 p i from by unfold Cb;rw[b],show Af x k i=x from by unfold Af;rw[b];simp only;rw[bJ d],show Bm x pl k i=pl from by unfold Bm;rw[b];simp only;rw[bJ (λh=>d h.1)]];exact aM aA (show(Q1 p i != 0)=true by simpa using d) (bE func255 aA ⟨rfl,⟨h.ok,h.pos,h.of,f,r⟩,D,λ_ h=>h⟩)
def Kt(a b c d:Int):List dE:=[.int .i64 a,.int .i64 b,.int .i64 c,.int .i64 d]
def Nh(x:Sm):Bool:=decide (2<=x.cG.length)
def H1(x:Sm):List dE:=if 2<=x.cG.length then Kt (Bu (-1) x.cG) (Lh ((Zg x.pg (Bu (-1) x.cG)).getD [])) (Ch x.cG) (Yf ((Zg x.pg (Ch x.cG)).getD [])) else Kt 0 0 0 0
theorem XmR(w:dD):Xf prog 249 #[.pointer none] w (Grow (.tuple #[.agg (Kt 0 0 0 0).toArray,.bool false]) w):=by
 exact aR func249 ntmps249 aA (bC aA λtb f e1 b c g=>bH (Xgz f) aA (bI aA (aO aA (bF b aA λi a d h=>aK func249 a aA ⟨rfl,c.sn d⟩))))
theorem XmQ(S:Sh)(G:Nat->Pg)(x:Sm)(pl:PlM)(w:dD)(h:Qs w S G x pl):Xf prog 249 #[Cm S] w (Grow (.tuple #[.agg (H1 x).toArray,.bool (Nh x)]) w):=by
 unfold H1 Nh;refine aR func249 ntmps249 aA (bC aA λtb I e1 s j O=>?_);have g:=h.bQ j;refine bH (Xgy S G x pl I g) aA ?_;by_cases f:2<=x.cG.length
 .refine aS aA ?_;rw[bK f,bN f];have n:∃k∈x.cG,Bu (-1) x.cG=(k:Int):=by
   rcases Kn (-1) x.cG with⟨e,_⟩|⟨a,v,e,_⟩
   .rw[e] at f;simp at f
   .exact⟨a,v,e⟩
  have o:∃k∈x.cG,Ch x.cG=(k:Int):=by
   cases J:x.cG with
   |nil=>rw[J] at f;simp at f
   |cons a r=>exact⟨a,by simp,rfl⟩
  obtain⟨a,v,ea⟩:=n;obtain⟨b,K,eb⟩:=o;obtain⟨p,y⟩:=h.ok.osub a v;obtain⟨q,A⟩:=h.ok.osub b K;rw[ea,eb,Cc h.ok.nodup y,Cc h.ok.nodup A];simp only[ZU];refine aQ 10 Xe (by kernel_rfl) aA λc=>aE c g.at'.obj aA (aH c (λw' d=>Xme S.R x.cG w' (g.at'.ring.bQ d)) aA ?_);rw[ea];refine aE c g.at'.obj aA (aH c (λw' d=>Xf8 S.R x.cG w' (g.at'.ring.bQ d)) aA ?_);rw[eb];refine aF c aA λL l=>?_;have i:=g.bQ l;obtain⟨m,hm,D⟩:=i.at'.look a;obtain⟨m',E,t⟩:=i.at'.look b;rw[Cc h.ok.nodup y] at D;rw[Cc h.ok.nodup A] at t;exact aQ 16 Xe (by kernel_rfl) aA λc=>aE c i.at'.obj aA (Xd.lookup Xb c rfl (hm) (by first|(intro b h;cases h;assumption)|(intro b h M;cases h;omega)) (D) rfl (aH c (λw' d=>XkQ (G a) p w' ((i.at'.bS _ y).bQ d)) aA (aE c i.at'.obj aA (Xd.lookup Xb c rfl (E) (by first|(intro b h;cases h;assumption)|(intro b h M;cases h;omega)) (t) rfl (aG c (λw' d=>XkM (G b) q w' ((i.at'.bS _ A).bQ d)) aA (aF c aA λR u=>aO aA (bF (u.bP (l.bP s)) aA λT B F P=>aK func249 B aA ⟨rfl,((j.trans l).trans u).sn F⟩)))))))
 .refine bI aA ?_;rw[bJ f,bO f];exact aO aA (bF s aA λL C H Q=>aK func249 C aA ⟨rfl,j.sn H⟩)
def Rv(cL:Int)(cF:Nat):Sm:=⟨cL,cF,[],[]⟩
theorem XmL(P:Pl)(pl:PlM)(cL:Int)(k:Nat)(w:dD)(ht:Bi w)(hc:0<=cL)(hk:1<=k/\k<=512)(hP:Z2 w P pl):Xf prog 187 #[Fb P,.int .i64 cL,.int .i64 k] w
 (λv w'=>∃S,S.P=P/\v=.tuple #[Cm S,.int .i64 0]/\(∀G z,Qh S G [] z->w.heap.size<=z)/\(∀G,Qs w' S G (Rv cL k) pl)/\Xc Xe w w'):=by
 refine aR func187 ntmps187 aA (aP aA (Xfo k w ht hk) ?_);rintro _ n ⟨g,rfl,_,_,d⟩;refine aN aA (aS aA (aS aA (aP aA (Xmg n) ?_)));rintro _ B ⟨R,rfl,⟨r,s,t⟩,o,f⟩;refine aN aA (Xa.mkmap rfl λsm C e3 l i u=>aN aA (aO aA (bC aA λsb D e4 m c x=>?_)));have b:=((d.trans f).trans i).trans c;have y:=d.size;have A:=f.size;exact Xa.ret2 Xb rfl func187 rfl rfl rfl ⟨⟨sb,sm,R,P⟩,rfl,rfl,(λG z p=>by
  rcases p with h|h|(h|h)|⟨e,a,_⟩
  .have:z=sb:=h;omega
  .have:z=sm:=h;omega
  .have:z=R.ab:=h;omega
  .have:z=R.nb:=h;omega
  .cases a),λG=>⟨⟨YX,hc,hk,(λe a=>by cases a),YX,(λe a=>by cases a)⟩,(λe a=>by cases a),(λe a=>by cases a),⟨YX,λj q=>b.cell (ht j q) id,m,⟨[],l.bR c id,YX,rfl,(λe a=>by cases a),λ_ _=>rfl⟩,(o.bQ i).bQ c,(λe a=>by cases a),(λe a=>by cases a)⟩,hP.bQ b⟩,b⟩
theorem Qs.foot_lt{w:dD}{S:Sh}{G:Nat->Pg}{x:Sm}{pl:PlM}(h:Qs w S G x pl):∀z,Bk S G x.pg z->z<w.heap.size:=λz hz=>by
 rcases hz with hz|hz|hz
 .exact h.at'.foot_lt z hz
 .have:z=S.P.pb:=hz;have:=h.pool.lt;omega
 .have:z=S.P.ab:=hz;have:=h.pool.lt;omega
theorem Vl(l:PgL)(n:Nat)(p:List Int):(Zr l n p).length=l.length:=by unfold Zr;simp
theorem Ni(x:Sm)(pl:PlM)(who:Int):(Qk x pl who≠0/\Ad x pl who=x/\B2 x pl who=pl)\/
 (Qk x pl who=0/\0<=who/\((∃n r,x.cG=n::r/\Ad x pl who=x.takeAt n (Gr x pl) who/\B2 x pl who=pl/\Gr x pl=(Zg x.pg n).getD []/\B1 x pl who=n/\B0 x pl who=Yf (Gr x pl))\/
  (∃n r,x.cG=[]/\pl.free=n::r/\Ad x pl who=(x.fresh n).takeAt n (Gr x pl) who/\B2 x pl who=pl.take x.cL/\Gr x pl=(Zg (x.fresh n).pg n).getD []/\B1 x pl who=n/\B0 x pl who=Yf (Gr x pl)))):=by
 by_cases a:Qk x pl who=0
 .refine .inr ⟨a,?_,?_⟩
  .unfold Qk at a;split at a
   .cases a
   .omega
  .have e1:Ad x pl who=(Jj x pl).takeAt (Hd x pl) (Gr x pl) who:=by unfold Ad;rw[bK a]
   have e2:B2 x pl who=Kw x pl:=by unfold B2;rw[bK a]
   have e3:B1 x pl who=Hd x pl:=by unfold B1;rw[bK a]
   have e4:B0 x pl who=Yf (Gr x pl):=by unfold B0;rw[bK a]
   have e5:Gr x pl=(Zg (Jj x pl).pg (Hd x pl)).getD []:=rfl;cases b:x.cG with
   |cons n r=>
    have d:Jj x pl=x:=by unfold Jj;rw[b]
    have c:Hd x pl=n:=by unfold Hd;rw[b]
    have f:Kw x pl=pl:=by unfold Kw;rw[b]
    refine .inl ⟨n,r,rfl,?_,?_,?_,?_,e4⟩
    .rw[e1,d,c]
    .rw[e2,f]
    .rw[e5,d,c]
    .rw[e3,c]
   |nil=>
    cases hf:pl.free with
    |nil=>
     unfold Qk at a;split at a
     .cases a
     .rw[bK (by rw[b,hf];exact⟨rfl,rfl⟩)] at a;cases a
    |cons n r=>
     have d:Jj x pl=x.fresh n:=by unfold Jj;rw[b,hf];rfl
     have c:Hd x pl=n:=by unfold Hd;rw[b,hf];rfl
     have f:Kw x pl=pl.take x.cL:=by unfold Kw;rw[b]
     refine .inr ⟨n,r,rfl,rfl,?_,?_,?_,?_,e4⟩
     .rw[e1,d,c]
     .rw[e2,f]
     .rw[e5,d,c]
     .rw[e3,c]
 .exact .inl ⟨a,by unfold Ad;rw[bJ a],by unfold B2;rw[bJ a]⟩
theorem Xnb{l:PgL}{q:List Int}(hn:(l.map (·.1)).Nodup)(hq:(n,q)∈l):Zg (Zr l n p) n=some p:=
 Cc (by rw[Lr];exact hn) (XP.2 ⟨(n,q),hq,bK rfl⟩)
def Rows{α:Type}(cells:α->List dE)(sz:Nat)(w:dD)(a:Option Addr)(xs:List α):Prop:=
 ∀i x,xs[i]?=some x -> ∃b off,a=some ⟨b,off,none⟩/\∀j v,(cells x)[j]?=some v->w.cell? ⟨b,off+i*sz+j,none⟩=some v
theorem Rows.bR{xs:List α}(h:Rows cells sz w a xs)(hc:Xc Xe w w'):Rows cells sz w' a xs:=λi x d=>by
 obtain⟨b,off,e,c⟩:=h i x d;exact⟨b,off,e,λj v f=>Mc hc.below (c j v f)⟩
theorem Rows.at{xs:List α}(h:Rows cells sz w a xs)(hi:i<xs.length):∃b off,a=some ⟨b,off,none⟩/\∀j v,(cells xs[i])[j]?=some v->w.cell? ⟨b,off+i*sz+j,none⟩=some v:=h i xs[i] (XD hi)
def Xj(S:Nat->Prop)(a:Option Addr):Prop:=∀b off s,a=some ⟨b,off,s⟩ -> ¬S b
def Gb(w:dD)(a a':Option Addr):Prop:=a'=a\/∃g off,a'=some ⟨g,off,none⟩/\w.heap.size<=g
theorem Xj.newer{a':Option Addr}(h:Xj S a)(hn:Gb w a a')(hS:∀b,S b->b<w.heap.size):Xj S a':=λb off s e c=>by
 rcases hn with hn|⟨g,off',hn,d⟩
 .rw[hn] at e;exact h b off s e c
 .rw[hn] at e;cases e;have:=hS _ c;omega
theorem Rd.bW{k:IntKind}(h:Rd k w a zs)(hs:Xj S a)(hc:Xc S w w'):Rd k w' a zs:=(N0.bR ⟨h,λb off s e _=>hs b off s e⟩ hc).1
theorem Xj.mono(h:Xj S a)(hs:∀z,S' z->S z):Xj S' a:=λb off s e c=>h b off s e (hs _ c)
structure IL where
 a:Option Addr
 cap:Nat
 x:List Int
abbrev Xr(l:IL):dE:=.slice l.a l.x.length l.cap
structure Cf(w:dD)(l:IL):Prop where
 rd:Rd .i64 w l.a l.x
 len:l.x.length<=512
theorem Cf.bQ{l:IL}(h:Cf w l)(hc:Xc Xe w w'):Cf w' l:=⟨h.rd.bR hc,h.len⟩
theorem Cf.bW{l:IL}(h:Cf w l)(hs:Xj S l.a)(hc:Xc S w w'):Cf w' l:=
 ⟨(N0.bR ⟨h.rd,λb off s e _=>hs b off s e⟩ hc).1,h.len⟩
theorem Jd{x:List Int}:∀u∈x.map (Value.int .i64),u.oneCell'=true:=by
 intro u a;obtain⟨z,_,rfl⟩:=XP.1 a;rfl
theorem Xja{x:List Int}(h:i<x.length):x.getD i (-1)=x.getD i 0:=by
 rw[XA,XA,XD h];rfl
theorem Rd.atm{x:List Int}(h:Rd .i64 w a x)(hi:i<x.length):∃b off,a=some ⟨b,off,none⟩/\w.cell? ⟨b,off+i,none⟩=some (.int .i64 (x.getD i (-1))):=by
 obtain⟨b,off,e,c⟩:=h i hi;exact⟨b,off,e,by rw[Xja hi];exact c⟩
theorem XlB(m:Nat)(w:dD)(h:1<=m/\m<=512):Xf prog 301 #[.int .i64 m] w (λv w'=>∃l:IL,v=.tuple #[Xr l,.int .i64 0]/\l.x=List.replicate m (-1)/\Cf w' l/\Xc Xe w w'/\Gb w none l.a):=by
 have A:maxLen=9223372036854775807:=rfl;refine aR func301 ntmps301 aA (aS aA (aS aA ?_));refine Xa.loop (α:=Nat×dE) (λp=>[(0,false,.int .i64 m),(4,false,p.2),(5,false,.int .i64 p.1)])
  (λp w'=>p.1<=m/\Xl w.heap.size 3 1 w' p.2 p.1 ((List.replicate p.1 (-1)).map (Value.int .i64))/\Xc Xe w w') (λp=>m-p.1) (0,.slice none 0 0) ⟨rfl,rfl,rfl,trivial⟩ ⟨XQ _,World.ownsRow_nil _ _ _ _,Xc.refl _ _⟩ ?_
 rintro⟨i,v⟩ F ⟨y,f,a⟩ ih;simp only at y f
 refine aN aA (aT aA (λj=>?_) λj=>?_)
 .have n:i<m:=by have:=bL j;omega
  refine Xa.buildSlice Xb rfl λG H e2 o b B=>aN aA ?_;have d:=f.bR b (λ_ _ h=>h);refine Xa.append (base:=w.heap.size) (xs:=(List.replicate i (-1)).map (Value.int .i64)) (news:=[.int .i64 (-1)]) Xb rfl d (by have:=a.size;have:=b.size;omega) (by simp) (Gv o) (by simp[Value.oneCell']) (by simp only;omega) λz I q r C=>aN aA (aV aA ?_);exact ih (i+1,z) _ _ ⟨n,by
   have e:(List.replicate (i+1) (-1:Int)).map (Value.int .i64)=(List.replicate i (-1)).map (Value.int .i64)++[.int .i64 (-1)]:=by rw[List.replicate_succ',XL];rfl
   rw[e];exact q,(d.bU (a.trans b) (XF _) r)⟩ (by simp only;omega) ⟨rfl,rfl,rfl,trivial⟩
 .have s:i=m:=by have:=bM j;omega
  subst s;obtain⟨g,k,cur,rfl,t,u,D,E,x⟩:=f.form (by omega);have c:(List.replicate i (-1:Int)).length=i:=XI;exact bE func301 aA ⟨⟨some ⟨g,0,none⟩,k,List.replicate i (-1)⟩,by show _=Value.tuple #[.slice _ (List.replicate i (-1:Int)).length _,_];rw[c],rfl,⟨Rd.of_take u (by simp only[c];simpa using x),by simp only;omega⟩,a,.inr ⟨g,0,rfl,t⟩⟩
theorem XlD(l:IL)(i:Int)(w:dD)(h:Cf w l):Xf prog 267 #[Xr l,.int .i64 i] w (X5 (.int .i64 (Yb l.x i)) w):=by
 obtain⟨a,cap,x⟩:=l;have f:=h.len;have hr:=h.rd;simp only at f hr
 show Xf prog 267 #[.slice a x.length cap,.int .i64 i] w (X5 (.int .i64 (Yb x i)) w)
 refine aR func267 ntmps267 aA (aT aA (λc=>?_) λc=>?_)
 .have g:=bL c;exact bE func267 aA ⟨Xz (Xbx (by omega)).symm,rfl⟩
 have g:=bM c;refine aT aA (λd=>?_) λd=>?_
 .have j:=bL d;exact bE func267 aA ⟨Xz (Xbx (by omega)).symm,rfl⟩
 have j:=bM d;obtain⟨i,rfl⟩:=XE (show 0<=i by omega);obtain⟨b,off,rfl,k⟩:=hr.atm (i:=i) (by omega);exact aU i aA (aW aA k aA (bE func267 aA ⟨Xz (by unfold Yb;rw[bK (by omega)];rfl),rfl⟩))
theorem Mx{x:List Int}(h:j<(Y1 x).length):(Y1 x)[j]=!(x.getD j (-1) == -1):=by rw[<-R0,Id h]
theorem XlG(l:IL)(w:dD)(h:Cf w l):Xf prog 274 #[Xr l] w (X5 (.int .i64 (Xu l.x)) w):=by
 obtain⟨a,cap,x⟩:=l;have m:=h.len;have hr:=h.rd;simp only at m hr
 show Xf prog 274 #[.slice a x.length cap] w (X5 (.int .i64 (Xu x)) w)
 refine aR func274 ntmps274 aA ?_;refine Xa.loop (α:=Nat) (λk=>[(0,false,.slice a x.length cap),(3,false,.int .i64 (cnt ((Y1 x).take k))),(4,false,.int .i64 k)])
  (λk w'=>w'=w/\k<=x.length) (λk=>x.length-k) 0 ⟨rfl,rfl,rfl,trivial⟩ ⟨rfl,XQ _⟩ ?_
 rintro k p ⟨n,q⟩ ih;subst n;have i:=Oc ((Y1 x).take k);rw[XX,Fq] at i;refine aN aA (aT aA (λg=>?_) λg=>?_)
 .have c:k<x.length:=by have:=bL g;omega
  obtain⟨b,off,rfl,o⟩:=hr.atm c;have d:=XdQ (Y1 x) k (by rw[Fq];exact c);rw[Mx] at d;refine aU k aA (aW aA o aA ?_);cases f:(x.getD k (-1) == -1) with
  |true=>
   rw[f,bJ (by decide)] at d;exact aI aA (show(x.getD k (-1) != -1)=false by simpa [bne] using f) (aV aA (ih (k+1) _ _ ⟨rfl,c⟩ (by omega) ⟨rfl,by rw[d];rfl,rfl,trivial⟩))
  |false=>
   rw[f,bK (by decide)] at d;exact aM aA (show(x.getD k (-1) != -1)=true by simpa [bne] using f) (aV aA (aV aA (ih (k+1) _ _ ⟨rfl,c⟩ (by omega) ⟨rfl,by rw[d];rfl,rfl,trivial⟩)))
 .have j:k=x.length:=by have:=bM g;omega
  subst j;exact bE func274 aA ⟨Xz (by unfold Xu;rw[YP (by rw[Fq];omega)]),rfl⟩
theorem U0(l:IL)(w:dD)(h:Cf w l):Xf prog 266 #[Xr l] w (X5 (.int .i64 (Yf l.x)) w):=by
 obtain⟨a,cap,x⟩:=l;have n:=h.len;have hr:=h.rd;simp only at n hr
 show Xf prog 266 #[.slice a x.length cap] w (X5 (.int .i64 (Yf x)) w)
 refine aR func266 ntmps266 aA ?_;refine Xa.loop (α:=Nat) (λk=>[(0,false,.slice a x.length cap),(3,false,.int .i64 k)])
  (λk w'=>w'=w/\k<=x.length/\∀j,j<k->(x.getD j (-1) == -1)=false) (λk=>x.length-k) 0 ⟨rfl,rfl,trivial⟩ ⟨rfl,XQ _,λ_ h=>by omega⟩ ?_
 rintro k s ⟨o,t,c⟩ ih;subst o;refine aN aA (aT aA (λg=>?_) λg=>?_)
 .have d:k<x.length:=by have:=bL g;omega
  obtain⟨b,off,rfl,q⟩:=hr.atm d;refine aU k aA (aW aA q aA ?_);cases i:(x.getD k (-1) == -1) with
  |true=>
   exact bI aA (bE func266 aA ⟨Xz (Jy (p:=λb=>!b) (by rw[Fq];exact d) (λj m f=>by rw[Mx,c j f];rfl) (by rw[Mx,i];rfl)).symm,rfl⟩)
  |false=>
   refine aS aA (aV aA ?_);exact ih (k+1) _ _ ⟨rfl,d,λj f=>by
    by_cases e:j=k
    .subst e;exact i
    .exact c j (by omega)⟩ (by omega) ⟨rfl,rfl,trivial⟩
 .have r:k=x.length:=by have:=bM g;omega
  exact bE func266 aA ⟨Xz (I5 (p:=λb=>!b) (λj m=>by rw[Mx,c j (by rw[Fq] at m;omega)];rfl)).symm,rfl⟩
theorem XlF(l:IL)(w:dD)(h:Cf w l):Xf prog 265 #[Xr l] w (X5 (.int .i64 (Lh l.x)) w):=by
 obtain⟨a,cap,x⟩:=l;have n:=h.len;have hr:=h.rd;simp only at n hr
 show Xf prog 265 #[.slice a x.length cap] w (X5 (.int .i64 (Lh x)) w)
 refine aR func265 ntmps265 aA (aV aA ?_);refine Xa.loop (α:=Nat) (λk=>[(0,false,.slice a x.length cap),(3,false,.int .i64 ((k:Int)-1))])
  (λk w'=>w'=w/\k<=x.length/\∀j,k<=j->(x.getD j (-1) == -1)=true) (λk=>k) x.length ⟨rfl,rfl,trivial⟩ ⟨rfl,XF _,λj h=>by rw[XA,ZF h];rfl⟩ ?_
 rintro k u ⟨o,v,c⟩ ih;subst o;refine aN aA (aT aA (λf=>?_) λf=>?_)
 .have s:0<k:=by have:=bL f;omega
  obtain⟨k,rfl⟩:∃m,k=m+1:=⟨k-1,by omega⟩;obtain⟨b,off,rfl,q⟩:=hr.atm (i:=k) (by omega);rw[show(((k+1:Nat):Int)-1)=(k:Int) from by omega];refine aU k aA (aW aA q aA ?_);cases d:(x.getD k (-1) == -1) with
  |false=>
   exact aM aA (show(x.getD k (-1) != -1)=true by simpa [bne] using d) (bE func265 aA ⟨Xz (XbY (p:=id) (by rw[Fq];omega) (λj r g=>by rw[Mx,c j (by omega)];rfl) (by rw[Mx,d];rfl)).symm,rfl⟩)
  |true=>
   refine aI aA (show(x.getD k (-1) != -1)=false by simpa [bne] using d) (aV aA ?_);exact ih k _ _ ⟨rfl,by omega,λj g=>by
    by_cases e:j=k
    .subst e;exact d
    .exact c j (by omega)⟩ (by omega) ⟨rfl,rfl,trivial⟩
 .have t:k=0:=by have:=bM f;omega
  exact bE func265 aA ⟨Xz (Xf7 (p:=id) (λj r=>by rw[Mx,c j (by omega)];rfl)).symm,rfl⟩
theorem XbK(l:IL)(i:Nat)(v:Int)(w:dD)(h:Cf w l)(hi:i<l.x.length):Xf prog 302 #[Xr l,.int .i64 i,.int .i64 v] w
 (λu w'=>∃l':IL,u=Xr l'/\l'.x=l.x.set i v/\Cf w' l'/\Xc Xe w w'/\Gb w l.a l'.a):=by
 obtain⟨a,cap,x⟩:=l;have F:=h.len;have hr:=h.rd;simp only at F hr hi
 show Xf prog 302 #[.slice a x.length cap,.int .i64 i,.int .i64 v] w _
 have K:maxLen=9223372036854775807:=rfl;obtain⟨b,off,rfl,Q⟩:=hr i hi;refine aR func302 ntmps302 aA (Xa.buildSlice Xb rfl λG H e3 n c L=>aN aA ?_);have o:Xl w.heap.size 3 1 H (.slice (some ⟨G,0,none⟩) 0 0) 0 []:=Xl.empty (by omega) n;refine Xa.append (base:=w.heap.size) (xs:=[]) (news:=x.map (Value.int .i64)) Xb rfl o c.size (by simp) (hr.bR c).cells Jd (by simp only;omega) λR I p q M=>aN aA ?_;have r:=o.bU c (XF _) q;obtain⟨g,j,cur,rfl,s,t,y,N,A⟩:=p.form (by omega);have d:cur.toList=x.map (Value.int .i64)++cur.toList.drop x.length:=by
  have e:=XY x.length cur.toList;rw[show cur.toList.take x.length=x.map (Value.int .i64) from by simpa using A] at e;exact e.symm
 obtain⟨rest,f⟩:∃rest,rest=cur.toList.drop x.length:=⟨_,rfl⟩;rw[<-f] at d;have k:I.heap[g]?=some (.cells (x.map (Value.int .i64)++rest).toArray 3 (0,0)):=by rw[<-d];exact t
 have B:0+x.length=x.length:=by omega
 rw[B] at y⊢;refine aU i aA (aL aA k (show Z4 (x.map (Value.int .i64)++rest) (0+i) [.int .i64 v]=some ((x.set i v).map (Value.int .i64)++rest) from by rw[XT,J8 _ _ _ (by simp;omega),YK _ _ (by simpa using hi),ZZ]) aA λJ m C O=>?_);have D:Xc Xe w J:=r.sn C;have E:(x.set i v).length=x.length:=by simp
 exact bE func302 aA ⟨⟨some ⟨g,0,none⟩,j,x.set i v⟩,by show _=Value.slice _ (x.set i v).length _;rw[E],rfl,⟨Rd.of_take m (by simp),by simp only;omega⟩,D,.inr ⟨g,0,rfl,s⟩⟩
theorem XlE(l:IL)(who:Int)(w:dD)(h:Cf w l):Xf prog 269 #[Xr l,.int .i64 who] w
 (λv w'=>∃l':IL,v=.tuple #[Xr l',.int .i64 (Eu l.x who),.int .i64 (Dy l.x who)]/\l'.x=Qf l.x who/\Cf w' l'/\Xc Xe w w'/\Gb w l.a l'.a):=by
 refine aR func269 ntmps269 aA (aT aA (λg=>?_) λg=>?_)
 .have c:=bL g;have a:Dy l.x who=1:=by unfold Dy;rw[bK c]
  have b:Eu l.x who=0:=by unfold Eu;rw[a];rfl
  have ht:Qf l.x who=l.x:=by unfold Qf;rw[a];rfl
  rw[a,b,ht];exact bD rfl func269 (.tmp rfl (.tmp rfl (.tmp rfl .nil))) ⟨l,rfl,rfl,h,Xc.refl _ _,.inl rfl⟩
 have c:=bM g;refine bH (U0 l w h) aA (aT aA (λi=>?_) λi=>?_)
 .have d:=bL i;have a:Dy l.x who=5:=by unfold Dy;rw[bJ c,bK d]
  have b:Eu l.x who=0:=by unfold Eu;rw[a];rfl
  have ht:Qf l.x who=l.x:=by unfold Qf;rw[a];rfl
  rw[a,b,ht];exact bD rfl func269 (.tmp rfl (.tmp rfl (.tmp rfl .nil))) ⟨l,rfl,rfl,h,Xc.refl _ _,.inl rfl⟩
 have d:=bM i;have a:Dy l.x who=0:=by unfold Dy;rw[bJ c,bJ d]
 have b:Eu l.x who=Yf l.x:=by unfold Eu;rw[a];rfl
 have ht:Qf l.x who=l.x.set (Yf l.x).toNat who:=by unfold Qf;rw[a];rfl
 obtain⟨f,q⟩:=Uu d;rw[a,b,ht];obtain⟨k,j⟩:=XE (show 0<=Yf l.x by omega);rw[j];rw[j] at f;refine aP aA (XbK l k who w h f) ?_;rintro _ r ⟨l',rfl,n,o,p,m⟩;exact aN aA (bD rfl func269 (.tmp rfl (.tmp rfl (.tmp rfl .nil))) ⟨l',rfl,n,o,p,m⟩)
theorem XlA(l:IL)(i:Int)(w:dD)(h:Cf w l):Xf prog 273 #[Xr l,.int .i64 i] w
 (λv w'=>∃l':IL,v=.tuple #[Xr l',.int .i64 (Q1 l.x i)]/\l'.x=Yj l.x i/\Cf w' l'/\Xc Xe w w'/\Gb w l.a l'.a):=by
 have g:∀e:Int,Q1 l.x i=e->e≠0->Yj l.x i=l.x:=λe f d=>by unfold Yj;rw[f,bJ d]
 obtain⟨a,cap,x⟩:=l;have hr:=h.rd;have k:=h.len;simp only at hr g k
 show Xf prog 273 #[.slice a x.length cap,.int .i64 i] w (λv w'=>∃l':IL,v=.tuple #[Xr l',.int .i64 (Q1 x i)]/\l'.x=Yj x i/\Cf w' l'/\Xc Xe w w'/\Gb w a l'.a)
 refine aR func273 ntmps273 aA (aT aA (λm=>?_) λm=>?_)
 .have o:=bL m;have c:Q1 x i=1:=by unfold Q1;rw[bK (by omega)]
  rw[c,g 1 c (by decide)];exact bE func273 aA ⟨⟨a,cap,x⟩,rfl,rfl,h,Xc.refl _ _,.inl rfl⟩
 have o:=bM m;refine aT aA (λf=>?_) λf=>?_
 .have p:=bL f;have c:Q1 x i=1:=by unfold Q1;rw[bK (by omega)]
  rw[c,g 1 c (by decide)];exact bE func273 aA ⟨⟨a,cap,x⟩,rfl,rfl,h,Xc.refl _ _,.inl rfl⟩
 have p:=bM f;obtain⟨i,rfl⟩:=XE (show 0<=i by omega);have j:Yb x (i:Int)=x.getD i (-1):=by unfold Yb;rw[bK (by omega)];rfl
 obtain⟨b,off,rfl,q⟩:=hr.atm (i:=i) (by omega);refine aU i aA (aW aA q aA ?_);by_cases d:x.getD i (-1)=-1
 .have c:Q1 x i=9:=by unfold Q1;rw[bJ (by omega),bK (by rw[j];exact d)]
  rw[c];exact aM aA (show(x.getD i (-1) == -1)=true by rw[d];rfl) (bE func273 aA ⟨⟨_,cap,x⟩,rfl,(g 9 c (by decide)).symm,h,Xc.refl _ _,.inl rfl⟩)
 .have c:Q1 x i=0:=by unfold Q1;rw[bJ (by omega),bJ (by rw[j];exact d)]
  have ht:Yj x i=x.set i (-1):=by unfold Yj;rw[c];rfl
  rw[c];refine aI aA (show(x.getD i (-1) == -1)=false by simpa using d) (aP aA (XbK ⟨_,cap,x⟩ i (-1) w h (show i<x.length by omega)) ?_);rintro _ t ⟨l',rfl,r,k,s,n⟩;exact aN aA (bE func273 aA ⟨l',rfl,by rw[r];exact ht.symm,k,s,n⟩)
theorem XlC(l:IL)(i who:Int)(w:dD)(h:Cf w l):Xf prog 298 #[Xr l,.int .i64 i,.int .i64 who] w
 (λv w'=>∃l':IL,v=.tuple #[Xr l',.int .i64 (Am l.x i who)]/\l'.x=By l.x i who/\Cf w' l'/\Xc Xe w w'/\Gb w l.a l'.a):=by
 have f:∀e:Int,Am l.x i who=e->e≠0->By l.x i who=l.x:=λe g d=>by unfold By;rw[g,bJ d]
 obtain⟨a,cap,x⟩:=l;have hr:=h.rd;have m:=h.len;simp only at hr f m
 show Xf prog 298 #[.slice a x.length cap,.int .i64 i,.int .i64 who] w (λv w'=>∃l':IL,v=.tuple #[Xr l',.int .i64 (Am x i who)]/\l'.x=By x i who/\Cf w' l'/\Xc Xe w w'/\Gb w a l'.a)
 refine aR func298 ntmps298 aA (aT aA (λn=>?_) λn=>?_)
 .have p:=bL n;have c:Am x i who=1:=by unfold Am;rw[bK (by omega)]
  rw[c,f 1 c (by decide)];exact bE func298 aA ⟨⟨a,cap,x⟩,rfl,rfl,h,Xc.refl _ _,.inl rfl⟩
 have p:=bM n;refine aT aA (λg=>?_) λg=>?_
 .have q:=bL g;have c:Am x i who=1:=by unfold Am;rw[bK (by omega)]
  rw[c,f 1 c (by decide)];exact bE func298 aA ⟨⟨a,cap,x⟩,rfl,rfl,h,Xc.refl _ _,.inl rfl⟩
 have q:=bM g;refine aT aA (λj=>?_) λj=>?_
 .have gw:=bL j;have c:Am x i who=1:=by unfold Am;rw[bK (by omega)]
  rw[c,f 1 c (by decide)];exact bE func298 aA ⟨⟨a,cap,x⟩,rfl,rfl,h,Xc.refl _ _,.inl rfl⟩
 have gw:=bM j;obtain⟨i,rfl⟩:=XE (show 0<=i by omega);have k:Yb x (i:Int)=x.getD i (-1):=by unfold Yb;rw[bK (by omega)];rfl
 obtain⟨b,off,rfl,r⟩:=hr.atm (i:=i) (by omega);refine aU i aA (aW aA r aA ?_);by_cases d:x.getD i (-1)=-1
 .have c:Am x i who=9:=by unfold Am;rw[bJ (by omega),bK (by rw[k];exact d)]
  rw[c];exact aM aA (show(x.getD i (-1) == -1)=true by rw[d];rfl) (bE func298 aA ⟨⟨_,cap,x⟩,rfl,(f 9 c (by decide)).symm,h,Xc.refl _ _,.inl rfl⟩)
 .have c:Am x i who=0:=by unfold Am;rw[bJ (by omega),bJ (by rw[k];exact d)]
  have ht:By x i who=x.set i who:=by unfold By;rw[c];rfl
  rw[c];refine aI aA (show(x.getD i (-1) == -1)=false by simpa using d) (aP aA (XbK ⟨_,cap,x⟩ i who w h (show i<x.length by omega)) ?_);rintro _ u ⟨l',rfl,s,m,t,o⟩;exact aN aA (bE func298 aA ⟨l',rfl,by rw[s];exact ht.symm,m,t,o⟩)
variable {l':IL}{ps:List IL}
def Yr(w:dD)(a:Option Addr):Prop:=∀b off s,a=some ⟨b,off,s⟩->b<w.heap.size
def Be(w:dD)(a:Option Addr):Prop:=∀b off s,a=some ⟨b,off,s⟩->w.heap.size<=b
structure Q6(w:dD)(l:IL):Prop where
 ok:Cf w l
 cap:l.x.length<=l.cap
 lt:Yr w l.a
theorem Yr.bQ(h:Yr w a)(hs:w.heap.size<=w'.heap.size):Yr w' a:=λb off s e=>by have:=h b off s e;omega
theorem Q6.bQ{w w':dD}{l:IL}(h:Q6 w l)(hc:Xc Xe w w'):Q6 w' l:=⟨h.ok.bQ hc,h.cap,h.lt.bQ hc.size⟩
theorem Q6.bW{w w':dD}{l:IL}{S:Nat->Prop}(h:Q6 w l)(hs:Xj S l.a)(hc:Xc S w w'):Q6 w' l:=⟨h.ok.bW hs hc,h.cap,h.lt.bQ hc.size⟩
theorem Yr.out(h:Yr w a)(hs:∀z,S z->w.heap.size<=z):Xj S a:=λb off s e c=>by
 have:=h b off s e;have:=hs b c;omega
theorem Be.out(h:Be w a)(hs:∀z,S z->z<w.heap.size):Xj S a:=λb off s e c=>by
 have:=h b off s e;have:=hs b c;omega
theorem Be.dC(h:Be w' a)(hs:w.heap.size<=w'.heap.size):Be w a:=λb off s e=>by have:=h b off s e;omega
theorem Rd.cellsA{k:IntKind}{x:List Int}(h:Rd k w a x):∀i u,(x.map (Value.int k))[i]?=some u -> ∃a',a=some a'/\w.cell? (a'.add i)=some u:=λi u c=>by
 have d:i<x.length:=by have:=(XC.1 c).1;simpa using this
 obtain⟨b,off,rfl,_⟩:=h i d;exact⟨_,rfl,h.cells i u c⟩
theorem Rd.noneA{x:List Int}{k:IntKind}(h:Rd k w a x):a=none->x.length=0:=λe=>by
 cases x with
 |nil=>rfl
 |cons z r=>
  obtain⟨b,off,e',_⟩:=h 0 (by simp);rw[e] at e';cases e'
theorem Xl.il{x:List Int}(h:Xl base 3 1 w v m (x.map (Value.int .i64)))(hm:x.length=m)(hx:x.length<=512):∃l:IL,v=Xr l/\l.x=x/\Q6 w l/\∀b off s,l.a=some ⟨b,off,s⟩->base<=b:=by
 rcases h.2 with⟨rfl,j⟩|⟨g,cap,cur,rfl,f,c,a,i,_,d⟩
 .have:x=[]:=YB.1 (by omega);subst this;exact⟨⟨none,0,[]⟩,rfl,rfl,⟨⟨Rd.nil _ _ _,hx⟩,XF _,(by intro b off s e;cases e)⟩,(by intro b off s e;cases e)⟩
 .subst hm;exact⟨⟨some ⟨g,0,none⟩,cap,x⟩,rfl,rfl,⟨⟨Rd.of_take c (by simpa using d),hx⟩,a,(by intro b off s e;cases e;exact Xg c)⟩,(by intro b off s e;cases e;exact f)⟩
theorem Xl.one{t:TypeId}{u:dE}(hb:base<=b)(h:w.heap[b]?=some (.cells #[u] t (0,0))):Xl base t 1 w (.slice (some ⟨b,0,none⟩) 1 1) 1 [u]:=
 ⟨by simp,.inr ⟨b,1,#[u],rfl,hb,h,XF _,by decide,by simp,by simp⟩⟩
structure RP where
 o:IL
 f:IL
def Dj(r:RP):List dE:=[Xr r.o,Xr r.f]
structure Ao(w:dD)(r:RP)(pl:PlM):Prop where
 o:Q6 w r.o
 f:Q6 w r.f
 eo:r.o.x=pl.own
 ef:r.f.x=pl.free.map (λn:Nat=>(n:Int))
theorem Ao.bQ{w w':dD}{r:RP}{pl:PlM}(h:Ao w r pl)(hc:Xc Xe w w'):Ao w' r pl:=⟨h.o.bQ hc,h.f.bQ hc,h.eo,h.ef⟩
theorem XfL(o f:IL)(i:Nat)(v:Int)(w:dD)(h:Q6 w o)(hf:Q6 w f)(hi:i<o.x.length):Xf prog 299 #[.agg (Dj ⟨o,f⟩).toArray,.int .i64 i,.int .i64 v] w
 (λu w'=>∃l':IL,u=.agg (Dj ⟨l',f⟩).toArray/\l'.x=o.x.set i v/\Q6 w' l'/\Be w l'.a/\Xc Xe w w'):=by
 obtain⟨a,cap,x⟩:=o;have hl:=h.ok.len;have hr:=h.ok.rd;simp only at hl hr hi
 have a7:maxLen=9223372036854775807:=rfl;obtain⟨b,off,rfl,hc⟩:=hr i hi;refine aR func299 ntmps299 aA (bC aA λpb w1 e1 d c a8=>bC aA λqb L e2 M j a9=>?_);replace d:w1.heap[pb]?=some (.cells ([.slice (some ⟨b,off,none⟩) x.length cap,Xr f]:List dE).toArray 34 (0,0)):=d;refine Xa.buildSlice Xb rfl λb3 w3 e3 N k aa=>aN aA ?_;have l:=j.trans k;have A:=c.trans l;refine bB (l.bP d) aA ?_;have O:Xl L.heap.size 3 1 w3 (.slice (some ⟨b3,0,none⟩) 0 0) 0 []:=Xl.empty (by omega) N;refine Xa.appendA (base:=L.heap.size) (xs:=[]) (news:=x.map (Value.int .i64)) Xb rfl O k.size (λe=>by cases e) (by simp) (hr.bR A).cellsA Jd (by simp only;omega) λv4 w4 P Q ab=>aN aA ?_;have m:=O.bU k (XF _) Q;obtain⟨g,B,cur,rfl,ac,R,S,ad,T⟩:=P.form (by omega);have n:cur.toList=x.map (Value.int .i64)++cur.toList.drop x.length:=by
  have e:=XY x.length cur.toList;rw[show cur.toList.take x.length=x.map (Value.int .i64) from by simpa using T] at e;exact e.symm
 obtain⟨rest,r⟩:∃rest,rest=cur.toList.drop x.length:=⟨_,rfl⟩;rw[<-r] at n;have C:w4.heap[g]?=some (.cells (x.map (Value.int .i64)++rest).toArray 3 (0,0)):=by rw[<-n];exact R
 have U:0+x.length=x.length:=by omega
 rw[U] at S⊢;refine aU i aA (aL aA C (show Z4 (x.map (Value.int .i64)++rest) (0+i) [.int .i64 v]=some ((x.set i v).map (Value.int .i64)++rest) from by rw[XT,J8 _ _ _ (by simp;omega),YK _ _ (by simpa using hi),ZZ]) aA λw5 D p ae=>?_);have V:(x.set i v).length=x.length:=by simp
 have E:=p.heap (m.bP (j.bP d)) (show ¬pb=g by omega);have F:=p.heap (m.bP M) (show ¬qb=g by omega);refine bF E aA λw6 G q af=>bB G aA ?_;have H:=q.heap F (by omega);refine bF H aA λw7 I t ag=>?_;have y:=t.heap (q.heap D (by omega)) (by omega);have J:Xc Xe w w5:=((c.trans j).trans m).bU p (λz W e=>by have:=c.size;omega);have K:Xc Xe w w7:=(J.sn q).bU t (λz W e=>by have:=c.size;omega);exact aK func299 I aA ⟨⟨some ⟨g,0,none⟩,B,x.set i v⟩,by show _=Value.agg [Value.slice _ (x.set i v).length _,_].toArray;rw[V];rfl,rfl,⟨⟨Rd.of_take y (by simp),by simp only;omega⟩,by simp only;omega,(by intro b off s e;cases e;exact Xg y)⟩,(by intro b off s e;cases e;have:=c.size;omega),K⟩
def IL.sl(l:IL)(lo hi:Nat):IL:=⟨Aa l.a l.cap lo 1,l.cap-lo,(l.x.drop lo).take (hi-lo)⟩
theorem Xcb{l:Nat}{off:Nat}{s:Option Nat}(h:Aa a cap l sz=some ⟨b,off,s⟩):∃off' s',a=some ⟨b,off',s'⟩:=by
 unfold Aa at h;by_cases c:cap=l
 .rw[bK c] at h;exact⟨off,s,h⟩
 .rw[bJ c] at h;cases a with
  |none=>cases h
  |some x=>
   obtain⟨xb,xo,xs⟩:=x;simp only[QY,Option.some.injEq] at h;unfold Addr.add at h;refine⟨xo,xs,?_⟩;have d:xb=b:=by split at h <;> (cases h;rfl)
   rw[d]
theorem IL.sl_out{l:IL}{hi:Nat}(h:Xj S l.a):Xj S (l.sl lo hi).a:=λb off s e=>by
 obtain⟨off',s',e'⟩:=Xcb e;exact h b off' s' e'
theorem Q6.sl{l:IL}(h:Q6 w l){hi:Nat}(h1:lo<=hi)(h2:hi<=l.x.length):Q6 w (l.sl lo hi)/\(l.sl lo hi).x.length=hi-lo:=by
 have a:((l.x.drop lo).take (hi-lo)).length=hi-lo:=by rw[XX,QH];omega
 have c:=h.cap;have d:=h.ok.len;refine⟨⟨⟨h.ok.rd.shift (by omega) c,by show((l.x.drop lo).take (hi-lo)).length<=512;omega⟩,by show((l.x.drop lo).take (hi-lo)).length<=l.cap-lo;omega,λb off s e=>?_⟩,a⟩;obtain⟨off',s',e'⟩:=Xcb e;exact h.lt b off' s' e'
theorem XiQ(y:List Int)(z:Int):((z::y).drop 1).take ((z::y).length-1)=y:=by simp
theorem Xlt(r:RP)(who:Int)(pl:PlM)(w:dD)(h:Ao w r pl)(hw0:0<=who)(hf:pl.free=[]):Xf prog 257 #[.agg (Dj r).toArray,.int .i64 who] w (Grow (.tuple #[.agg (Dj r).toArray,.int .i64 0,.int .i64 5]) w):=by
 have f:r.f.x.length=0:=by rw[h.ef,hf];rfl
 refine aR func257 ntmps257 aA (bC aA λpb n e1 g b k=>bC aA λqb o e2 i c l=>?_);have a:=c.bP g;refine aS aA (bB a aA (aM aA (by rw[f];rfl) (bB a aA (bF i aA λp d j m=>?_))));exact aK func257 d aA ⟨rfl,(b.trans c).bU j (λz q e=>by have:=b.size;omega)⟩
theorem XfK(r:RP)(who:Int)(pl:PlM)(n:Nat)(t:List Nat)(w:dD)(h:Ao w r pl)(hg:pl.Good)(hw0:0<=who)(hf:pl.free=n::t):Xf prog 257 #[.agg (Dj r).toArray,.int .i64 who] w
 (λv w'=>∃l:IL,v=.tuple #[.agg (Dj ⟨l,r.f.sl 1 r.f.x.length⟩).toArray,.int .i64 n,.int .i64 0]/\Ao w' ⟨l,r.f.sl 1 r.f.x.length⟩ (pl.take who)/\Be w l.a/\Xc Xe w w'):=by
 obtain⟨o,f⟩:=r;have b:=h.ef;rw[hf] at b;simp only[ZK] at b;have B:f.x.length=t.length+1:=by rw[b];simp
 obtain⟨U,_⟩:=hg.free n (by rw[hf];simp);have J:n<o.x.length:=by have:=h.eo;simp only at this;rw[this];exact U
 have g:=h.f;simp only at g
 have F:=g.cap;obtain⟨fb,foff,C,i⟩:=g.ok.rd 0 (by omega);have K:f.x.getD 0 0=n:=by rw[b];rfl
 rw[K] at i;obtain⟨fa,fcap,fx⟩:=f;simp only at C i b B F
 subst C;refine aR func257 ntmps257 aA (bC aA λpb V e1 k L a0=>bC aA λqb W e2 M D a1=>?_);replace k:V.heap[pb]?=some (.cells ([Xr o,.slice (some ⟨fb,foff,none⟩) fx.length fcap]:List dE).toArray 34 (0,0)):=k;have c:=D.bP k;have a:=L.trans D;refine Xa.no Xb rfl (bO (by omega)) rfl ?_;refine Xa.cJ Xb rfl c rfl rfl ?_;refine Xa.no Xb rfl (by rw[B];simp;omega) rfl ?_;refine Xa.cJ Xb rfl c rfl rfl ?_;refine Xa.index Xb rfl (j:=0) (by omega) (by omega) (by first|rfl|omega|(simp;done)|(simp;omega)) rfl ?_;refine aW aA (a.cell i id) aA (bB c aA (aP aA (XfL o ⟨some ⟨fb,foff,none⟩,fcap,fx⟩ n who W (h.o.bQ a) (g.bQ a) J) ?_));rintro _ w3 ⟨l,rfl,N,O,E,m⟩;refine aN aA ?_;refine bC aA λtb w4 e4 P Q a2=>bF P aA λw5 G R a3=>?_;have p:=Q.sn R;refine bB (p.bP (m.bP c)) aA (Xa.slice Xb rfl (l:=1) (h:=fx.length) (by first|rfl|omega|simp[Dw]) (by first|rfl|omega|simp[Ds]) (by omega) (by omega) rfl (bF G aA λw6 q S a4=>?_));have d:=p.sn S;obtain⟨s,H⟩:=g.sl (lo:=1) (hi:=fx.length) (by omega) (XF _);obtain⟨f',u⟩:∃f':IL,f'=(⟨some ⟨fb,foff,none⟩,fcap,fx⟩:IL).sl 1 fx.length:=⟨_,rfl⟩;have T:Xr f'=.slice (Aa (some ⟨fb,foff,none⟩) fcap 1 1) (fx.length-1) (fcap-1):=by rw[u];show Value.slice _ ((fx.drop 1).take (fx.length-1)).length _=_;rw[XX,QH,Nat.min_self];rfl
 rw[<-T] at q;rw[<-u] at s H⊢;refine bB q aA ?_;have x:=(a.trans m).trans d;have ee:pl.take who=⟨pl.own.set n who,t⟩:=by unfold PlM.take;rw[hf]
 exact bF (d.bP (m.bP M)) aA λw7 I y a5=>aK func257 I aA ⟨l,rfl,⟨((O.bQ d).bW (E.out (λz A=>by omega)) y),((s.bQ x).bW (s.lt.out (λz A=>by omega)) y),by rw[ee];show l.x=pl.own.set n who;rw[N];have:=h.eo;simp only at this;rw[this],by rw[ee,u];show(fx.drop 1).take (fx.length-1)=t.map _;rw[b];exact XiQ _ _⟩,E.dC a.size,x.sn y⟩
theorem XfJ(r:RP)(n:Nat)(pl:PlM)(w:dD)(h:Ao w r pl)(hg:pl.Good)(hn:n<pl.own.length)(ho:pl.own.getD n 0≠-1):Xf prog 260 #[.agg (Dj r).toArray,.int .i64 n] w
 (λv w'=>∃r',v=.tuple #[.agg (Dj r').toArray,.int .i64 0]/\Ao w' r' (pl.give n)/\Be w r'.o.a/\Be w r'.f.a/\Xc Xe w w'):=by
 obtain⟨o,f⟩:=r;have c:=h.eo;have m:=h.ef;simp only at c m
 have C:=h.o.ok.len;have U:=h.f.ok.len;simp only at C U
 have p:n<o.x.length:=by rw[c];exact hn
 have af:=(hg.give hn ho).many;have a9:f.x.length=pl.free.length:=by rw[m];simp
 have ag:f.x.length+1<=512:=by
  have e1:(pl.give n).free.length=pl.free.length+1:=rfl;have e2:(pl.give n).own.length=pl.own.length:=by show(pl.own.set n (-1)).length=_;simp
  have e3:o.x.length=pl.own.length:=by rw[c]
  omega
 have M:=h.o;simp only at M
 obtain⟨ob,ooff,D,E⟩:=M.ok.rd n p;have F:o.x.getD n 0≠-1:=by rw[c];exact ho
 have ah:maxLen=9223372036854775807:=rfl;obtain⟨oa,ocap,ox⟩:=o;simp only at D E C p F c
 subst D;refine aR func260 ntmps260 aA (bC aA λpb w1 e1 q V ai=>bC aA λqb W e2 a0 G aj=>?_);replace q:w1.heap[pb]?=some (.cells ([.slice (some ⟨ob,ooff,none⟩) ox.length ocap,Xr f]:List dE).toArray 34 (0,0)):=q;have d:=G.bP q;have a:=V.trans G;refine Xa.no Xb rfl (bO (by omega)) rfl ?_;refine Xa.cJ Xb rfl d rfl rfl ?_;refine Xa.no Xb rfl (bO (by omega)) rfl ?_;refine bB d aA (aU n aA (aW aA (a.cell E id) aA (aI aA (by simpa using F) (bB d aA (aP aA (XfL ⟨some ⟨ob,ooff,none⟩,ocap,ox⟩ f n (-1) W (M.bQ a) (h.f.bQ a) p) ?_)))));rintro _ w3 ⟨l,rfl,a1,a2,H,g⟩;have I:=a.size;have ak:=g.size;refine aN aA (bC aA λtb w4 e4 a3 a4 al=>bF a3 aA λN O a5 am=>?_);have i:=a4.sn a5;refine Xa.buildSlice Xb rfl λb6 w6 e6 a6 k an=>aN aA ?_;refine bB (k.bP (i.bP (g.bP d))) aA ?_;have J:Xl N.heap.size 3 1 w6 (.slice (some ⟨b6,0,none⟩) 1 1) 1 [.int .i64 n]:=Xl.one (by omega) a6;have u:=h.f.ok.rd;simp only at u
 refine Xa.appendA (base:=N.heap.size) (xs:=[.int .i64 n]) (news:=f.x.map (Value.int .i64)) Xb rfl J k.size u.noneA (by simp) (u.bR (((a.trans g).trans i).trans k)).cellsA Jd (by simp only;omega) λv7 w7 a7 a8 ao=>aN aA ?_;have y:=J.bU k (XF _) a8;obtain⟨fl,P,Q,R,A⟩:=Xl.il (x:=(n:Int)::f.x) (show Xl N.heap.size 3 1 w7 v7 (1+f.x.length) (((n:Int)::f.x).map (Value.int .i64)) from a7) (by simp;omega) (by simp;omega);subst P;refine bF (y.bP O) aA λw8 S K ap=>bB S aA ?_;have j:=(i.trans y).sn K;refine bF (j.bP (g.bP a0)) aA λw9 T B aq=>?_;have L:Be W fl.a:=λb off s e=>by have:=A b off s e;omega
 exact aK func260 T aA ⟨⟨l,fl⟩,rfl,⟨((a2.bQ j).bW (H.out (λz t=>by omega)) B),((R.bW (by intro b off s e t;have:=A b off s e;omega) K).bW (L.out (λz t=>by omega)) B),by show l.x=pl.own.set n (-1);rw[a1,<-c],by show fl.x=(n::pl.free).map _;rw[Q,m];rfl⟩,H.dC I,L.dC I,((a.trans g).trans j).sn B⟩
theorem Xl.isSlice{size:Nat}(h:Xl base t size w v m xs):∃a n c,v=.slice a n c:=by
 rcases h.2 with⟨h,_⟩|⟨g,cap,cur,h,_⟩
 .exact⟨_,_,_,h⟩
 .exact⟨_,_,_,h⟩
theorem Xld(i:Nat):((List.range (i+1)).map (λn:Nat=>(n:Int))).map (Value.int .i64)=((List.range i).map (λn:Nat=>(n:Int))).map (Value.int .i64)++[.int .i64 (i:Int)]:=by
 rw[QB,XL,XL];rfl
theorem Xls(N:Nat)(w:dD)(hN:1<=N/\N<=512):Xf prog 195 #[.int .i64 N] w
 (λv w'=>∃r,v=.tuple #[.agg (Dj r).toArray,.int .i64 0]/\Ao w' r (Dz N)/\Be w r.o.a/\Be w r.f.a/\Xc Xe w w'):=by
 have aq:maxLen=9223372036854775807:=rfl;refine aR func195 ntmps195 aA (bC aA λqb w1 e1 aa t ar=>bC aA λtb q e2 ab S au=>?_);have W:=t.trans S;refine aS aA (aS aA ?_);refine Xa.loop (α:=Nat×dE×dE) (λp=>[(0,false,.int .i64 N),(2,false,.pointer (some ⟨qb,0,none⟩)),(4,false,.pointer (some ⟨tb,0,none⟩)),(5,false,.int .i64 p.1)])
  (λp w'=>p.1<=N/\w'.heap[tb]?=some (.cells ([p.2.1,p.2.2]:List dE).toArray 34 (0,0))/\Xl q.heap.size 3 1 w' p.2.1 p.1 ((List.replicate p.1 (-1)).map (Value.int .i64))/\Xl q.heap.size 3 1 w' p.2.2 p.1 (((List.range p.1).map (λn:Nat=>(n:Int))).map (Value.int .i64))/\(∀b,some b=p.2.1.ownBlock->some b≠p.2.2.ownBlock)/\Xc (λz=>z=tb) q w')
  (λp=>N-p.1) (0,.slice none 0 0,.slice none 0 0) ⟨rfl,rfl,rfl,rfl,trivial⟩ ⟨XQ _,ab,World.ownsRow_nil _ _ _ _,World.ownsRow_nil _ _ _ _,(λb h=>by cases h),Xc.refl _ _⟩ ?_
 rintro⟨i,vo,vf⟩ w3 ⟨hi,c,u,y,A,k⟩ ih;simp only at hi c u y A
 have ak:=k.size;refine aN aA (aT aA (λhc=>?_) λhc=>?_)
 .have ac:i<N:=by have:=bL hc;omega
  refine bB c aA (Xa.buildSlice Xb rfl λb4 w4 e4 ad l ae=>aN aA ?_);have d:=u.bR l (λ_ _ h=>h);have B:=y.bR l (λ_ _ h=>h);refine Xa.append (base:=q.heap.size) (xs:=(List.replicate i (-1)).map (Value.int .i64)) (news:=[.int .i64 (-1)]) Xb rfl d (by omega) (by simp) (Gv ad) (by simp[Value.oneCell']) (by simp only;omega) ?_;intro vo' w5 f m af;obtain⟨C,D,E,rfl⟩:=Xl.isSlice f;have av:=m.size;have F:=B.bR m (λb a e=>A b e a);refine aN aA (bF (m.heap (l.bP c) (λe=>by have:=(World.ownsRow.lt d tb (Eq.symm e)).1;omega)) aA λw6 G H aw=>?_);have I:∀b,some b=(Value.slice C D E).ownBlock->some b≠vf.ownBlock:=λb a e=>by
   rcases af.2 with h|h
   .exact A b (a.trans h) e
   .rw[h] at a;have e1:=Option.some.inj a;have:=(World.ownsRow.lt B b e.symm).2;omega
  refine bB G aA (Xa.buildSlice Xb rfl λb7 w7 e7 ag o ax=>aN aA ?_);have J:=(f.bR H (λb a e=>by have:=(World.ownsRow.lt f b a.symm).1;omega)).bR o (λ_ _ h=>h);have g:=(F.bR H (λb a e=>by have:=(World.ownsRow.lt F b a.symm).1;omega)).bR o (λ_ _ h=>h);refine Xa.append (base:=q.heap.size) (xs:=((List.range i).map (λn:Nat=>(n:Int))).map (Value.int .i64)) (news:=[.int .i64 (i:Int)]) Xb rfl g (by omega) (by simp) (Gv ag) (by simp[Value.oneCell']) (by simp only;omega) ?_;intro vf' w8 j K ah;obtain⟨T,U,V,rfl⟩:=Xl.isSlice j;have L:=J.bR K (λb a e=>I b a e);refine aN aA (bF (K.heap (o.bP G) (λe=>by have:=(World.ownsRow.lt g tb (Eq.symm e)).1;omega)) aA λw9 a1 M ay=>?_);have a2:∀b,some b=(Value.slice C D E).ownBlock->some b≠(Value.slice T U V).ownBlock:=λb a e=>by
   rcases ah.2 with h|h
   .exact I b a (e.trans h)
   .rw[h] at e;have e1:=Option.some.inj e;have:=(World.ownsRow.lt J b a.symm).2;omega
  have hS:Xc (λz=>z=tb) q w9:=by
   exact(((((k.trans l.gr).bU m (λz O e=>by have:=(World.ownsRow.lt d z (Eq.symm e)).1;omega)).trans H).trans (o.mono (λ_ _ h=>h.elim):Xc (λz=>z=tb) w6 w7)).bU K (λz O e=>by have:=(World.ownsRow.lt g z (Eq.symm e)).1;omega)).trans M
  refine aV aA ?_;exact ih (i+1,.slice C D E,.slice T U V) _ _ ⟨ac,a1,by
   have e:(List.replicate (i+1) (-1:Int)).map (Value.int .i64)=(List.replicate i (-1)).map (Value.int .i64)++[.int .i64 (-1)]:=by rw[List.replicate_succ',XL];rfl
   rw[e];exact(L.bR M (λb a e=>by have:=(World.ownsRow.lt L b a.symm).1;omega)),by rw[Xld];exact(j.bR M (λb a e=>by have:=(World.ownsRow.lt j b a.symm).1;omega)),a2,hS⟩ (by simp only;omega) ⟨rfl,rfl,rfl,rfl,trivial⟩
 .have ai:i=N:=by have:=bM hc;omega
  subst ai;obtain⟨ol,a3,a4,a5,P⟩:=Xl.il (x:=List.replicate i (-1)) u (by simp) (by simp;omega);obtain⟨fl,a6,a7,a8,Q⟩:=Xl.il (x:=(List.range i).map (λn:Nat=>(n:Int))) y (by simp) (by simp;omega);subst a3;subst a6;refine bB c aA ?_;refine bF (k.heap (S.bP aa) (show ¬qb=tb by omega)) aA λw4 a9 R ae=>?_;exact aK func195 a9 aA ⟨⟨ol,fl⟩,rfl,⟨a5.bW (by intro b off s e O;have:=P b off s e;omega) R,a8.bW (by intro b off s e O;have:=Q b off s e;omega) R,a4,a7⟩,λb off s e=>by have:=P b off s e;omega,λb off s e=>by have:=Q b off s e;omega,(W.bU k (λz O e=>by have:=t.size;omega)).bU R (λz O e=>by have:=t.size;omega)⟩
structure RS where
 p:RP
 cL:Int
 cF:Nat
 cP:IL
 pa:Option Addr
 pcap:Nat
 ps:List IL
 cG:IL
def X9(r:RS):List dE:=[Xr r.p.o,Xr r.p.f,.int .i64 r.cL,.int .i64 (r.cF:Int),Xr r.cP,.slice r.pa r.ps.length r.pcap,Xr r.cG]
def D4(w:dD)(a:Option Addr)(ps:List IL):Prop:=∀(i:Nat) (l:IL),ps[i]?=some l -> ∃b off,a=some ⟨b,off,none⟩/\w.cell? ⟨b,off+i,none⟩=some (Xr l)
theorem D4.bQ(h:D4 w a ps)(hc:Xc Xe w w'):D4 w' a ps:=λi l d=>by
 obtain⟨b,off,e,c⟩:=h i l d;exact⟨b,off,e,hc.cell c id⟩
theorem D4.bW(h:D4 w a ps)(hs:Xj S a)(hc:Xc S w w'):D4 w' a ps:=λi l d=>by
 obtain⟨b,off,e,c⟩:=h i l d;exact⟨b,off,e,hc.cell c (hs b off none e)⟩
theorem D4.noneA(h:D4 w a ps):a=none->ps.length=0:=λe=>by
 cases ps with
 |nil=>rfl
 |cons l r=>
  obtain⟨b,off,e',_⟩:=h 0 l rfl;rw[e] at e';cases e'
theorem D4.cellsA(h:D4 w a ps):∀i u,(ps.map Xr)[i]?=some u -> ∃a',a=some a'/\w.cell? (a'.add i)=some u:=λi u c=>by
 rw[XN,QK] at c;obtain⟨l,d,rfl⟩:=c;obtain⟨b,off,rfl,f⟩:=h i l d;exact⟨_,rfl,by rw[Cr];exact f⟩
theorem Uw:∀u∈ps.map Xr,u.oneCell'=true:=λu a=>by
 obtain⟨l,_,rfl⟩:=XP.1 a;rfl
theorem Xl.pl(h:Xl base 22 1 w v m (ps.map Xr))(hm:ps.length=m):∃pa pcap,v=.slice pa ps.length pcap/\D4 w pa ps/\Yr w pa/\ps.length<=pcap/\∀b off s,pa=some ⟨b,off,s⟩->base<=b:=by
 rcases h.2 with⟨rfl,o⟩|⟨g,cap,cur,rfl,k,d,c,n,_,f⟩
 .have:ps=[]:=YB.1 (by omega);subst this;exact⟨none,0,rfl,(λi l a=>by simp at a),(by intro b off s e;cases e),XF _,(by intro b off s e;cases e)⟩
 .subst hm;refine⟨some ⟨g,0,none⟩,cap,rfl,λi l a=>⟨g,0,rfl,?_⟩,(by intro b off s e;cases e;exact Xg d),c,(by intro b off s e;cases e;exact k)⟩;have j:(cur.toList.take ps.length)[i]?=(ps.map Xr)[i]?:=by rw[<-f,ZQ]
  rw[YV,bK ((XC.1 a).1),XN,a] at j;rw[Ys d,XT,<-Array.getElem?_toList,j];rfl
structure Dc(w:dD)(l:IL):Prop where
 ok:Cf w l
 lt:Yr w l.a
theorem Dc.bQ{w w':dD}{l:IL}(h:Dc w l)(hc:Xc Xe w w'):Dc w' l:=⟨h.ok.bQ hc,h.lt.bQ hc.size⟩
theorem Dc.bW{w w':dD}{l:IL}{S:Nat->Prop}(h:Dc w l)(hs:Xj S l.a)(hc:Xc S w w'):Dc w' l:=⟨h.ok.bW hs hc,h.lt.bQ hc.size⟩
theorem Dc.of{l:IL}(h:Cf w l)(hp:0<l.x.length):Dc w l:=⟨h,λb off s e=>by
 obtain⟨b',off',e',a⟩:=h.rd 0 hp;rw[e] at e';cases e';exact World.block_lt_of_cell? w _ a⟩
theorem Gb.outS{a':Option Addr}(h:Gb w a a')(ha:Xj S a)(hs:∀z,S z->z<w.heap.size):Xj S a':=by
 rcases h with rfl|⟨g,off,rfl,d⟩
 .exact ha
 .intro b off' s e c;cases e
  have:=hs _ c;omega
structure Qb(w:dD)(r:RS)(x:Sm)(pl:PlM):Prop where
 p:Ao w r.p pl
 cP:Q6 w r.cP
 cG:Q6 w r.cG
 rp:D4 w r.pa r.ps
 plt:Yr w r.pa
 pcap:r.ps.length<=r.pcap
 cI:∀l∈r.ps,Dc w l
 e1:r.cL=x.cL
 e2:r.cF=x.cF
 e3:r.cP.x=x.pg.map (λe=>((e.1:Nat):Int))
 e4:r.ps.map (·.x)=x.pg.map (·.2)
 e5:r.cG.x=x.cG.map (λn:Nat=>(n:Int))
structure Yi(S:Nat->Prop)(r:RS):Prop where
 o:Xj S r.p.o.a
 f:Xj S r.p.f.a
 cP:Xj S r.cP.a
 cG:Xj S r.cG.a
 pa:Xj S r.pa
 cI:∀l∈r.ps,Xj S l.a
theorem Qb.bQ{w w':dD}{r:RS}{x:Sm}{pl:PlM}(h:Qb w r x pl)(hc:Xc Xe w w'):Qb w' r x pl:=
 ⟨h.p.bQ hc,h.cP.bQ hc,h.cG.bQ hc,h.rp.bQ hc,h.plt.bQ hc.size,h.pcap,λl a=>(h.cI l a).bQ hc,h.e1,h.e2,h.e3,h.e4,h.e5⟩
theorem Qb.bW{w w':dD}{r:RS}{x:Sm}{pl:PlM}{S:Nat->Prop}(h:Qb w r x pl)(ho:Yi S r)(hc:Xc S w w'):Qb w' r x pl:=
 ⟨⟨h.p.o.bW ho.o hc,h.p.f.bW ho.f hc,h.p.eo,h.p.ef⟩,h.cP.bW ho.cP hc,h.cG.bW ho.cG hc,h.rp.bW ho.pa hc,h.plt.bQ hc.size,h.pcap,λl a=>(h.cI l a).bW (ho.cI l a) hc,h.e1,h.e2,h.e3,h.e4,h.e5⟩
theorem Qb.out{w:dD}{r:RS}{x:Sm}{pl:PlM}{S:Nat->Prop}(h:Qb w r x pl)(hs:∀z,S z->w.heap.size<=z):Yi S r:=
 ⟨h.p.o.lt.out hs,h.p.f.lt.out hs,h.cP.lt.out hs,h.cG.lt.out hs,h.plt.out hs,λl a=>(h.cI l a).lt.out hs⟩
def Fg(w:dD)(r r':RS):Prop:=∀S:Nat->Prop,(∀z,S z->z<w.heap.size)->Yi S r->Yi S r'
theorem Fg.refl(w:dD)(r:RS):Fg w r r:=λ_ _ h=>h
def O8(l:List Int)(n:Int):Int:=idx (λm=>m == n) l
theorem Ux{l:PgL}{n:Int}:(Zg l n=none/\O8 (l.map λe=>((e.1:Nat):Int)) n=-1)\/∃(i:Nat) (p:List Int) (m:Nat),n=m/\Zg l n=some p/\O8 (l.map λe=>((e.1:Nat):Int)) n=(i:Int)/\i<l.length/\l[i]?=some (m,p):=by
 cases s:Zg l n with
 |none=>
  refine .inl ⟨rfl,I5 (p:=λm=>m == n) λj b=>?_⟩;rw[YU];have t:j<l.length:=by simpa using b
  have:=Xcc s l[j] (XM t)
  simpa using this
 |some p=>
  right
  have key:∀{l:PgL},Zg l n=some p -> ∃(i m:Nat),n=m/\i<l.length/\l[i]?=some (m,p)/\∀(j:Nat) (h:j<l.length),j<i->((l[j].1:Nat):Int)≠n:=by
   intro l
   induction l with
   |nil=>intro h;cases h
   |cons e r ih=>
    obtain⟨a,q⟩:=e;intro h;unfold Zg at h;by_cases d:(a:Int)=n
    .rw[bK d] at h;cases h;exact⟨0,a,d.symm,by simp,rfl,λj _ h=>absurd h (Nat.not_lt_zero _)⟩
    .rw[bJ d] at h;obtain⟨i,m,f,g,c,o⟩:=ih h;refine⟨i+1,m,f,by simp;omega,by simpa using c,λj b k=>?_⟩;cases j with
     |zero=>exact d
     |succ j=>exact o j (by simpa using b) (by omega)
  obtain⟨i,m,f,g,c,o⟩:=key s;refine⟨i,p,m,f,rfl,Jy (p:=λm=>m == n) (by simpa using g) (λj b k=>?_) ?_,g,c⟩
  .rw[YU];have:=o j (by simpa using b) k
   simpa using this
  .rw[YU];have:l[i]=(m,p):=by rw[XD g] at c;exact Option.some.inj c
   rw[this,f];simp
theorem Pa(r:RS)(n:Int)(w:dD)(h:Q6 w r.cP):Xf prog 264 #[.agg (X9 r).toArray,.int .i64 n] w (Grow (.int .i64 (O8 r.cP.x n)) w):=by
 have u:=h.ok.len;refine aR func264 ntmps264 aA (bC aA λrb v e1 s k z=>?_);refine Xa.loop (α:=Nat) (λi=>[(1,false,.int .i64 n),(2,false,.pointer (some ⟨rb,0,none⟩)),(5,false,.int .i64 i)])
  (λi w'=>i<=r.cP.x.length/\Xc Xe v w'/\∀(j:Nat) (h:j<r.cP.x.length),j<i->(r.cP.x[j] == n)=false) (λi=>r.cP.x.length-i) 0 ⟨rfl,rfl,rfl,trivial⟩ ⟨XQ _,Xc.refl _ _,λ_ _ h=>absurd h (Nat.not_lt_zero _)⟩ ?_
 rintro i x ⟨y,d,a⟩ ih;have c:=d.bP s;refine aN aA (bB c aA (aT aA (λl=>?_) λl=>?_))
 .have f:i<r.cP.x.length:=by have:=bL l;omega
  obtain⟨b,off,t,g⟩:=(h.ok.rd.bR (k.trans d)) i f;obtain⟨rp,cL,cF,⟨na,ncap,nx⟩,pa,pcap,ps,cG⟩:=r;simp only at t g f a u y
  subst t;replace c:x.heap[rb]?=some (.cells ([Xr rp.o,Xr rp.f,.int .i64 cL,.int .i64 (cF:Int),.slice (some ⟨b,off,none⟩) nx.length ncap,.slice pa ps.length pcap,Xr cG]:List dE).toArray 253 (0,0)):=c;refine bB c aA ?_;refine Xa.index Xb rfl (j:=i) (by omega) (by omega) (by first|rfl|omega|(simp;done)|(simp;omega)) rfl ?_;refine aW aA g aA ?_;rw[show nx.getD i 0=nx[i] from by rw[XA,XD f];rfl];refine aT aA (λo=>?_) λo=>?_
  .exact bE func264 aA ⟨Xz (Jy (p:=λm=>m == n) f a o).symm,k.trans d⟩
  .refine aV aA ?_;exact ih (i+1) _ _ ⟨f,d,λj q A=>by
    by_cases e:j=i
    .subst e;exact o
    .exact a j q (by omega)⟩ (by simp only;omega) ⟨rfl,rfl,rfl,trivial⟩
 .have B:i=r.cP.x.length:=by have:=bM l;omega
  exact bE func264 aA ⟨Xz (I5 (p:=λm=>m == n) (λj q=>a j q (by omega))).symm,k.trans d⟩
theorem XfN(l:IL)(n:Int)(w:dD)(h:Q6 w l):Xf prog 271 #[Xr l,.int .i64 n] w (λv w'=>∃l':IL,v=Xr l'/\l'.x=l.x.filter (λm=>m != n)/\Q6 w' l'/\Be w l'.a/\Xc Xe w w'):=by
 obtain⟨a,cap,x⟩:=l;have t:=h.ok.len;have hr:=h.ok.rd;simp only at t hr
 have I:maxLen=9223372036854775807:=rfl;refine aR func271 ntmps271 aA ?_;refine Xa.loop (α:=Nat×dE) (λp=>[(0,false,.slice a x.length cap),(1,false,.int .i64 n),(5,false,p.2),(6,false,.int .i64 p.1)])
  (λp w'=>p.1<=x.length/\Xl w.heap.size 3 1 w' p.2 ((x.take p.1).filter (λm=>m != n)).length (((x.take p.1).filter (λm=>m != n)).map (Value.int .i64))/\Xc Xe w w') (λp=>x.length-p.1) (0,.slice none 0 0) ⟨rfl,rfl,rfl,rfl,trivial⟩ ⟨XQ _,World.ownsRow_nil _ _ _ _,Xc.refl _ _⟩ ?_
 rintro⟨i,v⟩ M ⟨C,g,d⟩ ih;simp only at C g
 refine aN aA (aT aA (λr=>?_) λr=>?_)
 .have f:i<x.length:=by have:=bL r;omega
  obtain⟨b,off,rfl,c⟩:=(hr.bR d) i f;have u:x.getD i 0=x[i]:=by rw[XA,XD f];rfl
  rw[u] at c;have o:x.take (i+1)=x.take i++[x[i]]:=by rw[ZH,XD f];rfl
  refine aU i aA (aW aA c aA (aT aA (λj=>?_) λj=>?_))
  .refine aU i aA (aW aA c aA (Xa.buildSlice Xb rfl λN O e2 y k J=>aN aA ?_));have q:=g.bR k (λ_ _ h=>h);have K:((x.take i).filter (λm=>m != n)).length<=i:=ZN (List.length_filter_le _ _) (by rw[XX];omega);have hf:(x.take (i+1)).filter (λm=>m != n)=(x.take i).filter (λm=>m != n)++[x[i]]:=by rw[o,QO,ZI,bK j];rfl
   exact Xa.append (base:=w.heap.size) (xs:=((x.take i).filter (λm=>m != n)).map (Value.int .i64)) (news:=[.int .i64 x[i]]) Xb rfl q (by have:=d.size;have:=k.size;omega) (by simp) (Gv y) (by simp[Value.oneCell']) (by simp only;omega) λD P z A L=>aN aA (aV aA (ih (i+1,D) _ _ ⟨f,by simp only;rw[hf,ZC,XL];exact z,q.bU (d.trans k) (XF _) A⟩ (by simp only;omega) ⟨rfl,rfl,rfl,rfl,trivial⟩))
  .have hf:(x.take (i+1)).filter (λm=>m != n)=(x.take i).filter (λm=>m != n):=by rw[o,QO,ZI,bJ (by rw[j];decide)];simp
   exact aV aA (ih (i+1,v) _ _ ⟨f,by simp only;rw[hf];exact g,d⟩ (by simp only;omega) ⟨rfl,rfl,rfl,rfl,trivial⟩)
 .have B:i=x.length:=by have:=bM r;omega
  subst B;rw[ZL] at g;obtain⟨l',E,F,G,H⟩:=Xl.il g rfl (ZN (List.length_filter_le _ _) t);subst E;exact bE func271 aA ⟨l',rfl,F,G,λb off s e=>H b off s e,d⟩
theorem XbL(r:RS)(i:Nat)(p:IL)(w:dD)(hrp:D4 w r.pa r.ps)(hi:i<r.ps.length)(hl:r.ps.length<=512):Xf prog 270 #[.agg (X9 r).toArray,.int .i64 i,Xr p] w
 (λv w'=>∃pa' pcap',v=.agg (X9 {r with pa:=pa',pcap:=pcap',ps:=r.ps.set i p}).toArray/\D4 w' pa' (r.ps.set i p)/\Yr w' pa'/\(r.ps.set i p).length<=pcap'/\Be w pa'/\Xc Xe w w'):=by
 have a6:maxLen=9223372036854775807:=rfl;obtain⟨rp,cL,cF,cP,pa,pcap,ps,cG⟩:=r;simp only at hi hl hrp
 refine aR func270 ntmps270 aA (bC aA λrb w1 e1 c a a7=>bC aA λqb K e2 L d a8=>?_);replace c:w1.heap[rb]?=some (.cells ([Xr rp.o,Xr rp.f,.int .i64 cL,.int .i64 (cF:Int),Xr cP,.slice pa ps.length pcap,Xr cG]:List dE).toArray 253 (0,0)):=c;refine Xa.buildSlice Xb rfl λb3 w3 e3 M f a9=>aN aA ?_;have h:=d.trans f;have y:=a.trans h;refine bB (h.bP c) aA ?_;have N:Xl K.heap.size 22 1 w3 (.slice (some ⟨b3,0,none⟩) 0 0) 0 []:=Xl.empty (by omega) M;refine Xa.appendA (base:=K.heap.size) (xs:=[]) (news:=ps.map Xr) Xb rfl N f.size hrp.noneA (by simp) (hrp.bQ y).cellsA Uw (by simp only;omega) λv4 w4 O P aa=>aN aA ?_;have k:=N.bU f (XF _) P;obtain⟨g,A,cur,rfl,ab,Q,R,ac,S⟩:=O.form (by omega);have m:cur.toList=ps.map Xr++cur.toList.drop ps.length:=by
  have e:=XY ps.length cur.toList;rw[show cur.toList.take ps.length=ps.map Xr from by simpa using S] at e;exact e.symm
 obtain⟨rest,q⟩:∃rest,rest=cur.toList.drop ps.length:=⟨_,rfl⟩;rw[<-q] at m;have B:w4.heap[g]?=some (.cells (ps.map Xr++rest).toArray 22 (0,0)):=by rw[<-m];exact Q
 have T:0+ps.length=ps.length:=by omega
 rw[T] at R⊢;refine aU i aA (aL aA B (show Z4 (ps.map Xr++rest) (0+i) [Xr p]=some ((ps.set i p).map Xr++rest) from by rw[XT,J8 _ _ _ (by simp;omega),YK _ _ (by simpa using hi),ZZ]) aA λw5 C n ad=>?_);have t:(ps.set i p).length=ps.length:=by simp
 have D:=n.heap (k.bP (d.bP c)) (show ¬rb=g by omega);have E:=n.heap (k.bP L) (show ¬qb=g by omega);refine bF D aA λw6 F o ae=>bB F aA ?_;have G:=o.heap E (by omega);refine bF G aA λw7 H u af=>?_;have x:=u.heap (o.heap C (by omega)) (by omega);have I:Xc Xe w w5:=((a.trans d).trans k).bU n (λz U e=>by have:=a.size;omega);have J:Xc Xe w w7:=(I.sn o).bU u (λz U e=>by have:=a.size;omega);exact bD rfl func270 (Xi.cell rfl rfl rfl H rfl .nil) ⟨some ⟨g,0,none⟩,A,by show _=Value.agg [_,_,_,_,_,Value.slice _ (ps.set i p).length _,_].toArray;rw[t];rfl,λj l V=>⟨g,0,rfl,by
  have W:j<ps.length:=by have:=(XC.1 V).1;simpa using this
  rw[Ys x,XT,YW,XZ (by simpa using W),XN,V];rfl⟩,(by intro b off s e;cases e;exact Xg x),by rw[t];omega,(by intro b off s e;cases e;have:=a.size;omega),J⟩
theorem Xnc{l:PgL}{q:List Int}(hn:(l.map (·.1)).Nodup)(hi:l[i]?=some (m,q)):Zr l m p=l.set i (m,p):=by
 have a:=(XC.1 hi).1;refine QD λj=>?_;unfold Zr;rw[XN,ZX];by_cases h:i=j
 .subst h;rw[bK rfl,bK a,hi]
  simp
 .rw[bJ h];cases c:l[j]? with
  |none=>rfl
  |some e=>
   have b:e.1≠m:=λe'=>by
    have d:(l.map (·.1))[i]?=some m:=by rw[XN,hi];rfl
    have f:(l.map (·.1))[j]?=some m:=by rw[XN,c,<-e'];rfl
    exact h ((List.getElem?_inj (by simpa using a) hn).1 (d.trans f.symm))
   simp[b]
theorem XgH{l:PgL}{q:List Int}(hn:(l.map (·.1)).Nodup)(hi:l[i]?=some (m,q)):Qv l m=l.take i++l.drop (i+1):=by
 have a:=(XC.1 hi).1;have d:l[i]=(m,q):=by rw[XD a] at hi;exact Option.some.inj hi
 have f:l=l.take i++(m,q)::l.drop (i+1):=by
  conv=>lhs;rw[<-XY i l]
  rw[ZV a,d]
 have b:=hn;rw[f,XL,ZK] at b;obtain⟨k,g,h⟩:=XR.1 b;obtain⟨j,_⟩:=XU.1 g
 conv=>lhs;rw[f]
 unfold Qv;rw[QO,ZI];simp only[bne_self_eq_false,ZR,if_false];rw[YN.2 (λe c=>by simp only[bne_iff_ne,ne_eq];exact λe'=>h e.1 (XP.2 ⟨e,c,rfl⟩) m (by simp) e'),YN.2 (λe c=>by simp only[bne_iff_ne,ne_eq];exact λe'=>j (XP.2 ⟨e,c,e'⟩))]
theorem Qb.get{r:RS}{pl:PlM}(h:Qb w r x pl)(hi:x.pg[i]?=some (m,p)):∃l,r.ps[i]?=some l/\l.x=p/\Dc w l:=by
 have a:(x.pg.map (·.2))[i]?=some p:=by rw[XN,hi];rfl
 rw[<-h.e4,XN,QK] at a;obtain⟨l,b,c⟩:=a;exact⟨l,b,c,h.cI l (XW b)⟩
theorem Qb.plen{r:RS}{pl:PlM}(h:Qb w r x pl):r.ps.length=x.pg.length:=by
 have:=congrArg List.length h.e4
 simpa using this
theorem Qb.few{r:RS}{pl:PlM}(h:Qb w r x pl)(hok:x.Ok)(hof:x.Of pl):x.pg.length<=512/\x.cG.length<=512/\pl.own.length<=512:=by
 have b:=h.p.o.ok.len;rw[h.p.eo] at b;have c:=Lg _ _ hok.nodup (λn a=>by obtain⟨e,d,rfl⟩:=XP.1 a;exact(hof e d).1);rw[XV] at c;have g:=Lg pl.own.length x.cG hok.onodup (λn a=>by obtain⟨p,f⟩:=hok.osub n a;exact(hof _ f).1);exact⟨by omega,by omega,b⟩
theorem XlN(r:RS)(x:Sm)(pl:PlM)(w:dD)(h:Qb w r x pl)(hok:x.Ok)(hf:pl.free=[]):Xf prog 268 #[.agg (X9 r).toArray] w (Grow (.tuple #[.agg (X9 r).toArray,.int .i64 5]) w):=by
 have j:0<=r.cL:=by rw[h.e1];exact hok.cL
 refine aR func268 ntmps268 aA (bC aA λrb D e1 k d u=>bC aA λqb q e2 l f v=>?_);have a:=f.bP k;have c:=d.trans f;refine bB a aA (bB a aA (bG (Xlt r.p r.cL pl q (h.p.bQ c) j hf) aA λE g=>bC aA λtb F e4 m n y=>bF m aA λG s o A=>?_));have B:=g.size;have b:=(g.trans n).sn o;refine bI aA (bB (b.bP a) aA (bF (b.bP l) aA λH i p C=>?_));exact aK func268 i aA ⟨rfl,(c.trans b).bU p (λz t e=>by have:=d.size;omega)⟩
theorem XlM(r:RS)(x:Sm)(pl:PlM)(n:Nat)(t:List Nat)(w:dD)(h:Qb w r x pl)(hok:x.Ok)(hof:x.Of pl)(hg:pl.Good)(hf:pl.free=n::t):Xf prog 268 #[.agg (X9 r).toArray] w
 (λv w'=>∃r',v=.tuple #[.agg (X9 r').toArray,.int .i64 0]/\Qb w' r' (x.fresh n) (pl.take x.cL)/\Fg w r r'/\Xc Xe w w'):=by
 have bs:=hok.blk;have dj:maxLen=9223372036854775807:=rfl;obtain⟨ct,cu,cv⟩:=h.few hok hof;have a2:=Ol hok hof hg (n:=n) (by rw[hf];simp);have bt:n∉x.cG:=λhm=>by obtain⟨p,hp⟩:=hok.osub n hm;exact a2 (XP.2 ⟨_,hp,rfl⟩)
 obtain⟨au,_⟩:=hg.free n (by rw[hf];simp);have cw:x.pg.length+1<=512:=by
  have:(n::x.pg.map (·.1)).length<=pl.own.length:=Lg _ _ (XU.2 ⟨a2,hok.nodup⟩) (λm hm=>by
   rcases ZB.1 hm with rfl|hm
   .exact au
   .obtain⟨e,he,rfl⟩:=XP.1 hm;exact(hof e he).1)
  simp only[XO,XV] at this;omega
 have cx:x.cG.length+1<=512:=by
  have:(n::x.cG).length<=pl.own.length:=Lg _ _ (XU.2 ⟨bt,hok.onodup⟩) (λm hm=>by
   rcases ZB.1 hm with rfl|hm
   .exact au
   .obtain⟨p,hp⟩:=hok.osub m hm;exact(hof _ hp).1)
  simp only[XO] at this;omega
 have cy:r.cP.x.length=x.pg.length:=by rw[h.e3];simp
 have d1:=h.plen;have d2:r.cG.x.length=x.cG.length:=by rw[h.e5];simp
 refine aR func268 ntmps268 aA (bC aA λrb w1 e1 a3 N dk=>bC aA λqb w2 e2 bv av dl=>?_);replace a3:w1.heap[rb]?=some (.cells (X9 r).toArray 253 (0,0)):=a3;have H:=av.bP a3;have a4:=N.trans av;refine bB H aA (bB H aA ?_);rw[h.e1];refine aP aA (XfK r.p x.cL pl n t w2 (h.p.bQ a4) hg hok.cL hf) ?_;rintro _ w3 ⟨l,rfl,aw,ax,ay⟩;refine aN aA ?_;obtain⟨f',a5⟩:∃f',f'=r.p.f.sl 1 r.p.f.x.length:=⟨_,rfl⟩;rw[<-a5] at aw⊢;have dm:=ay.size;refine bC aA λtb w4 e4 bw bx dn=>bF bw aA λw5 I c0 dp=>?_;replace I:w5.heap[tb]?=some (.cells ([Xr l,Xr f']:List dE).toArray 34 (0,0)):=I;have a6:Xc Xe w3 w5:=bx.sn c0;have J:=ay.trans a6;refine aS aA (bB I aA ?_);have b5:=J.bP H;refine bF b5 aA λw6 A O dq=>?_;replace A:w6.heap[rb]?=some (.cells ([Xr l,Xr f',.int .i64 r.cL,.int .i64 (r.cF:Int),Xr r.cP,.slice r.pa r.ps.length r.pcap,Xr r.cG]:List dE).toArray 253 (0,0)):=A;have b6:=O.heap (J.bP bv) (show ¬qb=rb by omega);have P:Ao w6 ⟨l,f'⟩ (pl.take x.cL):=by
  have h5:=aw.bQ a6;have a7:Xj (λz=>z=rb) f'.a:=by rw[a5];exact IL.sl_out (h.p.f.lt.out (λz c=>by omega))
  exact⟨h5.o.bW (ax.out (λz c=>by omega)) O,h5.f.bW a7 O,h5.eo,h5.ef⟩
 have b7:Xc Xe w w6:=(a4.trans J).sn O;refine bB A aA ?_;rw[h.e2];refine aP aA (XlB x.cF w6 bs) ?_;rintro _ w7 ⟨pg,rfl,az,c1,R,c2⟩;refine aN aA ?_;have c3:Dc w7 pg:=Dc.of c1 (by rw[az];simp;omega);have c4:Be w6 pg.a:=by
  rcases c2 with e|⟨g,off,e,c5⟩
  .intro b off s e';rw[e] at e';cases e'
  .intro b off' s e';rw[e] at e';cases e';exact c5
 have dr:=R.size;have a9:=b7.trans R;have aa:=R.bP A;refine Xa.buildSlice Xb rfl λb8 w8 e8 c6 S ds=>aN aA ?_;have b9:=a9.trans S;refine bB (S.bP aa) aA ?_;have b0:Xl w7.heap.size 3 1 w8 (.slice (some ⟨b8,0,none⟩) 0 0) 0 []:=Xl.empty (by omega) c6;refine Xa.appendA (base:=w7.heap.size) (xs:=[]) (news:=r.cP.x.map (Value.int .i64)) Xb rfl b0 S.size h.cP.ok.rd.noneA (by simp) (h.cP.ok.rd.bR b9).cellsA Jd (by simp only;omega) λv9 w9 c7 c8 dt=>aN aA ?_;have ba:=b0.bU S (XF _) c8;refine Xa.buildSlice Xb rfl λdu dv dw bb ab d7=>aN aA ?_;have ac:=c7.bR ab (λ_ _ h=>h);have T:=ba.trans ab;refine Xa.append (base:=w7.heap.size) (news:=[.int .i64 (n:Int)]) Xb rfl ac T.size (by simp) (Gv bb) (by simp[Value.oneCell']) (by simp only;omega) ?_;intro c9 dx bc bd d8;have k:=ac.bU T (XF _) bd;obtain⟨nl,rfl,ca,cb,b1⟩:=Xl.il (x:=r.cP.x++[(n:Int)]) (v:=c9) (m:=0+r.cP.x.length+1) (by rw[XL];exact bc) (by simp) (by simp;omega);refine aN aA ?_;have cz:=k.size;refine bF (k.bP aa) aA λi o K d9=>?_;replace o:i.heap[rb]?=some (.cells ([Xr l,Xr f',.int .i64 r.cL,.int .i64 (r.cF:Int),Xr nl,.slice r.pa r.ps.length r.pcap,Xr r.cG]:List dE).toArray 253 (0,0)):=o;have U:Xc Xe w i:=(a9.trans k).sn K;have ak:Q6 i nl:=cb.bW (by intro b off s e c;have:=b1 b off s e;omega) K;refine Xa.buildSlice Xb rfl λcc cd dy be B da=>aN aA ?_;have al:=U.trans B;refine bB (B.bP o) aA ?_;have ad:Xl i.heap.size 22 1 cd (.slice (some ⟨cc,0,none⟩) 0 0) 0 []:=Xl.empty (by omega) be;refine Xa.appendA (base:=i.heap.size) (xs:=[]) (news:=r.ps.map Xr) Xb rfl ad B.size h.rp.noneA (by simp) (h.rp.bQ al).cellsA Uw (by simp only;omega) λdz e0 bf bg db=>aN aA ?_;have ae:=ad.bU B (XF _) bg;refine Xa.buildSlice Xb rfl λe3 e5 e6 bh af dc=>aN aA ?_;have ag:=bf.bR af (λ_ _ h=>h);have G:=ae.trans af;refine Xa.append (base:=i.heap.size) (news:=[Xr pg]) Xb rfl ag G.size (by simp) (Gv bh) (by simp[Value.oneCell']) (by simp only;omega) ?_;intro ce e7 bi bj dd;have d:=ag.bU G (XF _) bj;obtain⟨pa',pcap',rfl,cf,cg,ch,b2⟩:=Xl.pl (ps:=r.ps++[pg]) (v:=ce) (m:=0+r.ps.length+1) (by rw[XL];exact bi) (by simp);have ci:=d.size;refine aN aA (bF (d.bP o) aA λj q C de=>?_);replace q:j.heap[rb]?=some (.cells ([Xr l,Xr f',.int .i64 r.cL,.int .i64 (r.cF:Int),Xr nl,.slice pa' (r.ps++[pg]).length pcap',Xr r.cG]:List dE).toArray 253 (0,0)):=q;have V:Xc Xe w j:=(U.trans d).sn C;have am:D4 j pa' (r.ps++[pg]):=cf.bW (by intro b off s e c;have:=b2 b off s e;omega) C;refine Xa.buildSlice Xb rfl λcj ck e9 bk D df=>aN aA ?_;have an:=V.trans D;refine bB (D.bP q) aA ?_;have ah:Xl j.heap.size 3 1 ck (.slice (some ⟨cj,0,none⟩) 1 1) 1 [.int .i64 (n:Int)]:=Xl.one (by omega) bk;refine Xa.appendA (base:=j.heap.size) (xs:=[.int .i64 (n:Int)]) (news:=r.cG.x.map (Value.int .i64)) Xb rfl ah D.size h.cG.ok.rd.noneA (by simp) (h.cG.ok.rd.bR an).cellsA Jd (by simp only;omega) ?_;intro b3 cl bm bn dg;have f:=ah.bU D (XF _) bn;obtain⟨ol,rfl,bo,bp,bq⟩:=Xl.il (x:=(n:Int)::r.cG.x) (v:=b3) (m:=1+r.cG.x.length) (show Xl j.heap.size 3 1 cl b3 (1+r.cG.x.length) (((n:Int)::r.cG.x).map (Value.int .i64)) from bm) (by simp;omega) (by simp;omega);refine aN aA ?_;have cm:=f.size;refine bF (f.bP q) aA λy E L dh=>?_;obtain⟨r',W⟩:∃r':RS,r'=⟨⟨l,f'⟩,r.cL,r.cF,nl,pa',pcap',r.ps++[pg],ol⟩:=⟨_,rfl⟩;replace E:y.heap[rb]?=some (.cells (X9 r').toArray 253 (0,0)):=by rw[W];exact E
 refine bB E aA ?_;have a0:Xc Xe w y:=(V.trans f).sn L;have nn:∀{a b:dD},Xc Xe a b->Xc (λz=>z=rb) a b:=λh=>h.gr;have cA:Xc (λz=>z=rb) w7 i:=(nn k).trans K;have cB:Xc (λz=>z=rb) i j:=(nn d).trans C;have cC:Xc (λz=>z=rb) j y:=(nn f).trans L;have cAll:Xc (λz=>z=rb) w6 y:=(((nn R).trans cA).trans cB).trans cC;have F:∀Q:Nat->Prop,(∀z,Q z->z<w2.heap.size)->Yi Q r->Yi Q r':=λQ M ho=>by
  have cn:Xj Q l.a:=ax.out M;have a7:Xj Q f'.a:=by rw[a5];exact IL.sl_out ho.f
  have co:Xj Q nl.a:=by intro b off s e c;have:=b1 b off s e;have:=M b c;omega
  have cp:Xj Q ol.a:=by intro b off s e c;have:=bq b off s e;have:=M b c;omega
  have cq:Xj Q pa':=by intro b off s e c;have:=b2 b off s e;have:=M b c;omega
  rw[W];exact⟨cn,a7,co,cp,cq,λl' hl'=>by
   rcases XS.1 hl' with hl'|hl'
   .exact ho.cI l' hl'
   .have:l'=pg:=by simpa using hl'
    subst this;exact c4.out (λz c=>by have:=M z c;omega)⟩
 have cr:Yi (λz=>z=rb) r:=h.out (λz c=>by have:=N.size;omega);have u:Yi (λz=>z=rb) r':=F _ (λz c=>by omega) cr;have ap:Qb y r' (x.fresh n) (pl.take x.cL):=by
  rw[W] at u;have br:Ao y ⟨l,f'⟩ (pl.take x.cL):=⟨P.o.bW u.o cAll,P.f.bW u.f cAll,P.eo,P.ef⟩;rw[W];exact⟨br,ak.bW u.cP (cB.trans cC),bp.bW u.cG L,am.bW u.pa cC,cg.bQ (by have:=C.size;have:=cC.size;omega),ch,λl' hl'=>by
   rcases XS.1 hl' with hl'|hl'
   .exact(h.cI l' hl').bQ a0
   .have:l'=pg:=by simpa using hl'
    subst this;exact c3.bW (u.cI _ (YY _ (by simp))) ((cA.trans cB).trans cC),h.e1,h.e2,by
    show nl.x=(x.pg++[(n,List.replicate x.cF (-1))]).map _
    rw[ca,h.e3,XL];rfl,by
    show(r.ps++[pg]).map _=(x.pg++[(n,List.replicate x.cF (-1))]).map _
    rw[XL,XL,h.e4];simp[az],by
    show ol.x=(n::x.cG).map _
    rw[bo,h.e5];rfl⟩
 have aq:=cAll.heap b6 (show ¬qb=rb by omega);refine bF aq aA λea ar ai di=>?_;have cs:Yi (λz=>z=qb) r':=F _ (λz c=>by omega) (h.out (λz c=>by have:=N.size;omega));exact aK func268 ar aA ⟨r',rfl,ap.bW cs ai,λQ M ho=>F Q (λz c=>by have:=M z c;omega) ho,a0.bU ai (λz c e=>by have:=N.size;omega)⟩
end Go.Proofs.YtdeihcnepljjaaaGreatDoor
