/-
  Texts put together: Shelf, Shelf2, Shelf3, Shelf4, Shelf5, Shst, Shp, Back13, RowsD, Ref12, Ref08, Ref08b, Ref13, Ref13b.
-/
import Derived.Test.YtohjeeapehmkcaaGreatDoorPt1
import Derived.Test.YtohjeeapehmkcaaGreatDoorQRule13
import Derived.Test.YtohjeeapehmkcaaGreatDoorQRule8
import Derived.Test.YtohjeeapehmkcaaGreatDoorQRule9
import Derived.Test.YtohjeeapehmkcaaGreatDoorQRule6
import Derived.Test.YtohjeeapehmkcaaGreatDoorQRule15
set_option linter.unusedVariables false
set_option maxRecDepth 100000
namespace Go.Proofs.YtohjeeapehmkcaaGreatDoor
open Go.RowKit
open Bool renaming false_eq_true->QD
open Int renaming toNat_natCast->XA,eq_ofNat_of_zero_le->XD
open List renaming getElem?_eq_getElem->XB,getD_eq_getElem?_getD->XC,length_set->XG,length_replicate->XH,map_append->XI,getElem_mem->XK,length_cons->XM,length_map->XN,length_append->XO,mem_of_getElem?->XP,getElem?_map->XR,length_take->XU,getElem?_eq_none->XV,getElem?_append_left->XX,filter_cons->XY,take_append_drop->XZ,map_cons->ZB,take_add_one->ZC,take_of_length_le->ZE,take_length->ZL,nil_append->ZR,drop_eq_getElem_cons->ZS,mem_append_right->ZU,length_filter_le->ZW,length_drop->ZY,map_congr_left->YA,map_set->YD,nodup_nil->YJ,getElem_map->YM,getElem?_take->YN,getElem?_toArray->YO,filter_append->YP,set_append_left->YW,range_succ->YX,getElem?_set->YY,ext_getElem?->QF,mem_append_left->QG
open Nat renaming le_refl->XE,zero_le->XL,zero_add->XS,mul_one->ZK,le_trans->ZV,add_mul->YT,one_mul->QI,succ_mul->QP
open Option renaming getD_some->ZP,map_eq_some_iff->QB,map_some->QO
open Go.Proofs.Tryz (func107 func134 func147 func173 func174 func176 func181 func190 func203 func206 func219 func221 func229 func237 func238 func239 func240 func242 func243 func244 func245 func246 func247 func248 func249 func263 func266 ntmps107 ntmps134 ntmps147 ntmps173 ntmps174 ntmps176 ntmps181 ntmps190 ntmps203 ntmps206 ntmps219 ntmps221 ntmps229 ntmps237 ntmps238 ntmps239 ntmps240 ntmps242 ntmps243 ntmps244 ntmps245 ntmps246 ntmps247 ntmps248 ntmps249 ntmps263 ntmps266 prog)
variable {ahead by' size u who z:Int}{lg:List (Nat×List Nat)}{bs l p zs:List Int}{l2 ws:List Nat}{cs rest xs:List Value}{N at' b base cap fuel g i j k len lm lo n n0 o off sz t tm vb xb y:Nat}{e:Nat×List Int}{fz:Nat×Nat}{f:Nat->Int}{G:Nat->Pg}{B C F F' Fr S S' T:Nat->Prop}{a:Option Addr}{pg:PgL}{P:Pl}{pl':PlM}{x x':Sm}{α:Type}{v:Value}{w w' w0 w1 w2:World}
def kd(w:World)(b:Nat):Option (Option Nat):=match w.heap[b]? with
 |some (.cells _ t _)=>some (some t)
 |some (.map _ _)=>some none
 |_=>none
theorem Yk{w:World}{c:Array Value}{f:Nat×Nat}(h:w.heap[b]?=some (.cells c t f)):kd w b=some (some t):=by unfold kd;rw[h]
theorem Ps{w:World}{m:AL}(h:Y6 w b m):kd w b=some none:=by
 obtain⟨es,c,a,_⟩:=h;unfold kd;rw[a]
theorem Xs{w:World}{a:Nat}{x y:Option (Option Nat)}(h1:kd w a=x)(h2:kd w b=y)(h:x≠y):a≠b:=λe=>h (by rw[<-h1,<-h2,e])
theorem Eu{w:World}{x:Option Nat}(h:kd w b=some x):b<w.heap.size:=by
 by_cases a:b<w.heap.size
 ·exact a
 ·unfold kd at h;rw[Array.getElem?_eq_none (by omega)] at h;cases h
theorem K7{w:World}(h:Bb w)(hb:∀v,w.cell? ⟨b,0,none⟩≠some (.int .u8 v)):0≠b:=λe=>by
 exact hb _ ((congrArg (λx=>w.cell? ⟨x,0,none⟩) e.symm).trans (h 0 (by decide)))
structure Sh where
 sb:Nat
 sm:Nat
 R:Rg
 P:Pl
abbrev Ci(S:Sh):Value:=.pointer (some ⟨S.sb,0,none⟩)
def K4(S:Sh)(cls:Int)(blocks:Nat)(used:Int):List Value:=[Ei S.P,.int .i64 cls,.int .i64 (blocks:Int),.map (some S.sm),Hx S.R,.int .i64 used]
structure Qh(w:World)(S:Sh)(G:Nat->Pg)(cls:Int)(blocks:Nat)(pg:PgL)(opn:List Nat)(used:Int):Prop where
 nodup:(pg.map (·.1)).Nodup
 tab:Bb w
 obj:w.heap[S.sb]?=some (.cells (K4 S cls blocks used).toArray 224 (0,0))
 map:∃m,Y6 w S.sm m/\(Bc m).Nodup/\m.length=pg.length/\(∀e∈pg,Bk m e.1=some (Eg (G e.1)))/\∀k:Int,(∀e∈pg,(e.1:Int)≠k)->Bk m k=none
 ring:C9 w S.R opn
 pages:∀e∈pg,Q3 w (G e.1) e.2
 sep:∀e∈pg,(G e.1).mb≠S.sm/\∀e'∈pg,e.1≠e'.1->(G e.1).bb≠(G e'.1).bb/\(G e.1).mb≠(G e'.1).mb
def Qf(S:Sh)(G:Nat->Pg)(pg:PgL):Nat->Prop:=λz=>z=S.sb\/z=S.sm\/Gx S.R z\/∃e∈pg,Fv (G e.1) z
structure Xhn(w:World)(S:Sh):Prop where
 sb:kd w S.sb=some (some 224)
 sm:kd w S.sm=some none
 lb:kd w S.R.lb=some (some 290)
 ab:kd w S.R.ab=some (some 275)
 nb:kd w S.R.nb=some (some 292)
structure Xhj(w:World)(g:Pg):Prop where
 p:kd w g.p=some (some 286)
 bb:kd w g.bb=some (some 312)
 mb:kd w g.mb=some none
theorem Q3.kds{w:World}{g:Pg}{x:List Int}(h:Q3 w g x):Xhj w g:=by
 obtain⟨m,a,_⟩:=h.own;obtain⟨ws,_,_,_,b⟩:=h.bits.ws;exact⟨Yk h.pc,Yk b,Ps a⟩
theorem Qh.kds{w:World}{S:Sh}{G:Nat->Pg}{cls:Int}{blocks:Nat}{pg:PgL}{opn:List Nat}{used:Int}(h:Qh w S G cls blocks pg opn used):Xhn w S:=by
 obtain⟨m,a,_⟩:=h.map;obtain⟨g,f,b,c,_⟩:=h.ring.at';exact⟨Yk h.obj,Ps a,Yk h.ring.obj,Yk b,Yk c⟩
theorem Xb0{w:World}{g:Pg}{x:List Int}(h:Q3 w g x):¬Fv g 0:=λa=>by
 rcases a with e|e
 ·exact h.bits.ne e
 ·exact h.notab e
theorem Q3.other{w w':World}{g g':Pg}{x x':List Int}(h:Q3 w g x)(h':Q3 w g' x')(hb:g'.bb≠g.bb)(hm:g'.mb≠g.mb)(hc:Xc (Fv g) w w'):Q3 w' g' x':=by
 have k:=h.kds;have k':=h'.kds;refine h'.chg hc ?_ ?_ ?_ (Xb0 h)
 ·rintro(e|e)
  ·exact Xs k'.p k.bb (by decide) e
  ·exact Xs k'.p k.mb (by decide) e
 ·rintro(e|e)
  ·exact hb e
  ·exact Xs k'.bb k.mb (by decide) e
 ·rintro(e|e)
  ·exact Xs k'.mb k.bb (by decide) e
  ·exact hm e
section
variable {w w':World}{S:Sh}{G:Nat->Pg}{cls:Int}{blocks:Nat}{pg:PgL}{opn:List Nat}{used:Int}
theorem Qh.chg{S':Nat->Prop}(h:Qh w S G cls blocks pg opn used)(hc:Xc S' w w')(h1:∀z,S' z->z≠S.sb/\z≠S.sm/\z≠S.R.lb/\¬Gx S.R z)(h2:∀z,S' z -> ∀e∈pg,z≠(G e.1).p/\¬Fv (G e.1) z)(h3:¬S' 0):Qh w' S G cls blocks pg opn used:=by
 obtain⟨m,c,r⟩:=h.map;exact⟨h.nodup,h.tab.chg hc h3,hc.heap h.obj (λa=>(h1 _ a).1 rfl),⟨m,c.chg hc (λa=>(h1 _ a).2.1 rfl),r⟩,h.ring.chg hc (λa=>(h1 _ a).2.2.1 rfl) (λa=>(h1 _ a).2.2.2 (.inl rfl)) (λa=>(h1 _ a).2.2.2 (.inr rfl)),
  λe b=>(h.pages e b).chg hc (λa=>(h2 _ a e b).1 rfl) (λa=>(h2 _ a e b).2 (.inl rfl)) (λa=>(h2 _ a e b).2 (.inr rfl)) h3,h.sep⟩
theorem Qh.grow(h:Qh w S G cls blocks pg opn used)(hc:Xc Xe w w'):Qh w' S G cls blocks pg opn used:=h.chg hc (λ_ h=>h.elim) (λ_ h=>h.elim) id
theorem Qh.apart(h:Qh w S G cls blocks pg opn used){z:Nat}(hz:kd w z=some (some t))(ht:t≠224/\t≠290/\t≠275/\t≠292/\t≠286/\t≠312):(z≠S.sb/\z≠S.sm/\z≠S.R.lb/\¬Gx S.R z)/\∀e∈pg,z≠(G e.1).p/\¬Fv (G e.1) z:=by
 have k:=h.kds;have d:∀{t':Nat},t≠t'->some (some t)≠some (some t'):=λh e=>h (Option.some.inj (Option.some.inj e));refine⟨⟨Xs hz k.sb (d ht.1),Xs hz k.sm (by simp),Xs hz k.lb (d ht.2.1),?_⟩,λe a=>?_⟩
 ·rintro(e|e)
  ·exact Xs hz k.ab (d ht.2.2.1) e
  ·exact Xs hz k.nb (d ht.2.2.2.1) e
 ·have kp:=(h.pages e a).kds;refine⟨Xs hz kp.p (d ht.2.2.2.2.1),?_⟩;rintro(e|e)
  ·exact Xs hz kp.bb (d ht.2.2.2.2.2) e
  ·exact Xs hz kp.mb (by simp) e
theorem Qh.page(h:Qh w S G cls blocks pg opn used){p':List Int}(hp:(n,p)∈pg)(hk:Q3 w' (G n) p')(hc:Xc (Fv (G n)) w w'):Qh w' S G cls blocks (Zo pg n p') opn used:=by
 have k:=h.kds;have d:=h.pages _ hp;have kp:=d.kds;obtain⟨m,u,v,x,i,y⟩:=h.map;have g:∀z t,kd w z=some (some t)->t≠312 -> ¬Fv (G n) z:=λz t l A=>by
  rintro(e|e)
  ·exact Xs l kp.bb (λe=>A (Option.some.inj (Option.some.inj e))) e
  ·exact Xs l kp.mb (by simp) e
 have o:¬Fv (G n) S.sm:=by
  rintro(e|e)
  ·exact Xs k.sm kp.bb (by simp) e
  ·exact(h.sep _ hp).1 e.symm
 refine⟨by rw[Kc];exact h.nodup,h.tab.chg hc (Xb0 d),hc.heap h.obj (g _ _ k.sb (by decide)),⟨m,u.chg hc o,v,by unfold Zo;rw[XN];exact x,λe c=>?_,λj r=>y j λe c=>?_⟩,h.ring.chg hc (g _ _ k.lb (by decide)) (g _ _ k.ab (by decide)) (g _ _ k.nb (by decide)),λe c=>?_,λe c=>?_⟩
 ·rcases E8 c with⟨rfl,_⟩|⟨_,c⟩
  ·exact i (n,p) hp
  ·exact i e c
 ·by_cases e1:e.1=n
  ·have:=r (n,p') (List.mem_map.2 ⟨e,c,if_pos e1⟩);rw[e1];exact this
  ·exact r e (List.mem_map.2 ⟨e,c,if_neg e1⟩)
 ·rcases E8 c with⟨rfl,_⟩|⟨s,c⟩
  ·exact hk
  ·obtain⟨a,b⟩:=(h.sep _ hp).2 e c (Ne.symm s);exact d.other (h.pages e c) a.symm b.symm hc
 ·have old:∃q,(e.1,q)∈pg:=by
   rcases E8 c with⟨rfl,_⟩|⟨_,c⟩
   ·exact⟨p,hp⟩
   ·exact⟨e.2,c⟩
  obtain⟨q,B⟩:=old;obtain⟨a,b⟩:=h.sep _ B;refine⟨a,λe' f=>?_⟩;rcases E8 f with⟨rfl,_⟩|⟨_,f⟩
  ·exact b (n,p) hp
  ·exact b e' f
theorem Qh.setUsed(h:Qh w S G cls blocks pg opn used)(ho:w'.heap[S.sb]?=some (.cells (K4 S cls blocks u).toArray 224 (0,0)))(hc:Xc (λz=>z=S.sb) w w'):Qh w' S G cls blocks pg opn u:=by
 have k:=h.kds;obtain⟨m,c,r⟩:=h.map;have a:=K7 h.tab (λv e=>by rw[Yt h.obj] at e;simp[K4] at e);exact⟨h.nodup,h.tab.chg hc a,ho,⟨m,c.chg hc (Xs k.sm k.sb (by simp)),r⟩,h.ring.chg hc (Xs k.lb k.sb (by decide)) (Xs k.ab k.sb (by decide)) (Xs k.nb k.sb (by decide)),
  λe b=>by have kp:=(h.pages e b).kds;exact(h.pages e b).chg hc (Xs kp.p k.sb (by decide)) (Xs kp.bb k.sb (by decide)) (Xs kp.mb k.sb (by simp)) a,h.sep⟩
theorem XgH{R:Rg}{o:List Nat}(h:C9 w R o)(ht:Bb w):¬Gx R 0:=λa=>by
 obtain⟨g,f,b,c,_⟩:=h.at';rcases a with e|e
 ·exact K7 ht (λv e=>by rw[Ed b (j:=0) (k:=0) rfl (by decide)] at e;cases e) e
 ·exact K7 ht (λv e=>by rw[Ed c (j:=0) (k:=0) rfl (by decide)] at e;cases e) e
theorem Qh.setRing(h:Qh w S G cls blocks pg opn used){o:List Nat}(hr:C9 w' S.R o)(hc:Xc (Gx S.R) w w'):Qh w' S G cls blocks pg o used:=by
 have k:=h.kds;obtain⟨m,f,r⟩:=h.map;have b:=XgH h.ring h.tab;have a:∀z x,kd w z=some x->x≠some 275->x≠some 292 -> ¬Gx S.R z:=λz x c g i=>by
  rintro(e|e)
  ·exact Xs c k.ab (λe=>g (Option.some.inj e)) e
  ·exact Xs c k.nb (λe=>i (Option.some.inj e)) e
 exact⟨h.nodup,h.tab.chg hc b,hc.heap h.obj (a _ _ k.sb (by decide) (by decide)),⟨m,f.chg hc (a _ _ k.sm (by simp) (by simp)),r⟩,hr,
  λe d=>by have kp:=(h.pages e d).kds;exact(h.pages e d).chg hc (a _ _ kp.p (by decide) (by decide)) (a _ _ kp.bb (by decide) (by decide)) (a _ _ kp.mb (by simp) (by simp)) b,h.sep⟩
theorem XbZ{r:Nat}{m:AL}(h:Y6 w r m)(ht:Bb w):0≠r:=by
 obtain⟨es,c,a,_⟩:=h;exact K7 ht (λv e=>by simp only[World.cell?,a] at e;cases e)
theorem Qh.del(h:Qh w S G cls blocks pg opn used)(hp:(n,p)∈pg)(hm':∀m,Y6 w S.sm m->Y6 w' S.sm (Da m n))(hc:Xc (λz=>z=S.sm) w w'):Qh w' S G cls blocks (Qk pg n) opn used:=by
 have k:=h.kds;obtain⟨m,f,d,q,g,l⟩:=h.map;have i:=XbZ f h.tab;refine⟨by rw[Xgg];exact h.nodup.filter _,h.tab.chg hc i,hc.heap h.obj (Xs k.sb k.sm (by simp)),⟨Da m n,hm' m f,by rw[Vq];exact d.erase _,?_,λe a=>?_,λj o=>?_⟩,h.ring.chg hc (Xs k.lb k.sm (by simp)) (Xs k.ab k.sm (by simp)) (Xs k.nb k.sm (by simp)),λe a=>?_,λe a=>?_⟩
 ·have:=(Uv h.nodup hp).2;rw[Xhq,g _ hp];simp only[Option.isSome_some,if_true];omega
 ·obtain⟨c,a⟩:=Ie.1 a;rw[Lh d,if_neg (by omega)];exact g e a
 ·rw[Lh d];by_cases e:j=n
  ·rw[if_pos e]
  ·rw[if_neg e];refine l j λe' b=>?_;by_cases e2:e'.1=n
   ·rw[e2];exact λh=>e h.symm
   ·exact o e' (Ie.2 ⟨e2,b⟩)
 ·obtain⟨c,a⟩:=Ie.1 a;have kp:=(h.pages e a).kds;exact(h.pages e a).chg hc (Xs kp.p k.sm (by simp)) (Xs kp.bb k.sm (by simp)) (h.sep e a).1 i
 ·obtain⟨c,a⟩:=Ie.1 a;exact⟨(h.sep e a).1,λe' b=>(h.sep e a).2 e' (Ie.1 b).2⟩
def Hw(G:Nat->Pg)(n:Nat)(g:Pg):Nat->Pg:=λm=>if m=n then g else G m
theorem Qh.add(h:Qh w S G cls blocks pg opn used){g:Pg}(hn:n∉pg.map (·.1))(hg:Q3 w g p)(hsm:g.mb≠S.sm)(hd:∀e∈pg,(G e.1).bb≠g.bb/\(G e.1).mb≠g.mb)(hm':∀m,Y6 w S.sm m->Y6 w' S.sm (Cm m n (Eg g)))(hc:Xc (λz=>z=S.sm) w w'):Qh w' S (Hw G n g) cls blocks (pg++[(n,p)]) opn used:=by
 have k:=h.kds;obtain⟨m,s,x,y,A,t⟩:=h.map;have l:=XbZ s h.tab;have o:∀e∈pg,Hw G n g e.1=G e.1:=λe he=>if_neg (λe'=>hn (List.mem_map.2 ⟨e,he,e'⟩));have f:Hw G n g n=g:=if_pos rfl;have i:Bk m n=none:=t n λe he e'=>hn (List.mem_map.2 ⟨e,he,by omega⟩);have kg:=hg.kds;refine⟨?_,h.tab.chg hc l,hc.heap h.obj (Xs k.sb k.sm (by simp)),⟨Cm m n (Eg g),hm' m s,?_,?_,λe he=>?_,λj u=>?_⟩,h.ring.chg hc (Xs k.lb k.sm (by simp)) (Xs k.ab k.sm (by simp)) (Xs k.nb k.sm (by simp)),λe he=>?_,λe he=>?_⟩
 ·rw[XI];refine List.nodup_append.2 ⟨h.nodup,by simp,λa q b r e=>?_⟩;have:b=n:=by simpa using r
  exact hn (this▸e▸q)
 ·rw[Vr];have:=Sj.1 i;rw[if_neg this];refine List.nodup_append.2 ⟨x,by simp,λa q b r e=>?_⟩;have v:b=(n:Int):=by simpa using r
  exact this (v▸e▸q)
 ·rw[Xhx,i];simp[y]
 ·rw[I0];rcases List.mem_append.1 he with he|he
  ·have d:e.1≠n:=λe'=>hn (List.mem_map.2 ⟨e,he,e'⟩);rw[if_neg (by omega),o e he];exact A e he
  ·have:e=(n,p):=by simpa using he
   subst this;rw[if_pos rfl,f]
 ·rw[I0,if_neg (λe=>(u (n,p) (by simp)) e.symm)];exact t j λe he=>u e (QG _ he)
 ·rcases List.mem_append.1 he with he|he
  ·rw[o e he];have kp:=(h.pages e he).kds;exact(h.pages e he).chg hc (Xs kp.p k.sm (by simp)) (Xs kp.bb k.sm (by simp)) (h.sep e he).1 l
  ·have:e=(n,p):=by simpa using he
   subst this;show Q3 w' (Hw G n g n) p
   rw[f];exact hg.chg hc (Xs kg.p k.sm (by simp)) (Xs kg.bb k.sm (by simp)) hsm l
 ·have gl:∀e∈pg++[(n,p)],(e∈pg/\Hw G n g e.1=G e.1)\/(e.1=n/\Hw G n g e.1=g):=λe he=>by
   rcases List.mem_append.1 he with he|he
   ·exact .inl ⟨he,o e he⟩
   ·have:e=(n,p):=by simpa using he
    subst this;exact .inr ⟨rfl,f⟩
  rcases gl e he with⟨he,e1⟩|⟨en,e1⟩
  ·rw[e1];refine⟨(h.sep e he).1,λe' c d=>?_⟩;rcases gl e' c with⟨c,e2⟩|⟨_,e2⟩
   ·rw[e2];exact(h.sep e he).2 e' c d
   ·rw[e2];exact hd e he
  ·rw[e1];refine⟨hsm,λe' c d=>?_⟩;rcases gl e' c with⟨c,e2⟩|⟨en',e2⟩
   ·rw[e2];exact⟨(hd e' c).1.symm,(hd e' c).2.symm⟩
   ·exact absurd (en.trans en'.symm) d
theorem Qh.foot_lt(h:Qh w S G cls blocks pg opn used):∀z,Qf S G pg z->z<w.heap.size:=λz a=>by
 have k:=h.kds;rcases a with rfl|rfl|(rfl|rfl)|⟨e,b,a⟩
 ·exact Eu k.sb
 ·exact Eu k.sm
 ·exact Eu k.ab
 ·exact Eu k.nb
 ·exact(h.pages e b).footlt z a
theorem Qh.look(h:Qh w S G cls blocks pg opn used)(n:Int):∃m,Y6 w S.sm m/\Bf m (.pointer none) n false=(match Zi pg n with|some _=>Eg (G n.toNat)|none=>.pointer none):=by
 obtain⟨m,b,f,g,c,d⟩:=h.map;refine⟨m,b,?_⟩;unfold Bf;cases a:Zi pg n with
 |none=>rw[d n (XbL a)];rfl
 |some p=>
  obtain⟨k,rfl,e⟩:=Ga a;rw[c _ e];rfl
end
theorem Ku:∀(N:Nat) (l:List Nat),l.Nodup->(∀n∈l,n<N)->l.length<=N
 |0,l,_,h=>by
  cases l with
  |nil=>exact XE _
  |cons a r=>exact absurd (h a (by simp)) (Nat.not_lt_zero _)
 |N+1,l,c,h=>by
  have ih:=Ku N (l.erase N) (c.erase N) (λn b=>by
   obtain⟨e,d⟩:=(c.mem_erase_iff).1 b;have:=h n d;omega)
  by_cases b:N∈l
  ·rw[List.length_erase_of_mem b] at ih;omega
  ·rw[List.erase_of_not_mem b] at ih;omega
theorem XdE:∀{m m':AL},(m.map λp=>((Value.int .i64 p.1,p.2):Value×Value))=m'.map (λp=>(Value.int .i64 p.1,p.2))->m=m'
 |[],[],_=>rfl
 |[],_::_,h=>by cases h
 |_::_,[],h=>by cases h
 |(a,v)::r,(b,u)::t,h=>by
  simp only[ZB,List.cons.injEq,Prod.mk.injEq,Value.int.injEq,true_and] at h;obtain⟨⟨rfl,rfl⟩,h⟩:=h;rw[XdE h]
theorem Y6.uniq{w:World}{r:Nat}{m m':AL}(h:Y6 w r m)(h':Y6 w r m'):m=m':=by
 obtain⟨es,c,e,a⟩:=h;obtain⟨es',c',b,d⟩:=h';rw[e] at b;cases b
 unfold Ah at a d;exact XdE (a.symm.trans d)
theorem Sm.Ok.few(h:x.Ok):x.pg.length<=1024/\x.opn.length<=1024/\Yh x.pg<=524288:=by
 have a:=Ku _ _ h.nodup (λn c=>by obtain⟨e,d,rfl⟩:=List.mem_map.1 c;exact(h.each e d).1);rw[XN] at a;have g:=Xgj (l:=x.pg) (b:=x.blocks) (λe d=>(h.each e d).2.1);have i:=Nat.mul_le_mul a h.blk.2;exact⟨a,(Ku 1024 x.opn h.onodup (λn c=>by obtain⟨p,f⟩:=h.osub n c;exact(h.each _ f).1)),by omega⟩
theorem Zz.kds{w:World}{x:PlM}(h:Zz w P x):kd w P.pb=some (some 227)/\kd w P.ab=some (some 280):=by
 obtain⟨head,f,a,b,_⟩:=h.at';exact⟨Yk a,Yk b⟩
def Av(S:Sh)(G:Nat->Pg)(pg:PgL):Nat->Prop:=λz=>Qf S G pg z\/Ay S.P z
section
variable {w w':World}{S:Sh}{G:Nat->Pg}{cls:Int}{blocks:Nat}{pg:PgL}{opn:List Nat}{used:Int}{pl:PlM}
theorem Qh.notpool(h:Qh w S G cls blocks pg opn used)(hp:Zz w S.P pl):¬Qf S G pg S.P.pb/\¬Qf S G pg S.P.ab:=by
 obtain⟨f,g⟩:=hp.kds;have a:=h.apart f (by decide);have b:=h.apart g (by decide);constructor
 ·rintro(e|e|e|⟨e,c,d⟩)
  ·exact a.1.1 e
  ·exact a.1.2.1 e
  ·exact a.1.2.2.2 e
  ·exact(a.2 e c).2 d
 ·rintro(e|e|e|⟨e,c,d⟩)
  ·exact b.1.1 e
  ·exact b.1.2.1 e
  ·exact b.1.2.2.2 e
  ·exact(b.2 e c).2 d
theorem Zz.far(h:Qh w S G cls blocks pg opn used)(hp:Zz w S.P pl)(hc:Xc S' w w')(hs:∀z,S' z->Qf S G pg z):Zz w' S.P pl:=by
 obtain⟨a,b⟩:=h.notpool hp;exact hp.chg hc (λc=>a (hs _ c)) (λc=>b (hs _ c))
theorem Xb1(ht:Bb w)(hp:Zz w S.P pl):¬Ay S.P 0:=λc=>by
 obtain⟨head,f,a,b,_⟩:=hp.at';have d:=hp.good.len;rcases c with e|e
 ·exact K7 ht (λv e=>by rw[Yt a] at e;simp[Kx] at e) e
 ·exact K7 ht (λv e=>by rw[Ed b (j:=0) (k:=0) rfl (by omega)] at e;cases e) e
theorem Qh.pool(h:Qh w S G cls blocks pg opn used)(hp:Zz w S.P pl)(hc:Xc (Ay S.P) w w'):Qh w' S G cls blocks pg opn used:=by
 obtain⟨d,e⟩:=hp.kds;have b:=h.apart d (by decide);have c:=h.apart e (by decide);refine h.chg hc (λz a=>?_) (λz a=>?_) (Xb1 h.tab hp)
 ·rcases a with rfl|rfl
  ·exact b.1
  ·exact c.1
 ·rcases a with rfl|rfl
  ·exact b.2
  ·exact c.2
end
structure Qq(w:World)(S:Sh)(G:Nat->Pg)(x:Sm)(pl:PlM):Prop where
 ok:x.Ok
 pos:x.Pos
 of:x.Of pl
 at':Qh w S G x.cls x.blocks x.pg x.opn (Yh x.pg:Nat)
 pool:Zz w S.P pl
theorem Qq.grow{w w':World}{S:Sh}{G:Nat->Pg}{x:Sm}{pl:PlM}(h:Qq w S G x pl)(hc:Xc Xe w w'):Qq w' S G x pl:=⟨h.ok,h.pos,h.of,h.at'.grow hc,h.pool.grow hc⟩
theorem Nu{pl:PlM}(hok:x.Ok)(hof:x.Of pl)(hg:pl.Good)(hn:n∈pl.free):n∉x.pg.map (·.1):=λa=>by
 obtain⟨e,b,rfl⟩:=List.mem_map.1 a;have c:=(hof e b).2;have d:=(hg.free _ hn).2;have:=hok.cls;omega
theorem Xl3(S:Sh)(G:Nat->Pg)(x:Sm)(pl:PlM)(w:World)(h:Qq w S G x pl)(hf:pl.free=[]):Xf prog 221 #[Ci S] w (λv w'=>v=.tuple #[.int .i64 0,.int .i64 5]/\Qq w' S G x pl/\Xc (Ay S.P) w w'):=by
 have p:=h.ok.cls;have eE:Eh pl x.cls=5:=by unfold Eh;rw[if_neg (by omega),hf];rfl
 have eN:Ih pl x.cls=0:=by unfold Ih;rw[eE];rfl
 have eT:Hv pl x.cls=pl:=by unfold Hv;rw[eE];rfl
 have q:¬Ay S.P S.sb:=λl=>by
  obtain⟨m,n⟩:=h.pool.kds;rcases l with e|e
  ·exact Xs h.at'.kds.sb m (by decide) e
  ·exact Xs h.at'.kds.sb n (by decide) e
 refine ζe func221 ntmps221 ϱ (ζd 14 (Ay S.P) (by kernel_rfl) ϱ λb=>δl b h.at'.obj ϱ (δl b h.at'.obj ϱ (Xd.turn1 b rfl λi a=>?_)));have g:=Xbd S.P pl x.cls i (h.pool.grow a);rw[eE,eN,eT] at g;refine Xp.call rfl g.fn (Post:=λv d=>v=.tuple #[.int .i64 0,.int .i64 5]/\Zz d S.P pl/\Xc (Ay S.P) i d) (λo=>g.mono λv d j=>⟨o.trans j.2.2,j⟩) ?_;rintro _ d _ ⟨rfl,k,f⟩;refine Xd.adv Xb b rfl (δn b ϱ λr c=>ζy ϱ ?_);exact ζr func221 ϱ ⟨rfl,⟨h.ok,h.pos,h.of,((h.at'.grow a).pool (h.pool.grow a) f).grow c,k.grow c⟩,(a.gr.trans f).trans c.gr⟩
theorem Xl2(S:Sh)(G:Nat->Pg)(x:Sm)(pl:PlM)(n:Nat)(r:List Nat)(w:World)(h:Qq w S G x pl)(hf:pl.free=n::r)(hn4:n<1024):Xf prog 221 #[Ci S] w (λv w'=>v=.tuple #[.int .i64 n,.int .i64 0]/\∃g,(w.heap.size<=g.p/\w.heap.size<=g.bb/\w.heap.size<=g.mb)/\Qh w' S (Hw G n g) x.cls x.blocks (x.fresh n).pg (x.fresh n).opn (Yh x.pg:Nat)/\Zz w' S.P (pl.take x.cls)/\Xc (Av S G x.pg) w w'):=by
 have a2:=h.ok.cls;have eE:Eh pl x.cls=0:=by unfold Eh;rw[if_neg (by omega),hf];rfl
 have eN:Ih pl x.cls=n:=by unfold Ih;rw[if_pos eE,hf];rfl
 have eT:Hv pl x.cls=pl.take x.cls:=by unfold Hv;rw[if_pos eE]
 have o:=Nu h.ok h.of h.pool.good (n:=n) (by rw[hf];simp);have F:n∉x.opn:=λC=>by obtain⟨p,D⟩:=h.ok.osub n C;exact o (List.mem_map.2 ⟨_,D,rfl⟩)
 have ho:¬Ay S.P S.sb:=λP=>by
  obtain⟨Q,R⟩:=h.pool.kds;rcases P with e|e
  ·exact Xs h.at'.kds.sb Q (by decide) e
  ·exact Xs h.at'.kds.sb R (by decide) e
 refine ζe func221 ntmps221 ϱ (ζd 14 (Ay S.P) (by kernel_rfl) ϱ λa=>δl a h.at'.obj ϱ (δl a h.at'.obj ϱ (Xd.turn1 a rfl λH d=>?_)));have E:=Xbd S.P pl x.cls H (h.pool.grow d);rw[eE,eN,eT] at E;refine Xp.call rfl E.fn (Post:=λv c=>v=.tuple #[.int .i64 n,.int .i64 0]/\Zz c S.P (pl.take x.cls)/\Xc (Ay S.P) H c) (λT=>E.mono λv c D=>⟨T.trans D.2.2,D⟩) ?_;rintro _ c _ ⟨rfl,I,q⟩;refine Xd.adv Xb a rfl (δn a ϱ λl i=>ζf ϱ ?_);have b:=((h.at'.grow d).pool (h.pool.grow d) q).grow i;have a3:w.heap.size<=l.heap.size:=by have:=d.size;have:=q.size;have:=i.size;omega
 have a4:=Xs b.kds.sb b.kds.sm (by simp);have J:∀w',Xc Xe l w'->Xf prog 187 #[.int .i64 x.blocks] w' (λv c=>Xc (λz=>z=S.sm) w' c/\Xc Xe l c/\∃g,v=.tuple #[Eg g,.int .i64 0]/\(l.heap.size<=g.p/\l.heap.size<=g.bb/\l.heap.size<=g.mb)/\Q3 c g (List.replicate x.blocks (-1))):=λw' f=>
  (Xe4 x.blocks w' (b.grow f).tab h.ok.blk).mono λv c ⟨g,U,⟨b1,b2,b3⟩,V,K⟩=>⟨K.gr,f.trans K,g,U,⟨by have:=f.size;omega,by have:=f.size;omega,by have:=f.size;omega⟩,V⟩
 refine ζd 15 (λz=>z=S.sm) (by kernel_rfl) ϱ λa=>δl a b.obj ϱ (δl a b.obj ϱ (Xd.callQ a rfl rfl (J) ?_));rintro _ w4 _ ⟨s,g,rfl,hb,W⟩;refine Xd.adv Xb a rfl (Xd.turn1 a rfl λw5 j=>?_);have t:=b.grow (s.trans j);obtain⟨m,C,a5⟩:=t.map;refine Xp.mapset Xb a rfl (C) (by first|(intro h;exact rfl)|(intro h;omega)) rfl λw6 L u a6=>δn a ϱ λw7 y=>?_;have A:=b.foot_lt;have M:=t.add o (W.grow j) (λe=>by have:=A S.sm (.inr (.inl rfl));omega) (λe N=>⟨λe'=>by have:=A _ (.inr (.inr (.inr ⟨e,N,.inl rfl⟩)));omega,λe'=>by have:=A _ (.inr (.inr (.inr ⟨e,N,.inr rfl⟩)));omega⟩) (λm' h'=>by
  rw[h'.uniq C];exact L) u
 have k:=M.grow y;refine ζl k.obj ϱ (ζc ϱ (XfM S.R x.opn n w7 k.ring hn4 F (by have:=h.ok.few;omega)) ?_);rintro _ w8 ⟨rfl,O,B⟩;refine ζa ϱ ?_;exact ζr func221 ϱ ⟨rfl,g,⟨by omega,by omega,by omega⟩,(k.setRing O B),(Zz.far k ((Zz.far t ((I.grow i).grow (s.trans j)) u (λz e=>.inr (.inl e))).grow y) B (λz e=>.inr (.inr (.inl e)))),(((((d.gr.trans q).trans i.gr).mono λz _ h=>.inr h).trans ((s.trans j).gr)).trans ((u.mono λz _ e=>.inl (.inr (.inl e))).trans y.gr)).trans (B.mono λz _ e=>.inl (.inr (.inr (.inl e))))⟩
def F8(x:Sm)(pl:PlM):Nat:=match x.opn with
 |n::_=>n
 |[]=>pl.free.headD 0
def Iq(x:Sm)(pl:PlM):Sm:=match x.opn with
 |_::_=>x
 |[]=>x.fresh (pl.free.headD 0)
def J7(x:Sm)(pl:PlM):PlM:=match x.opn with
 |_::_=>pl
 |[]=>pl.take x.cls
def Fc(x:Sm)(pl:PlM):List Int:=(Zi (Iq x pl).pg (F8 x pl)).getD []
def Qm(x:Sm)(pl:PlM)(who:Int):Int:=if who<0 then 1 else if x.opn.length=0/\pl.free.length=0 then 5 else 0
def Cb(x:Sm)(pl:PlM)(who:Int):Int:=if Qm x pl who=0 then (F8 x pl:Int) else 0
def Ca(x:Sm)(pl:PlM)(who:Int):Int:=if Qm x pl who=0 then Yf (Fc x pl) else 0
def Q0(x:Sm)(pl:PlM)(who:Int):Sm:=if Qm x pl who=0 then (Iq x pl).takeAt (F8 x pl) (Fc x pl) who else x
def B1(x:Sm)(pl:PlM)(who:Int):PlM:=if Qm x pl who=0 then J7 x pl else pl
theorem Lu{S:Sh}:∀z,Qf S G (Zo pg n p) z->Qf S G pg z:=λz h=>by
 rcases h with h|h|h|⟨e,a,b⟩
 ·exact .inl h
 ·exact .inr (.inl h)
 ·exact .inr (.inr (.inl h))
 ·rcases E8 a with⟨rfl,q,c⟩|⟨_,a⟩
  ·exact .inr (.inr (.inr ⟨_,c,b⟩))
  ·exact .inr (.inr (.inr ⟨e,a,b⟩))
theorem XiL{S:Sh}:∀z,Qf S G (Qk pg n) z->Qf S G pg z:=λz h=>by
 rcases h with h|h|h|⟨e,a,b⟩
 ·exact .inl h
 ·exact .inr (.inl h)
 ·exact .inr (.inr (.inl h))
 ·exact .inr (.inr (.inr ⟨e,(Ie.1 a).2,b⟩))
theorem XiN{S:Sh}{g:Pg}(hn:n∉pg.map (·.1))(hg:b<=g.bb/\b<=g.mb):∀z,Qf S (Hw G n g) (pg++[(n,p)]) z->Qf S G pg z\/b<=z:=λz h=>by
 rcases h with h|h|h|⟨e,he,a⟩
 ·exact .inl (.inl h)
 ·exact .inl (.inr (.inl h))
 ·exact .inl (.inr (.inr (.inl h)))
 ·rcases List.mem_append.1 he with he|he
  ·have:Hw G n g e.1=G e.1:=if_neg (λe'=>hn (List.mem_map.2 ⟨e,he,e'⟩));rw[this] at a;exact .inl (.inr (.inr (.inr ⟨e,he,a⟩)))
  ·have:e=(n,p):=by simpa using he
   subst this;have:Hw G n g n=g:=if_pos rfl;rw[this] at a;rcases a with rfl|rfl
   ·exact .inr hg.1
   ·exact .inr hg.2
theorem Sm.Of.set{pl:PlM}(h:x.Of pl)(hc:x'.cls=x.cls)(hs:∀e∈x'.pg,∃q,(e.1,q)∈x.pg):x'.Of pl:=λe a=>by
 obtain⟨q,b⟩:=hs e a;rw[hc];exact h (e.1,q) b
theorem Ml(h:e∈Zo pg n p):∃q,(e.1,q)∈pg:=by
 rcases E8 h with⟨rfl,q,a⟩|⟨_,b⟩
 ·exact⟨q,a⟩
 ·exact⟨e.2,b⟩
theorem Sm.Of.fresh{pl:PlM}(h:x.Of pl)(hg:pl.Good){r:List Nat}(hf:pl.free=n::r):(x.fresh n).Of (pl.take x.cls):=by
 have e:pl.take x.cls=⟨pl.own.set n x.cls,r⟩:=by unfold PlM.take;rw[hf]
 obtain⟨a,b⟩:=hg.free n (by rw[hf];simp);rw[e];intro u hu;show u.1<(pl.own.set n x.cls).length/\(pl.own.set n x.cls).getD u.1 0=x.cls
 rw[XG,Fj];rcases List.mem_append.1 hu with hu|hu
 ·refine⟨(h u hu).1,?_⟩;split
  ·rfl
  ·exact(h u hu).2
 ·have:u=(n,List.replicate x.blocks (-1)):=by simpa using hu
  subst this;exact⟨a,if_pos ⟨rfl,a⟩⟩
theorem XdN{r:List Nat}(h:(n::r).Nodup):(n::r).filter (λm=>m != n)=r:=by
 obtain⟨a,_⟩:=List.nodup_cons.1 h;rw[XY];simp only[bne_self_eq_false,QD,if_false];refine List.filter_eq_self.2 λm b=>?_;simp only[bne_iff_ne,ne_eq];exact λe=>a (e▸b)
theorem Xl1(who:Int)(w:World):Xf prog 176 #[.pointer none,.int .i64 who] w (Za (.tuple #[.int .i64 0,.int .i64 0,.int .i64 1]) w):=by
 exact ζe func176 ntmps176 ϱ (ζq rfl func176 (Xm.tmp rfl (.tmp rfl (.tmp rfl .nil))) ⟨rfl,rfl⟩)
theorem Xl0(S:Sh)(G:Nat->Pg)(x:Sm)(pl:PlM)(who:Int)(w:World)(h:Qq w S G x pl):Xf prog 176 #[Ci S,.int .i64 who] w
 (λv w'=>v=.tuple #[.int .i64 (Cb x pl who),.int .i64 (Ca x pl who),.int .i64 (Qm x pl who)]/\∃G',Qq w' S G' (Q0 x pl who) (B1 x pl who)/\Xc (Av S G x.pg) w w'/\∀z,Qf S G' (Q0 x pl who).pg z->Qf S G x.pg z\/w.heap.size<=z):=by
 have eN:∀e,Qm x pl who=e->e≠0->Cb x pl who=0/\Ca x pl who=0/\Q0 x pl who=x/\B1 x pl who=pl:=λe h1 h2=>by
  unfold Cb Ca Q0 B1;rw[h1,if_neg h2,if_neg h2,if_neg h2,if_neg h2];exact⟨rfl,rfl,rfl,rfl⟩
 refine ζe func176 ntmps176 ϱ (ζg ϱ (λg1=>?_) λg1=>?_)
 ·have k1:=of_decide_eq_true g1;have e1:Qm x pl who=1:=by unfold Qm;rw[if_pos k1]
  obtain⟨a,b,c,d⟩:=eN 1 e1 (by decide);rw[a,b,c,d,e1];exact ζq rfl func176 (Xm.tmp rfl (.tmp rfl (.tmp rfl .nil))) ⟨rfl,G,h,Xc.refl _ _,λz k=>.inl k⟩
 have R:0<=who:=by have:=of_decide_eq_false g1;omega
 refine ζl h.at'.obj ϱ (ζw (XfL S.R x.opn w h.at'.ring) ϱ ?_);obtain⟨f,E⟩:∃f,f=Iq x pl:=⟨_,rfl⟩;obtain⟨u,H⟩:∃u,u=J7 x pl:=⟨_,rfl⟩;cases F:x.opn with
 |nil=>
  refine ζy ϱ ?_;cases V:pl.free with
  |nil=>
   have e1:Qm x pl who=5:=by unfold Qm;rw[if_neg (by omega),if_pos (by rw[F,V];exact⟨rfl,rfl⟩)]
   obtain⟨a,b,c,d⟩:=eN 5 e1 (by decide);rw[a,b,c,d,e1];refine ζc ϱ (Xl3 S G x pl w h V) ?_;rintro _ w1 ⟨rfl,h1,b0⟩;exact ζa ϱ (ζy ϱ (ζq rfl func176 (Xm.tmp rfl (.tmp rfl (.tmp rfl .nil))) ⟨rfl,G,h1,b0.mono λz _ h=>.inr h,λz k=>.inl k⟩))
  |cons n r0=>
   have ap:n<1024:=by have:=(h.pool.good.free n (by rw[V];simp)).1;have:=h.pool.good.len;omega
   have e1:Qm x pl who=0:=by unfold Qm;rw[if_neg (by omega),if_neg (by rw[V];simp)]
   have ab:=Nu h.ok h.of h.pool.good (n:=n) (by rw[V];simp);have i:f=x.fresh n:=by rw[E];unfold Iq;rw[F,V];rfl
   have I:u=pl.take x.cls:=by rw[H];unfold J7;rw[F]
   have J:F8 x pl=n:=by unfold F8;rw[F,V];rfl
   refine ζc ϱ (Xl2 S G x pl n r0 w h V ap) ?_;rintro _ W ⟨rfl,g,aq,y,hP,ac⟩;refine ζa ϱ (ζf ϱ ?_);have j:f.Ok:=by rw[i];exact h.ok.fresh ap ab
   have a8:f.Of u:=by rw[i,I];exact h.of.fresh h.pool.good V
   obtain⟨p,ad⟩:∃p,p=List.replicate x.blocks (-1:Int):=⟨_,rfl⟩;have o:(n,p)∈f.pg:=by rw[i,ad];exact ZU _ (by simp)
   have a9:p.length=f.blocks:=by rw[i,ad];exact XH
   have b8:Xu p=0:=by rw[ad];exact Ht _
   have l:f.opn=n::[]:=by rw[i];show n::x.opn=_;rw[F]
   obtain⟨r,b1⟩:∃r:List Nat,r=[]:=⟨_,rfl⟩;rw[<-b1] at l;have b9:=h.ok.blk;have b2:f.blocks=x.blocks:=by rw[i];rfl
   obtain⟨eE,eU⟩:=Ja (p:=p) R (by omega);have eA:Cs p who=Yf p:=by unfold Cs;rw[if_pos eE]
   have a2:Fc x pl=p:=by unfold Fc;rw[<-E,J,A6 j.nodup o];rfl
   have a0:∀e:Nat×List Int,e.1≠n->e∈f.pg->0<Xu e.2:=λe T he=>by
    rw[i] at he;rcases List.mem_append.1 he with he|he
    ·exact h.pos e he
    ·have:e=(n,List.replicate x.blocks (-1)):=by simpa using he
     rw[this] at T;exact absurd rfl T
   have r1:Cb x pl who=n:=by unfold Cb;rw[if_pos e1,J]
   have r2:Ca x pl who=Yf p:=by unfold Ca;rw[if_pos e1,a2]
   have r3:Q0 x pl who=f.takeAt n p who:=by unfold Q0;rw[if_pos e1,a2,J,<-E]
   have r4:B1 x pl who=u:=by unfold B1;rw[if_pos e1,<-H]
   rw[r1,r2,r3,r4,e1];rw[<-I] at hP;obtain⟨s,U⟩:∃s,s=Hw G n g:=⟨_,rfl⟩;rw[<-U,show x.cls=f.cls from by rw[i];rfl,show x.blocks=f.blocks from b2.symm,show(x.fresh n).pg=f.pg from by rw[i],show(x.fresh n).opn=f.opn from by rw[i],show((Yh x.pg:Nat):Int)=(Yh f.pg:Nat) from by
    rw[i];show((Yh x.pg:Nat):Int)=(Yh (x.pg++[(n,List.replicate x.blocks (-1))]):Nat);rw[XbN,Ht];rfl] at y
   have t:∀z,Qf S s f.pg z->Qf S G x.pg z\/w.heap.size<=z:=by rw[U,i];exact XiN ab ⟨aq.2.1,aq.2.2⟩
   have A:∀z,z<w.heap.size->Qf S s f.pg z->Av S G x.pg z:=λz k h=>by
    rcases t z h with h|h
    ·exact .inl h
    ·omega
   refine ζl y.obj ϱ ?_;obtain⟨ma,ae,a3⟩:=y.look n;rw[A6 j.nodup o] at a3;refine Xa.lookup Xb rfl (ae) (a3) rfl ?_;have hd:=Xe7 (s n) p who W (y.pages _ o);rw[eE,eA] at hd;refine ζc ϱ (hd) ?_;rintro _ wa ⟨rfl,ag,K⟩;have C:=y.page o ag K;refine ζa ϱ (ζl C.obj ϱ (ζJ ϱ (by have:=j.few;omega) (ζs C.obj ϱ λwb ah L b3=>?_)));have D:=C.setUsed ah L;have a4:(n,Z5 p who)∈Zo f.pg n (Z5 p who):=List.mem_map.2 ⟨(n,p),o,if_pos rfl⟩;refine ζl D.obj ϱ ?_;obtain⟨mb,ai,a5⟩:=D.look n;rw[A6 (by rw[Kc];exact j.nodup) a4] at a5;refine Xa.lookup Xb rfl (ai) (a5) rfl (ζv (P8 (s n) (Z5 p who) wb (D.pages _ a4)) ϱ λwc M=>?_);have q:=D.grow M;have a6:=(Zz.far C (Zz.far y hP K (λz h=>.inr (.inr (.inr ⟨_,o,h⟩)))) L (λz h=>.inl h)).grow M;have a7:=((ac.since K (λz k h=>A z k (.inr (.inr (.inr ⟨_,o,h⟩))))).since L (λz k h=>A z k (.inl h))).trans M.gr;have aj:((Yh (Zo f.pg n (Z5 p who)):Nat):Int)=(Yh f.pg:Nat)+1:=by have:=Mm (p:=Z5 p who) j.nodup o;omega
   rw[<-aj] at q;have N:(f.takeAt n p who).Pos:=λe he=>by
    rcases E8 he with⟨rfl,_⟩|⟨T,he⟩
    ·show 0<Xu (Z5 p who);omega
    ·exact a0 e T he
   have O:(f.takeAt n p who).Of u:=a8.set rfl (λe he=>Ml he);have a1:((Xu (Z5 p who):Int) == (Z5 p who).length)=decide (Xu (Z5 p who)=f.blocks):=by rw[Ma,a9];exact Bool.eq_iff_iff.2 (by simp only[beq_iff_eq,decide_eq_true_eq];omega)
   rw[a1];refine ζg ϱ (λB=>?_) λB=>?_
   ·have gful:=of_decide_eq_true B;refine ζl q.obj ϱ ?_;have hr:=q.ring;rw[l] at hr;refine ζc ϱ (Ug S.R [] r n wc hr (by have:=j.few;have e:=congrArg List.length l;simp only[XM,ZR] at e⊢;omega)) ?_;rintro _ wd ⟨rfl,al,P⟩;have Q:(f.takeAt n p who).opn=r:=by
     show(if Xu (Z5 p who)=f.blocks then f.opn.filter (λm=>m != n) else f.opn)=r
     rw[if_pos gful,l];exact XdN (l▸j.onodup)
    exact ζa ϱ (ζq rfl func176 (Xm.tmp rfl (.tmp rfl (.tmp rfl .nil))) ⟨rfl,s,⟨j.takeAt R o (by rw[l];simp),N,O,by rw[Q];exact(q.setRing al P),(Zz.far q a6 P (λz h=>.inr (.inr (.inl h))))⟩,a7.since P (λz k h=>A z k (.inr (.inr (.inl h)))),λz h=>t z (Lu z h)⟩)
   ·have gful:=of_decide_eq_false B;have Q:(f.takeAt n p who).opn=f.opn:=by
     show(if Xu (Z5 p who)=f.blocks then f.opn.filter (λm=>m != n) else f.opn)=_
     rw[if_neg gful]
    exact ζq rfl func176 (Xm.tmp rfl (.tmp rfl (.tmp rfl .nil))) ⟨rfl,s,⟨j.takeAt R o (by rw[l];simp),N,O,by rw[Q];exact q,a6⟩,a7,λz h=>t z (Lu z h)⟩
 |cons n r=>
  have e1:Qm x pl who=0:=by unfold Qm;rw[if_neg (by omega),if_neg (by rw[F];simp)]
  have i:f=x:=by rw[E];unfold Iq;rw[F]
  have I:u=pl:=by rw[H];unfold J7;rw[F]
  have J:F8 x pl=n:=by unfold F8;rw[F]
  refine ζF ϱ (by show((n:Int) == -1)=false;simp) ?_;obtain⟨p,am⟩:=(h.ok.osub n (by rw[F];simp));have j:f.Ok:=by rw[i];exact h.ok
  have a8:f.Of u:=by rw[i,I];exact h.of
  have o:(n,p)∈f.pg:=by rw[i];exact am
  have a9:p.length=f.blocks:=by rw[i];exact(h.ok.each _ am).2.1
  have l:f.opn=n::r:=by rw[i];exact F
  have b4:Xu p≠f.blocks:=by rw[i];exact(h.ok.each _ am).2.2.1 (by rw[F];simp)
  obtain⟨eE,eU⟩:=Ja (p:=p) R (by rw[a9];exact b4);have eA:Cs p who=Yf p:=by unfold Cs;rw[if_pos eE]
  have a2:Fc x pl=p:=by unfold Fc;rw[<-E,J,A6 j.nodup o];rfl
  have a0:∀e:Nat×List Int,e.1≠n->e∈f.pg->0<Xu e.2:=λe _ he=>by rw[i] at he;exact h.pos e he
  have r1:Cb x pl who=n:=by unfold Cb;rw[if_pos e1,J]
  have r2:Ca x pl who=Yf p:=by unfold Ca;rw[if_pos e1,a2]
  have r3:Q0 x pl who=f.takeAt n p who:=by unfold Q0;rw[if_pos e1,a2,J,<-E]
  have r4:B1 x pl who=u:=by unfold B1;rw[if_pos e1,<-H]
  rw[r1,r2,r3,r4,e1];have y:=h.at';have hP:=h.pool;rw[<-i] at y;rw[<-I] at hP;obtain⟨W,hW⟩:∃W,W=w:=⟨_,rfl⟩;rw[<-hW] at y hP;obtain⟨s,U⟩:∃s,s=G:=⟨_,rfl⟩;rw[<-U] at y;have ac:Xc (Av S G x.pg) w W:=by rw[hW];exact Xc.refl _ _
  have t:∀z,Qf S s f.pg z->Qf S G x.pg z\/w.heap.size<=z:=λz k=>.inl (by rw[U,i] at k;exact k);have A:∀z,z<w.heap.size->Qf S s f.pg z->Av S G x.pg z:=λz _ k=>.inl (by rw[U,i] at k;exact k);have ao:∀{X:World->Prop},X W->X w:=λh=>hW▸h;refine ao (X:=λw2=>Xa _ _ _ _ _ _ _ w2) (ζl y.obj ϱ ?_);obtain⟨ma,ae,a3⟩:=y.look n;rw[A6 j.nodup o] at a3;refine Xa.lookup Xb rfl (ae) (a3) rfl ?_;have hd:=Xe7 (s n) p who W (y.pages _ o);rw[eE,eA] at hd;refine ζc ϱ (hd) ?_;rintro _ wa ⟨rfl,ag,K⟩;have C:=y.page o ag K;refine ζa ϱ (ζl C.obj ϱ (ζJ ϱ (by have:=j.few;omega) (ζs C.obj ϱ λwb ah L b3=>?_)));have D:=C.setUsed ah L;have a4:(n,Z5 p who)∈Zo f.pg n (Z5 p who):=List.mem_map.2 ⟨(n,p),o,if_pos rfl⟩;refine ζl D.obj ϱ ?_;obtain⟨mb,ai,a5⟩:=D.look n;rw[A6 (by rw[Kc];exact j.nodup) a4] at a5;refine Xa.lookup Xb rfl (ai) (a5) rfl (ζv (P8 (s n) (Z5 p who) wb (D.pages _ a4)) ϱ λwc M=>?_);have q:=D.grow M;have a6:=(Zz.far C (Zz.far y hP K (λz h=>.inr (.inr (.inr ⟨_,o,h⟩)))) L (λz h=>.inl h)).grow M;have a7:=((ac.since K (λz k h=>A z k (.inr (.inr (.inr ⟨_,o,h⟩))))).since L (λz k h=>A z k (.inl h))).trans M.gr;have aj:((Yh (Zo f.pg n (Z5 p who)):Nat):Int)=(Yh f.pg:Nat)+1:=by have:=Mm (p:=Z5 p who) j.nodup o;omega
  rw[<-aj] at q;have N:(f.takeAt n p who).Pos:=λe he=>by
   rcases E8 he with⟨rfl,_⟩|⟨T,he⟩
   ·show 0<Xu (Z5 p who);omega
   ·exact a0 e T he
  have O:(f.takeAt n p who).Of u:=a8.set rfl (λe he=>Ml he);have a1:((Xu (Z5 p who):Int) == (Z5 p who).length)=decide (Xu (Z5 p who)=f.blocks):=by rw[Ma,a9];exact Bool.eq_iff_iff.2 (by simp only[beq_iff_eq,decide_eq_true_eq];omega)
  rw[a1];refine ζg ϱ (λB=>?_) λB=>?_
  ·have gful:=of_decide_eq_true B;refine ζl q.obj ϱ ?_;have hr:=q.ring;rw[l] at hr;refine ζc ϱ (Ug S.R [] r n wc hr (by have:=j.few;have e:=congrArg List.length l;simp only[XM,ZR] at e⊢;omega)) ?_;rintro _ wd ⟨rfl,al,P⟩;have Q:(f.takeAt n p who).opn=r:=by
    show(if Xu (Z5 p who)=f.blocks then f.opn.filter (λm=>m != n) else f.opn)=r
    rw[if_pos gful,l];exact XdN (l▸j.onodup)
   exact ζa ϱ (ζq rfl func176 (Xm.tmp rfl (.tmp rfl (.tmp rfl .nil))) ⟨rfl,s,⟨j.takeAt R o (by rw[l];simp),N,O,by rw[Q];exact(q.setRing al P),(Zz.far q a6 P (λz h=>.inr (.inr (.inl h))))⟩,a7.since P (λz k h=>A z k (.inr (.inr (.inl h)))),λz h=>t z (Lu z h)⟩)
  ·have gful:=of_decide_eq_false B;have Q:(f.takeAt n p who).opn=f.opn:=by
    show(if Xu (Z5 p who)=f.blocks then f.opn.filter (λm=>m != n) else f.opn)=_
    rw[if_neg gful]
   exact ζq rfl func176 (Xm.tmp rfl (.tmp rfl (.tmp rfl .nil))) ⟨rfl,s,⟨j.takeAt R o (by rw[l];simp),N,O,by rw[Q];exact q,a6⟩,a7,λz h=>t z (Lu z h)⟩
def Xbf(G:Nat->Pg)(n:Int)(o:Option (List Int)):Value:=match o with
 |some _=>Eg (G n.toNat)
 |none=>.pointer none
theorem XbG(S:Sh)(G:Nat->Pg)(x:Sm)(pl:PlM)(n:Int)(w:World)(h:Qq w S G x pl):Xf prog 219 #[Ci S,.int .i64 n] w (Za (Xbf G n (Zi x.pg n)) w):=by
 obtain⟨m,a,b⟩:=h.at'.look n;exact ζe func219 ntmps219 ϱ (ζl h.at'.obj ϱ (Xa.lookup Xb rfl (a) ((b.trans (show _=Xbf G n (Zi x.pg n) from by unfold Xbf;cases Zi x.pg n <;> rfl))) rfl (ζr func219 ϱ ⟨rfl,rfl⟩)))
theorem XbH(n:Int)(w:World):Xf prog 219 #[.pointer none,.int .i64 n] w (Za (.pointer none) w):=by
 exact ζe func219 ntmps219 ϱ (ζr func219 ϱ ⟨rfl,rfl⟩)
def Qo(x:Sm)(n i:Int):Int:=match Zi x.pg n with
 |some p=>Z4 p i
 |none=>-1
theorem XlW(S:Sh)(G:Nat->Pg)(x:Sm)(pl:PlM)(n i:Int)(w:World)(h:Qq w S G x pl):Xf prog 174 #[Ci S,.int .i64 n,.int .i64 i] w (Za (.int .i64 (Qo x n i)) w):=by
 unfold Qo;refine ζe func174 ntmps174 ϱ (ζw (XbG S G x pl n w h) ϱ ?_);cases a:Zi x.pg n with
 |none=>
  exact ζw (Xe6 i w) ϱ (ζr func174 ϱ ⟨rfl,rfl⟩)
 |some p=>
  obtain⟨k,rfl,b⟩:=Ga a;exact ζw (Xke (G k) p i w (h.at'.pages _ b)) ϱ (ζr func174 ϱ ⟨rfl,rfl⟩)
theorem XlX(n i:Int)(w:World):Xf prog 174 #[.pointer none,.int .i64 n,.int .i64 i] w (Za (.int .i64 (-1)) w):=by
 exact ζe func174 ntmps174 ϱ (ζw (XbH n w) ϱ (ζw (Xe6 i w) ϱ (ζr func174 ϱ ⟨rfl,rfl⟩)))
theorem Xf9(S:Sh)(G:Nat->Pg)(x:Sm)(pl:PlM)(w:World)(h:Qq w S G x pl):Xf prog 107 #[Ci S] w (Za (.int .i64 (x.opn.length:Nat)) w):=by
 exact ζe func107 ntmps107 ϱ (ζl h.at'.obj ϱ (ζw (Xlo S.R x.opn w h.at'.ring) ϱ (ζr func107 ϱ ⟨rfl,rfl⟩)))
theorem Xga(w:World):Xf prog 107 #[.pointer none] w (Za (.int .i64 0) w):=by
 exact ζe func107 ntmps107 ϱ (ζr func107 ϱ ⟨rfl,rfl⟩)
theorem Xgi{l:PgL}(hn:(l.map (·.1)).Nodup)(hp:(n,p)∈l):Zo l n p=l:=by
 unfold Zo
 conv=>rhs;rw[<-List.map_id l]
 refine YA λe b=>?_;by_cases h:e.1=n
 ·rw[if_pos h];have a:=A6 hn (show(e.1,e.2)∈l from b);rw[h,(A6 hn hp)] at a;cases a
  rw[<-h];rfl
 ·rw[if_neg h];rfl
def G3(x:Sm)(n i who:Int):Int:=match Zi x.pg n with
 |some p=>Ak p i who
 |none=>1
def Aq(x:Sm)(n i who:Int):Sm:=match Zi x.pg n with
 |some p=>x.ownAt n.toNat p i who
 |none=>x
theorem XlU(S:Sh)(G:Nat->Pg)(x:Sm)(pl:PlM)(n i who:Int)(w:World)(h:Qq w S G x pl):Xf prog 190 #[Ci S,.int .i64 n,.int .i64 i,.int .i64 who] w
 (λv w'=>v=.int .i64 (G3 x n i who)/\Qq w' S G (Aq x n i who) pl/\Xc (Av S G x.pg) w w'/\∀z,Qf S G (Aq x n i who).pg z->Qf S G x.pg z):=by
 unfold G3 Aq;refine ζe func190 ntmps190 ϱ (ζw (XbG S G x pl n w h) ϱ ?_);cases f:Zi x.pg n with
 |none=>
  exact ζw (Xe5 i who w) ϱ (ζr func190 ϱ ⟨rfl,h,Xc.refl _ _,λ_ h=>h⟩)
 |some p=>
  obtain⟨k,rfl,a⟩:=Ga f;refine ζc ϱ (Xkd (G k) p i who w (h.at'.pages _ a)) ?_;rintro _ g ⟨rfl,j,c⟩;have l:Yh (Zo x.pg k (Bp p i who))=Yh x.pg:=by have:=Mm (p:=Bp p i who) h.ok.nodup a;rw[T3] at this;omega
  have d:(x.ownAt k p i who).Pos:=λe b=>by
   rcases E8 b with⟨rfl,_⟩|⟨_,b⟩
   ·show 0<Xu (Bp p i who);rw[T3];exact h.pos _ a
   ·exact h.pos e b
  exact ζa ϱ (ζr func190 ϱ ⟨rfl,⟨h.ok.ownAt a,d,h.of.set rfl (λe b=>Ml b),by show Qh g S G x.cls x.blocks (Zo x.pg k (Bp p i who)) x.opn (Yh (Zo x.pg k (Bp p i who)):Nat);rw[l];exact(h.at'.page a j c),(Zz.far h.at' h.pool c (λz e=>.inr (.inr (.inr ⟨_,a,e⟩))))⟩,c.mono λz _ e=>.inl (.inr (.inr (.inr ⟨_,a,e⟩))),λz e=>Lu z e⟩)
theorem XlV(n i who:Int)(w:World):Xf prog 190 #[.pointer none,.int .i64 n,.int .i64 i,.int .i64 who] w (Za (.int .i64 1) w):=by
 exact ζe func190 ntmps190 ϱ (ζw (XbH n w) ϱ (ζw (Xe5 i who w) ϱ (ζr func190 ϱ ⟨rfl,rfl⟩)))
theorem XdO{l1:List Nat}(h:(l1++n::l2).Nodup):(l1++n::l2).filter (λm=>m != n)=l1++l2:=by
 obtain⟨f,b,c⟩:=List.nodup_append.1 h;obtain⟨d,g⟩:=List.nodup_cons.1 b;rw[YP,XY];simp only[bne_self_eq_false,QD,if_false];rw[List.filter_eq_self.2 (λm a=>by simp only[bne_iff_ne,ne_eq];exact λe=>c m a n (by simp) e),List.filter_eq_self.2 (λm a=>by simp only[bne_iff_ne,ne_eq];exact λe=>d (e▸a))]
theorem Xl4(S:Sh)(G:Nat->Pg)(cls:Int)(blocks:Nat)(pg:PgL)(opn:List Nat)(used:Int)(pl:PlM)(n:Nat)(p:List Int)(full:Bool)(w:World)(hS:Qh w S G cls blocks pg opn used)(hP:Zz w S.P pl)(hp:(n,p)∈pg)(hn4:n<1024)(hfo:full=true->n∉opn)(hfo':full=false->n∈opn)(hon:opn.Nodup)(hol:opn.length<=1024)(hcl:0<=cls)(hof:n<pl.own.length/\pl.own.getD n 0=cls):Ge prog 229 #[Ci S,.int .i64 n,Eg (G n),.bool full] w (λ_ w'=>Qh w' S G cls blocks (if Xu p=0 then Qk pg n else pg) (if Xu p=0 then (if full then n::opn else opn).filter (λm=>m != n) else if full then n::opn else opn) used/\Zz w' S.P (if Xu p=0 then pl.give n else pl)/\Xc (Av S G pg) w w'):=by
 refine Ge.enter func229 rfl ntmps229 rfl rfl (ζa ϱ ?_);cases full with
 |true=>
  have K:=hfo rfl;refine ζy ϱ (ζl hS.obj ϱ (ζc ϱ (XfM S.R opn n w hS.ring hn4 K (by omega)) ?_));rintro _ W ⟨rfl,P,L⟩;refine ζa ϱ ?_;have a:=hS.setRing P L;have j:=Zz.far hS hP L (λz h=>.inr (.inr (.inl h)));have f:Xc (Av S G pg) w W:=L.mono λz _ h=>.inl (.inr (.inr (.inl h)));simp only[if_true];obtain⟨c,b⟩:∃o,o=n::opn:=⟨_,rfl⟩;have u:n∈c:=by rw[b];simp
  have s:c.Nodup:=by rw[b];exact List.nodup_cons.2 ⟨K,hon⟩
  have t:c.length<=4096:=by rw[b,XM];omega
  rw[<-b] at a⊢;refine ζw (Xe8 (G n) p W (a.pages _ hp)) ϱ ?_;by_cases d:Xu p=0
  ·rw[if_pos d,if_pos d,if_pos d];obtain⟨v,x,k⟩:=List.append_of_mem u;refine ζY ϱ (show(((Xu p:Nat):Int) == 0)=true by rw[d];rfl) (ζl a.obj ϱ ?_);have y:=a.ring;rw[k] at y;refine ζc ϱ (Ug S.R v x n W y (by rw[<-k];exact t)) ?_;rintro _ wa ⟨rfl,A,g⟩;have e:=a.setRing A g;refine ζa ϱ (ζl e.obj ϱ ?_);obtain⟨m,B,_⟩:=e.map;refine Xa.mapdel Xb rfl (B) λwb C i O=>ζa ϱ ?_;have l:=e.del hp (λm' M=>by rw[M.uniq B];exact C) i;have q:=Zz.far e (Zz.far a j g (λz h=>.inr (.inr (.inl h)))) i (λz h=>.inr (.inl h));refine ζl l.obj ϱ ?_;have D:Z4 pl.own n=pl.own.getD n 0:=by
    unfold Z4;rw[if_pos (by omega)];simp only[XA];rw[Nv hof.1]
   have E:Ex pl n=0:=by unfold Ex;rw[if_neg (by have:=hof.1;omega),D,if_neg (by rw[hof.2];omega)]
   have F:=Xbc S.P pl n wb q;rw[show Gv pl n=pl.give n from by unfold Gv;rw[if_pos E];rfl] at F;refine ζc ϱ (F) ?_;rintro _ wc ⟨rfl,H,r⟩;refine ζa ϱ ?_;have I:c.filter (λm=>m != n)=v++x:=by rw[k];exact XdO (k▸s)
   rw[I];exact ζr func229 ϱ ⟨(l.pool q r),H,((f.trans (g.mono λz _ h=>.inl (.inr (.inr (.inl h))))).trans (i.mono λz _ h=>.inl (.inr (.inl h)))).trans (r.mono λz _ h=>.inr h)⟩
  ·rw[if_neg d,if_neg d,if_neg d];exact ζF ϱ (show(((Xu p:Nat):Int) == 0)=false by simp;omega) (ζr func229 ϱ ⟨a,j,f⟩)
 |false=>
  refine ζf ϱ ?_;simp only[QD,if_false];obtain⟨c,b⟩:∃o,o=opn:=⟨_,rfl⟩;have u:n∈c:=by rw[b];exact(hfo' rfl)
  have s:c.Nodup:=by rw[b];exact hon
  have t:c.length<=4096:=by rw[b];omega
  have a:=hS;have j:=hP;have f:Xc (Av S G pg) w w:=Xc.refl _ _;rw[<-b] at a⊢;obtain⟨W,N⟩:∃W,W=w:=⟨_,rfl⟩;have J:∀{X:World->Prop},X W->X w:=λh=>N▸h;rw[<-N] at a j;replace f:Xc (Av S G pg) w W:=by rw[N];exact f
  refine J (X:=λQ=>Xa _ _ _ _ _ _ _ Q) (ζw (Xe8 (G n) p W (a.pages _ hp)) ϱ ?_);by_cases d:Xu p=0
  ·rw[if_pos d,if_pos d,if_pos d];obtain⟨v,x,k⟩:=List.append_of_mem u;refine ζY ϱ (show(((Xu p:Nat):Int) == 0)=true by rw[d];rfl) (ζl a.obj ϱ ?_);have y:=a.ring;rw[k] at y;refine ζc ϱ (Ug S.R v x n W y (by rw[<-k];exact t)) ?_;rintro _ wa ⟨rfl,A,g⟩;have e:=a.setRing A g;refine ζa ϱ (ζl e.obj ϱ ?_);obtain⟨m,B,_⟩:=e.map;refine Xa.mapdel Xb rfl (B) λwb C i O=>ζa ϱ ?_;have l:=e.del hp (λm' M=>by rw[M.uniq B];exact C) i;have q:=Zz.far e (Zz.far a j g (λz h=>.inr (.inr (.inl h)))) i (λz h=>.inr (.inl h));refine ζl l.obj ϱ ?_;have D:Z4 pl.own n=pl.own.getD n 0:=by
    unfold Z4;rw[if_pos (by omega)];simp only[XA];rw[Nv hof.1]
   have E:Ex pl n=0:=by unfold Ex;rw[if_neg (by have:=hof.1;omega),D,if_neg (by rw[hof.2];omega)]
   have F:=Xbc S.P pl n wb q;rw[show Gv pl n=pl.give n from by unfold Gv;rw[if_pos E];rfl] at F;refine ζc ϱ (F) ?_;rintro _ wc ⟨rfl,H,r⟩;refine ζa ϱ ?_;have I:c.filter (λm=>m != n)=v++x:=by rw[k];exact XdO (k▸s)
   rw[I];exact ζr func229 ϱ ⟨(l.pool q r),H,((f.trans (g.mono λz _ h=>.inl (.inr (.inr (.inl h))))).trans (i.mono λz _ h=>.inl (.inr (.inl h)))).trans (r.mono λz _ h=>.inr h)⟩
  ·rw[if_neg d,if_neg d,if_neg d];exact ζF ϱ (show(((Xu p:Nat):Int) == 0)=false by simp;omega) (ζr func229 ϱ ⟨a,j,f⟩)
def B0(x:Sm)(n i:Int):Int:=match Zi x.pg n with
 |some p=>Qx p i
 |none=>1
def Qj(x:Sm)(n i:Int):Sm:=match Zi x.pg n with
 |some p=>if Qx p i=0 then x.giveAt n.toNat p i else x
 |none=>x
def A3(x:Sm)(pl:PlM)(n i:Int):PlM:=match Zi x.pg n with
 |some p=>if Qx p i=0/\Xu (Z7 p i)=0 then pl.give n.toNat else pl
 |none=>pl
theorem Xgh(l:PgL)(n:Nat)(p:List Int):Qk (Zo l n p) n=Qk l n:=by
 induction l with
 |nil=>rfl
 |cons e r ih=>
  unfold Qk Zo at *;rw[ZB,XY,XY];by_cases h:e.1=n
  ·rw[if_pos h];simp only[bne_self_eq_false,QD,if_false,h];exact ih
  ·rw[if_neg h];have:(e.1 != n)=true:=by simpa using h
   rw[if_pos this,if_pos this,ih]
theorem XiM{S:Sh}{i:Int}:∀z,Qf S G (x.giveAt n p i).pg z->Qf S G x.pg z:=λz h=>by
 unfold Sm.giveAt at h;simp only at h
 split at h
 ·exact XiL z h
 ·exact Lu z h
theorem Sm.Of.giveAt{x:Sm}{pl:PlM}(hok:x.Ok)(h:x.Of pl){n:Nat}{p:List Int}{i:Int}:(x.giveAt n p i).Of (if Xu (Z7 p i)=0 then pl.give n else pl):=by
 unfold Sm.giveAt;simp only
 split
 ·intro e c;obtain⟨d,c⟩:=Ie.1 c;obtain⟨a,b⟩:=h e c;show e.1<(pl.own.set n (-1)).length/\(pl.own.set n (-1)).getD e.1 0=x.cls
  rw[XG,Fj,if_neg (λh=>d h.1.symm)];exact⟨a,b⟩
 ·exact h.set rfl (λe c=>Ml c)
theorem XlS(n i:Int)(w:World):Xf prog 181 #[.pointer none,.int .i64 n,.int .i64 i] w (Za (.int .i64 1) w):=by
 exact ζe func181 ntmps181 ϱ (ζw (XbH n w) ϱ (ζr func181 ϱ ⟨rfl,rfl⟩))
theorem XlR(S:Sh)(G:Nat->Pg)(x:Sm)(pl:PlM)(n i:Int)(w:World)(h:Qq w S G x pl):Xf prog 181 #[Ci S,.int .i64 n,.int .i64 i] w
 (λv w'=>v=.int .i64 (B0 x n i)/\Qq w' S G (Qj x n i) (A3 x pl n i)/\Xc (Av S G x.pg) w w'/\∀z,Qf S G (Qj x n i).pg z->Qf S G x.pg z):=by
 refine ζe func181 ntmps181 ϱ (ζw (XbG S G x pl n w h) ϱ ?_);cases b:Zi x.pg n with
 |none=>
  rw[show B0 x n i=1 from by unfold B0;rw[b],show Qj x n i=x from by unfold Qj;rw[b],show A3 x pl n i=pl from by unfold A3;rw[b]];exact ζr func181 ϱ ⟨rfl,h,Xc.refl _ _,λ_ h=>h⟩
 |some p=>
  obtain⟨k,rfl,a⟩:=Ga b;obtain⟨B,C,l⟩:=h.ok.each _ a;simp only at B C l
  have P:=h.ok.few;refine ζv (P8 (G k) p w (h.at'.pages _ a)) ϱ λQ m=>?_;have o:=h.at'.grow m;refine ζc ϱ (Xkb (G k) p i Q (o.pages _ a)) ?_;rintro _ R ⟨rfl,J,q⟩;refine ζa ϱ ?_;have f:=o.page a J q;have r:=Zz.far o (h.pool.grow m) q (λz e=>.inr (.inr (.inr ⟨_,a,e⟩)));have D:Xc (Av S G x.pg) w R:=m.gr.trans (q.mono λz _ e=>.inl (.inr (.inr (.inr ⟨_,a,e⟩))));by_cases d:Qx p i=0
  ·rw[show B0 x k i=0 from by unfold B0;rw[b];exact d,show Qj x k i=x.giveAt k p i from by unfold Qj;rw[b];simp only;rw[if_pos d];rfl,show A3 x pl k i=(if Xu (Z7 p i)=0 then pl.give k else pl) from by unfold A3;rw[b];simp only[d,true_and];rfl,d];have hu:=Xa7 d;have a0:=Mm (p:=Z7 p i) h.ok.nodup a;refine ζf ϱ (Xa.defer rfl rfl (ζa ϱ (ζl f.obj ϱ (ζj ϱ (ζs f.obj ϱ λT E s a1=>?_)))));have K:((Yh x.pg:Nat):Int)-1=(Yh (Zo x.pg k (Z7 p i)):Nat):=by omega
   rw[K] at E;have F:(k,Z7 p i)∈Zo x.pg k (Z7 p i):=List.mem_map.2 ⟨(k,p),a,if_pos rfl⟩;have H:((Xu p:Int) == p.length)=decide (Xu p=x.blocks):=by rw[C];exact Bool.eq_iff_iff.2 (by simp only[beq_iff_eq,decide_eq_true_eq];omega)
   have u:=Xl4 S G x.cls x.blocks _ x.opn _ pl k (Z7 p i) (decide (Xu p=x.blocks)) T (f.setUsed E s) (Zz.far f r s (λz e=>.inl e)) F B (λe U=>(l.1 U) (of_decide_eq_true e)) (λe=>l.2 (of_decide_eq_false e)) h.ok.onodup (by omega) h.ok.cls (h.of _ a);rw[<-H] at u;refine Xa.ret1D Xb rfl func181 rfl rfl rfl (Nz (args:=[Ci S,.int .i64 k,Eg (G k),.bool ((Xu p:Int) == p.length)]) (captured:=[]) u.fn) ⟨u.fn,?_⟩;intro c cs L;obtain⟨en,u',w',fr,⟨V,v,W,g,M,N⟩,y⟩:=u.calls c cs L;have I:(x.giveAt k p i).Pos:=by
    unfold Sm.giveAt;simp only
    split
    ·intro e t;exact h.pos e (Ie.1 t).2
    ·rename_i j
     intro e t;rcases E8 t with⟨rfl,_⟩|⟨_,t⟩
     ·exact Nat.pos_of_ne_zero j
     ·exact h.pos e t
   refine⟨en,u',w',fr,⟨V,v,W,rfl,⟨h.ok.giveAt a d,I,h.of.giveAt h.ok,?_,?_⟩,(D.trans (s.mono λz _ e=>.inl (.inl e))).trans (N.mono λz _ j=>j.imp (Lu z) id),XiM⟩,y⟩
   ·rw[H] at g;show Qh w' S G (x.giveAt k p i).cls (x.giveAt k p i).blocks (x.giveAt k p i).pg (x.giveAt k p i).opn (Yh (x.giveAt k p i).pg:Nat)
    unfold Sm.giveAt;simp only
    simp only[decide_eq_true_eq] at g;by_cases j:Xu (Z7 p i)=0
    ·rw[if_pos j] at g⊢;rw[if_pos j,Xgh] at g;have O:=(Uv (by rw[Kc];exact h.ok.nodup) F).1;rw[Xgh] at O;show Qh w' S G x.cls x.blocks (Qk x.pg k) _ (Yh (Qk x.pg k):Nat)
     rw[show Yh (Qk x.pg k)=Yh (Zo x.pg k (Z7 p i)) by omega];exact g
    ·rw[if_neg j] at g⊢;rw[if_neg j] at g;exact g
   ·exact M
  ·have A:Z7 p i=p:=by unfold Z7;rw[if_neg d]
   rw[A,Xgi h.ok.nodup a] at f;rw[show B0 x k i=Qx p i from by unfold B0;rw[b],show Qj x k i=x from by unfold Qj;rw[b];simp only;rw[if_neg d],show A3 x pl k i=pl from by unfold A3;rw[b];simp only;rw[if_neg (λh=>d h.1)]];exact ζY ϱ (show(Qx p i != 0)=true by simpa using d) (ζr func181 ϱ ⟨rfl,⟨h.ok,h.pos,h.of,f,r⟩,D,λ_ h=>h⟩)
def J1(a b c d:Int):List Value:=[.int .i64 a,.int .i64 b,.int .i64 c,.int .i64 d]
def Mj(x:Sm):Bool:=decide (2<=x.opn.length)
def G4(x:Sm):List Value:=if 2<=x.opn.length then J1 (Be (-1) x.opn) (Kw ((Zi x.pg (Be (-1) x.opn)).getD [])) (B4 x.opn) (Yf ((Zi x.pg (B4 x.opn)).getD [])) else J1 0 0 0 0
theorem XlZ(w:World):Xf prog 173 #[.pointer none] w (Grow (.tuple #[.agg (J1 0 0 0 0).toArray,.bool false]) w):=by
 exact ζe func173 ntmps173 ϱ (ζn ϱ λtb f e1 b c g=>ζw (Xga f) ϱ (ζy ϱ (ζb ϱ (ζs b ϱ λi a d h=>ζR func173 a ϱ ⟨rfl,c.since d (λz j e=>by omega)⟩))))
theorem XlY(S:Sh)(G:Nat->Pg)(x:Sm)(pl:PlM)(w:World)(h:Qq w S G x pl):Xf prog 173 #[Ci S] w (Grow (.tuple #[.agg (G4 x).toArray,.bool (Mj x)]) w):=by
 unfold G4 Mj;refine ζe func173 ntmps173 ϱ (ζn ϱ λtb I e1 s j P=>?_);have g:=h.grow j;refine ζw (Xf9 S G x pl I g) ϱ ?_;by_cases f:2<=x.opn.length
 ·refine ζf ϱ ?_;rw[if_pos f,decide_eq_true f];have n:∃k∈x.opn,Be (-1) x.opn=(k:Int):=by
   rcases I7 (-1) x.opn with⟨e,_⟩|⟨a,v,e,_⟩
   ·rw[e] at f;simp at f
   ·exact⟨a,v,e⟩
  have o:∃k∈x.opn,B4 x.opn=(k:Int):=by
   cases J:x.opn with
   |nil=>rw[J] at f;simp at f
   |cons a r=>exact⟨a,by simp,rfl⟩
  obtain⟨a,v,ea⟩:=n;obtain⟨b,K,eb⟩:=o;obtain⟨p,y⟩:=h.ok.osub a v;obtain⟨q,A⟩:=h.ok.osub b K;rw[ea,eb,A6 h.ok.nodup y,A6 h.ok.nodup A];simp only[ZP];refine ζd 10 Xe (by kernel_rfl) ϱ λc=>δl c g.at'.obj ϱ (δw c (λw' d=>Xln S.R x.opn w' (g.at'.ring.grow d)) ϱ ?_);rw[ea];refine δl c g.at'.obj ϱ (δw c (λw' d=>XfL S.R x.opn w' (g.at'.ring.grow d)) ϱ ?_);rw[eb];refine δn c ϱ λL l=>?_;have i:=g.grow l;obtain⟨m,M,D⟩:=i.at'.look a;obtain⟨m',E,t⟩:=i.at'.look b;rw[A6 h.ok.nodup y] at D;rw[A6 h.ok.nodup A] at t;exact ζd 16 Xe (by kernel_rfl) ϱ λc=>δl c i.at'.obj ϱ (Xd.lookup Xb c rfl (M) (by first|(intro b h;cases h;assumption)|(intro b h N;cases h;omega)) (D) rfl (δw c (λw' d=>Xkf (G a) p w' ((i.at'.pages _ y).grow d)) ϱ (δl c i.at'.obj ϱ (Xd.lookup Xb c rfl (E) (by first|(intro b h;cases h;assumption)|(intro b h N;cases h;omega)) (t) rfl (δv c (λw' d=>Xkc (G b) q w' ((i.at'.pages _ A).grow d)) ϱ (δn c ϱ λT u=>ζb ϱ (ζs (u.heap' (l.heap' s)) ϱ λU B F Q=>ζR func173 B ϱ ⟨rfl,((j.trans l).trans u).since F (λz O e=>by omega)⟩)))))))
 ·refine ζy ϱ ?_;rw[if_neg f,decide_eq_false f];exact ζb ϱ (ζs s ϱ λL C H R=>ζR func173 C ϱ ⟨rfl,j.since H (λz O e=>by omega)⟩)
def P0(cls:Int)(blocks:Nat):Sm:=⟨cls,blocks,[],[]⟩
theorem XlT(P:Pl)(pl:PlM)(cls:Int)(k:Nat)(w:World)(ht:Bb w)(hc:0<=cls)(hk:1<=k/\k<=512)(hP:Zz w P pl):Xf prog 134 #[Ei P,.int .i64 cls,.int .i64 k] w
 (λv w'=>∃S,S.P=P/\v=.tuple #[Ci S,.int .i64 0]/\(∀G z,Qf S G [] z->w.heap.size<=z)/\(∀G,Qq w' S G (P0 cls k) pl)/\Xc Xe w w'):=by
 refine ζe func134 ntmps134 ϱ (ζc ϱ (Xe4 k w ht hk) ?_);rintro _ n ⟨g,rfl,_,_,d⟩;refine ζa ϱ (ζf ϱ (ζf ϱ (ζc ϱ (Xlp n) ?_)));rintro _ B ⟨R,rfl,⟨r,s,t⟩,o,f⟩;refine ζa ϱ (Xa.mkmap rfl λsm C e3 l i u=>ζa ϱ (ζb ϱ (ζn ϱ λsb D e4 m c x=>?_)));have b:=((d.trans f).trans i).trans c;have y:=d.size;have A:=f.size;exact Xa.ret2 Xb rfl func134 rfl rfl rfl ⟨⟨sb,sm,R,P⟩,rfl,rfl,(λG z p=>by
  rcases p with h|h|(h|h)|⟨e,a,_⟩
  ·have:z=sb:=h;omega
  ·have:z=sm:=h;omega
  ·have:z=R.ab:=h;omega
  ·have:z=R.nb:=h;omega
  ·cases a),λG=>⟨⟨YJ,hc,hk,(λe a=>by cases a),YJ,(λe a=>by cases a)⟩,(λe a=>by cases a),(λe a=>by cases a),⟨YJ,λj q=>b.cell (ht j q) id,m,⟨[],l.chg c id,YJ,rfl,(λe a=>by cases a),λ_ _=>rfl⟩,(o.grow i).grow c,(λe a=>by cases a),(λe a=>by cases a)⟩,hP.grow b⟩,b⟩
def Hd(F:Nat->Prop)(w:World)(S:Sh)(x:Sm)(pl:PlM):Prop:=∃G,Qq w S G x pl/\∀z,Av S G x.pg z->F z
theorem Hd.grow{F:Nat->Prop}{w w':World}{S:Sh}{x:Sm}{pl:PlM}(h:Hd F w S x pl)(hc:Xc Xe w w'):Hd F w' S x pl:=by
 obtain⟨G,a,b⟩:=h;exact⟨G,a.grow hc,b⟩
theorem Qq.foot_lt{w:World}{S:Sh}{G:Nat->Pg}{x:Sm}{pl:PlM}(h:Qq w S G x pl):∀z,Av S G x.pg z->z<w.heap.size:=λz hz=>by
 rcases hz with hz|hz|hz
 ·exact h.at'.foot_lt z hz
 ·have:z=S.P.pb:=hz;have:=h.pool.lt;omega
 ·have:z=S.P.ab:=hz;have:=h.pool.lt;omega
theorem Hd.pool{F:Nat->Prop}{w:World}{S:Sh}{x:Sm}{pl:PlM}(h:Hd F w S x pl):Zz w S.P pl:=by
 obtain⟨G,a,_⟩:=h;exact a.pool
theorem Hd.tab{F:Nat->Prop}{w:World}{S:Sh}{x:Sm}{pl:PlM}(h:Hd F w S x pl):Bb w:=by
 obtain⟨G,a,_⟩:=h;exact a.at'.tab
theorem Hd.mono{S:Sh}{pl:PlM}(h:Hd F w S x pl)(hF:∀z,F z->F' z):Hd F' w S x pl:=by
 obtain⟨G,a,b⟩:=h;exact⟨G,a,λz c=>hF z (b z c)⟩
theorem Hd.ok{F:Nat->Prop}{w:World}{S:Sh}{x:Sm}{pl:PlM}(h:Hd F w S x pl):x.Ok/\x.Pos/\x.Of pl/\pl.Good:=by
 obtain⟨G,a,_⟩:=h;exact⟨a.ok,a.pos,a.of,a.pool.good⟩
theorem Uu(l:PgL)(n:Nat)(p:List Int):(Zo l n p).length=l.length:=by unfold Zo;simp
theorem J9(x:Sm)(pl:PlM)(who:Int):(Qm x pl who≠0/\Q0 x pl who=x/\B1 x pl who=pl)\/
 (Qm x pl who=0/\0<=who/\((∃n r,x.opn=n::r/\Q0 x pl who=x.takeAt n (Fc x pl) who/\B1 x pl who=pl/\Fc x pl=(Zi x.pg n).getD []/\Cb x pl who=n/\Ca x pl who=Yf (Fc x pl))\/
  (∃n r,x.opn=[]/\pl.free=n::r/\Q0 x pl who=(x.fresh n).takeAt n (Fc x pl) who/\B1 x pl who=pl.take x.cls/\Fc x pl=(Zi (x.fresh n).pg n).getD []/\Cb x pl who=n/\Ca x pl who=Yf (Fc x pl)))):=by
 by_cases a:Qm x pl who=0
 ·refine .inr ⟨a,?_,?_⟩
  ·unfold Qm at a;split at a
   ·cases a
   ·omega
  ·have e1:Q0 x pl who=(Iq x pl).takeAt (F8 x pl) (Fc x pl) who:=by unfold Q0;rw[if_pos a]
   have e2:B1 x pl who=J7 x pl:=by unfold B1;rw[if_pos a]
   have e3:Cb x pl who=F8 x pl:=by unfold Cb;rw[if_pos a]
   have e4:Ca x pl who=Yf (Fc x pl):=by unfold Ca;rw[if_pos a]
   have e5:Fc x pl=(Zi (Iq x pl).pg (F8 x pl)).getD []:=rfl;cases b:x.opn with
   |cons n r=>
    have d:Iq x pl=x:=by unfold Iq;rw[b]
    have c:F8 x pl=n:=by unfold F8;rw[b]
    have e:J7 x pl=pl:=by unfold J7;rw[b]
    refine .inl ⟨n,r,rfl,?_,?_,?_,?_,e4⟩
    ·rw[e1,d,c]
    ·rw[e2,e]
    ·rw[e5,d,c]
    ·rw[e3,c]
   |nil=>
    cases f:pl.free with
    |nil=>
     unfold Qm at a;split at a
     ·cases a
     ·rw[if_pos (by rw[b,f];exact⟨rfl,rfl⟩)] at a;cases a
    |cons n r=>
     have d:Iq x pl=x.fresh n:=by unfold Iq;rw[b,f];rfl
     have c:F8 x pl=n:=by unfold F8;rw[b,f];rfl
     have e:J7 x pl=pl.take x.cls:=by unfold J7;rw[b]
     refine .inr ⟨n,r,rfl,rfl,?_,?_,?_,?_,e4⟩
     ·rw[e1,d,c]
     ·rw[e2,e]
     ·rw[e5,d,c]
     ·rw[e3,c]
 ·exact .inl ⟨a,by unfold Q0;rw[if_neg a],by unfold B1;rw[if_neg a]⟩
theorem XaS:∀(l l':List Nat),l.Nodup->(∀a∈l,a∈l')->l.length<=l'.length
 |[],_,_,_=>XL _
 |a::r,l',f,h=>by
  obtain⟨g,i⟩:=List.nodup_cons.1 f;have c:=h a (by simp);have ih:=XaS r (l'.erase a) i (λb d=>by
   have:b≠a:=λe=>g (e▸d);exact(List.mem_erase_of_ne this).2 (h b (by simp[d])))
  rw[List.length_erase_of_mem c] at ih;have:=List.length_pos_of_mem c;simp only[XM];omega
def Jr(b:Nat):PgL->Nat
 |[]=>0
 |(_,p)::r=>(if Xu p≠b then 1 else 0)+Jr b r
theorem Xdl(b:Nat):∀(l:PgL),Jr b l=(l.filter λe=>decide (Xu e.2≠b)).length
 |[]=>rfl
 |(a,p)::r=>by
  rw[XY];unfold Jr;rw[Xdl b r];by_cases h:Xu p≠b
  ·rw[if_pos h,if_pos (by simpa using h),XM];omega
  ·rw[if_neg h,if_neg (by simpa using h)];omega
theorem Xe0(h:x.Ok):x.opn.length=Jr x.blocks x.pg:=by
 have e1:((x.pg.filter λe=>decide (Xu e.2≠x.blocks)).map (·.1)).length=(x.pg.filter λe=>decide (Xu e.2≠x.blocks)).length:=by simp
 rw[Xdl,<-e1];refine Nat.le_antisymm (XaS _ _ h.onodup λn a=>?_) (XaS _ _ (h.nodup.sublist (List.filter_sublist.map _)) λn a=>?_)
 ·obtain⟨p,b⟩:=h.osub n a;exact List.mem_map.2 ⟨(n,p),List.mem_filter.2 ⟨b,by simpa using(h.each _ b).2.2.1 a⟩,rfl⟩
 ·obtain⟨e,c,rfl⟩:=List.mem_map.1 a;obtain⟨d,f⟩:=List.mem_filter.1 c;exact(h.each e d).2.2.2 (by simpa using f)
theorem Xa1{b:Nat}(hb:1<=b):∀{l:PgL},(∀e∈l,e.2.length=b/\0<Xu e.2)->Yh l+Jr b l<=l.length*b/\l.length*b+Jr b l<=Yh l+Jr b l*b/\l.length<=Yh l
 |[],_=>by simp[Yh,Jr]
 |(a,p)::r,h=>by
  obtain⟨j,k,m⟩:=Xa1 hb (l:=r) (λe d=>h e (by simp[d]));obtain⟨f,g⟩:=h (a,p) (by simp);have i:=Oa p;simp only at f g i
  simp only[Yh,Jr,XM,QP];by_cases c:Xu p=b
  ·rw[if_neg (by simpa using c)];simp only[XS];omega
  ·rw[if_pos c,YT,QI];omega
theorem Xmj{l:PgL}{q:List Int}(hn:(l.map (·.1)).Nodup)(hq:(n,q)∈l):Zi (Zo l n p) n=some p:=
 A6 (by rw[Kc];exact hn) (List.mem_map.2 ⟨(n,q),hq,if_pos rfl⟩)
def Rows{α:Type}(cells:α->List Value)(sz:Nat)(w:World)(a:Option Addr)(xs:List α):Prop:=
 ∀i x,xs[i]?=some x -> ∃b off,a=some ⟨b,off,none⟩/\∀j v,(cells x)[j]?=some v->w.cell? ⟨b,off+i*sz+j,none⟩=some v
theorem Rows.chg{cells:α->List Value}{xs:List α}(h:Rows cells sz w a xs)(hc:Xc Xe w w'):Rows cells sz w' a xs:=λi x d=>by
 obtain⟨b,off,e,c⟩:=h i x d;exact⟨b,off,e,λj v f=>Sq hc.below (c j v f)⟩
theorem Rows.at{cells:α->List Value}{xs:List α}(h:Rows cells sz w a xs)(hi:i<xs.length):∃b off,a=some ⟨b,off,none⟩/\∀j v,(cells xs[i])[j]?=some v->w.cell? ⟨b,off+i*sz+j,none⟩=some v:=h i xs[i] (XB hi)
def Xj(S:Nat->Prop)(a:Option Addr):Prop:=∀b off s,a=some ⟨b,off,s⟩ -> ¬S b
def E1(w:World)(a a':Option Addr):Prop:=a'=a\/∃g off,a'=some ⟨g,off,none⟩/\w.heap.size<=g
theorem Xj.newer{a':Option Addr}(h:Xj S a)(hn:E1 w a a')(hS:∀b,S b->b<w.heap.size):Xj S a':=λb off s e c=>by
 rcases hn with hn|⟨g,off',hn,d⟩
 ·rw[hn] at e;exact h b off s e c
 ·rw[hn] at e;cases e;have:=hS _ c;omega
theorem Xj.fresh(hg:w.heap.size<=g)(hS:∀b,S b->b<w.heap.size):Xj S (some ⟨g,off,none⟩):=λb off' s e a=>by cases e;have:=hS _ a;omega
theorem Rd.far{k:IntKind}(h:Rd k w a zs)(hs:Xj S a)(hc:Xc S w w'):Rd k w' a zs:=(Gg.chg ⟨h,λb off s e _=>hs b off s e⟩ hc).1
theorem Xj.mono(h:Xj S a)(hs:∀z,S' z->S z):Xj S' a:=λb off s e c=>h b off s e (hs _ c)
structure IL where
 a:Option Addr
 cap:Nat
 x:List Int
abbrev Xn(l:IL):Value:=.slice l.a l.x.length l.cap
structure Bi(w:World)(l:IL):Prop where
 rd:Rd .i64 w l.a l.x
 len:l.x.length<=512
theorem Bi.grow{l:IL}(h:Bi w l)(hc:Xc Xe w w'):Bi w' l:=⟨h.rd.chg hc,h.len⟩
theorem Bi.far{l:IL}(h:Bi w l)(hs:Xj S l.a)(hc:Xc S w w'):Bi w' l:=
 ⟨(Gg.chg ⟨h.rd,λb off s e _=>hs b off s e⟩ hc).1,h.len⟩
theorem Ij{x:List Int}:∀u∈x.map (Value.int .i64),u.oneCell'=true:=by
 intro u a;obtain⟨z,_,rfl⟩:=List.mem_map.1 a;rfl
theorem XdU{x:List Int}(h:i<x.length):x.getD i (-1)=x.getD i 0:=by
 rw[XC,XC,XB h];rfl
theorem Bi.at{l:IL}(h:Bi w l)(hi:i<l.x.length):∃b off,l.a=some ⟨b,off,none⟩/\w.cell? ⟨b,off+i,none⟩=some (.int .i64 (l.x.getD i (-1))):=by
 obtain⟨b,off,e,a⟩:=h.rd i hi;exact⟨b,off,e,by rw[XdU hi];exact a⟩
theorem Rd.atm{x:List Int}(h:Rd .i64 w a x)(hi:i<x.length):∃b off,a=some ⟨b,off,none⟩/\w.cell? ⟨b,off+i,none⟩=some (.int .i64 (x.getD i (-1))):=by
 obtain⟨b,off,e,c⟩:=h i hi;exact⟨b,off,e,by rw[XdU hi];exact c⟩
theorem XkM(m:Nat)(w:World)(h:1<=m/\m<=512):Xf prog 266 #[.int .i64 m] w (λv w'=>∃l:IL,v=.tuple #[Xn l,.int .i64 0]/\l.x=List.replicate m (-1)/\Bi w' l/\Xc Xe w w'/\E1 w none l.a):=by
 have z:maxLen=9223372036854775807:=rfl;refine ζe func266 ntmps266 ϱ (ζf ϱ (ζf ϱ ?_));refine Xa.loop (α:=Nat×Value) (λp=>[(0,false,.int .i64 m),(4,false,p.2),(5,false,.int .i64 p.1)])
  (λp w'=>p.1<=m/\Xl w.heap.size 3 1 w' p.2 p.1 ((List.replicate p.1 (-1)).map (Value.int .i64))/\Xc Xe w w') (λp=>m-p.1) (0,.slice none 0 0) ⟨rfl,rfl,rfl,trivial⟩ ⟨XL _,World.ownsRow_nil _ _ _ _,Xc.refl _ _⟩ ?_
 rintro⟨i,v⟩ E ⟨hi,f,a⟩ ih;simp only at hi f
 refine ζa ϱ (ζg ϱ (λj=>?_) λj=>?_)
 ·have n:i<m:=by have:=of_decide_eq_true j;omega
  refine Xa.buildSlice Xb rfl λF G e2 o b A=>ζa ϱ ?_;have d:=f.chg b (λ_ _ h=>h);refine Xa.append (base:=w.heap.size) (xs:=(List.replicate i (-1)).map (Value.int .i64)) (news:=[.int .i64 (-1)]) Xb rfl d (by have:=a.size;have:=b.size;omega) (by simp) (Gl o) (by simp[Value.oneCell']) (by simp only;omega) λy H q r B=>ζa ϱ (ζj ϱ ?_);exact ih (i+1,y) _ _ ⟨n,by
   have e:(List.replicate (i+1) (-1:Int)).map (Value.int .i64)=(List.replicate i (-1)).map (Value.int .i64)++[.int .i64 (-1)]:=by rw[List.replicate_succ',XI];rfl
   rw[e];exact q,(d.since (a.trans b) (XE _) r)⟩ (by simp only;omega) ⟨rfl,rfl,rfl,trivial⟩
 ·have s:i=m:=by have:=of_decide_eq_false j;omega
  subst s;obtain⟨g,k,cur,rfl,t,u,C,D,x⟩:=f.form (by omega);have c:(List.replicate i (-1:Int)).length=i:=XH;exact ζr func266 ϱ ⟨⟨some ⟨g,0,none⟩,k,List.replicate i (-1)⟩,by show _=Value.tuple #[.slice _ (List.replicate i (-1:Int)).length _,_];rw[c],rfl,⟨Rd.of_take u (by simp only[c];simpa using x),by simp only;omega⟩,a,.inr ⟨g,0,rfl,t⟩⟩
theorem XkO(l:IL)(i:Int)(w:World)(h:Bi w l):Xf prog 244 #[Xn l,.int .i64 i] w (Za (.int .i64 (Z4 l.x i)) w):=by
 obtain⟨a,cap,x⟩:=l;have f:=h.len;have e:=h.rd;simp only at f e
 show Xf prog 244 #[.slice a x.length cap,.int .i64 i] w (Za (.int .i64 (Z4 x i)) w)
 refine ζe func244 ntmps244 ϱ (ζg ϱ (λc=>?_) λc=>?_)
 ·have g:=of_decide_eq_true c;exact ζr func244 ϱ ⟨X0 (Xa8 (by omega)).symm,rfl⟩
 have g:=of_decide_eq_false c;refine ζg ϱ (λd=>?_) λd=>?_
 ·have j:=of_decide_eq_true d;exact ζr func244 ϱ ⟨X0 (Xa8 (by omega)).symm,rfl⟩
 have j:=of_decide_eq_false d;obtain⟨i,rfl⟩:=XD (show 0<=i by omega);obtain⟨b,off,rfl,k⟩:=e.atm (i:=i) (by omega);exact ζi i ϱ (ζk ϱ k ϱ (ζr func244 ϱ ⟨X0 (by unfold Z4;rw[if_pos (by omega)];rfl),rfl⟩))
theorem L9{x:List Int}(h:j<(Y4 x).length):(Y4 x)[j]=!(x.getD j (-1) == -1):=by rw[<-Rb,Hk h]
theorem Xfu(l:IL)(w:World)(h:Bi w l):Xf prog 249 #[Xn l] w (Za (.int .i64 (Xu l.x)) w):=by
 obtain⟨a,cap,x⟩:=l;have m:=h.len;have g:=h.rd;simp only at m g
 show Xf prog 249 #[.slice a x.length cap] w (Za (.int .i64 (Xu x)) w)
 refine ζe func249 ntmps249 ϱ ?_;refine Xa.loop (α:=Nat) (λk=>[(0,false,.slice a x.length cap),(3,false,.int .i64 (cnt ((Y4 x).take k))),(4,false,.int .i64 k)])
  (λk w'=>w'=w/\k<=x.length) (λk=>x.length-k) 0 ⟨rfl,rfl,rfl,trivial⟩ ⟨rfl,XL _⟩ ?_
 rintro k p ⟨n,q⟩ ih;subst n;have i:=Np ((Y4 x).take k);rw[XU,Ew] at i;refine ζa ϱ (ζg ϱ (λf=>?_) λf=>?_)
 ·have c:k<x.length:=by have:=of_decide_eq_true f;omega
  obtain⟨b,off,rfl,o⟩:=g.atm c;have d:=Xdm (Y4 x) k (by rw[Ew];exact c);rw[L9] at d;refine ζi k ϱ (ζk ϱ o ϱ ?_);cases e:(x.getD k (-1) == -1) with
  |true=>
   rw[e,if_neg (by decide)] at d;exact ζF ϱ (show(x.getD k (-1) != -1)=false by simpa [bne] using e) (ζj ϱ (ih (k+1) _ _ ⟨rfl,c⟩ (by omega) ⟨rfl,by rw[d];rfl,rfl,trivial⟩))
  |false=>
   rw[e,if_pos (by decide)] at d;exact ζY ϱ (show(x.getD k (-1) != -1)=true by simpa [bne] using e) (ζj ϱ (ζj ϱ (ih (k+1) _ _ ⟨rfl,c⟩ (by omega) ⟨rfl,by rw[d];rfl,rfl,trivial⟩)))
 ·have j:k=x.length:=by have:=of_decide_eq_false f;omega
  subst j;exact ζr func249 ϱ ⟨X0 (by unfold Xu;rw[ZE (by rw[Ew];omega)]),rfl⟩
theorem Ro(l:IL)(w:World)(h:Bi w l):Xf prog 243 #[Xn l] w (Za (.int .i64 (Yf l.x)) w):=by
 obtain⟨a,cap,x⟩:=l;have o:=h.len;have i:=h.rd;simp only at o i
 show Xf prog 243 #[.slice a x.length cap] w (Za (.int .i64 (Yf x)) w)
 refine ζe func243 ntmps243 ϱ ?_;refine Xa.loop (α:=Nat) (λk=>[(0,false,.slice a x.length cap),(3,false,.int .i64 k)])
  (λk w'=>w'=w/\k<=x.length/\∀j,j<k->(x.getD j (-1) == -1)=false) (λk=>x.length-k) 0 ⟨rfl,rfl,trivial⟩ ⟨rfl,XL _,λ_ h=>by omega⟩ ?_
 rintro k t ⟨q,u,c⟩ ih;subst q;refine ζa ϱ (ζg ϱ (λg=>?_) λg=>?_)
 ·have d:k<x.length:=by have:=of_decide_eq_true g;omega
  obtain⟨b,off,rfl,r⟩:=i.atm d;refine ζi k ϱ (ζk ϱ r ϱ ?_);cases m:(x.getD k (-1) == -1) with
  |true=>
   exact ζy ϱ (ζr func243 ϱ ⟨X0 (I5 (p:=λb=>!b) (by rw[Ew];exact d) (λj n f=>by rw[L9,c j f];rfl) (by rw[L9,m];rfl)).symm,rfl⟩)
  |false=>
   refine ζf ϱ (ζj ϱ ?_);exact ih (k+1) _ _ ⟨rfl,d,λj f=>by
    by_cases e:j=k
    ·subst e;exact m
    ·exact c j (by omega)⟩ (by omega) ⟨rfl,rfl,trivial⟩
 ·have s:k=x.length:=by have:=of_decide_eq_false g;omega
  exact ζr func243 ϱ ⟨X0 (Hl (p:=λb=>!b) (λj n=>by rw[L9,c j (by rw[Ew] at n;omega)];rfl)).symm,rfl⟩
theorem XkP(l:IL)(w:World)(h:Bi w l):Xf prog 242 #[Xn l] w (Za (.int .i64 (Kw l.x)) w):=by
 obtain⟨a,cap,x⟩:=l;have o:=h.len;have g:=h.rd;simp only at o g
 show Xf prog 242 #[.slice a x.length cap] w (Za (.int .i64 (Kw x)) w)
 refine ζe func242 ntmps242 ϱ (ζj ϱ ?_);refine Xa.loop (α:=Nat) (λk=>[(0,false,.slice a x.length cap),(3,false,.int .i64 ((k:Int)-1))])
  (λk w'=>w'=w/\k<=x.length/\∀j,k<=j->(x.getD j (-1) == -1)=true) (λk=>k) x.length ⟨rfl,rfl,trivial⟩ ⟨rfl,XE _,λj h=>by rw[XC,XV h];rfl⟩ ?_
 rintro k v ⟨q,y,c⟩ ih;subst q;refine ζa ϱ (ζg ϱ (λf=>?_) λf=>?_)
 ·have t:0<k:=by have:=of_decide_eq_true f;omega
  obtain⟨k,rfl⟩:∃m,k=m+1:=⟨k-1,by omega⟩;obtain⟨b,off,rfl,r⟩:=g.atm (i:=k) (by omega);rw[show(((k+1:Nat):Int)-1)=(k:Int) from by omega];refine ζi k ϱ (ζk ϱ r ϱ ?_);cases d:(x.getD k (-1) == -1) with
  |false=>
   exact ζY ϱ (show(x.getD k (-1) != -1)=true by simpa [bne] using d) (ζr func242 ϱ ⟨X0 (Xbx (p:=id) (by rw[Ew];omega) (λj s n=>by rw[L9,c j (by omega)];rfl) (by rw[L9,d];rfl)).symm,rfl⟩)
  |true=>
   refine ζF ϱ (show(x.getD k (-1) != -1)=false by simpa [bne] using d) (ζj ϱ ?_);exact ih k _ _ ⟨rfl,by omega,λj n=>by
    by_cases e:j=k
    ·subst e;exact d
    ·exact c j (by omega)⟩ (by omega) ⟨rfl,rfl,trivial⟩
 ·have u:k=0:=by have:=of_decide_eq_false f;omega
  exact ζr func242 ϱ ⟨X0 (XfK (p:=id) (λj s=>by rw[L9,c j (by omega)];rfl)).symm,rfl⟩
theorem Xbl(l:IL)(i:Nat)(v:Int)(w:World)(h:Bi w l)(hi:i<l.x.length):Xf prog 263 #[Xn l,.int .i64 i,.int .i64 v] w
 (λu w'=>∃l':IL,u=Xn l'/\l'.x=l.x.set i v/\Bi w' l'/\Xc Xe w w'/\E1 w l.a l'.a):=by
 obtain⟨a,cap,x⟩:=l;have G:=h.len;have j:=h.rd;simp only at G j hi
 show Xf prog 263 #[.slice a x.length cap,.int .i64 i,.int .i64 v] w _
 have L:maxLen=9223372036854775807:=rfl;obtain⟨b,off,rfl,R⟩:=j i hi;refine ζe func263 ntmps263 ϱ (Xa.buildSlice Xb rfl λH I e3 o c M=>ζa ϱ ?_);have p:Xl w.heap.size 3 1 I (.slice (some ⟨H,0,none⟩) 0 0) 0 []:=Xl.empty (by omega) o;refine Xa.append (base:=w.heap.size) (xs:=[]) (news:=x.map (Value.int .i64)) Xb rfl p c.size (by simp) (j.chg c).cells Ij (by simp only;omega) λS J q r N=>ζa ϱ ?_;have s:=p.since c (XE _) r;obtain⟨g,k,cur,rfl,t,y,A,O,B⟩:=q.form (by omega);have d:cur.toList=x.map (Value.int .i64)++cur.toList.drop x.length:=by
  have e:=XZ x.length cur.toList;rw[show cur.toList.take x.length=x.map (Value.int .i64) from by simpa using B] at e;exact e.symm
 obtain⟨rest,f⟩:∃rest,rest=cur.toList.drop x.length:=⟨_,rfl⟩;rw[<-f] at d;have m:J.heap[g]?=some (.cells (x.map (Value.int .i64)++rest).toArray 3 (0,0)):=by rw[<-d];exact y
 have C:0+x.length=x.length:=by omega
 rw[C] at A⊢;refine ζi i ϱ (ζS ϱ m (show Yd (x.map (Value.int .i64)++rest) (0+i) [.int .i64 v]=some ((x.set i v).map (Value.int .i64)++rest) from by rw[XS,J6 _ _ _ (by simp;omega),YW _ _ (by simpa using hi),YD]) ϱ λK n D P=>?_);have E:Xc Xe w K:=s.since D (λz T Q=>by omega);have F:(x.set i v).length=x.length:=by simp
 exact ζr func263 ϱ ⟨⟨some ⟨g,0,none⟩,k,x.set i v⟩,by show _=Value.slice _ (x.set i v).length _;rw[F],rfl,⟨Rd.of_take n (by simp),by simp only;omega⟩,E,.inr ⟨g,0,rfl,t⟩⟩
theorem Xft(l:IL)(who:Int)(w:World)(h:Bi w l):Xf prog 246 #[Xn l,.int .i64 who] w
 (λv w'=>∃l':IL,v=.tuple #[Xn l',.int .i64 (Cs l.x who),.int .i64 (C1 l.x who)]/\l'.x=Z5 l.x who/\Bi w' l'/\Xc Xe w w'/\E1 w l.a l'.a):=by
 refine ζe func246 ntmps246 ϱ (ζg ϱ (λg=>?_) λg=>?_)
 ·have d:=of_decide_eq_true g;have a:C1 l.x who=1:=by unfold C1;rw[if_pos d]
  have b:Cs l.x who=0:=by unfold Cs;rw[a];rfl
  have c:Z5 l.x who=l.x:=by unfold Z5;rw[a];rfl
  rw[a,b,c];exact ζq rfl func246 (.tmp rfl (.tmp rfl (.tmp rfl .nil))) ⟨l,rfl,rfl,h,Xc.refl _ _,.inl rfl⟩
 have d:=of_decide_eq_false g;refine ζw (Ro l w h) ϱ (ζg ϱ (λi=>?_) λi=>?_)
 ·have e:=of_decide_eq_true i;have a:C1 l.x who=5:=by unfold C1;rw[if_neg d,if_pos e]
  have b:Cs l.x who=0:=by unfold Cs;rw[a];rfl
  have c:Z5 l.x who=l.x:=by unfold Z5;rw[a];rfl
  rw[a,b,c];exact ζq rfl func246 (.tmp rfl (.tmp rfl (.tmp rfl .nil))) ⟨l,rfl,rfl,h,Xc.refl _ _,.inl rfl⟩
 have e:=of_decide_eq_false i;have a:C1 l.x who=0:=by unfold C1;rw[if_neg d,if_neg e]
 have b:Cs l.x who=Yf l.x:=by unfold Cs;rw[a];rfl
 have c:Z5 l.x who=l.x.set (Yf l.x).toNat who:=by unfold Z5;rw[a];rfl
 obtain⟨f,q⟩:=T5 e;rw[a,b,c];obtain⟨k,j⟩:=XD (show 0<=Yf l.x by omega);rw[j];rw[j] at f;refine ζc ϱ (Xbl l k who w h f) ?_;rintro _ r ⟨l',rfl,n,o,p,m⟩;exact ζa ϱ (ζq rfl func246 (.tmp rfl (.tmp rfl (.tmp rfl .nil))) ⟨l',rfl,n,o,p,m⟩)
theorem XkL(l:IL)(i:Int)(w:World)(h:Bi w l):Xf prog 248 #[Xn l,.int .i64 i] w
 (λv w'=>∃l':IL,v=.tuple #[Xn l',.int .i64 (Qx l.x i)]/\l'.x=Z7 l.x i/\Bi w' l'/\Xc Xe w w'/\E1 w l.a l'.a):=by
 have g:∀e:Int,Qx l.x i=e->e≠0->Z7 l.x i=l.x:=λe f d=>by unfold Z7;rw[f,if_neg d]
 obtain⟨a,cap,x⟩:=l;have n:=h.rd;have k:=h.len;simp only at n g k
 show Xf prog 248 #[.slice a x.length cap,.int .i64 i] w (λv w'=>∃l':IL,v=.tuple #[Xn l',.int .i64 (Qx x i)]/\l'.x=Z7 x i/\Bi w' l'/\Xc Xe w w'/\E1 w a l'.a)
 refine ζe func248 ntmps248 ϱ (ζg ϱ (λm=>?_) λm=>?_)
 ·have p:=of_decide_eq_true m;have c:Qx x i=1:=by unfold Qx;rw[if_pos (by omega)]
  rw[c,g 1 c (by decide)];exact ζr func248 ϱ ⟨⟨a,cap,x⟩,rfl,rfl,h,Xc.refl _ _,.inl rfl⟩
 have p:=of_decide_eq_false m;refine ζg ϱ (λf=>?_) λf=>?_
 ·have q:=of_decide_eq_true f;have c:Qx x i=1:=by unfold Qx;rw[if_pos (by omega)]
  rw[c,g 1 c (by decide)];exact ζr func248 ϱ ⟨⟨a,cap,x⟩,rfl,rfl,h,Xc.refl _ _,.inl rfl⟩
 have q:=of_decide_eq_false f;obtain⟨i,rfl⟩:=XD (show 0<=i by omega);have j:Z4 x (i:Int)=x.getD i (-1):=by unfold Z4;rw[if_pos (by omega)];rfl
 obtain⟨b,off,rfl,r⟩:=n.atm (i:=i) (by omega);refine ζi i ϱ (ζk ϱ r ϱ ?_);by_cases d:x.getD i (-1)=-1
 ·have c:Qx x i=9:=by unfold Qx;rw[if_neg (by omega),if_pos (by rw[j];exact d)]
  rw[c];exact ζY ϱ (show(x.getD i (-1) == -1)=true by rw[d];rfl) (ζr func248 ϱ ⟨⟨_,cap,x⟩,rfl,(g 9 c (by decide)).symm,h,Xc.refl _ _,.inl rfl⟩)
 ·have c:Qx x i=0:=by unfold Qx;rw[if_neg (by omega),if_neg (by rw[j];exact d)]
  have s:Z7 x i=x.set i (-1):=by unfold Z7;rw[c];rfl
  rw[c];refine ζF ϱ (show(x.getD i (-1) == -1)=false by simpa using d) (ζc ϱ (Xbl ⟨_,cap,x⟩ i (-1) w h (show i<x.length by omega)) ?_);rintro _ y ⟨l',rfl,t,k,u,o⟩;exact ζa ϱ (ζr func248 ϱ ⟨l',rfl,by rw[t];exact s.symm,k,u,o⟩)
theorem XkN(l:IL)(i who:Int)(w:World)(h:Bi w l):Xf prog 238 #[Xn l,.int .i64 i,.int .i64 who] w
 (λv w'=>∃l':IL,v=.tuple #[Xn l',.int .i64 (Ak l.x i who)]/\l'.x=Bp l.x i who/\Bi w' l'/\Xc Xe w w'/\E1 w l.a l'.a):=by
 have f:∀e:Int,Ak l.x i who=e->e≠0->Bp l.x i who=l.x:=λe g d=>by unfold Bp;rw[g,if_neg d]
 obtain⟨a,cap,x⟩:=l;have o:=h.rd;have m:=h.len;simp only at o f m
 show Xf prog 238 #[.slice a x.length cap,.int .i64 i,.int .i64 who] w (λv w'=>∃l':IL,v=.tuple #[Xn l',.int .i64 (Ak x i who)]/\l'.x=Bp x i who/\Bi w' l'/\Xc Xe w w'/\E1 w a l'.a)
 refine ζe func238 ntmps238 ϱ (ζg ϱ (λn=>?_) λn=>?_)
 ·have q:=of_decide_eq_true n;have c:Ak x i who=1:=by unfold Ak;rw[if_pos (by omega)]
  rw[c,f 1 c (by decide)];exact ζr func238 ϱ ⟨⟨a,cap,x⟩,rfl,rfl,h,Xc.refl _ _,.inl rfl⟩
 have q:=of_decide_eq_false n;refine ζg ϱ (λg=>?_) λg=>?_
 ·have r:=of_decide_eq_true g;have c:Ak x i who=1:=by unfold Ak;rw[if_pos (by omega)]
  rw[c,f 1 c (by decide)];exact ζr func238 ϱ ⟨⟨a,cap,x⟩,rfl,rfl,h,Xc.refl _ _,.inl rfl⟩
 have r:=of_decide_eq_false g;refine ζg ϱ (λj=>?_) λj=>?_
 ·have gw:=of_decide_eq_true j;have c:Ak x i who=1:=by unfold Ak;rw[if_pos (by omega)]
  rw[c,f 1 c (by decide)];exact ζr func238 ϱ ⟨⟨a,cap,x⟩,rfl,rfl,h,Xc.refl _ _,.inl rfl⟩
 have gw:=of_decide_eq_false j;obtain⟨i,rfl⟩:=XD (show 0<=i by omega);have k:Z4 x (i:Int)=x.getD i (-1):=by unfold Z4;rw[if_pos (by omega)];rfl
 obtain⟨b,off,rfl,s⟩:=o.atm (i:=i) (by omega);refine ζi i ϱ (ζk ϱ s ϱ ?_);by_cases d:x.getD i (-1)=-1
 ·have c:Ak x i who=9:=by unfold Ak;rw[if_neg (by omega),if_pos (by rw[k];exact d)]
  rw[c];exact ζY ϱ (show(x.getD i (-1) == -1)=true by rw[d];rfl) (ζr func238 ϱ ⟨⟨_,cap,x⟩,rfl,(f 9 c (by decide)).symm,h,Xc.refl _ _,.inl rfl⟩)
 ·have c:Ak x i who=0:=by unfold Ak;rw[if_neg (by omega),if_neg (by rw[k];exact d)]
  have t:Bp x i who=x.set i who:=by unfold Bp;rw[c];rfl
  rw[c];refine ζF ϱ (show(x.getD i (-1) == -1)=false by simpa using d) (ζc ϱ (Xbl ⟨_,cap,x⟩ i who w h (show i<x.length by omega)) ?_);rintro _ z ⟨l',rfl,u,m,y,p⟩;exact ζa ϱ (ζr func238 ϱ ⟨l',rfl,by rw[u];exact t.symm,m,y,p⟩)
variable {l':IL}{ps:List IL}
def Yj(w:World)(a:Option Addr):Prop:=∀b off s,a=some ⟨b,off,s⟩->b<w.heap.size
def Ck(w:World)(a:Option Addr):Prop:=∀b off s,a=some ⟨b,off,s⟩->w.heap.size<=b
structure A8(w:World)(l:IL):Prop where
 ok:Bi w l
 cap:l.x.length<=l.cap
 lt:Yj w l.a
theorem Yj.grow(h:Yj w a)(hs:w.heap.size<=w'.heap.size):Yj w' a:=λb off s e=>by have:=h b off s e;omega
theorem A8.grow{w w':World}{l:IL}(h:A8 w l)(hc:Xc Xe w w'):A8 w' l:=⟨h.ok.grow hc,h.cap,h.lt.grow hc.size⟩
theorem A8.far{w w':World}{l:IL}{S:Nat->Prop}(h:A8 w l)(hs:Xj S l.a)(hc:Xc S w w'):A8 w' l:=⟨h.ok.far hs hc,h.cap,h.lt.grow hc.size⟩
theorem Yj.out(h:Yj w a)(hs:∀z,S z->w.heap.size<=z):Xj S a:=λb off s e c=>by
 have:=h b off s e;have:=hs b c;omega
theorem Ck.out(h:Ck w a)(hs:∀z,S z->z<w.heap.size):Xj S a:=λb off s e c=>by
 have:=h b off s e;have:=hs b c;omega
theorem Ck.back(h:Ck w' a)(hs:w.heap.size<=w'.heap.size):Ck w a:=λb off s e=>by have:=h b off s e;omega
theorem Rd.cellsA{k:IntKind}{x:List Int}(h:Rd k w a x):∀i u,(x.map (Value.int k))[i]?=some u -> ∃a',a=some a'/\w.cell? (a'.add i)=some u:=λi u c=>by
 have hi:i<x.length:=by have:=(List.getElem?_eq_some_iff.1 c).1;simpa using this
 obtain⟨b,off,rfl,_⟩:=h i hi;exact⟨_,rfl,h.cells i u c⟩
theorem Rd.noneA{x:List Int}{k:IntKind}(h:Rd k w a x):a=none->x.length=0:=λe=>by
 cases x with
 |nil=>rfl
 |cons z r=>
  obtain⟨b,off,e',_⟩:=h 0 (by simp);rw[e] at e';cases e'
theorem Xl.il{m:Nat}{x:List Int}(h:Xl base 3 1 w v m (x.map (Value.int .i64)))(hm:x.length=m)(hx:x.length<=512):∃l:IL,v=Xn l/\l.x=x/\A8 w l/\∀b off s,l.a=some ⟨b,off,s⟩->base<=b:=by
 rcases h.2 with⟨rfl,j⟩|⟨g,cap,cur,rfl,f,c,a,i,_,d⟩
 ·have:x=[]:=List.length_eq_zero_iff.1 (by omega);subst this;exact⟨⟨none,0,[]⟩,rfl,rfl,⟨⟨Rd.nil _ _ _,hx⟩,XE _,(by intro b off s e;cases e)⟩,(by intro b off s e;cases e)⟩
 ·subst hm;exact⟨⟨some ⟨g,0,none⟩,cap,x⟩,rfl,rfl,⟨⟨Rd.of_take c (by simpa using d),hx⟩,a,(by intro b off s e;cases e;exact Xg c)⟩,(by intro b off s e;cases e;exact f)⟩
theorem Xl.one{t:TypeId}{u:Value}(hb:base<=b)(h:w.heap[b]?=some (.cells #[u] t (0,0))):Xl base t 1 w (.slice (some ⟨b,0,none⟩) 1 1) 1 [u]:=
 ⟨by simp,.inr ⟨b,1,#[u],rfl,hb,h,XE _,by decide,by simp,by simp⟩⟩
structure RP where
 o:IL
 f:IL
def Cu(r:RP):List Value:=[Xn r.o,Xn r.f]
structure Q4(w:World)(r:RP)(pl:PlM):Prop where
 o:A8 w r.o
 f:A8 w r.f
 eo:r.o.x=pl.own
 ef:r.f.x=pl.free.map (λn:Nat=>(n:Int))
theorem Q4.grow{w w':World}{r:RP}{pl:PlM}(h:Q4 w r pl)(hc:Xc Xe w w'):Q4 w' r pl:=⟨h.o.grow hc,h.f.grow hc,h.eo,h.ef⟩
theorem Xfs(o f:IL)(i:Nat)(v:Int)(w:World)(h:A8 w o)(hf:A8 w f)(hi:i<o.x.length):Xf prog 240 #[.agg (Cu ⟨o,f⟩).toArray,.int .i64 i,.int .i64 v] w
 (λu w'=>∃l':IL,u=.agg (Cu ⟨l',f⟩).toArray/\l'.x=o.x.set i v/\A8 w' l'/\Ck w l'.a/\Xc Xe w w'):=by
 obtain⟨a,cap,x⟩:=o;have hl:=h.ok.len;have A:=h.ok.rd;simp only at hl A hi
 have a8:maxLen=9223372036854775807:=rfl;obtain⟨b,off,rfl,hc⟩:=A i hi;refine ζe func240 ntmps240 ϱ (ζn ϱ λpb w1 e1 d c a9=>ζn ϱ λqb M e2 N j aa=>?_);replace d:w1.heap[pb]?=some (.cells ([.slice (some ⟨b,off,none⟩) x.length cap,Xn f]:List Value).toArray 34 (0,0)):=d;refine Xa.buildSlice Xb rfl λb3 w3 e3 O k ab=>ζa ϱ ?_;have l:=j.trans k;have B:=c.trans l;refine ζl (l.heap' d) ϱ ?_;have P:Xl M.heap.size 3 1 w3 (.slice (some ⟨b3,0,none⟩) 0 0) 0 []:=Xl.empty (by omega) O;refine Xa.appendA (base:=M.heap.size) (xs:=[]) (news:=x.map (Value.int .i64)) Xb rfl P k.size (λe=>by cases e) (by simp) (A.chg B).cellsA Ij (by simp only;omega) λv4 w4 Q R ac=>ζa ϱ ?_;have m:=P.since k (XE _) R;obtain⟨g,C,cur,rfl,ad,S,T,ae,U⟩:=Q.form (by omega);have n:cur.toList=x.map (Value.int .i64)++cur.toList.drop x.length:=by
  have e:=XZ x.length cur.toList;rw[show cur.toList.take x.length=x.map (Value.int .i64) from by simpa using U] at e;exact e.symm
 obtain⟨rest,r⟩:∃rest,rest=cur.toList.drop x.length:=⟨_,rfl⟩;rw[<-r] at n;have D:w4.heap[g]?=some (.cells (x.map (Value.int .i64)++rest).toArray 3 (0,0)):=by rw[<-n];exact S
 have V:0+x.length=x.length:=by omega
 rw[V] at T⊢;refine ζi i ϱ (ζS ϱ D (show Yd (x.map (Value.int .i64)++rest) (0+i) [.int .i64 v]=some ((x.set i v).map (Value.int .i64)++rest) from by rw[XS,J6 _ _ _ (by simp;omega),YW _ _ (by simpa using hi),YD]) ϱ λw5 E p af=>?_);have W:(x.set i v).length=x.length:=by simp
 have F:=p.heap (m.heap' (j.heap' d)) (show ¬pb=g by omega);have G:=p.heap (m.heap' N) (show ¬qb=g by omega);refine ζs F ϱ λw6 H q ag=>ζl H ϱ ?_;have I:=q.heap G (by omega);refine ζs I ϱ λw7 J t ah=>?_;have y:=t.heap (q.heap E (by omega)) (by omega);have K:Xc Xe w w5:=((c.trans j).trans m).since p (λz hz e=>by have:=c.size;omega);have L:Xc Xe w w7:=(K.since q (λz hz e=>by omega)).since t (λz hz e=>by have:=c.size;omega);exact ζR func240 J ϱ ⟨⟨some ⟨g,0,none⟩,C,x.set i v⟩,by show _=Value.agg [Value.slice _ (x.set i v).length _,_].toArray;rw[W];rfl,rfl,⟨⟨Rd.of_take y (by simp),by simp only;omega⟩,by simp only;omega,(by intro b off s e;cases e;exact Xg y)⟩,(by intro b off s e;cases e;have:=c.size;omega),L⟩
def IL.sl(l:IL)(lo hi:Nat):IL:=⟨Q6 l.a l.cap lo 1,l.cap-lo,(l.x.drop lo).take (hi-lo)⟩
theorem XbI{l:Nat}{s:Option Nat}(h:Q6 a cap l sz=some ⟨b,off,s⟩):∃off' s',a=some ⟨b,off',s'⟩:=by
 unfold Q6 at h;by_cases c:cap=l
 ·rw[if_pos c] at h;exact⟨off,s,h⟩
 ·rw[if_neg c] at h;cases a with
  |none=>cases h
  |some x=>
   obtain⟨xb,xo,xs⟩:=x;simp only[QO,Option.some.injEq] at h;unfold Addr.add at h;refine⟨xo,xs,?_⟩;have d:xb=b:=by split at h <;> (cases h;rfl)
   rw[d]
theorem IL.sl_out{l:IL}{hi:Nat}(h:Xj S l.a):Xj S (l.sl lo hi).a:=λb off s e=>by
 obtain⟨off',s',e'⟩:=XbI e;exact h b off' s' e'
theorem A8.sl{l:IL}(h:A8 w l){hi:Nat}(h1:lo<=hi)(h2:hi<=l.x.length):A8 w (l.sl lo hi)/\(l.sl lo hi).x.length=hi-lo:=by
 have a:((l.x.drop lo).take (hi-lo)).length=hi-lo:=by rw[XU,ZY];omega
 have c:=h.cap;have d:=h.ok.len;refine⟨⟨⟨h.ok.rd.shift (by omega) c,by show((l.x.drop lo).take (hi-lo)).length<=512;omega⟩,by show((l.x.drop lo).take (hi-lo)).length<=l.cap-lo;omega,λb off s e=>?_⟩,a⟩;obtain⟨off',s',e'⟩:=XbI e;exact h.lt b off' s' e'
theorem Xiy(y:List Int)(z:Int):((z::y).drop 1).take ((z::y).length-1)=y:=by simp
theorem XkK(r:RP)(who:Int)(pl:PlM)(w:World)(h:Q4 w r pl)(hw0:0<=who)(hf:pl.free=[]):Xf prog 203 #[.agg (Cu r).toArray,.int .i64 who] w (Grow (.tuple #[.agg (Cu r).toArray,.int .i64 0,.int .i64 5]) w):=by
 have f:r.f.x.length=0:=by rw[h.ef,hf];rfl
 refine ζe func203 ntmps203 ϱ (ζn ϱ λpb n e1 g b k=>ζn ϱ λqb o e2 i c l=>?_);have a:=c.heap' g;refine ζf ϱ (ζl a ϱ (ζY ϱ (by rw[f];rfl) (ζl a ϱ (ζs i ϱ λp d j m=>?_))));exact ζR func203 d ϱ ⟨rfl,(b.trans c).since j (λz q e=>by have:=b.size;omega)⟩
theorem Xfr(r:RP)(who:Int)(pl:PlM)(n:Nat)(t:List Nat)(w:World)(h:Q4 w r pl)(hg:pl.Good)(hw0:0<=who)(hf:pl.free=n::t):Xf prog 203 #[.agg (Cu r).toArray,.int .i64 who] w
 (λv w'=>∃l:IL,v=.tuple #[.agg (Cu ⟨l,r.f.sl 1 r.f.x.length⟩).toArray,.int .i64 n,.int .i64 0]/\Q4 w' ⟨l,r.f.sl 1 r.f.x.length⟩ (pl.take who)/\Ck w l.a/\Xc Xe w w'):=by
 obtain⟨o,f⟩:=r;have b:=h.ef;rw[hf] at b;simp only[ZB] at b;have B:f.x.length=t.length+1:=by rw[b];simp
 obtain⟨U,_⟩:=hg.free n (by rw[hf];simp);have J:n<o.x.length:=by have:=h.eo;simp only at this;rw[this];exact U
 have g:=h.f;simp only at g
 have F:=g.cap;obtain⟨fb,foff,C,i⟩:=g.ok.rd 0 (by omega);have K:f.x.getD 0 0=n:=by rw[b];rfl
 rw[K] at i;obtain⟨fa,fcap,fx⟩:=f;simp only at C i b B F
 subst C;refine ζe func203 ntmps203 ϱ (ζn ϱ λpb V e1 k L a0=>ζn ϱ λqb W e2 M D a1=>?_);replace k:V.heap[pb]?=some (.cells ([Xn o,.slice (some ⟨fb,foff,none⟩) fx.length fcap]:List Value).toArray 34 (0,0)):=k;have c:=D.heap' k;have a:=L.trans D;refine Xa.no Xb rfl (decide_eq_false (by omega)) rfl ?_;refine Xa.loadb Xb rfl c rfl rfl ?_;refine Xa.no Xb rfl (by rw[B];simp;omega) rfl ?_;refine Xa.loadb Xb rfl c rfl rfl ?_;refine Xa.index Xb rfl (j:=0) (by omega) (by omega) (by first|rfl|omega|(simp;done)|(simp;omega)) rfl ?_;refine ζk ϱ (a.cell i id) ϱ (ζl c ϱ (ζc ϱ (Xfs o ⟨some ⟨fb,foff,none⟩,fcap,fx⟩ n who W (h.o.grow a) (g.grow a) J) ?_));rintro _ w3 ⟨l,rfl,N,O,E,m⟩;refine ζa ϱ ?_;refine ζn ϱ λtb w4 e4 P Q a2=>ζs P ϱ λw5 G R a3=>?_;have p:=Q.since R (λz A e=>by omega);refine ζl (p.heap' (m.heap' c)) ϱ (Xa.slice Xb rfl (l:=1) (h:=fx.length) (by first|rfl|omega|simp[B7]) (by first|rfl|omega|simp[B5]) (by omega) (by omega) rfl (ζs G ϱ λw6 q S a4=>?_));have d:=p.since S (λz A e=>by omega);obtain⟨s,H⟩:=g.sl (lo:=1) (hi:=fx.length) (by omega) (XE _);obtain⟨f',u⟩:∃f':IL,f'=(⟨some ⟨fb,foff,none⟩,fcap,fx⟩:IL).sl 1 fx.length:=⟨_,rfl⟩;have T:Xn f'=.slice (Q6 (some ⟨fb,foff,none⟩) fcap 1 1) (fx.length-1) (fcap-1):=by rw[u];show Value.slice _ ((fx.drop 1).take (fx.length-1)).length _=_;rw[XU,ZY,Nat.min_self];rfl
 rw[<-T] at q;rw[<-u] at s H⊢;refine ζl q ϱ ?_;have x:=(a.trans m).trans d;have ee:pl.take who=⟨pl.own.set n who,t⟩:=by unfold PlM.take;rw[hf]
 exact ζs (d.heap' (m.heap' M)) ϱ λw7 I y a5=>ζR func203 I ϱ ⟨l,rfl,⟨((O.grow d).far (E.out (λz A=>by omega)) y),((s.grow x).far (s.lt.out (λz A=>by omega)) y),by rw[ee];show l.x=pl.own.set n who;rw[N];have:=h.eo;simp only at this;rw[this],by rw[ee,u];show(fx.drop 1).take (fx.length-1)=t.map _;rw[b];exact Xiy _ _⟩,E.back a.size,x.since y (λz A e=>by omega)⟩
theorem Xbk(r:RP)(n:Nat)(pl:PlM)(w:World)(h:Q4 w r pl)(hg:pl.Good)(hn:n<pl.own.length)(ho:pl.own.getD n 0≠-1):Xf prog 206 #[.agg (Cu r).toArray,.int .i64 n] w
 (λv w'=>∃r',v=.tuple #[.agg (Cu r').toArray,.int .i64 0]/\Q4 w' r' (pl.give n)/\Ck w r'.o.a/\Ck w r'.f.a/\Xc Xe w w'):=by
 obtain⟨o,f⟩:=r;have c:=h.eo;have m:=h.ef;simp only at c m
 have C:=h.o.ok.len;have U:=h.f.ok.len;simp only at C U
 have p:n<o.x.length:=by rw[c];exact hn
 have af:=(hg.give hn ho).many;have a9:f.x.length=pl.free.length:=by rw[m];simp
 have ag:f.x.length+1<=512:=by
  have e1:(pl.give n).free.length=pl.free.length+1:=rfl;have e2:(pl.give n).own.length=pl.own.length:=by show(pl.own.set n (-1)).length=_;simp
  have e3:o.x.length=pl.own.length:=by rw[c]
  omega
 have M:=h.o;simp only at M
 obtain⟨ob,ooff,D,E⟩:=M.ok.rd n p;have F:o.x.getD n 0≠-1:=by rw[c];exact ho
 have ah:maxLen=9223372036854775807:=rfl;obtain⟨oa,ocap,ox⟩:=o;simp only at D E C p F c
 subst D;refine ζe func206 ntmps206 ϱ (ζn ϱ λpb w1 e1 q V ai=>ζn ϱ λqb W e2 a0 G aj=>?_);replace q:w1.heap[pb]?=some (.cells ([.slice (some ⟨ob,ooff,none⟩) ox.length ocap,Xn f]:List Value).toArray 34 (0,0)):=q;have d:=G.heap' q;have a:=V.trans G;refine Xa.no Xb rfl (decide_eq_false (by omega)) rfl ?_;refine Xa.loadb Xb rfl d rfl rfl ?_;refine Xa.no Xb rfl (decide_eq_false (by omega)) rfl ?_;refine ζl d ϱ (ζi n ϱ (ζk ϱ (a.cell E id) ϱ (ζF ϱ (by simpa using F) (ζl d ϱ (ζc ϱ (Xfs ⟨some ⟨ob,ooff,none⟩,ocap,ox⟩ f n (-1) W (M.grow a) (h.f.grow a) p) ?_)))));rintro _ w3 ⟨l,rfl,a1,a2,H,g⟩;have I:=a.size;have ak:=g.size;refine ζa ϱ (ζn ϱ λtb w4 e4 a3 a4 al=>ζs a3 ϱ λN O a5 am=>?_);have i:=a4.since a5 (λz t e=>by omega);refine Xa.buildSlice Xb rfl λb6 w6 e6 a6 k an=>ζa ϱ ?_;refine ζl (k.heap' (i.heap' (g.heap' d))) ϱ ?_;have J:Xl N.heap.size 3 1 w6 (.slice (some ⟨b6,0,none⟩) 1 1) 1 [.int .i64 n]:=Xl.one (by omega) a6;have u:=h.f.ok.rd;simp only at u
 refine Xa.appendA (base:=N.heap.size) (xs:=[.int .i64 n]) (news:=f.x.map (Value.int .i64)) Xb rfl J k.size u.noneA (by simp) (u.chg (((a.trans g).trans i).trans k)).cellsA Ij (by simp only;omega) λv7 w7 a7 a8 ao=>ζa ϱ ?_;have y:=J.since k (XE _) a8;obtain⟨fl,P,Q,R,A⟩:=Xl.il (x:=(n:Int)::f.x) (show Xl N.heap.size 3 1 w7 v7 (1+f.x.length) (((n:Int)::f.x).map (Value.int .i64)) from a7) (by simp;omega) (by simp;omega);subst P;refine ζs (y.heap' O) ϱ λw8 S K ap=>ζl S ϱ ?_;have j:=(i.trans y).since K (λz t e=>by omega);refine ζs (j.heap' (g.heap' a0)) ϱ λw9 T B aq=>?_;have L:Ck W fl.a:=λb off s e=>by have:=A b off s e;omega
 exact ζR func206 T ϱ ⟨⟨l,fl⟩,rfl,⟨((a2.grow j).far (H.out (λz t=>by omega)) B),((R.far (by intro b off s e t;have:=A b off s e;omega) K).far (L.out (λz t=>by omega)) B),by show l.x=pl.own.set n (-1);rw[a1,<-c],by show fl.x=(n::pl.free).map _;rw[Q,m];rfl⟩,H.back I,L.back I,((a.trans g).trans j).since B (λz t e=>by omega)⟩
theorem Xl.isSlice{size m:Nat}(h:Xl base t size w v m xs):∃a n c,v=.slice a n c:=by
 rcases h.2 with⟨h,_⟩|⟨g,cap,cur,h,_⟩
 ·exact⟨_,_,_,h⟩
 ·exact⟨_,_,_,h⟩
theorem Xkv(i:Nat):((List.range (i+1)).map (λn:Nat=>(n:Int))).map (Value.int .i64)=((List.range i).map (λn:Nat=>(n:Int))).map (Value.int .i64)++[.int .i64 (i:Int)]:=by
 rw[YX,XI,XI];rfl
theorem XkJ(N:Nat)(w:World)(hN:1<=N/\N<=512):Xf prog 147 #[.int .i64 N] w
 (λv w'=>∃r,v=.tuple #[.agg (Cu r).toArray,.int .i64 0]/\Q4 w' r (Dg N)/\Ck w r.o.a/\Ck w r.f.a/\Xc Xe w w'):=by
 have ap:maxLen=9223372036854775807:=rfl;refine ζe func147 ntmps147 ϱ (ζn ϱ λqb w1 e1 aa t aq=>ζn ϱ λtb q e2 ab S ar=>?_);have W:=t.trans S;refine ζf ϱ (ζf ϱ ?_);refine Xa.loop (α:=Nat×Value×Value) (λp=>[(0,false,.int .i64 N),(2,false,.pointer (some ⟨qb,0,none⟩)),(4,false,.pointer (some ⟨tb,0,none⟩)),(5,false,.int .i64 p.1)])
  (λp w'=>p.1<=N/\w'.heap[tb]?=some (.cells ([p.2.1,p.2.2]:List Value).toArray 34 (0,0))/\Xl q.heap.size 3 1 w' p.2.1 p.1 ((List.replicate p.1 (-1)).map (Value.int .i64))/\Xl q.heap.size 3 1 w' p.2.2 p.1 (((List.range p.1).map (λn:Nat=>(n:Int))).map (Value.int .i64))/\(∀b,some b=p.2.1.ownBlock->some b≠p.2.2.ownBlock)/\Xc (λz=>z=tb) q w')
  (λp=>N-p.1) (0,.slice none 0 0,.slice none 0 0) ⟨rfl,rfl,rfl,rfl,trivial⟩ ⟨XL _,ab,World.ownsRow_nil _ _ _ _,World.ownsRow_nil _ _ _ _,(λb h=>by cases h),Xc.refl _ _⟩ ?_
 rintro⟨i,vo,vf⟩ w3 ⟨hi,c,u,y,A,k⟩ ih;simp only at hi c u y A
 have aj:=k.size;refine ζa ϱ (ζg ϱ (λhc=>?_) λhc=>?_)
 ·have ac:i<N:=by have:=of_decide_eq_true hc;omega
  refine ζl c ϱ (Xa.buildSlice Xb rfl λb4 w4 e4 ad l ae=>ζa ϱ ?_);have d:=u.chg l (λ_ _ h=>h);have B:=y.chg l (λ_ _ h=>h);refine Xa.append (base:=q.heap.size) (xs:=(List.replicate i (-1)).map (Value.int .i64)) (news:=[.int .i64 (-1)]) Xb rfl d (by omega) (by simp) (Gl ad) (by simp[Value.oneCell']) (by simp only;omega) ?_;intro vo' w5 f m af;obtain⟨C,D,E,rfl⟩:=Xl.isSlice f;have au:=m.size;have F:=B.chg m (λb a e=>A b e a);refine ζa ϱ (ζs (m.heap (l.heap' c) (λe=>by have:=(World.ownsRow.lt d tb (Eq.symm e)).1;omega)) ϱ λw6 G H av=>?_);have I:∀b,some b=(Value.slice C D E).ownBlock->some b≠vf.ownBlock:=λb a e=>by
   rcases af.2 with h|h
   ·exact A b (a.trans h) e
   ·rw[h] at a;have e1:=Option.some.inj a;have:=(World.ownsRow.lt B b e.symm).2;omega
  refine ζl G ϱ (Xa.buildSlice Xb rfl λb7 w7 e7 ag o aw=>ζa ϱ ?_);have J:=(f.chg H (λb a e=>by have:=(World.ownsRow.lt f b a.symm).1;omega)).chg o (λ_ _ h=>h);have g:=(F.chg H (λb a e=>by have:=(World.ownsRow.lt F b a.symm).1;omega)).chg o (λ_ _ h=>h);refine Xa.append (base:=q.heap.size) (xs:=((List.range i).map (λn:Nat=>(n:Int))).map (Value.int .i64)) (news:=[.int .i64 (i:Int)]) Xb rfl g (by omega) (by simp) (Gl ag) (by simp[Value.oneCell']) (by simp only;omega) ?_;intro vf' w8 j K ah;obtain⟨T,U,V,rfl⟩:=Xl.isSlice j;have L:=J.chg K (λb a e=>I b a e);refine ζa ϱ (ζs (K.heap (o.heap' G) (λe=>by have:=(World.ownsRow.lt g tb (Eq.symm e)).1;omega)) ϱ λw9 a1 M ax=>?_);have a2:∀b,some b=(Value.slice C D E).ownBlock->some b≠(Value.slice T U V).ownBlock:=λb a e=>by
   rcases ah.2 with h|h
   ·exact I b a (e.trans h)
   ·rw[h] at e;have e1:=Option.some.inj e;have:=(World.ownsRow.lt J b a.symm).2;omega
  have hS:Xc (λz=>z=tb) q w9:=by
   exact(((((k.trans l.gr).since m (λz O e=>by have:=(World.ownsRow.lt d z (Eq.symm e)).1;omega)).trans H).trans (o.mono (λ_ _ h=>h.elim):Xc (λz=>z=tb) w6 w7)).since K (λz O e=>by have:=(World.ownsRow.lt g z (Eq.symm e)).1;omega)).trans M
  refine ζj ϱ ?_;exact ih (i+1,.slice C D E,.slice T U V) _ _ ⟨ac,a1,by
   have e:(List.replicate (i+1) (-1:Int)).map (Value.int .i64)=(List.replicate i (-1)).map (Value.int .i64)++[.int .i64 (-1)]:=by rw[List.replicate_succ',XI];rfl
   rw[e];exact(L.chg M (λb a e=>by have:=(World.ownsRow.lt L b a.symm).1;omega)),by rw[Xkv];exact(j.chg M (λb a e=>by have:=(World.ownsRow.lt j b a.symm).1;omega)),a2,hS⟩ (by simp only;omega) ⟨rfl,rfl,rfl,rfl,trivial⟩
 ·have ai:i=N:=by have:=of_decide_eq_false hc;omega
  subst ai;obtain⟨ol,a3,a4,a5,P⟩:=Xl.il (x:=List.replicate i (-1)) u (by simp) (by simp;omega);obtain⟨fl,a6,a7,a8,Q⟩:=Xl.il (x:=(List.range i).map (λn:Nat=>(n:Int))) y (by simp) (by simp;omega);subst a3;subst a6;refine ζl c ϱ ?_;refine ζs (k.heap (S.heap' aa) (show ¬qb=tb by omega)) ϱ λw4 a9 R ae=>?_;exact ζR func147 a9 ϱ ⟨⟨ol,fl⟩,rfl,⟨a5.far (by intro b off s e O;have:=P b off s e;omega) R,a8.far (by intro b off s e O;have:=Q b off s e;omega) R,a4,a7⟩,λb off s e=>by have:=P b off s e;omega,λb off s e=>by have:=Q b off s e;omega,(W.since k (λz O e=>by have:=t.size;omega)).since R (λz O e=>by have:=t.size;omega)⟩
structure RS where
 p:RP
 cls:Int
 blocks:Nat
 nums:IL
 pa:Option Addr
 pcap:Nat
 ps:List IL
 opn:IL
def X3(r:RS):List Value:=[Xn r.p.o,Xn r.p.f,.int .i64 r.cls,.int .i64 (r.blocks:Int),Xn r.nums,.slice r.pa r.ps.length r.pcap,Xn r.opn]
def Dm(w:World)(a:Option Addr)(ps:List IL):Prop:=∀(i:Nat) (l:IL),ps[i]?=some l -> ∃b off,a=some ⟨b,off,none⟩/\w.cell? ⟨b,off+i,none⟩=some (Xn l)
theorem Dm.grow(h:Dm w a ps)(hc:Xc Xe w w'):Dm w' a ps:=λi l d=>by
 obtain⟨b,off,e,c⟩:=h i l d;exact⟨b,off,e,hc.cell c id⟩
theorem Dm.far(h:Dm w a ps)(hs:Xj S a)(hc:Xc S w w'):Dm w' a ps:=λi l d=>by
 obtain⟨b,off,e,c⟩:=h i l d;exact⟨b,off,e,hc.cell c (hs b off none e)⟩
theorem Dm.noneA(h:Dm w a ps):a=none->ps.length=0:=λe=>by
 cases ps with
 |nil=>rfl
 |cons l r=>
  obtain⟨b,off,e',_⟩:=h 0 l rfl;rw[e] at e';cases e'
theorem Dm.cellsA(h:Dm w a ps):∀i u,(ps.map Xn)[i]?=some u -> ∃a',a=some a'/\w.cell? (a'.add i)=some u:=λi u c=>by
 rw[XR,QB] at c;obtain⟨l,d,rfl⟩:=c;obtain⟨b,off,rfl,e⟩:=h i l d;exact⟨_,rfl,by rw[Cl];exact e⟩
theorem Oc:∀u∈ps.map Xn,u.oneCell'=true:=λu a=>by
 obtain⟨l,_,rfl⟩:=List.mem_map.1 a;rfl
theorem Xl.pl{m:Nat}(h:Xl base 22 1 w v m (ps.map Xn))(hm:ps.length=m):∃pa pcap,v=.slice pa ps.length pcap/\Dm w pa ps/\Yj w pa/\ps.length<=pcap/\∀b off s,pa=some ⟨b,off,s⟩->base<=b:=by
 rcases h.2 with⟨rfl,o⟩|⟨g,cap,cur,rfl,k,d,c,n,_,f⟩
 ·have:ps=[]:=List.length_eq_zero_iff.1 (by omega);subst this;exact⟨none,0,rfl,(λi l a=>by simp at a),(by intro b off s e;cases e),XE _,(by intro b off s e;cases e)⟩
 ·subst hm;refine⟨some ⟨g,0,none⟩,cap,rfl,λi l a=>⟨g,0,rfl,?_⟩,(by intro b off s e;cases e;exact Xg d),c,(by intro b off s e;cases e;exact k)⟩;have j:(cur.toList.take ps.length)[i]?=(ps.map Xn)[i]?:=by rw[<-f,ZK]
  rw[YN,if_pos ((List.getElem?_eq_some_iff.1 a).1),XR,a] at j;rw[Yt d,XS,<-Array.getElem?_toList,j];rfl
structure Cg(w:World)(l:IL):Prop where
 ok:Bi w l
 lt:Yj w l.a
theorem Cg.grow{w w':World}{l:IL}(h:Cg w l)(hc:Xc Xe w w'):Cg w' l:=⟨h.ok.grow hc,h.lt.grow hc.size⟩
theorem Cg.far{w w':World}{l:IL}{S:Nat->Prop}(h:Cg w l)(hs:Xj S l.a)(hc:Xc S w w'):Cg w' l:=⟨h.ok.far hs hc,h.lt.grow hc.size⟩
theorem Cg.of{l:IL}(h:Bi w l)(hp:0<l.x.length):Cg w l:=⟨h,λb off s e=>by
 obtain⟨b',off',e',a⟩:=h.rd 0 hp;rw[e] at e';cases e';exact World.block_lt_of_cell? w _ a⟩
theorem E1.outS{a':Option Addr}(h:E1 w a a')(ha:Xj S a)(hs:∀z,S z->z<w.heap.size):Xj S a':=by
 rcases h with rfl|⟨g,off,rfl,d⟩
 ·exact ha
 ·intro b off' s e c;cases e
  have:=hs _ c;omega
structure Y7(w:World)(r:RS)(x:Sm)(pl:PlM):Prop where
 p:Q4 w r.p pl
 nums:A8 w r.nums
 opn:A8 w r.opn
 rp:Dm w r.pa r.ps
 plt:Yj w r.pa
 pcap:r.ps.length<=r.pcap
 each:∀l∈r.ps,Cg w l
 e1:r.cls=x.cls
 e2:r.blocks=x.blocks
 e3:r.nums.x=x.pg.map (λe=>((e.1:Nat):Int))
 e4:r.ps.map (·.x)=x.pg.map (·.2)
 e5:r.opn.x=x.opn.map (λn:Nat=>(n:Int))
structure Z6(S:Nat->Prop)(r:RS):Prop where
 o:Xj S r.p.o.a
 f:Xj S r.p.f.a
 nums:Xj S r.nums.a
 opn:Xj S r.opn.a
 pa:Xj S r.pa
 each:∀l∈r.ps,Xj S l.a
theorem Y7.grow{w w':World}{r:RS}{x:Sm}{pl:PlM}(h:Y7 w r x pl)(hc:Xc Xe w w'):Y7 w' r x pl:=
 ⟨h.p.grow hc,h.nums.grow hc,h.opn.grow hc,h.rp.grow hc,h.plt.grow hc.size,h.pcap,λl a=>(h.each l a).grow hc,h.e1,h.e2,h.e3,h.e4,h.e5⟩
theorem Y7.far{w w':World}{r:RS}{x:Sm}{pl:PlM}{S:Nat->Prop}(h:Y7 w r x pl)(ho:Z6 S r)(hc:Xc S w w'):Y7 w' r x pl:=
 ⟨⟨h.p.o.far ho.o hc,h.p.f.far ho.f hc,h.p.eo,h.p.ef⟩,h.nums.far ho.nums hc,h.opn.far ho.opn hc,h.rp.far ho.pa hc,h.plt.grow hc.size,h.pcap,λl a=>(h.each l a).far (ho.each l a) hc,h.e1,h.e2,h.e3,h.e4,h.e5⟩
theorem Y7.out{w:World}{r:RS}{x:Sm}{pl:PlM}{S:Nat->Prop}(h:Y7 w r x pl)(hs:∀z,S z->w.heap.size<=z):Z6 S r:=
 ⟨h.p.o.lt.out hs,h.p.f.lt.out hs,h.nums.lt.out hs,h.opn.lt.out hs,h.plt.out hs,λl a=>(h.each l a).lt.out hs⟩
def A4(w:World)(r r':RS):Prop:=∀S:Nat->Prop,(∀z,S z->z<w.heap.size)->Z6 S r->Z6 S r'
theorem A4.refl(w:World)(r:RS):A4 w r r:=λ_ _ h=>h
theorem A4.trans{r r1 r2:RS}(h:A4 w r r1)(h':A4 w1 r1 r2)(hs:w.heap.size<=w1.heap.size):A4 w r r2:=λS a b=>
 h' S (λz c=>by have:=a z c;omega) (h S a b)
def Rk(l:List Int)(n:Int):Int:=idx (λm=>m == n) l
theorem T6{l:PgL}{n:Int}:(Zi l n=none/\Rk (l.map λe=>((e.1:Nat):Int)) n=-1)\/∃(i:Nat) (p:List Int) (m:Nat),n=m/\Zi l n=some p/\Rk (l.map λe=>((e.1:Nat):Int)) n=(i:Int)/\i<l.length/\l[i]?=some (m,p):=by
 cases s:Zi l n with
 |none=>
  refine .inl ⟨rfl,Hl (p:=λm=>m == n) λj b=>?_⟩;rw[YM];have t:j<l.length:=by simpa using b
  have:=XbL s l[j] (XK t)
  simpa using this
 |some p=>
  right
  have key:∀{l:PgL},Zi l n=some p -> ∃(i m:Nat),n=m/\i<l.length/\l[i]?=some (m,p)/\∀(j:Nat) (h:j<l.length),j<i->((l[j].1:Nat):Int)≠n:=by
   intro l
   induction l with
   |nil=>intro h;cases h
   |cons e r ih=>
    obtain⟨a,q⟩:=e;intro h;unfold Zi at h;by_cases d:(a:Int)=n
    ·rw[if_pos d] at h;cases h;exact⟨0,a,d.symm,by simp,rfl,λj _ h=>absurd h (Nat.not_lt_zero _)⟩
    ·rw[if_neg d] at h;obtain⟨i,m,f,g,c,o⟩:=ih h;refine⟨i+1,m,f,by simp;omega,by simpa using c,λj b k=>?_⟩;cases j with
     |zero=>exact d
     |succ j=>exact o j (by simpa using b) (by omega)
  obtain⟨i,m,f,g,c,o⟩:=key s;refine⟨i,p,m,f,rfl,I5 (p:=λm=>m == n) (by simpa using g) (λj b k=>?_) ?_,g,c⟩
  ·rw[YM];have:=o j (by simpa using b) k
   simpa using this
  ·rw[YM];have:l[i]=(m,p):=by rw[XB g] at c;exact Option.some.inj c
   rw[this,f];simp
theorem Me(r:RS)(n:Int)(w:World)(h:A8 w r.nums):Xf prog 237 #[.agg (X3 r).toArray,.int .i64 n] w (Grow (.int .i64 (Rk r.nums.x n)) w):=by
 have u:=h.ok.len;refine ζe func237 ntmps237 ϱ (ζn ϱ λrb v e1 s k y=>?_);refine Xa.loop (α:=Nat) (λi=>[(1,false,.int .i64 n),(2,false,.pointer (some ⟨rb,0,none⟩)),(5,false,.int .i64 i)])
  (λi w'=>i<=r.nums.x.length/\Xc Xe v w'/\∀(j:Nat) (h:j<r.nums.x.length),j<i->(r.nums.x[j] == n)=false) (λi=>r.nums.x.length-i) 0 ⟨rfl,rfl,rfl,trivial⟩ ⟨XL _,Xc.refl _ _,λ_ _ h=>absurd h (Nat.not_lt_zero _)⟩ ?_
 rintro i x ⟨hi,d,a⟩ ih;have c:=d.heap' s;refine ζa ϱ (ζl c ϱ (ζg ϱ (λl=>?_) λl=>?_))
 ·have f:i<r.nums.x.length:=by have:=of_decide_eq_true l;omega
  obtain⟨b,off,t,g⟩:=(h.ok.rd.chg (k.trans d)) i f;obtain⟨rp,cls,blocks,⟨na,ncap,nx⟩,pa,pcap,ps,opn⟩:=r;simp only at t g f a u hi
  subst t;replace c:x.heap[rb]?=some (.cells ([Xn rp.o,Xn rp.f,.int .i64 cls,.int .i64 (blocks:Int),.slice (some ⟨b,off,none⟩) nx.length ncap,.slice pa ps.length pcap,Xn opn]:List Value).toArray 112 (0,0)):=c;refine ζl c ϱ ?_;refine Xa.index Xb rfl (j:=i) (by omega) (by omega) (by first|rfl|omega|(simp;done)|(simp;omega)) rfl ?_;refine ζk ϱ g ϱ ?_;rw[show nx.getD i 0=nx[i] from by rw[XC,XB f];rfl];refine ζg ϱ (λo=>?_) λo=>?_
  ·exact ζr func237 ϱ ⟨X0 (I5 (p:=λm=>m == n) f a o).symm,k.trans d⟩
  ·refine ζj ϱ ?_;exact ih (i+1) _ _ ⟨f,d,λj q z=>by
    by_cases e:j=i
    ·subst e;exact o
    ·exact a j q (by omega)⟩ (by simp only;omega) ⟨rfl,rfl,rfl,trivial⟩
 ·have A:i=r.nums.x.length:=by have:=of_decide_eq_false l;omega
  exact ζr func237 ϱ ⟨X0 (Hl (p:=λm=>m == n) (λj q=>a j q (by omega))).symm,k.trans d⟩
theorem T9(l:IL)(n:Int)(w:World)(h:A8 w l):Xf prog 247 #[Xn l,.int .i64 n] w (λv w'=>∃l':IL,v=Xn l'/\l'.x=l.x.filter (λm=>m != n)/\A8 w' l'/\Ck w l'.a/\Xc Xe w w'):=by
 obtain⟨a,cap,x⟩:=l;have u:=h.ok.len;have y:=h.ok.rd;simp only at u y
 have J:maxLen=9223372036854775807:=rfl;refine ζe func247 ntmps247 ϱ ?_;refine Xa.loop (α:=Nat×Value) (λp=>[(0,false,.slice a x.length cap),(1,false,.int .i64 n),(5,false,p.2),(6,false,.int .i64 p.1)])
  (λp w'=>p.1<=x.length/\Xl w.heap.size 3 1 w' p.2 ((x.take p.1).filter (λm=>m != n)).length (((x.take p.1).filter (λm=>m != n)).map (Value.int .i64))/\Xc Xe w w') (λp=>x.length-p.1) (0,.slice none 0 0) ⟨rfl,rfl,rfl,rfl,trivial⟩ ⟨XL _,World.ownsRow_nil _ _ _ _,Xc.refl _ _⟩ ?_
 rintro⟨i,v⟩ N ⟨hi,g,d⟩ ih;simp only at hi g
 refine ζa ϱ (ζg ϱ (λr=>?_) λr=>?_)
 ·have f:i<x.length:=by have:=of_decide_eq_true r;omega
  obtain⟨b,off,rfl,c⟩:=(y.chg d) i f;have z:x.getD i 0=x[i]:=by rw[XC,XB f];rfl
  rw[z] at c;have o:x.take (i+1)=x.take i++[x[i]]:=by rw[ZC,XB f];rfl
  refine ζi i ϱ (ζk ϱ c ϱ (ζg ϱ (λj=>?_) λj=>?_))
  ·refine ζi i ϱ (ζk ϱ c ϱ (Xa.buildSlice Xb rfl λO P e2 A k K=>ζa ϱ ?_));have q:=g.chg k (λ_ _ h=>h);have L:((x.take i).filter (λm=>m != n)).length<=i:=ZV (ZW _ _) (by rw[XU];omega);have t:(x.take (i+1)).filter (λm=>m != n)=(x.take i).filter (λm=>m != n)++[x[i]]:=by rw[o,YP,XY,if_pos j];rfl
   exact Xa.append (base:=w.heap.size) (xs:=((x.take i).filter (λm=>m != n)).map (Value.int .i64)) (news:=[.int .i64 x[i]]) Xb rfl q (by have:=d.size;have:=k.size;omega) (by simp) (Gl A) (by simp[Value.oneCell']) (by simp only;omega) λE Q B C M=>ζa ϱ (ζj ϱ (ih (i+1,E) _ _ ⟨f,by simp only;rw[t,XO,XI];exact B,q.since (d.trans k) (XE _) C⟩ (by simp only;omega) ⟨rfl,rfl,rfl,rfl,trivial⟩))
  ·have t:(x.take (i+1)).filter (λm=>m != n)=(x.take i).filter (λm=>m != n):=by rw[o,YP,XY,if_neg (by rw[j];decide)];simp
   exact ζj ϱ (ih (i+1,v) _ _ ⟨f,by simp only;rw[t];exact g,d⟩ (by simp only;omega) ⟨rfl,rfl,rfl,rfl,trivial⟩)
 ·have D:i=x.length:=by have:=of_decide_eq_false r;omega
  subst D;rw[ZL] at g;obtain⟨l',F,G,H,I⟩:=Xl.il g rfl (ZV (ZW _ _) u);subst F;exact ζr func247 ϱ ⟨l',rfl,G,H,λb off s e=>I b off s e,d⟩
theorem T8(r:RS)(i:Nat)(p:IL)(w:World)(hrp:Dm w r.pa r.ps)(hi:i<r.ps.length)(hl:r.ps.length<=512):Xf prog 239 #[.agg (X3 r).toArray,.int .i64 i,Xn p] w
 (λv w'=>∃pa' pcap',v=.agg (X3 {r with pa:=pa',pcap:=pcap',ps:=r.ps.set i p}).toArray/\Dm w' pa' (r.ps.set i p)/\Yj w' pa'/\(r.ps.set i p).length<=pcap'/\Ck w pa'/\Xc Xe w w'):=by
 have a6:maxLen=9223372036854775807:=rfl;obtain⟨rp,cls,blocks,nums,pa,pcap,ps,opn⟩:=r;simp only at hi hl hrp
 refine ζe func239 ntmps239 ϱ (ζn ϱ λrb w1 e1 c a a7=>ζn ϱ λqb K e2 L d a8=>?_);replace c:w1.heap[rb]?=some (.cells ([Xn rp.o,Xn rp.f,.int .i64 cls,.int .i64 (blocks:Int),Xn nums,.slice pa ps.length pcap,Xn opn]:List Value).toArray 112 (0,0)):=c;refine Xa.buildSlice Xb rfl λb3 w3 e3 M f a9=>ζa ϱ ?_;have h:=d.trans f;have y:=a.trans h;refine ζl (h.heap' c) ϱ ?_;have N:Xl K.heap.size 22 1 w3 (.slice (some ⟨b3,0,none⟩) 0 0) 0 []:=Xl.empty (by omega) M;refine Xa.appendA (base:=K.heap.size) (xs:=[]) (news:=ps.map Xn) Xb rfl N f.size hrp.noneA (by simp) (hrp.grow y).cellsA Oc (by simp only;omega) λv4 w4 O P aa=>ζa ϱ ?_;have k:=N.since f (XE _) P;obtain⟨g,A,cur,rfl,ab,Q,R,ac,S⟩:=O.form (by omega);have m:cur.toList=ps.map Xn++cur.toList.drop ps.length:=by
  have e:=XZ ps.length cur.toList;rw[show cur.toList.take ps.length=ps.map Xn from by simpa using S] at e;exact e.symm
 obtain⟨rest,q⟩:∃rest,rest=cur.toList.drop ps.length:=⟨_,rfl⟩;rw[<-q] at m;have B:w4.heap[g]?=some (.cells (ps.map Xn++rest).toArray 22 (0,0)):=by rw[<-m];exact Q
 have T:0+ps.length=ps.length:=by omega
 rw[T] at R⊢;refine ζi i ϱ (ζS ϱ B (show Yd (ps.map Xn++rest) (0+i) [Xn p]=some ((ps.set i p).map Xn++rest) from by rw[XS,J6 _ _ _ (by simp;omega),YW _ _ (by simpa using hi),YD]) ϱ λw5 C n ad=>?_);have t:(ps.set i p).length=ps.length:=by simp
 have D:=n.heap (k.heap' (d.heap' c)) (show ¬rb=g by omega);have E:=n.heap (k.heap' L) (show ¬qb=g by omega);refine ζs D ϱ λw6 F o ae=>ζl F ϱ ?_;have G:=o.heap E (by omega);refine ζs G ϱ λw7 H u af=>?_;have x:=u.heap (o.heap C (by omega)) (by omega);have I:Xc Xe w w5:=((a.trans d).trans k).since n (λz U e=>by have:=a.size;omega);have J:Xc Xe w w7:=(I.since o (λz U e=>by omega)).since u (λz U e=>by have:=a.size;omega);exact ζq rfl func239 (Xm.cell rfl rfl rfl H rfl .nil) ⟨some ⟨g,0,none⟩,A,by show _=Value.agg [_,_,_,_,_,Value.slice _ (ps.set i p).length _,_].toArray;rw[t];rfl,λj l V=>⟨g,0,rfl,by
  have W:j<ps.length:=by have:=(List.getElem?_eq_some_iff.1 V).1;simpa using this
  rw[Yt x,XS,YO,XX (by simpa using W),XR,V];rfl⟩,(by intro b off s e;cases e;exact Xg x),by rw[t];omega,(by intro b off s e;cases e;have:=a.size;omega),J⟩
theorem Xmk{l:PgL}{m:Nat}{q:List Int}(hn:(l.map (·.1)).Nodup)(hi:l[i]?=some (m,q)):Zo l m p=l.set i (m,p):=by
 have a:=(List.getElem?_eq_some_iff.1 hi).1;refine QF λj=>?_;unfold Zo;rw[XR,YY];by_cases h:i=j
 ·subst h;rw[if_pos rfl,if_pos a,hi]
  simp
 ·rw[if_neg h];cases c:l[j]? with
  |none=>rfl
  |some e=>
   have b:e.1≠m:=λe'=>by
    have d:(l.map (·.1))[i]?=some m:=by rw[XR,hi];rfl
    have f:(l.map (·.1))[j]?=some m:=by rw[XR,c,<-e'];rfl
    exact h ((List.getElem?_inj (by simpa using a) hn).1 (d.trans f.symm))
   simp[b]
theorem Us{l:PgL}{m:Nat}{q:List Int}(hn:(l.map (·.1)).Nodup)(hi:l[i]?=some (m,q)):Qk l m=l.take i++l.drop (i+1):=by
 have a:=(List.getElem?_eq_some_iff.1 hi).1;have d:l[i]=(m,q):=by rw[XB a] at hi;exact Option.some.inj hi
 have f:l=l.take i++(m,q)::l.drop (i+1):=by
  conv=>lhs;rw[<-XZ i l]
  rw[ZS a,d]
 have b:=hn;rw[f,XI,ZB] at b;obtain⟨k,g,h⟩:=List.nodup_append.1 b;obtain⟨j,_⟩:=List.nodup_cons.1 g
 conv=>lhs;rw[f]
 unfold Qk;rw[YP,XY];simp only[bne_self_eq_false,QD,if_false];rw[List.filter_eq_self.2 (λe c=>by simp only[bne_iff_ne,ne_eq];exact λe'=>h e.1 (List.mem_map.2 ⟨e,c,rfl⟩) m (by simp) e'),List.filter_eq_self.2 (λe c=>by simp only[bne_iff_ne,ne_eq];exact λe'=>j (List.mem_map.2 ⟨e,c,e'⟩))]
theorem Y7.get{r:RS}{pl:PlM}(h:Y7 w r x pl){m:Nat}(hi:x.pg[i]?=some (m,p)):∃l,r.ps[i]?=some l/\l.x=p/\Cg w l:=by
 have a:(x.pg.map (·.2))[i]?=some p:=by rw[XR,hi];rfl
 rw[<-h.e4,XR,QB] at a;obtain⟨l,b,c⟩:=a;exact⟨l,b,c,h.each l (XP b)⟩
theorem Y7.plen{r:RS}{pl:PlM}(h:Y7 w r x pl):r.ps.length=x.pg.length:=by
 have:=congrArg List.length h.e4
 simpa using this
theorem Y7.few{r:RS}{pl:PlM}(h:Y7 w r x pl)(hok:x.Ok)(hof:x.Of pl):x.pg.length<=512/\x.opn.length<=512/\pl.own.length<=512:=by
 have b:=h.p.o.ok.len;rw[h.p.eo] at b;have c:=Ku _ _ hok.nodup (λn a=>by obtain⟨e,d,rfl⟩:=List.mem_map.1 a;exact(hof e d).1);rw[XN] at c;have g:=Ku pl.own.length x.opn hok.onodup (λn a=>by obtain⟨p,f⟩:=hok.osub n a;exact(hof _ f).1);exact⟨by omega,by omega,b⟩
theorem Q4.out{w:World}{r:RP}{pl:PlM}{S:Nat->Prop}(h:Q4 w r pl)(hs:∀z,S z->w.heap.size<=z):Xj S r.o.a/\Xj S r.f.a:=⟨h.o.lt.out hs,h.f.lt.out hs⟩
theorem XkW(r:RS)(x:Sm)(pl:PlM)(w:World)(h:Y7 w r x pl)(hok:x.Ok)(hf:pl.free=[]):Xf prog 245 #[.agg (X3 r).toArray] w (Grow (.tuple #[.agg (X3 r).toArray,.int .i64 5]) w):=by
 have j:0<=r.cls:=by rw[h.e1];exact hok.cls
 refine ζe func245 ntmps245 ϱ (ζn ϱ λrb D e1 k d u=>ζn ϱ λqb q e2 l f v=>?_);have a:=f.heap' k;have c:=d.trans f;refine ζl a ϱ (ζl a ϱ (ζv (XkK r.p r.cls pl q (h.p.grow c) j hf) ϱ λE g=>ζn ϱ λtb F e4 m n y=>ζs m ϱ λG s o A=>?_));have B:=g.size;have b:=(g.trans n).since o (λz t e=>by omega);refine ζy ϱ (ζl (b.heap' a) ϱ (ζs (b.heap' l) ϱ λH i p C=>?_));exact ζR func245 i ϱ ⟨rfl,(c.trans b).since p (λz t e=>by have:=d.size;omega)⟩
theorem XkV(r:RS)(x:Sm)(pl:PlM)(n:Nat)(t:List Nat)(w:World)(h:Y7 w r x pl)(hok:x.Ok)(hof:x.Of pl)(hg:pl.Good)(hf:pl.free=n::t):Xf prog 245 #[.agg (X3 r).toArray] w
 (λv w'=>∃r',v=.tuple #[.agg (X3 r').toArray,.int .i64 0]/\Y7 w' r' (x.fresh n) (pl.take x.cls)/\A4 w r r'/\Xc Xe w w'):=by
 have br:=hok.blk;have di:maxLen=9223372036854775807:=rfl;obtain⟨cs,ct,cu⟩:=h.few hok hof;have a2:=Nu hok hof hg (n:=n) (by rw[hf];simp);have bs:n∉x.opn:=λhm=>by obtain⟨p,hp⟩:=hok.osub n hm;exact a2 (List.mem_map.2 ⟨_,hp,rfl⟩)
 obtain⟨au,_⟩:=hg.free n (by rw[hf];simp);have cv:x.pg.length+1<=512:=by
  have:(n::x.pg.map (·.1)).length<=pl.own.length:=Ku _ _ (List.nodup_cons.2 ⟨a2,hok.nodup⟩) (λm hm=>by
   rcases List.mem_cons.1 hm with rfl|hm
   ·exact au
   ·obtain⟨e,he,rfl⟩:=List.mem_map.1 hm;exact(hof e he).1)
  simp only[XM,XN] at this;omega
 have cw:x.opn.length+1<=512:=by
  have:(n::x.opn).length<=pl.own.length:=Ku _ _ (List.nodup_cons.2 ⟨bs,hok.onodup⟩) (λm hm=>by
   rcases List.mem_cons.1 hm with rfl|hm
   ·exact au
   ·obtain⟨p,hp⟩:=hok.osub m hm;exact(hof _ hp).1)
  simp only[XM] at this;omega
 have cx:r.nums.x.length=x.pg.length:=by rw[h.e3];simp
 have d0:=h.plen;have d1:r.opn.x.length=x.opn.length:=by rw[h.e5];simp
 refine ζe func245 ntmps245 ϱ (ζn ϱ λrb w1 e1 a3 N dj=>ζn ϱ λqb w2 e2 bu av dk=>?_);replace a3:w1.heap[rb]?=some (.cells (X3 r).toArray 112 (0,0)):=a3;have H:=av.heap' a3;have a4:=N.trans av;refine ζl H ϱ (ζl H ϱ ?_);rw[h.e1];refine ζc ϱ (Xfr r.p x.cls pl n t w2 (h.p.grow a4) hg hok.cls hf) ?_;rintro _ w3 ⟨l,rfl,aw,ax,ay⟩;refine ζa ϱ ?_;obtain⟨f',a5⟩:∃f',f'=r.p.f.sl 1 r.p.f.x.length:=⟨_,rfl⟩;rw[<-a5] at aw⊢;have dl:=ay.size;refine ζn ϱ λtb w4 e4 bv bw dm=>ζs bv ϱ λw5 I bz dn=>?_;replace I:w5.heap[tb]?=some (.cells ([Xn l,Xn f']:List Value).toArray 34 (0,0)):=I;have a6:Xc Xe w3 w5:=bw.since bz (λz c e=>by omega);have J:=ay.trans a6;refine ζf ϱ (ζl I ϱ ?_);have b5:=J.heap' H;refine ζs b5 ϱ λw6 A O dp=>?_;replace A:w6.heap[rb]?=some (.cells ([Xn l,Xn f',.int .i64 r.cls,.int .i64 (r.blocks:Int),Xn r.nums,.slice r.pa r.ps.length r.pcap,Xn r.opn]:List Value).toArray 112 (0,0)):=A;have b6:=O.heap (J.heap' bu) (show ¬qb=rb by omega);have P:Q4 w6 ⟨l,f'⟩ (pl.take x.cls):=by
  have h5:=aw.grow a6;have a7:Xj (λz=>z=rb) f'.a:=by rw[a5];exact IL.sl_out (h.p.f.lt.out (λz c=>by omega))
  exact⟨h5.o.far (ax.out (λz c=>by omega)) O,h5.f.far a7 O,h5.eo,h5.ef⟩
 have b7:Xc Xe w w6:=(a4.trans J).since O (λz c e=>by omega);refine ζl A ϱ ?_;rw[h.e2];refine ζc ϱ (XkM x.blocks w6 br) ?_;rintro _ w7 ⟨pg,rfl,az,c0,R,c1⟩;refine ζa ϱ ?_;have c2:Cg w7 pg:=Cg.of c0 (by rw[az];simp;omega);have c3:Ck w6 pg.a:=by
  rcases c1 with e|⟨g,off,e,c4⟩
  ·intro b off s e';rw[e] at e';cases e'
  ·intro b off' s e';rw[e] at e';cases e';exact c4
 have dq:=R.size;have a9:=b7.trans R;have aa:=R.heap' A;refine Xa.buildSlice Xb rfl λb8 w8 e8 c5 S dr=>ζa ϱ ?_;have b9:=a9.trans S;refine ζl (S.heap' aa) ϱ ?_;have b0:Xl w7.heap.size 3 1 w8 (.slice (some ⟨b8,0,none⟩) 0 0) 0 []:=Xl.empty (by omega) c5;refine Xa.appendA (base:=w7.heap.size) (xs:=[]) (news:=r.nums.x.map (Value.int .i64)) Xb rfl b0 S.size h.nums.ok.rd.noneA (by simp) (h.nums.ok.rd.chg b9).cellsA Ij (by simp only;omega) λv9 w9 c6 c7 ds=>ζa ϱ ?_;have ba:=b0.since S (XE _) c7;refine Xa.buildSlice Xb rfl λdt du dv bb ab d6=>ζa ϱ ?_;have ac:=c6.chg ab (λ_ _ h=>h);have T:=ba.trans ab;refine Xa.append (base:=w7.heap.size) (news:=[.int .i64 (n:Int)]) Xb rfl ac T.size (by simp) (Gl bb) (by simp[Value.oneCell']) (by simp only;omega) ?_;intro c8 dw bc bd d7;have k:=ac.since T (XE _) bd;obtain⟨nl,rfl,c9,ca,b1⟩:=Xl.il (x:=r.nums.x++[(n:Int)]) (v:=c8) (m:=0+r.nums.x.length+1) (by rw[XI];exact bc) (by simp) (by simp;omega);refine ζa ϱ ?_;have cy:=k.size;refine ζs (k.heap' aa) ϱ λi o K d8=>?_;replace o:i.heap[rb]?=some (.cells ([Xn l,Xn f',.int .i64 r.cls,.int .i64 (r.blocks:Int),Xn nl,.slice r.pa r.ps.length r.pcap,Xn r.opn]:List Value).toArray 112 (0,0)):=o;have U:Xc Xe w i:=(a9.trans k).since K (λz c e=>by omega);have ak:A8 i nl:=ca.far (by intro b off s e c;have:=b1 b off s e;omega) K;refine Xa.buildSlice Xb rfl λcb cc dx be B d9=>ζa ϱ ?_;have al:=U.trans B;refine ζl (B.heap' o) ϱ ?_;have ad:Xl i.heap.size 22 1 cc (.slice (some ⟨cb,0,none⟩) 0 0) 0 []:=Xl.empty (by omega) be;refine Xa.appendA (base:=i.heap.size) (xs:=[]) (news:=r.ps.map Xn) Xb rfl ad B.size h.rp.noneA (by simp) (h.rp.grow al).cellsA Oc (by simp only;omega) λdy dz bf bg da=>ζa ϱ ?_;have ae:=ad.since B (XE _) bg;refine Xa.buildSlice Xb rfl λe0 e3 e5 bh af db=>ζa ϱ ?_;have ag:=bf.chg af (λ_ _ h=>h);have G:=ae.trans af;refine Xa.append (base:=i.heap.size) (news:=[Xn pg]) Xb rfl ag G.size (by simp) (Gl bh) (by simp[Value.oneCell']) (by simp only;omega) ?_;intro cd e6 bi bj dc;have d:=ag.since G (XE _) bj;obtain⟨pa',pcap',rfl,ce,cf,cg,b2⟩:=Xl.pl (ps:=r.ps++[pg]) (v:=cd) (m:=0+r.ps.length+1) (by rw[XI];exact bi) (by simp);have ch:=d.size;refine ζa ϱ (ζs (d.heap' o) ϱ λj q C dd=>?_);replace q:j.heap[rb]?=some (.cells ([Xn l,Xn f',.int .i64 r.cls,.int .i64 (r.blocks:Int),Xn nl,.slice pa' (r.ps++[pg]).length pcap',Xn r.opn]:List Value).toArray 112 (0,0)):=q;have V:Xc Xe w j:=(U.trans d).since C (λz c e=>by omega);have am:Dm j pa' (r.ps++[pg]):=ce.far (by intro b off s e c;have:=b2 b off s e;omega) C;refine Xa.buildSlice Xb rfl λci cj e7 bk D de=>ζa ϱ ?_;have an:=V.trans D;refine ζl (D.heap' q) ϱ ?_;have ah:Xl j.heap.size 3 1 cj (.slice (some ⟨ci,0,none⟩) 1 1) 1 [.int .i64 (n:Int)]:=Xl.one (by omega) bk;refine Xa.appendA (base:=j.heap.size) (xs:=[.int .i64 (n:Int)]) (news:=r.opn.x.map (Value.int .i64)) Xb rfl ah D.size h.opn.ok.rd.noneA (by simp) (h.opn.ok.rd.chg an).cellsA Ij (by simp only;omega) ?_;intro b3 ck bl bm df;have f:=ah.since D (XE _) bm;obtain⟨ol,rfl,bn,bo,bp⟩:=Xl.il (x:=(n:Int)::r.opn.x) (v:=b3) (m:=1+r.opn.x.length) (show Xl j.heap.size 3 1 ck b3 (1+r.opn.x.length) (((n:Int)::r.opn.x).map (Value.int .i64)) from bl) (by simp;omega) (by simp;omega);refine ζa ϱ ?_;have cl:=f.size;refine ζs (f.heap' q) ϱ λy E L dg=>?_;obtain⟨r',W⟩:∃r':RS,r'=⟨⟨l,f'⟩,r.cls,r.blocks,nl,pa',pcap',r.ps++[pg],ol⟩:=⟨_,rfl⟩;replace E:y.heap[rb]?=some (.cells (X3 r').toArray 112 (0,0)):=by rw[W];exact E
 refine ζl E ϱ ?_;have a0:Xc Xe w y:=(V.trans f).since L (λz c e=>by omega);have nn:∀{a b:World},Xc Xe a b->Xc (λz=>z=rb) a b:=λh=>h.gr;have cA:Xc (λz=>z=rb) w7 i:=(nn k).trans K;have cB:Xc (λz=>z=rb) i j:=(nn d).trans C;have cC:Xc (λz=>z=rb) j y:=(nn f).trans L;have cAll:Xc (λz=>z=rb) w6 y:=(((nn R).trans cA).trans cB).trans cC;have F:∀Q:Nat->Prop,(∀z,Q z->z<w2.heap.size)->Z6 Q r->Z6 Q r':=λQ M ho=>by
  have cm:Xj Q l.a:=ax.out M;have a7:Xj Q f'.a:=by rw[a5];exact IL.sl_out ho.f
  have cn:Xj Q nl.a:=by intro b off s e c;have:=b1 b off s e;have:=M b c;omega
  have co:Xj Q ol.a:=by intro b off s e c;have:=bp b off s e;have:=M b c;omega
  have cp:Xj Q pa':=by intro b off s e c;have:=b2 b off s e;have:=M b c;omega
  rw[W];exact⟨cm,a7,cn,co,cp,λl' hl'=>by
   rcases List.mem_append.1 hl' with hl'|hl'
   ·exact ho.each l' hl'
   ·have:l'=pg:=by simpa using hl'
    subst this;exact c3.out (λz c=>by have:=M z c;omega)⟩
 have cq:Z6 (λz=>z=rb) r:=h.out (λz c=>by have:=N.size;omega);have u:Z6 (λz=>z=rb) r':=F _ (λz c=>by omega) cq;have ap:Y7 y r' (x.fresh n) (pl.take x.cls):=by
  rw[W] at u;have bq:Q4 y ⟨l,f'⟩ (pl.take x.cls):=⟨P.o.far u.o cAll,P.f.far u.f cAll,P.eo,P.ef⟩;rw[W];exact⟨bq,ak.far u.nums (cB.trans cC),bo.far u.opn L,am.far u.pa cC,cf.grow (by have:=C.size;have:=cC.size;omega),cg,λl' hl'=>by
   rcases List.mem_append.1 hl' with hl'|hl'
   ·exact(h.each l' hl').grow a0
   ·have:l'=pg:=by simpa using hl'
    subst this;exact c2.far (u.each _ (ZU _ (by simp))) ((cA.trans cB).trans cC),h.e1,h.e2,by
    show nl.x=(x.pg++[(n,List.replicate x.blocks (-1))]).map _
    rw[c9,h.e3,XI];rfl,by
    show(r.ps++[pg]).map _=(x.pg++[(n,List.replicate x.blocks (-1))]).map _
    rw[XI,XI,h.e4];simp[az],by
    show ol.x=(n::x.opn).map _
    rw[bn,h.e5];rfl⟩
 have aq:=cAll.heap b6 (show ¬qb=rb by omega);refine ζs aq ϱ λe9 ar ai dh=>?_;have cr:Z6 (λz=>z=qb) r':=F _ (λz c=>by omega) (h.out (λz c=>by have:=N.size;omega));exact ζR func245 ar ϱ ⟨r',rfl,ap.far cr ai,λQ M ho=>F Q (λz c=>by have:=M z c;omega) ho,a0.since ai (λz c e=>by have:=N.size;omega)⟩
end Go.Proofs.YtohjeeapehmkcaaGreatDoor
