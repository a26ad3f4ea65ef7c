/-
  Texts put together: Shelf, Shelf2, Shelf3, Shelf4, Shelf5, Shst, Shp, Back13, RowsD, Ref12, Ref08, Ref08b, Ref13, Ref13b.
-/
import Derived.Test.YtohjeeapehmkcaaGreatDoorPt1
import Derived.Test.YtohjeeapehmkcaaGreatDoorQRule13
import Derived.Test.YtohjeeapehmkcaaGreatDoorQRule8
import Derived.Test.YtohjeeapehmkcaaGreatDoorQRule9
import Derived.Test.YtohjeeapehmkcaaGreatDoorQRule6
import Derived.Test.YtohjeeapehmkcaaGreatDoorQRule15
set_option linter.unusedVariables false
set_option maxRecDepth 100000
namespace Go.Proofs.YtohjeeapehmkcaaGreatDoor
open Go.RowKit
open Bool renaming false_eq_true->YY
open Int renaming toNat_natCast->XA,eq_ofNat_of_zero_le->XD
open List renaming getElem?_eq_getElem->XB,getD_eq_getElem?_getD->XC,length_set->XF,length_replicate->XH,map_append->XI,getElem_mem->XJ,length_map->XM,getElem?_map->XN,length_cons->XP,length_take->XR,mem_of_getElem?->XS,length_append->XT,getElem?_append_left->XV,take_append_drop->XW,getElem?_eq_none->XZ,map_cons->ZB,take_add_one->ZC,filter_cons->ZE,take_length->ZI,take_of_length_le->ZK,nil_append->ZL,drop_eq_getElem_cons->ZN,length_drop->ZP,map_congr_left->ZS,map_set->ZV,nodup_nil->YA,getElem_map->YF,getElem?_take->YG,getElem?_toArray->YH,mem_append_right->YJ,set_append_left->YN,getElem?_set->YP,filter_append->YZ,range_succ->Y2,ext_getElem?->QB,mem_append_left->QC
open Nat renaming le_refl->XE,zero_le->XL,zero_add->XQ,mul_one->ZH,le_trans->ZX
open Option renaming getD_some->ZW,map_eq_some_iff->YV,map_some->QI
open Go.Proofs.Tryz (func107 func134 func147 func173 func174 func176 func181 func190 func203 func206 func219 func221 func229 func237 func238 func239 func240 func242 func243 func244 func245 func246 func247 func248 func249 func263 func266 ntmps107 ntmps134 ntmps147 ntmps173 ntmps174 ntmps176 ntmps181 ntmps190 ntmps203 ntmps206 ntmps219 ntmps221 ntmps229 ntmps237 ntmps238 ntmps239 ntmps240 ntmps242 ntmps243 ntmps244 ntmps245 ntmps246 ntmps247 ntmps248 ntmps249 ntmps263 ntmps266 prog)
variable {ahead by' size u who z:Int} {lg:List (Nat × List Nat)} {bs l p zs:List Int} {l2 ws:List Nat} {cs rest xs:List Value} {N at' b base cap fuel g i j k len lm lo m n n0 o off sz t tm vb xb y:Nat} {e:Nat × List Int} {fz:Nat × Nat} {f:Nat->Int} {G:Nat->Pg} {B C F F' Fr S S' T:Nat->Prop} {a:Option Addr} {pg:PgL} {P:Pl} {pl':PlM} {x x':Sm} {α:Type} {v:Value} {w w' w0 w1 w2:World}
def kd (w:World) (b:Nat):Option (Option Nat):=match w.heap[b]? with
 |some (.cells _ t _)=>some (some t)
 |some (.map _ _)=>some none
 |_=>none
theorem Yb {w:World} {c:Array Value} {f:Nat × Nat} (h:w.heap[b]? = some (.cells c t f)):kd w b=some (some t):=by unfold kd; rw [h]
theorem Ov {w:World} {m:AL} (h:Yq w b m):kd w b=some none:=by
 obtain ⟨es,c,a,_⟩:=h;unfold kd; rw [a]
theorem Xs {w:World} {a:Nat} {x y:Option (Option Nat)} (h1:kd w a=x) (h2:kd w b=y) (h:x≠y):a≠b:=fun e=>h (by rw [<- h1,<- h2,e])
theorem Ef {w:World} {x:Option Nat} (h:kd w b=some x):b<w.heap.size:=by
 by_cases a:b<w.heap.size
 ·exact a
 ·unfold kd at h;rw [Array.getElem?_eq_none (by omega)] at h;cases h
theorem Ki {w:World} (h:Az w) (hb:∀ v,w.cell? ⟨b,0,none⟩≠some (.int .u8 v)):0≠b:=fun e=>by
 exact hb _ ((congrArg (fun x=>w.cell? ⟨x,0,none⟩) e.symm).trans (h 0 (by decide)))
structure Sh where
 sb:Nat
 sm:Nat
 R:Rg
 P:Pl
abbrev B4 (S:Sh):Value := .pointer (some ⟨S.sb,0,none⟩)
def Kd (S:Sh) (cls:Int) (blocks:Nat) (used:Int):List Value := [D5 S.P,.int .i64 cls,.int .i64 (blocks:Int),.map (some S.sm),He S.R,.int .i64 used]
structure Y5 (w:World) (S:Sh) (G:Nat->Pg) (cls:Int) (blocks:Nat) (pg:PgL) (opn:List Nat) (used:Int):Prop where
 nodup:(pg.map (·.1)).Nodup
 tab:Az w
 obj:w.heap[S.sb]? = some (.cells (Kd S cls blocks used).toArray 224 (0,0))
 map:∃ m,Yq w S.sm m/\(A0 m).Nodup/\m.length=pg.length/\(∀ e ∈ pg,A8 m e.1=some (D3 (G e.1))) /\ ∀ k:Int,(∀ e ∈ pg,(e.1:Int)≠k)->A8 m k=none
 ring:Ct w S.R opn
 pages:∀ e ∈ pg,Qu w (G e.1) e.2
 sep:∀ e ∈ pg,(G e.1).mb≠S.sm /\ ∀ e' ∈ pg,e.1≠e'.1->(G e.1).bb≠(G e'.1).bb/\(G e.1).mb≠(G e'.1).mb
def Y1 (S:Sh) (G:Nat->Pg) (pg:PgL):Nat->Prop:=fun z=>z=S.sb\/z=S.sm\/Gg S.R z \/ ∃ e ∈ pg,Ff (G e.1) z
structure Xf9 (w:World) (S:Sh):Prop where
 sb:kd w S.sb=some (some 224)
 sm:kd w S.sm=some none
 lb:kd w S.R.lb=some (some 290)
 ab:kd w S.R.ab=some (some 275)
 nb:kd w S.R.nb=some (some 292)
structure Xf5 (w:World) (g:Pg):Prop where
 p:kd w g.p=some (some 286)
 bb:kd w g.bb=some (some 312)
 mb:kd w g.mb=some none
theorem Qu.kds {w:World} {g:Pg} {x:List Int} (h:Qu w g x):Xf5 w g:=by
 obtain ⟨m,a,_⟩:=h.own;obtain ⟨ws,_,_,_,b⟩:=h.bits.ws;exact ⟨Yb h.pc,Yb b,Ov a⟩
theorem Y5.kds {w:World} {S:Sh} {G:Nat->Pg} {cls:Int} {blocks:Nat} {pg:PgL} {opn:List Nat} {used:Int} (h:Y5 w S G cls blocks pg opn used):Xf9 w S:=by
 obtain ⟨m,a,_⟩:=h.map;obtain ⟨g,f,b,c,_⟩:=h.ring.at';exact ⟨Yb h.obj,Ov a,Yb h.ring.obj,Yb b,Yb c⟩
theorem Xa9 {w:World} {g:Pg} {x:List Int} (h:Qu w g x):¬ Ff g 0:=fun a=>by
 rcases a with e | e
 ·exact h.bits.ne e
 ·exact h.notab e
theorem Qu.other {w w':World} {g g':Pg} {x x':List Int} (h:Qu w g x) (h':Qu w g' x') (hb:g'.bb≠g.bb) (hm:g'.mb≠g.mb) (hc:Xc (Ff g) w w'):Qu w' g' x':=by
 have k:=h.kds;have k':=h'.kds;refine h'.chg hc ?_ ?_ ?_ (Xa9 h)
 ·rintro (e | e)
  ·exact Xs k'.p k.bb (by decide) e
  ·exact Xs k'.p k.mb (by decide) e
 ·rintro (e | e)
  ·exact hb e
  ·exact Xs k'.bb k.mb (by decide) e
 ·rintro (e | e)
  ·exact Xs k'.mb k.bb (by decide) e
  ·exact hm e
section
variable {w w':World} {S:Sh} {G:Nat->Pg} {cls:Int} {blocks:Nat} {pg:PgL} {opn:List Nat} {used:Int}
theorem Y5.chg {S':Nat->Prop} (h:Y5 w S G cls blocks pg opn used) (hc:Xc S' w w') (h1:∀ z,S' z->z≠S.sb/\z≠S.sm/\z≠S.R.lb /\ ¬ Gg S.R z) (h2:∀ z,S' z -> ∀ e ∈ pg,z≠(G e.1).p /\ ¬ Ff (G e.1) z) (h3:¬ S' 0):Y5 w' S G cls blocks pg opn used:=by
 obtain ⟨m,c,r⟩:=h.map;exact ⟨h.nodup,h.tab.chg hc h3,hc.heap h.obj (fun a=>(h1 _ a).1 rfl),⟨m,c.chg hc (fun a=>(h1 _ a).2.1 rfl),r⟩,h.ring.chg hc (fun a=>(h1 _ a).2.2.1 rfl) (fun a=>(h1 _ a).2.2.2 (.inl rfl)) (fun a=>(h1 _ a).2.2.2 (.inr rfl)),
  fun e b=>(h.pages e b).chg hc (fun a=>(h2 _ a e b).1 rfl) (fun a=>(h2 _ a e b).2 (.inl rfl)) (fun a=>(h2 _ a e b).2 (.inr rfl)) h3,h.sep⟩
theorem Y5.grow (h:Y5 w S G cls blocks pg opn used) (hc:Xc Xe w w'):Y5 w' S G cls blocks pg opn used:=h.chg hc (fun _ h=>h.elim) (fun _ h=>h.elim) id
theorem Y5.apart (h:Y5 w S G cls blocks pg opn used) {z:Nat} (hz:kd w z=some (some t)) (ht:t≠224/\t≠290/\t≠275/\t≠292/\t≠286/\t≠312) :
 (z≠S.sb/\z≠S.sm/\z≠S.R.lb /\ ¬ Gg S.R z) /\ ∀ e ∈ pg,z≠(G e.1).p /\ ¬ Ff (G e.1) z:=by
 have k:=h.kds;have d:∀ {t':Nat},t≠t'->some (some t)≠some (some t'):=fun h e=>h (Option.some.inj (Option.some.inj e));refine ⟨⟨Xs hz k.sb (d ht.1),Xs hz k.sm (by simp),Xs hz k.lb (d ht.2.1),?_⟩,fun e a => ?_⟩
 ·rintro (e | e)
  ·exact Xs hz k.ab (d ht.2.2.1) e
  ·exact Xs hz k.nb (d ht.2.2.2.1) e
 ·have kp:=(h.pages e a).kds;refine ⟨Xs hz kp.p (d ht.2.2.2.2.1),?_⟩;rintro (e | e)
  ·exact Xs hz kp.bb (d ht.2.2.2.2.2) e
  ·exact Xs hz kp.mb (by simp) e
theorem Y5.page (h:Y5 w S G cls blocks pg opn used) {p':List Int} (hp:(n,p) ∈ pg) (hk:Qu w' (G n) p') (hc:Xc (Ff (G n)) w w'):Y5 w' S G cls blocks (Zi pg n p') opn used:=by
 have k:=h.kds;have d:=h.pages _ hp;have kp:=d.kds;obtain ⟨m,u,v,x,i,y⟩:=h.map;have g:∀ z t,kd w z=some (some t)->t≠312 -> ¬ Ff (G n) z:=fun z t l A=>by
  rintro (e | e)
  ·exact Xs l kp.bb (fun e=>A (Option.some.inj (Option.some.inj e))) e
  ·exact Xs l kp.mb (by simp) e
 have o:¬ Ff (G n) S.sm:=by
  rintro (e | e)
  ·exact Xs k.sm kp.bb (by simp) e
  ·exact (h.sep _ hp).1 e.symm
 refine ⟨by rw [Jq]; exact h.nodup,h.tab.chg hc (Xa9 d),hc.heap h.obj (g _ _ k.sb (by decide)),⟨m,u.chg hc o,v,by unfold Zi; rw [XM]; exact x,fun e c => ?_,fun j r=>y j fun e c => ?_⟩,h.ring.chg hc (g _ _ k.lb (by decide)) (g _ _ k.ab (by decide)) (g _ _ k.nb (by decide)),fun e c => ?_,fun e c => ?_⟩
 ·rcases Eu c with ⟨rfl,_⟩ | ⟨_,c⟩
  ·exact i (n,p) hp
  ·exact i e c
 ·by_cases e1:e.1=n
  ·have:=r (n,p') (List.mem_map.2 ⟨e,c,if_pos e1⟩);rw [e1]; exact this
  ·exact r e (List.mem_map.2 ⟨e,c,if_neg e1⟩)
 ·rcases Eu c with ⟨rfl,_⟩ | ⟨s,c⟩
  ·exact hk
  ·obtain ⟨a,b⟩:=(h.sep _ hp).2 e c (Ne.symm s);exact d.other (h.pages e c) a.symm b.symm hc
 ·have old:∃ q,(e.1,q) ∈ pg:=by
   rcases Eu c with ⟨rfl,_⟩ | ⟨_,c⟩
   ·exact ⟨p,hp⟩
   ·exact ⟨e.2,c⟩
  obtain ⟨q,B⟩:=old;obtain ⟨a,b⟩:=h.sep _ B;refine ⟨a,fun e' f => ?_⟩;rcases Eu f with ⟨rfl,_⟩ | ⟨_,f⟩
  ·exact b (n,p) hp
  ·exact b e' f
theorem Y5.setUsed (h:Y5 w S G cls blocks pg opn used) (ho:w'.heap[S.sb]? = some (.cells (Kd S cls blocks u).toArray 224 (0,0))) (hc:Xc (fun z=>z=S.sb) w w'):Y5 w' S G cls blocks pg opn u:=by
 have k:=h.kds;obtain ⟨m,c,r⟩:=h.map;have a:=Ki h.tab (fun v e=>by rw [Yi h.obj] at e; simp [Kd] at e);exact ⟨h.nodup,h.tab.chg hc a,ho,⟨m,c.chg hc (Xs k.sm k.sb (by simp)),r⟩,h.ring.chg hc (Xs k.lb k.sb (by decide)) (Xs k.ab k.sb (by decide)) (Xs k.nb k.sb (by decide)),
  fun e b=>by have kp:=(h.pages e b).kds; exact (h.pages e b).chg hc (Xs kp.p k.sb (by decide)) (Xs kp.bb k.sb (by decide)) (Xs kp.mb k.sb (by simp)) a,h.sep⟩
theorem Xfw {R:Rg} {o:List Nat} (h:Ct w R o) (ht:Az w):¬ Gg R 0:=fun a=>by
 obtain ⟨g,f,b,c,_⟩:=h.at';rcases a with e | e
 ·exact Ki ht (fun v e=>by rw [Dz b (j:=0) (k:=0) rfl (by decide)] at e; cases e) e
 ·exact Ki ht (fun v e=>by rw [Dz c (j:=0) (k:=0) rfl (by decide)] at e; cases e) e
theorem Y5.setRing (h:Y5 w S G cls blocks pg opn used) {o:List Nat} (hr:Ct w' S.R o) (hc:Xc (Gg S.R) w w'):Y5 w' S G cls blocks pg o used:=by
 have k:=h.kds;obtain ⟨m,f,r⟩:=h.map;have b:=Xfw h.ring h.tab;have a:∀ z x,kd w z=some x->x≠some 275->x≠some 292 -> ¬ Gg S.R z:=fun z x c g i=>by
  rintro (e | e)
  ·exact Xs c k.ab (fun e=>g (Option.some.inj e)) e
  ·exact Xs c k.nb (fun e=>i (Option.some.inj e)) e
 exact ⟨h.nodup,h.tab.chg hc b,hc.heap h.obj (a _ _ k.sb (by decide) (by decide)),⟨m,f.chg hc (a _ _ k.sm (by simp) (by simp)),r⟩,hr,
  fun e d=>by have kp:=(h.pages e d).kds; exact (h.pages e d).chg hc (a _ _ kp.p (by decide) (by decide)) (a _ _ kp.bb (by decide) (by decide)) (a _ _ kp.mb (by simp) (by simp)) b,h.sep⟩
theorem Xa8 {r:Nat} {m:AL} (h:Yq w r m) (ht:Az w):0≠r:=by
 obtain ⟨es,c,a,_⟩:=h;exact Ki ht (fun v e=>by simp only [World.cell?,a] at e; cases e)
theorem Y5.del (h:Y5 w S G cls blocks pg opn used) (hp:(n,p) ∈ pg) (hm':∀ m,Yq w S.sm m->Yq w' S.sm (Cu m n)) (hc:Xc (fun z=>z=S.sm) w w'):Y5 w' S G cls blocks (Y8 pg n) opn used:=by
 have k:=h.kds;obtain ⟨m,f,d,q,g,l⟩:=h.map;have i:=Xa8 f h.tab;refine ⟨by rw [Xe6]; exact h.nodup.filter _,h.tab.chg hc i,hc.heap h.obj (Xs k.sb k.sm (by simp)),⟨Cu m n,hm' m f,by rw [Uh]; exact d.erase _,?_,fun e a => ?_,fun j o => ?_⟩,h.ring.chg hc (Xs k.lb k.sm (by simp)) (Xs k.ab k.sm (by simp)) (Xs k.nb k.sm (by simp)),fun e a => ?_,fun e a => ?_⟩
 ·have:=(Tn h.nodup hp).2;rw [Xgc,g _ hp];simp only [Option.isSome_some,if_true];omega
 ·obtain ⟨c,a⟩:=Hx.1 a;rw [Kq d,if_neg (by omega)];exact g e a
 ·rw [Kq d];by_cases e:j=n
  ·rw [if_pos e]
  ·rw [if_neg e];refine l j fun e' b => ?_;by_cases e2:e'.1=n
   ·rw [e2]; exact fun h=>e h.symm
   ·exact o e' (Hx.2 ⟨e2,b⟩)
 ·obtain ⟨c,a⟩:=Hx.1 a;have kp:=(h.pages e a).kds;exact (h.pages e a).chg hc (Xs kp.p k.sm (by simp)) (Xs kp.bb k.sm (by simp)) (h.sep e a).1 i
 ·obtain ⟨c,a⟩:=Hx.1 a;exact ⟨(h.sep e a).1,fun e' b=>(h.sep e a).2 e' (Hx.1 b).2⟩
def Hd (G:Nat->Pg) (n:Nat) (g:Pg):Nat->Pg:=fun m=>if m=n then g else G m
theorem Y5.add (h:Y5 w S G cls blocks pg opn used) {g:Pg} (hn:n ∉ pg.map (·.1)) (hg:Qu w g p) (hsm:g.mb≠S.sm) (hd:∀ e ∈ pg,(G e.1).bb≠g.bb/\(G e.1).mb≠g.mb)
 (hm':∀ m,Yq w S.sm m->Yq w' S.sm (Ca m n (D3 g))) (hc:Xc (fun z=>z=S.sm) w w'):Y5 w' S (Hd G n g) cls blocks (pg ++ [(n,p)]) opn used:=by
 have k:=h.kds;obtain ⟨m,s,x,y,A,t⟩:=h.map;have l:=Xa8 s h.tab;have o:∀ e ∈ pg,Hd G n g e.1=G e.1:=fun e he=>if_neg (fun e'=>hn (List.mem_map.2 ⟨e,he,e'⟩));have f:Hd G n g n=g:=if_pos rfl;have i:A8 m n=none:=t n fun e he e'=>hn (List.mem_map.2 ⟨e,he,by omega⟩);have kg:=hg.kds;refine ⟨?_,h.tab.chg hc l,hc.heap h.obj (Xs k.sb k.sm (by simp)),⟨Ca m n (D3 g),hm' m s,?_,?_,fun e he => ?_,fun j u => ?_⟩,h.ring.chg hc (Xs k.lb k.sm (by simp)) (Xs k.ab k.sm (by simp)) (Xs k.nb k.sm (by simp)),fun e he => ?_,fun e he => ?_⟩
 ·rw [XI];refine List.nodup_append.2 ⟨h.nodup,by simp,fun a q b r e => ?_⟩;have:b=n:=by simpa using r
  exact hn (this▸e▸q)
 ·rw [Ui];have:=Rh.1 i;rw [if_neg this];refine List.nodup_append.2 ⟨x,by simp,fun a q b r e => ?_⟩;have v:b=(n:Int):=by simpa using r
  exact this (v▸e▸q)
 ·rw [Xgj,i];simp [y]
 ·rw [Ih];rcases List.mem_append.1 he with he | he
  ·have d:e.1≠n:=fun e'=>hn (List.mem_map.2 ⟨e,he,e'⟩);rw [if_neg (by omega),o e he];exact A e he
  ·have:e=(n,p):=by simpa using he
   subst this;rw [if_pos rfl,f]
 ·rw [Ih,if_neg (fun e=>(u (n,p) (by simp)) e.symm)];exact t j fun e he=>u e (QC _ he)
 ·rcases List.mem_append.1 he with he | he
  ·rw [o e he];have kp:=(h.pages e he).kds;exact (h.pages e he).chg hc (Xs kp.p k.sm (by simp)) (Xs kp.bb k.sm (by simp)) (h.sep e he).1 l
  ·have:e=(n,p):=by simpa using he
   subst this;show Qu w' (Hd G n g n) p
   rw [f];exact hg.chg hc (Xs kg.p k.sm (by simp)) (Xs kg.bb k.sm (by simp)) hsm l
 ·have gl:∀ e ∈ pg ++ [(n,p)],(e ∈ pg/\Hd G n g e.1=G e.1)\/(e.1=n/\Hd G n g e.1=g):=fun e he=>by
   rcases List.mem_append.1 he with he | he
   ·exact .inl ⟨he,o e he⟩
   ·have:e=(n,p):=by simpa using he
    subst this;exact .inr ⟨rfl,f⟩
  rcases gl e he with ⟨he,e1⟩ | ⟨en,e1⟩
  ·rw [e1];refine ⟨(h.sep e he).1,fun e' c d => ?_⟩;rcases gl e' c with ⟨c,e2⟩ | ⟨_,e2⟩
   ·rw [e2]; exact (h.sep e he).2 e' c d
   ·rw [e2]; exact hd e he
  ·rw [e1];refine ⟨hsm,fun e' c d => ?_⟩;rcases gl e' c with ⟨c,e2⟩ | ⟨en',e2⟩
   ·rw [e2]; exact ⟨(hd e' c).1.symm,(hd e' c).2.symm⟩
   ·exact absurd (en.trans en'.symm) d
theorem Y5.foot_lt (h:Y5 w S G cls blocks pg opn used):∀ z,Y1 S G pg z->z<w.heap.size:=fun z a=>by
 have k:=h.kds;rcases a with rfl | rfl | (rfl | rfl) | ⟨e,b,a⟩
 ·exact Ef k.sb
 ·exact Ef k.sm
 ·exact Ef k.ab
 ·exact Ef k.nb
 ·exact (h.pages e b).footlt z a
theorem Y5.look (h:Y5 w S G cls blocks pg opn used) (n:Int):∃ m,Yq w S.sm m/\A1 m (.pointer none) n false=(match Zc pg n with | some _=>D3 (G n.toNat) | none => .pointer none):=by
 obtain ⟨m,b,f,g,c,d⟩:=h.map;refine ⟨m,b,?_⟩;unfold A1;cases a:Zc pg n with
 |none=>rw [d n (XaU a)]; rfl
 |some p =>
  obtain ⟨k,rfl,e⟩:=Hg a;rw [c _ e]; rfl
end
theorem J5:∀ (N:Nat) (l:List Nat),l.Nodup->(∀ n ∈ l,n<N)->l.length<=N
 |0,l,_,h=>by
  cases l with
  |nil=>exact XE _
  |cons a r=>exact absurd (h a (by simp)) (Nat.not_lt_zero _)
 |N+1,l,c,h=>by
  have ih:=J5 N (l.erase N) (c.erase N) (fun n b=>by
   obtain ⟨e,d⟩:=(c.mem_erase_iff).1 b;have:=h n d;omega)
  by_cases b:N ∈ l
  ·rw [List.length_erase_of_mem b] at ih; omega
  ·rw [List.erase_of_not_mem b] at ih; omega
theorem XcE:∀ {m m':AL},(m.map fun p=>((Value.int .i64 p.1,p.2):Value × Value))=m'.map (fun p=>(Value.int .i64 p.1,p.2))->m=m'
 |[],[],_=>rfl
 |[],_::_,h=>by cases h
 |_::_,[],h=>by cases h
 |(a,v)::r,(b,u)::t,h=>by
  simp only [ZB,List.cons.injEq,Prod.mk.injEq,Value.int.injEq,true_and] at h;obtain ⟨⟨rfl,rfl⟩,h⟩:=h;rw [XcE h]
theorem Yq.uniq {w:World} {r:Nat} {m m':AL} (h:Yq w r m) (h':Yq w r m'):m=m':=by
 obtain ⟨es,c,e,a⟩:=h;obtain ⟨es',c',b,d⟩:=h';rw [e] at b;cases b
 unfold Q6 at a d;exact XcE (a.symm.trans d)
theorem Sm.Ok.few (h:x.Ok):x.pg.length<=1024/\x.opn.length<=1024/\Yn x.pg<=524288:=by
 have a:=J5 _ _ h.nodup (fun n c=>by obtain ⟨e,d,rfl⟩:=List.mem_map.1 c; exact (h.each e d).1);rw [XM] at a;have g:=Xe9 (l:=x.pg) (b:=x.blocks) (fun e d=>(h.each e d).2.1);have i:=Nat.mul_le_mul a h.blk.2;exact ⟨a,(J5 1024 x.opn h.onodup (fun n c=>by obtain ⟨p,f⟩:=h.osub n c; exact (h.each _ f).1)),by omega⟩
theorem Zu.kds {w:World} {x:PlM} (h:Zu w P x):kd w P.pb=some (some 227)/\kd w P.ab=some (some 280):=by
 obtain ⟨head,f,a,b,_⟩:=h.at';exact ⟨Yb a,Yb b⟩
def Ah (S:Sh) (G:Nat->Pg) (pg:PgL):Nat->Prop:=fun z=>Y1 S G pg z\/Ai S.P z
section
variable {w w':World} {S:Sh} {G:Nat->Pg} {cls:Int} {blocks:Nat} {pg:PgL} {opn:List Nat} {used:Int} {pl:PlM}
theorem Y5.notpool (h:Y5 w S G cls blocks pg opn used) (hp:Zu w S.P pl):¬ Y1 S G pg S.P.pb /\ ¬ Y1 S G pg S.P.ab:=by
 obtain ⟨f,g⟩:=hp.kds;have a:=h.apart f (by decide);have b:=h.apart g (by decide);constructor
 ·rintro (e | e | e | ⟨e,c,d⟩)
  ·exact a.1.1 e
  ·exact a.1.2.1 e
  ·exact a.1.2.2.2 e
  ·exact (a.2 e c).2 d
 ·rintro (e | e | e | ⟨e,c,d⟩)
  ·exact b.1.1 e
  ·exact b.1.2.1 e
  ·exact b.1.2.2.2 e
  ·exact (b.2 e c).2 d
theorem Zu.far (h:Y5 w S G cls blocks pg opn used) (hp:Zu w S.P pl) (hc:Xc S' w w') (hs:∀ z,S' z->Y1 S G pg z):Zu w' S.P pl:=by
 obtain ⟨a,b⟩:=h.notpool hp;exact hp.chg hc (fun c=>a (hs _ c)) (fun c=>b (hs _ c))
theorem Xba (ht:Az w) (hp:Zu w S.P pl):¬ Ai S.P 0:=fun c=>by
 obtain ⟨head,f,a,b,_⟩:=hp.at';have d:=hp.good.len;rcases c with e | e
 ·exact Ki ht (fun v e=>by rw [Yi a] at e; simp [J7] at e) e
 ·exact Ki ht (fun v e=>by rw [Dz b (j:=0) (k:=0) rfl (by omega)] at e; cases e) e
theorem Y5.pool (h:Y5 w S G cls blocks pg opn used) (hp:Zu w S.P pl) (hc:Xc (Ai S.P) w w'):Y5 w' S G cls blocks pg opn used:=by
 obtain ⟨d,e⟩:=hp.kds;have b:=h.apart d (by decide);have c:=h.apart e (by decide);refine h.chg hc (fun z a => ?_) (fun z a => ?_) (Xba h.tab hp)
 ·rcases a with rfl | rfl
  ·exact b.1
  ·exact c.1
 ·rcases a with rfl | rfl
  ·exact b.2
  ·exact c.2
end
structure Qe (w:World) (S:Sh) (G:Nat->Pg) (x:Sm) (pl:PlM):Prop where
 ok:x.Ok
 pos:x.Pos
 of:x.Of pl
 at':Y5 w S G x.cls x.blocks x.pg x.opn (Yn x.pg:Nat)
 pool:Zu w S.P pl
theorem Qe.grow {w w':World} {S:Sh} {G:Nat->Pg} {x:Sm} {pl:PlM} (h:Qe w S G x pl) (hc:Xc Xe w w'):Qe w' S G x pl:=⟨h.ok,h.pos,h.of,h.at'.grow hc,h.pool.grow hc⟩
theorem Ml {pl:PlM} (hok:x.Ok) (hof:x.Of pl) (hg:pl.Good) (hn:n ∈ pl.free):n ∉ x.pg.map (·.1):=fun a=>by
 obtain ⟨e,b,rfl⟩:=List.mem_map.1 a;have c:=(hof e b).2;have d:=(hg.free _ hn).2;have:=hok.cls;omega
theorem XkH (S:Sh) (G:Nat->Pg) (x:Sm) (pl:PlM) (w:World) (h:Qe w S G x pl) (hf:pl.free = []):Xf prog 221 #[B4 S] w (fun v w'=>v = .tuple #[.int .i64 0,.int .i64 5]/\Qe w' S G x pl/\Xc (Ai S.P) w w'):=by
 have p:=h.ok.cls;have eE:D4 pl x.cls=5:=by unfold D4; rw [if_neg (by omega),hf]; rfl
 have eN:H0 pl x.cls=0:=by unfold H0; rw [eE]; rfl
 have eT:Hc pl x.cls=pl:=by unfold Hc; rw [eE]; rfl
 have q:¬ Ai S.P S.sb:=fun l=>by
  obtain ⟨m,n⟩:=h.pool.kds;rcases l with e | e
  ·exact Xs h.at'.kds.sb m (by decide) e
  ·exact Xs h.at'.kds.sb n (by decide) e
 refine ζe func221 ntmps221 ϱ (ζd 14 (Ai S.P) (by kernel_rfl) ϱ fun b=>δl b h.at'.obj ϱ (δl b h.at'.obj ϱ (Xd.turn1 b rfl fun i a => ?_)));have g:=Xap S.P pl x.cls i (h.pool.grow a);rw [eE,eN,eT] at g;refine Xq.call rfl g.fn (Post:=fun v d=>v = .tuple #[.int .i64 0,.int .i64 5]/\Zu d S.P pl/\Xc (Ai S.P) i d) (fun o=>g.mono fun v d j=>⟨o.trans j.2.2,j⟩) ?_;rintro _ d _ ⟨rfl,k,f⟩;refine Xd.adv Xb b rfl (δn b ϱ fun r c=>ζy ϱ ?_);exact ζr func221 ϱ ⟨rfl,⟨h.ok,h.pos,h.of,((h.at'.grow a).pool (h.pool.grow a) f).grow c,k.grow c⟩,(a.gr.trans f).trans c.gr⟩
theorem XkG (S:Sh) (G:Nat->Pg) (x:Sm) (pl:PlM) (n:Nat) (r:List Nat) (w:World) (h:Qe w S G x pl) (hf:pl.free=n::r) (hn4:n<1024):Xf prog 221 #[B4 S] w (fun v w'=>v = .tuple #[.int .i64 n,.int .i64 0] /\ ∃ g,(w.heap.size<=g.p/\w.heap.size<=g.bb/\w.heap.size<=g.mb)/\Y5 w' S (Hd G n g) x.cls x.blocks (x.fresh n).pg (x.fresh n).opn (Yn x.pg:Nat)/\Zu w' S.P (pl.take x.cls)/\Xc (Ah S G x.pg) w w'):=by
 have a2:=h.ok.cls;have eE:D4 pl x.cls=0:=by unfold D4; rw [if_neg (by omega),hf]; rfl
 have eN:H0 pl x.cls=n:=by unfold H0; rw [if_pos eE,hf]; rfl
 have eT:Hc pl x.cls=pl.take x.cls:=by unfold Hc; rw [if_pos eE]
 have o:=Ml h.ok h.of h.pool.good (n:=n) (by rw [hf]; simp);have F:n ∉ x.opn:=fun C=>by obtain ⟨p,D⟩:=h.ok.osub n C; exact o (List.mem_map.2 ⟨_,D,rfl⟩)
 have ho:¬ Ai S.P S.sb:=fun P=>by
  obtain ⟨Q,R⟩:=h.pool.kds;rcases P with e | e
  ·exact Xs h.at'.kds.sb Q (by decide) e
  ·exact Xs h.at'.kds.sb R (by decide) e
 refine ζe func221 ntmps221 ϱ (ζd 14 (Ai S.P) (by kernel_rfl) ϱ fun a=>δl a h.at'.obj ϱ (δl a h.at'.obj ϱ (Xd.turn1 a rfl fun H d => ?_)));have E:=Xap S.P pl x.cls H (h.pool.grow d);rw [eE,eN,eT] at E;refine Xq.call rfl E.fn (Post:=fun v c=>v = .tuple #[.int .i64 n,.int .i64 0]/\Zu c S.P (pl.take x.cls)/\Xc (Ai S.P) H c) (fun T=>E.mono fun v c D=>⟨T.trans D.2.2,D⟩) ?_;rintro _ c _ ⟨rfl,I,q⟩;refine Xd.adv Xb a rfl (δn a ϱ fun l i=>ζf ϱ ?_);have b:=((h.at'.grow d).pool (h.pool.grow d) q).grow i;have a3:w.heap.size<=l.heap.size:=by have:=d.size; have:=q.size; have:=i.size; omega
 have a4:=Xs b.kds.sb b.kds.sm (by simp);have J:∀ w',Xc Xe l w'->Xf prog 187 #[.int .i64 x.blocks] w' (fun v c=>Xc (fun z=>z=S.sm) w' c/\Xc Xe l c /\ ∃ g,v = .tuple #[D3 g,.int .i64 0]/\(l.heap.size<=g.p/\l.heap.size<=g.bb/\l.heap.size<=g.mb)/\Qu c g (List.replicate x.blocks (-1))):=fun w' f =>
  (XdT x.blocks w' (b.grow f).tab h.ok.blk).mono fun v c ⟨g,U,⟨b1,b2,b3⟩,V,K⟩=>⟨K.gr,f.trans K,g,U,⟨by have:=f.size; omega,by have:=f.size; omega,by have:=f.size; omega⟩,V⟩
 refine ζd 15 (fun z=>z=S.sm) (by kernel_rfl) ϱ fun a=>δl a b.obj ϱ (δl a b.obj ϱ (Xd.callQ a rfl rfl (J) ?_));rintro _ w4 _ ⟨s,g,rfl,hb,W⟩;refine Xd.adv Xb a rfl (Xd.turn1 a rfl fun w5 j => ?_);have t:=b.grow (s.trans j);obtain ⟨m,C,a5⟩:=t.map;refine Xq.mapset Xb a rfl (C) (by first | (intro h; exact rfl) | (intro h; omega)) rfl fun w6 L u a6=>δn a ϱ fun w7 y => ?_;have A:=b.foot_lt;have M:=t.add o (W.grow j) (fun e=>by have:=A S.sm (.inr (.inl rfl)); omega) (fun e N=>⟨fun e'=>by have:=A _ (.inr (.inr (.inr ⟨e,N,.inl rfl⟩))); omega,fun e'=>by have:=A _ (.inr (.inr (.inr ⟨e,N,.inr rfl⟩))); omega⟩) (fun m' h'=>by
  rw [h'.uniq C];exact L) u
 have k:=M.grow y;refine ζl k.obj ϱ (ζc ϱ (XeB S.R x.opn n w7 k.ring hn4 F (by have:=h.ok.few; omega)) ?_);rintro _ w8 ⟨rfl,O,B⟩;refine ζa ϱ ?_;exact ζr func221 ϱ ⟨rfl,g,⟨by omega,by omega,by omega⟩,(k.setRing O B),(Zu.far k ((Zu.far t ((I.grow i).grow (s.trans j)) u (fun z e => .inr (.inl e))).grow y) B (fun z e => .inr (.inr (.inl e)))),(((((d.gr.trans q).trans i.gr).mono fun z _ h => .inr h).trans ((s.trans j).gr)).trans ((u.mono fun z _ e => .inl (.inr (.inl e))).trans y.gr)).trans (B.mono fun z _ e => .inl (.inr (.inr (.inl e))))⟩
def Fk (x:Sm) (pl:PlM):Nat:=match x.opn with
 |n::_=>n
 |[]=>pl.free.headD 0
def Ia (x:Sm) (pl:PlM):Sm:=match x.opn with
 |_::_=>x
 |[]=>x.fresh (pl.free.headD 0)
def Jm (x:Sm) (pl:PlM):PlM:=match x.opn with
 |_::_=>pl
 |[]=>pl.take x.cls
def Ey (x:Sm) (pl:PlM):List Int:=(Zc (Ia x pl).pg (Fk x pl)).getD []
def Qi (x:Sm) (pl:PlM) (who:Int):Int:=if who<0 then 1 else if x.opn.length=0/\pl.free.length=0 then 5 else 0
def By (x:Sm) (pl:PlM) (who:Int):Int:=if Qi x pl who=0 then (Fk x pl:Int) else 0
def Bx (x:Sm) (pl:PlM) (who:Int):Int:=if Qi x pl who=0 then Z7 (Ey x pl) else 0
def Q4 (x:Sm) (pl:PlM) (who:Int):Sm:=if Qi x pl who=0 then (Ia x pl).takeAt (Fk x pl) (Ey x pl) who else x
def Bz (x:Sm) (pl:PlM) (who:Int):PlM:=if Qi x pl who=0 then Jm x pl else pl
theorem K3 {S:Sh}:∀ z,Y1 S G (Zi pg n p) z->Y1 S G pg z:=fun z h=>by
 rcases h with h | h | h | ⟨e,a,b⟩
 ·exact .inl h
 ·exact .inr (.inl h)
 ·exact .inr (.inr (.inl h))
 ·rcases Eu a with ⟨rfl,q,c⟩ | ⟨_,a⟩
  ·exact .inr (.inr (.inr ⟨_,c,b⟩))
  ·exact .inr (.inr (.inr ⟨e,a,b⟩))
theorem Xhr {S:Sh}:∀ z,Y1 S G (Y8 pg n) z->Y1 S G pg z:=fun z h=>by
 rcases h with h | h | h | ⟨e,a,b⟩
 ·exact .inl h
 ·exact .inr (.inl h)
 ·exact .inr (.inr (.inl h))
 ·exact .inr (.inr (.inr ⟨e,(Hx.1 a).2,b⟩))
theorem Xht {S:Sh} {g:Pg} (hn:n ∉ pg.map (·.1)) (hg:b<=g.bb/\b<=g.mb):∀ z,Y1 S (Hd G n g) (pg ++ [(n,p)]) z->Y1 S G pg z\/b<=z:=fun z h=>by
 rcases h with h | h | h | ⟨e,he,a⟩
 ·exact .inl (.inl h)
 ·exact .inl (.inr (.inl h))
 ·exact .inl (.inr (.inr (.inl h)))
 ·rcases List.mem_append.1 he with he | he
  ·have:Hd G n g e.1=G e.1:=if_neg (fun e'=>hn (List.mem_map.2 ⟨e,he,e'⟩));rw [this] at a;exact .inl (.inr (.inr (.inr ⟨e,he,a⟩)))
  ·have:e=(n,p):=by simpa using he
   subst this;have:Hd G n g n=g:=if_pos rfl;rw [this] at a;rcases a with rfl | rfl
   ·exact .inr hg.1
   ·exact .inr hg.2
theorem Sm.Of.set {pl:PlM} (h:x.Of pl) (hc:x'.cls=x.cls) (hs:∀ e ∈ x'.pg,∃ q,(e.1,q) ∈ x.pg):x'.Of pl:=fun e a=>by
 obtain ⟨q,b⟩:=hs e a;rw [hc];exact h (e.1,q) b
theorem Lt (h:e ∈ Zi pg n p):∃ q,(e.1,q) ∈ pg:=by
 rcases Eu h with ⟨rfl,q,a⟩ | ⟨_,b⟩
 ·exact ⟨q,a⟩
 ·exact ⟨e.2,b⟩
theorem Sm.Of.fresh {pl:PlM} (h:x.Of pl) (hg:pl.Good) {r:List Nat} (hf:pl.free=n::r):(x.fresh n).Of (pl.take x.cls):=by
 have e:pl.take x.cls=⟨pl.own.set n x.cls,r⟩:=by unfold PlM.take; rw [hf]
 obtain ⟨a,b⟩:=hg.free n (by rw [hf]; simp);rw [e];intro u hu;show u.1<(pl.own.set n x.cls).length/\(pl.own.set n x.cls).getD u.1 0=x.cls
 rw [XF,E6];rcases List.mem_append.1 hu with hu | hu
 ·refine ⟨(h u hu).1,?_⟩;split
  ·rfl
  ·exact (h u hu).2
 ·have:u=(n,List.replicate x.blocks (-1)):=by simpa using hu
  subst this;exact ⟨a,if_pos ⟨rfl,a⟩⟩
theorem XcM {r:List Nat} (h:(n::r).Nodup):(n::r).filter (fun m=>m != n)=r:=by
 obtain ⟨a,_⟩:=List.nodup_cons.1 h;rw [ZE];simp only [bne_self_eq_false,YY,if_false];refine List.filter_eq_self.2 fun m b => ?_;simp only [bne_iff_ne,ne_eq];exact fun e=>a (e▸b)
theorem XkF (who:Int) (w:World):Xf prog 176 #[.pointer none,.int .i64 who] w (X7 (.tuple #[.int .i64 0,.int .i64 0,.int .i64 1]) w):=by
 exact ζe func176 ntmps176 ϱ (ζq rfl func176 (Xk.tmp rfl (.tmp rfl (.tmp rfl .nil))) ⟨rfl,rfl⟩)
theorem XkE (S:Sh) (G:Nat->Pg) (x:Sm) (pl:PlM) (who:Int) (w:World) (h:Qe w S G x pl):Xf prog 176 #[B4 S,.int .i64 who] w
 (fun v w'=>v = .tuple #[.int .i64 (By x pl who),.int .i64 (Bx x pl who),.int .i64 (Qi x pl who)] /\ ∃ G',Qe w' S G' (Q4 x pl who) (Bz x pl who)/\Xc (Ah S G x.pg) w w' /\ ∀ z,Y1 S G' (Q4 x pl who).pg z->Y1 S G x.pg z\/w.heap.size<=z):=by
 have eN:∀ e,Qi x pl who=e->e≠0->By x pl who=0/\Bx x pl who=0/\Q4 x pl who=x/\Bz x pl who=pl:=fun e h1 h2=>by
  unfold By Bx Q4 Bz; rw [h1,if_neg h2,if_neg h2,if_neg h2,if_neg h2]; exact ⟨rfl,rfl,rfl,rfl⟩
 refine ζe func176 ntmps176 ϱ (ζg ϱ (fun g1 => ?_) fun g1 => ?_)
 ·have k1:=of_decide_eq_true g1;have e1:Qi x pl who=1:=by unfold Qi; rw [if_pos k1]
  obtain ⟨a,b,c,d⟩:=eN 1 e1 (by decide);rw [a,b,c,d,e1];exact ζq rfl func176 (Xk.tmp rfl (.tmp rfl (.tmp rfl .nil))) ⟨rfl,G,h,Xc.refl _ _,fun z k => .inl k⟩
 have R:0<=who:=by have:=of_decide_eq_false g1; omega
 refine ζl h.at'.obj ϱ (ζw (XeA S.R x.opn w h.at'.ring) ϱ ?_);obtain ⟨f,E⟩:∃ f,f=Ia x pl:=⟨_,rfl⟩;obtain ⟨u,H⟩:∃ u,u=Jm x pl:=⟨_,rfl⟩;cases F:x.opn with
 |nil =>
  refine ζy ϱ ?_;cases V:pl.free with
  |nil =>
   have e1:Qi x pl who=5:=by unfold Qi; rw [if_neg (by omega),if_pos (by rw [F,V]; exact ⟨rfl,rfl⟩)]
   obtain ⟨a,b,c,d⟩:=eN 5 e1 (by decide);rw [a,b,c,d,e1];refine ζc ϱ (XkH S G x pl w h V) ?_;rintro _ w1 ⟨rfl,h1,b0⟩;exact ζa ϱ (ζy ϱ (ζq rfl func176 (Xk.tmp rfl (.tmp rfl (.tmp rfl .nil))) ⟨rfl,G,h1,b0.mono fun z _ h => .inr h,fun z k => .inl k⟩))
  |cons n r0 =>
   have ap:n<1024:=by have:=(h.pool.good.free n (by rw [V]; simp)).1; have:=h.pool.good.len; omega
   have e1:Qi x pl who=0:=by unfold Qi; rw [if_neg (by omega),if_neg (by rw [V]; simp)]
   have ab:=Ml h.ok h.of h.pool.good (n:=n) (by rw [V]; simp);have i:f=x.fresh n:=by rw [E]; unfold Ia; rw [F,V]; rfl
   have I:u=pl.take x.cls:=by rw [H]; unfold Jm; rw [F]
   have J:Fk x pl=n:=by unfold Fk; rw [F,V]; rfl
   refine ζc ϱ (XkG S G x pl n r0 w h V ap) ?_;rintro _ W ⟨rfl,g,aq,y,hP,ac⟩;refine ζa ϱ (ζf ϱ ?_);have j:f.Ok:=by rw [i]; exact h.ok.fresh ap ab
   have a8:f.Of u:=by rw [i,I]; exact h.of.fresh h.pool.good V
   obtain ⟨p,ad⟩:∃ p,p=List.replicate x.blocks (-1:Int):=⟨_,rfl⟩;have o:(n,p) ∈ f.pg:=by rw [i,ad]; exact YJ _ (by simp)
   have a9:p.length=f.blocks:=by rw [i,ad]; exact XH
   have b8:Xv p=0:=by rw [ad]; exact Ha _
   have l:f.opn=n :: []:=by rw [i]; show n::x.opn=_; rw [F]
   obtain ⟨r,b1⟩:∃ r:List Nat,r = []:=⟨_,rfl⟩;rw [<- b1] at l;have b9:=h.ok.blk;have b2:f.blocks=x.blocks:=by rw [i]; rfl
   obtain ⟨eE,eU⟩:=Je (p:=p) R (by omega);have eA:Ce p who=Z7 p:=by unfold Ce; rw [if_pos eE]
   have a2:Ey x pl=p:=by unfold Ey; rw [<- E,J,A4 j.nodup o]; rfl
   have a0:∀ e:Nat × List Int,e.1≠n->e ∈ f.pg->0<Xv e.2:=fun e T he=>by
    rw [i] at he;rcases List.mem_append.1 he with he | he
    ·exact h.pos e he
    ·have:e=(n,List.replicate x.blocks (-1)):=by simpa using he
     rw [this] at T; exact absurd rfl T
   have r1:By x pl who=n:=by unfold By; rw [if_pos e1,J]
   have r2:Bx x pl who=Z7 p:=by unfold Bx; rw [if_pos e1,a2]
   have r3:Q4 x pl who=f.takeAt n p who:=by unfold Q4; rw [if_pos e1,a2,J,<- E]
   have r4:Bz x pl who=u:=by unfold Bz; rw [if_pos e1,<- H]
   rw [r1,r2,r3,r4,e1];rw [<- I] at hP;obtain ⟨s,U⟩:∃ s,s=Hd G n g:=⟨_,rfl⟩;rw [<- U,show x.cls=f.cls from by rw [i]; rfl,show x.blocks=f.blocks from b2.symm,show (x.fresh n).pg=f.pg from by rw [i],show (x.fresh n).opn=f.opn from by rw [i],show ((Yn x.pg:Nat):Int)=(Yn f.pg:Nat) from by
    rw [i]; show ((Yn x.pg:Nat):Int)=(Yn (x.pg ++ [(n,List.replicate x.blocks (-1))]):Nat); rw [XaX,Ha]; rfl] at y
   have t:∀ z,Y1 S s f.pg z->Y1 S G x.pg z\/w.heap.size<=z:=by rw [U,i]; exact Xht ab ⟨aq.2.1,aq.2.2⟩
   have A:∀ z,z<w.heap.size->Y1 S s f.pg z->Ah S G x.pg z:=fun z k h=>by
    rcases t z h with h | h
    ·exact .inl h
    ·omega
   refine ζl y.obj ϱ ?_;obtain ⟨ma,ae,a3⟩:=y.look n;rw [A4 j.nodup o] at a3;refine Xa.lookup Xb rfl (ae) (a3) rfl ?_;have hd:=XdW (s n) p who W (y.pages _ o);rw [eE,eA] at hd;refine ζc ϱ (hd) ?_;rintro _ wa ⟨rfl,ag,K⟩;have C:=y.page o ag K;refine ζa ϱ (ζl C.obj ϱ (ζJ ϱ (by have:=j.few; omega) (ζs C.obj ϱ fun wb ah L b3 => ?_)));have D:=C.setUsed ah L;have a4:(n,Zy p who) ∈ Zi f.pg n (Zy p who):=List.mem_map.2 ⟨(n,p),o,if_pos rfl⟩;refine ζl D.obj ϱ ?_;obtain ⟨mb,ai,a5⟩:=D.look n;rw [A4 (by rw [Jq]; exact j.nodup) a4] at a5;refine Xa.lookup Xb rfl (ai) (a5) rfl (ζv (O6 (s n) (Zy p who) wb (D.pages _ a4)) ϱ fun wc M => ?_);have q:=D.grow M;have a6:=(Zu.far C (Zu.far y hP K (fun z h => .inr (.inr (.inr ⟨_,o,h⟩)))) L (fun z h => .inl h)).grow M;have a7:=((ac.since K (fun z k h=>A z k (.inr (.inr (.inr ⟨_,o,h⟩))))).since L (fun z k h=>A z k (.inl h))).trans M.gr;have aj:((Yn (Zi f.pg n (Zy p who)):Nat):Int)=(Yn f.pg:Nat)+1:=by have:=Lu (p:=Zy p who) j.nodup o; omega
   rw [<- aj] at q;have N:(f.takeAt n p who).Pos:=fun e he=>by
    rcases Eu he with ⟨rfl,_⟩ | ⟨T,he⟩
    ·show 0<Xv (Zy p who); omega
    ·exact a0 e T he
   have O:(f.takeAt n p who).Of u:=a8.set rfl (fun e he=>Lt he);have a1:((Xv (Zy p who):Int) == (Zy p who).length)=decide (Xv (Zy p who)=f.blocks):=by rw [Lg,a9]; exact Bool.eq_iff_iff.2 (by simp only [beq_iff_eq,decide_eq_true_eq]; omega)
   rw [a1];refine ζg ϱ (fun B => ?_) fun B => ?_
   ·have gful:=of_decide_eq_true B;refine ζl q.obj ϱ ?_;have hr:=q.ring;rw [l] at hr;refine ζc ϱ (Ta S.R [] r n wc hr (by have:=j.few; have e:=congrArg List.length l; simp only [XP,ZL] at e ⊢; omega)) ?_;rintro _ wd ⟨rfl,al,P⟩;have Q:(f.takeAt n p who).opn=r:=by
     show (if Xv (Zy p who)=f.blocks then f.opn.filter (fun m=>m != n) else f.opn)=r
     rw [if_pos gful,l];exact XcM (l▸j.onodup)
    exact ζa ϱ (ζq rfl func176 (Xk.tmp rfl (.tmp rfl (.tmp rfl .nil))) ⟨rfl,s,⟨j.takeAt R o (by rw [l]; simp),N,O,by rw [Q]; exact (q.setRing al P),(Zu.far q a6 P (fun z h => .inr (.inr (.inl h))))⟩,a7.since P (fun z k h=>A z k (.inr (.inr (.inl h)))),fun z h=>t z (K3 z h)⟩)
   ·have gful:=of_decide_eq_false B;have Q:(f.takeAt n p who).opn=f.opn:=by
     show (if Xv (Zy p who)=f.blocks then f.opn.filter (fun m=>m != n) else f.opn)=_
     rw [if_neg gful]
    exact ζq rfl func176 (Xk.tmp rfl (.tmp rfl (.tmp rfl .nil))) ⟨rfl,s,⟨j.takeAt R o (by rw [l]; simp),N,O,by rw [Q]; exact q,a6⟩,a7,fun z h=>t z (K3 z h)⟩
 |cons n r =>
  have e1:Qi x pl who=0:=by unfold Qi; rw [if_neg (by omega),if_neg (by rw [F]; simp)]
  have i:f=x:=by rw [E]; unfold Ia; rw [F]
  have I:u=pl:=by rw [H]; unfold Jm; rw [F]
  have J:Fk x pl=n:=by unfold Fk; rw [F]
  refine ζF ϱ (by show ((n:Int) == -1)=false; simp) ?_;obtain ⟨p,am⟩:=(h.ok.osub n (by rw [F]; simp));have j:f.Ok:=by rw [i]; exact h.ok
  have a8:f.Of u:=by rw [i,I]; exact h.of
  have o:(n,p) ∈ f.pg:=by rw [i]; exact am
  have a9:p.length=f.blocks:=by rw [i]; exact (h.ok.each _ am).2.1
  have l:f.opn=n::r:=by rw [i]; exact F
  have b4:Xv p≠f.blocks:=by rw [i]; exact (h.ok.each _ am).2.2.1 (by rw [F]; simp)
  obtain ⟨eE,eU⟩:=Je (p:=p) R (by rw [a9]; exact b4);have eA:Ce p who=Z7 p:=by unfold Ce; rw [if_pos eE]
  have a2:Ey x pl=p:=by unfold Ey; rw [<- E,J,A4 j.nodup o]; rfl
  have a0:∀ e:Nat × List Int,e.1≠n->e ∈ f.pg->0<Xv e.2:=fun e _ he=>by rw [i] at he; exact h.pos e he
  have r1:By x pl who=n:=by unfold By; rw [if_pos e1,J]
  have r2:Bx x pl who=Z7 p:=by unfold Bx; rw [if_pos e1,a2]
  have r3:Q4 x pl who=f.takeAt n p who:=by unfold Q4; rw [if_pos e1,a2,J,<- E]
  have r4:Bz x pl who=u:=by unfold Bz; rw [if_pos e1,<- H]
  rw [r1,r2,r3,r4,e1];have y:=h.at';have hP:=h.pool;rw [<- i] at y;rw [<- I] at hP;obtain ⟨W,hW⟩:∃ W,W=w:=⟨_,rfl⟩;rw [<- hW] at y hP;obtain ⟨s,U⟩:∃ s,s=G:=⟨_,rfl⟩;rw [<- U] at y;have ac:Xc (Ah S G x.pg) w W:=by rw [hW]; exact Xc.refl _ _
  have t:∀ z,Y1 S s f.pg z->Y1 S G x.pg z\/w.heap.size<=z:=fun z k => .inl (by rw [U,i] at k; exact k);have A:∀ z,z<w.heap.size->Y1 S s f.pg z->Ah S G x.pg z:=fun z _ k => .inl (by rw [U,i] at k; exact k);have ao:∀ {X:World->Prop},X W->X w:=fun h=>hW▸h;refine ao (X:=fun w2=>Xa _ _ _ _ _ _ _ w2) (ζl y.obj ϱ ?_);obtain ⟨ma,ae,a3⟩:=y.look n;rw [A4 j.nodup o] at a3;refine Xa.lookup Xb rfl (ae) (a3) rfl ?_;have hd:=XdW (s n) p who W (y.pages _ o);rw [eE,eA] at hd;refine ζc ϱ (hd) ?_;rintro _ wa ⟨rfl,ag,K⟩;have C:=y.page o ag K;refine ζa ϱ (ζl C.obj ϱ (ζJ ϱ (by have:=j.few; omega) (ζs C.obj ϱ fun wb ah L b3 => ?_)));have D:=C.setUsed ah L;have a4:(n,Zy p who) ∈ Zi f.pg n (Zy p who):=List.mem_map.2 ⟨(n,p),o,if_pos rfl⟩;refine ζl D.obj ϱ ?_;obtain ⟨mb,ai,a5⟩:=D.look n;rw [A4 (by rw [Jq]; exact j.nodup) a4] at a5;refine Xa.lookup Xb rfl (ai) (a5) rfl (ζv (O6 (s n) (Zy p who) wb (D.pages _ a4)) ϱ fun wc M => ?_);have q:=D.grow M;have a6:=(Zu.far C (Zu.far y hP K (fun z h => .inr (.inr (.inr ⟨_,o,h⟩)))) L (fun z h => .inl h)).grow M;have a7:=((ac.since K (fun z k h=>A z k (.inr (.inr (.inr ⟨_,o,h⟩))))).since L (fun z k h=>A z k (.inl h))).trans M.gr;have aj:((Yn (Zi f.pg n (Zy p who)):Nat):Int)=(Yn f.pg:Nat)+1:=by have:=Lu (p:=Zy p who) j.nodup o; omega
  rw [<- aj] at q;have N:(f.takeAt n p who).Pos:=fun e he=>by
   rcases Eu he with ⟨rfl,_⟩ | ⟨T,he⟩
   ·show 0<Xv (Zy p who); omega
   ·exact a0 e T he
  have O:(f.takeAt n p who).Of u:=a8.set rfl (fun e he=>Lt he);have a1:((Xv (Zy p who):Int) == (Zy p who).length)=decide (Xv (Zy p who)=f.blocks):=by rw [Lg,a9]; exact Bool.eq_iff_iff.2 (by simp only [beq_iff_eq,decide_eq_true_eq]; omega)
  rw [a1];refine ζg ϱ (fun B => ?_) fun B => ?_
  ·have gful:=of_decide_eq_true B;refine ζl q.obj ϱ ?_;have hr:=q.ring;rw [l] at hr;refine ζc ϱ (Ta S.R [] r n wc hr (by have:=j.few; have e:=congrArg List.length l; simp only [XP,ZL] at e ⊢; omega)) ?_;rintro _ wd ⟨rfl,al,P⟩;have Q:(f.takeAt n p who).opn=r:=by
    show (if Xv (Zy p who)=f.blocks then f.opn.filter (fun m=>m != n) else f.opn)=r
    rw [if_pos gful,l];exact XcM (l▸j.onodup)
   exact ζa ϱ (ζq rfl func176 (Xk.tmp rfl (.tmp rfl (.tmp rfl .nil))) ⟨rfl,s,⟨j.takeAt R o (by rw [l]; simp),N,O,by rw [Q]; exact (q.setRing al P),(Zu.far q a6 P (fun z h => .inr (.inr (.inl h))))⟩,a7.since P (fun z k h=>A z k (.inr (.inr (.inl h)))),fun z h=>t z (K3 z h)⟩)
  ·have gful:=of_decide_eq_false B;have Q:(f.takeAt n p who).opn=f.opn:=by
    show (if Xv (Zy p who)=f.blocks then f.opn.filter (fun m=>m != n) else f.opn)=_
    rw [if_neg gful]
   exact ζq rfl func176 (Xk.tmp rfl (.tmp rfl (.tmp rfl .nil))) ⟨rfl,s,⟨j.takeAt R o (by rw [l]; simp),N,O,by rw [Q]; exact q,a6⟩,a7,fun z h=>t z (K3 z h)⟩
def Xar (G:Nat->Pg) (n:Int) (o:Option (List Int)):Value:=match o with
 |some _=>D3 (G n.toNat)
 |none => .pointer none
theorem XaQ (S:Sh) (G:Nat->Pg) (x:Sm) (pl:PlM) (n:Int) (w:World) (h:Qe w S G x pl):Xf prog 219 #[B4 S,.int .i64 n] w (X7 (Xar G n (Zc x.pg n)) w):=by
 obtain ⟨m,a,b⟩:=h.at'.look n;exact ζe func219 ntmps219 ϱ (ζl h.at'.obj ϱ (Xa.lookup Xb rfl (a) ((b.trans (show _=Xar G n (Zc x.pg n) from by unfold Xar; cases Zc x.pg n <;> rfl))) rfl (ζr func219 ϱ ⟨rfl,rfl⟩)))
theorem XaR (n:Int) (w:World):Xf prog 219 #[.pointer none,.int .i64 n] w (X7 (.pointer none) w):=by
 exact ζe func219 ntmps219 ϱ (ζr func219 ϱ ⟨rfl,rfl⟩)
def Qm (x:Sm) (n i:Int):Int:=match Zc x.pg n with
 |some p=>Z8 p i
 |none => -1
theorem XkA (S:Sh) (G:Nat->Pg) (x:Sm) (pl:PlM) (n i:Int) (w:World) (h:Qe w S G x pl):Xf prog 174 #[B4 S,.int .i64 n,.int .i64 i] w (X7 (.int .i64 (Qm x n i)) w):=by
 unfold Qm;refine ζe func174 ntmps174 ϱ (ζw (XaQ S G x pl n w h) ϱ ?_);cases a:Zc x.pg n with
 |none =>
  exact ζw (XdV i w) ϱ (ζr func174 ϱ ⟨rfl,rfl⟩)
 |some p =>
  obtain ⟨k,rfl,b⟩:=Hg a;exact ζw (XiQ (G k) p i w (h.at'.pages _ b)) ϱ (ζr func174 ϱ ⟨rfl,rfl⟩)
theorem XkB (n i:Int) (w:World):Xf prog 174 #[.pointer none,.int .i64 n,.int .i64 i] w (X7 (.int .i64 (-1)) w):=by
 exact ζe func174 ntmps174 ϱ (ζw (XaR n w) ϱ (ζw (XdV i w) ϱ (ζr func174 ϱ ⟨rfl,rfl⟩)))
theorem XeZ (S:Sh) (G:Nat->Pg) (x:Sm) (pl:PlM) (w:World) (h:Qe w S G x pl):Xf prog 107 #[B4 S] w (X7 (.int .i64 (x.opn.length:Nat)) w):=by
 exact ζe func107 ntmps107 ϱ (ζl h.at'.obj ϱ (ζw (Xj3 S.R x.opn w h.at'.ring) ϱ (ζr func107 ϱ ⟨rfl,rfl⟩)))
theorem Xe0 (w:World):Xf prog 107 #[.pointer none] w (X7 (.int .i64 0) w):=by
 exact ζe func107 ntmps107 ϱ (ζr func107 ϱ ⟨rfl,rfl⟩)
theorem Xe8 {l:PgL} (hn:(l.map (·.1)).Nodup) (hp:(n,p) ∈ l):Zi l n p=l:=by
 unfold Zi
 conv=>rhs; rw [<- List.map_id l]
 refine ZS fun e b => ?_;by_cases h:e.1=n
 ·rw [if_pos h];have a:=A4 hn (show (e.1,e.2) ∈ l from b);rw [h,(A4 hn hp)] at a;cases a
  rw [<- h];rfl
 ·rw [if_neg h]; rfl
def Gi (x:Sm) (n i who:Int):Int:=match Zc x.pg n with
 |some p=>Aa p i who
 |none=>1
def Aq (x:Sm) (n i who:Int):Sm:=match Zc x.pg n with
 |some p=>x.ownAt n.toNat p i who
 |none=>x
theorem Xky (S:Sh) (G:Nat->Pg) (x:Sm) (pl:PlM) (n i who:Int) (w:World) (h:Qe w S G x pl):Xf prog 190 #[B4 S,.int .i64 n,.int .i64 i,.int .i64 who] w
 (fun v w'=>v = .int .i64 (Gi x n i who)/\Qe w' S G (Aq x n i who) pl/\Xc (Ah S G x.pg) w w' /\ ∀ z,Y1 S G (Aq x n i who).pg z->Y1 S G x.pg z):=by
 unfold Gi Aq;refine ζe func190 ntmps190 ϱ (ζw (XaQ S G x pl n w h) ϱ ?_);cases f:Zc x.pg n with
 |none =>
  exact ζw (XdU i who w) ϱ (ζr func190 ϱ ⟨rfl,h,Xc.refl _ _,fun _ h=>h⟩)
 |some p =>
  obtain ⟨k,rfl,a⟩:=Hg f;refine ζc ϱ (XiP (G k) p i who w (h.at'.pages _ a)) ?_;rintro _ g ⟨rfl,j,c⟩;have l:Yn (Zi x.pg k (Bf p i who))=Yn x.pg:=by have:=Lu (p:=Bf p i who) h.ok.nodup a; rw [Su] at this; omega
  have d:(x.ownAt k p i who).Pos:=fun e b=>by
   rcases Eu b with ⟨rfl,_⟩ | ⟨_,b⟩
   ·show 0<Xv (Bf p i who); rw [Su]; exact h.pos _ a
   ·exact h.pos e b
  exact ζa ϱ (ζr func190 ϱ ⟨rfl,⟨h.ok.ownAt a,d,h.of.set rfl (fun e b=>Lt b),by show Y5 g S G x.cls x.blocks (Zi x.pg k (Bf p i who)) x.opn (Yn (Zi x.pg k (Bf p i who)):Nat); rw [l]; exact (h.at'.page a j c),(Zu.far h.at' h.pool c (fun z e => .inr (.inr (.inr ⟨_,a,e⟩))))⟩,c.mono fun z _ e => .inl (.inr (.inr (.inr ⟨_,a,e⟩))),fun z e=>K3 z e⟩)
theorem Xkz (n i who:Int) (w:World):Xf prog 190 #[.pointer none,.int .i64 n,.int .i64 i,.int .i64 who] w (X7 (.int .i64 1) w):=by
 exact ζe func190 ntmps190 ϱ (ζw (XaR n w) ϱ (ζw (XdU i who w) ϱ (ζr func190 ϱ ⟨rfl,rfl⟩)))
theorem XcN {l1:List Nat} (h:(l1++n::l2).Nodup):(l1++n::l2).filter (fun m=>m != n)=l1++l2:=by
 obtain ⟨f,b,c⟩:=List.nodup_append.1 h;obtain ⟨d,g⟩:=List.nodup_cons.1 b;rw [YZ,ZE];simp only [bne_self_eq_false,YY,if_false];rw [List.filter_eq_self.2 (fun m a=>by simp only [bne_iff_ne,ne_eq]; exact fun e=>c m a n (by simp) e),List.filter_eq_self.2 (fun m a=>by simp only [bne_iff_ne,ne_eq]; exact fun e=>d (e▸a))]
theorem XkI (S:Sh) (G:Nat->Pg) (cls:Int) (blocks:Nat) (pg:PgL) (opn:List Nat) (used:Int) (pl:PlM) (n:Nat) (p:List Int) (full:Bool) (w:World) (hS:Y5 w S G cls blocks pg opn used) (hP:Zu w S.P pl) (hp:(n,p) ∈ pg) (hn4:n<1024) (hfo:full=true->n ∉ opn) (hfo':full=false->n ∈ opn)
 (hon:opn.Nodup) (hol:opn.length<=1024) (hcl:0<=cls) (hof:n<pl.own.length/\pl.own.getD n 0=cls) :
 Fp prog 229 #[B4 S,.int .i64 n,D3 (G n),.bool full] w (fun _ w'=>Y5 w' S G cls blocks (if Xv p=0 then Y8 pg n else pg) (if Xv p=0 then (if full then n::opn else opn).filter (fun m=>m != n) else if full then n::opn else opn) used/\Zu w' S.P (if Xv p=0 then pl.give n else pl)/\Xc (Ah S G pg) w w'):=by
 refine Fp.enter func229 rfl ntmps229 rfl rfl (ζa ϱ ?_);cases full with
 |true =>
  have K:=hfo rfl;refine ζy ϱ (ζl hS.obj ϱ (ζc ϱ (XeB S.R opn n w hS.ring hn4 K (by omega)) ?_));rintro _ W ⟨rfl,P,L⟩;refine ζa ϱ ?_;have a:=hS.setRing P L;have j:=Zu.far hS hP L (fun z h => .inr (.inr (.inl h)));have f:Xc (Ah S G pg) w W:=L.mono fun z _ h => .inl (.inr (.inr (.inl h)));simp only [if_true];obtain ⟨c,b⟩:∃ o,o=n::opn:=⟨_,rfl⟩;have u:n ∈ c:=by rw [b]; simp
  have s:c.Nodup:=by rw [b]; exact List.nodup_cons.2 ⟨K,hon⟩
  have t:c.length<=4096:=by rw [b,XP]; omega
  rw [<- b] at a ⊢;refine ζw (XdX (G n) p W (a.pages _ hp)) ϱ ?_;by_cases d:Xv p=0
  ·rw [if_pos d,if_pos d,if_pos d];obtain ⟨v,x,k⟩:=List.append_of_mem u;refine ζY ϱ (show (((Xv p:Nat):Int) == 0)=true by rw [d]; rfl) (ζl a.obj ϱ ?_);have y:=a.ring;rw [k] at y;refine ζc ϱ (Ta S.R v x n W y (by rw [<- k]; exact t)) ?_;rintro _ wa ⟨rfl,A,g⟩;have e:=a.setRing A g;refine ζa ϱ (ζl e.obj ϱ ?_);obtain ⟨m,B,_⟩:=e.map;refine Xa.mapdel Xb rfl (B) fun wb C i O=>ζa ϱ ?_;have l:=e.del hp (fun m' M=>by rw [M.uniq B]; exact C) i;have q:=Zu.far e (Zu.far a j g (fun z h => .inr (.inr (.inl h)))) i (fun z h => .inr (.inl h));refine ζl l.obj ϱ ?_;have D:Z8 pl.own n=pl.own.getD n 0:=by
    unfold Z8; rw [if_pos (by omega)]; simp only [XA]; rw [Mm hof.1]
   have E:Ei pl n=0:=by unfold Ei; rw [if_neg (by have:=hof.1; omega),D,if_neg (by rw [hof.2]; omega)]
   have F:=Xao S.P pl n wb q;rw [show Ge pl n=pl.give n from by unfold Ge; rw [if_pos E]; rfl] at F;refine ζc ϱ (F) ?_;rintro _ wc ⟨rfl,H,r⟩;refine ζa ϱ ?_;have I:c.filter (fun m=>m != n)=v++x:=by rw [k]; exact XcN (k▸s)
   rw [I];exact ζr func229 ϱ ⟨(l.pool q r),H,((f.trans (g.mono fun z _ h => .inl (.inr (.inr (.inl h))))).trans (i.mono fun z _ h => .inl (.inr (.inl h)))).trans (r.mono fun z _ h => .inr h)⟩
  ·rw [if_neg d,if_neg d,if_neg d];exact ζF ϱ (show (((Xv p:Nat):Int) == 0)=false by simp; omega) (ζr func229 ϱ ⟨a,j,f⟩)
 |false =>
  refine ζf ϱ ?_;simp only [YY,if_false];obtain ⟨c,b⟩:∃ o,o=opn:=⟨_,rfl⟩;have u:n ∈ c:=by rw [b]; exact (hfo' rfl)
  have s:c.Nodup:=by rw [b]; exact hon
  have t:c.length<=4096:=by rw [b]; omega
  have a:=hS;have j:=hP;have f:Xc (Ah S G pg) w w:=Xc.refl _ _;rw [<- b] at a ⊢;obtain ⟨W,N⟩:∃ W,W=w:=⟨_,rfl⟩;have J:∀ {X:World->Prop},X W->X w:=fun h=>N▸h;rw [<- N] at a j;replace f:Xc (Ah S G pg) w W:=by rw [N]; exact f
  refine J (X:=fun Q=>Xa _ _ _ _ _ _ _ Q) (ζw (XdX (G n) p W (a.pages _ hp)) ϱ ?_);by_cases d:Xv p=0
  ·rw [if_pos d,if_pos d,if_pos d];obtain ⟨v,x,k⟩:=List.append_of_mem u;refine ζY ϱ (show (((Xv p:Nat):Int) == 0)=true by rw [d]; rfl) (ζl a.obj ϱ ?_);have y:=a.ring;rw [k] at y;refine ζc ϱ (Ta S.R v x n W y (by rw [<- k]; exact t)) ?_;rintro _ wa ⟨rfl,A,g⟩;have e:=a.setRing A g;refine ζa ϱ (ζl e.obj ϱ ?_);obtain ⟨m,B,_⟩:=e.map;refine Xa.mapdel Xb rfl (B) fun wb C i O=>ζa ϱ ?_;have l:=e.del hp (fun m' M=>by rw [M.uniq B]; exact C) i;have q:=Zu.far e (Zu.far a j g (fun z h => .inr (.inr (.inl h)))) i (fun z h => .inr (.inl h));refine ζl l.obj ϱ ?_;have D:Z8 pl.own n=pl.own.getD n 0:=by
    unfold Z8; rw [if_pos (by omega)]; simp only [XA]; rw [Mm hof.1]
   have E:Ei pl n=0:=by unfold Ei; rw [if_neg (by have:=hof.1; omega),D,if_neg (by rw [hof.2]; omega)]
   have F:=Xao S.P pl n wb q;rw [show Ge pl n=pl.give n from by unfold Ge; rw [if_pos E]; rfl] at F;refine ζc ϱ (F) ?_;rintro _ wc ⟨rfl,H,r⟩;refine ζa ϱ ?_;have I:c.filter (fun m=>m != n)=v++x:=by rw [k]; exact XcN (k▸s)
   rw [I];exact ζr func229 ϱ ⟨(l.pool q r),H,((f.trans (g.mono fun z _ h => .inl (.inr (.inr (.inl h))))).trans (i.mono fun z _ h => .inl (.inr (.inl h)))).trans (r.mono fun z _ h => .inr h)⟩
  ·rw [if_neg d,if_neg d,if_neg d];exact ζF ϱ (show (((Xv p:Nat):Int) == 0)=false by simp; omega) (ζr func229 ϱ ⟨a,j,f⟩)
def Bo (x:Sm) (n i:Int):Int:=match Zc x.pg n with
 |some p=>Qp p i
 |none=>1
def Q1 (x:Sm) (n i:Int):Sm:=match Zc x.pg n with
 |some p=>if Qp p i=0 then x.giveAt n.toNat p i else x
 |none=>x
def A3 (x:Sm) (pl:PlM) (n i:Int):PlM:=match Zc x.pg n with
 |some p=>if Qp p i=0/\Xv (Z6 p i)=0 then pl.give n.toNat else pl
 |none=>pl
theorem Xe7 (l:PgL) (n:Nat) (p:List Int):Y8 (Zi l n p) n=Y8 l n:=by
 induction l with
 |nil=>rfl
 |cons e r ih =>
  unfold Y8 Zi at *;rw [ZB,ZE,ZE];by_cases h:e.1=n
  ·rw [if_pos h];simp only [bne_self_eq_false,YY,if_false,h];exact ih
  ·rw [if_neg h];have:(e.1 != n)=true:=by simpa using h
   rw [if_pos this,if_pos this,ih]
theorem Xhs {S:Sh} {i:Int}:∀ z,Y1 S G (x.giveAt n p i).pg z->Y1 S G x.pg z:=fun z h=>by
 unfold Sm.giveAt at h;simp only at h
 split at h
 ·exact Xhr z h
 ·exact K3 z h
theorem Sm.Of.giveAt {x:Sm} {pl:PlM} (hok:x.Ok) (h:x.Of pl) {n:Nat} {p:List Int} {i:Int}:(x.giveAt n p i).Of (if Xv (Z6 p i)=0 then pl.give n else pl):=by
 unfold Sm.giveAt;simp only
 split
 ·intro e c;obtain ⟨d,c⟩:=Hx.1 c;obtain ⟨a,b⟩:=h e c;show e.1<(pl.own.set n (-1)).length/\(pl.own.set n (-1)).getD e.1 0=x.cls
  rw [XF,E6,if_neg (fun h=>d h.1.symm)];exact ⟨a,b⟩
 ·exact h.set rfl (fun e c=>Lt c)
theorem Xkw (n i:Int) (w:World):Xf prog 181 #[.pointer none,.int .i64 n,.int .i64 i] w (X7 (.int .i64 1) w):=by
 exact ζe func181 ntmps181 ϱ (ζw (XaR n w) ϱ (ζr func181 ϱ ⟨rfl,rfl⟩))
theorem Xkv (S:Sh) (G:Nat->Pg) (x:Sm) (pl:PlM) (n i:Int) (w:World) (h:Qe w S G x pl):Xf prog 181 #[B4 S,.int .i64 n,.int .i64 i] w
 (fun v w'=>v = .int .i64 (Bo x n i)/\Qe w' S G (Q1 x n i) (A3 x pl n i)/\Xc (Ah S G x.pg) w w' /\ ∀ z,Y1 S G (Q1 x n i).pg z->Y1 S G x.pg z):=by
 refine ζe func181 ntmps181 ϱ (ζw (XaQ S G x pl n w h) ϱ ?_);cases b:Zc x.pg n with
 |none =>
  rw [show Bo x n i=1 from by unfold Bo; rw [b],show Q1 x n i=x from by unfold Q1; rw [b],show A3 x pl n i=pl from by unfold A3; rw [b]];exact ζr func181 ϱ ⟨rfl,h,Xc.refl _ _,fun _ h=>h⟩
 |some p =>
  obtain ⟨k,rfl,a⟩:=Hg b;obtain ⟨B,C,l⟩:=h.ok.each _ a;simp only at B C l
  have P:=h.ok.few;refine ζv (O6 (G k) p w (h.at'.pages _ a)) ϱ fun Q m => ?_;have o:=h.at'.grow m;refine ζc ϱ (XiN (G k) p i Q (o.pages _ a)) ?_;rintro _ R ⟨rfl,J,q⟩;refine ζa ϱ ?_;have f:=o.page a J q;have r:=Zu.far o (h.pool.grow m) q (fun z e => .inr (.inr (.inr ⟨_,a,e⟩)));have D:Xc (Ah S G x.pg) w R:=m.gr.trans (q.mono fun z _ e => .inl (.inr (.inr (.inr ⟨_,a,e⟩))));by_cases d:Qp p i=0
  ·rw [show Bo x k i=0 from by unfold Bo; rw [b]; exact d,show Q1 x k i=x.giveAt k p i from by unfold Q1; rw [b]; simp only; rw [if_pos d]; rfl,show A3 x pl k i=(if Xv (Z6 p i)=0 then pl.give k else pl) from by unfold A3; rw [b]; simp only [d,true_and]; rfl,d];have hu:=Xd0 d;have a0:=Lu (p:=Z6 p i) h.ok.nodup a;refine ζf ϱ (Xa.defer rfl rfl (ζa ϱ (ζl f.obj ϱ (ζj ϱ (ζs f.obj ϱ fun T E s a1 => ?_)))));have K:((Yn x.pg:Nat):Int) - 1=(Yn (Zi x.pg k (Z6 p i)):Nat):=by omega
   rw [K] at E;have F:(k,Z6 p i) ∈ Zi x.pg k (Z6 p i):=List.mem_map.2 ⟨(k,p),a,if_pos rfl⟩;have H:((Xv p:Int) == p.length)=decide (Xv p=x.blocks):=by rw [C]; exact Bool.eq_iff_iff.2 (by simp only [beq_iff_eq,decide_eq_true_eq]; omega)
   have u:=XkI S G x.cls x.blocks _ x.opn _ pl k (Z6 p i) (decide (Xv p=x.blocks)) T (f.setUsed E s) (Zu.far f r s (fun z e => .inl e)) F B (fun e U=>(l.1 U) (of_decide_eq_true e)) (fun e=>l.2 (of_decide_eq_false e)) h.ok.onodup (by omega) h.ok.cls (h.of _ a);rw [<- H] at u;refine Xa.ret1D Xb rfl func181 rfl rfl rfl (Mr (args := [B4 S,.int .i64 k,D3 (G k),.bool ((Xv p:Int) == p.length)]) (captured := []) u.fn) ⟨u.fn,?_⟩;intro c cs L;obtain ⟨en,u',w',fr,⟨V,v,W,g,M,N⟩,y⟩:=u.calls c cs L;have I:(x.giveAt k p i).Pos:=by
    unfold Sm.giveAt;simp only
    split
    ·intro e t;exact h.pos e (Hx.1 t).2
    ·rename_i j
     intro e t;rcases Eu t with ⟨rfl,_⟩ | ⟨_,t⟩
     ·exact Nat.pos_of_ne_zero j
     ·exact h.pos e t
   refine ⟨en,u',w',fr,⟨V,v,W,rfl,⟨h.ok.giveAt a d,I,h.of.giveAt h.ok,?_,?_⟩,(D.trans (s.mono fun z _ e => .inl (.inl e))).trans (N.mono fun z _ j=>j.imp (K3 z) id),Xhs⟩,y⟩
   ·rw [H] at g;show Y5 w' S G (x.giveAt k p i).cls (x.giveAt k p i).blocks (x.giveAt k p i).pg (x.giveAt k p i).opn (Yn (x.giveAt k p i).pg:Nat)
    unfold Sm.giveAt;simp only
    simp only [decide_eq_true_eq] at g;by_cases j:Xv (Z6 p i)=0
    ·rw [if_pos j] at g ⊢;rw [if_pos j,Xe7] at g;have O:=(Tn (by rw [Jq]; exact h.ok.nodup) F).1;rw [Xe7] at O;show Y5 w' S G x.cls x.blocks (Y8 x.pg k) _ (Yn (Y8 x.pg k):Nat)
     rw [show Yn (Y8 x.pg k)=Yn (Zi x.pg k (Z6 p i)) by omega];exact g
    ·rw [if_neg j] at g ⊢;rw [if_neg j] at g;exact g
   ·exact M
  ·have A:Z6 p i=p:=by unfold Z6; rw [if_neg d]
   rw [A,Xe8 h.ok.nodup a] at f;rw [show Bo x k i=Qp p i from by unfold Bo; rw [b],show Q1 x k i=x from by unfold Q1; rw [b]; simp only; rw [if_neg d],show A3 x pl k i=pl from by unfold A3; rw [b]; simp only; rw [if_neg (fun h=>d h.1)]];exact ζY ϱ (show (Qp p i != 0)=true by simpa using d) (ζr func181 ϱ ⟨rfl,⟨h.ok,h.pos,h.of,f,r⟩,D,fun _ h=>h⟩)
def Jf (a b c d:Int):List Value := [.int .i64 a,.int .i64 b,.int .i64 c,.int .i64 d]
def Lq (x:Sm):Bool:=decide (2<=x.opn.length)
def Gj (x:Sm):List Value:=if 2<=x.opn.length then Jf (Bd (-1) x.opn) (J6 ((Zc x.pg (Bd (-1) x.opn)).getD [])) (Br x.opn) (Z7 ((Zc x.pg (Br x.opn)).getD [])) else Jf 0 0 0 0
theorem XkD (w:World):Xf prog 173 #[.pointer none] w (Grow (.tuple #[.agg (Jf 0 0 0 0).toArray,.bool false]) w):=by
 exact ζe func173 ntmps173 ϱ (ζn ϱ fun tb f e1 b c g=>ζw (Xe0 f) ϱ (ζy ϱ (ζb ϱ (ζs b ϱ fun i a d h=>ζR func173 a ϱ ⟨rfl,c.since d (fun z j e=>by omega)⟩))))
theorem XkC (S:Sh) (G:Nat->Pg) (x:Sm) (pl:PlM) (w:World) (h:Qe w S G x pl):Xf prog 173 #[B4 S] w (Grow (.tuple #[.agg (Gj x).toArray,.bool (Lq x)]) w):=by
 unfold Gj Lq;refine ζe func173 ntmps173 ϱ (ζn ϱ fun tb I e1 s j P => ?_);have g:=h.grow j;refine ζw (XeZ S G x pl I g) ϱ ?_;by_cases f:2<=x.opn.length
 ·refine ζf ϱ ?_;rw [if_pos f,decide_eq_true f];have n:∃ k ∈ x.opn,Bd (-1) x.opn=(k:Int):=by
   rcases I8 (-1) x.opn with ⟨e,_⟩ | ⟨a,v,e,_⟩
   ·rw [e] at f; simp at f
   ·exact ⟨a,v,e⟩
  have o:∃ k ∈ x.opn,Br x.opn=(k:Int):=by
   cases J:x.opn with
   |nil=>rw [J] at f; simp at f
   |cons a r=>exact ⟨a,by simp,rfl⟩
  obtain ⟨a,v,ea⟩:=n;obtain ⟨b,K,eb⟩:=o;obtain ⟨p,y⟩:=h.ok.osub a v;obtain ⟨q,A⟩:=h.ok.osub b K;rw [ea,eb,A4 h.ok.nodup y,A4 h.ok.nodup A];simp only [ZW];refine ζd 10 Xe (by kernel_rfl) ϱ fun c=>δl c g.at'.obj ϱ (δw c (fun w' d=>Xj2 S.R x.opn w' (g.at'.ring.grow d)) ϱ ?_);rw [ea];refine δl c g.at'.obj ϱ (δw c (fun w' d=>XeA S.R x.opn w' (g.at'.ring.grow d)) ϱ ?_);rw [eb];refine δn c ϱ fun L l => ?_;have i:=g.grow l;obtain ⟨m,M,D⟩:=i.at'.look a;obtain ⟨m',E,t⟩:=i.at'.look b;rw [A4 h.ok.nodup y] at D;rw [A4 h.ok.nodup A] at t;exact ζd 16 Xe (by kernel_rfl) ϱ fun c=>δl c i.at'.obj ϱ (Xd.lookup Xb c rfl (M) (by first | (intro b h; cases h; assumption) | (intro b h N; cases h; omega)) (D) rfl (δw c (fun w' d=>XiR (G a) p w' ((i.at'.pages _ y).grow d)) ϱ (δl c i.at'.obj ϱ (Xd.lookup Xb c rfl (E) (by first | (intro b h; cases h; assumption) | (intro b h N; cases h; omega)) (t) rfl (δv c (fun w' d=>XiO (G b) q w' ((i.at'.pages _ A).grow d)) ϱ (δn c ϱ fun T u=>ζb ϱ (ζs (u.heap' (l.heap' s)) ϱ fun U B F Q=>ζR func173 B ϱ ⟨rfl,((j.trans l).trans u).since F (fun z O e=>by omega)⟩)))))))
 ·refine ζy ϱ ?_;rw [if_neg f,decide_eq_false f];exact ζb ϱ (ζs s ϱ fun L C H R=>ζR func173 C ϱ ⟨rfl,j.since H (fun z O e=>by omega)⟩)
def O3 (cls:Int) (blocks:Nat):Sm:=⟨cls,blocks,[],[]⟩
theorem Xkx (P:Pl) (pl:PlM) (cls:Int) (k:Nat) (w:World) (ht:Az w) (hc:0<=cls) (hk:1<=k/\k<=512) (hP:Zu w P pl):Xf prog 134 #[D5 P,.int .i64 cls,.int .i64 k] w
 (fun v w' => ∃ S,S.P=P/\v = .tuple #[B4 S,.int .i64 0]/\(∀ G z,Y1 S G [] z->w.heap.size<=z)/\(∀ G,Qe w' S G (O3 cls k) pl)/\Xc Xe w w'):=by
 refine ζe func134 ntmps134 ϱ (ζc ϱ (XdT k w ht hk) ?_);rintro _ n ⟨g,rfl,_,_,d⟩;refine ζa ϱ (ζf ϱ (ζf ϱ (ζc ϱ (Xj4 n) ?_)));rintro _ B ⟨R,rfl,⟨r,s,t⟩,o,f⟩;refine ζa ϱ (Xa.mkmap rfl fun sm C e3 l i u=>ζa ϱ (ζb ϱ (ζn ϱ fun sb D e4 m c x => ?_)));have b:=((d.trans f).trans i).trans c;have y:=d.size;have A:=f.size;exact Xa.ret2 Xb rfl func134 rfl rfl rfl ⟨⟨sb,sm,R,P⟩,rfl,rfl,(fun G z p=>by
  rcases p with h | h | (h | h) | ⟨e,a,_⟩
  ·have:z=sb:=h; omega
  ·have:z=sm:=h; omega
  ·have:z=R.ab:=h; omega
  ·have:z=R.nb:=h; omega
  ·cases a),fun G=>⟨⟨YA,hc,hk,(fun e a=>by cases a),YA,(fun e a=>by cases a)⟩,(fun e a=>by cases a),(fun e a=>by cases a),⟨YA,fun j q=>b.cell (ht j q) id,m,⟨[],l.chg c id,YA,rfl,(fun e a=>by cases a),fun _ _=>rfl⟩,(o.grow i).grow c,(fun e a=>by cases a),(fun e a=>by cases a)⟩,hP.grow b⟩,b⟩
def Gv (F:Nat->Prop) (w:World) (S:Sh) (x:Sm) (pl:PlM):Prop := ∃ G,Qe w S G x pl /\ ∀ z,Ah S G x.pg z->F z
theorem Gv.grow {F:Nat->Prop} {w w':World} {S:Sh} {x:Sm} {pl:PlM} (h:Gv F w S x pl) (hc:Xc Xe w w'):Gv F w' S x pl:=by
 obtain ⟨G,a,b⟩:=h;exact ⟨G,a.grow hc,b⟩
theorem Qe.foot_lt {w:World} {S:Sh} {G:Nat->Pg} {x:Sm} {pl:PlM} (h:Qe w S G x pl):∀ z,Ah S G x.pg z->z<w.heap.size:=fun z hz=>by
 rcases hz with hz | hz | hz
 ·exact h.at'.foot_lt z hz
 ·have:z=S.P.pb:=hz; have:=h.pool.lt; omega
 ·have:z=S.P.ab:=hz; have:=h.pool.lt; omega
theorem Gv.pool {F:Nat->Prop} {w:World} {S:Sh} {x:Sm} {pl:PlM} (h:Gv F w S x pl):Zu w S.P pl:=by
 obtain ⟨G,a,_⟩:=h;exact a.pool
theorem Gv.tab {F:Nat->Prop} {w:World} {S:Sh} {x:Sm} {pl:PlM} (h:Gv F w S x pl):Az w:=by
 obtain ⟨G,a,_⟩:=h;exact a.at'.tab
theorem Gv.mono {S:Sh} {pl:PlM} (h:Gv F w S x pl) (hF:∀ z,F z->F' z):Gv F' w S x pl:=by
 obtain ⟨G,a,b⟩:=h;exact ⟨G,a,fun z c=>hF z (b z c)⟩
theorem Gv.ok {F:Nat->Prop} {w:World} {S:Sh} {x:Sm} {pl:PlM} (h:Gv F w S x pl):x.Ok/\x.Pos/\x.Of pl/\pl.Good:=by
 obtain ⟨G,a,_⟩:=h;exact ⟨a.ok,a.pos,a.of,a.pool.good⟩
theorem Tm (l:PgL) (n:Nat) (p:List Int):(Zi l n p).length=l.length:=by unfold Zi; simp
theorem Lr (x:Sm) (pl:PlM) (who:Int):(Qi x pl who≠0/\Q4 x pl who=x/\Bz x pl who=pl) \/
 (Qi x pl who=0/\0<=who/\((∃ n r,x.opn=n::r/\Q4 x pl who=x.takeAt n (Ey x pl) who/\Bz x pl who=pl/\Ey x pl=(Zc x.pg n).getD []/\By x pl who=n/\Bx x pl who=Z7 (Ey x pl)) \/
  (∃ n r,x.opn = []/\pl.free=n::r/\Q4 x pl who=(x.fresh n).takeAt n (Ey x pl) who/\Bz x pl who=pl.take x.cls/\Ey x pl=(Zc (x.fresh n).pg n).getD []/\By x pl who=n/\Bx x pl who=Z7 (Ey x pl)))):=by
 by_cases a:Qi x pl who=0
 ·refine .inr ⟨a,?_,?_⟩
  ·unfold Qi at a;split at a
   ·cases a
   ·omega
  ·have e1:Q4 x pl who=(Ia x pl).takeAt (Fk x pl) (Ey x pl) who:=by unfold Q4; rw [if_pos a]
   have e2:Bz x pl who=Jm x pl:=by unfold Bz; rw [if_pos a]
   have e3:By x pl who=Fk x pl:=by unfold By; rw [if_pos a]
   have e4:Bx x pl who=Z7 (Ey x pl):=by unfold Bx; rw [if_pos a]
   have e5:Ey x pl=(Zc (Ia x pl).pg (Fk x pl)).getD []:=rfl;cases b:x.opn with
   |cons n r =>
    have d:Ia x pl=x:=by unfold Ia; rw [b]
    have c:Fk x pl=n:=by unfold Fk; rw [b]
    have e:Jm x pl=pl:=by unfold Jm; rw [b]
    refine .inl ⟨n,r,rfl,?_,?_,?_,?_,e4⟩
    ·rw [e1,d,c]
    ·rw [e2,e]
    ·rw [e5,d,c]
    ·rw [e3,c]
   |nil =>
    cases f:pl.free with
    |nil =>
     unfold Qi at a;split at a
     ·cases a
     ·rw [if_pos (by rw [b,f]; exact ⟨rfl,rfl⟩)] at a; cases a
    |cons n r =>
     have d:Ia x pl=x.fresh n:=by unfold Ia; rw [b,f]; rfl
     have c:Fk x pl=n:=by unfold Fk; rw [b,f]; rfl
     have e:Jm x pl=pl.take x.cls:=by unfold Jm; rw [b]
     refine .inr ⟨n,r,rfl,rfl,?_,?_,?_,?_,e4⟩
     ·rw [e1,d,c]
     ·rw [e2,e]
     ·rw [e5,d,c]
     ·rw [e3,c]
 ·exact .inl ⟨a,by unfold Q4; rw [if_neg a],by unfold Bz; rw [if_neg a]⟩
theorem XkW {l:PgL} {q:List Int} (hn:(l.map (·.1)).Nodup) (hq:(n,q) ∈ l):Zc (Zi l n p) n=some p :=
 A4 (by rw [Jq]; exact hn) (List.mem_map.2 ⟨(n,q),hq,if_pos rfl⟩)
def Rows {α:Type} (cells:α->List Value) (sz:Nat) (w:World) (a:Option Addr) (xs:List α):Prop :=
 ∀ i x,xs[i]? = some x -> ∃ b off,a=some ⟨b,off,none⟩ /\ ∀ j v,(cells x)[j]? = some v->w.cell? ⟨b,off+i*sz+j,none⟩=some v
theorem Rows.chg {cells:α->List Value} {xs:List α} (h:Rows cells sz w a xs) (hc:Xc Xe w w'):Rows cells sz w' a xs:=fun i x d=>by
 obtain ⟨b,off,e,c⟩:=h i x d;exact ⟨b,off,e,fun j v f=>Rl hc.below (c j v f)⟩
theorem Rows.at {cells:α->List Value} {xs:List α} (h:Rows cells sz w a xs) (hi:i<xs.length) :
 ∃ b off,a=some ⟨b,off,none⟩ /\ ∀ j v,(cells xs[i])[j]? = some v->w.cell? ⟨b,off+i*sz+j,none⟩=some v:=h i xs[i] (XB hi)
def Xj (S:Nat->Prop) (a:Option Addr):Prop := ∀ b off s,a=some ⟨b,off,s⟩ -> ¬ S b
def En (w:World) (a a':Option Addr):Prop:=a'=a \/ ∃ g off,a'=some ⟨g,off,none⟩/\w.heap.size<=g
theorem Xj.newer {a':Option Addr} (h:Xj S a) (hn:En w a a') (hS:∀ b,S b->b<w.heap.size):Xj S a':=fun b off s e c=>by
 rcases hn with hn | ⟨g,off',hn,d⟩
 ·rw [hn] at e; exact h b off s e c
 ·rw [hn] at e; cases e; have:=hS _ c; omega
theorem Xj.fresh (hg:w.heap.size<=g) (hS:∀ b,S b->b<w.heap.size):Xj S (some ⟨g,off,none⟩):=fun b off' s e a=>by cases e; have:=hS _ a; omega
theorem Rd.far {k:IntKind} (h:Rd k w a zs) (hs:Xj S a) (hc:Xc S w w'):Rd k w' a zs:=(Fs.chg ⟨h,fun b off s e _=>hs b off s e⟩ hc).1
theorem Xj.mono (h:Xj S a) (hs:∀ z,S' z->S z):Xj S' a:=fun b off s e c=>h b off s e (hs _ c)
structure IL where
 a:Option Addr
 cap:Nat
 x:List Int
abbrev Xn (l:IL):Value := .slice l.a l.x.length l.cap
structure A6 (w:World) (l:IL):Prop where
 rd:Rd .i64 w l.a l.x
 len:l.x.length<=512
theorem A6.grow {l:IL} (h:A6 w l) (hc:Xc Xe w w'):A6 w' l:=⟨h.rd.chg hc,h.len⟩
theorem A6.far {l:IL} (h:A6 w l) (hs:Xj S l.a) (hc:Xc S w w'):A6 w' l :=
 ⟨(Fs.chg ⟨h.rd,fun b off s e _=>hs b off s e⟩ hc).1,h.len⟩
theorem H2 {x:List Int}:∀ u ∈ x.map (Value.int .i64),u.oneCell'=true:=by
 intro u a;obtain ⟨z,_,rfl⟩:=List.mem_map.1 a;rfl
theorem XcS {x:List Int} (h:i<x.length):x.getD i (-1)=x.getD i 0:=by
 rw [XC,XC,XB h]; rfl
theorem A6.at {l:IL} (h:A6 w l) (hi:i<l.x.length):∃ b off,l.a=some ⟨b,off,none⟩/\w.cell? ⟨b,off+i,none⟩=some (.int .i64 (l.x.getD i (-1))):=by
 obtain ⟨b,off,e,a⟩:=h.rd i hi;exact ⟨b,off,e,by rw [XcS hi]; exact a⟩
theorem Rd.atm {x:List Int} (h:Rd .i64 w a x) (hi:i<x.length):∃ b off,a=some ⟨b,off,none⟩/\w.cell? ⟨b,off+i,none⟩=some (.int .i64 (x.getD i (-1))):=by
 obtain ⟨b,off,e,c⟩:=h i hi;exact ⟨b,off,e,by rw [XcS hi]; exact c⟩
theorem Xjo (m:Nat) (w:World) (h:1<=m/\m<=512):Xf prog 266 #[.int .i64 m] w (fun v w' => ∃ l:IL,v = .tuple #[Xn l,.int .i64 0]/\l.x=List.replicate m (-1)/\A6 w' l/\Xc Xe w w'/\En w none l.a):=by
 have A:maxLen=9223372036854775807:=rfl;refine ζe func266 ntmps266 ϱ (ζf ϱ (ζf ϱ ?_));refine Xa.loop (α:=Nat × Value) (fun p => [(0,false,.int .i64 m),(4,false,p.2),(5,false,.int .i64 p.1)])
  (fun p w'=>p.1<=m/\Xl w.heap.size 3 1 w' p.2 p.1 ((List.replicate p.1 (-1)).map (Value.int .i64))/\Xc Xe w w') (fun p=>m - p.1) (0,.slice none 0 0) ⟨rfl,rfl,rfl,trivial⟩ ⟨XL _,World.ownsRow_nil _ _ _ _,Xc.refl _ _⟩ ?_
 rintro ⟨i,v⟩ F ⟨y,f,a⟩ ih;simp only at y f
 refine ζa ϱ (ζg ϱ (fun j => ?_) fun j => ?_)
 ·have n:i<m:=by have:=of_decide_eq_true j; omega
  refine Xa.buildSlice Xb rfl fun G H e2 o b B=>ζa ϱ ?_;have d:=f.chg b (fun _ _ h=>h);refine Xa.append (base:=w.heap.size) (xs:=(List.replicate i (-1)).map (Value.int .i64)) (news := [.int .i64 (-1)]) Xb rfl d (by have:=a.size; have:=b.size; omega) (by simp) (Ho o) (by simp [Value.oneCell']) (by simp only; omega) fun z I q r C=>ζa ϱ (ζj ϱ ?_);exact ih (i+1,z) _ _ ⟨n,by
   have e:(List.replicate (i+1) (-1:Int)).map (Value.int .i64)=(List.replicate i (-1)).map (Value.int .i64) ++ [.int .i64 (-1)]:=by rw [List.replicate_succ',XI]; rfl
   rw [e]; exact q,(d.since (a.trans b) (XE _) r)⟩ (by simp only; omega) ⟨rfl,rfl,rfl,trivial⟩
 ·have s:i=m:=by have:=of_decide_eq_false j; omega
  subst s;obtain ⟨g,k,cur,rfl,t,u,D,E,x⟩:=f.form (by omega);have c:(List.replicate i (-1:Int)).length=i:=XH;exact ζr func266 ϱ ⟨⟨some ⟨g,0,none⟩,k,List.replicate i (-1)⟩,by show _=Value.tuple #[.slice _ (List.replicate i (-1:Int)).length _,_]; rw [c],rfl,⟨Rd.of_take u (by simp only [c]; simpa using x),by simp only; omega⟩,a,.inr ⟨g,0,rfl,t⟩⟩
theorem Xjq (l:IL) (i:Int) (w:World) (h:A6 w l):Xf prog 244 #[Xn l,.int .i64 i] w (X7 (.int .i64 (Z8 l.x i)) w):=by
 obtain ⟨a,cap,x⟩:=l;have f:=h.len;have e:=h.rd;simp only at f e
 show Xf prog 244 #[.slice a x.length cap,.int .i64 i] w (X7 (.int .i64 (Z8 x i)) w)
 refine ζe func244 ntmps244 ϱ (ζg ϱ (fun c => ?_) fun c => ?_)
 ·have g:=of_decide_eq_true c;exact ζr func244 ϱ ⟨X0 (Xak (by omega)).symm,rfl⟩
 have g:=of_decide_eq_false c;refine ζg ϱ (fun d => ?_) fun d => ?_
 ·have j:=of_decide_eq_true d;exact ζr func244 ϱ ⟨X0 (Xak (by omega)).symm,rfl⟩
 have j:=of_decide_eq_false d;obtain ⟨i,rfl⟩:=XD (show 0<=i by omega);obtain ⟨b,off,rfl,k⟩:=e.atm (i:=i) (by omega);exact ζi i ϱ (ζk ϱ k ϱ (ζr func244 ϱ ⟨X0 (by unfold Z8; rw [if_pos (by omega)]; rfl),rfl⟩))
theorem Le {x:List Int} (h:j<(Yu x).length):(Yu x)[j] = !(x.getD j (-1) == -1):=by rw [<- O9,G5 h]
theorem Xei (l:IL) (w:World) (h:A6 w l):Xf prog 249 #[Xn l] w (X7 (.int .i64 (Xv l.x)) w):=by
 obtain ⟨a,cap,x⟩:=l;have m:=h.len;have g:=h.rd;simp only at m g
 show Xf prog 249 #[.slice a x.length cap] w (X7 (.int .i64 (Xv x)) w)
 refine ζe func249 ntmps249 ϱ ?_;refine Xa.loop (α:=Nat) (fun k => [(0,false,.slice a x.length cap),(3,false,.int .i64 (cnt ((Yu x).take k))),(4,false,.int .i64 k)])
  (fun k w'=>w'=w/\k<=x.length) (fun k=>x.length - k) 0 ⟨rfl,rfl,rfl,trivial⟩ ⟨rfl,XL _⟩ ?_
 rintro k p ⟨n,q⟩ ih;subst n;have i:=Mg ((Yu x).take k);rw [XR,Eh] at i;refine ζa ϱ (ζg ϱ (fun f => ?_) fun f => ?_)
 ·have c:k<x.length:=by have:=of_decide_eq_true f; omega
  obtain ⟨b,off,rfl,o⟩:=g.atm c;have d:=Xcm (Yu x) k (by rw [Eh]; exact c);rw [Le] at d;refine ζi k ϱ (ζk ϱ o ϱ ?_);cases e:(x.getD k (-1) == -1) with
  |true =>
   rw [e,if_neg (by decide)] at d;exact ζF ϱ (show (x.getD k (-1) != -1)=false by simpa [bne] using e) (ζj ϱ (ih (k+1) _ _ ⟨rfl,c⟩ (by omega) ⟨rfl,by rw [d]; rfl,rfl,trivial⟩))
  |false =>
   rw [e,if_pos (by decide)] at d;exact ζY ϱ (show (x.getD k (-1) != -1)=true by simpa [bne] using e) (ζj ϱ (ζj ϱ (ih (k+1) _ _ ⟨rfl,c⟩ (by omega) ⟨rfl,by rw [d]; rfl,rfl,trivial⟩)))
 ·have j:k=x.length:=by have:=of_decide_eq_false f; omega
  subst j;exact ζr func249 ϱ ⟨X0 (by unfold Xv; rw [ZK (by rw [Eh]; omega)]),rfl⟩
theorem Pk (l:IL) (w:World) (h:A6 w l):Xf prog 243 #[Xn l] w (X7 (.int .i64 (Z7 l.x)) w):=by
 obtain ⟨a,cap,x⟩:=l;have o:=h.len;have i:=h.rd;simp only at o i
 show Xf prog 243 #[.slice a x.length cap] w (X7 (.int .i64 (Z7 x)) w)
 refine ζe func243 ntmps243 ϱ ?_;refine Xa.loop (α:=Nat) (fun k => [(0,false,.slice a x.length cap),(3,false,.int .i64 k)])
  (fun k w'=>w'=w/\k<=x.length /\ ∀ j,j<k->(x.getD j (-1) == -1)=false) (fun k=>x.length - k) 0 ⟨rfl,rfl,trivial⟩ ⟨rfl,XL _,fun _ h=>by omega⟩ ?_
 rintro k t ⟨q,u,c⟩ ih;subst q;refine ζa ϱ (ζg ϱ (fun g => ?_) fun g => ?_)
 ·have d:k<x.length:=by have:=of_decide_eq_true g; omega
  obtain ⟨b,off,rfl,r⟩:=i.atm d;refine ζi k ϱ (ζk ϱ r ϱ ?_);cases m:(x.getD k (-1) == -1) with
  |true =>
   exact ζy ϱ (ζr func243 ϱ ⟨X0 (Im (p:=fun b => !b) (by rw [Eh]; exact d) (fun j n f=>by rw [Le,c j f]; rfl) (by rw [Le,m]; rfl)).symm,rfl⟩)
  |false =>
   refine ζf ϱ (ζj ϱ ?_);exact ih (k+1) _ _ ⟨rfl,d,fun j f=>by
    by_cases e:j=k
    ·subst e; exact m
    ·exact c j (by omega)⟩ (by omega) ⟨rfl,rfl,trivial⟩
 ·have s:k=x.length:=by have:=of_decide_eq_false g; omega
  exact ζr func243 ϱ ⟨X0 (Hs (p:=fun b => !b) (fun j n=>by rw [Le,c j (by rw [Eh] at n; omega)]; rfl)).symm,rfl⟩
theorem Xjr (l:IL) (w:World) (h:A6 w l):Xf prog 242 #[Xn l] w (X7 (.int .i64 (J6 l.x)) w):=by
 obtain ⟨a,cap,x⟩:=l;have o:=h.len;have g:=h.rd;simp only at o g
 show Xf prog 242 #[.slice a x.length cap] w (X7 (.int .i64 (J6 x)) w)
 refine ζe func242 ntmps242 ϱ (ζj ϱ ?_);refine Xa.loop (α:=Nat) (fun k => [(0,false,.slice a x.length cap),(3,false,.int .i64 ((k:Int) - 1))])
  (fun k w'=>w'=w/\k<=x.length /\ ∀ j,k<=j->(x.getD j (-1) == -1)=true) (fun k=>k) x.length ⟨rfl,rfl,trivial⟩ ⟨rfl,XE _,fun j h=>by rw [XC,XZ h]; rfl⟩ ?_
 rintro k v ⟨q,y,c⟩ ih;subst q;refine ζa ϱ (ζg ϱ (fun f => ?_) fun f => ?_)
 ·have t:0<k:=by have:=of_decide_eq_true f; omega
  obtain ⟨k,rfl⟩:∃ m,k=m+1:=⟨k - 1,by omega⟩;obtain ⟨b,off,rfl,r⟩:=g.atm (i:=k) (by omega);rw [show (((k+1:Nat):Int) - 1)=(k:Int) from by omega];refine ζi k ϱ (ζk ϱ r ϱ ?_);cases d:(x.getD k (-1) == -1) with
  |false =>
   exact ζY ϱ (show (x.getD k (-1) != -1)=true by simpa [bne] using d) (ζr func242 ϱ ⟨X0 (XaG (p:=id) (by rw [Eh]; omega) (fun j s n=>by rw [Le,c j (by omega)]; rfl) (by rw [Le,d]; rfl)).symm,rfl⟩)
  |true =>
   refine ζF ϱ (show (x.getD k (-1) != -1)=false by simpa [bne] using d) (ζj ϱ ?_);exact ih k _ _ ⟨rfl,by omega,fun j n=>by
    by_cases e:j=k
    ·subst e; exact d
    ·exact c j (by omega)⟩ (by omega) ⟨rfl,rfl,trivial⟩
 ·have u:k=0:=by have:=of_decide_eq_false f; omega
  exact ζr func242 ϱ ⟨X0 (Xez (p:=id) (fun j s=>by rw [Le,c j (by omega)]; rfl)).symm,rfl⟩
theorem Xaw (l:IL) (i:Nat) (v:Int) (w:World) (h:A6 w l) (hi:i<l.x.length):Xf prog 263 #[Xn l,.int .i64 i,.int .i64 v] w
 (fun u w' => ∃ l':IL,u=Xn l'/\l'.x=l.x.set i v/\A6 w' l'/\Xc Xe w w'/\En w l.a l'.a):=by
 obtain ⟨a,cap,x⟩:=l;have G:=h.len;have j:=h.rd;simp only at G j hi
 show Xf prog 263 #[.slice a x.length cap,.int .i64 i,.int .i64 v] w _
 have L:maxLen=9223372036854775807:=rfl;obtain ⟨b,off,rfl,R⟩:=j i hi;refine ζe func263 ntmps263 ϱ (Xa.buildSlice Xb rfl fun H I e3 o c M=>ζa ϱ ?_);have p:Xl w.heap.size 3 1 I (.slice (some ⟨H,0,none⟩) 0 0) 0 []:=Xl.empty (by omega) o;refine Xa.append (base:=w.heap.size) (xs := []) (news:=x.map (Value.int .i64)) Xb rfl p c.size (by simp) (j.chg c).cells H2 (by simp only; omega) fun S J q r N=>ζa ϱ ?_;have s:=p.since c (XE _) r;obtain ⟨g,k,cur,rfl,t,y,A,O,B⟩:=q.form (by omega);have d:cur.toList=x.map (Value.int .i64)++cur.toList.drop x.length:=by
  have e:=XW x.length cur.toList;rw [show cur.toList.take x.length=x.map (Value.int .i64) from by simpa using B] at e;exact e.symm
 obtain ⟨rest,f⟩:∃ rest,rest=cur.toList.drop x.length:=⟨_,rfl⟩;rw [<- f] at d;have m:J.heap[g]? = some (.cells (x.map (Value.int .i64)++rest).toArray 3 (0,0)):=by rw [<- d]; exact y
 have C:0+x.length=x.length:=by omega
 rw [C] at A ⊢;refine ζi i ϱ (ζS ϱ m (show Z2 (x.map (Value.int .i64)++rest) (0+i) [.int .i64 v]=some ((x.set i v).map (Value.int .i64)++rest) from by rw [XQ,Jl _ _ _ (by simp; omega),YN _ _ (by simpa using hi),ZV]) ϱ fun K n D P => ?_);have E:Xc Xe w K:=s.since D (fun z T Q=>by omega);have F:(x.set i v).length=x.length:=by simp
 exact ζr func263 ϱ ⟨⟨some ⟨g,0,none⟩,k,x.set i v⟩,by show _=Value.slice _ (x.set i v).length _; rw [F],rfl,⟨Rd.of_take n (by simp),by simp only; omega⟩,E,.inr ⟨g,0,rfl,t⟩⟩
theorem Xeh (l:IL) (who:Int) (w:World) (h:A6 w l):Xf prog 246 #[Xn l,.int .i64 who] w
 (fun v w' => ∃ l':IL,v = .tuple #[Xn l',.int .i64 (Ce l.x who),.int .i64 (Co l.x who)]/\l'.x=Zy l.x who/\A6 w' l'/\Xc Xe w w'/\En w l.a l'.a):=by
 refine ζe func246 ntmps246 ϱ (ζg ϱ (fun g => ?_) fun g => ?_)
 ·have d:=of_decide_eq_true g;have a:Co l.x who=1:=by unfold Co; rw [if_pos d]
  have b:Ce l.x who=0:=by unfold Ce; rw [a]; rfl
  have c:Zy l.x who=l.x:=by unfold Zy; rw [a]; rfl
  rw [a,b,c];exact ζq rfl func246 (.tmp rfl (.tmp rfl (.tmp rfl .nil))) ⟨l,rfl,rfl,h,Xc.refl _ _,.inl rfl⟩
 have d:=of_decide_eq_false g;refine ζw (Pk l w h) ϱ (ζg ϱ (fun i => ?_) fun i => ?_)
 ·have e:=of_decide_eq_true i;have a:Co l.x who=5:=by unfold Co; rw [if_neg d,if_pos e]
  have b:Ce l.x who=0:=by unfold Ce; rw [a]; rfl
  have c:Zy l.x who=l.x:=by unfold Zy; rw [a]; rfl
  rw [a,b,c];exact ζq rfl func246 (.tmp rfl (.tmp rfl (.tmp rfl .nil))) ⟨l,rfl,rfl,h,Xc.refl _ _,.inl rfl⟩
 have e:=of_decide_eq_false i;have a:Co l.x who=0:=by unfold Co; rw [if_neg d,if_neg e]
 have b:Ce l.x who=Z7 l.x:=by unfold Ce; rw [a]; rfl
 have c:Zy l.x who=l.x.set (Z7 l.x).toNat who:=by unfold Zy; rw [a]; rfl
 obtain ⟨f,q⟩:=Sw e;rw [a,b,c];obtain ⟨k,j⟩:=XD (show 0<=Z7 l.x by omega);rw [j];rw [j] at f;refine ζc ϱ (Xaw l k who w h f) ?_;rintro _ r ⟨l',rfl,n,o,p,m⟩;exact ζa ϱ (ζq rfl func246 (.tmp rfl (.tmp rfl (.tmp rfl .nil))) ⟨l',rfl,n,o,p,m⟩)
theorem Xjn (l:IL) (i:Int) (w:World) (h:A6 w l):Xf prog 248 #[Xn l,.int .i64 i] w
 (fun v w' => ∃ l':IL,v = .tuple #[Xn l',.int .i64 (Qp l.x i)]/\l'.x=Z6 l.x i/\A6 w' l'/\Xc Xe w w'/\En w l.a l'.a):=by
 have g:∀ e:Int,Qp l.x i=e->e≠0->Z6 l.x i=l.x:=fun e f d=>by unfold Z6; rw [f,if_neg d]
 obtain ⟨a,cap,x⟩:=l;have n:=h.rd;have k:=h.len;simp only at n g k
 show Xf prog 248 #[.slice a x.length cap,.int .i64 i] w (fun v w' => ∃ l':IL,v = .tuple #[Xn l',.int .i64 (Qp x i)]/\l'.x=Z6 x i/\A6 w' l'/\Xc Xe w w'/\En w a l'.a)
 refine ζe func248 ntmps248 ϱ (ζg ϱ (fun m => ?_) fun m => ?_)
 ·have p:=of_decide_eq_true m;have c:Qp x i=1:=by unfold Qp; rw [if_pos (by omega)]
  rw [c,g 1 c (by decide)];exact ζr func248 ϱ ⟨⟨a,cap,x⟩,rfl,rfl,h,Xc.refl _ _,.inl rfl⟩
 have p:=of_decide_eq_false m;refine ζg ϱ (fun f => ?_) fun f => ?_
 ·have q:=of_decide_eq_true f;have c:Qp x i=1:=by unfold Qp; rw [if_pos (by omega)]
  rw [c,g 1 c (by decide)];exact ζr func248 ϱ ⟨⟨a,cap,x⟩,rfl,rfl,h,Xc.refl _ _,.inl rfl⟩
 have q:=of_decide_eq_false f;obtain ⟨i,rfl⟩:=XD (show 0<=i by omega);have j:Z8 x (i:Int)=x.getD i (-1):=by unfold Z8; rw [if_pos (by omega)]; rfl
 obtain ⟨b,off,rfl,r⟩:=n.atm (i:=i) (by omega);refine ζi i ϱ (ζk ϱ r ϱ ?_);by_cases d:x.getD i (-1) = -1
 ·have c:Qp x i=9:=by unfold Qp; rw [if_neg (by omega),if_pos (by rw [j]; exact d)]
  rw [c];exact ζY ϱ (show (x.getD i (-1) == -1)=true by rw [d]; rfl) (ζr func248 ϱ ⟨⟨_,cap,x⟩,rfl,(g 9 c (by decide)).symm,h,Xc.refl _ _,.inl rfl⟩)
 ·have c:Qp x i=0:=by unfold Qp; rw [if_neg (by omega),if_neg (by rw [j]; exact d)]
  have s:Z6 x i=x.set i (-1):=by unfold Z6; rw [c]; rfl
  rw [c];refine ζF ϱ (show (x.getD i (-1) == -1)=false by simpa using d) (ζc ϱ (Xaw ⟨_,cap,x⟩ i (-1) w h (show i<x.length by omega)) ?_);rintro _ y ⟨l',rfl,t,k,u,o⟩;exact ζa ϱ (ζr func248 ϱ ⟨l',rfl,by rw [t]; exact s.symm,k,u,o⟩)
theorem Xjp (l:IL) (i who:Int) (w:World) (h:A6 w l):Xf prog 238 #[Xn l,.int .i64 i,.int .i64 who] w
 (fun v w' => ∃ l':IL,v = .tuple #[Xn l',.int .i64 (Aa l.x i who)]/\l'.x=Bf l.x i who/\A6 w' l'/\Xc Xe w w'/\En w l.a l'.a):=by
 have f:∀ e:Int,Aa l.x i who=e->e≠0->Bf l.x i who=l.x:=fun e g d=>by unfold Bf; rw [g,if_neg d]
 obtain ⟨a,cap,x⟩:=l;have o:=h.rd;have m:=h.len;simp only at o f m
 show Xf prog 238 #[.slice a x.length cap,.int .i64 i,.int .i64 who] w (fun v w' => ∃ l':IL,v = .tuple #[Xn l',.int .i64 (Aa x i who)]/\l'.x=Bf x i who/\A6 w' l'/\Xc Xe w w'/\En w a l'.a)
 refine ζe func238 ntmps238 ϱ (ζg ϱ (fun n => ?_) fun n => ?_)
 ·have q:=of_decide_eq_true n;have c:Aa x i who=1:=by unfold Aa; rw [if_pos (by omega)]
  rw [c,f 1 c (by decide)];exact ζr func238 ϱ ⟨⟨a,cap,x⟩,rfl,rfl,h,Xc.refl _ _,.inl rfl⟩
 have q:=of_decide_eq_false n;refine ζg ϱ (fun g => ?_) fun g => ?_
 ·have r:=of_decide_eq_true g;have c:Aa x i who=1:=by unfold Aa; rw [if_pos (by omega)]
  rw [c,f 1 c (by decide)];exact ζr func238 ϱ ⟨⟨a,cap,x⟩,rfl,rfl,h,Xc.refl _ _,.inl rfl⟩
 have r:=of_decide_eq_false g;refine ζg ϱ (fun j => ?_) fun j => ?_
 ·have gw:=of_decide_eq_true j;have c:Aa x i who=1:=by unfold Aa; rw [if_pos (by omega)]
  rw [c,f 1 c (by decide)];exact ζr func238 ϱ ⟨⟨a,cap,x⟩,rfl,rfl,h,Xc.refl _ _,.inl rfl⟩
 have gw:=of_decide_eq_false j;obtain ⟨i,rfl⟩:=XD (show 0<=i by omega);have k:Z8 x (i:Int)=x.getD i (-1):=by unfold Z8; rw [if_pos (by omega)]; rfl
 obtain ⟨b,off,rfl,s⟩:=o.atm (i:=i) (by omega);refine ζi i ϱ (ζk ϱ s ϱ ?_);by_cases d:x.getD i (-1) = -1
 ·have c:Aa x i who=9:=by unfold Aa; rw [if_neg (by omega),if_pos (by rw [k]; exact d)]
  rw [c];exact ζY ϱ (show (x.getD i (-1) == -1)=true by rw [d]; rfl) (ζr func238 ϱ ⟨⟨_,cap,x⟩,rfl,(f 9 c (by decide)).symm,h,Xc.refl _ _,.inl rfl⟩)
 ·have c:Aa x i who=0:=by unfold Aa; rw [if_neg (by omega),if_neg (by rw [k]; exact d)]
  have t:Bf x i who=x.set i who:=by unfold Bf; rw [c]; rfl
  rw [c];refine ζF ϱ (show (x.getD i (-1) == -1)=false by simpa using d) (ζc ϱ (Xaw ⟨_,cap,x⟩ i who w h (show i<x.length by omega)) ?_);rintro _ z ⟨l',rfl,u,m,y,p⟩;exact ζa ϱ (ζr func238 ϱ ⟨l',rfl,by rw [u]; exact t.symm,m,y,p⟩)
variable {l':IL} {ps:List IL}
def Yf (w:World) (a:Option Addr):Prop := ∀ b off s,a=some ⟨b,off,s⟩->b<w.heap.size
def B7 (w:World) (a:Option Addr):Prop := ∀ b off s,a=some ⟨b,off,s⟩->w.heap.size<=b
structure Aw (w:World) (l:IL):Prop where
 ok:A6 w l
 cap:l.x.length<=l.cap
 lt:Yf w l.a
theorem Yf.grow (h:Yf w a) (hs:w.heap.size<=w'.heap.size):Yf w' a:=fun b off s e=>by have:=h b off s e; omega
theorem Aw.grow {w w':World} {l:IL} (h:Aw w l) (hc:Xc Xe w w'):Aw w' l:=⟨h.ok.grow hc,h.cap,h.lt.grow hc.size⟩
theorem Aw.far {w w':World} {l:IL} {S:Nat->Prop} (h:Aw w l) (hs:Xj S l.a) (hc:Xc S w w'):Aw w' l:=⟨h.ok.far hs hc,h.cap,h.lt.grow hc.size⟩
theorem Yf.out (h:Yf w a) (hs:∀ z,S z->w.heap.size<=z):Xj S a:=fun b off s e c=>by
 have:=h b off s e;have:=hs b c;omega
theorem B7.out (h:B7 w a) (hs:∀ z,S z->z<w.heap.size):Xj S a:=fun b off s e c=>by
 have:=h b off s e;have:=hs b c;omega
theorem B7.back (h:B7 w' a) (hs:w.heap.size<=w'.heap.size):B7 w a:=fun b off s e=>by have:=h b off s e; omega
theorem Rd.cellsA {k:IntKind} {x:List Int} (h:Rd k w a x):∀ i u,(x.map (Value.int k))[i]? = some u -> ∃ a',a=some a'/\w.cell? (a'.add i)=some u:=fun i u c=>by
 have d:i<x.length:=by have:=(List.getElem?_eq_some_iff.1 c).1; simpa using this
 obtain ⟨b,off,rfl,_⟩:=h i d;exact ⟨_,rfl,h.cells i u c⟩
theorem Rd.noneA {x:List Int} {k:IntKind} (h:Rd k w a x):a=none->x.length=0:=fun e=>by
 cases x with
 |nil=>rfl
 |cons z r =>
  obtain ⟨b,off,e',_⟩:=h 0 (by simp);rw [e] at e'; cases e'
theorem Xl.il {x:List Int} (h:Xl base 3 1 w v m (x.map (Value.int .i64))) (hm:x.length=m) (hx:x.length<=512) :
 ∃ l:IL,v=Xn l/\l.x=x/\Aw w l /\ ∀ b off s,l.a=some ⟨b,off,s⟩->base<=b:=by
 rcases h.2 with ⟨rfl,j⟩ | ⟨g,cap,cur,rfl,f,c,a,i,_,d⟩
 ·have:x = []:=List.length_eq_zero_iff.1 (by omega);subst this;exact ⟨⟨none,0,[]⟩,rfl,rfl,⟨⟨Rd.nil _ _ _,hx⟩,XE _,(by intro b off s e; cases e)⟩,(by intro b off s e; cases e)⟩
 ·subst hm;exact ⟨⟨some ⟨g,0,none⟩,cap,x⟩,rfl,rfl,⟨⟨Rd.of_take c (by simpa using d),hx⟩,a,(by intro b off s e; cases e; exact Xg c)⟩,(by intro b off s e; cases e; exact f)⟩
theorem Xl.one {t:TypeId} {u:Value} (hb:base<=b) (h:w.heap[b]? = some (.cells #[u] t (0,0))):Xl base t 1 w (.slice (some ⟨b,0,none⟩) 1 1) 1 [u] :=
 ⟨by simp,.inr ⟨b,1,#[u],rfl,hb,h,XE _,by decide,by simp,by simp⟩⟩
structure RP where
 o:IL
 f:IL
def Cg (r:RP):List Value := [Xn r.o,Xn r.f]
structure Qv (w:World) (r:RP) (pl:PlM):Prop where
 o:Aw w r.o
 f:Aw w r.f
 eo:r.o.x=pl.own
 ef:r.f.x=pl.free.map (fun n:Nat=>(n:Int))
theorem Qv.grow {w w':World} {r:RP} {pl:PlM} (h:Qv w r pl) (hc:Xc Xe w w'):Qv w' r pl:=⟨h.o.grow hc,h.f.grow hc,h.eo,h.ef⟩
theorem Xeg (o f:IL) (i:Nat) (v:Int) (w:World) (h:Aw w o) (hf:Aw w f) (hi:i<o.x.length):Xf prog 240 #[.agg (Cg ⟨o,f⟩).toArray,.int .i64 i,.int .i64 v] w
 (fun u w' => ∃ l':IL,u = .agg (Cg ⟨l',f⟩).toArray/\l'.x=o.x.set i v/\Aw w' l'/\B7 w l'.a/\Xc Xe w w'):=by
 obtain ⟨a,cap,x⟩:=o;have hl:=h.ok.len;have A:=h.ok.rd;simp only at hl A hi
 have a8:maxLen=9223372036854775807:=rfl;obtain ⟨b,off,rfl,hc⟩:=A i hi;refine ζe func240 ntmps240 ϱ (ζn ϱ fun pb w1 e1 d c a9=>ζn ϱ fun qb M e2 N j aa => ?_);replace d:w1.heap[pb]? = some (.cells ([.slice (some ⟨b,off,none⟩) x.length cap,Xn f]:List Value).toArray 34 (0,0)):=d;refine Xa.buildSlice Xb rfl fun b3 w3 e3 O k ab=>ζa ϱ ?_;have l:=j.trans k;have B:=c.trans l;refine ζl (l.heap' d) ϱ ?_;have P:Xl M.heap.size 3 1 w3 (.slice (some ⟨b3,0,none⟩) 0 0) 0 []:=Xl.empty (by omega) O;refine Xa.appendA (base:=M.heap.size) (xs := []) (news:=x.map (Value.int .i64)) Xb rfl P k.size (fun e=>by cases e) (by simp) (A.chg B).cellsA H2 (by simp only; omega) fun v4 w4 Q R ac=>ζa ϱ ?_;have m:=P.since k (XE _) R;obtain ⟨g,C,cur,rfl,ad,S,T,ae,U⟩:=Q.form (by omega);have n:cur.toList=x.map (Value.int .i64)++cur.toList.drop x.length:=by
  have e:=XW x.length cur.toList;rw [show cur.toList.take x.length=x.map (Value.int .i64) from by simpa using U] at e;exact e.symm
 obtain ⟨rest,r⟩:∃ rest,rest=cur.toList.drop x.length:=⟨_,rfl⟩;rw [<- r] at n;have D:w4.heap[g]? = some (.cells (x.map (Value.int .i64)++rest).toArray 3 (0,0)):=by rw [<- n]; exact S
 have V:0+x.length=x.length:=by omega
 rw [V] at T ⊢;refine ζi i ϱ (ζS ϱ D (show Z2 (x.map (Value.int .i64)++rest) (0+i) [.int .i64 v]=some ((x.set i v).map (Value.int .i64)++rest) from by rw [XQ,Jl _ _ _ (by simp; omega),YN _ _ (by simpa using hi),ZV]) ϱ fun w5 E p af => ?_);have W:(x.set i v).length=x.length:=by simp
 have F:=p.heap (m.heap' (j.heap' d)) (show ¬ pb=g by omega);have G:=p.heap (m.heap' N) (show ¬ qb=g by omega);refine ζs F ϱ fun w6 H q ag=>ζl H ϱ ?_;have I:=q.heap G (by omega);refine ζs I ϱ fun w7 J t ah => ?_;have y:=t.heap (q.heap E (by omega)) (by omega);have K:Xc Xe w w5:=((c.trans j).trans m).since p (fun z hz e=>by have:=c.size; omega);have L:Xc Xe w w7:=(K.since q (fun z hz e=>by omega)).since t (fun z hz e=>by have:=c.size; omega);exact ζR func240 J ϱ ⟨⟨some ⟨g,0,none⟩,C,x.set i v⟩,by show _=Value.agg [Value.slice _ (x.set i v).length _,_].toArray; rw [W]; rfl,rfl,⟨⟨Rd.of_take y (by simp),by simp only; omega⟩,by simp only; omega,(by intro b off s e; cases e; exact Xg y)⟩,(by intro b off s e; cases e; have:=c.size; omega),L⟩
def IL.sl (l:IL) (lo hi:Nat):IL:=⟨Qw l.a l.cap lo 1,l.cap - lo,(l.x.drop lo).take (hi - lo)⟩
theorem XaS {l:Nat} {s:Option Nat} (h:Qw a cap l sz=some ⟨b,off,s⟩):∃ off' s',a=some ⟨b,off',s'⟩:=by
 unfold Qw at h;by_cases c:cap=l
 ·rw [if_pos c] at h; exact ⟨off,s,h⟩
 ·rw [if_neg c] at h;cases a with
  |none=>cases h
  |some x =>
   obtain ⟨xb,xo,xs⟩:=x;simp only [QI,Option.some.injEq] at h;unfold Addr.add at h;refine ⟨xo,xs,?_⟩;have d:xb=b:=by split at h <;> (cases h; rfl)
   rw [d]
theorem IL.sl_out {l:IL} {hi:Nat} (h:Xj S l.a):Xj S (l.sl lo hi).a:=fun b off s e=>by
 obtain ⟨off',s',e'⟩:=XaS e;exact h b off' s' e'
theorem Aw.sl {l:IL} (h:Aw w l) {hi:Nat} (h1:lo<=hi) (h2:hi<=l.x.length):Aw w (l.sl lo hi)/\(l.sl lo hi).x.length=hi - lo:=by
 have a:((l.x.drop lo).take (hi - lo)).length=hi - lo:=by rw [XR,ZP]; omega
 have c:=h.cap;have d:=h.ok.len;refine ⟨⟨⟨h.ok.rd.shift (by omega) c,by show ((l.x.drop lo).take (hi - lo)).length<=512; omega⟩,by show ((l.x.drop lo).take (hi - lo)).length<=l.cap - lo; omega,fun b off s e => ?_⟩,a⟩;obtain ⟨off',s',e'⟩:=XaS e;exact h.lt b off' s' e'
theorem Xhf (y:List Int) (z:Int):((z::y).drop 1).take ((z::y).length - 1)=y:=by simp
theorem Xjm (r:RP) (who:Int) (pl:PlM) (w:World) (h:Qv w r pl) (hw0:0<=who) (hf:pl.free = []):Xf prog 203 #[.agg (Cg r).toArray,.int .i64 who] w (Grow (.tuple #[.agg (Cg r).toArray,.int .i64 0,.int .i64 5]) w):=by
 have f:r.f.x.length=0:=by rw [h.ef,hf]; rfl
 refine ζe func203 ntmps203 ϱ (ζn ϱ fun pb n e1 g b k=>ζn ϱ fun qb o e2 i c l => ?_);have a:=c.heap' g;refine ζf ϱ (ζl a ϱ (ζY ϱ (by rw [f]; rfl) (ζl a ϱ (ζs i ϱ fun p d j m => ?_))));exact ζR func203 d ϱ ⟨rfl,(b.trans c).since j (fun z q e=>by have:=b.size; omega)⟩
theorem Xef (r:RP) (who:Int) (pl:PlM) (n:Nat) (t:List Nat) (w:World) (h:Qv w r pl) (hg:pl.Good) (hw0:0<=who) (hf:pl.free=n::t):Xf prog 203 #[.agg (Cg r).toArray,.int .i64 who] w
 (fun v w' => ∃ l:IL,v = .tuple #[.agg (Cg ⟨l,r.f.sl 1 r.f.x.length⟩).toArray,.int .i64 n,.int .i64 0]/\Qv w' ⟨l,r.f.sl 1 r.f.x.length⟩ (pl.take who)/\B7 w l.a/\Xc Xe w w'):=by
 obtain ⟨o,f⟩:=r;have b:=h.ef;rw [hf] at b;simp only [ZB] at b;have B:f.x.length=t.length+1:=by rw [b]; simp
 obtain ⟨U,_⟩:=hg.free n (by rw [hf]; simp);have J:n<o.x.length:=by have:=h.eo; simp only at this; rw [this]; exact U
 have g:=h.f;simp only at g
 have F:=g.cap;obtain ⟨fb,foff,C,i⟩:=g.ok.rd 0 (by omega);have K:f.x.getD 0 0=n:=by rw [b]; rfl
 rw [K] at i;obtain ⟨fa,fcap,fx⟩:=f;simp only at C i b B F
 subst C;refine ζe func203 ntmps203 ϱ (ζn ϱ fun pb V e1 k L a0=>ζn ϱ fun qb W e2 M D a1 => ?_);replace k:V.heap[pb]? = some (.cells ([Xn o,.slice (some ⟨fb,foff,none⟩) fx.length fcap]:List Value).toArray 34 (0,0)):=k;have c:=D.heap' k;have a:=L.trans D;refine Xa.no Xb rfl (decide_eq_false (by omega)) rfl ?_;refine Xa.loadb Xb rfl c rfl rfl ?_;refine Xa.no Xb rfl (by rw [B]; simp; omega) rfl ?_;refine Xa.loadb Xb rfl c rfl rfl ?_;refine Xa.index Xb rfl (j:=0) (by omega) (by omega) (by first | rfl | omega | (simp; done) | (simp; omega)) rfl ?_;refine ζk ϱ (a.cell i id) ϱ (ζl c ϱ (ζc ϱ (Xeg o ⟨some ⟨fb,foff,none⟩,fcap,fx⟩ n who W (h.o.grow a) (g.grow a) J) ?_));rintro _ w3 ⟨l,rfl,N,O,E,m⟩;refine ζa ϱ ?_;refine ζn ϱ fun tb w4 e4 P Q a2=>ζs P ϱ fun w5 G R a3 => ?_;have p:=Q.since R (fun z A e=>by omega);refine ζl (p.heap' (m.heap' c)) ϱ (Xa.slice Xb rfl (l:=1) (h:=fx.length) (by first | rfl | omega | simp [Bv]) (by first | rfl | omega | simp [Bt]) (by omega) (by omega) rfl (ζs G ϱ fun w6 q S a4 => ?_));have d:=p.since S (fun z A e=>by omega);obtain ⟨s,H⟩:=g.sl (lo:=1) (hi:=fx.length) (by omega) (XE _);obtain ⟨f',u⟩:∃ f':IL,f'=(⟨some ⟨fb,foff,none⟩,fcap,fx⟩:IL).sl 1 fx.length:=⟨_,rfl⟩;have T:Xn f' = .slice (Qw (some ⟨fb,foff,none⟩) fcap 1 1) (fx.length - 1) (fcap - 1):=by rw [u]; show Value.slice _ ((fx.drop 1).take (fx.length - 1)).length _=_; rw [XR,ZP,Nat.min_self]; rfl
 rw [<- T] at q;rw [<- u] at s H ⊢;refine ζl q ϱ ?_;have x:=(a.trans m).trans d;have ee:pl.take who=⟨pl.own.set n who,t⟩:=by unfold PlM.take; rw [hf]
 exact ζs (d.heap' (m.heap' M)) ϱ fun w7 I y a5=>ζR func203 I ϱ ⟨l,rfl,⟨((O.grow d).far (E.out (fun z A=>by omega)) y),((s.grow x).far (s.lt.out (fun z A=>by omega)) y),by rw [ee]; show l.x=pl.own.set n who; rw [N]; have:=h.eo; simp only at this; rw [this],by rw [ee,u]; show (fx.drop 1).take (fx.length - 1)=t.map _; rw [b]; exact Xhf _ _⟩,E.back a.size,x.since y (fun z A e=>by omega)⟩
theorem Xav (r:RP) (n:Nat) (pl:PlM) (w:World) (h:Qv w r pl) (hg:pl.Good) (hn:n<pl.own.length) (ho:pl.own.getD n 0 ≠ -1):Xf prog 206 #[.agg (Cg r).toArray,.int .i64 n] w
 (fun v w' => ∃ r',v = .tuple #[.agg (Cg r').toArray,.int .i64 0]/\Qv w' r' (pl.give n)/\B7 w r'.o.a/\B7 w r'.f.a/\Xc Xe w w'):=by
 obtain ⟨o,f⟩:=r;have c:=h.eo;have m:=h.ef;simp only at c m
 have C:=h.o.ok.len;have U:=h.f.ok.len;simp only at C U
 have p:n<o.x.length:=by rw [c]; exact hn
 have af:=(hg.give hn ho).many;have a9:f.x.length=pl.free.length:=by rw [m]; simp
 have ag:f.x.length+1<=512:=by
  have e1:(pl.give n).free.length=pl.free.length+1:=rfl;have e2:(pl.give n).own.length=pl.own.length:=by show (pl.own.set n (-1)).length=_; simp
  have e3:o.x.length=pl.own.length:=by rw [c]
  omega
 have M:=h.o;simp only at M
 obtain ⟨ob,ooff,D,E⟩:=M.ok.rd n p;have F:o.x.getD n 0 ≠ -1:=by rw [c]; exact ho
 have ah:maxLen=9223372036854775807:=rfl;obtain ⟨oa,ocap,ox⟩:=o;simp only at D E C p F c
 subst D;refine ζe func206 ntmps206 ϱ (ζn ϱ fun pb w1 e1 q V ai=>ζn ϱ fun qb W e2 a0 G aj => ?_);replace q:w1.heap[pb]? = some (.cells ([.slice (some ⟨ob,ooff,none⟩) ox.length ocap,Xn f]:List Value).toArray 34 (0,0)):=q;have d:=G.heap' q;have a:=V.trans G;refine Xa.no Xb rfl (decide_eq_false (by omega)) rfl ?_;refine Xa.loadb Xb rfl d rfl rfl ?_;refine Xa.no Xb rfl (decide_eq_false (by omega)) rfl ?_;refine ζl d ϱ (ζi n ϱ (ζk ϱ (a.cell E id) ϱ (ζF ϱ (by simpa using F) (ζl d ϱ (ζc ϱ (Xeg ⟨some ⟨ob,ooff,none⟩,ocap,ox⟩ f n (-1) W (M.grow a) (h.f.grow a) p) ?_)))));rintro _ w3 ⟨l,rfl,a1,a2,H,g⟩;have I:=a.size;have ak:=g.size;refine ζa ϱ (ζn ϱ fun tb w4 e4 a3 a4 al=>ζs a3 ϱ fun N O a5 am => ?_);have i:=a4.since a5 (fun z t e=>by omega);refine Xa.buildSlice Xb rfl fun b6 w6 e6 a6 k an=>ζa ϱ ?_;refine ζl (k.heap' (i.heap' (g.heap' d))) ϱ ?_;have J:Xl N.heap.size 3 1 w6 (.slice (some ⟨b6,0,none⟩) 1 1) 1 [.int .i64 n]:=Xl.one (by omega) a6;have u:=h.f.ok.rd;simp only at u
 refine Xa.appendA (base:=N.heap.size) (xs := [.int .i64 n]) (news:=f.x.map (Value.int .i64)) Xb rfl J k.size u.noneA (by simp) (u.chg (((a.trans g).trans i).trans k)).cellsA H2 (by simp only; omega) fun v7 w7 a7 a8 ao=>ζa ϱ ?_;have y:=J.since k (XE _) a8;obtain ⟨fl,P,Q,R,A⟩:=Xl.il (x:=(n:Int)::f.x) (show Xl N.heap.size 3 1 w7 v7 (1+f.x.length) (((n:Int)::f.x).map (Value.int .i64)) from a7) (by simp; omega) (by simp; omega);subst P;refine ζs (y.heap' O) ϱ fun w8 S K ap=>ζl S ϱ ?_;have j:=(i.trans y).since K (fun z t e=>by omega);refine ζs (j.heap' (g.heap' a0)) ϱ fun w9 T B aq => ?_;have L:B7 W fl.a:=fun b off s e=>by have:=A b off s e; omega
 exact ζR func206 T ϱ ⟨⟨l,fl⟩,rfl,⟨((a2.grow j).far (H.out (fun z t=>by omega)) B),((R.far (by intro b off s e t; have:=A b off s e; omega) K).far (L.out (fun z t=>by omega)) B),by show l.x=pl.own.set n (-1); rw [a1,<- c],by show fl.x=(n::pl.free).map _; rw [Q,m]; rfl⟩,H.back I,L.back I,((a.trans g).trans j).since B (fun z t e=>by omega)⟩
theorem Xl.isSlice {size:Nat} (h:Xl base t size w v m xs):∃ a n c,v = .slice a n c:=by
 rcases h.2 with ⟨h,_⟩ | ⟨g,cap,cur,h,_⟩
 ·exact ⟨_,_,_,h⟩
 ·exact ⟨_,_,_,h⟩
theorem Xi7 (i:Nat):((List.range (i+1)).map (fun n:Nat=>(n:Int))).map (Value.int .i64)=((List.range i).map (fun n:Nat=>(n:Int))).map (Value.int .i64) ++ [.int .i64 (i:Int)]:=by
 rw [Y2,XI,XI]; rfl
theorem Xjl (N:Nat) (w:World) (hN:1<=N/\N<=512):Xf prog 147 #[.int .i64 N] w
 (fun v w' => ∃ r,v = .tuple #[.agg (Cg r).toArray,.int .i64 0]/\Qv w' r (C2 N)/\B7 w r.o.a/\B7 w r.f.a/\Xc Xe w w'):=by
 have aq:maxLen=9223372036854775807:=rfl;refine ζe func147 ntmps147 ϱ (ζn ϱ fun qb w1 e1 aa t ar=>ζn ϱ fun tb q e2 ab S au => ?_);have W:=t.trans S;refine ζf ϱ (ζf ϱ ?_);refine Xa.loop (α:=Nat × Value × Value) (fun p => [(0,false,.int .i64 N),(2,false,.pointer (some ⟨qb,0,none⟩)),(4,false,.pointer (some ⟨tb,0,none⟩)),(5,false,.int .i64 p.1)])
  (fun p w'=>p.1<=N/\w'.heap[tb]? = some (.cells ([p.2.1,p.2.2]:List Value).toArray 34 (0,0))/\Xl q.heap.size 3 1 w' p.2.1 p.1 ((List.replicate p.1 (-1)).map (Value.int .i64))/\Xl q.heap.size 3 1 w' p.2.2 p.1 (((List.range p.1).map (fun n:Nat=>(n:Int))).map (Value.int .i64))/\(∀ b,some b=p.2.1.ownBlock->some b≠p.2.2.ownBlock)/\Xc (fun z=>z=tb) q w')
  (fun p=>N - p.1) (0,.slice none 0 0,.slice none 0 0) ⟨rfl,rfl,rfl,rfl,trivial⟩ ⟨XL _,ab,World.ownsRow_nil _ _ _ _,World.ownsRow_nil _ _ _ _,(fun b h=>by cases h),Xc.refl _ _⟩ ?_
 rintro ⟨i,vo,vf⟩ w3 ⟨hi,c,u,y,A,k⟩ ih;simp only at hi c u y A
 have ak:=k.size;refine ζa ϱ (ζg ϱ (fun hc => ?_) fun hc => ?_)
 ·have ac:i<N:=by have:=of_decide_eq_true hc; omega
  refine ζl c ϱ (Xa.buildSlice Xb rfl fun b4 w4 e4 ad l ae=>ζa ϱ ?_);have d:=u.chg l (fun _ _ h=>h);have B:=y.chg l (fun _ _ h=>h);refine Xa.append (base:=q.heap.size) (xs:=(List.replicate i (-1)).map (Value.int .i64)) (news := [.int .i64 (-1)]) Xb rfl d (by omega) (by simp) (Ho ad) (by simp [Value.oneCell']) (by simp only; omega) ?_;intro vo' w5 f m af;obtain ⟨C,D,E,rfl⟩:=Xl.isSlice f;have av:=m.size;have F:=B.chg m (fun b a e=>A b e a);refine ζa ϱ (ζs (m.heap (l.heap' c) (fun e=>by have:=(World.ownsRow.lt d tb (Eq.symm e)).1; omega)) ϱ fun w6 G H aw => ?_);have I:∀ b,some b=(Value.slice C D E).ownBlock->some b≠vf.ownBlock:=fun b a e=>by
   rcases af.2 with h | h
   ·exact A b (a.trans h) e
   ·rw [h] at a;have e1:=Option.some.inj a;have:=(World.ownsRow.lt B b e.symm).2;omega
  refine ζl G ϱ (Xa.buildSlice Xb rfl fun b7 w7 e7 ag o ax=>ζa ϱ ?_);have J:=(f.chg H (fun b a e=>by have:=(World.ownsRow.lt f b a.symm).1; omega)).chg o (fun _ _ h=>h);have g:=(F.chg H (fun b a e=>by have:=(World.ownsRow.lt F b a.symm).1; omega)).chg o (fun _ _ h=>h);refine Xa.append (base:=q.heap.size) (xs:=((List.range i).map (fun n:Nat=>(n:Int))).map (Value.int .i64)) (news := [.int .i64 (i:Int)]) Xb rfl g (by omega) (by simp) (Ho ag) (by simp [Value.oneCell']) (by simp only; omega) ?_;intro vf' w8 j K ah;obtain ⟨T,U,V,rfl⟩:=Xl.isSlice j;have L:=J.chg K (fun b a e=>I b a e);refine ζa ϱ (ζs (K.heap (o.heap' G) (fun e=>by have:=(World.ownsRow.lt g tb (Eq.symm e)).1; omega)) ϱ fun w9 a1 M ay => ?_);have a2:∀ b,some b=(Value.slice C D E).ownBlock->some b≠(Value.slice T U V).ownBlock:=fun b a e=>by
   rcases ah.2 with h | h
   ·exact I b a (e.trans h)
   ·rw [h] at e;have e1:=Option.some.inj e;have:=(World.ownsRow.lt J b a.symm).2;omega
  have hS:Xc (fun z=>z=tb) q w9:=by
   exact (((((k.trans l.gr).since m (fun z O e=>by have:=(World.ownsRow.lt d z (Eq.symm e)).1; omega)).trans H).trans (o.mono (fun _ _ h=>h.elim):Xc (fun z=>z=tb) w6 w7)).since K (fun z O e=>by have:=(World.ownsRow.lt g z (Eq.symm e)).1; omega)).trans M
  refine ζj ϱ ?_;exact ih (i+1,.slice C D E,.slice T U V) _ _ ⟨ac,a1,by
   have e:(List.replicate (i+1) (-1:Int)).map (Value.int .i64)=(List.replicate i (-1)).map (Value.int .i64) ++ [.int .i64 (-1)]:=by rw [List.replicate_succ',XI]; rfl
   rw [e]; exact (L.chg M (fun b a e=>by have:=(World.ownsRow.lt L b a.symm).1; omega)),by rw [Xi7]; exact (j.chg M (fun b a e=>by have:=(World.ownsRow.lt j b a.symm).1; omega)),a2,hS⟩ (by simp only; omega) ⟨rfl,rfl,rfl,rfl,trivial⟩
 ·have ai:i=N:=by have:=of_decide_eq_false hc; omega
  subst ai;obtain ⟨ol,a3,a4,a5,P⟩:=Xl.il (x:=List.replicate i (-1)) u (by simp) (by simp; omega);obtain ⟨fl,a6,a7,a8,Q⟩:=Xl.il (x:=(List.range i).map (fun n:Nat=>(n:Int))) y (by simp) (by simp; omega);subst a3;subst a6;refine ζl c ϱ ?_;refine ζs (k.heap (S.heap' aa) (show ¬ qb=tb by omega)) ϱ fun w4 a9 R ae => ?_;exact ζR func147 a9 ϱ ⟨⟨ol,fl⟩,rfl,⟨a5.far (by intro b off s e O; have:=P b off s e; omega) R,a8.far (by intro b off s e O; have:=Q b off s e; omega) R,a4,a7⟩,fun b off s e=>by have:=P b off s e; omega,fun b off s e=>by have:=Q b off s e; omega,(W.since k (fun z O e=>by have:=t.size; omega)).since R (fun z O e=>by have:=t.size; omega)⟩
structure RS where
 p:RP
 cls:Int
 blocks:Nat
 nums:IL
 pa:Option Addr
 pcap:Nat
 ps:List IL
 opn:IL
def X4 (r:RS):List Value := [Xn r.p.o,Xn r.p.f,.int .i64 r.cls,.int .i64 (r.blocks:Int),Xn r.nums,.slice r.pa r.ps.length r.pcap,Xn r.opn]
def C9 (w:World) (a:Option Addr) (ps:List IL):Prop := ∀ (i:Nat) (l:IL),ps[i]? = some l -> ∃ b off,a=some ⟨b,off,none⟩/\w.cell? ⟨b,off+i,none⟩=some (Xn l)
theorem C9.grow (h:C9 w a ps) (hc:Xc Xe w w'):C9 w' a ps:=fun i l d=>by
 obtain ⟨b,off,e,c⟩:=h i l d;exact ⟨b,off,e,hc.cell c id⟩
theorem C9.far (h:C9 w a ps) (hs:Xj S a) (hc:Xc S w w'):C9 w' a ps:=fun i l d=>by
 obtain ⟨b,off,e,c⟩:=h i l d;exact ⟨b,off,e,hc.cell c (hs b off none e)⟩
theorem C9.noneA (h:C9 w a ps):a=none->ps.length=0:=fun e=>by
 cases ps with
 |nil=>rfl
 |cons l r =>
  obtain ⟨b,off,e',_⟩:=h 0 l rfl;rw [e] at e'; cases e'
theorem C9.cellsA (h:C9 w a ps):∀ i u,(ps.map Xn)[i]? = some u -> ∃ a',a=some a'/\w.cell? (a'.add i)=some u:=fun i u c=>by
 rw [XN,YV] at c;obtain ⟨l,d,rfl⟩:=c;obtain ⟨b,off,rfl,e⟩:=h i l d;exact ⟨_,rfl,by rw [B9]; exact e⟩
theorem Ng:∀ u ∈ ps.map Xn,u.oneCell'=true:=fun u a=>by
 obtain ⟨l,_,rfl⟩:=List.mem_map.1 a;rfl
theorem Xl.pl (h:Xl base 22 1 w v m (ps.map Xn)) (hm:ps.length=m) :
 ∃ pa pcap,v = .slice pa ps.length pcap/\C9 w pa ps/\Yf w pa/\ps.length<=pcap /\ ∀ b off s,pa=some ⟨b,off,s⟩->base<=b:=by
 rcases h.2 with ⟨rfl,o⟩ | ⟨g,cap,cur,rfl,k,d,c,n,_,f⟩
 ·have:ps = []:=List.length_eq_zero_iff.1 (by omega);subst this;exact ⟨none,0,rfl,(fun i l a=>by simp at a),(by intro b off s e; cases e),XE _,(by intro b off s e; cases e)⟩
 ·subst hm;refine ⟨some ⟨g,0,none⟩,cap,rfl,fun i l a=>⟨g,0,rfl,?_⟩,(by intro b off s e; cases e; exact Xg d),c,(by intro b off s e; cases e; exact k)⟩;have j:(cur.toList.take ps.length)[i]? = (ps.map Xn)[i]?:=by rw [<- f,ZH]
  rw [YG,if_pos ((List.getElem?_eq_some_iff.1 a).1),XN,a] at j;rw [Yi d,XQ,<- Array.getElem?_toList,j];rfl
structure B2 (w:World) (l:IL):Prop where
 ok:A6 w l
 lt:Yf w l.a
theorem B2.grow {w w':World} {l:IL} (h:B2 w l) (hc:Xc Xe w w'):B2 w' l:=⟨h.ok.grow hc,h.lt.grow hc.size⟩
theorem B2.far {w w':World} {l:IL} {S:Nat->Prop} (h:B2 w l) (hs:Xj S l.a) (hc:Xc S w w'):B2 w' l:=⟨h.ok.far hs hc,h.lt.grow hc.size⟩
theorem B2.of {l:IL} (h:A6 w l) (hp:0<l.x.length):B2 w l:=⟨h,fun b off s e=>by
 obtain ⟨b',off',e',a⟩:=h.rd 0 hp;rw [e] at e'; cases e';exact World.block_lt_of_cell? w _ a⟩
theorem En.outS {a':Option Addr} (h:En w a a') (ha:Xj S a) (hs:∀ z,S z->z<w.heap.size):Xj S a':=by
 rcases h with rfl | ⟨g,off,rfl,d⟩
 ·exact ha
 ·intro b off' s e c;cases e
  have:=hs _ c;omega
structure Ys (w:World) (r:RS) (x:Sm) (pl:PlM):Prop where
 p:Qv w r.p pl
 nums:Aw w r.nums
 opn:Aw w r.opn
 rp:C9 w r.pa r.ps
 plt:Yf w r.pa
 pcap:r.ps.length<=r.pcap
 each:∀ l ∈ r.ps,B2 w l
 e1:r.cls=x.cls
 e2:r.blocks=x.blocks
 e3:r.nums.x=x.pg.map (fun e=>((e.1:Nat):Int))
 e4:r.ps.map (·.x)=x.pg.map (·.2)
 e5:r.opn.x=x.opn.map (fun n:Nat=>(n:Int))
structure Z0 (S:Nat->Prop) (r:RS):Prop where
 o:Xj S r.p.o.a
 f:Xj S r.p.f.a
 nums:Xj S r.nums.a
 opn:Xj S r.opn.a
 pa:Xj S r.pa
 each:∀ l ∈ r.ps,Xj S l.a
theorem Ys.grow {w w':World} {r:RS} {x:Sm} {pl:PlM} (h:Ys w r x pl) (hc:Xc Xe w w'):Ys w' r x pl :=
 ⟨h.p.grow hc,h.nums.grow hc,h.opn.grow hc,h.rp.grow hc,h.plt.grow hc.size,h.pcap,fun l a=>(h.each l a).grow hc,h.e1,h.e2,h.e3,h.e4,h.e5⟩
theorem Ys.far {w w':World} {r:RS} {x:Sm} {pl:PlM} {S:Nat->Prop} (h:Ys w r x pl) (ho:Z0 S r) (hc:Xc S w w'):Ys w' r x pl :=
 ⟨⟨h.p.o.far ho.o hc,h.p.f.far ho.f hc,h.p.eo,h.p.ef⟩,h.nums.far ho.nums hc,h.opn.far ho.opn hc,h.rp.far ho.pa hc,h.plt.grow hc.size,h.pcap,fun l a=>(h.each l a).far (ho.each l a) hc,h.e1,h.e2,h.e3,h.e4,h.e5⟩
theorem Ys.out {w:World} {r:RS} {x:Sm} {pl:PlM} {S:Nat->Prop} (h:Ys w r x pl) (hs:∀ z,S z->w.heap.size<=z):Z0 S r :=
 ⟨h.p.o.lt.out hs,h.p.f.lt.out hs,h.nums.lt.out hs,h.opn.lt.out hs,h.plt.out hs,fun l a=>(h.each l a).lt.out hs⟩
def B8 (w:World) (r r':RS):Prop := ∀ S:Nat->Prop,(∀ z,S z->z<w.heap.size)->Z0 S r->Z0 S r'
theorem B8.refl (w:World) (r:RS):B8 w r r:=fun _ _ h=>h
theorem B8.trans {r r1 r2:RS} (h:B8 w r r1) (h':B8 w1 r1 r2) (hs:w.heap.size<=w1.heap.size):B8 w r r2:=fun S a b =>
 h' S (fun z c=>by have:=a z c; omega) (h S a b)
def Ph (l:List Int) (n:Int):Int:=idx (fun m=>m == n) l
theorem Sy {l:PgL} {n:Int}:(Zc l n=none/\Ph (l.map fun e=>((e.1:Nat):Int)) n = -1) \/ ∃ (i:Nat) (p:List Int) (m:Nat),n=m/\Zc l n=some p/\Ph (l.map fun e=>((e.1:Nat):Int)) n=(i:Int)/\i<l.length/\l[i]? = some (m,p):=by
 cases s:Zc l n with
 |none =>
  refine .inl ⟨rfl,Hs (p:=fun m=>m == n) fun j b => ?_⟩;rw [YF];have t:j<l.length:=by simpa using b
  have:=XaU s l[j] (XJ t)
  simpa using this
 |some p =>
  right
  have key:∀ {l:PgL},Zc l n=some p -> ∃ (i m:Nat),n=m/\i<l.length/\l[i]? = some (m,p) /\ ∀ (j:Nat) (h:j<l.length),j<i->((l[j].1:Nat):Int)≠n:=by
   intro l
   induction l with
   |nil=>intro h; cases h
   |cons e r ih =>
    obtain ⟨a,q⟩:=e;intro h;unfold Zc at h;by_cases d:(a:Int)=n
    ·rw [if_pos d] at h; cases h;exact ⟨0,a,d.symm,by simp,rfl,fun j _ h=>absurd h (Nat.not_lt_zero _)⟩
    ·rw [if_neg d] at h;obtain ⟨i,m,f,g,c,o⟩:=ih h;refine ⟨i+1,m,f,by simp; omega,by simpa using c,fun j b k => ?_⟩;cases j with
     |zero=>exact d
     |succ j=>exact o j (by simpa using b) (by omega)
  obtain ⟨i,m,f,g,c,o⟩:=key s;refine ⟨i,p,m,f,rfl,Im (p:=fun m=>m == n) (by simpa using g) (fun j b k => ?_) ?_,g,c⟩
  ·rw [YF];have:=o j (by simpa using b) k
   simpa using this
  ·rw [YF];have:l[i]=(m,p):=by rw [XB g] at c; exact Option.some.inj c
   rw [this,f]; simp
theorem Lk (r:RS) (n:Int) (w:World) (h:Aw w r.nums):Xf prog 237 #[.agg (X4 r).toArray,.int .i64 n] w (Grow (.int .i64 (Ph r.nums.x n)) w):=by
 have u:=h.ok.len;refine ζe func237 ntmps237 ϱ (ζn ϱ fun rb v e1 s k z => ?_);refine Xa.loop (α:=Nat) (fun i => [(1,false,.int .i64 n),(2,false,.pointer (some ⟨rb,0,none⟩)),(5,false,.int .i64 i)])
  (fun i w'=>i<=r.nums.x.length/\Xc Xe v w' /\ ∀ (j:Nat) (h:j<r.nums.x.length),j<i->(r.nums.x[j] == n)=false) (fun i=>r.nums.x.length - i) 0 ⟨rfl,rfl,rfl,trivial⟩ ⟨XL _,Xc.refl _ _,fun _ _ h=>absurd h (Nat.not_lt_zero _)⟩ ?_
 rintro i x ⟨y,d,a⟩ ih;have c:=d.heap' s;refine ζa ϱ (ζl c ϱ (ζg ϱ (fun l => ?_) fun l => ?_))
 ·have f:i<r.nums.x.length:=by have:=of_decide_eq_true l; omega
  obtain ⟨b,off,t,g⟩:=(h.ok.rd.chg (k.trans d)) i f;obtain ⟨rp,cls,blocks,⟨na,ncap,nx⟩,pa,pcap,ps,opn⟩:=r;simp only at t g f a u y
  subst t;replace c:x.heap[rb]? = some (.cells ([Xn rp.o,Xn rp.f,.int .i64 cls,.int .i64 (blocks:Int),.slice (some ⟨b,off,none⟩) nx.length ncap,.slice pa ps.length pcap,Xn opn]:List Value).toArray 112 (0,0)):=c;refine ζl c ϱ ?_;refine Xa.index Xb rfl (j:=i) (by omega) (by omega) (by first | rfl | omega | (simp; done) | (simp; omega)) rfl ?_;refine ζk ϱ g ϱ ?_;rw [show nx.getD i 0=nx[i] from by rw [XC,XB f]; rfl];refine ζg ϱ (fun o => ?_) fun o => ?_
  ·exact ζr func237 ϱ ⟨X0 (Im (p:=fun m=>m == n) f a o).symm,k.trans d⟩
  ·refine ζj ϱ ?_;exact ih (i+1) _ _ ⟨f,d,fun j q A=>by
    by_cases e:j=i
    ·subst e; exact o
    ·exact a j q (by omega)⟩ (by simp only; omega) ⟨rfl,rfl,rfl,trivial⟩
 ·have B:i=r.nums.x.length:=by have:=of_decide_eq_false l; omega
  exact ζr func237 ϱ ⟨X0 (Hs (p:=fun m=>m == n) (fun j q=>a j q (by omega))).symm,k.trans d⟩
theorem S3 (l:IL) (n:Int) (w:World) (h:Aw w l):Xf prog 247 #[Xn l,.int .i64 n] w (fun v w' => ∃ l':IL,v=Xn l'/\l'.x=l.x.filter (fun m=>m != n)/\Aw w' l'/\B7 w l'.a/\Xc Xe w w'):=by
 obtain ⟨a,cap,x⟩:=l;have u:=h.ok.len;have y:=h.ok.rd;simp only at u y
 have K:maxLen=9223372036854775807:=rfl;refine ζe func247 ntmps247 ϱ ?_;refine Xa.loop (α:=Nat × Value) (fun p => [(0,false,.slice a x.length cap),(1,false,.int .i64 n),(5,false,p.2),(6,false,.int .i64 p.1)])
  (fun p w'=>p.1<=x.length/\Xl w.heap.size 3 1 w' p.2 ((x.take p.1).filter (fun m=>m != n)).length (((x.take p.1).filter (fun m=>m != n)).map (Value.int .i64))/\Xc Xe w w') (fun p=>x.length - p.1) (0,.slice none 0 0) ⟨rfl,rfl,rfl,rfl,trivial⟩ ⟨XL _,World.ownsRow_nil _ _ _ _,Xc.refl _ _⟩ ?_
 rintro ⟨i,v⟩ O ⟨E,g,d⟩ ih;simp only at E g
 refine ζa ϱ (ζg ϱ (fun r => ?_) fun r => ?_)
 ·have f:i<x.length:=by have:=of_decide_eq_true r; omega
  obtain ⟨b,off,rfl,c⟩:=(y.chg d) i f;have z:x.getD i 0=x[i]:=by rw [XC,XB f]; rfl
  rw [z] at c;have o:x.take (i+1)=x.take i ++ [x[i]]:=by rw [ZC,XB f]; rfl
  refine ζi i ϱ (ζk ϱ c ϱ (ζg ϱ (fun j => ?_) fun j => ?_))
  ·refine ζi i ϱ (ζk ϱ c ϱ (Xa.buildSlice Xb rfl fun P Q e2 A k L=>ζa ϱ ?_));have q:=g.chg k (fun _ _ h=>h);have M:((x.take i).filter (fun m=>m != n)).length<=i:=ZX (List.length_filter_le _ _) (by rw [XR]; omega);have t:(x.take (i+1)).filter (fun m=>m != n)=(x.take i).filter (fun m=>m != n) ++ [x[i]]:=by rw [o,YZ,ZE,if_pos j]; rfl
   exact Xa.append (base:=w.heap.size) (xs:=((x.take i).filter (fun m=>m != n)).map (Value.int .i64)) (news := [.int .i64 x[i]]) Xb rfl q (by have:=d.size; have:=k.size; omega) (by simp) (Ho A) (by simp [Value.oneCell']) (by simp only; omega) fun F R B C N=>ζa ϱ (ζj ϱ (ih (i+1,F) _ _ ⟨f,by simp only; rw [t,XT,XI]; exact B,q.since (d.trans k) (XE _) C⟩ (by simp only; omega) ⟨rfl,rfl,rfl,rfl,trivial⟩))
  ·have t:(x.take (i+1)).filter (fun m=>m != n)=(x.take i).filter (fun m=>m != n):=by rw [o,YZ,ZE,if_neg (by rw [j]; decide)]; simp
   exact ζj ϱ (ih (i+1,v) _ _ ⟨f,by simp only; rw [t]; exact g,d⟩ (by simp only; omega) ⟨rfl,rfl,rfl,rfl,trivial⟩)
 ·have D:i=x.length:=by have:=of_decide_eq_false r; omega
  subst D;rw [ZI] at g;obtain ⟨l',G,H,I,J⟩:=Xl.il g rfl (ZX (List.length_filter_le _ _) u);subst G;exact ζr func247 ϱ ⟨l',rfl,H,I,fun b off s e=>J b off s e,d⟩
theorem S0 (r:RS) (i:Nat) (p:IL) (w:World) (hrp:C9 w r.pa r.ps) (hi:i<r.ps.length) (hl:r.ps.length<=512):Xf prog 239 #[.agg (X4 r).toArray,.int .i64 i,Xn p] w
 (fun v w' => ∃ pa' pcap',v = .agg (X4 {r with pa:=pa',pcap:=pcap',ps:=r.ps.set i p}).toArray/\C9 w' pa' (r.ps.set i p)/\Yf w' pa'/\(r.ps.set i p).length<=pcap'/\B7 w pa'/\Xc Xe w w'):=by
 have a6:maxLen=9223372036854775807:=rfl;obtain ⟨rp,cls,blocks,nums,pa,pcap,ps,opn⟩:=r;simp only at hi hl hrp
 refine ζe func239 ntmps239 ϱ (ζn ϱ fun rb w1 e1 c a a7=>ζn ϱ fun qb K e2 L d a8 => ?_);replace c:w1.heap[rb]? = some (.cells ([Xn rp.o,Xn rp.f,.int .i64 cls,.int .i64 (blocks:Int),Xn nums,.slice pa ps.length pcap,Xn opn]:List Value).toArray 112 (0,0)):=c;refine Xa.buildSlice Xb rfl fun b3 w3 e3 M f a9=>ζa ϱ ?_;have h:=d.trans f;have y:=a.trans h;refine ζl (h.heap' c) ϱ ?_;have N:Xl K.heap.size 22 1 w3 (.slice (some ⟨b3,0,none⟩) 0 0) 0 []:=Xl.empty (by omega) M;refine Xa.appendA (base:=K.heap.size) (xs := []) (news:=ps.map Xn) Xb rfl N f.size hrp.noneA (by simp) (hrp.grow y).cellsA Ng (by simp only; omega) fun v4 w4 O P aa=>ζa ϱ ?_;have k:=N.since f (XE _) P;obtain ⟨g,A,cur,rfl,ab,Q,R,ac,S⟩:=O.form (by omega);have m:cur.toList=ps.map Xn++cur.toList.drop ps.length:=by
  have e:=XW ps.length cur.toList;rw [show cur.toList.take ps.length=ps.map Xn from by simpa using S] at e;exact e.symm
 obtain ⟨rest,q⟩:∃ rest,rest=cur.toList.drop ps.length:=⟨_,rfl⟩;rw [<- q] at m;have B:w4.heap[g]? = some (.cells (ps.map Xn++rest).toArray 22 (0,0)):=by rw [<- m]; exact Q
 have T:0+ps.length=ps.length:=by omega
 rw [T] at R ⊢;refine ζi i ϱ (ζS ϱ B (show Z2 (ps.map Xn++rest) (0+i) [Xn p]=some ((ps.set i p).map Xn++rest) from by rw [XQ,Jl _ _ _ (by simp; omega),YN _ _ (by simpa using hi),ZV]) ϱ fun w5 C n ad => ?_);have t:(ps.set i p).length=ps.length:=by simp
 have D:=n.heap (k.heap' (d.heap' c)) (show ¬ rb=g by omega);have E:=n.heap (k.heap' L) (show ¬ qb=g by omega);refine ζs D ϱ fun w6 F o ae=>ζl F ϱ ?_;have G:=o.heap E (by omega);refine ζs G ϱ fun w7 H u af => ?_;have x:=u.heap (o.heap C (by omega)) (by omega);have I:Xc Xe w w5:=((a.trans d).trans k).since n (fun z U e=>by have:=a.size; omega);have J:Xc Xe w w7:=(I.since o (fun z U e=>by omega)).since u (fun z U e=>by have:=a.size; omega);exact ζq rfl func239 (Xk.cell rfl rfl rfl H rfl .nil) ⟨some ⟨g,0,none⟩,A,by show _=Value.agg [_,_,_,_,_,Value.slice _ (ps.set i p).length _,_].toArray; rw [t]; rfl,fun j l V=>⟨g,0,rfl,by
  have W:j<ps.length:=by have:=(List.getElem?_eq_some_iff.1 V).1; simpa using this
  rw [Yi x,XQ,YH,XV (by simpa using W),XN,V]; rfl⟩,(by intro b off s e; cases e; exact Xg x),by rw [t]; omega,(by intro b off s e; cases e; have:=a.size; omega),J⟩
theorem XkX {l:PgL} {q:List Int} (hn:(l.map (·.1)).Nodup) (hi:l[i]? = some (m,q)):Zi l m p=l.set i (m,p):=by
 have a:=(List.getElem?_eq_some_iff.1 hi).1;refine QB fun j => ?_;unfold Zi;rw [XN,YP];by_cases h:i=j
 ·subst h;rw [if_pos rfl,if_pos a,hi]
  simp
 ·rw [if_neg h];cases c:l[j]? with
  |none=>rfl
  |some e =>
   have b:e.1≠m:=fun e'=>by
    have d:(l.map (·.1))[i]? = some m:=by rw [XN,hi]; rfl
    have f:(l.map (·.1))[j]? = some m:=by rw [XN,c,<- e']; rfl
    exact h ((List.getElem?_inj (by simpa using a) hn).1 (d.trans f.symm))
   simp [b]
theorem Tl {l:PgL} {q:List Int} (hn:(l.map (·.1)).Nodup) (hi:l[i]? = some (m,q)):Y8 l m=l.take i++l.drop (i+1):=by
 have a:=(List.getElem?_eq_some_iff.1 hi).1;have d:l[i]=(m,q):=by rw [XB a] at hi; exact Option.some.inj hi
 have f:l=l.take i++(m,q)::l.drop (i+1):=by
  conv=>lhs; rw [<- XW i l]
  rw [ZN a,d]
 have b:=hn;rw [f,XI,ZB] at b;obtain ⟨k,g,h⟩:=List.nodup_append.1 b;obtain ⟨j,_⟩:=List.nodup_cons.1 g
 conv=>lhs; rw [f]
 unfold Y8;rw [YZ,ZE];simp only [bne_self_eq_false,YY,if_false];rw [List.filter_eq_self.2 (fun e c=>by simp only [bne_iff_ne,ne_eq]; exact fun e'=>h e.1 (List.mem_map.2 ⟨e,c,rfl⟩) m (by simp) e'),List.filter_eq_self.2 (fun e c=>by simp only [bne_iff_ne,ne_eq]; exact fun e'=>j (List.mem_map.2 ⟨e,c,e'⟩))]
theorem Ys.get {r:RS} {pl:PlM} (h:Ys w r x pl) (hi:x.pg[i]? = some (m,p)):∃ l,r.ps[i]? = some l/\l.x=p/\B2 w l:=by
 have a:(x.pg.map (·.2))[i]? = some p:=by rw [XN,hi]; rfl
 rw [<- h.e4,XN,YV] at a;obtain ⟨l,b,c⟩:=a;exact ⟨l,b,c,h.each l (XS b)⟩
theorem Ys.plen {r:RS} {pl:PlM} (h:Ys w r x pl):r.ps.length=x.pg.length:=by
 have:=congrArg List.length h.e4
 simpa using this
theorem Ys.few {r:RS} {pl:PlM} (h:Ys w r x pl) (hok:x.Ok) (hof:x.Of pl):x.pg.length<=512/\x.opn.length<=512/\pl.own.length<=512:=by
 have b:=h.p.o.ok.len;rw [h.p.eo] at b;have c:=J5 _ _ hok.nodup (fun n a=>by obtain ⟨e,d,rfl⟩:=List.mem_map.1 a; exact (hof e d).1);rw [XM] at c;have g:=J5 pl.own.length x.opn hok.onodup (fun n a=>by obtain ⟨p,f⟩:=hok.osub n a; exact (hof _ f).1);exact ⟨by omega,by omega,b⟩
theorem Qv.out {w:World} {r:RP} {pl:PlM} {S:Nat->Prop} (h:Qv w r pl) (hs:∀ z,S z->w.heap.size<=z):Xj S r.o.a/\Xj S r.f.a:=⟨h.o.lt.out hs,h.f.lt.out hs⟩
theorem Xjy (r:RS) (x:Sm) (pl:PlM) (w:World) (h:Ys w r x pl) (hok:x.Ok) (hf:pl.free = []):Xf prog 245 #[.agg (X4 r).toArray] w (Grow (.tuple #[.agg (X4 r).toArray,.int .i64 5]) w):=by
 have j:0<=r.cls:=by rw [h.e1]; exact hok.cls
 refine ζe func245 ntmps245 ϱ (ζn ϱ fun rb D e1 k d u=>ζn ϱ fun qb q e2 l f v => ?_);have a:=f.heap' k;have c:=d.trans f;refine ζl a ϱ (ζl a ϱ (ζv (Xjm r.p r.cls pl q (h.p.grow c) j hf) ϱ fun E g=>ζn ϱ fun tb F e4 m n y=>ζs m ϱ fun G s o A => ?_));have B:=g.size;have b:=(g.trans n).since o (fun z t e=>by omega);refine ζy ϱ (ζl (b.heap' a) ϱ (ζs (b.heap' l) ϱ fun H i p C => ?_));exact ζR func245 i ϱ ⟨rfl,(c.trans b).since p (fun z t e=>by have:=d.size; omega)⟩
theorem Xjx (r:RS) (x:Sm) (pl:PlM) (n:Nat) (t:List Nat) (w:World) (h:Ys w r x pl) (hok:x.Ok) (hof:x.Of pl) (hg:pl.Good) (hf:pl.free=n::t):Xf prog 245 #[.agg (X4 r).toArray] w
 (fun v w' => ∃ r',v = .tuple #[.agg (X4 r').toArray,.int .i64 0]/\Ys w' r' (x.fresh n) (pl.take x.cls)/\B8 w r r'/\Xc Xe w w'):=by
 have br:=hok.blk;have di:maxLen=9223372036854775807:=rfl;obtain ⟨cs,ct,cu⟩:=h.few hok hof;have a2:=Ml hok hof hg (n:=n) (by rw [hf]; simp);have bs:n ∉ x.opn:=fun hm=>by obtain ⟨p,hp⟩:=hok.osub n hm; exact a2 (List.mem_map.2 ⟨_,hp,rfl⟩)
 obtain ⟨au,_⟩:=hg.free n (by rw [hf]; simp);have cv:x.pg.length+1<=512:=by
  have:(n::x.pg.map (·.1)).length<=pl.own.length:=J5 _ _ (List.nodup_cons.2 ⟨a2,hok.nodup⟩) (fun m hm=>by
   rcases List.mem_cons.1 hm with rfl | hm
   ·exact au
   ·obtain ⟨e,he,rfl⟩:=List.mem_map.1 hm; exact (hof e he).1)
  simp only [XP,XM] at this;omega
 have cw:x.opn.length+1<=512:=by
  have:(n::x.opn).length<=pl.own.length:=J5 _ _ (List.nodup_cons.2 ⟨bs,hok.onodup⟩) (fun m hm=>by
   rcases List.mem_cons.1 hm with rfl | hm
   ·exact au
   ·obtain ⟨p,hp⟩:=hok.osub m hm; exact (hof _ hp).1)
  simp only [XP] at this;omega
 have cx:r.nums.x.length=x.pg.length:=by rw [h.e3]; simp
 have d0:=h.plen;have d1:r.opn.x.length=x.opn.length:=by rw [h.e5]; simp
 refine ζe func245 ntmps245 ϱ (ζn ϱ fun rb w1 e1 a3 N dj=>ζn ϱ fun qb w2 e2 bu av dk => ?_);replace a3:w1.heap[rb]? = some (.cells (X4 r).toArray 112 (0,0)):=a3;have H:=av.heap' a3;have a4:=N.trans av;refine ζl H ϱ (ζl H ϱ ?_);rw [h.e1];refine ζc ϱ (Xef r.p x.cls pl n t w2 (h.p.grow a4) hg hok.cls hf) ?_;rintro _ w3 ⟨l,rfl,aw,ax,ay⟩;refine ζa ϱ ?_;obtain ⟨f',a5⟩:∃ f',f'=r.p.f.sl 1 r.p.f.x.length:=⟨_,rfl⟩;rw [<- a5] at aw ⊢;have dl:=ay.size;refine ζn ϱ fun tb w4 e4 bv bw dm=>ζs bv ϱ fun w5 I bz dn => ?_;replace I:w5.heap[tb]? = some (.cells ([Xn l,Xn f']:List Value).toArray 34 (0,0)):=I;have a6:Xc Xe w3 w5:=bw.since bz (fun z c e=>by omega);have J:=ay.trans a6;refine ζf ϱ (ζl I ϱ ?_);have b5:=J.heap' H;refine ζs b5 ϱ fun w6 A O dp => ?_;replace A:w6.heap[rb]? = some (.cells ([Xn l,Xn f',.int .i64 r.cls,.int .i64 (r.blocks:Int),Xn r.nums,.slice r.pa r.ps.length r.pcap,Xn r.opn]:List Value).toArray 112 (0,0)):=A;have b6:=O.heap (J.heap' bu) (show ¬ qb=rb by omega);have P:Qv w6 ⟨l,f'⟩ (pl.take x.cls):=by
  have h5:=aw.grow a6;have a7:Xj (fun z=>z=rb) f'.a:=by rw [a5]; exact IL.sl_out (h.p.f.lt.out (fun z c=>by omega))
  exact ⟨h5.o.far (ax.out (fun z c=>by omega)) O,h5.f.far a7 O,h5.eo,h5.ef⟩
 have b7:Xc Xe w w6:=(a4.trans J).since O (fun z c e=>by omega);refine ζl A ϱ ?_;rw [h.e2];refine ζc ϱ (Xjo x.blocks w6 br) ?_;rintro _ w7 ⟨pg,rfl,az,c0,R,c1⟩;refine ζa ϱ ?_;have c2:B2 w7 pg:=B2.of c0 (by rw [az]; simp; omega);have c3:B7 w6 pg.a:=by
  rcases c1 with e | ⟨g,off,e,c4⟩
  ·intro b off s e'; rw [e] at e'; cases e'
  ·intro b off' s e'; rw [e] at e'; cases e'; exact c4
 have dq:=R.size;have a9:=b7.trans R;have aa:=R.heap' A;refine Xa.buildSlice Xb rfl fun b8 w8 e8 c5 S dr=>ζa ϱ ?_;have b9:=a9.trans S;refine ζl (S.heap' aa) ϱ ?_;have b0:Xl w7.heap.size 3 1 w8 (.slice (some ⟨b8,0,none⟩) 0 0) 0 []:=Xl.empty (by omega) c5;refine Xa.appendA (base:=w7.heap.size) (xs := []) (news:=r.nums.x.map (Value.int .i64)) Xb rfl b0 S.size h.nums.ok.rd.noneA (by simp) (h.nums.ok.rd.chg b9).cellsA H2 (by simp only; omega) fun v9 w9 c6 c7 ds=>ζa ϱ ?_;have ba:=b0.since S (XE _) c7;refine Xa.buildSlice Xb rfl fun dt du dv bb ab d6=>ζa ϱ ?_;have ac:=c6.chg ab (fun _ _ h=>h);have T:=ba.trans ab;refine Xa.append (base:=w7.heap.size) (news := [.int .i64 (n:Int)]) Xb rfl ac T.size (by simp) (Ho bb) (by simp [Value.oneCell']) (by simp only; omega) ?_;intro c8 dw bc bd d7;have k:=ac.since T (XE _) bd;obtain ⟨nl,rfl,c9,ca,b1⟩:=Xl.il (x:=r.nums.x ++ [(n:Int)]) (v:=c8) (m:=0+r.nums.x.length+1) (by rw [XI]; exact bc) (by simp) (by simp; omega);refine ζa ϱ ?_;have cy:=k.size;refine ζs (k.heap' aa) ϱ fun i o K d8 => ?_;replace o:i.heap[rb]? = some (.cells ([Xn l,Xn f',.int .i64 r.cls,.int .i64 (r.blocks:Int),Xn nl,.slice r.pa r.ps.length r.pcap,Xn r.opn]:List Value).toArray 112 (0,0)):=o;have U:Xc Xe w i:=(a9.trans k).since K (fun z c e=>by omega);have ak:Aw i nl:=ca.far (by intro b off s e c; have:=b1 b off s e; omega) K;refine Xa.buildSlice Xb rfl fun cb cc dx be B d9=>ζa ϱ ?_;have al:=U.trans B;refine ζl (B.heap' o) ϱ ?_;have ad:Xl i.heap.size 22 1 cc (.slice (some ⟨cb,0,none⟩) 0 0) 0 []:=Xl.empty (by omega) be;refine Xa.appendA (base:=i.heap.size) (xs := []) (news:=r.ps.map Xn) Xb rfl ad B.size h.rp.noneA (by simp) (h.rp.grow al).cellsA Ng (by simp only; omega) fun dy dz bf bg da=>ζa ϱ ?_;have ae:=ad.since B (XE _) bg;refine Xa.buildSlice Xb rfl fun e0 e3 e5 bh af db=>ζa ϱ ?_;have ag:=bf.chg af (fun _ _ h=>h);have G:=ae.trans af;refine Xa.append (base:=i.heap.size) (news := [Xn pg]) Xb rfl ag G.size (by simp) (Ho bh) (by simp [Value.oneCell']) (by simp only; omega) ?_;intro cd e6 bi bj dc;have d:=ag.since G (XE _) bj;obtain ⟨pa',pcap',rfl,ce,cf,cg,b2⟩:=Xl.pl (ps:=r.ps ++ [pg]) (v:=cd) (m:=0+r.ps.length+1) (by rw [XI]; exact bi) (by simp);have ch:=d.size;refine ζa ϱ (ζs (d.heap' o) ϱ fun j q C dd => ?_);replace q:j.heap[rb]? = some (.cells ([Xn l,Xn f',.int .i64 r.cls,.int .i64 (r.blocks:Int),Xn nl,.slice pa' (r.ps ++ [pg]).length pcap',Xn r.opn]:List Value).toArray 112 (0,0)):=q;have V:Xc Xe w j:=(U.trans d).since C (fun z c e=>by omega);have am:C9 j pa' (r.ps ++ [pg]):=ce.far (by intro b off s e c; have:=b2 b off s e; omega) C;refine Xa.buildSlice Xb rfl fun ci cj e7 bk D de=>ζa ϱ ?_;have an:=V.trans D;refine ζl (D.heap' q) ϱ ?_;have ah:Xl j.heap.size 3 1 cj (.slice (some ⟨ci,0,none⟩) 1 1) 1 [.int .i64 (n:Int)]:=Xl.one (by omega) bk;refine Xa.appendA (base:=j.heap.size) (xs := [.int .i64 (n:Int)]) (news:=r.opn.x.map (Value.int .i64)) Xb rfl ah D.size h.opn.ok.rd.noneA (by simp) (h.opn.ok.rd.chg an).cellsA H2 (by simp only; omega) ?_;intro b3 ck bl bm df;have f:=ah.since D (XE _) bm;obtain ⟨ol,rfl,bn,bo,bp⟩:=Xl.il (x:=(n:Int)::r.opn.x) (v:=b3) (m:=1+r.opn.x.length) (show Xl j.heap.size 3 1 ck b3 (1+r.opn.x.length) (((n:Int)::r.opn.x).map (Value.int .i64)) from bl) (by simp; omega) (by simp; omega);refine ζa ϱ ?_;have cl:=f.size;refine ζs (f.heap' q) ϱ fun y E L dg => ?_;obtain ⟨r',W⟩:∃ r':RS,r'=⟨⟨l,f'⟩,r.cls,r.blocks,nl,pa',pcap',r.ps ++ [pg],ol⟩:=⟨_,rfl⟩;replace E:y.heap[rb]? = some (.cells (X4 r').toArray 112 (0,0)):=by rw [W]; exact E
 refine ζl E ϱ ?_;have a0:Xc Xe w y:=(V.trans f).since L (fun z c e=>by omega);have nn:∀ {a b:World},Xc Xe a b->Xc (fun z=>z=rb) a b:=fun h=>h.gr;have cA:Xc (fun z=>z=rb) w7 i:=(nn k).trans K;have cB:Xc (fun z=>z=rb) i j:=(nn d).trans C;have cC:Xc (fun z=>z=rb) j y:=(nn f).trans L;have cAll:Xc (fun z=>z=rb) w6 y:=(((nn R).trans cA).trans cB).trans cC;have F:∀ Q:Nat->Prop,(∀ z,Q z->z<w2.heap.size)->Z0 Q r->Z0 Q r':=fun Q M ho=>by
  have cm:Xj Q l.a:=ax.out M;have a7:Xj Q f'.a:=by rw [a5]; exact IL.sl_out ho.f
  have cn:Xj Q nl.a:=by intro b off s e c; have:=b1 b off s e; have:=M b c; omega
  have co:Xj Q ol.a:=by intro b off s e c; have:=bp b off s e; have:=M b c; omega
  have cp:Xj Q pa':=by intro b off s e c; have:=b2 b off s e; have:=M b c; omega
  rw [W];exact ⟨cm,a7,cn,co,cp,fun l' hl'=>by
   rcases List.mem_append.1 hl' with hl' | hl'
   ·exact ho.each l' hl'
   ·have:l'=pg:=by simpa using hl'
    subst this;exact c3.out (fun z c=>by have:=M z c; omega)⟩
 have cq:Z0 (fun z=>z=rb) r:=h.out (fun z c=>by have:=N.size; omega);have u:Z0 (fun z=>z=rb) r':=F _ (fun z c=>by omega) cq;have ap:Ys y r' (x.fresh n) (pl.take x.cls):=by
  rw [W] at u;have bq:Qv y ⟨l,f'⟩ (pl.take x.cls):=⟨P.o.far u.o cAll,P.f.far u.f cAll,P.eo,P.ef⟩;rw [W];exact ⟨bq,ak.far u.nums (cB.trans cC),bo.far u.opn L,am.far u.pa cC,cf.grow (by have:=C.size; have:=cC.size; omega),cg,fun l' hl'=>by
   rcases List.mem_append.1 hl' with hl' | hl'
   ·exact (h.each l' hl').grow a0
   ·have:l'=pg:=by simpa using hl'
    subst this;exact c2.far (u.each _ (YJ _ (by simp))) ((cA.trans cB).trans cC),h.e1,h.e2,by
    show nl.x=(x.pg ++ [(n,List.replicate x.blocks (-1))]).map _
    rw [c9,h.e3,XI]; rfl,by
    show (r.ps ++ [pg]).map _=(x.pg ++ [(n,List.replicate x.blocks (-1))]).map _
    rw [XI,XI,h.e4];simp [az],by
    show ol.x=(n::x.opn).map _
    rw [bn,h.e5]; rfl⟩
 have aq:=cAll.heap b6 (show ¬ qb=rb by omega);refine ζs aq ϱ fun e9 ar ai dh => ?_;have cr:Z0 (fun z=>z=qb) r':=F _ (fun z c=>by omega) (h.out (fun z c=>by have:=N.size; omega));exact ζR func245 ar ϱ ⟨r',rfl,ap.far cr ai,fun Q M ho=>F Q (fun z c=>by have:=M z c; omega) ho,a0.since ai (fun z c e=>by have:=N.size; omega)⟩
end Go.Proofs.YtohjeeapehmkcaaGreatDoor
