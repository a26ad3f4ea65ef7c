/-
  Texts put together: Ref13c, Ref13d, Ref13e, Ref13f, Unit, Slices, Class, Conf, Meter, Rmm, Pick, Rml, Room0, Room1.
-/
import Derived.Test.YtohjeeapehmkcaaGreatDoorPt2
import Derived.Test.YtohjeeapehmkcaaGreatDoorQPost
import Derived.Test.YtohjeeapehmkcaaGreatDoorQRule6
import Derived.Test.YtohjeeapehmkcaaGreatDoorQRule11
set_option linter.unusedVariables false
set_option maxRecDepth 100000
namespace Go.Proofs.YtohjeeapehmkcaaGreatDoor
open Go.RowKit
open Bool renaming and_eq_true->XK
open Int renaming toNat_natCast->XA,eq_ofNat_of_zero_le->XD,mul_le_mul_of_nonneg_right->XX,mul_le_mul->ZD,mul_nonneg->ZG,ediv_nonneg->YD,ediv_le_self->YT
open List renaming getElem?_eq_getElem->XB,getD_eq_getElem?_getD->XC,length_set->XF,getElem?_set_self->XG,length_replicate->XH,map_append->XI,getElem_mem->XJ,length_map->XM,getElem?_map->XN,mem_of_mem_take->XO,length_cons->XP,length_take->XR,mem_of_getElem?->XS,length_append->XT,getElem?_set_ne->XU,getElem?_eq_none->XZ,mem_of_mem_drop->ZA,map_cons->ZB,take_add_one->ZC,filter_cons->ZE,mem_or_eq_of_mem_set->ZJ,take_of_length_le->ZK,mem_singleton->ZM,drop_eq_getElem_cons->ZN,flatMap_cons->ZO,length_drop->ZP,append_nil->ZT,eq_nil_of_length_eq_zero->ZU,map_set->ZV,mem_cons_of_mem->YB,getElem?_take->YG,mem_cons_self->YI,mem_append_right->YJ,sum_cons->YQ,filter_append->YZ,length_tail->QD,map_take->QF,map_drop->QL
open Nat renaming le_refl->XE,zero_le->XL,zero_add->XQ,mul_one->ZH,add_assoc->YE
open Option renaming getD_some->ZW,map_some->QI
open Go.Proofs.Tryz (func106 func110 func112 func113 func114 func117 func118 func124 func125 func126 func127 func128 func129 func130 func132 func135 func137 func148 func171 func182 func183 func189 func198 func200 func209 func210 func211 func213 func231 func260 func261 func54 func58 func62 func63 func67 func69 func83 ntmps106 ntmps110 ntmps112 ntmps113 ntmps114 ntmps117 ntmps118 ntmps124 ntmps125 ntmps126 ntmps127 ntmps128 ntmps129 ntmps130 ntmps132 ntmps135 ntmps137 ntmps148 ntmps171 ntmps182 ntmps183 ntmps189 ntmps198 ntmps200 ntmps209 ntmps210 ntmps211 ntmps213 ntmps231 ntmps260 ntmps261 ntmps54 ntmps58 ntmps62 ntmps63 ntmps67 ntmps69 ntmps83 prog)
variable {l':IL} {ahead by' size u who z:Int} {lg:List (Nat × List Nat)} {ps:List IL} {bs l p zs:List Int} {l2 ws:List Nat} {cs rest xs:List Value} {N at' b base cap fuel g i j k len lm lo m n n0 o off sz t tm vb xb y:Nat} {e:Nat × List Int} {fz:Nat × Nat} {f:Nat->Int} {G:Nat->Pg} {B C F F' Fr S S' T:Nat->Prop} {a:Option Addr} {pg:PgL} {P:Pl} {pl':PlM} {x x':Sm} {α:Type} {v:Value} {w w' w0 w1 w2:World}
theorem Ys.setPage {r:RS} {pl:PlM} (h:Ys w r x pl) (hn:(x.pg.map (·.1)).Nodup) {q p':List Int} {pa':Option Addr} {pcap':Nat} (hi:x.pg[i]? = some (m,q)) (hx:l'.x=p') (hy:B2 w l')
 (h1:C9 w pa' (r.ps.set i l')) (h2:Yf w pa') (h3:(r.ps.set i l').length<=pcap'):Ys w {r with pa:=pa',pcap:=pcap',ps:=r.ps.set i l'} {x with pg:=Zi x.pg m p'} pl :=
 ⟨h.p,h.nums,h.opn,h1,h2,h3,fun l a=>by
  rcases ZJ a with a | rfl
  ·exact h.each l a
  ·exact hy,h.e1,h.e2,by
  have e:=Jq x.pg m p';show r.nums.x=(Zi x.pg m p').map fun e=>((e.1:Nat):Int)
  rw [h.e3];have b:∀ l:PgL,(l.map fun e=>((e.1:Nat):Int))=(l.map (·.1)).map (fun n:Nat=>(n:Int)):=fun l=>by rw [List.map_map]; rfl
  rw [b,b,e],by
  show (r.ps.set i l').map (·.x)=(Zi x.pg m p').map (·.2)
  rw [XkX hn hi,ZV,ZV,h.e4,hx],h.e5⟩
theorem Z0.setPage {Q:Nat->Prop} {r:RS} (h:Z0 Q r) {pa':Option Addr} {pcap':Nat} (h1:Xj Q pa') (h2:Xj Q l'.a):Z0 Q {r with pa:=pa',pcap:=pcap',ps:=r.ps.set i l'} :=
 ⟨h.o,h.f,h.nums,h.opn,h1,fun l a=>by
  rcases ZJ a with a | rfl
  ·exact h.each l a
  ·exact h2⟩
theorem Ys.setOpn {r:RS} {pl:PlM} (h:Ys w r x pl) {o:List Nat} (hl:Aw w l') (he:l'.x=o.map (fun n:Nat=>(n:Int))):Ys w {r with opn:=l'} {x with opn:=o} pl :=
 ⟨h.p,h.nums,hl,h.rp,h.plt,h.pcap,h.each,h.e1,h.e2,h.e3,h.e4,he⟩
theorem Z0.setOpn {Q:Nat->Prop} {r:RS} (h:Z0 Q r) (h1:Xj Q l'.a):Z0 Q {r with opn:=l'}:=⟨h.o,h.f,h.nums,h1,h.pa,h.each⟩
theorem R6 (l:List Nat) (n:Nat):(l.map (fun m:Nat=>(m:Int))).filter (fun m=>m != (n:Int))=(l.filter (fun m=>m != n)).map (fun m:Nat=>(m:Int)):=by
 rw [List.filter_map]
 congr 1
 refine List.filter_congr fun m _ => ?_;simp only [Function.comp];exact Bool.eq_iff_iff.2 (by simp only [bne_iff_ne,ne_eq]; omega)
theorem Xjw (r:RS) (x:Sm) (pl:PlM) (who:Int) (w:World) (h:Ys w r x pl) (hok:x.Ok) (hof:x.Of pl) (hg:pl.Good):Xf prog 211 #[.agg (X4 r).toArray,.int .i64 who] w
 (fun v w' => ∃ r',v = .tuple #[.agg (X4 r').toArray,.int .i64 (By x pl who),.int .i64 (Bx x pl who),.int .i64 (Qi x pl who)]/\Ys w' r' (Q4 x pl who) (Bz x pl who)/\B8 w r r'/\Xc Xe w w'):=by
 have eN:∀ e,Qi x pl who=e->e≠0->By x pl who=0/\Bx x pl who=0/\Q4 x pl who=x/\Bz x pl who=pl:=fun e h1 h2=>by
  unfold By Bx Q4 Bz; rw [h1,if_neg h2,if_neg h2,if_neg h2,if_neg h2]; exact ⟨rfl,rfl,rfl,rfl⟩
 refine ζe func211 ntmps211 ϱ (ζn ϱ fun rb w1 e1 d3 d4 du=>ζn ϱ fun qb w2 e2 ci cj dv => ?_);have b0:=cj.heap' d3;have b1:=d4.trans cj;refine ζg ϱ (fun g1 => ?_) fun g1 => ?_
 ·have k1:=of_decide_eq_true g1;have ee:Qi x pl who=1:=by unfold Qi; rw [if_pos k1]
  obtain ⟨a,b,c,d⟩:=eN 1 ee (by decide);rw [a,b,c,d,ee];refine ζl b0 ϱ (ζs ci ϱ fun w3 cs ck d6 => ?_);exact ζR func211 cs ϱ ⟨r,rfl,(h.grow b1).far (h.out (fun z g=>by omega)) ck,B8.refl _ _,b1.since ck (fun z g e=>by omega)⟩
 have cl:0<=who:=by have:=of_decide_eq_false g1; omega
 refine ζl b0 ϱ (ζn ϱ fun kb w3 e3 ct d7 d6=>ζs ct ϱ fun w4 bi d8 dw => ?_);have b3:=d7.since d8 (fun z g e=>by omega);have ai:=b1.trans b3;have b4:=b3.heap' b0;have b5:=b3.heap' ci;have cu:r.opn.x.length=x.opn.length:=by rw [h.e5]; simp
 have ak:¬ qb=kb:=by omega
 have h4:=h.grow ai;refine ζl b4 ϱ ?_;rw [cu];cases q:x.opn with
 |nil =>
  refine ζy ϱ (ζl b4 ϱ ?_);cases hf:pl.free with
  |nil =>
   have ee:Qi x pl who=5:=by unfold Qi; rw [if_neg (by omega),if_pos (by rw [q,hf]; exact ⟨rfl,rfl⟩)]
   obtain ⟨a,b,c,d⟩:=eN 5 ee (by decide);rw [a,b,c,d,ee];refine ζv (Xjy r x pl w4 h4 hok hf) ϱ fun w5 am=>ζn ϱ fun tb w6 e6 bj bk d9=>ζs bj ϱ fun w7 bl bm da => ?_;have db:=am.size;have L:=(am.trans bk).since bm (fun z g e=>by omega);have bn:=ai.trans L;refine ζy ϱ (ζl (L.heap' b4) ϱ (ζs (L.heap' b5) ϱ fun w8 cw cm dx => ?_));exact ζR func211 cw ϱ ⟨r,rfl,(h.grow bn).far (h.out (fun z g=>by omega)) cm,B8.refl _ _,bn.since cm (fun z g e=>by omega)⟩
  |cons n t =>
   have ee:Qi x pl who=0:=by unfold Qi; rw [if_neg (by omega),if_neg (by rw [hf]; simp)]
   have dc:n<1024:=by have:=(hg.free n (by rw [hf]; simp)).1; have:=hg.len; omega
   have cx:=Ml hok hof hg (n:=n) (by rw [hf]; simp);rcases Lr x pl who with ⟨bo,_⟩ | ⟨_,_,⟨n',t',a0,_⟩ | ⟨n',t',_,cn,k1,k2,k3,k4,k5⟩⟩
   ·exact absurd ee bo
   ·rw [q] at a0; cases a0
   rw [hf] at cn;cases cn
   obtain ⟨k,o⟩:∃ k,k=x.fresh n:=⟨_,rfl⟩;obtain ⟨I,u⟩:∃ I,I=pl.take x.cls:=⟨_,rfl⟩;have O:k.Ok:=by rw [o]; exact hok.fresh dc cx
   have b6:k.Of I:=by rw [o,u]; exact hof.fresh hg hf
   obtain ⟨p,bq⟩:∃ p,p=List.replicate x.blocks (-1:Int):=⟨_,rfl⟩;have hp:(n,p) ∈ k.pg:=by rw [o,bq]; exact YJ _ (by simp)
   have a1:=A4 O.nodup hp;rw [<- o,a1] at k3;simp only [ZW] at k3;rw [<- o,k3] at k1;rw [k3] at k5;have co:k.blocks=x.blocks:=by rw [o]; rfl
   have dy:=hok.blk;have a2:p.length=k.blocks:=by rw [co,bq]; exact XH
   have bs:Xv p≠k.blocks:=by rw [co,bq,Ha]; omega
   have a3:k.opn=n :: []:=by rw [o]; show n::x.opn=_; rw [q]
   rcases Sy (l:=k.pg) (n:=(n:Int)) with ⟨ao,_⟩ | ⟨i,p0,m,hm,a4,a5,d0,hi⟩
   ·rw [a1] at ao; cases ao
   have bt:m=n:=by omega
   subst bt;rw [a1] at a4;cases a4
   rw [k1,k2,k4,k5,ee];rw [<- u];refine ζc ϱ (Xjx r x pl m t w4 h4 hok hof hg hf) ?_;rintro _ w5 ⟨f,rfl,cp,bu,am⟩;refine ζa ϱ ?_;rw [<- o,<- u] at cp;have db:=am.size;refine ζn ϱ fun tb w6 e6 bj bk d9=>ζs bj ϱ fun w7 bl bm da => ?_;have bv:=bk.since bm (fun z g e=>by omega);have L:=am.trans bv;refine ζf ϱ (ζl bl ϱ ?_);have d1:=L.heap' bi;refine ζs d1 ϱ fun W J bw dz => ?_;have B:Z0 (fun z=>z=kb) f:=bu _ (fun z g=>by omega) (h.out (fun z g=>by omega));have a6:Z0 (fun z=>z=qb) f:=bu _ (fun z g=>by omega) (h.out (fun z g=>by omega));have C:=(cp.grow bv).far B bw;have ap:=bw.heap (L.heap' b5) ak;have a7:=(ai.trans L).since bw (fun z g e=>by omega);have aq:∀ Q:Nat->Prop,(∀ z,Q z->z<w.heap.size)->Z0 Q r->Z0 Q f:=fun Q s q=>bu Q (fun z g=>by have:=s z g; omega) q;obtain ⟨n,bx⟩:∃ n,n=m:=⟨_,rfl⟩;rw [<- bx] at hi a5 a3 hp ⊢;have b8:0<f.opn.x.length:=by rw [C.e5,a3]; simp
   obtain ⟨ob,ooff,b9,a8⟩:=C.opn.ok.rd 0 b8;have ba:f.opn.x.getD 0 0=n:=by rw [C.e5,a3]; rfl
   rw [ba] at a8;have bb:W.heap[kb]? = some (.cells ([Xn f.p.o,Xn f.p.f,.int .i64 f.cls,.int .i64 (f.blocks:Int),Xn f.nums,.slice f.pa f.ps.length f.pcap,.slice (some ⟨ob,ooff,none⟩) f.opn.x.length f.opn.cap]:List Value).toArray 112 (0,0)):=by rw [<- b9]; exact J
   refine ζl bb ϱ (ζi 0 ϱ (ζk ϱ a8 ϱ (ζl J ϱ (ζv (Lk f n W C.nums) ϱ fun Wa P => ?_))));obtain ⟨dd,de,df⟩:=C.few O b6;rw [C.e3,a5];have a9:=C.grow P;have aa:=P.heap' J;obtain ⟨l,hl,bz,c0⟩:=a9.get hi;obtain ⟨pb,poff,c1,c2⟩:=a9.rp i l hl;have bc:Wa.heap[kb]? = some (.cells ([Xn f.p.o,Xn f.p.f,.int .i64 f.cls,.int .i64 (f.blocks:Int),Xn f.nums,.slice (some ⟨pb,poff,none⟩) f.ps.length f.pcap,Xn f.opn]:List Value).toArray 112 (0,0)):=by rw [<- c1]; exact aa
   have c3:=(List.getElem?_eq_some_iff.1 hl).1;refine ζl bc ϱ (ζi i ϱ (ζk ϱ c2 ϱ (ζc ϱ (Xeh l who Wa c0.ok) ?_)));rintro _ Wb ⟨l',rfl,y,bd,R,ar⟩;refine ζa ϱ ?_;rw [bz] at y ⊢;have au:=a9.grow R;have be:0<l'.x.length:=by rw [y,Lg,a2]; have:=O.blk; omega
   have ab:=B2.of bd be;refine ζl (R.heap' aa) ϱ (ζc ϱ (S0 f i l' Wb au.rp c3 (by rw [C.plen]; omega)) ?_);rintro _ Wc ⟨pa',pcap',rfl,c4,c5,c6,c7,D⟩;refine ζa ϱ ?_;have av:=(au.grow D).setPage O.nodup hi y (ab.grow D) c4 c5 c6;have M:=(P.trans R).trans D;have dg:=P.size;have dh:=R.size;have di:=D.size;obtain ⟨S,aw⟩:∃ S:RS,S={f with pa:=pa',pcap:=pcap',ps:=f.ps.set i l'}:=⟨_,rfl⟩;have T:∀ Q:Nat->Prop,(∀ z,Q z->z<W.heap.size)->Z0 Q f->Z0 Q S:=fun Q s q=>by
    rw [aw];exact q.setPage (c7.out (fun z g=>by have:=s z g; omega)) (ar.outS (q.each l (XS hl)) (fun z g=>by have:=s z g; omega))
   rw [<- aw] at av ⊢;refine ζs (M.heap' J) ϱ fun Wd A E dj => ?_;have F:=av.far (T _ (fun z g=>by omega) B) E;have ax:=E.heap (M.heap' ap) ak;have ay:=(a7.trans M).since E (fun z g e=>by omega);have c8:=(ab.grow D).far (ar.outS (B.each l (XS hl)) (fun z g=>by omega)) E;refine ζw (Pk l' Wd c8.ok) ϱ ?_;rw [y];have G:Z7 (Zy p who)<0↔Xv (Zy p who)=k.blocks:=by rw [Pa,Lg,a2]
   have eE:=(Je cl (by rw [a2]; exact bs)).1;have eA:Ce p who=Z7 p:=by unfold Ce; rw [if_pos eE]
   rw [eA];refine ζg ϱ (fun ac => ?_) fun ac => ?_
   ·have gfl:=of_decide_eq_true ac;refine ζl A ϱ (ζc ϱ (S3 S.opn n Wd F.opn) ?_);rintro _ We ⟨ol,rfl,bf,bg,bh,K⟩;refine ζa ϱ (ζs (K.heap' A) ϱ fun Wf N ad dk => ?_);obtain ⟨U,ae⟩:∃ U:RS,U={S with opn:=ol}:=⟨_,rfl⟩;replace N:Wf.heap[kb]? = some (.cells (X4 U).toArray 112 (0,0)):=by rw [ae]; exact N
    have af:∀ Q:Nat->Prop,(∀ z,Q z->z<W.heap.size)->Z0 Q f->Z0 Q U:=fun Q s q=>by
     rw [ae]; exact (T Q s q).setOpn (bh.out (fun z g=>by have:=s z g; have:=E.size; omega))
    have ag:({{k with pg:=Zi k.pg n (Zy p who)} with opn:=k.opn.filter (fun m=>m != n)}:Sm)=k.takeAt n p who:=by
     unfold Sm.takeAt; rw [if_pos (G.1 gfl)]
    have c9:Ys We U (k.takeAt n p who) I:=by
     rw [ae,<- ag];exact (F.grow K).setOpn bg (by rw [bf,F.e5]; exact R6 _ _)
    have ca:=c9.far (af _ (fun z g=>by omega) B) ad;refine ζl N ϱ ?_;have cb:=ad.heap (K.heap' ax) ak;refine ζs cb ϱ fun Wg V H cc => ?_;have ah:=ca.far (af _ (fun z g=>by omega) a6) H;exact ζR func211 V ϱ ⟨U,rfl,ah,fun Q s q=>af Q (fun z g=>by have:=s z g; have:=a7.size; omega) (aq Q s q),((ay.trans K).since ad (fun z g e=>by omega)).since H (fun z g e=>by omega)⟩
   ·have gfl:=of_decide_eq_false ac;have ag:({k with pg:=Zi k.pg n (Zy p who)}:Sm)=k.takeAt n p who:=by
     unfold Sm.takeAt; rw [if_neg (fun e=>gfl (G.2 e))]
    rw [ag] at F;refine ζl A ϱ (ζs ax ϱ fun Wg V H cc => ?_);have ah:=F.far (T _ (fun z g=>by omega) a6) H;exact ζR func211 V ϱ ⟨S,rfl,ah,fun Q s q=>T Q (fun z g=>by have:=s z g; have:=a7.size; omega) (aq Q s q),ay.since H (fun z g e=>by omega)⟩
 |cons n t =>
  have ee:Qi x pl who=0:=by unfold Qi; rw [if_neg (by omega),if_neg (by rw [q]; simp)]
  rcases Lr x pl who with ⟨bo,_⟩ | ⟨_,_,⟨n',t',a0,k1,k2,k3,k4,k5⟩ | ⟨n',t',a0,_⟩⟩
  ·exact absurd ee bo
  ·rw [q] at a0;cases a0
   obtain ⟨p,cd⟩:=hok.osub n (by rw [q]; simp);obtain ⟨k,o⟩:∃ k,k=x:=⟨_,rfl⟩;obtain ⟨I,u⟩:∃ I,I=pl:=⟨_,rfl⟩;have O:k.Ok:=by rw [o]; exact hok
   have b6:k.Of I:=by rw [o,u]; exact hof
   have hp:(n,p) ∈ k.pg:=by rw [o]; exact cd
   have a1:=A4 O.nodup hp;have cq:=a1;rw [o] at cq;rw [cq] at k3;simp only [ZW] at k3;rw [k3] at k1 k5;have a2:p.length=k.blocks:=by rw [o]; exact (hok.each _ cd).2.1
   have bs:Xv p≠k.blocks:=by rw [o]; exact (hok.each _ cd).2.2.1 (by rw [q]; simp)
   have a3:k.opn=n::t:=by rw [o]; exact q
   rcases Sy (l:=k.pg) (n:=(n:Int)) with ⟨ao,_⟩ | ⟨i,p0,m,hm,a4,a5,d0,hi⟩
   ·rw [a1] at ao; cases ao
   have bt:m=n:=by omega
   subst bt;rw [a1] at a4;cases a4
   rw [k1,k2,k4,k5,ee,<- o];rw [<- u];refine ζF ϱ (by simp; omega) ?_;obtain ⟨f,az⟩:∃ f,f=r:=⟨_,rfl⟩;obtain ⟨W,hW⟩:∃ W,W=w4:=⟨_,rfl⟩;have C:Ys W f k I:=by rw [hW,az,o,u]; exact h4
   have J:W.heap[kb]? = some (.cells (X4 f).toArray 112 (0,0)):=by rw [hW,az]; exact bi
   have B:Z0 (fun z=>z=kb) f:=by rw [az]; exact h.out (fun z g=>by omega)
   have a6:Z0 (fun z=>z=qb) f:=by rw [az]; exact h.out (fun z g=>by omega)
   have ap:=b5;rw [<- hW] at ap;have a7:Xc Xe w W:=by rw [hW]; exact ai
   have aq:∀ Q:Nat->Prop,(∀ z,Q z->z<w.heap.size)->Z0 Q r->Z0 Q f:=fun Q s q=>by rw [az]; exact q
   have ch:∀ {X:World->Prop},X W->X w4:=fun h=>hW▸h;refine ch (X:=fun w2=>Xa _ _ _ _ _ _ _ w2) ?_;obtain ⟨n,bx⟩:∃ n,n=m:=⟨_,rfl⟩;rw [<- bx] at hi a5 a3 hp ⊢;have b8:0<f.opn.x.length:=by rw [C.e5,a3]; simp
   obtain ⟨ob,ooff,b9,a8⟩:=C.opn.ok.rd 0 b8;have ba:f.opn.x.getD 0 0=n:=by rw [C.e5,a3]; rfl
   rw [ba] at a8;have bb:W.heap[kb]? = some (.cells ([Xn f.p.o,Xn f.p.f,.int .i64 f.cls,.int .i64 (f.blocks:Int),Xn f.nums,.slice f.pa f.ps.length f.pcap,.slice (some ⟨ob,ooff,none⟩) f.opn.x.length f.opn.cap]:List Value).toArray 112 (0,0)):=by rw [<- b9]; exact J
   refine Xa.loadb Xb rfl bb rfl rfl ?_;refine Xa.index Xb rfl (j:=0) (by omega) (by omega) (by first | rfl | omega | (simp; done) | (simp; omega)) rfl ?_;refine ζk rfl a8 rfl ?_;refine Xa.loads Xb rfl J rfl rfl ?_;refine ζc rfl (Lk f n W C.nums) ?_;rintro _ Wa ⟨rfl,P⟩;refine ζa rfl ?_;obtain ⟨dd,de,df⟩:=C.few O b6;rw [C.e3,a5];have a9:=C.grow P;have aa:=P.heap' J;obtain ⟨l,hl,bz,c0⟩:=a9.get hi;obtain ⟨pb,poff,c1,c2⟩:=a9.rp i l hl;have bc:Wa.heap[kb]? = some (.cells ([Xn f.p.o,Xn f.p.f,.int .i64 f.cls,.int .i64 (f.blocks:Int),Xn f.nums,.slice (some ⟨pb,poff,none⟩) f.ps.length f.pcap,Xn f.opn]:List Value).toArray 112 (0,0)):=by rw [<- c1]; exact aa
   have c3:i<f.ps.length:=(List.getElem?_eq_some_iff.1 hl).1;refine Xa.loadb Xb rfl bc rfl rfl ?_;refine Xa.index Xb rfl (j:=i) (by omega) (by omega) (by first | rfl | omega | (simp; done) | (simp; omega)) rfl ?_;refine ζk rfl c2 rfl ?_;refine ζc rfl (Xeh l who Wa c0.ok) ?_;rintro _ Wb ⟨l',rfl,y,bd,R,ar⟩;refine ζa rfl ?_;rw [bz] at y ⊢;have au:=a9.grow R;have be:0<l'.x.length:=by rw [y,Lg,a2]; have:=O.blk; omega
   have ab:B2 Wb l':=B2.of bd be;have d2:=R.heap' aa;refine Xa.loads Xb rfl d2 rfl rfl ?_;refine ζc rfl (S0 f i l' Wb au.rp c3 (by rw [C.plen]; omega)) ?_;rintro _ Wc ⟨pa',pcap',rfl,c4,c5,c6,c7,D⟩;refine ζa rfl ?_;have av:=(au.grow D).setPage O.nodup hi y (ab.grow D) c4 c5 c6;have M:=(P.trans R).trans D;have dg:=P.size;have dh:=R.size;have di:=D.size;obtain ⟨S,aw⟩:∃ S:RS,S={f with pa:=pa',pcap:=pcap',ps:=f.ps.set i l'}:=⟨_,rfl⟩;have T:∀ Q:Nat->Prop,(∀ z,Q z->z<W.heap.size)->Z0 Q f->Z0 Q S:=fun Q s q=>by
    rw [aw];exact q.setPage (c7.out (fun z g=>by have:=s z g; omega)) (ar.outS (q.each l (XS hl)) (fun z g=>by have:=s z g; omega))
   rw [<- aw] at av ⊢;have e0:=Xg J;have e4:=Xg ap;refine Xa.store Xb rfl (M.heap' J) rfl rfl ?_;intro Wd A E dj;refine ζa rfl ?_;replace A:Wd.heap[kb]? = some (.cells (X4 S).toArray 112 (0,0)):=A;have F:=av.far (T _ (fun z g=>by omega) B) E;have ax:=E.heap (M.heap' ap) ak;have ay:Xc Xe w Wd:=(a7.trans M).since E (fun z g e=>by omega);have c8:B2 Wd l':=(ab.grow D).far (ar.outS (B.each l (XS hl)) (fun z g=>by omega)) E;refine ζc rfl (Pk l' Wd c8.ok) ?_;rintro _ _ ⟨rfl,rfl⟩;refine ζa rfl ?_;rw [y];have G:Z7 (Zy p who)<0↔Xv (Zy p who)=k.blocks:=by rw [Pa,Lg,a2]
   have eE:Co p who=0:=(Je cl (by rw [a2]; exact bs)).1;have eA:Ce p who=Z7 p:=by unfold Ce; rw [if_pos eE]
   rw [eA];refine Xa.fork Xb rfl rfl rfl (fun ac => ?_) (fun ac => ?_)
   ·have gfl:Z7 (Zy p who)<0:=of_decide_eq_true ac;refine Xa.loadb Xb rfl A rfl rfl ?_;refine ζc rfl (S3 S.opn n Wd F.opn) ?_;rintro _ We ⟨ol,rfl,bf,bg,bh,K⟩;refine ζa rfl ?_;have e5:=K.size;refine Xa.store Xb rfl (K.heap' A) rfl rfl ?_;intro Wf N ad dk;refine ζa rfl ?_;obtain ⟨U,ae⟩:∃ U:RS,U={S with opn:=ol}:=⟨_,rfl⟩;replace N:Wf.heap[kb]? = some (.cells (X4 U).toArray 112 (0,0)):=by rw [ae]; exact N
    have af:∀ Q:Nat->Prop,(∀ z,Q z->z<W.heap.size)->Z0 Q f->Z0 Q U:=fun Q s q=>by
     rw [ae]; exact (T Q s q).setOpn (bh.out (fun z g=>by have:=s z g; have:=E.size; omega))
    have ag:({{k with pg:=Zi k.pg n (Zy p who)} with opn:=k.opn.filter (fun m=>m != n)}:Sm)=k.takeAt n p who:=by
     unfold Sm.takeAt; rw [if_pos (G.1 gfl)]
    have c9:Ys We U (k.takeAt n p who) I:=by
     rw [ae,<- ag];exact (F.grow K).setOpn bg (by rw [bf,F.e5]; exact R6 _ _)
    have ca:=c9.far (af _ (fun z g=>by omega) B) ad;refine Xa.loads Xb rfl N rfl rfl ?_;have cb:=ad.heap (K.heap' ax) ak;refine Xa.store Xb rfl cb rfl rfl ?_;intro Wg V H cc;refine ζa rfl ?_;replace V:Wg.heap[qb]? = some (.cells (X4 U).toArray 112 (0,0)):=V;have ah:=ca.far (af _ (fun z g=>by omega) a6) H;exact ζq rfl func211 (Xk.cell rfl rfl rfl V rfl (.tmp rfl (.tmp rfl (.tmp rfl .nil)))) ⟨U,rfl,ah,fun Q s q=>af Q (fun z g=>by have:=s z g; have:=a7.size; omega) (aq Q s q),((ay.trans K).since ad (fun z g e=>by omega)).since H (fun z g e=>by omega)⟩
   ·have gfl:=of_decide_eq_false ac;have ag:({k with pg:=Zi k.pg n (Zy p who)}:Sm)=k.takeAt n p who:=by
     unfold Sm.takeAt; rw [if_neg (fun e=>gfl (G.2 e))]
    rw [ag] at F;refine ζl A ϱ (ζs ax ϱ fun Wg V H cc => ?_);have ah:=F.far (T _ (fun z g=>by omega) a6) H;exact ζR func211 V ϱ ⟨S,rfl,ah,fun Q s q=>T Q (fun z g=>by have:=s z g; have:=a7.size; omega) (aq Q s q),ay.since H (fun z g e=>by omega)⟩
  ·rw [q] at a0; cases a0
theorem Xaq {l:PgL} {n:Int} (h:Zc l n=none):Ph (l.map fun e=>((e.1:Nat):Int)) n = -1:=by
 rcases Sy (l:=l) (n:=n) with ⟨_,a⟩ | ⟨_,_,_,_,a,_⟩
 ·exact a
 ·rw [h] at a; cases a
theorem Pi {l:PgL} {n:Int} (h:Zc l n=some p):∃ (i m:Nat),n=m/\Ph (l.map fun e=>((e.1:Nat):Int)) n=(i:Int)/\i<l.length/\l[i]? = some (m,p):=by
 rcases Sy (l:=l) (n:=n) with ⟨a,_⟩ | ⟨i,p',m,b,a,c,d,f⟩
 ·rw [h] at a; cases a
 ·rw [h] at a; cases a;exact ⟨i,m,b,c,d,f⟩
theorem Xju (r:RS) (x:Sm) (pl:PlM) (n i:Int) (w:World) (h:Ys w r x pl) (hok:x.Ok) (hof:x.Of pl):Xf prog 210 #[.agg (X4 r).toArray,.int .i64 n,.int .i64 i] w (Grow (.int .i64 (Qm x n i)) w):=by
 refine ζe func210 ntmps210 ϱ (ζn ϱ fun rb y e1 b c A => ?_);refine ζl b ϱ (ζv (Lk r n y (h.nums.grow c)) ϱ fun g d => ?_);have a:=c.trans d;rw [h.e3];unfold Qm;cases j:Zc x.pg n with
 |none =>
  rw [Xaq j];exact ζy ϱ (ζr func210 ϱ ⟨rfl,a⟩)
 |some p =>
  obtain ⟨k,m,rfl,e,B,z⟩:=Pi j;rw [e];have o:=h.grow a;obtain ⟨l,q,s,t⟩:=o.get z;obtain ⟨pb,poff,u,v⟩:=o.rp k l q;have f:g.heap[rb]? = some (.cells ([Xn r.p.o,Xn r.p.f,.int .i64 r.cls,.int .i64 (r.blocks:Int),Xn r.nums,.slice (some ⟨pb,poff,none⟩) r.ps.length r.pcap,Xn r.opn]:List Value).toArray 112 (0,0)):=by rw [<- u]; exact (d.heap' b)
  have C:=(List.getElem?_eq_some_iff.1 q).1;exact ζf ϱ (ζl f ϱ (ζi k ϱ (ζk ϱ v ϱ (ζw (Xjq l i g t.ok) ϱ (ζr func210 ϱ ⟨X0 (by rw [s]),a⟩)))))
theorem Xjt (r:RS) (x:Sm) (pl:PlM) (n i who:Int) (w:World) (h:Ys w r x pl) (hok:x.Ok) (hof:x.Of pl):Xf prog 200 #[.agg (X4 r).toArray,.int .i64 n,.int .i64 i,.int .i64 who] w
 (fun v w' => ∃ r',v = .tuple #[.agg (X4 r').toArray,.int .i64 (Gi x n i who)]/\Ys w' r' (Aq x n i who) pl/\B8 w r r'/\Xc Xe w w'):=by
 obtain ⟨ak,al,am⟩:=h.few hok hof;refine ζe func200 ntmps200 ϱ (ζn ϱ fun rb w1 e1 W b an=>ζn ϱ fun qb w2 e2 a0 E ao => ?_);have t:=E.heap' W;have u:=b.trans E;refine ζl t ϱ (ζv (Lk r n w2 (h.nums.grow u)) ϱ fun J q => ?_);have f:=u.trans q;have g:=q.heap' t;have y:=q.heap' a0;have A:=h.grow f;have ap:=q.size;rw [h.e3];cases s:Zc x.pg n with
 |none =>
  rw [show Gi x n i who=1 from by unfold Gi; rw [s],show Aq x n i who=x from by unfold Aq; rw [s],Xaq s];refine ζy ϱ (ζl g ϱ (ζs y ϱ fun w4 K F aq => ?_));exact ζR func200 K ϱ ⟨r,rfl,A.far (h.out (fun z a=>by have:=b.size; omega)) F,B8.refl _ _,f.since F (fun z a e=>by have:=b.size; omega)⟩
 |some p =>
  obtain ⟨k,m,rfl,L,ar,M⟩:=Pi s;rw [L,show Gi x m i who=Aa p i who from by unfold Gi; rw [s],show Aq x m i who=x.ownAt m p i who from by unfold Aq; rw [s]; rfl];obtain ⟨l,N,a1,a2⟩:=A.get M;obtain ⟨pb,poff,a3,a4⟩:=A.rp k l N;have O:J.heap[rb]? = some (.cells ([Xn r.p.o,Xn r.p.f,.int .i64 r.cls,.int .i64 (r.blocks:Int),Xn r.nums,.slice (some ⟨pb,poff,none⟩) r.ps.length r.pcap,Xn r.opn]:List Value).toArray 112 (0,0)):=by rw [<- a3]; exact g
  have a5:=(List.getElem?_eq_some_iff.1 N).1;have P:=XS M;have a6:=(hok.each _ P).2.1;refine ζf ϱ (ζl O ϱ (ζi k ϱ (ζk ϱ a4 ϱ (ζc ϱ (Xjp l i who J a2.ok) ?_))));rintro _ w5 ⟨l',rfl,j,R,c,a7⟩;refine ζa ϱ ?_;rw [a1] at j ⊢;have S:=B2.of R (by rw [j,Xd1]; have:=hok.blk; simp only at a6; omega);have h5:=A.grow c;refine ζl (c.heap' g) ϱ (ζc ϱ (S0 r k l' w5 h5.rp a5 (by rw [h.plen]; omega)) ?_);rintro _ w6 ⟨pa',pcap',rfl,a9,aa,ab,ac,d⟩;refine ζa ϱ ?_;have h6:=(h5.grow d).setPage hok.nodup M j (S.grow d) a9 aa ab;obtain ⟨B,G⟩:∃ B:RS,B={r with pa:=pa',pcap:=pcap',ps:=r.ps.set k l'}:=⟨_,rfl⟩;have au:=c.size;have av:=d.size;have H:∀ Q:Nat->Prop,(∀ z,Q z->z<J.heap.size)->Z0 Q r->Z0 Q B:=fun Q C D=>by
   rw [G];exact D.setPage (ac.out (fun z a=>by have:=C z a; omega)) (a7.outS (D.each l (XS N)) (fun z a=>by have:=C z a; omega))
  rw [<- G] at h6 ⊢;have T:=(f.trans c).trans d;refine ζn ϱ fun tb w7 e7 ae af aw=>ζs ae ϱ fun w8 U ag ax => ?_;have o:=af.since ag (fun z a e=>by omega);have h8:=h6.grow o;refine ζl U ϱ (ζs (((c.trans d).trans o).heap' y) ϱ fun w9 V I ay => ?_);exact ζR func200 V ϱ ⟨B,rfl,h8.far (H _ (fun z a=>by omega) (h.out (fun z a=>by have:=b.size; omega))) I,fun Q C D=>H Q (fun z a=>by have:=C z a; omega) D,(T.trans o).since I (fun z a e=>by have:=b.size; omega)⟩
theorem Xc6:∀ {l:List Nat} (p:Int),0<l.length->Bd p l=((l.getD (l.length - 1) 0:Nat):Int)
 |[a],p,_=>rfl
 |a::b::r,p,_=>by
  have ih:=Xc6 (l:=b::r) (a:Int) (by simp);show Bd a (b::r)=_
  rw [ih]
  simp
theorem Xjv (r:RS) (x:Sm) (pl:PlM) (w:World) (h:Ys w r x pl) (hok:x.Ok):Xf prog 209 #[.agg (X4 r).toArray] w (Grow (.tuple #[.agg (Gj x).toArray,.bool (Lq x)]) w):=by
 have y:r.opn.x.length=x.opn.length:=by rw [h.e5]; simp
 have ad:=hok.few;unfold Gj Lq;refine ζe func209 ntmps209 ϱ (ζn ϱ fun rb w1 e1 a4 F ao=>ζn ϱ fun qb w2 e2 M N ap => ?_);have s:=N.heap' a4;have A:=F.trans N;refine ζl s ϱ ?_;rw [y];by_cases o:2<=x.opn.length
 ·rw [if_pos o,decide_eq_true o];have J:∃ k ∈ x.opn,Bd (-1) x.opn=(k:Int):=by
   rcases I8 (-1) x.opn with ⟨e,_⟩ | ⟨a,T,e,_⟩
   ·rw [e] at o; simp at o
   ·exact ⟨a,T,e⟩
  have K:∃ k ∈ x.opn,Br x.opn=(k:Int):=by
   cases U:x.opn with
   |nil=>rw [U] at o; simp at o
   |cons a r=>exact ⟨a,by simp,rfl⟩
  obtain ⟨a,T,ea⟩:=J;obtain ⟨b,hb,eb⟩:=K;obtain ⟨p,hp⟩:=hok.osub a T;obtain ⟨q,hq⟩:=hok.osub b hb;have gp:=A4 hok.nodup hp;have gq:=A4 hok.nodup hq;rw [ea,eb,gp,gq];simp only [ZW];obtain ⟨i,m,hm,V,aq,hi⟩:=Pi gp;obtain ⟨j,m',ar,L,au,hj⟩:=Pi gq;have v:=h.grow A;obtain ⟨l,hl,a6,a7⟩:=v.get hi;obtain ⟨l',O,W,a0⟩:=v.get hj;obtain ⟨pb,poff,P,a8⟩:=v.rp i l hl;obtain ⟨pb',poff',G,a1⟩:=v.rp j l' O;rw [P] at G;cases G
  obtain ⟨ob,ooff,Q,H⟩:=v.opn.ok.rd (x.opn.length - 1) (by rw [y]; omega);obtain ⟨ob',ooff',I,B⟩:=v.opn.ok.rd 0 (by rw [y]; omega);rw [Q] at I;cases I
  have a9:r.opn.x.getD (x.opn.length - 1) 0=(a:Int):=by
   rw [h.e5,<- ea,Xc6 (-1) (by omega),XC,XN,XC,XB (show x.opn.length - 1<x.opn.length by omega)]; rfl
  have aa:r.opn.x.getD 0 0=(b:Int):=by
   rw [h.e5,<- eb];cases U:x.opn with
   |nil=>rw [U] at o; simp at o
   |cons c t=>rfl
  rw [a9] at H;rw [aa] at B;have ak:=(List.getElem?_eq_some_iff.1 hl).1;have al:=(List.getElem?_eq_some_iff.1 O).1;have u:w2.heap[rb]? = some (.cells ([Xn r.p.o,Xn r.p.f,.int .i64 r.cls,.int .i64 (r.blocks:Int),Xn r.nums,.slice (some ⟨pb,poff,none⟩) r.ps.length r.pcap,.slice (some ⟨ob,ooff,none⟩) r.opn.x.length r.opn.cap]:List Value).toArray 112 (0,0)):=by rw [<- P,<- Q]; exact s
  have C:((x.opn.length:Int) - 1)=((x.opn.length - 1:Nat):Int):=by omega
  refine ζf ϱ (ζd 10 Xe (by kernel_rfl) ϱ fun d=>δl d u ϱ (δl d s ϱ (δl d u ϱ (δj d ϱ ?_))));rw [C];refine δi (x.opn.length - 1) d ϱ (δk d H ϱ (δv d (fun w' g=>Lk r a w' (v.nums.grow g)) ϱ ?_));rw [h.e3,V];refine δn d ϱ fun w3 n=>ζi i ϱ (ζk ϱ (n.cell a8 id) ϱ ?_);have D:=n.heap' u;refine ζd 8 Xe (by kernel_rfl) ϱ fun d=>δl d D ϱ (δl d (n.heap' s) ϱ (δl d D ϱ (δi 0 d ϱ (δk d (n.cell B id) ϱ (δv d (fun w' g=>Lk r b w' ((v.grow n).nums.grow g)) ϱ ?_)))));rw [h.e3,L];refine δn d ϱ fun w4 R=>ζi j ϱ (ζk ϱ ((n.trans R).cell a1 id) ϱ ?_);have f:=n.trans R;have E:=f.heap' u;refine ζd 14 Xe (by kernel_rfl) ϱ fun d=>δl d E ϱ (δj d ϱ ?_);rw [C];refine δi (x.opn.length - 1) d ϱ (δk d (f.cell H id) ϱ (δw d (fun w' g=>Xjr l w' ((a7.grow f).ok.grow g)) ϱ (δl d E ϱ (δi 0 d ϱ (δk d (f.cell B id) ϱ (δw d (fun w' g=>Pk l' w' ((a0.grow f).ok.grow g)) ϱ (δn d ϱ fun w5 S=>ζb ϱ ?_)))))));rw [a6,W];exact ζs ((f.trans S).heap' M) ϱ fun w6 a2 ab av=>ζR func209 a2 ϱ ⟨rfl,(A.trans (f.trans S)).since ab (fun z hz e=>by have:=F.size; omega)⟩
 ·refine ζy ϱ ?_;rw [if_neg o,decide_eq_false o];exact ζb ϱ (ζs M ϱ fun w3 a3 ac aw=>ζR func209 a3 ϱ ⟨rfl,A.since ac (fun z hz e=>by have:=F.size; omega)⟩)
theorem C9.shift (h:C9 w a ps) (hm:lo+k<=ps.length) (hc:ps.length<=cap):C9 w (Qw a cap lo 1) ((ps.drop lo).take k):=fun i l d=>by
 have g:=(List.getElem?_eq_some_iff.1 d).1;have e:i<k:=by rw [XR] at g; omega
 rw [YG,if_pos e,List.getElem?_drop] at d;obtain ⟨b,off,rfl,c⟩:=h (lo+i) l d;have f:¬ cap=lo:=by omega
 refine ⟨b,off+lo,?_,?_⟩
 ·simp only [Qw,if_neg f,QI,ZH,B9]
 ·rw [YE]; exact c
theorem R4 {β:Type} (f:α->β) (l:List α) (k:Nat):(l.take k++l.drop (k+1)).map f=(l.map f).take k++(l.map f).drop (k+1):=by
 rw [XI,QF,QL]
theorem Rd.noneA' {x:List Int} {k:IntKind} (h:Rd k w a x) (hn:x.length=n):a=none->n=0:=fun e=>by rw [<- hn]; exact h.noneA e
theorem Xjs (r:RS) (x:Sm) (pl:PlM) (n i:Int) (w:World) (h:Ys w r x pl) (hok:x.Ok) (hof:x.Of pl) (hg:pl.Good):Xf prog 213 #[.agg (X4 r).toArray,.int .i64 n,.int .i64 i] w
 (fun v w' => ∃ r',v = .tuple #[.agg (X4 r').toArray,.int .i64 (Bo x n i)]/\Ys w' r' (Q1 x n i) (A3 x pl n i)/\B8 w r r'/\Xc Xe w w'):=by
 obtain ⟨ga,gb,gc⟩:=h.few hok hof;have gd:maxLen=9223372036854775807:=rfl;have ge:=hok.blk;refine ζe func213 ntmps213 ϱ (ζn ϱ fun rb w1 e1 f0 f1 gf=>ζn ϱ fun qb w2 e2 f2 dx gg => ?_);have cr:=dx.heap' f0;have cs:=f1.trans dx;refine ζl cr ϱ (ζv (Lk r n w2 (h.nums.grow cs)) ϱ fun w3 cm => ?_);have bx:=cs.trans cm;have bz:=cm.heap' cr;have ct:=cm.heap' f2;have h3:=h.grow bx;have gh:=cm.size;rw [h.e3];cases H:Zc x.pg n with
 |none =>
  rw [show Bo x n i=1 from by unfold Bo; rw [H],show Q1 x n i=x from by unfold Q1; rw [H],show A3 x pl n i=pl from by unfold A3; rw [H],Xaq H];refine ζy ϱ (ζl bz ϱ ?_);have I:=ct;refine ζs I ϱ fun Wz J t b6 => ?_;exact ζR func213 J ϱ ⟨r,rfl,h3.far (h.out (fun z hz=>by omega)) t,B8.refl _ _,bx.since t (fun z hz e=>by omega)⟩
 |some p =>
  obtain ⟨k,m,rfl,eb,gi,hk⟩:=Pi H;rw [eb];obtain ⟨l,hl,dy,dz⟩:=h3.get hk;obtain ⟨pb,poff,f3,e0⟩:=h3.rp k l hl;have cv:w3.heap[rb]? = some (.cells ([Xn r.p.o,Xn r.p.f,.int .i64 r.cls,.int .i64 (r.blocks:Int),Xn r.nums,.slice (some ⟨pb,poff,none⟩) r.ps.length r.pcap,Xn r.opn]:List Value).toArray 112 (0,0)):=by rw [<- f3]; exact bz
  have ed:=(List.getElem?_eq_some_iff.1 hl).1;have c0:=XS hk;have e3:=(hok.each _ c0).2.1;simp only at e3
  refine ζf ϱ (ζl cv ϱ (ζi k ϱ (ζk ϱ e0 ϱ (ζw (Pk l w3 dz.ok) ϱ ?_))));rw [dy];refine ζl cv ϱ (ζi k ϱ (ζk ϱ e0 ϱ (ζc ϱ (Xjn l i w3 dz.ok) ?_)));rintro _ w5 ⟨l',rfl,a9,ee,aw,f4⟩;refine ζa ϱ ?_;rw [dy] at a9 ⊢;have c2:=aw.heap' bz;have cw:=aw.heap' ct;have ay:=bx.trans aw;have gj:=aw.size;by_cases hE:Qp p i=0
  ·rw [show Bo x m i=0 from by unfold Bo; rw [H]; exact hE,show Q1 x m i=x.giveAt m p i from by unfold Q1; rw [H]; simp only; rw [if_pos hE]; rfl,show A3 x pl m i=(if Xv (Z6 p i)=0 then pl.give m else pl) from by unfold A3; rw [H]; simp only [hE,true_and]; rfl,hE];refine ζf ϱ ?_;have c6:=B2.of ee (by rw [a9,XdZ]; omega);have h5:=h3.grow aw;refine ζl c2 ϱ (ζc ϱ (S0 r k l' w5 h5.rp ed (by rw [h.plen]; omega)) ?_);rintro _ w6 ⟨pa',pcap',rfl,aa,b7,ab,f7,M⟩;refine ζa ϱ ?_;have h6:=(h5.grow M).setPage hok.nodup hk a9 (c6.grow M) aa b7 ab;have gk:=M.size;obtain ⟨r2,e4⟩:∃ r2:RS,r2={r with pa:=pa',pcap:=pcap',ps:=r.ps.set k l'}:=⟨_,rfl⟩;have e5:∀ Q:Nat->Prop,(∀ z,Q z->z<w3.heap.size)->Z0 Q r->Z0 Q r2:=fun Q g ho=>by
    rw [e4];exact ho.setPage (f7.out (fun z hz=>by have:=g z hz; omega)) (f4.outS (ho.each l (XS hl)) (fun z hz=>by have:=g z hz; omega))
   rw [<- e4] at h6 ⊢;have eg:∀ (z0:Nat),w6.heap.size<=z0->Z0 (fun z=>z=z0) r2:=fun z0 gl=>h6.out (fun z hz=>by omega);refine ζn ϱ fun kb w7 e7 ei f8 gm=>ζs ei ϱ fun w8 c7 f9 gn => ?_;have ac:=f8.since f9 (fun z hz e=>by omega);have h8:=h6.grow ac;have cy:=(ay.trans M).trans ac;have cz:=(M.trans ac).heap' c2;have d0:=(M.trans ac).heap' cw;have d1:=(c6.grow M).grow ac;have ej:Xj (fun z=>z=kb) l'.a:=(c6.grow M).lt.out (fun z hz=>by omega);have d2:=eg kb (by omega);have b8:Z7 p<0↔Xv p=x.blocks:=by rw [Pa,e3]
   refine Xa.fork Xb rfl rfl rfl (fun c8 => ?_) (fun c8 => ?_)
   ·have gful:Xv p=x.blocks:=b8.1 (of_decide_eq_true c8);refine Xa.buildSlice Xb rfl ?_;intro b9 w9 e9 fa cn gp;refine ζa rfl ?_;refine Xa.loadb Xb rfl (cn.heap' c7) rfl rfl ?_;have e6:Xl w8.heap.size 3 1 w9 (.slice (some ⟨b9,0,none⟩) 1 1) 1 [.int .i64 (m:Int)]:=Xl.one (by omega) fa;have g3:r2.opn.x.length=x.opn.length:=by rw [h8.e5]; simp
    have gq:x.opn.length+1<=512:=by
     have fb:m ∉ x.opn:=fun hm=>((hok.each _ c0).2.2.1 hm) gful;have:(m::x.opn).length<=pl.own.length:=J5 _ _ (List.nodup_cons.2 ⟨fb,hok.onodup⟩) (fun z hz=>by
      rcases List.mem_cons.1 hz with rfl | hz
      ·exact (hof _ c0).1
      ·obtain ⟨q,hq⟩:=hok.osub z hz; exact (hof _ hq).1)
     simp only [XP] at this;omega
    refine Xa.appendA (base:=w8.heap.size) (xs := [.int .i64 (m:Int)]) (news:=r2.opn.x.map (Value.int .i64)) Xb rfl e6 cn.size h8.opn.ok.rd.noneA (by simp) (h8.opn.ok.rd.chg cn).cellsA H2 (by simp only; omega) ?_;intro e8 fc ek el g6;have D:=e6.since cn (XE _) el;obtain ⟨ol,rfl,du,dv,co⟩:=Xl.il (x:=(m:Int)::r2.opn.x) (v:=e8) (m:=1+r2.opn.x.length) (show Xl w8.heap.size 3 1 fc e8 (1+r2.opn.x.length) (((m:Int)::r2.opn.x).map (Value.int .i64)) from ek) (by simp; omega) (by simp; omega);refine ζa rfl ?_;have fz:=D.size;refine Xa.store Xb rfl (D.heap' c7) rfl rfl ?_;intro W em ba gs;refine ζa rfl ?_;obtain ⟨j,R⟩:∃ j:RS,j={r2 with opn:=ol}:=⟨_,rfl⟩;have a6:W.heap[kb]? = some (.cells (X4 j).toArray 112 (0,0)):=by rw [R]; exact em
    obtain ⟨o,ho⟩:∃ o,o=(if Xv p=x.blocks then m::x.opn else x.opn):=⟨_,rfl⟩;have d3:o=m::x.opn:=by rw [ho,if_pos gful]
    have en:Xj (fun z=>z=kb) ol.a:=by intro b off s e hz; have:=co b off s e; omega
    have a5:Z0 (fun z=>z=kb) j:=by rw [R]; exact d2.setOpn en
    have A:Ys W j {x with pg:=Zi x.pg m (Z6 p i),opn:=o} pl:=by
     have d:=a5;rw [R] at d ⊢;exact ((h8.grow D).setOpn (o:=o) dv (by rw [du,h8.e5,d3]; rfl)).far d ba
    have bb:∀ Q:Nat->Prop,(∀ z,Q z->z<w3.heap.size)->Z0 Q r->Z0 Q j:=fun Q g u=>by
     rw [R]; exact (e5 Q g u).setOpn (by intro b off s e hz; have:=co b off s e; have:=g b hz; omega)
    have c9:Xc Xe w w6:=ay.trans M;have ad:Xc Xe w W:=(cy.trans D).since ba (fun z hz e=>by omega);have az:=ba.heap (D.heap' cz) (show ¬ rb=kb by omega);have a7:=ba.heap (D.heap' d0) (show ¬ qb=kb by omega);have b0:=(d1.grow D).far ej ba;refine ζw (Xei l' W b0.ok) ϱ ?_;rw [a9];by_cases hu:Xv (Z6 p i)=0
    ·rw [show (if Xv (Z6 p i)=0 then pl.give m else pl)=pl.give m from if_pos hu];refine ζF ϱ (by rw [hu]; rfl) ?_;have af:x.giveAt m p i={x with pg:=Y8 x.pg m,opn:=o.filter (fun z=>z != m)}:=by unfold Sm.giveAt; simp only; rw [if_pos hu,ho]
     rw [af];refine ζl a6 ϱ (ζc ϱ (S3 j.opn m W A.opn) ?_);rintro _ Wa ⟨bc,rfl,ca,cb,cc,B⟩;refine ζa ϱ ?_;have fd:=B.size;refine ζs (B.heap' a6) ϱ fun Wb cd ag fe => ?_;have nn:∀ {a b:World},Xc Xe a b->Xc (fun z=>z=kb) a b:=fun h=>h.gr;have bd:=(ad.trans B).since ag (fun z hz e=>by omega);have N:=ag.heap (B.heap' az) (show ¬ rb=kb by omega);have be:=h.nums.grow bd;have ff:r.nums.x.length=x.pg.length:=by rw [h.e3]; simp
     have fg:=h.nums.cap;have fh:=h.pcap;refine ζd 11 Xe (by kernel_rfl) ϱ fun c=>δl c N ϱ (Xd.slice Xb c rfl (l:=0) (h:=k) (by first | rfl | omega | simp [Bv]) (by first | rfl | omega | simp [Bt]) (by omega) (by omega) rfl (δl c N ϱ (δj c ϱ (Xd.slice Xb c rfl (l:=(k+1)) (h:=r.nums.x.length) (by first | rfl | omega | simp [Bv]) (by first | rfl | omega | simp [Bt]) (by omega) (by omega) rfl ?_))));obtain ⟨bf,E⟩:=be.sl (lo:=0) (hi:=k) (XL _) (by omega);obtain ⟨bg,F⟩:=be.sl (lo:=k+1) (hi:=r.nums.x.length) (by omega) (XE _);refine Xd.turn1 c rfl fun Wc bh=>Xq.buildSlice Xb c rfl (fun _=>rfl) fun b1 Wd fi d4 d5 fj=>Xd.turn1 c rfl fun We bi => ?_;have bj:Xl Wb.heap.size 3 1 We (.slice (some ⟨b1,0,none⟩) 0 0) 0 []:=Xl.empty (by have:=bh.size; omega) (bi.heap' d4);have S:=(bh.trans d5).trans bi;refine Xq.appendA Xb c rfl (base:=Wb.heap.size) (xs := []) (news:=(r.nums.sl 0 k).x.map (Value.int .i64)) bj S.size ((bf.grow S).ok.rd.noneA' E) (XE _) (by rw [XM,E,ZH]) (bf.grow S).ok.rd.cellsA H2 (by simp only; omega) (fun _=>rfl) ?_;intro v2 Wf bk d6 fk;obtain ⟨va,vn,vc,rfl⟩:=Xl.isSlice bk;have d7:=bj.since S (XE _) d6;refine δn c ϱ fun Wg bl => ?_;have ah:=bk.chg bl (fun _ _ h=>h);have T:=d7.trans bl;refine Xa.appendA (base:=Wb.heap.size) (news:=(r.nums.sl (k+1) r.nums.x.length).x.map (Value.int .i64)) Xb rfl ah T.size ((bg.grow T).ok.rd.noneA' F) (by rw [XM,F,ZH]) (bg.grow T).ok.rd.cellsA H2 (by simp only; omega) ?_;intro v3 Wh d8 d9 fm;have K:=ah.since T (XE _) d9;obtain ⟨nl,rfl,ce,cf,cg⟩:=Xl.il (x:=(r.nums.sl 0 k).x++(r.nums.sl (k+1) r.nums.x.length).x) (v:=v3) (by rw [XI]; exact d8) (by rw [XT,E,F]; omega) (by rw [XT,E,F]; omega);refine ζa ϱ ?_;have es:=K.size;refine ζs (K.heap' cd) ϱ fun Wi ch U fn => ?_;have bm:=(bd.trans K).since U (fun z hz e=>by omega);have ai:=U.heap (K.heap' N) (show ¬ rb=kb by omega);have aj:=h.rp.grow bm;have fo:=h.plen;refine ζd 11 Xe (by kernel_rfl) ϱ fun c=>δl c ai ϱ (Xd.slice Xb c rfl (l:=0) (h:=k) (by first | rfl | omega | simp [Bv]) (by first | rfl | omega | simp [Bt]) (by omega) (by omega) rfl (δl c ai ϱ (δj c ϱ (Xd.slice Xb c rfl (l:=(k+1)) (h:=r.ps.length) (by first | rfl | omega | simp [Bv]) (by first | rfl | omega | simp [Bt]) (by omega) (by omega) rfl ?_))));have bn:=aj.shift (cap:=r.pcap) (lo:=0) (k:=k) (by omega) h.pcap;have bo:=aj.shift (cap:=r.pcap) (lo:=k+1) (k:=r.ps.length - (k+1)) (by omega) h.pcap;have ak:((r.ps.drop 0).take k).length=k:=by rw [XR,ZP]; omega
     have al:((r.ps.drop (k+1)).take (r.ps.length - (k+1))).length=r.ps.length - (k+1):=by rw [XR,ZP]; omega
     refine Xd.turn1 c rfl fun Wj bp=>Xq.buildSlice Xb c rfl (fun _=>rfl) fun b4 Wk fp da db fq=>Xd.turn1 c rfl fun Wl bq => ?_;have br:Xl Wi.heap.size 22 1 Wl (.slice (some ⟨b4,0,none⟩) 0 0) 0 []:=Xl.empty (by have:=bp.size; omega) (bq.heap' da);have V:=(bp.trans db).trans bq;refine Xq.appendA Xb c rfl (base:=Wi.heap.size) (xs := []) (news:=((r.ps.drop 0).take k).map Xn) br V.size (fun e=>by have:=(bn.grow V).noneA e; omega) (XE _) (by rw [XM,ak]; show k=(k - 0)*1; omega) (bn.grow V).cellsA Ng (by simp only; omega) (fun _=>rfl) ?_;intro v5 Wm bs dc fr;obtain ⟨vd,ve,vf,rfl⟩:=Xl.isSlice bs;have dd:=br.since V (XE _) dc;refine δn c ϱ fun Wn bt => ?_;have am:=bs.chg bt (fun _ _ h=>h);have a0:=dd.trans bt;refine Xa.appendA (base:=Wi.heap.size) (news:=((r.ps.drop (k+1)).take (r.ps.length - (k+1))).map Xn) Xb rfl am a0.size (fun e=>by have:=(bo.grow a0).noneA e; omega) (by rw [XM,al,ZH]) (bo.grow a0).cellsA Ng (by simp only; omega) ?_;intro v6 Wo de df fs;have L:=am.since a0 (XE _) df;obtain ⟨dg,b2,rfl,aa,b7,ab,dh⟩:=Xl.pl (ps:=(r.ps.drop 0).take k++(r.ps.drop (k+1)).take (r.ps.length - (k+1))) (v:=v6) (by rw [XI]; exact de) (by rw [XT,ak,al]; omega);refine ζa ϱ ?_;have ew:=L.size;obtain ⟨a1,G⟩:∃ a1,a1=(r.ps.drop 0).take k++(r.ps.drop (k+1)).take (r.ps.length - (k+1)):=⟨_,rfl⟩;rw [<- G] at aa ab ⊢;refine ζs (L.heap' ch) ϱ fun Wp an C ft => ?_;have c1:=((ag.trans (nn K)).trans U).trans ((nn L).trans C);have a2:=A.grow B;have di:Qv Wp j.p pl:=⟨a2.p.o.far a5.o c1,a2.p.f.far a5.f c1,a2.p.eo,a2.p.ef⟩;obtain ⟨ao,ci⟩:=hof _ (XS hk);simp only at ao ci
     have fu:=hok.cls;refine ζl an ϱ (ζc ϱ (Xav j.p m pl Wp di hg ao (by omega)) ?_);rintro _ Wq ⟨rp',rfl,dj,dk,dl,bu⟩;refine ζa ϱ ?_;have fv:=bu.size;refine ζn ϱ fun ub Wr er dm dn fw=>ζs dm ϱ fun Ws cj dp fx => ?_;have ap:=dn.since dp (fun z hz e=>by omega);have f:=bu.trans ap;refine ζl cj ϱ (ζs (f.heap' an) ϱ fun Wt O y fy => ?_);obtain ⟨P,aq⟩:∃ P:RS,P=⟨rp',j.cls,j.blocks,nl,dg,b2,a1,bc⟩:=⟨_,rfl⟩;replace O:Wt.heap[kb]? = some (.cells (X4 P).toArray 112 (0,0)):=by rw [aq]; exact O
     have ex:=fd;have ey:Wb.heap.size<=Wp.heap.size:=by have:=C.size; omega
     have ar:∀ Q:Nat->Prop,(∀ z,Q z->z<W.heap.size)->Z0 Q r->Z0 Q P:=fun Q g u=>by
      rw [aq];exact ⟨dk.out (fun z hz=>by have:=g z hz; omega),dl.out (fun z hz=>by have:=g z hz; omega),(by intro b off s e hz; have:=cg b off s e; have:=g b hz; omega),cc.out (fun z hz=>g z hz),(by intro b off s e hz; have:=dh b off s e; have:=g b hz; omega),fun l2 a3=>u.each l2 (by
       rw [G] at a3;rcases List.mem_append.1 a3 with h1 | h1
       ·exact ZA (XO h1)
       ·exact ZA (XO h1))⟩
     have ck:Z0 (fun z=>z=kb) r:=h.out (fun z hz=>by have:=c9.size; omega);have cl:=ar (fun z=>z=kb) (fun z hz=>by omega) ck;have c3:=y;have c4:=((nn L).trans C).trans ((nn f).trans y);have bv:=(((bm.trans L).since C (fun z hz e=>by omega)).trans f).since y (fun z hz e=>by omega);have dr:Ys Wt P {x with pg:=Y8 x.pg m,opn:=o.filter (fun z=>z != m)} (pl.give m):=by
      have d:=cl;rw [aq] at d ⊢;have a4:=dj.grow ap;refine ⟨⟨a4.o.far d.o c3,a4.f.far d.f c3,a4.eo,a4.ef⟩,(cf.far d.nums U).far d.nums c4,(cb.far d.opn c1).far d.opn ((nn f).trans y),(aa.far d.pa C).far d.pa ((nn f).trans y),b7.grow (by have:=C.size; have:=y.size; have:=f.size; omega),ab,fun l2 a3 => ?_,A.e1,A.e2,?_,?_,?_⟩
      ·have:l2 ∈ r.ps:=by
        have bw:=a3;rw [G] at bw;rcases List.mem_append.1 bw with h1 | h1
        ·exact ZA (XO h1)
        ·exact ZA (XO h1)
       exact (h.each l2 this).grow bv
      ·show nl.x=(Y8 x.pg m).map _
       rw [ce,Tl hok.nodup hk,R4];show (r.nums.x.drop 0).take (k - 0)++(r.nums.x.drop (k+1)).take (r.nums.x.length - (k+1))=_
       rw [List.drop_zero,Nat.sub_zero,ZK (i:=r.nums.x.length - (k+1)) (by rw [ZP]; omega),h.e3]
      ·show a1.map _=(Y8 x.pg m).map _
       rw [G,Tl hok.nodup hk,R4,<- h.e4,List.drop_zero,ZK (i:=r.ps.length - (k+1)) (by rw [ZP]; omega),XI,QF,QL]
      ·show bc.x=(o.filter _).map _
       rw [ca,A.e5]; exact R6 _ _
     have ds:=(c1.trans ((nn f).trans y)).heap (B.heap' a7) (show ¬ qb=kb by omega);refine ζl O ϱ ?_;have I:=ds;refine ζs I ϱ fun Wz J t b6 => ?_;have au:Z0 (fun z=>z=qb) P:=ar _ (fun z hz=>by have:=Xg a7; omega) (h.out (fun z hz=>by omega));exact ζR func213 J ϱ ⟨P,rfl,dr.far au t,fun Q g u=>ar Q (fun z hz=>by have:=g z hz; have:=ad.size; omega) u,bv.since t (fun z hz e=>by omega)⟩
    ·rw [show (if Xv (Z6 p i)=0 then pl.give m else pl)=pl from if_neg hu];refine ζy ϱ ?_;have af:x.giveAt m p i={x with pg:=Zi x.pg m (Z6 p i),opn:=o}:=by unfold Sm.giveAt; simp only; rw [if_neg hu,ho]
     rw [af];refine ζl a6 ϱ ?_;have I:=a7;refine ζs I ϱ fun Wz J t b6 => ?_;have au:Z0 (fun z=>z=qb) j:=bb _ (fun z hz=>by omega) (h.out (fun z hz=>by omega));exact ζR func213 J ϱ ⟨j,rfl,A.far au t,fun Q g u=>bb Q (fun z hz=>by have:=g z hz; omega) u,ad.since t (fun z hz e=>by omega)⟩
   ·have gful:¬ Xv p=x.blocks:=fun e=>by have:=of_decide_eq_false c8; exact this (b8.2 e)
    obtain ⟨j,R⟩:∃ j:RS,j=r2:=⟨_,rfl⟩;obtain ⟨W,hW⟩:∃ W,W=w8:=⟨_,rfl⟩;obtain ⟨o,ho⟩:∃ o,o=(if Xv p=x.blocks then m::x.opn else x.opn):=⟨_,rfl⟩;have d3:o=x.opn:=by rw [ho,if_neg gful]
    have a6:W.heap[kb]? = some (.cells (X4 j).toArray 112 (0,0)):=by rw [hW,R]; exact c7
    have a5:Z0 (fun z=>z=kb) j:=by rw [R]; exact d2
    have A:Ys W j {x with pg:=Zi x.pg m (Z6 p i),opn:=o} pl:=by rw [hW,R,d3]; exact h8
    have bb:∀ Q:Nat->Prop,(∀ z,Q z->z<w3.heap.size)->Z0 Q r->Z0 Q j:=fun Q g u=>by rw [R]; exact e5 Q g u
    have c9:=ay.trans M;have ad:Xc Xe w W:=by rw [hW]; exact cy
    have az:=cz;have a7:=d0;have b0:=d1;rw [<- hW] at az a7 b0;have dw:∀ {X:World->Prop},X W->X w8:=fun h=>hW▸h;refine dw (X:=fun w2=>Xa _ _ _ _ _ _ _ w2) ?_;have g9:=Xg a6;refine ζw (Xei l' W b0.ok) ϱ ?_;rw [a9];by_cases hu:Xv (Z6 p i)=0
    ·rw [show (if Xv (Z6 p i)=0 then pl.give m else pl)=pl.give m from if_pos hu];refine ζF ϱ (by rw [hu]; rfl) ?_;have af:x.giveAt m p i={x with pg:=Y8 x.pg m,opn:=o.filter (fun z=>z != m)}:=by unfold Sm.giveAt; simp only; rw [if_pos hu,ho]
     rw [af];refine ζl a6 ϱ (ζc ϱ (S3 j.opn m W A.opn) ?_);rintro _ Wa ⟨bc,rfl,ca,cb,cc,B⟩;refine ζa ϱ ?_;refine ζs (B.heap' a6) ϱ fun Wb cd ag fe => ?_;have nn:∀ {a b:World},Xc Xe a b->Xc (fun z=>z=kb) a b:=fun h=>h.gr;have bd:=(ad.trans B).since ag (fun z hz e=>by omega);have N:=ag.heap (B.heap' az) (show ¬ rb=kb by omega);have be:=h.nums.grow bd;have ff:r.nums.x.length=x.pg.length:=by rw [h.e3]; simp
     have fg:=h.nums.cap;have fh:=h.pcap;refine ζd 11 Xe (by kernel_rfl) ϱ fun c=>δl c N ϱ (Xd.slice Xb c rfl (l:=0) (h:=k) (by first | rfl | omega | simp [Bv]) (by first | rfl | omega | simp [Bt]) (by omega) (by omega) rfl (δl c N ϱ (δj c ϱ (Xd.slice Xb c rfl (l:=(k+1)) (h:=r.nums.x.length) (by first | rfl | omega | simp [Bv]) (by first | rfl | omega | simp [Bt]) (by omega) (by omega) rfl ?_))));obtain ⟨bf,E⟩:=be.sl (lo:=0) (hi:=k) (XL _) (by omega);obtain ⟨bg,F⟩:=be.sl (lo:=k+1) (hi:=r.nums.x.length) (by omega) (XE _);refine Xd.turn1 c rfl fun Wc bh=>Xq.buildSlice Xb c rfl (fun _=>rfl) fun b1 Wd fi d4 d5 fj=>Xd.turn1 c rfl fun We bi => ?_;have bj:Xl Wb.heap.size 3 1 We (.slice (some ⟨b1,0,none⟩) 0 0) 0 []:=Xl.empty (by have:=bh.size; omega) (bi.heap' d4);have S:=(bh.trans d5).trans bi;refine Xq.appendA Xb c rfl (base:=Wb.heap.size) (xs := []) (news:=(r.nums.sl 0 k).x.map (Value.int .i64)) bj S.size ((bf.grow S).ok.rd.noneA' E) (XE _) (by rw [XM,E,ZH]) (bf.grow S).ok.rd.cellsA H2 (by simp only; omega) (fun _=>rfl) ?_;intro v2 Wf bk d6 fk;obtain ⟨va,vn,vc,rfl⟩:=Xl.isSlice bk;have d7:=bj.since S (XE _) d6;refine δn c ϱ fun Wg bl => ?_;have ah:=bk.chg bl (fun _ _ h=>h);have T:=d7.trans bl;refine Xa.appendA (base:=Wb.heap.size) (news:=(r.nums.sl (k+1) r.nums.x.length).x.map (Value.int .i64)) Xb rfl ah T.size ((bg.grow T).ok.rd.noneA' F) (by rw [XM,F,ZH]) (bg.grow T).ok.rd.cellsA H2 (by simp only; omega) ?_;intro v3 Wh d8 d9 fm;have K:=ah.since T (XE _) d9;obtain ⟨nl,rfl,ce,cf,cg⟩:=Xl.il (x:=(r.nums.sl 0 k).x++(r.nums.sl (k+1) r.nums.x.length).x) (v:=v3) (by rw [XI]; exact d8) (by rw [XT,E,F]; omega) (by rw [XT,E,F]; omega);refine ζa ϱ ?_;have es:=K.size;refine ζs (K.heap' cd) ϱ fun Wi ch U fn => ?_;have bm:=(bd.trans K).since U (fun z hz e=>by omega);have ai:=U.heap (K.heap' N) (show ¬ rb=kb by omega);have aj:=h.rp.grow bm;have fo:=h.plen;refine ζd 11 Xe (by kernel_rfl) ϱ fun c=>δl c ai ϱ (Xd.slice Xb c rfl (l:=0) (h:=k) (by first | rfl | omega | simp [Bv]) (by first | rfl | omega | simp [Bt]) (by omega) (by omega) rfl (δl c ai ϱ (δj c ϱ (Xd.slice Xb c rfl (l:=(k+1)) (h:=r.ps.length) (by first | rfl | omega | simp [Bv]) (by first | rfl | omega | simp [Bt]) (by omega) (by omega) rfl ?_))));have bn:=aj.shift (cap:=r.pcap) (lo:=0) (k:=k) (by omega) h.pcap;have bo:=aj.shift (cap:=r.pcap) (lo:=k+1) (k:=r.ps.length - (k+1)) (by omega) h.pcap;have ak:((r.ps.drop 0).take k).length=k:=by rw [XR,ZP]; omega
     have al:((r.ps.drop (k+1)).take (r.ps.length - (k+1))).length=r.ps.length - (k+1):=by rw [XR,ZP]; omega
     refine Xd.turn1 c rfl fun Wj bp=>Xq.buildSlice Xb c rfl (fun _=>rfl) fun b4 Wk fp da db fq=>Xd.turn1 c rfl fun Wl bq => ?_;have br:Xl Wi.heap.size 22 1 Wl (.slice (some ⟨b4,0,none⟩) 0 0) 0 []:=Xl.empty (by have:=bp.size; omega) (bq.heap' da);have V:=(bp.trans db).trans bq;refine Xq.appendA Xb c rfl (base:=Wi.heap.size) (xs := []) (news:=((r.ps.drop 0).take k).map Xn) br V.size (fun e=>by have:=(bn.grow V).noneA e; omega) (XE _) (by rw [XM,ak]; show k=(k - 0)*1; omega) (bn.grow V).cellsA Ng (by simp only; omega) (fun _=>rfl) ?_;intro v5 Wm bs dc fr;obtain ⟨vd,ve,vf,rfl⟩:=Xl.isSlice bs;have dd:=br.since V (XE _) dc;refine δn c ϱ fun Wn bt => ?_;have am:=bs.chg bt (fun _ _ h=>h);have a0:=dd.trans bt;refine Xa.appendA (base:=Wi.heap.size) (news:=((r.ps.drop (k+1)).take (r.ps.length - (k+1))).map Xn) Xb rfl am a0.size (fun e=>by have:=(bo.grow a0).noneA e; omega) (by rw [XM,al,ZH]) (bo.grow a0).cellsA Ng (by simp only; omega) ?_;intro v6 Wo de df fs;have L:=am.since a0 (XE _) df;obtain ⟨dg,b2,rfl,aa,b7,ab,dh⟩:=Xl.pl (ps:=(r.ps.drop 0).take k++(r.ps.drop (k+1)).take (r.ps.length - (k+1))) (v:=v6) (by rw [XI]; exact de) (by rw [XT,ak,al]; omega);refine ζa ϱ ?_;have ew:=L.size;obtain ⟨a1,G⟩:∃ a1,a1=(r.ps.drop 0).take k++(r.ps.drop (k+1)).take (r.ps.length - (k+1)):=⟨_,rfl⟩;rw [<- G] at aa ab ⊢;refine ζs (L.heap' ch) ϱ fun Wp an C ft => ?_;have c1:=((ag.trans (nn K)).trans U).trans ((nn L).trans C);have a2:=A.grow B;have di:Qv Wp j.p pl:=⟨a2.p.o.far a5.o c1,a2.p.f.far a5.f c1,a2.p.eo,a2.p.ef⟩;obtain ⟨ao,ci⟩:=hof _ (XS hk);simp only at ao ci
     have fu:=hok.cls;refine ζl an ϱ (ζc ϱ (Xav j.p m pl Wp di hg ao (by omega)) ?_);rintro _ Wq ⟨rp',rfl,dj,dk,dl,bu⟩;refine ζa ϱ ?_;have fv:=bu.size;refine ζn ϱ fun ub Wr er dm dn fw=>ζs dm ϱ fun Ws cj dp fx => ?_;have ap:=dn.since dp (fun z hz e=>by omega);have f:=bu.trans ap;refine ζl cj ϱ (ζs (f.heap' an) ϱ fun Wt O y fy => ?_);obtain ⟨P,aq⟩:∃ P:RS,P=⟨rp',j.cls,j.blocks,nl,dg,b2,a1,bc⟩:=⟨_,rfl⟩;replace O:Wt.heap[kb]? = some (.cells (X4 P).toArray 112 (0,0)):=by rw [aq]; exact O
     have ex:=B.size;have ey:Wb.heap.size<=Wp.heap.size:=by have:=C.size; omega
     have ar:∀ Q:Nat->Prop,(∀ z,Q z->z<W.heap.size)->Z0 Q r->Z0 Q P:=fun Q g u=>by
      rw [aq];exact ⟨dk.out (fun z hz=>by have:=g z hz; omega),dl.out (fun z hz=>by have:=g z hz; omega),(by intro b off s e hz; have:=cg b off s e; have:=g b hz; omega),cc.out (fun z hz=>g z hz),(by intro b off s e hz; have:=dh b off s e; have:=g b hz; omega),fun l2 a3=>u.each l2 (by
       rw [G] at a3;rcases List.mem_append.1 a3 with h1 | h1
       ·exact ZA (XO h1)
       ·exact ZA (XO h1))⟩
     have ck:Z0 (fun z=>z=kb) r:=h.out (fun z hz=>by have:=c9.size; omega);have cl:=ar (fun z=>z=kb) (fun z hz=>by omega) ck;have c3:=y;have c4:=((nn L).trans C).trans ((nn f).trans y);have bv:=(((bm.trans L).since C (fun z hz e=>by omega)).trans f).since y (fun z hz e=>by omega);have dr:Ys Wt P {x with pg:=Y8 x.pg m,opn:=o.filter (fun z=>z != m)} (pl.give m):=by
      have d:=cl;rw [aq] at d ⊢;have a4:=dj.grow ap;refine ⟨⟨a4.o.far d.o c3,a4.f.far d.f c3,a4.eo,a4.ef⟩,(cf.far d.nums U).far d.nums c4,(cb.far d.opn c1).far d.opn ((nn f).trans y),(aa.far d.pa C).far d.pa ((nn f).trans y),b7.grow (by have:=C.size; have:=y.size; have:=f.size; omega),ab,fun l2 a3 => ?_,A.e1,A.e2,?_,?_,?_⟩
      ·have:l2 ∈ r.ps:=by
        have bw:=a3;rw [G] at bw;rcases List.mem_append.1 bw with h1 | h1
        ·exact ZA (XO h1)
        ·exact ZA (XO h1)
       exact (h.each l2 this).grow bv
      ·show nl.x=(Y8 x.pg m).map _
       rw [ce,Tl hok.nodup hk,R4];show (r.nums.x.drop 0).take (k - 0)++(r.nums.x.drop (k+1)).take (r.nums.x.length - (k+1))=_
       rw [List.drop_zero,Nat.sub_zero,ZK (i:=r.nums.x.length - (k+1)) (by rw [ZP]; omega),h.e3]
      ·show a1.map _=(Y8 x.pg m).map _
       rw [G,Tl hok.nodup hk,R4,<- h.e4,List.drop_zero,ZK (i:=r.ps.length - (k+1)) (by rw [ZP]; omega),XI,QF,QL]
      ·show bc.x=(o.filter _).map _
       rw [ca,A.e5]; exact R6 _ _
     have ds:=(c1.trans ((nn f).trans y)).heap (B.heap' a7) (show ¬ qb=kb by omega);refine ζl O ϱ ?_;have I:=ds;refine ζs I ϱ fun Wz J t b6 => ?_;have au:Z0 (fun z=>z=qb) P:=ar _ (fun z hz=>by have:=Xg a7; omega) (h.out (fun z hz=>by omega));exact ζR func213 J ϱ ⟨P,rfl,dr.far au t,fun Q g u=>ar Q (fun z hz=>by have:=g z hz; have:=ad.size; omega) u,bv.since t (fun z hz e=>by omega)⟩
    ·rw [show (if Xv (Z6 p i)=0 then pl.give m else pl)=pl from if_neg hu];refine ζy ϱ ?_;have af:x.giveAt m p i={x with pg:=Zi x.pg m (Z6 p i),opn:=o}:=by unfold Sm.giveAt; simp only; rw [if_neg hu,ho]
     rw [af];refine ζl a6 ϱ ?_;have I:=a7;refine ζs I ϱ fun Wz J t b6 => ?_;have au:Z0 (fun z=>z=qb) j:=bb _ (fun z hz=>by omega) (h.out (fun z hz=>by omega));exact ζR func213 J ϱ ⟨j,rfl,A.far au t,fun Q g u=>bb Q (fun z hz=>by have:=g z hz; omega) u,ad.since t (fun z hz e=>by omega)⟩
  ·rw [show Bo x m i=Qp p i from by unfold Bo; rw [H],show Q1 x m i=x from by unfold Q1; rw [H]; simp only; rw [if_neg hE],show A3 x pl m i=pl from by unfold A3; rw [H]; simp only; rw [if_neg (fun h=>hE h.1)]];refine ζY ϱ (show (Qp p i != 0)=true by simpa using hE) (ζl c2 ϱ ?_);have I:=cw;refine ζs I ϱ fun Wz J t b6 => ?_;exact ζR func213 J ϱ ⟨r,rfl,(h3.grow aw).far (h.out (fun z hz=>by omega)) t,B8.refl _ _,ay.since t (fun z hz e=>by omega)⟩
def D9 (n q:Int):Int:=if n<1\/q<1 then 0 else n / q
theorem T5 {n q:Int} (h:1<=n) (h':1<=q):D9 n q=n / q:=by unfold D9; rw [if_neg (by omega)]
theorem Xbv {n q:Int} (h:n<1\/q<1):D9 n q=0:=by unfold D9; rw [if_pos h]
theorem XfM (x:Int) (w:World):Xf prog 261 #[.int .i64 x] w (X7 (.bool (decide (x<1))) w):=by
 exact ζe func261 ntmps261 ϱ (ζr func261 ϱ ⟨rfl,rfl⟩)
theorem XlK (x y:Int) (w:World):Xf prog 260 #[.int .i64 x,.int .i64 y,.func (.func 261) #[] #[]] w (X7 (.bool (decide (x<1\/y<1))) w):=by
 refine ζe func260 ntmps260 ϱ (ζw (XfM x w) ϱ (ζg ϱ (fun h => ?_) fun h => ?_))
 ·exact ζr func260 ϱ ⟨Q7 (by simp at h; simp [h]),rfl⟩
 ·exact ζw (XfM y w) ϱ (ζr func260 ϱ ⟨Q7 (by simp at h; simp [show ¬ x<1 from by omega]),rfl⟩)
theorem XfL (x y:Int) (w:World):Xf prog 231 #[.int .i64 x,.int .i64 y] w (X7 (.bool (decide (x<1\/y<1))) w):=by
 exact ζe func231 ntmps231 ϱ (ζw (XlK x y w) ϱ (ζr func231 ϱ ⟨rfl,rfl⟩))
theorem XlJ (n q:Int) (w:World) (hn:n<=9223372036854775807):Xf prog 189 #[.int .i64 n,.int .i64 q] w (X7 (.int .i64 (D9 n q)) w):=by
 refine ζe func189 ntmps189 ϱ (ζw (XfL n q w) ϱ (ζg ϱ (fun h => ?_) fun h => ?_))
 ·exact ζr func189 ϱ ⟨X0 (Xbv (by simpa using h)).symm,rfl⟩
 ·have a:1<=n/\1<=q:=by simp at h; omega
  exact Xa.div Xb rfl (by omega) (Fh (by omega) (by omega)) rfl (ζr func189 ϱ ⟨X0 (T5 a.1 a.2).symm,rfl⟩)
theorem Xjd (n q:Int) (w:World) (hn:n<=9223372036854775807):Xf prog 110 #[.int .i64 n,.int .i64 q] w (X7 (.int .i64 (D9 n q)) w):=by
 refine ζe func110 ntmps110 ϱ (ζg ϱ (fun h => ?_) fun h => ?_)
 ·exact ζr func110 ϱ ⟨X0 (Xbv (.inl (by simpa using h))).symm,rfl⟩
 ·refine ζg ϱ (fun a => ?_) fun a => ?_
  ·exact ζr func110 ϱ ⟨X0 (Xbv (.inr (by simpa using a))).symm,rfl⟩
  ·have b:1<=n/\1<=q:=by simp at h a; omega
   exact Xa.div Xb rfl (by omega) (Fh (by omega) (by omega)) rfl (ζr func110 ϱ ⟨X0 (T5 b.1 b.2).symm,rfl⟩)
def Qh (n q:Int):Int:=if n<1\/q<1 then 0 else (n - 1) / q+1
theorem XlI (n q:Int) (w:World) (hn:n<=9223372036854775807):Xf prog 198 #[.int .i64 n,.int .i64 q] w (X7 (.int .i64 (Qh n q)) w):=by
 refine ζe func198 ntmps198 ϱ (ζw (XfL n q w) ϱ (ζg ϱ (fun h => ?_) fun h => ?_))
 ·have:Qh n q=0:=by unfold Qh; rw [if_pos (by simpa using h)]
  exact ζr func198 ϱ ⟨X0 this.symm,rfl⟩
 ·have a:1<=n/\1<=q:=by simp at h; omega
  have:Qh n q=(n - 1) / q+1:=by unfold Qh; rw [if_neg (by omega)]
  have b:0<=(n - 1) / q:=YD (by omega) (by omega);have c:(n - 1) / q<=n - 1:=YT _ (by omega);exact ζj ϱ (Xa.div Xb rfl (by omega) (Fh (by omega) (by omega)) rfl (ζj ϱ (ζr func198 ϱ ⟨X0 this.symm,rfl⟩)))
theorem Xie {n q:Int} (h1:1<=n) (h2:1<=q):Qh n q=if 0<n % q then n / q+1 else n / q:=by
 have a:Qh n q=(n - 1) / q+1:=by unfold Qh; rw [if_neg (by omega)]
 have c:=Int.mul_ediv_add_emod n q;have d:=Int.emod_nonneg n (show q≠0 by omega);have b:=Int.emod_lt_of_pos n (show 0<q by omega);rw [a];split
 ·have:(n - 1) / q=n / q:=((Int.ediv_emod_unique (show 0<q by omega)).2 ⟨(show (n % q - 1)+q*(n / q)=n - 1 by omega),by omega,by omega⟩).1;omega
 ·have e:q*(n / q - 1)=q*(n / q) - q:=by rw [Int.mul_sub,Int.mul_one]
  have:(n - 1) / q=n / q - 1:=((Int.ediv_emod_unique (show 0<q by omega)).2 ⟨(show (q - 1)+q*(n / q - 1)=n - 1 by omega),by omega,by omega⟩).1;omega
theorem Xjc (n q:Int) (w:World) (hn:n<=9223372036854775807):Xf prog 58 #[.int .i64 n,.int .i64 q] w (X7 (.int .i64 (Qh n q)) w):=by
 refine ζe func58 ntmps58 ϱ (ζg ϱ (fun h => ?_) fun h => ?_)
 ·exact ζr func58 ϱ ⟨X0 (by unfold Qh; rw [if_pos (.inl (by simpa using h))]),rfl⟩
 ·refine ζg ϱ (fun b => ?_) fun b => ?_
  ·exact ζr func58 ϱ ⟨X0 (by unfold Qh; rw [if_pos (.inr (by simpa using b))]),rfl⟩
  ·have c:1<=n/\1<=q:=by simp at h b; omega
   rw [Xie c.1 c.2];have d:0<=n / q:=YD (by omega) (by omega);have e:n / q<=n:=YT _ (by omega);refine Xa.div Xb rfl (by omega) (Fi (by omega)) rfl (ζg ϱ (fun a => ?_) fun a => ?_)
   ·rw [if_pos (of_decide_eq_true a)];have f:n / q<n:=by
     have g:=Int.mul_ediv_add_emod n q;have i:=of_decide_eq_true a;have j:=XX c.2 d;omega
    exact Xa.div Xb rfl (by omega) (Fh (by omega) (by omega)) rfl (ζj ϱ (ζr func58 ϱ ⟨rfl,rfl⟩))
   ·rw [if_neg (of_decide_eq_false a)];exact Xa.div Xb rfl (by omega) (Fh (by omega) (by omega)) rfl (ζr func58 ϱ ⟨rfl,rfl⟩)
theorem Xe5 (a:Option Addr) (cap fk:Nat) (zs:List Int) (caps:List Value) (p:Int->Bool) (w:World) (hr:Rd .i64 w a zs) (hl:zs.length<=9223372036854775807)
 (hf:∀ x,x ∈ zs->Xf prog fk (.int .i64 x::caps).toArray w (X7 (.bool (p x)) w)) :
 Xf prog 112 #[.slice a zs.length cap,.func (.func fk) #[] caps.toArray] w (X7 (.int .i64 (idx p zs)) w):=by
 refine ζe func112 ntmps112 ϱ ?_;refine Xa.loop (α:=Nat) (fun k => [(0,false,.slice a zs.length cap),(1,false,.func (.func fk) #[] caps.toArray),(7,false,.int .i64 zs.length),(8,false,.int .i64 k)])
  (fun k w'=>w'=w/\k<=zs.length /\ ∀ j (h:j<zs.length),j<k->p zs[j]=false) (fun k=>zs.length - k) 0 ⟨rfl,rfl,rfl,rfl,trivial⟩ ⟨rfl,XL _,fun _ _ h=>by omega⟩ ?_
 rintro k o ⟨i,q,d⟩ ih;refine ζa ϱ (ζg ϱ (fun h => ?_) fun h => ?_)
 ·have c:k<zs.length:=by simpa using h
  obtain ⟨b,off,rfl,l⟩:=hr k c;rw [Hq c] at l;subst i;refine ζi k ϱ (ζk ϱ l ϱ (ζw (hf _ (XJ c)) ϱ (ζg ϱ (fun f => ?_) fun f => ?_)))
  ·exact ζr func112 ϱ ⟨X0 (Im c d f).symm,rfl⟩
  ·refine ζj ϱ ?_;exact ih (k+1) _ _ ⟨rfl,c,fun j g m=>by
    by_cases e:j=k
    ·subst e; exact f
    ·exact d j g (by omega)⟩ (by omega) ⟨rfl,rfl,rfl,rfl,trivial⟩
 ·have n:k=zs.length:=by simp at h; omega
  subst i;exact ζr func112 ϱ ⟨X0 (Hs (fun j g=>d j g (by omega))).symm,rfl⟩
theorem Xe4 (a:Option Addr) (cap fk:Nat) (zs:List Int) (caps:List Value) (p:Int->Bool) (w:World) (hr:Rd .i64 w a zs) (hl:zs.length<=9223372036854775807)
 (hf:∀ x,x ∈ zs->Xf prog fk (.int .i64 x::caps).toArray w (X7 (.bool (p x)) w)) :
 Xf prog 128 #[.slice a zs.length cap,.func (.func fk) #[] caps.toArray] w (X7 (.bool (zs.any p)) w):=by
 exact ζe func128 ntmps128 ϱ (ζw (Xe5 a cap fk zs caps p w hr hl hf) ϱ (ζr func128 ϱ ⟨Q7 (by rw [Bool.eq_iff_iff]; simp only [decide_eq_true_eq]; exact Vy),rfl⟩))
theorem XkS (a:Option Addr) (cap:Nat) (bs:List Bool) (x:Bool) (w:World) (hr:Eb w a bs) (hl:bs.length<=9223372036854775807) :
 Xf prog 182 #[.slice a bs.length cap,.bool x] w (X7 (.int .i64 (idx (fun y=>x == y) bs)) w):=by
 refine ζe func182 ntmps182 ϱ ?_;refine Xa.loop (α:=Nat) (fun k => [(0,false,.slice a bs.length cap),(1,false,.bool x),(7,false,.int .i64 bs.length),(8,false,.int .i64 k)])
  (fun k w'=>w'=w/\k<=bs.length /\ ∀ j (h:j<bs.length),j<k->(x == bs[j])=false) (fun k=>bs.length - k) 0 ⟨rfl,rfl,rfl,rfl,trivial⟩ ⟨rfl,XL _,fun _ _ h=>by omega⟩ ?_
 rintro k o ⟨i,q,c⟩ ih;refine ζa ϱ (ζg ϱ (fun h => ?_) fun h => ?_)
 ·have d:k<bs.length:=by simpa using h
  obtain ⟨b,off,rfl,l⟩:=hr k d;subst i;refine ζi k ϱ (ζk ϱ l ϱ (ζg ϱ (fun f => ?_) fun f => ?_))
  ·exact ζr func182 ϱ ⟨X0 (Im (p:=fun y=>x == y) d c f).symm,rfl⟩
  ·refine ζj ϱ ?_;exact ih (k+1) _ _ ⟨rfl,d,fun j g m=>by
    by_cases e:j=k
    ·subst e; exact f
    ·exact c j g (by omega)⟩ (by omega) ⟨rfl,rfl,rfl,rfl,trivial⟩
 ·have n:k=bs.length:=by simp at h; omega
  subst i;exact ζr func182 ϱ ⟨X0 (Hs (p:=fun y=>x == y) (fun j g=>c j g (by omega))).symm,rfl⟩
theorem XkP (a:Option Addr) (cap:Nat) (bs:List Bool) (x:Bool) (w:World) (hr:Eb w a bs) (hl:bs.length<=9223372036854775807) :
 Xf prog 130 #[.slice a bs.length cap,.bool x] w (X7 (.bool (bs.any fun y=>x == y)) w):=by
 exact ζe func130 ntmps130 ϱ (ζw (XkS a cap bs x w hr hl) ϱ (ζr func130 ϱ ⟨Q7 (by rw [Bool.eq_iff_iff]; simp only [decide_eq_true_eq]; exact Vy),rfl⟩))
def Gd (page:Int):Int->List Int->Bool
 |_,[]=>true
 |ahead,n::r=>decide (8<=n) && (n % 8 == 0) && decide (n<=page) && decide (ahead<n) && Gd page n r
def Bb (zs:List Int) (page:Int):Bool:=decide (0<zs.length) && decide (zs.length<=16) && Gd page 0 zs
def Gy (zs:List Int) (page:Int):Int:=if Bb zs page then 0 else 1
theorem XdN {page:Int} (h:k<zs.length):Gd page ahead (zs.drop k)=(decide (8<=zs[k]) && (zs[k] % 8 == 0) && decide (zs[k]<=page) && decide (ahead<zs[k]) && Gd page zs[k] (zs.drop (k+1))):=by
 rw [ZN h]; rfl
theorem XdO {page:Int} (h:zs.length<=k):Gd page ahead (zs.drop k)=true:=by
 rw [List.drop_eq_nil_of_le h]; rfl
theorem Gz {page:Int} (h:Bb zs page=false):Gy zs page=1:=by unfold Gy; rw [h]; rfl
theorem Xcj {page:Int} (h:Bb zs page=true):Gy zs page=0:=by unfold Gy; rw [h]; rfl
theorem XdP {page:Int}:∀ {zs:List Int} {ahead:Int},Gd page ahead zs=true -> ∀ i (h:i<zs.length),8<=zs[i]/\zs[i] % 8=0/\zs[i]<=page/\ahead<zs[i] /\ ∀ j (hj:j<i),zs[j]<zs[i]
 |n::r,ahead,h,i,a=>by
  simp only [Gd,XK,decide_eq_true_eq,beq_iff_eq] at h;obtain ⟨⟨⟨⟨b,c⟩,d⟩,e⟩,f⟩:=h;cases i with
  |zero=>exact ⟨b,c,d,e,fun j hj=>by omega⟩
  |succ i =>
   obtain ⟨g,k,l,m,o⟩:=XdP f i (by simpa using a);refine ⟨g,k,l,by simp only [List.getElem_cons_succ]; omega,fun j hj => ?_⟩;cases j with
   |zero=>exact m
   |succ j=>exact o j (by omega)
theorem Rx {page:Int} (h:Bb zs page=true):0<zs.length/\zs.length<=16:=by
 unfold Bb at h; simp only [XK,decide_eq_true_eq] at h; exact h.1
theorem Rw {page:Int} (h:Bb zs page=true) (i:Nat) (hi:i<zs.length):8<=zs.getD i 0/\zs.getD i 0 % 8=0/\zs.getD i 0<=page:=by
 unfold Bb at h; simp only [XK,decide_eq_true_eq] at h;obtain ⟨a,b,c,_⟩:=XdP h.2 i hi;rw [Hq hi]; exact ⟨a,b,c⟩
theorem Xg5 (a:Option Addr) (cap:Nat) (zs:List Int) (page:Int) (w:World) (hr:Rd .i64 w a zs) (hl:zs.length<=9223372036854775807) :
 Xf prog 127 #[.slice a zs.length cap,.int .i64 page] w (X7 (.int .i64 (Gy zs page)) w):=by
 refine ζe func127 ntmps127 ϱ (ζg ϱ (fun l => ?_) fun l => ?_)
 ·have d:0<zs.length:=by simpa using l
  by_cases f:zs.length<=16
  ·refine Xa.knowB (t:=5) rfl (decide_eq_true (by omega)) ?_;have p:Bb zs page=Gd page 0 (zs.drop 0):=by unfold Bb; rw [decide_eq_true d,decide_eq_true f]; simp
   refine Xa.loop (α:=Nat × Int) (fun x => [(0,false,.slice a zs.length cap),(1,false,.int .i64 page),(5,true,.bool true),(6,false,.int .i64 x.2),(17,false,.slice a zs.length cap),(18,false,.int .i64 zs.length),(19,false,.int .i64 x.1)])
    (fun x w'=>w'=w/\x.1<=zs.length/\Bb zs page=Gd page x.2 (zs.drop x.1)) (fun x=>zs.length - x.1) (0,0) ⟨rfl,rfl,rfl,rfl,rfl,rfl,rfl,trivial⟩ ⟨rfl,XL _,p⟩ ?_
   rintro ⟨k,ahead⟩ v ⟨r,s,e⟩ ih;simp only at s e
   subst r;refine ζa ϱ (ζg ϱ (fun h => ?_) fun h => ?_)
   ·have g:k<zs.length:=by simpa using h
    rw [XdN g] at e;obtain ⟨b,off,rfl,c⟩:=hr k g;rw [Hq g] at c;refine ζi k ϱ (ζk ϱ c ϱ (ζg ϱ (fun i => ?_) fun i => ?_))
    ·have u:=of_decide_eq_true i;refine Xa.div Xb rfl (by omega) (Fi (by omega)) rfl (ζg ϱ (fun m => ?_) fun m => ?_)
     ·refine ζg ϱ (fun n => ?_) fun n => ?_
      ·refine ζg ϱ (fun o => ?_) fun o => ?_
       ·have j:¬ ahead<zs[k]:=by simpa using o
        exact ζy ϱ (ζr func127 ϱ ⟨X0 (Gz (by rw [e,decide_eq_false j]; simp)).symm,rfl⟩)
       ·have j:ahead<zs[k]:=by simpa using o
        exact ζj ϱ (ih (k+1,zs[k]) _ _ ⟨rfl,g,by rw [e,decide_eq_true j,show decide (zs[k]<=page)=true from n,m,decide_eq_true u]; rfl⟩ (by simp only; omega) ⟨rfl,rfl,XgU (decide_eq_true j),rfl,rfl,rfl,rfl,trivial⟩)
      ·exact ζr func127 ϱ ⟨X0 (Gz (by rw [e,show decide (zs[k]<=page)=false from n]; simp)).symm,rfl⟩
     ·exact ζr func127 ϱ ⟨X0 (Gz (by rw [e,m]; simp)).symm,rfl⟩
    ·exact ζr func127 ϱ ⟨X0 (Gz (by rw [e,show decide (8<=zs[k])=false from i]; simp)).symm,rfl⟩
   ·have q:zs.length<=k:=by have:=of_decide_eq_false h; omega
    exact ζr func127 ϱ ⟨X0 (Xcj (by rw [e,XdO q])).symm,rfl⟩
  ·refine Xa.knowB (t:=5) rfl (decide_eq_false (by omega)) (Xa.unroll Xb rfl (ζy ϱ ?_));obtain ⟨b,off,rfl,c⟩:=hr 0 d;rw [Hq d] at c;exact ζi 0 ϱ (ζk ϱ c ϱ (ζr func127 ϱ ⟨X0 (Gz (by unfold Bb; rw [decide_eq_false f]; simp)).symm,rfl⟩))
 ·have d:¬ 0<zs.length:=by have i:=of_decide_eq_false l; omega
  exact Xa.unroll Xb rfl (ζf ϱ (ζr func127 ϱ ⟨X0 (Gz (by unfold Bb; rw [decide_eq_false d]; simp)).symm,rfl⟩))
def J9 (zs:List Int) (k:Nat):Int:=if k=0 then 0 else zs.getD (k - 1) 0
theorem Xd8 (h:k<zs.length):J9 zs (k+1)=zs[k]:=by simp [J9,h]
theorem XdQ {page n:Int} {r:List Int} (h1:8<=n) (h2:n % 8=0) (h3:n<=page) (h4:ahead<n):(decide (8<=n) && (n % 8 == 0) && decide (n<=page) && decide (ahead<n) && Gd page n r)=Gd page n r:=by
 rw [decide_eq_true h1,decide_eq_true h3,decide_eq_true h4,show (n % 8 == 0)=true from by simpa using h2]; rfl
theorem Xje (a:Option Addr) (cap:Nat) (zs:List Int) (page:Int) (w:World) (hr:Rd .i64 w a zs) (hl:zs.length<=9223372036854775807) :
 Xf prog 83 #[.slice a zs.length cap,.int .i64 page] w (Grow (.int .i64 (Gy zs page)) w):=by
 refine ζe func83 ntmps83 ϱ (ζg ϱ (fun o => ?_) fun o => ?_)
 ·have y:zs.length=0:=by have:=of_decide_eq_true o; omega
  exact ζr func83 ϱ ⟨X0 (Gz (by unfold Bb; rw [decide_eq_false (by omega)]; simp)).symm,Xc.refl _ _⟩
 ·have y:¬ zs.length=0:=by have:=of_decide_eq_false o; omega
  refine ζg ϱ (fun p => ?_) fun p => ?_
  ·have z:=of_decide_eq_true p;exact ζr func83 ϱ ⟨X0 (Gz (by unfold Bb; rw [decide_eq_false (show ¬ zs.length<=16 from by omega)]; simp)).symm,Xc.refl _ _⟩
  ·have z:=of_decide_eq_false p;have u:Bb zs page=Gd page (J9 zs 0) (zs.drop 0):=by unfold Bb; rw [decide_eq_true (by omega),decide_eq_true (by omega)]; simp [J9]
   refine Xa.loop (α:=Nat) (fun k => [(0,false,.slice a zs.length cap),(1,false,.int .i64 page),(5,false,.int .i64 k)])
    (fun k w'=>Xc Xe w w'/\k<=zs.length/\Bb zs page=Gd page (J9 zs k) (zs.drop k)) (fun k=>zs.length - k) 0 ⟨rfl,rfl,rfl,trivial⟩ ⟨Xc.refl _ _,XL _,u⟩ ?_
   rintro k C ⟨f,D,g⟩ ih;refine ζa ϱ (ζg ϱ (fun h => ?_) fun h => ?_)
   ·have e:k<zs.length:=by simpa using h
    rw [XdN e] at g;have n:=hr.chg f;obtain ⟨b,off,rfl,d⟩:=n k e;rw [Hq e] at d;refine Xa.quiet rfl Xo (by kernel_rfl) (Xi.adv Xb rfl (Xi.index Xb rfl (j:=k) (by omega) (by omega) (by first | rfl | omega | (simp; done) | (simp; omega)) rfl (Xi.load Xb rfl d rfl ?_)));refine Xi.fork Xb rfl rfl rfl (fun q => ?_) (fun q => ?_)
    ·exact Xi.nil fun l c=>ζa ϱ (ζr func83 ϱ ⟨X0 (Gz (by rw [g,decide_eq_false (show ¬ 8<=zs[k] from by have:=of_decide_eq_true q; omega)]; simp)).symm,f.trans c⟩)
    ·have E:=of_decide_eq_false q;refine Xi.index Xb rfl (j:=k) (by omega) (by omega) (by first | rfl | omega | (simp; done) | (simp; omega)) rfl (Xi.load Xb rfl d rfl (Xi.div Xb rfl (by omega) (Fi (by omega)) rfl ?_));refine Xi.fork Xb rfl rfl rfl (fun m => ?_) (fun m => ?_)
     ·exact Xi.nil fun l c=>ζa ϱ (ζr func83 ϱ ⟨X0 (Gz (by rw [g,show (zs[k] % 8 == 0)=false from by simpa using m]; simp)).symm,f.trans c⟩)
     ·refine Xi.index Xb rfl (j:=k) (by omega) (by omega) (by first | rfl | omega | (simp; done) | (simp; omega)) rfl (Xi.load Xb rfl d rfl ?_);refine Xi.fork Xb rfl rfl rfl (fun r => ?_) (fun r => ?_)
      ·exact Xi.nil fun l c=>ζa ϱ (ζr func83 ϱ ⟨X0 (Gz (by rw [g,decide_eq_false (show ¬ zs[k]<=page from by have:=of_decide_eq_true r; omega)]; simp)).symm,f.trans c⟩)
      ·have F:=of_decide_eq_false r;refine Xi.fork Xb rfl rfl rfl (fun s => ?_) (fun s => ?_)
       ·have v:=of_decide_eq_true s;obtain ⟨b',off',e',i⟩:=n (k - 1) (by omega);simp only [Option.some.injEq,Addr.mk.injEq] at e';obtain ⟨rfl,rfl,_⟩:=e';have A:J9 zs k=zs.getD (k - 1) 0:=by unfold J9; rw [if_neg (by omega)]
        refine Xi.index Xb rfl (j:=k) (by omega) (by omega) (by first | rfl | omega | (simp; done) | (simp; omega)) rfl (Xi.load Xb rfl d rfl (Xi.arith Xb rfl (w64 (by omega)) rfl (Xi.index Xb rfl (j:=(k - 1)) (by omega) (by omega) (by first | rfl | omega | (simp; done) | (simp; omega)) rfl (Xi.load Xb rfl i rfl (Xi.nil fun l c=>ζa ϱ (ζg ϱ (fun t => ?_) fun t => ?_))))))
        ·have B:=of_decide_eq_true t;exact ζr func83 ϱ ⟨X0 (Gz (by rw [g,A,decide_eq_false (show ¬ zs.getD (k - 1) 0<zs[k] from by omega)]; simp)).symm,f.trans c⟩
        ·have B:=of_decide_eq_false t;exact ζj ϱ (ih (k+1) _ _ ⟨f.trans c,e,by rw [g,XdQ (by omega) (by simpa using m) (by omega) (by omega),Xd8 e]⟩ (by omega) ⟨rfl,rfl,rfl,trivial⟩)
       ·have v:k=0:=by have:=of_decide_eq_false s; omega
        subst v;exact Xi.nil fun l c=>ζa ϱ (ζj ϱ (ih 1 _ _ ⟨f.trans c,e,by rw [g,XdQ (by omega) (by simpa using m) (by omega) (by simp [J9]; omega),Xd8 e]⟩ (by omega) ⟨rfl,rfl,rfl,trivial⟩))
   ·have x:zs.length<=k:=by have:=of_decide_eq_false h; omega
    exact ζr func83 ϱ ⟨X0 (Xcj (by rw [g,XdO x])).symm,f⟩
structure Conf where
 size:Int
 pages:Int
 classes:List Int
 keep:List Int
 step:Int
 slots:Int
 gens:Int
 most:Int
structure Y4 where
 ca:Option Addr
 cc:Nat
 ka:Option Addr
 kc:Nat
def Zl (c:Conf) (p:Y4):List Value :=
 [.int .i64 c.size,.int .i64 c.pages,.slice p.ca c.classes.length p.cc,.slice p.ka c.keep.length p.kc,.int .i64 c.step,.int .i64 c.slots,.int .i64 c.gens,.int .i64 c.most]
def Kn (x:Int):Prop := -9223372036854775808<=x/\x<=9223372036854775807
structure Yp (w:World) (c:Conf) (p:Y4):Prop where
 classes:Rd .i64 w p.ca c.classes
 keep:Rd .i64 w p.ka c.keep
 lc:c.classes.length<=9223372036854775807
 lk:c.keep.length<=9223372036854775807
 size:Kn c.size
theorem Yp.chg {w w':World} {c:Conf} {p:Y4} (h:Yp w c p) (hw:Xc Xe w w'):Yp w' c p :=
 ⟨h.classes.chg hw,h.keep.chg hw,h.lc,h.lk,h.size⟩
def D7 (n:Int):Bool:=decide (64<=n) && decide (n<=4096) && (n % 8 == 0)
def D0 (c:Conf):Int:=if D7 c.size then c.size*(c.size / 8) else 0
def Am (c:Conf) (k:Int):Int:=if 0<=k/\k<c.classes.length then D9 c.size (c.classes.getD k.toNat 0) else 0
def Q0 (n a b:Int):Bool:=decide (a<=n) && decide (n<=b)
def K9 (k:Int):Bool := !Q0 k 0 1024
def Zb (c:Conf):Bool :=
 D7 c.size && Q0 c.pages 1 1024 && Bb c.classes c.size && (decide (c.keep.length=c.classes.length) && !c.keep.any K9) && Q0 c.step 1 65536 && Q0 c.slots 1 4096 && Q0 c.gens 1 1023 && Q0 c.most 1 (D0 c)
def Be (c:Conf):Int:=if Zb c then 0 else 1
theorem Kf {n:Int}:D7 n=true↔64<=n/\n<=4096/\n % 8=0:=by
 unfold D7; simp [and_assoc]
theorem Kx (n a b:Int) (w:World):Xf prog 125 #[.int .i64 n,.int .i64 a,.int .i64 b] w (X7 (.bool (Q0 n a b)) w):=by
 refine ζe func125 ntmps125 ϱ (ζg ϱ (fun h => ?_) fun h => ?_)
 ·exact ζr func125 ϱ ⟨Q7 (by unfold Q0; rw [show decide (a<=n)=true from h]; rfl),rfl⟩
 ·exact ζr func125 ϱ ⟨Q7 (by unfold Q0; rw [show decide (a<=n)=false from h]; rfl),rfl⟩
theorem Xcp (n:Int) (w:World):Xf prog 126 #[.int .i64 n] w (X7 (.bool (D7 n)) w):=by
 refine ζe func126 ntmps126 ϱ (ζw (Kx n 64 4096 w) ϱ (ζg ϱ (fun h => ?_) fun h => ?_))
 ·have a:0<=n:=by unfold Q0 at h; simp at h; omega
  exact Xa.div Xb rfl (by omega) (Fi (by omega)) rfl (ζr func126 ϱ ⟨Q7 (by unfold D7; rw [show (decide (64<=n) && decide (n<=4096))=true from h]; rfl),rfl⟩)
 ·exact ζr func126 ϱ ⟨Q7 (by unfold D7; rw [show (decide (64<=n) && decide (n<=4096))=false from h]; rfl),rfl⟩
theorem Xg9 (c:Conf) (p:Y4) (w:World):Xf prog 129 #[.agg (Zl c p).toArray] w (Grow (.int .i64 (D0 c)) w):=by
 refine ζe func129 ntmps129 ϱ (ζn ϱ fun b g e1 e d j=>ζl e ϱ (ζw (Xcp c.size g) ϱ (ζg ϱ (fun h => ?_) fun h => ?_)))
 ·have a:D7 c.size=false:=by simpa using h
  exact ζr func129 ϱ ⟨X0 (by unfold D0; rw [a]; rfl),d⟩
 ·have a:D7 c.size=true:=by simpa using h
  have i:=Kf.1 a;have f:0<=c.size / 8/\c.size / 8<=512:=by omega
  have k:0<=c.size*(c.size / 8):=ZG (by omega) f.1;have l:=ZD i.2.1 f.2 f.1 (by omega);exact ζl e ϱ (ζl e ϱ (Xa.div Xb rfl (by omega) (Fh (by omega) (by omega)) rfl (ζj ϱ (ζr func129 ϱ ⟨X0 (by unfold D0; rw [a]; rfl),d⟩))))
theorem Xcn (c:Conf) (p:Y4) (k:Int) (w:World) (hc:Yp w c p):Xf prog 135 #[.agg (Zl c p).toArray,.int .i64 k] w (Grow (.int .i64 (Am c k)) w):=by
 have g:=hc.size;unfold Kn at g;refine ζe func135 ntmps135 ϱ (ζn ϱ fun b q e1 e a n=>ζg ϱ (fun h => ?_) fun h => ?_)
 ·have l:=of_decide_eq_true h;exact ζr func135 ϱ ⟨X0 (by unfold Am; rw [if_neg (by omega)]),a⟩
 ·have l:=of_decide_eq_false h;refine ζl e ϱ (ζg ϱ (fun f => ?_) fun f => ?_)
  ·have m:=of_decide_eq_true f;exact ζr func135 ϱ ⟨X0 (by unfold Am; rw [if_neg (by omega)]),a⟩
  ·have m:=of_decide_eq_false f;obtain ⟨r,off,ea,d⟩:=(hc.chg a).classes k.toNat (by omega);obtain ⟨ca,cc,ka,kc⟩:=p;simp only at ea
   subst ea;exact Xa.quiet rfl Xo (by kernel_rfl) (Xi.adv Xb rfl (Xi.loadb Xb rfl e rfl rfl (Xi.loadb Xb rfl e rfl rfl (Xi.index Xb rfl (j:=k.toNat) (by omega) (by omega) (by first | rfl | omega | (simp; done) | (simp; omega)) rfl (Xi.load Xb rfl d rfl (Xi.call Xb rfl (fun w' o=>(XlJ c.size (c.classes.getD k.toNat 0) w' g.2).grow) rfl (Xi.nil fun s i=>ζa ϱ (ζr func135 ϱ ⟨X0 (by unfold Am; rw [if_pos (by omega)]),a.trans i⟩))))))))
theorem Xha (k:Int) (w:World):Xf prog 124 #[.int .i64 k] w (X7 (.bool (K9 k)) w):=by
 exact ζe func124 ntmps124 ϱ (ζw (Kx k 0 1024 w) ϱ (ζr func124 ϱ ⟨rfl,rfl⟩))
theorem Vh (c:Conf) (p:Y4) (w:World) (hc:Yp w c p):Xf prog 67 #[.agg (Zl c p).toArray] w (Grow (.int .i64 (Be c)) w):=by
 refine ζe func67 ntmps67 ϱ (ζn ϱ fun b D e1 d e A => ?_);have g:=hc.chg e;refine Xa.quietF (q:=41) Xb Xo (by kernel_rfl) rfl rfl rfl rfl (Xi.adv Xb rfl (Xi.loadb Xb rfl d rfl rfl (Xi.call Xb rfl (fun w' a=>(Xcp c.size w').grow) rfl (Xi.loadb Xb rfl d rfl rfl (Xi.call Xb rfl (fun w' a=>(Kx c.pages 1 1024 w').grow) rfl (Xi.loadb Xb rfl d rfl rfl (Xi.loadb Xb rfl d rfl rfl (Xi.call Xb rfl (fun w' a=>(Xg5 p.ca p.cc c.classes c.size w' (g.classes.chg a) hc.lc).grow) rfl (Xi.loadb Xb rfl d rfl rfl (Xi.loadb Xb rfl d rfl rfl ?_))))))))));have fin:∀ (kk:Bool),(decide (c.keep.length=c.classes.length) && !c.keep.any K9)=kk -> 
  ([D7 c.size,Q0 c.pages 1 1024,(Gy c.classes c.size == 0),kk,Q0 c.step 1 65536,Q0 c.slots 1 4096,Q0 c.gens 1 1023,Q0 c.most 1 (D0 c)].any fun y=>false == y) = !Zb c:=by
  intro kk i;unfold Zb;rw [i];have:(Gy c.classes c.size == 0)=Bb c.classes c.size:=by unfold Gy; cases Bb c.classes c.size <;> rfl
  rw [this];cases D7 c.size <;> cases Q0 c.pages 1 1024 <;> cases Bb c.classes c.size <;> cases kk <;> cases Q0 c.step 1 65536 <;> cases Q0 c.slots 1 4096 <;> cases Q0 c.gens 1 1023 <;> cases Q0 c.most 1 (D0 c) <;> rfl
 refine Xi.fork Xb rfl rfl rfl (fun h => ?_) (fun h => ?_)
 case' refine_1 =>
  refine Xi.loadb Xb rfl d rfl rfl (Xi.call Xb rfl (fun w' a=>(Xe4 p.ka p.kc 124 c.keep [] K9 w' (g.keep.chg a) hc.lk (fun x _=>Xha x w')).grow) rfl ?_)
 all_goals
  refine Xi.loadb Xb rfl d rfl rfl (Xi.call Xb rfl (fun w' a=>(Kx c.step 1 65536 w').grow) rfl (Xi.loadb Xb rfl d rfl rfl (Xi.call Xb rfl (fun w' a=>(Kx c.slots 1 4096 w').grow) rfl (Xi.loadb Xb rfl d rfl rfl (Xi.call Xb rfl (fun w' a=>(Kx c.gens 1 1023 w').grow) rfl (Xi.loadb Xb rfl d rfl rfl (Xi.loads Xb rfl d rfl rfl (Xi.call Xb rfl (fun w' a=>Xg9 c p w') rfl (Xi.call Xb rfl (fun w' a=>(Kx c.most 1 (D0 c) w').grow) rfl (Xi.build Xb rfl rfl (Xi.nil fun j E m B n=>ζa ϱ (ζs n ϱ fun o r s C=>Xa.slice Xb rfl (l:=0) (h:=8) (by first | rfl | omega | simp [Bv]) (by first | rfl | omega | simp [Bt]) (by omega) (by omega) rfl ?_))))))))))));have t:Eb o (some ⟨j,0,none⟩) [D7 c.size,Q0 c.pages 1 1024,(Gy c.classes c.size == 0),(decide (c.keep.length=c.classes.length) && !c.keep.any K9),Q0 c.step 1 65536,Q0 c.slots 1 4096,Q0 c.gens 1 1023,Q0 c.most 1 (D0 c)]:=by
   have u:(c.keep.length:Int)=c.classes.length↔c.keep.length=c.classes.length:=by omega
   refine Eb.of r ?_;simp only [u,beq_iff_eq,beq_eq_false_iff_ne,ne_eq] at h;simp [h]
  have v:=(e.trans m).since s (fun k i z=>by have:=e.size; subst z; omega);refine ζw (XkP (some ⟨j,0,none⟩) 8 _ false o t (by simp)) ϱ (ζg ϱ (fun f => ?_) fun f => ?_)
  ·exact ζr func67 ϱ ⟨X0 (by rw [fin _ rfl] at f; unfold Be; rw [if_neg (by simpa using f)]),v⟩
  ·exact ζr func67 ϱ ⟨X0 (by rw [fin _ rfl] at f; unfold Be; rw [if_pos (by simpa using f)]),v⟩
variable {c:Conf}
def Ax (w:World) (b:Nat) (total lap:Int):Prop:=w.heap[b]? = some (.cells #[.int .i64 total,.int .i64 lap] 154 (0,0))/\0<=lap/\lap<=total/\total<=4611686018427387904
def Xw (total n:Int):Int:=if n<1 then total else total+min n (4611686018427387904 - total)
theorem Xcf {total n:Int} (h:0<=total/\total<=4611686018427387904):total<=Xw total n/\Xw total n<=4611686018427387904:=by
 unfold Xw; split <;> omega
abbrev H5 (b:Option Nat):Value := .pointer (b.map fun b=>⟨b,0,none⟩)
theorem Xik (w:World):Xf prog 69 #[] w (fun v w'=>v = .pointer (some ⟨w.heap.size,0,none⟩)/\Ax w' w.heap.size 0 0/\Xc Xe w w'/\w'.heap.size=w.heap.size+1):=by
 refine ζe func69 ntmps69 ϱ (ζb ϱ (ζn ϱ fun b e e1 d a c => ?_));subst e1;exact ζr func69 ϱ ⟨rfl,⟨d,by omega,by omega,by omega⟩,a,c⟩
theorem Xil (b:Nat) (total lap:Int) (w:World) (h:Ax w b total lap):Xf prog 183 #[.pointer (some ⟨b,0,none⟩)] w (X7 (.int .i64 (4611686018427387904 - total)) w):=by
 obtain ⟨a,c,d,e⟩:=h;exact ζe func183 ntmps183 ϱ (ζl a ϱ (ζj ϱ (ζr func183 ϱ ⟨rfl,rfl⟩)))
theorem Ax.chg {total lap:Int} (h:Ax w b total lap) (hc:Xc Xe w w'):Ax w' b total lap:=⟨hc.heap' h.1,h.2⟩
theorem W0 (b:Nat) (total lap n:Int) (w:World) (h:Ax w b total lap):Xf prog 132 #[.pointer (some ⟨b,0,none⟩),.int .i64 n] w (fun _ w'=>Ax w' b (Xw total n) lap/\Xc (fun x=>x=b) w w'):=by
 have g:=h;obtain ⟨i,m,q,o⟩:=h;refine ζe func132 ntmps132 ϱ (ζg ϱ (fun f => ?_) fun f => ?_)
 ·exact ζr func132 ϱ ⟨by unfold Xw; rw [if_pos (of_decide_eq_true f)]; exact g,Xc.refl _ _⟩
 ·have j:=of_decide_eq_false f;refine ζd 9 Xe (by kernel_rfl) ϱ fun a=>δl a i ϱ (δw a (fun w' k=>Xil b total lap w' ((show Ax w b total lap from g).chg k)) ϱ (δj a ϱ (δn a ϱ fun r c=>ζs (c.heap' i) ϱ fun s d l p => ?_)));have e:total+(if 4611686018427387904 - total<n then 4611686018427387904 - total else n)=Xw total n:=by unfold Xw; rw [if_neg j]; split <;> omega
  rw [e] at d;have:=Xcf (n:=n) ⟨by omega,o⟩;exact ζr func132 ϱ ⟨⟨d,m,by omega,by omega⟩,(Xc.refl _ w).trans ((c.mono (fun _ _ h=>h.elim)).trans l)⟩
theorem W3 (n:Int) (w:World):Xf prog 132 #[.pointer none,.int .i64 n] w (fun _ w'=>w=w'):=by
 exact ζe func132 ntmps132 ϱ (ζr func132 ϱ rfl)
structure RmM where
 shs:List Sm
 pl:PlM
 lg:List (Nat × List Nat)
 tot:Int
def Zs (M:RmM) (k:Int):Option Sm:=if 0<=k then M.shs[k.toNat]? else none
def Zh (p:PlM):Nat:=Xv p.own
def Hp (p q:PlM):Int:=3+(max (Zh q:Int) (Zh p) - min (Zh q:Int) (Zh p))*4
def Ev (M:RmM) (k:Nat) (x:Sm) (q:PlM):RmM:={M with shs:=M.shs.set k x,pl:=q}
def Iv (M:RmM) (k:Nat) (x:Sm) (q:PlM):RmM:={M with shs:=M.shs.set k x,pl:=q,tot:=Xw M.tot (Hp M.pl q)}
def Yx (l:List (Nat × List Nat)):List Nat:=l.flatMap fun e=>e.1::e.2
def Dj (l:List (Nat × List Nat)):Nat:=(l.map fun e=>e.2.length+1).sum
def H9 (l:List Sm):Nat:=(l.map fun x=>x.pg.length).sum
structure RmM.Ok (c:Conf) (M:RmM):Prop where
 n:M.shs.length=c.classes.length
 each:∀ (k:Nat) (x:Sm),M.shs[k]? = some x->x.cls=(k:Int)/\(x.blocks:Int)=Am c (k:Int)
 own:(M.pl.own.length:Int)=c.pages
 lg:∀ m ∈ Yx M.lg,m<M.pl.own.length/\M.pl.own.getD m 0=(M.shs.length:Int)
 nd:(Yx M.lg).Nodup
 sum:Zh M.pl=H9 M.shs+Dj M.lg
 tot:0<=M.tot/\M.tot<=4611686018427387904
def Fq (p q:PlM) (c:Int):Prop:=q=p\/(∃ n r,p.free=n::r/\q=p.take c) \/ ∃ n,n<p.own.length/\p.own.getD n 0=c/\q=p.give n
theorem Xbc {p:PlM} {r:List Nat} (h:p.free=n::r) (c:Int):(p.take c).own=p.own.set n c/\(p.take c).free=r:=by unfold PlM.take; rw [h]; exact ⟨rfl,rfl⟩
theorem Fq.own {p q:PlM} {c:Int} (h:Fq p q c) (hg:p.Good):q.own.length=p.own.length /\ ∀ m d,d≠c->0<=d->p.own.getD m 0=d->m<p.own.length->q.own.getD m 0=d:=by
 rcases h with rfl | ⟨n,r,b,rfl⟩ | ⟨n,k,g,rfl⟩
 ·exact ⟨rfl,fun m d _ _ h _=>h⟩
 ·rw [(Xbc b c).1];refine ⟨XF,fun m d f i a j => ?_⟩;rw [E6];obtain ⟨l,o⟩:=hg.free n (by rw [b]; simp);rw [if_neg (fun ⟨e,_⟩=>by subst e; omega)];exact a
 ·refine ⟨XF,fun m d f i a j => ?_⟩;show (p.own.set n (-1)).getD m 0=d
  rw [E6,if_neg (fun ⟨e,_⟩=>by subst e; exact f (a.symm.trans g))];exact a
theorem Fq.of {p q:PlM} {c:Int} (h:Fq p q c) (hg:p.Good) {y:Sm} (hy:y.Of p) (hc:y.cls≠c) (h0:0<=y.cls):y.Of q:=fun e b=>by
 obtain ⟨a,d⟩:=hy e b;obtain ⟨f,g⟩:=h.own hg;exact ⟨by rw [f]; exact a,g _ _ hc h0 d a⟩
theorem XeX:∀ {l:List Sm} {k:Nat} {x x':Sm},l[k]? = some x->H9 (l.set k x')+x.pg.length=H9 l+x'.pg.length
 |a::r,0,x,x',h=>by
  cases h
  unfold H9;simp only [List.set_cons_zero,ZB,YQ];omega
 |a::r,k+1,x,x',h=>by
  have:=XeX (l:=r) (k:=k) (x:=x) (x':=x') h;unfold H9 at *;simp only [List.set_cons_succ,ZB,YQ];omega
theorem RmM.Ok.set {c:Conf} {M:RmM} (h:M.Ok c) (hg:M.pl.Good) {k:Nat} {x x':Sm} {q:PlM} (hx:M.shs[k]? = some x) (hE:Fq M.pl q x.cls) (hc:x'.cls=x.cls) (hb:x'.blocks=x.blocks) (hs:Zh q+x.pg.length=Zh M.pl+x'.pg.length):(Ev M k x' q).Ok c:=by
 have b:=(List.getElem?_eq_some_iff.1 hx).1;obtain ⟨e1,e2⟩:=h.each k x hx;obtain ⟨d,f⟩:=hE.own hg;refine ⟨by show (M.shs.set k x').length=_; rw [XF]; exact h.n,fun j y a => ?_,by show (q.own.length:Int)=_; rw [d]; exact h.own,fun m g => ?_,h.nd,?_,h.tot⟩
 ·replace a:(M.shs.set k x')[j]? = some y:=a;by_cases e:k=j
  ·subst e;rw [XG b] at a; cases a;exact ⟨hc.trans e1,by rw [hb]; exact e2⟩
  ·rw [XU e] at a; exact h.each j y a
 ·obtain ⟨i,l⟩:=h.lg m g;refine ⟨by show m<q.own.length; omega,?_⟩;show q.own.getD m 0=((M.shs.set k x').length:Int)
  rw [XF];exact f _ _ (by rw [e1]; omega) (by omega) l i
 ·have:=XeX (x':=x') hx;have:=h.sum;show Zh q=H9 (M.shs.set k x')+Dj M.lg
  omega
theorem Me {t n:Int} (h:0<=t/\t<=4611686018427387904):0<=Xw t n/\Xw t n<=4611686018427387904:=by have:=Xcf (n:=n) h; omega
theorem Xbb (x:Sm) (pl:PlM) (who:Int) (hg:pl.Good) (hcl:0<=x.cls):Fq pl (Bz x pl who) x.cls/\(Q4 x pl who).cls=x.cls/\(Q4 x pl who).blocks=x.blocks/\Zh (Bz x pl who)+x.pg.length=Zh pl+(Q4 x pl who).pg.length:=by
 rcases Lr x pl who with ⟨_,a,b⟩ | ⟨_,_,⟨n,r,_,a,b,_⟩ | ⟨n,r,_,c,a,b,_⟩⟩
 ·rw [a,b]; exact ⟨.inl rfl,rfl,rfl,rfl⟩
 ·rw [a,b]; exact ⟨.inl rfl,rfl,rfl,by show _=_+(Zi _ _ _).length; rw [Tm]⟩
 ·rw [a,b];refine ⟨.inr (.inl ⟨n,r,c,rfl⟩),rfl,rfl,?_⟩;show _=_+(Zi (x.pg++_) _ _).length
  rw [Tm,XT];obtain ⟨d,e⟩:=hg.free n (by rw [c]; simp);have:=Hb (v:=x.cls) d;rw [if_pos e,if_neg (by omega)] at this;unfold Zh;rw [(Xbc c _).1];simp only [XP,List.length_nil];omega
theorem Vv (x:Sm) (pl:PlM) (n i:Int) (hok:x.Ok) (hof:x.Of pl):Fq pl (A3 x pl n i) x.cls/\(Q1 x n i).cls=x.cls/\(Q1 x n i).blocks=x.blocks/\Zh (A3 x pl n i)+x.pg.length=Zh pl+(Q1 x n i).pg.length:=by
 unfold Q1 A3;split
 ·rename_i p f
  obtain ⟨k,g,c⟩:=Hg f;rw [g];by_cases d:Qp p i=0
  ·simp only [d,if_true,true_and,XA];unfold Sm.giveAt;simp only
   by_cases a:Xv (Z6 p i)=0
   ·rw [if_pos a,if_pos a];obtain ⟨b,e⟩:=hof _ c;simp only at b e
    have h:=hok.cls;have:=Hb (v := -1) b;rw [if_neg (by omega),if_pos rfl] at this;have j:=(Tn hok.nodup c).2;refine ⟨.inr (.inr ⟨k,b,e,rfl⟩),rfl,rfl,?_⟩;show Xv (pl.own.set k (-1))+_=Xv pl.own+(Y8 x.pg k).length
    omega
   ·rw [if_neg a,if_neg a];exact ⟨.inl rfl,rfl,rfl,by show _=_+(Zi _ _ _).length; rw [Tm]⟩
  ·simp only [d,if_false,false_and]; refine ⟨.inl rfl,?_,?_,?_⟩ <;> first | trivial | rfl
 ·exact ⟨.inl rfl,rfl,rfl,rfl⟩
theorem Xaa (x:Sm) (pl:PlM) (n i who:Int):Fq pl pl x.cls/\(Aq x n i who).cls=x.cls/\(Aq x n i who).blocks=x.blocks/\Zh pl+x.pg.length=Zh pl+(Aq x n i who).pg.length:=by
 unfold Aq;split
 ·exact ⟨.inl rfl,rfl,rfl,by show _=_+(Zi _ _ _).length; rw [Tm]⟩
 ·exact ⟨.inl rfl,rfl,rfl,rfl⟩
variable {M:RmM}
def Z5 (n q:Int):Int:=if Qh n q=0\/Qh n q=9223372036854775807 then 0 else Qh n q+1
def Xm (zs:List Int) (n:Int):Int:=if n<1 then -1 else idx (fun s=>decide (n<=s)) zs
theorem Xdz {n q:Int} (hn:n<=9223372036854775807):0<=Qh n q/\Qh n q<=9223372036854775807:=by
 unfold Qh;split
 ·omega
 ·have a:0<=(n - 1) / q:=YD (by omega) (by omega);have b:(n - 1) / q<=n - 1:=YT _ (by omega);omega
theorem Va (n q:Int) (w:World) (hn:n<=9223372036854775807):Xf prog 148 #[.int .i64 n,.int .i64 q] w (X7 (.int .i64 (Qh n q)) w):=by
 exact ζe func148 ntmps148 ϱ (ζw (XlI n q w hn) ϱ (ζr func148 ϱ ⟨rfl,rfl⟩))
theorem Xce (n q:Int) (w:World) (hn:n<=9223372036854775807):Xf prog 114 #[.int .i64 n,.int .i64 q] w (X7 (.int .i64 (Z5 n q)) w):=by
 have f:=Xdz (q:=q) hn;refine ζe func114 ntmps114 ϱ (ζw (Va n q w hn) ϱ (ζg ϱ (fun a => ?_) fun a => ?_))
 ·have e:Z5 n q=0:=by unfold Z5; rw [if_pos (.inl (of_decide_eq_true a))]
  exact ζr func114 ϱ ⟨X0 e.symm,rfl⟩
 ·have c:=of_decide_eq_false a;refine ζg ϱ (fun b => ?_) fun b => ?_
  ·have e:Z5 n q=0:=by unfold Z5; rw [if_pos (.inr (of_decide_eq_true b))]
   exact ζr func114 ϱ ⟨X0 e.symm,rfl⟩
  ·have d:=of_decide_eq_false b;have e:Z5 n q=Qh n q+1:=by unfold Z5; rw [if_neg (by omega)]
   exact ζj ϱ (ζr func114 ϱ ⟨X0 e.symm,rfl⟩)
abbrev XhO (w:World) (b:Nat) (n:Int):Prop:=w.heap[b]? = some (.cells ([.int .i64 n]:List Value).toArray 3 (0,0))
theorem Xg6 (x n:Int) (b:Nat) (w:World) (h:XhO w b n):Xf prog 113 #[.int .i64 x,.pointer (some ⟨b,0,none⟩)] w (X7 (.bool (decide (n<=x))) w):=by
 exact ζe func113 ntmps113 ϱ (ζl h ϱ (ζr func113 ϱ ⟨rfl,rfl⟩))
theorem Mf (a:Option Addr) (cap:Nat) (zs:List Int) (n:Int) (w:World) (hr:Rd .i64 w a zs) (hl:zs.length<=9223372036854775807):Xf prog 63 #[.slice a zs.length cap,.int .i64 n] w (Grow (.int .i64 (Xm zs n)) w):=by
 refine ζe func63 ntmps63 ϱ (ζn ϱ fun b d e1 f c g=>ζl f ϱ (ζg ϱ (fun h => ?_) fun h => ?_))
 ·have e:Xm zs n = -1:=by unfold Xm; rw [if_pos (of_decide_eq_true h)]
  exact ζr func63 ϱ ⟨X0 e.symm,c⟩
 ·have e:Xm zs n=idx (fun s=>decide (n<=s)) zs:=by unfold Xm; rw [if_neg (of_decide_eq_false h)]
  exact ζw (Xe5 a cap 113 zs [.pointer (some ⟨b,0,none⟩)] (fun s=>decide (n<=s)) d (hr.chg c) hl (fun x _=>Xg6 x n b d f)) ϱ (ζr func63 ϱ ⟨X0 e.symm,c⟩)
def Ew (M:RmM) (k who:Int):Int:=match Zs M k with | none=>1 | some x=>Qi x M.pl who
def Do (M:RmM) (k who:Int):Int:=match Zs M k with | none=>0 | some x=>By x M.pl who
def Dn (M:RmM) (k who:Int):Int:=match Zs M k with | none=>0 | some x=>Bx x M.pl who
def Qb (M:RmM) (k who:Int):RmM:=match Zs M k with | none=>M | some x=>if Qi x M.pl who=0 then Iv M k.toNat (Q4 x M.pl who) (Bz x M.pl who) else M
def Iu (M:RmM) (k n i:Int):Int:=match Zs M k with | none=>1 | some x=>Bo x n i
def Qq (M:RmM) (k n i:Int):RmM:=match Zs M k with | none=>M | some x=>if Bo x n i=0 then Iv M k.toNat (Q1 x n i) (A3 x M.pl n i) else M
def Np (M:RmM) (k n i who:Int):Int:=match Zs M k with | none=>1 | some x=>Gi x n i who
def Qk (M:RmM) (k n i who:Int):RmM:=match Zs M k with | none=>M | some x=>Ev M k.toNat (Aq x n i who) M.pl
def X9 (M:RmM) (k n i:Int):Int:=match Zs M k with | none => -1 | some x=>Qm x n i
def Yg (M:RmM) (k:Int):Nat:=match Zs M k with | none=>0 | some x=>x.opn.length
def H6 (M:RmM) (k:Int):Bool:=match Zs M k with | none=>false | some x=>Lq x
def Lm (M:RmM) (k:Int):List Value:=match Zs M k with | none=>Jf 0 0 0 0 | some x=>Gj x
def Cp (c:Conf) (M:RmM) (size:Int):Int:=if Xm c.classes size = -1 then Z5 size c.size else 1 - min (Yg M (Xm c.classes size):Int) 1
def Y7 (c:Conf) (M:RmM) (size:Int):Int:=if size<1\/c.most<size then 3 else if (M.pl.free.length:Int)<Cp c M size then 5 else 0
structure PlcM where
 cls:Int
 page:Int
 idx:Int
 pages:List Int
def X3 (l:List Nat):List Int:=l.map fun (n:Nat)=>(n:Int)
def Ab (p:PlM) (who:Int):Nat->PlM
 |0=>p
 |i+1=>Hc (Ab p who i) who
def Aj (p:PlM) (l:List Nat):PlM:=l.foldl (fun q (n:Nat)=>Ge q (n:Int)) p
def Dm (M:RmM) (many:Nat):RmM:={M with pl:=Ab M.pl M.shs.length many,lg:=M.lg ++ [(M.pl.free.getD 0 0,(M.pl.free.take many).tail)],tot:=Xw M.tot (many*4+(many - 1))}
def Cf (c:Conf) (M:RmM) (who size:Int):Int:=if who<0 then 1 else if Y7 c M size≠0 then Y7 c M size else if Xm c.classes size = -1 then 0 else Ew M (Xm c.classes size) who
def Bg (c:Conf) (M:RmM) (who size:Int):PlcM:=if who<0 then ⟨0,0,0,[]⟩ else if Y7 c M size≠0 then ⟨0,0,0,[]⟩ else if Xm c.classes size = -1 then ⟨-1,(M.pl.free.getD 0 0:Nat),0,X3 (M.pl.free.take (Z5 size c.size).toNat).tail⟩ else ⟨Xm c.classes size,Do M (Xm c.classes size) who,Dn M (Xm c.classes size) who,[]⟩
def Af (c:Conf) (M:RmM) (who size:Int):RmM:=if who<0 then M else if Y7 c M size≠0 then M else if Xm c.classes size = -1 then Dm M (Z5 size c.size).toNat else Qb M (Xm c.classes size) who
def Cm:List (Nat × List Nat)->Int->Option (List Nat)
 |[],_=>none
 |(m,r)::t,n=>if (m:Int)=n then some r else Cm t n
def Cz (l:List (Nat × List Nat)) (n:Nat):List (Nat × List Nat):=l.filter fun e=>e.1 != n
def Hf (M:RmM) (n:Nat) (r:List Nat):RmM:={M with pl:=Aj M.pl (n::r),lg:=Cz M.lg n,tot:=Xw M.tot ((r.length+1:Int)*4+r.length)}
def Gh (M:RmM) (q:PlcM):Int:=if q.cls ≠ -1 then Iu M q.cls q.page q.idx else match Cm M.lg q.page with | none=>1 | some r=>if X3 r=q.pages then 0 else 1
def Yv (M:RmM) (q:PlcM):RmM:=if q.cls ≠ -1 then Qq M q.cls q.page q.idx else match Cm M.lg q.page with | none=>M | some r=>if X3 r=q.pages then Hf M q.page.toNat r else M
theorem Xam {p:PlM} (hw:0<=who) {r:List Nat} (hf:p.free=n::r):D4 p who=0/\H0 p who=n/\Hc p who=p.take who:=by
 have e:D4 p who=0:=by unfold D4; rw [if_neg (by omega),hf]; rfl
 refine ⟨e,?_,?_⟩
 ·unfold H0; rw [if_pos e,hf]; rfl
 ·unfold Hc; rw [if_pos e]
theorem Lh {p:PlM} {who:Int} (hw:0<=who) (hg:p.Good):∀ i,i<=p.free.length->(Ab p who i).Good/\(Ab p who i).free=p.free.drop i/\(Ab p who i).own.length=p.own.length/\Zh (Ab p who i)=Zh p+i /\ ∀ m,m<p.own.length->(Ab p who i).own.getD m 0=if m ∈ p.free.take i then who else p.own.getD m 0
 |0,_=>⟨hg,by simp [Ab],rfl,rfl,fun m _=>by simp [Ab]⟩
 |i+1,s=>by
  obtain ⟨d,g,j,t,k⟩:=Lh hw hg i (by omega);have b:i<p.free.length:=by omega
  have a:(Ab p who i).free=p.free[i]::p.free.drop (i+1):=by rw [g]; exact ZN b
  obtain ⟨_,_,e⟩:=Xam hw a;have e1:Ab p who (i+1)=(Ab p who i).take who:=e;obtain ⟨c,l⟩:=Xbc a who;obtain ⟨f,n⟩:=d.free p.free[i] (by rw [a]; exact YI);have o:=Hb (v:=who) f;rw [if_pos n,if_neg (by omega)] at o;refine ⟨e1▸d.take hw a,by rw [e1]; exact l,by rw [e1,c,XF]; exact j,?_,fun m q => ?_⟩
  ·unfold Zh at *; rw [e1,c]; omega
  ·rw [e1,c,E6,k m q];have r:p.free.take (i+1)=p.free.take i ++ [p.free[i]]:=by rw [ZC,XB b]; rfl
   rw [r];by_cases e2:p.free[i]=m
   ·subst e2;rw [if_pos ⟨rfl,f⟩,if_pos (List.mem_append.2 (.inr (List.mem_singleton.2 rfl)))]
   ·rw [if_neg (fun h=>e2 h.1)];by_cases e3:m ∈ p.free.take i
    ·rw [if_pos e3,if_pos (List.mem_append.2 (.inl e3))]
    ·rw [if_neg e3,if_neg (by simp only [List.mem_append,ZM]; rintro (h | h); exact e3 h; exact e2 h.symm)]
theorem Xd5 {p:PlM} (hw:0<=who) (hg:p.Good) (hi:i<=p.free.length) (hc:0<=x.cls) (hx:x.Of p):x.Of (Ab p who i):=fun e a=>by
 obtain ⟨b,c⟩:=hx e a;obtain ⟨_,_,g,_,d⟩:=Lh hw hg i hi;refine ⟨by omega,?_⟩;rw [d _ b,if_neg (fun f=>by have:=(hg.free _ (XO f)).2; omega)];exact c
theorem Xd3 {p:PlM} (hn:n<p.own.length) (ho:p.own.getD n 0 ≠ -1):Ei p n=0/\Ge p n=p.give n:=by
 have a:Z8 p.own n=p.own.getD n 0:=by
  unfold Z8; rw [if_pos (by omega)]; simp only [XA]; rw [XC,XC,XB hn]; rfl
 have e:Ei p n=0:=by unfold Ei; rw [if_neg (by omega),a,if_neg ho]
 exact ⟨e,by unfold Ge; rw [if_pos e]; rfl⟩
theorem Nf:∀ {l:List Nat} {p:PlM},p.Good->l.Nodup->(∀ m ∈ l,m<p.own.length/\p.own.getD m 0 ≠ -1)->(Aj p l).Good/\(Aj p l).own.length=p.own.length/\Zh (Aj p l)+l.length=Zh p /\ ∀ m,(Aj p l).own.getD m 0=if m ∈ l then -1 else p.own.getD m 0
 |[],p,f,_,_=>⟨f,rfl,rfl,fun m=>by simp [Aj]⟩
 |n::r,p,f,k,h=>by
  obtain ⟨i,o⟩:=List.nodup_cons.1 k;obtain ⟨c,g⟩:=h n (by simp);obtain ⟨_,e⟩:=Xd3 c g;have e1:Aj p (n::r)=Aj (p.give n) r:=by unfold Aj; rw [List.foldl_cons,e]
  have q:=Hb (v := -1) c;rw [if_neg g,if_pos rfl] at q;have d:(p.give n).own=p.own.set n (-1):=rfl;obtain ⟨s,t,u,w⟩:=Nf (p:=p.give n) (l:=r) (f.give c g) o (fun m j=>by
   obtain ⟨a,b⟩:=h m (by simp [j]);rw [d,XF,E6,if_neg (fun ⟨e,_⟩=>i (e▸j))];exact ⟨a,b⟩)
  rw [e1];refine ⟨s,by rw [t,d,XF],by unfold Zh at *; rw [d] at u; simp only [XP]; omega,fun m => ?_⟩;rw [w,d,E6];by_cases e2:n=m
  ·subst e2;rw [if_neg i,if_pos ⟨rfl,c⟩,if_pos (by simp)]
  ·by_cases e3:m ∈ r
   ·rw [if_pos e3,if_pos (YB _ e3)]
   ·rw [if_neg e3,if_neg (fun h=>e2 h.1),if_neg (fun h=>(List.mem_cons.1 h).elim (fun h=>e2 h.symm) e3)]
theorem Xd4 {p:PlM} (hg:p.Good) {l:List Nat} (hn:l.Nodup) (hl:∀ m ∈ l,m<p.own.length/\p.own.getD m 0 ≠ -1) (hx:x.Of p) (hd:∀ m ∈ l,p.own.getD m 0≠x.cls):x.Of (Aj p l):=fun e b=>by
 obtain ⟨f,a⟩:=hx e b;obtain ⟨_,g,_,c⟩:=Nf hg hn hl;refine ⟨by omega,?_⟩;rw [c,if_neg (fun d=>hd _ d a)];exact a
theorem V5 (l l':List (Nat × List Nat)):Dj (l++l')=Dj l+Dj l':=by unfold Dj; rw [XI,List.sum_append]
theorem Ja (l l':List (Nat × List Nat)):Yx (l++l')=Yx l++Yx l':=by unfold Yx; rw [List.flatMap_append]
theorem RmM.Ok.big (h:M.Ok c) (hg:M.pl.Good) {many:Nat} (h1:1<=many) (hm:many<=M.pl.free.length):(Dm M many).Ok c:=by
 obtain ⟨s,t,k,l,n⟩:=Lh (who:=((M.shs.length:Nat):Int)) (by omega) hg many hm;have i:M.pl.free.getD 0 0::(M.pl.free.take many).tail=M.pl.free.take many:=by
  cases o:M.pl.free with
  |nil=>rw [o] at hm; simp at hm; omega
  |cons a r =>
   obtain ⟨m,rfl⟩:∃ m,many=m+1:=⟨many - 1,by omega⟩;rfl
 have eA:Yx (Dm M many).lg=Yx M.lg++M.pl.free.take many:=by
  show Yx (M.lg++_)=_
  rw [Ja];unfold Yx;rw [ZO,List.flatMap_nil,ZT,i]
 have d:∀ m ∈ M.pl.free.take many,m ∈ M.pl.free:=fun m hm=>XO hm;refine ⟨h.n,h.each,by show ((Ab _ _ _).own.length:Int)=_; rw [k]; exact h.own,fun m f => ?_,?_,?_,Me h.tot⟩
 ·rw [eA] at f;have j:m<M.pl.own.length:=by
   rcases List.mem_append.1 f with g | g
   ·exact (h.lg m g).1
   ·exact (hg.free m (d m g)).1
  refine ⟨by show m<(Ab _ _ _).own.length; omega,?_⟩;show (Ab _ _ _).own.getD m 0=((M.shs.length:Nat):Int)
  rw [n m j];rcases List.mem_append.1 f with g | g
  ·by_cases e:m ∈ M.pl.free.take many
   ·rw [if_pos e]
   ·rw [if_neg e]; exact (h.lg m g).2
  ·rw [if_pos g]
 ·rw [eA];refine List.nodup_append.2 ⟨h.nd,hg.nodup.sublist (List.take_sublist _ _),fun a p b q e => ?_⟩;subst e;have:=(h.lg a p).2;have:=(hg.free a (d a q)).2;omega
 ·show Zh (Ab _ _ _)=H9 M.shs+Dj (M.lg++_)
  rw [l,V5,h.sum];have:((M.pl.free.take many).tail.length+1)=many:=by rw [QD,XR]; omega
  unfold Dj;simp only [ZB,List.map_nil,YQ,List.sum_nil];omega
theorem La:∀ {l:List (Nat × List Nat)} {n:Int} {r:List Nat},Cm l n=some r -> ∃ m:Nat,n=m/\(m,r) ∈ l
 |(m,q)::t,n,r,h=>by
  unfold Cm at h;by_cases e:(m:Int)=n
  ·rw [if_pos e] at h; cases h; exact ⟨m,e.symm,by simp⟩
  ·rw [if_neg e] at h;obtain ⟨m',e',a⟩:=La h;exact ⟨m',e',by simp [a]⟩
theorem Sc:∀ {l:List (Nat × List Nat)} {n:Int},Cm l n=none -> ∀ e ∈ l,(e.1:Int)≠n
 |[],_,_,_,he=>by cases he
 |(m,q)::r,n,h,e,he=>by
  unfold Cm at h;by_cases hm:(m:Int)=n
  ·rw [if_pos hm] at h; cases h
  ·rw [if_neg hm] at h;rcases List.mem_cons.1 he with rfl | he
   ·exact hm
   ·exact Sc h e he
theorem Hw {l:List (Nat × List Nat)} {e:Nat × List Nat} (h:e ∈ l) (hm:m ∈ e.1::e.2):m ∈ Yx l:=List.mem_flatMap.2 ⟨e,h,hm⟩
theorem Xdd:∀ {l:List (Nat × List Nat)} {n:Nat},n ∉ Yx l->Cz l n=l:=fun {l n} h=>by
 unfold Cz;refine List.filter_eq_self.2 fun e a => ?_;simp only [bne_iff_ne,ne_eq];exact fun e'=>h (Hw a (by rw [e']; simp))
theorem Mu:∀ {l:List (Nat × List Nat)} {n:Nat} {r:List Nat},(Yx l).Nodup->(n,r) ∈ l -> ∃ a b,l=a++(n,r)::b/\Cz l n=a++b:=fun {l n r} c d=>by
 obtain ⟨a,b,rfl⟩:=List.append_of_mem d;refine ⟨a,b,rfl,?_⟩;have e:Yx (a++(n,r)::b)=Yx a++((n::r)++Yx b):=by rw [Ja]; rfl
 rw [e] at c;obtain ⟨m,f,g⟩:=List.nodup_append.1 c;obtain ⟨o,p,i⟩:=List.nodup_append.1 f;have j:n ∉ Yx a:=fun h=>g n h n (by simp) rfl;have k:n ∉ Yx b:=fun h=>i n (by simp) n h rfl;have:Cz (a++(n,r)::b) n=Cz a n++Cz b n:=by unfold Cz; rw [YZ,ZE]; simp
 rw [this,Xdd j,Xdd k]
theorem RmM.Ok.gone (h:M.Ok c) (hg:M.pl.Good) {r:List Nat} (hm:(n,r) ∈ M.lg):(Hf M n r).Ok c/\(Aj M.pl (n::r)).Good:=by
 obtain ⟨a,b,e1,e2⟩:=Mu h.nd hm;have eA:Yx M.lg=Yx a++((n::r)++Yx b):=by rw [e1,Ja]; rfl
 have f:=h.nd;rw [eA] at f;obtain ⟨p,q,i⟩:=List.nodup_append.1 f;obtain ⟨s,t,u⟩:=List.nodup_append.1 q;obtain ⟨v,w,z,A⟩:=Nf (l:=n::r) hg s (fun m d=>by
  obtain ⟨j,k⟩:=h.lg m (Hw hm d);exact ⟨j,by omega⟩)
 have eB:Yx (Cz M.lg n)=Yx a++Yx b:=by rw [e2,Ja]
 refine ⟨⟨h.n,h.each,by show ((Aj _ _).own.length:Int)=_; rw [w]; exact h.own,fun m d => ?_,?_,?_,Me h.tot⟩,v⟩
 ·replace d:m ∈ Yx (Cz M.lg n):=d;rw [eB] at d;have e:m ∈ Yx M.lg:=by
   rw [eA];rcases List.mem_append.1 d with g | g <;> simp [g]
  obtain ⟨j,k⟩:=h.lg m e;refine ⟨by show m<(Aj _ _).own.length; omega,?_⟩;show (Aj _ _).own.getD m 0=((M.shs.length:Nat):Int)
  rw [A,if_neg]
  ·exact k
  ·intro o;rcases List.mem_append.1 d with g | g
   ·exact i m g m (List.mem_append.2 (.inl o)) rfl
   ·exact u m o m g rfl
 ·show (Yx (Cz M.lg n)).Nodup
  rw [eB];exact List.nodup_append.2 ⟨p,t,fun x B y C=>i x B y (List.mem_append.2 (.inr C))⟩
 ·show Zh (Aj _ _)=H9 M.shs+Dj (Cz M.lg n)
  have D:=h.sum;rw [e1,V5] at D;rw [e2,V5];have:Dj ((n,r)::b)=(r.length+1)+Dj b:=by unfold Dj; rw [ZB,YQ]
  simp only [XP] at z;omega
variable {pd pd2:Option (Nat × PlcM)}
structure Rm where
 rb:Nat
 c:Conf
 p:Y4
 mo:Option Nat
 P:Pl
 sb:Nat
 sc:Nat
 lm:Nat
 S:Nat->Sh
 lap:Int
 X:Nat->Prop
abbrev Bw (R:Rm):Value := .pointer (some ⟨R.rb,0,none⟩)
def rmL (R:Rm) (n:Nat):List Value:=Zl R.c R.p ++ [H5 R.mo,D5 R.P,.slice (some ⟨R.sb,0,none⟩) n R.sc,.map (some R.lm)]
def Al (F:Nat->Prop) (w:World) (a:Option Addr) (l:List Int):Prop:=Rd .i64 w a l/\(0<l.length->Xj F a)
theorem Al.chg {F:Nat->Prop} {w w':World} (h:Al F w a l) (hc:Xc S w w') (hS:∀ z,S z->F z):Al F w' a l:=by
 refine ⟨?_,h.2⟩;by_cases b:0<l.length
 ·exact h.1.far ((h.2 b).mono hS) hc
 ·have:l = []:=ZU (by omega);subst this;exact Rd.nil _ _ _
theorem Rd.block {k:IntKind} {w:World} (h:Rd k w a l) (hl:0<l.length) {s} (e:a=some ⟨b,off,s⟩):b<w.heap.size:=by
 obtain ⟨b',off',e',c⟩:=h 0 hl;rw [e] at e'; cases e';exact World.block_lt_of_cell? w _ c
theorem Al.grow {F:Nat->Prop} {w:World} (h:Al F w a l) (hF:∀ z,F' z->F z\/w.heap.size<=z):Al F' w a l :=
 ⟨h.1,fun c b off s e hz=>by
  rcases hF b hz with hz | hz
  ·exact h.2 c b off s e hz
  ·have:=h.1.block c e; omega⟩
theorem Fa {w w':World} {x:Option Nat} (hc:Xc S w w') (h:kd w b=some x) (hS:¬ S b):kd w' b=some x:=by
 unfold kd at *;rw [hc.block b (Ef h) hS];exact h
def Kp (F:Nat->Prop) (w:World) (a:Option Addr):Prop := ∀ b off s,a=some ⟨b,off,s⟩->kd w b=some (some 3) /\ ¬ F b
theorem Kp.chg {F:Nat->Prop} {w w':World} (h:Kp F w a) (hc:Xc S w w') (hS:∀ b,kd w b=some (some 3)->S b->F b):Kp F w' a:=fun b off s e =>
 ⟨Fa hc (h b off s e).1 (fun c=>(h b off s e).2 (hS b (h b off s e).1 c)),(h b off s e).2⟩
def Dh (F:Nat->Prop) (w:World) (lm:Nat) (lg:List (Nat × List Nat)):Prop := ∃ m,Yq w lm m/\(A0 m).Nodup/\(∀ e ∈ lg,∃ a cap,A8 m e.1=some (.slice a e.2.length cap)/\Rd .i64 w a (X3 e.2)/\Kp F w a) /\ ∀ k:Int,(∀ e ∈ lg,(e.1:Int)≠k)->A8 m k=none
theorem Dh.chg {F S:Nat->Prop} {w w':World} {lm:Nat} {lg:List (Nat × List Nat)} (h:Dh F w lm lg) (hc:Xc S w w') (hS:∀ b,kd w b=some (some 3)->S b->F b) (hl:¬ S lm):Dh F w' lm lg:=by
 obtain ⟨m,d,f,g,i⟩:=h;exact ⟨m,d.chg hc hl,f,fun e j=>by obtain ⟨a,cap,k,l,c⟩:=g e j; exact ⟨a,cap,k,l.far (fun b off s e n=>(c b off s e).2 (hS b (c b off s e).1 n)) hc,c.chg hc hS⟩,i⟩
theorem Dh.grow {F:Nat->Prop} {w:World} (h:Dh F w lm lg) (hF:∀ z,F' z->F z\/w.heap.size<=z):Dh F' w lm lg:=by
 obtain ⟨m,d,f,g,i⟩:=h;exact ⟨m,d,f,fun e j=>by
  obtain ⟨a,cap,k,l,c⟩:=g e j;exact ⟨a,cap,k,l,fun b off s e=>⟨(c b off s e).1,fun n=>(hF b n).elim (c b off s e).2 (fun h=>by have:=Ef (c b off s e).1; omega)⟩⟩,i⟩
def Ra (F:Nat->Prop) (w:World) (R:Rm) (shs:List Sm) (pl:PlM):Prop := ∃ G:Nat->Nat->Pg,
 (∀ k x,shs[k]? = some x->(R.S k).P=R.P/\Qe w (R.S k) (G k) x pl /\ ∀ z,Y1 (R.S k) (G k) x.pg z->F z/\z≠R.lm) /\
 ∀ j k x y,j≠k->shs[j]? = some x->shs[k]? = some y -> ∀ z,Y1 (R.S j) (G j) x.pg z -> ¬ Y1 (R.S k) (G k) y.pg z
def Rm.FX (R:Rm) (F:Nat->Prop):Nat->Prop:=fun z=>F z\/R.X z
structure Zg (F:Nat->Prop) (w:World) (R:Rm) (M:RmM):Prop where
 ok:M.Ok R.c
 obj:w.heap[R.rb]? = some (.cells (rmL R M.shs.length).toArray 166 (0,0))
 cls:Al F w R.p.ca R.c.classes
 kee:Al F w R.p.ka R.c.keep
 may:Zb R.c=true
 met:∀ b,R.mo=some b->F b/\Ax w b M.tot R.lap
 sl:∀ k,k<M.shs.length->w.cell? ⟨R.sb,k,none⟩=some (B4 (R.S k))
 pool:Zu w R.P M.pl
 pf:∀ z,Ai R.P z->F z
 sh:Ra F w R M.shs M.pl
 lg:Dh (R.FX F) w R.lm M.lg
 lf:F R.lm
 rf:¬ F R.rb
 sf:¬ F R.sb
 low:∀ z,F z->z<w.heap.size
 tab:Az w
 tf:¬ F 0
 xl:∀ z,R.X z->z<w.heap.size /\ ¬ F z
theorem Zg.conf {F:Nat->Prop} {w:World} {R:Rm} {M:RmM} (h:Zg F w R M):Yp w R.c R.p:=by
 have a:=h.may;unfold Zb at a;simp only [XK,decide_eq_true_eq] at a;obtain ⟨⟨⟨⟨⟨⟨⟨b,d⟩,c⟩,e,_⟩,_⟩,_⟩,_⟩,_⟩:=a;have f:=Rx c;have:=Kf.1 b;exact ⟨h.cls.1,h.kee.1,by omega,by omega,by unfold Kn; omega⟩
def E3 (F:Nat->Prop) (w w':World) (R:Rm) (M:RmM):Prop := ∃ F',Zg F' w' R M/\(∀ z,F' z->F z\/w.heap.size<=z)/\Xc F w w'
theorem E3.of {F:Nat->Prop} {w w':World} {R:Rm} {M:RmM} (h:Zg F w' R M) (hc:Xc F w w'):E3 F w w' R M:=⟨F,h,fun _ h => .inl h,hc⟩
theorem E3.trans {F:Nat->Prop} {w:World} {R:Rm} {M:RmM} {F1:Nat->Prop} (hF:∀ z,F1 z->F z\/w.heap.size<=z) (hc:Xc F w w1) (h:E3 F1 w1 w2 R M):E3 F w w2 R M:=by
 obtain ⟨e,a,b,c⟩:=h;refine ⟨e,a,fun z d => ?_,hc.since c fun z d f => ?_⟩
 ·rcases b z d with h | h
  ·exact hF z h
  ·have:=hc.size; exact .inr (by omega)
 ·rcases hF z f with h | h
  ·exact h
  ·omega
section
variable {F:Nat->Prop} {w w':World} {R:Rm} {M:RmM}
theorem Ra.grow {shs:List Sm} {pl:PlM} (h:Ra F w R shs pl) (hc:Xc Xe w w'):Ra F w' R shs pl:=by
 obtain ⟨G,a,b⟩:=h;exact ⟨G,fun k x c=>by obtain ⟨d,e,f⟩:=a k x c; exact ⟨d,e.grow hc,f⟩,b⟩
theorem Zg.grow (h:Zg F w R M) (hc:Xc Xe w w'):Zg F w' R M :=
 ⟨h.ok,hc.heap' h.obj,h.cls.chg hc (fun _ h=>h.elim),h.kee.chg hc (fun _ h=>h.elim),h.may,fun b c=>by obtain ⟨d,e⟩:=h.met b c; exact ⟨d,e.chg hc⟩,
  fun k f=>hc.cell (h.sl k f) id,h.pool.grow hc,h.pf,h.sh.grow hc,h.lg.chg hc (fun _ _ h=>h.elim) id,h.lf,h.rf,h.sf,fun z a=>by have:=h.low z a; have:=hc.size; omega,h.tab.grow hc,h.tf,fun z a=>⟨by have:=(h.xl z a).1; have:=hc.size; omega,(h.xl z a).2⟩⟩
theorem K8 {t l:Int} (h:Ax w b t l):kd w b=some (some 154):=Yb h.1
theorem G7 {F:Nat->Prop} (h:Dh F w lm lg):kd w lm=some none:=by
 obtain ⟨m,a,_⟩:=h;exact Ov a
theorem Zg.charge (h:Zg F w R M) (hb:R.mo=some b) {t:Int} (hm:Ax w' b t R.lap) (hc:Xc (fun z=>z=b) w w'):Zg F w' R {M with tot:=t}:=by
 obtain ⟨m,o⟩:=h.met b hb;have kb:=K8 o;have f:∀ z,z=b->F z:=fun z e=>e▸m;have kp:=h.pool.kds;have i:=Xs kp.1 kb (by decide);have j:=Xs kp.2 kb (by decide);have p:0≠b:=fun e=>h.tf (e▸m);refine ⟨{h.ok with tot:=by have:=hm.2; show 0<=t/\t<=4611686018427387904; omega},hc.heap h.obj (fun e=>h.rf (f _ e)),h.cls.chg hc f,h.kee.chg hc f,h.may,fun b' l => ?_,fun k q=>hc.cell (h.sl k q) (fun e=>h.sf (f _ e)),h.pool.chg hc i j,h.pf,?_,h.lg.chg hc (fun z _ h => .inl (f z h)) (Xs (G7 h.lg) kb (by simp)),h.lf,h.rf,h.sf,fun z g=>by have:=h.low z g; have:=hc.size; omega,h.tab.chg hc p,h.tf,fun z g=>⟨by have:=(h.xl z g).1; have:=hc.size; omega,(h.xl z g).2⟩⟩
 ·rw [hb] at l; cases l; exact ⟨m,hm⟩
 ·obtain ⟨G,a,d⟩:=h.sh;refine ⟨G,fun k x r => ?_,d⟩;obtain ⟨n,c,s⟩:=a k x r;have ap:=c.at'.apart kb (by decide);exact ⟨n,⟨c.ok,c.pos,c.of,c.at'.chg hc (fun z e=>e▸ap.1) (fun z e=>e▸ap.2) p,c.pool.chg hc (by rw [n]; exact i) (by rw [n]; exact j)⟩,s⟩
theorem Qe.beside {S S':Sh} {G':Nat->Pg} {pl:PlM} (h:Qe w S G x pl) (h':Qe w S' G' x' pl) (hd:∀ z,Y1 S' G' x'.pg z -> ¬ Y1 S G x.pg z) (hc:Xc (Ah S' G' x'.pg) w w') (hP:S.P=S'.P) (hp:Zu w' S'.P pl') (hof:x.Of pl'):Qe w' S G x pl':=by
 have k':=h'.at'.kds;obtain ⟨d,f⟩:=h'.pool.kds;have kx:∀ {z:Nat},Ah S' G' x'.pg z->kd w z≠some (some 290)/\kd w z≠some (some 286):=fun {z} a=>by
  rcases a with (e | e | (e | e) | ⟨e,b,e1 | e1⟩) | e | e
  ·subst e; rw [k'.sb]; exact ⟨by decide,by decide⟩
  ·subst e; rw [k'.sm]; exact ⟨by simp,by simp⟩
  ·subst e; rw [k'.ab]; exact ⟨by decide,by decide⟩
  ·subst e; rw [k'.nb]; exact ⟨by decide,by decide⟩
  ·subst e1; rw [(h'.at'.pages e b).kds.bb]; exact ⟨by decide,by decide⟩
  ·subst e1; rw [(h'.at'.pages e b).kds.mb]; exact ⟨by simp,by simp⟩
  ·subst e; rw [d]; exact ⟨by decide,by decide⟩
  ·subst e; rw [f]; exact ⟨by decide,by decide⟩
 have out:∀ z,Y1 S G x.pg z -> ¬ Ah S' G' x'.pg z:=fun z a hz'=>by
  rcases hz' with hz' | hz'
  ·exact hd z hz' a
  ·have c:=hz';have n:=h.at'.notpool (hP▸h'.pool);rw [hP] at n;rcases c with e | e
   ·subst e; exact n.1 a
   ·subst e; exact n.2 a
 refine ⟨h.ok,h.pos,hof,h.at'.chg hc (fun z a=>⟨fun e=>out z (.inl e) a,fun e=>out z (.inr (.inl e)) a,fun e=>(kx a).1 (e▸h.at'.kds.lb),fun e=>out z (.inr (.inr (.inl e))) a⟩) (fun z a e b=>⟨fun e'=>(kx a).2 (e'▸(h.at'.pages e b).kds.p),fun e'=>out z (.inr (.inr (.inr ⟨e,b,e'⟩))) a⟩) ?_,hP▸hp⟩;rintro (e | e)
 ·rcases e with e | e | e | ⟨e,b,e1⟩
  ·exact Ki h'.at'.tab (fun v e2=>by rw [Yi h'.at'.obj] at e2; simp [Kd] at e2) e
  ·obtain ⟨m,g,_⟩:=h'.at'.map;exact Xa8 g h'.at'.tab e
  ·exact Xfw h'.at'.ring h'.at'.tab e
  ·exact Xa9 (h'.at'.pages e b) e1
 ·exact Xba h'.at'.tab h'.pool e
theorem Zg.shelf (h:Zg F w R M) (hx:M.shs[k]? = some x):∃ Gk,(R.S k).P=R.P/\Qe w (R.S k) Gk x M.pl/\(∀ z,Ah (R.S k) Gk x.pg z->F z) /\ ∀ w' G' x' pl',Qe w' (R.S k) G' x' pl'->Xc (Ah (R.S k) Gk x.pg) w w' ->
 (∀ z,Y1 (R.S k) G' x'.pg z->Y1 (R.S k) Gk x.pg z\/w.heap.size<=z)->Fq M.pl pl' x.cls->x'.cls=x.cls->x'.blocks=x.blocks->Zh pl'+x.pg.length=Zh M.pl+x'.pg.length->E3 F w w' R (Ev M k x' pl'):=by
 obtain ⟨G,a,d⟩:=h.sh;obtain ⟨s,t,v⟩:=a k x hx;have p:=(List.getElem?_eq_some_iff.1 hx).1;have f:∀ z,Ah (R.S k) (G k) x.pg z->F z:=fun z hz=>by
  rcases hz with hz | hz
  ·exact (v z hz).1
  ·exact h.pf z (s▸hz)
 refine ⟨G k,s,t,f,fun w' G' x' pl' o m A D E H Q => ?_⟩
 let F':Nat->Prop:=fun z=>F z\/(w.heap.size<=z/\Y1 (R.S k) G' x'.pg z)
 have q:∀ z,F' z->F z\/w.heap.size<=z:=fun z hz=>hz.imp id (·.1);have I:¬ Ah (R.S k) (G k) x.pg R.lm:=by
  rintro (hz | hz)
  ·exact (v _ hz).2 rfl
  ·have kl:=G7 h.lg;have kp:=t.pool.kds;rcases hz with e | e
   ·exact Xs kl kp.1 (by simp) e
   ·exact Xs kl kp.2 (by simp) e
 have P:=h.low _ h.lf;have n:∀ (b:Nat),b<w.heap.size -> ¬ F b -> ¬ F' b:=fun b J S hz=>by
  rcases hz with hz | ⟨hz,_⟩
  ·exact S hz
  ·omega
 refine ⟨F',⟨h.ok.set h.pool.good hx D E H Q,?_,(h.cls.grow q).chg m (fun z hz => .inl (f z hz)),(h.kee.grow q).chg m (fun z hz => .inl (f z hz)),h.may,fun b J => ?_,fun j B => ?_,s▸o.pool,fun z hz => .inl (h.pf z hz),⟨fun j=>if j=k then G' else G j,fun j y c => ?_,fun i j y y' r c l z hz => ?_⟩,(h.lg.grow (F':=R.FX F') (fun z hz=>hz.elim (fun h=>(q z h).imp .inl id) (fun h => .inl (.inr h)))).chg m (fun z _ hz => .inl (.inl (f z hz))) I,.inl h.lf,n _ (Xg h.obj) h.rf,n _ (World.block_lt_of_cell? w _ (h.sl k p)) h.sf,fun z hz => ?_,o.at'.tab,n _ (World.block_lt_of_cell? w _ (h.tab 0 (by decide))) h.tf,fun z hz=>⟨by have:=(h.xl z hz).1; have:=m.size; omega,n z (h.xl z hz).1 (h.xl z hz).2⟩⟩,q,m.mono fun z _ hz=>f z hz⟩
 ·show w'.heap[R.rb]? = some (.cells (rmL R (M.shs.set k x').length).toArray _ _)
  rw [XF];exact m.heap h.obj (fun hz=>h.rf (f _ hz))
 ·obtain ⟨K,C⟩:=h.met b J;have kb:=K8 C;have kp:=t.pool.kds;have ap:=t.at'.apart kb (by decide);refine ⟨.inl K,m.heap C.1 ?_,C.2⟩;rintro ((e | e | e | ⟨e,T,e1⟩) | e | e)
  ·exact ap.1.1 e
  ·exact ap.1.2.1 e
  ·exact ap.1.2.2.2 e
  ·exact (ap.2 e T).2 e1
  ·exact Xs kb kp.1 (by decide) e
  ·exact Xs kb kp.2 (by decide) e
 ·exact m.cell (h.sl j (by replace B:j<(M.shs.set k x').length:=B; rw [XF] at B; exact B)) (fun hz=>h.sf (f _ hz))
 ·replace c:(M.shs.set k x')[j]? = some y:=c;by_cases e:j=k
  ·subst e;rw [XG p] at c; cases c;simp only [if_true];refine ⟨s,o,fun z hz => ?_⟩;rcases A z hz with g | g
   ·exact ⟨.inl (v z g).1,(v z g).2⟩
   ·exact ⟨.inr ⟨g,hz⟩,by omega⟩
  ·rw [XU (Ne.symm e)] at c;simp only [if_neg e];obtain ⟨L,N,O⟩:=a j y c;obtain ⟨V,_⟩:=h.ok.each j y c;obtain ⟨W,_⟩:=h.ok.each k x hx;exact ⟨L,N.beside t (fun z o A=>d j k y x e c hx z A o) m (L.trans s.symm) o.pool (D.of h.pool.good N.of (by omega) (by omega)),fun z hz=>⟨.inl (O z hz).1,(O z hz).2⟩⟩
 ·replace c:(M.shs.set k x')[i]? = some y:=c;replace l:(M.shs.set k x')[j]? = some y':=l;have old:∀ {i:Nat} {y:Sm},i≠k->M.shs[i]? = some y -> ∀ {z:Nat},Y1 (R.S i) (G i) y.pg z -> ¬ Y1 (R.S k) G' x'.pg z:=fun {i y} U c {z} hz u=>by
   rcases A z u with g | g
   ·exact d i k y x U c hx z hz g
   ·have:=h.low z ((a i y c).2.2 z hz).1; omega
  by_cases e:i=k
  ·subst e;rw [XG p] at c; cases c;rw [XU r] at l;simp only [if_true] at hz;simp only [if_neg (Ne.symm r)];exact fun u=>old (Ne.symm r) l u hz
  ·rw [XU (Ne.symm e)] at c;simp only [if_neg e] at hz;by_cases e':j=k
   ·subst e';rw [XG p] at l; cases l;simp only [if_true];exact old e c hz
   ·rw [XU (Ne.symm e')] at l;simp only [if_neg e'];exact d i j y y' r c l z hz
 ·rcases hz with hz | ⟨_,hz⟩
  ·have:=h.low z hz; have:=m.size; omega
  ·exact o.foot_lt z (.inl hz)
theorem Qe.swap {S:Sh} {pl:PlM} (h:Qe w S G x pl) (hlm:kd w lm=some none) (hnl:¬ Y1 S G x.pg lm) (hc:Xc (fun z=>Ai S.P z\/z=lm) w w') (hp:Zu w' S.P pl') (hof:x.Of pl') (ht:0≠lm):Qe w' S G x pl':=by
 obtain ⟨f,g⟩:=h.pool.kds;have c:=h.at'.apart f (by decide);have d:=h.at'.apart g (by decide);refine ⟨h.ok,h.pos,hof,h.at'.chg hc (fun z b => ?_) (fun z b e a => ?_) ?_,hp⟩
 ·rcases b with (e | e) | e
  ·exact e▸c.1
  ·exact e▸d.1
  ·subst e;exact ⟨fun e=>hnl (.inl e),fun e=>hnl (.inr (.inl e)),Xs hlm h.at'.kds.lb (by simp),fun e=>hnl (.inr (.inr (.inl e)))⟩
 ·rcases b with (e1 | e1) | e1
  ·exact e1▸c.2 e a
  ·exact e1▸d.2 e a
  ·subst e1;exact ⟨Xs hlm (h.at'.pages e a).kds.p (by simp),fun e'=>hnl (.inr (.inr (.inr ⟨e,a,e'⟩)))⟩
 ·rintro (e | e)
  ·exact Xba h.at'.tab h.pool e
  ·exact ht e
theorem Zg.swap (h:Zg F w R M) {pl':PlM} {lg':List (Nat × List Nat)} (hok:RmM.Ok R.c {M with pl:=pl',lg:=lg'}) (hc:Xc (fun z=>Ai R.P z\/z=R.lm) w w') (hp:Zu w' R.P pl') (hl:Dh (R.FX F) w' R.lm lg') (hof:∀ (k:Nat) (x:Sm),M.shs[k]? = some x->x.Of M.pl->x.Of pl'):Zg F w' R {M with pl:=pl',lg:=lg'}:=by
 have f:∀ z,(Ai R.P z\/z=R.lm)->F z:=fun z c=>c.elim (h.pf z) (fun e=>e▸h.lf);have kl:=G7 h.lg;have kp:=h.pool.kds;refine ⟨hok,hc.heap h.obj (fun c=>h.rf (f _ c)),h.cls.chg hc f,h.kee.chg hc f,h.may,fun b n => ?_,fun k o=>hc.cell (h.sl k o) (fun c=>h.sf (f _ c)),hp,h.pf,?_,hl,h.lf,h.rf,h.sf,fun z c=>by have:=h.low z c; have:=hc.size; omega,h.tab.chg hc (fun c=>h.tf (f _ c)),h.tf,fun z c=>⟨by have:=(h.xl z c).1; have:=hc.size; omega,(h.xl z c).2⟩⟩
 ·obtain ⟨g,i⟩:=h.met b n;have kb:=K8 i;refine ⟨g,hc.heap i.1 ?_,i.2⟩;rintro ((e | e) | e)
  ·exact Xs kb kp.1 (by decide) e
  ·exact Xs kb kp.2 (by decide) e
  ·exact Xs kb kl (by simp) e
 ·obtain ⟨G,a,d⟩:=h.sh;refine ⟨G,fun k x j => ?_,d⟩;obtain ⟨g,l,m⟩:=a k x j;exact ⟨g,l.swap kl (fun c=>(m _ c).2 rfl) (by rw [g]; exact hc) (by rw [g]; exact hp) (hof k x j l.of) (fun e=>h.tf (e▸h.lf)),m⟩
theorem Zg.note {F0:Nat->Prop} {M0:RmM} (h0:Zg F0 w0 R M0) (h:Zg F w R M) {eb:Nat} (hk:kd w eb=some (some t)) (hnew:w0.heap.size<=eb) (hF:¬ F eb) (hc:Xc (fun z=>z=eb) w w')
 (ht:t≠154/\t≠227/\t≠280/\t≠3/\t≠224/\t≠290/\t≠275/\t≠292/\t≠286/\t≠312):Zg F w' R M:=by
 have d:∀ {t':Nat},t≠t'->some (some t)≠some (some t'):=fun h e=>h (Option.some.inj (Option.some.inj e));have o:0<M0.shs.length:=by
  have c:=h0.may;unfold Zb at c;simp only [XK,decide_eq_true_eq] at c;have:=Rx c.1.1.1.1.1.2;have:=h0.ok.n;omega
 have p:R.rb≠eb:=by have:=Xg h0.obj; omega
 have q:R.sb≠eb:=by have:=World.block_lt_of_cell? w0 _ (h0.sl 0 o); simp only at this; omega
 have n:0≠eb:=by have:=World.block_lt_of_cell? w0 _ (h0.tab 0 (by decide)); simp only at this; omega
 have m:∀ {a:Option Addr} {l:List Int},Al F0 w0 a l->Al F w a l->Al F w' a l:=fun {a l} A g=>by
  refine ⟨?_,g.2⟩;by_cases B:0<l.length
  ·exact g.1.far (fun b off s e r=>by have:=A.1.block B e; omega) hc
  ·have:l = []:=ZU (by omega);subst this;exact Rd.nil _ _ _
 have kp:=h.pool.kds;have u:=Xs kp.1 hk (Ne.symm (d ht.2.1));have v:=Xs kp.2 hk (Ne.symm (d ht.2.2.1));refine ⟨h.ok,hc.heap h.obj p,m h0.cls h.cls,m h0.kee h.kee,h.may,fun b r => ?_,fun k y=>hc.cell (h.sl k y) q,h.pool.chg hc u v,h.pf,?_,h.lg.chg hc (fun z f e=>absurd (f.symm.trans (e▸hk)) (Ne.symm (d ht.2.2.2.1))) (Xs (G7 h.lg) hk (by simp)),h.lf,h.rf,h.sf,fun z f=>by have:=h.low z f; have:=hc.size; omega,h.tab.chg hc n,h.tf,fun z f=>⟨by have:=(h.xl z f).1; have:=hc.size; omega,(h.xl z f).2⟩⟩
 ·obtain ⟨i,c⟩:=h.met b r;exact ⟨i,hc.heap c.1 (fun e=>hF (e▸i)),c.2⟩
 ·obtain ⟨G,a,e⟩:=h.sh;refine ⟨G,fun k x C => ?_,e⟩;obtain ⟨i,j,D⟩:=a k x C;have ap:=j.at'.apart hk ht.2.2.2.2;exact ⟨i,⟨j.ok,j.pos,j.of,j.at'.chg hc (fun z e=>e▸ap.1) (fun z e=>e▸ap.2) n,j.pool.chg hc (by rw [i]; exact u) (by rw [i]; exact v)⟩,D⟩
theorem Td (h:Zg F w R M) (n:Int):Xf prog 132 #[H5 R.mo,.int .i64 n] w (fun _ w'=>Zg F w' R {M with tot:=Xw M.tot n}/\Xc F w w'):=by
 cases c:R.mo with
 |none =>
  refine (W3 n w).mono fun _ w' e => ?_;subst e;exact ⟨{h with ok:={h.ok with tot:=(Me (n:=n) h.ok.tot)},met:=fun b a=>by rw [c] at a; cases a},Xc.refl _ _⟩
 |some b =>
  obtain ⟨f,a⟩:=h.met b c;exact (W0 b M.tot R.lap n w a).mono fun _ w' ⟨g,d⟩=>⟨h.charge c g d,d.mono fun z _ e=>e▸f⟩
end
variable {R:Rm}
def Ex (R:Rm) (M:RmM) (k:Int):Value:=match Zs M k with | none => .pointer none | some _=>B4 (R.S k.toNat)
theorem Fj {k:Int} (h:Zs M k=some x):∃ n:Nat,k=n/\n<M.shs.length/\M.shs[n]? = some x:=by
 unfold Zs at h;by_cases a:0<=k
 ·rw [if_pos a] at h;exact ⟨k.toNat,by omega,(List.getElem?_eq_some_iff.1 h).1,h⟩
 ·rw [if_neg a] at h; cases h
theorem Nn {k:Int} (h:k<0\/(M.shs.length:Int)<=k):Zs M k=none:=by
 unfold Zs;by_cases a:0<=k
 ·rw [if_pos a,XZ (by omega)]
 ·rw [if_neg a]
theorem Ll (h:k<M.shs.length):Zs M k=some M.shs[k]:=by
 unfold Zs;rw [if_pos (by omega)];exact XB h
theorem Ns (h:Zg F w R M) (k:Int):Xf prog 171 #[Bw R,.int .i64 k] w (X7 (Ex R M k) w):=by
 have g:=h.ok.n;refine ζe func171 ntmps171 ϱ (ζg ϱ (fun a => ?_) fun a => ?_)
 ·have e:Ex R M k = .pointer none:=by unfold Ex; rw [Nn (.inl (of_decide_eq_true a))]
  rw [e];exact ζa ϱ (ζr func171 ϱ ⟨rfl,rfl⟩)
 ·have d:=of_decide_eq_false a;refine ζl h.obj ϱ (ζg ϱ (fun b => ?_) fun b => ?_)
  ·have e:Ex R M k = .pointer none:=by unfold Ex; rw [Nn (.inr (of_decide_eq_true b))]
   rw [e];exact ζr func171 ϱ ⟨rfl,rfl⟩
  ·have f:=of_decide_eq_false b;obtain ⟨n,rfl⟩:=XD (show 0<=k by omega);have c:n<M.shs.length:=by omega
   have e:Ex R M n=B4 (R.S n):=by unfold Ex; rw [Ll c]; rfl
   rw [e];exact ζl h.obj ϱ (ζi n ϱ (ζk ϱ (show w.cell? ⟨R.sb,0+n,none⟩=_ from by rw [XQ]; exact h.sl n c) ϱ (ζr func171 ϱ ⟨rfl,rfl⟩)))
theorem Pt (h:Zg F w R M):Xf prog 62 #[Bw R] w (X7 (.int .i64 (Zh M.pl:Nat)) w):=by
 exact ζe func62 ntmps62 ϱ (ζl h.obj ϱ (ζw (XiZ R.P M.pl w h.pool) ϱ (ζr func62 ϱ ⟨rfl,rfl⟩)))
theorem Xkf (h:Zg F w R M) (k n i:Int):Xf prog 118 #[Bw R,.int .i64 k,.int .i64 n,.int .i64 i] w (X7 (.int .i64 (X9 M k n i)) w):=by
 refine ζe func118 ntmps118 ϱ (ζw (Ns h k) ϱ ?_);unfold Ex X9;cases a:Zs M k with
 |none =>
  exact ζw (XkB n i w) ϱ (ζr func118 ϱ ⟨rfl,rfl⟩)
 |some x =>
  obtain ⟨j,rfl,d,b⟩:=Fj a;obtain ⟨G,_,c,_⟩:=h.shelf b;exact ζw (XkA (R.S j) G x M.pl n i w c) ϱ (ζr func118 ϱ ⟨rfl,rfl⟩)
theorem Xki (h:Zg F w R M) (k r:Int) (fk:Nat) (hf:Xf prog fk #[Ex R M k] w (X7 (.int .i64 r) w)):Xf prog 106 #[Bw R,.int .i64 k,.func (.func fk) #[] #[]] w (X7 (.int .i64 r) w):=by
 exact ζe func106 ntmps106 ϱ (ζw (Ns h k) ϱ (ζw hf ϱ (ζr func106 ϱ ⟨rfl,rfl⟩)))
theorem Pu (h:Zg F w R M) (k:Int):Xf prog 54 #[Bw R,.int .i64 k] w (X7 (.int .i64 (Yg M k:Nat)) w):=by
 have a:Xf prog 107 #[Ex R M k] w (X7 (.int .i64 (Yg M k:Nat)) w):=by
  unfold Ex Yg;cases b:Zs M k with
  |none=>exact Xe0 w
  |some x =>
   obtain ⟨j,rfl,e,c⟩:=Fj b;obtain ⟨G,_,d,_⟩:=h.shelf c;exact XeZ (R.S j) G x M.pl w d
 exact ζe func54 ntmps54 ϱ (ζw (Xki h k (Yg M k:Nat) 107 a) ϱ (ζr func54 ϱ ⟨rfl,rfl⟩))
theorem Xke (h:Zg F w R M) (k n i who:Int):Xf prog 137 #[Bw R,.int .i64 k,.int .i64 n,.int .i64 i,.int .i64 who] w
 (fun v w'=>v = .int .i64 (Np M k n i who)/\E3 F w w' R (Qk M k n i who)):=by
 refine ζe func137 ntmps137 ϱ (ζw (Ns h k) ϱ ?_);unfold Ex Np Qk;cases d:Zs M k with
 |none =>
  exact ζw (Xkz n i who w) ϱ (ζr func137 ϱ ⟨rfl,.of h (Xc.refl _ _)⟩)
 |some x =>
  obtain ⟨j,rfl,o,e⟩:=Fj d;obtain ⟨G,_,f,_,a⟩:=h.shelf e;refine ζc ϱ (Xky (R.S j) G x M.pl n i who w f) ?_;rintro _ g ⟨rfl,l,b,c⟩;refine ζa ϱ ?_;obtain ⟨e1,e2,e3,e4⟩:=Xaa x M.pl n i who;exact ζr func137 ϱ ⟨rfl,a g G (Aq x n i who) M.pl l b (fun z m => .inl (c z m)) e1 e2 e3 e4⟩
theorem Xkh (h:Zg F w R M) (k:Int):Xf prog 117 #[Bw R,.int .i64 k] w (Grow (.tuple #[.agg (Lm M k).toArray,.bool (H6 M k)]) w):=by
 refine ζe func117 ntmps117 ϱ (ζn ϱ fun b m e1 n g B => ?_);have o:=h.grow g;refine ζw (Ns o k) ϱ ?_;unfold Ex Lm H6;cases r:Zs M k with
 |none =>
  exact ζv (XkD m) ϱ fun s f=>ζs (f.heap' n) ϱ fun t i l p=>ζR func117 i ϱ ⟨rfl,(g.trans f).since l (fun z u e=>by subst e1; omega)⟩
 |some x =>
  obtain ⟨j,rfl,C,y⟩:=Fj r;obtain ⟨G,_,A,_⟩:=o.shelf y;obtain ⟨pa,pb,pc,pd,ep⟩:∃ a b c d,Gj x=Jf a b c d:=by
   unfold Gj;split
   ·exact ⟨_,_,_,_,rfl⟩
   ·exact ⟨_,_,_,_,rfl⟩
  have q:=XkC (R.S j) G x M.pl m A;rw [ep] at q;show Xa _ _ (Eo (fun v w'=>v = .tuple #[.agg (Gj x).toArray,.bool (Lq x)]/\_)) _ _ _ _ _
  rw [ep];exact ζv q ϱ fun s f=>ζs (f.heap' n) ϱ fun t i l p=>ζR func117 i ϱ ⟨rfl,(g.trans f).since l (fun z u e=>by subst e1; omega)⟩
end Go.Proofs.YtohjeeapehmkcaaGreatDoor
