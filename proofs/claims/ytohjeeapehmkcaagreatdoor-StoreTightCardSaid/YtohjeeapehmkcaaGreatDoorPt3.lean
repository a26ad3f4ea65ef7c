/-
  Texts put together: Ref13c, Ref13d, Ref13e, Ref13f, Unit, Slices, Class, Conf, Meter, Rmm, Pick, Rml, Room0, Room1.
-/
import Derived.Test.YtohjeeapehmkcaaGreatDoorPt2
import Derived.Test.YtohjeeapehmkcaaGreatDoorQPost
import Derived.Test.YtohjeeapehmkcaaGreatDoorQRule6
import Derived.Test.YtohjeeapehmkcaaGreatDoorQRule11
set_option linter.unusedVariables false
set_option maxRecDepth 100000
namespace Go.Proofs.YtohjeeapehmkcaaGreatDoor
open Go.RowKit
open Bool renaming and_eq_true->XJ
open Int renaming toNat_natCast->XA,eq_ofNat_of_zero_le->XD,mul_le_mul_of_nonneg_right->ZA,mul_le_mul->ZH,mul_nonneg->ZJ,ediv_nonneg->ZX,ediv_le_self->YE
open List renaming getElem?_eq_getElem->XB,getD_eq_getElem?_getD->XC,getElem?_set_self->XF,length_set->XG,length_replicate->XH,map_append->XI,getElem_mem->XK,length_cons->XM,length_map->XN,length_append->XO,mem_of_getElem?->XP,getElem?_set_ne->XQ,getElem?_map->XR,mem_of_mem_take->XT,length_take->XU,getElem?_eq_none->XV,filter_cons->XY,map_cons->ZB,take_add_one->ZC,mem_of_mem_drop->ZD,take_of_length_le->ZE,mem_cons_of_mem->ZF,mem_cons_self->ZI,mem_or_eq_of_mem_set->ZM,mem_singleton->ZN,flatMap_cons->ZQ,drop_eq_getElem_cons->ZS,mem_append_right->ZU,length_drop->ZY,append_nil->YB,eq_nil_of_length_eq_zero->YC,map_set->YD,sum_cons->YH,getElem?_take->YN,filter_append->YP,length_tail->QJ,map_take->QL,map_nil->QQ,map_drop->QS
open Nat renaming le_refl->XE,zero_le->XL,zero_add->XS,mul_one->ZK,add_assoc->YL
open Option renaming getD_some->ZP,map_some->QO
open Go.Proofs.Tryz (func106 func110 func112 func113 func114 func117 func118 func124 func125 func126 func127 func128 func129 func130 func132 func135 func137 func148 func171 func182 func183 func189 func198 func200 func209 func210 func211 func213 func231 func260 func261 func54 func58 func62 func63 func67 func69 func83 ntmps106 ntmps110 ntmps112 ntmps113 ntmps114 ntmps117 ntmps118 ntmps124 ntmps125 ntmps126 ntmps127 ntmps128 ntmps129 ntmps130 ntmps132 ntmps135 ntmps137 ntmps148 ntmps171 ntmps182 ntmps183 ntmps189 ntmps198 ntmps200 ntmps209 ntmps210 ntmps211 ntmps213 ntmps231 ntmps260 ntmps261 ntmps54 ntmps58 ntmps62 ntmps63 ntmps67 ntmps69 ntmps83 prog)
variable {l':IL}{ahead by' size u who z:Int}{lg:List (Nat×List Nat)}{ps:List IL}{bs l p zs:List Int}{l2 ws:List Nat}{cs rest xs:List Value}{N at' b base cap fuel g i j k len lm lo n n0 o off sz t tm vb xb y:Nat}{e:Nat×List Int}{fz:Nat×Nat}{f:Nat->Int}{G:Nat->Pg}{B C F F' Fr S S' T:Nat->Prop}{a:Option Addr}{pg:PgL}{P:Pl}{pl':PlM}{x x':Sm}{α:Type}{v:Value}{w w' w0 w1 w2:World}
theorem Y7.setPage{r:RS}{pl:PlM}(h:Y7 w r x pl)(hn:(x.pg.map (·.1)).Nodup){m:Nat}{q p':List Int}{pa':Option Addr}{pcap':Nat}(hi:x.pg[i]?=some (m,q))(hx:l'.x=p')(hy:Cg w l')(h1:Dm w pa' (r.ps.set i l'))(h2:Yj w pa')(h3:(r.ps.set i l').length<=pcap'):Y7 w {r with pa:=pa',pcap:=pcap',ps:=r.ps.set i l'} {x with pg:=Zo x.pg m p'} pl:=
 ⟨h.p,h.nums,h.opn,h1,h2,h3,λl a=>by
  rcases ZM a with a|rfl
  ·exact h.each l a
  ·exact hy,h.e1,h.e2,by
  have e:=Kc x.pg m p';show r.nums.x=(Zo x.pg m p').map λe=>((e.1:Nat):Int)
  rw[h.e3];have b:∀l:PgL,(l.map λe=>((e.1:Nat):Int))=(l.map (·.1)).map (λn:Nat=>(n:Int)):=λl=>by rw[List.map_map];rfl
  rw[b,b,e],by
  show(r.ps.set i l').map (·.x)=(Zo x.pg m p').map (·.2)
  rw[Xmk hn hi,YD,YD,h.e4,hx],h.e5⟩
theorem Z6.setPage{Q:Nat->Prop}{r:RS}(h:Z6 Q r){pa':Option Addr}{pcap':Nat}(h1:Xj Q pa')(h2:Xj Q l'.a):Z6 Q {r with pa:=pa',pcap:=pcap',ps:=r.ps.set i l'}:=
 ⟨h.o,h.f,h.nums,h.opn,h1,λl a=>by
  rcases ZM a with a|rfl
  ·exact h.each l a
  ·exact h2⟩
theorem Y7.setOpn{r:RS}{pl:PlM}(h:Y7 w r x pl){o:List Nat}(hl:A8 w l')(he:l'.x=o.map (λn:Nat=>(n:Int))):Y7 w {r with opn:=l'} {x with opn:=o} pl:=
 ⟨h.p,h.nums,hl,h.rp,h.plt,h.pcap,h.each,h.e1,h.e2,h.e3,h.e4,he⟩
theorem Z6.setOpn{Q:Nat->Prop}{r:RS}(h:Z6 Q r)(h1:Xj Q l'.a):Z6 Q {r with opn:=l'}:=⟨h.o,h.f,h.nums,h1,h.pa,h.each⟩
theorem Tb(l:List Nat)(n:Nat):(l.map (λm:Nat=>(m:Int))).filter (λm=>m != (n:Int))=(l.filter (λm=>m != n)).map (λm:Nat=>(m:Int)):=by
 rw[List.filter_map]
 congr 1
 refine List.filter_congr λm _=>?_;simp only[Function.comp];exact Bool.eq_iff_iff.2 (by simp only[bne_iff_ne,ne_eq];omega)
theorem XkU(r:RS)(x:Sm)(pl:PlM)(who:Int)(w:World)(h:Y7 w r x pl)(hok:x.Ok)(hof:x.Of pl)(hg:pl.Good):Xf prog 211 #[.agg (X3 r).toArray,.int .i64 who] w
 (λv w'=>∃r',v=.tuple #[.agg (X3 r').toArray,.int .i64 (Cb x pl who),.int .i64 (Ca x pl who),.int .i64 (Qm x pl who)]/\Y7 w' r' (Q0 x pl who) (B1 x pl who)/\A4 w r r'/\Xc Xe w w'):=by
 have eN:∀e,Qm x pl who=e->e≠0->Cb x pl who=0/\Ca x pl who=0/\Q0 x pl who=x/\B1 x pl who=pl:=λe h1 h2=>by
  unfold Cb Ca Q0 B1;rw[h1,if_neg h2,if_neg h2,if_neg h2,if_neg h2];exact⟨rfl,rfl,rfl,rfl⟩
 refine ζe func211 ntmps211 ϱ (ζn ϱ λrb w1 e1 d2 d3 dt=>ζn ϱ λqb w2 e2 ch ci du=>?_);have b0:=ci.heap' d2;have b1:=d3.trans ci;refine ζg ϱ (λg1=>?_) λg1=>?_
 ·have k1:=of_decide_eq_true g1;have ee:Qm x pl who=1:=by unfold Qm;rw[if_pos k1]
  obtain⟨a,b,c,d⟩:=eN 1 ee (by decide);rw[a,b,c,d,ee];refine ζl b0 ϱ (ζs ch ϱ λw3 cr cj d5=>?_);exact ζR func211 cr ϱ ⟨r,rfl,(h.grow b1).far (h.out (λz g=>by omega)) cj,A4.refl _ _,b1.since cj (λz g e=>by omega)⟩
 have ck:0<=who:=by have:=of_decide_eq_false g1;omega
 refine ζl b0 ϱ (ζn ϱ λkb w3 e3 cs d6 d5=>ζs cs ϱ λw4 bh d7 dv=>?_);have b3:=d6.since d7 (λz g e=>by omega);have ai:=b1.trans b3;have b4:=b3.heap' b0;have b5:=b3.heap' ch;have ct:r.opn.x.length=x.opn.length:=by rw[h.e5];simp
 have ak:¬qb=kb:=by omega
 have h4:=h.grow ai;refine ζl b4 ϱ ?_;rw[ct];cases q:x.opn with
 |nil=>
  refine ζy ϱ (ζl b4 ϱ ?_);cases hf:pl.free with
  |nil=>
   have ee:Qm x pl who=5:=by unfold Qm;rw[if_neg (by omega),if_pos (by rw[q,hf];exact⟨rfl,rfl⟩)]
   obtain⟨a,b,c,d⟩:=eN 5 ee (by decide);rw[a,b,c,d,ee];refine ζv (XkW r x pl w4 h4 hok hf) ϱ λw5 am=>ζn ϱ λtb w6 e6 bi bj d8=>ζs bi ϱ λw7 bk bl d9=>?_;have da:=am.size;have L:=(am.trans bj).since bl (λz g e=>by omega);have bm:=ai.trans L;refine ζy ϱ (ζl (L.heap' b4) ϱ (ζs (L.heap' b5) ϱ λw8 cv cl dw=>?_));exact ζR func211 cv ϱ ⟨r,rfl,(h.grow bm).far (h.out (λz g=>by omega)) cl,A4.refl _ _,bm.since cl (λz g e=>by omega)⟩
  |cons n t=>
   have ee:Qm x pl who=0:=by unfold Qm;rw[if_neg (by omega),if_neg (by rw[hf];simp)]
   have db:n<1024:=by have:=(hg.free n (by rw[hf];simp)).1;have:=hg.len;omega
   have cw:=Nu hok hof hg (n:=n) (by rw[hf];simp);rcases J9 x pl who with⟨bn,_⟩|⟨_,_,⟨n',t',a0,_⟩|⟨n',t',_,cm,k1,k2,k3,k4,k5⟩⟩
   ·exact absurd ee bn
   ·rw[q] at a0;cases a0
   rw[hf] at cm;cases cm
   obtain⟨k,o⟩:∃k,k=x.fresh n:=⟨_,rfl⟩;obtain⟨I,u⟩:∃I,I=pl.take x.cls:=⟨_,rfl⟩;have O:k.Ok:=by rw[o];exact hok.fresh db cw
   have b6:k.Of I:=by rw[o,u];exact hof.fresh hg hf
   obtain⟨p,bp⟩:∃p,p=List.replicate x.blocks (-1:Int):=⟨_,rfl⟩;have hp:(n,p)∈k.pg:=by rw[o,bp];exact ZU _ (by simp)
   have a1:=A6 O.nodup hp;rw[<-o,a1] at k3;simp only[ZP] at k3;rw[<-o,k3] at k1;rw[k3] at k5;have cn:k.blocks=x.blocks:=by rw[o];rfl
   have dx:=hok.blk;have a2:p.length=k.blocks:=by rw[cn,bp];exact XH
   have br:Xu p≠k.blocks:=by rw[cn,bp,Ht];omega
   have a3:k.opn=n::[]:=by rw[o];show n::x.opn=_;rw[q]
   rcases T6 (l:=k.pg) (n:=(n:Int)) with⟨ao,_⟩|⟨i,p0,m,hm,a4,a5,cz,hi⟩
   ·rw[a1] at ao;cases ao
   have bs:m=n:=by omega
   subst bs;rw[a1] at a4;cases a4
   rw[k1,k2,k4,k5,ee];rw[<-u];refine ζc ϱ (XkV r x pl m t w4 h4 hok hof hg hf) ?_;rintro _ w5 ⟨f,rfl,co,bt,am⟩;refine ζa ϱ ?_;rw[<-o,<-u] at co;have da:=am.size;refine ζn ϱ λtb w6 e6 bi bj d8=>ζs bi ϱ λw7 bk bl d9=>?_;have bu:=bj.since bl (λz g e=>by omega);have L:=am.trans bu;refine ζf ϱ (ζl bk ϱ ?_);have d0:=L.heap' bh;refine ζs d0 ϱ λW J bv dy=>?_;have B:Z6 (λz=>z=kb) f:=bt _ (λz g=>by omega) (h.out (λz g=>by omega));have a6:Z6 (λz=>z=qb) f:=bt _ (λz g=>by omega) (h.out (λz g=>by omega));have C:=(co.grow bu).far B bv;have ap:=bv.heap (L.heap' b5) ak;have a7:=(ai.trans L).since bv (λz g e=>by omega);have aq:∀Q:Nat->Prop,(∀z,Q z->z<w.heap.size)->Z6 Q r->Z6 Q f:=λQ s q=>bt Q (λz g=>by have:=s z g;omega) q;obtain⟨n,bw⟩:∃n,n=m:=⟨_,rfl⟩;rw[<-bw] at hi a5 a3 hp⊢;have b7:0<f.opn.x.length:=by rw[C.e5,a3];simp
   obtain⟨ob,ooff,b8,a8⟩:=C.opn.ok.rd 0 b7;have b9:f.opn.x.getD 0 0=n:=by rw[C.e5,a3];rfl
   rw[b9] at a8;have ba:W.heap[kb]?=some (.cells ([Xn f.p.o,Xn f.p.f,.int .i64 f.cls,.int .i64 (f.blocks:Int),Xn f.nums,.slice f.pa f.ps.length f.pcap,.slice (some ⟨ob,ooff,none⟩) f.opn.x.length f.opn.cap]:List Value).toArray 112 (0,0)):=by rw[<-b8];exact J
   refine ζl ba ϱ (ζi 0 ϱ (ζk ϱ a8 ϱ (ζl J ϱ (ζv (Me f n W C.nums) ϱ λWa P=>?_))));obtain⟨dc,dd,de⟩:=C.few O b6;rw[C.e3,a5];have a9:=C.grow P;have aa:=P.heap' J;obtain⟨l,hl,bx,bz⟩:=a9.get hi;obtain⟨pb,poff,c0,c1⟩:=a9.rp i l hl;have bb:Wa.heap[kb]?=some (.cells ([Xn f.p.o,Xn f.p.f,.int .i64 f.cls,.int .i64 (f.blocks:Int),Xn f.nums,.slice (some ⟨pb,poff,none⟩) f.ps.length f.pcap,Xn f.opn]:List Value).toArray 112 (0,0)):=by rw[<-c0];exact aa
   have c2:=(List.getElem?_eq_some_iff.1 hl).1;refine ζl bb ϱ (ζi i ϱ (ζk ϱ c1 ϱ (ζc ϱ (Xft l who Wa bz.ok) ?_)));rintro _ Wb ⟨l',rfl,y,bc,R,ar⟩;refine ζa ϱ ?_;rw[bx] at y⊢;have au:=a9.grow R;have bd:0<l'.x.length:=by rw[y,Ma,a2];have:=O.blk;omega
   have ab:=Cg.of bc bd;refine ζl (R.heap' aa) ϱ (ζc ϱ (T8 f i l' Wb au.rp c2 (by rw[C.plen];omega)) ?_);rintro _ Wc ⟨pa',pcap',rfl,c3,c4,c5,c6,D⟩;refine ζa ϱ ?_;have av:=(au.grow D).setPage O.nodup hi y (ab.grow D) c3 c4 c5;have M:=(P.trans R).trans D;have df:=P.size;have dg:=R.size;have dh:=D.size;obtain⟨S,aw⟩:∃S:RS,S={f with pa:=pa',pcap:=pcap',ps:=f.ps.set i l'}:=⟨_,rfl⟩;have T:∀Q:Nat->Prop,(∀z,Q z->z<W.heap.size)->Z6 Q f->Z6 Q S:=λQ s q=>by
    rw[aw];exact q.setPage (c6.out (λz g=>by have:=s z g;omega)) (ar.outS (q.each l (XP hl)) (λz g=>by have:=s z g;omega))
   rw[<-aw] at av⊢;refine ζs (M.heap' J) ϱ λWd A E di=>?_;have F:=av.far (T _ (λz g=>by omega) B) E;have ax:=E.heap (M.heap' ap) ak;have ay:=(a7.trans M).since E (λz g e=>by omega);have c7:=(ab.grow D).far (ar.outS (B.each l (XP hl)) (λz g=>by omega)) E;refine ζw (Ro l' Wd c7.ok) ϱ ?_;rw[y];have G:Yf (Z5 p who)<0↔Xu (Z5 p who)=k.blocks:=by rw[Rc,Ma,a2]
   have eE:=(Ja ck (by rw[a2];exact br)).1;have eA:Cs p who=Yf p:=by unfold Cs;rw[if_pos eE]
   rw[eA];refine ζg ϱ (λac=>?_) λac=>?_
   ·have gfl:=of_decide_eq_true ac;refine ζl A ϱ (ζc ϱ (T9 S.opn n Wd F.opn) ?_);rintro _ We ⟨ol,rfl,be,bf,bg,K⟩;refine ζa ϱ (ζs (K.heap' A) ϱ λWf N ad dj=>?_);obtain⟨U,ae⟩:∃U:RS,U={S with opn:=ol}:=⟨_,rfl⟩;replace N:Wf.heap[kb]?=some (.cells (X3 U).toArray 112 (0,0)):=by rw[ae];exact N
    have af:∀Q:Nat->Prop,(∀z,Q z->z<W.heap.size)->Z6 Q f->Z6 Q U:=λQ s q=>by
     rw[ae];exact(T Q s q).setOpn (bg.out (λz g=>by have:=s z g;have:=E.size;omega))
    have ag:({{k with pg:=Zo k.pg n (Z5 p who)} with opn:=k.opn.filter (λm=>m != n)}:Sm)=k.takeAt n p who:=by
     unfold Sm.takeAt;rw[if_pos (G.1 gfl)]
    have c8:Y7 We U (k.takeAt n p who) I:=by
     rw[ae,<-ag];exact(F.grow K).setOpn bf (by rw[be,F.e5];exact Tb _ _)
    have c9:=c8.far (af _ (λz g=>by omega) B) ad;refine ζl N ϱ ?_;have ca:=ad.heap (K.heap' ax) ak;refine ζs ca ϱ λWg V H cb=>?_;have ah:=c9.far (af _ (λz g=>by omega) a6) H;exact ζR func211 V ϱ ⟨U,rfl,ah,λQ s q=>af Q (λz g=>by have:=s z g;have:=a7.size;omega) (aq Q s q),((ay.trans K).since ad (λz g e=>by omega)).since H (λz g e=>by omega)⟩
   ·have gfl:=of_decide_eq_false ac;have ag:({k with pg:=Zo k.pg n (Z5 p who)}:Sm)=k.takeAt n p who:=by
     unfold Sm.takeAt;rw[if_neg (λe=>gfl (G.2 e))]
    rw[ag] at F;refine ζl A ϱ (ζs ax ϱ λWg V H cb=>?_);have ah:=F.far (T _ (λz g=>by omega) a6) H;exact ζR func211 V ϱ ⟨S,rfl,ah,λQ s q=>T Q (λz g=>by have:=s z g;have:=a7.size;omega) (aq Q s q),ay.since H (λz g e=>by omega)⟩
 |cons n t=>
  have ee:Qm x pl who=0:=by unfold Qm;rw[if_neg (by omega),if_neg (by rw[q];simp)]
  rcases J9 x pl who with⟨bn,_⟩|⟨_,_,⟨n',t',a0,k1,k2,k3,k4,k5⟩|⟨n',t',a0,_⟩⟩
  ·exact absurd ee bn
  ·rw[q] at a0;cases a0
   obtain⟨p,cc⟩:=hok.osub n (by rw[q];simp);obtain⟨k,o⟩:∃k,k=x:=⟨_,rfl⟩;obtain⟨I,u⟩:∃I,I=pl:=⟨_,rfl⟩;have O:k.Ok:=by rw[o];exact hok
   have b6:k.Of I:=by rw[o,u];exact hof
   have hp:(n,p)∈k.pg:=by rw[o];exact cc
   have a1:=A6 O.nodup hp;have cp:=a1;rw[o] at cp;rw[cp] at k3;simp only[ZP] at k3;rw[k3] at k1 k5;have a2:p.length=k.blocks:=by rw[o];exact(hok.each _ cc).2.1
   have br:Xu p≠k.blocks:=by rw[o];exact(hok.each _ cc).2.2.1 (by rw[q];simp)
   have a3:k.opn=n::t:=by rw[o];exact q
   rcases T6 (l:=k.pg) (n:=(n:Int)) with⟨ao,_⟩|⟨i,p0,m,hm,a4,a5,cz,hi⟩
   ·rw[a1] at ao;cases ao
   have bs:m=n:=by omega
   subst bs;rw[a1] at a4;cases a4
   rw[k1,k2,k4,k5,ee,<-o];rw[<-u];refine ζF ϱ (by simp;omega) ?_;obtain⟨f,az⟩:∃f,f=r:=⟨_,rfl⟩;obtain⟨W,hW⟩:∃W,W=w4:=⟨_,rfl⟩;have C:Y7 W f k I:=by rw[hW,az,o,u];exact h4
   have J:W.heap[kb]?=some (.cells (X3 f).toArray 112 (0,0)):=by rw[hW,az];exact bh
   have B:Z6 (λz=>z=kb) f:=by rw[az];exact h.out (λz g=>by omega)
   have a6:Z6 (λz=>z=qb) f:=by rw[az];exact h.out (λz g=>by omega)
   have ap:=b5;rw[<-hW] at ap;have a7:Xc Xe w W:=by rw[hW];exact ai
   have aq:∀Q:Nat->Prop,(∀z,Q z->z<w.heap.size)->Z6 Q r->Z6 Q f:=λQ s q=>by rw[az];exact q
   have cg:∀{X:World->Prop},X W->X w4:=λh=>hW▸h;refine cg (X:=λw2=>Xa _ _ _ _ _ _ _ w2) ?_;obtain⟨n,bw⟩:∃n,n=m:=⟨_,rfl⟩;rw[<-bw] at hi a5 a3 hp⊢;have b7:0<f.opn.x.length:=by rw[C.e5,a3];simp
   obtain⟨ob,ooff,b8,a8⟩:=C.opn.ok.rd 0 b7;have b9:f.opn.x.getD 0 0=n:=by rw[C.e5,a3];rfl
   rw[b9] at a8;have ba:W.heap[kb]?=some (.cells ([Xn f.p.o,Xn f.p.f,.int .i64 f.cls,.int .i64 (f.blocks:Int),Xn f.nums,.slice f.pa f.ps.length f.pcap,.slice (some ⟨ob,ooff,none⟩) f.opn.x.length f.opn.cap]:List Value).toArray 112 (0,0)):=by rw[<-b8];exact J
   refine Xa.loadb Xb rfl ba rfl rfl ?_;refine Xa.index Xb rfl (j:=0) (by omega) (by omega) (by first|rfl|omega|(simp;done)|(simp;omega)) rfl ?_;refine ζk rfl a8 rfl ?_;refine Xa.loads Xb rfl J rfl rfl ?_;refine ζc rfl (Me f n W C.nums) ?_;rintro _ Wa ⟨rfl,P⟩;refine ζa rfl ?_;obtain⟨dc,dd,de⟩:=C.few O b6;rw[C.e3,a5];have a9:=C.grow P;have aa:=P.heap' J;obtain⟨l,hl,bx,bz⟩:=a9.get hi;obtain⟨pb,poff,c0,c1⟩:=a9.rp i l hl;have bb:Wa.heap[kb]?=some (.cells ([Xn f.p.o,Xn f.p.f,.int .i64 f.cls,.int .i64 (f.blocks:Int),Xn f.nums,.slice (some ⟨pb,poff,none⟩) f.ps.length f.pcap,Xn f.opn]:List Value).toArray 112 (0,0)):=by rw[<-c0];exact aa
   have c2:i<f.ps.length:=(List.getElem?_eq_some_iff.1 hl).1;refine Xa.loadb Xb rfl bb rfl rfl ?_;refine Xa.index Xb rfl (j:=i) (by omega) (by omega) (by first|rfl|omega|(simp;done)|(simp;omega)) rfl ?_;refine ζk rfl c1 rfl ?_;refine ζc rfl (Xft l who Wa bz.ok) ?_;rintro _ Wb ⟨l',rfl,y,bc,R,ar⟩;refine ζa rfl ?_;rw[bx] at y⊢;have au:=a9.grow R;have bd:0<l'.x.length:=by rw[y,Ma,a2];have:=O.blk;omega
   have ab:Cg Wb l':=Cg.of bc bd;have d1:=R.heap' aa;refine Xa.loads Xb rfl d1 rfl rfl ?_;refine ζc rfl (T8 f i l' Wb au.rp c2 (by rw[C.plen];omega)) ?_;rintro _ Wc ⟨pa',pcap',rfl,c3,c4,c5,c6,D⟩;refine ζa rfl ?_;have av:=(au.grow D).setPage O.nodup hi y (ab.grow D) c3 c4 c5;have M:=(P.trans R).trans D;have df:=P.size;have dg:=R.size;have dh:=D.size;obtain⟨S,aw⟩:∃S:RS,S={f with pa:=pa',pcap:=pcap',ps:=f.ps.set i l'}:=⟨_,rfl⟩;have T:∀Q:Nat->Prop,(∀z,Q z->z<W.heap.size)->Z6 Q f->Z6 Q S:=λQ s q=>by
    rw[aw];exact q.setPage (c6.out (λz g=>by have:=s z g;omega)) (ar.outS (q.each l (XP hl)) (λz g=>by have:=s z g;omega))
   rw[<-aw] at av⊢;have dz:=Xg J;have e0:=Xg ap;refine Xa.store Xb rfl (M.heap' J) rfl rfl ?_;intro Wd A E di;refine ζa rfl ?_;replace A:Wd.heap[kb]?=some (.cells (X3 S).toArray 112 (0,0)):=A;have F:=av.far (T _ (λz g=>by omega) B) E;have ax:=E.heap (M.heap' ap) ak;have ay:Xc Xe w Wd:=(a7.trans M).since E (λz g e=>by omega);have c7:Cg Wd l':=(ab.grow D).far (ar.outS (B.each l (XP hl)) (λz g=>by omega)) E;refine ζc rfl (Ro l' Wd c7.ok) ?_;rintro _ _ ⟨rfl,rfl⟩;refine ζa rfl ?_;rw[y];have G:Yf (Z5 p who)<0↔Xu (Z5 p who)=k.blocks:=by rw[Rc,Ma,a2]
   have eE:C1 p who=0:=(Ja ck (by rw[a2];exact br)).1;have eA:Cs p who=Yf p:=by unfold Cs;rw[if_pos eE]
   rw[eA];refine Xa.fork Xb rfl rfl rfl (λac=>?_) (λac=>?_)
   ·have gfl:Yf (Z5 p who)<0:=of_decide_eq_true ac;refine Xa.loadb Xb rfl A rfl rfl ?_;refine ζc rfl (T9 S.opn n Wd F.opn) ?_;rintro _ We ⟨ol,rfl,be,bf,bg,K⟩;refine ζa rfl ?_;have e4:=K.size;refine Xa.store Xb rfl (K.heap' A) rfl rfl ?_;intro Wf N ad dj;refine ζa rfl ?_;obtain⟨U,ae⟩:∃U:RS,U={S with opn:=ol}:=⟨_,rfl⟩;replace N:Wf.heap[kb]?=some (.cells (X3 U).toArray 112 (0,0)):=by rw[ae];exact N
    have af:∀Q:Nat->Prop,(∀z,Q z->z<W.heap.size)->Z6 Q f->Z6 Q U:=λQ s q=>by
     rw[ae];exact(T Q s q).setOpn (bg.out (λz g=>by have:=s z g;have:=E.size;omega))
    have ag:({{k with pg:=Zo k.pg n (Z5 p who)} with opn:=k.opn.filter (λm=>m != n)}:Sm)=k.takeAt n p who:=by
     unfold Sm.takeAt;rw[if_pos (G.1 gfl)]
    have c8:Y7 We U (k.takeAt n p who) I:=by
     rw[ae,<-ag];exact(F.grow K).setOpn bf (by rw[be,F.e5];exact Tb _ _)
    have c9:=c8.far (af _ (λz g=>by omega) B) ad;refine Xa.loads Xb rfl N rfl rfl ?_;have ca:=ad.heap (K.heap' ax) ak;refine Xa.store Xb rfl ca rfl rfl ?_;intro Wg V H cb;refine ζa rfl ?_;replace V:Wg.heap[qb]?=some (.cells (X3 U).toArray 112 (0,0)):=V;have ah:=c9.far (af _ (λz g=>by omega) a6) H;exact ζq rfl func211 (Xm.cell rfl rfl rfl V rfl (.tmp rfl (.tmp rfl (.tmp rfl .nil)))) ⟨U,rfl,ah,λQ s q=>af Q (λz g=>by have:=s z g;have:=a7.size;omega) (aq Q s q),((ay.trans K).since ad (λz g e=>by omega)).since H (λz g e=>by omega)⟩
   ·have gfl:=of_decide_eq_false ac;have ag:({k with pg:=Zo k.pg n (Z5 p who)}:Sm)=k.takeAt n p who:=by
     unfold Sm.takeAt;rw[if_neg (λe=>gfl (G.2 e))]
    rw[ag] at F;refine ζl A ϱ (ζs ax ϱ λWg V H cb=>?_);have ah:=F.far (T _ (λz g=>by omega) a6) H;exact ζR func211 V ϱ ⟨S,rfl,ah,λQ s q=>T Q (λz g=>by have:=s z g;have:=a7.size;omega) (aq Q s q),ay.since H (λz g e=>by omega)⟩
  ·rw[q] at a0;cases a0
theorem Xbe{l:PgL}{n:Int}(h:Zi l n=none):Rk (l.map λe=>((e.1:Nat):Int)) n=-1:=by
 rcases T6 (l:=l) (n:=n) with⟨_,a⟩|⟨_,_,_,_,a,_⟩
 ·exact a
 ·rw[h] at a;cases a
theorem Rl{l:PgL}{n:Int}(h:Zi l n=some p):∃(i m:Nat),n=m/\Rk (l.map λe=>((e.1:Nat):Int)) n=(i:Int)/\i<l.length/\l[i]?=some (m,p):=by
 rcases T6 (l:=l) (n:=n) with⟨a,_⟩|⟨i,p',m,b,a,c,d,f⟩
 ·rw[h] at a;cases a
 ·rw[h] at a;cases a;exact⟨i,m,b,c,d,f⟩
theorem XkS(r:RS)(x:Sm)(pl:PlM)(n i:Int)(w:World)(h:Y7 w r x pl)(hok:x.Ok)(hof:x.Of pl):Xf prog 210 #[.agg (X3 r).toArray,.int .i64 n,.int .i64 i] w (Grow (.int .i64 (Qo x n i)) w):=by
 refine ζe func210 ntmps210 ϱ (ζn ϱ λrb y e1 b c A=>?_);refine ζl b ϱ (ζv (Me r n y (h.nums.grow c)) ϱ λg d=>?_);have a:=c.trans d;rw[h.e3];unfold Qo;cases j:Zi x.pg n with
 |none=>
  rw[Xbe j];exact ζy ϱ (ζr func210 ϱ ⟨rfl,a⟩)
 |some p=>
  obtain⟨k,m,rfl,e,B,z⟩:=Rl j;rw[e];have o:=h.grow a;obtain⟨l,q,s,t⟩:=o.get z;obtain⟨pb,poff,u,v⟩:=o.rp k l q;have f:g.heap[rb]?=some (.cells ([Xn r.p.o,Xn r.p.f,.int .i64 r.cls,.int .i64 (r.blocks:Int),Xn r.nums,.slice (some ⟨pb,poff,none⟩) r.ps.length r.pcap,Xn r.opn]:List Value).toArray 112 (0,0)):=by rw[<-u];exact(d.heap' b)
  have C:=(List.getElem?_eq_some_iff.1 q).1;exact ζf ϱ (ζl f ϱ (ζi k ϱ (ζk ϱ v ϱ (ζw (XkO l i g t.ok) ϱ (ζr func210 ϱ ⟨X0 (by rw[s]),a⟩)))))
theorem XkR(r:RS)(x:Sm)(pl:PlM)(n i who:Int)(w:World)(h:Y7 w r x pl)(hok:x.Ok)(hof:x.Of pl):Xf prog 200 #[.agg (X3 r).toArray,.int .i64 n,.int .i64 i,.int .i64 who] w
 (λv w'=>∃r',v=.tuple #[.agg (X3 r').toArray,.int .i64 (G3 x n i who)]/\Y7 w' r' (Aq x n i who) pl/\A4 w r r'/\Xc Xe w w'):=by
 obtain⟨ak,al,am⟩:=h.few hok hof;refine ζe func200 ntmps200 ϱ (ζn ϱ λrb w1 e1 W b an=>ζn ϱ λqb w2 e2 a0 E ao=>?_);have t:=E.heap' W;have u:=b.trans E;refine ζl t ϱ (ζv (Me r n w2 (h.nums.grow u)) ϱ λJ q=>?_);have f:=u.trans q;have g:=q.heap' t;have y:=q.heap' a0;have A:=h.grow f;have ap:=q.size;rw[h.e3];cases s:Zi x.pg n with
 |none=>
  rw[show G3 x n i who=1 from by unfold G3;rw[s],show Aq x n i who=x from by unfold Aq;rw[s],Xbe s];refine ζy ϱ (ζl g ϱ (ζs y ϱ λw4 K F aq=>?_));exact ζR func200 K ϱ ⟨r,rfl,A.far (h.out (λz a=>by have:=b.size;omega)) F,A4.refl _ _,f.since F (λz a e=>by have:=b.size;omega)⟩
 |some p=>
  obtain⟨k,m,rfl,L,ar,M⟩:=Rl s;rw[L,show G3 x m i who=Ak p i who from by unfold G3;rw[s],show Aq x m i who=x.ownAt m p i who from by unfold Aq;rw[s];rfl];obtain⟨l,N,a1,a2⟩:=A.get M;obtain⟨pb,poff,a3,a4⟩:=A.rp k l N;have O:J.heap[rb]?=some (.cells ([Xn r.p.o,Xn r.p.f,.int .i64 r.cls,.int .i64 (r.blocks:Int),Xn r.nums,.slice (some ⟨pb,poff,none⟩) r.ps.length r.pcap,Xn r.opn]:List Value).toArray 112 (0,0)):=by rw[<-a3];exact g
  have a5:=(List.getElem?_eq_some_iff.1 N).1;have P:=XP M;have a6:=(hok.each _ P).2.1;refine ζf ϱ (ζl O ϱ (ζi k ϱ (ζk ϱ a4 ϱ (ζc ϱ (XkN l i who J a2.ok) ?_))));rintro _ w5 ⟨l',rfl,j,R,c,a7⟩;refine ζa ϱ ?_;rw[a1] at j⊢;have S:=Cg.of R (by rw[j,Xfb];have:=hok.blk;simp only at a6;omega);have h5:=A.grow c;refine ζl (c.heap' g) ϱ (ζc ϱ (T8 r k l' w5 h5.rp a5 (by rw[h.plen];omega)) ?_);rintro _ w6 ⟨pa',pcap',rfl,a9,aa,ab,ac,d⟩;refine ζa ϱ ?_;have h6:=(h5.grow d).setPage hok.nodup M j (S.grow d) a9 aa ab;obtain⟨B,G⟩:∃B:RS,B={r with pa:=pa',pcap:=pcap',ps:=r.ps.set k l'}:=⟨_,rfl⟩;have au:=c.size;have av:=d.size;have H:∀Q:Nat->Prop,(∀z,Q z->z<J.heap.size)->Z6 Q r->Z6 Q B:=λQ C D=>by
   rw[G];exact D.setPage (ac.out (λz a=>by have:=C z a;omega)) (a7.outS (D.each l (XP N)) (λz a=>by have:=C z a;omega))
  rw[<-G] at h6⊢;have T:=(f.trans c).trans d;refine ζn ϱ λtb w7 e7 ae af aw=>ζs ae ϱ λw8 U ag ax=>?_;have o:=af.since ag (λz a e=>by omega);have h8:=h6.grow o;refine ζl U ϱ (ζs (((c.trans d).trans o).heap' y) ϱ λw9 V I ay=>?_);exact ζR func200 V ϱ ⟨B,rfl,h8.far (H _ (λz a=>by omega) (h.out (λz a=>by have:=b.size;omega))) I,λQ C D=>H Q (λz a=>by have:=C z a;omega) D,(T.trans o).since I (λz a e=>by have:=b.size;omega)⟩
theorem Xej:∀{l:List Nat} (p:Int),0<l.length->Be p l=((l.getD (l.length-1) 0:Nat):Int)
 |[a],p,_=>rfl
 |a::b::r,p,_=>by
  have ih:=Xej (l:=b::r) (a:Int) (by simp);show Be a (b::r)=_
  rw[ih]
  simp
theorem XkT(r:RS)(x:Sm)(pl:PlM)(w:World)(h:Y7 w r x pl)(hok:x.Ok):Xf prog 209 #[.agg (X3 r).toArray] w (Grow (.tuple #[.agg (G4 x).toArray,.bool (Mj x)]) w):=by
 have y:r.opn.x.length=x.opn.length:=by rw[h.e5];simp
 have ad:=hok.few;unfold G4 Mj;refine ζe func209 ntmps209 ϱ (ζn ϱ λrb w1 e1 a4 F an=>ζn ϱ λqb w2 e2 M N ao=>?_);have s:=N.heap' a4;have A:=F.trans N;refine ζl s ϱ ?_;rw[y];by_cases o:2<=x.opn.length
 ·rw[if_pos o,decide_eq_true o];have J:∃k∈x.opn,Be (-1) x.opn=(k:Int):=by
   rcases I7 (-1) x.opn with⟨e,_⟩|⟨a,T,e,_⟩
   ·rw[e] at o;simp at o
   ·exact⟨a,T,e⟩
  have K:∃k∈x.opn,B4 x.opn=(k:Int):=by
   cases U:x.opn with
   |nil=>rw[U] at o;simp at o
   |cons a r=>exact⟨a,by simp,rfl⟩
  obtain⟨a,T,ea⟩:=J;obtain⟨b,hb,eb⟩:=K;obtain⟨p,hp⟩:=hok.osub a T;obtain⟨q,hq⟩:=hok.osub b hb;have gp:=A6 hok.nodup hp;have gq:=A6 hok.nodup hq;rw[ea,eb,gp,gq];simp only[ZP];obtain⟨i,m,hm,V,ap,hi⟩:=Rl gp;obtain⟨j,m',aq,L,ar,hj⟩:=Rl gq;have v:=h.grow A;obtain⟨l,hl,a6,a7⟩:=v.get hi;obtain⟨l',O,W,a0⟩:=v.get hj;obtain⟨pb,poff,P,a8⟩:=v.rp i l hl;obtain⟨pb',poff',G,a1⟩:=v.rp j l' O;rw[P] at G;cases G
  obtain⟨ob,ooff,Q,H⟩:=v.opn.ok.rd (x.opn.length-1) (by rw[y];omega);obtain⟨ob',ooff',I,B⟩:=v.opn.ok.rd 0 (by rw[y];omega);rw[Q] at I;cases I
  have a9:r.opn.x.getD (x.opn.length-1) 0=(a:Int):=by
   rw[h.e5,<-ea,Xej (-1) (by omega),XC,XR,XC,XB (show x.opn.length-1<x.opn.length by omega)];rfl
  have aa:r.opn.x.getD 0 0=(b:Int):=by
   rw[h.e5,<-eb];cases U:x.opn with
   |nil=>rw[U] at o;simp at o
   |cons c t=>rfl
  rw[a9] at H;rw[aa] at B;have aj:=(List.getElem?_eq_some_iff.1 hl).1;have ak:=(List.getElem?_eq_some_iff.1 O).1;have u:w2.heap[rb]?=some (.cells ([Xn r.p.o,Xn r.p.f,.int .i64 r.cls,.int .i64 (r.blocks:Int),Xn r.nums,.slice (some ⟨pb,poff,none⟩) r.ps.length r.pcap,.slice (some ⟨ob,ooff,none⟩) r.opn.x.length r.opn.cap]:List Value).toArray 112 (0,0)):=by rw[<-P,<-Q];exact s
  have C:((x.opn.length:Int)-1)=((x.opn.length-1:Nat):Int):=by omega
  refine ζf ϱ (ζd 10 Xe (by kernel_rfl) ϱ λd=>δl d u ϱ (δl d s ϱ (δl d u ϱ (δj d ϱ ?_))));rw[C];refine δi (x.opn.length-1) d ϱ (δk d H ϱ (δv d (λw' g=>Me r a w' (v.nums.grow g)) ϱ ?_));rw[h.e3,V];refine δn d ϱ λw3 n=>ζi i ϱ (ζk ϱ (n.cell a8 id) ϱ ?_);have D:=n.heap' u;refine ζd 8 Xe (by kernel_rfl) ϱ λd=>δl d D ϱ (δl d (n.heap' s) ϱ (δl d D ϱ (δi 0 d ϱ (δk d (n.cell B id) ϱ (δv d (λw' g=>Me r b w' ((v.grow n).nums.grow g)) ϱ ?_)))));rw[h.e3,L];refine δn d ϱ λw4 R=>ζi j ϱ (ζk ϱ ((n.trans R).cell a1 id) ϱ ?_);have f:=n.trans R;have E:=f.heap' u;refine ζd 14 Xe (by kernel_rfl) ϱ λd=>δl d E ϱ (δj d ϱ ?_);rw[C];refine δi (x.opn.length-1) d ϱ (δk d (f.cell H id) ϱ (δw d (λw' g=>XkP l w' ((a7.grow f).ok.grow g)) ϱ (δl d E ϱ (δi 0 d ϱ (δk d (f.cell B id) ϱ (δw d (λw' g=>Ro l' w' ((a0.grow f).ok.grow g)) ϱ (δn d ϱ λw5 S=>ζb ϱ ?_)))))));rw[a6,W];exact ζs ((f.trans S).heap' M) ϱ λw6 a2 ab au=>ζR func209 a2 ϱ ⟨rfl,(A.trans (f.trans S)).since ab (λz hz e=>by have:=F.size;omega)⟩
 ·refine ζy ϱ ?_;rw[if_neg o,decide_eq_false o];exact ζb ϱ (ζs M ϱ λw3 a3 ac av=>ζR func209 a3 ϱ ⟨rfl,A.since ac (λz hz e=>by have:=F.size;omega)⟩)
theorem Dm.shift(h:Dm w a ps)(hm:lo+k<=ps.length)(hc:ps.length<=cap):Dm w (Q6 a cap lo 1) ((ps.drop lo).take k):=λi l d=>by
 have hi:=(List.getElem?_eq_some_iff.1 d).1;have e:i<k:=by rw[XU] at hi;omega
 rw[YN,if_pos e,List.getElem?_drop] at d;obtain⟨b,off,rfl,c⟩:=h (lo+i) l d;have f:¬cap=lo:=by omega
 refine⟨b,off+lo,?_,?_⟩
 ·simp only[Q6,if_neg f,QO,ZK,Cl]
 ·rw[YL];exact c
theorem S9{β:Type}(f:α->β)(l:List α)(k:Nat):(l.take k++l.drop (k+1)).map f=(l.map f).take k++(l.map f).drop (k+1):=by
 rw[XI,QL,QS]
theorem Rd.noneA'{x:List Int}{k:IntKind}(h:Rd k w a x)(hn:x.length=n):a=none->n=0:=λe=>by rw[<-hn];exact h.noneA e
theorem XkQ(r:RS)(x:Sm)(pl:PlM)(n i:Int)(w:World)(h:Y7 w r x pl)(hok:x.Ok)(hof:x.Of pl)(hg:pl.Good):Xf prog 213 #[.agg (X3 r).toArray,.int .i64 n,.int .i64 i] w
 (λv w'=>∃r',v=.tuple #[.agg (X3 r').toArray,.int .i64 (B0 x n i)]/\Y7 w' r' (Qj x n i) (A3 x pl n i)/\A4 w r r'/\Xc Xe w w'):=by
 obtain⟨ga,gb,gc⟩:=h.few hok hof;have gd:maxLen=9223372036854775807:=rfl;have ge:=hok.blk;refine ζe func213 ntmps213 ϱ (ζn ϱ λrb w1 e1 f0 f1 gf=>ζn ϱ λqb w2 e2 f2 dx gg=>?_);have cr:=dx.heap' f0;have cs:=f1.trans dx;refine ζl cr ϱ (ζv (Me r n w2 (h.nums.grow cs)) ϱ λw3 cm=>?_);have bx:=cs.trans cm;have bz:=cm.heap' cr;have ct:=cm.heap' f2;have h3:=h.grow bx;have gh:=cm.size;rw[h.e3];cases H:Zi x.pg n with
 |none=>
  rw[show B0 x n i=1 from by unfold B0;rw[H],show Qj x n i=x from by unfold Qj;rw[H],show A3 x pl n i=pl from by unfold A3;rw[H],Xbe H];refine ζy ϱ (ζl bz ϱ ?_);have I:=ct;refine ζs I ϱ λWz J t b6=>?_;exact ζR func213 J ϱ ⟨r,rfl,h3.far (h.out (λz hz=>by omega)) t,A4.refl _ _,bx.since t (λz hz e=>by omega)⟩
 |some p=>
  obtain⟨k,m,rfl,eb,gi,hk⟩:=Rl H;rw[eb];obtain⟨l,hl,dy,dz⟩:=h3.get hk;obtain⟨pb,poff,f3,e0⟩:=h3.rp k l hl;have cv:w3.heap[rb]?=some (.cells ([Xn r.p.o,Xn r.p.f,.int .i64 r.cls,.int .i64 (r.blocks:Int),Xn r.nums,.slice (some ⟨pb,poff,none⟩) r.ps.length r.pcap,Xn r.opn]:List Value).toArray 112 (0,0)):=by rw[<-f3];exact bz
  have ed:=(List.getElem?_eq_some_iff.1 hl).1;have c0:=XP hk;have e3:=(hok.each _ c0).2.1;simp only at e3
  refine ζf ϱ (ζl cv ϱ (ζi k ϱ (ζk ϱ e0 ϱ (ζw (Ro l w3 dz.ok) ϱ ?_))));rw[dy];refine ζl cv ϱ (ζi k ϱ (ζk ϱ e0 ϱ (ζc ϱ (XkL l i w3 dz.ok) ?_)));rintro _ w5 ⟨l',rfl,a9,ee,aw,f4⟩;refine ζa ϱ ?_;rw[dy] at a9⊢;have c2:=aw.heap' bz;have cw:=aw.heap' ct;have ay:=bx.trans aw;have gj:=aw.size;by_cases hE:Qx p i=0
  ·rw[show B0 x m i=0 from by unfold B0;rw[H];exact hE,show Qj x m i=x.giveAt m p i from by unfold Qj;rw[H];simp only;rw[if_pos hE];rfl,show A3 x pl m i=(if Xu (Z7 p i)=0 then pl.give m else pl) from by unfold A3;rw[H];simp only[hE,true_and];rfl,hE];refine ζf ϱ ?_;have c6:=Cg.of ee (by rw[a9,Xfa];omega);have h5:=h3.grow aw;refine ζl c2 ϱ (ζc ϱ (T8 r k l' w5 h5.rp ed (by rw[h.plen];omega)) ?_);rintro _ w6 ⟨pa',pcap',rfl,aa,b7,ab,f7,M⟩;refine ζa ϱ ?_;have h6:=(h5.grow M).setPage hok.nodup hk a9 (c6.grow M) aa b7 ab;have gk:=M.size;obtain⟨r2,e4⟩:∃r2:RS,r2={r with pa:=pa',pcap:=pcap',ps:=r.ps.set k l'}:=⟨_,rfl⟩;have e5:∀Q:Nat->Prop,(∀z,Q z->z<w3.heap.size)->Z6 Q r->Z6 Q r2:=λQ g ho=>by
    rw[e4];exact ho.setPage (f7.out (λz hz=>by have:=g z hz;omega)) (f4.outS (ho.each l (XP hl)) (λz hz=>by have:=g z hz;omega))
   rw[<-e4] at h6⊢;have eg:∀(z0:Nat),w6.heap.size<=z0->Z6 (λz=>z=z0) r2:=λz0 gl=>h6.out (λz hz=>by omega);refine ζn ϱ λkb w7 e7 ei f8 gm=>ζs ei ϱ λw8 c7 f9 gn=>?_;have ac:=f8.since f9 (λz hz e=>by omega);have h8:=h6.grow ac;have cy:=(ay.trans M).trans ac;have cz:=(M.trans ac).heap' c2;have d0:=(M.trans ac).heap' cw;have d1:=(c6.grow M).grow ac;have ej:Xj (λz=>z=kb) l'.a:=(c6.grow M).lt.out (λz hz=>by omega);have d2:=eg kb (by omega);have b8:Yf p<0↔Xu p=x.blocks:=by rw[Rc,e3]
   refine Xa.fork Xb rfl rfl rfl (λc8=>?_) (λc8=>?_)
   ·have gful:Xu p=x.blocks:=b8.1 (of_decide_eq_true c8);refine Xa.buildSlice Xb rfl ?_;intro b9 w9 e9 fa cn gp;refine ζa rfl ?_;refine Xa.loadb Xb rfl (cn.heap' c7) rfl rfl ?_;have e6:Xl w8.heap.size 3 1 w9 (.slice (some ⟨b9,0,none⟩) 1 1) 1 [.int .i64 (m:Int)]:=Xl.one (by omega) fa;have g3:r2.opn.x.length=x.opn.length:=by rw[h8.e5];simp
    have gq:x.opn.length+1<=512:=by
     have fb:m∉x.opn:=λhm=>((hok.each _ c0).2.2.1 hm) gful;have:(m::x.opn).length<=pl.own.length:=Ku _ _ (List.nodup_cons.2 ⟨fb,hok.onodup⟩) (λz hz=>by
      rcases List.mem_cons.1 hz with rfl|hz
      ·exact(hof _ c0).1
      ·obtain⟨q,hq⟩:=hok.osub z hz;exact(hof _ hq).1)
     simp only[XM] at this;omega
    refine Xa.appendA (base:=w8.heap.size) (xs:=[.int .i64 (m:Int)]) (news:=r2.opn.x.map (Value.int .i64)) Xb rfl e6 cn.size h8.opn.ok.rd.noneA (by simp) (h8.opn.ok.rd.chg cn).cellsA Ij (by simp only;omega) ?_;intro e8 fc ek el g6;have D:=e6.since cn (XE _) el;obtain⟨ol,rfl,du,dv,co⟩:=Xl.il (x:=(m:Int)::r2.opn.x) (v:=e8) (m:=1+r2.opn.x.length) (show Xl w8.heap.size 3 1 fc e8 (1+r2.opn.x.length) (((m:Int)::r2.opn.x).map (Value.int .i64)) from ek) (by simp;omega) (by simp;omega);refine ζa rfl ?_;have fz:=D.size;refine Xa.store Xb rfl (D.heap' c7) rfl rfl ?_;intro W em ba gs;refine ζa rfl ?_;obtain⟨j,R⟩:∃j:RS,j={r2 with opn:=ol}:=⟨_,rfl⟩;have a6:W.heap[kb]?=some (.cells (X3 j).toArray 112 (0,0)):=by rw[R];exact em
    obtain⟨o,ho⟩:∃o,o=(if Xu p=x.blocks then m::x.opn else x.opn):=⟨_,rfl⟩;have d3:o=m::x.opn:=by rw[ho,if_pos gful]
    have en:Xj (λz=>z=kb) ol.a:=by intro b off s e hz;have:=co b off s e;omega
    have a5:Z6 (λz=>z=kb) j:=by rw[R];exact d2.setOpn en
    have A:Y7 W j {x with pg:=Zo x.pg m (Z7 p i),opn:=o} pl:=by
     have d:=a5;rw[R] at d⊢;exact((h8.grow D).setOpn (o:=o) dv (by rw[du,h8.e5,d3];rfl)).far d ba
    have bb:∀Q:Nat->Prop,(∀z,Q z->z<w3.heap.size)->Z6 Q r->Z6 Q j:=λQ g u=>by
     rw[R];exact(e5 Q g u).setOpn (by intro b off s e hz;have:=co b off s e;have:=g b hz;omega)
    have c9:Xc Xe w w6:=ay.trans M;have ad:Xc Xe w W:=(cy.trans D).since ba (λz hz e=>by omega);have az:=ba.heap (D.heap' cz) (show ¬rb=kb by omega);have a7:=ba.heap (D.heap' d0) (show ¬qb=kb by omega);have b0:=(d1.grow D).far ej ba;refine ζw (Xfu l' W b0.ok) ϱ ?_;rw[a9];by_cases hu:Xu (Z7 p i)=0
    ·rw[show(if Xu (Z7 p i)=0 then pl.give m else pl)=pl.give m from if_pos hu];refine ζF ϱ (by rw[hu];rfl) ?_;have af:x.giveAt m p i={x with pg:=Qk x.pg m,opn:=o.filter (λz=>z != m)}:=by unfold Sm.giveAt;simp only;rw[if_pos hu,ho]
     rw[af];refine ζl a6 ϱ (ζc ϱ (T9 j.opn m W A.opn) ?_);rintro _ Wa ⟨bc,rfl,ca,cb,cc,B⟩;refine ζa ϱ ?_;have fd:=B.size;refine ζs (B.heap' a6) ϱ λWb cd ag fe=>?_;have nn:∀{a b:World},Xc Xe a b->Xc (λz=>z=kb) a b:=λh=>h.gr;have bd:=(ad.trans B).since ag (λz hz e=>by omega);have N:=ag.heap (B.heap' az) (show ¬rb=kb by omega);have be:=h.nums.grow bd;have ff:r.nums.x.length=x.pg.length:=by rw[h.e3];simp
     have fg:=h.nums.cap;have fh:=h.pcap;refine ζd 11 Xe (by kernel_rfl) ϱ λc=>δl c N ϱ (Xd.slice Xb c rfl (l:=0) (h:=k) (by first|rfl|omega|simp[B7]) (by first|rfl|omega|simp[B5]) (by omega) (by omega) rfl (δl c N ϱ (δj c ϱ (Xd.slice Xb c rfl (l:=(k+1)) (h:=r.nums.x.length) (by first|rfl|omega|simp[B7]) (by first|rfl|omega|simp[B5]) (by omega) (by omega) rfl ?_))));obtain⟨bf,E⟩:=be.sl (lo:=0) (hi:=k) (XL _) (by omega);obtain⟨bg,F⟩:=be.sl (lo:=k+1) (hi:=r.nums.x.length) (by omega) (XE _);refine Xd.turn1 c rfl λWc bh=>Xp.buildSlice Xb c rfl (λ_=>rfl) λb1 Wd fi d4 d5 fj=>Xd.turn1 c rfl λWe bi=>?_;have bj:Xl Wb.heap.size 3 1 We (.slice (some ⟨b1,0,none⟩) 0 0) 0 []:=Xl.empty (by have:=bh.size;omega) (bi.heap' d4);have S:=(bh.trans d5).trans bi;refine Xp.appendA Xb c rfl (base:=Wb.heap.size) (xs:=[]) (news:=(r.nums.sl 0 k).x.map (Value.int .i64)) bj S.size ((bf.grow S).ok.rd.noneA' E) (XE _) (by rw[XN,E,ZK]) (bf.grow S).ok.rd.cellsA Ij (by simp only;omega) (λ_=>rfl) ?_;intro v2 Wf bk d6 fk;obtain⟨va,vn,vc,rfl⟩:=Xl.isSlice bk;have d7:=bj.since S (XE _) d6;refine δn c ϱ λWg bl=>?_;have ah:=bk.chg bl (λ_ _ h=>h);have T:=d7.trans bl;refine Xa.appendA (base:=Wb.heap.size) (news:=(r.nums.sl (k+1) r.nums.x.length).x.map (Value.int .i64)) Xb rfl ah T.size ((bg.grow T).ok.rd.noneA' F) (by rw[XN,F,ZK]) (bg.grow T).ok.rd.cellsA Ij (by simp only;omega) ?_;intro v3 Wh d8 d9 fm;have K:=ah.since T (XE _) d9;obtain⟨nl,rfl,ce,cf,cg⟩:=Xl.il (x:=(r.nums.sl 0 k).x++(r.nums.sl (k+1) r.nums.x.length).x) (v:=v3) (by rw[XI];exact d8) (by rw[XO,E,F];omega) (by rw[XO,E,F];omega);refine ζa ϱ ?_;have es:=K.size;refine ζs (K.heap' cd) ϱ λWi ch U fn=>?_;have bm:=(bd.trans K).since U (λz hz e=>by omega);have ai:=U.heap (K.heap' N) (show ¬rb=kb by omega);have aj:=h.rp.grow bm;have fo:=h.plen;refine ζd 11 Xe (by kernel_rfl) ϱ λc=>δl c ai ϱ (Xd.slice Xb c rfl (l:=0) (h:=k) (by first|rfl|omega|simp[B7]) (by first|rfl|omega|simp[B5]) (by omega) (by omega) rfl (δl c ai ϱ (δj c ϱ (Xd.slice Xb c rfl (l:=(k+1)) (h:=r.ps.length) (by first|rfl|omega|simp[B7]) (by first|rfl|omega|simp[B5]) (by omega) (by omega) rfl ?_))));have bn:=aj.shift (cap:=r.pcap) (lo:=0) (k:=k) (by omega) h.pcap;have bo:=aj.shift (cap:=r.pcap) (lo:=k+1) (k:=r.ps.length-(k+1)) (by omega) h.pcap;have ak:((r.ps.drop 0).take k).length=k:=by rw[XU,ZY];omega
     have al:((r.ps.drop (k+1)).take (r.ps.length-(k+1))).length=r.ps.length-(k+1):=by rw[XU,ZY];omega
     refine Xd.turn1 c rfl λWj bp=>Xp.buildSlice Xb c rfl (λ_=>rfl) λb4 Wk fp da db fq=>Xd.turn1 c rfl λWl bq=>?_;have br:Xl Wi.heap.size 22 1 Wl (.slice (some ⟨b4,0,none⟩) 0 0) 0 []:=Xl.empty (by have:=bp.size;omega) (bq.heap' da);have V:=(bp.trans db).trans bq;refine Xp.appendA Xb c rfl (base:=Wi.heap.size) (xs:=[]) (news:=((r.ps.drop 0).take k).map Xn) br V.size (λe=>by have:=(bn.grow V).noneA e;omega) (XE _) (by rw[XN,ak];show k=(k-0)*1;omega) (bn.grow V).cellsA Oc (by simp only;omega) (λ_=>rfl) ?_;intro v5 Wm bs dc fr;obtain⟨vd,ve,vf,rfl⟩:=Xl.isSlice bs;have dd:=br.since V (XE _) dc;refine δn c ϱ λWn bt=>?_;have am:=bs.chg bt (λ_ _ h=>h);have a0:=dd.trans bt;refine Xa.appendA (base:=Wi.heap.size) (news:=((r.ps.drop (k+1)).take (r.ps.length-(k+1))).map Xn) Xb rfl am a0.size (λe=>by have:=(bo.grow a0).noneA e;omega) (by rw[XN,al,ZK]) (bo.grow a0).cellsA Oc (by simp only;omega) ?_;intro v6 Wo de df fs;have L:=am.since a0 (XE _) df;obtain⟨dg,b2,rfl,aa,b7,ab,dh⟩:=Xl.pl (ps:=(r.ps.drop 0).take k++(r.ps.drop (k+1)).take (r.ps.length-(k+1))) (v:=v6) (by rw[XI];exact de) (by rw[XO,ak,al];omega);refine ζa ϱ ?_;have ew:=L.size;obtain⟨a1,G⟩:∃a1,a1=(r.ps.drop 0).take k++(r.ps.drop (k+1)).take (r.ps.length-(k+1)):=⟨_,rfl⟩;rw[<-G] at aa ab⊢;refine ζs (L.heap' ch) ϱ λWp an C ft=>?_;have c1:=((ag.trans (nn K)).trans U).trans ((nn L).trans C);have a2:=A.grow B;have di:Q4 Wp j.p pl:=⟨a2.p.o.far a5.o c1,a2.p.f.far a5.f c1,a2.p.eo,a2.p.ef⟩;obtain⟨ao,ci⟩:=hof _ (XP hk);simp only at ao ci
     have fu:=hok.cls;refine ζl an ϱ (ζc ϱ (Xbk j.p m pl Wp di hg ao (by omega)) ?_);rintro _ Wq ⟨rp',rfl,dj,dk,dl,bu⟩;refine ζa ϱ ?_;have fv:=bu.size;refine ζn ϱ λub Wr er dm dn fw=>ζs dm ϱ λWs cj dp fx=>?_;have ap:=dn.since dp (λz hz e=>by omega);have f:=bu.trans ap;refine ζl cj ϱ (ζs (f.heap' an) ϱ λWt O y fy=>?_);obtain⟨P,aq⟩:∃P:RS,P=⟨rp',j.cls,j.blocks,nl,dg,b2,a1,bc⟩:=⟨_,rfl⟩;replace O:Wt.heap[kb]?=some (.cells (X3 P).toArray 112 (0,0)):=by rw[aq];exact O
     have ex:=fd;have ey:Wb.heap.size<=Wp.heap.size:=by have:=C.size;omega
     have ar:∀Q:Nat->Prop,(∀z,Q z->z<W.heap.size)->Z6 Q r->Z6 Q P:=λQ g u=>by
      rw[aq];exact⟨dk.out (λz hz=>by have:=g z hz;omega),dl.out (λz hz=>by have:=g z hz;omega),(by intro b off s e hz;have:=cg b off s e;have:=g b hz;omega),cc.out (λz hz=>g z hz),(by intro b off s e hz;have:=dh b off s e;have:=g b hz;omega),λl2 a3=>u.each l2 (by
       rw[G] at a3;rcases List.mem_append.1 a3 with h1|h1
       ·exact ZD (XT h1)
       ·exact ZD (XT h1))⟩
     have ck:Z6 (λz=>z=kb) r:=h.out (λz hz=>by have:=c9.size;omega);have cl:=ar (λz=>z=kb) (λz hz=>by omega) ck;have c3:=y;have c4:=((nn L).trans C).trans ((nn f).trans y);have bv:=(((bm.trans L).since C (λz hz e=>by omega)).trans f).since y (λz hz e=>by omega);have dr:Y7 Wt P {x with pg:=Qk x.pg m,opn:=o.filter (λz=>z != m)} (pl.give m):=by
      have d:=cl;rw[aq] at d⊢;have a4:=dj.grow ap;refine⟨⟨a4.o.far d.o c3,a4.f.far d.f c3,a4.eo,a4.ef⟩,(cf.far d.nums U).far d.nums c4,(cb.far d.opn c1).far d.opn ((nn f).trans y),(aa.far d.pa C).far d.pa ((nn f).trans y),b7.grow (by have:=C.size;have:=y.size;have:=f.size;omega),ab,λl2 a3=>?_,A.e1,A.e2,?_,?_,?_⟩
      ·have:l2∈r.ps:=by
        have bw:=a3;rw[G] at bw;rcases List.mem_append.1 bw with h1|h1
        ·exact ZD (XT h1)
        ·exact ZD (XT h1)
       exact(h.each l2 this).grow bv
      ·show nl.x=(Qk x.pg m).map _
       rw[ce,Us hok.nodup hk,S9];show(r.nums.x.drop 0).take (k-0)++(r.nums.x.drop (k+1)).take (r.nums.x.length-(k+1))=_
       rw[List.drop_zero,Nat.sub_zero,ZE (i:=r.nums.x.length-(k+1)) (by rw[ZY];omega),h.e3]
      ·show a1.map _=(Qk x.pg m).map _
       rw[G,Us hok.nodup hk,S9,<-h.e4,List.drop_zero,ZE (i:=r.ps.length-(k+1)) (by rw[ZY];omega),XI,QL,QS]
      ·show bc.x=(o.filter _).map _
       rw[ca,A.e5];exact Tb _ _
     have ds:=(c1.trans ((nn f).trans y)).heap (B.heap' a7) (show ¬qb=kb by omega);refine ζl O ϱ ?_;have I:=ds;refine ζs I ϱ λWz J t b6=>?_;have au:Z6 (λz=>z=qb) P:=ar _ (λz hz=>by have:=Xg a7;omega) (h.out (λz hz=>by omega));exact ζR func213 J ϱ ⟨P,rfl,dr.far au t,λQ g u=>ar Q (λz hz=>by have:=g z hz;have:=ad.size;omega) u,bv.since t (λz hz e=>by omega)⟩
    ·rw[show(if Xu (Z7 p i)=0 then pl.give m else pl)=pl from if_neg hu];refine ζy ϱ ?_;have af:x.giveAt m p i={x with pg:=Zo x.pg m (Z7 p i),opn:=o}:=by unfold Sm.giveAt;simp only;rw[if_neg hu,ho]
     rw[af];refine ζl a6 ϱ ?_;have I:=a7;refine ζs I ϱ λWz J t b6=>?_;have au:Z6 (λz=>z=qb) j:=bb _ (λz hz=>by omega) (h.out (λz hz=>by omega));exact ζR func213 J ϱ ⟨j,rfl,A.far au t,λQ g u=>bb Q (λz hz=>by have:=g z hz;omega) u,ad.since t (λz hz e=>by omega)⟩
   ·have gful:¬Xu p=x.blocks:=λe=>by have:=of_decide_eq_false c8;exact this (b8.2 e)
    obtain⟨j,R⟩:∃j:RS,j=r2:=⟨_,rfl⟩;obtain⟨W,hW⟩:∃W,W=w8:=⟨_,rfl⟩;obtain⟨o,ho⟩:∃o,o=(if Xu p=x.blocks then m::x.opn else x.opn):=⟨_,rfl⟩;have d3:o=x.opn:=by rw[ho,if_neg gful]
    have a6:W.heap[kb]?=some (.cells (X3 j).toArray 112 (0,0)):=by rw[hW,R];exact c7
    have a5:Z6 (λz=>z=kb) j:=by rw[R];exact d2
    have A:Y7 W j {x with pg:=Zo x.pg m (Z7 p i),opn:=o} pl:=by rw[hW,R,d3];exact h8
    have bb:∀Q:Nat->Prop,(∀z,Q z->z<w3.heap.size)->Z6 Q r->Z6 Q j:=λQ g u=>by rw[R];exact e5 Q g u
    have c9:=ay.trans M;have ad:Xc Xe w W:=by rw[hW];exact cy
    have az:=cz;have a7:=d0;have b0:=d1;rw[<-hW] at az a7 b0;have dw:∀{X:World->Prop},X W->X w8:=λh=>hW▸h;refine dw (X:=λw2=>Xa _ _ _ _ _ _ _ w2) ?_;have g9:=Xg a6;refine ζw (Xfu l' W b0.ok) ϱ ?_;rw[a9];by_cases hu:Xu (Z7 p i)=0
    ·rw[show(if Xu (Z7 p i)=0 then pl.give m else pl)=pl.give m from if_pos hu];refine ζF ϱ (by rw[hu];rfl) ?_;have af:x.giveAt m p i={x with pg:=Qk x.pg m,opn:=o.filter (λz=>z != m)}:=by unfold Sm.giveAt;simp only;rw[if_pos hu,ho]
     rw[af];refine ζl a6 ϱ (ζc ϱ (T9 j.opn m W A.opn) ?_);rintro _ Wa ⟨bc,rfl,ca,cb,cc,B⟩;refine ζa ϱ ?_;refine ζs (B.heap' a6) ϱ λWb cd ag fe=>?_;have nn:∀{a b:World},Xc Xe a b->Xc (λz=>z=kb) a b:=λh=>h.gr;have bd:=(ad.trans B).since ag (λz hz e=>by omega);have N:=ag.heap (B.heap' az) (show ¬rb=kb by omega);have be:=h.nums.grow bd;have ff:r.nums.x.length=x.pg.length:=by rw[h.e3];simp
     have fg:=h.nums.cap;have fh:=h.pcap;refine ζd 11 Xe (by kernel_rfl) ϱ λc=>δl c N ϱ (Xd.slice Xb c rfl (l:=0) (h:=k) (by first|rfl|omega|simp[B7]) (by first|rfl|omega|simp[B5]) (by omega) (by omega) rfl (δl c N ϱ (δj c ϱ (Xd.slice Xb c rfl (l:=(k+1)) (h:=r.nums.x.length) (by first|rfl|omega|simp[B7]) (by first|rfl|omega|simp[B5]) (by omega) (by omega) rfl ?_))));obtain⟨bf,E⟩:=be.sl (lo:=0) (hi:=k) (XL _) (by omega);obtain⟨bg,F⟩:=be.sl (lo:=k+1) (hi:=r.nums.x.length) (by omega) (XE _);refine Xd.turn1 c rfl λWc bh=>Xp.buildSlice Xb c rfl (λ_=>rfl) λb1 Wd fi d4 d5 fj=>Xd.turn1 c rfl λWe bi=>?_;have bj:Xl Wb.heap.size 3 1 We (.slice (some ⟨b1,0,none⟩) 0 0) 0 []:=Xl.empty (by have:=bh.size;omega) (bi.heap' d4);have S:=(bh.trans d5).trans bi;refine Xp.appendA Xb c rfl (base:=Wb.heap.size) (xs:=[]) (news:=(r.nums.sl 0 k).x.map (Value.int .i64)) bj S.size ((bf.grow S).ok.rd.noneA' E) (XE _) (by rw[XN,E,ZK]) (bf.grow S).ok.rd.cellsA Ij (by simp only;omega) (λ_=>rfl) ?_;intro v2 Wf bk d6 fk;obtain⟨va,vn,vc,rfl⟩:=Xl.isSlice bk;have d7:=bj.since S (XE _) d6;refine δn c ϱ λWg bl=>?_;have ah:=bk.chg bl (λ_ _ h=>h);have T:=d7.trans bl;refine Xa.appendA (base:=Wb.heap.size) (news:=(r.nums.sl (k+1) r.nums.x.length).x.map (Value.int .i64)) Xb rfl ah T.size ((bg.grow T).ok.rd.noneA' F) (by rw[XN,F,ZK]) (bg.grow T).ok.rd.cellsA Ij (by simp only;omega) ?_;intro v3 Wh d8 d9 fm;have K:=ah.since T (XE _) d9;obtain⟨nl,rfl,ce,cf,cg⟩:=Xl.il (x:=(r.nums.sl 0 k).x++(r.nums.sl (k+1) r.nums.x.length).x) (v:=v3) (by rw[XI];exact d8) (by rw[XO,E,F];omega) (by rw[XO,E,F];omega);refine ζa ϱ ?_;have es:=K.size;refine ζs (K.heap' cd) ϱ λWi ch U fn=>?_;have bm:=(bd.trans K).since U (λz hz e=>by omega);have ai:=U.heap (K.heap' N) (show ¬rb=kb by omega);have aj:=h.rp.grow bm;have fo:=h.plen;refine ζd 11 Xe (by kernel_rfl) ϱ λc=>δl c ai ϱ (Xd.slice Xb c rfl (l:=0) (h:=k) (by first|rfl|omega|simp[B7]) (by first|rfl|omega|simp[B5]) (by omega) (by omega) rfl (δl c ai ϱ (δj c ϱ (Xd.slice Xb c rfl (l:=(k+1)) (h:=r.ps.length) (by first|rfl|omega|simp[B7]) (by first|rfl|omega|simp[B5]) (by omega) (by omega) rfl ?_))));have bn:=aj.shift (cap:=r.pcap) (lo:=0) (k:=k) (by omega) h.pcap;have bo:=aj.shift (cap:=r.pcap) (lo:=k+1) (k:=r.ps.length-(k+1)) (by omega) h.pcap;have ak:((r.ps.drop 0).take k).length=k:=by rw[XU,ZY];omega
     have al:((r.ps.drop (k+1)).take (r.ps.length-(k+1))).length=r.ps.length-(k+1):=by rw[XU,ZY];omega
     refine Xd.turn1 c rfl λWj bp=>Xp.buildSlice Xb c rfl (λ_=>rfl) λb4 Wk fp da db fq=>Xd.turn1 c rfl λWl bq=>?_;have br:Xl Wi.heap.size 22 1 Wl (.slice (some ⟨b4,0,none⟩) 0 0) 0 []:=Xl.empty (by have:=bp.size;omega) (bq.heap' da);have V:=(bp.trans db).trans bq;refine Xp.appendA Xb c rfl (base:=Wi.heap.size) (xs:=[]) (news:=((r.ps.drop 0).take k).map Xn) br V.size (λe=>by have:=(bn.grow V).noneA e;omega) (XE _) (by rw[XN,ak];show k=(k-0)*1;omega) (bn.grow V).cellsA Oc (by simp only;omega) (λ_=>rfl) ?_;intro v5 Wm bs dc fr;obtain⟨vd,ve,vf,rfl⟩:=Xl.isSlice bs;have dd:=br.since V (XE _) dc;refine δn c ϱ λWn bt=>?_;have am:=bs.chg bt (λ_ _ h=>h);have a0:=dd.trans bt;refine Xa.appendA (base:=Wi.heap.size) (news:=((r.ps.drop (k+1)).take (r.ps.length-(k+1))).map Xn) Xb rfl am a0.size (λe=>by have:=(bo.grow a0).noneA e;omega) (by rw[XN,al,ZK]) (bo.grow a0).cellsA Oc (by simp only;omega) ?_;intro v6 Wo de df fs;have L:=am.since a0 (XE _) df;obtain⟨dg,b2,rfl,aa,b7,ab,dh⟩:=Xl.pl (ps:=(r.ps.drop 0).take k++(r.ps.drop (k+1)).take (r.ps.length-(k+1))) (v:=v6) (by rw[XI];exact de) (by rw[XO,ak,al];omega);refine ζa ϱ ?_;have ew:=L.size;obtain⟨a1,G⟩:∃a1,a1=(r.ps.drop 0).take k++(r.ps.drop (k+1)).take (r.ps.length-(k+1)):=⟨_,rfl⟩;rw[<-G] at aa ab⊢;refine ζs (L.heap' ch) ϱ λWp an C ft=>?_;have c1:=((ag.trans (nn K)).trans U).trans ((nn L).trans C);have a2:=A.grow B;have di:Q4 Wp j.p pl:=⟨a2.p.o.far a5.o c1,a2.p.f.far a5.f c1,a2.p.eo,a2.p.ef⟩;obtain⟨ao,ci⟩:=hof _ (XP hk);simp only at ao ci
     have fu:=hok.cls;refine ζl an ϱ (ζc ϱ (Xbk j.p m pl Wp di hg ao (by omega)) ?_);rintro _ Wq ⟨rp',rfl,dj,dk,dl,bu⟩;refine ζa ϱ ?_;have fv:=bu.size;refine ζn ϱ λub Wr er dm dn fw=>ζs dm ϱ λWs cj dp fx=>?_;have ap:=dn.since dp (λz hz e=>by omega);have f:=bu.trans ap;refine ζl cj ϱ (ζs (f.heap' an) ϱ λWt O y fy=>?_);obtain⟨P,aq⟩:∃P:RS,P=⟨rp',j.cls,j.blocks,nl,dg,b2,a1,bc⟩:=⟨_,rfl⟩;replace O:Wt.heap[kb]?=some (.cells (X3 P).toArray 112 (0,0)):=by rw[aq];exact O
     have ex:=B.size;have ey:Wb.heap.size<=Wp.heap.size:=by have:=C.size;omega
     have ar:∀Q:Nat->Prop,(∀z,Q z->z<W.heap.size)->Z6 Q r->Z6 Q P:=λQ g u=>by
      rw[aq];exact⟨dk.out (λz hz=>by have:=g z hz;omega),dl.out (λz hz=>by have:=g z hz;omega),(by intro b off s e hz;have:=cg b off s e;have:=g b hz;omega),cc.out (λz hz=>g z hz),(by intro b off s e hz;have:=dh b off s e;have:=g b hz;omega),λl2 a3=>u.each l2 (by
       rw[G] at a3;rcases List.mem_append.1 a3 with h1|h1
       ·exact ZD (XT h1)
       ·exact ZD (XT h1))⟩
     have ck:Z6 (λz=>z=kb) r:=h.out (λz hz=>by have:=c9.size;omega);have cl:=ar (λz=>z=kb) (λz hz=>by omega) ck;have c3:=y;have c4:=((nn L).trans C).trans ((nn f).trans y);have bv:=(((bm.trans L).since C (λz hz e=>by omega)).trans f).since y (λz hz e=>by omega);have dr:Y7 Wt P {x with pg:=Qk x.pg m,opn:=o.filter (λz=>z != m)} (pl.give m):=by
      have d:=cl;rw[aq] at d⊢;have a4:=dj.grow ap;refine⟨⟨a4.o.far d.o c3,a4.f.far d.f c3,a4.eo,a4.ef⟩,(cf.far d.nums U).far d.nums c4,(cb.far d.opn c1).far d.opn ((nn f).trans y),(aa.far d.pa C).far d.pa ((nn f).trans y),b7.grow (by have:=C.size;have:=y.size;have:=f.size;omega),ab,λl2 a3=>?_,A.e1,A.e2,?_,?_,?_⟩
      ·have:l2∈r.ps:=by
        have bw:=a3;rw[G] at bw;rcases List.mem_append.1 bw with h1|h1
        ·exact ZD (XT h1)
        ·exact ZD (XT h1)
       exact(h.each l2 this).grow bv
      ·show nl.x=(Qk x.pg m).map _
       rw[ce,Us hok.nodup hk,S9];show(r.nums.x.drop 0).take (k-0)++(r.nums.x.drop (k+1)).take (r.nums.x.length-(k+1))=_
       rw[List.drop_zero,Nat.sub_zero,ZE (i:=r.nums.x.length-(k+1)) (by rw[ZY];omega),h.e3]
      ·show a1.map _=(Qk x.pg m).map _
       rw[G,Us hok.nodup hk,S9,<-h.e4,List.drop_zero,ZE (i:=r.ps.length-(k+1)) (by rw[ZY];omega),XI,QL,QS]
      ·show bc.x=(o.filter _).map _
       rw[ca,A.e5];exact Tb _ _
     have ds:=(c1.trans ((nn f).trans y)).heap (B.heap' a7) (show ¬qb=kb by omega);refine ζl O ϱ ?_;have I:=ds;refine ζs I ϱ λWz J t b6=>?_;have au:Z6 (λz=>z=qb) P:=ar _ (λz hz=>by have:=Xg a7;omega) (h.out (λz hz=>by omega));exact ζR func213 J ϱ ⟨P,rfl,dr.far au t,λQ g u=>ar Q (λz hz=>by have:=g z hz;have:=ad.size;omega) u,bv.since t (λz hz e=>by omega)⟩
    ·rw[show(if Xu (Z7 p i)=0 then pl.give m else pl)=pl from if_neg hu];refine ζy ϱ ?_;have af:x.giveAt m p i={x with pg:=Zo x.pg m (Z7 p i),opn:=o}:=by unfold Sm.giveAt;simp only;rw[if_neg hu,ho]
     rw[af];refine ζl a6 ϱ ?_;have I:=a7;refine ζs I ϱ λWz J t b6=>?_;have au:Z6 (λz=>z=qb) j:=bb _ (λz hz=>by omega) (h.out (λz hz=>by omega));exact ζR func213 J ϱ ⟨j,rfl,A.far au t,λQ g u=>bb Q (λz hz=>by have:=g z hz;omega) u,ad.since t (λz hz e=>by omega)⟩
  ·rw[show B0 x m i=Qx p i from by unfold B0;rw[H],show Qj x m i=x from by unfold Qj;rw[H];simp only;rw[if_neg hE],show A3 x pl m i=pl from by unfold A3;rw[H];simp only;rw[if_neg (λh=>hE h.1)]];refine ζY ϱ (show(Qx p i != 0)=true by simpa using hE) (ζl c2 ϱ ?_);have I:=cw;refine ζs I ϱ λWz J t b6=>?_;exact ζR func213 J ϱ ⟨r,rfl,(h3.grow aw).far (h.out (λz hz=>by omega)) t,A4.refl _ _,ay.since t (λz hz e=>by omega)⟩
def Em(n q:Int):Int:=if n<1\/q<1 then 0 else n/q
theorem Ve{n q:Int}(h:1<=n)(h':1<=q):Em n q=n/q:=by unfold Em;rw[if_neg (by omega)]
theorem Xcq{n q:Int}(h:n<1\/q<1):Em n q=0:=by unfold Em;rw[if_pos h]
theorem XgX(x:Int)(w:World):Xf prog 261 #[.int .i64 x] w (Za (.bool (decide (x<1))) w):=by
 exact ζe func261 ntmps261 ϱ (ζr func261 ϱ ⟨rfl,rfl⟩)
theorem Xm6(x y:Int)(w:World):Xf prog 260 #[.int .i64 x,.int .i64 y,.func (.func 261) #[] #[]] w (Za (.bool (decide (x<1\/y<1))) w):=by
 refine ζe func260 ntmps260 ϱ (ζw (XgX x w) ϱ (ζg ϱ (λh=>?_) λh=>?_))
 ·exact ζr func260 ϱ ⟨Ai (by simp at h;simp[h]),rfl⟩
 ·exact ζw (XgX y w) ϱ (ζr func260 ϱ ⟨Ai (by simp at h;simp[show ¬x<1 from by omega]),rfl⟩)
theorem XgW(x y:Int)(w:World):Xf prog 231 #[.int .i64 x,.int .i64 y] w (Za (.bool (decide (x<1\/y<1))) w):=by
 exact ζe func231 ntmps231 ϱ (ζw (Xm6 x y w) ϱ (ζr func231 ϱ ⟨rfl,rfl⟩))
theorem Xm5(n q:Int)(w:World)(hn:n<=9223372036854775807):Xf prog 189 #[.int .i64 n,.int .i64 q] w (Za (.int .i64 (Em n q)) w):=by
 refine ζe func189 ntmps189 ϱ (ζw (XgW n q w) ϱ (ζg ϱ (λh=>?_) λh=>?_))
 ·exact ζr func189 ϱ ⟨X0 (Xcq (by simpa using h)).symm,rfl⟩
 ·have a:1<=n/\1<=q:=by simp at h;omega
  exact Xa.div Xb rfl (by omega) (Fy (by omega) (by omega)) rfl (ζr func189 ϱ ⟨X0 (Ve a.1 a.2).symm,rfl⟩)
theorem XkB(n q:Int)(w:World)(hn:n<=9223372036854775807):Xf prog 110 #[.int .i64 n,.int .i64 q] w (Za (.int .i64 (Em n q)) w):=by
 refine ζe func110 ntmps110 ϱ (ζg ϱ (λh=>?_) λh=>?_)
 ·exact ζr func110 ϱ ⟨X0 (Xcq (.inl (by simpa using h))).symm,rfl⟩
 ·refine ζg ϱ (λa=>?_) λa=>?_
  ·exact ζr func110 ϱ ⟨X0 (Xcq (.inr (by simpa using a))).symm,rfl⟩
  ·have b:1<=n/\1<=q:=by simp at h a;omega
   exact Xa.div Xb rfl (by omega) (Fy (by omega) (by omega)) rfl (ζr func110 ϱ ⟨X0 (Ve b.1 b.2).symm,rfl⟩)
def Z2(n q:Int):Int:=if n<1\/q<1 then 0 else (n-1)/q+1
theorem Xm4(n q:Int)(w:World)(hn:n<=9223372036854775807):Xf prog 198 #[.int .i64 n,.int .i64 q] w (Za (.int .i64 (Z2 n q)) w):=by
 refine ζe func198 ntmps198 ϱ (ζw (XgW n q w) ϱ (ζg ϱ (λh=>?_) λh=>?_))
 ·have:Z2 n q=0:=by unfold Z2;rw[if_pos (by simpa using h)]
  exact ζr func198 ϱ ⟨X0 this.symm,rfl⟩
 ·have a:1<=n/\1<=q:=by simp at h;omega
  have:Z2 n q=(n-1)/q+1:=by unfold Z2;rw[if_neg (by omega)]
  have b:0<=(n-1)/q:=ZX (by omega) (by omega);have c:(n-1)/q<=n-1:=YE _ (by omega);exact ζj ϱ (Xa.div Xb rfl (by omega) (Fy (by omega) (by omega)) rfl (ζj ϱ (ζr func198 ϱ ⟨X0 this.symm,rfl⟩)))
theorem XjB{n q:Int}(h1:1<=n)(h2:1<=q):Z2 n q=if 0<n%q then n/q+1 else n/q:=by
 have a:Z2 n q=(n-1)/q+1:=by unfold Z2;rw[if_neg (by omega)]
 have c:=Int.mul_ediv_add_emod n q;have d:=Int.emod_nonneg n (show q≠0 by omega);have b:=Int.emod_lt_of_pos n (show 0<q by omega);rw[a];split
 ·have:(n-1)/q=n/q:=((Int.ediv_emod_unique (show 0<q by omega)).2 ⟨(show(n%q-1)+q*(n/q)=n-1 by omega),by omega,by omega⟩).1;omega
 ·have e:q*(n/q-1)=q*(n/q)-q:=by rw[Int.mul_sub,Int.mul_one]
  have:(n-1)/q=n/q-1:=((Int.ediv_emod_unique (show 0<q by omega)).2 ⟨(show(q-1)+q*(n/q-1)=n-1 by omega),by omega,by omega⟩).1;omega
theorem Xfo(n q:Int)(w:World)(hn:n<=9223372036854775807):Xf prog 58 #[.int .i64 n,.int .i64 q] w (Za (.int .i64 (Z2 n q)) w):=by
 refine ζe func58 ntmps58 ϱ (ζg ϱ (λh=>?_) λh=>?_)
 ·exact ζr func58 ϱ ⟨X0 (by unfold Z2;rw[if_pos (.inl (by simpa using h))]),rfl⟩
 ·refine ζg ϱ (λb=>?_) λb=>?_
  ·exact ζr func58 ϱ ⟨X0 (by unfold Z2;rw[if_pos (.inr (by simpa using b))]),rfl⟩
  ·have c:1<=n/\1<=q:=by simp at h b;omega
   rw[XjB c.1 c.2];have d:0<=n/q:=ZX (by omega) (by omega);have e:n/q<=n:=YE _ (by omega);refine Xa.div Xb rfl (by omega) (E9 (by omega)) rfl (ζg ϱ (λa=>?_) λa=>?_)
   ·rw[if_pos (of_decide_eq_true a)];have f:n/q<n:=by
     have g:=Int.mul_ediv_add_emod n q;have i:=of_decide_eq_true a;have j:=ZA c.2 d;omega
    exact Xa.div Xb rfl (by omega) (Fy (by omega) (by omega)) rfl (ζj ϱ (ζr func58 ϱ ⟨rfl,rfl⟩))
   ·rw[if_neg (of_decide_eq_false a)];exact Xa.div Xb rfl (by omega) (Fy (by omega) (by omega)) rfl (ζr func58 ϱ ⟨rfl,rfl⟩)
theorem Xgf(a:Option Addr)(cap fk:Nat)(zs:List Int)(caps:List Value)(p:Int->Bool)(w:World)(hr:Rd .i64 w a zs)(hl:zs.length<=9223372036854775807)(hf:∀x,x∈zs->Xf prog fk (.int .i64 x::caps).toArray w (Za (.bool (p x)) w)):Xf prog 112 #[.slice a zs.length cap,.func (.func fk) #[] caps.toArray] w (Za (.int .i64 (idx p zs)) w):=by
 refine ζe func112 ntmps112 ϱ ?_;refine Xa.loop (α:=Nat) (λk=>[(0,false,.slice a zs.length cap),(1,false,.func (.func fk) #[] caps.toArray),(7,false,.int .i64 zs.length),(8,false,.int .i64 k)])
  (λk w'=>w'=w/\k<=zs.length/\∀j (h:j<zs.length),j<k->p zs[j]=false) (λk=>zs.length-k) 0 ⟨rfl,rfl,rfl,rfl,trivial⟩ ⟨rfl,XL _,λ_ _ h=>by omega⟩ ?_
 rintro k o ⟨i,q,d⟩ ih;refine ζa ϱ (ζg ϱ (λh=>?_) λh=>?_)
 ·have c:k<zs.length:=by simpa using h
  obtain⟨b,off,rfl,l⟩:=hr k c;rw[Gp c] at l;subst i;refine ζi k ϱ (ζk ϱ l ϱ (ζw (hf _ (XK c)) ϱ (ζg ϱ (λf=>?_) λf=>?_)))
  ·exact ζr func112 ϱ ⟨X0 (I5 c d f).symm,rfl⟩
  ·refine ζj ϱ ?_;exact ih (k+1) _ _ ⟨rfl,c,λj g m=>by
    by_cases e:j=k
    ·subst e;exact f
    ·exact d j g (by omega)⟩ (by omega) ⟨rfl,rfl,rfl,rfl,trivial⟩
 ·have n:k=zs.length:=by simp at h;omega
  subst i;exact ζr func112 ϱ ⟨X0 (Hl (λj g=>d j g (by omega))).symm,rfl⟩
theorem Xge(a:Option Addr)(cap fk:Nat)(zs:List Int)(caps:List Value)(p:Int->Bool)(w:World)(hr:Rd .i64 w a zs)(hl:zs.length<=9223372036854775807)(hf:∀x,x∈zs->Xf prog fk (.int .i64 x::caps).toArray w (Za (.bool (p x)) w)):Xf prog 128 #[.slice a zs.length cap,.func (.func fk) #[] caps.toArray] w (Za (.bool (zs.any p)) w):=by
 exact ζe func128 ntmps128 ϱ (ζw (Xgf a cap fk zs caps p w hr hl hf) ϱ (ζr func128 ϱ ⟨Ai (by rw[Bool.eq_iff_iff];simp only[decide_eq_true_eq];exact Xau),rfl⟩))
theorem Xmf(a:Option Addr)(cap:Nat)(bs:List Bool)(x:Bool)(w:World)(hr:Eo w a bs)(hl:bs.length<=9223372036854775807):Xf prog 182 #[.slice a bs.length cap,.bool x] w (Za (.int .i64 (idx (λy=>x == y) bs)) w):=by
 refine ζe func182 ntmps182 ϱ ?_;refine Xa.loop (α:=Nat) (λk=>[(0,false,.slice a bs.length cap),(1,false,.bool x),(7,false,.int .i64 bs.length),(8,false,.int .i64 k)])
  (λk w'=>w'=w/\k<=bs.length/\∀j (h:j<bs.length),j<k->(x == bs[j])=false) (λk=>bs.length-k) 0 ⟨rfl,rfl,rfl,rfl,trivial⟩ ⟨rfl,XL _,λ_ _ h=>by omega⟩ ?_
 rintro k o ⟨i,q,c⟩ ih;refine ζa ϱ (ζg ϱ (λh=>?_) λh=>?_)
 ·have d:k<bs.length:=by simpa using h
  obtain⟨b,off,rfl,l⟩:=hr k d;subst i;refine ζi k ϱ (ζk ϱ l ϱ (ζg ϱ (λf=>?_) λf=>?_))
  ·exact ζr func182 ϱ ⟨X0 (I5 (p:=λy=>x == y) d c f).symm,rfl⟩
  ·refine ζj ϱ ?_;exact ih (k+1) _ _ ⟨rfl,d,λj g m=>by
    by_cases e:j=k
    ·subst e;exact f
    ·exact c j g (by omega)⟩ (by omega) ⟨rfl,rfl,rfl,rfl,trivial⟩
 ·have n:k=bs.length:=by simp at h;omega
  subst i;exact ζr func182 ϱ ⟨X0 (Hl (p:=λy=>x == y) (λj g=>c j g (by omega))).symm,rfl⟩
theorem Xmc(a:Option Addr)(cap:Nat)(bs:List Bool)(x:Bool)(w:World)(hr:Eo w a bs)(hl:bs.length<=9223372036854775807):Xf prog 130 #[.slice a bs.length cap,.bool x] w (Za (.bool (bs.any λy=>x == y)) w):=by
 exact ζe func130 ntmps130 ϱ (ζw (Xmf a cap bs x w hr hl) ϱ (ζr func130 ϱ ⟨Ai (by rw[Bool.eq_iff_iff];simp only[decide_eq_true_eq];exact Xau),rfl⟩))
def Gu(page:Int):Int->List Int->Bool
 |_,[]=>true
 |ahead,n::r=>decide (8<=n) && (n%8 == 0) && decide (n<=page) && decide (ahead<n) && Gu page n r
def Ax(zs:List Int)(page:Int):Bool:=decide (0<zs.length) && decide (zs.length<=16) && Gu page 0 zs
def Hg(zs:List Int)(page:Int):Int:=if Ax zs page then 0 else 1
theorem XeX{page:Int}(h:k<zs.length):Gu page ahead (zs.drop k)=(decide (8<=zs[k]) && (zs[k]%8 == 0) && decide (zs[k]<=page) && decide (ahead<zs[k]) && Gu page zs[k] (zs.drop (k+1))):=by
 rw[ZS h];rfl
theorem XeY{page:Int}(h:zs.length<=k):Gu page ahead (zs.drop k)=true:=by
 rw[List.drop_eq_nil_of_le h];rfl
theorem Hh{page:Int}(h:Ax zs page=false):Hg zs page=1:=by unfold Hg;rw[h];rfl
theorem Xdf{page:Int}(h:Ax zs page=true):Hg zs page=0:=by unfold Hg;rw[h];rfl
theorem XaU{page:Int}:∀{zs:List Int} {ahead:Int},Gu page ahead zs=true -> ∀i (h:i<zs.length),8<=zs[i]/\zs[i]%8=0/\zs[i]<=page/\ahead<zs[i]/\∀j (hj:j<i),zs[j]<zs[i]
 |n::r,ahead,h,i,hi=>by
  simp only[Gu,XJ,decide_eq_true_eq,beq_iff_eq] at h;obtain⟨⟨⟨⟨a,b⟩,c⟩,d⟩,e⟩:=h;cases i with
  |zero=>exact⟨a,b,c,d,λj hj=>by omega⟩
  |succ i=>
   obtain⟨f,g,k,l,m⟩:=XaU e i (by simpa using hi);refine⟨f,g,k,by simp only[List.getElem_cons_succ];omega,λj hj=>?_⟩;cases j with
   |zero=>exact l
   |succ j=>exact m j (by omega)
theorem Nk{page:Int}(h:Ax zs page=true):0<zs.length/\zs.length<=16:=by
 unfold Ax at h;simp only[XJ,decide_eq_true_eq] at h;exact h.1
theorem Pc{page:Int}(h:Ax zs page=true)(i:Nat)(hi:i<zs.length):8<=zs.getD i 0/\zs.getD i 0%8=0/\zs.getD i 0<=page:=by
 unfold Ax at h;simp only[XJ,decide_eq_true_eq] at h;obtain⟨a,b,c,_⟩:=XaU h.2 i hi;rw[Gp hi];exact⟨a,b,c⟩
theorem Xdg{page:Int}(h:Ax zs page=true)(i:Nat)(hi:i+1<zs.length):zs.getD i 0<zs.getD (i+1) 0:=by
 unfold Ax at h;simp only[XJ,decide_eq_true_eq] at h;obtain⟨_,_,_,_,g⟩:=XaU h.2 (i+1) hi;rw[Gp hi,Gp (show i<zs.length by omega)];exact g i (by omega)
theorem Xim(a:Option Addr)(cap:Nat)(zs:List Int)(page:Int)(w:World)(hr:Rd .i64 w a zs)(hl:zs.length<=9223372036854775807):Xf prog 127 #[.slice a zs.length cap,.int .i64 page] w (Za (.int .i64 (Hg zs page)) w):=by
 refine ζe func127 ntmps127 ϱ (ζg ϱ (λl=>?_) λl=>?_)
 ·have d:0<zs.length:=by simpa using l
  by_cases f:zs.length<=16
  ·refine Xa.knowB (t:=5) rfl (decide_eq_true (by omega)) ?_;have p:Ax zs page=Gu page 0 (zs.drop 0):=by unfold Ax;rw[decide_eq_true d,decide_eq_true f];simp
   refine Xa.loop (α:=Nat×Int) (λx=>[(0,false,.slice a zs.length cap),(1,false,.int .i64 page),(5,true,.bool true),(6,false,.int .i64 x.2),(17,false,.slice a zs.length cap),(18,false,.int .i64 zs.length),(19,false,.int .i64 x.1)])
    (λx w'=>w'=w/\x.1<=zs.length/\Ax zs page=Gu page x.2 (zs.drop x.1)) (λx=>zs.length-x.1) (0,0) ⟨rfl,rfl,rfl,rfl,rfl,rfl,rfl,trivial⟩ ⟨rfl,XL _,p⟩ ?_
   rintro⟨k,ahead⟩ v ⟨r,s,e⟩ ih;simp only at s e
   subst r;refine ζa ϱ (ζg ϱ (λh=>?_) λh=>?_)
   ·have g:k<zs.length:=by simpa using h
    rw[XeX g] at e;obtain⟨b,off,rfl,c⟩:=hr k g;rw[Gp g] at c;refine ζi k ϱ (ζk ϱ c ϱ (ζg ϱ (λi=>?_) λi=>?_))
    ·have u:=of_decide_eq_true i;refine Xa.div Xb rfl (by omega) (E9 (by omega)) rfl (ζg ϱ (λm=>?_) λm=>?_)
     ·refine ζg ϱ (λn=>?_) λn=>?_
      ·refine ζg ϱ (λo=>?_) λo=>?_
       ·have j:¬ahead<zs[k]:=by simpa using o
        exact ζy ϱ (ζr func127 ϱ ⟨X0 (Hh (by rw[e,decide_eq_false j];simp)).symm,rfl⟩)
       ·have j:ahead<zs[k]:=by simpa using o
        exact ζj ϱ (ih (k+1,zs[k]) _ _ ⟨rfl,g,by rw[e,decide_eq_true j,show decide (zs[k]<=page)=true from n,m,decide_eq_true u];rfl⟩ (by simp only;omega) ⟨rfl,rfl,Xib (decide_eq_true j),rfl,rfl,rfl,rfl,trivial⟩)
      ·exact ζr func127 ϱ ⟨X0 (Hh (by rw[e,show decide (zs[k]<=page)=false from n];simp)).symm,rfl⟩
     ·exact ζr func127 ϱ ⟨X0 (Hh (by rw[e,m];simp)).symm,rfl⟩
    ·exact ζr func127 ϱ ⟨X0 (Hh (by rw[e,show decide (8<=zs[k])=false from i];simp)).symm,rfl⟩
   ·have q:zs.length<=k:=by have:=of_decide_eq_false h;omega
    exact ζr func127 ϱ ⟨X0 (Xdf (by rw[e,XeY q])).symm,rfl⟩
  ·refine Xa.knowB (t:=5) rfl (decide_eq_false (by omega)) (Xa.unroll Xb rfl (ζy ϱ ?_));obtain⟨b,off,rfl,c⟩:=hr 0 d;rw[Gp d] at c;exact ζi 0 ϱ (ζk ϱ c ϱ (ζr func127 ϱ ⟨X0 (Hh (by unfold Ax;rw[decide_eq_false f];simp)).symm,rfl⟩))
 ·have d:¬0<zs.length:=by have i:=of_decide_eq_false l;omega
  exact Xa.unroll Xb rfl (ζf ϱ (ζr func127 ϱ ⟨X0 (Hh (by unfold Ax;rw[decide_eq_false d];simp)).symm,rfl⟩))
def Kz(zs:List Int)(k:Nat):Int:=if k=0 then 0 else zs.getD (k-1) 0
theorem Xfj(h:k<zs.length):Kz zs (k+1)=zs[k]:=by simp[Kz,h]
theorem XeZ{page n:Int}{r:List Int}(h1:8<=n)(h2:n%8=0)(h3:n<=page)(h4:ahead<n):(decide (8<=n) && (n%8 == 0) && decide (n<=page) && decide (ahead<n) && Gu page n r)=Gu page n r:=by
 rw[decide_eq_true h1,decide_eq_true h3,decide_eq_true h4,show(n%8 == 0)=true from by simpa using h2];rfl
theorem XkC(a:Option Addr)(cap:Nat)(zs:List Int)(page:Int)(w:World)(hr:Rd .i64 w a zs)(hl:zs.length<=9223372036854775807):Xf prog 83 #[.slice a zs.length cap,.int .i64 page] w (Grow (.int .i64 (Hg zs page)) w):=by
 refine ζe func83 ntmps83 ϱ (ζg ϱ (λo=>?_) λo=>?_)
 ·have y:zs.length=0:=by have:=of_decide_eq_true o;omega
  exact ζr func83 ϱ ⟨X0 (Hh (by unfold Ax;rw[decide_eq_false (by omega)];simp)).symm,Xc.refl _ _⟩
 ·have y:¬zs.length=0:=by have:=of_decide_eq_false o;omega
  refine ζg ϱ (λp=>?_) λp=>?_
  ·have z:=of_decide_eq_true p;exact ζr func83 ϱ ⟨X0 (Hh (by unfold Ax;rw[decide_eq_false (show ¬zs.length<=16 from by omega)];simp)).symm,Xc.refl _ _⟩
  ·have z:=of_decide_eq_false p;have u:Ax zs page=Gu page (Kz zs 0) (zs.drop 0):=by unfold Ax;rw[decide_eq_true (by omega),decide_eq_true (by omega)];simp[Kz]
   refine Xa.loop (α:=Nat) (λk=>[(0,false,.slice a zs.length cap),(1,false,.int .i64 page),(5,false,.int .i64 k)])
    (λk w'=>Xc Xe w w'/\k<=zs.length/\Ax zs page=Gu page (Kz zs k) (zs.drop k)) (λk=>zs.length-k) 0 ⟨rfl,rfl,rfl,trivial⟩ ⟨Xc.refl _ _,XL _,u⟩ ?_
   rintro k C ⟨f,D,g⟩ ih;refine ζa ϱ (ζg ϱ (λh=>?_) λh=>?_)
   ·have e:k<zs.length:=by simpa using h
    rw[XeX e] at g;have n:=hr.chg f;obtain⟨b,off,rfl,d⟩:=n k e;rw[Gp e] at d;refine Xa.quiet rfl Xo (by kernel_rfl) (Xi.adv Xb rfl (Xi.index Xb rfl (j:=k) (by omega) (by omega) (by first|rfl|omega|(simp;done)|(simp;omega)) rfl (Xi.load Xb rfl d rfl ?_)));refine Xi.fork Xb rfl rfl rfl (λq=>?_) (λq=>?_)
    ·exact Xi.nil λl c=>ζa ϱ (ζr func83 ϱ ⟨X0 (Hh (by rw[g,decide_eq_false (show ¬8<=zs[k] from by have:=of_decide_eq_true q;omega)];simp)).symm,f.trans c⟩)
    ·have E:=of_decide_eq_false q;refine Xi.index Xb rfl (j:=k) (by omega) (by omega) (by first|rfl|omega|(simp;done)|(simp;omega)) rfl (Xi.load Xb rfl d rfl (Xi.div Xb rfl (by omega) (E9 (by omega)) rfl ?_));refine Xi.fork Xb rfl rfl rfl (λm=>?_) (λm=>?_)
     ·exact Xi.nil λl c=>ζa ϱ (ζr func83 ϱ ⟨X0 (Hh (by rw[g,show(zs[k]%8 == 0)=false from by simpa using m];simp)).symm,f.trans c⟩)
     ·refine Xi.index Xb rfl (j:=k) (by omega) (by omega) (by first|rfl|omega|(simp;done)|(simp;omega)) rfl (Xi.load Xb rfl d rfl ?_);refine Xi.fork Xb rfl rfl rfl (λr=>?_) (λr=>?_)
      ·exact Xi.nil λl c=>ζa ϱ (ζr func83 ϱ ⟨X0 (Hh (by rw[g,decide_eq_false (show ¬zs[k]<=page from by have:=of_decide_eq_true r;omega)];simp)).symm,f.trans c⟩)
      ·have F:=of_decide_eq_false r;refine Xi.fork Xb rfl rfl rfl (λs=>?_) (λs=>?_)
       ·have v:=of_decide_eq_true s;obtain⟨b',off',e',i⟩:=n (k-1) (by omega);simp only[Option.some.injEq,Addr.mk.injEq] at e';obtain⟨rfl,rfl,_⟩:=e';have A:Kz zs k=zs.getD (k-1) 0:=by unfold Kz;rw[if_neg (by omega)]
        refine Xi.index Xb rfl (j:=k) (by omega) (by omega) (by first|rfl|omega|(simp;done)|(simp;omega)) rfl (Xi.load Xb rfl d rfl (Xi.arith Xb rfl (w64 (by omega)) rfl (Xi.index Xb rfl (j:=(k-1)) (by omega) (by omega) (by first|rfl|omega|(simp;done)|(simp;omega)) rfl (Xi.load Xb rfl i rfl (Xi.nil λl c=>ζa ϱ (ζg ϱ (λt=>?_) λt=>?_))))))
        ·have B:=of_decide_eq_true t;exact ζr func83 ϱ ⟨X0 (Hh (by rw[g,A,decide_eq_false (show ¬zs.getD (k-1) 0<zs[k] from by omega)];simp)).symm,f.trans c⟩
        ·have B:=of_decide_eq_false t;exact ζj ϱ (ih (k+1) _ _ ⟨f.trans c,e,by rw[g,XeZ (by omega) (by simpa using m) (by omega) (by omega),Xfj e]⟩ (by omega) ⟨rfl,rfl,rfl,trivial⟩)
       ·have v:k=0:=by have:=of_decide_eq_false s;omega
        subst v;exact Xi.nil λl c=>ζa ϱ (ζj ϱ (ih 1 _ _ ⟨f.trans c,e,by rw[g,XeZ (by omega) (by simpa using m) (by omega) (by simp[Kz];omega),Xfj e]⟩ (by omega) ⟨rfl,rfl,rfl,trivial⟩))
   ·have x:zs.length<=k:=by have:=of_decide_eq_false h;omega
    exact ζr func83 ϱ ⟨X0 (Xdf (by rw[g,XeY x])).symm,f⟩
structure Conf where
 size:Int
 pages:Int
 classes:List Int
 keep:List Int
 step:Int
 slots:Int
 gens:Int
 most:Int
structure Yu where
 ca:Option Addr
 cc:Nat
 ka:Option Addr
 kc:Nat
def Zj(c:Conf)(p:Yu):List Value:=
 [.int .i64 c.size,.int .i64 c.pages,.slice p.ca c.classes.length p.cc,.slice p.ka c.keep.length p.kc,.int .i64 c.step,.int .i64 c.slots,.int .i64 c.gens,.int .i64 c.most]
def Ld(x:Int):Prop:=-9223372036854775808<=x/\x<=9223372036854775807
structure Ys(w:World)(c:Conf)(p:Yu):Prop where
 classes:Rd .i64 w p.ca c.classes
 keep:Rd .i64 w p.ka c.keep
 lc:c.classes.length<=9223372036854775807
 lk:c.keep.length<=9223372036854775807
 size:Ld c.size
theorem Ys.chg{w w':World}{c:Conf}{p:Yu}(h:Ys w c p)(hw:Xc Xe w w'):Ys w' c p:=
 ⟨h.classes.chg hw,h.keep.chg hw,h.lc,h.lk,h.size⟩
def Ek(n:Int):Bool:=decide (64<=n) && decide (n<=4096) && (n%8 == 0)
def Dp(c:Conf):Int:=if Ek c.size then c.size*(c.size/8) else 0
def Qi(c:Conf)(k:Int):Int:=if 0<=k/\k<c.classes.length then Em c.size (c.classes.getD k.toNat 0) else 0
def C2(c:Conf):Int:=if c.classes.length=0 then 0 else c.classes.getD (c.classes.length-1) 0
def Qv(n a b:Int):Bool:=decide (a<=n) && decide (n<=b)
def I6(k:Int):Bool:=!Qv k 0 1024
def X6(c:Conf):Bool:=
 Ek c.size && Qv c.pages 1 1024 && Ax c.classes c.size && (decide (c.keep.length=c.classes.length) && !c.keep.any I6) && Qv c.step 1 65536 && Qv c.slots 1 4096 && Qv c.gens 1 1023 && Qv c.most 1 (Dp c)
def Bo(c:Conf):Int:=if X6 c then 0 else 1
theorem K5{n:Int}:Ek n=true↔64<=n/\n<=4096/\n%8=0:=by
 unfold Ek;simp[and_assoc]
theorem Lp(n a b:Int)(w:World):Xf prog 125 #[.int .i64 n,.int .i64 a,.int .i64 b] w (Za (.bool (Qv n a b)) w):=by
 refine ζe func125 ntmps125 ϱ (ζg ϱ (λh=>?_) λh=>?_)
 ·exact ζr func125 ϱ ⟨Ai (by unfold Qv;rw[show decide (a<=n)=true from h];rfl),rfl⟩
 ·exact ζr func125 ϱ ⟨Ai (by unfold Qv;rw[show decide (a<=n)=false from h];rfl),rfl⟩
theorem Xdp(n:Int)(w:World):Xf prog 126 #[.int .i64 n] w (Za (.bool (Ek n)) w):=by
 refine ζe func126 ntmps126 ϱ (ζw (Lp n 64 4096 w) ϱ (ζg ϱ (λh=>?_) λh=>?_))
 ·have a:0<=n:=by unfold Qv at h;simp at h;omega
  exact Xa.div Xb rfl (by omega) (E9 (by omega)) rfl (ζr func126 ϱ ⟨Ai (by unfold Ek;rw[show(decide (64<=n) && decide (n<=4096))=true from h];rfl),rfl⟩)
 ·exact ζr func126 ϱ ⟨Ai (by unfold Ek;rw[show(decide (64<=n) && decide (n<=4096))=false from h];rfl),rfl⟩
theorem Xir(c:Conf)(p:Yu)(w:World):Xf prog 129 #[.agg (Zj c p).toArray] w (Grow (.int .i64 (Dp c)) w):=by
 refine ζe func129 ntmps129 ϱ (ζn ϱ λb g e1 e d j=>ζl e ϱ (ζw (Xdp c.size g) ϱ (ζg ϱ (λh=>?_) λh=>?_)))
 ·have a:Ek c.size=false:=by simpa using h
  exact ζr func129 ϱ ⟨X0 (by unfold Dp;rw[a];rfl),d⟩
 ·have a:Ek c.size=true:=by simpa using h
  have i:=K5.1 a;have f:0<=c.size/8/\c.size/8<=512:=by omega
  have k:0<=c.size*(c.size/8):=ZJ (by omega) f.1;have l:=ZH i.2.1 f.2 f.1 (by omega);exact ζl e ϱ (ζl e ϱ (Xa.div Xb rfl (by omega) (Fy (by omega) (by omega)) rfl (ζj ϱ (ζr func129 ϱ ⟨X0 (by unfold Dp;rw[a];rfl),d⟩))))
theorem Xdn(c:Conf)(p:Yu)(k:Int)(w:World)(hc:Ys w c p):Xf prog 135 #[.agg (Zj c p).toArray,.int .i64 k] w (Grow (.int .i64 (Qi c k)) w):=by
 have g:=hc.size;unfold Ld at g;refine ζe func135 ntmps135 ϱ (ζn ϱ λb q e1 e a n=>ζg ϱ (λh=>?_) λh=>?_)
 ·have l:=of_decide_eq_true h;exact ζr func135 ϱ ⟨X0 (by unfold Qi;rw[if_neg (by omega)]),a⟩
 ·have l:=of_decide_eq_false h;refine ζl e ϱ (ζg ϱ (λf=>?_) λf=>?_)
  ·have m:=of_decide_eq_true f;exact ζr func135 ϱ ⟨X0 (by unfold Qi;rw[if_neg (by omega)]),a⟩
  ·have m:=of_decide_eq_false f;obtain⟨r,off,ea,d⟩:=(hc.chg a).classes k.toNat (by omega);obtain⟨ca,cc,ka,kc⟩:=p;simp only at ea
   subst ea;exact Xa.quiet rfl Xo (by kernel_rfl) (Xi.adv Xb rfl (Xi.loadb Xb rfl e rfl rfl (Xi.loadb Xb rfl e rfl rfl (Xi.index Xb rfl (j:=k.toNat) (by omega) (by omega) (by first|rfl|omega|(simp;done)|(simp;omega)) rfl (Xi.load Xb rfl d rfl (Xi.call Xb rfl (λw' o=>(Xm5 c.size (c.classes.getD k.toNat 0) w' g.2).grow) rfl (Xi.nil λs i=>ζa ϱ (ζr func135 ϱ ⟨X0 (by unfold Qi;rw[if_pos (by omega)]),a.trans i⟩))))))))
theorem Xis(k:Int)(w:World):Xf prog 124 #[.int .i64 k] w (Za (.bool (I6 k)) w):=by
 exact ζe func124 ntmps124 ϱ (ζw (Lp k 0 1024 w) ϱ (ζr func124 ϱ ⟨rfl,rfl⟩))
theorem Xae(c:Conf)(p:Yu)(w:World)(hc:Ys w c p):Xf prog 67 #[.agg (Zj c p).toArray] w (Grow (.int .i64 (Bo c)) w):=by
 refine ζe func67 ntmps67 ϱ (ζn ϱ λb D e1 d e A=>?_);have g:=hc.chg e;refine Xa.quietF (q:=41) Xb Xo (by kernel_rfl) rfl rfl rfl rfl (Xi.adv Xb rfl (Xi.loadb Xb rfl d rfl rfl (Xi.call Xb rfl (λw' a=>(Xdp c.size w').grow) rfl (Xi.loadb Xb rfl d rfl rfl (Xi.call Xb rfl (λw' a=>(Lp c.pages 1 1024 w').grow) rfl (Xi.loadb Xb rfl d rfl rfl (Xi.loadb Xb rfl d rfl rfl (Xi.call Xb rfl (λw' a=>(Xim p.ca p.cc c.classes c.size w' (g.classes.chg a) hc.lc).grow) rfl (Xi.loadb Xb rfl d rfl rfl (Xi.loadb Xb rfl d rfl rfl ?_))))))))));have fin:∀(kk:Bool),(decide (c.keep.length=c.classes.length) && !c.keep.any I6)=kk -> 
  ([Ek c.size,Qv c.pages 1 1024,(Hg c.classes c.size == 0),kk,Qv c.step 1 65536,Qv c.slots 1 4096,Qv c.gens 1 1023,Qv c.most 1 (Dp c)].any λy=>false == y)=!X6 c:=by
  intro kk i;unfold X6;rw[i];have:(Hg c.classes c.size == 0)=Ax c.classes c.size:=by unfold Hg;cases Ax c.classes c.size <;> rfl
  rw[this];cases Ek c.size <;> cases Qv c.pages 1 1024 <;> cases Ax c.classes c.size <;> cases kk <;> cases Qv c.step 1 65536 <;> cases Qv c.slots 1 4096 <;> cases Qv c.gens 1 1023 <;> cases Qv c.most 1 (Dp c) <;> rfl
 refine Xi.fork Xb rfl rfl rfl (λh=>?_) (λh=>?_)
 case' refine_1=>
  refine Xi.loadb Xb rfl d rfl rfl (Xi.call Xb rfl (λw' a=>(Xge p.ka p.kc 124 c.keep [] I6 w' (g.keep.chg a) hc.lk (λx _=>Xis x w')).grow) rfl ?_)
 all_goals
  refine Xi.loadb Xb rfl d rfl rfl (Xi.call Xb rfl (λw' a=>(Lp c.step 1 65536 w').grow) rfl (Xi.loadb Xb rfl d rfl rfl (Xi.call Xb rfl (λw' a=>(Lp c.slots 1 4096 w').grow) rfl (Xi.loadb Xb rfl d rfl rfl (Xi.call Xb rfl (λw' a=>(Lp c.gens 1 1023 w').grow) rfl (Xi.loadb Xb rfl d rfl rfl (Xi.loads Xb rfl d rfl rfl (Xi.call Xb rfl (λw' a=>Xir c p w') rfl (Xi.call Xb rfl (λw' a=>(Lp c.most 1 (Dp c) w').grow) rfl (Xi.build Xb rfl rfl (Xi.nil λj E m B n=>ζa ϱ (ζs n ϱ λo r s C=>Xa.slice Xb rfl (l:=0) (h:=8) (by first|rfl|omega|simp[B7]) (by first|rfl|omega|simp[B5]) (by omega) (by omega) rfl ?_))))))))))));have t:Eo o (some ⟨j,0,none⟩) [Ek c.size,Qv c.pages 1 1024,(Hg c.classes c.size == 0),(decide (c.keep.length=c.classes.length) && !c.keep.any I6),Qv c.step 1 65536,Qv c.slots 1 4096,Qv c.gens 1 1023,Qv c.most 1 (Dp c)]:=by
   have u:(c.keep.length:Int)=c.classes.length↔c.keep.length=c.classes.length:=by omega
   refine Eo.of r ?_;simp only[u,beq_iff_eq,beq_eq_false_iff_ne,ne_eq] at h;simp[h]
  have v:=(e.trans m).since s (λk i z=>by have:=e.size;subst z;omega);refine ζw (Xmc (some ⟨j,0,none⟩) 8 _ false o t (by simp)) ϱ (ζg ϱ (λf=>?_) λf=>?_)
  ·exact ζr func67 ϱ ⟨X0 (by rw[fin _ rfl] at f;unfold Bo;rw[if_neg (by simpa using f)]),v⟩
  ·exact ζr func67 ϱ ⟨X0 (by rw[fin _ rfl] at f;unfold Bo;rw[if_pos (by simpa using f)]),v⟩
variable {c:Conf}
def A9(w:World)(b:Nat)(total lap:Int):Prop:=w.heap[b]?=some (.cells #[.int .i64 total,.int .i64 lap] 154 (0,0))/\0<=lap/\lap<=total/\total<=4611686018427387904
def Xx(total n:Int):Int:=if n<1 then total else total+min n (4611686018427387904-total)
theorem Xdb{total n:Int}(h:0<=total/\total<=4611686018427387904):total<=Xx total n/\Xx total n<=4611686018427387904:=by
 unfold Xx;split <;> omega
abbrev Im(b:Option Nat):Value:=.pointer (b.map λb=>⟨b,0,none⟩)
theorem XjH(w:World):Xf prog 69 #[] w (λv w'=>v=.pointer (some ⟨w.heap.size,0,none⟩)/\A9 w' w.heap.size 0 0/\Xc Xe w w'/\w'.heap.size=w.heap.size+1):=by
 refine ζe func69 ntmps69 ϱ (ζb ϱ (ζn ϱ λb e e1 d a c=>?_));subst e1;exact ζr func69 ϱ ⟨rfl,⟨d,by omega,by omega,by omega⟩,a,c⟩
theorem XjI(b:Nat)(total lap:Int)(w:World)(h:A9 w b total lap):Xf prog 183 #[.pointer (some ⟨b,0,none⟩)] w (Za (.int .i64 (4611686018427387904-total)) w):=by
 obtain⟨a,c,d,e⟩:=h;exact ζe func183 ntmps183 ϱ (ζl a ϱ (ζj ϱ (ζr func183 ϱ ⟨rfl,rfl⟩)))
theorem A9.chg{total lap:Int}(h:A9 w b total lap)(hc:Xc Xe w w'):A9 w' b total lap:=⟨hc.heap' h.1,h.2⟩
theorem XaN(b:Nat)(total lap n:Int)(w:World)(h:A9 w b total lap):Xf prog 132 #[.pointer (some ⟨b,0,none⟩),.int .i64 n] w (λ_ w'=>A9 w' b (Xx total n) lap/\Xc (λx=>x=b) w w'):=by
 have g:=h;obtain⟨i,m,q,o⟩:=h;refine ζe func132 ntmps132 ϱ (ζg ϱ (λf=>?_) λf=>?_)
 ·exact ζr func132 ϱ ⟨by unfold Xx;rw[if_pos (of_decide_eq_true f)];exact g,Xc.refl _ _⟩
 ·have j:=of_decide_eq_false f;refine ζd 9 Xe (by kernel_rfl) ϱ λa=>δl a i ϱ (δw a (λw' k=>XjI b total lap w' ((show A9 w b total lap from g).chg k)) ϱ (δj a ϱ (δn a ϱ λr c=>ζs (c.heap' i) ϱ λs d l p=>?_)));have e:total+(if 4611686018427387904-total<n then 4611686018427387904-total else n)=Xx total n:=by unfold Xx;rw[if_neg j];split <;> omega
  rw[e] at d;have:=Xdb (n:=n) ⟨by omega,o⟩;exact ζr func132 ϱ ⟨⟨d,m,by omega,by omega⟩,(Xc.refl _ w).trans ((c.mono (λ_ _ h=>h.elim)).trans l)⟩
theorem XaO(n:Int)(w:World):Xf prog 132 #[.pointer none,.int .i64 n] w (λ_ w'=>w=w'):=by
 exact ζe func132 ntmps132 ϱ (ζr func132 ϱ rfl)
structure RmM where
 shs:List Sm
 pl:PlM
 lg:List (Nat×List Nat)
 tot:Int
def Zc(M:RmM)(k:Int):Option Sm:=if 0<=k then M.shs[k.toNat]? else none
def Zn(p:PlM):Nat:=Xu p.own
def H8(p q:PlM):Int:=3+(max (Zn q:Int) (Zn p)-min (Zn q:Int) (Zn p))*4
def D1(M:RmM)(k:Nat)(x:Sm)(q:PlM):RmM:={M with shs:=M.shs.set k x,pl:=q}
def Fz(M:RmM)(k:Nat)(x:Sm)(q:PlM):RmM:={M with shs:=M.shs.set k x,pl:=q,tot:=Xx M.tot (H8 M.pl q)}
def Y9(l:List (Nat×List Nat)):List Nat:=l.flatMap λe=>e.1::e.2
def Dq(l:List (Nat×List Nat)):Nat:=(l.map λe=>e.2.length+1).sum
def Hz(l:List Sm):Nat:=(l.map λx=>x.pg.length).sum
structure RmM.Ok(c:Conf)(M:RmM):Prop where
 n:M.shs.length=c.classes.length
 each:∀(k:Nat) (x:Sm),M.shs[k]?=some x->x.cls=(k:Int)/\(x.blocks:Int)=Qi c (k:Int)
 own:(M.pl.own.length:Int)=c.pages
 lg:∀m∈Y9 M.lg,m<M.pl.own.length/\M.pl.own.getD m 0=(M.shs.length:Int)
 nd:(Y9 M.lg).Nodup
 sum:Zn M.pl=Hz M.shs+Dq M.lg
 tot:0<=M.tot/\M.tot<=4611686018427387904
def Gf(p q:PlM)(c:Int):Prop:=q=p\/(∃n r,p.free=n::r/\q=p.take c)\/∃n,n<p.own.length/\p.own.getD n 0=c/\q=p.give n
theorem Xb4{p:PlM}{r:List Nat}(h:p.free=n::r)(c:Int):(p.take c).own=p.own.set n c/\(p.take c).free=r:=by unfold PlM.take;rw[h];exact⟨rfl,rfl⟩
theorem Gf.own{p q:PlM}{c:Int}(h:Gf p q c)(hg:p.Good):q.own.length=p.own.length/\∀m d,d≠c->0<=d->p.own.getD m 0=d->m<p.own.length->q.own.getD m 0=d:=by
 rcases h with rfl|⟨n,r,b,rfl⟩|⟨n,k,g,rfl⟩
 ·exact⟨rfl,λm d _ _ h _=>h⟩
 ·rw[(Xb4 b c).1];refine⟨XG,λm d f i a j=>?_⟩;rw[Fj];obtain⟨l,o⟩:=hg.free n (by rw[b];simp);rw[if_neg (λ⟨e,_⟩=>by subst e;omega)];exact a
 ·refine⟨XG,λm d f i a j=>?_⟩;show(p.own.set n (-1)).getD m 0=d
  rw[Fj,if_neg (λ⟨e,_⟩=>by subst e;exact f (a.symm.trans g))];exact a
theorem Gf.of{p q:PlM}{c:Int}(h:Gf p q c)(hg:p.Good){y:Sm}(hy:y.Of p)(hc:y.cls≠c)(h0:0<=y.cls):y.Of q:=λe b=>by
 obtain⟨a,d⟩:=hy e b;obtain⟨f,g⟩:=h.own hg;exact⟨by rw[f];exact a,g _ _ hc h0 d a⟩
theorem Xf7:∀{l:List Sm} {k:Nat} {x x':Sm},l[k]?=some x->Hz (l.set k x')+x.pg.length=Hz l+x'.pg.length
 |a::r,0,x,x',h=>by
  cases h
  unfold Hz;simp only[List.set_cons_zero,ZB,YH];omega
 |a::r,k+1,x,x',h=>by
  have:=Xf7 (l:=r) (k:=k) (x:=x) (x':=x') h;unfold Hz at *;simp only[List.set_cons_succ,ZB,YH];omega
theorem RmM.Ok.set{c:Conf}{M:RmM}(h:M.Ok c)(hg:M.pl.Good){k:Nat}{x x':Sm}{q:PlM}(hx:M.shs[k]?=some x)(hE:Gf M.pl q x.cls)(hc:x'.cls=x.cls)(hb:x'.blocks=x.blocks)(hs:Zn q+x.pg.length=Zn M.pl+x'.pg.length):(D1 M k x' q).Ok c:=by
 have b:=(List.getElem?_eq_some_iff.1 hx).1;obtain⟨e1,e2⟩:=h.each k x hx;obtain⟨d,f⟩:=hE.own hg;refine⟨by show(M.shs.set k x').length=_;rw[XG];exact h.n,λj y a=>?_,by show(q.own.length:Int)=_;rw[d];exact h.own,λm g=>?_,h.nd,?_,h.tot⟩
 ·replace a:(M.shs.set k x')[j]?=some y:=a;by_cases e:k=j
  ·subst e;rw[XF b] at a;cases a;exact⟨hc.trans e1,by rw[hb];exact e2⟩
  ·rw[XQ e] at a;exact h.each j y a
 ·obtain⟨i,l⟩:=h.lg m g;refine⟨by show m<q.own.length;omega,?_⟩;show q.own.getD m 0=((M.shs.set k x').length:Int)
  rw[XG];exact f _ _ (by rw[e1];omega) (by omega) l i
 ·have:=Xf7 (x':=x') hx;have:=h.sum;show Zn q=Hz (M.shs.set k x')+Dq M.lg
  omega
theorem Nj{t n:Int}(h:0<=t/\t<=4611686018427387904):0<=Xx t n/\Xx t n<=4611686018427387904:=by have:=Xdb (n:=n) h;omega
theorem Xb2(x:Sm)(pl:PlM)(who:Int)(hg:pl.Good)(hcl:0<=x.cls):Gf pl (B1 x pl who) x.cls/\(Q0 x pl who).cls=x.cls/\(Q0 x pl who).blocks=x.blocks/\Zn (B1 x pl who)+x.pg.length=Zn pl+(Q0 x pl who).pg.length:=by
 rcases J9 x pl who with⟨_,a,b⟩|⟨_,_,⟨n,r,_,a,b,_⟩|⟨n,r,_,c,a,b,_⟩⟩
 ·rw[a,b];exact⟨.inl rfl,rfl,rfl,rfl⟩
 ·rw[a,b];exact⟨.inl rfl,rfl,rfl,by show _=_+(Zo _ _ _).length;rw[Uu]⟩
 ·rw[a,b];refine⟨.inr (.inl ⟨n,r,c,rfl⟩),rfl,rfl,?_⟩;show _=_+(Zo (x.pg++_) _ _).length
  rw[Uu,XO];obtain⟨d,e⟩:=hg.free n (by rw[c];simp);have:=Hu (v:=x.cls) d;rw[if_pos e,if_neg (by omega)] at this;unfold Zn;rw[(Xb4 c _).1];simp only[XM,List.length_nil];omega
theorem Xas(x:Sm)(pl:PlM)(n i:Int)(hok:x.Ok)(hof:x.Of pl):Gf pl (A3 x pl n i) x.cls/\(Qj x n i).cls=x.cls/\(Qj x n i).blocks=x.blocks/\Zn (A3 x pl n i)+x.pg.length=Zn pl+(Qj x n i).pg.length:=by
 unfold Qj A3;split
 ·rename_i p f
  obtain⟨k,g,c⟩:=Ga f;rw[g];by_cases d:Qx p i=0
  ·simp only[d,if_true,true_and,XA];unfold Sm.giveAt;simp only
   by_cases a:Xu (Z7 p i)=0
   ·rw[if_pos a,if_pos a];obtain⟨b,e⟩:=hof _ c;simp only at b e
    have h:=hok.cls;have:=Hu (v:=-1) b;rw[if_neg (by omega),if_pos rfl] at this;have j:=(Uv hok.nodup c).2;refine⟨.inr (.inr ⟨k,b,e,rfl⟩),rfl,rfl,?_⟩;show Xu (pl.own.set k (-1))+_=Xu pl.own+(Qk x.pg k).length
    omega
   ·rw[if_neg a,if_neg a];exact⟨.inl rfl,rfl,rfl,by show _=_+(Zo _ _ _).length;rw[Uu]⟩
  ·simp only[d,if_false,false_and];refine⟨.inl rfl,?_,?_,?_⟩ <;> first|trivial|rfl
 ·exact⟨.inl rfl,rfl,rfl,rfl⟩
theorem XaX(x:Sm)(pl:PlM)(n i who:Int):Gf pl pl x.cls/\(Aq x n i who).cls=x.cls/\(Aq x n i who).blocks=x.blocks/\Zn pl+x.pg.length=Zn pl+(Aq x n i who).pg.length:=by
 unfold Aq;split
 ·exact⟨.inl rfl,rfl,rfl,by show _=_+(Zo _ _ _).length;rw[Uu]⟩
 ·exact⟨.inl rfl,rfl,rfl,rfl⟩
variable {M:RmM}
def Zq(n q:Int):Int:=if Z2 n q=0\/Z2 n q=9223372036854775807 then 0 else Z2 n q+1
def Xk(zs:List Int)(n:Int):Int:=if n<1 then -1 else idx (λs=>decide (n<=s)) zs
theorem XeJ{n q:Int}(hn:n<=9223372036854775807):0<=Z2 n q/\Z2 n q<=9223372036854775807:=by
 unfold Z2;split
 ·omega
 ·have a:0<=(n-1)/q:=ZX (by omega) (by omega);have b:(n-1)/q<=n-1:=YE _ (by omega);omega
theorem W6(n q:Int)(w:World)(hn:n<=9223372036854775807):Xf prog 148 #[.int .i64 n,.int .i64 q] w (Za (.int .i64 (Z2 n q)) w):=by
 exact ζe func148 ntmps148 ϱ (ζw (Xm4 n q w hn) ϱ (ζr func148 ϱ ⟨rfl,rfl⟩))
theorem Xda(n q:Int)(w:World)(hn:n<=9223372036854775807):Xf prog 114 #[.int .i64 n,.int .i64 q] w (Za (.int .i64 (Zq n q)) w):=by
 have f:=XeJ (q:=q) hn;refine ζe func114 ntmps114 ϱ (ζw (W6 n q w hn) ϱ (ζg ϱ (λa=>?_) λa=>?_))
 ·have e:Zq n q=0:=by unfold Zq;rw[if_pos (.inl (of_decide_eq_true a))]
  exact ζr func114 ϱ ⟨X0 e.symm,rfl⟩
 ·have c:=of_decide_eq_false a;refine ζg ϱ (λb=>?_) λb=>?_
  ·have e:Zq n q=0:=by unfold Zq;rw[if_pos (.inr (of_decide_eq_true b))]
   exact ζr func114 ϱ ⟨X0 e.symm,rfl⟩
  ·have d:=of_decide_eq_false b;have e:Zq n q=Z2 n q+1:=by unfold Zq;rw[if_neg (by omega)]
   exact ζj ϱ (ζr func114 ϱ ⟨X0 e.symm,rfl⟩)
abbrev Xi6(w:World)(b:Nat)(n:Int):Prop:=w.heap[b]?=some (.cells ([.int .i64 n]:List Value).toArray 3 (0,0))
theorem Xin(x n:Int)(b:Nat)(w:World)(h:Xi6 w b n):Xf prog 113 #[.int .i64 x,.pointer (some ⟨b,0,none⟩)] w (Za (.bool (decide (n<=x))) w):=by
 exact ζe func113 ntmps113 ϱ (ζl h ϱ (ζr func113 ϱ ⟨rfl,rfl⟩))
theorem Nl(a:Option Addr)(cap:Nat)(zs:List Int)(n:Int)(w:World)(hr:Rd .i64 w a zs)(hl:zs.length<=9223372036854775807):Xf prog 63 #[.slice a zs.length cap,.int .i64 n] w (Grow (.int .i64 (Xk zs n)) w):=by
 refine ζe func63 ntmps63 ϱ (ζn ϱ λb d e1 f c g=>ζl f ϱ (ζg ϱ (λh=>?_) λh=>?_))
 ·have e:Xk zs n=-1:=by unfold Xk;rw[if_pos (of_decide_eq_true h)]
  exact ζr func63 ϱ ⟨X0 e.symm,c⟩
 ·have e:Xk zs n=idx (λs=>decide (n<=s)) zs:=by unfold Xk;rw[if_neg (of_decide_eq_false h)]
  exact ζw (Xgf a cap 113 zs [.pointer (some ⟨b,0,none⟩)] (λs=>decide (n<=s)) d (hr.chg c) hl (λx _=>Xin x n b d f)) ϱ (ζr func63 ϱ ⟨X0 e.symm,c⟩)
def Fa(M:RmM)(k who:Int):Int:=match Zc M k with|none=>1|some x=>Qm x M.pl who
def D3(M:RmM)(k who:Int):Int:=match Zc M k with|none=>0|some x=>Cb x M.pl who
def D2(M:RmM)(k who:Int):Int:=match Zc M k with|none=>0|some x=>Ca x M.pl who
def Z9(M:RmM)(k who:Int):RmM:=match Zc M k with|none=>M|some x=>if Qm x M.pl who=0 then Fz M k.toNat (Q0 x M.pl who) (B1 x M.pl who) else M
def Je(M:RmM)(k n i:Int):Int:=match Zc M k with|none=>1|some x=>B0 x n i
def Qb(M:RmM)(k n i:Int):RmM:=match Zc M k with|none=>M|some x=>if B0 x n i=0 then Fz M k.toNat (Qj x n i) (A3 x M.pl n i) else M
def On(M:RmM)(k n i who:Int):Int:=match Zc M k with|none=>1|some x=>G3 x n i who
def Qe(M:RmM)(k n i who:Int):RmM:=match Zc M k with|none=>M|some x=>D1 M k.toNat (Aq x n i who) M.pl
def Zh(M:RmM)(k n i:Int):Int:=match Zc M k with|none=>-1|some x=>Qo x n i
def Zf(M:RmM)(k:Int):Nat:=match Zc M k with|none=>0|some x=>x.opn.length
def Gz(M:RmM)(k:Int):Bool:=match Zc M k with|none=>false|some x=>Mj x
def Mf(M:RmM)(k:Int):List Value:=match Zc M k with|none=>J1 0 0 0 0|some x=>G4 x
def B8(c:Conf)(M:RmM)(size:Int):Int:=if Xk c.classes size=-1 then Zq size c.size else 1-min (Zf M (Xk c.classes size):Int) 1
def Qd(c:Conf)(M:RmM)(size:Int):Int:=if size<1\/c.most<size then 3 else if (M.pl.free.length:Int)<B8 c M size then 5 else 0
structure PlcM where
 cls:Int
 page:Int
 idx:Int
 pages:List Int
def X1(l:List Nat):List Int:=l.map λ(n:Nat)=>(n:Int)
def Al(p:PlM)(who:Int):Nat->PlM
 |0=>p
 |i+1=>Hv (Al p who i) who
def Az(p:PlM)(l:List Nat):PlM:=l.foldl (λq (n:Nat)=>Gv q (n:Int)) p
def D0(M:RmM)(many:Nat):RmM:={M with pl:=Al M.pl M.shs.length many,lg:=M.lg++[(M.pl.free.getD 0 0,(M.pl.free.take many).tail)],tot:=Xx M.tot (many*4+(many-1))}
def Ct(c:Conf)(M:RmM)(who size:Int):Int:=if who<0 then 1 else if Qd c M size≠0 then Qd c M size else if Xk c.classes size=-1 then 0 else Fa M (Xk c.classes size) who
def A2(c:Conf)(M:RmM)(who size:Int):PlcM:=if who<0 then ⟨0,0,0,[]⟩ else if Qd c M size≠0 then ⟨0,0,0,[]⟩ else if Xk c.classes size=-1 then ⟨-1,(M.pl.free.getD 0 0:Nat),0,X1 (M.pl.free.take (Zq size c.size).toNat).tail⟩ else ⟨Xk c.classes size,D3 M (Xk c.classes size) who,D2 M (Xk c.classes size) who,[]⟩
def Ab(c:Conf)(M:RmM)(who size:Int):RmM:=if who<0 then M else if Qd c M size≠0 then M else if Xk c.classes size=-1 then D0 M (Zq size c.size).toNat else Z9 M (Xk c.classes size) who
def Cz:List (Nat×List Nat)->Int->Option (List Nat)
 |[],_=>none
 |(m,r)::t,n=>if (m:Int)=n then some r else Cz t n
def Cp(l:List (Nat×List Nat))(n:Nat):List (Nat×List Nat):=l.filter λe=>e.1 != n
def Hy(M:RmM)(n:Nat)(r:List Nat):RmM:={M with pl:=Az M.pl (n::r),lg:=Cp M.lg n,tot:=Xx M.tot ((r.length+1:Int)*4+r.length)}
def Gy(M:RmM)(q:PlcM):Int:=if q.cls≠-1 then Je M q.cls q.page q.idx else match Cz M.lg q.page with|none=>1|some r=>if X1 r=q.pages then 0 else 1
def Ym(M:RmM)(q:PlcM):RmM:=if q.cls≠-1 then Qb M q.cls q.page q.idx else match Cz M.lg q.page with|none=>M|some r=>if X1 r=q.pages then Hy M q.page.toNat r else M
theorem Xba{p:PlM}(hw:0<=who){r:List Nat}(hf:p.free=n::r):Eh p who=0/\Ih p who=n/\Hv p who=p.take who:=by
 have e:Eh p who=0:=by unfold Eh;rw[if_neg (by omega),hf];rfl
 refine⟨e,?_,?_⟩
 ·unfold Ih;rw[if_pos e,hf];rfl
 ·unfold Hv;rw[if_pos e]
theorem Mb{p:PlM}{who:Int}(hw:0<=who)(hg:p.Good):∀i,i<=p.free.length->(Al p who i).Good/\(Al p who i).free=p.free.drop i/\(Al p who i).own.length=p.own.length/\Zn (Al p who i)=Zn p+i/\∀m,m<p.own.length->(Al p who i).own.getD m 0=if m∈p.free.take i then who else p.own.getD m 0
 |0,_=>⟨hg,by simp[Al],rfl,rfl,λm _=>by simp[Al]⟩
 |i+1,hi=>by
  obtain⟨d,g,j,s,k⟩:=Mb hw hg i (by omega);have b:i<p.free.length:=by omega
  have a:(Al p who i).free=p.free[i]::p.free.drop (i+1):=by rw[g];exact ZS b
  obtain⟨_,_,e⟩:=Xba hw a;have e1:Al p who (i+1)=(Al p who i).take who:=e;obtain⟨c,l⟩:=Xb4 a who;obtain⟨f,n⟩:=d.free p.free[i] (by rw[a];exact ZI);have o:=Hu (v:=who) f;rw[if_pos n,if_neg (by omega)] at o;refine⟨e1▸d.take hw a,by rw[e1];exact l,by rw[e1,c,XG];exact j,?_,λm q=>?_⟩
  ·unfold Zn at *;rw[e1,c];omega
  ·rw[e1,c,Fj,k m q];have r:p.free.take (i+1)=p.free.take i++[p.free[i]]:=by rw[ZC,XB b];rfl
   rw[r];by_cases e2:p.free[i]=m
   ·subst e2;rw[if_pos ⟨rfl,f⟩,if_pos (List.mem_append.2 (.inr (List.mem_singleton.2 rfl)))]
   ·rw[if_neg (λh=>e2 h.1)];by_cases e3:m∈p.free.take i
    ·rw[if_pos e3,if_pos (List.mem_append.2 (.inl e3))]
    ·rw[if_neg e3,if_neg (by simp only[List.mem_append,ZN];rintro(h|h);exact e3 h;exact e2 h.symm)]
theorem Xfg{p:PlM}(hw:0<=who)(hg:p.Good)(hi:i<=p.free.length)(hc:0<=x.cls)(hx:x.Of p):x.Of (Al p who i):=λe a=>by
 obtain⟨b,c⟩:=hx e a;obtain⟨_,_,g,_,d⟩:=Mb hw hg i hi;refine⟨by omega,?_⟩;rw[d _ b,if_neg (λf=>by have:=(hg.free _ (XT f)).2;omega)];exact c
theorem Xfe{p:PlM}(hn:n<p.own.length)(ho:p.own.getD n 0≠-1):Ex p n=0/\Gv p n=p.give n:=by
 have a:Z4 p.own n=p.own.getD n 0:=by
  unfold Z4;rw[if_pos (by omega)];simp only[XA];rw[XC,XC,XB hn];rfl
 have e:Ex p n=0:=by unfold Ex;rw[if_neg (by omega),a,if_neg ho]
 exact⟨e,by unfold Gv;rw[if_pos e];rfl⟩
theorem Ob:∀{l:List Nat} {p:PlM},p.Good->l.Nodup->(∀m∈l,m<p.own.length/\p.own.getD m 0≠-1)->(Az p l).Good/\(Az p l).own.length=p.own.length/\Zn (Az p l)+l.length=Zn p/\∀m,(Az p l).own.getD m 0=if m∈l then -1 else p.own.getD m 0
 |[],p,f,_,_=>⟨f,rfl,rfl,λm=>by simp[Az]⟩
 |n::r,p,f,k,h=>by
  obtain⟨i,o⟩:=List.nodup_cons.1 k;obtain⟨c,g⟩:=h n (by simp);obtain⟨_,e⟩:=Xfe c g;have e1:Az p (n::r)=Az (p.give n) r:=by unfold Az;rw[List.foldl_cons,e]
  have q:=Hu (v:=-1) c;rw[if_neg g,if_pos rfl] at q;have d:(p.give n).own=p.own.set n (-1):=rfl;obtain⟨s,t,u,w⟩:=Ob (p:=p.give n) (l:=r) (f.give c g) o (λm j=>by
   obtain⟨a,b⟩:=h m (by simp[j]);rw[d,XG,Fj,if_neg (λ⟨e,_⟩=>i (e▸j))];exact⟨a,b⟩)
  rw[e1];refine⟨s,by rw[t,d,XG],by unfold Zn at *;rw[d] at u;simp only[XM];omega,λm=>?_⟩;rw[w,d,Fj];by_cases e2:n=m
  ·subst e2;rw[if_neg i,if_pos ⟨rfl,c⟩,if_pos (by simp)]
  ·by_cases e3:m∈r
   ·rw[if_pos e3,if_pos (ZF _ e3)]
   ·rw[if_neg e3,if_neg (λh=>e2 h.1),if_neg (λh=>(List.mem_cons.1 h).elim (λh=>e2 h.symm) e3)]
theorem Xff{p:PlM}(hg:p.Good){l:List Nat}(hn:l.Nodup)(hl:∀m∈l,m<p.own.length/\p.own.getD m 0≠-1)(hx:x.Of p)(hd:∀m∈l,p.own.getD m 0≠x.cls):x.Of (Az p l):=λe b=>by
 obtain⟨f,a⟩:=hx e b;obtain⟨_,g,_,c⟩:=Ob hg hn hl;refine⟨by omega,?_⟩;rw[c,if_neg (λd=>hd _ d a)];exact a
theorem XaC(l l':List (Nat×List Nat)):Dq (l++l')=Dq l+Dq l':=by unfold Dq;rw[XI,List.sum_append]
theorem Jy(l l':List (Nat×List Nat)):Y9 (l++l')=Y9 l++Y9 l':=by unfold Y9;rw[List.flatMap_append]
theorem RmM.Ok.big(h:M.Ok c)(hg:M.pl.Good){many:Nat}(h1:1<=many)(hm:many<=M.pl.free.length):(D0 M many).Ok c:=by
 obtain⟨s,t,k,l,n⟩:=Mb (who:=((M.shs.length:Nat):Int)) (by omega) hg many hm;have i:M.pl.free.getD 0 0::(M.pl.free.take many).tail=M.pl.free.take many:=by
  cases o:M.pl.free with
  |nil=>rw[o] at hm;simp at hm;omega
  |cons a r=>
   obtain⟨m,rfl⟩:∃m,many=m+1:=⟨many-1,by omega⟩;rfl
 have eA:Y9 (D0 M many).lg=Y9 M.lg++M.pl.free.take many:=by
  show Y9 (M.lg++_)=_
  rw[Jy];unfold Y9;rw[ZQ,List.flatMap_nil,YB,i]
 have d:∀m∈M.pl.free.take many,m∈M.pl.free:=λm hm=>XT hm;refine⟨h.n,h.each,by show((Al _ _ _).own.length:Int)=_;rw[k];exact h.own,λm f=>?_,?_,?_,Nj h.tot⟩
 ·rw[eA] at f;have j:m<M.pl.own.length:=by
   rcases List.mem_append.1 f with g|g
   ·exact(h.lg m g).1
   ·exact(hg.free m (d m g)).1
  refine⟨by show m<(Al _ _ _).own.length;omega,?_⟩;show(Al _ _ _).own.getD m 0=((M.shs.length:Nat):Int)
  rw[n m j];rcases List.mem_append.1 f with g|g
  ·by_cases e:m∈M.pl.free.take many
   ·rw[if_pos e]
   ·rw[if_neg e];exact(h.lg m g).2
  ·rw[if_pos g]
 ·rw[eA];refine List.nodup_append.2 ⟨h.nd,hg.nodup.sublist (List.take_sublist _ _),λa p b q e=>?_⟩;subst e;have:=(h.lg a p).2;have:=(hg.free a (d a q)).2;omega
 ·show Zn (Al _ _ _)=Hz M.shs+Dq (M.lg++_)
  rw[l,XaC,h.sum];have:((M.pl.free.take many).tail.length+1)=many:=by rw[QJ,XU];omega
  unfold Dq;simp only[ZB,QQ,YH,List.sum_nil];omega
theorem L1:∀{l:List (Nat×List Nat)} {n:Int} {r:List Nat},Cz l n=some r -> ∃m:Nat,n=m/\(m,r)∈l
 |(m,q)::t,n,r,h=>by
  unfold Cz at h;by_cases e:(m:Int)=n
  ·rw[if_pos e] at h;cases h;exact⟨m,e.symm,by simp⟩
  ·rw[if_neg e] at h;obtain⟨m',e',a⟩:=L1 h;exact⟨m',e',by simp[a]⟩
theorem Ti:∀{l:List (Nat×List Nat)} {n:Int},Cz l n=none -> ∀e∈l,(e.1:Int)≠n
 |[],_,_,_,he=>by cases he
 |(m,q)::r,n,h,e,he=>by
  unfold Cz at h;by_cases hm:(m:Int)=n
  ·rw[if_pos hm] at h;cases h
  ·rw[if_neg hm] at h;rcases List.mem_cons.1 he with rfl|he
   ·exact hm
   ·exact Ti h e he
theorem Id{l:List (Nat×List Nat)}{e:Nat×List Nat}(h:e∈l){m:Nat}(hm:m∈e.1::e.2):m∈Y9 l:=List.mem_flatMap.2 ⟨e,h,hm⟩
theorem Xeq:∀{l:List (Nat×List Nat)} {n:Nat},n∉Y9 l->Cp l n=l:=λ{l n} h=>by
 unfold Cp;refine List.filter_eq_self.2 λe a=>?_;simp only[bne_iff_ne,ne_eq];exact λe'=>h (Id a (by rw[e'];simp))
theorem N2:∀{l:List (Nat×List Nat)} {n:Nat} {r:List Nat},(Y9 l).Nodup->(n,r)∈l -> ∃a b,l=a++(n,r)::b/\Cp l n=a++b:=λ{l n r} c d=>by
 obtain⟨a,b,rfl⟩:=List.append_of_mem d;refine⟨a,b,rfl,?_⟩;have e:Y9 (a++(n,r)::b)=Y9 a++((n::r)++Y9 b):=by rw[Jy];rfl
 rw[e] at c;obtain⟨m,f,g⟩:=List.nodup_append.1 c;obtain⟨o,p,i⟩:=List.nodup_append.1 f;have j:n∉Y9 a:=λh=>g n h n (by simp) rfl;have k:n∉Y9 b:=λh=>i n (by simp) n h rfl;have:Cp (a++(n,r)::b) n=Cp a n++Cp b n:=by unfold Cp;rw[YP,XY];simp
 rw[this,Xeq j,Xeq k]
theorem RmM.Ok.gone(h:M.Ok c)(hg:M.pl.Good){r:List Nat}(hm:(n,r)∈M.lg):(Hy M n r).Ok c/\(Az M.pl (n::r)).Good:=by
 obtain⟨a,b,e1,e2⟩:=N2 h.nd hm;have eA:Y9 M.lg=Y9 a++((n::r)++Y9 b):=by rw[e1,Jy];rfl
 have f:=h.nd;rw[eA] at f;obtain⟨p,q,i⟩:=List.nodup_append.1 f;obtain⟨s,t,u⟩:=List.nodup_append.1 q;obtain⟨v,w,z,A⟩:=Ob (l:=n::r) hg s (λm d=>by
  obtain⟨j,k⟩:=h.lg m (Id hm d);exact⟨j,by omega⟩)
 have eB:Y9 (Cp M.lg n)=Y9 a++Y9 b:=by rw[e2,Jy]
 refine⟨⟨h.n,h.each,by show((Az _ _).own.length:Int)=_;rw[w];exact h.own,λm d=>?_,?_,?_,Nj h.tot⟩,v⟩
 ·replace d:m∈Y9 (Cp M.lg n):=d;rw[eB] at d;have e:m∈Y9 M.lg:=by
   rw[eA];rcases List.mem_append.1 d with g|g <;> simp[g]
  obtain⟨j,k⟩:=h.lg m e;refine⟨by show m<(Az _ _).own.length;omega,?_⟩;show(Az _ _).own.getD m 0=((M.shs.length:Nat):Int)
  rw[A,if_neg]
  ·exact k
  ·intro o;rcases List.mem_append.1 d with g|g
   ·exact i m g m (List.mem_append.2 (.inl o)) rfl
   ·exact u m o m g rfl
 ·show(Y9 (Cp M.lg n)).Nodup
  rw[eB];exact List.nodup_append.2 ⟨p,t,λx B y C=>i x B y (List.mem_append.2 (.inr C))⟩
 ·show Zn (Az _ _)=Hz M.shs+Dq (Cp M.lg n)
  have D:=h.sum;rw[e1,XaC] at D;rw[e2,XaC];have:Dq ((n,r)::b)=(r.length+1)+Dq b:=by unfold Dq;rw[ZB,YH]
  simp only[XM] at z;omega
variable {pd pd2:Option (Nat×PlcM)}
structure Rm where
 rb:Nat
 c:Conf
 p:Yu
 mo:Option Nat
 P:Pl
 sb:Nat
 sc:Nat
 lm:Nat
 S:Nat->Sh
 lap:Int
 X:Nat->Prop
abbrev B9(R:Rm):Value:=.pointer (some ⟨R.rb,0,none⟩)
def rmL(R:Rm)(n:Nat):List Value:=Zj R.c R.p++[Im R.mo,Ei R.P,.slice (some ⟨R.sb,0,none⟩) n R.sc,.map (some R.lm)]
def A1(F:Nat->Prop)(w:World)(a:Option Addr)(l:List Int):Prop:=Rd .i64 w a l/\(0<l.length->Xj F a)
theorem A1.chg{F:Nat->Prop}{w w':World}(h:A1 F w a l)(hc:Xc S w w')(hS:∀z,S z->F z):A1 F w' a l:=by
 refine⟨?_,h.2⟩;by_cases b:0<l.length
 ·exact h.1.far ((h.2 b).mono hS) hc
 ·have:l=[]:=YC (by omega);subst this;exact Rd.nil _ _ _
theorem Rd.block{k:IntKind}{w:World}(h:Rd k w a l)(hl:0<l.length){s}(e:a=some ⟨b,off,s⟩):b<w.heap.size:=by
 obtain⟨b',off',e',c⟩:=h 0 hl;rw[e] at e';cases e';exact World.block_lt_of_cell? w _ c
theorem A1.grow{F:Nat->Prop}{w:World}(h:A1 F w a l)(hF:∀z,F' z->F z\/w.heap.size<=z):A1 F' w a l:=
 ⟨h.1,λc b off s e hz=>by
  rcases hF b hz with hz|hz
  ·exact h.2 c b off s e hz
  ·have:=h.1.block c e;omega⟩
theorem Fo{w w':World}{x:Option Nat}(hc:Xc S w w')(h:kd w b=some x)(hS:¬S b):kd w' b=some x:=by
 unfold kd at *;rw[hc.block b (Eu h) hS];exact h
def Lg(F:Nat->Prop)(w:World)(a:Option Addr):Prop:=∀b off s,a=some ⟨b,off,s⟩->kd w b=some (some 3)/\¬F b
theorem Lg.chg{F:Nat->Prop}{w w':World}(h:Lg F w a)(hc:Xc S w w')(hS:∀b,kd w b=some (some 3)->S b->F b):Lg F w' a:=λb off s e=>
 ⟨Fo hc (h b off s e).1 (λc=>(h b off s e).2 (hS b (h b off s e).1 c)),(h b off s e).2⟩
def Dw(F:Nat->Prop)(w:World)(lm:Nat)(lg:List (Nat×List Nat)):Prop:=∃m,Y6 w lm m/\(Bc m).Nodup/\(∀e∈lg,∃a cap,Bk m e.1=some (.slice a e.2.length cap)/\Rd .i64 w a (X1 e.2)/\Lg F w a)/\∀k:Int,(∀e∈lg,(e.1:Int)≠k)->Bk m k=none
theorem Dw.chg{F S:Nat->Prop}{w w':World}{lm:Nat}{lg:List (Nat×List Nat)}(h:Dw F w lm lg)(hc:Xc S w w')(hS:∀b,kd w b=some (some 3)->S b->F b)(hl:¬S lm):Dw F w' lm lg:=by
 obtain⟨m,d,f,g,i⟩:=h;exact⟨m,d.chg hc hl,f,λe j=>by obtain⟨a,cap,k,l,c⟩:=g e j;exact⟨a,cap,k,l.far (λb off s e n=>(c b off s e).2 (hS b (c b off s e).1 n)) hc,c.chg hc hS⟩,i⟩
theorem Dw.grow{F:Nat->Prop}{w:World}(h:Dw F w lm lg)(hF:∀z,F' z->F z\/w.heap.size<=z):Dw F' w lm lg:=by
 obtain⟨m,d,f,g,i⟩:=h;exact⟨m,d,f,λe j=>by
  obtain⟨a,cap,k,l,c⟩:=g e j;exact⟨a,cap,k,l,λb off s e=>⟨(c b off s e).1,λn=>(hF b n).elim (c b off s e).2 (λh=>by have:=Eu (c b off s e).1;omega)⟩⟩,i⟩
def Sd(F:Nat->Prop)(w:World)(R:Rm)(shs:List Sm)(pl:PlM):Prop:=∃G:Nat->Nat->Pg,
 (∀k x,shs[k]?=some x->(R.S k).P=R.P/\Qq w (R.S k) (G k) x pl/\∀z,Qf (R.S k) (G k) x.pg z->F z/\z≠R.lm)/\
 ∀j k x y,j≠k->shs[j]?=some x->shs[k]?=some y -> ∀z,Qf (R.S j) (G j) x.pg z -> ¬Qf (R.S k) (G k) y.pg z
def Rm.FX(R:Rm)(F:Nat->Prop):Nat->Prop:=λz=>F z\/R.X z
structure Zm(F:Nat->Prop)(w:World)(R:Rm)(M:RmM):Prop where
 ok:M.Ok R.c
 obj:w.heap[R.rb]?=some (.cells (rmL R M.shs.length).toArray 166 (0,0))
 cls:A1 F w R.p.ca R.c.classes
 kee:A1 F w R.p.ka R.c.keep
 may:X6 R.c=true
 met:∀b,R.mo=some b->F b/\A9 w b M.tot R.lap
 sl:∀k,k<M.shs.length->w.cell? ⟨R.sb,k,none⟩=some (Ci (R.S k))
 pool:Zz w R.P M.pl
 pf:∀z,Ay R.P z->F z
 sh:Sd F w R M.shs M.pl
 lg:Dw (R.FX F) w R.lm M.lg
 lf:F R.lm
 rf:¬F R.rb
 sf:¬F R.sb
 low:∀z,F z->z<w.heap.size
 tab:Bb w
 tf:¬F 0
 xl:∀z,R.X z->z<w.heap.size/\¬F z
theorem Zm.conf{F:Nat->Prop}{w:World}{R:Rm}{M:RmM}(h:Zm F w R M):Ys w R.c R.p:=by
 have a:=h.may;unfold X6 at a;simp only[XJ,decide_eq_true_eq] at a;obtain⟨⟨⟨⟨⟨⟨⟨b,d⟩,c⟩,e,_⟩,_⟩,_⟩,_⟩,_⟩:=a;have f:=Nk c;have:=K5.1 b;exact⟨h.cls.1,h.kee.1,by omega,by omega,by unfold Ld;omega⟩
def Fg(F:Nat->Prop)(w w':World)(R:Rm)(M:RmM):Prop:=∃F',Zm F' w' R M/\(∀z,F' z->F z\/w.heap.size<=z)/\Xc F w w'
theorem Fg.of{F:Nat->Prop}{w w':World}{R:Rm}{M:RmM}(h:Zm F w' R M)(hc:Xc F w w'):Fg F w w' R M:=⟨F,h,λ_ h=>.inl h,hc⟩
theorem Fg.trans{F:Nat->Prop}{w:World}{R:Rm}{M:RmM}{F1:Nat->Prop}(hF:∀z,F1 z->F z\/w.heap.size<=z)(hc:Xc F w w1)(h:Fg F1 w1 w2 R M):Fg F w w2 R M:=by
 obtain⟨e,a,b,c⟩:=h;refine⟨e,a,λz d=>?_,hc.since c λz d f=>?_⟩
 ·rcases b z d with h|h
  ·exact hF z h
  ·have:=hc.size;exact .inr (by omega)
 ·rcases hF z f with h|h
  ·exact h
  ·omega
section
variable {F:Nat->Prop}{w w':World}{R:Rm}{M:RmM}
theorem Sd.grow{shs:List Sm}{pl:PlM}(h:Sd F w R shs pl)(hc:Xc Xe w w'):Sd F w' R shs pl:=by
 obtain⟨G,a,b⟩:=h;exact⟨G,λk x c=>by obtain⟨d,e,f⟩:=a k x c;exact⟨d,e.grow hc,f⟩,b⟩
theorem Zm.grow(h:Zm F w R M)(hc:Xc Xe w w'):Zm F w' R M:=
 ⟨h.ok,hc.heap' h.obj,h.cls.chg hc (λ_ h=>h.elim),h.kee.chg hc (λ_ h=>h.elim),h.may,λb c=>by obtain⟨d,e⟩:=h.met b c;exact⟨d,e.chg hc⟩,
  λk f=>hc.cell (h.sl k f) id,h.pool.grow hc,h.pf,h.sh.grow hc,h.lg.chg hc (λ_ _ h=>h.elim) id,h.lf,h.rf,h.sf,λz a=>by have:=h.low z a;have:=hc.size;omega,h.tab.grow hc,h.tf,λz a=>⟨by have:=(h.xl z a).1;have:=hc.size;omega,(h.xl z a).2⟩⟩
theorem L0{t l:Int}(h:A9 w b t l):kd w b=some (some 154):=Yk h.1
theorem Hn{F:Nat->Prop}(h:Dw F w lm lg):kd w lm=some none:=by
 obtain⟨m,a,_⟩:=h;exact Ps a
theorem Zm.charge(h:Zm F w R M)(hb:R.mo=some b){t:Int}(hm:A9 w' b t R.lap)(hc:Xc (λz=>z=b) w w'):Zm F w' R {M with tot:=t}:=by
 obtain⟨m,o⟩:=h.met b hb;have kb:=L0 o;have f:∀z,z=b->F z:=λz e=>e▸m;have kp:=h.pool.kds;have i:=Xs kp.1 kb (by decide);have j:=Xs kp.2 kb (by decide);have p:0≠b:=λe=>h.tf (e▸m);refine⟨{h.ok with tot:=by have:=hm.2;show 0<=t/\t<=4611686018427387904;omega},hc.heap h.obj (λe=>h.rf (f _ e)),h.cls.chg hc f,h.kee.chg hc f,h.may,λb' l=>?_,λk q=>hc.cell (h.sl k q) (λe=>h.sf (f _ e)),h.pool.chg hc i j,h.pf,?_,h.lg.chg hc (λz _ h=>.inl (f z h)) (Xs (Hn h.lg) kb (by simp)),h.lf,h.rf,h.sf,λz g=>by have:=h.low z g;have:=hc.size;omega,h.tab.chg hc p,h.tf,λz g=>⟨by have:=(h.xl z g).1;have:=hc.size;omega,(h.xl z g).2⟩⟩
 ·rw[hb] at l;cases l;exact⟨m,hm⟩
 ·obtain⟨G,a,d⟩:=h.sh;refine⟨G,λk x r=>?_,d⟩;obtain⟨n,c,s⟩:=a k x r;have ap:=c.at'.apart kb (by decide);exact⟨n,⟨c.ok,c.pos,c.of,c.at'.chg hc (λz e=>e▸ap.1) (λz e=>e▸ap.2) p,c.pool.chg hc (by rw[n];exact i) (by rw[n];exact j)⟩,s⟩
theorem Qq.beside{S S':Sh}{G':Nat->Pg}{pl:PlM}(h:Qq w S G x pl)(h':Qq w S' G' x' pl)(hd:∀z,Qf S' G' x'.pg z -> ¬Qf S G x.pg z)(hc:Xc (Av S' G' x'.pg) w w')(hP:S.P=S'.P)(hp:Zz w' S'.P pl')(hof:x.Of pl'):Qq w' S G x pl':=by
 have k':=h'.at'.kds;obtain⟨d,f⟩:=h'.pool.kds;have kx:∀{z:Nat},Av S' G' x'.pg z->kd w z≠some (some 290)/\kd w z≠some (some 286):=λ{z} a=>by
  rcases a with(e|e|(e|e)|⟨e,b,e1|e1⟩)|e|e
  ·subst e;rw[k'.sb];exact⟨by decide,by decide⟩
  ·subst e;rw[k'.sm];exact⟨by simp,by simp⟩
  ·subst e;rw[k'.ab];exact⟨by decide,by decide⟩
  ·subst e;rw[k'.nb];exact⟨by decide,by decide⟩
  ·subst e1;rw[(h'.at'.pages e b).kds.bb];exact⟨by decide,by decide⟩
  ·subst e1;rw[(h'.at'.pages e b).kds.mb];exact⟨by simp,by simp⟩
  ·subst e;rw[d];exact⟨by decide,by decide⟩
  ·subst e;rw[f];exact⟨by decide,by decide⟩
 have out:∀z,Qf S G x.pg z -> ¬Av S' G' x'.pg z:=λz a hz'=>by
  rcases hz' with hz'|hz'
  ·exact hd z hz' a
  ·have c:=hz';have n:=h.at'.notpool (hP▸h'.pool);rw[hP] at n;rcases c with e|e
   ·subst e;exact n.1 a
   ·subst e;exact n.2 a
 refine⟨h.ok,h.pos,hof,h.at'.chg hc (λz a=>⟨λe=>out z (.inl e) a,λe=>out z (.inr (.inl e)) a,λe=>(kx a).1 (e▸h.at'.kds.lb),λe=>out z (.inr (.inr (.inl e))) a⟩) (λz a e b=>⟨λe'=>(kx a).2 (e'▸(h.at'.pages e b).kds.p),λe'=>out z (.inr (.inr (.inr ⟨e,b,e'⟩))) a⟩) ?_,hP▸hp⟩;rintro(e|e)
 ·rcases e with e|e|e|⟨e,b,e1⟩
  ·exact K7 h'.at'.tab (λv e2=>by rw[Yt h'.at'.obj] at e2;simp[K4] at e2) e
  ·obtain⟨m,g,_⟩:=h'.at'.map;exact XbZ g h'.at'.tab e
  ·exact XgH h'.at'.ring h'.at'.tab e
  ·exact Xb0 (h'.at'.pages e b) e1
 ·exact Xb1 h'.at'.tab h'.pool e
theorem Zm.shelf(h:Zm F w R M)(hx:M.shs[k]?=some x):∃Gk,(R.S k).P=R.P/\Qq w (R.S k) Gk x M.pl/\(∀z,Av (R.S k) Gk x.pg z->F z)/\∀w' G' x' pl',Qq w' (R.S k) G' x' pl'->Xc (Av (R.S k) Gk x.pg) w w' ->
 (∀z,Qf (R.S k) G' x'.pg z->Qf (R.S k) Gk x.pg z\/w.heap.size<=z)->Gf M.pl pl' x.cls->x'.cls=x.cls->x'.blocks=x.blocks->Zn pl'+x.pg.length=Zn M.pl+x'.pg.length->Fg F w w' R (D1 M k x' pl'):=by
 obtain⟨G,a,d⟩:=h.sh;obtain⟨s,t,v⟩:=a k x hx;have p:=(List.getElem?_eq_some_iff.1 hx).1;have f:∀z,Av (R.S k) (G k) x.pg z->F z:=λz hz=>by
  rcases hz with hz|hz
  ·exact(v z hz).1
  ·exact h.pf z (s▸hz)
 refine⟨G k,s,t,f,λw' G' x' pl' o m A D E H Q=>?_⟩
 let F':Nat->Prop:=λz=>F z\/(w.heap.size<=z/\Qf (R.S k) G' x'.pg z)
 have q:∀z,F' z->F z\/w.heap.size<=z:=λz hz=>hz.imp id (·.1);have I:¬Av (R.S k) (G k) x.pg R.lm:=by
  rintro(hz|hz)
  ·exact(v _ hz).2 rfl
  ·have kl:=Hn h.lg;have kp:=t.pool.kds;rcases hz with e|e
   ·exact Xs kl kp.1 (by simp) e
   ·exact Xs kl kp.2 (by simp) e
 have P:=h.low _ h.lf;have n:∀(b:Nat),b<w.heap.size -> ¬F b -> ¬F' b:=λb J S hz=>by
  rcases hz with hz|⟨hz,_⟩
  ·exact S hz
  ·omega
 refine⟨F',⟨h.ok.set h.pool.good hx D E H Q,?_,(h.cls.grow q).chg m (λz hz=>.inl (f z hz)),(h.kee.grow q).chg m (λz hz=>.inl (f z hz)),h.may,λb J=>?_,λj B=>?_,s▸o.pool,λz hz=>.inl (h.pf z hz),⟨λj=>if j=k then G' else G j,λj y c=>?_,λi j y y' r c l z hz=>?_⟩,(h.lg.grow (F':=R.FX F') (λz hz=>hz.elim (λh=>(q z h).imp .inl id) (λh=>.inl (.inr h)))).chg m (λz _ hz=>.inl (.inl (f z hz))) I,.inl h.lf,n _ (Xg h.obj) h.rf,n _ (World.block_lt_of_cell? w _ (h.sl k p)) h.sf,λz hz=>?_,o.at'.tab,n _ (World.block_lt_of_cell? w _ (h.tab 0 (by decide))) h.tf,λz hz=>⟨by have:=(h.xl z hz).1;have:=m.size;omega,n z (h.xl z hz).1 (h.xl z hz).2⟩⟩,q,m.mono λz _ hz=>f z hz⟩
 ·show w'.heap[R.rb]?=some (.cells (rmL R (M.shs.set k x').length).toArray _ _)
  rw[XG];exact m.heap h.obj (λhz=>h.rf (f _ hz))
 ·obtain⟨K,C⟩:=h.met b J;have kb:=L0 C;have kp:=t.pool.kds;have ap:=t.at'.apart kb (by decide);refine⟨.inl K,m.heap C.1 ?_,C.2⟩;rintro((e|e|e|⟨e,T,e1⟩)|e|e)
  ·exact ap.1.1 e
  ·exact ap.1.2.1 e
  ·exact ap.1.2.2.2 e
  ·exact(ap.2 e T).2 e1
  ·exact Xs kb kp.1 (by decide) e
  ·exact Xs kb kp.2 (by decide) e
 ·exact m.cell (h.sl j (by replace B:j<(M.shs.set k x').length:=B;rw[XG] at B;exact B)) (λhz=>h.sf (f _ hz))
 ·replace c:(M.shs.set k x')[j]?=some y:=c;by_cases e:j=k
  ·subst e;rw[XF p] at c;cases c;simp only[if_true];refine⟨s,o,λz hz=>?_⟩;rcases A z hz with g|g
   ·exact⟨.inl (v z g).1,(v z g).2⟩
   ·exact⟨.inr ⟨g,hz⟩,by omega⟩
  ·rw[XQ (Ne.symm e)] at c;simp only[if_neg e];obtain⟨L,N,O⟩:=a j y c;obtain⟨U,_⟩:=h.ok.each j y c;obtain⟨V,_⟩:=h.ok.each k x hx;exact⟨L,N.beside t (λz o A=>d j k y x e c hx z A o) m (L.trans s.symm) o.pool (D.of h.pool.good N.of (by omega) (by omega)),λz hz=>⟨.inl (O z hz).1,(O z hz).2⟩⟩
 ·replace c:(M.shs.set k x')[i]?=some y:=c;replace l:(M.shs.set k x')[j]?=some y':=l;have old:∀{i:Nat} {y:Sm},i≠k->M.shs[i]?=some y -> ∀{z:Nat},Qf (R.S i) (G i) y.pg z -> ¬Qf (R.S k) G' x'.pg z:=λ{i y} hi c {z} hz u=>by
   rcases A z u with g|g
   ·exact d i k y x hi c hx z hz g
   ·have:=h.low z ((a i y c).2.2 z hz).1;omega
  by_cases e:i=k
  ·subst e;rw[XF p] at c;cases c;rw[XQ r] at l;simp only[if_true] at hz;simp only[if_neg (Ne.symm r)];exact λu=>old (Ne.symm r) l u hz
  ·rw[XQ (Ne.symm e)] at c;simp only[if_neg e] at hz;by_cases e':j=k
   ·subst e';rw[XF p] at l;cases l;simp only[if_true];exact old e c hz
   ·rw[XQ (Ne.symm e')] at l;simp only[if_neg e'];exact d i j y y' r c l z hz
 ·rcases hz with hz|⟨_,hz⟩
  ·have:=h.low z hz;have:=m.size;omega
  ·exact o.foot_lt z (.inl hz)
theorem Qq.swap{S:Sh}{pl:PlM}(h:Qq w S G x pl)(hlm:kd w lm=some none)(hnl:¬Qf S G x.pg lm)(hc:Xc (λz=>Ay S.P z\/z=lm) w w')(hp:Zz w' S.P pl')(hof:x.Of pl')(ht:0≠lm):Qq w' S G x pl':=by
 obtain⟨f,g⟩:=h.pool.kds;have c:=h.at'.apart f (by decide);have d:=h.at'.apart g (by decide);refine⟨h.ok,h.pos,hof,h.at'.chg hc (λz b=>?_) (λz b e a=>?_) ?_,hp⟩
 ·rcases b with(e|e)|e
  ·exact e▸c.1
  ·exact e▸d.1
  ·subst e;exact⟨λe=>hnl (.inl e),λe=>hnl (.inr (.inl e)),Xs hlm h.at'.kds.lb (by simp),λe=>hnl (.inr (.inr (.inl e)))⟩
 ·rcases b with(e1|e1)|e1
  ·exact e1▸c.2 e a
  ·exact e1▸d.2 e a
  ·subst e1;exact⟨Xs hlm (h.at'.pages e a).kds.p (by simp),λe'=>hnl (.inr (.inr (.inr ⟨e,a,e'⟩)))⟩
 ·rintro(e|e)
  ·exact Xb1 h.at'.tab h.pool e
  ·exact ht e
theorem Zm.swap(h:Zm F w R M){pl':PlM}{lg':List (Nat×List Nat)}(hok:RmM.Ok R.c {M with pl:=pl',lg:=lg'})(hc:Xc (λz=>Ay R.P z\/z=R.lm) w w')(hp:Zz w' R.P pl')(hl:Dw (R.FX F) w' R.lm lg')(hof:∀(k:Nat) (x:Sm),M.shs[k]?=some x->x.Of M.pl->x.Of pl'):Zm F w' R {M with pl:=pl',lg:=lg'}:=by
 have f:∀z,(Ay R.P z\/z=R.lm)->F z:=λz c=>c.elim (h.pf z) (λe=>e▸h.lf);have kl:=Hn h.lg;have kp:=h.pool.kds;refine⟨hok,hc.heap h.obj (λc=>h.rf (f _ c)),h.cls.chg hc f,h.kee.chg hc f,h.may,λb n=>?_,λk o=>hc.cell (h.sl k o) (λc=>h.sf (f _ c)),hp,h.pf,?_,hl,h.lf,h.rf,h.sf,λz c=>by have:=h.low z c;have:=hc.size;omega,h.tab.chg hc (λc=>h.tf (f _ c)),h.tf,λz c=>⟨by have:=(h.xl z c).1;have:=hc.size;omega,(h.xl z c).2⟩⟩
 ·obtain⟨g,i⟩:=h.met b n;have kb:=L0 i;refine⟨g,hc.heap i.1 ?_,i.2⟩;rintro((e|e)|e)
  ·exact Xs kb kp.1 (by decide) e
  ·exact Xs kb kp.2 (by decide) e
  ·exact Xs kb kl (by simp) e
 ·obtain⟨G,a,d⟩:=h.sh;refine⟨G,λk x j=>?_,d⟩;obtain⟨g,l,m⟩:=a k x j;exact⟨g,l.swap kl (λc=>(m _ c).2 rfl) (by rw[g];exact hc) (by rw[g];exact hp) (hof k x j l.of) (λe=>h.tf (e▸h.lf)),m⟩
theorem Zm.note{F0:Nat->Prop}{M0:RmM}(h0:Zm F0 w0 R M0)(h:Zm F w R M){eb:Nat}(hk:kd w eb=some (some t))(hnew:w0.heap.size<=eb)(hF:¬F eb)(hc:Xc (λz=>z=eb) w w')(ht:t≠154/\t≠227/\t≠280/\t≠3/\t≠224/\t≠290/\t≠275/\t≠292/\t≠286/\t≠312):Zm F w' R M:=by
 have d:∀{t':Nat},t≠t'->some (some t)≠some (some t'):=λh e=>h (Option.some.inj (Option.some.inj e));have o:0<M0.shs.length:=by
  have c:=h0.may;unfold X6 at c;simp only[XJ,decide_eq_true_eq] at c;have:=Nk c.1.1.1.1.1.2;have:=h0.ok.n;omega
 have p:R.rb≠eb:=by have:=Xg h0.obj;omega
 have q:R.sb≠eb:=by have:=World.block_lt_of_cell? w0 _ (h0.sl 0 o);simp only at this;omega
 have n:0≠eb:=by have:=World.block_lt_of_cell? w0 _ (h0.tab 0 (by decide));simp only at this;omega
 have m:∀{a:Option Addr} {l:List Int},A1 F0 w0 a l->A1 F w a l->A1 F w' a l:=λ{a l} A g=>by
  refine⟨?_,g.2⟩;by_cases B:0<l.length
  ·exact g.1.far (λb off s e r=>by have:=A.1.block B e;omega) hc
  ·have:l=[]:=YC (by omega);subst this;exact Rd.nil _ _ _
 have kp:=h.pool.kds;have u:=Xs kp.1 hk (Ne.symm (d ht.2.1));have v:=Xs kp.2 hk (Ne.symm (d ht.2.2.1));refine⟨h.ok,hc.heap h.obj p,m h0.cls h.cls,m h0.kee h.kee,h.may,λb r=>?_,λk y=>hc.cell (h.sl k y) q,h.pool.chg hc u v,h.pf,?_,h.lg.chg hc (λz f e=>absurd (f.symm.trans (e▸hk)) (Ne.symm (d ht.2.2.2.1))) (Xs (Hn h.lg) hk (by simp)),h.lf,h.rf,h.sf,λz f=>by have:=h.low z f;have:=hc.size;omega,h.tab.chg hc n,h.tf,λz f=>⟨by have:=(h.xl z f).1;have:=hc.size;omega,(h.xl z f).2⟩⟩
 ·obtain⟨i,c⟩:=h.met b r;exact⟨i,hc.heap c.1 (λe=>hF (e▸i)),c.2⟩
 ·obtain⟨G,a,e⟩:=h.sh;refine⟨G,λk x C=>?_,e⟩;obtain⟨i,j,D⟩:=a k x C;have ap:=j.at'.apart hk ht.2.2.2.2;exact⟨i,⟨j.ok,j.pos,j.of,j.at'.chg hc (λz e=>e▸ap.1) (λz e=>e▸ap.2) n,j.pool.chg hc (by rw[i];exact u) (by rw[i];exact v)⟩,D⟩
theorem Uk(h:Zm F w R M)(n:Int):Xf prog 132 #[Im R.mo,.int .i64 n] w (λ_ w'=>Zm F w' R {M with tot:=Xx M.tot n}/\Xc F w w'):=by
 cases c:R.mo with
 |none=>
  refine(XaO n w).mono λ_ w' e=>?_;subst e;exact⟨{h with ok:={h.ok with tot:=(Nj (n:=n) h.ok.tot)},met:=λb a=>by rw[c] at a;cases a},Xc.refl _ _⟩
 |some b=>
  obtain⟨f,a⟩:=h.met b c;exact(XaN b M.tot R.lap n w a).mono λ_ w' ⟨g,d⟩=>⟨h.charge c g d,d.mono λz _ e=>e▸f⟩
end
variable {R:Rm}
def Fb(R:Rm)(M:RmM)(k:Int):Value:=match Zc M k with|none=>.pointer none|some _=>Ci (R.S k.toNat)
theorem Dt{k:Int}(h:Zc M k=some x):∃n:Nat,k=n/\n<M.shs.length/\M.shs[n]?=some x:=by
 unfold Zc at h;by_cases a:0<=k
 ·rw[if_pos a] at h;exact⟨k.toNat,by omega,(List.getElem?_eq_some_iff.1 h).1,h⟩
 ·rw[if_neg a] at h;cases h
theorem Rx{k:Int}(h:k<0\/(M.shs.length:Int)<=k):Zc M k=none:=by
 unfold Zc;by_cases a:0<=k
 ·rw[if_pos a,XV (by omega)]
 ·rw[if_neg a]
theorem Oj(h:k<M.shs.length):Zc M k=some M.shs[k]:=by
 unfold Zc;rw[if_pos (by omega)];exact XB h
theorem Oq(h:Zm F w R M)(k:Int):Xf prog 171 #[B9 R,.int .i64 k] w (Za (Fb R M k) w):=by
 have g:=h.ok.n;refine ζe func171 ntmps171 ϱ (ζg ϱ (λa=>?_) λa=>?_)
 ·have e:Fb R M k=.pointer none:=by unfold Fb;rw[Rx (.inl (of_decide_eq_true a))]
  rw[e];exact ζa ϱ (ζr func171 ϱ ⟨rfl,rfl⟩)
 ·have d:=of_decide_eq_false a;refine ζl h.obj ϱ (ζg ϱ (λb=>?_) λb=>?_)
  ·have e:Fb R M k=.pointer none:=by unfold Fb;rw[Rx (.inr (of_decide_eq_true b))]
   rw[e];exact ζr func171 ϱ ⟨rfl,rfl⟩
  ·have f:=of_decide_eq_false b;obtain⟨n,rfl⟩:=XD (show 0<=k by omega);have c:n<M.shs.length:=by omega
   have e:Fb R M n=Ci (R.S n):=by unfold Fb;rw[Oj c];rfl
   rw[e];exact ζl h.obj ϱ (ζi n ϱ (ζk ϱ (show w.cell? ⟨R.sb,0+n,none⟩=_ from by rw[XS];exact h.sl n c) ϱ (ζr func171 ϱ ⟨rfl,rfl⟩)))
theorem R0(h:Zm F w R M):Xf prog 62 #[B9 R] w (Za (.int .i64 (Zn M.pl:Nat)) w):=by
 exact ζe func62 ntmps62 ϱ (ζl h.obj ϱ (ζw (Xkn R.P M.pl w h.pool) ϱ (ζr func62 ϱ ⟨rfl,rfl⟩)))
theorem Xly(h:Zm F w R M)(k n i:Int):Xf prog 118 #[B9 R,.int .i64 k,.int .i64 n,.int .i64 i] w (Za (.int .i64 (Zh M k n i)) w):=by
 refine ζe func118 ntmps118 ϱ (ζw (Oq h k) ϱ ?_);unfold Fb Zh;cases a:Zc M k with
 |none=>
  exact ζw (XlX n i w) ϱ (ζr func118 ϱ ⟨rfl,rfl⟩)
 |some x=>
  obtain⟨j,rfl,d,b⟩:=Dt a;obtain⟨G,_,c,_⟩:=h.shelf b;exact ζw (XlW (R.S j) G x M.pl n i w c) ϱ (ζr func118 ϱ ⟨rfl,rfl⟩)
theorem XlB(h:Zm F w R M)(k r:Int)(fk:Nat)(hf:Xf prog fk #[Fb R M k] w (Za (.int .i64 r) w)):Xf prog 106 #[B9 R,.int .i64 k,.func (.func fk) #[] #[]] w (Za (.int .i64 r) w):=by
 exact ζe func106 ntmps106 ϱ (ζw (Oq h k) ϱ (ζw hf ϱ (ζr func106 ϱ ⟨rfl,rfl⟩)))
theorem R1(h:Zm F w R M)(k:Int):Xf prog 54 #[B9 R,.int .i64 k] w (Za (.int .i64 (Zf M k:Nat)) w):=by
 have a:Xf prog 107 #[Fb R M k] w (Za (.int .i64 (Zf M k:Nat)) w):=by
  unfold Fb Zf;cases b:Zc M k with
  |none=>exact Xga w
  |some x=>
   obtain⟨j,rfl,e,c⟩:=Dt b;obtain⟨G,_,d,_⟩:=h.shelf c;exact Xf9 (R.S j) G x M.pl w d
 exact ζe func54 ntmps54 ϱ (ζw (XlB h k (Zf M k:Nat) 107 a) ϱ (ζr func54 ϱ ⟨rfl,rfl⟩))
theorem Xlx(h:Zm F w R M)(k n i who:Int):Xf prog 137 #[B9 R,.int .i64 k,.int .i64 n,.int .i64 i,.int .i64 who] w
 (λv w'=>v=.int .i64 (On M k n i who)/\Fg F w w' R (Qe M k n i who)):=by
 refine ζe func137 ntmps137 ϱ (ζw (Oq h k) ϱ ?_);unfold Fb On Qe;cases d:Zc M k with
 |none=>
  exact ζw (XlV n i who w) ϱ (ζr func137 ϱ ⟨rfl,.of h (Xc.refl _ _)⟩)
 |some x=>
  obtain⟨j,rfl,o,e⟩:=Dt d;obtain⟨G,_,f,_,a⟩:=h.shelf e;refine ζc ϱ (XlU (R.S j) G x M.pl n i who w f) ?_;rintro _ g ⟨rfl,l,b,c⟩;refine ζa ϱ ?_;obtain⟨e1,e2,e3,e4⟩:=XaX x M.pl n i who;exact ζr func137 ϱ ⟨rfl,a g G (Aq x n i who) M.pl l b (λz m=>.inl (c z m)) e1 e2 e3 e4⟩
theorem XlA(h:Zm F w R M)(k:Int):Xf prog 117 #[B9 R,.int .i64 k] w (Grow (.tuple #[.agg (Mf M k).toArray,.bool (Gz M k)]) w):=by
 refine ζe func117 ntmps117 ϱ (ζn ϱ λb m e1 n g B=>?_);have o:=h.grow g;refine ζw (Oq o k) ϱ ?_;unfold Fb Mf Gz;cases r:Zc M k with
 |none=>
  exact ζv (XlZ m) ϱ λs f=>ζs (f.heap' n) ϱ λt i l p=>ζR func117 i ϱ ⟨rfl,(g.trans f).since l (λz u e=>by subst e1;omega)⟩
 |some x=>
  obtain⟨j,rfl,C,y⟩:=Dt r;obtain⟨G,_,A,_⟩:=o.shelf y;obtain⟨pa,pb,pc,pd,ep⟩:∃a b c d,G4 x=J1 a b c d:=by
   unfold G4;split
   ·exact⟨_,_,_,_,rfl⟩
   ·exact⟨_,_,_,_,rfl⟩
  have q:=XlY (R.S j) G x M.pl m A;rw[ep] at q;show Xa _ _ (E2 (λv w'=>v=.tuple #[.agg (G4 x).toArray,.bool (Mj x)]/\_)) _ _ _ _ _
  rw[ep];exact ζv q ϱ λs f=>ζs (f.heap' n) ϱ λt i l p=>ζR func117 i ϱ ⟨rfl,(g.trans f).since l (λz u e=>by subst e1;omega)⟩
end Go.Proofs.YtohjeeapehmkcaaGreatDoor
