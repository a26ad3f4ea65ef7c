/-
  Texts put together: Sr0, Sr1, Sr2, Sr3, Sr4, Sr5, Sr6, Sr7, Sr8, Sr9, Sr10, Sr11, Sr12, Sr13.
-/
import Derived.Test.YtdeihcnepljjaaaGreatDoorPt8
import Derived.Test.YtdeihcnepljjaaaGreatDoorQRule21
import Derived.Test.YtdeihcnepljjaaaGreatDoorQRule25
set_option linter.unusedVariables false
set_option maxRecDepth 100000
namespace Go.Proofs.YtdeihcnepljjaaaGreatDoor
open Go.RowKit
open Go renaming World→dD
open Bool renaming and_eq_true->XK,and_false->YE,true_and->YJ,false_and->YZ
open Decidable renaming not_not->YL
open Int renaming toNat_natCast->XB,eq_ofNat_of_zero_le->XE,mul_le_mul->ZG,mul_comm->YQ,le_refl->QN
open List renaming getD_eq_getElem?_getD->XA,getElem?_eq_some_iff->XC,getElem?_eq_getElem->XD,length_set->XG,getElem?_set_self->XH,getElem?_set_ne->XJ,getElem_mem->XM,take_append_drop->XY,mem_cons->ZB,mem_or_eq_of_mem_set->ZO,nil_append->ZS,length_eq_zero_iff->YB,ext_getElem?->QD
open Nat renaming le_refl->XF,zero_add->XT,mul_one->ZQ,add_assoc->YR
open Go.Proofs.Tryz (func136 func137 func138 func139 func140 func142 func143 func144 func149 func152 func208 func211 func212 func215 func35 func36 func80 func82 func83 func86 func87 func88 ntmps136 ntmps137 ntmps138 ntmps139 ntmps140 ntmps142 ntmps143 ntmps144 ntmps149 ntmps152 ntmps208 ntmps211 ntmps212 ntmps215 ntmps35 ntmps36 ntmps80 ntmps82 ntmps83 ntmps86 ntmps87 ntmps88 prog)
variable {A:Ar}{V:ArV}{c:Conf}{l':IL}{ahead by' cS h cH size cN u who z:Int}{lg:List (Nat×List Nat)}{th:List (Option ThM)}{ps:List IL}{bs l p zs:List Int}{l2 ws:List Nat}{cs rest xs:List Value}{mo:Mo}{N at' b base cap d fuel g i j k lm lo m n o qb sz t tm ty vb xb y:Nat}{fz:Nat×Nat}{f:Nat->Int}{G:Nat->Pg}{B C F F' Fr Q S S' T X:Nat->Prop}{pd pd2:Option (Nat×PlcM)}{a:Option Addr}{pg:PgL}{pl':PlM}{q:Plc}{R:Rm}{M:RmM}{x x':Sm}{s s':StM}{α:Type}{v:Value}{w w' w'' w0 w1 w2:dD}{cells:α->List Value}
structure TR where
 size:Int
 q:Plc
def D1(t:TR):List Value:=.int .i64 t.size::Xv t.q
structure VR where
 is:Bool
 who:Int
 pf:Int
 fa:Int
 pt:Int
 ta:Int
 sa:Option Addr
 sl:Nat
 sc:Nat
 st:Int
 f:Int
 t:Int
 size:Int
 cE:Int
def C0(v:VR):List Value:=[.bool v.is,.int .i64 v.who,.int .i64 v.pf,.int .i64 v.fa,.int .i64 v.pt,.int .i64 v.ta,.slice v.sa v.sl v.sc,.int .i64 v.st,.int .i64 v.f,.int .i64 v.t,.int .i64 v.size,.int .i64 v.cE]
theorem Sr(t:TR):(D1 t).length=5:=rfl
theorem Ss(t:VR):(C0 t).length=12:=rfl
theorem XnR(s:TR):∀u∈D1 s,u.oneCell'=true:=λu a=>by
 simp only[D1,Xv,ZB,List.mem_nil_iff,or_false] at a;rcases a with rfl|rfl|rfl|rfl|rfl <;> rfl
theorem Xn8(s:VR):∀u∈C0 s,u.oneCell'=true:=λu a=>by
 simp only[C0,ZB,List.mem_nil_iff,or_false] at a;rcases a with rfl|rfl|rfl|rfl|rfl|rfl|rfl|rfl|rfl|rfl|rfl|rfl <;> rfl
abbrev Nq:TR:=⟨0,q0⟩
abbrev K3:VR:=⟨false,0,0,0,0,0,none,0,0,0,0,0,0,0⟩
structure SR where
 c:Conf
 cp:Y4
 bV:List Int
 ka:Option Addr
 kcap:Nat
 ra:RA
 rr:RR
 ts:List TR
 ta:Option Addr
 tcap:Nat
 ms:List VR
 ma:Option Addr
 mcap:Nat
def Z8(r:SR):List Value:=Zj r.c r.cp++[.slice r.ka r.bV.length r.kcap]++Ha r.ra++A7 r.rr++[.slice r.ta r.ts.length r.tcap,.slice r.ma r.ms.length r.mcap]
def Ps(x:Option ThM)(t:TR):Prop:=t.size=Bb x/\∀y,x=some y->Xx t.q=y.q
def L0(x:Option MvM)(v:VR):Prop:=v.is=x.isSome/\∀m,x=some m->v.who=m.who/\v.pf=m.pf/\v.fa=m.fa/\v.pt=m.pt/\v.ta=m.ta/\v.f=m.f/\v.t=m.t/\v.size=m.size/\v.cE=m.cE
abbrev Y7(M:RmM):RmM:={M with tot:=0}
structure Za(w:dD)(r:SR)(s:StM):Prop where
 cO:Yu w r.c r.cp
 kr:Rd .i64 w r.ka r.bV
 ke:r.bV=s.bV
 ra:Yh w r.ra
 rb:r.ra.bs=s.bs
 rs:r.ra.cM=s.rm.tot
 la:Yr w r.ra.a
 lk:Yr w r.ka
 rr:Qe w r.rr (Y7 s.rm)
 rc:r.rr.c=r.c
 rp:r.rr.cp=r.cp
 tr:Rows D1 5 w r.ta r.ts
 tl:Yr w r.ta
 tc:r.ts.length<=r.tcap
 tn:r.ts.length=s.th.length
 te:∀(o:Nat) x t,s.th[o]?=some x->r.ts[o]?=some t->Ps x t
 tq:∀t∈r.ts,Zp w t.q/\Yr w t.q.pa
 mr:Rows C0 12 w r.ma r.ms
 ml:Yr w r.ma
 mc:r.ms.length<=r.mcap
 mn:r.ms.length=s.mv.length
 me:∀(k:Nat) x v,s.mv[k]?=some x->r.ms[k]?=some v->L0 x v
structure Bo(S:Nat->Prop)(r:SR):Prop where
 k:Xj S r.ka
 ra:Xj S r.ra.a
 rr:De S r.rr
 ta:Xj S r.ta
 tq:∀t∈r.ts,Xj S t.q.pa
 ma:Xj S r.ma
theorem Za.bQ{w w':dD}{r:SR}{s:StM}(h:Za w r s)(hc:Xc Xe w w'):Za w' r s:=
 {h with cO:=h.cO.bR hc,kr:=h.kr.bR hc,ra:=h.ra.bQ hc,la:=h.la.bQ hc.size,lk:=h.lk.bQ hc.size,rr:=h.rr.bQ hc,tr:=h.tr.bR hc,tl:=h.tl.bQ hc.size,tq:=λt ht=>⟨(h.tq t ht).1.bQ hc,(h.tq t ht).2.bQ hc.size⟩,mr:=h.mr.bR hc,ml:=h.ml.bQ hc.size}
theorem Za.bW{w w':dD}{r:SR}{s:StM}{S:Nat->Prop}(h:Za w r s)(ho:Bo S r)(hcf:Yu w' r.c r.cp)(hc:Xc S w w'):Za w' r s:=
 {h with cO:=hcf,kr:=h.kr.bW ho.k hc,ra:=⟨h.ra.rd.bW ho.ra hc,h.ra.len,h.ra.lc,h.ra.rng⟩,la:=h.la.bQ hc.size,lk:=h.lk.bQ hc.size,rr:=h.rr.bW ho.rr hc,tr:=h.tr.bW ho.ta hc,tl:=h.tl.bQ hc.size,tq:=λt ht=>⟨⟨(h.tq t ht).1.rd.bW (ho.tq t ht) hc,(h.tq t ht).1.len⟩,(h.tq t ht).2.bQ hc.size⟩,mr:=h.mr.bW ho.ma hc,ml:=h.ml.bQ hc.size}
def Zt(w:dD)(r r':SR):Prop:=r'.c=r.c/\r'.cp=r.cp/\∀S:Nat->Prop,(∀z,S z->z<w.heap.size)->Bo S r->Bo S r'
theorem Zt.refl(w:dD)(r:SR):Zt w r r:=⟨rfl,rfl,λ_ _ h=>h⟩
theorem Zt.trans{w w1:dD}{r r1 r2:SR}(h:Zt w r r1)(h':Zt w1 r1 r2)(hs:w.heap.size<=w1.heap.size):Zt w r r2:=⟨h'.1.trans h.1,h'.2.1.trans h.2.1,λS a b=>
 h'.2.2 S (λz c=>by have:=a z c;omega) (h.2.2 S a b)⟩
theorem Zt.dC{r r1:SR}(h:Zt w1 r r1)(hs:w.heap.size<=w1.heap.size):Zt w r r1:=⟨h.1,h.2.1,λS a b=>h.2.2 S (λz c=>by have:=a z c;omega) b⟩
abbrev Zk(w:dD)(b:Nat)(r:SR):Prop:=w.heap[b]?=some (.cells (Z8 r).toArray 42 (0,0))
theorem Za.out{w:dD}{r:SR}{s:StM}{S:Nat->Prop}(h:Za w r s)(hs:∀z,S z->w.heap.size<=z):Bo S r:=⟨h.lk.out hs,h.la.out hs,h.rr.out hs,h.tl.out hs,λt ht=>(h.tq t ht).2.out hs,h.ml.out hs⟩
theorem Za.box{r r':SR}(h:Za w r s)(hk:Zt w2 r r')(h':Za w' r' s')(hw:w.heap.size<=qb)(hq:qb<w2.heap.size)(hc:Xc (λz=>z=qb) w' w'')(hcc:Xc Xe w w''):Za w'' r' s':=by
 refine h'.bW (hk.2.2 (λz=>z=qb) (λz e=>e▸hq) (h.out λz e=>e▸hw)) ?_ hc;have:=h.cO.bR hcc;rw[hk.1,hk.2.1];exact this
def Ej(w:dD)(r:SR)(s':StM)(r':SR)(w':dD):Prop:=Za w' r' s'/\Zt w r r'/\Xc Xe w w'
theorem Ej.self{r:SR}(h:Za w r s)(hc:Xc Xe w w'):Ej w r s r w':=⟨h.bQ hc,.refl w r,hc⟩
theorem Za.putMv{r:SR}(h:Za w r s)(hc:Xc Xe w w'){v:VR}{x:Option MvM}(hr:Rows C0 12 w' a (r.ms.set k v))(hl:Yr w' a)(hcap:(r.ms.set k v).length<=cap)(hx:L0 x v):Za w' {r with ms:=r.ms.set k v,ma:=a,mcap:=cap} {s with mv:=s.mv.set k x}:=by
 have d:∀(j:Nat) y v',(s.mv.set k x)[j]?=some y->(r.ms.set k v)[j]?=some v'->L0 y v':=λj y v' c b=>by
  by_cases e:k=j
  .subst e;have f:k<r.ms.length:=by have:=(XC.1 b).1;rw[XG] at this;exact this
   rw[XH f] at b;rw[XH (by rw[<-h.mn];exact f)] at c;cases c;cases b
   exact hx
  .rw[XJ e] at c b;exact h.me j y v' c b
 have g:(r.ms.set k v).length=(s.mv.set k x).length:=by rw[XG,XG];exact h.mn
 exact {(h.bQ hc) with mr:=hr,ml:=hl,mc:=hcap,mn:=g,me:=d}
theorem Za.putTh{r:SR}(h:Za w r s)(hc:Xc Xe w w'){t:TR}{x:Option ThM}(hr:Rows D1 5 w' a (r.ts.set o t))(hl:Yr w' a)(hcap:(r.ts.set o t).length<=cap)(hx:Ps x t)(hq:Zp w' t.q/\Yr w' t.q.pa):Za w' {r with ts:=r.ts.set o t,ta:=a,tcap:=cap} {s with th:=s.th.set o x}:=by
 have d:=h.bQ hc;have f:∀(j:Nat) y v',(s.th.set o x)[j]?=some y->(r.ts.set o t)[j]?=some v'->Ps y v':=λj y v' b c=>by
  by_cases e:o=j
  .subst e;have g:o<r.ts.length:=by have:=(XC.1 c).1;rw[XG] at this;exact this
   rw[XH g] at c;rw[XH (by rw[<-h.tn];exact g)] at b;cases b;cases c
   exact hx
  .rw[XJ e] at b c;exact h.te j y v' b c
 have i:(r.ts.set o t).length=(s.th.set o x).length:=by rw[XG,XG];exact h.tn
 have k:∀t'∈r.ts.set o t,Zp w' t'.q/\Yr w' t'.q.pa:=λt' l=>by
  rcases ZO l with b|rfl
  .exact d.tq t' b
  .exact hq
 exact {d with tr:=hr,tl:=hl,tc:=hcap,tn:=i,te:=f,tq:=k}
theorem Za.putRa{r:SR}(h:Za w r s)(hc:Xc Xe w w'){ra:RA}{t:Int}(hr:Yh w' ra)(hb:ra.bs=bs)(ht:ra.cM=t)(hl:Yr w' ra.a):Za w' {r with ra:=ra} {s with bs:=bs,rm:={s.rm with tot:=t}}:=by
 exact {(h.bQ hc) with ra:=hr,rb:=hb,rs:=ht,la:=hl}
theorem Za.putRr{r:SR}(h:Za w r s)(hc:Xc Xe w w'){rr:RR}(hr:Qe w' rr (Y7 M))(hk:rr.c=r.rr.c/\rr.cp=r.rr.cp)(ht:M.tot=s.rm.tot):Za w' {r with rr:=rr} {s with rm:=M}:=by
 exact {(h.bQ hc) with rr:=hr,rc:=hk.1.trans h.rc,rp:=hk.2.trans h.rp,rs:=h.rs.trans ht.symm}
theorem Za.mrow{r:SR}(h:Za w r s)(hj:j<r.ms.length):L0 (Xy s (j:Nat)) r.ms[j]/\∃b off,r.ma=some ⟨b,off,none⟩/\∀i v,(C0 r.ms[j])[i]?=some v->w.cell? ⟨b,off+j*12+i,none⟩=some v:=by
 obtain⟨b,off,e,c⟩:=h.mr j r.ms[j] (XD hj);have a:j<s.mv.length:=by rw[<-h.mn];exact hj
 refine⟨?_,b,off,e,c⟩;have:=h.me j s.mv[j] r.ms[j] (XD a) (XD hj);rw[Xe6 a];exact this
theorem Za.trow{r:SR}(h:Za w r s)(hj:j<r.ts.length):Ps (B3 s (j:Nat)) r.ts[j]/\∃b off,r.ta=some ⟨b,off,none⟩/\∀i v,(D1 r.ts[j])[i]?=some v->w.cell? ⟨b,off+j*5+i,none⟩=some v:=by
 obtain⟨b,off,e,c⟩:=h.tr j r.ts[j] (XD hj);have a:j<s.th.length:=by rw[<-h.tn];exact hj
 refine⟨?_,b,off,e,c⟩;have:=h.te j s.th[j] r.ts[j] (XD a) (XD hj);have e2:B3 s (j:Nat)=s.th[j]:=by
  unfold B3;rw[bK (by omega),XB,XA,XD a];rfl
 rw[e2];exact this
theorem Ln{r:SR}(h:Za w r s)(hl:s.mv.length<=16)(k:Int):Xf prog 87 #[.agg (Z8 r).toArray,.int .i64 k] w (Grow (.bool (Xy s k).isSome) w):=by
 refine aR func87 ntmps87 aA (bC aA λb n e1 d a l=>?_);have m:=h.mn;by_cases f:0<=k
 .obtain⟨j,rfl⟩:=XE f;refine bI aA (bB d aA ?_);by_cases g:j<r.ms.length
  .refine bI aA (bB d aA ?_);obtain⟨i,o,off,ea,c⟩:=(h.bQ a).mrow g;rw[ea,<-i.1];exact aU (j*12) aA (aW aA (c 0 _ rfl) aA (bE func87 aA ⟨rfl,a⟩))
  .have e:=Xbf (by unfold Hh;rw[bO (show ¬(j:Int)<s.mv.length by omega),YE]);rw[e];exact aS aA (bE func87 aA ⟨rfl,a⟩)
 .have e:Xy s k=none:=Xbf (by unfold Hh;rw[bO f];rfl);rw[e];exact aS aA (bE func87 aA ⟨rfl,a⟩)
theorem Pc{r:SR}:Xf prog 208 #[.agg (Z8 r).toArray] w (Grow (.agg (Aj r.c r.cp r.ra).toArray) w):=by
 refine aR func208 ntmps208 aA (bC aA λb m e1 i f j=>bC aA λqb n e2 g a k=>?_);have c:=a.bP i;exact bB c aA (bB c aA (aO aA (bF g aA λo d h l=>aK func208 d aA ⟨rfl,(f.trans a).sn h⟩)))
theorem Sb{r:SR}{rr:RR}(h:Za w r s)(hr:Qe w rr M)(hk:A4 w0 r.rr rr)(hM:0<=M.tot/\0<=s.rm.tot/\s.rm.tot+M.tot<=4611686018427387904):Xf prog 149 #[.agg (Z8 r).toArray,.agg (A7 rr).toArray] w
 (λv w'=>∃r',v=.agg (Z8 r').toArray/\r'.rr={rr with cM:=0}/\Za w' r' {s with rm:={M with tot:=Xw s.rm.tot M.tot}}/\Zt w0 r r'/\Xc Xe w w'):=by
 have q:=hr.st;have t:=h.rs;refine aR func149 ntmps149 aA (bC aA λb U e1 G u L=>bC aA λrb V e2 x k N=>bC aA λqb W e3 y c O=>?_);have d:=(k.trans c).bP G;have f:=c.bP x;refine bB d aA (bB d aA (bB f aA (aV aA (aO aA (bF d aA λw4 A g P=>bF (g.heap f (by omega)) aA λw5 m i Q=>?_)))));refine bB m aA (bF (i.heap A (by omega)) aA λH j l R=>?_);obtain⟨r',er⟩:∃r':SR,r'={r with ra:={r.ra with cM:=r.ra.cM+rr.cM},rr:={rr with cM:=0}}:=⟨_,rfl⟩;replace j:Zk H b r':=by rw[er];exact j
 refine bB j aA (bF (l.heap (i.heap (g.heap y (by omega)) (by omega)) (by omega)) aA λn o B T=>?_);have a:=(((((u.trans k).trans c).sn g).sn i).sn l).sn B;have C:Qe n {rr with cM:=0} (Y7 M):={hr.bQ a with st:=rfl};have D:Yh n {r.ra with cM:=r.ra.cM+rr.cM}:=⟨(h.ra.bQ a).rd,h.ra.len,h.ra.lc,h.ra.rng⟩;have ht:r.ra.cM+rr.cM=Xw s.rm.tot M.tot:=by rw[t,q,Cv (by omega)]
 have I:=h.putRa a D h.rb ht (h.la.bQ a.size);have J:=I.putRr (Xc.refl Xe n) (M:={M with tot:=Xw s.rm.tot M.tot}) C ⟨hk.1,hk.2.1⟩ rfl;have E:Zt w0 r r':=⟨by rw[er],by rw[er],λS K F=>by
  have:=hk.2.2 S K F.rr;rw[er];exact {F with rr:=⟨this.o,this.f,this.sa,this.cI,this.la,this.lgo⟩}⟩
 exact aK func149 o aA ⟨r',rfl,by rw[er],by rw[er];exact J,E,a⟩
theorem Sa{r:SR}(h:Za w r s)(hl:s.mv.length<=16)(k:Nat)(hk:k<s.mv.length)(v:VR)(x:Option MvM)(hx:L0 x v):Xf prog 152 #[.agg (Z8 r).toArray,.int .i64 (k:Nat),.agg (C0 v).toArray] w
 (λu w'=>∃r',u=.agg (Z8 r').toArray/\r'.rr=r.rr/\Ej w r {s with mv:=s.mv.set k x} r' w'):=by
 have af:=h.mn;have ag:maxLen=9223372036854775807:=rfl;refine aR func152 ntmps152 aA (bC aA λrb w1 e1 E F ah=>bC aA λvb w2 e2 i j ai=>bC aA λob I e3 U f aj=>?_);replace i:w2.heap[vb]?=some (.cells (C0 v).toArray 142 (0,0)):=i;refine Xa.buildSlice Xb rfl λb4 w4 e4 V l ak=>aN aA ?_;have m:=(j.trans f).trans l;have J:=F.trans m;have K:=m.bP E;refine bB K aA ?_;have B:Xl I.heap.size 142 12 w4 (.slice (some ⟨b4,0,none⟩) 0 0) 0 (fl C0 []):=Xl.empty (by omega) V;refine Xa.appendA (base:=I.heap.size) (xs:=fl C0 []) (news:=fl C0 r.ms) Xb rfl B l.size h.mr.noneA (Jw Ss r.ms) ((h.mr.bR J).news Ss (by decide)) (Oj Xn8 r.ms) ⟨by omega,by show(0+r.ms.length)*112<=_;omega⟩ ?_;intro v5 W n a0 al;replace n:Xl I.heap.size 142 12 W v5 r.ms.length (fl C0 r.ms):=by
  have h:=n;rw[Oi,ZS,XT] at h;exact h
 have c:=B.bU l (XF _) a0;obtain⟨g,o,cur,rfl,am,a1,an,ao,a2⟩:=n.form (by omega);have p:cur.toList=fl C0 r.ms++cur.toList.drop (r.ms.length*12):=by
  have e:=XY (r.ms.length*12) cur.toList;rw[a2] at e;exact e.symm
 obtain⟨rest,C⟩:∃rest,rest=cur.toList.drop (r.ms.length*12):=⟨_,rfl⟩;rw[<-C] at p;have L:W.heap[g]?=some (.cells (fl C0 r.ms++rest).toArray 142 (0,0)):=by rw[<-p];exact a1
 have M:=c.bP (f.bP (j.bP E));have N:=c.bP (f.bP i);have O:=c.bP U;refine aN aA (bB N aA (aU (k*12) aA (aL aA L (Rh (cells:=C0) (y:=v) Ss (by omega)) aA λw6 a3 q ap=>?_)));have P:=q.heap M (by omega);have Q:=q.heap O (by omega);refine bF P aA λw7 d t aq=>?_;obtain⟨r',er⟩:∃r':SR,r'={r with ms:=r.ms.set k v,ma:=some ⟨g,0,none⟩,mcap:=o}:=⟨_,rfl⟩;replace d:Zk w7 rb r':=by
  rw[er];have a4:(r.ms.set k v).length=r.ms.length:=XG;unfold Zk Z8;simp only[a4];exact d
 have R:=t.heap Q (by omega);have a5:=t.heap a3 (by omega);refine bB d aA (bF R aA λw8 T G ar=>?_);have H:=G.heap a5 (by omega);have A:Xc Xe w w8:=(((((F.trans j).trans f).trans c).sn q).sn t).sn G;have hO:=h.putMv A (k:=k) (v:=v) (x:=x) (a:=some ⟨g,0,none⟩) (cap:=o) (Pk H Ss) (by intro b off s e;cases e;exact Xg H) (by rw[XG];omega) hx;have a6:Zt w r r':=⟨by rw[er],by rw[er],λS hS B=>by
  rw[er];exact {B with ma:=λb off s e D=>by cases e;have:=hS _ D;omega}⟩
 exact aK func152 T aA ⟨r',rfl,by rw[er],by rw[er];exact hO,a6,A⟩
variable {r:SR}
theorem U6{w:dD}{r:SR}{s:StM}(h:Za w r s)(hl:s.th.length<=4096)(k:Nat)(hk:k<s.th.length)(v:TR)(x:Option ThM)(hx:Ps x v)(hq:Zp w v.q/\Yr w v.q.pa):Xf prog 140 #[.agg (Z8 r).toArray,.int .i64 (k:Nat),.agg (D1 v).toArray] w
 (λu w'=>∃r',u=.agg (Z8 r').toArray/\Za w' r' {s with th:=s.th.set k x}/\(r'.c=r.c/\r'.cp=r.cp/\∀S:Nat->Prop,(∀z,S z->z<w.heap.size)->Bo S r->Xj S v.q.pa->Bo S r')/\Xc Xe w w'):=by
 have ai:=h.tn;have aj:maxLen=9223372036854775807:=rfl;refine aR func140 ntmps140 aA (bC aA λrb w1 e1 G H ak=>bC aA λvb w2 e2 j l al=>bC aA λob K e3 W i am=>?_);replace j:w2.heap[vb]?=some (.cells (D1 v).toArray 85 (0,0)):=j;refine Xa.buildSlice Xb rfl λb4 w4 e4 a0 m an=>aN aA ?_;have n:=(l.trans i).trans m;have L:=H.trans n;have M:=n.bP G;refine bB M aA ?_;have p:Xl K.heap.size 85 5 w4 (.slice (some ⟨b4,0,none⟩) 0 0) 0 (fl D1 []):=Xl.empty (by omega) a0;refine Xa.appendA (base:=K.heap.size) (xs:=fl D1 []) (news:=fl D1 r.ts) Xb rfl p m.size h.tr.noneA (Jw Sr r.ts) ((h.tr.bR L).news Sr (by decide)) (Oj XnR r.ts) ⟨by omega,by show(0+r.ts.length)*56<=_;omega⟩ ?_;intro v5 w5 q a2 ao;replace q:Xl K.heap.size 85 5 w5 v5 r.ts.length (fl D1 r.ts):=by
  have h:=q;rw[Oi,ZS,XT] at h;exact h
 have c:=p.bU m (XF _) a2;obtain⟨g,A,cur,rfl,ap,a3,aq,ar,a4⟩:=q.form (by omega);have B:cur.toList=fl D1 r.ts++cur.toList.drop (r.ts.length*5):=by
  have e:=XY (r.ts.length*5) cur.toList;rw[a4] at e;exact e.symm
 obtain⟨rest,E⟩:∃rest,rest=cur.toList.drop (r.ts.length*5):=⟨_,rfl⟩;rw[<-E] at B;have N:w5.heap[g]?=some (.cells (fl D1 r.ts++rest).toArray 85 (0,0)):=by rw[<-B];exact a3
 have O:=c.bP (i.bP (l.bP G));have P:=c.bP (i.bP j);have Q:=c.bP W;refine aN aA (bB P aA (aU (k*5) aA (aL aA N (Rh (cells:=D1) (y:=v) Sr (by omega)) aA λw6 a5 C au=>?_)));have R:=C.heap O (by omega);have T:=C.heap Q (by omega);refine bF R aA λw7 f D av=>?_;obtain⟨r',er⟩:∃r':SR,r'={r with ts:=r.ts.set k v,ta:=some ⟨g,0,none⟩,tcap:=A}:=⟨_,rfl⟩;replace f:Zk w7 rb r':=by
  rw[er];have a6:(r.ts.set k v).length=r.ts.length:=XG;unfold Zk Z8;simp only[a6];exact f
 have U:=D.heap T (by omega);have a7:=D.heap a5 (by omega);refine bB f aA (bF U aA λw8 V I aw=>?_);have J:=I.heap a7 (by omega);have d:Xc Xe w w8:=(((((H.trans l).trans i).trans c).sn C).sn D).sn I;have hO:=h.putTh d (o:=k) (t:=v) (x:=x) (a:=some ⟨g,0,none⟩) (cap:=A) (Pk J Sr) (by intro b off s e;cases e;exact Xg J) (by rw[XG];omega) hx ⟨hq.1.bQ d,hq.2.bQ d.size⟩;have a8:r'.c=r.c/\r'.cp=r.cp/\∀S:Nat->Prop,(∀z,S z->z<w.heap.size)->Bo S r->Xj S v.q.pa->Bo S r':=⟨by rw[er],by rw[er],λS hS p hv=>by
  rw[er];exact {p with ta:=λb off s e F=>by cases e;have:=hS _ F;omega,tq:=λt ht=>(ZO ht).elim (p.tq t) (λe=>e▸hv)}⟩
 exact aK func140 V aA ⟨r',rfl,by rw[er];exact hO,a8,d⟩
section
variable {w:dD}{r:SR}{s:StM}{pd:Option (Nat×PlcM)}
theorem Sk(hs:s.OkP c pd):s.th.length<=4096:=by
 have h:=hs.may;have ht:=hs.tl;unfold Zb at h;simp only[XK,decide_eq_true_eq,Qy] at h;omega
theorem Xg8(hs:s.OkP c pd){t:ThM}(h:B3 s (o:Nat)=some t):1<=t.size/\t.size<=2097152:=by
 obtain⟨j,e,_,a⟩:=XcC h;have:=hs.size j t a;have:=(Ye hs.may).cH;omega
end
theorem U5{w:dD}{r:SR}{s:StM}{pd:Option (Nat×PlcM)}(h:Za w r s)(hs:s.OkP c pd)(o:Int):Xf prog 136 #[.agg (Z8 r).toArray,.int .i64 o] w (Grow (.int .i64 (Z7 s o)) w):=by
 have l:=h.tn;refine aR func136 ntmps136 aA (bC aA λb n e1 f a m=>?_);by_cases g:o<0
 .have e:Z7 s o=1:=by unfold Z7;rw[bK (.inl g)]
  rw[e];exact bI aA (bE func136 aA ⟨rfl,a⟩)
 .obtain⟨j,rfl⟩:=XE (show 0<=o by omega);refine aS aA (bB f aA ?_);by_cases i:j<r.ts.length
  .refine aS aA (bB f aA ?_);obtain⟨k,p,off,ea,d⟩:=(h.bQ a).trow i;rw[ea];refine aU (j*5) aA (aW aA (d 0 _ rfl) aA ?_);rw[k.1];cases ht:B3 s (j:Nat) with
   |none=>
    have e:Z7 s (j:Nat)=9:=by unfold Z7;rw[bJ (by omega),ht]
    rw[e];exact bI aA (bE func136 aA ⟨rfl,a⟩)
   |some t=>
    have e:Z7 s (j:Nat)=0:=by unfold Z7;rw[bJ (by omega),ht]
    have:=Xg8 hs ht;rw[e];exact aI aA (by show(t.size == 0)=false;simp;omega) (bE func136 aA ⟨rfl,a⟩)
  .have e:Z7 s (j:Nat)=1:=by unfold Z7;rw[bK (by omega)]
   rw[e];exact bI aA (bE func136 aA ⟨rfl,a⟩)
theorem Xf5{w:dD}{r:SR}{s:StM}{pd:Option (Nat×PlcM)}(h:Za w r s)(hs:s.OkP c pd)(o i n:Int)(hi : -9223372036854775808<=i/\i<=9223372036854775807)(hn : -9223372036854775808<=n/\n<=9223372036854775807):Xf prog 215 #[.agg (Z8 r).toArray,.int .i64 o,.int .i64 i,.int .i64 n] w (Grow (.int .i64 (Qo s o i n)) w):=by
 have B:=h.tn;refine aR func215 ntmps215 aA (bC aA λb G e1 p k C=>?_);refine bB p aA (bG (U5 (h.bQ k) hs o) aA λH l=>?_);have a:=k.trans l;by_cases d:Z7 s o=0
 .obtain⟨j,t,rfl,ht⟩:=J0 d;have q:=Hg ht;have z:j<r.ts.length:=by have:=(XC.1 ht).1;omega
  have I:=Xg8 hs q;have m:=Ey ht;rw[d];refine aS aA (bB (l.bP p) aA ?_);obtain⟨A,J,off,ea,f⟩:=(h.bQ a).trow z;have u:r.ts[j].size=t.size:=by rw[A.1,q];rfl
  rw[ea];refine aU (j*5) aA (aW aA (f 0 _ rfl) aA ?_);rw[u];by_cases g:i<0\/n<0\/t.size<n\/t.size-n<i
  .have e:Qo s (j:Nat) i n=8:=by unfold Qo;rw[bJ (λh=>h d),m,bK g]
   rw[e];refine aT aA (λv=>?_) λv=>?_
   .exact bE func215 aA ⟨rfl,a⟩
   .have D:=bM v;refine aT aA (λx=>?_) λx=>?_
    .exact bE func215 aA ⟨rfl,a⟩
    .have E:=bM x;refine aT aA (λy=>?_) λy=>?_
     .exact bE func215 aA ⟨rfl,a⟩
     .have F:=bM y;exact aV aA (bI aA (bE func215 aA ⟨rfl,a⟩))
  .have e:Qo s (j:Nat) i n=0:=by unfold Qo;rw[bJ (λh=>h d),m,bJ g]
   rw[e];exact aS aA (aS aA (aS aA (aV aA (aS aA (bE func215 aA ⟨rfl,a⟩)))))
 .have e:Qo s o i n=Z7 s o:=by unfold Qo;rw[bK d]
  rw[e];exact aM aA (by simpa using d) (bE func215 aA ⟨rfl,a⟩)
def Kc(t:Int)(M1 M0:RmM):Prop:={M0 with tot:=Xw t M0.tot}=M1/\0<=M0.tot/\M0.tot<=10000
theorem Xav{n:Int}(h:0<=n/\n<=4611686018427387904):Xw 0 n=n:=by unfold Xw;split <;> omega
theorem Jv(M:RmM):Kc M.tot M (Y7 M):=⟨by show({M with tot:=Xw M.tot 0}:RmM)=M;rw[N8],QN _,show(0:Int)<=10000 by decide⟩
theorem XdX(h1:Zf M.pl<=1024){q:PlM}(h2:Zf q<=1024):Kc M.tot (J5 M k x q) (J5 (Y7 M) k x q):=by
 have a:0<=I0 M.pl q/\I0 M.pl q<=10000:=by unfold I0;omega
 have e:(J5 (Y7 M) k x q).tot=I0 M.pl q:=Xav (n:=I0 M.pl q) (by omega);refine⟨?_,by rw[e];exact a.1,by rw[e];exact a.2⟩;rw[e];rfl
theorem Rk(h:Qa c M):Zf M.pl<=1024:=by
 have a:=h.cU.cV.many;have b:=h.cU.cV.len;unfold Zf;omega
theorem XaF(h:Qa c M)(k who:Int):Kc M.tot (Qj M k who) (Qj (Y7 M) k who):=by
 have a:=Rk (h.take k who);unfold Qj at a⊢;have e:Zq (Y7 M) k=Zq M k:=rfl;rw[e];cases b:Zq M k with
 |none=>exact Jv M
 |some x=>
  rw[b] at a;simp only at a⊢
  split
  .rename_i d
   rw[bK d] at a;exact XdX (Rk h) a
  .exact Jv M
theorem XaE(h:Qa c M)(k n i:Int):Kc M.tot (Q2 M k n i) (Q2 (Y7 M) k n i):=by
 have a:=Rk (h.give k n i);unfold Q2 at a⊢;have e:Zq (Y7 M) k=Zq M k:=rfl;rw[e];cases b:Zq M k with
 |none=>exact Jv M
 |some x=>
  rw[b] at a;simp only at a⊢
  split
  .rename_i d
   rw[bK d] at a;exact XdX (Rk h) a
  .exact Jv M
theorem Se(h:Qa c M):Qa c (Y7 M):=⟨{h.ok with tot:=by show(0:Int)<=0/\(0:Int)<=4611686018427387904;decide},⟨h.cU.sh,h.cU.cV⟩,h.pos⟩
theorem XlO(cG bV:Int)(w:dD)(hk : -4611686018427387904<=bV/\bV<=4611686018427387904):Xf prog 144 #[.int .i64 cG,.int .i64 bV] w (X5 (.bool (Hp cG bV)) w):=by
 refine aR func144 ntmps144 aA (aT aA (λa=>?_) λa=>?_)
 .have e:Hp cG bV=decide (bV+1<cG):=by unfold Hp;rw[a,YJ]
  rw[e];exact aV aA (bE func144 aA ⟨rfl,rfl⟩)
 .have e:Hp cG bV=false:=by unfold Hp;rw[a,YZ]
  rw[e];exact bE func144 aA ⟨rfl,rfl⟩
theorem XfY(h:Za w r s)(hs:s.Ok r.c)(k:Nat)(hk:k<s.mv.length)(ht:0<=s.rm.tot/\s.rm.tot<=1000000000000):Xf prog 86 #[.agg (Z8 r).toArray,.int .i64 (k:Nat)] w
 (λv w'=>∃r',v=.agg (Z8 r').toArray/\Ej w r (Yw r.c s k) r' w'):=by
 have hl:=h.mn;have a1:s.mv.length<=16:=by have:=hs.ml;have:=(Ye hs.may).n;omega
 have S:k<s.bV.length:=by have:=hs.ml;have:=hs.kl;omega
 have bm:k<r.c.bT.length:=by have:=hs.ml;omega
 have c7:k<r.bV.length:=by rw[h.ke];exact S
 have cm:0<=s.bV.getD k 0/\s.bV.getD k 0<=1024:=by
  rw[XA,XD S];exact hs.kr _ (XM S)
 have a2:=Se hs.rm;have ai:∀who,Kc s.rm.tot (Qj s.rm k who) (Qj (Y7 s.rm) k who):=λwho=>XaF hs.rm k who;refine aR func86 ntmps86 aA (bC aA λb w1 e1 hb bn cn=>bC aA λqb w2 e2 a3 aq co=>?_);have B:=aq.bP hb;have C:=bn.trans aq;have h2:=h.bQ C;obtain⟨kb,koff,eka,F⟩:=h2.kr k (by rw[h.ke];exact S);have bo:r.bV.getD k 0=s.bV.getD k 0:=by rw[h.ke]
 rw[bo] at F;cases hm:(Xy s (k:Nat)).isSome with
 |true=>
  have g:Br s k=false:=by
   unfold Br;cases hx:Xy s (k:Nat) with
   |none=>rw[hx] at hm;cases hm
   |some x=>rfl
  have eS:Yw r.c s k=s:=by unfold Yw;rw[g];rfl
  rw[eS];refine aQ 13 Xe (by kernel_rfl) aA λc=>aE c B aA (aG c (λw' q=>Ln (h2.bQ q) a1 (k:Nat)) aA (Xd.yes Xb c rfl hm rfl (aF c aA λw3 i=>?_)));exact bB (i.bP B) aA (bF (i.bP a3) aA λwr G H ar=>aK func86 G aA ⟨r,rfl,.self h ((C.trans i).sn H)⟩)
 |false=>
  have bp:(Xy s (k:Nat)).isNone=true:=by
   cases hx:Xy s (k:Nat) with
   |none=>rfl
   |some x=>rw[hx] at hm;cases hm
  refine aQ 13 Xe (by kernel_rfl) aA λc=>aE c B aA (aG c (λw' q=>Ln (h2.bQ q) a1 (k:Nat)) aA (Xd.no Xb c rfl hm rfl (aE c B aA (aG c (λw' q=>U4 r.rr (Y7 s.rm) (k:Nat) w' (h2.rr.bQ q)) aA (aE c B aA ?_)))));rw[eka];refine aB k c aA (aD c F aA (aF c aA λw3 i=>?_));have a4:=i.bP B;have a5:=i.bP a3;have N:=C.trans i;have eo:Qq (Y7 s.rm) (k:Nat)=Qq s.rm (k:Nat):=rfl;rw[eo];refine bH (XlO (Qq s.rm (k:Nat):Nat) (s.bV.getD k 0) w3 (by omega)) aA ?_;cases hd:Hp (Qq s.rm (k:Nat):Nat) (s.bV.getD k 0) with
  |false=>
   have g:Br s k=false:=by unfold Br;rw[hd,YE,YZ]
   have eS:Yw r.c s k=s:=by unfold Yw;rw[g];rfl
   rw[eS];refine bI aA ?_;exact bB a4 aA (bF a5 aA λwr G H ar=>aK func86 G aA ⟨r,rfl,.self h (N.sn H)⟩)
  |true=>
   refine aS aA (bB a4 aA ?_);have au:=XlZ r.rr (Y7 s.rm) (k:Nat) w3 (h.bQ N).rr a2.cU;obtain⟨⟨pf,fa,pt,ta⟩,ePl⟩:∃p,p=Ym s.rm (k:Nat):=⟨_,rfl⟩;have b8:Nb (Y7 s.rm) (k:Nat)=Kt pf fa pt ta:=by rw[Xgh,show Ym (Y7 s.rm) (k:Nat)=Ym s.rm (k:Nat) from rfl,<-ePl]
   have ePb:Jg (Y7 s.rm) (k:Nat)=Jg s.rm (k:Nat):=rfl;rw[b8,ePb] at au;refine bG au aA λw4 av=>bC aA λxb w5 e5 b9 br cp=>bF b9 aA λw6 O bs cq=>?_;have z3:=i.size;have z4:=av.size;have u:=(av.trans br).sn bs;have J:=u.bP a4;have a6:=u.bP a5;have y:=N.trans u;cases hp:Jg s.rm (k:Nat) with
   |false=>
    have g:Br s k=false:=by unfold Br;rw[hp,YE]
    have eS:Yw r.c s k=s:=by unfold Yw;rw[g];rfl
    rw[eS];refine bI aA ?_;exact bB J aA (bF a6 aA λwr G H ar=>aK func86 G aA ⟨r,rfl,.self h (y.sn H)⟩)
   |true=>
    have g:Br s k=true:=by unfold Br;rw[bp,hd,hp];rfl
    refine aS aA ?_;obtain⟨P,_,c6,⟨o,t,K,cr,aw⟩,hf,ax⟩:=Xai hs g;have P2:=P.n (o:Int) (by omega);have P3:=P.a (o:Int) (by omega);rw[<-ePl] at P2 P3 K aw hf ax;simp only at P2 P3 K aw hf ax
    have T:=StM.OkP.begin hs k;have eB:Yw r.c s k={s with rm:=Qj s.rm (k:Nat) (o:Nat),mv:=s.mv.set k (some (Ks r.c s.rm k))}:=by unfold Yw;rw[bK g,<-ePl];simp only;rw[K]
    rw[eB] at T⊢;obtain⟨m,em⟩:∃m,m=Ks r.c s.rm k:=⟨_,rfl⟩;rw[<-em] at T⊢;obtain⟨_,_,_,mf,mt,ms,_⟩:=T.mv k m (by show(s.mv.set k _)[k]?=_;rw[XH hk]);have bw:m.who=o/\m.pf=pf/\m.fa=fa/\m.pt=pt/\m.ta=ta/\m.cE=0:=by rw[em];unfold Ks;rw[<-ePl];exact⟨K,rfl,rfl,rfl,rfl,rfl⟩
    obtain⟨bx,ay,az,b0,b1,bz⟩:=bw;rw[ay,az] at mf;rw[b0,b1] at mt;have h6:=h.bQ y;refine bB J aA (bB O aA (bB O aA ?_));have b2:=XlX r.rr (Y7 s.rm) (k:Nat) pf fa w6 h6.rr a2.cU;rw[show Zd (Y7 s.rm) (k:Nat) pf fa=(o:Int) from K] at b2;refine bG b2 aA λw7 L=>?_;refine bB (L.bP J) aA (aP aA (XfS r.rr (Y7 s.rm) (k:Nat) (o:Nat) w7 (h6.bQ L).rr a2.cU ⟨QN _,show(0:Int)<=4611686018427000000 by decide⟩) ?_);rintro _ w8 ⟨cs,rfl,ba,c1,c2⟩;refine aN aA (bC aA λab w9 e9 bb c3 ct=>bF bb aA λcu ak bc cd=>?_);have bd:=L.trans c2;have a7:=c3.sn bc;have D:=bd.trans a7;have hT:=ai (o:Nat);refine bB (D.bP J) aA (bB ak aA (aP aA (Sb (h.bQ (y.trans D)) (ba.bQ a7) c1 ⟨hT.2.1,ht.1,by have:=hT.2.2;omega⟩) ?_));rintro _ cv ⟨A,rfl,ce,a8,bf,a9⟩;refine aN aA (bC aA λtb cw cx al aa cf=>bF al aA λc4 am ac cg=>?_);rw[hT.1] at a8;have cy:=a9.size;have f:=D.trans ((a9.trans aa).sn ac);have U:=y.trans f;have Q:=f.bP J;have l:=f.bP O;have ad:=h.bQ U;refine bB Q aA (bB l aA (bB l aA (aO aA ?_)));have M:=XbQ r.c r.cp ⟨(k:Nat),pf,fa,none,0,[]⟩ c4 ad.cO (J2 _ _ _) hs.may;rw[show Ai r.c ⟨(k:Nat),pf,fa,none,0,[]⟩=(m.f:Int) from mf.symm] at M;refine bG M aA λc5 E=>?_;have V:=E.bP l;refine bB (E.bP Q) aA (bB V aA (bB V aA (aO aA ?_)));have M:=XbQ r.c r.cp ⟨(k:Nat),pt,ta,none,0,[]⟩ c5 (ad.bQ E).cO (J2 _ _ _) hs.may;rw[show Ai r.c ⟨(k:Nat),pt,ta,none,0,[]⟩=(m.t:Int) from mt.symm] at M;refine bG M aA λcz bg=>?_;have a:=E.trans bg;have W:=a.bP am;have R:=(a8.bQ (aa.sn ac)).bQ a;obtain⟨cb,coff,eca,b3⟩:=((ad.bQ a).cO).bT k bm;have esz:r.c.bT.getD k 0=(m.size:Int):=by rw[ms];unfold Ya;rw[XB]
    rw[esz] at b3;have d0:A.ra.bs.length=s.bs.length:=by rw[R.rb]
    have bh:Oz A.ra.bs.length m.f m.t m.size=true:=Ui.2 (by obtain⟨l1,l2,l3,l4⟩:=(Kr T (k:=k) (m:=m) (by show(s.mv.set k _)[k]?=_;rw[XH hk]));simp only at l1 l2;omega);refine aQ 16 Xe (by kernel_rfl) aA λc=>aE c W aA (aE c (a.bP Q) aA ?_);rw[eca];refine Xd.index Xb c rfl (j:=k) (by omega) (by omega) (by first|rfl|omega|(simp;done)|(simp;omega)) rfl ?_;refine Xd.load Xb c rfl b3 (by first|exact λh=>h|(intro h;omega)|assumption) rfl ?_;refine Xd.call Xb c rfl (λw' q=>XlP A.ra m.f m.t m.size w' ((R.ra).bQ q) bh) rfl ?_;refine Xd.cK c rfl λd1 ae=>Xn.alloc Xb c rfl (λ_=>rfl) λyb d2 d3 an bi cj=>?_;have d4:=ae.size;refine Xd.cK c rfl λd5 af=>Xn.store Xb c rfl (af.bP an) (by first|(intro h;exact rfl)|(intro h;omega)) rfl rfl rfl λd6 ao bj ck=>aF c aA λd7 ag=>?_;have d:=(((ae.trans bi).trans af).sn bj).trans ag;have bk:L0 (some m) ⟨true,(o:Nat),pf,fa,pt,ta,A.ra.a,A.ra.bs.length,A.ra.cap,A.ra.cM,m.f,m.t,m.size,0⟩:=⟨rfl,λm' e=>by cases e;exact⟨bx.symm,ay.symm,az.symm,b0.symm,b1.symm,rfl,rfl,rfl,by rw[bz];rfl⟩⟩;refine bB (d.bP W) aA (bB (d.bP (a.bP l)) aA (bB (ag.bP ao) aA (aO aA (aP aA ((Sa (R.bQ d) a1 k hk _ (some m) bk)) ?_))));rintro _ d8 ⟨b4,rfl,_,n⟩;have d9:=(y.trans L).size;refine aN aA (bF (n.2.2.bP (d.bP (a.bP (f.bP a6)))) aA λda ap ah cl=>?_);have a0:=(((U.trans a).trans d).trans n.2.2).sn ah;have b5:Zt w2 r b4:=(bf.dC (by have:=(u.trans L).size;omega)).trans n.2.1 (by have:=((u.trans f).trans (a.trans d)).size;omega);exact aK func86 ap aA ⟨b4,rfl,(h.box b5 n.1 (by omega) (by have:=Xg a3;omega) ah a0),b5.dC C.size,a0⟩
theorem XbV(h:Za w r s)(hs:s.Ok r.c){m:MvM}(hm:s.mv[k]?=some (some m))(n:Int)(ht:0<=s.rm.tot/\s.rm.tot<=1000000000000):Xf prog 88 #[.agg (Z8 r).toArray,.int .i64 (k:Nat),.int .i64 n] w
 (λv w'=>∃r',v=.tuple #[.agg (Z8 r').toArray,.int .i64 (Zv m n:Nat)]/\Ej w r (Yo s k n) r' w'):=by
 have hl:=h.mn;have bt:s.mv.length<=16:=by have:=hs.ml;have:=(Ye hs.may).n;omega
 have hk:=(XC.1 hm).1;have bu:k<r.ms.length:=by omega
 obtain⟨⟨o,t,ew,et,eq⟩,ea,en,_,_,_,f4⟩:=hs.mv k m hm;have f5:Zv m n<=m.size-m.cE:=Tz m n;obtain⟨l1,l2,l3,_⟩:=Kr hs hm;obtain⟨sa,sl,sc,sst,ev⟩:∃sa sl sc sst,r.ms[k]=⟨true,m.who,m.pf,m.fa,m.pt,m.ta,sa,sl,sc,sst,m.f,m.t,m.size,m.cE⟩:=by
  obtain⟨⟨a1,a2⟩,_⟩:=h.mrow bu;obtain⟨b1,b2,b3,b4,b5,b6,b7,b8,b9⟩:=a2 m (Dx hm);rw[Dx hm] at a1;generalize r.ms[k]=v at *
  obtain⟨i1,i2,i3,i4,i5,i6,i7,i8,i9,dd,f7,f8,f9,fa⟩:=v;simp only at a1 b1 b2 b3 b4 b5 b6 b7 b8 b9
  subst b1;subst b2;subst b3;subst b4;subst b5;subst b6;subst b7;subst b8;subst b9;exact⟨i7,i8,i9,dd,by rw[a1];rfl⟩
 refine aR func88 ntmps88 aA (bC aA λb w1 e1 hb de fb=>bC aA λqb w2 e2 bv bw fc=>?_);replace hb:Zk w1 b r:=hb;have ai:=bw.bP hb;have W:=de.trans bw;have z2:=W.size;obtain⟨_,a0,off,ema,a7⟩:=(h.bQ W).mrow bu;rw[ev] at a7;refine bB ai aA ?_;rw[ema];refine aU (k*12) aA (Xa.loadC Xb (C0 ⟨true,m.who,m.pf,m.fa,m.pt,m.ta,sa,sl,sc,sst,m.f,m.t,m.size,m.cE⟩) rfl (by first|rfl|(simp;done)|(simp[*];done)|(simp;omega)) (a7) rfl (bC aA λxb w3 e3 dg dh fd=>bF dg aA λw4 c9 di fe=>?_));have aj:Xc Xe w2 w4:=dh.sn di;have dj:=aj.bP ai;refine bB dj aA (bF c9 aA λw5 ak dk ff=>?_);have H:Xc Xe w2 w5:=aj.sn dk;have a3:=W.trans H;have dl:=H.bP ai;have ca:=H.bP bv;have h5:=h.bQ a3;have hM:K6 w5 ⟨r.ra,m.f,m.t,m.size,m.cE⟩:=⟨h5.ra,l3,by show m.cE<=m.size;omega,by rw[h.rb];exact l1,by rw[h.rb];exact l2⟩;refine bB ak aA (aP aA (XlQ ⟨r.ra,m.f,m.t,m.size,m.cE⟩ n w5 hM ⟨by show 0<=r.ra.cM;rw[h.rs];exact ht.1,by show r.ra.cM<=_;rw[h.rs];exact ht.2⟩) ?_);rintro _ w6 ⟨⟨a,f6,t6,fg,g6⟩,rfl,x1,x2,x3,x4,x5,x6,u,M,am⟩;refine aN aA ?_;simp only at x1 x2 x3 x4 x5 x6 u am
 subst x3;subst x4;subst x5;subst x6;have cd:=a3.trans M;have z5:=a3.size;have bx:=H.size;have z6:=M.size;have eg:Ed n (m.size-m.cE)=Zv m n:=rfl;rw[eg] at x1 x2;rw[h.rb] at x1;have dr:0<a.bs.length:=by
  rw[x1,Xci (size:=m.size) (by omega) l1 l2];omega
 have ce:Yr w6 a.a:=λb' off' s' e=>u.rd.block dr e;refine bC aA λyb w7 e7 cf ds fh=>bF cf aA λw8 an dt fi=>?_;have D:Xc Xe w6 w8:=ds.sn dt;have lq:=Xg bv;have du:=(M.trans D).bP dl;have cg:=(M.trans D).bP ak;have ch:=(M.trans D).bP ca;refine bB an aA (bF du aA λw9 ao N fj=>?_);obtain⟨O,p⟩:∃O:SR,O={r with ra:=a}:=⟨_,rfl⟩;replace ao:Zk w9 b O:=by rw[p];exact ao
 have ap:=N.heap an (by omega);have ci:=N.heap cg (by omega);refine bB ap aA (bF ci aA λP A E ex=>?_);obtain⟨v,ev'⟩:∃v:VR,v=⟨true,m.who,m.pf,m.fa,m.pt,m.ta,a.a,a.bs.length,a.cap,a.cM,m.f,m.t,m.size,(m.cE+Zv m n:Nat)⟩:=⟨_,rfl⟩;replace A:P.heap[xb]?=some (.cells (C0 v).toArray 142 (0,0)):=by rw[ev'];exact A
 have a8:=E.heap ap (by omega);have a4:=E.heap ao (by omega);have a9:=E.heap (N.heap ch (by omega)) (by omega);have I:Xc Xe w P:=(((cd.trans D).sn N).sn E);have aa:Xc (λz=>z=b\/z=xb) w6 P:=(D.gr.trans (N.mono λ_ _ e=>.inl e)).trans (E.mono λ_ _ e=>.inr e);have bd:Xj (λz=>z=b\/z=xb) a.a:=λb' off' s' e l=>by
  rcases am with⟨g,eg',cj⟩|eg'
  .rw[eg'] at e;cases e;omega
  .have:=h.la b' off' s' (eg'▸e);omega
 have be:Yh P a:=⟨u.rd.bW bd aa,u.len,u.lc,u.rng⟩;have ey:s.bs.length<=4194304:=by rw[<-h.rb];exact h.ra.len
 have ck:a.cM=Xw s.rm.tot (Zv m n:Nat):=by
  rw[x2,h.rs,Cv (by omega)]
 have aq:Za P O (Ae s m n):=p▸h.putRa I be x1 ck (ce.bQ aa.size);have ar:∀{w0:dD},w0.heap.size<=w5.heap.size->Zt w0 r O:=λl=>⟨by rw[p],by rw[p],λS hS ho=>by
  have dw:Xj S a.a:=λb' off' s' e bz=>by
   rcases am with⟨g,eg',cj⟩|eg'
   .rw[eg'] at e;cases e;have:=hS _ bz;omega
   .exact ho.ra b' off' s' (eg'▸e) bz
  rw[p];exact {ho with ra:=dw}⟩
 refine bB a8 aA (bB a8 aA ?_);by_cases c0:m.cE+Zv m n<m.size
 .have eG:Yo s k n={Ae s m n with mv:=s.mv.set k (some {m with cE:=m.cE+Zv m n})}:=by unfold Yo;rw[Dx hm];simp only;rw[bK c0]
  rw[eG];have cl:L0 (some {m with cE:=m.cE+Zv m n}) v:=by rw[ev'];exact⟨rfl,λm' e=>by cases e;exact⟨rfl,rfl,rfl,rfl,rfl,rfl,rfl,rfl,rfl⟩⟩
  refine aM aA (bN (show((m.cE+Zv m n:Nat):Int)<((m.size:Nat):Int) by omega)) (bB a4 aA (bB A aA (aP aA (Sa aq bt k hk v (some {m with cE:=m.cE+Zv m n}) cl) ?_)));rintro _ c1 ⟨F,rfl,_,i⟩;refine aN aA (bF (i.2.2.bP a9) aA λc2 bf au cm=>?_);have ac:Xc Xe w c2:=(I.trans i.2.2).sn au;have Q:Zt w2 r F:=(ar bx).trans i.2.1 (by omega);exact aK func88 bf aA ⟨F,rfl,h.box Q i.1 (by omega) (by omega) au ac,Q.dC z2,ac⟩
 .have eG:Yo s k n={Ae s m n with mv:=s.mv.set k none,th:=s.th.set m.who.toNat (some ⟨Qw s m.who,⟨k,m.pt,m.ta,[]⟩⟩),rm:=Q2 (Ae s m n).rm k m.pf m.fa}:=by unfold Yo;rw[Dx hm];simp only;rw[bJ c0]
  have dx:m.who.toNat=o:=by omega
  have dy:Qw s m.who=t.size:=by unfold Qw;rw[ew,Hg et]
  rw[eG,dx,dy];have dz:o<s.th.length:=(XC.1 et).1;have av:o<r.ts.length:=by have:=h.tn;omega
  refine aI aA (bO (show ¬((m.cE+Zv m n:Nat):Int)<((m.size:Nat):Int) by omega)) (bB a4 aA (aO aA (aP aA (Sa aq bt k hk K3 none ⟨rfl,λ_ e=>by cases e⟩) ?_)));rintro _ c1 ⟨F,rfl,_,i⟩;refine aN aA ?_;have fk:=i.2.2.size;refine bC aA λtb c2 fm bg cn cm=>bF bg aA λaw B co ez=>?_;replace B:Zk aw tb F:=B;have R:Xc Xe c1 aw:=cn.sn co;have c:=i.2.2.trans R;have cp:=c.bP a4;have f:=c.bP A;have bh:=c.bP a9;have e0:=i.1.bQ R;have e4:=aq.bQ c;have T:Zt w2 r F:=(ar bx).trans i.2.1 (by omega);obtain⟨cq,fn,toff,eta,ax⟩:=(e4.trow (by rw[p];exact av):Ps (B3 (Ae s m n) (o:Nat)) (O.ts[o]'(by rw[p];exact av))/\_);have e5:(O.ts[o]'(by rw[p];exact av)).size=t.size:=by
   rw[cq.1,show B3 (Ae s m n) (o:Nat)=B3 s (o:Nat) from rfl,Hg et];rfl
  rw[ev'] at f;refine aQ 19 Xe (by kernel_rfl) aA λG=>aE G B aA (aE G f aA (aE G cp aA (aE G f aA ?_)));rw[eta,ew];refine Xd.index Xb G rfl (j:=o*5) (show(0:Int)<=(o:Int) by omega) (show(o:Int)<(O.ts.length:Nat) by rw[p];show(o:Int)<(r.ts.length:Nat);omega) (by simp) rfl (aD G (ax 0 _ rfl) aA ?_);rw[e5];refine aE G f aA (aE G f aA (Xd.build Xb G rfl rfl (Xd.build Xb G rfl rfl (aF G aA λfo d=>?_))));have bi:=d.bP f;have bj:=d.bP bh;have bk:=d.bP B;have e6:=e0.bQ d;have e8:=U6 e6 (show s.th.length<=4096 from Sk hs) o dz ⟨t.size,⟨(k:Nat),m.pt,m.ta,none,0,[]⟩⟩ (some ⟨t.size,⟨(k:Nat),m.pt,m.ta,[]⟩⟩) ⟨rfl,λy e=>by cases e;rfl⟩ ⟨J2 _ _ _,λ_ _ _ e=>by cases e⟩;refine aP aA (e8) ?_;rintro _ e9 ⟨U,rfl,eb,⟨a5,a6,ay⟩,x⟩;have ef:=(d.trans x).size;refine aN aA (bF (x.bP bk) aA λaz C J f0=>?_);replace C:Zk az tb U:=C;have ad:=J.heap (x.bP bi) (by omega);have bm:=J.heap (x.bP bj) (by omega);have fp:=d.size;have ec:Zt w2 r U:=⟨a5.trans T.1,a6.trans T.2.1,λS hS ho=>ay S (λz l=>by have:=hS z l;omega) (T.2.2 S hS ho) (λ_ _ _ e=>by cases e)⟩;have cr:Zt aw F U:=⟨a5,a6,λS hS ho=>ay S (λz l=>by have:=hS z l;have:=d.size;omega) ho (λ_ _ _ e=>by cases e)⟩;have cs:Bo (λz=>z=tb) F:=i.1.out (λz e=>by omega);have ct:Bo (λz=>z=tb) U:=cr.2.2 _ (λz e=>by omega) cs;have bn:Xc Xe w e9:=((I.trans c).trans d).trans x;have K:Xc Xe w az:=bn.sn J;have c3:=eb.bW ct (by have:=h.cO.bR K;rw[a5.trans T.1,a6.trans T.2.1];exact this) J;have c4:Qa r.c (Ae s m n).rm:=(StM.OkP.step hs hm n).rm;have hG:=XaE c4 (k:Nat) m.pf m.fa;refine bB C aA (bB ad aA (bB ad aA (aP aA (XfR U.rr (Y7 (Ae s m n).rm) (k:Nat) m.pf m.fa az c3.rr (Se c4).cU ⟨QN _,show(0:Int)<=4611686018427000000 by decide⟩) ?_)));rintro _ ed ⟨cv,rfl,bo,cw,cx⟩;refine aN aA (bC aA λab fq fr bp cy f1=>bF bp aA λc5 L cz f2=>?_);replace L:Yn c5 ab cv:=L;have V:Xc Xe ed c5:=cy.sn cz;have q:=cx.trans V;refine bB (q.bP C) aA (bB L aA ?_);have bq:0<=(Ae s m n).rm.tot/\(Ae s m n).rm.tot<=1000004194304:=by
   show 0<=Xw s.rm.tot (Zv m n:Nat)/\Xw s.rm.tot (Zv m n:Nat)<=_
   rw[Cv (by omega)];omega
  refine aP aA (Sb (c3.bQ q) (bo.bQ V) cw ⟨hG.2.1,bq.1,by have:=hG.2.2;show(Ae s m n).rm.tot+_<=_;omega⟩) ?_;rintro _ fs ⟨c6,rfl,_,b0,d0,ba⟩;refine aN aA ?_;rw[hG.1] at b0;have br:=ba.bP (q.bP bm);have ft:=K.size;refine bF br aA λee bs bb f3=>?_;have ae:Xc Xe w ee:=((K.trans q).trans ba).sn bb;have Q:Zt w2 r c6:=ec.trans d0 (by have:=x.size;omega);exact aK func88 bs aA ⟨c6,rfl,h.box Q b0 (by omega) (by omega) bb ae,Q.dC z2,ae⟩
theorem Vv(hs:s.Ok c)(k:Nat)(ht:0<=s.rm.tot/\s.rm.tot<=1000000000000):0<=(Yw c s k).rm.tot/\(Yw c s k).rm.tot<=s.rm.tot+10000:=by
 unfold Yw;split
 .have:=XaF hs.rm (k:Nat) (Zd s.rm k (Ym s.rm k).1 (Ym s.rm k).2.1);show 0<=(Qj s.rm k _).tot/\(Qj s.rm k _).tot<=_
  rw[<-this.1];show 0<=Xw s.rm.tot _/\Xw s.rm.tot _<=_
  rw[Cv (by have:=this.2;omega)];have:=this.2;omega
 .omega
theorem Xjg(m:MvM)(n:Int):Zv m n<=m.size:=by have:=Tz m n;omega
theorem Xkr(hs:s.OkP c pd){m:MvM}(hm:s.mv[k]?=some (some m)):m.size<=4096:=by
 have a:=(hs.mv k m hm).2.2.2.2.2.1;have b:=(XC.1 hm).1;have d:=(Xay (by have:=hs.may;unfold Zb at this;simp only[XK] at this;exact this.1.1.1.1.1.2) k (by have:=hs.ml;omega)).2.2;have:=(Ye hs.may).size;unfold Ya at a;rw[XB] at a;omega
theorem XcG(hs:s.Ok c)(k:Nat)(n:Int)(ht:0<=s.rm.tot/\s.rm.tot<=1000000000000):0<=(Yo s k n).rm.tot/\(Yo s k n).rm.tot<=s.rm.tot+20000:=by
 unfold Yo;cases hm:Xy s (k:Nat) with
 |none=>simp only;omega
 |some m=>
  obtain⟨j,ej,_,a⟩:=At hm;obtain rfl:k=j:=by omega
  have d:=Xkr hs a;have f:=Xjg m n;have g:(Ae s m n).rm.tot=s.rm.tot+Zv m n:=by
   show Xw s.rm.tot (Zv m n:Nat)=_
   rw[Cv (by omega)]
  have b:=XaE (StM.OkP.step hs a n).rm (k:Nat) m.pf m.fa;simp only
  split
  .show 0<=(Ae s m n).rm.tot/\(Ae s m n).rm.tot<=_
   omega
  .show 0<=(Q2 (Ae s m n).rm k m.pf m.fa).tot/\(Q2 (Ae s m n).rm k m.pf m.fa).tot<=_
   rw[<-b.1];show 0<=Xw (Ae s m n).rm.tot _/\Xw (Ae s m n).rm.tot _<=_
   rw[Cv (by have:=b.2;omega)];have:=b.2;omega
theorem XgR{x:SR}(h:Za w r s)(h2:Za w2 x s')(hk:Zt w' r x):∀b,w.heap.size<=b->(b<w'.heap.size\/w2.heap.size<=b)->Bo (λz=>z=b) x:=λb c a=>by
 rcases a with hb'|hb'
 .exact hk.2.2 _ (λz e=>by omega) (h.out λz e=>by omega)
 .exact h2.out λz e=>by omega
abbrev srF(g:Int)(x:SR):Value:=.tuple #[.agg (Z8 x).toArray,.int .i64 g]
abbrev Pp(w:dD)(r:SR)(s':StM)(x:SR)(w2:dD):Prop:=Za w2 x s'/\Zt w r x/\Xc Xe w w2
abbrev Vo(x:SR)(b:Nat):Prop:=Bo (λz=>z=b) x
theorem XgQ:∀x w2 w3,Pp w r s' x w2->Xc Xe w2 w3->Pp w r s' x w3:=λ_ _ _ ⟨a,b,c⟩ d=>⟨a.bQ d,b,c.trans d⟩
theorem XfZ(h:Za w r s)(hs:s.Ok r.c)(κ:Int)(ht:0<=s.rm.tot/\s.rm.tot<=1000000000000):Xf prog 138 #[.agg (Z8 r).toArray,.int .i64 κ] w (λv w'=>∃r',v=.agg (Z8 r').toArray/\Ej w r (Zh s κ) r' w'):=by
 have hl:=h.mn;have K:s.mv.length<=16:=by have:=hs.ml;have:=(Ye hs.may).n;omega
 refine aR func138 ntmps138 aA (bC aA λb w1 e1 V L aa=>bC aA λqb g e2 A B ab=>?_);have C:=B.bP V;have d:=L.trans B;refine bB C aA (bG (Ln (h.bQ d) K κ) aA λu f=>?_);have i:=f.bP C;have j:=f.bP A;have a:=d.trans f;cases hm:Xy s κ with
 |none=>
  have e:Zh s κ=s:=by unfold Zh;rw[hm]
  rw[e];refine bI aA ?_;exact bB i aA (bF j aA λwr M N ac=>aK func138 M aA ⟨r,rfl,.self h (a.sn N)⟩)
 |some m=>
  obtain⟨k,rfl,hk,P⟩:=At hm;have e:Zh s (k:Nat)=Yo s k ((m.size:Nat):Int):=by
   unfold Zh;rw[hm];simp only[XB]
  rw[e];have G:=h.bQ a;obtain⟨W,a0,off,ema,y⟩:=G.mrow (show k<r.ms.length by omega);obtain⟨_,_,_,_,_,_,_,v8,_⟩:=W.2 m hm;refine aS aA (aQ 15 Xe (by kernel_rfl) aA λc=>aE c i aA (aE c i aA ?_));rw[ema];refine aB (k*12) c aA (aD c (y 10 _ rfl) aA ?_);rw[v8,<-ema];have hd:∀w',Xc Xe u w'->Xf prog 88 #[.agg (Z8 r).toArray,.int .i64 (k:Nat),.int .i64 (m.size:Nat)] w' (λv g=>Xc Xe w' g/\∃x,v=srF (Zv m (m.size:Nat):Nat) x/\Pp u r (Yo s k (m.size:Nat)) x g/\∀b,u.heap.size<=b->(b<w'.heap.size\/g.heap.size<=b)->Vo x b):=λw' l=>
   (XbV (G.bQ l) hs P (m.size:Nat) ht).mono λv g ⟨x,a1,Q,R,S⟩=>⟨S,x,a1,⟨Q,R.dC l.size,l.trans S⟩,XgR G Q R⟩
  refine Xd.callAllocG (srF (Zv m (m.size:Nat):Nat)) (Pp u r (Yo s k (m.size:Nat))) (Vo) Xb c rfl rfl rfl (λ_=>rfl) rfl (λ_=>rfl) (λ_=>rfl) rfl rfl (λ_ _=>rfl) rfl (λ_ _=>rfl) (hd) (XgQ) ((λ_ h=>h.elim)) ?_;rintro nb x w4 ad T U ⟨q1,H,q3⟩ hG;refine Xd.cK c rfl λw5 n=>Xn.store Xb c rfl (n.bP T) (by first|(intro h;exact rfl)|(intro h;omega)) rfl rfl rfl λw6 I D ae=>aF c aA λw7 o=>?_;have z3:=a.size;have p:=(U.trans n).sn D;have q:=p.trans o;refine bB (o.bP I) aA (bF (q.bP j) aA λw8 J E af=>?_);have lq:=Xg A;have t:=(a.trans q).sn E;have F:=H.dC f.size;exact aK func138 J aA ⟨x,rfl,h.box F (((q1.bQ n).bW hG (by have:=h.cO.bR (a.trans p);rw[H.1,H.2.1];exact this) D).bQ o) (by omega) (by omega) E t,F.dC d.size,t⟩
theorem XjT(h:Qa c M){r:List Nat}(hm:(n,r)∈M.lg):r.length<=1024:=by
 have a:=Xa4 hm;have b:=h.ok.sum;have d:=Rk h;simp only at a
 omega
theorem XdV(h:Qa c M)(q:PlcM):Kc M.tot (Qd M q) (Qd (Y7 M) q):=by
 unfold Qd;split
 .exact XaE h _ _ _
 .show Kc M.tot (match Dh M.lg q.cR with|none=>M|some r=>if X4 r=q.bS then Ip M q.cR.toNat r else M) (match Dh M.lg q.cR with|none=>Y7 M|some r=>if X4 r=q.bS then Ip (Y7 M) q.cR.toNat r else Y7 M)
  cases b:Dh M.lg q.cR with
  |none=>exact Jv M
  |some r=>
   simp only
   split
   .obtain⟨k,_,a⟩:=Ow b;have d:=XjT h a;have e:(Ip (Y7 M) q.cR.toNat r).tot=(r.length+1:Int)*4+r.length:=Xav (n:=(r.length+1:Int)*4+r.length) (by omega);refine⟨?_,by rw[e];omega,by rw[e];omega⟩;rw[e];rfl
   .exact Jv M
theorem Xf3(h:Za w r s)(q:Plc)(hs:s.OkP r.c (some (o,Xx q)))(hq:Zp w q)(ht:0<=s.rm.tot/\s.rm.tot<=999999900000):Xf prog 139 #[.agg (Z8 r).toArray,.agg (Xv q).toArray] w (λv w'=>∃r',v=.agg (Z8 r').toArray/\Ej w r (Cd r.c s (Xx q)) r' w'):=by
 have ba:s.mv.length<=16:=by have:=hs.ml;have:=(Ye hs.may).n;omega
 have hd:=hs.dropped;have P:=XdV hs.rm (Xx q);have ag:=Se hs.rm;refine aR func139 ntmps139 aA (bC aA λb w1 e1 hb bb c9=>bC aA λpb w2 e2 bc ah ca=>bC aA λqb w3 e3 ai R cb=>?_);have E:=(ah.trans R).bP hb;have y:=R.bP bc;have i:=(bb.trans ah).trans R;have h3:=h.bQ i;refine bB E aA (bB y aA (aP aA (XlU r.rr (Y7 s.rm) q w3 h3.rr ag.cU (by rw[h.rc];exact ag.ok) ⟨QN _,show(0:Int)<=4611686018427000000 by decide⟩ (hq.bQ i)) ?_));rintro _ w4 ⟨cc,rfl,aw,bd,aj⟩;refine aN aA (bC aA λab w5 e5 ax be cd=>bF ax aA λw6 ay bf ce=>?_);have z3:=i.size;have z4:=aj.size;have T:=be.sn bf;have A:=aj.trans T;have b0:=i.trans A;refine bB (A.bP E) aA (bB ay aA (aP aA (Sb (h.bQ b0) (aw.bQ T) bd ⟨P.2.1,ht.1,by have:=P.2.2;omega⟩) ?_));rintro _ w7 ⟨r7,rfl,_,h7,F,ak⟩;refine aN aA ?_;rw[P.1] at h7;have z7:=ak.size;refine bC aA λtb w8 e8 b2 bg cf=>bF b2 aA λw9 B bh cg=>?_;have U:=bg.sn bh;have p:=(A.trans ak).trans U;have V:=i.trans p;have h9:=h7.bQ U;have bj:=p.bP E;have C:=p.bP y;have W:=p.bP ai;have a0:=F;have lq:=Xg ai;have u:0<=(Qd s.rm (Xx q)).tot/\(Qd s.rm (Xx q)).tot<=999999910000:=by
  rw[<-P.1];show 0<=Xw s.rm.tot _/\Xw s.rm.tot _<=_
  rw[Cv (by have:=P.2;omega)];have:=P.2;omega
 refine bB C aA ?_;by_cases al:q.cL<0
 .have e:Cd r.c s (Xx q)={s with rm:=Qd s.rm (Xx q)}:=by unfold Cd;rw[bK (show(Xx q).cL<0 from al)]
  rw[e];refine bI aA (bB B aA (bF W aA λbk a8 a1 bz=>?_));have G:=V.sn a1;exact aK func139 a8 aA ⟨r7,rfl,h.box a0 h9 (by omega) (by omega) a1 G,a0.dC z3,G⟩
 .obtain⟨_,p2,_,_⟩:=hs.ps o (Xx q) rfl (show q.cL≠-1 by omega);obtain⟨_,k0,k1⟩:=O2 hs (k:=(Xx q).cL) (n:=(Xx q).cR) (a:=(Xx q).idx) (by rw[p2];omega);obtain⟨k,hk⟩:=XE (show 0<=q.cL from k0);replace k1:q.cL<r.c.bT.length:=k1;have bn:k<s.mv.length:=by have:=hs.ml;omega
  have e:Cd r.c s (Xx q)=Yo (Yw r.c {s with rm:=Qd s.rm (Xx q)} k) k r.c.step:=by
   unfold Cd;rw[bJ (show ¬(Xx q).cL<0 from al),show(Xx q).cL.toNat=k by show q.cL.toNat=k;omega]
  rw[e];refine aS aA (bB B aA (bB C aA ?_));rw[hk];have a2:=F.1;have am:=XfY h9 (by rw[a2];exact hd) k bn ⟨u.1,by have:=u.2;show(Qd s.rm (Xx q)).tot<=_;omega⟩;rw[a2] at am;refine aP aA (am) ?_;rintro _ bk ⟨x,rfl,bo,j,f⟩;have c2:=f.size;refine aN aA (bF (f.bP B) aA λan g l c3=>?_);replace g:Zk an tb x:=g;have H:Xc Xe w an:=(V.trans f).sn l;have bp:∀{w':dD},Xc Xe w w'->Yu w' x.c x.cp:=λhc=>by have:=h.cO.bR hc;rw[j.1,j.2.1,F.1,F.2.1];exact this
  have ao:=bo.bW (j.2.2 _ (λz e=>by omega) (h7.out (S:=λz=>z=tb) (λz e=>by omega))) (bp H) l;have b4:=l.heap (f.bP bj) (by have:=Xg E;omega);have I:=l.heap (f.bP C) (by have:=Xg y;omega);have a9:=l.heap (f.bP W) (by omega);have a3:Zt w3 r x:=a0.trans j (by omega);have bq:=StM.OkP.begin hd k;have b5:(Yw r.c {s with rm:=Qd s.rm (Xx q)} k).mv.length<=16:=by rw[(N4 r.c _ k).2.2.2];exact ba
  have J:=Vv hd k ⟨u.1,by have:=u.2;show(Qd s.rm (Xx q)).tot<=_;omega⟩;replace J:0<=(Yw r.c {s with rm:=Qd s.rm (Xx q)} k).rm.tot/\(Yw r.c {s with rm:=Qd s.rm (Xx q)} k).rm.tot<=(Qd s.rm (Xx q)).tot+10000:=J;refine Xa.loads Xb rfl g rfl rfl ?_;refine Xa.cJ Xb rfl I rfl rfl ?_;rw[hk];refine aP rfl (Ln ao b5 (k:Nat)) ?_;rintro _ ch ⟨rfl,c⟩;refine aN rfl ?_;have ap:=ao.bQ c;have b6:=c.bP b4;have aa:=c.bP I;have K:=c.bP a9;have L:=c.bP g;have M:=H.trans c;have ci:=c.size;cases hm:Xy (Yw r.c {s with rm:=Qd s.rm (Xx q)} k) (k:Nat) with
  |none=>
   rw[XgT hm];refine Xa.yes Xb rfl rfl rfl ?_;refine Xa.loads Xb rfl L rfl rfl ?_;refine Xa.store Xb rfl K rfl rfl ?_;intro a4 ac a5 c5;refine aN rfl ?_;have N:Xc Xe w a4:=M.sn a5;exact bD rfl func139 (Xi.cell rfl rfl rfl ac rfl .nil) ⟨x,rfl,h.box a3 ap (by omega) (by omega) a5 N,a3.dC z3,N⟩
  |some m=>
   obtain⟨k',ek',cj,br⟩:=At hm;obtain rfl:k=k':=by omega
   refine Xa.no Xb rfl rfl rfl ?_;refine Xa.loads Xb rfl L rfl rfl ?_;refine Xa.cJ Xb rfl aa rfl rfl ?_;rw[hk];refine Xa.cJ Xb rfl b6 rfl rfl ?_;have bs:=XbV ap (by rw[j.1,a2];exact bq) br r.c.step ⟨J.1,by have:=J.2;have:=u.2;omega⟩;refine aP rfl (bs) ?_;rintro _ a4 ⟨a6,rfl,bt,b7,D⟩;refine aN rfl ?_;refine Xa.alloc Xb rfl ?_;intro yb ck cl ad b8 c6;refine aN rfl ?_;refine Xa.store Xb rfl ad rfl rfl ?_;intro aq t b9 c7;refine aN rfl ?_;replace t:Zk aq yb a6:=t;have cm:=D.size;have d:Xc Xe a4 aq:=b8.sn b9;have ae:=(D.trans d).bP K;have cn:=d.size;refine Xa.loads Xb rfl t rfl rfl ?_;refine Xa.store Xb rfl ae rfl rfl ?_;intro bu af a7 c8;refine aN rfl ?_;have O:Xc Xe w bu:=((M.trans D).trans d).sn a7;have ar:Zt w3 r a6:=a3.trans b7 (by omega);exact aK func139 af aA ⟨a6,rfl,h.box ar (bt.bQ d) (by omega) (by omega) a7 O,ar.dC z3,O⟩
theorem R9(h:Za w r s)(hs:s.OkP r.c pd)(size:Int):Xf prog 80 #[.agg (Z8 r).toArray,.int .i64 size] w (Grow (.int .i64 (Yt r.c s size)) w):=by
 have k:=Ye hs.may;have C:=k.n;have A:=k.cH;have n:s.mv.length<=16:=by have:=hs.ml;omega
 refine aR func80 ntmps80 aA (bC aA λb x e1 o p B=>?_);refine bB o aA (bG (XbM r.c r.cp size x) aA λy l=>?_);have d:=l.bP o;have c:=p.trans l;by_cases g:size<1\/r.c.cH<size
 .have e:Yt r.c s size=3:=by unfold Yt;rw[bK g]
  rw[e];have eb:(decide (1<=size) && decide (size<=r.c.cH))=false:=by
   rw[Bool.and_eq_false_iff,decide_eq_false_iff_not,decide_eq_false_iff_not];omega
  rw[eb];exact bI aA (bE func80 aA ⟨rfl,c⟩)
 .have e:Yt r.c s size=if (Xy s (Xm r.c.bT size)).isSome then 0 else Qg r.c s.rm size:=by unfold Yt;rw[bJ g]
  rw[e];have eb:(decide (1<=size) && decide (size<=r.c.cH))=true:=by
   rw[XK,decide_eq_true_iff,decide_eq_true_iff];omega
  rw[eb];have i:=h.bQ c;have q:∀w',Xc Xe y w'->Xf prog 132 #[.agg (A7 r.rr).toArray,.int .i64 size] w' (Grow (.int .i64 (Xm r.c.bT size)) w'):=λw' f=>by
   have:=R8 r.rr size w' (by rw[h.rc,h.rp];exact(i.bQ f).cO.bT) (by rw[h.rc];omega);rw[h.rc] at this;exact this
  refine aS aA (aQ 5 Xe (by kernel_rfl) aA λj=>aE j d aA (aE j d aA (aG j (λw' f=>q w' f) aA (aF j aA λD m=>?_))));refine bG (Ln (i.bQ m) n (Xm r.c.bT size)) aA λz t=>?_;have a:=m.trans t;cases hm:(Xy s (Xm r.c.bT size)).isSome with
  |true=>
   exact bI aA (bE func80 aA ⟨rfl,c.trans a⟩)
  |false=>
   refine aS aA (bB (a.bP d) aA ?_);have u:=XbN r.rr (Y7 s.rm) size z (i.bQ a).rr (by rw[h.rc,h.rp];exact(i.bQ a).cO.bT) (by rw[h.rc];omega) (by rw[h.rc];omega);rw[h.rc] at u;exact bG u aA λE v=>bE func80 aA ⟨rfl,(c.trans a).trans v⟩
theorem Xl7(h:Za w r s)(hs:s.OkP r.c pd)(old size:Int)(ho:old<=9223372036854775807)(hz:size<=9223372036854775807):Xf prog 211 #[.agg (Z8 r).toArray,.int .i64 old,.int .i64 size] w (Grow (.bool (A0 r.c old size)) w):=by
 have y:=(Ye hs.may).n;have g:∀(n:Int) w',Xc Xe w w'->Xf prog 132 #[.agg (A7 r.rr).toArray,.int .i64 n] w' (Grow (.int .i64 (Xm r.c.bT n)) w'):=λn w' i=>by
  have:=R8 r.rr n w' (by rw[h.rc,h.rp];exact(h.bQ i).cO.bT) (by rw[h.rc];omega);rw[h.rc] at this;exact this
 have v:=R3 r.c.bT old;refine aR func211 ntmps211 aA (bC aA λb t e1 p j x=>?_);refine bB p aA (bG (g old t j) aA λu k=>?_);have d:=j.trans k;have l:=k.bP p;refine bB l aA (bG (g size u d) aA λz m=>?_);have c:=d.trans m;have o:=m.bP l;by_cases e1:Xm r.c.bT old=Xm r.c.bT size
 .refine aI aA (by simpa using e1) ?_;by_cases e2:Xm r.c.bT old=-1
  .have e:A0 r.c old size=decide (Qp old r.c.size=Qp size r.c.size):=by unfold A0;rw[bN e1,YJ,bO (λh=>h e2),Bool.false_or]
   rw[e];exact aQ 12 Xe (by kernel_rfl) aA λa=>Xd.no Xb a rfl (by rw[e2];rfl) rfl (aE a o aA (aH a (λw' i=>R7 old r.c.size w' ho) aA (aE a o aA (aF a aA λq f=>bH (R7 size r.c.size q hz) aA (bE func211 aA ⟨rfl,c.trans f⟩)))))
  .have e:A0 r.c old size=true:=by unfold A0;rw[bN e1,YJ,bN e2,Bool.true_or]
   rw[e];exact aQ 12 Xe (by kernel_rfl) aA λa=>Xd.yes Xb a rfl (bN (by omega)) rfl (aF a aA λq f=>bE func211 aA ⟨rfl,c.trans f⟩)
 .have e:A0 r.c old size=false:=by unfold A0;rw[bO e1,YZ]
  rw[e];exact aM aA (by simpa using e1) (bE func211 aA ⟨rfl,c⟩)
theorem Xf6(h:Za w r s)(hs:s.OkP r.c pd)(o:Nat){t:ThM}(het:s.th[o]?=some (some t))(i n:Nat)(hi:∀m,Xy s t.q.cL=some m->i+n<=m.size)(ht:0<=s.rm.tot/\s.rm.tot<=1000000000000):Xf prog 212 #[.agg (Z8 r).toArray,.int .i64 (o:Nat),.int .i64 (i:Nat),.int .i64 (n:Nat)] w (λv w'=>∃r',v=.agg (Z8 r').toArray/\Ej w r (Ah s (o:Nat) i n) r' w'):=by
 have hl:=h.mn;have aa:s.mv.length<=16:=by have:=hs.ml;have:=(Ye hs.may).n;omega
 have cl:=(XC.1 het).1;have ab:o<r.ts.length:=by have:=h.tn;omega
 have hQ:=Qr het;have aj:r.ts[o].q.cL=t.q.cL:=by
  have:=(h.trow ab).1.2 t (Hg het);exact congrArg PlcM.cL this
 refine aR func212 ntmps212 aA (bC aA λb w1 e1 hb aw cm=>bC aA λqb w2 e2 ac ad cn=>?_);have M:=ad.bP hb;have u:=aw.trans ad;obtain⟨_,t0,toff,eta,ax⟩:=(h.bQ u).trow ab;refine bB M aA ?_;rw[eta];refine aU (o*5) aA (aW aA (ax 1 _ rfl) aA ?_);rw[aj,<-eta];refine bB M aA (bG (Ln (h.bQ u) aa t.q.cL) aA λw3 p=>?_);have q:=p.bP M;have G:=p.bP ac;have d:=u.trans p;cases hm:Xy s t.q.cL with
 |none=>
  have e:Ah s (o:Nat) i n=s:=by unfold Ah;rw[hQ,hm]
  rw[e];refine bI aA ?_;exact bB q aA (bF G aA λwr N O ay=>aK func212 N aA ⟨r,rfl,.self h (d.sn O)⟩)
 |some m=>
  obtain⟨k,ek,hk,D⟩:=At hm;have ae:k<r.ms.length:=by omega
  have b0:=hi m hm;rw[ek] at hm⊢;obtain⟨sa,sl,sc,sst,ev⟩:∃sa sl sc sst,r.ms[k]=⟨true,m.who,m.pf,m.fa,m.pt,m.ta,sa,sl,sc,sst,m.f,m.t,m.size,m.cE⟩:=by
   obtain⟨⟨a1,a2⟩,_⟩:=h.mrow ae;obtain⟨b1,b2,b3,b4,b5,b6,b7,b8,b9⟩:=a2 m (Dx D);rw[Dx D] at a1;generalize r.ms[k]=v at *
   obtain⟨i1,i2,i3,i4,i5,i6,i7,i8,i9,bj,co,cp,cq,cr⟩:=v;simp only at a1 b1 b2 b3 b4 b5 b6 b7 b8 b9
   subst b1;subst b2;subst b3;subst b4;subst b5;subst b6;subst b7;subst b8;subst b9;exact⟨i7,i8,i9,bj,by rw[a1];rfl⟩
  obtain⟨_,a0,off,ema,x⟩:=(h.bQ d).mrow ae;rw[ev] at x;obtain⟨l1,l2,l3,_⟩:=Kr hs D;have cs:=(hs.mv k m D).2.2.2.2.2.2;refine aS aA (bB q aA ?_);rw[ema];refine aU (k*12) aA (aW aA (x 1 _ rfl) aA ?_);rw[<-ema];by_cases H:m.who=o
  .have e:Ah s (o:Nat) i n=Ql {s with bs:=E0 s.bs m.f m.t m.cE i n} (Q5 i n m.cE):=by unfold Ah;rw[hQ,ek,hm];simp only;rw[bK H]
   have emv:s.mv.set k (some m)=s.mv:=by
    apply QD
    intro j;by_cases ej:k=j
    .subst ej;rw[XH hk,D]
    .rw[XJ ej]
   rw[e];refine aI aA (by rw[H];simp) (bB q aA ?_);rw[ema];refine aU (k*12) aA (Xa.loadC Xb (C0 ⟨true,m.who,m.pf,m.fa,m.pt,m.ta,sa,sl,sc,sst,m.f,m.t,m.size,m.cE⟩) rfl (by first|rfl|(simp;done)|(simp[*];done)|(simp;omega)) (x) rfl (bC aA λxb w4 e4 bk bm ct=>bF bk aA λw5 al bn cu=>?_));have P:=bm.sn bn;refine bB (P.bP q) aA (bF al aA λw6 Q bp cv=>?_);have y:=P.sn bp;have R:=d.trans y;have hM:K6 w6 ⟨r.ra,m.f,m.t,m.size,m.cE⟩:=⟨(h.bQ R).ra,l3,by show m.cE<=m.size;omega,by rw[h.rb];exact l1,by rw[h.rb];exact l2⟩;refine bB Q aA (aP aA (XlR ⟨r.ra,m.f,m.t,m.size,m.cE⟩ i n w6 hM ⟨by show 0<=r.ra.cM;rw[h.rs];exact ht.1,by show r.ra.cM<=_;rw[h.rs];exact ht.2⟩ b0) ?_);rintro _ w7 ⟨⟨a,f7,t7,cw,g7⟩,rfl,x1,x2,x3,x4,x5,x6,c,E,T⟩;refine aN aA ?_;simp only at x1 x2 x3 x4 x5 x6 c T
   subst x3;subst x4;subst x5;subst x6;have z3:=d.size;have cx:=y.size;have z7:=E.size;rw[h.rb] at x1;have am:(E0 s.bs m.f m.t m.cE i n).length=s.bs.length:=by
    unfold E0;split
    .rfl
    .unfold Q5;exact P7 (by omega) (by omega)
   have bx:0<a.bs.length:=by rw[x1,am];omega
   have an:Yr w7 a.a:=λb' off' s' e=>c.rd.block bx e;refine bC aA λyb w8 e8 ao bz cy=>bF ao aA λw9 U c0 cz=>?_;have f:=bz.sn c0;have lq:=Xg ac;have zy:=p.size;refine bB U aA (bF ((E.trans f).bP (y.bP q)) aA λc1 I l cg=>?_);obtain⟨r1,F⟩:∃r1:SR,r1={r with ra:=a}:=⟨_,rfl⟩;replace I:Zk c1 b r1:=by rw[F];exact I
   refine bB (l.heap U (by omega)) aA (bF (l.heap ((E.trans f).bP Q) (by omega)) aA λV A B ch=>?_);obtain⟨v,ev'⟩:∃v:VR,v=⟨true,m.who,m.pf,m.fa,m.pt,m.ta,a.a,a.bs.length,a.cap,a.cM,m.f,m.t,m.size,m.cE⟩:=⟨_,rfl⟩;replace A:V.heap[xb]?=some (.cells (C0 v).toArray 142 (0,0)):=by rw[ev'];exact A
   have J:=(((R.trans E).trans f).sn l).sn B;have K:Xc (λz=>z=b\/z=xb) w7 V:=(f.gr.trans (l.mono λ_ _ e=>.inl e)).trans (B.mono λ_ _ e=>.inr e);have a7:Xj (λz=>z=b\/z=xb) a.a:=λb' off' s' e C=>by
    rcases T with⟨g,eg',ap⟩|eg'
    .rw[eg'] at e;cases e;omega
    .have:=h.la b' off' s' (eg'▸e);omega
   have a8:Yh V a:=⟨c.rd.bW a7 K,c.len,c.lc,c.rng⟩;have d0:Q5 i n m.cE<=m.size:=by unfold Q5;omega
   have ci:s.bs.length<=4194304:=by rw[<-h.rb];exact h.ra.len
   have aq:a.cM=Xw s.rm.tot (Q5 i n m.cE:Nat):=by
    rw[x2,h.rs,Cv (by omega)]
   have c2:=F▸h.putRa J a8 x1 aq (an.bQ K.size);have ar:Zt w2 r r1:=⟨by rw[F],by rw[F],λS hS H=>by
    have c3:Xj S a.a:=λb' off' s' e af=>by
     rcases T with⟨g,eg',ap⟩|eg'
     .rw[eg'] at e;cases e;have:=hS _ af;have:=p.size;omega
     .exact H.ra b' off' s' (eg'▸e) af
    rw[F];exact {H with ra:=c3}⟩
   have au:L0 (some m) v:=by rw[ev'];exact⟨rfl,λm' e=>by cases e;exact⟨rfl,rfl,rfl,rfl,rfl,rfl,rfl,rfl,rfl⟩⟩
   have c4:=Sa c2 aa k hk v (some m) au;refine bB (B.heap I (by omega)) aA (bB A aA (aP aA (c4) ?_));rintro _ c5 ⟨ag,rfl,_,W,av,a3⟩;refine aN aA ?_;replace W:Za c5 ag (Ql {s with bs:=E0 s.bs m.f m.t m.cE i n} (Q5 i n m.cE)):=by
    have e2:({Ql {s with bs:=E0 s.bs m.f m.t m.cE i n} (Q5 i n m.cE) with mv:=s.mv.set k (some m)}:StM)=Ql {s with bs:=E0 s.bs m.f m.t m.cE i n} (Q5 i n m.cE):=by rw[emv];rfl
    rw[<-e2];exact W
   refine bF (a3.bP (B.heap (l.heap ((E.trans f).bP (y.bP G)) (by omega)) (by omega))) aA λd1 a9 a4 ck=>?_;have L:=(J.trans a3).sn a4;have ah:=ar.trans av (by have:=p.size;omega);exact aK func212 a9 aA ⟨ag,rfl,h.box ah W (by omega) (by omega) a4 L,ah.dC u.size,L⟩
  .have e:Ah s (o:Nat) i n=s:=by unfold Ah;rw[hQ,ek,hm];simp only;rw[bJ H]
   rw[e];refine aM aA (by simpa using H) ?_;exact bB q aA (bF G aA λwr N O ay=>aK func212 N aA ⟨r,rfl,.self h (d.sn O)⟩)
theorem Xf1(h:Za w r s)(hs:s.OkP r.c pd)(k bV:Int):Xf prog 36 #[.agg (Z8 r).toArray,.int .i64 k,.int .i64 bV] w
 (λv w'=>∃r',v=.tuple #[.agg (Z8 r').toArray,.int .i64 (Ce s k bV)]/\Ej w r (C8 s k bV) r' w'):=by
 have a3:maxLen=9223372036854775807:=rfl;have hn:=(Ye hs.may).n;have ac:=hs.kl;have ad:=hs.ml;have ae:r.bV.length=s.bV.length:=by rw[h.ke]
 refine aR func36 ntmps36 aA (bC aA λb w1 e1 hb O af=>bC aA λqb P e2 i E ag=>?_);have d:=E.bP hb;have c:=O.trans E;by_cases g:k<0\/(s.mv.length:Int)<=k\/bV<0\/1024<bV
 .have e:Ce s k bV=1:=by unfold Ce;rw[bK g]
  have eS:C8 s k bV=s:=by unfold C8;rw[bJ (by rw[e];decide)]
  rw[e,eS];by_cases g1:k<0
  .exact bI aA (bB d aA (bF i aA λJ a f o=>aK func36 a aA ⟨r,rfl,.self h (c.sn f)⟩))
  .refine aS aA (bB d aA ?_);by_cases g2:(r.bV.length:Int)<=k
   .exact bI aA (bB d aA (bF i aA λJ a f o=>aK func36 a aA ⟨r,rfl,.self h (c.sn f)⟩))
   .refine aS aA ?_;by_cases g3:bV<0
    .exact bI aA (bB d aA (bF i aA λJ a f o=>aK func36 a aA ⟨r,rfl,.self h (c.sn f)⟩))
    .exact aS aA (bI aA (bB d aA (bF i aA λJ a f o=>aK func36 a aA ⟨r,rfl,.self h (c.sn f)⟩)))
 .have e:Ce s k bV=0:=by unfold Ce;rw[bJ g]
  obtain⟨j,rfl⟩:=XE (show 0<=k by omega);have eS:C8 s (j:Nat) bV={s with bV:=s.bV.set j bV}:=by unfold C8;rw[bK e,XB]
  rw[e,eS];refine aS aA (bB d aA (aS aA (aS aA (aS aA (Xa.buildSlice Xb rfl λb4 w4 e4 Q n ah=>aN aA ?_)))));refine bB (n.bP d) aA ?_;obtain⟨ai,koff,eka,_⟩:=h.kr 0 (by omega);have p:=(h.kr.bR (c.trans n));rw[eka] at p⊢;have C:Xl P.heap.size 3 1 w4 (.slice (some ⟨b4,0,none⟩) 0 0) 0 []:=Xl.empty (by omega) Q;refine Xa.append (base:=P.heap.size) (xs:=[]) (news:=r.bV.map (Value.int .i64)) Xb rfl C n.size (by simp) p.cells J1 ⟨by omega,by show(0+r.bV.length)*8<=_;omega⟩ λv5 w5 F R aj=>aN aA ?_;rw[XT,ZS] at F;have m:=C.bU n (XF _) R;obtain⟨q,K,cur,rfl,ak,T,al,am,G⟩:=F.form (by omega);have t:cur.toList=r.bV.map (Value.int .i64)++cur.toList.drop r.bV.length:=by
   have U:=XY r.bV.length cur.toList;rw[ZQ] at G;rw[G] at U;exact U.symm
  obtain⟨rest,D⟩:∃rest,rest=cur.toList.drop r.bV.length:=⟨_,rfl⟩;rw[<-D] at t;have L:w5.heap[q]?=some (.cells (r.bV.map (Value.int .i64)++rest).toArray 3 (0,0)):=by rw[<-t];exact T
  refine aU j aA (aL aA L (Xgq (x:=bV) (by omega)) aA λw6 V u an=>?_);refine bF (u.heap (m.bP d) (by omega)) aA λw7 y A ao=>?_;have W:(r.bV.set j bV).length=r.bV.length:=XG;obtain⟨r',er⟩:∃r':SR,r'={r with bV:=r.bV.set j bV,ka:=some ⟨q,0,none⟩,kcap:=K}:=⟨_,rfl⟩;replace y:Zk w7 b r':=by
   rw[er];unfold Zk Z8;simp only[W];exact y
  refine bB y aA (bF (A.heap (u.heap (m.bP i) (by omega)) (by omega)) aA λM N H ap=>?_);have I:=H.heap (A.heap V (by omega)) (by omega);have B:=(((c.trans m).sn u).sn A).sn H;have a0:Rd .i64 M (some ⟨q,0,none⟩) (r.bV.set j bV):=Rd.of_take I (by simp);have a1:Yr M (some ⟨q,0,none⟩):=λb' off' s' e=>by cases e;exact Xg I
  have hO:Za M r' {s with bV:=s.bV.set j bV}:=by
   rw[er];exact {(h.bQ B) with kr:=a0,ke:=by show r.bV.set j bV=s.bV.set j bV;rw[h.ke],lk:=a1}
  have a2:Zt w r r':=⟨by rw[er],by rw[er],λS hS C=>by
   have hk:Xj S (some ⟨q,0,none⟩):=λb' off' s' e l=>by cases e;have:=hS _ l;omega
   rw[er];exact {C with k:=hk}⟩
  exact aK func36 N aA ⟨r',rfl,hO,a2,B⟩
theorem XcI{c:Conf}{s:StM}(hs:s.Ok c)(ht:0<=s.rm.tot/\s.rm.tot<=999999000000):∀n,n<=16->0<=(tickTo c s n).1.rm.tot/\(tickTo c s n).1.rm.tot<=s.rm.tot+30000*n
 |0,_=>⟨ht.1,by show s.rm.tot<=_;omega⟩
 |n+1,h=>by
  obtain⟨d,g⟩:=XcI hs ht n (by omega);have a:=StM.OkP.tickTo hs n;have b:=Vv a n ⟨d,by omega⟩;rw[Nn];unfold tickK;split
  .omega
  .split
   .exact⟨b.1,by show(Yw c (tickTo c s n).1 n).rm.tot<=_;omega⟩
   .have f:=XcG (StM.OkP.begin a n) n (tickTo c s n).2 ⟨b.1,by omega⟩;exact⟨f.1,by show(Yo (Yw c (tickTo c s n).1 n) n (tickTo c s n).2).rm.tot<=_;omega⟩
theorem Xf2(h:Za w r s)(hs:s.Ok r.c)(ht:0<=s.rm.tot/\s.rm.tot<=999999000000):Xf prog 35 #[.agg (Z8 r).toArray] w
 (λv w'=>∃r',v=.agg (Z8 r').toArray/\Ej w r (Ec r.c s) r' w'):=by
 have aq:=h.mn;have a4:s.mv.length<=16:=by have:=hs.ml;have:=(Ye hs.may).n;omega
 refine aR func35 ntmps35 aA (bC aA λb w1 e1 hb a5 ar=>bC aA λqb K e2 N O au=>?_);have P:=O.bP hb;have l:=a5.trans O;have z2:=l.size;have lq:=Xg N;refine bB P aA ?_;refine Xa.loop (α:=Nat×SR) (λx=>[(1,false,.pointer (some ⟨b,0,none⟩)),(2,false,.pointer (some ⟨qb,0,none⟩)),(3,false,.int .i64 (tickTo r.c s x.1).2),(4,false,.int .i64 x.1)])
  (λx w'=>x.1<=s.mv.length/\Zk w' b x.2/\Za w' x.2 (tickTo r.c s x.1).1/\Zt K r x.2/\Xc (λz=>z=b) K w') (λx=>s.mv.length-x.1) (0,r) ⟨rfl,rfl,rfl,rfl,trivial⟩ ⟨by omega,P,h.bQ l,.refl _ _,Xc.refl _ _⟩ ?_
 rintro⟨k,rk⟩ w5 ⟨n,i,A,a,u⟩ ih;simp only at n i A a
 obtain⟨b1,b2,b3,b4⟩:=Tm hs k;have av:(tickTo r.c s (k,rk).fst).snd=(tickTo r.c s k).2:=rfl;have B:=StM.OkP.tickTo hs k;have tsucc:=Nn r.c s k;have Q:=XcI hs ht k (by omega);have o:=l.sn u;have D:=u.heap N (by omega);have R:∀{w':dD} {x:SR},Xc Xe w w'->Zt K r x->Yu w' x.c x.cp:=λhc n=>by have:=h.cO.bR hc;rw[n.1,n.2.1];exact this
 have S:∀{x:SR},Zt K r x->Bo (λz=>z=b) x:=λn=>n.2.2 _ (λz e=>by omega) (h.out λz e=>by omega);have aw:=A.mn;refine aN aA (bB i aA ?_);by_cases T:k<s.mv.length
 .refine bI aA ?_;by_cases W:(tickTo r.c s k).2<1
  .have e:Ec r.c s=(tickTo r.c s k).1:=by
    unfold Ec;obtain⟨d,hd⟩:=Nat.exists_eq_add_of_le n;rw[hd,XcE W d]
   rw[e];refine bI aA (bB i aA (bF D aA λw6 p j a8=>?_));have f:=o.sn j;exact aK func35 p aA ⟨rk,rfl,h.box a A (by omega) (by omega) j f,a.dC z2,f⟩
  .refine aS aA (bB i aA ?_);have U:=XfY A (by rw[a.1];exact B) k (by omega) ⟨Q.1,by omega⟩;rw[a.1] at U;refine aP aA (U) ?_;rintro _ w6 ⟨r6,rfl,h6,a9,E⟩;refine aN aA (bF (E.bP i) aA λw7 V F ax=>?_);have g:=a.trans a9 u.size;have G:=(o.trans E).sn F;have h7:=h6.bW (S g) (R G g) F;have a0:(Yw r.c (tickTo r.c s k).1 k).mv.length<=16:=by rw[(N4 r.c _ k).2.2.2,b2];exact a4
   refine bB V aA (bG (Ln h7 a0 (k:Nat)) aA λw8 y=>?_);have H:=y.bP V;have h8:=h7.bQ y;have I:=((u.trans E.gr).trans F).trans y.gr;cases hm:Xy (Yw r.c (tickTo r.c s k).1 k) (k:Nat) with
   |none=>
    have et:tickTo r.c s (k+1)=(Yw r.c (tickTo r.c s k).1 k,(tickTo r.c s k).2):=by rw[tsucc];unfold tickK;rw[bJ W,hm]
    refine aS aA (aV aA (ih (k+1,r6) _ _ ⟨T,H,by rw[et];exact h8,g,I⟩ (by simp only;omega) ?_));rw[et];exact⟨rfl,rfl,rfl,rfl,trivial⟩
   |some m=>
    obtain⟨k',ek',ay,ac⟩:=At hm;obtain rfl:k=k':=by omega
    have et:tickTo r.c s (k+1)=(Yo (Yw r.c (tickTo r.c s k).1 k) k (tickTo r.c s k).2,(tickTo r.c s k).2-Zv m (tickTo r.c s k).2):=by rw[tsucc];unfold tickK;rw[bJ W,hm]
    have az:(Zv m (tickTo r.c s k).2:Int)<=(tickTo r.c s k).2:=by unfold Zv Ed;omega
    have ad:=Vv B k ⟨Q.1,by omega⟩;refine bI aA (bB H aA (aP aA (XbV h8 (by rw[g.1];exact(StM.OkP.begin B k)) ac (tickTo r.c s k).2 ⟨ad.1,by omega⟩) ?_));rintro _ w9 ⟨r9,rfl,h9,ae,J⟩;refine aN aA (bC aA λyb b0 b5 L a1 an=>bF L aA λb6 M a2 ao=>?_);have c:=a1.sn a2;have q:=g.trans ae I.size;refine bB M aA (bF ((J.trans c).bP H) aA λb7 a3 t ap=>?_);refine aV aA (aV aA (ih (k+1,r9) _ _ ⟨T,a3,by rw[et];exact((h9.bQ c).bW (S q) (R ((((G.trans y).trans J).trans c).sn t) q) t),q,((I.trans ((J.trans c).gr)).trans t)⟩ (by simp only;omega) ?_));rw[et];exact⟨rfl,rfl,rfl,rfl,trivial⟩
 .refine aS aA ?_;have e:Ec r.c s=(tickTo r.c s k).1:=by unfold Ec;rw[show s.mv.length=k by omega]
  rw[e];refine bB i aA (bF D aA λw6 p j a8=>?_);have f:=o.sn j;exact aK func35 p aA ⟨rk,rfl,h.box a A (by omega) (by omega) j f,a.dC z2,f⟩
theorem XiM(_h:Qa c M)(k n i who:Int):Kc M.tot (Qu M k n i who) (Qu (Y7 M) k n i who):=by
 unfold Qu;have e:Zq (Y7 M) k=Zq M k:=rfl;rw[e];cases a:Zq M k with
 |none=>exact Jv M
 |some x=>exact Jv (Gn M k.toNat (Ba x n i who) M.pl)
theorem XdW(h:Qa c M)(who size:Int):Kc M.tot (Av c M who size) (Av c (Y7 M) who size):=by
 have ef:Qg c (Y7 M) size=Qg c M size:=rfl;unfold Av;rw[ef];split
 .exact Jv M
 .split
  .exact Jv M
  .rename_i hf
   split
   .have b:((Z9 size c.size).toNat:Int)<=1024:=by
     have i:=h.cU.cV.many;have j:=h.cU.cV.len;rename_i f
     have a:=YL.1 hf;unfold Qg at a;split at a
     .exact absurd a (by decide)
     .split at a
      .exact absurd a (by decide)
      .rename_i d
       unfold Di at d;rw[bK f] at d;omega
    obtain⟨many,em⟩:∃many,many=(Z9 size c.size).toNat:=⟨_,rfl⟩;rw[<-em] at b⊢;have k : -1<=(many*4+(many-1):Int)/\(many*4+(many-1):Int)<=10000:=by omega
    by_cases g:many=0
    .subst g;refine⟨?_,?_,?_⟩
     .show({Ev M 0 with tot:=Xw M.tot (Xw 0 (((0:Nat):Int)*4+(((0:Nat):Int)-1)))}:RmM)=Ev M 0
      unfold Ev Xw
      simp
     .unfold Ev Xw;simp
     .unfold Ev Xw;simp
    .have e:(Ev (Y7 M) many).tot=(many*4+(many-1):Int):=Xav (n:=(many*4+(many-1):Int)) (by omega);refine⟨?_,by rw[e];omega,by rw[e];omega⟩;rw[e];rfl
   .exact XaF h _ _
theorem K9(hm:Zb c=true):0<=Zi c q at' n/\Zi c q at' n<=2*n+1:=by
 obtain⟨a,b,d⟩:=D9 hm;have:=Sn (cR:=c.size.toNat) (by omega) n at';unfold Zi;split <;> omega
abbrev L2(c:Conf)(p:Y4)(x:RA):Value:=.tuple #[.agg (Aj c p x).toArray,.int .i64 0]
abbrev Jn(c:Conf)(w:dD)(r:RA)(q:Plc)(i:Nat)(l:List Int)(x:RA)(w2:dD):Prop:=x.bs=Q9 c q r.bs i l l.length/\x.cM=r.cM+Zi c q i l.length/\Yh w2 x/\Gb w r.a x.a/\Yr w2 x.a
theorem V6{r:RA}:∀x w2 w3,Jn c w r q i l x w2->Xc Xe w2 w3->Jn c w r q i l x w3:=λ_ _ _ ⟨a,b,c,d,e⟩ f=>⟨a,b,c.bQ f,d,e.bQ f.size⟩
theorem XkI(M:RmM)(k n i who:Int):{Qu (Y7 M) k n i who with tot:=Xw M.tot 3}={Qu M k n i who with tot:=Xw (Qu M k n i who).tot 3}:=by
 unfold Qu;rw[show Zq (Y7 M) k=Zq M k from rfl];cases Zq M k <;> rfl
theorem Xf4(h:Za w r s)(hs:s.OkP r.c pd)(ho:o<s.th.length)(hf:Yt r.c s size=0)(hL:(Q3 r.c s (o:Nat) size).OkP r.c pd2)(ht:0<=s.rm.tot/\s.rm.tot<=999999000000):Xf prog 137 #[.agg (Z8 r).toArray,.int .i64 (o:Nat),.int .i64 size] w (λv w'=>∃r',v=.agg (Z8 r').toArray/\Ej w r (Q3 r.c s (o:Nat) size) r' w'):=by
 have bi:=Ye hs.may;have hn:=bi.n;have af:=hs.may;have d1:s.mv.length<=16:=by have:=hs.ml;omega
 have bv:=Se hs.rm;have d2:0<s.bs.length:=by
  have h1:=hs.bl;have h2:1*64<=r.c.bS*r.c.size:=ZG (by have:=bi.bS;omega) (by have:=bi.size;omega) (by omega) (by have:=bi.bS;omega);rw[YQ r.c.bS] at h2;rw[<-h1] at h2;omega
 obtain⟨g6,fb⟩:=Tx hf;have dd:(Q3 r.c s (o:Nat) size).th[o]?=some (some ⟨size,Yl r.c s (o:Nat) size⟩):=by
  show(s.th.set (o:Int).toNat _)[o]?=_
  rw[XB,XH ho]
 obtain⟨pv,ph,pf⟩:=Jc hL dd;simp only at pv ph pf
 have ec:∀(n:Int) w',Xc Xe w w'->Xf prog 132 #[.agg (A7 r.rr).toArray,.int .i64 n] w' (Grow (.int .i64 (Xm r.c.bT n)) w'):=λn w' F=>by
  have:=R8 r.rr n w' (by rw[h.rc,h.rp];exact(h.bQ F).cO.bT) (by rw[h.rc];omega);rw[h.rc] at this;exact this
 refine aR func137 ntmps137 aA (bC aA λb w1 e1 hb ee g7=>bC aA λqb T e2 R d3 g8=>?_);have bw:=d3.bP hb;have bf:=ee.trans d3;refine bB bw aA (bG (ec size T bf) aA λw3 b4=>?_);have ef:=b4.bP bw;refine bC aA λpb w4 e4 ag bj g9=>?_;have eg:=bj.bP ef;refine bB eg aA (bC aA λtb w5 e5 de b5 ga=>bF de aA λw6 aq d4 gb=>?_);have ah:=((b4.trans bj).trans b5).bU d4 (λz G e=>by have:=b4.size;have:=bj.size;omega);have d5:=ah.bP bw;have bx:=ah.bP R;have ar:=d4.heap (b5.bP ag) (by have:=Xg ag;omega);have bz:=bf.trans ah;refine bB d5 aA (bG (Ln (h.bQ bz) d1 (Xm r.c.bT size)) aA λQ A=>?_);have l:=bz.trans A;have M:=A.bP d5;have eh:=bf.size;have gc:T.heap.size<=pb/\T.heap.size<=tb:=⟨by have:=b4.size;omega,by have:=b4.size;have:=bj.size;omega⟩;have ltp:tb≠pb:=by have:=Xg ag;have:=b5.size;omega
 apply Xa.cut (α:=dD×Plc×SR) (λ_=>[(1,false,.int .i64 (o:Nat)),(2,false,.int .i64 size),(6,false,.pointer (some ⟨qb,0,none⟩)),(8,false,.pointer (some ⟨pb,0,none⟩)),(9,false,.pointer (some ⟨tb,0,none⟩))]) (λx w'=>T.heap.size<=x.1.heap.size/\Xc Xe w w'/\Zt x.1 r x.2.2/\Za w' x.2.2 (Yd r.c s (o:Nat) size)/\Zk w' tb x.2.2/\w'.heap[pb]?=some (.cells (Xv x.2.1).toArray 83 (0,0))/\w'.heap[qb]?=T.heap[qb]?/\Xx x.2.1=Yl r.c s (o:Nat) size/\Zp w' x.2.1/\Yr w' x.2.1.pa/\(x.1.heap.size<=w'.heap.size/\tb<x.1.heap.size/\pb<x.1.heap.size)/\(∀b' off s',x.2.1.pa=some ⟨b',off,s'⟩->x.1.heap.size<=b')/\0<=(Yd r.c s (o:Nat) size).rm.tot/\(Yd r.c s (o:Nat) size).rm.tot<=1152921504606846976)
 .intro J;by_cases p:Fy r.c s size=none
  .have eS:Yd r.c s (o:Nat) size={s with rm:=Av r.c s.rm (o:Nat) size}:=by unfold Yd;rw[p]
   have eQ:Yl r.c s (o:Nat) size=Bz r.c s.rm (o:Nat) size:=by unfold Yl;rw[p]
   have hC:=XdW hs.rm (o:Int) size;have ai:(Xy s (Xm r.c.bT size)).isSome=false\/((Xy s (Xm r.c.bT size)).isSome=true/\Qq s.rm (Xm r.c.bT size)≠0):=by
    unfold Fy at p;cases hm:Xy s (Xm r.c.bT size) with
    |none=>exact .inl rfl
    |some m=>
     rw[hm] at p;simp only at p
     refine .inr ⟨rfl,λe=>?_⟩;rw[bK e] at p;cases p
   apply Xa.cut (α:=Unit) (λ_=>[(1,false,.int .i64 (o:Nat)),(2,false,.int .i64 size),(3,false,.pointer (some ⟨b,0,none⟩)),(6,false,.pointer (some ⟨qb,0,none⟩)),(8,false,.pointer (some ⟨pb,0,none⟩)),(9,false,.pointer (some ⟨tb,0,none⟩)),(68,false,.pointer (some ⟨b,11,none⟩))]) (λ_ w'=>Xc Xe Q w')
   .intro K;rcases ai with ai|⟨ai,c0⟩
    .rw[ai];exact aS aA (K () _ _ (Xc.refl _ _) ⟨rfl,rfl,rfl,rfl,rfl,rfl,rfl,trivial⟩)
    .rw[ai];refine bI aA (bB M aA ?_);have b6:=U4 r.rr (Y7 s.rm) (Xm r.c.bT size) Q (h.bQ l).rr;rw[show Qq (Y7 s.rm) (Xm r.c.bT size)=Qq s.rm (Xm r.c.bT size) from rfl] at b6;exact bG b6 aA λwx V=>aI aA (by simpa using c0) (K () _ _ V ⟨rfl,rfl,rfl,rfl,rfl,rfl,rfl,trivial⟩)
   .rintro-Q V;have M:=V.bP M;have A:=A.trans V;have l:=l.trans V;refine bB M aA ?_;have hP:=XlY r.rr (Y7 s.rm) (o:Nat) size Q ((h.bQ l).rr) bv.cU (by rw[h.rc];exact bv.ok) ⟨QN _,show(0:Int)<=4611686018427000000 by decide⟩ (by rw[h.rc,h.rp];exact(h.bQ l).cO.bT) (by rw[h.rc];exact af);rw[h.rc] at hP;refine aP aA (hP) ?_;rintro _ w8 ⟨gd,q,rfl,ac,df,ek,b7,bk⟩;refine aN aA (bC aA λxb w9 e9 a6 c1 el=>bC aA λyb ge gf cd c2 fc=>bF (c2.bP a6) aA λgg ce c3 fd=>?_);have lyx:yb≠xb:=by have:=Xg a6;omega
    refine bF (c3.heap cd lyx) aA λgh ad au fe=>?_;have av:=((c1.trans c2).sn c3).bU au (λz G e=>by have:=c1.size;omega);have cf:=au.heap ce (λe=>lyx e.symm);have aw:=bk.trans av;have dh:=aw.bP M;refine bB dh aA (bB cf aA (aP aA (Sb (h.bQ (l.trans aw)) (df.bQ av) ek ⟨hC.2.1,ht.1,by have:=hC.2.2;omega⟩) ?_));rintro _ d6 ⟨a,rfl,_,a7,d,a8⟩;refine aN aA ?_;rw[hC.1,<-eS] at a7;have b8:=Xg (A.bP aq);have b9:=Xg (A.bP ar);have f:=aw.trans a8;refine bF (f.bP (A.bP aq)) aA λem ax u di=>?_;have W:=(l.trans f).sn u;have a5:∀{w':dD},Xc Xe w w'->Yu w' a.c a.cp:=λhc=>by have:=h.cO.bR hc;rw[d.1,d.2.1];exact this
    have aj:=a7.bW (d.2.2 (λz=>z=tb) (λz e=>by omega) (h.out λz e=>by omega)) (a5 W) u;have z8:=bk.size;have ltp:tb≠pb:=by have:=Xg ag;have:=b5.size;omega
    have cg:=u.heap (a8.bP ad) (by have:=c1.size;omega);have ay:=u.heap (f.bP (A.bP ar)) (λe=>ltp e.symm);refine bB cg aA (bF ay aA λH B D dk=>?_);have I:=D.heap ax ltp;have L:=W.sn D;have i:=aj.bW (d.2.2 (λz=>z=pb) (λz e=>by omega) (h.out λz e=>by omega)) (a5 L) D;have bm:Xc (λz=>z=tb\/z=pb) w8 H:=(((av.trans a8).gr).trans (u.mono λ_ _ e=>.inl e)).trans (D.mono λ_ _ e=>.inr e);have N:Zp H q:=⟨b7.ok.rd.bW (λb' off s' e G=>by have:=b7.fresh b' off s' e;omega) bm,b7.ok.len⟩;have P:=b7.lt.bQ bm.size;have a9:0<=(Yd r.c s (o:Nat) size).rm.tot/\(Yd r.c s (o:Nat) size).rm.tot<=1152921504606846976:=by
     rw[eS,<-hC.1];show 0<=Xw s.rm.tot _/\Xw s.rm.tot _<=_
     rw[Cv (by have:=hC.2;omega)];have:=hC.2;omega
    have az:=(D.heap (u.heap (f.bP (A.bP bx)) (by have:=Xg R;omega)) (by have:=Xg R;omega)).trans R.symm;have ba:Q.heap.size<=H.heap.size:=by have:=f.size;have:=u.size;have:=D.size;omega
    have ak:∀b' off s',q.pa=some ⟨b',off,s'⟩->Q.heap.size<=b':=λb' off s' e=>b7.fresh b' off s' e;exact J ⟨Q,q,a⟩ _ _ ⟨(ah.trans A).size,L,d,i,I,B,az,by rw[eQ];exact ac,N,P,⟨ba,b8,b9⟩,ak,a9⟩ ⟨rfl,rfl,rfl,rfl,rfl,trivial⟩
  .obtain⟨m,p⟩:∃m,Fy r.c s size=some m:=Option.ne_none_iff_exists'.1 p;have eS:Yd r.c s (o:Nat) size=Ql {s with mv:=s.mv.set (Xm r.c.bT size).toNat none,rm:=Qu s.rm (Xm r.c.bT size) m.pt m.ta (o:Nat)} 3:=by unfold Yd;rw[p]
   have eQ:Yl r.c s (o:Nat) size=⟨Xm r.c.bT size,m.pt,m.ta,[]⟩:=by unfold Yl;rw[p]
   obtain⟨k,bn,hk,d7,c0⟩:∃k:Nat,Xm r.c.bT size=k/\k<s.mv.length/\s.mv[k]?=some (some m)/\Qq s.rm (Xm r.c.bT size)=0:=by
    unfold Fy at p;cases hm:Xy s (Xm r.c.bT size) with
    |none=>rw[hm] at p;cases p
    |some m'=>
     rw[hm] at p;simp only at p
     split at p
     .cases p
      obtain⟨k,e1,e2,e3⟩:=At hm;exact⟨k,e1,e2,e3,by assumption⟩
     .cases p
   have ai:(Xy s (Xm r.c.bT size)).isSome=true:=by rw[bn,Dx d7];rfl
   rw[ai];refine bI aA (bB M aA ?_);have b6:=U4 r.rr (Y7 s.rm) (Xm r.c.bT size) Q (h.bQ l).rr;rw[show Qq (Y7 s.rm) (Xm r.c.bT size)=Qq s.rm (Xm r.c.bT size) from rfl,c0] at b6;refine bG b6 aA λQ V=>?_;have M:=V.bP M;have A:=A.trans V;have l:=l.trans V;refine bI aA ?_;have en:k<r.ms.length:=by have:=h.mn;omega
   obtain⟨⟨_,hv⟩,a0,off,ema,ci⟩:=(h.bQ l).mrow en;obtain⟨_,v2,v3,v4,v5,_⟩:=hv m (Dx d7);have eo:∀j v,([.int .i64 m.pf,.int .i64 m.fa,.int .i64 m.pt,.int .i64 m.ta]:List Value)[j]?=some v->Q.cell? ⟨a0,off+k*12+2+j,none⟩=some v:=λj v hv=>by
    have hj:j<4:=(XC.1 hv).1;rw[YR];refine ci (2+j) v ?_;rw[<-hv];obtain rfl|rfl|rfl|rfl:j=0\/j=1\/j=2\/j=3:=by omega
    all_goals rw[<-v2,<-v3,<-v4,<-v5];rfl
   rw[bn];refine bB M aA ?_;rw[ema];refine aU (k*12) aA (Xa.loadC Xb ([.int .i64 m.pf,.int .i64 m.fa,.int .i64 m.pt,.int .i64 m.ta]) rfl (by first|rfl|(simp;done)|(simp[*];done)|(simp;omega)) (eo) rfl (bC aA λxb w8 e8 dl bk gi=>bF dl aA λw9 a6 ep el=>?_));have aa:=bk.sn ep;have er:=aa.bP M;refine bB er aA (bB a6 aA (bB a6 aA (aP aA (XlW r.rr (Y7 s.rm) (k:Nat) m.pt m.ta (o:Nat) w9 ((h.bQ (l.trans aa)).rr) bv.cU ⟨QN _,show(0:Int)<=4611686018427000000 by decide⟩) ?_)));rintro _ gj ⟨al,rfl,bo,bg,dm⟩;refine aN aA ?_;have es:(Qu (Y7 s.rm) (k:Nat) m.pt m.ta (o:Nat)).tot=0:=by unfold Qu;split <;> rfl
   have fa:=bo.st.trans es;refine bC aA λyb gk gl cj dn fm=>bF cj aA λgm ad au fn=>?_;refine bB ad aA (aV aA (bF ad aA λd8 ck dp fo=>?_));have bb:=(dn.sn au).sn dp;have ae:=dm.trans bb;have f:=aa.trans ae;have dq:=f.bP M;have b0:=ae.bP a6;have et:∀w',Xc Xe d8 w'->Xf prog 152 #[.agg (Z8 r).toArray,.int .i64 (k:Nat),.agg (C0 K3).toArray] w' (λv T=>Xc Xe w' T/\∃r',v=.agg (Z8 r').toArray/\r'.rr=r.rr/\Za T r' {s with mv:=s.mv.set k none}/\Zt d8 r r'):=λw' F=>
    (Sa (h.bQ ((l.trans f).trans F)) d1 k hk K3 none ⟨rfl,λ_ e=>by cases e⟩).mono λv T ⟨r',e,a1,a2,a3,a4⟩=>⟨a4,r',e,a1,a2,a3.dC F.size⟩
   refine aQ 5 Xe (by kernel_rfl) aA λO=>aE O dq aA (Xd.build Xb O rfl rfl (aE O ck aA (Xd.callQ O rfl rfl (et) ?_)));rintro _ gn dr ⟨eu,rfl,b1,aj,ds⟩;refine Xd.adv Xb O rfl (aF O aA λew c4=>?_);have am:=dr.trans c4;have cl:Qe ew {al with cM:=al.cM+3} {Qu (Y7 s.rm) (k:Nat) m.pt m.ta (o:Nat) with tot:=3}:={bo.bQ (bb.trans am) with st:=by show al.cM+3=3;omega};have cm:A4 w9 eu.rr {al with cM:=al.cM+3}:=⟨by rw[b1];exact bg.1,by rw[b1];exact bg.2.1,λS hS ho=>by
    rw[b1] at ho;have:=bg.2.2 S hS ho;exact⟨this.o,this.f,this.sa,this.cI,this.la,this.lgo⟩⟩
   refine aP aA (Sb (aj.bQ c4) cl cm ⟨show(0:Int)<=3 by decide,ht.1,by show s.rm.tot+3<=_;have:=ht.2;omega⟩) ?_;rintro _ d6 ⟨a,rfl,_,a7,d,a8⟩;refine aN aA ?_;have e3:({s with mv:=s.mv.set k none,rm:={Qu (Y7 s.rm) (k:Nat) m.pt m.ta (o:Nat) with tot:=Xw s.rm.tot 3}}:StM)=Yd r.c s (o:Nat) size:=by
    rw[eS,bn,XB,XkI];rfl
   replace a7:Za d6 a (Yd r.c s (o:Nat) size):=by rw[<-e3];exact a7
   have cn:=ae.trans am;have f:=(aa.trans cn).trans a8;replace d:=(ds.dC (by have:=aa.size;have:=ae.size;omega)).trans d aa.size;have b0:=a8.bP (am.bP b0);have b8:=Xg (A.bP aq);have b9:=Xg (A.bP ar);refine bF (f.bP (A.bP aq)) aA λem ax u di=>?_;have W:=(l.trans f).sn u;have a5:∀{w':dD},Xc Xe w w'->Yu w' a.c a.cp:=λhc=>by have:=h.cO.bR hc;rw[d.1,d.2.1];exact this
   have aj:=a7.bW (d.2.2 (λz=>z=tb) (λz e=>by omega) (h.out λz e=>by omega)) (a5 W) u;have ltp:tb≠pb:=by have:=Xg ag;have:=b5.size;omega
   have lxt:xb≠tb:=by omega
   have bp:=u.heap b0 lxt;have ay:=u.heap (f.bP (A.bP ar)) (λe=>ltp e.symm);refine bB bp aA (bB bp aA (aO aA ?_));obtain⟨q,eq⟩:∃q:Plc,q=⟨(k:Nat),m.pt,m.ta,none,0,[]⟩:=⟨_,rfl⟩;have ac:Xx q=Yl r.c s (o:Nat) size:=by rw[eq,eQ,bn];rfl
   refine bF ay aA λH B D dk=>?_;replace B:H.heap[pb]?=some (.cells (Xv q).toArray 83 (0,0)):=by rw[eq];exact B
   have I:=D.heap ax ltp;have L:=W.sn D;have i:=aj.bW (d.2.2 (λz=>z=pb) (λz e=>by omega) (h.out λz e=>by omega)) (a5 L) D;have N:Zp H q:=by rw[eq];exact J2 _ _ _
   have P:Yr H q.pa:=by rw[eq];exact λ_ _ _ e=>by cases e
   have a9:0<=(Yd r.c s (o:Nat) size).rm.tot/\(Yd r.c s (o:Nat) size).rm.tot<=1152921504606846976:=by
    rw[<-e3];show 0<=Xw s.rm.tot 3/\Xw s.rm.tot 3<=_
    rw[Cv (by omega)];omega
   have az:=(D.heap (u.heap (f.bP (A.bP bx)) (by have:=Xg R;omega)) (by have:=Xg R;omega)).trans R.symm;have ba:Q.heap.size<=H.heap.size:=by have:=f.size;have:=u.size;have:=D.size;omega
   have ak:∀b' off s',q.pa=some ⟨b',off,s'⟩->Q.heap.size<=b':=by rw[eq];exact λ_ _ _ e=>by cases e
   exact J ⟨Q,q,a⟩ _ _ ⟨(ah.trans A).size,L,d,i,I,B,az,ac,N,P,⟨ba,b8,b9⟩,ak,a9⟩ ⟨rfl,rfl,rfl,rfl,rfl,trivial⟩
 .rintro⟨Q,q,a⟩ H ⟨zt,L,d,i,I,B,eqb,ac,N,P,⟨ba,b8,b9⟩,ak,dt⟩;simp only at zt d i I B eqb ac N P ba b8 b9 ak
  obtain⟨y1,y2,y3,y4⟩:=XeJ r.c s (o:Nat) size;have ab:a.c=r.c/\a.cp=r.cp:=⟨d.1,d.2.1⟩;have co:=eqb.trans R;have d9:q.bS.length<=4096:=by rw[show q.bS=(Yl r.c s (o:Nat) size).bS from congrArg PlcM.bS ac];exact pf
  have ex:∀w',Xc Xe H w'->Xf prog 209 #[.agg (Zj a.c a.cp).toArray,.agg (Xv q).toArray] w' (Grow (.int .i64 (Z5 a.c q)) w'):=λw' F=>XbR a.c a.cp q w' ((i.bQ F).cO) (N.bQ F) (by rw[ab.1];exact af) (by omega);have a9:0<=a.ra.cM/\a.ra.cM<=1152921504606846976:=by rw[i.rs];exact dt
  refine aQ 13 Xe (by kernel_rfl) aA λO=>aE O I aA (aG O (λw' F=>(Pc (w:=w') (r:=a))) aA (aE O B aA (aE O I aA (aE O B aA (aG O (λw' F=>ex w' F) aA ?_)))));have ey:=K2 (c:=r.c) (q:=q) af d9;obtain⟨E,ehn⟩:=XE ey.1;have ez:Yk r.c q=true:=by rw[Xhu,show Xx q=Yl r.c s (o:Nat) size from ac];exact pv
  rw[show Z5 a.c q=((E:Nat):Int) by rw[ab.1];exact ehn];have f0:∀w',Xc Xe H w'->Xf prog 207 #[.agg (Aj a.c a.cp a.ra).toArray,.agg (Xv q).toArray,.int .i64 0,.int .i64 (E:Nat)] w' (λv T=>Xc Xe w' T/\∃x:RA,v=L2 a.c a.cp x/\Jn r.c H a.ra q 0 (X6 E) x T/\∀b,H.heap.size<=b->(b<w'.heap.size\/T.heap.size<=b)->Xj (λz=>z=b) x.a):=λw' F=>by
   have bd:=Gt E;have c5:a.ra.bs=s.bs:=by rw[i.rb,y3]
   have hh:=XfV a.c a.cp a.ra q 0 E w' ((i.bQ F).cO) (N.bQ F) (by rw[ab.1];exact af) d9 (by rw[ab.1];exact Kh ez (by omega) (by omega) (by omega)) ((i.bQ F).ra) (by rw[c5,ab.1];exact hs.bl) a9;rw[ab.1] at hh⊢;refine hh.mono λv T ⟨x,x1,x2,x3,x4,x5,x6⟩=>⟨x6,x,x1,⟨by rw[bd];exact x2,by rw[bd];exact x3,x4,?_,?_⟩,λb hb gp=>?_⟩
   .exact x5.imp id (λ⟨g,off,e,hg⟩=>⟨g,off,e,by have:=F.size;omega⟩)
   .exact λb' off' s' e=>x4.rd.block (by rw[x2,Ko,c5];exact d2) e
   .intro b' off' s' e G;have gq:=x4.rd.block (by rw[x2,Ko,c5];exact d2) e;rcases x5 with e'|⟨g,off,e',hg⟩
    .have:=i.la b' off' s' (e'▸e);omega
    .rw[e'] at e;cases e;omega
  refine Xd.callAllocG (L2 a.c a.cp) (Jn r.c H a.ra q 0 (X6 E)) ((λx b=>Xj (λz=>z=b) x.a)) Xb O rfl rfl rfl (λ_=>rfl) rfl (λ_=>rfl) (λ_=>rfl) rfl rfl (λ_ _=>rfl) rfl (λ_ _=>rfl) (f0) (V6) ((λ_ h=>h.elim)) ?_;rintro nb x gs gt f3 dx ⟨q1,q2,q3,q4,q5⟩ f4;refine Xd.cK O rfl λgu an=>Xn.store Xb O rfl (an.bP f3) (by first|(intro h;exact rfl)|(intro h;omega)) rfl rfl rfl λf5 cq bh g2=>aF O aA λf6 b2=>?_;have gv:=an.size;have c6:=(dx.trans an).sn bh;have C:=c6.trans b2;have cr:Yh f5 x:=⟨((q3.bQ an).rd).bW f4 bh,q3.len,q3.lc,q3.rng⟩;have cs:=b2.bP cq;have ct:=C.bP I;have cu:=C.bP B;refine bB cs aA (bF ct aA λc7 b3 U g3=>?_);obtain⟨be,ao⟩:∃be:SR,be={a with ra:=x}:=⟨_,rfl⟩;replace b3:Zk c7 tb be:=by rw[ao];exact b3
  have bd:=Gt E;have cv:=i.rb;have bq:=ac;have g4:0<=Zi r.c q 0 E/\Zi r.c q 0 E<=50000000:=by
   have:=K9 (q:=q) (at':=0) (n:=E) af;omega
  have cw:x.cM=Xw (Yd r.c s (o:Nat) size).rm.tot (Zi r.c (Yl r.c s (o:Nat) size).cQ 0 E):=by
   rw[q2,bd,<-bq,<-Ju,i.rs,Cv (by have:=a9;rw[i.rs] at this;omega)]
  have dy:Za f6 be (Yp r.c (Yd r.c s (o:Nat) size) (Yl r.c s (o:Nat) size) 0 (X6 E)):=by
   have h1:=i.putRa C (ra:=x) (bs:=Q9 r.c (Yl r.c s (o:Nat) size).cQ (Yd r.c s (o:Nat) size).bs 0 (X6 E) (X6 E).length) (t:=Xw (Yd r.c s (o:Nat) size).rm.tot (Zi r.c (Yl r.c s (o:Nat) size).cQ 0 (X6 E).length)) (cr.bQ b2) (by rw[q1,cv,<-bq,<-Mr]) (by rw[bd];exact cw) (q5.bQ ((an.gr.trans bh).size|> λh=>by have:=b2.size;omega));rw[ao];exact h1
  have ap:Zt Q r be:=⟨by rw[ao];exact d.1,by rw[ao];exact d.2.1,λS hS c8=>by
   have c9:=d.2.2 S hS c8;have f7:=c9.ra.newer q4 (λz G=>by have:=hS z G;omega);rw[ao];exact {c9 with ra:=f7}⟩
  have br:=(L.trans C).sn U;have dz:=dy.bW (ap.2.2 (λz=>z=tb) (λz e=>by omega) (h.out λz e=>by omega)) (by have:=h.cO.bR br;rw[ap.1,ap.2.1];exact this) U;have cx:=U.heap cu (λe=>ltp e.symm);refine bB b3 aA (bB cx aA (aO aA ?_));have ca:=N.bQ C;have e0:Zp c7 q:=⟨ca.rd.bW (λb' off s' e G=>by have:=ak b' off s' e;omega) U,ca.len⟩;have f8:=U6 dz (show(Yd r.c s (o:Nat) size).th.length<=4096 by rw[y1];exact Sk hs) o (show o<(Yd r.c s (o:Nat) size).th.length by rw[y1];exact ho) ⟨size,q⟩ (some ⟨size,Yl r.c s (o:Nat) size⟩) ⟨rfl,λy e=>by cases e;exact bq⟩ ⟨e0,(P.bQ C.size).bQ U.size⟩;refine aP aA (f8) ?_;rintro _ gw ⟨da,rfl,f9,⟨e6,e7,ea⟩,cb⟩;refine aN aA ?_;have cy:=C.bP co;have cz:=cb.bP (U.heap cy (by have:=Xg R;omega));refine bF cz aA λgx d0 cc g5=>?_;have lqb:=Xg R;have bt:=(br.trans cb).sn cc;have zu:Q.heap.size<=c7.heap.size:=by have:=C.size;have:=U.size;omega
  have db:Zt T r da:=⟨e6.trans ap.1,e7.trans ap.2.1,λS hS c8=>ea S (λz G=>by have:=hS z G;omega) (ap.2.2 S (λz G=>by have:=hS z G;omega) c8) (λb' off s' e G=>by have:=hS _ G;have:=ak b' off s' e;omega)⟩;have eL:Q3 r.c s (o:Nat) size={Yp r.c (Yd r.c s (o:Nat) size) (Yl r.c s (o:Nat) size) 0 (X6 E) with th:=(Yd r.c s (o:Nat) size).th.set o (some ⟨size,Yl r.c s (o:Nat) size⟩)}:=by
   unfold Q3;rw[y1,XB,<-bq,<-Xht,ehn,XB]
  rw[eL];exact aK func137 d0 aA ⟨da,rfl,h.box db f9 (by omega) (by omega) cc bt,db.dC eh,bt⟩
theorem XfX(h:Za w r s)(hs:s.Ok r.c)(o size:Int)(ht:0<=s.rm.tot/\s.rm.tot<=999999000000):Xf prog 82 #[.agg (Z8 r).toArray,.int .i64 o,.int .i64 size] w
 (λv w'=>∃r',v=.tuple #[.agg (Z8 r').toArray,.int .i64 (Cn r.c s o size)]/\Ej w r (Ab r.c s o size) r' w'):=by
 refine aR func82 ntmps82 aA (bC aA λb U e1 M I S=>bC aA λqb V e2 B C T=>?_);have D:=C.bP M;have d:=I.trans C;have lq:=Xg B;refine bB D aA (bG (U5 (h.bQ d) hs o) aA λW i=>?_);have k:=i.bP D;have f:=i.bP B;have a:=d.trans i;by_cases x:Z7 s o=1
 .have e:Cn r.c s o size=1:=by unfold Cn;rw[bK x]
  have eS:Ab r.c s o size=s:=by unfold Ab;rw[bJ (by rw[e];decide)]
  rw[e,eS];refine bI aA ?_;exact bB k aA (bF f aA λwr n p J=>aK func82 n aA ⟨r,rfl,.self h (a.sn p)⟩)
 .by_cases H:Z7 s o=0
  .have e:Cn r.c s o size=10:=by unfold Cn;rw[bJ x,bK H]
   have eS:Ab r.c s o size=s:=by unfold Ab;rw[bJ (by rw[e];decide)]
   rw[e,eS];refine aS aA (bI aA ?_);exact bB k aA (bF f aA λwr n p J=>aK func82 n aA ⟨r,rfl,.self h (a.sn p)⟩)
  .have e:Cn r.c s o size=Yt r.c s size:=by unfold Cn;rw[bJ x,bJ H]
   obtain⟨j,rfl,N,O⟩:=Xbq x H;refine aS aA (aS aA (bB k aA (bG (R9 (h.bQ a) hs size) aA λw4 l=>?_)));have q:=l.bP k;have t:=l.bP f;have c:=a.trans l;by_cases gf:Yt r.c s size=0
   .have eS:Ab r.c s (j:Nat) size=Q3 r.c s (j:Nat) size:=by unfold Ab;rw[bK (e.trans gf)]
    rw[e,eS,gf];refine aS aA (bB q aA (aP aA (Xf4 (h.bQ c) hs N gf (StM.OkP.lay hs O gf (λ_ _ e=>by cases e)) ht) ?_));rintro _ P ⟨Q,rfl,y⟩;refine aN aA ?_;refine bF (y.2.2.bP t) aA λR g m K=>?_;have u:=(c.trans y.2.2).sn m;have E:=y.2.1.dC ((i.trans l).size);exact aK func82 g aA ⟨Q,rfl,h.box E y.1 (by omega) (by omega) m u,E.dC d.size,u⟩
   .have eS:Ab r.c s (j:Nat) size=s:=by unfold Ab;rw[bJ (by rw[e];exact gf)]
    rw[e,eS];exact aM aA (by simpa using gf) (aQ 4 Xe (by kernel_rfl) aA λA=>aE A q aA (aE A q aA (aG A (λw' L=>R9 (h.bQ (c.trans L)) hs size) aA (aF A aA λP F=>bF (F.bP t) aA λR g m K=>aK func82 g aA ⟨r,rfl,.self h ((c.trans F).sn m)⟩))))
abbrev XgP(x:SR):Value:=.agg (Z8 x).toArray
theorem Vx(hs:s.Ok c)(κ:Int)(ht:0<=s.rm.tot/\s.rm.tot<=1000000000000):0<=(Zh s κ).rm.tot/\(Zh s κ).rm.tot<=s.rm.tot+20000:=by
 unfold Zh;cases hm:Xy s κ with
 |none=>exact⟨ht.1,by show s.rm.tot<=_;omega⟩
 |some m=>exact XcG hs _ _ ht
theorem Za.trowP(h:Za w r s){t:ThM}(ht:s.th[j]?=some (some t)):∃(hj:j<r.ts.length),(r.ts[j].size=t.size/\Xx r.ts[j].q=t.q)/\Zp w r.ts[j].q/\Yr w r.ts[j].q.pa/\∃b off,r.ta=some ⟨b,off,none⟩/\(∀v,(D1 r.ts[j])[0]?=some v->w.cell? ⟨b,off+j*5,none⟩=some v)/\(∀v,(D1 r.ts[j])[1]?=some v->w.cell? ⟨b,off+j*5+1,none⟩=some v)/\∀i v,(Xv r.ts[j].q)[i]?=some v->w.cell? ⟨b,off+j*5+1+i,none⟩=some v:=by
 have hj:j<r.ts.length:=by rw[h.tn];exact(XC.1 ht).1
 obtain⟨⟨d,f⟩,b,off,e,c⟩:=h.trow hj;obtain⟨g,k⟩:=h.tq _ (XM hj);refine⟨hj,⟨by rw[d,Hg ht];rfl,f t (Hg ht)⟩,g,k,b,off,e,λv a=>c 0 v a,λv a=>c 1 v a,λi v a=>?_⟩;rw[YR];exact c (1+i) v (by rw[<-a,Nat.add_comm];rfl)
theorem Xf0(h:Za w r s)(hs:s.Ok r.c)(o:Int)(ht:0<=s.rm.tot/\s.rm.tot<=999999000000):Xf prog 83 #[.agg (Z8 r).toArray,.int .i64 o] w
 (λv w'=>∃r',v=.tuple #[.agg (Z8 r').toArray,.int .i64 (Z7 s o)]/\Ej w r (Bn r.c s o) r' w'):=by
 refine aR func83 ntmps83 aA (bC aA λb w1 e1 hb ae bd=>bC aA λqb f e2 Q R be=>?_);have T:=R.bP hb;have m:=ae.trans R;have lq:=Xg Q;refine bB T aA (bG (U5 (h.bQ m) hs o) aA λL c=>?_);have y:=c.bP T;have A:=c.bP Q;have g:=m.trans c;by_cases B:Z7 s o=0
 .obtain⟨j,t,rfl,C⟩:=J0 B;obtain⟨t',f1,f2,f3,f4,f5⟩:=Og hs C;have F:=Mi hs t.q.cL;have eS:Bn r.c s (j:Nat)=Cd r.c {Zh s t.q.cL with th:=(Zh s t.q.cL).th.set j none} t'.q:=by
   unfold Bn;rw[bJ (λe=>e B),Qr C,Qr f1,XB]
  have h3:=h.bQ g;obtain⟨bf,⟨_,v2⟩,_,_,a0,off,eta,_,af,_⟩:=h3.trowP C;rw[eS,B];refine aS aA (aQ 10 Xe (by kernel_rfl) aA λa=>aE a y aA (aE a y aA ?_));rw[eta];refine aB (j*5) a aA (aD a (af _ rfl) aA ?_);rw[show r.ts[j].q.cL=t.q.cL from congrArg PlcM.cL v2,<-eta];have hd:∀w',Xc Xe L w'->Xf prog 138 #[.agg (Z8 r).toArray,.int .i64 t.q.cL] w' (λv f=>Xc Xe w' f/\∃x,v=XgP x/\Pp L r (Zh s t.q.cL) x f/\∀b,L.heap.size<=b->(b<w'.heap.size\/f.heap.size<=b)->Vo x b):=λw' d=>
   (XfZ (h3.bQ d) hs t.q.cL ⟨ht.1,by omega⟩).mono λv f ⟨x,a1,M,a3,N⟩=>⟨N,x,a1,⟨M,a3.dC d.size,d.trans N⟩,XgR h3 M a3⟩
  refine Xd.callAllocG (XgP) (Pp L r (Zh s t.q.cL)) (Vo) Xb a rfl rfl rfl (λ_=>rfl) rfl (λ_=>rfl) (λ_=>rfl) rfl rfl (λ_ _=>rfl) rfl (λ_ _=>rfl) (hd) (XgQ) ((λ_ h=>h.elim)) ?_;rintro nb x w4 bg ah ai ⟨q1,O,q3⟩ hG;refine aF a aA λw5 D=>bF (D.bP ah) aA λw7 E U bh=>?_;have i:=(ai.trans D).sn U;have H:=g.trans i;have V:=(q1.bQ D).bW hG (by have:=h.cO.bR (g.trans i);rw[O.1,O.2.1];exact this) U;obtain⟨bi,⟨_,y2⟩,p1,p2,b0,b6,a9,_,_,W⟩:=V.trowP f1;obtain⟨q,eq⟩:∃q:Plc,q=x.ts[j].q:=⟨_,rfl⟩;rw[<-eq] at y2 p1 p2 W;refine bB E aA ?_;rw[a9];refine aU (j*5) aA (Xa.loadC Xb ((Xv q)) rfl (by first|rfl|(simp;done)|(simp[*];done)|(simp;omega)) (W) rfl (bC aA λpb w8 e8 aa ak bj=>bF aa aA λw9 ab am bk=>?_));have k:=ak.sn am;have an:∀w',Xc Xe w9 w'->Xf prog 140 #[.agg (Z8 x).toArray,.int .i64 (j:Nat),.agg (D1 Nq).toArray] w' (λv f=>Xc Xe w' f/\∃r',v=.agg (Z8 r').toArray/\Za f r' {Zh s t.q.cL with th:=(Zh s t.q.cL).th.set j none}/\Zt w9 x r'):=λw' d=>
   (U6 ((V.bQ k).bQ d) (Sk F.ok) j ((XC.1 f1).1) Nq none ⟨rfl,λ_ e=>by cases e⟩ ⟨J2 _ _ _,λ_ _ _ e=>by cases e⟩).mono λv f ⟨r',a1,M,⟨b1,b2,b3⟩,N⟩=>⟨N,r',a1,M,b1,b2,λS hS ho=>b3 S (λz G=>by have:=hS z G;have:=d.size;omega) ho (λ_ _ _ e=>by cases e)⟩
  refine aQ 5 Xe (by kernel_rfl) aA λa=>aE a (k.bP E) aA (Xd.build Xb a rfl rfl (aE a ab aA (Xd.callQ a rfl rfl (an) ?_)));rintro _ bm ac ⟨ao,rfl,ad,I⟩;refine Xd.adv Xb a rfl (aF a aA λbn J=>?_);have l:=ac.trans J;have ec:=I.1.trans O.1;have ap:=Vx hs t.q.cL ⟨ht.1,by omega⟩;have aq:StM.OkP ao.c {Zh s t.q.cL with th:=(Zh s t.q.cL).th.set j none} (some (j,Xx q)):=by rw[ec,y2];exact F.ok.away f1 f5
  refine aP aA (Xf3 (ad.bQ J) q aq ((p1.bQ k).bQ l) ⟨ap.1,by show(Zh s t.q.cL).rm.tot<=_;omega⟩) ?_;rintro _ bo ⟨ar,rfl,n⟩;refine aN aA ?_;rw[ec,y2] at n;have p:=(k.trans l).trans n.2.2;have z7:=H.size;have bp:=i.size;refine bF (p.bP (i.bP A)) aA λbq P K bc=>?_;have u:=(H.trans p).bU K (λz G e=>by have:=c.size;omega);have a5:=(O.dC c.size).trans (I.trans n.2.1 l.size) (by have:=c.size;omega);exact aK func83 P aA ⟨ar,rfl,h.box a5 n.1 (by omega) (by have:=c.size;omega) K u,a5.dC m.size,u⟩
 .have eS:Bn r.c s o=s:=by unfold Bn;rw[bK B]
  rw[eS];refine aM aA (by simpa using B) ?_;exact bB y aA (bF A aA λwr au av br=>aK func83 au aA ⟨r,rfl,.self h (g.sn av)⟩)
theorem Xl.rd8(h:Xl base 5 1 w v n (l.map (Value.int .u8)))(hn:l.length=n):∃a cap,v=.slice a n cap/\Rd .u8 w a l/\∀b off s,a=some ⟨b,off,s⟩->base<=b/\b<w.heap.size:=by
 rcases h.2 with⟨rfl,f⟩|⟨g,cap,cur,rfl,i,d,j,k,_,c⟩
 .subst f;have:l=[]:=YB.1 hn;subst this;exact⟨none,0,rfl,Rd.nil _ _ _,(by intro b off s e;cases e)⟩
 .exact⟨_,cap,rfl,Rd.of_take d (by rw[hn];rw[ZQ] at c;exact c),(by intro b off s e;cases e;exact⟨i,Xg d⟩)⟩
abbrev Uy(c:Conf)(p:Y4)(ra:RA)(n:Nat)(x:Option Addr×Nat):Value:=.tuple #[.agg (Aj c p ra).toArray,.slice x.1 n x.2,.int .i64 0]
abbrev O9(l:List Int)(base:Nat)(x:Option Addr×Nat)(w2:dD):Prop:=Rd .u8 w2 x.1 l/\∀b off s,x.1=some ⟨b,off,s⟩->base<=b/\b<w2.heap.size
theorem XfE:∀x w2 w3,O9 l base x w2->Xc Xe w2 w3->O9 l base x w3:=λ_ _ _ ⟨a,b⟩ c=>⟨a.bR c,λb' off s e=>⟨(b b' off s e).1,by have:=(b b' off s e).2;have:=c.size;omega⟩⟩
theorem Xl4(h:Za w r s)(hs:s.Ok r.c)(o i n:Int)(hi : -9223372036854775808<=i/\i<=9223372036854775807)(hn : -9223372036854775808<=n/\n<=9223372036854775807)(ht:0<=s.rm.tot/\s.rm.tot<=999999000000):Xf prog 142 #[.agg (Z8 r).toArray,.int .i64 o,.int .i64 i,.int .i64 n] w
 (λv w'=>∃r' a cap,v=.tuple #[.agg (Z8 r').toArray,.slice a (Cp r.c s o i n).length cap,.int .i64 (Qo s o i n)]/\Rd .u8 w' a (Cp r.c s o i n)/\(∀b off s',a=some ⟨b,off,s'⟩->w.heap.size<=b/\b<w'.heap.size)/\Ej w r (Co r.c s o i n) r' w'):=by
 have l:=hs.may;refine aR func142 ntmps142 aA (bC aA λb w1 e1 hb a9 ay=>bC aA λqb F e2 aa P az=>?_);have Q:=P.bP hb;have G:=a9.trans P;refine bB Q aA (bG (Xf5 (h.bQ G) hs o i n hi hn) aA λH y=>?_);have g:=y.bP Q;have m:=y.bP aa;have c:=G.trans y;have z3:=y.size;by_cases p:Qo s o i n=0
 .obtain⟨j,t,i',n',rfl,A,rfl,rfl,h5,ab,ac⟩:=V2 hs p;have W:=h.bQ c;obtain⟨b0,⟨_,I⟩,p1,p2,a0,off,eta,_,_,R⟩:=W.trowP A;obtain⟨q,eq⟩:∃q:Plc,q=r.ts[j].q:=⟨_,rfl⟩;rw[<-eq] at I p1 p2 R;have ae:q.bS.length<=4096:=by have e:q.bS=t.q.bS:=congrArg PlcM.bS I;rw[e];exact ac
  have a1:Qt r.c q i' n'=0:=by rw[Xaw,I];exact ab
  have eR:Co r.c s (j:Nat) (i':Nat) (n':Nat)=Ql s (Zi r.c t.q.cQ i' n'):=by unfold Co;rw[bK p,Qr A,XB,XB]
  have eB:Cp r.c s (j:Nat) (i':Nat) (n':Nat)=Yg r.c q s.bs i' n':=by unfold Cp;rw[bK p,Qr A,XB,XB,XcF r.c q,I]
  obtain⟨ra',era⟩:∃ra':RA,ra'={r.ra with cM:=r.ra.cM+Zi r.c q i' n'}:=⟨_,rfl⟩;have af:(r.ra.bs.length:Int)=r.c.size*r.c.bS:=by rw[h.rb];exact hs.bl
  have J:(Yg r.c q s.bs i' n').length=n':=by unfold Yg;simp
  rw[eR,eB,p];refine aS aA ?_;rw[J];have T:=h.rs;have b1:=K9 (q:=q) (at':=i') (n:=n') l;have b2:=(hs.size j t A).2;have b3:=(Ye l).cH;have hd:∀w',Xc Xe H w'->Xf prog 213 #[.agg (Aj r.c r.cp r.ra).toArray,.agg (Xv q).toArray,.int .i64 (i':Nat),.int .i64 (n':Nat)] w' (λv F=>Xc Xe w' F/\∃x,v=Uy r.c r.cp ra' n' x/\O9 (Yg r.c q s.bs i' n') H.heap.size x F/\∀b,H.heap.size<=b->(b<w'.heap.size\/F.heap.size<=b)->Xj (λz=>z=b) x.1):=λw' k=>
   (XfT r.c r.cp r.ra q i' n' w' ((W.bQ k).cO) (p1.bQ k) l ae a1 ((W.bQ k).ra) af (by rw[T];omega)).mono λv F ⟨u1,x1,x2,x3⟩=>by
    rw[h.rb] at x2;obtain⟨a,cap,rfl,y1,y2⟩:=x2.rd8 J;have:=c.size;have:=k.size;exact⟨x3,(a,cap),by rw[x1,era],⟨y1,λb off s' e=>⟨by have:=(y2 b off s' e).1;omega,(y2 b off s' e).2⟩⟩,λb hb b4 b' off s' e K=>by have:=y2 b' off s' e;omega⟩
  refine aQ 18 Xe (by kernel_rfl) aA λf=>aE f g aA (aG f (λw' k=>(Pc (w:=w') (r:=r))) aA (aE f g aA ?_));rw[eta];refine aB (j*5) f aA (Xd.loadC Xb f ((Xv q)) rfl (by first|rfl|(simp;done)|(simp[*];done)|(simp;omega)) (R) (by first|exact λh=>h|(intro h;omega)|assumption) rfl (Xd.callAllocG (Uy r.c r.cp ra' n') (O9 (Yg r.c q s.bs i' n') H.heap.size) ((λx b=>Xj (λz=>z=b) x.1)) Xb f rfl rfl rfl (λ_=>rfl) rfl (λ_=>rfl) (λ_=>rfl) rfl rfl (λ_ _=>rfl) rfl (λ_ _=>rfl) (hd) (XfE) ((λ_ h=>h.elim)) ?_));rintro nb x w4 b5 ah ai ⟨q1,q2⟩ hG;refine Xd.cK f rfl λw5 B=>Xn.store Xb f rfl (B.bP ah) (by first|(intro h;exact rfl)|(intro h;omega)) rfl rfl rfl λw6 a4 L b6=>aF f aA λw7 C=>?_;have u:=((ai.trans B).sn L).trans C;refine bB (C.bP a4) aA (bF (u.bP g) aA λw8 D E b7=>?_);obtain⟨M,N⟩:∃M:SR,M={r with ra:=ra'}:=⟨_,rfl⟩;replace D:Zk w8 b M:=by rw[N];rw[era] at D⊢;exact D
  refine bB D aA (bF (E.heap (u.bP m) (by omega)) aA λw9 a5 O b8=>?_);have d:=((c.trans u).sn E).sn O;have U:∀b',b'<H.heap.size->Xj (λz=>z=b') x.1:=λb' h2 b'' off' s' e K=>by
   have:=(q2 b'' off' s' e).1;omega
  have a6:Yh w9 ra':=by rw[era];exact⟨(h.ra.bQ d).rd,h.ra.len,h.ra.lc,h.ra.rng⟩
  have V:=h.putRa d (ra:=ra') (bs:=s.bs) (t:=Xw s.rm.tot (Zi r.c t.q.cQ i' n')) a6 (by rw[era];exact h.rb) (by rw[era,<-I,<-Ju];show r.ra.cM+_=_;rw[T,Cv (by omega)]) (by rw[era];exact h.la.bQ d.size);rw[<-N] at V;have hk:Zt w r M:=by rw[N,era];exact⟨rfl,rfl,λS hS ho=>{ho with ra:=ho.ra}⟩
  have b9:=d.size;exact bD rfl func142 (Xi.cell rfl rfl rfl a5 rfl (.tmp rfl (.tmp rfl .nil))) ⟨M,x.1,x.2,rfl,(((((q1.bR B).bW hG L).bR C).bW (U b (Xg g)) E).bW (U qb (Xg m)) O),λb' off' s' e=>⟨by have:=(q2 b' off' s' e).1;have:=c.size;omega,by have:=(q2 b' off' s' e).2;have:=B.size;have:=L.size;have:=C.size;have:=E.size;have:=O.size;omega⟩,V,hk,d⟩
 .have eR:Co r.c s o i n=s:=by unfold Co;rw[bJ p]
  have eB:Cp r.c s o i n=[]:=by unfold Cp;rw[bJ p]
  rw[eR,eB];exact aM aA (by simpa using p) (bB g aA (bF m aA λw4 a7 ak ba=>aK func142 a7 aA ⟨r,none,0,rfl,Rd.nil _ _ _,(by intro b off s e;cases e),.self h (c.sn ak)⟩))
theorem Xc4{r x:RA}(hal:Yr w r.a)(hpos:0<r.bs.length)(hw':Xc Xe w w')(x2:x.bs=Q9 c q r.bs i l l.length)(x3:x.cM=r.cM+Zi c q i l.length)(x4:Yh w2 x)(x5:Gb w' r.a x.a):Jn c w r q i l x w2/\∀b,w.heap.size<=b->(b<w'.heap.size\/w2.heap.size<=b)->Xj (λz=>z=b) x.a:=by
 have a:0<x.bs.length:=by rw[x2,Ko];exact hpos
 refine⟨⟨x2,x3,x4,?_,λb' off' s' e=>x4.rd.block a e⟩,λb j f b' off' s' e k=>?_⟩
 .exact x5.imp id (λ⟨g,off,e,d⟩=>⟨g,off,e,by have:=hw'.size;omega⟩)
 .have h:=x4.rd.block a e;rcases x5 with e'|⟨g,off,e',d⟩
  .have:=hal b' off' s' (e'▸e);omega
  .rw[e'] at e;cases e;omega
theorem XeB(h:s.OkP c pd){t:ThM}(ht:s.th[o]?=some (some t)){m:MvM}(hm:Xy s t.q.cL=some m):t.size<=m.size:=by
 obtain⟨k,ek,_,a⟩:=At hm;exact Rn h a ht ek
theorem Xao(h:s.OkP c pd):0<s.bs.length:=by
 have a:=Ye h.may;have b:1*64<=c.bS*c.size:=ZG (by have:=a.bS;omega) (by have:=a.size;omega) (by omega) (by have:=a.bS;omega);rw[YQ c.bS] at b;rw[<-h.bl] at b;omega
theorem Xl6(h:Za w r s)(hs:s.Ok r.c)(o i:Int)(a:Option Addr)(cap:Nat)(l:List Int)(hi : -9223372036854775808<=i/\i<=9223372036854775807)(hr:Rd .u8 w a l)(hl:l.length<=9223372036854775807)(hin:Qi l)(ht:0<=s.rm.tot/\s.rm.tot<=999900000000):Xf prog 143 #[.agg (Z8 r).toArray,.int .i64 o,.int .i64 i,.slice a l.length cap] w
 (λv w'=>∃r',v=.tuple #[.agg (Z8 r').toArray,.int .i64 (Qo s o i l.length)]/\Ej w r (C9 r.c s o i l) r' w'):=by
 have A:=hs.may;have aj:=Xao hs;refine aR func143 ntmps143 aA (bC aA λb w1 e1 hb ak bo=>bC aA λqb L e2 a4 a5 bp=>?_);have a6:=a5.bP hb;have B:=ak.trans a5;have lq:=Xg a4;refine bB a6 aA (bG (Xf5 (h.bQ B) hs o i l.length hi (by omega)) aA λI C=>?_);have u:=C.bP a6;have M:=C.bP a4;have d:=B.trans C;have z3:=C.size;by_cases N:Qo s o i l.length=0
 .obtain⟨j,t,i',n',rfl,y,rfl,en,h5,al,am⟩:=V2 hs N;obtain rfl:l.length=n':=by omega
  have U:=h.bQ d;obtain⟨bq,⟨_,J⟩,p1,p2,a0,off,eta,_,_,a7⟩:=U.trowP y;obtain⟨q,eq⟩:∃q:Plc,q=r.ts[j].q:=⟨_,rfl⟩;rw[<-eq] at J p1 p2 a7;have ao:q.bS.length<=4096:=by have e:q.bS=t.q.bS:=congrArg PlcM.bS J;rw[e];exact am
  have ab:Qt r.c q i' l.length=0:=by rw[Xaw,J];exact al
  have eW:C9 r.c s (j:Nat) (i':Nat) l=Ah (Yp r.c s t.q i' l) (j:Nat) i' l.length:=by unfold C9;rw[bK N,Qr y,XB]
  have ap:(r.ra.bs.length:Int)=r.c.size*r.c.bS:=by rw[h.rb];exact hs.bl
  have O:=h.rs;have aq:=K9 (q:=q) (at':=i') (n:=l.length) A;have b6:0<=Zi r.c t.q.cQ i' l.length/\Zi r.c t.q.cQ i' l.length<=2*l.length+1:=by have:=aq;rw[Ju,J] at this;exact this
  have br:=(hs.size j t y).2;have bt:=(Ye A).cH;have a8:Xw s.rm.tot (Zi r.c t.q.cQ i' l.length)=s.rm.tot+Zi r.c t.q.cQ i' l.length:=Cv (by omega);rw[eW,N];refine aS aA ?_;have hd:∀w',Xc Xe I w'->Xf prog 214 #[.agg (Aj r.c r.cp r.ra).toArray,.agg (Xv q).toArray,.int .i64 (i':Nat),.slice a l.length cap] w' (λv L=>Xc Xe w' L/\∃x,v=L2 r.c r.cp x/\Jn r.c I r.ra q i' l x L/\∀b,I.heap.size<=b->(b<w'.heap.size\/L.heap.size<=b)->Xj (λz=>z=b) x.a):=λw' c=>
   (XbT r.c r.cp r.ra q i' a cap l w' ((U.bQ c).cO) (p1.bQ c) A ao ab ((U.bQ c).ra) ap (by rw[O];omega) (hr.bR (d.trans c)) hin).mono λv L ⟨x,x1,x2,x3,x4,x5,x6⟩=>
    ⟨x6,x,x1,Xc4 U.la (by rw[h.rb];exact aj) c x2 x3 x4 x5⟩
  refine aQ 16 Xe (by kernel_rfl) aA λf=>aE f u aA (aG f (λw' c=>(Pc (w:=w') (r:=r))) aA (aE f u aA ?_));rw[eta];refine aB (j*5) f aA (Xd.loadC Xb f ((Xv q)) rfl (by first|rfl|(simp;done)|(simp[*];done)|(simp;omega)) (a7) (by first|exact λh=>h|(intro h;omega)|assumption) rfl (Xd.callAllocG (L2 r.c r.cp) (Jn r.c I r.ra q i' l) ((λx b=>Xj (λz=>z=b) x.a)) Xb f rfl rfl rfl (λ_=>rfl) rfl (λ_=>rfl) (λ_=>rfl) rfl rfl (λ_ _=>rfl) rfl (λ_ _=>rfl) (hd) (V6) ((λ_ h=>h.elim)) ?_));rintro nb x w4 bu ar au ⟨q1,q2,V,q4,q5⟩ hG;refine Xd.cK f rfl λw5 D=>Xn.store Xb f rfl (D.bP ar) (by first|(intro h;exact rfl)|(intro h;omega)) rfl rfl rfl λw6 ac P bv=>aF f aA λw7 E=>?_;have ad:=(au.trans D).sn P;have k:=ad.trans E;have ae:=d.trans k;have z7:=k.size;have p:Yh w6 x:=⟨((V.bQ D).rd).bW hG P,V.len,V.lc,V.rng⟩;have af:=(q5.bQ D.size).bQ P.size;have ag:=E.bP ac;have aw:=k.bP u;refine bB ag aA (bF aw aA λw8 Q F bw=>?_);obtain⟨K,G⟩:∃K:SR,K={r with ra:=x}:=⟨_,rfl⟩;replace Q:Zk w8 b K:=by rw[G];exact Q
  have R:=ae.sn F;have a1:∀b',w.heap.size<=b'->b'<I.heap.size->Xj (λz=>z=b') x.a:=λb' h1 h2 b'' off' s' e W=>by
   rcases q4 with e'|⟨g,off,e',hg⟩
   .have:=h.la b'' off' s' (e'▸e);omega
   .rw[e'] at e;cases e;omega
  have ah:Yh w8 x:=⟨((p.bQ E).rd).bW (a1 b (by omega) (Xg u)) F,p.len,p.lc,p.rng⟩;have a9:=h.putRa R (ra:=x) (bs:=Q9 r.c t.q.cQ s.bs i' l l.length) (t:=Xw s.rm.tot (Zi r.c t.q.cQ i' l.length)) ah (by rw[q1,h.rb,<-J,<-Mr]) (by rw[q2,O,<-J,<-Ju,Cv (by omega)]) ((af.bQ E.size).bQ F.size);rw[<-G] at a9;have ay:K.c=r.c:=by rw[G]
  have az:Zt I r K:=by
   rw[G];exact⟨rfl,rfl,λS hS ho=>{ho with ra:=ho.ra.newer q4 hS}⟩
  have b1:(Yp r.c s t.q i' l).OkP K.c none:=by rw[ay];exact StM.OkP.put hs _ _ hin
  refine bB Q aA (aP aA (Xf6 a9 b1 j (show(Yp r.c s t.q i' l).th[j]?=some (some t) from y) i' l.length (λm hm=>by have:=XeB hs y (show Xy s t.q.cL=some m from hm);omega) ⟨by show 0<=Xw s.rm.tot _;rw[a8];omega,by show Xw s.rm.tot _<=_;rw[a8];omega⟩) ?_);rintro _ w9 ⟨r9,rfl,h9⟩;refine aN aA ?_;refine bF (h9.2.2.bP (F.heap (k.bP M) (by omega))) aA λbx a3 T bn=>?_;have H:=(R.trans h9.2.2).sn T;have aa:=(az.dC z3).trans h9.2.1 (by omega);exact aK func143 a3 aA ⟨r9,rfl,h.box aa h9.1 (by omega) (by omega) T H,aa.dC B.size,H⟩
 .have eW:C9 r.c s o i l=s:=by unfold C9;rw[bJ N]
  rw[eW];exact aM aA (by simpa using N) (bB u aA (bF M aA λw4 ai b2 bz=>aK func143 ai aA ⟨r,rfl,.self h (d.sn b2)⟩))
end Go.Proofs.YtdeihcnepljjaaaGreatDoor
