/-
  Texts put together: View4, Arena3, View5, View6, View7, View8, Laws21, Ref6, Few, Ref21, Ref21b, Ref21d, Cut16, Ref21e, Ref21f, Ref21g, Ref21h, Ref21i, Laws6b, Move, Move2, Lap, Laws15, Ref6b, Ref6c, Use, Use2, Laws6d, Act, Ref15, Laws15c.
-/
import Derived.Test.YtohjeeapehmkcaaGreatDoorPt5
import Derived.Lib.SliceRun
import Derived.Test.YtohjeeapehmkcaaGreatDoorQRule12
import Derived.Test.YtohjeeapehmkcaaGreatDoorQRule8
import Derived.Test.YtohjeeapehmkcaaGreatDoorQRule9
set_option linter.unusedVariables false
set_option maxRecDepth 100000
namespace Go.Proofs.YtohjeeapehmkcaaGreatDoor
open Go.RowKit
open Bool renaming and_eq_true->XJ
open Int renaming toNat_natCast->XA,eq_ofNat_of_zero_le->XD,mul_le_mul_of_nonneg_right->ZA,mul_le_mul->ZH,mul_nonneg->ZJ,mul_comm->YG,add_mul->YU,one_mul->QC
open List renaming getElem?_eq_getElem->XB,getD_eq_getElem?_getD->XC,length_set->XG,length_replicate->XH,map_append->XI,getElem_mem->XK,length_cons->XM,length_append->XO,mem_of_mem_take->XT,length_take->XU,getElem?_append_left->XX,take_append_drop->XZ,map_cons->ZB,take_add_one->ZC,mem_of_mem_drop->ZD,take_of_length_le->ZE,mem_cons_of_mem->ZF,eq_of_mem_replicate->ZG,mem_cons_self->ZI,take_length->ZL,mem_or_eq_of_mem_set->ZM,flatMap_cons->ZQ,drop_eq_getElem_cons->ZS,getElem?_append_right->ZZ,map_set->YD,sum_cons->YH,getElem?_take->YN,set_append_left->YW,range_succ->YX,getElem?_set->YY,getElem_of_mem->QK,map_take->QL,getD->QN,map_drop->QS
open Nat renaming le_refl->XE,zero_le->XL,zero_add->XS,le_trans->ZV,mul_comm->YF,add_mul->YT,div_add_mod->YV,strongRecOn->QE,mul_le_mul_right->QH,one_mul->QI,mod_lt->QM
open Option renaming map_some->QO
open Go.Proofs.Tryz (func100 func104 func121 func122 func140 func141 func143 func145 func150 func158 func160 func161 func162 func163 func167 func168 func169 func178 func179 func180 func204 func207 func208 func212 func233 func241 func264 func265 func272 func49 func52 func76 func8 func80 func84 func96 func99 ntmps100 ntmps104 ntmps121 ntmps122 ntmps140 ntmps141 ntmps143 ntmps145 ntmps150 ntmps158 ntmps160 ntmps161 ntmps162 ntmps163 ntmps167 ntmps168 ntmps169 ntmps178 ntmps179 ntmps180 ntmps204 ntmps207 ntmps208 ntmps212 ntmps241 ntmps264 ntmps265 ntmps272 ntmps49 ntmps52 ntmps76 ntmps8 ntmps80 ntmps84 ntmps96 ntmps99 prog)
variable {A:Ar}{V:ArV}{c:Conf}{l':IL}{ahead by' size u who z:Int}{lg:List (Nat×List Nat)}{ps:List IL}{bs l p zs:List Int}{l2 ws:List Nat}{cs rest xs:List Value}{N at' b base cap fuel g i j k len lm lo n n0 o off sz t tm vb xb y:Nat}{e:Nat×List Int}{fz:Nat×Nat}{f:Nat->Int}{G:Nat->Pg}{B C F F' Fr S S' T:Nat->Prop}{pd pd2:Option (Nat×PlcM)}{a:Option Addr}{pg:PgL}{P:Pl}{pl':PlM}{q:Plc}{R:Rm}{M:RmM}{x x':Sm}{α:Type}{v:Value}{w w' w0 w1 w2:World}
def Qu(c:Conf)(q:Plc)(at' n:Int):Int:=if Yi c q=false then 1 else if at'<0\/n<0\/Zy c q<n\/Zy c q-n<at' then 8 else 0
theorem G7(hm:X6 c=true)(hfew:q.pages.length<=4096):0<=Zy c q/\Zy c q<=16777216:=by
 obtain⟨e,f,g⟩:=Dr hm;unfold Zy;split
 ·rename_i hi
  split
  ·have h:(q.pages.length:Int)*c.size<=4096*4096:=ZH (by omega) (by omega) (by omega) (by omega);exact⟨ZJ (by omega) (by omega),by omega⟩
  ·rename_i a
   obtain⟨kk,pg,ix,b,_,_,d,_,i,j,_⟩:=Hm hm hi a;rw[b];omega
 ·omega
theorem X2.blt(h:X2 w A V):∀b,b=A.ab\/b=A.db\/b=A.mc\/A.mb=some b->b<w.heap.size:=λb hb=>by
 rcases hb with rfl|rfl|rfl|hb
 ·exact Xg h.obj
 ·exact Xg h.dat
 ·exact Xg h.cap
 ·exact Xg (h.met b hb).1
theorem Xcj(v:Vw)(q:Plc)(at' n fk:Nat)(caps:List Value)(A:Ar)(Vs:Nat->ArV)(K:Nat->(Nat->Prop)->World->Prop)(Y0:Nat->Prop)(w:World)(hv:Bj w v)(hq:Zl w q)(hmb:v.mb=A.mb)(hck:Qu v.c q at' n=0)(hfew:q.pages.length<=4096)(hPv:¬(Y0 v.vb\/Y3 A v.vb))(hPq:0<q.pages.length->Xj (λz=>Y0 z\/Y3 A z) q.pa)(hPc:0<v.c.classes.length->Xj (λz=>Y0 z\/Y3 A z) v.p.ca)(hPk:0<v.c.keep.length->Xj (λz=>Y0 z\/Y3 A z) v.p.ka)(hKlt:∀k Y w,K k Y w -> ∀z,Y z->z<w.heap.size)(hK:∀k Y w1 w2 S,K k Y w1->Xc S w1 w2->(∀z,S z->Y3 A z\/(¬Y z/\w.heap.size<=z))->K k Y w2)(hdo:∀k Y w0 (h:k<(Z3 v.c q at' n).length),X2 w0 A (By q A (Vs k))->K k Y w0 -> Xf prog fk (.int .i64 (Z3 v.c q at' n)[k].1::.int .i64 (Z3 v.c q at' n)[k].2::caps).toArray w0 (λ_ w'=>X2 w' A (Vs (k+1))/\Xc Y w0 w'/\∃Y',K (k+1) Y' w'/\∀z,Y' z->Y z\/w0.heap.size<=z))(h0:X2 w A (Vs 0))(hK0:K 0 Y0 w):Xf prog 140 #[D6 v,.agg (Xv q).toArray,.int .i64 at',.int .i64 n,.func (.func fk) #[] caps.toArray] w
  (λu w'=>u=.int .i64 0/\X2 w' A (Vs (Z3 v.c q at' n).length)/\(∃Y',K (Z3 v.c q at' n).length Y' w'/\∀z,Y' z->Y0 z\/w.heap.size<=z)/\Xc (λz=>Y0 z\/Y3 A z) w w'):=by
 have l:=G7 (c:=v.c) (q:=q) hv.may hfew;have hi:Yi v.c q=true:=by
  cases hi:Yi v.c q with
  |true=>rfl
  |false=>unfold Qu at hck;rw[if_pos hi] at hck;cases hck
 have au:¬((at':Int)<0\/(n:Int)<0\/Zy v.c q<n\/Zy v.c q-n<at'):=λh=>by
  unfold Qu at hck;rw[if_neg (by rw[hi];decide),if_pos h] at hck;cases hck
 refine ζe func140 ntmps140 ϱ (ζn ϱ λqb w1 e1 ac ad ae=>ζn ϱ λdb w2 e2 af a0 b7=>?_);have j:=a0.heap' ac;have hw:=ad.trans a0;refine ζl j ϱ (ζv (Xck v q w2 (hv.grow hw) (hq.grow hw)) ϱ λw3 D=>?_);have J:=hw.trans D;rw[hi];refine ζf ϱ (ζf ϱ (ζf ϱ (ζl (D.heap' j) ϱ (ζv (R7 v q w3 (hv.grow J) (hq.grow J) (by omega)) ϱ λw4 L=>?_))));have M:=J.trans L;refine ζf ϱ (ζl ((D.trans L).heap' j) ϱ (ζv (R7 v q w4 (hv.grow M) (hq.grow M) (by omega)) ϱ λw5 a1=>?_));have a2:=M.trans a1;have N:=(D.trans L).trans a1;refine ζj ϱ (ζf ϱ (ζl (N.heap' j) ϱ (ζc ϱ (Xnf v q at' n w5) ?_)));rintro _ w6 ⟨pb,vb,ab,nb,rfl,b8,b9,ba,bb,bpb,bvb,bab,bnb,a3⟩;have ag:=a2.trans a3;have O:=(N.trans a3).heap' af;have l1:=Xg bpb;have l2:=Xg bvb;have az:=a2.size;have b0:=Xg O;refine ζa ϱ (Xa.rangeFunc rfl rfl ⟨Tryz.f233,func233,rfl,rfl⟩ λP B tmps w7 E hB a6 ah ai g bc=>?_);have m:=ag.trans g;have Q:=hKlt _ _ _ hK0;have F:=h0.mlt;have bd:=Xg hv.obj;have hN:∀{x y:World} {k Y},K k Y x->Xc Xe x y->K k Y y:=λhk hc=>hK _ _ _ _ _ hk hc (λ_ h=>h.elim);have a8:P.state=.ready:=by rw[E]
 have b3:({P with state:=.ready,pending:=none}:Loop)=P:=by rw[E]
 have a9:P.pending=none:=by rw[E]
 refine(Xng (B+1) v q at' n pb vb ab nb A Vs
  (λk R x=>∃Y,K k Y x/\(∀z,R z↔Y z\/z=B+1)/\x.heap[B+1]?=some (.loop P)/\x.heap[B]?=some (.deferred (some []))/\x.heap[db]?=some (.cells ([.func (.func fk) #[] caps.toArray]:List Value).toArray 127 (0,0))/\(∀z,Y z->z≠B/\z≠B+1/\z≠db))
  (λz=>Y0 z\/z=B+1) w7 (hv.grow m) (hq.grow m) hmb hi (by omega) hfew (g.heap' bpb) (g.heap' bvb) (g.heap' bab) (g.heap' bnb) ?_ ?_ ?_ ?_ ?_ ?_ ?_ (h0.grow m) ?_).mono ?_
 ·intro z hz;rcases hz with(hz|hz)|hz
  ·have:=Q z hz;exact⟨by omega,by omega,λe=>hPv (.inl (e▸hz))⟩
  ·exact⟨by omega,by omega,by omega⟩
  ·have:=F z hz;exact⟨by omega,by omega,λe=>hPv (.inr (e▸hz))⟩
 ·exact hq.rd.outNew hPq (λz hz=>by rcases hz with(hz|hz)|hz;exact .inl (.inl hz);exact .inr (by omega);exact .inl (.inr hz))
 ·exact hv.conf.classes.outNew hPc (λz hz=>by rcases hz with(hz|hz)|hz;exact .inl (.inl hz);exact .inr (by omega);exact .inl (.inr hz))
 ·exact hv.conf.keep.outNew hPk (λz hz=>by rcases hz with(hz|hz)|hz;exact .inl (.inl hz);exact .inr (by omega);exact .inl (.inr hz))
 ·rintro k R x ⟨Y,p,d,r,I,T,f⟩ z hz;rcases(d z).1 hz with hz|rfl
  ·exact hKlt _ _ _ p z hz
  ·exact Xg r
 ·rintro k R x y ⟨Y,p,d,r,I,T,f⟩ W;exact⟨Y,hK _ _ _ _ _ p W (λz h=>.inl h),d,W.heap r (λe=>by have:=F _ e;omega),W.heap I (λe=>by have:=F _ e;omega),W.heap T (λe=>by have:=F _ e;omega),f⟩
 ·rintro k R x0 x hk ak ⟨Y,p,d,r,I,T,f⟩ U;have s:=U.heap' r;have aa:=U.heap' I;have t:=U.heap' T;subst E;refine H5.enter (ps:=[46,47]) s rfl rfl a6 rfl (ζa ϱ (Xa.beginRound rfl s rfl λx1 al i ae=>ζa ϱ ?_));refine ζl (i.heap t (by omega)) ϱ (ζc ϱ (hdo k Y x1 hk ((ak.grow U).chg i (λb l e=>by have:=h0.blt b l;omega)) (hK _ _ _ _ _ (hN p U) i (λz e=>.inr ⟨λa=>(f z a).2.1 e,by omega⟩))) ?_);rintro _ x2 ⟨am,G,Y',an,a4⟩;refine ζa ϱ ?_;refine Xa.roundEnd rfl (G.heap al (λa=>(f _ a).2.1 rfl)) ?_;intro x3 ao o be;have b5:=Xg t;have av:=Xg s;have V:∀z,Y' z->z≠B/\z≠B+1/\z≠db:=λz hz=>(a4 z hz).elim (f z) (λh=>by omega);refine⟨_,rfl,rfl,(am.chg o (λb l e=>by have:=h0.blt b l;omega)),((i.mono λz _ e=>(d z).2 (.inr e)).trans (G.mono λz _ e=>(d z).2 (.inl e))).trans (o.mono λz _ e=>(d z).2 (.inr e)),λz=>Y' z\/z=B+1,⟨Y',(hK _ _ _ _ _ an o (λz e=>.inr ⟨λa=>(V z a).2.1 e,by omega⟩)),λz=>Iff.rfl,ao,o.heap (G.heap (i.heap aa (by omega)) (λa=>(f _ a).1 rfl)) (by omega),o.heap (G.heap (i.heap t (by omega)) (λa=>(f _ a).2.2 rfl)) (by omega),V⟩,λz hz=>?_⟩;rcases hz with hz|hz
  ·exact(a4 z hz).elim (λh=>.inl ((d z).2 (.inl h))) (λh=>.inr (by omega))
  ·exact .inl ((d z).2 (.inr hz))
 ·exact⟨Y0,hN hK0 m,λz=>Iff.rfl,ai,ah,g.heap' O,λz hz=>by have:=Q z hz;omega⟩
 ·rintro _ w8 ⟨rfl,ap,⟨R,⟨Y,p,d,r,I,T,f⟩,aq⟩,ar⟩;refine⟨_,r,by rw[a8];simp,?_⟩;intro w9 H bf;rw[a9];refine ζa ϱ (Xa.retM Xb rfl func140 (H.heap I (by omega)) (vs:=[.int .i64 0]) (λ_ _=>.tmp rfl .nil) λbg C b6=>?_);refine⟨rfl,((ap.chg H (λb l e=>by have:=h0.blt b l;omega)).chg C (λb l e=>by have:=h0.blt b l;omega)),⟨Y,(hK _ _ _ _ _ (hK _ _ _ _ _ p H (λz e=>.inr ⟨λa=>(f z a).2.1 e,by omega⟩)) C (λz e=>.inr ⟨λa=>(f z a).1 e,by omega⟩)),λz hz=>?_⟩,?_⟩
  ·rcases aq z ((d z).2 (.inl hz)) with(h|h)|h
   ·exact .inl h
   ·exact .inr (by omega)
   ·exact .inr (by omega)
  ·exact(((m.gr.since ar (λz hz h=>by rcases h with(h|h)|h;exact .inl h;exact absurd hz (by omega);exact .inr h))).since H (λz hz e=>absurd hz (by omega))).since C (λz hz e=>absurd hz (by omega))
theorem XhD(A:Ar)(V:ArV)(i n:Nat)(w:World)(h:X2 w A V)(ht:i+n<=V.bs.length):Xf prog 227 #[.pointer (some ⟨A.ab,0,none⟩),.int .i64 i,.int .i64 n] w
 (λv w'=>∃x,v=.tuple #[.slice x n (V.bs.length-i),.int .i64 0]/\(0<n->x=some ⟨A.db,i,none⟩)/\x.isSome=true/\w=w'):=
 (XcN A V i n w h ht).mono λ_ _ ⟨a,b⟩=>⟨_,a,λc=>Xgl ht c,by unfold Q6;split <;> rfl,b⟩
theorem XcM(A:Ar)(V:ArV)(t f n:Nat)(w:World)(h:X2 w A V)(hf:f+n<=V.bs.length)(ht:t+n<=V.bs.length):Xf prog 179 #[.pointer (some ⟨A.ab,0,none⟩),.int .i64 t,.int .i64 f,.int .i64 n] w (λv w'=>v=.int .i64 0/\X2 w' A {V.charge A n with bs:=Q1 V.bs t (sub V.bs f n)}/\Xc (Zr A) w w'):=by
 refine ζe func179 ntmps179 ϱ (ζc ϱ (XhD A V f n w h hf) ?_);rintro _ E ⟨y,rfl,u,_,rfl⟩;refine ζa ϱ (ζf ϱ (ζc ϱ (Sn A V t n w h ht) ?_));rintro _ z ⟨x,rfl,a,_,d,B⟩;refine ζa ϱ ?_;have e:Xc (Zr A) w z:=B.mono λb _ m=>.inr m;have e1:=V.charge_bs A n;by_cases q:n=0
 ·refine Xa.copy0 Xb rfl (by simp[q]) rfl ?_;subst q;have o:sub V.bs f 0=[]:=by simp[sub]
  exact ζr func179 ϱ ⟨rfl,by rw[o,Vh,<-V.charge_bs A 0];exact d,e⟩
 ·have r:=a (by omega);have s:=u (by omega);subst r s;have g:=d.sub (i:=f) (n:=n) (x:=some ⟨A.db,f,none⟩) (λ_=>rfl) (by rw[e1];exact hf);rw[e1] at g;have j:=d.dat;rw[e1] at j;have c:=Gc hf;refine Xa.copy Xb rfl j (cs:=(sub V.bs f n).map (Value.int .u8)) (by simp[c]) g.cells (by simp[c];omega) Jb λF k l D=>ζa ϱ ?_;have p:(V.bs.map (Value.int .u8)).take t++(sub V.bs f n).map (Value.int .u8)++(V.bs.map (Value.int .u8)).drop (t+((sub V.bs f n).map (Value.int .u8)).length)=(Q1 V.bs t (sub V.bs f n)).map (Value.int .u8):=by
   unfold Q1;simp[QL,QS]
  rw[p] at k;have C:=d.laid k l (by rw[Iw (by rw[c];exact ht),e1]) (λx a=>(Mt a).elim (h.rng x) (λa=>h.rng x (ZD (XT a))));exact ζr func179 ϱ ⟨rfl,C,e.trans (l.mono λb _ m=>.inl m)⟩
theorem Ms(h:i+l.length<=bs.length):(Q1 bs i l).getD j 0=if j<i then bs.getD j 0 else if j<i+l.length then l.getD (j-i) 0 else bs.getD j 0:=by
 unfold Q1;simp only[XC];by_cases a:j<i
 ·rw[if_pos a,List.append_assoc,XX (by simp;omega),YN,if_pos a]
 ·rw[if_neg a];by_cases b:j<i+l.length
  ·rw[if_pos b,XX (by simp;omega),ZZ (by simp;omega)];simp[show min i bs.length=i from by omega]
  ·rw[if_neg b,ZZ (by simp;omega)];simp only[XO,XU,List.getElem?_drop,show min i bs.length=i from by omega];rw[show i+l.length+(j-(i+l.length))=j from by omega]
theorem XdK{a b:List Int}(hl:a.length=b.length)(h:∀j,j<a.length->a.getD j 0=b.getD j 0):a=b:=by
 apply List.ext_getElem hl
 intro j c d;have:=h j c
 simpa [QN,c,d] using this
theorem XlL{x:Int}(hi:i<l.length):(l.set i x).getD j 0=if j=i then x else l.getD j 0:=by
 simp only[XC,YY];by_cases h:i=j
 ·subst h;simp[hi]
 ·rw[if_neg h,if_neg (Ne.symm h)]
theorem Uo:∀(l:List Value) (i:Nat) (v:Value),i<l.length->Yd l i [v]=some (l.set i v)
 |x::r,0,v,_=>by simp[Yd]
 |x::r,i+1,v,h=>by simp[Yd,Uo r i v (by simpa using h)]
theorem XlJ{x:Int}(hi:i<l.length):Yd (l.map (Value.int .u8)) i [.int .u8 x]=some ((l.set i x).map (Value.int .u8)):=by
 rw[Uo _ _ _ (by simpa using hi),YD]
theorem Xnl:IntKind.u8.wrap z=z%256:=by
 simp only[IntKind.wrap,IntKind.signed,IntKind.bits]
 simp
def Dz(bs:List Int)(i:Nat)(l:List Int)(k:Nat):List Int:=Q1 bs i (l.take k)
theorem Xa2(h:i+l.length<=bs.length)(hk:k<l.length):(Dz bs i l k).set (i+k) (l.getD k 0)=Dz bs i l (k+1):=by
 unfold Dz;have o:(l.take k).length=k:=by simp;omega
 have p:(l.take (k+1)).length=k+1:=by simp;omega
 have d:(Q1 bs i (l.take k)).length=bs.length:=Iw (by omega);have f:(Q1 bs i (l.take (k+1))).length=bs.length:=Iw (by omega);refine XdK (by simp[d,f]) λj q=>?_;have g:∀m,m<k->(l.take k).getD m 0=l.getD m 0:=λm c=>by simp[QN,c]
 have a:∀m,m<k+1->(l.take (k+1)).getD m 0=l.getD m 0:=λm c=>by simp[QN,c]
 rw[XlL (by omega),Ms (by omega),Ms (by omega),o,p];by_cases e:j=i+k
 ·subst e;rw[if_pos rfl,if_neg (by omega),if_pos (by omega),show i+k-i=k from by omega,a k (by omega)]
 ·rw[if_neg e];by_cases b:j<i
  ·rw[if_pos b,if_pos b]
  ·rw[if_neg b,if_neg b];by_cases n:j<i+k
   ·rw[if_pos n,if_pos (by omega),g _ (by omega),a _ (by omega)]
   ·rw[if_neg n,if_neg (by omega)]
theorem Xa3:Dz bs i l 0=bs:=by unfold Dz;simp[Vh]
theorem Xe9:Dz bs i l l.length=Q1 bs i l:=by unfold Dz;rw[ZL]
theorem P9(h:i+l.length<=bs.length):(Dz bs i l k).length=bs.length:=Iw (by simp;omega)
theorem Xkg(h:Qn bs)(h':Qn l):Qn (Dz bs i l k):=λx a=>(Mt a).elim (h x) (λa=>h' x (XT a))
theorem Xj2{c:Int}(h:0<=c/\c<256):Kl .or .u8 0 c=c:=by
 obtain⟨c,rfl⟩:=XD h.1;have a:(BitVec.ofInt 8 (0:Int)|||BitVec.ofInt 8 (c:Int)).toNat=c:=by
  rw[BitVec.toNat_or,BitVec.toNat_ofInt,BitVec.toNat_ofInt];rw[show((c:Int)%((2^8:Nat):Int)).toNat=c from by omega]
  simp
 change IntKind.u8.wrap ((BitVec.ofInt 8 (0:Int)|||BitVec.ofInt 8 (c:Int)).toNat:Int)=_
 rw[a,Xnl];omega
theorem Xiv(h:X2 w A V)(hj:j<V.bs.length):w.cell? ⟨A.db,j,none⟩=some (.int .u8 (V.bs.getD j 0)):=by
 rw[Yt h.dat];simp[hj]
theorem Xhy(A:Ar)(V:ArV)(i n:Nat)(c:Int)(w:World)(h:X2 w A V)(ht:i+n<=V.bs.length)(hc:0<=c/\c<256):Xf prog 150 #[.pointer (some ⟨A.ab,0,none⟩),.int .i64 i,.int .i64 n,.int .u8 c] w (λv w'=>v=.int .i64 0/\X2 w' A {V.charge A n with bs:=Q1 V.bs i (List.replicate n c)}/\Xc (Zr A) w w'):=by
 have U:=h.len;refine ζe func150 ntmps150 ϱ (ζc ϱ (Sn A V i n w h ht) ?_);rintro _ W ⟨x,rfl,a,_,C,hs⟩;refine ζa ϱ ?_;have p:Xc (Zr A) w W:=hs.mono λb _ f=>.inr f;have e1:=V.charge_bs A n;by_cases J:n=0
 ·refine Xa.clear0 Xb rfl J rfl (Xa.unroll Xb rfl (ζf ϱ ?_));subst J;exact ζr func150 ϱ ⟨rfl,by rw[List.replicate_zero,Vh,<-V.charge_bs A 0];exact C,p⟩
 ·have K:=a (by omega);subst K;have q:=C.dat;rw[e1] at q;have L:(List.replicate n (0:Int)).length=n:=XH;have M:(List.replicate n c).length=n:=XH;refine Xa.clear Xb rfl q rfl rfl (by omega) (by simp;omega) λw2 r s a5=>ζa ϱ ?_;have D:(V.bs.map (Value.int .u8)).take i++List.replicate n (Value.int .u8 0)++(V.bs.map (Value.int .u8)).drop (i+n)=(Q1 V.bs i (List.replicate n 0)).map (Value.int .u8):=by
   unfold Q1;simp[QL,QS]
  rw[D] at r;have t:Qn (List.replicate n (0:Int)):=λx a=>by rw[ZG a];omega
  have N:Qn (List.replicate n c):=λx a=>by rw[ZG a];exact hc
  have O:=C.laid r s (by rw[Iw (by omega),e1]) (λx a=>(Mt a).elim (h.rng x) (t x));have E:Xc (Zr A) w w2:=p.trans (s.mono λb _ f=>.inl f);obtain⟨d,e⟩:∃d,d=Q1 V.bs i (List.replicate n 0):=⟨_,rfl⟩;rw[<-e] at O;have g:d.length=V.bs.length:=by rw[e,Iw (by omega)]
  have F:Qn d:=λx a=>by rw[e] at a;exact(Mt a).elim (h.rng x) (t x)
  refine Xa.loop (α:=Nat) (λk=>[(3,false,.int .u8 c),(9,false,.slice (some ⟨A.db,i,none⟩) n (V.bs.length-i)),(10,false,.int .i64 0),(21,false,.int .i64 n),(22,false,.int .i64 k)])
   (λk w'=>X2 w' A {V.charge A n with bs:=Dz d i (List.replicate n c) k}/\Xc (Zr A) w w'/\k<=n) (λk=>n-k) 0 ⟨rfl,rfl,rfl,rfl,rfl,trivial⟩ ⟨by rw[Xa3];exact O,E,by omega⟩ ?_
  rintro k w3 ⟨m,u,hk⟩ ih;refine ζa ϱ (ζg ϱ (λG=>?_) λG=>?_)
  ·have y:k<n:=by have:=of_decide_eq_true G;omega
   have z:(Dz d i (List.replicate n c) k).length=V.bs.length:=by rw[P9 (by omega),g]
   have P:(Dz d i (List.replicate n c) k).getD (i+k) 0=0:=by
    unfold Dz;rw[Ms (by simp;omega),if_neg (by omega),if_neg (by simp;omega),e,Ms (by omega),if_neg (by omega),if_pos (by omega)];simp[QN,y]
   have o:w3.cell? ⟨A.db,i+k,none⟩=some (.int .u8 0):=by rw[<-P];exact Xiv (j:=i+k) m (by simp only[z];omega)
   refine ζi k ϱ (ζk ϱ o ϱ (Xa.bits Xb rfl (Xj2 hc) rfl (ζi k ϱ (ζS ϱ m.dat (XlJ (by simp only[z];omega)) ϱ λw4 Q B a6=>?_))));have H:w4.heap[A.db]?=some (.cells ((Dz d i (List.replicate n c) (k+1)).map (Value.int .u8)).toArray 5 (0,0)):=by
    rw[<-Xa2 (l:=List.replicate n c) (i:=i) (bs:=d) (k:=k) (by omega) (by omega),show(List.replicate n c).getD k 0=c from by simp[QN,y]];exact Q
   have h4:=m.laid H B (by simp only;rw[P9 (by omega),P9 (by omega)]) (Xkg F N);exact ζj ϱ (ih (k+1) _ _ ⟨h4,u.trans (B.mono λb _ f=>.inl f),by omega⟩ (by omega) ⟨rfl,rfl,rfl,rfl,rfl,trivial⟩)
  ·have R:k=n:=by have:=of_decide_eq_false G;omega
   subst R;have I:Dz d i (List.replicate k c) k=Q1 V.bs i (List.replicate k c):=by
    refine XdK (by rw[P9 (by omega),Iw (by omega),g]) λj hj=>?_;unfold Dz;rw[show(List.replicate k c).take k=List.replicate k c from by simp,Ms (by omega),Ms (by omega),e,Ms (by omega)];by_cases S:j<i
    ·simp only[if_pos S]
    ·simp only[if_neg S,M,L];by_cases T:j<i+k
     ·simp only[if_pos T]
     ·simp only[if_neg T]
   rw[I] at m;exact ζr func150 ϱ ⟨rfl,m,u⟩
theorem Ra(hm:X6 c=true)(hck:Qu c q at' n=0)(hfew:q.pages.length<=4096):∀p∈Z3 c q at' n,∃i m:Nat,p=((i:Int),(m:Int))/\((i+m:Nat):Int)<=c.size*c.pages:=by
 obtain⟨B,C,D⟩:=Dr hm;have hi:Yi c q=true:=by
  cases hi:Yi c q with
  |true=>rfl
  |false=>unfold Qu at hck;rw[if_pos hi] at hck;cases hck
 have u:¬((at':Int)<0\/(n:Int)<0\/Zy c q<n\/Zy c q-n<at'):=λh=>by
  unfold Qu at hck;rw[if_neg (by rw[hi];decide),if_pos h] at hck;cases hck
 intro p d;unfold Z3 at d;split at d
 ·rename_i b
  obtain⟨s,l,rfl⟩:=List.mem_map.1 d;obtain⟨v,e⟩:=Tf hi b;have o:Zy c q=(q.pages.length:Int)*c.size:=by unfold Zy;rw[if_pos hi,if_pos b]
  obtain⟨sz,f⟩:=XD (show 0<=c.size by omega);rw[show c.size.toNat=sz from by omega] at l;obtain⟨E,F,G,H⟩:=XbO (page:=sz) (by omega) n at' s l;have j:s.1<q.pages.length:=by
   have w:(s.1*sz:Nat)<q.pages.length*sz:=by
    have:((q.pages.length*sz:Nat):Int)=(q.pages.length:Int)*c.size:=by rw[f];rfl
    omega
   exact Nat.lt_of_mul_lt_mul_right w
  have r:=e _ (show q.pages.getD s.1 0∈q.pages by rw[XC,XB j];exact XK j);obtain⟨g,x⟩:=XD r.1;refine⟨g*sz+s.2.1,s.2.2,?_,?_⟩
  ·rw[x,f];rfl
  ·have e2:(g:Int)*c.size+c.size<=c.size*c.pages:=by
    have:((g:Int)+1)*c.size<=c.pages*c.size:=ZA (by omega) (by omega);rw[YU,QC,YG c.pages] at this;exact this
   have e3:((g*sz:Nat):Int)=(g:Int)*c.size:=by rw[f];rfl
   omega
 ·rename_i b
  simp at d;subst d;obtain⟨kk,pg,ix,k,e,t,z,I,J,K,L,M,N,O⟩:=Hm hm hi b;have A:Ag c q=(pg:Int)*c.size+(ix:Int)*Yb c kk:=by unfold Ag;rw[if_pos ⟨hi,b⟩,k,e,t]
  have o:Zy c q=Yb c kk:=by unfold Zy;rw[if_pos hi,if_neg b,k]
  obtain⟨a,y⟩:=XD (show 0<=Ag c q by omega);exact⟨a+at',n,by rw[y];rfl,by omega⟩
def H2(q:Plc)(A:Ar)(V:ArV)(ps:List (Int×Int)):Nat->ArV
 |0=>V
 |k+1=>(By q A (H2 q A V ps k)).charge A (ps.getD k (0,0)).2
theorem Sz(q:Plc)(A:Ar)(V:ArV):(By q A V).bs=V.bs:=by unfold By;split;exact V.charge_bs A 1;rfl
theorem Xcl(q:Plc)(A:Ar)(V:ArV)(ps:List (Int×Int)):∀k,(H2 q A V ps k).bs=V.bs
 |0=>rfl
 |k+1=>by unfold H2;rw[ArV.charge_bs,Sz,Xcl q A V ps k]
def Ds(bs:List Int)(ps:List (Int×Int)):List Int:=ps.flatMap λp=>sub bs p.1.toNat p.2.toNat
theorem Xm9(v:Vw)(vb ob:Nat)(A:Ar)(V:ArV)(i m base j:Nat)(u:Value)(xs:List Int)(w:World)(hvb:Fw w vb v)(hv:w.heap[v.vb]?=some (.cells (Mq v).toArray 188 (0,0)))(hab:v.ab=A.ab)(hob:w.heap[ob]?=some (.cells ([u]:List Value).toArray 30 (0,0)))(hown:Xl base 5 1 w u j (xs.map (Value.int .u8)))(hbase:base<=w.heap.size)(hobb:ob<base)(hA:X2 w A V)(him:i+m<=V.bs.length)(hj:j+m<=16777216)(hmo:∀z,Y3 A z->z≠ob/\z<base)(hArow:∀b,b=A.ab\/b=A.db\/b=A.mc\/A.mb=some b->some b=u.ownBlock->False)(hAob:∀b,b=A.ab\/b=A.db\/b=A.mc\/A.mb=some b->b=ob->False):Xf prog 145 #[.int .i64 i,.int .i64 m,.pointer (some ⟨vb,0,none⟩),.pointer (some ⟨ob,0,none⟩)] w (λ_ w'=>X2 w' A (V.charge A m)/\Xc (λz=>z=ob\/some z=u.ownBlock\/Y3 A z) w w'/\
  ∃u',w'.heap[ob]?=some (.cells ([u']:List Value).toArray 30 (0,0))/\Xl base 5 1 w' u' (j+m) ((xs++sub V.bs i m).map (Value.int .u8))/\∀z,some z=u'.ownBlock->some z=u.ownBlock\/w.heap.size<=z):=by
 have O:maxLen=9223372036854775807:=rfl;refine ζe func145 ntmps145 ϱ (ζl hvb ϱ (ζl hv ϱ ?_));rw[hab];refine ζc ϱ (XhA A V i m w hA him) ?_;rintro _ J ⟨Q,rfl,⟨g,cap,cur,rfl,R,G,H,y⟩,B,f⟩;refine ζa ϱ ?_;have r:=Gc him;have n:=f.heap hob (λe=>(hmo _ e).1 rfl);have s:=hown.chg f (λb a e=>by have:=(World.ownsRow.lt hown b a.symm).1;have:=(hmo _ e).2;omega);rw[r] at H y⊢;have K:=f.size;have t:∀k x,((sub V.bs i m).map (Value.int .u8))[k]?=some x->J.cell? ((⟨g,0,none⟩:Addr).add k)=some x:=λk x D=>by
  rw[Cl,Yt G];have L:k<m:=by have:=(List.getElem?_eq_some_iff.1 D).1;simpa [r] using this
  rw[<-y,YN,if_pos L] at D
  simpa using D
 refine ζl n ϱ (Xa.append (base:=base) (news:=(sub V.bs i m).map (Value.int .u8)) Xb rfl s (by omega) (by simp[r]) t Jb (by simp only;omega) λS T l d C=>?_);rcases l.2 with⟨o,P⟩|⟨U,M,N,o,_⟩
 ·subst o;refine ζa ϱ ?_;refine ζs (d.heap n (λe=>by have:=(World.ownsRow.lt s _ e.symm).1;omega)) ϱ λE p c I=>?_;have F:Xc (λz=>z=ob\/some z=u.ownBlock\/Y3 A z) w E:=((f.mono λz _ h=>.inr (.inr h)).trans (d.mono λz _ h=>.inr (.inl h))).trans (c.mono λz _ h=>.inl h);exact ζr func145 ϱ ⟨((B.chg d (λb a e=>hArow b a e)).chg c (λb a e=>hAob b a e)),F,_,p,by rw[XI];exact(l.chg c (λb a e=>by have:=(World.ownsRow.lt l b a.symm).1;omega)),λz q=>by rcases C.2 with h|h;exact .inl (q.trans h);exact .inr (by rw[h] at q;cases q;omega)⟩
 ·subst o;refine ζa ϱ ?_;refine ζs (d.heap n (λe=>by have:=(World.ownsRow.lt s _ e.symm).1;omega)) ϱ λE p c I=>?_;have F:Xc (λz=>z=ob\/some z=u.ownBlock\/Y3 A z) w E:=((f.mono λz _ h=>.inr (.inr h)).trans (d.mono λz _ h=>.inr (.inl h))).trans (c.mono λz _ h=>.inl h);exact ζr func145 ϱ ⟨((B.chg d (λb a e=>hArow b a e)).chg c (λb a e=>hAob b a e)),F,_,p,by rw[XI];exact(l.chg c (λb a e=>by have:=(World.ownsRow.lt l b a.symm).1;omega)),λz q=>by rcases C.2 with h|h;exact .inl (q.trans h);exact .inr (by rw[h] at q;cases q;omega)⟩
theorem Xmo{page:Nat}(hp:1<=page):∀(n at':Nat),((Ya at' n page).map λs=>s.2.2).sum=n:=by
 intro n
 induction n using QE with
 |_ n ih=>
  intro at';by_cases a:n=0
  ·subst a;rfl
  ·have b:=Ju (at':=at') hp (show 0<n by omega);rw[K6 hp (by omega),ZB,YH,ih _ (by omega)];unfold Dc;simp only
   omega
def Zt(ps:List (Int×Int)):Nat:=(ps.map λp=>p.2.toNat).sum
theorem XgT(p:Int×Int)(ps:List (Int×Int)):Zt (p::ps)=p.2.toNat+Zt ps:=by simp[Zt]
theorem Vc(a b:List (Int×Int)):Zt (a++b)=Zt a+Zt b:=by simp[Zt]
theorem N9(hm:X6 c=true):Zt (Z3 c q at' n)=n:=by
 obtain⟨a,b,d⟩:=Dr hm;unfold Z3;split
 ·unfold Zt;rw[List.map_map];have:=Xmo (page:=c.size.toNat) (by omega) n at';exact this
 ·simp[Zt]
theorem R6{ps:List (Int×Int)}(h:k<ps.length):Zt (ps.take k)+ps[k].2.toNat<=Zt ps:=by
 have e:ps=ps.take k++ps[k]::ps.drop (k+1):=by rw[<-ZS h,XZ]
 have e2:Zt ps=Zt (ps.take k)+(ps[k].2.toNat+Zt (ps.drop (k+1))):=by
  conv=>lhs;rw[e]
  rw[Vc,XgT]
 omega
theorem Xfm{bs:List Int}{N:Nat}(hN:bs.length=N):∀{ps:List (Int×Int)},(∀p∈ps,∃i m:Nat,p=((i:Int),(m:Int))/\i+m<=N)->(Ds bs ps).length=Zt ps
 |[],_=>rfl
 |p::r,h=>by
  obtain⟨i,m,rfl,b⟩:=h p ZI;rw[XgT];unfold Ds;rw[ZQ,XO];have:=Xfm hN (ps:=r) (λp a=>h p (ZF _ a));unfold Ds at this;rw[this];simp only[XA];rw[Gc (by omega)]
theorem Xg3{ps:List (Int×Int)}(h:k<ps.length):H2 q A V ps (k+1)=(By q A (H2 q A V ps k)).charge A ps[k].2:=by
 show(By q A (H2 q A V ps k)).charge A (ps.getD k (0,0)).2=_
 rw[XC,XB h];rfl
theorem Xm8(v:Vw)(q:Plc)(at' n:Nat)(A:Ar)(V:ArV)(w:World)(hv:Bj w v)(hq:Zl w q)(hmb:v.mb=A.mb)(hab:v.ab=A.ab)(hck:Qu v.c q at' n=0)(hfew:q.pages.length<=4096)(hPv:¬Y3 A v.vb)(hPq:0<q.pages.length->Xj (Y3 A) q.pa)(hPc:0<v.c.classes.length->Xj (Y3 A) v.p.ca)(hPk:0<v.c.keep.length->Xj (Y3 A) v.p.ka)(hA:X2 w A V)(hlen:(V.bs.length:Int)=v.c.size*v.c.pages):Xf prog 80 #[D6 v,.agg (Xv q).toArray,.int .i64 at',.int .i64 n] w (λu w'=>∃u1,u=.tuple #[u1,.int .i64 0]/\X2 w' A (H2 q A V (Z3 v.c q at' n) (Z3 v.c q at' n).length)/\Xc (Y3 A) w w'/\
  Xl w.heap.size 5 1 w' u1 (Ds V.bs (Z3 v.c q at' n)).length ((Ds V.bs (Z3 v.c q at' n)).map (Value.int .u8))):=by
 obtain⟨ps,l⟩:∃ps,ps=Z3 v.c q at' n:=⟨_,rfl⟩;have E:∀p∈ps,∃i m:Nat,p=((i:Int),(m:Int))/\i+m<=V.bs.length:=λp r=>by
  obtain⟨i,m,o,d⟩:=Ra hv.may hck hfew p (l▸r);exact⟨i,m,o,by omega⟩
 have af:Zt ps=n:=by rw[l];exact N9 hv.may
 have ak:=G7 (c:=v.c) (q:=q) hv.may hfew;have hn:n<=16777216:=by
  unfold Qu at hck;split at hck
  ·cases hck
  ·split at hck
   ·cases hck
   ·omega
 rw[<-l];refine Xf.enter func80 rfl ntmps80 rfl rfl ?_;refine ζa rfl ?_;refine Xa.alloc Xb rfl ?_;intro vb w1 e1 W a0 al;refine ζa rfl ?_;refine Xa.alloc Xb rfl ?_;intro qb w2 e2 F N am;refine ζa rfl ?_;refine Xa.alloc Xb rfl ?_;intro ob s e3 a6 G an;refine ζa rfl ?_;replace F:Ik w2 qb q:=F;have H:=(a0.trans N).trans G;have I:Fw s vb v:=(N.trans G).heap' W;refine Xa.loadb Xb rfl I rfl rfl ?_;refine Xa.loads Xb rfl (G.heap' F) rfl rfl ?_;have f:=hA.mlt;have ao:=Xg hv.obj;have hE:=Xcj v q at' n 145 [.pointer (some ⟨vb,0,none⟩),.pointer (some ⟨ob,0,none⟩)] A (H2 q A V ps)
  (λk Y x=>∃u,x.heap[ob]?=some (.cells ([u]:List Value).toArray 30 (0,0))/\Xl s.heap.size 5 1 x u (Ds V.bs (ps.take k)).length ((Ds V.bs (ps.take k)).map (Value.int .u8))/\
   (∀z,Y z↔z=ob\/some z=u.ownBlock\/Y3 A z)/\Fw x vb v/\x.heap[v.vb]?=some (.cells (Mq v).toArray 188 (0,0))/\s.heap.size<=x.heap.size)
  (λz=>z=ob\/Y3 A z) s (hv.grow H) (hq.grow H) hmb hck hfew
  (by rintro((h|h)|h);omega;exact hPv h;exact hPv h)
  (hq.rd.outNew hPq (λz a=>by rcases a with(h|h)|h;exact .inr (by omega);exact .inl h;exact .inl h))
  (hv.conf.classes.outNew hPc (λz a=>by rcases a with(h|h)|h;exact .inr (by omega);exact .inl h;exact .inl h))
  (hv.conf.keep.outNew hPk (λz a=>by rcases a with(h|h)|h;exact .inr (by omega);exact .inl h;exact .inl h))
  (by
   rintro k Y x ⟨u,o,d,j,t,B,C⟩ z a;rcases(j z).1 a with rfl|h|h
   ·exact Xg o
   ·exact(World.ownsRow.lt d z h.symm).2
   ·have:=f z h;omega)
  (by
   rintro k Y x y S ⟨u,o,d,j,t,B,C⟩ J hS;have no:∀z,z<s.heap.size -> ¬Y3 A z -> ¬S z:=λz a hm h=>(hS z h).elim hm (λh=>by omega);exact⟨u,J.heap o (no _ (by omega) (λh=>by have:=f _ h;omega)),d.chg J (λb D h=>by
    have ap:=World.ownsRow.lt d b D.symm;rcases hS b h with hm|hm
    ·have:=f b hm;omega
    ·exact hm.1 ((j b).2 (.inr (.inl D)))),j,J.heap t (no _ (by omega) (λh=>by have:=f _ h;omega)),J.heap B (no _ (by omega) hPv),ZV C J.size⟩)
  (by
   rintro k Y x K a9 ⟨u,o,d,j,t,B,C⟩;rw[<-l] at K;obtain⟨i,m,r,O⟩:=E ps[k] (XK K);have P:(By q A (H2 q A V ps k)).bs=V.bs:=by rw[Sz,Xcl]
   have aq:(Ds V.bs (ps.take k)).length=Zt (ps.take k):=Xfm rfl (λp r=>E p (XT r));have Q:=R6 K;rw[r] at Q;simp only[XA] at Q;have R:∀b,b=A.ab\/b=A.db\/b=A.mc\/A.mb=some b->b<w.heap.size:=hA.blt;have hR:=Xm9 v vb ob A (By q A (H2 q A V ps k)) i m s.heap.size (Ds V.bs (ps.take k)).length u (Ds V.bs (ps.take k)) x t B hab o d C (by omega) a9 (by rw[P];exact O) (by omega)
    (λz a=>by have:=f z a;omega) (λb D e=>by have:=R b D;have:=(World.ownsRow.lt d b e.symm).1;omega) (λb D e=>by have:=R b D;omega)
   simp only[<-l];rw[r];refine hR.mono λ_ y ⟨T,L,u',U,a4,a5⟩=>?_;rw[P] at a4;have M:Ds V.bs (ps.take (k+1))=Ds V.bs (ps.take k)++sub V.bs i m:=by
    rw[ZC,XB K,r];unfold Ds;rw[List.flatMap_append]
    simp
   refine⟨by rw[Xg3 K,r];exact T,L.mono λz _ a=>(j z).2 a,λz=>z=ob\/some z=u'.ownBlock\/Y3 A z,⟨u',U,?_,λz=>Iff.rfl,?_,?_,ZV C L.size⟩,λz a=>?_⟩
   ·rw[M,XO,Gc O];exact a4
   ·exact L.heap t (λh=>by rcases h with h|h|h;omega;have:=(World.ownsRow.lt d _ h.symm).1;omega;have:=f _ h;omega)
   ·exact L.heap B (λh=>by rcases h with h|h|h;omega;have:=(World.ownsRow.lt d _ h.symm).1;omega;exact hPv h)
   ·rcases a with h|h|h
    ·exact .inl ((j z).2 (.inl h))
    ·rcases a5 z h with h|h
     ·exact .inl ((j z).2 (.inr (.inl h)))
     ·exact .inr h
    ·exact .inl ((j z).2 (.inr (.inr h))))
  (hA.grow H) ⟨.slice none 0 0,a6,World.ownsRow_nil _ _ _ _,λz=>⟨λh=>h.elim .inl (λh=>.inr (.inr h)),λh=>by rcases h with h|h|h;exact .inl h;cases h;exact .inr h⟩,I,H.heap' hv.obj,XE _⟩
 rw[<-l] at hE;refine ζc ϱ (hE) ?_;rintro _ w4 ⟨rfl,ac,⟨Y',⟨u,o,d,j,t,B,C⟩,ar⟩,ad⟩;refine ζa ϱ ?_;rw[ZL] at d;have ae:Xc (Y3 A) w w4:=H.gr.since ad (λz a h=>by rcases h with(h|h)|h;omega;exact h;exact h);have ho:Xl w.heap.size 5 1 w4 u (Ds V.bs ps).length ((Ds V.bs ps).map (Value.int .u8)):=by
  refine⟨d.1,?_⟩;rcases d.2 with h|⟨g,cap,cur,T,L,U⟩
  ·exact .inl h
  ·exact .inr ⟨g,cap,cur,T,by omega,U⟩
 exact ζl o ϱ (ζr func80 ϱ ⟨u,rfl,ac,ae,ho⟩)
def Bu(q:Plc)(A:Ar)(V:ArV)(ps:List (Int×Int))(l:List Int):Nat->ArV
 |0=>V
 |k+1=>{(By q A (Bu q A V ps l k)).charge A (ps.getD k (0,0)).2 with bs:=Q1 (Bu q A V ps l k).bs (ps.getD k (0,0)).1.toNat (sub l (Zt (ps.take k)) (ps.getD k (0,0)).2.toNat)}
theorem R8{ps:List (Int×Int)}{m:Nat}(h:k<ps.length)(hp:ps[k]=((i:Int),(m:Int))):Bu q A V ps l (k+1)={(By q A (Bu q A V ps l k)).charge A m with bs:=Q1 (Bu q A V ps l k).bs i (sub l (Zt (ps.take k)) m)}:=by
 have a:ps.getD k (0,0)=((i:Int),(m:Int)):=by rw[XC,XB h,hp];rfl
 show({(By q A (Bu q A V ps l k)).charge A (ps.getD k (0,0)).2 with bs:=Q1 (Bu q A V ps l k).bs (ps.getD k (0,0)).1.toNat (sub l (Zt (ps.take k)) (ps.getD k (0,0)).2.toNat)}:ArV)=_
 rw[a];rfl
theorem Xcn{q:Plc}{A:Ar}{V:ArV}{ps:List (Int×Int)}{l:List Int}(hpin:∀p∈ps,∃i m:Nat,p=((i:Int),(m:Int))/\i+m<=V.bs.length)(htot:Zt ps=l.length):∀{k:Nat},k<=ps.length->(Bu q A V ps l k).bs.length=V.bs.length
 |0,_=>rfl
 |k+1,h=>by
  obtain⟨i,m,b,c⟩:=hpin ps[k] (XK h);have ih:=Xcn (q:=q) (A:=A) hpin htot (k:=k) (by omega);have a:=R6 h;rw[b] at a;simp only[XA] at a;rw[R8 h b];show(Q1 _ _ _).length=_
  rw[Iw (by rw[Gc (by omega),ih];exact c),ih]
theorem Xl6{l:Nat}(h:Xj S a):Xj S (Q6 a cap l sz):=by
 intro b off s e;unfold Q6 at e;by_cases c:cap=l
 ·rw[if_pos c] at e;exact h b off s e
 ·rw[if_neg c] at e;cases a with
  |none=>cases e
  |some x=>
   obtain⟨xb,xo,xs⟩:=x;simp only[QO,Option.some.injEq] at e;unfold Addr.add at e;have d:xb=b:=by
    split at e <;> (cases e;rfl)
   rw[<-d];exact(h xb xo xs rfl)
theorem Xnb(v:Vw)(vb bb:Nat)(A:Ar)(V:ArV)(i m:Nat)(a:Option Addr)(cap:Nat)(l:List Int)(w:World)(hvb:Fw w vb v)(hv:w.heap[v.vb]?=some (.cells (Mq v).toArray 188 (0,0)))(hab:v.ab=A.ab)(hbb:w.heap[bb]?=some (.cells ([.slice a l.length cap]:List Value).toArray 30 (0,0)))(hr:Rd .u8 w a l)(hlc:l.length<=cap)(hin:Qn l)(hm:m<=l.length)(hA:X2 w A V)(him:i+m<=V.bs.length)(hfo:∀z,Zr A z->z≠bb)(hAb:∀b,b=A.ab\/b=A.db\/b=A.mc\/A.mb=some b->b≠bb)(S:Nat->Prop)(hS:∀z,z=bb\/Zr A z->S z)(hout:0<l.length->Xj S a):Xf prog 141 #[.int .i64 i,.int .i64 m,.pointer (some ⟨vb,0,none⟩),.pointer (some ⟨bb,0,none⟩)] w (λ_ w'=>X2 w' A {V.charge A m with bs:=Q1 V.bs i (l.take m)}/\Xc (λz=>z=bb\/Zr A z) w w'/\
  ∃a' cap',w'.heap[bb]?=some (.cells ([.slice a' (l.drop m).length cap']:List Value).toArray 30 (0,0))/\Rd .u8 w' a' (l.drop m)/\(l.drop m).length<=cap'/\(0<(l.drop m).length->Xj S a')):=by
 have j:(l.take m).length=m:=by simp;omega
 refine ζe func141 ntmps141 ϱ (ζd 8 Xe (by kernel_rfl) ϱ λd=>δl d hvb ϱ (δl d hv ϱ (δl d hbb ϱ (Xd.slice Xb d rfl (l:=0) (h:=m) (by first|rfl|omega|simp[B7]) (by first|rfl|omega|simp[B5]) (by omega) (by omega) rfl (δn d ϱ λC c=>?_)))));rw[hab];have r:=hr.chg c;have k:=r.shift (l:=0) (m:=m) (by omega) hlc;rw[List.drop_zero] at k;have s:=XhB A V i (Q6 a cap 0 1) (cap-0) (l.take m) C (hA.grow c) k (λx D=>hin x (XT D)) (by rw[j];exact him);rw[j] at s;refine ζc ϱ s ?_;rintro _ G ⟨rfl,t,n⟩;refine ζa ϱ ?_;have f:=n.heap (c.heap' hbb) (λe=>hfo _ e rfl);refine ζl f ϱ (Xa.slice Xb rfl (l:=m) (h:=l.length) (by first|rfl|omega|simp[B7]) (by first|rfl|omega|simp[B5]) (by omega) (by omega) rfl (ζs f ϱ λu q o F=>?_));have g:(l.drop m).length=l.length-m:=by simp
 have y:Xc (λz=>z=bb\/Zr A z) w u:=(c.gr.trans (n.mono λ_ _ h=>.inr h)).trans (o.mono λ_ _ h=>.inl h);have B:Rd .u8 u a l:=hr.far' hout (y.mono λz _ h=>hS z h);have p:=B.shift (l:=m) (m:=l.length-m) (by omega) hlc;rw[ZE (by rw[g];exact XE _)] at p;exact ζr func141 ϱ ⟨t.chg o (λb E e=>hAb b E e),y,_,_,by rw[g];exact q,p,by rw[g];omega,λh=>Xl6 (hout (by omega))⟩
theorem foot_lt(h:X2 w A V):∀z,Zr A z->z<w.heap.size:=λz a=>h.blt z (a.elim (λe=>.inr (.inl e)) (λe=>.inr (.inr (.inr e))))
theorem Xna(v:Vw)(q:Plc)(at':Nat)(a:Option Addr)(cap:Nat)(l:List Int)(A:Ar)(V:ArV)(w:World)(hv:Bj w v)(hq:Zl w q)(hmb:v.mb=A.mb)(hab:v.ab=A.ab)(hck:Qu v.c q at' l.length=0)(hfew:q.pages.length<=4096)(hPv:¬Zr A v.vb)(hPq:0<q.pages.length->Xj (Zr A) q.pa)(hPc:0<v.c.classes.length->Xj (Zr A) v.p.ca)(hPk:0<v.c.keep.length->Xj (Zr A) v.p.ka)(hA:X2 w A V)(hlen:(V.bs.length:Int)=v.c.size*v.c.pages)(hr:Rd .u8 w a l)(hlc:l.length<=cap)(hin:Qn l)(hout:0<l.length->Xj (Zr A) a):Xf prog 76 #[D6 v,.agg (Xv q).toArray,.int .i64 at',.slice a l.length cap] w (λu w'=>u=.int .i64 0/\X2 w' A (Bu q A V (Z3 v.c q at' l.length) l (Z3 v.c q at' l.length).length)/\Xc (Zr A) w w'):=by
 obtain⟨ps,g⟩:∃ps,ps=Z3 v.c q at' l.length:=⟨_,rfl⟩;have C:∀p∈ps,∃i m:Nat,p=((i:Int),(m:Int))/\i+m<=V.bs.length:=λp t=>by
  obtain⟨i,m,n,D⟩:=Ra hv.may hck hfew p (g▸t);exact⟨i,m,n,by omega⟩
 have T:Zt ps=l.length:=by rw[g];exact N9 hv.may
 rw[<-g];refine Xf.enter func76 rfl ntmps76 rfl rfl ?_;refine ζa rfl ?_;refine Xa.alloc Xb rfl ?_;intro vb w1 e1 a4 a5 au;refine ζa rfl ?_;refine Xa.alloc Xb rfl ?_;intro qb w2 e2 E P av;refine ζa rfl ?_;refine Xa.alloc Xb rfl ?_;intro bb j e3 r F aw;refine ζa rfl ?_;replace E:Ik w2 qb q:=E;replace r:j.heap[bb]?=some (.cells ([.slice a l.length cap]:List Value).toArray 30 (0,0)):=r;have o:=(a5.trans P).trans F;have G:Fw j vb v:=(P.trans F).heap' a4;refine Xa.loadb Xb rfl G rfl rfl ?_;refine Xa.loads Xb rfl (F.heap' E) rfl rfl ?_;refine Xa.loadb Xb rfl r rfl rfl ?_;have f:=foot_lt hA;have d:∀z,Y3 A z->Zr A z:=λz h=>.inr h;have ax:=Xg hv.obj;have a6:=hA.blt;have hE:=Xcj v q at' l.length 141 [.pointer (some ⟨vb,0,none⟩),.pointer (some ⟨bb,0,none⟩)] A (Bu q A V ps l)
  (λk Y x=>∃a' cap',x.heap[bb]?=some (.cells ([.slice a' (l.drop (Zt (ps.take k))).length cap']:List Value).toArray 30 (0,0))/\Rd .u8 x a' (l.drop (Zt (ps.take k)))/\(l.drop (Zt (ps.take k))).length<=cap'/\
   (0<(l.drop (Zt (ps.take k))).length->Xj (λz=>z=bb\/Zr A z\/j.heap.size<=z) a')/\(∀z,Y z↔z=bb\/Zr A z)/\Fw x vb v/\x.heap[v.vb]?=some (.cells (Mq v).toArray 188 (0,0))/\j.heap.size<=x.heap.size)
  (λz=>z=bb\/Zr A z) j (hv.grow o) (hq.grow o) hmb hck hfew
  (by rintro((h|h)|h);omega;exact hPv h;exact hPv (d _ h))
  (hq.rd.outNew hPq (λz c=>by rcases c with(h|h)|h;exact .inr (by omega);exact .inl h;exact .inl (d _ h)))
  (hv.conf.classes.outNew hPc (λz c=>by rcases c with(h|h)|h;exact .inr (by omega);exact .inl h;exact .inl (d _ h)))
  (hv.conf.keep.outNew hPk (λz c=>by rcases c with(h|h)|h;exact .inr (by omega);exact .inl h;exact .inl (d _ h)))
  (by
   rintro k Y x ⟨a',cap',n,D,M,H,B,I,J,N⟩ z c;rcases(B z).1 c with rfl|h
   ·exact Xg n
   ·have:=f z h;omega)
  (by
   rintro k Y x y S ⟨a',cap',n,D,M,H,B,I,J,N⟩ K hS;have no:∀z,z<j.heap.size -> ¬Y3 A z -> ¬S z:=λz c hm h=>(hS z h).elim hm (λh=>by omega);refine⟨a',cap',K.heap n (no _ (by omega) (λh=>by have:=f _ (d _ h);omega)),D.far' (λhl b off s e U=>H hl b off s e ((hS b U).elim (λh=>.inr (.inl (d _ h))) (λh=>.inr (.inr h.2)))) K,M,H,B,K.heap I (no _ (by omega) (λh=>by have:=f _ (d _ h);omega)),K.heap J (no _ (by omega) (λh=>hPv (d _ h))),ZV N K.size⟩)
  (by
   rintro k Y x L a9 ⟨a',cap',n,D,M,H,B,I,J,N⟩;rw[<-g] at L;obtain⟨i,m,t,aa⟩:=C ps[k] (XK L);have Q:(By q A (Bu q A V ps l k)).bs=(Bu q A V ps l k).bs:=Sz _ _ _;have W:(Bu q A V ps l k).bs.length=V.bs.length:=Xcn C T (by omega);have R:=R6 L;rw[t] at R;simp only[XA] at R;have ay:(l.drop (Zt (ps.take k))).length=l.length-Zt (ps.take k):=by simp
   have hR:=Xnb v vb bb A (By q A (Bu q A V ps l k)) i m a' cap' (l.drop (Zt (ps.take k))) x I J hab n D M (λy hy=>hin y (ZD hy)) (by omega) a9 (by rw[Q,W];exact aa)
    (λz c=>by have:=f z c;omega) (λb U=>by have:=a6 b U;omega) (λz=>z=bb\/Zr A z\/j.heap.size<=z) (λz h=>h.imp id .inl) H
   simp only[<-g];rw[t];refine hR.mono λ_ y ⟨a1,O,a3,c3,b1,b2,b3,b4⟩=>?_;rw[Q] at a1;have a0:Zt (ps.take (k+1))=Zt (ps.take k)+m:=by
    rw[ZC,XB L,t,Vc];simp[Zt]
   have ag:(l.drop (Zt (ps.take k))).drop m=l.drop (Zt (ps.take (k+1))):=by rw[List.drop_drop,a0]
   rw[ag] at b1 b2 b3 b4;refine⟨by rw[R8 L t];exact a1,O.mono λz _ c=>(B z).2 c,λz=>z=bb\/Zr A z,⟨a3,c3,b1,b2,b3,b4,λz=>Iff.rfl,?_,?_,ZV N O.size⟩,λz c=>.inl ((B z).2 c)⟩
   ·exact O.heap I (λh=>by rcases h with h|h;omega;have:=f _ h;omega)
   ·exact O.heap J (λh=>by rcases h with h|h;omega;exact hPv h))
  (hA.grow o) ⟨a,cap,by simpa [Zt] using r,by simpa [Zt] using hr.chg o,by simpa [Zt] using hlc,λh=>by
   have:=hr.outNew hout (S':=λz=>z=bb\/Zr A z\/j.heap.size<=z) (λz c=>by rcases c with h|h|h;exact .inr (by omega);exact .inl h;exact .inr (by have:=o.size;omega));exact this (by simpa [Zt] using h),λz=>Iff.rfl,G,o.heap' hv.obj,XE _⟩
 rw[<-g] at hE;refine ζc ϱ (hE) ?_;rintro _ w4 ⟨rfl,ah,_,ai⟩;refine ζa ϱ ?_;have aj:Xc (Zr A) w w4:=o.gr.since ai (λz c h=>by rcases h with(h|h)|h;omega;exact h;exact d _ h);exact ζr func76 ϱ ⟨rfl,ah,aj⟩
structure RA where
 a:Option Addr
 cap:Nat
 bs:List Int
 steps:Int
def Gw(r:RA):List Value:=[.slice r.a r.bs.length r.cap,.int .i64 r.steps]
structure Z0(w:World)(r:RA):Prop where
 rd:Rd .u8 w r.a r.bs
 len:r.bs.length<=4194304
 lc:r.bs.length<=r.cap
 rng:Qn r.bs
theorem Z0.grow{r:RA}(h:Z0 w r)(hc:Xc Xe w w'):Z0 w' r:=⟨h.rd.chg hc,h.len,h.lc,h.rng⟩
theorem RdU.of{c:Array Value}{t:TypeId}(h:w.heap[b]?=some (.cells c t fz))(hc:c=(zs.map (Value.int .u8)).toArray):Rd .u8 w (some ⟨b,0,none⟩) zs:=λi hi=>
 ⟨b,0,rfl,by rw[Yt h,hc];simp[hi]⟩
theorem XkG(p s:Int)(w:World)(ht:Nb p s=true):Xf prog 84 #[.int .i64 p,.int .i64 s] w
 (λv w'=>∃b,v=.tuple #[.agg (Gw ⟨some ⟨b,0,none⟩,(p*s).toNat,Xz (p*s).toNat,0⟩).toArray,.int .i64 0]/\w.heap.size<=b/\Z0 w' ⟨some ⟨b,0,none⟩,(p*s).toNat,Xz (p*s).toNat,0⟩/\Xc Xe w w'):=by
 have g:=Sk.1 ht;have A:0<=p*s:=ZJ (by omega) (by omega);have B:p*s<=1024*4096:=ZH (by omega) (by omega) (by omega) (by omega);have a:(Xz (p*s).toNat).length=(p*s).toNat:=XH;refine ζe func84 ntmps84 ϱ (ζn ϱ λrb C e1 e f t=>ζf ϱ (ζf ϱ (ζf ϱ (ζf ϱ (Xa.div Xb rfl (by omega) (E9 (by omega)) rfl (ζF ϱ (by simp;omega) (ζj ϱ (Xa.make Xb (m:=(p*s).toNat) (k:=(p*s).toNat) rfl (by omega) (by omega) (XE _) (by simp only;omega) (by omega) λb D e2 h c u=>ζa ϱ (ζb ϱ (ζs (c.heap' e) ϱ λi j d y=>?_))))))))));have l:Xc Xe w i:=(f.trans c).since d (λx n z=>by omega);have o:(Y5 (Y8 (Value.int .u8 0)) (p*s).toNat)=(Xz (p*s).toNat).map (Value.int .u8):=Vj _;rw[o] at h;have q:=d.heap h (by omega);have r:Z0 i ⟨some ⟨b,0,none⟩,(p*s).toNat,Xz (p*s).toNat,0⟩:=⟨RdU.of q rfl,by simp only[a];omega,by simp only[a];omega,λx n=>by rw[ZG n];omega⟩;exact ζR func84 j ϱ ⟨b,by unfold Gw;simp only[a];rfl,by omega,r,l⟩
def Pj(c:Conf):Bool:=X6 c && decide (c.size<=256) && decide (c.pages<=24) && decide (c.slots<=20)
theorem XkD(c:Conf)(p:Yu)(w:World)(hc:Ys w c p):Xf prog 8 #[.agg (Zj c p).toArray] w (Grow (.bool (Pj c)) w):=by
 refine ζe func8 ntmps8 ϱ (ζn ϱ λcb j e1 d e k=>?_);refine ζl d ϱ (ζv (Xbi c p j (hc.chg e)) ϱ λl f=>?_);have b:=e.trans f;have a:=f.heap' d;unfold Pj;cases i:X6 c with
 |false=>
  rw[show Bo c=1 from by unfold Bo;rw[i];rfl];exact ζf ϱ (ζr func8 ϱ ⟨rfl,b⟩)
 |true=>
  rw[show Bo c=0 from by unfold Bo;rw[i];rfl];refine ζy ϱ (ζl a ϱ (ζg ϱ (λg=>?_) λg=>?_))
  ·refine ζl a ϱ ?_;rw[g];refine ζg ϱ (λh=>?_) λh=>?_
   ·refine ζl a ϱ ?_;rw[h];exact ζr func8 ϱ ⟨rfl,b⟩
   ·rw[h];exact ζr func8 ϱ ⟨rfl,b⟩
  ·rw[g];exact ζr func8 ϱ ⟨rfl,b⟩
theorem XiF(h:Pj c=true):X6 c=true/\c.size<=256/\c.pages<=24:=by
 unfold Pj at h;simp only[XJ,decide_eq_true_eq] at h;exact⟨h.1.1.1,h.1.1.2,h.1.2⟩
theorem Xbs(c:Conf)(p:Yu)(q:Plc)(w:World)(hc:Ys w c p)(hq:Zl w q):Xf prog 204 #[.agg (Zj c p).toArray,.agg (Xv q).toArray] w (Grow (.bool (Yi c q)) w):=by
 have z:=hq.len;refine ζe func204 ntmps204 ϱ (ζn ϱ λcb W e1 K L S=>ζn ϱ λqb M e2 f A T=>?_);have i:=L.trans A;have l:=A.heap' K;have u:=hq.grow i;obtain⟨cls,page,idx,pa,pc,pages⟩:=q;replace f:M.heap[qb]?=some (.cells ([.int .i64 cls,.int .i64 page,.int .i64 idx,.slice pa pages.length pc]:List Value).toArray 98 (0,0)):=f;replace u:=u.rd;replace z:pages.length<=9223372036854775807:=z;refine Xa.loadb Xb rfl f rfl rfl ?_;refine Xa.fork Xb rfl rfl rfl (λr=>?_) (λr=>?_)
 ·have g:cls=-1:=by simpa using r
  have v:Yi c ⟨cls,page,idx,pa,pc,pages⟩=(decide (0<pages.length) && !pages.any (λn=>!Bm n c.pages)):=by unfold Yi;simp only;rw[if_pos g]
  rw[v];refine Xa.loop (α:=Nat) (λk=>[(2,false,.pointer (some ⟨cb,0,none⟩)),(3,false,.pointer (some ⟨qb,0,none⟩)),(5,false,.int .i64 k)])
   (λk w'=>k<=pages.length/\Xc Xe M w'/\∀j (h:j<pages.length),j<k->Bm pages[j] c.pages=true) (λk=>pages.length-k) 0 ⟨rfl,rfl,rfl,trivial⟩ ⟨XL _,Xc.refl _ _,λ_ _ h=>by omega⟩ ?_
  rintro k t ⟨hk,a,x⟩ ih;refine ζa rfl ?_;refine Xa.loadb Xb rfl (a.heap' f) rfl rfl ?_;refine Xa.fork Xb rfl rfl rfl (λB=>?_) (λB=>?_)
  ·have o:k<pages.length:=by have:=of_decide_eq_true B;omega
   obtain⟨b,off,rfl,m⟩:=(u.chg a) k o;have N:pages.getD k 0=pages[k]:=by rw[XC,XB o];rfl
   rw[N] at m;refine ζd 16 Xe (by kernel_rfl) ϱ λd=>δl d (a.heap' f) ϱ (δi k d ϱ (δk d m ϱ ?_));refine Xd.fork Xb d rfl rfl rfl (λy=>?_) (λy=>?_)
   ·have P:=of_decide_eq_true y;refine δn d ϱ λQ s=>?_;exact Xa.ret1 Xb rfl func204 rfl rfl ⟨Ai (by
     have:pages.any (λn=>!Bm n c.pages)=true:=List.any_eq_true.2 ⟨pages[k],XK o,by cases C:Bm pages[k] c.pages;rfl;have:=Ly.1 C;omega⟩;rw[this];simp),i.trans (a.trans s)⟩
   ·have P:=of_decide_eq_false y;refine δl d (a.heap' f) ϱ (δi k d ϱ (δk d m ϱ (δl d (a.heap' l) ϱ (δn d ϱ λQ s=>ζg ϱ (λD=>?_) λD=>?_))))
    ·have R:=of_decide_eq_true D;exact Xa.ret1 Xb rfl func204 rfl rfl ⟨Ai (by
      have:pages.any (λn=>!Bm n c.pages)=true:=List.any_eq_true.2 ⟨pages[k],XK o,by cases C:Bm pages[k] c.pages;rfl;have:=Ly.1 C;omega⟩;rw[this];simp),i.trans (a.trans s)⟩
    ·have R:=of_decide_eq_false D;refine ζj ϱ ?_;exact ih (k+1) _ _ ⟨o,a.trans s,λj E U=>by
      by_cases e:j=k
      ·subst e;exact Ly.2 ⟨by omega,by omega⟩
      ·exact x j E (by omega)⟩ (by omega) ⟨rfl,rfl,rfl,trivial⟩
  ·have V:k=pages.length:=by have:=of_decide_eq_false B;omega
   refine ζl (a.heap' f) ϱ ?_;exact Xa.ret1 Xb rfl func204 rfl rfl ⟨Ai (by
    have:pages.any (λn=>!Bm n c.pages)=false:=List.any_eq_false.2 (λn y=>by obtain⟨j,E,rfl⟩:=QK y;rw[x j E (by omega)];decide);rw[this,Bool.not_false,Bool.and_true];by_cases h:0<pages.length
    ·rw[decide_eq_true h,decide_eq_true (by omega)]
    ·rw[decide_eq_false h,decide_eq_false (by omega)]),i.trans a⟩
 ·have g:¬cls=-1:=by simpa using r
  have v:Yi c ⟨cls,page,idx,pa,pc,pages⟩=(Bm cls c.classes.length && Bm page c.pages && Bm idx (Qi c cls)):=by unfold Yi;simp only;rw[if_neg g]
  rw[v];unfold Bm;refine ζd 38 Xe (by kernel_rfl) ϱ λd=>δl d f ϱ ?_;refine Xd.fork Xb d rfl rfl rfl (λF=>?_) (λF=>?_)
  ·rw[F];refine δl d f ϱ (δl d l ϱ ?_);refine Xd.fork Xb d rfl rfl rfl (λG=>?_) (λG=>?_)
   ·rw[G];refine δl d f ϱ ?_;refine Xd.fork Xb d rfl rfl rfl (λH=>?_) (λH=>?_)
    ·rw[H];refine δl d f ϱ (δl d l ϱ ?_);refine Xd.fork Xb d rfl rfl rfl (λI=>?_) (λI=>?_)
     ·rw[I];refine δl d f ϱ ?_;refine Xd.fork Xb d rfl rfl rfl (λJ=>?_) (λJ=>?_)
      ·rw[J];exact δl d f ϱ (δl d l ϱ (δl d f ϱ (δv d (λw' O=>Xbh c p cls w' ((hc.chg i).chg O)) ϱ (δn d ϱ λt a=>ζr func204 ϱ ⟨rfl,i.trans a⟩))))
      ·rw[J];exact δn d ϱ λt a=>ζr func204 ϱ ⟨rfl,i.trans a⟩
     ·rw[I];exact δn d ϱ λt a=>ζr func204 ϱ ⟨rfl,i.trans a⟩
    ·rw[H];exact δn d ϱ λt a=>ζr func204 ϱ ⟨rfl,i.trans a⟩
   ·rw[G];exact δn d ϱ λt a=>ζr func204 ϱ ⟨rfl,i.trans a⟩
  ·rw[F];exact δn d ϱ λt a=>ζr func204 ϱ ⟨rfl,i.trans a⟩
theorem Xdo{p:Yu}(h:Ys w c p)(hk:k<c.classes.length):∃b off,p.ca=some ⟨b,off,none⟩/\w.cell? ⟨b,off+k,none⟩=some (.int .i64 (Yb c k)):=h.classes k hk
theorem Rr(c:Conf)(p:Yu)(q:Plc)(w:World)(hc:Ys w c p)(hq:Zl w q)(hm:X6 c=true)(hfew:q.pages.length<=1000000000):Xf prog 158 #[.agg (Zj c p).toArray,.agg (Xv q).toArray] w (Grow (.int .i64 (Zy c q)) w):=by
 obtain⟨C,D,E⟩:=Dr hm;refine ζe func158 ntmps158 ϱ (ζn ϱ λcb F e1 i o v=>ζn ϱ λqb u e2 l e x=>?_);have n:=o.trans e;refine ζl (e.heap' i) ϱ (ζl l ϱ (ζv (Xbs c p q u (hc.chg n) (hq.grow n)) ϱ λG f=>?_));have d:=n.trans f;have h:=(e.trans f).heap' i;have a:=f.heap' l;cases hi:Yi c q with
 |false=>
  exact ζy ϱ (ζr func158 ϱ ⟨X0 (by unfold Zy;rw[hi];rfl),d⟩)
 |true=>
  refine ζf ϱ (ζl a ϱ (ζg ϱ (λb=>?_) λb=>?_))
  ·have g:q.cls=-1:=by simpa using b
   have y:0<=(q.pages.length:Int)*c.size:=ZJ (by omega) (by omega);have z:(q.pages.length:Int)*c.size<=1000000000*4096:=ZH (by omega) (by omega) (by omega) (by omega);refine Xa.loadb Xb rfl a rfl rfl ?_;refine Xa.loadb Xb rfl h rfl rfl ?_;refine Xa.arith Xb rfl (w64 (by omega)) rfl ?_;exact ζr func158 ϱ ⟨X0 (by unfold Zy;rw[if_pos hi,if_pos g]),d⟩
  ·have g:¬q.cls=-1:=by simpa using b
   obtain⟨k,pg,ix,r,A,B,s,_,_,_,_,_,_,_⟩:=Hm hm hi g;obtain⟨cb',off,m,t⟩:=Xdo (hc.chg d) s;obtain⟨ca,cc,ka,kc⟩:=p;simp only at m
   subst m;obtain⟨cls,page,idx,pa,pc,pages⟩:=q;simp only at r
   subst r;exact ζl h ϱ (ζl a ϱ (Xa.index Xb rfl (j:=k) (show(0:Int)<=k by omega) (show(k:Int)<c.classes.length by omega) (by simp) rfl (ζk ϱ t ϱ (ζr func158 ϱ ⟨X0 (by unfold Zy;rw[if_pos hi];simp only;rw[if_neg g]),d⟩))))
theorem Xbr(c:Conf)(p:Yu)(q:Plc)(w:World)(hc:Ys w c p)(hq:Zl w q)(hm:X6 c=true):Xf prog 167 #[.agg (Zj c p).toArray,.agg (Xv q).toArray] w (Grow (.int .i64 (Ag c q)) w):=by
 obtain⟨E,F,G⟩:=Dr hm;have z:=Mk hm;refine ζe func167 ntmps167 ϱ (ζn ϱ λcb H e1 l t C=>ζn ϱ λqb A e2 m f D=>?_);have s:=t.trans f;refine ζl (f.heap' l) ϱ (ζl m ϱ (ζv (Xbs c p q A (hc.chg s) (hq.grow s)) ϱ λI h=>?_));have e:=s.trans h;have i:=(f.trans h).heap' l;have b:=h.heap' m;cases hi:Yi c q with
 |false=>
  exact ζy ϱ (ζr func167 ϱ ⟨X0 (by unfold Ag;rw[hi,if_neg (by simp)]),e⟩)
 |true=>
  refine ζf ϱ (ζl b ϱ (ζg ϱ (λd=>?_) λd=>?_))
  ·have g:q.cls=-1:=by simpa using d
   exact ζr func167 ϱ ⟨X0 (by unfold Ag;rw[if_neg (λB=>B.2 g)]),e⟩
  ·have g:¬q.cls=-1:=by simpa using d
   obtain⟨k,pg,ix,u,n,o,v,J,K,L,M,N,O,P⟩:=Hm hm hi g;obtain⟨cb',off,r,x⟩:=Xdo (hc.chg e) v;obtain⟨ca,cc,ka,kc⟩:=p;simp only at r
   subst r;obtain⟨cls,page,idx,pa,pc,pages⟩:=q;simp only at u n o
   subst u;subst n;subst o;exact ζd 16 Xe (by kernel_rfl) ϱ λa=>δl a b ϱ (δl a i ϱ (Xd.arith Xb a rfl (w64 (by show _/\_;simp only;omega)) rfl (δl a b ϱ (δl a i ϱ (δl a b ϱ (Xd.index Xb a rfl (j:=k) (show(0:Int)<=k by omega) (show(k:Int)<c.classes.length by omega) (by simp) rfl (δk a x ϱ (Xd.arith Xb a rfl (w64 (by show _/\_;simp only;omega)) rfl (Xd.arith Xb a rfl (w64 (by show _/\_;simp only;omega)) rfl (δn a ϱ λQ y=>ζr func167 ϱ ⟨X0 (by unfold Ag;rw[if_pos ⟨hi,g⟩]),e.trans y⟩))))))))))
theorem Xbu(c:Conf)(p:Yu)(q:Plc)(at' n:Int)(w:World)(hc:Ys w c p)(hq:Zl w q)(hm:X6 c=true)(hfew:q.pages.length<=4096):Xf prog 160 #[.agg (Zj c p).toArray,.agg (Xv q).toArray,.int .i64 at',.int .i64 n] w (Grow (.int .i64 (Qu c q at' n)) w):=by
 have x:=G7 (c:=c) (q:=q) hm hfew;refine ζe func160 ntmps160 ϱ (ζn ϱ λcb y e1 i m u=>ζn ϱ λqb r e2 j d v=>?_);have l:=m.trans d;refine ζl (d.heap' i) ϱ (ζl j ϱ (ζv (Xbs c p q r (hc.chg l) (hq.grow l)) ϱ λs e=>?_));have a:=l.trans e;have f:=(d.trans e).heap' i;have g:=e.heap' j;cases hi:Yi c q with
 |false=>
  exact ζy ϱ (ζr func160 ϱ ⟨X0 (by unfold Qu;rw[if_pos hi]),a⟩)
 |true=>
  have o:Qu c q at' n=if at'<0\/n<0\/Zy c q<n\/Zy c q-n<at' then 8 else 0:=by unfold Qu;rw[if_neg (by rw[hi];decide)]
  rw[o];refine ζf ϱ ?_;by_cases z:at'<0
  ·exact ζy ϱ (ζr func160 ϱ ⟨X0 (by rw[if_pos (by omega)]),a⟩)
  refine ζf ϱ ?_;by_cases A:n<0
  ·exact ζy ϱ (ζr func160 ϱ ⟨X0 (by rw[if_pos (by omega)]),a⟩)
  refine ζf ϱ (ζl f ϱ (ζl g ϱ (ζv (Rr c p q s (hc.chg a) (hq.grow a) hm (by omega)) ϱ λt h=>?_)));have b:=a.trans h;by_cases B:Zy c q<n
  ·exact ζy ϱ (ζr func160 ϱ ⟨X0 (by rw[if_pos (by omega)]),b⟩)
  refine ζf ϱ (ζl (h.heap' f) ϱ (ζl (h.heap' g) ϱ (ζv (Rr c p q t (hc.chg b) (hq.grow b) hm (by omega)) ϱ λC k=>ζj ϱ ?_)));by_cases D:Zy c q-n<at'
  ·exact ζy ϱ (ζr func160 ϱ ⟨X0 (by rw[if_pos (by omega)]),b.trans k⟩)
  ·exact ζf ϱ (ζr func160 ϱ ⟨X0 (by rw[if_neg (by omega)]),b.trans k⟩)
def Bv(c:Conf)(q:Plc)(i:Nat):Int:=if q.cls=-1 then q.pages.getD (i/c.size.toNat) 0*c.size+((i%c.size.toNat:Nat):Int) else Ag c q+i
theorem XfC(c:Conf)(p:Yu)(q:Plc)(i:Nat)(w:World)(hc:Ys w c p)(hq:Zl w q)(hm:X6 c=true)(hin:Yi c q=true)(hfew:q.pages.length<=4096)(hi:(i:Int)<Zy c q):Xf prog 162 #[.agg (Zj c p).toArray,.agg (Xv q).toArray,.int .i64 i] w (Grow (.int .i64 (Bv c q i)) w):=by
 obtain⟨S,T,U⟩:=Dr hm;have J:=Mk hm;refine ζe func162 ntmps162 ϱ (ζn ϱ λcb V e1 z A O=>ζn ϱ λqb K e2 f s P=>?_);have g:=A.trans s;have d:=s.heap' z;refine ζl f ϱ ?_;by_cases a:q.cls=-1
 ·obtain⟨L,h⟩:=Tf hin a;have l:Zy c q=(q.pages.length:Int)*c.size:=by unfold Zy;rw[if_pos hin,if_pos a]
  rw[l] at hi;obtain⟨sz,m⟩:=XD (show 0<=c.size by omega);have x:c.size.toNat=sz:=by omega
  have e:i/sz<q.pages.length:=by
   apply Nat.div_lt_of_lt_mul
   have:((sz*q.pages.length:Nat):Int)=(q.pages.length:Int)*c.size:=by rw[m,YG];rfl
   omega
  have y:=QM i (show 0<sz by omega);have Q:i<=16777216:=by
   have:(q.pages.length:Int)*c.size<=4096*4096:=ZH (by omega) (by omega) (by omega) (by omega);omega
  have t:(i:Int)/c.size=((i/sz:Nat):Int):=by rw[m];rfl
  have u:(i:Int)%c.size=((i%sz:Nat):Int):=by rw[m];rfl
  have n:Bv c q i=q.pages.getD (i/sz) 0*c.size+((i%sz:Nat):Int):=by unfold Bv;rw[if_pos a,x]
  obtain⟨D,B⟩:∃D,D=i/sz:=⟨_,rfl⟩;obtain⟨M,C⟩:∃M,M=i%sz:=⟨_,rfl⟩;rw[<-B] at e t n;rw[<-C] at y u n
  clear B C
  obtain⟨gb,goff,v,E⟩:=(hq.grow g).rd D e;have F:0<=q.pages.getD D 0/\q.pages.getD D 0<c.pages:=h _ (by rw[XC,XB e];exact XK e);have o:0<=q.pages.getD D 0*c.size/\q.pages.getD D 0*c.size<=1024*4096:=⟨ZJ F.1 (by omega),ZH (by omega) (by omega) (by omega) (by omega)⟩;rw[n];obtain⟨cls,page,idx,pa,pc,pages⟩:=q;simp only at v
  subst v;refine ζY ϱ (show(cls == -1)=true by rw[show cls=-1 from a];rfl) (ζd 17 Xe (by kernel_rfl) ϱ λb=>δl b f ϱ (δl b d ϱ (Xd.div Xb b rfl (by omega) (Fy (by omega) (by omega)) rfl ?_)));rw[t];refine Xd.index Xb b rfl (j:=D) (show(0:Int)<=(D:Int) by omega) (show(D:Int)<pages.length by have:D<pages.length:=e;omega) (by simp) rfl (δk b E ϱ (δl b d ϱ (Xd.arith Xb b rfl (w64 (by show _/\_;simp only at o⊢;omega)) rfl (δl b d ϱ (Xd.div Xb b rfl (by omega) (E9 (by omega)) rfl ?_)))));rw[u];exact Xd.arith Xb b rfl (w64 (by show _/\_;simp only at o⊢;omega)) rfl (δn b ϱ λN r=>ζr func162 ϱ ⟨rfl,g.trans r⟩)
 ·obtain⟨k,pg,ix,G,h,H,R,W,g2,g3,g4,g5,g6,g7⟩:=Hm hm hin a;have I:Ag c q=(pg:Int)*c.size+(ix:Int)*Yb c k:=by unfold Ag;rw[if_pos ⟨hin,a⟩,G,h,H]
  have l:Zy c q=Yb c k:=by unfold Zy;rw[if_pos hin,if_neg a,G]
  rw[l] at hi;exact ζF ϱ (show(q.cls == -1)=false by simpa using a) (ζl d ϱ (ζl f ϱ (ζv (Xbr c p q K (hc.chg g) (hq.grow g) hm) ϱ λN r=>ζJ ϱ (by rw[I];omega) (ζr func162 ϱ ⟨X0 (by unfold Bv;rw[if_neg a]),g.trans r⟩))))
theorem Xmn{page:Nat}(hp:1<=page):∀(n at':Nat),0<n->(Ya at' n page).length+at'/page=(at'+n-1)/page+1:=by
 intro n
 induction n using QE with
 |_ n ih=>
  intro at' b;have c:=QM at' (show 0<page by omega);have g:=YV at' page;rw[K6 hp b,XM];by_cases a:n<=page-at'%page
  ·rw[Nat.min_eq_left a,Nat.sub_self,Uw];have:(at'+n-1)/page=at'/page:=by
    apply Nat.div_eq_of_lt_le
    ·rw[YF];omega
    ·rw[YT,QI,YF];omega
   rw[this]
   simp
   omega
  ·rw[Nat.min_eq_right (by omega)];have d:=ih (n-(page-at'%page)) (by omega) (at'+(page-at'%page)) (by omega);have f:(at'+(page-at'%page))/page=at'/page+1:=by
    have e:at'+(page-at'%page)=(at'/page+1)*page:=by rw[YT,QI,YF (at'/page)];omega
    rw[e,Nat.mul_div_cancel _ (by omega)]
   rw[f,show at'+(page-at'%page)+(n-(page-at'%page))-1=at'+n-1 from by omega] at d;omega
theorem Xk2(at' n page:Nat)(w:World)(hb:at'+n<=16777216/\1<=page/\page<=16777216):Xf prog 208 #[.int .i64 at',.int .i64 n,.int .i64 page] w
 (λv w'=>∃a cap,v=.slice a (Ya at' n page).length cap/\Xc Xe w w'):=by
 have a2:maxLen=9223372036854775807:=rfl;refine ζe func208 ntmps208 ϱ (ζf ϱ ?_);by_cases O:n=0
 ·subst O;exact ζy ϱ (ζr func208 ϱ ⟨none,0,by rw[Uw];rfl,Xc.refl _ _⟩)
 refine ζf ϱ (ζf ϱ (ζf ϱ (ζj ϱ (ζf ϱ (Xa.div Xb rfl (by omega) (Fy (by omega) (by omega)) rfl ?_)))));have c:=Xmn (page:=page) hb.2.1 n at' (by omega);have B:=R4 (page:=page) hb.2.1 n at';obtain⟨L,C⟩:∃L,L=(Ya at' n page).length:=⟨_,rfl⟩;rw[<-C] at c B⊢;have D:(at':Int)/page=((at'/page:Nat):Int):=rfl;rw[D];obtain⟨b,r⟩:∃b,b=at'/page:=⟨_,rfl⟩;rw[<-r] at c⊢;have y:=Nat.div_mul_le_self (at'+n-1) page;have l:((at':Int)+n-1)/page=(((at'+n-1)/page:Nat):Int):=by
  rw[show(at':Int)+n-1=((at'+n-1:Nat):Int) from by omega];rfl
 obtain⟨E,F⟩:∃E,E=(at'+n-1)/page:=⟨_,rfl⟩;rw[<-F] at c y l
 clear F
 have G:L=0->False:=λh=>by
  subst h;have:Ya at' n page=[]:=List.length_eq_zero_iff.1 C.symm;rw[K6 hb.2.1 (by omega)] at this;cases this
 have a3:=Nat.pos_of_ne_zero G;have s:E=b+L-1:=by omega
 have H:((at':Int)+n-1)/page=((b+L-1:Nat):Int):=by rw[l,s]
 have P:(b+L-1)*page<=at'+n:=by rw[<-s];omega
 refine Xa.loop (α:=Nat×Value) (λx=>[(0,false,.int .i64 at'),(1,false,.int .i64 n),(2,false,.int .i64 page),(7,false,x.2),(8,false,.int .i64 ((b+x.1:Nat):Int))])
  (λx w'=>x.1<=L/\(∃xs,Xl w.heap.size 294 3 w' x.2 x.1 xs)/\Xc Xe w w') (λx=>L-x.1) (0,.slice none 0 0) ⟨rfl,rfl,rfl,rfl,rfl,trivial⟩ ⟨XL _,⟨[],World.ownsRow_nil _ _ _ _⟩,Xc.refl _ _⟩ ?_
 rintro⟨j,v⟩ w1 ⟨Q,⟨xs,q⟩,f⟩ ih;simp only at Q q
 refine ζa ϱ (ζj ϱ (ζj ϱ (Xa.div Xb rfl (by omega) (Fy (by omega) (by omega)) rfl ?_)));rw[H];refine ζg ϱ (λz=>?_) λz=>?_
 ·have t:j<L:=by have:=of_decide_eq_true z;simp only at this;omega
  have I:((b+j:Nat):Int)*page<=at'+n:=by
   have h1:(b+j)*page<=(b+L-1)*page:=QH _ (by omega);omega
  have J:0<=((b+j:Nat):Int)*page:=ZJ (by omega) (by omega);have R:((b+(j,v).fst:Nat):Int)*page<=at'+n:=I;have S:0<=((b+(j,v).fst:Nat):Int)*page:=J;have a4:(j,v).fst<=16777216:=by show j<=16777216;omega
  have T:b<=16777216:=by rw[r];exact ZV (Nat.div_le_self _ _) (by omega)
  refine Xa.arith Xb rfl (w64 (by omega)) rfl ?_;refine ζj ϱ (ζj ϱ (ζj ϱ (ζg ϱ (λU=>?_) λU=>?_)))
  ·refine ζj ϱ (ζj ϱ (ζj ϱ (ζJ ϱ (by first|omega|(split <;> omega)) (ζJ ϱ (by first|omega|(split <;> omega)) (ζb ϱ (Xa.buildSlice Xb rfl λV W e2 m d K=>ζa ϱ ?_))))));have k:=q.chg d (λ_ _ h=>h);exact Xa.append (base:=w.heap.size) (news:=(_:List Value)) Xb rfl k (by have:=f.size;have:=d.size;omega) rfl (λi u e=>by rw[Cl,Yt m];simpa [Y5] using e) (λu e=>by simp at e;rcases e with rfl|rfl|rfl <;> rfl) (by simp only;omega) λA w3 o p M=>ζa ϱ (ζj ϱ (ih (j+1,A) _ _ ⟨t,⟨_,o⟩,k.since (f.trans d) (XE _) p⟩ (by simp only;omega) ⟨rfl,rfl,rfl,rfl,by show some (Value.int .i64 (((b+j:Nat):Int)+1))=some (.int .i64 ((b+(j+1):Nat):Int));exact Xax (by omega),trivial⟩))
  ·refine ζj ϱ (ζJ ϱ (by first|omega|(split <;> omega)) (ζJ ϱ (by first|omega|(split <;> omega)) (ζb ϱ (Xa.buildSlice Xb rfl λV W e2 m d K=>ζa ϱ ?_))));have k:=q.chg d (λ_ _ h=>h);exact Xa.append (base:=w.heap.size) (news:=(_:List Value)) Xb rfl k (by have:=f.size;have:=d.size;omega) rfl (λi u e=>by rw[Cl,Yt m];simpa [Y5] using e) (λu e=>by simp at e;rcases e with rfl|rfl|rfl <;> rfl) (by simp only;omega) λA w3 o p M=>ζa ϱ (ζj ϱ (ih (j+1,A) _ _ ⟨t,⟨_,o⟩,k.since (f.trans d) (XE _) p⟩ (by simp only;omega) ⟨rfl,rfl,rfl,rfl,by show some (Value.int .i64 (((b+j:Nat):Int)+1))=some (.int .i64 ((b+(j+1):Nat):Int));exact Xax (by omega),trivial⟩))
 ·have N:j=L:=by have:=of_decide_eq_false z;simp only at this;omega
  subst N;rcases q.2 with⟨rfl,h0⟩|⟨g,cap,cur,rfl,_⟩
  ·exact absurd h0 (by omega)
  ·exact ζr func208 ϱ ⟨_,cap,rfl,f⟩
def Q9(c:Conf)(p:Yu)(r:RA):List Value:=Zj c p++Gw r
def X5(c:Conf)(q:Plc)(at' n:Nat):Int:=n+(if q.cls=-1 then ((Ya at' n c.size.toNat).length:Int) else 0)
theorem XfD(c:Conf)(p:Yu)(r:RA)(q:Plc)(at' n:Nat)(w:World)(hm:X6 c=true)(hb:at'+n<=16777216)(hst:0<=r.steps/\r.steps<=1152921504606846976):Xf prog 163 #[.agg (Q9 c p r).toArray,.agg (Xv q).toArray,.int .i64 at',.int .i64 n] w (Grow (.agg (Q9 c p {r with steps:=r.steps+X5 c q at' n}).toArray) w):=by
 obtain⟨m1,m2,m3⟩:=Dr hm;obtain⟨ra,rcap,rbs,st⟩:=r;replace hst:0<=st/\st<=1152921504606846976:=hst;refine ζe func163 ntmps163 ϱ (ζn ϱ λxb M e1 i j S=>ζn ϱ λqb x e2 k y T=>ζn ϱ λob w3 e3 G l U=>?_);replace k:x.heap[qb]?=some (.cells (Xv q).toArray 98 (0,0)):=k;replace i:M.heap[xb]?=some (.cells (Q9 c p ⟨ra,rcap,rbs,st⟩).toArray 144 (0,0)):=i;have m:=l.heap' (y.heap' i);refine Xa.loadb Xb rfl m rfl rfl ?_;refine Xa.arith Xb rfl (w64 (by show _/\_;simp only;omega)) rfl ?_;refine ζs m ϱ λN b o V=>?_;have A:=((j.trans y).trans l).since o (λz C e=>by omega);have s:=o.heap G (by omega);refine ζl (o.heap (l.heap' k) (by omega)) ϱ ?_;by_cases g:q.cls=-1
 ·obtain⟨sz,H⟩:=XD (show 0<=c.size by omega);have D:c.size.toNat=sz:=by omega
  have W:=R4 (page:=sz) (by omega) n at';refine ζY ϱ (show(q.cls == -1)=true by rw[g];rfl) (ζd 13 Xe (by kernel_rfl) ϱ λd=>δl d b ϱ ?_);refine Xd.loadb Xb d rfl b (by first|exact λh=>h|(intro h;omega)|assumption) rfl rfl ?_;have O:∀w',Xc Xe N w'->Xf prog 208 #[.int .i64 at',.int .i64 n,.int .i64 c.size] w' (λu x=>Xc Xe w' x/\∃a cap,u=.slice a (Ya at' n sz).length cap):=λw' a0=>by
   rw[H];exact(Xk2 at' n sz w' (by omega)).mono λu x ⟨a,cap,P,Q⟩=>⟨Q,a,cap,P⟩
  refine Xd.callQ d rfl rfl (O) ?_;rintro _ R I ⟨sa,scap,rfl⟩;refine Xd.adv Xb d rfl (Xd.arith Xb d rfl (w64 (by show _/\_;simp only;omega)) rfl (Xd.adv Xb d rfl (δn d ϱ λw6 J=>?_)));have f:=I.trans J;refine ζs (f.heap' b) ϱ λw7 E B a1=>?_;refine ζl E ϱ (ζs (B.heap (f.heap' s) (by omega)) ϱ λw8 t K a2=>?_);have F:st+(n:Int)+((Ya at' n sz).length:Int)=st+X5 c q at' n:=by unfold X5;rw[if_pos g,D];omega
  rw[F] at t;exact ζR func163 t ϱ ⟨rfl,(((A.trans f).since B (λz C e=>by omega)).since K (λz C e=>by have:=j.size;omega))⟩
 ·refine ζF ϱ (show(q.cls == -1)=false by simpa using g) (ζl b ϱ (ζs s ϱ λR v L a3=>?_));have F:st+(n:Int)=st+X5 c q at' n:=by unfold X5;rw[if_neg g];omega
  rw[F] at v;exact ζR func163 v ϱ ⟨rfl,(A.since L (λz C e=>by have:=j.size;omega))⟩
theorem Xco(hm:X6 c=true)(hin:Yi c q=true)(hi:(i:Int)<Zy c q):0<=Bv c q i/\Bv c q i<c.size*c.pages:=by
 obtain⟨t,u,v⟩:=Dr hm;unfold Bv;by_cases a:q.cls=-1
 ·rw[if_pos a];obtain⟨n,b⟩:=Tf hin a;have e:Zy c q=(q.pages.length:Int)*c.size:=by unfold Zy;rw[if_pos hin,if_pos a]
  rw[e] at hi;obtain⟨sz,h⟩:=XD (show 0<=c.size by omega);have f:c.size.toNat=sz:=by omega
  rw[f];have d:i/sz<q.pages.length:=by
   apply Nat.div_lt_of_lt_mul
   have:((sz*q.pages.length:Nat):Int)=(q.pages.length:Int)*c.size:=by rw[h,YG];rfl
   omega
  have g:=QM i (show 0<sz by omega);obtain⟨D,o⟩:∃D,D=i/sz:=⟨_,rfl⟩;obtain⟨M,p⟩:∃M,M=i%sz:=⟨_,rfl⟩;rw[<-o] at d⊢;rw[<-p] at g⊢;have j:0<=q.pages.getD D 0/\q.pages.getD D 0<c.pages:=b _ (by rw[XC,XB d];exact XK d);have w:0<=q.pages.getD D 0*c.size:=ZJ j.1 (by omega);have e2:q.pages.getD D 0*c.size+c.size<=c.size*c.pages:=by
   have:(q.pages.getD D 0+1)*c.size<=c.pages*c.size:=ZA (by omega) (by omega);rw[YU,QC,YG c.pages] at this;exact this
  omega
 ·rw[if_neg a];obtain⟨k,pg,ix,l,b,m,r,x,y,z,A,B,C,E⟩:=Hm hm hin a;have s:Ag c q=(pg:Int)*c.size+(ix:Int)*Yb c k:=by unfold Ag;rw[if_pos ⟨hin,a⟩,l,b,m]
  have e:Zy c q=Yb c k:=by unfold Zy;rw[if_pos hin,if_neg a,l]
  omega
def Yr(c:Conf)(q:Plc)(bs:List Int)(at' n:Nat):List Int:=(List.range n).map λi=>bs.getD (Bv c q (at'+i)).toNat 0
theorem XmX(c:Conf)(q:Plc)(bs:List Int)(at' n:Nat):Yr c q bs at' (n+1)=Yr c q bs at' n++[bs.getD (Bv c q (at'+n)).toNat 0]:=by
 unfold Yr;rw[YX,XI];rfl
theorem Sy{at' n:Int}(h:Qu c q at' n=0):Yi c q=true/\0<=at'/\0<=n/\at'+n<=Zy c q:=by
 have hi:Yi c q=true:=by
  cases hi:Yi c q with
  |true=>rfl
  |false=>unfold Qu at h;rw[if_pos hi] at h;cases h
 have a:¬(at'<0\/n<0\/Zy c q<n\/Zy c q-n<at'):=λb=>by
  unfold Qu at h;rw[if_neg (by rw[hi];decide),if_pos b] at h;cases h
 exact⟨hi,by omega,by omega,by omega⟩
theorem XfB(c:Conf)(p:Yu)(r:RA)(q:Plc)(at' n:Nat)(w:World)(hc:Ys w c p)(hq:Zl w q)(hm:X6 c=true)(hfew:q.pages.length<=4096)(hck:Qu c q at' n=0)(hR:Z0 w r)(hrl:(r.bs.length:Int)=c.size*c.pages)(hst:0<=r.steps/\r.steps<=1152921504606846976):Xf prog 99 #[.agg (Q9 c p r).toArray,.agg (Xv q).toArray,.int .i64 at',.int .i64 n] w (λu w'=>∃u1,u=.tuple #[.agg (Q9 c p {r with steps:=r.steps+X5 c q at' n}).toArray,u1,.int .i64 0]/\Xl w.heap.size 5 1 w' u1 n ((Yr c q r.bs at' n).map (Value.int .u8))/\Xc Xe w w'):=by
 have al:maxLen=9223372036854775807:=rfl;obtain⟨C,_,_,am⟩:=Sy hck;have an:=G7 (c:=c) (q:=q) hm hfew;refine ζe func99 ntmps99 ϱ (ζn ϱ λxb w1 e1 Q D ao=>ζn ϱ λqb w2 e2 R E ap=>ζn ϱ λob w3 e3 S t aq=>?_);have d:=t.heap' (E.heap' Q);have l:=t.heap' R;have M:=(D.trans E).trans t;refine ζl d ϱ (ζl l ϱ (ζv (Xbu c p q at' n w3 (hc.chg M) (hq.grow M) hm hfew) ϱ λN y=>?_));have F:=M.trans y;rw[hck];refine ζf ϱ ?_;refine Xa.loop (α:=Nat×Value) (λx=>[(2,false,.int .i64 at'),(3,false,.int .i64 n),(4,false,.pointer (some ⟨xb,0,none⟩)),(5,false,.pointer (some ⟨qb,0,none⟩)),(8,false,.pointer (some ⟨ob,0,none⟩)),(12,false,x.2),(13,false,.int .i64 ((at'+x.1:Nat):Int))])
  (λx w'=>x.1<=n/\Xl N.heap.size 5 1 w' x.2 x.1 ((Yr c q r.bs at' x.1).map (Value.int .u8))/\Xc Xe N w') (λx=>n-x.1) (0,.slice none 0 0) ⟨rfl,rfl,rfl,rfl,rfl,rfl,rfl,trivial⟩ ⟨XL _,World.ownsRow_nil _ _ _ _,Xc.refl _ _⟩ ?_
 rintro⟨j,v⟩ w5 ⟨hj,B,o⟩ ih;simp only at hj B
 have a:=y.trans o;have s:=F.trans o;refine ζa ϱ (ζj ϱ (ζg ϱ (λO=>?_) λO=>?_))
 ·have T:j<n:=by have:=of_decide_eq_true O;simp only at this;omega
  have U:=Xco (i:=at'+j) hm C (by omega);obtain⟨x,V⟩:=XD U.1;have A:x<r.bs.length:=by omega
  have W:Yr c q r.bs at' (j+1)=Yr c q r.bs at' j++[r.bs.getD x 0]:=by rw[XmX,V];rfl
  obtain⟨bb,boff,G,a0⟩:=(hR.rd.chg (s)) x A;obtain⟨ra,rcap,rbs,st⟩:=r;simp only at G
  subst G;replace A:x<rbs.length:=A;refine ζd 12 Xe (by kernel_rfl) ϱ λf=>δl f (a.heap' d) ϱ (δl f (a.heap' d) ϱ (δl f (a.heap' l) ϱ (δv f (λw' H=>XfC c p q (at'+j) w' ((hc.chg s).chg H) ((hq.grow s).grow H) hm C hfew (by omega)) ϱ ?_)));rw[V];refine Xd.index Xb f rfl (j:=x) (show(0:Int)<=(x:Int) by omega) (show(x:Int)<rbs.length by omega) (by simp) rfl ?_;refine δk f a0 ϱ (Xd.turn1 f rfl λw6 k=>Xp.buildSlice Xb f rfl (λ_=>rfl) λb7 w7 e7 a5 a6 a7=>δn f ϱ λw8 I=>?_);have m:=(k.trans a6).trans I;have J:=B.chg m (λ_ _ h=>h);exact Xa.append (base:=N.heap.size) (news:=[.int .u8 (rbs.getD x 0)]) Xb rfl J (by have:=o.size;have:=m.size;omega) rfl (Gl (I.heap' a5)) (by simp[Value.oneCell']) (by simp only;omega) λv9 w9 a8 a9 ar=>ζa ϱ (ζj ϱ (ih (j+1,v9) _ _ ⟨T,by rw[W,XI];exact a8,J.since (o.trans m) (XE _) a9⟩ (by simp only;omega) ⟨rfl,rfl,rfl,rfl,rfl,rfl,by show some (Value.int .i64 (((at'+j:Nat):Int)+1))=some (.int .i64 ((at'+(j+1):Nat):Int));exact Xax (by omega),trivial⟩))
 ·have aa:j=n:=by have:=of_decide_eq_false O;simp only at this;omega
  subst aa;refine ζl (a.heap' d) ϱ (ζl (a.heap' l) ϱ (ζv (XfD c p r q at' j w5 hm (by omega) hst) ϱ λw6 k=>?_));refine ζs ((a.trans k).heap' S) ϱ λw7 P K a7=>?_;have L:=(B.chg k (λ_ _ h=>h)).chg K (λb hb e=>by have:=(World.ownsRow.lt B b hb.symm).1;have:=y.size;omega);have ai:=F.size;have ab:Xl w.heap.size 5 1 w7 v j ((Yr c q r.bs at' j).map (Value.int .u8)):=by
   refine⟨L.1,?_⟩;rcases L.2 with h|⟨g,cap,cur,a1,a2,a3⟩
   ·exact .inl h
   ·exact .inr ⟨g,cap,cur,a1,by omega,a3⟩
  exact ζR func99 P ϱ ⟨v,rfl,ab,(s.trans k).since K (λz hz e=>by have:=D.size;omega)⟩
def Qw(c:Conf)(q:Plc)(bs:List Int)(at':Nat)(l:List Int):Nat->List Int
 |0=>bs
 |k+1=>(Qw c q bs at' l k).set (Bv c q (at'+k)).toNat (l.getD k 0)
theorem Gr(c:Conf)(q:Plc)(bs:List Int)(at':Nat)(l:List Int):∀k,(Qw c q bs at' l k).length=bs.length
 |0=>rfl
 |k+1=>by show(List.set _ _ _).length=_;rw[XG,Gr c q bs at' l k]
theorem XjE{v x:Int}(h:x∈l.set i v):x∈l\/x=v:=by
 rcases ZM h with h|h
 ·exact .inl h
 ·exact .inr h
theorem Xek(hb:Qn bs)(hl:Qn l):∀{k:Nat},k<=l.length->Qn (Qw c q bs at' l k)
 |0,_=>hb
 |k+1,h=>λx hx=>by
  rcases XjE hx with hx|hx
  ·exact Xek hb hl (k:=k) (by omega) x hx
  ·have a:k<l.length:=h;rw[XC,XB a] at hx;rw[hx];exact hl _ (XK a)
theorem Xbt(c:Conf)(p:Yu)(r:RA)(q:Plc)(at':Nat)(a:Option Addr)(cap:Nat)(l:List Int)(w:World)(hc:Ys w c p)(hq:Zl w q)(hm:X6 c=true)(hfew:q.pages.length<=4096)(hck:Qu c q at' l.length=0)(hR:Z0 w r)(hrl:(r.bs.length:Int)=c.size*c.pages)(hst:0<=r.steps/\r.steps<=1152921504606846976)(hr:Rd .u8 w a l)(hin8:Qn l):Xf prog 100 #[.agg (Q9 c p r).toArray,.agg (Xv q).toArray,.int .i64 at',.slice a l.length cap] w (λu w'=>∃r':RA,u=.tuple #[.agg (Q9 c p r').toArray,.int .i64 0]/\r'.bs=Qw c q r.bs at' l l.length/\r'.steps=r.steps+X5 c q at' l.length/\Z0 w' r'/\E1 w r.a r'.a/\Xc Xe w w'):=by
 have bh:maxLen=9223372036854775807:=rfl;obtain⟨T,_,_,bi⟩:=Sy hck;have bj:=G7 (c:=c) (q:=q) hm hfew;have b9:=Mk hm;have A:=hR.len;obtain⟨ra,rcap,rbs,st⟩:=r;replace hrl:(rbs.length:Int)=c.size*c.pages:=hrl;replace A:rbs.length<=4194304:=A;refine Xf.enter func100 rfl ntmps100 rfl rfl ?_;refine ζa rfl ?_;refine Xa.alloc Xb rfl ?_;intro xb w1 e1 F U bk;refine ζa rfl ?_;refine Xa.alloc Xb rfl ?_;intro qb w2 e2 G V bl;refine ζa rfl ?_;refine Xa.alloc Xb rfl ?_;intro ob w3 e3 W H bm;refine ζa rfl ?_;replace G:w2.heap[qb]?=some (.cells (Xv q).toArray 98 (0,0)):=G;replace F:w1.heap[xb]?=some (.cells (Q9 c p ⟨ra,rcap,rbs,st⟩).toArray 144 (0,0)):=F;have b:=H.heap' (V.heap' F);have s:=H.heap' G;have hw:=(U.trans V).trans H;refine Xa.loads Xb rfl b rfl rfl ?_;refine Xa.loads Xb rfl s rfl rfl ?_;refine ζc rfl (Xbu c p q at' l.length w3 (hc.chg hw) (hq.grow hw) hm hfew) ?_;rintro _ w4 ⟨rfl,m⟩;refine ζa rfl ?_;have a0:=hw.trans m;rw[hck];refine Xa.no Xb rfl rfl rfl ?_;refine Xa.buildSlice Xb rfl ?_;intro I w5 e5 ao a1 bn;refine ζa rfl ?_;have J:=a0.trans a1;have d:=m.trans a1;have a2:Xl w.heap.size 5 1 w5 (.slice (some ⟨I,0,none⟩) 0 0) 0 []:=Xl.empty (by have:=a0.size;omega) ao;obtain⟨a3,B,K,_⟩:=hR.rd 0 (by show 0<rbs.length;omega);replace K:ra=some ⟨a3,B,none⟩:=K;subst K;refine ζl (d.heap' b) ϱ ?_;have aa:Rd .u8 w5 (some ⟨a3,B,none⟩) rbs:=hR.rd.chg J;refine Xa.append (base:=w.heap.size) (xs:=[]) (news:=rbs.map (Value.int .u8)) Xb rfl a2 J.size (by simp) aa.cells Jb (by simp only;omega) ?_;intro v6 w6 ap C aq;obtain⟨g,gcap,cur,ac,bo,ar,au,bp,av⟩:=ap.form (by show 0<0+rbs.length;omega);subst ac;refine ζa ϱ ?_;have aw:Xc Xe w w6:=a2.since J (XE _) C;have t:∀z,z<I -> ¬Ig (.slice (some ⟨I,0,none⟩) 0 0) z:=λz hz h=>by have e:some z=some I:=h;have:=Option.some.inj e;omega
 have bq:=Xg (m.heap' b);have br:=Xg (m.heap' s);have bs:=Xg (m.heap' W);have ae:=C.heap (d.heap' b) (t xb (by omega));have af:=C.heap (d.heap' s) (t qb (by omega));have ag:=C.heap (d.heap' W) (t ob (by omega));have L:cur.toList=rbs.map (Value.int .u8)++cur.toList.drop rbs.length:=by
  have e:=XZ rbs.length cur.toList;rw[show cur.toList.take rbs.length=rbs.map (Value.int .u8) from by simpa using av] at e;exact e.symm
 obtain⟨rest,R⟩:∃rest,rest=cur.toList.drop rbs.length:=⟨_,rfl⟩;rw[<-R] at L;have ah:w6.heap[g]?=some (.cells (rbs.map (Value.int .u8)++rest).toArray 5 (0,0)):=by rw[<-L];exact ar
 have ax:0+rbs.length=rbs.length:=by omega
 rw[ax] at au⊢;have bt:w4.heap.size<=g:=by
  rcases aq.2 with h|h
  ·have e:some g=some I:=h;have:=Option.some.inj e;omega
  ·have e:some g=some w5.heap.size:=h;have:=Option.some.inj e;omega
 refine Xa.loop (α:=Nat) (λk=>[(2,false,.int .i64 at'),(3,false,.slice a l.length cap),(4,false,.pointer (some ⟨xb,0,none⟩)),(5,false,.pointer (some ⟨qb,0,none⟩)),(8,false,.pointer (some ⟨ob,0,none⟩)),(11,false,.slice (some ⟨g,0,none⟩) rbs.length gcap),(12,false,.int .i64 k)])
  (λk w'=>k<=l.length/\w'.heap[g]?=some (.cells ((Qw c q rbs at' l k).map (Value.int .u8)++rest).toArray 5 (0,0))/\Xc (λz=>z=g) w6 w') (λk=>l.length-k) 0 ⟨rfl,rfl,rfl,rfl,rfl,rfl,rfl,trivial⟩ ⟨XL _,ah,Xc.refl _ _⟩ ?_
 rintro k w7 ⟨hk,a4,n⟩ ih;have D:Xc Xe w w7:=aw.since n (λz hz e=>by omega);have v:=n.heap ae (by omega);have M:=n.heap af (by omega);have ai:=n.heap ag (by omega);have N:=Gr c q rbs at' l k;refine ζa ϱ (ζg ϱ (λh0=>?_) λh0=>?_)
 ·have a5:k<l.length:=by have:=of_decide_eq_true h0;omega
  have ay:=Xco (i:=at'+k) hm T (by omega);obtain⟨x,hx⟩:=XD ay.1;obtain⟨sb,soff,rfl,b0⟩:=(hr.chg D) k a5;have b1:Qw c q rbs at' l (k+1)=(Qw c q rbs at' l k).set x (l.getD k 0):=by show(Qw c q rbs at' l k).set (Bv c q (at'+k)).toNat (l.getD k 0)=_;rw[hx];rfl
  refine ζd 13 Xe (by kernel_rfl) ϱ λo=>δl o v ϱ (δl o M ϱ (δj o ϱ (δv o (λw' a6=>XfC c p q (at'+k) w' ((hc.chg D).chg a6) ((hq.grow D).grow a6) hm T hfew (by omega)) ϱ ?_)));rw[hx];exact δi k o ϱ (δk o b0 ϱ (Xd.index Xb o rfl (j:=x) (show(0:Int)<=(x:Int) by omega) (show(x:Int)<rbs.length by omega) (by simp) rfl (δn o ϱ λS a7=>ζS ϱ (a7.heap' a4) (show Yd ((Qw c q rbs at' l k).map (Value.int .u8)++rest) (0+x) [.int .u8 (l.getD k 0)]=some (((Qw c q rbs at' l k).set x (l.getD k 0)).map (Value.int .u8)++rest) from by rw[XS,Uo _ _ _ (by simp;omega),YW _ _ (by simp;omega),YD]) ϱ λw9 b2 b3 bu=>ζj ϱ (ih (k+1) _ _ ⟨a5,by rw[b1];exact b2,(n.trans a7.gr).trans b3⟩ (by omega) ⟨rfl,rfl,rfl,rfl,rfl,rfl,rfl,trivial⟩))))
 ·have b4:k=l.length:=by have:=of_decide_eq_false h0;omega
  subst b4;refine ζl v ϱ (ζb ϱ ?_);rw[<-N];refine ζs v ϱ λS y E bv=>?_;replace y:S.heap[xb]?=some (.cells (Q9 c p ⟨some ⟨g,0,none⟩,gcap,Qw c q rbs at' l l.length,st⟩).toArray 144 (0,0)):=y;have ak:=E.heap M (by omega);have al:=E.heap ai (by omega);have b6:=E.heap a4 (by omega);have b7:Xc Xe w S:=D.since E (λz hz e=>by omega);refine ζl y ϱ (ζl ak ϱ (ζv (XfD c p ⟨some ⟨g,0,none⟩,gcap,Qw c q rbs at' l l.length,st⟩ q at' l.length S hm (by omega) hst) ϱ λw9 O=>ζs (O.heap' al) ϱ λP f Q bg=>?_));replace f:P.heap[ob]?=some (.cells (Q9 c p ⟨some ⟨g,0,none⟩,gcap,Qw c q rbs at' l l.length,st+X5 c q at' l.length⟩).toArray 144 (0,0)):=f;have am:=Q.heap (O.heap' b6) (by omega);have an:Xc Xe w P:=(b7.trans O).since Q (λz hz e=>by have:=U.size;omega);have b8:Z0 P ⟨some ⟨g,0,none⟩,gcap,Qw c q rbs at' l l.length,st+X5 c q at' l.length⟩:=⟨Rd.of_take am (by simp),by simp only[N];omega,by simp only[N];omega,Xek hR.rng hin8 (XE _)⟩;exact ζR func100 f ϱ ⟨_,rfl,rfl,rfl,b8,.inr ⟨g,0,rfl,by omega⟩,an⟩
theorem Uc(c:Conf)(p:Yu)(r:RA)(q:Plc)(at' n:Nat)(w:World)(hc:Ys w c p)(hq:Zl w q)(hm:X6 c=true)(hfew:q.pages.length<=4096)(hck:Qu c q at' n=0)(hR:Z0 w r)(hrl:(r.bs.length:Int)=c.size*c.pages)(hst:0<=r.steps/\r.steps<=1152921504606846976):Xf prog 96 #[.agg (Q9 c p r).toArray,.agg (Xv q).toArray,.int .i64 at',.int .i64 n] w (λu w'=>∃r':RA,u=.tuple #[.agg (Q9 c p r').toArray,.int .i64 0]/\r'.bs=Qw c q r.bs at' (Xz n) n/\r'.steps=r.steps+X5 c q at' n/\Z0 w' r'/\E1 w r.a r'.a/\Xc Xe w w'):=by
 obtain⟨ai,_,_,aj⟩:=Sy hck;have ak:=G7 (c:=c) (q:=q) hm hfew;have E:(Xz n).length=n:=XH;refine ζe func96 ntmps96 ϱ (ζn ϱ λxb w1 e1 l F al=>ζn ϱ λqb C e2 S G am=>ζn ϱ λob w3 e3 H o an=>?_);replace l:w1.heap[xb]?=some (.cells (Q9 c p r).toArray 144 (0,0)):=l;have t:=o.heap' (G.heap' l);have v:=o.heap' S;have L:=(F.trans G).trans o;refine ζl t ϱ (ζl v ϱ (ζv (Xbu c p q at' n w3 (hc.chg L) (hq.grow L) hm hfew) ϱ λw4 d=>?_));have T:=L.trans d;rw[hck];refine ζf ϱ (ζd 8 Xe (by kernel_rfl) ϱ λi=>δl i (d.heap' t) ϱ (δl i (d.heap' v) ϱ (Xd.turn1 i rfl λw5 y=>Xp.make Xb i rfl (m:=n) (kk:=n) rfl rfl (XE _) (by simp only;omega) (by omega) (λ_=>rfl) λU w6 e6 I A ao=>?_)));have f:=T.trans (y.trans A);have hd:∀w',Xc Xe w6 w'->Xf prog 100 #[.agg (Q9 c p r).toArray,.agg (Xv q).toArray,.int .i64 at',.slice (some ⟨U,0,none⟩) n n] w' (λu C=>Xc Xe w' C/\∃r':RA,u=.tuple #[.agg (Q9 c p r').toArray,.int .i64 0]/\r'.bs=Qw c q r.bs at' (Xz n) n/\r'.steps=r.steps+X5 c q at' n/\Z0 C r'/\E1 w r.a r'.a/\Xj (λz=>z=ob) r'.a):=λw' a=>by
  have V:Y5 (Y8 (Value.int .u8 0)) n=(Xz n).map (Value.int .u8):=Vj _;rw[V] at I;have W:=Xbt c p r q at' (some ⟨U,0,none⟩) n (Xz n) w' ((hc.chg f).chg a) ((hq.grow f).grow a) hm hfew (by rw[E];exact hck) ((hR.grow f).grow a) hrl hst (Rd.of (a.heap' I) rfl) (λx hx=>by rw[ZG hx];omega);rw[E] at W;exact W.mono λu C ⟨r',a1,M,N,O,D,P⟩=>⟨P,r',a1,M,N,O,D.imp id (λ⟨g,off,Q,h2⟩=>⟨g,off,Q,by have:=f.size;have:=a.size;omega⟩),λb off s e hb=>by
   rcases D with h|⟨g,off',Q,h2⟩
   ·rw[h] at e;have ah:=Mk hm;obtain⟨b',off',e',a0⟩:=hR.rd 0 (by omega);rw[e] at e';cases e'
    have:=World.block_lt_of_cell? w _ a0;simp only at this
    omega
   ·rw[Q] at e;cases e
    have:=Xg H;have:=d.size;have:=y.size;have:=A.size;have:=a.size;omega⟩
 refine Xd.callQ i rfl rfl (hd) ?_;rintro _ w7 J ⟨r',rfl,M,N,O,D,P⟩;refine Xd.adv Xb i rfl (δn i ϱ λw8 B=>?_);have a7:=f.trans (J.trans B);have R:=(d.trans (y.trans A)).heap' H;refine ζs ((J.trans B).heap' R) ϱ λw9 j K ap=>?_;replace j:w9.heap[ob]?=some (.cells (Q9 c p r').toArray 144 (0,0)):=j;have k:=O.grow B;have a9:Z0 w9 r':=⟨k.rd.far P K,k.len,k.lc,k.rng⟩;exact ζR func96 j ϱ ⟨r',rfl,M,N,a9,D,a7.since K (λz V e=>by have:=F.size;omega)⟩
theorem My.rd(h:My base w v l):∃g cap cur,v=.slice (some ⟨g,0,none⟩) l.length cap/\base<=g/\w.heap[g]?=some (.cells cur 5 (0,0))/\l.length<=cap/\cur.toList.take l.length=l.map (Value.int .u8)/\Rd .u8 w (some ⟨g,0,none⟩) l:=by
 obtain⟨g,cap,cur,c,d,a,e,b⟩:=h;exact⟨g,cap,cur,c,d,a,e,b,Rd.of_take a b⟩
theorem Rd.at{k:IntKind}{w:World}{a:Option Addr}{l:List Int}(h:Rd k w a l)(hl:0<l.length):∃b off,a=some ⟨b,off,none⟩/\∀j,j<l.length->w.cell? ⟨b,off+j,none⟩=some (.int k (l.getD j 0)):=by
 obtain⟨b,off,e,_⟩:=h 0 hl;refine⟨b,off,e,λj c=>?_⟩;obtain⟨b',off',e',d⟩:=h j c;rw[e] at e';cases e';exact d
structure Mv where
 mv:Nat
 f:Nat
 t:Nat
 size:Nat
def N4(A:Ar)(M:Mv)(gone:Nat):List Value:=[.func (.func 179) #[.pointer (some ⟨A.ab,0,none⟩)] #[],.int .i64 M.f,.int .i64 M.t,.int .i64 M.size,.int .i64 gone]
structure Bw(w:World)(A:Ar)(V:ArV)(M:Mv)(gone:Nat):Prop where
 ar:X2 w A V
 obj:w.heap[M.mv]?=some (.cells (N4 A M gone).toArray 158 (0,0))
 pos:1<=M.size
 gone:gone<=M.size
 f:M.f+M.size<=V.bs.length
 t:M.t+M.size<=V.bs.length
theorem Bw.nfoot{M:Mv}(h:Bw w A V M g):¬Zr A M.mv:=by
 rintro(e|e)
 ·exact He h.obj h.ar.dat (by decide) e
 ·exact He h.obj (h.ar.met _ e).1 (by decide) rfl
theorem Bw.grow{w w':World}{A:Ar}{V:ArV}{M:Mv}{g:Nat}(h:Bw w A V M g)(hc:Xc Xe w w'):Bw w' A V M g:=⟨h.ar.grow hc,hc.heap' h.obj,h.pos,h.gone,h.f,h.t⟩
def XeH(A:Ar)(M:Mv):Nat->Prop:=λb=>b=A.ab\/b=A.db\/b=A.mc\/A.mb=some b\/b=M.mv
theorem Bw.lt{M:Mv}(h:Bw w A V M g):∀x,XeH A M x->x<w.heap.size:=λx hx=>by
 rcases hx with rfl|rfl|rfl|hx|rfl
 ·exact Xg h.ar.obj
 ·exact Xg h.ar.dat
 ·exact Xg h.ar.cap
 ·exact Xg (h.ar.met _ hx).1
 ·exact Xg h.obj
theorem Bw.far{M:Mv}(h:Bw w A V M g)(hc:Xc S w w')(hs:∀x,XeH A M x -> ¬S x):Bw w' A V M g:=
 ⟨h.ar.chg hc (λb a=>hs b (by rcases a with h|h|h|h;exact .inl h;exact .inr (.inl h);exact .inr (.inr (.inl h));exact .inr (.inr (.inr (.inl h))))),hc.heap h.obj (hs _ (.inr (.inr (.inr (.inr rfl))))),h.pos,h.gone,h.f,h.t⟩
theorem Bw.laid{V':ArV}{M:Mv}(h:Bw w A V M g)(hA:X2 w' A V')(hc:Xc (Zr A) w w')(hl:V'.bs.length=V.bs.length):Bw w' A V' M g:=
 ⟨hA,hc.heap h.obj h.nfoot,h.pos,h.gone,by rw[hl];exact h.f,by rw[hl];exact h.t⟩
def Hi(bs:List Int)(t f n:Nat):List Int:=Q1 bs t (sub bs f n)
theorem Pd{f:Nat}(h:f+n<=bs.length)(h':t+n<=bs.length):(Hi bs t f n).length=bs.length:=Iw (by rw[Gc h];exact h')
def Pw(A:Ar)(M:Mv):Nat->Prop:=λb=>Zr A b\/b=M.mv
theorem Ts(A:Ar)(V:ArV)(M:Mv)(g:Nat)(w:World)(h:Bw w A V M g):Xf prog 52 #[.pointer (some ⟨M.mv,0,none⟩)] w (Grow (.int .i64 (M.size-g:Nat)) w):=by
 have b:=h.ar.len;have c:=h.gone;have d:=h.t;exact ζe func52 ntmps52 ϱ (Xa.quiet rfl Xo (by kernel_rfl) (Xi.adv Xb rfl (Xi.loadb Xb rfl h.obj rfl rfl (Xi.loadb Xb rfl h.obj rfl rfl (Xi.arith Xb rfl (w64 (by omega)) rfl (Xi.nil λe a=>ζa ϱ (ζr func52 ϱ ⟨X0 (by omega),a⟩)))))))
theorem XeN(A:Ar)(V:ArV)(M:Mv)(g i n:Nat)(w:World)(h:Bw w A V M g)(hi:i+n<=M.size)(hn:0<n):Xf prog 180 #[.pointer (some ⟨M.mv,0,none⟩),.int .i64 i,.int .i64 n] w
 (λ_ w'=>Bw w' A {V.charge A n with bs:=Hi V.bs (M.t+i) (M.f+i) n} M g/\Xc (Zr A) w w'):=by
 have s:=h.ar.len;have p:=h.t;have q:=h.f;have l:=h.nfoot;have e1:((M.t:Int)+i)=((M.t+i:Nat):Int):=by omega
 have e2:((M.f:Int)+i)=((M.f+i:Nat):Int):=by omega
 refine ζe func180 ntmps180 ϱ (ζy ϱ (ζd 18 (Zr A) (by kernel_rfl) ϱ λa=>δl a h.obj ϱ (δl a h.obj ϱ (δj a ϱ (δl a h.obj ϱ (δj a ϱ ?_))))));rw[e1,e2];refine Xd.turn1 a rfl ?_;intro j e;have k:=h.grow e;refine Xp.call rfl (XcM A V (M.t+i) (M.f+i) n j k.ar (by omega) (by omega)).fn (Post:=λv d=>v=.int .i64 0/\X2 d A {V.charge A n with bs:=Hi V.bs (M.t+i) (M.f+i) n}/\Xc (Zr A) j d)
  (λr=>(XcM A V (M.t+i) (M.f+i) n j k.ar (by omega) (by omega)).mono λv d m=>⟨r.trans m.2.2,m⟩) ?_
 rintro _ d _ ⟨rfl,o,f⟩;refine δn a ϱ λt b=>?_;have c:(Hi V.bs (M.t+i) (M.f+i) n).length=V.bs.length:=Pd (by omega) (by omega);exact ζr func180 ϱ ⟨⟨o.grow b,b.heap' (f.heap k.obj l),h.pos,h.gone,by simp only[c];exact q,by simp only[c];exact p⟩,e.gr.trans (f.trans b.gr)⟩
theorem XjO(M:Mv)(i n:Int)(w:World)(hn:n<=0):Xf prog 180 #[.pointer (some ⟨M.mv,0,none⟩),.int .i64 i,.int .i64 n] w (λ_ w'=>w=w'):=by
 exact ζe func180 ntmps180 ϱ (ζf ϱ (ζr func180 ϱ rfl))
def Du(n:Int)(left:Nat):Nat:=(min n left).toNat
def Ou(A:Ar)(V:ArV)(M:Mv)(g k:Nat):ArV:=if k=0 then V else {V.charge A k with bs:=Hi V.bs (M.t+g) (M.f+g) k}
theorem XjM(A:Ar)(V:ArV)(M:Mv)(g:Nat)(n:Int)(w:World)(h:Bw w A V M g):Xf prog 122 #[.pointer (some ⟨M.mv,0,none⟩),.int .i64 n] w
 (λv w'=>v=.int .i64 (Du n (M.size-g))/\Bw w' A (Ou A V M g (Du n (M.size-g))) M (g+Du n (M.size-g))/\Xc (Pw A M) w w'):=by
 have z:=h.ar.len;have B:=h.gone;have C:=h.t;obtain⟨k,j⟩:∃k,k=Du n (M.size-g):=⟨_,rfl⟩;rw[<-j];unfold Du at j;have x:k<=M.size-g:=by omega
 have m:(if (0:Int)>(if ((M.size-g:Nat):Int)<n then ((M.size-g:Nat):Int) else n) then 0 else (if ((M.size-g:Nat):Int)<n then ((M.size-g:Nat):Int) else n))=(k:Int):=by
  subst j;split <;> split <;> omega
 refine ζe func122 ntmps122 ϱ (ζv (Ts A V M g w h) ϱ λr c=>?_);rw[m];have l:=h.grow c;by_cases f:k=0
 ·refine ζf ϱ ?_;subst f;exact ζr func122 ϱ ⟨rfl,by unfold Ou;rw[if_pos rfl];exact l,c.gr⟩
 ·refine ζy ϱ (ζl l.obj ϱ (ζc ϱ (XeN A V M g g k r l (by omega) (by omega)) ?_));rintro _ D ⟨a,o⟩;refine ζa ϱ (ζl a.obj ϱ (ζj ϱ ?_));rw[show((g:Int)+k)=((g+k:Nat):Int) from by omega];refine ζs a.obj ϱ λs p i y=>?_;have q:=a.ar.chg i (λb d e=>by
   subst e;rcases d with e|e|e|e
   ·exact He a.obj a.ar.obj (by decide) e
   ·exact He a.obj a.ar.dat (by decide) e
   ·exact He a.obj a.ar.cap (by decide) e
   ·exact He a.obj (a.ar.met _ e).1 (by decide) rfl)
  have t:Xc (Pw A M) w s:=c.gr.trans ((o.mono λb _ d=>.inl d).trans (i.mono λb _ d=>.inr d));have u:Ou A V M g k={V.charge A k with bs:=Hi V.bs (M.t+g) (M.f+g) k}:=by unfold Ou;rw[if_neg f]
  exact ζr func122 ϱ ⟨rfl,by rw[u];exact⟨q,p,h.pos,by omega,a.f,a.t⟩,t⟩
def Q2(i n g:Nat):Nat:=min (i+n) g-i
def Mu(A:Ar)(V:ArV)(M:Mv)(g i n:Nat):ArV:=if Q2 i n g=0 then V else {V.charge A (Q2 i n g) with bs:=Hi V.bs (M.t+i) (M.f+i) (Q2 i n g)}
theorem XjN(A:Ar)(V:ArV)(M:Mv)(g i n:Nat)(w:World)(h:Bw w A V M g)(hi:i+n<=M.size):Xf prog 143 #[.pointer (some ⟨M.mv,0,none⟩),.int .i64 i,.int .i64 n] w
 (λv w'=>v=.int .i64 0/\Bw w' A (Mu A V M g i n) M g/\Xc (Zr A) w w'):=by
 have j:=h.ar.len;have k:=h.gone;have l:=h.t;refine ζe func143 ntmps143 ϱ (ζf ϱ (ζf ϱ (ζl h.obj ϱ (ζf ϱ (ζl h.obj ϱ (ζj ϱ (ζf ϱ (ζj ϱ (ζl h.obj ϱ (ζJ ϱ (by split <;> omega) ?_))))))))));by_cases a:Q2 i n g=0
 ·refine ζc ϱ (XjO M i _ w (by unfold Q2 at a;split <;> omega)) ?_;rintro _ d rfl;have b:Mu A V M g i n=V:=by unfold Mu;rw[if_pos a]
  exact ζa ϱ (ζr func143 ϱ ⟨rfl,by rw[b];exact h,Xc.refl _ _⟩)
 ·have e:(if (g:Int)<(i:Int)+n then (g:Int) else (i:Int)+n)-i=((Q2 i n g:Nat):Int):=by unfold Q2 at a⊢;split <;> omega
  rw[e];refine ζc ϱ (XeN A V M g i (Q2 i n g) w h (by unfold Q2;omega) (by omega)) ?_;rintro _ d ⟨f,c⟩;have b:Mu A V M g i n={V.charge A (Q2 i n g) with bs:=Hi V.bs (M.t+i) (M.f+i) (Q2 i n g)}:=by unfold Mu;rw[if_neg a]
  exact ζa ϱ (ζr func143 ϱ ⟨rfl,by rw[b];exact f,c⟩)
def N5(N:Nat)(f t size:Int):Bool:=decide (1<=size) && (decide (0<=f) && decide (size<=N) && decide (f<=N-size)) && (decide (0<=t) && decide (size<=N) && decide (t<=N-size)) && (decide (f+size<=t)||decide (t+size<=f))
theorem Tt{f t:Int}:N5 N f t size=true↔1<=size/\(0<=f/\size<=N/\f<=N-size)/\(0<=t/\t<=N-size)/\(f+size<=t\/t+size<=f):=by
 unfold N5;simp only[XJ,Bool.or_eq_true,decide_eq_true_eq];constructor
 ·rintro⟨⟨⟨b,⟨c,a⟩,d⟩,⟨e,_⟩,g⟩,h⟩;exact⟨b,⟨c,a,d⟩,⟨e,g⟩,h⟩
 ·rintro⟨b,⟨c,a,d⟩,⟨e,g⟩,h⟩;exact⟨⟨⟨b,⟨c,a⟩,d⟩,⟨e,a⟩,g⟩,h⟩
def Fl(N:Nat)(size at':Int):Bool:=decide (0<=at') && decide (size<=N) && decide (at'<=N-size)
theorem XeM(A:Ar)(V:ArV)(x size:Int)(sb pb:Nat)(w:World)(hA:X2 w A V)(hs:w.heap[sb]?=some (.cells #[.int .i64 size] 3 (0,0)))(hp:w.heap[pb]?=some (.cells #[.pointer (some ⟨A.ab,0,none⟩)] 84 (0,0)))(hsz:1<=size):Xf prog 178 #[.int .i64 x,.pointer (some ⟨sb,0,none⟩),.pointer (some ⟨pb,0,none⟩)] w (Grow (.bool (Fl V.bs.length size x)) w):=by
 have f:=hA.len;refine ζe func178 ntmps178 ϱ (Xa.quiet rfl Xo (by kernel_rfl) (Xi.adv Xb rfl ?_));refine Xi.fork Xb rfl rfl rfl (λc=>?_) (λc=>?_)
 ·refine Xi.loadb Xb rfl hs rfl rfl (Xi.loadb Xb rfl hp rfl rfl (Xi.call Xb rfl (λw' b=>(V0 A V w' (hA.grow b)).grow) rfl ?_));refine Xi.fork Xb rfl rfl rfl (λd=>?_) (λd=>?_)
  ·have g:=of_decide_eq_true d;exact Xi.loadb Xb rfl hp rfl rfl (Xi.call Xb rfl (λw' b=>(V0 A V w' (hA.grow b)).grow) rfl (Xi.loadb Xb rfl hs rfl rfl (Xi.arith Xb rfl (w64 (by omega)) rfl (Xi.nil λe a=>ζa ϱ (ζr func178 ϱ ⟨Ai (by unfold Fl;rw[show decide (0<=x)=true from c,show decide (size<=(V.bs.length:Int))=true from d];rfl),a⟩)))))
  ·exact Xi.nil λe a=>ζa ϱ (ζr func178 ϱ ⟨Ai (by unfold Fl;rw[show decide (0<=x)=true from c,show decide (size<=(V.bs.length:Int))=false from d];rfl),a⟩)
 ·exact Xi.nil λe a=>ζa ϱ (ζr func178 ϱ ⟨Ai (by unfold Fl;rw[show decide (0<=x)=false from c];rfl),a⟩)
theorem Te{x:Int}:Fl N size x=true↔0<=x/\size<=N/\x<=N-size:=by unfold Fl;simp[and_assoc]
theorem XjL(A:Ar)(V:ArV)(f t size:Nat)(w:World)(hA:X2 w A V)(hm:N5 V.bs.length f t size=true):Xf prog 121 #[.pointer (some ⟨A.ab,0,none⟩),.int .i64 f,.int .i64 t,.int .i64 size] w
 (λv w'=>∃M:Mv,v=.tuple #[.pointer (some ⟨M.mv,0,none⟩),.int .i64 0]/\M.f=f/\M.t=t/\M.size=size/\w.heap.size<=M.mv/\Bw w' A V M 0/\Xc Xe w w'):=by
 have y:=hA.len;have g:=Tt.1 hm;have k:Fl V.bs.length size f=true:=Te.2 (by omega);have l:Fl V.bs.length size t=true:=Te.2 (by omega);refine ζe func121 ntmps121 ϱ (ζn ϱ λpb z e1 m h s=>ζn ϱ λsb q e2 c d u=>?_);have j:=(hA.grow h).grow d;have b:=d.heap' m;refine ζl b ϱ (ζl c ϱ (ζf ϱ (ζv (XeM A V f size sb pb q j c b (by omega)) ϱ λr a=>ζF ϱ (by rw[k];rfl) (ζv (XeM A V t size sb pb r (j.grow a) (a.heap' c) (a.heap' b) (by omega)) ϱ λB e=>ζF ϱ (by rw[l];rfl) (ζJ ϱ (by split <;> split <;> omega) ?_)))));have i:=e.heap' (a.heap' c);refine ζl i ϱ (ζF ϱ (decide_eq_false (by split <;> split <;> omega)) (ζl (e.heap' (a.heap' b)) ϱ (ζl i ϱ (ζb ϱ (ζn ϱ λmv C e5 n o x=>?_)))));have p:=(((h.trans d).trans a).trans e).trans o;exact ζr func121 ϱ ⟨⟨mv,f,t,size⟩,rfl,rfl,rfl,rfl,by have:=((h.trans d).trans a).trans e;have:=this.size;simp only;omega,⟨hA.grow p,n,by simp only;omega,XL _,by simp only;omega,by simp only;omega⟩,p⟩
theorem XjG(b cb:Nat)(total lap:Int)(w:World)(h:A9 w b total lap)(hc:w.heap[cb]?=some (.cells #[.pointer (some ⟨b,0,none⟩)] 83 (0,0))):Ge prog 104 #[.pointer (some ⟨cb,0,none⟩)] w (λ_ w'=>A9 w' b total total/\Xc (λx=>x=b) w w'):=by
 obtain⟨d,j,k,g⟩:=h;exact Ge.enter func104 rfl ntmps104 rfl rfl (ζa ϱ (ζd 5 Xe (by kernel_rfl) ϱ λa=>δk a (Es (off:=0) hc rfl) ϱ (δk a (Es (off:=0) hc rfl) ϱ (δl a d ϱ (δn a ϱ λl c=>ζs (c.heap' d) ϱ λm e f i=>ζr func104 ϱ ⟨⟨e,by omega,by omega,g⟩,c.gr.trans f⟩)))))
theorem XjF(b:Nat)(total lap:Int)(w:World)(h:A9 w b total lap):Xf prog 49 #[.pointer (some ⟨b,0,none⟩)] w (λv w'=>v=.int .i64 (total-lap)/\A9 w' b total total/\Xc (λx=>x=b) w w'):=by
 have k:=h;obtain⟨i,r,s,t⟩:=h;refine ζe func49 ntmps49 ϱ (ζn ϱ λcb u e1 a d q=>ζl a ϱ (Xa.defer rfl rfl (ζa ϱ (Xa.quiet rfl Xo (by kernel_rfl) (Xi.adv Xb rfl (Xi.loadb Xb rfl a rfl rfl (Xi.loadb Xb rfl (d.heap' i) rfl rfl (Xi.loadb Xb rfl a rfl rfl (Xi.loadb Xb rfl (d.heap' i) rfl rfl (Xi.arith Xb rfl (w64 (by omega)) rfl (Xi.nil λl e=>ζa ϱ ?_)))))))))));have g:=XjG b cb total lap l ((k.chg d).chg e) (e.heap' a);refine Xa.ret1D Xb rfl func49 rfl rfl rfl (Nz (args:=[]) (captured:=[.pointer (some ⟨cb,0,none⟩)]) g.fn) ⟨g.fn,?_⟩;intro c cs m;obtain⟨en,u',w',fr,⟨n,v,o,p,j⟩,f⟩:=g.calls c cs m;exact⟨en,u',w',fr,⟨n,v,o,rfl,p,((d.trans e).gr).trans j⟩,f⟩
theorem Xbj(r:RA)(i n:Int)(w:World)(hl:r.bs.length<=4194304):Xf prog 264 #[.agg (Gw r).toArray,.int .i64 i,.int .i64 n] w (Grow (.bool (Mn r.bs.length i n)) w):=by
 refine ζe func264 ntmps264 ϱ (ζn ϱ λb l e1 h a k=>ζg ϱ (λc=>?_) λc=>?_)
 ·have d:=of_decide_eq_true c;refine ζg ϱ (λe=>?_) λe=>?_
  ·have f:=of_decide_eq_true e;refine ζl h ϱ (ζg ϱ (λg=>?_) λg=>?_)
   ·have j:=of_decide_eq_true g;exact ζl h ϱ (ζj ϱ (ζr func264 ϱ ⟨Ai (by unfold Mn;rw[decide_eq_true d,decide_eq_true f,decide_eq_true j];rfl),a⟩))
   ·exact ζr func264 ϱ ⟨Ai (by unfold Mn;rw[decide_eq_false (of_decide_eq_false g)];simp),a⟩
  ·have f:=of_decide_eq_false e;exact ζr func264 ϱ ⟨Ai (by unfold Mn;rw[decide_eq_false f];simp),a⟩
 ·have d:=of_decide_eq_false c;exact ζr func264 ϱ ⟨Ai (by unfold Mn;rw[decide_eq_false d];rfl),a⟩
theorem Rd.keepU{q:Nat}{c:Array Value}(hr:Rd .u8 w a l)(hq:w.heap[q]?=some (.cells c t fz))(hc:∀x∈c.toList,∀z,x≠.int .u8 z)(hs:Xc (λb=>b=q) w w'):Rd .u8 w' a l:=λj f=>by
 obtain⟨b,off,e,d⟩:=hr j f;refine⟨b,off,e,hs.cell d (λg=>?_)⟩;subst g;rw[Yt hq] at d;exact hc _ (Array.mem_toList_iff.2 (Array.mem_of_getElem? d)) _ rfl
theorem XlK{x:Int}(hi:i<l.length):Yd (l.map (Value.int .u8)++rest) i [.int .u8 x]=some ((l.set i x).map (Value.int .u8)++rest):=by
 rw[Uo _ _ _ (by simp;omega),YW _ _ (by simpa using hi),YD]
def Mx(w:World)(r:RA):Prop:=∃g,r.a=some ⟨g,0,none⟩/\w.heap.size<=g
theorem Mx.back{r:RA}(h:Mx w' r)(hs:w.heap.size<=w'.heap.size):Mx w r:=by obtain⟨g,a,b⟩:=h;exact⟨g,a,ZV hs b⟩
theorem XkI(r:RA)(i:Nat)(a:Option Addr)(cap:Nat)(l:List Int)(w:World)(h:Z0 w r)(h0:0<r.bs.length)(hr:Rd .u8 w a l)(hb:Qn l)(hi:i+l.length<=r.bs.length):Xf prog 272 #[.agg (Gw r).toArray,.int .i64 i,.slice a l.length cap] w (λv w'=>∃r':RA,v=.agg (Gw r').toArray/\r'.bs=Q1 r.bs i l/\r'.steps=r.steps/\Z0 w' r'/\Xc Xe w w'/\Mx w r'):=by
 have j:=h.len;have ac:maxLen=9223372036854775807:=rfl;obtain⟨ra,rc,bs,st⟩:=r;simp only at h0 hi j
 obtain⟨b1,a5,ea,_⟩:=h.rd.at h0;simp only at ea
 subst ea;refine ζe func272 ntmps272 ϱ (ζn ϱ λrb w1 e1 y m ad=>ζn ϱ λqb D e2 L b ae=>Xa.buildSlice Xb rfl λb3 w3 e3 M d af=>ζa ϱ ?_);have N:=(m.trans b).trans d;refine ζl (d.heap' (b.heap' y)) ϱ ?_;have O:Xl D.heap.size 5 1 w3 (.slice (some ⟨b3,0,none⟩) 0 0) 0 []:=Xl.empty (by omega) M;refine Xa.append (base:=D.heap.size) (xs:=[]) (news:=bs.map (Value.int .u8)) Xb rfl O d.size (by simp) (h.rd.chg N).cells Jb (by simp only;omega) λv4 w4 P Q ag=>ζa ϱ ?_;have R:=O.since d (XE _) Q;obtain⟨g,n,cur,rfl,ah,S,z,ai,T⟩:=P.form (by simp only;omega);have o:cur.toList=bs.map (Value.int .u8)++cur.toList.drop bs.length:=by
  have e:=XZ bs.length cur.toList;rw[show cur.toList.take bs.length=bs.map (Value.int .u8) from by simpa using T] at e;exact e.symm
 obtain⟨rest,t⟩:∃rest,rest=cur.toList.drop bs.length:=⟨_,rfl⟩;rw[<-t] at o;have E:w4.heap[g]?=some (.cells (bs.map (Value.int .u8)++rest).toArray 5 (0,0)):=by rw[<-o];exact S
 have U:0+bs.length=bs.length:=by omega
 rw[U] at z⊢;refine Xa.loop (α:=Nat) (λk=>[(1,false,.int .i64 i),(2,false,.slice a l.length cap),(3,false,.pointer (some ⟨rb,0,none⟩)),(6,false,.pointer (some ⟨qb,0,none⟩)),(7,false,.slice (some ⟨g,0,none⟩) bs.length n),(8,false,.int .i64 k)])
  (λk w'=>w'.heap[g]?=some (.cells ((Dz bs i l k).map (Value.int .u8)++rest).toArray 5 (0,0))/\Xc Xe D w'/\k<=l.length) (λk=>l.length-k) 0 ⟨rfl,rfl,rfl,rfl,rfl,rfl,trivial⟩ ⟨by rw[Xa3];exact E,R,by omega⟩ ?_
 rintro k w5 ⟨F,f,hk⟩ ih;have p:Xc Xe w w5:=(m.trans b).trans f;refine ζa ϱ (ζg ϱ (λG=>?_) λG=>?_)
 ·have A:k<l.length:=by have:=of_decide_eq_true G;omega
  obtain⟨b6,aa,rfl,V⟩:=(hr.chg p) k A;refine ζj ϱ (ζi k ϱ (ζk ϱ V ϱ (ζi (i+k) ϱ ?_)));have W:=P9 (k:=k) (l:=l) (i:=i) (bs:=bs) hi;refine ζS ϱ F (XlK (by rw[W];omega)) ϱ λw6 h6 c a1=>?_;rw[XS,Xa2 hi A] at h6;exact ζj ϱ (ih (k+1) _ _ ⟨h6,f.since c (λx u B=>by omega),by omega⟩ (by omega) ⟨rfl,rfl,rfl,rfl,rfl,rfl,trivial⟩)
 ·have a2:k=l.length:=by have:=of_decide_eq_false G;omega
  subst a2;rw[Xe9] at F;have H:=f.heap' (b.heap' y);refine ζs H ϱ λw6 I c a1=>ζl I ϱ (ζs (c.heap (f.heap' L) (by omega)) ϱ λJ q C aj=>?_);have K:J.heap[g]?=some (.cells ((Q1 bs i l).map (Value.int .u8)++rest).toArray 5 (0,0)):=C.heap (c.heap F (by omega)) (by omega);have s:=Iw hi;have a3:Xc Xe w J:=(p.since c (λx u B=>by omega)).since C (λx u B=>by omega);have a4:Rd .u8 J (some ⟨g,0,none⟩) (Q1 bs i l):=Rd.of_take K (by simp);rw[<-s] at q;exact ζR func272 q ϱ ⟨⟨some ⟨g,0,none⟩,n,Q1 bs i l,st⟩,rfl,rfl,rfl,⟨a4,by simp only[s];exact j,by simp only[s];exact z,λx u=>(Mt u).elim (h.rng x) (hb x)⟩,a3,g,rfl,by have:=m.size;have:=b.size;omega⟩
def XcE(w:World)(bs:List Int)(st e:Int):Value->World->Prop:=λv w'=>∃r':RA,v=.tuple #[.agg (Gw r').toArray,.int .i64 e]/\r'.bs=bs/\r'.steps=st/\Z0 w' r'/\Xc Xe w w'/\Mx w r'
def Mz(st:Int):Prop:=0<=st/\st<=1000000000000
theorem XkH(r:RA)(i:Nat)(a:Option Addr)(cap:Nat)(l:List Int)(w:World)(h:Z0 w r)(hst:Mz r.steps)(h0:0<r.bs.length)(hr:Rd .u8 w a l)(hb:Qn l)(hi:i+l.length<=r.bs.length):Xf prog 265 #[.agg (Gw r).toArray,.int .i64 i,.slice a l.length cap] w (XcE w (Q1 r.bs i l) (r.steps+l.length) 0):=by
 have p:=h.len;unfold Mz at hst;refine ζe func265 ntmps265 ϱ (ζn ϱ λrb L e1 k t H=>ζn ϱ λqb D e2 u d I=>ζl (d.heap' k) ϱ (ζv (Xbj r i l.length D p) ϱ λM e=>ζF ϱ (by rw[Xcb.2 (by omega)];rfl) ?_));have f:=e.heap' (d.heap' k);refine ζl f ϱ (ζj ϱ (ζs f ϱ λE q m J=>?_));have b:=((t.trans d).trans e).since m (λx F v=>by omega);have j:=h.grow b;refine ζl q ϱ (ζc ϱ (XkI {r with steps:=r.steps+l.length} i a cap l E ⟨j.rd,j.len,j.lc,j.rng⟩ h0 (hr.chg b) hb hi) ?_);rintro _ N ⟨y,rfl,z,A,c,n,B⟩;have g:=n.heap' (m.heap (e.heap' u) (by omega));refine ζa ϱ (ζs g ϱ λG s o K=>?_);have C:Z0 G y:=by
  exact⟨c.rd.keepU g (by simp[Y8]) o,c.len,c.lc,c.rng⟩
 exact ζR func265 s ϱ ⟨y,rfl,z,A,C,((b.trans n).since o (λx F v=>by omega)),B.back b.size⟩
theorem XkF(r:RA)(t f n:Nat)(w:World)(h:Z0 w r)(hst:Mz r.steps)(h0:0<r.bs.length)(hf:f+n<=r.bs.length)(ht:t+n<=r.bs.length):Xf prog 241 #[.agg (Gw r).toArray,.int .i64 t,.int .i64 f,.int .i64 n] w (XcE w (Q1 r.bs t (sub r.bs f n)) (r.steps+n) 0):=by
 have j:=h.len;have D:=h.lc;refine ζe func241 ntmps241 ϱ (ζn ϱ λrb w1 e1 k E T=>ζn ϱ λqb F e2 G d U=>ζl (d.heap' k) ϱ (ζv (Xbj r f n F j) ϱ λP e=>ζF ϱ (by rw[Xcb.2 (by omega)];rfl) (ζl (e.heap' (d.heap' k)) ϱ (ζv (Xbj r t n P j) ϱ λw4 m=>ζF ϱ (by rw[Xcb.2 (by omega)];rfl) ?_))));have o:=m.heap' (e.heap' (d.heap' k));have B:=m.heap' (e.heap' G);refine ζd 14 (λb=>b=qb) (by kernel_rfl) ϱ λa=>δl a o ϱ (δl a o ϱ (δj a ϱ (Xd.slice Xb a rfl (l:=f) (h:=(f+n)) (by first|rfl|omega|simp[B7]) (by first|rfl|omega|simp[B5]) (by omega) (by omega) rfl ?_)));rw[show f+n-f=n from by omega];refine Xd.turn1 a rfl ?_;intro Q u;have g:=(((E.trans d).trans e).trans m).trans u;have y:=Gc hf;have c:=XkH r t (Q6 r.a r.cap f 1) (r.cap-f) (sub r.bs f n) Q (h.grow g) hst h0 ((h.rd.chg g).shift hf D) (λx H=>h.rng x (ZD (XT H))) (by rw[y];exact ht);rw[y] at c;refine Xp.call rfl c.fn (λI=>c.mono λv F J=>⟨by obtain⟨_,_,_,_,_,R,_⟩:=J;exact I.up R,J⟩) ?_;rintro _ w6 _ ⟨S,rfl,K,L,i,z,M⟩;refine Xd.adv Xb a rfl (Xd.turn1 a rfl λw7 p=>?_);have q:=p.heap' (z.heap' (u.heap' B));refine Xp.store Xb a rfl q (by first|(intro h;exact rfl)|(intro h;omega)) rfl rfl rfl λw8 C A V=>δn a ϱ λw9 s=>?_;have N:=((g.trans z).trans p).since A (λx H W=>by omega);have O:=Z0.grow ⟨((i.grow p).rd).keepU q (by simp[Y8]) A,i.len,i.lc,i.rng⟩ s;exact ζR func241 (s.heap' C) ϱ ⟨S,rfl,K,L,O,N.trans s,M.back g.size⟩
structure Use where
 kind:Int
 at':Int
 frm:Int
 n:Int
 w:Int
 a:Option Addr
 cap:Nat
 bs:List Int
structure Vo(w:World)(u:Use):Prop where
 kind:0<=u.kind/\u.kind<256
 w64:0<=u.w/\u.w<18446744073709551616
 rd:Rd .u8 w u.a u.bs
 rng:Qn u.bs
 len:u.bs.length<=9223372036854775807
theorem Vo.chg{w w':World}{u:Use}(h:Vo w u)(hc:Xc Xe w w'):Vo w' u:=⟨h.kind,h.w64,h.rd.chg hc,h.rng,h.len⟩
structure Out where
 err:Int
 bs:List Int
 n:Nat
 told:List Int
 word:Int
def Xj3(bs:List Int)(e:Int):Out:=⟨e,bs,0,[],0⟩
theorem ArV.charge_zero:{V.charge A 0 with bs:=V.bs}=V:=by
 unfold ArV.charge;split
 ·rfl
 ·simp[Xx]
theorem ArV.charge_zero':{V.charge A ((0:Nat):Int) with bs:=V.bs}=V:=ArV.charge_zero
theorem My.rdS(h:My base w v l)(hS:∀b,S b->b<base):∃a cap,v=.slice a l.length cap/\Gg S .u8 w a l:=by
 obtain⟨g,cap,cur,c,i,j,k,m,d⟩:=h.rd;exact⟨_,cap,c,d,λb off s e _ f=>by cases e;have:=hS _ f;omega⟩
theorem X2.foot_lt(h:X2 w A V):∀b,Zr A b->b<w.heap.size:=λb hb=>by
 rcases hb with rfl|hb
 ·exact Xg h.dat
 ·exact Xg (h.met b hb).1
theorem Gg.nil{S:Nat->Prop}{k:IntKind}{w:World}{a:Option Addr}:Gg S k w a []:=⟨Rd.nil _ _ _,λ_ _ _ _ h=>absurd h (by simp)⟩
def XcG(A:Ar)(V:ArV)(w:World)(o:Out):Value->World->Prop:=λv w'=>
 ∃a cap,v=.tuple #[.slice a o.told.length cap,.int .u64 o.word,.int .i64 o.err]/\Gg (Zr A) .u8 w' a o.told/\X2 w' A {V.charge A o.n with bs:=o.bs}/\Xc (Zr A) w w'
theorem XcG.no{e:Int}(h:X2 w A V):XcG A V w (Xj3 V.bs e) (.tuple #[.slice a 0 cap,.int .u64 0,.int .i64 e]) w:=
 ⟨a,cap,rfl,Gg.nil,by show X2 w A {V.charge A ((0:Nat):Int) with bs:=V.bs};rw[ArV.charge_zero'];exact h,Xc.refl _ _⟩
theorem Z0.keep{r:RA}{q:Nat}{c:Array Value}(h:Z0 w r)(hq:w.heap[q]?=some (.cells c t fz))(hc:∀x∈c.toList,∀z,x≠.int .u8 z)(hs:Xc (λb=>b=q) w w'):Z0 w' r:=
 ⟨h.rd.keepU hq hc hs,h.len,h.lc,h.rng⟩
theorem Z0.rdS{r:RA}(h:Z0 w r)(hs:∀b off s,r.a=some ⟨b,off,s⟩ -> ¬S b):Gg S .u8 w r.a r.bs:=⟨h.rd,λb off s e _=>hs b off s e⟩
theorem Z0.far{r:RA}(h:Z0 w r)(hs:∀b off s,r.a=some ⟨b,off,s⟩ -> ¬S b)(hc:Xc S w w'):Z0 w' r:=
 ⟨((h.rdS hs).chg hc).1,h.len,h.lc,h.rng⟩
structure Act where
 step:Bool
 at':Int
 n:Int
 a:Option Addr
 cap:Nat
 bs:List Int
structure Vk(w:World)(x:Act):Prop where
 rd:Rd .u8 w x.a x.bs
 rng:Qn x.bs
 len:x.bs.length<=9223372036854775807
theorem Vk.chg{w w':World}{x:Act}(h:Vk w x)(hc:Xc Xe w w'):Vk w' x:=⟨h.rd.chg hc,h.rng,h.len⟩
structure RM where
 ra:RA
 f:Nat
 t:Nat
 size:Nat
 gone:Nat
def If(m:RM):List Value:=[.slice m.ra.a m.ra.bs.length m.ra.cap,.int .i64 m.ra.steps,.int .i64 m.f,.int .i64 m.t,.int .i64 m.size,.int .i64 m.gone]
structure Ki(w:World)(m:RM):Prop where
 ra:Z0 w m.ra
 pos:1<=m.size
 gone:m.gone<=m.size
 f:m.f+m.size<=m.ra.bs.length
 t:m.t+m.size<=m.ra.bs.length
theorem Ki.grow{w w':World}{m:RM}(h:Ki w m)(hc:Xc Xe w w'):Ki w' m:=⟨h.ra.grow hc,h.pos,h.gone,h.f,h.t⟩
def O3(m:RM)(w:World)(bs:List Int)(st:Int)(g:Nat)(m':RM)(w':World):Prop:=
 m'.ra.bs=bs/\m'.ra.steps=st/\m'.f=m.f/\m'.t=m.t/\m'.size=m.size/\m'.gone=g/\Z0 w' m'.ra/\Xc Xe w w'/\(Mx w m'.ra\/m'.ra.a=m.ra.a)
theorem O3.self{m:RM}(h:Z0 w' m.ra)(hc:Xc Xe w w'):O3 m w m.ra.bs m.ra.steps m.gone m w':=⟨rfl,rfl,rfl,rfl,rfl,rfl,h,hc,.inr rfl⟩
theorem Xfv(r:RA)(i n:Int)(w:World)(hl:r.bs.length<=4194304)(hn:1<=n):Xf prog 212 #[.agg (Gw r).toArray,.int .i64 i,.int .i64 n] w (Grow (.bool (Fl r.bs.length n i)) w):=by
 refine ζe func212 ntmps212 ϱ (ζn ϱ λb j e1 f a h=>ζg ϱ (λc=>?_) λc=>?_)
 ·have d:=of_decide_eq_true c;refine ζl f ϱ (ζg ϱ (λe=>?_) λe=>?_)
  ·have g:=of_decide_eq_true e;exact ζl f ϱ (ζj ϱ (ζr func212 ϱ ⟨Ai (by unfold Fl;rw[decide_eq_true d,decide_eq_true g];rfl),a⟩))
  ·exact ζr func212 ϱ ⟨Ai (by unfold Fl;rw[decide_eq_false (of_decide_eq_false e)];simp),a⟩
 ·have d:=of_decide_eq_false c;exact ζr func212 ϱ ⟨Ai (by unfold Fl;rw[decide_eq_false d];rfl),a⟩
theorem Xfw(m:RM)(i n:Nat)(w:World)(h:Ki w m)(hst:Mz m.ra.steps)(hi:i+n<=m.size)(hn:0<n):Xf prog 207 #[.agg (If m).toArray,.int .i64 i,.int .i64 n] w
 (λv w'=>∃m',v=.agg (If m').toArray/\O3 m w (Hi m.ra.bs (m.t+i) (m.f+i) n) (m.ra.steps+n) m.gone m' w'):=by
 have P:=h.ra.len;have Q:=h.f;have R:=h.t;have e1:((m.t:Int)+i)=((m.t+i:Nat):Int):=by omega
 have e2:((m.f:Int)+i)=((m.f+i:Nat):Int):=by omega
 refine ζe func207 ntmps207 ϱ (ζn ϱ λmb S G r d H=>ζn ϱ λqb E I s b J=>ζf ϱ ?_);have a:=b.heap' r;refine ζl a ϱ (ζl a ϱ (ζj ϱ (ζl a ϱ (ζj ϱ ?_))));rw[e1,e2];refine ζc ϱ (XkF m.ra (m.t+i) (m.f+i) n E ((h.ra.grow d).grow b) hst (by have:=h.pos;omega) (by omega) (by omega)) ?_;rintro _ T ⟨F,rfl,t,u,y,e,z⟩;refine ζa ϱ (ζn ϱ λnb U K A B L=>ζs A ϱ λV o C M=>?_);have c:=B.since C (λx D k=>by omega);have f:=c.heap' (e.heap' a);refine ζl o ϱ (ζs f ϱ λW p g N=>ζl p ϱ ?_);have j:=g.heap (c.heap' (e.heap' s)) (show ¬_ by omega);refine ζs j ϱ λw7 q l O=>?_;exact ζR func207 q ϱ ⟨{m with ra:=F},rfl,t,u,rfl,rfl,rfl,rfl,(((y.grow c).keep f (by simp[Y8,If]) g).keep j (by simp[Y8]) l),(((((d.trans b).trans e).trans c).since g (λx D k=>by omega)).since l (λx D k=>by omega)),.inl (z.back (d.trans b).size)⟩
theorem Xk1(m:RM)(i n:Int)(w:World)(hn:n<1):Xf prog 207 #[.agg (If m).toArray,.int .i64 i,.int .i64 n] w (Grow (.agg (If m).toArray) w):=by
 exact ζe func207 ntmps207 ϱ (ζn ϱ λmb p g c d h=>ζn ϱ λqb q j e a k=>ζy ϱ (ζl (a.heap' c) ϱ (ζs e ϱ λr b f l=>ζR func207 b ϱ ⟨rfl,(d.trans a).since f (λx s o=>by omega)⟩)))
def Ir(bs:List Int)(f t g k:Nat):List Int:=if k=0 then bs else Hi bs (t+g) (f+g) k
theorem XkZ(m:RM)(n:Int)(w:World)(h:Ki w m)(hst:Mz m.ra.steps):Xf prog 169 #[.agg (If m).toArray,.int .i64 n] w
 (λv w'=>∃m',v=.tuple #[.agg (If m').toArray,.int .i64 (Du n (m.size-m.gone))]/\O3 m w (Ir m.ra.bs m.f m.t m.gone (Du n (m.size-m.gone))) (m.ra.steps+Du n (m.size-m.gone)) (m.gone+Du n (m.size-m.gone)) m' w'):=by
 have hl:=h.ra.len;have hg:=h.gone;have ht:=h.t;obtain⟨k,A⟩:∃k,k=Du n (m.size-m.gone):=⟨_,rfl⟩;rw[<-A];unfold Du at A;refine ζe func169 ntmps169 ϱ (ζn ϱ λmb w1 O B c P=>ζn ϱ λqb L Q g b R=>?_);have a:=b.heap' B;refine ζl a ϱ (ζl a ϱ (ζj ϱ ?_));have C:(if ((m.size:Int)-m.gone)<n then ((m.size:Int)-m.gone) else n)<1/\k=0\/(if ((m.size:Int)-m.gone)<n then ((m.size:Int)-m.gone) else n)=(k:Int)/\1<=k:=by
  split <;> omega
 rcases C with⟨p,q⟩|⟨p,q⟩
 ·subst q;refine ζy ϱ (ζl a ϱ (ζs g ϱ λM t e r=>?_));exact ζR func169 t ϱ ⟨m,rfl,by unfold Ir;rw[if_pos rfl],by simp,rfl,rfl,rfl,by simp,((h.ra.grow (c.trans b)).keep g (by simp[Y8]) e),((c.trans b).since e (λx u i=>by omega)),.inr rfl⟩
 ·rw[p];refine ζf ϱ ?_;refine ζl a ϱ (ζl a ϱ (ζc ϱ (Xfw m m.gone k L ((h.grow c).grow b) hst (by omega) (by omega)) ?_));rintro _ M ⟨N,rfl,D,e,E,F,r,S,G,d,H⟩;refine ζa ϱ (ζn ϱ λnb w4 T I J U=>ζs I ϱ λw5 j K V=>?_);have f:=J.since K (λx u i=>by omega);refine ζl (f.heap' (d.heap' a)) ϱ (ζj ϱ ?_);rw[show((m.gone:Int)+k)=((m.gone+k:Nat):Int) from by omega];refine ζs j ϱ λw6 y l W=>ζl y ϱ ?_;have o:=l.heap (f.heap' (d.heap' g)) (show ¬_ by have:=d.size;omega);refine ζs o ϱ λw7 z s a0=>?_;exact ζR func169 z ϱ ⟨{N with gone:=m.gone+k},rfl,by unfold Ir;rw[if_neg (by omega)];exact D,e,E,F,r,rfl,(((G.grow f).keep j (by simp[Y8,If]) l).keep o (by simp[Y8]) s),(((((c.trans b).trans d).trans f).since l (λx u i=>by have:=d.size;omega)).since s (λx u i=>by omega)),H.imp (λh=>h.back (c.trans b).size) id⟩
def D7(bs:List Int)(f t g i n:Nat):List Int:=if Q2 i n g=0 then bs else Hi bs (t+i) (f+i) (Q2 i n g)
theorem Xk0(m:RM)(i n:Nat)(w:World)(h:Ki w m)(hst:Mz m.ra.steps)(hi:i+n<=m.size):Xf prog 161 #[.agg (If m).toArray,.int .i64 i,.int .i64 n] w
 (λv w'=>∃m',v=.tuple #[.agg (If m').toArray,.int .i64 0]/\O3 m w (D7 m.ra.bs m.f m.t m.gone i n) (m.ra.steps+Q2 i n m.gone) m.gone m' w'):=by
 have L:=h.ra.len;have M:=h.gone;have N:=h.t;refine ζe func161 ntmps161 ϱ (ζn ϱ λmb O H o f I=>ζn ϱ λqb p J l b K=>?_);have d:=b.heap' o;refine ζf ϱ (ζf ϱ (ζl d ϱ (ζf ϱ (ζl d ϱ (ζj ϱ (ζf ϱ (ζl d ϱ (ζj ϱ (ζl d ϱ (ζJ ϱ (by split <;> omega) ?_))))))))));by_cases k:Q2 i n m.gone=0
 ·refine ζv (Xk1 m i _ p (by unfold Q2 at k;split <;> omega)) ϱ λD c=>?_;have a:=c.heap' l;refine ζs a ϱ λE j g q=>?_;exact ζR func161 j ϱ ⟨m,rfl,by unfold D7;rw[if_pos k],by rw[k];simp,rfl,rfl,rfl,rfl,((((h.ra.grow f).grow b).grow c).keep a (by simp[Y8]) g),(((f.trans b).trans c).since g (λx F r=>by omega)),.inr rfl⟩
 ·have e:(if (m.gone:Int)<(i:Int)+n then (m.gone:Int) else (i:Int)+n)-i=((Q2 i n m.gone:Nat):Int):=by unfold Q2 at k⊢;split <;> omega
  rw[e];refine ζc ϱ (Xfw m i (Q2 i n m.gone) p ((h.grow f).grow b) hst (by unfold Q2;omega) (by omega)) ?_;rintro _ D ⟨G,rfl,s,t,u,y,z,A,B,c,C⟩;have a:=c.heap' l;refine ζa ϱ (ζs a ϱ λE j g q=>?_);exact ζR func161 j ϱ ⟨G,rfl,by unfold D7;rw[if_neg k];exact s,t,u,y,z,A,(B.keep a (by simp[Y8]) g),(((f.trans b).trans c).since g (λx F r=>by omega)),C.imp (λh=>h.back (f.trans b).size) id⟩
theorem XkY(r:RA)(f t size:Nat)(w:World)(h:Z0 w r)(hm:N5 r.bs.length f t size=true):Xf prog 168 #[.agg (Gw r).toArray,.int .i64 f,.int .i64 t,.int .i64 size] w
 (Grow (.tuple #[.agg (If ⟨r,f,t,size,0⟩).toArray,.int .i64 0]) w):=by
 have n:=h.len;have g:=Tt.1 hm;have o:Fl r.bs.length size f=true:=Te.2 (by omega);have p:Fl r.bs.length size t=true:=Te.2 (by omega);refine ζe func168 ntmps168 ϱ (ζn ϱ λrb F e1 q m D=>ζn ϱ λqb z e2 s d E=>?_);have e:=d.heap' q;refine ζf ϱ (ζl e ϱ (ζv (Xfv r f size z n (by omega)) ϱ λA b=>ζF ϱ (by rw[o];rfl) ?_));have i:=b.heap' e;refine ζl i ϱ (ζv (Xfv r t size A n (by omega)) ϱ λG c=>ζF ϱ (by rw[p];rfl) (ζj ϱ ?_));have j:=c.heap' i;have k:=c.heap' (b.heap' s);refine ζg ϱ (λu=>?_) λu=>?_
 ·have H:=of_decide_eq_true u;refine ζj ϱ (ζf ϱ (ζl j ϱ (ζb ϱ (ζs k ϱ λB a l v=>?_))));exact ζR func168 a ϱ ⟨rfl,((((m.trans d).trans b).trans c).since l (λx C y=>by omega))⟩
 ·refine ζl j ϱ (ζb ϱ (ζs k ϱ λB a l v=>?_));exact ζR func168 a ϱ ⟨rfl,((((m.trans d).trans b).trans c).since l (λx C y=>by omega))⟩
theorem XbR{f size:Nat}(hk:g+k<=size)(hf:f+size<=bs.length)(ht:t+size<=bs.length):(Ir bs f t g k).length=bs.length:=by
 unfold Ir;split
 ·rfl
 ·exact Pd (by omega) (by omega)
end Go.Proofs.YtohjeeapehmkcaaGreatDoor
