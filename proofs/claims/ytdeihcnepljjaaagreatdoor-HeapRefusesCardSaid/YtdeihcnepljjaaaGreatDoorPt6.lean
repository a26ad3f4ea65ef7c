/-
  Texts put together: Arena3, View5, View6, View7, View8, Laws21, Ref6, Few, Ref21, Ref21b, Ref21d, Cut16, Ref21e, Ref21f, Ref21g, Ref21h, Ref21i, Laws6b, Move, Move2, Lap, Laws15, Ref6b, Ref6c, Use, Use2, Laws6d, Act, Ref15, Laws15c, Stm.
-/
import Derived.Test.YtdeihcnepljjaaaGreatDoorPt5
import Derived.Lib.SliceRun
import Derived.Test.YtdeihcnepljjaaaGreatDoorQRule12
import Derived.Test.YtdeihcnepljjaaaGreatDoorQRule8
import Derived.Test.YtdeihcnepljjaaaGreatDoorQRule9
set_option linter.unusedVariables false
set_option maxRecDepth 100000
namespace Go.Proofs.YtdeihcnepljjaaaGreatDoor
open Go.RowKit
open Go renaming World→dD,Value→dE
open Bool renaming and_eq_true->XK
open Int renaming toNat_natCast->XB,eq_ofNat_of_zero_le->XE,mul_le_mul_of_nonneg_right->ZD,mul_le_mul->ZG,mul_nonneg->ZJ,mul_comm->YQ,add_mul->QL,one_mul->QM
open List renaming getD_eq_getElem?_getD->XA,getElem?_eq_some_iff->XC,getElem?_eq_getElem->XD,length_set->XG,length_replicate->XI,map_append->XL,getElem_mem->XM,length_cons->XO,mem_map->XP,length_take->XX,take_append_drop->XY,getElem?_append_left->XZ,mem_of_mem_take->ZA,length_append->ZC,take_add_one->ZH,map_cons->ZK,take_length->ZL,mem_or_eq_of_mem_set->ZO,mem_cons_self->ZP,mem_of_mem_drop->ZT,drop_eq_getElem_cons->ZV,getElem?_set->ZX,flatMap_cons->ZY,map_set->ZZ,eq_of_mem_replicate->YA,length_eq_zero_iff->YB,mem_cons_of_mem->YC,getElem?_append_right->YD,set_append_left->YK,take_of_length_le->YP,getElem?_take->YV,range_succ->QB,any_eq_false->QE,sum_cons->QF,any_eq_true->QS,getElem_of_mem->QU,getD->QW,map_take->QZ
open Nat renaming le_refl->XF,zero_le->XQ,zero_add->XT,le_trans->ZN,div_add_mod->QA,mul_comm->QC,mod_lt->QJ,strongRecOn->QQ
open Option renaming map_some->QY
open Go.Proofs.Tryz (func107 func109 func125 func127 func150 func151 func153 func158 func164 func167 func169 func172 func194 func202 func203 func207 func209 func213 func214 func222 func223 func224 func233 func253 func254 func258 func261 func262 func263 func272 func300 func303 func304 func319 func7 ntmps107 ntmps109 ntmps125 ntmps127 ntmps150 ntmps151 ntmps153 ntmps158 ntmps164 ntmps167 ntmps169 ntmps172 ntmps194 ntmps202 ntmps203 ntmps207 ntmps209 ntmps213 ntmps214 ntmps222 ntmps223 ntmps224 ntmps233 ntmps253 ntmps254 ntmps258 ntmps261 ntmps262 ntmps263 ntmps272 ntmps300 ntmps303 ntmps304 ntmps319 ntmps7 prog)
variable {A:Ar}{V:ArV}{c:Conf}{l':IL}{ahead by' cS h cH size cN u who z:Int}{lg:List (Nat×List Nat)}{ps:List IL}{bs l p zs:List Int}{l2 ws:List Nat}{cs rest xs:List dE}{N at' b base cap d fuel g i j k lm lo m n o qb sz t tm ty vb xb y:Nat}{fz:Nat×Nat}{f:Nat->Int}{G:Nat->Pg}{B C F F' Fr Q S S' T X:Nat->Prop}{pd pd2:Option (Nat×PlcM)}{a:Option Addr}{pg:PgL}{pl':PlM}{q:Plc}{R:Rm}{M:RmM}{x x':Sm}{α:Type}{v:dE}{w w' w'' w0 w1 w2:dD}{cells:α->List dE}
theorem Xif(A:Ar)(V:ArV)(i n:Nat)(w:dD)(h:X8 w A V)(ht:i+n<=V.bs.length):Xf prog 281 #[.pointer (some ⟨A.ab,0,none⟩),.int .i64 i,.int .i64 n] w
 (λv w'=>∃x,v=.tuple #[.slice x n (V.bs.length-i),.int .i64 0]/\(0<n->x=some ⟨A.db,i,none⟩)/\x.isSome=true/\w=w'):=
 (Xdn A V i n w h ht).mono λ_ _ ⟨a,b⟩=>⟨_,a,λc=>XgM ht c,by unfold Aa;split <;> rfl,b⟩
theorem Xdm(A:Ar)(V:ArV)(t f n:Nat)(w:dD)(h:X8 w A V)(hf:f+n<=V.bs.length)(ht:t+n<=V.bs.length):Xf prog 254 #[.pointer (some ⟨A.ab,0,none⟩),.int .i64 t,.int .i64 f,.int .i64 n] w (λv w'=>v=.int .i64 0/\X8 w' A {V.cT A n with bs:=Q4 V.bs t (sub V.bs f n)}/\Xc (Zy A) w w'):=by
 refine aR func254 ntmps254 aA (aP aA (Xif A V f n w h hf) ?_);rintro _ F ⟨y,rfl,z,_,rfl⟩;refine aN aA (aS aA (aP aA (Tf A V t n w h ht) ?_));rintro _ B ⟨x,rfl,a,_,d,C⟩;refine aN aA ?_;have g:Xc (Zy A) w B:=C.mono λb _ o=>.inr o;have e1:=V.charge_bs A n;by_cases r:n=0
 .refine Xa.copy0 Xb rfl (by simp[r]) rfl ?_;subst r;have p:sub V.bs f 0=[]:=by simp[sub]
  exact bE func254 aA ⟨rfl,by rw[p,V3,<-V.charge_bs A 0];exact d,g⟩
 .have s:=a (by omega);have u:=z (by omega);subst s u;have j:=d.sub (i:=f) (n:=n) (x:=some ⟨A.db,f,none⟩) (λ_=>rfl) (by rw[e1];exact hf);rw[e1] at j;have k:=d.dat;rw[e1] at k;have c:=Hf hf;refine Xa.copy Xb rfl k (cs:=(sub V.bs f n).map (Value.int .u8)) (by simp[c]) j.cells (by simp[c];omega) J1 λG l m E=>aN aA ?_;have q:(V.bs.map (Value.int .u8)).take t++(sub V.bs f n).map (Value.int .u8)++(V.bs.map (Value.int .u8)).drop (t+((sub V.bs f n).map (Value.int .u8)).length)=(Q4 V.bs t (sub V.bs f n)).map (Value.int .u8):=by
   unfold Q4;simp[QZ,List.map_drop]
  rw[q] at l;have D:=d.laid l m (by rw[Jm (by rw[c];exact ht),e1]) (λx a=>(Nu a).elim (h.rng x) (λa=>h.rng x (ZT (ZA a))));exact bE func254 aA ⟨rfl,D,g.trans (m.mono λb _ o=>.inl o)⟩
theorem Nt(h:i+l.length<=bs.length):(Q4 bs i l).getD j 0=if j<i then bs.getD j 0 else if j<i+l.length then l.getD (j-i) 0 else bs.getD j 0:=by
 unfold Q4;simp only[XA];by_cases a:j<i
 .rw[bK a,List.append_assoc,XZ (by simp;omega),YV,bK a]
 .rw[bJ a];by_cases b:j<i+l.length
  .rw[bK b,XZ (by simp;omega),YD (by simp;omega)];simp[show min i bs.length=i from by omega]
  .rw[bJ b,YD (by simp;omega)];simp only[ZC,XX,List.getElem?_drop,show min i bs.length=i from by omega];rw[show i+l.length+(j-(i+l.length))=j from by omega]
theorem Xee{a b:List Int}(hl:a.length=b.length)(h:∀j,j<a.length->a.getD j 0=b.getD j 0):a=b:=by
 apply List.ext_getElem hl
 intro j c d;have:=h j c
 simpa [QW,c,d] using this
theorem XmE{x:Int}(hi:i<l.length):(l.set i x).getD j 0=if j=i then x else l.getD j 0:=by
 simp only[XA,ZX];by_cases h:i=j
 .subst h;simp[hi]
 .rw[bJ h,bJ (Ne.symm h)]
theorem Vg:∀(l:List dE) (i:Nat) (v:dE),i<l.length->Z4 l i [v]=some (l.set i v)
 |x::r,0,v,_=>by simp[Z4]
 |x::r,i+1,v,h=>by simp[Z4,Vg r i v (by simpa using h)]
theorem XmC{x:Int}(hi:i<l.length):Z4 (l.map (Value.int .u8)) i [.int .u8 x]=some ((l.set i x).map (Value.int .u8)):=by
 rw[Vg _ _ _ (by simpa using hi),ZZ]
theorem Xoc:IntKind.u8.wrap z=z%256:=by
 simp only[IntKind.wrap,IntKind.signed,IntKind.bits]
 simp
def Et(bs:List Int)(i:Nat)(l:List Int)(k:Nat):List Int:=Q4 bs i (l.take k)
theorem Xbs(h:i+l.length<=bs.length)(hk:k<l.length):(Et bs i l k).set (i+k) (l.getD k 0)=Et bs i l (k+1):=by
 unfold Et;have n:(l.take k).length=k:=by simp;omega
 have o:(l.take (k+1)).length=k+1:=by simp;omega
 have c:(Q4 bs i (l.take k)).length=bs.length:=Jm (by omega);have d:(Q4 bs i (l.take (k+1))).length=bs.length:=Jm (by omega);refine Xee (by simp[c,d]) λj p=>?_;have f:∀m,m<k->(l.take k).getD m 0=l.getD m 0:=λm hm=>by simp[QW,hm]
 have a:∀m,m<k+1->(l.take (k+1)).getD m 0=l.getD m 0:=λm hm=>by simp[QW,hm]
 rw[XmE (by omega),Nt (by omega),Nt (by omega),n,o];by_cases e:j=i+k
 .subst e;rw[bK rfl,bJ (by omega),bK (by omega),show i+k-i=k from by omega,a k (by omega)]
 .rw[bJ e];by_cases b:j<i
  .rw[bK b,bK b]
  .rw[bJ b,bJ b];by_cases g:j<i+k
   .rw[bK g,bK (by omega),f _ (by omega),a _ (by omega)]
   .rw[bJ g,bJ (by omega)]
theorem Xbt:Et bs i l 0=bs:=by unfold Et;simp[V3]
theorem Xfs:Et bs i l l.length=Q4 bs i l:=by unfold Et;rw[ZL]
theorem Ry(h:i+l.length<=bs.length):(Et bs i l k).length=bs.length:=Jm (by simp;omega)
theorem XkR(h:Qi bs)(h':Qi l):Qi (Et bs i l k):=λx a=>(Nu a).elim (h x) (λa=>h' x (ZA a))
theorem XkC{c:Int}(h:0<=c/\c<256):K8 .or .u8 0 c=c:=by
 obtain⟨c,rfl⟩:=XE h.1;have a:(BitVec.ofInt 8 (0:Int)|||BitVec.ofInt 8 (c:Int)).toNat=c:=by
  rw[BitVec.toNat_or,BitVec.toNat_ofInt,BitVec.toNat_ofInt];rw[show((c:Int)%((2^8:Nat):Int)).toNat=c from by omega]
  simp
 change IntKind.u8.wrap ((BitVec.ofInt 8 (0:Int)|||BitVec.ofInt 8 (c:Int)).toNat:Int)=_
 rw[a,Xoc];omega
theorem XiN(h:X8 w A V)(hj:j<V.bs.length):w.cell? ⟨A.db,j,none⟩=some (.int .u8 (V.bs.getD j 0)):=by
 rw[Ys h.dat];simp[hj]
theorem Xia(A:Ar)(V:ArV)(i n:Nat)(c:Int)(w:dD)(h:X8 w A V)(ht:i+n<=V.bs.length)(hc:0<=c/\c<256):Xf prog 172 #[.pointer (some ⟨A.ab,0,none⟩),.int .i64 i,.int .i64 n,.int .u8 c] w (λv w'=>v=.int .i64 0/\X8 w' A {V.cT A n with bs:=Q4 V.bs i (List.replicate n c)}/\Xc (Zy A) w w'):=by
 have W:=h.len;refine aR func172 ntmps172 aA (aP aA (Tf A V i n w h ht) ?_);rintro _ w1 ⟨x,rfl,a,_,D,hs⟩;refine aN aA ?_;have q:Xc (Zy A) w w1:=hs.mono λb _ g=>.inr g;have e1:=V.charge_bs A n;by_cases K:n=0
 .refine Xa.clear0 Xb rfl K rfl (Xa.unroll Xb rfl (aS aA ?_));subst K;exact bE func172 aA ⟨rfl,by rw[List.replicate_zero,V3,<-V.charge_bs A 0];exact D,q⟩
 .have L:=a (by omega);subst L;have r:=D.dat;rw[e1] at r;have M:(List.replicate n (0:Int)).length=n:=XI;have N:(List.replicate n c).length=n:=XI;refine Xa.clear Xb rfl r rfl rfl (by omega) (by simp;omega) λw2 s t a6=>aN aA ?_;have E:(V.bs.map (Value.int .u8)).take i++List.replicate n (Value.int .u8 0)++(V.bs.map (Value.int .u8)).drop (i+n)=(Q4 V.bs i (List.replicate n 0)).map (Value.int .u8):=by
   unfold Q4;simp[QZ,List.map_drop]
  rw[E] at s;have u:Qi (List.replicate n (0:Int)):=λx a=>by rw[YA a];omega
  have O:Qi (List.replicate n c):=λx a=>by rw[YA a];exact hc
  have P:=D.laid s t (by rw[Jm (by omega),e1]) (λx a=>(Nu a).elim (h.rng x) (u x));have F:Xc (Zy A) w w2:=q.trans (t.mono λb _ g=>.inl g);obtain⟨d,f⟩:∃d,d=Q4 V.bs i (List.replicate n 0):=⟨_,rfl⟩;rw[<-f] at P;have m:d.length=V.bs.length:=by rw[f,Jm (by omega)]
  have G:Qi d:=λx a=>by rw[f] at a;exact(Nu a).elim (h.rng x) (u x)
  refine Xa.loop (α:=Nat) (λk=>[(3,false,.int .u8 c),(9,false,.slice (some ⟨A.db,i,none⟩) n (V.bs.length-i)),(10,false,.int .i64 0),(21,false,.int .i64 n),(22,false,.int .i64 k)])
   (λk w'=>X8 w' A {V.cT A n with bs:=Et d i (List.replicate n c) k}/\Xc (Zy A) w w'/\k<=n) (λk=>n-k) 0 ⟨rfl,rfl,rfl,rfl,rfl,trivial⟩ ⟨by rw[Xbt];exact P,F,by omega⟩ ?_
  rintro k w3 ⟨o,y,hk⟩ ih;refine aN aA (aT aA (λH=>?_) λH=>?_)
  .have z:k<n:=by have:=bL H;omega
   have B:(Et d i (List.replicate n c) k).length=V.bs.length:=by rw[Ry (by omega),m]
   have Q:(Et d i (List.replicate n c) k).getD (i+k) 0=0:=by
    unfold Et;rw[Nt (by simp;omega),bJ (by omega),bJ (by simp;omega),f,Nt (by omega),bJ (by omega),bK (by omega)];simp[QW,z]
   have p:w3.cell? ⟨A.db,i+k,none⟩=some (.int .u8 0):=by rw[<-Q];exact XiN (j:=i+k) o (by simp only[B];omega)
   refine aU k aA (aW aA p aA (Xa.bits Xb rfl (XkC hc) rfl (aU k aA (aL aA o.dat (XmC (by simp only[B];omega)) aA λw4 R C a7=>?_))));have I:w4.heap[A.db]?=some (.cells ((Et d i (List.replicate n c) (k+1)).map (Value.int .u8)).toArray 5 (0,0)):=by
    rw[<-Xbs (l:=List.replicate n c) (i:=i) (bs:=d) (k:=k) (by omega) (by omega),show(List.replicate n c).getD k 0=c from by simp[QW,z]];exact R
   have h4:=o.laid I C (by simp only;rw[Ry (by omega),Ry (by omega)]) (XkR G O);exact aV aA (ih (k+1) _ _ ⟨h4,y.trans (C.mono λb _ g=>.inl g),by omega⟩ (by omega) ⟨rfl,rfl,rfl,rfl,rfl,trivial⟩)
  .have S:k=n:=by have:=bM H;omega
   subst S;have J:Et d i (List.replicate k c) k=Q4 V.bs i (List.replicate k c):=by
    refine Xee (by rw[Ry (by omega),Jm (by omega),m]) λj hj=>?_;unfold Et;rw[show(List.replicate k c).take k=List.replicate k c from by simp,Nt (by omega),Nt (by omega),f,Nt (by omega)];by_cases T:j<i
    .simp only[bK T]
    .simp only[bJ T,N,M];by_cases U:j<i+k
     .simp only[bK U]
     .simp only[bJ U]
   rw[J] at o;exact bE func172 aA ⟨rfl,o,y⟩
theorem Rz(hm:Zb c=true)(hck:Qt c q at' n=0)(hfew:q.bS.length<=4096):∀p∈Zw c q at' n,∃i m:Nat,p=((i:Int),(m:Int))/\((i+m:Nat):Int)<=c.size*c.bS:=by
 obtain⟨D,E,F⟩:=D9 hm;have d:Yk c q=true:=by
  cases d:Yk c q with
  |true=>rfl
  |false=>unfold Qt at hck;rw[bK d] at hck;cases hck
 have w:¬((at':Int)<0\/(n:Int)<0\/Z5 c q<n\/Z5 c q-n<at'):=λh=>by
  unfold Qt at hck;rw[bJ (by rw[d];decide),bK h] at hck;cases hck
 intro p f;unfold Zw at f;split at f
 .rename_i b
  obtain⟨s,r,rfl⟩:=XP.1 f;obtain⟨x,j⟩:=T6 d b;have t:Z5 c q=(q.bS.length:Int)*c.size:=by unfold Z5;rw[bK d,bK b]
  obtain⟨sz,k⟩:=XE (show 0<=c.size by omega);rw[show c.size.toNat=sz from by omega] at r;obtain⟨G,H,I,J⟩:=Xcg (cR:=sz) (by omega) n at' s r;have l:s.1<q.bS.length:=by
   have y:(s.1*sz:Nat)<q.bS.length*sz:=by
    have:((q.bS.length*sz:Nat):Int)=(q.bS.length:Int)*c.size:=by rw[k];rfl
    omega
   exact Nat.lt_of_mul_lt_mul_right y
  have u:=j _ (show q.bS.getD s.1 0∈q.bS by rw[XA,XD l];exact XM l);obtain⟨g,z⟩:=XE u.1;refine⟨g*sz+s.2.1,s.2.2,?_,?_⟩
  .rw[z,k];rfl
  .have e2:(g:Int)*c.size+c.size<=c.size*c.bS:=by
    have:((g:Int)+1)*c.size<=c.bS*c.size:=ZD (by omega) (by omega);rw[QL,QM,YQ c.bS] at this;exact this
   have e3:((g*sz:Nat):Int)=(g:Int)*c.size:=by rw[k];rfl
   omega
 .rename_i b
  simp at f;subst f;obtain⟨kk,pg,ix,o,j,v,B,K,L,M,N,O,P,Q⟩:=If hm d b;have C:Ai c q=(pg:Int)*c.size+(ix:Int)*Ya c kk:=by unfold Ai;rw[bK ⟨d,b⟩,o,j,v]
  have t:Z5 c q=Ya c kk:=by unfold Z5;rw[bK d,bJ b,o]
  obtain⟨a,A⟩:=XE (show 0<=Ai c q by omega);exact⟨a+at',n,by rw[A];rfl,by omega⟩
def Iu(q:Plc)(A:Ar)(V:ArV)(ps:List (Int×Int)):Nat->ArV
 |0=>V
 |k+1=>(B7 q A (Iu q A V ps k)).cT A (ps.getD k (0,0)).2
theorem Tq(q:Plc)(A:Ar)(V:ArV):(B7 q A V).bs=V.bs:=by unfold B7;split;exact V.charge_bs A 1;rfl
theorem XcO(q:Plc)(A:Ar)(V:ArV)(ps:List (Int×Int)):∀k,(Iu q A V ps k).bs=V.bs
 |0=>rfl
 |k+1=>by unfold Iu;rw[ArV.charge_bs,Tq,XcO q A V ps k]
def Ea(bs:List Int)(ps:List (Int×Int)):List Int:=ps.flatMap λp=>sub bs p.1.toNat p.2.toNat
theorem Xn0(v:Vw)(vb ob:Nat)(A:Ar)(V:ArV)(i m base j:Nat)(u:dE)(xs:List Int)(w:dD)(hvb:G9 w vb v)(hv:w.heap[v.vb]?=some (.cells (Nr v).toArray 226 (0,0)))(hab:v.ab=A.ab)(hob:w.heap[ob]?=some (.cells ([u]:List dE).toArray 30 (0,0)))(hown:Xl base 5 1 w u j (xs.map (Value.int .u8)))(hbase:base<=w.heap.size)(hobb:ob<base)(hA:X8 w A V)(him:i+m<=V.bs.length)(hj:j+m<=16777216)(hmo:∀z,Yv A z->z≠ob/\z<base)(hArow:∀b,b=A.ab\/b=A.db\/b=A.mc\/A.mb=some b->some b=u.ownBlock->False)(hAob:∀b,b=A.ab\/b=A.db\/b=A.mc\/A.mb=some b->b=ob->False):Xf prog 164 #[.int .i64 i,.int .i64 m,.pointer (some ⟨vb,0,none⟩),.pointer (some ⟨ob,0,none⟩)] w (λ_ w'=>X8 w' A (V.cT A m)/\Xc (λz=>z=ob\/some z=u.ownBlock\/Yv A z) w w'/\
  ∃u',w'.heap[ob]?=some (.cells ([u']:List dE).toArray 30 (0,0))/\Xl base 5 1 w' u' (j+m) ((xs++sub V.bs i m).map (Value.int .u8))/\∀z,some z=u'.ownBlock->some z=u.ownBlock\/w.heap.size<=z):=by
 have O:maxLen=9223372036854775807:=rfl;refine aR func164 ntmps164 aA (bB hvb aA (bB hv aA ?_));rw[hab];refine aP aA (Xic A V i m w hA him) ?_;rintro _ J ⟨Q,rfl,⟨g,cap,cur,rfl,R,G,H,y⟩,B,f⟩;refine aN aA ?_;have r:=Hf him;have n:=f.heap hob (λe=>(hmo _ e).1 rfl);have s:=hown.bR f (λb a e=>by have:=(World.ownsRow.lt hown b a.symm).1;have:=(hmo _ e).2;omega);rw[r] at H y⊢;have K:=f.size;have t:∀k x,((sub V.bs i m).map (Value.int .u8))[k]?=some x->J.cell? ((⟨g,0,none⟩:Addr).add k)=some x:=λk x D=>by
  rw[Cr,Ys G];have L:k<m:=by have:=(XC.1 D).1;simpa [r] using this
  rw[<-y,YV,bK L] at D
  simpa using D
 refine bB n aA (Xa.append (base:=base) (news:=(sub V.bs i m).map (Value.int .u8)) Xb rfl s (by omega) (by simp[r]) t J1 (by simp only;omega) λS T l d C=>?_);rcases l.2 with⟨o,P⟩|⟨U,M,N,o,_⟩
 .subst o;refine aN aA ?_;refine bF (d.heap n (λe=>by have:=(World.ownsRow.lt s _ e.symm).1;omega)) aA λE p c I=>?_;have F:Xc (λz=>z=ob\/some z=u.ownBlock\/Yv A z) w E:=((f.mono λz _ h=>.inr (.inr h)).trans (d.mono λz _ h=>.inr (.inl h))).trans (c.mono λz _ h=>.inl h);exact bE func164 aA ⟨((B.bR d (λb a e=>hArow b a e)).bR c (λb a e=>hAob b a e)),F,_,p,by rw[XL];exact(l.bR c (λb a e=>by have:=(World.ownsRow.lt l b a.symm).1;omega)),λz q=>by rcases C.2 with h|h;exact .inl (q.trans h);exact .inr (by rw[h] at q;cases q;omega)⟩
 .subst o;refine aN aA ?_;refine bF (d.heap n (λe=>by have:=(World.ownsRow.lt s _ e.symm).1;omega)) aA λE p c I=>?_;have F:Xc (λz=>z=ob\/some z=u.ownBlock\/Yv A z) w E:=((f.mono λz _ h=>.inr (.inr h)).trans (d.mono λz _ h=>.inr (.inl h))).trans (c.mono λz _ h=>.inl h);exact bE func164 aA ⟨((B.bR d (λb a e=>hArow b a e)).bR c (λb a e=>hAob b a e)),F,_,p,by rw[XL];exact(l.bR c (λb a e=>by have:=(World.ownsRow.lt l b a.symm).1;omega)),λz q=>by rcases C.2 with h|h;exact .inl (q.trans h);exact .inr (by rw[h] at q;cases q;omega)⟩
theorem Xng{cR:Nat}(hp:1<=cR):∀(n at':Nat),((Z0 at' n cR).map λs=>s.2.2).sum=n:=by
 intro n
 induction n using QQ with
 |_ n ih=>
  intro at';by_cases a:n=0
  .subst a;rfl
  .have b:=Kk (at':=at') hp (show 0<n by omega);rw[Ls hp (by omega),ZK,QF,ih _ (by omega)];unfold Dr;simp only
   omega
def Zo(ps:List (Int×Int)):Nat:=(ps.map λp=>p.2.toNat).sum
theorem Xhl(p:Int×Int)(ps:List (Int×Int)):Zo (p::ps)=p.2.toNat+Zo ps:=by simp[Zo]
theorem Vy(a b:List (Int×Int)):Zo (a++b)=Zo a+Zo b:=by simp[Zo]
theorem O4(hm:Zb c=true):Zo (Zw c q at' n)=n:=by
 obtain⟨a,b,d⟩:=D9 hm;unfold Zw;split
 .unfold Zo;rw[List.map_map];have:=Xng (cR:=c.size.toNat) (by omega) n at';exact this
 .simp[Zo]
theorem Sq{ps:List (Int×Int)}(h:k<ps.length):Zo (ps.take k)+ps[k].2.toNat<=Zo ps:=by
 have e:ps=ps.take k++ps[k]::ps.drop (k+1):=by rw[<-ZV h,XY]
 have e2:Zo ps=Zo (ps.take k)+(ps[k].2.toNat+Zo (ps.drop (k+1))):=by
  conv=>lhs;rw[e]
  rw[Vy,Xhl]
 omega
theorem XfF{bs:List Int}{N:Nat}(hN:bs.length=N):∀{ps:List (Int×Int)},(∀p∈ps,∃i m:Nat,p=((i:Int),(m:Int))/\i+m<=N)->(Ea bs ps).length=Zo ps
 |[],_=>rfl
 |p::r,h=>by
  obtain⟨i,m,rfl,b⟩:=h p ZP;rw[Xhl];unfold Ea;rw[ZY,ZC];have:=XfF hN (ps:=r) (λp a=>h p (YC _ a));unfold Ea at this;rw[this];simp only[XB];rw[Hf (by omega)]
theorem Xhw{ps:List (Int×Int)}(h:k<ps.length):Iu q A V ps (k+1)=(B7 q A (Iu q A V ps k)).cT A ps[k].2:=by
 show(B7 q A (Iu q A V ps k)).cT A (ps.getD k (0,0)).2=_
 rw[XA,XD h];rfl
theorem XnZ(v:Vw)(q:Plc)(at' n:Nat)(A:Ar)(V:ArV)(w:dD)(hv:Bp w v)(hq:Zp w q)(hmb:v.mb=A.mb)(hab:v.ab=A.ab)(hck:Qt v.c q at' n=0)(hfew:q.bS.length<=4096)(hPv:¬Yv A v.vb)(hPq:0<q.bS.length->Xj (Yv A) q.pa)(hPc:0<v.c.bT.length->Xj (Yv A) v.p.ca)(hPk:0<v.c.bV.length->Xj (Yv A) v.p.ka)(hA:X8 w A V)(hlen:(V.bs.length:Int)=v.c.size*v.c.bS):Xf prog 107 #[Fz v,.agg (Xv q).toArray,.int .i64 at',.int .i64 n] w (λu w'=>∃u1,u=.tuple #[u1,.int .i64 0]/\X8 w' A (Iu q A V (Zw v.c q at' n) (Zw v.c q at' n).length)/\Xc (Yv A) w w'/\
  Xl w.heap.size 5 1 w' u1 (Ea V.bs (Zw v.c q at' n)).length ((Ea V.bs (Zw v.c q at' n)).map (Value.int .u8))):=by
 obtain⟨ps,l⟩:∃ps,ps=Zw v.c q at' n:=⟨_,rfl⟩;have E:∀p∈ps,∃i m:Nat,p=((i:Int),(m:Int))/\i+m<=V.bs.length:=λp r=>by
  obtain⟨i,m,o,d⟩:=Rz hv.may hck hfew p (l▸r);exact⟨i,m,o,by omega⟩
 have af:Zo ps=n:=by rw[l];exact O4 hv.may
 have ak:=K2 (c:=v.c) (q:=q) hv.may hfew;have hn:n<=16777216:=by
  unfold Qt at hck;split at hck
  .cases hck
  .split at hck
   .cases hck
   .omega
 rw[<-l];refine Xf.enter func107 rfl ntmps107 rfl rfl ?_;refine aN rfl ?_;refine Xa.alloc Xb rfl ?_;intro vb w1 e1 W a0 al;refine aN rfl ?_;refine Xa.alloc Xb rfl ?_;intro qb w2 e2 F N am;refine aN rfl ?_;refine Xa.alloc Xb rfl ?_;intro ob s e3 a6 G an;refine aN rfl ?_;replace F:Je w2 qb q:=F;have H:=(a0.trans N).trans G;have I:G9 s vb v:=(N.trans G).bP W;refine Xa.cJ Xb rfl I rfl rfl ?_;refine Xa.loads Xb rfl (G.bP F) rfl rfl ?_;have f:=hA.mlt;have ao:=Xg hv.obj;have hE:=XcM v q at' n 164 [.pointer (some ⟨vb,0,none⟩),.pointer (some ⟨ob,0,none⟩)] A (Iu q A V ps)
  (λk Y x=>∃u,x.heap[ob]?=some (.cells ([u]:List dE).toArray 30 (0,0))/\Xl s.heap.size 5 1 x u (Ea V.bs (ps.take k)).length ((Ea V.bs (ps.take k)).map (Value.int .u8))/\
   (∀z,Y z↔z=ob\/some z=u.ownBlock\/Yv A z)/\G9 x vb v/\x.heap[v.vb]?=some (.cells (Nr v).toArray 226 (0,0))/\s.heap.size<=x.heap.size)
  (λz=>z=ob\/Yv A z) s (hv.bQ H) (hq.bQ H) hmb hck hfew
  (by rintro((h|h)|h);omega;exact hPv h;exact hPv h)
  (hq.rd.outNew hPq (λz a=>by rcases a with(h|h)|h;exact .inr (by omega);exact .inl h;exact .inl h))
  (hv.cO.bT.outNew hPc (λz a=>by rcases a with(h|h)|h;exact .inr (by omega);exact .inl h;exact .inl h))
  (hv.cO.bV.outNew hPk (λz a=>by rcases a with(h|h)|h;exact .inr (by omega);exact .inl h;exact .inl h))
  (by
   rintro k Y x ⟨u,o,d,j,t,B,C⟩ z a;rcases(j z).1 a with rfl|h|h
   .exact Xg o
   .exact(World.ownsRow.lt d z h.symm).2
   .have:=f z h;omega)
  (by
   rintro k Y x y S ⟨u,o,d,j,t,B,C⟩ J hS;have no:∀z,z<s.heap.size -> ¬Yv A z -> ¬S z:=λz a hm h=>(hS z h).elim hm (λh=>by omega);exact⟨u,J.heap o (no _ (by omega) (λh=>by have:=f _ h;omega)),d.bR J (λb D h=>by
    have ap:=World.ownsRow.lt d b D.symm;rcases hS b h with hm|hm
    .have:=f b hm;omega
    .exact hm.1 ((j b).2 (.inr (.inl D)))),j,J.heap t (no _ (by omega) (λh=>by have:=f _ h;omega)),J.heap B (no _ (by omega) hPv),ZN C J.size⟩)
  (by
   rintro k Y x K a9 ⟨u,o,d,j,t,B,C⟩;rw[<-l] at K;obtain⟨i,m,r,O⟩:=E ps[k] (XM K);have P:(B7 q A (Iu q A V ps k)).bs=V.bs:=by rw[Tq,XcO]
   have aq:(Ea V.bs (ps.take k)).length=Zo (ps.take k):=XfF rfl (λp r=>E p (ZA r));have Q:=Sq K;rw[r] at Q;simp only[XB] at Q;have R:∀b,b=A.ab\/b=A.db\/b=A.mc\/A.mb=some b->b<w.heap.size:=hA.blt;have hR:=Xn0 v vb ob A (B7 q A (Iu q A V ps k)) i m s.heap.size (Ea V.bs (ps.take k)).length u (Ea V.bs (ps.take k)) x t B hab o d C (by omega) a9 (by rw[P];exact O) (by omega)
    (λz a=>by have:=f z a;omega) (λb D e=>by have:=R b D;have:=(World.ownsRow.lt d b e.symm).1;omega) (λb D e=>by have:=R b D;omega)
   simp only[<-l];rw[r];refine hR.mono λ_ y ⟨T,L,u',U,a4,a5⟩=>?_;rw[P] at a4;have M:Ea V.bs (ps.take (k+1))=Ea V.bs (ps.take k)++sub V.bs i m:=by
    rw[ZH,XD K,r];unfold Ea;rw[List.flatMap_append]
    simp
   refine⟨by rw[Xhw K,r];exact T,L.mono λz _ a=>(j z).2 a,λz=>z=ob\/some z=u'.ownBlock\/Yv A z,⟨u',U,?_,λz=>Iff.rfl,?_,?_,ZN C L.size⟩,λz a=>?_⟩
   .rw[M,ZC,Hf O];exact a4
   .exact L.heap t (λh=>by rcases h with h|h|h;omega;have:=(World.ownsRow.lt d _ h.symm).1;omega;have:=f _ h;omega)
   .exact L.heap B (λh=>by rcases h with h|h|h;omega;have:=(World.ownsRow.lt d _ h.symm).1;omega;exact hPv h)
   .rcases a with h|h|h
    .exact .inl ((j z).2 (.inl h))
    .rcases a5 z h with h|h
     .exact .inl ((j z).2 (.inr (.inl h)))
     .exact .inr h
    .exact .inl ((j z).2 (.inr (.inr h))))
  (hA.bQ H) ⟨.slice none 0 0,a6,World.ownsRow_nil _ _ _ _,λz=>⟨λh=>h.elim .inl (λh=>.inr (.inr h)),λh=>by rcases h with h|h|h;exact .inl h;cases h;exact .inr h⟩,I,H.bP hv.obj,XF _⟩
 rw[<-l] at hE;refine aP aA (hE) ?_;rintro _ w4 ⟨rfl,ac,⟨Y',⟨u,o,d,j,t,B,C⟩,ar⟩,ad⟩;refine aN aA ?_;rw[ZL] at d;have ae:Xc (Yv A) w w4:=H.gr.bU ad (λz a h=>by rcases h with(h|h)|h;omega;exact h;exact h);have ho:Xl w.heap.size 5 1 w4 u (Ea V.bs ps).length ((Ea V.bs ps).map (Value.int .u8)):=by
  refine⟨d.1,?_⟩;rcases d.2 with h|⟨g,cap,cur,T,L,U⟩
  .exact .inl h
  .exact .inr ⟨g,cap,cur,T,by omega,U⟩
 exact bB o aA (bE func107 aA ⟨u,rfl,ac,ae,ho⟩)
def B4(q:Plc)(A:Ar)(V:ArV)(ps:List (Int×Int))(l:List Int):Nat->ArV
 |0=>V
 |k+1=>{(B7 q A (B4 q A V ps l k)).cT A (ps.getD k (0,0)).2 with bs:=Q4 (B4 q A V ps l k).bs (ps.getD k (0,0)).1.toNat (sub l (Zo (ps.take k)) (ps.getD k (0,0)).2.toNat)}
theorem St{ps:List (Int×Int)}(h:k<ps.length)(hp:ps[k]=((i:Int),(m:Int))):B4 q A V ps l (k+1)={(B7 q A (B4 q A V ps l k)).cT A m with bs:=Q4 (B4 q A V ps l k).bs i (sub l (Zo (ps.take k)) m)}:=by
 have a:ps.getD k (0,0)=((i:Int),(m:Int)):=by rw[XA,XD h,hp];rfl
 show({(B7 q A (B4 q A V ps l k)).cT A (ps.getD k (0,0)).2 with bs:=Q4 (B4 q A V ps l k).bs (ps.getD k (0,0)).1.toNat (sub l (Zo (ps.take k)) (ps.getD k (0,0)).2.toNat)}:ArV)=_
 rw[a];rfl
theorem XcQ{q:Plc}{A:Ar}{V:ArV}{ps:List (Int×Int)}{l:List Int}(hpin:∀p∈ps,∃i m:Nat,p=((i:Int),(m:Int))/\i+m<=V.bs.length)(htot:Zo ps=l.length):∀{k:Nat},k<=ps.length->(B4 q A V ps l k).bs.length=V.bs.length
 |0,_=>rfl
 |k+1,h=>by
  obtain⟨i,m,b,c⟩:=hpin ps[k] (XM h);have ih:=XcQ (q:=q) (A:=A) hpin htot (k:=k) (by omega);have a:=Sq h;rw[b] at a;simp only[XB] at a;rw[St h b];show(Q4 _ _ _).length=_
  rw[Jm (by rw[Hf (by omega),ih];exact c),ih]
theorem XmY{l:Nat}(h:Xj S a):Xj S (Aa a cap l sz):=by
 intro b off s e;unfold Aa at e;by_cases c:cap=l
 .rw[bK c] at e;exact h b off s e
 .rw[bJ c] at e;cases a with
  |none=>cases e
  |some x=>
   obtain⟨xb,xo,xs⟩:=x;simp only[QY,Option.some.injEq] at e;unfold Addr.add at e;have d:xb=b:=by
    split at e <;> (cases e;rfl)
   rw[<-d];exact(h xb xo xs rfl)
theorem Xn2(v:Vw)(vb bb:Nat)(A:Ar)(V:ArV)(i m:Nat)(a:Option Addr)(cap:Nat)(l:List Int)(w:dD)(hvb:G9 w vb v)(hv:w.heap[v.vb]?=some (.cells (Nr v).toArray 226 (0,0)))(hab:v.ab=A.ab)(hbb:w.heap[bb]?=some (.cells ([.slice a l.length cap]:List dE).toArray 30 (0,0)))(hr:Rd .u8 w a l)(hlc:l.length<=cap)(hin:Qi l)(hm:m<=l.length)(hA:X8 w A V)(him:i+m<=V.bs.length)(hfo:∀z,Zy A z->z≠bb)(hAb:∀b,b=A.ab\/b=A.db\/b=A.mc\/A.mb=some b->b≠bb)(S:Nat->Prop)(hS:∀z,z=bb\/Zy A z->S z)(hout:0<l.length->Xj S a):Xf prog 167 #[.int .i64 i,.int .i64 m,.pointer (some ⟨vb,0,none⟩),.pointer (some ⟨bb,0,none⟩)] w (λ_ w'=>X8 w' A {V.cT A m with bs:=Q4 V.bs i (l.take m)}/\Xc (λz=>z=bb\/Zy A z) w w'/\
  ∃a' cap',w'.heap[bb]?=some (.cells ([.slice a' (l.drop m).length cap']:List dE).toArray 30 (0,0))/\Rd .u8 w' a' (l.drop m)/\(l.drop m).length<=cap'/\(0<(l.drop m).length->Xj S a')):=by
 have j:(l.take m).length=m:=by simp;omega
 refine aR func167 ntmps167 aA (aQ 8 Xe (by kernel_rfl) aA λd=>aE d hvb aA (aE d hv aA (aE d hbb aA (Xd.slice Xb d rfl (l:=0) (h:=m) (by first|rfl|omega|simp[Dw]) (by first|rfl|omega|simp[Ds]) (by omega) (by omega) rfl (aF d aA λC c=>?_)))));rw[hab];have r:=hr.bR c;have k:=r.shift (l:=0) (m:=m) (by omega) hlc;rw[List.drop_zero] at k;have s:=Xid A V i (Aa a cap 0 1) (cap-0) (l.take m) C (hA.bQ c) k (λx D=>hin x (ZA D)) (by rw[j];exact him);rw[j] at s;refine aP aA s ?_;rintro _ G ⟨rfl,t,n⟩;refine aN aA ?_;have f:=n.heap (c.bP hbb) (λe=>hfo _ e rfl);refine bB f aA (Xa.slice Xb rfl (l:=m) (h:=l.length) (by first|rfl|omega|simp[Dw]) (by first|rfl|omega|simp[Ds]) (by omega) (by omega) rfl (bF f aA λu q o F=>?_));have g:(l.drop m).length=l.length-m:=by simp
 have y:Xc (λz=>z=bb\/Zy A z) w u:=(c.gr.trans (n.mono λ_ _ h=>.inr h)).trans (o.mono λ_ _ h=>.inl h);have B:Rd .u8 u a l:=hr.far' hout (y.mono λz _ h=>hS z h);have p:=B.shift (l:=m) (m:=l.length-m) (by omega) hlc;rw[YP (by rw[g];exact XF _)] at p;exact bE func167 aA ⟨t.bR o (λb E e=>hAb b E e),y,_,_,by rw[g];exact q,p,by rw[g];omega,λh=>XmY (hout (by omega))⟩
theorem foot_lt(h:X8 w A V):∀z,Zy A z->z<w.heap.size:=λz a=>h.blt z (a.elim (λe=>.inr (.inl e)) (λe=>.inr (.inr (.inr e))))
theorem Xn1(v:Vw)(q:Plc)(at':Nat)(a:Option Addr)(cap:Nat)(l:List Int)(A:Ar)(V:ArV)(w:dD)(hv:Bp w v)(hq:Zp w q)(hmb:v.mb=A.mb)(hab:v.ab=A.ab)(hck:Qt v.c q at' l.length=0)(hfew:q.bS.length<=4096)(hPv:¬Zy A v.vb)(hPq:0<q.bS.length->Xj (Zy A) q.pa)(hPc:0<v.c.bT.length->Xj (Zy A) v.p.ca)(hPk:0<v.c.bV.length->Xj (Zy A) v.p.ka)(hA:X8 w A V)(hlen:(V.bs.length:Int)=v.c.size*v.c.bS)(hr:Rd .u8 w a l)(hlc:l.length<=cap)(hin:Qi l)(hout:0<l.length->Xj (Zy A) a):Xf prog 109 #[Fz v,.agg (Xv q).toArray,.int .i64 at',.slice a l.length cap] w (λu w'=>u=.int .i64 0/\X8 w' A (B4 q A V (Zw v.c q at' l.length) l (Zw v.c q at' l.length).length)/\Xc (Zy A) w w'):=by
 obtain⟨ps,g⟩:∃ps,ps=Zw v.c q at' l.length:=⟨_,rfl⟩;have C:∀p∈ps,∃i m:Nat,p=((i:Int),(m:Int))/\i+m<=V.bs.length:=λp t=>by
  obtain⟨i,m,n,D⟩:=Rz hv.may hck hfew p (g▸t);exact⟨i,m,n,by omega⟩
 have T:Zo ps=l.length:=by rw[g];exact O4 hv.may
 rw[<-g];refine Xf.enter func109 rfl ntmps109 rfl rfl ?_;refine aN rfl ?_;refine Xa.alloc Xb rfl ?_;intro vb w1 e1 a4 a5 ar;refine aN rfl ?_;refine Xa.alloc Xb rfl ?_;intro qb w2 e2 E P au;refine aN rfl ?_;refine Xa.alloc Xb rfl ?_;intro bb j e3 r F av;refine aN rfl ?_;replace E:Je w2 qb q:=E;replace r:j.heap[bb]?=some (.cells ([.slice a l.length cap]:List dE).toArray 30 (0,0)):=r;have o:=(a5.trans P).trans F;have G:G9 j vb v:=(P.trans F).bP a4;refine Xa.cJ Xb rfl G rfl rfl ?_;refine Xa.loads Xb rfl (F.bP E) rfl rfl ?_;refine Xa.cJ Xb rfl r rfl rfl ?_;have f:=foot_lt hA;have d:∀z,Yv A z->Zy A z:=λz h=>.inr h;have aw:=Xg hv.obj;have a6:=hA.blt;have hE:=XcM v q at' l.length 167 [.pointer (some ⟨vb,0,none⟩),.pointer (some ⟨bb,0,none⟩)] A (B4 q A V ps l)
  (λk Y x=>∃a' cap',x.heap[bb]?=some (.cells ([.slice a' (l.drop (Zo (ps.take k))).length cap']:List dE).toArray 30 (0,0))/\Rd .u8 x a' (l.drop (Zo (ps.take k)))/\(l.drop (Zo (ps.take k))).length<=cap'/\
   (0<(l.drop (Zo (ps.take k))).length->Xj (λz=>z=bb\/Zy A z\/j.heap.size<=z) a')/\(∀z,Y z↔z=bb\/Zy A z)/\G9 x vb v/\x.heap[v.vb]?=some (.cells (Nr v).toArray 226 (0,0))/\j.heap.size<=x.heap.size)
  (λz=>z=bb\/Zy A z) j (hv.bQ o) (hq.bQ o) hmb hck hfew
  (by rintro((h|h)|h);omega;exact hPv h;exact hPv (d _ h))
  (hq.rd.outNew hPq (λz c=>by rcases c with(h|h)|h;exact .inr (by omega);exact .inl h;exact .inl (d _ h)))
  (hv.cO.bT.outNew hPc (λz c=>by rcases c with(h|h)|h;exact .inr (by omega);exact .inl h;exact .inl (d _ h)))
  (hv.cO.bV.outNew hPk (λz c=>by rcases c with(h|h)|h;exact .inr (by omega);exact .inl h;exact .inl (d _ h)))
  (by
   rintro k Y x ⟨a',cap',n,D,M,H,B,I,J,N⟩ z c;rcases(B z).1 c with rfl|h
   .exact Xg n
   .have:=f z h;omega)
  (by
   rintro k Y x y S ⟨a',cap',n,D,M,H,B,I,J,N⟩ K hS;have no:∀z,z<j.heap.size -> ¬Yv A z -> ¬S z:=λz c hm h=>(hS z h).elim hm (λh=>by omega);refine⟨a',cap',K.heap n (no _ (by omega) (λh=>by have:=f _ (d _ h);omega)),D.far' (λhl b off s e U=>H hl b off s e ((hS b U).elim (λh=>.inr (.inl (d _ h))) (λh=>.inr (.inr h.2)))) K,M,H,B,K.heap I (no _ (by omega) (λh=>by have:=f _ (d _ h);omega)),K.heap J (no _ (by omega) (λh=>hPv (d _ h))),ZN N K.size⟩)
  (by
   rintro k Y x L a9 ⟨a',cap',n,D,M,H,B,I,J,N⟩;rw[<-g] at L;obtain⟨i,m,t,aa⟩:=C ps[k] (XM L);have Q:(B7 q A (B4 q A V ps l k)).bs=(B4 q A V ps l k).bs:=Tq _ _ _;have W:(B4 q A V ps l k).bs.length=V.bs.length:=XcQ C T (by omega);have R:=Sq L;rw[t] at R;simp only[XB] at R;have ax:(l.drop (Zo (ps.take k))).length=l.length-Zo (ps.take k):=by simp
   have hR:=Xn2 v vb bb A (B7 q A (B4 q A V ps l k)) i m a' cap' (l.drop (Zo (ps.take k))) x I J hab n D M (λy hy=>hin y (ZT hy)) (by omega) a9 (by rw[Q,W];exact aa)
    (λz c=>by have:=f z c;omega) (λb U=>by have:=a6 b U;omega) (λz=>z=bb\/Zy A z\/j.heap.size<=z) (λz h=>h.imp id .inl) H
   simp only[<-g];rw[t];refine hR.mono λ_ y ⟨a1,O,a3,c3,b1,b2,b3,b4⟩=>?_;rw[Q] at a1;have a0:Zo (ps.take (k+1))=Zo (ps.take k)+m:=by
    rw[ZH,XD L,t,Vy];simp[Zo]
   have ag:(l.drop (Zo (ps.take k))).drop m=l.drop (Zo (ps.take (k+1))):=by rw[List.drop_drop,a0]
   rw[ag] at b1 b2 b3 b4;refine⟨by rw[St L t];exact a1,O.mono λz _ c=>(B z).2 c,λz=>z=bb\/Zy A z,⟨a3,c3,b1,b2,b3,b4,λz=>Iff.rfl,?_,?_,ZN N O.size⟩,λz c=>.inl ((B z).2 c)⟩
   .exact O.heap I (λh=>by rcases h with h|h;omega;have:=f _ h;omega)
   .exact O.heap J (λh=>by rcases h with h|h;omega;exact hPv h))
  (hA.bQ o) ⟨a,cap,by simpa [Zo] using r,by simpa [Zo] using hr.bR o,by simpa [Zo] using hlc,λh=>by
   have:=hr.outNew hout (S':=λz=>z=bb\/Zy A z\/j.heap.size<=z) (λz c=>by rcases c with h|h|h;exact .inr (by omega);exact .inl h;exact .inr (by have:=o.size;omega));exact this (by simpa [Zo] using h),λz=>Iff.rfl,G,o.bP hv.obj,XF _⟩
 rw[<-g] at hE;refine aP aA (hE) ?_;rintro _ w4 ⟨rfl,ah,_,ai⟩;refine aN aA ?_;have aj:Xc (Zy A) w w4:=o.gr.bU ai (λz c h=>by rcases h with(h|h)|h;omega;exact h;exact d _ h);exact bE func109 aA ⟨rfl,ah,aj⟩
structure RA where
 a:Option Addr
 cap:Nat
 bs:List Int
 cM:Int
def Ha(r:RA):List dE:=[.slice r.a r.bs.length r.cap,.int .i64 r.cM]
structure Yh(w:dD)(r:RA):Prop where
 rd:Rd .u8 w r.a r.bs
 len:r.bs.length<=4194304
 lc:r.bs.length<=r.cap
 rng:Qi r.bs
theorem Yh.bQ{r:RA}(h:Yh w r)(hc:Xc Xe w w'):Yh w' r:=⟨h.rd.bR hc,h.len,h.lc,h.rng⟩
theorem RdU.of{c:Array dE}{t:TypeId}(h:w.heap[b]?=some (.cells c t fz))(hc:c=(zs.map (Value.int .u8)).toArray):Rd .u8 w (some ⟨b,0,none⟩) zs:=λi a=>
 ⟨b,0,rfl,by rw[Ys h,hc];simp[a]⟩
theorem Xlp(p s:Int)(w:dD)(ht:N3 p s=true):Xf prog 127 #[.int .i64 p,.int .i64 s] w
 (λv w'=>∃b,v=.tuple #[.agg (Ha ⟨some ⟨b,0,none⟩,(p*s).toNat,X6 (p*s).toNat,0⟩).toArray,.int .i64 0]/\w.heap.size<=b/\Yh w' ⟨some ⟨b,0,none⟩,(p*s).toNat,X6 (p*s).toNat,0⟩/\Xc Xe w w'):=by
 have g:=Te.1 ht;have B:0<=p*s:=ZJ (by omega) (by omega);have C:p*s<=1024*4096:=ZG (by omega) (by omega) (by omega) (by omega);have a:(X6 (p*s).toNat).length=(p*s).toNat:=XI;refine aR func127 ntmps127 aA (bC aA λrb D e1 f h u=>aS aA (aS aA (aS aA (aS aA (Xa.div Xb rfl (by omega) (Hb (by omega)) rfl (aI aA (by simp;omega) (aV aA (Xa.make Xb (m:=(p*s).toNat) (k:=(p*s).toNat) rfl (by omega) (by omega) (XF _) (by simp only;omega) (by omega) λb E e2 i c y=>aN aA (aO aA (bF (c.bP f) aA λj l d z=>?_))))))))));have n:Xc Xe w j:=(h.trans c).sn d;have q:(Y3 (Yz (Value.int .u8 0)) (p*s).toNat)=(X6 (p*s).toNat).map (Value.int .u8):=V5 _;rw[q] at i;have r:=d.heap i (by omega);have t:Yh j ⟨some ⟨b,0,none⟩,(p*s).toNat,X6 (p*s).toNat,0⟩:=⟨RdU.of r rfl,by simp only[a];omega,by simp only[a];omega,λx o=>by rw[YA o];omega⟩;exact aK func127 l aA ⟨b,by unfold Ha;simp only[a];rfl,by omega,t,n⟩
def Mg(c:Conf):Bool:=Zb c && decide (c.size<=256) && decide (c.bS<=24) && decide (c.cN<=20)
theorem Xln(c:Conf)(p:Y4)(w:dD)(hc:Yu w c p):Xf prog 7 #[.agg (Zj c p).toArray] w (Grow (.bool (Mg c)) w):=by
 refine aR func7 ntmps7 aA (bC aA λcb j e1 d f k=>?_);refine bB d aA (bG (XbI c p j (hc.bR f)) aA λl g=>?_);have b:=f.trans g;have a:=g.bP d;unfold Mg;cases hm:Zb c with
 |false=>
  rw[show Bw c=1 from by unfold Bw;rw[hm];rfl];exact aS aA (bE func7 aA ⟨rfl,b⟩)
 |true=>
  rw[show Bw c=0 from by unfold Bw;rw[hm];rfl];refine bI aA (bB a aA (aT aA (λh=>?_) λh=>?_))
  .refine bB a aA ?_;rw[h];refine aT aA (λi=>?_) λi=>?_
   .refine bB a aA ?_;rw[i];exact bE func7 aA ⟨rfl,b⟩
   .rw[i];exact bE func7 aA ⟨rfl,b⟩
  .rw[h];exact bE func7 aA ⟨rfl,b⟩
theorem XiW(h:Mg c=true):Zb c=true/\c.size<=256/\c.bS<=24:=by
 unfold Mg at h;simp only[XK,decide_eq_true_eq] at h;exact⟨h.1.1.1,h.1.1.2,h.1.2⟩
theorem XbS(c:Conf)(p:Y4)(q:Plc)(w:dD)(hc:Yu w c p)(hq:Zp w q):Xf prog 222 #[.agg (Zj c p).toArray,.agg (Xv q).toArray] w (Grow (.bool (Yk c q)) w):=by
 have z:=hq.len;refine aR func222 ntmps222 aA (bC aA λcb W e1 K L S=>bC aA λqb M e2 f A T=>?_);have i:=L.trans A;have l:=A.bP K;have u:=hq.bQ i;obtain⟨cL,cR,idx,pa,pc,bS⟩:=q;replace f:M.heap[qb]?=some (.cells ([.int .i64 cL,.int .i64 cR,.int .i64 idx,.slice pa bS.length pc]:List dE).toArray 83 (0,0)):=f;replace u:=u.rd;replace z:bS.length<=9223372036854775807:=z;refine Xa.cJ Xb rfl f rfl rfl ?_;refine Xa.fork Xb rfl rfl rfl (λr=>?_) (λr=>?_)
 .have g:cL=-1:=by simpa using r
  have v:Yk c ⟨cL,cR,idx,pa,pc,bS⟩=(decide (0<bS.length) && !bS.any (λn=>!Bt n c.bS)):=by unfold Yk;simp only;rw[bK g]
  rw[v];refine Xa.loop (α:=Nat) (λk=>[(2,false,.pointer (some ⟨cb,0,none⟩)),(3,false,.pointer (some ⟨qb,0,none⟩)),(5,false,.int .i64 k)])
   (λk w'=>k<=bS.length/\Xc Xe M w'/\∀j (h:j<bS.length),j<k->Bt bS[j] c.bS=true) (λk=>bS.length-k) 0 ⟨rfl,rfl,rfl,trivial⟩ ⟨XQ _,Xc.refl _ _,λ_ _ h=>by omega⟩ ?_
  rintro k t ⟨hk,a,x⟩ ih;refine aN rfl ?_;refine Xa.cJ Xb rfl (a.bP f) rfl rfl ?_;refine Xa.fork Xb rfl rfl rfl (λB=>?_) (λB=>?_)
  .have o:k<bS.length:=by have:=bL B;omega
   obtain⟨b,off,rfl,m⟩:=(u.bR a) k o;have N:bS.getD k 0=bS[k]:=by rw[XA,XD o];rfl
   rw[N] at m;refine aQ 16 Xe (by kernel_rfl) aA λd=>aE d (a.bP f) aA (aB k d aA (aD d m aA ?_));refine Xd.fork Xb d rfl rfl rfl (λy=>?_) (λy=>?_)
   .have P:=bL y;refine aF d aA λQ s=>?_;exact Xa.ret1 Xb rfl func222 rfl rfl ⟨Q0 (by
     have:bS.any (λn=>!Bt n c.bS)=true:=QS.2 ⟨bS[k],XM o,by cases C:Bt bS[k] c.bS;rfl;have:=Mm.1 C;omega⟩;rw[this];simp),i.trans (a.trans s)⟩
   .have P:=bM y;refine aE d (a.bP f) aA (aB k d aA (aD d m aA (aE d (a.bP l) aA (aF d aA λQ s=>aT aA (λD=>?_) λD=>?_))))
    .have R:=bL D;exact Xa.ret1 Xb rfl func222 rfl rfl ⟨Q0 (by
      have:bS.any (λn=>!Bt n c.bS)=true:=QS.2 ⟨bS[k],XM o,by cases C:Bt bS[k] c.bS;rfl;have:=Mm.1 C;omega⟩;rw[this];simp),i.trans (a.trans s)⟩
    .have R:=bM D;refine aV aA ?_;exact ih (k+1) _ _ ⟨o,a.trans s,λj E U=>by
      by_cases e:j=k
      .subst e;exact Mm.2 ⟨by omega,by omega⟩
      .exact x j E (by omega)⟩ (by omega) ⟨rfl,rfl,rfl,trivial⟩
  .have V:k=bS.length:=by have:=bM B;omega
   refine bB (a.bP f) aA ?_;exact Xa.ret1 Xb rfl func222 rfl rfl ⟨Q0 (by
    have:bS.any (λn=>!Bt n c.bS)=false:=QE.2 (λn y=>by obtain⟨j,E,rfl⟩:=QU y;rw[x j E (by omega)];decide);rw[this,Bool.not_false,Bool.and_true];by_cases h:0<bS.length
    .rw[bN h,bN (by omega)]
    .rw[bO h,bO (by omega)]),i.trans a⟩
 .have g:¬cL=-1:=by simpa using r
  have v:Yk c ⟨cL,cR,idx,pa,pc,bS⟩=(Bt cL c.bT.length && Bt cR c.bS && Bt idx (A5 c cL)):=by unfold Yk;simp only;rw[bJ g]
  rw[v];unfold Bt;refine aQ 38 Xe (by kernel_rfl) aA λd=>aE d f aA ?_;refine Xd.fork Xb d rfl rfl rfl (λF=>?_) (λF=>?_)
  .rw[F];refine aE d f aA (aE d l aA ?_);refine Xd.fork Xb d rfl rfl rfl (λG=>?_) (λG=>?_)
   .rw[G];refine aE d f aA ?_;refine Xd.fork Xb d rfl rfl rfl (λH=>?_) (λH=>?_)
    .rw[H];refine aE d f aA (aE d l aA ?_);refine Xd.fork Xb d rfl rfl rfl (λI=>?_) (λI=>?_)
     .rw[I];refine aE d f aA ?_;refine Xd.fork Xb d rfl rfl rfl (λJ=>?_) (λJ=>?_)
      .rw[J];exact aE d f aA (aE d l aA (aE d f aA (aG d (λw' O=>XfH c p cL w' ((hc.bR i).bR O)) aA (aF d aA λt a=>bE func222 aA ⟨rfl,i.trans a⟩))))
      .rw[J];exact aF d aA λt a=>bE func222 aA ⟨rfl,i.trans a⟩
     .rw[I];exact aF d aA λt a=>bE func222 aA ⟨rfl,i.trans a⟩
    .rw[H];exact aF d aA λt a=>bE func222 aA ⟨rfl,i.trans a⟩
   .rw[G];exact aF d aA λt a=>bE func222 aA ⟨rfl,i.trans a⟩
  .rw[F];exact aF d aA λt a=>bE func222 aA ⟨rfl,i.trans a⟩
theorem XdS{p:Y4}(h:Yu w c p)(hk:k<c.bT.length):∃b off,p.ca=some ⟨b,off,none⟩/\w.cell? ⟨b,off+k,none⟩=some (.int .i64 (Ya c k)):=h.bT k hk
theorem XbR(c:Conf)(p:Y4)(q:Plc)(w:dD)(hc:Yu w c p)(hq:Zp w q)(hm:Zb c=true)(hfew:q.bS.length<=1000000000):Xf prog 209 #[.agg (Zj c p).toArray,.agg (Xv q).toArray] w (Grow (.int .i64 (Z5 c q)) w):=by
 obtain⟨E,F,G⟩:=D9 hm;refine aR func209 ntmps209 aA (bC aA λcb H e1 m s y=>bC aA λqb x e2 n f z=>?_);have r:=s.trans f;refine bB (f.bP m) aA (bB n aA (bG (XbS c p q x (hc.bR r) (hq.bQ r)) aA λI h=>?_));have d:=r.trans h;have i:=(f.trans h).bP m;have a:=h.bP n;cases l:Yk c q with
 |false=>
  exact bI aA (bE func209 aA ⟨Xz (by unfold Z5;rw[l];rfl),d⟩)
 |true=>
  refine aS aA (bB a aA (aT aA (λb=>?_) λb=>?_))
  .have g:q.cL=-1:=by simpa using b
   have A:0<=(q.bS.length:Int)*c.size:=ZJ (by omega) (by omega);have B:(q.bS.length:Int)*c.size<=1000000000*4096:=ZG (by omega) (by omega) (by omega) (by omega);refine Xa.cJ Xb rfl a rfl rfl ?_;refine Xa.cJ Xb rfl i rfl rfl ?_;refine Xa.arith Xb rfl (w64 (by omega)) rfl ?_;exact bE func209 aA ⟨Xz (by unfold Z5;rw[bK l,bK g]),d⟩
  .have g:¬q.cL=-1:=by simpa using b
   obtain⟨k,pg,ix,t,C,D,u,_,_,_,_,_,_,_⟩:=If hm l g;obtain⟨cb',off,o,v⟩:=XdS (hc.bR d) u;obtain⟨ca,cc,ka,kc⟩:=p;simp only at o
   subst o;obtain⟨cL,cR,idx,pa,pc,bS⟩:=q;simp only at t
   subst t;exact bB i aA (bB a aA (Xa.index Xb rfl (j:=k) (show(0:Int)<=k by omega) (show(k:Int)<c.bT.length by omega) (by simp) rfl (aW aA v aA (bE func209 aA ⟨Xz (by unfold Z5;rw[bK l];simp only;rw[bJ g]),d⟩))))
theorem XbQ(c:Conf)(p:Y4)(q:Plc)(w:dD)(hc:Yu w c p)(hq:Zp w q)(hm:Zb c=true):Xf prog 150 #[.agg (Zj c p).toArray,.agg (Xv q).toArray] w (Grow (.int .i64 (Ai c q)) w):=by
 obtain⟨G,H,I⟩:=D9 hm;have B:=Nj hm;refine aR func150 ntmps150 aA (bC aA λcb J e1 m v E=>bC aA λqb C e2 n h F=>?_);have t:=v.trans h;refine bB (h.bP m) aA (bB n aA (bG (XbS c p q C (hc.bR t) (hq.bQ t)) aA λK i=>?_));have f:=t.trans i;have l:=(h.trans i).bP m;have b:=i.bP n;cases u:Yk c q with
 |false=>
  exact bI aA (bE func150 aA ⟨Xz (by unfold Ai;rw[u,bJ (by simp)]),f⟩)
 |true=>
  refine aS aA (bB b aA (aT aA (λd=>?_) λd=>?_))
  .have g:q.cL=-1:=by simpa using d
   exact bE func150 aA ⟨Xz (by unfold Ai;rw[bJ (λD=>D.2 g)]),f⟩
  .have g:¬q.cL=-1:=by simpa using d
   obtain⟨k,pg,ix,x,o,r,y,L,M,N,O,P,Q,R⟩:=If hm u g;obtain⟨cb',off,s,z⟩:=XdS (hc.bR f) y;obtain⟨ca,cc,ka,kc⟩:=p;simp only at s
   subst s;obtain⟨cL,cR,idx,pa,pc,bS⟩:=q;simp only at x o r
   subst x;subst o;subst r;exact aQ 16 Xe (by kernel_rfl) aA λa=>aE a b aA (aE a l aA (Xd.arith Xb a rfl (w64 (by show _/\_;simp only;omega)) rfl (aE a b aA (aE a l aA (aE a b aA (Xd.index Xb a rfl (j:=k) (show(0:Int)<=k by omega) (show(k:Int)<c.bT.length by omega) (by simp) rfl (aD a z aA (Xd.arith Xb a rfl (w64 (by show _/\_;simp only;omega)) rfl (Xd.arith Xb a rfl (w64 (by show _/\_;simp only;omega)) rfl (aF a aA λS A=>bE func150 aA ⟨Xz (by unfold Ai;rw[bK ⟨u,g⟩]),f.trans A⟩))))))))))
theorem XbU(c:Conf)(p:Y4)(q:Plc)(at' n:Int)(w:dD)(hc:Yu w c p)(hq:Zp w q)(hm:Zb c=true)(hfew:q.bS.length<=4096):Xf prog 258 #[.agg (Zj c p).toArray,.agg (Xv q).toArray,.int .i64 at',.int .i64 n] w (Grow (.int .i64 (Qt c q at' n)) w):=by
 have z:=K2 (c:=c) (q:=q) hm hfew;refine aR func258 ntmps258 aA (bC aA λcb A e1 j o x=>bC aA λqb t e2 k d y=>?_);have m:=o.trans d;refine bB (d.bP j) aA (bB k aA (bG (XbS c p q t (hc.bR m) (hq.bQ m)) aA λu f=>?_));have a:=m.trans f;have g:=(d.trans f).bP j;have h:=f.bP k;cases r:Yk c q with
 |false=>
  exact bI aA (bE func258 aA ⟨Xz (by unfold Qt;rw[bK r]),a⟩)
 |true=>
  have s:Qt c q at' n=if at'<0\/n<0\/Z5 c q<n\/Z5 c q-n<at' then 8 else 0:=by unfold Qt;rw[bJ (by rw[r];decide)]
  rw[s];refine aS aA ?_;by_cases B:at'<0
  .exact bI aA (bE func258 aA ⟨Xz (by rw[bK (by omega)]),a⟩)
  refine aS aA ?_;by_cases C:n<0
  .exact bI aA (bE func258 aA ⟨Xz (by rw[bK (by omega)]),a⟩)
  refine aS aA (bB g aA (bB h aA (bG (XbR c p q u (hc.bR a) (hq.bQ a) hm (by omega)) aA λv i=>?_)));have b:=a.trans i;by_cases D:Z5 c q<n
  .exact bI aA (bE func258 aA ⟨Xz (by rw[bK (by omega)]),b⟩)
  refine aS aA (bB (i.bP g) aA (bB (i.bP h) aA (bG (XbR c p q v (hc.bR b) (hq.bQ b) hm (by omega)) aA λE l=>aV aA ?_)));by_cases F:Z5 c q-n<at'
  .exact bI aA (bE func258 aA ⟨Xz (by rw[bK (by omega)]),b.trans l⟩)
  .exact aS aA (bE func258 aA ⟨Xz (by rw[bJ (by omega)]),b.trans l⟩)
def B5(c:Conf)(q:Plc)(i:Nat):Int:=if q.cL=-1 then q.bS.getD (i/c.size.toNat) 0*c.size+((i%c.size.toNat:Nat):Int) else Ai c q+i
theorem XfU(c:Conf)(p:Y4)(q:Plc)(i:Nat)(w:dD)(hc:Yu w c p)(hq:Zp w q)(hm:Zb c=true)(hin:Yk c q=true)(hfew:q.bS.length<=4096)(hi:(i:Int)<Z5 c q):Xf prog 262 #[.agg (Zj c p).toArray,.agg (Xv q).toArray,.int .i64 i] w (Grow (.int .i64 (B5 c q i)) w):=by
 obtain⟨T,U,V⟩:=D9 hm;have K:=Nj hm;refine aR func262 ntmps262 aA (bC aA λcb W e1 A B P=>bC aA λqb L e2 g t Q=>?_);have h:=B.trans t;have d:=t.bP A;refine bB g aA ?_;by_cases a:q.cL=-1
 .obtain⟨N,l⟩:=T6 hin a;have m:Z5 c q=(q.bS.length:Int)*c.size:=by unfold Z5;rw[bK hin,bK a]
  rw[m] at hi;obtain⟨sz,n⟩:=XE (show 0<=c.size by omega);have y:c.size.toNat=sz:=by omega
  have f:i/sz<q.bS.length:=by
   apply Nat.div_lt_of_lt_mul
   have:((sz*q.bS.length:Nat):Int)=(q.bS.length:Int)*c.size:=by rw[n,YQ];rfl
   omega
  have z:=QJ i (show 0<sz by omega);have R:i<=16777216:=by
   have:(q.bS.length:Int)*c.size<=4096*4096:=ZG (by omega) (by omega) (by omega) (by omega);omega
  have u:(i:Int)/c.size=((i/sz:Nat):Int):=by rw[n];rfl
  have v:(i:Int)%c.size=((i%sz:Nat):Int):=by rw[n];rfl
  have o:B5 c q i=q.bS.getD (i/sz) 0*c.size+((i%sz:Nat):Int):=by unfold B5;rw[bK a,y]
  obtain⟨D,C⟩:∃D,D=i/sz:=⟨_,rfl⟩;obtain⟨M,E⟩:∃M,M=i%sz:=⟨_,rfl⟩;rw[<-C] at f u o;rw[<-E] at z v o
  clear C E
  obtain⟨gb,goff,x,F⟩:=(hq.bQ h).rd D f;have G:0<=q.bS.getD D 0/\q.bS.getD D 0<c.bS:=l _ (by rw[XA,XD f];exact XM f);have r:0<=q.bS.getD D 0*c.size/\q.bS.getD D 0*c.size<=1024*4096:=⟨ZJ G.1 (by omega),ZG (by omega) (by omega) (by omega) (by omega)⟩;rw[o];obtain⟨cL,cR,idx,pa,pc,bS⟩:=q;simp only at x
  subst x;refine aM aA (show(cL == -1)=true by rw[show cL=-1 from a];rfl) (aQ 17 Xe (by kernel_rfl) aA λb=>aE b g aA (aE b d aA (Xd.div Xb b rfl (by omega) (Gm (by omega) (by omega)) rfl ?_)));rw[u];refine Xd.index Xb b rfl (j:=D) (show(0:Int)<=(D:Int) by omega) (show(D:Int)<bS.length by have:D<bS.length:=f;omega) (by simp) rfl (aD b F aA (aE b d aA (Xd.arith Xb b rfl (w64 (by show _/\_;simp only at r⊢;omega)) rfl (aE b d aA (Xd.div Xb b rfl (by omega) (Hb (by omega)) rfl ?_)))));rw[v];exact Xd.arith Xb b rfl (w64 (by show _/\_;simp only at r⊢;omega)) rfl (aF b aA λO s=>bE func262 aA ⟨rfl,h.trans s⟩)
 .obtain⟨k,pg,ix,H,l,I,S,g1,g2,g3,g4,g5,g6,g7⟩:=If hm hin a;have J:Ai c q=(pg:Int)*c.size+(ix:Int)*Ya c k:=by unfold Ai;rw[bK ⟨hin,a⟩,H,l,I]
  have m:Z5 c q=Ya c k:=by unfold Z5;rw[bK hin,bJ a,H]
  rw[m] at hi;exact aI aA (show(q.cL == -1)=false by simpa using a) (bB d aA (bB g aA (bG (XbQ c p q L (hc.bR h) (hq.bQ h) hm) aA λO s=>aJ aA (by rw[J];omega) (bE func262 aA ⟨Xz (by unfold B5;rw[bJ a]),h.trans s⟩))))
theorem Xnf{cR:Nat}(hp:1<=cR):∀(n at':Nat),0<n->(Z0 at' n cR).length+at'/cR=(at'+n-1)/cR+1:=by
 intro n
 induction n using QQ with
 |_ n ih=>
  intro at' b;have c:=QJ at' (show 0<cR by omega);have g:=QA at' cR;rw[Ls hp b,XO];by_cases a:n<=cR-at'%cR
  .rw[Nat.min_eq_left a,Nat.sub_self,Vn];have:(at'+n-1)/cR=at'/cR:=by
    apply Nat.div_eq_of_lt_le
    .rw[QC];omega
    .rw[Nat.add_mul,Nat.one_mul,QC];omega
   rw[this]
   simp
   omega
  .rw[Nat.min_eq_right (by omega)];have d:=ih (n-(cR-at'%cR)) (by omega) (at'+(cR-at'%cR)) (by omega);have f:(at'+(cR-at'%cR))/cR=at'/cR+1:=by
    have e:at'+(cR-at'%cR)=(at'/cR+1)*cR:=by rw[Nat.add_mul,Nat.one_mul,QC (at'/cR)];omega
    rw[e,Nat.mul_div_cancel _ (by omega)]
   rw[f,show at'+(cR-at'%cR)+(n-(cR-at'%cR))-1=at'+n-1 from by omega] at d;omega
theorem XlT(at' n cR:Nat)(w:dD)(hb:at'+n<=16777216/\1<=cR/\cR<=16777216):Xf prog 300 #[.int .i64 at',.int .i64 n,.int .i64 cR] w
 (λv w'=>∃a cap,v=.slice a (Z0 at' n cR).length cap/\Xc Xe w w'):=by
 have a3:maxLen=9223372036854775807:=rfl;refine aR func300 ntmps300 aA (aS aA ?_);by_cases P:n=0
 .subst P;exact bI aA (bE func300 aA ⟨none,0,by rw[Vn];rfl,Xc.refl _ _⟩)
 refine aS aA (aS aA (aS aA (aV aA (aS aA (Xa.div Xb rfl (by omega) (Gm (by omega) (by omega)) rfl ?_)))));have c:=Xnf (cR:=cR) hb.2.1 n at' (by omega);have C:=Sn (cR:=cR) hb.2.1 n at';obtain⟨L,D⟩:∃L,L=(Z0 at' n cR).length:=⟨_,rfl⟩;rw[<-D] at c C⊢;have F:(at':Int)/cR=((at'/cR:Nat):Int):=rfl;rw[F];obtain⟨b,s⟩:∃b,b=at'/cR:=⟨_,rfl⟩;rw[<-s] at c⊢;have z:=Nat.div_mul_le_self (at'+n-1) cR;have m:((at':Int)+n-1)/cR=(((at'+n-1)/cR:Nat):Int):=by
  rw[show(at':Int)+n-1=((at'+n-1:Nat):Int) from by omega];rfl
 obtain⟨E,G⟩:∃E,E=(at'+n-1)/cR:=⟨_,rfl⟩;rw[<-G] at c z m
 clear G
 have H:L=0->False:=λh=>by
  subst h;have:Z0 at' n cR=[]:=YB.1 D.symm;rw[Ls hb.2.1 (by omega)] at this;cases this
 have a4:=Nat.pos_of_ne_zero H;have t:E=b+L-1:=by omega
 have I:((at':Int)+n-1)/cR=((b+L-1:Nat):Int):=by rw[m,t]
 have Q:(b+L-1)*cR<=at'+n:=by rw[<-t];omega
 refine Xa.loop (α:=Nat×dE) (λx=>[(0,false,.int .i64 at'),(1,false,.int .i64 n),(2,false,.int .i64 cR),(7,false,x.2),(8,false,.int .i64 ((b+x.1:Nat):Int))])
  (λx w'=>x.1<=L/\(∃xs,Xl w.heap.size 341 3 w' x.2 x.1 xs)/\Xc Xe w w') (λx=>L-x.1) (0,.slice none 0 0) ⟨rfl,rfl,rfl,rfl,rfl,trivial⟩ ⟨XQ _,⟨[],World.ownsRow_nil _ _ _ _⟩,Xc.refl _ _⟩ ?_
 rintro⟨j,v⟩ w1 ⟨R,⟨xs,r⟩,k⟩ ih;simp only at R r
 refine aN aA (aV aA (aV aA (Xa.div Xb rfl (by omega) (Gm (by omega) (by omega)) rfl ?_)));rw[I];refine aT aA (λA=>?_) λA=>?_
 .have y:j<L:=by have:=bL A;simp only at this;omega
  have J:((b+j:Nat):Int)*cR<=at'+n:=by
   have h1:(b+j)*cR<=(b+L-1)*cR:=Nat.mul_le_mul_right _ (by omega);omega
  have K:0<=((b+j:Nat):Int)*cR:=ZJ (by omega) (by omega);have S:((b+(j,v).fst:Nat):Int)*cR<=at'+n:=J;have T:0<=((b+(j,v).fst:Nat):Int)*cR:=K;have a5:(j,v).fst<=16777216:=by show j<=16777216;omega
  have U:b<=16777216:=by rw[s];exact ZN (Nat.div_le_self _ _) (by omega)
  refine Xa.arith Xb rfl (w64 (by omega)) rfl ?_;refine aV aA (aV aA (aV aA (aT aA (λV=>?_) λV=>?_)))
  .refine aV aA (aV aA (aV aA (aJ aA (by first|omega|(split <;> omega)) (aJ aA (by first|omega|(split <;> omega)) (aO aA (Xa.buildSlice Xb rfl λW w2 e2 o d M=>aN aA ?_))))));have l:=r.bR d (λ_ _ h=>h);exact Xa.append (base:=w.heap.size) (news:=(_:List dE)) Xb rfl l (by have:=k.size;have:=d.size;omega) rfl (λi u f=>by rw[Cr,Ys o];simpa [Y3] using f) (λu f=>by simp at f;rcases f with rfl|rfl|rfl <;> rfl) (by simp only;omega) λB w3 p q N=>aN aA (aV aA (ih (j+1,B) _ _ ⟨y,⟨_,p⟩,l.bU (k.trans d) (XF _) q⟩ (by simp only;omega) ⟨rfl,rfl,rfl,rfl,by show some (Value.int .i64 (((b+j:Nat):Int)+1))=some (.int .i64 ((b+(j+1):Nat):Int));exact XaZ (by omega),trivial⟩))
  .refine aV aA (aJ aA (by first|omega|(split <;> omega)) (aJ aA (by first|omega|(split <;> omega)) (aO aA (Xa.buildSlice Xb rfl λW w2 e2 o d M=>aN aA ?_))));have l:=r.bR d (λ_ _ h=>h);exact Xa.append (base:=w.heap.size) (news:=(_:List dE)) Xb rfl l (by have:=k.size;have:=d.size;omega) rfl (λi u f=>by rw[Cr,Ys o];simpa [Y3] using f) (λu f=>by simp at f;rcases f with rfl|rfl|rfl <;> rfl) (by simp only;omega) λB w3 p q N=>aN aA (aV aA (ih (j+1,B) _ _ ⟨y,⟨_,p⟩,l.bU (k.trans d) (XF _) q⟩ (by simp only;omega) ⟨rfl,rfl,rfl,rfl,by show some (Value.int .i64 (((b+j:Nat):Int)+1))=some (.int .i64 ((b+(j+1):Nat):Int));exact XaZ (by omega),trivial⟩))
 .have O:j=L:=by have:=bM A;simp only at this;omega
  subst O;rcases r.2 with⟨rfl,h0⟩|⟨g,cap,cur,rfl,_⟩
  .exact absurd h0 (by omega)
  .exact bE func300 aA ⟨_,cap,rfl,k⟩
def Aj(c:Conf)(p:Y4)(r:RA):List dE:=Zj c p++Ha r
def Zi(c:Conf)(q:Plc)(at' n:Nat):Int:=n+(if q.cL=-1 then ((Z0 at' n c.size.toNat).length:Int) else 0)
theorem XfW(c:Conf)(p:Y4)(r:RA)(q:Plc)(at' n:Nat)(w:dD)(hm:Zb c=true)(hb:at'+n<=16777216)(hst:0<=r.cM/\r.cM<=1152921504606846976):Xf prog 263 #[.agg (Aj c p r).toArray,.agg (Xv q).toArray,.int .i64 at',.int .i64 n] w (Grow (.agg (Aj c p {r with cM:=r.cM+Zi c q at' n}).toArray) w):=by
 obtain⟨m1,m2,m3⟩:=D9 hm;obtain⟨ra,rcap,rbs,st⟩:=r;replace hst:0<=st/\st<=1152921504606846976:=hst;refine aR func263 ntmps263 aA (bC aA λxb M e1 i j S=>bC aA λqb x e2 k y T=>bC aA λob w3 e3 G l U=>?_);replace k:x.heap[qb]?=some (.cells (Xv q).toArray 83 (0,0)):=k;replace i:M.heap[xb]?=some (.cells (Aj c p ⟨ra,rcap,rbs,st⟩).toArray 264 (0,0)):=i;have m:=l.bP (y.bP i);refine Xa.cJ Xb rfl m rfl rfl ?_;refine Xa.arith Xb rfl (w64 (by show _/\_;simp only;omega)) rfl ?_;refine bF m aA λN b o V=>?_;have A:=((j.trans y).trans l).sn o;have s:=o.heap G (by omega);refine bB (o.heap (l.bP k) (by omega)) aA ?_;by_cases g:q.cL=-1
 .obtain⟨sz,H⟩:=XE (show 0<=c.size by omega);have D:c.size.toNat=sz:=by omega
  have W:=Sn (cR:=sz) (by omega) n at';refine aM aA (show(q.cL == -1)=true by rw[g];rfl) (aQ 13 Xe (by kernel_rfl) aA λd=>aE d b aA ?_);refine Xd.cJ Xb d rfl b (by first|exact λh=>h|(intro h;omega)|assumption) rfl rfl ?_;have O:∀w',Xc Xe N w'->Xf prog 300 #[.int .i64 at',.int .i64 n,.int .i64 c.size] w' (λu x=>Xc Xe w' x/\∃a cap,u=.slice a (Z0 at' n sz).length cap):=λw' a0=>by
   rw[H];exact(XlT at' n sz w' (by omega)).mono λu x ⟨a,cap,P,Q⟩=>⟨Q,a,cap,P⟩
  refine Xd.callQ d rfl rfl (O) ?_;rintro _ R I ⟨sa,scap,rfl⟩;refine Xd.adv Xb d rfl (Xd.arith Xb d rfl (w64 (by show _/\_;simp only;omega)) rfl (Xd.adv Xb d rfl (aF d aA λw6 J=>?_)));have f:=I.trans J;refine bF (f.bP b) aA λw7 E B a1=>?_;refine bB E aA (bF (B.heap (f.bP s) (by omega)) aA λw8 t K a2=>?_);have F:st+(n:Int)+((Z0 at' n sz).length:Int)=st+Zi c q at' n:=by unfold Zi;rw[bK g,D];omega
  rw[F] at t;exact aK func263 t aA ⟨rfl,(((A.trans f).sn B).bU K (λz C e=>by have:=j.size;omega))⟩
 .refine aI aA (show(q.cL == -1)=false by simpa using g) (bB b aA (bF s aA λR v L a3=>?_));have F:st+(n:Int)=st+Zi c q at' n:=by unfold Zi;rw[bJ g];omega
  rw[F] at v;exact aK func263 v aA ⟨rfl,(A.bU L (λz C e=>by have:=j.size;omega))⟩
theorem XcR(hm:Zb c=true)(hin:Yk c q=true)(hi:(i:Int)<Z5 c q):0<=B5 c q i/\B5 c q i<c.size*c.bS:=by
 obtain⟨u,v,w⟩:=D9 hm;unfold B5;by_cases a:q.cL=-1
 .rw[bK a];obtain⟨o,b⟩:=T6 hin a;have f:Z5 c q=(q.bS.length:Int)*c.size:=by unfold Z5;rw[bK hin,bK a]
  rw[f] at hi;obtain⟨sz,j⟩:=XE (show 0<=c.size by omega);have g:c.size.toNat=sz:=by omega
  rw[g];have d:i/sz<q.bS.length:=by
   apply Nat.div_lt_of_lt_mul
   have:((sz*q.bS.length:Nat):Int)=(q.bS.length:Int)*c.size:=by rw[j,YQ];rfl
   omega
  have h:=QJ i (show 0<sz by omega);obtain⟨D,p⟩:∃D,D=i/sz:=⟨_,rfl⟩;obtain⟨M,r⟩:∃M,M=i%sz:=⟨_,rfl⟩;rw[<-p] at d⊢;rw[<-r] at h⊢;have l:0<=q.bS.getD D 0/\q.bS.getD D 0<c.bS:=b _ (by rw[XA,XD d];exact XM d);have x:0<=q.bS.getD D 0*c.size:=ZJ l.1 (by omega);have e2:q.bS.getD D 0*c.size+c.size<=c.size*c.bS:=by
   have:(q.bS.getD D 0+1)*c.size<=c.bS*c.size:=ZD (by omega) (by omega);rw[QL,QM,YQ c.bS] at this;exact this
  omega
 .rw[bJ a];obtain⟨k,pg,ix,m,b,n,s,y,z,A,B,C,E,F⟩:=If hm hin a;have t:Ai c q=(pg:Int)*c.size+(ix:Int)*Ya c k:=by unfold Ai;rw[bK ⟨hin,a⟩,m,b,n]
  have f:Z5 c q=Ya c k:=by unfold Z5;rw[bK hin,bJ a,m]
  omega
def Yg(c:Conf)(q:Plc)(bs:List Int)(at' n:Nat):List Int:=(List.range n).map λi=>bs.getD (B5 c q (at'+i)).toNat 0
theorem XnO(c:Conf)(q:Plc)(bs:List Int)(at' n:Nat):Yg c q bs at' (n+1)=Yg c q bs at' n++[bs.getD (B5 c q (at'+n)).toNat 0]:=by
 unfold Yg;rw[QB,XL];rfl
theorem Tp{at' n:Int}(h:Qt c q at' n=0):Yk c q=true/\0<=at'/\0<=n/\at'+n<=Z5 c q:=by
 have a:Yk c q=true:=by
  cases a:Yk c q with
  |true=>rfl
  |false=>unfold Qt at h;rw[bK a] at h;cases h
 have b:¬(at'<0\/n<0\/Z5 c q<n\/Z5 c q-n<at'):=λd=>by
  unfold Qt at h;rw[bJ (by rw[a];decide),bK d] at h;cases h
 exact⟨a,by omega,by omega,by omega⟩
theorem XfT(c:Conf)(p:Y4)(r:RA)(q:Plc)(at' n:Nat)(w:dD)(hc:Yu w c p)(hq:Zp w q)(hm:Zb c=true)(hfew:q.bS.length<=4096)(hck:Qt c q at' n=0)(hR:Yh w r)(hrl:(r.bs.length:Int)=c.size*c.bS)(hst:0<=r.cM/\r.cM<=1152921504606846976):Xf prog 213 #[.agg (Aj c p r).toArray,.agg (Xv q).toArray,.int .i64 at',.int .i64 n] w (λu w'=>∃u1,u=.tuple #[.agg (Aj c p {r with cM:=r.cM+Zi c q at' n}).toArray,u1,.int .i64 0]/\Xl w.heap.size 5 1 w' u1 n ((Yg c q r.bs at' n).map (Value.int .u8))/\Xc Xe w w'):=by
 have al:maxLen=9223372036854775807:=rfl;obtain⟨C,_,_,am⟩:=Tp hck;have an:=K2 (c:=c) (q:=q) hm hfew;refine aR func213 ntmps213 aA (bC aA λxb w1 e1 Q D ao=>bC aA λqb w2 e2 R E ap=>bC aA λob w3 e3 S t aq=>?_);have d:=t.bP (E.bP Q);have l:=t.bP R;have M:=(D.trans E).trans t;refine bB d aA (bB l aA (bG (XbU c p q at' n w3 (hc.bR M) (hq.bQ M) hm hfew) aA λN y=>?_));have F:=M.trans y;rw[hck];refine aS aA ?_;refine Xa.loop (α:=Nat×dE) (λx=>[(2,false,.int .i64 at'),(3,false,.int .i64 n),(4,false,.pointer (some ⟨xb,0,none⟩)),(5,false,.pointer (some ⟨qb,0,none⟩)),(8,false,.pointer (some ⟨ob,0,none⟩)),(12,false,x.2),(13,false,.int .i64 ((at'+x.1:Nat):Int))])
  (λx w'=>x.1<=n/\Xl N.heap.size 5 1 w' x.2 x.1 ((Yg c q r.bs at' x.1).map (Value.int .u8))/\Xc Xe N w') (λx=>n-x.1) (0,.slice none 0 0) ⟨rfl,rfl,rfl,rfl,rfl,rfl,rfl,trivial⟩ ⟨XQ _,World.ownsRow_nil _ _ _ _,Xc.refl _ _⟩ ?_
 rintro⟨j,v⟩ w5 ⟨hj,B,o⟩ ih;simp only at hj B
 have a:=y.trans o;have s:=F.trans o;refine aN aA (aV aA (aT aA (λO=>?_) λO=>?_))
 .have T:j<n:=by have:=bL O;simp only at this;omega
  have U:=XcR (i:=at'+j) hm C (by omega);obtain⟨x,V⟩:=XE U.1;have A:x<r.bs.length:=by omega
  have W:Yg c q r.bs at' (j+1)=Yg c q r.bs at' j++[r.bs.getD x 0]:=by rw[XnO,V];rfl
  obtain⟨bb,boff,G,a0⟩:=(hR.rd.bR (s)) x A;obtain⟨ra,rcap,rbs,st⟩:=r;simp only at G
  subst G;replace A:x<rbs.length:=A;refine aQ 12 Xe (by kernel_rfl) aA λf=>aE f (a.bP d) aA (aE f (a.bP d) aA (aE f (a.bP l) aA (aG f (λw' H=>XfU c p q (at'+j) w' ((hc.bR s).bR H) ((hq.bQ s).bQ H) hm C hfew (by omega)) aA ?_)));rw[V];refine Xd.index Xb f rfl (j:=x) (show(0:Int)<=(x:Int) by omega) (show(x:Int)<rbs.length by omega) (by simp) rfl ?_;refine aD f a0 aA (Xd.cK f rfl λw6 k=>Xn.buildSlice Xb f rfl (λ_=>rfl) λb7 w7 e7 a5 a6 a7=>aF f aA λw8 I=>?_);have m:=(k.trans a6).trans I;have J:=B.bR m (λ_ _ h=>h);exact Xa.append (base:=N.heap.size) (news:=[.int .u8 (rbs.getD x 0)]) Xb rfl J (by have:=o.size;have:=m.size;omega) rfl (Gv (I.bP a5)) (by simp[Value.oneCell']) (by simp only;omega) λv9 w9 a8 a9 ar=>aN aA (aV aA (ih (j+1,v9) _ _ ⟨T,by rw[W,XL];exact a8,J.bU (o.trans m) (XF _) a9⟩ (by simp only;omega) ⟨rfl,rfl,rfl,rfl,rfl,rfl,by show some (Value.int .i64 (((at'+j:Nat):Int)+1))=some (.int .i64 ((at'+(j+1):Nat):Int));exact XaZ (by omega),trivial⟩))
 .have aa:j=n:=by have:=bM O;simp only at this;omega
  subst aa;refine bB (a.bP d) aA (bB (a.bP l) aA (bG (XfW c p r q at' j w5 hm (by omega) hst) aA λw6 k=>?_));refine bF ((a.trans k).bP S) aA λw7 P K a7=>?_;have L:=(B.bR k (λ_ _ h=>h)).bR K (λb hb e=>by have:=(World.ownsRow.lt B b hb.symm).1;have:=y.size;omega);have ai:=F.size;have ab:Xl w.heap.size 5 1 w7 v j ((Yg c q r.bs at' j).map (Value.int .u8)):=by
   refine⟨L.1,?_⟩;rcases L.2 with h|⟨g,cap,cur,a1,a2,a3⟩
   .exact .inl h
   .exact .inr ⟨g,cap,cur,a1,by omega,a3⟩
  exact aK func213 P aA ⟨v,rfl,ab,(s.trans k).bU K (λz hz e=>by have:=D.size;omega)⟩
def Q9(c:Conf)(q:Plc)(bs:List Int)(at':Nat)(l:List Int):Nat->List Int
 |0=>bs
 |k+1=>(Q9 c q bs at' l k).set (B5 c q (at'+k)).toNat (l.getD k 0)
theorem Ko(c:Conf)(q:Plc)(bs:List Int)(at':Nat)(l:List Int):∀k,(Q9 c q bs at' l k).length=bs.length
 |0=>rfl
 |k+1=>by show(List.set _ _ _).length=_;rw[XG,Ko c q bs at' l k]
theorem Xkf{v x:Int}(h:x∈l.set i v):x∈l\/x=v:=by
 rcases ZO h with h|h
 .exact .inl h
 .exact .inr h
theorem XeH(hb:Qi bs)(hl:Qi l):∀{k:Nat},k<=l.length->Qi (Q9 c q bs at' l k)
 |0,_=>hb
 |k+1,h=>λx hx=>by
  rcases Xkf hx with hx|hx
  .exact XeH hb hl (k:=k) (by omega) x hx
  .have a:k<l.length:=h;rw[XA,XD a] at hx;rw[hx];exact hl _ (XM a)
theorem XbT(c:Conf)(p:Y4)(r:RA)(q:Plc)(at':Nat)(a:Option Addr)(cap:Nat)(l:List Int)(w:dD)(hc:Yu w c p)(hq:Zp w q)(hm:Zb c=true)(hfew:q.bS.length<=4096)(hck:Qt c q at' l.length=0)(hR:Yh w r)(hrl:(r.bs.length:Int)=c.size*c.bS)(hst:0<=r.cM/\r.cM<=1152921504606846976)(hr:Rd .u8 w a l)(hin8:Qi l):Xf prog 214 #[.agg (Aj c p r).toArray,.agg (Xv q).toArray,.int .i64 at',.slice a l.length cap] w (λu w'=>∃r':RA,u=.tuple #[.agg (Aj c p r').toArray,.int .i64 0]/\r'.bs=Q9 c q r.bs at' l l.length/\r'.cM=r.cM+Zi c q at' l.length/\Yh w' r'/\Gb w r.a r'.a/\Xc Xe w w'):=by
 have bh:maxLen=9223372036854775807:=rfl;obtain⟨T,_,_,bi⟩:=Tp hck;have bj:=K2 (c:=c) (q:=q) hm hfew;have b9:=Nj hm;have A:=hR.len;obtain⟨ra,rcap,rbs,st⟩:=r;replace hrl:(rbs.length:Int)=c.size*c.bS:=hrl;replace A:rbs.length<=4194304:=A;refine Xf.enter func214 rfl ntmps214 rfl rfl ?_;refine aN rfl ?_;refine Xa.alloc Xb rfl ?_;intro xb w1 e1 F U bk;refine aN rfl ?_;refine Xa.alloc Xb rfl ?_;intro qb w2 e2 G V bm;refine aN rfl ?_;refine Xa.alloc Xb rfl ?_;intro ob w3 e3 W H bn;refine aN rfl ?_;replace G:w2.heap[qb]?=some (.cells (Xv q).toArray 83 (0,0)):=G;replace F:w1.heap[xb]?=some (.cells (Aj c p ⟨ra,rcap,rbs,st⟩).toArray 264 (0,0)):=F;have b:=H.bP (V.bP F);have s:=H.bP G;have hw:=(U.trans V).trans H;refine Xa.loads Xb rfl b rfl rfl ?_;refine Xa.loads Xb rfl s rfl rfl ?_;refine aP rfl (XbU c p q at' l.length w3 (hc.bR hw) (hq.bQ hw) hm hfew) ?_;rintro _ w4 ⟨rfl,m⟩;refine aN rfl ?_;have a0:=hw.trans m;rw[hck];refine Xa.no Xb rfl rfl rfl ?_;refine Xa.buildSlice Xb rfl ?_;intro I w5 e5 ao a1 bo;refine aN rfl ?_;have J:=a0.trans a1;have d:=m.trans a1;have a2:Xl w.heap.size 5 1 w5 (.slice (some ⟨I,0,none⟩) 0 0) 0 []:=Xl.empty (by have:=a0.size;omega) ao;obtain⟨a3,B,K,_⟩:=hR.rd 0 (by show 0<rbs.length;omega);replace K:ra=some ⟨a3,B,none⟩:=K;subst K;refine bB (d.bP b) aA ?_;have aa:Rd .u8 w5 (some ⟨a3,B,none⟩) rbs:=hR.rd.bR J;refine Xa.append (base:=w.heap.size) (xs:=[]) (news:=rbs.map (Value.int .u8)) Xb rfl a2 J.size (by simp) aa.cells J1 (by simp only;omega) ?_;intro v6 w6 ap C aq;obtain⟨g,gcap,cur,ac,bp,ar,au,bq,av⟩:=ap.form (by show 0<0+rbs.length;omega);subst ac;refine aN aA ?_;have aw:Xc Xe w w6:=a2.bU J (XF _) C;have t:∀z,z<I -> ¬C6 (.slice (some ⟨I,0,none⟩) 0 0) z:=λz hz h=>by have e:some z=some I:=h;have:=Option.some.inj e;omega
 have br:=Xg (m.bP b);have bs:=Xg (m.bP s);have bt:=Xg (m.bP W);have ae:=C.heap (d.bP b) (t xb (by omega));have af:=C.heap (d.bP s) (t qb (by omega));have ag:=C.heap (d.bP W) (t ob (by omega));have L:cur.toList=rbs.map (Value.int .u8)++cur.toList.drop rbs.length:=by
  have e:=XY rbs.length cur.toList;rw[show cur.toList.take rbs.length=rbs.map (Value.int .u8) from by simpa using av] at e;exact e.symm
 obtain⟨rest,R⟩:∃rest,rest=cur.toList.drop rbs.length:=⟨_,rfl⟩;rw[<-R] at L;have ah:w6.heap[g]?=some (.cells (rbs.map (Value.int .u8)++rest).toArray 5 (0,0)):=by rw[<-L];exact ar
 have ax:0+rbs.length=rbs.length:=by omega
 rw[ax] at au⊢;have bu:w4.heap.size<=g:=by
  rcases aq.2 with h|h
  .have e:some g=some I:=h;have:=Option.some.inj e;omega
  .have e:some g=some w5.heap.size:=h;have:=Option.some.inj e;omega
 refine Xa.loop (α:=Nat) (λk=>[(2,false,.int .i64 at'),(3,false,.slice a l.length cap),(4,false,.pointer (some ⟨xb,0,none⟩)),(5,false,.pointer (some ⟨qb,0,none⟩)),(8,false,.pointer (some ⟨ob,0,none⟩)),(11,false,.slice (some ⟨g,0,none⟩) rbs.length gcap),(12,false,.int .i64 k)])
  (λk w'=>k<=l.length/\w'.heap[g]?=some (.cells ((Q9 c q rbs at' l k).map (Value.int .u8)++rest).toArray 5 (0,0))/\Xc (λz=>z=g) w6 w') (λk=>l.length-k) 0 ⟨rfl,rfl,rfl,rfl,rfl,rfl,rfl,trivial⟩ ⟨XQ _,ah,Xc.refl _ _⟩ ?_
 rintro k w7 ⟨hk,a4,n⟩ ih;have D:Xc Xe w w7:=aw.sn n;have v:=n.heap ae (by omega);have M:=n.heap af (by omega);have ai:=n.heap ag (by omega);have N:=Ko c q rbs at' l k;refine aN aA (aT aA (λh0=>?_) λh0=>?_)
 .have a5:k<l.length:=by have:=bL h0;omega
  have ay:=XcR (i:=at'+k) hm T (by omega);obtain⟨x,hx⟩:=XE ay.1;obtain⟨sb,soff,rfl,b0⟩:=(hr.bR D) k a5;have b1:Q9 c q rbs at' l (k+1)=(Q9 c q rbs at' l k).set x (l.getD k 0):=by show(Q9 c q rbs at' l k).set (B5 c q (at'+k)).toNat (l.getD k 0)=_;rw[hx];rfl
  refine aQ 13 Xe (by kernel_rfl) aA λo=>aE o v aA (aE o M aA (aC o aA (aG o (λw' a6=>XfU c p q (at'+k) w' ((hc.bR D).bR a6) ((hq.bQ D).bQ a6) hm T hfew (by omega)) aA ?_)));rw[hx];exact aB k o aA (aD o b0 aA (Xd.index Xb o rfl (j:=x) (show(0:Int)<=(x:Int) by omega) (show(x:Int)<rbs.length by omega) (by simp) rfl (aF o aA λS a7=>aL aA (a7.bP a4) (show Z4 ((Q9 c q rbs at' l k).map (Value.int .u8)++rest) (0+x) [.int .u8 (l.getD k 0)]=some (((Q9 c q rbs at' l k).set x (l.getD k 0)).map (Value.int .u8)++rest) from by rw[XT,Vg _ _ _ (by simp;omega),YK _ _ (by simp;omega),ZZ]) aA λw9 b2 b3 bv=>aV aA (ih (k+1) _ _ ⟨a5,by rw[b1];exact b2,(n.trans a7.gr).trans b3⟩ (by omega) ⟨rfl,rfl,rfl,rfl,rfl,rfl,rfl,trivial⟩))))
 .have b4:k=l.length:=by have:=bM h0;omega
  subst b4;refine bB v aA (aO aA ?_);rw[<-N];refine bF v aA λS y E bw=>?_;replace y:S.heap[xb]?=some (.cells (Aj c p ⟨some ⟨g,0,none⟩,gcap,Q9 c q rbs at' l l.length,st⟩).toArray 264 (0,0)):=y;have ak:=E.heap M (by omega);have al:=E.heap ai (by omega);have b6:=E.heap a4 (by omega);have b7:Xc Xe w S:=D.sn E;refine bB y aA (bB ak aA (bG (XfW c p ⟨some ⟨g,0,none⟩,gcap,Q9 c q rbs at' l l.length,st⟩ q at' l.length S hm (by omega) hst) aA λw9 O=>bF (O.bP al) aA λP f Q bg=>?_));replace f:P.heap[ob]?=some (.cells (Aj c p ⟨some ⟨g,0,none⟩,gcap,Q9 c q rbs at' l l.length,st+Zi c q at' l.length⟩).toArray 264 (0,0)):=f;have am:=Q.heap (O.bP b6) (by omega);have an:Xc Xe w P:=(b7.trans O).bU Q (λz hz e=>by have:=U.size;omega);have b8:Yh P ⟨some ⟨g,0,none⟩,gcap,Q9 c q rbs at' l l.length,st+Zi c q at' l.length⟩:=⟨Rd.of_take am (by simp),by simp only[N];omega,by simp only[N];omega,XeH hR.rng hin8 (XF _)⟩;exact aK func214 f aA ⟨_,rfl,rfl,rfl,b8,.inr ⟨g,0,rfl,by omega⟩,an⟩
theorem XfV(c:Conf)(p:Y4)(r:RA)(q:Plc)(at' n:Nat)(w:dD)(hc:Yu w c p)(hq:Zp w q)(hm:Zb c=true)(hfew:q.bS.length<=4096)(hck:Qt c q at' n=0)(hR:Yh w r)(hrl:(r.bs.length:Int)=c.size*c.bS)(hst:0<=r.cM/\r.cM<=1152921504606846976):Xf prog 207 #[.agg (Aj c p r).toArray,.agg (Xv q).toArray,.int .i64 at',.int .i64 n] w (λu w'=>∃r':RA,u=.tuple #[.agg (Aj c p r').toArray,.int .i64 0]/\r'.bs=Q9 c q r.bs at' (X6 n) n/\r'.cM=r.cM+Zi c q at' n/\Yh w' r'/\Gb w r.a r'.a/\Xc Xe w w'):=by
 obtain⟨ai,_,_,aj⟩:=Tp hck;have ak:=K2 (c:=c) (q:=q) hm hfew;have E:(X6 n).length=n:=XI;refine aR func207 ntmps207 aA (bC aA λxb w1 e1 l F al=>bC aA λqb C e2 S G am=>bC aA λob w3 e3 H o an=>?_);replace l:w1.heap[xb]?=some (.cells (Aj c p r).toArray 264 (0,0)):=l;have t:=o.bP (G.bP l);have v:=o.bP S;have L:=(F.trans G).trans o;refine bB t aA (bB v aA (bG (XbU c p q at' n w3 (hc.bR L) (hq.bQ L) hm hfew) aA λw4 d=>?_));have T:=L.trans d;rw[hck];refine aS aA (aQ 8 Xe (by kernel_rfl) aA λi=>aE i (d.bP t) aA (aE i (d.bP v) aA (Xd.cK i rfl λw5 y=>Xn.make Xb i rfl (m:=n) (kk:=n) rfl rfl (XF _) (by simp only;omega) (by omega) (λ_=>rfl) λU w6 e6 I A ao=>?_)));have f:=T.trans (y.trans A);have hd:∀w',Xc Xe w6 w'->Xf prog 214 #[.agg (Aj c p r).toArray,.agg (Xv q).toArray,.int .i64 at',.slice (some ⟨U,0,none⟩) n n] w' (λu C=>Xc Xe w' C/\∃r':RA,u=.tuple #[.agg (Aj c p r').toArray,.int .i64 0]/\r'.bs=Q9 c q r.bs at' (X6 n) n/\r'.cM=r.cM+Zi c q at' n/\Yh C r'/\Gb w r.a r'.a/\Xj (λz=>z=ob) r'.a):=λw' a=>by
  have V:Y3 (Yz (Value.int .u8 0)) n=(X6 n).map (Value.int .u8):=V5 _;rw[V] at I;have W:=XbT c p r q at' (some ⟨U,0,none⟩) n (X6 n) w' ((hc.bR f).bR a) ((hq.bQ f).bQ a) hm hfew (by rw[E];exact hck) ((hR.bQ f).bQ a) hrl hst (Rd.of (a.bP I) rfl) (λx hx=>by rw[YA hx];omega);rw[E] at W;exact W.mono λu C ⟨r',a1,M,N,O,D,P⟩=>⟨P,r',a1,M,N,O,D.imp id (λ⟨g,off,Q,h2⟩=>⟨g,off,Q,by have:=f.size;have:=a.size;omega⟩),λb off s e hb=>by
   rcases D with h|⟨g,off',Q,h2⟩
   .rw[h] at e;have ah:=Nj hm;obtain⟨b',off',e',a0⟩:=hR.rd 0 (by omega);rw[e] at e';cases e'
    have:=World.block_lt_of_cell? w _ a0;simp only at this
    omega
   .rw[Q] at e;cases e
    have:=Xg H;have:=d.size;have:=y.size;have:=A.size;have:=a.size;omega⟩
 refine Xd.callQ i rfl rfl (hd) ?_;rintro _ w7 J ⟨r',rfl,M,N,O,D,P⟩;refine Xd.adv Xb i rfl (aF i aA λw8 B=>?_);have a7:=f.trans (J.trans B);have R:=(d.trans (y.trans A)).bP H;refine bF ((J.trans B).bP R) aA λw9 j K ap=>?_;replace j:w9.heap[ob]?=some (.cells (Aj c p r').toArray 264 (0,0)):=j;have k:=O.bQ B;have a9:Yh w9 r':=⟨k.rd.bW P K,k.len,k.lc,k.rng⟩;exact aK func207 j aA ⟨r',rfl,M,N,a9,D,a7.bU K (λz V e=>by have:=F.size;omega)⟩
theorem Rd.at{k:IntKind}{w:dD}{a:Option Addr}{l:List Int}(h:Rd k w a l)(hl:0<l.length):∃b off,a=some ⟨b,off,none⟩/\∀j,j<l.length->w.cell? ⟨b,off+j,none⟩=some (.int k (l.getD j 0)):=by
 obtain⟨b,off,e,_⟩:=h 0 hl;refine⟨b,off,e,λj c=>?_⟩;obtain⟨b',off',e',d⟩:=h j c;rw[e] at e';cases e';exact d
structure Mv where
 mv:Nat
 f:Nat
 t:Nat
 size:Nat
def Oy(A:Ar)(M:Mv)(cE:Nat):List dE:=[.func (.func 254) #[.pointer (some ⟨A.ab,0,none⟩)] #[],.int .i64 M.f,.int .i64 M.t,.int .i64 M.size,.int .i64 cE]
structure E2(w:dD)(A:Ar)(V:ArV)(M:Mv)(cE:Nat):Prop where
 ar:X8 w A V
 obj:w.heap[M.mv]?=some (.cells (Oy A M cE).toArray 288 (0,0))
 pos:1<=M.size
 cE:cE<=M.size
 f:M.f+M.size<=V.bs.length
 t:M.t+M.size<=V.bs.length
theorem E2.nfoot{M:Mv}(h:E2 w A V M g):¬Zy A M.mv:=by
 rintro(e|e)
 .exact H7 h.obj h.ar.dat (by decide) e
 .exact H7 h.obj (h.ar.met _ e).1 (by decide) rfl
theorem E2.bQ{w w':dD}{A:Ar}{V:ArV}{M:Mv}{g:Nat}(h:E2 w A V M g)(hc:Xc Xe w w'):E2 w' A V M g:=⟨h.ar.bQ hc,hc.bP h.obj,h.pos,h.cE,h.f,h.t⟩
def Ia(bs:List Int)(t f n:Nat):List Int:=Q4 bs t (sub bs f n)
theorem P7{f:Nat}(h:f+n<=bs.length)(h':t+n<=bs.length):(Ia bs t f n).length=bs.length:=Jm (by rw[Hf h];exact h')
def Rq(A:Ar)(M:Mv):Nat->Prop:=λb=>Zy A b\/b=M.mv
theorem Xbe(A:Ar)(V:ArV)(M:Mv)(g:Nat)(w:dD)(h:E2 w A V M g):Xf prog 158 #[.pointer (some ⟨M.mv,0,none⟩)] w (Grow (.int .i64 (M.size-g:Nat)) w):=by
 have b:=h.ar.len;have c:=h.cE;have ht:=h.t;exact aR func158 ntmps158 aA (Xa.quiet rfl Xo (by kernel_rfl) (Xk.adv Xb rfl (Xk.cJ Xb rfl h.obj rfl rfl (Xk.cJ Xb rfl h.obj rfl rfl (Xk.arith Xb rfl (w64 (by omega)) rfl (Xk.nil λd a=>aN aA (bE func158 aA ⟨Xz (by omega),a⟩)))))))
theorem Xe5(A:Ar)(V:ArV)(M:Mv)(g i n:Nat)(w:dD)(h:E2 w A V M g)(hi:i+n<=M.size)(hn:0<n):Xf prog 233 #[.pointer (some ⟨M.mv,0,none⟩),.int .i64 i,.int .i64 n] w
 (λ_ w'=>E2 w' A {V.cT A n with bs:=Ia V.bs (M.t+i) (M.f+i) n} M g/\Xc (Zy A) w w'):=by
 have r:=h.ar.len;have ht:=h.t;have hf:=h.f;have m:=h.nfoot;have e1:((M.t:Int)+i)=((M.t+i:Nat):Int):=by omega
 have e2:((M.f:Int)+i)=((M.f+i:Nat):Int):=by omega
 refine aR func233 ntmps233 aA (bI aA (aQ 18 (Zy A) (by kernel_rfl) aA λa=>aE a h.obj aA (aE a h.obj aA (aC a aA (aE a h.obj aA (aC a aA ?_))))));rw[e1,e2];refine Xd.cK a rfl ?_;intro k f;have l:=h.bQ f;refine Xn.call rfl (Xdm A V (M.t+i) (M.f+i) n k l.ar (by omega) (by omega)).fn (Post:=λv d=>v=.int .i64 0/\X8 d A {V.cT A n with bs:=Ia V.bs (M.t+i) (M.f+i) n}/\Xc (Zy A) k d)
  (λq=>(Xdm A V (M.t+i) (M.f+i) n k l.ar (by omega) (by omega)).mono λv d o=>⟨q.trans o.2.2,o⟩) ?_
 rintro _ d _ ⟨rfl,p,j⟩;refine aF a aA λs b=>?_;have c:(Ia V.bs (M.t+i) (M.f+i) n).length=V.bs.length:=P7 (by omega) (by omega);exact bE func233 aA ⟨⟨p.bQ b,b.bP (j.heap l.obj m),h.pos,h.cE,by simp only[c];exact hf,by simp only[c];exact ht⟩,f.gr.trans (j.trans b.gr)⟩
theorem Xkp(M:Mv)(i n:Int)(w:dD)(hn:n<=0):Xf prog 233 #[.pointer (some ⟨M.mv,0,none⟩),.int .i64 i,.int .i64 n] w (λ_ w'=>w=w'):=by
 exact aR func233 ntmps233 aA (aS aA (bE func233 aA rfl))
def Ed(n:Int)(left:Nat):Nat:=(min n left).toNat
def Pq(A:Ar)(V:ArV)(M:Mv)(g k:Nat):ArV:=if k=0 then V else {V.cT A k with bs:=Ia V.bs (M.t+g) (M.f+g) k}
theorem Xkn(A:Ar)(V:ArV)(M:Mv)(g:Nat)(n:Int)(w:dD)(h:E2 w A V M g):Xf prog 203 #[.pointer (some ⟨M.mv,0,none⟩),.int .i64 n] w
 (λv w'=>v=.int .i64 (Ed n (M.size-g))/\E2 w' A (Pq A V M g (Ed n (M.size-g))) M (g+Ed n (M.size-g))/\Xc (Rq A M) w w'):=by
 have z:=h.ar.len;have B:=h.cE;have ht:=h.t;obtain⟨k,j⟩:∃k,k=Ed n (M.size-g):=⟨_,rfl⟩;rw[<-j];unfold Ed at j;have x:k<=M.size-g:=by omega
 have m:(if (0:Int)>(if ((M.size-g:Nat):Int)<n then ((M.size-g:Nat):Int) else n) then 0 else (if ((M.size-g:Nat):Int)<n then ((M.size-g:Nat):Int) else n))=(k:Int):=by
  subst j;split <;> split <;> omega
 refine aR func203 ntmps203 aA (bG (Xbe A V M g w h) aA λr c=>?_);rw[m];have l:=h.bQ c;by_cases f:k=0
 .refine aS aA ?_;subst f;exact bE func203 aA ⟨rfl,by unfold Pq;rw[bK rfl];exact l,c.gr⟩
 .refine bI aA (bB l.obj aA (aP aA (Xe5 A V M g g k r l (by omega) (by omega)) ?_));rintro _ C ⟨a,o⟩;refine aN aA (bB a.obj aA (aV aA ?_));rw[show((g:Int)+k)=((g+k:Nat):Int) from by omega];refine bF a.obj aA λs p i y=>?_;have q:=a.ar.bR i (λb d e=>by
   subst e;rcases d with e|e|e|e
   .exact H7 a.obj a.ar.obj (by decide) e
   .exact H7 a.obj a.ar.dat (by decide) e
   .exact H7 a.obj a.ar.cap (by decide) e
   .exact H7 a.obj (a.ar.met _ e).1 (by decide) rfl)
  have t:Xc (Rq A M) w s:=c.gr.trans ((o.mono λb _ d=>.inl d).trans (i.mono λb _ d=>.inr d));have u:Pq A V M g k={V.cT A k with bs:=Ia V.bs (M.t+g) (M.f+g) k}:=by unfold Pq;rw[bJ f]
  exact bE func203 aA ⟨rfl,by rw[u];exact⟨q,p,h.pos,by omega,a.f,a.t⟩,t⟩
def Q5(i n g:Nat):Nat:=min (i+n) g-i
def Nv(A:Ar)(V:ArV)(M:Mv)(g i n:Nat):ArV:=if Q5 i n g=0 then V else {V.cT A (Q5 i n g) with bs:=Ia V.bs (M.t+i) (M.f+i) (Q5 i n g)}
theorem Xko(A:Ar)(V:ArV)(M:Mv)(g i n:Nat)(w:dD)(h:E2 w A V M g)(hi:i+n<=M.size):Xf prog 169 #[.pointer (some ⟨M.mv,0,none⟩),.int .i64 i,.int .i64 n] w
 (λv w'=>v=.int .i64 0/\E2 w' A (Nv A V M g i n) M g/\Xc (Zy A) w w'):=by
 have j:=h.ar.len;have k:=h.cE;have ht:=h.t;refine aR func169 ntmps169 aA (aS aA (aS aA (bB h.obj aA (aS aA (bB h.obj aA (aV aA (aS aA (aV aA (bB h.obj aA (aJ aA (by split <;> omega) ?_))))))))));by_cases a:Q5 i n g=0
 .refine aP aA (Xkp M i _ w (by unfold Q5 at a;split <;> omega)) ?_;rintro _ d rfl;have b:Nv A V M g i n=V:=by unfold Nv;rw[bK a]
  exact aN aA (bE func169 aA ⟨rfl,by rw[b];exact h,Xc.refl _ _⟩)
 .have e:(if (g:Int)<(i:Int)+n then (g:Int) else (i:Int)+n)-i=((Q5 i n g:Nat):Int):=by unfold Q5 at a⊢;split <;> omega
  rw[e];refine aP aA (Xe5 A V M g i (Q5 i n g) w h (by unfold Q5;omega) (by omega)) ?_;rintro _ d ⟨f,c⟩;have b:Nv A V M g i n={V.cT A (Q5 i n g) with bs:=Ia V.bs (M.t+i) (M.f+i) (Q5 i n g)}:=by unfold Nv;rw[bJ a]
  exact aN aA (bE func169 aA ⟨rfl,by rw[b];exact f,c⟩)
def Oz(N:Nat)(f t size:Int):Bool:=decide (1<=size) && (decide (0<=f) && decide (size<=N) && decide (f<=N-size)) && (decide (0<=t) && decide (size<=N) && decide (t<=N-size)) && (decide (f+size<=t)||decide (t+size<=f))
theorem Ui{f t:Int}:Oz N f t size=true↔1<=size/\(0<=f/\size<=N/\f<=N-size)/\(0<=t/\t<=N-size)/\(f+size<=t\/t+size<=f):=by
 unfold Oz;simp only[XK,Bool.or_eq_true,decide_eq_true_eq];constructor
 .rintro⟨⟨⟨b,⟨c,a⟩,d⟩,⟨g,_⟩,h⟩,i⟩;exact⟨b,⟨c,a,d⟩,⟨g,h⟩,i⟩
 .rintro⟨b,⟨c,a,d⟩,⟨g,h⟩,i⟩;exact⟨⟨⟨b,⟨c,a⟩,d⟩,⟨g,a⟩,h⟩,i⟩
def Gx(N:Nat)(size at':Int):Bool:=decide (0<=at') && decide (size<=N) && decide (at'<=N-size)
theorem Xe4(A:Ar)(V:ArV)(x size:Int)(sb pb:Nat)(w:dD)(hA:X8 w A V)(hs:w.heap[sb]?=some (.cells #[.int .i64 size] 3 (0,0)))(hp:w.heap[pb]?=some (.cells #[.pointer (some ⟨A.ab,0,none⟩)] 153 (0,0)))(hsz:1<=size):Xf prog 253 #[.int .i64 x,.pointer (some ⟨sb,0,none⟩),.pointer (some ⟨pb,0,none⟩)] w (Grow (.bool (Gx V.bs.length size x)) w):=by
 have g:=hA.len;refine aR func253 ntmps253 aA (Xa.quiet rfl Xo (by kernel_rfl) (Xk.adv Xb rfl ?_));refine Xk.fork Xb rfl rfl rfl (λc=>?_) (λc=>?_)
 .refine Xk.cJ Xb rfl hs rfl rfl (Xk.cJ Xb rfl hp rfl rfl (Xk.call Xb rfl (λw' b=>(Xab A V w' (hA.bQ b)).bQ) rfl ?_));refine Xk.fork Xb rfl rfl rfl (λd=>?_) (λd=>?_)
  .have h:=bL d;exact Xk.cJ Xb rfl hp rfl rfl (Xk.call Xb rfl (λw' b=>(Xab A V w' (hA.bQ b)).bQ) rfl (Xk.cJ Xb rfl hs rfl rfl (Xk.arith Xb rfl (w64 (by omega)) rfl (Xk.nil λf a=>aN aA (bE func253 aA ⟨Q0 (by unfold Gx;rw[show decide (0<=x)=true from c,show decide (size<=(V.bs.length:Int))=true from d];rfl),a⟩)))))
  .exact Xk.nil λf a=>aN aA (bE func253 aA ⟨Q0 (by unfold Gx;rw[show decide (0<=x)=true from c,show decide (size<=(V.bs.length:Int))=false from d];rfl),a⟩)
 .exact Xk.nil λf a=>aN aA (bE func253 aA ⟨Q0 (by unfold Gx;rw[show decide (0<=x)=false from c];rfl),a⟩)
theorem T5{x:Int}:Gx N size x=true↔0<=x/\size<=N/\x<=N-size:=by unfold Gx;simp[and_assoc]
theorem Xkm(A:Ar)(V:ArV)(f t size:Nat)(w:dD)(hA:X8 w A V)(hm:Oz V.bs.length f t size=true):Xf prog 202 #[.pointer (some ⟨A.ab,0,none⟩),.int .i64 f,.int .i64 t,.int .i64 size] w
 (λv w'=>∃M:Mv,v=.tuple #[.pointer (some ⟨M.mv,0,none⟩),.int .i64 0]/\M.f=f/\M.t=t/\M.size=size/\w.heap.size<=M.mv/\E2 w' A V M 0/\Xc Xe w w'):=by
 have z:=hA.len;have g:=Ui.1 hm;have l:Gx V.bs.length size f=true:=T5.2 (by omega);have m:Gx V.bs.length size t=true:=T5.2 (by omega);refine aR func202 ntmps202 aA (bC aA λpb B e1 n i u=>bC aA λsb r e2 c d x=>?_);have k:=(hA.bQ i).bQ d;have b:=d.bP n;refine bB b aA (bB c aA (aS aA (bG (Xe4 A V f size sb pb r k c b (by omega)) aA λs a=>aI aA (by rw[l];rfl) (bG (Xe4 A V t size sb pb s (k.bQ a) (a.bP c) (a.bP b) (by omega)) aA λC h=>aI aA (by rw[m];rfl) (aJ aA (by split <;> split <;> omega) ?_)))));have j:=h.bP (a.bP c);refine bB j aA (aI aA (bO (by split <;> split <;> omega)) (bB (h.bP (a.bP b)) aA (bB j aA (aO aA (bC aA λmv D e5 o p y=>?_)))));have q:=(((i.trans d).trans a).trans h).trans p;exact bE func202 aA ⟨⟨mv,f,t,size⟩,rfl,rfl,rfl,rfl,by have:=((i.trans d).trans a).trans h;have:=this.size;simp only;omega,⟨hA.bQ q,o,by simp only;omega,XQ _,by simp only;omega,by simp only;omega⟩,q⟩
theorem Xkh(b cb:Nat)(total dA:Int)(w:dD)(h:Bf w b total dA)(hc:w.heap[cb]?=some (.cells #[.pointer (some ⟨b,0,none⟩)] 152 (0,0))):Hk prog 194 #[.pointer (some ⟨cb,0,none⟩)] w (λ_ w'=>Bf w' b total total/\Xc (λx=>x=b) w w'):=by
 obtain⟨d,k,l,i⟩:=h;exact Hk.enter func194 rfl ntmps194 rfl rfl (aN aA (aQ 5 Xe (by kernel_rfl) aA λa=>aD a (Cu (off:=0) hc rfl) aA (aD a (Cu (off:=0) hc rfl) aA (aE a d aA (aF a aA λm c=>bF (c.bP d) aA λn f g j=>bE func194 aA ⟨⟨f,by omega,by omega,i⟩,c.gr.trans g⟩)))))
theorem Xkg(b:Nat)(total dA:Int)(w:dD)(h:Bf w b total dA):Xf prog 125 #[.pointer (some ⟨b,0,none⟩)] w (λv w'=>v=.int .i64 (total-dA)/\Bf w' b total total/\Xc (λx=>x=b) w w'):=by
 have l:=h;obtain⟨j,s,t,u⟩:=h;refine aR func125 ntmps125 aA (bC aA λcb y e1 a d r=>bB a aA (Xa.defer rfl rfl (aN aA (Xa.quiet rfl Xo (by kernel_rfl) (Xk.adv Xb rfl (Xk.cJ Xb rfl a rfl rfl (Xk.cJ Xb rfl (d.bP j) rfl rfl (Xk.cJ Xb rfl a rfl rfl (Xk.cJ Xb rfl (d.bP j) rfl rfl (Xk.arith Xb rfl (w64 (by omega)) rfl (Xk.nil λm f=>aN aA ?_)))))))))));have i:=Xkh b cb total dA m ((l.bR d).bR f) (f.bP a);refine Xa.ret1D Xb rfl func125 rfl rfl rfl (Ot (args:=[]) (captured:=[.pointer (some ⟨cb,0,none⟩)]) i.fn) ⟨i.fn,?_⟩;intro c cs n;obtain⟨en,u',w',fr,⟨o,v,p,q,k⟩,g⟩:=i.calls c cs n;exact⟨en,u',w',fr,⟨o,v,p,rfl,q,((d.trans f).gr).trans k⟩,g⟩
theorem XbJ(r:RA)(i n:Int)(w:dD)(hl:r.bs.length<=4194304):Xf prog 303 #[.agg (Ha r).toArray,.int .i64 i,.int .i64 n] w (Grow (.bool (Nm r.bs.length i n)) w):=by
 refine aR func303 ntmps303 aA (bC aA λb m e1 j a l=>aT aA (λc=>?_) λc=>?_)
 .have d:=bL c;refine aT aA (λf=>?_) λf=>?_
  .have g:=bL f;refine bB j aA (aT aA (λh=>?_) λh=>?_)
   .have k:=bL h;exact bB j aA (aV aA (bE func303 aA ⟨Q0 (by unfold Nm;rw[bN d,bN g,bN k];rfl),a⟩))
   .exact bE func303 aA ⟨Q0 (by unfold Nm;rw[bO (bM h)];simp),a⟩
  .have g:=bM f;exact bE func303 aA ⟨Q0 (by unfold Nm;rw[bO g];simp),a⟩
 .have d:=bM c;exact bE func303 aA ⟨Q0 (by unfold Nm;rw[bO d];rfl),a⟩
theorem Rd.keepU{q:Nat}{c:Array dE}(hr:Rd .u8 w a l)(hq:w.heap[q]?=some (.cells c t fz))(hc:∀x∈c.toList,∀z,x≠.int .u8 z)(hs:Xc (λb=>b=q) w w'):Rd .u8 w' a l:=λj f=>by
 obtain⟨b,off,e,d⟩:=hr j f;refine⟨b,off,e,hs.cell d (λg=>?_)⟩;subst g;rw[Ys hq] at d;exact hc _ (Array.mem_toList_iff.2 (Array.mem_of_getElem? d)) _ rfl
theorem XmD{x:Int}(hi:i<l.length):Z4 (l.map (Value.int .u8)++rest) i [.int .u8 x]=some ((l.set i x).map (Value.int .u8)++rest):=by
 rw[Vg _ _ _ (by simp;omega),YK _ _ (by simpa using hi),ZZ]
def Nz(w:dD)(r:RA):Prop:=∃g,r.a=some ⟨g,0,none⟩/\w.heap.size<=g
theorem Nz.dC{r:RA}(h:Nz w' r)(hs:w.heap.size<=w'.heap.size):Nz w r:=by obtain⟨g,a,b⟩:=h;exact⟨g,a,ZN hs b⟩
theorem Xlr(r:RA)(i:Nat)(a:Option Addr)(cap:Nat)(l:List Int)(w:dD)(h:Yh w r)(h0:0<r.bs.length)(hr:Rd .u8 w a l)(hb:Qi l)(hi:i+l.length<=r.bs.length):Xf prog 319 #[.agg (Ha r).toArray,.int .i64 i,.slice a l.length cap] w (λv w'=>∃r':RA,v=.agg (Ha r').toArray/\r'.bs=Q4 r.bs i l/\r'.cM=r.cM/\Yh w' r'/\Xc Xe w w'/\Nz w r'):=by
 have j:=h.len;have ac:maxLen=9223372036854775807:=rfl;obtain⟨ra,rc,bs,st⟩:=r;simp only at h0 hi j
 obtain⟨b1,a5,ea,_⟩:=h.rd.at h0;simp only at ea
 subst ea;refine aR func319 ntmps319 aA (bC aA λrb w1 e1 y m ad=>bC aA λqb D e2 L b ae=>Xa.buildSlice Xb rfl λb3 w3 e3 M d af=>aN aA ?_);have N:=(m.trans b).trans d;refine bB (d.bP (b.bP y)) aA ?_;have O:Xl D.heap.size 5 1 w3 (.slice (some ⟨b3,0,none⟩) 0 0) 0 []:=Xl.empty (by omega) M;refine Xa.append (base:=D.heap.size) (xs:=[]) (news:=bs.map (Value.int .u8)) Xb rfl O d.size (by simp) (h.rd.bR N).cells J1 (by simp only;omega) λv4 w4 P Q ag=>aN aA ?_;have R:=O.bU d (XF _) Q;obtain⟨g,n,cur,rfl,ah,S,z,ai,T⟩:=P.form (by simp only;omega);have o:cur.toList=bs.map (Value.int .u8)++cur.toList.drop bs.length:=by
  have e:=XY bs.length cur.toList;rw[show cur.toList.take bs.length=bs.map (Value.int .u8) from by simpa using T] at e;exact e.symm
 obtain⟨rest,t⟩:∃rest,rest=cur.toList.drop bs.length:=⟨_,rfl⟩;rw[<-t] at o;have E:w4.heap[g]?=some (.cells (bs.map (Value.int .u8)++rest).toArray 5 (0,0)):=by rw[<-o];exact S
 have U:0+bs.length=bs.length:=by omega
 rw[U] at z⊢;refine Xa.loop (α:=Nat) (λk=>[(1,false,.int .i64 i),(2,false,.slice a l.length cap),(3,false,.pointer (some ⟨rb,0,none⟩)),(6,false,.pointer (some ⟨qb,0,none⟩)),(7,false,.slice (some ⟨g,0,none⟩) bs.length n),(8,false,.int .i64 k)])
  (λk w'=>w'.heap[g]?=some (.cells ((Et bs i l k).map (Value.int .u8)++rest).toArray 5 (0,0))/\Xc Xe D w'/\k<=l.length) (λk=>l.length-k) 0 ⟨rfl,rfl,rfl,rfl,rfl,rfl,trivial⟩ ⟨by rw[Xbt];exact E,R,by omega⟩ ?_
 rintro k w5 ⟨F,f,hk⟩ ih;have p:Xc Xe w w5:=(m.trans b).trans f;refine aN aA (aT aA (λG=>?_) λG=>?_)
 .have A:k<l.length:=by have:=bL G;omega
  obtain⟨b6,aa,rfl,V⟩:=(hr.bR p) k A;refine aV aA (aU k aA (aW aA V aA (aU (i+k) aA ?_)));have W:=Ry (k:=k) (l:=l) (i:=i) (bs:=bs) hi;refine aL aA F (XmD (by rw[W];omega)) aA λw6 h6 c a1=>?_;rw[XT,Xbs hi A] at h6;exact aV aA (ih (k+1) _ _ ⟨h6,f.sn c,by omega⟩ (by omega) ⟨rfl,rfl,rfl,rfl,rfl,rfl,trivial⟩)
 .have a2:k=l.length:=by have:=bM G;omega
  subst a2;rw[Xfs] at F;have H:=f.bP (b.bP y);refine bF H aA λw6 I c a1=>bB I aA (bF (c.heap (f.bP L) (by omega)) aA λJ q C aj=>?_);have K:J.heap[g]?=some (.cells ((Q4 bs i l).map (Value.int .u8)++rest).toArray 5 (0,0)):=C.heap (c.heap F (by omega)) (by omega);have s:=Jm hi;have a3:Xc Xe w J:=(p.sn c).sn C;have a4:Rd .u8 J (some ⟨g,0,none⟩) (Q4 bs i l):=Rd.of_take K (by simp);rw[<-s] at q;exact aK func319 q aA ⟨⟨some ⟨g,0,none⟩,n,Q4 bs i l,st⟩,rfl,rfl,rfl,⟨a4,by simp only[s];exact j,by simp only[s];exact z,λx u=>(Nu u).elim (h.rng x) (hb x)⟩,a3,g,rfl,by have:=m.size;have:=b.size;omega⟩
def Xdf(w:dD)(bs:List Int)(st e:Int):dE->dD->Prop:=λv w'=>∃r':RA,v=.tuple #[.agg (Ha r').toArray,.int .i64 e]/\r'.bs=bs/\r'.cM=st/\Yh w' r'/\Xc Xe w w'/\Nz w r'
def N1(st:Int):Prop:=0<=st/\st<=1000000000000
theorem Xlq(r:RA)(i:Nat)(a:Option Addr)(cap:Nat)(l:List Int)(w:dD)(h:Yh w r)(hst:N1 r.cM)(h0:0<r.bs.length)(hr:Rd .u8 w a l)(hb:Qi l)(hi:i+l.length<=r.bs.length):Xf prog 304 #[.agg (Ha r).toArray,.int .i64 i,.slice a l.length cap] w (Xdf w (Q4 r.bs i l) (r.cM+l.length) 0):=by
 have q:=h.len;unfold N1 at hst;refine aR func304 ntmps304 aA (bC aA λrb M e1 m u I=>bC aA λqb E e2 v d J=>bB (d.bP m) aA (bG (XbJ r i l.length E q) aA λN f=>aI aA (by rw[XcD.2 (by omega)];rfl) ?_));have g:=f.bP (d.bP m);refine bB g aA (aV aA (bF g aA λF s n K=>?_));have b:=((u.trans d).trans f).sn n;have k:=h.bQ b;refine bB s aA (aP aA (Xlr {r with cM:=r.cM+l.length} i a cap l F ⟨k.rd,k.len,k.lc,k.rng⟩ h0 (hr.bR b) hb hi) ?_);rintro _ O ⟨z,rfl,A,B,c,o,C⟩;have j:=o.bP (n.heap (f.bP v) (by omega));refine aN aA (bF j aA λH t p L=>?_);have D:Yh H z:=by
  exact⟨c.rd.keepU j (by simp[Yz]) p,c.len,c.lc,c.rng⟩
 exact aK func304 t aA ⟨z,rfl,A,B,D,((b.trans o).sn p),C.dC b.size⟩
theorem Xlo(r:RA)(t f n:Nat)(w:dD)(h:Yh w r)(hst:N1 r.cM)(h0:0<r.bs.length)(hf:f+n<=r.bs.length)(ht:t+n<=r.bs.length):Xf prog 272 #[.agg (Ha r).toArray,.int .i64 t,.int .i64 f,.int .i64 n] w (Xdf w (Q4 r.bs t (sub r.bs f n)) (r.cM+n) 0):=by
 have k:=h.len;have E:=h.lc;refine aR func272 ntmps272 aA (bC aA λrb w1 e1 m F U=>bC aA λqb G e2 H d V=>bB (d.bP m) aA (bG (XbJ r f n G k) aA λQ g=>aI aA (by rw[XcD.2 (by omega)];rfl) (bB (g.bP (d.bP m)) aA (bG (XbJ r t n Q k) aA λw4 o=>aI aA (by rw[XcD.2 (by omega)];rfl) ?_))));have p:=o.bP (g.bP (d.bP m));have C:=o.bP (g.bP H);refine aQ 14 (λb=>b=qb) (by kernel_rfl) aA λa=>aE a p aA (aE a p aA (aC a aA (Xd.slice Xb a rfl (l:=f) (h:=(f+n)) (by first|rfl|omega|simp[Dw]) (by first|rfl|omega|simp[Ds]) (by omega) (by omega) rfl ?_)));rw[show f+n-f=n from by omega];refine Xd.cK a rfl ?_;intro R y;have i:=(((F.trans d).trans g).trans o).trans y;have z:=Hf hf;have c:=Xlq r t (Aa r.a r.cap f 1) (r.cap-f) (sub r.bs f n) R (h.bQ i) hst h0 ((h.rd.bR i).shift hf E) (λx I=>h.rng x (ZT (ZA I))) (by rw[z];exact ht);rw[z] at c;refine Xn.call rfl c.fn (λJ=>c.mono λv G K=>⟨by obtain⟨_,_,_,_,_,S,_⟩:=K;exact J.up S,K⟩) ?_;rintro _ w6 _ ⟨T,rfl,L,M,j,A,N⟩;refine Xd.adv Xb a rfl (Xd.cK a rfl λw7 q=>?_);have s:=q.bP (A.bP (y.bP C));refine Xn.store Xb a rfl s (by first|(intro h;exact rfl)|(intro h;omega)) rfl rfl rfl λw8 D B W=>aF a aA λw9 u=>?_;have O:=((i.trans A).trans q).sn B;have P:=Yh.bQ ⟨((j.bQ q).rd).keepU s (by simp[Yz]) B,j.len,j.lc,j.rng⟩ u;exact aK func272 (u.bP D) aA ⟨T,rfl,L,M,P,O.trans u,N.dC i.size⟩
theorem Yh.bV{r:RA}{q:Nat}{c:Array dE}(h:Yh w r)(hq:w.heap[q]?=some (.cells c t fz))(hc:∀x∈c.toList,∀z,x≠.int .u8 z)(hs:Xc (λb=>b=q) w w'):Yh w' r:=
 ⟨h.rd.keepU hq hc hs,h.len,h.lc,h.rng⟩
structure RM where
 ra:RA
 f:Nat
 t:Nat
 size:Nat
 cE:Nat
def I9(m:RM):List dE:=[.slice m.ra.a m.ra.bs.length m.ra.cap,.int .i64 m.ra.cM,.int .i64 m.f,.int .i64 m.t,.int .i64 m.size,.int .i64 m.cE]
structure K6(w:dD)(m:RM):Prop where
 ra:Yh w m.ra
 pos:1<=m.size
 cE:m.cE<=m.size
 f:m.f+m.size<=m.ra.bs.length
 t:m.t+m.size<=m.ra.bs.length
theorem K6.bQ{w w':dD}{m:RM}(h:K6 w m)(hc:Xc Xe w w'):K6 w' m:=⟨h.ra.bQ hc,h.pos,h.cE,h.f,h.t⟩
def V9(m:RM)(w:dD)(bs:List Int)(st:Int)(g:Nat)(m':RM)(w':dD):Prop:=
 m'.ra.bs=bs/\m'.ra.cM=st/\m'.f=m.f/\m'.t=m.t/\m'.size=m.size/\m'.cE=g/\Yh w' m'.ra/\Xc Xe w w'/\(Nz w m'.ra\/m'.ra.a=m.ra.a)
theorem XfO(r:RA)(i n:Int)(w:dD)(hl:r.bs.length<=4194304)(hn:1<=n):Xf prog 223 #[.agg (Ha r).toArray,.int .i64 i,.int .i64 n] w (Grow (.bool (Gx r.bs.length n i)) w):=by
 refine aR func223 ntmps223 aA (bC aA λb k e1 g a j=>aT aA (λc=>?_) λc=>?_)
 .have d:=bL c;refine bB g aA (aT aA (λf=>?_) λf=>?_)
  .have h:=bL f;exact bB g aA (aV aA (bE func223 aA ⟨Q0 (by unfold Gx;rw[bN d,bN h];rfl),a⟩))
  .exact bE func223 aA ⟨Q0 (by unfold Gx;rw[bO (bM f)];simp),a⟩
 .have d:=bM c;exact bE func223 aA ⟨Q0 (by unfold Gx;rw[bO d];rfl),a⟩
theorem XfP(m:RM)(i n:Nat)(w:dD)(h:K6 w m)(hst:N1 m.ra.cM)(hi:i+n<=m.size)(hn:0<n):Xf prog 224 #[.agg (I9 m).toArray,.int .i64 i,.int .i64 n] w
 (λv w'=>∃m',v=.agg (I9 m').toArray/\V9 m w (Ia m.ra.bs (m.t+i) (m.f+i) n) (m.ra.cM+n) m.cE m' w'):=by
 have Q:=h.ra.len;have hf:=h.f;have ht:=h.t;have e1:((m.t:Int)+i)=((m.t+i:Nat):Int):=by omega
 have e2:((m.f:Int)+i)=((m.f+i:Nat):Int):=by omega
 refine aR func224 ntmps224 aA (bC aA λmb R H s d I=>bC aA λqb F J t b K=>aS aA ?_);have a:=b.bP s;refine bB a aA (bB a aA (aV aA (bB a aA (aV aA ?_))));rw[e1,e2];refine aP aA (Xlo m.ra (m.t+i) (m.f+i) n F ((h.ra.bQ d).bQ b) hst (by have:=h.pos;omega) (by omega) (by omega)) ?_;rintro _ S ⟨G,rfl,u,y,z,f,A⟩;refine aN aA (bC aA λnb T L B C M=>bF B aA λU p D N=>?_);have c:=C.sn D;have g:=c.bP (f.bP a);refine bB p aA (bF g aA λV q j O=>bB q aA ?_);have k:=j.heap (c.bP (f.bP t)) (show ¬_ by omega);refine bF k aA λW r o P=>?_;exact aK func224 r aA ⟨{m with ra:=G},rfl,u,y,rfl,rfl,rfl,rfl,(((z.bQ c).bV g (by simp[Yz,I9]) j).bV k (by simp[Yz]) o),(((((d.trans b).trans f).trans c).sn j).sn o),.inl (A.dC (d.trans b).size)⟩
theorem XlS(m:RM)(i n:Int)(w:dD)(hn:n<1):Xf prog 224 #[.agg (I9 m).toArray,.int .i64 i,.int .i64 n] w (Grow (.agg (I9 m).toArray) w):=by
 exact aR func224 ntmps224 aA (bC aA λmb q h c d j=>bC aA λqb r k f a l=>bI aA (bB (a.bP c) aA (bF f aA λs b g o=>aK func224 b aA ⟨rfl,(d.trans a).sn g⟩)))
def Jk(bs:List Int)(f t g k:Nat):List Int:=if k=0 then bs else Ia bs (t+g) (f+g) k
theorem XlQ(m:RM)(n:Int)(w:dD)(h:K6 w m)(hst:N1 m.ra.cM):Xf prog 153 #[.agg (I9 m).toArray,.int .i64 n] w
 (λv w'=>∃m',v=.tuple #[.agg (I9 m').toArray,.int .i64 (Ed n (m.size-m.cE))]/\V9 m w (Jk m.ra.bs m.f m.t m.cE (Ed n (m.size-m.cE))) (m.ra.cM+Ed n (m.size-m.cE)) (m.cE+Ed n (m.size-m.cE)) m' w'):=by
 have hl:=h.ra.len;have hg:=h.cE;have ht:=h.t;obtain⟨k,B⟩:∃k,k=Ed n (m.size-m.cE):=⟨_,rfl⟩;rw[<-B];unfold Ed at B;refine aR func153 ntmps153 aA (bC aA λmb w1 P C c Q=>bC aA λqb M R i b S=>?_);have a:=b.bP C;refine bB a aA (bB a aA (aV aA ?_));have D:(if ((m.size:Int)-m.cE)<n then ((m.size:Int)-m.cE) else n)<1/\k=0\/(if ((m.size:Int)-m.cE)<n then ((m.size:Int)-m.cE) else n)=(k:Int)/\1<=k:=by
  split <;> omega
 rcases D with⟨q,r⟩|⟨q,r⟩
 .subst r;refine bI aA (bB a aA (bF i aA λN u f s=>?_));exact aK func153 u aA ⟨m,rfl,by unfold Jk;rw[bK rfl],by simp,rfl,rfl,rfl,by simp,((h.ra.bQ (c.trans b)).bV i (by simp[Yz]) f),((c.trans b).sn f),.inr rfl⟩
 .rw[q];refine aS aA ?_;refine bB a aA (bB a aA (aP aA (XfP m m.cE k M ((h.bQ c).bQ b) hst (by omega) (by omega)) ?_));rintro _ N ⟨O,rfl,E,f,F,G,s,T,H,d,I⟩;refine aN aA (bC aA λnb w4 U J K V=>bF J aA λw5 l L W=>?_);have g:=K.sn L;refine bB (g.bP (d.bP a)) aA (aV aA ?_);rw[show((m.cE:Int)+k)=((m.cE+k:Nat):Int) from by omega];refine bF l aA λw6 z o a0=>bB z aA ?_;have p:=o.heap (g.bP (d.bP i)) (show ¬_ by have:=d.size;omega);refine bF p aA λw7 A t a1=>?_;exact aK func153 A aA ⟨{O with cE:=m.cE+k},rfl,by unfold Jk;rw[bJ (by omega)];exact E,f,F,G,s,rfl,(((H.bQ g).bV l (by simp[Yz,I9]) o).bV p (by simp[Yz]) t),(((((c.trans b).trans d).trans g).bU o (λx y j=>by have:=d.size;omega)).sn t),I.imp (λh=>h.dC (c.trans b).size) id⟩
def E0(bs:List Int)(f t g i n:Nat):List Int:=if Q5 i n g=0 then bs else Ia bs (t+i) (f+i) (Q5 i n g)
theorem XlR(m:RM)(i n:Nat)(w:dD)(h:K6 w m)(hst:N1 m.ra.cM)(hi:i+n<=m.size):Xf prog 261 #[.agg (I9 m).toArray,.int .i64 i,.int .i64 n] w
 (λv w'=>∃m',v=.tuple #[.agg (I9 m').toArray,.int .i64 0]/\V9 m w (E0 m.ra.bs m.f m.t m.cE i n) (m.ra.cM+Q5 i n m.cE) m.cE m' w'):=by
 have L:=h.ra.len;have M:=h.cE;have ht:=h.t;refine aR func261 ntmps261 aA (bC aA λmb N H o f I=>bC aA λqb p J l b K=>?_);have d:=b.bP o;refine aS aA (aS aA (bB d aA (aS aA (bB d aA (aV aA (aS aA (bB d aA (aV aA (bB d aA (aJ aA (by split <;> omega) ?_))))))))));by_cases k:Q5 i n m.cE=0
 .refine bG (XlS m i _ p (by unfold Q5 at k;split <;> omega)) aA λD c=>?_;have a:=c.bP l;refine bF a aA λE j g q=>?_;exact aK func261 j aA ⟨m,rfl,by unfold E0;rw[bK k],by rw[k];simp,rfl,rfl,rfl,rfl,((((h.ra.bQ f).bQ b).bQ c).bV a (by simp[Yz]) g),(((f.trans b).trans c).sn g),.inr rfl⟩
 .have e:(if (m.cE:Int)<(i:Int)+n then (m.cE:Int) else (i:Int)+n)-i=((Q5 i n m.cE:Nat):Int):=by unfold Q5 at k⊢;split <;> omega
  rw[e];refine aP aA (XfP m i (Q5 i n m.cE) p ((h.bQ f).bQ b) hst (by unfold Q5;omega) (by omega)) ?_;rintro _ D ⟨G,rfl,s,t,u,y,z,A,B,c,C⟩;have a:=c.bP l;refine aN aA (bF a aA λE j g q=>?_);exact aK func261 j aA ⟨G,rfl,by unfold E0;rw[bJ k];exact s,t,u,y,z,A,(B.bV a (by simp[Yz]) g),(((f.trans b).trans c).sn g),C.imp (λh=>h.dC (f.trans b).size) id⟩
theorem XlP(r:RA)(f t size:Nat)(w:dD)(h:Yh w r)(hm:Oz r.bs.length f t size=true):Xf prog 151 #[.agg (Ha r).toArray,.int .i64 f,.int .i64 t,.int .i64 size] w
 (Grow (.tuple #[.agg (I9 ⟨r,f,t,size,0⟩).toArray,.int .i64 0]) w):=by
 have o:=h.len;have g:=Ui.1 hm;have p:Gx r.bs.length size f=true:=T5.2 (by omega);have q:Gx r.bs.length size t=true:=T5.2 (by omega);refine aR func151 ntmps151 aA (bC aA λrb G e1 s n E=>bC aA λqb A e2 u d F=>?_);have i:=d.bP s;refine aS aA (bB i aA (bG (XfO r f size A o (by omega)) aA λB b=>aI aA (by rw[p];rfl) ?_));have j:=b.bP i;refine bB j aA (bG (XfO r t size B o (by omega)) aA λH c=>aI aA (by rw[q];rfl) (aV aA ?_));have k:=c.bP j;have l:=c.bP (b.bP u);refine aT aA (λv=>?_) λv=>?_
 .have I:=bL v;refine aV aA (aS aA (bB k aA (aO aA (bF l aA λC a m y=>?_))));exact aK func151 a aA ⟨rfl,((((n.trans d).trans b).trans c).sn m)⟩
 .refine bB k aA (aO aA (bF l aA λC a m y=>?_));exact aK func151 a aA ⟨rfl,((((n.trans d).trans b).trans c).sn m)⟩
theorem Xci{f size:Nat}(hk:g+k<=size)(hf:f+size<=bs.length)(ht:t+size<=bs.length):(Jk bs f t g k).length=bs.length:=by
 unfold Jk;split
 .rfl
 .exact P7 (by omega) (by omega)
structure ThM where
 size:Int
 q:PlcM
structure MvM where
 who:Int
 pf:Int
 fa:Int
 pt:Int
 ta:Int
 f:Nat
 t:Nat
 size:Nat
 cE:Nat
structure StM where
 bV:List Int
 bs:List Int
 rm:RmM
 th:List (Option ThM)
 mv:List (Option MvM)
def PlcM.cQ(q:PlcM):Plc:=⟨q.cL,q.cR,q.idx,none,0,q.bS⟩
theorem Xhu(c:Conf)(q:Plc):Yk c q=Yk c (Xx q).cQ:=by cases q;rfl
theorem Xht(c:Conf)(q:Plc):Z5 c q=Z5 c (Xx q).cQ:=by cases q;rfl
theorem Xaw(c:Conf)(q:Plc)(i n:Int):Qt c q i n=Qt c (Xx q).cQ i n:=by cases q;rfl
theorem Xn9(c:Conf)(q:Plc)(i:Nat):B5 c q i=B5 c (Xx q).cQ i:=by cases q;rfl
theorem XcF(c:Conf)(q:Plc)(bs:List Int)(i n:Nat):Yg c q bs i n=Yg c (Xx q).cQ bs i n:=by cases q;rfl
theorem Mr(c:Conf)(q:Plc)(bs:List Int)(i:Nat)(l:List Int):∀k,Q9 c q bs i l k=Q9 c (Xx q).cQ bs i l k
 |0=>rfl
 |k+1=>by unfold Q9;rw[Mr c q bs i l k,Xn9]
theorem Ju(c:Conf)(q:Plc)(i n:Nat):Zi c q i n=Zi c (Xx q).cQ i n:=by cases q;rfl
def Xy(s:StM)(k:Int):Option MvM:=if 0<=k then s.mv.getD k.toNat none else none
def B3(s:StM)(o:Int):Option ThM:=if 0<=o then s.th.getD o.toNat none else none
def Hp(cG bV:Int):Bool:=decide (bV<cG) && decide (bV+1<cG)
def Ho(c:Conf)(k cR idx:Int):Int:=Ai c ⟨k,cR,idx,none,0,[]⟩
def Ql(s:StM)(n:Int):StM:={s with rm:={s.rm with tot:=Xw s.rm.tot n}}
def Ks(c:Conf)(M:RmM)(k:Nat):MvM:=⟨Zd M k (Ym M k).1 (Ym M k).2.1,(Ym M k).1,(Ym M k).2.1,(Ym M k).2.2.1,(Ym M k).2.2.2,(Ho c k (Ym M k).1 (Ym M k).2.1).toNat,(Ho c k (Ym M k).2.2.1 (Ym M k).2.2.2).toNat,(Ya c k).toNat,0⟩
def Br(s:StM)(k:Nat):Bool:=(Xy s k).isNone && Hp (Qq s.rm k:Nat) (s.bV.getD k 0) && Jg s.rm k
def Yw(c:Conf)(s:StM)(k:Nat):StM:=if Br s k=true then {s with rm:=Qj s.rm k (Zd s.rm k (Ym s.rm k).1 (Ym s.rm k).2.1),mv:=s.mv.set k (some (Ks c s.rm k))} else s
def Zv(m:MvM)(n:Int):Nat:=Ed n (m.size-m.cE)
def Qw(s:StM)(o:Int):Int:=match B3 s o with|some t=>t.size|none=>0
def Ae(s:StM)(m:MvM)(n:Int):StM:=Ql {s with bs:=Jk s.bs m.f m.t m.cE (Zv m n)} (Zv m n)
def Yo(s:StM)(k:Nat)(n:Int):StM:=match Xy s k with
 |none=>s
 |some m=>if m.cE+Zv m n<m.size then {Ae s m n with mv:=s.mv.set k (some {m with cE:=m.cE+Zv m n})}
  else {Ae s m n with mv:=s.mv.set k none,th:=s.th.set m.who.toNat (some ⟨Qw s m.who,⟨k,m.pt,m.ta,[]⟩⟩),rm:=Q2 (Ae s m n).rm k m.pf m.fa}
def Zh(s:StM)(k:Int):StM:=match Xy s k with|none=>s|some m=>Yo s k.toNat m.size
def Fy(c:Conf)(s:StM)(size:Int):Option MvM:=match Xy s (Xm c.bT size) with
 |some m=>if Qq s.rm (Xm c.bT size)=0 then some m else none
 |none=>none
def Yl(c:Conf)(s:StM)(who size:Int):PlcM:=match Fy c s size with
 |some m=>⟨Xm c.bT size,m.pt,m.ta,[]⟩
 |none=>Bz c s.rm who size
def Yd(c:Conf)(s:StM)(who size:Int):StM:=match Fy c s size with
 |some m=>Ql {s with mv:=s.mv.set (Xm c.bT size).toNat none,rm:=Qu s.rm (Xm c.bT size) m.pt m.ta who} 3
 |none=>{s with rm:=Av c s.rm who size}
def Yp(c:Conf)(s:StM)(q:PlcM)(at':Nat)(l:List Int):StM:=Ql {s with bs:=Q9 c q.cQ s.bs at' l l.length} (Zi c q.cQ at' l.length)
def Q3(c:Conf)(s:StM)(who size:Int):StM:=
 {Yp c (Yd c s who size) (Yl c s who size) 0 (X6 (Z5 c (Yl c s who size).cQ).toNat) with th:=s.th.set who.toNat (some ⟨size,Yl c s who size⟩)}
def Cd(c:Conf)(s:StM)(q:PlcM):StM:=
 if q.cL<0 then {s with rm:=Qd s.rm q} else
  Yo (Yw c {s with rm:=Qd s.rm q} q.cL.toNat) q.cL.toNat c.step
def Z7(s:StM)(o:Int):Int:=if o<0\/(s.th.length:Int)<=o then 1 else match B3 s o with|none=>9|some _=>0
def Yt(c:Conf)(s:StM)(size:Int):Int:=if size<1\/c.cH<size then 3 else if (Xy s (Xm c.bT size)).isSome then 0 else Qg c s.rm size
def Cn(c:Conf)(s:StM)(o size:Int):Int:=if Z7 s o=1 then 1 else if Z7 s o=0 then 10 else Yt c s size
def Ab(c:Conf)(s:StM)(o size:Int):StM:=if Cn c s o size=0 then Q3 c s o size else s
def Y9(s:StM)(o:Int):PlcM:=match B3 s o with|some t=>t.q|none=>⟨0,0,0,[]⟩
def Bn(c:Conf)(s:StM)(o:Int):StM:=if Z7 s o≠0 then s else
 Cd c {Zh s (Y9 s o).cL with th:=(Zh s (Y9 s o).cL).th.set o.toNat none} (Y9 (Zh s (Y9 s o).cL) o)
def A0(c:Conf)(old size:Int):Bool:=decide (Xm c.bT old=Xm c.bT size) && (decide (Xm c.bT old≠-1)||decide (Qp old c.size=Qp size c.size))
def Ah(s:StM)(o:Int)(at' n:Nat):StM:=match Xy s (Y9 s o).cL with
 |some m=>if m.who=o then Ql {s with bs:=E0 s.bs m.f m.t m.cE at' n} (Q5 at' n m.cE) else s
 |none=>s
def A8(c:Conf)(s:StM)(o size:Int):Int:=if Z7 s o≠0 then Z7 s o else if size<1\/c.cH<size then 3 else if A0 c (Qw s o) size=true then 0 else Yt c s size
def Eb(s:StM)(o:Int)(t:ThM):StM:={s with th:=s.th.set o.toNat (some t)}
def Ka(c:Conf)(s:StM)(o size:Int):StM:=
 let s1:=Zh s (Y9 s o).cL
 let m:=(min (Qw s o) size).toNat
 let s2:=Q3 c (Ql s1 (Zi c (Y9 s1 o).cQ 0 m)) o size
 Cd c (Yp c s2 (Y9 s2 o) 0 (Yg c (Y9 s1 o).cQ s1.bs 0 m)) (Y9 s1 o)
def Ag(c:Conf)(s:StM)(o size:Int):StM:=
 if A8 c s o size≠0 then s
 else if A0 c (Qw s o) size=true then
  (if size<Qw s o then Ah (Eb (Yp c s (Y9 s o) size.toNat (X6 (Qw s o-size).toNat)) o ⟨size,Y9 s o⟩) o size.toNat (Qw s o-size).toNat
   else Eb s o ⟨size,Y9 s o⟩)
 else Ka c s o size
def Qo(s:StM)(o at' n:Int):Int:=if Z7 s o≠0 then Z7 s o else if at'<0\/n<0\/Qw s o<n\/Qw s o-n<at' then 8 else 0
def Cp(c:Conf)(s:StM)(o at' n:Int):List Int:=if Qo s o at' n=0 then Yg c (Y9 s o).cQ s.bs at'.toNat n.toNat else []
def Co(c:Conf)(s:StM)(o at' n:Int):StM:=if Qo s o at' n=0 then Ql s (Zi c (Y9 s o).cQ at'.toNat n.toNat) else s
def C9(c:Conf)(s:StM)(o at':Int)(l:List Int):StM:=if Qo s o at' l.length=0 then Ah (Yp c s (Y9 s o) at'.toNat l) o at'.toNat l.length else s
def tickK(c:Conf)(x:StM×Int)(k:Nat):StM×Int:=
 if x.2<1 then x else match Xy (Yw c x.1 k) k with
  |none=>(Yw c x.1 k,x.2)
  |some m=>(Yo (Yw c x.1 k) k x.2,x.2-Zv m x.2)
def tickTo(c:Conf)(s:StM)(n:Nat):StM×Int:=(List.range n).foldl (tickK c) (s,c.step)
def Ec(c:Conf)(s:StM):StM:=(tickTo c s s.mv.length).1
def Ce(s:StM)(k bV:Int):Int:=if k<0\/(s.mv.length:Int)<=k\/bV<0\/1024<bV then 1 else 0
def C8(s:StM)(k bV:Int):StM:=if Ce s k bV=0 then {s with bV:=s.bV.set k.toNat bV} else s
def Vt(l:List (Option ThM)):List Int:=l.filterMap λt=>t.map (·.size)
def Zs(s:StM):Int:=(Vt s.th).sum
def Es(c:Conf):StM:=⟨c.bV,X6 (c.size*c.bS).toNat,Ii c 0,List.replicate c.cN.toNat none,List.replicate c.bT.length none⟩
structure StM.OkP(c:Conf)(s:StM)(pd:Option (Nat×PlcM)):Prop where
 may:Zb c=true
 rm:Qa c s.rm
 kl:s.bV.length=c.bT.length
 kr:∀x∈s.bV,0<=x/\x<=1024
 bl:(s.bs.length:Int)=c.size*c.bS
 bi:Qi s.bs
 tl:(s.th.length:Int)=c.cN
 ml:s.mv.length=c.bT.length
 size:∀(o:Nat) t,s.th[o]?=some (some t)->1<=t.size/\t.size<=c.cH
 small:∀(o:Nat) t,s.th[o]?=some (some t)->Xm c.bT t.size≠-1->t.q.cL=Xm c.bT t.size/\t.q.bS=[]/\Zd s.rm t.q.cL t.q.cR t.q.idx=o
 large:∀(o:Nat) t,s.th[o]?=some (some t)->Xm c.bT t.size=-1 -> ∃n r,(n,r)∈s.rm.lg/\t.q=⟨-1,(n:Nat),0,X4 r⟩/\(r.length+1:Int)=Z9 t.size c.size
 linj:∀(o o':Nat) t t',s.th[o]?=some (some t)->s.th[o']?=some (some t')->t.q.cL=-1->t'.q.cL=-1->t.q.cR=t'.q.cR->o=o'
 mv:∀(k:Nat) m,s.mv[k]?=some (some m)->(∃(o:Nat),∃t,m.who=o/\s.th[o]?=some (some t)/\t.q=⟨(k:Nat),m.pf,m.fa,[]⟩)/\Zd s.rm k m.pt m.ta=m.who/\¬(m.pf=m.pt/\m.fa=m.ta)/\(m.f:Int)=Ho c k m.pf m.fa/\(m.t:Int)=Ho c k m.pt m.ta/\(m.size:Int)=Ya c k/\m.cE<m.size
 own:∀k n a:Int,Zd s.rm k n a≠-1->(∃(o:Nat),∃t,Zd s.rm k n a=o/\s.th[o]?=some (some t)/\(t.q=⟨k,n,a,[]⟩\/∃m,Xy s k=some m/\m.pt=n/\m.ta=a))\/∃o,pd=some (o,⟨k,n,a,[]⟩)
 ps:∀o q,pd=some (o,q)->q.cL≠-1->q.bS=[]/\Zd s.rm q.cL q.cR q.idx=o/\(∀m,Xy s q.cL=some m -> ¬(m.pt=q.cR/\m.ta=q.idx))/\∀(o':Nat) t,s.th[o']?=some (some t)->t.q≠q
 pl:∀o q,pd=some (o,q)->q.cL=-1 -> ∃n r,(n,r)∈s.rm.lg/\q=⟨-1,(n:Nat),0,X4 r⟩/\∀(o':Nat) t,s.th[o']?=some (some t)->t.q.cL=-1->t.q.cR≠(n:Nat)
abbrev StM.Ok(c:Conf)(s:StM):Prop:=s.OkP c none
end Go.Proofs.YtdeihcnepljjaaaGreatDoor
