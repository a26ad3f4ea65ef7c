/-
  Texts put together: Arena3, View5, View6, View7, View8, Laws21, Ref6, Few, Ref21, Ref21b, Ref21d, Cut16, Ref21e, Ref21f, Ref21g, Ref21h, Ref21i, Laws6b, Move, Move2, Lap, Laws15, Ref6b, Ref6c, Use, Use2, Laws6d, Act, Ref15, Laws15c, Stm.
-/
import Derived.Test.YtdeihcnepljjaaaGreatDoorPt5
import Derived.Lib.SliceRun
import Derived.Test.YtdeihcnepljjaaaGreatDoorQRule12
import Derived.Test.YtdeihcnepljjaaaGreatDoorQRule8
import Derived.Test.YtdeihcnepljjaaaGreatDoorQRule9
set_option linter.unusedVariables false
set_option maxRecDepth 100000
namespace Go.Proofs.YtdeihcnepljjaaaGreatDoor
open Go.RowKit
open Go renaming World→dD,Value→dE
open Bool renaming and_eq_true->XJ
open Int renaming toNat_natCast->XB,eq_ofNat_of_zero_le->XE,mul_le_mul_of_nonneg_right->ZD,mul_le_mul->ZG,mul_nonneg->ZI,mul_comm->YP,add_mul->QL,one_mul->QM
open List renaming getD_eq_getElem?_getD->XA,getElem?_eq_some_iff->XC,getElem?_eq_getElem->XD,length_set->XG,length_replicate->XI,map_append->XL,getElem_mem->XM,length_cons->XN,mem_map->XQ,length_take->XX,mem_of_mem_take->XY,take_append_drop->XZ,getElem?_append_left->ZA,length_append->ZC,take_add_one->ZH,map_cons->ZK,take_length->ZL,mem_or_eq_of_mem_set->ZN,mem_cons_self->ZO,take_of_length_le->ZP,length_eq_zero_iff->ZR,mem_of_mem_drop->ZU,drop_eq_getElem_cons->ZV,flatMap_cons->ZX,map_set->ZY,eq_of_mem_replicate->YA,mem_cons_of_mem->YB,getElem?_append_right->YC,getElem?_set->YE,set_append_left->YJ,getElem?_take->YV,range_succ->QC,any_eq_false->QG,sum_cons->QH,any_eq_true->QR,getElem_of_mem->QT,getD->QV,map_take->QZ
open Nat renaming le_refl->XF,zero_le->XP,zero_add->XT,le_trans->ZZ,mod_lt->YQ,div_add_mod->QB,mul_comm->QE,strongRecOn->QP
open Option renaming map_some->QX
open Go.Proofs.Tryz (func107 func109 func125 func127 func150 func151 func153 func158 func164 func167 func169 func172 func194 func202 func203 func207 func209 func213 func214 func222 func223 func224 func233 func253 func254 func258 func261 func262 func263 func272 func300 func303 func304 func319 func7 ntmps107 ntmps109 ntmps125 ntmps127 ntmps150 ntmps151 ntmps153 ntmps158 ntmps164 ntmps167 ntmps169 ntmps172 ntmps194 ntmps202 ntmps203 ntmps207 ntmps209 ntmps213 ntmps214 ntmps222 ntmps223 ntmps224 ntmps233 ntmps253 ntmps254 ntmps258 ntmps261 ntmps262 ntmps263 ntmps272 ntmps300 ntmps303 ntmps304 ntmps319 ntmps7 prog)
variable {A:Ar}{V:ArV}{c:Conf}{l':IL}{ahead by' cS cH size cN u who z:Int}{lg:List (Nat×List Nat)}{ps:List IL}{bs l p zs:List Int}{l2 ws:List Nat}{cs rest xs:List dE}{N at' b base cap d fuel g i j k lm lo m n o qb sz t tm ty vb xb y:Nat}{e:Nat×List Int}{fz:Nat×Nat}{f:Nat->Int}{G:Nat->Pg}{B C F F' Fr Q S S' T X:Nat->Prop}{pd pd2:Option (Nat×PlcM)}{a:Option Addr}{pg:PgL}{pl':PlM}{q:Plc}{R:Rm}{M:RmM}{x x':Sm}{α:Type}{v:dE}{w w' w'' w0 w1 w2:dD}{cells:α->List dE}
theorem Xik(A:Ar)(V:ArV)(i n:Nat)(w:dD)(h:X8 w A V)(ht:i+n<=V.bs.length):Xe prog 281 #[.pointer (some ⟨A.ab,0,none⟩),.int .i64 i,.int .i64 n] w
 (λv w'=>∃x,v=.tuple #[.slice x n (V.bs.length-i),.int .i64 0]/\(0<n->x=some ⟨A.db,i,none⟩)/\x.isSome=true/\w=w'):=
 (Xdl A V i n w h ht).mono λ_ _ ⟨a,b⟩=>⟨_,a,λc=>XgS ht c,by unfold Q9;split <;> rfl,b⟩
theorem Xdk(A:Ar)(V:ArV)(t f n:Nat)(w:dD)(h:X8 w A V)(hf:f+n<=V.bs.length)(ht:t+n<=V.bs.length):Xe prog 254 #[.pointer (some ⟨A.ab,0,none⟩),.int .i64 t,.int .i64 f,.int .i64 n] w (λv w'=>v=.int .i64 0/\X8 w' A {V.cT A n with bs:=Q3 V.bs t (sub V.bs f n)}/\Xc (Zw A) w w'):=by
 refine aR func254 ntmps254 aA (aP aA (Xik A V f n w h hf) ?_);rintro _ E ⟨y,rfl,u,_,rfl⟩;refine aN aA (aS aA (aP aA (Te A V t n w h ht) ?_));rintro _ z ⟨x,rfl,a,_,d,B⟩;refine aN aA ?_;have e:Xc (Zw A) w z:=B.mono λb _ m=>.inr m;have e1:=V.charge_bs A n;by_cases q:n=0
 .refine Xa.copy0 Xb rfl (by simp[q]) rfl ?_;subst q;have o:sub V.bs f 0=[]:=by simp[sub]
  exact bE func254 aA ⟨rfl,by rw[o,V4,<-V.charge_bs A 0];exact d,e⟩
 .have r:=a (by omega);have s:=u (by omega);subst r s;have g:=d.sub (i:=f) (n:=n) (x:=some ⟨A.db,f,none⟩) (λ_=>rfl) (by rw[e1];exact hf);rw[e1] at g;have j:=d.dat;rw[e1] at j;have c:=Hc hf;refine Xa.copy Xb rfl j (cs:=(sub V.bs f n).map (Value.int .u8)) (by simp[c]) g.cells (by simp[c];omega) J1 λF k l D=>aN aA ?_;have p:(V.bs.map (Value.int .u8)).take t++(sub V.bs f n).map (Value.int .u8)++(V.bs.map (Value.int .u8)).drop (t+((sub V.bs f n).map (Value.int .u8)).length)=(Q3 V.bs t (sub V.bs f n)).map (Value.int .u8):=by
   unfold Q3;simp[QZ,List.map_drop]
  rw[p] at k;have C:=d.laid k l (by rw[Jl (by rw[c];exact ht),e1]) (λx a=>(Nw a).elim (h.rng x) (λa=>h.rng x (ZU (XY a))));exact bE func254 aA ⟨rfl,C,e.trans (l.mono λb _ m=>.inl m)⟩
theorem Nv(h:i+l.length<=bs.length):(Q3 bs i l).getD j 0=if j<i then bs.getD j 0 else if j<i+l.length then l.getD (j-i) 0 else bs.getD j 0:=by
 unfold Q3;simp only[XA];by_cases a:j<i
 .rw[bK a,List.append_assoc,ZA (by simp;omega),YV,bK a]
 .rw[bJ a];by_cases b:j<i+l.length
  .rw[bK b,ZA (by simp;omega),YC (by simp;omega)];simp[show min i bs.length=i from by omega]
  .rw[bJ b,YC (by simp;omega)];simp only[ZC,XX,List.getElem?_drop,show min i bs.length=i from by omega];rw[show i+l.length+(j-(i+l.length))=j from by omega]
theorem Xec{a b:List Int}(hl:a.length=b.length)(h:∀j,j<a.length->a.getD j 0=b.getD j 0):a=b:=by
 apply List.ext_getElem hl
 intro j c d;have:=h j c
 simpa [QV,c,d] using this
theorem XmR{x:Int}(hi:i<l.length):(l.set i x).getD j 0=if j=i then x else l.getD j 0:=by
 simp only[XA,YE];by_cases h:i=j
 .subst h;simp[hi]
 .rw[bJ h,bJ (Ne.symm h)]
theorem Vh:∀(l:List dE) (i:Nat) (v:dE),i<l.length->Z2 l i [v]=some (l.set i v)
 |x::r,0,v,_=>by simp[Z2]
 |x::r,i+1,v,h=>by simp[Z2,Vh r i v (by simpa using h)]
theorem XmP{x:Int}(hi:i<l.length):Z2 (l.map (Value.int .u8)) i [.int .u8 x]=some ((l.set i x).map (Value.int .u8)):=by
 rw[Vh _ _ _ (by simpa using hi),ZY]
theorem Xor:IntKind.u8.wrap z=z%256:=by
 simp only[IntKind.wrap,IntKind.signed,IntKind.bits]
 simp
def Ep(bs:List Int)(i:Nat)(l:List Int)(k:Nat):List Int:=Q3 bs i (l.take k)
theorem Xbp(h:i+l.length<=bs.length)(hk:k<l.length):(Ep bs i l k).set (i+k) (l.getD k 0)=Ep bs i l (k+1):=by
 unfold Ep;have n:(l.take k).length=k:=by simp;omega
 have o:(l.take (k+1)).length=k+1:=by simp;omega
 have c:(Q3 bs i (l.take k)).length=bs.length:=Jl (by omega);have d:(Q3 bs i (l.take (k+1))).length=bs.length:=Jl (by omega);refine Xec (by simp[c,d]) λj p=>?_;have f:∀m,m<k->(l.take k).getD m 0=l.getD m 0:=λm hm=>by simp[QV,hm]
 have a:∀m,m<k+1->(l.take (k+1)).getD m 0=l.getD m 0:=λm hm=>by simp[QV,hm]
 rw[XmR (by omega),Nv (by omega),Nv (by omega),n,o];by_cases e:j=i+k
 .subst e;rw[bK rfl,bJ (by omega),bK (by omega),show i+k-i=k from by omega,a k (by omega)]
 .rw[bJ e];by_cases b:j<i
  .rw[bK b,bK b]
  .rw[bJ b,bJ b];by_cases g:j<i+k
   .rw[bK g,bK (by omega),f _ (by omega),a _ (by omega)]
   .rw[bJ g,bJ (by omega)]
theorem Xbq:Ep bs i l 0=bs:=by unfold Ep;simp[V4]
theorem Xfv:Ep bs i l l.length=Q3 bs i l:=by unfold Ep;rw[ZL]
theorem Rz(h:i+l.length<=bs.length):(Ep bs i l k).length=bs.length:=Jl (by simp;omega)
theorem XkV(h:Qh bs)(h':Qh l):Qh (Ep bs i l k):=λx a=>(Nw a).elim (h x) (λa=>h' x (XY a))
theorem XkG{c:Int}(h:0<=c/\c<256):Lc .or .u8 0 c=c:=by
 obtain⟨c,rfl⟩:=XE h.1;have a:(BitVec.ofInt 8 (0:Int)|||BitVec.ofInt 8 (c:Int)).toNat=c:=by
  rw[BitVec.toNat_or,BitVec.toNat_ofInt,BitVec.toNat_ofInt];rw[show((c:Int)%((2^8:Nat):Int)).toNat=c from by omega]
  simp
 change IntKind.u8.wrap ((BitVec.ofInt 8 (0:Int)|||BitVec.ofInt 8 (c:Int)).toNat:Int)=_
 rw[a,Xor];omega
theorem XiT(h:X8 w A V)(hj:j<V.bs.length):w.cell? ⟨A.db,j,none⟩=some (.int .u8 (V.bs.getD j 0)):=by
 rw[Ys h.dat];simp[hj]
theorem Xif(A:Ar)(V:ArV)(i n:Nat)(c:Int)(w:dD)(h:X8 w A V)(ht:i+n<=V.bs.length)(hc:0<=c/\c<256):Xe prog 172 #[.pointer (some ⟨A.ab,0,none⟩),.int .i64 i,.int .i64 n,.int .u8 c] w (λv w'=>v=.int .i64 0/\X8 w' A {V.cT A n with bs:=Q3 V.bs i (List.replicate n c)}/\Xc (Zw A) w w'):=by
 have U:=h.len;refine aR func172 ntmps172 aA (aP aA (Te A V i n w h ht) ?_);rintro _ W ⟨x,rfl,a,_,C,hs⟩;refine aN aA ?_;have p:Xc (Zw A) w W:=hs.mono λb _ f=>.inr f;have e1:=V.charge_bs A n;by_cases J:n=0
 .refine Xa.clear0 Xb rfl J rfl (Xa.unroll Xb rfl (aS aA ?_));subst J;exact bE func172 aA ⟨rfl,by rw[List.replicate_zero,V4,<-V.charge_bs A 0];exact C,p⟩
 .have K:=a (by omega);subst K;have q:=C.dat;rw[e1] at q;have L:(List.replicate n (0:Int)).length=n:=XI;have M:(List.replicate n c).length=n:=XI;refine Xa.clear Xb rfl q rfl rfl (by omega) (by simp;omega) λw2 r s a5=>aN aA ?_;have D:(V.bs.map (Value.int .u8)).take i++List.replicate n (Value.int .u8 0)++(V.bs.map (Value.int .u8)).drop (i+n)=(Q3 V.bs i (List.replicate n 0)).map (Value.int .u8):=by
   unfold Q3;simp[QZ,List.map_drop]
  rw[D] at r;have t:Qh (List.replicate n (0:Int)):=λx a=>by rw[YA a];omega
  have N:Qh (List.replicate n c):=λx a=>by rw[YA a];exact hc
  have O:=C.laid r s (by rw[Jl (by omega),e1]) (λx a=>(Nw a).elim (h.rng x) (t x));have E:Xc (Zw A) w w2:=p.trans (s.mono λb _ f=>.inl f);obtain⟨d,e⟩:∃d,d=Q3 V.bs i (List.replicate n 0):=⟨_,rfl⟩;rw[<-e] at O;have g:d.length=V.bs.length:=by rw[e,Jl (by omega)]
  have F:Qh d:=λx a=>by rw[e] at a;exact(Nw a).elim (h.rng x) (t x)
  refine Xa.loop (α:=Nat) (λk=>[(3,false,.int .u8 c),(9,false,.slice (some ⟨A.db,i,none⟩) n (V.bs.length-i)),(10,false,.int .i64 0),(21,false,.int .i64 n),(22,false,.int .i64 k)])
   (λk w'=>X8 w' A {V.cT A n with bs:=Ep d i (List.replicate n c) k}/\Xc (Zw A) w w'/\k<=n) (λk=>n-k) 0 ⟨rfl,rfl,rfl,rfl,rfl,trivial⟩ ⟨by rw[Xbq];exact O,E,by omega⟩ ?_
  rintro k w3 ⟨m,u,hk⟩ ih;refine aN aA (aT aA (λG=>?_) λG=>?_)
  .have y:k<n:=by have:=bL G;omega
   have z:(Ep d i (List.replicate n c) k).length=V.bs.length:=by rw[Rz (by omega),g]
   have P:(Ep d i (List.replicate n c) k).getD (i+k) 0=0:=by
    unfold Ep;rw[Nv (by simp;omega),bJ (by omega),bJ (by simp;omega),e,Nv (by omega),bJ (by omega),bK (by omega)];simp[QV,y]
   have o:w3.cell? ⟨A.db,i+k,none⟩=some (.int .u8 0):=by rw[<-P];exact XiT (j:=i+k) m (by simp only[z];omega)
   refine aU k aA (aW aA o aA (Xa.bits Xb rfl (XkG hc) rfl (aU k aA (aL aA m.dat (XmP (by simp only[z];omega)) aA λw4 Q B a6=>?_))));have H:w4.heap[A.db]?=some (.cells ((Ep d i (List.replicate n c) (k+1)).map (Value.int .u8)).toArray 5 (0,0)):=by
    rw[<-Xbp (l:=List.replicate n c) (i:=i) (bs:=d) (k:=k) (by omega) (by omega),show(List.replicate n c).getD k 0=c from by simp[QV,y]];exact Q
   have h4:=m.laid H B (by simp only;rw[Rz (by omega),Rz (by omega)]) (XkV F N);exact aV aA (ih (k+1) _ _ ⟨h4,u.trans (B.mono λb _ f=>.inl f),by omega⟩ (by omega) ⟨rfl,rfl,rfl,rfl,rfl,trivial⟩)
  .have R:k=n:=by have:=bM G;omega
   subst R;have I:Ep d i (List.replicate k c) k=Q3 V.bs i (List.replicate k c):=by
    refine Xec (by rw[Rz (by omega),Jl (by omega),g]) λj hj=>?_;unfold Ep;rw[show(List.replicate k c).take k=List.replicate k c from by simp,Nv (by omega),Nv (by omega),e,Nv (by omega)];by_cases S:j<i
    .simp only[bK S]
    .simp only[bJ S,M,L];by_cases T:j<i+k
     .simp only[bK T]
     .simp only[bJ T]
   rw[I] at m;exact bE func172 aA ⟨rfl,m,u⟩
theorem R0(hm:Zb c=true)(hck:Qq c q at' n=0)(hfew:q.bS.length<=4096):∀p∈Zu c q at' n,∃i m:Nat,p=((i:Int),(m:Int))/\((i+m:Nat):Int)<=c.size*c.bS:=by
 obtain⟨C,D,E⟩:=D3 hm;have d:Yk c q=true:=by
  cases d:Yk c q with
  |true=>rfl
  |false=>unfold Qq at hck;rw[bK d] at hck;cases hck
 have v:¬((at':Int)<0\/(n:Int)<0\/Z3 c q<n\/Z3 c q-n<at'):=λh=>by
  unfold Qq at hck;rw[bJ (by rw[d];decide),bK h] at hck;cases hck
 intro p e;unfold Zu at e;split at e
 .rename_i b
  obtain⟨s,o,rfl⟩:=XQ.1 e;obtain⟨w,f⟩:=T6 d b;have r:Z3 c q=(q.bS.length:Int)*c.size:=by unfold Z3;rw[bK d,bK b]
  obtain⟨sz,j⟩:=XE (show 0<=c.size by omega);rw[show c.size.toNat=sz from by omega] at o;obtain⟨F,G,H,I⟩:=Xcc (cR:=sz) (by omega) n at' s o;have k:s.1<q.bS.length:=by
   have x:(s.1*sz:Nat)<q.bS.length*sz:=by
    have:((q.bS.length*sz:Nat):Int)=(q.bS.length:Int)*c.size:=by rw[j];rfl
    omega
   exact Nat.lt_of_mul_lt_mul_right x
  have t:=f _ (show q.bS.getD s.1 0∈q.bS by rw[XA,XD k];exact XM k);obtain⟨g,y⟩:=XE t.1;refine⟨g*sz+s.2.1,s.2.2,?_,?_⟩
  .rw[y,j];rfl
  .have e2:(g:Int)*c.size+c.size<=c.size*c.bS:=by
    have:((g:Int)+1)*c.size<=c.bS*c.size:=ZD (by omega) (by omega);rw[QL,QM,YP c.bS] at this;exact this
   have e3:((g*sz:Nat):Int)=(g:Int)*c.size:=by rw[j];rfl
   omega
 .rename_i b
  simp at e;subst e;obtain⟨kk,pg,ix,l,f,u,A,J,K,L,M,N,O,P⟩:=Id hm d b;have B:Ak c q=(pg:Int)*c.size+(ix:Int)*Z6 c kk:=by unfold Ak;rw[bK ⟨d,b⟩,l,f,u]
  have r:Z3 c q=Z6 c kk:=by unfold Z3;rw[bK d,bJ b,l]
  obtain⟨a,z⟩:=XE (show 0<=Ak c q by omega);exact⟨a+at',n,by rw[z];rfl,by omega⟩
def Ir(q:Plc)(A:Ar)(V:ArV)(ps:List (Int×Int)):Nat->ArV
 |0=>V
 |k+1=>(B3 q A (Ir q A V ps k)).cT A (ps.getD k (0,0)).2
theorem Tp(q:Plc)(A:Ar)(V:ArV):(B3 q A V).bs=V.bs:=by unfold B3;split;exact V.charge_bs A 1;rfl
theorem XcL(q:Plc)(A:Ar)(V:ArV)(ps:List (Int×Int)):∀k,(Ir q A V ps k).bs=V.bs
 |0=>rfl
 |k+1=>by unfold Ir;rw[ArV.charge_bs,Tp,XcL q A V ps k]
def D4(bs:List Int)(ps:List (Int×Int)):List Int:=ps.flatMap λp=>sub bs p.1.toNat p.2.toNat
theorem Xof(v:Vw)(vb ob:Nat)(A:Ar)(V:ArV)(i m base j:Nat)(u:dE)(xs:List Int)(w:dD)(hvb:G5 w vb v)(hv:w.heap[v.vb]?=some (.cells (Nt v).toArray 226 (0,0)))(hab:v.ab=A.ab)(hob:w.heap[ob]?=some (.cells ([u]:List dE).toArray 30 (0,0)))(hown:Xl base 5 1 w u j (xs.map (Value.int .u8)))(hbase:base<=w.heap.size)(hobb:ob<base)(hA:X8 w A V)(him:i+m<=V.bs.length)(hj:j+m<=16777216)(hmo:∀z,Yu A z->z≠ob/\z<base)(hArow:∀b,b=A.ab\/b=A.db\/b=A.mc\/A.mb=some b->some b=u.ownBlock->False)(hAob:∀b,b=A.ab\/b=A.db\/b=A.mc\/A.mb=some b->b=ob->False):Xe prog 164 #[.int .i64 i,.int .i64 m,.pointer (some ⟨vb,0,none⟩),.pointer (some ⟨ob,0,none⟩)] w (λ_ w'=>X8 w' A (V.cT A m)/\Xc (λz=>z=ob\/some z=u.ownBlock\/Yu A z) w w'/\
  ∃u',w'.heap[ob]?=some (.cells ([u']:List dE).toArray 30 (0,0))/\Xl base 5 1 w' u' (j+m) ((xs++sub V.bs i m).map (Value.int .u8))/\∀z,some z=u'.ownBlock->some z=u.ownBlock\/w.heap.size<=z):=by
 have O:maxLen=9223372036854775807:=rfl;refine aR func164 ntmps164 aA (bB hvb aA (bB hv aA ?_));rw[hab];refine aP aA (Xih A V i m w hA him) ?_;rintro _ J ⟨Q,rfl,⟨g,cap,cur,rfl,R,G,H,y⟩,B,f⟩;refine aN aA ?_;have r:=Hc him;have n:=f.heap hob (λe=>(hmo _ e).1 rfl);have s:=hown.bR f (λb a e=>by have:=(World.ownsRow.lt hown b a.symm).1;have:=(hmo _ e).2;omega);rw[r] at H y⊢;have K:=f.size;have t:∀k x,((sub V.bs i m).map (Value.int .u8))[k]?=some x->J.cell? ((⟨g,0,none⟩:Addr).add k)=some x:=λk x D=>by
  rw[Cy,Ys G];have L:k<m:=by have:=(XC.1 D).1;simpa [r] using this
  rw[<-y,YV,bK L] at D
  simpa using D
 refine bB n aA (Xa.append (base:=base) (news:=(sub V.bs i m).map (Value.int .u8)) Xb rfl s (by omega) (by simp[r]) t J1 (by simp only;omega) λS T l d C=>?_);rcases l.2 with⟨o,P⟩|⟨U,M,N,o,_⟩
 .subst o;refine aN aA ?_;refine bF (d.heap n (λe=>by have:=(World.ownsRow.lt s _ e.symm).1;omega)) aA λE p c I=>?_;have F:Xc (λz=>z=ob\/some z=u.ownBlock\/Yu A z) w E:=((f.mono λz _ h=>.inr (.inr h)).trans (d.mono λz _ h=>.inr (.inl h))).trans (c.mono λz _ h=>.inl h);exact bE func164 aA ⟨((B.bR d (λb a e=>hArow b a e)).bR c (λb a e=>hAob b a e)),F,_,p,by rw[XL];exact(l.bR c (λb a e=>by have:=(World.ownsRow.lt l b a.symm).1;omega)),λz q=>by rcases C.2 with h|h;exact .inl (q.trans h);exact .inr (by rw[h] at q;cases q;omega)⟩
 .subst o;refine aN aA ?_;refine bF (d.heap n (λe=>by have:=(World.ownsRow.lt s _ e.symm).1;omega)) aA λE p c I=>?_;have F:Xc (λz=>z=ob\/some z=u.ownBlock\/Yu A z) w E:=((f.mono λz _ h=>.inr (.inr h)).trans (d.mono λz _ h=>.inr (.inl h))).trans (c.mono λz _ h=>.inl h);exact bE func164 aA ⟨((B.bR d (λb a e=>hArow b a e)).bR c (λb a e=>hAob b a e)),F,_,p,by rw[XL];exact(l.bR c (λb a e=>by have:=(World.ownsRow.lt l b a.symm).1;omega)),λz q=>by rcases C.2 with h|h;exact .inl (q.trans h);exact .inr (by rw[h] at q;cases q;omega)⟩
theorem Xnt{cR:Nat}(hp:1<=cR):∀(n at':Nat),((Zz at' n cR).map λs=>s.2.2).sum=n:=by
 intro n
 induction n using QP with
 |_ n ih=>
  intro at';by_cases a:n=0
  .subst a;rfl
  .have b:=Kk (at':=at') hp (show 0<n by omega);rw[Lw hp (by omega),ZK,QH,ih _ (by omega)];unfold Dm;simp only
   omega
def Zn(ps:List (Int×Int)):Nat:=(ps.map λp=>p.2.toNat).sum
theorem Xhq(p:Int×Int)(ps:List (Int×Int)):Zn (p::ps)=p.2.toNat+Zn ps:=by simp[Zn]
theorem Vz(a b:List (Int×Int)):Zn (a++b)=Zn a+Zn b:=by simp[Zn]
theorem O5(hm:Zb c=true):Zn (Zu c q at' n)=n:=by
 obtain⟨a,b,d⟩:=D3 hm;unfold Zu;split
 .unfold Zn;rw[List.map_map];have:=Xnt (cR:=c.size.toNat) (by omega) n at';exact this
 .simp[Zn]
theorem Sq{ps:List (Int×Int)}(h:k<ps.length):Zn (ps.take k)+ps[k].2.toNat<=Zn ps:=by
 have e:ps=ps.take k++ps[k]::ps.drop (k+1):=by rw[<-ZV h,XZ]
 have e2:Zn ps=Zn (ps.take k)+(ps[k].2.toNat+Zn (ps.drop (k+1))):=by
  conv=>lhs;rw[e]
  rw[Vz,Xhq]
 omega
theorem XfJ{bs:List Int}{N:Nat}(hN:bs.length=N):∀{ps:List (Int×Int)},(∀p∈ps,∃i m:Nat,p=((i:Int),(m:Int))/\i+m<=N)->(D4 bs ps).length=Zn ps
 |[],_=>rfl
 |p::r,h=>by
  obtain⟨i,m,rfl,b⟩:=h p ZO;rw[Xhq];unfold D4;rw[ZX,ZC];have:=XfJ hN (ps:=r) (λp a=>h p (YB _ a));unfold D4 at this;rw[this];simp only[XB];rw[Hc (by omega)]
theorem XhB{ps:List (Int×Int)}(h:k<ps.length):Ir q A V ps (k+1)=(B3 q A (Ir q A V ps k)).cT A ps[k].2:=by
 show(B3 q A (Ir q A V ps k)).cT A (ps.getD k (0,0)).2=_
 rw[XA,XD h];rfl
theorem Xoe(v:Vw)(q:Plc)(at' n:Nat)(A:Ar)(V:ArV)(w:dD)(hv:Bn w v)(hq:Zo w q)(hmb:v.mb=A.mb)(hab:v.ab=A.ab)(hck:Qq v.c q at' n=0)(hfew:q.bS.length<=4096)(hPv:¬Yu A v.vb)(hPq:0<q.bS.length->Xj (Yu A) q.pa)(hPc:0<v.c.bT.length->Xj (Yu A) v.p.ca)(hPk:0<v.c.bV.length->Xj (Yu A) v.p.ka)(hA:X8 w A V)(hlen:(V.bs.length:Int)=v.c.size*v.c.bS):Xe prog 107 #[Fs v,.agg (Xv q).toArray,.int .i64 at',.int .i64 n] w (λu w'=>∃u1,u=.tuple #[u1,.int .i64 0]/\X8 w' A (Ir q A V (Zu v.c q at' n) (Zu v.c q at' n).length)/\Xc (Yu A) w w'/\
  Xl w.heap.size 5 1 w' u1 (D4 V.bs (Zu v.c q at' n)).length ((D4 V.bs (Zu v.c q at' n)).map (Value.int .u8))):=by
 obtain⟨ps,l⟩:∃ps,ps=Zu v.c q at' n:=⟨_,rfl⟩;have E:∀p∈ps,∃i m:Nat,p=((i:Int),(m:Int))/\i+m<=V.bs.length:=λp r=>by
  obtain⟨i,m,o,d⟩:=R0 hv.may hck hfew p (l▸r);exact⟨i,m,o,by omega⟩
 have af:Zn ps=n:=by rw[l];exact O5 hv.may
 have ak:=K6 (c:=v.c) (q:=q) hv.may hfew;have hn:n<=16777216:=by
  unfold Qq at hck;split at hck
  .cases hck
  .split at hck
   .cases hck
   .omega
 rw[<-l];refine Xe.enter func107 rfl ntmps107 rfl rfl ?_;refine aN rfl ?_;refine Xa.alloc Xb rfl ?_;intro vb w1 e1 W a0 al;refine aN rfl ?_;refine Xa.alloc Xb rfl ?_;intro qb w2 e2 F N am;refine aN rfl ?_;refine Xa.alloc Xb rfl ?_;intro ob s e3 a6 G an;refine aN rfl ?_;replace F:Jc w2 qb q:=F;have H:=(a0.trans N).trans G;have I:G5 s vb v:=(N.trans G).bP W;refine Xa.cJ Xb rfl I rfl rfl ?_;refine Xa.loads Xb rfl (G.bP F) rfl rfl ?_;have f:=hA.mlt;have ao:=Xg hv.obj;have hE:=XcJ v q at' n 164 [.pointer (some ⟨vb,0,none⟩),.pointer (some ⟨ob,0,none⟩)] A (Ir q A V ps)
  (λk Y x=>∃u,x.heap[ob]?=some (.cells ([u]:List dE).toArray 30 (0,0))/\Xl s.heap.size 5 1 x u (D4 V.bs (ps.take k)).length ((D4 V.bs (ps.take k)).map (Value.int .u8))/\
   (∀z,Y z↔z=ob\/some z=u.ownBlock\/Yu A z)/\G5 x vb v/\x.heap[v.vb]?=some (.cells (Nt v).toArray 226 (0,0))/\s.heap.size<=x.heap.size)
  (λz=>z=ob\/Yu A z) s (hv.bQ H) (hq.bQ H) hmb hck hfew
  (by rintro((h|h)|h);omega;exact hPv h;exact hPv h)
  (hq.rd.outNew hPq (λz a=>by rcases a with(h|h)|h;exact .inr (by omega);exact .inl h;exact .inl h))
  (hv.cO.bT.outNew hPc (λz a=>by rcases a with(h|h)|h;exact .inr (by omega);exact .inl h;exact .inl h))
  (hv.cO.bV.outNew hPk (λz a=>by rcases a with(h|h)|h;exact .inr (by omega);exact .inl h;exact .inl h))
  (by
   rintro k Y x ⟨u,o,d,j,t,B,C⟩ z a;rcases(j z).1 a with rfl|h|h
   .exact Xg o
   .exact(World.ownsRow.lt d z h.symm).2
   .have:=f z h;omega)
  (by
   rintro k Y x y S ⟨u,o,d,j,t,B,C⟩ J hS;have no:∀z,z<s.heap.size -> ¬Yu A z -> ¬S z:=λz a hm h=>(hS z h).elim hm (λh=>by omega);exact⟨u,J.heap o (no _ (by omega) (λh=>by have:=f _ h;omega)),d.bR J (λb D h=>by
    have ap:=World.ownsRow.lt d b D.symm;rcases hS b h with hm|hm
    .have:=f b hm;omega
    .exact hm.1 ((j b).2 (.inr (.inl D)))),j,J.heap t (no _ (by omega) (λh=>by have:=f _ h;omega)),J.heap B (no _ (by omega) hPv),ZZ C J.size⟩)
  (by
   rintro k Y x K a9 ⟨u,o,d,j,t,B,C⟩;rw[<-l] at K;obtain⟨i,m,r,O⟩:=E ps[k] (XM K);have P:(B3 q A (Ir q A V ps k)).bs=V.bs:=by rw[Tp,XcL]
   have aq:(D4 V.bs (ps.take k)).length=Zn (ps.take k):=XfJ rfl (λp r=>E p (XY r));have Q:=Sq K;rw[r] at Q;simp only[XB] at Q;have R:∀b,b=A.ab\/b=A.db\/b=A.mc\/A.mb=some b->b<w.heap.size:=hA.blt;have hR:=Xof v vb ob A (B3 q A (Ir q A V ps k)) i m s.heap.size (D4 V.bs (ps.take k)).length u (D4 V.bs (ps.take k)) x t B hab o d C (by omega) a9 (by rw[P];exact O) (by omega)
    (λz a=>by have:=f z a;omega) (λb D e=>by have:=R b D;have:=(World.ownsRow.lt d b e.symm).1;omega) (λb D e=>by have:=R b D;omega)
   simp only[<-l];rw[r];refine hR.mono λ_ y ⟨T,L,u',U,a4,a5⟩=>?_;rw[P] at a4;have M:D4 V.bs (ps.take (k+1))=D4 V.bs (ps.take k)++sub V.bs i m:=by
    rw[ZH,XD K,r];unfold D4;rw[List.flatMap_append]
    simp
   refine⟨by rw[XhB K,r];exact T,L.mono λz _ a=>(j z).2 a,λz=>z=ob\/some z=u'.ownBlock\/Yu A z,⟨u',U,?_,λz=>Iff.rfl,?_,?_,ZZ C L.size⟩,λz a=>?_⟩
   .rw[M,ZC,Hc O];exact a4
   .exact L.heap t (λh=>by rcases h with h|h|h;omega;have:=(World.ownsRow.lt d _ h.symm).1;omega;have:=f _ h;omega)
   .exact L.heap B (λh=>by rcases h with h|h|h;omega;have:=(World.ownsRow.lt d _ h.symm).1;omega;exact hPv h)
   .rcases a with h|h|h
    .exact .inl ((j z).2 (.inl h))
    .rcases a5 z h with h|h
     .exact .inl ((j z).2 (.inr (.inl h)))
     .exact .inr h
    .exact .inl ((j z).2 (.inr (.inr h))))
  (hA.bQ H) ⟨.slice none 0 0,a6,World.ownsRow_nil _ _ _ _,λz=>⟨λh=>h.elim .inl (λh=>.inr (.inr h)),λh=>by rcases h with h|h|h;exact .inl h;cases h;exact .inr h⟩,I,H.bP hv.obj,XF _⟩
 rw[<-l] at hE;refine aP aA (hE) ?_;rintro _ w4 ⟨rfl,ac,⟨Y',⟨u,o,d,j,t,B,C⟩,ar⟩,ad⟩;refine aN aA ?_;rw[ZL] at d;have ae:Xc (Yu A) w w4:=H.gr.bU ad (λz a h=>by rcases h with(h|h)|h;omega;exact h;exact h);have ho:Xl w.heap.size 5 1 w4 u (D4 V.bs ps).length ((D4 V.bs ps).map (Value.int .u8)):=by
  refine⟨d.1,?_⟩;rcases d.2 with h|⟨g,cap,cur,T,L,U⟩
  .exact .inl h
  .exact .inr ⟨g,cap,cur,T,by omega,U⟩
 exact bB o aA (bE func107 aA ⟨u,rfl,ac,ae,ho⟩)
def B1(q:Plc)(A:Ar)(V:ArV)(ps:List (Int×Int))(l:List Int):Nat->ArV
 |0=>V
 |k+1=>{(B3 q A (B1 q A V ps l k)).cT A (ps.getD k (0,0)).2 with bs:=Q3 (B1 q A V ps l k).bs (ps.getD k (0,0)).1.toNat (sub l (Zn (ps.take k)) (ps.getD k (0,0)).2.toNat)}
theorem St{ps:List (Int×Int)}(h:k<ps.length)(hp:ps[k]=((i:Int),(m:Int))):B1 q A V ps l (k+1)={(B3 q A (B1 q A V ps l k)).cT A m with bs:=Q3 (B1 q A V ps l k).bs i (sub l (Zn (ps.take k)) m)}:=by
 have a:ps.getD k (0,0)=((i:Int),(m:Int)):=by rw[XA,XD h,hp];rfl
 show({(B3 q A (B1 q A V ps l k)).cT A (ps.getD k (0,0)).2 with bs:=Q3 (B1 q A V ps l k).bs (ps.getD k (0,0)).1.toNat (sub l (Zn (ps.take k)) (ps.getD k (0,0)).2.toNat)}:ArV)=_
 rw[a];rfl
theorem XcN{q:Plc}{A:Ar}{V:ArV}{ps:List (Int×Int)}{l:List Int}(hpin:∀p∈ps,∃i m:Nat,p=((i:Int),(m:Int))/\i+m<=V.bs.length)(htot:Zn ps=l.length):∀{k:Nat},k<=ps.length->(B1 q A V ps l k).bs.length=V.bs.length
 |0,_=>rfl
 |k+1,h=>by
  obtain⟨i,m,b,c⟩:=hpin ps[k] (XM h);have ih:=XcN (q:=q) (A:=A) hpin htot (k:=k) (by omega);have a:=Sq h;rw[b] at a;simp only[XB] at a;rw[St h b];show(Q3 _ _ _).length=_
  rw[Jl (by rw[Hc (by omega),ih];exact c),ih]
theorem Xnb{l:Nat}(h:Xj S a):Xj S (Q9 a cap l sz):=by
 intro b off s e;unfold Q9 at e;by_cases c:cap=l
 .rw[bK c] at e;exact h b off s e
 .rw[bJ c] at e;cases a with
  |none=>cases e
  |some x=>
   obtain⟨xb,xo,xs⟩:=x;simp only[QX,Option.some.injEq] at e;unfold Addr.add at e;have d:xb=b:=by
    split at e <;> (cases e;rfl)
   rw[<-d];exact(h xb xo xs rfl)
theorem Xoh(v:Vw)(vb bb:Nat)(A:Ar)(V:ArV)(i m:Nat)(a:Option Addr)(cap:Nat)(l:List Int)(w:dD)(hvb:G5 w vb v)(hv:w.heap[v.vb]?=some (.cells (Nt v).toArray 226 (0,0)))(hab:v.ab=A.ab)(hbb:w.heap[bb]?=some (.cells ([.slice a l.length cap]:List dE).toArray 30 (0,0)))(hr:Rd .u8 w a l)(hlc:l.length<=cap)(hin:Qh l)(hm:m<=l.length)(hA:X8 w A V)(him:i+m<=V.bs.length)(hfo:∀z,Zw A z->z≠bb)(hAb:∀b,b=A.ab\/b=A.db\/b=A.mc\/A.mb=some b->b≠bb)(S:Nat->Prop)(hS:∀z,z=bb\/Zw A z->S z)(hout:0<l.length->Xj S a):Xe prog 167 #[.int .i64 i,.int .i64 m,.pointer (some ⟨vb,0,none⟩),.pointer (some ⟨bb,0,none⟩)] w (λ_ w'=>X8 w' A {V.cT A m with bs:=Q3 V.bs i (l.take m)}/\Xc (λz=>z=bb\/Zw A z) w w'/\
  ∃a' cap',w'.heap[bb]?=some (.cells ([.slice a' (l.drop m).length cap']:List dE).toArray 30 (0,0))/\Rd .u8 w' a' (l.drop m)/\(l.drop m).length<=cap'/\(0<(l.drop m).length->Xj S a')):=by
 have j:(l.take m).length=m:=by simp;omega
 refine aR func167 ntmps167 aA (aQ 8 Xf (by kernel_rfl) aA λd=>aE d hvb aA (aE d hv aA (aE d hbb aA (Xd.slice Xb d rfl (l:=0) (h:=m) (by first|rfl|omega|simp[Dr]) (by first|rfl|omega|simp[Dn]) (by omega) (by omega) rfl (aF d aA λC c=>?_)))));rw[hab];have r:=hr.bR c;have k:=r.shift (l:=0) (m:=m) (by omega) hlc;rw[List.drop_zero] at k;have s:=Xii A V i (Q9 a cap 0 1) (cap-0) (l.take m) C (hA.bQ c) k (λx D=>hin x (XY D)) (by rw[j];exact him);rw[j] at s;refine aP aA s ?_;rintro _ G ⟨rfl,t,n⟩;refine aN aA ?_;have f:=n.heap (c.bP hbb) (λe=>hfo _ e rfl);refine bB f aA (Xa.slice Xb rfl (l:=m) (h:=l.length) (by first|rfl|omega|simp[Dr]) (by first|rfl|omega|simp[Dn]) (by omega) (by omega) rfl (bF f aA λu q o F=>?_));have g:(l.drop m).length=l.length-m:=by simp
 have y:Xc (λz=>z=bb\/Zw A z) w u:=(c.gr.trans (n.mono λ_ _ h=>.inr h)).trans (o.mono λ_ _ h=>.inl h);have B:Rd .u8 u a l:=hr.far' hout (y.mono λz _ h=>hS z h);have p:=B.shift (l:=m) (m:=l.length-m) (by omega) hlc;rw[ZP (by rw[g];exact XF _)] at p;exact bE func167 aA ⟨t.bR o (λb E e=>hAb b E e),y,_,_,by rw[g];exact q,p,by rw[g];omega,λh=>Xnb (hout (by omega))⟩
theorem foot_lt(h:X8 w A V):∀z,Zw A z->z<w.heap.size:=λz a=>h.blt z (a.elim (λe=>.inr (.inl e)) (λe=>.inr (.inr (.inr e))))
theorem Xog(v:Vw)(q:Plc)(at':Nat)(a:Option Addr)(cap:Nat)(l:List Int)(A:Ar)(V:ArV)(w:dD)(hv:Bn w v)(hq:Zo w q)(hmb:v.mb=A.mb)(hab:v.ab=A.ab)(hck:Qq v.c q at' l.length=0)(hfew:q.bS.length<=4096)(hPv:¬Zw A v.vb)(hPq:0<q.bS.length->Xj (Zw A) q.pa)(hPc:0<v.c.bT.length->Xj (Zw A) v.p.ca)(hPk:0<v.c.bV.length->Xj (Zw A) v.p.ka)(hA:X8 w A V)(hlen:(V.bs.length:Int)=v.c.size*v.c.bS)(hr:Rd .u8 w a l)(hlc:l.length<=cap)(hin:Qh l)(hout:0<l.length->Xj (Zw A) a):Xe prog 109 #[Fs v,.agg (Xv q).toArray,.int .i64 at',.slice a l.length cap] w (λu w'=>u=.int .i64 0/\X8 w' A (B1 q A V (Zu v.c q at' l.length) l (Zu v.c q at' l.length).length)/\Xc (Zw A) w w'):=by
 obtain⟨ps,g⟩:∃ps,ps=Zu v.c q at' l.length:=⟨_,rfl⟩;have C:∀p∈ps,∃i m:Nat,p=((i:Int),(m:Int))/\i+m<=V.bs.length:=λp t=>by
  obtain⟨i,m,n,D⟩:=R0 hv.may hck hfew p (g▸t);exact⟨i,m,n,by omega⟩
 have T:Zn ps=l.length:=by rw[g];exact O5 hv.may
 rw[<-g];refine Xe.enter func109 rfl ntmps109 rfl rfl ?_;refine aN rfl ?_;refine Xa.alloc Xb rfl ?_;intro vb w1 e1 a4 a5 ar;refine aN rfl ?_;refine Xa.alloc Xb rfl ?_;intro qb w2 e2 E P au;refine aN rfl ?_;refine Xa.alloc Xb rfl ?_;intro bb j e3 r F av;refine aN rfl ?_;replace E:Jc w2 qb q:=E;replace r:j.heap[bb]?=some (.cells ([.slice a l.length cap]:List dE).toArray 30 (0,0)):=r;have o:=(a5.trans P).trans F;have G:G5 j vb v:=(P.trans F).bP a4;refine Xa.cJ Xb rfl G rfl rfl ?_;refine Xa.loads Xb rfl (F.bP E) rfl rfl ?_;refine Xa.cJ Xb rfl r rfl rfl ?_;have f:=foot_lt hA;have d:∀z,Yu A z->Zw A z:=λz h=>.inr h;have aw:=Xg hv.obj;have a6:=hA.blt;have hE:=XcJ v q at' l.length 167 [.pointer (some ⟨vb,0,none⟩),.pointer (some ⟨bb,0,none⟩)] A (B1 q A V ps l)
  (λk Y x=>∃a' cap',x.heap[bb]?=some (.cells ([.slice a' (l.drop (Zn (ps.take k))).length cap']:List dE).toArray 30 (0,0))/\Rd .u8 x a' (l.drop (Zn (ps.take k)))/\(l.drop (Zn (ps.take k))).length<=cap'/\
   (0<(l.drop (Zn (ps.take k))).length->Xj (λz=>z=bb\/Zw A z\/j.heap.size<=z) a')/\(∀z,Y z↔z=bb\/Zw A z)/\G5 x vb v/\x.heap[v.vb]?=some (.cells (Nt v).toArray 226 (0,0))/\j.heap.size<=x.heap.size)
  (λz=>z=bb\/Zw A z) j (hv.bQ o) (hq.bQ o) hmb hck hfew
  (by rintro((h|h)|h);omega;exact hPv h;exact hPv (d _ h))
  (hq.rd.outNew hPq (λz c=>by rcases c with(h|h)|h;exact .inr (by omega);exact .inl h;exact .inl (d _ h)))
  (hv.cO.bT.outNew hPc (λz c=>by rcases c with(h|h)|h;exact .inr (by omega);exact .inl h;exact .inl (d _ h)))
  (hv.cO.bV.outNew hPk (λz c=>by rcases c with(h|h)|h;exact .inr (by omega);exact .inl h;exact .inl (d _ h)))
  (by
   rintro k Y x ⟨a',cap',n,D,M,H,B,I,J,N⟩ z c;rcases(B z).1 c with rfl|h
   .exact Xg n
   .have:=f z h;omega)
  (by
   rintro k Y x y S ⟨a',cap',n,D,M,H,B,I,J,N⟩ K hS;have no:∀z,z<j.heap.size -> ¬Yu A z -> ¬S z:=λz c hm h=>(hS z h).elim hm (λh=>by omega);refine⟨a',cap',K.heap n (no _ (by omega) (λh=>by have:=f _ (d _ h);omega)),D.far' (λhl b off s e U=>H hl b off s e ((hS b U).elim (λh=>.inr (.inl (d _ h))) (λh=>.inr (.inr h.2)))) K,M,H,B,K.heap I (no _ (by omega) (λh=>by have:=f _ (d _ h);omega)),K.heap J (no _ (by omega) (λh=>hPv (d _ h))),ZZ N K.size⟩)
  (by
   rintro k Y x L a9 ⟨a',cap',n,D,M,H,B,I,J,N⟩;rw[<-g] at L;obtain⟨i,m,t,aa⟩:=C ps[k] (XM L);have Q:(B3 q A (B1 q A V ps l k)).bs=(B1 q A V ps l k).bs:=Tp _ _ _;have W:(B1 q A V ps l k).bs.length=V.bs.length:=XcN C T (by omega);have R:=Sq L;rw[t] at R;simp only[XB] at R;have ax:(l.drop (Zn (ps.take k))).length=l.length-Zn (ps.take k):=by simp
   have hR:=Xoh v vb bb A (B3 q A (B1 q A V ps l k)) i m a' cap' (l.drop (Zn (ps.take k))) x I J hab n D M (λy hy=>hin y (ZU hy)) (by omega) a9 (by rw[Q,W];exact aa)
    (λz c=>by have:=f z c;omega) (λb U=>by have:=a6 b U;omega) (λz=>z=bb\/Zw A z\/j.heap.size<=z) (λz h=>h.imp id .inl) H
   simp only[<-g];rw[t];refine hR.mono λ_ y ⟨a1,O,a3,c3,b1,b2,b3,b4⟩=>?_;rw[Q] at a1;have a0:Zn (ps.take (k+1))=Zn (ps.take k)+m:=by
    rw[ZH,XD L,t,Vz];simp[Zn]
   have ag:(l.drop (Zn (ps.take k))).drop m=l.drop (Zn (ps.take (k+1))):=by rw[List.drop_drop,a0]
   rw[ag] at b1 b2 b3 b4;refine⟨by rw[St L t];exact a1,O.mono λz _ c=>(B z).2 c,λz=>z=bb\/Zw A z,⟨a3,c3,b1,b2,b3,b4,λz=>Iff.rfl,?_,?_,ZZ N O.size⟩,λz c=>.inl ((B z).2 c)⟩
   .exact O.heap I (λh=>by rcases h with h|h;omega;have:=f _ h;omega)
   .exact O.heap J (λh=>by rcases h with h|h;omega;exact hPv h))
  (hA.bQ o) ⟨a,cap,by simpa [Zn] using r,by simpa [Zn] using hr.bR o,by simpa [Zn] using hlc,λh=>by
   have:=hr.outNew hout (S':=λz=>z=bb\/Zw A z\/j.heap.size<=z) (λz c=>by rcases c with h|h|h;exact .inr (by omega);exact .inl h;exact .inr (by have:=o.size;omega));exact this (by simpa [Zn] using h),λz=>Iff.rfl,G,o.bP hv.obj,XF _⟩
 rw[<-g] at hE;refine aP aA (hE) ?_;rintro _ w4 ⟨rfl,ah,_,ai⟩;refine aN aA ?_;have aj:Xc (Zw A) w w4:=o.gr.bU ai (λz c h=>by rcases h with(h|h)|h;omega;exact h;exact d _ h);exact bE func109 aA ⟨rfl,ah,aj⟩
structure RA where
 a:Option Addr
 cap:Nat
 bs:List Int
 cM:Int
def G7(r:RA):List dE:=[.slice r.a r.bs.length r.cap,.int .i64 r.cM]
structure Yh(w:dD)(r:RA):Prop where
 rd:Rd .u8 w r.a r.bs
 len:r.bs.length<=4194304
 lc:r.bs.length<=r.cap
 rng:Qh r.bs
theorem Yh.bQ{r:RA}(h:Yh w r)(hc:Xc Xf w w'):Yh w' r:=⟨h.rd.bR hc,h.len,h.lc,h.rng⟩
theorem RdU.of{c:Array dE}{t:TypeId}(h:w.heap[b]?=some (.cells c t fz))(hc:c=(zs.map (Value.int .u8)).toArray):Rd .u8 w (some ⟨b,0,none⟩) zs:=λi a=>
 ⟨b,0,rfl,by rw[Ys h,hc];simp[a]⟩
theorem Xlw(p s:Int)(w:dD)(ht:N5 p s=true):Xe prog 127 #[.int .i64 p,.int .i64 s] w
 (λv w'=>∃b,v=.tuple #[.agg (G7 ⟨some ⟨b,0,none⟩,(p*s).toNat,X6 (p*s).toNat,0⟩).toArray,.int .i64 0]/\w.heap.size<=b/\Yh w' ⟨some ⟨b,0,none⟩,(p*s).toNat,X6 (p*s).toNat,0⟩/\Xc Xf w w'):=by
 have g:=Td.1 ht;have A:0<=p*s:=ZI (by omega) (by omega);have B:p*s<=1024*4096:=ZG (by omega) (by omega) (by omega) (by omega);have a:(X6 (p*s).toNat).length=(p*s).toNat:=XI;refine aR func127 ntmps127 aA (bC aA λrb C e1 e f t=>aS aA (aS aA (aS aA (aS aA (Xa.div Xb rfl (by omega) (G8 (by omega)) rfl (aI aA (by simp;omega) (aV aA (Xa.make Xb (m:=(p*s).toNat) (k:=(p*s).toNat) rfl (by omega) (by omega) (XF _) (by simp only;omega) (by omega) λb D e2 h c u=>aN aA (aO aA (bF (c.bP e) aA λi j d y=>?_))))))))));have l:Xc Xf w i:=(f.trans c).sn d;have o:(Y4 (Yz (Value.int .u8 0)) (p*s).toNat)=(X6 (p*s).toNat).map (Value.int .u8):=V6 _;rw[o] at h;have q:=d.heap h (by omega);have r:Yh i ⟨some ⟨b,0,none⟩,(p*s).toNat,X6 (p*s).toNat,0⟩:=⟨RdU.of q rfl,by simp only[a];omega,by simp only[a];omega,λx n=>by rw[YA n];omega⟩;exact aK func127 j aA ⟨b,by unfold G7;simp only[a];rfl,by omega,r,l⟩
def Mg(c:Conf):Bool:=Zb c && decide (c.size<=256) && decide (c.bS<=24) && decide (c.cN<=20)
theorem Xls(c:Conf)(p:Y8)(w:dD)(hc:Yw w c p):Xe prog 7 #[.agg (Zj c p).toArray] w (Grow (.bool (Mg c)) w):=by
 refine aR func7 ntmps7 aA (bC aA λcb i e1 d e j=>?_);refine bB d aA (bG (XbE c p i (hc.bR e)) aA λk f=>?_);have b:=e.trans f;have a:=f.bP d;unfold Mg;cases hm:Zb c with
 |false=>
  rw[show Bu c=1 from by unfold Bu;rw[hm];rfl];exact aS aA (bE func7 aA ⟨rfl,b⟩)
 |true=>
  rw[show Bu c=0 from by unfold Bu;rw[hm];rfl];refine bI aA (bB a aA (aT aA (λg=>?_) λg=>?_))
  .refine bB a aA ?_;rw[g];refine aT aA (λh=>?_) λh=>?_
   .refine bB a aA ?_;rw[h];exact bE func7 aA ⟨rfl,b⟩
   .rw[h];exact bE func7 aA ⟨rfl,b⟩
  .rw[g];exact bE func7 aA ⟨rfl,b⟩
theorem Xi1(h:Mg c=true):Zb c=true/\c.size<=256/\c.bS<=24:=by
 unfold Mg at h;simp only[XJ,decide_eq_true_eq] at h;exact⟨h.1.1.1,h.1.1.2,h.1.2⟩
theorem XbP(c:Conf)(p:Y8)(q:Plc)(w:dD)(hc:Yw w c p)(hq:Zo w q):Xe prog 222 #[.agg (Zj c p).toArray,.agg (Xv q).toArray] w (Grow (.bool (Yk c q)) w):=by
 have z:=hq.len;refine aR func222 ntmps222 aA (bC aA λcb W e1 K L S=>bC aA λqb M e2 f A T=>?_);have i:=L.trans A;have l:=A.bP K;have u:=hq.bQ i;obtain⟨cL,cR,idx,pa,pc,bS⟩:=q;replace f:M.heap[qb]?=some (.cells ([.int .i64 cL,.int .i64 cR,.int .i64 idx,.slice pa bS.length pc]:List dE).toArray 83 (0,0)):=f;replace u:=u.rd;replace z:bS.length<=9223372036854775807:=z;refine Xa.cJ Xb rfl f rfl rfl ?_;refine Xa.fork Xb rfl rfl rfl (λr=>?_) (λr=>?_)
 .have g:cL=-1:=by simpa using r
  have v:Yk c ⟨cL,cR,idx,pa,pc,bS⟩=(decide (0<bS.length) && !bS.any (λn=>!Br n c.bS)):=by unfold Yk;simp only;rw[bK g]
  rw[v];refine Xa.loop (α:=Nat) (λk=>[(2,false,.pointer (some ⟨cb,0,none⟩)),(3,false,.pointer (some ⟨qb,0,none⟩)),(5,false,.int .i64 k)])
   (λk w'=>k<=bS.length/\Xc Xf M w'/\∀j (h:j<bS.length),j<k->Br bS[j] c.bS=true) (λk=>bS.length-k) 0 ⟨rfl,rfl,rfl,trivial⟩ ⟨XP _,Xc.refl _ _,λ_ _ h=>by omega⟩ ?_
  rintro k t ⟨hk,a,x⟩ ih;refine aN rfl ?_;refine Xa.cJ Xb rfl (a.bP f) rfl rfl ?_;refine Xa.fork Xb rfl rfl rfl (λB=>?_) (λB=>?_)
  .have o:k<bS.length:=by have:=bL B;omega
   obtain⟨b,off,rfl,m⟩:=(u.bR a) k o;have N:bS.getD k 0=bS[k]:=by rw[XA,XD o];rfl
   rw[N] at m;refine aQ 16 Xf (by kernel_rfl) aA λd=>aE d (a.bP f) aA (aB k d aA (aD d m aA ?_));refine Xd.fork Xb d rfl rfl rfl (λy=>?_) (λy=>?_)
   .have P:=bL y;refine aF d aA λQ s=>?_;exact Xa.ret1 Xb rfl func222 rfl rfl ⟨Qz (by
     have:bS.any (λn=>!Br n c.bS)=true:=QR.2 ⟨bS[k],XM o,by cases C:Br bS[k] c.bS;rfl;have:=Mm.1 C;omega⟩;rw[this];simp),i.trans (a.trans s)⟩
   .have P:=bM y;refine aE d (a.bP f) aA (aB k d aA (aD d m aA (aE d (a.bP l) aA (aF d aA λQ s=>aT aA (λD=>?_) λD=>?_))))
    .have R:=bL D;exact Xa.ret1 Xb rfl func222 rfl rfl ⟨Qz (by
      have:bS.any (λn=>!Br n c.bS)=true:=QR.2 ⟨bS[k],XM o,by cases C:Br bS[k] c.bS;rfl;have:=Mm.1 C;omega⟩;rw[this];simp),i.trans (a.trans s)⟩
    .have R:=bM D;refine aV aA ?_;exact ih (k+1) _ _ ⟨o,a.trans s,λj E U=>by
      by_cases e:j=k
      .subst e;exact Mm.2 ⟨by omega,by omega⟩
      .exact x j E (by omega)⟩ (by omega) ⟨rfl,rfl,rfl,trivial⟩
  .have V:k=bS.length:=by have:=bM B;omega
   refine bB (a.bP f) aA ?_;exact Xa.ret1 Xb rfl func222 rfl rfl ⟨Qz (by
    have:bS.any (λn=>!Br n c.bS)=false:=QG.2 (λn y=>by obtain⟨j,E,rfl⟩:=QT y;rw[x j E (by omega)];decide);rw[this,Bool.not_false,Bool.and_true];by_cases h:0<bS.length
    .rw[bN h,bN (by omega)]
    .rw[bO h,bO (by omega)]),i.trans a⟩
 .have g:¬cL=-1:=by simpa using r
  have v:Yk c ⟨cL,cR,idx,pa,pc,bS⟩=(Br cL c.bT.length && Br cR c.bS && Br idx (A5 c cL)):=by unfold Yk;simp only;rw[bJ g]
  rw[v];unfold Br;refine aQ 38 Xf (by kernel_rfl) aA λd=>aE d f aA ?_;refine Xd.fork Xb d rfl rfl rfl (λF=>?_) (λF=>?_)
  .rw[F];refine aE d f aA (aE d l aA ?_);refine Xd.fork Xb d rfl rfl rfl (λG=>?_) (λG=>?_)
   .rw[G];refine aE d f aA ?_;refine Xd.fork Xb d rfl rfl rfl (λH=>?_) (λH=>?_)
    .rw[H];refine aE d f aA (aE d l aA ?_);refine Xd.fork Xb d rfl rfl rfl (λI=>?_) (λI=>?_)
     .rw[I];refine aE d f aA ?_;refine Xd.fork Xb d rfl rfl rfl (λJ=>?_) (λJ=>?_)
      .rw[J];exact aE d f aA (aE d l aA (aE d f aA (aG d (λw' O=>XfL c p cL w' ((hc.bR i).bR O)) aA (aF d aA λt a=>bE func222 aA ⟨rfl,i.trans a⟩))))
      .rw[J];exact aF d aA λt a=>bE func222 aA ⟨rfl,i.trans a⟩
     .rw[I];exact aF d aA λt a=>bE func222 aA ⟨rfl,i.trans a⟩
    .rw[H];exact aF d aA λt a=>bE func222 aA ⟨rfl,i.trans a⟩
   .rw[G];exact aF d aA λt a=>bE func222 aA ⟨rfl,i.trans a⟩
  .rw[F];exact aF d aA λt a=>bE func222 aA ⟨rfl,i.trans a⟩
theorem XdQ{p:Y8}(h:Yw w c p)(hk:k<c.bT.length):∃b off,p.ca=some ⟨b,off,none⟩/\w.cell? ⟨b,off+k,none⟩=some (.int .i64 (Z6 c k)):=h.bT k hk
theorem XbO(c:Conf)(p:Y8)(q:Plc)(w:dD)(hc:Yw w c p)(hq:Zo w q)(hm:Zb c=true)(hfew:q.bS.length<=1000000000):Xe prog 209 #[.agg (Zj c p).toArray,.agg (Xv q).toArray] w (Grow (.int .i64 (Z3 c q)) w):=by
 obtain⟨D,E,F⟩:=D3 hm;refine aR func209 ntmps209 aA (bC aA λcb G e1 l r x=>bC aA λqb v e2 m e y=>?_);have o:=r.trans e;refine bB (e.bP l) aA (bB m aA (bG (XbP c p q v (hc.bR o) (hq.bQ o)) aA λH f=>?_));have d:=o.trans f;have h:=(e.trans f).bP l;have a:=f.bP m;cases i:Yk c q with
 |false=>
  exact bI aA (bE func209 aA ⟨Xz (by unfold Z3;rw[i];rfl),d⟩)
 |true=>
  refine aS aA (bB a aA (aT aA (λb=>?_) λb=>?_))
  .have g:q.cL=-1:=by simpa using b
   have z:0<=(q.bS.length:Int)*c.size:=ZI (by omega) (by omega);have A:(q.bS.length:Int)*c.size<=1000000000*4096:=ZG (by omega) (by omega) (by omega) (by omega);refine Xa.cJ Xb rfl a rfl rfl ?_;refine Xa.cJ Xb rfl h rfl rfl ?_;refine Xa.arith Xb rfl (w64 (by omega)) rfl ?_;exact bE func209 aA ⟨Xz (by unfold Z3;rw[bK i,bK g]),d⟩
  .have g:¬q.cL=-1:=by simpa using b
   obtain⟨k,pg,ix,s,B,C,t,_,_,_,_,_,_,_⟩:=Id hm i g;obtain⟨cb',off,n,u⟩:=XdQ (hc.bR d) t;obtain⟨ca,cc,ka,kc⟩:=p;simp only at n
   subst n;obtain⟨cL,cR,idx,pa,pc,bS⟩:=q;simp only at s
   subst s;exact bB h aA (bB a aA (Xa.index Xb rfl (j:=k) (show(0:Int)<=k by omega) (show(k:Int)<c.bT.length by omega) (by simp) rfl (aW aA u aA (bE func209 aA ⟨Xz (by unfold Z3;rw[bK i];simp only;rw[bJ g]),d⟩))))
theorem XbN(c:Conf)(p:Y8)(q:Plc)(w:dD)(hc:Yw w c p)(hq:Zo w q)(hm:Zb c=true):Xe prog 150 #[.agg (Zj c p).toArray,.agg (Xv q).toArray] w (Grow (.int .i64 (Ak c q)) w):=by
 obtain⟨F,G,H⟩:=D3 hm;have A:=Nk hm;refine aR func150 ntmps150 aA (bC aA λcb I e1 l u D=>bC aA λqb B e2 m f E=>?_);have s:=u.trans f;refine bB (f.bP l) aA (bB m aA (bG (XbP c p q B (hc.bR s) (hq.bQ s)) aA λJ h=>?_));have e:=s.trans h;have i:=(f.trans h).bP l;have b:=h.bP m;cases t:Yk c q with
 |false=>
  exact bI aA (bE func150 aA ⟨Xz (by unfold Ak;rw[t,bJ (by simp)]),e⟩)
 |true=>
  refine aS aA (bB b aA (aT aA (λd=>?_) λd=>?_))
  .have g:q.cL=-1:=by simpa using d
   exact bE func150 aA ⟨Xz (by unfold Ak;rw[bJ (λC=>C.2 g)]),e⟩
  .have g:¬q.cL=-1:=by simpa using d
   obtain⟨k,pg,ix,v,n,o,x,K,L,M,N,O,P,Q⟩:=Id hm t g;obtain⟨cb',off,r,y⟩:=XdQ (hc.bR e) x;obtain⟨ca,cc,ka,kc⟩:=p;simp only at r
   subst r;obtain⟨cL,cR,idx,pa,pc,bS⟩:=q;simp only at v n o
   subst v;subst n;subst o;exact aQ 16 Xf (by kernel_rfl) aA λa=>aE a b aA (aE a i aA (Xd.arith Xb a rfl (w64 (by show _/\_;simp only;omega)) rfl (aE a b aA (aE a i aA (aE a b aA (Xd.index Xb a rfl (j:=k) (show(0:Int)<=k by omega) (show(k:Int)<c.bT.length by omega) (by simp) rfl (aD a y aA (Xd.arith Xb a rfl (w64 (by show _/\_;simp only;omega)) rfl (Xd.arith Xb a rfl (w64 (by show _/\_;simp only;omega)) rfl (aF a aA λR z=>bE func150 aA ⟨Xz (by unfold Ak;rw[bK ⟨t,g⟩]),e.trans z⟩))))))))))
theorem XbR(c:Conf)(p:Y8)(q:Plc)(at' n:Int)(w:dD)(hc:Yw w c p)(hq:Zo w q)(hm:Zb c=true)(hfew:q.bS.length<=4096):Xe prog 258 #[.agg (Zj c p).toArray,.agg (Xv q).toArray,.int .i64 at',.int .i64 n] w (Grow (.int .i64 (Qq c q at' n)) w):=by
 have y:=K6 (c:=c) (q:=q) hm hfew;refine aR func258 ntmps258 aA (bC aA λcb z e1 i m v=>bC aA λqb s e2 j d x=>?_);have l:=m.trans d;refine bB (d.bP i) aA (bB j aA (bG (XbP c p q s (hc.bR l) (hq.bQ l)) aA λt e=>?_));have a:=l.trans e;have f:=(d.trans e).bP i;have g:=e.bP j;cases o:Yk c q with
 |false=>
  exact bI aA (bE func258 aA ⟨Xz (by unfold Qq;rw[bK o]),a⟩)
 |true=>
  have r:Qq c q at' n=if at'<0\/n<0\/Z3 c q<n\/Z3 c q-n<at' then 8 else 0:=by unfold Qq;rw[bJ (by rw[o];decide)]
  rw[r];refine aS aA ?_;by_cases A:at'<0
  .exact bI aA (bE func258 aA ⟨Xz (by rw[bK (by omega)]),a⟩)
  refine aS aA ?_;by_cases B:n<0
  .exact bI aA (bE func258 aA ⟨Xz (by rw[bK (by omega)]),a⟩)
  refine aS aA (bB f aA (bB g aA (bG (XbO c p q t (hc.bR a) (hq.bQ a) hm (by omega)) aA λu h=>?_)));have b:=a.trans h;by_cases C:Z3 c q<n
  .exact bI aA (bE func258 aA ⟨Xz (by rw[bK (by omega)]),b⟩)
  refine aS aA (bB (h.bP f) aA (bB (h.bP g) aA (bG (XbO c p q u (hc.bR b) (hq.bQ b) hm (by omega)) aA λD k=>aV aA ?_)));by_cases E:Z3 c q-n<at'
  .exact bI aA (bE func258 aA ⟨Xz (by rw[bK (by omega)]),b.trans k⟩)
  .exact aS aA (bE func258 aA ⟨Xz (by rw[bJ (by omega)]),b.trans k⟩)
def B2(c:Conf)(q:Plc)(i:Nat):Int:=if q.cL=-1 then q.bS.getD (i/c.size.toNat) 0*c.size+((i%c.size.toNat:Nat):Int) else Ak c q+i
theorem XfZ(c:Conf)(p:Y8)(q:Plc)(i:Nat)(w:dD)(hc:Yw w c p)(hq:Zo w q)(hm:Zb c=true)(hin:Yk c q=true)(hfew:q.bS.length<=4096)(hi:(i:Int)<Z3 c q):Xe prog 262 #[.agg (Zj c p).toArray,.agg (Xv q).toArray,.int .i64 i] w (Grow (.int .i64 (B2 c q i)) w):=by
 obtain⟨S,T,U⟩:=D3 hm;have J:=Nk hm;refine aR func262 ntmps262 aA (bC aA λcb V e1 z A O=>bC aA λqb K e2 f s P=>?_);have g:=A.trans s;have d:=s.bP z;refine bB f aA ?_;by_cases a:q.cL=-1
 .obtain⟨L,h⟩:=T6 hin a;have l:Z3 c q=(q.bS.length:Int)*c.size:=by unfold Z3;rw[bK hin,bK a]
  rw[l] at hi;obtain⟨sz,m⟩:=XE (show 0<=c.size by omega);have x:c.size.toNat=sz:=by omega
  have e:i/sz<q.bS.length:=by
   apply Nat.div_lt_of_lt_mul
   have:((sz*q.bS.length:Nat):Int)=(q.bS.length:Int)*c.size:=by rw[m,YP];rfl
   omega
  have y:=YQ i (show 0<sz by omega);have Q:i<=16777216:=by
   have:(q.bS.length:Int)*c.size<=4096*4096:=ZG (by omega) (by omega) (by omega) (by omega);omega
  have t:(i:Int)/c.size=((i/sz:Nat):Int):=by rw[m];rfl
  have u:(i:Int)%c.size=((i%sz:Nat):Int):=by rw[m];rfl
  have n:B2 c q i=q.bS.getD (i/sz) 0*c.size+((i%sz:Nat):Int):=by unfold B2;rw[bK a,x]
  obtain⟨D,B⟩:∃D,D=i/sz:=⟨_,rfl⟩;obtain⟨M,C⟩:∃M,M=i%sz:=⟨_,rfl⟩;rw[<-B] at e t n;rw[<-C] at y u n
  clear B C
  obtain⟨gb,goff,v,E⟩:=(hq.bQ g).rd D e;have F:0<=q.bS.getD D 0/\q.bS.getD D 0<c.bS:=h _ (by rw[XA,XD e];exact XM e);have o:0<=q.bS.getD D 0*c.size/\q.bS.getD D 0*c.size<=1024*4096:=⟨ZI F.1 (by omega),ZG (by omega) (by omega) (by omega) (by omega)⟩;rw[n];obtain⟨cL,cR,idx,pa,pc,bS⟩:=q;simp only at v
  subst v;refine aM aA (show(cL == -1)=true by rw[show cL=-1 from a];rfl) (aQ 17 Xf (by kernel_rfl) aA λb=>aE b f aA (aE b d aA (Xd.div Xb b rfl (by omega) (Gh (by omega) (by omega)) rfl ?_)));rw[t];refine Xd.index Xb b rfl (j:=D) (show(0:Int)<=(D:Int) by omega) (show(D:Int)<bS.length by have:D<bS.length:=e;omega) (by simp) rfl (aD b E aA (aE b d aA (Xd.arith Xb b rfl (w64 (by show _/\_;simp only at o⊢;omega)) rfl (aE b d aA (Xd.div Xb b rfl (by omega) (G8 (by omega)) rfl ?_)))));rw[u];exact Xd.arith Xb b rfl (w64 (by show _/\_;simp only at o⊢;omega)) rfl (aF b aA λN r=>bE func262 aA ⟨rfl,g.trans r⟩)
 .obtain⟨k,pg,ix,G,h,H,R,W,g2,g3,g4,g5,g6,g7⟩:=Id hm hin a;have I:Ak c q=(pg:Int)*c.size+(ix:Int)*Z6 c k:=by unfold Ak;rw[bK ⟨hin,a⟩,G,h,H]
  have l:Z3 c q=Z6 c k:=by unfold Z3;rw[bK hin,bJ a,G]
  rw[l] at hi;exact aI aA (show(q.cL == -1)=false by simpa using a) (bB d aA (bB f aA (bG (XbN c p q K (hc.bR g) (hq.bQ g) hm) aA λN r=>aJ aA (by rw[I];omega) (bE func262 aA ⟨Xz (by unfold B2;rw[bJ a]),g.trans r⟩))))
theorem Xns{cR:Nat}(hp:1<=cR):∀(n at':Nat),0<n->(Zz at' n cR).length+at'/cR=(at'+n-1)/cR+1:=by
 intro n
 induction n using QP with
 |_ n ih=>
  intro at' b;have c:=YQ at' (show 0<cR by omega);have g:=QB at' cR;rw[Lw hp b,XN];by_cases a:n<=cR-at'%cR
  .rw[Nat.min_eq_left a,Nat.sub_self,Vo];have:(at'+n-1)/cR=at'/cR:=by
    apply Nat.div_eq_of_lt_le
    .rw[QE];omega
    .rw[Nat.add_mul,Nat.one_mul,QE];omega
   rw[this]
   simp
   omega
  .rw[Nat.min_eq_right (by omega)];have d:=ih (n-(cR-at'%cR)) (by omega) (at'+(cR-at'%cR)) (by omega);have f:(at'+(cR-at'%cR))/cR=at'/cR+1:=by
    have e:at'+(cR-at'%cR)=(at'/cR+1)*cR:=by rw[Nat.add_mul,Nat.one_mul,QE (at'/cR)];omega
    rw[e,Nat.mul_div_cancel _ (by omega)]
   rw[f,show at'+(cR-at'%cR)+(n-(cR-at'%cR))-1=at'+n-1 from by omega] at d;omega
theorem Xl2(at' n cR:Nat)(w:dD)(hb:at'+n<=16777216/\1<=cR/\cR<=16777216):Xe prog 300 #[.int .i64 at',.int .i64 n,.int .i64 cR] w
 (λv w'=>∃a cap,v=.slice a (Zz at' n cR).length cap/\Xc Xf w w'):=by
 have a2:maxLen=9223372036854775807:=rfl;refine aR func300 ntmps300 aA (aS aA ?_);by_cases O:n=0
 .subst O;exact bI aA (bE func300 aA ⟨none,0,by rw[Vo];rfl,Xc.refl _ _⟩)
 refine aS aA (aS aA (aS aA (aV aA (aS aA (Xa.div Xb rfl (by omega) (Gh (by omega) (by omega)) rfl ?_)))));have c:=Xns (cR:=cR) hb.2.1 n at' (by omega);have B:=Sn (cR:=cR) hb.2.1 n at';obtain⟨L,C⟩:∃L,L=(Zz at' n cR).length:=⟨_,rfl⟩;rw[<-C] at c B⊢;have D:(at':Int)/cR=((at'/cR:Nat):Int):=rfl;rw[D];obtain⟨b,r⟩:∃b,b=at'/cR:=⟨_,rfl⟩;rw[<-r] at c⊢;have y:=Nat.div_mul_le_self (at'+n-1) cR;have l:((at':Int)+n-1)/cR=(((at'+n-1)/cR:Nat):Int):=by
  rw[show(at':Int)+n-1=((at'+n-1:Nat):Int) from by omega];rfl
 obtain⟨E,F⟩:∃E,E=(at'+n-1)/cR:=⟨_,rfl⟩;rw[<-F] at c y l
 clear F
 have G:L=0->False:=λh=>by
  subst h;have:Zz at' n cR=[]:=ZR.1 C.symm;rw[Lw hb.2.1 (by omega)] at this;cases this
 have a3:=Nat.pos_of_ne_zero G;have s:E=b+L-1:=by omega
 have H:((at':Int)+n-1)/cR=((b+L-1:Nat):Int):=by rw[l,s]
 have P:(b+L-1)*cR<=at'+n:=by rw[<-s];omega
 refine Xa.loop (α:=Nat×dE) (λx=>[(0,false,.int .i64 at'),(1,false,.int .i64 n),(2,false,.int .i64 cR),(7,false,x.2),(8,false,.int .i64 ((b+x.1:Nat):Int))])
  (λx w'=>x.1<=L/\(∃xs,Xl w.heap.size 341 3 w' x.2 x.1 xs)/\Xc Xf w w') (λx=>L-x.1) (0,.slice none 0 0) ⟨rfl,rfl,rfl,rfl,rfl,trivial⟩ ⟨XP _,⟨[],World.ownsRow_nil _ _ _ _⟩,Xc.refl _ _⟩ ?_
 rintro⟨j,v⟩ w1 ⟨Q,⟨xs,q⟩,f⟩ ih;simp only at Q q
 refine aN aA (aV aA (aV aA (Xa.div Xb rfl (by omega) (Gh (by omega) (by omega)) rfl ?_)));rw[H];refine aT aA (λz=>?_) λz=>?_
 .have t:j<L:=by have:=bL z;simp only at this;omega
  have I:((b+j:Nat):Int)*cR<=at'+n:=by
   have h1:(b+j)*cR<=(b+L-1)*cR:=Nat.mul_le_mul_right _ (by omega);omega
  have J:0<=((b+j:Nat):Int)*cR:=ZI (by omega) (by omega);have R:((b+(j,v).fst:Nat):Int)*cR<=at'+n:=I;have S:0<=((b+(j,v).fst:Nat):Int)*cR:=J;have a4:(j,v).fst<=16777216:=by show j<=16777216;omega
  have T:b<=16777216:=by rw[r];exact ZZ (Nat.div_le_self _ _) (by omega)
  refine Xa.arith Xb rfl (w64 (by omega)) rfl ?_;refine aV aA (aV aA (aV aA (aT aA (λU=>?_) λU=>?_)))
  .refine aV aA (aV aA (aV aA (aJ aA (by first|omega|(split <;> omega)) (aJ aA (by first|omega|(split <;> omega)) (aO aA (Xa.buildSlice Xb rfl λV W e2 m d K=>aN aA ?_))))));have k:=q.bR d (λ_ _ h=>h);exact Xa.append (base:=w.heap.size) (news:=(_:List dE)) Xb rfl k (by have:=f.size;have:=d.size;omega) rfl (λi u e=>by rw[Cy,Ys m];simpa [Y4] using e) (λu e=>by simp at e;rcases e with rfl|rfl|rfl <;> rfl) (by simp only;omega) λA w3 o p M=>aN aA (aV aA (ih (j+1,A) _ _ ⟨t,⟨_,o⟩,k.bU (f.trans d) (XF _) p⟩ (by simp only;omega) ⟨rfl,rfl,rfl,rfl,by show some (Value.int .i64 (((b+j:Nat):Int)+1))=some (.int .i64 ((b+(j+1):Nat):Int));exact XaY (by omega),trivial⟩))
  .refine aV aA (aJ aA (by first|omega|(split <;> omega)) (aJ aA (by first|omega|(split <;> omega)) (aO aA (Xa.buildSlice Xb rfl λV W e2 m d K=>aN aA ?_))));have k:=q.bR d (λ_ _ h=>h);exact Xa.append (base:=w.heap.size) (news:=(_:List dE)) Xb rfl k (by have:=f.size;have:=d.size;omega) rfl (λi u e=>by rw[Cy,Ys m];simpa [Y4] using e) (λu e=>by simp at e;rcases e with rfl|rfl|rfl <;> rfl) (by simp only;omega) λA w3 o p M=>aN aA (aV aA (ih (j+1,A) _ _ ⟨t,⟨_,o⟩,k.bU (f.trans d) (XF _) p⟩ (by simp only;omega) ⟨rfl,rfl,rfl,rfl,by show some (Value.int .i64 (((b+j:Nat):Int)+1))=some (.int .i64 ((b+(j+1):Nat):Int));exact XaY (by omega),trivial⟩))
 .have N:j=L:=by have:=bM z;simp only at this;omega
  subst N;rcases q.2 with⟨rfl,h0⟩|⟨g,cap,cur,rfl,_⟩
  .exact absurd h0 (by omega)
  .exact bE func300 aA ⟨_,cap,rfl,f⟩
def Al(c:Conf)(p:Y8)(r:RA):List dE:=Zj c p++G7 r
def Zi(c:Conf)(q:Plc)(at' n:Nat):Int:=n+(if q.cL=-1 then ((Zz at' n c.size.toNat).length:Int) else 0)
theorem Xf1(c:Conf)(p:Y8)(r:RA)(q:Plc)(at' n:Nat)(w:dD)(hm:Zb c=true)(hb:at'+n<=16777216)(hst:0<=r.cM/\r.cM<=1152921504606846976):Xe prog 263 #[.agg (Al c p r).toArray,.agg (Xv q).toArray,.int .i64 at',.int .i64 n] w (Grow (.agg (Al c p {r with cM:=r.cM+Zi c q at' n}).toArray) w):=by
 obtain⟨m1,m2,m3⟩:=D3 hm;obtain⟨ra,rcap,rbs,st⟩:=r;replace hst:0<=st/\st<=1152921504606846976:=hst;refine aR func263 ntmps263 aA (bC aA λxb M e1 i j S=>bC aA λqb x e2 k y T=>bC aA λob w3 e3 G l U=>?_);replace k:x.heap[qb]?=some (.cells (Xv q).toArray 83 (0,0)):=k;replace i:M.heap[xb]?=some (.cells (Al c p ⟨ra,rcap,rbs,st⟩).toArray 264 (0,0)):=i;have m:=l.bP (y.bP i);refine Xa.cJ Xb rfl m rfl rfl ?_;refine Xa.arith Xb rfl (w64 (by show _/\_;simp only;omega)) rfl ?_;refine bF m aA λN b o V=>?_;have A:=((j.trans y).trans l).sn o;have s:=o.heap G (by omega);refine bB (o.heap (l.bP k) (by omega)) aA ?_;by_cases g:q.cL=-1
 .obtain⟨sz,H⟩:=XE (show 0<=c.size by omega);have D:c.size.toNat=sz:=by omega
  have W:=Sn (cR:=sz) (by omega) n at';refine aM aA (show(q.cL == -1)=true by rw[g];rfl) (aQ 13 Xf (by kernel_rfl) aA λd=>aE d b aA ?_);refine Xd.cJ Xb d rfl b (by first|exact λh=>h|(intro h;omega)|assumption) rfl rfl ?_;have O:∀w',Xc Xf N w'->Xe prog 300 #[.int .i64 at',.int .i64 n,.int .i64 c.size] w' (λu x=>Xc Xf w' x/\∃a cap,u=.slice a (Zz at' n sz).length cap):=λw' a0=>by
   rw[H];exact(Xl2 at' n sz w' (by omega)).mono λu x ⟨a,cap,P,Q⟩=>⟨Q,a,cap,P⟩
  refine Xd.callQ d rfl rfl (O) ?_;rintro _ R I ⟨sa,scap,rfl⟩;refine Xd.adv Xb d rfl (Xd.arith Xb d rfl (w64 (by show _/\_;simp only;omega)) rfl (Xd.adv Xb d rfl (aF d aA λw6 J=>?_)));have f:=I.trans J;refine bF (f.bP b) aA λw7 E B a1=>?_;refine bB E aA (bF (B.heap (f.bP s) (by omega)) aA λw8 t K a2=>?_);have F:st+(n:Int)+((Zz at' n sz).length:Int)=st+Zi c q at' n:=by unfold Zi;rw[bK g,D];omega
  rw[F] at t;exact aK func263 t aA ⟨rfl,(((A.trans f).sn B).bU K (λz C e=>by have:=j.size;omega))⟩
 .refine aI aA (show(q.cL == -1)=false by simpa using g) (bB b aA (bF s aA λR v L a3=>?_));have F:st+(n:Int)=st+Zi c q at' n:=by unfold Zi;rw[bJ g];omega
  rw[F] at v;exact aK func263 v aA ⟨rfl,(A.bU L (λz C e=>by have:=j.size;omega))⟩
theorem XcO(hm:Zb c=true)(hin:Yk c q=true)(hi:(i:Int)<Z3 c q):0<=B2 c q i/\B2 c q i<c.size*c.bS:=by
 obtain⟨t,u,v⟩:=D3 hm;unfold B2;by_cases a:q.cL=-1
 .rw[bK a];obtain⟨n,b⟩:=T6 hin a;have e:Z3 c q=(q.bS.length:Int)*c.size:=by unfold Z3;rw[bK hin,bK a]
  rw[e] at hi;obtain⟨sz,h⟩:=XE (show 0<=c.size by omega);have f:c.size.toNat=sz:=by omega
  rw[f];have d:i/sz<q.bS.length:=by
   apply Nat.div_lt_of_lt_mul
   have:((sz*q.bS.length:Nat):Int)=(q.bS.length:Int)*c.size:=by rw[h,YP];rfl
   omega
  have g:=YQ i (show 0<sz by omega);obtain⟨D,o⟩:∃D,D=i/sz:=⟨_,rfl⟩;obtain⟨M,p⟩:∃M,M=i%sz:=⟨_,rfl⟩;rw[<-o] at d⊢;rw[<-p] at g⊢;have j:0<=q.bS.getD D 0/\q.bS.getD D 0<c.bS:=b _ (by rw[XA,XD d];exact XM d);have w:0<=q.bS.getD D 0*c.size:=ZI j.1 (by omega);have e2:q.bS.getD D 0*c.size+c.size<=c.size*c.bS:=by
   have:(q.bS.getD D 0+1)*c.size<=c.bS*c.size:=ZD (by omega) (by omega);rw[QL,QM,YP c.bS] at this;exact this
  omega
 .rw[bJ a];obtain⟨k,pg,ix,l,b,m,r,x,y,z,A,B,C,E⟩:=Id hm hin a;have s:Ak c q=(pg:Int)*c.size+(ix:Int)*Z6 c k:=by unfold Ak;rw[bK ⟨hin,a⟩,l,b,m]
  have e:Z3 c q=Z6 c k:=by unfold Z3;rw[bK hin,bJ a,l]
  omega
def Yg(c:Conf)(q:Plc)(bs:List Int)(at' n:Nat):List Int:=(List.range n).map λi=>bs.getD (B2 c q (at'+i)).toNat 0
theorem Xn3(c:Conf)(q:Plc)(bs:List Int)(at' n:Nat):Yg c q bs at' (n+1)=Yg c q bs at' n++[bs.getD (B2 c q (at'+n)).toNat 0]:=by
 unfold Yg;rw[QC,XL];rfl
theorem To{at' n:Int}(h:Qq c q at' n=0):Yk c q=true/\0<=at'/\0<=n/\at'+n<=Z3 c q:=by
 have a:Yk c q=true:=by
  cases a:Yk c q with
  |true=>rfl
  |false=>unfold Qq at h;rw[bK a] at h;cases h
 have b:¬(at'<0\/n<0\/Z3 c q<n\/Z3 c q-n<at'):=λd=>by
  unfold Qq at h;rw[bJ (by rw[a];decide),bK d] at h;cases h
 exact⟨a,by omega,by omega,by omega⟩
theorem XfY(c:Conf)(p:Y8)(r:RA)(q:Plc)(at' n:Nat)(w:dD)(hc:Yw w c p)(hq:Zo w q)(hm:Zb c=true)(hfew:q.bS.length<=4096)(hck:Qq c q at' n=0)(hR:Yh w r)(hrl:(r.bs.length:Int)=c.size*c.bS)(hst:0<=r.cM/\r.cM<=1152921504606846976):Xe prog 213 #[.agg (Al c p r).toArray,.agg (Xv q).toArray,.int .i64 at',.int .i64 n] w (λu w'=>∃u1,u=.tuple #[.agg (Al c p {r with cM:=r.cM+Zi c q at' n}).toArray,u1,.int .i64 0]/\Xl w.heap.size 5 1 w' u1 n ((Yg c q r.bs at' n).map (Value.int .u8))/\Xc Xf w w'):=by
 have al:maxLen=9223372036854775807:=rfl;obtain⟨C,_,_,am⟩:=To hck;have an:=K6 (c:=c) (q:=q) hm hfew;refine aR func213 ntmps213 aA (bC aA λxb w1 e1 Q D ao=>bC aA λqb w2 e2 R E ap=>bC aA λob w3 e3 S t aq=>?_);have d:=t.bP (E.bP Q);have l:=t.bP R;have M:=(D.trans E).trans t;refine bB d aA (bB l aA (bG (XbR c p q at' n w3 (hc.bR M) (hq.bQ M) hm hfew) aA λN y=>?_));have F:=M.trans y;rw[hck];refine aS aA ?_;refine Xa.loop (α:=Nat×dE) (λx=>[(2,false,.int .i64 at'),(3,false,.int .i64 n),(4,false,.pointer (some ⟨xb,0,none⟩)),(5,false,.pointer (some ⟨qb,0,none⟩)),(8,false,.pointer (some ⟨ob,0,none⟩)),(12,false,x.2),(13,false,.int .i64 ((at'+x.1:Nat):Int))])
  (λx w'=>x.1<=n/\Xl N.heap.size 5 1 w' x.2 x.1 ((Yg c q r.bs at' x.1).map (Value.int .u8))/\Xc Xf N w') (λx=>n-x.1) (0,.slice none 0 0) ⟨rfl,rfl,rfl,rfl,rfl,rfl,rfl,trivial⟩ ⟨XP _,World.ownsRow_nil _ _ _ _,Xc.refl _ _⟩ ?_
 rintro⟨j,v⟩ w5 ⟨hj,B,o⟩ ih;simp only at hj B
 have a:=y.trans o;have s:=F.trans o;refine aN aA (aV aA (aT aA (λO=>?_) λO=>?_))
 .have T:j<n:=by have:=bL O;simp only at this;omega
  have U:=XcO (i:=at'+j) hm C (by omega);obtain⟨x,V⟩:=XE U.1;have A:x<r.bs.length:=by omega
  have W:Yg c q r.bs at' (j+1)=Yg c q r.bs at' j++[r.bs.getD x 0]:=by rw[Xn3,V];rfl
  obtain⟨bb,boff,G,a0⟩:=(hR.rd.bR (s)) x A;obtain⟨ra,rcap,rbs,st⟩:=r;simp only at G
  subst G;replace A:x<rbs.length:=A;refine aQ 12 Xf (by kernel_rfl) aA λf=>aE f (a.bP d) aA (aE f (a.bP d) aA (aE f (a.bP l) aA (aG f (λw' H=>XfZ c p q (at'+j) w' ((hc.bR s).bR H) ((hq.bQ s).bQ H) hm C hfew (by omega)) aA ?_)));rw[V];refine Xd.index Xb f rfl (j:=x) (show(0:Int)<=(x:Int) by omega) (show(x:Int)<rbs.length by omega) (by simp) rfl ?_;refine aD f a0 aA (Xd.cK f rfl λw6 k=>Xo.buildSlice Xb f rfl (λ_=>rfl) λb7 w7 e7 a5 a6 a7=>aF f aA λw8 I=>?_);have m:=(k.trans a6).trans I;have J:=B.bR m (λ_ _ h=>h);exact Xa.append (base:=N.heap.size) (news:=[.int .u8 (rbs.getD x 0)]) Xb rfl J (by have:=o.size;have:=m.size;omega) rfl (Gs (I.bP a5)) (by simp[Value.oneCell']) (by simp only;omega) λv9 w9 a8 a9 ar=>aN aA (aV aA (ih (j+1,v9) _ _ ⟨T,by rw[W,XL];exact a8,J.bU (o.trans m) (XF _) a9⟩ (by simp only;omega) ⟨rfl,rfl,rfl,rfl,rfl,rfl,by show some (Value.int .i64 (((at'+j:Nat):Int)+1))=some (.int .i64 ((at'+(j+1):Nat):Int));exact XaY (by omega),trivial⟩))
 .have aa:j=n:=by have:=bM O;simp only at this;omega
  subst aa;refine bB (a.bP d) aA (bB (a.bP l) aA (bG (Xf1 c p r q at' j w5 hm (by omega) hst) aA λw6 k=>?_));refine bF ((a.trans k).bP S) aA λw7 P K a7=>?_;have L:=(B.bR k (λ_ _ h=>h)).bR K (λb hb e=>by have:=(World.ownsRow.lt B b hb.symm).1;have:=y.size;omega);have ai:=F.size;have ab:Xl w.heap.size 5 1 w7 v j ((Yg c q r.bs at' j).map (Value.int .u8)):=by
   refine⟨L.1,?_⟩;rcases L.2 with h|⟨g,cap,cur,a1,a2,a3⟩
   .exact .inl h
   .exact .inr ⟨g,cap,cur,a1,by omega,a3⟩
  exact aK func213 P aA ⟨v,rfl,ab,(s.trans k).bU K (λz hz e=>by have:=D.size;omega)⟩
def Q8(c:Conf)(q:Plc)(bs:List Int)(at':Nat)(l:List Int):Nat->List Int
 |0=>bs
 |k+1=>(Q8 c q bs at' l k).set (B2 c q (at'+k)).toNat (l.getD k 0)
theorem Kp(c:Conf)(q:Plc)(bs:List Int)(at':Nat)(l:List Int):∀k,(Q8 c q bs at' l k).length=bs.length
 |0=>rfl
 |k+1=>by show(List.set _ _ _).length=_;rw[XG,Kp c q bs at' l k]
theorem Xkj{v x:Int}(h:x∈l.set i v):x∈l\/x=v:=by
 rcases ZN h with h|h
 .exact .inl h
 .exact .inr h
theorem XeH(hb:Qh bs)(hl:Qh l):∀{k:Nat},k<=l.length->Qh (Q8 c q bs at' l k)
 |0,_=>hb
 |k+1,h=>λx hx=>by
  rcases Xkj hx with hx|hx
  .exact XeH hb hl (k:=k) (by omega) x hx
  .have a:k<l.length:=h;rw[XA,XD a] at hx;rw[hx];exact hl _ (XM a)
theorem XbQ(c:Conf)(p:Y8)(r:RA)(q:Plc)(at':Nat)(a:Option Addr)(cap:Nat)(l:List Int)(w:dD)(hc:Yw w c p)(hq:Zo w q)(hm:Zb c=true)(hfew:q.bS.length<=4096)(hck:Qq c q at' l.length=0)(hR:Yh w r)(hrl:(r.bs.length:Int)=c.size*c.bS)(hst:0<=r.cM/\r.cM<=1152921504606846976)(hr:Rd .u8 w a l)(hin8:Qh l):Xe prog 214 #[.agg (Al c p r).toArray,.agg (Xv q).toArray,.int .i64 at',.slice a l.length cap] w (λu w'=>∃r':RA,u=.tuple #[.agg (Al c p r').toArray,.int .i64 0]/\r'.bs=Q8 c q r.bs at' l l.length/\r'.cM=r.cM+Zi c q at' l.length/\Yh w' r'/\Fy w r.a r'.a/\Xc Xf w w'):=by
 have bh:maxLen=9223372036854775807:=rfl;obtain⟨T,_,_,bi⟩:=To hck;have bj:=K6 (c:=c) (q:=q) hm hfew;have b9:=Nk hm;have A:=hR.len;obtain⟨ra,rcap,rbs,st⟩:=r;replace hrl:(rbs.length:Int)=c.size*c.bS:=hrl;replace A:rbs.length<=4194304:=A;refine Xe.enter func214 rfl ntmps214 rfl rfl ?_;refine aN rfl ?_;refine Xa.alloc Xb rfl ?_;intro xb w1 e1 F U bk;refine aN rfl ?_;refine Xa.alloc Xb rfl ?_;intro qb w2 e2 G V bm;refine aN rfl ?_;refine Xa.alloc Xb rfl ?_;intro ob w3 e3 W H bn;refine aN rfl ?_;replace G:w2.heap[qb]?=some (.cells (Xv q).toArray 83 (0,0)):=G;replace F:w1.heap[xb]?=some (.cells (Al c p ⟨ra,rcap,rbs,st⟩).toArray 264 (0,0)):=F;have b:=H.bP (V.bP F);have s:=H.bP G;have hw:=(U.trans V).trans H;refine Xa.loads Xb rfl b rfl rfl ?_;refine Xa.loads Xb rfl s rfl rfl ?_;refine aP rfl (XbR c p q at' l.length w3 (hc.bR hw) (hq.bQ hw) hm hfew) ?_;rintro _ w4 ⟨rfl,m⟩;refine aN rfl ?_;have a0:=hw.trans m;rw[hck];refine Xa.no Xb rfl rfl rfl ?_;refine Xa.buildSlice Xb rfl ?_;intro I w5 e5 ao a1 bo;refine aN rfl ?_;have J:=a0.trans a1;have d:=m.trans a1;have a2:Xl w.heap.size 5 1 w5 (.slice (some ⟨I,0,none⟩) 0 0) 0 []:=Xl.empty (by have:=a0.size;omega) ao;obtain⟨a3,B,K,_⟩:=hR.rd 0 (by show 0<rbs.length;omega);replace K:ra=some ⟨a3,B,none⟩:=K;subst K;refine bB (d.bP b) aA ?_;have aa:Rd .u8 w5 (some ⟨a3,B,none⟩) rbs:=hR.rd.bR J;refine Xa.append (base:=w.heap.size) (xs:=[]) (news:=rbs.map (Value.int .u8)) Xb rfl a2 J.size (by simp) aa.cells J1 (by simp only;omega) ?_;intro v6 w6 ap C aq;obtain⟨g,gcap,cur,ac,bp,ar,au,bq,av⟩:=ap.form (by show 0<0+rbs.length;omega);subst ac;refine aN aA ?_;have aw:Xc Xf w w6:=a2.bU J (XF _) C;have t:∀z,z<I -> ¬Jz (.slice (some ⟨I,0,none⟩) 0 0) z:=λz hz h=>by have e:some z=some I:=h;have:=Option.some.inj e;omega
 have br:=Xg (m.bP b);have bs:=Xg (m.bP s);have bt:=Xg (m.bP W);have ae:=C.heap (d.bP b) (t xb (by omega));have af:=C.heap (d.bP s) (t qb (by omega));have ag:=C.heap (d.bP W) (t ob (by omega));have L:cur.toList=rbs.map (Value.int .u8)++cur.toList.drop rbs.length:=by
  have e:=XZ rbs.length cur.toList;rw[show cur.toList.take rbs.length=rbs.map (Value.int .u8) from by simpa using av] at e;exact e.symm
 obtain⟨rest,R⟩:∃rest,rest=cur.toList.drop rbs.length:=⟨_,rfl⟩;rw[<-R] at L;have ah:w6.heap[g]?=some (.cells (rbs.map (Value.int .u8)++rest).toArray 5 (0,0)):=by rw[<-L];exact ar
 have ax:0+rbs.length=rbs.length:=by omega
 rw[ax] at au⊢;have bu:w4.heap.size<=g:=by
  rcases aq.2 with h|h
  .have e:some g=some I:=h;have:=Option.some.inj e;omega
  .have e:some g=some w5.heap.size:=h;have:=Option.some.inj e;omega
 refine Xa.loop (α:=Nat) (λk=>[(2,false,.int .i64 at'),(3,false,.slice a l.length cap),(4,false,.pointer (some ⟨xb,0,none⟩)),(5,false,.pointer (some ⟨qb,0,none⟩)),(8,false,.pointer (some ⟨ob,0,none⟩)),(11,false,.slice (some ⟨g,0,none⟩) rbs.length gcap),(12,false,.int .i64 k)])
  (λk w'=>k<=l.length/\w'.heap[g]?=some (.cells ((Q8 c q rbs at' l k).map (Value.int .u8)++rest).toArray 5 (0,0))/\Xc (λz=>z=g) w6 w') (λk=>l.length-k) 0 ⟨rfl,rfl,rfl,rfl,rfl,rfl,rfl,trivial⟩ ⟨XP _,ah,Xc.refl _ _⟩ ?_
 rintro k w7 ⟨hk,a4,n⟩ ih;have D:Xc Xf w w7:=aw.sn n;have v:=n.heap ae (by omega);have M:=n.heap af (by omega);have ai:=n.heap ag (by omega);have N:=Kp c q rbs at' l k;refine aN aA (aT aA (λh0=>?_) λh0=>?_)
 .have a5:k<l.length:=by have:=bL h0;omega
  have ay:=XcO (i:=at'+k) hm T (by omega);obtain⟨x,hx⟩:=XE ay.1;obtain⟨sb,soff,rfl,b0⟩:=(hr.bR D) k a5;have b1:Q8 c q rbs at' l (k+1)=(Q8 c q rbs at' l k).set x (l.getD k 0):=by show(Q8 c q rbs at' l k).set (B2 c q (at'+k)).toNat (l.getD k 0)=_;rw[hx];rfl
  refine aQ 13 Xf (by kernel_rfl) aA λo=>aE o v aA (aE o M aA (aC o aA (aG o (λw' a6=>XfZ c p q (at'+k) w' ((hc.bR D).bR a6) ((hq.bQ D).bQ a6) hm T hfew (by omega)) aA ?_)));rw[hx];exact aB k o aA (aD o b0 aA (Xd.index Xb o rfl (j:=x) (show(0:Int)<=(x:Int) by omega) (show(x:Int)<rbs.length by omega) (by simp) rfl (aF o aA λS a7=>aL aA (a7.bP a4) (show Z2 ((Q8 c q rbs at' l k).map (Value.int .u8)++rest) (0+x) [.int .u8 (l.getD k 0)]=some (((Q8 c q rbs at' l k).set x (l.getD k 0)).map (Value.int .u8)++rest) from by rw[XT,Vh _ _ _ (by simp;omega),YJ _ _ (by simp;omega),ZY]) aA λw9 b2 b3 bv=>aV aA (ih (k+1) _ _ ⟨a5,by rw[b1];exact b2,(n.trans a7.gr).trans b3⟩ (by omega) ⟨rfl,rfl,rfl,rfl,rfl,rfl,rfl,trivial⟩))))
 .have b4:k=l.length:=by have:=bM h0;omega
  subst b4;refine bB v aA (aO aA ?_);rw[<-N];refine bF v aA λS y E bw=>?_;replace y:S.heap[xb]?=some (.cells (Al c p ⟨some ⟨g,0,none⟩,gcap,Q8 c q rbs at' l l.length,st⟩).toArray 264 (0,0)):=y;have ak:=E.heap M (by omega);have al:=E.heap ai (by omega);have b6:=E.heap a4 (by omega);have b7:Xc Xf w S:=D.sn E;refine bB y aA (bB ak aA (bG (Xf1 c p ⟨some ⟨g,0,none⟩,gcap,Q8 c q rbs at' l l.length,st⟩ q at' l.length S hm (by omega) hst) aA λw9 O=>bF (O.bP al) aA λP f Q bg=>?_));replace f:P.heap[ob]?=some (.cells (Al c p ⟨some ⟨g,0,none⟩,gcap,Q8 c q rbs at' l l.length,st+Zi c q at' l.length⟩).toArray 264 (0,0)):=f;have am:=Q.heap (O.bP b6) (by omega);have an:Xc Xf w P:=(b7.trans O).bU Q (λz hz e=>by have:=U.size;omega);have b8:Yh P ⟨some ⟨g,0,none⟩,gcap,Q8 c q rbs at' l l.length,st+Zi c q at' l.length⟩:=⟨Rd.of_take am (by simp),by simp only[N];omega,by simp only[N];omega,XeH hR.rng hin8 (XF _)⟩;exact aK func214 f aA ⟨_,rfl,rfl,rfl,b8,.inr ⟨g,0,rfl,by omega⟩,an⟩
theorem Xf0(c:Conf)(p:Y8)(r:RA)(q:Plc)(at' n:Nat)(w:dD)(hc:Yw w c p)(hq:Zo w q)(hm:Zb c=true)(hfew:q.bS.length<=4096)(hck:Qq c q at' n=0)(hR:Yh w r)(hrl:(r.bs.length:Int)=c.size*c.bS)(hst:0<=r.cM/\r.cM<=1152921504606846976):Xe prog 207 #[.agg (Al c p r).toArray,.agg (Xv q).toArray,.int .i64 at',.int .i64 n] w (λu w'=>∃r':RA,u=.tuple #[.agg (Al c p r').toArray,.int .i64 0]/\r'.bs=Q8 c q r.bs at' (X6 n) n/\r'.cM=r.cM+Zi c q at' n/\Yh w' r'/\Fy w r.a r'.a/\Xc Xf w w'):=by
 obtain⟨ai,_,_,aj⟩:=To hck;have ak:=K6 (c:=c) (q:=q) hm hfew;have E:(X6 n).length=n:=XI;refine aR func207 ntmps207 aA (bC aA λxb w1 e1 l F al=>bC aA λqb C e2 S G am=>bC aA λob w3 e3 H o an=>?_);replace l:w1.heap[xb]?=some (.cells (Al c p r).toArray 264 (0,0)):=l;have t:=o.bP (G.bP l);have v:=o.bP S;have L:=(F.trans G).trans o;refine bB t aA (bB v aA (bG (XbR c p q at' n w3 (hc.bR L) (hq.bQ L) hm hfew) aA λw4 d=>?_));have T:=L.trans d;rw[hck];refine aS aA (aQ 8 Xf (by kernel_rfl) aA λi=>aE i (d.bP t) aA (aE i (d.bP v) aA (Xd.cK i rfl λw5 y=>Xo.make Xb i rfl (m:=n) (kk:=n) rfl rfl (XF _) (by simp only;omega) (by omega) (λ_=>rfl) λU w6 e6 I A ao=>?_)));have f:=T.trans (y.trans A);have hd:∀w',Xc Xf w6 w'->Xe prog 214 #[.agg (Al c p r).toArray,.agg (Xv q).toArray,.int .i64 at',.slice (some ⟨U,0,none⟩) n n] w' (λu C=>Xc Xf w' C/\∃r':RA,u=.tuple #[.agg (Al c p r').toArray,.int .i64 0]/\r'.bs=Q8 c q r.bs at' (X6 n) n/\r'.cM=r.cM+Zi c q at' n/\Yh C r'/\Fy w r.a r'.a/\Xj (λz=>z=ob) r'.a):=λw' a=>by
  have V:Y4 (Yz (Value.int .u8 0)) n=(X6 n).map (Value.int .u8):=V6 _;rw[V] at I;have W:=XbQ c p r q at' (some ⟨U,0,none⟩) n (X6 n) w' ((hc.bR f).bR a) ((hq.bQ f).bQ a) hm hfew (by rw[E];exact hck) ((hR.bQ f).bQ a) hrl hst (Rd.of (a.bP I) rfl) (λx hx=>by rw[YA hx];omega);rw[E] at W;exact W.mono λu C ⟨r',a1,M,N,O,D,P⟩=>⟨P,r',a1,M,N,O,D.imp id (λ⟨g,off,Q,h2⟩=>⟨g,off,Q,by have:=f.size;have:=a.size;omega⟩),λb off s e hb=>by
   rcases D with h|⟨g,off',Q,h2⟩
   .rw[h] at e;have ah:=Nk hm;obtain⟨b',off',e',a0⟩:=hR.rd 0 (by omega);rw[e] at e';cases e'
    have:=World.block_lt_of_cell? w _ a0;simp only at this
    omega
   .rw[Q] at e;cases e
    have:=Xg H;have:=d.size;have:=y.size;have:=A.size;have:=a.size;omega⟩
 refine Xd.callQ i rfl rfl (hd) ?_;rintro _ w7 J ⟨r',rfl,M,N,O,D,P⟩;refine Xd.adv Xb i rfl (aF i aA λw8 B=>?_);have a7:=f.trans (J.trans B);have R:=(d.trans (y.trans A)).bP H;refine bF ((J.trans B).bP R) aA λw9 j K ap=>?_;replace j:w9.heap[ob]?=some (.cells (Al c p r').toArray 264 (0,0)):=j;have k:=O.bQ B;have a9:Yh w9 r':=⟨k.rd.bW P K,k.len,k.lc,k.rng⟩;exact aK func207 j aA ⟨r',rfl,M,N,a9,D,a7.bU K (λz V e=>by have:=F.size;omega)⟩
theorem Rd.at{k:IntKind}{w:dD}{a:Option Addr}{l:List Int}(h:Rd k w a l)(hl:0<l.length):∃b off,a=some ⟨b,off,none⟩/\∀j,j<l.length->w.cell? ⟨b,off+j,none⟩=some (.int k (l.getD j 0)):=by
 obtain⟨b,off,e,_⟩:=h 0 hl;refine⟨b,off,e,λj c=>?_⟩;obtain⟨b',off',e',d⟩:=h j c;rw[e] at e';cases e';exact d
structure Mv where
 mv:Nat
 f:Nat
 t:Nat
 size:Nat
def Oz(A:Ar)(M:Mv)(cE:Nat):List dE:=[.func (.func 254) #[.pointer (some ⟨A.ab,0,none⟩)] #[],.int .i64 M.f,.int .i64 M.t,.int .i64 M.size,.int .i64 cE]
structure Ey(w:dD)(A:Ar)(V:ArV)(M:Mv)(cE:Nat):Prop where
 ar:X8 w A V
 obj:w.heap[M.mv]?=some (.cells (Oz A M cE).toArray 288 (0,0))
 pos:1<=M.size
 cE:cE<=M.size
 f:M.f+M.size<=V.bs.length
 t:M.t+M.size<=V.bs.length
theorem Ey.nfoot{M:Mv}(h:Ey w A V M g):¬Zw A M.mv:=by
 rintro(e|e)
 .exact H5 h.obj h.ar.dat (by decide) e
 .exact H5 h.obj (h.ar.met _ e).1 (by decide) rfl
theorem Ey.bQ{w w':dD}{A:Ar}{V:ArV}{M:Mv}{g:Nat}(h:Ey w A V M g)(hc:Xc Xf w w'):Ey w' A V M g:=⟨h.ar.bQ hc,hc.bP h.obj,h.pos,h.cE,h.f,h.t⟩
def H8(bs:List Int)(t f n:Nat):List Int:=Q3 bs t (sub bs f n)
theorem P8{f:Nat}(h:f+n<=bs.length)(h':t+n<=bs.length):(H8 bs t f n).length=bs.length:=Jl (by rw[Hc h];exact h')
def Rr(A:Ar)(M:Mv):Nat->Prop:=λb=>Zw A b\/b=M.mv
theorem Ui(A:Ar)(V:ArV)(M:Mv)(g:Nat)(w:dD)(h:Ey w A V M g):Xe prog 158 #[.pointer (some ⟨M.mv,0,none⟩)] w (Grow (.int .i64 (M.size-g:Nat)) w):=by
 have b:=h.ar.len;have c:=h.cE;have ht:=h.t;exact aR func158 ntmps158 aA (Xa.quiet rfl Xn (by kernel_rfl) (Xk.adv Xb rfl (Xk.cJ Xb rfl h.obj rfl rfl (Xk.cJ Xb rfl h.obj rfl rfl (Xk.arith Xb rfl (w64 (by omega)) rfl (Xk.nil λd a=>aN aA (bE func158 aA ⟨Xz (by omega),a⟩)))))))
theorem Xe6(A:Ar)(V:ArV)(M:Mv)(g i n:Nat)(w:dD)(h:Ey w A V M g)(hi:i+n<=M.size)(hn:0<n):Xe prog 233 #[.pointer (some ⟨M.mv,0,none⟩),.int .i64 i,.int .i64 n] w
 (λ_ w'=>Ey w' A {V.cT A n with bs:=H8 V.bs (M.t+i) (M.f+i) n} M g/\Xc (Zw A) w w'):=by
 have q:=h.ar.len;have ht:=h.t;have hf:=h.f;have l:=h.nfoot;have e1:((M.t:Int)+i)=((M.t+i:Nat):Int):=by omega
 have e2:((M.f:Int)+i)=((M.f+i:Nat):Int):=by omega
 refine aR func233 ntmps233 aA (bI aA (aQ 18 (Zw A) (by kernel_rfl) aA λa=>aE a h.obj aA (aE a h.obj aA (aC a aA (aE a h.obj aA (aC a aA ?_))))));rw[e1,e2];refine Xd.cK a rfl ?_;intro j e;have k:=h.bQ e;refine Xo.call rfl (Xdk A V (M.t+i) (M.f+i) n j k.ar (by omega) (by omega)).fn (Post:=λv d=>v=.int .i64 0/\X8 d A {V.cT A n with bs:=H8 V.bs (M.t+i) (M.f+i) n}/\Xc (Zw A) j d)
  (λp=>(Xdk A V (M.t+i) (M.f+i) n j k.ar (by omega) (by omega)).mono λv d m=>⟨p.trans m.2.2,m⟩) ?_
 rintro _ d _ ⟨rfl,o,f⟩;refine aF a aA λr b=>?_;have c:(H8 V.bs (M.t+i) (M.f+i) n).length=V.bs.length:=P8 (by omega) (by omega);exact bE func233 aA ⟨⟨o.bQ b,b.bP (f.heap k.obj l),h.pos,h.cE,by simp only[c];exact hf,by simp only[c];exact ht⟩,e.gr.trans (f.trans b.gr)⟩
theorem Xkt(M:Mv)(i n:Int)(w:dD)(hn:n<=0):Xe prog 233 #[.pointer (some ⟨M.mv,0,none⟩),.int .i64 i,.int .i64 n] w (λ_ w'=>w=w'):=by
 exact aR func233 ntmps233 aA (aS aA (bE func233 aA rfl))
def D7(n:Int)(left:Nat):Nat:=(min n left).toNat
def Pq(A:Ar)(V:ArV)(M:Mv)(g k:Nat):ArV:=if k=0 then V else {V.cT A k with bs:=H8 V.bs (M.t+g) (M.f+g) k}
theorem Xkr(A:Ar)(V:ArV)(M:Mv)(g:Nat)(n:Int)(w:dD)(h:Ey w A V M g):Xe prog 203 #[.pointer (some ⟨M.mv,0,none⟩),.int .i64 n] w
 (λv w'=>v=.int .i64 (D7 n (M.size-g))/\Ey w' A (Pq A V M g (D7 n (M.size-g))) M (g+D7 n (M.size-g))/\Xc (Rr A M) w w'):=by
 have z:=h.ar.len;have B:=h.cE;have ht:=h.t;obtain⟨k,j⟩:∃k,k=D7 n (M.size-g):=⟨_,rfl⟩;rw[<-j];unfold D7 at j;have x:k<=M.size-g:=by omega
 have m:(if (0:Int)>(if ((M.size-g:Nat):Int)<n then ((M.size-g:Nat):Int) else n) then 0 else (if ((M.size-g:Nat):Int)<n then ((M.size-g:Nat):Int) else n))=(k:Int):=by
  subst j;split <;> split <;> omega
 refine aR func203 ntmps203 aA (bG (Ui A V M g w h) aA λr c=>?_);rw[m];have l:=h.bQ c;by_cases f:k=0
 .refine aS aA ?_;subst f;exact bE func203 aA ⟨rfl,by unfold Pq;rw[bK rfl];exact l,c.gr⟩
 .refine bI aA (bB l.obj aA (aP aA (Xe6 A V M g g k r l (by omega) (by omega)) ?_));rintro _ C ⟨a,o⟩;refine aN aA (bB a.obj aA (aV aA ?_));rw[show((g:Int)+k)=((g+k:Nat):Int) from by omega];refine bF a.obj aA λs p i y=>?_;have q:=a.ar.bR i (λb d e=>by
   subst e;rcases d with e|e|e|e
   .exact H5 a.obj a.ar.obj (by decide) e
   .exact H5 a.obj a.ar.dat (by decide) e
   .exact H5 a.obj a.ar.cap (by decide) e
   .exact H5 a.obj (a.ar.met _ e).1 (by decide) rfl)
  have t:Xc (Rr A M) w s:=c.gr.trans ((o.mono λb _ d=>.inl d).trans (i.mono λb _ d=>.inr d));have u:Pq A V M g k={V.cT A k with bs:=H8 V.bs (M.t+g) (M.f+g) k}:=by unfold Pq;rw[bJ f]
  exact bE func203 aA ⟨rfl,by rw[u];exact⟨q,p,h.pos,by omega,a.f,a.t⟩,t⟩
def Q4(i n g:Nat):Nat:=min (i+n) g-i
def Nx(A:Ar)(V:ArV)(M:Mv)(g i n:Nat):ArV:=if Q4 i n g=0 then V else {V.cT A (Q4 i n g) with bs:=H8 V.bs (M.t+i) (M.f+i) (Q4 i n g)}
theorem Xks(A:Ar)(V:ArV)(M:Mv)(g i n:Nat)(w:dD)(h:Ey w A V M g)(hi:i+n<=M.size):Xe prog 169 #[.pointer (some ⟨M.mv,0,none⟩),.int .i64 i,.int .i64 n] w
 (λv w'=>v=.int .i64 0/\Ey w' A (Nx A V M g i n) M g/\Xc (Zw A) w w'):=by
 have j:=h.ar.len;have k:=h.cE;have ht:=h.t;refine aR func169 ntmps169 aA (aS aA (aS aA (bB h.obj aA (aS aA (bB h.obj aA (aV aA (aS aA (aV aA (bB h.obj aA (aJ aA (by split <;> omega) ?_))))))))));by_cases a:Q4 i n g=0
 .refine aP aA (Xkt M i _ w (by unfold Q4 at a;split <;> omega)) ?_;rintro _ d rfl;have b:Nx A V M g i n=V:=by unfold Nx;rw[bK a]
  exact aN aA (bE func169 aA ⟨rfl,by rw[b];exact h,Xc.refl _ _⟩)
 .have e:(if (g:Int)<(i:Int)+n then (g:Int) else (i:Int)+n)-i=((Q4 i n g:Nat):Int):=by unfold Q4 at a⊢;split <;> omega
  rw[e];refine aP aA (Xe6 A V M g i (Q4 i n g) w h (by unfold Q4;omega) (by omega)) ?_;rintro _ d ⟨f,c⟩;have b:Nx A V M g i n={V.cT A (Q4 i n g) with bs:=H8 V.bs (M.t+i) (M.f+i) (Q4 i n g)}:=by unfold Nx;rw[bJ a]
  exact aN aA (bE func169 aA ⟨rfl,by rw[b];exact f,c⟩)
def O0(N:Nat)(f t size:Int):Bool:=decide (1<=size) && (decide (0<=f) && decide (size<=N) && decide (f<=N-size)) && (decide (0<=t) && decide (size<=N) && decide (t<=N-size)) && (decide (f+size<=t)||decide (t+size<=f))
theorem Uj{f t:Int}:O0 N f t size=true↔1<=size/\(0<=f/\size<=N/\f<=N-size)/\(0<=t/\t<=N-size)/\(f+size<=t\/t+size<=f):=by
 unfold O0;simp only[XJ,Bool.or_eq_true,decide_eq_true_eq];constructor
 .rintro⟨⟨⟨b,⟨c,a⟩,d⟩,⟨e,_⟩,g⟩,h⟩;exact⟨b,⟨c,a,d⟩,⟨e,g⟩,h⟩
 .rintro⟨b,⟨c,a,d⟩,⟨e,g⟩,h⟩;exact⟨⟨⟨b,⟨c,a⟩,d⟩,⟨e,a⟩,g⟩,h⟩
def Gu(N:Nat)(size at':Int):Bool:=decide (0<=at') && decide (size<=N) && decide (at'<=N-size)
theorem Xe5(A:Ar)(V:ArV)(x size:Int)(sb pb:Nat)(w:dD)(hA:X8 w A V)(hs:w.heap[sb]?=some (.cells #[.int .i64 size] 3 (0,0)))(hp:w.heap[pb]?=some (.cells #[.pointer (some ⟨A.ab,0,none⟩)] 153 (0,0)))(hsz:1<=size):Xe prog 253 #[.int .i64 x,.pointer (some ⟨sb,0,none⟩),.pointer (some ⟨pb,0,none⟩)] w (Grow (.bool (Gu V.bs.length size x)) w):=by
 have f:=hA.len;refine aR func253 ntmps253 aA (Xa.quiet rfl Xn (by kernel_rfl) (Xk.adv Xb rfl ?_));refine Xk.fork Xb rfl rfl rfl (λc=>?_) (λc=>?_)
 .refine Xk.cJ Xb rfl hs rfl rfl (Xk.cJ Xb rfl hp rfl rfl (Xk.call Xb rfl (λw' b=>(Xae A V w' (hA.bQ b)).bQ) rfl ?_));refine Xk.fork Xb rfl rfl rfl (λd=>?_) (λd=>?_)
  .have g:=bL d;exact Xk.cJ Xb rfl hp rfl rfl (Xk.call Xb rfl (λw' b=>(Xae A V w' (hA.bQ b)).bQ) rfl (Xk.cJ Xb rfl hs rfl rfl (Xk.arith Xb rfl (w64 (by omega)) rfl (Xk.nil λe a=>aN aA (bE func253 aA ⟨Qz (by unfold Gu;rw[show decide (0<=x)=true from c,show decide (size<=(V.bs.length:Int))=true from d];rfl),a⟩)))))
  .exact Xk.nil λe a=>aN aA (bE func253 aA ⟨Qz (by unfold Gu;rw[show decide (0<=x)=true from c,show decide (size<=(V.bs.length:Int))=false from d];rfl),a⟩)
 .exact Xk.nil λe a=>aN aA (bE func253 aA ⟨Qz (by unfold Gu;rw[show decide (0<=x)=false from c];rfl),a⟩)
theorem T4{x:Int}:Gu N size x=true↔0<=x/\size<=N/\x<=N-size:=by unfold Gu;simp[and_assoc]
theorem Xkq(A:Ar)(V:ArV)(f t size:Nat)(w:dD)(hA:X8 w A V)(hm:O0 V.bs.length f t size=true):Xe prog 202 #[.pointer (some ⟨A.ab,0,none⟩),.int .i64 f,.int .i64 t,.int .i64 size] w
 (λv w'=>∃M:Mv,v=.tuple #[.pointer (some ⟨M.mv,0,none⟩),.int .i64 0]/\M.f=f/\M.t=t/\M.size=size/\w.heap.size<=M.mv/\Ey w' A V M 0/\Xc Xf w w'):=by
 have y:=hA.len;have g:=Uj.1 hm;have k:Gu V.bs.length size f=true:=T4.2 (by omega);have l:Gu V.bs.length size t=true:=T4.2 (by omega);refine aR func202 ntmps202 aA (bC aA λpb z e1 m h s=>bC aA λsb q e2 c d u=>?_);have j:=(hA.bQ h).bQ d;have b:=d.bP m;refine bB b aA (bB c aA (aS aA (bG (Xe5 A V f size sb pb q j c b (by omega)) aA λr a=>aI aA (by rw[k];rfl) (bG (Xe5 A V t size sb pb r (j.bQ a) (a.bP c) (a.bP b) (by omega)) aA λB e=>aI aA (by rw[l];rfl) (aJ aA (by split <;> split <;> omega) ?_)))));have i:=e.bP (a.bP c);refine bB i aA (aI aA (bO (by split <;> split <;> omega)) (bB (e.bP (a.bP b)) aA (bB i aA (aO aA (bC aA λmv C e5 n o x=>?_)))));have p:=(((h.trans d).trans a).trans e).trans o;exact bE func202 aA ⟨⟨mv,f,t,size⟩,rfl,rfl,rfl,rfl,by have:=((h.trans d).trans a).trans e;have:=this.size;simp only;omega,⟨hA.bQ p,n,by simp only;omega,XP _,by simp only;omega,by simp only;omega⟩,p⟩
theorem Xkl(b cb:Nat)(total dA:Int)(w:dD)(h:Be w b total dA)(hc:w.heap[cb]?=some (.cells #[.pointer (some ⟨b,0,none⟩)] 152 (0,0))):Hh prog 194 #[.pointer (some ⟨cb,0,none⟩)] w (λ_ w'=>Be w' b total total/\Xc (λx=>x=b) w w'):=by
 obtain⟨d,j,k,g⟩:=h;exact Hh.enter func194 rfl ntmps194 rfl rfl (aN aA (aQ 5 Xf (by kernel_rfl) aA λa=>aD a (Cp (off:=0) hc rfl) aA (aD a (Cp (off:=0) hc rfl) aA (aE a d aA (aF a aA λl c=>bF (c.bP d) aA λm e f i=>bE func194 aA ⟨⟨e,by omega,by omega,g⟩,c.gr.trans f⟩)))))
theorem Xkk(b:Nat)(total dA:Int)(w:dD)(h:Be w b total dA):Xe prog 125 #[.pointer (some ⟨b,0,none⟩)] w (λv w'=>v=.int .i64 (total-dA)/\Be w' b total total/\Xc (λx=>x=b) w w'):=by
 have k:=h;obtain⟨i,r,s,t⟩:=h;refine aR func125 ntmps125 aA (bC aA λcb u e1 a d q=>bB a aA (Xa.defer rfl rfl (aN aA (Xa.quiet rfl Xn (by kernel_rfl) (Xk.adv Xb rfl (Xk.cJ Xb rfl a rfl rfl (Xk.cJ Xb rfl (d.bP i) rfl rfl (Xk.cJ Xb rfl a rfl rfl (Xk.cJ Xb rfl (d.bP i) rfl rfl (Xk.arith Xb rfl (w64 (by omega)) rfl (Xk.nil λl e=>aN aA ?_)))))))))));have g:=Xkl b cb total dA l ((k.bR d).bR e) (e.bP a);refine Xa.ret1D Xb rfl func125 rfl rfl rfl (Ou (args:=[]) (captured:=[.pointer (some ⟨cb,0,none⟩)]) g.fn) ⟨g.fn,?_⟩;intro c cs m;obtain⟨en,u',w',fr,⟨n,v,o,p,j⟩,f⟩:=g.calls c cs m;exact⟨en,u',w',fr,⟨n,v,o,rfl,p,((d.trans e).gr).trans j⟩,f⟩
theorem XbF(r:RA)(i n:Int)(w:dD)(hl:r.bs.length<=4194304):Xe prog 303 #[.agg (G7 r).toArray,.int .i64 i,.int .i64 n] w (Grow (.bool (Np r.bs.length i n)) w):=by
 refine aR func303 ntmps303 aA (bC aA λb l e1 h a k=>aT aA (λc=>?_) λc=>?_)
 .have d:=bL c;refine aT aA (λe=>?_) λe=>?_
  .have f:=bL e;refine bB h aA (aT aA (λg=>?_) λg=>?_)
   .have j:=bL g;exact bB h aA (aV aA (bE func303 aA ⟨Qz (by unfold Np;rw[bN d,bN f,bN j];rfl),a⟩))
   .exact bE func303 aA ⟨Qz (by unfold Np;rw[bO (bM g)];simp),a⟩
  .have f:=bM e;exact bE func303 aA ⟨Qz (by unfold Np;rw[bO f];simp),a⟩
 .have d:=bM c;exact bE func303 aA ⟨Qz (by unfold Np;rw[bO d];rfl),a⟩
theorem Rd.keepU{q:Nat}{c:Array dE}(hr:Rd .u8 w a l)(hq:w.heap[q]?=some (.cells c t fz))(hc:∀x∈c.toList,∀z,x≠.int .u8 z)(hs:Xc (λb=>b=q) w w'):Rd .u8 w' a l:=λj f=>by
 obtain⟨b,off,e,d⟩:=hr j f;refine⟨b,off,e,hs.cell d (λg=>?_)⟩;subst g;rw[Ys hq] at d;exact hc _ (Array.mem_toList_iff.2 (Array.mem_of_getElem? d)) _ rfl
theorem XmQ{x:Int}(hi:i<l.length):Z2 (l.map (Value.int .u8)++rest) i [.int .u8 x]=some ((l.set i x).map (Value.int .u8)++rest):=by
 rw[Vh _ _ _ (by simp;omega),YJ _ _ (by simpa using hi),ZY]
def N1(w:dD)(r:RA):Prop:=∃g,r.a=some ⟨g,0,none⟩/\w.heap.size<=g
theorem N1.dC{r:RA}(h:N1 w' r)(hs:w.heap.size<=w'.heap.size):N1 w r:=by obtain⟨g,a,b⟩:=h;exact⟨g,a,ZZ hs b⟩
theorem Xly(r:RA)(i:Nat)(a:Option Addr)(cap:Nat)(l:List Int)(w:dD)(h:Yh w r)(h0:0<r.bs.length)(hr:Rd .u8 w a l)(hb:Qh l)(hi:i+l.length<=r.bs.length):Xe prog 319 #[.agg (G7 r).toArray,.int .i64 i,.slice a l.length cap] w (λv w'=>∃r':RA,v=.agg (G7 r').toArray/\r'.bs=Q3 r.bs i l/\r'.cM=r.cM/\Yh w' r'/\Xc Xf w w'/\N1 w r'):=by
 have j:=h.len;have ac:maxLen=9223372036854775807:=rfl;obtain⟨ra,rc,bs,st⟩:=r;simp only at h0 hi j
 obtain⟨b1,a5,ea,_⟩:=h.rd.at h0;simp only at ea
 subst ea;refine aR func319 ntmps319 aA (bC aA λrb w1 e1 y m ad=>bC aA λqb D e2 L b ae=>Xa.buildSlice Xb rfl λb3 w3 e3 M d af=>aN aA ?_);have N:=(m.trans b).trans d;refine bB (d.bP (b.bP y)) aA ?_;have O:Xl D.heap.size 5 1 w3 (.slice (some ⟨b3,0,none⟩) 0 0) 0 []:=Xl.empty (by omega) M;refine Xa.append (base:=D.heap.size) (xs:=[]) (news:=bs.map (Value.int .u8)) Xb rfl O d.size (by simp) (h.rd.bR N).cells J1 (by simp only;omega) λv4 w4 P Q ag=>aN aA ?_;have R:=O.bU d (XF _) Q;obtain⟨g,n,cur,rfl,ah,S,z,ai,T⟩:=P.form (by simp only;omega);have o:cur.toList=bs.map (Value.int .u8)++cur.toList.drop bs.length:=by
  have e:=XZ bs.length cur.toList;rw[show cur.toList.take bs.length=bs.map (Value.int .u8) from by simpa using T] at e;exact e.symm
 obtain⟨rest,t⟩:∃rest,rest=cur.toList.drop bs.length:=⟨_,rfl⟩;rw[<-t] at o;have E:w4.heap[g]?=some (.cells (bs.map (Value.int .u8)++rest).toArray 5 (0,0)):=by rw[<-o];exact S
 have U:0+bs.length=bs.length:=by omega
 rw[U] at z⊢;refine Xa.loop (α:=Nat) (λk=>[(1,false,.int .i64 i),(2,false,.slice a l.length cap),(3,false,.pointer (some ⟨rb,0,none⟩)),(6,false,.pointer (some ⟨qb,0,none⟩)),(7,false,.slice (some ⟨g,0,none⟩) bs.length n),(8,false,.int .i64 k)])
  (λk w'=>w'.heap[g]?=some (.cells ((Ep bs i l k).map (Value.int .u8)++rest).toArray 5 (0,0))/\Xc Xf D w'/\k<=l.length) (λk=>l.length-k) 0 ⟨rfl,rfl,rfl,rfl,rfl,rfl,trivial⟩ ⟨by rw[Xbq];exact E,R,by omega⟩ ?_
 rintro k w5 ⟨F,f,hk⟩ ih;have p:Xc Xf w w5:=(m.trans b).trans f;refine aN aA (aT aA (λG=>?_) λG=>?_)
 .have A:k<l.length:=by have:=bL G;omega
  obtain⟨b6,aa,rfl,V⟩:=(hr.bR p) k A;refine aV aA (aU k aA (aW aA V aA (aU (i+k) aA ?_)));have W:=Rz (k:=k) (l:=l) (i:=i) (bs:=bs) hi;refine aL aA F (XmQ (by rw[W];omega)) aA λw6 h6 c a1=>?_;rw[XT,Xbp hi A] at h6;exact aV aA (ih (k+1) _ _ ⟨h6,f.sn c,by omega⟩ (by omega) ⟨rfl,rfl,rfl,rfl,rfl,rfl,trivial⟩)
 .have a2:k=l.length:=by have:=bM G;omega
  subst a2;rw[Xfv] at F;have H:=f.bP (b.bP y);refine bF H aA λw6 I c a1=>bB I aA (bF (c.heap (f.bP L) (by omega)) aA λJ q C aj=>?_);have K:J.heap[g]?=some (.cells ((Q3 bs i l).map (Value.int .u8)++rest).toArray 5 (0,0)):=C.heap (c.heap F (by omega)) (by omega);have s:=Jl hi;have a3:Xc Xf w J:=(p.sn c).sn C;have a4:Rd .u8 J (some ⟨g,0,none⟩) (Q3 bs i l):=Rd.of_take K (by simp);rw[<-s] at q;exact aK func319 q aA ⟨⟨some ⟨g,0,none⟩,n,Q3 bs i l,st⟩,rfl,rfl,rfl,⟨a4,by simp only[s];exact j,by simp only[s];exact z,λx u=>(Nw u).elim (h.rng x) (hb x)⟩,a3,g,rfl,by have:=m.size;have:=b.size;omega⟩
def Xdc(w:dD)(bs:List Int)(st e:Int):dE->dD->Prop:=λv w'=>∃r':RA,v=.tuple #[.agg (G7 r').toArray,.int .i64 e]/\r'.bs=bs/\r'.cM=st/\Yh w' r'/\Xc Xf w w'/\N1 w r'
def N3(st:Int):Prop:=0<=st/\st<=1000000000000
theorem Xlx(r:RA)(i:Nat)(a:Option Addr)(cap:Nat)(l:List Int)(w:dD)(h:Yh w r)(hst:N3 r.cM)(h0:0<r.bs.length)(hr:Rd .u8 w a l)(hb:Qh l)(hi:i+l.length<=r.bs.length):Xe prog 304 #[.agg (G7 r).toArray,.int .i64 i,.slice a l.length cap] w (Xdc w (Q3 r.bs i l) (r.cM+l.length) 0):=by
 have p:=h.len;unfold N3 at hst;refine aR func304 ntmps304 aA (bC aA λrb L e1 k t H=>bC aA λqb D e2 u d I=>bB (d.bP k) aA (bG (XbF r i l.length D p) aA λM e=>aI aA (by rw[XcA.2 (by omega)];rfl) ?_));have f:=e.bP (d.bP k);refine bB f aA (aV aA (bF f aA λE q m J=>?_));have b:=((t.trans d).trans e).sn m;have j:=h.bQ b;refine bB q aA (aP aA (Xly {r with cM:=r.cM+l.length} i a cap l E ⟨j.rd,j.len,j.lc,j.rng⟩ h0 (hr.bR b) hb hi) ?_);rintro _ N ⟨y,rfl,z,A,c,n,B⟩;have g:=n.bP (m.heap (e.bP u) (by omega));refine aN aA (bF g aA λG s o K=>?_);have C:Yh G y:=by
  exact⟨c.rd.keepU g (by simp[Yz]) o,c.len,c.lc,c.rng⟩
 exact aK func304 s aA ⟨y,rfl,z,A,C,((b.trans n).sn o),B.dC b.size⟩
theorem Xlv(r:RA)(t f n:Nat)(w:dD)(h:Yh w r)(hst:N3 r.cM)(h0:0<r.bs.length)(hf:f+n<=r.bs.length)(ht:t+n<=r.bs.length):Xe prog 272 #[.agg (G7 r).toArray,.int .i64 t,.int .i64 f,.int .i64 n] w (Xdc w (Q3 r.bs t (sub r.bs f n)) (r.cM+n) 0):=by
 have j:=h.len;have D:=h.lc;refine aR func272 ntmps272 aA (bC aA λrb w1 e1 k E T=>bC aA λqb F e2 G d U=>bB (d.bP k) aA (bG (XbF r f n F j) aA λP e=>aI aA (by rw[XcA.2 (by omega)];rfl) (bB (e.bP (d.bP k)) aA (bG (XbF r t n P j) aA λw4 m=>aI aA (by rw[XcA.2 (by omega)];rfl) ?_))));have o:=m.bP (e.bP (d.bP k));have B:=m.bP (e.bP G);refine aQ 14 (λb=>b=qb) (by kernel_rfl) aA λa=>aE a o aA (aE a o aA (aC a aA (Xd.slice Xb a rfl (l:=f) (h:=(f+n)) (by first|rfl|omega|simp[Dr]) (by first|rfl|omega|simp[Dn]) (by omega) (by omega) rfl ?_)));rw[show f+n-f=n from by omega];refine Xd.cK a rfl ?_;intro Q u;have g:=(((E.trans d).trans e).trans m).trans u;have y:=Hc hf;have c:=Xlx r t (Q9 r.a r.cap f 1) (r.cap-f) (sub r.bs f n) Q (h.bQ g) hst h0 ((h.rd.bR g).shift hf D) (λx H=>h.rng x (ZU (XY H))) (by rw[y];exact ht);rw[y] at c;refine Xo.call rfl c.fn (λI=>c.mono λv F J=>⟨by obtain⟨_,_,_,_,_,R,_⟩:=J;exact I.up R,J⟩) ?_;rintro _ w6 _ ⟨S,rfl,K,L,i,z,M⟩;refine Xd.adv Xb a rfl (Xd.cK a rfl λw7 p=>?_);have q:=p.bP (z.bP (u.bP B));refine Xo.store Xb a rfl q (by first|(intro h;exact rfl)|(intro h;omega)) rfl rfl rfl λw8 C A V=>aF a aA λw9 s=>?_;have N:=((g.trans z).trans p).sn A;have O:=Yh.bQ ⟨((i.bQ p).rd).keepU q (by simp[Yz]) A,i.len,i.lc,i.rng⟩ s;exact aK func272 (s.bP C) aA ⟨S,rfl,K,L,O,N.trans s,M.dC g.size⟩
theorem Yh.bV{r:RA}{q:Nat}{c:Array dE}(h:Yh w r)(hq:w.heap[q]?=some (.cells c t fz))(hc:∀x∈c.toList,∀z,x≠.int .u8 z)(hs:Xc (λb=>b=q) w w'):Yh w' r:=
 ⟨h.rd.keepU hq hc hs,h.len,h.lc,h.rng⟩
structure RM where
 ra:RA
 f:Nat
 t:Nat
 size:Nat
 cE:Nat
def I7(m:RM):List dE:=[.slice m.ra.a m.ra.bs.length m.ra.cap,.int .i64 m.ra.cM,.int .i64 m.f,.int .i64 m.t,.int .i64 m.size,.int .i64 m.cE]
structure La(w:dD)(m:RM):Prop where
 ra:Yh w m.ra
 pos:1<=m.size
 cE:m.cE<=m.size
 f:m.f+m.size<=m.ra.bs.length
 t:m.t+m.size<=m.ra.bs.length
theorem La.bQ{w w':dD}{m:RM}(h:La w m)(hc:Xc Xf w w'):La w' m:=⟨h.ra.bQ hc,h.pos,h.cE,h.f,h.t⟩
def Ww(m:RM)(w:dD)(bs:List Int)(st:Int)(g:Nat)(m':RM)(w':dD):Prop:=
 m'.ra.bs=bs/\m'.ra.cM=st/\m'.f=m.f/\m'.t=m.t/\m'.size=m.size/\m'.cE=g/\Yh w' m'.ra/\Xc Xf w w'/\(N1 w m'.ra\/m'.ra.a=m.ra.a)
theorem XfT(r:RA)(i n:Int)(w:dD)(hl:r.bs.length<=4194304)(hn:1<=n):Xe prog 223 #[.agg (G7 r).toArray,.int .i64 i,.int .i64 n] w (Grow (.bool (Gu r.bs.length n i)) w):=by
 refine aR func223 ntmps223 aA (bC aA λb j e1 f a h=>aT aA (λc=>?_) λc=>?_)
 .have d:=bL c;refine bB f aA (aT aA (λe=>?_) λe=>?_)
  .have g:=bL e;exact bB f aA (aV aA (bE func223 aA ⟨Qz (by unfold Gu;rw[bN d,bN g];rfl),a⟩))
  .exact bE func223 aA ⟨Qz (by unfold Gu;rw[bO (bM e)];simp),a⟩
 .have d:=bM c;exact bE func223 aA ⟨Qz (by unfold Gu;rw[bO d];rfl),a⟩
theorem XfU(m:RM)(i n:Nat)(w:dD)(h:La w m)(hst:N3 m.ra.cM)(hi:i+n<=m.size)(hn:0<n):Xe prog 224 #[.agg (I7 m).toArray,.int .i64 i,.int .i64 n] w
 (λv w'=>∃m',v=.agg (I7 m').toArray/\Ww m w (H8 m.ra.bs (m.t+i) (m.f+i) n) (m.ra.cM+n) m.cE m' w'):=by
 have P:=h.ra.len;have hf:=h.f;have ht:=h.t;have e1:((m.t:Int)+i)=((m.t+i:Nat):Int):=by omega
 have e2:((m.f:Int)+i)=((m.f+i:Nat):Int):=by omega
 refine aR func224 ntmps224 aA (bC aA λmb Q G r d H=>bC aA λqb E I s b J=>aS aA ?_);have a:=b.bP r;refine bB a aA (bB a aA (aV aA (bB a aA (aV aA ?_))));rw[e1,e2];refine aP aA (Xlv m.ra (m.t+i) (m.f+i) n E ((h.ra.bQ d).bQ b) hst (by have:=h.pos;omega) (by omega) (by omega)) ?_;rintro _ R ⟨F,rfl,t,u,y,e,z⟩;refine aN aA (bC aA λnb S K A B L=>bF A aA λT o C M=>?_);have c:=B.sn C;have f:=c.bP (e.bP a);refine bB o aA (bF f aA λU p g N=>bB p aA ?_);have j:=g.heap (c.bP (e.bP s)) (show ¬_ by omega);refine bF j aA λV q l O=>?_;exact aK func224 q aA ⟨{m with ra:=F},rfl,t,u,rfl,rfl,rfl,rfl,(((y.bQ c).bV f (by simp[Yz,I7]) g).bV j (by simp[Yz]) l),(((((d.trans b).trans e).trans c).sn g).sn l),.inl (z.dC (d.trans b).size)⟩
theorem Xl1(m:RM)(i n:Int)(w:dD)(hn:n<1):Xe prog 224 #[.agg (I7 m).toArray,.int .i64 i,.int .i64 n] w (Grow (.agg (I7 m).toArray) w):=by
 exact aR func224 ntmps224 aA (bC aA λmb p g c d h=>bC aA λqb q j e a k=>bI aA (bB (a.bP c) aA (bF e aA λr b f l=>aK func224 b aA ⟨rfl,(d.trans a).sn f⟩)))
def Ji(bs:List Int)(f t g k:Nat):List Int:=if k=0 then bs else H8 bs (t+g) (f+g) k
theorem XlZ(m:RM)(n:Int)(w:dD)(h:La w m)(hst:N3 m.ra.cM):Xe prog 153 #[.agg (I7 m).toArray,.int .i64 n] w
 (λv w'=>∃m',v=.tuple #[.agg (I7 m').toArray,.int .i64 (D7 n (m.size-m.cE))]/\Ww m w (Ji m.ra.bs m.f m.t m.cE (D7 n (m.size-m.cE))) (m.ra.cM+D7 n (m.size-m.cE)) (m.cE+D7 n (m.size-m.cE)) m' w'):=by
 have hl:=h.ra.len;have hg:=h.cE;have ht:=h.t;obtain⟨k,A⟩:∃k,k=D7 n (m.size-m.cE):=⟨_,rfl⟩;rw[<-A];unfold D7 at A;refine aR func153 ntmps153 aA (bC aA λmb w1 O B c P=>bC aA λqb L Q g b R=>?_);have a:=b.bP B;refine bB a aA (bB a aA (aV aA ?_));have C:(if ((m.size:Int)-m.cE)<n then ((m.size:Int)-m.cE) else n)<1/\k=0\/(if ((m.size:Int)-m.cE)<n then ((m.size:Int)-m.cE) else n)=(k:Int)/\1<=k:=by
  split <;> omega
 rcases C with⟨p,q⟩|⟨p,q⟩
 .subst q;refine bI aA (bB a aA (bF g aA λM t e r=>?_));exact aK func153 t aA ⟨m,rfl,by unfold Ji;rw[bK rfl],by simp,rfl,rfl,rfl,by simp,((h.ra.bQ (c.trans b)).bV g (by simp[Yz]) e),((c.trans b).sn e),.inr rfl⟩
 .rw[p];refine aS aA ?_;refine bB a aA (bB a aA (aP aA (XfU m m.cE k L ((h.bQ c).bQ b) hst (by omega) (by omega)) ?_));rintro _ M ⟨N,rfl,D,e,E,F,r,S,G,d,H⟩;refine aN aA (bC aA λnb w4 T I J U=>bF I aA λw5 j K V=>?_);have f:=J.sn K;refine bB (f.bP (d.bP a)) aA (aV aA ?_);rw[show((m.cE:Int)+k)=((m.cE+k:Nat):Int) from by omega];refine bF j aA λw6 y l W=>bB y aA ?_;have o:=l.heap (f.bP (d.bP g)) (show ¬_ by have:=d.size;omega);refine bF o aA λw7 z s a0=>?_;exact aK func153 z aA ⟨{N with cE:=m.cE+k},rfl,by unfold Ji;rw[bJ (by omega)];exact D,e,E,F,r,rfl,(((G.bQ f).bV j (by simp[Yz,I7]) l).bV o (by simp[Yz]) s),(((((c.trans b).trans d).trans f).bU l (λx u i=>by have:=d.size;omega)).sn s),H.imp (λh=>h.dC (c.trans b).size) id⟩
def Ex(bs:List Int)(f t g i n:Nat):List Int:=if Q4 i n g=0 then bs else H8 bs (t+i) (f+i) (Q4 i n g)
theorem Xl0(m:RM)(i n:Nat)(w:dD)(h:La w m)(hst:N3 m.ra.cM)(hi:i+n<=m.size):Xe prog 261 #[.agg (I7 m).toArray,.int .i64 i,.int .i64 n] w
 (λv w'=>∃m',v=.tuple #[.agg (I7 m').toArray,.int .i64 0]/\Ww m w (Ex m.ra.bs m.f m.t m.cE i n) (m.ra.cM+Q4 i n m.cE) m.cE m' w'):=by
 have L:=h.ra.len;have M:=h.cE;have ht:=h.t;refine aR func261 ntmps261 aA (bC aA λmb N H o f I=>bC aA λqb p J l b K=>?_);have d:=b.bP o;refine aS aA (aS aA (bB d aA (aS aA (bB d aA (aV aA (aS aA (bB d aA (aV aA (bB d aA (aJ aA (by split <;> omega) ?_))))))))));by_cases k:Q4 i n m.cE=0
 .refine bG (Xl1 m i _ p (by unfold Q4 at k;split <;> omega)) aA λD c=>?_;have a:=c.bP l;refine bF a aA λE j g q=>?_;exact aK func261 j aA ⟨m,rfl,by unfold Ex;rw[bK k],by rw[k];simp,rfl,rfl,rfl,rfl,((((h.ra.bQ f).bQ b).bQ c).bV a (by simp[Yz]) g),(((f.trans b).trans c).sn g),.inr rfl⟩
 .have e:(if (m.cE:Int)<(i:Int)+n then (m.cE:Int) else (i:Int)+n)-i=((Q4 i n m.cE:Nat):Int):=by unfold Q4 at k⊢;split <;> omega
  rw[e];refine aP aA (XfU m i (Q4 i n m.cE) p ((h.bQ f).bQ b) hst (by unfold Q4;omega) (by omega)) ?_;rintro _ D ⟨G,rfl,s,t,u,y,z,A,B,c,C⟩;have a:=c.bP l;refine aN aA (bF a aA λE j g q=>?_);exact aK func261 j aA ⟨G,rfl,by unfold Ex;rw[bJ k];exact s,t,u,y,z,A,(B.bV a (by simp[Yz]) g),(((f.trans b).trans c).sn g),C.imp (λh=>h.dC (f.trans b).size) id⟩
theorem XlY(r:RA)(f t size:Nat)(w:dD)(h:Yh w r)(hm:O0 r.bs.length f t size=true):Xe prog 151 #[.agg (G7 r).toArray,.int .i64 f,.int .i64 t,.int .i64 size] w
 (Grow (.tuple #[.agg (I7 ⟨r,f,t,size,0⟩).toArray,.int .i64 0]) w):=by
 have n:=h.len;have g:=Uj.1 hm;have o:Gu r.bs.length size f=true:=T4.2 (by omega);have p:Gu r.bs.length size t=true:=T4.2 (by omega);refine aR func151 ntmps151 aA (bC aA λrb F e1 q m D=>bC aA λqb z e2 s d E=>?_);have e:=d.bP q;refine aS aA (bB e aA (bG (XfT r f size z n (by omega)) aA λA b=>aI aA (by rw[o];rfl) ?_));have i:=b.bP e;refine bB i aA (bG (XfT r t size A n (by omega)) aA λG c=>aI aA (by rw[p];rfl) (aV aA ?_));have j:=c.bP i;have k:=c.bP (b.bP s);refine aT aA (λu=>?_) λu=>?_
 .have H:=bL u;refine aV aA (aS aA (bB j aA (aO aA (bF k aA λB a l v=>?_))));exact aK func151 a aA ⟨rfl,((((m.trans d).trans b).trans c).sn l)⟩
 .refine bB j aA (aO aA (bF k aA λB a l v=>?_));exact aK func151 a aA ⟨rfl,((((m.trans d).trans b).trans c).sn l)⟩
theorem Xce{f size:Nat}(hk:g+k<=size)(hf:f+size<=bs.length)(ht:t+size<=bs.length):(Ji bs f t g k).length=bs.length:=by
 unfold Ji;split
 .rfl
 .exact P8 (by omega) (by omega)
structure ThM where
 size:Int
 q:PlcM
structure MvM where
 who:Int
 pf:Int
 fa:Int
 pt:Int
 ta:Int
 f:Nat
 t:Nat
 size:Nat
 cE:Nat
structure StM where
 bV:List Int
 bs:List Int
 rm:RmM
 th:List (Option ThM)
 mv:List (Option MvM)
def PlcM.cQ(q:PlcM):Plc:=⟨q.cL,q.cR,q.idx,none,0,q.bS⟩
theorem Xhz(c:Conf)(q:Plc):Yk c q=Yk c (Xy q).cQ:=by cases q;rfl
theorem Xhy(c:Conf)(q:Plc):Z3 c q=Z3 c (Xy q).cQ:=by cases q;rfl
theorem Xaz(c:Conf)(q:Plc)(i n:Int):Qq c q i n=Qq c (Xy q).cQ i n:=by cases q;rfl
theorem Xoo(c:Conf)(q:Plc)(i:Nat):B2 c q i=B2 c (Xy q).cQ i:=by cases q;rfl
theorem XcC(c:Conf)(q:Plc)(bs:List Int)(i n:Nat):Yg c q bs i n=Yg c (Xy q).cQ bs i n:=by cases q;rfl
theorem Mr(c:Conf)(q:Plc)(bs:List Int)(i:Nat)(l:List Int):∀k,Q8 c q bs i l k=Q8 c (Xy q).cQ bs i l k
 |0=>rfl
 |k+1=>by unfold Q8;rw[Mr c q bs i l k,Xoo]
theorem Jt(c:Conf)(q:Plc)(i n:Nat):Zi c q i n=Zi c (Xy q).cQ i n:=by cases q;rfl
def Xx(s:StM)(k:Int):Option MvM:=if 0<=k then s.mv.getD k.toNat none else none
def A9(s:StM)(o:Int):Option ThM:=if 0<=o then s.th.getD o.toNat none else none
def Hl(cG bV:Int):Bool:=decide (bV<cG) && decide (bV+1<cG)
def Hk(c:Conf)(k cR idx:Int):Int:=Ak c ⟨k,cR,idx,none,0,[]⟩
def Qk(s:StM)(n:Int):StM:={s with rm:={s.rm with tot:=Xw s.rm.tot n}}
def Kt(c:Conf)(M:RmM)(k:Nat):MvM:=⟨Zd M k (Ym M k).1 (Ym M k).2.1,(Ym M k).1,(Ym M k).2.1,(Ym M k).2.2.1,(Ym M k).2.2.2,(Hk c k (Ym M k).1 (Ym M k).2.1).toNat,(Hk c k (Ym M k).2.2.1 (Ym M k).2.2.2).toNat,(Z6 c k).toNat,0⟩
def Bp(s:StM)(k:Nat):Bool:=(Xx s k).isNone && Hl (Qn s.rm k:Nat) (s.bV.getD k 0) && Je s.rm k
def Yv(c:Conf)(s:StM)(k:Nat):StM:=if Bp s k=true then {s with rm:=Qi s.rm k (Zd s.rm k (Ym s.rm k).1 (Ym s.rm k).2.1),mv:=s.mv.set k (some (Kt c s.rm k))} else s
def Zt(m:MvM)(n:Int):Nat:=D7 n (m.size-m.cE)
def Ab(s:StM)(o:Int):Int:=match A9 s o with|some t=>t.size|none=>0
def Ad(s:StM)(m:MvM)(n:Int):StM:=Qk {s with bs:=Ji s.bs m.f m.t m.cE (Zt m n)} (Zt m n)
def Yo(s:StM)(k:Nat)(n:Int):StM:=match Xx s k with
 |none=>s
 |some m=>if m.cE+Zt m n<m.size then {Ad s m n with mv:=s.mv.set k (some {m with cE:=m.cE+Zt m n})}
  else {Ad s m n with mv:=s.mv.set k none,th:=s.th.set m.who.toNat (some ⟨Ab s m.who,⟨k,m.pt,m.ta,[]⟩⟩),rm:=Q1 (Ad s m n).rm k m.pf m.fa}
def Zg(s:StM)(k:Int):StM:=match Xx s k with|none=>s|some m=>Yo s k.toNat m.size
def Fq(c:Conf)(s:StM)(size:Int):Option MvM:=match Xx s (Xm c.bT size) with
 |some m=>if Qn s.rm (Xm c.bT size)=0 then some m else none
 |none=>none
def Yl(c:Conf)(s:StM)(who size:Int):PlcM:=match Fq c s size with
 |some m=>⟨Xm c.bT size,m.pt,m.ta,[]⟩
 |none=>Bx c s.rm who size
def Yd(c:Conf)(s:StM)(who size:Int):StM:=match Fq c s size with
 |some m=>Qk {s with mv:=s.mv.set (Xm c.bT size).toNat none,rm:=Qu s.rm (Xm c.bT size) m.pt m.ta who} 3
 |none=>{s with rm:=Au c s.rm who size}
def Yp(c:Conf)(s:StM)(q:PlcM)(at':Nat)(l:List Int):StM:=Qk {s with bs:=Q8 c q.cQ s.bs at' l l.length} (Zi c q.cQ at' l.length)
def Q2(c:Conf)(s:StM)(who size:Int):StM:=
 {Yp c (Yd c s who size) (Yl c s who size) 0 (X6 (Z3 c (Yl c s who size).cQ).toNat) with th:=s.th.set who.toNat (some ⟨size,Yl c s who size⟩)}
def B9(c:Conf)(s:StM)(q:PlcM):StM:=
 if q.cL<0 then {s with rm:=Qc s.rm q} else
  Yo (Yv c {s with rm:=Qc s.rm q} q.cL.toNat) q.cL.toNat c.step
def Z5(s:StM)(o:Int):Int:=if o<0\/(s.th.length:Int)<=o then 1 else match A9 s o with|none=>9|some _=>0
def Yt(c:Conf)(s:StM)(size:Int):Int:=if size<1\/c.cH<size then 3 else if (Xx s (Xm c.bT size)).isSome then 0 else Qf c s.rm size
def Ck(c:Conf)(s:StM)(o size:Int):Int:=if Z5 s o=1 then 1 else if Z5 s o=0 then 10 else Yt c s size
def Aa(c:Conf)(s:StM)(o size:Int):StM:=if Ck c s o size=0 then Q2 c s o size else s
def Y7(s:StM)(o:Int):PlcM:=match A9 s o with|some t=>t.q|none=>⟨0,0,0,[]⟩
def Bl(c:Conf)(s:StM)(o:Int):StM:=if Z5 s o≠0 then s else
 B9 c {Zg s (Y7 s o).cL with th:=(Zg s (Y7 s o).cL).th.set o.toNat none} (Y7 (Zg s (Y7 s o).cL) o)
def A0(c:Conf)(old size:Int):Bool:=decide (Xm c.bT old=Xm c.bT size) && (decide (Xm c.bT old≠-1)||decide (Qm old c.size=Qm size c.size))
def Aj(s:StM)(o:Int)(at' n:Nat):StM:=match Xx s (Y7 s o).cL with
 |some m=>if m.who=o then Qk {s with bs:=Ex s.bs m.f m.t m.cE at' n} (Q4 at' n m.cE) else s
 |none=>s
def A7(c:Conf)(s:StM)(o size:Int):Int:=if Z5 s o≠0 then Z5 s o else if size<1\/c.cH<size then 3 else if A0 c (Ab s o) size=true then 0 else Yt c s size
def D5(s:StM)(o:Int)(t:ThM):StM:={s with th:=s.th.set o.toNat (some t)}
def Ka(c:Conf)(s:StM)(o size:Int):StM:=
 let s1:=Zg s (Y7 s o).cL
 let m:=(min (Ab s o) size).toNat
 let s2:=Q2 c (Qk s1 (Zi c (Y7 s1 o).cQ 0 m)) o size
 B9 c (Yp c s2 (Y7 s2 o) 0 (Yg c (Y7 s1 o).cQ s1.bs 0 m)) (Y7 s1 o)
def Ai(c:Conf)(s:StM)(o size:Int):StM:=
 if A7 c s o size≠0 then s
 else if A0 c (Ab s o) size=true then
  (if size<Ab s o then Aj (D5 (Yp c s (Y7 s o) size.toNat (X6 (Ab s o-size).toNat)) o ⟨size,Y7 s o⟩) o size.toNat (Ab s o-size).toNat
   else D5 s o ⟨size,Y7 s o⟩)
 else Ka c s o size
def Ql(s:StM)(o at' n:Int):Int:=if Z5 s o≠0 then Z5 s o else if at'<0\/n<0\/Ab s o<n\/Ab s o-n<at' then 8 else 0
def Cv(c:Conf)(s:StM)(o at' n:Int):List Int:=if Ql s o at' n=0 then Yg c (Y7 s o).cQ s.bs at'.toNat n.toNat else []
def Cu(c:Conf)(s:StM)(o at' n:Int):StM:=if Ql s o at' n=0 then Qk s (Zi c (Y7 s o).cQ at'.toNat n.toNat) else s
def Dg(c:Conf)(s:StM)(o at':Int)(l:List Int):StM:=if Ql s o at' l.length=0 then Aj (Yp c s (Y7 s o) at'.toNat l) o at'.toNat l.length else s
def tickK(c:Conf)(x:StM×Int)(k:Nat):StM×Int:=
 if x.2<1 then x else match Xx (Yv c x.1 k) k with
  |none=>(Yv c x.1 k,x.2)
  |some m=>(Yo (Yv c x.1 k) k x.2,x.2-Zt m x.2)
def tickTo(c:Conf)(s:StM)(n:Nat):StM×Int:=(List.range n).foldl (tickK c) (s,c.step)
def D6(c:Conf)(s:StM):StM:=(tickTo c s s.mv.length).1
def Ca(s:StM)(k bV:Int):Int:=if k<0\/(s.mv.length:Int)<=k\/bV<0\/1024<bV then 1 else 0
def Df(s:StM)(k bV:Int):StM:=if Ca s k bV=0 then {s with bV:=s.bV.set k.toNat bV} else s
def Ip(s:StM)(k:Int):Nat:=match Xx s k with|some m=>m.size-m.cE|none=>0
def C5(l:List (Option ThM)):List Int:=l.filterMap λt=>t.map (·.size)
def Zl(s:StM):Int:=(C5 s.th).sum
def Eo(c:Conf):StM:=⟨c.bV,X6 (c.size*c.bS).toNat,Ig c 0,List.replicate c.cN.toNat none,List.replicate c.bT.length none⟩
structure StM.OkP(c:Conf)(s:StM)(pd:Option (Nat×PlcM)):Prop where
 may:Zb c=true
 rm:Y9 c s.rm
 kl:s.bV.length=c.bT.length
 kr:∀x∈s.bV,0<=x/\x<=1024
 bl:(s.bs.length:Int)=c.size*c.bS
 bi:Qh s.bs
 tl:(s.th.length:Int)=c.cN
 ml:s.mv.length=c.bT.length
 size:∀(o:Nat) t,s.th[o]?=some (some t)->1<=t.size/\t.size<=c.cH
 small:∀(o:Nat) t,s.th[o]?=some (some t)->Xm c.bT t.size≠-1->t.q.cL=Xm c.bT t.size/\t.q.bS=[]/\Zd s.rm t.q.cL t.q.cR t.q.idx=o
 large:∀(o:Nat) t,s.th[o]?=some (some t)->Xm c.bT t.size=-1 -> ∃n r,(n,r)∈s.rm.lg/\t.q=⟨-1,(n:Nat),0,X4 r⟩/\(r.length+1:Int)=Z8 t.size c.size
 linj:∀(o o':Nat) t t',s.th[o]?=some (some t)->s.th[o']?=some (some t')->t.q.cL=-1->t'.q.cL=-1->t.q.cR=t'.q.cR->o=o'
 mv:∀(k:Nat) m,s.mv[k]?=some (some m)->(∃(o:Nat),∃t,m.who=o/\s.th[o]?=some (some t)/\t.q=⟨(k:Nat),m.pf,m.fa,[]⟩)/\Zd s.rm k m.pt m.ta=m.who/\¬(m.pf=m.pt/\m.fa=m.ta)/\(m.f:Int)=Hk c k m.pf m.fa/\(m.t:Int)=Hk c k m.pt m.ta/\(m.size:Int)=Z6 c k/\m.cE<m.size
 own:∀k n a:Int,Zd s.rm k n a≠-1->(∃(o:Nat),∃t,Zd s.rm k n a=o/\s.th[o]?=some (some t)/\(t.q=⟨k,n,a,[]⟩\/∃m,Xx s k=some m/\m.pt=n/\m.ta=a))\/∃o,pd=some (o,⟨k,n,a,[]⟩)
 ps:∀o q,pd=some (o,q)->q.cL≠-1->q.bS=[]/\Zd s.rm q.cL q.cR q.idx=o/\(∀m,Xx s q.cL=some m -> ¬(m.pt=q.cR/\m.ta=q.idx))/\∀(o':Nat) t,s.th[o']?=some (some t)->t.q≠q
 pl:∀o q,pd=some (o,q)->q.cL=-1 -> ∃n r,(n,r)∈s.rm.lg/\q=⟨-1,(n:Nat),0,X4 r⟩/\∀(o':Nat) t,s.th[o']?=some (some t)->t.q.cL=-1->t.q.cR≠(n:Nat)
abbrev StM.Ok(c:Conf)(s:StM):Prop:=s.OkP c none
end Go.Proofs.YtdeihcnepljjaaaGreatDoor
