/-
  Texts put together: Tz, Idx, Bits, Bits2, Bits3, Page, Page2, Ints, Pool, Pool2, Ring, Ring2, Ring3, Ring4, Shm.
-/
import Derived.Test.YtdeihcnepljjaaaGreatDoorQAbb
import Derived.Test.YtdeihcnepljjaaaGreatDoorQRule10
import Derived.Test.YtdeihcnepljjaaaGreatDoorQPost
import Derived.Test.YtdeihcnepljjaaaGreatDoorQRule12
import Derived.Test.YtdeihcnepljjaaaGreatDoorQRule25
set_option linter.unusedVariables false
set_option maxRecDepth 100000
namespace Go.Proofs.YtdeihcnepljjaaaGreatDoor
open Go.RowKit
open Go renaming World→dD,Value→dE
open Bool renaming and_eq_true->XJ,false_eq_true->ZS,eq_iff_iff->QU
open Int renaming toNat_natCast->XB,eq_ofNat_of_zero_le->XE
open List renaming getD_eq_getElem?_getD->XA,getElem?_eq_some_iff->XC,getElem?_eq_getElem->XD,length_set->XG,length_replicate->XI,map_append->XL,getElem_mem->XM,length_cons->XN,getElem?_map->XO,mem_map->XQ,nodup_append->XR,mem_append->XS,nodup_cons->XU,getElem?_append_left->ZA,mem_cons->ZB,getElem?_replicate->ZE,getElem?_eq_none->ZF,filter_cons->ZJ,length_range->ZM,mem_cons_self->ZO,map_congr_left->ZW,map_set->ZY,mem_cons_of_mem->YB,getElem?_set->YE,replicate_succ->YF,set_append_left->YJ,filter_eq_self->YM,findIdx?_eq_some_iff_getElem->YN,getElem_map->YU,getElem?_take->YV,getElem?_toArray->YW,nodup_nil->YX,mem_append_right->YY,range_succ->QC,append_nil->QD,ext_getElem?->QF,mem_append_left->QQ,any_eq_true->QR,getD->QV,mem_filter->QW
open Nat renaming le_refl->XF,zero_le->XP,zero_add->XT,mul_one->ZQ,mod_lt->YQ,add_assoc->YR,div_add_mod->QB
open Go.Proofs.Tryz (func161 func186 func193 func228 func240 func242 func243 func244 func245 func246 func276 func283 func285 func286 func287 func288 func289 func290 func291 func293 func294 func295 func296 func308 func309 func310 func311 func312 func313 func314 func315 func316 func317 func318 func322 func323 func324 ntmps161 ntmps186 ntmps193 ntmps228 ntmps240 ntmps242 ntmps243 ntmps244 ntmps245 ntmps246 ntmps276 ntmps283 ntmps285 ntmps286 ntmps287 ntmps288 ntmps289 ntmps290 ntmps291 ntmps293 ntmps294 ntmps295 ntmps296 ntmps308 ntmps309 ntmps310 ntmps311 ntmps312 ntmps313 ntmps314 ntmps315 ntmps316 ntmps317 ntmps318 ntmps322 ntmps323 ntmps324 prog)
variable {ahead by' cS cH size cN u who z:Int}{lg:List (Nat×List Nat)}{bs l p zs:List Int}{l2 ws:List Nat}{cs rest xs:List dE}{N at' b base cap d fuel g i j k lm lo m n o qb sz t tm ty vb xb y:Nat}{e:Nat×List Int}{fz:Nat×Nat}{f:Nat->Int}{B C F F' Fr Q S S' T X:Nat->Prop}{a:Option Addr}{α:Type}{v:dE}{w w' w'' w0 w1 w2:dD}{cells:α->List dE}
theorem Vv{x:Nat}(h:x<2^64):(BitVec.ofInt 64 (x:Int)).toNat=x:=by
 rw[BitVec.toNat_ofInt];omega
theorem XcU{x:Nat}(h:x<2^64):IntKind.u64.wrap (x:Int)=x:=by
 simp only[IntKind.wrap,IntKind.signed,IntKind.bits]
 simp
 omega
theorem Xdr{x:Nat}(hx:x<2^64)(hy:y<2^64):Lc .and .u64 x y=((x &&& y:Nat):Int):=by
 have h:(BitVec.ofInt 64 (x:Int) &&& BitVec.ofInt 64 (y:Int)).toNat=x &&& y:=by rw[BitVec.toNat_and,Vv hx,Vv hy]
 show IntKind.u64.wrap ((BitVec.ofInt 64 (x:Int) &&& BitVec.ofInt 64 (y:Int)).toNat:Int)=_
 rw[h,XcU (Nat.and_lt_two_pow x hy)]
theorem Xao{x:Nat}(hx:x<2^64)(hy:y<2^64):Lc .xor .u64 x y=((x ^^^ y:Nat):Int):=by
 have h:(BitVec.ofInt 64 (x:Int) ^^^ BitVec.ofInt 64 (y:Int)).toNat=x ^^^ y:=by rw[BitVec.toNat_xor,Vv hx,Vv hy]
 show IntKind.u64.wrap ((BitVec.ofInt 64 (x:Int) ^^^ BitVec.ofInt 64 (y:Int)).toNat:Int)=_
 rw[h,XcU (Nat.xor_lt_two_pow hx hy)]
def Mf(x:Nat):Nat:=(2^64-1) ^^^ x
theorem XdX{x:Nat}(h:x<2^64):Mf x<2^64:=Nat.xor_lt_two_pow (by decide) h
theorem XaI{x:Nat}(hj:j<64):(Mf x).testBit j=!x.testBit j:=by
 unfold Mf;rw[Nat.testBit_xor,Nat.testBit_two_pow_sub_one];simp[hj]
theorem Xn8{x:Nat}(h:x<2^64):L0 .xor .u64 x=some ((Mf x:Nat):Int):=by
 unfold L0 Mf;rw[<-Xao (by decide) h];rfl
theorem Xn9{x:Nat}(h:x<2^64)(h0:0<x):L0 .neg .u64 x=some ((2^64-x:Nat):Int):=by
 unfold L0
 congr 1
 simp only[IntKind.wrap,IntKind.signed,IntKind.bits]
 simp
 omega
theorem XgD(h:j<64):K0 true .u64 1 j=((2^j:Nat):Int):=by
 unfold K0;rw[bK rfl,show min (j:Int).toNat (IntKind.bits .u64)=j from Nat.min_eq_left (by simp only[IntKind.bits];omega)];rw[show(1:Int)*2^j=((2^j:Nat):Int) from by simp];exact XcU (Nat.pow_lt_pow_right (by decide) h)
theorem K1{x:Nat}(h:j<64):K0 false .u64 x j=((x/2^j:Nat):Int):=by
 unfold K0;rw[bJ (by simp),show min (j:Int).toNat (IntKind.bits .u64)=j from Nat.min_eq_left (by simp only[IntKind.bits];omega)];rw[Int.fdiv_eq_ediv_of_nonneg _ (Int.le_of_lt (Int.pow_pos (by decide)))]
 simp
theorem Xia{x:Nat}:x &&& 1=x%2:=Nat.and_one_is_mod x
theorem Xir{x:Nat}:(((x/2^j%2:Nat):Int) == 1)=x.testBit j:=by
 rw[Nat.testBit_eq_decide_div_mod_eq,QU,beq_iff_eq,decide_eq_true_eq];omega
theorem Xh9{x:Nat}(hx:x<2^64)(ht:t<64)(h1:x.testBit t=true)(h0:∀j,j<t->x.testBit j=false):x &&& (2^64-x)=2^t:=by
 have k:x%2^t=0:=by
  apply Nat.eq_of_testBit_eq
  intro i;rw[Nat.testBit_mod_two_pow,Nat.zero_testBit];by_cases a:i<t
  .rw[h0 i a];simp
  .simp[a]
 have d:x/2^t%2=1:=by
  rw[Nat.testBit_eq_decide_div_mod_eq] at h1;exact bL h1
 obtain⟨m,hm⟩:∃m,m=x/2^t:=⟨_,rfl⟩;have b:x=2^t*m:=by have:=QB x (2^t);rw[k,<-hm] at this;omega
 rw[<-hm] at d;obtain⟨q,f⟩:∃q,m=2*q+1:=⟨m/2,by omega⟩;have c:x-1=2^t*(2*q)+(2^t-1):=by
  rw[b,f,Nat.mul_add,ZQ];omega
 have g:x=(x-1)+1:=by
  have:0<x:=by rw[b,f];exact Nat.mul_pos (Nat.pow_pos (by decide)) (by omega)
  omega
 apply Nat.eq_of_testBit_eq
 intro j;rw[Nat.testBit_and,Nat.testBit_two_pow];have e:(2^64-x).testBit j=(decide (j<64) && !(x-1).testBit j):=by
  rw[g];exact Nat.testBit_two_pow_sub_succ (by omega) j
 rw[e];rcases Nat.lt_trichotomy j t with h|h|h
 .rw[h0 j h];simp;omega
 .subst h;rw[h1,c,Nat.testBit_two_pow_mul_add _ (by omega)];simp[ht]
 .obtain⟨i,a⟩:∃i,j-t=i+1:=⟨j-t-1,by omega⟩;have e1:x.testBit j=m.testBit (i+1):=by
   rw[b,Nat.testBit_two_pow_mul];rw[a]
   simp
   omega
  have e2:(x-1).testBit j=(2*q).testBit (i+1):=by
   rw[c,Nat.testBit_two_pow_mul_add _ (by omega),bJ (by omega),a]
  rw[e1,e2,Nat.testBit_add_one,Nat.testBit_add_one,show m/2=q from by omega,show 2*q/2=q from by omega];have:(decide (t=j))=false:=bO (by omega);rw[this];cases q.testBit i <;> simp
def Kj:List Nat:=[0,1,56,2,57,49,28,3,61,58,42,50,38,29,17,4,62,47,59,36,45,43,51,22,53,39,33,30,24,18,12,5,63,55,48,27,60,41,37,16,46,35,44,21,52,32,23,11,54,26,40,15,34,20,31,10,25,14,19,9,13,8,7,6]
theorem XiU:∀t,t<64->Kj[(2^t*285870213051353865)%2^64/2^58]?=some t:=by decide+kernel
def Fe(x n:Nat):Prop:=x<2^n/\(0<n->2^(n-1)<=x)
theorem Fe.zero:Fe 0 0:=⟨by decide,λh=>by omega⟩
theorem Fe.shift{x:Nat}(h:Fe (x/2^k) m)(hm:0<m):Fe x (m+k):=by
 obtain⟨b,c⟩:=h;have a:0<2^k:=Nat.pow_pos (by decide);refine⟨?_,λ_=>?_⟩
 .rw[Nat.pow_add];exact(Nat.div_lt_iff_lt_mul a).1 b
 .rw[show m+k-1=(m-1)+k from by omega,Nat.pow_add];exact(Nat.le_div_iff_mul_le a).1 (c hm)
theorem Fe.pos{x:Nat}(h:Fe x n)(hx:0<x):0<n:=by
 rcases Nat.eq_zero_or_pos n with h0|h0
 .subst h0;have:=h.1;simp at this;omega
 .exact h0
theorem Fe.top{x:Nat}(h:Fe x n)(hn:0<n):x.testBit (n-1)=true/\∀j,n<=j->x.testBit j=false:=by
 refine⟨?_,λj a=>Nat.testBit_lt_two_pow (Nat.lt_of_lt_of_le h.1 (Nat.pow_le_pow_right (by decide) a))⟩;apply Nat.testBit_of_two_pow_le_and_two_pow_add_one_gt (h.2 hn)
 rw[show n-1+1=n from by omega];exact h.1
theorem Fe.le{x:Nat}(h:Fe x n)(hx:x<2^k):n<=k:=by
 rcases Nat.lt_or_ge k n with hk|hk
 .have a:=h.2 (by omega);have b:2^k<=2^(n-1):=Nat.pow_le_pow_right (by decide) (by omega);omega
 .exact hk
def If(x:Nat):Nat:=if x=0 then 0 else Nat.log2 x+1
theorem Fj{x:Nat}(h:x<256):Fe x (If x):=by
 unfold If;by_cases a:x=0
 .subst a;rw[bK rfl];exact Fe.zero
 .rw[bJ a];exact⟨Nat.lt_log2_self,λ_=>Nat.log2_self_le a⟩
def idx{α:Type}(p:α->Bool)(l:List α):Int:=match l.findIdx? p with|some i=>i|none=>-1
theorem Jx{p:α->Bool}{l:List α}(hk:k<l.length)(hpre:∀j (h:j<l.length),j<k->p l[j]=false)(h:p l[k]=true):idx p l=k:=by
 unfold idx;have:l.findIdx? p=some k:=by
  rw[YN];exact⟨hk,h,λj a=>by simpa using hpre j (by omega) a⟩
 rw[this]
theorem I2{p:α->Bool}{l:List α}(hpre:∀j (h:j<l.length),p l[j]=false):idx p l=-1:=by
 unfold idx;have:l.findIdx? p=none:=by
  rw[List.findIdx?_eq_none_iff];intro x a;obtain⟨j,b,rfl⟩:=List.mem_iff_getElem.1 a;exact hpre j b
 rw[this]
theorem XaW{p:α->Bool}{l:List α}:(0<=idx p l)↔l.any p=true:=by
 unfold idx;cases h:l.findIdx? p with
 |none=>
  rw[List.findIdx?_eq_none_iff] at h;simp only[QR];constructor
  .intro d;omega
  .rintro⟨x,b,a⟩;rw[h x b] at a;cases a
 |some i=>
  rw[YN] at h;obtain⟨c,a,_⟩:=h;simp only[QR];exact⟨λ_=>⟨_,XM c,a⟩,λ_=>by omega⟩
theorem I0(h:k<zs.length):zs.getD k 0=zs[k]:=by simp[h]
def Sd{α:Type}(p:α->Bool)(l:List α):Int:=match l.reverse.findIdx? p with|some i=>(l.length:Int)-1-i|none=>-1
theorem XbU{p:α->Bool}{l:List α}(hk:k<l.length)(hpost:∀j (h:j<l.length),k<j->p l[j]=false)(h:p l[k]=true):Sd p l=k:=by
 unfold Sd;have:l.reverse.findIdx? p=some (l.length-1-k):=by
  rw[YN];refine⟨by simp;omega,?_,λj a=>?_⟩
  .rw[List.getElem_reverse];simp only[show l.length-1-(l.length-1-k)=k from by omega];exact h
  .rw[List.getElem_reverse];simpa using hpost _ (by omega) (by omega)
 rw[this];simp only
 omega
theorem Xgd{p:α->Bool}{l:List α}(hall:∀j (h:j<l.length),p l[j]=false):Sd p l=-1:=by
 unfold Sd;have:l.reverse.findIdx? p=none:=by
  rw[List.findIdx?_eq_none_iff];intro x a;rw[List.mem_reverse] at a;obtain⟨j,b,rfl⟩:=List.mem_iff_getElem.1 a;exact hall j b
 rw[this]
def C7(w:dD)(a:Option Addr)(bs:List Bool):Prop:=∀i (h:i<bs.length),∃b off,a=some ⟨b,off,none⟩/\w.cell? ⟨b,off+i,none⟩=some (.bool bs[i])
theorem C7.of{c:Array dE}{t:TypeId}{bs:List Bool}(h:w.heap[b]?=some (.cells c t fz))(hc:c=(bs.map Value.bool).toArray):C7 w (some ⟨b,0,none⟩) bs:=λi a=>
 ⟨b,0,rfl,by rw[Ys h,hc];simp[a]⟩
theorem C7.bR{bs:List Bool}(h:C7 w a bs)(hc:Xc Xf w w'):C7 w' a bs:=λi d=>by
 obtain⟨b,off,e,c⟩:=h i d;exact⟨b,off,e,Pz hc.below c⟩
theorem C7.of_take{cur:Array dE}{bs:List Bool}(h:w.heap[g]?=some (.cells cur t fz))(hc:cur.toList.take bs.length=bs.map Value.bool):C7 w (some ⟨g,0,none⟩) bs:=λi a=>by
 refine⟨g,0,rfl,?_⟩;have b:(cur.toList.take bs.length)[i]?=(bs.map Value.bool)[i]?:=by rw[hc]
 rw[YV,bK a] at b;rw[Ys h];simp only[XT];rw[<-Array.getElem?_toList,b];simp[a]
def Bg(w:dD):Prop:=∀j,j<64->w.cell? ⟨1,j,none⟩=some (.int .u8 (Kj.getD j 0:Nat))
theorem Bg.bR(h:Bg w)(hc:Xc S w w')(hs:¬S 1):Bg w':=λj a=>hc.cell (h j a) hs
theorem Bg.bQ(h:Bg w)(hc:Xc Xf w w'):Bg w':=h.bR hc id
theorem Xiv(x t:Nat)(w:dD)(hT0:Bg w)(hx:x<2^64)(ht:t<64)(h1:x.testBit t=true)(h0:∀j,j<t->x.testBit j=false):Xe prog 324 #[.int .u64 x] w (X3 (.int .i64 t) w):=by
 have e:0<x:=by
  rcases Nat.eq_zero_or_pos x with h|h
  .subst h;simp at h1
  .exact h
 refine aR func324 ntmps324 aA (aI aA (by simp;omega) (Xa.un Xb rfl (Xn9 hx e) rfl (Xa.bits Xb rfl (Xdr hx (by omega)) rfl ?_)));rw[Xh9 hx ht h1 h0];have b:=XiU t ht;obtain⟨j,c⟩:∃j,j=(2^t*285870213051353865)%2^64/2^58:=⟨_,rfl⟩;rw[<-c] at b;have d:j<64:=by rw[c];exact(Nat.div_lt_iff_lt_mul (by decide)).2 (Nat.lt_of_lt_of_le (YQ _ (by decide)) (by decide))
 refine Xa.arith Xb rfl (show IntKind.u64.wrap (((2^t:Nat):Int)*285870213051353865)=(((2^t*285870213051353865)%2^64:Nat):Int) from by simp only[IntKind.wrap,IntKind.signed,IntKind.bits];simp) rfl (Xa.shift Xb rfl (by omega) (show K0 false .u64 (((2^t*285870213051353865)%2^64:Nat):Int) 58=(((2^t*285870213051353865)%2^64/2^58:Nat):Int) from K1 (j:=58) (by decide)) rfl ?_);rw[<-c];have a:w.cell? ⟨1,0+j,none⟩=some (.int .u8 (t:Int)):=by rw[XT,hT0 j d,XA,b];rfl
 exact aU j aA (aW aA a aA (aV aA (bE func324 aA ⟨rfl,rfl⟩)))
theorem Xiw(w:dD):Xe prog 324 #[.int .u64 0] w (X3 (.int .i64 64) w):=by
 exact aR func324 ntmps324 aA (bI aA (bE func324 aA ⟨rfl,rfl⟩))
theorem L2:IntKind.u8.wrap z=z%256:=by
 simp only[IntKind.wrap,IntKind.signed,IntKind.bits]
 simp
theorem Lj{b:ByteArray}(h:∀z:Fin 256,(b[z.val]?).map (λx=>(x.toNat:Int))=some ((If z.val:Nat):Int))(hy:y<256):(b[((y:Nat):Int).toNat]?).map (λx=>(x.toNat:Int))=some ((If y:Nat):Int):=by
 rw[XB];exact h ⟨y,hy⟩
def Gq(x y c:Nat):Prop:=∀m,Fe y m->Fe x (m+c)
theorem Gq.step{x c:Nat}(h:Gq x y c)(hy:2^k<=y):Gq x (y/2^k) (k+c):=λm hm=>by
 have:=h _ (hm.shift (hm.pos (Nat.div_pos hy (Nat.pow_pos (by decide)))))
 rwa [YR] at this
theorem Gq.self(x:Nat):Gq x x 0:=λm hm=>hm
theorem Xit(x:Nat)(w:dD)(hx:x<2^64):Xe prog 323 #[.int .u64 x] w (λv w'=>∃n,Fe x n/\v=.int .i64 n/\w=w'):=by
 refine aR func323 ntmps323 aA (aT aA (λh=>?_) λh=>?_)
 .have g:4294967296<=x:=by have:=bL h;omega
  refine Xa.shift Xb rfl (by omega) (K1 (x:=x) (j:=32) (by decide)) rfl ?_;have l:x/2^32<4294967296:=by omega
  refine aT aA (λc=>?_) λc=>?_
  .have e:65536<=x/2^32:=by have:=bL c;omega
   have i:(x/2^32)/2^16<65536:=by omega
   refine Xa.shift Xb rfl (by omega) (K1 (x:=x/2^32) (j:=16) (by decide)) rfl (aV aA (aT aA (λb=>?_) λb=>?_))
   .have f:256<=(x/2^32)/2^16:=by have:=bL b;omega
    have a:((x/2^32)/2^16)/2^8<256:=by omega
    have d:=(Fj a).le (k:=8) a;exact Xa.shift Xb rfl (by omega) (K1 (x:=(x/2^32)/2^16) (j:=8) (by decide)) rfl (aV aA (Xa.arith Xb rfl (show IntKind.u8.wrap ((((x/2^32)/2^16)/2^8:Nat):Int)=((((x/2^32)/2^16)/2^8:Nat):Int) from by rw[L2];omega) rfl (Xa.sidx Xb rfl (by omega) (Lj (by decide+kernel) a) rfl (aV aA (aV aA (bE func323 aA ⟨If (((x/2^32)/2^16)/2^8)+(8+(16+(32+0))),((((((Gq.self x).step (k:=32) g)).step (k:=16) e)).step (k:=8) f) _ (Fj a),Xz (by omega),rfl⟩))))))
   .have a:((x/2^32)/2^16)<256:=by have:=bM b;omega
    have d:=(Fj a).le (k:=8) a;exact Xa.arith Xb rfl (show IntKind.u8.wrap (((x/2^32)/2^16:Nat):Int)=(((x/2^32)/2^16:Nat):Int) from by rw[L2];omega) rfl (Xa.sidx Xb rfl (by omega) (Lj (by decide+kernel) a) rfl (aV aA (aV aA (bE func323 aA ⟨If ((x/2^32)/2^16)+(16+(32+0)),(((((Gq.self x).step (k:=32) g)).step (k:=16) e)) _ (Fj a),Xz (by omega),rfl⟩))))
  .have i:(x/2^32)<65536:=by have:=bM c;omega
   refine aT aA (λb=>?_) λb=>?_
   .have f:256<=x/2^32:=by have:=bL b;omega
    have a:(x/2^32)/2^8<256:=by omega
    have d:=(Fj a).le (k:=8) a;exact Xa.shift Xb rfl (by omega) (K1 (x:=x/2^32) (j:=8) (by decide)) rfl (aV aA (Xa.arith Xb rfl (show IntKind.u8.wrap (((x/2^32)/2^8:Nat):Int)=(((x/2^32)/2^8:Nat):Int) from by rw[L2];omega) rfl (Xa.sidx Xb rfl (by omega) (Lj (by decide+kernel) a) rfl (aV aA (aV aA (bE func323 aA ⟨If ((x/2^32)/2^8)+(8+(32+0)),((((Gq.self x).step (k:=32) g)).step (k:=8) f) _ (Fj a),Xz (by omega),rfl⟩))))))
   .have a:(x/2^32)<256:=by have:=bM b;omega
    have d:=(Fj a).le (k:=8) a;exact Xa.arith Xb rfl (show IntKind.u8.wrap ((x/2^32:Nat):Int)=((x/2^32:Nat):Int) from by rw[L2];omega) rfl (Xa.sidx Xb rfl (by omega) (Lj (by decide+kernel) a) rfl (aV aA (aV aA (bE func323 aA ⟨If (x/2^32)+(32+0),(((Gq.self x).step (k:=32) g)) _ (Fj a),Xz (by omega),rfl⟩))))
 .have l:x<4294967296:=by have:=bM h;omega
  refine aT aA (λc=>?_) λc=>?_
  .have e:65536<=x:=by have:=bL c;omega
   have i:(x)/2^16<65536:=by omega
   refine Xa.shift Xb rfl (by omega) (K1 (x:=x) (j:=16) (by decide)) rfl (aV aA (aT aA (λb=>?_) λb=>?_))
   .have f:256<=(x)/2^16:=by have:=bL b;omega
    have a:((x)/2^16)/2^8<256:=by omega
    have d:=(Fj a).le (k:=8) a;exact Xa.shift Xb rfl (by omega) (K1 (x:=(x)/2^16) (j:=8) (by decide)) rfl (aV aA (Xa.arith Xb rfl (show IntKind.u8.wrap ((((x)/2^16)/2^8:Nat):Int)=((((x)/2^16)/2^8:Nat):Int) from by rw[L2];omega) rfl (Xa.sidx Xb rfl (by omega) (Lj (by decide+kernel) a) rfl (aV aA (aV aA (bE func323 aA ⟨If (((x)/2^16)/2^8)+(8+(16+(0))),((((Gq.self x).step (k:=16) e)).step (k:=8) f) _ (Fj a),Xz (by omega),rfl⟩))))))
   .have a:((x)/2^16)<256:=by have:=bM b;omega
    have d:=(Fj a).le (k:=8) a;exact Xa.arith Xb rfl (show IntKind.u8.wrap (((x)/2^16:Nat):Int)=(((x)/2^16:Nat):Int) from by rw[L2];omega) rfl (Xa.sidx Xb rfl (by omega) (Lj (by decide+kernel) a) rfl (aV aA (aV aA (bE func323 aA ⟨If ((x)/2^16)+(16+(0)),(((Gq.self x).step (k:=16) e)) _ (Fj a),Xz (by omega),rfl⟩))))
  .have i:(x)<65536:=by have:=bM c;omega
   refine aT aA (λb=>?_) λb=>?_
   .have f:256<=x:=by have:=bL b;omega
    have a:(x)/2^8<256:=by omega
    have d:=(Fj a).le (k:=8) a;exact Xa.shift Xb rfl (by omega) (K1 (x:=x) (j:=8) (by decide)) rfl (aV aA (Xa.arith Xb rfl (show IntKind.u8.wrap (((x)/2^8:Nat):Int)=(((x)/2^8:Nat):Int) from by rw[L2];omega) rfl (Xa.sidx Xb rfl (by omega) (Lj (by decide+kernel) a) rfl (aV aA (aV aA (bE func323 aA ⟨If ((x)/2^8)+(8+(0)),((Gq.self x).step (k:=8) f) _ (Fj a),Xz (by omega),rfl⟩))))))
   .have a:(x)<256:=by have:=bM b;omega
    have d:=(Fj a).le (k:=8) a;exact Xa.arith Xb rfl (show IntKind.u8.wrap ((x:Nat):Int)=((x:Nat):Int) from by rw[L2];omega) rfl (Xa.sidx Xb rfl (by omega) (Lj (by decide+kernel) a) rfl (aV aA (aV aA (bE func323 aA ⟨If (x)+(0),(Gq.self x) _ (Fj a),Xz (by omega),rfl⟩))))
def cnt:List Bool->Nat
 |[]=>0
 |b::r=>(if b then 1 else 0)+cnt r
theorem Od:∀(x:List Bool),cnt x<=x.length
 |[]=>XF _
 |b::r=>by have:=Od r;simp only[cnt,XN];split <;> omega
theorem Ts:∀{x:List Bool},cnt x=x.length -> ∀j (h:j<x.length),x[j]=true
 |[],_,j,h=>by simp at h
 |b::r,a,j,h=>by
  have:=Od r;simp only[cnt,XN] at a;cases b with
  |false=>simp at a;omega
  |true=>
   cases j with
   |zero=>rfl
   |succ j=>simp;exact Ts (by simp at a;omega) j (by simpa using h)
theorem XaD:∀{x:List Bool},cnt x≠x.length -> ∃j,∃h:j<x.length,x[j]=false
 |[],a=>by simp[cnt] at a
 |b::r,a=>by
  cases b with
  |false=>exact⟨0,by simp,rfl⟩
  |true=>
   have:cnt r≠r.length:=by simp only[cnt,XN] at a;simp at a;omega
   obtain⟨j,h,e⟩:=XaD this;exact⟨j+1,by simpa using h,by simpa using e⟩
theorem Tt:∀(x:List Bool) (i:Nat) (h:i<x.length) (b:Bool),cnt (x.set i b)+(if x[i] then 1 else 0)=cnt x+(if b then 1 else 0)
 |[],i,h,b=>by simp at h
 |a::r,0,h,b=>by simp only[List.set_cons_zero,cnt,List.getElem_cons_zero];omega
 |a::r,i+1,h,b=>by
  have:=Tt r i (by simpa using h) b;simp only[List.set_cons_succ,cnt,List.getElem_cons_succ];omega
theorem XaE(n:Nat):cnt (List.replicate n false)=0:=by
 induction n with
 |zero=>rfl
 |succ n ih=>simp[YF,cnt,ih]
def Gx(x:List Bool):Int:=idx (λb=>!b) x
def Rn(x:List Bool):Int:=Sd id x
def Gt(x:List Bool)(i:Int):Bool:=decide (0<=i) && x.getD i.toNat false
def Gv(x:List Bool)(i:Int):Bool:=decide (0<=i) && decide (i<x.length)
theorem Xjo{x:List Bool}{i:Int}(h:Gt x i=true):Gv x i=true:=by
 unfold Gt at h;unfold Gv;simp only[XJ,decide_eq_true_eq] at h⊢;refine⟨h.1,?_⟩;rcases Nat.lt_or_ge i.toNat x.length with h2|h2
 .omega
 .have:=h.2;rw[XA,ZF h2] at this;cases this
def Fa(x:List Bool)(i:Int)(b:Bool):Int:=
 if Gv x i=false then 1 else if b && Gt x i then 10 else if !b && !Gt x i then 9 else 0
def Jf(x:List Bool)(i:Int)(b:Bool):List Bool:=if Fa x i b=0 then x.set i.toNat b else x
def Co(ws:List Nat)(x:List Bool):List dE:=ws.map (λn:Nat=>Value.int .u64 (n:Int))++[Value.int .i64 (x.length:Int),Value.int .i64 (cnt x:Int)]
structure Bc(w:dD)(b:Nat)(x:List Bool):Prop where
 tab:Bg w
 ws:∃ws:List Nat,ws.length=8/\(∀k,ws.getD k 0<2^64)/\(∀k j,j<64->(ws.getD k 0).testBit j=x.getD (64*k+j) false)/\
  w.heap[b]?=some (.cells (Co ws x).toArray 375 (0,0))
 pos:1<=x.length
 len:x.length<=512
theorem Bc.bR{S:Nat->Prop}{w w':dD}{b:Nat}{x:List Bool}(h:Bc w b x)(hc:Xc S w w')(hs:¬S b)(hg:¬S 1):Bc w' b x:=by
 obtain⟨ws,a,c,d,e⟩:=h.ws;exact⟨h.tab.bR hc hg,⟨ws,a,c,d,hc.heap e hs⟩,h.pos,h.len⟩
theorem Bc.bQ{x:List Bool}(h:Bc w b x)(hc:Xc Xf w w'):Bc w' b x:=h.bR hc id id
theorem Bc.ne{x:List Bool}(h:Bc w b x):1≠b:=by
 obtain⟨ws,a,f,g,d⟩:=h.ws;intro e;have:=h.tab 0 (by decide);subst e;rw[Ys d] at this
 match ws,a with
 |c::r,_=>simp[Co] at this
theorem Xiy{x:List Bool}(h1:ws.length=8)(h:w.heap[b]?=some (.cells (Co ws x).toArray 375 (0,0))):w.cell? ⟨b,8,none⟩=some (.int .i64 x.length):=by
 rw[Ys h];simp[Co,h1]
theorem Xix{x:List Bool}(h1:ws.length=8)(h:w.heap[b]?=some (.cells (Co ws x).toArray 375 (0,0))):w.cell? ⟨b,9,none⟩=some (.int .i64 (cnt x)):=by
 rw[Ys h];simp[Co,h1]
theorem Xap{x:List Bool}(h1:ws.length=8)(h:w.heap[b]?=some (.cells (Co ws x).toArray 375 (0,0)))(hk:k<8):w.cell? ⟨b,0+k,none⟩=some (.int .u64 (ws.getD k 0:Nat)):=by
 have a:k<ws.length:=by omega
 rw[Ys h,XT];simp only[YW,XA,Co];rw[ZA (by simpa using a),XO,XD a];rfl
theorem Bc.many{x:List Bool}(h:Bc w b x):w.cell? ⟨b,8,none⟩=some (.int .i64 x.length):=by
 obtain⟨ws,a,d,e,c⟩:=h.ws;exact Xiy a c
theorem Bc.cnt{x:List Bool}(h:Bc w b x):w.cell? ⟨b,9,none⟩=some (.int .i64 (cnt x)):=by
 obtain⟨ws,a,d,e,c⟩:=h.ws;exact Xix a c
theorem Bc.lt{x:List Bool}(h:Bc w b x):b<w.heap.size:=by
 obtain⟨ws,c,d,e,a⟩:=h.ws;exact Xg a
theorem XaR(n k:Nat)(x:α):(List.replicate n x).getD k x=x:=by
 rw[XA,ZE];split <;> rfl
theorem Xiu(m:Nat)(w:dD)(hT0:Bg w)(h:1<=m/\m<=512):Xe prog 286 #[.int .i64 m] w (λv w'=>∃b,v=.tuple #[.pointer (some ⟨b,0,none⟩),.int .i64 0]/\w.heap.size<=b/\Bc w' b (List.replicate m false)/\Xc Xf w w'):=by
 refine aR func286 ntmps286 aA (aS aA (aS aA (aO aA (bC aA λb f e1 d a e=>?_))));have c:(List.replicate m false).length=m:=XI;exact bE func286 aA ⟨b,rfl,by omega,⟨hT0.bQ a,⟨List.replicate 8 0,rfl,λk=>by rw[XaR];decide,λk j g=>by rw[XaR,XaR];simp,by unfold Co;rw[c,XaE];exact d⟩,by omega,by omega⟩,a⟩
theorem Xdw(b:Nat)(x:List Bool)(i:Int)(w:dD)(h:Bc w b x):Xe prog 322 #[.pointer (some ⟨b,0,none⟩),.int .i64 i] w (X3 (.bool (Gv x i)) w):=by
 refine aR func322 ntmps322 aA (aT aA (λa=>?_) λa=>?_)
 .have c:=bL a;exact aW aA h.many aA (bE func322 aA ⟨Qz (by unfold Gv;rw[bN c];rfl),rfl⟩)
 .have c:=bM a;exact bE func322 aA ⟨Qz (by unfold Gv;rw[bO c];rfl),rfl⟩
theorem Th(b:Nat)(x:List Bool)(i:Int)(w:dD)(h:Bc w b x):Xe prog 309 #[.pointer (some ⟨b,0,none⟩),.int .i64 i] w (X3 (.bool (Gt x i)) w):=by
 have n:=h.len;obtain⟨ws,e,f,g,j⟩:=h.ws;refine aR func309 ntmps309 aA (bH (Xdw b x i w h) aA ?_);cases a:Gv x i with
 |false=>
  have d:Gt x i=false:=by cases k:Gt x i;rfl;rw[Xjo k] at a;cases a
  exact aS aA (bE func309 aA ⟨Qz d.symm,rfl⟩)
 |true=>
  have l:0<=i/\i<x.length:=by unfold Gv at a;simpa using a
  obtain⟨i,rfl⟩:=XE l.1;have m:i/64<8:=by omega
  refine bI aA (Xa.div Xb rfl (by omega) (Gh (by omega) (by omega)) rfl (aU (i/64) aA (aW aA (Xap e j m) aA (Xa.div Xb rfl (by omega) (G8 (by omega)) rfl ?_))));rw[show((i:Int)%64)=((i%64:Nat):Int) from by omega];refine Xa.shift Xb rfl (by omega) (K1 (by omega)) rfl (Xa.bits Xb rfl (Xdr (y:=1) (Nat.lt_of_le_of_lt (Nat.div_le_self _ _) (f _)) (by decide)) rfl ?_);rw[Xia];have c:=g (i/64) (i%64) (by omega);rw[show 64*(i/64)+i%64=i from by omega] at c;exact bE func309 aA ⟨Qz (by rw[Xir,c];unfold Gt;simp),rfl⟩
theorem Xdt(b:Nat)(x:List Bool)(w:dD)(h:Bc w b x):Xe prog 315 #[.pointer (some ⟨b,0,none⟩)] w (X3 (.int .i64 (cnt x)) w):=by
 exact aR func315 ntmps315 aA (aW aA h.cnt aA (bE func315 aA ⟨rfl,rfl⟩))
theorem XgB(hk:k<ws.length):(ws.map (λn:Nat=>Value.int .u64 (n:Int))++rest).set k (.int .u64 (n:Int))=(ws.set k n).map (λn:Nat=>Value.int .u64 (n:Int))++rest:=by
 rw[YJ _ _ (by simpa using hk),ZY]
theorem Oo{l:List α}{x d:α}(hi:i<l.length):(l.set i x).getD j d=if j=i then x else l.getD j d:=by
 simp only[XA,YE];by_cases h:i=j
 .subst h;simp[hi]
 .rw[bJ h,bJ (Ne.symm h)]
theorem J8:∀(l:List dE) (i:Nat) (v:dE),i<l.length->Z2 l i [v]=some (l.set i v)
 |x::r,0,v,_=>by simp[Z2]
 |x::r,i+1,v,h=>by simp[Z2,J8 r i v (by simpa using h)]
theorem Xdv(b:Nat)(x:List Bool)(i:Int)(is:Bool)(w:dD)(h:Bc w b x):Xe prog 314 #[.pointer (some ⟨b,0,none⟩),.int .i64 i,.bool is] w
 (λv w'=>v=.int .i64 (Fa x i is)/\Bc w' b (Jf x i is)/\Xc (λz=>z=b) w w'):=by
 have V:=h.len;have L:=h.ne;have B:Fa x i is≠0->Bc w b (Jf x i is):=λS=>by unfold Jf;rw[bJ S];exact h
 obtain⟨ws,d,y,A,K⟩:=h.ws;refine aR func314 ntmps314 aA (bH (Xdw b x i w h) aA ?_);cases e:Gv x i with
 |false=>
  have f:Fa x i is=1:=by unfold Fa;rw[bK e]
  exact bI aA (bE func314 aA ⟨by rw[f],B (by rw[f];decide),Xc.refl _ _⟩)
 |true=>
  refine aS aA ?_;cases is with
  |true=>
   refine bI aA (bH (Th b x i w h) aA ?_);cases g:Gt x i with
   |true=>
    have f:Fa x i true=10:=by unfold Fa;rw[e,g];rfl
    exact bI aA (bE func314 aA ⟨by rw[f],B (by rw[f];decide),Xc.refl _ _⟩)
   |false=>
    refine aS aA (aS aA ?_);have M:0<=i/\i<x.length:=by unfold Gv at e;simpa using e
    obtain⟨i,rfl⟩:=XE M.1;have N:i/64<8:=by omega
    have C:(Co ws x).length=10:=by simp[Co,d]
    have t:=A (i/64) (i%64) (by omega);rw[show 64*(i/64)+i%64=i from by omega] at t;have m:x.getD i false=false:=by have:=g;unfold Gt at this;simpa using this
    have o:(2:Nat)^(i%64)<2^64:=Nat.pow_lt_pow_right (by decide) (by omega);obtain⟨nw,l⟩:∃nw,nw=ws.getD (i/64) 0 ^^^ 2^(i%64):=⟨_,rfl⟩;refine aQ 14 Xf (by kernel_rfl) aA λa=>Xd.div Xb a rfl (by omega) (Gh (by omega) (by omega)) rfl (aB (i/64) a aA (aD a (Xap d K N) aA (Xd.div Xb a rfl (by omega) (G8 (by omega)) rfl ?_)));rw[show((i:Int)%64)=((i%64:Nat):Int) from by omega];refine Xd.shift Xb a rfl (by omega) (XgD (by omega)) rfl (Xd.bits Xb a rfl (Xao (y _) o) rfl (aB (i/64) a aA ?_));rw[<-l];refine aF a aA λT p=>aL aA (p.bP K) (show Z2 (Co ws x) (0+i/64) [.int .u64 (nw:Int)]=some ((ws.set (i/64) nw).map (λn:Nat=>Value.int .u64 (n:Int))++[Value.int .i64 (x.length:Int),Value.int .i64 (cnt x:Int)]) from by rw[XT,J8 _ _ _ (by rw[C];omega)];unfold Co;rw[XgB (by omega)]) aA λO q D Q=>?_;have E:O.cell? ⟨b,9,none⟩=some (.int .i64 (cnt x)):=by rw[Ys q];simp[d]
    have P:=Od x;have c:=Tt x i (by omega) true;have u:x[i]'(by omega)=false:=by rw[<-m,XA,XD (by omega)];rfl
    rw[u] at c
    first|refine Xa.yes Xb rfl rfl rfl ?_|refine Xa.no Xb rfl rfl rfl ?_
    refine aW aA E aA (aJ aA (by simp at c;omega) (aL aA q (show Z2 ((ws.set (i/64) nw).map (λn:Nat=>Value.int .u64 (n:Int))++[Value.int .i64 (x.length:Int),Value.int .i64 (cnt x:Int)]) 9 [.int .i64 ((cnt x:Int)+1)]=some (Co (ws.set (i/64) nw) (x.set i true)) from by rw[J8 _ _ _ (by simp[d]),List.set_append_right _ _ (by simp[d])];unfold Co;simp[d];simp at c;omega) aA λU F G R=>?_));have r:=(p.gr.trans D).trans G;have f:Fa x i true=0:=by unfold Fa;rw[e,g];rfl
    have H:Jf x i true=x.set i true:=by unfold Jf;rw[bK f];simp
    exact Xa.ret1 Xb rfl func314 rfl rfl ⟨by rw[f],by rw[H];exact⟨h.tab.bR r L,⟨_,by simp[d],λk=>by
     rw[Oo (by omega)];split
     .rw[l];exact Nat.xor_lt_two_pow (y _) o
     .exact y k,λk j I=>by
     rw[Oo (by omega),Oo (by omega)];by_cases s:k=i/64
     .subst s;rw[bK rfl,l,Nat.testBit_xor,Nat.testBit_two_pow,A _ j I];by_cases J:j=i%64
      .subst J;rw[bK (by omega),show 64*(i/64)+i%64=i from by omega,m];simp
      .rw[bJ (by omega),bO (by omega)];simp
     .rw[bJ s,bJ (by omega)];exact A k j I,F⟩,by simpa using h.pos,by simpa using h.len⟩,r⟩
  |false=>
   refine aS aA (bI aA (bH (Th b x i w h) aA ?_));cases g:Gt x i with
   |false=>
    have f:Fa x i false=9:=by unfold Fa;rw[e,g];rfl
    exact bI aA (bE func314 aA ⟨by rw[f],B (by rw[f];decide),Xc.refl _ _⟩)
   |true=>
    refine aS aA ?_;have M:0<=i/\i<x.length:=by unfold Gv at e;simpa using e
    obtain⟨i,rfl⟩:=XE M.1;have N:i/64<8:=by omega
    have C:(Co ws x).length=10:=by simp[Co,d]
    have t:=A (i/64) (i%64) (by omega);rw[show 64*(i/64)+i%64=i from by omega] at t;have m:x.getD i false=true:=by have:=g;unfold Gt at this;simpa using this
    have o:(2:Nat)^(i%64)<2^64:=Nat.pow_lt_pow_right (by decide) (by omega);obtain⟨nw,l⟩:∃nw,nw=ws.getD (i/64) 0 ^^^ 2^(i%64):=⟨_,rfl⟩;refine aQ 14 Xf (by kernel_rfl) aA λa=>Xd.div Xb a rfl (by omega) (Gh (by omega) (by omega)) rfl (aB (i/64) a aA (aD a (Xap d K N) aA (Xd.div Xb a rfl (by omega) (G8 (by omega)) rfl ?_)));rw[show((i:Int)%64)=((i%64:Nat):Int) from by omega];refine Xd.shift Xb a rfl (by omega) (XgD (by omega)) rfl (Xd.bits Xb a rfl (Xao (y _) o) rfl (aB (i/64) a aA ?_));rw[<-l];refine aF a aA λT p=>aL aA (p.bP K) (show Z2 (Co ws x) (0+i/64) [.int .u64 (nw:Int)]=some ((ws.set (i/64) nw).map (λn:Nat=>Value.int .u64 (n:Int))++[Value.int .i64 (x.length:Int),Value.int .i64 (cnt x:Int)]) from by rw[XT,J8 _ _ _ (by rw[C];omega)];unfold Co;rw[XgB (by omega)]) aA λO q D Q=>?_;have E:O.cell? ⟨b,9,none⟩=some (.int .i64 (cnt x)):=by rw[Ys q];simp[d]
    have P:=Od x;have c:=Tt x i (by omega) false;have u:x[i]'(by omega)=true:=by rw[<-m,XA,XD (by omega)];rfl
    rw[u] at c
    first|refine Xa.yes Xb rfl rfl rfl ?_|refine Xa.no Xb rfl rfl rfl ?_
    refine aW aA E aA (aJ aA (by simp at c;omega) (aL aA q (show Z2 ((ws.set (i/64) nw).map (λn:Nat=>Value.int .u64 (n:Int))++[Value.int .i64 (x.length:Int),Value.int .i64 (cnt x:Int)]) 9 [.int .i64 ((cnt x:Int)-1)]=some (Co (ws.set (i/64) nw) (x.set i false)) from by rw[J8 _ _ _ (by simp[d]),List.set_append_right _ _ (by simp[d])];unfold Co;simp[d];simp at c;omega) aA λU F G R=>?_));have r:=(p.gr.trans D).trans G;have f:Fa x i false=0:=by unfold Fa;rw[e,g];rfl
    have H:Jf x i false=x.set i false:=by unfold Jf;rw[bK f];simp
    exact Xa.ret1 Xb rfl func314 rfl rfl ⟨by rw[f],by rw[H];exact⟨h.tab.bR r L,⟨_,by simp[d],λk=>by
     rw[Oo (by omega)];split
     .rw[l];exact Nat.xor_lt_two_pow (y _) o
     .exact y k,λk j I=>by
     rw[Oo (by omega),Oo (by omega)];by_cases s:k=i/64
     .subst s;rw[bK rfl,l,Nat.testBit_xor,Nat.testBit_two_pow,A _ j I];by_cases J:j=i%64
      .subst J;rw[bK (by omega),show 64*(i/64)+i%64=i from by omega,m];simp
      .rw[bJ (by omega),bO (by omega)];simp
     .rw[bJ s,bJ (by omega)];exact A k j I,F⟩,by simpa using h.pos,by simpa using h.len⟩,r⟩
theorem XjU(h:y≠0):∃t,y.testBit t=true/\∀j,j<t->y.testBit j=false:=by
 obtain⟨i,b⟩:=Nat.exists_testBit_of_ne_zero h;have key:∀n,∀i,i<=n->y.testBit i=true -> ∃t,y.testBit t=true/\∀j,j<t->y.testBit j=false:=by
  intro n
  induction n with
  |zero=>intro i b c;exact⟨i,c,λj d=>by omega⟩
  |succ n ih=>
   intro i b c;by_cases a:∀j,j<i->y.testBit j=false
   .exact⟨i,c,a⟩
   .have:∃j,j<i/\y.testBit j=true:=by
     apply Classical.byContradiction
     intro e;apply a
     intro j d;cases g:y.testBit j with
     |false=>rfl
     |true=>exact(e ⟨j,d,g⟩).elim
    obtain⟨j,d,f⟩:=this;exact ih j (by omega) f
 exact key i i (XF _) b
theorem XhC(hk:k<ws.length):(ws.map (λn:Nat=>Value.int .u64 (n:Int)))[((k:Nat):Int).toNat]?=some (.int .u64 (ws.getD k 0:Nat)):=by
 rw[XB,XO,XD hk,XA,XD hk];rfl
theorem Xdx{x:List Bool}(h1:ws.length=8)(h:w.heap[b]?=some (.cells (Co ws x).toArray 375 (0,0))):∀j v,(ws.map (λn:Nat=>Value.int .u64 (n:Int)))[j]?=some v->w.cell? ⟨b,0+j,none⟩=some v:=λj v a=>by
 have c:j<ws.length:=by have:=(XC.1 a).1;simpa using this
 rw[Ys h,XT,YW];unfold Co;rw[ZA (by simpa using c)];exact a
theorem Xen{x:List Bool}(h:x.getD j false=true):j<x.length:=by
 rcases Nat.lt_or_ge j x.length with h2|h2
 .exact h2
 .rw[XA,ZF h2] at h;cases h
theorem Ib{x:List Bool}(h:j<x.length):x[j]=x.getD j false:=by simp[QV,h]
theorem Xdu(b:Nat)(x:List Bool)(w:dD)(h:Bc w b x):Xe prog 312 #[.pointer (some ⟨b,0,none⟩)] w (Grow (.int .i64 (Gx x)) w):=by
 have J:=h.len;refine aR func312 ntmps312 aA (Xa.quiet rfl Xn (by kernel_rfl) (Xk.adv Xb rfl (Xk.load Xb rfl h.cnt rfl (Xk.load Xb rfl h.many rfl (Xk.nil λF l=>aN aA ?_)))));have z:=h.bQ l;obtain⟨ws,G,s,u,H⟩:=z.ws;by_cases a:cnt x=x.length
 .exact aM aA (by rw[a];exact beq_self_eq_true _) (bE func312 aA ⟨Xz (I2 (p:=λb=>!b) (λj i=>by rw[Ts a j i];rfl)).symm,l⟩)
 .obtain⟨A,B,c⟩:=XaD a;rw[Ib B] at c;refine aI aA (by simp;omega) (Xa.loadC Xb (ws.map (λn:Nat=>Value.int .u64 (n:Int))) rfl (by first|rfl|(simp;done)|(simp[*];done)|(simp;omega)) (Xdx G H) rfl ?_);refine Xa.loop (α:=Nat) (λk=>[(3,false,.int .i64 (-1)),(23,false,.agg (ws.map (λn:Nat=>Value.int .u64 (n:Int))).toArray),(24,false,.int .i64 k)])
   (λk w'=>w'=F/\k<=8/\∀j,j<64*k->x.getD j false=true) (λk=>8-k) 0 ⟨rfl,rfl,rfl,trivial⟩ ⟨rfl,by omega,λj i=>by omega⟩ ?_
  rintro k C ⟨I,K,e⟩ ih;subst I;refine aN aA (aT aA (λv=>?_) λv=>?_)
  .have D:k<8:=by have:=bL v;omega
   refine Xa.aidx Xb rfl (by first|rfl|(simp;done)|(simp[*];done)|(simp;omega)) (by omega) (XhC (by omega)) rfl (Xa.un Xb rfl (Xn8 (s k)) rfl ?_);by_cases y:Mf (ws.getD k 0)=0
   .rw[y];refine bH (Xiw C) aA (aS aA (aV aA ?_));exact ih (k+1) _ _ ⟨rfl,by omega,λj i=>by
     by_cases d:j<64*k
     .exact e j d
     .have m:=XaI (x:=ws.getD k 0) (j:=j-64*k) (by omega);rw[y,Nat.zero_testBit,u k _ (by omega),show 64*k+(j-64*k)=j from by omega] at m
      simpa using m.symm⟩ (by omega) ⟨rfl,rfl,rfl,trivial⟩
   .obtain⟨t,g,q⟩:=XjU y;have f:t<64:=by
     rcases Nat.lt_or_ge t 64 with h'|h'
     .exact h'
     .rw[Nat.testBit_lt_two_pow (Nat.lt_of_lt_of_le (XdX (s k)) (Nat.pow_le_pow_right (by decide) h'))] at g;cases g
    have E:x.getD (64*k+t) false=false:=by
     rw[<-u k t f];have:=XaI (x:=ws.getD k 0) f;rw[g] at this
     simpa using this.symm
    have o:∀j,j<64*k+t->x.getD j false=true:=λj i=>by
     by_cases d:j<64*k
     .exact e j d
     .have m:=XaI (x:=ws.getD k 0) (j:=j-64*k) (by omega);rw[q _ (by omega),u k _ (by omega),show 64*k+(j-64*k)=j from by omega] at m
      simpa using m.symm
    have r:64*k+t<x.length:=by
     rcases Nat.lt_or_ge (64*k+t) x.length with h'|h'
     .exact h'
     .rw[o A (by omega)] at c;cases c
    exact bH (Xiv (Mf (ws.getD k 0)) t C z.tab (XdX (s k)) f g q) aA (bI aA (aV aA (aV aA (bE func312 aA ⟨Xz (by have:=Jx (p:=λb=>!b) r (λj i d=>by rw[Ib i,o j d];rfl) (by rw[Ib r,E];rfl);unfold Gx;rw[this];omega),l⟩))))
  .exfalso
   have D:k=8:=by have:=bM v;omega
   rw[e A (by omega)] at c;cases c
theorem Xis(b:Nat)(x:List Bool)(w:dD)(h:Bc w b x):Xe prog 311 #[.pointer (some ⟨b,0,none⟩)] w (X3 (.int .i64 (Rn x)) w):=by
 have K:=h.len;obtain⟨ws,D,v,q,E⟩:=h.ws;refine aR func311 ntmps311 aA (Xa.loadC Xb (ws.map (λn:Nat=>Value.int .u64 (n:Int))) rfl (by first|rfl|(simp;done)|(simp[*];done)|(simp;omega)) (Xdx D E) rfl ?_);refine Xa.loop (α:=Nat×Int) (λp=>[(3,false,.int .i64 p.2),(11,false,.agg (ws.map (λn:Nat=>Value.int .u64 (n:Int))).toArray),(12,false,.int .i64 p.1)])
  (λp w'=>w'=w/\p.1<=8/\((p.2=-1/\∀j,j<64*p.1->x.getD j false=false)\/(∃i:Nat,i<64*p.1/\p.2=i/\x.getD i false=true/\∀j,i<j->j<64*p.1->x.getD j false=false))) (λp=>8-p.1) (0,-1) ⟨rfl,rfl,rfl,trivial⟩ ⟨rfl,by omega,.inl ⟨rfl,λj a=>by omega⟩⟩ ?_
 rintro⟨k,at'⟩ F ⟨G,H,e⟩ ih;simp only at H e
 subst G;refine aN aA (aT aA (λr=>?_) λr=>?_)
 .have m:k<8:=by have:=bL r;omega
  refine Xa.aidx Xb rfl (by first|rfl|(simp;done)|(simp[*];done)|(simp;omega)) (by omega) (XhC (by omega)) rfl ?_;by_cases s:ws.getD k 0=0
  .refine aI aA (by rw[s];rfl) (aV aA ?_);have o:∀j,64*k<=j->j<64*(k+1)->x.getD j false=false:=λj a d=>by
    have y:=q k (j-64*k) (by omega);rw[s,Nat.zero_testBit,show 64*k+(j-64*k)=j from by omega] at y;exact y.symm
   refine ih (k+1,at') _ _ ⟨rfl,by simp only;omega,?_⟩ (by simp only;omega) ⟨rfl,rfl,rfl,trivial⟩;rcases e with⟨f,c⟩|⟨i,f,c,g,t⟩
   .exact .inl ⟨f,λj a=>by by_cases l:j<64*k;exact c j l;exact o j (by omega) a⟩
   .exact .inr ⟨i,by simp only;omega,c,g,λj a d=>by by_cases l:j<64*k;exact t j a l;exact o j (by omega) d⟩
  .refine aM aA (by simpa using s) (aV aA (aP aA (Xit (ws.getD k 0) F (v k)) ?_));rintro _ L ⟨n,u,rfl,rfl⟩;have z:=u.pos (by omega);have I:=u.le (v k);refine aN aA (aV aA (aV aA (aV aA ?_)));obtain⟨A,B⟩:=u.top z;refine ih (k+1,(k:Int)*64+n-1) _ _ ⟨rfl,by simp only;omega,.inr ⟨64*k+(n-1),by simp only;omega,by simp only;omega,?_,λj a d=>?_⟩⟩ (by simp only;omega) ⟨rfl,rfl,rfl,trivial⟩
   .rw[<-q k (n-1) (by omega)];exact A
   .have:=q k (j-64*k) (by simp only at d;omega);rw[show 64*k+(j-64*k)=j from by omega] at this;rw[<-this];exact B _ (by omega)
 .have m:k=8:=by have:=bM r;omega
  subst m;have J:at'=Rn x:=by
   unfold Rn;rcases e with⟨f,c⟩|⟨i,f,c,g,t⟩
   .rw[f,Xgd (λj a=>by rw[Ib a];exact c j (by omega))]
   .rw[c,XbU (Xen g) (λj a C=>by rw[Ib a];exact t j C (by omega)) (by rw[Ib (Xen g)];exact g)]
  exact bE func311 aA ⟨Xz J,rfl⟩
def Y1(x:List Int):List Bool:=x.map λo=>!(o == -1)
def Ya(x:List Int)(i:Int):Int:=if 0<=i then x.getD i.toNat (-1) else -1
def Yf(x:List Int):Int:=Gx (Y1 x)
def Lm(x:List Int):Int:=Rn (Y1 x)
def Xu(x:List Int):Nat:=cnt (Y1 x)
def Dt(x:List Int)(who:Int):Int:=if who<0 then 1 else if Yf x<0 then 5 else 0
def Er(x:List Int)(who:Int):Int:=if Dt x who=0 then Yf x else 0
def Qe(x:List Int)(who:Int):List Int:=if Dt x who=0 then x.set (Yf x).toNat who else x
def Q0(x:List Int)(i:Int):Int:=if i<0\/(x.length:Int)<=i then 1 else if Ya x i=-1 then 9 else 0
def Yj(x:List Int)(i:Int):List Int:=if Q0 x i=0 then x.set i.toNat (-1) else x
def Ao(x:List Int)(i who:Int):Int:=if i<0\/(x.length:Int)<=i\/who<0 then 1 else if Ya x i=-1 then 9 else 0
def Bw(x:List Int)(i who:Int):List Int:=if Ao x i who=0 then x.set i.toNat who else x
theorem Fk(x:List Int):(Y1 x).length=x.length:=by simp[Y1]
theorem R1(x:List Int)(k:Nat):(Y1 x).getD k false=!(x.getD k (-1) == -1):=by
 unfold Y1;rw[XA,XO,XA];cases h:x[k]? <;> simp
theorem Uu(x:List Int)(i:Int):Gt (Y1 x) i=!(Ya x i == -1):=by
 unfold Gt Ya;rw[R1];by_cases h:0<=i
 .rw[bK h,bN h];rfl
 .rw[bJ h,bO h];rfl
theorem Xbv(x:List Int)(i:Int):Gv (Y1 x) i=true↔0<=i/\i<x.length:=by
 unfold Gv;rw[Fk];simp
theorem Up(x:List Int)(i:Nat)(v:Int):Y1 (x.set i v)=(Y1 x).set i (!(v == -1)):=by
 unfold Y1;rw[ZY]
theorem Xbu{x:List Int}{i:Int}(h:i<0\/(x.length:Int)<=i):Ya x i=-1:=by
 unfold Ya;by_cases a:0<=i
 .rw[bK a,XA,ZF (by omega)];rfl
 .rw[bJ a]
theorem XdO:∀(x:List Bool) (k:Nat) (h:k<x.length),cnt (x.take (k+1))=cnt (x.take k)+(if x[k] then 1 else 0)
 |[],k,h=>by simp at h
 |a::r,0,h=>by simp[cnt]
 |a::r,k+1,h=>by
  have:=XdO r k (by simpa using h);simp only[List.take_succ_cons,cnt,List.getElem_cons_succ];rw[this];omega
theorem XeZ{x:List Bool}(hfull:cnt x≠x.length):∃t,t<x.length/\x.getD t false=false/\∀j,j<t->x.getD j false=true:=by
 obtain⟨g,e,a⟩:=XaD hfull;have key:∀m t,t<=m->t<x.length->x.getD t false=false -> ∃t,t<x.length/\x.getD t false=false/\∀j,j<t->x.getD j false=true:=by
  intro m
  induction m with
  |zero=>intro t ht b c;exact⟨t,b,c,λj f=>by omega⟩
  |succ m ihm=>
   intro t ht b c;by_cases d:∀j,j<t->x.getD j false=true
   .exact⟨t,b,c,d⟩
   .have:∃j,j<t/\x.getD j false=false:=by
     apply Classical.byContradiction
     intro h;apply d
     intro j f;cases i:x.getD j false with
     |true=>rfl
     |false=>exact(h ⟨j,f,i⟩).elim
    obtain⟨j,f,a⟩:=this;exact ihm j (by omega) (by omega) a
 exact key g g (XF _) e (by rw[<-Ib e];exact a)
theorem Xj2{x:List Bool}(h:0<=Gx x):(Gx x).toNat<x.length/\x.getD (Gx x).toNat false=false:=by
 unfold Gx at h⊢;by_cases hf:cnt x=x.length
 .rw[I2 (p:=λb=>!b) (λj d=>by rw[Ts hf j d];rfl)] at h;exact absurd h (by decide)
 .obtain⟨t,a,c,e⟩:=XeZ hf;rw[Jx (p:=λb=>!b) a (λj d f=>by rw[Ib d,e j f];rfl) (by rw[Ib a,c];rfl)];exact⟨a,c⟩
theorem Xa6{x:List Bool}:Gx x<0↔cnt x=x.length:=by
 unfold Gx;by_cases hf:cnt x=x.length
 .rw[I2 (p:=λb=>!b) (λj c=>by rw[Ts hf j c];rfl)];exact⟨λ_=>hf,λ_=>by decide⟩
 .obtain⟨t,a,d,e⟩:=XeZ hf;rw[Jx (p:=λb=>!b) a (λj c f=>by rw[Ib c,e j f];rfl) (by rw[Ib a,d];rfl)];exact⟨λh=>by omega,λh=>absurd h hf⟩
structure Pg where
 p:Nat
 bb:Nat
 mb:Nat
abbrev E7(g:Pg):dE:=.pointer (some ⟨g.p,0,none⟩)
def G4(g:Pg):Nat->Prop:=λz=>z=g.bb\/z=g.mb
def R2(g:Pg)(x:List Int):List dE:=[.pointer (some ⟨g.bb,0,none⟩),.int .i64 (x.length:Int),.map (some g.mb)]
structure Q6(w:dD)(g:Pg)(x:List Int):Prop where
 pc:w.heap[g.p]?=some (.cells (R2 g x).toArray 348 (0,0))
 bits:Bc w g.bb (Y1 x)
 own:∃m,Yx w g.mb m/\(Bi m).Nodup/\∀i,i<x.length->x.getD i (-1)≠-1->Bo m i=some (.int .i64 (x.getD i (-1)))
 npb:g.p≠g.bb
 npm:g.p≠g.mb
 nbm:g.bb≠g.mb
theorem Q6.bR{S:Nat->Prop}{w w':dD}{g:Pg}{x:List Int}(h:Q6 w g x)(hc:Xc S w w')(h1:¬S g.p)(h2:¬S g.bb)(h3:¬S g.mb)(hg:¬S 1):Q6 w' g x:=by
 obtain⟨m,hm,a,b⟩:=h.own;exact⟨hc.heap h.pc h1,h.bits.bR hc h2 hg,⟨m,hm.bR hc h3,a,b⟩,h.npb,h.npm,h.nbm⟩
theorem Q6.bQ{g:Pg}{x:List Int}(h:Q6 w g x)(hc:Xc Xf w w'):Q6 w' g x:=h.bR hc id id id id
theorem Q6.lt{w:dD}{g:Pg}{x:List Int}(h:Q6 w g x):g.p<w.heap.size/\g.bb<w.heap.size/\g.mb<w.heap.size:=by
 obtain⟨m,hm,a,b⟩:=h.own;exact⟨Xg h.pc,h.bits.lt,hm.lt⟩
theorem Q6.footlt{g:Pg}{x:List Int}(h:Q6 w g x):∀b,G4 g b->b<w.heap.size:=λb a=>by
 obtain⟨_,c,d⟩:=h.lt;rcases a with rfl|rfl
 .exact c
 .exact d
theorem Q6.notab{g:Pg}{x:List Int}(h:Q6 w g x):1≠g.mb:=λe=>by
 obtain⟨m,⟨es,c,hm,_⟩,a,b⟩:=h.own;have:=h.bits.tab 0 (by decide);rw[e] at this;simp only[World.cell?,hm] at this;cases this
theorem Xfr(m:Nat)(w:dD)(hT0:Bg w)(h:1<=m/\m<=512):Xe prog 245 #[.int .i64 m] w
 (λv w'=>∃g,v=.tuple #[E7 g,.int .i64 0]/\(w.heap.size<=g.p/\w.heap.size<=g.bb/\w.heap.size<=g.mb)/\Q6 w' g (List.replicate m (-1))/\Xc Xf w w'):=by
 refine aR func245 ntmps245 aA (aP aA (Xiu m w hT0 h) ?_);rintro _ y ⟨bb,rfl,f,c,d⟩;refine aN aA (aS aA (Xa.mkmap rfl λmb z r j e s=>aN aA (aO aA (bC aA λp A e3 q a t=>?_))));have k:=(c.bQ e).bQ a;have u:=c.lt;have x:=d.size;have b:(List.replicate m (-1:Int)).length=m:=XI;have l:Y1 (List.replicate m (-1))=List.replicate m false:=by simp[Y1]
 refine bE func245 aA ⟨⟨p,bb,mb⟩,rfl,⟨by simp only;omega,f,by simp only;omega⟩,⟨by unfold R2;rw[b];exact q,by rw[l];exact k,⟨[],j.bR a id,YX,λi n o=>absurd (by rw[b] at n;rw[XA,ZE,bK n];rfl) o⟩,by simp only;omega,by simp only;omega,by simp only;omega⟩,(d.trans e).trans a⟩
theorem Xfu(g:Pg)(x:List Int)(w:dD)(h:Q6 w g x):Xe prog 318 #[E7 g] w (X3 (.int .i64 (Xu x)) w):=by
 exact aR func318 ntmps318 aA (bB h.pc aA (bH (Xdt g.bb _ w h.bits) aA (bE func318 aA ⟨rfl,rfl⟩)))
theorem XkQ(g:Pg)(x:List Int)(w:dD)(h:Q6 w g x):Xe prog 290 #[E7 g] w (Grow (.int .i64 (Yf x)) w):=by
 exact aR func290 ntmps290 aA (bB h.pc aA (bG (Xdu g.bb _ w h.bits) aA λb a=>bE func290 aA ⟨rfl,a⟩))
theorem XkU(g:Pg)(x:List Int)(w:dD)(h:Q6 w g x):Xe prog 289 #[E7 g] w (X3 (.int .i64 (Lm x)) w):=by
 exact aR func289 ntmps289 aA (bB h.pc aA (bH (Xis g.bb _ w h.bits) aA (bE func289 aA ⟨rfl,rfl⟩)))
theorem Uo(g:Pg)(x:List Int)(w:dD)(h:Q6 w g x):Xe prog 294 #[E7 g] w (Grow (.bool ((Xu x:Int) == x.length)) w):=by
 exact aR func294 ntmps294 aA (aQ 15 Xf (by kernel_rfl) aA λa=>Xd.yes Xb a rfl rfl rfl (aE a h.pc aA (aH a (λw' b=>Xdt g.bb _ w' (h.bits.bQ b)) aA (aE a h.pc aA (aF a aA λd c=>bE func294 aA ⟨rfl,c⟩)))))
theorem XkS(g:Pg)(x:List Int)(i:Int)(w:dD)(h:Q6 w g x):Xe prog 291 #[E7 g,.int .i64 i] w (X3 (.int .i64 (Ya x i)) w):=by
 refine aR func291 ntmps291 aA (aS aA (bB h.pc aA (bH (Th g.bb _ i w h.bits) aA ?_)));rw[Uu];cases d:(Ya x i == -1) with
 |true=>
  exact bI aA (bE func291 aA ⟨Xz (show -1=Ya x i from(by simpa using d:Ya x i=-1).symm),rfl⟩)
 |false=>
  refine aS aA ?_;obtain⟨m,hm,f,e⟩:=h.own;have a:Ya x i≠-1:=by simpa using d
  have b:0<=i/\i<x.length:=Classical.byContradiction λj=>a (Xbu (by omega));obtain⟨k,rfl⟩:=XE b.1;have c:Ya x k=x.getD k (-1):=by unfold Ya;rw[bK b.1];rfl
  exact bB h.pc aA (Xa.lookup Xb rfl (hm) ((show Bt m (.int .i64 0) k false=.int .i64 (Ya x k) by unfold Bt;rw[(e k (by omega) (by rw[<-c];exact a)),c];rfl)) rfl (bE func291 aA ⟨rfl,rfl⟩))
theorem Xft(i:Int)(w:dD):Xe prog 291 #[.pointer none,.int .i64 i] w (X3 (.int .i64 (-1)) w):=by
 exact aR func291 ntmps291 aA (bE func291 aA ⟨rfl,rfl⟩)
variable {G:Nat->Pg}
theorem Uv{x:List Int}(h:¬Yf x<0):(Yf x).toNat<x.length/\x.getD (Yf x).toNat (-1)=-1:=by
 obtain⟨a,b⟩:=Xj2 (x:=Y1 x) (by unfold Yf at h;omega);rw[Fk] at a;rw[R1] at b;exact⟨a,show x.getD (Gx (Y1 x)).toNat (-1)=-1 by simpa using b⟩
theorem Oq(x:List Int)(i j:Nat)(v:Int):(x.set i v).getD j (-1)=if i=j/\i<x.length then v else x.getD j (-1):=by
 rw[XA,YE,XA];by_cases h:i=j
 .subst h;by_cases a:i<x.length
  .simp[a]
  .simp[a]
 .simp[h]
theorem XkT(g:Pg)(x:List Int)(who:Int)(w:dD)(h:Q6 w g x):Xe prog 293 #[E7 g,.int .i64 who] w
 (λv w'=>v=.tuple #[.int .i64 (Er x who),.int .i64 (Dt x who)]/\Q6 w' g (Qe x who)/\Xc (G4 g) w w'):=by
 have z:=h.bits.len;rw[Fk] at z;by_cases A:who<0
 .have a:Dt x who=1:=by unfold Dt;rw[bK A]
  have j:Er x who=0:=by unfold Er;rw[a];rfl
  have ht:Qe x who=x:=by unfold Qe;rw[a];rfl
  rw[a,j,ht];exact aR func293 ntmps293 aA (bI aA (bE func293 aA ⟨rfl,h,Xc.refl _ _⟩))
 .by_cases c:Yf x<0
  .have a:Dt x who=5:=by unfold Dt;rw[bJ A,bK c]
   have j:Er x who=0:=by unfold Er;rw[a];rfl
   have ht:Qe x who=x:=by unfold Qe;rw[a];rfl
   have b:((Xu x:Int) == x.length)=true:=by have:=Xa6.1 c;rw[Fk] at this;unfold Xu;rw[this];exact beq_self_eq_true _
   rw[a,j,ht];refine aR func293 ntmps293 aA (aS aA (bG (Uo g x w h) aA λC d=>?_));rw[b];exact bI aA (bE func293 aA ⟨rfl,h.bQ d,d.mono (λ_ _ h=>h.elim)⟩)
  .have a:Dt x who=0:=by unfold Dt;rw[bJ A,bJ c]
   have j:Er x who=Yf x:=by unfold Er;rw[a];rfl
   have ht:Qe x who=x.set (Yf x).toNat who:=by unfold Qe;rw[a];rfl
   have b:((Xu x:Int) == x.length)=false:=by
    rw[beq_eq_false_iff_ne];intro e;exact c (Xa6.2 (by rw[Fk];unfold Xu at e;omega))
   obtain⟨r,s⟩:=Uv c;rw[a,j,ht];refine aR func293 ntmps293 aA (aS aA (bG (Uo g x w h) aA λC d=>?_));rw[b];have k:=h.bQ d;refine aS aA (bB k.pc aA (bG (Xdu g.bb _ C k.bits) aA λH t=>?_));have f:=k.bQ t;obtain⟨m,hm,I,D⟩:=f.own;refine bB f.pc aA (Xa.mapset Xb rfl (hm) λJ E l M=>aN aA ?_);have n:=l.heap f.pc h.npm;refine bB n aA (aP aA (Xdv g.bb _ (Gx (Y1 x)) true J (f.bits.bR l h.nbm f.notab)) ?_);rintro _ K ⟨rfl,u,o⟩;refine aN aA ?_;have y:Fa (Y1 x) (Gx (Y1 x)) true=0:=by
    unfold Fa;rw[bJ (by rw[(Xbv x _).2 ⟨by unfold Yf at c;omega,by unfold Yf at r c;omega⟩];decide),bJ (by rw[Uu];unfold Ya;unfold Yf at s;rw[s];split <;> decide),bJ (by simp)]
   have F:Jf (Y1 x) (Gx (Y1 x)) true=Y1 (x.set (Yf x).toNat who):=by
    unfold Jf;rw[bK y,Up,show(!(who == -1))=true from by simp;omega];rfl
   rw[y];rw[F] at u;have B:Xc (G4 g) H K:=(l.mono λ_ _ h=>.inr h).trans (o.mono λ_ _ h=>.inl h);have p:=o.heap n h.npb;exact Xa.ret2 Xb rfl func293 rfl rfl rfl ⟨rfl,⟨by unfold R2 at p⊢;rw[XG];exact p,u,⟨_,(E.bR o h.nbm.symm),Xbf I _ _,λi G q=>by
    rw[Jr,Oq];rw[XG] at G;by_cases e:(i:Int)=Gx (Y1 x)
    .rw[bK e,bK ⟨by unfold Yf;omega,r⟩]
    .rw[Oq] at q;have e':¬((Yf x).toNat=i/\(Yf x).toNat<x.length):=λL=>e (by unfold Yf at L c;omega);rw[bJ e'] at q⊢;rw[bJ e];exact D i G q⟩,h.npb,h.npm,h.nbm⟩,(((d.trans t).mono (λ_ _ h=>h.elim)).trans B)⟩
theorem XkP(g:Pg)(x:List Int)(i:Int)(w:dD)(h:Q6 w g x):Xe prog 296 #[E7 g,.int .i64 i] w
 (λv w'=>v=.int .i64 (Q0 x i)/\Q6 w' g (Yj x i)/\Xc (G4 g) w w'):=by
 have q:Fa (Y1 x) i false=Q0 x i:=by
  unfold Fa Q0;by_cases r:0<=i/\i<x.length
  .rw[bJ (by rw[(Xbv x i).2 r];decide),bJ (by simp),bJ (show ¬(i<0\/(x.length:Int)<=i) by omega),Uu];by_cases a:Ya x i=-1
   .rw[bK a,bK (by rw[a];rfl)]
   .rw[bJ a,bJ (by simpa using a)]
  .rw[bK (by cases C:Gv (Y1 x) i;rfl;exact absurd ((Xbv x i).1 C) r),bK (by omega)]
 have D:Jf (Y1 x) i false=Y1 (Yj x i):=by
  unfold Jf Yj;rw[q];split
  .rw[Up];rfl
  .rfl
 have l:(Yj x i).length=x.length:=by unfold Yj;split <;> simp
 obtain⟨m,hm,s,t⟩:=h.own;refine aR func296 ntmps296 aA (bB h.pc aA (Xa.mapdel Xb rfl (hm) λu y b F=>aN aA ?_));have c:=b.heap h.pc h.npm;have z:Bc u g.bb (Y1 x):=h.bits.bR b h.nbm h.notab;refine bB c aA (aP aA (Xdv g.bb _ i false u z) ?_);rintro _ H ⟨rfl,n,d⟩;refine aN aA ?_;rw[q];rw[D] at n;have A:=y.bR d h.nbm.symm;have f:=d.heap c h.npb;exact Xa.ret1 Xb rfl func296 rfl rfl ⟨rfl,⟨by unfold R2 at f⊢;rw[l];exact f,n,⟨_,A,Xfg s _,λj o k=>by
  rw[l] at o;rw[L7 s];by_cases e:(j:Int)=i
  .exfalso
   apply k
   unfold Yj Q0;subst e;have B:Ya x (j:Int)=x.getD j (-1):=by unfold Ya;rw[bK (by omega)];rfl
   rw[bJ (show ¬((j:Int)<0\/(x.length:Int)<=j) by omega)];by_cases a:Ya x (j:Int)=-1
   .rw[bK a,bJ (by decide),<-B];exact a
   .rw[bJ a,bK rfl,XB,Oq,bK ⟨rfl,o⟩]
  .rw[bJ e];have E:(Yj x i).getD j (-1)=x.getD j (-1):=by
    unfold Yj;split
    .rename_i p
     have G:0<=i:=Classical.byContradiction λI=>by unfold Q0 at p;rw[bK (by omega)] at p;cases p
     rw[Oq,bJ (by omega)]
    .rfl
   rw[E] at k⊢;exact t j o k⟩,h.npb,h.npm,h.nbm⟩,(b.mono λ_ _ h=>.inr h).trans (d.mono λ_ _ h=>.inl h)⟩
theorem XkR(g:Pg)(x:List Int)(i who:Int)(w:dD)(h:Q6 w g x):Xe prog 285 #[E7 g,.int .i64 i,.int .i64 who] w
 (λv w'=>v=.int .i64 (Ao x i who)/\Q6 w' g (Bw x i who)/\Xc (G4 g) w w'):=by
 have n:∀e:Int,Ao x i who=e->e≠0->Bw x i who=x:=λe q r=>by unfold Bw;rw[q,bJ r]
 refine aR func285 ntmps285 aA ?_;by_cases q:who<0
 .have a:Ao x i who=1:=by unfold Ao;rw[bK (by omega)]
  rw[a,n 1 a (by decide)];exact bI aA (bE func285 aA ⟨rfl,h,Xc.refl _ _⟩)
 refine aS aA ?_;by_cases r:i<0
 .have a:Ao x i who=1:=by unfold Ao;rw[bK (by omega)]
  rw[a,n 1 a (by decide)];exact bI aA (bE func285 aA ⟨rfl,h,Xc.refl _ _⟩)
 refine aS aA (bB h.pc aA ?_);by_cases C:(x.length:Int)<=i
 .have a:Ao x i who=1:=by unfold Ao;rw[bK (by omega)]
  rw[a,n 1 a (by decide)];exact bI aA (bE func285 aA ⟨rfl,h,Xc.refl _ _⟩)
 refine aS aA (bB h.pc aA (bH (Th g.bb _ i w h.bits) aA ?_));rw[Uu];by_cases d:Ya x i=-1
 .have a:Ao x i who=9:=by unfold Ao;rw[bJ (by omega),bK d]
  rw[a,n 9 a (by decide),d];exact bI aA (bE func285 aA ⟨rfl,h,Xc.refl _ _⟩)
 .have a:Ao x i who=0:=by unfold Ao;rw[bJ (by omega),bJ d]
  have z:Bw x i who=x.set i.toNat who:=by unfold Bw;rw[a];rfl
  rw[a,z];refine aI aA (show(!!(Ya x i == -1))=false by simpa using d) ?_;obtain⟨m,hm,A,s⟩:=h.own;refine bB h.pc aA (Xa.mapset Xb rfl (hm) λD t f B=>aN aA ?_);have l:=f.heap h.pc h.npm;obtain⟨k,rfl⟩:=XE (show 0<=i by omega);have u:Ya x (k:Int)=x.getD k (-1):=by unfold Ya;rw[bK (by omega)];rfl
  have y:Y1 (x.set k who)=Y1 x:=by
   rw[Up,show(!(who == -1))=true from by simp;omega];apply QF
   intro j;rw[YE];split
   .rename_i e
    subst e;have:=R1 x k;rw[XA,show(!(x.getD k (-1) == -1))=true from by rw[<-u];simpa using d] at this;cases p:(Y1 x)[k]? with
    |none=>rw[p] at this;cases this
    |some b=>rw[p] at this;simp at this;subst this;rw[bK (XC.1 p).1]
   .rfl
  exact Xa.ret1 Xb rfl func285 rfl rfl ⟨rfl,⟨by unfold R2 at l⊢;rw[XG];exact l,by rw[XB,y];exact(h.bits.bR f h.nbm h.notab),⟨_,t,Xbf A _ _,λj o c=>by
   rw[XB] at o c⊢;rw[XG] at o;rw[Jr];rw[Oq] at c⊢;by_cases e:(j:Int)=k
   .have e':k=j:=by omega
    subst e';rw[bK rfl,bK ⟨rfl,o⟩]
   .rw[bJ (show ¬(k=j/\k<x.length) by omega)] at c⊢;rw[bJ e];exact s j o c⟩,h.npb,h.npm,h.nbm⟩,f.mono λ_ _ h=>.inr h⟩
theorem Xfs(i who:Int)(w:dD):Xe prog 285 #[.pointer none,.int .i64 i,.int .i64 who] w (X3 (.int .i64 1) w):=by
 exact aR func285 ntmps285 aA (bE func285 aA ⟨rfl,rfl⟩)
theorem Fi{a t':Nat}{c c':Array dE}{f f':Nat×Nat}(h:w.heap[a]?=some (.cells c t f))(h':w.heap[b]?=some (.cells c' t' f'))(ht:t≠t'):a≠b:=by
 intro e;subst e;rw[h] at h';cases h';exact ht rfl
def Bb(len:Nat)(f:Nat->Int):List dE:=(List.range len).map λi=>.int .i64 (f i)
def Zk(w:dD)(b:Nat)(t:TypeId)(len:Nat)(f:Nat->Int):Prop:=w.heap[b]?=some (.cells (Bb len f).toArray t (0,0))
def X1(f:Nat->Int)(i:Nat)(v:Int):Nat->Int:=λj=>if j=i then v else f j
theorem A2(f:Nat->Int)(i:Nat)(v:Int):X1 f i v i=v:=by unfold X1;rw[bK rfl]
theorem X2(f:Nat->Int)(v:Int)(h:j≠i):X1 f i v j=f j:=by unfold X1;rw[bJ h]
theorem Xco(len:Nat)(f:Nat->Int):(Bb len f).length=len:=by unfold Bb;simp
theorem Xcp{len:Nat}{v:Int}(hi:i<len):(Bb len f).set i (.int .i64 v)=Bb len (X1 f i v):=by
 refine QF λj=>?_;unfold Bb;rw[YE];by_cases h:i=j
 .subst h;rw[bK rfl,bK (by simpa using hi),XO,List.getElem?_range hi];simp[X1]
 .rw[bJ h,XO,XO];by_cases a:j<len
  .rw[List.getElem?_range a];simp[X1,Ne.symm h]
  .rw[ZF (by simpa using a)];rfl
theorem B6{t:TypeId}{len:Nat}(h:Zk w b t len f)(e:j=k)(hk:k<len):w.cell? ⟨b,j,none⟩=some (.int .i64 (f k)):=by
 subst e;rw[Ys h];unfold Bb;simp[hk]
theorem Xb3:∀(l:List dE) (i:Nat) (v:dE) (vs:List dE),i<l.length->Z2 l i (v::vs)=Z2 (l.set i v) (i+1) vs
 |x::r,0,v,vs,_=>rfl
 |x::r,i+1,v,vs,h=>by
  show(match Z2 r i (v::vs) with|some q=>some (x::q)|none=>none)=(match Z2 (r.set i v) (i+1) vs with|some q=>some (x::q)|none=>none)
  rw[Xb3 r i v vs (by simpa using h)]
theorem Fp{len:Nat}{v:Int}(e:j=i)(hi:i<len):Z2 (Bb len f) j [.int .i64 v]=some (Bb len (X1 f i v)):=by
 subst e;rw[J8 _ _ _ (by rw[Xco];exact hi),Xcp hi]
theorem Pm{len:Nat}{v:Int}(e:j=i)(hi:i+1<len):Z2 (Bb len f) j [.int .i64 v,.int .i64 u]=some (Bb len (X1 (X1 f i v) (i+1) u)):=by
 subst e;rw[Xb3 _ _ _ _ (by rw[Xco];omega),Xcp (by omega),Fp rfl hi]
theorem XgA{len:Nat}{v:Int}(e:j=i)(hi:i+2<len):Z2 (Bb len f) j [.int .i64 v,.int .i64 u,.int .i64 z]=some (Bb len (X1 (X1 (X1 f i v) (i+1) u) (i+2) z)):=by
 subst e;rw[Xb3 _ _ _ _ (by rw[Xco];omega),Xcp (by omega),Pm rfl (by omega)]
structure PlM where
 own:List Int
 free:List Nat
def PlM.take(x:PlM)(who:Int):PlM:=match x.free with
 |[]=>x
 |n::r=>⟨x.own.set n who,r⟩
def PlM.give(x:PlM)(n:Nat):PlM:=⟨x.own.set n (-1),n::x.free⟩
def Du(n:Nat):PlM:=⟨List.replicate n (-1),List.range n⟩
structure PlM.Good(x:PlM):Prop where
 len:1<=x.own.length/\x.own.length<=1024
 nodup:x.free.Nodup
 free:∀n∈x.free,n<x.own.length/\x.own.getD n 0=-1
 all:∀n,n<x.own.length->x.own.getD n 0=-1->n∈x.free
 many:x.free.length+Xu x.own=x.own.length
structure Pl where
 pb:Nat
 ab:Nat
def Ln(P:Pl)(own:List Int)(head:Int):List dE:=[.slice (some ⟨P.ab,0,none⟩) own.length own.length,.int .i64 head,.int .i64 (Xu own:Nat),.func (.func 242) #[] #[]]
abbrev E9(P:Pl):dE:=.pointer (some ⟨P.pb,0,none⟩)
def Ax(P:Pl):Nat->Prop:=λz=>z=P.pb\/z=P.ab
def Jy(f:Nat->Int)(N:Nat):Int->List Nat->Prop
 |h,[]=>h=N
 |h,a::r=>h=a/\Jy f N (f (a*2+1)) r
theorem Xa4{g:Nat->Int}:∀{l:List Nat} {h:Int},(∀a∈l,f (a*2+1)=g (a*2+1))->Jy f N h l->Jy g N h l
 |[],_,_,hl=>hl
 |a::r,_,hfg,hl=>⟨hl.1,by rw[<-hfg a (by simp)];exact Xa4 (λb hb=>hfg b (by simp[hb])) hl.2⟩
structure Z0(w:dD)(P:Pl)(x:PlM):Prop where
 cV:x.Good
 at':∃head f,w.heap[P.pb]?=some (.cells (Ln P x.own head).toArray 291 (0,0))/\Zk w P.ab 337 (x.own.length*2) f/\Jy f x.own.length head x.free/\∀n,n<x.own.length->f (n*2)=x.own.getD n 0
theorem Z0.bR{P:Pl}{x:PlM}(h:Z0 w P x)(hc:Xc S w w')(h1:¬S P.pb)(h2:¬S P.ab):Z0 w' P x:=by
 obtain⟨head,f,a,b,c⟩:=h.at';exact⟨h.cV,head,f,hc.heap a h1,hc.heap b h2,c⟩
theorem Z0.bQ{P:Pl}{x:PlM}(h:Z0 w P x)(hc:Xc Xf w w'):Z0 w' P x:=h.bR hc id id
theorem Z0.lt{P:Pl}{x:PlM}(h:Z0 w P x):P.pb<w.heap.size/\P.ab<w.heap.size:=by
 obtain⟨head,f,a,b,c⟩:=h.at';exact⟨Xg a,Xg b⟩
theorem Ii{x:List Int}{v:Int}(h:n<x.length):Xu (x.set n v)+(if x.getD n 0=-1 then 0 else 1)=Xu x+(if v=-1 then 0 else 1):=by
 unfold Xu;rw[Up];have:=Tt (Y1 x) n (by rw[Fk];exact h) (!(v == -1));have e:(Y1 x)[n]'(by rw[Fk];exact h)=!(x.getD n 0 == -1):=by
  unfold Y1;rw[YU,XA,XD h];rfl
 rw[e] at this;by_cases a:x.getD n 0=-1 <;> by_cases b:v=-1 <;> simp_all
theorem Mz(x:List Int):Xu x<=x.length:=by
 unfold Xu;have:=Od (Y1 x);rw[Fk] at this;exact this
theorem E2(x:List Int)(i j:Nat)(v:Int):(x.set i v).getD j 0=if i=j/\i<x.length then v else x.getD j 0:=by
 rw[XA,YE,XA];by_cases h:i=j
 .subst h;by_cases a:i<x.length
  .simp[a]
  .simp[a]
 .simp[h]
theorem PlM.Good.take{x:PlM}(h:x.Good){who:Int}(hw:0<=who){n:Nat}{r:List Nat}(hf:x.free=n::r):(x.take who).Good:=by
 obtain⟨o,i,g,j,k⟩:=h;rw[hf] at i g j k;obtain⟨p,hr⟩:=XU.1 i;obtain⟨f,l⟩:=g n (by simp);have e:x.take who=⟨x.own.set n who,r⟩:=by unfold PlM.take;rw[hf]
 rw[e];refine⟨by simpa using o,hr,λm hm=>?_,λm hm c=>?_,?_⟩
 .obtain⟨a,b⟩:=g m (by simp[hm]);have:n≠m:=λe=>p (e▸hm);exact⟨by simpa using a,by show(x.own.set n who).getD m 0=-1;rw[E2,bJ (λh=>this h.1)];exact b⟩
 .replace c:(x.own.set n who).getD m 0=-1:=c;rw[E2] at c;by_cases d:n=m
  .rw[bK ⟨d,f⟩] at c;omega
  .rw[bJ (λh=>d h.1)] at c;have:=j m (by simpa using hm) c;rcases ZB.1 this with h|h
   .exact absurd h.symm d
   .exact h
 .have:=Ii (v:=who) f;rw[bK l,bJ (by omega)] at this;simp only[XG,XN] at k⊢;omega
theorem PlM.Good.give{x:PlM}(h:x.Good){n:Nat}(hn:n<x.own.length)(ho:x.own.getD n 0≠-1):(x.give n).Good:=by
 obtain⟨f,g,d,i,j⟩:=h;refine⟨by simpa [PlM.give] using f,?_,λm hm=>?_,λm hm c=>?_,?_⟩
 .exact XU.2 ⟨λh=>ho (d n h).2,g⟩
 .rcases ZB.1 hm with rfl|hm
  .exact⟨by simpa [PlM.give] using hn,by show(x.own.set m (-1)).getD m 0=-1;rw[E2,bK ⟨rfl,hn⟩]⟩
  .obtain⟨a,b⟩:=d m hm;refine⟨by simpa [PlM.give] using a,?_⟩;show(x.own.set n (-1)).getD m 0=-1
   rw[E2];split
   .rfl
   .exact b
 .replace c:(x.own.set n (-1)).getD m 0=-1:=c;replace hm:m<x.own.length:=by simpa [PlM.give] using hm
  show m∈n::x.free
  by_cases e:n=m
  .rw[e];exact ZO
  .rw[E2,bJ (λh=>e h.1)] at c;exact YB _ (i m hm c)
 .have:=Ii (v:=-1) hn;rw[bJ ho,bK rfl] at this;show(n::x.free).length+Xu (x.own.set n (-1))=(x.own.set n (-1)).length
  simp only[XG,XN];omega
theorem Ih(n:Nat):Xu (List.replicate n (-1))=0:=by
 unfold Xu Y1;rw[List.map_replicate];exact XaE n
theorem Xk0(h:1<=n/\n<=1024):(Du n).Good:=by
 refine⟨by simpa [Du] using h,List.nodup_range,λm hm=>?_,λm hm _=>?_,?_⟩
 .have:=List.mem_range.1 hm;refine⟨by simpa [Du] using this,?_⟩;show(List.replicate n (-1)).getD m 0=-1
  rw[XA,ZE,bK this];rfl
 .exact List.mem_range.2 (by simpa [Du] using hm)
 .show(List.range n).length+Xu (List.replicate n (-1))=(List.replicate n (-1)).length
  rw[Ih];simp
theorem Xk8(P:Pl)(x:PlM)(n:Int)(w:dD)(h:Z0 w P x):Xe prog 276 #[E9 P,.int .i64 n] w (X3 (.bool (decide (0<=n) && decide (n<x.own.length))) w):=by
 obtain⟨head,f,b,c,d,e⟩:=h.at';refine aR func276 ntmps276 aA (aT aA (λa=>?_) λa=>?_)
 .refine bB b aA ?_;rw[a];exact bE func276 aA ⟨rfl,rfl⟩
 .rw[a];exact bE func276 aA ⟨rfl,rfl⟩
theorem Xk4(P:Pl)(x:PlM)(w:dD)(h:Z0 w P x):Xe prog 161 #[E9 P] w (X3 (.int .i64 (Xu x.own:Nat)) w):=by
 obtain⟨head,f,a,b,c,d⟩:=h.at';exact aR func161 ntmps161 aA (bB a aA (bE func161 aA ⟨rfl,rfl⟩))
theorem XfE(P:Pl)(x:PlM)(w:dD)(h:Z0 w P x):Xe prog 193 #[E9 P] w (Grow (.int .i64 (x.free.length:Nat)) w):=by
 obtain⟨head,f,b,d,e,g⟩:=h.at';have hm:=h.cV.many;have i:=h.cV.len;exact aR func193 ntmps193 aA (aQ 11 Xf (by kernel_rfl) aA λa=>aE a b aA (aE a b aA (aC a aA (aF a aA λj c=>bE func193 aA ⟨Xz (by omega),c⟩))))
variable {pl':PlM}
def E8(x:PlM)(who:Int):Int:=if who<0 then 1 else if x.free.length=0 then 5 else 0
def I9(x:PlM)(who:Int):Int:=if E8 x who=0 then (x.free.getD 0 0:Nat) else 0
def Ij(x:PlM)(who:Int):PlM:=if E8 x who=0 then x.take who else x
theorem Xbz(P:Pl)(x:PlM)(who:Int)(w:dD)(h:Z0 w P x):Xe prog 240 #[E9 P,.int .i64 who] w
 (λv w'=>v=.tuple #[.int .i64 (I9 x who),.int .i64 (E8 x who)]/\Z0 w' P (Ij x who)/\Xc (Ax P) w w'):=by
 have d:=h.cV;have J:=h.cV.len;obtain⟨own,free⟩:=x;obtain⟨head,f,c,l,s,F⟩:=h.at';replace c:w.heap[P.pb]?=some (.cells (Ln P own head).toArray 291 (0,0)):=c;replace l:Zk w P.ab 337 (own.length*2) f:=l;replace s:Jy f own.length head free:=s;replace F:∀m,m<own.length->f (m*2)=own.getD m 0:=F;replace J:1<=own.length/\own.length<=1024:=J;have eN:∀e,E8 ⟨own,free⟩ who=e->e≠0->I9 ⟨own,free⟩ who=0/\Ij ⟨own,free⟩ who=⟨own,free⟩:=λe c l=>by
  unfold I9 Ij;rw[c,bJ l,bJ l];exact⟨rfl,rfl⟩
 refine Xe.enter func240 rfl ntmps240 rfl rfl ?_;refine aN rfl ?_;refine Xa.fork Xb rfl rfl rfl (λG=>?_) (λG=>?_)
 .have t:who<0:=bL G;have e1:E8 ⟨own,free⟩ who=1:=by unfold E8;rw[bK t]
  rw[(eN 1 e1 (by decide)).1,(eN 1 e1 (by decide)).2,e1];exact bE func240 aA ⟨rfl,h,Xc.refl _ _⟩
 have t:¬who<0:=bM G;refine Xa.drawn (q:=11) Xf Xb Xn (by kernel_rfl) rfl ?_;intro H;refine Xd.cJ Xb H rfl c (by first|exact λh=>h|(intro h;omega)|assumption) rfl rfl ?_;refine Xd.cJ Xb H rfl c (by first|exact λh=>h|(intro h;omega)|assumption) rfl rfl ?_;refine Xd.nil H ?_;intro M b;refine aN rfl ?_;have g:=b.bP c;have o:Zk M P.ab 337 (own.length*2) f:=b.bP l;cases free with
 |nil=>
  have e:head=own.length:=s;subst e;have e1:E8 ⟨own,[]⟩ who=5:=by unfold E8;rw[bJ t];rfl
  rw[(eN 5 e1 (by decide)).1,(eN 5 e1 (by decide)).2,e1];refine Xa.yes Xb rfl (beq_self_eq_true _) rfl ?_;exact bE func240 aA ⟨rfl,h.bQ b,b.gr⟩
 |cons n r=>
  obtain⟨rfl,hr⟩:=s;obtain⟨u,I⟩:=d.free n (by simp);replace u:n<own.length:=u;replace I:own.getD n 0=-1:=I;have e1:E8 ⟨own,n::r⟩ who=0:=by unfold E8;rw[bJ t];rfl
  have e2:I9 ⟨own,n::r⟩ who=n:=by unfold I9;rw[bK e1];rfl
  have e3:Ij ⟨own,n::r⟩ who=⟨own.set n who,r⟩:=by unfold Ij;rw[bK e1];rfl
  rw[e1,e2,e3];refine Xa.no Xb rfl (by simp;omega) rfl ?_;refine Xa.cJ Xb rfl g rfl rfl ?_;refine Xa.cJ Xb rfl g rfl rfl ?_;refine Xa.index Xb rfl (j:=(n*2)) (by omega) (by omega) (by first|rfl|omega|(simp;done)|(simp;omega)) rfl ?_;have p:=Fi o g (by decide);refine aW aA (B6 o (k:=n*2+1) (by show 0+n*2+1=_;omega) (by omega)) aA (bF g aA λU y A R=>bB y aA (aU (n*2) aA (aL aA (A.heap o p) (Fp (i:=n*2) (by show 0+n*2+0=_;omega) (by omega)) aA λV K B S=>?_)));have C:=B.heap y p.symm;refine bB C aA (aJ aA (by have:=Mz own;omega) (bF C aA λN L D T=>?_));have O:=Ii (x:=own) (n:=n) (v:=who) u;rw[bK I,bJ (by omega)] at O;have Q:Xc (Ax P) w N:=(b.gr.trans (A.mono λz _ e=>.inl e)).trans ((B.mono λz _ e=>.inr e).trans (D.mono λz _ e=>.inl e));have E:=d.take (who:=who) (by omega) (n:=n) (r:=r) rfl;have e:PlM.take ⟨own,n::r⟩ who=⟨own.set n who,r⟩:=rfl;rw[e] at E;exact Xa.ret2 Xb rfl func240 rfl rfl rfl ⟨rfl,⟨E,f (n*2+1),X1 f (n*2) who,by
   unfold Ln;simp only[XG];rw[show((Xu (own.set n who):Nat):Int)=(Xu own:Nat)+1 by omega];exact L,by
   show Zk _ _ _ ((own.set n who).length*2) _
   rw[XG];exact(D.heap K p),by
   show Jy _ (own.set n who).length _ r
   rw[XG];exact Xa4 (λa _=>(X2 f who (by omega)).symm) hr,λm hm=>by
   replace hm:m<own.length:=by simpa using hm
   show X1 f (n*2) who (m*2)=(own.set n who).getD m 0
   rw[E2];by_cases e:n=m
   .subst e;rw[A2,bK ⟨rfl,u⟩]
   .rw[X2 _ _ (by omega),bJ (λh=>e h.1)];exact F m hm⟩,Q⟩
def Fl(x:PlM)(n:Int):Int:=if n<0\/(x.own.length:Int)<=n then 1 else if Ya x.own n=-1 then 9 else 0
def Hu(x:PlM)(n:Int):PlM:=if Fl x n=0 then x.give n.toNat else x
theorem Xby(P:Pl)(x:PlM)(n:Int)(w:dD)(h:Z0 w P x):Xe prog 228 #[E9 P,.int .i64 n] w
 (λv w'=>v=.int .i64 (Fl x n)/\Z0 w' P (Hu x n)/\Xc (Ax P) w w'):=by
 have d:=h.cV;have G:=h.cV.len;obtain⟨own,free⟩:=x;obtain⟨head,f,b,l,E,r⟩:=h.at';replace b:w.heap[P.pb]?=some (.cells (Ln P own head).toArray 291 (0,0)):=b;replace l:Zk w P.ab 337 (own.length*2) f:=l;replace E:Jy f own.length head free:=E;replace r:∀m,m<own.length->f (m*2)=own.getD m 0:=r;replace G:1<=own.length/\own.length<=1024:=G;have eN:∀e,Fl ⟨own,free⟩ n=e->e≠0->Hu ⟨own,free⟩ n=⟨own,free⟩:=λe b l=>by
  unfold Hu;rw[b,bJ l]
 refine Xe.enter func228 rfl ntmps228 rfl rfl ?_;refine aN rfl ?_;refine aP rfl (Xk8 P ⟨own,free⟩ n w h) ?_;rintro _ _ ⟨rfl,rfl⟩;refine aN rfl ?_;by_cases g:0<=n/\n<own.length
 .obtain⟨k,rfl⟩:=XE g.1;have o:k<own.length:=by omega
  have t:Ya own k=own.getD k 0:=by
   unfold Ya;rw[bK g.1];simp only[XB];rw[XA,XA,XD o];rfl
  refine Xa.no Xb rfl (by rw[bN g.1,bN g.2];rfl) rfl ?_;refine Xa.cJ Xb rfl b rfl rfl ?_;refine Xa.index Xb rfl (j:=(k*2)) (by omega) (by omega) (by first|rfl|omega|(simp;done)|(simp;omega)) rfl ?_;refine aW aA (B6 l (k:=k*2) (by show 0+k*2+0=_;omega) (by omega)) aA ?_;rw[r k o];by_cases c:own.getD k 0=-1
  .have e1:Fl ⟨own,free⟩ k=9:=by unfold Fl;rw[bJ (by simp only;omega),t,bK c]
   rw[eN 9 e1 (by decide),e1];exact aM aA (by rw[c];rfl) (bE func228 aA ⟨rfl,h,Xc.refl _ _⟩)
  .have e1:Fl ⟨own,free⟩ k=0:=by unfold Fl;rw[bJ (by simp only;omega),t,bJ c]
   have e2:Hu ⟨own,free⟩ k=⟨own.set k (-1),k::free⟩:=by unfold Hu;rw[bK e1];rfl
   rw[e1,e2];refine aI aA (by simpa using c) (aQ 10 Xf (by kernel_rfl) aA λs=>aE s b aA (aE s b aA (Xd.build Xb s rfl rfl (aF s aA λT p=>?_))));have u:=p.bP b;have y:=p.bP l;have q:=Fi y u (by decide);refine aU (k*2) aA (aL aA y (Pm (i:=k*2) (by show 0+k*2=_;omega) (by omega)) aA λU H A O=>?_);refine bF (A.heap u q.symm) aA λV B C Q=>?_;refine bB B aA (aJ aA (by have:=Mz own;omega) (bF B aA λK I D R=>?_));have L:=Ii (x:=own) (n:=k) (v:=-1) o;rw[bJ c,bK rfl] at L;have M:Xc (Ax P) w K:=(p.gr.trans (A.mono λz _ e=>.inr e)).trans ((C.mono λz _ e=>.inl e).trans (D.mono λz _ e=>.inl e));have J:k∉free:=λh=>c (d.free k h).2;exact Xa.ret1 Xb rfl func228 rfl rfl ⟨rfl,⟨(d.give (n:=k) o c),k,X1 (X1 f (k*2) (-1)) (k*2+1) head,by
    unfold Ln;simp only[XG];rw[show((Xu (own.set k (-1)):Nat):Int)=(Xu own:Nat)-1 by omega];exact I,by
    show Zk _ _ _ ((own.set k (-1)).length*2) _
    rw[XG];exact(D.heap (C.heap H q) q),by
    show Jy _ (own.set k (-1)).length _ (k::free)
    rw[XG];refine⟨rfl,?_⟩;rw[A2];exact Xa4 (λa N=>by rw[X2 _ _ (by intro e;exact J ((by omega:a=k)▸N)),X2 _ _ (by omega)]) E,λm hm=>by
    replace hm:m<own.length:=by simpa using hm
    show X1 (X1 f (k*2) (-1)) (k*2+1) head (m*2)=(own.set k (-1)).getD m 0
    rw[E2,X2 _ _ (by omega)];by_cases e:k=m
    .subst e;rw[A2,bK ⟨rfl,o⟩]
    .rw[X2 _ _ (by omega),bJ (λh=>e h.1)];exact r m hm⟩,M⟩
 .have S:(!(decide (0<=n) && decide (n<own.length)))=true:=by
   by_cases F:0<=n
   .rw[bN F,bO (λh=>g ⟨F,h⟩)];rfl
   .rw[bO F];rfl
  have e1:Fl ⟨own,free⟩ n=1:=by unfold Fl;rw[bK (by simp only;omega)]
  rw[eN 1 e1 (by decide),e1];exact bI aA (bE func228 aA ⟨rfl,h,Xc.refl _ _⟩)
theorem Xk7(n:Int)(w:dD)(h : -9223372036854775808<=n+1/\n+1<=9223372036854775807):Xe prog 242 #[.int .i64 n] w (X3 (.int .i64 (n+1)) w):=by
 exact aR func242 ntmps242 aA (aV aA (bE func242 aA ⟨rfl,rfl⟩))
def R7(P:Pl)(N:Nat):List dE:=[.slice (some ⟨P.ab,0,none⟩) N N,.int .i64 0,.int .i64 0,.func (.func 242) #[] #[]]
theorem Xk9(P:Pl)(N k:Nat)(f:Nat->Int)(w:dD)(h1:w.heap[P.pb]?=some (.cells (R7 P N).toArray 291 (0,0)))(h2:Zk w P.ab 337 (N*2) f)(hk:k<N)(hN:N<=1024):Xe prog 244 #[E9 P,.int .i64 k] w (λ_ w'=>Zk w' P.ab 337 (N*2) (X1 (X1 f (k*2) (-1)) (k*2+1) (k+1))/\Xc (λz=>z=P.ab) w w'):=by
 exact aR func244 ntmps244 aA (aQ 12 Xf (by kernel_rfl) aA λa=>aE a h1 aA (aE a h1 aA (aH a (λw' g=>Xk7 k w' (by omega)) aA (Xd.build Xb a rfl rfl (aF a aA λe b=>aU (k*2) aA (aL aA (show e.heap[P.ab]?=some (.cells (Bb (N*2) f).toArray 337 (0,0)) from b.bP h2) (Pm (i:=k*2) (by show 0+k*2=_;omega) (by omega)) aA λl c d j=>bE func244 aA ⟨c,b.gr.trans d⟩))))))
def Iq:Nat->Nat->Int
 |0=>λ_=>0
 |k+1=>X1 (X1 (Iq k) (k*2) (-1)) (k*2+1) (k+1)
theorem Xhm:∀(k n:Nat),n<k->Iq k (n*2)=-1
 |k+1,n,h=>by
  show X1 (X1 (Iq k) (k*2) (-1)) (k*2+1) (k+1) (n*2)=-1
  rw[X2 _ _ (by omega)];by_cases e:n=k
  .subst e;exact A2 ..
  .rw[X2 _ _ (by omega)];exact Xhm k n (by omega)
theorem Xhl:∀(k n:Nat),n<k->Iq k (n*2+1)=n+1
 |k+1,n,h=>by
  show X1 (X1 (Iq k) (k*2) (-1)) (k*2+1) (k+1) (n*2+1)=n+1
  by_cases e:n=k
  .subst e;exact A2 ..
  .rw[X2 _ _ (by omega),X2 _ _ (by omega)];exact Xhl k n (by omega)
theorem XeO(h:∀n,n<N->f (n*2+1)=n+1):∀(m k:Nat),k+m=N->Jy f N k (List.range' k m)
 |0,k,e=>by show(k:Int)=N;omega
 |m+1,k,e=>by
  rw[List.range'_succ];refine⟨rfl,?_⟩;rw[h k (by omega)];exact XeO h m (k+1) (by omega)
theorem Xk6(P:Pl)(N:Nat)(w:dD)(h1:w.heap[P.pb]?=some (.cells (R7 P N).toArray 291 (0,0)))(h2:Zk w P.ab 337 (N*2) (Iq 0))(hN:N<=1024):Xe prog 243 #[E9 P,.func (.func 244) #[E9 P] #[]] w (λ_ w'=>Zk w' P.ab 337 (N*2) (Iq N)/\Xc (λz=>z=P.ab) w w'):=by
 refine aR func243 ntmps243 aA (bB h1 aA ?_);refine Xa.loop (α:=Nat) (λk=>[(1,false,.func (.func 244) #[E9 P] #[]),(9,false,.int .i64 N),(10,false,.int .i64 k)])
  (λk w'=>k<=N/\Zk w' P.ab 337 (N*2) (Iq k)/\Xc (λz=>z=P.ab) w w') (λk=>N-k) 0 ⟨rfl,rfl,rfl,trivial⟩ ⟨XP _,h2,Xc.refl _ _⟩ ?_
 rintro k h ⟨i,b,a⟩ ih;refine aN aA (aT aA (λd=>?_) λd=>?_)
 .have c:k<N:=by have:=bL d;omega
  refine aP aA (Xk9 P N k (Iq k) h (a.heap h1 (Fi h1 h2 (by decide))) b c hN) ?_;rintro _ j ⟨e,f⟩;exact aN aA (aV aA (ih (k+1) _ _ ⟨c,e,a.trans f⟩ (by omega) ⟨rfl,rfl,rfl,trivial⟩))
 .have g:k=N:=by have:=bM d;omega
  subst g;exact bE func243 aA ⟨b,a⟩
theorem XhL(t:Nat->Int)(ht:∀i,t i=0):∀n,Y4 [Value.int .i64 0,Value.int .i64 0] n=Bb (n*2) t
 |0=>rfl
 |n+1=>by
  have e:Bb ((n+1)*2) t=Bb (n*2) t++[.int .i64 0,.int .i64 0]:=by
   unfold Bb;rw[show(n+1)*2=n*2+1+1 by omega,QC,QC,XL,XL];simp[ht]
  have e2:∀m,Bb (m*2) t++[.int .i64 0,.int .i64 0]=[Value.int .i64 0,.int .i64 0]++Bb (m*2) t:=by
   intro m;have:Bb (m*2) t=List.replicate (m*2) (.int .i64 0):=by
    unfold Bb;rw[ZW (g:=λ_=>Value.int .i64 0) (λi _=>by rw[ht]),List.map_const',ZM]
   rw[this];show _++List.replicate 2 _=List.replicate 2 _++_
   rw[List.replicate_append_replicate,List.replicate_append_replicate,Nat.add_comm]
  rw[e,e2,Y4,XhL t ht n]
theorem Xk5(N:Nat)(w:dD)(h:1<=N/\N<=1024):Xe prog 186 #[.int .i64 N] w
 (λv w'=>∃P,v=.tuple #[E9 P,.int .i64 0]/\(w.heap.size<=P.pb/\w.heap.size<=P.ab)/\Z0 w' P (Du N)/\Xc Xf w w'):=by
 refine aR func186 ntmps186 aA (aS aA (aS aA (Xa.make Xb (m:=N) (k:=N) rfl rfl rfl (XF _) (by first|omega|(show 16*N<=_;omega)) (by omega) λab p e1 c d s=>aN aA (aO aA (bC aA λpb j e2 b f t=>?_)))));replace c:Zk p ab 337 (N*2) (Iq 0):=by
  unfold Zk;rw[c];exact congrArg (λx:List dE=>some (Obj.cells x.toArray 337 (0,0))) (XhL (Iq 0) (λ_=>rfl) N)
 replace b:j.heap[pb]?=some (.cells (R7 ⟨pb,ab⟩ N).toArray 291 (0,0)):=b;refine aP aA (Xk6 ⟨pb,ab⟩ N j b (show Zk _ _ _ _ _ from f.bP c) h.2) ?_;rintro _ q ⟨l,g⟩;refine aN aA ?_;have r:Xc Xf w q:=(d.trans f).bU g (λz u e=>by have:z=ab:=e;omega);have o:=g.heap b (show ¬pb=ab by have:=d.size;omega);have a:(Du N).own.length=N:=XI;exact Xa.ret2 Xb rfl func186 rfl rfl rfl ⟨⟨pb,ab⟩,rfl,⟨by show _<=pb;omega,by show _<=ab;omega⟩,⟨Xk0 h,0,Iq N,by
  have e:Ln ⟨pb,ab⟩ (Du N).own 0=R7 ⟨pb,ab⟩ N:=by
   unfold Ln R7;rw[a,show Xu (Du N).own=0 from Ih N];rfl
  rw[e];exact o,by rw[a];exact l,by
  rw[a];show Jy _ _ _ (List.range N)
  rw[List.range_eq_range'];exact XeO (Xhl N) N 0 (by omega),λn i=>by
  rw[a] at i;rw[Xhm N n i];show -1=(List.replicate N (-1)).getD n 0
  rw[XA,ZE,bK i];rfl⟩,r⟩
def Cd:List Nat->Int
 |[]=>-1
 |a::_=>a
def Bs:Int->List Nat->Int
 |p,[]=>p
 |_,a::r=>Bs a r
def I4(f:Nat->Int):Int->List Nat->Prop
 |_,[]=>True
 |p,a::r=>f (a*3)=p/\f (a*3+1)=Cd r/\I4 f a r
theorem Ua{f g:Nat->Int}:∀{l:List Nat} {p:Int},(∀a∈l,f (a*3)=g (a*3)/\f (a*3+1)=g (a*3+1))->I4 f p l->I4 g p l
 |[],_,_,h=>h
 |a::r,p,c,h=>by
  obtain⟨e1,e2⟩:=c a (by simp);exact⟨e1▸h.1,e2▸h.2.1,Ua (λb d=>c b (by simp[d])) h.2.2⟩
theorem Xa1:∀(p:Int) (l:List Nat) (n:Nat) (r:List Nat),Bs p (l++n::r)=Bs n r
 |p,[],n,r=>rfl
 |p,a::l,n,r=>Xa1 a l n r
theorem Ko:∀(p:Int) (l:List Nat),(l=[]/\Bs p l=p)\/∃a∈l,Bs p l=(a:Int)/\∃l',l=l'++[a]
 |p,[]=>.inl ⟨rfl,rfl⟩
 |p,a::r=>by
  rcases Ko a r with⟨rfl,h⟩|⟨b,hb,h,l',e⟩
  .exact .inr ⟨a,by simp,rfl,[],rfl⟩
  .exact .inr ⟨b,by simp[hb],h,a::l',by rw[e];rfl⟩
def Ia(f:Nat->Int)(pr nx:Int):Nat->Int:=
 let f1:=if pr=-1 then f else X1 f (pr.toNat*3+1) nx
 if nx=-1 then f1 else X1 f1 (nx.toNat*3) pr
theorem Oe{pr nx:Int}(h1:pr=-1\/j≠pr.toNat*3+1)(h2:nx=-1\/j≠nx.toNat*3):Ia f pr nx j=f j:=by
 unfold Ia;by_cases b:pr=-1
 .rw[bK b];by_cases a:nx=-1
  .rw[bK a]
  .rw[bJ a,X2 _ _ (by omega)]
 .rw[bJ b];by_cases a:nx=-1
  .rw[bK a,X2 _ _ (by omega)]
  .rw[bJ a,X2 _ _ (by omega),X2 _ _ (by omega)]
theorem XiX{a:Nat}{nx:Int}:Ia f a nx (a*3+1)=nx:=by
 unfold Ia;rw[bJ (show ¬(a:Int)=-1 by omega)];by_cases b:nx=-1
 .rw[bK b];exact A2 f (a*3+1) nx
 .rw[bJ b,X2 _ _ (by omega)];exact A2 f (a*3+1) nx
theorem XiW{pr:Int}:Ia f pr b (b*3)=pr:=by
 unfold Ia;rw[bJ (show ¬(b:Int)=-1 by omega)];exact A2 _ (b*3) pr
theorem XeQ{f:Nat->Int}{n:Nat}{l2:List Nat}:∀(l1:List Nat) (p:Int),(l1++n::l2).Nodup->I4 f p (l1++n::l2)->(p=-1\/∃q:Nat,p=q/\q∉l1++n::l2)->I4 (Ia f (Bs p l1) (Cd l2)) p (l1++l2)
 |[],p,d,h,w=>by
  obtain⟨_,_,y⟩:=h;cases l2 with
  |nil=>trivial
  |cons b r=>
   obtain⟨x,l,m⟩:=y;have o:=(XU.1 (XU.1 d).2);show I4 (Ia f p b) p (b::r)
   have g:∀a∈b::r,p=-1\/a*3+1≠p.toNat*3+1:=λa k=>by
    rcases w with h|⟨q,rfl,A⟩
    .exact .inl h
    .refine .inr λe=>A ?_;have:a=q:=by omega
     exact this▸YB _ k
   refine⟨XiW,?_,?_⟩
   .rw[Oe (j:=b*3+1) (nx:=(b:Int)) (g b (by simp)) (.inr (by omega))];exact l
   .refine Ua (λa k=>⟨?_,?_⟩) m
    .rw[Oe (j:=a*3) (nx:=(b:Int)) (.inr (by omega)) (.inr (λe=>o.1 ((by omega:a=b)▸k)))]
    .rw[Oe (j:=a*3+1) (nx:=(b:Int)) (g a (by simp[k])) (.inr (by omega))]
 |a::t,p,d,h,w=>by
  obtain⟨x,l,m⟩:=h;obtain⟨i,u⟩:=XU.1 d;have ih:=XeQ t a u m (.inr ⟨a,rfl,i⟩);show I4 (Ia f (Bs a t) (Cd l2)) p (a::(t++l2))
  refine⟨?_,?_,ih⟩
  .rw[Oe (j:=a*3) ?_ ?_]
   .exact x
   .rcases Ko a t with⟨_,h⟩|⟨z,_,h,_⟩ <;> rw[h] <;> exact .inr (by omega)
   .cases l2 with
    |nil=>exact .inl rfl
    |cons b r=>
     refine .inr λe=>i ?_;have:a=b:=by simp only[Cd] at e;omega
     rw[this];simp
  .cases t with
   |nil=>exact XiX
   |cons c s=>
    have B:∃z∈c::s,Bs a (c::s)=(z:Int):=by
     rcases Ko a (c::s) with⟨h,_⟩|⟨z,v,e,_⟩
     .cases h
     .exact⟨z,v,e⟩
    obtain⟨z,v,ez⟩:=B;rw[ez,Oe (j:=a*3+1) (pr:=(z:Int)) (.inr (λe=>i ((by omega:a=z)▸QQ _ v))) ?_]
    .exact l
    .cases l2 with
     |nil=>exact .inl rfl
     |cons b r=>exact .inr (by omega)
structure Rg where
 lb:Nat
 ab:Nat
 nb:Nat
def Lr(R:Rg):List dE:=[.slice (some ⟨R.ab,0,none⟩) 1 1,.slice (some ⟨R.nb,0,none⟩) 1024 1024]
abbrev Il(R:Rg):dE:=.pointer (some ⟨R.lb,0,none⟩)
def Hw(R:Rg):Nat->Prop:=λz=>z=R.ab\/z=R.nb
structure Ec(w:dD)(R:Rg)(o:List Nat):Prop where
 obj:w.heap[R.lb]?=some (.cells (Lr R).toArray 352 (0,0))
 nodup:o.Nodup
 lt:∀n∈o,n<1024
 at':∃g f,Zk w R.ab 357 3 g/\Zk w R.nb 359 3072 f/\g 0=Cd o/\g 1=Bs (-1) o/\g 2=o.length/\I4 f (-1) o/\∀n,n<1024->f (n*3+2)=if n∈o then 0 else -1
theorem Ec.bR{R:Rg}{o:List Nat}(h:Ec w R o)(hc:Xc S w w')(h1:¬S R.lb)(h2:¬S R.ab)(h3:¬S R.nb):Ec w' R o:=by
 obtain⟨g,f,a,b,c⟩:=h.at';exact⟨hc.heap h.obj h1,h.nodup,h.lt,g,f,hc.heap a h2,hc.heap b h3,c⟩
theorem Ec.bQ{R:Rg}{o:List Nat}(h:Ec w R o)(hc:Xc Xf w w'):Ec w' R o:=h.bR hc id id id
theorem Se(R:Rg)(w:dD)(h:w.heap[R.lb]?=some (.cells (Lr R).toArray 352 (0,0))):Xe prog 308 #[Il R,.int .i64 0] w (X3 (.pointer (some ⟨R.ab,0,none⟩)) w):=by
 exact aR func308 ntmps308 aA (aS aA (bB h aA (aS aA (bB h aA (aU 0 aA (bE func308 aA ⟨rfl,rfl⟩))))))
theorem Xgg(R:Rg)(n:Nat)(w:dD)(h:w.heap[R.lb]?=some (.cells (Lr R).toArray 352 (0,0)))(hn:n<1024):Xe prog 316 #[Il R,.int .i64 n] w (X3 (.pointer (some ⟨R.nb,0+n*3,none⟩)) w):=by
 exact aR func316 ntmps316 aA (aS aA (bB h aA (aS aA (bB h aA (aU (n*3) aA (bE func316 aA ⟨rfl,rfl⟩))))))
theorem XbW(b:Nat)(t:TypeId)(len:Nat)(f:Nat->Int)(way:Nat)(w:dD)(h:Zk w b t len f)(hw:way<=1)(hl:way<len):Xe prog 310 #[.pointer (some ⟨b,0,none⟩),.int .i64 way] w (X3 (.int .i64 (f way)) w):=by
 exact aR func310 ntmps310 aA (aU way aA (aW aA (B6 h (k:=way) (by show 0+0+way=_;omega) hl) aA (bE func310 aA ⟨rfl,rfl⟩)))
theorem Xgj(R:Rg)(g:Nat->Int)(way:Nat)(to:Int)(w:dD)(h:Zk w R.ab 357 3 g)(hw:way<=1):Xe prog 317 #[Il R,.pointer (some ⟨R.ab,0,none⟩),.int .i64 (-1),.int .i64 way,.int .i64 to] w (λ_ w'=>Zk w' R.ab 357 3 (X1 g (1-way) to)/\Xc (λz=>z=R.ab) w w'):=by
 exact aR func317 ntmps317 aA (bI aA (aV aA (aU (1-way) aA (aL aA h (Fp (i:=1-way) (by show 0+0+(1-way)=_;omega) (by omega)) aA λd b a c=>bE func317 aA ⟨b,a⟩))))
theorem Xgi(R:Rg)(f:Nat->Int)(a way:Nat)(to:Int)(w:dD)(h0:w.heap[R.lb]?=some (.cells (Lr R).toArray 352 (0,0)))(h:Zk w R.nb 359 3072 f)(hw:way<=1)(ha:a<1024):Xe prog 317 #[Il R,.pointer (some ⟨R.ab,0,none⟩),.int .i64 a,.int .i64 way,.int .i64 to] w (λ_ w'=>Zk w' R.nb 359 3072 (X1 f (a*3+way) to)/\Xc (λz=>z=R.nb) w w'):=by
 exact aR func317 ntmps317 aA (aI aA (by simp) (bB h0 aA (aU (a*3) aA (aU way aA (aL aA h (Fp (i:=a*3+way) (by show 0+a*3+0+way=_;omega) (by omega)) aA λe c b d=>bE func317 aA ⟨c,b⟩)))))
theorem Xge(R:Rg)(o:List Nat)(w:dD)(h:Ec w R o):Xe prog 288 #[Il R,.int .i64 0] w (X3 (.int .i64 (Cd o)) w):=by
 obtain⟨g,f,a,c,b,e1,e2,d,e⟩:=h.at';exact aR func288 ntmps288 aA (bH (Se R w h.obj) aA (bH (XbW R.ab _ 3 g 0 w a (by omega) (by omega)) aA (bE func288 aA ⟨Xz b,rfl⟩)))
theorem Xmr(R:Rg)(o:List Nat)(w:dD)(h:Ec w R o):Xe prog 287 #[Il R,.int .i64 0] w (X3 (.int .i64 (Bs (-1) o)) w):=by
 obtain⟨g,f,a,b,c,e1,e2,d,e⟩:=h.at';exact aR func287 ntmps287 aA (bH (Se R w h.obj) aA (bH (XbW R.ab _ 3 g 1 w a (by omega) (by omega)) aA (bE func287 aA ⟨Xz e1,rfl⟩)))
theorem Xms(R:Rg)(o:List Nat)(w:dD)(h:Ec w R o):Xe prog 283 #[Il R,.int .i64 0] w (X3 (.int .i64 (o.length:Nat)) w):=by
 obtain⟨g,f,a,b,c,e1,e2,d,e⟩:=h.at';exact aR func283 ntmps283 aA (bH (Se R w h.obj) aA (aW aA (B6 a (k:=2) rfl (by omega)) aA (bE func283 aA ⟨Xz e2,rfl⟩)))
theorem Xgf(R:Rg)(o:List Nat)(n:Nat)(w:dD)(h:Ec w R o)(hn:n<1024)(hno:n∉o)(hlo:o.length<=4096):Xe prog 313 #[Il R,.int .i64 0,.int .i64 n] w (λv w'=>v=.int .i64 0/\Ec w' R (n::o)/\Xc (Hw R) w w'):=by
 obtain⟨g,f,L,M,e0,e1,e2,hl,T⟩:=h.at';have C:=h.obj;have y:R.nb≠R.ab:=Fi M L (by decide);have N:R.lb≠R.ab:=Fi C L (by decide);have O:R.lb≠R.nb:=Fi C M (by decide);have U:f (n*3+2)=-1:=by rw[T n hn,bJ hno]
 refine aR func313 ntmps313 aA (bH (Se R w C) aA (bH (Xgg R n w C hn) aA (aW aA (B6 M (k:=n*3+2) (by show 0+n*3+2=_;omega) (by omega)) aA ?_)));rw[U];refine aS aA (bH (XbW R.ab _ 3 g 0 w L (by omega) (by omega)) aA ?_);rw[e0];refine aO aA (aL aA M (Fp (i:=n*3+2) (by show 0+n*3+2=_;omega) (by omega)) aA λw1 V W al=>aL aA V (Pm (i:=n*3) (by show 0+n*3+0=_;omega) (by omega)) aA λD A a0 am=>?_);have q:=W.trans a0;have P:Zk D R.ab 357 3 g:=q.heap L y.symm;have E:=q.heap C O;have key:∀(g' f':Nat->Int) (d:dD),Zk d R.ab 357 3 g'->Zk d R.nb 359 3072 f'->d.heap[R.lb]?=some (.cells (Lr R).toArray 352 (0,0))->Xc (Hw R) w d ->
  g' 0=n->g' 1=Bs (-1) (n::o)->g' 2=o.length+1->I4 f' (-1) (n::o)->(∀m,m<1024->f' (m*3+2)=if m∈n::o then 0 else -1)->Ec d R (n::o)/\Xc (Hw R) w d:=λg' f' d k1 k2 k3 k4 k5 k6 k7 k8 k9=>
  ⟨⟨k3,XU.2 ⟨hno,h.nodup⟩,λm hm=>by rcases ZB.1 hm with rfl|hm;exact hn;exact h.lt m hm,g',f',k1,k2,k5,k6,by rw[k7];simp,k8,k9⟩,k4⟩
 have F:∀m,m<1024->(X1 (X1 (X1 f (n*3+2) 0) (n*3) (-1)) (n*3+1) (Cd o)) (m*3+2)=if m∈n::o then 0 else -1:=λm hm=>by
  rw[X2 _ _ (by omega),X2 _ _ (by omega)];by_cases e:m=n
  .subst e;rw[A2,bK (by simp)]
  .rw[X2 _ _ (by omega),T m hm];simp[e]
 have B:∀j,j≠n*3+2->j≠n*3->j≠n*3+1->(X1 (X1 (X1 f (n*3+2) 0) (n*3) (-1)) (n*3+1) (Cd o)) j=f j:=λj a b c=>by rw[X2 _ _ c,X2 _ _ b,X2 _ _ a]
 have s:(X1 (X1 (X1 f (n*3+2) 0) (n*3) (-1)) (n*3+1) (Cd o)) (n*3)=-1:=by rw[X2 _ _ (by omega),A2]
 have t:(X1 (X1 (X1 f (n*3+2) 0) (n*3) (-1)) (n*3+1) (Cd o)) (n*3+1)=Cd o:=A2 ..;have Q:Xc (Hw R) w D:=q.mono λz _ e=>.inr e;obtain⟨f2,G⟩:∃f2,f2=X1 (X1 (X1 f (n*3+2) 0) (n*3) (-1)) (n*3+1) (Cd o):=⟨_,rfl⟩;rw[<-G] at F B s t;replace A:Zk D R.nb 359 3072 f2:=by rw[G];exact A
 cases o with
 |nil=>
  refine aP aA (Xgj R g 0 n D P (by omega)) ?_;rintro _ d ⟨H,l⟩;refine aN aA (aU 0 aA (aL aA H (Fp (i:=0) rfl (by omega)) aA λw4 p I a1=>aW aA (B6 p (k:=2) rfl (by omega)) aA ?_));have eg:X1 (X1 g (1-0) n) 0 n 2=0:=by rw[X2 _ _ (by decide),X2 _ _ (by decide),e2];rfl
  rw[eg];refine aV aA (aL aA p (Fp (i:=2) rfl (by omega)) aA λS J K a2=>?_);have u:=(l.trans I).trans K;exact bE func313 aA ⟨rfl,key _ f2 S J (u.heap A y) (u.heap E N) (Q.trans (u.mono λz _ e=>.inl e)) (by rw[X2 _ _ (by decide),A2]) (by rw[X2 _ _ (by decide),X2 _ _ (by decide)];exact A2 g 1 n) (by rw[A2];rfl) ⟨s,t,trivial⟩ F⟩
 |cons a r=>
  have an:a≠n:=λe=>hno (e▸ZO);have a3:=h.lt a (by simp);refine aP aA (Xgi R f2 a 0 n D E A (by omega) a3) ?_;rintro _ d ⟨a4,l⟩;refine aN aA ?_;have H:Zk d R.ab 357 3 g:=l.heap P y.symm;refine aU 0 aA (aL aA H (Fp (i:=0) rfl (by omega)) aA λw4 p I a1=>aW aA (B6 p (k:=2) rfl (by omega)) aA ?_);have eg:X1 g 0 n 2=(a::r).length:=by rw[X2 _ _ (by decide),e2]
  rw[eg];refine aJ aA (by simp only[XN] at hlo⊢;omega) (aL aA p (Fp (i:=2) rfl (by omega)) aA λS J K a2=>?_);have x:=I.trans K;have a5:I4 (X1 f2 (a*3+0) n) (-1) (n::a::r):=by
   refine⟨by rw[X2 _ _ (by omega)];exact s,by rw[X2 _ _ (by omega)];exact t,?_⟩;obtain⟨l1,l2,l3⟩:=hl;refine⟨A2 ..,?_,?_⟩
   .rw[X2 _ _ (by omega),B _ (by omega) (by omega) (by omega)];exact l2
   .refine Ua (λb hb=>?_) l3;have ao:b≠n:=λe=>hno (e▸YB _ hb);have ap:b≠a:=λe=>(XU.1 h.nodup).1 (e▸hb);exact⟨by rw[X2 _ _ (by omega),B _ (by omega) (by omega) (by omega)],by rw[X2 _ _ (by omega),B _ (by omega) (by omega) (by omega)]⟩
  exact bE func313 aA ⟨rfl,key _ _ S J (x.heap a4 y) (x.heap (l.heap E O) N) ((Q.trans (l.mono λz _ e=>.inr e)).trans (x.mono λz _ e=>.inl e)) (by rw[X2 _ _ (by decide),A2]) (by rw[X2 _ _ (by decide),X2 _ _ (by decide),e1];try rfl) (by rw[A2]) a5 (λm hm=>by rw[X2 _ _ (by omega)];exact F m hm)⟩
theorem XeP:∀(l1:List Nat) (p:Int),I4 f p (l1++n::l2)->f (n*3)=Bs p l1/\f (n*3+1)=Cd l2
 |[],_,h=>⟨h.1,h.2.1⟩
 |a::t,_,h=>XeP t a h.2.2
def Nr(g:Nat->Int)(a:Int)(way:Nat)(to:Int):Nat->Int:=if a=-1 then X1 g (1-way) to else g
def Lz(f:Nat->Int)(a:Int)(way:Nat)(to:Int):Nat->Int:=if a=-1 then f else X1 f (a.toNat*3+way) to
theorem Xgh(R:Rg)(g f:Nat->Int)(a:Int)(way:Nat)(to:Int)(w:dD)(h0:w.heap[R.lb]?=some (.cells (Lr R).toArray 352 (0,0)))(h1:Zk w R.ab 357 3 g)(h2:Zk w R.nb 359 3072 f)(hw:way<=1)(ha:a=-1\/∃k:Nat,a=k/\k<1024):Xe prog 317 #[Il R,.pointer (some ⟨R.ab,0,none⟩),.int .i64 a,.int .i64 way,.int .i64 to] w (λ_ w'=>Zk w' R.ab 357 3 (Nr g a way to)/\Zk w' R.nb 359 3072 (Lz f a way to)/\w'.heap[R.lb]?=some (.cells (Lr R).toArray 352 (0,0))/\Xc (Hw R) w w'):=by
 have c:=Fi h2 h1 (by decide);rcases ha with rfl|⟨k,rfl,h⟩
 .exact(Xgj R g way to w h1 hw).mono λ_ w' ⟨d,b⟩=>⟨d,b.heap h2 c,b.heap h0 (Fi h0 h1 (by decide)),b.mono λz _ e=>.inl e⟩
 .refine(Xgi R f k way to w h0 h2 hw h).mono λ_ w' ⟨d,b⟩=>⟨?_,?_,b.heap h0 (Fi h0 h2 (by decide)),b.mono λz _ e=>.inr e⟩
  .unfold Nr;rw[bJ (by omega)];exact b.heap h1 c.symm
  .unfold Lz;rw[bJ (by omega)];exact d
theorem XjM(l:List Nat)(hl:∀n∈l,n<1024):Bs (-1) l=-1\/∃k:Nat,Bs (-1) l=k/\k<1024:=by
 rcases Ko (-1) l with⟨_,h⟩|⟨a,b,h,_⟩
 .exact .inl h
 .exact .inr ⟨a,h,hl a b⟩
theorem Xjp(l:List Nat)(hl:∀n∈l,n<1024):Cd l=-1\/∃k:Nat,Cd l=k/\k<1024:=by
 cases l with
 |nil=>exact .inl rfl
 |cons a r=>exact .inr ⟨a,rfl,hl a (by simp)⟩
theorem XjN{l:List Nat}(h:Bs (-1) l=-1):l=[]:=by
 rcases Ko (-1) l with⟨e,_⟩|⟨a,_,b,_⟩
 .exact e
 .omega
theorem Xjq{l:List Nat}(h:Cd l=-1):l=[]:=by
 cases l with
 |nil=>rfl
 |cons a r=>have:(a:Int)=-1:=h;omega
theorem XbV(R:Rg)(l1 l2:List Nat)(n:Nat)(w:dD)(h:Ec w R (l1++n::l2))(hlo:(l1++n::l2).length<=4096):Xe prog 295 #[Il R,.int .i64 n] w (λv w'=>v=.int .i64 0/\Ec w' R (l1++l2)/\Xc (Hw R) w w'):=by
 obtain⟨g,f,h1,B,e0,e1,e2,V,W⟩:=h.at';have Q:=h.obj;have hn:=h.lt n (by simp);have s:=h.nodup;have L:n∉l1:=λhm=>(XR.1 s).2.2 n hm n (by simp) rfl;have M:=(XU.1 (XR.1 s).2.1).1;have N:n∉l1++l2:=λhm=>by rcases XS.1 hm with h|h;exact L h;exact M h
 have O:f (n*3+2)=0:=by rw[W n hn,bK (by simp)]
 obtain⟨ea,en⟩:=XeP l1 (-1) V;have S:=XjM l1 (λm hm=>h.lt m (by simp[hm]));have T:=Xjp l2 (λm hm=>h.lt m (by simp[hm]));have C:=XeQ l1 (-1) s V (.inl rfl);obtain⟨pr,l⟩:∃pr,pr=Bs (-1) l1:=⟨_,rfl⟩;obtain⟨nx,o⟩:∃nx,nx=Cd l2:=⟨_,rfl⟩;rw[<-l] at ea S C;rw[<-o] at en T C;have U:pr=-1\/pr.toNat≠n:=by
  rcases Ko (-1) l1 with⟨_,h⟩|⟨a,D,h,_⟩
  .exact .inl (by rw[l,h])
  .exact .inr (λe=>L (by rw[l,h] at e;exact(show a=n from e)▸D))
 have ad:nx=-1\/nx.toNat≠n:=by
  cases l2 with
  |nil=>exact .inl o
  |cons b r=>exact .inr (λe=>M (by rw[o] at e;exact(show b=n from e)▸ZO))
 refine aR func295 ntmps295 aA (bH (Xgg R n w Q hn) aA (aW aA (B6 B (k:=n*3+2) (by show 0+n*3+2=_;omega) (by omega)) aA ?_));rw[O];refine aS aA (aW aA (B6 B (k:=n*3+2) (by show 0+n*3+2=_;omega) (by omega)) aA ?_);rw[O];refine bH (Se R w Q) aA (aQ 12 Xf (by kernel_rfl) aA λd=>aB 0 d aA (aD d (B6 B (k:=n*3) (by show 0+n*3+0+0=_;omega) (by omega)) aA (aB 1 d aA (aD d (B6 B (k:=n*3+1) (by show 0+n*3+0+1=_;omega) (by omega)) aA (aF d aA λw1 u=>?_)))));rw[ea,en];refine aP aA (Xgh R g f pr 1 nx w1 (u.bP Q) (u.bP h1) (u.bP B) (by omega) S) ?_;rintro _ w2 ⟨a1,E,a2,a3⟩;have k1:Lz f pr 1 nx (n*3+1)=nx:=by
  unfold Lz;by_cases A:pr=-1
  .rw[bK A];exact en
  .rw[bJ A,X2 _ _ (by rcases U with h|h;exact absurd h A;omega)];exact en
 have k2:Lz f pr 1 nx (n*3)=pr:=by
  unfold Lz;by_cases A:pr=-1
  .rw[bK A];exact ea
  .rw[bJ A,X2 _ _ (by omega)];exact ea
 refine aN aA (aQ 12 Xf (by kernel_rfl) aA λd=>aB 1 d aA (aD d (B6 E (k:=n*3+1) (by show 0+n*3+0+1=_;omega) (by omega)) aA (aB 0 d aA (aD d (B6 E (k:=n*3) (by show 0+n*3+0+0=_;omega) (by omega)) aA (aF d aA λw3 x=>?_)))));rw[k1,k2];refine aP aA (Xgh R _ _ nx 0 pr w3 (x.bP a2) (x.bP a1) (x.bP E) (by omega) T) ?_;rintro _ w4 ⟨p,y,F,a4⟩;refine aN aA ?_;have hF:Lz (Lz f pr 1 nx) nx 0 pr=Ia f pr nx:=rfl;rw[hF] at y;obtain⟨G,K⟩:∃G,G=Nr (Nr g pr 1 nx) nx 0 pr:=⟨_,rfl⟩;rw[<-K] at p;have G2:G 2=(l1++n::l2).length:=by
  rw[K];unfold Nr;by_cases a:pr=-1 <;> by_cases b:nx=-1 <;> simp[a,b,X1,e2]
 have G0:G 0=Cd (l1++l2):=by
  rw[K];unfold Nr;by_cases a:pr=-1
  .have:l1=[]:=XjN (l▸a);subst this;by_cases b:nx=-1 <;> simp[a,b,X1] <;> rw[<-o] <;> simp[b]
  .have H:l1≠[]:=λe=>a (by rw[l,e];rfl);obtain⟨c,t,rfl⟩:=List.exists_cons_of_ne_nil H;have:g 0=c:=e0;by_cases b:nx=-1 <;> simp[a,b,X1,this] <;> rfl
 have G1:G 1=Bs (-1) (l1++l2):=by
  rw[K];unfold Nr;by_cases b:nx=-1
  .have:l2=[]:=Xjq (o▸b);subst this;rw[QD,<-l];by_cases a:pr=-1 <;> simp[a,b,X1]
  .have H:l2≠[]:=λe=>b (by rw[o,e];rfl);obtain⟨c,t,rfl⟩:=List.exists_cons_of_ne_nil H;have a5:g 1=Bs (-1) (l1++c::t):=by rw[e1,Xa1,Xa1];rfl
   rw[<-a5];by_cases a:pr=-1 <;> simp[a,b,X1]
 refine aW aA (B6 p (k:=2) rfl (by omega)) aA ?_;rw[G2];have P:=Fi y p (by decide);refine aV aA (aL aA p (Fp (i:=2) rfl (by omega)) aA λw5 a6 I an=>aO aA (aL aA (I.heap y P) (Fp (i:=n*3+2) (by show 0+n*3+2=_;omega) (by omega)) aA λw6 a7 a8 ao=>aL aA a7 (Pm (i:=n*3) (by show 0+n*3+0=_;omega) (by omega)) aA λw7 a9 aa ap=>?_));have q:=a8.trans aa;have J:∀j,j≠n*3+2->j≠n*3->j≠n*3+1->(X1 (X1 (X1 (Ia f pr nx) (n*3+2) (-1)) (n*3) (-1)) (n*3+1) (-1)) j=Ia f pr nx j:=λj a b c=>by rw[X2 _ _ c,X2 _ _ b,X2 _ _ a]
 exact Xa.ret1 Xb rfl func295 rfl rfl ⟨rfl,⟨q.heap (I.heap F (Fi F p (by decide))) (Fi F y (by decide)),by
  have:=s;rw[XR] at this⊢;exact⟨this.1,(XU.1 this.2.1).2,λa D b hb=>this.2.2 a D b (by simp[hb])⟩,λm hm=>h.lt m (by rcases XS.1 hm with h|h <;> simp[h]),_,_,q.heap a6 P.symm,a9,by rw[X2 _ _ (by decide)];exact G0,by rw[X2 _ _ (by decide)];exact G1,by rw[A2];simp;omega,Ua (λa D=>by
  have:a≠n:=λe=>N (e▸D);exact⟨(J _ (by omega) (by omega) (by omega)).symm,(J _ (by omega) (by omega) (by omega)).symm⟩) C,λm hm=>by
  by_cases e:m=n
  .subst e;rw[X2 _ _ (by omega),X2 _ _ (by omega),A2,bJ N]
  .rw[J _ (by omega) (by omega) (by omega),Oe (by rcases S with h|⟨k,h,_⟩;exact .inl h;exact .inr (by omega)) (by rcases T with h|⟨k,h,_⟩;exact .inl h;exact .inr (by omega)),W m hm];simp[e]⟩,(((u.gr.trans a3).trans (x.gr.trans a4)).trans (I.mono λz _ e=>.inl e)).trans (q.mono λz _ e=>.inr e)⟩
theorem Xhd(n:Nat)(t:Nat->Int)(ht:∀i,t i=0):Bb n t=List.replicate n (.int .i64 0):=by
 unfold Bb;rw[ZW (g:=λ_=>Value.int .i64 0) (λi _=>by rw[ht]),List.map_const',ZM]
theorem XcY(c:Nat):∀n,Y4 (List.replicate c (Value.int .i64 0)) n=List.replicate (n*c) (Value.int .i64 0)
 |0=>by rw[Nat.zero_mul];rfl
 |n+1=>by rw[Y4,XcY c n,List.replicate_append_replicate,Nat.succ_mul,Nat.add_comm]
def Kn:Nat->Nat->Int
 |0=>λ_=>0
 |k+1=>X1 (X1 (X1 (Kn k) (k*3) (-1)) (k*3+1) (-1)) (k*3+2) (-1)
theorem XeD:∀(k n:Nat),n<k->Kn k (n*3+2)=-1
 |k+1,n,h=>by
  show X1 (X1 (X1 (Kn k) (k*3) (-1)) (k*3+1) (-1)) (k*3+2) (-1) (n*3+2)=-1
  by_cases e:n=k
  .subst e;exact A2 ..
  .rw[X2 _ _ (by omega),X2 _ _ (by omega),X2 _ _ (by omega)];exact XeD k n (by omega)
def Ot:Nat->Nat->Int
 |0=>λ_=>0
 |k+1=>X1 (X1 (Ot k) (k*3) (-1)) (k*3+1) (-1)
theorem Xmt(w:dD):Xe prog 246 #[.int .i64 1024,.int .i64 1] w
 (λv w'=>∃R,v=.tuple #[Il R,.int .i64 0]/\(w.heap.size<=R.lb/\w.heap.size<=R.ab/\w.heap.size<=R.nb)/\Ec w' R []/\Xc Xf w w'):=by
 refine aR func246 ntmps246 aA (aS aA (aS aA (aS aA (aS aA ?_))));have F:∀{W:dD} {z:Nat},W.heap[z]?=some (.cells (Y4 (Yz (Value.agg #[Value.int .i64 0,Value.int .i64 0,Value.int .i64 0])) 1).toArray 357 (0,0))->Zk W z 357 3 (Ot 0):=λthis=>by
  rw[show Y4 (Yz (Value.agg #[Value.int .i64 0,Value.int .i64 0,Value.int .i64 0])) 1=_ from XcY 3 1] at this;unfold Zk;rw[Xhd 3 (Ot 0) (λ_=>rfl)];exact this
 have y:∀{W:dD} {z:Nat},W.heap[z]?=some (.cells (Y4 (Yz (Value.agg #[Value.int .i64 0,Value.int .i64 0,Value.int .i64 0])) 1024).toArray 359 (0,0))->Zk W z 359 3072 (Kn 0):=λthis=>by
  rw[show Y4 (Yz (Value.agg #[Value.int .i64 0,Value.int .i64 0,Value.int .i64 0])) 1024=_ from XcY 3 1024] at this;unfold Zk;rw[Xhd 3072 (Kn 0) (λ_=>rfl)];exact this
 apply Xa.cut (α:=Nat×Nat) (λx=>[(24,false,.slice (some ⟨x.1,0,none⟩) 1 1),(26,false,.slice (some ⟨x.2,0,none⟩) 1024 1024)]) (λx p=>Zk p x.1 357 3 (Ot 0)/\Zk p x.2 359 3072 (Kn 0)/\Xc Xf w p/\w.heap.size<=x.1/\w.heap.size<=x.2)
 .intro J;refine aQ 4 Xf (by kernel_rfl) aA λg=>?_;refine Xd.turn2 g rfl ?_ ?_
  .intro P j;refine Xo.make Xb g rfl (m:=1) (kk:=1) rfl rfl (XF _) (by decide) (by decide) (λ_=>rfl) λab Q e2 a q G=>Xd.cK g rfl λS c=>Xo.make Xb g rfl (m:=1024) (kk:=1024) rfl rfl (XF _) (by decide) (by decide) (λ_=>rfl) λnb T e4 b l H=>?_;have I:=j.size;have K:=c.size;exact aF g aA λp d=>J (ab,nb) _ _ ⟨F (((c.trans l).trans d).bP a),y ((d).bP b),(((j.trans q).trans c).trans l).trans d,by omega,by omega⟩ ⟨rfl,rfl,trivial⟩
  .intro P j;refine Xo.make Xb g rfl (m:=1024) (kk:=1024) rfl rfl (XF _) (by decide) (by decide) (λ_=>rfl) λnb Q e2 b q G=>Xd.cK g rfl λS c=>Xo.make Xb g rfl (m:=1) (kk:=1) rfl rfl (XF _) (by decide) (by decide) (λ_=>rfl) λab T e4 a l H=>?_;have I:=j.size;have K:=c.size;exact aF g aA λp d=>J (ab,nb) _ _ ⟨F ((d).bP a),y (((c.trans l).trans d).bP b),(((j.trans q).trans c).trans l).trans d,by omega,by omega⟩ ⟨rfl,rfl,trivial⟩
 .rintro⟨ab,nb⟩ p ⟨a,b,A,za,zb⟩;simp only at a b za zb
  have B:=Fi a b (by decide);have U:=Xg a;have V:=Xg b;have a0:=A.size;refine aO aA (bC aA λlb w6 e6 r s a6=>?_);refine bB r aA ?_;refine Xa.loop (α:=Nat) (λk=>[(6,false,.pointer (some ⟨lb,0,none⟩)),(33,false,.int .i64 1),(34,false,.int .i64 k)])
   (λk w'=>k<=1/\Zk w' ab 357 3 (Ot k)/\Xc (λz=>z=ab) w6 w') (λk=>1-k) 0 ⟨rfl,rfl,rfl,trivial⟩ ⟨XP _,s.bP a,Xc.refl _ _⟩ ?_
  rintro k w7 ⟨hk,L,n⟩ ih;refine aN aA (aT aA (λC=>?_) λC=>?_)
  .have t:k<1:=by have:=bL C;omega
   exact bB (n.heap r (by omega)) aA (aO aA (aU (k*3) aA (aL aA L (Pm (i:=k*3) (by show 0+k*3+0+0=_;omega) (by omega)) aA λw8 u f a7=>aV aA (ih (k+1) _ _ ⟨t,u,n.trans f⟩ (by omega) ⟨rfl,rfl,rfl,trivial⟩))))
  have M:k=1:=by have:=bM C;omega
  subst M;have o:=n.heap r (by omega);refine bB o aA ?_;refine Xa.loop (α:=Nat) (λk=>[(6,false,.pointer (some ⟨lb,0,none⟩)),(51,false,.int .i64 1024),(52,false,.int .i64 k)])
   (λk w'=>k<=1024/\Zk w' nb 359 3072 (Kn k)/\Xc (λz=>z=nb) w7 w') (λk=>1024-k) 0 ⟨rfl,rfl,rfl,trivial⟩ ⟨XP _,(n.heap (s.bP b) B.symm),Xc.refl _ _⟩ ?_
  rintro k w8 ⟨a8,u,f⟩ N;refine aN aA (aT aA (λD=>?_) λD=>?_)
  .have t:k<1024:=by have:=bL D;omega
   exact bB (f.heap o (by omega)) aA (aO aA (aO aA (aU (k*3) aA (aL aA u (XgA (i:=k*3) (by show 0+k*3=_;omega) (by omega)) aA λw9 h9 O a9=>aV aA (N (k+1) _ _ ⟨t,h9,f.trans O⟩ (by omega) ⟨rfl,rfl,rfl,trivial⟩)))))
  have E:k=1024:=by have:=bM D;omega
  subst E;exact bE func246 aA ⟨⟨lb,ab,nb⟩,rfl,⟨by show _<=lb;omega,by show _<=ab;omega,by show _<=nb;omega⟩,⟨f.heap o (by show ¬lb=nb;omega),YX,(λ_ h=>by cases h),Ot 1,Kn 1024,f.heap L B,u,rfl,rfl,rfl,trivial,λm hm=>by rw[XeD 1024 m hm];rfl⟩,(((A.trans s).sn n).sn f)⟩
abbrev PgL:=List (Nat×List Int)
structure Sm where
 cL:Int
 cF:Nat
 pg:PgL
 cG:List Nat
def Zf:PgL->Int->Option (List Int)
 |[],_=>none
 |(m,p)::r,n=>if (m:Int)=n then some p else Zf r n
def Zq(l:PgL)(n:Nat)(p:List Int):PgL:=l.map λe=>if e.1=n then (n,p) else e
def Qv(l:PgL)(n:Nat):PgL:=l.filter λe=>e.1 != n
def Y6:PgL->Nat
 |[]=>0
 |(_,p)::r=>Xu p+Y6 r
theorem Io:∀{l:PgL} {n:Int} {p:List Int},Zf l n=some p -> ∃m:Nat,n=m/\(m,p)∈l
 |(m,q)::r,n,p,h=>by
  unfold Zf at h;by_cases e:(m:Int)=n
  .rw[bK e] at h;cases h;exact⟨m,e.symm,by simp⟩
  .rw[bJ e] at h;obtain⟨m',e',hm⟩:=Io h;exact⟨m',e',by simp[hm]⟩
theorem Xb8:∀{l:PgL} {n:Int},Zf l n=none -> ∀e∈l,(e.1:Int)≠n
 |[],_,_,_,he=>by cases he
 |(m,q)::r,n,h,e,he=>by
  unfold Zf at h;by_cases hm:(m:Int)=n
  .rw[bK hm] at h;cases h
  .rw[bJ hm] at h;rcases ZB.1 he with rfl|he
   .exact hm
   .exact Xb8 h e he
theorem B8:∀{l:PgL} {m:Nat} {p:List Int},(l.map (·.1)).Nodup->(m,p)∈l->Zf l m=some p
 |(a,q)::r,m,p,b,hm=>by
  obtain⟨c,d⟩:=XU.1 b;unfold Zf;rcases ZB.1 hm with e|hm
  .cases e;rw[bK rfl]
  .have:a≠m:=λe=>c (XQ.2 ⟨(m,p),hm,e.symm⟩);rw[bJ (by omega)];exact B8 d hm
theorem Lu(l:PgL)(n:Nat)(p:List Int):(Zq l n p).map (·.1)=l.map (·.1):=by
 unfold Zq;rw[List.map_map];refine ZW λe _=>?_;show(if e.1=n then (n,p) else e).1=e.1
 split
 .rename_i h;exact h.symm
 .rfl
theorem Gy{l:PgL}(h:e∈Zq l n p):(e=(n,p)/\∃q,(n,q)∈l)\/(e.1≠n/\e∈l):=by
 unfold Zq at h;obtain⟨u,b,e1⟩:=XQ.1 h;by_cases a:u.1=n
 .rw[bK a] at e1;exact .inl ⟨e1.symm,u.2,by rw[<-a];exact b⟩
 .rw[bJ a] at e1;subst e1;exact .inr ⟨a,b⟩
theorem I6{l:PgL}:e∈Qv l n↔e.1≠n/\e∈l:=by
 unfold Qv;rw[QW];simp only[bne_iff_ne,ne_eq];exact And.comm
theorem XgM(l:PgL)(n:Nat):(Qv l n).map (·.1)=(l.map (·.1)).filter (λm=>m != n):=by
 unfold Qv;rw[List.filter_map];rfl
theorem Xnq:∀{l:PgL} {n:Nat} (p:List Int),n∉l.map (·.1)->Zq l n p=l:=λ{l n} p h=>by
 unfold Zq
 conv=>rhs;rw[<-List.map_id l]
 refine ZW λe a=>?_;rw[bJ (λb=>h (XQ.2 ⟨e,a,b⟩))];rfl
theorem Xnl{l:PgL}(h:n∉l.map (·.1)):Qv l n=l:=by
 unfold Qv;refine YM.2 λe a=>?_;simp only[bne_iff_ne,ne_eq];exact λb=>h (XQ.2 ⟨e,a,b⟩)
theorem Po:∀{l:PgL} {n:Nat} {p q:List Int},(l.map (·.1)).Nodup->(n,q)∈l->Y6 (Zq l n p)+Xu q=Y6 l+Xu p
 |(a,r)::t,n,p,q,d,hm=>by
  obtain⟨b,f⟩:=XU.1 d;rcases ZB.1 hm with e|hm
  .have e1:=(Prod.mk.inj e).1;have e2:=(Prod.mk.inj e).2;subst e1;subst e2;have:Zq ((n,q)::t) n p=(n,p)::t:=by
    show(if n=n then (n,p) else (n,q))::Zq t n p=_
    rw[bK rfl,Xnq p b]
   rw[this];simp only[Y6];omega
  .have c:a≠n:=λe=>b (e▸XQ.2 ⟨(n,q),hm,rfl⟩);have:Zq ((a,r)::t) n p=(a,r)::Zq t n p:=by
    show(if a=n then (n,p) else (a,r))::Zq t n p=_
    rw[bJ c]
   rw[this];have ih:=Po (p:=p) f hm;simp only[Y6];omega
theorem Vn:∀{l:PgL} {n:Nat} {q:List Int},(l.map (·.1)).Nodup->(n,q)∈l->Y6 (Qv l n)+Xu q=Y6 l/\(Qv l n).length+1=l.length
 |(a,r)::t,n,q,d,hm=>by
  obtain⟨b,f⟩:=XU.1 d;rcases ZB.1 hm with e|hm
  .have e1:=(Prod.mk.inj e).1;have e2:=(Prod.mk.inj e).2;subst e1;subst e2;have:Qv ((n,q)::t) n=t:=by
    unfold Qv;rw[ZJ];simp only[bne_self_eq_false,ZS,if_false];exact Xnl b
   rw[this];exact⟨Nat.add_comm _ _,rfl⟩
  .have c:a≠n:=λe=>b (e▸XQ.2 ⟨(n,q),hm,rfl⟩);have:Qv ((a,r)::t) n=(a,r)::Qv t n:=by
    unfold Qv;rw[ZJ];simp[c]
   rw[this];obtain⟨g,h⟩:=Vn f hm;simp only[Y6,XN];omega
theorem Xcb:∀(l:PgL) (n:Nat) (p:List Int),Y6 (l++[(n,p)])=Y6 l+Xu p
 |[],n,p=>by simp[Y6]
 |(a,r)::t,n,p=>by
  have:=Xcb t n p;show Xu r+Y6 (t++[(n,p)])=Xu r+Y6 t+Xu p
  omega
theorem XgQ:∀{l:PgL} {b:Nat},(∀e∈l,e.2.length=b)->Y6 l<=l.length*b
 |[],b,_=>by simp[Y6]
 |(a,r)::t,b,h=>by
  have ih:=XgQ (l:=t) (b:=b) (λe c=>h e (by simp[c]));have d:=Mz r;have f:r.length=b:=h (a,r) (by simp);simp only[Y6,XN,Nat.succ_mul];omega
structure Sm.Ok(x:Sm):Prop where
 nodup:(x.pg.map (·.1)).Nodup
 cL:0<=x.cL
 blk:1<=x.cF/\x.cF<=512
 cI:∀e∈x.pg,e.1<1024/\e.2.length=x.cF/\(e.1∈x.cG↔Xu e.2≠x.cF)
 onodup:x.cG.Nodup
 osub:∀n∈x.cG,∃p,(n,p)∈x.pg
def Sm.Pos(x:Sm):Prop:=∀e∈x.pg,0<Xu e.2
def Sm.Of(x:Sm)(pl:PlM):Prop:=∀e∈x.pg,e.1<pl.own.length/\pl.own.getD e.1 0=x.cL
def Sm.fresh(x:Sm)(n:Nat):Sm:={x with pg:=x.pg++[(n,List.replicate x.cF (-1))],cG:=n::x.cG}
def Sm.takeAt(x:Sm)(n:Nat)(p:List Int)(who:Int):Sm:=
 {x with pg:=Zq x.pg n (Qe p who),cG:=if Xu (Qe p who)=x.cF then x.cG.filter (λm=>m != n) else x.cG}
def Sm.giveAt(x:Sm)(n:Nat)(p:List Int)(i:Int):Sm:=
 let o:=if Xu p=x.cF then n::x.cG else x.cG
 if Xu (Yj p i)=0 then {x with pg:=Qv x.pg n,cG:=o.filter (λm=>m != n)} else {x with pg:=Zq x.pg n (Yj p i),cG:=o}
def Sm.ownAt(x:Sm)(n:Nat)(p:List Int)(i who:Int):Sm:={x with pg:=Zq x.pg n (Bw p i who)}
theorem Uq:Yf p<0↔Xu p=p.length:=by
 have:=Xa6 (x:=Y1 p);rw[Fk] at this;exact this
theorem Ut(p:List Int)(who:Int):(Qe p who).length=p.length:=by
 unfold Qe;split <;> simp
theorem Xfw(p:List Int)(i:Int):(Yj p i).length=p.length:=by
 unfold Yj;split <;> simp
theorem Xfy(p:List Int)(i who:Int):(Bw p i who).length=p.length:=by
 unfold Bw;split <;> simp
theorem On{x:List Int}(h:i<x.length):x.getD i 0=x.getD i (-1):=by
 rw[XA,XA,XD h];rfl
theorem My(hw:0<=who)(h:Xu p≠p.length):Dt p who=0/\Xu (Qe p who)=Xu p+1:=by
 have a:¬Yf p<0:=λe=>h (Uq.1 e);have e:Dt p who=0:=by unfold Dt;rw[bJ (by omega),bJ a]
 obtain⟨b,c⟩:=Uv a;refine⟨e,?_⟩;unfold Qe;rw[bK e];have:=Ii (v:=who) b;rw[bK (by rw[On b];exact c),bJ (by omega)] at this;omega
theorem Xfx{i:Int}(h:Q0 p i=0):Xu (Yj p i)+1=Xu p:=by
 unfold Yj;rw[bK h];unfold Q0 at h;split at h
 .cases h
 .rename_i hr
  split at h
  .cases h
  .rename_i a
   have b:i.toNat<p.length:=by omega
   have:=Ii (v:=-1) b;unfold Ya at a;rw[bK (by omega)] at a;rw[bJ (by rw[On b];exact a),bK rfl] at this;omega
theorem Us{i:Int}:Xu (Bw p i who)=Xu p:=by
 unfold Bw;split
 .rename_i h
  unfold Ao at h;split at h
  .cases h
  .rename_i hr
   split at h
   .cases h
   .rename_i a
    have b:i.toNat<p.length:=by omega
    have:=Ii (v:=who) b;unfold Ya at a;rw[bK (by omega)] at a;rw[bJ (by rw[On b];exact a),bJ (by omega)] at this;omega
 .rfl
theorem Rs{l:List Nat}:m∈l.filter (λk=>k != n)↔m≠n/\m∈l:=by
 rw[QW];simp only[bne_iff_ne,ne_eq];exact And.comm
theorem Sm.Ok.fresh{x:Sm}(h:x.Ok){n:Nat}(hn:n<1024)(hno:n∉x.pg.map (·.1)):(x.fresh n).Ok:=by
 have f:=h.blk;have g:n∉x.cG:=λhm=>by obtain⟨p,d⟩:=h.osub n hm;exact hno (XQ.2 ⟨_,d,rfl⟩)
 refine⟨?_,h.cL,h.blk,λe he=>?_,XU.2 ⟨g,h.onodup⟩,λm hm=>?_⟩
 .show((x.pg++[(n,List.replicate x.cF (-1))]).map Prod.fst).Nodup
  rw[XL];refine XR.2 ⟨h.nodup,by simp,λa i b f e=>?_⟩;have:b=n:=by simpa using f
  exact hno (this▸e▸i)
 .rcases XS.1 he with he|he
  .obtain⟨a,b,c⟩:=h.cI e he;have:e.1≠n:=λe'=>hno (XQ.2 ⟨e,he,e'⟩);exact⟨a,b,by show e.1∈n::x.cG↔_;rw[ZB];simp only[this,false_or];exact c⟩
  .have:e=(n,List.replicate x.cF (-1)):=by simpa using he
   subst this;refine⟨hn,by simp[Sm.fresh],?_⟩;show n∈n::x.cG↔Xu (List.replicate x.cF (-1))≠x.cF
   rw[Ih];constructor
   .intro _;omega
   .intro _;simp
 .rcases ZB.1 hm with rfl|hm
  .exact⟨List.replicate x.cF (-1),YY _ (by simp)⟩
  .obtain⟨p,d⟩:=h.osub m hm;exact⟨p,QQ _ d⟩
theorem Sm.Ok.takeAt{x:Sm}(h:x.Ok)(hw:0<=who)(hp:(n,p)∈x.pg)(ho:n∈x.cG):(x.takeAt n p who).Ok:=by
 obtain⟨g,i,o⟩:=h.cI _ hp;simp only at g i o
 refine⟨by show((Zq _ _ _).map _).Nodup;rw[Lu];exact h.nodup,h.cL,h.blk,λe f=>?_,?_,λm hm=>?_⟩
 .rcases Gy f with⟨rfl,_⟩|⟨j,f⟩
  .refine⟨g,by rw[Ut];exact i,?_⟩;show n∈(if _ then _ else _)↔_
   by_cases hf:Xu (Qe p who)=x.cF
   .rw[bK hf,Rs];exact⟨λh=>absurd rfl h.1,λh=>absurd hf h⟩
   .rw[bJ hf];exact⟨λ_=>hf,λ_=>ho⟩
  .obtain⟨a,b,c⟩:=h.cI e f;refine⟨a,b,?_⟩;show e.1∈(if _ then _ else _)↔_
   split
   .rw[Rs];simp only[ne_eq,j,not_false_eq_true,true_and];exact c
   .exact c
 .show(if _ then _ else _:List Nat).Nodup
  split
  .exact h.onodup.filter _
  .exact h.onodup
 .have k:m∈x.cG:=by
   have d:m∈(if _ then _ else _:List Nat):=hm;split at d
   .exact(Rs.1 d).2
   .exact d
  obtain⟨q,l⟩:=h.osub m k;by_cases e:m=n
  .subst e;exact⟨_,XQ.2 ⟨(m,q),l,bK rfl⟩⟩
  .exact⟨q,XQ.2 ⟨(m,q),l,bJ e⟩⟩
theorem Sm.Ok.giveAt{x:Sm}(h:x.Ok){n:Nat}{p:List Int}{i:Int}(hp:(n,p)∈x.pg)(hi:Q0 p i=0):(x.giveAt n p i).Ok:=by
 obtain⟨o,r,k⟩:=h.cI _ hp;simp only at o r k
 have y:=Xfx hi;have w:=Mz p;have s:n∈(if Xu p=x.cF then n::x.cG else x.cG):=by
  split
  .simp
  .rename_i hf;exact k.2 hf
 have j:(if Xu p=x.cF then n::x.cG else x.cG).Nodup:=by
  split
  .rename_i hf;exact XU.2 ⟨λhm=>(k.1 hm) hf,h.onodup⟩
  .exact h.onodup
 have d:∀m,m≠n->(m∈(if Xu p=x.cF then n::x.cG else x.cG)↔m∈x.cG):=λm hm=>by
  split
  .rw[ZB];simp[hm]
  .rfl
 unfold Sm.giveAt;simp only
 by_cases t:Xu (Yj p i)=0
 .rw[bK t];refine⟨by show((Qv _ _).map _).Nodup;rw[XgM];exact h.nodup.filter _,h.cL,h.blk,λe f=>?_,j.filter _,λm hm=>?_⟩
  .obtain⟨g,f⟩:=I6.1 f;obtain⟨a,b,c⟩:=h.cI e f;exact⟨a,b,by show e.1∈List.filter _ _↔_;rw[Rs,d _ g];simp only[ne_eq,g,not_false_eq_true,true_and];exact c⟩
  .obtain⟨u,v⟩:=Rs.1 hm;obtain⟨q,l⟩:=h.osub m ((d m u).1 v);exact⟨q,I6.2 ⟨u,l⟩⟩
 .rw[bJ t];refine⟨by show((Zq _ _ _).map _).Nodup;rw[Lu];exact h.nodup,h.cL,h.blk,λe f=>?_,j,λm hm=>?_⟩
  .rcases Gy f with⟨rfl,_⟩|⟨g,f⟩
   .refine⟨o,by rw[Xfw];exact r,⟨λ_=>?_,λ_=>s⟩⟩;show Xu (Yj p i)≠x.cF
    omega
   .obtain⟨a,b,c⟩:=h.cI e f;exact⟨a,b,(d _ g).trans c⟩
  .by_cases e:m=n
   .subst e;exact⟨_,XQ.2 ⟨(m,p),hp,bK rfl⟩⟩
   .obtain⟨q,l⟩:=h.osub m ((d m e).1 hm);exact⟨q,XQ.2 ⟨(m,q),l,bJ e⟩⟩
theorem Sm.Ok.ownAt{x:Sm}(h:x.Ok){i:Int}(hp:(n,p)∈x.pg):(x.ownAt n p i who).Ok:=by
 obtain⟨c,d,f⟩:=h.cI _ hp;refine⟨by show((Zq _ _ _).map _).Nodup;rw[Lu];exact h.nodup,h.cL,h.blk,λe a=>?_,h.onodup,λm hm=>?_⟩
 .rcases Gy a with⟨rfl,_⟩|⟨g,a⟩
  .exact⟨c,by rw[Xfy];exact d,by show _↔Xu (Bw p i who)≠_;rw[Us];exact f⟩
  .exact h.cI e a
 .obtain⟨q,b⟩:=h.osub m hm;by_cases e:m=n
  .subst e;exact⟨_,XQ.2 ⟨(m,q),b,bK rfl⟩⟩
  .exact⟨q,XQ.2 ⟨(m,q),b,bJ e⟩⟩
end Go.Proofs.YtdeihcnepljjaaaGreatDoor
