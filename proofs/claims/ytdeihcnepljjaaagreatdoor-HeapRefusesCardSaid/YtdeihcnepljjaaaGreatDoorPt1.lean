/-
  Texts put together: Tz, Idx, Bits, Bits2, Bits3, Page, Page2, Ints, Pool, Pool2, Ring, Ring2, Ring3, Ring4, Shm.
-/
import Derived.Test.YtdeihcnepljjaaaGreatDoorQAbb
import Derived.Test.YtdeihcnepljjaaaGreatDoorQRule10
import Derived.Test.YtdeihcnepljjaaaGreatDoorQPost
import Derived.Test.YtdeihcnepljjaaaGreatDoorQRule12
import Derived.Test.YtdeihcnepljjaaaGreatDoorQRule25
set_option linter.unusedVariables false
set_option maxRecDepth 100000
namespace Go.Proofs.YtdeihcnepljjaaaGreatDoor
open Go.RowKit
open Go renaming World→dD,Value→dE
open Bool renaming and_eq_true->XK,false_eq_true->ZR,eq_iff_iff->QV
open Int renaming toNat_natCast->XB,eq_ofNat_of_zero_le->XE
open List renaming getD_eq_getElem?_getD->XA,getElem?_eq_some_iff->XC,getElem?_eq_getElem->XD,length_set->XG,length_replicate->XI,map_append->XL,getElem_mem->XM,getElem?_map->XN,length_cons->XO,mem_map->XP,nodup_append->XR,mem_append->XS,nodup_cons->XU,getElem?_append_left->XZ,mem_cons->ZB,getElem?_replicate->ZE,getElem?_eq_none->ZF,filter_cons->ZI,length_range->ZM,mem_cons_self->ZP,map_congr_left->ZW,getElem?_set->ZX,map_set->ZZ,mem_cons_of_mem->YC,replicate_succ->YF,set_append_left->YK,filter_eq_self->YN,findIdx?_eq_some_iff_getElem->YO,getElem_map->YU,getElem?_take->YV,getElem?_toArray->YW,nodup_nil->YX,mem_append_right->YY,range_succ->QB,ext_getElem?->QD,append_nil->QP,mem_append_left->QR,any_eq_true->QS,getD->QW,mem_filter->QX
open Nat renaming le_refl->XF,zero_le->XQ,zero_add->XT,mul_one->ZQ,add_assoc->YR,div_add_mod->QA,mod_lt->QJ
open Go.Proofs.Tryz (func161 func186 func193 func228 func240 func242 func243 func244 func245 func246 func276 func283 func285 func286 func287 func288 func289 func290 func291 func293 func294 func295 func296 func308 func309 func310 func311 func312 func313 func314 func315 func316 func317 func318 func322 func323 func324 ntmps161 ntmps186 ntmps193 ntmps228 ntmps240 ntmps242 ntmps243 ntmps244 ntmps245 ntmps246 ntmps276 ntmps283 ntmps285 ntmps286 ntmps287 ntmps288 ntmps289 ntmps290 ntmps291 ntmps293 ntmps294 ntmps295 ntmps296 ntmps308 ntmps309 ntmps310 ntmps311 ntmps312 ntmps313 ntmps314 ntmps315 ntmps316 ntmps317 ntmps318 ntmps322 ntmps323 ntmps324 prog)
variable {ahead by' cS h cH size cN u who z:Int}{lg:List (Nat×List Nat)}{bs l p zs:List Int}{l2 ws:List Nat}{cs rest xs:List dE}{N at' b base cap d fuel g i j k lm lo m n o qb sz t tm ty vb xb y:Nat}{fz:Nat×Nat}{f:Nat->Int}{B C F F' Fr Q S S' T X:Nat->Prop}{a:Option Addr}{α:Type}{v:dE}{w w' w'' w0 w1 w2:dD}{cells:α->List dE}
theorem Vu{x:Nat}(h:x<2^64):(BitVec.ofInt 64 (x:Int)).toNat=x:=by
 rw[BitVec.toNat_ofInt];omega
theorem XcX{x:Nat}(h:x<2^64):IntKind.u64.wrap (x:Int)=x:=by
 simp only[IntKind.wrap,IntKind.signed,IntKind.bits]
 simp
 omega
theorem Xdt{x:Nat}(hx:x<2^64)(hy:y<2^64):K8 .and .u64 x y=((x &&& y:Nat):Int):=by
 have h:(BitVec.ofInt 64 (x:Int) &&& BitVec.ofInt 64 (y:Int)).toNat=x &&& y:=by rw[BitVec.toNat_and,Vu hx,Vu hy]
 show IntKind.u64.wrap ((BitVec.ofInt 64 (x:Int) &&& BitVec.ofInt 64 (y:Int)).toNat:Int)=_
 rw[h,XcX (Nat.and_lt_two_pow x hy)]
theorem Xal{x:Nat}(hx:x<2^64)(hy:y<2^64):K8 .xor .u64 x y=((x ^^^ y:Nat):Int):=by
 have h:(BitVec.ofInt 64 (x:Int) ^^^ BitVec.ofInt 64 (y:Int)).toNat=x ^^^ y:=by rw[BitVec.toNat_xor,Vu hx,Vu hy]
 show IntKind.u64.wrap ((BitVec.ofInt 64 (x:Int) ^^^ BitVec.ofInt 64 (y:Int)).toNat:Int)=_
 rw[h,XcX (Nat.xor_lt_two_pow hx hy)]
def Mf(x:Nat):Nat:=(2^64-1) ^^^ x
theorem XdZ{x:Nat}(h:x<2^64):Mf x<2^64:=Nat.xor_lt_two_pow (by decide) h
theorem XaG{x:Nat}(hj:j<64):(Mf x).testBit j=!x.testBit j:=by
 unfold Mf;rw[Nat.testBit_xor,Nat.testBit_two_pow_sub_one];simp[hj]
theorem XnT{x:Nat}(h:x<2^64):Lz .xor .u64 x=some ((Mf x:Nat):Int):=by
 unfold Lz Mf;rw[<-Xal (by decide) h];rfl
theorem XnU{x:Nat}(h:x<2^64)(h0:0<x):Lz .neg .u64 x=some ((2^64-x:Nat):Int):=by
 unfold Lz
 congr 1
 simp only[IntKind.wrap,IntKind.signed,IntKind.bits]
 simp
 omega
theorem Xgx(h:j<64):Kx true .u64 1 j=((2^j:Nat):Int):=by
 unfold Kx;rw[bK rfl,show min (j:Int).toNat (IntKind.bits .u64)=j from Nat.min_eq_left (by simp only[IntKind.bits];omega)];rw[show(1:Int)*2^j=((2^j:Nat):Int) from by simp];exact XcX (Nat.pow_lt_pow_right (by decide) h)
theorem Ky{x:Nat}(h:j<64):Kx false .u64 x j=((x/2^j:Nat):Int):=by
 unfold Kx;rw[bJ (by simp),show min (j:Int).toNat (IntKind.bits .u64)=j from Nat.min_eq_left (by simp only[IntKind.bits];omega)];rw[Int.fdiv_eq_ediv_of_nonneg _ (Int.le_of_lt (Int.pow_pos (by decide)))]
 simp
theorem Xh5{x:Nat}:x &&& 1=x%2:=Nat.and_one_is_mod x
theorem Xim{x:Nat}:(((x/2^j%2:Nat):Int) == 1)=x.testBit j:=by
 rw[Nat.testBit_eq_decide_div_mod_eq,QV,beq_iff_eq,decide_eq_true_eq];omega
theorem Xh4{x:Nat}(hx:x<2^64)(ht:t<64)(h1:x.testBit t=true)(h0:∀j,j<t->x.testBit j=false):x &&& (2^64-x)=2^t:=by
 have l:x%2^t=0:=by
  apply Nat.eq_of_testBit_eq
  intro i;rw[Nat.testBit_mod_two_pow,Nat.zero_testBit];by_cases a:i<t
  .rw[h0 i a];simp
  .simp[a]
 have d:x/2^t%2=1:=by
  rw[Nat.testBit_eq_decide_div_mod_eq] at h1;exact bL h1
 obtain⟨m,hm⟩:∃m,m=x/2^t:=⟨_,rfl⟩;have b:x=2^t*m:=by have:=QA x (2^t);rw[l,<-hm] at this;omega
 rw[<-hm] at d;obtain⟨q,g⟩:∃q,m=2*q+1:=⟨m/2,by omega⟩;have c:x-1=2^t*(2*q)+(2^t-1):=by
  rw[b,g,Nat.mul_add,ZQ];omega
 have k:x=(x-1)+1:=by
  have:0<x:=by rw[b,g];exact Nat.mul_pos (Nat.pow_pos (by decide)) (by omega)
  omega
 apply Nat.eq_of_testBit_eq
 intro j;rw[Nat.testBit_and,Nat.testBit_two_pow];have f:(2^64-x).testBit j=(decide (j<64) && !(x-1).testBit j):=by
  rw[k];exact Nat.testBit_two_pow_sub_succ (by omega) j
 rw[f];rcases Nat.lt_trichotomy j t with h|h|h
 .rw[h0 j h];simp;omega
 .subst h;rw[h1,c,Nat.testBit_two_pow_mul_add _ (by omega)];simp[ht]
 .obtain⟨i,a⟩:∃i,j-t=i+1:=⟨j-t-1,by omega⟩;have e1:x.testBit j=m.testBit (i+1):=by
   rw[b,Nat.testBit_two_pow_mul];rw[a]
   simp
   omega
  have e2:(x-1).testBit j=(2*q).testBit (i+1):=by
   rw[c,Nat.testBit_two_pow_mul_add _ (by omega),bJ (by omega),a]
  rw[e1,e2,Nat.testBit_add_one,Nat.testBit_add_one,show m/2=q from by omega,show 2*q/2=q from by omega];have:(decide (t=j))=false:=bO (by omega);rw[this];cases q.testBit i <;> simp
def Kj:List Nat:=[0,1,56,2,57,49,28,3,61,58,42,50,38,29,17,4,62,47,59,36,45,43,51,22,53,39,33,30,24,18,12,5,63,55,48,27,60,41,37,16,46,35,44,21,52,32,23,11,54,26,40,15,34,20,31,10,25,14,19,9,13,8,7,6]
theorem XiO:∀t,t<64->Kj[(2^t*285870213051353865)%2^64/2^58]?=some t:=by decide+kernel
def Ff(x n:Nat):Prop:=x<2^n/\(0<n->2^(n-1)<=x)
theorem Ff.zero:Ff 0 0:=⟨by decide,λh=>by omega⟩
theorem Ff.shift{x:Nat}(h:Ff (x/2^k) m)(hm:0<m):Ff x (m+k):=by
 obtain⟨b,c⟩:=h;have a:0<2^k:=Nat.pow_pos (by decide);refine⟨?_,λ_=>?_⟩
 .rw[Nat.pow_add];exact(Nat.div_lt_iff_lt_mul a).1 b
 .rw[show m+k-1=(m-1)+k from by omega,Nat.pow_add];exact(Nat.le_div_iff_mul_le a).1 (c hm)
theorem Ff.pos{x:Nat}(h:Ff x n)(hx:0<x):0<n:=by
 rcases Nat.eq_zero_or_pos n with h0|h0
 .subst h0;have:=h.1;simp at this;omega
 .exact h0
theorem Ff.top{x:Nat}(h:Ff x n)(hn:0<n):x.testBit (n-1)=true/\∀j,n<=j->x.testBit j=false:=by
 refine⟨?_,λj a=>Nat.testBit_lt_two_pow (Nat.lt_of_lt_of_le h.1 (Nat.pow_le_pow_right (by decide) a))⟩;apply Nat.testBit_of_two_pow_le_and_two_pow_add_one_gt (h.2 hn)
 rw[show n-1+1=n from by omega];exact h.1
theorem Ff.le{x:Nat}(h:Ff x n)(hx:x<2^k):n<=k:=by
 rcases Nat.lt_or_ge k n with hk|hk
 .have a:=h.2 (by omega);have b:2^k<=2^(n-1):=Nat.pow_le_pow_right (by decide) (by omega);omega
 .exact hk
def Ih(x:Nat):Nat:=if x=0 then 0 else Nat.log2 x+1
theorem Fo{x:Nat}(h:x<256):Ff x (Ih x):=by
 unfold Ih;by_cases a:x=0
 .subst a;rw[bK rfl];exact Ff.zero
 .rw[bJ a];exact⟨Nat.lt_log2_self,λ_=>Nat.log2_self_le a⟩
def idx{α:Type}(p:α->Bool)(l:List α):Int:=match l.findIdx? p with|some i=>i|none=>-1
theorem Jy{p:α->Bool}{l:List α}(hk:k<l.length)(hpre:∀j (h:j<l.length),j<k->p l[j]=false)(h:p l[k]=true):idx p l=k:=by
 unfold idx;have:l.findIdx? p=some k:=by
  rw[YO];exact⟨hk,h,λj a=>by simpa using hpre j (by omega) a⟩
 rw[this]
theorem I5{p:α->Bool}{l:List α}(hpre:∀j (h:j<l.length),p l[j]=false):idx p l=-1:=by
 unfold idx;have:l.findIdx? p=none:=by
  rw[List.findIdx?_eq_none_iff];intro x a;obtain⟨j,b,rfl⟩:=List.mem_iff_getElem.1 a;exact hpre j b
 rw[this]
theorem XaX{p:α->Bool}{l:List α}:(0<=idx p l)↔l.any p=true:=by
 unfold idx;cases h:l.findIdx? p with
 |none=>
  rw[List.findIdx?_eq_none_iff] at h;simp only[QS];constructor
  .intro d;omega
  .rintro⟨x,b,a⟩;rw[h x b] at a;cases a
 |some i=>
  rw[YO] at h;obtain⟨c,a,_⟩:=h;simp only[QS];exact⟨λ_=>⟨_,XM c,a⟩,λ_=>by omega⟩
theorem I1(h:k<zs.length):zs.getD k 0=zs[k]:=by simp[h]
def Sc{α:Type}(p:α->Bool)(l:List α):Int:=match l.reverse.findIdx? p with|some i=>(l.length:Int)-1-i|none=>-1
theorem XbY{p:α->Bool}{l:List α}(hk:k<l.length)(hpost:∀j (h:j<l.length),k<j->p l[j]=false)(h:p l[k]=true):Sc p l=k:=by
 unfold Sc;have:l.reverse.findIdx? p=some (l.length-1-k):=by
  rw[YO];refine⟨by simp;omega,?_,λj a=>?_⟩
  .rw[List.getElem_reverse];simp only[show l.length-1-(l.length-1-k)=k from by omega];exact h
  .rw[List.getElem_reverse];simpa using hpost _ (by omega) (by omega)
 rw[this];simp only
 omega
theorem Xf7{p:α->Bool}{l:List α}(hall:∀j (h:j<l.length),p l[j]=false):Sc p l=-1:=by
 unfold Sc;have:l.reverse.findIdx? p=none:=by
  rw[List.findIdx?_eq_none_iff];intro x a;rw[List.mem_reverse] at a;obtain⟨j,b,rfl⟩:=List.mem_iff_getElem.1 a;exact hall j b
 rw[this]
def Dd(w:dD)(a:Option Addr)(bs:List Bool):Prop:=∀i (h:i<bs.length),∃b off,a=some ⟨b,off,none⟩/\w.cell? ⟨b,off+i,none⟩=some (.bool bs[i])
theorem Dd.of{c:Array dE}{t:TypeId}{bs:List Bool}(h:w.heap[b]?=some (.cells c t fz))(hc:c=(bs.map Value.bool).toArray):Dd w (some ⟨b,0,none⟩) bs:=λi a=>
 ⟨b,0,rfl,by rw[Ys h,hc];simp[a]⟩
theorem Dd.bR{bs:List Bool}(h:Dd w a bs)(hc:Xc Xe w w'):Dd w' a bs:=λi d=>by
 obtain⟨b,off,e,c⟩:=h i d;exact⟨b,off,e,Mc hc.below c⟩
theorem Dd.of_take{cur:Array dE}{bs:List Bool}(h:w.heap[g]?=some (.cells cur t fz))(hc:cur.toList.take bs.length=bs.map Value.bool):Dd w (some ⟨g,0,none⟩) bs:=λi a=>by
 refine⟨g,0,rfl,?_⟩;have b:(cur.toList.take bs.length)[i]?=(bs.map Value.bool)[i]?:=by rw[hc]
 rw[YV,bK a] at b;rw[Ys h];simp only[XT];rw[<-Array.getElem?_toList,b];simp[a]
def Bi(w:dD):Prop:=∀j,j<64->w.cell? ⟨1,j,none⟩=some (.int .u8 (Kj.getD j 0:Nat))
theorem Bi.bR(h:Bi w)(hc:Xc S w w')(hs:¬S 1):Bi w':=λj a=>hc.cell (h j a) hs
theorem Bi.bQ(h:Bi w)(hc:Xc Xe w w'):Bi w':=h.bR hc id
theorem Xiq(x t:Nat)(w:dD)(hT0:Bi w)(hx:x<2^64)(ht:t<64)(h1:x.testBit t=true)(h0:∀j,j<t->x.testBit j=false):Xf prog 324 #[.int .u64 x] w (X5 (.int .i64 t) w):=by
 have f:0<x:=by
  rcases Nat.eq_zero_or_pos x with h|h
  .subst h;simp at h1
  .exact h
 refine aR func324 ntmps324 aA (aI aA (by simp;omega) (Xa.un Xb rfl (XnU hx f) rfl (Xa.bits Xb rfl (Xdt hx (by omega)) rfl ?_)));rw[Xh4 hx ht h1 h0];have b:=XiO t ht;obtain⟨j,c⟩:∃j,j=(2^t*285870213051353865)%2^64/2^58:=⟨_,rfl⟩;rw[<-c] at b;have d:j<64:=by rw[c];exact(Nat.div_lt_iff_lt_mul (by decide)).2 (Nat.lt_of_lt_of_le (QJ _ (by decide)) (by decide))
 refine Xa.arith Xb rfl (show IntKind.u64.wrap (((2^t:Nat):Int)*285870213051353865)=(((2^t*285870213051353865)%2^64:Nat):Int) from by simp only[IntKind.wrap,IntKind.signed,IntKind.bits];simp) rfl (Xa.shift Xb rfl (by omega) (show Kx false .u64 (((2^t*285870213051353865)%2^64:Nat):Int) 58=(((2^t*285870213051353865)%2^64/2^58:Nat):Int) from Ky (j:=58) (by decide)) rfl ?_);rw[<-c];have a:w.cell? ⟨1,0+j,none⟩=some (.int .u8 (t:Int)):=by rw[XT,hT0 j d,XA,b];rfl
 exact aU j aA (aW aA a aA (aV aA (bE func324 aA ⟨rfl,rfl⟩)))
theorem Xir(w:dD):Xf prog 324 #[.int .u64 0] w (X5 (.int .i64 64) w):=by
 exact aR func324 ntmps324 aA (bI aA (bE func324 aA ⟨rfl,rfl⟩))
theorem L1:IntKind.u8.wrap z=z%256:=by
 simp only[IntKind.wrap,IntKind.signed,IntKind.bits]
 simp
theorem Ld{b:ByteArray}(h:∀z:Fin 256,(b[z.val]?).map (λx=>(x.toNat:Int))=some ((Ih z.val:Nat):Int))(hy:y<256):(b[((y:Nat):Int).toNat]?).map (λx=>(x.toNat:Int))=some ((Ih y:Nat):Int):=by
 rw[XB];exact h ⟨y,hy⟩
def Gu(x y c:Nat):Prop:=∀m,Ff y m->Ff x (m+c)
theorem Gu.step{x c:Nat}(h:Gu x y c)(hy:2^k<=y):Gu x (y/2^k) (k+c):=λm hm=>by
 have:=h _ (hm.shift (hm.pos (Nat.div_pos hy (Nat.pow_pos (by decide)))))
 rwa [YR] at this
theorem Gu.self(x:Nat):Gu x x 0:=λm hm=>hm
theorem Xio(x:Nat)(w:dD)(hx:x<2^64):Xf prog 323 #[.int .u64 x] w (λv w'=>∃n,Ff x n/\v=.int .i64 n/\w=w'):=by
 refine aR func323 ntmps323 aA (aT aA (λi=>?_) λi=>?_)
 .have h:4294967296<=x:=by have:=bL i;omega
  refine Xa.shift Xb rfl (by omega) (Ky (x:=x) (j:=32) (by decide)) rfl ?_;have m:x/2^32<4294967296:=by omega
  refine aT aA (λc=>?_) λc=>?_
  .have f:65536<=x/2^32:=by have:=bL c;omega
   have l:(x/2^32)/2^16<65536:=by omega
   refine Xa.shift Xb rfl (by omega) (Ky (x:=x/2^32) (j:=16) (by decide)) rfl (aV aA (aT aA (λb=>?_) λb=>?_))
   .have g:256<=(x/2^32)/2^16:=by have:=bL b;omega
    have a:((x/2^32)/2^16)/2^8<256:=by omega
    have d:=(Fo a).le (k:=8) a;exact Xa.shift Xb rfl (by omega) (Ky (x:=(x/2^32)/2^16) (j:=8) (by decide)) rfl (aV aA (Xa.arith Xb rfl (show IntKind.u8.wrap ((((x/2^32)/2^16)/2^8:Nat):Int)=((((x/2^32)/2^16)/2^8:Nat):Int) from by rw[L1];omega) rfl (Xa.sidx Xb rfl (by omega) (Ld (by decide+kernel) a) rfl (aV aA (aV aA (bE func323 aA ⟨Ih (((x/2^32)/2^16)/2^8)+(8+(16+(32+0))),((((((Gu.self x).step (k:=32) h)).step (k:=16) f)).step (k:=8) g) _ (Fo a),Xz (by omega),rfl⟩))))))
   .have a:((x/2^32)/2^16)<256:=by have:=bM b;omega
    have d:=(Fo a).le (k:=8) a;exact Xa.arith Xb rfl (show IntKind.u8.wrap (((x/2^32)/2^16:Nat):Int)=(((x/2^32)/2^16:Nat):Int) from by rw[L1];omega) rfl (Xa.sidx Xb rfl (by omega) (Ld (by decide+kernel) a) rfl (aV aA (aV aA (bE func323 aA ⟨Ih ((x/2^32)/2^16)+(16+(32+0)),(((((Gu.self x).step (k:=32) h)).step (k:=16) f)) _ (Fo a),Xz (by omega),rfl⟩))))
  .have l:(x/2^32)<65536:=by have:=bM c;omega
   refine aT aA (λb=>?_) λb=>?_
   .have g:256<=x/2^32:=by have:=bL b;omega
    have a:(x/2^32)/2^8<256:=by omega
    have d:=(Fo a).le (k:=8) a;exact Xa.shift Xb rfl (by omega) (Ky (x:=x/2^32) (j:=8) (by decide)) rfl (aV aA (Xa.arith Xb rfl (show IntKind.u8.wrap (((x/2^32)/2^8:Nat):Int)=(((x/2^32)/2^8:Nat):Int) from by rw[L1];omega) rfl (Xa.sidx Xb rfl (by omega) (Ld (by decide+kernel) a) rfl (aV aA (aV aA (bE func323 aA ⟨Ih ((x/2^32)/2^8)+(8+(32+0)),((((Gu.self x).step (k:=32) h)).step (k:=8) g) _ (Fo a),Xz (by omega),rfl⟩))))))
   .have a:(x/2^32)<256:=by have:=bM b;omega
    have d:=(Fo a).le (k:=8) a;exact Xa.arith Xb rfl (show IntKind.u8.wrap ((x/2^32:Nat):Int)=((x/2^32:Nat):Int) from by rw[L1];omega) rfl (Xa.sidx Xb rfl (by omega) (Ld (by decide+kernel) a) rfl (aV aA (aV aA (bE func323 aA ⟨Ih (x/2^32)+(32+0),(((Gu.self x).step (k:=32) h)) _ (Fo a),Xz (by omega),rfl⟩))))
 .have m:x<4294967296:=by have:=bM i;omega
  refine aT aA (λc=>?_) λc=>?_
  .have f:65536<=x:=by have:=bL c;omega
   have l:(x)/2^16<65536:=by omega
   refine Xa.shift Xb rfl (by omega) (Ky (x:=x) (j:=16) (by decide)) rfl (aV aA (aT aA (λb=>?_) λb=>?_))
   .have g:256<=(x)/2^16:=by have:=bL b;omega
    have a:((x)/2^16)/2^8<256:=by omega
    have d:=(Fo a).le (k:=8) a;exact Xa.shift Xb rfl (by omega) (Ky (x:=(x)/2^16) (j:=8) (by decide)) rfl (aV aA (Xa.arith Xb rfl (show IntKind.u8.wrap ((((x)/2^16)/2^8:Nat):Int)=((((x)/2^16)/2^8:Nat):Int) from by rw[L1];omega) rfl (Xa.sidx Xb rfl (by omega) (Ld (by decide+kernel) a) rfl (aV aA (aV aA (bE func323 aA ⟨Ih (((x)/2^16)/2^8)+(8+(16+(0))),((((Gu.self x).step (k:=16) f)).step (k:=8) g) _ (Fo a),Xz (by omega),rfl⟩))))))
   .have a:((x)/2^16)<256:=by have:=bM b;omega
    have d:=(Fo a).le (k:=8) a;exact Xa.arith Xb rfl (show IntKind.u8.wrap (((x)/2^16:Nat):Int)=(((x)/2^16:Nat):Int) from by rw[L1];omega) rfl (Xa.sidx Xb rfl (by omega) (Ld (by decide+kernel) a) rfl (aV aA (aV aA (bE func323 aA ⟨Ih ((x)/2^16)+(16+(0)),(((Gu.self x).step (k:=16) f)) _ (Fo a),Xz (by omega),rfl⟩))))
  .have l:(x)<65536:=by have:=bM c;omega
   refine aT aA (λb=>?_) λb=>?_
   .have g:256<=x:=by have:=bL b;omega
    have a:(x)/2^8<256:=by omega
    have d:=(Fo a).le (k:=8) a;exact Xa.shift Xb rfl (by omega) (Ky (x:=x) (j:=8) (by decide)) rfl (aV aA (Xa.arith Xb rfl (show IntKind.u8.wrap (((x)/2^8:Nat):Int)=(((x)/2^8:Nat):Int) from by rw[L1];omega) rfl (Xa.sidx Xb rfl (by omega) (Ld (by decide+kernel) a) rfl (aV aA (aV aA (bE func323 aA ⟨Ih ((x)/2^8)+(8+(0)),((Gu.self x).step (k:=8) g) _ (Fo a),Xz (by omega),rfl⟩))))))
   .have a:(x)<256:=by have:=bM b;omega
    have d:=(Fo a).le (k:=8) a;exact Xa.arith Xb rfl (show IntKind.u8.wrap ((x:Nat):Int)=((x:Nat):Int) from by rw[L1];omega) rfl (Xa.sidx Xb rfl (by omega) (Ld (by decide+kernel) a) rfl (aV aA (aV aA (bE func323 aA ⟨Ih (x)+(0),(Gu.self x) _ (Fo a),Xz (by omega),rfl⟩))))
def cnt:List Bool->Nat
 |[]=>0
 |b::r=>(if b then 1 else 0)+cnt r
theorem Oc:∀(x:List Bool),cnt x<=x.length
 |[]=>XF _
 |b::r=>by have:=Oc r;simp only[cnt,XO];split <;> omega
theorem Ts:∀{x:List Bool},cnt x=x.length -> ∀j (h:j<x.length),x[j]=true
 |[],_,j,h=>by simp at h
 |b::r,a,j,h=>by
  have:=Oc r;simp only[cnt,XO] at a;cases b with
  |false=>simp at a;omega
  |true=>
   cases j with
   |zero=>rfl
   |succ j=>simp;exact Ts (by simp at a;omega) j (by simpa using h)
theorem XaB:∀{x:List Bool},cnt x≠x.length -> ∃j,∃h:j<x.length,x[j]=false
 |[],a=>by simp[cnt] at a
 |b::r,a=>by
  cases b with
  |false=>exact⟨0,by simp,rfl⟩
  |true=>
   have:cnt r≠r.length:=by simp only[cnt,XO] at a;simp at a;omega
   obtain⟨j,h,e⟩:=XaB this;exact⟨j+1,by simpa using h,by simpa using e⟩
theorem Tt:∀(x:List Bool) (i:Nat) (h:i<x.length) (b:Bool),cnt (x.set i b)+(if x[i] then 1 else 0)=cnt x+(if b then 1 else 0)
 |[],i,h,b=>by simp at h
 |a::r,0,h,b=>by simp only[List.set_cons_zero,cnt,List.getElem_cons_zero];omega
 |a::r,i+1,h,b=>by
  have:=Tt r i (by simpa using h) b;simp only[List.set_cons_succ,cnt,List.getElem_cons_succ];omega
theorem XaC(n:Nat):cnt (List.replicate n false)=0:=by
 induction n with
 |zero=>rfl
 |succ n ih=>simp[YF,cnt,ih]
def G3(x:List Bool):Int:=idx (λb=>!b) x
def Rl(x:List Bool):Int:=Sc id x
def Gw(x:List Bool)(i:Int):Bool:=decide (0<=i) && x.getD i.toNat false
def Gy(x:List Bool)(i:Int):Bool:=decide (0<=i) && decide (i<x.length)
theorem Xjm{x:List Bool}{i:Int}(h:Gw x i=true):Gy x i=true:=by
 unfold Gw at h;unfold Gy;simp only[XK,decide_eq_true_eq] at h⊢;refine⟨h.1,?_⟩;rcases Nat.lt_or_ge i.toNat x.length with h2|h2
 .omega
 .have:=h.2;rw[XA,ZF h2] at this;cases this
def Fc(x:List Bool)(i:Int)(b:Bool):Int:=
 if Gy x i=false then 1 else if b && Gw x i then 10 else if !b && !Gw x i then 9 else 0
def Jh(x:List Bool)(i:Int)(b:Bool):List Bool:=if Fc x i b=0 then x.set i.toNat b else x
def Ct(ws:List Nat)(x:List Bool):List dE:=ws.map (λn:Nat=>Value.int .u64 (n:Int))++[Value.int .i64 (x.length:Int),Value.int .i64 (cnt x:Int)]
structure Bd(w:dD)(b:Nat)(x:List Bool):Prop where
 tab:Bi w
 ws:∃ws:List Nat,ws.length=8/\(∀k,ws.getD k 0<2^64)/\(∀k j,j<64->(ws.getD k 0).testBit j=x.getD (64*k+j) false)/\
  w.heap[b]?=some (.cells (Ct ws x).toArray 375 (0,0))
 pos:1<=x.length
 len:x.length<=512
theorem Bd.bR{S:Nat->Prop}{w w':dD}{b:Nat}{x:List Bool}(h:Bd w b x)(hc:Xc S w w')(hs:¬S b)(hg:¬S 1):Bd w' b x:=by
 obtain⟨ws,a,c,d,f⟩:=h.ws;exact⟨h.tab.bR hc hg,⟨ws,a,c,d,hc.heap f hs⟩,h.pos,h.len⟩
theorem Bd.bQ{x:List Bool}(h:Bd w b x)(hc:Xc Xe w w'):Bd w' b x:=h.bR hc id id
theorem Bd.ne{x:List Bool}(h:Bd w b x):1≠b:=by
 obtain⟨ws,a,f,g,d⟩:=h.ws;intro e;have:=h.tab 0 (by decide);subst e;rw[Ys d] at this
 match ws,a with
 |c::r,_=>simp[Ct] at this
theorem Xit{x:List Bool}(h1:ws.length=8)(h:w.heap[b]?=some (.cells (Ct ws x).toArray 375 (0,0))):w.cell? ⟨b,8,none⟩=some (.int .i64 x.length):=by
 rw[Ys h];simp[Ct,h1]
theorem Xis{x:List Bool}(h1:ws.length=8)(h:w.heap[b]?=some (.cells (Ct ws x).toArray 375 (0,0))):w.cell? ⟨b,9,none⟩=some (.int .i64 (cnt x)):=by
 rw[Ys h];simp[Ct,h1]
theorem Xam{x:List Bool}(h1:ws.length=8)(h:w.heap[b]?=some (.cells (Ct ws x).toArray 375 (0,0)))(hk:k<8):w.cell? ⟨b,0+k,none⟩=some (.int .u64 (ws.getD k 0:Nat)):=by
 have a:k<ws.length:=by omega
 rw[Ys h,XT];simp only[YW,XA,Ct];rw[XZ (by simpa using a),XN,XD a];rfl
theorem Bd.many{x:List Bool}(h:Bd w b x):w.cell? ⟨b,8,none⟩=some (.int .i64 x.length):=by
 obtain⟨ws,a,d,f,c⟩:=h.ws;exact Xit a c
theorem Bd.cnt{x:List Bool}(h:Bd w b x):w.cell? ⟨b,9,none⟩=some (.int .i64 (cnt x)):=by
 obtain⟨ws,a,d,f,c⟩:=h.ws;exact Xis a c
theorem Bd.lt{x:List Bool}(h:Bd w b x):b<w.heap.size:=by
 obtain⟨ws,c,d,f,a⟩:=h.ws;exact Xg a
theorem XaQ(n k:Nat)(x:α):(List.replicate n x).getD k x=x:=by
 rw[XA,ZE];split <;> rfl
theorem Xip(m:Nat)(w:dD)(hT0:Bi w)(h:1<=m/\m<=512):Xf prog 286 #[.int .i64 m] w (λv w'=>∃b,v=.tuple #[.pointer (some ⟨b,0,none⟩),.int .i64 0]/\w.heap.size<=b/\Bd w' b (List.replicate m false)/\Xc Xe w w'):=by
 refine aR func286 ntmps286 aA (aS aA (aS aA (aO aA (bC aA λb g e1 d a f=>?_))));have c:(List.replicate m false).length=m:=XI;exact bE func286 aA ⟨b,rfl,by omega,⟨hT0.bQ a,⟨List.replicate 8 0,rfl,λk=>by rw[XaQ];decide,λk j i=>by rw[XaQ,XaQ];simp,by unfold Ct;rw[c,XaC];exact d⟩,by omega,by omega⟩,a⟩
theorem Xdy(b:Nat)(x:List Bool)(i:Int)(w:dD)(h:Bd w b x):Xf prog 322 #[.pointer (some ⟨b,0,none⟩),.int .i64 i] w (X5 (.bool (Gy x i)) w):=by
 refine aR func322 ntmps322 aA (aT aA (λa=>?_) λa=>?_)
 .have c:=bL a;exact aW aA h.many aA (bE func322 aA ⟨Q0 (by unfold Gy;rw[bN c];rfl),rfl⟩)
 .have c:=bM a;exact bE func322 aA ⟨Q0 (by unfold Gy;rw[bO c];rfl),rfl⟩
theorem Ti(b:Nat)(x:List Bool)(i:Int)(w:dD)(h:Bd w b x):Xf prog 309 #[.pointer (some ⟨b,0,none⟩),.int .i64 i] w (X5 (.bool (Gw x i)) w):=by
 have o:=h.len;obtain⟨ws,f,g,j,k⟩:=h.ws;refine aR func309 ntmps309 aA (bH (Xdy b x i w h) aA ?_);cases a:Gy x i with
 |false=>
  have d:Gw x i=false:=by cases l:Gw x i;rfl;rw[Xjm l] at a;cases a
  exact aS aA (bE func309 aA ⟨Q0 d.symm,rfl⟩)
 |true=>
  have m:0<=i/\i<x.length:=by unfold Gy at a;simpa using a
  obtain⟨i,rfl⟩:=XE m.1;have n:i/64<8:=by omega
  refine bI aA (Xa.div Xb rfl (by omega) (Gm (by omega) (by omega)) rfl (aU (i/64) aA (aW aA (Xam f k n) aA (Xa.div Xb rfl (by omega) (Hb (by omega)) rfl ?_))));rw[show((i:Int)%64)=((i%64:Nat):Int) from by omega];refine Xa.shift Xb rfl (by omega) (Ky (by omega)) rfl (Xa.bits Xb rfl (Xdt (y:=1) (Nat.lt_of_le_of_lt (Nat.div_le_self _ _) (g _)) (by decide)) rfl ?_);rw[Xh5];have c:=j (i/64) (i%64) (by omega);rw[show 64*(i/64)+i%64=i from by omega] at c;exact bE func309 aA ⟨Q0 (by rw[Xim,c];unfold Gw;simp),rfl⟩
theorem Xdv(b:Nat)(x:List Bool)(w:dD)(h:Bd w b x):Xf prog 315 #[.pointer (some ⟨b,0,none⟩)] w (X5 (.int .i64 (cnt x)) w):=by
 exact aR func315 ntmps315 aA (aW aA h.cnt aA (bE func315 aA ⟨rfl,rfl⟩))
theorem Xgv(hk:k<ws.length):(ws.map (λn:Nat=>Value.int .u64 (n:Int))++rest).set k (.int .u64 (n:Int))=(ws.set k n).map (λn:Nat=>Value.int .u64 (n:Int))++rest:=by
 rw[YK _ _ (by simpa using hk),ZZ]
theorem On{l:List α}{x d:α}(hi:i<l.length):(l.set i x).getD j d=if j=i then x else l.getD j d:=by
 simp only[XA,ZX];by_cases h:i=j
 .subst h;simp[hi]
 .rw[bJ h,bJ (Ne.symm h)]
theorem J8:∀(l:List dE) (i:Nat) (v:dE),i<l.length->Z4 l i [v]=some (l.set i v)
 |x::r,0,v,_=>by simp[Z4]
 |x::r,i+1,v,h=>by simp[Z4,J8 r i v (by simpa using h)]
theorem Xdx(b:Nat)(x:List Bool)(i:Int)(is:Bool)(w:dD)(h:Bd w b x):Xf prog 314 #[.pointer (some ⟨b,0,none⟩),.int .i64 i,.bool is] w
 (λv w'=>v=.int .i64 (Fc x i is)/\Bd w' b (Jh x i is)/\Xc (λz=>z=b) w w'):=by
 have W:=h.len;have M:=h.ne;have C:Fc x i is≠0->Bd w b (Jh x i is):=λT=>by unfold Jh;rw[bJ T];exact h
 obtain⟨ws,d,A,B,L⟩:=h.ws;refine aR func314 ntmps314 aA (bH (Xdy b x i w h) aA ?_);cases f:Gy x i with
 |false=>
  have g:Fc x i is=1:=by unfold Fc;rw[bK f]
  exact bI aA (bE func314 aA ⟨by rw[g],C (by rw[g];decide),Xc.refl _ _⟩)
 |true=>
  refine aS aA ?_;cases is with
  |true=>
   refine bI aA (bH (Ti b x i w h) aA ?_);cases l:Gw x i with
   |true=>
    have g:Fc x i true=10:=by unfold Fc;rw[f,l];rfl
    exact bI aA (bE func314 aA ⟨by rw[g],C (by rw[g];decide),Xc.refl _ _⟩)
   |false=>
    refine aS aA (aS aA ?_);have N:0<=i/\i<x.length:=by unfold Gy at f;simpa using f
    obtain⟨i,rfl⟩:=XE N.1;have O:i/64<8:=by omega
    have D:(Ct ws x).length=10:=by simp[Ct,d]
    have u:=B (i/64) (i%64) (by omega);rw[show 64*(i/64)+i%64=i from by omega] at u;have o:x.getD i false=false:=by have:=l;unfold Gw at this;simpa using this
    have p:(2:Nat)^(i%64)<2^64:=Nat.pow_lt_pow_right (by decide) (by omega);obtain⟨nw,m⟩:∃nw,nw=ws.getD (i/64) 0 ^^^ 2^(i%64):=⟨_,rfl⟩;refine aQ 14 Xe (by kernel_rfl) aA λa=>Xd.div Xb a rfl (by omega) (Gm (by omega) (by omega)) rfl (aB (i/64) a aA (aD a (Xam d L O) aA (Xd.div Xb a rfl (by omega) (Hb (by omega)) rfl ?_)));rw[show((i:Int)%64)=((i%64:Nat):Int) from by omega];refine Xd.shift Xb a rfl (by omega) (Xgx (by omega)) rfl (Xd.bits Xb a rfl (Xal (A _) p) rfl (aB (i/64) a aA ?_));rw[<-m];refine aF a aA λU q=>aL aA (q.bP L) (show Z4 (Ct ws x) (0+i/64) [.int .u64 (nw:Int)]=some ((ws.set (i/64) nw).map (λn:Nat=>Value.int .u64 (n:Int))++[Value.int .i64 (x.length:Int),Value.int .i64 (cnt x:Int)]) from by rw[XT,J8 _ _ _ (by rw[D];omega)];unfold Ct;rw[Xgv (by omega)]) aA λP r E R=>?_;have F:P.cell? ⟨b,9,none⟩=some (.int .i64 (cnt x)):=by rw[Ys r];simp[d]
    have Q:=Oc x;have c:=Tt x i (by omega) true;have y:x[i]'(by omega)=false:=by rw[<-o,XA,XD (by omega)];rfl
    rw[y] at c
    first|refine Xa.yes Xb rfl rfl rfl ?_|refine Xa.no Xb rfl rfl rfl ?_
    refine aW aA F aA (aJ aA (by simp at c;omega) (aL aA r (show Z4 ((ws.set (i/64) nw).map (λn:Nat=>Value.int .u64 (n:Int))++[Value.int .i64 (x.length:Int),Value.int .i64 (cnt x:Int)]) 9 [.int .i64 ((cnt x:Int)+1)]=some (Ct (ws.set (i/64) nw) (x.set i true)) from by rw[J8 _ _ _ (by simp[d]),List.set_append_right _ _ (by simp[d])];unfold Ct;simp[d];simp at c;omega) aA λV G H S=>?_));have s:=(q.gr.trans E).trans H;have g:Fc x i true=0:=by unfold Fc;rw[f,l];rfl
    have I:Jh x i true=x.set i true:=by unfold Jh;rw[bK g];simp
    exact Xa.ret1 Xb rfl func314 rfl rfl ⟨by rw[g],by rw[I];exact⟨h.tab.bR s M,⟨_,by simp[d],λk=>by
     rw[On (by omega)];split
     .rw[m];exact Nat.xor_lt_two_pow (A _) p
     .exact A k,λk j J=>by
     rw[On (by omega),On (by omega)];by_cases t:k=i/64
     .subst t;rw[bK rfl,m,Nat.testBit_xor,Nat.testBit_two_pow,B _ j J];by_cases K:j=i%64
      .subst K;rw[bK (by omega),show 64*(i/64)+i%64=i from by omega,o];simp
      .rw[bJ (by omega),bO (by omega)];simp
     .rw[bJ t,bJ (by omega)];exact B k j J,G⟩,by simpa using h.pos,by simpa using h.len⟩,s⟩
  |false=>
   refine aS aA (bI aA (bH (Ti b x i w h) aA ?_));cases l:Gw x i with
   |false=>
    have g:Fc x i false=9:=by unfold Fc;rw[f,l];rfl
    exact bI aA (bE func314 aA ⟨by rw[g],C (by rw[g];decide),Xc.refl _ _⟩)
   |true=>
    refine aS aA ?_;have N:0<=i/\i<x.length:=by unfold Gy at f;simpa using f
    obtain⟨i,rfl⟩:=XE N.1;have O:i/64<8:=by omega
    have D:(Ct ws x).length=10:=by simp[Ct,d]
    have u:=B (i/64) (i%64) (by omega);rw[show 64*(i/64)+i%64=i from by omega] at u;have o:x.getD i false=true:=by have:=l;unfold Gw at this;simpa using this
    have p:(2:Nat)^(i%64)<2^64:=Nat.pow_lt_pow_right (by decide) (by omega);obtain⟨nw,m⟩:∃nw,nw=ws.getD (i/64) 0 ^^^ 2^(i%64):=⟨_,rfl⟩;refine aQ 14 Xe (by kernel_rfl) aA λa=>Xd.div Xb a rfl (by omega) (Gm (by omega) (by omega)) rfl (aB (i/64) a aA (aD a (Xam d L O) aA (Xd.div Xb a rfl (by omega) (Hb (by omega)) rfl ?_)));rw[show((i:Int)%64)=((i%64:Nat):Int) from by omega];refine Xd.shift Xb a rfl (by omega) (Xgx (by omega)) rfl (Xd.bits Xb a rfl (Xal (A _) p) rfl (aB (i/64) a aA ?_));rw[<-m];refine aF a aA λU q=>aL aA (q.bP L) (show Z4 (Ct ws x) (0+i/64) [.int .u64 (nw:Int)]=some ((ws.set (i/64) nw).map (λn:Nat=>Value.int .u64 (n:Int))++[Value.int .i64 (x.length:Int),Value.int .i64 (cnt x:Int)]) from by rw[XT,J8 _ _ _ (by rw[D];omega)];unfold Ct;rw[Xgv (by omega)]) aA λP r E R=>?_;have F:P.cell? ⟨b,9,none⟩=some (.int .i64 (cnt x)):=by rw[Ys r];simp[d]
    have Q:=Oc x;have c:=Tt x i (by omega) false;have y:x[i]'(by omega)=true:=by rw[<-o,XA,XD (by omega)];rfl
    rw[y] at c
    first|refine Xa.yes Xb rfl rfl rfl ?_|refine Xa.no Xb rfl rfl rfl ?_
    refine aW aA F aA (aJ aA (by simp at c;omega) (aL aA r (show Z4 ((ws.set (i/64) nw).map (λn:Nat=>Value.int .u64 (n:Int))++[Value.int .i64 (x.length:Int),Value.int .i64 (cnt x:Int)]) 9 [.int .i64 ((cnt x:Int)-1)]=some (Ct (ws.set (i/64) nw) (x.set i false)) from by rw[J8 _ _ _ (by simp[d]),List.set_append_right _ _ (by simp[d])];unfold Ct;simp[d];simp at c;omega) aA λV G H S=>?_));have s:=(q.gr.trans E).trans H;have g:Fc x i false=0:=by unfold Fc;rw[f,l];rfl
    have I:Jh x i false=x.set i false:=by unfold Jh;rw[bK g];simp
    exact Xa.ret1 Xb rfl func314 rfl rfl ⟨by rw[g],by rw[I];exact⟨h.tab.bR s M,⟨_,by simp[d],λk=>by
     rw[On (by omega)];split
     .rw[m];exact Nat.xor_lt_two_pow (A _) p
     .exact A k,λk j J=>by
     rw[On (by omega),On (by omega)];by_cases t:k=i/64
     .subst t;rw[bK rfl,m,Nat.testBit_xor,Nat.testBit_two_pow,B _ j J];by_cases K:j=i%64
      .subst K;rw[bK (by omega),show 64*(i/64)+i%64=i from by omega,o];simp
      .rw[bJ (by omega),bO (by omega)];simp
     .rw[bJ t,bJ (by omega)];exact B k j J,G⟩,by simpa using h.pos,by simpa using h.len⟩,s⟩
theorem XjQ(h:y≠0):∃t,y.testBit t=true/\∀j,j<t->y.testBit j=false:=by
 obtain⟨i,b⟩:=Nat.exists_testBit_of_ne_zero h;have key:∀n,∀i,i<=n->y.testBit i=true -> ∃t,y.testBit t=true/\∀j,j<t->y.testBit j=false:=by
  intro n
  induction n with
  |zero=>intro i b c;exact⟨i,c,λj d=>by omega⟩
  |succ n ih=>
   intro i b c;by_cases a:∀j,j<i->y.testBit j=false
   .exact⟨i,c,a⟩
   .have:∃j,j<i/\y.testBit j=true:=by
     apply Classical.byContradiction
     intro f;apply a
     intro j d;cases k:y.testBit j with
     |false=>rfl
     |true=>exact(f ⟨j,d,k⟩).elim
    obtain⟨j,d,g⟩:=this;exact ih j (by omega) g
 exact key i i (XF _) b
theorem Xhx(hk:k<ws.length):(ws.map (λn:Nat=>Value.int .u64 (n:Int)))[((k:Nat):Int).toNat]?=some (.int .u64 (ws.getD k 0:Nat)):=by
 rw[XB,XN,XD hk,XA,XD hk];rfl
theorem Xdz{x:List Bool}(h1:ws.length=8)(h:w.heap[b]?=some (.cells (Ct ws x).toArray 375 (0,0))):∀j v,(ws.map (λn:Nat=>Value.int .u64 (n:Int)))[j]?=some v->w.cell? ⟨b,0+j,none⟩=some v:=λj v a=>by
 have c:j<ws.length:=by have:=(XC.1 a).1;simpa using this
 rw[Ys h,XT,YW];unfold Ct;rw[XZ (by simpa using c)];exact a
theorem Xep{x:List Bool}(h:x.getD j false=true):j<x.length:=by
 rcases Nat.lt_or_ge j x.length with h2|h2
 .exact h2
 .rw[XA,ZF h2] at h;cases h
theorem Id{x:List Bool}(h:j<x.length):x[j]=x.getD j false:=by simp[QW,h]
theorem Xdw(b:Nat)(x:List Bool)(w:dD)(h:Bd w b x):Xf prog 312 #[.pointer (some ⟨b,0,none⟩)] w (Grow (.int .i64 (G3 x)) w):=by
 have K:=h.len;refine aR func312 ntmps312 aA (Xa.quiet rfl Xo (by kernel_rfl) (Xk.adv Xb rfl (Xk.load Xb rfl h.cnt rfl (Xk.load Xb rfl h.many rfl (Xk.nil λG m=>aN aA ?_)))));have A:=h.bQ m;obtain⟨ws,H,u,v,I⟩:=A.ws;by_cases a:cnt x=x.length
 .exact aM aA (by rw[a];exact beq_self_eq_true _) (bE func312 aA ⟨Xz (I5 (p:=λb=>!b) (λj l=>by rw[Ts a j l];rfl)).symm,m⟩)
 .obtain⟨B,C,c⟩:=XaB a;rw[Id C] at c;refine aI aA (by simp;omega) (Xa.loadC Xb (ws.map (λn:Nat=>Value.int .u64 (n:Int))) rfl (by first|rfl|(simp;done)|(simp[*];done)|(simp;omega)) (Xdz H I) rfl ?_);refine Xa.loop (α:=Nat) (λk=>[(3,false,.int .i64 (-1)),(23,false,.agg (ws.map (λn:Nat=>Value.int .u64 (n:Int))).toArray),(24,false,.int .i64 k)])
   (λk w'=>w'=G/\k<=8/\∀j,j<64*k->x.getD j false=true) (λk=>8-k) 0 ⟨rfl,rfl,rfl,trivial⟩ ⟨rfl,by omega,λj l=>by omega⟩ ?_
  rintro k D ⟨J,L,f⟩ ih;subst J;refine aN aA (aT aA (λy=>?_) λy=>?_)
  .have E:k<8:=by have:=bL y;omega
   refine Xa.aidx Xb rfl (by first|rfl|(simp;done)|(simp[*];done)|(simp;omega)) (by omega) (Xhx (by omega)) rfl (Xa.un Xb rfl (XnT (u k)) rfl ?_);by_cases z:Mf (ws.getD k 0)=0
   .rw[z];refine bH (Xir D) aA (aS aA (aV aA ?_));exact ih (k+1) _ _ ⟨rfl,by omega,λj l=>by
     by_cases d:j<64*k
     .exact f j d
     .have o:=XaG (x:=ws.getD k 0) (j:=j-64*k) (by omega);rw[z,Nat.zero_testBit,v k _ (by omega),show 64*k+(j-64*k)=j from by omega] at o
      simpa using o.symm⟩ (by omega) ⟨rfl,rfl,rfl,trivial⟩
   .obtain⟨t,i,r⟩:=XjQ z;have g:t<64:=by
     rcases Nat.lt_or_ge t 64 with h'|h'
     .exact h'
     .rw[Nat.testBit_lt_two_pow (Nat.lt_of_lt_of_le (XdZ (u k)) (Nat.pow_le_pow_right (by decide) h'))] at i;cases i
    have F:x.getD (64*k+t) false=false:=by
     rw[<-v k t g];have:=XaG (x:=ws.getD k 0) g;rw[i] at this
     simpa using this.symm
    have q:∀j,j<64*k+t->x.getD j false=true:=λj l=>by
     by_cases d:j<64*k
     .exact f j d
     .have o:=XaG (x:=ws.getD k 0) (j:=j-64*k) (by omega);rw[r _ (by omega),v k _ (by omega),show 64*k+(j-64*k)=j from by omega] at o
      simpa using o.symm
    have s:64*k+t<x.length:=by
     rcases Nat.lt_or_ge (64*k+t) x.length with h'|h'
     .exact h'
     .rw[q B (by omega)] at c;cases c
    exact bH (Xiq (Mf (ws.getD k 0)) t D A.tab (XdZ (u k)) g i r) aA (bI aA (aV aA (aV aA (bE func312 aA ⟨Xz (by have:=Jy (p:=λb=>!b) s (λj l d=>by rw[Id l,q j d];rfl) (by rw[Id s,F];rfl);unfold G3;rw[this];omega),m⟩))))
  .exfalso
   have E:k=8:=by have:=bM y;omega
   rw[f B (by omega)] at c;cases c
theorem Xin(b:Nat)(x:List Bool)(w:dD)(h:Bd w b x):Xf prog 311 #[.pointer (some ⟨b,0,none⟩)] w (X5 (.int .i64 (Rl x)) w):=by
 have L:=h.len;obtain⟨ws,E,y,r,F⟩:=h.ws;refine aR func311 ntmps311 aA (Xa.loadC Xb (ws.map (λn:Nat=>Value.int .u64 (n:Int))) rfl (by first|rfl|(simp;done)|(simp[*];done)|(simp;omega)) (Xdz E F) rfl ?_);refine Xa.loop (α:=Nat×Int) (λp=>[(3,false,.int .i64 p.2),(11,false,.agg (ws.map (λn:Nat=>Value.int .u64 (n:Int))).toArray),(12,false,.int .i64 p.1)])
  (λp w'=>w'=w/\p.1<=8/\((p.2=-1/\∀j,j<64*p.1->x.getD j false=false)\/(∃i:Nat,i<64*p.1/\p.2=i/\x.getD i false=true/\∀j,i<j->j<64*p.1->x.getD j false=false))) (λp=>8-p.1) (0,-1) ⟨rfl,rfl,rfl,trivial⟩ ⟨rfl,by omega,.inl ⟨rfl,λj a=>by omega⟩⟩ ?_
 rintro⟨k,at'⟩ G ⟨H,I,f⟩ ih;simp only at I f
 subst H;refine aN aA (aT aA (λs=>?_) λs=>?_)
 .have o:k<8:=by have:=bL s;omega
  refine Xa.aidx Xb rfl (by first|rfl|(simp;done)|(simp[*];done)|(simp;omega)) (by omega) (Xhx (by omega)) rfl ?_;by_cases t:ws.getD k 0=0
  .refine aI aA (by rw[t];rfl) (aV aA ?_);have q:∀j,64*k<=j->j<64*(k+1)->x.getD j false=false:=λj a d=>by
    have z:=r k (j-64*k) (by omega);rw[t,Nat.zero_testBit,show 64*k+(j-64*k)=j from by omega] at z;exact z.symm
   refine ih (k+1,at') _ _ ⟨rfl,by simp only;omega,?_⟩ (by simp only;omega) ⟨rfl,rfl,rfl,trivial⟩;rcases f with⟨g,c⟩|⟨i,g,c,l,u⟩
   .exact .inl ⟨g,λj a=>by by_cases m:j<64*k;exact c j m;exact q j (by omega) a⟩
   .exact .inr ⟨i,by simp only;omega,c,l,λj a d=>by by_cases m:j<64*k;exact u j a m;exact q j (by omega) d⟩
  .refine aM aA (by simpa using t) (aV aA (aP aA (Xio (ws.getD k 0) G (y k)) ?_));rintro _ M ⟨n,v,rfl,rfl⟩;have A:=v.pos (by omega);have J:=v.le (y k);refine aN aA (aV aA (aV aA (aV aA ?_)));obtain⟨B,C⟩:=v.top A;refine ih (k+1,(k:Int)*64+n-1) _ _ ⟨rfl,by simp only;omega,.inr ⟨64*k+(n-1),by simp only;omega,by simp only;omega,?_,λj a d=>?_⟩⟩ (by simp only;omega) ⟨rfl,rfl,rfl,trivial⟩
   .rw[<-r k (n-1) (by omega)];exact B
   .have:=r k (j-64*k) (by simp only at d;omega);rw[show 64*k+(j-64*k)=j from by omega] at this;rw[<-this];exact C _ (by omega)
 .have o:k=8:=by have:=bM s;omega
  subst o;have K:at'=Rl x:=by
   unfold Rl;rcases f with⟨g,c⟩|⟨i,g,c,l,u⟩
   .rw[g,Xf7 (λj a=>by rw[Id a];exact c j (by omega))]
   .rw[c,XbY (Xep l) (λj a D=>by rw[Id a];exact u j D (by omega)) (by rw[Id (Xep l)];exact l)]
  exact bE func311 aA ⟨Xz K,rfl⟩
def Y1(x:List Int):List Bool:=x.map λo=>!(o == -1)
def Yb(x:List Int)(i:Int):Int:=if 0<=i then x.getD i.toNat (-1) else -1
def Yf(x:List Int):Int:=G3 (Y1 x)
def Lh(x:List Int):Int:=Rl (Y1 x)
def Xu(x:List Int):Nat:=cnt (Y1 x)
def Dy(x:List Int)(who:Int):Int:=if who<0 then 1 else if Yf x<0 then 5 else 0
def Eu(x:List Int)(who:Int):Int:=if Dy x who=0 then Yf x else 0
def Qf(x:List Int)(who:Int):List Int:=if Dy x who=0 then x.set (Yf x).toNat who else x
def Q1(x:List Int)(i:Int):Int:=if i<0\/(x.length:Int)<=i then 1 else if Yb x i=-1 then 9 else 0
def Yj(x:List Int)(i:Int):List Int:=if Q1 x i=0 then x.set i.toNat (-1) else x
def Am(x:List Int)(i who:Int):Int:=if i<0\/(x.length:Int)<=i\/who<0 then 1 else if Yb x i=-1 then 9 else 0
def By(x:List Int)(i who:Int):List Int:=if Am x i who=0 then x.set i.toNat who else x
theorem Fq(x:List Int):(Y1 x).length=x.length:=by simp[Y1]
theorem R0(x:List Int)(k:Nat):(Y1 x).getD k false=!(x.getD k (-1) == -1):=by
 unfold Y1;rw[XA,XN,XA];cases h:x[k]? <;> simp
theorem Ut(x:List Int)(i:Int):Gw (Y1 x) i=!(Yb x i == -1):=by
 unfold Gw Yb;rw[R0];by_cases h:0<=i
 .rw[bK h,bN h];rfl
 .rw[bJ h,bO h];rfl
theorem Xby(x:List Int)(i:Int):Gy (Y1 x) i=true↔0<=i/\i<x.length:=by
 unfold Gy;rw[Fq];simp
theorem Uo(x:List Int)(i:Nat)(v:Int):Y1 (x.set i v)=(Y1 x).set i (!(v == -1)):=by
 unfold Y1;rw[ZZ]
theorem Xbx{x:List Int}{i:Int}(h:i<0\/(x.length:Int)<=i):Yb x i=-1:=by
 unfold Yb;by_cases a:0<=i
 .rw[bK a,XA,ZF (by omega)];rfl
 .rw[bJ a]
theorem XdQ:∀(x:List Bool) (k:Nat) (h:k<x.length),cnt (x.take (k+1))=cnt (x.take k)+(if x[k] then 1 else 0)
 |[],k,h=>by simp at h
 |a::r,0,h=>by simp[cnt]
 |a::r,k+1,h=>by
  have:=XdQ r k (by simpa using h);simp only[List.take_succ_cons,cnt,List.getElem_cons_succ];rw[this];omega
theorem XeZ{x:List Bool}(hfull:cnt x≠x.length):∃t,t<x.length/\x.getD t false=false/\∀j,j<t->x.getD j false=true:=by
 obtain⟨h,f,a⟩:=XaB hfull;have key:∀m t,t<=m->t<x.length->x.getD t false=false -> ∃t,t<x.length/\x.getD t false=false/\∀j,j<t->x.getD j false=true:=by
  intro m
  induction m with
  |zero=>intro t ht b c;exact⟨t,b,c,λj g=>by omega⟩
  |succ m ihm=>
   intro t ht b c;by_cases d:∀j,j<t->x.getD j false=true
   .exact⟨t,b,c,d⟩
   .have:∃j,j<t/\x.getD j false=false:=by
     apply Classical.byContradiction
     intro i;apply d
     intro j g;cases k:x.getD j false with
     |true=>rfl
     |false=>exact(i ⟨j,g,k⟩).elim
    obtain⟨j,g,a⟩:=this;exact ihm j (by omega) (by omega) a
 exact key h h (XF _) f (by rw[<-Id f];exact a)
theorem XjY{x:List Bool}(h:0<=G3 x):(G3 x).toNat<x.length/\x.getD (G3 x).toNat false=false:=by
 unfold G3 at h⊢;by_cases hf:cnt x=x.length
 .rw[I5 (p:=λb=>!b) (λj d=>by rw[Ts hf j d];rfl)] at h;exact absurd h (by decide)
 .obtain⟨t,a,c,f⟩:=XeZ hf;rw[Jy (p:=λb=>!b) a (λj d g=>by rw[Id d,f j g];rfl) (by rw[Id a,c];rfl)];exact⟨a,c⟩
theorem Xa7{x:List Bool}:G3 x<0↔cnt x=x.length:=by
 unfold G3;by_cases hf:cnt x=x.length
 .rw[I5 (p:=λb=>!b) (λj c=>by rw[Ts hf j c];rfl)];exact⟨λ_=>hf,λ_=>by decide⟩
 .obtain⟨t,a,d,f⟩:=XeZ hf;rw[Jy (p:=λb=>!b) a (λj c g=>by rw[Id c,f j g];rfl) (by rw[Id a,d];rfl)];exact⟨λh=>by omega,λh=>absurd h hf⟩
structure Pg where
 p:Nat
 bb:Nat
 mb:Nat
abbrev E9(g:Pg):dE:=.pointer (some ⟨g.p,0,none⟩)
def G8(g:Pg):Nat->Prop:=λz=>z=g.bb\/z=g.mb
def R1(g:Pg)(x:List Int):List dE:=[.pointer (some ⟨g.bb,0,none⟩),.int .i64 (x.length:Int),.map (some g.mb)]
structure Q7(w:dD)(g:Pg)(x:List Int):Prop where
 pc:w.heap[g.p]?=some (.cells (R1 g x).toArray 348 (0,0))
 bits:Bd w g.bb (Y1 x)
 own:∃m,Yx w g.mb m/\(Bj m).Nodup/\∀i,i<x.length->x.getD i (-1)≠-1->Bq m i=some (.int .i64 (x.getD i (-1)))
 npb:g.p≠g.bb
 npm:g.p≠g.mb
 nbm:g.bb≠g.mb
theorem Q7.bR{S:Nat->Prop}{w w':dD}{g:Pg}{x:List Int}(h:Q7 w g x)(hc:Xc S w w')(h1:¬S g.p)(h2:¬S g.bb)(h3:¬S g.mb)(hg:¬S 1):Q7 w' g x:=by
 obtain⟨m,hm,a,b⟩:=h.own;exact⟨hc.heap h.pc h1,h.bits.bR hc h2 hg,⟨m,hm.bR hc h3,a,b⟩,h.npb,h.npm,h.nbm⟩
theorem Q7.bQ{g:Pg}{x:List Int}(h:Q7 w g x)(hc:Xc Xe w w'):Q7 w' g x:=h.bR hc id id id id
theorem Q7.lt{w:dD}{g:Pg}{x:List Int}(h:Q7 w g x):g.p<w.heap.size/\g.bb<w.heap.size/\g.mb<w.heap.size:=by
 obtain⟨m,hm,a,b⟩:=h.own;exact⟨Xg h.pc,h.bits.lt,hm.lt⟩
theorem Q7.footlt{g:Pg}{x:List Int}(h:Q7 w g x):∀b,G8 g b->b<w.heap.size:=λb a=>by
 obtain⟨_,c,d⟩:=h.lt;rcases a with rfl|rfl
 .exact c
 .exact d
theorem Q7.notab{g:Pg}{x:List Int}(h:Q7 w g x):1≠g.mb:=λe=>by
 obtain⟨m,⟨es,c,hm,_⟩,a,b⟩:=h.own;have:=h.bits.tab 0 (by decide);rw[e] at this;simp only[World.cell?,hm] at this;cases this
theorem Xfo(m:Nat)(w:dD)(hT0:Bi w)(h:1<=m/\m<=512):Xf prog 245 #[.int .i64 m] w
 (λv w'=>∃g,v=.tuple #[E9 g,.int .i64 0]/\(w.heap.size<=g.p/\w.heap.size<=g.bb/\w.heap.size<=g.mb)/\Q7 w' g (List.replicate m (-1))/\Xc Xe w w'):=by
 refine aR func245 ntmps245 aA (aP aA (Xip m w hT0 h) ?_);rintro _ z ⟨bb,rfl,j,c,d⟩;refine aN aA (aS aA (Xa.mkmap rfl λmb A s k f t=>aN aA (aO aA (bC aA λp B e3 r a u=>?_))));have l:=(c.bQ f).bQ a;have x:=c.lt;have y:=d.size;have b:(List.replicate m (-1:Int)).length=m:=XI;have n:Y1 (List.replicate m (-1))=List.replicate m false:=by simp[Y1]
 refine bE func245 aA ⟨⟨p,bb,mb⟩,rfl,⟨by simp only;omega,j,by simp only;omega⟩,⟨by unfold R1;rw[b];exact r,by rw[n];exact l,⟨[],k.bR a id,YX,λi o q=>absurd (by rw[b] at o;rw[XA,ZE,bK o];rfl) q⟩,by simp only;omega,by simp only;omega,by simp only;omega⟩,(d.trans f).trans a⟩
theorem Xfr(g:Pg)(x:List Int)(w:dD)(h:Q7 w g x):Xf prog 318 #[E9 g] w (X5 (.int .i64 (Xu x)) w):=by
 exact aR func318 ntmps318 aA (bB h.pc aA (bH (Xdv g.bb _ w h.bits) aA (bE func318 aA ⟨rfl,rfl⟩)))
theorem XkM(g:Pg)(x:List Int)(w:dD)(h:Q7 w g x):Xf prog 290 #[E9 g] w (Grow (.int .i64 (Yf x)) w):=by
 exact aR func290 ntmps290 aA (bB h.pc aA (bG (Xdw g.bb _ w h.bits) aA λb a=>bE func290 aA ⟨rfl,a⟩))
theorem XkQ(g:Pg)(x:List Int)(w:dD)(h:Q7 w g x):Xf prog 289 #[E9 g] w (X5 (.int .i64 (Lh x)) w):=by
 exact aR func289 ntmps289 aA (bB h.pc aA (bH (Xin g.bb _ w h.bits) aA (bE func289 aA ⟨rfl,rfl⟩)))
theorem Un(g:Pg)(x:List Int)(w:dD)(h:Q7 w g x):Xf prog 294 #[E9 g] w (Grow (.bool ((Xu x:Int) == x.length)) w):=by
 exact aR func294 ntmps294 aA (aQ 15 Xe (by kernel_rfl) aA λa=>Xd.yes Xb a rfl rfl rfl (aE a h.pc aA (aH a (λw' b=>Xdv g.bb _ w' (h.bits.bQ b)) aA (aE a h.pc aA (aF a aA λd c=>bE func294 aA ⟨rfl,c⟩)))))
theorem XkO(g:Pg)(x:List Int)(i:Int)(w:dD)(h:Q7 w g x):Xf prog 291 #[E9 g,.int .i64 i] w (X5 (.int .i64 (Yb x i)) w):=by
 refine aR func291 ntmps291 aA (aS aA (bB h.pc aA (bH (Ti g.bb _ i w h.bits) aA ?_)));rw[Ut];cases d:(Yb x i == -1) with
 |true=>
  exact bI aA (bE func291 aA ⟨Xz (show -1=Yb x i from(by simpa using d:Yb x i=-1).symm),rfl⟩)
 |false=>
  refine aS aA ?_;obtain⟨m,hm,j,f⟩:=h.own;have a:Yb x i≠-1:=by simpa using d
  have b:0<=i/\i<x.length:=Classical.byContradiction λl=>a (Xbx (by omega));obtain⟨k,rfl⟩:=XE b.1;have c:Yb x k=x.getD k (-1):=by unfold Yb;rw[bK b.1];rfl
  exact bB h.pc aA (Xa.lookup Xb rfl (hm) ((show Bv m (.int .i64 0) k false=.int .i64 (Yb x k) by unfold Bv;rw[(f k (by omega) (by rw[<-c];exact a)),c];rfl)) rfl (bE func291 aA ⟨rfl,rfl⟩))
theorem Xfq(i:Int)(w:dD):Xf prog 291 #[.pointer none,.int .i64 i] w (X5 (.int .i64 (-1)) w):=by
 exact aR func291 ntmps291 aA (bE func291 aA ⟨rfl,rfl⟩)
variable {G:Nat->Pg}
theorem Uu{x:List Int}(h:¬Yf x<0):(Yf x).toNat<x.length/\x.getD (Yf x).toNat (-1)=-1:=by
 obtain⟨a,b⟩:=XjY (x:=Y1 x) (by unfold Yf at h;omega);rw[Fq] at a;rw[R0] at b;exact⟨a,show x.getD (G3 (Y1 x)).toNat (-1)=-1 by simpa using b⟩
theorem Oo(x:List Int)(i j:Nat)(v:Int):(x.set i v).getD j (-1)=if i=j/\i<x.length then v else x.getD j (-1):=by
 rw[XA,ZX,XA];by_cases h:i=j
 .subst h;by_cases a:i<x.length
  .simp[a]
  .simp[a]
 .simp[h]
theorem XkP(g:Pg)(x:List Int)(who:Int)(w:dD)(h:Q7 w g x):Xf prog 293 #[E9 g,.int .i64 who] w
 (λv w'=>v=.tuple #[.int .i64 (Eu x who),.int .i64 (Dy x who)]/\Q7 w' g (Qf x who)/\Xc (G8 g) w w'):=by
 have z:=h.bits.len;rw[Fq] at z;by_cases A:who<0
 .have a:Dy x who=1:=by unfold Dy;rw[bK A]
  have j:Eu x who=0:=by unfold Eu;rw[a];rfl
  have ht:Qf x who=x:=by unfold Qf;rw[a];rfl
  rw[a,j,ht];exact aR func293 ntmps293 aA (bI aA (bE func293 aA ⟨rfl,h,Xc.refl _ _⟩))
 .by_cases c:Yf x<0
  .have a:Dy x who=5:=by unfold Dy;rw[bJ A,bK c]
   have j:Eu x who=0:=by unfold Eu;rw[a];rfl
   have ht:Qf x who=x:=by unfold Qf;rw[a];rfl
   have b:((Xu x:Int) == x.length)=true:=by have:=Xa7.1 c;rw[Fq] at this;unfold Xu;rw[this];exact beq_self_eq_true _
   rw[a,j,ht];refine aR func293 ntmps293 aA (aS aA (bG (Un g x w h) aA λC d=>?_));rw[b];exact bI aA (bE func293 aA ⟨rfl,h.bQ d,d.mono (λ_ _ h=>h.elim)⟩)
  .have a:Dy x who=0:=by unfold Dy;rw[bJ A,bJ c]
   have j:Eu x who=Yf x:=by unfold Eu;rw[a];rfl
   have ht:Qf x who=x.set (Yf x).toNat who:=by unfold Qf;rw[a];rfl
   have b:((Xu x:Int) == x.length)=false:=by
    rw[beq_eq_false_iff_ne];intro e;exact c (Xa7.2 (by rw[Fq];unfold Xu at e;omega))
   obtain⟨r,s⟩:=Uu c;rw[a,j,ht];refine aR func293 ntmps293 aA (aS aA (bG (Un g x w h) aA λC d=>?_));rw[b];have k:=h.bQ d;refine aS aA (bB k.pc aA (bG (Xdw g.bb _ C k.bits) aA λH t=>?_));have f:=k.bQ t;obtain⟨m,hm,I,D⟩:=f.own;refine bB f.pc aA (Xa.mapset Xb rfl (hm) λJ E l M=>aN aA ?_);have n:=l.heap f.pc h.npm;refine bB n aA (aP aA (Xdx g.bb _ (G3 (Y1 x)) true J (f.bits.bR l h.nbm f.notab)) ?_);rintro _ K ⟨rfl,u,o⟩;refine aN aA ?_;have y:Fc (Y1 x) (G3 (Y1 x)) true=0:=by
    unfold Fc;rw[bJ (by rw[(Xby x _).2 ⟨by unfold Yf at c;omega,by unfold Yf at r c;omega⟩];decide),bJ (by rw[Ut];unfold Yb;unfold Yf at s;rw[s];split <;> decide),bJ (by simp)]
   have F:Jh (Y1 x) (G3 (Y1 x)) true=Y1 (x.set (Yf x).toNat who):=by
    unfold Jh;rw[bK y,Uo,show(!(who == -1))=true from by simp;omega];rfl
   rw[y];rw[F] at u;have B:Xc (G8 g) H K:=(l.mono λ_ _ h=>.inr h).trans (o.mono λ_ _ h=>.inl h);have p:=o.heap n h.npb;exact Xa.ret2 Xb rfl func293 rfl rfl rfl ⟨rfl,⟨by unfold R1 at p⊢;rw[XG];exact p,u,⟨_,(E.bR o h.nbm.symm),Xbh I _ _,λi G q=>by
    rw[Js,Oo];rw[XG] at G;by_cases e:(i:Int)=G3 (Y1 x)
    .rw[bK e,bK ⟨by unfold Yf;omega,r⟩]
    .rw[Oo] at q;have e':¬((Yf x).toNat=i/\(Yf x).toNat<x.length):=λL=>e (by unfold Yf at L c;omega);rw[bJ e'] at q⊢;rw[bJ e];exact D i G q⟩,h.npb,h.npm,h.nbm⟩,(((d.trans t).mono (λ_ _ h=>h.elim)).trans B)⟩
theorem XkL(g:Pg)(x:List Int)(i:Int)(w:dD)(h:Q7 w g x):Xf prog 296 #[E9 g,.int .i64 i] w
 (λv w'=>v=.int .i64 (Q1 x i)/\Q7 w' g (Yj x i)/\Xc (G8 g) w w'):=by
 have q:Fc (Y1 x) i false=Q1 x i:=by
  unfold Fc Q1;by_cases r:0<=i/\i<x.length
  .rw[bJ (by rw[(Xby x i).2 r];decide),bJ (by simp),bJ (show ¬(i<0\/(x.length:Int)<=i) by omega),Ut];by_cases a:Yb x i=-1
   .rw[bK a,bK (by rw[a];rfl)]
   .rw[bJ a,bJ (by simpa using a)]
  .rw[bK (by cases C:Gy (Y1 x) i;rfl;exact absurd ((Xby x i).1 C) r),bK (by omega)]
 have D:Jh (Y1 x) i false=Y1 (Yj x i):=by
  unfold Jh Yj;rw[q];split
  .rw[Uo];rfl
  .rfl
 have l:(Yj x i).length=x.length:=by unfold Yj;split <;> simp
 obtain⟨m,hm,s,t⟩:=h.own;refine aR func296 ntmps296 aA (bB h.pc aA (Xa.mapdel Xb rfl (hm) λu y b F=>aN aA ?_));have c:=b.heap h.pc h.npm;have z:Bd u g.bb (Y1 x):=h.bits.bR b h.nbm h.notab;refine bB c aA (aP aA (Xdx g.bb _ i false u z) ?_);rintro _ H ⟨rfl,n,d⟩;refine aN aA ?_;rw[q];rw[D] at n;have A:=y.bR d h.nbm.symm;have f:=d.heap c h.npb;exact Xa.ret1 Xb rfl func296 rfl rfl ⟨rfl,⟨by unfold R1 at f⊢;rw[l];exact f,n,⟨_,A,Xfe s _,λj o k=>by
  rw[l] at o;rw[L6 s];by_cases e:(j:Int)=i
  .exfalso
   apply k
   unfold Yj Q1;subst e;have B:Yb x (j:Int)=x.getD j (-1):=by unfold Yb;rw[bK (by omega)];rfl
   rw[bJ (show ¬((j:Int)<0\/(x.length:Int)<=j) by omega)];by_cases a:Yb x (j:Int)=-1
   .rw[bK a,bJ (by decide),<-B];exact a
   .rw[bJ a,bK rfl,XB,Oo,bK ⟨rfl,o⟩]
  .rw[bJ e];have E:(Yj x i).getD j (-1)=x.getD j (-1):=by
    unfold Yj;split
    .rename_i p
     have G:0<=i:=Classical.byContradiction λI=>by unfold Q1 at p;rw[bK (by omega)] at p;cases p
     rw[Oo,bJ (by omega)]
    .rfl
   rw[E] at k⊢;exact t j o k⟩,h.npb,h.npm,h.nbm⟩,(b.mono λ_ _ h=>.inr h).trans (d.mono λ_ _ h=>.inl h)⟩
theorem XkN(g:Pg)(x:List Int)(i who:Int)(w:dD)(h:Q7 w g x):Xf prog 285 #[E9 g,.int .i64 i,.int .i64 who] w
 (λv w'=>v=.int .i64 (Am x i who)/\Q7 w' g (By x i who)/\Xc (G8 g) w w'):=by
 have n:∀e:Int,Am x i who=e->e≠0->By x i who=x:=λe q r=>by unfold By;rw[q,bJ r]
 refine aR func285 ntmps285 aA ?_;by_cases q:who<0
 .have a:Am x i who=1:=by unfold Am;rw[bK (by omega)]
  rw[a,n 1 a (by decide)];exact bI aA (bE func285 aA ⟨rfl,h,Xc.refl _ _⟩)
 refine aS aA ?_;by_cases r:i<0
 .have a:Am x i who=1:=by unfold Am;rw[bK (by omega)]
  rw[a,n 1 a (by decide)];exact bI aA (bE func285 aA ⟨rfl,h,Xc.refl _ _⟩)
 refine aS aA (bB h.pc aA ?_);by_cases C:(x.length:Int)<=i
 .have a:Am x i who=1:=by unfold Am;rw[bK (by omega)]
  rw[a,n 1 a (by decide)];exact bI aA (bE func285 aA ⟨rfl,h,Xc.refl _ _⟩)
 refine aS aA (bB h.pc aA (bH (Ti g.bb _ i w h.bits) aA ?_));rw[Ut];by_cases d:Yb x i=-1
 .have a:Am x i who=9:=by unfold Am;rw[bJ (by omega),bK d]
  rw[a,n 9 a (by decide),d];exact bI aA (bE func285 aA ⟨rfl,h,Xc.refl _ _⟩)
 .have a:Am x i who=0:=by unfold Am;rw[bJ (by omega),bJ d]
  have z:By x i who=x.set i.toNat who:=by unfold By;rw[a];rfl
  rw[a,z];refine aI aA (show(!!(Yb x i == -1))=false by simpa using d) ?_;obtain⟨m,hm,A,s⟩:=h.own;refine bB h.pc aA (Xa.mapset Xb rfl (hm) λD t f B=>aN aA ?_);have l:=f.heap h.pc h.npm;obtain⟨k,rfl⟩:=XE (show 0<=i by omega);have u:Yb x (k:Int)=x.getD k (-1):=by unfold Yb;rw[bK (by omega)];rfl
  have y:Y1 (x.set k who)=Y1 x:=by
   rw[Uo,show(!(who == -1))=true from by simp;omega];apply QD
   intro j;rw[ZX];split
   .rename_i e
    subst e;have:=R0 x k;rw[XA,show(!(x.getD k (-1) == -1))=true from by rw[<-u];simpa using d] at this;cases p:(Y1 x)[k]? with
    |none=>rw[p] at this;cases this
    |some b=>rw[p] at this;simp at this;subst this;rw[bK (XC.1 p).1]
   .rfl
  exact Xa.ret1 Xb rfl func285 rfl rfl ⟨rfl,⟨by unfold R1 at l⊢;rw[XG];exact l,by rw[XB,y];exact(h.bits.bR f h.nbm h.notab),⟨_,t,Xbh A _ _,λj o c=>by
   rw[XB] at o c⊢;rw[XG] at o;rw[Js];rw[Oo] at c⊢;by_cases e:(j:Int)=k
   .have e':k=j:=by omega
    subst e';rw[bK rfl,bK ⟨rfl,o⟩]
   .rw[bJ (show ¬(k=j/\k<x.length) by omega)] at c⊢;rw[bJ e];exact s j o c⟩,h.npb,h.npm,h.nbm⟩,f.mono λ_ _ h=>.inr h⟩
theorem Xfp(i who:Int)(w:dD):Xf prog 285 #[.pointer none,.int .i64 i,.int .i64 who] w (X5 (.int .i64 1) w):=by
 exact aR func285 ntmps285 aA (bE func285 aA ⟨rfl,rfl⟩)
theorem Fl{a t':Nat}{c c':Array dE}{f f':Nat×Nat}(h:w.heap[a]?=some (.cells c t f))(h':w.heap[b]?=some (.cells c' t' f'))(ht:t≠t'):a≠b:=by
 intro e;subst e;rw[h] at h';cases h';exact ht rfl
def Bc(len:Nat)(f:Nat->Int):List dE:=(List.range len).map λi=>.int .i64 (f i)
def Zm(w:dD)(b:Nat)(t:TypeId)(len:Nat)(f:Nat->Int):Prop:=w.heap[b]?=some (.cells (Bc len f).toArray t (0,0))
def X2(f:Nat->Int)(i:Nat)(v:Int):Nat->Int:=λj=>if j=i then v else f j
theorem A2(f:Nat->Int)(i:Nat)(v:Int):X2 f i v i=v:=by unfold X2;rw[bK rfl]
theorem X3(f:Nat->Int)(v:Int)(h:j≠i):X2 f i v j=f j:=by unfold X2;rw[bJ h]
theorem Xcq(len:Nat)(f:Nat->Int):(Bc len f).length=len:=by unfold Bc;simp
theorem Xcr{len:Nat}{v:Int}(hi:i<len):(Bc len f).set i (.int .i64 v)=Bc len (X2 f i v):=by
 refine QD λj=>?_;unfold Bc;rw[ZX];by_cases h:i=j
 .subst h;rw[bK rfl,bK (by simpa using hi),XN,List.getElem?_range hi];simp[X2]
 .rw[bJ h,XN,XN];by_cases a:j<len
  .rw[List.getElem?_range a];simp[X2,Ne.symm h]
  .rw[ZF (by simpa using a)];rfl
theorem Ca{t:TypeId}{len:Nat}(h:Zm w b t len f)(e:j=k)(hk:k<len):w.cell? ⟨b,j,none⟩=some (.int .i64 (f k)):=by
 subst e;rw[Ys h];unfold Bc;simp[hk]
theorem Xb7:∀(l:List dE) (i:Nat) (v:dE) (vs:List dE),i<l.length->Z4 l i (v::vs)=Z4 (l.set i v) (i+1) vs
 |x::r,0,v,vs,_=>rfl
 |x::r,i+1,v,vs,h=>by
  show(match Z4 r i (v::vs) with|some q=>some (x::q)|none=>none)=(match Z4 (r.set i v) (i+1) vs with|some q=>some (x::q)|none=>none)
  rw[Xb7 r i v vs (by simpa using h)]
theorem Fw{len:Nat}{v:Int}(e:j=i)(hi:i<len):Z4 (Bc len f) j [.int .i64 v]=some (Bc len (X2 f i v)):=by
 subst e;rw[J8 _ _ _ (by rw[Xcq];exact hi),Xcr hi]
theorem Pm{len:Nat}{v:Int}(e:j=i)(hi:i+1<len):Z4 (Bc len f) j [.int .i64 v,.int .i64 u]=some (Bc len (X2 (X2 f i v) (i+1) u)):=by
 subst e;rw[Xb7 _ _ _ _ (by rw[Xcq];omega),Xcr (by omega),Fw rfl hi]
theorem Xgu{len:Nat}{v:Int}(e:j=i)(hi:i+2<len):Z4 (Bc len f) j [.int .i64 v,.int .i64 u,.int .i64 z]=some (Bc len (X2 (X2 (X2 f i v) (i+1) u) (i+2) z)):=by
 subst e;rw[Xb7 _ _ _ _ (by rw[Xcq];omega),Xcr (by omega),Pm rfl (by omega)]
structure PlM where
 own:List Int
 free:List Nat
def PlM.take(x:PlM)(who:Int):PlM:=match x.free with
 |[]=>x
 |n::r=>⟨x.own.set n who,r⟩
def PlM.give(x:PlM)(n:Nat):PlM:=⟨x.own.set n (-1),n::x.free⟩
def Dz(n:Nat):PlM:=⟨List.replicate n (-1),List.range n⟩
structure PlM.Good(x:PlM):Prop where
 len:1<=x.own.length/\x.own.length<=1024
 nodup:x.free.Nodup
 free:∀n∈x.free,n<x.own.length/\x.own.getD n 0=-1
 all:∀n,n<x.own.length->x.own.getD n 0=-1->n∈x.free
 many:x.free.length+Xu x.own=x.own.length
structure Pl where
 pb:Nat
 ab:Nat
def Li(P:Pl)(own:List Int)(head:Int):List dE:=[.slice (some ⟨P.ab,0,none⟩) own.length own.length,.int .i64 head,.int .i64 (Xu own:Nat),.func (.func 242) #[] #[]]
abbrev Fb(P:Pl):dE:=.pointer (some ⟨P.pb,0,none⟩)
def Ax(P:Pl):Nat->Prop:=λz=>z=P.pb\/z=P.ab
def Jz(f:Nat->Int)(N:Nat):Int->List Nat->Prop
 |h,[]=>h=N
 |h,a::r=>h=a/\Jz f N (f (a*2+1)) r
theorem Xa5{g:Nat->Int}:∀{l:List Nat} {h:Int},(∀a∈l,f (a*2+1)=g (a*2+1))->Jz f N h l->Jz g N h l
 |[],_,_,hl=>hl
 |a::r,_,hfg,hl=>⟨hl.1,by rw[<-hfg a (by simp)];exact Xa5 (λb hb=>hfg b (by simp[hb])) hl.2⟩
structure Z2(w:dD)(P:Pl)(x:PlM):Prop where
 cV:x.Good
 at':∃head f,w.heap[P.pb]?=some (.cells (Li P x.own head).toArray 291 (0,0))/\Zm w P.ab 337 (x.own.length*2) f/\Jz f x.own.length head x.free/\∀n,n<x.own.length->f (n*2)=x.own.getD n 0
theorem Z2.bR{P:Pl}{x:PlM}(h:Z2 w P x)(hc:Xc S w w')(h1:¬S P.pb)(h2:¬S P.ab):Z2 w' P x:=by
 obtain⟨head,f,a,b,c⟩:=h.at';exact⟨h.cV,head,f,hc.heap a h1,hc.heap b h2,c⟩
theorem Z2.bQ{P:Pl}{x:PlM}(h:Z2 w P x)(hc:Xc Xe w w'):Z2 w' P x:=h.bR hc id id
theorem Z2.lt{P:Pl}{x:PlM}(h:Z2 w P x):P.pb<w.heap.size/\P.ab<w.heap.size:=by
 obtain⟨head,f,a,b,c⟩:=h.at';exact⟨Xg a,Xg b⟩
theorem Ik{x:List Int}{v:Int}(h:n<x.length):Xu (x.set n v)+(if x.getD n 0=-1 then 0 else 1)=Xu x+(if v=-1 then 0 else 1):=by
 unfold Xu;rw[Uo];have:=Tt (Y1 x) n (by rw[Fq];exact h) (!(v == -1));have e:(Y1 x)[n]'(by rw[Fq];exact h)=!(x.getD n 0 == -1):=by
  unfold Y1;rw[YU,XA,XD h];rfl
 rw[e] at this;by_cases a:x.getD n 0=-1 <;> by_cases b:v=-1 <;> simp_all
theorem O5(x:List Int):Xu x<=x.length:=by
 unfold Xu;have:=Oc (Y1 x);rw[Fq] at this;exact this
theorem E5(x:List Int)(i j:Nat)(v:Int):(x.set i v).getD j 0=if i=j/\i<x.length then v else x.getD j 0:=by
 rw[XA,ZX,XA];by_cases h:i=j
 .subst h;by_cases a:i<x.length
  .simp[a]
  .simp[a]
 .simp[h]
theorem PlM.Good.take{x:PlM}(h:x.Good){who:Int}(hw:0<=who){n:Nat}{r:List Nat}(hf:x.free=n::r):(x.take who).Good:=by
 obtain⟨o,i,g,j,k⟩:=h;rw[hf] at i g j k;obtain⟨p,hr⟩:=XU.1 i;obtain⟨f,l⟩:=g n (by simp);have e:x.take who=⟨x.own.set n who,r⟩:=by unfold PlM.take;rw[hf]
 rw[e];refine⟨by simpa using o,hr,λm hm=>?_,λm hm c=>?_,?_⟩
 .obtain⟨a,b⟩:=g m (by simp[hm]);have:n≠m:=λe=>p (e▸hm);exact⟨by simpa using a,by show(x.own.set n who).getD m 0=-1;rw[E5,bJ (λh=>this h.1)];exact b⟩
 .replace c:(x.own.set n who).getD m 0=-1:=c;rw[E5] at c;by_cases d:n=m
  .rw[bK ⟨d,f⟩] at c;omega
  .rw[bJ (λh=>d h.1)] at c;have:=j m (by simpa using hm) c;rcases ZB.1 this with h|h
   .exact absurd h.symm d
   .exact h
 .have:=Ik (v:=who) f;rw[bK l,bJ (by omega)] at this;simp only[XG,XO] at k⊢;omega
theorem PlM.Good.give{x:PlM}(h:x.Good){n:Nat}(hn:n<x.own.length)(ho:x.own.getD n 0≠-1):(x.give n).Good:=by
 obtain⟨f,g,d,i,j⟩:=h;refine⟨by simpa [PlM.give] using f,?_,λm hm=>?_,λm hm c=>?_,?_⟩
 .exact XU.2 ⟨λh=>ho (d n h).2,g⟩
 .rcases ZB.1 hm with rfl|hm
  .exact⟨by simpa [PlM.give] using hn,by show(x.own.set m (-1)).getD m 0=-1;rw[E5,bK ⟨rfl,hn⟩]⟩
  .obtain⟨a,b⟩:=d m hm;refine⟨by simpa [PlM.give] using a,?_⟩;show(x.own.set n (-1)).getD m 0=-1
   rw[E5];split
   .rfl
   .exact b
 .replace c:(x.own.set n (-1)).getD m 0=-1:=c;replace hm:m<x.own.length:=by simpa [PlM.give] using hm
  show m∈n::x.free
  by_cases e:n=m
  .rw[e];exact ZP
  .rw[E5,bJ (λh=>e h.1)] at c;exact YC _ (i m hm c)
 .have:=Ik (v:=-1) hn;rw[bJ ho,bK rfl] at this;show(n::x.free).length+Xu (x.own.set n (-1))=(x.own.set n (-1)).length
  simp only[XG,XO];omega
theorem Ij(n:Nat):Xu (List.replicate n (-1))=0:=by
 unfold Xu Y1;rw[List.map_replicate];exact XaC n
theorem XkW(h:1<=n/\n<=1024):(Dz n).Good:=by
 refine⟨by simpa [Dz] using h,List.nodup_range,λm hm=>?_,λm hm _=>?_,?_⟩
 .have:=List.mem_range.1 hm;refine⟨by simpa [Dz] using this,?_⟩;show(List.replicate n (-1)).getD m 0=-1
  rw[XA,ZE,bK this];rfl
 .exact List.mem_range.2 (by simpa [Dz] using hm)
 .show(List.range n).length+Xu (List.replicate n (-1))=(List.replicate n (-1)).length
  rw[Ij];simp
theorem Xk4(P:Pl)(x:PlM)(n:Int)(w:dD)(h:Z2 w P x):Xf prog 276 #[Fb P,.int .i64 n] w (X5 (.bool (decide (0<=n) && decide (n<x.own.length))) w):=by
 obtain⟨head,f,b,c,d,g⟩:=h.at';refine aR func276 ntmps276 aA (aT aA (λa=>?_) λa=>?_)
 .refine bB b aA ?_;rw[a];exact bE func276 aA ⟨rfl,rfl⟩
 .rw[a];exact bE func276 aA ⟨rfl,rfl⟩
theorem Xk0(P:Pl)(x:PlM)(w:dD)(h:Z2 w P x):Xf prog 161 #[Fb P] w (X5 (.int .i64 (Xu x.own:Nat)) w):=by
 obtain⟨head,f,a,b,c,d⟩:=h.at';exact aR func161 ntmps161 aA (bB a aA (bE func161 aA ⟨rfl,rfl⟩))
theorem XfB(P:Pl)(x:PlM)(w:dD)(h:Z2 w P x):Xf prog 193 #[Fb P] w (Grow (.int .i64 (x.free.length:Nat)) w):=by
 obtain⟨head,f,b,d,g,i⟩:=h.at';have hm:=h.cV.many;have j:=h.cV.len;exact aR func193 ntmps193 aA (aQ 11 Xe (by kernel_rfl) aA λa=>aE a b aA (aE a b aA (aC a aA (aF a aA λk c=>bE func193 aA ⟨Xz (by omega),c⟩))))
variable {pl':PlM}
def Fa(x:PlM)(who:Int):Int:=if who<0 then 1 else if x.free.length=0 then 5 else 0
def Jb(x:PlM)(who:Int):Int:=if Fa x who=0 then (x.free.getD 0 0:Nat) else 0
def Il(x:PlM)(who:Int):PlM:=if Fa x who=0 then x.take who else x
theorem XbC(P:Pl)(x:PlM)(who:Int)(w:dD)(h:Z2 w P x):Xf prog 240 #[Fb P,.int .i64 who] w
 (λv w'=>v=.tuple #[.int .i64 (Jb x who),.int .i64 (Fa x who)]/\Z2 w' P (Il x who)/\Xc (Ax P) w w'):=by
 have d:=h.cV;have J:=h.cV.len;obtain⟨own,free⟩:=x;obtain⟨head,f,c,l,s,F⟩:=h.at';replace c:w.heap[P.pb]?=some (.cells (Li P own head).toArray 291 (0,0)):=c;replace l:Zm w P.ab 337 (own.length*2) f:=l;replace s:Jz f own.length head free:=s;replace F:∀m,m<own.length->f (m*2)=own.getD m 0:=F;replace J:1<=own.length/\own.length<=1024:=J;have eN:∀e,Fa ⟨own,free⟩ who=e->e≠0->Jb ⟨own,free⟩ who=0/\Il ⟨own,free⟩ who=⟨own,free⟩:=λe c l=>by
  unfold Jb Il;rw[c,bJ l,bJ l];exact⟨rfl,rfl⟩
 refine Xf.enter func240 rfl ntmps240 rfl rfl ?_;refine aN rfl ?_;refine Xa.fork Xb rfl rfl rfl (λG=>?_) (λG=>?_)
 .have t:who<0:=bL G;have e1:Fa ⟨own,free⟩ who=1:=by unfold Fa;rw[bK t]
  rw[(eN 1 e1 (by decide)).1,(eN 1 e1 (by decide)).2,e1];exact bE func240 aA ⟨rfl,h,Xc.refl _ _⟩
 have t:¬who<0:=bM G;refine Xa.drawn (q:=11) Xe Xb Xo (by kernel_rfl) rfl ?_;intro H;refine Xd.cJ Xb H rfl c (by first|exact λh=>h|(intro h;omega)|assumption) rfl rfl ?_;refine Xd.cJ Xb H rfl c (by first|exact λh=>h|(intro h;omega)|assumption) rfl rfl ?_;refine Xd.nil H ?_;intro M b;refine aN rfl ?_;have g:=b.bP c;have o:Zm M P.ab 337 (own.length*2) f:=b.bP l;cases free with
 |nil=>
  have e:head=own.length:=s;subst e;have e1:Fa ⟨own,[]⟩ who=5:=by unfold Fa;rw[bJ t];rfl
  rw[(eN 5 e1 (by decide)).1,(eN 5 e1 (by decide)).2,e1];refine Xa.yes Xb rfl (beq_self_eq_true _) rfl ?_;exact bE func240 aA ⟨rfl,h.bQ b,b.gr⟩
 |cons n r=>
  obtain⟨rfl,hr⟩:=s;obtain⟨u,I⟩:=d.free n (by simp);replace u:n<own.length:=u;replace I:own.getD n 0=-1:=I;have e1:Fa ⟨own,n::r⟩ who=0:=by unfold Fa;rw[bJ t];rfl
  have e2:Jb ⟨own,n::r⟩ who=n:=by unfold Jb;rw[bK e1];rfl
  have e3:Il ⟨own,n::r⟩ who=⟨own.set n who,r⟩:=by unfold Il;rw[bK e1];rfl
  rw[e1,e2,e3];refine Xa.no Xb rfl (by simp;omega) rfl ?_;refine Xa.cJ Xb rfl g rfl rfl ?_;refine Xa.cJ Xb rfl g rfl rfl ?_;refine Xa.index Xb rfl (j:=(n*2)) (by omega) (by omega) (by first|rfl|omega|(simp;done)|(simp;omega)) rfl ?_;have p:=Fl o g (by decide);refine aW aA (Ca o (k:=n*2+1) (by show 0+n*2+1=_;omega) (by omega)) aA (bF g aA λU y A R=>bB y aA (aU (n*2) aA (aL aA (A.heap o p) (Fw (i:=n*2) (by show 0+n*2+0=_;omega) (by omega)) aA λV K B S=>?_)));have C:=B.heap y p.symm;refine bB C aA (aJ aA (by have:=O5 own;omega) (bF C aA λN L D T=>?_));have O:=Ik (x:=own) (n:=n) (v:=who) u;rw[bK I,bJ (by omega)] at O;have Q:Xc (Ax P) w N:=(b.gr.trans (A.mono λz _ e=>.inl e)).trans ((B.mono λz _ e=>.inr e).trans (D.mono λz _ e=>.inl e));have E:=d.take (who:=who) (by omega) (n:=n) (r:=r) rfl;have e:PlM.take ⟨own,n::r⟩ who=⟨own.set n who,r⟩:=rfl;rw[e] at E;exact Xa.ret2 Xb rfl func240 rfl rfl rfl ⟨rfl,⟨E,f (n*2+1),X2 f (n*2) who,by
   unfold Li;simp only[XG];rw[show((Xu (own.set n who):Nat):Int)=(Xu own:Nat)+1 by omega];exact L,by
   show Zm _ _ _ ((own.set n who).length*2) _
   rw[XG];exact(D.heap K p),by
   show Jz _ (own.set n who).length _ r
   rw[XG];exact Xa5 (λa _=>(X3 f who (by omega)).symm) hr,λm hm=>by
   replace hm:m<own.length:=by simpa using hm
   show X2 f (n*2) who (m*2)=(own.set n who).getD m 0
   rw[E5];by_cases e:n=m
   .subst e;rw[A2,bK ⟨rfl,u⟩]
   .rw[X3 _ _ (by omega),bJ (λh=>e h.1)];exact F m hm⟩,Q⟩
def Fs(x:PlM)(n:Int):Int:=if n<0\/(x.own.length:Int)<=n then 1 else if Yb x.own n=-1 then 9 else 0
def Hx(x:PlM)(n:Int):PlM:=if Fs x n=0 then x.give n.toNat else x
theorem XbB(P:Pl)(x:PlM)(n:Int)(w:dD)(h:Z2 w P x):Xf prog 228 #[Fb P,.int .i64 n] w
 (λv w'=>v=.int .i64 (Fs x n)/\Z2 w' P (Hx x n)/\Xc (Ax P) w w'):=by
 have d:=h.cV;have G:=h.cV.len;obtain⟨own,free⟩:=x;obtain⟨head,f,b,l,E,r⟩:=h.at';replace b:w.heap[P.pb]?=some (.cells (Li P own head).toArray 291 (0,0)):=b;replace l:Zm w P.ab 337 (own.length*2) f:=l;replace E:Jz f own.length head free:=E;replace r:∀m,m<own.length->f (m*2)=own.getD m 0:=r;replace G:1<=own.length/\own.length<=1024:=G;have eN:∀e,Fs ⟨own,free⟩ n=e->e≠0->Hx ⟨own,free⟩ n=⟨own,free⟩:=λe b l=>by
  unfold Hx;rw[b,bJ l]
 refine Xf.enter func228 rfl ntmps228 rfl rfl ?_;refine aN rfl ?_;refine aP rfl (Xk4 P ⟨own,free⟩ n w h) ?_;rintro _ _ ⟨rfl,rfl⟩;refine aN rfl ?_;by_cases g:0<=n/\n<own.length
 .obtain⟨k,rfl⟩:=XE g.1;have o:k<own.length:=by omega
  have t:Yb own k=own.getD k 0:=by
   unfold Yb;rw[bK g.1];simp only[XB];rw[XA,XA,XD o];rfl
  refine Xa.no Xb rfl (by rw[bN g.1,bN g.2];rfl) rfl ?_;refine Xa.cJ Xb rfl b rfl rfl ?_;refine Xa.index Xb rfl (j:=(k*2)) (by omega) (by omega) (by first|rfl|omega|(simp;done)|(simp;omega)) rfl ?_;refine aW aA (Ca l (k:=k*2) (by show 0+k*2+0=_;omega) (by omega)) aA ?_;rw[r k o];by_cases c:own.getD k 0=-1
  .have e1:Fs ⟨own,free⟩ k=9:=by unfold Fs;rw[bJ (by simp only;omega),t,bK c]
   rw[eN 9 e1 (by decide),e1];exact aM aA (by rw[c];rfl) (bE func228 aA ⟨rfl,h,Xc.refl _ _⟩)
  .have e1:Fs ⟨own,free⟩ k=0:=by unfold Fs;rw[bJ (by simp only;omega),t,bJ c]
   have e2:Hx ⟨own,free⟩ k=⟨own.set k (-1),k::free⟩:=by unfold Hx;rw[bK e1];rfl
   rw[e1,e2];refine aI aA (by simpa using c) (aQ 10 Xe (by kernel_rfl) aA λs=>aE s b aA (aE s b aA (Xd.build Xb s rfl rfl (aF s aA λT p=>?_))));have u:=p.bP b;have y:=p.bP l;have q:=Fl y u (by decide);refine aU (k*2) aA (aL aA y (Pm (i:=k*2) (by show 0+k*2=_;omega) (by omega)) aA λU H A O=>?_);refine bF (A.heap u q.symm) aA λV B C Q=>?_;refine bB B aA (aJ aA (by have:=O5 own;omega) (bF B aA λK I D R=>?_));have L:=Ik (x:=own) (n:=k) (v:=-1) o;rw[bJ c,bK rfl] at L;have M:Xc (Ax P) w K:=(p.gr.trans (A.mono λz _ e=>.inr e)).trans ((C.mono λz _ e=>.inl e).trans (D.mono λz _ e=>.inl e));have J:k∉free:=λh=>c (d.free k h).2;exact Xa.ret1 Xb rfl func228 rfl rfl ⟨rfl,⟨(d.give (n:=k) o c),k,X2 (X2 f (k*2) (-1)) (k*2+1) head,by
    unfold Li;simp only[XG];rw[show((Xu (own.set k (-1)):Nat):Int)=(Xu own:Nat)-1 by omega];exact I,by
    show Zm _ _ _ ((own.set k (-1)).length*2) _
    rw[XG];exact(D.heap (C.heap H q) q),by
    show Jz _ (own.set k (-1)).length _ (k::free)
    rw[XG];refine⟨rfl,?_⟩;rw[A2];exact Xa5 (λa N=>by rw[X3 _ _ (by intro e;exact J ((by omega:a=k)▸N)),X3 _ _ (by omega)]) E,λm hm=>by
    replace hm:m<own.length:=by simpa using hm
    show X2 (X2 f (k*2) (-1)) (k*2+1) head (m*2)=(own.set k (-1)).getD m 0
    rw[E5,X3 _ _ (by omega)];by_cases e:k=m
    .subst e;rw[A2,bK ⟨rfl,o⟩]
    .rw[X3 _ _ (by omega),bJ (λh=>e h.1)];exact r m hm⟩,M⟩
 .have S:(!(decide (0<=n) && decide (n<own.length)))=true:=by
   by_cases F:0<=n
   .rw[bN F,bO (λh=>g ⟨F,h⟩)];rfl
   .rw[bO F];rfl
  have e1:Fs ⟨own,free⟩ n=1:=by unfold Fs;rw[bK (by simp only;omega)]
  rw[eN 1 e1 (by decide),e1];exact bI aA (bE func228 aA ⟨rfl,h,Xc.refl _ _⟩)
theorem Xk3(n:Int)(w:dD)(h : -9223372036854775808<=n+1/\n+1<=9223372036854775807):Xf prog 242 #[.int .i64 n] w (X5 (.int .i64 (n+1)) w):=by
 exact aR func242 ntmps242 aA (aV aA (bE func242 aA ⟨rfl,rfl⟩))
def R6(P:Pl)(N:Nat):List dE:=[.slice (some ⟨P.ab,0,none⟩) N N,.int .i64 0,.int .i64 0,.func (.func 242) #[] #[]]
theorem Xk5(P:Pl)(N k:Nat)(f:Nat->Int)(w:dD)(h1:w.heap[P.pb]?=some (.cells (R6 P N).toArray 291 (0,0)))(h2:Zm w P.ab 337 (N*2) f)(hk:k<N)(hN:N<=1024):Xf prog 244 #[Fb P,.int .i64 k] w (λ_ w'=>Zm w' P.ab 337 (N*2) (X2 (X2 f (k*2) (-1)) (k*2+1) (k+1))/\Xc (λz=>z=P.ab) w w'):=by
 exact aR func244 ntmps244 aA (aQ 12 Xe (by kernel_rfl) aA λa=>aE a h1 aA (aE a h1 aA (aH a (λw' j=>Xk3 k w' (by omega)) aA (Xd.build Xb a rfl rfl (aF a aA λg b=>aU (k*2) aA (aL aA (show g.heap[P.ab]?=some (.cells (Bc (N*2) f).toArray 337 (0,0)) from b.bP h2) (Pm (i:=k*2) (by show 0+k*2=_;omega) (by omega)) aA λm c d l=>bE func244 aA ⟨c,b.gr.trans d⟩))))))
def Ir:Nat->Nat->Int
 |0=>λ_=>0
 |k+1=>X2 (X2 (Ir k) (k*2) (-1)) (k*2+1) (k+1)
theorem Xhh:∀(k n:Nat),n<k->Ir k (n*2)=-1
 |k+1,n,h=>by
  show X2 (X2 (Ir k) (k*2) (-1)) (k*2+1) (k+1) (n*2)=-1
  rw[X3 _ _ (by omega)];by_cases e:n=k
  .subst e;exact A2 ..
  .rw[X3 _ _ (by omega)];exact Xhh k n (by omega)
theorem Xhg:∀(k n:Nat),n<k->Ir k (n*2+1)=n+1
 |k+1,n,h=>by
  show X2 (X2 (Ir k) (k*2) (-1)) (k*2+1) (k+1) (n*2+1)=n+1
  by_cases e:n=k
  .subst e;exact A2 ..
  .rw[X3 _ _ (by omega),X3 _ _ (by omega)];exact Xhg k n (by omega)
theorem XeO(h:∀n,n<N->f (n*2+1)=n+1):∀(m k:Nat),k+m=N->Jz f N k (List.range' k m)
 |0,k,e=>by show(k:Int)=N;omega
 |m+1,k,e=>by
  rw[List.range'_succ];refine⟨rfl,?_⟩;rw[h k (by omega)];exact XeO h m (k+1) (by omega)
theorem Xk2(P:Pl)(N:Nat)(w:dD)(h1:w.heap[P.pb]?=some (.cells (R6 P N).toArray 291 (0,0)))(h2:Zm w P.ab 337 (N*2) (Ir 0))(hN:N<=1024):Xf prog 243 #[Fb P,.func (.func 244) #[Fb P] #[]] w (λ_ w'=>Zm w' P.ab 337 (N*2) (Ir N)/\Xc (λz=>z=P.ab) w w'):=by
 refine aR func243 ntmps243 aA (bB h1 aA ?_);refine Xa.loop (α:=Nat) (λk=>[(1,false,.func (.func 244) #[Fb P] #[]),(9,false,.int .i64 N),(10,false,.int .i64 k)])
  (λk w'=>k<=N/\Zm w' P.ab 337 (N*2) (Ir k)/\Xc (λz=>z=P.ab) w w') (λk=>N-k) 0 ⟨rfl,rfl,rfl,trivial⟩ ⟨XQ _,h2,Xc.refl _ _⟩ ?_
 rintro k i ⟨j,b,a⟩ ih;refine aN aA (aT aA (λd=>?_) λd=>?_)
 .have c:k<N:=by have:=bL d;omega
  refine aP aA (Xk5 P N k (Ir k) i (a.heap h1 (Fl h1 h2 (by decide))) b c hN) ?_;rintro _ l ⟨f,g⟩;exact aN aA (aV aA (ih (k+1) _ _ ⟨c,f,a.trans g⟩ (by omega) ⟨rfl,rfl,rfl,trivial⟩))
 .have h:k=N:=by have:=bM d;omega
  subst h;exact bE func243 aA ⟨b,a⟩
theorem XhG(t:Nat->Int)(ht:∀i,t i=0):∀n,Y3 [Value.int .i64 0,Value.int .i64 0] n=Bc (n*2) t
 |0=>rfl
 |n+1=>by
  have e:Bc ((n+1)*2) t=Bc (n*2) t++[.int .i64 0,.int .i64 0]:=by
   unfold Bc;rw[show(n+1)*2=n*2+1+1 by omega,QB,QB,XL,XL];simp[ht]
  have e2:∀m,Bc (m*2) t++[.int .i64 0,.int .i64 0]=[Value.int .i64 0,.int .i64 0]++Bc (m*2) t:=by
   intro m;have:Bc (m*2) t=List.replicate (m*2) (.int .i64 0):=by
    unfold Bc;rw[ZW (g:=λ_=>Value.int .i64 0) (λi _=>by rw[ht]),List.map_const',ZM]
   rw[this];show _++List.replicate 2 _=List.replicate 2 _++_
   rw[List.replicate_append_replicate,List.replicate_append_replicate,Nat.add_comm]
  rw[e,e2,Y3,XhG t ht n]
theorem Xk1(N:Nat)(w:dD)(h:1<=N/\N<=1024):Xf prog 186 #[.int .i64 N] w
 (λv w'=>∃P,v=.tuple #[Fb P,.int .i64 0]/\(w.heap.size<=P.pb/\w.heap.size<=P.ab)/\Z2 w' P (Dz N)/\Xc Xe w w'):=by
 refine aR func186 ntmps186 aA (aS aA (aS aA (Xa.make Xb (m:=N) (k:=N) rfl rfl rfl (XF _) (by first|omega|(show 16*N<=_;omega)) (by omega) λab p e1 c d s=>aN aA (aO aA (bC aA λpb j e2 b f t=>?_)))));replace c:Zm p ab 337 (N*2) (Ir 0):=by
  unfold Zm;rw[c];exact congrArg (λx:List dE=>some (Obj.cells x.toArray 337 (0,0))) (XhG (Ir 0) (λ_=>rfl) N)
 replace b:j.heap[pb]?=some (.cells (R6 ⟨pb,ab⟩ N).toArray 291 (0,0)):=b;refine aP aA (Xk2 ⟨pb,ab⟩ N j b (show Zm _ _ _ _ _ from f.bP c) h.2) ?_;rintro _ q ⟨l,g⟩;refine aN aA ?_;have r:Xc Xe w q:=(d.trans f).bU g (λz u e=>by have:z=ab:=e;omega);have o:=g.heap b (show ¬pb=ab by have:=d.size;omega);have a:(Dz N).own.length=N:=XI;exact Xa.ret2 Xb rfl func186 rfl rfl rfl ⟨⟨pb,ab⟩,rfl,⟨by show _<=pb;omega,by show _<=ab;omega⟩,⟨XkW h,0,Ir N,by
  have e:Li ⟨pb,ab⟩ (Dz N).own 0=R6 ⟨pb,ab⟩ N:=by
   unfold Li R6;rw[a,show Xu (Dz N).own=0 from Ij N];rfl
  rw[e];exact o,by rw[a];exact l,by
  rw[a];show Jz _ _ _ (List.range N)
  rw[List.range_eq_range'];exact XeO (Xhg N) N 0 (by omega),λn i=>by
  rw[a] at i;rw[Xhh N n i];show -1=(List.replicate N (-1)).getD n 0
  rw[XA,ZE,bK i];rfl⟩,r⟩
def Ch:List Nat->Int
 |[]=>-1
 |a::_=>a
def Bu:Int->List Nat->Int
 |p,[]=>p
 |_,a::r=>Bu a r
def I6(f:Nat->Int):Int->List Nat->Prop
 |_,[]=>True
 |p,a::r=>f (a*3)=p/\f (a*3+1)=Ch r/\I6 f a r
theorem Ua{f g:Nat->Int}:∀{l:List Nat} {p:Int},(∀a∈l,f (a*3)=g (a*3)/\f (a*3+1)=g (a*3+1))->I6 f p l->I6 g p l
 |[],_,_,h=>h
 |a::r,p,c,h=>by
  obtain⟨e1,e2⟩:=c a (by simp);exact⟨e1▸h.1,e2▸h.2.1,Ua (λb d=>c b (by simp[d])) h.2.2⟩
theorem Xa2:∀(p:Int) (l:List Nat) (n:Nat) (r:List Nat),Bu p (l++n::r)=Bu n r
 |p,[],n,r=>rfl
 |p,a::l,n,r=>Xa2 a l n r
theorem Kn:∀(p:Int) (l:List Nat),(l=[]/\Bu p l=p)\/∃a∈l,Bu p l=(a:Int)/\∃l',l=l'++[a]
 |p,[]=>.inl ⟨rfl,rfl⟩
 |p,a::r=>by
  rcases Kn a r with⟨rfl,h⟩|⟨b,hb,h,l',e⟩
  .exact .inr ⟨a,by simp,rfl,[],rfl⟩
  .exact .inr ⟨b,by simp[hb],h,a::l',by rw[e];rfl⟩
def Ic(f:Nat->Int)(pr nx:Int):Nat->Int:=
 let f1:=if pr=-1 then f else X2 f (pr.toNat*3+1) nx
 if nx=-1 then f1 else X2 f1 (nx.toNat*3) pr
theorem Od{pr nx:Int}(h1:pr=-1\/j≠pr.toNat*3+1)(h2:nx=-1\/j≠nx.toNat*3):Ic f pr nx j=f j:=by
 unfold Ic;by_cases b:pr=-1
 .rw[bK b];by_cases a:nx=-1
  .rw[bK a]
  .rw[bJ a,X3 _ _ (by omega)]
 .rw[bJ b];by_cases a:nx=-1
  .rw[bK a,X3 _ _ (by omega)]
  .rw[bJ a,X3 _ _ (by omega),X3 _ _ (by omega)]
theorem XiS{a:Nat}{nx:Int}:Ic f a nx (a*3+1)=nx:=by
 unfold Ic;rw[bJ (show ¬(a:Int)=-1 by omega)];by_cases b:nx=-1
 .rw[bK b];exact A2 f (a*3+1) nx
 .rw[bJ b,X3 _ _ (by omega)];exact A2 f (a*3+1) nx
theorem XiR{pr:Int}:Ic f pr b (b*3)=pr:=by
 unfold Ic;rw[bJ (show ¬(b:Int)=-1 by omega)];exact A2 _ (b*3) pr
theorem XeQ{f:Nat->Int}{n:Nat}{l2:List Nat}:∀(l1:List Nat) (p:Int),(l1++n::l2).Nodup->I6 f p (l1++n::l2)->(p=-1\/∃q:Nat,p=q/\q∉l1++n::l2)->I6 (Ic f (Bu p l1) (Ch l2)) p (l1++l2)
 |[],p,d,h,w=>by
  obtain⟨_,_,y⟩:=h;cases l2 with
  |nil=>trivial
  |cons b r=>
   obtain⟨x,l,m⟩:=y;have o:=(XU.1 (XU.1 d).2);show I6 (Ic f p b) p (b::r)
   have g:∀a∈b::r,p=-1\/a*3+1≠p.toNat*3+1:=λa k=>by
    rcases w with h|⟨q,rfl,A⟩
    .exact .inl h
    .refine .inr λe=>A ?_;have:a=q:=by omega
     exact this▸YC _ k
   refine⟨XiR,?_,?_⟩
   .rw[Od (j:=b*3+1) (nx:=(b:Int)) (g b (by simp)) (.inr (by omega))];exact l
   .refine Ua (λa k=>⟨?_,?_⟩) m
    .rw[Od (j:=a*3) (nx:=(b:Int)) (.inr (by omega)) (.inr (λe=>o.1 ((by omega:a=b)▸k)))]
    .rw[Od (j:=a*3+1) (nx:=(b:Int)) (g a (by simp[k])) (.inr (by omega))]
 |a::t,p,d,h,w=>by
  obtain⟨x,l,m⟩:=h;obtain⟨i,u⟩:=XU.1 d;have ih:=XeQ t a u m (.inr ⟨a,rfl,i⟩);show I6 (Ic f (Bu a t) (Ch l2)) p (a::(t++l2))
  refine⟨?_,?_,ih⟩
  .rw[Od (j:=a*3) ?_ ?_]
   .exact x
   .rcases Kn a t with⟨_,h⟩|⟨z,_,h,_⟩ <;> rw[h] <;> exact .inr (by omega)
   .cases l2 with
    |nil=>exact .inl rfl
    |cons b r=>
     refine .inr λe=>i ?_;have:a=b:=by simp only[Ch] at e;omega
     rw[this];simp
  .cases t with
   |nil=>exact XiS
   |cons c s=>
    have B:∃z∈c::s,Bu a (c::s)=(z:Int):=by
     rcases Kn a (c::s) with⟨h,_⟩|⟨z,v,e,_⟩
     .cases h
     .exact⟨z,v,e⟩
    obtain⟨z,v,ez⟩:=B;rw[ez,Od (j:=a*3+1) (pr:=(z:Int)) (.inr (λe=>i ((by omega:a=z)▸QR _ v))) ?_]
    .exact l
    .cases l2 with
     |nil=>exact .inl rfl
     |cons b r=>exact .inr (by omega)
structure Rg where
 lb:Nat
 ab:Nat
 nb:Nat
def Lo(R:Rg):List dE:=[.slice (some ⟨R.ab,0,none⟩) 1 1,.slice (some ⟨R.nb,0,none⟩) 1024 1024]
abbrev Io(R:Rg):dE:=.pointer (some ⟨R.lb,0,none⟩)
def Hy(R:Rg):Nat->Prop:=λz=>z=R.ab\/z=R.nb
structure Ei(w:dD)(R:Rg)(o:List Nat):Prop where
 obj:w.heap[R.lb]?=some (.cells (Lo R).toArray 352 (0,0))
 nodup:o.Nodup
 lt:∀n∈o,n<1024
 at':∃g f,Zm w R.ab 357 3 g/\Zm w R.nb 359 3072 f/\g 0=Ch o/\g 1=Bu (-1) o/\g 2=o.length/\I6 f (-1) o/\∀n,n<1024->f (n*3+2)=if n∈o then 0 else -1
theorem Ei.bR{R:Rg}{o:List Nat}(h:Ei w R o)(hc:Xc S w w')(h1:¬S R.lb)(h2:¬S R.ab)(h3:¬S R.nb):Ei w' R o:=by
 obtain⟨g,f,a,b,c⟩:=h.at';exact⟨hc.heap h.obj h1,h.nodup,h.lt,g,f,hc.heap a h2,hc.heap b h3,c⟩
theorem Ei.bQ{R:Rg}{o:List Nat}(h:Ei w R o)(hc:Xc Xe w w'):Ei w' R o:=h.bR hc id id id
theorem Sd(R:Rg)(w:dD)(h:w.heap[R.lb]?=some (.cells (Lo R).toArray 352 (0,0))):Xf prog 308 #[Io R,.int .i64 0] w (X5 (.pointer (some ⟨R.ab,0,none⟩)) w):=by
 exact aR func308 ntmps308 aA (aS aA (bB h aA (aS aA (bB h aA (aU 0 aA (bE func308 aA ⟨rfl,rfl⟩))))))
theorem Xga(R:Rg)(n:Nat)(w:dD)(h:w.heap[R.lb]?=some (.cells (Lo R).toArray 352 (0,0)))(hn:n<1024):Xf prog 316 #[Io R,.int .i64 n] w (X5 (.pointer (some ⟨R.nb,0+n*3,none⟩)) w):=by
 exact aR func316 ntmps316 aA (aS aA (bB h aA (aS aA (bB h aA (aU (n*3) aA (bE func316 aA ⟨rfl,rfl⟩))))))
theorem Xb0(b:Nat)(t:TypeId)(len:Nat)(f:Nat->Int)(way:Nat)(w:dD)(h:Zm w b t len f)(hw:way<=1)(hl:way<len):Xf prog 310 #[.pointer (some ⟨b,0,none⟩),.int .i64 way] w (X5 (.int .i64 (f way)) w):=by
 exact aR func310 ntmps310 aA (aU way aA (aW aA (Ca h (k:=way) (by show 0+0+way=_;omega) hl) aA (bE func310 aA ⟨rfl,rfl⟩)))
theorem Xgd(R:Rg)(g:Nat->Int)(way:Nat)(to:Int)(w:dD)(h:Zm w R.ab 357 3 g)(hw:way<=1):Xf prog 317 #[Io R,.pointer (some ⟨R.ab,0,none⟩),.int .i64 (-1),.int .i64 way,.int .i64 to] w (λ_ w'=>Zm w' R.ab 357 3 (X2 g (1-way) to)/\Xc (λz=>z=R.ab) w w'):=by
 exact aR func317 ntmps317 aA (bI aA (aV aA (aU (1-way) aA (aL aA h (Fw (i:=1-way) (by show 0+0+(1-way)=_;omega) (by omega)) aA λd b a c=>bE func317 aA ⟨b,a⟩))))
theorem Xgc(R:Rg)(f:Nat->Int)(a way:Nat)(to:Int)(w:dD)(h0:w.heap[R.lb]?=some (.cells (Lo R).toArray 352 (0,0)))(h:Zm w R.nb 359 3072 f)(hw:way<=1)(ha:a<1024):Xf prog 317 #[Io R,.pointer (some ⟨R.ab,0,none⟩),.int .i64 a,.int .i64 way,.int .i64 to] w (λ_ w'=>Zm w' R.nb 359 3072 (X2 f (a*3+way) to)/\Xc (λz=>z=R.nb) w w'):=by
 exact aR func317 ntmps317 aA (aI aA (by simp) (bB h0 aA (aU (a*3) aA (aU way aA (aL aA h (Fw (i:=a*3+way) (by show 0+a*3+0+way=_;omega) (by omega)) aA λg c b d=>bE func317 aA ⟨c,b⟩)))))
theorem Xf8(R:Rg)(o:List Nat)(w:dD)(h:Ei w R o):Xf prog 288 #[Io R,.int .i64 0] w (X5 (.int .i64 (Ch o)) w):=by
 obtain⟨g,f,a,c,b,e1,e2,d,i⟩:=h.at';exact aR func288 ntmps288 aA (bH (Sd R w h.obj) aA (bH (Xb0 R.ab _ 3 g 0 w a (by omega) (by omega)) aA (bE func288 aA ⟨Xz b,rfl⟩)))
theorem Xme(R:Rg)(o:List Nat)(w:dD)(h:Ei w R o):Xf prog 287 #[Io R,.int .i64 0] w (X5 (.int .i64 (Bu (-1) o)) w):=by
 obtain⟨g,f,a,b,c,e1,e2,d,i⟩:=h.at';exact aR func287 ntmps287 aA (bH (Sd R w h.obj) aA (bH (Xb0 R.ab _ 3 g 1 w a (by omega) (by omega)) aA (bE func287 aA ⟨Xz e1,rfl⟩)))
theorem Xmf(R:Rg)(o:List Nat)(w:dD)(h:Ei w R o):Xf prog 283 #[Io R,.int .i64 0] w (X5 (.int .i64 (o.length:Nat)) w):=by
 obtain⟨g,f,a,b,c,e1,e2,d,i⟩:=h.at';exact aR func283 ntmps283 aA (bH (Sd R w h.obj) aA (aW aA (Ca a (k:=2) rfl (by omega)) aA (bE func283 aA ⟨Xz e2,rfl⟩)))
theorem Xf9(R:Rg)(o:List Nat)(n:Nat)(w:dD)(h:Ei w R o)(hn:n<1024)(hno:n∉o)(hlo:o.length<=4096):Xf prog 313 #[Io R,.int .i64 0,.int .i64 n] w (λv w'=>v=.int .i64 0/\Ei w' R (n::o)/\Xc (Hy R) w w'):=by
 obtain⟨g,f,L,M,e0,e1,e2,hl,T⟩:=h.at';have C:=h.obj;have y:R.nb≠R.ab:=Fl M L (by decide);have N:R.lb≠R.ab:=Fl C L (by decide);have O:R.lb≠R.nb:=Fl C M (by decide);have U:f (n*3+2)=-1:=by rw[T n hn,bJ hno]
 refine aR func313 ntmps313 aA (bH (Sd R w C) aA (bH (Xga R n w C hn) aA (aW aA (Ca M (k:=n*3+2) (by show 0+n*3+2=_;omega) (by omega)) aA ?_)));rw[U];refine aS aA (bH (Xb0 R.ab _ 3 g 0 w L (by omega) (by omega)) aA ?_);rw[e0];refine aO aA (aL aA M (Fw (i:=n*3+2) (by show 0+n*3+2=_;omega) (by omega)) aA λw1 V W al=>aL aA V (Pm (i:=n*3) (by show 0+n*3+0=_;omega) (by omega)) aA λD A a0 am=>?_);have q:=W.trans a0;have P:Zm D R.ab 357 3 g:=q.heap L y.symm;have E:=q.heap C O;have key:∀(g' f':Nat->Int) (d:dD),Zm d R.ab 357 3 g'->Zm d R.nb 359 3072 f'->d.heap[R.lb]?=some (.cells (Lo R).toArray 352 (0,0))->Xc (Hy R) w d ->
  g' 0=n->g' 1=Bu (-1) (n::o)->g' 2=o.length+1->I6 f' (-1) (n::o)->(∀m,m<1024->f' (m*3+2)=if m∈n::o then 0 else -1)->Ei d R (n::o)/\Xc (Hy R) w d:=λg' f' d k1 k2 k3 k4 k5 k6 k7 k8 k9=>
  ⟨⟨k3,XU.2 ⟨hno,h.nodup⟩,λm hm=>by rcases ZB.1 hm with rfl|hm;exact hn;exact h.lt m hm,g',f',k1,k2,k5,k6,by rw[k7];simp,k8,k9⟩,k4⟩
 have F:∀m,m<1024->(X2 (X2 (X2 f (n*3+2) 0) (n*3) (-1)) (n*3+1) (Ch o)) (m*3+2)=if m∈n::o then 0 else -1:=λm hm=>by
  rw[X3 _ _ (by omega),X3 _ _ (by omega)];by_cases e:m=n
  .subst e;rw[A2,bK (by simp)]
  .rw[X3 _ _ (by omega),T m hm];simp[e]
 have B:∀j,j≠n*3+2->j≠n*3->j≠n*3+1->(X2 (X2 (X2 f (n*3+2) 0) (n*3) (-1)) (n*3+1) (Ch o)) j=f j:=λj a b c=>by rw[X3 _ _ c,X3 _ _ b,X3 _ _ a]
 have s:(X2 (X2 (X2 f (n*3+2) 0) (n*3) (-1)) (n*3+1) (Ch o)) (n*3)=-1:=by rw[X3 _ _ (by omega),A2]
 have t:(X2 (X2 (X2 f (n*3+2) 0) (n*3) (-1)) (n*3+1) (Ch o)) (n*3+1)=Ch o:=A2 ..;have Q:Xc (Hy R) w D:=q.mono λz _ e=>.inr e;obtain⟨f2,G⟩:∃f2,f2=X2 (X2 (X2 f (n*3+2) 0) (n*3) (-1)) (n*3+1) (Ch o):=⟨_,rfl⟩;rw[<-G] at F B s t;replace A:Zm D R.nb 359 3072 f2:=by rw[G];exact A
 cases o with
 |nil=>
  refine aP aA (Xgd R g 0 n D P (by omega)) ?_;rintro _ d ⟨H,l⟩;refine aN aA (aU 0 aA (aL aA H (Fw (i:=0) rfl (by omega)) aA λw4 p I a1=>aW aA (Ca p (k:=2) rfl (by omega)) aA ?_));have eg:X2 (X2 g (1-0) n) 0 n 2=0:=by rw[X3 _ _ (by decide),X3 _ _ (by decide),e2];rfl
  rw[eg];refine aV aA (aL aA p (Fw (i:=2) rfl (by omega)) aA λS J K a2=>?_);have u:=(l.trans I).trans K;exact bE func313 aA ⟨rfl,key _ f2 S J (u.heap A y) (u.heap E N) (Q.trans (u.mono λz _ e=>.inl e)) (by rw[X3 _ _ (by decide),A2]) (by rw[X3 _ _ (by decide),X3 _ _ (by decide)];exact A2 g 1 n) (by rw[A2];rfl) ⟨s,t,trivial⟩ F⟩
 |cons a r=>
  have an:a≠n:=λe=>hno (e▸ZP);have a3:=h.lt a (by simp);refine aP aA (Xgc R f2 a 0 n D E A (by omega) a3) ?_;rintro _ d ⟨a4,l⟩;refine aN aA ?_;have H:Zm d R.ab 357 3 g:=l.heap P y.symm;refine aU 0 aA (aL aA H (Fw (i:=0) rfl (by omega)) aA λw4 p I a1=>aW aA (Ca p (k:=2) rfl (by omega)) aA ?_);have eg:X2 g 0 n 2=(a::r).length:=by rw[X3 _ _ (by decide),e2]
  rw[eg];refine aJ aA (by simp only[XO] at hlo⊢;omega) (aL aA p (Fw (i:=2) rfl (by omega)) aA λS J K a2=>?_);have x:=I.trans K;have a5:I6 (X2 f2 (a*3+0) n) (-1) (n::a::r):=by
   refine⟨by rw[X3 _ _ (by omega)];exact s,by rw[X3 _ _ (by omega)];exact t,?_⟩;obtain⟨l1,l2,l3⟩:=hl;refine⟨A2 ..,?_,?_⟩
   .rw[X3 _ _ (by omega),B _ (by omega) (by omega) (by omega)];exact l2
   .refine Ua (λb hb=>?_) l3;have ao:b≠n:=λe=>hno (e▸YC _ hb);have ap:b≠a:=λe=>(XU.1 h.nodup).1 (e▸hb);exact⟨by rw[X3 _ _ (by omega),B _ (by omega) (by omega) (by omega)],by rw[X3 _ _ (by omega),B _ (by omega) (by omega) (by omega)]⟩
  exact bE func313 aA ⟨rfl,key _ _ S J (x.heap a4 y) (x.heap (l.heap E O) N) ((Q.trans (l.mono λz _ e=>.inr e)).trans (x.mono λz _ e=>.inl e)) (by rw[X3 _ _ (by decide),A2]) (by rw[X3 _ _ (by decide),X3 _ _ (by decide),e1];try rfl) (by rw[A2]) a5 (λm hm=>by rw[X3 _ _ (by omega)];exact F m hm)⟩
theorem XeP:∀(l1:List Nat) (p:Int),I6 f p (l1++n::l2)->f (n*3)=Bu p l1/\f (n*3+1)=Ch l2
 |[],_,h=>⟨h.1,h.2.1⟩
 |a::t,_,h=>XeP t a h.2.2
def Np(g:Nat->Int)(a:Int)(way:Nat)(to:Int):Nat->Int:=if a=-1 then X2 g (1-way) to else g
def Lx(f:Nat->Int)(a:Int)(way:Nat)(to:Int):Nat->Int:=if a=-1 then f else X2 f (a.toNat*3+way) to
theorem Xgb(R:Rg)(g f:Nat->Int)(a:Int)(way:Nat)(to:Int)(w:dD)(h0:w.heap[R.lb]?=some (.cells (Lo R).toArray 352 (0,0)))(h1:Zm w R.ab 357 3 g)(h2:Zm w R.nb 359 3072 f)(hw:way<=1)(ha:a=-1\/∃k:Nat,a=k/\k<1024):Xf prog 317 #[Io R,.pointer (some ⟨R.ab,0,none⟩),.int .i64 a,.int .i64 way,.int .i64 to] w (λ_ w'=>Zm w' R.ab 357 3 (Np g a way to)/\Zm w' R.nb 359 3072 (Lx f a way to)/\w'.heap[R.lb]?=some (.cells (Lo R).toArray 352 (0,0))/\Xc (Hy R) w w'):=by
 have c:=Fl h2 h1 (by decide);rcases ha with rfl|⟨k,rfl,h⟩
 .exact(Xgd R g way to w h1 hw).mono λ_ w' ⟨d,b⟩=>⟨d,b.heap h2 c,b.heap h0 (Fl h0 h1 (by decide)),b.mono λz _ e=>.inl e⟩
 .refine(Xgc R f k way to w h0 h2 hw h).mono λ_ w' ⟨d,b⟩=>⟨?_,?_,b.heap h0 (Fl h0 h2 (by decide)),b.mono λz _ e=>.inr e⟩
  .unfold Np;rw[bJ (by omega)];exact b.heap h1 c.symm
  .unfold Lx;rw[bJ (by omega)];exact d
theorem XjJ(l:List Nat)(hl:∀n∈l,n<1024):Bu (-1) l=-1\/∃k:Nat,Bu (-1) l=k/\k<1024:=by
 rcases Kn (-1) l with⟨_,h⟩|⟨a,b,h,_⟩
 .exact .inl h
 .exact .inr ⟨a,h,hl a b⟩
theorem Xjn(l:List Nat)(hl:∀n∈l,n<1024):Ch l=-1\/∃k:Nat,Ch l=k/\k<1024:=by
 cases l with
 |nil=>exact .inl rfl
 |cons a r=>exact .inr ⟨a,rfl,hl a (by simp)⟩
theorem XjK{l:List Nat}(h:Bu (-1) l=-1):l=[]:=by
 rcases Kn (-1) l with⟨e,_⟩|⟨a,_,b,_⟩
 .exact e
 .omega
theorem Xjo{l:List Nat}(h:Ch l=-1):l=[]:=by
 cases l with
 |nil=>rfl
 |cons a r=>have:(a:Int)=-1:=h;omega
theorem XbZ(R:Rg)(l1 l2:List Nat)(n:Nat)(w:dD)(h:Ei w R (l1++n::l2))(hlo:(l1++n::l2).length<=4096):Xf prog 295 #[Io R,.int .i64 n] w (λv w'=>v=.int .i64 0/\Ei w' R (l1++l2)/\Xc (Hy R) w w'):=by
 obtain⟨g,f,h1,B,e0,e1,e2,V,W⟩:=h.at';have Q:=h.obj;have hn:=h.lt n (by simp);have s:=h.nodup;have L:n∉l1:=λhm=>(XR.1 s).2.2 n hm n (by simp) rfl;have M:=(XU.1 (XR.1 s).2.1).1;have N:n∉l1++l2:=λhm=>by rcases XS.1 hm with h|h;exact L h;exact M h
 have O:f (n*3+2)=0:=by rw[W n hn,bK (by simp)]
 obtain⟨ea,en⟩:=XeP l1 (-1) V;have S:=XjJ l1 (λm hm=>h.lt m (by simp[hm]));have T:=Xjn l2 (λm hm=>h.lt m (by simp[hm]));have C:=XeQ l1 (-1) s V (.inl rfl);obtain⟨pr,l⟩:∃pr,pr=Bu (-1) l1:=⟨_,rfl⟩;obtain⟨nx,o⟩:∃nx,nx=Ch l2:=⟨_,rfl⟩;rw[<-l] at ea S C;rw[<-o] at en T C;have U:pr=-1\/pr.toNat≠n:=by
  rcases Kn (-1) l1 with⟨_,h⟩|⟨a,D,h,_⟩
  .exact .inl (by rw[l,h])
  .exact .inr (λe=>L (by rw[l,h] at e;exact(show a=n from e)▸D))
 have ad:nx=-1\/nx.toNat≠n:=by
  cases l2 with
  |nil=>exact .inl o
  |cons b r=>exact .inr (λe=>M (by rw[o] at e;exact(show b=n from e)▸ZP))
 refine aR func295 ntmps295 aA (bH (Xga R n w Q hn) aA (aW aA (Ca B (k:=n*3+2) (by show 0+n*3+2=_;omega) (by omega)) aA ?_));rw[O];refine aS aA (aW aA (Ca B (k:=n*3+2) (by show 0+n*3+2=_;omega) (by omega)) aA ?_);rw[O];refine bH (Sd R w Q) aA (aQ 12 Xe (by kernel_rfl) aA λd=>aB 0 d aA (aD d (Ca B (k:=n*3) (by show 0+n*3+0+0=_;omega) (by omega)) aA (aB 1 d aA (aD d (Ca B (k:=n*3+1) (by show 0+n*3+0+1=_;omega) (by omega)) aA (aF d aA λw1 u=>?_)))));rw[ea,en];refine aP aA (Xgb R g f pr 1 nx w1 (u.bP Q) (u.bP h1) (u.bP B) (by omega) S) ?_;rintro _ w2 ⟨a1,E,a2,a3⟩;have k1:Lx f pr 1 nx (n*3+1)=nx:=by
  unfold Lx;by_cases A:pr=-1
  .rw[bK A];exact en
  .rw[bJ A,X3 _ _ (by rcases U with h|h;exact absurd h A;omega)];exact en
 have k2:Lx f pr 1 nx (n*3)=pr:=by
  unfold Lx;by_cases A:pr=-1
  .rw[bK A];exact ea
  .rw[bJ A,X3 _ _ (by omega)];exact ea
 refine aN aA (aQ 12 Xe (by kernel_rfl) aA λd=>aB 1 d aA (aD d (Ca E (k:=n*3+1) (by show 0+n*3+0+1=_;omega) (by omega)) aA (aB 0 d aA (aD d (Ca E (k:=n*3) (by show 0+n*3+0+0=_;omega) (by omega)) aA (aF d aA λw3 x=>?_)))));rw[k1,k2];refine aP aA (Xgb R _ _ nx 0 pr w3 (x.bP a2) (x.bP a1) (x.bP E) (by omega) T) ?_;rintro _ w4 ⟨p,y,F,a4⟩;refine aN aA ?_;have hF:Lx (Lx f pr 1 nx) nx 0 pr=Ic f pr nx:=rfl;rw[hF] at y;obtain⟨G,K⟩:∃G,G=Np (Np g pr 1 nx) nx 0 pr:=⟨_,rfl⟩;rw[<-K] at p;have G2:G 2=(l1++n::l2).length:=by
  rw[K];unfold Np;by_cases a:pr=-1 <;> by_cases b:nx=-1 <;> simp[a,b,X2,e2]
 have G0:G 0=Ch (l1++l2):=by
  rw[K];unfold Np;by_cases a:pr=-1
  .have:l1=[]:=XjK (l▸a);subst this;by_cases b:nx=-1 <;> simp[a,b,X2] <;> rw[<-o] <;> simp[b]
  .have H:l1≠[]:=λe=>a (by rw[l,e];rfl);obtain⟨c,t,rfl⟩:=List.exists_cons_of_ne_nil H;have:g 0=c:=e0;by_cases b:nx=-1 <;> simp[a,b,X2,this] <;> rfl
 have G1:G 1=Bu (-1) (l1++l2):=by
  rw[K];unfold Np;by_cases b:nx=-1
  .have:l2=[]:=Xjo (o▸b);subst this;rw[QP,<-l];by_cases a:pr=-1 <;> simp[a,b,X2]
  .have H:l2≠[]:=λe=>b (by rw[o,e];rfl);obtain⟨c,t,rfl⟩:=List.exists_cons_of_ne_nil H;have a5:g 1=Bu (-1) (l1++c::t):=by rw[e1,Xa2,Xa2];rfl
   rw[<-a5];by_cases a:pr=-1 <;> simp[a,b,X2]
 refine aW aA (Ca p (k:=2) rfl (by omega)) aA ?_;rw[G2];have P:=Fl y p (by decide);refine aV aA (aL aA p (Fw (i:=2) rfl (by omega)) aA λw5 a6 I an=>aO aA (aL aA (I.heap y P) (Fw (i:=n*3+2) (by show 0+n*3+2=_;omega) (by omega)) aA λw6 a7 a8 ao=>aL aA a7 (Pm (i:=n*3) (by show 0+n*3+0=_;omega) (by omega)) aA λw7 a9 aa ap=>?_));have q:=a8.trans aa;have J:∀j,j≠n*3+2->j≠n*3->j≠n*3+1->(X2 (X2 (X2 (Ic f pr nx) (n*3+2) (-1)) (n*3) (-1)) (n*3+1) (-1)) j=Ic f pr nx j:=λj a b c=>by rw[X3 _ _ c,X3 _ _ b,X3 _ _ a]
 exact Xa.ret1 Xb rfl func295 rfl rfl ⟨rfl,⟨q.heap (I.heap F (Fl F p (by decide))) (Fl F y (by decide)),by
  have:=s;rw[XR] at this⊢;exact⟨this.1,(XU.1 this.2.1).2,λa D b hb=>this.2.2 a D b (by simp[hb])⟩,λm hm=>h.lt m (by rcases XS.1 hm with h|h <;> simp[h]),_,_,q.heap a6 P.symm,a9,by rw[X3 _ _ (by decide)];exact G0,by rw[X3 _ _ (by decide)];exact G1,by rw[A2];simp;omega,Ua (λa D=>by
  have:a≠n:=λe=>N (e▸D);exact⟨(J _ (by omega) (by omega) (by omega)).symm,(J _ (by omega) (by omega) (by omega)).symm⟩) C,λm hm=>by
  by_cases e:m=n
  .subst e;rw[X3 _ _ (by omega),X3 _ _ (by omega),A2,bJ N]
  .rw[J _ (by omega) (by omega) (by omega),Od (by rcases S with h|⟨k,h,_⟩;exact .inl h;exact .inr (by omega)) (by rcases T with h|⟨k,h,_⟩;exact .inl h;exact .inr (by omega)),W m hm];simp[e]⟩,(((u.gr.trans a3).trans (x.gr.trans a4)).trans (I.mono λz _ e=>.inl e)).trans (q.mono λz _ e=>.inr e)⟩
theorem Xg9(n:Nat)(t:Nat->Int)(ht:∀i,t i=0):Bc n t=List.replicate n (.int .i64 0):=by
 unfold Bc;rw[ZW (g:=λ_=>Value.int .i64 0) (λi _=>by rw[ht]),List.map_const',ZM]
theorem Xc1(c:Nat):∀n,Y3 (List.replicate c (Value.int .i64 0)) n=List.replicate (n*c) (Value.int .i64 0)
 |0=>by rw[Nat.zero_mul];rfl
 |n+1=>by rw[Y3,Xc1 c n,List.replicate_append_replicate,Nat.succ_mul,Nat.add_comm]
def Km:Nat->Nat->Int
 |0=>λ_=>0
 |k+1=>X2 (X2 (X2 (Km k) (k*3) (-1)) (k*3+1) (-1)) (k*3+2) (-1)
theorem XeE:∀(k n:Nat),n<k->Km k (n*3+2)=-1
 |k+1,n,h=>by
  show X2 (X2 (X2 (Km k) (k*3) (-1)) (k*3+1) (-1)) (k*3+2) (-1) (n*3+2)=-1
  by_cases e:n=k
  .subst e;exact A2 ..
  .rw[X3 _ _ (by omega),X3 _ _ (by omega),X3 _ _ (by omega)];exact XeE k n (by omega)
def Or:Nat->Nat->Int
 |0=>λ_=>0
 |k+1=>X2 (X2 (Or k) (k*3) (-1)) (k*3+1) (-1)
theorem Xmg(w:dD):Xf prog 246 #[.int .i64 1024,.int .i64 1] w
 (λv w'=>∃R,v=.tuple #[Io R,.int .i64 0]/\(w.heap.size<=R.lb/\w.heap.size<=R.ab/\w.heap.size<=R.nb)/\Ei w' R []/\Xc Xe w w'):=by
 refine aR func246 ntmps246 aA (aS aA (aS aA (aS aA (aS aA ?_))));have F:∀{W:dD} {z:Nat},W.heap[z]?=some (.cells (Y3 (Yz (Value.agg #[Value.int .i64 0,Value.int .i64 0,Value.int .i64 0])) 1).toArray 357 (0,0))->Zm W z 357 3 (Or 0):=λthis=>by
  rw[show Y3 (Yz (Value.agg #[Value.int .i64 0,Value.int .i64 0,Value.int .i64 0])) 1=_ from Xc1 3 1] at this;unfold Zm;rw[Xg9 3 (Or 0) (λ_=>rfl)];exact this
 have y:∀{W:dD} {z:Nat},W.heap[z]?=some (.cells (Y3 (Yz (Value.agg #[Value.int .i64 0,Value.int .i64 0,Value.int .i64 0])) 1024).toArray 359 (0,0))->Zm W z 359 3072 (Km 0):=λthis=>by
  rw[show Y3 (Yz (Value.agg #[Value.int .i64 0,Value.int .i64 0,Value.int .i64 0])) 1024=_ from Xc1 3 1024] at this;unfold Zm;rw[Xg9 3072 (Km 0) (λ_=>rfl)];exact this
 apply Xa.cut (α:=Nat×Nat) (λx=>[(24,false,.slice (some ⟨x.1,0,none⟩) 1 1),(26,false,.slice (some ⟨x.2,0,none⟩) 1024 1024)]) (λx p=>Zm p x.1 357 3 (Or 0)/\Zm p x.2 359 3072 (Km 0)/\Xc Xe w p/\w.heap.size<=x.1/\w.heap.size<=x.2)
 .intro J;refine aQ 4 Xe (by kernel_rfl) aA λg=>?_;refine Xd.turn2 g rfl ?_ ?_
  .intro P j;refine Xn.make Xb g rfl (m:=1) (kk:=1) rfl rfl (XF _) (by decide) (by decide) (λ_=>rfl) λab Q e2 a q G=>Xd.cK g rfl λS c=>Xn.make Xb g rfl (m:=1024) (kk:=1024) rfl rfl (XF _) (by decide) (by decide) (λ_=>rfl) λnb T e4 b l H=>?_;have I:=j.size;have K:=c.size;exact aF g aA λp d=>J (ab,nb) _ _ ⟨F (((c.trans l).trans d).bP a),y ((d).bP b),(((j.trans q).trans c).trans l).trans d,by omega,by omega⟩ ⟨rfl,rfl,trivial⟩
  .intro P j;refine Xn.make Xb g rfl (m:=1024) (kk:=1024) rfl rfl (XF _) (by decide) (by decide) (λ_=>rfl) λnb Q e2 b q G=>Xd.cK g rfl λS c=>Xn.make Xb g rfl (m:=1) (kk:=1) rfl rfl (XF _) (by decide) (by decide) (λ_=>rfl) λab T e4 a l H=>?_;have I:=j.size;have K:=c.size;exact aF g aA λp d=>J (ab,nb) _ _ ⟨F ((d).bP a),y (((c.trans l).trans d).bP b),(((j.trans q).trans c).trans l).trans d,by omega,by omega⟩ ⟨rfl,rfl,trivial⟩
 .rintro⟨ab,nb⟩ p ⟨a,b,A,za,zb⟩;simp only at a b za zb
  have B:=Fl a b (by decide);have U:=Xg a;have V:=Xg b;have a0:=A.size;refine aO aA (bC aA λlb w6 e6 r s a6=>?_);refine bB r aA ?_;refine Xa.loop (α:=Nat) (λk=>[(6,false,.pointer (some ⟨lb,0,none⟩)),(33,false,.int .i64 1),(34,false,.int .i64 k)])
   (λk w'=>k<=1/\Zm w' ab 357 3 (Or k)/\Xc (λz=>z=ab) w6 w') (λk=>1-k) 0 ⟨rfl,rfl,rfl,trivial⟩ ⟨XQ _,s.bP a,Xc.refl _ _⟩ ?_
  rintro k w7 ⟨hk,L,n⟩ ih;refine aN aA (aT aA (λC=>?_) λC=>?_)
  .have t:k<1:=by have:=bL C;omega
   exact bB (n.heap r (by omega)) aA (aO aA (aU (k*3) aA (aL aA L (Pm (i:=k*3) (by show 0+k*3+0+0=_;omega) (by omega)) aA λw8 u f a7=>aV aA (ih (k+1) _ _ ⟨t,u,n.trans f⟩ (by omega) ⟨rfl,rfl,rfl,trivial⟩))))
  have M:k=1:=by have:=bM C;omega
  subst M;have o:=n.heap r (by omega);refine bB o aA ?_;refine Xa.loop (α:=Nat) (λk=>[(6,false,.pointer (some ⟨lb,0,none⟩)),(51,false,.int .i64 1024),(52,false,.int .i64 k)])
   (λk w'=>k<=1024/\Zm w' nb 359 3072 (Km k)/\Xc (λz=>z=nb) w7 w') (λk=>1024-k) 0 ⟨rfl,rfl,rfl,trivial⟩ ⟨XQ _,(n.heap (s.bP b) B.symm),Xc.refl _ _⟩ ?_
  rintro k w8 ⟨a8,u,f⟩ N;refine aN aA (aT aA (λD=>?_) λD=>?_)
  .have t:k<1024:=by have:=bL D;omega
   exact bB (f.heap o (by omega)) aA (aO aA (aO aA (aU (k*3) aA (aL aA u (Xgu (i:=k*3) (by show 0+k*3=_;omega) (by omega)) aA λw9 h9 O a9=>aV aA (N (k+1) _ _ ⟨t,h9,f.trans O⟩ (by omega) ⟨rfl,rfl,rfl,trivial⟩)))))
  have E:k=1024:=by have:=bM D;omega
  subst E;exact bE func246 aA ⟨⟨lb,ab,nb⟩,rfl,⟨by show _<=lb;omega,by show _<=ab;omega,by show _<=nb;omega⟩,⟨f.heap o (by show ¬lb=nb;omega),YX,(λ_ h=>by cases h),Or 1,Km 1024,f.heap L B,u,rfl,rfl,rfl,trivial,λm hm=>by rw[XeE 1024 m hm];rfl⟩,(((A.trans s).sn n).sn f)⟩
abbrev PgL:=List (Nat×List Int)
structure Sm where
 cL:Int
 cF:Nat
 pg:PgL
 cG:List Nat
def Zg:PgL->Int->Option (List Int)
 |[],_=>none
 |(m,p)::r,n=>if (m:Int)=n then some p else Zg r n
def Zr(l:PgL)(n:Nat)(p:List Int):PgL:=l.map λe=>if e.1=n then (n,p) else e
def Qv(l:PgL)(n:Nat):PgL:=l.filter λe=>e.1 != n
def Y8:PgL->Nat
 |[]=>0
 |(_,p)::r=>Xu p+Y8 r
theorem Iq:∀{l:PgL} {n:Int} {p:List Int},Zg l n=some p -> ∃m:Nat,n=m/\(m,p)∈l
 |(m,q)::r,n,p,h=>by
  unfold Zg at h;by_cases e:(m:Int)=n
  .rw[bK e] at h;cases h;exact⟨m,e.symm,by simp⟩
  .rw[bJ e] at h;obtain⟨m',e',hm⟩:=Iq h;exact⟨m',e',by simp[hm]⟩
theorem Xcc:∀{l:PgL} {n:Int},Zg l n=none -> ∀e∈l,(e.1:Int)≠n
 |[],_,_,_,he=>by cases he
 |(m,q)::r,n,h,e,he=>by
  unfold Zg at h;by_cases hm:(m:Int)=n
  .rw[bK hm] at h;cases h
  .rw[bJ hm] at h;rcases ZB.1 he with rfl|he
   .exact hm
   .exact Xcc h e he
theorem Cc:∀{l:PgL} {m:Nat} {p:List Int},(l.map (·.1)).Nodup->(m,p)∈l->Zg l m=some p
 |(a,q)::r,m,p,b,hm=>by
  obtain⟨c,d⟩:=XU.1 b;unfold Zg;rcases ZB.1 hm with e|hm
  .cases e;rw[bK rfl]
  .have:a≠m:=λe=>c (XP.2 ⟨(m,p),hm,e.symm⟩);rw[bJ (by omega)];exact Cc d hm
theorem Lr(l:PgL)(n:Nat)(p:List Int):(Zr l n p).map (·.1)=l.map (·.1):=by
 unfold Zr;rw[List.map_map];refine ZW λe _=>?_;show(if e.1=n then (n,p) else e).1=e.1
 split
 .rename_i h;exact h.symm
 .rfl
theorem G5{l:PgL}{e:Nat×List Int}(h:e∈Zr l n p):(e=(n,p)/\∃q,(n,q)∈l)\/(e.1≠n/\e∈l):=by
 unfold Zr at h;obtain⟨u,b,e1⟩:=XP.1 h;by_cases a:u.1=n
 .rw[bK a] at e1;exact .inl ⟨e1.symm,u.2,by rw[<-a];exact b⟩
 .rw[bJ a] at e1;subst e1;exact .inr ⟨a,b⟩
theorem I8{l:PgL}{e:Nat×List Int}:e∈Qv l n↔e.1≠n/\e∈l:=by
 unfold Qv;rw[QX];simp only[bne_iff_ne,ne_eq];exact And.comm
theorem XgG(l:PgL)(n:Nat):(Qv l n).map (·.1)=(l.map (·.1)).filter (λm=>m != n):=by
 unfold Qv;rw[List.filter_map];rfl
theorem Xnd:∀{l:PgL} {n:Nat} (p:List Int),n∉l.map (·.1)->Zr l n p=l:=λ{l n} p h=>by
 unfold Zr
 conv=>rhs;rw[<-List.map_id l]
 refine ZW λe a=>?_;rw[bJ (λb=>h (XP.2 ⟨e,a,b⟩))];rfl
theorem Xm8{l:PgL}(h:n∉l.map (·.1)):Qv l n=l:=by
 unfold Qv;refine YN.2 λe a=>?_;simp only[bne_iff_ne,ne_eq];exact λb=>h (XP.2 ⟨e,a,b⟩)
theorem Po:∀{l:PgL} {n:Nat} {p q:List Int},(l.map (·.1)).Nodup->(n,q)∈l->Y8 (Zr l n p)+Xu q=Y8 l+Xu p
 |(a,r)::t,n,p,q,d,hm=>by
  obtain⟨b,f⟩:=XU.1 d;rcases ZB.1 hm with e|hm
  .have e1:=(Prod.mk.inj e).1;have e2:=(Prod.mk.inj e).2;subst e1;subst e2;have:Zr ((n,q)::t) n p=(n,p)::t:=by
    show(if n=n then (n,p) else (n,q))::Zr t n p=_
    rw[bK rfl,Xnd p b]
   rw[this];simp only[Y8];omega
  .have c:a≠n:=λe=>b (e▸XP.2 ⟨(n,q),hm,rfl⟩);have:Zr ((a,r)::t) n p=(a,r)::Zr t n p:=by
    show(if a=n then (n,p) else (a,r))::Zr t n p=_
    rw[bJ c]
   rw[this];have ih:=Po (p:=p) f hm;simp only[Y8];omega
theorem Vm:∀{l:PgL} {n:Nat} {q:List Int},(l.map (·.1)).Nodup->(n,q)∈l->Y8 (Qv l n)+Xu q=Y8 l/\(Qv l n).length+1=l.length
 |(a,r)::t,n,q,d,hm=>by
  obtain⟨b,f⟩:=XU.1 d;rcases ZB.1 hm with e|hm
  .have e1:=(Prod.mk.inj e).1;have e2:=(Prod.mk.inj e).2;subst e1;subst e2;have:Qv ((n,q)::t) n=t:=by
    unfold Qv;rw[ZI];simp only[bne_self_eq_false,ZR,if_false];exact Xm8 b
   rw[this];exact⟨Nat.add_comm _ _,rfl⟩
  .have c:a≠n:=λe=>b (e▸XP.2 ⟨(n,q),hm,rfl⟩);have:Qv ((a,r)::t) n=(a,r)::Qv t n:=by
    unfold Qv;rw[ZI];simp[c]
   rw[this];obtain⟨g,h⟩:=Vm f hm;simp only[Y8,XO];omega
theorem Xcf:∀(l:PgL) (n:Nat) (p:List Int),Y8 (l++[(n,p)])=Y8 l+Xu p
 |[],n,p=>by simp[Y8]
 |(a,r)::t,n,p=>by
  have:=Xcf t n p;show Xu r+Y8 (t++[(n,p)])=Xu r+Y8 t+Xu p
  omega
theorem XgK:∀{l:PgL} {b:Nat},(∀e∈l,e.2.length=b)->Y8 l<=l.length*b
 |[],b,_=>by simp[Y8]
 |(a,r)::t,b,h=>by
  have ih:=XgK (l:=t) (b:=b) (λe c=>h e (by simp[c]));have d:=O5 r;have f:r.length=b:=h (a,r) (by simp);simp only[Y8,XO,Nat.succ_mul];omega
structure Sm.Ok(x:Sm):Prop where
 nodup:(x.pg.map (·.1)).Nodup
 cL:0<=x.cL
 blk:1<=x.cF/\x.cF<=512
 cI:∀e∈x.pg,e.1<1024/\e.2.length=x.cF/\(e.1∈x.cG↔Xu e.2≠x.cF)
 onodup:x.cG.Nodup
 osub:∀n∈x.cG,∃p,(n,p)∈x.pg
def Sm.Pos(x:Sm):Prop:=∀e∈x.pg,0<Xu e.2
def Sm.Of(x:Sm)(pl:PlM):Prop:=∀e∈x.pg,e.1<pl.own.length/\pl.own.getD e.1 0=x.cL
def Sm.fresh(x:Sm)(n:Nat):Sm:={x with pg:=x.pg++[(n,List.replicate x.cF (-1))],cG:=n::x.cG}
def Sm.takeAt(x:Sm)(n:Nat)(p:List Int)(who:Int):Sm:=
 {x with pg:=Zr x.pg n (Qf p who),cG:=if Xu (Qf p who)=x.cF then x.cG.filter (λm=>m != n) else x.cG}
def Sm.giveAt(x:Sm)(n:Nat)(p:List Int)(i:Int):Sm:=
 let o:=if Xu p=x.cF then n::x.cG else x.cG
 if Xu (Yj p i)=0 then {x with pg:=Qv x.pg n,cG:=o.filter (λm=>m != n)} else {x with pg:=Zr x.pg n (Yj p i),cG:=o}
def Sm.ownAt(x:Sm)(n:Nat)(p:List Int)(i who:Int):Sm:={x with pg:=Zr x.pg n (By p i who)}
theorem Up:Yf p<0↔Xu p=p.length:=by
 have:=Xa7 (x:=Y1 p);rw[Fq] at this;exact this
theorem Us(p:List Int)(who:Int):(Qf p who).length=p.length:=by
 unfold Qf;split <;> simp
theorem Xft(p:List Int)(i:Int):(Yj p i).length=p.length:=by
 unfold Yj;split <;> simp
theorem Xfv(p:List Int)(i who:Int):(By p i who).length=p.length:=by
 unfold By;split <;> simp
theorem Om{x:List Int}(h:i<x.length):x.getD i 0=x.getD i (-1):=by
 rw[XA,XA,XD h];rfl
theorem My(hw:0<=who)(h:Xu p≠p.length):Dy p who=0/\Xu (Qf p who)=Xu p+1:=by
 have a:¬Yf p<0:=λe=>h (Up.1 e);have e:Dy p who=0:=by unfold Dy;rw[bJ (by omega),bJ a]
 obtain⟨b,c⟩:=Uu a;refine⟨e,?_⟩;unfold Qf;rw[bK e];have:=Ik (v:=who) b;rw[bK (by rw[Om b];exact c),bJ (by omega)] at this;omega
theorem Xfu{i:Int}(h:Q1 p i=0):Xu (Yj p i)+1=Xu p:=by
 unfold Yj;rw[bK h];unfold Q1 at h;split at h
 .cases h
 .rename_i hr
  split at h
  .cases h
  .rename_i a
   have b:i.toNat<p.length:=by omega
   have:=Ik (v:=-1) b;unfold Yb at a;rw[bK (by omega)] at a;rw[bJ (by rw[Om b];exact a),bK rfl] at this;omega
theorem Ur{i:Int}:Xu (By p i who)=Xu p:=by
 unfold By;split
 .rename_i h
  unfold Am at h;split at h
  .cases h
  .rename_i hr
   split at h
   .cases h
   .rename_i a
    have b:i.toNat<p.length:=by omega
    have:=Ik (v:=who) b;unfold Yb at a;rw[bK (by omega)] at a;rw[bJ (by rw[Om b];exact a),bJ (by omega)] at this;omega
 .rfl
theorem Rr{l:List Nat}:m∈l.filter (λk=>k != n)↔m≠n/\m∈l:=by
 rw[QX];simp only[bne_iff_ne,ne_eq];exact And.comm
theorem Sm.Ok.fresh{x:Sm}(h:x.Ok){n:Nat}(hn:n<1024)(hno:n∉x.pg.map (·.1)):(x.fresh n).Ok:=by
 have f:=h.blk;have g:n∉x.cG:=λhm=>by obtain⟨p,d⟩:=h.osub n hm;exact hno (XP.2 ⟨_,d,rfl⟩)
 refine⟨?_,h.cL,h.blk,λe he=>?_,XU.2 ⟨g,h.onodup⟩,λm hm=>?_⟩
 .show((x.pg++[(n,List.replicate x.cF (-1))]).map Prod.fst).Nodup
  rw[XL];refine XR.2 ⟨h.nodup,by simp,λa i b f e=>?_⟩;have:b=n:=by simpa using f
  exact hno (this▸e▸i)
 .rcases XS.1 he with he|he
  .obtain⟨a,b,c⟩:=h.cI e he;have:e.1≠n:=λe'=>hno (XP.2 ⟨e,he,e'⟩);exact⟨a,b,by show e.1∈n::x.cG↔_;rw[ZB];simp only[this,false_or];exact c⟩
  .have:e=(n,List.replicate x.cF (-1)):=by simpa using he
   subst this;refine⟨hn,by simp[Sm.fresh],?_⟩;show n∈n::x.cG↔Xu (List.replicate x.cF (-1))≠x.cF
   rw[Ij];constructor
   .intro _;omega
   .intro _;simp
 .rcases ZB.1 hm with rfl|hm
  .exact⟨List.replicate x.cF (-1),YY _ (by simp)⟩
  .obtain⟨p,d⟩:=h.osub m hm;exact⟨p,QR _ d⟩
theorem Sm.Ok.takeAt{x:Sm}(h:x.Ok)(hw:0<=who)(hp:(n,p)∈x.pg)(ho:n∈x.cG):(x.takeAt n p who).Ok:=by
 obtain⟨g,i,o⟩:=h.cI _ hp;simp only at g i o
 refine⟨by show((Zr _ _ _).map _).Nodup;rw[Lr];exact h.nodup,h.cL,h.blk,λe f=>?_,?_,λm hm=>?_⟩
 .rcases G5 f with⟨rfl,_⟩|⟨j,f⟩
  .refine⟨g,by rw[Us];exact i,?_⟩;show n∈(if _ then _ else _)↔_
   by_cases hf:Xu (Qf p who)=x.cF
   .rw[bK hf,Rr];exact⟨λh=>absurd rfl h.1,λh=>absurd hf h⟩
   .rw[bJ hf];exact⟨λ_=>hf,λ_=>ho⟩
  .obtain⟨a,b,c⟩:=h.cI e f;refine⟨a,b,?_⟩;show e.1∈(if _ then _ else _)↔_
   split
   .rw[Rr];simp only[ne_eq,j,not_false_eq_true,true_and];exact c
   .exact c
 .show(if _ then _ else _:List Nat).Nodup
  split
  .exact h.onodup.filter _
  .exact h.onodup
 .have k:m∈x.cG:=by
   have d:m∈(if _ then _ else _:List Nat):=hm;split at d
   .exact(Rr.1 d).2
   .exact d
  obtain⟨q,l⟩:=h.osub m k;by_cases e:m=n
  .subst e;exact⟨_,XP.2 ⟨(m,q),l,bK rfl⟩⟩
  .exact⟨q,XP.2 ⟨(m,q),l,bJ e⟩⟩
theorem Sm.Ok.giveAt{x:Sm}(h:x.Ok){n:Nat}{p:List Int}{i:Int}(hp:(n,p)∈x.pg)(hi:Q1 p i=0):(x.giveAt n p i).Ok:=by
 obtain⟨o,r,k⟩:=h.cI _ hp;simp only at o r k
 have y:=Xfu hi;have w:=O5 p;have s:n∈(if Xu p=x.cF then n::x.cG else x.cG):=by
  split
  .simp
  .rename_i hf;exact k.2 hf
 have j:(if Xu p=x.cF then n::x.cG else x.cG).Nodup:=by
  split
  .rename_i hf;exact XU.2 ⟨λhm=>(k.1 hm) hf,h.onodup⟩
  .exact h.onodup
 have d:∀m,m≠n->(m∈(if Xu p=x.cF then n::x.cG else x.cG)↔m∈x.cG):=λm hm=>by
  split
  .rw[ZB];simp[hm]
  .rfl
 unfold Sm.giveAt;simp only
 by_cases t:Xu (Yj p i)=0
 .rw[bK t];refine⟨by show((Qv _ _).map _).Nodup;rw[XgG];exact h.nodup.filter _,h.cL,h.blk,λe f=>?_,j.filter _,λm hm=>?_⟩
  .obtain⟨g,f⟩:=I8.1 f;obtain⟨a,b,c⟩:=h.cI e f;exact⟨a,b,by show e.1∈List.filter _ _↔_;rw[Rr,d _ g];simp only[ne_eq,g,not_false_eq_true,true_and];exact c⟩
  .obtain⟨u,v⟩:=Rr.1 hm;obtain⟨q,l⟩:=h.osub m ((d m u).1 v);exact⟨q,I8.2 ⟨u,l⟩⟩
 .rw[bJ t];refine⟨by show((Zr _ _ _).map _).Nodup;rw[Lr];exact h.nodup,h.cL,h.blk,λe f=>?_,j,λm hm=>?_⟩
  .rcases G5 f with⟨rfl,_⟩|⟨g,f⟩
   .refine⟨o,by rw[Xft];exact r,⟨λ_=>?_,λ_=>s⟩⟩;show Xu (Yj p i)≠x.cF
    omega
   .obtain⟨a,b,c⟩:=h.cI e f;exact⟨a,b,(d _ g).trans c⟩
  .by_cases e:m=n
   .subst e;exact⟨_,XP.2 ⟨(m,p),hp,bK rfl⟩⟩
   .obtain⟨q,l⟩:=h.osub m ((d m e).1 hm);exact⟨q,XP.2 ⟨(m,q),l,bJ e⟩⟩
theorem Sm.Ok.ownAt{x:Sm}(h:x.Ok){i:Int}(hp:(n,p)∈x.pg):(x.ownAt n p i who).Ok:=by
 obtain⟨c,d,f⟩:=h.cI _ hp;refine⟨by show((Zr _ _ _).map _).Nodup;rw[Lr];exact h.nodup,h.cL,h.blk,λe a=>?_,h.onodup,λm hm=>?_⟩
 .rcases G5 a with⟨rfl,_⟩|⟨g,a⟩
  .exact⟨c,by rw[Xfv];exact d,by show _↔Xu (By p i who)≠_;rw[Ur];exact f⟩
  .exact h.cI e a
 .obtain⟨q,b⟩:=h.osub m hm;by_cases e:m=n
  .subst e;exact⟨_,XP.2 ⟨(m,q),b,bK rfl⟩⟩
  .exact⟨q,XP.2 ⟨(m,q),b,bJ e⟩⟩
end Go.Proofs.YtdeihcnepljjaaaGreatDoor
