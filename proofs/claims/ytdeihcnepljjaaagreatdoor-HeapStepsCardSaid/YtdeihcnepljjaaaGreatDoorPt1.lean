/-
  Texts put together: Tz, Idx, Bits, Bits2, Bits3, Page, Page2, Ints, Pool, Pool2, Ring, Ring2, Ring3, Ring4, Shm, Shelf, Shelf2, Shelf3, Shelf4, Shelf5, Shst, Shp, Back13, RowsD, Ref12, Ref08, Ref08b, Ref13, Ref13b, Ref13c, Ref13d, Ref13e, Ref13f.
-/
import Derived.Test.YtdeihcnepljjaaaGreatDoorQAbb
import Derived.Test.YtdeihcnepljjaaaGreatDoorQRule10
import Derived.Test.YtdeihcnepljjaaaGreatDoorQPost
import Derived.Test.YtdeihcnepljjaaaGreatDoorQRule12
import Derived.Test.YtdeihcnepljjaaaGreatDoorQRule25
import Derived.Test.YtdeihcnepljjaaaGreatDoorQRule13
import Derived.Test.YtdeihcnepljjaaaGreatDoorQRule8
import Derived.Test.YtdeihcnepljjaaaGreatDoorQRule9
import Derived.Test.YtdeihcnepljjaaaGreatDoorQRule6
import Derived.Test.YtdeihcnepljjaaaGreatDoorQRule15
set_option linter.unusedVariables false
set_option maxRecDepth 100000
namespace Go.Proofs.YtdeihcnepljjaaaGreatDoor
open Go.RowKit
open Go renaming World→dD,Value→dE,Addr→dF
open Bool renaming and_eq_true->XI,false_eq_true->ZP,eq_iff_iff->QW
open Int renaming toNat_natCast->XA,eq_ofNat_of_zero_le->XE
open List renaming getD_eq_getElem?_getD->XB,getElem?_eq_some_iff->XC,getElem?_eq_getElem->XD,length_set->XG,length_replicate->XJ,getElem_mem->XL,map_append->XM,length_cons->XN,getElem?_map->XO,mem_map->XP,nodup_append->XR,mem_append->XS,length_map->XU,nodup_cons->XV,mem_of_getElem?->XW,length_take->XX,take_append_drop->XY,getElem?_append_left->ZA,mem_of_mem_take->ZB,mem_cons->ZC,getElem?_replicate->ZD,length_append->ZE,getElem?_eq_none->ZF,take_add_one->ZI,filter_cons->ZJ,length_range->ZK,map_cons->ZL,take_length->ZM,mem_or_eq_of_mem_set->ZN,mem_cons_self->ZO,nil_append->ZQ,mem_of_mem_drop->ZR,drop_eq_getElem_cons->ZT,map_congr_left->ZU,map_set->ZW,length_eq_zero_iff->ZZ,mem_cons_of_mem->YA,getElem?_set->YE,replicate_succ->YF,set_append_left->YO,range_succ->YQ,filter_eq_self->YR,findIdx?_eq_some_iff_getElem->YU,take_of_length_le->YV,getElem_map->YZ,getElem?_take->Y2,getElem?_toArray->QA,nodup_nil->QB,mem_append_right->QC,ext_getElem?->QH,length_drop->QK,filter_append->QP,append_nil->QR,mem_append_left->QT,any_eq_true->QU,getD->QX,mem_filter->QY,map_take->As
open Nat renaming le_refl->XF,zero_le->XQ,zero_add->XT,mul_one->ZS,le_trans->YB,div_add_mod->YG,mod_lt->YW,add_assoc->YX,div_lt_iff_lt_mul->QQ,succ_mul->An
open Option renaming getD_some->YI,map_eq_some_iff->QN,map_some->QZ
open Go.Proofs.Tryz (func161 func186 func187 func193 func195 func217 func218 func219 func225 func228 func236 func238 func240 func242 func243 func244 func245 func246 func249 func250 func252 func255 func256 func257 func260 func264 func265 func266 func267 func268 func269 func270 func271 func273 func274 func276 func283 func284 func285 func286 func287 func288 func289 func290 func291 func292 func293 func294 func295 func296 func297 func298 func299 func301 func302 func308 func309 func310 func311 func312 func313 func314 func315 func316 func317 func318 func322 func323 func324 ntmps161 ntmps186 ntmps187 ntmps193 ntmps195 ntmps217 ntmps218 ntmps219 ntmps225 ntmps228 ntmps236 ntmps238 ntmps240 ntmps242 ntmps243 ntmps244 ntmps245 ntmps246 ntmps249 ntmps250 ntmps252 ntmps255 ntmps256 ntmps257 ntmps260 ntmps264 ntmps265 ntmps266 ntmps267 ntmps268 ntmps269 ntmps270 ntmps271 ntmps273 ntmps274 ntmps276 ntmps283 ntmps284 ntmps285 ntmps286 ntmps287 ntmps288 ntmps289 ntmps290 ntmps291 ntmps292 ntmps293 ntmps294 ntmps295 ntmps296 ntmps297 ntmps298 ntmps299 ntmps301 ntmps302 ntmps308 ntmps309 ntmps310 ntmps311 ntmps312 ntmps313 ntmps314 ntmps315 ntmps316 ntmps317 ntmps318 ntmps322 ntmps323 ntmps324 prog)
variable {ahead by' cS cH size cN u who z:Int}{lg:List (Nat×List Nat)}{bs l p zs:List Int}{l2 ws:List Nat}{cs rest xs:List dE}{N at' b base cap d fuel g i j k lm lo m n o qb sz t tm ty vb xb y:Nat}{e:Nat×List Int}{fz:Nat×Nat}{f:Nat->Int}{B C F F' Fr Q S S' T xX:Nat->Prop}{a:Option dF}{α:Type}{v:dE}{w w' w'' w0 w1 w2:dD}{cells:α->List dE}
theorem Xae{x:Nat}(h:x<2^64):(BitVec.ofInt 64 (x:Int)).toNat=x:=by
 rw[BitVec.toNat_ofInt];omega
theorem Xdp{x:Nat}(h:x<2^64):IntKind.u64.wrap (x:Int)=x:=by
 simp only[IntKind.wrap,IntKind.signed,IntKind.bits]
 simp
 omega
theorem XdX{x:Nat}(hx:x<2^64)(hy:y<2^64):Li .and .u64 x y=((x &&& y:Nat):Int):=by
 have h:(BitVec.ofInt 64 (x:Int) &&& BitVec.ofInt 64 (y:Int)).toNat=x &&& y:=by rw[BitVec.toNat_and,Xae hx,Xae hy]
 show IntKind.u64.wrap ((BitVec.ofInt 64 (x:Int) &&& BitVec.ofInt 64 (y:Int)).toNat:Int)=_
 rw[h,Xdp (Nat.and_lt_two_pow x hy)]
theorem XaS{x:Nat}(hx:x<2^64)(hy:y<2^64):Li .xor .u64 x y=((x ^^^ y:Nat):Int):=by
 have h:(BitVec.ofInt 64 (x:Int) ^^^ BitVec.ofInt 64 (y:Int)).toNat=x ^^^ y:=by rw[BitVec.toNat_xor,Xae hx,Xae hy]
 show IntKind.u64.wrap ((BitVec.ofInt 64 (x:Int) ^^^ BitVec.ofInt 64 (y:Int)).toNat:Int)=_
 rw[h,Xdp (Nat.xor_lt_two_pow hx hy)]
def Mu(x:Nat):Nat:=(2^64-1) ^^^ x
theorem Xes{x:Nat}(h:x<2^64):Mu x<2^64:=Nat.xor_lt_two_pow xD h
theorem Xbb{x:Nat}(hj:j<64):(Mu x).testBit j=!x.testBit j:=by
 unfold Mu;rw[Nat.testBit_xor,Nat.testBit_two_pow_sub_one];simp[hj]
theorem XoN{x:Nat}(h:x<2^64):Md .xor .u64 x=some ((Mu x:Nat):Int):=by
 unfold Md Mu;rw[<-XaS xD h];rfl
theorem XoO{x:Nat}(h:x<2^64)(h0:0<x):Md .neg .u64 x=some ((2^64-x:Nat):Int):=by
 unfold Md
 congr 1
 simp only[IntKind.wrap,IntKind.signed,IntKind.bits]
 simp
 omega
theorem Xhe(h:j<64):K6 true .u64 1 j=((2^j:Nat):Int):=by
 unfold K6;rw[bK rfl,show min (j:Int).toNat (IntKind.bits .u64)=j from Nat.min_eq_left (by simp only[IntKind.bits];omega)];rw[show(1:Int)*2^j=((2^j:Nat):Int) from by simp];exact Xdp (Nat.pow_lt_pow_right xD h)
theorem K7{x:Nat}(h:j<64):K6 false .u64 x j=((x/2^j:Nat):Int):=by
 unfold K6;rw[bJ xS,show min (j:Int).toNat (IntKind.bits .u64)=j from Nat.min_eq_left (by simp only[IntKind.bits];omega)];rw[Int.fdiv_eq_ediv_of_nonneg _ (Int.le_of_lt (Int.pow_pos xD))]
 simp
theorem XiQ{x:Nat}:x &&& 1=x%2:=Nat.and_one_is_mod x
theorem Xi7{x:Nat}:(((x/2^j%2:Nat):Int) == 1)=x.testBit j:=by
 rw[Nat.testBit_eq_decide_div_mod_eq,QW,beq_iff_eq,decide_eq_true_eq];omega
theorem XiP{x:Nat}(hx:x<2^64)(ht:t<64)(h1:x.testBit t=true)(h0:∀j,j<t->x.testBit j=false):x &&& (2^64-x)=2^t:=by
 have k:x%2^t=0:=by
  apply Nat.eq_of_testBit_eq
  intro i;rw[Nat.testBit_mod_two_pow,Nat.zero_testBit];by_cases hi:i<t
  .rw[h0 i hi];simp
  .simp[hi]
 have c:x/2^t%2=1:=by
  rw[Nat.testBit_eq_decide_div_mod_eq] at h1;exact bL h1
 obtain⟨m,hm⟩:∃m,m=x/2^t:=⟨_,rfl⟩;have a:x=2^t*m:=by have:=YG x (2^t);rw[k,<-hm] at this;omega
 rw[<-hm] at c;obtain⟨q,f⟩:∃q,m=2*q+1:=⟨m/2,X⟩;have b:x-1=2^t*(2*q)+(2^t-1):=by
  rw[a,f,Nat.mul_add,ZS];omega
 have g:x=(x-1)+1:=by
  have:0<x:=by rw[a,f];exact Nat.mul_pos (Nat.pow_pos xD) X
  omega
 apply Nat.eq_of_testBit_eq
 intro j;rw[Nat.testBit_and,Nat.testBit_two_pow];have d:(2^64-x).testBit j=(decide (j<64) && !(x-1).testBit j):=by
  rw[g];exact Nat.testBit_two_pow_sub_succ X j
 rw[d];rcases Nat.lt_trichotomy j t with h|h|h
 .rw[h0 j h];simp;omega
 .subst h;rw[h1,b,Nat.testBit_two_pow_mul_add _ X];simp[ht]
 .obtain⟨i,hi⟩:∃i,j-t=i+1:=⟨j-t-1,X⟩;have e1:x.testBit j=m.testBit (i+1):=by
   rw[a,Nat.testBit_two_pow_mul];rw[hi]
   simp
   omega
  have e2:(x-1).testBit j=(2*q).testBit (i+1):=by
   rw[b,Nat.testBit_two_pow_mul_add _ X,bJ X,hi]
  rw[e1,e2,Nat.testBit_add_one,Nat.testBit_add_one,show m/2=q from by omega,show 2*q/2=q from by omega];have:(decide (t=j))=false:=bO X;rw[this];cases q.testBit i <;> simp
def Kn:List Nat:=[0,1,56,2,57,49,28,3,61,58,42,50,38,29,17,4,62,47,59,36,45,43,51,22,53,39,33,30,24,18,12,5,63,55,48,27,60,41,37,16,46,35,44,21,52,32,23,11,54,26,40,15,34,20,31,10,25,14,19,9,13,8,7,6]
theorem XjC:∀t,t<64->Kn[(2^t*285870213051353865)%2^64/2^58]?=some t:=by decide+kernel
def Fk(x n:Nat):Prop:=x<2^n/\(0<n->2^(n-1)<=x)
theorem Fk.zero:Fk 0 0:=⟨xD,λh=>X⟩
theorem Fk.shift{x:Nat}(h:Fk (x/2^k) m)(hm:0<m):Fk x (m+k):=by
 obtain⟨b,c⟩:=h;have a:0<2^k:=Nat.pow_pos xD;refine⟨?_,λ_=>?_⟩
 .rw[Nat.pow_add];exact(QQ a).1 b
 .rw[show m+k-1=(m-1)+k from by omega,Nat.pow_add];exact(Nat.le_div_iff_mul_le a).1 (c hm)
theorem Fk.pos{x:Nat}(h:Fk x n)(hx:0<x):0<n:=by
 rcases Nat.eq_zero_or_pos n with h0|h0
 .subst h0;have:=h.1;simp at this;omega
 .exact h0
theorem Fk.top{x:Nat}(h:Fk x n)(hn:0<n):x.testBit (n-1)=true/\∀j,n<=j->x.testBit j=false:=by
 refine⟨?_,λj a=>Nat.testBit_lt_two_pow (Nat.lt_of_lt_of_le h.1 (Nat.pow_le_pow_right xD a))⟩;apply Nat.testBit_of_two_pow_le_and_two_pow_add_one_gt (h.2 hn)
 rw[show n-1+1=n from by omega];exact h.1
theorem Fk.le{x:Nat}(h:Fk x n)(hx:x<2^k):n<=k:=by
 rcases Nat.lt_or_ge k n with hk|hk
 .have a:=h.2 X;have b:2^k<=2^(n-1):=Nat.pow_le_pow_right xD X;omega
 .exact hk
def Im(x:Nat):Nat:=if x=0 then 0 else Nat.log2 x+1
theorem Fq{x:Nat}(h:x<256):Fk x (Im x):=by
 unfold Im;by_cases a:x=0
 .subst a;rw[bK rfl];exact Fk.zero
 .rw[bJ a];exact⟨Nat.lt_log2_self,λ_=>Nat.log2_self_le a⟩
def idx{α:Type}(p:α->Bool)(l:List α):Int:=match l.findIdx? p with|some i=>i|none=>-1
theorem J1{p:α->Bool}{l:List α}(hk:k<l.length)(hpre:∀j (h:j<l.length),j<k->p l[j]=false)(h:p l[k]=true):idx p l=k:=by
 unfold idx;have:l.findIdx? p=some k:=by
  rw[YU];exact⟨hk,h,λj a=>xU (hpre j X a)⟩
 rw[this]
theorem Ij{p:α->Bool}{l:List α}(hpre:∀j (h:j<l.length),p l[j]=false):idx p l=-1:=by
 unfold idx;have:l.findIdx? p=none:=by
  rw[List.findIdx?_eq_none_iff];intro x a;obtain⟨j,b,rfl⟩:=List.mem_iff_getElem.1 a;exact hpre j b
 rw[this]
theorem Xbp{p:α->Bool}{l:List α}:(0<=idx p l)↔l.any p=true:=by
 unfold idx;cases h:l.findIdx? p with
 |none=>
  rw[List.findIdx?_eq_none_iff] at h;simp only[QU];constructor
  .intro c;omega
  .rintro⟨x,b,a⟩;rw[h x b] at a;cases a
 |some i=>
  rw[YU] at h;obtain⟨hi,a,_⟩:=h;simp only[QU];exact⟨λ_=>⟨_,XL hi,a⟩,λ_=>X⟩
theorem Hw(h:k<zs.length):zs.getD k 0=zs[k]:=by simp[h]
def Ta{α:Type}(p:α->Bool)(l:List α):Int:=match l.reverse.findIdx? p with|some i=>(l.length:Int)-1-i|none=>-1
theorem Xcs{p:α->Bool}{l:List α}(hk:k<l.length)(hpost:∀j (h:j<l.length),k<j->p l[j]=false)(h:p l[k]=true):Ta p l=k:=by
 unfold Ta;have:l.reverse.findIdx? p=some (l.length-1-k):=by
  rw[YU];refine⟨xQ,?_,λj a=>?_⟩
  .rw[List.getElem_reverse];simp only[show l.length-1-(l.length-1-k)=k from by omega];exact h
  .rw[List.getElem_reverse];simpa using hpost _ X X
 rw[this];simp only
 omega
theorem XgM{p:α->Bool}{l:List α}(hall:∀j (h:j<l.length),p l[j]=false):Ta p l=-1:=by
 unfold Ta;have:l.reverse.findIdx? p=none:=by
  rw[List.findIdx?_eq_none_iff];intro x a;rw[List.mem_reverse] at a;obtain⟨j,b,rfl⟩:=List.mem_iff_getElem.1 a;exact hall j b
 rw[this]
def C9(w:dD)(a:Option dF)(bs:List Bool):Prop:=∀i (h:i<bs.length),∃b off,a=some ⟨b,off,none⟩/\w.cell? ⟨b,off+i,none⟩=some (.bool bs[i])
theorem C9.of{c:Array dE}{t:TypeId}{bs:List Bool}(h:w.heap[b]?=some (.cells c t fz))(hc:c=(bs.map Value.bool).toArray):C9 w (some ⟨b,0,none⟩) bs:=λi hi=>
 ⟨b,0,rfl,by rw[Yx h,hc];simp[hi]⟩
theorem C9.bR{bs:List Bool}(h:C9 w a bs)(hc:Xc Xf w w'):C9 w' a bs:=λi hi=>by
 obtain⟨b,off,e,c⟩:=h i hi;exact⟨b,off,e,Om hc.below c⟩
theorem C9.of_take{cur:Array dE}{bs:List Bool}(h:w.heap[g]?=some (.cells cur t fz))(hc:cur.toList.take bs.length=bs.map Value.bool):C9 w (some ⟨g,0,none⟩) bs:=λi hi=>by
 refine⟨g,0,rfl,?_⟩;have a:(cur.toList.take bs.length)[i]?=(bs.map Value.bool)[i]?:=by rw[hc]
 rw[Y2,bK hi] at a;rw[Yx h];simp only[XT];rw[<-Array.getElem?_toList,a];simp[hi]
def Bk(w:dD):Prop:=∀j,j<64->w.cell? ⟨1,j,none⟩=some (.int .u8 (Kn.getD j 0:Nat))
theorem Bk.bR(h:Bk w)(hc:Xc S w w')(hs:¬S 1):Bk w':=λj a=>hc.cell (h j a) hs
theorem Bk.bQ(h:Bk w)(hc:Xc Xf w w'):Bk w':=h.bR hc id
theorem Xjb(x t:Nat)(w:dD)(hT0:Bk w)(hx:x<2^64)(ht:t<64)(h1:x.testBit t=true)(h0:∀j,j<t->x.testBit j=false):Xe prog 324 #[.int .u64 x] w (X9 (W t) w):=by
 have f:0<x:=by
  rcases Nat.eq_zero_or_pos x with h|h
  .subst h;simp at h1
  .exact h
 refine aR func324 ntmps324 Y (aI Y xQ (Xa.un Xb rfl (XoO hx f) rfl (Xa.bits Xb rfl (XdX hx X) rfl ?_)));rw[XiP hx ht h1 h0];have b:=XjC t ht;obtain⟨j,c⟩:∃j,j=(2^t*285870213051353865)%2^64/2^58:=⟨_,rfl⟩;rw[<-c] at b;have d:j<64:=by rw[c];exact(QQ xD).2 (Nat.lt_of_lt_of_le (YW _ xD) xD)
 refine Xa.arith Xb rfl (show IntKind.u64.wrap (((2^t:Nat):Int)*285870213051353865)=(((2^t*285870213051353865)%2^64:Nat):Int) from by simp only[IntKind.wrap,IntKind.signed,IntKind.bits];simp) rfl (Xa.shift Xb rfl X (show K6 false .u64 (((2^t*285870213051353865)%2^64:Nat):Int) 58=(((2^t*285870213051353865)%2^64/2^58:Nat):Int) from K7 (j:=58) xD) rfl ?_);rw[<-c];have a:w.cell? ⟨1,0+j,none⟩=some (.int .u8 (t:Int)):=by rw[XT,hT0 j d,XB,b];rfl
 exact aU j Y (aW Y a Y (aV Y (bE func324 Y ⟨rfl,rfl⟩)))
theorem Xjc(w:dD):Xe prog 324 #[.int .u64 0] w (X9 (W 64) w):=by
 exact aR func324 ntmps324 Y (bI Y (bE func324 Y ⟨rfl,rfl⟩))
theorem Mf:IntKind.u8.wrap z=z%256:=by
 simp only[IntKind.wrap,IntKind.signed,IntKind.bits]
 simp
theorem Lp{b:ByteArray}(h:∀z:Fin 256,(b[z.val]?).map (λx=>(x.toNat:Int))=some ((Im z.val:Nat):Int))(hy:y<256):(b[((y:Nat):Int).toNat]?).map (λx=>(x.toNat:Int))=some ((Im y:Nat):Int):=by
 rw[XA];exact h ⟨y,hy⟩
def Gx(x y c:Nat):Prop:=∀m,Fk y m->Fk x (m+c)
theorem Gx.step{x c:Nat}(h:Gx x y c)(hy:2^k<=y):Gx x (y/2^k) (k+c):=λm hm=>by
 have:=h _ (hm.shift (hm.pos (Nat.div_pos hy (Nat.pow_pos xD))))
 rwa [YX] at this
theorem Gx.self(x:Nat):Gx x x 0:=λm hm=>hm
theorem Xi9(x:Nat)(w:dD)(hx:x<2^64):Xe prog 323 #[.int .u64 x] w (λv w'=>∃n,Fk x n/\v=W n/\w=w'):=by
 refine aR func323 ntmps323 Y (aT Y (λi=>?_) λi=>?_)
 .have h:4294967296<=x:=xH (bL i)
  refine Xa.shift Xb rfl X (K7 (x:=x) (j:=32) xD) rfl ?_;have m:x/2^32<4294967296:=X
  refine aT Y (λc=>?_) λc=>?_
  .have f:65536<=x/2^32:=xH (bL c)
   have l:(x/2^32)/2^16<65536:=X
   refine Xa.shift Xb rfl X (K7 (x:=x/2^32) (j:=16) xD) rfl (aV Y (aT Y (λb=>?_) λb=>?_))
   .have g:256<=(x/2^32)/2^16:=xH (bL b)
    have a:((x/2^32)/2^16)/2^8<256:=X
    have d:=(Fq a).le (k:=8) a;exact Xa.shift Xb rfl X (K7 (x:=(x/2^32)/2^16) (j:=8) xD) rfl (aV Y (Xa.arith Xb rfl (show IntKind.u8.wrap ((((x/2^32)/2^16)/2^8:Nat):Int)=((((x/2^32)/2^16)/2^8:Nat):Int) from by rw[Mf];omega) rfl (Xa.sidx Xb rfl X (Lp (by decide+kernel) a) rfl (aV Y (aV Y (bE func323 Y ⟨Im (((x/2^32)/2^16)/2^8)+(8+(16+(32+0))),((((((Gx.self x).step (k:=32) h)).step (k:=16) f)).step (k:=8) g) _ (Fq a),X0 X,rfl⟩))))))
   .have a:((x/2^32)/2^16)<256:=xH (bM b)
    have d:=(Fq a).le (k:=8) a;exact Xa.arith Xb rfl (show IntKind.u8.wrap (((x/2^32)/2^16:Nat):Int)=(((x/2^32)/2^16:Nat):Int) from by rw[Mf];omega) rfl (Xa.sidx Xb rfl X (Lp (by decide+kernel) a) rfl (aV Y (aV Y (bE func323 Y ⟨Im ((x/2^32)/2^16)+(16+(32+0)),(((((Gx.self x).step (k:=32) h)).step (k:=16) f)) _ (Fq a),X0 X,rfl⟩))))
  .have l:(x/2^32)<65536:=xH (bM c)
   refine aT Y (λb=>?_) λb=>?_
   .have g:256<=x/2^32:=xH (bL b)
    have a:(x/2^32)/2^8<256:=X
    have d:=(Fq a).le (k:=8) a;exact Xa.shift Xb rfl X (K7 (x:=x/2^32) (j:=8) xD) rfl (aV Y (Xa.arith Xb rfl (show IntKind.u8.wrap (((x/2^32)/2^8:Nat):Int)=(((x/2^32)/2^8:Nat):Int) from by rw[Mf];omega) rfl (Xa.sidx Xb rfl X (Lp (by decide+kernel) a) rfl (aV Y (aV Y (bE func323 Y ⟨Im ((x/2^32)/2^8)+(8+(32+0)),((((Gx.self x).step (k:=32) h)).step (k:=8) g) _ (Fq a),X0 X,rfl⟩))))))
   .have a:(x/2^32)<256:=xH (bM b)
    have d:=(Fq a).le (k:=8) a;exact Xa.arith Xb rfl (show IntKind.u8.wrap ((x/2^32:Nat):Int)=((x/2^32:Nat):Int) from by rw[Mf];omega) rfl (Xa.sidx Xb rfl X (Lp (by decide+kernel) a) rfl (aV Y (aV Y (bE func323 Y ⟨Im (x/2^32)+(32+0),(((Gx.self x).step (k:=32) h)) _ (Fq a),X0 X,rfl⟩))))
 .have m:x<4294967296:=xH (bM i)
  refine aT Y (λc=>?_) λc=>?_
  .have f:65536<=x:=xH (bL c)
   have l:(x)/2^16<65536:=X
   refine Xa.shift Xb rfl X (K7 (x:=x) (j:=16) xD) rfl (aV Y (aT Y (λb=>?_) λb=>?_))
   .have g:256<=(x)/2^16:=xH (bL b)
    have a:((x)/2^16)/2^8<256:=X
    have d:=(Fq a).le (k:=8) a;exact Xa.shift Xb rfl X (K7 (x:=(x)/2^16) (j:=8) xD) rfl (aV Y (Xa.arith Xb rfl (show IntKind.u8.wrap ((((x)/2^16)/2^8:Nat):Int)=((((x)/2^16)/2^8:Nat):Int) from by rw[Mf];omega) rfl (Xa.sidx Xb rfl X (Lp (by decide+kernel) a) rfl (aV Y (aV Y (bE func323 Y ⟨Im (((x)/2^16)/2^8)+(8+(16+(0))),((((Gx.self x).step (k:=16) f)).step (k:=8) g) _ (Fq a),X0 X,rfl⟩))))))
   .have a:((x)/2^16)<256:=xH (bM b)
    have d:=(Fq a).le (k:=8) a;exact Xa.arith Xb rfl (show IntKind.u8.wrap (((x)/2^16:Nat):Int)=(((x)/2^16:Nat):Int) from by rw[Mf];omega) rfl (Xa.sidx Xb rfl X (Lp (by decide+kernel) a) rfl (aV Y (aV Y (bE func323 Y ⟨Im ((x)/2^16)+(16+(0)),(((Gx.self x).step (k:=16) f)) _ (Fq a),X0 X,rfl⟩))))
  .have l:(x)<65536:=xH (bM c)
   refine aT Y (λb=>?_) λb=>?_
   .have g:256<=x:=xH (bL b)
    have a:(x)/2^8<256:=X
    have d:=(Fq a).le (k:=8) a;exact Xa.shift Xb rfl X (K7 (x:=x) (j:=8) xD) rfl (aV Y (Xa.arith Xb rfl (show IntKind.u8.wrap (((x)/2^8:Nat):Int)=(((x)/2^8:Nat):Int) from by rw[Mf];omega) rfl (Xa.sidx Xb rfl X (Lp (by decide+kernel) a) rfl (aV Y (aV Y (bE func323 Y ⟨Im ((x)/2^8)+(8+(0)),((Gx.self x).step (k:=8) g) _ (Fq a),X0 X,rfl⟩))))))
   .have a:(x)<256:=xH (bM b)
    have d:=(Fq a).le (k:=8) a;exact Xa.arith Xb rfl (show IntKind.u8.wrap ((x:Nat):Int)=((x:Nat):Int) from by rw[Mf];omega) rfl (Xa.sidx Xb rfl X (Lp (by decide+kernel) a) rfl (aV Y (aV Y (bE func323 Y ⟨Im (x)+(0),(Gx.self x) _ (Fq a),X0 X,rfl⟩))))
def cnt:List Bool->Nat
 |[]=>0
 |b::r=>(if b then 1 else 0)+cnt r
theorem Ow:∀(x:List Bool),cnt x<=x.length
 |[]=>XF _
 |b::r=>by have:=Ow r;simp only[cnt,XN];split <;> omega
theorem Ui:∀{x:List Bool},cnt x=x.length -> ∀j (h:j<x.length),x[j]=true
 |[],_,j,h=>by simp at h
 |b::r,a,j,h=>by
  have:=Ow r;simp only[cnt,XN] at a;cases b with
  |false=>simp at a;omega
  |true=>
   cases j with
   |zero=>rfl
   |succ j=>simp;exact Ui (by simp at a;omega) j (xU h)
theorem Xa6:∀{x:List Bool},cnt x≠x.length -> ∃j,∃h:j<x.length,x[j]=false
 |[],a=>by simp[cnt] at a
 |b::r,a=>by
  cases b with
  |false=>exact⟨0,xS,rfl⟩
  |true=>
   have:cnt r≠r.length:=by simp only[cnt,XN] at a;simp at a;omega
   obtain⟨j,h,e⟩:=Xa6 this;exact⟨j+1,xU h,xU e⟩
theorem Uj:∀(x:List Bool) (i:Nat) (h:i<x.length) (b:Bool),cnt (x.set i b)+(if x[i] then 1 else 0)=cnt x+(if b then 1 else 0)
 |[],i,h,b=>by simp at h
 |a::r,0,h,b=>by simp only[List.set_cons_zero,cnt,List.getElem_cons_zero];omega
 |a::r,i+1,h,b=>by
  have:=Uj r i (xU h) b;simp only[List.set_cons_succ,cnt,List.getElem_cons_succ];omega
theorem Xa7(n:Nat):cnt (List.replicate n false)=0:=by
 induction n with
 |zero=>rfl
 |succ n ih=>simp[YF,cnt,ih]
def G7(x:List Bool):Int:=idx (λb=>!b) x
def R8(x:List Bool):Int:=Ta id x
def Gy(x:List Bool)(i:Int):Bool:=decide (0<=i) && x.getD i.toNat false
def G4(x:List Bool)(i:Int):Bool:=decide (0<=i) && decide (i<x.length)
theorem Xkb{x:List Bool}{i:Int}(h:Gy x i=true):G4 x i=true:=by
 unfold Gy at h;unfold G4;simp only[XI,decide_eq_true_eq] at h⊢;refine⟨h.1,?_⟩;rcases Nat.lt_or_ge i.toNat x.length with h2|h2
 .omega
 .have:=h.2;rw[XB,ZF h2] at this;cases this
def Fg(x:List Bool)(i:Int)(b:Bool):Int:=
 if G4 x i=false then 1 else if b && Gy x i then 10 else if !b && !Gy x i then 9 else 0
def Jk(x:List Bool)(i:Int)(b:Bool):List Bool:=if Fg x i b=0 then x.set i.toNat b else x
def Cq(ws:List Nat)(x:List Bool):List dE:=ws.map (λn:Nat=>Value.int .u64 (n:Int))++[Value.int .i64 (x.length:Int),Value.int .i64 (cnt x:Int)]
structure Bf(w:dD)(b:Nat)(x:List Bool):Prop where
 tab:Bk w
 ws:∃ws:List Nat,ws.length=8/\(∀k,ws.getD k 0<2^64)/\(∀k j,j<64->(ws.getD k 0).testBit j=x.getD (64*k+j) false)/\
  w.heap[b]?=some (.cells (Cq ws x).toArray 375 (0,0))
 pos:1<=x.length
 len:x.length<=512
theorem Bf.bR{S:Nat->Prop}{w w':dD}{b:Nat}{x:List Bool}(h:Bf w b x)(hc:Xc S w w')(hs:¬S b)(hg:¬S 1):Bf w' b x:=by
 obtain⟨ws,a,c,d,f⟩:=h.ws;exact⟨h.tab.bR hc hg,⟨ws,a,c,d,hc.heap f hs⟩,h.pos,h.len⟩
theorem Bf.bQ{x:List Bool}(h:Bf w b x)(hc:Xc Xf w w'):Bf w' b x:=h.bR hc id id
theorem Bf.ne{x:List Bool}(h:Bf w b x):1≠b:=by
 obtain⟨ws,a,f,g,d⟩:=h.ws;intro e;have:=h.tab 0 xD;subst e;rw[Yx d] at this
 match ws,a with
 |c::r,_=>simp[Cq] at this
theorem Xje{x:List Bool}(h1:ws.length=8)(h:w.heap[b]?=some (.cells (Cq ws x).toArray 375 (0,0))):w.cell? ⟨b,8,none⟩=some (W x.length):=by
 rw[Yx h];simp[Cq,h1]
theorem Xjd{x:List Bool}(h1:ws.length=8)(h:w.heap[b]?=some (.cells (Cq ws x).toArray 375 (0,0))):w.cell? ⟨b,9,none⟩=some (W (cnt x)):=by
 rw[Yx h];simp[Cq,h1]
theorem XaT{x:List Bool}(h1:ws.length=8)(h:w.heap[b]?=some (.cells (Cq ws x).toArray 375 (0,0)))(hk:k<8):w.cell? ⟨b,0+k,none⟩=some (.int .u64 (ws.getD k 0:Nat)):=by
 have a:k<ws.length:=X
 rw[Yx h,XT];simp only[QA,XB,Cq];rw[ZA (xU a),XO,XD a];rfl
theorem Bf.many{x:List Bool}(h:Bf w b x):w.cell? ⟨b,8,none⟩=some (W x.length):=by
 obtain⟨ws,a,d,f,c⟩:=h.ws;exact Xje a c
theorem Bf.cnt{x:List Bool}(h:Bf w b x):w.cell? ⟨b,9,none⟩=some (W (cnt x)):=by
 obtain⟨ws,a,d,f,c⟩:=h.ws;exact Xjd a c
theorem Bf.lt{x:List Bool}(h:Bf w b x):b<w.heap.size:=by
 obtain⟨ws,c,d,f,a⟩:=h.ws;exact Xg a
theorem Xbl(n k:Nat)(x:α):(List.replicate n x).getD k x=x:=by
 rw[XB,ZD];split <;> rfl
theorem Xja(m:Nat)(w:dD)(hT0:Bk w)(h:1<=m/\m<=512):Xe prog 286 #[W m] w (λv w'=>∃b,v=.tuple #[xV b,W 0]/\w.heap.size<=b/\Bf w' b (List.replicate m false)/\Xc Xf w w'):=by
 refine aR func286 ntmps286 Y (aS Y (aS Y (aO Y (bC Y λb g e1 d a f=>?_))));have c:(List.replicate m false).length=m:=XJ;exact bE func286 Y ⟨b,rfl,X,⟨hT0.bQ a,⟨List.replicate 8 0,rfl,λk=>by rw[Xbl];decide,λk j i=>by rw[Xbl,Xbl];simp,by unfold Cq;rw[c,Xa7];exact d⟩,X,X⟩,a⟩
theorem Xd2(b:Nat)(x:List Bool)(i:Int)(w:dD)(h:Bf w b x):Xe prog 322 #[xV b,W i] w (X9 (.bool (G4 x i)) w):=by
 refine aR func322 ntmps322 Y (aT Y (λa=>?_) λa=>?_)
 .have c:=bL a;exact aW Y h.many Y (bE func322 Y ⟨Q5 (by unfold G4;rw[bN c];rfl),rfl⟩)
 .have c:=bM a;exact bE func322 Y ⟨Q5 (by unfold G4;rw[bO c];rfl),rfl⟩
theorem T7(b:Nat)(x:List Bool)(i:Int)(w:dD)(h:Bf w b x):Xe prog 309 #[xV b,W i] w (X9 (.bool (Gy x i)) w):=by
 have n:=h.len;obtain⟨ws,f,g,j,k⟩:=h.ws;refine aR func309 ntmps309 Y (bH (Xd2 b x i w h) Y ?_);cases a:G4 x i with
 |false=>
  have d:Gy x i=false:=by cases l:Gy x i;rfl;rw[Xkb l] at a;cases a
  exact aS Y (bE func309 Y ⟨Q5 d.symm,rfl⟩)
 |true=>
  have hi:0<=i/\i<x.length:=by unfold G4 at a;simpa using a
  obtain⟨i,rfl⟩:=XE hi.1;have m:i/64<8:=X
  refine bI Y (Xa.div Xb rfl X (Gr X X) rfl (aU (i/64) Y (aW Y (XaT f k m) Y (Xa.div Xb rfl X (Hg X) rfl ?_))));rw[show((i:Int)%64)=((i%64:Nat):Int) from by omega];refine Xa.shift Xb rfl X (K7 X) rfl (Xa.bits Xb rfl (XdX (y:=1) (Nat.lt_of_le_of_lt (Nat.div_le_self _ _) (g _)) xD) rfl ?_);rw[XiQ];have c:=j (i/64) (i%64) X;rw[show 64*(i/64)+i%64=i from by omega] at c;exact bE func309 Y ⟨Q5 (by rw[Xi7,c];unfold Gy;simp),rfl⟩
theorem XdZ(b:Nat)(x:List Bool)(w:dD)(h:Bf w b x):Xe prog 315 #[xV b] w (X9 (W (cnt x)) w):=by
 exact aR func315 ntmps315 Y (aW Y h.cnt Y (bE func315 Y ⟨rfl,rfl⟩))
theorem Xhc(hk:k<ws.length):(ws.map (λn:Nat=>Value.int .u64 (n:Int))++rest).set k (.int .u64 (n:Int))=(ws.set k n).map (λn:Nat=>Value.int .u64 (n:Int))++rest:=by
 rw[YO _ _ (xU hk),ZW]
theorem O5{l:List α}{x d:α}(hi:i<l.length):(l.set i x).getD j d=if j=i then x else l.getD j d:=by
 simp only[XB,YE];by_cases h:i=j
 .subst h;simp[hi]
 .rw[bJ h,bJ (Ne.symm h)]
theorem Kc:∀(l:List dE) (i:Nat) (v:dE),i<l.length->Ya l i [v]=some (l.set i v)
 |x::r,0,v,_=>by simp[Ya]
 |x::r,i+1,v,h=>by simp[Ya,Kc r i v (xU h)]
theorem Xd1(b:Nat)(x:List Bool)(i:Int)(is:Bool)(w:dD)(h:Bf w b x):Xe prog 314 #[xV b,W i,.bool is] w
 (λv w'=>v=W (Fg x i is)/\Bf w' b (Jk x i is)/\Xc (λz=>z=b) w w'):=by
 have V:=h.len;have M:=h.ne;have C:Fg x i is≠0->Bf w b (Jk x i is):=λS=>by unfold Jk;rw[bJ S];exact h
 obtain⟨ws,d,A,B,L⟩:=h.ws;refine aR func314 ntmps314 Y (bH (Xd2 b x i w h) Y ?_);cases f:G4 x i with
 |false=>
  have g:Fg x i is=1:=by unfold Fg;rw[bK f]
  exact bI Y (bE func314 Y ⟨by rw[g],C (by rw[g];decide),Xc.refl _ _⟩)
 |true=>
  refine aS Y ?_;cases is with
  |true=>
   refine bI Y (bH (T7 b x i w h) Y ?_);cases l:Gy x i with
   |true=>
    have g:Fg x i true=10:=by unfold Fg;rw[f,l];rfl
    exact bI Y (bE func314 Y ⟨by rw[g],C (by rw[g];decide),Xc.refl _ _⟩)
   |false=>
    refine aS Y (aS Y ?_);have hi:0<=i/\i<x.length:=by unfold G4 at f;simpa using f
    obtain⟨i,rfl⟩:=XE hi.1;have N:i/64<8:=X
    have D:(Cq ws x).length=10:=by simp[Cq,d]
    have u:=B (i/64) (i%64) X;rw[show 64*(i/64)+i%64=i from by omega] at u;have o:x.getD i false=false:=by have:=l;unfold Gy at this;simpa using this
    have p:(2:Nat)^(i%64)<2^64:=Nat.pow_lt_pow_right xD X;obtain⟨nw,m⟩:∃nw,nw=ws.getD (i/64) 0 ^^^ 2^(i%64):=⟨_,rfl⟩;refine aQ 14 Xf xK Y λa=>Xd.div Xb a rfl X (Gr X X) rfl (aB (i/64) a Y (aD a (XaT d L N) Y (Xd.div Xb a rfl X (Hg X) rfl ?_)));rw[show((i:Int)%64)=((i%64:Nat):Int) from by omega];refine Xd.shift Xb a rfl X (Xhe X) rfl (Xd.bits Xb a rfl (XaS (A _) p) rfl (aB (i/64) a Y ?_));rw[<-m];refine aF a Y λT q=>aL Y (q.bP L) (show Ya (Cq ws x) (0+i/64) [.int .u64 (nw:Int)]=some ((ws.set (i/64) nw).map (λn:Nat=>Value.int .u64 (n:Int))++[W (x.length:Int),W (cnt x:Int)]) from by rw[XT,Kc _ _ _ (by rw[D];omega)];unfold Cq;rw[Xhc X]) Y λO r E Q=>?_;have F:O.cell? ⟨b,9,none⟩=some (W (cnt x)):=by rw[Yx r];simp[d]
    have P:=Ow x;have c:=Uj x i X true;have y:x[i]'X=false:=by rw[<-o,XB,XD X];rfl
    rw[y] at c
    first|refine Xa.yes Xb rfl rfl rfl ?_|refine Xa.no Xb rfl rfl rfl ?_
    refine aW Y F Y (aJ Y (by simp at c;omega) (aL Y r (show Ya ((ws.set (i/64) nw).map (λn:Nat=>Value.int .u64 (n:Int))++[W (x.length:Int),W (cnt x:Int)]) 9 [W ((cnt x:Int)+1)]=some (Cq (ws.set (i/64) nw) (x.set i true)) from by rw[Kc _ _ _ (by simp[d]),List.set_append_right _ _ (by simp[d])];unfold Cq;simp[d];simp at c;omega) Y λU G H R=>?_));have s:=(q.gr.trans E).trans H;have g:Fg x i true=0:=by unfold Fg;rw[f,l];rfl
    have I:Jk x i true=x.set i true:=by unfold Jk;rw[bK g];simp
    exact Xa.ret1 Xb rfl func314 rfl rfl ⟨by rw[g],by rw[I];exact⟨h.tab.bR s M,⟨_,by simp[d],λk=>by
     rw[O5 X];split
     .rw[m];exact Nat.xor_lt_two_pow (A _) p
     .exact A k,λk j J=>by
     rw[O5 X,O5 X];by_cases t:k=i/64
     .subst t;rw[bK rfl,m,Nat.testBit_xor,Nat.testBit_two_pow,B _ j J];by_cases K:j=i%64
      .subst K;rw[bK X,show 64*(i/64)+i%64=i from by omega,o];simp
      .rw[bJ X,bO X];simp
     .rw[bJ t,bJ X];exact B k j J,G⟩,xU h.pos,xU h.len⟩,s⟩
  |false=>
   refine aS Y (bI Y (bH (T7 b x i w h) Y ?_));cases l:Gy x i with
   |false=>
    have g:Fg x i false=9:=by unfold Fg;rw[f,l];rfl
    exact bI Y (bE func314 Y ⟨by rw[g],C (by rw[g];decide),Xc.refl _ _⟩)
   |true=>
    refine aS Y ?_;have hi:0<=i/\i<x.length:=by unfold G4 at f;simpa using f
    obtain⟨i,rfl⟩:=XE hi.1;have N:i/64<8:=X
    have D:(Cq ws x).length=10:=by simp[Cq,d]
    have u:=B (i/64) (i%64) X;rw[show 64*(i/64)+i%64=i from by omega] at u;have o:x.getD i false=true:=by have:=l;unfold Gy at this;simpa using this
    have p:(2:Nat)^(i%64)<2^64:=Nat.pow_lt_pow_right xD X;obtain⟨nw,m⟩:∃nw,nw=ws.getD (i/64) 0 ^^^ 2^(i%64):=⟨_,rfl⟩;refine aQ 14 Xf xK Y λa=>Xd.div Xb a rfl X (Gr X X) rfl (aB (i/64) a Y (aD a (XaT d L N) Y (Xd.div Xb a rfl X (Hg X) rfl ?_)));rw[show((i:Int)%64)=((i%64:Nat):Int) from by omega];refine Xd.shift Xb a rfl X (Xhe X) rfl (Xd.bits Xb a rfl (XaS (A _) p) rfl (aB (i/64) a Y ?_));rw[<-m];refine aF a Y λT q=>aL Y (q.bP L) (show Ya (Cq ws x) (0+i/64) [.int .u64 (nw:Int)]=some ((ws.set (i/64) nw).map (λn:Nat=>Value.int .u64 (n:Int))++[W (x.length:Int),W (cnt x:Int)]) from by rw[XT,Kc _ _ _ (by rw[D];omega)];unfold Cq;rw[Xhc X]) Y λO r E Q=>?_;have F:O.cell? ⟨b,9,none⟩=some (W (cnt x)):=by rw[Yx r];simp[d]
    have P:=Ow x;have c:=Uj x i X false;have y:x[i]'X=true:=by rw[<-o,XB,XD X];rfl
    rw[y] at c
    first|refine Xa.yes Xb rfl rfl rfl ?_|refine Xa.no Xb rfl rfl rfl ?_
    refine aW Y F Y (aJ Y (by simp at c;omega) (aL Y r (show Ya ((ws.set (i/64) nw).map (λn:Nat=>Value.int .u64 (n:Int))++[W (x.length:Int),W (cnt x:Int)]) 9 [W ((cnt x:Int)-1)]=some (Cq (ws.set (i/64) nw) (x.set i false)) from by rw[Kc _ _ _ (by simp[d]),List.set_append_right _ _ (by simp[d])];unfold Cq;simp[d];simp at c;omega) Y λU G H R=>?_));have s:=(q.gr.trans E).trans H;have g:Fg x i false=0:=by unfold Fg;rw[f,l];rfl
    have I:Jk x i false=x.set i false:=by unfold Jk;rw[bK g];simp
    exact Xa.ret1 Xb rfl func314 rfl rfl ⟨by rw[g],by rw[I];exact⟨h.tab.bR s M,⟨_,by simp[d],λk=>by
     rw[O5 X];split
     .rw[m];exact Nat.xor_lt_two_pow (A _) p
     .exact A k,λk j J=>by
     rw[O5 X,O5 X];by_cases t:k=i/64
     .subst t;rw[bK rfl,m,Nat.testBit_xor,Nat.testBit_two_pow,B _ j J];by_cases K:j=i%64
      .subst K;rw[bK X,show 64*(i/64)+i%64=i from by omega,o];simp
      .rw[bJ X,bO X];simp
     .rw[bJ t,bJ X];exact B k j J,G⟩,xU h.pos,xU h.len⟩,s⟩
theorem XkJ(h:y≠0):∃t,y.testBit t=true/\∀j,j<t->y.testBit j=false:=by
 obtain⟨i,hi⟩:=Nat.exists_testBit_of_ne_zero h;have key:∀n,∀i,i<=n->y.testBit i=true -> ∃t,y.testBit t=true/\∀j,j<t->y.testBit j=false:=by
  intro n
  induction n with
  |zero=>intro i hi b;exact⟨i,b,λj c=>X⟩
  |succ n ih=>
   intro i hi b;by_cases a:∀j,j<i->y.testBit j=false
   .exact⟨i,b,a⟩
   .have:∃j,j<i/\y.testBit j=true:=by
     apply Classical.byContradiction
     intro d;apply a
     intro j c;cases g:y.testBit j with
     |false=>rfl
     |true=>exact(d ⟨j,c,g⟩).elim
    obtain⟨j,c,f⟩:=this;exact ih j X f
 exact key i i (XF _) hi
theorem Xii(hk:k<ws.length):(ws.map (λn:Nat=>Value.int .u64 (n:Int)))[((k:Nat):Int).toNat]?=some (.int .u64 (ws.getD k 0:Nat)):=by
 rw[XA,XO,XD hk,XB,XD hk];rfl
theorem Xd3{x:List Bool}(h1:ws.length=8)(h:w.heap[b]?=some (.cells (Cq ws x).toArray 375 (0,0))):∀j v,(ws.map (λn:Nat=>Value.int .u64 (n:Int)))[j]?=some v->w.cell? ⟨b,0+j,none⟩=some v:=λj v a=>by
 have c:j<ws.length:=by have:=(XC.1 a).1;simpa using this
 rw[Yx h,XT,QA];unfold Cq;rw[ZA (xU c)];exact a
theorem XeS{x:List Bool}(h:x.getD j false=true):j<x.length:=by
 rcases Nat.lt_or_ge j x.length with h2|h2
 .exact h2
 .rw[XB,ZF h2] at h;cases h
theorem Ih{x:List Bool}(h:j<x.length):x[j]=x.getD j false:=by simp[QX,h]
theorem Xd0(b:Nat)(x:List Bool)(w:dD)(h:Bf w b x):Xe prog 312 #[xV b] w (Grow (W (G7 x)) w):=by
 have K:=h.len;refine aR func312 ntmps312 Y (Xa.quiet rfl Xn xK (Xk.adv Xb rfl (Xk.load Xb rfl h.cnt rfl (Xk.load Xb rfl h.many rfl (Xk.nil λG m=>aN Y ?_)))));have A:=h.bQ m;obtain⟨ws,H,u,v,I⟩:=A.ws;by_cases a:cnt x=x.length
 .exact aM Y (by rw[a];exact beq_self_eq_true _) (bE func312 Y ⟨X0 (Ij (p:=λb=>!b) (λj l=>by rw[Ui a j l];rfl)).symm,m⟩)
 .obtain⟨B,C,c⟩:=Xa6 a;rw[Ih C] at c;refine aI Y xQ (Xa.loadC Xb (ws.map (λn:Nat=>Value.int .u64 (n:Int))) rfl xT (Xd3 H I) rfl ?_);refine Xa.loop (α:=Nat) (λk=>[(3,false,W (-1)),(23,false,.agg (ws.map (λn:Nat=>Value.int .u64 (n:Int))).toArray),(24,false,W k)])
   (λk w'=>w'=G/\k<=8/\∀j,j<64*k->x.getD j false=true) (λk=>8-k) 0 ⟨rfl,rfl,rfl,trivial⟩ ⟨rfl,X,λj l=>X⟩ ?_
  rintro k D ⟨J,L,f⟩ ih;subst J;refine aN Y (aT Y (λy=>?_) λy=>?_)
  .have E:k<8:=xH (bL y)
   refine Xa.aidx Xb rfl xT X (Xii X) rfl (Xa.un Xb rfl (XoN (u k)) rfl ?_);by_cases z:Mu (ws.getD k 0)=0
   .rw[z];refine bH (Xjc D) Y (aS Y (aV Y ?_));exact ih (k+1) _ _ ⟨rfl,X,λj l=>by
     by_cases d:j<64*k
     .exact f j d
     .have o:=Xbb (x:=ws.getD k 0) (j:=j-64*k) X;rw[z,Nat.zero_testBit,v k _ X,show 64*k+(j-64*k)=j from by omega] at o
      simpa using o.symm⟩ X ⟨rfl,rfl,rfl,trivial⟩
   .obtain⟨t,i,r⟩:=XkJ z;have g:t<64:=by
     rcases Nat.lt_or_ge t 64 with h'|h'
     .exact h'
     .rw[Nat.testBit_lt_two_pow (Nat.lt_of_lt_of_le (Xes (u k)) (Nat.pow_le_pow_right xD h'))] at i;cases i
    have F:x.getD (64*k+t) false=false:=by
     rw[<-v k t g];have:=Xbb (x:=ws.getD k 0) g;rw[i] at this
     simpa using this.symm
    have q:∀j,j<64*k+t->x.getD j false=true:=λj l=>by
     by_cases d:j<64*k
     .exact f j d
     .have o:=Xbb (x:=ws.getD k 0) (j:=j-64*k) X;rw[r _ X,v k _ X,show 64*k+(j-64*k)=j from by omega] at o
      simpa using o.symm
    have s:64*k+t<x.length:=by
     rcases Nat.lt_or_ge (64*k+t) x.length with h'|h'
     .exact h'
     .rw[q B X] at c;cases c
    exact bH (Xjb (Mu (ws.getD k 0)) t D A.tab (Xes (u k)) g i r) Y (bI Y (aV Y (aV Y (bE func312 Y ⟨X0 (by have:=J1 (p:=λb=>!b) s (λj l d=>by rw[Ih l,q j d];rfl) (by rw[Ih s,F];rfl);unfold G7;rw[this];omega),m⟩))))
  .exfalso
   have E:k=8:=xH (bM y)
   rw[f B X] at c;cases c
theorem Xi8(b:Nat)(x:List Bool)(w:dD)(h:Bf w b x):Xe prog 311 #[xV b] w (X9 (W (R8 x)) w):=by
 have L:=h.len;obtain⟨ws,E,y,r,F⟩:=h.ws;refine aR func311 ntmps311 Y (Xa.loadC Xb (ws.map (λn:Nat=>Value.int .u64 (n:Int))) rfl xT (Xd3 E F) rfl ?_);refine Xa.loop (α:=Nat×Int) (λp=>[(3,false,W p.2),(11,false,.agg (ws.map (λn:Nat=>Value.int .u64 (n:Int))).toArray),(12,false,W p.1)])
  (λp w'=>w'=w/\p.1<=8/\((p.2=-1/\∀j,j<64*p.1->x.getD j false=false)\/(∃i:Nat,i<64*p.1/\p.2=i/\x.getD i false=true/\∀j,i<j->j<64*p.1->x.getD j false=false))) (λp=>8-p.1) (0,-1) ⟨rfl,rfl,rfl,trivial⟩ ⟨rfl,X,.inl ⟨rfl,λj a=>X⟩⟩ ?_
 rintro⟨k,at'⟩ G ⟨H,I,f⟩ ih;simp only at I f
 subst H;refine aN Y (aT Y (λs=>?_) λs=>?_)
 .have o:k<8:=xH (bL s)
  refine Xa.aidx Xb rfl xT X (Xii X) rfl ?_;by_cases t:ws.getD k 0=0
  .refine aI Y (by rw[t];rfl) (aV Y ?_);have q:∀j,64*k<=j->j<64*(k+1)->x.getD j false=false:=λj a d=>by
    have z:=r k (j-64*k) X;rw[t,Nat.zero_testBit,show 64*k+(j-64*k)=j from by omega] at z;exact z.symm
   refine ih (k+1,at') _ _ ⟨rfl,xP,?_⟩ xP ⟨rfl,rfl,rfl,trivial⟩;rcases f with⟨g,c⟩|⟨i,g,c,l,u⟩
   .exact .inl ⟨g,λj a=>by by_cases m:j<64*k;exact c j m;exact q j X a⟩
   .exact .inr ⟨i,xP,c,l,λj a d=>by by_cases m:j<64*k;exact u j a m;exact q j X d⟩
  .refine aM Y (xU t) (aV Y (aP Y (Xi9 (ws.getD k 0) G (y k)) ?_));rintro _ M ⟨n,v,rfl,rfl⟩;have A:=v.pos X;have J:=v.le (y k);refine aN Y (aV Y (aV Y (aV Y ?_)));obtain⟨B,C⟩:=v.top A;refine ih (k+1,(k:Int)*64+n-1) _ _ ⟨rfl,xP,.inr ⟨64*k+(n-1),xP,xP,?_,λj a d=>?_⟩⟩ xP ⟨rfl,rfl,rfl,trivial⟩
   .rw[<-r k (n-1) X];exact B
   .have:=r k (j-64*k) (by simp only at d;omega);rw[show 64*k+(j-64*k)=j from by omega] at this;rw[<-this];exact C _ X
 .have o:k=8:=xH (bM s)
  subst o;have K:at'=R8 x:=by
   unfold R8;rcases f with⟨g,c⟩|⟨i,g,c,l,u⟩
   .rw[g,XgM (λj a=>by rw[Ih a];exact c j X)]
   .rw[c,Xcs (XeS l) (λj a D=>by rw[Ih a];exact u j D X) (by rw[Ih (XeS l)];exact l)]
  exact bE func311 Y ⟨X0 K,rfl⟩
def Y9(x:List Int):List Bool:=x.map λo=>!(o == -1)
def Yf(x:List Int)(i:Int):Int:=if 0<=i then x.getD i.toNat (-1) else -1
def Yn(x:List Int):Int:=G7 (Y9 x)
def Lt(x:List Int):Int:=R8 (Y9 x)
def Xt(x:List Int):Nat:=cnt (Y9 x)
def Dz(x:List Int)(who:Int):Int:=if who<0 then 1 else if Yn x<0 then 5 else 0
def Ev(x:List Int)(who:Int):Int:=if Dz x who=0 then Yn x else 0
def Qk(x:List Int)(who:Int):List Int:=if Dz x who=0 then x.set (Yn x).toNat who else x
def Q6(x:List Int)(i:Int):Int:=if i<0\/(x.length:Int)<=i then 1 else if Yf x i=-1 then 9 else 0
def Yr(x:List Int)(i:Int):List Int:=if Q6 x i=0 then x.set i.toNat (-1) else x
def Ap(x:List Int)(i who:Int):Int:=if i<0\/(x.length:Int)<=i\/who<0 then 1 else if Yf x i=-1 then 9 else 0
def By(x:List Int)(i who:Int):List Int:=if Ap x i who=0 then x.set i.toNat who else x
theorem Fv(x:List Int):(Y9 x).length=x.length:=by simp[Y9]
theorem Sr(x:List Int)(k:Nat):(Y9 x).getD k false=!(x.getD k (-1) == -1):=by
 unfold Y9;rw[XB,XO,XB];cases h:x[k]? <;> simp
theorem Vq(x:List Int)(i:Int):Gy (Y9 x) i=!(Yf x i == -1):=by
 unfold Gy Yf;rw[Sr];by_cases h:0<=i
 .rw[bK h,bN h];rfl
 .rw[bJ h,bO h];rfl
theorem Xb2(x:List Int)(i:Int):G4 (Y9 x) i=true↔0<=i/\i<x.length:=by
 unfold G4;rw[Fv];simp
theorem Vl(x:List Int)(i:Nat)(v:Int):Y9 (x.set i v)=(Y9 x).set i (!(v == -1)):=by
 unfold Y9;rw[ZW]
theorem Xb1{x:List Int}{i:Int}(h:i<0\/(x.length:Int)<=i):Yf x i=-1:=by
 unfold Yf;by_cases a:0<=i
 .rw[bK a,XB,ZF X];rfl
 .rw[bJ a]
theorem Xej:∀(x:List Bool) (k:Nat) (h:k<x.length),cnt (x.take (k+1))=cnt (x.take k)+(if x[k] then 1 else 0)
 |[],k,h=>by simp at h
 |a::r,0,h=>by simp[cnt]
 |a::r,k+1,h=>by
  have:=Xej r k (xU h);simp only[List.take_succ_cons,cnt,List.getElem_cons_succ];rw[this];omega
theorem Xfy{x:List Bool}(hfull:cnt x≠x.length):∃t,t<x.length/\x.getD t false=false/\∀j,j<t->x.getD j false=true:=by
 obtain⟨h,f,a⟩:=Xa6 hfull;have key:∀m t,t<=m->t<x.length->x.getD t false=false -> ∃t,t<x.length/\x.getD t false=false/\∀j,j<t->x.getD j false=true:=by
  intro m
  induction m with
  |zero=>intro t ht b c;exact⟨t,b,c,λj g=>X⟩
  |succ m ihm=>
   intro t ht b c;by_cases d:∀j,j<t->x.getD j false=true
   .exact⟨t,b,c,d⟩
   .have:∃j,j<t/\x.getD j false=false:=by
     apply Classical.byContradiction
     intro i;apply d
     intro j g;cases k:x.getD j false with
     |true=>rfl
     |false=>exact(i ⟨j,g,k⟩).elim
    obtain⟨j,g,a⟩:=this;exact ihm j X X a
 exact key h h (XF _) f (by rw[<-Ih f];exact a)
theorem XkR{x:List Bool}(h:0<=G7 x):(G7 x).toNat<x.length/\x.getD (G7 x).toNat false=false:=by
 unfold G7 at h⊢;by_cases hf:cnt x=x.length
 .rw[Ij (p:=λb=>!b) (λj d=>by rw[Ui hf j d];rfl)] at h;exact absurd h xD
 .obtain⟨t,a,c,f⟩:=Xfy hf;rw[J1 (p:=λb=>!b) a (λj d g=>by rw[Ih d,f j g];rfl) (by rw[Ih a,c];rfl)];exact⟨a,c⟩
theorem XbB{x:List Bool}:G7 x<0↔cnt x=x.length:=by
 unfold G7;by_cases hf:cnt x=x.length
 .rw[Ij (p:=λb=>!b) (λj c=>by rw[Ui hf j c];rfl)];exact⟨λ_=>hf,λ_=>xD⟩
 .obtain⟨t,a,d,f⟩:=Xfy hf;rw[J1 (p:=λb=>!b) a (λj c g=>by rw[Ih c,f j g];rfl) (by rw[Ih a,d];rfl)];exact⟨λh=>X,λh=>absurd h hf⟩
structure Pg where
 p:Nat
 bb:Nat
 mb:Nat
abbrev Fd(g:Pg):dE:=.pointer (some ⟨g.p,0,none⟩)
def Hc(g:Pg):Nat->Prop:=λz=>z=g.bb\/z=g.mb
def Ss(g:Pg)(x:List Int):List dE:=[.pointer (some ⟨g.bb,0,none⟩),.int .i64 (x.length:Int),.map (some g.mb)]
structure Aa(w:dD)(g:Pg)(x:List Int):Prop where
 pc:w.heap[g.p]?=some (.cells (Ss g x).toArray 348 (0,0))
 bits:Bf w g.bb (Y9 x)
 own:∃m,Y7 w g.mb m/\(Bl m).Nodup/\∀i,i<x.length->x.getD i (-1)≠-1->Br m i=some (.int .i64 (x.getD i (-1)))
 npb:g.p≠g.bb
 npm:g.p≠g.mb
 nbm:g.bb≠g.mb
theorem Aa.bR{S:Nat->Prop}{w w':dD}{g:Pg}{x:List Int}(h:Aa w g x)(hc:Xc S w w')(h1:¬S g.p)(h2:¬S g.bb)(h3:¬S g.mb)(hg:¬S 1):Aa w' g x:=by
 obtain⟨m,hm,a,b⟩:=h.own;exact⟨hc.heap h.pc h1,h.bits.bR hc h2 hg,⟨m,hm.bR hc h3,a,b⟩,h.npb,h.npm,h.nbm⟩
theorem Aa.bQ{g:Pg}{x:List Int}(h:Aa w g x)(hc:Xc Xf w w'):Aa w' g x:=h.bR hc id id id id
theorem Aa.lt{w:dD}{g:Pg}{x:List Int}(h:Aa w g x):g.p<w.heap.size/\g.bb<w.heap.size/\g.mb<w.heap.size:=by
 obtain⟨m,hm,a,b⟩:=h.own;exact⟨Xg h.pc,h.bits.lt,hm.lt⟩
theorem Aa.footlt{g:Pg}{x:List Int}(h:Aa w g x):∀b,Hc g b->b<w.heap.size:=λb a=>by
 obtain⟨_,c,d⟩:=h.lt;rcases a with rfl|rfl
 .exact c
 .exact d
theorem Aa.notab{g:Pg}{x:List Int}(h:Aa w g x):1≠g.mb:=λe=>by
 obtain⟨m,⟨es,c,hm,_⟩,a,b⟩:=h.own;have:=h.bits.tab 0 xD;rw[e] at this;simp only[World.cell?,hm] at this;cases this
theorem XfY(m:Nat)(w:dD)(hT0:Bk w)(h:1<=m/\m<=512):Xe prog 245 #[W m] w
 (λv w'=>∃g,v=.tuple #[Fd g,W 0]/\(w.heap.size<=g.p/\w.heap.size<=g.bb/\w.heap.size<=g.mb)/\Aa w' g (List.replicate m (-1))/\Xc Xf w w'):=by
 refine aR func245 ntmps245 Y (aP Y (Xja m w hT0 h) ?_);rintro _ y ⟨bb,rfl,j,c,d⟩;refine aN Y (aS Y (Xa.mkmap rfl λmb z r k f s=>aN Y (aO Y (bC Y λp A e3 q a t=>?_))));have l:=(c.bQ f).bQ a;have u:=c.lt;have x:=d.size;have b:(List.replicate m (-1:Int)).length=m:=XJ;have n:Y9 (List.replicate m (-1))=List.replicate m false:=by simp[Y9]
 refine bE func245 Y ⟨⟨p,bb,mb⟩,rfl,⟨xP,j,xP⟩,⟨by unfold Ss;rw[b];exact q,by rw[n];exact l,⟨[],k.bR a id,QB,λi hi o=>absurd (by rw[b] at hi;rw[XB,ZD,bK hi];rfl) o⟩,xP,xP,xP⟩,(d.trans f).trans a⟩
theorem Xf1(g:Pg)(x:List Int)(w:dD)(h:Aa w g x):Xe prog 318 #[Fd g] w (X9 (W (Xt x)) w):=by
 exact aR func318 ntmps318 Y (bB h.pc Y (bH (XdZ g.bb _ w h.bits) Y (bE func318 Y ⟨rfl,rfl⟩)))
theorem XlD(g:Pg)(x:List Int)(w:dD)(h:Aa w g x):Xe prog 290 #[Fd g] w (Grow (W (Yn x)) w):=by
 exact aR func290 ntmps290 Y (bB h.pc Y (bG (Xd0 g.bb _ w h.bits) Y λb a=>bE func290 Y ⟨rfl,a⟩))
theorem XlH(g:Pg)(x:List Int)(w:dD)(h:Aa w g x):Xe prog 289 #[Fd g] w (X9 (W (Lt x)) w):=by
 exact aR func289 ntmps289 Y (bB h.pc Y (bH (Xi8 g.bb _ w h.bits) Y (bE func289 Y ⟨rfl,rfl⟩)))
theorem Vk(g:Pg)(x:List Int)(w:dD)(h:Aa w g x):Xe prog 294 #[Fd g] w (Grow (.bool ((Xt x:Int) == x.length)) w):=by
 exact aR func294 ntmps294 Y (aQ 15 Xf xK Y λa=>Xd.yes Xb a rfl rfl rfl (aE a h.pc Y (aH a (λw' b=>XdZ g.bb _ w' (h.bits.bQ b)) Y (aE a h.pc Y (aF a Y λd c=>bE func294 Y ⟨rfl,c⟩)))))
theorem XlF(g:Pg)(x:List Int)(i:Int)(w:dD)(h:Aa w g x):Xe prog 291 #[Fd g,.int .i64 i] w (X9 (.int .i64 (Yf x i)) w):=by
 refine aR func291 ntmps291 Y (aS Y (bB h.pc Y (bH (T7 g.bb _ i w h.bits) Y ?_)));rw[Vq];cases d:(Yf x i == -1) with
 |true=>
  exact bI Y (bE func291 Y ⟨X0 (show -1=Yf x i from(by simpa using d:Yf x i=-1).symm),rfl⟩)
 |false=>
  refine aS Y ?_;obtain⟨m,hm,j,f⟩:=h.own;have a:Yf x i≠-1:=by simpa using d
  have b:0<=i/\i<x.length:=Classical.byContradiction λl=>a (Xb1 (by omega));obtain⟨k,rfl⟩:=XE b.1;have c:Yf x k=x.getD k (-1):=by unfold Yf;rw[bK b.1];rfl
  exact bB h.pc Y (Xa.lookup Xb rfl (hm) ((show Bv m (.int .i64 0) k false=.int .i64 (Yf x k) by unfold Bv;rw[(f k (by omega) (by rw[<-c];exact a)),c];rfl)) rfl (bE func291 Y ⟨rfl,rfl⟩))
theorem Xf0(i:Int)(w:dD):Xe prog 291 #[.pointer none,W i] w (X9 (W (-1)) w):=by
 exact aR func291 ntmps291 Y (bE func291 Y ⟨rfl,rfl⟩)
variable {G:Nat->Pg}
theorem Vr{x:List Int}(h:¬Yn x<0):(Yn x).toNat<x.length/\x.getD (Yn x).toNat (-1)=-1:=by
 obtain⟨a,b⟩:=XkR (x:=Y9 x) (by unfold Yn at h;omega);rw[Fv] at a;rw[Sr] at b;exact⟨a,show x.getD (G7 (Y9 x)).toNat (-1)=-1 by simpa using b⟩
theorem O6(x:List Int)(i j:Nat)(v:Int):(x.set i v).getD j (-1)=if i=j/\i<x.length then v else x.getD j (-1):=by
 rw[XB,YE,XB];by_cases h:i=j
 .subst h;by_cases a:i<x.length
  .simp[a]
  .simp[a]
 .simp[h]
theorem XlG(g:Pg)(x:List Int)(who:Int)(w:dD)(h:Aa w g x):Xe prog 293 #[Fd g,W who] w
 (λv w'=>v=.tuple #[W (Ev x who),W (Dz x who)]/\Aa w' g (Qk x who)/\Xc (Hc g) w w'):=by
 have z:=h.bits.len;rw[Fv] at z;by_cases A:who<0
 .have a:Dz x who=1:=by unfold Dz;rw[bK A]
  have j:Ev x who=0:=by unfold Ev;rw[a];rfl
  have ht:Qk x who=x:=by unfold Qk;rw[a];rfl
  rw[a,j,ht];exact aR func293 ntmps293 Y (bI Y (bE func293 Y ⟨rfl,h,Xc.refl _ _⟩))
 .by_cases c:Yn x<0
  .have a:Dz x who=5:=by unfold Dz;rw[bJ A,bK c]
   have j:Ev x who=0:=by unfold Ev;rw[a];rfl
   have ht:Qk x who=x:=by unfold Qk;rw[a];rfl
   have b:((Xt x:Int) == x.length)=true:=by have:=XbB.1 c;rw[Fv] at this;unfold Xt;rw[this];exact beq_self_eq_true _
   rw[a,j,ht];refine aR func293 ntmps293 Y (aS Y (bG (Vk g x w h) Y λC d=>?_));rw[b];exact bI Y (bE func293 Y ⟨rfl,h.bQ d,d.mono (λ_ _ h=>h.elim)⟩)
  .have a:Dz x who=0:=by unfold Dz;rw[bJ A,bJ c]
   have j:Ev x who=Yn x:=by unfold Ev;rw[a];rfl
   have ht:Qk x who=x.set (Yn x).toNat who:=by unfold Qk;rw[a];rfl
   have b:((Xt x:Int) == x.length)=false:=by
    rw[beq_eq_false_iff_ne];intro e;exact c (XbB.2 (by rw[Fv];unfold Xt at e;omega))
   obtain⟨r,s⟩:=Vr c;rw[a,j,ht];refine aR func293 ntmps293 Y (aS Y (bG (Vk g x w h) Y λC d=>?_));rw[b];have k:=h.bQ d;refine aS Y (bB k.pc Y (bG (Xd0 g.bb _ C k.bits) Y λG t=>?_));have f:=k.bQ t;obtain⟨m,hm,H,D⟩:=f.own;refine bB f.pc Y (Xa.mapset Xb rfl (hm) λI E l L=>aN Y ?_);have n:=l.heap f.pc h.npm;refine bB n Y (aP Y (Xd1 g.bb _ (G7 (Y9 x)) true I (f.bits.bR l h.nbm f.notab)) ?_);rintro _ J ⟨rfl,u,o⟩;refine aN Y ?_;have y:Fg (Y9 x) (G7 (Y9 x)) true=0:=by
    unfold Fg;rw[bJ (by rw[(Xb2 x _).2 ⟨by unfold Yn at c;omega,by unfold Yn at r c;omega⟩];decide),bJ (by rw[Vq];unfold Yf;unfold Yn at s;rw[s];split <;> decide),bJ xS]
   have F:Jk (Y9 x) (G7 (Y9 x)) true=Y9 (x.set (Yn x).toNat who):=by
    unfold Jk;rw[bK y,Vl,show(!(who == -1))=true from by simp;omega];rfl
   rw[y];rw[F] at u;have B:Xc (Hc g) G J:=(l.mono λ_ _ h=>.inr h).trans (o.mono λ_ _ h=>.inl h);have p:=o.heap n h.npb;exact Xa.ret2 Xb rfl func293 rfl rfl rfl ⟨rfl,⟨by unfold Ss at p⊢;rw[XG];exact p,u,⟨_,(E.bR o h.nbm.symm),XbL H _ _,λi hi q=>by
    rw[Jv,O6];rw[XG] at hi;by_cases e:(i:Int)=G7 (Y9 x)
    .rw[bK e,bK ⟨by unfold Yn;omega,r⟩]
    .rw[O6] at q;have e':¬((Yn x).toNat=i/\(Yn x).toNat<x.length):=λK=>e (by unfold Yn at K c;omega);rw[bJ e'] at q⊢;rw[bJ e];exact D i hi q⟩,h.npb,h.npm,h.nbm⟩,(((d.trans t).mono (λ_ _ h=>h.elim)).trans B)⟩
theorem XlC(g:Pg)(x:List Int)(i:Int)(w:dD)(h:Aa w g x):Xe prog 296 #[Fd g,W i] w
 (λv w'=>v=W (Q6 x i)/\Aa w' g (Yr x i)/\Xc (Hc g) w w'):=by
 have q:Fg (Y9 x) i false=Q6 x i:=by
  unfold Fg Q6;by_cases hi:0<=i/\i<x.length
  .rw[bJ (by rw[(Xb2 x i).2 hi];decide),bJ xS,bJ (show ¬(i<0\/(x.length:Int)<=i) by omega),Vq];by_cases a:Yf x i=-1
   .rw[bK a,bK (by rw[a];rfl)]
   .rw[bJ a,bJ (xU a)]
  .rw[bK (by cases B:G4 (Y9 x) i;rfl;exact absurd ((Xb2 x i).1 B) hi),bK X]
 have C:Jk (Y9 x) i false=Y9 (Yr x i):=by
  unfold Jk Yr;rw[q];split
  .rw[Vl];rfl
  .rfl
 have l:(Yr x i).length=x.length:=by unfold Yr;split <;> simp
 obtain⟨m,hm,r,s⟩:=h.own;refine aR func296 ntmps296 Y (bB h.pc Y (Xa.mapdel Xb rfl (hm) λt u b E=>aN Y ?_));have c:=b.heap h.pc h.npm;have y:Bf t g.bb (Y9 x):=h.bits.bR b h.nbm h.notab;refine bB c Y (aP Y (Xd1 g.bb _ i false t y) ?_);rintro _ G ⟨rfl,n,d⟩;refine aN Y ?_;rw[q];rw[C] at n;have z:=u.bR d h.nbm.symm;have f:=d.heap c h.npb;exact Xa.ret1 Xb rfl func296 rfl rfl ⟨rfl,⟨by unfold Ss at f⊢;rw[l];exact f,n,⟨_,z,XfN r _,λj o k=>by
  rw[l] at o;rw[Mk r];by_cases e:(j:Int)=i
  .exfalso
   apply k
   unfold Yr Q6;subst e;have A:Yf x (j:Int)=x.getD j (-1):=by unfold Yf;rw[bK X];rfl
   rw[bJ (show ¬((j:Int)<0\/(x.length:Int)<=j) by omega)];by_cases a:Yf x (j:Int)=-1
   .rw[bK a,bJ xD,<-A];exact a
   .rw[bJ a,bK rfl,XA,O6,bK ⟨rfl,o⟩]
  .rw[bJ e];have D:(Yr x i).getD j (-1)=x.getD j (-1):=by
    unfold Yr;split
    .rename_i p
     have F:0<=i:=Classical.byContradiction λH=>by unfold Q6 at p;rw[bK X] at p;cases p
     rw[O6,bJ X]
    .rfl
   rw[D] at k⊢;exact s j o k⟩,h.npb,h.npm,h.nbm⟩,(b.mono λ_ _ h=>.inr h).trans (d.mono λ_ _ h=>.inl h)⟩
theorem XlE(g:Pg)(x:List Int)(i who:Int)(w:dD)(h:Aa w g x):Xe prog 285 #[Fd g,W i,W who] w
 (λv w'=>v=W (Ap x i who)/\Aa w' g (By x i who)/\Xc (Hc g) w w'):=by
 have n:∀e:Int,Ap x i who=e->e≠0->By x i who=x:=λe q r=>by unfold By;rw[q,bJ r]
 refine aR func285 ntmps285 Y ?_;by_cases q:who<0
 .have a:Ap x i who=1:=by unfold Ap;rw[bK X]
  rw[a,n 1 a xD];exact bI Y (bE func285 Y ⟨rfl,h,Xc.refl _ _⟩)
 refine aS Y ?_;by_cases r:i<0
 .have a:Ap x i who=1:=by unfold Ap;rw[bK X]
  rw[a,n 1 a xD];exact bI Y (bE func285 Y ⟨rfl,h,Xc.refl _ _⟩)
 refine aS Y (bB h.pc Y ?_);by_cases C:(x.length:Int)<=i
 .have a:Ap x i who=1:=by unfold Ap;rw[bK X]
  rw[a,n 1 a xD];exact bI Y (bE func285 Y ⟨rfl,h,Xc.refl _ _⟩)
 refine aS Y (bB h.pc Y (bH (T7 g.bb _ i w h.bits) Y ?_));rw[Vq];by_cases d:Yf x i=-1
 .have a:Ap x i who=9:=by unfold Ap;rw[bJ X,bK d]
  rw[a,n 9 a xD,d];exact bI Y (bE func285 Y ⟨rfl,h,Xc.refl _ _⟩)
 .have a:Ap x i who=0:=by unfold Ap;rw[bJ X,bJ d]
  have z:By x i who=x.set i.toNat who:=by unfold By;rw[a];rfl
  rw[a,z];refine aI Y (show(!!(Yf x i == -1))=false by simpa using d) ?_;obtain⟨m,hm,A,s⟩:=h.own;refine bB h.pc Y (Xa.mapset Xb rfl (hm) λD t f B=>aN Y ?_);have l:=f.heap h.pc h.npm;obtain⟨k,rfl⟩:=XE (show 0<=i by omega);have u:Yf x (k:Int)=x.getD k (-1):=by unfold Yf;rw[bK X];rfl
  have y:Y9 (x.set k who)=Y9 x:=by
   rw[Vl,show(!(who == -1))=true from by simp;omega];apply QH
   intro j;rw[YE];split
   .rename_i e
    subst e;have:=Sr x k;rw[XB,show(!(x.getD k (-1) == -1))=true from by rw[<-u];simpa using d] at this;cases p:(Y9 x)[k]? with
    |none=>rw[p] at this;cases this
    |some b=>rw[p] at this;simp at this;subst this;rw[bK (XC.1 p).1]
   .rfl
  exact Xa.ret1 Xb rfl func285 rfl rfl ⟨rfl,⟨by unfold Ss at l⊢;rw[XG];exact l,by rw[XA,y];exact(h.bits.bR f h.nbm h.notab),⟨_,t,XbL A _ _,λj o c=>by
   rw[XA] at o c⊢;rw[XG] at o;rw[Jv];rw[O6] at c⊢;by_cases e:(j:Int)=k
   .have e':k=j:=X
    subst e';rw[bK rfl,bK ⟨rfl,o⟩]
   .rw[bJ (show ¬(k=j/\k<x.length) by omega)] at c⊢;rw[bJ e];exact s j o c⟩,h.npb,h.npm,h.nbm⟩,f.mono λ_ _ h=>.inr h⟩
theorem XfZ(i who:Int)(w:dD):Xe prog 285 #[.pointer none,W i,W who] w (X9 (W 1) w):=by
 exact aR func285 ntmps285 Y (bE func285 Y ⟨rfl,rfl⟩)
theorem Fp{a t':Nat}{c c':Array dE}{f f':Nat×Nat}(h:w.heap[a]?=some (.cells c t f))(h':w.heap[b]?=some (.cells c' t' f'))(ht:t≠t'):a≠b:=by
 intro e;subst e;rw[h] at h';cases h';exact ht rfl
def Be(len:Nat)(f:Nat->Int):List dE:=(List.range len).map λi=>.int .i64 (f i)
def Zq(w:dD)(b:Nat)(t:TypeId)(len:Nat)(f:Nat->Int):Prop:=w.heap[b]?=some (.cells (Be len f).toArray t (0,0))
def X4(f:Nat->Int)(i:Nat)(v:Int):Nat->Int:=λj=>if j=i then v else f j
theorem A4(f:Nat->Int)(i:Nat)(v:Int):X4 f i v i=v:=by unfold X4;rw[bK rfl]
theorem X6(f:Nat->Int)(v:Int)(h:j≠i):X4 f i v j=f j:=by unfold X4;rw[bJ h]
theorem XcU(len:Nat)(f:Nat->Int):(Be len f).length=len:=by unfold Be;simp
theorem XcV{len:Nat}{v:Int}(hi:i<len):(Be len f).set i (W v)=Be len (X4 f i v):=by
 refine QH λj=>?_;unfold Be;rw[YE];by_cases h:i=j
 .subst h;rw[bK rfl,bK (xU hi),XO,List.getElem?_range hi];simp[X4]
 .rw[bJ h,XO,XO];by_cases a:j<len
  .rw[List.getElem?_range a];simp[X4,Ne.symm h]
  .rw[ZF (xU a)];rfl
theorem B9{t:TypeId}{len:Nat}(h:Zq w b t len f)(e:j=k)(hk:k<len):w.cell? ⟨b,j,none⟩=some (W (f k)):=by
 subst e;rw[Yx h];unfold Be;simp[hk]
theorem XcB:∀(l:List dE) (i:Nat) (v:dE) (vs:List dE),i<l.length->Ya l i (v::vs)=Ya (l.set i v) (i+1) vs
 |x::r,0,v,vs,_=>rfl
 |x::r,i+1,v,vs,h=>by
  show(match Ya r i (v::vs) with|some q=>some (x::q)|none=>none)=(match Ya (r.set i v) (i+1) vs with|some q=>some (x::q)|none=>none)
  rw[XcB r i v vs (xU h)]
theorem Ga{len:Nat}{v:Int}(e:j=i)(hi:i<len):Ya (Be len f) j [W v]=some (Be len (X4 f i v)):=by
 subst e;rw[Kc _ _ _ (by rw[XcU];exact hi),XcV hi]
theorem P8{len:Nat}{v:Int}(e:j=i)(hi:i+1<len):Ya (Be len f) j [W v,W u]=some (Be len (X4 (X4 f i v) (i+1) u)):=by
 subst e;rw[XcB _ _ _ _ (by rw[XcU];omega),XcV X,Ga rfl hi]
theorem Xhb{len:Nat}{v:Int}(e:j=i)(hi:i+2<len):Ya (Be len f) j [W v,W u,W z]=some (Be len (X4 (X4 (X4 f i v) (i+1) u) (i+2) z)):=by
 subst e;rw[XcB _ _ _ _ (by rw[XcU];omega),XcV X,P8 rfl X]
structure PlM where
 own:List Int
 free:List Nat
def PlM.take(x:PlM)(who:Int):PlM:=match x.free with
 |[]=>x
 |n::r=>⟨x.own.set n who,r⟩
def PlM.give(x:PlM)(n:Nat):PlM:=⟨x.own.set n (-1),n::x.free⟩
def D0(n:Nat):PlM:=⟨List.replicate n (-1),List.range n⟩
structure PlM.Good(x:PlM):Prop where
 len:1<=x.own.length/\x.own.length<=1024
 nodup:x.free.Nodup
 free:∀n∈x.free,n<x.own.length/\x.own.getD n 0=-1
 all:∀n,n<x.own.length->x.own.getD n 0=-1->n∈x.free
 many:x.free.length+Xt x.own=x.own.length
structure Pl where
 pb:Nat
 ab:Nat
def Lw(P:Pl)(own:List Int)(head:Int):List dE:=[.slice (some ⟨P.ab,0,none⟩) own.length own.length,.int .i64 head,.int .i64 (Xt own:Nat),.func (.func 242) #[] #[]]
abbrev Ff(P:Pl):dE:=.pointer (some ⟨P.pb,0,none⟩)
def Az(P:Pl):Nat->Prop:=λz=>z=P.pb\/z=P.ab
def J2(f:Nat->Int)(N:Nat):Int->List Nat->Prop
 |h,[]=>h=N
 |h,a::r=>h=a/\J2 f N (f (a*2+1)) r
theorem Xbz{g:Nat->Int}:∀{l:List Nat} {h:Int},(∀a∈l,f (a*2+1)=g (a*2+1))->J2 f N h l->J2 g N h l
 |[],_,_,hl=>hl
 |a::r,_,hfg,hl=>⟨hl.1,by rw[<-hfg a xS];exact Xbz (λb hb=>hfg b (by simp[hb])) hl.2⟩
structure Z6(w:dD)(P:Pl)(x:PlM):Prop where
 cV:x.Good
 at':∃head f,w.heap[P.pb]?=some (.cells (Lw P x.own head).toArray 291 (0,0))/\Zq w P.ab 337 (x.own.length*2) f/\J2 f x.own.length head x.free/\∀n,n<x.own.length->f (n*2)=x.own.getD n 0
theorem Z6.bR{P:Pl}{x:PlM}(h:Z6 w P x)(hc:Xc S w w')(h1:¬S P.pb)(h2:¬S P.ab):Z6 w' P x:=by
 obtain⟨head,f,a,b,c⟩:=h.at';exact⟨h.cV,head,f,hc.heap a h1,hc.heap b h2,c⟩
theorem Z6.bQ{P:Pl}{x:PlM}(h:Z6 w P x)(hc:Xc Xf w w'):Z6 w' P x:=h.bR hc id id
theorem Z6.lt{P:Pl}{x:PlM}(h:Z6 w P x):P.pb<w.heap.size/\P.ab<w.heap.size:=by
 obtain⟨head,f,a,b,c⟩:=h.at';exact⟨Xg a,Xg b⟩
theorem Hd{x:List Int}{v:Int}(h:n<x.length):Xt (x.set n v)+(if x.getD n 0=-1 then 0 else 1)=Xt x+(if v=-1 then 0 else 1):=by
 unfold Xt;rw[Vl];have:=Uj (Y9 x) n (by rw[Fv];exact h) (!(v == -1));have e:(Y9 x)[n]'(by rw[Fv];exact h)=!(x.getD n 0 == -1):=by
  unfold Y9;rw[YZ,XB,XD h];rfl
 rw[e] at this;by_cases a:x.getD n 0=-1 <;> by_cases b:v=-1 <;> simp_all
theorem Pp(x:List Int):Xt x<=x.length:=by
 unfold Xt;have:=Ow (Y9 x);rw[Fv] at this;exact this
theorem E6(x:List Int)(i j:Nat)(v:Int):(x.set i v).getD j 0=if i=j/\i<x.length then v else x.getD j 0:=by
 rw[XB,YE,XB];by_cases h:i=j
 .subst h;by_cases a:i<x.length
  .simp[a]
  .simp[a]
 .simp[h]
theorem PlM.Good.take{x:PlM}(h:x.Good){who:Int}(hw:0<=who){n:Nat}{r:List Nat}(hf:x.free=n::r):(x.take who).Good:=by
 obtain⟨o,i,g,j,k⟩:=h;rw[hf] at i g j k;obtain⟨p,hr⟩:=XV.1 i;obtain⟨f,l⟩:=g n xS;have e:x.take who=⟨x.own.set n who,r⟩:=by unfold PlM.take;rw[hf]
 rw[e];refine⟨xU o,hr,λm hm=>?_,λm hm c=>?_,?_⟩
 .obtain⟨a,b⟩:=g m (by simp[hm]);have:n≠m:=λe=>p (e▸hm);exact⟨xU a,by show(x.own.set n who).getD m 0=-1;rw[E6,bJ (λh=>this h.1)];exact b⟩
 .replace c:(x.own.set n who).getD m 0=-1:=c;rw[E6] at c;by_cases d:n=m
  .rw[bK ⟨d,f⟩] at c;omega
  .rw[bJ (λh=>d h.1)] at c;have:=j m (xU hm) c;rcases ZC.1 this with h|h
   .exact absurd h.symm d
   .exact h
 .have:=Hd (v:=who) f;rw[bK l,bJ X] at this;simp only[XG,XN] at k⊢;omega
theorem PlM.Good.give{x:PlM}(h:x.Good){n:Nat}(hn:n<x.own.length)(ho:x.own.getD n 0≠-1):(x.give n).Good:=by
 obtain⟨f,g,d,i,j⟩:=h;refine⟨by simpa [PlM.give] using f,?_,λm hm=>?_,λm hm c=>?_,?_⟩
 .exact XV.2 ⟨λh=>ho (d n h).2,g⟩
 .rcases ZC.1 hm with rfl|hm
  .exact⟨by simpa [PlM.give] using hn,by show(x.own.set m (-1)).getD m 0=-1;rw[E6,bK ⟨rfl,hn⟩]⟩
  .obtain⟨a,b⟩:=d m hm;refine⟨by simpa [PlM.give] using a,?_⟩;show(x.own.set n (-1)).getD m 0=-1
   rw[E6];split
   .rfl
   .exact b
 .replace c:(x.own.set n (-1)).getD m 0=-1:=c;replace hm:m<x.own.length:=by simpa [PlM.give] using hm
  show m∈n::x.free
  by_cases e:n=m
  .rw[e];exact ZO
  .rw[E6,bJ (λh=>e h.1)] at c;exact YA _ (i m hm c)
 .have:=Hd (v:=-1) hn;rw[bJ ho,bK rfl] at this;show(n::x.free).length+Xt (x.own.set n (-1))=(x.own.set n (-1)).length
  simp only[XG,XN];omega
theorem Ip(n:Nat):Xt (List.replicate n (-1))=0:=by
 unfold Xt Y9;rw[List.map_replicate];exact Xa7 n
theorem XlN(h:1<=n/\n<=1024):(D0 n).Good:=by
 refine⟨by simpa [D0] using h,List.nodup_range,λm hm=>?_,λm hm _=>?_,?_⟩
 .have:=List.mem_range.1 hm;refine⟨by simpa [D0] using this,?_⟩;show(List.replicate n (-1)).getD m 0=-1
  rw[XB,ZD,bK this];rfl
 .exact List.mem_range.2 (by simpa [D0] using hm)
 .show(List.range n).length+Xt (List.replicate n (-1))=(List.replicate n (-1)).length
  rw[Ip];simp
theorem XlV(P:Pl)(x:PlM)(n:Int)(w:dD)(h:Z6 w P x):Xe prog 276 #[Ff P,W n] w (X9 (.bool (decide (0<=n) && decide (n<x.own.length))) w):=by
 obtain⟨head,f,b,c,d,g⟩:=h.at';refine aR func276 ntmps276 Y (aT Y (λa=>?_) λa=>?_)
 .refine bB b Y ?_;rw[a];exact bE func276 Y ⟨rfl,rfl⟩
 .rw[a];exact bE func276 Y ⟨rfl,rfl⟩
theorem XlR(P:Pl)(x:PlM)(w:dD)(h:Z6 w P x):Xe prog 161 #[Ff P] w (X9 (W (Xt x.own:Nat)) w):=by
 obtain⟨head,f,a,b,c,d⟩:=h.at';exact aR func161 ntmps161 Y (bB a Y (bE func161 Y ⟨rfl,rfl⟩))
theorem Xgb(P:Pl)(x:PlM)(w:dD)(h:Z6 w P x):Xe prog 193 #[Ff P] w (Grow (W (x.free.length:Nat)) w):=by
 obtain⟨head,f,b,d,g,i⟩:=h.at';have hm:=h.cV.many;have j:=h.cV.len;exact aR func193 ntmps193 Y (aQ 11 Xf xK Y λa=>aE a b Y (aE a b Y (aC a Y (aF a Y λk c=>bE func193 Y ⟨X0 X,c⟩))))
variable {pl':PlM}
def Fe(x:PlM)(who:Int):Int:=if who<0 then 1 else if x.free.length=0 then 5 else 0
def Jf(x:PlM)(who:Int):Int:=if Fe x who=0 then (x.free.getD 0 0:Nat) else 0
def Iq(x:PlM)(who:Int):PlM:=if Fe x who=0 then x.take who else x
theorem Xb6(P:Pl)(x:PlM)(who:Int)(w:dD)(h:Z6 w P x):Xe prog 240 #[Ff P,W who] w
 (λv w'=>v=.tuple #[W (Jf x who),W (Fe x who)]/\Z6 w' P (Iq x who)/\Xc (Az P) w w'):=by
 have d:=h.cV;have J:=h.cV.len;obtain⟨own,free⟩:=x;obtain⟨head,f,c,l,s,F⟩:=h.at';replace c:w.heap[P.pb]?=some (.cells (Lw P own head).toArray 291 (0,0)):=c;replace l:Zq w P.ab 337 (own.length*2) f:=l;replace s:J2 f own.length head free:=s;replace F:∀m,m<own.length->f (m*2)=own.getD m 0:=F;replace J:1<=own.length/\own.length<=1024:=J;have eN:∀e,Fe ⟨own,free⟩ who=e->e≠0->Jf ⟨own,free⟩ who=0/\Iq ⟨own,free⟩ who=⟨own,free⟩:=λe c l=>by
  unfold Jf Iq;rw[c,bJ l,bJ l];exact⟨rfl,rfl⟩
 refine Xe.enter func240 rfl ntmps240 rfl rfl ?_;refine aN rfl ?_;refine Xa.fork Xb rfl rfl rfl (λG=>?_) (λG=>?_)
 .have t:who<0:=bL G;have e1:Fe ⟨own,free⟩ who=1:=by unfold Fe;rw[bK t]
  rw[(eN 1 e1 xD).1,(eN 1 e1 xD).2,e1];exact bE func240 Y ⟨rfl,h,Xc.refl _ _⟩
 have t:¬who<0:=bM G;refine Xa.drawn (q:=11) Xf Xb Xn xK rfl ?_;intro H;refine Xd.cJ Xb H rfl c (by first|exact λh=>h|(intro h;omega)|assumption) rfl rfl ?_;refine Xd.cJ Xb H rfl c (by first|exact λh=>h|(intro h;omega)|assumption) rfl rfl ?_;refine Xd.nil H ?_;intro M b;refine aN rfl ?_;have g:=b.bP c;have o:Zq M P.ab 337 (own.length*2) f:=b.bP l;cases free with
 |nil=>
  have e:head=own.length:=s;subst e;have e1:Fe ⟨own,[]⟩ who=5:=by unfold Fe;rw[bJ t];rfl
  rw[(eN 5 e1 xD).1,(eN 5 e1 xD).2,e1];refine Xa.yes Xb rfl (beq_self_eq_true _) rfl ?_;exact bE func240 Y ⟨rfl,h.bQ b,b.gr⟩
 |cons n r=>
  obtain⟨rfl,hr⟩:=s;obtain⟨u,I⟩:=d.free n xS;replace u:n<own.length:=u;replace I:own.getD n 0=-1:=I;have e1:Fe ⟨own,n::r⟩ who=0:=by unfold Fe;rw[bJ t];rfl
  have e2:Jf ⟨own,n::r⟩ who=n:=by unfold Jf;rw[bK e1];rfl
  have e3:Iq ⟨own,n::r⟩ who=⟨own.set n who,r⟩:=by unfold Iq;rw[bK e1];rfl
  rw[e1,e2,e3];refine Xa.no Xb rfl xQ rfl ?_;refine Xa.cJ Xb rfl g rfl rfl ?_;refine Xa.cJ Xb rfl g rfl rfl ?_;refine Xa.index Xb rfl (j:=(n*2)) X X (by first|rfl|omega|(simp;done)|(simp;omega)) rfl ?_;have p:=Fp o g xD;refine aW Y (B9 o (k:=n*2+1) (by show 0+n*2+1=_;omega) X) Y (bF g Y λU y A R=>bB y Y (aU (n*2) Y (aL Y (A.heap o p) (Ga (i:=n*2) (by show 0+n*2+0=_;omega) X) Y λV K B S=>?_)));have C:=B.heap y p.symm;refine bB C Y (aJ Y (xH (Pp own)) (bF C Y λN L D T=>?_));have O:=Hd (x:=own) (n:=n) (v:=who) u;rw[bK I,bJ X] at O;have Q:Xc (Az P) w N:=(b.gr.trans (A.mono λz _ e=>.inl e)).trans ((B.mono λz _ e=>.inr e).trans (D.mono λz _ e=>.inl e));have E:=d.take (who:=who) X (n:=n) (r:=r) rfl;have e:PlM.take ⟨own,n::r⟩ who=⟨own.set n who,r⟩:=rfl;rw[e] at E;exact Xa.ret2 Xb rfl func240 rfl rfl rfl ⟨rfl,⟨E,f (n*2+1),X4 f (n*2) who,by
   unfold Lw;simp only[XG];rw[show((Xt (own.set n who):Nat):Int)=(Xt own:Nat)+1 by omega];exact L,by
   show Zq _ _ _ ((own.set n who).length*2) _
   rw[XG];exact(D.heap K p),by
   show J2 _ (own.set n who).length _ r
   rw[XG];exact Xbz (λa _=>(X6 f who X).symm) hr,λm hm=>by
   replace hm:m<own.length:=xU hm
   show X4 f (n*2) who (m*2)=(own.set n who).getD m 0
   rw[E6];by_cases e:n=m
   .subst e;rw[A4,bK ⟨rfl,u⟩]
   .rw[X6 _ _ X,bJ (λh=>e h.1)];exact F m hm⟩,Q⟩
def Fw(x:PlM)(n:Int):Int:=if n<0\/(x.own.length:Int)<=n then 1 else if Yf x.own n=-1 then 9 else 0
def H1(x:PlM)(n:Int):PlM:=if Fw x n=0 then x.give n.toNat else x
theorem Xb5(P:Pl)(x:PlM)(n:Int)(w:dD)(h:Z6 w P x):Xe prog 228 #[Ff P,W n] w
 (λv w'=>v=W (Fw x n)/\Z6 w' P (H1 x n)/\Xc (Az P) w w'):=by
 have d:=h.cV;have G:=h.cV.len;obtain⟨own,free⟩:=x;obtain⟨head,f,b,l,E,r⟩:=h.at';replace b:w.heap[P.pb]?=some (.cells (Lw P own head).toArray 291 (0,0)):=b;replace l:Zq w P.ab 337 (own.length*2) f:=l;replace E:J2 f own.length head free:=E;replace r:∀m,m<own.length->f (m*2)=own.getD m 0:=r;replace G:1<=own.length/\own.length<=1024:=G;have eN:∀e,Fw ⟨own,free⟩ n=e->e≠0->H1 ⟨own,free⟩ n=⟨own,free⟩:=λe b l=>by
  unfold H1;rw[b,bJ l]
 refine Xe.enter func228 rfl ntmps228 rfl rfl ?_;refine aN rfl ?_;refine aP rfl (XlV P ⟨own,free⟩ n w h) ?_;rintro _ _ ⟨rfl,rfl⟩;refine aN rfl ?_;by_cases g:0<=n/\n<own.length
 .obtain⟨k,rfl⟩:=XE g.1;have o:k<own.length:=X
  have t:Yf own k=own.getD k 0:=by
   unfold Yf;rw[bK g.1];simp only[XA];rw[XB,XB,XD o];rfl
  refine Xa.no Xb rfl (by rw[bN g.1,bN g.2];rfl) rfl ?_;refine Xa.cJ Xb rfl b rfl rfl ?_;refine Xa.index Xb rfl (j:=(k*2)) X X (by first|rfl|omega|(simp;done)|(simp;omega)) rfl ?_;refine aW Y (B9 l (k:=k*2) (by show 0+k*2+0=_;omega) X) Y ?_;rw[r k o];by_cases c:own.getD k 0=-1
  .have e1:Fw ⟨own,free⟩ k=9:=by unfold Fw;rw[bJ xP,t,bK c]
   rw[eN 9 e1 xD,e1];exact aM Y (by rw[c];rfl) (bE func228 Y ⟨rfl,h,Xc.refl _ _⟩)
  .have e1:Fw ⟨own,free⟩ k=0:=by unfold Fw;rw[bJ xP,t,bJ c]
   have e2:H1 ⟨own,free⟩ k=⟨own.set k (-1),k::free⟩:=by unfold H1;rw[bK e1];rfl
   rw[e1,e2];refine aI Y (xU c) (aQ 10 Xf xK Y λs=>aE s b Y (aE s b Y (Xd.build Xb s rfl rfl (aF s Y λT p=>?_))));have u:=p.bP b;have y:=p.bP l;have q:=Fp y u xD;refine aU (k*2) Y (aL Y y (P8 (i:=k*2) (by show 0+k*2=_;omega) X) Y λU H A O=>?_);refine bF (A.heap u q.symm) Y λV B C Q=>?_;refine bB B Y (aJ Y (xH (Pp own)) (bF B Y λK I D R=>?_));have L:=Hd (x:=own) (n:=k) (v:=-1) o;rw[bJ c,bK rfl] at L;have M:Xc (Az P) w K:=(p.gr.trans (A.mono λz _ e=>.inr e)).trans ((C.mono λz _ e=>.inl e).trans (D.mono λz _ e=>.inl e));have J:k∉free:=λh=>c (d.free k h).2;exact Xa.ret1 Xb rfl func228 rfl rfl ⟨rfl,⟨(d.give (n:=k) o c),k,X4 (X4 f (k*2) (-1)) (k*2+1) head,by
    unfold Lw;simp only[XG];rw[show((Xt (own.set k (-1)):Nat):Int)=(Xt own:Nat)-1 by omega];exact I,by
    show Zq _ _ _ ((own.set k (-1)).length*2) _
    rw[XG];exact(D.heap (C.heap H q) q),by
    show J2 _ (own.set k (-1)).length _ (k::free)
    rw[XG];refine⟨rfl,?_⟩;rw[A4];exact Xbz (λa N=>by rw[X6 _ _ (by intro e;exact J ((by omega:a=k)▸N)),X6 _ _ X]) E,λm hm=>by
    replace hm:m<own.length:=xU hm
    show X4 (X4 f (k*2) (-1)) (k*2+1) head (m*2)=(own.set k (-1)).getD m 0
    rw[E6,X6 _ _ X];by_cases e:k=m
    .subst e;rw[A4,bK ⟨rfl,o⟩]
    .rw[X6 _ _ X,bJ (λh=>e h.1)];exact r m hm⟩,M⟩
 .have S:(!(decide (0<=n) && decide (n<own.length)))=true:=by
   by_cases F:0<=n
   .rw[bN F,bO (λh=>g ⟨F,h⟩)];rfl
   .rw[bO F];rfl
  have e1:Fw ⟨own,free⟩ n=1:=by unfold Fw;rw[bK xP]
  rw[eN 1 e1 xD,e1];exact bI Y (bE func228 Y ⟨rfl,h,Xc.refl _ _⟩)
theorem XlU(n:Int)(w:dD)(h : -9223372036854775808<=n+1/\n+1<=9223372036854775807):Xe prog 242 #[W n] w (X9 (W (n+1)) w):=by
 exact aR func242 ntmps242 Y (aV Y (bE func242 Y ⟨rfl,rfl⟩))
def Sx(P:Pl)(N:Nat):List dE:=[.slice (some ⟨P.ab,0,none⟩) N N,.int .i64 0,.int .i64 0,.func (.func 242) #[] #[]]
theorem XlW(P:Pl)(N k:Nat)(f:Nat->Int)(w:dD)(h1:w.heap[P.pb]?=some (.cells (Sx P N).toArray 291 (0,0)))(h2:Zq w P.ab 337 (N*2) f)(hk:k<N)(hN:N<=1024):Xe prog 244 #[Ff P,W k] w (λ_ w'=>Zq w' P.ab 337 (N*2) (X4 (X4 f (k*2) (-1)) (k*2+1) (k+1))/\Xc (λz=>z=P.ab) w w'):=by
 exact aR func244 ntmps244 Y (aQ 12 Xf xK Y λa=>aE a h1 Y (aE a h1 Y (aH a (λw' j=>XlU k w' X) Y (Xd.build Xb a rfl rfl (aF a Y λg b=>aU (k*2) Y (aL Y (show g.heap[P.ab]?=some (.cells (Be (N*2) f).toArray 337 (0,0)) from b.bP h2) (P8 (i:=k*2) (by show 0+k*2=_;omega) X) Y λm c d l=>bE func244 Y ⟨c,b.gr.trans d⟩))))))
def Iz:Nat->Nat->Int
 |0=>λ_=>0
 |k+1=>X4 (X4 (Iz k) (k*2) (-1)) (k*2+1) (k+1)
theorem Xh1:∀(k n:Nat),n<k->Iz k (n*2)=-1
 |k+1,n,h=>by
  show X4 (X4 (Iz k) (k*2) (-1)) (k*2+1) (k+1) (n*2)=-1
  rw[X6 _ _ X];by_cases e:n=k
  .subst e;exact A4 ..
  .rw[X6 _ _ X];exact Xh1 k n X
theorem Xh0:∀(k n:Nat),n<k->Iz k (n*2+1)=n+1
 |k+1,n,h=>by
  show X4 (X4 (Iz k) (k*2) (-1)) (k*2+1) (k+1) (n*2+1)=n+1
  by_cases e:n=k
  .subst e;exact A4 ..
  .rw[X6 _ _ X,X6 _ _ X];exact Xh0 k n X
theorem Xfn(h:∀n,n<N->f (n*2+1)=n+1):∀(m k:Nat),k+m=N->J2 f N k (List.range' k m)
 |0,k,e=>by show(k:Int)=N;omega
 |m+1,k,e=>by
  rw[List.range'_succ];refine⟨rfl,?_⟩;rw[h k X];exact Xfn h m (k+1) X
theorem XlT(P:Pl)(N:Nat)(w:dD)(h1:w.heap[P.pb]?=some (.cells (Sx P N).toArray 291 (0,0)))(h2:Zq w P.ab 337 (N*2) (Iz 0))(hN:N<=1024):Xe prog 243 #[Ff P,.func (.func 244) #[Ff P] #[]] w (λ_ w'=>Zq w' P.ab 337 (N*2) (Iz N)/\Xc (λz=>z=P.ab) w w'):=by
 refine aR func243 ntmps243 Y (bB h1 Y ?_);refine Xa.loop (α:=Nat) (λk=>[(1,false,.func (.func 244) #[Ff P] #[]),(9,false,W N),(10,false,W k)])
  (λk w'=>k<=N/\Zq w' P.ab 337 (N*2) (Iz k)/\Xc (λz=>z=P.ab) w w') (λk=>N-k) 0 ⟨rfl,rfl,rfl,trivial⟩ ⟨XQ _,h2,Xc.refl _ _⟩ ?_
 rintro k i ⟨j,b,a⟩ ih;refine aN Y (aT Y (λd=>?_) λd=>?_)
 .have c:k<N:=xH (bL d)
  refine aP Y (XlW P N k (Iz k) i (a.heap h1 (Fp h1 h2 xD)) b c hN) ?_;rintro _ l ⟨f,g⟩;exact aN Y (aV Y (ih (k+1) _ _ ⟨c,f,a.trans g⟩ X ⟨rfl,rfl,rfl,trivial⟩))
 .have h:k=N:=xH (bM d)
  subst h;exact bE func243 Y ⟨b,a⟩
theorem Xis(t:Nat->Int)(ht:∀i,t i=0):∀n,Qa [W 0,W 0] n=Be (n*2) t
 |0=>rfl
 |n+1=>by
  have e:Be ((n+1)*2) t=Be (n*2) t++[W 0,W 0]:=by
   unfold Be;rw[show(n+1)*2=n*2+1+1 by omega,YQ,YQ,XM,XM];simp[ht]
  have e2:∀m,Be (m*2) t++[W 0,W 0]=[W 0,W 0]++Be (m*2) t:=by
   intro m;have:Be (m*2) t=List.replicate (m*2) (W 0):=by
    unfold Be;rw[ZU (g:=λ_=>W 0) (λi _=>by rw[ht]),List.map_const',ZK]
   rw[this];show _++List.replicate 2 _=List.replicate 2 _++_
   rw[List.replicate_append_replicate,List.replicate_append_replicate,Nat.add_comm]
  rw[e,e2,Qa,Xis t ht n]
theorem XlS(N:Nat)(w:dD)(h:1<=N/\N<=1024):Xe prog 186 #[W N] w
 (λv w'=>∃P,v=.tuple #[Ff P,W 0]/\(w.heap.size<=P.pb/\w.heap.size<=P.ab)/\Z6 w' P (D0 N)/\Xc Xf w w'):=by
 refine aR func186 ntmps186 Y (aS Y (aS Y (Xa.make Xb (m:=N) (k:=N) rfl rfl rfl (XF _) (by first|omega|(show 16*N<=_;omega)) X λab p e1 c d s=>aN Y (aO Y (bC Y λpb j e2 b f t=>?_)))));replace c:Zq p ab 337 (N*2) (Iz 0):=by
  unfold Zq;rw[c];exact congrArg (λx:List dE=>some (Obj.cells x.toArray 337 (0,0))) (Xis (Iz 0) (λ_=>rfl) N)
 replace b:j.heap[pb]?=some (.cells (Sx ⟨pb,ab⟩ N).toArray 291 (0,0)):=b;refine aP Y (XlT ⟨pb,ab⟩ N j b (show Zq _ _ _ _ _ from f.bP c) h.2) ?_;rintro _ q ⟨l,g⟩;refine aN Y ?_;have r:Xc Xf w q:=(d.trans f).bU g (λz u e=>by have:z=ab:=e;omega);have o:=g.heap b (show ¬pb=ab by have:=d.size;omega);have a:(D0 N).own.length=N:=XJ;exact Xa.ret2 Xb rfl func186 rfl rfl rfl ⟨⟨pb,ab⟩,rfl,⟨by show _<=pb;omega,by show _<=ab;omega⟩,⟨XlN h,0,Iz N,by
  have e:Lw ⟨pb,ab⟩ (D0 N).own 0=Sx ⟨pb,ab⟩ N:=by
   unfold Lw Sx;rw[a,show Xt (D0 N).own=0 from Ip N];rfl
  rw[e];exact o,by rw[a];exact l,by
  rw[a];show J2 _ _ _ (List.range N)
  rw[List.range_eq_range'];exact Xfn (Xh0 N) N 0 X,λn i=>by
  rw[a] at i;rw[Xh1 N n i];show -1=(List.replicate N (-1)).getD n 0
  rw[XB,ZD,bK i];rfl⟩,r⟩
def Cg:List Nat->Int
 |[]=>-1
 |a::_=>a
def Bu:Int->List Nat->Int
 |p,[]=>p
 |_,a::r=>Bu a r
def Ja(f:Nat->Int):Int->List Nat->Prop
 |_,[]=>True
 |p,a::r=>f (a*3)=p/\f (a*3+1)=Cg r/\Ja f a r
theorem U6{f g:Nat->Int}:∀{l:List Nat} {p:Int},(∀a∈l,f (a*3)=g (a*3)/\f (a*3+1)=g (a*3+1))->Ja f p l->Ja g p l
 |[],_,_,h=>h
 |a::r,p,c,h=>by
  obtain⟨e1,e2⟩:=c a xS;exact⟨e1▸h.1,e2▸h.2.1,U6 (λb d=>c b (by simp[d])) h.2.2⟩
theorem Xbu:∀(p:Int) (l:List Nat) (n:Nat) (r:List Nat),Bu p (l++n::r)=Bu n r
 |p,[],n,r=>rfl
 |p,a::l,n,r=>Xbu a l n r
theorem Kr:∀(p:Int) (l:List Nat),(l=[]/\Bu p l=p)\/∃a∈l,Bu p l=(a:Int)/\∃l',l=l'++[a]
 |p,[]=>.inl ⟨rfl,rfl⟩
 |p,a::r=>by
  rcases Kr a r with⟨rfl,h⟩|⟨b,hb,h,l',e⟩
  .exact .inr ⟨a,xS,rfl,[],rfl⟩
  .exact .inr ⟨b,by simp[hb],h,a::l',by rw[e];rfl⟩
def Ig(f:Nat->Int)(pr nx:Int):Nat->Int:=
 let f1:=if pr=-1 then f else X4 f (pr.toNat*3+1) nx
 if nx=-1 then f1 else X4 f1 (nx.toNat*3) pr
theorem Ox{pr nx:Int}(h1:pr=-1\/j≠pr.toNat*3+1)(h2:nx=-1\/j≠nx.toNat*3):Ig f pr nx j=f j:=by
 unfold Ig;by_cases b:pr=-1
 .rw[bK b];by_cases a:nx=-1
  .rw[bK a]
  .rw[bJ a,X6 _ _ X]
 .rw[bJ b];by_cases a:nx=-1
  .rw[bK a,X6 _ _ X]
  .rw[bJ a,X6 _ _ X,X6 _ _ X]
theorem XjH{a:Nat}{nx:Int}:Ig f a nx (a*3+1)=nx:=by
 unfold Ig;rw[bJ (show ¬(a:Int)=-1 by omega)];by_cases b:nx=-1
 .rw[bK b];exact A4 f (a*3+1) nx
 .rw[bJ b,X6 _ _ X];exact A4 f (a*3+1) nx
theorem XjG{pr:Int}:Ig f pr b (b*3)=pr:=by
 unfold Ig;rw[bJ (show ¬(b:Int)=-1 by omega)];exact A4 _ (b*3) pr
theorem Xfp{f:Nat->Int}{n:Nat}{l2:List Nat}:∀(l1:List Nat) (p:Int),(l1++n::l2).Nodup->Ja f p (l1++n::l2)->(p=-1\/∃q:Nat,p=q/\q∉l1++n::l2)->Ja (Ig f (Bu p l1) (Cg l2)) p (l1++l2)
 |[],p,d,h,w=>by
  obtain⟨_,_,y⟩:=h;cases l2 with
  |nil=>trivial
  |cons b r=>
   obtain⟨x,l,m⟩:=y;have o:=(XV.1 (XV.1 d).2);show Ja (Ig f p b) p (b::r)
   have g:∀a∈b::r,p=-1\/a*3+1≠p.toNat*3+1:=λa k=>by
    rcases w with h|⟨q,rfl,A⟩
    .exact .inl h
    .refine .inr λe=>A ?_;have:a=q:=X
     exact this▸YA _ k
   refine⟨XjG,?_,?_⟩
   .rw[Ox (j:=b*3+1) (nx:=(b:Int)) (g b xS) (.inr X)];exact l
   .refine U6 (λa k=>⟨?_,?_⟩) m
    .rw[Ox (j:=a*3) (nx:=(b:Int)) (.inr X) (.inr (λe=>o.1 ((by omega:a=b)▸k)))]
    .rw[Ox (j:=a*3+1) (nx:=(b:Int)) (g a (by simp[k])) (.inr X)]
 |a::t,p,d,h,w=>by
  obtain⟨x,l,m⟩:=h;obtain⟨i,u⟩:=XV.1 d;have ih:=Xfp t a u m (.inr ⟨a,rfl,i⟩);show Ja (Ig f (Bu a t) (Cg l2)) p (a::(t++l2))
  refine⟨?_,?_,ih⟩
  .rw[Ox (j:=a*3) ?_ ?_]
   .exact x
   .rcases Kr a t with⟨_,h⟩|⟨z,_,h,_⟩ <;> rw[h] <;> exact .inr X
   .cases l2 with
    |nil=>exact .inl rfl
    |cons b r=>
     refine .inr λe=>i ?_;have:a=b:=by simp only[Cg] at e;omega
     rw[this];simp
  .cases t with
   |nil=>exact XjH
   |cons c s=>
    have B:∃z∈c::s,Bu a (c::s)=(z:Int):=by
     rcases Kr a (c::s) with⟨h,_⟩|⟨z,v,e,_⟩
     .cases h
     .exact⟨z,v,e⟩
    obtain⟨z,v,ez⟩:=B;rw[ez,Ox (j:=a*3+1) (pr:=(z:Int)) (.inr (λe=>i ((by omega:a=z)▸QT _ v))) ?_]
    .exact l
    .cases l2 with
     |nil=>exact .inl rfl
     |cons b r=>exact .inr X
structure Rg where
 lb:Nat
 ab:Nat
 nb:Nat
def L2(R:Rg):List dE:=[.slice (some ⟨R.ab,0,none⟩) 1 1,.slice (some ⟨R.nb,0,none⟩) 1024 1024]
abbrev Iu(R:Rg):dE:=.pointer (some ⟨R.lb,0,none⟩)
def H2(R:Rg):Nat->Prop:=λz=>z=R.ab\/z=R.nb
structure Eh(w:dD)(R:Rg)(o:List Nat):Prop where
 obj:w.heap[R.lb]?=some (.cells (L2 R).toArray 352 (0,0))
 nodup:o.Nodup
 lt:∀n∈o,n<1024
 at':∃g f,Zq w R.ab 357 3 g/\Zq w R.nb 359 3072 f/\g 0=Cg o/\g 1=Bu (-1) o/\g 2=o.length/\Ja f (-1) o/\∀n,n<1024->f (n*3+2)=if n∈o then 0 else -1
theorem Eh.bR{R:Rg}{o:List Nat}(h:Eh w R o)(hc:Xc S w w')(h1:¬S R.lb)(h2:¬S R.ab)(h3:¬S R.nb):Eh w' R o:=by
 obtain⟨g,f,a,b,c⟩:=h.at';exact⟨hc.heap h.obj h1,h.nodup,h.lt,g,f,hc.heap a h2,hc.heap b h3,c⟩
theorem Eh.bQ{R:Rg}{o:List Nat}(h:Eh w R o)(hc:Xc Xf w w'):Eh w' R o:=h.bR hc id id id
theorem Tb(R:Rg)(w:dD)(h:w.heap[R.lb]?=some (.cells (L2 R).toArray 352 (0,0))):Xe prog 308 #[Iu R,W 0] w (X9 (.pointer (some ⟨R.ab,0,none⟩)) w):=by
 exact aR func308 ntmps308 Y (aS Y (bB h Y (aS Y (bB h Y (aU 0 Y (bE func308 Y ⟨rfl,rfl⟩))))))
theorem XgP(R:Rg)(n:Nat)(w:dD)(h:w.heap[R.lb]?=some (.cells (L2 R).toArray 352 (0,0)))(hn:n<1024):Xe prog 316 #[Iu R,W n] w (X9 (.pointer (some ⟨R.nb,0+n*3,none⟩)) w):=by
 exact aR func316 ntmps316 Y (aS Y (bB h Y (aS Y (bB h Y (aU (n*3) Y (bE func316 Y ⟨rfl,rfl⟩))))))
theorem Xcu(b:Nat)(t:TypeId)(len:Nat)(f:Nat->Int)(way:Nat)(w:dD)(h:Zq w b t len f)(hw:way<=1)(hl:way<len):Xe prog 310 #[xV b,W way] w (X9 (W (f way)) w):=by
 exact aR func310 ntmps310 Y (aU way Y (aW Y (B9 h (k:=way) (by show 0+0+way=_;omega) hl) Y (bE func310 Y ⟨rfl,rfl⟩)))
theorem XgS(R:Rg)(g:Nat->Int)(way:Nat)(to:Int)(w:dD)(h:Zq w R.ab 357 3 g)(hw:way<=1):Xe prog 317 #[Iu R,.pointer (some ⟨R.ab,0,none⟩),W (-1),W way,W to] w (λ_ w'=>Zq w' R.ab 357 3 (X4 g (1-way) to)/\Xc (λz=>z=R.ab) w w'):=by
 exact aR func317 ntmps317 Y (bI Y (aV Y (aU (1-way) Y (aL Y h (Ga (i:=1-way) (by show 0+0+(1-way)=_;omega) X) Y λd b a c=>bE func317 Y ⟨b,a⟩))))
theorem XgR(R:Rg)(f:Nat->Int)(a way:Nat)(to:Int)(w:dD)(h0:w.heap[R.lb]?=some (.cells (L2 R).toArray 352 (0,0)))(h:Zq w R.nb 359 3072 f)(hw:way<=1)(ha:a<1024):Xe prog 317 #[Iu R,.pointer (some ⟨R.ab,0,none⟩),W a,W way,W to] w (λ_ w'=>Zq w' R.nb 359 3072 (X4 f (a*3+way) to)/\Xc (λz=>z=R.nb) w w'):=by
 exact aR func317 ntmps317 Y (aI Y xS (bB h0 Y (aU (a*3) Y (aU way Y (aL Y h (Ga (i:=a*3+way) (by show 0+a*3+0+way=_;omega) X) Y λg c b d=>bE func317 Y ⟨c,b⟩)))))
theorem XgN(R:Rg)(o:List Nat)(w:dD)(h:Eh w R o):Xe prog 288 #[Iu R,W 0] w (X9 (W (Cg o)) w):=by
 obtain⟨g,f,a,c,b,e1,e2,d,i⟩:=h.at';exact aR func288 ntmps288 Y (bH (Tb R w h.obj) Y (bH (Xcu R.ab _ 3 g 0 w a X X) Y (bE func288 Y ⟨X0 b,rfl⟩)))
theorem Xnb(R:Rg)(o:List Nat)(w:dD)(h:Eh w R o):Xe prog 287 #[Iu R,W 0] w (X9 (W (Bu (-1) o)) w):=by
 obtain⟨g,f,a,b,c,e1,e2,d,i⟩:=h.at';exact aR func287 ntmps287 Y (bH (Tb R w h.obj) Y (bH (Xcu R.ab _ 3 g 1 w a X X) Y (bE func287 Y ⟨X0 e1,rfl⟩)))
theorem Xnc(R:Rg)(o:List Nat)(w:dD)(h:Eh w R o):Xe prog 283 #[Iu R,W 0] w (X9 (W (o.length:Nat)) w):=by
 obtain⟨g,f,a,b,c,e1,e2,d,i⟩:=h.at';exact aR func283 ntmps283 Y (bH (Tb R w h.obj) Y (aW Y (B9 a (k:=2) rfl X) Y (bE func283 Y ⟨X0 e2,rfl⟩)))
theorem XgO(R:Rg)(o:List Nat)(n:Nat)(w:dD)(h:Eh w R o)(hn:n<1024)(hno:n∉o)(hlo:o.length<=4096):Xe prog 313 #[Iu R,W 0,W n] w (λv w'=>v=W 0/\Eh w' R (n::o)/\Xc (H2 R) w w'):=by
 obtain⟨g,f,L,M,e0,e1,e2,hl,T⟩:=h.at';have C:=h.obj;have y:R.nb≠R.ab:=Fp M L xD;have N:R.lb≠R.ab:=Fp C L xD;have O:R.lb≠R.nb:=Fp C M xD;have U:f (n*3+2)=-1:=by rw[T n hn,bJ hno]
 refine aR func313 ntmps313 Y (bH (Tb R w C) Y (bH (XgP R n w C hn) Y (aW Y (B9 M (k:=n*3+2) (by show 0+n*3+2=_;omega) X) Y ?_)));rw[U];refine aS Y (bH (Xcu R.ab _ 3 g 0 w L X X) Y ?_);rw[e0];refine aO Y (aL Y M (Ga (i:=n*3+2) (by show 0+n*3+2=_;omega) X) Y λw1 V a0 am=>aL Y V (P8 (i:=n*3) (by show 0+n*3+0=_;omega) X) Y λD A a1 an=>?_);have q:=a0.trans a1;have P:Zq D R.ab 357 3 g:=q.heap L y.symm;have E:=q.heap C O;have key:∀(g' f':Nat->Int) (d:dD),Zq d R.ab 357 3 g'->Zq d R.nb 359 3072 f'->d.heap[R.lb]?=some (.cells (L2 R).toArray 352 (0,0))->Xc (H2 R) w d ->
  g' 0=n->g' 1=Bu (-1) (n::o)->g' 2=o.length+1->Ja f' (-1) (n::o)->(∀m,m<1024->f' (m*3+2)=if m∈n::o then 0 else -1)->Eh d R (n::o)/\Xc (H2 R) w d:=λg' f' d k1 k2 k3 k4 k5 k6 k7 k8 k9=>
  ⟨⟨k3,XV.2 ⟨hno,h.nodup⟩,λm hm=>by rcases ZC.1 hm with rfl|hm;exact hn;exact h.lt m hm,g',f',k1,k2,k5,k6,by rw[k7];simp,k8,k9⟩,k4⟩
 have F:∀m,m<1024->(X4 (X4 (X4 f (n*3+2) 0) (n*3) (-1)) (n*3+1) (Cg o)) (m*3+2)=if m∈n::o then 0 else -1:=λm hm=>by
  rw[X6 _ _ X,X6 _ _ X];by_cases e:m=n
  .subst e;rw[A4,bK xS]
  .rw[X6 _ _ X,T m hm];simp[e]
 have B:∀j,j≠n*3+2->j≠n*3->j≠n*3+1->(X4 (X4 (X4 f (n*3+2) 0) (n*3) (-1)) (n*3+1) (Cg o)) j=f j:=λj a b c=>by rw[X6 _ _ c,X6 _ _ b,X6 _ _ a]
 have s:(X4 (X4 (X4 f (n*3+2) 0) (n*3) (-1)) (n*3+1) (Cg o)) (n*3)=-1:=by rw[X6 _ _ X,A4]
 have t:(X4 (X4 (X4 f (n*3+2) 0) (n*3) (-1)) (n*3+1) (Cg o)) (n*3+1)=Cg o:=A4 ..;have Q:Xc (H2 R) w D:=q.mono λz _ e=>.inr e;obtain⟨f2,G⟩:∃f2,f2=X4 (X4 (X4 f (n*3+2) 0) (n*3) (-1)) (n*3+1) (Cg o):=⟨_,rfl⟩;rw[<-G] at F B s t;replace A:Zq D R.nb 359 3072 f2:=by rw[G];exact A
 cases o with
 |nil=>
  refine aP Y (XgS R g 0 n D P X) ?_;rintro _ d ⟨H,l⟩;refine aN Y (aU 0 Y (aL Y H (Ga (i:=0) rfl X) Y λw4 p I a2=>aW Y (B9 p (k:=2) rfl X) Y ?_));have eg:X4 (X4 g (1-0) n) 0 n 2=0:=by rw[X6 _ _ xD,X6 _ _ xD,e2];rfl
  rw[eg];refine aV Y (aL Y p (Ga (i:=2) rfl X) Y λS J K a3=>?_);have u:=(l.trans I).trans K;exact bE func313 Y ⟨rfl,key _ f2 S J (u.heap A y) (u.heap E N) (Q.trans (u.mono λz _ e=>.inl e)) (by rw[X6 _ _ xD,A4]) (by rw[X6 _ _ xD,X6 _ _ xD];exact A4 g 1 n) (by rw[A4];rfl) ⟨s,t,trivial⟩ F⟩
 |cons a r=>
  have ao:a≠n:=λe=>hno (e▸ZO);have a4:=h.lt a xS;refine aP Y (XgR R f2 a 0 n D E A X a4) ?_;rintro _ d ⟨a5,l⟩;refine aN Y ?_;have H:Zq d R.ab 357 3 g:=l.heap P y.symm;refine aU 0 Y (aL Y H (Ga (i:=0) rfl X) Y λw4 p I a2=>aW Y (B9 p (k:=2) rfl X) Y ?_);have eg:X4 g 0 n 2=(a::r).length:=by rw[X6 _ _ xD,e2]
  rw[eg];refine aJ Y (by simp only[XN] at hlo⊢;omega) (aL Y p (Ga (i:=2) rfl X) Y λS J K a3=>?_);have x:=I.trans K;have a6:Ja (X4 f2 (a*3+0) n) (-1) (n::a::r):=by
   refine⟨by rw[X6 _ _ X];exact s,by rw[X6 _ _ X];exact t,?_⟩;obtain⟨l1,l2,l3⟩:=hl;refine⟨A4 ..,?_,?_⟩
   .rw[X6 _ _ X,B _ X X X];exact l2
   .refine U6 (λb hb=>?_) l3;have ap:b≠n:=λe=>hno (e▸YA _ hb);have aq:b≠a:=λe=>(XV.1 h.nodup).1 (e▸hb);exact⟨by rw[X6 _ _ X,B _ X X X],by rw[X6 _ _ X,B _ X X X]⟩
  exact bE func313 Y ⟨rfl,key _ _ S J (x.heap a5 y) (x.heap (l.heap E O) N) ((Q.trans (l.mono λz _ e=>.inr e)).trans (x.mono λz _ e=>.inl e)) (by rw[X6 _ _ xD,A4]) (by rw[X6 _ _ xD,X6 _ _ xD,e1];try rfl) (by rw[A4]) a6 (λm hm=>by rw[X6 _ _ X];exact F m hm)⟩
theorem Xfo:∀(l1:List Nat) (p:Int),Ja f p (l1++n::l2)->f (n*3)=Bu p l1/\f (n*3+1)=Cg l2
 |[],_,h=>⟨h.1,h.2.1⟩
 |a::t,_,h=>Xfo t a h.2.2
def N3(g:Nat->Int)(a:Int)(way:Nat)(to:Int):Nat->Int:=if a=-1 then X4 g (1-way) to else g
def Mb(f:Nat->Int)(a:Int)(way:Nat)(to:Int):Nat->Int:=if a=-1 then f else X4 f (a.toNat*3+way) to
theorem XgQ(R:Rg)(g f:Nat->Int)(a:Int)(way:Nat)(to:Int)(w:dD)(h0:w.heap[R.lb]?=some (.cells (L2 R).toArray 352 (0,0)))(h1:Zq w R.ab 357 3 g)(h2:Zq w R.nb 359 3072 f)(hw:way<=1)(ha:a=-1\/∃k:Nat,a=k/\k<1024):Xe prog 317 #[Iu R,.pointer (some ⟨R.ab,0,none⟩),W a,W way,W to] w (λ_ w'=>Zq w' R.ab 357 3 (N3 g a way to)/\Zq w' R.nb 359 3072 (Mb f a way to)/\w'.heap[R.lb]?=some (.cells (L2 R).toArray 352 (0,0))/\Xc (H2 R) w w'):=by
 have c:=Fp h2 h1 xD;rcases ha with rfl|⟨k,rfl,h⟩
 .exact(XgS R g way to w h1 hw).mono λ_ w' ⟨d,b⟩=>⟨d,b.heap h2 c,b.heap h0 (Fp h0 h1 xD),b.mono λz _ e=>.inl e⟩
 .refine(XgR R f k way to w h0 h2 hw h).mono λ_ w' ⟨d,b⟩=>⟨?_,?_,b.heap h0 (Fp h0 h2 xD),b.mono λz _ e=>.inr e⟩
  .unfold N3;rw[bJ X];exact b.heap h1 c.symm
  .unfold Mb;rw[bJ X];exact d
theorem XkA(l:List Nat)(hl:∀n∈l,n<1024):Bu (-1) l=-1\/∃k:Nat,Bu (-1) l=k/\k<1024:=by
 rcases Kr (-1) l with⟨_,h⟩|⟨a,b,h,_⟩
 .exact .inl h
 .exact .inr ⟨a,h,hl a b⟩
theorem Xkc(l:List Nat)(hl:∀n∈l,n<1024):Cg l=-1\/∃k:Nat,Cg l=k/\k<1024:=by
 cases l with
 |nil=>exact .inl rfl
 |cons a r=>exact .inr ⟨a,rfl,hl a xS⟩
theorem XkB{l:List Nat}(h:Bu (-1) l=-1):l=[]:=by
 rcases Kr (-1) l with⟨e,_⟩|⟨a,_,b,_⟩
 .exact e
 .omega
theorem Xkd{l:List Nat}(h:Cg l=-1):l=[]:=by
 cases l with
 |nil=>rfl
 |cons a r=>have:(a:Int)=-1:=h;omega
theorem Xct(R:Rg)(l1 l2:List Nat)(n:Nat)(w:dD)(h:Eh w R (l1++n::l2))(hlo:(l1++n::l2).length<=4096):Xe prog 295 #[Iu R,W n] w (λv w'=>v=W 0/\Eh w' R (l1++l2)/\Xc (H2 R) w w'):=by
 obtain⟨g,f,h1,B,e0,e1,e2,V,ho⟩:=h.at';have Q:=h.obj;have hn:=h.lt n xS;have s:=h.nodup;have L:n∉l1:=λhm=>(XR.1 s).2.2 n hm n xS rfl;have M:=(XV.1 (XR.1 s).2.1).1;have N:n∉l1++l2:=λhm=>by rcases XS.1 hm with h|h;exact L h;exact M h
 have O:f (n*3+2)=0:=by rw[ho n hn,bK xS]
 obtain⟨ea,en⟩:=Xfo l1 (-1) V;have S:=XkA l1 (λm hm=>h.lt m (by simp[hm]));have T:=Xkc l2 (λm hm=>h.lt m (by simp[hm]));have C:=Xfp l1 (-1) s V (.inl rfl);obtain⟨pr,l⟩:∃pr,pr=Bu (-1) l1:=⟨_,rfl⟩;obtain⟨nx,o⟩:∃nx,nx=Cg l2:=⟨_,rfl⟩;rw[<-l] at ea S C;rw[<-o] at en T C;have U:pr=-1\/pr.toNat≠n:=by
  rcases Kr (-1) l1 with⟨_,h⟩|⟨a,D,h,_⟩
  .exact .inl (by rw[l,h])
  .exact .inr (λe=>L (by rw[l,h] at e;exact(show a=n from e)▸D))
 have ae:nx=-1\/nx.toNat≠n:=by
  cases l2 with
  |nil=>exact .inl o
  |cons b r=>exact .inr (λe=>M (by rw[o] at e;exact(show b=n from e)▸ZO))
 refine aR func295 ntmps295 Y (bH (XgP R n w Q hn) Y (aW Y (B9 B (k:=n*3+2) (by show 0+n*3+2=_;omega) X) Y ?_));rw[O];refine aS Y (aW Y (B9 B (k:=n*3+2) (by show 0+n*3+2=_;omega) X) Y ?_);rw[O];refine bH (Tb R w Q) Y (aQ 12 Xf xK Y λd=>aB 0 d Y (aD d (B9 B (k:=n*3) (by show 0+n*3+0+0=_;omega) X) Y (aB 1 d Y (aD d (B9 B (k:=n*3+1) (by show 0+n*3+0+1=_;omega) X) Y (aF d Y λw1 u=>?_)))));rw[ea,en];refine aP Y (XgQ R g f pr 1 nx w1 (u.bP Q) (u.bP h1) (u.bP B) X S) ?_;rintro _ w2 ⟨a2,E,a3,a4⟩;have k1:Mb f pr 1 nx (n*3+1)=nx:=by
  unfold Mb;by_cases A:pr=-1
  .rw[bK A];exact en
  .rw[bJ A,X6 _ _ (by rcases U with h|h;exact absurd h A;omega)];exact en
 have k2:Mb f pr 1 nx (n*3)=pr:=by
  unfold Mb;by_cases A:pr=-1
  .rw[bK A];exact ea
  .rw[bJ A,X6 _ _ X];exact ea
 refine aN Y (aQ 12 Xf xK Y λd=>aB 1 d Y (aD d (B9 E (k:=n*3+1) (by show 0+n*3+0+1=_;omega) X) Y (aB 0 d Y (aD d (B9 E (k:=n*3) (by show 0+n*3+0+0=_;omega) X) Y (aF d Y λw3 x=>?_)))));rw[k1,k2];refine aP Y (XgQ R _ _ nx 0 pr w3 (x.bP a3) (x.bP a2) (x.bP E) X T) ?_;rintro _ w4 ⟨p,y,F,a5⟩;refine aN Y ?_;have hF:Mb (Mb f pr 1 nx) nx 0 pr=Ig f pr nx:=rfl;rw[hF] at y;obtain⟨G,K⟩:∃G,G=N3 (N3 g pr 1 nx) nx 0 pr:=⟨_,rfl⟩;rw[<-K] at p;have G2:G 2=(l1++n::l2).length:=by
  rw[K];unfold N3;by_cases a:pr=-1 <;> by_cases b:nx=-1 <;> simp[a,b,X4,e2]
 have G0:G 0=Cg (l1++l2):=by
  rw[K];unfold N3;by_cases a:pr=-1
  .have:l1=[]:=XkB (l▸a);subst this;by_cases b:nx=-1 <;> simp[a,b,X4] <;> rw[<-o] <;> simp[b]
  .have H:l1≠[]:=λe=>a (by rw[l,e];rfl);obtain⟨c,t,rfl⟩:=List.exists_cons_of_ne_nil H;have:g 0=c:=e0;by_cases b:nx=-1 <;> simp[a,b,X4,this] <;> rfl
 have G1:G 1=Bu (-1) (l1++l2):=by
  rw[K];unfold N3;by_cases b:nx=-1
  .have:l2=[]:=Xkd (o▸b);subst this;rw[QR,<-l];by_cases a:pr=-1 <;> simp[a,b,X4]
  .have H:l2≠[]:=λe=>b (by rw[o,e];rfl);obtain⟨c,t,rfl⟩:=List.exists_cons_of_ne_nil H;have a6:g 1=Bu (-1) (l1++c::t):=by rw[e1,Xbu,Xbu];rfl
   rw[<-a6];by_cases a:pr=-1 <;> simp[a,b,X4]
 refine aW Y (B9 p (k:=2) rfl X) Y ?_;rw[G2];have P:=Fp y p xD;refine aV Y (aL Y p (Ga (i:=2) rfl X) Y λw5 a7 I ao=>aO Y (aL Y (I.heap y P) (Ga (i:=n*3+2) (by show 0+n*3+2=_;omega) X) Y λw6 a8 a9 ap=>aL Y a8 (P8 (i:=n*3) (by show 0+n*3+0=_;omega) X) Y λw7 aa ab aq=>?_));have q:=a9.trans ab;have J:∀j,j≠n*3+2->j≠n*3->j≠n*3+1->(X4 (X4 (X4 (Ig f pr nx) (n*3+2) (-1)) (n*3) (-1)) (n*3+1) (-1)) j=Ig f pr nx j:=λj a b c=>by rw[X6 _ _ c,X6 _ _ b,X6 _ _ a]
 exact Xa.ret1 Xb rfl func295 rfl rfl ⟨rfl,⟨q.heap (I.heap F (Fp F p xD)) (Fp F y xD),by
  have:=s;rw[XR] at this⊢;exact⟨this.1,(XV.1 this.2.1).2,λa D b hb=>this.2.2 a D b (by simp[hb])⟩,λm hm=>h.lt m (by rcases XS.1 hm with h|h <;> simp[h]),_,_,q.heap a7 P.symm,aa,by rw[X6 _ _ xD];exact G0,by rw[X6 _ _ xD];exact G1,by rw[A4];simp;omega,U6 (λa D=>by
  have:a≠n:=λe=>N (e▸D);exact⟨(J _ X X X).symm,(J _ X X X).symm⟩) C,λm hm=>by
  by_cases e:m=n
  .subst e;rw[X6 _ _ X,X6 _ _ X,A4,bJ N]
  .rw[J _ X X X,Ox (by rcases S with h|⟨k,h,_⟩;exact .inl h;exact .inr X) (by rcases T with h|⟨k,h,_⟩;exact .inl h;exact .inr X),ho m hm];simp[e]⟩,(((u.gr.trans a4).trans (x.gr.trans a5)).trans (I.mono λz _ e=>.inl e)).trans (q.mono λz _ e=>.inr e)⟩
theorem XhS(n:Nat)(t:Nat->Int)(ht:∀i,t i=0):Be n t=List.replicate n (W 0):=by
 unfold Be;rw[ZU (g:=λ_=>W 0) (λi _=>by rw[ht]),List.map_const',ZK]
theorem Xdt(c:Nat):∀n,Qa (List.replicate c (W 0)) n=List.replicate (n*c) (W 0)
 |0=>by rw[Nat.zero_mul];rfl
 |n+1=>by rw[Qa,Xdt c n,List.replicate_append_replicate,An,Nat.add_comm]
def Kq:Nat->Nat->Int
 |0=>λ_=>0
 |k+1=>X4 (X4 (X4 (Kq k) (k*3) (-1)) (k*3+1) (-1)) (k*3+2) (-1)
theorem Xfb:∀(k n:Nat),n<k->Kq k (n*3+2)=-1
 |k+1,n,h=>by
  show X4 (X4 (X4 (Kq k) (k*3) (-1)) (k*3+1) (-1)) (k*3+2) (-1) (n*3+2)=-1
  by_cases e:n=k
  .subst e;exact A4 ..
  .rw[X6 _ _ X,X6 _ _ X,X6 _ _ X];exact Xfb k n X
def O8:Nat->Nat->Int
 |0=>λ_=>0
 |k+1=>X4 (X4 (O8 k) (k*3) (-1)) (k*3+1) (-1)
theorem Xnd(w:dD):Xe prog 246 #[W 1024,W 1] w
 (λv w'=>∃R,v=.tuple #[Iu R,W 0]/\(w.heap.size<=R.lb/\w.heap.size<=R.ab/\w.heap.size<=R.nb)/\Eh w' R []/\Xc Xf w w'):=by
 refine aR func246 ntmps246 Y (aS Y (aS Y (aS Y (aS Y ?_))));have F:∀{xW:dD} {z:Nat},xW.heap[z]?=some (.cells (Qa (Y8 (Value.agg #[W 0,W 0,W 0])) 1).toArray 357 (0,0))->Zq xW z 357 3 (O8 0):=λthis=>by
  rw[show Qa (Y8 (Value.agg #[W 0,W 0,W 0])) 1=_ from Xdt 3 1] at this;unfold Zq;rw[XhS 3 (O8 0) (λ_=>rfl)];exact this
 have y:∀{xW:dD} {z:Nat},xW.heap[z]?=some (.cells (Qa (Y8 (Value.agg #[W 0,W 0,W 0])) 1024).toArray 359 (0,0))->Zq xW z 359 3072 (Kq 0):=λthis=>by
  rw[show Qa (Y8 (Value.agg #[W 0,W 0,W 0])) 1024=_ from Xdt 3 1024] at this;unfold Zq;rw[XhS 3072 (Kq 0) (λ_=>rfl)];exact this
 apply Xa.cut (α:=Nat×Nat) (λx=>[(24,false,.slice (some ⟨x.1,0,none⟩) 1 1),(26,false,.slice (some ⟨x.2,0,none⟩) 1024 1024)]) (λx p=>Zq p x.1 357 3 (O8 0)/\Zq p x.2 359 3072 (Kq 0)/\Xc Xf w p/\w.heap.size<=x.1/\w.heap.size<=x.2)
 .intro J;refine aQ 4 Xf xK Y λg=>?_;refine Xd.turn2 g rfl ?_ ?_
  .intro P j;refine Xo.make Xb g rfl (m:=1) (kk:=1) rfl rfl (XF _) xD xD (λ_=>rfl) λab Q e2 a q G=>Xd.cK g rfl λS c=>Xo.make Xb g rfl (m:=1024) (kk:=1024) rfl rfl (XF _) xD xD (λ_=>rfl) λnb T e4 b l H=>?_;have I:=j.size;have K:=c.size;exact aF g Y λp d=>J (ab,nb) _ _ ⟨F (((c.trans l).trans d).bP a),y ((d).bP b),(((j.trans q).trans c).trans l).trans d,X,X⟩ ⟨rfl,rfl,trivial⟩
  .intro P j;refine Xo.make Xb g rfl (m:=1024) (kk:=1024) rfl rfl (XF _) xD xD (λ_=>rfl) λnb Q e2 b q G=>Xd.cK g rfl λS c=>Xo.make Xb g rfl (m:=1) (kk:=1) rfl rfl (XF _) xD xD (λ_=>rfl) λab T e4 a l H=>?_;have I:=j.size;have K:=c.size;exact aF g Y λp d=>J (ab,nb) _ _ ⟨F ((d).bP a),y (((c.trans l).trans d).bP b),(((j.trans q).trans c).trans l).trans d,X,X⟩ ⟨rfl,rfl,trivial⟩
 .rintro⟨ab,nb⟩ p ⟨a,b,A,za,zb⟩;simp only at a b za zb
  have B:=Fp a b xD;have U:=Xg a;have V:=Xg b;have a0:=A.size;refine aO Y (bC Y λlb w6 e6 r s a6=>?_);refine bB r Y ?_;refine Xa.loop (α:=Nat) (λk=>[(6,false,xV lb),(33,false,W 1),(34,false,W k)])
   (λk w'=>k<=1/\Zq w' ab 357 3 (O8 k)/\Xc (λz=>z=ab) w6 w') (λk=>1-k) 0 ⟨rfl,rfl,rfl,trivial⟩ ⟨XQ _,s.bP a,Xc.refl _ _⟩ ?_
  rintro k w7 ⟨hk,L,n⟩ ih;refine aN Y (aT Y (λC=>?_) λC=>?_)
  .have t:k<1:=xH (bL C)
   exact bB (n.heap r X) Y (aO Y (aU (k*3) Y (aL Y L (P8 (i:=k*3) (by show 0+k*3+0+0=_;omega) X) Y λw8 u f a7=>aV Y (ih (k+1) _ _ ⟨t,u,n.trans f⟩ X ⟨rfl,rfl,rfl,trivial⟩))))
  have M:k=1:=xH (bM C)
  subst M;have o:=n.heap r X;refine bB o Y ?_;refine Xa.loop (α:=Nat) (λk=>[(6,false,xV lb),(51,false,W 1024),(52,false,W k)])
   (λk w'=>k<=1024/\Zq w' nb 359 3072 (Kq k)/\Xc (λz=>z=nb) w7 w') (λk=>1024-k) 0 ⟨rfl,rfl,rfl,trivial⟩ ⟨XQ _,(n.heap (s.bP b) B.symm),Xc.refl _ _⟩ ?_
  rintro k w8 ⟨a8,u,f⟩ N;refine aN Y (aT Y (λD=>?_) λD=>?_)
  .have t:k<1024:=xH (bL D)
   exact bB (f.heap o X) Y (aO Y (aO Y (aU (k*3) Y (aL Y u (Xhb (i:=k*3) (by show 0+k*3=_;omega) X) Y λw9 h9 O a9=>aV Y (N (k+1) _ _ ⟨t,h9,f.trans O⟩ X ⟨rfl,rfl,rfl,trivial⟩)))))
  have E:k=1024:=xH (bM D)
  subst E;exact bE func246 Y ⟨⟨lb,ab,nb⟩,rfl,⟨by show _<=lb;omega,by show _<=ab;omega,by show _<=nb;omega⟩,⟨f.heap o (by show ¬lb=nb;omega),QB,(λ_ h=>by cases h),O8 1,Kq 1024,f.heap L B,u,rfl,rfl,rfl,trivial,λm hm=>by rw[Xfb 1024 m hm];rfl⟩,(((A.trans s).sn n).sn f)⟩
abbrev PgL:=List (Nat×List Int)
structure Sm where
 cL:Int
 cF:Nat
 pg:PgL
 cG:List Nat
def Zk:PgL->Int->Option (List Int)
 |[],_=>none
 |(m,p)::r,n=>if (m:Int)=n then some p else Zk r n
def Zx(l:PgL)(n:Nat)(p:List Int):PgL:=l.map λe=>if e.1=n then (n,p) else e
def Qz(l:PgL)(n:Nat):PgL:=l.filter λe=>e.1 != n
def Qf:PgL->Nat
 |[]=>0
 |(_,p)::r=>Xt p+Qf r
theorem Iy:∀{l:PgL} {n:Int} {p:List Int},Zk l n=some p -> ∃m:Nat,n=m/\(m,p)∈l
 |(m,q)::r,n,p,h=>by
  unfold Zk at h;by_cases e:(m:Int)=n
  .rw[bK e] at h;cases h;exact⟨m,e.symm,xS⟩
  .rw[bJ e] at h;obtain⟨m',e',hm⟩:=Iy h;exact⟨m',e',by simp[hm]⟩
theorem XcG:∀{l:PgL} {n:Int},Zk l n=none -> ∀e∈l,(e.1:Int)≠n
 |[],_,_,_,he=>by cases he
 |(m,q)::r,n,h,e,he=>by
  unfold Zk at h;by_cases hm:(m:Int)=n
  .rw[bK hm] at h;cases h
  .rw[bJ hm] at h;rcases ZC.1 he with rfl|he
   .exact hm
   .exact XcG h e he
theorem Cb:∀{l:PgL} {m:Nat} {p:List Int},(l.map (·.1)).Nodup->(m,p)∈l->Zk l m=some p
 |(a,q)::r,m,p,b,hm=>by
  obtain⟨c,d⟩:=XV.1 b;unfold Zk;rcases ZC.1 hm with e|hm
  .cases e;rw[bK rfl]
  .have:a≠m:=λe=>c (XP.2 ⟨(m,p),hm,e.symm⟩);rw[bJ X];exact Cb d hm
theorem L6(l:PgL)(n:Nat)(p:List Int):(Zx l n p).map (·.1)=l.map (·.1):=by
 unfold Zx;rw[List.map_map];refine ZU λe _=>?_;show(if e.1=n then (n,p) else e).1=e.1
 split
 .rename_i h;exact h.symm
 .rfl
theorem G9{l:PgL}(h:e∈Zx l n p):(e=(n,p)/\∃q,(n,q)∈l)\/(e.1≠n/\e∈l):=by
 unfold Zx at h;obtain⟨u,b,e1⟩:=XP.1 h;by_cases a:u.1=n
 .rw[bK a] at e1;exact .inl ⟨e1.symm,u.2,by rw[<-a];exact b⟩
 .rw[bJ a] at e1;subst e1;exact .inr ⟨a,b⟩
theorem Jc{l:PgL}:e∈Qz l n↔e.1≠n/\e∈l:=by
 unfold Qz;rw[QY];simp only[bne_iff_ne,ne_eq];exact And.comm
theorem Xho(l:PgL)(n:Nat):(Qz l n).map (·.1)=(l.map (·.1)).filter (λm=>m != n):=by
 unfold Qz;rw[List.filter_map];rfl
theorem Xn8:∀{l:PgL} {n:Nat} (p:List Int),n∉l.map (·.1)->Zx l n p=l:=λ{l n} p h=>by
 unfold Zx
 conv=>rhs;rw[<-List.map_id l]
 refine ZU λe a=>?_;rw[bJ (λb=>h (XP.2 ⟨e,a,b⟩))];rfl
theorem Xn3{l:PgL}(h:n∉l.map (·.1)):Qz l n=l:=by
 unfold Qz;refine YR.2 λe a=>?_;simp only[bne_iff_ne,ne_eq];exact λb=>h (XP.2 ⟨e,a,b⟩)
theorem Ra:∀{l:PgL} {n:Nat} {p q:List Int},(l.map (·.1)).Nodup->(n,q)∈l->Qf (Zx l n p)+Xt q=Qf l+Xt p
 |(a,r)::t,n,p,q,d,hm=>by
  obtain⟨b,f⟩:=XV.1 d;rcases ZC.1 hm with e|hm
  .have e1:=(Prod.mk.inj e).1;have e2:=(Prod.mk.inj e).2;subst e1;subst e2;have:Zx ((n,q)::t) n p=(n,p)::t:=by
    show(if n=n then (n,p) else (n,q))::Zx t n p=_
    rw[bK rfl,Xn8 p b]
   rw[this];simp only[Qf];omega
  .have c:a≠n:=λe=>b (e▸XP.2 ⟨(n,q),hm,rfl⟩);have:Zx ((a,r)::t) n p=(a,r)::Zx t n p:=by
    show(if a=n then (n,p) else (a,r))::Zx t n p=_
    rw[bJ c]
   rw[this];have ih:=Ra (p:=p) f hm;simp only[Qf];omega
theorem W5:∀{l:PgL} {n:Nat} {q:List Int},(l.map (·.1)).Nodup->(n,q)∈l->Qf (Qz l n)+Xt q=Qf l/\(Qz l n).length+1=l.length
 |(a,r)::t,n,q,d,hm=>by
  obtain⟨b,f⟩:=XV.1 d;rcases ZC.1 hm with e|hm
  .have e1:=(Prod.mk.inj e).1;have e2:=(Prod.mk.inj e).2;subst e1;subst e2;have:Qz ((n,q)::t) n=t:=by
    unfold Qz;rw[ZJ];simp only[bne_self_eq_false,ZP,if_false];exact Xn3 b
   rw[this];exact⟨Nat.add_comm _ _,rfl⟩
  .have c:a≠n:=λe=>b (e▸XP.2 ⟨(n,q),hm,rfl⟩);have:Qz ((a,r)::t) n=(a,r)::Qz t n:=by
    unfold Qz;rw[ZJ];simp[c]
   rw[this];obtain⟨g,h⟩:=W5 f hm;simp only[Qf,XN];omega
theorem XcJ:∀(l:PgL) (n:Nat) (p:List Int),Qf (l++[(n,p)])=Qf l+Xt p
 |[],n,p=>by simp[Qf]
 |(a,r)::t,n,p=>by
  have:=XcJ t n p;show Xt r+Qf (t++[(n,p)])=Xt r+Qf t+Xt p
  omega
theorem Xhs:∀{l:PgL} {b:Nat},(∀e∈l,e.2.length=b)->Qf l<=l.length*b
 |[],b,_=>by simp[Qf]
 |(a,r)::t,b,h=>by
  have ih:=Xhs (l:=t) (b:=b) (λe c=>h e (by simp[c]));have d:=Pp r;have f:r.length=b:=h (a,r) xS;simp only[Qf,XN,An];omega
structure Sm.Ok(x:Sm):Prop where
 nodup:(x.pg.map (·.1)).Nodup
 cL:0<=x.cL
 blk:1<=x.cF/\x.cF<=512
 cI:∀e∈x.pg,e.1<1024/\e.2.length=x.cF/\(e.1∈x.cG↔Xt e.2≠x.cF)
 onodup:x.cG.Nodup
 osub:∀n∈x.cG,∃p,(n,p)∈x.pg
def Sm.Pos(x:Sm):Prop:=∀e∈x.pg,0<Xt e.2
def Sm.Of(x:Sm)(pl:PlM):Prop:=∀e∈x.pg,e.1<pl.own.length/\pl.own.getD e.1 0=x.cL
def Sm.fresh(x:Sm)(n:Nat):Sm:={x with pg:=x.pg++[(n,List.replicate x.cF (-1))],cG:=n::x.cG}
def Sm.takeAt(x:Sm)(n:Nat)(p:List Int)(who:Int):Sm:=
 {x with pg:=Zx x.pg n (Qk p who),cG:=if Xt (Qk p who)=x.cF then x.cG.filter (λm=>m != n) else x.cG}
def Sm.giveAt(x:Sm)(n:Nat)(p:List Int)(i:Int):Sm:=
 let o:=if Xt p=x.cF then n::x.cG else x.cG
 if Xt (Yr p i)=0 then {x with pg:=Qz x.pg n,cG:=o.filter (λm=>m != n)} else {x with pg:=Zx x.pg n (Yr p i),cG:=o}
def Sm.ownAt(x:Sm)(n:Nat)(p:List Int)(i who:Int):Sm:={x with pg:=Zx x.pg n (By p i who)}
theorem Vm:Yn p<0↔Xt p=p.length:=by
 have:=XbB (x:=Y9 p);rw[Fv] at this;exact this
theorem Vp(p:List Int)(who:Int):(Qk p who).length=p.length:=by
 unfold Qk;split <;> simp
theorem Xf3(p:List Int)(i:Int):(Yr p i).length=p.length:=by
 unfold Yr;split <;> simp
theorem Xf5(p:List Int)(i who:Int):(By p i who).length=p.length:=by
 unfold By;split <;> simp
theorem O4{x:List Int}(h:i<x.length):x.getD i 0=x.getD i (-1):=by
 rw[XB,XB,XD h];rfl
theorem Np(hw:0<=who)(h:Xt p≠p.length):Dz p who=0/\Xt (Qk p who)=Xt p+1:=by
 have a:¬Yn p<0:=λe=>h (Vm.1 e);have e:Dz p who=0:=by unfold Dz;rw[bJ X,bJ a]
 obtain⟨b,c⟩:=Vr a;refine⟨e,?_⟩;unfold Qk;rw[bK e];have:=Hd (v:=who) b;rw[bK (by rw[O4 b];exact c),bJ X] at this;omega
theorem Xf4{i:Int}(h:Q6 p i=0):Xt (Yr p i)+1=Xt p:=by
 unfold Yr;rw[bK h];unfold Q6 at h;split at h
 .cases h
 .rename_i hr
  split at h
  .cases h
  .rename_i a
   have hi:i.toNat<p.length:=X
   have:=Hd (v:=-1) hi;unfold Yf at a;rw[bK X] at a;rw[bJ (by rw[O4 hi];exact a),bK rfl] at this;omega
theorem Vo{i:Int}:Xt (By p i who)=Xt p:=by
 unfold By;split
 .rename_i h
  unfold Ap at h;split at h
  .cases h
  .rename_i hr
   split at h
   .cases h
   .rename_i a
    have hi:i.toNat<p.length:=X
    have:=Hd (v:=who) hi;unfold Yf at a;rw[bK X] at a;rw[bJ (by rw[O4 hi];exact a),bJ X] at this;omega
 .rfl
theorem Sg{l:List Nat}:m∈l.filter (λk=>k != n)↔m≠n/\m∈l:=by
 rw[QY];simp only[bne_iff_ne,ne_eq];exact And.comm
theorem Sm.Ok.fresh{x:Sm}(h:x.Ok){n:Nat}(hn:n<1024)(hno:n∉x.pg.map (·.1)):(x.fresh n).Ok:=by
 have f:=h.blk;have g:n∉x.cG:=λhm=>by obtain⟨p,d⟩:=h.osub n hm;exact hno (XP.2 ⟨_,d,rfl⟩)
 refine⟨?_,h.cL,h.blk,λe he=>?_,XV.2 ⟨g,h.onodup⟩,λm hm=>?_⟩
 .show((x.pg++[(n,List.replicate x.cF (-1))]).map Prod.fst).Nodup
  rw[XM];refine XR.2 ⟨h.nodup,xS,λa i b f e=>?_⟩;have:b=n:=xU f
  exact hno (this▸e▸i)
 .rcases XS.1 he with he|he
  .obtain⟨a,b,c⟩:=h.cI e he;have:e.1≠n:=λe'=>hno (XP.2 ⟨e,he,e'⟩);exact⟨a,b,by show e.1∈n::x.cG↔_;rw[ZC];simp only[this,false_or];exact c⟩
  .have:e=(n,List.replicate x.cF (-1)):=xU he
   subst this;refine⟨hn,by simp[Sm.fresh],?_⟩;show n∈n::x.cG↔Xt (List.replicate x.cF (-1))≠x.cF
   rw[Ip];constructor
   .intro _;omega
   .intro _;simp
 .rcases ZC.1 hm with rfl|hm
  .exact⟨List.replicate x.cF (-1),QC _ xS⟩
  .obtain⟨p,d⟩:=h.osub m hm;exact⟨p,QT _ d⟩
theorem Sm.Ok.takeAt{x:Sm}(h:x.Ok)(hw:0<=who)(hp:(n,p)∈x.pg)(ho:n∈x.cG):(x.takeAt n p who).Ok:=by
 obtain⟨g,i,o⟩:=h.cI _ hp;simp only at g i o
 refine⟨by show((Zx _ _ _).map _).Nodup;rw[L6];exact h.nodup,h.cL,h.blk,λe f=>?_,?_,λm hm=>?_⟩
 .rcases G9 f with⟨rfl,_⟩|⟨j,f⟩
  .refine⟨g,by rw[Vp];exact i,?_⟩;show n∈(if _ then _ else _)↔_
   by_cases hf:Xt (Qk p who)=x.cF
   .rw[bK hf,Sg];exact⟨λh=>absurd rfl h.1,λh=>absurd hf h⟩
   .rw[bJ hf];exact⟨λ_=>hf,λ_=>ho⟩
  .obtain⟨a,b,c⟩:=h.cI e f;refine⟨a,b,?_⟩;show e.1∈(if _ then _ else _)↔_
   split
   .rw[Sg];simp only[ne_eq,j,not_false_eq_true,true_and];exact c
   .exact c
 .show(if _ then _ else _:List Nat).Nodup
  split
  .exact h.onodup.filter _
  .exact h.onodup
 .have k:m∈x.cG:=by
   have d:m∈(if _ then _ else _:List Nat):=hm;split at d
   .exact(Sg.1 d).2
   .exact d
  obtain⟨q,l⟩:=h.osub m k;by_cases e:m=n
  .subst e;exact⟨_,XP.2 ⟨(m,q),l,bK rfl⟩⟩
  .exact⟨q,XP.2 ⟨(m,q),l,bJ e⟩⟩
theorem Sm.Ok.giveAt{x:Sm}(h:x.Ok){n:Nat}{p:List Int}{i:Int}(hp:(n,p)∈x.pg)(hi:Q6 p i=0):(x.giveAt n p i).Ok:=by
 obtain⟨o,r,k⟩:=h.cI _ hp;simp only at o r k
 have y:=Xf4 hi;have w:=Pp p;have s:n∈(if Xt p=x.cF then n::x.cG else x.cG):=by
  split
  .simp
  .rename_i hf;exact k.2 hf
 have j:(if Xt p=x.cF then n::x.cG else x.cG).Nodup:=by
  split
  .rename_i hf;exact XV.2 ⟨λhm=>(k.1 hm) hf,h.onodup⟩
  .exact h.onodup
 have d:∀m,m≠n->(m∈(if Xt p=x.cF then n::x.cG else x.cG)↔m∈x.cG):=λm hm=>by
  split
  .rw[ZC];simp[hm]
  .rfl
 unfold Sm.giveAt;simp only
 by_cases t:Xt (Yr p i)=0
 .rw[bK t];refine⟨by show((Qz _ _).map _).Nodup;rw[Xho];exact h.nodup.filter _,h.cL,h.blk,λe f=>?_,j.filter _,λm hm=>?_⟩
  .obtain⟨g,f⟩:=Jc.1 f;obtain⟨a,b,c⟩:=h.cI e f;exact⟨a,b,by show e.1∈List.filter _ _↔_;rw[Sg,d _ g];simp only[ne_eq,g,not_false_eq_true,true_and];exact c⟩
  .obtain⟨u,v⟩:=Sg.1 hm;obtain⟨q,l⟩:=h.osub m ((d m u).1 v);exact⟨q,Jc.2 ⟨u,l⟩⟩
 .rw[bJ t];refine⟨by show((Zx _ _ _).map _).Nodup;rw[L6];exact h.nodup,h.cL,h.blk,λe f=>?_,j,λm hm=>?_⟩
  .rcases G9 f with⟨rfl,_⟩|⟨g,f⟩
   .refine⟨o,by rw[Xf3];exact r,⟨λ_=>?_,λ_=>s⟩⟩;show Xt (Yr p i)≠x.cF
    omega
   .obtain⟨a,b,c⟩:=h.cI e f;exact⟨a,b,(d _ g).trans c⟩
  .by_cases e:m=n
   .subst e;exact⟨_,XP.2 ⟨(m,p),hp,bK rfl⟩⟩
   .obtain⟨q,l⟩:=h.osub m ((d m e).1 hm);exact⟨q,XP.2 ⟨(m,q),l,bJ e⟩⟩
theorem Sm.Ok.ownAt{x:Sm}(h:x.Ok){i:Int}(hp:(n,p)∈x.pg):(x.ownAt n p i who).Ok:=by
 obtain⟨c,d,f⟩:=h.cI _ hp;refine⟨by show((Zx _ _ _).map _).Nodup;rw[L6];exact h.nodup,h.cL,h.blk,λe a=>?_,h.onodup,λm hm=>?_⟩
 .rcases G9 a with⟨rfl,_⟩|⟨g,a⟩
  .exact⟨c,by rw[Xf5];exact d,by show _↔Xt (By p i who)≠_;rw[Vo];exact f⟩
  .exact h.cI e a
 .obtain⟨q,b⟩:=h.osub m hm;by_cases e:m=n
  .subst e;exact⟨_,XP.2 ⟨(m,q),b,bK rfl⟩⟩
  .exact⟨q,XP.2 ⟨(m,q),b,bJ e⟩⟩
variable {pg:PgL}{x x':Sm}
def kd(w:dD)(b:Nat):Option (Option Nat):=match w.heap[b]? with
 |some (.cells _ t _)=>some (some t)
 |some (.map _ _)=>some none
 |_=>none
theorem X2{w:dD}{c:Array dE}{f:Nat×Nat}(h:w.heap[b]?=some (.cells c t f)):kd w b=some (some t):=by unfold kd;rw[h]
theorem Sb{w:dD}{m:AL}(h:Y7 w b m):kd w b=some none:=by
 obtain⟨es,c,hm,_⟩:=h;unfold kd;rw[hm]
theorem Xr{w:dD}{a:Nat}{x y:Option (Option Nat)}(h1:kd w a=x)(h2:kd w b=y)(h:x≠y):a≠b:=λe=>h (by rw[<-h1,<-h2,e])
theorem Eo{w:dD}{x:Option Nat}(h:kd w b=some x):b<w.heap.size:=by
 by_cases a:b<w.heap.size
 .exact a
 .unfold kd at h;rw[Array.getElem?_eq_none X] at h;cases h
theorem L9{w:dD}(h:Bk w)(hb:∀v,w.cell? ⟨b,0,none⟩≠some (.int .u8 v)):1≠b:=λe=>by
 exact hb _ ((congrArg (λx=>w.cell? ⟨x,0,none⟩) e.symm).trans (h 0 xD))
structure Sh where
 sb:Nat
 sm:Nat
 R:Rg
 P:Pl
abbrev Cl(S:Sh):dE:=.pointer (some ⟨S.sb,0,none⟩)
def Nw(S:Sh)(cL:Int)(cF:Nat)(used:Int):List dE:=[Ff S.P,.int .i64 cL,.int .i64 (cF:Int),.map (some S.sm),Iu S.R,.int .i64 used]
structure Qh(w:dD)(S:Sh)(G:Nat->Pg)(cL:Int)(cF:Nat)(pg:PgL)(cG:List Nat)(used:Int):Prop where
 nodup:(pg.map (·.1)).Nodup
 tab:Bk w
 obj:w.heap[S.sb]?=some (.cells (Nw S cL cF used).toArray 314 (0,0))
 map:∃m,Y7 w S.sm m/\(Bl m).Nodup/\m.length=pg.length/\(∀e∈pg,Br m e.1=some (Fd (G e.1)))/\∀k:Int,(∀e∈pg,(e.1:Int)≠k)->Br m k=none
 ring:Eh w S.R cG
 bS:∀e∈pg,Aa w (G e.1) e.2
 sep:∀e∈pg,(G e.1).mb≠S.sm/\∀e'∈pg,e.1≠e'.1->(G e.1).bb≠(G e'.1).bb/\(G e.1).mb≠(G e'.1).mb
def Qn(S:Sh)(G:Nat->Pg)(pg:PgL):Nat->Prop:=λz=>z=S.sb\/z=S.sm\/H2 S.R z\/∃e∈pg,Hc (G e.1) z
structure XiK(w:dD)(S:Sh):Prop where
 sb:kd w S.sb=some (some 314)
 sm:kd w S.sm=some none
 lb:kd w S.R.lb=some (some 352)
 ab:kd w S.R.ab=some (some 357)
 nb:kd w S.R.nb=some (some 359)
structure XiG(w:dD)(g:Pg):Prop where
 p:kd w g.p=some (some 348)
 bb:kd w g.bb=some (some 375)
 mb:kd w g.mb=some none
theorem Aa.kds{w:dD}{g:Pg}{x:List Int}(h:Aa w g x):XiG w g:=by
 obtain⟨m,hm,_⟩:=h.own;obtain⟨ws,_,_,_,a⟩:=h.bits.ws;exact⟨X2 h.pc,X2 a,Sb hm⟩
theorem Qh.kds{w:dD}{S:Sh}{G:Nat->Pg}{cL:Int}{cF:Nat}{pg:PgL}{cG:List Nat}{used:Int}(h:Qh w S G cL cF pg cG used):XiK w S:=by
 obtain⟨m,hm,_⟩:=h.map;obtain⟨g,f,a,b,_⟩:=h.ring.at';exact⟨X2 h.obj,Sb hm,X2 h.ring.obj,X2 a,X2 b⟩
theorem XcX{w:dD}{g:Pg}{x:List Int}(h:Aa w g x):¬Hc g 1:=λa=>by
 rcases a with e|e
 .exact h.bits.ne e
 .exact h.notab e
theorem Aa.other{w w':dD}{g g':Pg}{x x':List Int}(h:Aa w g x)(h':Aa w g' x')(hb:g'.bb≠g.bb)(hm:g'.mb≠g.mb)(hc:Xc (Hc g) w w'):Aa w' g' x':=by
 have k:=h.kds;have k':=h'.kds;refine h'.bR hc ?_ ?_ ?_ (XcX h)
 .rintro(e|e)
  .exact Xr k'.p k.bb xD e
  .exact Xr k'.p k.mb xD e
 .rintro(e|e)
  .exact hb e
  .exact Xr k'.bb k.mb xD e
 .rintro(e|e)
  .exact Xr k'.mb k.bb xD e
  .exact hm e
section
variable {w w':dD}{S:Sh}{G:Nat->Pg}{cL:Int}{cF:Nat}{pg:PgL}{cG:List Nat}{used:Int}
theorem Qh.bR{S':Nat->Prop}(h:Qh w S G cL cF pg cG used)(hc:Xc S' w w')(h1:∀z,S' z->z≠S.sb/\z≠S.sm/\z≠S.R.lb/\¬H2 S.R z)(h2:∀z,S' z -> ∀e∈pg,z≠(G e.1).p/\¬Hc (G e.1) z)(h3:¬S' 1):Qh w' S G cL cF pg cG used:=by
 obtain⟨m,hm,r⟩:=h.map;exact⟨h.nodup,h.tab.bR hc h3,hc.heap h.obj (λa=>(h1 _ a).1 rfl),⟨m,hm.bR hc (λa=>(h1 _ a).2.1 rfl),r⟩,h.ring.bR hc (λa=>(h1 _ a).2.2.1 rfl) (λa=>(h1 _ a).2.2.2 (.inl rfl)) (λa=>(h1 _ a).2.2.2 (.inr rfl)),
  λe b=>(h.bS e b).bR hc (λa=>(h2 _ a e b).1 rfl) (λa=>(h2 _ a e b).2 (.inl rfl)) (λa=>(h2 _ a e b).2 (.inr rfl)) h3,h.sep⟩
theorem Qh.bQ(h:Qh w S G cL cF pg cG used)(hc:Xc Xf w w'):Qh w' S G cL cF pg cG used:=h.bR hc (λ_ h=>h.elim) (λ_ h=>h.elim) id
theorem Qh.apart(h:Qh w S G cL cF pg cG used){z:Nat}(hz:kd w z=some (some t))(ht:t≠314/\t≠352/\t≠357/\t≠359/\t≠348/\t≠375):(z≠S.sb/\z≠S.sm/\z≠S.R.lb/\¬H2 S.R z)/\∀e∈pg,z≠(G e.1).p/\¬Hc (G e.1) z:=by
 have k:=h.kds;have d:∀{t':Nat},t≠t'->some (some t)≠some (some t'):=λh e=>h (Option.some.inj (Option.some.inj e));refine⟨⟨Xr hz k.sb (d ht.1),Xr hz k.sm xS,Xr hz k.lb (d ht.2.1),?_⟩,λe a=>?_⟩
 .rintro(e|e)
  .exact Xr hz k.ab (d ht.2.2.1) e
  .exact Xr hz k.nb (d ht.2.2.2.1) e
 .have kp:=(h.bS e a).kds;refine⟨Xr hz kp.p (d ht.2.2.2.2.1),?_⟩;rintro(e|e)
  .exact Xr hz kp.bb (d ht.2.2.2.2.2) e
  .exact Xr hz kp.mb xS e
theorem Qh.cR(h:Qh w S G cL cF pg cG used){p':List Int}(hp:(n,p)∈pg)(hk:Aa w' (G n) p')(hc:Xc (Hc (G n)) w w'):Qh w' S G cL cF (Zx pg n p') cG used:=by
 have k:=h.kds;have d:=h.bS _ hp;have kp:=d.kds;obtain⟨m,hm,s,u,g,v⟩:=h.map;have hf:∀z t,kd w z=some (some t)->t≠375 -> ¬Hc (G n) z:=λz t i ht=>by
  rintro(e|e)
  .exact Xr i kp.bb (λe=>ht (Option.some.inj (Option.some.inj e))) e
  .exact Xr i kp.mb xS e
 have l:¬Hc (G n) S.sm:=by
  rintro(e|e)
  .exact Xr k.sm kp.bb xS e
  .exact(h.sep _ hp).1 e.symm
 refine⟨by rw[L6];exact h.nodup,h.tab.bR hc (XcX d),hc.heap h.obj (hf _ _ k.sb xD),⟨m,hm.bR hc l,s,by unfold Zx;rw[XU];exact u,λe c=>?_,λj o=>v j λe c=>?_⟩,h.ring.bR hc (hf _ _ k.lb xD) (hf _ _ k.ab xD) (hf _ _ k.nb xD),λe c=>?_,λe c=>?_⟩
 .rcases G9 c with⟨rfl,_⟩|⟨_,c⟩
  .exact g (n,p) hp
  .exact g e c
 .by_cases e1:e.1=n
  .have:=o (n,p') (XP.2 ⟨e,c,bK e1⟩);rw[e1];exact this
  .exact o e (XP.2 ⟨e,c,bJ e1⟩)
 .rcases G9 c with⟨rfl,_⟩|⟨r,c⟩
  .exact hk
  .obtain⟨a,b⟩:=(h.sep _ hp).2 e c (Ne.symm r);exact d.other (h.bS e c) a.symm b.symm hc
 .have old:∃q,(e.1,q)∈pg:=by
   rcases G9 c with⟨rfl,_⟩|⟨_,c⟩
   .exact⟨p,hp⟩
   .exact⟨e.2,c⟩
  obtain⟨q,x⟩:=old;obtain⟨a,b⟩:=h.sep _ x;refine⟨a,λe' f=>?_⟩;rcases G9 f with⟨rfl,_⟩|⟨_,f⟩
  .exact b (n,p) hp
  .exact b e' f
theorem Qh.setUsed(h:Qh w S G cL cF pg cG used)(ho:w'.heap[S.sb]?=some (.cells (Nw S cL cF u).toArray 314 (0,0)))(hc:Xc (λz=>z=S.sb) w w'):Qh w' S G cL cF pg cG u:=by
 have k:=h.kds;obtain⟨m,hm,r⟩:=h.map;have a:=L9 h.tab (λv e=>by rw[Yx h.obj] at e;simp[Nw] at e);exact⟨h.nodup,h.tab.bR hc a,ho,⟨m,hm.bR hc (Xr k.sm k.sb xS),r⟩,h.ring.bR hc (Xr k.lb k.sb xD) (Xr k.ab k.sb xD) (Xr k.nb k.sb xD),
  λe b=>by have kp:=(h.bS e b).kds;exact(h.bS e b).bR hc (Xr kp.p k.sb xD) (Xr kp.bb k.sb xD) (Xr kp.mb k.sb xS) a,h.sep⟩
theorem XhT{R:Rg}{o:List Nat}(h:Eh w R o)(ht:Bk w):¬H2 R 1:=λa=>by
 obtain⟨g,f,b,c,_⟩:=h.at';rcases a with e|e
 .exact L9 ht (λv e=>by rw[B9 b (j:=0) (k:=0) rfl xD] at e;cases e) e
 .exact L9 ht (λv e=>by rw[B9 c (j:=0) (k:=0) rfl xD] at e;cases e) e
theorem Qh.setRing(h:Qh w S G cL cF pg cG used){o:List Nat}(hr:Eh w' S.R o)(hc:Xc (H2 S.R) w w'):Qh w' S G cL cF pg o used:=by
 have k:=h.kds;obtain⟨m,hm,r⟩:=h.map;have a:=XhT h.ring h.tab;have hf:∀z x,kd w z=some x->x≠some 357->x≠some 359 -> ¬H2 S.R z:=λz x b d f=>by
  rintro(e|e)
  .exact Xr b k.ab (λe=>d (Option.some.inj e)) e
  .exact Xr b k.nb (λe=>f (Option.some.inj e)) e
 exact⟨h.nodup,h.tab.bR hc a,hc.heap h.obj (hf _ _ k.sb xD xD),⟨m,hm.bR hc (hf _ _ k.sm xS xS),r⟩,hr,
  λe c=>by have kp:=(h.bS e c).kds;exact(h.bS e c).bR hc (hf _ _ kp.p xD xD) (hf _ _ kp.bb xD xD) (hf _ _ kp.mb xS xS) a,h.sep⟩
theorem XcW{r:Nat}{m:AL}(h:Y7 w r m)(ht:Bk w):1≠r:=by
 obtain⟨es,c,hm,_⟩:=h;exact L9 ht (λv e=>by simp only[World.cell?,hm] at e;cases e)
theorem Qh.del(h:Qh w S G cL cF pg cG used)(hp:(n,p)∈pg)(hm':∀m,Y7 w S.sm m->Y7 w' S.sm (Do m n))(hc:Xc (λz=>z=S.sm) w w'):Qh w' S G cL cF (Qz pg n) cG used:=by
 have k:=h.kds;obtain⟨m,hm,d,o,f,i⟩:=h.map;have g:=XcW hm h.tab;refine⟨by rw[Xho];exact h.nodup.filter _,h.tab.bR hc g,hc.heap h.obj (Xr k.sb k.sm xS),⟨Do m n,hm' m hm,by rw[Xax];exact d.erase _,?_,λe a=>?_,λj l=>?_⟩,h.ring.bR hc (Xr k.lb k.sm xS) (Xr k.ab k.sm xS) (Xr k.nb k.sm xS),λe a=>?_,λe a=>?_⟩
 .have:=(W5 h.nodup hp).2;rw[XiO,f _ hp];simp only[Option.isSome_some,if_true];omega
 .obtain⟨c,a⟩:=Jc.1 a;rw[Mk d,bJ X];exact f e a
 .rw[Mk d];by_cases e:j=n
  .rw[bK e]
  .rw[bJ e];refine i j λe' b=>?_;by_cases e2:e'.1=n
   .rw[e2];exact λh=>e h.symm
   .exact l e' (Jc.2 ⟨e2,b⟩)
 .obtain⟨c,a⟩:=Jc.1 a;have kp:=(h.bS e a).kds;exact(h.bS e a).bR hc (Xr kp.p k.sm xS) (Xr kp.bb k.sm xS) (h.sep e a).1 g
 .obtain⟨c,a⟩:=Jc.1 a;exact⟨(h.sep e a).1,λe' b=>(h.sep e a).2 e' (Jc.1 b).2⟩
def Ir(G:Nat->Pg)(n:Nat)(g:Pg):Nat->Pg:=λm=>if m=n then g else G m
theorem Qh.add(h:Qh w S G cL cF pg cG used){g:Pg}(hn:n∉pg.map (·.1))(hg:Aa w g p)(hsm:g.mb≠S.sm)(hd:∀e∈pg,(G e.1).bb≠g.bb/\(G e.1).mb≠g.mb)(hm':∀m,Y7 w S.sm m->Y7 w' S.sm (C1 m n (Fd g)))(hc:Xc (λz=>z=S.sm) w w'):Qh w' S (Ir G n g) cL cF (pg++[(n,p)]) cG used:=by
 have k:=h.kds;obtain⟨m,hm,v,x,y,s⟩:=h.map;have l:=XcW hm h.tab;have o:∀e∈pg,Ir G n g e.1=G e.1:=λe he=>bJ (λe'=>hn (XP.2 ⟨e,he,e'⟩));have f:Ir G n g n=g:=bK rfl;have i:Br m n=none:=s n λe he e'=>hn (XP.2 ⟨e,he,X⟩);have kg:=hg.kds;refine⟨?_,h.tab.bR hc l,hc.heap h.obj (Xr k.sb k.sm xS),⟨C1 m n (Fd g),hm' m hm,?_,?_,λe he=>?_,λj t=>?_⟩,h.ring.bR hc (Xr k.lb k.sm xS) (Xr k.ab k.sm xS) (Xr k.nb k.sm xS),λe he=>?_,λe he=>?_⟩
 .rw[XM];refine XR.2 ⟨h.nodup,xS,λa q b r e=>?_⟩;have:b=n:=xU r
  exact hn (this▸e▸q)
 .rw[Xay];have:=T0.1 i;rw[bJ this];refine XR.2 ⟨v,xS,λa q b r e=>?_⟩;have u:b=(n:Int):=xU r
  exact this (u▸e▸q)
 .rw[XiU,i];simp[x]
 .rw[Jv];rcases XS.1 he with he|he
  .have d:e.1≠n:=λe'=>hn (XP.2 ⟨e,he,e'⟩);rw[bJ X,o e he];exact y e he
  .have:e=(n,p):=xU he
   subst this;rw[bK rfl,f]
 .rw[Jv,bJ (λe=>(t (n,p) xS) e.symm)];exact s j λe he=>t e (QT _ he)
 .rcases XS.1 he with he|he
  .rw[o e he];have kp:=(h.bS e he).kds;exact(h.bS e he).bR hc (Xr kp.p k.sm xS) (Xr kp.bb k.sm xS) (h.sep e he).1 l
  .have:e=(n,p):=xU he
   subst this;show Aa w' (Ir G n g n) p
   rw[f];exact hg.bR hc (Xr kg.p k.sm xS) (Xr kg.bb k.sm xS) hsm l
 .have gl:∀e∈pg++[(n,p)],(e∈pg/\Ir G n g e.1=G e.1)\/(e.1=n/\Ir G n g e.1=g):=λe he=>by
   rcases XS.1 he with he|he
   .exact .inl ⟨he,o e he⟩
   .have:e=(n,p):=xU he
    subst this;exact .inr ⟨rfl,f⟩
  rcases gl e he with⟨he,e1⟩|⟨en,e1⟩
  .rw[e1];refine⟨(h.sep e he).1,λe' c d=>?_⟩;rcases gl e' c with⟨c,e2⟩|⟨_,e2⟩
   .rw[e2];exact(h.sep e he).2 e' c d
   .rw[e2];exact hd e he
  .rw[e1];refine⟨hsm,λe' c d=>?_⟩;rcases gl e' c with⟨c,e2⟩|⟨en',e2⟩
   .rw[e2];exact⟨(hd e' c).1.symm,(hd e' c).2.symm⟩
   .exact absurd (en.trans en'.symm) d
theorem Qh.foot_lt(h:Qh w S G cL cF pg cG used):∀z,Qn S G pg z->z<w.heap.size:=λz a=>by
 have k:=h.kds;rcases a with rfl|rfl|(rfl|rfl)|⟨e,b,a⟩
 .exact Eo k.sb
 .exact Eo k.sm
 .exact Eo k.ab
 .exact Eo k.nb
 .exact(h.bS e b).footlt z a
theorem Qh.look(h:Qh w S G cL cF pg cG used)(n:Int):∃m,Y7 w S.sm m/\Bv m (.pointer none) n false=(match Zk pg n with|some _=>Fd (G n.toNat)|none=>.pointer none):=by
 obtain⟨m,hm,f,g,b,c⟩:=h.map;refine⟨m,hm,?_⟩;unfold Bv;cases a:Zk pg n with
 |none=>rw[c n (XcG a)];rfl
 |some p=>
  obtain⟨k,rfl,d⟩:=Iy a;rw[b _ d];rfl
end
theorem Ls:∀(N:Nat) (l:List Nat),l.Nodup->(∀n∈l,n<N)->l.length<=N
 |0,l,_,h=>by
  cases l with
  |nil=>exact XF _
  |cons a r=>exact absurd (h a xS) (Nat.not_lt_zero _)
 |N+1,l,b,h=>by
  have ih:=Ls N (l.erase N) (b.erase N) (λn hm=>by
   obtain⟨d,c⟩:=(b.mem_erase_iff).1 hm;have:=h n c;omega)
  by_cases hm:N∈l
  .rw[List.length_erase_of_mem hm] at ih;omega
  .rw[List.erase_of_not_mem hm] at ih;omega
theorem XeA:∀{m m':AL},(m.map λp=>((W p.1,p.2):dE×dE))=m'.map (λp=>(W p.1,p.2))->m=m'
 |[],[],_=>rfl
 |[],_::_,h=>by cases h
 |_::_,[],h=>by cases h
 |(a,v)::r,(b,u)::t,h=>by
  simp only[ZL,List.cons.injEq,Prod.mk.injEq,Value.int.injEq,true_and] at h;obtain⟨⟨rfl,rfl⟩,h⟩:=h;rw[XeA h]
theorem Y7.uniq{w:dD}{r:Nat}{m m':AL}(h:Y7 w r m)(h':Y7 w r m'):m=m':=by
 obtain⟨es,c,f,a⟩:=h;obtain⟨es',c',b,d⟩:=h';rw[f] at b;cases b
 unfold Al at a d;exact XeA (a.symm.trans d)
theorem Sm.Ok.few(h:x.Ok):x.pg.length<=1024/\x.cG.length<=1024/\Qf x.pg<=524288:=by
 have a:=Ls _ _ h.nodup (λn c=>by obtain⟨e,d,rfl⟩:=XP.1 c;exact(h.cI e d).1);rw[XU] at a;have g:=Xhs (l:=x.pg) (b:=x.cF) (λe d=>(h.cI e d).2.1);have i:=Nat.mul_le_mul a h.blk.2;exact⟨a,(Ls 1024 x.cG h.onodup (λn c=>by obtain⟨p,f⟩:=h.osub n c;exact(h.cI _ f).1)),X⟩
theorem Z6.kds{w:dD}{P:Pl}{x:PlM}(h:Z6 w P x):kd w P.pb=some (some 291)/\kd w P.ab=some (some 337):=by
 obtain⟨head,f,a,b,_⟩:=h.at';exact⟨X2 a,X2 b⟩
def Bm(S:Sh)(G:Nat->Pg)(pg:PgL):Nat->Prop:=λz=>Qn S G pg z\/Az S.P z
section
variable {w w':dD}{S:Sh}{G:Nat->Pg}{cL:Int}{cF:Nat}{pg:PgL}{cG:List Nat}{used:Int}{pl:PlM}
theorem Qh.notpool(h:Qh w S G cL cF pg cG used)(hp:Z6 w S.P pl):¬Qn S G pg S.P.pb/\¬Qn S G pg S.P.ab:=by
 obtain⟨f,g⟩:=hp.kds;have a:=h.apart f xD;have b:=h.apart g xD;constructor
 .rintro(e|e|e|⟨e,c,d⟩)
  .exact a.1.1 e
  .exact a.1.2.1 e
  .exact a.1.2.2.2 e
  .exact(a.2 e c).2 d
 .rintro(e|e|e|⟨e,c,d⟩)
  .exact b.1.1 e
  .exact b.1.2.1 e
  .exact b.1.2.2.2 e
  .exact(b.2 e c).2 d
theorem Z6.bW(h:Qh w S G cL cF pg cG used)(hp:Z6 w S.P pl)(hc:Xc S' w w')(hs:∀z,S' z->Qn S G pg z):Z6 w' S.P pl:=by
 obtain⟨a,b⟩:=h.notpool hp;exact hp.bR hc (λc=>a (hs _ c)) (λc=>b (hs _ c))
theorem XcY(ht:Bk w)(hp:Z6 w S.P pl):¬Az S.P 1:=λc=>by
 obtain⟨head,f,a,b,_⟩:=hp.at';have d:=hp.cV.len;rcases c with e|e
 .exact L9 ht (λv e=>by rw[Yx a] at e;simp[Lw] at e) e
 .exact L9 ht (λv e=>by rw[B9 b (j:=0) (k:=0) rfl X] at e;cases e) e
theorem Qh.pool(h:Qh w S G cL cF pg cG used)(hp:Z6 w S.P pl)(hc:Xc (Az S.P) w w'):Qh w' S G cL cF pg cG used:=by
 obtain⟨d,f⟩:=hp.kds;have b:=h.apart d xD;have c:=h.apart f xD;refine h.bR hc (λz a=>?_) (λz a=>?_) (XcY h.tab hp)
 .rcases a with rfl|rfl
  .exact b.1
  .exact c.1
 .rcases a with rfl|rfl
  .exact b.2
  .exact c.2
end
structure Qx(w:dD)(S:Sh)(G:Nat->Pg)(x:Sm)(pl:PlM):Prop where
 ok:x.Ok
 pos:x.Pos
 of:x.Of pl
 at':Qh w S G x.cL x.cF x.pg x.cG (Qf x.pg:Nat)
 pool:Z6 w S.P pl
theorem Qx.bQ{w w':dD}{S:Sh}{G:Nat->Pg}{x:Sm}{pl:PlM}(h:Qx w S G x pl)(hc:Xc Xf w w'):Qx w' S G x pl:=⟨h.ok,h.pos,h.of,h.at'.bQ hc,h.pool.bQ hc⟩
theorem O3{pl:PlM}(hok:x.Ok)(hof:x.Of pl)(hg:pl.Good)(hn:n∈pl.free):n∉x.pg.map (·.1):=λhm=>by
 obtain⟨e,a,rfl⟩:=XP.1 hm;have b:=(hof e a).2;have c:=(hg.free _ hn).2;have:=hok.cL;omega
theorem XnQ(S:Sh)(G:Nat->Pg)(x:Sm)(pl:PlM)(w:dD)(h:Qx w S G x pl)(hf:pl.free=[]):Xe prog 292 #[Cl S] w (λv w'=>v=.tuple #[W 0,W 5]/\Qx w' S G x pl/\Xc (Az S.P) w w'):=by
 have p:=h.ok.cL;have eE:Fe pl x.cL=5:=by unfold Fe;rw[bJ X,hf];rfl
 have eN:Jf pl x.cL=0:=by unfold Jf;rw[eE];rfl
 have eT:Iq pl x.cL=pl:=by unfold Iq;rw[eE];rfl
 have q:¬Az S.P S.sb:=λl=>by
  obtain⟨m,n⟩:=h.pool.kds;rcases l with e|e
  .exact Xr h.at'.kds.sb m xD e
  .exact Xr h.at'.kds.sb n xD e
 refine aR func292 ntmps292 Y (aQ 14 (Az S.P) xK Y λb=>aE b h.at'.obj Y (aE b h.at'.obj Y (Xd.cK b rfl λi a=>?_)));have g:=Xb6 S.P pl x.cL i (h.pool.bQ a);rw[eE,eN,eT] at g;refine Xo.call rfl g.fn (Post:=λv d=>v=.tuple #[W 0,W 5]/\Z6 d S.P pl/\Xc (Az S.P) i d) (λo=>g.mono λv d j=>⟨o.trans j.2.2,j⟩) ?_;rintro _ d _ ⟨rfl,k,f⟩;refine Xd.adv Xb b rfl (aF b Y λr c=>bI Y ?_);exact bE func292 Y ⟨rfl,⟨h.ok,h.pos,h.of,((h.at'.bQ a).pool (h.pool.bQ a) f).bQ c,k.bQ c⟩,(a.gr.trans f).trans c.gr⟩
theorem XnP(S:Sh)(G:Nat->Pg)(x:Sm)(pl:PlM)(n:Nat)(r:List Nat)(w:dD)(h:Qx w S G x pl)(hf:pl.free=n::r)(hn4:n<1024):Xe prog 292 #[Cl S] w (λv w'=>v=.tuple #[W n,W 0]/\∃g,(w.heap.size<=g.p/\w.heap.size<=g.bb/\w.heap.size<=g.mb)/\Qh w' S (Ir G n g) x.cL x.cF (x.fresh n).pg (x.fresh n).cG (Qf x.pg:Nat)/\Z6 w' S.P (pl.take x.cL)/\Xc (Bm S G x.pg) w w'):=by
 have a2:=h.ok.cL;have eE:Fe pl x.cL=0:=by unfold Fe;rw[bJ X,hf];rfl
 have eN:Jf pl x.cL=n:=by unfold Jf;rw[bK eE,hf];rfl
 have eT:Iq pl x.cL=pl.take x.cL:=by unfold Iq;rw[bK eE]
 have o:=O3 h.ok h.of h.pool.cV (n:=n) (by rw[hf];simp);have E:n∉x.cG:=λhm=>by obtain⟨p,C⟩:=h.ok.osub n hm;exact o (XP.2 ⟨_,C,rfl⟩)
 have ho:¬Az S.P S.sb:=λO=>by
  obtain⟨P,Q⟩:=h.pool.kds;rcases O with e|e
  .exact Xr h.at'.kds.sb P xD e
  .exact Xr h.at'.kds.sb Q xD e
 refine aR func292 ntmps292 Y (aQ 14 (Az S.P) xK Y λa=>aE a h.at'.obj Y (aE a h.at'.obj Y (Xd.cK a rfl λF d=>?_)));have D:=Xb6 S.P pl x.cL F (h.pool.bQ d);rw[eE,eN,eT] at D;refine Xo.call rfl D.fn (Post:=λv c=>v=.tuple #[W n,W 0]/\Z6 c S.P (pl.take x.cL)/\Xc (Az S.P) F c) (λR=>D.mono λv c C=>⟨R.trans C.2.2,C⟩) ?_;rintro _ c _ ⟨rfl,H,q⟩;refine Xd.adv Xb a rfl (aF a Y λl i=>aS Y ?_);have b:=((h.at'.bQ d).pool (h.pool.bQ d) q).bQ i;have a3:w.heap.size<=l.heap.size:=by have:=d.size;have:=q.size;have:=i.size;omega
 have a4:=Xr b.kds.sb b.kds.sm xS;have I:∀w',Xc Xf l w'->Xe prog 245 #[W x.cF] w' (λv c=>Xc (λz=>z=S.sm) w' c/\Xc Xf l c/\∃g,v=.tuple #[Fd g,W 0]/\(l.heap.size<=g.p/\l.heap.size<=g.bb/\l.heap.size<=g.mb)/\Aa c g (List.replicate x.cF (-1))):=λw' f=>
  (XfY x.cF w' (b.bQ f).tab h.ok.blk).mono λv c ⟨g,T,⟨b1,b2,b3⟩,U,J⟩=>⟨J.gr,f.trans J,g,T,⟨xH f.size,xH f.size,xH f.size⟩,U⟩
 refine aQ 15 (λz=>z=S.sm) xK Y λa=>aE a b.obj Y (aE a b.obj Y (Xd.callQ a rfl rfl (I) ?_));rintro _ w4 _ ⟨s,g,rfl,hb,V⟩;refine Xd.adv Xb a rfl (Xd.cK a rfl λw5 j=>?_);have t:=b.bQ (s.trans j);obtain⟨m,hm,a5⟩:=t.map;refine Xo.mapset Xb a rfl (hm) (by first|(intro h;exact rfl)|(intro h;omega)) rfl λw6 K u a6=>aF a Y λw7 y=>?_;have A:=b.foot_lt;have L:=t.add o (V.bQ j) (λe=>xH (A S.sm (.inr (.inl rfl)))) (λe M=>⟨λe'=>xH (A _ (.inr (.inr (.inr ⟨e,M,.inl rfl⟩)))),λe'=>xH (A _ (.inr (.inr (.inr ⟨e,M,.inr rfl⟩))))⟩) (λm' h'=>by
  rw[h'.uniq hm];exact K) u
 have k:=L.bQ y;refine bB k.obj Y (aP Y (XgO S.R x.cG n w7 k.ring hn4 E (xH h.ok.few)) ?_);rintro _ w8 ⟨rfl,N,B⟩;refine aN Y ?_;exact bE func292 Y ⟨rfl,g,⟨X,X,X⟩,(k.setRing N B),(Z6.bW k ((Z6.bW t ((H.bQ i).bQ (s.trans j)) u (λz e=>.inr (.inl e))).bQ y) B (λz e=>.inr (.inr (.inl e)))),(((((d.gr.trans q).trans i.gr).mono λz _ h=>.inr h).trans ((s.trans j).gr)).trans ((u.mono λz _ e=>.inl (.inr (.inl e))).trans y.gr)).trans (B.mono λz _ e=>.inl (.inr (.inr (.inl e))))⟩
def Hh(x:Sm)(pl:PlM):Nat:=match x.cG with
 |n::_=>n
 |[]=>pl.free.headD 0
def Jm(x:Sm)(pl:PlM):Sm:=match x.cG with
 |_::_=>x
 |[]=>x.fresh (pl.free.headD 0)
def K5(x:Sm)(pl:PlM):PlM:=match x.cG with
 |_::_=>pl
 |[]=>pl.take x.cL
def Gv(x:Sm)(pl:PlM):List Int:=(Zk (Jm x pl).pg (Hh x pl)).getD []
def Qr(x:Sm)(pl:PlM)(who:Int):Int:=if who<0 then 1 else if x.cG.length=0/\pl.free.length=0 then 5 else 0
def B1(x:Sm)(pl:PlM)(who:Int):Int:=if Qr x pl who=0 then (Hh x pl:Int) else 0
def B0(x:Sm)(pl:PlM)(who:Int):Int:=if Qr x pl who=0 then Yn (Gv x pl) else 0
def Ad(x:Sm)(pl:PlM)(who:Int):Sm:=if Qr x pl who=0 then (Jm x pl).takeAt (Hh x pl) (Gv x pl) who else x
def B2(x:Sm)(pl:PlM)(who:Int):PlM:=if Qr x pl who=0 then K5 x pl else pl
theorem R5{S:Sh}:∀z,Qn S G (Zx pg n p) z->Qn S G pg z:=λz h=>by
 rcases h with h|h|h|⟨e,a,b⟩
 .exact .inl h
 .exact .inr (.inl h)
 .exact .inr (.inr (.inl h))
 .rcases G9 a with⟨rfl,q,c⟩|⟨_,a⟩
  .exact .inr (.inr (.inr ⟨_,c,b⟩))
  .exact .inr (.inr (.inr ⟨e,a,b⟩))
theorem XjV{S:Sh}:∀z,Qn S G (Qz pg n) z->Qn S G pg z:=λz h=>by
 rcases h with h|h|h|⟨e,a,b⟩
 .exact .inl h
 .exact .inr (.inl h)
 .exact .inr (.inr (.inl h))
 .exact .inr (.inr (.inr ⟨e,(Jc.1 a).2,b⟩))
theorem XjX{S:Sh}{g:Pg}(hn:n∉pg.map (·.1))(hg:b<=g.bb/\b<=g.mb):∀z,Qn S (Ir G n g) (pg++[(n,p)]) z->Qn S G pg z\/b<=z:=λz h=>by
 rcases h with h|h|h|⟨e,he,a⟩
 .exact .inl (.inl h)
 .exact .inl (.inr (.inl h))
 .exact .inl (.inr (.inr (.inl h)))
 .rcases XS.1 he with he|he
  .have:Ir G n g e.1=G e.1:=bJ (λe'=>hn (XP.2 ⟨e,he,e'⟩));rw[this] at a;exact .inl (.inr (.inr (.inr ⟨e,he,a⟩)))
  .have:e=(n,p):=xU he
   subst this;have:Ir G n g n=g:=bK rfl;rw[this] at a;rcases a with rfl|rfl
   .exact .inr hg.1
   .exact .inr hg.2
theorem Sm.Of.set{pl:PlM}(h:x.Of pl)(hc:x'.cL=x.cL)(hs:∀e∈x'.pg,∃q,(e.1,q)∈x.pg):x'.Of pl:=λe a=>by
 obtain⟨q,b⟩:=hs e a;rw[hc];exact h (e.1,q) b
theorem P9(h:e∈Zx pg n p):∃q,(e.1,q)∈pg:=by
 rcases G9 h with⟨rfl,q,a⟩|⟨_,b⟩
 .exact⟨q,a⟩
 .exact⟨e.2,b⟩
theorem Sm.Of.fresh{pl:PlM}(h:x.Of pl)(hg:pl.Good){r:List Nat}(hf:pl.free=n::r):(x.fresh n).Of (pl.take x.cL):=by
 have e:pl.take x.cL=⟨pl.own.set n x.cL,r⟩:=by unfold PlM.take;rw[hf]
 obtain⟨a,b⟩:=hg.free n (by rw[hf];simp);rw[e];intro u hu;show u.1<(pl.own.set n x.cL).length/\(pl.own.set n x.cL).getD u.1 0=x.cL
 rw[XG,E6];rcases XS.1 hu with hu|hu
 .refine⟨(h u hu).1,?_⟩;split
  .rfl
  .exact(h u hu).2
 .have:u=(n,List.replicate x.cF (-1)):=xU hu
  subst this;exact⟨a,bK ⟨rfl,a⟩⟩
theorem XjO{r:List Nat}(h:(n::r).Nodup):(n::r).filter (λm=>m != n)=r:=by
 obtain⟨a,_⟩:=XV.1 h;rw[ZJ];simp only[bne_self_eq_false,ZP,if_false];refine YR.2 λm hm=>?_;simp only[bne_iff_ne,ne_eq];exact λe=>a (e▸hm)
theorem XnO(who:Int)(w:dD):Xe prog 252 #[.pointer none,W who] w (X9 (.tuple #[W 0,W 0,W 1]) w):=by
 exact aR func252 ntmps252 Y (bD rfl func252 (Xi.tmp rfl (.tmp rfl (.tmp rfl .nil))) ⟨rfl,rfl⟩)
theorem XnN(S:Sh)(G:Nat->Pg)(x:Sm)(pl:PlM)(who:Int)(w:dD)(h:Qx w S G x pl):Xe prog 252 #[Cl S,W who] w
 (λv w'=>v=.tuple #[W (B1 x pl who),W (B0 x pl who),W (Qr x pl who)]/\∃G',Qx w' S G' (Ad x pl who) (B2 x pl who)/\Xc (Bm S G x.pg) w w'/\∀z,Qn S G' (Ad x pl who).pg z->Qn S G x.pg z\/w.heap.size<=z):=by
 have eN:∀e,Qr x pl who=e->e≠0->B1 x pl who=0/\B0 x pl who=0/\Ad x pl who=x/\B2 x pl who=pl:=λe h1 h2=>by
  unfold B1 B0 Ad B2;rw[h1,bJ h2,bJ h2,bJ h2,bJ h2];exact⟨rfl,rfl,rfl,rfl⟩
 refine aR func252 ntmps252 Y (aT Y (λg1=>?_) λg1=>?_)
 .have k1:=bL g1;have e1:Qr x pl who=1:=by unfold Qr;rw[bK k1]
  obtain⟨a,b,c,d⟩:=eN 1 e1 xD;rw[a,b,c,d,e1];exact bD rfl func252 (Xi.tmp rfl (.tmp rfl (.tmp rfl .nil))) ⟨rfl,G,h,Xc.refl _ _,λz t=>.inl t⟩
 have a1:0<=who:=xH (bM g1)
 refine bB h.at'.obj Y (bH (XgN S.R x.cG w h.at'.ring) Y ?_);obtain⟨f,u⟩:∃f,f=Jm x pl:=⟨_,rfl⟩;obtain⟨k,C⟩:∃k,k=K5 x pl:=⟨_,rfl⟩;apply Xa.cut (α:=Nat×List Nat×List Int×(Nat->Pg)) (λy=>[(0,false,Cl S),(1,false,W who),(7,false,W y.1),(37,false,.pointer (some ⟨S.sb,3,none⟩))]) (λy xW=>(y.1,y.2.2.1)∈f.pg/\y.2.2.1.length=f.cF/\f.cG=y.1::y.2.1/\Xt y.2.2.1≠f.cF/\(∀e:Nat×List Int,e.1≠y.1->e∈f.pg->0<Xt e.2)/\(B1 x pl who=y.1/\B0 x pl who=Yn y.2.2.1/\Ad x pl who=f.takeAt y.1 y.2.2.1 who/\B2 x pl who=k/\Qr x pl who=0)/\f.Ok/\f.Of k/\Qh xW S y.2.2.2 f.cL f.cF f.pg f.cG (Qf f.pg:Nat)/\Z6 xW S.P k/\Xc (Bm S G x.pg) w xW/\∀z,Qn S y.2.2.2 f.pg z->Qn S G x.pg z\/w.heap.size<=z)
 .intro J;cases A:x.cG with
  |nil=>
   refine bI Y ?_;cases hf:pl.free with
   |nil=>
    have e1:Qr x pl who=5:=by unfold Qr;rw[bJ X,bK (by rw[A,hf];exact⟨rfl,rfl⟩)]
    obtain⟨a,b,c,d⟩:=eN 5 e1 xD;rw[a,b,c,d,e1];refine aP Y (XnQ S G x pl w h hf) ?_;rintro _ w1 ⟨rfl,h1,aq⟩;exact aN Y (bI Y (bD rfl func252 (Xi.tmp rfl (.tmp rfl (.tmp rfl .nil))) ⟨rfl,G,h1,aq.mono λz _ h=>.inr h,λz t=>.inl t⟩))
   |cons n r0=>
    have ag:n<1024:=xI (h.pool.cV.free n (by rw[hf];simp)).1 h.pool.cV.len
    have e1:Qr x pl who=0:=by unfold Qr;rw[bJ X,bJ (by rw[hf];simp)]
    have a2:=O3 h.ok h.of h.pool.cV (n:=n) (by rw[hf];simp);have i:f=x.fresh n:=by rw[u];unfold Jm;rw[A,hf];rfl
    have D:k=pl.take x.cL:=by rw[C];unfold K5;rw[A]
    have E:Hh x pl=n:=by unfold Hh;rw[A,hf];rfl
    refine aP Y (XnP S G x pl n r0 w h hf ag) ?_;rintro _ xW ⟨rfl,g,ah,B,M,a3⟩;refine aN Y (aS Y ?_);have j:f.Ok:=by rw[i];exact h.ok.fresh ag a2
    have F:f.Of k:=by rw[i,D];exact h.of.fresh h.pool.cV hf
    obtain⟨p,a4⟩:∃p,p=List.replicate x.cF (-1:Int):=⟨_,rfl⟩;have s:(n,p)∈f.pg:=by rw[i,a4];exact QC _ xS
    have H:p.length=f.cF:=by rw[i,a4];exact XJ
    have b9:Xt p=0:=by rw[a4];exact Ip _
    have l:f.cG=n::[]:=by rw[i];show n::x.cG=_;rw[A]
    obtain⟨r,ar⟩:∃r:List Nat,r=[]:=⟨_,rfl⟩;rw[<-ar] at l;have ba:=h.ok.blk;have au:f.cF=x.cF:=by rw[i];rfl
    have L:Gv x pl=p:=by unfold Gv;rw[<-u,E,Cb j.nodup s];rfl
    have o:∀e:Nat×List Int,e.1≠n->e∈f.pg->0<Xt e.2:=λe P he=>by
     rw[i] at he;rcases XS.1 he with he|he
     .exact h.pos e he
     .have:e=(n,List.replicate x.cF (-1)):=xU he
      rw[this] at P;exact absurd rfl P
    have U:B1 x pl who=n:=by unfold B1;rw[bK e1,E]
    have V:B0 x pl who=Yn p:=by unfold B0;rw[bK e1,L]
    have r3:Ad x pl who=f.takeAt n p who:=by unfold Ad;rw[bK e1,L,E,<-u]
    have r4:B2 x pl who=k:=by unfold B2;rw[bK e1,<-C]
    rw[<-D] at M;obtain⟨I,ai⟩:∃I,I=Ir G n g:=⟨_,rfl⟩;rw[<-ai,show x.cL=f.cL from by rw[i];rfl,show x.cF=f.cF from au.symm,show(x.fresh n).pg=f.pg from by rw[i],show(x.fresh n).cG=f.cG from by rw[i],show((Qf x.pg:Nat):Int)=(Qf f.pg:Nat) from by
     rw[i];show((Qf x.pg:Nat):Int)=(Qf (x.pg++[(n,List.replicate x.cF (-1))]):Nat);rw[XcJ,Ip];rfl] at B
    have q:∀z,Qn S I f.pg z->Qn S G x.pg z\/w.heap.size<=z:=by rw[ai,i];exact XjX a2 ⟨ah.2.1,ah.2.2⟩
    exact J (n,r,p,I) _ _ ⟨s,H,l,by show Xt p≠f.cF;omega,o,⟨U,V,r3,r4,e1⟩,j,F,B,M,a3,q⟩ ⟨rfl,rfl,rfl,rfl,trivial⟩
  |cons n r=>
   have e1:Qr x pl who=0:=by unfold Qr;rw[bJ X,bJ (by rw[A];simp)]
   have i:f=x:=by rw[u];unfold Jm;rw[A]
   have D:k=pl:=by rw[C];unfold K5;rw[A]
   have E:Hh x pl=n:=by unfold Hh;rw[A]
   have hn:=h.ok.osub n (by rw[A];simp);refine aI Y (by show((n:Int) == -1)=false;simp) ?_;obtain⟨p,a6⟩:=hn;have j:f.Ok:=by rw[i];exact h.ok
   have F:f.Of k:=by rw[i,D];exact h.of
   have s:(n,p)∈f.pg:=by rw[i];exact a6
   have H:p.length=f.cF:=by rw[i];exact(h.ok.cI _ a6).2.1
   have l:f.cG=n::r:=by rw[i];exact A
   have Q:Xt p≠f.cF:=by rw[i];exact(h.ok.cI _ a6).2.2.1 (by rw[A];simp)
   have L:Gv x pl=p:=by unfold Gv;rw[<-u,E,Cb j.nodup s];rfl
   have o:∀e:Nat×List Int,e.1≠n->e∈f.pg->0<Xt e.2:=λe _ he=>by rw[i] at he;exact h.pos e he
   have U:B1 x pl who=n:=by unfold B1;rw[bK e1,E]
   have V:B0 x pl who=Yn p:=by unfold B0;rw[bK e1,L]
   have r3:Ad x pl who=f.takeAt n p who:=by unfold Ad;rw[bK e1,L,E,<-u]
   have r4:B2 x pl who=k:=by unfold B2;rw[bK e1,<-C]
   have B:=h.at';have M:=h.pool;rw[<-i] at B;rw[<-D] at M;exact J (n,r,p,G) _ _ ⟨s,H,l,Q,o,⟨U,V,r3,r4,e1⟩,j,F,B,M,Xc.refl _ _,λz t=>.inl (by rw[i] at t;exact t)⟩ ⟨rfl,rfl,rfl,rfl,trivial⟩
 .rintro⟨n,r,p,I⟩ xW ⟨s,H,l,Q,o,⟨U,V,r3,r4,e1⟩,j,F,B,M,a3,q⟩;simp only at s H l Q o U V r3 B q
  rw[U,V,r3,r4,e1];obtain⟨eE,eU⟩:=Np (p:=p) a1 (by rw[H];exact Q);have eA:Ev p who=Yn p:=by unfold Ev;rw[bK eE]
  have N:∀z,z<w.heap.size->Qn S I f.pg z->Bm S G x.pg z:=λz t h=>by
   rcases q z h with h|h
   .exact .inl h
   .omega
  refine bB B.obj Y ?_;obtain⟨ma,av,aj⟩:=B.look n;rw[Cb j.nodup s] at aj;refine Xa.lookup Xb rfl (av) (aj) rfl ?_;have hd:=XlG (I n) p who xW (B.bS _ s);rw[eE,eA] at hd;refine aP Y (hd) ?_;rintro _ wa ⟨rfl,ax,a7⟩;refine aN Y ?_;have R:=B.cR s ax a7;have ay:=Z6.bW B M a7 (λz h=>.inr (.inr (.inr ⟨_,s,h⟩)));refine bB R.obj Y (aJ Y (xH j.few) (bF R.obj Y λwb az a8 bb=>?_));have T:=R.setUsed az a8;have b0:=Z6.bW R ay a8 (λz h=>.inl h);have ak:(n,Qk p who)∈Zx f.pg n (Qk p who):=XP.2 ⟨(n,p),s,bK rfl⟩;refine bB T.obj Y ?_;obtain⟨mb,b1,al⟩:=T.look n;rw[Cb (by rw[L6];exact j.nodup) ak] at al;refine Xa.lookup Xb rfl (b1) (al) rfl (bG (Vk (I n) (Qk p who) wb (T.bS _ ak)) Y λwc a9=>?_);have K:=T.bQ a9;have am:=b0.bQ a9;have an:=((a3.bU a7 (λz t h=>N z t (.inr (.inr (.inr ⟨_,s,h⟩))))).bU a8 (λz t h=>N z t (.inl h))).trans a9.gr;have b2:((Qf (Zx f.pg n (Qk p who)):Nat):Int)=(Qf f.pg:Nat)+1:=xH (Ra (p:=Qk p who) j.nodup s)
  rw[<-b2] at K;have aa:(f.takeAt n p who).Pos:=λe he=>by
   rcases G9 he with⟨rfl,_⟩|⟨P,he⟩
   .show 0<Xt (Qk p who);omega
   .exact o e P he
  have ab:(f.takeAt n p who).Of k:=F.set rfl (λe he=>P9 he);have af:((Xt (Qk p who):Int) == (Qk p who).length)=decide (Xt (Qk p who)=f.cF):=by rw[Vp,H];exact QW.2 (by simp only[beq_iff_eq,decide_eq_true_eq];omega)
  rw[af];refine aT Y (λO=>?_) λO=>?_
  .have gful:=bL O;refine bB K.obj Y ?_;have hr:=K.ring;rw[l] at hr;refine aP Y (Xct S.R [] r n wc hr (by have:=j.few;have e:=congrArg List.length l;simp only[XN,ZQ] at e⊢;omega)) ?_;rintro _ wd ⟨rfl,b3,ac⟩;refine aN Y ?_;have b4:=K.setRing b3 ac;have b5:=Z6.bW K am ac (λz h=>.inr (.inr (.inl h)));have ad:(f.takeAt n p who).cG=r:=by
    show(if Xt (Qk p who)=f.cF then f.cG.filter (λm=>m != n) else f.cG)=r
    rw[bK gful,l];exact XjO (l▸j.onodup)
   exact bD rfl func252 (Xi.tmp rfl (.tmp rfl (.tmp rfl .nil))) ⟨rfl,I,⟨j.takeAt a1 s (by rw[l];simp),aa,ab,by rw[ad];exact b4,b5⟩,an.bU ac (λz t h=>N z t (.inr (.inr (.inl h)))),λz h=>q z (R5 z h)⟩
  .have gful:=bM O;have ad:(f.takeAt n p who).cG=f.cG:=by
    show(if Xt (Qk p who)=f.cF then f.cG.filter (λm=>m != n) else f.cG)=_
    rw[bJ gful]
   exact bD rfl func252 (Xi.tmp rfl (.tmp rfl (.tmp rfl .nil))) ⟨rfl,I,⟨j.takeAt a1 s (by rw[l];simp),aa,ab,by rw[ad];exact K,am⟩,an,λz h=>q z (R5 z h)⟩
def Xb9(G:Nat->Pg)(n:Int)(o:Option (List Int)):dE:=match o with
 |some _=>Fd (G n.toNat)
 |none=>.pointer none
theorem XcD(S:Sh)(G:Nat->Pg)(x:Sm)(pl:PlM)(n:Int)(w:dD)(h:Qx w S G x pl):Xe prog 284 #[Cl S,W n] w (X9 (Xb9 G n (Zk x.pg n)) w):=by
 obtain⟨m,hm,a⟩:=h.at'.look n;exact aR func284 ntmps284 Y (bB h.at'.obj Y (Xa.lookup Xb rfl (hm) ((a.trans (show _=Xb9 G n (Zk x.pg n) from by unfold Xb9;cases Zk x.pg n <;> rfl))) rfl (bE func284 Y ⟨rfl,rfl⟩)))
theorem XcE(n:Int)(w:dD):Xe prog 284 #[.pointer none,W n] w (X9 (.pointer none) w):=by
 exact aR func284 ntmps284 Y (bE func284 Y ⟨rfl,rfl⟩)
def Q0(x:Sm)(n i:Int):Int:=match Zk x.pg n with
 |some p=>Yf p i
 |none=>-1
theorem XnJ(S:Sh)(G:Nat->Pg)(x:Sm)(pl:PlM)(n i:Int)(w:dD)(h:Qx w S G x pl):Xe prog 250 #[Cl S,W n,W i] w (X9 (W (Q0 x n i)) w):=by
 unfold Q0;refine aR func250 ntmps250 Y (bH (XcD S G x pl n w h) Y ?_);cases a:Zk x.pg n with
 |none=>
  exact bH (Xf0 i w) Y (bE func250 Y ⟨rfl,rfl⟩)
 |some p=>
  obtain⟨k,rfl,b⟩:=Iy a;exact bH (XlF (G k) p i w (h.at'.bS _ b)) Y (bE func250 Y ⟨rfl,rfl⟩)
theorem XnK(n i:Int)(w:dD):Xe prog 250 #[.pointer none,W n,W i] w (X9 (W (-1)) w):=by
 exact aR func250 ntmps250 Y (bH (XcE n w) Y (bH (Xf0 i w) Y (bE func250 Y ⟨rfl,rfl⟩)))
theorem Xhf(S:Sh)(G:Nat->Pg)(x:Sm)(pl:PlM)(w:dD)(h:Qx w S G x pl):Xe prog 236 #[Cl S] w (X9 (W (x.cG.length:Nat)) w):=by
 exact aR func236 ntmps236 Y (bB h.at'.obj Y (bH (Xnc S.R x.cG w h.at'.ring) Y (bE func236 Y ⟨rfl,rfl⟩)))
theorem Xhg(w:dD):Xe prog 236 #[.pointer none] w (X9 (W 0) w):=by
 exact aR func236 ntmps236 Y (bE func236 Y ⟨rfl,rfl⟩)
theorem Xhr{l:PgL}(hn:(l.map (·.1)).Nodup)(hp:(n,p)∈l):Zx l n p=l:=by
 unfold Zx
 conv=>rhs;rw[<-List.map_id l]
 refine ZU λe b=>?_;by_cases h:e.1=n
 .rw[bK h];have a:=Cb hn (show(e.1,e.2)∈l from b);rw[h,(Cb hn hp)] at a;cases a
  rw[<-h];rfl
 .rw[bJ h];rfl
def H4(x:Sm)(n i who:Int):Int:=match Zk x.pg n with
 |some p=>Ap p i who
 |none=>1
def Bc(x:Sm)(n i who:Int):Sm:=match Zk x.pg n with
 |some p=>x.ownAt n.toNat p i who
 |none=>x
theorem XnH(S:Sh)(G:Nat->Pg)(x:Sm)(pl:PlM)(n i who:Int)(w:dD)(h:Qx w S G x pl):Xe prog 238 #[Cl S,W n,W i,W who] w
 (λv w'=>v=W (H4 x n i who)/\Qx w' S G (Bc x n i who) pl/\Xc (Bm S G x.pg) w w'/\∀z,Qn S G (Bc x n i who).pg z->Qn S G x.pg z):=by
 unfold H4 Bc;refine aR func238 ntmps238 Y (bH (XcD S G x pl n w h) Y ?_);cases f:Zk x.pg n with
 |none=>
  exact bH (XfZ i who w) Y (bE func238 Y ⟨rfl,h,Xc.refl _ _,λ_ h=>h⟩)
 |some p=>
  obtain⟨k,rfl,a⟩:=Iy f;refine aP Y (XlE (G k) p i who w (h.at'.bS _ a)) ?_;rintro _ g ⟨rfl,j,c⟩;have l:Qf (Zx x.pg k (By p i who))=Qf x.pg:=by have:=Ra (p:=By p i who) h.ok.nodup a;rw[Vo] at this;omega
  have d:(x.ownAt k p i who).Pos:=λe b=>by
   rcases G9 b with⟨rfl,_⟩|⟨_,b⟩
   .show 0<Xt (By p i who);rw[Vo];exact h.pos _ a
   .exact h.pos e b
  exact aN Y (bE func238 Y ⟨rfl,⟨h.ok.ownAt a,d,h.of.set rfl (λe b=>P9 b),by show Qh g S G x.cL x.cF (Zx x.pg k (By p i who)) x.cG (Qf (Zx x.pg k (By p i who)):Nat);rw[l];exact(h.at'.cR a j c),(Z6.bW h.at' h.pool c (λz e=>.inr (.inr (.inr ⟨_,a,e⟩))))⟩,c.mono λz _ e=>.inl (.inr (.inr (.inr ⟨_,a,e⟩))),λz e=>R5 z e⟩)
theorem XnI(n i who:Int)(w:dD):Xe prog 238 #[.pointer none,W n,W i,W who] w (X9 (W 1) w):=by
 exact aR func238 ntmps238 Y (bH (XcE n w) Y (bH (XfZ i who w) Y (bE func238 Y ⟨rfl,rfl⟩)))
theorem XeM{l1:List Nat}(h:(l1++n::l2).Nodup):(l1++n::l2).filter (λm=>m != n)=l1++l2:=by
 obtain⟨d,a,b⟩:=XR.1 h;obtain⟨c,f⟩:=XV.1 a;rw[QP,ZJ];simp only[bne_self_eq_false,ZP,if_false];rw[YR.2 (λm hm=>by simp only[bne_iff_ne,ne_eq];exact λe=>b m hm n xS e),YR.2 (λm hm=>by simp only[bne_iff_ne,ne_eq];exact λe=>c (e▸hm))]
theorem XnR(S:Sh)(G:Nat->Pg)(cL:Int)(cF:Nat)(pg:PgL)(cG:List Nat)(used:Int)(pl:PlM)(n:Nat)(p:List Int)(full:Bool)(w:dD)(hS:Qh w S G cL cF pg cG used)(hP:Z6 w S.P pl)(hp:(n,p)∈pg)(hn4:n<1024)(hfo:full=true->n∉cG)(hfo':full=false->n∈cG)(hon:cG.Nodup)(hol:cG.length<=1024)(hcl:0<=cL)(hof:n<pl.own.length/\pl.own.getD n 0=cL):Hp prog 297 #[Cl S,W n,Fd (G n),.bool full] w (λ_ w'=>Qh w' S G cL cF (if Xt p=0 then Qz pg n else pg) (if Xt p=0 then (if full then n::cG else cG).filter (λm=>m != n) else if full then n::cG else cG) used/\Z6 w' S.P (if Xt p=0 then pl.give n else pl)/\Xc (Bm S G pg) w w'):=by
 refine Hp.enter func297 rfl ntmps297 rfl rfl (aN Y ?_);cases full with
 |true=>
  have J:=hfo rfl;refine bI Y (bB hS.obj Y (aP Y (XgO S.R cG n w hS.ring hn4 J X) ?_));rintro _ xW ⟨rfl,O,K⟩;refine aN Y ?_;have a:=hS.setRing O K;have k:=Z6.bW hS hP K (λz h=>.inr (.inr (.inl h)));have g:Xc (Bm S G pg) w xW:=K.mono λz _ h=>.inl (.inr (.inr (.inl h)));simp only[if_true];obtain⟨c,b⟩:∃o,o=n::cG:=⟨_,rfl⟩;have v:n∈c:=by rw[b];simp
  have t:c.Nodup:=by rw[b];exact XV.2 ⟨J,hon⟩
  have u:c.length<=4096:=by rw[b,XN];omega
  rw[<-b] at a⊢;refine bH (Xf1 (G n) p xW (a.bS _ hp)) Y ?_;by_cases d:Xt p=0
  .rw[bK d,bK d,bK d];obtain⟨x,y,l⟩:=List.append_of_mem v;refine aM Y (show(((Xt p:Nat):Int) == 0)=true by rw[d];rfl) (bB a.obj Y ?_);have hr:=a.ring;rw[l] at hr;refine aP Y (Xct S.R x y n xW hr (by rw[<-l];exact u)) ?_;rintro _ wa ⟨rfl,A,i⟩;have f:=a.setRing A i;refine aN Y (bB f.obj Y ?_);obtain⟨m,hm,_⟩:=f.map;refine Xa.mapdel Xb rfl (hm) λwb B j N=>aN Y ?_;have q:=f.del hp (λm' L=>by rw[L.uniq hm];exact B) j;have r:=Z6.bW f (Z6.bW a k i (λz h=>.inr (.inr (.inl h)))) j (λz h=>.inr (.inl h));refine bB q.obj Y ?_;have C:Yf pl.own n=pl.own.getD n 0:=by
    unfold Yf;rw[bK X];simp only[XA];rw[O4 hof.1]
   have D:Fw pl n=0:=by unfold Fw;rw[bJ (xH hof.1),C,bJ (by rw[hof.2];omega)]
   have E:=Xb5 S.P pl n wb r;rw[show H1 pl n=pl.give n from by unfold H1;rw[bK D];rfl] at E;refine aP Y (E) ?_;rintro _ wc ⟨rfl,F,s⟩;refine aN Y ?_;have H:c.filter (λm=>m != n)=x++y:=by rw[l];exact XeM (l▸t)
   rw[H];exact bE func297 Y ⟨(q.pool r s),F,((g.trans (i.mono λz _ h=>.inl (.inr (.inr (.inl h))))).trans (j.mono λz _ h=>.inl (.inr (.inl h)))).trans (s.mono λz _ h=>.inr h)⟩
  .rw[bJ d,bJ d,bJ d];exact aI Y (show(((Xt p:Nat):Int) == 0)=false by simp;omega) (bE func297 Y ⟨a,k,g⟩)
 |false=>
  refine aS Y ?_;simp only[ZP,if_false];obtain⟨c,b⟩:∃o,o=cG:=⟨_,rfl⟩;have v:n∈c:=by rw[b];exact(hfo' rfl)
  have t:c.Nodup:=by rw[b];exact hon
  have u:c.length<=4096:=by rw[b];omega
  have a:=hS;have k:=hP;have g:Xc (Bm S G pg) w w:=Xc.refl _ _;rw[<-b] at a⊢;obtain⟨xW,M⟩:∃xW,xW=w:=⟨_,rfl⟩;have I:∀{xX:dD->Prop},xX xW->xX w:=λh=>M▸h;rw[<-M] at a k;replace g:Xc (Bm S G pg) w xW:=by rw[M];exact g
  refine I (xX:=λP=>Xa _ _ _ _ _ _ _ P) (bH (Xf1 (G n) p xW (a.bS _ hp)) Y ?_);by_cases d:Xt p=0
  .rw[bK d,bK d,bK d];obtain⟨x,y,l⟩:=List.append_of_mem v;refine aM Y (show(((Xt p:Nat):Int) == 0)=true by rw[d];rfl) (bB a.obj Y ?_);have hr:=a.ring;rw[l] at hr;refine aP Y (Xct S.R x y n xW hr (by rw[<-l];exact u)) ?_;rintro _ wa ⟨rfl,A,i⟩;have f:=a.setRing A i;refine aN Y (bB f.obj Y ?_);obtain⟨m,hm,_⟩:=f.map;refine Xa.mapdel Xb rfl (hm) λwb B j N=>aN Y ?_;have q:=f.del hp (λm' L=>by rw[L.uniq hm];exact B) j;have r:=Z6.bW f (Z6.bW a k i (λz h=>.inr (.inr (.inl h)))) j (λz h=>.inr (.inl h));refine bB q.obj Y ?_;have C:Yf pl.own n=pl.own.getD n 0:=by
    unfold Yf;rw[bK X];simp only[XA];rw[O4 hof.1]
   have D:Fw pl n=0:=by unfold Fw;rw[bJ (xH hof.1),C,bJ (by rw[hof.2];omega)]
   have E:=Xb5 S.P pl n wb r;rw[show H1 pl n=pl.give n from by unfold H1;rw[bK D];rfl] at E;refine aP Y (E) ?_;rintro _ wc ⟨rfl,F,s⟩;refine aN Y ?_;have H:c.filter (λm=>m != n)=x++y:=by rw[l];exact XeM (l▸t)
   rw[H];exact bE func297 Y ⟨(q.pool r s),F,((g.trans (i.mono λz _ h=>.inl (.inr (.inr (.inl h))))).trans (j.mono λz _ h=>.inl (.inr (.inl h)))).trans (s.mono λz _ h=>.inr h)⟩
  .rw[bJ d,bJ d,bJ d];exact aI Y (show(((Xt p:Nat):Int) == 0)=false by simp;omega) (bE func297 Y ⟨a,k,g⟩)
def Ca(x:Sm)(n i:Int):Int:=match Zk x.pg n with
 |some p=>Q6 p i
 |none=>1
def Ag(x:Sm)(n i:Int):Sm:=match Zk x.pg n with
 |some p=>if Q6 p i=0 then x.giveAt n.toNat p i else x
 |none=>x
def Bo(x:Sm)(pl:PlM)(n i:Int):PlM:=match Zk x.pg n with
 |some p=>if Q6 p i=0/\Xt (Yr p i)=0 then pl.give n.toNat else pl
 |none=>pl
theorem Xhq(l:PgL)(n:Nat)(p:List Int):Qz (Zx l n p) n=Qz l n:=by
 induction l with
 |nil=>rfl
 |cons e r ih=>
  unfold Qz Zx at *;rw[ZL,ZJ,ZJ];by_cases h:e.1=n
  .rw[bK h];simp only[bne_self_eq_false,ZP,if_false,h];exact ih
  .rw[bJ h];have:(e.1 != n)=true:=xU h
   rw[bK this,bK this,ih]
theorem XjW{S:Sh}{i:Int}:∀z,Qn S G (x.giveAt n p i).pg z->Qn S G x.pg z:=λz h=>by
 unfold Sm.giveAt at h;simp only at h
 split at h
 .exact XjV z h
 .exact R5 z h
theorem Sm.Of.giveAt{x:Sm}{pl:PlM}(hok:x.Ok)(h:x.Of pl){n:Nat}{p:List Int}{i:Int}:(x.giveAt n p i).Of (if Xt (Yr p i)=0 then pl.give n else pl):=by
 unfold Sm.giveAt;simp only
 split
 .intro e c;obtain⟨d,c⟩:=Jc.1 c;obtain⟨a,b⟩:=h e c;show e.1<(pl.own.set n (-1)).length/\(pl.own.set n (-1)).getD e.1 0=x.cL
  rw[XG,E6,bJ (λh=>d h.1.symm)];exact⟨a,b⟩
 .exact h.set rfl (λe c=>P9 c)
theorem XnF(n i:Int)(w:dD):Xe prog 255 #[.pointer none,W n,W i] w (X9 (W 1) w):=by
 exact aR func255 ntmps255 Y (bH (XcE n w) Y (bE func255 Y ⟨rfl,rfl⟩))
theorem XnE(S:Sh)(G:Nat->Pg)(x:Sm)(pl:PlM)(n i:Int)(w:dD)(h:Qx w S G x pl):Xe prog 255 #[Cl S,W n,W i] w
 (λv w'=>v=W (Ca x n i)/\Qx w' S G (Ag x n i) (Bo x pl n i)/\Xc (Bm S G x.pg) w w'/\∀z,Qn S G (Ag x n i).pg z->Qn S G x.pg z):=by
 refine aR func255 ntmps255 Y (bH (XcD S G x pl n w h) Y ?_);cases b:Zk x.pg n with
 |none=>
  rw[show Ca x n i=1 from by unfold Ca;rw[b],show Ag x n i=x from by unfold Ag;rw[b],show Bo x pl n i=pl from by unfold Bo;rw[b]];exact bE func255 Y ⟨rfl,h,Xc.refl _ _,λ_ h=>h⟩
 |some p=>
  obtain⟨k,rfl,a⟩:=Iy b;obtain⟨B,C,l⟩:=h.ok.cI _ a;simp only at B C l
  have P:=h.ok.few;refine bG (Vk (G k) p w (h.at'.bS _ a)) Y λQ m=>?_;have o:=h.at'.bQ m;refine aP Y (XlC (G k) p i Q (o.bS _ a)) ?_;rintro _ R ⟨rfl,J,q⟩;refine aN Y ?_;have f:=o.cR a J q;have r:=Z6.bW o (h.pool.bQ m) q (λz e=>.inr (.inr (.inr ⟨_,a,e⟩)));have D:Xc (Bm S G x.pg) w R:=m.gr.trans (q.mono λz _ e=>.inl (.inr (.inr (.inr ⟨_,a,e⟩))));by_cases d:Q6 p i=0
  .rw[show Ca x k i=0 from by unfold Ca;rw[b];exact d,show Ag x k i=x.giveAt k p i from by unfold Ag;rw[b];simp only;rw[bK d];rfl,show Bo x pl k i=(if Xt (Yr p i)=0 then pl.give k else pl) from by unfold Bo;rw[b];simp only[d,true_and];rfl,d];have hu:=Xf4 d;have a0:=Ra (p:=Yr p i) h.ok.nodup a;refine aS Y (Xa.defer rfl rfl (aN Y (bB f.obj Y (aV Y (bF f.obj Y λT E s a1=>?_)))));have K:((Qf x.pg:Nat):Int)-1=(Qf (Zx x.pg k (Yr p i)):Nat):=X
   rw[K] at E;have F:(k,Yr p i)∈Zx x.pg k (Yr p i):=XP.2 ⟨(k,p),a,bK rfl⟩;have H:((Xt p:Int) == p.length)=decide (Xt p=x.cF):=by rw[C];exact QW.2 (by simp only[beq_iff_eq,decide_eq_true_eq];omega)
   have u:=XnR S G x.cL x.cF _ x.cG _ pl k (Yr p i) (decide (Xt p=x.cF)) T (f.setUsed E s) (Z6.bW f r s (λz e=>.inl e)) F B (λe hm=>(l.1 hm) (bL e)) (λe=>l.2 (bM e)) h.ok.onodup X h.ok.cL (h.of _ a);rw[<-H] at u;refine Xa.ret1D Xb rfl func255 rfl rfl rfl (O9 (args:=[Cl S,W k,Fd (G k),.bool ((Xt p:Int) == p.length)]) (captured:=[]) u.fn) ⟨u.fn,?_⟩;intro c cs L;obtain⟨en,u',w',fr,⟨U,v,V,g,M,N⟩,y⟩:=u.calls c cs L;have I:(x.giveAt k p i).Pos:=by
    unfold Sm.giveAt;simp only
    split
    .intro e t;exact h.pos e (Jc.1 t).2
    .rename_i j
     intro e t;rcases G9 t with⟨rfl,_⟩|⟨_,t⟩
     .exact Nat.pos_of_ne_zero j
     .exact h.pos e t
   refine⟨en,u',w',fr,⟨U,v,V,rfl,⟨h.ok.giveAt a d,I,h.of.giveAt h.ok,?_,?_⟩,(D.trans (s.mono λz _ e=>.inl (.inl e))).trans (N.mono λz _ j=>j.imp (R5 z) id),XjW⟩,y⟩
   .rw[H] at g;show Qh w' S G (x.giveAt k p i).cL (x.giveAt k p i).cF (x.giveAt k p i).pg (x.giveAt k p i).cG (Qf (x.giveAt k p i).pg:Nat)
    unfold Sm.giveAt;simp only
    simp only[decide_eq_true_eq] at g;by_cases j:Xt (Yr p i)=0
    .rw[bK j] at g⊢;rw[bK j,Xhq] at g;have O:=(W5 (by rw[L6];exact h.ok.nodup) F).1;rw[Xhq] at O;show Qh w' S G x.cL x.cF (Qz x.pg k) _ (Qf (Qz x.pg k):Nat)
     rw[show Qf (Qz x.pg k)=Qf (Zx x.pg k (Yr p i)) by omega];exact g
    .rw[bJ j] at g⊢;rw[bJ j] at g;exact g
   .exact M
  .have A:Yr p i=p:=by unfold Yr;rw[bJ d]
   rw[A,Xhr h.ok.nodup a] at f;rw[show Ca x k i=Q6 p i from by unfold Ca;rw[b],show Ag x k i=x from by unfold Ag;rw[b];simp only;rw[bJ d],show Bo x pl k i=pl from by unfold Bo;rw[b];simp only;rw[bJ (λh=>d h.1)]];exact aM Y (show(Q6 p i != 0)=true by simpa using d) (bE func255 Y ⟨rfl,⟨h.ok,h.pos,h.of,f,r⟩,D,λ_ h=>h⟩)
def K1(a b c d:Int):List dE:=[.int .i64 a,.int .i64 b,.int .i64 c,.int .i64 d]
def Nx(x:Sm):Bool:=decide (2<=x.cG.length)
def H5(x:Sm):List dE:=if 2<=x.cG.length then K1 (Bu (-1) x.cG) (Lt ((Zk x.pg (Bu (-1) x.cG)).getD [])) (Cg x.cG) (Yn ((Zk x.pg (Cg x.cG)).getD [])) else K1 0 0 0 0
theorem XnM(w:dD):Xe prog 249 #[.pointer none] w (Grow (.tuple #[.agg (K1 0 0 0 0).toArray,.bool false]) w):=by
 exact aR func249 ntmps249 Y (bC Y λtb f e1 b c g=>bH (Xhg f) Y (bI Y (aO Y (bF b Y λi a d h=>aK func249 a Y ⟨rfl,c.sn d⟩))))
theorem XnL(S:Sh)(G:Nat->Pg)(x:Sm)(pl:PlM)(w:dD)(h:Qx w S G x pl):Xe prog 249 #[Cl S] w (Grow (.tuple #[.agg (H5 x).toArray,.bool (Nx x)]) w):=by
 unfold H5 Nx;refine aR func249 ntmps249 Y (bC Y λtb I e1 s j O=>?_);have g:=h.bQ j;refine bH (Xhf S G x pl I g) Y ?_;by_cases f:2<=x.cG.length
 .refine aS Y ?_;rw[bK f,bN f];have n:∃k∈x.cG,Bu (-1) x.cG=(k:Int):=by
   rcases Kr (-1) x.cG with⟨e,_⟩|⟨a,v,e,_⟩
   .rw[e] at f;simp at f
   .exact⟨a,v,e⟩
  have o:∃k∈x.cG,Cg x.cG=(k:Int):=by
   cases J:x.cG with
   |nil=>rw[J] at f;simp at f
   |cons a r=>exact⟨a,xS,rfl⟩
  obtain⟨a,v,ea⟩:=n;obtain⟨b,K,eb⟩:=o;obtain⟨p,y⟩:=h.ok.osub a v;obtain⟨q,A⟩:=h.ok.osub b K;rw[ea,eb,Cb h.ok.nodup y,Cb h.ok.nodup A];simp only[YI];refine aQ 10 Xf xK Y λc=>aE c g.at'.obj Y (aH c (λw' d=>Xnb S.R x.cG w' (g.at'.ring.bQ d)) Y ?_);rw[ea];refine aE c g.at'.obj Y (aH c (λw' d=>XgN S.R x.cG w' (g.at'.ring.bQ d)) Y ?_);rw[eb];refine aF c Y λL l=>?_;have i:=g.bQ l;obtain⟨m,hm,D⟩:=i.at'.look a;obtain⟨m',E,t⟩:=i.at'.look b;rw[Cb h.ok.nodup y] at D;rw[Cb h.ok.nodup A] at t;exact aQ 16 Xf xK Y λc=>aE c i.at'.obj Y (Xd.lookup Xb c rfl (hm) (by first|(intro b h;cases h;assumption)|(intro b h M;cases h;omega)) (D) rfl (aH c (λw' d=>XlH (G a) p w' ((i.at'.bS _ y).bQ d)) Y (aE c i.at'.obj Y (Xd.lookup Xb c rfl (E) (by first|(intro b h;cases h;assumption)|(intro b h M;cases h;omega)) (t) rfl (aG c (λw' d=>XlD (G b) q w' ((i.at'.bS _ A).bQ d)) Y (aF c Y λR u=>aO Y (bF (u.bP (l.bP s)) Y λT B F P=>aK func249 B Y ⟨rfl,((j.trans l).trans u).sn F⟩)))))))
 .refine bI Y ?_;rw[bJ f,bO f];exact aO Y (bF s Y λL C H Q=>aK func249 C Y ⟨rfl,j.sn H⟩)
def Sk(cL:Int)(cF:Nat):Sm:=⟨cL,cF,[],[]⟩
theorem XnG(P:Pl)(pl:PlM)(cL:Int)(k:Nat)(w:dD)(ht:Bk w)(hc:0<=cL)(hk:1<=k/\k<=512)(hP:Z6 w P pl):Xe prog 187 #[Ff P,W cL,W k] w
 (λv w'=>∃S,S.P=P/\v=.tuple #[Cl S,W 0]/\(∀G z,Qn S G [] z->w.heap.size<=z)/\(∀G,Qx w' S G (Sk cL k) pl)/\Xc Xf w w'):=by
 refine aR func187 ntmps187 Y (aP Y (XfY k w ht hk) ?_);rintro _ n ⟨g,rfl,_,_,d⟩;refine aN Y (aS Y (aS Y (aP Y (Xnd n) ?_)));rintro _ B ⟨R,rfl,⟨r,s,t⟩,o,f⟩;refine aN Y (Xa.mkmap rfl λsm C e3 l i u=>aN Y (aO Y (bC Y λsb D e4 m c x=>?_)));have b:=((d.trans f).trans i).trans c;have y:=d.size;have A:=f.size;exact Xa.ret2 Xb rfl func187 rfl rfl rfl ⟨⟨sb,sm,R,P⟩,rfl,rfl,(λG z p=>by
  rcases p with h|h|(h|h)|⟨e,a,_⟩
  .have:z=sb:=h;omega
  .have:z=sm:=h;omega
  .have:z=R.ab:=h;omega
  .have:z=R.nb:=h;omega
  .cases a),λG=>⟨⟨QB,hc,hk,(λe a=>by cases a),QB,(λe a=>by cases a)⟩,(λe a=>by cases a),(λe a=>by cases a),⟨QB,λj q=>b.cell (ht j q) id,m,⟨[],l.bR c id,QB,rfl,(λe a=>by cases a),λ_ _=>rfl⟩,(o.bQ i).bQ c,(λe a=>by cases a),(λe a=>by cases a)⟩,hP.bQ b⟩,b⟩
theorem Qx.foot_lt{w:dD}{S:Sh}{G:Nat->Pg}{x:Sm}{pl:PlM}(h:Qx w S G x pl):∀z,Bm S G x.pg z->z<w.heap.size:=λz hz=>by
 rcases hz with hz|hz|hz
 .exact h.at'.foot_lt z hz
 .have:z=S.P.pb:=hz;have:=h.pool.lt;omega
 .have:z=S.P.ab:=hz;have:=h.pool.lt;omega
theorem W4(l:PgL)(n:Nat)(p:List Int):(Zx l n p).length=l.length:=by unfold Zx;simp
theorem L5(x:Sm)(pl:PlM)(who:Int):(Qr x pl who≠0/\Ad x pl who=x/\B2 x pl who=pl)\/
 (Qr x pl who=0/\0<=who/\((∃n r,x.cG=n::r/\Ad x pl who=x.takeAt n (Gv x pl) who/\B2 x pl who=pl/\Gv x pl=(Zk x.pg n).getD []/\B1 x pl who=n/\B0 x pl who=Yn (Gv x pl))\/
  (∃n r,x.cG=[]/\pl.free=n::r/\Ad x pl who=(x.fresh n).takeAt n (Gv x pl) who/\B2 x pl who=pl.take x.cL/\Gv x pl=(Zk (x.fresh n).pg n).getD []/\B1 x pl who=n/\B0 x pl who=Yn (Gv x pl)))):=by
 by_cases a:Qr x pl who=0
 .refine .inr ⟨a,?_,?_⟩
  .unfold Qr at a;split at a
   .cases a
   .omega
  .have e1:Ad x pl who=(Jm x pl).takeAt (Hh x pl) (Gv x pl) who:=by unfold Ad;rw[bK a]
   have e2:B2 x pl who=K5 x pl:=by unfold B2;rw[bK a]
   have e3:B1 x pl who=Hh x pl:=by unfold B1;rw[bK a]
   have e4:B0 x pl who=Yn (Gv x pl):=by unfold B0;rw[bK a]
   have e5:Gv x pl=(Zk (Jm x pl).pg (Hh x pl)).getD []:=rfl;cases b:x.cG with
   |cons n r=>
    have d:Jm x pl=x:=by unfold Jm;rw[b]
    have c:Hh x pl=n:=by unfold Hh;rw[b]
    have f:K5 x pl=pl:=by unfold K5;rw[b]
    refine .inl ⟨n,r,rfl,?_,?_,?_,?_,e4⟩
    .rw[e1,d,c]
    .rw[e2,f]
    .rw[e5,d,c]
    .rw[e3,c]
   |nil=>
    cases hf:pl.free with
    |nil=>
     unfold Qr at a;split at a
     .cases a
     .rw[bK (by rw[b,hf];exact⟨rfl,rfl⟩)] at a;cases a
    |cons n r=>
     have d:Jm x pl=x.fresh n:=by unfold Jm;rw[b,hf];rfl
     have c:Hh x pl=n:=by unfold Hh;rw[b,hf];rfl
     have f:K5 x pl=pl.take x.cL:=by unfold K5;rw[b]
     refine .inr ⟨n,r,rfl,rfl,?_,?_,?_,?_,e4⟩
     .rw[e1,d,c]
     .rw[e2,f]
     .rw[e5,d,c]
     .rw[e3,c]
 .exact .inl ⟨a,by unfold Ad;rw[bJ a],by unfold B2;rw[bJ a]⟩
theorem Xn6{l:PgL}{q:List Int}(hn:(l.map (·.1)).Nodup)(hq:(n,q)∈l):Zk (Zx l n p) n=some p:=
 Cb (by rw[L6];exact hn) (XP.2 ⟨(n,q),hq,bK rfl⟩)
def Rows{α:Type}(cells:α->List dE)(sz:Nat)(w:dD)(a:Option dF)(xs:List α):Prop:=
 ∀i x,xs[i]?=some x -> ∃b off,a=some ⟨b,off,none⟩/\∀j v,(cells x)[j]?=some v->w.cell? ⟨b,off+i*sz+j,none⟩=some v
theorem Rows.bR{xs:List α}(h:Rows cells sz w a xs)(hc:Xc Xf w w'):Rows cells sz w' a xs:=λi x d=>by
 obtain⟨b,off,e,c⟩:=h i x d;exact⟨b,off,e,λj v f=>Om hc.below (c j v f)⟩
theorem Rows.at{xs:List α}(h:Rows cells sz w a xs)(hi:i<xs.length):∃b off,a=some ⟨b,off,none⟩/\∀j v,(cells xs[i])[j]?=some v->w.cell? ⟨b,off+i*sz+j,none⟩=some v:=h i xs[i] (XD hi)
def Xj(S:Nat->Prop)(a:Option dF):Prop:=∀b off s,a=some ⟨b,off,s⟩ -> ¬S b
def Gg(w:dD)(a a':Option dF):Prop:=a'=a\/∃g off,a'=some ⟨g,off,none⟩/\w.heap.size<=g
theorem Xj.newer{a':Option dF}(h:Xj S a)(hn:Gg w a a')(hS:∀b,S b->b<w.heap.size):Xj S a':=λb off s e c=>by
 rcases hn with hn|⟨g,off',hn,d⟩
 .rw[hn] at e;exact h b off s e c
 .rw[hn] at e;cases e;have:=hS _ c;omega
theorem Rd.bW{k:IntKind}(h:Rd k w a zs)(hs:Xj S a)(hc:Xc S w w'):Rd k w' a zs:=(Og.bR ⟨h,λb off s e _=>hs b off s e⟩ hc).1
theorem Xj.mono(h:Xj S a)(hs:∀z,S' z->S z):Xj S' a:=λb off s e c=>h b off s e (hs _ c)
structure IL where
 a:Option dF
 cap:Nat
 x:List Int
abbrev Xq(l:IL):dE:=.slice l.a l.x.length l.cap
structure Ce(w:dD)(l:IL):Prop where
 rd:Rd .i64 w l.a l.x
 len:l.x.length<=512
theorem Ce.bQ{l:IL}(h:Ce w l)(hc:Xc Xf w w'):Ce w' l:=⟨h.rd.bR hc,h.len⟩
theorem Ce.bW{l:IL}(h:Ce w l)(hs:Xj S l.a)(hc:Xc S w w'):Ce w' l:=
 ⟨(Og.bR ⟨h.rd,λb off s e _=>hs b off s e⟩ hc).1,h.len⟩
theorem Jh{x:List Int}:∀u∈x.map W,u.oneCell'=true:=by
 intro u a;obtain⟨z,_,rfl⟩:=XP.1 a;rfl
theorem Xj1{x:List Int}(h:i<x.length):x.getD i (-1)=x.getD i 0:=by
 rw[XB,XB,XD h];rfl
theorem Rd.atm{x:List Int}(h:Rd .i64 w a x)(hi:i<x.length):∃b off,a=some ⟨b,off,none⟩/\w.cell? ⟨b,off+i,none⟩=some (W (x.getD i (-1))):=by
 obtain⟨b,off,e,c⟩:=h i hi;exact⟨b,off,e,by rw[Xj1 hi];exact c⟩
theorem Xmt(m:Nat)(w:dD)(h:1<=m/\m<=512):Xe prog 301 #[W m] w (λv w'=>∃l:IL,v=.tuple #[Xq l,W 0]/\l.x=List.replicate m (-1)/\Ce w' l/\Xc Xf w w'/\Gg w none l.a):=by
 have z:maxLen=9223372036854775807:=rfl;refine aR func301 ntmps301 Y (aS Y (aS Y ?_));refine Xa.loop (α:=Nat×dE) (λp=>[(0,false,W m),(4,false,p.2),(5,false,W p.1)])
  (λp w'=>p.1<=m/\Xm w.heap.size 3 1 w' p.2 p.1 ((List.replicate p.1 (-1)).map W)/\Xc Xf w w') (λp=>m-p.1) (0,.slice none 0 0) ⟨rfl,rfl,rfl,trivial⟩ ⟨XQ _,World.ownsRow_nil _ _ _ _,Xc.refl _ _⟩ ?_
 rintro⟨i,v⟩ E ⟨hi,f,a⟩ ih;simp only at hi f
 refine aN Y (aT Y (λj=>?_) λj=>?_)
 .have n:i<m:=xH (bL j)
  refine Xa.buildSlice Xb rfl λF G e2 o b A=>aN Y ?_;have d:=f.bR b (λ_ _ h=>h);refine Xa.append (base:=w.heap.size) (xs:=(List.replicate i (-1)).map W) (news:=[W (-1)]) Xb rfl d (xI a.size b.size) xS (Hs o) (by simp[Value.oneCell']) xP λy H q r B=>aN Y (aV Y ?_);exact ih (i+1,y) _ _ ⟨n,by
   have e:(List.replicate (i+1) (-1:Int)).map W=(List.replicate i (-1)).map W++[W (-1)]:=by rw[List.replicate_succ',XM];rfl
   rw[e];exact q,(d.bU (a.trans b) (XF _) r)⟩ xP ⟨rfl,rfl,rfl,trivial⟩
 .have s:i=m:=xH (bM j)
  subst s;obtain⟨g,k,cur,rfl,t,u,C,D,x⟩:=f.form X;have c:(List.replicate i (-1:Int)).length=i:=XJ;exact bE func301 Y ⟨⟨some ⟨g,0,none⟩,k,List.replicate i (-1)⟩,by show _=Value.tuple #[.slice _ (List.replicate i (-1:Int)).length _,_];rw[c],rfl,⟨Rd.of_take u (by simp only[c];simpa using x),xP⟩,a,.inr ⟨g,0,rfl,t⟩⟩
theorem Xmv(l:IL)(i:Int)(w:dD)(h:Ce w l):Xe prog 267 #[Xq l,W i] w (X9 (W (Yf l.x i)) w):=by
 obtain⟨a,cap,x⟩:=l;have f:=h.len;have hr:=h.rd;simp only at f hr
 show Xe prog 267 #[.slice a x.length cap,W i] w (X9 (W (Yf x i)) w)
 refine aR func267 ntmps267 Y (aT Y (λc=>?_) λc=>?_)
 .have g:=bL c;exact bE func267 Y ⟨X0 (Xb1 X).symm,rfl⟩
 have g:=bM c;refine aT Y (λd=>?_) λd=>?_
 .have j:=bL d;exact bE func267 Y ⟨X0 (Xb1 X).symm,rfl⟩
 have j:=bM d;obtain⟨i,rfl⟩:=XE (show 0<=i by omega);obtain⟨b,off,rfl,k⟩:=hr.atm (i:=i) X;exact aU i Y (aW Y k Y (bE func267 Y ⟨X0 (by unfold Yf;rw[bK X];rfl),rfl⟩))
theorem Nn{x:List Int}(h:j<(Y9 x).length):(Y9 x)[j]=!(x.getD j (-1) == -1):=by rw[<-Sr,Ih h]
theorem Xmy(l:IL)(w:dD)(h:Ce w l):Xe prog 274 #[Xq l] w (X9 (W (Xt l.x)) w):=by
 obtain⟨a,cap,x⟩:=l;have m:=h.len;have hr:=h.rd;simp only at m hr
 show Xe prog 274 #[.slice a x.length cap] w (X9 (W (Xt x)) w)
 refine aR func274 ntmps274 Y ?_;refine Xa.loop (α:=Nat) (λk=>[(0,false,.slice a x.length cap),(3,false,W (cnt ((Y9 x).take k))),(4,false,W k)])
  (λk w'=>w'=w/\k<=x.length) (λk=>x.length-k) 0 ⟨rfl,rfl,rfl,trivial⟩ ⟨rfl,XQ _⟩ ?_
 rintro k p ⟨n,q⟩ ih;subst n;have i:=Ow ((Y9 x).take k);rw[XX,Fv] at i;refine aN Y (aT Y (λg=>?_) λg=>?_)
 .have c:k<x.length:=xH (bL g)
  obtain⟨b,off,rfl,o⟩:=hr.atm c;have d:=Xej (Y9 x) k (by rw[Fv];exact c);rw[Nn] at d;refine aU k Y (aW Y o Y ?_);cases f:(x.getD k (-1) == -1) with
  |true=>
   rw[f,bJ xD] at d;exact aI Y (show(x.getD k (-1) != -1)=false by simpa [bne] using f) (aV Y (ih (k+1) _ _ ⟨rfl,c⟩ X ⟨rfl,by rw[d];rfl,rfl,trivial⟩))
  |false=>
   rw[f,bK xD] at d;exact aM Y (show(x.getD k (-1) != -1)=true by simpa [bne] using f) (aV Y (aV Y (ih (k+1) _ _ ⟨rfl,c⟩ X ⟨rfl,by rw[d];rfl,rfl,trivial⟩)))
 .have j:k=x.length:=xH (bM g)
  subst j;exact bE func274 Y ⟨X0 (by unfold Xt;rw[YV (by rw[Fv];omega)]),rfl⟩
theorem Vz(l:IL)(w:dD)(h:Ce w l):Xe prog 266 #[Xq l] w (X9 (W (Yn l.x)) w):=by
 obtain⟨a,cap,x⟩:=l;have n:=h.len;have hr:=h.rd;simp only at n hr
 show Xe prog 266 #[.slice a x.length cap] w (X9 (W (Yn x)) w)
 refine aR func266 ntmps266 Y ?_;refine Xa.loop (α:=Nat) (λk=>[(0,false,.slice a x.length cap),(3,false,W k)])
  (λk w'=>w'=w/\k<=x.length/\∀j,j<k->(x.getD j (-1) == -1)=false) (λk=>x.length-k) 0 ⟨rfl,rfl,trivial⟩ ⟨rfl,XQ _,λ_ h=>X⟩ ?_
 rintro k s ⟨o,t,c⟩ ih;subst o;refine aN Y (aT Y (λg=>?_) λg=>?_)
 .have d:k<x.length:=xH (bL g)
  obtain⟨b,off,rfl,q⟩:=hr.atm d;refine aU k Y (aW Y q Y ?_);cases i:(x.getD k (-1) == -1) with
  |true=>
   exact bI Y (bE func266 Y ⟨X0 (J1 (p:=λb=>!b) (by rw[Fv];exact d) (λj m f=>by rw[Nn,c j f];rfl) (by rw[Nn,i];rfl)).symm,rfl⟩)
  |false=>
   refine aS Y (aV Y ?_);exact ih (k+1) _ _ ⟨rfl,d,λj f=>by
    by_cases e:j=k
    .subst e;exact i
    .exact c j X⟩ X ⟨rfl,rfl,trivial⟩
 .have r:k=x.length:=xH (bM g)
  exact bE func266 Y ⟨X0 (Ij (p:=λb=>!b) (λj m=>by rw[Nn,c j (by rw[Fv] at m;omega)];rfl)).symm,rfl⟩
theorem Xmx(l:IL)(w:dD)(h:Ce w l):Xe prog 265 #[Xq l] w (X9 (W (Lt l.x)) w):=by
 obtain⟨a,cap,x⟩:=l;have n:=h.len;have hr:=h.rd;simp only at n hr
 show Xe prog 265 #[.slice a x.length cap] w (X9 (W (Lt x)) w)
 refine aR func265 ntmps265 Y (aV Y ?_);refine Xa.loop (α:=Nat) (λk=>[(0,false,.slice a x.length cap),(3,false,W ((k:Int)-1))])
  (λk w'=>w'=w/\k<=x.length/\∀j,k<=j->(x.getD j (-1) == -1)=true) (λk=>k) x.length ⟨rfl,rfl,trivial⟩ ⟨rfl,XF _,λj h=>by rw[XB,ZF h];rfl⟩ ?_
 rintro k u ⟨o,v,c⟩ ih;subst o;refine aN Y (aT Y (λf=>?_) λf=>?_)
 .have s:0<k:=xH (bL f)
  obtain⟨k,rfl⟩:∃m,k=m+1:=⟨k-1,X⟩;obtain⟨b,off,rfl,q⟩:=hr.atm (i:=k) X;rw[show(((k+1:Nat):Int)-1)=(k:Int) from by omega];refine aU k Y (aW Y q Y ?_);cases d:(x.getD k (-1) == -1) with
  |false=>
   exact aM Y (show(x.getD k (-1) != -1)=true by simpa [bne] using d) (bE func265 Y ⟨X0 (Xcs (p:=id) (by rw[Fv];omega) (λj r g=>by rw[Nn,c j X];rfl) (by rw[Nn,d];rfl)).symm,rfl⟩)
  |true=>
   refine aI Y (show(x.getD k (-1) != -1)=false by simpa [bne] using d) (aV Y ?_);exact ih k _ _ ⟨rfl,X,λj g=>by
    by_cases e:j=k
    .subst e;exact d
    .exact c j X⟩ X ⟨rfl,rfl,trivial⟩
 .have t:k=0:=xH (bM f)
  exact bE func265 Y ⟨X0 (XgM (p:=id) (λj r=>by rw[Nn,c j X];rfl)).symm,rfl⟩
theorem Xcd(l:IL)(i:Nat)(v:Int)(w:dD)(h:Ce w l)(hi:i<l.x.length):Xe prog 302 #[Xq l,W i,W v] w
 (λu w'=>∃l':IL,u=Xq l'/\l'.x=l.x.set i v/\Ce w' l'/\Xc Xf w w'/\Gg w l.a l'.a):=by
 obtain⟨a,cap,x⟩:=l;have F:=h.len;have hr:=h.rd;simp only at F hr hi
 show Xe prog 302 #[.slice a x.length cap,W i,W v] w _
 have K:maxLen=9223372036854775807:=rfl;obtain⟨b,off,rfl,Q⟩:=hr i hi;refine aR func302 ntmps302 Y (Xa.buildSlice Xb rfl λG H e3 n c L=>aN Y ?_);have o:Xm w.heap.size 3 1 H (.slice (some ⟨G,0,none⟩) 0 0) 0 []:=Xm.empty X n;refine Xa.append (base:=w.heap.size) (xs:=[]) (news:=x.map W) Xb rfl o c.size xS (hr.bR c).cells Jh xP λR I p q M=>aN Y ?_;have r:=o.bU c (XF _) q;obtain⟨g,j,cur,rfl,s,t,y,N,A⟩:=p.form X;have d:cur.toList=x.map W++cur.toList.drop x.length:=by
  have e:=XY x.length cur.toList;rw[show cur.toList.take x.length=x.map W from by simpa using A] at e;exact e.symm
 obtain⟨rest,f⟩:∃rest,rest=cur.toList.drop x.length:=⟨_,rfl⟩;rw[<-f] at d;have k:I.heap[g]?=some (.cells (x.map W++rest).toArray 3 (0,0)):=by rw[<-d];exact t
 have B:0+x.length=x.length:=X
 rw[B] at y⊢;refine aU i Y (aL Y k (show Ya (x.map W++rest) (0+i) [W v]=some ((x.set i v).map W++rest) from by rw[XT,Kc _ _ _ xQ,YO _ _ (xU hi),ZW]) Y λJ m C O=>?_);have D:Xc Xf w J:=r.sn C;have E:(x.set i v).length=x.length:=xS
 exact bE func302 Y ⟨⟨some ⟨g,0,none⟩,j,x.set i v⟩,by show _=Value.slice _ (x.set i v).length _;rw[E],rfl,⟨Rd.of_take m xS,xP⟩,D,.inr ⟨g,0,rfl,s⟩⟩
theorem Xmw(l:IL)(who:Int)(w:dD)(h:Ce w l):Xe prog 269 #[Xq l,W who] w
 (λv w'=>∃l':IL,v=.tuple #[Xq l',W (Ev l.x who),W (Dz l.x who)]/\l'.x=Qk l.x who/\Ce w' l'/\Xc Xf w w'/\Gg w l.a l'.a):=by
 refine aR func269 ntmps269 Y (aT Y (λg=>?_) λg=>?_)
 .have c:=bL g;have a:Dz l.x who=1:=by unfold Dz;rw[bK c]
  have b:Ev l.x who=0:=by unfold Ev;rw[a];rfl
  have ht:Qk l.x who=l.x:=by unfold Qk;rw[a];rfl
  rw[a,b,ht];exact bD rfl func269 (.tmp rfl (.tmp rfl (.tmp rfl .nil))) ⟨l,rfl,rfl,h,Xc.refl _ _,.inl rfl⟩
 have c:=bM g;refine bH (Vz l w h) Y (aT Y (λi=>?_) λi=>?_)
 .have d:=bL i;have a:Dz l.x who=5:=by unfold Dz;rw[bJ c,bK d]
  have b:Ev l.x who=0:=by unfold Ev;rw[a];rfl
  have ht:Qk l.x who=l.x:=by unfold Qk;rw[a];rfl
  rw[a,b,ht];exact bD rfl func269 (.tmp rfl (.tmp rfl (.tmp rfl .nil))) ⟨l,rfl,rfl,h,Xc.refl _ _,.inl rfl⟩
 have d:=bM i;have a:Dz l.x who=0:=by unfold Dz;rw[bJ c,bJ d]
 have b:Ev l.x who=Yn l.x:=by unfold Ev;rw[a];rfl
 have ht:Qk l.x who=l.x.set (Yn l.x).toNat who:=by unfold Qk;rw[a];rfl
 obtain⟨f,q⟩:=Vr d;rw[a,b,ht];obtain⟨k,j⟩:=XE (show 0<=Yn l.x by omega);rw[j];rw[j] at f;refine aP Y (Xcd l k who w h f) ?_;rintro _ r ⟨l',rfl,n,o,p,m⟩;exact aN Y (bD rfl func269 (.tmp rfl (.tmp rfl (.tmp rfl .nil))) ⟨l',rfl,n,o,p,m⟩)
theorem Xms(l:IL)(i:Int)(w:dD)(h:Ce w l):Xe prog 273 #[Xq l,W i] w
 (λv w'=>∃l':IL,v=.tuple #[Xq l',W (Q6 l.x i)]/\l'.x=Yr l.x i/\Ce w' l'/\Xc Xf w w'/\Gg w l.a l'.a):=by
 have g:∀e:Int,Q6 l.x i=e->e≠0->Yr l.x i=l.x:=λe f d=>by unfold Yr;rw[f,bJ d]
 obtain⟨a,cap,x⟩:=l;have hr:=h.rd;have k:=h.len;simp only at hr g k
 show Xe prog 273 #[.slice a x.length cap,W i] w (λv w'=>∃l':IL,v=.tuple #[Xq l',W (Q6 x i)]/\l'.x=Yr x i/\Ce w' l'/\Xc Xf w w'/\Gg w a l'.a)
 refine aR func273 ntmps273 Y (aT Y (λm=>?_) λm=>?_)
 .have o:=bL m;have c:Q6 x i=1:=by unfold Q6;rw[bK X]
  rw[c,g 1 c xD];exact bE func273 Y ⟨⟨a,cap,x⟩,rfl,rfl,h,Xc.refl _ _,.inl rfl⟩
 have o:=bM m;refine aT Y (λf=>?_) λf=>?_
 .have p:=bL f;have c:Q6 x i=1:=by unfold Q6;rw[bK X]
  rw[c,g 1 c xD];exact bE func273 Y ⟨⟨a,cap,x⟩,rfl,rfl,h,Xc.refl _ _,.inl rfl⟩
 have p:=bM f;obtain⟨i,rfl⟩:=XE (show 0<=i by omega);have j:Yf x (i:Int)=x.getD i (-1):=by unfold Yf;rw[bK X];rfl
 obtain⟨b,off,rfl,q⟩:=hr.atm (i:=i) X;refine aU i Y (aW Y q Y ?_);by_cases d:x.getD i (-1)=-1
 .have c:Q6 x i=9:=by unfold Q6;rw[bJ X,bK (by rw[j];exact d)]
  rw[c];exact aM Y (show(x.getD i (-1) == -1)=true by rw[d];rfl) (bE func273 Y ⟨⟨_,cap,x⟩,rfl,(g 9 c xD).symm,h,Xc.refl _ _,.inl rfl⟩)
 .have c:Q6 x i=0:=by unfold Q6;rw[bJ X,bJ (by rw[j];exact d)]
  have ht:Yr x i=x.set i (-1):=by unfold Yr;rw[c];rfl
  rw[c];refine aI Y (show(x.getD i (-1) == -1)=false by simpa using d) (aP Y (Xcd ⟨_,cap,x⟩ i (-1) w h (show i<x.length by omega)) ?_);rintro _ t ⟨l',rfl,r,k,s,n⟩;exact aN Y (bE func273 Y ⟨l',rfl,by rw[r];exact ht.symm,k,s,n⟩)
theorem Xmu(l:IL)(i who:Int)(w:dD)(h:Ce w l):Xe prog 298 #[Xq l,W i,W who] w
 (λv w'=>∃l':IL,v=.tuple #[Xq l',W (Ap l.x i who)]/\l'.x=By l.x i who/\Ce w' l'/\Xc Xf w w'/\Gg w l.a l'.a):=by
 have f:∀e:Int,Ap l.x i who=e->e≠0->By l.x i who=l.x:=λe g d=>by unfold By;rw[g,bJ d]
 obtain⟨a,cap,x⟩:=l;have hr:=h.rd;have m:=h.len;simp only at hr f m
 show Xe prog 298 #[.slice a x.length cap,W i,W who] w (λv w'=>∃l':IL,v=.tuple #[Xq l',W (Ap x i who)]/\l'.x=By x i who/\Ce w' l'/\Xc Xf w w'/\Gg w a l'.a)
 refine aR func298 ntmps298 Y (aT Y (λn=>?_) λn=>?_)
 .have p:=bL n;have c:Ap x i who=1:=by unfold Ap;rw[bK X]
  rw[c,f 1 c xD];exact bE func298 Y ⟨⟨a,cap,x⟩,rfl,rfl,h,Xc.refl _ _,.inl rfl⟩
 have p:=bM n;refine aT Y (λg=>?_) λg=>?_
 .have q:=bL g;have c:Ap x i who=1:=by unfold Ap;rw[bK X]
  rw[c,f 1 c xD];exact bE func298 Y ⟨⟨a,cap,x⟩,rfl,rfl,h,Xc.refl _ _,.inl rfl⟩
 have q:=bM g;refine aT Y (λj=>?_) λj=>?_
 .have gw:=bL j;have c:Ap x i who=1:=by unfold Ap;rw[bK X]
  rw[c,f 1 c xD];exact bE func298 Y ⟨⟨a,cap,x⟩,rfl,rfl,h,Xc.refl _ _,.inl rfl⟩
 have gw:=bM j;obtain⟨i,rfl⟩:=XE (show 0<=i by omega);have k:Yf x (i:Int)=x.getD i (-1):=by unfold Yf;rw[bK X];rfl
 obtain⟨b,off,rfl,r⟩:=hr.atm (i:=i) X;refine aU i Y (aW Y r Y ?_);by_cases d:x.getD i (-1)=-1
 .have c:Ap x i who=9:=by unfold Ap;rw[bJ X,bK (by rw[k];exact d)]
  rw[c];exact aM Y (show(x.getD i (-1) == -1)=true by rw[d];rfl) (bE func298 Y ⟨⟨_,cap,x⟩,rfl,(f 9 c xD).symm,h,Xc.refl _ _,.inl rfl⟩)
 .have c:Ap x i who=0:=by unfold Ap;rw[bJ X,bJ (by rw[k];exact d)]
  have ht:By x i who=x.set i who:=by unfold By;rw[c];rfl
  rw[c];refine aI Y (show(x.getD i (-1) == -1)=false by simpa using d) (aP Y (Xcd ⟨_,cap,x⟩ i who w h (show i<x.length by omega)) ?_);rintro _ u ⟨l',rfl,s,m,t,o⟩;exact aN Y (bE func298 Y ⟨l',rfl,by rw[s];exact ht.symm,m,t,o⟩)
variable {l':IL}{ps:List IL}
def Yw(w:dD)(a:Option dF):Prop:=∀b off s,a=some ⟨b,off,s⟩->b<w.heap.size
def Bg(w:dD)(a:Option dF):Prop:=∀b off s,a=some ⟨b,off,s⟩->w.heap.size<=b
structure Q9(w:dD)(l:IL):Prop where
 ok:Ce w l
 cap:l.x.length<=l.cap
 lt:Yw w l.a
theorem Yw.bQ(h:Yw w a)(hs:w.heap.size<=w'.heap.size):Yw w' a:=λb off s e=>xH (h b off s e)
theorem Q9.bQ{w w':dD}{l:IL}(h:Q9 w l)(hc:Xc Xf w w'):Q9 w' l:=⟨h.ok.bQ hc,h.cap,h.lt.bQ hc.size⟩
theorem Q9.bW{w w':dD}{l:IL}{S:Nat->Prop}(h:Q9 w l)(hs:Xj S l.a)(hc:Xc S w w'):Q9 w' l:=⟨h.ok.bW hs hc,h.cap,h.lt.bQ hc.size⟩
theorem Yw.out(h:Yw w a)(hs:∀z,S z->w.heap.size<=z):Xj S a:=λb off s e c=>by
 have:=h b off s e;have:=hs b c;omega
theorem Bg.out(h:Bg w a)(hs:∀z,S z->z<w.heap.size):Xj S a:=λb off s e c=>by
 have:=h b off s e;have:=hs b c;omega
theorem Bg.dC(h:Bg w' a)(hs:w.heap.size<=w'.heap.size):Bg w a:=λb off s e=>xH (h b off s e)
theorem Rd.cellsA{k:IntKind}{x:List Int}(h:Rd k w a x):∀i u,(x.map (Value.int k))[i]?=some u -> ∃a',a=some a'/\w.cell? (a'.add i)=some u:=λi u c=>by
 have hi:i<x.length:=by have:=(XC.1 c).1;simpa using this
 obtain⟨b,off,rfl,_⟩:=h i hi;exact⟨_,rfl,h.cells i u c⟩
theorem Rd.noneA{x:List Int}{k:IntKind}(h:Rd k w a x):a=none->x.length=0:=λe=>by
 cases x with
 |nil=>rfl
 |cons z r=>
  obtain⟨b,off,e',_⟩:=h 0 xS;rw[e] at e';cases e'
theorem Xm.il{x:List Int}(h:Xm base 3 1 w v m (x.map W))(hm:x.length=m)(hx:x.length<=512):∃l:IL,v=Xq l/\l.x=x/\Q9 w l/\∀b off s,l.a=some ⟨b,off,s⟩->base<=b:=by
 rcases h.2 with⟨rfl,j⟩|⟨g,cap,cur,rfl,f,c,a,i,_,d⟩
 .have:x=[]:=ZZ.1 X;subst this;exact⟨⟨none,0,[]⟩,rfl,rfl,⟨⟨Rd.nil _ _ _,hx⟩,XF _,(by intro b off s e;cases e)⟩,(by intro b off s e;cases e)⟩
 .subst hm;exact⟨⟨some ⟨g,0,none⟩,cap,x⟩,rfl,rfl,⟨⟨Rd.of_take c (xU d),hx⟩,a,(by intro b off s e;cases e;exact Xg c)⟩,(by intro b off s e;cases e;exact f)⟩
theorem Xm.one{t:TypeId}{u:dE}(hb:base<=b)(h:w.heap[b]?=some (.cells #[u] t (0,0))):Xm base t 1 w (.slice (some ⟨b,0,none⟩) 1 1) 1 [u]:=
 ⟨xS,.inr ⟨b,1,#[u],rfl,hb,h,XF _,xD,xS,xS⟩⟩
structure RP where
 o:IL
 f:IL
def Dg(r:RP):List dE:=[Xq r.o,Xq r.f]
structure At(w:dD)(r:RP)(pl:PlM):Prop where
 o:Q9 w r.o
 f:Q9 w r.f
 eo:r.o.x=pl.own
 ef:r.f.x=pl.free.map (λn:Nat=>(n:Int))
theorem At.bQ{w w':dD}{r:RP}{pl:PlM}(h:At w r pl)(hc:Xc Xf w w'):At w' r pl:=⟨h.o.bQ hc,h.f.bQ hc,h.eo,h.ef⟩
theorem Xgo(o f:IL)(i:Nat)(v:Int)(w:dD)(h:Q9 w o)(hf:Q9 w f)(hi:i<o.x.length):Xe prog 299 #[.agg (Dg ⟨o,f⟩).toArray,W i,W v] w
 (λu w'=>∃l':IL,u=.agg (Dg ⟨l',f⟩).toArray/\l'.x=o.x.set i v/\Q9 w' l'/\Bg w l'.a/\Xc Xf w w'):=by
 obtain⟨a,cap,x⟩:=o;have hl:=h.ok.len;have hr:=h.ok.rd;simp only at hl hr hi
 have a8:maxLen=9223372036854775807:=rfl;obtain⟨b,off,rfl,hc⟩:=hr i hi;refine aR func299 ntmps299 Y (bC Y λpb w1 e1 d c a9=>bC Y λqb L e2 M j aa=>?_);replace d:w1.heap[pb]?=some (.cells ([.slice (some ⟨b,off,none⟩) x.length cap,Xq f]:List dE).toArray 34 (0,0)):=d;refine Xa.buildSlice Xb rfl λb3 w3 e3 N k ab=>aN Y ?_;have l:=j.trans k;have A:=c.trans l;refine bB (l.bP d) Y ?_;have O:Xm L.heap.size 3 1 w3 (.slice (some ⟨b3,0,none⟩) 0 0) 0 []:=Xm.empty X N;refine Xa.appendA (base:=L.heap.size) (xs:=[]) (news:=x.map W) Xb rfl O k.size (λe=>by cases e) xS (hr.bR A).cellsA Jh xP λv4 w4 P Q ac=>aN Y ?_;have m:=O.bU k (XF _) Q;obtain⟨g,B,cur,rfl,ad,R,S,ae,T⟩:=P.form X;have n:cur.toList=x.map W++cur.toList.drop x.length:=by
  have e:=XY x.length cur.toList;rw[show cur.toList.take x.length=x.map W from by simpa using T] at e;exact e.symm
 obtain⟨rest,r⟩:∃rest,rest=cur.toList.drop x.length:=⟨_,rfl⟩;rw[<-r] at n;have C:w4.heap[g]?=some (.cells (x.map W++rest).toArray 3 (0,0)):=by rw[<-n];exact R
 have U:0+x.length=x.length:=X
 rw[U] at S⊢;refine aU i Y (aL Y C (show Ya (x.map W++rest) (0+i) [W v]=some ((x.set i v).map W++rest) from by rw[XT,Kc _ _ _ xQ,YO _ _ (xU hi),ZW]) Y λw5 D p af=>?_);have V:(x.set i v).length=x.length:=xS
 have E:=p.heap (m.bP (j.bP d)) (show ¬pb=g by omega);have F:=p.heap (m.bP M) (show ¬qb=g by omega);refine bF E Y λw6 G q ag=>bB G Y ?_;have H:=q.heap F X;refine bF H Y λw7 I t ah=>?_;have y:=t.heap (q.heap D X) X;have J:Xc Xf w w5:=((c.trans j).trans m).bU p (λz hz e=>xH c.size);have K:Xc Xf w w7:=(J.sn q).bU t (λz hz e=>xH c.size);exact aK func299 I Y ⟨⟨some ⟨g,0,none⟩,B,x.set i v⟩,by show _=Value.agg [Value.slice _ (x.set i v).length _,_].toArray;rw[V];rfl,rfl,⟨⟨Rd.of_take y xS,xP⟩,xP,(by intro b off s e;cases e;exact Xg y)⟩,(by intro b off s e;cases e;have:=c.size;omega),K⟩
def IL.sl(l:IL)(lo hi:Nat):IL:=⟨Ae l.a l.cap lo 1,l.cap-lo,(l.x.drop lo).take (hi-lo)⟩
theorem XcF{l:Nat}{off:Nat}{s:Option Nat}(h:Ae a cap l sz=some ⟨b,off,s⟩):∃off' s',a=some ⟨b,off',s'⟩:=by
 unfold Ae at h;by_cases c:cap=l
 .rw[bK c] at h;exact⟨off,s,h⟩
 .rw[bJ c] at h;cases a with
  |none=>cases h
  |some x=>
   obtain⟨xb,xo,xs⟩:=x;simp only[QZ,Option.some.injEq] at h;unfold Addr.add at h;refine⟨xo,xs,?_⟩;have d:xb=b:=by split at h <;> (cases h;rfl)
   rw[d]
theorem IL.sl_out{l:IL}{hi:Nat}(h:Xj S l.a):Xj S (l.sl lo hi).a:=λb off s e=>by
 obtain⟨off',s',e'⟩:=XcF e;exact h b off' s' e'
theorem Q9.sl{l:IL}(h:Q9 w l){hi:Nat}(h1:lo<=hi)(h2:hi<=l.x.length):Q9 w (l.sl lo hi)/\(l.sl lo hi).x.length=hi-lo:=by
 have a:((l.x.drop lo).take (hi-lo)).length=hi-lo:=by rw[XX,QK];omega
 have c:=h.cap;have d:=h.ok.len;refine⟨⟨⟨h.ok.rd.shift X c,by show((l.x.drop lo).take (hi-lo)).length<=512;omega⟩,by show((l.x.drop lo).take (hi-lo)).length<=l.cap-lo;omega,λb off s e=>?_⟩,a⟩;obtain⟨off',s',e'⟩:=XcF e;exact h.lt b off' s' e'
theorem XjF(y:List Int)(z:Int):((z::y).drop 1).take ((z::y).length-1)=y:=xS
theorem Xml(r:RP)(who:Int)(pl:PlM)(w:dD)(h:At w r pl)(hw0:0<=who)(hf:pl.free=[]):Xe prog 257 #[.agg (Dg r).toArray,W who] w (Grow (.tuple #[.agg (Dg r).toArray,W 0,W 5]) w):=by
 have f:r.f.x.length=0:=by rw[h.ef,hf];rfl
 refine aR func257 ntmps257 Y (bC Y λpb n e1 g b k=>bC Y λqb o e2 i c l=>?_);have a:=c.bP g;refine aS Y (bB a Y (aM Y (by rw[f];rfl) (bB a Y (bF i Y λp d j m=>?_))));exact aK func257 d Y ⟨rfl,(b.trans c).bU j (λz q e=>xH b.size)⟩
theorem Xgn(r:RP)(who:Int)(pl:PlM)(n:Nat)(t:List Nat)(w:dD)(h:At w r pl)(hg:pl.Good)(hw0:0<=who)(hf:pl.free=n::t):Xe prog 257 #[.agg (Dg r).toArray,W who] w
 (λv w'=>∃l:IL,v=.tuple #[.agg (Dg ⟨l,r.f.sl 1 r.f.x.length⟩).toArray,W n,W 0]/\At w' ⟨l,r.f.sl 1 r.f.x.length⟩ (pl.take who)/\Bg w l.a/\Xc Xf w w'):=by
 obtain⟨o,f⟩:=r;have b:=h.ef;rw[hf] at b;simp only[ZL] at b;have B:f.x.length=t.length+1:=by rw[b];simp
 obtain⟨U,_⟩:=hg.free n (by rw[hf];simp);have J:n<o.x.length:=by have:=h.eo;simp only at this;rw[this];exact U
 have g:=h.f;simp only at g
 have F:=g.cap;obtain⟨fb,foff,C,i⟩:=g.ok.rd 0 X;have K:f.x.getD 0 0=n:=by rw[b];rfl
 rw[K] at i;obtain⟨fa,fcap,fx⟩:=f;simp only at C i b B F
 subst C;refine aR func257 ntmps257 Y (bC Y λpb V e1 k L a1=>bC Y λqb w2 e2 M D a2=>?_);replace k:V.heap[pb]?=some (.cells ([Xq o,.slice (some ⟨fb,foff,none⟩) fx.length fcap]:List dE).toArray 34 (0,0)):=k;have c:=D.bP k;have a:=L.trans D;refine Xa.no Xb rfl (bO X) rfl ?_;refine Xa.cJ Xb rfl c rfl rfl ?_;refine Xa.no Xb rfl (by rw[B];simp;omega) rfl ?_;refine Xa.cJ Xb rfl c rfl rfl ?_;refine Xa.index Xb rfl (j:=0) X X (by first|rfl|omega|(simp;done)|(simp;omega)) rfl ?_;refine aW Y (a.cell i id) Y (bB c Y (aP Y (Xgo o ⟨some ⟨fb,foff,none⟩,fcap,fx⟩ n who w2 (h.o.bQ a) (g.bQ a) J) ?_));rintro _ w3 ⟨l,rfl,N,O,E,m⟩;refine aN Y ?_;refine bC Y λtb w4 e4 P Q a3=>bF P Y λw5 G R a4=>?_;have p:=Q.sn R;refine bB (p.bP (m.bP c)) Y (Xa.slice Xb rfl (l:=1) (h:=fx.length) (by first|rfl|omega|simp[Dx]) (by first|rfl|omega|simp[Dr]) X X rfl (bF G Y λw6 q S a5=>?_));have d:=p.sn S;obtain⟨s,H⟩:=g.sl (lo:=1) (hi:=fx.length) X (XF _);obtain⟨f',u⟩:∃f':IL,f'=(⟨some ⟨fb,foff,none⟩,fcap,fx⟩:IL).sl 1 fx.length:=⟨_,rfl⟩;have T:Xq f'=.slice (Ae (some ⟨fb,foff,none⟩) fcap 1 1) (fx.length-1) (fcap-1):=by rw[u];show Value.slice _ ((fx.drop 1).take (fx.length-1)).length _=_;rw[XX,QK,Nat.min_self];rfl
 rw[<-T] at q;rw[<-u] at s H⊢;refine bB q Y ?_;have x:=(a.trans m).trans d;have ee:pl.take who=⟨pl.own.set n who,t⟩:=by unfold PlM.take;rw[hf]
 exact bF (d.bP (m.bP M)) Y λw7 I y a6=>aK func257 I Y ⟨l,rfl,⟨((O.bQ d).bW (E.out (λz A=>X)) y),((s.bQ x).bW (s.lt.out (λz A=>X)) y),by rw[ee];show l.x=pl.own.set n who;rw[N];have:=h.eo;simp only at this;rw[this],by rw[ee,u];show(fx.drop 1).take (fx.length-1)=t.map _;rw[b];exact XjF _ _⟩,E.dC a.size,x.sn y⟩
theorem Xgm(r:RP)(n:Nat)(pl:PlM)(w:dD)(h:At w r pl)(hg:pl.Good)(hn:n<pl.own.length)(ho:pl.own.getD n 0≠-1):Xe prog 260 #[.agg (Dg r).toArray,W n] w
 (λv w'=>∃r',v=.tuple #[.agg (Dg r').toArray,W 0]/\At w' r' (pl.give n)/\Bg w r'.o.a/\Bg w r'.f.a/\Xc Xf w w'):=by
 obtain⟨o,f⟩:=r;have c:=h.eo;have m:=h.ef;simp only at c m
 have C:=h.o.ok.len;have U:=h.f.ok.len;simp only at C U
 have p:n<o.x.length:=by rw[c];exact hn
 have ag:=(hg.give hn ho).many;have aa:f.x.length=pl.free.length:=by rw[m];simp
 have ah:f.x.length+1<=512:=by
  have e1:(pl.give n).free.length=pl.free.length+1:=rfl;have e2:(pl.give n).own.length=pl.own.length:=by show(pl.own.set n (-1)).length=_;simp
  have e3:o.x.length=pl.own.length:=by rw[c]
  omega
 have M:=h.o;simp only at M
 obtain⟨ob,ooff,D,E⟩:=M.ok.rd n p;have F:o.x.getD n 0≠-1:=by rw[c];exact ho
 have ai:maxLen=9223372036854775807:=rfl;obtain⟨oa,ocap,ox⟩:=o;simp only at D E C p F c
 subst D;refine aR func260 ntmps260 Y (bC Y λpb w1 e1 q V aj=>bC Y λqb w2 e2 a1 G ak=>?_);replace q:w1.heap[pb]?=some (.cells ([.slice (some ⟨ob,ooff,none⟩) ox.length ocap,Xq f]:List dE).toArray 34 (0,0)):=q;have d:=G.bP q;have a:=V.trans G;refine Xa.no Xb rfl (bO X) rfl ?_;refine Xa.cJ Xb rfl d rfl rfl ?_;refine Xa.no Xb rfl (bO X) rfl ?_;refine bB d Y (aU n Y (aW Y (a.cell E id) Y (aI Y (xU F) (bB d Y (aP Y (Xgo ⟨some ⟨ob,ooff,none⟩,ocap,ox⟩ f n (-1) w2 (M.bQ a) (h.f.bQ a) p) ?_)))));rintro _ w3 ⟨l,rfl,a2,a3,H,g⟩;have I:=a.size;have al:=g.size;refine aN Y (bC Y λtb w4 e4 a4 a5 am=>bF a4 Y λN O a6 an=>?_);have i:=a5.sn a6;refine Xa.buildSlice Xb rfl λb6 w6 e6 a7 k ao=>aN Y ?_;refine bB (k.bP (i.bP (g.bP d))) Y ?_;have J:Xm N.heap.size 3 1 w6 (.slice (some ⟨b6,0,none⟩) 1 1) 1 [W n]:=Xm.one X a7;have u:=h.f.ok.rd;simp only at u
 refine Xa.appendA (base:=N.heap.size) (xs:=[W n]) (news:=f.x.map W) Xb rfl J k.size u.noneA xS (u.bR (((a.trans g).trans i).trans k)).cellsA Jh xP λv7 w7 a8 a9 ap=>aN Y ?_;have y:=J.bU k (XF _) a9;obtain⟨fl,P,Q,R,A⟩:=Xm.il (x:=(n:Int)::f.x) (show Xm N.heap.size 3 1 w7 v7 (1+f.x.length) (((n:Int)::f.x).map W) from a8) xQ xQ;subst P;refine bF (y.bP O) Y λw8 S K aq=>bB S Y ?_;have j:=(i.trans y).sn K;refine bF (j.bP (g.bP a1)) Y λw9 T B ar=>?_;have L:Bg w2 fl.a:=λb off s e=>xH (A b off s e)
 exact aK func260 T Y ⟨⟨l,fl⟩,rfl,⟨((a3.bQ j).bW (H.out (λz t=>X)) B),((R.bW (by intro b off s e t;have:=A b off s e;omega) K).bW (L.out (λz t=>X)) B),by show l.x=pl.own.set n (-1);rw[a2,<-c],by show fl.x=(n::pl.free).map _;rw[Q,m];rfl⟩,H.dC I,L.dC I,((a.trans g).trans j).sn B⟩
theorem Xm.isSlice{size:Nat}(h:Xm base t size w v m xs):∃a n c,v=.slice a n c:=by
 rcases h.2 with⟨h,_⟩|⟨g,cap,cur,h,_⟩
 .exact⟨_,_,_,h⟩
 .exact⟨_,_,_,h⟩
theorem Xl4(i:Nat):((List.range (i+1)).map (λn:Nat=>(n:Int))).map W=((List.range i).map (λn:Nat=>(n:Int))).map W++[W (i:Int)]:=by
 rw[YQ,XM,XM];rfl
theorem Xmk(N:Nat)(w:dD)(hN:1<=N/\N<=512):Xe prog 195 #[W N] w
 (λv w'=>∃r,v=.tuple #[.agg (Dg r).toArray,W 0]/\At w' r (D0 N)/\Bg w r.o.a/\Bg w r.f.a/\Xc Xf w w'):=by
 have aq:maxLen=9223372036854775807:=rfl;refine aR func195 ntmps195 Y (bC Y λqb w1 e1 ab t ar=>bC Y λtb q e2 ac S au=>?_);have a0:=t.trans S;refine aS Y (aS Y ?_);refine Xa.loop (α:=Nat×dE×dE) (λp=>[(0,false,W N),(2,false,xV qb),(4,false,xV tb),(5,false,W p.1)])
  (λp w'=>p.1<=N/\w'.heap[tb]?=some (.cells ([p.2.1,p.2.2]:List dE).toArray 34 (0,0))/\Xm q.heap.size 3 1 w' p.2.1 p.1 ((List.replicate p.1 (-1)).map W)/\Xm q.heap.size 3 1 w' p.2.2 p.1 (((List.range p.1).map (λn:Nat=>(n:Int))).map W)/\(∀b,some b=p.2.1.ownBlock->some b≠p.2.2.ownBlock)/\Xc (λz=>z=tb) q w')
  (λp=>N-p.1) (0,.slice none 0 0,.slice none 0 0) ⟨rfl,rfl,rfl,rfl,trivial⟩ ⟨XQ _,ac,World.ownsRow_nil _ _ _ _,World.ownsRow_nil _ _ _ _,(λb h=>by cases h),Xc.refl _ _⟩ ?_
 rintro⟨i,vo,vf⟩ w3 ⟨hi,c,u,y,A,k⟩ ih;simp only at hi c u y A
 have ak:=k.size;refine aN Y (aT Y (λhc=>?_) λhc=>?_)
 .have ad:i<N:=xH (bL hc)
  refine bB c Y (Xa.buildSlice Xb rfl λb4 w4 e4 ae l af=>aN Y ?_);have d:=u.bR l (λ_ _ h=>h);have B:=y.bR l (λ_ _ h=>h);refine Xa.append (base:=q.heap.size) (xs:=(List.replicate i (-1)).map W) (news:=[W (-1)]) Xb rfl d X xS (Hs ae) (by simp[Value.oneCell']) xP ?_;intro vo' w5 f m ag;obtain⟨C,D,E,rfl⟩:=Xm.isSlice f;have av:=m.size;have F:=B.bR m (λb a e=>A b e a);refine aN Y (bF (m.heap (l.bP c) (λe=>xH (World.ownsRow.lt d tb (Eq.symm e)).1)) Y λw6 G H aw=>?_);have I:∀b,some b=(Value.slice C D E).ownBlock->some b≠vf.ownBlock:=λb a e=>by
   rcases ag.2 with h|h
   .exact A b (a.trans h) e
   .rw[h] at a;have e1:=Option.some.inj a;have:=(World.ownsRow.lt B b e.symm).2;omega
  refine bB G Y (Xa.buildSlice Xb rfl λb7 w7 e7 ah o ax=>aN Y ?_);have J:=(f.bR H (λb a e=>xH (World.ownsRow.lt f b a.symm).1)).bR o (λ_ _ h=>h);have g:=(F.bR H (λb a e=>xH (World.ownsRow.lt F b a.symm).1)).bR o (λ_ _ h=>h);refine Xa.append (base:=q.heap.size) (xs:=((List.range i).map (λn:Nat=>(n:Int))).map W) (news:=[W (i:Int)]) Xb rfl g X xS (Hs ah) (by simp[Value.oneCell']) xP ?_;intro vf' w8 j K ai;obtain⟨T,U,V,rfl⟩:=Xm.isSlice j;have L:=J.bR K (λb a e=>I b a e);refine aN Y (bF (K.heap (o.bP G) (λe=>xH (World.ownsRow.lt g tb (Eq.symm e)).1)) Y λw9 a2 M ay=>?_);have a3:∀b,some b=(Value.slice C D E).ownBlock->some b≠(Value.slice T U V).ownBlock:=λb a e=>by
   rcases ai.2 with h|h
   .exact I b a (e.trans h)
   .rw[h] at e;have e1:=Option.some.inj e;have:=(World.ownsRow.lt J b a.symm).2;omega
  have hS:Xc (λz=>z=tb) q w9:=by
   exact(((((k.trans l.gr).bU m (λz O e=>xH (World.ownsRow.lt d z (Eq.symm e)).1)).trans H).trans (o.mono (λ_ _ h=>h.elim):Xc (λz=>z=tb) w6 w7)).bU K (λz O e=>xH (World.ownsRow.lt g z (Eq.symm e)).1)).trans M
  refine aV Y ?_;exact ih (i+1,.slice C D E,.slice T U V) _ _ ⟨ad,a2,by
   have e:(List.replicate (i+1) (-1:Int)).map W=(List.replicate i (-1)).map W++[W (-1)]:=by rw[List.replicate_succ',XM];rfl
   rw[e];exact(L.bR M (λb a e=>xH (World.ownsRow.lt L b a.symm).1)),by rw[Xl4];exact(j.bR M (λb a e=>xH (World.ownsRow.lt j b a.symm).1)),a3,hS⟩ xP ⟨rfl,rfl,rfl,rfl,trivial⟩
 .have aj:i=N:=xH (bM hc)
  subst aj;obtain⟨ol,a4,a5,a6,P⟩:=Xm.il (x:=List.replicate i (-1)) u xS xQ;obtain⟨fl,a7,a8,a9,Q⟩:=Xm.il (x:=(List.range i).map (λn:Nat=>(n:Int))) y xS xQ;subst a4;subst a7;refine bB c Y ?_;refine bF (k.heap (S.bP ab) (show ¬qb=tb by omega)) Y λw4 aa R af=>?_;exact aK func195 aa Y ⟨⟨ol,fl⟩,rfl,⟨a6.bW (by intro b off s e O;have:=P b off s e;omega) R,a9.bW (by intro b off s e O;have:=Q b off s e;omega) R,a5,a8⟩,λb off s e=>xH (P b off s e),λb off s e=>xH (Q b off s e),(a0.bU k (λz O e=>xH t.size)).bU R (λz O e=>xH t.size)⟩
structure RS where
 p:RP
 cL:Int
 cF:Nat
 cP:IL
 pa:Option dF
 pcap:Nat
 ps:List IL
 cG:IL
def Ze(r:RS):List dE:=[Xq r.p.o,Xq r.p.f,.int .i64 r.cL,.int .i64 (r.cF:Int),Xq r.cP,.slice r.pa r.ps.length r.pcap,Xq r.cG]
def D8(w:dD)(a:Option dF)(ps:List IL):Prop:=∀(i:Nat) (l:IL),ps[i]?=some l -> ∃b off,a=some ⟨b,off,none⟩/\w.cell? ⟨b,off+i,none⟩=some (Xq l)
theorem D8.bQ(h:D8 w a ps)(hc:Xc Xf w w'):D8 w' a ps:=λi l d=>by
 obtain⟨b,off,e,c⟩:=h i l d;exact⟨b,off,e,hc.cell c id⟩
theorem D8.bW(h:D8 w a ps)(hs:Xj S a)(hc:Xc S w w'):D8 w' a ps:=λi l d=>by
 obtain⟨b,off,e,c⟩:=h i l d;exact⟨b,off,e,hc.cell c (hs b off none e)⟩
theorem D8.noneA(h:D8 w a ps):a=none->ps.length=0:=λe=>by
 cases ps with
 |nil=>rfl
 |cons l r=>
  obtain⟨b,off,e',_⟩:=h 0 l rfl;rw[e] at e';cases e'
theorem D8.cellsA(h:D8 w a ps):∀i u,(ps.map Xq)[i]?=some u -> ∃a',a=some a'/\w.cell? (a'.add i)=some u:=λi u c=>by
 rw[XO,QN] at c;obtain⟨l,d,rfl⟩:=c;obtain⟨b,off,rfl,f⟩:=h i l d;exact⟨_,rfl,by rw[C0];exact f⟩
theorem Vt:∀u∈ps.map Xq,u.oneCell'=true:=λu a=>by
 obtain⟨l,_,rfl⟩:=XP.1 a;rfl
theorem Xm.pl(h:Xm base 22 1 w v m (ps.map Xq))(hm:ps.length=m):∃pa pcap,v=.slice pa ps.length pcap/\D8 w pa ps/\Yw w pa/\ps.length<=pcap/\∀b off s,pa=some ⟨b,off,s⟩->base<=b:=by
 rcases h.2 with⟨rfl,o⟩|⟨g,cap,cur,rfl,k,d,c,n,_,f⟩
 .have:ps=[]:=ZZ.1 X;subst this;exact⟨none,0,rfl,(λi l a=>by simp at a),(by intro b off s e;cases e),XF _,(by intro b off s e;cases e)⟩
 .subst hm;refine⟨some ⟨g,0,none⟩,cap,rfl,λi l a=>⟨g,0,rfl,?_⟩,(by intro b off s e;cases e;exact Xg d),c,(by intro b off s e;cases e;exact k)⟩;have j:(cur.toList.take ps.length)[i]?=(ps.map Xq)[i]?:=by rw[<-f,ZS]
  rw[Y2,bK ((XC.1 a).1),XO,a] at j;rw[Yx d,XT,<-Array.getElem?_toList,j];rfl
structure C8(w:dD)(l:IL):Prop where
 ok:Ce w l
 lt:Yw w l.a
theorem C8.bQ{w w':dD}{l:IL}(h:C8 w l)(hc:Xc Xf w w'):C8 w' l:=⟨h.ok.bQ hc,h.lt.bQ hc.size⟩
theorem C8.bW{w w':dD}{l:IL}{S:Nat->Prop}(h:C8 w l)(hs:Xj S l.a)(hc:Xc S w w'):C8 w' l:=⟨h.ok.bW hs hc,h.lt.bQ hc.size⟩
theorem C8.of{l:IL}(h:Ce w l)(hp:0<l.x.length):C8 w l:=⟨h,λb off s e=>by
 obtain⟨b',off',e',a⟩:=h.rd 0 hp;rw[e] at e';cases e';exact World.block_lt_of_cell? w _ a⟩
theorem Gg.outS{a':Option dF}(h:Gg w a a')(ha:Xj S a)(hs:∀z,S z->z<w.heap.size):Xj S a':=by
 rcases h with rfl|⟨g,off,rfl,d⟩
 .exact ha
 .intro b off' s e c;cases e
  have:=hs _ c;omega
structure Qg(w:dD)(r:RS)(x:Sm)(pl:PlM):Prop where
 p:At w r.p pl
 cP:Q9 w r.cP
 cG:Q9 w r.cG
 rp:D8 w r.pa r.ps
 plt:Yw w r.pa
 pcap:r.ps.length<=r.pcap
 cI:∀l∈r.ps,C8 w l
 e1:r.cL=x.cL
 e2:r.cF=x.cF
 e3:r.cP.x=x.pg.map (λe=>((e.1:Nat):Int))
 e4:r.ps.map (·.x)=x.pg.map (·.2)
 e5:r.cG.x=x.cG.map (λn:Nat=>(n:Int))
structure Yq(S:Nat->Prop)(r:RS):Prop where
 o:Xj S r.p.o.a
 f:Xj S r.p.f.a
 cP:Xj S r.cP.a
 cG:Xj S r.cG.a
 pa:Xj S r.pa
 cI:∀l∈r.ps,Xj S l.a
theorem Qg.bQ{w w':dD}{r:RS}{x:Sm}{pl:PlM}(h:Qg w r x pl)(hc:Xc Xf w w'):Qg w' r x pl:=
 ⟨h.p.bQ hc,h.cP.bQ hc,h.cG.bQ hc,h.rp.bQ hc,h.plt.bQ hc.size,h.pcap,λl a=>(h.cI l a).bQ hc,h.e1,h.e2,h.e3,h.e4,h.e5⟩
theorem Qg.bW{w w':dD}{r:RS}{x:Sm}{pl:PlM}{S:Nat->Prop}(h:Qg w r x pl)(ho:Yq S r)(hc:Xc S w w'):Qg w' r x pl:=
 ⟨⟨h.p.o.bW ho.o hc,h.p.f.bW ho.f hc,h.p.eo,h.p.ef⟩,h.cP.bW ho.cP hc,h.cG.bW ho.cG hc,h.rp.bW ho.pa hc,h.plt.bQ hc.size,h.pcap,λl a=>(h.cI l a).bW (ho.cI l a) hc,h.e1,h.e2,h.e3,h.e4,h.e5⟩
theorem Qg.out{w:dD}{r:RS}{x:Sm}{pl:PlM}{S:Nat->Prop}(h:Qg w r x pl)(hs:∀z,S z->w.heap.size<=z):Yq S r:=
 ⟨h.p.o.lt.out hs,h.p.f.lt.out hs,h.cP.lt.out hs,h.cG.lt.out hs,h.plt.out hs,λl a=>(h.cI l a).lt.out hs⟩
def E2(w:dD)(r r':RS):Prop:=∀S:Nat->Prop,(∀z,S z->z<w.heap.size)->Yq S r->Yq S r'
theorem E2.refl(w:dD)(r:RS):E2 w r r:=λ_ _ h=>h
def Ps(l:List Int)(n:Int):Int:=idx (λm=>m == n) l
theorem Vu{l:PgL}{n:Int}:(Zk l n=none/\Ps (l.map λe=>((e.1:Nat):Int)) n=-1)\/∃(i:Nat) (p:List Int) (m:Nat),n=m/\Zk l n=some p/\Ps (l.map λe=>((e.1:Nat):Int)) n=(i:Int)/\i<l.length/\l[i]?=some (m,p):=by
 cases s:Zk l n with
 |none=>
  refine .inl ⟨rfl,Ij (p:=λm=>m == n) λj b=>?_⟩;rw[YZ];have t:j<l.length:=xU b
  have:=XcG s l[j] (XL t)
  simpa using this
 |some p=>
  right
  have key:∀{l:PgL},Zk l n=some p -> ∃(i m:Nat),n=m/\i<l.length/\l[i]?=some (m,p)/\∀(j:Nat) (h:j<l.length),j<i->((l[j].1:Nat):Int)≠n:=by
   intro l
   induction l with
   |nil=>intro h;cases h
   |cons e r ih=>
    obtain⟨a,q⟩:=e;intro h;unfold Zk at h;by_cases d:(a:Int)=n
    .rw[bK d] at h;cases h;exact⟨0,a,d.symm,xS,rfl,λj _ h=>absurd h (Nat.not_lt_zero _)⟩
    .rw[bJ d] at h;obtain⟨i,m,f,g,c,o⟩:=ih h;refine⟨i+1,m,f,xQ,xU c,λj b k=>?_⟩;cases j with
     |zero=>exact d
     |succ j=>exact o j (xU b) X
  obtain⟨i,m,f,g,c,o⟩:=key s;refine⟨i,p,m,f,rfl,J1 (p:=λm=>m == n) (xU g) (λj b k=>?_) ?_,g,c⟩
  .rw[YZ];have:=o j (xU b) k
   simpa using this
  .rw[YZ];have:l[i]=(m,p):=by rw[XD g] at c;exact Option.some.inj c
   rw[this,f];simp
theorem Pu(r:RS)(n:Int)(w:dD)(h:Q9 w r.cP):Xe prog 264 #[.agg (Ze r).toArray,W n] w (Grow (W (Ps r.cP.x n)) w):=by
 have u:=h.ok.len;refine aR func264 ntmps264 Y (bC Y λrb v e1 s k y=>?_);refine Xa.loop (α:=Nat) (λi=>[(1,false,W n),(2,false,xV rb),(5,false,W i)])
  (λi w'=>i<=r.cP.x.length/\Xc Xf v w'/\∀(j:Nat) (h:j<r.cP.x.length),j<i->(r.cP.x[j] == n)=false) (λi=>r.cP.x.length-i) 0 ⟨rfl,rfl,rfl,trivial⟩ ⟨XQ _,Xc.refl _ _,λ_ _ h=>absurd h (Nat.not_lt_zero _)⟩ ?_
 rintro i x ⟨hi,d,a⟩ ih;have c:=d.bP s;refine aN Y (bB c Y (aT Y (λl=>?_) λl=>?_))
 .have f:i<r.cP.x.length:=xH (bL l)
  obtain⟨b,off,t,g⟩:=(h.ok.rd.bR (k.trans d)) i f;obtain⟨rp,cL,cF,⟨na,ncap,nx⟩,pa,pcap,ps,cG⟩:=r;simp only at t g f a u hi
  subst t;replace c:x.heap[rb]?=some (.cells ([Xq rp.o,Xq rp.f,W cL,W (cF:Int),.slice (some ⟨b,off,none⟩) nx.length ncap,.slice pa ps.length pcap,Xq cG]:List dE).toArray 253 (0,0)):=c;refine bB c Y ?_;refine Xa.index Xb rfl (j:=i) X X (by first|rfl|omega|(simp;done)|(simp;omega)) rfl ?_;refine aW Y g Y ?_;rw[show nx.getD i 0=nx[i] from by rw[XB,XD f];rfl];refine aT Y (λo=>?_) λo=>?_
  .exact bE func264 Y ⟨X0 (J1 (p:=λm=>m == n) f a o).symm,k.trans d⟩
  .refine aV Y ?_;exact ih (i+1) _ _ ⟨f,d,λj q z=>by
    by_cases e:j=i
    .subst e;exact o
    .exact a j q X⟩ xP ⟨rfl,rfl,rfl,trivial⟩
 .have A:i=r.cP.x.length:=xH (bM l)
  exact bE func264 Y ⟨X0 (Ij (p:=λm=>m == n) (λj q=>a j q X)).symm,k.trans d⟩
theorem Xgq(l:IL)(n:Int)(w:dD)(h:Q9 w l):Xe prog 271 #[Xq l,W n] w (λv w'=>∃l':IL,v=Xq l'/\l'.x=l.x.filter (λm=>m != n)/\Q9 w' l'/\Bg w l'.a/\Xc Xf w w'):=by
 obtain⟨a,cap,x⟩:=l;have t:=h.ok.len;have hr:=h.ok.rd;simp only at t hr
 have H:maxLen=9223372036854775807:=rfl;refine aR func271 ntmps271 Y ?_;refine Xa.loop (α:=Nat×dE) (λp=>[(0,false,.slice a x.length cap),(1,false,W n),(5,false,p.2),(6,false,W p.1)])
  (λp w'=>p.1<=x.length/\Xm w.heap.size 3 1 w' p.2 ((x.take p.1).filter (λm=>m != n)).length (((x.take p.1).filter (λm=>m != n)).map W)/\Xc Xf w w') (λp=>x.length-p.1) (0,.slice none 0 0) ⟨rfl,rfl,rfl,rfl,trivial⟩ ⟨XQ _,World.ownsRow_nil _ _ _ _,Xc.refl _ _⟩ ?_
 rintro⟨i,v⟩ L ⟨hi,g,d⟩ ih;simp only at hi g
 refine aN Y (aT Y (λr=>?_) λr=>?_)
 .have f:i<x.length:=xH (bL r)
  obtain⟨b,off,rfl,c⟩:=(hr.bR d) i f;have u:x.getD i 0=x[i]:=by rw[XB,XD f];rfl
  rw[u] at c;have o:x.take (i+1)=x.take i++[x[i]]:=by rw[ZI,XD f];rfl
  refine aU i Y (aW Y c Y (aT Y (λj=>?_) λj=>?_))
  .refine aU i Y (aW Y c Y (Xa.buildSlice Xb rfl λM N e2 y k I=>aN Y ?_));have q:=g.bR k (λ_ _ h=>h);have J:((x.take i).filter (λm=>m != n)).length<=i:=YB (List.length_filter_le _ _) (by rw[XX];omega);have hf:(x.take (i+1)).filter (λm=>m != n)=(x.take i).filter (λm=>m != n)++[x[i]]:=by rw[o,QP,ZJ,bK j];rfl
   exact Xa.append (base:=w.heap.size) (xs:=((x.take i).filter (λm=>m != n)).map W) (news:=[W x[i]]) Xb rfl q (xI d.size k.size) xS (Hs y) (by simp[Value.oneCell']) xP λC O z A K=>aN Y (aV Y (ih (i+1,C) _ _ ⟨f,by simp only;rw[hf,ZE,XM];exact z,q.bU (d.trans k) (XF _) A⟩ xP ⟨rfl,rfl,rfl,rfl,trivial⟩))
  .have hf:(x.take (i+1)).filter (λm=>m != n)=(x.take i).filter (λm=>m != n):=by rw[o,QP,ZJ,bJ (by rw[j];decide)];simp
   exact aV Y (ih (i+1,v) _ _ ⟨f,by simp only;rw[hf];exact g,d⟩ xP ⟨rfl,rfl,rfl,rfl,trivial⟩)
 .have B:i=x.length:=xH (bM r)
  subst B;rw[ZM] at g;obtain⟨l',D,E,F,G⟩:=Xm.il g rfl (YB (List.length_filter_le _ _) t);subst D;exact bE func271 Y ⟨l',rfl,E,F,λb off s e=>G b off s e,d⟩
theorem Xce(r:RS)(i:Nat)(p:IL)(w:dD)(hrp:D8 w r.pa r.ps)(hi:i<r.ps.length)(hl:r.ps.length<=512):Xe prog 270 #[.agg (Ze r).toArray,W i,Xq p] w
 (λv w'=>∃pa' pcap',v=.agg (Ze {r with pa:=pa',pcap:=pcap',ps:=r.ps.set i p}).toArray/\D8 w' pa' (r.ps.set i p)/\Yw w' pa'/\(r.ps.set i p).length<=pcap'/\Bg w pa'/\Xc Xf w w'):=by
 have a7:maxLen=9223372036854775807:=rfl;obtain⟨rp,cL,cF,cP,pa,pcap,ps,cG⟩:=r;simp only at hi hl hrp
 refine aR func270 ntmps270 Y (bC Y λrb w1 e1 c a a8=>bC Y λqb K e2 L d a9=>?_);replace c:w1.heap[rb]?=some (.cells ([Xq rp.o,Xq rp.f,W cL,W (cF:Int),Xq cP,.slice pa ps.length pcap,Xq cG]:List dE).toArray 253 (0,0)):=c;refine Xa.buildSlice Xb rfl λb3 w3 e3 M f aa=>aN Y ?_;have h:=d.trans f;have y:=a.trans h;refine bB (h.bP c) Y ?_;have N:Xm K.heap.size 22 1 w3 (.slice (some ⟨b3,0,none⟩) 0 0) 0 []:=Xm.empty X M;refine Xa.appendA (base:=K.heap.size) (xs:=[]) (news:=ps.map Xq) Xb rfl N f.size hrp.noneA xS (hrp.bQ y).cellsA Vt xP λv4 w4 O P ab=>aN Y ?_;have k:=N.bU f (XF _) P;obtain⟨g,A,cur,rfl,ac,Q,R,ad,S⟩:=O.form X;have m:cur.toList=ps.map Xq++cur.toList.drop ps.length:=by
  have e:=XY ps.length cur.toList;rw[show cur.toList.take ps.length=ps.map Xq from by simpa using S] at e;exact e.symm
 obtain⟨rest,q⟩:∃rest,rest=cur.toList.drop ps.length:=⟨_,rfl⟩;rw[<-q] at m;have B:w4.heap[g]?=some (.cells (ps.map Xq++rest).toArray 22 (0,0)):=by rw[<-m];exact Q
 have T:0+ps.length=ps.length:=X
 rw[T] at R⊢;refine aU i Y (aL Y B (show Ya (ps.map Xq++rest) (0+i) [Xq p]=some ((ps.set i p).map Xq++rest) from by rw[XT,Kc _ _ _ xQ,YO _ _ (xU hi),ZW]) Y λw5 C n ae=>?_);have t:(ps.set i p).length=ps.length:=xS
 have D:=n.heap (k.bP (d.bP c)) (show ¬rb=g by omega);have E:=n.heap (k.bP L) (show ¬qb=g by omega);refine bF D Y λw6 F o af=>bB F Y ?_;have G:=o.heap E X;refine bF G Y λw7 H u ag=>?_;have x:=u.heap (o.heap C X) X;have I:Xc Xf w w5:=((a.trans d).trans k).bU n (λz U e=>xH a.size);have J:Xc Xf w w7:=(I.sn o).bU u (λz U e=>xH a.size);exact bD rfl func270 (Xi.cell rfl rfl rfl H rfl .nil) ⟨some ⟨g,0,none⟩,A,by show _=Value.agg [_,_,_,_,_,Value.slice _ (ps.set i p).length _,_].toArray;rw[t];rfl,λj l V=>⟨g,0,rfl,by
  have a0:j<ps.length:=by have:=(XC.1 V).1;simpa using this
  rw[Yx x,XT,QA,ZA (xU a0),XO,V];rfl⟩,(by intro b off s e;cases e;exact Xg x),by rw[t];omega,(by intro b off s e;cases e;have:=a.size;omega),J⟩
theorem Xn7{l:PgL}{q:List Int}(hn:(l.map (·.1)).Nodup)(hi:l[i]?=some (m,q)):Zx l m p=l.set i (m,p):=by
 have a:=(XC.1 hi).1;refine QH λj=>?_;unfold Zx;rw[XO,YE];by_cases h:i=j
 .subst h;rw[bK rfl,bK a,hi]
  simp
 .rw[bJ h];cases c:l[j]? with
  |none=>rfl
  |some e=>
   have b:e.1≠m:=λe'=>by
    have d:(l.map (·.1))[i]?=some m:=by rw[XO,hi];rfl
    have f:(l.map (·.1))[j]?=some m:=by rw[XO,c,<-e'];rfl
    exact h ((List.getElem?_inj (xU a) hn).1 (d.trans f.symm))
   simp[b]
theorem Xhp{l:PgL}{q:List Int}(hn:(l.map (·.1)).Nodup)(hi:l[i]?=some (m,q)):Qz l m=l.take i++l.drop (i+1):=by
 have a:=(XC.1 hi).1;have d:l[i]=(m,q):=by rw[XD a] at hi;exact Option.some.inj hi
 have f:l=l.take i++(m,q)::l.drop (i+1):=by
  conv=>lhs;rw[<-XY i l]
  rw[ZT a,d]
 have b:=hn;rw[f,XM,ZL] at b;obtain⟨k,g,h⟩:=XR.1 b;obtain⟨j,_⟩:=XV.1 g
 conv=>lhs;rw[f]
 unfold Qz;rw[QP,ZJ];simp only[bne_self_eq_false,ZP,if_false];rw[YR.2 (λe c=>by simp only[bne_iff_ne,ne_eq];exact λe'=>h e.1 (XP.2 ⟨e,c,rfl⟩) m xS e'),YR.2 (λe c=>by simp only[bne_iff_ne,ne_eq];exact λe'=>j (XP.2 ⟨e,c,e'⟩))]
theorem Qg.get{r:RS}{pl:PlM}(h:Qg w r x pl)(hi:x.pg[i]?=some (m,p)):∃l,r.ps[i]?=some l/\l.x=p/\C8 w l:=by
 have a:(x.pg.map (·.2))[i]?=some p:=by rw[XO,hi];rfl
 rw[<-h.e4,XO,QN] at a;obtain⟨l,b,c⟩:=a;exact⟨l,b,c,h.cI l (XW b)⟩
theorem Qg.plen{r:RS}{pl:PlM}(h:Qg w r x pl):r.ps.length=x.pg.length:=by
 have:=congrArg List.length h.e4
 simpa using this
theorem Qg.few{r:RS}{pl:PlM}(h:Qg w r x pl)(hok:x.Ok)(hof:x.Of pl):x.pg.length<=512/\x.cG.length<=512/\pl.own.length<=512:=by
 have b:=h.p.o.ok.len;rw[h.p.eo] at b;have c:=Ls _ _ hok.nodup (λn a=>by obtain⟨e,d,rfl⟩:=XP.1 a;exact(hof e d).1);rw[XU] at c;have g:=Ls pl.own.length x.cG hok.onodup (λn a=>by obtain⟨p,f⟩:=hok.osub n a;exact(hof _ f).1);exact⟨X,X,b⟩
theorem XmF(r:RS)(x:Sm)(pl:PlM)(w:dD)(h:Qg w r x pl)(hok:x.Ok)(hf:pl.free=[]):Xe prog 268 #[.agg (Ze r).toArray] w (Grow (.tuple #[.agg (Ze r).toArray,W 5]) w):=by
 have j:0<=r.cL:=by rw[h.e1];exact hok.cL
 refine aR func268 ntmps268 Y (bC Y λrb D e1 k d u=>bC Y λqb q e2 l f v=>?_);have a:=f.bP k;have c:=d.trans f;refine bB a Y (bB a Y (bG (Xml r.p r.cL pl q (h.p.bQ c) j hf) Y λE g=>bC Y λtb F e4 m n y=>bF m Y λG s o A=>?_));have B:=g.size;have b:=(g.trans n).sn o;refine bI Y (bB (b.bP a) Y (bF (b.bP l) Y λH i p C=>?_));exact aK func268 i Y ⟨rfl,(c.trans b).bU p (λz t e=>xH d.size)⟩
theorem XmE(r:RS)(x:Sm)(pl:PlM)(n:Nat)(t:List Nat)(w:dD)(h:Qg w r x pl)(hok:x.Ok)(hof:x.Of pl)(hg:pl.Good)(hf:pl.free=n::t):Xe prog 268 #[.agg (Ze r).toArray] w
 (λv w'=>∃r',v=.tuple #[.agg (Ze r').toArray,W 0]/\Qg w' r' (x.fresh n) (pl.take x.cL)/\E2 w r r'/\Xc Xf w w'):=by
 have bt:=hok.blk;have dk:maxLen=9223372036854775807:=rfl;obtain⟨cu,cv,cw⟩:=h.few hok hof;have a3:=O3 hok hof hg (n:=n) (by rw[hf];simp);have bu:n∉x.cG:=λhm=>by obtain⟨p,hp⟩:=hok.osub n hm;exact a3 (XP.2 ⟨_,hp,rfl⟩)
 obtain⟨av,_⟩:=hg.free n (by rw[hf];simp);have cx:x.pg.length+1<=512:=by
  have:(n::x.pg.map (·.1)).length<=pl.own.length:=Ls _ _ (XV.2 ⟨a3,hok.nodup⟩) (λm hm=>by
   rcases ZC.1 hm with rfl|hm
   .exact av
   .obtain⟨e,he,rfl⟩:=XP.1 hm;exact(hof e he).1)
  simp only[XN,XU] at this;omega
 have cy:x.cG.length+1<=512:=by
  have:(n::x.cG).length<=pl.own.length:=Ls _ _ (XV.2 ⟨bu,hok.onodup⟩) (λm hm=>by
   rcases ZC.1 hm with rfl|hm
   .exact av
   .obtain⟨p,hp⟩:=hok.osub m hm;exact(hof _ hp).1)
  simp only[XN] at this;omega
 have cz:r.cP.x.length=x.pg.length:=by rw[h.e3];simp
 have d2:=h.plen;have d3:r.cG.x.length=x.cG.length:=by rw[h.e5];simp
 refine aR func268 ntmps268 Y (bC Y λrb w1 e1 a4 N dl=>bC Y λqb w2 e2 bw aw dm=>?_);replace a4:w1.heap[rb]?=some (.cells (Ze r).toArray 253 (0,0)):=a4;have H:=aw.bP a4;have a5:=N.trans aw;refine bB H Y (bB H Y ?_);rw[h.e1];refine aP Y (Xgn r.p x.cL pl n t w2 (h.p.bQ a5) hg hok.cL hf) ?_;rintro _ w3 ⟨l,rfl,ax,ay,az⟩;refine aN Y ?_;obtain⟨f',a6⟩:∃f',f'=r.p.f.sl 1 r.p.f.x.length:=⟨_,rfl⟩;rw[<-a6] at ax⊢;have dn:=az.size;refine bC Y λtb w4 e4 bx bz dp=>bF bx Y λw5 I c1 dq=>?_;replace I:w5.heap[tb]?=some (.cells ([Xq l,Xq f']:List dE).toArray 34 (0,0)):=I;have a7:Xc Xf w3 w5:=bz.sn c1;have J:=az.trans a7;refine aS Y (bB I Y ?_);have b6:=J.bP H;refine bF b6 Y λw6 A O dr=>?_;replace A:w6.heap[rb]?=some (.cells ([Xq l,Xq f',W r.cL,W (r.cF:Int),Xq r.cP,.slice r.pa r.ps.length r.pcap,Xq r.cG]:List dE).toArray 253 (0,0)):=A;have b7:=O.heap (J.bP bw) (show ¬qb=rb by omega);have P:At w6 ⟨l,f'⟩ (pl.take x.cL):=by
  have h5:=ax.bQ a7;have a8:Xj (λz=>z=rb) f'.a:=by rw[a6];exact IL.sl_out (h.p.f.lt.out (λz c=>X))
  exact⟨h5.o.bW (ay.out (λz c=>X)) O,h5.f.bW a8 O,h5.eo,h5.ef⟩
 have b9:Xc Xf w w6:=(a5.trans J).sn O;refine bB A Y ?_;rw[h.e2];refine aP Y (Xmt x.cF w6 bt) ?_;rintro _ w7 ⟨pg,rfl,b0,c2,R,c3⟩;refine aN Y ?_;have c4:C8 w7 pg:=C8.of c2 (by rw[b0];simp;omega);have c5:Bg w6 pg.a:=by
  rcases c3 with e|⟨g,off,e,c6⟩
  .intro b off s e';rw[e] at e';cases e'
  .intro b off' s e';rw[e] at e';cases e';exact c6
 have ds:=R.size;have aa:=b9.trans R;have ab:=R.bP A;refine Xa.buildSlice Xb rfl λb8 w8 e8 c7 S dt=>aN Y ?_;have ba:=aa.trans S;refine bB (S.bP ab) Y ?_;have b1:Xm w7.heap.size 3 1 w8 (.slice (some ⟨b8,0,none⟩) 0 0) 0 []:=Xm.empty X c7;refine Xa.appendA (base:=w7.heap.size) (xs:=[]) (news:=r.cP.x.map W) Xb rfl b1 S.size h.cP.ok.rd.noneA xS (h.cP.ok.rd.bR ba).cellsA Jh xP λv9 w9 c8 c9 du=>aN Y ?_;have bb:=b1.bU S (XF _) c9;refine Xa.buildSlice Xb rfl λdv dw dx bc ac d8=>aN Y ?_;have ad:=c8.bR ac (λ_ _ h=>h);have T:=bb.trans ac;refine Xa.append (base:=w7.heap.size) (news:=[W (n:Int)]) Xb rfl ad T.size xS (Hs bc) (by simp[Value.oneCell']) xP ?_;intro ca dy bd be d9;have k:=ad.bU T (XF _) be;obtain⟨nl,rfl,cb,cc,b2⟩:=Xm.il (x:=r.cP.x++[(n:Int)]) (v:=ca) (m:=0+r.cP.x.length+1) (by rw[XM];exact bd) xS xQ;refine aN Y ?_;have d0:=k.size;refine bF (k.bP ab) Y λi o K da=>?_;replace o:i.heap[rb]?=some (.cells ([Xq l,Xq f',W r.cL,W (r.cF:Int),Xq nl,.slice r.pa r.ps.length r.pcap,Xq r.cG]:List dE).toArray 253 (0,0)):=o;have U:Xc Xf w i:=(aa.trans k).sn K;have al:Q9 i nl:=cc.bW (by intro b off s e c;have:=b2 b off s e;omega) K;refine Xa.buildSlice Xb rfl λcd ce dz bf B db=>aN Y ?_;have am:=U.trans B;refine bB (B.bP o) Y ?_;have ae:Xm i.heap.size 22 1 ce (.slice (some ⟨cd,0,none⟩) 0 0) 0 []:=Xm.empty X bf;refine Xa.appendA (base:=i.heap.size) (xs:=[]) (news:=r.ps.map Xq) Xb rfl ae B.size h.rp.noneA xS (h.rp.bQ am).cellsA Vt xP λe0 e3 bg bh dc=>aN Y ?_;have af:=ae.bU B (XF _) bh;refine Xa.buildSlice Xb rfl λe5 e6 e7 bi ag dd=>aN Y ?_;have ah:=bg.bR ag (λ_ _ h=>h);have G:=af.trans ag;refine Xa.append (base:=i.heap.size) (news:=[Xq pg]) Xb rfl ah G.size xS (Hs bi) (by simp[Value.oneCell']) xP ?_;intro cf e9 bj bk de;have d:=ah.bU G (XF _) bk;obtain⟨pa',pcap',rfl,cg,ch,ci,b3⟩:=Xm.pl (ps:=r.ps++[pg]) (v:=cf) (m:=0+r.ps.length+1) (by rw[XM];exact bj) xS;have cj:=d.size;refine aN Y (bF (d.bP o) Y λj q C df=>?_);replace q:j.heap[rb]?=some (.cells ([Xq l,Xq f',W r.cL,W (r.cF:Int),Xq nl,.slice pa' (r.ps++[pg]).length pcap',Xq r.cG]:List dE).toArray 253 (0,0)):=q;have V:Xc Xf w j:=(U.trans d).sn C;have an:D8 j pa' (r.ps++[pg]):=cg.bW (by intro b off s e c;have:=b3 b off s e;omega) C;refine Xa.buildSlice Xb rfl λck cl ea bm D dg=>aN Y ?_;have ao:=V.trans D;refine bB (D.bP q) Y ?_;have ai:Xm j.heap.size 3 1 cl (.slice (some ⟨ck,0,none⟩) 1 1) 1 [W (n:Int)]:=Xm.one X bm;refine Xa.appendA (base:=j.heap.size) (xs:=[W (n:Int)]) (news:=r.cG.x.map W) Xb rfl ai D.size h.cG.ok.rd.noneA xS (h.cG.ok.rd.bR ao).cellsA Jh xP ?_;intro b4 cm bn bo dh;have f:=ai.bU D (XF _) bo;obtain⟨ol,rfl,bp,bq,br⟩:=Xm.il (x:=(n:Int)::r.cG.x) (v:=b4) (m:=1+r.cG.x.length) (show Xm j.heap.size 3 1 cm b4 (1+r.cG.x.length) (((n:Int)::r.cG.x).map W) from bn) xQ xQ;refine aN Y ?_;have cn:=f.size;refine bF (f.bP q) Y λy E L di=>?_;obtain⟨r',a0⟩:∃r':RS,r'=⟨⟨l,f'⟩,r.cL,r.cF,nl,pa',pcap',r.ps++[pg],ol⟩:=⟨_,rfl⟩;replace E:y.heap[rb]?=some (.cells (Ze r').toArray 253 (0,0)):=by rw[a0];exact E
 refine bB E Y ?_;have a1:Xc Xf w y:=(V.trans f).sn L;have nn:∀{a b:dD},Xc Xf a b->Xc (λz=>z=rb) a b:=λh=>h.gr;have cA:Xc (λz=>z=rb) w7 i:=(nn k).trans K;have cB:Xc (λz=>z=rb) i j:=(nn d).trans C;have cC:Xc (λz=>z=rb) j y:=(nn f).trans L;have cAll:Xc (λz=>z=rb) w6 y:=(((nn R).trans cA).trans cB).trans cC;have F:∀Q:Nat->Prop,(∀z,Q z->z<w2.heap.size)->Yq Q r->Yq Q r':=λQ M ho=>by
  have co:Xj Q l.a:=ay.out M;have a8:Xj Q f'.a:=by rw[a6];exact IL.sl_out ho.f
  have cp:Xj Q nl.a:=by intro b off s e c;have:=b2 b off s e;have:=M b c;omega
  have cq:Xj Q ol.a:=by intro b off s e c;have:=br b off s e;have:=M b c;omega
  have cr:Xj Q pa':=by intro b off s e c;have:=b3 b off s e;have:=M b c;omega
  rw[a0];exact⟨co,a8,cp,cq,cr,λl' hl'=>by
   rcases XS.1 hl' with hl'|hl'
   .exact ho.cI l' hl'
   .have:l'=pg:=xU hl'
    subst this;exact c5.out (λz c=>xH (M z c))⟩
 have cs:Yq (λz=>z=rb) r:=h.out (λz c=>xH N.size);have u:Yq (λz=>z=rb) r':=F _ (λz c=>X) cs;have aq:Qg y r' (x.fresh n) (pl.take x.cL):=by
  rw[a0] at u;have bs:At y ⟨l,f'⟩ (pl.take x.cL):=⟨P.o.bW u.o cAll,P.f.bW u.f cAll,P.eo,P.ef⟩;rw[a0];exact⟨bs,al.bW u.cP (cB.trans cC),bq.bW u.cG L,an.bW u.pa cC,ch.bQ (xI C.size cC.size),ci,λl' hl'=>by
   rcases XS.1 hl' with hl'|hl'
   .exact(h.cI l' hl').bQ a1
   .have:l'=pg:=xU hl'
    subst this;exact c4.bW (u.cI _ (QC _ xS)) ((cA.trans cB).trans cC),h.e1,h.e2,by
    show nl.x=(x.pg++[(n,List.replicate x.cF (-1))]).map _
    rw[cb,h.e3,XM];rfl,by
    show(r.ps++[pg]).map _=(x.pg++[(n,List.replicate x.cF (-1))]).map _
    rw[XM,XM,h.e4];simp[b0],by
    show ol.x=(n::x.cG).map _
    rw[bp,h.e5];rfl⟩
 have ar:=cAll.heap b7 (show ¬qb=rb by omega);refine bF ar Y λeb au aj dj=>?_;have ct:Yq (λz=>z=qb) r':=F _ (λz c=>X) (h.out (λz c=>xH N.size));exact aK func268 au Y ⟨r',rfl,aq.bW ct aj,λQ M ho=>F Q (λz c=>xH (M z c)) ho,a1.bU aj (λz c e=>xH N.size)⟩
theorem Qg.setPage{r:RS}{pl:PlM}(h:Qg w r x pl)(hn:(x.pg.map (·.1)).Nodup){q p':List Int}{pa':Option dF}{pcap':Nat}(hi:x.pg[i]?=some (m,q))(hx:l'.x=p')(hy:C8 w l')(h1:D8 w pa' (r.ps.set i l'))(h2:Yw w pa')(h3:(r.ps.set i l').length<=pcap'):Qg w {r with pa:=pa',pcap:=pcap',ps:=r.ps.set i l'} {x with pg:=Zx x.pg m p'} pl:=
 ⟨h.p,h.cP,h.cG,h1,h2,h3,λl a=>by
  rcases ZN a with a|rfl
  .exact h.cI l a
  .exact hy,h.e1,h.e2,by
  have e:=L6 x.pg m p';show r.cP.x=(Zx x.pg m p').map λe=>((e.1:Nat):Int)
  rw[h.e3];have b:∀l:PgL,(l.map λe=>((e.1:Nat):Int))=(l.map (·.1)).map (λn:Nat=>(n:Int)):=λl=>by rw[List.map_map];rfl
  rw[b,b,e],by
  show(r.ps.set i l').map (·.x)=(Zx x.pg m p').map (·.2)
  rw[Xn7 hn hi,ZW,ZW,h.e4,hx],h.e5⟩
theorem Yq.setPage{r:RS}(h:Yq Q r){pa':Option dF}{pcap':Nat}(h1:Xj Q pa')(h2:Xj Q l'.a):Yq Q {r with pa:=pa',pcap:=pcap',ps:=r.ps.set i l'}:=
 ⟨h.o,h.f,h.cP,h.cG,h1,λl a=>by
  rcases ZN a with a|rfl
  .exact h.cI l a
  .exact h2⟩
theorem Qg.setOpn{r:RS}{pl:PlM}(h:Qg w r x pl){o:List Nat}(hl:Q9 w l')(he:l'.x=o.map (λn:Nat=>(n:Int))):Qg w {r with cG:=l'} {x with cG:=o} pl:=
 ⟨h.p,h.cP,hl,h.rp,h.plt,h.pcap,h.cI,h.e1,h.e2,h.e3,h.e4,he⟩
theorem Yq.setOpn{r:RS}(h:Yq Q r)(h1:Xj Q l'.a):Yq Q {r with cG:=l'}:=⟨h.o,h.f,h.cP,h1,h.pa,h.cI⟩
theorem XeL(l:List Nat)(n:Nat):(l.map (λm:Nat=>(m:Int))).filter (λm=>m != (n:Int))=(l.filter (λm=>m != n)).map (λm:Nat=>(m:Int)):=by
 rw[List.filter_map]
 congr 1
 refine List.filter_congr λm _=>?_;simp only[Function.comp];exact QW.2 (by simp only[bne_iff_ne,ne_eq];omega)
structure TkJ(x:Sm)(pl:PlM)(who:Int)(qb kb:Nat)(w w2:dD)(r r1:RS)(x1:Sm)(pl1:PlM)(p:List Int)(n i:Nat)(xW:dD):Prop where
 f1:x1.Ok
 f2:x1.Of pl1
 f3:x1.pg[i]?=some (n,p)
 f4:Ps (x1.pg.map λe=>((e.1:Nat):Int)) (n:Int)=(i:Int)
 f5:p.length=x1.cF
 f6:Xt p≠x1.cF
 f7:∃t,x1.cG=n::t
 f8:Qg xW r1 x1 pl1
 f9:xW.heap[kb]?=some (.cells (Ze r1).toArray 253 (0,0))
 f10:Yq (λz=>z=kb) r1
 f11:Yq (λz=>z=qb) r1
 f12:xW.heap[qb]?=w2.heap[qb]?
 f13:Xc Xf w xW
 f14:∀Q:Nat->Prop,(∀z,Q z->z<w.heap.size)->Yq Q r->Yq Q r1
 f15:Ad x pl who=x1.takeAt n p who
 f16:B2 x pl who=pl1
 f17:B1 x pl who=n
 f18:B0 x pl who=Yn p
 f19:Qr x pl who=0
theorem XmD(r:RS)(x:Sm)(pl:PlM)(who:Int)(w:dD)(h:Qg w r x pl)(hok:x.Ok)(hof:x.Of pl)(hg:pl.Good):Xe prog 219 #[.agg (Ze r).toArray,W who] w
 (λv w'=>∃r',v=.tuple #[.agg (Ze r').toArray,W (B1 x pl who),W (B0 x pl who),W (Qr x pl who)]/\Qg w' r' (Ad x pl who) (B2 x pl who)/\E2 w r r'/\Xc Xf w w'):=by
 have eN:∀e,Qr x pl who=e->e≠0->B1 x pl who=0/\B0 x pl who=0/\Ad x pl who=x/\B2 x pl who=pl:=λe h1 h2=>by
  unfold B1 B0 Ad B2;rw[h1,bJ h2,bJ h2,bJ h2,bJ h2];exact⟨rfl,rfl,rfl,rfl⟩
 refine aR func219 ntmps219 Y (bC Y λrb w1 e1 cj ck df=>bC Y λqb w2 e2 T bj dg=>?_);have a8:=bj.bP cj;have a9:=ck.trans bj;refine aT Y (λg1=>?_) λg1=>?_
 .have O:=bL g1;have ee:Qr x pl who=1:=by unfold Qr;rw[bK O]
  obtain⟨a,b,c,d⟩:=eN 1 ee xD;rw[a,b,c,d,ee];refine bB a8 Y (bF T Y λw3 bz bk cl=>?_);exact aK func219 bz Y ⟨r,rfl,(h.bQ a9).bW (h.out (λz g=>X)) bk,E2.refl _ _,a9.sn bk⟩
 have cm:0<=who:=xH (bM g1)
 refine bB a8 Y (bC Y λkb w3 e3 c0 cn cl=>bF c0 Y λw4 ap cp dh=>?_);have aa:=cn.sn cp;have R:=a9.trans aa;have ab:=aa.bP a8;have ac:=aa.bP T;have c1:r.cG.x.length=x.cG.length:=by rw[h.e5];simp
 have aq:¬qb=kb:=X
 have h4:=h.bQ R;refine bB ab Y ?_;rw[c1];apply Xa.cut (α:=RS×Sm×PlM×List Int×Nat×Nat) (λ_=>[(1,false,W who),(4,false,xV qb),(8,false,xV kb),(34,false,.pointer (some ⟨kb,6,none⟩))]) (λy xW=>TkJ x pl who qb kb w w2 r y.1 y.2.1 y.2.2.1 y.2.2.2.1 y.2.2.2.2.1 y.2.2.2.2.2 xW)
 .intro J;cases o:x.cG with
  |nil=>
   refine bI Y (bB ab Y ?_);cases hf:pl.free with
   |nil=>
    have ee:Qr x pl who=5:=by unfold Qr;rw[bJ X,bK (by rw[o,hf];exact⟨rfl,rfl⟩)]
    obtain⟨a,b,c,d⟩:=eN 5 ee xD;rw[a,b,c,d,ee];refine bG (XmF r x pl w4 h4 hok hf) Y λw5 ah=>bC Y λtb w6 e6 ar au cq=>bF ar Y λw7 av aw cr=>?_;have di:=ah.size;have A:=(ah.trans au).sn aw;have ax:=R.trans A;refine bI Y (bB (A.bP ab) Y (bF (A.bP ac) Y λw8 c3 bm dj=>?_));exact aK func219 c3 Y ⟨r,rfl,(h.bQ ax).bW (h.out (λz g=>X)) bm,E2.refl _ _,ax.sn bm⟩
   |cons n t=>
    have ee:Qr x pl who=0:=by unfold Qr;rw[bJ X,bJ (by rw[hf];simp)]
    have cs:n<1024:=xI (hg.free n (by rw[hf];simp)).1 hg.len
    have c4:=O3 hok hof hg (n:=n) (by rw[hf];simp);rcases L5 x pl who with⟨ay,_⟩|⟨_,_,⟨n',t',F,_⟩|⟨n',t',_,bn,O,k2,U,k4,V⟩⟩
    .exact absurd ee ay
    .rw[o] at F;cases F
    rw[hf] at bn;cases bn
    obtain⟨j,f⟩:∃j,j=x.fresh n:=⟨_,rfl⟩;obtain⟨s,q⟩:∃s,s=pl.take x.cL:=⟨_,rfl⟩;have u:j.Ok:=by rw[f];exact hok.fresh cs c4
    have C:j.Of s:=by rw[f,q];exact hof.fresh hg hf
    obtain⟨p,az⟩:∃p,p=List.replicate x.cF (-1:Int):=⟨_,rfl⟩;have hp:(n,p)∈j.pg:=by rw[f,az];exact QC _ xS
    have I:=Cb u.nodup hp;rw[<-f,I] at U;simp only[YI] at U;rw[<-f,U] at O;rw[U] at V;have bo:j.cF=x.cF:=by rw[f];rfl
    have dk:=hok.blk;have G:p.length=j.cF:=by rw[bo,az];exact XJ
    have P:Xt p≠j.cF:=by rw[bo,az,Ip];omega
    have K:j.cG=n::[]:=by rw[f];show n::x.cG=_;rw[o]
    rcases Vu (l:=j.pg) (n:=(n:Int)) with⟨a0,_⟩|⟨i,p0,m,hm,L,D,c6,hi⟩
    .rw[I] at a0;cases a0
    have b0:m=n:=X
    subst b0;rw[I] at L;cases L
    rw[<-q] at k2;refine aP Y (XmE r x pl m t w4 h4 hok hof hg hf) ?_;rintro _ w5 ⟨k,rfl,bp,b1,ah⟩;refine aN Y ?_;rw[<-f,<-q] at bp;refine bC Y λtb w6 e6 ar au cq=>bF ar Y λw7 av aw cr=>?_;have b2:=au.sn aw;have A:=ah.trans b2;have c7:=A.bP ap;refine aS Y (bB av Y (bF c7 Y λW H b3 dl=>?_));have B:Yq (λz=>z=kb) k:=b1 _ (λz g=>X) (h.out (λz g=>X));have M:Yq (λz=>z=qb) k:=b1 _ (λz g=>X) (h.out (λz g=>X));have N:=(bp.bQ b2).bW B b3;have b4:=b3.heap (A.bP ac) aq;have a1:=(R.trans A).sn b3;have a2:∀Q:Nat->Prop,(∀z,Q z->z<w.heap.size)->Yq Q r->Yq Q k:=λQ E o=>b1 Q (λz g=>xH (E z g)) o;exact J (k,j,s,p,m,i) _ _ ⟨u,C,hi,D,G,P,⟨_,K⟩,N,H,B,M,b4.trans T.symm,a1,a2,O,k2,k4,V,ee⟩ ⟨rfl,rfl,rfl,rfl,trivial⟩
  |cons n t=>
   have ee:Qr x pl who=0:=by unfold Qr;rw[bJ X,bJ (by rw[o];simp)]
   rcases L5 x pl who with⟨ay,_⟩|⟨_,_,⟨n',t',F,O,k2,U,k4,V⟩|⟨n',t',F,_⟩⟩
   .exact absurd ee ay
   .rw[o] at F;cases F
    obtain⟨p,b5⟩:=hok.osub n (by rw[o];simp);obtain⟨j,f⟩:∃j,j=x:=⟨_,rfl⟩;obtain⟨s,q⟩:∃s,s=pl:=⟨_,rfl⟩;have u:j.Ok:=by rw[f];exact hok
    have C:j.Of s:=by rw[f,q];exact hof
    have hp:(n,p)∈j.pg:=by rw[f];exact b5
    have I:=Cb u.nodup hp;have bq:=I;rw[f] at bq;rw[bq] at U;simp only[YI] at U;rw[U] at O V;have G:p.length=j.cF:=by rw[f];exact(hok.cI _ b5).2.1
    have P:Xt p≠j.cF:=by rw[f];exact(hok.cI _ b5).2.2.1 (by rw[o];simp)
    have K:j.cG=n::t:=by rw[f];exact o
    rcases Vu (l:=j.pg) (n:=(n:Int)) with⟨a0,_⟩|⟨i,p0,m,hm,L,D,c6,hi⟩
    .rw[I] at a0;cases a0
    have b0:m=n:=X
    subst b0;rw[I] at L;cases L
    exact aI Y xQ (J (r,j,s,p,m,i) _ _ ⟨u,C,hi,D,G,P,⟨_,K⟩,by rw[f,q];exact h4,ap,h.out (λz g=>X),h.out (λz g=>X),ac.trans T.symm,R,λ_ _ o=>o,by rw[f];exact O,by rw[q];exact k2,k4,V,ee⟩ ⟨rfl,rfl,rfl,rfl,trivial⟩)
   .rw[o] at F;cases F
 .rintro⟨k,j,s,p,n,i⟩ xW ⟨u,C,hi,D,G,P,⟨t,K⟩,N,H,B,M,eqW,a1,a2,O,k2,k4,V,ee⟩;have b4:=eqW.trans T;simp only at u C hi D G P K N H B M a2 O k2 k4 V
  rw[O,k2,k4,V,ee];have c8:0<k.cG.x.length:=by rw[N.e5,K];simp
  obtain⟨ob,ooff,c9,b6⟩:=N.cG.ok.rd 0 c8;have ca:k.cG.x.getD 0 0=n:=by rw[N.e5,K];rfl
  rw[ca] at b6;have cb:xW.heap[kb]?=some (.cells ([Xq k.p.o,Xq k.p.f,W k.cL,W (k.cF:Int),Xq k.cP,.slice k.pa k.ps.length k.pcap,.slice (some ⟨ob,ooff,none⟩) k.cG.x.length k.cG.cap]:List dE).toArray 253 (0,0)):=by rw[<-c9];exact H
  refine bB cb Y (aU 0 Y (aW Y b6 Y (bB H Y (bG (Pu k n xW N.cP) Y λWa ai=>?_))));obtain⟨dm,dn,dp⟩:=N.few u C;rw[N.e3,D];have b7:=N.bQ ai;have b8:=ai.bP H;obtain⟨l,hl,ct,cu⟩:=b7.get hi;obtain⟨pb,poff,cv,cw⟩:=b7.rp i l hl;have cc:Wa.heap[kb]?=some (.cells ([Xq k.p.o,Xq k.p.f,W k.cL,W (k.cF:Int),Xq k.cP,.slice (some ⟨pb,poff,none⟩) k.ps.length k.pcap,Xq k.cG]:List dE).toArray 253 (0,0)):=by rw[<-cv];exact b8
  have cx:=(XC.1 hl).1;refine bB cc Y (aU i Y (aW Y cw Y (aP Y (Xmw l who Wa cu.ok) ?_)));rintro _ Wb ⟨l',rfl,S,cd,aj,br⟩;refine aN Y ?_;rw[ct] at S⊢;have bs:=b7.bQ aj;have ce:0<l'.x.length:=by rw[S,Vp,G];have:=u.blk;omega
  have b9:=C8.of cd ce;have cf:=aj.bP b8;refine bB cf Y (aP Y (Xce k i l' Wb bs.rp cx (by rw[N.plen];omega)) ?_);rintro _ Wc ⟨pa',pcap',rfl,cy,cz,d0,d1,a3⟩;refine aN Y ?_;have bt:=(bs.bQ a3).setPage u.nodup hi S (b9.bQ a3) cy cz d0;have ae:=(ai.trans aj).trans a3;have dq:=ai.size;have dr:=aj.size;have ds:=a3.size;obtain⟨r2,bu⟩:∃r2:RS,r2={k with pa:=pa',pcap:=pcap',ps:=k.ps.set i l'}:=⟨_,rfl⟩;have ak:∀Q:Nat->Prop,(∀z,Q z->z<xW.heap.size)->Yq Q k->Yq Q r2:=λQ E o=>by
   rw[bu];exact o.setPage (d1.out (λz g=>xH (E z g))) (br.outS (o.cI l (XW hl)) (λz g=>xH (E z g)))
  rw[<-bu] at bt⊢;have dt:=Xg H;refine bF (ae.bP H) Y λWd af a4 du=>?_;have a5:=bt.bW (ak _ (λz g=>X) B) a4;have bv:=a4.heap (ae.bP b4) aq;have bw:=(a1.trans ae).sn a4;have d2:=(b9.bQ a3).bW (br.outS (B.cI l (XW hl)) (λz g=>X)) a4;refine bH (Vz l' Wd d2.ok) Y ?_;rw[S];have a6:Yn (Qk p who)<0↔Xt (Qk p who)=j.cF:=by rw[Vm,Vp,G]
  have eE:=(Np cm (by rw[G];exact P)).1;have eA:Ev p who=Yn p:=by unfold Ev;rw[bK eE]
  rw[eA];refine aT Y (λba=>?_) λba=>?_
  .have gfl:=bL ba;refine bB af Y (aP Y (Xgq r2.cG n Wd a5.cG) ?_);rintro _ We ⟨ol,rfl,cg,ch,ci,al⟩;refine aN Y (bF (al.bP af) Y λWf ag bb dv=>?_);obtain⟨r3,bc⟩:∃r3:RS,r3={r2 with cG:=ol}:=⟨_,rfl⟩;replace ag:Wf.heap[kb]?=some (.cells (Ze r3).toArray 253 (0,0)):=by rw[bc];exact ag
   have bd:∀Q:Nat->Prop,(∀z,Q z->z<xW.heap.size)->Yq Q k->Yq Q r3:=λQ E o=>by
    rw[bc];exact(ak Q E o).setOpn (ci.out (λz g=>xI (E z g) a4.size))
   have be:({{j with pg:=Zx j.pg n (Qk p who)} with cG:=j.cG.filter (λm=>m != n)}:Sm)=j.takeAt n p who:=by
    unfold Sm.takeAt;rw[bK (a6.1 gfl)]
   have d3:Qg We r3 (j.takeAt n p who) s:=by
    rw[bc,<-be];exact(a5.bQ al).setOpn ch (by rw[cg,a5.e5];exact XeL _ _)
   have d4:=d3.bW (bd _ (λz g=>X) B) bb;refine bB ag Y ?_;have d5:=bb.heap (al.bP bv) aq;refine bF d5 Y λWg bf a7 d6=>?_;have bg:=d4.bW (bd _ (λz g=>X) M) a7;exact aK func219 bf Y ⟨r3,rfl,bg,λQ E o=>bd Q (λz g=>xI (E z g) a1.size) (a2 Q E o),((bw.trans al).sn bb).sn a7⟩
  .have gfl:=bM ba;have be:({j with pg:=Zx j.pg n (Qk p who)}:Sm)=j.takeAt n p who:=by
    unfold Sm.takeAt;rw[bJ (λe=>gfl (a6.2 e))]
   rw[be] at a5;refine bB af Y (bF bv Y λWg bf a7 d6=>?_);have bg:=a5.bW (ak _ (λz g=>X) M) a7;exact aK func219 bf Y ⟨r2,rfl,bg,λQ E o=>ak Q (λz g=>xI (E z g) a1.size) (a2 Q E o),bw.sn a7⟩
theorem Xb7{l:PgL}{n:Int}(h:Zk l n=none):Ps (l.map λe=>((e.1:Nat):Int)) n=-1:=by
 rcases Vu (l:=l) (n:=n) with⟨_,a⟩|⟨_,_,_,_,a,_⟩
 .exact a
 .rw[h] at a;cases a
theorem Sw{l:PgL}{n:Int}(h:Zk l n=some p):∃(i m:Nat),n=m/\Ps (l.map λe=>((e.1:Nat):Int)) n=(i:Int)/\i<l.length/\l[i]?=some (m,p):=by
 rcases Vu (l:=l) (n:=n) with⟨a,_⟩|⟨i,p',m,b,a,c,d,f⟩
 .rw[h] at a;cases a
 .rw[h] at a;cases a;exact⟨i,m,b,c,d,f⟩
theorem XmB(r:RS)(x:Sm)(pl:PlM)(n i:Int)(w:dD)(h:Qg w r x pl)(hok:x.Ok)(hof:x.Of pl):Xe prog 218 #[.agg (Ze r).toArray,W n,W i] w (Grow (W (Q0 x n i)) w):=by
 refine aR func218 ntmps218 Y (bC Y λrb z e1 b c B=>?_);refine bB b Y (bG (Pu r n z (h.cP.bQ c)) Y λj d=>?_);have a:=c.trans d;rw[h.e3];unfold Q0;cases o:Zk x.pg n with
 |none=>
  rw[Xb7 o];exact bI Y (bE func218 Y ⟨rfl,a⟩)
 |some p=>
  obtain⟨k,m,rfl,f,C,A⟩:=Sw o;rw[f];have q:=h.bQ a;obtain⟨l,s,t,u⟩:=q.get A;obtain⟨pb,poff,v,y⟩:=q.rp k l s;have g:j.heap[rb]?=some (.cells ([Xq r.p.o,Xq r.p.f,W r.cL,W (r.cF:Int),Xq r.cP,.slice (some ⟨pb,poff,none⟩) r.ps.length r.pcap,Xq r.cG]:List dE).toArray 253 (0,0)):=by rw[<-v];exact(d.bP b)
  have D:=(XC.1 s).1;exact aS Y (bB g Y (aU k Y (aW Y y Y (bH (Xmv l i j u.ok) Y (bE func218 Y ⟨X0 (by rw[t]),a⟩)))))
theorem XmA(r:RS)(x:Sm)(pl:PlM)(n i who:Int)(w:dD)(h:Qg w r x pl)(hok:x.Ok)(hof:x.Of pl):Xe prog 256 #[.agg (Ze r).toArray,W n,W i,W who] w
 (λv w'=>∃r',v=.tuple #[.agg (Ze r').toArray,W (H4 x n i who)]/\Qg w' r' (Bc x n i who) pl/\E2 w r r'/\Xc Xf w w'):=by
 obtain⟨al,am,an⟩:=h.few hok hof;refine aR func256 ntmps256 Y (bC Y λrb w1 e1 a0 b ao=>bC Y λqb w2 e2 a1 E ap=>?_);have t:=E.bP a0;have u:=b.trans E;refine bB t Y (bG (Pu r n w2 (h.cP.bQ u)) Y λJ q=>?_);have f:=u.trans q;have g:=q.bP t;have y:=q.bP a1;have A:=h.bQ f;have aq:=q.size;rw[h.e3];cases s:Zk x.pg n with
 |none=>
  rw[show H4 x n i who=1 from by unfold H4;rw[s],show Bc x n i who=x from by unfold Bc;rw[s],Xb7 s];refine bI Y (bB g Y (bF y Y λw4 K F ar=>?_));exact aK func256 K Y ⟨r,rfl,A.bW (h.out (λz a=>xH b.size)) F,E2.refl _ _,f.bU F (λz a e=>xH b.size)⟩
 |some p=>
  obtain⟨k,m,rfl,L,au,M⟩:=Sw s;rw[L,show H4 x m i who=Ap p i who from by unfold H4;rw[s],show Bc x m i who=x.ownAt m p i who from by unfold Bc;rw[s];rfl];obtain⟨l,N,a2,a3⟩:=A.get M;obtain⟨pb,poff,a4,a5⟩:=A.rp k l N;have O:J.heap[rb]?=some (.cells ([Xq r.p.o,Xq r.p.f,W r.cL,W (r.cF:Int),Xq r.cP,.slice (some ⟨pb,poff,none⟩) r.ps.length r.pcap,Xq r.cG]:List dE).toArray 253 (0,0)):=by rw[<-a4];exact g
  have a6:=(XC.1 N).1;have P:=XW M;have a7:=(hok.cI _ P).2.1;refine aS Y (bB O Y (aU k Y (aW Y a5 Y (aP Y (Xmu l i who J a3.ok) ?_))));rintro _ w5 ⟨l',rfl,j,R,c,a8⟩;refine aN Y ?_;rw[a2] at j⊢;have S:=C8.of R (by rw[j,Xf5];have:=hok.blk;simp only at a7;omega);have h5:=A.bQ c;refine bB (c.bP g) Y (aP Y (Xce r k l' w5 h5.rp a6 (by rw[h.plen];omega)) ?_);rintro _ w6 ⟨pa',pcap',rfl,aa,ab,ac,ad,d⟩;refine aN Y ?_;have h6:=(h5.bQ d).setPage hok.nodup M j (S.bQ d) aa ab ac;obtain⟨B,G⟩:∃B:RS,B={r with pa:=pa',pcap:=pcap',ps:=r.ps.set k l'}:=⟨_,rfl⟩;have av:=c.size;have aw:=d.size;have H:∀Q:Nat->Prop,(∀z,Q z->z<J.heap.size)->Yq Q r->Yq Q B:=λQ C D=>by
   rw[G];exact D.setPage (ad.out (λz a=>xH (C z a))) (a8.outS (D.cI l (XW N)) (λz a=>xH (C z a)))
  rw[<-G] at h6⊢;have T:=(f.trans c).trans d;refine bC Y λtb w7 e7 af ag ax=>bF af Y λw8 U ah ay=>?_;have o:=ag.sn ah;have h8:=h6.bQ o;refine bB U Y (bF (((c.trans d).trans o).bP y) Y λw9 V I az=>?_);exact aK func256 V Y ⟨B,rfl,h8.bW (H _ (λz a=>X) (h.out (λz a=>xH b.size))) I,λQ C D=>H Q (λz a=>xH (C z a)) D,(T.trans o).bU I (λz a e=>xH b.size)⟩
theorem Xfd:∀{l:List Nat} (p:Int),0<l.length->Bu p l=((l.getD (l.length-1) 0:Nat):Int)
 |[a],p,_=>rfl
 |a::b::r,p,_=>by
  have ih:=Xfd (l:=b::r) (a:Int) xS;show Bu a (b::r)=_
  rw[ih]
  simp
theorem XmC(r:RS)(x:Sm)(pl:PlM)(w:dD)(h:Qg w r x pl)(hok:x.Ok):Xe prog 217 #[.agg (Ze r).toArray] w (Grow (.tuple #[.agg (H5 x).toArray,.bool (Nx x)]) w):=by
 have y:r.cG.x.length=x.cG.length:=by rw[h.e5];simp
 have ae:=hok.few;unfold H5 Nx;refine aR func217 ntmps217 Y (bC Y λrb w1 e1 a5 F ao=>bC Y λqb w2 e2 M N ap=>?_);have s:=N.bP a5;have A:=F.trans N;refine bB s Y ?_;rw[y];by_cases o:2<=x.cG.length
 .rw[bK o,bN o];have J:∃k∈x.cG,Bu (-1) x.cG=(k:Int):=by
   rcases Kr (-1) x.cG with⟨e,_⟩|⟨a,T,e,_⟩
   .rw[e] at o;simp at o
   .exact⟨a,T,e⟩
  have K:∃k∈x.cG,Cg x.cG=(k:Int):=by
   cases U:x.cG with
   |nil=>rw[U] at o;simp at o
   |cons a r=>exact⟨a,xS,rfl⟩
  obtain⟨a,T,ea⟩:=J;obtain⟨b,hb,eb⟩:=K;obtain⟨p,hp⟩:=hok.osub a T;obtain⟨q,hq⟩:=hok.osub b hb;have gp:=Cb hok.nodup hp;have gq:=Cb hok.nodup hq;rw[ea,eb,gp,gq];simp only[YI];obtain⟨i,m,hm,V,aq,hi⟩:=Sw gp;obtain⟨j,m',ar,L,au,hj⟩:=Sw gq;have v:=h.bQ A;obtain⟨l,hl,a7,a8⟩:=v.get hi;obtain⟨l',O,a0,a1⟩:=v.get hj;obtain⟨pb,poff,P,a9⟩:=v.rp i l hl;obtain⟨pb',poff',G,a2⟩:=v.rp j l' O;rw[P] at G;cases G
  obtain⟨ob,ooff,Q,H⟩:=v.cG.ok.rd (x.cG.length-1) (by rw[y];omega);obtain⟨ob',ooff',I,B⟩:=v.cG.ok.rd 0 (by rw[y];omega);rw[Q] at I;cases I
  have aa:r.cG.x.getD (x.cG.length-1) 0=(a:Int):=by
   rw[h.e5,<-ea,Xfd (-1) X,XB,XO,XB,XD (show x.cG.length-1<x.cG.length by omega)];rfl
  have ab:r.cG.x.getD 0 0=(b:Int):=by
   rw[h.e5,<-eb];cases U:x.cG with
   |nil=>rw[U] at o;simp at o
   |cons c t=>rfl
  rw[aa] at H;rw[ab] at B;have ak:=(XC.1 hl).1;have al:=(XC.1 O).1;have u:w2.heap[rb]?=some (.cells ([Xq r.p.o,Xq r.p.f,W r.cL,W (r.cF:Int),Xq r.cP,.slice (some ⟨pb,poff,none⟩) r.ps.length r.pcap,.slice (some ⟨ob,ooff,none⟩) r.cG.x.length r.cG.cap]:List dE).toArray 253 (0,0)):=by rw[<-P,<-Q];exact s
  have C:((x.cG.length:Int)-1)=((x.cG.length-1:Nat):Int):=X
  refine aS Y (aQ 10 Xf xK Y λd=>aE d u Y (aE d s Y (aE d u Y (aC d Y ?_))));rw[C];refine aB (x.cG.length-1) d Y (aD d H Y (aG d (λw' g=>Pu r a w' (v.cP.bQ g)) Y ?_));rw[h.e3,V];refine aF d Y λw3 n=>aU i Y (aW Y (n.cell a9 id) Y ?_);have D:=n.bP u;refine aQ 8 Xf xK Y λd=>aE d D Y (aE d (n.bP s) Y (aE d D Y (aB 0 d Y (aD d (n.cell B id) Y (aG d (λw' g=>Pu r b w' ((v.bQ n).cP.bQ g)) Y ?_)))));rw[h.e3,L];refine aF d Y λw4 R=>aU j Y (aW Y ((n.trans R).cell a2 id) Y ?_);have f:=n.trans R;have E:=f.bP u;refine aQ 14 Xf xK Y λd=>aE d E Y (aC d Y ?_);rw[C];refine aB (x.cG.length-1) d Y (aD d (f.cell H id) Y (aH d (λw' g=>Xmx l w' ((a8.bQ f).ok.bQ g)) Y (aE d E Y (aB 0 d Y (aD d (f.cell B id) Y (aH d (λw' g=>Vz l' w' ((a1.bQ f).ok.bQ g)) Y (aF d Y λw5 S=>aO Y ?_)))))));rw[a7,a0];exact bF ((f.trans S).bP M) Y λw6 a3 ac av=>aK func217 a3 Y ⟨rfl,(A.trans (f.trans S)).bU ac (λz hz e=>xH F.size)⟩
 .refine bI Y ?_;rw[bJ o,bO o];exact aO Y (bF M Y λw3 a4 ad aw=>aK func217 a4 Y ⟨rfl,A.bU ad (λz hz e=>xH F.size)⟩)
theorem D8.shift(h:D8 w a ps)(hm:lo+k<=ps.length)(hc:ps.length<=cap):D8 w (Ae a cap lo 1) ((ps.drop lo).take k):=λi l d=>by
 have hi:=(XC.1 d).1;have f:i<k:=by rw[XX] at hi;omega
 rw[Y2,bK f,List.getElem?_drop] at d;obtain⟨b,off,rfl,c⟩:=h (lo+i) l d;have g:¬cap=lo:=X
 refine⟨b,off+lo,?_,?_⟩
 .simp only[Ae,bJ g,QZ,ZS,C0]
 .rw[YX];exact c
theorem XeG{β:Type}(f:α->β)(l:List α)(k:Nat):(l.take k++l.drop (k+1)).map f=(l.map f).take k++(l.map f).drop (k+1):=by
 rw[XM,As,List.map_drop]
theorem Rd.noneA'{x:List Int}{k:IntKind}(h:Rd k w a x)(hn:x.length=n):a=none->n=0:=λe=>by rw[<-hn];exact h.noneA e
theorem Xmz(r:RS)(x:Sm)(pl:PlM)(n i:Int)(w:dD)(h:Qg w r x pl)(hok:x.Ok)(hof:x.Of pl)(hg:pl.Good):Xe prog 225 #[.agg (Ze r).toArray,W n,W i] w
 (λv w'=>∃r',v=.tuple #[.agg (Ze r').toArray,W (Ca x n i)]/\Qg w' r' (Ag x n i) (Bo x pl n i)/\E2 w r r'/\Xc Xf w w'):=by
 obtain⟨fn,fo,fp⟩:=h.few hok hof;have fq:maxLen=9223372036854775807:=rfl;have fr:=hok.blk;refine aR func225 ntmps225 Y (bC Y λrb w1 e1 dw dx fs=>bC Y λqb w2 e2 dy c9 ft=>?_);have b6:=c9.bP dw;have b7:=dx.trans c9;refine bB b6 Y (bG (Pu r n w2 (h.cP.bQ b7)) Y λw3 ak=>?_);have a6:=b7.trans ak;have B:=ak.bP b6;have F:=ak.bP dy;have h3:=h.bQ a6;have fu:=ak.size;rw[h.e3];cases j:Zk x.pg n with
 |none=>
  rw[show Ca x n i=1 from by unfold Ca;rw[j],show Ag x n i=x from by unfold Ag;rw[j],show Bo x pl n i=pl from by unfold Bo;rw[j],Xb7 j];refine bI Y (bB B Y ?_);have G:=F;refine bF G Y λWz H t ba=>?_;exact aK func225 H Y ⟨r,rfl,h3.bW (h.out (λz hz=>X)) t,E2.refl _ _,a6.sn t⟩
 |some p=>
  obtain⟨k,m,rfl,d3,fv,hk⟩:=Sw j;rw[d3];obtain⟨l,hl,ca,cb⟩:=h3.get hk;obtain⟨pb,poff,dz,cc⟩:=h3.rp k l hl;have bb:w3.heap[rb]?=some (.cells ([Xq r.p.o,Xq r.p.f,W r.cL,W (r.cF:Int),Xq r.cP,.slice (some ⟨pb,poff,none⟩) r.ps.length r.pcap,Xq r.cG]:List dE).toArray 253 (0,0)):=by rw[<-dz];exact B
  have d5:=(XC.1 hl).1;have a7:=XW hk;have cd:=(hok.cI _ a7).2.1;simp only at cd
  refine aS Y (bB bb Y (aU k Y (aW Y cc Y (bH (Vz l w3 cb.ok) Y ?_))));rw[ca];refine bB bb Y (aU k Y (aW Y cc Y (aP Y (Xms l i w3 cb.ok) ?_)));rintro _ w5 ⟨l',rfl,S,d6,M,e0⟩;refine aN Y ?_;rw[ca] at S⊢;have a8:=M.bP B;have bc:=M.bP F;have a9:=a6.trans M;have fw:=M.size;by_cases hE:Q6 p i=0
  .rw[show Ca x m i=0 from by unfold Ca;rw[j];exact hE,show Ag x m i=x.giveAt m p i from by unfold Ag;rw[j];simp only;rw[bK hE];rfl,show Bo x pl m i=(if Xt (Yr p i)=0 then pl.give m else pl) from by unfold Bo;rw[j];simp only[hE,true_and];rfl,hE];refine aS Y ?_;have ab:=C8.of d6 (by rw[S,Xf3];omega);have h5:=h3.bQ M;refine bB a8 Y (aP Y (Xce r k l' w5 h5.rp d5 (by rw[h.plen];omega)) ?_);rintro _ w6 ⟨pa',pcap',rfl,al,bd,am,e4,A⟩;refine aN Y ?_;have h6:=(h5.bQ A).setPage hok.nodup hk S (ab.bQ A) al bd am;have fx:=A.size;obtain⟨E,ce⟩:∃E:RS,E={r with pa:=pa',pcap:=pcap',ps:=r.ps.set k l'}:=⟨_,rfl⟩;have cf:∀Q:Nat->Prop,(∀z,Q z->z<w3.heap.size)->Yq Q r->Yq Q E:=λQ u ho=>by
    rw[ce];exact ho.setPage (e4.out (λz hz=>xH (u z hz))) (e0.outS (ho.cI l (XW hl)) (λz hz=>xH (u z hz)))
   rw[<-ce] at h6⊢;have d9:∀(z0:Nat),w6.heap.size<=z0->Yq (λz=>z=z0) E:=λz0 fy=>h6.out (λz hz=>X);refine bC Y λkb w7 e7 db e5 fz=>bF db Y λw8 ad e6 g0=>?_;have C:=e5.sn e6;have dc:=C.size;have h8:=h6.bQ C;have be:=(a9.trans A).trans C;have bf:=(A.trans C).bP a8;have bg:=(A.trans C).bP bc;have bh:=(ab.bQ A).bQ C;have dd:Xj (λz=>z=kb) l'.a:=(ab.bQ A).lt.out (λz hz=>X);have bi:=d9 kb X;have a1:Yn p<0↔Xt p=x.cF:=by rw[Vm,cd]
   obtain⟨o,ho⟩:∃o,o=(if Xt p=x.cF then m::x.cG else x.cG):=⟨_,rfl⟩;have de:Xc Xf w w6:=a9.trans A;apply Xa.cut (α:=RS) (λ_=>[(1,false,W (m:Int)),(3,false,xV rb),(6,false,xV qb),(8,false,W k),(10,false,Xq l'),(12,false,xV kb),(53,false,Xq l')]) (λ(d:RS) (xW:dD)=>xW.heap[kb]?=some (.cells (Ze d).toArray 253 (0,0))/\Qg xW d {x with pg:=Zx x.pg m (Yr p i),cG:=o} pl/\Yq (λz=>z=kb) d/\(∀Q:Nat->Prop,(∀z,Q z->z<w3.heap.size)->Yq Q r->Yq Q d)/\Xc Xf w xW/\xW.heap[rb]?=w3.heap[rb]?/\xW.heap[qb]?=w3.heap[qb]?/\C8 xW l'/\w6.heap.size<=xW.heap.size)
   .intro J;refine Xa.fork Xb rfl rfl rfl (λae=>?_) (λae=>?_)
    rotate_left
    .have gful:¬Xt p=x.cF:=λe=>by have:=bM ae;exact this (a1.2 e)
     exact J E w8 _ ⟨ad,by rw[ho,bJ gful];exact h8,bi,cf,be,bf.trans B.symm,bg.trans F.symm,bh,dc⟩ ⟨rfl,rfl,rfl,rfl,rfl,rfl,rfl,trivial⟩
    .have gful:Xt p=x.cF:=a1.1 (bL ae);refine Xa.buildSlice Xb rfl ?_;intro b9 w9 e9 e8 an g1;refine aN rfl ?_;refine Xa.cJ Xb rfl (an.bP ad) rfl rfl ?_;have cg:Xm w8.heap.size 3 1 w9 (.slice (some ⟨b9,0,none⟩) 1 1) 1 [W (m:Int)]:=Xm.one X e8;have fa:E.cG.x.length=x.cG.length:=by rw[h8.e5];simp
     have g2:x.cG.length+1<=512:=by
      have ea:m∉x.cG:=λhm=>((hok.cI _ a7).2.2.1 hm) gful;have:(m::x.cG).length<=pl.own.length:=Ls _ _ (XV.2 ⟨ea,hok.onodup⟩) (λz hz=>by
       rcases ZC.1 hz with rfl|hz
       .exact(hof _ a7).1
       .obtain⟨q,hq⟩:=hok.osub z hz;exact(hof _ hq).1)
      simp only[XN] at this;omega
     refine Xa.appendA (base:=w8.heap.size) (xs:=[W (m:Int)]) (news:=E.cG.x.map W) Xb rfl cg an.size h8.cG.ok.rd.noneA xS (h8.cG.ok.rd.bR an).cellsA Jh xP ?_;intro ch eb df dg fc;have f:=cg.bU an (XF _) dg;obtain⟨ol,rfl,c2,c5,ao⟩:=Xm.il (x:=(m:Int)::E.cG.x) (v:=ch) (m:=1+E.cG.x.length) (show Xm w8.heap.size 3 1 eb ch (1+E.cG.x.length) (((m:Int)::E.cG.x).map W) from df) xQ xQ;refine aN rfl ?_;have f4:=f.size;refine Xa.store Xb rfl (f.bP ad) rfl rfl ?_;intro xW dh N g3;refine aN rfl ?_;obtain⟨d,ap⟩:∃d:RS,d={E with cG:=ol}:=⟨_,rfl⟩;have O:xW.heap[kb]?=some (.cells (Ze d).toArray 253 (0,0)):=by rw[ap];exact dh
     have ec:o=m::x.cG:=by rw[ho,bK gful]
     have di:Xj (λz=>z=kb) ol.a:=by intro b off s e hz;have:=ao b off s e;omega
     have I:Yq (λz=>z=kb) d:=by rw[ap];exact bi.setOpn di
     have D:Qg xW d {x with pg:=Zx x.pg m (Yr p i),cG:=o} pl:=by
      have g:=I;rw[ap] at g⊢;exact((h8.bQ f).setOpn (o:=o) c5 (by rw[c2,h8.e5,ec];rfl)).bW g N
     have aq:∀Q:Nat->Prop,(∀z,Q z->z<w3.heap.size)->Yq Q r->Yq Q d:=λQ u K=>by
      rw[ap];exact(cf Q u K).setOpn (by intro b off s e hz;have:=ao b off s e;have:=u b hz;omega)
     have a2:Xc Xf w xW:=(be.trans f).sn N;have af:=N.heap (f.bP bf) (show ¬rb=kb by omega);have a3:=N.heap (f.bP bg) (show ¬qb=kb by omega);have ag:=(bh.bQ f).bW dd N;exact J d xW _ ⟨O,D,I,aq,a2,af.trans B.symm,a3.trans F.symm,ag,xH N.size⟩ ⟨rfl,rfl,rfl,rfl,rfl,rfl,rfl,trivial⟩
   .rintro d xW ⟨O,D,I,aq,a2,erb,eqb,ag,f5⟩;have af:=erb.trans B;have a3:=eqb.trans F;have fd:=Xg O;refine bH (Xmy l' xW ag.ok) Y ?_;rw[S];by_cases hu:Xt (Yr p i)=0
    .rw[show(if Xt (Yr p i)=0 then pl.give m else pl)=pl.give m from bK hu];refine aI Y (by rw[hu];rfl) ?_;have bk:x.giveAt m p i={x with pg:=Qz x.pg m,cG:=o.filter (λz=>z != m)}:=by unfold Sm.giveAt;simp only;rw[bK hu,ho]
     rw[bk];refine bB O Y (aP Y (Xgq d.cG m xW D.cG) ?_);rintro _ Wa ⟨ci,rfl,dj,dk,dl,P⟩;refine aN Y ?_;have g4:=P.size;refine bF (P.bP O) Y λWb dm bm g5=>?_;have nn:∀{a b:dD},Xc Xf a b->Xc (λz=>z=kb) a b:=λh=>h.gr;have cj:=(a2.trans P).sn bm;have ah:=bm.heap (P.bP af) (show ¬rb=kb by omega);have ck:=h.cP.bQ cj;have g6:r.cP.x.length=x.pg.length:=by rw[h.e3];simp
     have g7:=h.cP.cap;have g8:=h.pcap;refine aQ 11 Xf xK Y λc=>aE c ah Y (Xd.slice Xb c rfl (l:=0) (h:=k) (by first|rfl|omega|simp[Dx]) (by first|rfl|omega|simp[Dr]) X X rfl (aE c ah Y (aC c Y (Xd.slice Xb c rfl (l:=(k+1)) (h:=r.cP.x.length) (by first|rfl|omega|simp[Dx]) (by first|rfl|omega|simp[Dr]) X X rfl ?_))));obtain⟨cl,T⟩:=ck.sl (lo:=0) (hi:=k) (XQ _) X;obtain⟨cm,U⟩:=ck.sl (lo:=k+1) (hi:=r.cP.x.length) X (XF _);refine Xd.cK c rfl λWc cn=>Xo.buildSlice Xb c rfl (λ_=>rfl) λb1 Wd g9 ed ee ga=>Xd.cK c rfl λWe co=>?_;have cp:Xm Wb.heap.size 3 1 We (.slice (some ⟨b1,0,none⟩) 0 0) 0 []:=Xm.empty (xH cn.size) (co.bP ed);have ar:=(cn.trans ee).trans co;refine Xo.appendA Xb c rfl (base:=Wb.heap.size) (xs:=[]) (news:=(r.cP.sl 0 k).x.map W) cp ar.size ((cl.bQ ar).ok.rd.noneA' T) (XF _) (by rw[XU,T,ZS]) (cl.bQ ar).ok.rd.cellsA Jh xP (λ_=>rfl) ?_;intro v2 Wf cq ef gb;obtain⟨va,vn,vc,rfl⟩:=Xm.isSlice cq;have eg:=cp.bU ar (XF _) ef;refine aF c Y λWg cr=>?_;have bn:=cq.bR cr (λ_ _ h=>h);have au:=eg.trans cr;refine Xa.appendA (base:=Wb.heap.size) (news:=(r.cP.sl (k+1) r.cP.x.length).x.map W) Xb rfl bn au.size ((cm.bQ au).ok.rd.noneA' U) (by rw[XU,U,ZS]) (cm.bQ au).ok.rd.cellsA Jh xP ?_;intro v3 Wh eh ei gc;have a4:=bn.bU au (XF _) ei;obtain⟨nl,rfl,dn,dp,dq⟩:=Xm.il (x:=(r.cP.sl 0 k).x++(r.cP.sl (k+1) r.cP.x.length).x) (v:=v3) (by rw[XM];exact eh) (by rw[ZE,T,U];omega) (by rw[ZE,T,U];omega);refine aN Y ?_;have fg:=a4.size;refine bF (a4.bP dm) Y λWi dr av gd=>?_;have cs:=(cj.trans a4).sn av;have bo:=av.heap (a4.bP ah) (show ¬rb=kb by omega);have bp:=h.rp.bQ cs;have ge:=h.plen;refine aQ 11 Xf xK Y λc=>aE c bo Y (Xd.slice Xb c rfl (l:=0) (h:=k) (by first|rfl|omega|simp[Dx]) (by first|rfl|omega|simp[Dr]) X X rfl (aE c bo Y (aC c Y (Xd.slice Xb c rfl (l:=(k+1)) (h:=r.ps.length) (by first|rfl|omega|simp[Dx]) (by first|rfl|omega|simp[Dr]) X X rfl ?_))));have ct:=bp.shift (cap:=r.pcap) (lo:=0) (k:=k) X h.pcap;have cu:=bp.shift (cap:=r.pcap) (lo:=k+1) (k:=r.ps.length-(k+1)) X h.pcap;have bq:((r.ps.drop 0).take k).length=k:=by rw[XX,QK];omega
     have br:((r.ps.drop (k+1)).take (r.ps.length-(k+1))).length=r.ps.length-(k+1):=by rw[XX,QK];omega
     refine Xd.cK c rfl λWj cv=>Xo.buildSlice Xb c rfl (λ_=>rfl) λb4 Wk gf ej ek gg=>Xd.cK c rfl λWl cw=>?_;have cx:Xm Wi.heap.size 22 1 Wl (.slice (some ⟨b4,0,none⟩) 0 0) 0 []:=Xm.empty (xH cv.size) (cw.bP ej);have aw:=(cv.trans ek).trans cw;refine Xo.appendA Xb c rfl (base:=Wi.heap.size) (xs:=[]) (news:=((r.ps.drop 0).take k).map Xq) cx aw.size (λe=>xH ((ct.bQ aw).noneA e)) (XF _) (by rw[XU,bq];show k=(k-0)*1;omega) (ct.bQ aw).cellsA Vt xP (λ_=>rfl) ?_;intro v5 Wm cy el gh;obtain⟨vd,ve,vf,rfl⟩:=Xm.isSlice cy;have em:=cx.bU aw (XF _) el;refine aF c Y λWn cz=>?_;have bs:=cy.bR cz (λ_ _ h=>h);have ax:=em.trans cz;refine Xa.appendA (base:=Wi.heap.size) (news:=((r.ps.drop (k+1)).take (r.ps.length-(k+1))).map Xq) Xb rfl bs ax.size (λe=>xH ((cu.bQ ax).noneA e)) (by rw[XU,br,ZS]) (cu.bQ ax).cellsA Vt xP ?_;intro v6 Wo en eo gi;have a5:=bs.bU ax (XF _) eo;obtain⟨ep,c6,rfl,al,bd,am,es⟩:=Xm.pl (ps:=(r.ps.drop 0).take k++(r.ps.drop (k+1)).take (r.ps.length-(k+1))) (v:=v6) (by rw[XM];exact en) (by rw[ZE,bq,br];omega);refine aN Y ?_;have fj:=a5.size;obtain⟨ay,V⟩:∃ay,ay=(r.ps.drop 0).take k++(r.ps.drop (k+1)).take (r.ps.length-(k+1)):=⟨_,rfl⟩;rw[<-V] at al am⊢;refine bF (a5.bP dr) Y λWp bt R gj=>?_;have c1:=((bm.trans (nn a4)).trans av).trans ((nn a5).trans R);have az:=D.bQ P;have et:At Wp d.p pl:=⟨az.p.o.bW I.o c1,az.p.f.bW I.f c1,az.p.eo,az.p.ef⟩;obtain⟨bu,ds⟩:=hof _ (XW hk);simp only at bu ds
     have gk:=hok.cL;refine bB bt Y (aP Y (Xgm d.p m pl Wp et hg bu X) ?_);rintro _ Wq ⟨rp',rfl,eu,ew,ex,d0⟩;refine aN Y ?_;have gl:=d0.size;refine bC Y λub Wr er ey ez gm=>bF ey Y λWs dt f0 gn=>?_;have bv:=ez.sn f0;have y:=d0.trans bv;refine bB dt Y (bF (y.bP bt) Y λWt ai L gp=>?_);obtain⟨r7,bw⟩:∃r7:RS,r7=⟨rp',d.cL,d.cF,nl,ep,c6,ay,ci⟩:=⟨_,rfl⟩;replace ai:Wt.heap[kb]?=some (.cells (Ze r7).toArray 253 (0,0)):=by rw[bw];exact ai
     have fk:Wb.heap.size<=Wp.heap.size:=xH R.size
     have bx:∀Q:Nat->Prop,(∀z,Q z->z<xW.heap.size)->Yq Q r->Yq Q r7:=λQ u K=>by
      rw[bw];exact⟨ew.out (λz hz=>xH (u z hz)),ex.out (λz hz=>xH (u z hz)),(by intro b off s e hz;have:=dq b off s e;have:=u b hz;omega),dl.out (λz hz=>u z hz),(by intro b off s e hz;have:=es b off s e;have:=u b hz;omega),λl2 b0=>K.cI l2 (by
       rw[V] at b0;rcases XS.1 b0 with h1|h1
       .exact ZR (ZB h1)
       .exact ZR (ZB h1))⟩
     have du:Yq (λz=>z=kb) r:=h.out (λz hz=>xH de.size);have dv:=bx (λz=>z=kb) (λz hz=>X) du;have c3:=L;have c4:=((nn a5).trans R).trans ((nn y).trans L);have d1:=(((cs.trans a5).sn R).trans y).sn L;have f2:Qg Wt r7 {x with pg:=Qz x.pg m,cG:=o.filter (λz=>z != m)} (pl.give m):=by
      have g:=dv;rw[bw] at g⊢;have b2:=eu.bQ bv;refine⟨⟨b2.o.bW g.o c3,b2.f.bW g.f c3,b2.eo,b2.ef⟩,(dp.bW g.cP av).bW g.cP c4,(dk.bW g.cG c1).bW g.cG ((nn y).trans L),(al.bW g.pa R).bW g.pa ((nn y).trans L),bd.bQ (by have:=R.size;have:=L.size;have:=y.size;omega),am,λl2 b0=>?_,D.e1,D.e2,?_,?_,?_⟩
      .have:l2∈r.ps:=by
        have d2:=b0;rw[V] at d2;rcases XS.1 d2 with h1|h1
        .exact ZR (ZB h1)
        .exact ZR (ZB h1)
       exact(h.cI l2 this).bQ d1
      .show nl.x=(Qz x.pg m).map _
       rw[dn,Xhp hok.nodup hk,XeG];show(r.cP.x.drop 0).take (k-0)++(r.cP.x.drop (k+1)).take (r.cP.x.length-(k+1))=_
       rw[List.drop_zero,Nat.sub_zero,YV (i:=r.cP.x.length-(k+1)) (by rw[QK];omega),h.e3]
      .show ay.map _=(Qz x.pg m).map _
       rw[V,Xhp hok.nodup hk,XeG,<-h.e4,List.drop_zero,YV (i:=r.ps.length-(k+1)) (by rw[QK];omega),XM,As,List.map_drop]
      .show ci.x=(o.filter _).map _
       rw[dj,D.e5];exact XeL _ _
     have f3:=(c1.trans ((nn y).trans L)).heap (P.bP a3) (show ¬qb=kb by omega);refine bB ai Y ?_;have G:=f3;refine bF G Y λWz H t ba=>?_;have bz:Yq (λz=>z=qb) r7:=bx _ (λz hz=>xH (Xg a3)) (h.out (λz hz=>X));exact aK func225 H Y ⟨r7,rfl,f2.bW bz t,λQ u K=>bx Q (λz hz=>xI (u z hz) a2.size) K,d1.sn t⟩
    .rw[show(if Xt (Yr p i)=0 then pl.give m else pl)=pl from bJ hu];refine bI Y ?_;have bk:x.giveAt m p i={x with pg:=Zx x.pg m (Yr p i),cG:=o}:=by unfold Sm.giveAt;simp only;rw[bJ hu,ho]
     rw[bk];refine bB O Y ?_;have G:=a3;refine bF G Y λWz H t ba=>?_;have bz:Yq (λz=>z=qb) d:=aq _ (λz hz=>X) (h.out (λz hz=>X));exact aK func225 H Y ⟨d,rfl,D.bW bz t,λQ u K=>aq Q (λz hz=>xH (u z hz)) K,a2.sn t⟩
  .rw[show Ca x m i=Q6 p i from by unfold Ca;rw[j],show Ag x m i=x from by unfold Ag;rw[j];simp only;rw[bJ hE],show Bo x pl m i=pl from by unfold Bo;rw[j];simp only;rw[bJ (λh=>hE h.1)]];refine aM Y (show(Q6 p i != 0)=true by simpa using hE) (bB a8 Y ?_);have G:=bc;refine bF G Y λWz H t ba=>?_;exact aK func225 H Y ⟨r,rfl,(h3.bQ M).bW (h.out (λz hz=>X)) t,E2.refl _ _,a9.sn t⟩
end Go.Proofs.YtdeihcnepljjaaaGreatDoor
