/-
  Texts put together: Tz, Idx, Bits, Bits2, Bits3, Page, Page2, Ints, Pool, Pool2, Ring, Ring2, Ring3, Ring4, Shm.
-/
import Derived.Test.YtohjeeapehmkcaaGreatDoorQAbb
import Derived.Test.YtohjeeapehmkcaaGreatDoorQRule10
import Derived.Test.YtohjeeapehmkcaaGreatDoorQPost
import Derived.Test.YtohjeeapehmkcaaGreatDoorQRule12
set_option linter.unusedVariables false
set_option maxRecDepth 100000
namespace Go.Proofs.YtohjeeapehmkcaaGreatDoor
open Go.RowKit
open Bool renaming and_eq_true->XJ,false_eq_true->QD
open Int renaming toNat_natCast->XA,eq_ofNat_of_zero_le->XD
open List renaming getElem?_eq_getElem->XB,getD_eq_getElem?_getD->XC,length_set->XG,length_replicate->XH,map_append->XI,getElem_mem->XK,length_cons->XM,getElem?_map->XR,getElem?_eq_none->XV,getElem?_replicate->XW,getElem?_append_left->XX,filter_cons->XY,mem_cons_of_mem->ZF,mem_cons_self->ZI,replicate_succ->ZT,mem_append_right->ZU,map_congr_left->YA,append_nil->YB,map_set->YD,nodup_nil->YJ,length_range->YK,getElem_map->YM,getElem?_take->YN,getElem?_toArray->YO,set_append_left->YW,range_succ->YX,getElem?_set->YY,ext_getElem?->QF,mem_append_left->QG,getD->QN,mem_cons->QR
open Nat renaming le_refl->XE,zero_le->XL,zero_add->XS,mul_one->ZK,add_assoc->YL,div_add_mod->YV,mod_lt->QM,succ_mul->QP
open Option renaming map_eq_some_iff->QB
open Go.Proofs.Tryz (func111 func115 func133 func172 func184 func185 func186 func187 func188 func191 func196 func214 func215 func216 func217 func218 func220 func222 func223 func224 func228 func230 func232 func236 func250 func251 func252 func253 func254 func255 func256 func257 func258 func259 func267 func268 func269 ntmps111 ntmps115 ntmps133 ntmps172 ntmps184 ntmps185 ntmps186 ntmps187 ntmps188 ntmps191 ntmps196 ntmps214 ntmps215 ntmps216 ntmps217 ntmps218 ntmps220 ntmps222 ntmps223 ntmps224 ntmps228 ntmps230 ntmps232 ntmps236 ntmps250 ntmps251 ntmps252 ntmps253 ntmps254 ntmps255 ntmps256 ntmps257 ntmps258 ntmps259 ntmps267 ntmps268 ntmps269 prog)
variable {ahead by' size u who z:Int}{lg:List (Nat×List Nat)}{bs l p zs:List Int}{l2 ws:List Nat}{cs rest xs:List Value}{N at' b base cap fuel g i j k len lm lo n n0 o off sz t tm vb xb y:Nat}{e:Nat×List Int}{fz:Nat×Nat}{f:Nat->Int}{B C F F' Fr S S' T:Nat->Prop}{a:Option Addr}{α:Type}{v:Value}{w w' w0 w1 w2:World}
theorem U9{x:Nat}(h:x<2^64):(BitVec.ofInt 64 (x:Int)).toNat=x:=by
 rw[BitVec.toNat_ofInt];omega
theorem Xcu{x:Nat}(h:x<2^64):IntKind.u64.wrap (x:Int)=x:=by
 simp only[IntKind.wrap,IntKind.signed,IntKind.bits]
 simp
 omega
theorem XcT{x:Nat}(hx:x<2^64)(hy:y<2^64):Kl .and .u64 x y=((x &&& y:Nat):Int):=by
 have h:(BitVec.ofInt 64 (x:Int) &&& BitVec.ofInt 64 (y:Int)).toNat=x &&& y:=by rw[BitVec.toNat_and,U9 hx,U9 hy]
 show IntKind.u64.wrap ((BitVec.ofInt 64 (x:Int) &&& BitVec.ofInt 64 (y:Int)).toNat:Int)=_
 rw[h,Xcu (Nat.and_lt_two_pow x hy)]
theorem V8{x:Nat}(hx:x<2^64)(hy:y<2^64):Kl .xor .u64 x y=((x ^^^ y:Nat):Int):=by
 have h:(BitVec.ofInt 64 (x:Int) ^^^ BitVec.ofInt 64 (y:Int)).toNat=x ^^^ y:=by rw[BitVec.toNat_xor,U9 hx,U9 hy]
 show IntKind.u64.wrap ((BitVec.ofInt 64 (x:Int) ^^^ BitVec.ofInt 64 (y:Int)).toNat:Int)=_
 rw[h,Xcu (Nat.xor_lt_two_pow hx hy)]
def Lq(x:Nat):Nat:=(2^64-1) ^^^ x
theorem Xdv{x:Nat}(h:x<2^64):Lq x<2^64:=Nat.xor_lt_two_pow (by decide) h
theorem Xah{x:Nat}(hj:j<64):(Lq x).testBit j=!x.testBit j:=by
 unfold Lq;rw[Nat.testBit_xor,Nat.testBit_two_pow_sub_one];simp[hj]
theorem Xm2{x:Nat}(h:x<2^64):La .xor .u64 x=some ((Lq x:Nat):Int):=by
 unfold La Lq;rw[<-V8 (by decide) h];rfl
theorem Xm3{x:Nat}(h:x<2^64)(h0:0<x):La .neg .u64 x=some ((2^64-x:Nat):Int):=by
 unfold La
 congr 1
 simp only[IntKind.wrap,IntKind.signed,IntKind.bits]
 simp
 omega
theorem Xf8(h:j<64):Ka true .u64 1 j=((2^j:Nat):Int):=by
 unfold Ka;rw[if_pos rfl,show min (j:Int).toNat (IntKind.bits .u64)=j from Nat.min_eq_left (by simp only[IntKind.bits];omega)];rw[show(1:Int)*2^j=((2^j:Nat):Int) from by simp];exact Xcu (Nat.pow_lt_pow_right (by decide) h)
theorem Kb{x:Nat}(h:j<64):Ka false .u64 x j=((x/2^j:Nat):Int):=by
 unfold Ka;rw[if_neg (by simp),show min (j:Int).toNat (IntKind.bits .u64)=j from Nat.min_eq_left (by simp only[IntKind.bits];omega)];rw[Int.fdiv_eq_ediv_of_nonneg _ (Int.le_of_lt (Int.pow_pos (by decide)))]
 simp
theorem Xht{x:Nat}:x &&& 1=x%2:=Nat.and_one_is_mod x
theorem Xh0{x:Nat}:(((x/2^j%2:Nat):Int) == 1)=x.testBit j:=by
 rw[Nat.testBit_eq_decide_div_mod_eq,Bool.eq_iff_iff,beq_iff_eq,decide_eq_true_eq];omega
theorem Xhs{x:Nat}(hx:x<2^64)(ht:t<64)(h1:x.testBit t=true)(h0:∀j,j<t->x.testBit j=false):x &&& (2^64-x)=2^t:=by
 have k:x%2^t=0:=by
  apply Nat.eq_of_testBit_eq
  intro i;rw[Nat.testBit_mod_two_pow,Nat.zero_testBit];by_cases hi:i<t
  ·rw[h0 i hi];simp
  ·simp[hi]
 have c:x/2^t%2=1:=by
  rw[Nat.testBit_eq_decide_div_mod_eq] at h1;exact of_decide_eq_true h1
 obtain⟨m,e⟩:∃m,m=x/2^t:=⟨_,rfl⟩;have a:x=2^t*m:=by have:=YV x (2^t);rw[k,<-e] at this;omega
 rw[<-e] at c;obtain⟨q,f⟩:∃q,m=2*q+1:=⟨m/2,by omega⟩;have b:x-1=2^t*(2*q)+(2^t-1):=by
  rw[a,f,Nat.mul_add,ZK];omega
 have g:x=(x-1)+1:=by
  have:0<x:=by rw[a,f];exact Nat.mul_pos (Nat.pow_pos (by decide)) (by omega)
  omega
 apply Nat.eq_of_testBit_eq
 intro j;rw[Nat.testBit_and,Nat.testBit_two_pow];have d:(2^64-x).testBit j=(decide (j<64) && !(x-1).testBit j):=by
  rw[g];exact Nat.testBit_two_pow_sub_succ (by omega) j
 rw[d];rcases Nat.lt_trichotomy j t with h|h|h
 ·rw[h0 j h];simp;omega
 ·subst h;rw[h1,b,Nat.testBit_two_pow_mul_add _ (by omega)];simp[ht]
 ·obtain⟨i,hi⟩:∃i,j-t=i+1:=⟨j-t-1,by omega⟩;have e1:x.testBit j=m.testBit (i+1):=by
   rw[a,Nat.testBit_two_pow_mul];rw[hi]
   simp
   omega
  have e2:(x-1).testBit j=(2*q).testBit (i+1):=by
   rw[b,Nat.testBit_two_pow_mul_add _ (by omega),if_neg (by omega),hi]
  rw[e1,e2,Nat.testBit_add_one,Nat.testBit_add_one,show m/2=q from by omega,show 2*q/2=q from by omega];have:(decide (t=j))=false:=decide_eq_false (by omega);rw[this];cases q.testBit i <;> simp
def Js:List Nat:=[0,1,56,2,57,49,28,3,61,58,42,50,38,29,17,4,62,47,59,36,45,43,51,22,53,39,33,30,24,18,12,5,63,55,48,27,60,41,37,16,46,35,44,21,52,32,23,11,54,26,40,15,34,20,31,10,25,14,19,9,13,8,7,6]
theorem Xiw:∀t,t<64->Js[(2^t*285870213051353865)%2^64/2^58]?=some t:=by decide+kernel
def En(x n:Nat):Prop:=x<2^n/\(0<n->2^(n-1)<=x)
theorem En.zero:En 0 0:=⟨by decide,λh=>by omega⟩
theorem En.shift{x m:Nat}(h:En (x/2^k) m)(hm:0<m):En x (m+k):=by
 obtain⟨b,c⟩:=h;have a:0<2^k:=Nat.pow_pos (by decide);refine⟨?_,λ_=>?_⟩
 ·rw[Nat.pow_add];exact(Nat.div_lt_iff_lt_mul a).1 b
 ·rw[show m+k-1=(m-1)+k from by omega,Nat.pow_add];exact(Nat.le_div_iff_mul_le a).1 (c hm)
theorem En.pos{x:Nat}(h:En x n)(hx:0<x):0<n:=by
 rcases Nat.eq_zero_or_pos n with h0|h0
 ·subst h0;have:=h.1;simp at this;omega
 ·exact h0
theorem En.top{x:Nat}(h:En x n)(hn:0<n):x.testBit (n-1)=true/\∀j,n<=j->x.testBit j=false:=by
 refine⟨?_,λj a=>Nat.testBit_lt_two_pow (Nat.lt_of_lt_of_le h.1 (Nat.pow_le_pow_right (by decide) a))⟩;apply Nat.testBit_of_two_pow_le_and_two_pow_add_one_gt (h.2 hn)
 rw[show n-1+1=n from by omega];exact h.1
theorem En.le{x:Nat}(h:En x n)(hx:x<2^k):n<=k:=by
 rcases Nat.lt_or_ge k n with hk|hk
 ·have a:=h.2 (by omega);have b:2^k<=2^(n-1):=Nat.pow_le_pow_right (by decide) (by omega);omega
 ·exact hk
def Ho(x:Nat):Nat:=if x=0 then 0 else Nat.log2 x+1
theorem Ev{x:Nat}(h:x<256):En x (Ho x):=by
 unfold Ho;by_cases a:x=0
 ·subst a;rw[if_pos rfl];exact En.zero
 ·rw[if_neg a];exact⟨Nat.lt_log2_self,λ_=>Nat.log2_self_le a⟩
def idx{α:Type}(p:α->Bool)(l:List α):Int:=match l.findIdx? p with|some i=>i|none=>-1
theorem I5{p:α->Bool}{l:List α}(hk:k<l.length)(hpre:∀j (h:j<l.length),j<k->p l[j]=false)(h:p l[k]=true):idx p l=k:=by
 unfold idx;have:l.findIdx? p=some k:=by
  rw[List.findIdx?_eq_some_iff_getElem];exact⟨hk,h,λj a=>by simpa using hpre j (by omega) a⟩
 rw[this]
theorem Hl{p:α->Bool}{l:List α}(hpre:∀j (h:j<l.length),p l[j]=false):idx p l=-1:=by
 unfold idx;have:l.findIdx? p=none:=by
  rw[List.findIdx?_eq_none_iff];intro x a;obtain⟨j,b,rfl⟩:=List.mem_iff_getElem.1 a;exact hpre j b
 rw[this]
theorem Xau{p:α->Bool}{l:List α}:(0<=idx p l)↔l.any p=true:=by
 unfold idx;cases h:l.findIdx? p with
 |none=>
  rw[List.findIdx?_eq_none_iff] at h;simp only[List.any_eq_true];constructor
  ·intro c;omega
  ·rintro⟨x,b,a⟩;rw[h x b] at a;cases a
 |some i=>
  rw[List.findIdx?_eq_some_iff_getElem] at h;obtain⟨hi,a,_⟩:=h;simp only[List.any_eq_true];exact⟨λ_=>⟨_,XK hi,a⟩,λ_=>by omega⟩
theorem Gp(h:k<zs.length):zs.getD k 0=zs[k]:=by simp[h]
def Ru{α:Type}(p:α->Bool)(l:List α):Int:=match l.reverse.findIdx? p with|some i=>(l.length:Int)-1-i|none=>-1
theorem Xbx{p:α->Bool}{l:List α}(hk:k<l.length)(hpost:∀j (h:j<l.length),k<j->p l[j]=false)(h:p l[k]=true):Ru p l=k:=by
 unfold Ru;have:l.reverse.findIdx? p=some (l.length-1-k):=by
  rw[List.findIdx?_eq_some_iff_getElem];refine⟨by simp;omega,?_,λj a=>?_⟩
  ·rw[List.getElem_reverse];simp only[show l.length-1-(l.length-1-k)=k from by omega];exact h
  ·rw[List.getElem_reverse];simpa using hpost _ (by omega) (by omega)
 rw[this];simp only
 omega
theorem XfK{p:α->Bool}{l:List α}(hall:∀j (h:j<l.length),p l[j]=false):Ru p l=-1:=by
 unfold Ru;have:l.reverse.findIdx? p=none:=by
  rw[List.findIdx?_eq_none_iff];intro x a;rw[List.mem_reverse] at a;obtain⟨j,b,rfl⟩:=List.mem_iff_getElem.1 a;exact hall j b
 rw[this]
def Eo(w:World)(a:Option Addr)(bs:List Bool):Prop:=∀i (h:i<bs.length),∃b off,a=some ⟨b,off,none⟩/\w.cell? ⟨b,off+i,none⟩=some (.bool bs[i])
theorem Eo.of{c:Array Value}{t:TypeId}{bs:List Bool}(h:w.heap[b]?=some (.cells c t fz))(hc:c=(bs.map Value.bool).toArray):Eo w (some ⟨b,0,none⟩) bs:=λi hi=>
 ⟨b,0,rfl,by rw[Yt h,hc];simp[hi]⟩
theorem Eo.chg{bs:List Bool}(h:Eo w a bs)(hc:Xc Xe w w'):Eo w' a bs:=λi hi=>by
 obtain⟨b,off,e,c⟩:=h i hi;exact⟨b,off,e,Sq hc.below c⟩
theorem Eo.keep{bs:List Bool}{q:Nat}{c:Array Value}(hr:Eo w a bs)(hq:w.heap[q]?=some (.cells c t fz))(hc:∀x∈c.toList,∀z,x≠.bool z)(hs:Xc (λb=>b=q) w w'):Eo w' a bs:=λj f=>by
 obtain⟨b,off,e,d⟩:=hr j f;refine⟨b,off,e,hs.cell d (λg=>?_)⟩;subst g;rw[Yt hq] at d;exact hc _ (Array.mem_toList_iff.2 (Array.mem_of_getElem? d)) _ rfl
theorem Eo.cells{a:Addr}{bs:List Bool}(h:Eo w (some a) bs):∀i u,(bs.map Value.bool)[i]?=some u->w.cell? (a.add i)=some u:=by
 intro i u d;rw[XR,QB] at d;obtain⟨z,c,rfl⟩:=d;have hi:=(List.getElem?_eq_some_iff.1 c).1;obtain⟨b,off,e,f⟩:=h i hi;cases e
 rw[Cl,f];rw[XB hi] at c;cases c;rfl
theorem Eo.of_take{cur:Array Value}{bs:List Bool}(h:w.heap[g]?=some (.cells cur t fz))(hc:cur.toList.take bs.length=bs.map Value.bool):Eo w (some ⟨g,0,none⟩) bs:=λi hi=>by
 refine⟨g,0,rfl,?_⟩;have a:(cur.toList.take bs.length)[i]?=(bs.map Value.bool)[i]?:=by rw[hc]
 rw[YN,if_pos hi] at a;rw[Yt h];simp only[XS];rw[<-Array.getElem?_toList,a];simp[hi]
def Bb(w:World):Prop:=∀j,j<64->w.cell? ⟨0,j,none⟩=some (.int .u8 (Js.getD j 0:Nat))
theorem Bb.chg(h:Bb w)(hc:Xc S w w')(hs:¬S 0):Bb w':=λj a=>hc.cell (h j a) hs
theorem Bb.grow(h:Bb w)(hc:Xc Xe w w'):Bb w':=h.chg hc id
theorem Xh4(x t:Nat)(w:World)(hT0:Bb w)(hx:x<2^64)(ht:t<64)(h1:x.testBit t=true)(h0:∀j,j<t->x.testBit j=false):Xf prog 268 #[.int .u64 x] w (Za (.int .i64 t) w):=by
 have e:0<x:=by
  rcases Nat.eq_zero_or_pos x with h|h
  ·subst h;simp at h1
  ·exact h
 refine ζe func268 ntmps268 ϱ (ζF ϱ (by simp;omega) (Xa.un Xb rfl (Xm3 hx e) rfl (Xa.bits Xb rfl (XcT hx (by omega)) rfl ?_)));rw[Xhs hx ht h1 h0];have b:=Xiw t ht;obtain⟨j,c⟩:∃j,j=(2^t*285870213051353865)%2^64/2^58:=⟨_,rfl⟩;rw[<-c] at b;have d:j<64:=by rw[c];exact(Nat.div_lt_iff_lt_mul (by decide)).2 (Nat.lt_of_lt_of_le (QM _ (by decide)) (by decide))
 refine Xa.arith Xb rfl (show IntKind.u64.wrap (((2^t:Nat):Int)*285870213051353865)=(((2^t*285870213051353865)%2^64:Nat):Int) from by simp only[IntKind.wrap,IntKind.signed,IntKind.bits];simp) rfl (Xa.shift Xb rfl (by omega) (show Ka false .u64 (((2^t*285870213051353865)%2^64:Nat):Int) 58=(((2^t*285870213051353865)%2^64/2^58:Nat):Int) from Kb (j:=58) (by decide)) rfl ?_);rw[<-c];have a:w.cell? ⟨0,0+j,none⟩=some (.int .u8 (t:Int)):=by rw[XS,hT0 j d,XC,b];rfl
 exact ζi j ϱ (ζk ϱ a ϱ (ζj ϱ (ζr func268 ϱ ⟨rfl,rfl⟩)))
theorem Xh5(w:World):Xf prog 268 #[.int .u64 0] w (Za (.int .i64 64) w):=by
 exact ζe func268 ntmps268 ϱ (ζy ϱ (ζr func268 ϱ ⟨rfl,rfl⟩))
theorem Lc:IntKind.u8.wrap z=z%256:=by
 simp only[IntKind.wrap,IntKind.signed,IntKind.bits]
 simp
theorem Ks{b:ByteArray}(h:∀z:Fin 256,(b[z.val]?).map (λx=>(x.toNat:Int))=some ((Ho z.val:Nat):Int))(hy:y<256):(b[((y:Nat):Int).toNat]?).map (λx=>(x.toNat:Int))=some ((Ho y:Nat):Int):=by
 rw[XA];exact h ⟨y,hy⟩
def Ff(x y c:Nat):Prop:=∀m,En y m->En x (m+c)
theorem Ff.step{x c:Nat}(h:Ff x y c)(hy:2^k<=y):Ff x (y/2^k) (k+c):=λm a=>by
 have:=h _ (a.shift (a.pos (Nat.div_pos hy (Nat.pow_pos (by decide)))))
 rwa [YL] at this
theorem Ff.self(x:Nat):Ff x x 0:=λm a=>a
theorem Xh2(x:Nat)(w:World)(hx:x<2^64):Xf prog 267 #[.int .u64 x] w (λv w'=>∃n,En x n/\v=.int .i64 n/\w=w'):=by
 refine ζe func267 ntmps267 ϱ (ζg ϱ (λh=>?_) λh=>?_)
 ·have g:4294967296<=x:=by have:=of_decide_eq_true h;omega
  refine Xa.shift Xb rfl (by omega) (Kb (x:=x) (j:=32) (by decide)) rfl ?_;have l:x/2^32<4294967296:=by omega
  refine ζg ϱ (λc=>?_) λc=>?_
  ·have e:65536<=x/2^32:=by have:=of_decide_eq_true c;omega
   have i:(x/2^32)/2^16<65536:=by omega
   refine Xa.shift Xb rfl (by omega) (Kb (x:=x/2^32) (j:=16) (by decide)) rfl (ζj ϱ (ζg ϱ (λb=>?_) λb=>?_))
   ·have f:256<=(x/2^32)/2^16:=by have:=of_decide_eq_true b;omega
    have a:((x/2^32)/2^16)/2^8<256:=by omega
    have d:=(Ev a).le (k:=8) a;exact Xa.shift Xb rfl (by omega) (Kb (x:=(x/2^32)/2^16) (j:=8) (by decide)) rfl (ζj ϱ (Xa.arith Xb rfl (show IntKind.u8.wrap ((((x/2^32)/2^16)/2^8:Nat):Int)=((((x/2^32)/2^16)/2^8:Nat):Int) from by rw[Lc];omega) rfl (Xa.sidx Xb rfl (by omega) (Ks (by decide+kernel) a) rfl (ζj ϱ (ζj ϱ (ζr func267 ϱ ⟨Ho (((x/2^32)/2^16)/2^8)+(8+(16+(32+0))),((((((Ff.self x).step (k:=32) g)).step (k:=16) e)).step (k:=8) f) _ (Ev a),X0 (by omega),rfl⟩))))))
   ·have a:((x/2^32)/2^16)<256:=by have:=of_decide_eq_false b;omega
    have d:=(Ev a).le (k:=8) a;exact Xa.arith Xb rfl (show IntKind.u8.wrap (((x/2^32)/2^16:Nat):Int)=(((x/2^32)/2^16:Nat):Int) from by rw[Lc];omega) rfl (Xa.sidx Xb rfl (by omega) (Ks (by decide+kernel) a) rfl (ζj ϱ (ζj ϱ (ζr func267 ϱ ⟨Ho ((x/2^32)/2^16)+(16+(32+0)),(((((Ff.self x).step (k:=32) g)).step (k:=16) e)) _ (Ev a),X0 (by omega),rfl⟩))))
  ·have i:(x/2^32)<65536:=by have:=of_decide_eq_false c;omega
   refine ζg ϱ (λb=>?_) λb=>?_
   ·have f:256<=x/2^32:=by have:=of_decide_eq_true b;omega
    have a:(x/2^32)/2^8<256:=by omega
    have d:=(Ev a).le (k:=8) a;exact Xa.shift Xb rfl (by omega) (Kb (x:=x/2^32) (j:=8) (by decide)) rfl (ζj ϱ (Xa.arith Xb rfl (show IntKind.u8.wrap (((x/2^32)/2^8:Nat):Int)=(((x/2^32)/2^8:Nat):Int) from by rw[Lc];omega) rfl (Xa.sidx Xb rfl (by omega) (Ks (by decide+kernel) a) rfl (ζj ϱ (ζj ϱ (ζr func267 ϱ ⟨Ho ((x/2^32)/2^8)+(8+(32+0)),((((Ff.self x).step (k:=32) g)).step (k:=8) f) _ (Ev a),X0 (by omega),rfl⟩))))))
   ·have a:(x/2^32)<256:=by have:=of_decide_eq_false b;omega
    have d:=(Ev a).le (k:=8) a;exact Xa.arith Xb rfl (show IntKind.u8.wrap ((x/2^32:Nat):Int)=((x/2^32:Nat):Int) from by rw[Lc];omega) rfl (Xa.sidx Xb rfl (by omega) (Ks (by decide+kernel) a) rfl (ζj ϱ (ζj ϱ (ζr func267 ϱ ⟨Ho (x/2^32)+(32+0),(((Ff.self x).step (k:=32) g)) _ (Ev a),X0 (by omega),rfl⟩))))
 ·have l:x<4294967296:=by have:=of_decide_eq_false h;omega
  refine ζg ϱ (λc=>?_) λc=>?_
  ·have e:65536<=x:=by have:=of_decide_eq_true c;omega
   have i:(x)/2^16<65536:=by omega
   refine Xa.shift Xb rfl (by omega) (Kb (x:=x) (j:=16) (by decide)) rfl (ζj ϱ (ζg ϱ (λb=>?_) λb=>?_))
   ·have f:256<=(x)/2^16:=by have:=of_decide_eq_true b;omega
    have a:((x)/2^16)/2^8<256:=by omega
    have d:=(Ev a).le (k:=8) a;exact Xa.shift Xb rfl (by omega) (Kb (x:=(x)/2^16) (j:=8) (by decide)) rfl (ζj ϱ (Xa.arith Xb rfl (show IntKind.u8.wrap ((((x)/2^16)/2^8:Nat):Int)=((((x)/2^16)/2^8:Nat):Int) from by rw[Lc];omega) rfl (Xa.sidx Xb rfl (by omega) (Ks (by decide+kernel) a) rfl (ζj ϱ (ζj ϱ (ζr func267 ϱ ⟨Ho (((x)/2^16)/2^8)+(8+(16+(0))),((((Ff.self x).step (k:=16) e)).step (k:=8) f) _ (Ev a),X0 (by omega),rfl⟩))))))
   ·have a:((x)/2^16)<256:=by have:=of_decide_eq_false b;omega
    have d:=(Ev a).le (k:=8) a;exact Xa.arith Xb rfl (show IntKind.u8.wrap (((x)/2^16:Nat):Int)=(((x)/2^16:Nat):Int) from by rw[Lc];omega) rfl (Xa.sidx Xb rfl (by omega) (Ks (by decide+kernel) a) rfl (ζj ϱ (ζj ϱ (ζr func267 ϱ ⟨Ho ((x)/2^16)+(16+(0)),(((Ff.self x).step (k:=16) e)) _ (Ev a),X0 (by omega),rfl⟩))))
  ·have i:(x)<65536:=by have:=of_decide_eq_false c;omega
   refine ζg ϱ (λb=>?_) λb=>?_
   ·have f:256<=x:=by have:=of_decide_eq_true b;omega
    have a:(x)/2^8<256:=by omega
    have d:=(Ev a).le (k:=8) a;exact Xa.shift Xb rfl (by omega) (Kb (x:=x) (j:=8) (by decide)) rfl (ζj ϱ (Xa.arith Xb rfl (show IntKind.u8.wrap (((x)/2^8:Nat):Int)=(((x)/2^8:Nat):Int) from by rw[Lc];omega) rfl (Xa.sidx Xb rfl (by omega) (Ks (by decide+kernel) a) rfl (ζj ϱ (ζj ϱ (ζr func267 ϱ ⟨Ho ((x)/2^8)+(8+(0)),((Ff.self x).step (k:=8) f) _ (Ev a),X0 (by omega),rfl⟩))))))
   ·have a:(x)<256:=by have:=of_decide_eq_false b;omega
    have d:=(Ev a).le (k:=8) a;exact Xa.arith Xb rfl (show IntKind.u8.wrap ((x:Nat):Int)=((x:Nat):Int) from by rw[Lc];omega) rfl (Xa.sidx Xb rfl (by omega) (Ks (by decide+kernel) a) rfl (ζj ϱ (ζj ϱ (ζr func267 ϱ ⟨Ho (x)+(0),(Ff.self x) _ (Ev a),X0 (by omega),rfl⟩))))
def cnt:List Bool->Nat
 |[]=>0
 |b::r=>(if b then 1 else 0)+cnt r
theorem Np:∀(x:List Bool),cnt x<=x.length
 |[]=>XE _
 |b::r=>by have:=Np r;simp only[cnt,XM];split <;> omega
theorem S3:∀{x:List Bool},cnt x=x.length -> ∀j (h:j<x.length),x[j]=true
 |[],_,j,h=>by simp at h
 |b::r,a,j,h=>by
  have:=Np r;simp only[cnt,XM] at a;cases b with
  |false=>simp at a;omega
  |true=>
   cases j with
   |zero=>rfl
   |succ j=>simp;exact S3 (by simp at a;omega) j (by simpa using h)
theorem Xac:∀{x:List Bool},cnt x≠x.length -> ∃j,∃h:j<x.length,x[j]=false
 |[],a=>by simp[cnt] at a
 |b::r,a=>by
  cases b with
  |false=>exact⟨0,by simp,rfl⟩
  |true=>
   have:cnt r≠r.length:=by simp only[cnt,XM] at a;simp at a;omega
   obtain⟨j,h,e⟩:=Xac this;exact⟨j+1,by simpa using h,by simpa using e⟩
theorem S4:∀(x:List Bool) (i:Nat) (h:i<x.length) (b:Bool),cnt (x.set i b)+(if x[i] then 1 else 0)=cnt x+(if b then 1 else 0)
 |[],i,h,b=>by simp at h
 |a::r,0,h,b=>by simp only[List.set_cons_zero,cnt,List.getElem_cons_zero];omega
 |a::r,i+1,h,b=>by
  have:=S4 r i (by simpa using h) b;simp only[List.set_cons_succ,cnt,List.getElem_cons_succ];omega
theorem Xad(n:Nat):cnt (List.replicate n false)=0:=by
 induction n with
 |zero=>rfl
 |succ n ih=>simp[ZT,cnt,ih]
def Fq(x:List Bool):Int:=idx (λb=>!b) x
def Pq(x:List Bool):Int:=Ru id x
def Fk(x:List Bool)(i:Int):Bool:=decide (0<=i) && x.getD i.toNat false
def Fm(x:List Bool)(i:Int):Bool:=decide (0<=i) && decide (i<x.length)
theorem XiX{x:List Bool}{i:Int}(h:Fk x i=true):Fm x i=true:=by
 unfold Fk at h;unfold Fm;simp only[XJ,decide_eq_true_eq] at h⊢;refine⟨h.1,?_⟩;rcases Nat.lt_or_ge i.toNat x.length with h2|h2
 ·omega
 ·have:=h.2;rw[XC,XV h2] at this;cases this
def Ej(x:List Bool)(i:Int)(b:Bool):Int:=
 if Fm x i=false then 1 else if b && Fk x i then 10 else if !b && !Fk x i then 9 else 0
def Io(x:List Bool)(i:Int)(b:Bool):List Bool:=if Ej x i b=0 then x.set i.toNat b else x
def Ch(ws:List Nat)(x:List Bool):List Value:=ws.map (λn:Nat=>Value.int .u64 (n:Int))++[Value.int .i64 (x.length:Int),Value.int .i64 (cnt x:Int)]
structure A7(w:World)(b:Nat)(x:List Bool):Prop where
 tab:Bb w
 ws:∃ws:List Nat,ws.length=8/\(∀k,ws.getD k 0<2^64)/\(∀k j,j<64->(ws.getD k 0).testBit j=x.getD (64*k+j) false)/\
  w.heap[b]?=some (.cells (Ch ws x).toArray 312 (0,0))
 pos:1<=x.length
 len:x.length<=512
theorem A7.chg{S:Nat->Prop}{w w':World}{b:Nat}{x:List Bool}(h:A7 w b x)(hc:Xc S w w')(hs:¬S b)(hg:¬S 0):A7 w' b x:=by
 obtain⟨ws,a,c,d,e⟩:=h.ws;exact⟨h.tab.chg hc hg,⟨ws,a,c,d,hc.heap e hs⟩,h.pos,h.len⟩
theorem A7.grow{x:List Bool}(h:A7 w b x)(hc:Xc Xe w w'):A7 w' b x:=h.chg hc id id
theorem A7.ne{x:List Bool}(h:A7 w b x):0≠b:=by
 obtain⟨ws,a,f,g,d⟩:=h.ws;intro e;have:=h.tab 0 (by decide);subst e;rw[Yt d] at this
 match ws,a with
 |c::r,_=>simp[Ch] at this
theorem Xh7{x:List Bool}(h1:ws.length=8)(h:w.heap[b]?=some (.cells (Ch ws x).toArray 312 (0,0))):w.cell? ⟨b,8,none⟩=some (.int .i64 x.length):=by
 rw[Yt h];simp[Ch,h1]
theorem Xh6{x:List Bool}(h1:ws.length=8)(h:w.heap[b]?=some (.cells (Ch ws x).toArray 312 (0,0))):w.cell? ⟨b,9,none⟩=some (.int .i64 (cnt x)):=by
 rw[Yt h];simp[Ch,h1]
theorem V9{x:List Bool}(h1:ws.length=8)(h:w.heap[b]?=some (.cells (Ch ws x).toArray 312 (0,0)))(hk:k<8):w.cell? ⟨b,0+k,none⟩=some (.int .u64 (ws.getD k 0:Nat)):=by
 have a:k<ws.length:=by omega
 rw[Yt h,XS];simp only[YO,XC,Ch];rw[XX (by simpa using a),XR,XB a];rfl
theorem A7.many{x:List Bool}(h:A7 w b x):w.cell? ⟨b,8,none⟩=some (.int .i64 x.length):=by
 obtain⟨ws,a,d,e,c⟩:=h.ws;exact Xh7 a c
theorem A7.cnt{x:List Bool}(h:A7 w b x):w.cell? ⟨b,9,none⟩=some (.int .i64 (cnt x)):=by
 obtain⟨ws,a,d,e,c⟩:=h.ws;exact Xh6 a c
theorem A7.lt{x:List Bool}(h:A7 w b x):b<w.heap.size:=by
 obtain⟨ws,c,d,e,a⟩:=h.ws;exact Xg a
theorem Xar(n k:Nat)(x:α):(List.replicate n x).getD k x=x:=by
 rw[XC,XW];split <;> rfl
theorem Xh3(m:Nat)(w:World)(hT0:Bb w)(h:1<=m/\m<=512):Xf prog 230 #[.int .i64 m] w (λv w'=>∃b,v=.tuple #[.pointer (some ⟨b,0,none⟩),.int .i64 0]/\w.heap.size<=b/\A7 w' b (List.replicate m false)/\Xc Xe w w'):=by
 refine ζe func230 ntmps230 ϱ (ζf ϱ (ζf ϱ (ζb ϱ (ζn ϱ λb f e1 d a e=>?_))));have c:(List.replicate m false).length=m:=XH;exact ζr func230 ϱ ⟨b,rfl,by omega,⟨hT0.grow a,⟨List.replicate 8 0,rfl,λk=>by rw[Xar];decide,λk j g=>by rw[Xar,Xar];simp,by unfold Ch;rw[c,Xad];exact d⟩,by omega,by omega⟩,a⟩
theorem XcY(b:Nat)(x:List Bool)(i:Int)(w:World)(h:A7 w b x):Xf prog 269 #[.pointer (some ⟨b,0,none⟩),.int .i64 i] w (Za (.bool (Fm x i)) w):=by
 refine ζe func269 ntmps269 ϱ (ζg ϱ (λa=>?_) λa=>?_)
 ·have c:=of_decide_eq_true a;exact ζk ϱ h.many ϱ (ζr func269 ϱ ⟨Ai (by unfold Fm;rw[decide_eq_true c];rfl),rfl⟩)
 ·have c:=of_decide_eq_false a;exact ζr func269 ϱ ⟨Ai (by unfold Fm;rw[decide_eq_false c];rfl),rfl⟩
theorem Ss(b:Nat)(x:List Bool)(i:Int)(w:World)(h:A7 w b x):Xf prog 253 #[.pointer (some ⟨b,0,none⟩),.int .i64 i] w (Za (.bool (Fk x i)) w):=by
 have m:=h.len;obtain⟨ws,e,f,g,j⟩:=h.ws;refine ζe func253 ntmps253 ϱ (ζw (XcY b x i w h) ϱ ?_);cases a:Fm x i with
 |false=>
  have d:Fk x i=false:=by cases k:Fk x i;rfl;rw[XiX k] at a;cases a
  exact ζf ϱ (ζr func253 ϱ ⟨Ai d.symm,rfl⟩)
 |true=>
  have hi:0<=i/\i<x.length:=by unfold Fm at a;simpa using a
  obtain⟨i,rfl⟩:=XD hi.1;have l:i/64<8:=by omega
  refine ζy ϱ (Xa.div Xb rfl (by omega) (Fy (by omega) (by omega)) rfl (ζi (i/64) ϱ (ζk ϱ (V9 e j l) ϱ (Xa.div Xb rfl (by omega) (E9 (by omega)) rfl ?_))));rw[show((i:Int)%64)=((i%64:Nat):Int) from by omega];refine Xa.shift Xb rfl (by omega) (Kb (by omega)) rfl (Xa.bits Xb rfl (XcT (y:=1) (Nat.lt_of_le_of_lt (Nat.div_le_self _ _) (f _)) (by decide)) rfl ?_);rw[Xht];have c:=g (i/64) (i%64) (by omega);rw[show 64*(i/64)+i%64=i from by omega] at c;exact ζr func253 ϱ ⟨Ai (by rw[Xh0,c];unfold Fk;simp),rfl⟩
theorem XcV(b:Nat)(x:List Bool)(w:World)(h:A7 w b x):Xf prog 256 #[.pointer (some ⟨b,0,none⟩)] w (Za (.int .i64 (cnt x)) w):=by
 exact ζe func256 ntmps256 ϱ (ζk ϱ h.cnt ϱ (ζr func256 ϱ ⟨rfl,rfl⟩))
theorem Xf6(hk:k<ws.length):(ws.map (λn:Nat=>Value.int .u64 (n:Int))++rest).set k (.int .u64 (n:Int))=(ws.set k n).map (λn:Nat=>Value.int .u64 (n:Int))++rest:=by
 rw[YW _ _ (by simpa using hk),YD]
theorem Nw{l:List α}{x d:α}(hi:i<l.length):(l.set i x).getD j d=if j=i then x else l.getD j d:=by
 simp only[XC,YY];by_cases h:i=j
 ·subst h;simp[hi]
 ·rw[if_neg h,if_neg (Ne.symm h)]
theorem J6:∀(l:List Value) (i:Nat) (v:Value),i<l.length->Yd l i [v]=some (l.set i v)
 |x::r,0,v,_=>by simp[Yd]
 |x::r,i+1,v,h=>by simp[Yd,J6 r i v (by simpa using h)]
theorem XcX(b:Nat)(x:List Bool)(i:Int)(is:Bool)(w:World)(h:A7 w b x):Xf prog 255 #[.pointer (some ⟨b,0,none⟩),.int .i64 i,.bool is] w
 (λv w'=>v=.int .i64 (Ej x i is)/\A7 w' b (Io x i is)/\Xc (λz=>z=b) w w'):=by
 have U:=h.len;have L:=h.ne;have B:Ej x i is≠0->A7 w b (Io x i is):=λR=>by unfold Io;rw[if_neg R];exact h
 obtain⟨ws,d,y,A,K⟩:=h.ws;refine ζe func255 ntmps255 ϱ (ζw (XcY b x i w h) ϱ ?_);cases e:Fm x i with
 |false=>
  have f:Ej x i is=1:=by unfold Ej;rw[if_pos e]
  exact ζy ϱ (ζr func255 ϱ ⟨by rw[f],B (by rw[f];decide),Xc.refl _ _⟩)
 |true=>
  refine ζf ϱ ?_;cases is with
  |true=>
   refine ζy ϱ (ζw (Ss b x i w h) ϱ ?_);cases g:Fk x i with
   |true=>
    have f:Ej x i true=10:=by unfold Ej;rw[e,g];rfl
    exact ζy ϱ (ζr func255 ϱ ⟨by rw[f],B (by rw[f];decide),Xc.refl _ _⟩)
   |false=>
    refine ζf ϱ (ζf ϱ ?_);have hi:0<=i/\i<x.length:=by unfold Fm at e;simpa using e
    obtain⟨i,rfl⟩:=XD hi.1;have M:i/64<8:=by omega
    have C:(Ch ws x).length=10:=by simp[Ch,d]
    have t:=A (i/64) (i%64) (by omega);rw[show 64*(i/64)+i%64=i from by omega] at t;have m:x.getD i false=false:=by have:=g;unfold Fk at this;simpa using this
    have o:(2:Nat)^(i%64)<2^64:=Nat.pow_lt_pow_right (by decide) (by omega);obtain⟨nw,l⟩:∃nw,nw=ws.getD (i/64) 0 ^^^ 2^(i%64):=⟨_,rfl⟩;refine ζd 14 Xe (by kernel_rfl) ϱ λa=>Xd.div Xb a rfl (by omega) (Fy (by omega) (by omega)) rfl (δi (i/64) a ϱ (δk a (V9 d K M) ϱ (Xd.div Xb a rfl (by omega) (E9 (by omega)) rfl ?_)));rw[show((i:Int)%64)=((i%64:Nat):Int) from by omega];refine Xd.shift Xb a rfl (by omega) (Xf8 (by omega)) rfl (Xd.bits Xb a rfl (V8 (y _) o) rfl (δi (i/64) a ϱ ?_));rw[<-l];refine δn a ϱ λS p=>ζS ϱ (p.heap' K) (show Yd (Ch ws x) (0+i/64) [.int .u64 (nw:Int)]=some ((ws.set (i/64) nw).map (λn:Nat=>Value.int .u64 (n:Int))++[Value.int .i64 (x.length:Int),Value.int .i64 (cnt x:Int)]) from by rw[XS,J6 _ _ _ (by rw[C];omega)];unfold Ch;rw[Xf6 (by omega)]) ϱ λN q D P=>?_;have E:N.cell? ⟨b,9,none⟩=some (.int .i64 (cnt x)):=by rw[Yt q];simp[d]
    have O:=Np x;have c:=S4 x i (by omega) true;have u:x[i]'(by omega)=false:=by rw[<-m,XC,XB (by omega)];rfl
    rw[u] at c
    first|refine Xa.yes Xb rfl rfl rfl ?_|refine Xa.no Xb rfl rfl rfl ?_
    refine ζk ϱ E ϱ (ζJ ϱ (by simp at c;omega) (ζS ϱ q (show Yd ((ws.set (i/64) nw).map (λn:Nat=>Value.int .u64 (n:Int))++[Value.int .i64 (x.length:Int),Value.int .i64 (cnt x:Int)]) 9 [.int .i64 ((cnt x:Int)+1)]=some (Ch (ws.set (i/64) nw) (x.set i true)) from by rw[J6 _ _ _ (by simp[d]),List.set_append_right _ _ (by simp[d])];unfold Ch;simp[d];simp at c;omega) ϱ λT F G Q=>?_));have r:=(p.gr.trans D).trans G;have f:Ej x i true=0:=by unfold Ej;rw[e,g];rfl
    have H:Io x i true=x.set i true:=by unfold Io;rw[if_pos f];simp
    exact Xa.ret1 Xb rfl func255 rfl rfl ⟨by rw[f],by rw[H];exact⟨h.tab.chg r L,⟨_,by simp[d],λk=>by
     rw[Nw (by omega)];split
     ·rw[l];exact Nat.xor_lt_two_pow (y _) o
     ·exact y k,λk j I=>by
     rw[Nw (by omega),Nw (by omega)];by_cases s:k=i/64
     ·subst s;rw[if_pos rfl,l,Nat.testBit_xor,Nat.testBit_two_pow,A _ j I];by_cases J:j=i%64
      ·subst J;rw[if_pos (by omega),show 64*(i/64)+i%64=i from by omega,m];simp
      ·rw[if_neg (by omega),decide_eq_false (by omega)];simp
     ·rw[if_neg s,if_neg (by omega)];exact A k j I,F⟩,by simpa using h.pos,by simpa using h.len⟩,r⟩
  |false=>
   refine ζf ϱ (ζy ϱ (ζw (Ss b x i w h) ϱ ?_));cases g:Fk x i with
   |false=>
    have f:Ej x i false=9:=by unfold Ej;rw[e,g];rfl
    exact ζy ϱ (ζr func255 ϱ ⟨by rw[f],B (by rw[f];decide),Xc.refl _ _⟩)
   |true=>
    refine ζf ϱ ?_;have hi:0<=i/\i<x.length:=by unfold Fm at e;simpa using e
    obtain⟨i,rfl⟩:=XD hi.1;have M:i/64<8:=by omega
    have C:(Ch ws x).length=10:=by simp[Ch,d]
    have t:=A (i/64) (i%64) (by omega);rw[show 64*(i/64)+i%64=i from by omega] at t;have m:x.getD i false=true:=by have:=g;unfold Fk at this;simpa using this
    have o:(2:Nat)^(i%64)<2^64:=Nat.pow_lt_pow_right (by decide) (by omega);obtain⟨nw,l⟩:∃nw,nw=ws.getD (i/64) 0 ^^^ 2^(i%64):=⟨_,rfl⟩;refine ζd 14 Xe (by kernel_rfl) ϱ λa=>Xd.div Xb a rfl (by omega) (Fy (by omega) (by omega)) rfl (δi (i/64) a ϱ (δk a (V9 d K M) ϱ (Xd.div Xb a rfl (by omega) (E9 (by omega)) rfl ?_)));rw[show((i:Int)%64)=((i%64:Nat):Int) from by omega];refine Xd.shift Xb a rfl (by omega) (Xf8 (by omega)) rfl (Xd.bits Xb a rfl (V8 (y _) o) rfl (δi (i/64) a ϱ ?_));rw[<-l];refine δn a ϱ λS p=>ζS ϱ (p.heap' K) (show Yd (Ch ws x) (0+i/64) [.int .u64 (nw:Int)]=some ((ws.set (i/64) nw).map (λn:Nat=>Value.int .u64 (n:Int))++[Value.int .i64 (x.length:Int),Value.int .i64 (cnt x:Int)]) from by rw[XS,J6 _ _ _ (by rw[C];omega)];unfold Ch;rw[Xf6 (by omega)]) ϱ λN q D P=>?_;have E:N.cell? ⟨b,9,none⟩=some (.int .i64 (cnt x)):=by rw[Yt q];simp[d]
    have O:=Np x;have c:=S4 x i (by omega) false;have u:x[i]'(by omega)=true:=by rw[<-m,XC,XB (by omega)];rfl
    rw[u] at c
    first|refine Xa.yes Xb rfl rfl rfl ?_|refine Xa.no Xb rfl rfl rfl ?_
    refine ζk ϱ E ϱ (ζJ ϱ (by simp at c;omega) (ζS ϱ q (show Yd ((ws.set (i/64) nw).map (λn:Nat=>Value.int .u64 (n:Int))++[Value.int .i64 (x.length:Int),Value.int .i64 (cnt x:Int)]) 9 [.int .i64 ((cnt x:Int)-1)]=some (Ch (ws.set (i/64) nw) (x.set i false)) from by rw[J6 _ _ _ (by simp[d]),List.set_append_right _ _ (by simp[d])];unfold Ch;simp[d];simp at c;omega) ϱ λT F G Q=>?_));have r:=(p.gr.trans D).trans G;have f:Ej x i false=0:=by unfold Ej;rw[e,g];rfl
    have H:Io x i false=x.set i false:=by unfold Io;rw[if_pos f];simp
    exact Xa.ret1 Xb rfl func255 rfl rfl ⟨by rw[f],by rw[H];exact⟨h.tab.chg r L,⟨_,by simp[d],λk=>by
     rw[Nw (by omega)];split
     ·rw[l];exact Nat.xor_lt_two_pow (y _) o
     ·exact y k,λk j I=>by
     rw[Nw (by omega),Nw (by omega)];by_cases s:k=i/64
     ·subst s;rw[if_pos rfl,l,Nat.testBit_xor,Nat.testBit_two_pow,A _ j I];by_cases J:j=i%64
      ·subst J;rw[if_pos (by omega),show 64*(i/64)+i%64=i from by omega,m];simp
      ·rw[if_neg (by omega),decide_eq_false (by omega)];simp
     ·rw[if_neg s,if_neg (by omega)];exact A k j I,F⟩,by simpa using h.pos,by simpa using h.len⟩,r⟩
theorem Xjj(h:y≠0):∃t,y.testBit t=true/\∀j,j<t->y.testBit j=false:=by
 obtain⟨i,hi⟩:=Nat.exists_testBit_of_ne_zero h;have key:∀n,∀i,i<=n->y.testBit i=true -> ∃t,y.testBit t=true/\∀j,j<t->y.testBit j=false:=by
  intro n
  induction n with
  |zero=>intro i hi b;exact⟨i,b,λj c=>by omega⟩
  |succ n ih=>
   intro i hi b;by_cases a:∀j,j<i->y.testBit j=false
   ·exact⟨i,b,a⟩
   ·have:∃j,j<i/\y.testBit j=true:=by
     apply Classical.byContradiction
     intro d;apply a
     intro j c;cases f:y.testBit j with
     |false=>rfl
     |true=>exact(d ⟨j,c,f⟩).elim
    obtain⟨j,c,e⟩:=this;exact ih j (by omega) e
 exact key i i (XE _) hi
theorem Xg4(hk:k<ws.length):(ws.map (λn:Nat=>Value.int .u64 (n:Int)))[((k:Nat):Int).toNat]?=some (.int .u64 (ws.getD k 0:Nat)):=by
 rw[XA,XR,XB hk,XC,XB hk];rfl
theorem XcZ{x:List Bool}(h1:ws.length=8)(h:w.heap[b]?=some (.cells (Ch ws x).toArray 312 (0,0))):∀j v,(ws.map (λn:Nat=>Value.int .u64 (n:Int)))[j]?=some v->w.cell? ⟨b,0+j,none⟩=some v:=λj v a=>by
 have c:j<ws.length:=by have:=(List.getElem?_eq_some_iff.1 a).1;simpa using this
 rw[Yt h,XS,YO];unfold Ch;rw[XX (by simpa using c)];exact a
theorem XdV{x:List Bool}(h:x.getD j false=true):j<x.length:=by
 rcases Nat.lt_or_ge j x.length with h2|h2
 ·exact h2
 ·rw[XC,XV h2] at h;cases h
theorem Hk{x:List Bool}(h:j<x.length):x[j]=x.getD j false:=by simp[QN,h]
theorem XcW(b:Nat)(x:List Bool)(w:World)(h:A7 w b x):Xf prog 252 #[.pointer (some ⟨b,0,none⟩)] w (Grow (.int .i64 (Fq x)) w):=by
 have J:=h.len;refine ζe func252 ntmps252 ϱ (Xa.quiet rfl Xo (by kernel_rfl) (Xi.adv Xb rfl (Xi.load Xb rfl h.cnt rfl (Xi.load Xb rfl h.many rfl (Xi.nil λF l=>ζa ϱ ?_)))));have z:=h.grow l;obtain⟨ws,G,s,u,H⟩:=z.ws;by_cases a:cnt x=x.length
 ·exact ζY ϱ (by rw[a];exact beq_self_eq_true _) (ζr func252 ϱ ⟨X0 (Hl (p:=λb=>!b) (λj i=>by rw[S3 a j i];rfl)).symm,l⟩)
 ·obtain⟨A,B,c⟩:=Xac a;rw[Hk B] at c;refine ζF ϱ (by simp;omega) (Xa.loadC Xb (ws.map (λn:Nat=>Value.int .u64 (n:Int))) rfl (by first|rfl|(simp;done)|(simp[*];done)|(simp;omega)) (XcZ G H) rfl ?_);refine Xa.loop (α:=Nat) (λk=>[(3,false,.int .i64 (-1)),(23,false,.agg (ws.map (λn:Nat=>Value.int .u64 (n:Int))).toArray),(24,false,.int .i64 k)])
   (λk w'=>w'=F/\k<=8/\∀j,j<64*k->x.getD j false=true) (λk=>8-k) 0 ⟨rfl,rfl,rfl,trivial⟩ ⟨rfl,by omega,λj i=>by omega⟩ ?_
  rintro k C ⟨I,K,e⟩ ih;subst I;refine ζa ϱ (ζg ϱ (λv=>?_) λv=>?_)
  ·have D:k<8:=by have:=of_decide_eq_true v;omega
   refine Xa.aidx Xb rfl (by first|rfl|(simp;done)|(simp[*];done)|(simp;omega)) (by omega) (Xg4 (by omega)) rfl (Xa.un Xb rfl (Xm2 (s k)) rfl ?_);by_cases y:Lq (ws.getD k 0)=0
   ·rw[y];refine ζw (Xh5 C) ϱ (ζf ϱ (ζj ϱ ?_));exact ih (k+1) _ _ ⟨rfl,by omega,λj i=>by
     by_cases d:j<64*k
     ·exact e j d
     ·have m:=Xah (x:=ws.getD k 0) (j:=j-64*k) (by omega);rw[y,Nat.zero_testBit,u k _ (by omega),show 64*k+(j-64*k)=j from by omega] at m
      simpa using m.symm⟩ (by omega) ⟨rfl,rfl,rfl,trivial⟩
   ·obtain⟨t,g,q⟩:=Xjj y;have f:t<64:=by
     rcases Nat.lt_or_ge t 64 with h'|h'
     ·exact h'
     ·rw[Nat.testBit_lt_two_pow (Nat.lt_of_lt_of_le (Xdv (s k)) (Nat.pow_le_pow_right (by decide) h'))] at g;cases g
    have E:x.getD (64*k+t) false=false:=by
     rw[<-u k t f];have:=Xah (x:=ws.getD k 0) f;rw[g] at this
     simpa using this.symm
    have o:∀j,j<64*k+t->x.getD j false=true:=λj i=>by
     by_cases d:j<64*k
     ·exact e j d
     ·have m:=Xah (x:=ws.getD k 0) (j:=j-64*k) (by omega);rw[q _ (by omega),u k _ (by omega),show 64*k+(j-64*k)=j from by omega] at m
      simpa using m.symm
    have r:64*k+t<x.length:=by
     rcases Nat.lt_or_ge (64*k+t) x.length with h'|h'
     ·exact h'
     ·rw[o A (by omega)] at c;cases c
    exact ζw (Xh4 (Lq (ws.getD k 0)) t C z.tab (Xdv (s k)) f g q) ϱ (ζy ϱ (ζj ϱ (ζj ϱ (ζr func252 ϱ ⟨X0 (by have:=I5 (p:=λb=>!b) r (λj i d=>by rw[Hk i,o j d];rfl) (by rw[Hk r,E];rfl);unfold Fq;rw[this];omega),l⟩))))
  ·exfalso
   have D:k=8:=by have:=of_decide_eq_false v;omega
   rw[e A (by omega)] at c;cases c
theorem Xh1(b:Nat)(x:List Bool)(w:World)(h:A7 w b x):Xf prog 251 #[.pointer (some ⟨b,0,none⟩)] w (Za (.int .i64 (Pq x)) w):=by
 have K:=h.len;obtain⟨ws,D,v,q,E⟩:=h.ws;refine ζe func251 ntmps251 ϱ (Xa.loadC Xb (ws.map (λn:Nat=>Value.int .u64 (n:Int))) rfl (by first|rfl|(simp;done)|(simp[*];done)|(simp;omega)) (XcZ D E) rfl ?_);refine Xa.loop (α:=Nat×Int) (λp=>[(3,false,.int .i64 p.2),(11,false,.agg (ws.map (λn:Nat=>Value.int .u64 (n:Int))).toArray),(12,false,.int .i64 p.1)])
  (λp w'=>w'=w/\p.1<=8/\((p.2=-1/\∀j,j<64*p.1->x.getD j false=false)\/(∃i:Nat,i<64*p.1/\p.2=i/\x.getD i false=true/\∀j,i<j->j<64*p.1->x.getD j false=false))) (λp=>8-p.1) (0,-1) ⟨rfl,rfl,rfl,trivial⟩ ⟨rfl,by omega,.inl ⟨rfl,λj a=>by omega⟩⟩ ?_
 rintro⟨k,at'⟩ F ⟨G,H,e⟩ ih;simp only at H e
 subst G;refine ζa ϱ (ζg ϱ (λr=>?_) λr=>?_)
 ·have m:k<8:=by have:=of_decide_eq_true r;omega
  refine Xa.aidx Xb rfl (by first|rfl|(simp;done)|(simp[*];done)|(simp;omega)) (by omega) (Xg4 (by omega)) rfl ?_;by_cases s:ws.getD k 0=0
  ·refine ζF ϱ (by rw[s];rfl) (ζj ϱ ?_);have o:∀j,64*k<=j->j<64*(k+1)->x.getD j false=false:=λj a d=>by
    have y:=q k (j-64*k) (by omega);rw[s,Nat.zero_testBit,show 64*k+(j-64*k)=j from by omega] at y;exact y.symm
   refine ih (k+1,at') _ _ ⟨rfl,by simp only;omega,?_⟩ (by simp only;omega) ⟨rfl,rfl,rfl,trivial⟩;rcases e with⟨f,c⟩|⟨i,f,c,g,t⟩
   ·exact .inl ⟨f,λj a=>by by_cases l:j<64*k;exact c j l;exact o j (by omega) a⟩
   ·exact .inr ⟨i,by simp only;omega,c,g,λj a d=>by by_cases l:j<64*k;exact t j a l;exact o j (by omega) d⟩
  ·refine ζY ϱ (by simpa using s) (ζj ϱ (ζc ϱ (Xh2 (ws.getD k 0) F (v k)) ?_));rintro _ L ⟨n,u,rfl,rfl⟩;have z:=u.pos (by omega);have I:=u.le (v k);refine ζa ϱ (ζj ϱ (ζj ϱ (ζj ϱ ?_)));obtain⟨A,B⟩:=u.top z;refine ih (k+1,(k:Int)*64+n-1) _ _ ⟨rfl,by simp only;omega,.inr ⟨64*k+(n-1),by simp only;omega,by simp only;omega,?_,λj a d=>?_⟩⟩ (by simp only;omega) ⟨rfl,rfl,rfl,trivial⟩
   ·rw[<-q k (n-1) (by omega)];exact A
   ·have:=q k (j-64*k) (by simp only at d;omega);rw[show 64*k+(j-64*k)=j from by omega] at this;rw[<-this];exact B _ (by omega)
 ·have m:k=8:=by have:=of_decide_eq_false r;omega
  subst m;have J:at'=Pq x:=by
   unfold Pq;rcases e with⟨f,c⟩|⟨i,f,c,g,t⟩
   ·rw[f,XfK (λj a=>by rw[Hk a];exact c j (by omega))]
   ·rw[c,Xbx (XdV g) (λj a C=>by rw[Hk a];exact t j C (by omega)) (by rw[Hk (XdV g)];exact g)]
  exact ζr func251 ϱ ⟨X0 J,rfl⟩
def Y4(x:List Int):List Bool:=x.map λo=>!(o == -1)
def Z4(x:List Int)(i:Int):Int:=if 0<=i then x.getD i.toNat (-1) else -1
def Yf(x:List Int):Int:=Fq (Y4 x)
def Kw(x:List Int):Int:=Pq (Y4 x)
def Xu(x:List Int):Nat:=cnt (Y4 x)
def C1(x:List Int)(who:Int):Int:=if who<0 then 1 else if Yf x<0 then 5 else 0
def Cs(x:List Int)(who:Int):Int:=if C1 x who=0 then Yf x else 0
def Z5(x:List Int)(who:Int):List Int:=if C1 x who=0 then x.set (Yf x).toNat who else x
def Qx(x:List Int)(i:Int):Int:=if i<0\/(x.length:Int)<=i then 1 else if Z4 x i=-1 then 9 else 0
def Z7(x:List Int)(i:Int):List Int:=if Qx x i=0 then x.set i.toNat (-1) else x
def Ak(x:List Int)(i who:Int):Int:=if i<0\/(x.length:Int)<=i\/who<0 then 1 else if Z4 x i=-1 then 9 else 0
def Bp(x:List Int)(i who:Int):List Int:=if Ak x i who=0 then x.set i.toNat who else x
theorem Ew(x:List Int):(Y4 x).length=x.length:=by simp[Y4]
theorem Rb(x:List Int)(k:Nat):(Y4 x).getD k false=!(x.getD k (-1) == -1):=by
 unfold Y4;rw[XC,XR,XC];cases h:x[k]? <;> simp
theorem T4(x:List Int)(i:Int):Fk (Y4 x) i=!(Z4 x i == -1):=by
 unfold Fk Z4;rw[Rb];by_cases h:0<=i
 ·rw[if_pos h,decide_eq_true h];rfl
 ·rw[if_neg h,decide_eq_false h];rfl
theorem Xa9(x:List Int)(i:Int):Fm (Y4 x) i=true↔0<=i/\i<x.length:=by
 unfold Fm;rw[Ew];simp
theorem Tz(x:List Int)(i:Nat)(v:Int):Y4 (x.set i v)=(Y4 x).set i (!(v == -1)):=by
 unfold Y4;rw[YD]
theorem Xa8{x:List Int}{i:Int}(h:i<0\/(x.length:Int)<=i):Z4 x i=-1:=by
 unfold Z4;by_cases a:0<=i
 ·rw[if_pos a,XC,XV (by omega)];rfl
 ·rw[if_neg a]
theorem Xdm:∀(x:List Bool) (k:Nat) (h:k<x.length),cnt (x.take (k+1))=cnt (x.take k)+(if x[k] then 1 else 0)
 |[],k,h=>by simp at h
 |a::r,0,h=>by simp[cnt]
 |a::r,k+1,h=>by
  have:=Xdm r k (by simpa using h);simp only[List.take_succ_cons,cnt,List.getElem_cons_succ];rw[this];omega
theorem Xez{x:List Bool}(hfull:cnt x≠x.length):∃t,t<x.length/\x.getD t false=false/\∀j,j<t->x.getD j false=true:=by
 obtain⟨g,e,a⟩:=Xac hfull;have key:∀m t,t<=m->t<x.length->x.getD t false=false -> ∃t,t<x.length/\x.getD t false=false/\∀j,j<t->x.getD j false=true:=by
  intro m
  induction m with
  |zero=>intro t i b c;exact⟨t,b,c,λj f=>by omega⟩
  |succ m ihm=>
   intro t i b c;by_cases d:∀j,j<t->x.getD j false=true
   ·exact⟨t,b,c,d⟩
   ·have:∃j,j<t/\x.getD j false=false:=by
     apply Classical.byContradiction
     intro h;apply d
     intro j f;cases k:x.getD j false with
     |true=>rfl
     |false=>exact(h ⟨j,f,k⟩).elim
    obtain⟨j,f,a⟩:=this;exact ihm j (by omega) (by omega) a
 exact key g g (XE _) e (by rw[<-Hk e];exact a)
theorem Xjr{x:List Bool}(h:0<=Fq x):(Fq x).toNat<x.length/\x.getD (Fq x).toNat false=false:=by
 unfold Fq at h⊢;by_cases e:cnt x=x.length
 ·rw[Hl (p:=λb=>!b) (λj d=>by rw[S3 e j d];rfl)] at h;exact absurd h (by decide)
 ·obtain⟨t,a,c,f⟩:=Xez e;rw[I5 (p:=λb=>!b) a (λj d g=>by rw[Hk d,f j g];rfl) (by rw[Hk a,c];rfl)];exact⟨a,c⟩
theorem XaI{x:List Bool}:Fq x<0↔cnt x=x.length:=by
 unfold Fq;by_cases a:cnt x=x.length
 ·rw[Hl (p:=λb=>!b) (λj d=>by rw[S3 a j d];rfl)];exact⟨λ_=>a,λ_=>by decide⟩
 ·obtain⟨t,c,e,f⟩:=Xez a;rw[I5 (p:=λb=>!b) c (λj d g=>by rw[Hk d,f j g];rfl) (by rw[Hk c,e];rfl)];exact⟨λh=>by omega,λh=>absurd h a⟩
structure Pg where
 p:Nat
 bb:Nat
 mb:Nat
abbrev Eg(g:Pg):Value:=.pointer (some ⟨g.p,0,none⟩)
def Fv(g:Pg):Nat->Prop:=λz=>z=g.bb\/z=g.mb
def Re(g:Pg)(x:List Int):List Value:=[.pointer (some ⟨g.bb,0,none⟩),.int .i64 (x.length:Int),.map (some g.mb)]
structure Q3(w:World)(g:Pg)(x:List Int):Prop where
 pc:w.heap[g.p]?=some (.cells (Re g x).toArray 286 (0,0))
 bits:A7 w g.bb (Y4 x)
 own:∃m,Y6 w g.mb m/\(Bc m).Nodup/\∀i,i<x.length->x.getD i (-1)≠-1->Bk m i=some (.int .i64 (x.getD i (-1)))
 npb:g.p≠g.bb
 npm:g.p≠g.mb
 nbm:g.bb≠g.mb
theorem Q3.chg{S:Nat->Prop}{w w':World}{g:Pg}{x:List Int}(h:Q3 w g x)(hc:Xc S w w')(h1:¬S g.p)(h2:¬S g.bb)(h3:¬S g.mb)(hg:¬S 0):Q3 w' g x:=by
 obtain⟨m,a,b,c⟩:=h.own;exact⟨hc.heap h.pc h1,h.bits.chg hc h2 hg,⟨m,a.chg hc h3,b,c⟩,h.npb,h.npm,h.nbm⟩
theorem Q3.grow{g:Pg}{x:List Int}(h:Q3 w g x)(hc:Xc Xe w w'):Q3 w' g x:=h.chg hc id id id id
theorem Q3.lt{w:World}{g:Pg}{x:List Int}(h:Q3 w g x):g.p<w.heap.size/\g.bb<w.heap.size/\g.mb<w.heap.size:=by
 obtain⟨m,a,b,c⟩:=h.own;exact⟨Xg h.pc,h.bits.lt,a.lt⟩
theorem Q3.footlt{g:Pg}{x:List Int}(h:Q3 w g x):∀b,Fv g b->b<w.heap.size:=λb a=>by
 obtain⟨_,c,d⟩:=h.lt;rcases a with rfl|rfl
 ·exact c
 ·exact d
theorem Q3.notab{g:Pg}{x:List Int}(h:Q3 w g x):0≠g.mb:=λe=>by
 obtain⟨m,⟨es,c,a,_⟩,b,d⟩:=h.own;have:=h.bits.tab 0 (by decide);rw[e] at this;simp only[World.cell?,a] at this;cases this
theorem Xe4(m:Nat)(w:World)(hT0:Bb w)(h:1<=m/\m<=512):Xf prog 187 #[.int .i64 m] w
 (λv w'=>∃g,v=.tuple #[Eg g,.int .i64 0]/\(w.heap.size<=g.p/\w.heap.size<=g.bb/\w.heap.size<=g.mb)/\Q3 w' g (List.replicate m (-1))/\Xc Xe w w'):=by
 refine ζe func187 ntmps187 ϱ (ζc ϱ (Xh3 m w hT0 h) ?_);rintro _ x ⟨bb,rfl,f,c,d⟩;refine ζa ϱ (ζf ϱ (Xa.mkmap rfl λmb y q j e r=>ζa ϱ (ζb ϱ (ζn ϱ λp z e3 o a s=>?_))));have k:=(c.grow e).grow a;have t:=c.lt;have u:=d.size;have b:(List.replicate m (-1:Int)).length=m:=XH;have l:Y4 (List.replicate m (-1))=List.replicate m false:=by simp[Y4]
 refine ζr func187 ϱ ⟨⟨p,bb,mb⟩,rfl,⟨by simp only;omega,f,by simp only;omega⟩,⟨by unfold Re;rw[b];exact o,by rw[l];exact k,⟨[],j.chg a id,YJ,λi hi n=>absurd (by rw[b] at hi;rw[XC,XW,if_pos hi];rfl) n⟩,by simp only;omega,by simp only;omega,by simp only;omega⟩,(d.trans e).trans a⟩
theorem Xe8(g:Pg)(x:List Int)(w:World)(h:Q3 w g x):Xf prog 259 #[Eg g] w (Za (.int .i64 (Xu x)) w):=by
 exact ζe func259 ntmps259 ϱ (ζl h.pc ϱ (ζw (XcV g.bb _ w h.bits) ϱ (ζr func259 ϱ ⟨rfl,rfl⟩)))
theorem Xkc(g:Pg)(x:List Int)(w:World)(h:Q3 w g x):Xf prog 218 #[Eg g] w (Grow (.int .i64 (Yf x)) w):=by
 exact ζe func218 ntmps218 ϱ (ζl h.pc ϱ (ζv (XcW g.bb _ w h.bits) ϱ λb a=>ζr func218 ϱ ⟨rfl,a⟩))
theorem Xkf(g:Pg)(x:List Int)(w:World)(h:Q3 w g x):Xf prog 217 #[Eg g] w (Za (.int .i64 (Kw x)) w):=by
 exact ζe func217 ntmps217 ϱ (ζl h.pc ϱ (ζw (Xh1 g.bb _ w h.bits) ϱ (ζr func217 ϱ ⟨rfl,rfl⟩)))
theorem P8(g:Pg)(x:List Int)(w:World)(h:Q3 w g x):Xf prog 223 #[Eg g] w (Grow (.bool ((Xu x:Int) == x.length)) w):=by
 exact ζe func223 ntmps223 ϱ (ζd 15 Xe (by kernel_rfl) ϱ λa=>Xd.yes Xb a rfl rfl rfl (δl a h.pc ϱ (δw a (λw' b=>XcV g.bb _ w' (h.bits.grow b)) ϱ (δl a h.pc ϱ (δn a ϱ λd c=>ζr func223 ϱ ⟨rfl,c⟩)))))
theorem Xke(g:Pg)(x:List Int)(i:Int)(w:World)(h:Q3 w g x):Xf prog 220 #[Eg g,.int .i64 i] w (Za (.int .i64 (Z4 x i)) w):=by
 refine ζe func220 ntmps220 ϱ (ζf ϱ (ζl h.pc ϱ (ζw (Ss g.bb _ i w h.bits) ϱ ?_)));rw[T4];cases d:(Z4 x i == -1) with
 |true=>
  exact ζy ϱ (ζr func220 ϱ ⟨X0 (show -1=Z4 x i from(by simpa using d:Z4 x i=-1).symm),rfl⟩)
 |false=>
  refine ζf ϱ ?_;obtain⟨m,e,j,f⟩:=h.own;have a:Z4 x i≠-1:=by simpa using d
  have b:0<=i/\i<x.length:=Classical.byContradiction λl=>a (Xa8 (by omega));obtain⟨k,rfl⟩:=XD b.1;have c:Z4 x k=x.getD k (-1):=by unfold Z4;rw[if_pos b.1];rfl
  exact ζl h.pc ϱ (Xa.lookup Xb rfl (e) ((show Bf m (.int .i64 0) k false=.int .i64 (Z4 x k) by unfold Bf;rw[(f k (by omega) (by rw[<-c];exact a)),c];rfl)) rfl (ζr func220 ϱ ⟨rfl,rfl⟩))
theorem Xe6(i:Int)(w:World):Xf prog 220 #[.pointer none,.int .i64 i] w (Za (.int .i64 (-1)) w):=by
 exact ζe func220 ntmps220 ϱ (ζr func220 ϱ ⟨rfl,rfl⟩)
variable {G:Nat->Pg}
theorem T5{x:List Int}(h:¬Yf x<0):(Yf x).toNat<x.length/\x.getD (Yf x).toNat (-1)=-1:=by
 obtain⟨a,b⟩:=Xjr (x:=Y4 x) (by unfold Yf at h;omega);rw[Ew] at a;rw[Rb] at b;exact⟨a,show x.getD (Fq (Y4 x)).toNat (-1)=-1 by simpa using b⟩
theorem Nx(x:List Int)(i j:Nat)(v:Int):(x.set i v).getD j (-1)=if i=j/\i<x.length then v else x.getD j (-1):=by
 rw[XC,YY,XC];by_cases h:i=j
 ·subst h;by_cases a:i<x.length
  ·simp[a]
  ·simp[a]
 ·simp[h]
theorem Xe7(g:Pg)(x:List Int)(who:Int)(w:World)(h:Q3 w g x):Xf prog 222 #[Eg g,.int .i64 who] w
 (λv w'=>v=.tuple #[.int .i64 (Cs x who),.int .i64 (C1 x who)]/\Q3 w' g (Z5 x who)/\Xc (Fv g) w w'):=by
 have A:=h.bits.len;rw[Ew] at A;by_cases B:who<0
 ·have a:C1 x who=1:=by unfold C1;rw[if_pos B]
  have j:Cs x who=0:=by unfold Cs;rw[a];rfl
  have k:Z5 x who=x:=by unfold Z5;rw[a];rfl
  rw[a,j,k];exact ζe func222 ntmps222 ϱ (ζy ϱ (ζr func222 ϱ ⟨rfl,h,Xc.refl _ _⟩))
 ·by_cases c:Yf x<0
  ·have a:C1 x who=5:=by unfold C1;rw[if_neg B,if_pos c]
   have j:Cs x who=0:=by unfold Cs;rw[a];rfl
   have k:Z5 x who=x:=by unfold Z5;rw[a];rfl
   have b:((Xu x:Int) == x.length)=true:=by have:=XaI.1 c;rw[Ew] at this;unfold Xu;rw[this];exact beq_self_eq_true _
   rw[a,j,k];refine ζe func222 ntmps222 ϱ (ζf ϱ (ζv (P8 g x w h) ϱ λD d=>?_));rw[b];exact ζy ϱ (ζr func222 ϱ ⟨rfl,h.grow d,d.mono (λ_ _ h=>h.elim)⟩)
  ·have a:C1 x who=0:=by unfold C1;rw[if_neg B,if_neg c]
   have j:Cs x who=Yf x:=by unfold Cs;rw[a];rfl
   have k:Z5 x who=x.set (Yf x).toNat who:=by unfold Z5;rw[a];rfl
   have b:((Xu x:Int) == x.length)=false:=by
    rw[beq_eq_false_iff_ne];intro e;exact c (XaI.2 (by rw[Ew];unfold Xu at e;omega))
   obtain⟨s,t⟩:=T5 c;rw[a,j,k];refine ζe func222 ntmps222 ϱ (ζf ϱ (ζv (P8 g x w h) ϱ λD d=>?_));rw[b];have l:=h.grow d;refine ζf ϱ (ζl l.pc ϱ (ζv (XcW g.bb _ D l.bits) ϱ λH u=>?_));have f:=l.grow u;obtain⟨m,I,J,E⟩:=f.own;refine ζl f.pc ϱ (Xa.mapset Xb rfl (I) λK F n N=>ζa ϱ ?_);have o:=n.heap f.pc h.npm;refine ζl o ϱ (ζc ϱ (XcX g.bb _ (Fq (Y4 x)) true K (f.bits.chg n h.nbm f.notab)) ?_);rintro _ L ⟨rfl,y,p⟩;refine ζa ϱ ?_;have z:Ej (Y4 x) (Fq (Y4 x)) true=0:=by
    unfold Ej;rw[if_neg (by rw[(Xa9 x _).2 ⟨by unfold Yf at c;omega,by unfold Yf at s c;omega⟩];decide),if_neg (by rw[T4];unfold Z4;unfold Yf at t;rw[t];split <;> decide),if_neg (by simp)]
   have G:Io (Y4 x) (Fq (Y4 x)) true=Y4 (x.set (Yf x).toNat who):=by
    unfold Io;rw[if_pos z,Tz,show(!(who == -1))=true from by simp;omega];rfl
   rw[z];rw[G] at y;have C:Xc (Fv g) H L:=(n.mono λ_ _ h=>.inr h).trans (p.mono λ_ _ h=>.inl h);have q:=p.heap o h.npb;exact Xa.ret2 Xb rfl func222 rfl rfl rfl ⟨rfl,⟨by unfold Re at q⊢;rw[XG];exact q,y,⟨_,(F.chg p h.nbm.symm),XaR J _ _,λi hi r=>by
    rw[I0,Nx];rw[XG] at hi;by_cases e:(i:Int)=Fq (Y4 x)
    ·rw[if_pos e,if_pos ⟨by unfold Yf;omega,s⟩]
    ·rw[Nx] at r;have e':¬((Yf x).toNat=i/\(Yf x).toNat<x.length):=λM=>e (by unfold Yf at M c;omega);rw[if_neg e'] at r⊢;rw[if_neg e];exact E i hi r⟩,h.npb,h.npm,h.nbm⟩,(((d.trans u).mono (λ_ _ h=>h.elim)).trans C)⟩
theorem Xkb(g:Pg)(x:List Int)(i:Int)(w:World)(h:Q3 w g x):Xf prog 228 #[Eg g,.int .i64 i] w
 (λv w'=>v=.int .i64 (Qx x i)/\Q3 w' g (Z7 x i)/\Xc (Fv g) w w'):=by
 have q:Ej (Y4 x) i false=Qx x i:=by
  unfold Ej Qx;by_cases hi:0<=i/\i<x.length
  ·rw[if_neg (by rw[(Xa9 x i).2 hi];decide),if_neg (by simp),if_neg (show ¬(i<0\/(x.length:Int)<=i) by omega),T4];by_cases a:Z4 x i=-1
   ·rw[if_pos a,if_pos (by rw[a];rfl)]
   ·rw[if_neg a,if_neg (by simpa using a)]
  ·rw[if_pos (by cases B:Fm (Y4 x) i;rfl;exact absurd ((Xa9 x i).1 B) hi),if_pos (by omega)]
 have C:Io (Y4 x) i false=Y4 (Z7 x i):=by
  unfold Io Z7;rw[q];split
  ·rw[Tz];rfl
  ·rfl
 have l:(Z7 x i).length=x.length:=by unfold Z7;split <;> simp
 obtain⟨m,D,r,s⟩:=h.own;refine ζe func228 ntmps228 ϱ (ζl h.pc ϱ (Xa.mapdel Xb rfl (D) λt u b F=>ζa ϱ ?_));have c:=b.heap h.pc h.npm;have y:A7 t g.bb (Y4 x):=h.bits.chg b h.nbm h.notab;refine ζl c ϱ (ζc ϱ (XcX g.bb _ i false t y) ?_);rintro _ H ⟨rfl,n,d⟩;refine ζa ϱ ?_;rw[q];rw[C] at n;have z:=u.chg d h.nbm.symm;have f:=d.heap c h.npb;exact Xa.ret1 Xb rfl func228 rfl rfl ⟨rfl,⟨by unfold Re at f⊢;rw[l];exact f,n,⟨_,z,XeT r _,λj o k=>by
  rw[l] at o;rw[Lh r];by_cases e:(j:Int)=i
  ·exfalso
   apply k
   unfold Z7 Qx;subst e;have A:Z4 x (j:Int)=x.getD j (-1):=by unfold Z4;rw[if_pos (by omega)];rfl
   rw[if_neg (show ¬((j:Int)<0\/(x.length:Int)<=j) by omega)];by_cases a:Z4 x (j:Int)=-1
   ·rw[if_pos a,if_neg (by decide),<-A];exact a
   ·rw[if_neg a,if_pos rfl,XA,Nx,if_pos ⟨rfl,o⟩]
  ·rw[if_neg e];have E:(Z7 x i).getD j (-1)=x.getD j (-1):=by
    unfold Z7;split
    ·rename_i p
     have G:0<=i:=Classical.byContradiction λI=>by unfold Qx at p;rw[if_pos (by omega)] at p;cases p
     rw[Nx,if_neg (by omega)]
    ·rfl
   rw[E] at k⊢;exact s j o k⟩,h.npb,h.npm,h.nbm⟩,(b.mono λ_ _ h=>.inr h).trans (d.mono λ_ _ h=>.inl h)⟩
theorem Xkd(g:Pg)(x:List Int)(i who:Int)(w:World)(h:Q3 w g x):Xf prog 232 #[Eg g,.int .i64 i,.int .i64 who] w
 (λv w'=>v=.int .i64 (Ak x i who)/\Q3 w' g (Bp x i who)/\Xc (Fv g) w w'):=by
 have n:∀e:Int,Ak x i who=e->e≠0->Bp x i who=x:=λe q r=>by unfold Bp;rw[q,if_neg r]
 refine ζe func232 ntmps232 ϱ ?_;by_cases q:who<0
 ·have a:Ak x i who=1:=by unfold Ak;rw[if_pos (by omega)]
  rw[a,n 1 a (by decide)];exact ζy ϱ (ζr func232 ϱ ⟨rfl,h,Xc.refl _ _⟩)
 refine ζf ϱ ?_;by_cases r:i<0
 ·have a:Ak x i who=1:=by unfold Ak;rw[if_pos (by omega)]
  rw[a,n 1 a (by decide)];exact ζy ϱ (ζr func232 ϱ ⟨rfl,h,Xc.refl _ _⟩)
 refine ζf ϱ (ζl h.pc ϱ ?_);by_cases D:(x.length:Int)<=i
 ·have a:Ak x i who=1:=by unfold Ak;rw[if_pos (by omega)]
  rw[a,n 1 a (by decide)];exact ζy ϱ (ζr func232 ϱ ⟨rfl,h,Xc.refl _ _⟩)
 refine ζf ϱ (ζl h.pc ϱ (ζw (Ss g.bb _ i w h.bits) ϱ ?_));rw[T4];by_cases d:Z4 x i=-1
 ·have a:Ak x i who=9:=by unfold Ak;rw[if_neg (by omega),if_pos d]
  rw[a,n 9 a (by decide),d];exact ζy ϱ (ζr func232 ϱ ⟨rfl,h,Xc.refl _ _⟩)
 ·have a:Ak x i who=0:=by unfold Ak;rw[if_neg (by omega),if_neg d]
  have z:Bp x i who=x.set i.toNat who:=by unfold Bp;rw[a];rfl
  rw[a,z];refine ζF ϱ (show(!!(Z4 x i == -1))=false by simpa using d) ?_;obtain⟨m,A,B,s⟩:=h.own;refine ζl h.pc ϱ (Xa.mapset Xb rfl (A) λE t f C=>ζa ϱ ?_);have l:=f.heap h.pc h.npm;obtain⟨k,rfl⟩:=XD (show 0<=i by omega);have u:Z4 x (k:Int)=x.getD k (-1):=by unfold Z4;rw[if_pos (by omega)];rfl
  have y:Y4 (x.set k who)=Y4 x:=by
   rw[Tz,show(!(who == -1))=true from by simp;omega];apply QF
   intro j;rw[YY];split
   ·rename_i e
    subst e;have:=Rb x k;rw[XC,show(!(x.getD k (-1) == -1))=true from by rw[<-u];simpa using d] at this;cases p:(Y4 x)[k]? with
    |none=>rw[p] at this;cases this
    |some b=>rw[p] at this;simp at this;subst this;rw[if_pos (List.getElem?_eq_some_iff.1 p).1]
   ·rfl
  exact Xa.ret1 Xb rfl func232 rfl rfl ⟨rfl,⟨by unfold Re at l⊢;rw[XG];exact l,by rw[XA,y];exact(h.bits.chg f h.nbm h.notab),⟨_,t,XaR B _ _,λj o c=>by
   rw[XA] at o c⊢;rw[XG] at o;rw[I0];rw[Nx] at c⊢;by_cases e:(j:Int)=k
   ·have e':k=j:=by omega
    subst e';rw[if_pos rfl,if_pos ⟨rfl,o⟩]
   ·rw[if_neg (show ¬(k=j/\k<x.length) by omega)] at c⊢;rw[if_neg e];exact s j o c⟩,h.npb,h.npm,h.nbm⟩,f.mono λ_ _ h=>.inr h⟩
theorem Xe5(i who:Int)(w:World):Xf prog 232 #[.pointer none,.int .i64 i,.int .i64 who] w (Za (.int .i64 1) w):=by
 exact ζe func232 ntmps232 ϱ (ζr func232 ϱ ⟨rfl,rfl⟩)
theorem Fi{a t':Nat}{c c':Array Value}{f f':Nat×Nat}(h:w.heap[a]?=some (.cells c t f))(h':w.heap[b]?=some (.cells c' t' f'))(ht:t≠t'):a≠b:=by
 intro e;subst e;rw[h] at h';cases h';exact ht rfl
def Cd(len:Nat)(f:Nat->Int):List Value:=(List.range len).map λi=>.int .i64 (f i)
def Yn(w:World)(b:Nat)(t:TypeId)(len:Nat)(f:Nat->Int):Prop:=w.heap[b]?=some (.cells (Cd len f).toArray t (0,0))
def Zk(f:Nat->Int)(i:Nat)(v:Int):Nat->Int:=λj=>if j=i then v else f j
theorem Dk(f:Nat->Int)(i:Nat)(v:Int):Zk f i v i=v:=by unfold Zk;rw[if_pos rfl]
theorem Yw(f:Nat->Int)(v:Int)(h:j≠i):Zk f i v j=f j:=by unfold Zk;rw[if_neg h]
theorem XbX(len:Nat)(f:Nat->Int):(Cd len f).length=len:=by unfold Cd;simp
theorem XbY{v:Int}(hi:i<len):(Cd len f).set i (.int .i64 v)=Cd len (Zk f i v):=by
 refine QF λj=>?_;unfold Cd;rw[YY];by_cases h:i=j
 ·subst h;rw[if_pos rfl,if_pos (by simpa using hi),XR,List.getElem?_range hi];simp[Zk]
 ·rw[if_neg h,XR,XR];by_cases a:j<len
  ·rw[List.getElem?_range a];simp[Zk,Ne.symm h]
  ·rw[XV (by simpa using a)];rfl
theorem Ed{t:TypeId}(h:Yn w b t len f)(e:j=k)(hk:k<len):w.cell? ⟨b,j,none⟩=some (.int .i64 (f k)):=by
 subst e;rw[Yt h];unfold Cd;simp[hk]
theorem XbE:∀(l:List Value) (i:Nat) (v:Value) (vs:List Value),i<l.length->Yd l i (v::vs)=Yd (l.set i v) (i+1) vs
 |x::r,0,v,vs,_=>rfl
 |x::r,i+1,v,vs,h=>by
  show(match Yd r i (v::vs) with|some q=>some (x::q)|none=>none)=(match Yd (r.set i v) (i+1) vs with|some q=>some (x::q)|none=>none)
  rw[XbE r i v vs (by simpa using h)]
theorem Ip{v:Int}(e:j=i)(hi:i<len):Yd (Cd len f) j [.int .i64 v]=some (Cd len (Zk f i v)):=by
 subst e;rw[J6 _ _ _ (by rw[XbX];exact hi),XbY hi]
theorem Mi{v:Int}(e:j=i)(hi:i+1<len):Yd (Cd len f) j [.int .i64 v,.int .i64 u]=some (Cd len (Zk (Zk f i v) (i+1) u)):=by
 subst e;rw[XbE _ _ _ _ (by rw[XbX];omega),XbY (by omega),Ip rfl hi]
theorem Xf5{v:Int}(e:j=i)(hi:i+2<len):Yd (Cd len f) j [.int .i64 v,.int .i64 u,.int .i64 z]=some (Cd len (Zk (Zk (Zk f i v) (i+1) u) (i+2) z)):=by
 subst e;rw[XbE _ _ _ _ (by rw[XbX];omega),XbY (by omega),Mi rfl (by omega)]
structure PlM where
 own:List Int
 free:List Nat
def PlM.take(x:PlM)(who:Int):PlM:=match x.free with
 |[]=>x
 |n::r=>⟨x.own.set n who,r⟩
def PlM.give(x:PlM)(n:Nat):PlM:=⟨x.own.set n (-1),n::x.free⟩
def Dg(n:Nat):PlM:=⟨List.replicate n (-1),List.range n⟩
structure PlM.Good(x:PlM):Prop where
 len:1<=x.own.length/\x.own.length<=1024
 nodup:x.free.Nodup
 free:∀n∈x.free,n<x.own.length/\x.own.getD n 0=-1
 all:∀n,n<x.own.length->x.own.getD n 0=-1->n∈x.free
 many:x.free.length+Xu x.own=x.own.length
structure Pl where
 pb:Nat
 ab:Nat
def Kx(P:Pl)(own:List Int)(head:Int):List Value:=[.slice (some ⟨P.ab,0,none⟩) own.length own.length,.int .i64 head,.int .i64 (Xu own:Nat),.func (.func 184) #[] #[]]
abbrev Ei(P:Pl):Value:=.pointer (some ⟨P.pb,0,none⟩)
def Ay(P:Pl):Nat->Prop:=λz=>z=P.pb\/z=P.ab
def I8(f:Nat->Int)(N:Nat):Int->List Nat->Prop
 |h,[]=>h=N
 |h,a::r=>h=a/\I8 f N (f (a*2+1)) r
theorem XaF{g:Nat->Int}:∀{l:List Nat} {h:Int},(∀a∈l,f (a*2+1)=g (a*2+1))->I8 f N h l->I8 g N h l
 |[],_,_,hl=>hl
 |a::r,_,hfg,hl=>⟨hl.1,by rw[<-hfg a (by simp)];exact XaF (λb hb=>hfg b (by simp[hb])) hl.2⟩
structure Zz(w:World)(P:Pl)(x:PlM):Prop where
 good:x.Good
 at':∃head f,w.heap[P.pb]?=some (.cells (Kx P x.own head).toArray 227 (0,0))/\Yn w P.ab 280 (x.own.length*2) f/\I8 f x.own.length head x.free/\∀n,n<x.own.length->f (n*2)=x.own.getD n 0
theorem Zz.chg{P:Pl}{x:PlM}(h:Zz w P x)(hc:Xc S w w')(h1:¬S P.pb)(h2:¬S P.ab):Zz w' P x:=by
 obtain⟨head,f,a,b,c⟩:=h.at';exact⟨h.good,head,f,hc.heap a h1,hc.heap b h2,c⟩
theorem Zz.grow{P:Pl}{x:PlM}(h:Zz w P x)(hc:Xc Xe w w'):Zz w' P x:=h.chg hc id id
theorem Zz.lt{P:Pl}{x:PlM}(h:Zz w P x):P.pb<w.heap.size/\P.ab<w.heap.size:=by
 obtain⟨head,f,a,b,c⟩:=h.at';exact⟨Xg a,Xg b⟩
theorem Hu{x:List Int}{v:Int}(h:n<x.length):Xu (x.set n v)+(if x.getD n 0=-1 then 0 else 1)=Xu x+(if v=-1 then 0 else 1):=by
 unfold Xu;rw[Tz];have:=S4 (Y4 x) n (by rw[Ew];exact h) (!(v == -1));have e:(Y4 x)[n]'(by rw[Ew];exact h)=!(x.getD n 0 == -1):=by
  unfold Y4;rw[YM,XC,XB h];rfl
 rw[e] at this;by_cases a:x.getD n 0=-1 <;> by_cases b:v=-1 <;> simp_all
theorem Oa(x:List Int):Xu x<=x.length:=by
 unfold Xu;have:=Np (Y4 x);rw[Ew] at this;exact this
theorem Fj(x:List Int)(i j:Nat)(v:Int):(x.set i v).getD j 0=if i=j/\i<x.length then v else x.getD j 0:=by
 rw[XC,YY,XC];by_cases h:i=j
 ·subst h;by_cases a:i<x.length
  ·simp[a]
  ·simp[a]
 ·simp[h]
theorem PlM.Good.take{x:PlM}(h:x.Good){who:Int}(hw:0<=who){n:Nat}{r:List Nat}(hf:x.free=n::r):(x.take who).Good:=by
 obtain⟨p,j,i,k,l⟩:=h;rw[hf] at j i k l;obtain⟨q,s⟩:=List.nodup_cons.1 j;obtain⟨g,o⟩:=i n (by simp);have e:x.take who=⟨x.own.set n who,r⟩:=by unfold PlM.take;rw[hf]
 rw[e];refine⟨by simpa using p,s,λm f=>?_,λm f c=>?_,?_⟩
 ·obtain⟨a,b⟩:=i m (by simp[f]);have:n≠m:=λe=>q (e▸f);exact⟨by simpa using a,by show(x.own.set n who).getD m 0=-1;rw[Fj,if_neg (λh=>this h.1)];exact b⟩
 ·replace c:(x.own.set n who).getD m 0=-1:=c;rw[Fj] at c;by_cases d:n=m
  ·rw[if_pos ⟨d,g⟩] at c;omega
  ·rw[if_neg (λh=>d h.1)] at c;have:=k m (by simpa using f) c;rcases List.mem_cons.1 this with h|h
   ·exact absurd h.symm d
   ·exact h
 ·have:=Hu (v:=who) g;rw[if_pos o,if_neg (by omega)] at this;simp only[XG,XM] at l⊢;omega
theorem PlM.Good.give{x:PlM}(h:x.Good){n:Nat}(hn:n<x.own.length)(ho:x.own.getD n 0≠-1):(x.give n).Good:=by
 obtain⟨f,g,d,i,j⟩:=h;refine⟨by simpa [PlM.give] using f,?_,λm hm=>?_,λm hm c=>?_,?_⟩
 ·exact List.nodup_cons.2 ⟨λh=>ho (d n h).2,g⟩
 ·rcases List.mem_cons.1 hm with rfl|hm
  ·exact⟨by simpa [PlM.give] using hn,by show(x.own.set m (-1)).getD m 0=-1;rw[Fj,if_pos ⟨rfl,hn⟩]⟩
  ·obtain⟨a,b⟩:=d m hm;refine⟨by simpa [PlM.give] using a,?_⟩;show(x.own.set n (-1)).getD m 0=-1
   rw[Fj];split
   ·rfl
   ·exact b
 ·replace c:(x.own.set n (-1)).getD m 0=-1:=c;replace hm:m<x.own.length:=by simpa [PlM.give] using hm
  show m∈n::x.free
  by_cases e:n=m
  ·rw[e];exact ZI
  ·rw[Fj,if_neg (λh=>e h.1)] at c;exact ZF _ (i m hm c)
 ·have:=Hu (v:=-1) hn;rw[if_neg ho,if_pos rfl] at this;show(n::x.free).length+Xu (x.own.set n (-1))=(x.own.set n (-1)).length
  simp only[XG,XM];omega
theorem Ht(n:Nat):Xu (List.replicate n (-1))=0:=by
 unfold Xu Y4;rw[List.map_replicate];exact Xad n
theorem Xkk(h:1<=n/\n<=1024):(Dg n).Good:=by
 refine⟨by simpa [Dg] using h,List.nodup_range,λm a=>?_,λm a _=>?_,?_⟩
 ·have:=List.mem_range.1 a;refine⟨by simpa [Dg] using this,?_⟩;show(List.replicate n (-1)).getD m 0=-1
  rw[XC,XW,if_pos this];rfl
 ·exact List.mem_range.2 (by simpa [Dg] using a)
 ·show(List.range n).length+Xu (List.replicate n (-1))=(List.replicate n (-1)).length
  rw[Ht];simp
theorem Xkr(P:Pl)(x:PlM)(n:Int)(w:World)(h:Zz w P x):Xf prog 236 #[Ei P,.int .i64 n] w (Za (.bool (decide (0<=n) && decide (n<x.own.length))) w):=by
 obtain⟨head,f,b,c,d,e⟩:=h.at';refine ζe func236 ntmps236 ϱ (ζg ϱ (λa=>?_) λa=>?_)
 ·refine ζl b ϱ ?_;rw[a];exact ζr func236 ϱ ⟨rfl,rfl⟩
 ·rw[a];exact ζr func236 ϱ ⟨rfl,rfl⟩
theorem Xkn(P:Pl)(x:PlM)(w:World)(h:Zz w P x):Xf prog 111 #[Ei P] w (Za (.int .i64 (Xu x.own:Nat)) w):=by
 obtain⟨head,f,a,b,c,d⟩:=h.at';exact ζe func111 ntmps111 ϱ (ζl a ϱ (ζr func111 ϱ ⟨rfl,rfl⟩))
theorem Xfi(P:Pl)(x:PlM)(w:World)(h:Zz w P x):Xf prog 115 #[Ei P] w (Grow (.int .i64 (x.free.length:Nat)) w):=by
 obtain⟨head,f,b,d,e,g⟩:=h.at';have i:=h.good.many;have j:=h.good.len;exact ζe func115 ntmps115 ϱ (ζd 11 Xe (by kernel_rfl) ϱ λa=>δl a b ϱ (δl a b ϱ (δj a ϱ (δn a ϱ λk c=>ζr func115 ϱ ⟨X0 (by omega),c⟩))))
variable {P:Pl}{pl':PlM}
def Eh(x:PlM)(who:Int):Int:=if who<0 then 1 else if x.free.length=0 then 5 else 0
def Ih(x:PlM)(who:Int):Int:=if Eh x who=0 then (x.free.getD 0 0:Nat) else 0
def Hv(x:PlM)(who:Int):PlM:=if Eh x who=0 then x.take who else x
theorem Xbd(P:Pl)(x:PlM)(who:Int)(w:World)(h:Zz w P x):Xf prog 191 #[Ei P,.int .i64 who] w
 (λv w'=>v=.tuple #[.int .i64 (Ih x who),.int .i64 (Eh x who)]/\Zz w' P (Hv x who)/\Xc (Ay P) w w'):=by
 have d:=h.good;have K:=h.good.len;obtain⟨own,free⟩:=x;obtain⟨head,f,c,l,s,F⟩:=h.at';replace c:w.heap[P.pb]?=some (.cells (Kx P own head).toArray 227 (0,0)):=c;replace l:Yn w P.ab 280 (own.length*2) f:=l;replace s:I8 f own.length head free:=s;replace F:∀m,m<own.length->f (m*2)=own.getD m 0:=F;replace K:1<=own.length/\own.length<=1024:=K;have eN:∀e,Eh ⟨own,free⟩ who=e->e≠0->Ih ⟨own,free⟩ who=0/\Hv ⟨own,free⟩ who=⟨own,free⟩:=λe c l=>by
  unfold Ih Hv;rw[c,if_neg l,if_neg l];exact⟨rfl,rfl⟩
 refine Xf.enter func191 rfl ntmps191 rfl rfl ?_;refine ζa rfl ?_;refine Xa.fork Xb rfl rfl rfl (λG=>?_) (λG=>?_)
 ·have t:who<0:=of_decide_eq_true G;have e1:Eh ⟨own,free⟩ who=1:=by unfold Eh;rw[if_pos t]
  rw[(eN 1 e1 (by decide)).1,(eN 1 e1 (by decide)).2,e1];exact ζr func191 ϱ ⟨rfl,h,Xc.refl _ _⟩
 have t:¬who<0:=of_decide_eq_false G;refine Xa.drawn (q:=11) Xe Xb Xo (by kernel_rfl) rfl ?_;intro H;refine Xd.loadb Xb H rfl c (by first|exact λh=>h|(intro h;omega)|assumption) rfl rfl ?_;refine Xd.loadb Xb H rfl c (by first|exact λh=>h|(intro h;omega)|assumption) rfl rfl ?_;refine Xd.nil H ?_;intro N b;refine ζa rfl ?_;have g:=b.heap' c;have o:Yn N P.ab 280 (own.length*2) f:=b.heap' l;cases free with
 |nil=>
  have e:head=own.length:=s;subst e;have e1:Eh ⟨own,[]⟩ who=5:=by unfold Eh;rw[if_neg t];rfl
  rw[(eN 5 e1 (by decide)).1,(eN 5 e1 (by decide)).2,e1];refine Xa.yes Xb rfl (beq_self_eq_true _) rfl ?_;exact ζr func191 ϱ ⟨rfl,h.grow b,b.gr⟩
 |cons n r=>
  obtain⟨rfl,O⟩:=s;obtain⟨u,I⟩:=d.free n (by simp);replace u:n<own.length:=u;replace I:own.getD n 0=-1:=I;have e1:Eh ⟨own,n::r⟩ who=0:=by unfold Eh;rw[if_neg t];rfl
  have e2:Ih ⟨own,n::r⟩ who=n:=by unfold Ih;rw[if_pos e1];rfl
  have e3:Hv ⟨own,n::r⟩ who=⟨own.set n who,r⟩:=by unfold Hv;rw[if_pos e1];rfl
  rw[e1,e2,e3];refine Xa.no Xb rfl (by simp;omega) rfl ?_;refine Xa.loadb Xb rfl g rfl rfl ?_;refine Xa.loadb Xb rfl g rfl rfl ?_;refine Xa.index Xb rfl (j:=(n*2)) (by omega) (by omega) (by first|rfl|omega|(simp;done)|(simp;omega)) rfl ?_;have p:=Fi o g (by decide);refine ζk ϱ (Ed o (k:=n*2+1) (by show 0+n*2+1=_;omega) (by omega)) ϱ (ζs g ϱ λW y A T=>ζl y ϱ (ζi (n*2) ϱ (ζS ϱ (A.heap o p) (Ip (i:=n*2) (by show 0+n*2+0=_;omega) (by omega)) ϱ λw3 L B U=>?_)));have C:=B.heap y p.symm;refine ζl C ϱ (ζJ ϱ (by have:=Oa own;omega) (ζs C ϱ λQ M D V=>?_));have R:=Hu (x:=own) (n:=n) (v:=who) u;rw[if_pos I,if_neg (by omega)] at R;have S:Xc (Ay P) w Q:=(b.gr.trans (A.mono λz _ e=>.inl e)).trans ((B.mono λz _ e=>.inr e).trans (D.mono λz _ e=>.inl e));have E:=d.take (who:=who) (by omega) (n:=n) (r:=r) rfl;have e:PlM.take ⟨own,n::r⟩ who=⟨own.set n who,r⟩:=rfl;rw[e] at E;exact Xa.ret2 Xb rfl func191 rfl rfl rfl ⟨rfl,⟨E,f (n*2+1),Zk f (n*2) who,by
   unfold Kx;simp only[XG];rw[show((Xu (own.set n who):Nat):Int)=(Xu own:Nat)+1 by omega];exact M,by
   show Yn _ _ _ ((own.set n who).length*2) _
   rw[XG];exact(D.heap L p),by
   show I8 _ (own.set n who).length _ r
   rw[XG];exact XaF (λa _=>(Yw f who (by omega)).symm) O,λm J=>by
   replace J:m<own.length:=by simpa using J
   show Zk f (n*2) who (m*2)=(own.set n who).getD m 0
   rw[Fj];by_cases e:n=m
   ·subst e;rw[Dk,if_pos ⟨rfl,u⟩]
   ·rw[Yw _ _ (by omega),if_neg (λh=>e h.1)];exact F m J⟩,S⟩
def Ex(x:PlM)(n:Int):Int:=if n<0\/(x.own.length:Int)<=n then 1 else if Z4 x.own n=-1 then 9 else 0
def Gv(x:PlM)(n:Int):PlM:=if Ex x n=0 then x.give n.toNat else x
theorem Xbc(P:Pl)(x:PlM)(n:Int)(w:World)(h:Zz w P x):Xf prog 196 #[Ei P,.int .i64 n] w
 (λv w'=>v=.int .i64 (Ex x n)/\Zz w' P (Gv x n)/\Xc (Ay P) w w'):=by
 have d:=h.good;have H:=h.good.len;obtain⟨own,free⟩:=x;obtain⟨head,f,b,l,E,r⟩:=h.at';replace b:w.heap[P.pb]?=some (.cells (Kx P own head).toArray 227 (0,0)):=b;replace l:Yn w P.ab 280 (own.length*2) f:=l;replace E:I8 f own.length head free:=E;replace r:∀m,m<own.length->f (m*2)=own.getD m 0:=r;replace H:1<=own.length/\own.length<=1024:=H;have eN:∀e,Ex ⟨own,free⟩ n=e->e≠0->Gv ⟨own,free⟩ n=⟨own,free⟩:=λe b l=>by
  unfold Gv;rw[b,if_neg l]
 refine Xf.enter func196 rfl ntmps196 rfl rfl ?_;refine ζa rfl ?_;refine ζc rfl (Xkr P ⟨own,free⟩ n w h) ?_;rintro _ _ ⟨rfl,rfl⟩;refine ζa rfl ?_;by_cases g:0<=n/\n<own.length
 ·obtain⟨k,rfl⟩:=XD g.1;have o:k<own.length:=by omega
  have t:Z4 own k=own.getD k 0:=by
   unfold Z4;rw[if_pos g.1];simp only[XA];rw[XC,XC,XB o];rfl
  refine Xa.no Xb rfl (by rw[decide_eq_true g.1,decide_eq_true g.2];rfl) rfl ?_;refine Xa.loadb Xb rfl b rfl rfl ?_;refine Xa.index Xb rfl (j:=(k*2)) (by omega) (by omega) (by first|rfl|omega|(simp;done)|(simp;omega)) rfl ?_;refine ζk ϱ (Ed l (k:=k*2) (by show 0+k*2+0=_;omega) (by omega)) ϱ ?_;rw[r k o];by_cases c:own.getD k 0=-1
  ·have e1:Ex ⟨own,free⟩ k=9:=by unfold Ex;rw[if_neg (by simp only;omega),t,if_pos c]
   rw[eN 9 e1 (by decide),e1];exact ζY ϱ (by rw[c];rfl) (ζr func196 ϱ ⟨rfl,h,Xc.refl _ _⟩)
  ·have e1:Ex ⟨own,free⟩ k=0:=by unfold Ex;rw[if_neg (by simp only;omega),t,if_neg c]
   have e2:Gv ⟨own,free⟩ k=⟨own.set k (-1),k::free⟩:=by unfold Gv;rw[if_pos e1];rfl
   rw[e1,e2];refine ζF ϱ (by simpa using c) (ζd 10 Xe (by kernel_rfl) ϱ λs=>δl s b ϱ (δl s b ϱ (Xd.build Xb s rfl rfl (δn s ϱ λU p=>?_))));have u:=p.heap' b;have y:=p.heap' l;have q:=Fi y u (by decide);refine ζi (k*2) ϱ (ζS ϱ y (Mi (i:=k*2) (by show 0+k*2=_;omega) (by omega)) ϱ λV I A Q=>?_);refine ζs (A.heap u q.symm) ϱ λW B C R=>?_;refine ζl B ϱ (ζJ ϱ (by have:=Oa own;omega) (ζs B ϱ λL J D S=>?_));have M:=Hu (x:=own) (n:=k) (v:=-1) o;rw[if_neg c,if_pos rfl] at M;have N:Xc (Ay P) w L:=(p.gr.trans (A.mono λz _ e=>.inr e)).trans ((C.mono λz _ e=>.inl e).trans (D.mono λz _ e=>.inl e));have K:k∉free:=λh=>c (d.free k h).2;exact Xa.ret1 Xb rfl func196 rfl rfl ⟨rfl,⟨(d.give (n:=k) o c),k,Zk (Zk f (k*2) (-1)) (k*2+1) head,by
    unfold Kx;simp only[XG];rw[show((Xu (own.set k (-1)):Nat):Int)=(Xu own:Nat)-1 by omega];exact J,by
    show Yn _ _ _ ((own.set k (-1)).length*2) _
    rw[XG];exact(D.heap (C.heap I q) q),by
    show I8 _ (own.set k (-1)).length _ (k::free)
    rw[XG];refine⟨rfl,?_⟩;rw[Dk];exact XaF (λa O=>by rw[Yw _ _ (by intro e;exact K ((by omega:a=k)▸O)),Yw _ _ (by omega)]) E,λm F=>by
    replace F:m<own.length:=by simpa using F
    show Zk (Zk f (k*2) (-1)) (k*2+1) head (m*2)=(own.set k (-1)).getD m 0
    rw[Fj,Yw _ _ (by omega)];by_cases e:k=m
    ·subst e;rw[Dk,if_pos ⟨rfl,o⟩]
    ·rw[Yw _ _ (by omega),if_neg (λh=>e h.1)];exact r m F⟩,N⟩
 ·have T:(!(decide (0<=n) && decide (n<own.length)))=true:=by
   by_cases G:0<=n
   ·rw[decide_eq_true G,decide_eq_false (λh=>g ⟨G,h⟩)];rfl
   ·rw[decide_eq_false G];rfl
  have e1:Ex ⟨own,free⟩ n=1:=by unfold Ex;rw[if_pos (by simp only;omega)]
  rw[eN 1 e1 (by decide),e1];exact ζy ϱ (ζr func196 ϱ ⟨rfl,h,Xc.refl _ _⟩)
theorem Xkq(n:Int)(w:World)(h : -9223372036854775808<=n+1/\n+1<=9223372036854775807):Xf prog 184 #[.int .i64 n] w (Za (.int .i64 (n+1)) w):=by
 exact ζe func184 ntmps184 ϱ (ζj ϱ (ζr func184 ϱ ⟨rfl,rfl⟩))
def Rn(P:Pl)(N:Nat):List Value:=[.slice (some ⟨P.ab,0,none⟩) N N,.int .i64 0,.int .i64 0,.func (.func 184) #[] #[]]
theorem Xks(P:Pl)(N k:Nat)(f:Nat->Int)(w:World)(h1:w.heap[P.pb]?=some (.cells (Rn P N).toArray 227 (0,0)))(h2:Yn w P.ab 280 (N*2) f)(hk:k<N)(hN:N<=1024):Xf prog 186 #[Ei P,.int .i64 k] w (λ_ w'=>Yn w' P.ab 280 (N*2) (Zk (Zk f (k*2) (-1)) (k*2+1) (k+1))/\Xc (λz=>z=P.ab) w w'):=by
 exact ζe func186 ntmps186 ϱ (ζd 12 Xe (by kernel_rfl) ϱ λa=>δl a h1 ϱ (δl a h1 ϱ (δw a (λw' g=>Xkq k w' (by omega)) ϱ (Xd.build Xb a rfl rfl (δn a ϱ λe b=>ζi (k*2) ϱ (ζS ϱ (show e.heap[P.ab]?=some (.cells (Cd (N*2) f).toArray 280 (0,0)) from b.heap' h2) (Mi (i:=k*2) (by show 0+k*2=_;omega) (by omega)) ϱ λl c d j=>ζr func186 ϱ ⟨c,b.gr.trans d⟩))))))
def H1:Nat->Nat->Int
 |0=>λ_=>0
 |k+1=>Zk (Zk (H1 k) (k*2) (-1)) (k*2+1) (k+1)
theorem XgP:∀(k n:Nat),n<k->H1 k (n*2)=-1
 |k+1,n,h=>by
  show Zk (Zk (H1 k) (k*2) (-1)) (k*2+1) (k+1) (n*2)=-1
  rw[Yw _ _ (by omega)];by_cases e:n=k
  ·subst e;exact Dk ..
  ·rw[Yw _ _ (by omega)];exact XgP k n (by omega)
theorem XgO:∀(k n:Nat),n<k->H1 k (n*2+1)=n+1
 |k+1,n,h=>by
  show Zk (Zk (H1 k) (k*2) (-1)) (k*2+1) (k+1) (n*2+1)=n+1
  by_cases e:n=k
  ·subst e;exact Dk ..
  ·rw[Yw _ _ (by omega),Yw _ _ (by omega)];exact XgO k n (by omega)
theorem Xer(h:∀n,n<N->f (n*2+1)=n+1):∀(m k:Nat),k+m=N->I8 f N k (List.range' k m)
 |0,k,e=>by show(k:Int)=N;omega
 |m+1,k,e=>by
  rw[List.range'_succ];refine⟨rfl,?_⟩;rw[h k (by omega)];exact Xer h m (k+1) (by omega)
theorem Xkp(P:Pl)(N:Nat)(w:World)(h1:w.heap[P.pb]?=some (.cells (Rn P N).toArray 227 (0,0)))(h2:Yn w P.ab 280 (N*2) (H1 0))(hN:N<=1024):Xf prog 185 #[Ei P,.func (.func 186) #[Ei P] #[]] w (λ_ w'=>Yn w' P.ab 280 (N*2) (H1 N)/\Xc (λz=>z=P.ab) w w'):=by
 refine ζe func185 ntmps185 ϱ (ζl h1 ϱ ?_);refine Xa.loop (α:=Nat) (λk=>[(1,false,.func (.func 186) #[Ei P] #[]),(9,false,.int .i64 N),(10,false,.int .i64 k)])
  (λk w'=>k<=N/\Yn w' P.ab 280 (N*2) (H1 k)/\Xc (λz=>z=P.ab) w w') (λk=>N-k) 0 ⟨rfl,rfl,rfl,trivial⟩ ⟨XL _,h2,Xc.refl _ _⟩ ?_
 rintro k h ⟨i,b,a⟩ ih;refine ζa ϱ (ζg ϱ (λd=>?_) λd=>?_)
 ·have c:k<N:=by have:=of_decide_eq_true d;omega
  refine ζc ϱ (Xks P N k (H1 k) h (a.heap h1 (Fi h1 h2 (by decide))) b c hN) ?_;rintro _ j ⟨e,f⟩;exact ζa ϱ (ζj ϱ (ih (k+1) _ _ ⟨c,e,a.trans f⟩ (by omega) ⟨rfl,rfl,rfl,trivial⟩))
 ·have g:k=N:=by have:=of_decide_eq_false d;omega
  subst g;exact ζr func185 ϱ ⟨b,a⟩
theorem Xhb(t:Nat->Int)(ht:∀i,t i=0):∀n,Y5 [Value.int .i64 0,Value.int .i64 0] n=Cd (n*2) t
 |0=>rfl
 |n+1=>by
  have e:Cd ((n+1)*2) t=Cd (n*2) t++[.int .i64 0,.int .i64 0]:=by
   unfold Cd;rw[show(n+1)*2=n*2+1+1 by omega,YX,YX,XI,XI];simp[ht]
  have e2:∀m,Cd (m*2) t++[.int .i64 0,.int .i64 0]=[Value.int .i64 0,.int .i64 0]++Cd (m*2) t:=by
   intro m;have:Cd (m*2) t=List.replicate (m*2) (.int .i64 0):=by
    unfold Cd;rw[YA (g:=λ_=>Value.int .i64 0) (λi _=>by rw[ht]),List.map_const',YK]
   rw[this];show _++List.replicate 2 _=List.replicate 2 _++_
   rw[List.replicate_append_replicate,List.replicate_append_replicate,Nat.add_comm]
  rw[e,e2,Y5,Xhb t ht n]
theorem Xko(N:Nat)(w:World)(h:1<=N/\N<=1024):Xf prog 133 #[.int .i64 N] w
 (λv w'=>∃P,v=.tuple #[Ei P,.int .i64 0]/\(w.heap.size<=P.pb/\w.heap.size<=P.ab)/\Zz w' P (Dg N)/\Xc Xe w w'):=by
 refine ζe func133 ntmps133 ϱ (ζf ϱ (ζf ϱ (Xa.make Xb (m:=N) (k:=N) rfl rfl rfl (XE _) (by first|omega|(show 16*N<=_;omega)) (by omega) λab p e1 c d s=>ζa ϱ (ζb ϱ (ζn ϱ λpb j e2 b f t=>?_)))));replace c:Yn p ab 280 (N*2) (H1 0):=by
  unfold Yn;rw[c];exact congrArg (λx:List Value=>some (Obj.cells x.toArray 280 (0,0))) (Xhb (H1 0) (λ_=>rfl) N)
 replace b:j.heap[pb]?=some (.cells (Rn ⟨pb,ab⟩ N).toArray 227 (0,0)):=b;refine ζc ϱ (Xkp ⟨pb,ab⟩ N j b (show Yn _ _ _ _ _ from f.heap' c) h.2) ?_;rintro _ q ⟨l,g⟩;refine ζa ϱ ?_;have r:Xc Xe w q:=(d.trans f).since g (λz u e=>by have:z=ab:=e;omega);have o:=g.heap b (show ¬pb=ab by have:=d.size;omega);have a:(Dg N).own.length=N:=XH;exact Xa.ret2 Xb rfl func133 rfl rfl rfl ⟨⟨pb,ab⟩,rfl,⟨by show _<=pb;omega,by show _<=ab;omega⟩,⟨Xkk h,0,H1 N,by
  have e:Kx ⟨pb,ab⟩ (Dg N).own 0=Rn ⟨pb,ab⟩ N:=by
   unfold Kx Rn;rw[a,show Xu (Dg N).own=0 from Ht N];rfl
  rw[e];exact o,by rw[a];exact l,by
  rw[a];show I8 _ _ _ (List.range N)
  rw[List.range_eq_range'];exact Xer (XgO N) N 0 (by omega),λn i=>by
  rw[a] at i;rw[XgP N n i];show -1=(List.replicate N (-1)).getD n 0
  rw[XC,XW,if_pos i];rfl⟩,r⟩
def B4:List Nat->Int
 |[]=>-1
 |a::_=>a
def Be:Int->List Nat->Int
 |p,[]=>p
 |_,a::r=>Be a r
def Ib(f:Nat->Int):Int->List Nat->Prop
 |_,[]=>True
 |p,a::r=>f (a*3)=p/\f (a*3+1)=B4 r/\Ib f a r
theorem Tl{f g:Nat->Int}:∀{l:List Nat} {p:Int},(∀a∈l,f (a*3)=g (a*3)/\f (a*3+1)=g (a*3+1))->Ib f p l->Ib g p l
 |[],_,_,h=>h
 |a::r,p,c,h=>by
  obtain⟨e1,e2⟩:=c a (by simp);exact⟨e1▸h.1,e2▸h.2.1,Tl (λb d=>c b (by simp[d])) h.2.2⟩
theorem XaB:∀(p:Int) (l:List Nat) (n:Nat) (r:List Nat),Be p (l++n::r)=Be n r
 |p,[],n,r=>rfl
 |p,a::l,n,r=>XaB a l n r
theorem I7:∀(p:Int) (l:List Nat),(l=[]/\Be p l=p)\/∃a∈l,Be p l=(a:Int)/\∃l',l=l'++[a]
 |p,[]=>.inl ⟨rfl,rfl⟩
 |p,a::r=>by
  rcases I7 a r with⟨rfl,h⟩|⟨b,hb,h,l',e⟩
  ·exact .inr ⟨a,by simp,rfl,[],rfl⟩
  ·exact .inr ⟨b,by simp[hb],h,a::l',by rw[e];rfl⟩
def Hj(f:Nat->Int)(pr nx:Int):Nat->Int:=
 let f1:=if pr=-1 then f else Zk f (pr.toNat*3+1) nx
 if nx=-1 then f1 else Zk f1 (nx.toNat*3) pr
theorem Nq{pr nx:Int}(h1:pr=-1\/j≠pr.toNat*3+1)(h2:nx=-1\/j≠nx.toNat*3):Hj f pr nx j=f j:=by
 unfold Hj;by_cases b:pr=-1
 ·rw[if_pos b];by_cases a:nx=-1
  ·rw[if_pos a]
  ·rw[if_neg a,Yw _ _ (by omega)]
 ·rw[if_neg b];by_cases a:nx=-1
  ·rw[if_pos a,Yw _ _ (by omega)]
  ·rw[if_neg a,Yw _ _ (by omega),Yw _ _ (by omega)]
theorem XiA{a:Nat}{nx:Int}:Hj f a nx (a*3+1)=nx:=by
 unfold Hj;rw[if_neg (show ¬(a:Int)=-1 by omega)];by_cases b:nx=-1
 ·rw[if_pos b];exact Dk f (a*3+1) nx
 ·rw[if_neg b,Yw _ _ (by omega)];exact Dk f (a*3+1) nx
theorem Xiz{pr:Int}:Hj f pr b (b*3)=pr:=by
 unfold Hj;rw[if_neg (show ¬(b:Int)=-1 by omega)];exact Dk _ (b*3) pr
theorem Xet{f:Nat->Int}{n:Nat}{l2:List Nat}:∀(l1:List Nat) (p:Int),(l1++n::l2).Nodup->Ib f p (l1++n::l2)->(p=-1\/∃q:Nat,p=q/\q∉l1++n::l2)->Ib (Hj f (Be p l1) (B4 l2)) p (l1++l2)
 |[],p,d,h,w=>by
  obtain⟨_,_,y⟩:=h;cases l2 with
  |nil=>trivial
  |cons b r=>
   obtain⟨x,l,m⟩:=y;have o:=(List.nodup_cons.1 (List.nodup_cons.1 d).2);show Ib (Hj f p b) p (b::r)
   have g:∀a∈b::r,p=-1\/a*3+1≠p.toNat*3+1:=λa k=>by
    rcases w with h|⟨q,rfl,A⟩
    ·exact .inl h
    ·refine .inr λe=>A ?_;have:a=q:=by omega
     exact this▸ZF _ k
   refine⟨Xiz,?_,?_⟩
   ·rw[Nq (j:=b*3+1) (nx:=(b:Int)) (g b (by simp)) (.inr (by omega))];exact l
   ·refine Tl (λa k=>⟨?_,?_⟩) m
    ·rw[Nq (j:=a*3) (nx:=(b:Int)) (.inr (by omega)) (.inr (λe=>o.1 ((by omega:a=b)▸k)))]
    ·rw[Nq (j:=a*3+1) (nx:=(b:Int)) (g a (by simp[k])) (.inr (by omega))]
 |a::t,p,d,h,w=>by
  obtain⟨x,l,m⟩:=h;obtain⟨i,u⟩:=List.nodup_cons.1 d;have ih:=Xet t a u m (.inr ⟨a,rfl,i⟩);show Ib (Hj f (Be a t) (B4 l2)) p (a::(t++l2))
  refine⟨?_,?_,ih⟩
  ·rw[Nq (j:=a*3) ?_ ?_]
   ·exact x
   ·rcases I7 a t with⟨_,h⟩|⟨z,_,h,_⟩ <;> rw[h] <;> exact .inr (by omega)
   ·cases l2 with
    |nil=>exact .inl rfl
    |cons b r=>
     refine .inr λe=>i ?_;have:a=b:=by simp only[B4] at e;omega
     rw[this];simp
  ·cases t with
   |nil=>exact XiA
   |cons c s=>
    have B:∃z∈c::s,Be a (c::s)=(z:Int):=by
     rcases I7 a (c::s) with⟨h,_⟩|⟨z,v,e,_⟩
     ·cases h
     ·exact⟨z,v,e⟩
    obtain⟨z,v,ez⟩:=B;rw[ez,Nq (j:=a*3+1) (pr:=(z:Int)) (.inr (λe=>i ((by omega:a=z)▸QG _ v))) ?_]
    ·exact l
    ·cases l2 with
     |nil=>exact .inl rfl
     |cons b r=>exact .inr (by omega)
structure Rg where
 lb:Nat
 ab:Nat
 nb:Nat
def J5(R:Rg):List Value:=[.slice (some ⟨R.ab,0,none⟩) 1 1,.slice (some ⟨R.nb,0,none⟩) 1024 1024]
abbrev Hx(R:Rg):Value:=.pointer (some ⟨R.lb,0,none⟩)
def Gx(R:Rg):Nat->Prop:=λz=>z=R.ab\/z=R.nb
structure C9(w:World)(R:Rg)(o:List Nat):Prop where
 obj:w.heap[R.lb]?=some (.cells (J5 R).toArray 290 (0,0))
 nodup:o.Nodup
 lt:∀n∈o,n<1024
 at':∃g f,Yn w R.ab 275 3 g/\Yn w R.nb 292 3072 f/\g 0=B4 o/\g 1=Be (-1) o/\g 2=o.length/\Ib f (-1) o/\∀n,n<1024->f (n*3+2)=if n∈o then 0 else -1
theorem C9.chg{R:Rg}{o:List Nat}(h:C9 w R o)(hc:Xc S w w')(h1:¬S R.lb)(h2:¬S R.ab)(h3:¬S R.nb):C9 w' R o:=by
 obtain⟨g,f,a,b,c⟩:=h.at';exact⟨hc.heap h.obj h1,h.nodup,h.lt,g,f,hc.heap a h2,hc.heap b h3,c⟩
theorem C9.grow{R:Rg}{o:List Nat}(h:C9 w R o)(hc:Xc Xe w w'):C9 w' R o:=h.chg hc id id id
theorem C9.blt{R:Rg}{o:List Nat}(h:C9 w R o):R.lb<w.heap.size/\R.ab<w.heap.size/\R.nb<w.heap.size:=by
 obtain⟨g,f,a,b,c⟩:=h.at';exact⟨Xg h.obj,Xg a,Xg b⟩
theorem Rv(R:Rg)(w:World)(h:w.heap[R.lb]?=some (.cells (J5 R).toArray 290 (0,0))):Xf prog 214 #[Hx R,.int .i64 0] w (Za (.pointer (some ⟨R.ab,0,none⟩)) w):=by
 exact ζe func214 ntmps214 ϱ (ζf ϱ (ζl h ϱ (ζf ϱ (ζl h ϱ (ζi 0 ϱ (ζr func214 ϱ ⟨rfl,rfl⟩))))))
theorem XfN(R:Rg)(n:Nat)(w:World)(h:w.heap[R.lb]?=some (.cells (J5 R).toArray 290 (0,0)))(hn:n<1024):Xf prog 257 #[Hx R,.int .i64 n] w (Za (.pointer (some ⟨R.nb,0+n*3,none⟩)) w):=by
 exact ζe func257 ntmps257 ϱ (ζf ϱ (ζl h ϱ (ζf ϱ (ζl h ϱ (ζi (n*3) ϱ (ζr func257 ϱ ⟨rfl,rfl⟩))))))
theorem Xby(b:Nat)(t:TypeId)(len:Nat)(f:Nat->Int)(way:Nat)(w:World)(h:Yn w b t len f)(hw:way<=1)(hl:way<len):Xf prog 250 #[.pointer (some ⟨b,0,none⟩),.int .i64 way] w (Za (.int .i64 (f way)) w):=by
 exact ζe func250 ntmps250 ϱ (ζi way ϱ (ζk ϱ (Ed h (k:=way) (by show 0+0+way=_;omega) hl) ϱ (ζr func250 ϱ ⟨rfl,rfl⟩)))
theorem XfQ(R:Rg)(g:Nat->Int)(way:Nat)(to:Int)(w:World)(h:Yn w R.ab 275 3 g)(hw:way<=1):Xf prog 258 #[Hx R,.pointer (some ⟨R.ab,0,none⟩),.int .i64 (-1),.int .i64 way,.int .i64 to] w (λ_ w'=>Yn w' R.ab 275 3 (Zk g (1-way) to)/\Xc (λz=>z=R.ab) w w'):=by
 exact ζe func258 ntmps258 ϱ (ζy ϱ (ζj ϱ (ζi (1-way) ϱ (ζS ϱ h (Ip (i:=1-way) (by show 0+0+(1-way)=_;omega) (by omega)) ϱ λd b a c=>ζr func258 ϱ ⟨b,a⟩))))
theorem XfP(R:Rg)(f:Nat->Int)(a way:Nat)(to:Int)(w:World)(h0:w.heap[R.lb]?=some (.cells (J5 R).toArray 290 (0,0)))(h:Yn w R.nb 292 3072 f)(hw:way<=1)(ha:a<1024):Xf prog 258 #[Hx R,.pointer (some ⟨R.ab,0,none⟩),.int .i64 a,.int .i64 way,.int .i64 to] w (λ_ w'=>Yn w' R.nb 292 3072 (Zk f (a*3+way) to)/\Xc (λz=>z=R.nb) w w'):=by
 exact ζe func258 ntmps258 ϱ (ζF ϱ (by simp) (ζl h0 ϱ (ζi (a*3) ϱ (ζi way ϱ (ζS ϱ h (Ip (i:=a*3+way) (by show 0+a*3+0+way=_;omega) (by omega)) ϱ λe c b d=>ζr func258 ϱ ⟨c,b⟩)))))
theorem XfL(R:Rg)(o:List Nat)(w:World)(h:C9 w R o):Xf prog 216 #[Hx R,.int .i64 0] w (Za (.int .i64 (B4 o)) w):=by
 obtain⟨g,f,a,c,b,e1,e2,d,e⟩:=h.at';exact ζe func216 ntmps216 ϱ (ζw (Rv R w h.obj) ϱ (ζw (Xby R.ab _ 3 g 0 w a (by omega) (by omega)) ϱ (ζr func216 ϱ ⟨X0 b,rfl⟩)))
theorem Xln(R:Rg)(o:List Nat)(w:World)(h:C9 w R o):Xf prog 215 #[Hx R,.int .i64 0] w (Za (.int .i64 (Be (-1) o)) w):=by
 obtain⟨g,f,a,b,c,e1,e2,d,e⟩:=h.at';exact ζe func215 ntmps215 ϱ (ζw (Rv R w h.obj) ϱ (ζw (Xby R.ab _ 3 g 1 w a (by omega) (by omega)) ϱ (ζr func215 ϱ ⟨X0 e1,rfl⟩)))
theorem Xlo(R:Rg)(o:List Nat)(w:World)(h:C9 w R o):Xf prog 172 #[Hx R,.int .i64 0] w (Za (.int .i64 (o.length:Nat)) w):=by
 obtain⟨g,f,a,b,c,e1,e2,d,e⟩:=h.at';exact ζe func172 ntmps172 ϱ (ζw (Rv R w h.obj) ϱ (ζk ϱ (Ed a (k:=2) rfl (by omega)) ϱ (ζr func172 ϱ ⟨X0 e2,rfl⟩)))
theorem XfM(R:Rg)(o:List Nat)(n:Nat)(w:World)(h:C9 w R o)(hn:n<1024)(hno:n∉o)(hlo:o.length<=4096):Xf prog 254 #[Hx R,.int .i64 0,.int .i64 n] w (λv w'=>v=.int .i64 0/\C9 w' R (n::o)/\Xc (Gx R) w w'):=by
 obtain⟨g,f,L,M,e0,e1,e2,hl,T⟩:=h.at';have C:=h.obj;have y:R.nb≠R.ab:=Fi M L (by decide);have N:R.lb≠R.ab:=Fi C L (by decide);have O:R.lb≠R.nb:=Fi C M (by decide);have U:f (n*3+2)=-1:=by rw[T n hn,if_neg hno]
 refine ζe func254 ntmps254 ϱ (ζw (Rv R w C) ϱ (ζw (XfN R n w C hn) ϱ (ζk ϱ (Ed M (k:=n*3+2) (by show 0+n*3+2=_;omega) (by omega)) ϱ ?_)));rw[U];refine ζf ϱ (ζw (Xby R.ab _ 3 g 0 w L (by omega) (by omega)) ϱ ?_);rw[e0];refine ζb ϱ (ζS ϱ M (Ip (i:=n*3+2) (by show 0+n*3+2=_;omega) (by omega)) ϱ λw1 V W al=>ζS ϱ V (Mi (i:=n*3) (by show 0+n*3+0=_;omega) (by omega)) ϱ λD A a0 am=>?_);have q:=W.trans a0;have P:Yn D R.ab 275 3 g:=q.heap L y.symm;have E:=q.heap C O;have key:∀(g' f':Nat->Int) (d:World),Yn d R.ab 275 3 g'->Yn d R.nb 292 3072 f'->d.heap[R.lb]?=some (.cells (J5 R).toArray 290 (0,0))->Xc (Gx R) w d ->
  g' 0=n->g' 1=Be (-1) (n::o)->g' 2=o.length+1->Ib f' (-1) (n::o)->(∀m,m<1024->f' (m*3+2)=if m∈n::o then 0 else -1)->C9 d R (n::o)/\Xc (Gx R) w d:=λg' f' d k1 k2 k3 k4 k5 k6 k7 k8 k9=>
  ⟨⟨k3,List.nodup_cons.2 ⟨hno,h.nodup⟩,λm hm=>by rcases List.mem_cons.1 hm with rfl|hm;exact hn;exact h.lt m hm,g',f',k1,k2,k5,k6,by rw[k7];simp,k8,k9⟩,k4⟩
 have F:∀m,m<1024->(Zk (Zk (Zk f (n*3+2) 0) (n*3) (-1)) (n*3+1) (B4 o)) (m*3+2)=if m∈n::o then 0 else -1:=λm hm=>by
  rw[Yw _ _ (by omega),Yw _ _ (by omega)];by_cases e:m=n
  ·subst e;rw[Dk,if_pos (by simp)]
  ·rw[Yw _ _ (by omega),T m hm];simp[e]
 have B:∀j,j≠n*3+2->j≠n*3->j≠n*3+1->(Zk (Zk (Zk f (n*3+2) 0) (n*3) (-1)) (n*3+1) (B4 o)) j=f j:=λj a b c=>by rw[Yw _ _ c,Yw _ _ b,Yw _ _ a]
 have s:(Zk (Zk (Zk f (n*3+2) 0) (n*3) (-1)) (n*3+1) (B4 o)) (n*3)=-1:=by rw[Yw _ _ (by omega),Dk]
 have t:(Zk (Zk (Zk f (n*3+2) 0) (n*3) (-1)) (n*3+1) (B4 o)) (n*3+1)=B4 o:=Dk ..;have Q:Xc (Gx R) w D:=q.mono λz _ e=>.inr e;obtain⟨f2,G⟩:∃f2,f2=Zk (Zk (Zk f (n*3+2) 0) (n*3) (-1)) (n*3+1) (B4 o):=⟨_,rfl⟩;rw[<-G] at F B s t;replace A:Yn D R.nb 292 3072 f2:=by rw[G];exact A
 cases o with
 |nil=>
  refine ζc ϱ (XfQ R g 0 n D P (by omega)) ?_;rintro _ d ⟨H,l⟩;refine ζa ϱ (ζi 0 ϱ (ζS ϱ H (Ip (i:=0) rfl (by omega)) ϱ λw4 p I a1=>ζk ϱ (Ed p (k:=2) rfl (by omega)) ϱ ?_));have eg:Zk (Zk g (1-0) n) 0 n 2=0:=by rw[Yw _ _ (by decide),Yw _ _ (by decide),e2];rfl
  rw[eg];refine ζj ϱ (ζS ϱ p (Ip (i:=2) rfl (by omega)) ϱ λS J K a2=>?_);have u:=(l.trans I).trans K;exact ζr func254 ϱ ⟨rfl,key _ f2 S J (u.heap A y) (u.heap E N) (Q.trans (u.mono λz _ e=>.inl e)) (by rw[Yw _ _ (by decide),Dk]) (by rw[Yw _ _ (by decide),Yw _ _ (by decide)];exact Dk g 1 n) (by rw[Dk];rfl) ⟨s,t,trivial⟩ F⟩
 |cons a r=>
  have an:a≠n:=λe=>hno (e▸ZI);have a3:=h.lt a (by simp);refine ζc ϱ (XfP R f2 a 0 n D E A (by omega) a3) ?_;rintro _ d ⟨a4,l⟩;refine ζa ϱ ?_;have H:Yn d R.ab 275 3 g:=l.heap P y.symm;refine ζi 0 ϱ (ζS ϱ H (Ip (i:=0) rfl (by omega)) ϱ λw4 p I a1=>ζk ϱ (Ed p (k:=2) rfl (by omega)) ϱ ?_);have eg:Zk g 0 n 2=(a::r).length:=by rw[Yw _ _ (by decide),e2]
  rw[eg];refine ζJ ϱ (by simp only[XM] at hlo⊢;omega) (ζS ϱ p (Ip (i:=2) rfl (by omega)) ϱ λS J K a2=>?_);have x:=I.trans K;have a5:Ib (Zk f2 (a*3+0) n) (-1) (n::a::r):=by
   refine⟨by rw[Yw _ _ (by omega)];exact s,by rw[Yw _ _ (by omega)];exact t,?_⟩;obtain⟨l1,l2,l3⟩:=hl;refine⟨Dk ..,?_,?_⟩
   ·rw[Yw _ _ (by omega),B _ (by omega) (by omega) (by omega)];exact l2
   ·refine Tl (λb hb=>?_) l3;have ao:b≠n:=λe=>hno (e▸ZF _ hb);have ap:b≠a:=λe=>(List.nodup_cons.1 h.nodup).1 (e▸hb);exact⟨by rw[Yw _ _ (by omega),B _ (by omega) (by omega) (by omega)],by rw[Yw _ _ (by omega),B _ (by omega) (by omega) (by omega)]⟩
  exact ζr func254 ϱ ⟨rfl,key _ _ S J (x.heap a4 y) (x.heap (l.heap E O) N) ((Q.trans (l.mono λz _ e=>.inr e)).trans (x.mono λz _ e=>.inl e)) (by rw[Yw _ _ (by decide),Dk]) (by rw[Yw _ _ (by decide),Yw _ _ (by decide),e1];try rfl) (by rw[Dk]) a5 (λm hm=>by rw[Yw _ _ (by omega)];exact F m hm)⟩
theorem Xes:∀(l1:List Nat) (p:Int),Ib f p (l1++n::l2)->f (n*3)=Be p l1/\f (n*3+1)=B4 l2
 |[],_,h=>⟨h.1,h.2.1⟩
 |a::t,_,h=>Xes t a h.2.2
def Mp(g:Nat->Int)(a:Int)(way:Nat)(to:Int):Nat->Int:=if a=-1 then Zk g (1-way) to else g
def K8(f:Nat->Int)(a:Int)(way:Nat)(to:Int):Nat->Int:=if a=-1 then f else Zk f (a.toNat*3+way) to
theorem XfO(R:Rg)(g f:Nat->Int)(a:Int)(way:Nat)(to:Int)(w:World)(h0:w.heap[R.lb]?=some (.cells (J5 R).toArray 290 (0,0)))(h1:Yn w R.ab 275 3 g)(h2:Yn w R.nb 292 3072 f)(hw:way<=1)(ha:a=-1\/∃k:Nat,a=k/\k<1024):Xf prog 258 #[Hx R,.pointer (some ⟨R.ab,0,none⟩),.int .i64 a,.int .i64 way,.int .i64 to] w (λ_ w'=>Yn w' R.ab 275 3 (Mp g a way to)/\Yn w' R.nb 292 3072 (K8 f a way to)/\w'.heap[R.lb]?=some (.cells (J5 R).toArray 290 (0,0))/\Xc (Gx R) w w'):=by
 have c:=Fi h2 h1 (by decide);rcases ha with rfl|⟨k,rfl,h⟩
 ·exact(XfQ R g way to w h1 hw).mono λ_ w' ⟨d,b⟩=>⟨d,b.heap h2 c,b.heap h0 (Fi h0 h1 (by decide)),b.mono λz _ e=>.inl e⟩
 ·refine(XfP R f k way to w h0 h2 hw h).mono λ_ w' ⟨d,b⟩=>⟨?_,?_,b.heap h0 (Fi h0 h2 (by decide)),b.mono λz _ e=>.inr e⟩
  ·unfold Mp;rw[if_neg (by omega)];exact b.heap h1 c.symm
  ·unfold K8;rw[if_neg (by omega)];exact d
theorem Xjc(l:List Nat)(hl:∀n∈l,n<1024):Be (-1) l=-1\/∃k:Nat,Be (-1) l=k/\k<1024:=by
 rcases I7 (-1) l with⟨_,h⟩|⟨a,b,h,_⟩
 ·exact .inl h
 ·exact .inr ⟨a,h,hl a b⟩
theorem XiY(l:List Nat)(hl:∀n∈l,n<1024):B4 l=-1\/∃k:Nat,B4 l=k/\k<1024:=by
 cases l with
 |nil=>exact .inl rfl
 |cons a r=>exact .inr ⟨a,rfl,hl a (by simp)⟩
theorem Xjd{l:List Nat}(h:Be (-1) l=-1):l=[]:=by
 rcases I7 (-1) l with⟨e,_⟩|⟨a,_,b,_⟩
 ·exact e
 ·omega
theorem XiZ{l:List Nat}(h:B4 l=-1):l=[]:=by
 cases l with
 |nil=>rfl
 |cons a r=>have:(a:Int)=-1:=h;omega
theorem Ug(R:Rg)(l1 l2:List Nat)(n:Nat)(w:World)(h:C9 w R (l1++n::l2))(hlo:(l1++n::l2).length<=4096):Xf prog 224 #[Hx R,.int .i64 n] w (λv w'=>v=.int .i64 0/\C9 w' R (l1++l2)/\Xc (Gx R) w w'):=by
 obtain⟨g,f,h1,C,e0,e1,e2,W,ho⟩:=h.at';have S:=h.obj;have hn:=h.lt n (by simp);have u:=h.nodup;have M:n∉l1:=λd=>(List.nodup_append.1 u).2.2 n d n (by simp) rfl;have N:=(List.nodup_cons.1 (List.nodup_append.1 u).2.1).1;have O:n∉l1++l2:=λd=>by rcases List.mem_append.1 d with h|h;exact M h;exact N h
 have P:f (n*3+2)=0:=by rw[ho n hn,if_pos (by simp)]
 obtain⟨ea,en⟩:=Xes l1 (-1) W;have T:=Xjc l1 (λm d=>h.lt m (by simp[d]));have U:=XiY l2 (λm d=>h.lt m (by simp[d]));have D:=Xet l1 (-1) u W (.inl rfl);obtain⟨pr,o⟩:∃pr,pr=Be (-1) l1:=⟨_,rfl⟩;obtain⟨nx,p⟩:∃nx,nx=B4 l2:=⟨_,rfl⟩;rw[<-o] at ea T D;rw[<-p] at en U D;have V:pr=-1\/pr.toNat≠n:=by
  rcases I7 (-1) l1 with⟨_,h⟩|⟨a,E,h,_⟩
  ·exact .inl (by rw[o,h])
  ·exact .inr (λe=>M (by rw[o,h] at e;exact(show a=n from e)▸E))
 have ae:nx=-1\/nx.toNat≠n:=by
  cases l2 with
  |nil=>exact .inl p
  |cons b r=>exact .inr (λe=>N (by rw[p] at e;exact(show b=n from e)▸ZI))
 refine ζe func224 ntmps224 ϱ (ζw (XfN R n w S hn) ϱ (ζk ϱ (Ed C (k:=n*3+2) (by show 0+n*3+2=_;omega) (by omega)) ϱ ?_));rw[P];refine ζf ϱ (ζk ϱ (Ed C (k:=n*3+2) (by show 0+n*3+2=_;omega) (by omega)) ϱ ?_);rw[P];refine ζw (Rv R w S) ϱ (ζd 12 Xe (by kernel_rfl) ϱ λl=>δi 0 l ϱ (δk l (Ed C (k:=n*3) (by show 0+n*3+0+0=_;omega) (by omega)) ϱ (δi 1 l ϱ (δk l (Ed C (k:=n*3+1) (by show 0+n*3+0+1=_;omega) (by omega)) ϱ (δn l ϱ λw1 x=>?_)))));rw[ea,en];refine ζc ϱ (XfO R g f pr 1 nx w1 (x.heap' S) (x.heap' h1) (x.heap' C) (by omega) T) ?_;rintro _ w2 ⟨a2,F,a3,a4⟩;have k1:K8 f pr 1 nx (n*3+1)=nx:=by
  unfold K8;by_cases B:pr=-1
  ·rw[if_pos B];exact en
  ·rw[if_neg B,Yw _ _ (by rcases V with h|h;exact absurd h B;omega)];exact en
 have k2:K8 f pr 1 nx (n*3)=pr:=by
  unfold K8;by_cases B:pr=-1
  ·rw[if_pos B];exact ea
  ·rw[if_neg B,Yw _ _ (by omega)];exact ea
 refine ζa ϱ (ζd 12 Xe (by kernel_rfl) ϱ λl=>δi 1 l ϱ (δk l (Ed F (k:=n*3+1) (by show 0+n*3+0+1=_;omega) (by omega)) ϱ (δi 0 l ϱ (δk l (Ed F (k:=n*3) (by show 0+n*3+0+0=_;omega) (by omega)) ϱ (δn l ϱ λw3 y=>?_)))));rw[k1,k2];refine ζc ϱ (XfO R _ _ nx 0 pr w3 (y.heap' a3) (y.heap' a2) (y.heap' F) (by omega) U) ?_;rintro _ w4 ⟨q,A,H,a5⟩;refine ζa ϱ ?_;have hF:K8 (K8 f pr 1 nx) nx 0 pr=Hj f pr nx:=rfl;rw[hF] at A;obtain⟨G,L⟩:∃G,G=Mp (Mp g pr 1 nx) nx 0 pr:=⟨_,rfl⟩;rw[<-L] at q;have G2:G 2=(l1++n::l2).length:=by
  rw[L];unfold Mp;by_cases a:pr=-1 <;> by_cases b:nx=-1 <;> simp[a,b,Zk,e2]
 have G0:G 0=B4 (l1++l2):=by
  rw[L];unfold Mp;by_cases a:pr=-1
  ·have:l1=[]:=Xjd (o▸a);subst this;by_cases b:nx=-1 <;> simp[a,b,Zk] <;> rw[<-p] <;> simp[b]
  ·have I:l1≠[]:=λe=>a (by rw[o,e];rfl);obtain⟨c,t,rfl⟩:=List.exists_cons_of_ne_nil I;have:g 0=c:=e0;by_cases b:nx=-1 <;> simp[a,b,Zk,this] <;> rfl
 have G1:G 1=Be (-1) (l1++l2):=by
  rw[L];unfold Mp;by_cases b:nx=-1
  ·have:l2=[]:=XiZ (p▸b);subst this;rw[YB,<-o];by_cases a:pr=-1 <;> simp[a,b,Zk]
  ·have I:l2≠[]:=λe=>b (by rw[p,e];rfl);obtain⟨c,t,rfl⟩:=List.exists_cons_of_ne_nil I;have a6:g 1=Be (-1) (l1++c::t):=by rw[e1,XaB,XaB];rfl
   rw[<-a6];by_cases a:pr=-1 <;> simp[a,b,Zk]
 refine ζk ϱ (Ed q (k:=2) rfl (by omega)) ϱ ?_;rw[G2];have Q:=Fi A q (by decide);refine ζj ϱ (ζS ϱ q (Ip (i:=2) rfl (by omega)) ϱ λw5 a7 J ao=>ζb ϱ (ζS ϱ (J.heap A Q) (Ip (i:=n*3+2) (by show 0+n*3+2=_;omega) (by omega)) ϱ λw6 a8 a9 ap=>ζS ϱ a8 (Mi (i:=n*3) (by show 0+n*3+0=_;omega) (by omega)) ϱ λw7 aa ab aq=>?_));have s:=a9.trans ab;have K:∀j,j≠n*3+2->j≠n*3->j≠n*3+1->(Zk (Zk (Zk (Hj f pr nx) (n*3+2) (-1)) (n*3) (-1)) (n*3+1) (-1)) j=Hj f pr nx j:=λj a b c=>by rw[Yw _ _ c,Yw _ _ b,Yw _ _ a]
 exact Xa.ret1 Xb rfl func224 rfl rfl ⟨rfl,⟨s.heap (J.heap H (Fi H q (by decide))) (Fi H A (by decide)),by
  have:=u;rw[List.nodup_append] at this⊢;exact⟨this.1,(List.nodup_cons.1 this.2.1).2,λa E b hb=>this.2.2 a E b (by simp[hb])⟩,λm d=>h.lt m (by rcases List.mem_append.1 d with h|h <;> simp[h]),_,_,s.heap a7 Q.symm,aa,by rw[Yw _ _ (by decide)];exact G0,by rw[Yw _ _ (by decide)];exact G1,by rw[Dk];simp;omega,Tl (λa E=>by
  have:a≠n:=λe=>O (e▸E);exact⟨(K _ (by omega) (by omega) (by omega)).symm,(K _ (by omega) (by omega) (by omega)).symm⟩) D,λm d=>by
  by_cases e:m=n
  ·subst e;rw[Yw _ _ (by omega),Yw _ _ (by omega),Dk,if_neg O]
  ·rw[K _ (by omega) (by omega) (by omega),Nq (by rcases T with h|⟨k,h,_⟩;exact .inl h;exact .inr (by omega)) (by rcases U with h|⟨k,h,_⟩;exact .inl h;exact .inr (by omega)),ho m d];simp[e]⟩,(((x.gr.trans a4).trans (y.gr.trans a5)).trans (J.mono λz _ e=>.inl e)).trans (s.mono λz _ e=>.inr e)⟩
theorem U7(n:Nat)(t:Nat->Int)(ht:∀i,t i=0):Cd n t=List.replicate n (.int .i64 0):=by
 unfold Cd;rw[YA (g:=λ_=>Value.int .i64 0) (λi _=>by rw[ht]),List.map_const',YK]
theorem R9(c:Nat):∀n,Y5 (List.replicate c (Value.int .i64 0)) n=List.replicate (n*c) (Value.int .i64 0)
 |0=>by rw[Nat.zero_mul];rfl
 |n+1=>by rw[Y5,R9 c n,List.replicate_append_replicate,QP,Nat.add_comm]
def Gq:Nat->Nat->Int
 |0=>λ_=>0
 |k+1=>Zk (Zk (Zk (Gq k) (k*3) (-1)) (k*3+1) (-1)) (k*3+2) (-1)
theorem Xaw:∀(k n:Nat),n<k->Gq k (n*3+2)=-1
 |k+1,n,h=>by
  show Zk (Zk (Zk (Gq k) (k*3) (-1)) (k*3+1) (-1)) (k*3+2) (-1) (n*3+2)=-1
  by_cases e:n=k
  ·subst e;exact Dk ..
  ·rw[Yw _ _ (by omega),Yw _ _ (by omega),Yw _ _ (by omega)];exact Xaw k n (by omega)
def Jw:Nat->Nat->Int
 |0=>λ_=>0
 |k+1=>Zk (Zk (Jw k) (k*3) (-1)) (k*3+1) (-1)
theorem Xlp(w:World):Xf prog 188 #[.int .i64 1024,.int .i64 1] w
 (λv w'=>∃R,v=.tuple #[Hx R,.int .i64 0]/\(w.heap.size<=R.lb/\w.heap.size<=R.ab/\w.heap.size<=R.nb)/\C9 w' R []/\Xc Xe w w'):=by
 refine ζe func188 ntmps188 ϱ (ζf ϱ (ζf ϱ (ζf ϱ (ζf ϱ (ζd 4 Xe (by kernel_rfl) ϱ λp=>?_)))));refine Xd.turn2 p rfl ?_ ?_
 ·intro w1 r;refine Xp.make Xb p rfl (m:=1) (kk:=1) rfl rfl (XE _) (by decide) (by decide) (λ_=>rfl) λab w2 e2 b B Q=>Xd.turn1 p rfl λw3 g=>Xp.make Xb p rfl (m:=1024) (kk:=1024) rfl rfl (XE _) (by decide) (by decide) (λ_=>rfl) λnb w4 e4 c s S=>?_;have T:=r.size;have U:=g.size;refine δn p ϱ λC j=>?_;replace b:Yn C ab 275 3 (Jw 0):=by
   have:=((g.trans s).trans j).heap' b;rw[show Y5 (Y8 (Value.agg #[Value.int .i64 0,Value.int .i64 0,Value.int .i64 0])) 1=_ from R9 3 1] at this;unfold Yn;rw[U7 3 (Jw 0) (λ_=>rfl)];exact this
  replace c:Yn C nb 292 3072 (Gq 0):=by
   have:=(j).heap' c;rw[show Y5 (Y8 (Value.agg #[Value.int .i64 0,Value.int .i64 0,Value.int .i64 0])) 1024=_ from R9 3 1024] at this;unfold Yn;rw[U7 3072 (Gq 0) (λ_=>rfl)];exact this
  have t:=(((r.trans B).trans g).trans s).trans j;have u:=Fi b c (by decide);have H:=Xg b;have I:=Xg c;have J:=t.size;refine ζb ϱ (ζn ϱ λlb K e6 l n V=>?_);refine ζl l ϱ ?_;refine Xa.loop (α:=Nat) (λk=>[(6,false,.pointer (some ⟨lb,0,none⟩)),(33,false,.int .i64 1),(34,false,.int .i64 k)])
   (λk w'=>k<=1/\Yn w' ab 275 3 (Jw k)/\Xc (λz=>z=ab) K w') (λk=>1-k) 0 ⟨rfl,rfl,rfl,trivial⟩ ⟨XL _,n.heap' b,Xc.refl _ _⟩ ?_
  rintro k L ⟨hk,D,d⟩ ih;refine ζa ϱ (ζg ϱ (λx=>?_) λx=>?_)
  ·have o:k<1:=by have:=of_decide_eq_true x;omega
   exact ζl (d.heap l (by omega)) ϱ (ζb ϱ (ζi (k*3) ϱ (ζS ϱ D (Mi (i:=k*3) (by show 0+k*3+0+0=_;omega) (by omega)) ϱ λM q a W=>ζj ϱ (ih (k+1) _ _ ⟨o,q,d.trans a⟩ (by omega) ⟨rfl,rfl,rfl,trivial⟩))))
  have E:k=1:=by have:=of_decide_eq_false x;omega
  subst E;have f:=d.heap l (by omega);refine ζl f ϱ ?_;refine Xa.loop (α:=Nat) (λk=>[(6,false,.pointer (some ⟨lb,0,none⟩)),(51,false,.int .i64 1024),(52,false,.int .i64 k)])
   (λk w'=>k<=1024/\Yn w' nb 292 3072 (Gq k)/\Xc (λz=>z=nb) L w') (λk=>1024-k) 0 ⟨rfl,rfl,rfl,trivial⟩ ⟨XL _,(d.heap (n.heap' c) u.symm),Xc.refl _ _⟩ ?_
  rintro k M ⟨a0,q,a⟩ F;refine ζa ϱ (ζg ϱ (λy=>?_) λy=>?_)
  ·have o:k<1024:=by have:=of_decide_eq_true y;omega
   exact ζl (a.heap f (by omega)) ϱ (ζb ϱ (ζb ϱ (ζi (k*3) ϱ (ζS ϱ q (Xf5 (i:=k*3) (by show 0+k*3=_;omega) (by omega)) ϱ λw9 N G a1=>ζj ϱ (F (k+1) _ _ ⟨o,N,a.trans G⟩ (by omega) ⟨rfl,rfl,rfl,trivial⟩)))))
  have A:k=1024:=by have:=of_decide_eq_false y;omega
  subst A;exact ζr func188 ϱ ⟨⟨lb,ab,nb⟩,rfl,⟨by show _<=lb;omega,by show _<=ab;omega,by show _<=nb;omega⟩,⟨a.heap f (by show ¬lb=nb;omega),YJ,(λ_ h=>by cases h),Jw 1,Gq 1024,a.heap D u,q,rfl,rfl,rfl,trivial,λm O=>by rw[Xaw 1024 m O];rfl⟩,(((t.trans n).since d (λz P e=>by omega)).since a (λz P e=>by omega))⟩
 ·intro w1 r;refine Xp.make Xb p rfl (m:=1024) (kk:=1024) rfl rfl (XE _) (by decide) (by decide) (λ_=>rfl) λnb w2 e2 c B Q=>Xd.turn1 p rfl λw3 g=>Xp.make Xb p rfl (m:=1) (kk:=1) rfl rfl (XE _) (by decide) (by decide) (λ_=>rfl) λab w4 e4 b s S=>?_;have T:=r.size;have U:=g.size;refine δn p ϱ λC j=>?_;replace b:Yn C ab 275 3 (Jw 0):=by
   have:=(j).heap' b;rw[show Y5 (Y8 (Value.agg #[Value.int .i64 0,Value.int .i64 0,Value.int .i64 0])) 1=_ from R9 3 1] at this;unfold Yn;rw[U7 3 (Jw 0) (λ_=>rfl)];exact this
  replace c:Yn C nb 292 3072 (Gq 0):=by
   have:=((g.trans s).trans j).heap' c;rw[show Y5 (Y8 (Value.agg #[Value.int .i64 0,Value.int .i64 0,Value.int .i64 0])) 1024=_ from R9 3 1024] at this;unfold Yn;rw[U7 3072 (Gq 0) (λ_=>rfl)];exact this
  have t:=(((r.trans B).trans g).trans s).trans j;have u:=Fi b c (by decide);have H:=Xg b;have I:=Xg c;have J:=t.size;refine ζb ϱ (ζn ϱ λlb K e6 l n V=>?_);refine ζl l ϱ ?_;refine Xa.loop (α:=Nat) (λk=>[(6,false,.pointer (some ⟨lb,0,none⟩)),(33,false,.int .i64 1),(34,false,.int .i64 k)])
   (λk w'=>k<=1/\Yn w' ab 275 3 (Jw k)/\Xc (λz=>z=ab) K w') (λk=>1-k) 0 ⟨rfl,rfl,rfl,trivial⟩ ⟨XL _,n.heap' b,Xc.refl _ _⟩ ?_
  rintro k L ⟨hk,D,d⟩ ih;refine ζa ϱ (ζg ϱ (λx=>?_) λx=>?_)
  ·have o:k<1:=by have:=of_decide_eq_true x;omega
   exact ζl (d.heap l (by omega)) ϱ (ζb ϱ (ζi (k*3) ϱ (ζS ϱ D (Mi (i:=k*3) (by show 0+k*3+0+0=_;omega) (by omega)) ϱ λM q a W=>ζj ϱ (ih (k+1) _ _ ⟨o,q,d.trans a⟩ (by omega) ⟨rfl,rfl,rfl,trivial⟩))))
  have E:k=1:=by have:=of_decide_eq_false x;omega
  subst E;have f:=d.heap l (by omega);refine ζl f ϱ ?_;refine Xa.loop (α:=Nat) (λk=>[(6,false,.pointer (some ⟨lb,0,none⟩)),(51,false,.int .i64 1024),(52,false,.int .i64 k)])
   (λk w'=>k<=1024/\Yn w' nb 292 3072 (Gq k)/\Xc (λz=>z=nb) L w') (λk=>1024-k) 0 ⟨rfl,rfl,rfl,trivial⟩ ⟨XL _,(d.heap (n.heap' c) u.symm),Xc.refl _ _⟩ ?_
  rintro k M ⟨a0,q,a⟩ F;refine ζa ϱ (ζg ϱ (λy=>?_) λy=>?_)
  ·have o:k<1024:=by have:=of_decide_eq_true y;omega
   exact ζl (a.heap f (by omega)) ϱ (ζb ϱ (ζb ϱ (ζi (k*3) ϱ (ζS ϱ q (Xf5 (i:=k*3) (by show 0+k*3=_;omega) (by omega)) ϱ λw9 N G a1=>ζj ϱ (F (k+1) _ _ ⟨o,N,a.trans G⟩ (by omega) ⟨rfl,rfl,rfl,trivial⟩)))))
  have A:k=1024:=by have:=of_decide_eq_false y;omega
  subst A;exact ζr func188 ϱ ⟨⟨lb,ab,nb⟩,rfl,⟨by show _<=lb;omega,by show _<=ab;omega,by show _<=nb;omega⟩,⟨a.heap f (by show ¬lb=nb;omega),YJ,(λ_ h=>by cases h),Jw 1,Gq 1024,a.heap D u,q,rfl,rfl,rfl,trivial,λm O=>by rw[Xaw 1024 m O];rfl⟩,(((t.trans n).since d (λz P e=>by omega)).since a (λz P e=>by omega))⟩
abbrev PgL:=List (Nat×List Int)
structure Sm where
 cls:Int
 blocks:Nat
 pg:PgL
 opn:List Nat
def Zi:PgL->Int->Option (List Int)
 |[],_=>none
 |(m,p)::r,n=>if (m:Int)=n then some p else Zi r n
def Zo(l:PgL)(n:Nat)(p:List Int):PgL:=l.map λe=>if e.1=n then (n,p) else e
def Qk(l:PgL)(n:Nat):PgL:=l.filter λe=>e.1 != n
def Yh:PgL->Nat
 |[]=>0
 |(_,p)::r=>Xu p+Yh r
theorem Ga:∀{l:PgL} {n:Int} {p:List Int},Zi l n=some p -> ∃m:Nat,n=m/\(m,p)∈l
 |(m,q)::r,n,p,h=>by
  unfold Zi at h;by_cases e:(m:Int)=n
  ·rw[if_pos e] at h;cases h;exact⟨m,e.symm,by simp⟩
  ·rw[if_neg e] at h;obtain⟨m',e',a⟩:=Ga h;exact⟨m',e',by simp[a]⟩
theorem XbL:∀{l:PgL} {n:Int},Zi l n=none -> ∀e∈l,(e.1:Int)≠n
 |[],_,_,_,he=>by cases he
 |(m,q)::r,n,h,e,he=>by
  unfold Zi at h;by_cases hm:(m:Int)=n
  ·rw[if_pos hm] at h;cases h
  ·rw[if_neg hm] at h;rcases List.mem_cons.1 he with rfl|he
   ·exact hm
   ·exact XbL h e he
theorem A6:∀{l:PgL} {m:Nat} {p:List Int},(l.map (·.1)).Nodup->(m,p)∈l->Zi l m=some p
 |(a,q)::r,m,p,b,hm=>by
  obtain⟨c,d⟩:=List.nodup_cons.1 b;unfold Zi;rcases List.mem_cons.1 hm with e|hm
  ·cases e;rw[if_pos rfl]
  ·have:a≠m:=λe=>c (List.mem_map.2 ⟨(m,p),hm,e.symm⟩);rw[if_neg (by omega)];exact A6 d hm
theorem Kc(l:PgL)(n:Nat)(p:List Int):(Zo l n p).map (·.1)=l.map (·.1):=by
 unfold Zo;rw[List.map_map];refine YA λe _=>?_;show(if e.1=n then (n,p) else e).1=e.1
 split
 ·rename_i h;exact h.symm
 ·rfl
theorem E8{l:PgL}(h:e∈Zo l n p):(e=(n,p)/\∃q,(n,q)∈l)\/(e.1≠n/\e∈l):=by
 unfold Zo at h;obtain⟨u,b,e1⟩:=List.mem_map.1 h;by_cases a:u.1=n
 ·rw[if_pos a] at e1;exact .inl ⟨e1.symm,u.2,by rw[<-a];exact b⟩
 ·rw[if_neg a] at e1;subst e1;exact .inr ⟨a,b⟩
theorem Ie{l:PgL}:e∈Qk l n↔e.1≠n/\e∈l:=by
 unfold Qk;rw[List.mem_filter];simp only[bne_iff_ne,ne_eq];exact And.comm
theorem Xgg(l:PgL)(n:Nat):(Qk l n).map (·.1)=(l.map (·.1)).filter (λm=>m != n):=by
 unfold Qk;rw[List.filter_map];rfl
theorem Xml:∀{l:PgL} {n:Nat} (p:List Int),n∉l.map (·.1)->Zo l n p=l:=λ{l n} p h=>by
 unfold Zo
 conv=>rhs;rw[<-List.map_id l]
 refine YA λe a=>?_;rw[if_neg (λb=>h (List.mem_map.2 ⟨e,a,b⟩))];rfl
theorem Xmg{l:PgL}(h:n∉l.map (·.1)):Qk l n=l:=by
 unfold Qk;refine List.filter_eq_self.2 λe a=>?_;simp only[bne_iff_ne,ne_eq];exact λb=>h (List.mem_map.2 ⟨e,a,b⟩)
theorem Mm:∀{l:PgL} {n:Nat} {p q:List Int},(l.map (·.1)).Nodup->(n,q)∈l->Yh (Zo l n p)+Xu q=Yh l+Xu p
 |(a,r)::t,n,p,q,d,hm=>by
  obtain⟨b,f⟩:=List.nodup_cons.1 d;rcases List.mem_cons.1 hm with e|hm
  ·have e1:=(Prod.mk.inj e).1;have e2:=(Prod.mk.inj e).2;subst e1;subst e2;have:Zo ((n,q)::t) n p=(n,p)::t:=by
    show(if n=n then (n,p) else (n,q))::Zo t n p=_
    rw[if_pos rfl,Xml p b]
   rw[this];simp only[Yh];omega
  ·have c:a≠n:=λe=>b (e▸List.mem_map.2 ⟨(n,q),hm,rfl⟩);have:Zo ((a,r)::t) n p=(a,r)::Zo t n p:=by
    show(if a=n then (n,p) else (a,r))::Zo t n p=_
    rw[if_neg c]
   rw[this];have ih:=Mm (p:=p) f hm;simp only[Yh];omega
theorem Uv:∀{l:PgL} {n:Nat} {q:List Int},(l.map (·.1)).Nodup->(n,q)∈l->Yh (Qk l n)+Xu q=Yh l/\(Qk l n).length+1=l.length
 |(a,r)::t,n,q,d,hm=>by
  obtain⟨b,f⟩:=List.nodup_cons.1 d;rcases List.mem_cons.1 hm with e|hm
  ·have e1:=(Prod.mk.inj e).1;have e2:=(Prod.mk.inj e).2;subst e1;subst e2;have:Qk ((n,q)::t) n=t:=by
    unfold Qk;rw[XY];simp only[bne_self_eq_false,QD,if_false];exact Xmg b
   rw[this];exact⟨Nat.add_comm _ _,rfl⟩
  ·have c:a≠n:=λe=>b (e▸List.mem_map.2 ⟨(n,q),hm,rfl⟩);have:Qk ((a,r)::t) n=(a,r)::Qk t n:=by
    unfold Qk;rw[XY];simp[c]
   rw[this];obtain⟨g,h⟩:=Uv f hm;simp only[Yh,XM];omega
theorem XbN:∀(l:PgL) (n:Nat) (p:List Int),Yh (l++[(n,p)])=Yh l+Xu p
 |[],n,p=>by simp[Yh]
 |(a,r)::t,n,p=>by
  have:=XbN t n p;show Xu r+Yh (t++[(n,p)])=Xu r+Yh t+Xu p
  omega
theorem Xgj:∀{l:PgL} {b:Nat},(∀e∈l,e.2.length=b)->Yh l<=l.length*b
 |[],b,_=>by simp[Yh]
 |(a,r)::t,b,h=>by
  have ih:=Xgj (l:=t) (b:=b) (λe c=>h e (by simp[c]));have d:=Oa r;have f:r.length=b:=h (a,r) (by simp);simp only[Yh,XM,QP];omega
structure Sm.Ok(x:Sm):Prop where
 nodup:(x.pg.map (·.1)).Nodup
 cls:0<=x.cls
 blk:1<=x.blocks/\x.blocks<=512
 each:∀e∈x.pg,e.1<1024/\e.2.length=x.blocks/\(e.1∈x.opn↔Xu e.2≠x.blocks)
 onodup:x.opn.Nodup
 osub:∀n∈x.opn,∃p,(n,p)∈x.pg
def Sm.Pos(x:Sm):Prop:=∀e∈x.pg,0<Xu e.2
def Sm.Of(x:Sm)(pl:PlM):Prop:=∀e∈x.pg,e.1<pl.own.length/\pl.own.getD e.1 0=x.cls
def Sm.fresh(x:Sm)(n:Nat):Sm:={x with pg:=x.pg++[(n,List.replicate x.blocks (-1))],opn:=n::x.opn}
def Sm.takeAt(x:Sm)(n:Nat)(p:List Int)(who:Int):Sm:=
 {x with pg:=Zo x.pg n (Z5 p who),opn:=if Xu (Z5 p who)=x.blocks then x.opn.filter (λm=>m != n) else x.opn}
def Sm.giveAt(x:Sm)(n:Nat)(p:List Int)(i:Int):Sm:=
 let o:=if Xu p=x.blocks then n::x.opn else x.opn
 if Xu (Z7 p i)=0 then {x with pg:=Qk x.pg n,opn:=o.filter (λm=>m != n)} else {x with pg:=Zo x.pg n (Z7 p i),opn:=o}
def Sm.ownAt(x:Sm)(n:Nat)(p:List Int)(i who:Int):Sm:={x with pg:=Zo x.pg n (Bp p i who)}
theorem Rc:Yf p<0↔Xu p=p.length:=by
 have:=XaI (x:=Y4 p);rw[Ew] at this;exact this
theorem Ma(p:List Int)(who:Int):(Z5 p who).length=p.length:=by
 unfold Z5;split <;> simp
theorem Xfa(p:List Int)(i:Int):(Z7 p i).length=p.length:=by
 unfold Z7;split <;> simp
theorem Xfb(p:List Int)(i who:Int):(Bp p i who).length=p.length:=by
 unfold Bp;split <;> simp
theorem Nv{x:List Int}(h:i<x.length):x.getD i 0=x.getD i (-1):=by
 rw[XC,XC,XB h];rfl
theorem Ja(hw:0<=who)(h:Xu p≠p.length):C1 p who=0/\Xu (Z5 p who)=Xu p+1:=by
 have a:¬Yf p<0:=λe=>h (Rc.1 e);have e:C1 p who=0:=by unfold C1;rw[if_neg (by omega),if_neg a]
 obtain⟨b,c⟩:=T5 a;refine⟨e,?_⟩;unfold Z5;rw[if_pos e];have:=Hu (v:=who) b;rw[if_pos (by rw[Nv b];exact c),if_neg (by omega)] at this;omega
theorem Xa7{i:Int}(h:Qx p i=0):Xu (Z7 p i)+1=Xu p:=by
 unfold Z7;rw[if_pos h];unfold Qx at h;split at h
 ·cases h
 ·rename_i b
  split at h
  ·cases h
  ·rename_i a
   have hi:i.toNat<p.length:=by omega
   have:=Hu (v:=-1) hi;unfold Z4 at a;rw[if_pos (by omega)] at a;rw[if_neg (by rw[Nv hi];exact a),if_pos rfl] at this;omega
theorem T3{i:Int}:Xu (Bp p i who)=Xu p:=by
 unfold Bp;split
 ·rename_i h
  unfold Ak at h;split at h
  ·cases h
  ·rename_i b
   split at h
   ·cases h
   ·rename_i a
    have hi:i.toNat<p.length:=by omega
    have:=Hu (v:=who) hi;unfold Z4 at a;rw[if_pos (by omega)] at a;rw[if_neg (by rw[Nv hi];exact a),if_neg (by omega)] at this;omega
 ·rfl
theorem Px{l:List Nat}{m:Nat}:m∈l.filter (λk=>k != n)↔m≠n/\m∈l:=by
 rw[List.mem_filter];simp only[bne_iff_ne,ne_eq];exact And.comm
theorem Sm.Ok.fresh{x:Sm}(h:x.Ok){n:Nat}(hn:n<1024)(hno:n∉x.pg.map (·.1)):(x.fresh n).Ok:=by
 have f:=h.blk;have g:n∉x.opn:=λhm=>by obtain⟨p,d⟩:=h.osub n hm;exact hno (List.mem_map.2 ⟨_,d,rfl⟩)
 refine⟨?_,h.cls,h.blk,λe he=>?_,List.nodup_cons.2 ⟨g,h.onodup⟩,λm hm=>?_⟩
 ·show((x.pg++[(n,List.replicate x.blocks (-1))]).map Prod.fst).Nodup
  rw[XI];refine List.nodup_append.2 ⟨h.nodup,by simp,λa i b f e=>?_⟩;have:b=n:=by simpa using f
  exact hno (this▸e▸i)
 ·rcases List.mem_append.1 he with he|he
  ·obtain⟨a,b,c⟩:=h.each e he;have:e.1≠n:=λe'=>hno (List.mem_map.2 ⟨e,he,e'⟩);exact⟨a,b,by show e.1∈n::x.opn↔_;rw[QR];simp only[this,false_or];exact c⟩
  ·have:e=(n,List.replicate x.blocks (-1)):=by simpa using he
   subst this;refine⟨hn,by simp[Sm.fresh],?_⟩;show n∈n::x.opn↔Xu (List.replicate x.blocks (-1))≠x.blocks
   rw[Ht];constructor
   ·intro _;omega
   ·intro _;simp
 ·rcases List.mem_cons.1 hm with rfl|hm
  ·exact⟨List.replicate x.blocks (-1),ZU _ (by simp)⟩
  ·obtain⟨p,d⟩:=h.osub m hm;exact⟨p,QG _ d⟩
theorem Sm.Ok.takeAt{x:Sm}(h:x.Ok)(hw:0<=who)(hp:(n,p)∈x.pg)(ho:n∈x.opn):(x.takeAt n p who).Ok:=by
 obtain⟨i,j,r⟩:=h.each _ hp;simp only at i j r
 refine⟨by show((Zo _ _ _).map _).Nodup;rw[Kc];exact h.nodup,h.cls,h.blk,λe g=>?_,?_,λm s=>?_⟩
 ·rcases E8 g with⟨rfl,_⟩|⟨k,g⟩
  ·refine⟨i,by rw[Ma];exact j,?_⟩;show n∈(if _ then _ else _)↔_
   by_cases f:Xu (Z5 p who)=x.blocks
   ·rw[if_pos f,Px];exact⟨λh=>absurd rfl h.1,λh=>absurd f h⟩
   ·rw[if_neg f];exact⟨λ_=>f,λ_=>ho⟩
  ·obtain⟨a,b,c⟩:=h.each e g;refine⟨a,b,?_⟩;show e.1∈(if _ then _ else _)↔_
   split
   ·rw[Px];simp only[ne_eq,k,not_false_eq_true,true_and];exact c
   ·exact c
 ·show(if _ then _ else _:List Nat).Nodup
  split
  ·exact h.onodup.filter _
  ·exact h.onodup
 ·have l:m∈x.opn:=by
   have d:m∈(if _ then _ else _:List Nat):=s;split at d
   ·exact(Px.1 d).2
   ·exact d
  obtain⟨q,o⟩:=h.osub m l;by_cases e:m=n
  ·subst e;exact⟨_,List.mem_map.2 ⟨(m,q),o,if_pos rfl⟩⟩
  ·exact⟨q,List.mem_map.2 ⟨(m,q),o,if_neg e⟩⟩
theorem Sm.Ok.giveAt{x:Sm}(h:x.Ok){n:Nat}{p:List Int}{i:Int}(hp:(n,p)∈x.pg)(hi:Qx p i=0):(x.giveAt n p i).Ok:=by
 obtain⟨s,t,l⟩:=h.each _ hp;simp only at s t l
 have A:=Xa7 hi;have z:=Oa p;have u:n∈(if Xu p=x.blocks then n::x.opn else x.opn):=by
  split
  ·simp
  ·rename_i o;exact l.2 o
 have k:(if Xu p=x.blocks then n::x.opn else x.opn).Nodup:=by
  split
  ·rename_i o;exact List.nodup_cons.2 ⟨λf=>(l.1 f) o,h.onodup⟩
  ·exact h.onodup
 have d:∀m,m≠n->(m∈(if Xu p=x.blocks then n::x.opn else x.opn)↔m∈x.opn):=λm f=>by
  split
  ·rw[QR];simp[f]
  ·rfl
 unfold Sm.giveAt;simp only
 by_cases v:Xu (Z7 p i)=0
 ·rw[if_pos v];refine⟨by show((Qk _ _).map _).Nodup;rw[Xgg];exact h.nodup.filter _,h.cls,h.blk,λe g=>?_,k.filter _,λm f=>?_⟩
  ·obtain⟨j,g⟩:=Ie.1 g;obtain⟨a,b,c⟩:=h.each e g;exact⟨a,b,by show e.1∈List.filter _ _↔_;rw[Px,d _ j];simp only[ne_eq,j,not_false_eq_true,true_and];exact c⟩
  ·obtain⟨w,y⟩:=Px.1 f;obtain⟨q,r⟩:=h.osub m ((d m w).1 y);exact⟨q,Ie.2 ⟨w,r⟩⟩
 ·rw[if_neg v];refine⟨by show((Zo _ _ _).map _).Nodup;rw[Kc];exact h.nodup,h.cls,h.blk,λe g=>?_,k,λm f=>?_⟩
  ·rcases E8 g with⟨rfl,_⟩|⟨j,g⟩
   ·refine⟨s,by rw[Xfa];exact t,⟨λ_=>?_,λ_=>u⟩⟩;show Xu (Z7 p i)≠x.blocks
    omega
   ·obtain⟨a,b,c⟩:=h.each e g;exact⟨a,b,(d _ j).trans c⟩
  ·by_cases e:m=n
   ·subst e;exact⟨_,List.mem_map.2 ⟨(m,p),hp,if_pos rfl⟩⟩
   ·obtain⟨q,r⟩:=h.osub m ((d m e).1 f);exact⟨q,List.mem_map.2 ⟨(m,q),r,if_neg e⟩⟩
theorem Sm.Ok.ownAt{x:Sm}(h:x.Ok){i:Int}(hp:(n,p)∈x.pg):(x.ownAt n p i who).Ok:=by
 obtain⟨c,d,f⟩:=h.each _ hp;refine⟨by show((Zo _ _ _).map _).Nodup;rw[Kc];exact h.nodup,h.cls,h.blk,λe a=>?_,h.onodup,λm g=>?_⟩
 ·rcases E8 a with⟨rfl,_⟩|⟨j,a⟩
  ·exact⟨c,by rw[Xfb];exact d,by show _↔Xu (Bp p i who)≠_;rw[T3];exact f⟩
  ·exact h.each e a
 ·obtain⟨q,b⟩:=h.osub m g;by_cases e:m=n
  ·subst e;exact⟨_,List.mem_map.2 ⟨(m,q),b,if_pos rfl⟩⟩
  ·exact⟨q,List.mem_map.2 ⟨(m,q),b,if_neg e⟩⟩
end Go.Proofs.YtohjeeapehmkcaaGreatDoor
