/-
  Texts put together: Tz, Idx, Bits, Bits2, Bits3, Page, Page2, Ints, Pool, Pool2, Ring, Ring2, Ring3, Ring4, Shm.
-/
import Derived.Test.YtohjeeapehmkcaaGreatDoorQAbb
import Derived.Test.YtohjeeapehmkcaaGreatDoorQRule10
import Derived.Test.YtohjeeapehmkcaaGreatDoorQPost
import Derived.Test.YtohjeeapehmkcaaGreatDoorQRule12
set_option linter.unusedVariables false
set_option maxRecDepth 100000
namespace Go.Proofs.YtohjeeapehmkcaaGreatDoor
open Go.RowKit
open Bool renaming and_eq_true->XJ,false_eq_true->QB
open Int renaming toNat_natCast->XA,eq_ofNat_of_zero_le->XD
open List renaming getElem?_eq_getElem->XB,getD_eq_getElem?_getD->XC,length_set->XG,length_replicate->XH,map_append->XI,getElem_mem->XK,length_cons->XM,getElem?_map->XQ,getElem?_eq_none->XV,getElem?_append_left->XW,filter_cons->XX,getElem?_replicate->ZA,mem_cons_of_mem->ZF,mem_cons_self->ZI,append_nil->ZO,replicate_succ->ZT,map_congr_left->YA,map_set->YC,nodup_nil->YH,length_range->YI,getElem_map->YK,getElem?_take->YL,getElem?_toArray->YM,mem_append_right->YN,set_append_left->YU,range_succ->YV,getElem?_set->YX,ext_getElem?->QD,mem_append_left->QF,getD->QM,mem_cons->QQ
open Nat renaming le_refl->XE,zero_le->XL,zero_add->XR,mul_one->ZH,add_assoc->YJ,div_add_mod->YT,mod_lt->QL,succ_mul->QO
open Option renaming map_eq_some_iff->Y2
open Go.Proofs.Tryz (func111 func115 func133 func172 func184 func185 func186 func187 func188 func191 func196 func214 func215 func216 func217 func218 func220 func222 func223 func224 func228 func230 func232 func236 func250 func251 func252 func253 func254 func255 func256 func257 func258 func259 func267 func268 func269 ntmps111 ntmps115 ntmps133 ntmps172 ntmps184 ntmps185 ntmps186 ntmps187 ntmps188 ntmps191 ntmps196 ntmps214 ntmps215 ntmps216 ntmps217 ntmps218 ntmps220 ntmps222 ntmps223 ntmps224 ntmps228 ntmps230 ntmps232 ntmps236 ntmps250 ntmps251 ntmps252 ntmps253 ntmps254 ntmps255 ntmps256 ntmps257 ntmps258 ntmps259 ntmps267 ntmps268 ntmps269 prog)
variable {ahead by' size u who z:Int}{lg:List (Nat×List Nat)}{bs l p zs:List Int}{l2 ws:List Nat}{cs rest xs:List Value}{N at' b base cap fuel g i j k len lm lo n n0 o off sz t tm vb xb y:Nat}{e:Nat×List Int}{fz:Nat×Nat}{f:Nat->Int}{B C F F' Fr S S' T:Nat->Prop}{a:Option Addr}{α:Type}{v:Value}{w w' w0 w1 w2:World}
theorem Vc{x:Nat}(h:x<2^64):(BitVec.ofInt 64 (x:Int)).toNat=x:=by
 rw[BitVec.toNat_ofInt];omega
theorem Xcr{x:Nat}(h:x<2^64):IntKind.u64.wrap (x:Int)=x:=by
 simp only[IntKind.wrap,IntKind.signed,IntKind.bits]
 simp
 omega
theorem XcR{x:Nat}(hx:x<2^64)(hy:y<2^64):Km .and .u64 x y=((x &&& y:Nat):Int):=by
 have h:(BitVec.ofInt 64 (x:Int) &&& BitVec.ofInt 64 (y:Int)).toNat=x &&& y:=by rw[BitVec.toNat_and,Vc hx,Vc hy]
 show IntKind.u64.wrap ((BitVec.ofInt 64 (x:Int) &&& BitVec.ofInt 64 (y:Int)).toNat:Int)=_
 rw[h,Xcr (Nat.and_lt_two_pow x hy)]
theorem Wv{x:Nat}(hx:x<2^64)(hy:y<2^64):Km .xor .u64 x y=((x ^^^ y:Nat):Int):=by
 have h:(BitVec.ofInt 64 (x:Int) ^^^ BitVec.ofInt 64 (y:Int)).toNat=x ^^^ y:=by rw[BitVec.toNat_xor,Vc hx,Vc hy]
 show IntKind.u64.wrap ((BitVec.ofInt 64 (x:Int) ^^^ BitVec.ofInt 64 (y:Int)).toNat:Int)=_
 rw[h,Xcr (Nat.xor_lt_two_pow hx hy)]
def Lu(x:Nat):Nat:=(2^64-1) ^^^ x
theorem Xds{x:Nat}(h:x<2^64):Lu x<2^64:=Nat.xor_lt_two_pow (by decide) h
theorem Xak{x:Nat}(hj:j<64):(Lu x).testBit j=!x.testBit j:=by
 unfold Lu;rw[Nat.testBit_xor,Nat.testBit_two_pow_sub_one];simp[hj]
theorem Xnb{x:Nat}(h:x<2^64):Le .xor .u64 x=some ((Lu x:Nat):Int):=by
 unfold Le Lu;rw[<-Wv (by decide) h];rfl
theorem Xnc{x:Nat}(h:x<2^64)(h0:0<x):Le .neg .u64 x=some ((2^64-x:Nat):Int):=by
 unfold Le
 congr 1
 simp only[IntKind.wrap,IntKind.signed,IntKind.bits]
 simp
 omega
theorem Xf1(h:j<64):J9 true .u64 1 j=((2^j:Nat):Int):=by
 unfold J9;rw[if_pos rfl,show min (j:Int).toNat (IntKind.bits .u64)=j from Nat.min_eq_left (by simp only[IntKind.bits];omega)];rw[show(1:Int)*2^j=((2^j:Nat):Int) from by simp];exact Xcr (Nat.pow_lt_pow_right (by decide) h)
theorem Ka{x:Nat}(h:j<64):J9 false .u64 x j=((x/2^j:Nat):Int):=by
 unfold J9;rw[if_neg (by simp),show min (j:Int).toNat (IntKind.bits .u64)=j from Nat.min_eq_left (by simp only[IntKind.bits];omega)];rw[Int.fdiv_eq_ediv_of_nonneg _ (Int.le_of_lt (Int.pow_pos (by decide)))]
 simp
theorem Xhr{x:Nat}:x &&& 1=x%2:=Nat.and_one_is_mod x
theorem XhY{x:Nat}:(((x/2^j%2:Nat):Int) == 1)=x.testBit j:=by
 rw[Nat.testBit_eq_decide_div_mod_eq,Bool.eq_iff_iff,beq_iff_eq,decide_eq_true_eq];omega
theorem Xhq{x:Nat}(hx:x<2^64)(ht:t<64)(h1:x.testBit t=true)(h0:∀j,j<t->x.testBit j=false):x &&& (2^64-x)=2^t:=by
 have k:x%2^t=0:=by
  apply Nat.eq_of_testBit_eq
  intro i;rw[Nat.testBit_mod_two_pow,Nat.zero_testBit];by_cases hi:i<t
  ·rw[h0 i hi];simp
  ·simp[hi]
 have c:x/2^t%2=1:=by
  rw[Nat.testBit_eq_decide_div_mod_eq] at h1;exact of_decide_eq_true h1
 obtain⟨m,e⟩:∃m,m=x/2^t:=⟨_,rfl⟩;have a:x=2^t*m:=by have:=YT x (2^t);rw[k,<-e] at this;omega
 rw[<-e] at c;obtain⟨q,f⟩:∃q,m=2*q+1:=⟨m/2,by omega⟩;have b:x-1=2^t*(2*q)+(2^t-1):=by
  rw[a,f,Nat.mul_add,ZH];omega
 have g:x=(x-1)+1:=by
  have:0<x:=by rw[a,f];exact Nat.mul_pos (Nat.pow_pos (by decide)) (by omega)
  omega
 apply Nat.eq_of_testBit_eq
 intro j;rw[Nat.testBit_and,Nat.testBit_two_pow];have d:(2^64-x).testBit j=(decide (j<64) && !(x-1).testBit j):=by
  rw[g];exact Nat.testBit_two_pow_sub_succ (by omega) j
 rw[d];rcases Nat.lt_trichotomy j t with h|h|h
 ·rw[h0 j h];simp;omega
 ·subst h;rw[h1,b,Nat.testBit_two_pow_mul_add _ (by omega)];simp[ht]
 ·obtain⟨i,hi⟩:∃i,j-t=i+1:=⟨j-t-1,by omega⟩;have e1:x.testBit j=m.testBit (i+1):=by
   rw[a,Nat.testBit_two_pow_mul];rw[hi]
   simp
   omega
  have e2:(x-1).testBit j=(2*q).testBit (i+1):=by
   rw[b,Nat.testBit_two_pow_mul_add _ (by omega),if_neg (by omega),hi]
  rw[e1,e2,Nat.testBit_add_one,Nat.testBit_add_one,show m/2=q from by omega,show 2*q/2=q from by omega];have:(decide (t=j))=false:=decide_eq_false (by omega);rw[this];cases q.testBit i <;> simp
def Jq:List Nat:=[0,1,56,2,57,49,28,3,61,58,42,50,38,29,17,4,62,47,59,36,45,43,51,22,53,39,33,30,24,18,12,5,63,55,48,27,60,41,37,16,46,35,44,21,52,32,23,11,54,26,40,15,34,20,31,10,25,14,19,9,13,8,7,6]
theorem Xiw:∀t,t<64->Jq[(2^t*285870213051353865)%2^64/2^58]?=some t:=by decide+kernel
def Eo(x n:Nat):Prop:=x<2^n/\(0<n->2^(n-1)<=x)
theorem Eo.zero:Eo 0 0:=⟨by decide,λh=>by omega⟩
theorem Eo.shift{x m:Nat}(h:Eo (x/2^k) m)(hm:0<m):Eo x (m+k):=by
 obtain⟨b,c⟩:=h;have a:0<2^k:=Nat.pow_pos (by decide);refine⟨?_,λ_=>?_⟩
 ·rw[Nat.pow_add];exact(Nat.div_lt_iff_lt_mul a).1 b
 ·rw[show m+k-1=(m-1)+k from by omega,Nat.pow_add];exact(Nat.le_div_iff_mul_le a).1 (c hm)
theorem Eo.pos{x:Nat}(h:Eo x n)(hx:0<x):0<n:=by
 rcases Nat.eq_zero_or_pos n with h0|h0
 ·subst h0;have:=h.1;simp at this;omega
 ·exact h0
theorem Eo.top{x:Nat}(h:Eo x n)(hn:0<n):x.testBit (n-1)=true/\∀j,n<=j->x.testBit j=false:=by
 refine⟨?_,λj a=>Nat.testBit_lt_two_pow (Nat.lt_of_lt_of_le h.1 (Nat.pow_le_pow_right (by decide) a))⟩;apply Nat.testBit_of_two_pow_le_and_two_pow_add_one_gt (h.2 hn)
 rw[show n-1+1=n from by omega];exact h.1
theorem Eo.le{x:Nat}(h:Eo x n)(hx:x<2^k):n<=k:=by
 rcases Nat.lt_or_ge k n with hk|hk
 ·have a:=h.2 (by omega);have b:2^k<=2^(n-1):=Nat.pow_le_pow_right (by decide) (by omega);omega
 ·exact hk
def Hp(x:Nat):Nat:=if x=0 then 0 else Nat.log2 x+1
theorem Ev{x:Nat}(h:x<256):Eo x (Hp x):=by
 unfold Hp;by_cases a:x=0
 ·subst a;rw[if_pos rfl];exact Eo.zero
 ·rw[if_neg a];exact⟨Nat.lt_log2_self,λ_=>Nat.log2_self_le a⟩
def idx{α:Type}(p:α->Bool)(l:List α):Int:=match l.findIdx? p with|some i=>i|none=>-1
theorem I4{p:α->Bool}{l:List α}(hk:k<l.length)(hpre:∀j (h:j<l.length),j<k->p l[j]=false)(h:p l[k]=true):idx p l=k:=by
 unfold idx;have:l.findIdx? p=some k:=by
  rw[List.findIdx?_eq_some_iff_getElem];exact⟨hk,h,λj a=>by simpa using hpre j (by omega) a⟩
 rw[this]
theorem Hm{p:α->Bool}{l:List α}(hpre:∀j (h:j<l.length),p l[j]=false):idx p l=-1:=by
 unfold idx;have:l.findIdx? p=none:=by
  rw[List.findIdx?_eq_none_iff];intro x a;obtain⟨j,b,rfl⟩:=List.mem_iff_getElem.1 a;exact hpre j b
 rw[this]
theorem Xax{p:α->Bool}{l:List α}:(0<=idx p l)↔l.any p=true:=by
 unfold idx;cases h:l.findIdx? p with
 |none=>
  rw[List.findIdx?_eq_none_iff] at h;simp only[List.any_eq_true];constructor
  ·intro c;omega
  ·rintro⟨x,b,a⟩;rw[h x b] at a;cases a
 |some i=>
  rw[List.findIdx?_eq_some_iff_getElem] at h;obtain⟨hi,a,_⟩:=h;simp only[List.any_eq_true];exact⟨λ_=>⟨_,XK hi,a⟩,λ_=>by omega⟩
theorem Gp(h:k<zs.length):zs.getD k 0=zs[k]:=by simp[h]
def Rw{α:Type}(p:α->Bool)(l:List α):Int:=match l.reverse.findIdx? p with|some i=>(l.length:Int)-1-i|none=>-1
theorem Xbz{p:α->Bool}{l:List α}(hk:k<l.length)(hpost:∀j (h:j<l.length),k<j->p l[j]=false)(h:p l[k]=true):Rw p l=k:=by
 unfold Rw;have:l.reverse.findIdx? p=some (l.length-1-k):=by
  rw[List.findIdx?_eq_some_iff_getElem];refine⟨by simp;omega,?_,λj a=>?_⟩
  ·rw[List.getElem_reverse];simp only[show l.length-1-(l.length-1-k)=k from by omega];exact h
  ·rw[List.getElem_reverse];simpa using hpost _ (by omega) (by omega)
 rw[this];simp only
 omega
theorem XfD{p:α->Bool}{l:List α}(hall:∀j (h:j<l.length),p l[j]=false):Rw p l=-1:=by
 unfold Rw;have:l.reverse.findIdx? p=none:=by
  rw[List.findIdx?_eq_none_iff];intro x a;rw[List.mem_reverse] at a;obtain⟨j,b,rfl⟩:=List.mem_iff_getElem.1 a;exact hall j b
 rw[this]
def Ep(w:World)(a:Option Addr)(bs:List Bool):Prop:=∀i (h:i<bs.length),∃b off,a=some ⟨b,off,none⟩/\w.cell? ⟨b,off+i,none⟩=some (.bool bs[i])
theorem Ep.of{c:Array Value}{t:TypeId}{bs:List Bool}(h:w.heap[b]?=some (.cells c t fz))(hc:c=(bs.map Value.bool).toArray):Ep w (some ⟨b,0,none⟩) bs:=λi hi=>
 ⟨b,0,rfl,by rw[Yv h,hc];simp[hi]⟩
theorem Ep.chg{bs:List Bool}(h:Ep w a bs)(hc:Xc Xe w w'):Ep w' a bs:=λi hi=>by
 obtain⟨b,off,e,c⟩:=h i hi;exact⟨b,off,e,Ss hc.below c⟩
theorem Ep.keep{bs:List Bool}{q:Nat}{c:Array Value}(hr:Ep w a bs)(hq:w.heap[q]?=some (.cells c t fz))(hc:∀x∈c.toList,∀z,x≠.bool z)(hs:Xc (λb=>b=q) w w'):Ep w' a bs:=λj f=>by
 obtain⟨b,off,e,d⟩:=hr j f;refine⟨b,off,e,hs.cell d (λg=>?_)⟩;subst g;rw[Yv hq] at d;exact hc _ (Array.mem_toList_iff.2 (Array.mem_of_getElem? d)) _ rfl
theorem Ep.cells{a:Addr}{bs:List Bool}(h:Ep w (some a) bs):∀i u,(bs.map Value.bool)[i]?=some u->w.cell? (a.add i)=some u:=by
 intro i u d;rw[XQ,Y2] at d;obtain⟨z,c,rfl⟩:=d;have hi:=(List.getElem?_eq_some_iff.1 c).1;obtain⟨b,off,e,f⟩:=h i hi;cases e
 rw[Cl,f];rw[XB hi] at c;cases c;rfl
theorem Ep.of_take{cur:Array Value}{bs:List Bool}(h:w.heap[g]?=some (.cells cur t fz))(hc:cur.toList.take bs.length=bs.map Value.bool):Ep w (some ⟨g,0,none⟩) bs:=λi hi=>by
 refine⟨g,0,rfl,?_⟩;have a:(cur.toList.take bs.length)[i]?=(bs.map Value.bool)[i]?:=by rw[hc]
 rw[YL,if_pos hi] at a;rw[Yv h];simp only[XR];rw[<-Array.getElem?_toList,a];simp[hi]
def Bb(w:World):Prop:=∀j,j<64->w.cell? ⟨0,j,none⟩=some (.int .u8 (Jq.getD j 0:Nat))
theorem Bb.chg(h:Bb w)(hc:Xc S w w')(hs:¬S 0):Bb w':=λj a=>hc.cell (h j a) hs
theorem Bb.grow(h:Bb w)(hc:Xc Xe w w'):Bb w':=h.chg hc id
theorem Xh2(x t:Nat)(w:World)(hT0:Bb w)(hx:x<2^64)(ht:t<64)(h1:x.testBit t=true)(h0:∀j,j<t->x.testBit j=false):Xf prog 268 #[.int .u64 x] w (Za (.int .i64 t) w):=by
 have e:0<x:=by
  rcases Nat.eq_zero_or_pos x with h|h
  ·subst h;simp at h1
  ·exact h
 refine ζe func268 ntmps268 ϱ (ζF ϱ (by simp;omega) (Xa.un Xb rfl (Xnc hx e) rfl (Xa.bits Xb rfl (XcR hx (by omega)) rfl ?_)));rw[Xhq hx ht h1 h0];have b:=Xiw t ht;obtain⟨j,c⟩:∃j,j=(2^t*285870213051353865)%2^64/2^58:=⟨_,rfl⟩;rw[<-c] at b;have d:j<64:=by rw[c];exact(Nat.div_lt_iff_lt_mul (by decide)).2 (Nat.lt_of_lt_of_le (QL _ (by decide)) (by decide))
 refine Xa.arith Xb rfl (show IntKind.u64.wrap (((2^t:Nat):Int)*285870213051353865)=(((2^t*285870213051353865)%2^64:Nat):Int) from by simp only[IntKind.wrap,IntKind.signed,IntKind.bits];simp) rfl (Xa.shift Xb rfl (by omega) (show J9 false .u64 (((2^t*285870213051353865)%2^64:Nat):Int) 58=(((2^t*285870213051353865)%2^64/2^58:Nat):Int) from Ka (j:=58) (by decide)) rfl ?_);rw[<-c];have a:w.cell? ⟨0,0+j,none⟩=some (.int .u8 (t:Int)):=by rw[XR,hT0 j d,XC,b];rfl
 exact ζi j ϱ (ζk ϱ a ϱ (ζj ϱ (ζr func268 ϱ ⟨rfl,rfl⟩)))
theorem Xh3(w:World):Xf prog 268 #[.int .u64 0] w (Za (.int .i64 64) w):=by
 exact ζe func268 ntmps268 ϱ (ζy ϱ (ζr func268 ϱ ⟨rfl,rfl⟩))
theorem Lh:IntKind.u8.wrap z=z%256:=by
 simp only[IntKind.wrap,IntKind.signed,IntKind.bits]
 simp
theorem Ku{b:ByteArray}(h:∀z:Fin 256,(b[z.val]?).map (λx=>(x.toNat:Int))=some ((Hp z.val:Nat):Int))(hy:y<256):(b[((y:Nat):Int).toNat]?).map (λx=>(x.toNat:Int))=some ((Hp y:Nat):Int):=by
 rw[XA];exact h ⟨y,hy⟩
def Fg(x y c:Nat):Prop:=∀m,Eo y m->Eo x (m+c)
theorem Fg.step{x c:Nat}(h:Fg x y c)(hy:2^k<=y):Fg x (y/2^k) (k+c):=λm a=>by
 have:=h _ (a.shift (a.pos (Nat.div_pos hy (Nat.pow_pos (by decide)))))
 rwa [YJ] at this
theorem Fg.self(x:Nat):Fg x x 0:=λm a=>a
theorem Xh0(x:Nat)(w:World)(hx:x<2^64):Xf prog 267 #[.int .u64 x] w (λv w'=>∃n,Eo x n/\v=.int .i64 n/\w=w'):=by
 refine ζe func267 ntmps267 ϱ (ζg ϱ (λh=>?_) λh=>?_)
 ·have g:4294967296<=x:=by have:=of_decide_eq_true h;omega
  refine Xa.shift Xb rfl (by omega) (Ka (x:=x) (j:=32) (by decide)) rfl ?_;have l:x/2^32<4294967296:=by omega
  refine ζg ϱ (λc=>?_) λc=>?_
  ·have e:65536<=x/2^32:=by have:=of_decide_eq_true c;omega
   have i:(x/2^32)/2^16<65536:=by omega
   refine Xa.shift Xb rfl (by omega) (Ka (x:=x/2^32) (j:=16) (by decide)) rfl (ζj ϱ (ζg ϱ (λb=>?_) λb=>?_))
   ·have f:256<=(x/2^32)/2^16:=by have:=of_decide_eq_true b;omega
    have a:((x/2^32)/2^16)/2^8<256:=by omega
    have d:=(Ev a).le (k:=8) a;exact Xa.shift Xb rfl (by omega) (Ka (x:=(x/2^32)/2^16) (j:=8) (by decide)) rfl (ζj ϱ (Xa.arith Xb rfl (show IntKind.u8.wrap ((((x/2^32)/2^16)/2^8:Nat):Int)=((((x/2^32)/2^16)/2^8:Nat):Int) from by rw[Lh];omega) rfl (Xa.sidx Xb rfl (by omega) (Ku (by decide+kernel) a) rfl (ζj ϱ (ζj ϱ (ζr func267 ϱ ⟨Hp (((x/2^32)/2^16)/2^8)+(8+(16+(32+0))),((((((Fg.self x).step (k:=32) g)).step (k:=16) e)).step (k:=8) f) _ (Ev a),X0 (by omega),rfl⟩))))))
   ·have a:((x/2^32)/2^16)<256:=by have:=of_decide_eq_false b;omega
    have d:=(Ev a).le (k:=8) a;exact Xa.arith Xb rfl (show IntKind.u8.wrap (((x/2^32)/2^16:Nat):Int)=(((x/2^32)/2^16:Nat):Int) from by rw[Lh];omega) rfl (Xa.sidx Xb rfl (by omega) (Ku (by decide+kernel) a) rfl (ζj ϱ (ζj ϱ (ζr func267 ϱ ⟨Hp ((x/2^32)/2^16)+(16+(32+0)),(((((Fg.self x).step (k:=32) g)).step (k:=16) e)) _ (Ev a),X0 (by omega),rfl⟩))))
  ·have i:(x/2^32)<65536:=by have:=of_decide_eq_false c;omega
   refine ζg ϱ (λb=>?_) λb=>?_
   ·have f:256<=x/2^32:=by have:=of_decide_eq_true b;omega
    have a:(x/2^32)/2^8<256:=by omega
    have d:=(Ev a).le (k:=8) a;exact Xa.shift Xb rfl (by omega) (Ka (x:=x/2^32) (j:=8) (by decide)) rfl (ζj ϱ (Xa.arith Xb rfl (show IntKind.u8.wrap (((x/2^32)/2^8:Nat):Int)=(((x/2^32)/2^8:Nat):Int) from by rw[Lh];omega) rfl (Xa.sidx Xb rfl (by omega) (Ku (by decide+kernel) a) rfl (ζj ϱ (ζj ϱ (ζr func267 ϱ ⟨Hp ((x/2^32)/2^8)+(8+(32+0)),((((Fg.self x).step (k:=32) g)).step (k:=8) f) _ (Ev a),X0 (by omega),rfl⟩))))))
   ·have a:(x/2^32)<256:=by have:=of_decide_eq_false b;omega
    have d:=(Ev a).le (k:=8) a;exact Xa.arith Xb rfl (show IntKind.u8.wrap ((x/2^32:Nat):Int)=((x/2^32:Nat):Int) from by rw[Lh];omega) rfl (Xa.sidx Xb rfl (by omega) (Ku (by decide+kernel) a) rfl (ζj ϱ (ζj ϱ (ζr func267 ϱ ⟨Hp (x/2^32)+(32+0),(((Fg.self x).step (k:=32) g)) _ (Ev a),X0 (by omega),rfl⟩))))
 ·have l:x<4294967296:=by have:=of_decide_eq_false h;omega
  refine ζg ϱ (λc=>?_) λc=>?_
  ·have e:65536<=x:=by have:=of_decide_eq_true c;omega
   have i:(x)/2^16<65536:=by omega
   refine Xa.shift Xb rfl (by omega) (Ka (x:=x) (j:=16) (by decide)) rfl (ζj ϱ (ζg ϱ (λb=>?_) λb=>?_))
   ·have f:256<=(x)/2^16:=by have:=of_decide_eq_true b;omega
    have a:((x)/2^16)/2^8<256:=by omega
    have d:=(Ev a).le (k:=8) a;exact Xa.shift Xb rfl (by omega) (Ka (x:=(x)/2^16) (j:=8) (by decide)) rfl (ζj ϱ (Xa.arith Xb rfl (show IntKind.u8.wrap ((((x)/2^16)/2^8:Nat):Int)=((((x)/2^16)/2^8:Nat):Int) from by rw[Lh];omega) rfl (Xa.sidx Xb rfl (by omega) (Ku (by decide+kernel) a) rfl (ζj ϱ (ζj ϱ (ζr func267 ϱ ⟨Hp (((x)/2^16)/2^8)+(8+(16+(0))),((((Fg.self x).step (k:=16) e)).step (k:=8) f) _ (Ev a),X0 (by omega),rfl⟩))))))
   ·have a:((x)/2^16)<256:=by have:=of_decide_eq_false b;omega
    have d:=(Ev a).le (k:=8) a;exact Xa.arith Xb rfl (show IntKind.u8.wrap (((x)/2^16:Nat):Int)=(((x)/2^16:Nat):Int) from by rw[Lh];omega) rfl (Xa.sidx Xb rfl (by omega) (Ku (by decide+kernel) a) rfl (ζj ϱ (ζj ϱ (ζr func267 ϱ ⟨Hp ((x)/2^16)+(16+(0)),(((Fg.self x).step (k:=16) e)) _ (Ev a),X0 (by omega),rfl⟩))))
  ·have i:(x)<65536:=by have:=of_decide_eq_false c;omega
   refine ζg ϱ (λb=>?_) λb=>?_
   ·have f:256<=x:=by have:=of_decide_eq_true b;omega
    have a:(x)/2^8<256:=by omega
    have d:=(Ev a).le (k:=8) a;exact Xa.shift Xb rfl (by omega) (Ka (x:=x) (j:=8) (by decide)) rfl (ζj ϱ (Xa.arith Xb rfl (show IntKind.u8.wrap (((x)/2^8:Nat):Int)=(((x)/2^8:Nat):Int) from by rw[Lh];omega) rfl (Xa.sidx Xb rfl (by omega) (Ku (by decide+kernel) a) rfl (ζj ϱ (ζj ϱ (ζr func267 ϱ ⟨Hp ((x)/2^8)+(8+(0)),((Fg.self x).step (k:=8) f) _ (Ev a),X0 (by omega),rfl⟩))))))
   ·have a:(x)<256:=by have:=of_decide_eq_false b;omega
    have d:=(Ev a).le (k:=8) a;exact Xa.arith Xb rfl (show IntKind.u8.wrap ((x:Nat):Int)=((x:Nat):Int) from by rw[Lh];omega) rfl (Xa.sidx Xb rfl (by omega) (Ku (by decide+kernel) a) rfl (ζj ϱ (ζj ϱ (ζr func267 ϱ ⟨Hp (x)+(0),(Fg.self x) _ (Ev a),X0 (by omega),rfl⟩))))
def cnt:List Bool->Nat
 |[]=>0
 |b::r=>(if b then 1 else 0)+cnt r
theorem Ns:∀(x:List Bool),cnt x<=x.length
 |[]=>XE _
 |b::r=>by have:=Ns r;simp only[cnt,XM];split <;> omega
theorem S6:∀{x:List Bool},cnt x=x.length -> ∀j (h:j<x.length),x[j]=true
 |[],_,j,h=>by simp at h
 |b::r,a,j,h=>by
  have:=Ns r;simp only[cnt,XM] at a;cases b with
  |false=>simp at a;omega
  |true=>
   cases j with
   |zero=>rfl
   |succ j=>simp;exact S6 (by simp at a;omega) j (by simpa using h)
theorem Xaf:∀{x:List Bool},cnt x≠x.length -> ∃j,∃h:j<x.length,x[j]=false
 |[],a=>by simp[cnt] at a
 |b::r,a=>by
  cases b with
  |false=>exact⟨0,by simp,rfl⟩
  |true=>
   have:cnt r≠r.length:=by simp only[cnt,XM] at a;simp at a;omega
   obtain⟨j,h,e⟩:=Xaf this;exact⟨j+1,by simpa using h,by simpa using e⟩
theorem S7:∀(x:List Bool) (i:Nat) (h:i<x.length) (b:Bool),cnt (x.set i b)+(if x[i] then 1 else 0)=cnt x+(if b then 1 else 0)
 |[],i,h,b=>by simp at h
 |a::r,0,h,b=>by simp only[List.set_cons_zero,cnt,List.getElem_cons_zero];omega
 |a::r,i+1,h,b=>by
  have:=S7 r i (by simpa using h) b;simp only[List.set_cons_succ,cnt,List.getElem_cons_succ];omega
theorem Xag(n:Nat):cnt (List.replicate n false)=0:=by
 induction n with
 |zero=>rfl
 |succ n ih=>simp[ZT,cnt,ih]
def Fs(x:List Bool):Int:=idx (λb=>!b) x
def Ps(x:List Bool):Int:=Rw id x
def Fl(x:List Bool)(i:Int):Bool:=decide (0<=i) && x.getD i.toNat false
def Fo(x:List Bool)(i:Int):Bool:=decide (0<=i) && decide (i<x.length)
theorem Xi1{x:List Bool}{i:Int}(h:Fl x i=true):Fo x i=true:=by
 unfold Fl at h;unfold Fo;simp only[XJ,decide_eq_true_eq] at h⊢;refine⟨h.1,?_⟩;rcases Nat.lt_or_ge i.toNat x.length with h2|h2
 ·omega
 ·have:=h.2;rw[XC,XV h2] at this;cases this
def Ek(x:List Bool)(i:Int)(b:Bool):Int:=
 if Fo x i=false then 1 else if b && Fl x i then 10 else if !b && !Fl x i then 9 else 0
def Io(x:List Bool)(i:Int)(b:Bool):List Bool:=if Ek x i b=0 then x.set i.toNat b else x
def Ch(ws:List Nat)(x:List Bool):List Value:=ws.map (λn:Nat=>Value.int .u64 (n:Int))++[Value.int .i64 (x.length:Int),Value.int .i64 (cnt x:Int)]
structure A7(w:World)(b:Nat)(x:List Bool):Prop where
 tab:Bb w
 ws:∃ws:List Nat,ws.length=8/\(∀k,ws.getD k 0<2^64)/\(∀k j,j<64->(ws.getD k 0).testBit j=x.getD (64*k+j) false)/\
  w.heap[b]?=some (.cells (Ch ws x).toArray 312 (0,0))
 pos:1<=x.length
 len:x.length<=512
theorem A7.chg{S:Nat->Prop}{w w':World}{b:Nat}{x:List Bool}(h:A7 w b x)(hc:Xc S w w')(hs:¬S b)(hg:¬S 0):A7 w' b x:=by
 obtain⟨ws,a,c,d,e⟩:=h.ws;exact⟨h.tab.chg hc hg,⟨ws,a,c,d,hc.heap e hs⟩,h.pos,h.len⟩
theorem A7.grow{x:List Bool}(h:A7 w b x)(hc:Xc Xe w w'):A7 w' b x:=h.chg hc id id
theorem A7.ne{x:List Bool}(h:A7 w b x):0≠b:=by
 obtain⟨ws,a,f,g,d⟩:=h.ws;intro e;have:=h.tab 0 (by decide);subst e;rw[Yv d] at this
 match ws,a with
 |c::r,_=>simp[Ch] at this
theorem Xh5{x:List Bool}(h1:ws.length=8)(h:w.heap[b]?=some (.cells (Ch ws x).toArray 312 (0,0))):w.cell? ⟨b,8,none⟩=some (.int .i64 x.length):=by
 rw[Yv h];simp[Ch,h1]
theorem Xh4{x:List Bool}(h1:ws.length=8)(h:w.heap[b]?=some (.cells (Ch ws x).toArray 312 (0,0))):w.cell? ⟨b,9,none⟩=some (.int .i64 (cnt x)):=by
 rw[Yv h];simp[Ch,h1]
theorem Ww{x:List Bool}(h1:ws.length=8)(h:w.heap[b]?=some (.cells (Ch ws x).toArray 312 (0,0)))(hk:k<8):w.cell? ⟨b,0+k,none⟩=some (.int .u64 (ws.getD k 0:Nat)):=by
 have a:k<ws.length:=by omega
 rw[Yv h,XR];simp only[YM,XC,Ch];rw[XW (by simpa using a),XQ,XB a];rfl
theorem A7.many{x:List Bool}(h:A7 w b x):w.cell? ⟨b,8,none⟩=some (.int .i64 x.length):=by
 obtain⟨ws,a,d,e,c⟩:=h.ws;exact Xh5 a c
theorem A7.cnt{x:List Bool}(h:A7 w b x):w.cell? ⟨b,9,none⟩=some (.int .i64 (cnt x)):=by
 obtain⟨ws,a,d,e,c⟩:=h.ws;exact Xh4 a c
theorem A7.lt{x:List Bool}(h:A7 w b x):b<w.heap.size:=by
 obtain⟨ws,c,d,e,a⟩:=h.ws;exact Xg a
theorem Xat(n k:Nat)(x:α):(List.replicate n x).getD k x=x:=by
 rw[XC,ZA];split <;> rfl
theorem Xh1(m:Nat)(w:World)(hT0:Bb w)(h:1<=m/\m<=512):Xf prog 230 #[.int .i64 m] w (λv w'=>∃b,v=.tuple #[.pointer (some ⟨b,0,none⟩),.int .i64 0]/\w.heap.size<=b/\A7 w' b (List.replicate m false)/\Xc Xe w w'):=by
 refine ζe func230 ntmps230 ϱ (ζf ϱ (ζf ϱ (ζb ϱ (ζn ϱ λb f e1 d a e=>?_))));have c:(List.replicate m false).length=m:=XH;exact ζr func230 ϱ ⟨b,rfl,by omega,⟨hT0.grow a,⟨List.replicate 8 0,rfl,λk=>by rw[Xat];decide,λk j g=>by rw[Xat,Xat];simp,by unfold Ch;rw[c,Xag];exact d⟩,by omega,by omega⟩,a⟩
theorem XcW(b:Nat)(x:List Bool)(i:Int)(w:World)(h:A7 w b x):Xf prog 269 #[.pointer (some ⟨b,0,none⟩),.int .i64 i] w (Za (.bool (Fo x i)) w):=by
 refine ζe func269 ntmps269 ϱ (ζg ϱ (λa=>?_) λa=>?_)
 ·have c:=of_decide_eq_true a;exact ζk ϱ h.many ϱ (ζr func269 ϱ ⟨Aj (by unfold Fo;rw[decide_eq_true c];rfl),rfl⟩)
 ·have c:=of_decide_eq_false a;exact ζr func269 ϱ ⟨Aj (by unfold Fo;rw[decide_eq_false c];rfl),rfl⟩
theorem Su(b:Nat)(x:List Bool)(i:Int)(w:World)(h:A7 w b x):Xf prog 253 #[.pointer (some ⟨b,0,none⟩),.int .i64 i] w (Za (.bool (Fl x i)) w):=by
 have m:=h.len;obtain⟨ws,e,f,g,j⟩:=h.ws;refine ζe func253 ntmps253 ϱ (ζw (XcW b x i w h) ϱ ?_);cases a:Fo x i with
 |false=>
  have d:Fl x i=false:=by cases k:Fl x i;rfl;rw[Xi1 k] at a;cases a
  exact ζf ϱ (ζr func253 ϱ ⟨Aj d.symm,rfl⟩)
 |true=>
  have hi:0<=i/\i<x.length:=by unfold Fo at a;simpa using a
  obtain⟨i,rfl⟩:=XD hi.1;have l:i/64<8:=by omega
  refine ζy ϱ (Xa.div Xb rfl (by omega) (Fz (by omega) (by omega)) rfl (ζi (i/64) ϱ (ζk ϱ (Ww e j l) ϱ (Xa.div Xb rfl (by omega) (Fa (by omega)) rfl ?_))));rw[show((i:Int)%64)=((i%64:Nat):Int) from by omega];refine Xa.shift Xb rfl (by omega) (Ka (by omega)) rfl (Xa.bits Xb rfl (XcR (y:=1) (Nat.lt_of_le_of_lt (Nat.div_le_self _ _) (f _)) (by decide)) rfl ?_);rw[Xhr];have c:=g (i/64) (i%64) (by omega);rw[show 64*(i/64)+i%64=i from by omega] at c;exact ζr func253 ϱ ⟨Aj (by rw[XhY,c];unfold Fl;simp),rfl⟩
theorem XcT(b:Nat)(x:List Bool)(w:World)(h:A7 w b x):Xf prog 256 #[.pointer (some ⟨b,0,none⟩)] w (Za (.int .i64 (cnt x)) w):=by
 exact ζe func256 ntmps256 ϱ (ζk ϱ h.cnt ϱ (ζr func256 ϱ ⟨rfl,rfl⟩))
theorem XfZ(hk:k<ws.length):(ws.map (λn:Nat=>Value.int .u64 (n:Int))++rest).set k (.int .u64 (n:Int))=(ws.set k n).map (λn:Nat=>Value.int .u64 (n:Int))++rest:=by
 rw[YU _ _ (by simpa using hk),YC]
theorem N0{l:List α}{x d:α}(hi:i<l.length):(l.set i x).getD j d=if j=i then x else l.getD j d:=by
 simp only[XC,YX];by_cases h:i=j
 ·subst h;simp[hi]
 ·rw[if_neg h,if_neg (Ne.symm h)]
theorem J5:∀(l:List Value) (i:Nat) (v:Value),i<l.length->Yc l i [v]=some (l.set i v)
 |x::r,0,v,_=>by simp[Yc]
 |x::r,i+1,v,h=>by simp[Yc,J5 r i v (by simpa using h)]
theorem XcV(b:Nat)(x:List Bool)(i:Int)(is:Bool)(w:World)(h:A7 w b x):Xf prog 255 #[.pointer (some ⟨b,0,none⟩),.int .i64 i,.bool is] w
 (λv w'=>v=.int .i64 (Ek x i is)/\A7 w' b (Io x i is)/\Xc (λz=>z=b) w w'):=by
 have U:=h.len;have L:=h.ne;have B:Ek x i is≠0->A7 w b (Io x i is):=λR=>by unfold Io;rw[if_neg R];exact h
 obtain⟨ws,d,y,A,K⟩:=h.ws;refine ζe func255 ntmps255 ϱ (ζw (XcW b x i w h) ϱ ?_);cases e:Fo x i with
 |false=>
  have f:Ek x i is=1:=by unfold Ek;rw[if_pos e]
  exact ζy ϱ (ζr func255 ϱ ⟨by rw[f],B (by rw[f];decide),Xc.refl _ _⟩)
 |true=>
  refine ζf ϱ ?_;cases is with
  |true=>
   refine ζy ϱ (ζw (Su b x i w h) ϱ ?_);cases g:Fl x i with
   |true=>
    have f:Ek x i true=10:=by unfold Ek;rw[e,g];rfl
    exact ζy ϱ (ζr func255 ϱ ⟨by rw[f],B (by rw[f];decide),Xc.refl _ _⟩)
   |false=>
    refine ζf ϱ (ζf ϱ ?_);have hi:0<=i/\i<x.length:=by unfold Fo at e;simpa using e
    obtain⟨i,rfl⟩:=XD hi.1;have M:i/64<8:=by omega
    have C:(Ch ws x).length=10:=by simp[Ch,d]
    have t:=A (i/64) (i%64) (by omega);rw[show 64*(i/64)+i%64=i from by omega] at t;have m:x.getD i false=false:=by have:=g;unfold Fl at this;simpa using this
    have o:(2:Nat)^(i%64)<2^64:=Nat.pow_lt_pow_right (by decide) (by omega);obtain⟨nw,l⟩:∃nw,nw=ws.getD (i/64) 0 ^^^ 2^(i%64):=⟨_,rfl⟩;refine ζd 14 Xe (by kernel_rfl) ϱ λa=>Xd.div Xb a rfl (by omega) (Fz (by omega) (by omega)) rfl (δi (i/64) a ϱ (δk a (Ww d K M) ϱ (Xd.div Xb a rfl (by omega) (Fa (by omega)) rfl ?_)));rw[show((i:Int)%64)=((i%64:Nat):Int) from by omega];refine Xd.shift Xb a rfl (by omega) (Xf1 (by omega)) rfl (Xd.bits Xb a rfl (Wv (y _) o) rfl (δi (i/64) a ϱ ?_));rw[<-l];refine δn a ϱ λS p=>ζS ϱ (p.heap' K) (show Yc (Ch ws x) (0+i/64) [.int .u64 (nw:Int)]=some ((ws.set (i/64) nw).map (λn:Nat=>Value.int .u64 (n:Int))++[Value.int .i64 (x.length:Int),Value.int .i64 (cnt x:Int)]) from by rw[XR,J5 _ _ _ (by rw[C];omega)];unfold Ch;rw[XfZ (by omega)]) ϱ λN q D P=>?_;have E:N.cell? ⟨b,9,none⟩=some (.int .i64 (cnt x)):=by rw[Yv q];simp[d]
    have O:=Ns x;have c:=S7 x i (by omega) true;have u:x[i]'(by omega)=false:=by rw[<-m,XC,XB (by omega)];rfl
    rw[u] at c
    first|refine Xa.yes Xb rfl rfl rfl ?_|refine Xa.no Xb rfl rfl rfl ?_
    refine ζk ϱ E ϱ (ζJ ϱ (by simp at c;omega) (ζS ϱ q (show Yc ((ws.set (i/64) nw).map (λn:Nat=>Value.int .u64 (n:Int))++[Value.int .i64 (x.length:Int),Value.int .i64 (cnt x:Int)]) 9 [.int .i64 ((cnt x:Int)+1)]=some (Ch (ws.set (i/64) nw) (x.set i true)) from by rw[J5 _ _ _ (by simp[d]),List.set_append_right _ _ (by simp[d])];unfold Ch;simp[d];simp at c;omega) ϱ λT F G Q=>?_));have r:=(p.gr.trans D).trans G;have f:Ek x i true=0:=by unfold Ek;rw[e,g];rfl
    have H:Io x i true=x.set i true:=by unfold Io;rw[if_pos f];simp
    exact Xa.ret1 Xb rfl func255 rfl rfl ⟨by rw[f],by rw[H];exact⟨h.tab.chg r L,⟨_,by simp[d],λk=>by
     rw[N0 (by omega)];split
     ·rw[l];exact Nat.xor_lt_two_pow (y _) o
     ·exact y k,λk j I=>by
     rw[N0 (by omega),N0 (by omega)];by_cases s:k=i/64
     ·subst s;rw[if_pos rfl,l,Nat.testBit_xor,Nat.testBit_two_pow,A _ j I];by_cases J:j=i%64
      ·subst J;rw[if_pos (by omega),show 64*(i/64)+i%64=i from by omega,m];simp
      ·rw[if_neg (by omega),decide_eq_false (by omega)];simp
     ·rw[if_neg s,if_neg (by omega)];exact A k j I,F⟩,by simpa using h.pos,by simpa using h.len⟩,r⟩
  |false=>
   refine ζf ϱ (ζy ϱ (ζw (Su b x i w h) ϱ ?_));cases g:Fl x i with
   |false=>
    have f:Ek x i false=9:=by unfold Ek;rw[e,g];rfl
    exact ζy ϱ (ζr func255 ϱ ⟨by rw[f],B (by rw[f];decide),Xc.refl _ _⟩)
   |true=>
    refine ζf ϱ ?_;have hi:0<=i/\i<x.length:=by unfold Fo at e;simpa using e
    obtain⟨i,rfl⟩:=XD hi.1;have M:i/64<8:=by omega
    have C:(Ch ws x).length=10:=by simp[Ch,d]
    have t:=A (i/64) (i%64) (by omega);rw[show 64*(i/64)+i%64=i from by omega] at t;have m:x.getD i false=true:=by have:=g;unfold Fl at this;simpa using this
    have o:(2:Nat)^(i%64)<2^64:=Nat.pow_lt_pow_right (by decide) (by omega);obtain⟨nw,l⟩:∃nw,nw=ws.getD (i/64) 0 ^^^ 2^(i%64):=⟨_,rfl⟩;refine ζd 14 Xe (by kernel_rfl) ϱ λa=>Xd.div Xb a rfl (by omega) (Fz (by omega) (by omega)) rfl (δi (i/64) a ϱ (δk a (Ww d K M) ϱ (Xd.div Xb a rfl (by omega) (Fa (by omega)) rfl ?_)));rw[show((i:Int)%64)=((i%64:Nat):Int) from by omega];refine Xd.shift Xb a rfl (by omega) (Xf1 (by omega)) rfl (Xd.bits Xb a rfl (Wv (y _) o) rfl (δi (i/64) a ϱ ?_));rw[<-l];refine δn a ϱ λS p=>ζS ϱ (p.heap' K) (show Yc (Ch ws x) (0+i/64) [.int .u64 (nw:Int)]=some ((ws.set (i/64) nw).map (λn:Nat=>Value.int .u64 (n:Int))++[Value.int .i64 (x.length:Int),Value.int .i64 (cnt x:Int)]) from by rw[XR,J5 _ _ _ (by rw[C];omega)];unfold Ch;rw[XfZ (by omega)]) ϱ λN q D P=>?_;have E:N.cell? ⟨b,9,none⟩=some (.int .i64 (cnt x)):=by rw[Yv q];simp[d]
    have O:=Ns x;have c:=S7 x i (by omega) false;have u:x[i]'(by omega)=true:=by rw[<-m,XC,XB (by omega)];rfl
    rw[u] at c
    first|refine Xa.yes Xb rfl rfl rfl ?_|refine Xa.no Xb rfl rfl rfl ?_
    refine ζk ϱ E ϱ (ζJ ϱ (by simp at c;omega) (ζS ϱ q (show Yc ((ws.set (i/64) nw).map (λn:Nat=>Value.int .u64 (n:Int))++[Value.int .i64 (x.length:Int),Value.int .i64 (cnt x:Int)]) 9 [.int .i64 ((cnt x:Int)-1)]=some (Ch (ws.set (i/64) nw) (x.set i false)) from by rw[J5 _ _ _ (by simp[d]),List.set_append_right _ _ (by simp[d])];unfold Ch;simp[d];simp at c;omega) ϱ λT F G Q=>?_));have r:=(p.gr.trans D).trans G;have f:Ek x i false=0:=by unfold Ek;rw[e,g];rfl
    have H:Io x i false=x.set i false:=by unfold Io;rw[if_pos f];simp
    exact Xa.ret1 Xb rfl func255 rfl rfl ⟨by rw[f],by rw[H];exact⟨h.tab.chg r L,⟨_,by simp[d],λk=>by
     rw[N0 (by omega)];split
     ·rw[l];exact Nat.xor_lt_two_pow (y _) o
     ·exact y k,λk j I=>by
     rw[N0 (by omega),N0 (by omega)];by_cases s:k=i/64
     ·subst s;rw[if_pos rfl,l,Nat.testBit_xor,Nat.testBit_two_pow,A _ j I];by_cases J:j=i%64
      ·subst J;rw[if_pos (by omega),show 64*(i/64)+i%64=i from by omega,m];simp
      ·rw[if_neg (by omega),decide_eq_false (by omega)];simp
     ·rw[if_neg s,if_neg (by omega)];exact A k j I,F⟩,by simpa using h.pos,by simpa using h.len⟩,r⟩
theorem Xjp(h:y≠0):∃t,y.testBit t=true/\∀j,j<t->y.testBit j=false:=by
 obtain⟨i,hi⟩:=Nat.exists_testBit_of_ne_zero h;have key:∀n,∀i,i<=n->y.testBit i=true -> ∃t,y.testBit t=true/\∀j,j<t->y.testBit j=false:=by
  intro n
  induction n with
  |zero=>intro i hi b;exact⟨i,b,λj c=>by omega⟩
  |succ n ih=>
   intro i hi b;by_cases a:∀j,j<i->y.testBit j=false
   ·exact⟨i,b,a⟩
   ·have:∃j,j<i/\y.testBit j=true:=by
     apply Classical.byContradiction
     intro d;apply a
     intro j c;cases f:y.testBit j with
     |false=>rfl
     |true=>exact(d ⟨j,c,f⟩).elim
    obtain⟨j,c,e⟩:=this;exact ih j (by omega) e
 exact key i i (XE _) hi
theorem Xg1(hk:k<ws.length):(ws.map (λn:Nat=>Value.int .u64 (n:Int)))[((k:Nat):Int).toNat]?=some (.int .u64 (ws.getD k 0:Nat)):=by
 rw[XA,XQ,XB hk,XC,XB hk];rfl
theorem XcX{x:List Bool}(h1:ws.length=8)(h:w.heap[b]?=some (.cells (Ch ws x).toArray 312 (0,0))):∀j v,(ws.map (λn:Nat=>Value.int .u64 (n:Int)))[j]?=some v->w.cell? ⟨b,0+j,none⟩=some v:=λj v a=>by
 have c:j<ws.length:=by have:=(List.getElem?_eq_some_iff.1 a).1;simpa using this
 rw[Yv h,XR,YM];unfold Ch;rw[XW (by simpa using c)];exact a
theorem XdR{x:List Bool}(h:x.getD j false=true):j<x.length:=by
 rcases Nat.lt_or_ge j x.length with h2|h2
 ·exact h2
 ·rw[XC,XV h2] at h;cases h
theorem Hl{x:List Bool}(h:j<x.length):x[j]=x.getD j false:=by simp[QM,h]
theorem XcU(b:Nat)(x:List Bool)(w:World)(h:A7 w b x):Xf prog 252 #[.pointer (some ⟨b,0,none⟩)] w (Grow (.int .i64 (Fs x)) w):=by
 have J:=h.len;refine ζe func252 ntmps252 ϱ (Xa.quiet rfl Xp (by kernel_rfl) (Xi.adv Xb rfl (Xi.load Xb rfl h.cnt rfl (Xi.load Xb rfl h.many rfl (Xi.nil λF l=>ζa ϱ ?_)))));have z:=h.grow l;obtain⟨ws,G,s,u,H⟩:=z.ws;by_cases a:cnt x=x.length
 ·exact ζY ϱ (by rw[a];exact beq_self_eq_true _) (ζr func252 ϱ ⟨X0 (Hm (p:=λb=>!b) (λj i=>by rw[S6 a j i];rfl)).symm,l⟩)
 ·obtain⟨A,B,c⟩:=Xaf a;rw[Hl B] at c;refine ζF ϱ (by simp;omega) (Xa.loadC Xb (ws.map (λn:Nat=>Value.int .u64 (n:Int))) rfl (by first|rfl|(simp;done)|(simp[*];done)|(simp;omega)) (XcX G H) rfl ?_);refine Xa.loop (α:=Nat) (λk=>[(3,false,.int .i64 (-1)),(23,false,.agg (ws.map (λn:Nat=>Value.int .u64 (n:Int))).toArray),(24,false,.int .i64 k)])
   (λk w'=>w'=F/\k<=8/\∀j,j<64*k->x.getD j false=true) (λk=>8-k) 0 ⟨rfl,rfl,rfl,trivial⟩ ⟨rfl,by omega,λj i=>by omega⟩ ?_
  rintro k C ⟨I,K,e⟩ ih;subst I;refine ζa ϱ (ζg ϱ (λv=>?_) λv=>?_)
  ·have D:k<8:=by have:=of_decide_eq_true v;omega
   refine Xa.aidx Xb rfl (by first|rfl|(simp;done)|(simp[*];done)|(simp;omega)) (by omega) (Xg1 (by omega)) rfl (Xa.un Xb rfl (Xnb (s k)) rfl ?_);by_cases y:Lu (ws.getD k 0)=0
   ·rw[y];refine ζw (Xh3 C) ϱ (ζf ϱ (ζj ϱ ?_));exact ih (k+1) _ _ ⟨rfl,by omega,λj i=>by
     by_cases d:j<64*k
     ·exact e j d
     ·have m:=Xak (x:=ws.getD k 0) (j:=j-64*k) (by omega);rw[y,Nat.zero_testBit,u k _ (by omega),show 64*k+(j-64*k)=j from by omega] at m
      simpa using m.symm⟩ (by omega) ⟨rfl,rfl,rfl,trivial⟩
   ·obtain⟨t,g,q⟩:=Xjp y;have f:t<64:=by
     rcases Nat.lt_or_ge t 64 with h'|h'
     ·exact h'
     ·rw[Nat.testBit_lt_two_pow (Nat.lt_of_lt_of_le (Xds (s k)) (Nat.pow_le_pow_right (by decide) h'))] at g;cases g
    have E:x.getD (64*k+t) false=false:=by
     rw[<-u k t f];have:=Xak (x:=ws.getD k 0) f;rw[g] at this
     simpa using this.symm
    have o:∀j,j<64*k+t->x.getD j false=true:=λj i=>by
     by_cases d:j<64*k
     ·exact e j d
     ·have m:=Xak (x:=ws.getD k 0) (j:=j-64*k) (by omega);rw[q _ (by omega),u k _ (by omega),show 64*k+(j-64*k)=j from by omega] at m
      simpa using m.symm
    have r:64*k+t<x.length:=by
     rcases Nat.lt_or_ge (64*k+t) x.length with h'|h'
     ·exact h'
     ·rw[o A (by omega)] at c;cases c
    exact ζw (Xh2 (Lu (ws.getD k 0)) t C z.tab (Xds (s k)) f g q) ϱ (ζy ϱ (ζj ϱ (ζj ϱ (ζr func252 ϱ ⟨X0 (by have:=I4 (p:=λb=>!b) r (λj i d=>by rw[Hl i,o j d];rfl) (by rw[Hl r,E];rfl);unfold Fs;rw[this];omega),l⟩))))
  ·exfalso
   have D:k=8:=by have:=of_decide_eq_false v;omega
   rw[e A (by omega)] at c;cases c
theorem XhZ(b:Nat)(x:List Bool)(w:World)(h:A7 w b x):Xf prog 251 #[.pointer (some ⟨b,0,none⟩)] w (Za (.int .i64 (Ps x)) w):=by
 have K:=h.len;obtain⟨ws,D,v,q,E⟩:=h.ws;refine ζe func251 ntmps251 ϱ (Xa.loadC Xb (ws.map (λn:Nat=>Value.int .u64 (n:Int))) rfl (by first|rfl|(simp;done)|(simp[*];done)|(simp;omega)) (XcX D E) rfl ?_);refine Xa.loop (α:=Nat×Int) (λp=>[(3,false,.int .i64 p.2),(11,false,.agg (ws.map (λn:Nat=>Value.int .u64 (n:Int))).toArray),(12,false,.int .i64 p.1)])
  (λp w'=>w'=w/\p.1<=8/\((p.2=-1/\∀j,j<64*p.1->x.getD j false=false)\/(∃i:Nat,i<64*p.1/\p.2=i/\x.getD i false=true/\∀j,i<j->j<64*p.1->x.getD j false=false))) (λp=>8-p.1) (0,-1) ⟨rfl,rfl,rfl,trivial⟩ ⟨rfl,by omega,.inl ⟨rfl,λj a=>by omega⟩⟩ ?_
 rintro⟨k,at'⟩ F ⟨G,H,e⟩ ih;simp only at H e
 subst G;refine ζa ϱ (ζg ϱ (λr=>?_) λr=>?_)
 ·have m:k<8:=by have:=of_decide_eq_true r;omega
  refine Xa.aidx Xb rfl (by first|rfl|(simp;done)|(simp[*];done)|(simp;omega)) (by omega) (Xg1 (by omega)) rfl ?_;by_cases s:ws.getD k 0=0
  ·refine ζF ϱ (by rw[s];rfl) (ζj ϱ ?_);have o:∀j,64*k<=j->j<64*(k+1)->x.getD j false=false:=λj a d=>by
    have y:=q k (j-64*k) (by omega);rw[s,Nat.zero_testBit,show 64*k+(j-64*k)=j from by omega] at y;exact y.symm
   refine ih (k+1,at') _ _ ⟨rfl,by simp only;omega,?_⟩ (by simp only;omega) ⟨rfl,rfl,rfl,trivial⟩;rcases e with⟨f,c⟩|⟨i,f,c,g,t⟩
   ·exact .inl ⟨f,λj a=>by by_cases l:j<64*k;exact c j l;exact o j (by omega) a⟩
   ·exact .inr ⟨i,by simp only;omega,c,g,λj a d=>by by_cases l:j<64*k;exact t j a l;exact o j (by omega) d⟩
  ·refine ζY ϱ (by simpa using s) (ζj ϱ (ζc ϱ (Xh0 (ws.getD k 0) F (v k)) ?_));rintro _ L ⟨n,u,rfl,rfl⟩;have z:=u.pos (by omega);have I:=u.le (v k);refine ζa ϱ (ζj ϱ (ζj ϱ (ζj ϱ ?_)));obtain⟨A,B⟩:=u.top z;refine ih (k+1,(k:Int)*64+n-1) _ _ ⟨rfl,by simp only;omega,.inr ⟨64*k+(n-1),by simp only;omega,by simp only;omega,?_,λj a d=>?_⟩⟩ (by simp only;omega) ⟨rfl,rfl,rfl,trivial⟩
   ·rw[<-q k (n-1) (by omega)];exact A
   ·have:=q k (j-64*k) (by simp only at d;omega);rw[show 64*k+(j-64*k)=j from by omega] at this;rw[<-this];exact B _ (by omega)
 ·have m:k=8:=by have:=of_decide_eq_false r;omega
  subst m;have J:at'=Ps x:=by
   unfold Ps;rcases e with⟨f,c⟩|⟨i,f,c,g,t⟩
   ·rw[f,XfD (λj a=>by rw[Hl a];exact c j (by omega))]
   ·rw[c,Xbz (XdR g) (λj a C=>by rw[Hl a];exact t j C (by omega)) (by rw[Hl (XdR g)];exact g)]
  exact ζr func251 ϱ ⟨X0 J,rfl⟩
def Y5(x:List Int):List Bool:=x.map λo=>!(o == -1)
def Z2(x:List Int)(i:Int):Int:=if 0<=i then x.getD i.toNat (-1) else -1
def Yf(x:List Int):Int:=Fs (Y5 x)
def Ky(x:List Int):Int:=Ps (Y5 x)
def Xu(x:List Int):Nat:=cnt (Y5 x)
def Cz(x:List Int)(who:Int):Int:=if who<0 then 1 else if Yf x<0 then 5 else 0
def Cr(x:List Int)(who:Int):Int:=if Cz x who=0 then Yf x else 0
def Z3(x:List Int)(who:Int):List Int:=if Cz x who=0 then x.set (Yf x).toNat who else x
def Qx(x:List Int)(i:Int):Int:=if i<0\/(x.length:Int)<=i then 1 else if Z2 x i=-1 then 9 else 0
def Z6(x:List Int)(i:Int):List Int:=if Qx x i=0 then x.set i.toNat (-1) else x
def Al(x:List Int)(i who:Int):Int:=if i<0\/(x.length:Int)<=i\/who<0 then 1 else if Z2 x i=-1 then 9 else 0
def Bn(x:List Int)(i who:Int):List Int:=if Al x i who=0 then x.set i.toNat who else x
theorem Ew(x:List Int):(Y5 x).length=x.length:=by simp[Y5]
theorem Rf(x:List Int)(k:Nat):(Y5 x).getD k false=!(x.getD k (-1) == -1):=by
 unfold Y5;rw[XC,XQ,XC];cases h:x[k]? <;> simp
theorem T6(x:List Int)(i:Int):Fl (Y5 x) i=!(Z2 x i == -1):=by
 unfold Fl Z2;rw[Rf];by_cases h:0<=i
 ·rw[if_pos h,decide_eq_true h];rfl
 ·rw[if_neg h,decide_eq_false h];rfl
theorem Xbc(x:List Int)(i:Int):Fo (Y5 x) i=true↔0<=i/\i<x.length:=by
 unfold Fo;rw[Ew];simp
theorem T3(x:List Int)(i:Nat)(v:Int):Y5 (x.set i v)=(Y5 x).set i (!(v == -1)):=by
 unfold Y5;rw[YC]
theorem Xbb{x:List Int}{i:Int}(h:i<0\/(x.length:Int)<=i):Z2 x i=-1:=by
 unfold Z2;by_cases a:0<=i
 ·rw[if_pos a,XC,XV (by omega)];rfl
 ·rw[if_neg a]
theorem Xdj:∀(x:List Bool) (k:Nat) (h:k<x.length),cnt (x.take (k+1))=cnt (x.take k)+(if x[k] then 1 else 0)
 |[],k,h=>by simp at h
 |a::r,0,h=>by simp[cnt]
 |a::r,k+1,h=>by
  have:=Xdj r k (by simpa using h);simp only[List.take_succ_cons,cnt,List.getElem_cons_succ];rw[this];omega
theorem Xes{x:List Bool}(hfull:cnt x≠x.length):∃t,t<x.length/\x.getD t false=false/\∀j,j<t->x.getD j false=true:=by
 obtain⟨g,e,a⟩:=Xaf hfull;have key:∀m t,t<=m->t<x.length->x.getD t false=false -> ∃t,t<x.length/\x.getD t false=false/\∀j,j<t->x.getD j false=true:=by
  intro m
  induction m with
  |zero=>intro t i b c;exact⟨t,b,c,λj f=>by omega⟩
  |succ m ihm=>
   intro t i b c;by_cases d:∀j,j<t->x.getD j false=true
   ·exact⟨t,b,c,d⟩
   ·have:∃j,j<t/\x.getD j false=false:=by
     apply Classical.byContradiction
     intro h;apply d
     intro j f;cases k:x.getD j false with
     |true=>rfl
     |false=>exact(h ⟨j,f,k⟩).elim
    obtain⟨j,f,a⟩:=this;exact ihm j (by omega) (by omega) a
 exact key g g (XE _) e (by rw[<-Hl e];exact a)
theorem XjA{x:List Bool}(h:0<=Fs x):(Fs x).toNat<x.length/\x.getD (Fs x).toNat false=false:=by
 unfold Fs at h⊢;by_cases e:cnt x=x.length
 ·rw[Hm (p:=λb=>!b) (λj d=>by rw[S6 e j d];rfl)] at h;exact absurd h (by decide)
 ·obtain⟨t,a,c,f⟩:=Xes e;rw[I4 (p:=λb=>!b) a (λj d g=>by rw[Hl d,f j g];rfl) (by rw[Hl a,c];rfl)];exact⟨a,c⟩
theorem XaL{x:List Bool}:Fs x<0↔cnt x=x.length:=by
 unfold Fs;by_cases a:cnt x=x.length
 ·rw[Hm (p:=λb=>!b) (λj d=>by rw[S6 a j d];rfl)];exact⟨λ_=>a,λ_=>by decide⟩
 ·obtain⟨t,c,e,f⟩:=Xes a;rw[I4 (p:=λb=>!b) c (λj d g=>by rw[Hl d,f j g];rfl) (by rw[Hl c,e];rfl)];exact⟨λh=>by omega,λh=>absurd h a⟩
structure Pg where
 p:Nat
 bb:Nat
 mb:Nat
abbrev Eh(g:Pg):Value:=.pointer (some ⟨g.p,0,none⟩)
def Fw(g:Pg):Nat->Prop:=λz=>z=g.bb\/z=g.mb
def Ri(g:Pg)(x:List Int):List Value:=[.pointer (some ⟨g.bb,0,none⟩),.int .i64 (x.length:Int),.map (some g.mb)]
structure Q4(w:World)(g:Pg)(x:List Int):Prop where
 pc:w.heap[g.p]?=some (.cells (Ri g x).toArray 286 (0,0))
 bits:A7 w g.bb (Y5 x)
 own:∃m,Y7 w g.mb m/\(Bc m).Nodup/\∀i,i<x.length->x.getD i (-1)≠-1->Bj m i=some (.int .i64 (x.getD i (-1)))
 npb:g.p≠g.bb
 npm:g.p≠g.mb
 nbm:g.bb≠g.mb
theorem Q4.chg{S:Nat->Prop}{w w':World}{g:Pg}{x:List Int}(h:Q4 w g x)(hc:Xc S w w')(h1:¬S g.p)(h2:¬S g.bb)(h3:¬S g.mb)(hg:¬S 0):Q4 w' g x:=by
 obtain⟨m,a,b,c⟩:=h.own;exact⟨hc.heap h.pc h1,h.bits.chg hc h2 hg,⟨m,a.chg hc h3,b,c⟩,h.npb,h.npm,h.nbm⟩
theorem Q4.grow{g:Pg}{x:List Int}(h:Q4 w g x)(hc:Xc Xe w w'):Q4 w' g x:=h.chg hc id id id id
theorem Q4.lt{w:World}{g:Pg}{x:List Int}(h:Q4 w g x):g.p<w.heap.size/\g.bb<w.heap.size/\g.mb<w.heap.size:=by
 obtain⟨m,a,b,c⟩:=h.own;exact⟨Xg h.pc,h.bits.lt,a.lt⟩
theorem Q4.footlt{g:Pg}{x:List Int}(h:Q4 w g x):∀b,Fw g b->b<w.heap.size:=λb a=>by
 obtain⟨_,c,d⟩:=h.lt;rcases a with rfl|rfl
 ·exact c
 ·exact d
theorem Q4.notab{g:Pg}{x:List Int}(h:Q4 w g x):0≠g.mb:=λe=>by
 obtain⟨m,⟨es,c,a,_⟩,b,d⟩:=h.own;have:=h.bits.tab 0 (by decide);rw[e] at this;simp only[World.cell?,a] at this;cases this
theorem XeX(m:Nat)(w:World)(hT0:Bb w)(h:1<=m/\m<=512):Xf prog 187 #[.int .i64 m] w
 (λv w'=>∃g,v=.tuple #[Eh g,.int .i64 0]/\(w.heap.size<=g.p/\w.heap.size<=g.bb/\w.heap.size<=g.mb)/\Q4 w' g (List.replicate m (-1))/\Xc Xe w w'):=by
 refine ζe func187 ntmps187 ϱ (ζc ϱ (Xh1 m w hT0 h) ?_);rintro _ x ⟨bb,rfl,f,c,d⟩;refine ζa ϱ (ζf ϱ (Xa.mkmap rfl λmb y q j e r=>ζa ϱ (ζb ϱ (ζn ϱ λp z e3 o a s=>?_))));have k:=(c.grow e).grow a;have t:=c.lt;have u:=d.size;have b:(List.replicate m (-1:Int)).length=m:=XH;have l:Y5 (List.replicate m (-1))=List.replicate m false:=by simp[Y5]
 refine ζr func187 ϱ ⟨⟨p,bb,mb⟩,rfl,⟨by simp only;omega,f,by simp only;omega⟩,⟨by unfold Ri;rw[b];exact o,by rw[l];exact k,⟨[],j.chg a id,YH,λi hi n=>absurd (by rw[b] at hi;rw[XC,ZA,if_pos hi];rfl) n⟩,by simp only;omega,by simp only;omega,by simp only;omega⟩,(d.trans e).trans a⟩
theorem Xe1(g:Pg)(x:List Int)(w:World)(h:Q4 w g x):Xf prog 259 #[Eh g] w (Za (.int .i64 (Xu x)) w):=by
 exact ζe func259 ntmps259 ϱ (ζl h.pc ϱ (ζw (XcT g.bb _ w h.bits) ϱ (ζr func259 ϱ ⟨rfl,rfl⟩)))
theorem Xkj(g:Pg)(x:List Int)(w:World)(h:Q4 w g x):Xf prog 218 #[Eh g] w (Grow (.int .i64 (Yf x)) w):=by
 exact ζe func218 ntmps218 ϱ (ζl h.pc ϱ (ζv (XcU g.bb _ w h.bits) ϱ λb a=>ζr func218 ϱ ⟨rfl,a⟩))
theorem Xkm(g:Pg)(x:List Int)(w:World)(h:Q4 w g x):Xf prog 217 #[Eh g] w (Za (.int .i64 (Ky x)) w):=by
 exact ζe func217 ntmps217 ϱ (ζl h.pc ϱ (ζw (XhZ g.bb _ w h.bits) ϱ (ζr func217 ϱ ⟨rfl,rfl⟩)))
theorem Rb(g:Pg)(x:List Int)(w:World)(h:Q4 w g x):Xf prog 223 #[Eh g] w (Grow (.bool ((Xu x:Int) == x.length)) w):=by
 exact ζe func223 ntmps223 ϱ (ζd 15 Xe (by kernel_rfl) ϱ λa=>Xd.yes Xb a rfl rfl rfl (δl a h.pc ϱ (δw a (λw' b=>XcT g.bb _ w' (h.bits.grow b)) ϱ (δl a h.pc ϱ (δn a ϱ λd c=>ζr func223 ϱ ⟨rfl,c⟩)))))
theorem Xkl(g:Pg)(x:List Int)(i:Int)(w:World)(h:Q4 w g x):Xf prog 220 #[Eh g,.int .i64 i] w (Za (.int .i64 (Z2 x i)) w):=by
 refine ζe func220 ntmps220 ϱ (ζf ϱ (ζl h.pc ϱ (ζw (Su g.bb _ i w h.bits) ϱ ?_)));rw[T6];cases d:(Z2 x i == -1) with
 |true=>
  exact ζy ϱ (ζr func220 ϱ ⟨X0 (show -1=Z2 x i from(by simpa using d:Z2 x i=-1).symm),rfl⟩)
 |false=>
  refine ζf ϱ ?_;obtain⟨m,e,j,f⟩:=h.own;have a:Z2 x i≠-1:=by simpa using d
  have b:0<=i/\i<x.length:=Classical.byContradiction λl=>a (Xbb (by omega));obtain⟨k,rfl⟩:=XD b.1;have c:Z2 x k=x.getD k (-1):=by unfold Z2;rw[if_pos b.1];rfl
  exact ζl h.pc ϱ (Xa.lookup Xb rfl (e) ((show Be m (.int .i64 0) k false=.int .i64 (Z2 x k) by unfold Be;rw[(f k (by omega) (by rw[<-c];exact a)),c];rfl)) rfl (ζr func220 ϱ ⟨rfl,rfl⟩))
theorem XeZ(i:Int)(w:World):Xf prog 220 #[.pointer none,.int .i64 i] w (Za (.int .i64 (-1)) w):=by
 exact ζe func220 ntmps220 ϱ (ζr func220 ϱ ⟨rfl,rfl⟩)
variable {G:Nat->Pg}
theorem T7{x:List Int}(h:¬Yf x<0):(Yf x).toNat<x.length/\x.getD (Yf x).toNat (-1)=-1:=by
 obtain⟨a,b⟩:=XjA (x:=Y5 x) (by unfold Yf at h;omega);rw[Ew] at a;rw[Rf] at b;exact⟨a,show x.getD (Fs (Y5 x)).toNat (-1)=-1 by simpa using b⟩
theorem N1(x:List Int)(i j:Nat)(v:Int):(x.set i v).getD j (-1)=if i=j/\i<x.length then v else x.getD j (-1):=by
 rw[XC,YX,XC];by_cases h:i=j
 ·subst h;by_cases a:i<x.length
  ·simp[a]
  ·simp[a]
 ·simp[h]
theorem Xe0(g:Pg)(x:List Int)(who:Int)(w:World)(h:Q4 w g x):Xf prog 222 #[Eh g,.int .i64 who] w
 (λv w'=>v=.tuple #[.int .i64 (Cr x who),.int .i64 (Cz x who)]/\Q4 w' g (Z3 x who)/\Xc (Fw g) w w'):=by
 have A:=h.bits.len;rw[Ew] at A;by_cases B:who<0
 ·have a:Cz x who=1:=by unfold Cz;rw[if_pos B]
  have j:Cr x who=0:=by unfold Cr;rw[a];rfl
  have k:Z3 x who=x:=by unfold Z3;rw[a];rfl
  rw[a,j,k];exact ζe func222 ntmps222 ϱ (ζy ϱ (ζr func222 ϱ ⟨rfl,h,Xc.refl _ _⟩))
 ·by_cases c:Yf x<0
  ·have a:Cz x who=5:=by unfold Cz;rw[if_neg B,if_pos c]
   have j:Cr x who=0:=by unfold Cr;rw[a];rfl
   have k:Z3 x who=x:=by unfold Z3;rw[a];rfl
   have b:((Xu x:Int) == x.length)=true:=by have:=XaL.1 c;rw[Ew] at this;unfold Xu;rw[this];exact beq_self_eq_true _
   rw[a,j,k];refine ζe func222 ntmps222 ϱ (ζf ϱ (ζv (Rb g x w h) ϱ λD d=>?_));rw[b];exact ζy ϱ (ζr func222 ϱ ⟨rfl,h.grow d,d.mono (λ_ _ h=>h.elim)⟩)
  ·have a:Cz x who=0:=by unfold Cz;rw[if_neg B,if_neg c]
   have j:Cr x who=Yf x:=by unfold Cr;rw[a];rfl
   have k:Z3 x who=x.set (Yf x).toNat who:=by unfold Z3;rw[a];rfl
   have b:((Xu x:Int) == x.length)=false:=by
    rw[beq_eq_false_iff_ne];intro e;exact c (XaL.2 (by rw[Ew];unfold Xu at e;omega))
   obtain⟨s,t⟩:=T7 c;rw[a,j,k];refine ζe func222 ntmps222 ϱ (ζf ϱ (ζv (Rb g x w h) ϱ λD d=>?_));rw[b];have l:=h.grow d;refine ζf ϱ (ζl l.pc ϱ (ζv (XcU g.bb _ D l.bits) ϱ λH u=>?_));have f:=l.grow u;obtain⟨m,I,J,E⟩:=f.own;refine ζl f.pc ϱ (Xa.mapset Xb rfl (I) λK F n N=>ζa ϱ ?_);have o:=n.heap f.pc h.npm;refine ζl o ϱ (ζc ϱ (XcV g.bb _ (Fs (Y5 x)) true K (f.bits.chg n h.nbm f.notab)) ?_);rintro _ L ⟨rfl,y,p⟩;refine ζa ϱ ?_;have z:Ek (Y5 x) (Fs (Y5 x)) true=0:=by
    unfold Ek;rw[if_neg (by rw[(Xbc x _).2 ⟨by unfold Yf at c;omega,by unfold Yf at s c;omega⟩];decide),if_neg (by rw[T6];unfold Z2;unfold Yf at t;rw[t];split <;> decide),if_neg (by simp)]
   have G:Io (Y5 x) (Fs (Y5 x)) true=Y5 (x.set (Yf x).toNat who):=by
    unfold Io;rw[if_pos z,T3,show(!(who == -1))=true from by simp;omega];rfl
   rw[z];rw[G] at y;have C:Xc (Fw g) H L:=(n.mono λ_ _ h=>.inr h).trans (p.mono λ_ _ h=>.inl h);have q:=p.heap o h.npb;exact Xa.ret2 Xb rfl func222 rfl rfl rfl ⟨rfl,⟨by unfold Ri at q⊢;rw[XG];exact q,y,⟨_,(F.chg p h.nbm.symm),XaV J _ _,λi hi r=>by
    rw[Iz,N1];rw[XG] at hi;by_cases e:(i:Int)=Fs (Y5 x)
    ·rw[if_pos e,if_pos ⟨by unfold Yf;omega,s⟩]
    ·rw[N1] at r;have e':¬((Yf x).toNat=i/\(Yf x).toNat<x.length):=λM=>e (by unfold Yf at M c;omega);rw[if_neg e'] at r⊢;rw[if_neg e];exact E i hi r⟩,h.npb,h.npm,h.nbm⟩,(((d.trans u).mono (λ_ _ h=>h.elim)).trans C)⟩
theorem Xki(g:Pg)(x:List Int)(i:Int)(w:World)(h:Q4 w g x):Xf prog 228 #[Eh g,.int .i64 i] w
 (λv w'=>v=.int .i64 (Qx x i)/\Q4 w' g (Z6 x i)/\Xc (Fw g) w w'):=by
 have q:Ek (Y5 x) i false=Qx x i:=by
  unfold Ek Qx;by_cases hi:0<=i/\i<x.length
  ·rw[if_neg (by rw[(Xbc x i).2 hi];decide),if_neg (by simp),if_neg (show ¬(i<0\/(x.length:Int)<=i) by omega),T6];by_cases a:Z2 x i=-1
   ·rw[if_pos a,if_pos (by rw[a];rfl)]
   ·rw[if_neg a,if_neg (by simpa using a)]
  ·rw[if_pos (by cases B:Fo (Y5 x) i;rfl;exact absurd ((Xbc x i).1 B) hi),if_pos (by omega)]
 have C:Io (Y5 x) i false=Y5 (Z6 x i):=by
  unfold Io Z6;rw[q];split
  ·rw[T3];rfl
  ·rfl
 have l:(Z6 x i).length=x.length:=by unfold Z6;split <;> simp
 obtain⟨m,D,r,s⟩:=h.own;refine ζe func228 ntmps228 ϱ (ζl h.pc ϱ (Xa.mapdel Xb rfl (D) λt u b F=>ζa ϱ ?_));have c:=b.heap h.pc h.npm;have y:A7 t g.bb (Y5 x):=h.bits.chg b h.nbm h.notab;refine ζl c ϱ (ζc ϱ (XcV g.bb _ i false t y) ?_);rintro _ H ⟨rfl,n,d⟩;refine ζa ϱ ?_;rw[q];rw[C] at n;have z:=u.chg d h.nbm.symm;have f:=d.heap c h.npb;exact Xa.ret1 Xb rfl func228 rfl rfl ⟨rfl,⟨by unfold Ri at f⊢;rw[l];exact f,n,⟨_,z,XeN r _,λj o k=>by
  rw[l] at o;rw[Ll r];by_cases e:(j:Int)=i
  ·exfalso
   apply k
   unfold Z6 Qx;subst e;have A:Z2 x (j:Int)=x.getD j (-1):=by unfold Z2;rw[if_pos (by omega)];rfl
   rw[if_neg (show ¬((j:Int)<0\/(x.length:Int)<=j) by omega)];by_cases a:Z2 x (j:Int)=-1
   ·rw[if_pos a,if_neg (by decide),<-A];exact a
   ·rw[if_neg a,if_pos rfl,XA,N1,if_pos ⟨rfl,o⟩]
  ·rw[if_neg e];have E:(Z6 x i).getD j (-1)=x.getD j (-1):=by
    unfold Z6;split
    ·rename_i p
     have G:0<=i:=Classical.byContradiction λI=>by unfold Qx at p;rw[if_pos (by omega)] at p;cases p
     rw[N1,if_neg (by omega)]
    ·rfl
   rw[E] at k⊢;exact s j o k⟩,h.npb,h.npm,h.nbm⟩,(b.mono λ_ _ h=>.inr h).trans (d.mono λ_ _ h=>.inl h)⟩
theorem Xkk(g:Pg)(x:List Int)(i who:Int)(w:World)(h:Q4 w g x):Xf prog 232 #[Eh g,.int .i64 i,.int .i64 who] w
 (λv w'=>v=.int .i64 (Al x i who)/\Q4 w' g (Bn x i who)/\Xc (Fw g) w w'):=by
 have n:∀e:Int,Al x i who=e->e≠0->Bn x i who=x:=λe q r=>by unfold Bn;rw[q,if_neg r]
 refine ζe func232 ntmps232 ϱ ?_;by_cases q:who<0
 ·have a:Al x i who=1:=by unfold Al;rw[if_pos (by omega)]
  rw[a,n 1 a (by decide)];exact ζy ϱ (ζr func232 ϱ ⟨rfl,h,Xc.refl _ _⟩)
 refine ζf ϱ ?_;by_cases r:i<0
 ·have a:Al x i who=1:=by unfold Al;rw[if_pos (by omega)]
  rw[a,n 1 a (by decide)];exact ζy ϱ (ζr func232 ϱ ⟨rfl,h,Xc.refl _ _⟩)
 refine ζf ϱ (ζl h.pc ϱ ?_);by_cases D:(x.length:Int)<=i
 ·have a:Al x i who=1:=by unfold Al;rw[if_pos (by omega)]
  rw[a,n 1 a (by decide)];exact ζy ϱ (ζr func232 ϱ ⟨rfl,h,Xc.refl _ _⟩)
 refine ζf ϱ (ζl h.pc ϱ (ζw (Su g.bb _ i w h.bits) ϱ ?_));rw[T6];by_cases d:Z2 x i=-1
 ·have a:Al x i who=9:=by unfold Al;rw[if_neg (by omega),if_pos d]
  rw[a,n 9 a (by decide),d];exact ζy ϱ (ζr func232 ϱ ⟨rfl,h,Xc.refl _ _⟩)
 ·have a:Al x i who=0:=by unfold Al;rw[if_neg (by omega),if_neg d]
  have z:Bn x i who=x.set i.toNat who:=by unfold Bn;rw[a];rfl
  rw[a,z];refine ζF ϱ (show(!!(Z2 x i == -1))=false by simpa using d) ?_;obtain⟨m,A,B,s⟩:=h.own;refine ζl h.pc ϱ (Xa.mapset Xb rfl (A) λE t f C=>ζa ϱ ?_);have l:=f.heap h.pc h.npm;obtain⟨k,rfl⟩:=XD (show 0<=i by omega);have u:Z2 x (k:Int)=x.getD k (-1):=by unfold Z2;rw[if_pos (by omega)];rfl
  have y:Y5 (x.set k who)=Y5 x:=by
   rw[T3,show(!(who == -1))=true from by simp;omega];apply QD
   intro j;rw[YX];split
   ·rename_i e
    subst e;have:=Rf x k;rw[XC,show(!(x.getD k (-1) == -1))=true from by rw[<-u];simpa using d] at this;cases p:(Y5 x)[k]? with
    |none=>rw[p] at this;cases this
    |some b=>rw[p] at this;simp at this;subst this;rw[if_pos (List.getElem?_eq_some_iff.1 p).1]
   ·rfl
  exact Xa.ret1 Xb rfl func232 rfl rfl ⟨rfl,⟨by unfold Ri at l⊢;rw[XG];exact l,by rw[XA,y];exact(h.bits.chg f h.nbm h.notab),⟨_,t,XaV B _ _,λj o c=>by
   rw[XA] at o c⊢;rw[XG] at o;rw[Iz];rw[N1] at c⊢;by_cases e:(j:Int)=k
   ·have e':k=j:=by omega
    subst e';rw[if_pos rfl,if_pos ⟨rfl,o⟩]
   ·rw[if_neg (show ¬(k=j/\k<x.length) by omega)] at c⊢;rw[if_neg e];exact s j o c⟩,h.npb,h.npm,h.nbm⟩,f.mono λ_ _ h=>.inr h⟩
theorem XeY(i who:Int)(w:World):Xf prog 232 #[.pointer none,.int .i64 i,.int .i64 who] w (Za (.int .i64 1) w):=by
 exact ζe func232 ntmps232 ϱ (ζr func232 ϱ ⟨rfl,rfl⟩)
theorem Fj{a t':Nat}{c c':Array Value}{f f':Nat×Nat}(h:w.heap[a]?=some (.cells c t f))(h':w.heap[b]?=some (.cells c' t' f'))(ht:t≠t'):a≠b:=by
 intro e;subst e;rw[h] at h';cases h';exact ht rfl
def Cd(len:Nat)(f:Nat->Int):List Value:=(List.range len).map λi=>.int .i64 (f i)
def Ym(w:World)(b:Nat)(t:TypeId)(len:Nat)(f:Nat->Int):Prop:=w.heap[b]?=some (.cells (Cd len f).toArray t (0,0))
def Zj(f:Nat->Int)(i:Nat)(v:Int):Nat->Int:=λj=>if j=i then v else f j
theorem Dk(f:Nat->Int)(i:Nat)(v:Int):Zj f i v i=v:=by unfold Zj;rw[if_pos rfl]
theorem Yx(f:Nat->Int)(v:Int)(h:j≠i):Zj f i v j=f j:=by unfold Zj;rw[if_neg h]
theorem XbW(len:Nat)(f:Nat->Int):(Cd len f).length=len:=by unfold Cd;simp
theorem XbX{v:Int}(hi:i<len):(Cd len f).set i (.int .i64 v)=Cd len (Zj f i v):=by
 refine QD λj=>?_;unfold Cd;rw[YX];by_cases h:i=j
 ·subst h;rw[if_pos rfl,if_pos (by simpa using hi),XQ,List.getElem?_range hi];simp[Zj]
 ·rw[if_neg h,XQ,XQ];by_cases a:j<len
  ·rw[List.getElem?_range a];simp[Zj,Ne.symm h]
  ·rw[XV (by simpa using a)];rfl
theorem Ec{t:TypeId}(h:Ym w b t len f)(e:j=k)(hk:k<len):w.cell? ⟨b,j,none⟩=some (.int .i64 (f k)):=by
 subst e;rw[Yv h];unfold Cd;simp[hk]
theorem XbG:∀(l:List Value) (i:Nat) (v:Value) (vs:List Value),i<l.length->Yc l i (v::vs)=Yc (l.set i v) (i+1) vs
 |x::r,0,v,vs,_=>rfl
 |x::r,i+1,v,vs,h=>by
  show(match Yc r i (v::vs) with|some q=>some (x::q)|none=>none)=(match Yc (r.set i v) (i+1) vs with|some q=>some (x::q)|none=>none)
  rw[XbG r i v vs (by simpa using h)]
theorem Ip{v:Int}(e:j=i)(hi:i<len):Yc (Cd len f) j [.int .i64 v]=some (Cd len (Zj f i v)):=by
 subst e;rw[J5 _ _ _ (by rw[XbW];exact hi),XbX hi]
theorem Mm{v:Int}(e:j=i)(hi:i+1<len):Yc (Cd len f) j [.int .i64 v,.int .i64 u]=some (Cd len (Zj (Zj f i v) (i+1) u)):=by
 subst e;rw[XbG _ _ _ _ (by rw[XbW];omega),XbX (by omega),Ip rfl hi]
theorem XfY{v:Int}(e:j=i)(hi:i+2<len):Yc (Cd len f) j [.int .i64 v,.int .i64 u,.int .i64 z]=some (Cd len (Zj (Zj (Zj f i v) (i+1) u) (i+2) z)):=by
 subst e;rw[XbG _ _ _ _ (by rw[XbW];omega),XbX (by omega),Mm rfl (by omega)]
structure PlM where
 own:List Int
 free:List Nat
def PlM.take(x:PlM)(who:Int):PlM:=match x.free with
 |[]=>x
 |n::r=>⟨x.own.set n who,r⟩
def PlM.give(x:PlM)(n:Nat):PlM:=⟨x.own.set n (-1),n::x.free⟩
def Df(n:Nat):PlM:=⟨List.replicate n (-1),List.range n⟩
structure PlM.Good(x:PlM):Prop where
 len:1<=x.own.length/\x.own.length<=1024
 nodup:x.free.Nodup
 free:∀n∈x.free,n<x.own.length/\x.own.getD n 0=-1
 all:∀n,n<x.own.length->x.own.getD n 0=-1->n∈x.free
 many:x.free.length+Xu x.own=x.own.length
structure Pl where
 pb:Nat
 ab:Nat
def Kz(P:Pl)(own:List Int)(head:Int):List Value:=[.slice (some ⟨P.ab,0,none⟩) own.length own.length,.int .i64 head,.int .i64 (Xu own:Nat),.func (.func 184) #[] #[]]
abbrev Ej(P:Pl):Value:=.pointer (some ⟨P.pb,0,none⟩)
def Ax(P:Pl):Nat->Prop:=λz=>z=P.pb\/z=P.ab
def I6(f:Nat->Int)(N:Nat):Int->List Nat->Prop
 |h,[]=>h=N
 |h,a::r=>h=a/\I6 f N (f (a*2+1)) r
theorem XaI{g:Nat->Int}:∀{l:List Nat} {h:Int},(∀a∈l,f (a*2+1)=g (a*2+1))->I6 f N h l->I6 g N h l
 |[],_,_,hl=>hl
 |a::r,_,hfg,hl=>⟨hl.1,by rw[<-hfg a (by simp)];exact XaI (λb hb=>hfg b (by simp[hb])) hl.2⟩
structure Zz(w:World)(P:Pl)(x:PlM):Prop where
 good:x.Good
 at':∃head f,w.heap[P.pb]?=some (.cells (Kz P x.own head).toArray 227 (0,0))/\Ym w P.ab 280 (x.own.length*2) f/\I6 f x.own.length head x.free/\∀n,n<x.own.length->f (n*2)=x.own.getD n 0
theorem Zz.chg{P:Pl}{x:PlM}(h:Zz w P x)(hc:Xc S w w')(h1:¬S P.pb)(h2:¬S P.ab):Zz w' P x:=by
 obtain⟨head,f,a,b,c⟩:=h.at';exact⟨h.good,head,f,hc.heap a h1,hc.heap b h2,c⟩
theorem Zz.grow{P:Pl}{x:PlM}(h:Zz w P x)(hc:Xc Xe w w'):Zz w' P x:=h.chg hc id id
theorem Zz.lt{P:Pl}{x:PlM}(h:Zz w P x):P.pb<w.heap.size/\P.ab<w.heap.size:=by
 obtain⟨head,f,a,b,c⟩:=h.at';exact⟨Xg a,Xg b⟩
theorem Hu{x:List Int}{v:Int}(h:n<x.length):Xu (x.set n v)+(if x.getD n 0=-1 then 0 else 1)=Xu x+(if v=-1 then 0 else 1):=by
 unfold Xu;rw[T3];have:=S7 (Y5 x) n (by rw[Ew];exact h) (!(v == -1));have e:(Y5 x)[n]'(by rw[Ew];exact h)=!(x.getD n 0 == -1):=by
  unfold Y5;rw[YK,XC,XB h];rfl
 rw[e] at this;by_cases a:x.getD n 0=-1 <;> by_cases b:v=-1 <;> simp_all
theorem Og(x:List Int):Xu x<=x.length:=by
 unfold Xu;have:=Ns (Y5 x);rw[Ew] at this;exact this
theorem Fk(x:List Int)(i j:Nat)(v:Int):(x.set i v).getD j 0=if i=j/\i<x.length then v else x.getD j 0:=by
 rw[XC,YX,XC];by_cases h:i=j
 ·subst h;by_cases a:i<x.length
  ·simp[a]
  ·simp[a]
 ·simp[h]
theorem PlM.Good.take{x:PlM}(h:x.Good){who:Int}(hw:0<=who){n:Nat}{r:List Nat}(hf:x.free=n::r):(x.take who).Good:=by
 obtain⟨p,j,i,k,l⟩:=h;rw[hf] at j i k l;obtain⟨q,s⟩:=List.nodup_cons.1 j;obtain⟨g,o⟩:=i n (by simp);have e:x.take who=⟨x.own.set n who,r⟩:=by unfold PlM.take;rw[hf]
 rw[e];refine⟨by simpa using p,s,λm f=>?_,λm f c=>?_,?_⟩
 ·obtain⟨a,b⟩:=i m (by simp[f]);have:n≠m:=λe=>q (e▸f);exact⟨by simpa using a,by show(x.own.set n who).getD m 0=-1;rw[Fk,if_neg (λh=>this h.1)];exact b⟩
 ·replace c:(x.own.set n who).getD m 0=-1:=c;rw[Fk] at c;by_cases d:n=m
  ·rw[if_pos ⟨d,g⟩] at c;omega
  ·rw[if_neg (λh=>d h.1)] at c;have:=k m (by simpa using f) c;rcases List.mem_cons.1 this with h|h
   ·exact absurd h.symm d
   ·exact h
 ·have:=Hu (v:=who) g;rw[if_pos o,if_neg (by omega)] at this;simp only[XG,XM] at l⊢;omega
theorem PlM.Good.give{x:PlM}(h:x.Good){n:Nat}(hn:n<x.own.length)(ho:x.own.getD n 0≠-1):(x.give n).Good:=by
 obtain⟨f,g,d,i,j⟩:=h;refine⟨by simpa [PlM.give] using f,?_,λm hm=>?_,λm hm c=>?_,?_⟩
 ·exact List.nodup_cons.2 ⟨λh=>ho (d n h).2,g⟩
 ·rcases List.mem_cons.1 hm with rfl|hm
  ·exact⟨by simpa [PlM.give] using hn,by show(x.own.set m (-1)).getD m 0=-1;rw[Fk,if_pos ⟨rfl,hn⟩]⟩
  ·obtain⟨a,b⟩:=d m hm;refine⟨by simpa [PlM.give] using a,?_⟩;show(x.own.set n (-1)).getD m 0=-1
   rw[Fk];split
   ·rfl
   ·exact b
 ·replace c:(x.own.set n (-1)).getD m 0=-1:=c;replace hm:m<x.own.length:=by simpa [PlM.give] using hm
  show m∈n::x.free
  by_cases e:n=m
  ·rw[e];exact ZI
  ·rw[Fk,if_neg (λh=>e h.1)] at c;exact ZF _ (i m hm c)
 ·have:=Hu (v:=-1) hn;rw[if_neg ho,if_pos rfl] at this;show(n::x.free).length+Xu (x.own.set n (-1))=(x.own.set n (-1)).length
  simp only[XG,XM];omega
theorem Ht(n:Nat):Xu (List.replicate n (-1))=0:=by
 unfold Xu Y5;rw[List.map_replicate];exact Xag n
theorem Xks(h:1<=n/\n<=1024):(Df n).Good:=by
 refine⟨by simpa [Df] using h,List.nodup_range,λm a=>?_,λm a _=>?_,?_⟩
 ·have:=List.mem_range.1 a;refine⟨by simpa [Df] using this,?_⟩;show(List.replicate n (-1)).getD m 0=-1
  rw[XC,ZA,if_pos this];rfl
 ·exact List.mem_range.2 (by simpa [Df] using a)
 ·show(List.range n).length+Xu (List.replicate n (-1))=(List.replicate n (-1)).length
  rw[Ht];simp
theorem Xkz(P:Pl)(x:PlM)(n:Int)(w:World)(h:Zz w P x):Xf prog 236 #[Ej P,.int .i64 n] w (Za (.bool (decide (0<=n) && decide (n<x.own.length))) w):=by
 obtain⟨head,f,b,c,d,e⟩:=h.at';refine ζe func236 ntmps236 ϱ (ζg ϱ (λa=>?_) λa=>?_)
 ·refine ζl b ϱ ?_;rw[a];exact ζr func236 ϱ ⟨rfl,rfl⟩
 ·rw[a];exact ζr func236 ϱ ⟨rfl,rfl⟩
theorem Xkv(P:Pl)(x:PlM)(w:World)(h:Zz w P x):Xf prog 111 #[Ej P] w (Za (.int .i64 (Xu x.own:Nat)) w):=by
 obtain⟨head,f,a,b,c,d⟩:=h.at';exact ζe func111 ntmps111 ϱ (ζl a ϱ (ζr func111 ϱ ⟨rfl,rfl⟩))
theorem Xfb(P:Pl)(x:PlM)(w:World)(h:Zz w P x):Xf prog 115 #[Ej P] w (Grow (.int .i64 (x.free.length:Nat)) w):=by
 obtain⟨head,f,b,d,e,g⟩:=h.at';have i:=h.good.many;have j:=h.good.len;exact ζe func115 ntmps115 ϱ (ζd 11 Xe (by kernel_rfl) ϱ λa=>δl a b ϱ (δl a b ϱ (δj a ϱ (δn a ϱ λk c=>ζr func115 ϱ ⟨X0 (by omega),c⟩))))
variable {P:Pl}{pl':PlM}
def Ei(x:PlM)(who:Int):Int:=if who<0 then 1 else if x.free.length=0 then 5 else 0
def Ih(x:PlM)(who:Int):Int:=if Ei x who=0 then (x.free.getD 0 0:Nat) else 0
def Hv(x:PlM)(who:Int):PlM:=if Ei x who=0 then x.take who else x
theorem Xbg(P:Pl)(x:PlM)(who:Int)(w:World)(h:Zz w P x):Xf prog 191 #[Ej P,.int .i64 who] w
 (λv w'=>v=.tuple #[.int .i64 (Ih x who),.int .i64 (Ei x who)]/\Zz w' P (Hv x who)/\Xc (Ax P) w w'):=by
 have d:=h.good;have K:=h.good.len;obtain⟨own,free⟩:=x;obtain⟨head,f,c,l,s,F⟩:=h.at';replace c:w.heap[P.pb]?=some (.cells (Kz P own head).toArray 227 (0,0)):=c;replace l:Ym w P.ab 280 (own.length*2) f:=l;replace s:I6 f own.length head free:=s;replace F:∀m,m<own.length->f (m*2)=own.getD m 0:=F;replace K:1<=own.length/\own.length<=1024:=K;have eN:∀e,Ei ⟨own,free⟩ who=e->e≠0->Ih ⟨own,free⟩ who=0/\Hv ⟨own,free⟩ who=⟨own,free⟩:=λe c l=>by
  unfold Ih Hv;rw[c,if_neg l,if_neg l];exact⟨rfl,rfl⟩
 refine Xf.enter func191 rfl ntmps191 rfl rfl ?_;refine ζa rfl ?_;refine Xa.fork Xb rfl rfl rfl (λG=>?_) (λG=>?_)
 ·have t:who<0:=of_decide_eq_true G;have e1:Ei ⟨own,free⟩ who=1:=by unfold Ei;rw[if_pos t]
  rw[(eN 1 e1 (by decide)).1,(eN 1 e1 (by decide)).2,e1];exact ζr func191 ϱ ⟨rfl,h,Xc.refl _ _⟩
 have t:¬who<0:=of_decide_eq_false G;refine Xa.drawn (q:=11) Xe Xb Xp (by kernel_rfl) rfl ?_;intro H;refine Xd.loadb Xb H rfl c (by first|exact λh=>h|(intro h;omega)|assumption) rfl rfl ?_;refine Xd.loadb Xb H rfl c (by first|exact λh=>h|(intro h;omega)|assumption) rfl rfl ?_;refine Xd.nil H ?_;intro N b;refine ζa rfl ?_;have g:=b.heap' c;have o:Ym N P.ab 280 (own.length*2) f:=b.heap' l;cases free with
 |nil=>
  have e:head=own.length:=s;subst e;have e1:Ei ⟨own,[]⟩ who=5:=by unfold Ei;rw[if_neg t];rfl
  rw[(eN 5 e1 (by decide)).1,(eN 5 e1 (by decide)).2,e1];refine Xa.yes Xb rfl (beq_self_eq_true _) rfl ?_;exact ζr func191 ϱ ⟨rfl,h.grow b,b.gr⟩
 |cons n r=>
  obtain⟨rfl,O⟩:=s;obtain⟨u,I⟩:=d.free n (by simp);replace u:n<own.length:=u;replace I:own.getD n 0=-1:=I;have e1:Ei ⟨own,n::r⟩ who=0:=by unfold Ei;rw[if_neg t];rfl
  have e2:Ih ⟨own,n::r⟩ who=n:=by unfold Ih;rw[if_pos e1];rfl
  have e3:Hv ⟨own,n::r⟩ who=⟨own.set n who,r⟩:=by unfold Hv;rw[if_pos e1];rfl
  rw[e1,e2,e3];refine Xa.no Xb rfl (by simp;omega) rfl ?_;refine Xa.loadb Xb rfl g rfl rfl ?_;refine Xa.loadb Xb rfl g rfl rfl ?_;refine Xa.index Xb rfl (j:=(n*2)) (by omega) (by omega) (by first|rfl|omega|(simp;done)|(simp;omega)) rfl ?_;have p:=Fj o g (by decide);refine ζk ϱ (Ec o (k:=n*2+1) (by show 0+n*2+1=_;omega) (by omega)) ϱ (ζs g ϱ λW y A T=>ζl y ϱ (ζi (n*2) ϱ (ζS ϱ (A.heap o p) (Ip (i:=n*2) (by show 0+n*2+0=_;omega) (by omega)) ϱ λw3 L B U=>?_)));have C:=B.heap y p.symm;refine ζl C ϱ (ζJ ϱ (by have:=Og own;omega) (ζs C ϱ λQ M D V=>?_));have R:=Hu (x:=own) (n:=n) (v:=who) u;rw[if_pos I,if_neg (by omega)] at R;have S:Xc (Ax P) w Q:=(b.gr.trans (A.mono λz _ e=>.inl e)).trans ((B.mono λz _ e=>.inr e).trans (D.mono λz _ e=>.inl e));have E:=d.take (who:=who) (by omega) (n:=n) (r:=r) rfl;have e:PlM.take ⟨own,n::r⟩ who=⟨own.set n who,r⟩:=rfl;rw[e] at E;exact Xa.ret2 Xb rfl func191 rfl rfl rfl ⟨rfl,⟨E,f (n*2+1),Zj f (n*2) who,by
   unfold Kz;simp only[XG];rw[show((Xu (own.set n who):Nat):Int)=(Xu own:Nat)+1 by omega];exact M,by
   show Ym _ _ _ ((own.set n who).length*2) _
   rw[XG];exact(D.heap L p),by
   show I6 _ (own.set n who).length _ r
   rw[XG];exact XaI (λa _=>(Yx f who (by omega)).symm) O,λm J=>by
   replace J:m<own.length:=by simpa using J
   show Zj f (n*2) who (m*2)=(own.set n who).getD m 0
   rw[Fk];by_cases e:n=m
   ·subst e;rw[Dk,if_pos ⟨rfl,u⟩]
   ·rw[Yx _ _ (by omega),if_neg (λh=>e h.1)];exact F m J⟩,S⟩
def Ex(x:PlM)(n:Int):Int:=if n<0\/(x.own.length:Int)<=n then 1 else if Z2 x.own n=-1 then 9 else 0
def Gw(x:PlM)(n:Int):PlM:=if Ex x n=0 then x.give n.toNat else x
theorem Xbf(P:Pl)(x:PlM)(n:Int)(w:World)(h:Zz w P x):Xf prog 196 #[Ej P,.int .i64 n] w
 (λv w'=>v=.int .i64 (Ex x n)/\Zz w' P (Gw x n)/\Xc (Ax P) w w'):=by
 have d:=h.good;have H:=h.good.len;obtain⟨own,free⟩:=x;obtain⟨head,f,b,l,E,r⟩:=h.at';replace b:w.heap[P.pb]?=some (.cells (Kz P own head).toArray 227 (0,0)):=b;replace l:Ym w P.ab 280 (own.length*2) f:=l;replace E:I6 f own.length head free:=E;replace r:∀m,m<own.length->f (m*2)=own.getD m 0:=r;replace H:1<=own.length/\own.length<=1024:=H;have eN:∀e,Ex ⟨own,free⟩ n=e->e≠0->Gw ⟨own,free⟩ n=⟨own,free⟩:=λe b l=>by
  unfold Gw;rw[b,if_neg l]
 refine Xf.enter func196 rfl ntmps196 rfl rfl ?_;refine ζa rfl ?_;refine ζc rfl (Xkz P ⟨own,free⟩ n w h) ?_;rintro _ _ ⟨rfl,rfl⟩;refine ζa rfl ?_;by_cases g:0<=n/\n<own.length
 ·obtain⟨k,rfl⟩:=XD g.1;have o:k<own.length:=by omega
  have t:Z2 own k=own.getD k 0:=by
   unfold Z2;rw[if_pos g.1];simp only[XA];rw[XC,XC,XB o];rfl
  refine Xa.no Xb rfl (by rw[decide_eq_true g.1,decide_eq_true g.2];rfl) rfl ?_;refine Xa.loadb Xb rfl b rfl rfl ?_;refine Xa.index Xb rfl (j:=(k*2)) (by omega) (by omega) (by first|rfl|omega|(simp;done)|(simp;omega)) rfl ?_;refine ζk ϱ (Ec l (k:=k*2) (by show 0+k*2+0=_;omega) (by omega)) ϱ ?_;rw[r k o];by_cases c:own.getD k 0=-1
  ·have e1:Ex ⟨own,free⟩ k=9:=by unfold Ex;rw[if_neg (by simp only;omega),t,if_pos c]
   rw[eN 9 e1 (by decide),e1];exact ζY ϱ (by rw[c];rfl) (ζr func196 ϱ ⟨rfl,h,Xc.refl _ _⟩)
  ·have e1:Ex ⟨own,free⟩ k=0:=by unfold Ex;rw[if_neg (by simp only;omega),t,if_neg c]
   have e2:Gw ⟨own,free⟩ k=⟨own.set k (-1),k::free⟩:=by unfold Gw;rw[if_pos e1];rfl
   rw[e1,e2];refine ζF ϱ (by simpa using c) (ζd 10 Xe (by kernel_rfl) ϱ λs=>δl s b ϱ (δl s b ϱ (Xd.build Xb s rfl rfl (δn s ϱ λU p=>?_))));have u:=p.heap' b;have y:=p.heap' l;have q:=Fj y u (by decide);refine ζi (k*2) ϱ (ζS ϱ y (Mm (i:=k*2) (by show 0+k*2=_;omega) (by omega)) ϱ λV I A Q=>?_);refine ζs (A.heap u q.symm) ϱ λW B C R=>?_;refine ζl B ϱ (ζJ ϱ (by have:=Og own;omega) (ζs B ϱ λL J D S=>?_));have M:=Hu (x:=own) (n:=k) (v:=-1) o;rw[if_neg c,if_pos rfl] at M;have N:Xc (Ax P) w L:=(p.gr.trans (A.mono λz _ e=>.inr e)).trans ((C.mono λz _ e=>.inl e).trans (D.mono λz _ e=>.inl e));have K:k∉free:=λh=>c (d.free k h).2;exact Xa.ret1 Xb rfl func196 rfl rfl ⟨rfl,⟨(d.give (n:=k) o c),k,Zj (Zj f (k*2) (-1)) (k*2+1) head,by
    unfold Kz;simp only[XG];rw[show((Xu (own.set k (-1)):Nat):Int)=(Xu own:Nat)-1 by omega];exact J,by
    show Ym _ _ _ ((own.set k (-1)).length*2) _
    rw[XG];exact(D.heap (C.heap I q) q),by
    show I6 _ (own.set k (-1)).length _ (k::free)
    rw[XG];refine⟨rfl,?_⟩;rw[Dk];exact XaI (λa O=>by rw[Yx _ _ (by intro e;exact K ((by omega:a=k)▸O)),Yx _ _ (by omega)]) E,λm F=>by
    replace F:m<own.length:=by simpa using F
    show Zj (Zj f (k*2) (-1)) (k*2+1) head (m*2)=(own.set k (-1)).getD m 0
    rw[Fk,Yx _ _ (by omega)];by_cases e:k=m
    ·subst e;rw[Dk,if_pos ⟨rfl,o⟩]
    ·rw[Yx _ _ (by omega),if_neg (λh=>e h.1)];exact r m F⟩,N⟩
 ·have T:(!(decide (0<=n) && decide (n<own.length)))=true:=by
   by_cases G:0<=n
   ·rw[decide_eq_true G,decide_eq_false (λh=>g ⟨G,h⟩)];rfl
   ·rw[decide_eq_false G];rfl
  have e1:Ex ⟨own,free⟩ n=1:=by unfold Ex;rw[if_pos (by simp only;omega)]
  rw[eN 1 e1 (by decide),e1];exact ζy ϱ (ζr func196 ϱ ⟨rfl,h,Xc.refl _ _⟩)
theorem Xky(n:Int)(w:World)(h : -9223372036854775808<=n+1/\n+1<=9223372036854775807):Xf prog 184 #[.int .i64 n] w (Za (.int .i64 (n+1)) w):=by
 exact ζe func184 ntmps184 ϱ (ζj ϱ (ζr func184 ϱ ⟨rfl,rfl⟩))
def Rp(P:Pl)(N:Nat):List Value:=[.slice (some ⟨P.ab,0,none⟩) N N,.int .i64 0,.int .i64 0,.func (.func 184) #[] #[]]
theorem XkA(P:Pl)(N k:Nat)(f:Nat->Int)(w:World)(h1:w.heap[P.pb]?=some (.cells (Rp P N).toArray 227 (0,0)))(h2:Ym w P.ab 280 (N*2) f)(hk:k<N)(hN:N<=1024):Xf prog 186 #[Ej P,.int .i64 k] w (λ_ w'=>Ym w' P.ab 280 (N*2) (Zj (Zj f (k*2) (-1)) (k*2+1) (k+1))/\Xc (λz=>z=P.ab) w w'):=by
 exact ζe func186 ntmps186 ϱ (ζd 12 Xe (by kernel_rfl) ϱ λa=>δl a h1 ϱ (δl a h1 ϱ (δw a (λw' g=>Xky k w' (by omega)) ϱ (Xd.build Xb a rfl rfl (δn a ϱ λe b=>ζi (k*2) ϱ (ζS ϱ (show e.heap[P.ab]?=some (.cells (Cd (N*2) f).toArray 280 (0,0)) from b.heap' h2) (Mm (i:=k*2) (by show 0+k*2=_;omega) (by omega)) ϱ λl c d j=>ζr func186 ϱ ⟨c,b.gr.trans d⟩))))))
def H0:Nat->Nat->Int
 |0=>λ_=>0
 |k+1=>Zj (Zj (H0 k) (k*2) (-1)) (k*2+1) (k+1)
theorem XgN:∀(k n:Nat),n<k->H0 k (n*2)=-1
 |k+1,n,h=>by
  show Zj (Zj (H0 k) (k*2) (-1)) (k*2+1) (k+1) (n*2)=-1
  rw[Yx _ _ (by omega)];by_cases e:n=k
  ·subst e;exact Dk ..
  ·rw[Yx _ _ (by omega)];exact XgN k n (by omega)
theorem XgM:∀(k n:Nat),n<k->H0 k (n*2+1)=n+1
 |k+1,n,h=>by
  show Zj (Zj (H0 k) (k*2) (-1)) (k*2+1) (k+1) (n*2+1)=n+1
  by_cases e:n=k
  ·subst e;exact Dk ..
  ·rw[Yx _ _ (by omega),Yx _ _ (by omega)];exact XgM k n (by omega)
theorem Xek(h:∀n,n<N->f (n*2+1)=n+1):∀(m k:Nat),k+m=N->I6 f N k (List.range' k m)
 |0,k,e=>by show(k:Int)=N;omega
 |m+1,k,e=>by
  rw[List.range'_succ];refine⟨rfl,?_⟩;rw[h k (by omega)];exact Xek h m (k+1) (by omega)
theorem Xkx(P:Pl)(N:Nat)(w:World)(h1:w.heap[P.pb]?=some (.cells (Rp P N).toArray 227 (0,0)))(h2:Ym w P.ab 280 (N*2) (H0 0))(hN:N<=1024):Xf prog 185 #[Ej P,.func (.func 186) #[Ej P] #[]] w (λ_ w'=>Ym w' P.ab 280 (N*2) (H0 N)/\Xc (λz=>z=P.ab) w w'):=by
 refine ζe func185 ntmps185 ϱ (ζl h1 ϱ ?_);refine Xa.loop (α:=Nat) (λk=>[(1,false,.func (.func 186) #[Ej P] #[]),(9,false,.int .i64 N),(10,false,.int .i64 k)])
  (λk w'=>k<=N/\Ym w' P.ab 280 (N*2) (H0 k)/\Xc (λz=>z=P.ab) w w') (λk=>N-k) 0 ⟨rfl,rfl,rfl,trivial⟩ ⟨XL _,h2,Xc.refl _ _⟩ ?_
 rintro k h ⟨i,b,a⟩ ih;refine ζa ϱ (ζg ϱ (λd=>?_) λd=>?_)
 ·have c:k<N:=by have:=of_decide_eq_true d;omega
  refine ζc ϱ (XkA P N k (H0 k) h (a.heap h1 (Fj h1 h2 (by decide))) b c hN) ?_;rintro _ j ⟨e,f⟩;exact ζa ϱ (ζj ϱ (ih (k+1) _ _ ⟨c,e,a.trans f⟩ (by omega) ⟨rfl,rfl,rfl,trivial⟩))
 ·have g:k=N:=by have:=of_decide_eq_false d;omega
  subst g;exact ζr func185 ϱ ⟨b,a⟩
theorem Xg8(t:Nat->Int)(ht:∀i,t i=0):∀n,Y6 [Value.int .i64 0,Value.int .i64 0] n=Cd (n*2) t
 |0=>rfl
 |n+1=>by
  have e:Cd ((n+1)*2) t=Cd (n*2) t++[.int .i64 0,.int .i64 0]:=by
   unfold Cd;rw[show(n+1)*2=n*2+1+1 by omega,YV,YV,XI,XI];simp[ht]
  have e2:∀m,Cd (m*2) t++[.int .i64 0,.int .i64 0]=[Value.int .i64 0,.int .i64 0]++Cd (m*2) t:=by
   intro m;have:Cd (m*2) t=List.replicate (m*2) (.int .i64 0):=by
    unfold Cd;rw[YA (g:=λ_=>Value.int .i64 0) (λi _=>by rw[ht]),List.map_const',YI]
   rw[this];show _++List.replicate 2 _=List.replicate 2 _++_
   rw[List.replicate_append_replicate,List.replicate_append_replicate,Nat.add_comm]
  rw[e,e2,Y6,Xg8 t ht n]
theorem Xkw(N:Nat)(w:World)(h:1<=N/\N<=1024):Xf prog 133 #[.int .i64 N] w
 (λv w'=>∃P,v=.tuple #[Ej P,.int .i64 0]/\(w.heap.size<=P.pb/\w.heap.size<=P.ab)/\Zz w' P (Df N)/\Xc Xe w w'):=by
 refine ζe func133 ntmps133 ϱ (ζf ϱ (ζf ϱ (Xa.make Xb (m:=N) (k:=N) rfl rfl rfl (XE _) (by first|omega|(show 16*N<=_;omega)) (by omega) λab p e1 c d s=>ζa ϱ (ζb ϱ (ζn ϱ λpb j e2 b f t=>?_)))));replace c:Ym p ab 280 (N*2) (H0 0):=by
  unfold Ym;rw[c];exact congrArg (λx:List Value=>some (Obj.cells x.toArray 280 (0,0))) (Xg8 (H0 0) (λ_=>rfl) N)
 replace b:j.heap[pb]?=some (.cells (Rp ⟨pb,ab⟩ N).toArray 227 (0,0)):=b;refine ζc ϱ (Xkx ⟨pb,ab⟩ N j b (show Ym _ _ _ _ _ from f.heap' c) h.2) ?_;rintro _ q ⟨l,g⟩;refine ζa ϱ ?_;have r:Xc Xe w q:=(d.trans f).since g (λz u e=>by have:z=ab:=e;omega);have o:=g.heap b (show ¬pb=ab by have:=d.size;omega);have a:(Df N).own.length=N:=XH;exact Xa.ret2 Xb rfl func133 rfl rfl rfl ⟨⟨pb,ab⟩,rfl,⟨by show _<=pb;omega,by show _<=ab;omega⟩,⟨Xks h,0,H0 N,by
  have e:Kz ⟨pb,ab⟩ (Df N).own 0=Rp ⟨pb,ab⟩ N:=by
   unfold Kz Rp;rw[a,show Xu (Df N).own=0 from Ht N];rfl
  rw[e];exact o,by rw[a];exact l,by
  rw[a];show I6 _ _ _ (List.range N)
  rw[List.range_eq_range'];exact Xek (XgM N) N 0 (by omega),λn i=>by
  rw[a] at i;rw[XgN N n i];show -1=(List.replicate N (-1)).getD n 0
  rw[XC,ZA,if_pos i];rfl⟩,r⟩
def B4:List Nat->Int
 |[]=>-1
 |a::_=>a
def Bd:Int->List Nat->Int
 |p,[]=>p
 |_,a::r=>Bd a r
def Ib(f:Nat->Int):Int->List Nat->Prop
 |_,[]=>True
 |p,a::r=>f (a*3)=p/\f (a*3+1)=B4 r/\Ib f a r
theorem Tp{f g:Nat->Int}:∀{l:List Nat} {p:Int},(∀a∈l,f (a*3)=g (a*3)/\f (a*3+1)=g (a*3+1))->Ib f p l->Ib g p l
 |[],_,_,h=>h
 |a::r,p,c,h=>by
  obtain⟨e1,e2⟩:=c a (by simp);exact⟨e1▸h.1,e2▸h.2.1,Tp (λb d=>c b (by simp[d])) h.2.2⟩
theorem XaE:∀(p:Int) (l:List Nat) (n:Nat) (r:List Nat),Bd p (l++n::r)=Bd n r
 |p,[],n,r=>rfl
 |p,a::l,n,r=>XaE a l n r
theorem I5:∀(p:Int) (l:List Nat),(l=[]/\Bd p l=p)\/∃a∈l,Bd p l=(a:Int)/\∃l',l=l'++[a]
 |p,[]=>.inl ⟨rfl,rfl⟩
 |p,a::r=>by
  rcases I5 a r with⟨rfl,h⟩|⟨b,hb,h,l',e⟩
  ·exact .inr ⟨a,by simp,rfl,[],rfl⟩
  ·exact .inr ⟨b,by simp[hb],h,a::l',by rw[e];rfl⟩
def Hk(f:Nat->Int)(pr nx:Int):Nat->Int:=
 let f1:=if pr=-1 then f else Zj f (pr.toNat*3+1) nx
 if nx=-1 then f1 else Zj f1 (nx.toNat*3) pr
theorem Nt{pr nx:Int}(h1:pr=-1\/j≠pr.toNat*3+1)(h2:nx=-1\/j≠nx.toNat*3):Hk f pr nx j=f j:=by
 unfold Hk;by_cases b:pr=-1
 ·rw[if_pos b];by_cases a:nx=-1
  ·rw[if_pos a]
  ·rw[if_neg a,Yx _ _ (by omega)]
 ·rw[if_neg b];by_cases a:nx=-1
  ·rw[if_pos a,Yx _ _ (by omega)]
  ·rw[if_neg a,Yx _ _ (by omega),Yx _ _ (by omega)]
theorem XiA{a:Nat}{nx:Int}:Hk f a nx (a*3+1)=nx:=by
 unfold Hk;rw[if_neg (show ¬(a:Int)=-1 by omega)];by_cases b:nx=-1
 ·rw[if_pos b];exact Dk f (a*3+1) nx
 ·rw[if_neg b,Yx _ _ (by omega)];exact Dk f (a*3+1) nx
theorem Xiz{pr:Int}:Hk f pr b (b*3)=pr:=by
 unfold Hk;rw[if_neg (show ¬(b:Int)=-1 by omega)];exact Dk _ (b*3) pr
theorem Xem{f:Nat->Int}{n:Nat}{l2:List Nat}:∀(l1:List Nat) (p:Int),(l1++n::l2).Nodup->Ib f p (l1++n::l2)->(p=-1\/∃q:Nat,p=q/\q∉l1++n::l2)->Ib (Hk f (Bd p l1) (B4 l2)) p (l1++l2)
 |[],p,d,h,w=>by
  obtain⟨_,_,y⟩:=h;cases l2 with
  |nil=>trivial
  |cons b r=>
   obtain⟨x,l,m⟩:=y;have o:=(List.nodup_cons.1 (List.nodup_cons.1 d).2);show Ib (Hk f p b) p (b::r)
   have g:∀a∈b::r,p=-1\/a*3+1≠p.toNat*3+1:=λa k=>by
    rcases w with h|⟨q,rfl,A⟩
    ·exact .inl h
    ·refine .inr λe=>A ?_;have:a=q:=by omega
     exact this▸ZF _ k
   refine⟨Xiz,?_,?_⟩
   ·rw[Nt (j:=b*3+1) (nx:=(b:Int)) (g b (by simp)) (.inr (by omega))];exact l
   ·refine Tp (λa k=>⟨?_,?_⟩) m
    ·rw[Nt (j:=a*3) (nx:=(b:Int)) (.inr (by omega)) (.inr (λe=>o.1 ((by omega:a=b)▸k)))]
    ·rw[Nt (j:=a*3+1) (nx:=(b:Int)) (g a (by simp[k])) (.inr (by omega))]
 |a::t,p,d,h,w=>by
  obtain⟨x,l,m⟩:=h;obtain⟨i,u⟩:=List.nodup_cons.1 d;have ih:=Xem t a u m (.inr ⟨a,rfl,i⟩);show Ib (Hk f (Bd a t) (B4 l2)) p (a::(t++l2))
  refine⟨?_,?_,ih⟩
  ·rw[Nt (j:=a*3) ?_ ?_]
   ·exact x
   ·rcases I5 a t with⟨_,h⟩|⟨z,_,h,_⟩ <;> rw[h] <;> exact .inr (by omega)
   ·cases l2 with
    |nil=>exact .inl rfl
    |cons b r=>
     refine .inr λe=>i ?_;have:a=b:=by simp only[B4] at e;omega
     rw[this];simp
  ·cases t with
   |nil=>exact XiA
   |cons c s=>
    have B:∃z∈c::s,Bd a (c::s)=(z:Int):=by
     rcases I5 a (c::s) with⟨h,_⟩|⟨z,v,e,_⟩
     ·cases h
     ·exact⟨z,v,e⟩
    obtain⟨z,v,ez⟩:=B;rw[ez,Nt (j:=a*3+1) (pr:=(z:Int)) (.inr (λe=>i ((by omega:a=z)▸QF _ v))) ?_]
    ·exact l
    ·cases l2 with
     |nil=>exact .inl rfl
     |cons b r=>exact .inr (by omega)
structure Rg where
 lb:Nat
 ab:Nat
 nb:Nat
def J3(R:Rg):List Value:=[.slice (some ⟨R.ab,0,none⟩) 1 1,.slice (some ⟨R.nb,0,none⟩) 1024 1024]
abbrev Hx(R:Rg):Value:=.pointer (some ⟨R.lb,0,none⟩)
def Gy(R:Rg):Nat->Prop:=λz=>z=R.ab\/z=R.nb
structure C8(w:World)(R:Rg)(o:List Nat):Prop where
 obj:w.heap[R.lb]?=some (.cells (J3 R).toArray 290 (0,0))
 nodup:o.Nodup
 lt:∀n∈o,n<1024
 at':∃g f,Ym w R.ab 275 3 g/\Ym w R.nb 292 3072 f/\g 0=B4 o/\g 1=Bd (-1) o/\g 2=o.length/\Ib f (-1) o/\∀n,n<1024->f (n*3+2)=if n∈o then 0 else -1
theorem C8.chg{R:Rg}{o:List Nat}(h:C8 w R o)(hc:Xc S w w')(h1:¬S R.lb)(h2:¬S R.ab)(h3:¬S R.nb):C8 w' R o:=by
 obtain⟨g,f,a,b,c⟩:=h.at';exact⟨hc.heap h.obj h1,h.nodup,h.lt,g,f,hc.heap a h2,hc.heap b h3,c⟩
theorem C8.grow{R:Rg}{o:List Nat}(h:C8 w R o)(hc:Xc Xe w w'):C8 w' R o:=h.chg hc id id id
theorem C8.blt{R:Rg}{o:List Nat}(h:C8 w R o):R.lb<w.heap.size/\R.ab<w.heap.size/\R.nb<w.heap.size:=by
 obtain⟨g,f,a,b,c⟩:=h.at';exact⟨Xg h.obj,Xg a,Xg b⟩
theorem Rx(R:Rg)(w:World)(h:w.heap[R.lb]?=some (.cells (J3 R).toArray 290 (0,0))):Xf prog 214 #[Hx R,.int .i64 0] w (Za (.pointer (some ⟨R.ab,0,none⟩)) w):=by
 exact ζe func214 ntmps214 ϱ (ζf ϱ (ζl h ϱ (ζf ϱ (ζl h ϱ (ζi 0 ϱ (ζr func214 ϱ ⟨rfl,rfl⟩))))))
theorem XfG(R:Rg)(n:Nat)(w:World)(h:w.heap[R.lb]?=some (.cells (J3 R).toArray 290 (0,0)))(hn:n<1024):Xf prog 257 #[Hx R,.int .i64 n] w (Za (.pointer (some ⟨R.nb,0+n*3,none⟩)) w):=by
 exact ζe func257 ntmps257 ϱ (ζf ϱ (ζl h ϱ (ζf ϱ (ζl h ϱ (ζi (n*3) ϱ (ζr func257 ϱ ⟨rfl,rfl⟩))))))
theorem XbA(b:Nat)(t:TypeId)(len:Nat)(f:Nat->Int)(way:Nat)(w:World)(h:Ym w b t len f)(hw:way<=1)(hl:way<len):Xf prog 250 #[.pointer (some ⟨b,0,none⟩),.int .i64 way] w (Za (.int .i64 (f way)) w):=by
 exact ζe func250 ntmps250 ϱ (ζi way ϱ (ζk ϱ (Ec h (k:=way) (by show 0+0+way=_;omega) hl) ϱ (ζr func250 ϱ ⟨rfl,rfl⟩)))
theorem XfJ(R:Rg)(g:Nat->Int)(way:Nat)(to:Int)(w:World)(h:Ym w R.ab 275 3 g)(hw:way<=1):Xf prog 258 #[Hx R,.pointer (some ⟨R.ab,0,none⟩),.int .i64 (-1),.int .i64 way,.int .i64 to] w (λ_ w'=>Ym w' R.ab 275 3 (Zj g (1-way) to)/\Xc (λz=>z=R.ab) w w'):=by
 exact ζe func258 ntmps258 ϱ (ζy ϱ (ζj ϱ (ζi (1-way) ϱ (ζS ϱ h (Ip (i:=1-way) (by show 0+0+(1-way)=_;omega) (by omega)) ϱ λd b a c=>ζr func258 ϱ ⟨b,a⟩))))
theorem XfI(R:Rg)(f:Nat->Int)(a way:Nat)(to:Int)(w:World)(h0:w.heap[R.lb]?=some (.cells (J3 R).toArray 290 (0,0)))(h:Ym w R.nb 292 3072 f)(hw:way<=1)(ha:a<1024):Xf prog 258 #[Hx R,.pointer (some ⟨R.ab,0,none⟩),.int .i64 a,.int .i64 way,.int .i64 to] w (λ_ w'=>Ym w' R.nb 292 3072 (Zj f (a*3+way) to)/\Xc (λz=>z=R.nb) w w'):=by
 exact ζe func258 ntmps258 ϱ (ζF ϱ (by simp) (ζl h0 ϱ (ζi (a*3) ϱ (ζi way ϱ (ζS ϱ h (Ip (i:=a*3+way) (by show 0+a*3+0+way=_;omega) (by omega)) ϱ λe c b d=>ζr func258 ϱ ⟨c,b⟩)))))
theorem XfE(R:Rg)(o:List Nat)(w:World)(h:C8 w R o):Xf prog 216 #[Hx R,.int .i64 0] w (Za (.int .i64 (B4 o)) w):=by
 obtain⟨g,f,a,c,b,e1,e2,d,e⟩:=h.at';exact ζe func216 ntmps216 ϱ (ζw (Rx R w h.obj) ϱ (ζw (XbA R.ab _ 3 g 0 w a (by omega) (by omega)) ϱ (ζr func216 ϱ ⟨X0 b,rfl⟩)))
theorem Xlw(R:Rg)(o:List Nat)(w:World)(h:C8 w R o):Xf prog 215 #[Hx R,.int .i64 0] w (Za (.int .i64 (Bd (-1) o)) w):=by
 obtain⟨g,f,a,b,c,e1,e2,d,e⟩:=h.at';exact ζe func215 ntmps215 ϱ (ζw (Rx R w h.obj) ϱ (ζw (XbA R.ab _ 3 g 1 w a (by omega) (by omega)) ϱ (ζr func215 ϱ ⟨X0 e1,rfl⟩)))
theorem Xlx(R:Rg)(o:List Nat)(w:World)(h:C8 w R o):Xf prog 172 #[Hx R,.int .i64 0] w (Za (.int .i64 (o.length:Nat)) w):=by
 obtain⟨g,f,a,b,c,e1,e2,d,e⟩:=h.at';exact ζe func172 ntmps172 ϱ (ζw (Rx R w h.obj) ϱ (ζk ϱ (Ec a (k:=2) rfl (by omega)) ϱ (ζr func172 ϱ ⟨X0 e2,rfl⟩)))
theorem XfF(R:Rg)(o:List Nat)(n:Nat)(w:World)(h:C8 w R o)(hn:n<1024)(hno:n∉o)(hlo:o.length<=4096):Xf prog 254 #[Hx R,.int .i64 0,.int .i64 n] w (λv w'=>v=.int .i64 0/\C8 w' R (n::o)/\Xc (Gy R) w w'):=by
 obtain⟨g,f,L,M,e0,e1,e2,hl,T⟩:=h.at';have C:=h.obj;have y:R.nb≠R.ab:=Fj M L (by decide);have N:R.lb≠R.ab:=Fj C L (by decide);have O:R.lb≠R.nb:=Fj C M (by decide);have U:f (n*3+2)=-1:=by rw[T n hn,if_neg hno]
 refine ζe func254 ntmps254 ϱ (ζw (Rx R w C) ϱ (ζw (XfG R n w C hn) ϱ (ζk ϱ (Ec M (k:=n*3+2) (by show 0+n*3+2=_;omega) (by omega)) ϱ ?_)));rw[U];refine ζf ϱ (ζw (XbA R.ab _ 3 g 0 w L (by omega) (by omega)) ϱ ?_);rw[e0];refine ζb ϱ (ζS ϱ M (Ip (i:=n*3+2) (by show 0+n*3+2=_;omega) (by omega)) ϱ λw1 V W al=>ζS ϱ V (Mm (i:=n*3) (by show 0+n*3+0=_;omega) (by omega)) ϱ λD A a0 am=>?_);have q:=W.trans a0;have P:Ym D R.ab 275 3 g:=q.heap L y.symm;have E:=q.heap C O;have key:∀(g' f':Nat->Int) (d:World),Ym d R.ab 275 3 g'->Ym d R.nb 292 3072 f'->d.heap[R.lb]?=some (.cells (J3 R).toArray 290 (0,0))->Xc (Gy R) w d ->
  g' 0=n->g' 1=Bd (-1) (n::o)->g' 2=o.length+1->Ib f' (-1) (n::o)->(∀m,m<1024->f' (m*3+2)=if m∈n::o then 0 else -1)->C8 d R (n::o)/\Xc (Gy R) w d:=λg' f' d k1 k2 k3 k4 k5 k6 k7 k8 k9=>
  ⟨⟨k3,List.nodup_cons.2 ⟨hno,h.nodup⟩,λm hm=>by rcases List.mem_cons.1 hm with rfl|hm;exact hn;exact h.lt m hm,g',f',k1,k2,k5,k6,by rw[k7];simp,k8,k9⟩,k4⟩
 have F:∀m,m<1024->(Zj (Zj (Zj f (n*3+2) 0) (n*3) (-1)) (n*3+1) (B4 o)) (m*3+2)=if m∈n::o then 0 else -1:=λm hm=>by
  rw[Yx _ _ (by omega),Yx _ _ (by omega)];by_cases e:m=n
  ·subst e;rw[Dk,if_pos (by simp)]
  ·rw[Yx _ _ (by omega),T m hm];simp[e]
 have B:∀j,j≠n*3+2->j≠n*3->j≠n*3+1->(Zj (Zj (Zj f (n*3+2) 0) (n*3) (-1)) (n*3+1) (B4 o)) j=f j:=λj a b c=>by rw[Yx _ _ c,Yx _ _ b,Yx _ _ a]
 have s:(Zj (Zj (Zj f (n*3+2) 0) (n*3) (-1)) (n*3+1) (B4 o)) (n*3)=-1:=by rw[Yx _ _ (by omega),Dk]
 have t:(Zj (Zj (Zj f (n*3+2) 0) (n*3) (-1)) (n*3+1) (B4 o)) (n*3+1)=B4 o:=Dk ..;have Q:Xc (Gy R) w D:=q.mono λz _ e=>.inr e;obtain⟨f2,G⟩:∃f2,f2=Zj (Zj (Zj f (n*3+2) 0) (n*3) (-1)) (n*3+1) (B4 o):=⟨_,rfl⟩;rw[<-G] at F B s t;replace A:Ym D R.nb 292 3072 f2:=by rw[G];exact A
 cases o with
 |nil=>
  refine ζc ϱ (XfJ R g 0 n D P (by omega)) ?_;rintro _ d ⟨H,l⟩;refine ζa ϱ (ζi 0 ϱ (ζS ϱ H (Ip (i:=0) rfl (by omega)) ϱ λw4 p I a1=>ζk ϱ (Ec p (k:=2) rfl (by omega)) ϱ ?_));have eg:Zj (Zj g (1-0) n) 0 n 2=0:=by rw[Yx _ _ (by decide),Yx _ _ (by decide),e2];rfl
  rw[eg];refine ζj ϱ (ζS ϱ p (Ip (i:=2) rfl (by omega)) ϱ λS J K a2=>?_);have u:=(l.trans I).trans K;exact ζr func254 ϱ ⟨rfl,key _ f2 S J (u.heap A y) (u.heap E N) (Q.trans (u.mono λz _ e=>.inl e)) (by rw[Yx _ _ (by decide),Dk]) (by rw[Yx _ _ (by decide),Yx _ _ (by decide)];exact Dk g 1 n) (by rw[Dk];rfl) ⟨s,t,trivial⟩ F⟩
 |cons a r=>
  have an:a≠n:=λe=>hno (e▸ZI);have a3:=h.lt a (by simp);refine ζc ϱ (XfI R f2 a 0 n D E A (by omega) a3) ?_;rintro _ d ⟨a4,l⟩;refine ζa ϱ ?_;have H:Ym d R.ab 275 3 g:=l.heap P y.symm;refine ζi 0 ϱ (ζS ϱ H (Ip (i:=0) rfl (by omega)) ϱ λw4 p I a1=>ζk ϱ (Ec p (k:=2) rfl (by omega)) ϱ ?_);have eg:Zj g 0 n 2=(a::r).length:=by rw[Yx _ _ (by decide),e2]
  rw[eg];refine ζJ ϱ (by simp only[XM] at hlo⊢;omega) (ζS ϱ p (Ip (i:=2) rfl (by omega)) ϱ λS J K a2=>?_);have x:=I.trans K;have a5:Ib (Zj f2 (a*3+0) n) (-1) (n::a::r):=by
   refine⟨by rw[Yx _ _ (by omega)];exact s,by rw[Yx _ _ (by omega)];exact t,?_⟩;obtain⟨l1,l2,l3⟩:=hl;refine⟨Dk ..,?_,?_⟩
   ·rw[Yx _ _ (by omega),B _ (by omega) (by omega) (by omega)];exact l2
   ·refine Tp (λb hb=>?_) l3;have ao:b≠n:=λe=>hno (e▸ZF _ hb);have ap:b≠a:=λe=>(List.nodup_cons.1 h.nodup).1 (e▸hb);exact⟨by rw[Yx _ _ (by omega),B _ (by omega) (by omega) (by omega)],by rw[Yx _ _ (by omega),B _ (by omega) (by omega) (by omega)]⟩
  exact ζr func254 ϱ ⟨rfl,key _ _ S J (x.heap a4 y) (x.heap (l.heap E O) N) ((Q.trans (l.mono λz _ e=>.inr e)).trans (x.mono λz _ e=>.inl e)) (by rw[Yx _ _ (by decide),Dk]) (by rw[Yx _ _ (by decide),Yx _ _ (by decide),e1];try rfl) (by rw[Dk]) a5 (λm hm=>by rw[Yx _ _ (by omega)];exact F m hm)⟩
theorem Xel:∀(l1:List Nat) (p:Int),Ib f p (l1++n::l2)->f (n*3)=Bd p l1/\f (n*3+1)=B4 l2
 |[],_,h=>⟨h.1,h.2.1⟩
 |a::t,_,h=>Xel t a h.2.2
def Mt(g:Nat->Int)(a:Int)(way:Nat)(to:Int):Nat->Int:=if a=-1 then Zj g (1-way) to else g
def Lc(f:Nat->Int)(a:Int)(way:Nat)(to:Int):Nat->Int:=if a=-1 then f else Zj f (a.toNat*3+way) to
theorem XfH(R:Rg)(g f:Nat->Int)(a:Int)(way:Nat)(to:Int)(w:World)(h0:w.heap[R.lb]?=some (.cells (J3 R).toArray 290 (0,0)))(h1:Ym w R.ab 275 3 g)(h2:Ym w R.nb 292 3072 f)(hw:way<=1)(ha:a=-1\/∃k:Nat,a=k/\k<1024):Xf prog 258 #[Hx R,.pointer (some ⟨R.ab,0,none⟩),.int .i64 a,.int .i64 way,.int .i64 to] w (λ_ w'=>Ym w' R.ab 275 3 (Mt g a way to)/\Ym w' R.nb 292 3072 (Lc f a way to)/\w'.heap[R.lb]?=some (.cells (J3 R).toArray 290 (0,0))/\Xc (Gy R) w w'):=by
 have c:=Fj h2 h1 (by decide);rcases ha with rfl|⟨k,rfl,h⟩
 ·exact(XfJ R g way to w h1 hw).mono λ_ w' ⟨d,b⟩=>⟨d,b.heap h2 c,b.heap h0 (Fj h0 h1 (by decide)),b.mono λz _ e=>.inl e⟩
 ·refine(XfI R f k way to w h0 h2 hw h).mono λ_ w' ⟨d,b⟩=>⟨?_,?_,b.heap h0 (Fj h0 h2 (by decide)),b.mono λz _ e=>.inr e⟩
  ·unfold Mt;rw[if_neg (by omega)];exact b.heap h1 c.symm
  ·unfold Lc;rw[if_neg (by omega)];exact d
theorem Xji(l:List Nat)(hl:∀n∈l,n<1024):Bd (-1) l=-1\/∃k:Nat,Bd (-1) l=k/\k<1024:=by
 rcases I5 (-1) l with⟨_,h⟩|⟨a,b,h,_⟩
 ·exact .inl h
 ·exact .inr ⟨a,h,hl a b⟩
theorem Xi2(l:List Nat)(hl:∀n∈l,n<1024):B4 l=-1\/∃k:Nat,B4 l=k/\k<1024:=by
 cases l with
 |nil=>exact .inl rfl
 |cons a r=>exact .inr ⟨a,rfl,hl a (by simp)⟩
theorem Xjj{l:List Nat}(h:Bd (-1) l=-1):l=[]:=by
 rcases I5 (-1) l with⟨e,_⟩|⟨a,_,b,_⟩
 ·exact e
 ·omega
theorem Xi3{l:List Nat}(h:B4 l=-1):l=[]:=by
 cases l with
 |nil=>rfl
 |cons a r=>have:(a:Int)=-1:=h;omega
theorem Uj(R:Rg)(l1 l2:List Nat)(n:Nat)(w:World)(h:C8 w R (l1++n::l2))(hlo:(l1++n::l2).length<=4096):Xf prog 224 #[Hx R,.int .i64 n] w (λv w'=>v=.int .i64 0/\C8 w' R (l1++l2)/\Xc (Gy R) w w'):=by
 obtain⟨g,f,h1,C,e0,e1,e2,W,ho⟩:=h.at';have S:=h.obj;have hn:=h.lt n (by simp);have u:=h.nodup;have M:n∉l1:=λd=>(List.nodup_append.1 u).2.2 n d n (by simp) rfl;have N:=(List.nodup_cons.1 (List.nodup_append.1 u).2.1).1;have O:n∉l1++l2:=λd=>by rcases List.mem_append.1 d with h|h;exact M h;exact N h
 have P:f (n*3+2)=0:=by rw[ho n hn,if_pos (by simp)]
 obtain⟨ea,en⟩:=Xel l1 (-1) W;have T:=Xji l1 (λm d=>h.lt m (by simp[d]));have U:=Xi2 l2 (λm d=>h.lt m (by simp[d]));have D:=Xem l1 (-1) u W (.inl rfl);obtain⟨pr,o⟩:∃pr,pr=Bd (-1) l1:=⟨_,rfl⟩;obtain⟨nx,p⟩:∃nx,nx=B4 l2:=⟨_,rfl⟩;rw[<-o] at ea T D;rw[<-p] at en U D;have V:pr=-1\/pr.toNat≠n:=by
  rcases I5 (-1) l1 with⟨_,h⟩|⟨a,E,h,_⟩
  ·exact .inl (by rw[o,h])
  ·exact .inr (λe=>M (by rw[o,h] at e;exact(show a=n from e)▸E))
 have ae:nx=-1\/nx.toNat≠n:=by
  cases l2 with
  |nil=>exact .inl p
  |cons b r=>exact .inr (λe=>N (by rw[p] at e;exact(show b=n from e)▸ZI))
 refine ζe func224 ntmps224 ϱ (ζw (XfG R n w S hn) ϱ (ζk ϱ (Ec C (k:=n*3+2) (by show 0+n*3+2=_;omega) (by omega)) ϱ ?_));rw[P];refine ζf ϱ (ζk ϱ (Ec C (k:=n*3+2) (by show 0+n*3+2=_;omega) (by omega)) ϱ ?_);rw[P];refine ζw (Rx R w S) ϱ (ζd 12 Xe (by kernel_rfl) ϱ λl=>δi 0 l ϱ (δk l (Ec C (k:=n*3) (by show 0+n*3+0+0=_;omega) (by omega)) ϱ (δi 1 l ϱ (δk l (Ec C (k:=n*3+1) (by show 0+n*3+0+1=_;omega) (by omega)) ϱ (δn l ϱ λw1 x=>?_)))));rw[ea,en];refine ζc ϱ (XfH R g f pr 1 nx w1 (x.heap' S) (x.heap' h1) (x.heap' C) (by omega) T) ?_;rintro _ w2 ⟨a2,F,a3,a4⟩;have k1:Lc f pr 1 nx (n*3+1)=nx:=by
  unfold Lc;by_cases B:pr=-1
  ·rw[if_pos B];exact en
  ·rw[if_neg B,Yx _ _ (by rcases V with h|h;exact absurd h B;omega)];exact en
 have k2:Lc f pr 1 nx (n*3)=pr:=by
  unfold Lc;by_cases B:pr=-1
  ·rw[if_pos B];exact ea
  ·rw[if_neg B,Yx _ _ (by omega)];exact ea
 refine ζa ϱ (ζd 12 Xe (by kernel_rfl) ϱ λl=>δi 1 l ϱ (δk l (Ec F (k:=n*3+1) (by show 0+n*3+0+1=_;omega) (by omega)) ϱ (δi 0 l ϱ (δk l (Ec F (k:=n*3) (by show 0+n*3+0+0=_;omega) (by omega)) ϱ (δn l ϱ λw3 y=>?_)))));rw[k1,k2];refine ζc ϱ (XfH R _ _ nx 0 pr w3 (y.heap' a3) (y.heap' a2) (y.heap' F) (by omega) U) ?_;rintro _ w4 ⟨q,A,H,a5⟩;refine ζa ϱ ?_;have hF:Lc (Lc f pr 1 nx) nx 0 pr=Hk f pr nx:=rfl;rw[hF] at A;obtain⟨G,L⟩:∃G,G=Mt (Mt g pr 1 nx) nx 0 pr:=⟨_,rfl⟩;rw[<-L] at q;have G2:G 2=(l1++n::l2).length:=by
  rw[L];unfold Mt;by_cases a:pr=-1 <;> by_cases b:nx=-1 <;> simp[a,b,Zj,e2]
 have G0:G 0=B4 (l1++l2):=by
  rw[L];unfold Mt;by_cases a:pr=-1
  ·have:l1=[]:=Xjj (o▸a);subst this;by_cases b:nx=-1 <;> simp[a,b,Zj] <;> rw[<-p] <;> simp[b]
  ·have I:l1≠[]:=λe=>a (by rw[o,e];rfl);obtain⟨c,t,rfl⟩:=List.exists_cons_of_ne_nil I;have:g 0=c:=e0;by_cases b:nx=-1 <;> simp[a,b,Zj,this] <;> rfl
 have G1:G 1=Bd (-1) (l1++l2):=by
  rw[L];unfold Mt;by_cases b:nx=-1
  ·have:l2=[]:=Xi3 (p▸b);subst this;rw[ZO,<-o];by_cases a:pr=-1 <;> simp[a,b,Zj]
  ·have I:l2≠[]:=λe=>b (by rw[p,e];rfl);obtain⟨c,t,rfl⟩:=List.exists_cons_of_ne_nil I;have a6:g 1=Bd (-1) (l1++c::t):=by rw[e1,XaE,XaE];rfl
   rw[<-a6];by_cases a:pr=-1 <;> simp[a,b,Zj]
 refine ζk ϱ (Ec q (k:=2) rfl (by omega)) ϱ ?_;rw[G2];have Q:=Fj A q (by decide);refine ζj ϱ (ζS ϱ q (Ip (i:=2) rfl (by omega)) ϱ λw5 a7 J ao=>ζb ϱ (ζS ϱ (J.heap A Q) (Ip (i:=n*3+2) (by show 0+n*3+2=_;omega) (by omega)) ϱ λw6 a8 a9 ap=>ζS ϱ a8 (Mm (i:=n*3) (by show 0+n*3+0=_;omega) (by omega)) ϱ λw7 aa ab aq=>?_));have s:=a9.trans ab;have K:∀j,j≠n*3+2->j≠n*3->j≠n*3+1->(Zj (Zj (Zj (Hk f pr nx) (n*3+2) (-1)) (n*3) (-1)) (n*3+1) (-1)) j=Hk f pr nx j:=λj a b c=>by rw[Yx _ _ c,Yx _ _ b,Yx _ _ a]
 exact Xa.ret1 Xb rfl func224 rfl rfl ⟨rfl,⟨s.heap (J.heap H (Fj H q (by decide))) (Fj H A (by decide)),by
  have:=u;rw[List.nodup_append] at this⊢;exact⟨this.1,(List.nodup_cons.1 this.2.1).2,λa E b hb=>this.2.2 a E b (by simp[hb])⟩,λm d=>h.lt m (by rcases List.mem_append.1 d with h|h <;> simp[h]),_,_,s.heap a7 Q.symm,aa,by rw[Yx _ _ (by decide)];exact G0,by rw[Yx _ _ (by decide)];exact G1,by rw[Dk];simp;omega,Tp (λa E=>by
  have:a≠n:=λe=>O (e▸E);exact⟨(K _ (by omega) (by omega) (by omega)).symm,(K _ (by omega) (by omega) (by omega)).symm⟩) D,λm d=>by
  by_cases e:m=n
  ·subst e;rw[Yx _ _ (by omega),Yx _ _ (by omega),Dk,if_neg O]
  ·rw[K _ (by omega) (by omega) (by omega),Nt (by rcases T with h|⟨k,h,_⟩;exact .inl h;exact .inr (by omega)) (by rcases U with h|⟨k,h,_⟩;exact .inl h;exact .inr (by omega)),ho m d];simp[e]⟩,(((x.gr.trans a4).trans (y.gr.trans a5)).trans (J.mono λz _ e=>.inl e)).trans (s.mono λz _ e=>.inr e)⟩
theorem Va(n:Nat)(t:Nat->Int)(ht:∀i,t i=0):Cd n t=List.replicate n (.int .i64 0):=by
 unfold Cd;rw[YA (g:=λ_=>Value.int .i64 0) (λi _=>by rw[ht]),List.map_const',YI]
theorem Sb(c:Nat):∀n,Y6 (List.replicate c (Value.int .i64 0)) n=List.replicate (n*c) (Value.int .i64 0)
 |0=>by rw[Nat.zero_mul];rfl
 |n+1=>by rw[Y6,Sb c n,List.replicate_append_replicate,QO,Nat.add_comm]
def Gq:Nat->Nat->Int
 |0=>λ_=>0
 |k+1=>Zj (Zj (Zj (Gq k) (k*3) (-1)) (k*3+1) (-1)) (k*3+2) (-1)
theorem Xaz:∀(k n:Nat),n<k->Gq k (n*3+2)=-1
 |k+1,n,h=>by
  show Zj (Zj (Zj (Gq k) (k*3) (-1)) (k*3+1) (-1)) (k*3+2) (-1) (n*3+2)=-1
  by_cases e:n=k
  ·subst e;exact Dk ..
  ·rw[Yx _ _ (by omega),Yx _ _ (by omega),Yx _ _ (by omega)];exact Xaz k n (by omega)
def Ju:Nat->Nat->Int
 |0=>λ_=>0
 |k+1=>Zj (Zj (Ju k) (k*3) (-1)) (k*3+1) (-1)
theorem Xly(w:World):Xf prog 188 #[.int .i64 1024,.int .i64 1] w
 (λv w'=>∃R,v=.tuple #[Hx R,.int .i64 0]/\(w.heap.size<=R.lb/\w.heap.size<=R.ab/\w.heap.size<=R.nb)/\C8 w' R []/\Xc Xe w w'):=by
 refine ζe func188 ntmps188 ϱ (ζf ϱ (ζf ϱ (ζf ϱ (ζf ϱ (ζd 4 Xe (by kernel_rfl) ϱ λp=>?_)))));refine Xd.turn2 p rfl ?_ ?_
 ·intro w1 r;refine Xr.make Xb p rfl (m:=1) (kk:=1) rfl rfl (XE _) (by decide) (by decide) (λ_=>rfl) λab w2 e2 b B Q=>Xd.turn1 p rfl λw3 g=>Xr.make Xb p rfl (m:=1024) (kk:=1024) rfl rfl (XE _) (by decide) (by decide) (λ_=>rfl) λnb w4 e4 c s S=>?_;have T:=r.size;have U:=g.size;refine δn p ϱ λC j=>?_;replace b:Ym C ab 275 3 (Ju 0):=by
   have:=((g.trans s).trans j).heap' b;rw[show Y6 (Y9 (Value.agg #[Value.int .i64 0,Value.int .i64 0,Value.int .i64 0])) 1=_ from Sb 3 1] at this;unfold Ym;rw[Va 3 (Ju 0) (λ_=>rfl)];exact this
  replace c:Ym C nb 292 3072 (Gq 0):=by
   have:=(j).heap' c;rw[show Y6 (Y9 (Value.agg #[Value.int .i64 0,Value.int .i64 0,Value.int .i64 0])) 1024=_ from Sb 3 1024] at this;unfold Ym;rw[Va 3072 (Gq 0) (λ_=>rfl)];exact this
  have t:=(((r.trans B).trans g).trans s).trans j;have u:=Fj b c (by decide);have H:=Xg b;have I:=Xg c;have J:=t.size;refine ζb ϱ (ζn ϱ λlb K e6 l n V=>?_);refine ζl l ϱ ?_;refine Xa.loop (α:=Nat) (λk=>[(6,false,.pointer (some ⟨lb,0,none⟩)),(33,false,.int .i64 1),(34,false,.int .i64 k)])
   (λk w'=>k<=1/\Ym w' ab 275 3 (Ju k)/\Xc (λz=>z=ab) K w') (λk=>1-k) 0 ⟨rfl,rfl,rfl,trivial⟩ ⟨XL _,n.heap' b,Xc.refl _ _⟩ ?_
  rintro k L ⟨hk,D,d⟩ ih;refine ζa ϱ (ζg ϱ (λx=>?_) λx=>?_)
  ·have o:k<1:=by have:=of_decide_eq_true x;omega
   exact ζl (d.heap l (by omega)) ϱ (ζb ϱ (ζi (k*3) ϱ (ζS ϱ D (Mm (i:=k*3) (by show 0+k*3+0+0=_;omega) (by omega)) ϱ λM q a W=>ζj ϱ (ih (k+1) _ _ ⟨o,q,d.trans a⟩ (by omega) ⟨rfl,rfl,rfl,trivial⟩))))
  have E:k=1:=by have:=of_decide_eq_false x;omega
  subst E;have f:=d.heap l (by omega);refine ζl f ϱ ?_;refine Xa.loop (α:=Nat) (λk=>[(6,false,.pointer (some ⟨lb,0,none⟩)),(51,false,.int .i64 1024),(52,false,.int .i64 k)])
   (λk w'=>k<=1024/\Ym w' nb 292 3072 (Gq k)/\Xc (λz=>z=nb) L w') (λk=>1024-k) 0 ⟨rfl,rfl,rfl,trivial⟩ ⟨XL _,(d.heap (n.heap' c) u.symm),Xc.refl _ _⟩ ?_
  rintro k M ⟨a0,q,a⟩ F;refine ζa ϱ (ζg ϱ (λy=>?_) λy=>?_)
  ·have o:k<1024:=by have:=of_decide_eq_true y;omega
   exact ζl (a.heap f (by omega)) ϱ (ζb ϱ (ζb ϱ (ζi (k*3) ϱ (ζS ϱ q (XfY (i:=k*3) (by show 0+k*3=_;omega) (by omega)) ϱ λw9 N G a1=>ζj ϱ (F (k+1) _ _ ⟨o,N,a.trans G⟩ (by omega) ⟨rfl,rfl,rfl,trivial⟩)))))
  have A:k=1024:=by have:=of_decide_eq_false y;omega
  subst A;exact ζr func188 ϱ ⟨⟨lb,ab,nb⟩,rfl,⟨by show _<=lb;omega,by show _<=ab;omega,by show _<=nb;omega⟩,⟨a.heap f (by show ¬lb=nb;omega),YH,(λ_ h=>by cases h),Ju 1,Gq 1024,a.heap D u,q,rfl,rfl,rfl,trivial,λm O=>by rw[Xaz 1024 m O];rfl⟩,(((t.trans n).since d (λz P e=>by omega)).since a (λz P e=>by omega))⟩
 ·intro w1 r;refine Xr.make Xb p rfl (m:=1024) (kk:=1024) rfl rfl (XE _) (by decide) (by decide) (λ_=>rfl) λnb w2 e2 c B Q=>Xd.turn1 p rfl λw3 g=>Xr.make Xb p rfl (m:=1) (kk:=1) rfl rfl (XE _) (by decide) (by decide) (λ_=>rfl) λab w4 e4 b s S=>?_;have T:=r.size;have U:=g.size;refine δn p ϱ λC j=>?_;replace b:Ym C ab 275 3 (Ju 0):=by
   have:=(j).heap' b;rw[show Y6 (Y9 (Value.agg #[Value.int .i64 0,Value.int .i64 0,Value.int .i64 0])) 1=_ from Sb 3 1] at this;unfold Ym;rw[Va 3 (Ju 0) (λ_=>rfl)];exact this
  replace c:Ym C nb 292 3072 (Gq 0):=by
   have:=((g.trans s).trans j).heap' c;rw[show Y6 (Y9 (Value.agg #[Value.int .i64 0,Value.int .i64 0,Value.int .i64 0])) 1024=_ from Sb 3 1024] at this;unfold Ym;rw[Va 3072 (Gq 0) (λ_=>rfl)];exact this
  have t:=(((r.trans B).trans g).trans s).trans j;have u:=Fj b c (by decide);have H:=Xg b;have I:=Xg c;have J:=t.size;refine ζb ϱ (ζn ϱ λlb K e6 l n V=>?_);refine ζl l ϱ ?_;refine Xa.loop (α:=Nat) (λk=>[(6,false,.pointer (some ⟨lb,0,none⟩)),(33,false,.int .i64 1),(34,false,.int .i64 k)])
   (λk w'=>k<=1/\Ym w' ab 275 3 (Ju k)/\Xc (λz=>z=ab) K w') (λk=>1-k) 0 ⟨rfl,rfl,rfl,trivial⟩ ⟨XL _,n.heap' b,Xc.refl _ _⟩ ?_
  rintro k L ⟨hk,D,d⟩ ih;refine ζa ϱ (ζg ϱ (λx=>?_) λx=>?_)
  ·have o:k<1:=by have:=of_decide_eq_true x;omega
   exact ζl (d.heap l (by omega)) ϱ (ζb ϱ (ζi (k*3) ϱ (ζS ϱ D (Mm (i:=k*3) (by show 0+k*3+0+0=_;omega) (by omega)) ϱ λM q a W=>ζj ϱ (ih (k+1) _ _ ⟨o,q,d.trans a⟩ (by omega) ⟨rfl,rfl,rfl,trivial⟩))))
  have E:k=1:=by have:=of_decide_eq_false x;omega
  subst E;have f:=d.heap l (by omega);refine ζl f ϱ ?_;refine Xa.loop (α:=Nat) (λk=>[(6,false,.pointer (some ⟨lb,0,none⟩)),(51,false,.int .i64 1024),(52,false,.int .i64 k)])
   (λk w'=>k<=1024/\Ym w' nb 292 3072 (Gq k)/\Xc (λz=>z=nb) L w') (λk=>1024-k) 0 ⟨rfl,rfl,rfl,trivial⟩ ⟨XL _,(d.heap (n.heap' c) u.symm),Xc.refl _ _⟩ ?_
  rintro k M ⟨a0,q,a⟩ F;refine ζa ϱ (ζg ϱ (λy=>?_) λy=>?_)
  ·have o:k<1024:=by have:=of_decide_eq_true y;omega
   exact ζl (a.heap f (by omega)) ϱ (ζb ϱ (ζb ϱ (ζi (k*3) ϱ (ζS ϱ q (XfY (i:=k*3) (by show 0+k*3=_;omega) (by omega)) ϱ λw9 N G a1=>ζj ϱ (F (k+1) _ _ ⟨o,N,a.trans G⟩ (by omega) ⟨rfl,rfl,rfl,trivial⟩)))))
  have A:k=1024:=by have:=of_decide_eq_false y;omega
  subst A;exact ζr func188 ϱ ⟨⟨lb,ab,nb⟩,rfl,⟨by show _<=lb;omega,by show _<=ab;omega,by show _<=nb;omega⟩,⟨a.heap f (by show ¬lb=nb;omega),YH,(λ_ h=>by cases h),Ju 1,Gq 1024,a.heap D u,q,rfl,rfl,rfl,trivial,λm O=>by rw[Xaz 1024 m O];rfl⟩,(((t.trans n).since d (λz P e=>by omega)).since a (λz P e=>by omega))⟩
abbrev PgL:=List (Nat×List Int)
structure Sm where
 cls:Int
 blocks:Nat
 pg:PgL
 opn:List Nat
def Zd:PgL->Int->Option (List Int)
 |[],_=>none
 |(m,p)::r,n=>if (m:Int)=n then some p else Zd r n
def Zm(l:PgL)(n:Nat)(p:List Int):PgL:=l.map λe=>if e.1=n then (n,p) else e
def Qj(l:PgL)(n:Nat):PgL:=l.filter λe=>e.1 != n
def Yh:PgL->Nat
 |[]=>0
 |(_,p)::r=>Xu p+Yh r
theorem Ga:∀{l:PgL} {n:Int} {p:List Int},Zd l n=some p -> ∃m:Nat,n=m/\(m,p)∈l
 |(m,q)::r,n,p,h=>by
  unfold Zd at h;by_cases e:(m:Int)=n
  ·rw[if_pos e] at h;cases h;exact⟨m,e.symm,by simp⟩
  ·rw[if_neg e] at h;obtain⟨m',e',a⟩:=Ga h;exact⟨m',e',by simp[a]⟩
theorem XbM:∀{l:PgL} {n:Int},Zd l n=none -> ∀e∈l,(e.1:Int)≠n
 |[],_,_,_,he=>by cases he
 |(m,q)::r,n,h,e,he=>by
  unfold Zd at h;by_cases hm:(m:Int)=n
  ·rw[if_pos hm] at h;cases h
  ·rw[if_neg hm] at h;rcases List.mem_cons.1 he with rfl|he
   ·exact hm
   ·exact XbM h e he
theorem A6:∀{l:PgL} {m:Nat} {p:List Int},(l.map (·.1)).Nodup->(m,p)∈l->Zd l m=some p
 |(a,q)::r,m,p,b,hm=>by
  obtain⟨c,d⟩:=List.nodup_cons.1 b;unfold Zd;rcases List.mem_cons.1 hm with e|hm
  ·cases e;rw[if_pos rfl]
  ·have:a≠m:=λe=>c (List.mem_map.2 ⟨(m,p),hm,e.symm⟩);rw[if_neg (by omega)];exact A6 d hm
theorem Kc(l:PgL)(n:Nat)(p:List Int):(Zm l n p).map (·.1)=l.map (·.1):=by
 unfold Zm;rw[List.map_map];refine YA λe _=>?_;show(if e.1=n then (n,p) else e).1=e.1
 split
 ·rename_i h;exact h.symm
 ·rfl
theorem E9{l:PgL}(h:e∈Zm l n p):(e=(n,p)/\∃q,(n,q)∈l)\/(e.1≠n/\e∈l):=by
 unfold Zm at h;obtain⟨u,b,e1⟩:=List.mem_map.1 h;by_cases a:u.1=n
 ·rw[if_pos a] at e1;exact .inl ⟨e1.symm,u.2,by rw[<-a];exact b⟩
 ·rw[if_neg a] at e1;subst e1;exact .inr ⟨a,b⟩
theorem Ie{l:PgL}:e∈Qj l n↔e.1≠n/\e∈l:=by
 unfold Qj;rw[List.mem_filter];simp only[bne_iff_ne,ne_eq];exact And.comm
theorem Xgb(l:PgL)(n:Nat):(Qj l n).map (·.1)=(l.map (·.1)).filter (λm=>m != n):=by
 unfold Qj;rw[List.filter_map];rfl
theorem Xmt:∀{l:PgL} {n:Nat} (p:List Int),n∉l.map (·.1)->Zm l n p=l:=λ{l n} p h=>by
 unfold Zm
 conv=>rhs;rw[<-List.map_id l]
 refine YA λe a=>?_;rw[if_neg (λb=>h (List.mem_map.2 ⟨e,a,b⟩))];rfl
theorem Xmo{l:PgL}(h:n∉l.map (·.1)):Qj l n=l:=by
 unfold Qj;refine List.filter_eq_self.2 λe a=>?_;simp only[bne_iff_ne,ne_eq];exact λb=>h (List.mem_map.2 ⟨e,a,b⟩)
theorem Mr:∀{l:PgL} {n:Nat} {p q:List Int},(l.map (·.1)).Nodup->(n,q)∈l->Yh (Zm l n p)+Xu q=Yh l+Xu p
 |(a,r)::t,n,p,q,d,hm=>by
  obtain⟨b,f⟩:=List.nodup_cons.1 d;rcases List.mem_cons.1 hm with e|hm
  ·have e1:=(Prod.mk.inj e).1;have e2:=(Prod.mk.inj e).2;subst e1;subst e2;have:Zm ((n,q)::t) n p=(n,p)::t:=by
    show(if n=n then (n,p) else (n,q))::Zm t n p=_
    rw[if_pos rfl,Xmt p b]
   rw[this];simp only[Yh];omega
  ·have c:a≠n:=λe=>b (e▸List.mem_map.2 ⟨(n,q),hm,rfl⟩);have:Zm ((a,r)::t) n p=(a,r)::Zm t n p:=by
    show(if a=n then (n,p) else (a,r))::Zm t n p=_
    rw[if_neg c]
   rw[this];have ih:=Mr (p:=p) f hm;simp only[Yh];omega
theorem Uy:∀{l:PgL} {n:Nat} {q:List Int},(l.map (·.1)).Nodup->(n,q)∈l->Yh (Qj l n)+Xu q=Yh l/\(Qj l n).length+1=l.length
 |(a,r)::t,n,q,d,hm=>by
  obtain⟨b,f⟩:=List.nodup_cons.1 d;rcases List.mem_cons.1 hm with e|hm
  ·have e1:=(Prod.mk.inj e).1;have e2:=(Prod.mk.inj e).2;subst e1;subst e2;have:Qj ((n,q)::t) n=t:=by
    unfold Qj;rw[XX];simp only[bne_self_eq_false,QB,if_false];exact Xmo b
   rw[this];exact⟨Nat.add_comm _ _,rfl⟩
  ·have c:a≠n:=λe=>b (e▸List.mem_map.2 ⟨(n,q),hm,rfl⟩);have:Qj ((a,r)::t) n=(a,r)::Qj t n:=by
    unfold Qj;rw[XX];simp[c]
   rw[this];obtain⟨g,h⟩:=Uy f hm;simp only[Yh,XM];omega
theorem XbO:∀(l:PgL) (n:Nat) (p:List Int),Yh (l++[(n,p)])=Yh l+Xu p
 |[],n,p=>by simp[Yh]
 |(a,r)::t,n,p=>by
  have:=XbO t n p;show Xu r+Yh (t++[(n,p)])=Xu r+Yh t+Xu p
  omega
theorem Xge:∀{l:PgL} {b:Nat},(∀e∈l,e.2.length=b)->Yh l<=l.length*b
 |[],b,_=>by simp[Yh]
 |(a,r)::t,b,h=>by
  have ih:=Xge (l:=t) (b:=b) (λe c=>h e (by simp[c]));have d:=Og r;have f:r.length=b:=h (a,r) (by simp);simp only[Yh,XM,QO];omega
structure Sm.Ok(x:Sm):Prop where
 nodup:(x.pg.map (·.1)).Nodup
 cls:0<=x.cls
 blk:1<=x.blocks/\x.blocks<=512
 each:∀e∈x.pg,e.1<1024/\e.2.length=x.blocks/\(e.1∈x.opn↔Xu e.2≠x.blocks)
 onodup:x.opn.Nodup
 osub:∀n∈x.opn,∃p,(n,p)∈x.pg
def Sm.Pos(x:Sm):Prop:=∀e∈x.pg,0<Xu e.2
def Sm.Of(x:Sm)(pl:PlM):Prop:=∀e∈x.pg,e.1<pl.own.length/\pl.own.getD e.1 0=x.cls
def Sm.fresh(x:Sm)(n:Nat):Sm:={x with pg:=x.pg++[(n,List.replicate x.blocks (-1))],opn:=n::x.opn}
def Sm.takeAt(x:Sm)(n:Nat)(p:List Int)(who:Int):Sm:=
 {x with pg:=Zm x.pg n (Z3 p who),opn:=if Xu (Z3 p who)=x.blocks then x.opn.filter (λm=>m != n) else x.opn}
def Sm.giveAt(x:Sm)(n:Nat)(p:List Int)(i:Int):Sm:=
 let o:=if Xu p=x.blocks then n::x.opn else x.opn
 if Xu (Z6 p i)=0 then {x with pg:=Qj x.pg n,opn:=o.filter (λm=>m != n)} else {x with pg:=Zm x.pg n (Z6 p i),opn:=o}
def Sm.ownAt(x:Sm)(n:Nat)(p:List Int)(i who:Int):Sm:={x with pg:=Zm x.pg n (Bn p i who)}
theorem Rh:Yf p<0↔Xu p=p.length:=by
 have:=XaL (x:=Y5 p);rw[Ew] at this;exact this
theorem Me(p:List Int)(who:Int):(Z3 p who).length=p.length:=by
 unfold Z3;split <;> simp
theorem Xe4(p:List Int)(i:Int):(Z6 p i).length=p.length:=by
 unfold Z6;split <;> simp
theorem Xe5(p:List Int)(i who:Int):(Bn p i who).length=p.length:=by
 unfold Bn;split <;> simp
theorem Nz{x:List Int}(h:i<x.length):x.getD i 0=x.getD i (-1):=by
 rw[XC,XC,XB h];rfl
theorem I8(hw:0<=who)(h:Xu p≠p.length):Cz p who=0/\Xu (Z3 p who)=Xu p+1:=by
 have a:¬Yf p<0:=λe=>h (Rh.1 e);have e:Cz p who=0:=by unfold Cz;rw[if_neg (by omega),if_neg a]
 obtain⟨b,c⟩:=T7 a;refine⟨e,?_⟩;unfold Z3;rw[if_pos e];have:=Hu (v:=who) b;rw[if_pos (by rw[Nz b];exact c),if_neg (by omega)] at this;omega
theorem Xba{i:Int}(h:Qx p i=0):Xu (Z6 p i)+1=Xu p:=by
 unfold Z6;rw[if_pos h];unfold Qx at h;split at h
 ·cases h
 ·rename_i b
  split at h
  ·cases h
  ·rename_i a
   have hi:i.toNat<p.length:=by omega
   have:=Hu (v:=-1) hi;unfold Z2 at a;rw[if_pos (by omega)] at a;rw[if_neg (by rw[Nz hi];exact a),if_pos rfl] at this;omega
theorem T5{i:Int}:Xu (Bn p i who)=Xu p:=by
 unfold Bn;split
 ·rename_i h
  unfold Al at h;split at h
  ·cases h
  ·rename_i b
   split at h
   ·cases h
   ·rename_i a
    have hi:i.toNat<p.length:=by omega
    have:=Hu (v:=who) hi;unfold Z2 at a;rw[if_pos (by omega)] at a;rw[if_neg (by rw[Nz hi];exact a),if_neg (by omega)] at this;omega
 ·rfl
theorem Pz{l:List Nat}{m:Nat}:m∈l.filter (λk=>k != n)↔m≠n/\m∈l:=by
 rw[List.mem_filter];simp only[bne_iff_ne,ne_eq];exact And.comm
theorem Sm.Ok.fresh{x:Sm}(h:x.Ok){n:Nat}(hn:n<1024)(hno:n∉x.pg.map (·.1)):(x.fresh n).Ok:=by
 have f:=h.blk;have g:n∉x.opn:=λhm=>by obtain⟨p,d⟩:=h.osub n hm;exact hno (List.mem_map.2 ⟨_,d,rfl⟩)
 refine⟨?_,h.cls,h.blk,λe he=>?_,List.nodup_cons.2 ⟨g,h.onodup⟩,λm hm=>?_⟩
 ·show((x.pg++[(n,List.replicate x.blocks (-1))]).map Prod.fst).Nodup
  rw[XI];refine List.nodup_append.2 ⟨h.nodup,by simp,λa i b f e=>?_⟩;have:b=n:=by simpa using f
  exact hno (this▸e▸i)
 ·rcases List.mem_append.1 he with he|he
  ·obtain⟨a,b,c⟩:=h.each e he;have:e.1≠n:=λe'=>hno (List.mem_map.2 ⟨e,he,e'⟩);exact⟨a,b,by show e.1∈n::x.opn↔_;rw[QQ];simp only[this,false_or];exact c⟩
  ·have:e=(n,List.replicate x.blocks (-1)):=by simpa using he
   subst this;refine⟨hn,by simp[Sm.fresh],?_⟩;show n∈n::x.opn↔Xu (List.replicate x.blocks (-1))≠x.blocks
   rw[Ht];constructor
   ·intro _;omega
   ·intro _;simp
 ·rcases List.mem_cons.1 hm with rfl|hm
  ·exact⟨List.replicate x.blocks (-1),YN _ (by simp)⟩
  ·obtain⟨p,d⟩:=h.osub m hm;exact⟨p,QF _ d⟩
theorem Sm.Ok.takeAt{x:Sm}(h:x.Ok)(hw:0<=who)(hp:(n,p)∈x.pg)(ho:n∈x.opn):(x.takeAt n p who).Ok:=by
 obtain⟨i,j,r⟩:=h.each _ hp;simp only at i j r
 refine⟨by show((Zm _ _ _).map _).Nodup;rw[Kc];exact h.nodup,h.cls,h.blk,λe g=>?_,?_,λm s=>?_⟩
 ·rcases E9 g with⟨rfl,_⟩|⟨k,g⟩
  ·refine⟨i,by rw[Me];exact j,?_⟩;show n∈(if _ then _ else _)↔_
   by_cases f:Xu (Z3 p who)=x.blocks
   ·rw[if_pos f,Pz];exact⟨λh=>absurd rfl h.1,λh=>absurd f h⟩
   ·rw[if_neg f];exact⟨λ_=>f,λ_=>ho⟩
  ·obtain⟨a,b,c⟩:=h.each e g;refine⟨a,b,?_⟩;show e.1∈(if _ then _ else _)↔_
   split
   ·rw[Pz];simp only[ne_eq,k,not_false_eq_true,true_and];exact c
   ·exact c
 ·show(if _ then _ else _:List Nat).Nodup
  split
  ·exact h.onodup.filter _
  ·exact h.onodup
 ·have l:m∈x.opn:=by
   have d:m∈(if _ then _ else _:List Nat):=s;split at d
   ·exact(Pz.1 d).2
   ·exact d
  obtain⟨q,o⟩:=h.osub m l;by_cases e:m=n
  ·subst e;exact⟨_,List.mem_map.2 ⟨(m,q),o,if_pos rfl⟩⟩
  ·exact⟨q,List.mem_map.2 ⟨(m,q),o,if_neg e⟩⟩
theorem Sm.Ok.giveAt{x:Sm}(h:x.Ok){n:Nat}{p:List Int}{i:Int}(hp:(n,p)∈x.pg)(hi:Qx p i=0):(x.giveAt n p i).Ok:=by
 obtain⟨s,t,l⟩:=h.each _ hp;simp only at s t l
 have A:=Xba hi;have z:=Og p;have u:n∈(if Xu p=x.blocks then n::x.opn else x.opn):=by
  split
  ·simp
  ·rename_i o;exact l.2 o
 have k:(if Xu p=x.blocks then n::x.opn else x.opn).Nodup:=by
  split
  ·rename_i o;exact List.nodup_cons.2 ⟨λf=>(l.1 f) o,h.onodup⟩
  ·exact h.onodup
 have d:∀m,m≠n->(m∈(if Xu p=x.blocks then n::x.opn else x.opn)↔m∈x.opn):=λm f=>by
  split
  ·rw[QQ];simp[f]
  ·rfl
 unfold Sm.giveAt;simp only
 by_cases v:Xu (Z6 p i)=0
 ·rw[if_pos v];refine⟨by show((Qj _ _).map _).Nodup;rw[Xgb];exact h.nodup.filter _,h.cls,h.blk,λe g=>?_,k.filter _,λm f=>?_⟩
  ·obtain⟨j,g⟩:=Ie.1 g;obtain⟨a,b,c⟩:=h.each e g;exact⟨a,b,by show e.1∈List.filter _ _↔_;rw[Pz,d _ j];simp only[ne_eq,j,not_false_eq_true,true_and];exact c⟩
  ·obtain⟨w,y⟩:=Pz.1 f;obtain⟨q,r⟩:=h.osub m ((d m w).1 y);exact⟨q,Ie.2 ⟨w,r⟩⟩
 ·rw[if_neg v];refine⟨by show((Zm _ _ _).map _).Nodup;rw[Kc];exact h.nodup,h.cls,h.blk,λe g=>?_,k,λm f=>?_⟩
  ·rcases E9 g with⟨rfl,_⟩|⟨j,g⟩
   ·refine⟨s,by rw[Xe4];exact t,⟨λ_=>?_,λ_=>u⟩⟩;show Xu (Z6 p i)≠x.blocks
    omega
   ·obtain⟨a,b,c⟩:=h.each e g;exact⟨a,b,(d _ j).trans c⟩
  ·by_cases e:m=n
   ·subst e;exact⟨_,List.mem_map.2 ⟨(m,p),hp,if_pos rfl⟩⟩
   ·obtain⟨q,r⟩:=h.osub m ((d m e).1 f);exact⟨q,List.mem_map.2 ⟨(m,q),r,if_neg e⟩⟩
theorem Sm.Ok.ownAt{x:Sm}(h:x.Ok){i:Int}(hp:(n,p)∈x.pg):(x.ownAt n p i who).Ok:=by
 obtain⟨c,d,f⟩:=h.each _ hp;refine⟨by show((Zm _ _ _).map _).Nodup;rw[Kc];exact h.nodup,h.cls,h.blk,λe a=>?_,h.onodup,λm g=>?_⟩
 ·rcases E9 a with⟨rfl,_⟩|⟨j,a⟩
  ·exact⟨c,by rw[Xe5];exact d,by show _↔Xu (Bn p i who)≠_;rw[T5];exact f⟩
  ·exact h.each e a
 ·obtain⟨q,b⟩:=h.osub m g;by_cases e:m=n
  ·subst e;exact⟨_,List.mem_map.2 ⟨(m,q),b,if_pos rfl⟩⟩
  ·exact⟨q,List.mem_map.2 ⟨(m,q),b,if_neg e⟩⟩
end Go.Proofs.YtohjeeapehmkcaaGreatDoor
