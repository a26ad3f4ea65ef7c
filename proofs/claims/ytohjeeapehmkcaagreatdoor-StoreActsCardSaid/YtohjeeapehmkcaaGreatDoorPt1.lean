/-
  Texts put together: Tz, Idx, Bits, Bits2, Bits3, Page, Page2, Ints, Pool, Pool2, Ring, Ring2, Ring3, Ring4, Shm.
-/
import Derived.Test.YtohjeeapehmkcaaGreatDoorQAbb
import Derived.Test.YtohjeeapehmkcaaGreatDoorQRule10
import Derived.Test.YtohjeeapehmkcaaGreatDoorQPost
import Derived.Test.YtohjeeapehmkcaaGreatDoorQRule12
set_option linter.unusedVariables false
set_option maxRecDepth 100000
namespace Go.Proofs.YtohjeeapehmkcaaGreatDoor
open Go.RowKit
open Bool renaming and_eq_true->XK,false_eq_true->YY
open Int renaming toNat_natCast->XA,eq_ofNat_of_zero_le->XD
open List renaming getElem?_eq_getElem->XB,getD_eq_getElem?_getD->XC,length_set->XF,length_replicate->XH,map_append->XI,getElem_mem->XJ,getElem?_map->XN,length_cons->XP,getElem?_append_left->XV,getElem?_replicate->XY,getElem?_eq_none->XZ,filter_cons->ZE,replicate_succ->ZR,map_congr_left->ZS,append_nil->ZT,map_set->ZV,nodup_nil->YA,mem_cons_of_mem->YB,length_range->YC,getElem_map->YF,getElem?_take->YG,getElem?_toArray->YH,mem_cons_self->YI,mem_append_right->YJ,set_append_left->YN,getElem?_set->YP,range_succ->Y2,ext_getElem?->QB,mem_append_left->QC,getD->QH,mem_cons->QK
open Nat renaming le_refl->XE,zero_le->XL,zero_add->XQ,mul_one->ZH,add_assoc->YE,div_add_mod->YM,mod_lt->QG
open Option renaming map_eq_some_iff->YV
open Go.Proofs.Tryz (func111 func115 func133 func172 func184 func185 func186 func187 func188 func191 func196 func214 func215 func216 func217 func218 func220 func222 func223 func224 func228 func230 func232 func236 func250 func251 func252 func253 func254 func255 func256 func257 func258 func259 func267 func268 func269 ntmps111 ntmps115 ntmps133 ntmps172 ntmps184 ntmps185 ntmps186 ntmps187 ntmps188 ntmps191 ntmps196 ntmps214 ntmps215 ntmps216 ntmps217 ntmps218 ntmps220 ntmps222 ntmps223 ntmps224 ntmps228 ntmps230 ntmps232 ntmps236 ntmps250 ntmps251 ntmps252 ntmps253 ntmps254 ntmps255 ntmps256 ntmps257 ntmps258 ntmps259 ntmps267 ntmps268 ntmps269 prog)
variable {ahead by' size u who z:Int} {lg:List (Nat × List Nat)} {bs l p zs:List Int} {l2 ws:List Nat} {cs rest xs:List Value} {N at' b base cap fuel g i j k len lm lo m n n0 o off sz t tm vb xb y:Nat} {e:Nat × List Int} {fz:Nat × Nat} {f:Nat->Int} {B C F F' Fr S S' T:Nat->Prop} {a:Option Addr} {α:Type} {v:Value} {w w' w0 w1 w2:World}
theorem Ty {x:Nat} (h:x<2 ^ 64):(BitVec.ofInt 64 (x:Int)).toNat=x:=by
 rw [BitVec.toNat_ofInt];omega
theorem Xbz {x:Nat} (h:x<2 ^ 64):IntKind.u64.wrap (x:Int)=x:=by
 simp only [IntKind.wrap,IntKind.signed,IntKind.bits]
 simp
 omega
theorem XbY {x:Nat} (hx:x<2 ^ 64) (hy:y<2 ^ 64):Jx .and .u64 x y=((x &&& y:Nat):Int):=by
 have h:(BitVec.ofInt 64 (x:Int) &&& BitVec.ofInt 64 (y:Int)).toNat=x &&& y:=by rw [BitVec.toNat_and,Ty hx,Ty hy]
 show IntKind.u64.wrap ((BitVec.ofInt 64 (x:Int) &&& BitVec.ofInt 64 (y:Int)).toNat:Int)=_
 rw [h,Xbz (Nat.and_lt_two_pow x hy)]
theorem Uy {x:Nat} (hx:x<2 ^ 64) (hy:y<2 ^ 64):Jx .xor .u64 x y=((x ^^^ y:Nat):Int):=by
 have h:(BitVec.ofInt 64 (x:Int) ^^^ BitVec.ofInt 64 (y:Int)).toNat=x ^^^ y:=by rw [BitVec.toNat_xor,Ty hx,Ty hy]
 show IntKind.u64.wrap ((BitVec.ofInt 64 (x:Int) ^^^ BitVec.ofInt 64 (y:Int)).toNat:Int)=_
 rw [h,Xbz (Nat.xor_lt_two_pow hx hy)]
def Ky (x:Nat):Nat:=(2 ^ 64 - 1) ^^^ x
theorem Xcv {x:Nat} (h:x<2 ^ 64):Ky x<2 ^ 64:=Nat.xor_lt_two_pow (by decide) h
theorem Vk {x:Nat} (hj:j<64):(Ky x).testBit j = !x.testBit j:=by
 unfold Ky;rw [Nat.testBit_xor,Nat.testBit_two_pow_sub_one];simp [hj]
theorem XlG {x:Nat} (h:x<2 ^ 64):Kk .xor .u64 x=some ((Ky x:Nat):Int):=by
 unfold Kk Ky;rw [<- Uy (by decide) h];rfl
theorem XlH {x:Nat} (h:x<2 ^ 64) (h0:0<x):Kk .neg .u64 x=some ((2 ^ 64 - x:Nat):Int):=by
 unfold Kk
 congr 1
 simp only [IntKind.wrap,IntKind.signed,IntKind.bits]
 simp
 omega
theorem XeY (h:j<64):Jn true .u64 1 j=((2 ^ j:Nat):Int):=by
 unfold Jn;rw [if_pos rfl,show min (j:Int).toNat (IntKind.bits .u64)=j from Nat.min_eq_left (by simp only [IntKind.bits]; omega)];rw [show (1:Int)*2 ^ j=((2 ^ j:Nat):Int) from by simp];exact Xbz (Nat.pow_lt_pow_right (by decide) h)
theorem Jo {x:Nat} (h:j<64):Jn false .u64 x j=((x / 2 ^ j:Nat):Int):=by
 unfold Jn;rw [if_neg (by simp),show min (j:Int).toNat (IntKind.bits .u64)=j from Nat.min_eq_left (by simp only [IntKind.bits]; omega)];rw [Int.fdiv_eq_ediv_of_nonneg _ (Int.le_of_lt (Int.pow_pos (by decide)))]
 simp
theorem Xgf {x:Nat}:x &&& 1=x % 2:=Nat.and_one_is_mod x
theorem XgM {x:Nat}:(((x / 2 ^ j % 2:Nat):Int) == 1)=x.testBit j:=by
 rw [Nat.testBit_eq_decide_div_mod_eq,Bool.eq_iff_iff,beq_iff_eq,decide_eq_true_eq];omega
theorem Xge {x:Nat} (hx:x<2 ^ 64) (ht:t<64) (h1:x.testBit t=true) (h0:∀ j,j<t->x.testBit j=false):x &&& (2 ^ 64 - x)=2 ^ t:=by
 have l:x % 2 ^ t=0:=by
  apply Nat.eq_of_testBit_eq
  intro i;rw [Nat.testBit_mod_two_pow,Nat.zero_testBit];by_cases a:i<t
  ·rw [h0 i a]; simp
  ·simp [a]
 have d:x / 2 ^ t % 2=1:=by
  rw [Nat.testBit_eq_decide_div_mod_eq] at h1;exact of_decide_eq_true h1
 obtain ⟨m,f⟩:∃ m,m=x / 2 ^ t:=⟨_,rfl⟩;have b:x=2 ^ t*m:=by have:=YM x (2 ^ t); rw [l,<- f] at this; omega
 rw [<- f] at d;obtain ⟨q,g⟩:∃ q,m=2*q+1:=⟨m / 2,by omega⟩;have c:x - 1=2 ^ t*(2*q)+(2 ^ t - 1):=by
  rw [b,g,Nat.mul_add,ZH];omega
 have k:x=(x - 1)+1:=by
  have:0<x:=by rw [b,g]; exact Nat.mul_pos (Nat.pow_pos (by decide)) (by omega)
  omega
 apply Nat.eq_of_testBit_eq
 intro j;rw [Nat.testBit_and,Nat.testBit_two_pow];have e:(2 ^ 64 - x).testBit j=(decide (j<64) && !(x - 1).testBit j):=by
  rw [k];exact Nat.testBit_two_pow_sub_succ (by omega) j
 rw [e];rcases Nat.lt_trichotomy j t with h | h | h
 ·rw [h0 j h]; simp; omega
 ·subst h;rw [h1,c,Nat.testBit_two_pow_mul_add _ (by omega)];simp [ht]
 ·obtain ⟨i,a⟩:∃ i,j - t=i+1:=⟨j - t - 1,by omega⟩;have e1:x.testBit j=m.testBit (i+1):=by
   rw [b,Nat.testBit_two_pow_mul];rw [a]
   simp
   omega
  have e2:(x - 1).testBit j=(2*q).testBit (i+1):=by
   rw [c,Nat.testBit_two_pow_mul_add _ (by omega),if_neg (by omega),a]
  rw [e1,e2,Nat.testBit_add_one,Nat.testBit_add_one,show m / 2=q from by omega,show 2*q / 2=q from by omega];have:(decide (t=j))=false:=decide_eq_false (by omega);rw [this];cases q.testBit i <;> simp
def I4:List Nat := [0,1,56,2,57,49,28,3,61,58,42,50,38,29,17,4,62,47,59,36,45,43,51,22,53,39,33,30,24,18,12,5,63,55,48,27,60,41,37,16,46,35,44,21,52,32,23,11,54,26,40,15,34,20,31,10,25,14,19,9,13,8,7,6]
theorem Xhd:∀ t,t<64->I4[(2 ^ t*285870213051353865) % 2 ^ 64 / 2 ^ 58]? = some t:=by decide +kernel
def Ea (x n:Nat):Prop:=x<2 ^ n/\(0<n->2 ^ (n - 1)<=x)
theorem Ea.zero:Ea 0 0:=⟨by decide,fun h=>by omega⟩
theorem Ea.shift {x:Nat} (h:Ea (x / 2 ^ k) m) (hm:0<m):Ea x (m+k):=by
 obtain ⟨b,c⟩:=h;have a:0<2 ^ k:=Nat.pow_pos (by decide);refine ⟨?_,fun _ => ?_⟩
 ·rw [Nat.pow_add];exact (Nat.div_lt_iff_lt_mul a).1 b
 ·rw [show m+k - 1=(m - 1)+k from by omega,Nat.pow_add];exact (Nat.le_div_iff_mul_le a).1 (c hm)
theorem Ea.pos {x:Nat} (h:Ea x n) (hx:0<x):0<n:=by
 rcases Nat.eq_zero_or_pos n with h0 | h0
 ·subst h0; have:=h.1; simp at this; omega
 ·exact h0
theorem Ea.top {x:Nat} (h:Ea x n) (hn:0<n):x.testBit (n - 1)=true /\ ∀ j,n<=j->x.testBit j=false:=by
 refine ⟨?_,fun j a=>Nat.testBit_lt_two_pow (Nat.lt_of_lt_of_le h.1 (Nat.pow_le_pow_right (by decide) a))⟩;apply Nat.testBit_of_two_pow_le_and_two_pow_add_one_gt (h.2 hn)
 rw [show n - 1+1=n from by omega];exact h.1
theorem Ea.le {x:Nat} (h:Ea x n) (hx:x<2 ^ k):n<=k:=by
 rcases Nat.lt_or_ge k n with hk | hk
 ·have a:=h.2 (by omega);have b:2 ^ k<=2 ^ (n - 1):=Nat.pow_le_pow_right (by decide) (by omega);omega
 ·exact hk
def G8 (x:Nat):Nat:=if x=0 then 0 else Nat.log2 x+1
theorem Eg {x:Nat} (h:x<256):Ea x (G8 x):=by
 unfold G8;by_cases a:x=0
 ·subst a; rw [if_pos rfl]; exact Ea.zero
 ·rw [if_neg a];exact ⟨Nat.lt_log2_self,fun _=>Nat.log2_self_le a⟩
def idx {α:Type} (p:α->Bool) (l:List α):Int:=match l.findIdx? p with | some i=>i | none => -1
theorem Im {p:α->Bool} {l:List α} (hk:k<l.length) (hpre:∀ j (h:j<l.length),j<k->p l[j]=false) (h:p l[k]=true):idx p l=k:=by
 unfold idx;have:l.findIdx? p=some k:=by
  rw [List.findIdx?_eq_some_iff_getElem];exact ⟨hk,h,fun j a=>by simpa using hpre j (by omega) a⟩
 rw [this]
theorem Hs {p:α->Bool} {l:List α} (hpre:∀ j (h:j<l.length),p l[j]=false):idx p l = -1:=by
 unfold idx;have:l.findIdx? p=none:=by
  rw [List.findIdx?_eq_none_iff];intro x a;obtain ⟨j,b,rfl⟩:=List.mem_iff_getElem.1 a;exact hpre j b
 rw [this]
theorem Vy {p:α->Bool} {l:List α}:(0<=idx p l)↔l.any p=true:=by
 unfold idx;cases h:l.findIdx? p with
 |none =>
  rw [List.findIdx?_eq_none_iff] at h;simp only [List.any_eq_true];constructor
  ·intro d; omega
  ·rintro ⟨x,b,a⟩; rw [h x b] at a; cases a
 |some i =>
  rw [List.findIdx?_eq_some_iff_getElem] at h;obtain ⟨c,a,_⟩:=h;simp only [List.any_eq_true];exact ⟨fun _=>⟨_,XJ c,a⟩,fun _=>by omega⟩
theorem Hq (h:k<zs.length):zs.getD k 0=zs[k]:=by simp [h]
def Pq {α:Type} (p:α->Bool) (l:List α):Int:=match l.reverse.findIdx? p with | some i=>(l.length:Int) - 1 - i | none => -1
theorem XaG {p:α->Bool} {l:List α} (hk:k<l.length) (hpost:∀ j (h:j<l.length),k<j->p l[j]=false) (h:p l[k]=true):Pq p l=k:=by
 unfold Pq;have:l.reverse.findIdx? p=some (l.length - 1 - k):=by
  rw [List.findIdx?_eq_some_iff_getElem];refine ⟨by simp; omega,?_,fun j a => ?_⟩
  ·rw [List.getElem_reverse]; simp only [show l.length - 1 - (l.length - 1 - k)=k from by omega]; exact h
  ·rw [List.getElem_reverse]; simpa using hpost _ (by omega) (by omega)
 rw [this];simp only
 omega
theorem Xez {p:α->Bool} {l:List α} (hall:∀ j (h:j<l.length),p l[j]=false):Pq p l = -1:=by
 unfold Pq;have:l.reverse.findIdx? p=none:=by
  rw [List.findIdx?_eq_none_iff];intro x a;rw [List.mem_reverse] at a;obtain ⟨j,b,rfl⟩:=List.mem_iff_getElem.1 a;exact hall j b
 rw [this]
def Eb (w:World) (a:Option Addr) (bs:List Bool):Prop := ∀ i (h:i<bs.length),∃ b off,a=some ⟨b,off,none⟩/\w.cell? ⟨b,off+i,none⟩=some (.bool bs[i])
theorem Eb.of {c:Array Value} {t:TypeId} {bs:List Bool} (h:w.heap[b]? = some (.cells c t fz)) (hc:c=(bs.map Value.bool).toArray):Eb w (some ⟨b,0,none⟩) bs:=fun i a =>
 ⟨b,0,rfl,by rw [Yi h,hc]; simp [a]⟩
theorem Eb.chg {bs:List Bool} (h:Eb w a bs) (hc:Xc Xe w w'):Eb w' a bs:=fun i d=>by
 obtain ⟨b,off,e,c⟩:=h i d;exact ⟨b,off,e,Rl hc.below c⟩
theorem Eb.keep {bs:List Bool} {q:Nat} {c:Array Value} (hr:Eb w a bs) (hq:w.heap[q]? = some (.cells c t fz)) (hc:∀ x ∈ c.toList,∀ z,x ≠ .bool z) (hs:Xc (fun b=>b=q) w w'):Eb w' a bs:=fun j f=>by
 obtain ⟨b,off,e,d⟩:=hr j f;refine ⟨b,off,e,hs.cell d (fun g => ?_)⟩;subst g;rw [Yi hq] at d;exact hc _ (Array.mem_toList_iff.2 (Array.mem_of_getElem? d)) _ rfl
theorem Eb.cells {a:Addr} {bs:List Bool} (h:Eb w (some a) bs):∀ i u,(bs.map Value.bool)[i]? = some u->w.cell? (a.add i)=some u:=by
 intro i u d;rw [XN,YV] at d;obtain ⟨z,c,rfl⟩:=d;have f:=(List.getElem?_eq_some_iff.1 c).1;obtain ⟨b,off,e,g⟩:=h i f;cases e
 rw [B9,g];rw [XB f] at c;cases c; rfl
theorem Eb.of_take {cur:Array Value} {bs:List Bool} (h:w.heap[g]? = some (.cells cur t fz)) (hc:cur.toList.take bs.length=bs.map Value.bool):Eb w (some ⟨g,0,none⟩) bs:=fun i a=>by
 refine ⟨g,0,rfl,?_⟩;have b:(cur.toList.take bs.length)[i]? = (bs.map Value.bool)[i]?:=by rw [hc]
 rw [YG,if_pos a] at b;rw [Yi h];simp only [XQ];rw [<- Array.getElem?_toList,b];simp [a]
def Az (w:World):Prop := ∀ j,j<64->w.cell? ⟨0,j,none⟩=some (.int .u8 (I4.getD j 0:Nat))
theorem Az.chg (h:Az w) (hc:Xc S w w') (hs:¬ S 0):Az w':=fun j a=>hc.cell (h j a) hs
theorem Az.grow (h:Az w) (hc:Xc Xe w w'):Az w':=h.chg hc id
theorem XgQ (x t:Nat) (w:World) (hT0:Az w) (hx:x<2 ^ 64) (ht:t<64) (h1:x.testBit t=true) (h0:∀ j,j<t->x.testBit j=false):Xf prog 268 #[.int .u64 x] w (X7 (.int .i64 t) w):=by
 have e:0<x:=by
  rcases Nat.eq_zero_or_pos x with h | h
  ·subst h; simp at h1
  ·exact h
 refine ζe func268 ntmps268 ϱ (ζF ϱ (by simp; omega) (Xa.un Xb rfl (XlH hx e) rfl (Xa.bits Xb rfl (XbY hx (by omega)) rfl ?_)));rw [Xge hx ht h1 h0];have b:=Xhd t ht;obtain ⟨j,c⟩:∃ j,j=(2 ^ t*285870213051353865) % 2 ^ 64 / 2 ^ 58:=⟨_,rfl⟩;rw [<- c] at b;have d:j<64:=by rw [c]; exact (Nat.div_lt_iff_lt_mul (by decide)).2 (Nat.lt_of_lt_of_le (QG _ (by decide)) (by decide))
 refine Xa.arith Xb rfl (show IntKind.u64.wrap (((2 ^ t:Nat):Int)*285870213051353865)=(((2 ^ t*285870213051353865) % 2 ^ 64:Nat):Int) from by simp only [IntKind.wrap,IntKind.signed,IntKind.bits]; simp) rfl (Xa.shift Xb rfl (by omega) (show Jn false .u64 (((2 ^ t*285870213051353865) % 2 ^ 64:Nat):Int) 58=(((2 ^ t*285870213051353865) % 2 ^ 64 / 2 ^ 58:Nat):Int) from Jo (j:=58) (by decide)) rfl ?_);rw [<- c];have a:w.cell? ⟨0,0+j,none⟩=some (.int .u8 (t:Int)):=by rw [XQ,hT0 j d,XC,b]; rfl
 exact ζi j ϱ (ζk ϱ a ϱ (ζj ϱ (ζr func268 ϱ ⟨rfl,rfl⟩)))
theorem XgR (w:World):Xf prog 268 #[.int .u64 0] w (X7 (.int .i64 64) w):=by
 exact ζe func268 ntmps268 ϱ (ζy ϱ (ζr func268 ϱ ⟨rfl,rfl⟩))
theorem Km:IntKind.u8.wrap z=z % 256:=by
 simp only [IntKind.wrap,IntKind.signed,IntKind.bits]
 simp
theorem J3 {b:ByteArray} (h:∀ z:Fin 256,(b[z.val]?).map (fun x=>(x.toNat:Int))=some ((G8 z.val:Nat):Int)) (hy:y<256):(b[((y:Nat):Int).toNat]?).map (fun x=>(x.toNat:Int))=some ((G8 y:Nat):Int):=by
 rw [XA]; exact h ⟨y,hy⟩
def E2 (x y c:Nat):Prop := ∀ m,Ea y m->Ea x (m+c)
theorem E2.step {x c:Nat} (h:E2 x y c) (hy:2 ^ k<=y):E2 x (y / 2 ^ k) (k+c):=fun m a=>by
 have:=h _ (a.shift (a.pos (Nat.div_pos hy (Nat.pow_pos (by decide)))))
 rwa [YE] at this
theorem E2.self (x:Nat):E2 x x 0:=fun m a=>a
theorem XgO (x:Nat) (w:World) (hx:x<2 ^ 64):Xf prog 267 #[.int .u64 x] w (fun v w' => ∃ n,Ea x n/\v = .int .i64 n/\w=w'):=by
 refine ζe func267 ntmps267 ϱ (ζg ϱ (fun h => ?_) fun h => ?_)
 ·have g:4294967296<=x:=by have:=of_decide_eq_true h; omega
  refine Xa.shift Xb rfl (by omega) (Jo (x:=x) (j:=32) (by decide)) rfl ?_;have l:x / 2 ^ 32<4294967296:=by omega
  refine ζg ϱ (fun c => ?_) fun c => ?_
  ·have e:65536<=x / 2 ^ 32:=by have:=of_decide_eq_true c; omega
   have i:(x / 2 ^ 32) / 2 ^ 16<65536:=by omega
   refine Xa.shift Xb rfl (by omega) (Jo (x:=x / 2 ^ 32) (j:=16) (by decide)) rfl (ζj ϱ (ζg ϱ (fun b => ?_) fun b => ?_))
   ·have f:256<=(x / 2 ^ 32) / 2 ^ 16:=by have:=of_decide_eq_true b; omega
    have a:((x / 2 ^ 32) / 2 ^ 16) / 2 ^ 8<256:=by omega
    have d:=(Eg a).le (k:=8) a;exact Xa.shift Xb rfl (by omega) (Jo (x:=(x / 2 ^ 32) / 2 ^ 16) (j:=8) (by decide)) rfl (ζj ϱ (Xa.arith Xb rfl (show IntKind.u8.wrap ((((x / 2 ^ 32) / 2 ^ 16) / 2 ^ 8:Nat):Int)=((((x / 2 ^ 32) / 2 ^ 16) / 2 ^ 8:Nat):Int) from by rw [Km]; omega) rfl (Xa.sidx Xb rfl (by omega) (J3 (by decide +kernel) a) rfl (ζj ϱ (ζj ϱ (ζr func267 ϱ ⟨G8 (((x / 2 ^ 32) / 2 ^ 16) / 2 ^ 8)+(8+(16+(32+0))),((((((E2.self x).step (k:=32) g)).step (k:=16) e)).step (k:=8) f) _ (Eg a),X0 (by omega),rfl⟩))))))
   ·have a:((x / 2 ^ 32) / 2 ^ 16)<256:=by have:=of_decide_eq_false b; omega
    have d:=(Eg a).le (k:=8) a;exact Xa.arith Xb rfl (show IntKind.u8.wrap (((x / 2 ^ 32) / 2 ^ 16:Nat):Int)=(((x / 2 ^ 32) / 2 ^ 16:Nat):Int) from by rw [Km]; omega) rfl (Xa.sidx Xb rfl (by omega) (J3 (by decide +kernel) a) rfl (ζj ϱ (ζj ϱ (ζr func267 ϱ ⟨G8 ((x / 2 ^ 32) / 2 ^ 16)+(16+(32+0)),(((((E2.self x).step (k:=32) g)).step (k:=16) e)) _ (Eg a),X0 (by omega),rfl⟩))))
  ·have i:(x / 2 ^ 32)<65536:=by have:=of_decide_eq_false c; omega
   refine ζg ϱ (fun b => ?_) fun b => ?_
   ·have f:256<=x / 2 ^ 32:=by have:=of_decide_eq_true b; omega
    have a:(x / 2 ^ 32) / 2 ^ 8<256:=by omega
    have d:=(Eg a).le (k:=8) a;exact Xa.shift Xb rfl (by omega) (Jo (x:=x / 2 ^ 32) (j:=8) (by decide)) rfl (ζj ϱ (Xa.arith Xb rfl (show IntKind.u8.wrap (((x / 2 ^ 32) / 2 ^ 8:Nat):Int)=(((x / 2 ^ 32) / 2 ^ 8:Nat):Int) from by rw [Km]; omega) rfl (Xa.sidx Xb rfl (by omega) (J3 (by decide +kernel) a) rfl (ζj ϱ (ζj ϱ (ζr func267 ϱ ⟨G8 ((x / 2 ^ 32) / 2 ^ 8)+(8+(32+0)),((((E2.self x).step (k:=32) g)).step (k:=8) f) _ (Eg a),X0 (by omega),rfl⟩))))))
   ·have a:(x / 2 ^ 32)<256:=by have:=of_decide_eq_false b; omega
    have d:=(Eg a).le (k:=8) a;exact Xa.arith Xb rfl (show IntKind.u8.wrap ((x / 2 ^ 32:Nat):Int)=((x / 2 ^ 32:Nat):Int) from by rw [Km]; omega) rfl (Xa.sidx Xb rfl (by omega) (J3 (by decide +kernel) a) rfl (ζj ϱ (ζj ϱ (ζr func267 ϱ ⟨G8 (x / 2 ^ 32)+(32+0),(((E2.self x).step (k:=32) g)) _ (Eg a),X0 (by omega),rfl⟩))))
 ·have l:x<4294967296:=by have:=of_decide_eq_false h; omega
  refine ζg ϱ (fun c => ?_) fun c => ?_
  ·have e:65536<=x:=by have:=of_decide_eq_true c; omega
   have i:(x) / 2 ^ 16<65536:=by omega
   refine Xa.shift Xb rfl (by omega) (Jo (x:=x) (j:=16) (by decide)) rfl (ζj ϱ (ζg ϱ (fun b => ?_) fun b => ?_))
   ·have f:256<=(x) / 2 ^ 16:=by have:=of_decide_eq_true b; omega
    have a:((x) / 2 ^ 16) / 2 ^ 8<256:=by omega
    have d:=(Eg a).le (k:=8) a;exact Xa.shift Xb rfl (by omega) (Jo (x:=(x) / 2 ^ 16) (j:=8) (by decide)) rfl (ζj ϱ (Xa.arith Xb rfl (show IntKind.u8.wrap ((((x) / 2 ^ 16) / 2 ^ 8:Nat):Int)=((((x) / 2 ^ 16) / 2 ^ 8:Nat):Int) from by rw [Km]; omega) rfl (Xa.sidx Xb rfl (by omega) (J3 (by decide +kernel) a) rfl (ζj ϱ (ζj ϱ (ζr func267 ϱ ⟨G8 (((x) / 2 ^ 16) / 2 ^ 8)+(8+(16+(0))),((((E2.self x).step (k:=16) e)).step (k:=8) f) _ (Eg a),X0 (by omega),rfl⟩))))))
   ·have a:((x) / 2 ^ 16)<256:=by have:=of_decide_eq_false b; omega
    have d:=(Eg a).le (k:=8) a;exact Xa.arith Xb rfl (show IntKind.u8.wrap (((x) / 2 ^ 16:Nat):Int)=(((x) / 2 ^ 16:Nat):Int) from by rw [Km]; omega) rfl (Xa.sidx Xb rfl (by omega) (J3 (by decide +kernel) a) rfl (ζj ϱ (ζj ϱ (ζr func267 ϱ ⟨G8 ((x) / 2 ^ 16)+(16+(0)),(((E2.self x).step (k:=16) e)) _ (Eg a),X0 (by omega),rfl⟩))))
  ·have i:(x)<65536:=by have:=of_decide_eq_false c; omega
   refine ζg ϱ (fun b => ?_) fun b => ?_
   ·have f:256<=x:=by have:=of_decide_eq_true b; omega
    have a:(x) / 2 ^ 8<256:=by omega
    have d:=(Eg a).le (k:=8) a;exact Xa.shift Xb rfl (by omega) (Jo (x:=x) (j:=8) (by decide)) rfl (ζj ϱ (Xa.arith Xb rfl (show IntKind.u8.wrap (((x) / 2 ^ 8:Nat):Int)=(((x) / 2 ^ 8:Nat):Int) from by rw [Km]; omega) rfl (Xa.sidx Xb rfl (by omega) (J3 (by decide +kernel) a) rfl (ζj ϱ (ζj ϱ (ζr func267 ϱ ⟨G8 ((x) / 2 ^ 8)+(8+(0)),((E2.self x).step (k:=8) f) _ (Eg a),X0 (by omega),rfl⟩))))))
   ·have a:(x)<256:=by have:=of_decide_eq_false b; omega
    have d:=(Eg a).le (k:=8) a;exact Xa.arith Xb rfl (show IntKind.u8.wrap ((x:Nat):Int)=((x:Nat):Int) from by rw [Km]; omega) rfl (Xa.sidx Xb rfl (by omega) (J3 (by decide +kernel) a) rfl (ζj ϱ (ζj ϱ (ζr func267 ϱ ⟨G8 (x)+(0),(E2.self x) _ (Eg a),X0 (by omega),rfl⟩))))
def cnt:List Bool->Nat
 |[]=>0
 |b::r=>(if b then 1 else 0)+cnt r
theorem Mg:∀ (x:List Bool),cnt x<=x.length
 |[]=>XE _
 |b::r=>by have:=Mg r; simp only [cnt,XP]; split <;> omega
theorem Rz:∀ {x:List Bool},cnt x=x.length -> ∀ j (h:j<x.length),x[j]=true
 |[],_,j,h=>by simp at h
 |b::r,a,j,h=>by
  have:=Mg r;simp only [cnt,XP] at a;cases b with
  |false=>simp at a; omega
  |true =>
   cases j with
   |zero=>rfl
   |succ j=>simp; exact Rz (by simp at a; omega) j (by simpa using h)
theorem Vf:∀ {x:List Bool},cnt x≠x.length -> ∃ j,∃ h:j<x.length,x[j]=false
 |[],a=>by simp [cnt] at a
 |b::r,a=>by
  cases b with
  |false=>exact ⟨0,by simp,rfl⟩
  |true =>
   have:cnt r≠r.length:=by simp only [cnt,XP] at a; simp at a; omega
   obtain ⟨j,h,e⟩:=Vf this;exact ⟨j+1,by simpa using h,by simpa using e⟩
theorem R0:∀ (x:List Bool) (i:Nat) (h:i<x.length) (b:Bool),cnt (x.set i b)+(if x[i] then 1 else 0)=cnt x+(if b then 1 else 0)
 |[],i,h,b=>by simp at h
 |a::r,0,h,b=>by simp only [List.set_cons_zero,cnt,List.getElem_cons_zero]; omega
 |a::r,i+1,h,b=>by
  have:=R0 r i (by simpa using h) b;simp only [List.set_cons_succ,cnt,List.getElem_cons_succ];omega
theorem Vg (n:Nat):cnt (List.replicate n false)=0:=by
 induction n with
 |zero=>rfl
 |succ n ih=>simp [ZR,cnt,ih]
def Fb (x:List Bool):Int:=idx (fun b => !b) x
def Ot (x:List Bool):Int:=Pq id x
def E7 (x:List Bool) (i:Int):Bool:=decide (0<=i) && x.getD i.toNat false
def E9 (x:List Bool) (i:Int):Bool:=decide (0<=i) && decide (i<x.length)
theorem XhF {x:List Bool} {i:Int} (h:E7 x i=true):E9 x i=true:=by
 unfold E7 at h;unfold E9;simp only [XK,decide_eq_true_eq] at h ⊢;refine ⟨h.1,?_⟩;rcases Nat.lt_or_ge i.toNat x.length with h2 | h2
 ·omega
 ·have:=h.2;rw [XC,XZ h2] at this;cases this
def D6 (x:List Bool) (i:Int) (b:Bool):Int :=
 if E9 x i=false then 1 else if b && E7 x i then 10 else if !b && !E7 x i then 9 else 0
def H7 (x:List Bool) (i:Int) (b:Bool):List Bool:=if D6 x i b=0 then x.set i.toNat b else x
def B3 (ws:List Nat) (x:List Bool):List Value:=ws.map (fun n:Nat=>Value.int .u64 (n:Int)) ++ [Value.int .i64 (x.length:Int),Value.int .i64 (cnt x:Int)]
structure Av (w:World) (b:Nat) (x:List Bool):Prop where
 tab:Az w
 ws:∃ ws:List Nat,ws.length=8/\(∀ k,ws.getD k 0<2 ^ 64)/\(∀ k j,j<64->(ws.getD k 0).testBit j=x.getD (64*k+j) false) /\
  w.heap[b]? = some (.cells (B3 ws x).toArray 312 (0,0))
 pos:1<=x.length
 len:x.length<=512
theorem Av.chg {S:Nat->Prop} {w w':World} {b:Nat} {x:List Bool} (h:Av w b x) (hc:Xc S w w') (hs:¬ S b) (hg:¬ S 0):Av w' b x:=by
 obtain ⟨ws,a,c,d,e⟩:=h.ws;exact ⟨h.tab.chg hc hg,⟨ws,a,c,d,hc.heap e hs⟩,h.pos,h.len⟩
theorem Av.grow {x:List Bool} (h:Av w b x) (hc:Xc Xe w w'):Av w' b x:=h.chg hc id id
theorem Av.ne {x:List Bool} (h:Av w b x):0≠b:=by
 obtain ⟨ws,a,f,g,d⟩:=h.ws;intro e;have:=h.tab 0 (by decide);subst e;rw [Yi d] at this
 match ws,a with
 |c::r,_=>simp [B3] at this
theorem XgT {x:List Bool} (h1:ws.length=8) (h:w.heap[b]? = some (.cells (B3 ws x).toArray 312 (0,0))):w.cell? ⟨b,8,none⟩=some (.int .i64 x.length):=by
 rw [Yi h]; simp [B3,h1]
theorem XgS {x:List Bool} (h1:ws.length=8) (h:w.heap[b]? = some (.cells (B3 ws x).toArray 312 (0,0))):w.cell? ⟨b,9,none⟩=some (.int .i64 (cnt x)):=by
 rw [Yi h]; simp [B3,h1]
theorem Uz {x:List Bool} (h1:ws.length=8) (h:w.heap[b]? = some (.cells (B3 ws x).toArray 312 (0,0))) (hk:k<8):w.cell? ⟨b,0+k,none⟩=some (.int .u64 (ws.getD k 0:Nat)):=by
 have a:k<ws.length:=by omega
 rw [Yi h,XQ];simp only [YH,XC,B3];rw [XV (by simpa using a),XN,XB a];rfl
theorem Av.many {x:List Bool} (h:Av w b x):w.cell? ⟨b,8,none⟩=some (.int .i64 x.length):=by
 obtain ⟨ws,a,d,e,c⟩:=h.ws; exact XgT a c
theorem Av.cnt {x:List Bool} (h:Av w b x):w.cell? ⟨b,9,none⟩=some (.int .i64 (cnt x)):=by
 obtain ⟨ws,a,d,e,c⟩:=h.ws; exact XgS a c
theorem Av.lt {x:List Bool} (h:Av w b x):b<w.heap.size:=by
 obtain ⟨ws,c,d,e,a⟩:=h.ws; exact Xg a
theorem Vu (n k:Nat) (x:α):(List.replicate n x).getD k x=x:=by
 rw [XC,XY]; split <;> rfl
theorem XgP (m:Nat) (w:World) (hT0:Az w) (h:1<=m/\m<=512):Xf prog 230 #[.int .i64 m] w (fun v w' => ∃ b,v = .tuple #[.pointer (some ⟨b,0,none⟩),.int .i64 0]/\w.heap.size<=b/\Av w' b (List.replicate m false)/\Xc Xe w w'):=by
 refine ζe func230 ntmps230 ϱ (ζf ϱ (ζf ϱ (ζb ϱ (ζn ϱ fun b f e1 d a e => ?_))));have c:(List.replicate m false).length=m:=XH;exact ζr func230 ϱ ⟨b,rfl,by omega,⟨hT0.grow a,⟨List.replicate 8 0,rfl,fun k=>by rw [Vu]; decide,fun k j g=>by rw [Vu,Vu]; simp,by unfold B3; rw [c,Vg]; exact d⟩,by omega,by omega⟩,a⟩
theorem Xb3 (b:Nat) (x:List Bool) (i:Int) (w:World) (h:Av w b x):Xf prog 269 #[.pointer (some ⟨b,0,none⟩),.int .i64 i] w (X7 (.bool (E9 x i)) w):=by
 refine ζe func269 ntmps269 ϱ (ζg ϱ (fun a => ?_) fun a => ?_)
 ·have c:=of_decide_eq_true a;exact ζk ϱ h.many ϱ (ζr func269 ϱ ⟨Q7 (by unfold E9; rw [decide_eq_true c]; rfl),rfl⟩)
 ·have c:=of_decide_eq_false a;exact ζr func269 ϱ ⟨Q7 (by unfold E9; rw [decide_eq_false c]; rfl),rfl⟩
theorem Ro (b:Nat) (x:List Bool) (i:Int) (w:World) (h:Av w b x):Xf prog 253 #[.pointer (some ⟨b,0,none⟩),.int .i64 i] w (X7 (.bool (E7 x i)) w):=by
 have n:=h.len;obtain ⟨ws,e,f,g,j⟩:=h.ws;refine ζe func253 ntmps253 ϱ (ζw (Xb3 b x i w h) ϱ ?_);cases a:E9 x i with
 |false =>
  have d:E7 x i=false:=by cases k:E7 x i; rfl; rw [XhF k] at a; cases a
  exact ζf ϱ (ζr func253 ϱ ⟨Q7 d.symm,rfl⟩)
 |true =>
  have l:0<=i/\i<x.length:=by unfold E9 at a; simpa using a
  obtain ⟨i,rfl⟩:=XD l.1;have m:i / 64<8:=by omega
  refine ζy ϱ (Xa.div Xb rfl (by omega) (Fh (by omega) (by omega)) rfl (ζi (i / 64) ϱ (ζk ϱ (Uz e j m) ϱ (Xa.div Xb rfl (by omega) (Fi (by omega)) rfl ?_))));rw [show ((i:Int) % 64)=((i % 64:Nat):Int) from by omega];refine Xa.shift Xb rfl (by omega) (Jo (by omega)) rfl (Xa.bits Xb rfl (XbY (y:=1) (Nat.lt_of_le_of_lt (Nat.div_le_self _ _) (f _)) (by decide)) rfl ?_);rw [Xgf];have c:=g (i / 64) (i % 64) (by omega);rw [show 64*(i / 64)+i % 64=i from by omega] at c;exact ζr func253 ϱ ⟨Q7 (by rw [XgM,c]; unfold E7; simp),rfl⟩
theorem Xb0 (b:Nat) (x:List Bool) (w:World) (h:Av w b x):Xf prog 256 #[.pointer (some ⟨b,0,none⟩)] w (X7 (.int .i64 (cnt x)) w):=by
 exact ζe func256 ntmps256 ϱ (ζk ϱ h.cnt ϱ (ζr func256 ϱ ⟨rfl,rfl⟩))
theorem XeW (hk:k<ws.length):(ws.map (fun n:Nat=>Value.int .u64 (n:Int))++rest).set k (.int .u64 (n:Int))=(ws.set k n).map (fun n:Nat=>Value.int .u64 (n:Int))++rest:=by
 rw [YN _ _ (by simpa using hk),ZV]
theorem Mn {l:List α} {x d:α} (hi:i<l.length):(l.set i x).getD j d=if j=i then x else l.getD j d:=by
 simp only [XC,YP];by_cases h:i=j
 ·subst h; simp [hi]
 ·rw [if_neg h,if_neg (Ne.symm h)]
theorem Jl:∀ (l:List Value) (i:Nat) (v:Value),i<l.length->Z2 l i [v]=some (l.set i v)
 |x::r,0,v,_=>by simp [Z2]
 |x::r,i+1,v,h=>by simp [Z2,Jl r i v (by simpa using h)]
theorem Xb2 (b:Nat) (x:List Bool) (i:Int) (is:Bool) (w:World) (h:Av w b x):Xf prog 255 #[.pointer (some ⟨b,0,none⟩),.int .i64 i,.bool is] w
 (fun v w'=>v = .int .i64 (D6 x i is)/\Av w' b (H7 x i is)/\Xc (fun z=>z=b) w w'):=by
 have V:=h.len;have L:=h.ne;have B:D6 x i is≠0->Av w b (H7 x i is):=fun S=>by unfold H7; rw [if_neg S]; exact h
 obtain ⟨ws,d,y,A,K⟩:=h.ws;refine ζe func255 ntmps255 ϱ (ζw (Xb3 b x i w h) ϱ ?_);cases e:E9 x i with
 |false =>
  have f:D6 x i is=1:=by unfold D6; rw [if_pos e]
  exact ζy ϱ (ζr func255 ϱ ⟨by rw [f],B (by rw [f]; decide),Xc.refl _ _⟩)
 |true =>
  refine ζf ϱ ?_;cases is with
  |true =>
   refine ζy ϱ (ζw (Ro b x i w h) ϱ ?_);cases g:E7 x i with
   |true =>
    have f:D6 x i true=10:=by unfold D6; rw [e,g]; rfl
    exact ζy ϱ (ζr func255 ϱ ⟨by rw [f],B (by rw [f]; decide),Xc.refl _ _⟩)
   |false =>
    refine ζf ϱ (ζf ϱ ?_);have M:0<=i/\i<x.length:=by unfold E9 at e; simpa using e
    obtain ⟨i,rfl⟩:=XD M.1;have N:i / 64<8:=by omega
    have C:(B3 ws x).length=10:=by simp [B3,d]
    have t:=A (i / 64) (i % 64) (by omega);rw [show 64*(i / 64)+i % 64=i from by omega] at t;have m:x.getD i false=false:=by have:=g; unfold E7 at this; simpa using this
    have o:(2:Nat) ^ (i % 64)<2 ^ 64:=Nat.pow_lt_pow_right (by decide) (by omega);obtain ⟨nw,l⟩:∃ nw,nw=ws.getD (i / 64) 0 ^^^ 2 ^ (i % 64):=⟨_,rfl⟩;refine ζd 14 Xe (by kernel_rfl) ϱ fun a=>Xd.div Xb a rfl (by omega) (Fh (by omega) (by omega)) rfl (δi (i / 64) a ϱ (δk a (Uz d K N) ϱ (Xd.div Xb a rfl (by omega) (Fi (by omega)) rfl ?_)));rw [show ((i:Int) % 64)=((i % 64:Nat):Int) from by omega];refine Xd.shift Xb a rfl (by omega) (XeY (by omega)) rfl (Xd.bits Xb a rfl (Uy (y _) o) rfl (δi (i / 64) a ϱ ?_));rw [<- l];refine δn a ϱ fun T p=>ζS ϱ (p.heap' K) (show Z2 (B3 ws x) (0+i / 64) [.int .u64 (nw:Int)]=some ((ws.set (i / 64) nw).map (fun n:Nat=>Value.int .u64 (n:Int)) ++ [Value.int .i64 (x.length:Int),Value.int .i64 (cnt x:Int)]) from by rw [XQ,Jl _ _ _ (by rw [C]; omega)]; unfold B3; rw [XeW (by omega)]) ϱ fun O q D Q => ?_;have E:O.cell? ⟨b,9,none⟩=some (.int .i64 (cnt x)):=by rw [Yi q]; simp [d]
    have P:=Mg x;have c:=R0 x i (by omega) true;have u:x[i]'(by omega)=false:=by rw [<- m,XC,XB (by omega)]; rfl
    rw [u] at c
    first | refine Xa.yes Xb rfl rfl rfl ?_ | refine Xa.no Xb rfl rfl rfl ?_
    refine ζk ϱ E ϱ (ζJ ϱ (by simp at c; omega) (ζS ϱ q (show Z2 ((ws.set (i / 64) nw).map (fun n:Nat=>Value.int .u64 (n:Int)) ++ [Value.int .i64 (x.length:Int),Value.int .i64 (cnt x:Int)]) 9 [.int .i64 ((cnt x:Int)+1)]=some (B3 (ws.set (i / 64) nw) (x.set i true)) from by rw [Jl _ _ _ (by simp [d]),List.set_append_right _ _ (by simp [d])]; unfold B3; simp [d]; simp at c; omega) ϱ fun U F G R => ?_));have r:=(p.gr.trans D).trans G;have f:D6 x i true=0:=by unfold D6; rw [e,g]; rfl
    have H:H7 x i true=x.set i true:=by unfold H7; rw [if_pos f]; simp
    exact Xa.ret1 Xb rfl func255 rfl rfl ⟨by rw [f],by rw [H]; exact ⟨h.tab.chg r L,⟨_,by simp [d],fun k=>by
     rw [Mn (by omega)];split
     ·rw [l]; exact Nat.xor_lt_two_pow (y _) o
     ·exact y k,fun k j I=>by
     rw [Mn (by omega),Mn (by omega)];by_cases s:k=i / 64
     ·subst s;rw [if_pos rfl,l,Nat.testBit_xor,Nat.testBit_two_pow,A _ j I];by_cases J:j=i % 64
      ·subst J;rw [if_pos (by omega),show 64*(i / 64)+i % 64=i from by omega,m]; simp
      ·rw [if_neg (by omega),decide_eq_false (by omega)]; simp
     ·rw [if_neg s,if_neg (by omega)];exact A k j I,F⟩,by simpa using h.pos,by simpa using h.len⟩,r⟩
  |false =>
   refine ζf ϱ (ζy ϱ (ζw (Ro b x i w h) ϱ ?_));cases g:E7 x i with
   |false =>
    have f:D6 x i false=9:=by unfold D6; rw [e,g]; rfl
    exact ζy ϱ (ζr func255 ϱ ⟨by rw [f],B (by rw [f]; decide),Xc.refl _ _⟩)
   |true =>
    refine ζf ϱ ?_;have M:0<=i/\i<x.length:=by unfold E9 at e; simpa using e
    obtain ⟨i,rfl⟩:=XD M.1;have N:i / 64<8:=by omega
    have C:(B3 ws x).length=10:=by simp [B3,d]
    have t:=A (i / 64) (i % 64) (by omega);rw [show 64*(i / 64)+i % 64=i from by omega] at t;have m:x.getD i false=true:=by have:=g; unfold E7 at this; simpa using this
    have o:(2:Nat) ^ (i % 64)<2 ^ 64:=Nat.pow_lt_pow_right (by decide) (by omega);obtain ⟨nw,l⟩:∃ nw,nw=ws.getD (i / 64) 0 ^^^ 2 ^ (i % 64):=⟨_,rfl⟩;refine ζd 14 Xe (by kernel_rfl) ϱ fun a=>Xd.div Xb a rfl (by omega) (Fh (by omega) (by omega)) rfl (δi (i / 64) a ϱ (δk a (Uz d K N) ϱ (Xd.div Xb a rfl (by omega) (Fi (by omega)) rfl ?_)));rw [show ((i:Int) % 64)=((i % 64:Nat):Int) from by omega];refine Xd.shift Xb a rfl (by omega) (XeY (by omega)) rfl (Xd.bits Xb a rfl (Uy (y _) o) rfl (δi (i / 64) a ϱ ?_));rw [<- l];refine δn a ϱ fun T p=>ζS ϱ (p.heap' K) (show Z2 (B3 ws x) (0+i / 64) [.int .u64 (nw:Int)]=some ((ws.set (i / 64) nw).map (fun n:Nat=>Value.int .u64 (n:Int)) ++ [Value.int .i64 (x.length:Int),Value.int .i64 (cnt x:Int)]) from by rw [XQ,Jl _ _ _ (by rw [C]; omega)]; unfold B3; rw [XeW (by omega)]) ϱ fun O q D Q => ?_;have E:O.cell? ⟨b,9,none⟩=some (.int .i64 (cnt x)):=by rw [Yi q]; simp [d]
    have P:=Mg x;have c:=R0 x i (by omega) false;have u:x[i]'(by omega)=true:=by rw [<- m,XC,XB (by omega)]; rfl
    rw [u] at c
    first | refine Xa.yes Xb rfl rfl rfl ?_ | refine Xa.no Xb rfl rfl rfl ?_
    refine ζk ϱ E ϱ (ζJ ϱ (by simp at c; omega) (ζS ϱ q (show Z2 ((ws.set (i / 64) nw).map (fun n:Nat=>Value.int .u64 (n:Int)) ++ [Value.int .i64 (x.length:Int),Value.int .i64 (cnt x:Int)]) 9 [.int .i64 ((cnt x:Int) - 1)]=some (B3 (ws.set (i / 64) nw) (x.set i false)) from by rw [Jl _ _ _ (by simp [d]),List.set_append_right _ _ (by simp [d])]; unfold B3; simp [d]; simp at c; omega) ϱ fun U F G R => ?_));have r:=(p.gr.trans D).trans G;have f:D6 x i false=0:=by unfold D6; rw [e,g]; rfl
    have H:H7 x i false=x.set i false:=by unfold H7; rw [if_pos f]; simp
    exact Xa.ret1 Xb rfl func255 rfl rfl ⟨by rw [f],by rw [H]; exact ⟨h.tab.chg r L,⟨_,by simp [d],fun k=>by
     rw [Mn (by omega)];split
     ·rw [l]; exact Nat.xor_lt_two_pow (y _) o
     ·exact y k,fun k j I=>by
     rw [Mn (by omega),Mn (by omega)];by_cases s:k=i / 64
     ·subst s;rw [if_pos rfl,l,Nat.testBit_xor,Nat.testBit_two_pow,A _ j I];by_cases J:j=i % 64
      ·subst J;rw [if_pos (by omega),show 64*(i / 64)+i % 64=i from by omega,m]; simp
      ·rw [if_neg (by omega),decide_eq_false (by omega)]; simp
     ·rw [if_neg s,if_neg (by omega)];exact A k j I,F⟩,by simpa using h.pos,by simpa using h.len⟩,r⟩
theorem Xh0 (h:y≠0):∃ t,y.testBit t=true /\ ∀ j,j<t->y.testBit j=false:=by
 obtain ⟨i,b⟩:=Nat.exists_testBit_of_ne_zero h;have key:∀ n,∀ i,i<=n->y.testBit i=true -> ∃ t,y.testBit t=true /\ ∀ j,j<t->y.testBit j=false:=by
  intro n
  induction n with
  |zero=>intro i b c; exact ⟨i,c,fun j d=>by omega⟩
  |succ n ih =>
   intro i b c;by_cases a:∀ j,j<i->y.testBit j=false
   ·exact ⟨i,c,a⟩
   ·have:∃ j,j<i/\y.testBit j=true:=by
     apply Classical.byContradiction
     intro e;apply a
     intro j d;cases g:y.testBit j with
     |false=>rfl
     |true=>exact (e ⟨j,d,g⟩).elim
    obtain ⟨j,d,f⟩:=this;exact ih j (by omega) f
 exact key i i (XE _) b
theorem XfS (hk:k<ws.length):(ws.map (fun n:Nat=>Value.int .u64 (n:Int)))[((k:Nat):Int).toNat]? = some (.int .u64 (ws.getD k 0:Nat)):=by
 rw [XA,XN,XB hk,XC,XB hk];rfl
theorem Xb4 {x:List Bool} (h1:ws.length=8) (h:w.heap[b]? = some (.cells (B3 ws x).toArray 312 (0,0))):∀ j v,(ws.map (fun n:Nat=>Value.int .u64 (n:Int)))[j]? = some v->w.cell? ⟨b,0+j,none⟩=some v:=fun j v a=>by
 have c:j<ws.length:=by have:=(List.getElem?_eq_some_iff.1 a).1; simpa using this
 rw [Yi h,XQ,YH];unfold B3;rw [XV (by simpa using c)];exact a
theorem XcT {x:List Bool} (h:x.getD j false=true):j<x.length:=by
 rcases Nat.lt_or_ge j x.length with h2 | h2
 ·exact h2
 ·rw [XC,XZ h2] at h; cases h
theorem G5 {x:List Bool} (h:j<x.length):x[j]=x.getD j false:=by simp [QH,h]
theorem Xb1 (b:Nat) (x:List Bool) (w:World) (h:Av w b x):Xf prog 252 #[.pointer (some ⟨b,0,none⟩)] w (Grow (.int .i64 (Fb x)) w):=by
 have J:=h.len;refine ζe func252 ntmps252 ϱ (Xa.quiet rfl Xo (by kernel_rfl) (Xi.adv Xb rfl (Xi.load Xb rfl h.cnt rfl (Xi.load Xb rfl h.many rfl (Xi.nil fun F l=>ζa ϱ ?_)))));have z:=h.grow l;obtain ⟨ws,G,s,u,H⟩:=z.ws;by_cases a:cnt x=x.length
 ·exact ζY ϱ (by rw [a]; exact beq_self_eq_true _) (ζr func252 ϱ ⟨X0 (Hs (p:=fun b => !b) (fun j i=>by rw [Rz a j i]; rfl)).symm,l⟩)
 ·obtain ⟨A,B,c⟩:=Vf a;rw [G5 B] at c;refine ζF ϱ (by simp; omega) (Xa.loadC Xb (ws.map (fun n:Nat=>Value.int .u64 (n:Int))) rfl (by first | rfl | (simp; done) | (simp [*]; done) | (simp; omega)) (Xb4 G H) rfl ?_);refine Xa.loop (α:=Nat) (fun k => [(3,false,.int .i64 (-1)),(23,false,.agg (ws.map (fun n:Nat=>Value.int .u64 (n:Int))).toArray),(24,false,.int .i64 k)])
   (fun k w'=>w'=F/\k<=8 /\ ∀ j,j<64*k->x.getD j false=true) (fun k=>8 - k) 0 ⟨rfl,rfl,rfl,trivial⟩ ⟨rfl,by omega,fun j i=>by omega⟩ ?_
  rintro k C ⟨I,K,e⟩ ih;subst I;refine ζa ϱ (ζg ϱ (fun v => ?_) fun v => ?_)
  ·have D:k<8:=by have:=of_decide_eq_true v; omega
   refine Xa.aidx Xb rfl (by first | rfl | (simp; done) | (simp [*]; done) | (simp; omega)) (by omega) (XfS (by omega)) rfl (Xa.un Xb rfl (XlG (s k)) rfl ?_);by_cases y:Ky (ws.getD k 0)=0
   ·rw [y];refine ζw (XgR C) ϱ (ζf ϱ (ζj ϱ ?_));exact ih (k+1) _ _ ⟨rfl,by omega,fun j i=>by
     by_cases d:j<64*k
     ·exact e j d
     ·have m:=Vk (x:=ws.getD k 0) (j:=j - 64*k) (by omega);rw [y,Nat.zero_testBit,u k _ (by omega),show 64*k+(j - 64*k)=j from by omega] at m
      simpa using m.symm⟩ (by omega) ⟨rfl,rfl,rfl,trivial⟩
   ·obtain ⟨t,g,q⟩:=Xh0 y;have f:t<64:=by
     rcases Nat.lt_or_ge t 64 with h' | h'
     ·exact h'
     ·rw [Nat.testBit_lt_two_pow (Nat.lt_of_lt_of_le (Xcv (s k)) (Nat.pow_le_pow_right (by decide) h'))] at g; cases g
    have E:x.getD (64*k+t) false=false:=by
     rw [<- u k t f];have:=Vk (x:=ws.getD k 0) f;rw [g] at this
     simpa using this.symm
    have o:∀ j,j<64*k+t->x.getD j false=true:=fun j i=>by
     by_cases d:j<64*k
     ·exact e j d
     ·have m:=Vk (x:=ws.getD k 0) (j:=j - 64*k) (by omega);rw [q _ (by omega),u k _ (by omega),show 64*k+(j - 64*k)=j from by omega] at m
      simpa using m.symm
    have r:64*k+t<x.length:=by
     rcases Nat.lt_or_ge (64*k+t) x.length with h' | h'
     ·exact h'
     ·rw [o A (by omega)] at c; cases c
    exact ζw (XgQ (Ky (ws.getD k 0)) t C z.tab (Xcv (s k)) f g q) ϱ (ζy ϱ (ζj ϱ (ζj ϱ (ζr func252 ϱ ⟨X0 (by have:=Im (p:=fun b => !b) r (fun j i d=>by rw [G5 i,o j d]; rfl) (by rw [G5 r,E]; rfl); unfold Fb; rw [this]; omega),l⟩))))
  ·exfalso
   have D:k=8:=by have:=of_decide_eq_false v; omega
   rw [e A (by omega)] at c; cases c
theorem XgN (b:Nat) (x:List Bool) (w:World) (h:Av w b x):Xf prog 251 #[.pointer (some ⟨b,0,none⟩)] w (X7 (.int .i64 (Ot x)) w):=by
 have K:=h.len;obtain ⟨ws,D,v,q,E⟩:=h.ws;refine ζe func251 ntmps251 ϱ (Xa.loadC Xb (ws.map (fun n:Nat=>Value.int .u64 (n:Int))) rfl (by first | rfl | (simp; done) | (simp [*]; done) | (simp; omega)) (Xb4 D E) rfl ?_);refine Xa.loop (α:=Nat × Int) (fun p => [(3,false,.int .i64 p.2),(11,false,.agg (ws.map (fun n:Nat=>Value.int .u64 (n:Int))).toArray),(12,false,.int .i64 p.1)])
  (fun p w'=>w'=w/\p.1<=8/\((p.2 = -1 /\ ∀ j,j<64*p.1->x.getD j false=false)\/(∃ i:Nat,i<64*p.1/\p.2=i/\x.getD i false=true /\ ∀ j,i<j->j<64*p.1->x.getD j false=false))) (fun p=>8 - p.1) (0,-1) ⟨rfl,rfl,rfl,trivial⟩ ⟨rfl,by omega,.inl ⟨rfl,fun j a=>by omega⟩⟩ ?_
 rintro ⟨k,at'⟩ F ⟨G,H,e⟩ ih;simp only at H e
 subst G;refine ζa ϱ (ζg ϱ (fun r => ?_) fun r => ?_)
 ·have m:k<8:=by have:=of_decide_eq_true r; omega
  refine Xa.aidx Xb rfl (by first | rfl | (simp; done) | (simp [*]; done) | (simp; omega)) (by omega) (XfS (by omega)) rfl ?_;by_cases s:ws.getD k 0=0
  ·refine ζF ϱ (by rw [s]; rfl) (ζj ϱ ?_);have o:∀ j,64*k<=j->j<64*(k+1)->x.getD j false=false:=fun j a d=>by
    have y:=q k (j - 64*k) (by omega);rw [s,Nat.zero_testBit,show 64*k+(j - 64*k)=j from by omega] at y;exact y.symm
   refine ih (k+1,at') _ _ ⟨rfl,by simp only; omega,?_⟩ (by simp only; omega) ⟨rfl,rfl,rfl,trivial⟩;rcases e with ⟨f,c⟩ | ⟨i,f,c,g,t⟩
   ·exact .inl ⟨f,fun j a=>by by_cases l:j<64*k; exact c j l; exact o j (by omega) a⟩
   ·exact .inr ⟨i,by simp only; omega,c,g,fun j a d=>by by_cases l:j<64*k; exact t j a l; exact o j (by omega) d⟩
  ·refine ζY ϱ (by simpa using s) (ζj ϱ (ζc ϱ (XgO (ws.getD k 0) F (v k)) ?_));rintro _ L ⟨n,u,rfl,rfl⟩;have z:=u.pos (by omega);have I:=u.le (v k);refine ζa ϱ (ζj ϱ (ζj ϱ (ζj ϱ ?_)));obtain ⟨A,B⟩:=u.top z;refine ih (k+1,(k:Int)*64+n - 1) _ _ ⟨rfl,by simp only; omega,.inr ⟨64*k+(n - 1),by simp only; omega,by simp only; omega,?_,fun j a d => ?_⟩⟩ (by simp only; omega) ⟨rfl,rfl,rfl,trivial⟩
   ·rw [<- q k (n - 1) (by omega)]; exact A
   ·have:=q k (j - 64*k) (by simp only at d; omega);rw [show 64*k+(j - 64*k)=j from by omega] at this;rw [<- this];exact B _ (by omega)
 ·have m:k=8:=by have:=of_decide_eq_false r; omega
  subst m;have J:at'=Ot x:=by
   unfold Ot;rcases e with ⟨f,c⟩ | ⟨i,f,c,g,t⟩
   ·rw [f,Xez (fun j a=>by rw [G5 a]; exact c j (by omega))]
   ·rw [c,XaG (XcT g) (fun j a C=>by rw [G5 a]; exact t j C (by omega)) (by rw [G5 (XcT g)]; exact g)]
  exact ζr func251 ϱ ⟨X0 J,rfl⟩
def Yu (x:List Int):List Bool:=x.map fun o => !(o == -1)
def Z8 (x:List Int) (i:Int):Int:=if 0<=i then x.getD i.toNat (-1) else -1
def Z7 (x:List Int):Int:=Fb (Yu x)
def J6 (x:List Int):Int:=Ot (Yu x)
def Xv (x:List Int):Nat:=cnt (Yu x)
def Co (x:List Int) (who:Int):Int:=if who<0 then 1 else if Z7 x<0 then 5 else 0
def Ce (x:List Int) (who:Int):Int:=if Co x who=0 then Z7 x else 0
def Zy (x:List Int) (who:Int):List Int:=if Co x who=0 then x.set (Z7 x).toNat who else x
def Qp (x:List Int) (i:Int):Int:=if i<0\/(x.length:Int)<=i then 1 else if Z8 x i = -1 then 9 else 0
def Z6 (x:List Int) (i:Int):List Int:=if Qp x i=0 then x.set i.toNat (-1) else x
def Aa (x:List Int) (i who:Int):Int:=if i<0\/(x.length:Int)<=i\/who<0 then 1 else if Z8 x i = -1 then 9 else 0
def Bf (x:List Int) (i who:Int):List Int:=if Aa x i who=0 then x.set i.toNat who else x
theorem Eh (x:List Int):(Yu x).length=x.length:=by simp [Yu]
theorem O9 (x:List Int) (k:Nat):(Yu x).getD k false = !(x.getD k (-1) == -1):=by
 unfold Yu;rw [XC,XN,XC];cases h:x[k]? <;> simp
theorem Sv (x:List Int) (i:Int):E7 (Yu x) i = !(Z8 x i == -1):=by
 unfold E7 Z8;rw [O9];by_cases h:0<=i
 ·rw [if_pos h,decide_eq_true h]; rfl
 ·rw [if_neg h,decide_eq_false h]; rfl
theorem Xal (x:List Int) (i:Int):E9 (Yu x) i=true↔0<=i/\i<x.length:=by
 unfold E9; rw [Eh]; simp
theorem Ss (x:List Int) (i:Nat) (v:Int):Yu (x.set i v)=(Yu x).set i (!(v == -1)):=by
 unfold Yu; rw [ZV]
theorem Xak {x:List Int} {i:Int} (h:i<0\/(x.length:Int)<=i):Z8 x i = -1:=by
 unfold Z8;by_cases a:0<=i
 ·rw [if_pos a,XC,XZ (by omega)]; rfl
 ·rw [if_neg a]
theorem Xcm:∀ (x:List Bool) (k:Nat) (h:k<x.length),cnt (x.take (k+1))=cnt (x.take k)+(if x[k] then 1 else 0)
 |[],k,h=>by simp at h
 |a::r,0,h=>by simp [cnt]
 |a::r,k+1,h=>by
  have:=Xcm r k (by simpa using h);simp only [List.take_succ_cons,cnt,List.getElem_cons_succ];rw [this]; omega
theorem Xdm {x:List Bool} (hfull:cnt x≠x.length):∃ t,t<x.length/\x.getD t false=false /\ ∀ j,j<t->x.getD j false=true:=by
 obtain ⟨g,e,a⟩:=Vf hfull;have key:∀ m t,t<=m->t<x.length->x.getD t false=false -> ∃ t,t<x.length/\x.getD t false=false /\ ∀ j,j<t->x.getD j false=true:=by
  intro m
  induction m with
  |zero=>intro t i b c; exact ⟨t,b,c,fun j f=>by omega⟩
  |succ m ihm =>
   intro t i b c;by_cases d:∀ j,j<t->x.getD j false=true
   ·exact ⟨t,b,c,d⟩
   ·have:∃ j,j<t/\x.getD j false=false:=by
     apply Classical.byContradiction
     intro h;apply d
     intro j f;cases k:x.getD j false with
     |true=>rfl
     |false=>exact (h ⟨j,f,k⟩).elim
    obtain ⟨j,f,a⟩:=this;exact ihm j (by omega) (by omega) a
 exact key g g (XE _) e (by rw [<- G5 e]; exact a)
theorem Xh8 {x:List Bool} (h:0<=Fb x):(Fb x).toNat<x.length/\x.getD (Fb x).toNat false=false:=by
 unfold Fb at h ⊢;by_cases e:cnt x=x.length
 ·rw [Hs (p:=fun b => !b) (fun j d=>by rw [Rz e j d]; rfl)] at h;exact absurd h (by decide)
 ·obtain ⟨t,a,c,f⟩:=Xdm e;rw [Im (p:=fun b => !b) a (fun j d g=>by rw [G5 d,f j g]; rfl) (by rw [G5 a,c]; rfl)];exact ⟨a,c⟩
theorem Wu {x:List Bool}:Fb x<0↔cnt x=x.length:=by
 unfold Fb;by_cases a:cnt x=x.length
 ·rw [Hs (p:=fun b => !b) (fun j d=>by rw [Rz a j d]; rfl)];exact ⟨fun _=>a,fun _=>by decide⟩
 ·obtain ⟨t,c,e,f⟩:=Xdm a;rw [Im (p:=fun b => !b) c (fun j d g=>by rw [G5 d,f j g]; rfl) (by rw [G5 c,e]; rfl)];exact ⟨fun h=>by omega,fun h=>absurd h a⟩
structure Pg where
 p:Nat
 bb:Nat
 mb:Nat
abbrev D3 (g:Pg):Value := .pointer (some ⟨g.p,0,none⟩)
def Ff (g:Pg):Nat->Prop:=fun z=>z=g.bb\/z=g.mb
def Pb (g:Pg) (x:List Int):List Value := [.pointer (some ⟨g.bb,0,none⟩),.int .i64 (x.length:Int),.map (some g.mb)]
structure Qu (w:World) (g:Pg) (x:List Int):Prop where
 pc:w.heap[g.p]? = some (.cells (Pb g x).toArray 286 (0,0))
 bits:Av w g.bb (Yu x)
 own:∃ m,Yq w g.mb m/\(A0 m).Nodup /\ ∀ i,i<x.length->x.getD i (-1) ≠ -1->A8 m i=some (.int .i64 (x.getD i (-1)))
 npb:g.p≠g.bb
 npm:g.p≠g.mb
 nbm:g.bb≠g.mb
theorem Qu.chg {S:Nat->Prop} {w w':World} {g:Pg} {x:List Int} (h:Qu w g x) (hc:Xc S w w') (h1:¬ S g.p) (h2:¬ S g.bb) (h3:¬ S g.mb) (hg:¬ S 0):Qu w' g x:=by
 obtain ⟨m,a,b,c⟩:=h.own;exact ⟨hc.heap h.pc h1,h.bits.chg hc h2 hg,⟨m,a.chg hc h3,b,c⟩,h.npb,h.npm,h.nbm⟩
theorem Qu.grow {g:Pg} {x:List Int} (h:Qu w g x) (hc:Xc Xe w w'):Qu w' g x:=h.chg hc id id id id
theorem Qu.lt {w:World} {g:Pg} {x:List Int} (h:Qu w g x):g.p<w.heap.size/\g.bb<w.heap.size/\g.mb<w.heap.size:=by
 obtain ⟨m,a,b,c⟩:=h.own;exact ⟨Xg h.pc,h.bits.lt,a.lt⟩
theorem Qu.footlt {g:Pg} {x:List Int} (h:Qu w g x):∀ b,Ff g b->b<w.heap.size:=fun b a=>by
 obtain ⟨_,c,d⟩:=h.lt;rcases a with rfl | rfl
 ·exact c
 ·exact d
theorem Qu.notab {g:Pg} {x:List Int} (h:Qu w g x):0≠g.mb:=fun e=>by
 obtain ⟨m,⟨es,c,a,_⟩,b,d⟩:=h.own;have:=h.bits.tab 0 (by decide);rw [e] at this;simp only [World.cell?,a] at this;cases this
theorem XdT (m:Nat) (w:World) (hT0:Az w) (h:1<=m/\m<=512):Xf prog 187 #[.int .i64 m] w
 (fun v w' => ∃ g,v = .tuple #[D3 g,.int .i64 0]/\(w.heap.size<=g.p/\w.heap.size<=g.bb/\w.heap.size<=g.mb)/\Qu w' g (List.replicate m (-1))/\Xc Xe w w'):=by
 refine ζe func187 ntmps187 ϱ (ζc ϱ (XgP m w hT0 h) ?_);rintro _ y ⟨bb,rfl,f,c,d⟩;refine ζa ϱ (ζf ϱ (Xa.mkmap rfl fun mb z r j e s=>ζa ϱ (ζb ϱ (ζn ϱ fun p A e3 q a t => ?_))));have k:=(c.grow e).grow a;have u:=c.lt;have x:=d.size;have b:(List.replicate m (-1:Int)).length=m:=XH;have l:Yu (List.replicate m (-1))=List.replicate m false:=by simp [Yu]
 refine ζr func187 ϱ ⟨⟨p,bb,mb⟩,rfl,⟨by simp only; omega,f,by simp only; omega⟩,⟨by unfold Pb; rw [b]; exact q,by rw [l]; exact k,⟨[],j.chg a id,YA,fun i n o=>absurd (by rw [b] at n; rw [XC,XY,if_pos n]; rfl) o⟩,by simp only; omega,by simp only; omega,by simp only; omega⟩,(d.trans e).trans a⟩
theorem XdX (g:Pg) (x:List Int) (w:World) (h:Qu w g x):Xf prog 259 #[D3 g] w (X7 (.int .i64 (Xv x)) w):=by
 exact ζe func259 ntmps259 ϱ (ζl h.pc ϱ (ζw (Xb0 g.bb _ w h.bits) ϱ (ζr func259 ϱ ⟨rfl,rfl⟩)))
theorem XiO (g:Pg) (x:List Int) (w:World) (h:Qu w g x):Xf prog 218 #[D3 g] w (Grow (.int .i64 (Z7 x)) w):=by
 exact ζe func218 ntmps218 ϱ (ζl h.pc ϱ (ζv (Xb1 g.bb _ w h.bits) ϱ fun b a=>ζr func218 ϱ ⟨rfl,a⟩))
theorem XiR (g:Pg) (x:List Int) (w:World) (h:Qu w g x):Xf prog 217 #[D3 g] w (X7 (.int .i64 (J6 x)) w):=by
 exact ζe func217 ntmps217 ϱ (ζl h.pc ϱ (ζw (XgN g.bb _ w h.bits) ϱ (ζr func217 ϱ ⟨rfl,rfl⟩)))
theorem O6 (g:Pg) (x:List Int) (w:World) (h:Qu w g x):Xf prog 223 #[D3 g] w (Grow (.bool ((Xv x:Int) == x.length)) w):=by
 exact ζe func223 ntmps223 ϱ (ζd 15 Xe (by kernel_rfl) ϱ fun a=>Xd.yes Xb a rfl rfl rfl (δl a h.pc ϱ (δw a (fun w' b=>Xb0 g.bb _ w' (h.bits.grow b)) ϱ (δl a h.pc ϱ (δn a ϱ fun d c=>ζr func223 ϱ ⟨rfl,c⟩)))))
theorem XiQ (g:Pg) (x:List Int) (i:Int) (w:World) (h:Qu w g x):Xf prog 220 #[D3 g,.int .i64 i] w (X7 (.int .i64 (Z8 x i)) w):=by
 refine ζe func220 ntmps220 ϱ (ζf ϱ (ζl h.pc ϱ (ζw (Ro g.bb _ i w h.bits) ϱ ?_)));rw [Sv];cases d:(Z8 x i == -1) with
 |true =>
  exact ζy ϱ (ζr func220 ϱ ⟨X0 (show -1=Z8 x i from (by simpa using d:Z8 x i = -1).symm),rfl⟩)
 |false =>
  refine ζf ϱ ?_;obtain ⟨m,e,j,f⟩:=h.own;have a:Z8 x i ≠ -1:=by simpa using d
  have b:0<=i/\i<x.length:=Classical.byContradiction fun l=>a (Xak (by omega));obtain ⟨k,rfl⟩:=XD b.1;have c:Z8 x k=x.getD k (-1):=by unfold Z8; rw [if_pos b.1]; rfl
  exact ζl h.pc ϱ (Xa.lookup Xb rfl (e) ((show A1 m (.int .i64 0) k false = .int .i64 (Z8 x k) by unfold A1; rw [(f k (by omega) (by rw [<- c]; exact a)),c]; rfl)) rfl (ζr func220 ϱ ⟨rfl,rfl⟩))
theorem XdV (i:Int) (w:World):Xf prog 220 #[.pointer none,.int .i64 i] w (X7 (.int .i64 (-1)) w):=by
 exact ζe func220 ntmps220 ϱ (ζr func220 ϱ ⟨rfl,rfl⟩)
variable {G:Nat->Pg}
theorem Sw {x:List Int} (h:¬ Z7 x<0):(Z7 x).toNat<x.length/\x.getD (Z7 x).toNat (-1) = -1:=by
 obtain ⟨a,b⟩:=Xh8 (x:=Yu x) (by unfold Z7 at h; omega);rw [Eh] at a;rw [O9] at b;exact ⟨a,show x.getD (Fb (Yu x)).toNat (-1) = -1 by simpa using b⟩
theorem Mp (x:List Int) (i j:Nat) (v:Int):(x.set i v).getD j (-1)=if i=j/\i<x.length then v else x.getD j (-1):=by
 rw [XC,YP,XC];by_cases h:i=j
 ·subst h;by_cases a:i<x.length
  ·simp [a]
  ·simp [a]
 ·simp [h]
theorem XdW (g:Pg) (x:List Int) (who:Int) (w:World) (h:Qu w g x):Xf prog 222 #[D3 g,.int .i64 who] w
 (fun v w'=>v = .tuple #[.int .i64 (Ce x who),.int .i64 (Co x who)]/\Qu w' g (Zy x who)/\Xc (Ff g) w w'):=by
 have A:=h.bits.len;rw [Eh] at A;by_cases B:who<0
 ·have a:Co x who=1:=by unfold Co; rw [if_pos B]
  have j:Ce x who=0:=by unfold Ce; rw [a]; rfl
  have k:Zy x who=x:=by unfold Zy; rw [a]; rfl
  rw [a,j,k];exact ζe func222 ntmps222 ϱ (ζy ϱ (ζr func222 ϱ ⟨rfl,h,Xc.refl _ _⟩))
 ·by_cases c:Z7 x<0
  ·have a:Co x who=5:=by unfold Co; rw [if_neg B,if_pos c]
   have j:Ce x who=0:=by unfold Ce; rw [a]; rfl
   have k:Zy x who=x:=by unfold Zy; rw [a]; rfl
   have b:((Xv x:Int) == x.length)=true:=by have:=Wu.1 c; rw [Eh] at this; unfold Xv; rw [this]; exact beq_self_eq_true _
   rw [a,j,k];refine ζe func222 ntmps222 ϱ (ζf ϱ (ζv (O6 g x w h) ϱ fun D d => ?_));rw [b];exact ζy ϱ (ζr func222 ϱ ⟨rfl,h.grow d,d.mono (fun _ _ h=>h.elim)⟩)
  ·have a:Co x who=0:=by unfold Co; rw [if_neg B,if_neg c]
   have j:Ce x who=Z7 x:=by unfold Ce; rw [a]; rfl
   have k:Zy x who=x.set (Z7 x).toNat who:=by unfold Zy; rw [a]; rfl
   have b:((Xv x:Int) == x.length)=false:=by
    rw [beq_eq_false_iff_ne];intro e;exact c (Wu.2 (by rw [Eh]; unfold Xv at e; omega))
   obtain ⟨s,t⟩:=Sw c;rw [a,j,k];refine ζe func222 ntmps222 ϱ (ζf ϱ (ζv (O6 g x w h) ϱ fun D d => ?_));rw [b];have l:=h.grow d;refine ζf ϱ (ζl l.pc ϱ (ζv (Xb1 g.bb _ D l.bits) ϱ fun I u => ?_));have f:=l.grow u;obtain ⟨m,J,K,E⟩:=f.own;refine ζl f.pc ϱ (Xa.mapset Xb rfl (J) fun L F n O=>ζa ϱ ?_);have o:=n.heap f.pc h.npm;refine ζl o ϱ (ζc ϱ (Xb2 g.bb _ (Fb (Yu x)) true L (f.bits.chg n h.nbm f.notab)) ?_);rintro _ M ⟨rfl,y,p⟩;refine ζa ϱ ?_;have z:D6 (Yu x) (Fb (Yu x)) true=0:=by
    unfold D6;rw [if_neg (by rw [(Xal x _).2 ⟨by unfold Z7 at c; omega,by unfold Z7 at s c; omega⟩]; decide),if_neg (by rw [Sv]; unfold Z8; unfold Z7 at t; rw [t]; split <;> decide),if_neg (by simp)]
   have G:H7 (Yu x) (Fb (Yu x)) true=Yu (x.set (Z7 x).toNat who):=by
    unfold H7;rw [if_pos z,Ss,show (!(who == -1))=true from by simp; omega]; rfl
   rw [z];rw [G] at y;have C:Xc (Ff g) I M:=(n.mono fun _ _ h => .inr h).trans (p.mono fun _ _ h => .inl h);have q:=p.heap o h.npb;exact Xa.ret2 Xb rfl func222 rfl rfl rfl ⟨rfl,⟨by unfold Pb at q ⊢; rw [XF]; exact q,y,⟨_,(F.chg p h.nbm.symm),W6 K _ _,fun i H r=>by
    rw [Ih,Mp];rw [XF] at H;by_cases e:(i:Int)=Fb (Yu x)
    ·rw [if_pos e,if_pos ⟨by unfold Z7; omega,s⟩]
    ·rw [Mp] at r;have e':¬ ((Z7 x).toNat=i/\(Z7 x).toNat<x.length):=fun N=>e (by unfold Z7 at N c; omega);rw [if_neg e'] at r ⊢;rw [if_neg e];exact E i H r⟩,h.npb,h.npm,h.nbm⟩,(((d.trans u).mono (fun _ _ h=>h.elim)).trans C)⟩
theorem XiN (g:Pg) (x:List Int) (i:Int) (w:World) (h:Qu w g x):Xf prog 228 #[D3 g,.int .i64 i] w
 (fun v w'=>v = .int .i64 (Qp x i)/\Qu w' g (Z6 x i)/\Xc (Ff g) w w'):=by
 have q:D6 (Yu x) i false=Qp x i:=by
  unfold D6 Qp;by_cases r:0<=i/\i<x.length
  ·rw [if_neg (by rw [(Xal x i).2 r]; decide),if_neg (by simp),if_neg (show ¬ (i<0\/(x.length:Int)<=i) by omega),Sv];by_cases a:Z8 x i = -1
   ·rw [if_pos a,if_pos (by rw [a]; rfl)]
   ·rw [if_neg a,if_neg (by simpa using a)]
  ·rw [if_pos (by cases C:E9 (Yu x) i; rfl; exact absurd ((Xal x i).1 C) r),if_pos (by omega)]
 have D:H7 (Yu x) i false=Yu (Z6 x i):=by
  unfold H7 Z6;rw [q];split
  ·rw [Ss]; rfl
  ·rfl
 have l:(Z6 x i).length=x.length:=by unfold Z6; split <;> simp
 obtain ⟨m,E,s,t⟩:=h.own;refine ζe func228 ntmps228 ϱ (ζl h.pc ϱ (Xa.mapdel Xb rfl (E) fun u y b G=>ζa ϱ ?_));have c:=b.heap h.pc h.npm;have z:Av u g.bb (Yu x):=h.bits.chg b h.nbm h.notab;refine ζl c ϱ (ζc ϱ (Xb2 g.bb _ i false u z) ?_);rintro _ I ⟨rfl,n,d⟩;refine ζa ϱ ?_;rw [q];rw [D] at n;have A:=y.chg d h.nbm.symm;have f:=d.heap c h.npb;exact Xa.ret1 Xb rfl func228 rfl rfl ⟨rfl,⟨by unfold Pb at f ⊢; rw [l]; exact f,n,⟨_,A,XdJ s _,fun j o k=>by
  rw [l] at o;rw [Kq s];by_cases e:(j:Int)=i
  ·exfalso
   apply k
   unfold Z6 Qp;subst e;have B:Z8 x (j:Int)=x.getD j (-1):=by unfold Z8; rw [if_pos (by omega)]; rfl
   rw [if_neg (show ¬ ((j:Int)<0\/(x.length:Int)<=j) by omega)];by_cases a:Z8 x (j:Int) = -1
   ·rw [if_pos a,if_neg (by decide),<- B]; exact a
   ·rw [if_neg a,if_pos rfl,XA,Mp,if_pos ⟨rfl,o⟩]
  ·rw [if_neg e];have F:(Z6 x i).getD j (-1)=x.getD j (-1):=by
    unfold Z6;split
    ·rename_i p
     have H:0<=i:=Classical.byContradiction fun J=>by unfold Qp at p; rw [if_pos (by omega)] at p; cases p
     rw [Mp,if_neg (by omega)]
    ·rfl
   rw [F] at k ⊢;exact t j o k⟩,h.npb,h.npm,h.nbm⟩,(b.mono fun _ _ h => .inr h).trans (d.mono fun _ _ h => .inl h)⟩
theorem XiP (g:Pg) (x:List Int) (i who:Int) (w:World) (h:Qu w g x):Xf prog 232 #[D3 g,.int .i64 i,.int .i64 who] w
 (fun v w'=>v = .int .i64 (Aa x i who)/\Qu w' g (Bf x i who)/\Xc (Ff g) w w'):=by
 have n:∀ e:Int,Aa x i who=e->e≠0->Bf x i who=x:=fun e q r=>by unfold Bf; rw [q,if_neg r]
 refine ζe func232 ntmps232 ϱ ?_;by_cases q:who<0
 ·have a:Aa x i who=1:=by unfold Aa; rw [if_pos (by omega)]
  rw [a,n 1 a (by decide)];exact ζy ϱ (ζr func232 ϱ ⟨rfl,h,Xc.refl _ _⟩)
 refine ζf ϱ ?_;by_cases r:i<0
 ·have a:Aa x i who=1:=by unfold Aa; rw [if_pos (by omega)]
  rw [a,n 1 a (by decide)];exact ζy ϱ (ζr func232 ϱ ⟨rfl,h,Xc.refl _ _⟩)
 refine ζf ϱ (ζl h.pc ϱ ?_);by_cases D:(x.length:Int)<=i
 ·have a:Aa x i who=1:=by unfold Aa; rw [if_pos (by omega)]
  rw [a,n 1 a (by decide)];exact ζy ϱ (ζr func232 ϱ ⟨rfl,h,Xc.refl _ _⟩)
 refine ζf ϱ (ζl h.pc ϱ (ζw (Ro g.bb _ i w h.bits) ϱ ?_));rw [Sv];by_cases d:Z8 x i = -1
 ·have a:Aa x i who=9:=by unfold Aa; rw [if_neg (by omega),if_pos d]
  rw [a,n 9 a (by decide),d];exact ζy ϱ (ζr func232 ϱ ⟨rfl,h,Xc.refl _ _⟩)
 ·have a:Aa x i who=0:=by unfold Aa; rw [if_neg (by omega),if_neg d]
  have z:Bf x i who=x.set i.toNat who:=by unfold Bf; rw [a]; rfl
  rw [a,z];refine ζF ϱ (show (!!(Z8 x i == -1))=false by simpa using d) ?_;obtain ⟨m,A,B,s⟩:=h.own;refine ζl h.pc ϱ (Xa.mapset Xb rfl (A) fun E t f C=>ζa ϱ ?_);have l:=f.heap h.pc h.npm;obtain ⟨k,rfl⟩:=XD (show 0<=i by omega);have u:Z8 x (k:Int)=x.getD k (-1):=by unfold Z8; rw [if_pos (by omega)]; rfl
  have y:Yu (x.set k who)=Yu x:=by
   rw [Ss,show (!(who == -1))=true from by simp; omega];apply QB
   intro j;rw [YP];split
   ·rename_i e
    subst e;have:=O9 x k;rw [XC,show (!(x.getD k (-1) == -1))=true from by rw [<- u]; simpa using d] at this;cases p:(Yu x)[k]? with
    |none=>rw [p] at this; cases this
    |some b=>rw [p] at this; simp at this; subst this; rw [if_pos (List.getElem?_eq_some_iff.1 p).1]
   ·rfl
  exact Xa.ret1 Xb rfl func232 rfl rfl ⟨rfl,⟨by unfold Pb at l ⊢; rw [XF]; exact l,by rw [XA,y]; exact (h.bits.chg f h.nbm h.notab),⟨_,t,W6 B _ _,fun j o c=>by
   rw [XA] at o c ⊢;rw [XF] at o;rw [Ih];rw [Mp] at c ⊢;by_cases e:(j:Int)=k
   ·have e':k=j:=by omega
    subst e';rw [if_pos rfl,if_pos ⟨rfl,o⟩]
   ·rw [if_neg (show ¬ (k=j/\k<x.length) by omega)] at c ⊢;rw [if_neg e];exact s j o c⟩,h.npb,h.npm,h.nbm⟩,f.mono fun _ _ h => .inr h⟩
theorem XdU (i who:Int) (w:World):Xf prog 232 #[.pointer none,.int .i64 i,.int .i64 who] w (X7 (.int .i64 1) w):=by
 exact ζe func232 ntmps232 ϱ (ζr func232 ϱ ⟨rfl,rfl⟩)
theorem E5 {a t':Nat} {c c':Array Value} {f f':Nat × Nat} (h:w.heap[a]? = some (.cells c t f)) (h':w.heap[b]? = some (.cells c' t' f')) (ht:t≠t'):a≠b:=by
 intro e; subst e; rw [h] at h'; cases h'; exact ht rfl
def B0 (len:Nat) (f:Nat->Int):List Value:=(List.range len).map fun i => .int .i64 (f i)
def Yd (w:World) (b:Nat) (t:TypeId) (len:Nat) (f:Nat->Int):Prop:=w.heap[b]? = some (.cells (B0 len f).toArray t (0,0))
def Ze (f:Nat->Int) (i:Nat) (v:Int):Nat->Int:=fun j=>if j=i then v else f j
theorem C7 (f:Nat->Int) (i:Nat) (v:Int):Ze f i v i=v:=by unfold Ze; rw [if_pos rfl]
theorem Yk (f:Nat->Int) (v:Int) (h:j≠i):Ze f i v j=f j:=by unfold Ze; rw [if_neg h]
theorem Xa6 (len:Nat) (f:Nat->Int):(B0 len f).length=len:=by unfold B0; simp
theorem Xa7 {v:Int} (hi:i<len):(B0 len f).set i (.int .i64 v)=B0 len (Ze f i v):=by
 refine QB fun j => ?_;unfold B0;rw [YP];by_cases h:i=j
 ·subst h;rw [if_pos rfl,if_pos (by simpa using hi),XN,List.getElem?_range hi];simp [Ze]
 ·rw [if_neg h,XN,XN];by_cases a:j<len
  ·rw [List.getElem?_range a];simp [Ze,Ne.symm h]
  ·rw [XZ (by simpa using a)];rfl
theorem Dz {t:TypeId} (h:Yd w b t len f) (e:j=k) (hk:k<len):w.cell? ⟨b,j,none⟩=some (.int .i64 (f k)):=by
 subst e;rw [Yi h];unfold B0;simp [hk]
theorem XaO:∀ (l:List Value) (i:Nat) (v:Value) (vs:List Value),i<l.length->Z2 l i (v::vs)=Z2 (l.set i v) (i+1) vs
 |x::r,0,v,vs,_=>rfl
 |x::r,i+1,v,vs,h=>by
  show (match Z2 r i (v::vs) with | some q=>some (x::q) | none=>none)=(match Z2 (r.set i v) (i+1) vs with | some q=>some (x::q) | none=>none)
  rw [XaO r i v vs (by simpa using h)]
theorem H8 {v:Int} (e:j=i) (hi:i<len):Z2 (B0 len f) j [.int .i64 v]=some (B0 len (Ze f i v)):=by
 subst e;rw [Jl _ _ _ (by rw [Xa6]; exact hi),Xa7 hi]
theorem Lp {v:Int} (e:j=i) (hi:i+1<len):Z2 (B0 len f) j [.int .i64 v,.int .i64 u]=some (B0 len (Ze (Ze f i v) (i+1) u)):=by
 subst e;rw [XaO _ _ _ _ (by rw [Xa6]; omega),Xa7 (by omega),H8 rfl hi]
theorem XeV {v:Int} (e:j=i) (hi:i+2<len):Z2 (B0 len f) j [.int .i64 v,.int .i64 u,.int .i64 z]=some (B0 len (Ze (Ze (Ze f i v) (i+1) u) (i+2) z)):=by
 subst e;rw [XaO _ _ _ _ (by rw [Xa6]; omega),Xa7 (by omega),Lp rfl (by omega)]
structure PlM where
 own:List Int
 free:List Nat
def PlM.take (x:PlM) (who:Int):PlM:=match x.free with
 |[]=>x
 |n::r=>⟨x.own.set n who,r⟩
def PlM.give (x:PlM) (n:Nat):PlM:=⟨x.own.set n (-1),n::x.free⟩
def C2 (n:Nat):PlM:=⟨List.replicate n (-1),List.range n⟩
structure PlM.Good (x:PlM):Prop where
 len:1<=x.own.length/\x.own.length<=1024
 nodup:x.free.Nodup
 free:∀ n ∈ x.free,n<x.own.length/\x.own.getD n 0 = -1
 all:∀ n,n<x.own.length->x.own.getD n 0 = -1->n ∈ x.free
 many:x.free.length+Xv x.own=x.own.length
structure Pl where
 pb:Nat
 ab:Nat
def J7 (P:Pl) (own:List Int) (head:Int):List Value := [.slice (some ⟨P.ab,0,none⟩) own.length own.length,.int .i64 head,.int .i64 (Xv own:Nat),.func (.func 184) #[] #[]]
abbrev D5 (P:Pl):Value := .pointer (some ⟨P.pb,0,none⟩)
def Ai (P:Pl):Nat->Prop:=fun z=>z=P.pb\/z=P.ab
def Io (f:Nat->Int) (N:Nat):Int->List Nat->Prop
 |h,[]=>h=N
 |h,a::r=>h=a/\Io f N (f (a*2+1)) r
theorem V7 {g:Nat->Int}:∀ {l:List Nat} {h:Int},(∀ a ∈ l,f (a*2+1)=g (a*2+1))->Io f N h l->Io g N h l
 |[],_,_,hl=>hl
 |a::r,_,hfg,hl=>⟨hl.1,by rw [<- hfg a (by simp)]; exact V7 (fun b hb=>hfg b (by simp [hb])) hl.2⟩
structure Zu (w:World) (P:Pl) (x:PlM):Prop where
 good:x.Good
 at':∃ head f,w.heap[P.pb]? = some (.cells (J7 P x.own head).toArray 227 (0,0))/\Yd w P.ab 280 (x.own.length*2) f/\Io f x.own.length head x.free /\ ∀ n,n<x.own.length->f (n*2)=x.own.getD n 0
theorem Zu.chg {P:Pl} {x:PlM} (h:Zu w P x) (hc:Xc S w w') (h1:¬ S P.pb) (h2:¬ S P.ab):Zu w' P x:=by
 obtain ⟨head,f,a,b,c⟩:=h.at';exact ⟨h.good,head,f,hc.heap a h1,hc.heap b h2,c⟩
theorem Zu.grow {P:Pl} {x:PlM} (h:Zu w P x) (hc:Xc Xe w w'):Zu w' P x:=h.chg hc id id
theorem Zu.lt {P:Pl} {x:PlM} (h:Zu w P x):P.pb<w.heap.size/\P.ab<w.heap.size:=by
 obtain ⟨head,f,a,b,c⟩:=h.at';exact ⟨Xg a,Xg b⟩
theorem Hb {x:List Int} {v:Int} (h:n<x.length):Xv (x.set n v)+(if x.getD n 0 = -1 then 0 else 1)=Xv x+(if v = -1 then 0 else 1):=by
 unfold Xv;rw [Ss];have:=R0 (Yu x) n (by rw [Eh]; exact h) (!(v == -1));have e:(Yu x)[n]'(by rw [Eh]; exact h) = !(x.getD n 0 == -1):=by
  unfold Yu;rw [YF,XC,XB h];rfl
 rw [e] at this;by_cases a:x.getD n 0 = -1 <;> by_cases b:v = -1 <;> simp_all
theorem Pd (x:List Int):Xv x<=x.length:=by
 unfold Xv;have:=Mg (Yu x);rw [Eh] at this;exact this
theorem E6 (x:List Int) (i j:Nat) (v:Int):(x.set i v).getD j 0=if i=j/\i<x.length then v else x.getD j 0:=by
 rw [XC,YP,XC];by_cases h:i=j
 ·subst h;by_cases a:i<x.length
  ·simp [a]
  ·simp [a]
 ·simp [h]
theorem PlM.Good.take {x:PlM} (h:x.Good) {who:Int} (hw:0<=who) {n:Nat} {r:List Nat} (hf:x.free=n::r):(x.take who).Good:=by
 obtain ⟨p,j,i,k,l⟩:=h;rw [hf] at j i k l;obtain ⟨q,s⟩:=List.nodup_cons.1 j;obtain ⟨g,o⟩:=i n (by simp);have e:x.take who=⟨x.own.set n who,r⟩:=by unfold PlM.take; rw [hf]
 rw [e];refine ⟨by simpa using p,s,fun m f => ?_,fun m f c => ?_,?_⟩
 ·obtain ⟨a,b⟩:=i m (by simp [f]);have:n≠m:=fun e=>q (e▸f);exact ⟨by simpa using a,by show (x.own.set n who).getD m 0 = -1; rw [E6,if_neg (fun h=>this h.1)]; exact b⟩
 ·replace c:(x.own.set n who).getD m 0 = -1:=c;rw [E6] at c;by_cases d:n=m
  ·rw [if_pos ⟨d,g⟩] at c; omega
  ·rw [if_neg (fun h=>d h.1)] at c;have:=k m (by simpa using f) c;rcases List.mem_cons.1 this with h | h
   ·exact absurd h.symm d
   ·exact h
 ·have:=Hb (v:=who) g;rw [if_pos o,if_neg (by omega)] at this;simp only [XF,XP] at l ⊢;omega
theorem PlM.Good.give {x:PlM} (h:x.Good) {n:Nat} (hn:n<x.own.length) (ho:x.own.getD n 0 ≠ -1):(x.give n).Good:=by
 obtain ⟨f,g,d,i,j⟩:=h;refine ⟨by simpa [PlM.give] using f,?_,fun m hm => ?_,fun m hm c => ?_,?_⟩
 ·exact List.nodup_cons.2 ⟨fun h=>ho (d n h).2,g⟩
 ·rcases List.mem_cons.1 hm with rfl | hm
  ·exact ⟨by simpa [PlM.give] using hn,by show (x.own.set m (-1)).getD m 0 = -1; rw [E6,if_pos ⟨rfl,hn⟩]⟩
  ·obtain ⟨a,b⟩:=d m hm;refine ⟨by simpa [PlM.give] using a,?_⟩;show (x.own.set n (-1)).getD m 0 = -1
   rw [E6];split
   ·rfl
   ·exact b
 ·replace c:(x.own.set n (-1)).getD m 0 = -1:=c;replace hm:m<x.own.length:=by simpa [PlM.give] using hm
  show m ∈ n::x.free
  by_cases e:n=m
  ·rw [e]; exact YI
  ·rw [E6,if_neg (fun h=>e h.1)] at c;exact YB _ (i m hm c)
 ·have:=Hb (v := -1) hn;rw [if_neg ho,if_pos rfl] at this;show (n::x.free).length+Xv (x.own.set n (-1))=(x.own.set n (-1)).length
  simp only [XF,XP];omega
theorem Ha (n:Nat):Xv (List.replicate n (-1))=0:=by
 unfold Xv Yu;rw [List.map_replicate];exact Vg n
theorem XiW (h:1<=n/\n<=1024):(C2 n).Good:=by
 refine ⟨by simpa [C2] using h,List.nodup_range,fun m a => ?_,fun m a _ => ?_,?_⟩
 ·have:=List.mem_range.1 a;refine ⟨by simpa [C2] using this,?_⟩;show (List.replicate n (-1)).getD m 0 = -1
  rw [XC,XY,if_pos this]; rfl
 ·exact List.mem_range.2 (by simpa [C2] using a)
 ·show (List.range n).length+Xv (List.replicate n (-1))=(List.replicate n (-1)).length
  rw [Ha]; simp
theorem Xi3 (P:Pl) (x:PlM) (n:Int) (w:World) (h:Zu w P x):Xf prog 236 #[D5 P,.int .i64 n] w (X7 (.bool (decide (0<=n) && decide (n<x.own.length))) w):=by
 obtain ⟨head,f,b,c,d,e⟩:=h.at';refine ζe func236 ntmps236 ϱ (ζg ϱ (fun a => ?_) fun a => ?_)
 ·refine ζl b ϱ ?_;rw [a];exact ζr func236 ϱ ⟨rfl,rfl⟩
 ·rw [a];exact ζr func236 ϱ ⟨rfl,rfl⟩
theorem XiZ (P:Pl) (x:PlM) (w:World) (h:Zu w P x):Xf prog 111 #[D5 P] w (X7 (.int .i64 (Xv x.own:Nat)) w):=by
 obtain ⟨head,f,a,b,c,d⟩:=h.at';exact ζe func111 ntmps111 ϱ (ζl a ϱ (ζr func111 ϱ ⟨rfl,rfl⟩))
theorem Xd7 (P:Pl) (x:PlM) (w:World) (h:Zu w P x):Xf prog 115 #[D5 P] w (Grow (.int .i64 (x.free.length:Nat)) w):=by
 obtain ⟨head,f,b,d,e,g⟩:=h.at';have i:=h.good.many;have j:=h.good.len;exact ζe func115 ntmps115 ϱ (ζd 11 Xe (by kernel_rfl) ϱ fun a=>δl a b ϱ (δl a b ϱ (δj a ϱ (δn a ϱ fun k c=>ζr func115 ϱ ⟨X0 (by omega),c⟩))))
variable {P:Pl} {pl':PlM}
def D4 (x:PlM) (who:Int):Int:=if who<0 then 1 else if x.free.length=0 then 5 else 0
def H0 (x:PlM) (who:Int):Int:=if D4 x who=0 then (x.free.getD 0 0:Nat) else 0
def Hc (x:PlM) (who:Int):PlM:=if D4 x who=0 then x.take who else x
theorem Xap (P:Pl) (x:PlM) (who:Int) (w:World) (h:Zu w P x):Xf prog 191 #[D5 P,.int .i64 who] w
 (fun v w'=>v = .tuple #[.int .i64 (H0 x who),.int .i64 (D4 x who)]/\Zu w' P (Hc x who)/\Xc (Ai P) w w'):=by
 have d:=h.good;have K:=h.good.len;obtain ⟨own,free⟩:=x;obtain ⟨head,f,c,l,s,F⟩:=h.at';replace c:w.heap[P.pb]? = some (.cells (J7 P own head).toArray 227 (0,0)):=c;replace l:Yd w P.ab 280 (own.length*2) f:=l;replace s:Io f own.length head free:=s;replace F:∀ m,m<own.length->f (m*2)=own.getD m 0:=F;replace K:1<=own.length/\own.length<=1024:=K;have eN:∀ e,D4 ⟨own,free⟩ who=e->e≠0->H0 ⟨own,free⟩ who=0/\Hc ⟨own,free⟩ who=⟨own,free⟩:=fun e c l=>by
  unfold H0 Hc; rw [c,if_neg l,if_neg l]; exact ⟨rfl,rfl⟩
 refine Xf.enter func191 rfl ntmps191 rfl rfl ?_;refine ζa rfl ?_;refine Xa.fork Xb rfl rfl rfl (fun G => ?_) (fun G => ?_)
 ·have t:who<0:=of_decide_eq_true G;have e1:D4 ⟨own,free⟩ who=1:=by unfold D4; rw [if_pos t]
  rw [(eN 1 e1 (by decide)).1,(eN 1 e1 (by decide)).2,e1];exact ζr func191 ϱ ⟨rfl,h,Xc.refl _ _⟩
 have t:¬ who<0:=of_decide_eq_false G;refine Xa.drawn (q:=11) Xe Xb Xo (by kernel_rfl) rfl ?_;intro H;refine Xd.loadb Xb H rfl c (by first | exact fun h=>h | (intro h; omega) | assumption) rfl rfl ?_;refine Xd.loadb Xb H rfl c (by first | exact fun h=>h | (intro h; omega) | assumption) rfl rfl ?_;refine Xd.nil H ?_;intro N b;refine ζa rfl ?_;have g:=b.heap' c;have o:Yd N P.ab 280 (own.length*2) f:=b.heap' l;cases free with
 |nil =>
  have e:head=own.length:=s;subst e;have e1:D4 ⟨own,[]⟩ who=5:=by unfold D4; rw [if_neg t]; rfl
  rw [(eN 5 e1 (by decide)).1,(eN 5 e1 (by decide)).2,e1];refine Xa.yes Xb rfl (beq_self_eq_true _) rfl ?_;exact ζr func191 ϱ ⟨rfl,h.grow b,b.gr⟩
 |cons n r =>
  obtain ⟨rfl,O⟩:=s;obtain ⟨u,I⟩:=d.free n (by simp);replace u:n<own.length:=u;replace I:own.getD n 0 = -1:=I;have e1:D4 ⟨own,n::r⟩ who=0:=by unfold D4; rw [if_neg t]; rfl
  have e2:H0 ⟨own,n::r⟩ who=n:=by unfold H0; rw [if_pos e1]; rfl
  have e3:Hc ⟨own,n::r⟩ who=⟨own.set n who,r⟩:=by unfold Hc; rw [if_pos e1]; rfl
  rw [e1,e2,e3];refine Xa.no Xb rfl (by simp; omega) rfl ?_;refine Xa.loadb Xb rfl g rfl rfl ?_;refine Xa.loadb Xb rfl g rfl rfl ?_;refine Xa.index Xb rfl (j:=(n*2)) (by omega) (by omega) (by first | rfl | omega | (simp; done) | (simp; omega)) rfl ?_;have p:=E5 o g (by decide);refine ζk ϱ (Dz o (k:=n*2+1) (by show 0+n*2+1=_; omega) (by omega)) ϱ (ζs g ϱ fun W y A T=>ζl y ϱ (ζi (n*2) ϱ (ζS ϱ (A.heap o p) (H8 (i:=n*2) (by show 0+n*2+0=_; omega) (by omega)) ϱ fun w3 L B U => ?_)));have C:=B.heap y p.symm;refine ζl C ϱ (ζJ ϱ (by have:=Pd own; omega) (ζs C ϱ fun Q M D V => ?_));have R:=Hb (x:=own) (n:=n) (v:=who) u;rw [if_pos I,if_neg (by omega)] at R;have S:Xc (Ai P) w Q:=(b.gr.trans (A.mono fun z _ e => .inl e)).trans ((B.mono fun z _ e => .inr e).trans (D.mono fun z _ e => .inl e));have E:=d.take (who:=who) (by omega) (n:=n) (r:=r) rfl;have e:PlM.take ⟨own,n::r⟩ who=⟨own.set n who,r⟩:=rfl;rw [e] at E;exact Xa.ret2 Xb rfl func191 rfl rfl rfl ⟨rfl,⟨E,f (n*2+1),Ze f (n*2) who,by
   unfold J7;simp only [XF];rw [show ((Xv (own.set n who):Nat):Int)=(Xv own:Nat)+1 by omega];exact M,by
   show Yd _ _ _ ((own.set n who).length*2) _
   rw [XF]; exact (D.heap L p),by
   show Io _ (own.set n who).length _ r
   rw [XF];exact V7 (fun a _=>(Yk f who (by omega)).symm) O,fun m J=>by
   replace J:m<own.length:=by simpa using J
   show Ze f (n*2) who (m*2)=(own.set n who).getD m 0
   rw [E6];by_cases e:n=m
   ·subst e; rw [C7,if_pos ⟨rfl,u⟩]
   ·rw [Yk _ _ (by omega),if_neg (fun h=>e h.1)]; exact F m J⟩,S⟩
def Ei (x:PlM) (n:Int):Int:=if n<0\/(x.own.length:Int)<=n then 1 else if Z8 x.own n = -1 then 9 else 0
def Ge (x:PlM) (n:Int):PlM:=if Ei x n=0 then x.give n.toNat else x
theorem Xao (P:Pl) (x:PlM) (n:Int) (w:World) (h:Zu w P x):Xf prog 196 #[D5 P,.int .i64 n] w
 (fun v w'=>v = .int .i64 (Ei x n)/\Zu w' P (Ge x n)/\Xc (Ai P) w w'):=by
 have d:=h.good;have H:=h.good.len;obtain ⟨own,free⟩:=x;obtain ⟨head,f,b,l,E,r⟩:=h.at';replace b:w.heap[P.pb]? = some (.cells (J7 P own head).toArray 227 (0,0)):=b;replace l:Yd w P.ab 280 (own.length*2) f:=l;replace E:Io f own.length head free:=E;replace r:∀ m,m<own.length->f (m*2)=own.getD m 0:=r;replace H:1<=own.length/\own.length<=1024:=H;have eN:∀ e,Ei ⟨own,free⟩ n=e->e≠0->Ge ⟨own,free⟩ n=⟨own,free⟩:=fun e b l=>by
  unfold Ge; rw [b,if_neg l]
 refine Xf.enter func196 rfl ntmps196 rfl rfl ?_;refine ζa rfl ?_;refine ζc rfl (Xi3 P ⟨own,free⟩ n w h) ?_;rintro _ _ ⟨rfl,rfl⟩;refine ζa rfl ?_;by_cases g:0<=n/\n<own.length
 ·obtain ⟨k,rfl⟩:=XD g.1;have o:k<own.length:=by omega
  have t:Z8 own k=own.getD k 0:=by
   unfold Z8; rw [if_pos g.1]; simp only [XA]; rw [XC,XC,XB o]; rfl
  refine Xa.no Xb rfl (by rw [decide_eq_true g.1,decide_eq_true g.2]; rfl) rfl ?_;refine Xa.loadb Xb rfl b rfl rfl ?_;refine Xa.index Xb rfl (j:=(k*2)) (by omega) (by omega) (by first | rfl | omega | (simp; done) | (simp; omega)) rfl ?_;refine ζk ϱ (Dz l (k:=k*2) (by show 0+k*2+0=_; omega) (by omega)) ϱ ?_;rw [r k o];by_cases c:own.getD k 0 = -1
  ·have e1:Ei ⟨own,free⟩ k=9:=by unfold Ei; rw [if_neg (by simp only; omega),t,if_pos c]
   rw [eN 9 e1 (by decide),e1];exact ζY ϱ (by rw [c]; rfl) (ζr func196 ϱ ⟨rfl,h,Xc.refl _ _⟩)
  ·have e1:Ei ⟨own,free⟩ k=0:=by unfold Ei; rw [if_neg (by simp only; omega),t,if_neg c]
   have e2:Ge ⟨own,free⟩ k=⟨own.set k (-1),k::free⟩:=by unfold Ge; rw [if_pos e1]; rfl
   rw [e1,e2];refine ζF ϱ (by simpa using c) (ζd 10 Xe (by kernel_rfl) ϱ fun s=>δl s b ϱ (δl s b ϱ (Xd.build Xb s rfl rfl (δn s ϱ fun U p => ?_))));have u:=p.heap' b;have y:=p.heap' l;have q:=E5 y u (by decide);refine ζi (k*2) ϱ (ζS ϱ y (Lp (i:=k*2) (by show 0+k*2=_; omega) (by omega)) ϱ fun V I A Q => ?_);refine ζs (A.heap u q.symm) ϱ fun W B C R => ?_;refine ζl B ϱ (ζJ ϱ (by have:=Pd own; omega) (ζs B ϱ fun L J D S => ?_));have M:=Hb (x:=own) (n:=k) (v := -1) o;rw [if_neg c,if_pos rfl] at M;have N:Xc (Ai P) w L:=(p.gr.trans (A.mono fun z _ e => .inr e)).trans ((C.mono fun z _ e => .inl e).trans (D.mono fun z _ e => .inl e));have K:k ∉ free:=fun h=>c (d.free k h).2;exact Xa.ret1 Xb rfl func196 rfl rfl ⟨rfl,⟨(d.give (n:=k) o c),k,Ze (Ze f (k*2) (-1)) (k*2+1) head,by
    unfold J7;simp only [XF];rw [show ((Xv (own.set k (-1)):Nat):Int)=(Xv own:Nat) - 1 by omega];exact J,by
    show Yd _ _ _ ((own.set k (-1)).length*2) _
    rw [XF]; exact (D.heap (C.heap I q) q),by
    show Io _ (own.set k (-1)).length _ (k::free)
    rw [XF];refine ⟨rfl,?_⟩;rw [C7];exact V7 (fun a O=>by rw [Yk _ _ (by intro e; exact K ((by omega:a=k)▸O)),Yk _ _ (by omega)]) E,fun m F=>by
    replace F:m<own.length:=by simpa using F
    show Ze (Ze f (k*2) (-1)) (k*2+1) head (m*2)=(own.set k (-1)).getD m 0
    rw [E6,Yk _ _ (by omega)];by_cases e:k=m
    ·subst e; rw [C7,if_pos ⟨rfl,o⟩]
    ·rw [Yk _ _ (by omega),if_neg (fun h=>e h.1)]; exact r m F⟩,N⟩
 ·have T:(!(decide (0<=n) && decide (n<own.length)))=true:=by
   by_cases G:0<=n
   ·rw [decide_eq_true G,decide_eq_false (fun h=>g ⟨G,h⟩)]; rfl
   ·rw [decide_eq_false G]; rfl
  have e1:Ei ⟨own,free⟩ n=1:=by unfold Ei; rw [if_pos (by simp only; omega)]
  rw [eN 1 e1 (by decide),e1];exact ζy ϱ (ζr func196 ϱ ⟨rfl,h,Xc.refl _ _⟩)
theorem Xi2 (n:Int) (w:World) (h : -9223372036854775808<=n+1/\n+1<=9223372036854775807):Xf prog 184 #[.int .i64 n] w (X7 (.int .i64 (n+1)) w):=by
 exact ζe func184 ntmps184 ϱ (ζj ϱ (ζr func184 ϱ ⟨rfl,rfl⟩))
def Pj (P:Pl) (N:Nat):List Value := [.slice (some ⟨P.ab,0,none⟩) N N,.int .i64 0,.int .i64 0,.func (.func 184) #[] #[]]
theorem Xi4 (P:Pl) (N k:Nat) (f:Nat->Int) (w:World) (h1:w.heap[P.pb]? = some (.cells (Pj P N).toArray 227 (0,0))) (h2:Yd w P.ab 280 (N*2) f) (hk:k<N) (hN:N<=1024) :
 Xf prog 186 #[D5 P,.int .i64 k] w (fun _ w'=>Yd w' P.ab 280 (N*2) (Ze (Ze f (k*2) (-1)) (k*2+1) (k+1))/\Xc (fun z=>z=P.ab) w w'):=by
 exact ζe func186 ntmps186 ϱ (ζd 12 Xe (by kernel_rfl) ϱ fun a=>δl a h1 ϱ (δl a h1 ϱ (δw a (fun w' g=>Xi2 k w' (by omega)) ϱ (Xd.build Xb a rfl rfl (δn a ϱ fun e b=>ζi (k*2) ϱ (ζS ϱ (show e.heap[P.ab]? = some (.cells (B0 (N*2) f).toArray 280 (0,0)) from b.heap' h2) (Lp (i:=k*2) (by show 0+k*2=_; omega) (by omega)) ϱ fun l c d j=>ζr func186 ϱ ⟨c,b.gr.trans d⟩))))))
def Hh:Nat->Nat->Int
 |0=>fun _=>0
 |k+1=>Ze (Ze (Hh k) (k*2) (-1)) (k*2+1) (k+1)
theorem XfE:∀ (k n:Nat),n<k->Hh k (n*2) = -1
 |k+1,n,h=>by
  show Ze (Ze (Hh k) (k*2) (-1)) (k*2+1) (k+1) (n*2) = -1
  rw [Yk _ _ (by omega)];by_cases e:n=k
  ·subst e; exact C7 ..
  ·rw [Yk _ _ (by omega)]; exact XfE k n (by omega)
theorem XfD:∀ (k n:Nat),n<k->Hh k (n*2+1)=n+1
 |k+1,n,h=>by
  show Ze (Ze (Hh k) (k*2) (-1)) (k*2+1) (k+1) (n*2+1)=n+1
  by_cases e:n=k
  ·subst e; exact C7 ..
  ·rw [Yk _ _ (by omega),Yk _ _ (by omega)]; exact XfD k n (by omega)
theorem Xde (h:∀ n,n<N->f (n*2+1)=n+1):∀ (m k:Nat),k+m=N->Io f N k (List.range' k m)
 |0,k,e=>by show (k:Int)=N; omega
 |m+1,k,e=>by
  rw [List.range'_succ];refine ⟨rfl,?_⟩;rw [h k (by omega)];exact Xde h m (k+1) (by omega)
theorem Xi1 (P:Pl) (N:Nat) (w:World) (h1:w.heap[P.pb]? = some (.cells (Pj P N).toArray 227 (0,0))) (h2:Yd w P.ab 280 (N*2) (Hh 0)) (hN:N<=1024) :
 Xf prog 185 #[D5 P,.func (.func 186) #[D5 P] #[]] w (fun _ w'=>Yd w' P.ab 280 (N*2) (Hh N)/\Xc (fun z=>z=P.ab) w w'):=by
 refine ζe func185 ntmps185 ϱ (ζl h1 ϱ ?_);refine Xa.loop (α:=Nat) (fun k => [(1,false,.func (.func 186) #[D5 P] #[]),(9,false,.int .i64 N),(10,false,.int .i64 k)])
  (fun k w'=>k<=N/\Yd w' P.ab 280 (N*2) (Hh k)/\Xc (fun z=>z=P.ab) w w') (fun k=>N - k) 0 ⟨rfl,rfl,rfl,trivial⟩ ⟨XL _,h2,Xc.refl _ _⟩ ?_
 rintro k h ⟨i,b,a⟩ ih;refine ζa ϱ (ζg ϱ (fun d => ?_) fun d => ?_)
 ·have c:k<N:=by have:=of_decide_eq_true d; omega
  refine ζc ϱ (Xi4 P N k (Hh k) h (a.heap h1 (E5 h1 h2 (by decide))) b c hN) ?_;rintro _ j ⟨e,f⟩;exact ζa ϱ (ζj ϱ (ih (k+1) _ _ ⟨c,e,a.trans f⟩ (by omega) ⟨rfl,rfl,rfl,trivial⟩))
 ·have g:k=N:=by have:=of_decide_eq_false d; omega
  subst g;exact ζr func185 ϱ ⟨b,a⟩
theorem XfZ (t:Nat->Int) (ht:∀ i,t i=0):∀ n,Y3 [Value.int .i64 0,Value.int .i64 0] n=B0 (n*2) t
 |0=>rfl
 |n+1=>by
  have e:B0 ((n+1)*2) t=B0 (n*2) t ++ [.int .i64 0,.int .i64 0]:=by
   unfold B0;rw [show (n+1)*2=n*2+1+1 by omega,Y2,Y2,XI,XI];simp [ht]
  have e2:∀ m,B0 (m*2) t ++ [.int .i64 0,.int .i64 0] = [Value.int .i64 0,.int .i64 0]++B0 (m*2) t:=by
   intro m;have:B0 (m*2) t=List.replicate (m*2) (.int .i64 0):=by
    unfold B0;rw [ZS (g:=fun _=>Value.int .i64 0) (fun i _=>by rw [ht]),List.map_const',YC]
   rw [this];show _++List.replicate 2 _=List.replicate 2 _++_
   rw [List.replicate_append_replicate,List.replicate_append_replicate,Nat.add_comm]
  rw [e,e2,Y3,XfZ t ht n]
theorem Xi0 (N:Nat) (w:World) (h:1<=N/\N<=1024):Xf prog 133 #[.int .i64 N] w
 (fun v w' => ∃ P,v = .tuple #[D5 P,.int .i64 0]/\(w.heap.size<=P.pb/\w.heap.size<=P.ab)/\Zu w' P (C2 N)/\Xc Xe w w'):=by
 refine ζe func133 ntmps133 ϱ (ζf ϱ (ζf ϱ (Xa.make Xb (m:=N) (k:=N) rfl rfl rfl (XE _) (by first | omega | (show 16*N<=_; omega)) (by omega) fun ab p e1 c d s=>ζa ϱ (ζb ϱ (ζn ϱ fun pb j e2 b f t => ?_)))));replace c:Yd p ab 280 (N*2) (Hh 0):=by
  unfold Yd;rw [c];exact congrArg (fun x:List Value=>some (Obj.cells x.toArray 280 (0,0))) (XfZ (Hh 0) (fun _=>rfl) N)
 replace b:j.heap[pb]? = some (.cells (Pj ⟨pb,ab⟩ N).toArray 227 (0,0)):=b;refine ζc ϱ (Xi1 ⟨pb,ab⟩ N j b (show Yd _ _ _ _ _ from f.heap' c) h.2) ?_;rintro _ q ⟨l,g⟩;refine ζa ϱ ?_;have r:Xc Xe w q:=(d.trans f).since g (fun z u e=>by have:z=ab:=e; omega);have o:=g.heap b (show ¬ pb=ab by have:=d.size; omega);have a:(C2 N).own.length=N:=XH;exact Xa.ret2 Xb rfl func133 rfl rfl rfl ⟨⟨pb,ab⟩,rfl,⟨by show _<=pb; omega,by show _<=ab; omega⟩,⟨XiW h,0,Hh N,by
  have e:J7 ⟨pb,ab⟩ (C2 N).own 0=Pj ⟨pb,ab⟩ N:=by
   unfold J7 Pj;rw [a,show Xv (C2 N).own=0 from Ha N];rfl
  rw [e]; exact o,by rw [a]; exact l,by
  rw [a];show Io _ _ _ (List.range N)
  rw [List.range_eq_range'];exact Xde (XfD N) N 0 (by omega),fun n i=>by
  rw [a] at i;rw [XfE N n i];show -1=(List.replicate N (-1)).getD n 0
  rw [XC,XY,if_pos i]; rfl⟩,r⟩
def Br:List Nat->Int
 |[] => -1
 |a::_=>a
def Bd:Int->List Nat->Int
 |p,[]=>p
 |_,a::r=>Bd a r
def Hu (f:Nat->Int):Int->List Nat->Prop
 |_,[]=>True
 |p,a::r=>f (a*3)=p/\f (a*3+1)=Br r/\Hu f a r
theorem Sd {f g:Nat->Int}:∀ {l:List Nat} {p:Int},(∀ a ∈ l,f (a*3)=g (a*3)/\f (a*3+1)=g (a*3+1))->Hu f p l->Hu g p l
 |[],_,_,h=>h
 |a::r,p,c,h=>by
  obtain ⟨e1,e2⟩:=c a (by simp);exact ⟨e1▸h.1,e2▸h.2.1,Sd (fun b d=>c b (by simp [d])) h.2.2⟩
theorem V4:∀ (p:Int) (l:List Nat) (n:Nat) (r:List Nat),Bd p (l++n::r)=Bd n r
 |p,[],n,r=>rfl
 |p,a::l,n,r=>V4 a l n r
theorem I8:∀ (p:Int) (l:List Nat),(l = []/\Bd p l=p) \/ ∃ a ∈ l,Bd p l=(a:Int) /\ ∃ l',l=l' ++ [a]
 |p,[] => .inl ⟨rfl,rfl⟩
 |p,a::r=>by
  rcases I8 a r with ⟨rfl,h⟩ | ⟨b,hb,h,l',e⟩
  ·exact .inr ⟨a,by simp,rfl,[],rfl⟩
  ·exact .inr ⟨b,by simp [hb],h,a::l',by rw [e]; rfl⟩
def G4 (f:Nat->Int) (pr nx:Int):Nat->Int :=
 let f1:=if pr = -1 then f else Ze f (pr.toNat*3+1) nx
 if nx = -1 then f1 else Ze f1 (nx.toNat*3) pr
theorem Mh {pr nx:Int} (h1:pr = -1\/j≠pr.toNat*3+1) (h2:nx = -1\/j≠nx.toNat*3):G4 f pr nx j=f j:=by
 unfold G4;by_cases b:pr = -1
 ·rw [if_pos b];by_cases a:nx = -1
  ·rw [if_pos a]
  ·rw [if_neg a,Yk _ _ (by omega)]
 ·rw [if_neg b];by_cases a:nx = -1
  ·rw [if_pos a,Yk _ _ (by omega)]
  ·rw [if_neg a,Yk _ _ (by omega),Yk _ _ (by omega)]
theorem Xhh {a:Nat} {nx:Int}:G4 f a nx (a*3+1)=nx:=by
 unfold G4;rw [if_neg (show ¬ (a:Int) = -1 by omega)];by_cases b:nx = -1
 ·rw [if_pos b]; exact C7 f (a*3+1) nx
 ·rw [if_neg b,Yk _ _ (by omega)]; exact C7 f (a*3+1) nx
theorem Xhg {pr:Int}:G4 f pr b (b*3)=pr:=by
 unfold G4;rw [if_neg (show ¬ (b:Int) = -1 by omega)];exact C7 _ (b*3) pr
theorem Xdg {f:Nat->Int} {n:Nat} {l2:List Nat}:∀ (l1:List Nat) (p:Int),(l1++n::l2).Nodup->Hu f p (l1++n::l2)->(p = -1 \/ ∃ q:Nat,p=q/\q ∉ l1++n::l2)->Hu (G4 f (Bd p l1) (Br l2)) p (l1++l2)
 |[],p,d,h,w=>by
  obtain ⟨_,_,y⟩:=h;cases l2 with
  |nil=>trivial
  |cons b r =>
   obtain ⟨x,l,m⟩:=y;have o:=(List.nodup_cons.1 (List.nodup_cons.1 d).2);show Hu (G4 f p b) p (b::r)
   have g:∀ a ∈ b::r,p = -1\/a*3+1≠p.toNat*3+1:=fun a k=>by
    rcases w with h | ⟨q,rfl,A⟩
    ·exact .inl h
    ·refine .inr fun e=>A ?_;have:a=q:=by omega
     exact this▸YB _ k
   refine ⟨Xhg,?_,?_⟩
   ·rw [Mh (j:=b*3+1) (nx:=(b:Int)) (g b (by simp)) (.inr (by omega))]; exact l
   ·refine Sd (fun a k=>⟨?_,?_⟩) m
    ·rw [Mh (j:=a*3) (nx:=(b:Int)) (.inr (by omega)) (.inr (fun e=>o.1 ((by omega:a=b)▸k)))]
    ·rw [Mh (j:=a*3+1) (nx:=(b:Int)) (g a (by simp [k])) (.inr (by omega))]
 |a::t,p,d,h,w=>by
  obtain ⟨x,l,m⟩:=h;obtain ⟨i,u⟩:=List.nodup_cons.1 d;have ih:=Xdg t a u m (.inr ⟨a,rfl,i⟩);show Hu (G4 f (Bd a t) (Br l2)) p (a::(t++l2))
  refine ⟨?_,?_,ih⟩
  ·rw [Mh (j:=a*3) ?_ ?_]
   ·exact x
   ·rcases I8 a t with ⟨_,h⟩ | ⟨z,_,h,_⟩ <;> rw [h] <;> exact .inr (by omega)
   ·cases l2 with
    |nil=>exact .inl rfl
    |cons b r =>
     refine .inr fun e=>i ?_;have:a=b:=by simp only [Br] at e; omega
     rw [this]; simp
  ·cases t with
   |nil=>exact Xhh
   |cons c s =>
    have B:∃ z ∈ c::s,Bd a (c::s)=(z:Int):=by
     rcases I8 a (c::s) with ⟨h,_⟩ | ⟨z,v,e,_⟩
     ·cases h
     ·exact ⟨z,v,e⟩
    obtain ⟨z,v,ez⟩:=B;rw [ez,Mh (j:=a*3+1) (pr:=(z:Int)) (.inr (fun e=>i ((by omega:a=z)▸QC _ v))) ?_]
    ·exact l
    ·cases l2 with
     |nil=>exact .inl rfl
     |cons b r=>exact .inr (by omega)
structure Rg where
 lb:Nat
 ab:Nat
 nb:Nat
def Jk (R:Rg):List Value := [.slice (some ⟨R.ab,0,none⟩) 1 1,.slice (some ⟨R.nb,0,none⟩) 1024 1024]
abbrev He (R:Rg):Value := .pointer (some ⟨R.lb,0,none⟩)
def Gg (R:Rg):Nat->Prop:=fun z=>z=R.ab\/z=R.nb
structure Ct (w:World) (R:Rg) (o:List Nat):Prop where
 obj:w.heap[R.lb]? = some (.cells (Jk R).toArray 290 (0,0))
 nodup:o.Nodup
 lt:∀ n ∈ o,n<1024
 at':∃ g f,Yd w R.ab 275 3 g/\Yd w R.nb 292 3072 f/\g 0=Br o/\g 1=Bd (-1) o/\g 2=o.length/\Hu f (-1) o /\ ∀ n,n<1024->f (n*3+2)=if n ∈ o then 0 else -1
theorem Ct.chg {R:Rg} {o:List Nat} (h:Ct w R o) (hc:Xc S w w') (h1:¬ S R.lb) (h2:¬ S R.ab) (h3:¬ S R.nb):Ct w' R o:=by
 obtain ⟨g,f,a,b,c⟩:=h.at';exact ⟨hc.heap h.obj h1,h.nodup,h.lt,g,f,hc.heap a h2,hc.heap b h3,c⟩
theorem Ct.grow {R:Rg} {o:List Nat} (h:Ct w R o) (hc:Xc Xe w w'):Ct w' R o:=h.chg hc id id id
theorem Ct.blt {R:Rg} {o:List Nat} (h:Ct w R o):R.lb<w.heap.size/\R.ab<w.heap.size/\R.nb<w.heap.size:=by
 obtain ⟨g,f,a,b,c⟩:=h.at';exact ⟨Xg h.obj,Xg a,Xg b⟩
theorem Pr (R:Rg) (w:World) (h:w.heap[R.lb]? = some (.cells (Jk R).toArray 290 (0,0))):Xf prog 214 #[He R,.int .i64 0] w (X7 (.pointer (some ⟨R.ab,0,none⟩)) w):=by
 exact ζe func214 ntmps214 ϱ (ζf ϱ (ζl h ϱ (ζf ϱ (ζl h ϱ (ζi 0 ϱ (ζr func214 ϱ ⟨rfl,rfl⟩))))))
theorem XeC (R:Rg) (n:Nat) (w:World) (h:w.heap[R.lb]? = some (.cells (Jk R).toArray 290 (0,0))) (hn:n<1024):Xf prog 257 #[He R,.int .i64 n] w (X7 (.pointer (some ⟨R.nb,0+n*3,none⟩)) w):=by
 exact ζe func257 ntmps257 ϱ (ζf ϱ (ζl h ϱ (ζf ϱ (ζl h ϱ (ζi (n*3) ϱ (ζr func257 ϱ ⟨rfl,rfl⟩))))))
theorem XaH (b:Nat) (t:TypeId) (len:Nat) (f:Nat->Int) (way:Nat) (w:World) (h:Yd w b t len f) (hw:way<=1) (hl:way<len):Xf prog 250 #[.pointer (some ⟨b,0,none⟩),.int .i64 way] w (X7 (.int .i64 (f way)) w):=by
 exact ζe func250 ntmps250 ϱ (ζi way ϱ (ζk ϱ (Dz h (k:=way) (by show 0+0+way=_; omega) hl) ϱ (ζr func250 ϱ ⟨rfl,rfl⟩)))
theorem XeF (R:Rg) (g:Nat->Int) (way:Nat) (to:Int) (w:World) (h:Yd w R.ab 275 3 g) (hw:way<=1) :
 Xf prog 258 #[He R,.pointer (some ⟨R.ab,0,none⟩),.int .i64 (-1),.int .i64 way,.int .i64 to] w (fun _ w'=>Yd w' R.ab 275 3 (Ze g (1 - way) to)/\Xc (fun z=>z=R.ab) w w'):=by
 exact ζe func258 ntmps258 ϱ (ζy ϱ (ζj ϱ (ζi (1 - way) ϱ (ζS ϱ h (H8 (i:=1 - way) (by show 0+0+(1 - way)=_; omega) (by omega)) ϱ fun d b a c=>ζr func258 ϱ ⟨b,a⟩))))
theorem XeE (R:Rg) (f:Nat->Int) (a way:Nat) (to:Int) (w:World) (h0:w.heap[R.lb]? = some (.cells (Jk R).toArray 290 (0,0))) (h:Yd w R.nb 292 3072 f) (hw:way<=1) (ha:a<1024) :
 Xf prog 258 #[He R,.pointer (some ⟨R.ab,0,none⟩),.int .i64 a,.int .i64 way,.int .i64 to] w (fun _ w'=>Yd w' R.nb 292 3072 (Ze f (a*3+way) to)/\Xc (fun z=>z=R.nb) w w'):=by
 exact ζe func258 ntmps258 ϱ (ζF ϱ (by simp) (ζl h0 ϱ (ζi (a*3) ϱ (ζi way ϱ (ζS ϱ h (H8 (i:=a*3+way) (by show 0+a*3+0+way=_; omega) (by omega)) ϱ fun e c b d=>ζr func258 ϱ ⟨c,b⟩)))))
theorem XeA (R:Rg) (o:List Nat) (w:World) (h:Ct w R o):Xf prog 216 #[He R,.int .i64 0] w (X7 (.int .i64 (Br o)) w):=by
 obtain ⟨g,f,a,c,b,e1,e2,d,e⟩:=h.at';exact ζe func216 ntmps216 ϱ (ζw (Pr R w h.obj) ϱ (ζw (XaH R.ab _ 3 g 0 w a (by omega) (by omega)) ϱ (ζr func216 ϱ ⟨X0 b,rfl⟩)))
theorem Xj2 (R:Rg) (o:List Nat) (w:World) (h:Ct w R o):Xf prog 215 #[He R,.int .i64 0] w (X7 (.int .i64 (Bd (-1) o)) w):=by
 obtain ⟨g,f,a,b,c,e1,e2,d,e⟩:=h.at';exact ζe func215 ntmps215 ϱ (ζw (Pr R w h.obj) ϱ (ζw (XaH R.ab _ 3 g 1 w a (by omega) (by omega)) ϱ (ζr func215 ϱ ⟨X0 e1,rfl⟩)))
theorem Xj3 (R:Rg) (o:List Nat) (w:World) (h:Ct w R o):Xf prog 172 #[He R,.int .i64 0] w (X7 (.int .i64 (o.length:Nat)) w):=by
 obtain ⟨g,f,a,b,c,e1,e2,d,e⟩:=h.at';exact ζe func172 ntmps172 ϱ (ζw (Pr R w h.obj) ϱ (ζk ϱ (Dz a (k:=2) rfl (by omega)) ϱ (ζr func172 ϱ ⟨X0 e2,rfl⟩)))
theorem XeB (R:Rg) (o:List Nat) (n:Nat) (w:World) (h:Ct w R o) (hn:n<1024) (hno:n ∉ o) (hlo:o.length<=4096) :
 Xf prog 254 #[He R,.int .i64 0,.int .i64 n] w (fun v w'=>v = .int .i64 0/\Ct w' R (n::o)/\Xc (Gg R) w w'):=by
 obtain ⟨g,f,L,M,e0,e1,e2,hl,T⟩:=h.at';have C:=h.obj;have y:R.nb≠R.ab:=E5 M L (by decide);have N:R.lb≠R.ab:=E5 C L (by decide);have O:R.lb≠R.nb:=E5 C M (by decide);have U:f (n*3+2) = -1:=by rw [T n hn,if_neg hno]
 refine ζe func254 ntmps254 ϱ (ζw (Pr R w C) ϱ (ζw (XeC R n w C hn) ϱ (ζk ϱ (Dz M (k:=n*3+2) (by show 0+n*3+2=_; omega) (by omega)) ϱ ?_)));rw [U];refine ζf ϱ (ζw (XaH R.ab _ 3 g 0 w L (by omega) (by omega)) ϱ ?_);rw [e0];refine ζb ϱ (ζS ϱ M (H8 (i:=n*3+2) (by show 0+n*3+2=_; omega) (by omega)) ϱ fun w1 V W al=>ζS ϱ V (Lp (i:=n*3) (by show 0+n*3+0=_; omega) (by omega)) ϱ fun D A a0 am => ?_);have q:=W.trans a0;have P:Yd D R.ab 275 3 g:=q.heap L y.symm;have E:=q.heap C O;have key:∀ (g' f':Nat->Int) (d:World),Yd d R.ab 275 3 g'->Yd d R.nb 292 3072 f'->d.heap[R.lb]? = some (.cells (Jk R).toArray 290 (0,0))->Xc (Gg R) w d ->
  g' 0=n->g' 1=Bd (-1) (n::o)->g' 2=o.length+1->Hu f' (-1) (n::o)->(∀ m,m<1024->f' (m*3+2)=if m ∈ n::o then 0 else -1)->Ct d R (n::o)/\Xc (Gg R) w d:=fun g' f' d k1 k2 k3 k4 k5 k6 k7 k8 k9 =>
  ⟨⟨k3,List.nodup_cons.2 ⟨hno,h.nodup⟩,fun m hm=>by rcases List.mem_cons.1 hm with rfl | hm; exact hn; exact h.lt m hm,g',f',k1,k2,k5,k6,by rw [k7]; simp,k8,k9⟩,k4⟩
 have F:∀ m,m<1024->(Ze (Ze (Ze f (n*3+2) 0) (n*3) (-1)) (n*3+1) (Br o)) (m*3+2)=if m ∈ n::o then 0 else -1:=fun m hm=>by
  rw [Yk _ _ (by omega),Yk _ _ (by omega)];by_cases e:m=n
  ·subst e; rw [C7,if_pos (by simp)]
  ·rw [Yk _ _ (by omega),T m hm];simp [e]
 have B:∀ j,j≠n*3+2->j≠n*3->j≠n*3+1->(Ze (Ze (Ze f (n*3+2) 0) (n*3) (-1)) (n*3+1) (Br o)) j=f j:=fun j a b c=>by rw [Yk _ _ c,Yk _ _ b,Yk _ _ a]
 have s:(Ze (Ze (Ze f (n*3+2) 0) (n*3) (-1)) (n*3+1) (Br o)) (n*3) = -1:=by rw [Yk _ _ (by omega),C7]
 have t:(Ze (Ze (Ze f (n*3+2) 0) (n*3) (-1)) (n*3+1) (Br o)) (n*3+1)=Br o:=C7 ..;have Q:Xc (Gg R) w D:=q.mono fun z _ e => .inr e;obtain ⟨f2,G⟩:∃ f2,f2=Ze (Ze (Ze f (n*3+2) 0) (n*3) (-1)) (n*3+1) (Br o):=⟨_,rfl⟩;rw [<- G] at F B s t;replace A:Yd D R.nb 292 3072 f2:=by rw [G]; exact A
 cases o with
 |nil =>
  refine ζc ϱ (XeF R g 0 n D P (by omega)) ?_;rintro _ d ⟨H,l⟩;refine ζa ϱ (ζi 0 ϱ (ζS ϱ H (H8 (i:=0) rfl (by omega)) ϱ fun w4 p I a1=>ζk ϱ (Dz p (k:=2) rfl (by omega)) ϱ ?_));have eg:Ze (Ze g (1 - 0) n) 0 n 2=0:=by rw [Yk _ _ (by decide),Yk _ _ (by decide),e2]; rfl
  rw [eg];refine ζj ϱ (ζS ϱ p (H8 (i:=2) rfl (by omega)) ϱ fun S J K a2 => ?_);have u:=(l.trans I).trans K;exact ζr func254 ϱ ⟨rfl,key _ f2 S J (u.heap A y) (u.heap E N) (Q.trans (u.mono fun z _ e => .inl e)) (by rw [Yk _ _ (by decide),C7]) (by rw [Yk _ _ (by decide),Yk _ _ (by decide)]; exact C7 g 1 n) (by rw [C7]; rfl) ⟨s,t,trivial⟩ F⟩
 |cons a r =>
  have an:a≠n:=fun e=>hno (e▸YI);have a3:=h.lt a (by simp);refine ζc ϱ (XeE R f2 a 0 n D E A (by omega) a3) ?_;rintro _ d ⟨a4,l⟩;refine ζa ϱ ?_;have H:Yd d R.ab 275 3 g:=l.heap P y.symm;refine ζi 0 ϱ (ζS ϱ H (H8 (i:=0) rfl (by omega)) ϱ fun w4 p I a1=>ζk ϱ (Dz p (k:=2) rfl (by omega)) ϱ ?_);have eg:Ze g 0 n 2=(a::r).length:=by rw [Yk _ _ (by decide),e2]
  rw [eg];refine ζJ ϱ (by simp only [XP] at hlo ⊢; omega) (ζS ϱ p (H8 (i:=2) rfl (by omega)) ϱ fun S J K a2 => ?_);have x:=I.trans K;have a5:Hu (Ze f2 (a*3+0) n) (-1) (n::a::r):=by
   refine ⟨by rw [Yk _ _ (by omega)]; exact s,by rw [Yk _ _ (by omega)]; exact t,?_⟩;obtain ⟨l1,l2,l3⟩:=hl;refine ⟨C7 ..,?_,?_⟩
   ·rw [Yk _ _ (by omega),B _ (by omega) (by omega) (by omega)]; exact l2
   ·refine Sd (fun b hb => ?_) l3;have ao:b≠n:=fun e=>hno (e▸YB _ hb);have ap:b≠a:=fun e=>(List.nodup_cons.1 h.nodup).1 (e▸hb);exact ⟨by rw [Yk _ _ (by omega),B _ (by omega) (by omega) (by omega)],by rw [Yk _ _ (by omega),B _ (by omega) (by omega) (by omega)]⟩
  exact ζr func254 ϱ ⟨rfl,key _ _ S J (x.heap a4 y) (x.heap (l.heap E O) N) ((Q.trans (l.mono fun z _ e => .inr e)).trans (x.mono fun z _ e => .inl e)) (by rw [Yk _ _ (by decide),C7]) (by rw [Yk _ _ (by decide),Yk _ _ (by decide),e1]; try rfl) (by rw [C7]) a5 (fun m hm=>by rw [Yk _ _ (by omega)]; exact F m hm)⟩
theorem Xdf:∀ (l1:List Nat) (p:Int),Hu f p (l1++n::l2)->f (n*3)=Bd p l1/\f (n*3+1)=Br l2
 |[],_,h=>⟨h.1,h.2.1⟩
 |a::t,_,h=>Xdf t a h.2.2
def Lx (g:Nat->Int) (a:Int) (way:Nat) (to:Int):Nat->Int:=if a = -1 then Ze g (1 - way) to else g
def Kj (f:Nat->Int) (a:Int) (way:Nat) (to:Int):Nat->Int:=if a = -1 then f else Ze f (a.toNat*3+way) to
theorem XeD (R:Rg) (g f:Nat->Int) (a:Int) (way:Nat) (to:Int) (w:World) (h0:w.heap[R.lb]? = some (.cells (Jk R).toArray 290 (0,0))) (h1:Yd w R.ab 275 3 g) (h2:Yd w R.nb 292 3072 f) (hw:way<=1) (ha:a = -1 \/ ∃ k:Nat,a=k/\k<1024) :
 Xf prog 258 #[He R,.pointer (some ⟨R.ab,0,none⟩),.int .i64 a,.int .i64 way,.int .i64 to] w (fun _ w'=>Yd w' R.ab 275 3 (Lx g a way to)/\Yd w' R.nb 292 3072 (Kj f a way to)/\w'.heap[R.lb]? = some (.cells (Jk R).toArray 290 (0,0))/\Xc (Gg R) w w'):=by
 have c:=E5 h2 h1 (by decide);rcases ha with rfl | ⟨k,rfl,h⟩
 ·exact (XeF R g way to w h1 hw).mono fun _ w' ⟨d,b⟩=>⟨d,b.heap h2 c,b.heap h0 (E5 h0 h1 (by decide)),b.mono fun z _ e => .inl e⟩
 ·refine (XeE R f k way to w h0 h2 hw h).mono fun _ w' ⟨d,b⟩=>⟨?_,?_,b.heap h0 (E5 h0 h2 (by decide)),b.mono fun z _ e => .inr e⟩
  ·unfold Lx; rw [if_neg (by omega)]; exact b.heap h1 c.symm
  ·unfold Kj; rw [if_neg (by omega)]; exact d
theorem XhS (l:List Nat) (hl:∀ n ∈ l,n<1024):Bd (-1) l = -1 \/ ∃ k:Nat,Bd (-1) l=k/\k<1024:=by
 rcases I8 (-1) l with ⟨_,h⟩ | ⟨a,b,h,_⟩
 ·exact .inl h
 ·exact .inr ⟨a,h,hl a b⟩
theorem XhG (l:List Nat) (hl:∀ n ∈ l,n<1024):Br l = -1 \/ ∃ k:Nat,Br l=k/\k<1024:=by
 cases l with
 |nil=>exact .inl rfl
 |cons a r=>exact .inr ⟨a,rfl,hl a (by simp)⟩
theorem XhT {l:List Nat} (h:Bd (-1) l = -1):l = []:=by
 rcases I8 (-1) l with ⟨e,_⟩ | ⟨a,_,b,_⟩
 ·exact e
 ·omega
theorem XhH {l:List Nat} (h:Br l = -1):l = []:=by
 cases l with
 |nil=>rfl
 |cons a r=>have:(a:Int) = -1:=h; omega
theorem Ta (R:Rg) (l1 l2:List Nat) (n:Nat) (w:World) (h:Ct w R (l1++n::l2)) (hlo:(l1++n::l2).length<=4096) :
 Xf prog 224 #[He R,.int .i64 n] w (fun v w'=>v = .int .i64 0/\Ct w' R (l1++l2)/\Xc (Gg R) w w'):=by
 obtain ⟨g,f,h1,C,e0,e1,e2,W,ho⟩:=h.at';have S:=h.obj;have hn:=h.lt n (by simp);have u:=h.nodup;have M:n ∉ l1:=fun d=>(List.nodup_append.1 u).2.2 n d n (by simp) rfl;have N:=(List.nodup_cons.1 (List.nodup_append.1 u).2.1).1;have O:n ∉ l1++l2:=fun d=>by rcases List.mem_append.1 d with h | h; exact M h; exact N h
 have P:f (n*3+2)=0:=by rw [ho n hn,if_pos (by simp)]
 obtain ⟨ea,en⟩:=Xdf l1 (-1) W;have T:=XhS l1 (fun m d=>h.lt m (by simp [d]));have U:=XhG l2 (fun m d=>h.lt m (by simp [d]));have D:=Xdg l1 (-1) u W (.inl rfl);obtain ⟨pr,o⟩:∃ pr,pr=Bd (-1) l1:=⟨_,rfl⟩;obtain ⟨nx,p⟩:∃ nx,nx=Br l2:=⟨_,rfl⟩;rw [<- o] at ea T D;rw [<- p] at en U D;have V:pr = -1\/pr.toNat≠n:=by
  rcases I8 (-1) l1 with ⟨_,h⟩ | ⟨a,E,h,_⟩
  ·exact .inl (by rw [o,h])
  ·exact .inr (fun e=>M (by rw [o,h] at e; exact (show a=n from e)▸E))
 have ae:nx = -1\/nx.toNat≠n:=by
  cases l2 with
  |nil=>exact .inl p
  |cons b r=>exact .inr (fun e=>N (by rw [p] at e; exact (show b=n from e)▸YI))
 refine ζe func224 ntmps224 ϱ (ζw (XeC R n w S hn) ϱ (ζk ϱ (Dz C (k:=n*3+2) (by show 0+n*3+2=_; omega) (by omega)) ϱ ?_));rw [P];refine ζf ϱ (ζk ϱ (Dz C (k:=n*3+2) (by show 0+n*3+2=_; omega) (by omega)) ϱ ?_);rw [P];refine ζw (Pr R w S) ϱ (ζd 12 Xe (by kernel_rfl) ϱ fun l=>δi 0 l ϱ (δk l (Dz C (k:=n*3) (by show 0+n*3+0+0=_; omega) (by omega)) ϱ (δi 1 l ϱ (δk l (Dz C (k:=n*3+1) (by show 0+n*3+0+1=_; omega) (by omega)) ϱ (δn l ϱ fun w1 x => ?_)))));rw [ea,en];refine ζc ϱ (XeD R g f pr 1 nx w1 (x.heap' S) (x.heap' h1) (x.heap' C) (by omega) T) ?_;rintro _ w2 ⟨a2,F,a3,a4⟩;have k1:Kj f pr 1 nx (n*3+1)=nx:=by
  unfold Kj;by_cases B:pr = -1
  ·rw [if_pos B]; exact en
  ·rw [if_neg B,Yk _ _ (by rcases V with h | h; exact absurd h B; omega)]; exact en
 have k2:Kj f pr 1 nx (n*3)=pr:=by
  unfold Kj;by_cases B:pr = -1
  ·rw [if_pos B]; exact ea
  ·rw [if_neg B,Yk _ _ (by omega)]; exact ea
 refine ζa ϱ (ζd 12 Xe (by kernel_rfl) ϱ fun l=>δi 1 l ϱ (δk l (Dz F (k:=n*3+1) (by show 0+n*3+0+1=_; omega) (by omega)) ϱ (δi 0 l ϱ (δk l (Dz F (k:=n*3) (by show 0+n*3+0+0=_; omega) (by omega)) ϱ (δn l ϱ fun w3 y => ?_)))));rw [k1,k2];refine ζc ϱ (XeD R _ _ nx 0 pr w3 (y.heap' a3) (y.heap' a2) (y.heap' F) (by omega) U) ?_;rintro _ w4 ⟨q,A,H,a5⟩;refine ζa ϱ ?_;have hF:Kj (Kj f pr 1 nx) nx 0 pr=G4 f pr nx:=rfl;rw [hF] at A;obtain ⟨G,L⟩:∃ G,G=Lx (Lx g pr 1 nx) nx 0 pr:=⟨_,rfl⟩;rw [<- L] at q;have G2:G 2=(l1++n::l2).length:=by
  rw [L]; unfold Lx;by_cases a:pr = -1 <;> by_cases b:nx = -1 <;> simp [a,b,Ze,e2]
 have G0:G 0=Br (l1++l2):=by
  rw [L]; unfold Lx;by_cases a:pr = -1
  ·have:l1 = []:=XhT (o▸a);subst this;by_cases b:nx = -1 <;> simp [a,b,Ze] <;> rw [<- p] <;> simp [b]
  ·have I:l1 ≠ []:=fun e=>a (by rw [o,e]; rfl);obtain ⟨c,t,rfl⟩:=List.exists_cons_of_ne_nil I;have:g 0=c:=e0;by_cases b:nx = -1 <;> simp [a,b,Ze,this] <;> rfl
 have G1:G 1=Bd (-1) (l1++l2):=by
  rw [L]; unfold Lx;by_cases b:nx = -1
  ·have:l2 = []:=XhH (p▸b);subst this;rw [ZT,<- o];by_cases a:pr = -1 <;> simp [a,b,Ze]
  ·have I:l2 ≠ []:=fun e=>b (by rw [p,e]; rfl);obtain ⟨c,t,rfl⟩:=List.exists_cons_of_ne_nil I;have a6:g 1=Bd (-1) (l1++c::t):=by rw [e1,V4,V4]; rfl
   rw [<- a6];by_cases a:pr = -1 <;> simp [a,b,Ze]
 refine ζk ϱ (Dz q (k:=2) rfl (by omega)) ϱ ?_;rw [G2];have Q:=E5 A q (by decide);refine ζj ϱ (ζS ϱ q (H8 (i:=2) rfl (by omega)) ϱ fun w5 a7 J ao=>ζb ϱ (ζS ϱ (J.heap A Q) (H8 (i:=n*3+2) (by show 0+n*3+2=_; omega) (by omega)) ϱ fun w6 a8 a9 ap=>ζS ϱ a8 (Lp (i:=n*3) (by show 0+n*3+0=_; omega) (by omega)) ϱ fun w7 aa ab aq => ?_));have s:=a9.trans ab;have K:∀ j,j≠n*3+2->j≠n*3->j≠n*3+1->(Ze (Ze (Ze (G4 f pr nx) (n*3+2) (-1)) (n*3) (-1)) (n*3+1) (-1)) j=G4 f pr nx j:=fun j a b c=>by rw [Yk _ _ c,Yk _ _ b,Yk _ _ a]
 exact Xa.ret1 Xb rfl func224 rfl rfl ⟨rfl,⟨s.heap (J.heap H (E5 H q (by decide))) (E5 H A (by decide)),by
  have:=u;rw [List.nodup_append] at this ⊢;exact ⟨this.1,(List.nodup_cons.1 this.2.1).2,fun a E b hb=>this.2.2 a E b (by simp [hb])⟩,fun m d=>h.lt m (by rcases List.mem_append.1 d with h | h <;> simp [h]),_,_,s.heap a7 Q.symm,aa,by rw [Yk _ _ (by decide)]; exact G0,by rw [Yk _ _ (by decide)]; exact G1,by rw [C7]; simp; omega,Sd (fun a E=>by
  have:a≠n:=fun e=>O (e▸E);exact ⟨(K _ (by omega) (by omega) (by omega)).symm,(K _ (by omega) (by omega) (by omega)).symm⟩) D,fun m d=>by
  by_cases e:m=n
  ·subst e;rw [Yk _ _ (by omega),Yk _ _ (by omega),C7,if_neg O]
  ·rw [K _ (by omega) (by omega) (by omega),Mh (by rcases T with h | ⟨k,h,_⟩; exact .inl h; exact .inr (by omega)) (by rcases U with h | ⟨k,h,_⟩; exact .inl h; exact .inr (by omega)),ho m d];simp [e]⟩,(((x.gr.trans a4).trans (y.gr.trans a5)).trans (J.mono fun z _ e => .inl e)).trans (s.mono fun z _ e => .inr e)⟩
theorem Tx (n:Nat) (t:Nat->Int) (ht:∀ i,t i=0):B0 n t=List.replicate n (.int .i64 0):=by
 unfold B0;rw [ZS (g:=fun _=>Value.int .i64 0) (fun i _=>by rw [ht]),List.map_const',YC]
theorem P6 (c:Nat):∀ n,Y3 (List.replicate c (Value.int .i64 0)) n=List.replicate (n*c) (Value.int .i64 0)
 |0=>by rw [Nat.zero_mul]; rfl
 |n+1=>by rw [Y3,P6 c n,List.replicate_append_replicate,Nat.succ_mul,Nat.add_comm]
def F8:Nat->Nat->Int
 |0=>fun _=>0
 |k+1=>Ze (Ze (Ze (F8 k) (k*3) (-1)) (k*3+1) (-1)) (k*3+2) (-1)
theorem V0:∀ (k n:Nat),n<k->F8 k (n*3+2) = -1
 |k+1,n,h=>by
  show Ze (Ze (Ze (F8 k) (k*3) (-1)) (k*3+1) (-1)) (k*3+2) (-1) (n*3+2) = -1
  by_cases e:n=k
  ·subst e; exact C7 ..
  ·rw [Yk _ _ (by omega),Yk _ _ (by omega),Yk _ _ (by omega)]; exact V0 k n (by omega)
def I7:Nat->Nat->Int
 |0=>fun _=>0
 |k+1=>Ze (Ze (I7 k) (k*3) (-1)) (k*3+1) (-1)
theorem Xj4 (w:World):Xf prog 188 #[.int .i64 1024,.int .i64 1] w
 (fun v w' => ∃ R,v = .tuple #[He R,.int .i64 0]/\(w.heap.size<=R.lb/\w.heap.size<=R.ab/\w.heap.size<=R.nb)/\Ct w' R []/\Xc Xe w w'):=by
 refine ζe func188 ntmps188 ϱ (ζf ϱ (ζf ϱ (ζf ϱ (ζf ϱ (ζd 4 Xe (by kernel_rfl) ϱ fun p => ?_)))));refine Xd.turn2 p rfl ?_ ?_
 ·intro w1 r;refine Xq.make Xb p rfl (m:=1) (kk:=1) rfl rfl (XE _) (by decide) (by decide) (fun _=>rfl) fun ab w2 e2 b B Q=>Xd.turn1 p rfl fun w3 g=>Xq.make Xb p rfl (m:=1024) (kk:=1024) rfl rfl (XE _) (by decide) (by decide) (fun _=>rfl) fun nb w4 e4 c s S => ?_;have T:=r.size;have U:=g.size;refine δn p ϱ fun C j => ?_;replace b:Yd C ab 275 3 (I7 0):=by
   have:=((g.trans s).trans j).heap' b;rw [show Y3 (Yt (Value.agg #[Value.int .i64 0,Value.int .i64 0,Value.int .i64 0])) 1=_ from P6 3 1] at this;unfold Yd; rw [Tx 3 (I7 0) (fun _=>rfl)]; exact this
  replace c:Yd C nb 292 3072 (F8 0):=by
   have:=(j).heap' c;rw [show Y3 (Yt (Value.agg #[Value.int .i64 0,Value.int .i64 0,Value.int .i64 0])) 1024=_ from P6 3 1024] at this;unfold Yd; rw [Tx 3072 (F8 0) (fun _=>rfl)]; exact this
  have t:=(((r.trans B).trans g).trans s).trans j;have u:=E5 b c (by decide);have H:=Xg b;have I:=Xg c;have J:=t.size;refine ζb ϱ (ζn ϱ fun lb K e6 l n V => ?_);refine ζl l ϱ ?_;refine Xa.loop (α:=Nat) (fun k => [(6,false,.pointer (some ⟨lb,0,none⟩)),(33,false,.int .i64 1),(34,false,.int .i64 k)])
   (fun k w'=>k<=1/\Yd w' ab 275 3 (I7 k)/\Xc (fun z=>z=ab) K w') (fun k=>1 - k) 0 ⟨rfl,rfl,rfl,trivial⟩ ⟨XL _,n.heap' b,Xc.refl _ _⟩ ?_
  rintro k L ⟨hk,D,d⟩ ih;refine ζa ϱ (ζg ϱ (fun x => ?_) fun x => ?_)
  ·have o:k<1:=by have:=of_decide_eq_true x; omega
   exact ζl (d.heap l (by omega)) ϱ (ζb ϱ (ζi (k*3) ϱ (ζS ϱ D (Lp (i:=k*3) (by show 0+k*3+0+0=_; omega) (by omega)) ϱ fun M q a W=>ζj ϱ (ih (k+1) _ _ ⟨o,q,d.trans a⟩ (by omega) ⟨rfl,rfl,rfl,trivial⟩))))
  have E:k=1:=by have:=of_decide_eq_false x; omega
  subst E;have f:=d.heap l (by omega);refine ζl f ϱ ?_;refine Xa.loop (α:=Nat) (fun k => [(6,false,.pointer (some ⟨lb,0,none⟩)),(51,false,.int .i64 1024),(52,false,.int .i64 k)])
   (fun k w'=>k<=1024/\Yd w' nb 292 3072 (F8 k)/\Xc (fun z=>z=nb) L w') (fun k=>1024 - k) 0 ⟨rfl,rfl,rfl,trivial⟩ ⟨XL _,(d.heap (n.heap' c) u.symm),Xc.refl _ _⟩ ?_
  rintro k M ⟨a0,q,a⟩ F;refine ζa ϱ (ζg ϱ (fun y => ?_) fun y => ?_)
  ·have o:k<1024:=by have:=of_decide_eq_true y; omega
   exact ζl (a.heap f (by omega)) ϱ (ζb ϱ (ζb ϱ (ζi (k*3) ϱ (ζS ϱ q (XeV (i:=k*3) (by show 0+k*3=_; omega) (by omega)) ϱ fun w9 N G a1=>ζj ϱ (F (k+1) _ _ ⟨o,N,a.trans G⟩ (by omega) ⟨rfl,rfl,rfl,trivial⟩)))))
  have A:k=1024:=by have:=of_decide_eq_false y; omega
  subst A;exact ζr func188 ϱ ⟨⟨lb,ab,nb⟩,rfl,⟨by show _<=lb; omega,by show _<=ab; omega,by show _<=nb; omega⟩,⟨a.heap f (by show ¬ lb=nb; omega),YA,(fun _ h=>by cases h),I7 1,F8 1024,a.heap D u,q,rfl,rfl,rfl,trivial,fun m O=>by rw [V0 1024 m O]; rfl⟩,(((t.trans n).since d (fun z P e=>by omega)).since a (fun z P e=>by omega))⟩
 ·intro w1 r;refine Xq.make Xb p rfl (m:=1024) (kk:=1024) rfl rfl (XE _) (by decide) (by decide) (fun _=>rfl) fun nb w2 e2 c B Q=>Xd.turn1 p rfl fun w3 g=>Xq.make Xb p rfl (m:=1) (kk:=1) rfl rfl (XE _) (by decide) (by decide) (fun _=>rfl) fun ab w4 e4 b s S => ?_;have T:=r.size;have U:=g.size;refine δn p ϱ fun C j => ?_;replace b:Yd C ab 275 3 (I7 0):=by
   have:=(j).heap' b;rw [show Y3 (Yt (Value.agg #[Value.int .i64 0,Value.int .i64 0,Value.int .i64 0])) 1=_ from P6 3 1] at this;unfold Yd; rw [Tx 3 (I7 0) (fun _=>rfl)]; exact this
  replace c:Yd C nb 292 3072 (F8 0):=by
   have:=((g.trans s).trans j).heap' c;rw [show Y3 (Yt (Value.agg #[Value.int .i64 0,Value.int .i64 0,Value.int .i64 0])) 1024=_ from P6 3 1024] at this;unfold Yd; rw [Tx 3072 (F8 0) (fun _=>rfl)]; exact this
  have t:=(((r.trans B).trans g).trans s).trans j;have u:=E5 b c (by decide);have H:=Xg b;have I:=Xg c;have J:=t.size;refine ζb ϱ (ζn ϱ fun lb K e6 l n V => ?_);refine ζl l ϱ ?_;refine Xa.loop (α:=Nat) (fun k => [(6,false,.pointer (some ⟨lb,0,none⟩)),(33,false,.int .i64 1),(34,false,.int .i64 k)])
   (fun k w'=>k<=1/\Yd w' ab 275 3 (I7 k)/\Xc (fun z=>z=ab) K w') (fun k=>1 - k) 0 ⟨rfl,rfl,rfl,trivial⟩ ⟨XL _,n.heap' b,Xc.refl _ _⟩ ?_
  rintro k L ⟨hk,D,d⟩ ih;refine ζa ϱ (ζg ϱ (fun x => ?_) fun x => ?_)
  ·have o:k<1:=by have:=of_decide_eq_true x; omega
   exact ζl (d.heap l (by omega)) ϱ (ζb ϱ (ζi (k*3) ϱ (ζS ϱ D (Lp (i:=k*3) (by show 0+k*3+0+0=_; omega) (by omega)) ϱ fun M q a W=>ζj ϱ (ih (k+1) _ _ ⟨o,q,d.trans a⟩ (by omega) ⟨rfl,rfl,rfl,trivial⟩))))
  have E:k=1:=by have:=of_decide_eq_false x; omega
  subst E;have f:=d.heap l (by omega);refine ζl f ϱ ?_;refine Xa.loop (α:=Nat) (fun k => [(6,false,.pointer (some ⟨lb,0,none⟩)),(51,false,.int .i64 1024),(52,false,.int .i64 k)])
   (fun k w'=>k<=1024/\Yd w' nb 292 3072 (F8 k)/\Xc (fun z=>z=nb) L w') (fun k=>1024 - k) 0 ⟨rfl,rfl,rfl,trivial⟩ ⟨XL _,(d.heap (n.heap' c) u.symm),Xc.refl _ _⟩ ?_
  rintro k M ⟨a0,q,a⟩ F;refine ζa ϱ (ζg ϱ (fun y => ?_) fun y => ?_)
  ·have o:k<1024:=by have:=of_decide_eq_true y; omega
   exact ζl (a.heap f (by omega)) ϱ (ζb ϱ (ζb ϱ (ζi (k*3) ϱ (ζS ϱ q (XeV (i:=k*3) (by show 0+k*3=_; omega) (by omega)) ϱ fun w9 N G a1=>ζj ϱ (F (k+1) _ _ ⟨o,N,a.trans G⟩ (by omega) ⟨rfl,rfl,rfl,trivial⟩)))))
  have A:k=1024:=by have:=of_decide_eq_false y; omega
  subst A;exact ζr func188 ϱ ⟨⟨lb,ab,nb⟩,rfl,⟨by show _<=lb; omega,by show _<=ab; omega,by show _<=nb; omega⟩,⟨a.heap f (by show ¬ lb=nb; omega),YA,(fun _ h=>by cases h),I7 1,F8 1024,a.heap D u,q,rfl,rfl,rfl,trivial,fun m O=>by rw [V0 1024 m O]; rfl⟩,(((t.trans n).since d (fun z P e=>by omega)).since a (fun z P e=>by omega))⟩
abbrev PgL:=List (Nat × List Int)
structure Sm where
 cls:Int
 blocks:Nat
 pg:PgL
 opn:List Nat
def Zc:PgL->Int->Option (List Int)
 |[],_=>none
 |(m,p)::r,n=>if (m:Int)=n then some p else Zc r n
def Zi (l:PgL) (n:Nat) (p:List Int):PgL:=l.map fun e=>if e.1=n then (n,p) else e
def Y8 (l:PgL) (n:Nat):PgL:=l.filter fun e=>e.1 != n
def Yn:PgL->Nat
 |[]=>0
 |(_,p)::r=>Xv p+Yn r
theorem Hg:∀ {l:PgL} {n:Int} {p:List Int},Zc l n=some p -> ∃ m:Nat,n=m/\(m,p) ∈ l
 |(m,q)::r,n,p,h=>by
  unfold Zc at h;by_cases e:(m:Int)=n
  ·rw [if_pos e] at h; cases h; exact ⟨m,e.symm,by simp⟩
  ·rw [if_neg e] at h;obtain ⟨m',e',a⟩:=Hg h;exact ⟨m',e',by simp [a]⟩
theorem XaU:∀ {l:PgL} {n:Int},Zc l n=none -> ∀ e ∈ l,(e.1:Int)≠n
 |[],_,_,_,he=>by cases he
 |(m,q)::r,n,h,e,he=>by
  unfold Zc at h;by_cases hm:(m:Int)=n
  ·rw [if_pos hm] at h; cases h
  ·rw [if_neg hm] at h;rcases List.mem_cons.1 he with rfl | he
   ·exact hm
   ·exact XaU h e he
theorem A4:∀ {l:PgL} {m:Nat} {p:List Int},(l.map (·.1)).Nodup->(m,p) ∈ l->Zc l m=some p
 |(a,q)::r,m,p,b,hm=>by
  obtain ⟨c,d⟩:=List.nodup_cons.1 b;unfold Zc;rcases List.mem_cons.1 hm with e | hm
  ·cases e; rw [if_pos rfl]
  ·have:a≠m:=fun e=>c (List.mem_map.2 ⟨(m,p),hm,e.symm⟩);rw [if_neg (by omega)];exact A4 d hm
theorem Jq (l:PgL) (n:Nat) (p:List Int):(Zi l n p).map (·.1)=l.map (·.1):=by
 unfold Zi;rw [List.map_map];refine ZS fun e _ => ?_;show (if e.1=n then (n,p) else e).1=e.1
 split
 ·rename_i h; exact h.symm
 ·rfl
theorem Eu {l:PgL} (h:e ∈ Zi l n p):(e=(n,p) /\ ∃ q,(n,q) ∈ l)\/(e.1≠n/\e ∈ l):=by
 unfold Zi at h;obtain ⟨u,b,e1⟩:=List.mem_map.1 h;by_cases a:u.1=n
 ·rw [if_pos a] at e1; exact .inl ⟨e1.symm,u.2,by rw [<- a]; exact b⟩
 ·rw [if_neg a] at e1; subst e1; exact .inr ⟨a,b⟩
theorem Hx {l:PgL}:e ∈ Y8 l n↔e.1≠n/\e ∈ l:=by
 unfold Y8;rw [List.mem_filter];simp only [bne_iff_ne,ne_eq];exact And.comm
theorem Xe6 (l:PgL) (n:Nat):(Y8 l n).map (·.1)=(l.map (·.1)).filter (fun m=>m != n):=by
 unfold Y8;rw [List.filter_map];rfl
theorem XkY:∀ {l:PgL} {n:Nat} (p:List Int),n ∉ l.map (·.1)->Zi l n p=l:=fun {l n} p h=>by
 unfold Zi
 conv=>rhs; rw [<- List.map_id l]
 refine ZS fun e a => ?_;rw [if_neg (fun b=>h (List.mem_map.2 ⟨e,a,b⟩))];rfl
theorem XkT {l:PgL} (h:n ∉ l.map (·.1)):Y8 l n=l:=by
 unfold Y8;refine List.filter_eq_self.2 fun e a => ?_;simp only [bne_iff_ne,ne_eq];exact fun b=>h (List.mem_map.2 ⟨e,a,b⟩)
theorem Lu:∀ {l:PgL} {n:Nat} {p q:List Int},(l.map (·.1)).Nodup->(n,q) ∈ l->Yn (Zi l n p)+Xv q=Yn l+Xv p
 |(a,r)::t,n,p,q,d,hm=>by
  obtain ⟨b,f⟩:=List.nodup_cons.1 d;rcases List.mem_cons.1 hm with e | hm
  ·have e1:=(Prod.mk.inj e).1;have e2:=(Prod.mk.inj e).2;subst e1; subst e2;have:Zi ((n,q)::t) n p=(n,p)::t:=by
    show (if n=n then (n,p) else (n,q))::Zi t n p=_
    rw [if_pos rfl,XkY p b]
   rw [this];simp only [Yn];omega
  ·have c:a≠n:=fun e=>b (e▸List.mem_map.2 ⟨(n,q),hm,rfl⟩);have:Zi ((a,r)::t) n p=(a,r)::Zi t n p:=by
    show (if a=n then (n,p) else (a,r))::Zi t n p=_
    rw [if_neg c]
   rw [this];have ih:=Lu (p:=p) f hm;simp only [Yn];omega
theorem Tn:∀ {l:PgL} {n:Nat} {q:List Int},(l.map (·.1)).Nodup->(n,q) ∈ l->Yn (Y8 l n)+Xv q=Yn l/\(Y8 l n).length+1=l.length
 |(a,r)::t,n,q,d,hm=>by
  obtain ⟨b,f⟩:=List.nodup_cons.1 d;rcases List.mem_cons.1 hm with e | hm
  ·have e1:=(Prod.mk.inj e).1;have e2:=(Prod.mk.inj e).2;subst e1; subst e2;have:Y8 ((n,q)::t) n=t:=by
    unfold Y8;rw [ZE];simp only [bne_self_eq_false,YY,if_false];exact XkT b
   rw [this];exact ⟨Nat.add_comm _ _,rfl⟩
  ·have c:a≠n:=fun e=>b (e▸List.mem_map.2 ⟨(n,q),hm,rfl⟩);have:Y8 ((a,r)::t) n=(a,r)::Y8 t n:=by
    unfold Y8;rw [ZE];simp [c]
   rw [this];obtain ⟨g,h⟩:=Tn f hm;simp only [Yn,XP];omega
theorem XaX:∀ (l:PgL) (n:Nat) (p:List Int),Yn (l ++ [(n,p)])=Yn l+Xv p
 |[],n,p=>by simp [Yn]
 |(a,r)::t,n,p=>by
  have:=XaX t n p;show Xv r+Yn (t ++ [(n,p)])=Xv r+Yn t+Xv p
  omega
theorem Xe9:∀ {l:PgL} {b:Nat},(∀ e ∈ l,e.2.length=b)->Yn l<=l.length*b
 |[],b,_=>by simp [Yn]
 |(a,r)::t,b,h=>by
  have ih:=Xe9 (l:=t) (b:=b) (fun e c=>h e (by simp [c]));have d:=Pd r;have f:r.length=b:=h (a,r) (by simp);simp only [Yn,XP,Nat.succ_mul];omega
structure Sm.Ok (x:Sm):Prop where
 nodup:(x.pg.map (·.1)).Nodup
 cls:0<=x.cls
 blk:1<=x.blocks/\x.blocks<=512
 each:∀ e ∈ x.pg,e.1<1024/\e.2.length=x.blocks/\(e.1 ∈ x.opn↔Xv e.2≠x.blocks)
 onodup:x.opn.Nodup
 osub:∀ n ∈ x.opn,∃ p,(n,p) ∈ x.pg
def Sm.Pos (x:Sm):Prop := ∀ e ∈ x.pg,0<Xv e.2
def Sm.Of (x:Sm) (pl:PlM):Prop := ∀ e ∈ x.pg,e.1<pl.own.length/\pl.own.getD e.1 0=x.cls
def Sm.fresh (x:Sm) (n:Nat):Sm:={x with pg:=x.pg ++ [(n,List.replicate x.blocks (-1))],opn:=n::x.opn}
def Sm.takeAt (x:Sm) (n:Nat) (p:List Int) (who:Int):Sm :=
 {x with pg:=Zi x.pg n (Zy p who),opn:=if Xv (Zy p who)=x.blocks then x.opn.filter (fun m=>m != n) else x.opn}
def Sm.giveAt (x:Sm) (n:Nat) (p:List Int) (i:Int):Sm :=
 let o:=if Xv p=x.blocks then n::x.opn else x.opn
 if Xv (Z6 p i)=0 then {x with pg:=Y8 x.pg n,opn:=o.filter (fun m=>m != n)} else {x with pg:=Zi x.pg n (Z6 p i),opn:=o}
def Sm.ownAt (x:Sm) (n:Nat) (p:List Int) (i who:Int):Sm:={x with pg:=Zi x.pg n (Bf p i who)}
theorem Pa:Z7 p<0↔Xv p=p.length:=by
 have:=Wu (x:=Yu p);rw [Eh] at this;exact this
theorem Lg (p:List Int) (who:Int):(Zy p who).length=p.length:=by
 unfold Zy; split <;> simp
theorem XdZ (p:List Int) (i:Int):(Z6 p i).length=p.length:=by
 unfold Z6; split <;> simp
theorem Xd1 (p:List Int) (i who:Int):(Bf p i who).length=p.length:=by
 unfold Bf; split <;> simp
theorem Mm {x:List Int} (h:i<x.length):x.getD i 0=x.getD i (-1):=by
 rw [XC,XC,XB h]; rfl
theorem Je (hw:0<=who) (h:Xv p≠p.length):Co p who=0/\Xv (Zy p who)=Xv p+1:=by
 have a:¬ Z7 p<0:=fun e=>h (Pa.1 e);have e:Co p who=0:=by unfold Co; rw [if_neg (by omega),if_neg a]
 obtain ⟨b,c⟩:=Sw a;refine ⟨e,?_⟩;unfold Zy;rw [if_pos e];have:=Hb (v:=who) b;rw [if_pos (by rw [Mm b]; exact c),if_neg (by omega)] at this;omega
theorem Xd0 {i:Int} (h:Qp p i=0):Xv (Z6 p i)+1=Xv p:=by
 unfold Z6;rw [if_pos h];unfold Qp at h;split at h
 ·cases h
 ·rename_i c
  split at h
  ·cases h
  ·rename_i a
   have b:i.toNat<p.length:=by omega
   have:=Hb (v := -1) b;unfold Z8 at a;rw [if_pos (by omega)] at a;rw [if_neg (by rw [Mm b]; exact a),if_pos rfl] at this;omega
theorem Su {i:Int}:Xv (Bf p i who)=Xv p:=by
 unfold Bf;split
 ·rename_i h
  unfold Aa at h;split at h
  ·cases h
  ·rename_i c
   split at h
   ·cases h
   ·rename_i a
    have b:i.toNat<p.length:=by omega
    have:=Hb (v:=who) b;unfold Z8 at a;rw [if_pos (by omega)] at a;rw [if_neg (by rw [Mm b]; exact a),if_neg (by omega)] at this;omega
 ·rfl
theorem O0 {l:List Nat}:m ∈ l.filter (fun k=>k != n)↔m≠n/\m ∈ l:=by
 rw [List.mem_filter];simp only [bne_iff_ne,ne_eq];exact And.comm
theorem Sm.Ok.fresh {x:Sm} (h:x.Ok) {n:Nat} (hn:n<1024) (hno:n ∉ x.pg.map (·.1)):(x.fresh n).Ok:=by
 have f:=h.blk;have g:n ∉ x.opn:=fun hm=>by obtain ⟨p,d⟩:=h.osub n hm; exact hno (List.mem_map.2 ⟨_,d,rfl⟩)
 refine ⟨?_,h.cls,h.blk,fun e he => ?_,List.nodup_cons.2 ⟨g,h.onodup⟩,fun m hm => ?_⟩
 ·show ((x.pg ++ [(n,List.replicate x.blocks (-1))]).map Prod.fst).Nodup
  rw [XI];refine List.nodup_append.2 ⟨h.nodup,by simp,fun a i b f e => ?_⟩;have:b=n:=by simpa using f
  exact hno (this▸e▸i)
 ·rcases List.mem_append.1 he with he | he
  ·obtain ⟨a,b,c⟩:=h.each e he;have:e.1≠n:=fun e'=>hno (List.mem_map.2 ⟨e,he,e'⟩);exact ⟨a,b,by show e.1 ∈ n::x.opn↔_; rw [QK]; simp only [this,false_or]; exact c⟩
  ·have:e=(n,List.replicate x.blocks (-1)):=by simpa using he
   subst this;refine ⟨hn,by simp [Sm.fresh],?_⟩;show n ∈ n::x.opn↔Xv (List.replicate x.blocks (-1))≠x.blocks
   rw [Ha];constructor
   ·intro _; omega
   ·intro _; simp
 ·rcases List.mem_cons.1 hm with rfl | hm
  ·exact ⟨List.replicate x.blocks (-1),YJ _ (by simp)⟩
  ·obtain ⟨p,d⟩:=h.osub m hm;exact ⟨p,QC _ d⟩
theorem Sm.Ok.takeAt {x:Sm} (h:x.Ok) (hw:0<=who) (hp:(n,p) ∈ x.pg) (ho:n ∈ x.opn):(x.takeAt n p who).Ok:=by
 obtain ⟨i,j,r⟩:=h.each _ hp;simp only at i j r
 refine ⟨by show ((Zi _ _ _).map _).Nodup; rw [Jq]; exact h.nodup,h.cls,h.blk,fun e g => ?_,?_,fun m s => ?_⟩
 ·rcases Eu g with ⟨rfl,_⟩ | ⟨k,g⟩
  ·refine ⟨i,by rw [Lg]; exact j,?_⟩;show n ∈ (if _ then _ else _)↔_
   by_cases f:Xv (Zy p who)=x.blocks
   ·rw [if_pos f,O0];exact ⟨fun h=>absurd rfl h.1,fun h=>absurd f h⟩
   ·rw [if_neg f];exact ⟨fun _=>f,fun _=>ho⟩
  ·obtain ⟨a,b,c⟩:=h.each e g;refine ⟨a,b,?_⟩;show e.1 ∈ (if _ then _ else _)↔_
   split
   ·rw [O0]; simp only [ne_eq,k,not_false_eq_true,true_and]; exact c
   ·exact c
 ·show (if _ then _ else _:List Nat).Nodup
  split
  ·exact h.onodup.filter _
  ·exact h.onodup
 ·have l:m ∈ x.opn:=by
   have d:m ∈ (if _ then _ else _:List Nat):=s;split at d
   ·exact (O0.1 d).2
   ·exact d
  obtain ⟨q,o⟩:=h.osub m l;by_cases e:m=n
  ·subst e; exact ⟨_,List.mem_map.2 ⟨(m,q),o,if_pos rfl⟩⟩
  ·exact ⟨q,List.mem_map.2 ⟨(m,q),o,if_neg e⟩⟩
theorem Sm.Ok.giveAt {x:Sm} (h:x.Ok) {n:Nat} {p:List Int} {i:Int} (hp:(n,p) ∈ x.pg) (hi:Qp p i=0):(x.giveAt n p i).Ok:=by
 obtain ⟨s,t,l⟩:=h.each _ hp;simp only at s t l
 have A:=Xd0 hi;have z:=Pd p;have u:n ∈ (if Xv p=x.blocks then n::x.opn else x.opn):=by
  split
  ·simp
  ·rename_i o; exact l.2 o
 have k:(if Xv p=x.blocks then n::x.opn else x.opn).Nodup:=by
  split
  ·rename_i o; exact List.nodup_cons.2 ⟨fun f=>(l.1 f) o,h.onodup⟩
  ·exact h.onodup
 have d:∀ m,m≠n->(m ∈ (if Xv p=x.blocks then n::x.opn else x.opn)↔m ∈ x.opn):=fun m f=>by
  split
  ·rw [QK]; simp [f]
  ·rfl
 unfold Sm.giveAt;simp only
 by_cases v:Xv (Z6 p i)=0
 ·rw [if_pos v];refine ⟨by show ((Y8 _ _).map _).Nodup; rw [Xe6]; exact h.nodup.filter _,h.cls,h.blk,fun e g => ?_,k.filter _,fun m f => ?_⟩
  ·obtain ⟨j,g⟩:=Hx.1 g;obtain ⟨a,b,c⟩:=h.each e g;exact ⟨a,b,by show e.1 ∈ List.filter _ _↔_; rw [O0,d _ j]; simp only [ne_eq,j,not_false_eq_true,true_and]; exact c⟩
  ·obtain ⟨w,y⟩:=O0.1 f;obtain ⟨q,r⟩:=h.osub m ((d m w).1 y);exact ⟨q,Hx.2 ⟨w,r⟩⟩
 ·rw [if_neg v];refine ⟨by show ((Zi _ _ _).map _).Nodup; rw [Jq]; exact h.nodup,h.cls,h.blk,fun e g => ?_,k,fun m f => ?_⟩
  ·rcases Eu g with ⟨rfl,_⟩ | ⟨j,g⟩
   ·refine ⟨s,by rw [XdZ]; exact t,⟨fun _ => ?_,fun _=>u⟩⟩;show Xv (Z6 p i)≠x.blocks
    omega
   ·obtain ⟨a,b,c⟩:=h.each e g;exact ⟨a,b,(d _ j).trans c⟩
  ·by_cases e:m=n
   ·subst e; exact ⟨_,List.mem_map.2 ⟨(m,p),hp,if_pos rfl⟩⟩
   ·obtain ⟨q,r⟩:=h.osub m ((d m e).1 f);exact ⟨q,List.mem_map.2 ⟨(m,q),r,if_neg e⟩⟩
theorem Sm.Ok.ownAt {x:Sm} (h:x.Ok) {i:Int} (hp:(n,p) ∈ x.pg):(x.ownAt n p i who).Ok:=by
 obtain ⟨c,d,f⟩:=h.each _ hp;refine ⟨by show ((Zi _ _ _).map _).Nodup; rw [Jq]; exact h.nodup,h.cls,h.blk,fun e a => ?_,h.onodup,fun m g => ?_⟩
 ·rcases Eu a with ⟨rfl,_⟩ | ⟨j,a⟩
  ·exact ⟨c,by rw [Xd1]; exact d,by show _↔Xv (Bf p i who)≠_; rw [Su]; exact f⟩
  ·exact h.each e a
 ·obtain ⟨q,b⟩:=h.osub m g;by_cases e:m=n
  ·subst e; exact ⟨_,List.mem_map.2 ⟨(m,q),b,if_pos rfl⟩⟩
  ·exact ⟨q,List.mem_map.2 ⟨(m,q),b,if_neg e⟩⟩
end Go.Proofs.YtohjeeapehmkcaaGreatDoor
