/-
  Texts put together: Tz, Idx, Bits, Bits2, Bits3, Page, Page2, Ints, Pool, Pool2, Ring, Ring2, Ring3, Ring4, Shm, Shelf, Shelf2, Shelf3, Shelf4, Shelf5, Shst, Shp, Back13, RowsD, Ref12, Ref08, Ref08b, Ref13.
-/
import Derived.Test.YtgddpaiandefgaaGreatDoorQAbb
import Derived.Test.YtgddpaiandefgaaGreatDoorQRule10
import Derived.Test.YtgddpaiandefgaaGreatDoorQPost
import Derived.Test.YtgddpaiandefgaaGreatDoorQRule12
import Derived.Test.YtgddpaiandefgaaGreatDoorQRule13
import Derived.Test.YtgddpaiandefgaaGreatDoorQRule8
import Derived.Test.YtgddpaiandefgaaGreatDoorQRule9
import Derived.Test.YtgddpaiandefgaaGreatDoorQRule6
import Derived.Test.YtgddpaiandefgaaGreatDoorQRule15
set_option linter.unusedVariables false
set_option maxRecDepth 100000
namespace Go.Proofs.YtgddpaiandefgaaGreatDoor
open Go.RowKit
theorem Xu8 {x:Nat} (h:x<2 ^ 64):(BitVec.ofInt 64 (x:Int)).toNat=x:=by
 rw [BitVec.toNat_ofInt];omega
theorem Xwt {x:Nat} (h:x<2 ^ 64):IntKind.u64.wrap (x:Int)=x:=by
 simp only [IntKind.wrap,IntKind.signed,IntKind.bits]
 simp
 omega
theorem Xds {x y:Nat} (hx:x<2 ^ 64) (hy:y<2 ^ 64):Xdr .and .u64 x y=((x &&& y:Nat):Int):=by
 have h:(BitVec.ofInt 64 (x:Int) &&& BitVec.ofInt 64 (y:Int)).toNat=x &&& y:=by rw [BitVec.toNat_and,Xu8 hx,Xu8 hy]
 show IntKind.u64.wrap ((BitVec.ofInt 64 (x:Int) &&& BitVec.ofInt 64 (y:Int)).toNat:Int)=_
 rw [h,Xwt (Nat.and_lt_two_pow x hy)]
theorem Xdu {x y:Nat} (hx:x<2 ^ 64) (hy:y<2 ^ 64):Xdr .xor .u64 x y=((x ^^^ y:Nat):Int):=by
 have h:(BitVec.ofInt 64 (x:Int) ^^^ BitVec.ofInt 64 (y:Int)).toNat=x ^^^ y:=by rw [BitVec.toNat_xor,Xu8 hx,Xu8 hy]
 show IntKind.u64.wrap ((BitVec.ofInt 64 (x:Int) ^^^ BitVec.ofInt 64 (y:Int)).toNat:Int)=_
 rw [h,Xwt (Nat.xor_lt_two_pow hx hy)]
def cpl (x:Nat):Nat:=(2 ^ 64 - 1) ^^^ x
theorem Xfy {x:Nat} (h:x<2 ^ 64):cpl x<2 ^ 64:=Nat.xor_lt_two_pow (by decide) h
theorem Xfx {x j:Nat} (hj:j<64):(cpl x).testBit j = !x.testBit j:=by
 unfold cpl;rw [Nat.testBit_xor,Nat.testBit_two_pow_sub_one];simp [hj]
theorem Xvm {x:Nat} (h:x<2 ^ 64):unZ .xor .u64 x=some ((cpl x:Nat):Int):=by
 unfold unZ cpl;rw [← Xdu (by decide) h];rfl
theorem Xvn {x:Nat} (h:x<2 ^ 64) (h0:0<x):unZ .neg .u64 x=some ((2 ^ 64 - x:Nat):Int):=by
 unfold unZ
 congr 1
 simp only [IntKind.wrap,IntKind.signed,IntKind.bits]
 simp
 omega
theorem Xrx {j:Nat} (h:j<64):shV true .u64 1 j=((2 ^ j:Nat):Int):=by
 unfold shV;rw [if_pos rfl,show min (j:Int).toNat (IntKind.bits .u64)=j from Nat.min_eq_left (by simp only [IntKind.bits]; omega)];rw [show (1:Int)*2 ^ j=((2 ^ j:Nat):Int) from by simp];exact Xwt (Nat.pow_lt_pow_right (by decide) h)
theorem Xry {x j:Nat} (h:j<64):shV false .u64 x j=((x / 2 ^ j:Nat):Int):=by
 unfold shV;rw [if_neg (by simp),show min (j:Int).toNat (IntKind.bits .u64)=j from Nat.min_eq_left (by simp only [IntKind.bits]; omega)];rw [Int.fdiv_eq_ediv_of_nonneg _ (Int.le_of_lt (Int.pow_pos (by decide)))]
 simp
theorem Xct {x:Nat}:x &&& 1=x % 2:=Nat.and_one_is_mod x
theorem Xdt {x j:Nat}:(((x / 2 ^ j % 2:Nat):Int) == 1)=x.testBit j:=by
 rw [Nat.testBit_eq_decide_div_mod_eq,Bool.eq_iff_iff,beq_iff_eq,decide_eq_true_eq];omega
theorem Xcs {x t:Nat} (hx:x<2 ^ 64) (ht:t<64) (h1:x.testBit t=true) (h0:∀ j,j<t→x.testBit j=false):x &&& (2 ^ 64 - x)=2 ^ t:=by
 have k:x % 2 ^ t=0:=by
  apply Nat.eq_of_testBit_eq
  intro i;rw [Nat.testBit_mod_two_pow,Nat.zero_testBit];by_cases a:i<t
  ·rw [h0 i a]; simp
  ·simp [a]
 have d:x / 2 ^ t % 2=1:=by
  rw [Nat.testBit_eq_decide_div_mod_eq] at h1;exact of_decide_eq_true h1
 obtain ⟨m,hm⟩:∃ m,m=x / 2 ^ t:=⟨_,rfl⟩;have b:x=2 ^ t*m:=by have:=Nat.div_add_mod x (2 ^ t); rw [k,← hm] at this; omega
 rw [← hm] at d;have l:0<2 ^ t:=Nat.pow_pos (by decide);obtain ⟨q,f⟩:∃ q,m=2*q+1:=⟨m / 2,by omega⟩;have c:x - 1=2 ^ t*(2*q)+(2 ^ t - 1):=by
  rw [b,f,Nat.mul_add,Nat.mul_one];omega
 have g:x=(x - 1)+1:=by
  have:0<x:=by rw [b,f]; exact Nat.mul_pos l (by omega)
  omega
 apply Nat.eq_of_testBit_eq
 intro j;rw [Nat.testBit_and,Nat.testBit_two_pow];have e:(2 ^ 64 - x).testBit j=(decide (j<64) && !(x - 1).testBit j):=by
  rw [g];exact Nat.testBit_two_pow_sub_succ (by omega) j
 rw [e];rcases Nat.lt_trichotomy j t with h | h | h
 ·rw [h0 j h]; simp; omega
 ·subst h;rw [h1,c,Nat.testBit_two_pow_mul_add _ (by omega)];simp [ht]
 ·obtain ⟨i,a⟩:∃ i,j - t=i+1:=⟨j - t - 1,by omega⟩;have e1:x.testBit j=m.testBit (i+1):=by
   rw [b,Nat.testBit_two_pow_mul];rw [a]
   simp
   omega
  have e2:(x - 1).testBit j=(2*q).testBit (i+1):=by
   rw [c,Nat.testBit_two_pow_mul_add _ (by omega),if_neg (by omega),a]
  rw [e1,e2,Nat.testBit_add_one,Nat.testBit_add_one,show m / 2=q from by omega,show 2*q / 2=q from by omega];have:(decide (t=j))=false:=decide_eq_false (by omega);rw [this];cases q.testBit i <;> simp
def deB:List Nat := [0,1,56,2,57,49,28,3,61,58,42,50,38,29,17,4,62,47,59,36,45,43,51,22,53,39,33,30,24,18,12,5,63,55,48,27,60,41,37,16,46,35,44,21,52,32,23,11,54,26,40,15,34,20,31,10,25,14,19,9,13,8,7,6]
theorem XfC:∀ t,t<64→deB[(2 ^ t*285870213051353865) % 2 ^ 64 / 2 ^ 58]? = some t:=by decide +kernel
def XaF (x n:Nat):Prop:=x<2 ^ n∧(0<n→2 ^ (n - 1)≤x)
theorem XaF.zero:XaF 0 0:=⟨by decide,fun h=>by omega⟩
theorem XaF.shift {x m k:Nat} (h:XaF (x / 2 ^ k) m) (hm:0<m):XaF x (m+k):=by
 obtain ⟨b,c⟩:=h;have a:0<2 ^ k:=Nat.pow_pos (by decide);refine ⟨?_,fun _ => ?_⟩
 ·rw [Nat.pow_add];exact (Nat.div_lt_iff_lt_mul a).1 b
 ·rw [show m+k - 1=(m - 1)+k from by omega,Nat.pow_add];exact (Nat.le_div_iff_mul_le a).1 (c hm)
theorem XaF.pos {x n:Nat} (h:XaF x n) (hx:0<x):0<n:=by
 rcases Nat.eq_zero_or_pos n with h0 | h0
 ·subst h0; have:=h.1; simp at this; omega
 ·exact h0
theorem XaF.top {x n:Nat} (h:XaF x n) (hn:0<n):x.testBit (n - 1)=true ∧ ∀ j,n≤j→x.testBit j=false:=by
 refine ⟨?_,fun j a=>Nat.testBit_lt_two_pow (Nat.lt_of_lt_of_le h.1 (Nat.pow_le_pow_right (by decide) a))⟩;apply Nat.testBit_of_two_pow_le_and_two_pow_add_one_gt (h.2 hn)
 rw [show n - 1+1=n from by omega];exact h.1
theorem XaF.le {x n k:Nat} (h:XaF x n) (hx:x<2 ^ k):n≤k:=by
 rcases Nat.lt_or_ge k n with hk | hk
 ·have a:=h.2 (by omega);have b:2 ^ k≤2 ^ (n - 1):=Nat.pow_le_pow_right (by decide) (by omega);omega
 ·exact hk
def Xjm (x:Nat):Nat:=if x=0 then 0 else Nat.log2 x+1
theorem Xjn {x:Nat} (h:x<256):XaF x (Xjm x):=by
 unfold Xjm;by_cases a:x=0
 ·subst a; rw [if_pos rfl]; exact XaF.zero
 ·rw [if_neg a];exact ⟨Nat.lt_log2_self,fun _=>Nat.log2_self_le a⟩
def idx {α:Type} (p:α→Bool) (l:List α):Int:=match l.findIdx? p with | some i=>i | none => -1
theorem Xip {α:Type} {p:α→Bool} {l:List α} {k:Nat} (hk:k<l.length) (hpre:∀ j (h:j<l.length),j<k→p l[j]=false) (h:p l[k]=true):idx p l=k:=by
 unfold idx;have:l.findIdx? p=some k:=by
  rw [List.findIdx?_eq_some_iff_getElem];exact ⟨hk,h,fun j a=>by simpa using hpre j (by omega) a⟩
 rw [this]
theorem Xir {α:Type} {p:α→Bool} {l:List α} (hpre:∀ j (h:j<l.length),p l[j]=false):idx p l = -1:=by
 unfold idx;have:l.findIdx? p=none:=by
  rw [List.findIdx?_eq_none_iff];intro x a;obtain ⟨j,b,rfl⟩:=List.mem_iff_getElem.1 a;exact hpre j b
 rw [this]
theorem Xis {α:Type} {p:α→Bool} {l:List α}:(0≤idx p l)↔l.any p=true:=by
 unfold idx;cases h:l.findIdx? p with
 |none =>
  rw [List.findIdx?_eq_none_iff] at h;simp only [List.any_eq_true];constructor
  ·intro d; omega
  ·rintro ⟨x,b,a⟩; rw [h x b] at a; cases a
 |some i =>
  rw [List.findIdx?_eq_some_iff_getElem] at h;obtain ⟨c,a,_⟩:=h;simp only [List.any_eq_true];exact ⟨fun _=>⟨_,List.getElem_mem c,a⟩,fun _=>by omega⟩
theorem Xg0 {zs:List Int} {k:Nat} (h:k<zs.length):zs.getD k 0=zs[k]:=by simp [h]
def Xpg {α:Type} (p:α→Bool) (l:List α):Int:=match l.reverse.findIdx? p with | some i=>(l.length:Int) - 1 - i | none => -1
theorem Xph {α:Type} {p:α→Bool} {l:List α} {k:Nat} (hk:k<l.length) (hpost:∀ j (h:j<l.length),k<j→p l[j]=false) (h:p l[k]=true):Xpg p l=k:=by
 unfold Xpg;have:l.reverse.findIdx? p=some (l.length - 1 - k):=by
  rw [List.findIdx?_eq_some_iff_getElem];refine ⟨by simp; omega,?_,fun j a => ?_⟩
  ·rw [List.getElem_reverse]; simp only [show l.length - 1 - (l.length - 1 - k)=k from by omega]; exact h
  ·rw [List.getElem_reverse]; simpa using hpost _ (by omega) (by omega)
 rw [this];simp only
 omega
theorem Xpi {α:Type} {p:α→Bool} {l:List α} (hall:∀ j (h:j<l.length),p l[j]=false):Xpg p l = -1:=by
 unfold Xpg;have:l.reverse.findIdx? p=none:=by
  rw [List.findIdx?_eq_none_iff];intro x a;rw [List.mem_reverse] at a;obtain ⟨j,b,rfl⟩:=List.mem_iff_getElem.1 a;exact hall j b
 rw [this]
def RdB (w:World) (a:Option Addr) (bs:List Bool):Prop := ∀ i (h:i<bs.length),∃ b off,a=some ⟨b,off,none⟩∧w.cell? ⟨b,off+i,none⟩=some (.bool bs[i])
theorem RdB.of {w:World} {b:Nat} {c:Array Value} {t:TypeId} {fz:Nat × Nat} {bs:List Bool} (h:w.heap[b]? = some (.cells c t fz)) (hc:c=(bs.map Value.bool).toArray):RdB w (some ⟨b,0,none⟩) bs:=fun i a =>
 ⟨b,0,rfl,by rw [Xel h,hc]; simp [a]⟩
theorem RdB.chg {w w':World} {a:Option Addr} {bs:List Bool} (h:RdB w a bs) (hc:Chg XaX w w'):RdB w' a bs:=fun i d=>by
 obtain ⟨b,off,e,c⟩:=h i d;exact ⟨b,off,e,Xdk hc.below c⟩
theorem RdB.keep {w w':World} {a:Option Addr} {bs:List Bool} {q t:Nat} {c:Array Value} {fz:Nat × Nat} (hr:RdB w a bs) (hq:w.heap[q]? = some (.cells c t fz)) (hc:∀ x ∈ c.toList,∀ z,x ≠ .bool z) (hs:Chg (fun b=>b=q) w w'):RdB w' a bs:=fun j f=>by
 obtain ⟨b,off,e,d⟩:=hr j f;refine ⟨b,off,e,hs.cell d (fun g => ?_)⟩;subst g;rw [Xel hq] at d;exact hc _ (Array.mem_toList_iff.2 (Array.mem_of_getElem? d)) _ rfl
theorem RdB.cells {w:World} {a:Addr} {bs:List Bool} (h:RdB w (some a) bs):∀ i u,(bs.map Value.bool)[i]? = some u→w.cell? (a.add i)=some u:=by
 intro i u d;rw [List.getElem?_map,Option.map_eq_some_iff] at d;obtain ⟨z,c,rfl⟩:=d;have f:=(List.getElem?_eq_some_iff.1 c).1;obtain ⟨b,off,e,g⟩:=h i f;cases e
 rw [XbV,g];rw [List.getElem?_eq_getElem f] at c;cases c; rfl
theorem RdB.of_take {w:World} {g t:Nat} {fz:Nat × Nat} {cur:Array Value} {bs:List Bool} (h:w.heap[g]? = some (.cells cur t fz)) (hc:cur.toList.take bs.length=bs.map Value.bool):RdB w (some ⟨g,0,none⟩) bs:=fun i a=>by
 refine ⟨g,0,rfl,?_⟩;have b:(cur.toList.take bs.length)[i]? = (bs.map Value.bool)[i]?:=by rw [hc]
 rw [List.getElem?_take,if_pos a] at b;rw [Xel h];simp only [Nat.zero_add];rw [← Array.getElem?_toList,b];simp [a]
def XbD (w:World):Prop := ∀ j,j<64→w.cell? ⟨1,j,none⟩=some (.int .u8 (deB.getD j 0:Nat))
theorem XbD.chg {S:Nat→Prop} {w w':World} (h:XbD w) (hc:Chg S w w') (hs:¬ S 1):XbD w':=fun j a=>hc.cell (h j a) hs
theorem XbD.grow {w w':World} (h:XbD w) (hc:Chg XaX w w'):XbD w':=h.chg hc id
theorem XdF (x t:Nat) (w:World) (hT0:XbD w) (hx:x<2 ^ 64) (ht:t<64) (h1:x.testBit t=true) (h0:∀ j,j<t→x.testBit j=false):Xan Tryz.prog 330 #[.int .u64 x] w (Xbs (.int .i64 t) w):=by
 have e:0<x:=by
  rcases Nat.eq_zero_or_pos x with h | h
  ·subst h; simp at h1
  ·exact h
 refine ζe Tryz.func330 Tryz.ntmps330 rfl (ζF rfl (by simp; omega) (Xay.un hTT rfl (Xvn hx e) rfl (Xay.bits hTT rfl (Xds hx (by omega)) rfl ?_)));rw [Xcs hx ht h1 h0];have b:=XfC t ht;obtain ⟨j,c⟩:∃ j,j=(2 ^ t*285870213051353865) % 2 ^ 64 / 2 ^ 58:=⟨_,rfl⟩;rw [← c] at b;have d:j<64:=by rw [c]; exact (Nat.div_lt_iff_lt_mul (by decide)).2 (Nat.lt_of_lt_of_le (Nat.mod_lt _ (by decide)) (by decide))
 refine Xay.arith hTT rfl (show IntKind.u64.wrap (((2 ^ t:Nat):Int)*285870213051353865)=(((2 ^ t*285870213051353865) % 2 ^ 64:Nat):Int) from by simp only [IntKind.wrap,IntKind.signed,IntKind.bits]; simp) rfl (Xay.shift hTT rfl (by omega) (show shV false .u64 (((2 ^ t*285870213051353865) % 2 ^ 64:Nat):Int) 58=(((2 ^ t*285870213051353865) % 2 ^ 64 / 2 ^ 58:Nat):Int) from Xry (j:=58) (by decide)) rfl ?_);rw [← c];have a:w.cell? ⟨1,0+j,none⟩=some (.int .u8 (t:Int)):=by rw [Nat.zero_add,hT0 j d,List.getD_eq_getElem?_getD,b]; rfl
 exact ζi j rfl (ζk rfl a rfl (ζj rfl (ζr Tryz.func330 rfl ⟨rfl,rfl⟩)))
theorem XdG (w:World):Xan Tryz.prog 330 #[.int .u64 0] w (Xbs (.int .i64 64) w):=by
 exact ζe Tryz.func330 Tryz.ntmps330 rfl (ζy rfl (ζr Tryz.func330 rfl ⟨rfl,rfl⟩))
theorem Xwv {z:Int}:IntKind.u8.wrap z=z % 256:=by
 simp only [IntKind.wrap,IntKind.signed,IntKind.bits]
 simp
theorem Xjo {b:ByteArray} (h:∀ z:Fin 256,(b[z.val]?).map (fun x=>(x.toNat:Int))=some ((Xjm z.val:Nat):Int)) {y:Nat} (hy:y<256):(b[((y:Nat):Int).toNat]?).map (fun x=>(x.toNat:Int))=some ((Xjm y:Nat):Int):=by
 rw [Int.toNat_natCast]; exact h ⟨y,hy⟩
def XaQ (x y c:Nat):Prop := ∀ m,XaF y m→XaF x (m+c)
theorem XaQ.step {x y c k:Nat} (h:XaQ x y c) (hy:2 ^ k≤y):XaQ x (y / 2 ^ k) (k+c):=fun m hm=>by
 have a:0<2 ^ k:=Nat.pow_pos (by decide);have:=h _ (hm.shift (hm.pos (Nat.div_pos hy a)))
 rwa [Nat.add_assoc] at this
theorem XaQ.self (x:Nat):XaQ x x 0:=fun m hm=>hm
theorem XdB (x:Nat) (w:World) (hx:x<2 ^ 64):Xan Tryz.prog 329 #[.int .u64 x] w (fun v w' => ∃ n,XaF x n∧v = .int .i64 n∧w=w'):=by
 refine ζe Tryz.func329 Tryz.ntmps329 rfl (ζg rfl (fun h => ?_) fun h => ?_)
 ·have g:4294967296≤x:=by have:=of_decide_eq_true h; omega
  refine Xay.shift hTT rfl (by omega) (Xry (x:=x) (j:=32) (by decide)) rfl ?_;have l:x / 2 ^ 32<4294967296:=by omega
  refine ζg rfl (fun c => ?_) fun c => ?_
  ·have e:65536≤x / 2 ^ 32:=by have:=of_decide_eq_true c; omega
   refine Xay.shift hTT rfl (by omega) (Xry (x:=x / 2 ^ 32) (j:=16) (by decide)) rfl (ζj rfl ?_);have i:(x / 2 ^ 32) / 2 ^ 16<65536:=by omega
   refine ζg rfl (fun b => ?_) fun b => ?_
   ·have f:256≤(x / 2 ^ 32) / 2 ^ 16:=by have:=of_decide_eq_true b; omega
    refine Xay.shift hTT rfl (by omega) (Xry (x:=(x / 2 ^ 32) / 2 ^ 16) (j:=8) (by decide)) rfl (ζj rfl ?_);have a:((x / 2 ^ 32) / 2 ^ 16) / 2 ^ 8<256:=by omega
    have d:=(Xjn a).le (k:=8) a;exact Xay.arith hTT rfl (show IntKind.u8.wrap ((((x / 2 ^ 32) / 2 ^ 16) / 2 ^ 8:Nat):Int)=((((x / 2 ^ 32) / 2 ^ 16) / 2 ^ 8:Nat):Int) from by rw [Xwv]; omega) rfl (Xay.sidx hTT rfl (by omega) (Xjo (by decide +kernel) a) rfl (ζj rfl (ζj rfl (ζr Tryz.func329 rfl ⟨Xjm (((x / 2 ^ 32) / 2 ^ 16) / 2 ^ 8)+(8+(16+(32+0))),((((((XaQ.self x).step (k:=32) g)).step (k:=16) e)).step (k:=8) f) _ (Xjn a),XiH (by omega),rfl⟩))))
   ·have a:((x / 2 ^ 32) / 2 ^ 16)<256:=by have:=of_decide_eq_false b; omega
    have d:=(Xjn a).le (k:=8) a;exact Xay.arith hTT rfl (show IntKind.u8.wrap (((x / 2 ^ 32) / 2 ^ 16:Nat):Int)=(((x / 2 ^ 32) / 2 ^ 16:Nat):Int) from by rw [Xwv]; omega) rfl (Xay.sidx hTT rfl (by omega) (Xjo (by decide +kernel) a) rfl (ζj rfl (ζj rfl (ζr Tryz.func329 rfl ⟨Xjm ((x / 2 ^ 32) / 2 ^ 16)+(16+(32+0)),(((((XaQ.self x).step (k:=32) g)).step (k:=16) e)) _ (Xjn a),XiH (by omega),rfl⟩))))
  ·have i:(x / 2 ^ 32)<65536:=by have:=of_decide_eq_false c; omega
   refine ζg rfl (fun b => ?_) fun b => ?_
   ·have f:256≤x / 2 ^ 32:=by have:=of_decide_eq_true b; omega
    refine Xay.shift hTT rfl (by omega) (Xry (x:=x / 2 ^ 32) (j:=8) (by decide)) rfl (ζj rfl ?_);have a:(x / 2 ^ 32) / 2 ^ 8<256:=by omega
    have d:=(Xjn a).le (k:=8) a;exact Xay.arith hTT rfl (show IntKind.u8.wrap (((x / 2 ^ 32) / 2 ^ 8:Nat):Int)=(((x / 2 ^ 32) / 2 ^ 8:Nat):Int) from by rw [Xwv]; omega) rfl (Xay.sidx hTT rfl (by omega) (Xjo (by decide +kernel) a) rfl (ζj rfl (ζj rfl (ζr Tryz.func329 rfl ⟨Xjm ((x / 2 ^ 32) / 2 ^ 8)+(8+(32+0)),((((XaQ.self x).step (k:=32) g)).step (k:=8) f) _ (Xjn a),XiH (by omega),rfl⟩))))
   ·have a:(x / 2 ^ 32)<256:=by have:=of_decide_eq_false b; omega
    have d:=(Xjn a).le (k:=8) a;exact Xay.arith hTT rfl (show IntKind.u8.wrap ((x / 2 ^ 32:Nat):Int)=((x / 2 ^ 32:Nat):Int) from by rw [Xwv]; omega) rfl (Xay.sidx hTT rfl (by omega) (Xjo (by decide +kernel) a) rfl (ζj rfl (ζj rfl (ζr Tryz.func329 rfl ⟨Xjm (x / 2 ^ 32)+(32+0),(((XaQ.self x).step (k:=32) g)) _ (Xjn a),XiH (by omega),rfl⟩))))
 ·have l:x<4294967296:=by have:=of_decide_eq_false h; omega
  refine ζg rfl (fun c => ?_) fun c => ?_
  ·have e:65536≤x:=by have:=of_decide_eq_true c; omega
   refine Xay.shift hTT rfl (by omega) (Xry (x:=x) (j:=16) (by decide)) rfl (ζj rfl ?_);have i:(x) / 2 ^ 16<65536:=by omega
   refine ζg rfl (fun b => ?_) fun b => ?_
   ·have f:256≤(x) / 2 ^ 16:=by have:=of_decide_eq_true b; omega
    refine Xay.shift hTT rfl (by omega) (Xry (x:=(x) / 2 ^ 16) (j:=8) (by decide)) rfl (ζj rfl ?_);have a:((x) / 2 ^ 16) / 2 ^ 8<256:=by omega
    have d:=(Xjn a).le (k:=8) a;exact Xay.arith hTT rfl (show IntKind.u8.wrap ((((x) / 2 ^ 16) / 2 ^ 8:Nat):Int)=((((x) / 2 ^ 16) / 2 ^ 8:Nat):Int) from by rw [Xwv]; omega) rfl (Xay.sidx hTT rfl (by omega) (Xjo (by decide +kernel) a) rfl (ζj rfl (ζj rfl (ζr Tryz.func329 rfl ⟨Xjm (((x) / 2 ^ 16) / 2 ^ 8)+(8+(16+(0))),((((XaQ.self x).step (k:=16) e)).step (k:=8) f) _ (Xjn a),XiH (by omega),rfl⟩))))
   ·have a:((x) / 2 ^ 16)<256:=by have:=of_decide_eq_false b; omega
    have d:=(Xjn a).le (k:=8) a;exact Xay.arith hTT rfl (show IntKind.u8.wrap (((x) / 2 ^ 16:Nat):Int)=(((x) / 2 ^ 16:Nat):Int) from by rw [Xwv]; omega) rfl (Xay.sidx hTT rfl (by omega) (Xjo (by decide +kernel) a) rfl (ζj rfl (ζj rfl (ζr Tryz.func329 rfl ⟨Xjm ((x) / 2 ^ 16)+(16+(0)),(((XaQ.self x).step (k:=16) e)) _ (Xjn a),XiH (by omega),rfl⟩))))
  ·have i:(x)<65536:=by have:=of_decide_eq_false c; omega
   refine ζg rfl (fun b => ?_) fun b => ?_
   ·have f:256≤x:=by have:=of_decide_eq_true b; omega
    refine Xay.shift hTT rfl (by omega) (Xry (x:=x) (j:=8) (by decide)) rfl (ζj rfl ?_);have a:(x) / 2 ^ 8<256:=by omega
    have d:=(Xjn a).le (k:=8) a;exact Xay.arith hTT rfl (show IntKind.u8.wrap (((x) / 2 ^ 8:Nat):Int)=(((x) / 2 ^ 8:Nat):Int) from by rw [Xwv]; omega) rfl (Xay.sidx hTT rfl (by omega) (Xjo (by decide +kernel) a) rfl (ζj rfl (ζj rfl (ζr Tryz.func329 rfl ⟨Xjm ((x) / 2 ^ 8)+(8+(0)),((XaQ.self x).step (k:=8) f) _ (Xjn a),XiH (by omega),rfl⟩))))
   ·have a:(x)<256:=by have:=of_decide_eq_false b; omega
    have d:=(Xjn a).le (k:=8) a;exact Xay.arith hTT rfl (show IntKind.u8.wrap ((x:Nat):Int)=((x:Nat):Int) from by rw [Xwv]; omega) rfl (Xay.sidx hTT rfl (by omega) (Xjo (by decide +kernel) a) rfl (ζj rfl (ζj rfl (ζr Tryz.func329 rfl ⟨Xjm (x)+(0),(XaQ.self x) _ (Xjn a),XiH (by omega),rfl⟩))))
def cnt:List Bool→Nat
 |[]=>0
 |b::r=>(if b then 1 else 0)+cnt r
theorem Xfh:∀ (x:List Bool),cnt x≤x.length
 |[]=>Nat.le_refl _
 |b::r=>by have:=Xfh r; simp only [cnt,List.length_cons]; split <;> omega
theorem Xfg:∀ {x:List Bool},cnt x=x.length → ∀ j (h:j<x.length),x[j]=true
 |[],_,j,h=>by simp at h
 |b::r,a,j,h=>by
  have:=Xfh r;simp only [cnt,List.length_cons] at a;cases b with
  |false=>simp at a; omega
  |true =>
   cases j with
   |zero=>rfl
   |succ j=>simp; exact Xfg (by simp at a; omega) j (by simpa using h)
theorem Xfi:∀ {x:List Bool},cnt x≠x.length → ∃ j,∃ h:j<x.length,x[j]=false
 |[],a=>by simp [cnt] at a
 |b::r,a=>by
  cases b with
  |false=>exact ⟨0,by simp,rfl⟩
  |true =>
   have:cnt r≠r.length:=by simp only [cnt,List.length_cons] at a; simp at a; omega
   obtain ⟨j,h,e⟩:=Xfi this;exact ⟨j+1,by simpa using h,by simpa using e⟩
theorem Xfk:∀ (x:List Bool) (i:Nat) (h:i<x.length) (b:Bool),cnt (x.set i b)+(if x[i] then 1 else 0)=cnt x+(if b then 1 else 0)
 |[],i,h,b=>by simp at h
 |a::r,0,h,b=>by simp only [List.set_cons_zero,cnt,List.getElem_cons_zero]; omega
 |a::r,i+1,h,b=>by
  have:=Xfk r i (by simpa using h) b;simp only [List.set_cons_succ,cnt,List.getElem_cons_succ];omega
theorem Xfj (n:Nat):cnt (List.replicate n false)=0:=by
 induction n with
 |zero=>rfl
 |succ n ih=>simp [List.replicate_succ,cnt,ih]
def Xkd (x:List Bool):Int:=idx (fun b => !b) x
def XhZ (x:List Bool):Int:=Xpg id x
def Xhs (x:List Bool) (i:Int):Bool:=decide (0≤i) && x.getD i.toNat false
def inM (x:List Bool) (i:Int):Bool:=decide (0≤i) && decide (i<x.length)
theorem Xht {x:List Bool} {i:Int} (h:Xhs x i=true):inM x i=true:=by
 unfold Xhs at h;unfold inM;simp only [Bool.and_eq_true,decide_eq_true_eq] at h ⊢;refine ⟨h.1,?_⟩;rcases Nat.lt_or_ge i.toNat x.length with h2 | h2
 ·omega
 ·have:=h.2;rw [List.getD_eq_getElem?_getD,List.getElem?_eq_none h2] at this;cases this
def XqR (x:List Bool) (i:Int) (b:Bool):Int :=
 if inM x i=false then 1 else if b && Xhs x i then 10 else if !b && !Xhs x i then 9 else 0
def XqP (x:List Bool) (i:Int) (b:Bool):List Bool:=if XqR x i b=0 then x.set i.toNat b else x
def Xdv (ws:List Nat) (x:List Bool):List Value:=ws.map (fun n:Nat=>Value.int .u64 (n:Int)) ++ [Value.int .i64 (x.length:Int),Value.int .i64 (cnt x:Int)]
structure Xai (w:World) (b:Nat) (x:List Bool):Prop where
 tab:XbD w
 ws:∃ ws:List Nat,ws.length=8∧(∀ k,ws.getD k 0<2 ^ 64)∧(∀ k j,j<64→(ws.getD k 0).testBit j=x.getD (64*k+j) false) ∧
  w.heap[b]? = some (.cells (Xdv ws x).toArray 366 (0,0))
 pos:1≤x.length
 len:x.length≤512
theorem Xai.chg {S:Nat→Prop} {w w':World} {b:Nat} {x:List Bool} (h:Xai w b x) (hc:Chg S w w') (hs:¬ S b) (hg:¬ S 1):Xai w' b x:=by
 obtain ⟨ws,a,c,d,e⟩:=h.ws;exact ⟨h.tab.chg hc hg,⟨ws,a,c,d,hc.heap e hs⟩,h.pos,h.len⟩
theorem Xai.grow {w w':World} {b:Nat} {x:List Bool} (h:Xai w b x) (hc:Chg XaX w w'):Xai w' b x:=h.chg hc id id
theorem Xai.ne {w:World} {b:Nat} {x:List Bool} (h:Xai w b x):1≠b:=by
 obtain ⟨ws,a,f,g,d⟩:=h.ws;intro e;have:=h.tab 0 (by decide);subst e;rw [Xel d] at this
 match ws,a with
 |c::r,_=>simp [Xdv] at this
theorem XdI {w:World} {b:Nat} {x:List Bool} {ws:List Nat} (h1:ws.length=8) (h:w.heap[b]? = some (.cells (Xdv ws x).toArray 366 (0,0))):w.cell? ⟨b,8,none⟩=some (.int .i64 x.length):=by
 rw [Xel h]; simp [Xdv,h1]
theorem XdH {w:World} {b:Nat} {x:List Bool} {ws:List Nat} (h1:ws.length=8) (h:w.heap[b]? = some (.cells (Xdv ws x).toArray 366 (0,0))):w.cell? ⟨b,9,none⟩=some (.int .i64 (cnt x)):=by
 rw [Xel h]; simp [Xdv,h1]
theorem XdK {w:World} {b k:Nat} {x:List Bool} {ws:List Nat} (h1:ws.length=8) (h:w.heap[b]? = some (.cells (Xdv ws x).toArray 366 (0,0))) (hk:k<8):w.cell? ⟨b,0+k,none⟩=some (.int .u64 (ws.getD k 0:Nat)):=by
 have a:k<ws.length:=by omega
 rw [Xel h,Nat.zero_add];simp only [List.getElem?_toArray,List.getD_eq_getElem?_getD,Xdv];rw [List.getElem?_append_left (by simpa using a),List.getElem?_map,List.getElem?_eq_getElem a];rfl
theorem Xai.many {w:World} {b:Nat} {x:List Bool} (h:Xai w b x):w.cell? ⟨b,8,none⟩=some (.int .i64 x.length):=by
 obtain ⟨ws,a,d,e,c⟩:=h.ws; exact XdI a c
theorem Xai.cnt {w:World} {b:Nat} {x:List Bool} (h:Xai w b x):w.cell? ⟨b,9,none⟩=some (.int .i64 (cnt x)):=by
 obtain ⟨ws,a,d,e,c⟩:=h.ws; exact XdH a c
theorem Xai.lt {w:World} {b:Nat} {x:List Bool} (h:Xai w b x):b<w.heap.size:=by
 obtain ⟨ws,c,d,e,a⟩:=h.ws; exact Xkj a
theorem Xg6 {α:Type} (n k:Nat) (x:α):(List.replicate n x).getD k x=x:=by
 rw [List.getD_eq_getElem?_getD,List.getElem?_replicate]; split <;> rfl
theorem XdD (m:Nat) (w:World) (hT0:XbD w) (h:1≤m∧m≤512):Xan Tryz.prog 262 #[.int .i64 m] w (fun v w' => ∃ b,v = .tuple #[.pointer (some ⟨b,0,none⟩),.int .i64 0]∧w.heap.size≤b∧Xai w' b (List.replicate m false)∧Chg XaX w w'):=by
 refine Xan.enter Tryz.func262 rfl Tryz.ntmps262 rfl rfl ?_;refine ζa rfl ?_;refine Xay.no hTT rfl (decide_eq_false (by omega)) rfl ?_;refine Xay.no hTT rfl (decide_eq_false (by omega)) rfl ?_;refine Xay.build hTT rfl rfl ?_;refine Xay.alloc hTT rfl ?_;intro b f e1 d a e;refine ζa rfl ?_;have c:(List.replicate m false).length=m:=List.length_replicate;exact Xay.ret2 hTT rfl Tryz.func262 rfl rfl rfl ⟨b,rfl,by omega,⟨hT0.grow a,⟨List.replicate 8 0,rfl,fun k=>by rw [Xg6]; decide,fun k j g=>by rw [Xg6,Xg6]; simp,by unfold Xdv; rw [c,Xfj]; exact d⟩,by omega,by omega⟩,a⟩
theorem XdJ (b:Nat) (x:List Bool) (i:Int) (w:World) (h:Xai w b x):Xan Tryz.prog 325 #[.pointer (some ⟨b,0,none⟩),.int .i64 i] w (Xbs (.bool (inM x i)) w):=by
 refine ζe Tryz.func325 Tryz.ntmps325 rfl (ζg rfl (fun a => ?_) fun a => ?_)
 ·have c:=of_decide_eq_true a;exact ζk rfl h.many rfl (ζr Tryz.func325 rfl ⟨XdW (by unfold inM; rw [decide_eq_true c]; rfl),rfl⟩)
 ·have c:=of_decide_eq_false a;exact ζr Tryz.func325 rfl ⟨XdW (by unfold inM; rw [decide_eq_false c]; rfl),rfl⟩
theorem Xdz (b:Nat) (x:List Bool) (i:Int) (w:World) (h:Xai w b x):Xan Tryz.prog 307 #[.pointer (some ⟨b,0,none⟩),.int .i64 i] w (Xbs (.bool (Xhs x i)) w):=by
 have n:=h.len;obtain ⟨ws,e,f,g,j⟩:=h.ws;refine ζe Tryz.func307 Tryz.ntmps307 rfl (ζw (XdJ b x i w h) rfl ?_);cases a:inM x i with
 |false =>
  have d:Xhs x i=false:=by cases k:Xhs x i; rfl; rw [Xht k] at a; cases a
  exact ζf rfl (ζr Tryz.func307 rfl ⟨XdW d.symm,rfl⟩)
 |true =>
  have l:0≤i∧i<x.length:=by unfold inM at a; simpa using a
  obtain ⟨i,rfl⟩:=Int.eq_ofNat_of_zero_le l.1;have m:i / 64<8:=by omega
  refine ζy rfl (Xay.div hTT rfl (by omega) (XoJ (by omega) (by omega)) rfl (ζi (i / 64) rfl (ζk rfl (XdK e j m) rfl (Xay.div hTT rfl (by omega) (Xo9 (by omega)) rfl ?_))));rw [show ((i:Int) % 64)=((i % 64:Nat):Int) from by omega];refine Xay.shift hTT rfl (by omega) (Xry (by omega)) rfl (Xay.bits hTT rfl (Xds (y:=1) (Nat.lt_of_le_of_lt (Nat.div_le_self _ _) (f _)) (by decide)) rfl ?_);rw [Xct];have c:=g (i / 64) (i % 64) (by omega);rw [show 64*(i / 64)+i % 64=i from by omega] at c;exact ζr Tryz.func307 rfl ⟨XdW (by rw [Xdt,c]; unfold Xhs; simp),rfl⟩
theorem Xdy (b:Nat) (x:List Bool) (w:World) (h:Xai w b x):Xan Tryz.prog 321 #[.pointer (some ⟨b,0,none⟩)] w (Xbs (.int .i64 (cnt x)) w):=by
 exact ζe Tryz.func321 Tryz.ntmps321 rfl (ζk rfl h.cnt rfl (ζr Tryz.func321 rfl ⟨rfl,rfl⟩))
theorem Xra {ws:List Nat} {rest:List Value} {k n:Nat} (hk:k<ws.length):(ws.map (fun n:Nat=>Value.int .u64 (n:Int))++rest).set k (.int .u64 (n:Int))=(ws.set k n).map (fun n:Nat=>Value.int .u64 (n:Int))++rest:=by
 rw [List.set_append_left _ _ (by simpa using hk),List.map_set]
theorem Xg7 {α:Type} {l:List α} {i j:Nat} {x d:α} (hi:i<l.length):(l.set i x).getD j d=if j=i then x else l.getD j d:=by
 simp only [List.getD_eq_getElem?_getD,List.getElem?_set];by_cases h:i=j
 ·subst h; simp [hi]
 ·rw [if_neg h,if_neg (Ne.symm h)]
theorem Xq2:∀ (l:List Value) (i:Nat) (v:Value),i<l.length→XqS l i [v]=some (l.set i v)
 |x::r,0,v,_=>by simp [XqS]
 |x::r,i+1,v,h=>by simp [XqS,Xq2 r i v (by simpa using h)]
theorem XdE (b:Nat) (x:List Bool) (i:Int) (is:Bool) (w:World) (h:Xai w b x):Xan Tryz.prog 320 #[.pointer (some ⟨b,0,none⟩),.int .i64 i,.bool is] w
 (fun v w'=>v = .int .i64 (XqR x i is)∧Xai w' b (XqP x i is)∧Chg (fun z=>z=b) w w'):=by
 have V:=h.len;have L:=h.ne;have B:XqR x i is≠0→Xai w b (XqP x i is):=fun S=>by unfold XqP; rw [if_neg S]; exact h
 obtain ⟨ws,d,y,A,K⟩:=h.ws;refine ζe Tryz.func320 Tryz.ntmps320 rfl (ζw (XdJ b x i w h) rfl ?_);cases e:inM x i with
 |false =>
  have f:XqR x i is=1:=by unfold XqR; rw [if_pos e]
  exact ζy rfl (ζr Tryz.func320 rfl ⟨by rw [f],B (by rw [f]; decide),Chg.refl _ _⟩)
 |true =>
  refine ζf rfl ?_;cases is with
  |true =>
   refine ζy rfl (ζw (Xdz b x i w h) rfl ?_);cases g:Xhs x i with
   |true =>
    have f:XqR x i true=10:=by unfold XqR; rw [e,g]; rfl
    exact ζy rfl (ζr Tryz.func320 rfl ⟨by rw [f],B (by rw [f]; decide),Chg.refl _ _⟩)
   |false =>
    refine ζf rfl (ζf rfl ?_);have M:0≤i∧i<x.length:=by unfold inM at e; simpa using e
    obtain ⟨i,rfl⟩:=Int.eq_ofNat_of_zero_le M.1;have N:i / 64<8:=by omega
    have C:(Xdv ws x).length=10:=by simp [Xdv,d]
    have t:=A (i / 64) (i % 64) (by omega);rw [show 64*(i / 64)+i % 64=i from by omega] at t;have m:x.getD i false=false:=by have:=g; unfold Xhs at this; simpa using this
    have o:(2:Nat) ^ (i % 64)<2 ^ 64:=Nat.pow_lt_pow_right (by decide) (by omega);obtain ⟨nw,l⟩:∃ nw,nw=ws.getD (i / 64) 0 ^^^ 2 ^ (i % 64):=⟨_,rfl⟩;refine ζd 14 XaX (by kernel_rfl) rfl fun a=>Xaq.div hTT a rfl (by omega) (XoJ (by omega) (by omega)) rfl (δi (i / 64) a rfl (δk a (XdK d K N) rfl (Xaq.div hTT a rfl (by omega) (Xo9 (by omega)) rfl ?_)));rw [show ((i:Int) % 64)=((i % 64:Nat):Int) from by omega];refine Xaq.shift hTT a rfl (by omega) (Xrx (by omega)) rfl (Xaq.bits hTT a rfl (Xdu (y _) o) rfl (δi (i / 64) a rfl ?_));rw [← l];refine δn a rfl fun T p=>ζS rfl (p.heap' K) (show XqS (Xdv ws x) (0+i / 64) [.int .u64 (nw:Int)]=some ((ws.set (i / 64) nw).map (fun n:Nat=>Value.int .u64 (n:Int)) ++ [Value.int .i64 (x.length:Int),Value.int .i64 (cnt x:Int)]) from by rw [Nat.zero_add,Xq2 _ _ _ (by rw [C]; omega)]; unfold Xdv; rw [Xra (by omega)]) rfl fun O q D Q => ?_;have E:O.cell? ⟨b,9,none⟩=some (.int .i64 (cnt x)):=by rw [Xel q]; simp [d]
    have P:=Xfh x;have c:=Xfk x i (by omega) true;have u:x[i]'(by omega)=false:=by rw [← m,List.getD_eq_getElem?_getD,List.getElem?_eq_getElem (by omega)]; rfl
    rw [u] at c
    first | refine Xay.yes hTT rfl rfl rfl ?_ | refine Xay.no hTT rfl rfl rfl ?_
    refine ζk rfl E rfl (ζJ rfl (by simp at c; omega) (ζS rfl q (show XqS ((ws.set (i / 64) nw).map (fun n:Nat=>Value.int .u64 (n:Int)) ++ [Value.int .i64 (x.length:Int),Value.int .i64 (cnt x:Int)]) 9 [.int .i64 ((cnt x:Int)+1)]=some (Xdv (ws.set (i / 64) nw) (x.set i true)) from by rw [Xq2 _ _ _ (by simp [d]),List.set_append_right _ _ (by simp [d])]; unfold Xdv; simp [d]; simp at c; omega) rfl fun U F G R => ?_));have r:=((p.mono fun _ _ h=>h.elim).trans D).trans G;have f:XqR x i true=0:=by unfold XqR; rw [e,g]; rfl
    have H:XqP x i true=x.set i true:=by unfold XqP; rw [if_pos f]; simp
    exact Xay.ret1 hTT rfl Tryz.func320 rfl rfl ⟨by rw [f],by rw [H]; exact ⟨h.tab.chg r L,⟨_,by simp [d],fun k=>by
     rw [Xg7 (by omega)];split
     ·rw [l]; exact Nat.xor_lt_two_pow (y _) o
     ·exact y k,fun k j I=>by
     rw [Xg7 (by omega),Xg7 (by omega)];by_cases s:k=i / 64
     ·subst s;rw [if_pos rfl,l,Nat.testBit_xor,Nat.testBit_two_pow,A _ j I];by_cases J:j=i % 64
      ·subst J;rw [if_pos (by omega),show 64*(i / 64)+i % 64=i from by omega,m]; simp
      ·rw [if_neg (by omega),decide_eq_false (by omega)]; simp
     ·rw [if_neg s,if_neg (by omega)];exact A k j I,F⟩,by simpa using h.pos,by simpa using h.len⟩,r⟩
  |false =>
   refine ζf rfl (ζy rfl (ζw (Xdz b x i w h) rfl ?_));cases g:Xhs x i with
   |false =>
    have f:XqR x i false=9:=by unfold XqR; rw [e,g]; rfl
    exact ζy rfl (ζr Tryz.func320 rfl ⟨by rw [f],B (by rw [f]; decide),Chg.refl _ _⟩)
   |true =>
    refine ζf rfl ?_;have M:0≤i∧i<x.length:=by unfold inM at e; simpa using e
    obtain ⟨i,rfl⟩:=Int.eq_ofNat_of_zero_le M.1;have N:i / 64<8:=by omega
    have C:(Xdv ws x).length=10:=by simp [Xdv,d]
    have t:=A (i / 64) (i % 64) (by omega);rw [show 64*(i / 64)+i % 64=i from by omega] at t;have m:x.getD i false=true:=by have:=g; unfold Xhs at this; simpa using this
    have o:(2:Nat) ^ (i % 64)<2 ^ 64:=Nat.pow_lt_pow_right (by decide) (by omega);obtain ⟨nw,l⟩:∃ nw,nw=ws.getD (i / 64) 0 ^^^ 2 ^ (i % 64):=⟨_,rfl⟩;refine ζd 14 XaX (by kernel_rfl) rfl fun a=>Xaq.div hTT a rfl (by omega) (XoJ (by omega) (by omega)) rfl (δi (i / 64) a rfl (δk a (XdK d K N) rfl (Xaq.div hTT a rfl (by omega) (Xo9 (by omega)) rfl ?_)));rw [show ((i:Int) % 64)=((i % 64:Nat):Int) from by omega];refine Xaq.shift hTT a rfl (by omega) (Xrx (by omega)) rfl (Xaq.bits hTT a rfl (Xdu (y _) o) rfl (δi (i / 64) a rfl ?_));rw [← l];refine δn a rfl fun T p=>ζS rfl (p.heap' K) (show XqS (Xdv ws x) (0+i / 64) [.int .u64 (nw:Int)]=some ((ws.set (i / 64) nw).map (fun n:Nat=>Value.int .u64 (n:Int)) ++ [Value.int .i64 (x.length:Int),Value.int .i64 (cnt x:Int)]) from by rw [Nat.zero_add,Xq2 _ _ _ (by rw [C]; omega)]; unfold Xdv; rw [Xra (by omega)]) rfl fun O q D Q => ?_;have E:O.cell? ⟨b,9,none⟩=some (.int .i64 (cnt x)):=by rw [Xel q]; simp [d]
    have P:=Xfh x;have c:=Xfk x i (by omega) false;have u:x[i]'(by omega)=true:=by rw [← m,List.getD_eq_getElem?_getD,List.getElem?_eq_getElem (by omega)]; rfl
    rw [u] at c
    first | refine Xay.yes hTT rfl rfl rfl ?_ | refine Xay.no hTT rfl rfl rfl ?_
    refine ζk rfl E rfl (ζJ rfl (by simp at c; omega) (ζS rfl q (show XqS ((ws.set (i / 64) nw).map (fun n:Nat=>Value.int .u64 (n:Int)) ++ [Value.int .i64 (x.length:Int),Value.int .i64 (cnt x:Int)]) 9 [.int .i64 ((cnt x:Int) - 1)]=some (Xdv (ws.set (i / 64) nw) (x.set i false)) from by rw [Xq2 _ _ _ (by simp [d]),List.set_append_right _ _ (by simp [d])]; unfold Xdv; simp [d]; simp at c; omega) rfl fun U F G R => ?_));have r:=((p.mono fun _ _ h=>h.elim).trans D).trans G;have f:XqR x i false=0:=by unfold XqR; rw [e,g]; rfl
    have H:XqP x i false=x.set i false:=by unfold XqP; rw [if_pos f]; simp
    exact Xay.ret1 hTT rfl Tryz.func320 rfl rfl ⟨by rw [f],by rw [H]; exact ⟨h.tab.chg r L,⟨_,by simp [d],fun k=>by
     rw [Xg7 (by omega)];split
     ·rw [l]; exact Nat.xor_lt_two_pow (y _) o
     ·exact y k,fun k j I=>by
     rw [Xg7 (by omega),Xg7 (by omega)];by_cases s:k=i / 64
     ·subst s;rw [if_pos rfl,l,Nat.testBit_xor,Nat.testBit_two_pow,A _ j I];by_cases J:j=i % 64
      ·subst J;rw [if_pos (by omega),show 64*(i / 64)+i % 64=i from by omega,m]; simp
      ·rw [if_neg (by omega),decide_eq_false (by omega)]; simp
     ·rw [if_neg s,if_neg (by omega)];exact A k j I,F⟩,by simpa using h.pos,by simpa using h.len⟩,r⟩
theorem Xjl {y:Nat} (h:y≠0):∃ t,y.testBit t=true ∧ ∀ j,j<t→y.testBit j=false:=by
 obtain ⟨i,b⟩:=Nat.exists_testBit_of_ne_zero h;have key:∀ n,∀ i,i≤n→y.testBit i=true → ∃ t,y.testBit t=true ∧ ∀ j,j<t→y.testBit j=false:=by
  intro n
  induction n with
  |zero=>intro i b c; exact ⟨i,c,fun j d=>by omega⟩
  |succ n ih =>
   intro i b c;by_cases a:∀ j,j<i→y.testBit j=false
   ·exact ⟨i,c,a⟩
   ·have:∃ j,j<i∧y.testBit j=true:=by
     apply Classical.byContradiction
     intro e;apply a
     intro j d;cases g:y.testBit j with
     |false=>rfl
     |true=>exact (e ⟨j,d,g⟩).elim
    obtain ⟨j,d,f⟩:=this;exact ih j (by omega) f
 exact key i i (Nat.le_refl _) b
theorem Xwi {ws:List Nat} {k:Nat} (hk:k<ws.length):(ws.map (fun n:Nat=>Value.int .u64 (n:Int)))[((k:Nat):Int).toNat]? = some (.int .u64 (ws.getD k 0:Nat)):=by
 rw [Int.toNat_natCast,List.getElem?_map,List.getElem?_eq_getElem hk,List.getD_eq_getElem?_getD,List.getElem?_eq_getElem hk];rfl
theorem XdL {w:World} {b:Nat} {x:List Bool} {ws:List Nat} (h1:ws.length=8) (h:w.heap[b]? = some (.cells (Xdv ws x).toArray 366 (0,0))):∀ j v,(ws.map (fun n:Nat=>Value.int .u64 (n:Int)))[j]? = some v→w.cell? ⟨b,0+j,none⟩=some v:=fun j v a=>by
 have c:j<ws.length:=by have:=(List.getElem?_eq_some_iff.1 a).1; simpa using this
 rw [Xel h,Nat.zero_add,List.getElem?_toArray];unfold Xdv;rw [List.getElem?_append_left (by simpa using c)];exact a
theorem Xhb {x:List Bool} {j:Nat} (h:x.getD j false=true):j<x.length:=by
 rcases Nat.lt_or_ge j x.length with h2 | h2
 ·exact h2
 ·rw [List.getD_eq_getElem?_getD,List.getElem?_eq_none h2] at h; cases h
theorem Xg2 {x:List Bool} {j:Nat} (h:j<x.length):x[j]=x.getD j false:=by simp [List.getD,h]
theorem XdC (b:Nat) (x:List Bool) (w:World) (h:Xai w b x):Xan Tryz.prog 318 #[.pointer (some ⟨b,0,none⟩)] w (Grow (.int .i64 (Xkd x)) w):=by
 have J:=h.len;refine ζe Tryz.func318 Tryz.ntmps318 rfl (Xay.quiet rfl Xk3 (by kernel_rfl) (Xba.adv hTT rfl (Xba.load hTT rfl h.cnt rfl (Xba.load hTT rfl h.many rfl (Xba.nil fun F l=>ζa rfl ?_)))));have z:=h.grow l;obtain ⟨ws,G,s,u,H⟩:=z.ws;by_cases a:cnt x=x.length
 ·exact ζY rfl (by rw [a]; exact beq_self_eq_true _) (ζr Tryz.func318 rfl ⟨XiH (Xir (p:=fun b => !b) (fun j i=>by rw [Xfg a j i]; rfl)).symm,l⟩)
 ·obtain ⟨A,B,c⟩:=Xfi a;rw [Xg2 B] at c;refine ζF rfl (by simp; omega) (Xay.loadC hTT (ws.map (fun n:Nat=>Value.int .u64 (n:Int))) rfl (by first | rfl | (simp; done) | (simp [*]; done) | (simp; omega)) (XdL G H) rfl ?_);refine Xay.loop (α:=Nat) (fun k => [(3,false,.int .i64 (-1)),(23,false,.agg (ws.map (fun n:Nat=>Value.int .u64 (n:Int))).toArray),(24,false,.int .i64 k)])
   (fun k w'=>w'=F∧k≤8 ∧ ∀ j,j<64*k→x.getD j false=true) (fun k=>8 - k) 0 ⟨rfl,rfl,rfl,trivial⟩ ⟨rfl,by omega,fun j i=>by omega⟩ ?_
  rintro k C ⟨I,K,e⟩ ih;subst I;refine ζa rfl (ζg rfl (fun v => ?_) fun v => ?_)
  ·have D:k<8:=by have:=of_decide_eq_true v; omega
   refine Xay.aidx hTT rfl (by first | rfl | (simp; done) | (simp [*]; done) | (simp; omega)) (by omega) (Xwi (by omega)) rfl (Xay.un hTT rfl (Xvm (s k)) rfl ?_);by_cases y:cpl (ws.getD k 0)=0
   ·rw [y];refine ζw (XdG C) rfl (ζf rfl (ζj rfl ?_));exact ih (k+1) _ _ ⟨rfl,by omega,fun j i=>by
     by_cases d:j<64*k
     ·exact e j d
     ·have m:=Xfx (x:=ws.getD k 0) (j:=j - 64*k) (by omega);rw [y,Nat.zero_testBit,u k _ (by omega),show 64*k+(j - 64*k)=j from by omega] at m
      simpa using m.symm⟩ (by omega) ⟨rfl,rfl,rfl,trivial⟩
   ·obtain ⟨t,g,q⟩:=Xjl y;have f:t<64:=by
     rcases Nat.lt_or_ge t 64 with h' | h'
     ·exact h'
     ·rw [Nat.testBit_lt_two_pow (Nat.lt_of_lt_of_le (Xfy (s k)) (Nat.pow_le_pow_right (by decide) h'))] at g; cases g
    refine ζw (XdF (cpl (ws.getD k 0)) t C z.tab (Xfy (s k)) f g q) rfl (ζy rfl (ζj rfl (ζj rfl ?_)));have E:x.getD (64*k+t) false=false:=by
     rw [← u k t f];have:=Xfx (x:=ws.getD k 0) f;rw [g] at this
     simpa using this.symm
    have o:∀ j,j<64*k+t→x.getD j false=true:=fun j i=>by
     by_cases d:j<64*k
     ·exact e j d
     ·have m:=Xfx (x:=ws.getD k 0) (j:=j - 64*k) (by omega);rw [q _ (by omega),u k _ (by omega),show 64*k+(j - 64*k)=j from by omega] at m
      simpa using m.symm
    have r:64*k+t<x.length:=by
     rcases Nat.lt_or_ge (64*k+t) x.length with h' | h'
     ·exact h'
     ·rw [o A (by omega)] at c; cases c
    exact ζr Tryz.func318 rfl ⟨XiH (by have:=Xip (p:=fun b => !b) r (fun j i d=>by rw [Xg2 i,o j d]; rfl) (by rw [Xg2 r,E]; rfl); unfold Xkd; rw [this]; omega),l⟩
  ·exfalso
   have D:k=8:=by have:=of_decide_eq_false v; omega
   rw [e A (by omega)] at c; cases c
theorem XdA (b:Nat) (x:List Bool) (w:World) (h:Xai w b x):Xan Tryz.prog 317 #[.pointer (some ⟨b,0,none⟩)] w (Xbs (.int .i64 (XhZ x)) w):=by
 have K:=h.len;obtain ⟨ws,D,v,q,E⟩:=h.ws;refine ζe Tryz.func317 Tryz.ntmps317 rfl (Xay.loadC hTT (ws.map (fun n:Nat=>Value.int .u64 (n:Int))) rfl (by first | rfl | (simp; done) | (simp [*]; done) | (simp; omega)) (XdL D E) rfl ?_);refine Xay.loop (α:=Nat × Int) (fun p => [(3,false,.int .i64 p.2),(11,false,.agg (ws.map (fun n:Nat=>Value.int .u64 (n:Int))).toArray),(12,false,.int .i64 p.1)])
  (fun p w'=>w'=w∧p.1≤8∧((p.2 = -1 ∧ ∀ j,j<64*p.1→x.getD j false=false)∨(∃ i:Nat,i<64*p.1∧p.2=i∧x.getD i false=true ∧ ∀ j,i<j→j<64*p.1→x.getD j false=false))) (fun p=>8 - p.1) (0,-1) ⟨rfl,rfl,rfl,trivial⟩ ⟨rfl,by omega,.inl ⟨rfl,fun j a=>by omega⟩⟩ ?_
 rintro ⟨k,at'⟩ F ⟨G,H,e⟩ ih;simp only at H e
 subst G;refine ζa rfl (ζg rfl (fun r => ?_) fun r => ?_)
 ·have m:k<8:=by have:=of_decide_eq_true r; omega
  refine Xay.aidx hTT rfl (by first | rfl | (simp; done) | (simp [*]; done) | (simp; omega)) (by omega) (Xwi (by omega)) rfl ?_;by_cases s:ws.getD k 0=0
  ·refine ζF rfl (by rw [s]; rfl) (ζj rfl ?_);have o:∀ j,64*k≤j→j<64*(k+1)→x.getD j false=false:=fun j a d=>by
    have y:=q k (j - 64*k) (by omega);rw [s,Nat.zero_testBit,show 64*k+(j - 64*k)=j from by omega] at y;exact y.symm
   refine ih (k+1,at') _ _ ⟨rfl,by simp only; omega,?_⟩ (by simp only; omega) ⟨rfl,rfl,rfl,trivial⟩;rcases e with ⟨f,c⟩ | ⟨i,f,c,g,t⟩
   ·exact .inl ⟨f,fun j a=>by by_cases l:j<64*k; exact c j l; exact o j (by omega) a⟩
   ·exact .inr ⟨i,by simp only; omega,c,g,fun j a d=>by by_cases l:j<64*k; exact t j a l; exact o j (by omega) d⟩
  ·refine ζY rfl (by simpa using s) (ζj rfl (ζc rfl (XdB (ws.getD k 0) F (v k)) ?_));rintro _ L ⟨n,u,rfl,rfl⟩;refine ζa rfl ?_;have z:=u.pos (by omega);have I:=u.le (v k);refine ζj rfl (ζj rfl (ζj rfl ?_));obtain ⟨A,B⟩:=u.top z;refine ih (k+1,(k:Int)*64+n - 1) _ _ ⟨rfl,by simp only; omega,.inr ⟨64*k+(n - 1),by simp only; omega,by simp only; omega,?_,fun j a d => ?_⟩⟩ (by simp only; omega) ⟨rfl,rfl,rfl,trivial⟩
   ·rw [← q k (n - 1) (by omega)]; exact A
   ·have:=q k (j - 64*k) (by simp only at d; omega);rw [show 64*k+(j - 64*k)=j from by omega] at this;rw [← this];exact B _ (by omega)
 ·have m:k=8:=by have:=of_decide_eq_false r; omega
  subst m;have J:at'=XhZ x:=by
   unfold XhZ;rcases e with ⟨f,c⟩ | ⟨i,f,c,g,t⟩
   ·rw [f,Xpi (fun j a=>by rw [Xg2 a]; exact c j (by omega))]
   ·rw [c,Xph (Xhb g) (fun j a C=>by rw [Xg2 a]; exact t j C (by omega)) (by rw [Xg2 (Xhb g)]; exact g)]
  exact ζr Tryz.func317 rfl ⟨XiH J,rfl⟩
def pgB (x:List Int):List Bool:=x.map fun o => !(o == -1)
def Xnk (x:List Int) (i:Int):Int:=if 0≤i then x.getD i.toNat (-1) else -1
def Xni (x:List Int):Int:=Xkd (pgB x)
def Xnx (x:List Int):Int:=XhZ (pgB x)
def Xnz (x:List Int):Nat:=cnt (pgB x)
def Xnu (x:List Int) (who:Int):Int:=if who<0 then 1 else if Xni x<0 then 5 else 0
def Xnt (x:List Int) (who:Int):Int:=if Xnu x who=0 then Xni x else 0
def Xns (x:List Int) (who:Int):List Int:=if Xnu x who=0 then x.set (Xni x).toNat who else x
def Xnf (x:List Int) (i:Int):Int:=if i<0∨(x.length:Int)≤i then 1 else if Xnk x i = -1 then 9 else 0
def Xne (x:List Int) (i:Int):List Int:=if Xnf x i=0 then x.set i.toNat (-1) else x
def Xnl (x:List Int) (i who:Int):Int:=if i<0∨(x.length:Int)≤i∨who<0 then 1 else if Xnk x i = -1 then 9 else 0
def Xnm (x:List Int) (i who:Int):List Int:=if Xnl x i who=0 then x.set i.toNat who else x
theorem Xnb (x:List Int):(pgB x).length=x.length:=by simp [pgB]
theorem Xna (x:List Int) (k:Nat):(pgB x).getD k false = !(x.getD k (-1) == -1):=by
 unfold pgB;rw [List.getD_eq_getElem?_getD,List.getElem?_map,List.getD_eq_getElem?_getD];cases h:x[k]? <;> simp
theorem XnE (x:List Int) (i:Int):Xhs (pgB x) i = !(Xnk x i == -1):=by
 unfold Xhs Xnk;rw [Xna];by_cases h:0≤i
 ·rw [if_pos h,decide_eq_true h]; rfl
 ·rw [if_neg h,decide_eq_false h]; rfl
theorem XnG (x:List Int) (i:Int):inM (pgB x) i=true↔0≤i∧i<x.length:=by
 unfold inM; rw [Xnb]; simp
theorem Xnc (x:List Int) (i:Nat) (v:Int):pgB (x.set i v)=(pgB x).set i (!(v == -1)):=by
 unfold pgB; rw [List.map_set]
theorem Xnq {x:List Int} {i:Int} (h:i<0∨(x.length:Int)≤i):Xnk x i = -1:=by
 unfold Xnk;by_cases a:0≤i
 ·rw [if_pos a,List.getD_eq_getElem?_getD,List.getElem?_eq_none (by omega)]; rfl
 ·rw [if_neg a]
theorem Xkf {x:List Bool} (hfull:cnt x≠x.length):∃ t,t<x.length∧x.getD t false=false ∧ ∀ j,j<t→x.getD j false=true:=by
 obtain ⟨g,e,a⟩:=Xfi hfull;have key:∀ m t,t≤m→t<x.length→x.getD t false=false → ∃ t,t<x.length∧x.getD t false=false ∧ ∀ j,j<t→x.getD j false=true:=by
  intro m
  induction m with
  |zero=>intro t ht b c; exact ⟨t,b,c,fun j f=>by omega⟩
  |succ m ihm =>
   intro t ht b c;by_cases d:∀ j,j<t→x.getD j false=true
   ·exact ⟨t,b,c,d⟩
   ·have:∃ j,j<t∧x.getD j false=false:=by
     apply Classical.byContradiction
     intro h;apply d
     intro j f;cases i:x.getD j false with
     |true=>rfl
     |false=>exact (h ⟨j,f,i⟩).elim
    obtain ⟨j,f,a⟩:=this;exact ihm j (by omega) (by omega) a
 exact key g g (Nat.le_refl _) e (by rw [← Xg2 e]; exact a)
theorem Xkg {x:List Bool} (h:0≤Xkd x):(Xkd x).toNat<x.length∧x.getD (Xkd x).toNat false=false:=by
 unfold Xkd at h ⊢;by_cases hf:cnt x=x.length
 ·rw [Xir (p:=fun b => !b) (fun j d=>by rw [Xfg hf j d]; rfl)] at h;exact absurd h (by decide)
 ·obtain ⟨t,a,c,e⟩:=Xkf hf;rw [Xip (p:=fun b => !b) a (fun j d f=>by rw [Xg2 d,e j f]; rfl) (by rw [Xg2 a,c]; rfl)];exact ⟨a,c⟩
theorem Xke {x:List Bool}:Xkd x<0↔cnt x=x.length:=by
 unfold Xkd;by_cases hf:cnt x=x.length
 ·rw [Xir (p:=fun b => !b) (fun j c=>by rw [Xfg hf j c]; rfl)];exact ⟨fun _=>hf,fun _=>by decide⟩
 ·obtain ⟨t,a,d,e⟩:=Xkf hf;rw [Xip (p:=fun b => !b) a (fun j c f=>by rw [Xg2 c,e j f]; rfl) (by rw [Xg2 a,d]; rfl)];exact ⟨fun h=>by omega,fun h=>absurd h hf⟩
structure Pg where
 p:Nat
 bb:Nat
 mb:Nat
abbrev pgV (g:Pg):Value := .pointer (some ⟨g.p,0,none⟩)
def Xnd (g:Pg):Nat→Prop:=fun z=>z=g.bb∨z=g.mb
def pgL (g:Pg) (x:List Int):List Value := [.pointer (some ⟨g.bb,0,none⟩),.int .i64 (x.length:Int),.map (some g.mb)]
structure Xa3 (w:World) (g:Pg) (x:List Int):Prop where
 pc:w.heap[g.p]? = some (.cells (pgL g x).toArray 325 (0,0))
 bits:Xai w g.bb (pgB x)
 own:∃ m,XaL w g.mb m∧(Xb9 m).Nodup ∧ ∀ i,i<x.length→x.getD i (-1) ≠ -1→Xcj m i=some (.int .i64 (x.getD i (-1)))
 npb:g.p≠g.bb
 npm:g.p≠g.mb
 nbm:g.bb≠g.mb
theorem Xa3.chg {S:Nat→Prop} {w w':World} {g:Pg} {x:List Int} (h:Xa3 w g x) (hc:Chg S w w') (h1:¬ S g.p) (h2:¬ S g.bb) (h3:¬ S g.mb) (hg:¬ S 1):Xa3 w' g x:=by
 obtain ⟨m,hm,a,b⟩:=h.own;exact ⟨hc.heap h.pc h1,h.bits.chg hc h2 hg,⟨m,hm.chg hc h3,a,b⟩,h.npb,h.npm,h.nbm⟩
theorem Xa3.grow {w w':World} {g:Pg} {x:List Int} (h:Xa3 w g x) (hc:Chg XaX w w'):Xa3 w' g x:=h.chg hc id id id id
theorem Xa3.lt {w:World} {g:Pg} {x:List Int} (h:Xa3 w g x):g.p<w.heap.size∧g.bb<w.heap.size∧g.mb<w.heap.size:=by
 obtain ⟨m,hm,a,b⟩:=h.own;exact ⟨Xkj h.pc,h.bits.lt,hm.lt⟩
theorem Xa3.footlt {w:World} {g:Pg} {x:List Int} (h:Xa3 w g x):∀ b,Xnd g b→b<w.heap.size:=fun b a=>by
 obtain ⟨_,c,d⟩:=h.lt;rcases a with rfl | rfl
 ·exact c
 ·exact d
theorem Xa3.notab {w:World} {g:Pg} {x:List Int} (h:Xa3 w g x):1≠g.mb:=fun e=>by
 obtain ⟨m,⟨es,c,hm,_⟩,a,b⟩:=h.own;have:=h.bits.tab 0 (by decide);rw [e] at this;simp only [World.cell?,hm] at this;cases this
theorem XmM (m:Nat) (w:World) (hT0:XbD w) (h:1≤m∧m≤512):Xan Tryz.prog 216 #[.int .i64 m] w
 (fun v w' => ∃ g,v = .tuple #[pgV g,.int .i64 0]∧(w.heap.size≤g.p∧w.heap.size≤g.bb∧w.heap.size≤g.mb)∧Xa3 w' g (List.replicate m (-1))∧Chg XaX w w'):=by
 refine Xan.enter Tryz.func216 rfl Tryz.ntmps216 rfl rfl ?_;refine ζa rfl ?_;refine ζc rfl (XdD m w hT0 h) ?_;rintro _ y ⟨bb,rfl,f,c,d⟩;refine ζa rfl ?_;refine Xay.no hTT rfl rfl rfl ?_;refine Xay.mkmap rfl ?_;intro mb z r j e s;refine ζa rfl ?_;refine Xay.build hTT rfl rfl ?_;refine Xay.alloc hTT rfl ?_;intro p A e3 q a t;refine ζa rfl ?_;have k:=(c.grow e).grow a;have u:=c.lt;have x:=d.size;have b:(List.replicate m (-1:Int)).length=m:=List.length_replicate;have l:pgB (List.replicate m (-1))=List.replicate m false:=by simp [pgB]
 exact Xay.ret2 hTT rfl Tryz.func216 rfl rfl rfl ⟨⟨p,bb,mb⟩,rfl,⟨by simp only; omega,f,by simp only; omega⟩,⟨by unfold pgL; rw [b]; exact q,by rw [l]; exact k,⟨[],j.chg a id,List.nodup_nil,fun i n o=>absurd (by rw [b] at n; rw [List.getD_eq_getElem?_getD,List.getElem?_replicate,if_pos n]; rfl) o⟩,by simp only; omega,by simp only; omega,by simp only; omega⟩,(d.trans e).trans a⟩
theorem XmT (g:Pg) (x:List Int) (w:World) (h:Xa3 w g x):Xan Tryz.prog 324 #[pgV g] w (Xbs (.int .i64 (Xnz x)) w):=by
 exact ζe Tryz.func324 Tryz.ntmps324 rfl (ζl h.pc rfl (ζw (Xdy g.bb _ w h.bits) rfl (ζr Tryz.func324 rfl ⟨rfl,rfl⟩)))
theorem XmL (g:Pg) (x:List Int) (w:World) (h:Xa3 w g x):Xan Tryz.prog 296 #[pgV g] w (Grow (.int .i64 (Xni x)) w):=by
 exact ζe Tryz.func296 Tryz.ntmps296 rfl (ζl h.pc rfl (ζv (XdC g.bb _ w h.bits) rfl fun b a=>ζr Tryz.func296 rfl ⟨rfl,a⟩))
theorem XmS (g:Pg) (x:List Int) (w:World) (h:Xa3 w g x):Xan Tryz.prog 295 #[pgV g] w (Xbs (.int .i64 (Xnx x)) w):=by
 exact ζe Tryz.func295 Tryz.ntmps295 rfl (ζl h.pc rfl (ζw (XdA g.bb _ w h.bits) rfl (ζr Tryz.func295 rfl ⟨rfl,rfl⟩)))
theorem XmJ (g:Pg) (x:List Int) (w:World) (h:Xa3 w g x):Xan Tryz.prog 300 #[pgV g] w (Grow (.bool ((Xnz x:Int) == x.length)) w):=by
 exact ζe Tryz.func300 Tryz.ntmps300 rfl (ζd 15 XaX (by kernel_rfl) rfl fun a=>Xaq.yes hTT a rfl rfl rfl (δl a h.pc rfl (δw a (fun w' b=>Xdy g.bb _ w' (h.bits.grow b)) rfl (δl a h.pc rfl (δn a rfl fun d c=>ζr Tryz.func300 rfl ⟨rfl,c⟩)))))
theorem XmP (g:Pg) (x:List Int) (i:Int) (w:World) (h:Xa3 w g x):Xan Tryz.prog 297 #[pgV g,.int .i64 i] w (Xbs (.int .i64 (Xnk x i)) w):=by
 refine ζe Tryz.func297 Tryz.ntmps297 rfl (ζf rfl (ζl h.pc rfl (ζw (Xdz g.bb _ i w h.bits) rfl ?_)));rw [XnE];cases d:(Xnk x i == -1) with
 |true =>
  exact ζy rfl (ζr Tryz.func297 rfl ⟨XiH (show -1=Xnk x i from (by simpa using d:Xnk x i = -1).symm),rfl⟩)
 |false =>
  refine ζf rfl ?_;obtain ⟨m,hm,j,f⟩:=h.own;have a:Xnk x i ≠ -1:=by simpa using d
  have b:0≤i∧i<x.length:=Classical.byContradiction fun l=>a (Xnq (by omega));obtain ⟨k,rfl⟩:=Int.eq_ofNat_of_zero_le b.1;have c:Xnk x k=x.getD k (-1):=by unfold Xnk; rw [if_pos b.1]; rfl
  have e:=f k (by omega) (by rw [← c]; exact a);exact ζl h.pc rfl (Xay.lookup hTT rfl (hm) ((show Xj6 m (.int .i64 0) k false = .int .i64 (Xnk x k) by unfold Xj6; rw [e,c]; rfl)) rfl (ζr Tryz.func297 rfl ⟨rfl,rfl⟩))
theorem XmQ (i:Int) (w:World):Xan Tryz.prog 297 #[.pointer none,.int .i64 i] w (Xbs (.int .i64 (-1)) w):=by
 exact ζe Tryz.func297 Tryz.ntmps297 rfl (ζr Tryz.func297 rfl ⟨rfl,rfl⟩)
theorem XnF {x:List Int} (h:¬ Xni x<0):(Xni x).toNat<x.length∧x.getD (Xni x).toNat (-1) = -1:=by
 obtain ⟨a,b⟩:=Xkg (x:=pgB x) (by unfold Xni at h; omega);rw [Xnb] at a;rw [Xna] at b;exact ⟨a,show x.getD (Xkd (pgB x)).toNat (-1) = -1 by simpa using b⟩
theorem Xg9 (x:List Int) (i j:Nat) (v:Int):(x.set i v).getD j (-1)=if i=j∧i<x.length then v else x.getD j (-1):=by
 rw [List.getD_eq_getElem?_getD,List.getElem?_set,List.getD_eq_getElem?_getD];by_cases h:i=j
 ·subst h;by_cases a:i<x.length
  ·simp [a]
  ·simp [a]
 ·simp [h]
theorem XmR (g:Pg) (x:List Int) (who:Int) (w:World) (h:Xa3 w g x):Xan Tryz.prog 299 #[pgV g,.int .i64 who] w
 (fun v w'=>v = .tuple #[.int .i64 (Xnt x who),.int .i64 (Xnu x who)]∧Xa3 w' g (Xns x who)∧Chg (Xnd g) w w'):=by
 have z:=h.bits.len;rw [Xnb] at z;by_cases A:who<0
 ·have a:Xnu x who=1:=by unfold Xnu; rw [if_pos A]
  have j:Xnt x who=0:=by unfold Xnt; rw [a]; rfl
  have ht:Xns x who=x:=by unfold Xns; rw [a]; rfl
  rw [a,j,ht];exact ζe Tryz.func299 Tryz.ntmps299 rfl (ζy rfl (ζr Tryz.func299 rfl ⟨rfl,h,Chg.refl _ _⟩))
 ·by_cases c:Xni x<0
  ·have a:Xnu x who=5:=by unfold Xnu; rw [if_neg A,if_pos c]
   have j:Xnt x who=0:=by unfold Xnt; rw [a]; rfl
   have ht:Xns x who=x:=by unfold Xns; rw [a]; rfl
   have b:((Xnz x:Int) == x.length)=true:=by have:=Xke.1 c; rw [Xnb] at this; unfold Xnz; rw [this]; exact beq_self_eq_true _
   rw [a,j,ht];refine ζe Tryz.func299 Tryz.ntmps299 rfl (ζf rfl (ζv (XmJ g x w h) rfl fun C d => ?_));rw [b];exact ζy rfl (ζr Tryz.func299 rfl ⟨rfl,h.grow d,d.mono (fun _ _ h=>h.elim)⟩)
  ·have a:Xnu x who=0:=by unfold Xnu; rw [if_neg A,if_neg c]
   have j:Xnt x who=Xni x:=by unfold Xnt; rw [a]; rfl
   have ht:Xns x who=x.set (Xni x).toNat who:=by unfold Xns; rw [a]; rfl
   have b:((Xnz x:Int) == x.length)=false:=by
    rw [beq_eq_false_iff_ne];intro e;exact c (Xke.2 (by rw [Xnb]; unfold Xnz at e; omega))
   obtain ⟨r,s⟩:=XnF c;rw [a,j,ht];refine ζe Tryz.func299 Tryz.ntmps299 rfl (ζf rfl (ζv (XmJ g x w h) rfl fun C d => ?_));rw [b];have k:=h.grow d;refine ζf rfl (ζl k.pc rfl (ζv (XdC g.bb _ C k.bits) rfl fun K t => ?_));have f:=k.grow t;obtain ⟨m,hm,L,D⟩:=f.own;refine ζl f.pc rfl (Xay.mapset hTT rfl (hm) fun M E l P=>ζa rfl ?_);have n:=l.heap f.pc h.npm;have F:=f.bits.chg l h.nbm f.notab;refine ζl n rfl (ζc rfl (XdE g.bb _ (Xkd (pgB x)) true M F) ?_);rintro _ N ⟨rfl,u,o⟩;refine ζa rfl ?_;have y:XqR (pgB x) (Xkd (pgB x)) true=0:=by
    unfold XqR;rw [if_neg (by rw [(XnG x _).2 ⟨by unfold Xni at c; omega,by unfold Xni at r c; omega⟩]; decide),if_neg (by rw [XnE]; unfold Xnk; unfold Xni at s; rw [s]; split <;> decide),if_neg (by simp)]
   have G:XqP (pgB x) (Xkd (pgB x)) true=pgB (x.set (Xni x).toNat who):=by
    unfold XqP;rw [if_pos y,Xnc,show (!(who == -1))=true from by simp; omega]; rfl
   rw [y];rw [G] at u;have B:Chg (Xnd g) K N:=(l.mono fun _ _ h => .inr h).trans (o.mono fun _ _ h => .inl h);have H:=((d.trans t).mono (fun _ _ h=>h.elim)).trans B;have I:=E.chg o h.nbm.symm;have p:=o.heap n h.npb;exact Xay.ret2 hTT rfl Tryz.func299 rfl rfl rfl ⟨rfl,⟨by unfold pgL at p ⊢; rw [List.length_set]; exact p,u,⟨_,I,XlX L _ _,fun i J q=>by
    rw [Xco,Xg9];rw [List.length_set] at J;by_cases e:(i:Int)=Xkd (pgB x)
    ·rw [if_pos e,if_pos ⟨by unfold Xni; omega,r⟩]
    ·rw [Xg9] at q;have e':¬ ((Xni x).toNat=i∧(Xni x).toNat<x.length):=fun O=>e (by unfold Xni at O c; omega);rw [if_neg e'] at q ⊢;rw [if_neg e];exact D i J q⟩,h.npb,h.npm,h.nbm⟩,H⟩
theorem XmK (g:Pg) (x:List Int) (i:Int) (w:World) (h:Xa3 w g x):Xan Tryz.prog 302 #[pgV g,.int .i64 i] w
 (fun v w'=>v = .int .i64 (Xnf x i)∧Xa3 w' g (Xne x i)∧Chg (Xnd g) w w'):=by
 have q:XqR (pgB x) i false=Xnf x i:=by
  unfold XqR Xnf;by_cases r:0≤i∧i<x.length
  ·rw [if_neg (by rw [(XnG x i).2 r]; decide),if_neg (by simp),if_neg (show ¬ (i<0∨(x.length:Int)≤i) by omega),XnE];by_cases a:Xnk x i = -1
   ·rw [if_pos a,if_pos (by rw [a]; rfl)]
   ·rw [if_neg a,if_neg (by simpa using a)]
  ·rw [if_pos (by cases C:inM (pgB x) i; rfl; exact absurd ((XnG x i).1 C) r),if_pos (by omega)]
 have D:XqP (pgB x) i false=pgB (Xne x i):=by
  unfold XqP Xne;rw [q];split
  ·rw [Xnc]; rfl
  ·rfl
 have l:(Xne x i).length=x.length:=by unfold Xne; split <;> simp
 obtain ⟨m,hm,s,t⟩:=h.own;refine Xan.enter Tryz.func302 rfl Tryz.ntmps302 rfl rfl ?_;refine ζa rfl ?_;refine Xay.loadb hTT rfl h.pc rfl rfl ?_;refine Xay.mapdel hTT rfl (hm) ?_;intro u y b F;refine ζa rfl ?_;have c:=b.heap h.pc h.npm;have z:Xai u g.bb (pgB x):=h.bits.chg b h.nbm h.notab;refine Xay.loadb hTT rfl c rfl rfl ?_;refine ζc rfl (XdE g.bb _ i false u z) ?_;rintro _ H ⟨rfl,n,d⟩;refine ζa rfl ?_;rw [q];rw [D] at n;have A:=y.chg d h.nbm.symm;have f:=d.heap c h.npb;exact Xay.ret1 hTT rfl Tryz.func302 rfl rfl ⟨rfl,⟨by unfold pgL at f ⊢; rw [l]; exact f,n,⟨_,A,XlV s _,fun j o k=>by
  rw [l] at o;rw [Xcl s];by_cases e:(j:Int)=i
  ·exfalso
   apply k
   unfold Xne Xnf;subst e;have B:Xnk x (j:Int)=x.getD j (-1):=by unfold Xnk; rw [if_pos (by omega)]; rfl
   rw [if_neg (show ¬ ((j:Int)<0∨(x.length:Int)≤j) by omega)];by_cases a:Xnk x (j:Int) = -1
   ·rw [if_pos a,if_neg (by decide),← B]; exact a
   ·rw [if_neg a,if_pos rfl,Int.toNat_natCast,Xg9,if_pos ⟨rfl,o⟩]
  ·rw [if_neg e];have E:(Xne x i).getD j (-1)=x.getD j (-1):=by
    unfold Xne;split
    ·rename_i p
     have G:0≤i:=Classical.byContradiction fun I=>by unfold Xnf at p; rw [if_pos (by omega)] at p; cases p
     rw [Xg9,if_neg (by omega)]
    ·rfl
   rw [E] at k ⊢;exact t j o k⟩,h.npb,h.npm,h.nbm⟩,(b.mono fun _ _ h => .inr h).trans (d.mono fun _ _ h => .inl h)⟩
theorem XmN (g:Pg) (x:List Int) (i who:Int) (w:World) (h:Xa3 w g x):Xan Tryz.prog 265 #[pgV g,.int .i64 i,.int .i64 who] w
 (fun v w'=>v = .int .i64 (Xnl x i who)∧Xa3 w' g (Xnm x i who)∧Chg (Xnd g) w w'):=by
 have n:∀ e:Int,Xnl x i who=e→e≠0→Xnm x i who=x:=fun e q r=>by unfold Xnm; rw [q,if_neg r]
 refine ζe Tryz.func265 Tryz.ntmps265 rfl ?_;by_cases q:who<0
 ·have a:Xnl x i who=1:=by unfold Xnl; rw [if_pos (by omega)]
  rw [a,n 1 a (by decide)];exact ζy rfl (ζr Tryz.func265 rfl ⟨rfl,h,Chg.refl _ _⟩)
 refine ζf rfl ?_;by_cases r:i<0
 ·have a:Xnl x i who=1:=by unfold Xnl; rw [if_pos (by omega)]
  rw [a,n 1 a (by decide)];exact ζy rfl (ζr Tryz.func265 rfl ⟨rfl,h,Chg.refl _ _⟩)
 refine ζf rfl (ζl h.pc rfl ?_);by_cases D:(x.length:Int)≤i
 ·have a:Xnl x i who=1:=by unfold Xnl; rw [if_pos (by omega)]
  rw [a,n 1 a (by decide)];exact ζy rfl (ζr Tryz.func265 rfl ⟨rfl,h,Chg.refl _ _⟩)
 refine ζf rfl (ζl h.pc rfl (ζw (Xdz g.bb _ i w h.bits) rfl ?_));rw [XnE];by_cases d:Xnk x i = -1
 ·have a:Xnl x i who=9:=by unfold Xnl; rw [if_neg (by omega),if_pos d]
  rw [a,n 9 a (by decide),d];exact ζy rfl (ζr Tryz.func265 rfl ⟨rfl,h,Chg.refl _ _⟩)
 ·have a:Xnl x i who=0:=by unfold Xnl; rw [if_neg (by omega),if_neg d]
  have A:Xnm x i who=x.set i.toNat who:=by unfold Xnm; rw [a]; rfl
  rw [a,A];refine ζF rfl (show (!!(Xnk x i == -1))=false by simpa using d) ?_;obtain ⟨m,hm,B,s⟩:=h.own;refine ζl h.pc rfl (Xay.mapset hTT rfl (hm) fun E t f C=>ζa rfl ?_);have l:=f.heap h.pc h.npm;have u:=h.bits.chg f h.nbm h.notab;obtain ⟨k,rfl⟩:=Int.eq_ofNat_of_zero_le (show 0≤i by omega);have y:Xnk x (k:Int)=x.getD k (-1):=by unfold Xnk; rw [if_pos (by omega)]; rfl
  have z:pgB (x.set k who)=pgB x:=by
   rw [Xnc,show (!(who == -1))=true from by simp; omega];apply List.ext_getElem?
   intro j;rw [List.getElem?_set];split
   ·rename_i e
    subst e;have:=Xna x k;rw [List.getD_eq_getElem?_getD,show (!(x.getD k (-1) == -1))=true from by rw [← y]; simpa using d] at this;cases p:(pgB x)[k]? with
    |none=>rw [p] at this; cases this
    |some b=>rw [p] at this; simp at this; subst this; rw [if_pos (List.getElem?_eq_some_iff.1 p).1]
   ·rfl
  exact Xay.ret1 hTT rfl Tryz.func265 rfl rfl ⟨rfl,⟨by unfold pgL at l ⊢; rw [List.length_set]; exact l,by rw [Int.toNat_natCast,z]; exact u,⟨_,t,XlX B _ _,fun j o c=>by
   rw [Int.toNat_natCast] at o c ⊢;rw [List.length_set] at o;rw [Xco];rw [Xg9] at c ⊢;by_cases e:(j:Int)=k
   ·have e':k=j:=by omega
    subst e';rw [if_pos rfl,if_pos ⟨rfl,o⟩]
   ·rw [if_neg (show ¬ (k=j∧k<x.length) by omega)] at c ⊢;rw [if_neg e];exact s j o c⟩,h.npb,h.npm,h.nbm⟩,f.mono fun _ _ h => .inr h⟩
theorem XmO (i who:Int) (w:World):Xan Tryz.prog 265 #[.pointer none,.int .i64 i,.int .i64 who] w (Xbs (.int .i64 1) w):=by
 exact ζe Tryz.func265 Tryz.ntmps265 rfl (ζr Tryz.func265 rfl ⟨rfl,rfl⟩)
theorem XdP {w:World} {a b t t':Nat} {c c':Array Value} {f f':Nat × Nat} (h:w.heap[a]? = some (.cells c t f)) (h':w.heap[b]? = some (.cells c' t' f')) (ht:t≠t'):a≠b:=by
 intro e; subst e; rw [h] at h'; cases h'; exact ht rfl
def Xuk (len:Nat) (f:Nat→Int):List Value:=(List.range len).map fun i => .int .i64 (f i)
def XaE (w:World) (b:Nat) (t:TypeId) (len:Nat) (f:Nat→Int):Prop:=w.heap[b]? = some (.cells (Xuk len f).toArray t (0,0))
def upd (f:Nat→Int) (i:Nat) (v:Int):Nat→Int:=fun j=>if j=i then v else f j
theorem Xvw (f:Nat→Int) (i:Nat) (v:Int):upd f i v i=v:=by unfold upd; rw [if_pos rfl]
theorem Xvv (f:Nat→Int) {i j:Nat} (v:Int) (h:j≠i):upd f i v j=f j:=by unfold upd; rw [if_neg h]
theorem Xul (len:Nat) (f:Nat→Int):(Xuk len f).length=len:=by unfold Xuk; simp
theorem Xum {len:Nat} {f:Nat→Int} {i:Nat} {v:Int} (hi:i<len):(Xuk len f).set i (.int .i64 v)=Xuk len (upd f i v):=by
 refine List.ext_getElem? fun j => ?_;unfold Xuk;rw [List.getElem?_set];by_cases h:i=j
 ·subst h;rw [if_pos rfl,if_pos (by simpa using hi),List.getElem?_map,List.getElem?_range hi];simp [upd]
 ·rw [if_neg h,List.getElem?_map,List.getElem?_map];by_cases a:j<len
  ·rw [List.getElem?_range a];simp [upd,Ne.symm h]
  ·rw [List.getElem?_eq_none (by simpa using a)];rfl
theorem XiI {w:World} {b:Nat} {t:TypeId} {len:Nat} {f:Nat→Int} (h:XaE w b t len f) {j k:Nat} (e:j=k) (hk:k<len):w.cell? ⟨b,j,none⟩=some (.int .i64 (f k)):=by
 subst e;rw [Xel h];unfold Xuk;simp [hk]
theorem XqU:∀ (l:List Value) (i:Nat) (v:Value) (vs:List Value),i<l.length→XqS l i (v::vs)=XqS (l.set i v) (i+1) vs
 |x::r,0,v,vs,_=>rfl
 |x::r,i+1,v,vs,h=>by
  show (match XqS r i (v::vs) with | some q=>some (x::q) | none=>none)=(match XqS (r.set i v) (i+1) vs with | some q=>some (x::q) | none=>none)
  rw [XqU r i v vs (by simpa using h)]
theorem Xq4 {len:Nat} {f:Nat→Int} {j i:Nat} {v:Int} (e:j=i) (hi:i<len):XqS (Xuk len f) j [.int .i64 v]=some (Xuk len (upd f i v)):=by
 subst e;rw [Xq2 _ _ _ (by rw [Xul]; exact hi),Xum hi]
theorem Xq5 {len:Nat} {f:Nat→Int} {j i:Nat} {v u:Int} (e:j=i) (hi:i+1<len):XqS (Xuk len f) j [.int .i64 v,.int .i64 u]=some (Xuk len (upd (upd f i v) (i+1) u)):=by
 subst e;rw [XqU _ _ _ _ (by rw [Xul]; omega),Xum (by omega),Xq4 rfl hi]
theorem Xq6 {len:Nat} {f:Nat→Int} {j i:Nat} {v u z:Int} (e:j=i) (hi:i+2<len):XqS (Xuk len f) j [.int .i64 v,.int .i64 u,.int .i64 z]=some (Xuk len (upd (upd (upd f i v) (i+1) u) (i+2) z)):=by
 subst e;rw [XqU _ _ _ _ (by rw [Xul]; omega),Xum (by omega),Xq5 rfl (by omega)]
structure PlM where
 own:List Int
 free:List Nat
def PlM.take (x:PlM) (who:Int):PlM:=match x.free with
 |[]=>x
 |n::r=>⟨x.own.set n who,r⟩
def PlM.give (x:PlM) (n:Nat):PlM:=⟨x.own.set n (-1),n::x.free⟩
def XnU (n:Nat):PlM:=⟨List.replicate n (-1),List.range n⟩
structure PlM.Good (x:PlM):Prop where
 len:1≤x.own.length∧x.own.length≤1024
 nodup:x.free.Nodup
 free:∀ n ∈ x.free,n<x.own.length∧x.own.getD n 0 = -1
 all:∀ n,n<x.own.length→x.own.getD n 0 = -1→n ∈ x.free
 many:x.free.length+Xnz x.own=x.own.length
structure Pl where
 pb:Nat
 ab:Nat
def plL (P:Pl) (own:List Int) (head:Int):List Value := [.slice (some ⟨P.ab,0,none⟩) own.length own.length,.int .i64 head,.int .i64 (Xnz own:Nat),.func (.func 213) #[] #[]]
abbrev plV (P:Pl):Value := .pointer (some ⟨P.pb,0,none⟩)
def XnN (P:Pl):Nat→Prop:=fun z=>z=P.pb∨z=P.ab
def XjK (f:Nat→Int) (N:Nat):Int→List Nat→Prop
 |h,[]=>h=N
 |h,a::r=>h=a∧XjK f N (f (a*2+1)) r
theorem XjL {f g:Nat→Int} {N:Nat}:∀ {l:List Nat} {h:Int},(∀ a ∈ l,f (a*2+1)=g (a*2+1))→XjK f N h l→XjK g N h l
 |[],_,_,hl=>hl
 |a::r,_,hfg,hl=>⟨hl.1,by rw [← hfg a (by simp)]; exact XjL (fun b hb=>hfg b (by simp [hb])) hl.2⟩
structure Xa9 (w:World) (P:Pl) (x:PlM):Prop where
 good:x.Good
 at':∃ head f,w.heap[P.pb]? = some (.cells (plL P x.own head).toArray 262 (0,0))∧XaE w P.ab 319 (x.own.length*2) f∧XjK f x.own.length head x.free ∧ ∀ n,n<x.own.length→f (n*2)=x.own.getD n 0
theorem Xa9.chg {S:Nat→Prop} {w w':World} {P:Pl} {x:PlM} (h:Xa9 w P x) (hc:Chg S w w') (h1:¬ S P.pb) (h2:¬ S P.ab):Xa9 w' P x:=by
 obtain ⟨head,f,a,b,c⟩:=h.at';exact ⟨h.good,head,f,hc.heap a h1,hc.heap b h2,c⟩
theorem Xa9.grow {w w':World} {P:Pl} {x:PlM} (h:Xa9 w P x) (hc:Chg XaX w w'):Xa9 w' P x:=h.chg hc id id
theorem Xa9.lt {w:World} {P:Pl} {x:PlM} (h:Xa9 w P x):P.pb<w.heap.size∧P.ab<w.heap.size:=by
 obtain ⟨head,f,a,b,c⟩:=h.at';exact ⟨Xkj a,Xkj b⟩
theorem XnD {x:List Int} {n:Nat} {v:Int} (h:n<x.length):Xnz (x.set n v)+(if x.getD n 0 = -1 then 0 else 1)=Xnz x+(if v = -1 then 0 else 1):=by
 unfold Xnz;rw [Xnc];have:=Xfk (pgB x) n (by rw [Xnb]; exact h) (!(v == -1));have e:(pgB x)[n]'(by rw [Xnb]; exact h) = !(x.getD n 0 == -1):=by
  unfold pgB;rw [List.getElem_map,List.getD_eq_getElem?_getD,List.getElem?_eq_getElem h];rfl
 rw [e] at this;by_cases a:x.getD n 0 = -1 <;> by_cases b:v = -1 <;> simp_all
theorem XnB (x:List Int):Xnz x≤x.length:=by
 unfold Xnz;have:=Xfh (pgB x);rw [Xnb] at this;exact this
theorem Xha (x:List Int) (i j:Nat) (v:Int):(x.set i v).getD j 0=if i=j∧i<x.length then v else x.getD j 0:=by
 rw [List.getD_eq_getElem?_getD,List.getElem?_set,List.getD_eq_getElem?_getD];by_cases h:i=j
 ·subst h;by_cases a:i<x.length
  ·simp [a]
  ·simp [a]
 ·simp [h]
theorem PlM.Good.take {x:PlM} (h:x.Good) {who:Int} (hw:0≤who) {n:Nat} {r:List Nat} (hf:x.free=n::r):(x.take who).Good:=by
 obtain ⟨o,i,g,j,k⟩:=h;rw [hf] at i g j k;obtain ⟨p,q⟩:=List.nodup_cons.1 i;obtain ⟨f,l⟩:=g n (by simp);have e:x.take who=⟨x.own.set n who,r⟩:=by unfold PlM.take; rw [hf]
 rw [e];refine ⟨by simpa using o,q,fun m hm => ?_,fun m hm c => ?_,?_⟩
 ·obtain ⟨a,b⟩:=g m (by simp [hm]);have:n≠m:=fun e=>p (e▸hm);exact ⟨by simpa using a,by show (x.own.set n who).getD m 0 = -1; rw [Xha,if_neg (fun h=>this h.1)]; exact b⟩
 ·replace c:(x.own.set n who).getD m 0 = -1:=c;rw [Xha] at c;by_cases d:n=m
  ·rw [if_pos ⟨d,f⟩] at c; omega
  ·rw [if_neg (fun h=>d h.1)] at c;have:=j m (by simpa using hm) c;rcases List.mem_cons.1 this with h | h
   ·exact absurd h.symm d
   ·exact h
 ·have:=XnD (v:=who) f;rw [if_pos l,if_neg (by omega)] at this;simp only [List.length_set,List.length_cons] at k ⊢;omega
theorem PlM.Good.give {x:PlM} (h:x.Good) {n:Nat} (hn:n<x.own.length) (ho:x.own.getD n 0 ≠ -1):(x.give n).Good:=by
 obtain ⟨f,g,d,i,j⟩:=h;refine ⟨by simpa [PlM.give] using f,?_,fun m hm => ?_,fun m hm c => ?_,?_⟩
 ·exact List.nodup_cons.2 ⟨fun h=>ho (d n h).2,g⟩
 ·rcases List.mem_cons.1 hm with rfl | hm
  ·exact ⟨by simpa [PlM.give] using hn,by show (x.own.set m (-1)).getD m 0 = -1; rw [Xha,if_pos ⟨rfl,hn⟩]⟩
  ·obtain ⟨a,b⟩:=d m hm;refine ⟨by simpa [PlM.give] using a,?_⟩;show (x.own.set n (-1)).getD m 0 = -1
   rw [Xha];split
   ·rfl
   ·exact b
 ·replace c:(x.own.set n (-1)).getD m 0 = -1:=c;replace hm:m<x.own.length:=by simpa [PlM.give] using hm
  show m ∈ n::x.free
  by_cases e:n=m
  ·rw [e]; exact List.mem_cons_self
  ·rw [Xha,if_neg (fun h=>e h.1)] at c;exact List.mem_cons_of_mem _ (i m hm c)
 ·have:=XnD (v := -1) hn;rw [if_neg ho,if_pos rfl] at this;show (n::x.free).length+Xnz (x.own.set n (-1))=(x.own.set n (-1)).length
  simp only [List.length_set,List.length_cons];omega
theorem XnC (n:Nat):Xnz (List.replicate n (-1))=0:=by
 unfold Xnz pgB;rw [List.map_replicate];exact Xfj n
theorem XnV {n:Nat} (h:1≤n∧n≤1024):(XnU n).Good:=by
 refine ⟨by simpa [XnU] using h,List.nodup_range,fun m hm => ?_,fun m hm _ => ?_,?_⟩
 ·have:=List.mem_range.1 hm;refine ⟨by simpa [XnU] using this,?_⟩;show (List.replicate n (-1)).getD m 0 = -1
  rw [List.getD_eq_getElem?_getD,List.getElem?_replicate,if_pos this]; rfl
 ·exact List.mem_range.2 (by simpa [XnU] using hm)
 ·show (List.range n).length+Xnz (List.replicate n (-1))=(List.replicate n (-1)).length
  rw [XnC]; simp
theorem Xom (P:Pl) (x:PlM) (n:Int) (w:World) (h:Xa9 w P x):Xan Tryz.prog 289 #[plV P,.int .i64 n] w (Xbs (.bool (decide (0≤n) && decide (n<x.own.length))) w):=by
 obtain ⟨head,f,b,c,d,e⟩:=h.at';refine ζe Tryz.func289 Tryz.ntmps289 rfl (ζg rfl (fun a => ?_) fun a => ?_)
 ·refine ζl b rfl ?_;rw [a];exact ζr Tryz.func289 rfl ⟨rfl,rfl⟩
 ·rw [a];exact ζr Tryz.func289 rfl ⟨rfl,rfl⟩
theorem Xoh (P:Pl) (x:PlM) (w:World) (h:Xa9 w P x):Xan Tryz.prog 151 #[plV P] w (Xbs (.int .i64 (Xnz x.own:Nat)) w):=by
 obtain ⟨head,f,a,b,c,d⟩:=h.at';exact ζe Tryz.func151 Tryz.ntmps151 rfl (ζl a rfl (ζr Tryz.func151 rfl ⟨rfl,rfl⟩))
theorem Xof (P:Pl) (x:PlM) (w:World) (h:Xa9 w P x):Xan Tryz.prog 155 #[plV P] w (Grow (.int .i64 (x.free.length:Nat)) w):=by
 obtain ⟨head,f,b,d,e,g⟩:=h.at';have hm:=h.good.many;have i:=h.good.len;exact ζe Tryz.func155 Tryz.ntmps155 rfl (ζd 11 XaX (by kernel_rfl) rfl fun a=>δl a b rfl (δl a b rfl (δj a rfl (δn a rfl fun j c=>ζr Tryz.func155 rfl ⟨XiH (by omega),c⟩))))
def XnX (x:PlM) (who:Int):Int:=if who<0 then 1 else if x.free.length=0 then 5 else 0
def XnY (x:PlM) (who:Int):Int:=if XnX x who=0 then (x.free.getD 0 0:Nat) else 0
def XnW (x:PlM) (who:Int):PlM:=if XnX x who=0 then x.take who else x
theorem Xoj (P:Pl) (x:PlM) (who:Int) (w:World) (h:Xa9 w P x):Xan Tryz.prog 221 #[plV P,.int .i64 who] w
 (fun v w'=>v = .tuple #[.int .i64 (XnY x who),.int .i64 (XnX x who)]∧Xa9 w' P (XnW x who)∧Chg (XnN P) w w'):=by
 have d:=h.good;have J:=h.good.len;obtain ⟨own,free⟩:=x;obtain ⟨head,f,c,l,s,F⟩:=h.at';replace c:w.heap[P.pb]? = some (.cells (plL P own head).toArray 262 (0,0)):=c;replace l:XaE w P.ab 319 (own.length*2) f:=l;replace s:XjK f own.length head free:=s;replace F:∀ m,m<own.length→f (m*2)=own.getD m 0:=F;replace J:1≤own.length∧own.length≤1024:=J;have eN:∀ e,XnX ⟨own,free⟩ who=e→e≠0→XnY ⟨own,free⟩ who=0∧XnW ⟨own,free⟩ who=⟨own,free⟩:=fun e c l=>by
  unfold XnY XnW; rw [c,if_neg l,if_neg l]; exact ⟨rfl,rfl⟩
 refine Xan.enter Tryz.func221 rfl Tryz.ntmps221 rfl rfl ?_;refine ζa rfl ?_;refine Xay.fork hTT rfl rfl rfl (fun G => ?_) (fun G => ?_)
 ·have t:who<0:=of_decide_eq_true G;have e1:XnX ⟨own,free⟩ who=1:=by unfold XnX; rw [if_pos t]
  rw [(eN 1 e1 (by decide)).1,(eN 1 e1 (by decide)).2,e1];exact ζr Tryz.func221 rfl ⟨rfl,h,Chg.refl _ _⟩
 have t:¬ who<0:=of_decide_eq_false G;refine Xay.drawn (q:=11) XaX hTT Xk3 (by kernel_rfl) rfl ?_;intro H;refine Xaq.loadb hTT H rfl c (by first | exact fun h=>h | (intro h; omega) | assumption) rfl rfl ?_;refine Xaq.loadb hTT H rfl c (by first | exact fun h=>h | (intro h; omega) | assumption) rfl rfl ?_;refine Xaq.nil H ?_;intro O b;refine ζa rfl ?_;have g:=b.heap' c;have o:XaE O P.ab 319 (own.length*2) f:=b.heap' l;cases free with
 |nil =>
  have e:head=own.length:=s;subst e;have e1:XnX ⟨own,[]⟩ who=5:=by unfold XnX; rw [if_neg t]; rfl
  rw [(eN 5 e1 (by decide)).1,(eN 5 e1 (by decide)).2,e1];refine Xay.yes hTT rfl (beq_self_eq_true _) rfl ?_;exact ζr Tryz.func221 rfl ⟨rfl,h.grow b,b.mono fun _ _ h=>h.elim⟩
 |cons n r =>
  obtain ⟨rfl,Q⟩:=s;obtain ⟨u,I⟩:=d.free n (by simp);replace u:n<own.length:=u;replace I:own.getD n 0 = -1:=I;have e1:XnX ⟨own,n::r⟩ who=0:=by unfold XnX; rw [if_neg t]; rfl
  have e2:XnY ⟨own,n::r⟩ who=n:=by unfold XnY; rw [if_pos e1]; rfl
  have e3:XnW ⟨own,n::r⟩ who=⟨own.set n who,r⟩:=by unfold XnW; rw [if_pos e1]; rfl
  rw [e1,e2,e3];refine Xay.no hTT rfl (by simp; omega) rfl ?_;refine Xay.loadb hTT rfl g rfl rfl ?_;refine Xay.loadb hTT rfl g rfl rfl ?_;refine Xay.index hTT rfl (j:=(n*2)) (by omega) (by omega) (by first | rfl | omega | (simp; done) | (simp; omega)) rfl ?_;refine ζk rfl (XiI o (k:=n*2+1) (by show 0+n*2+1=_; omega) (by omega)) rfl (ζs g rfl fun w2 y A U => ?_);have p:=XdP o g (by decide);have K:=A.heap o p;refine ζl y rfl (ζi (n*2) rfl (ζS rfl K (Xq4 (i:=n*2) (by show 0+n*2+0=_; omega) (by omega)) rfl fun w3 L B V => ?_));have C:=B.heap y p.symm;refine ζl C rfl (ζJ rfl (by have:=XnB own; omega) (ζs C rfl fun R M D W => ?_));have N:=D.heap L p;have S:=XnD (x:=own) (n:=n) (v:=who) u;rw [if_pos I,if_neg (by omega)] at S;have T:Chg (XnN P) w R:=((b.mono fun _ _ h=>h.elim).trans (A.mono fun z _ e => .inl e)).trans ((B.mono fun z _ e => .inr e).trans (D.mono fun z _ e => .inl e));have E:=d.take (who:=who) (by omega) (n:=n) (r:=r) rfl;have e:PlM.take ⟨own,n::r⟩ who=⟨own.set n who,r⟩:=rfl;rw [e] at E;exact Xay.ret2 hTT rfl Tryz.func221 rfl rfl rfl ⟨rfl,⟨E,f (n*2+1),upd f (n*2) who,by
   unfold plL;simp only [List.length_set];rw [show ((Xnz (own.set n who):Nat):Int)=(Xnz own:Nat)+1 by omega];exact M,by
   show XaE _ _ _ ((own.set n who).length*2) _
   rw [List.length_set]; exact N,by
   show XjK _ (own.set n who).length _ r
   rw [List.length_set];exact XjL (fun a _=>(Xvv f who (by omega)).symm) Q,fun m hm=>by
   replace hm:m<own.length:=by simpa using hm
   show upd f (n*2) who (m*2)=(own.set n who).getD m 0
   rw [Xha];by_cases e:n=m
   ·subst e; rw [Xvw,if_pos ⟨rfl,u⟩]
   ·rw [Xvv _ _ (by omega),if_neg (fun h=>e h.1)]; exact F m hm⟩,T⟩
def XnP (x:PlM) (n:Int):Int:=if n<0∨(x.own.length:Int)≤n then 1 else if Xnk x.own n = -1 then 9 else 0
def XnO (x:PlM) (n:Int):PlM:=if XnP x n=0 then x.give n.toNat else x
theorem Xog (P:Pl) (x:PlM) (n:Int) (w:World) (h:Xa9 w P x):Xan Tryz.prog 248 #[plV P,.int .i64 n] w
 (fun v w'=>v = .int .i64 (XnP x n)∧Xa9 w' P (XnO x n)∧Chg (XnN P) w w'):=by
 have d:=h.good;have G:=h.good.len;obtain ⟨own,free⟩:=x;obtain ⟨head,f,b,l,E,r⟩:=h.at';replace b:w.heap[P.pb]? = some (.cells (plL P own head).toArray 262 (0,0)):=b;replace l:XaE w P.ab 319 (own.length*2) f:=l;replace E:XjK f own.length head free:=E;replace r:∀ m,m<own.length→f (m*2)=own.getD m 0:=r;replace G:1≤own.length∧own.length≤1024:=G;have eN:∀ e,XnP ⟨own,free⟩ n=e→e≠0→XnO ⟨own,free⟩ n=⟨own,free⟩:=fun e b l=>by
  unfold XnO; rw [b,if_neg l]
 refine Xan.enter Tryz.func248 rfl Tryz.ntmps248 rfl rfl ?_;refine ζa rfl ?_;refine ζc rfl (Xom P ⟨own,free⟩ n w h) ?_;rintro _ _ ⟨rfl,rfl⟩;refine ζa rfl ?_;by_cases g:0≤n∧n<own.length
 ·obtain ⟨k,rfl⟩:=Int.eq_ofNat_of_zero_le g.1;have o:k<own.length:=by omega
  have t:Xnk own k=own.getD k 0:=by
   unfold Xnk; rw [if_pos g.1]; simp only [Int.toNat_natCast]; rw [List.getD_eq_getElem?_getD,List.getD_eq_getElem?_getD,List.getElem?_eq_getElem o]; rfl
  refine Xay.no hTT rfl (by rw [decide_eq_true g.1,decide_eq_true g.2]; rfl) rfl ?_;refine Xay.loadb hTT rfl b rfl rfl ?_;refine Xay.index hTT rfl (j:=(k*2)) (by omega) (by omega) (by first | rfl | omega | (simp; done) | (simp; omega)) rfl ?_;refine ζk rfl (XiI l (k:=k*2) (by show 0+k*2+0=_; omega) (by omega)) rfl ?_;rw [r k o];by_cases c:own.getD k 0 = -1
  ·have e1:XnP ⟨own,free⟩ k=9:=by unfold XnP; rw [if_neg (by simp only; omega),t,if_pos c]
   rw [eN 9 e1 (by decide),e1];exact ζY rfl (by rw [c]; rfl) (ζr Tryz.func248 rfl ⟨rfl,h,Chg.refl _ _⟩)
  ·have e1:XnP ⟨own,free⟩ k=0:=by unfold XnP; rw [if_neg (by simp only; omega),t,if_neg c]
   have e2:XnO ⟨own,free⟩ k=⟨own.set k (-1),k::free⟩:=by unfold XnO; rw [if_pos e1]; rfl
   rw [e1,e2];refine ζF rfl (by simpa using c) (ζd 10 XaX (by kernel_rfl) rfl fun s=>δl s b rfl (δl s b rfl (Xaq.build hTT s rfl rfl (δn s rfl fun w1 p => ?_))));have u:=p.heap' b;have y:=p.heap' l;have q:=XdP y u (by decide);refine ζi (k*2) rfl (ζS rfl y (Xq5 (i:=k*2) (by show 0+k*2=_; omega) (by omega)) rfl fun w2 H A T => ?_);have I:=A.heap u q.symm;refine ζs I rfl fun w3 B C U => ?_;have J:=C.heap H q;refine ζl B rfl (ζJ rfl (by have:=XnB own; omega) (ζs B rfl fun O K D V => ?_));have L:=D.heap J q;have Q:=XnD (x:=own) (n:=k) (v := -1) o;rw [if_neg c,if_pos rfl] at Q;have R:Chg (XnN P) w O:=((p.mono fun _ _ h=>h.elim).trans (A.mono fun z _ e => .inr e)).trans ((C.mono fun z _ e => .inl e).trans (D.mono fun z _ e => .inl e));have M:=d.give (n:=k) o c;have N:k ∉ free:=fun h=>c (d.free k h).2;exact Xay.ret1 hTT rfl Tryz.func248 rfl rfl ⟨rfl,⟨M,k,upd (upd f (k*2) (-1)) (k*2+1) head,by
    unfold plL;simp only [List.length_set];rw [show ((Xnz (own.set k (-1)):Nat):Int)=(Xnz own:Nat) - 1 by omega];exact K,by
    show XaE _ _ _ ((own.set k (-1)).length*2) _
    rw [List.length_set]; exact L,by
    show XjK _ (own.set k (-1)).length _ (k::free)
    rw [List.length_set];refine ⟨rfl,?_⟩;rw [Xvw];exact XjL (fun a S=>by rw [Xvv _ _ (by intro e; exact N ((by omega:a=k)▸S)),Xvv _ _ (by omega)]) E,fun m hm=>by
    replace hm:m<own.length:=by simpa using hm
    show upd (upd f (k*2) (-1)) (k*2+1) head (m*2)=(own.set k (-1)).getD m 0
    rw [Xha,Xvv _ _ (by omega)];by_cases e:k=m
    ·subst e; rw [Xvw,if_pos ⟨rfl,o⟩]
    ·rw [Xvv _ _ (by omega),if_neg (fun h=>e h.1)]; exact r m hm⟩,R⟩
 ·have W:(!(decide (0≤n) && decide (n<own.length)))=true:=by
   by_cases F:0≤n
   ·rw [decide_eq_true F,decide_eq_false (fun h=>g ⟨F,h⟩)]; rfl
   ·rw [decide_eq_false F]; rfl
  have e1:XnP ⟨own,free⟩ n=1:=by unfold XnP; rw [if_pos (by simp only; omega)]
  rw [eN 1 e1 (by decide),e1];exact ζy rfl (ζr Tryz.func248 rfl ⟨rfl,h,Chg.refl _ _⟩)
theorem Xol (n:Int) (w:World) (h : -9223372036854775808≤n+1∧n+1≤9223372036854775807):Xan Tryz.prog 213 #[.int .i64 n] w (Xbs (.int .i64 (n+1)) w):=by
 exact ζe Tryz.func213 Tryz.ntmps213 rfl (ζj rfl (ζr Tryz.func213 rfl ⟨rfl,rfl⟩))
def XoO (P:Pl) (N:Nat):List Value := [.slice (some ⟨P.ab,0,none⟩) N N,.int .i64 0,.int .i64 0,.func (.func 213) #[] #[]]
theorem Xon (P:Pl) (N k:Nat) (f:Nat→Int) (w:World) (h1:w.heap[P.pb]? = some (.cells (XoO P N).toArray 262 (0,0))) (h2:XaE w P.ab 319 (N*2) f) (hk:k<N) (hN:N≤1024) :
 Xan Tryz.prog 215 #[plV P,.int .i64 k] w (fun _ w'=>XaE w' P.ab 319 (N*2) (upd (upd f (k*2) (-1)) (k*2+1) (k+1))∧Chg (fun z=>z=P.ab) w w'):=by
 exact ζe Tryz.func215 Tryz.ntmps215 rfl (ζd 12 XaX (by kernel_rfl) rfl fun a=>δl a h1 rfl (δl a h1 rfl (δw a (fun w' g=>Xol k w' (by omega)) rfl (Xaq.build hTT a rfl rfl (δn a rfl fun e b=>ζi (k*2) rfl (ζS rfl (show e.heap[P.ab]? = some (.cells (Xuk (N*2) f).toArray 319 (0,0)) from b.heap' h2) (Xq5 (i:=k*2) (by show 0+k*2=_; omega) (by omega)) rfl fun l c d j=>ζr Tryz.func215 rfl ⟨c,(b.mono fun _ _ h=>h.elim).trans d⟩))))))
def XuZ:Nat→Nat→Int
 |0=>fun _=>0
 |k+1=>upd (upd (XuZ k) (k*2) (-1)) (k*2+1) (k+1)
theorem Xu1:∀ (k n:Nat),n<k→XuZ k (n*2) = -1
 |k+1,n,h=>by
  show upd (upd (XuZ k) (k*2) (-1)) (k*2+1) (k+1) (n*2) = -1
  rw [Xvv _ _ (by omega)];by_cases e:n=k
  ·subst e; exact Xvw ..
  ·rw [Xvv _ _ (by omega)]; exact Xu1 k n (by omega)
theorem Xu0:∀ (k n:Nat),n<k→XuZ k (n*2+1)=n+1
 |k+1,n,h=>by
  show upd (upd (XuZ k) (k*2) (-1)) (k*2+1) (k+1) (n*2+1)=n+1
  by_cases e:n=k
  ·subst e; exact Xvw ..
  ·rw [Xvv _ _ (by omega),Xvv _ _ (by omega)]; exact Xu0 k n (by omega)
theorem XjM {f:Nat→Int} {N:Nat} (h:∀ n,n<N→f (n*2+1)=n+1):∀ (m k:Nat),k+m=N→XjK f N k (List.range' k m)
 |0,k,e=>by show (k:Int)=N; omega
 |m+1,k,e=>by
  rw [List.range'_succ];refine ⟨rfl,?_⟩;rw [h k (by omega)];exact XjM h m (k+1) (by omega)
theorem Xok (P:Pl) (N:Nat) (w:World) (h1:w.heap[P.pb]? = some (.cells (XoO P N).toArray 262 (0,0))) (h2:XaE w P.ab 319 (N*2) (XuZ 0)) (hN:N≤1024) :
 Xan Tryz.prog 214 #[plV P,.func (.func 215) #[plV P] #[]] w (fun _ w'=>XaE w' P.ab 319 (N*2) (XuZ N)∧Chg (fun z=>z=P.ab) w w'):=by
 have e:=XdP h1 h2 (by decide);refine ζe Tryz.func214 Tryz.ntmps214 rfl (ζl h1 rfl ?_);refine Xay.loop (α:=Nat) (fun k => [(1,false,.func (.func 215) #[plV P] #[]),(9,false,.int .i64 N),(10,false,.int .i64 k)])
  (fun k w'=>k≤N∧XaE w' P.ab 319 (N*2) (XuZ k)∧Chg (fun z=>z=P.ab) w w') (fun k=>N - k) 0 ⟨rfl,rfl,rfl,trivial⟩ ⟨Nat.zero_le _,h2,Chg.refl _ _⟩ ?_
 rintro k i ⟨j,b,a⟩ ih;refine ζa rfl (ζg rfl (fun d => ?_) fun d => ?_)
 ·have c:k<N:=by have:=of_decide_eq_true d; omega
  refine ζc rfl (Xon P N k (XuZ k) i (a.heap h1 e) b c hN) ?_;rintro _ l ⟨f,g⟩;exact ζa rfl (ζj rfl (ih (k+1) _ _ ⟨c,f,a.trans g⟩ (by omega) ⟨rfl,rfl,rfl,trivial⟩))
 ·have h:k=N:=by have:=of_decide_eq_false d; omega
  subst h;exact ζr Tryz.func214 rfl ⟨b,a⟩
theorem XwM (t:Nat→Int) (ht:∀ i,t i=0):∀ n,XwJ [Value.int .i64 0,Value.int .i64 0] n=Xuk (n*2) t
 |0=>rfl
 |n+1=>by
  have e:Xuk ((n+1)*2) t=Xuk (n*2) t ++ [.int .i64 0,.int .i64 0]:=by
   unfold Xuk;rw [show (n+1)*2=n*2+1+1 by omega,List.range_succ,List.range_succ,List.map_append,List.map_append];simp [ht]
  have e2:∀ m,Xuk (m*2) t ++ [.int .i64 0,.int .i64 0] = [Value.int .i64 0,.int .i64 0]++Xuk (m*2) t:=by
   intro m;have:Xuk (m*2) t=List.replicate (m*2) (.int .i64 0):=by
    unfold Xuk;rw [List.map_congr_left (g:=fun _=>Value.int .i64 0) (fun i _=>by rw [ht]),List.map_const',List.length_range]
   rw [this];show _++List.replicate 2 _=List.replicate 2 _++_
   rw [List.replicate_append_replicate,List.replicate_append_replicate,Nat.add_comm]
  rw [e,e2,XwJ,XwM t ht n]
theorem Xoi (N:Nat) (w:World) (h:1≤N∧N≤1024):Xan Tryz.prog 147 #[.int .i64 N] w
 (fun v w' => ∃ P,v = .tuple #[plV P,.int .i64 0]∧(w.heap.size≤P.pb∧w.heap.size≤P.ab)∧Xa9 w' P (XnU N)∧Chg XaX w w'):=by
 refine Xan.enter Tryz.func147 rfl Tryz.ntmps147 rfl rfl ?_;refine ζa rfl ?_;refine Xay.no hTT rfl (decide_eq_false (by omega)) rfl ?_;refine Xay.no hTT rfl (decide_eq_false (by omega)) rfl ?_;refine Xay.make hTT (m:=N) (k:=N) rfl rfl rfl (Nat.le_refl _) (by first | omega | (show 16*N≤_; omega)) (by omega) ?_;intro ab p e1 c d s;refine ζa rfl ?_;refine Xay.build hTT rfl rfl ?_;refine Xay.alloc hTT rfl ?_;intro pb j e2 b f t;refine ζa rfl ?_;replace c:XaE p ab 319 (N*2) (XuZ 0):=by
  unfold XaE;rw [c];exact congrArg (fun x:List Value=>some (Obj.cells x.toArray 319 (0,0))) (XwM (XuZ 0) (fun _=>rfl) N)
 replace b:j.heap[pb]? = some (.cells (XoO ⟨pb,ab⟩ N).toArray 262 (0,0)):=b;refine ζc rfl (Xok ⟨pb,ab⟩ N j b (show XaE _ _ _ _ _ from f.heap' c) h.2) ?_;rintro _ q ⟨l,g⟩;refine ζa rfl ?_;have r:Chg XaX w q:=(d.trans f).since g (fun z u e=>by have:z=ab:=e; omega);have o:=g.heap b (show ¬ pb=ab by have:=d.size; omega);have a:(XnU N).own.length=N:=List.length_replicate;exact Xay.ret2 hTT rfl Tryz.func147 rfl rfl rfl ⟨⟨pb,ab⟩,rfl,⟨by show _≤pb; omega,by show _≤ab; omega⟩,⟨XnV h,0,XuZ N,by
  have e:plL ⟨pb,ab⟩ (XnU N).own 0=XoO ⟨pb,ab⟩ N:=by
   unfold plL XoO;rw [a,show Xnz (XnU N).own=0 from XnC N];rfl
  rw [e]; exact o,by rw [a]; exact l,by
  rw [a];show XjK _ _ _ (List.range N)
  rw [List.range_eq_range'];exact XjM (Xu0 N) N 0 (by omega),fun n i=>by
  rw [a] at i;rw [Xu1 N n i];show -1=(List.replicate N (-1)).getD n 0
  rw [List.getD_eq_getElem?_getD,List.getElem?_replicate,if_pos i]; rfl⟩,r⟩
def Xhx:List Nat→Int
 |[] => -1
 |a::_=>a
def Xi3:Int→List Nat→Int
 |p,[]=>p
 |_,a::r=>Xi3 a r
def XjN (f:Nat→Int):Int→List Nat→Prop
 |_,[]=>True
 |p,a::r=>f (a*3)=p∧f (a*3+1)=Xhx r∧XjN f a r
theorem XjP {f g:Nat→Int}:∀ {l:List Nat} {p:Int},(∀ a ∈ l,f (a*3)=g (a*3)∧f (a*3+1)=g (a*3+1))→XjN f p l→XjN g p l
 |[],_,_,h=>h
 |a::r,p,c,h=>by
  obtain ⟨e1,e2⟩:=c a (by simp);exact ⟨e1▸h.1,e2▸h.2.1,XjP (fun b d=>c b (by simp [d])) h.2.2⟩
theorem Xi4:∀ (p:Int) (l:List Nat) (n:Nat) (r:List Nat),Xi3 p (l++n::r)=Xi3 n r
 |p,[],n,r=>rfl
 |p,a::l,n,r=>Xi4 a l n r
theorem Xi6:∀ (p:Int) (l:List Nat),(l = []∧Xi3 p l=p) ∨ ∃ a ∈ l,Xi3 p l=(a:Int) ∧ ∃ l',l=l' ++ [a]
 |p,[] => .inl ⟨rfl,rfl⟩
 |p,a::r=>by
  rcases Xi6 a r with ⟨rfl,h⟩ | ⟨b,hb,h,l',e⟩
  ·exact .inr ⟨a,by simp,rfl,[],rfl⟩
  ·exact .inr ⟨b,by simp [hb],h,a::l',by rw [e]; rfl⟩
def XfL (f:Nat→Int) (pr nx:Int):Nat→Int :=
 let f1:=if pr = -1 then f else upd f (pr.toNat*3+1) nx
 if nx = -1 then f1 else upd f1 (nx.toNat*3) pr
theorem XfO {f:Nat→Int} {pr nx:Int} {j:Nat} (h1:pr = -1∨j≠pr.toNat*3+1) (h2:nx = -1∨j≠nx.toNat*3):XfL f pr nx j=f j:=by
 unfold XfL;by_cases b:pr = -1
 ·rw [if_pos b];by_cases a:nx = -1
  ·rw [if_pos a]
  ·rw [if_neg a,Xvv _ _ (by omega)]
 ·rw [if_neg b];by_cases a:nx = -1
  ·rw [if_pos a,Xvv _ _ (by omega)]
  ·rw [if_neg a,Xvv _ _ (by omega),Xvv _ _ (by omega)]
theorem XfN {f:Nat→Int} {a:Nat} {nx:Int}:XfL f a nx (a*3+1)=nx:=by
 unfold XfL;rw [if_neg (show ¬ (a:Int) = -1 by omega)];by_cases b:nx = -1
 ·rw [if_pos b]; exact Xvw f (a*3+1) nx
 ·rw [if_neg b,Xvv _ _ (by omega)]; exact Xvw f (a*3+1) nx
theorem XfM {f:Nat→Int} {b:Nat} {pr:Int}:XfL f pr b (b*3)=pr:=by
 unfold XfL;rw [if_neg (show ¬ (b:Int) = -1 by omega)];exact Xvw _ (b*3) pr
theorem XjQ {f:Nat→Int} {n:Nat} {l2:List Nat}:∀ (l1:List Nat) (p:Int),(l1++n::l2).Nodup→XjN f p (l1++n::l2)→(p = -1 ∨ ∃ q:Nat,p=q∧q ∉ l1++n::l2)→XjN (XfL f (Xi3 p l1) (Xhx l2)) p (l1++l2)
 |[],p,d,h,w=>by
  obtain ⟨_,_,y⟩:=h;cases l2 with
  |nil=>trivial
  |cons b r =>
   obtain ⟨x,l,m⟩:=y;have o:=(List.nodup_cons.1 (List.nodup_cons.1 d).2);show XjN (XfL f p b) p (b::r)
   have g:∀ a ∈ b::r,p = -1∨a*3+1≠p.toNat*3+1:=fun a k=>by
    rcases w with h | ⟨q,rfl,A⟩
    ·exact .inl h
    ·refine .inr fun e=>A ?_;have:a=q:=by omega
     exact this▸List.mem_cons_of_mem _ k
   refine ⟨XfM,?_,?_⟩
   ·rw [XfO (j:=b*3+1) (nx:=(b:Int)) (g b (by simp)) (.inr (by omega))]; exact l
   ·refine XjP (fun a k=>⟨?_,?_⟩) m
    ·rw [XfO (j:=a*3) (nx:=(b:Int)) (.inr (by omega)) (.inr (fun e=>o.1 ((by omega:a=b)▸k)))]
    ·rw [XfO (j:=a*3+1) (nx:=(b:Int)) (g a (by simp [k])) (.inr (by omega))]
 |a::t,p,d,h,w=>by
  obtain ⟨x,l,m⟩:=h;obtain ⟨i,u⟩:=List.nodup_cons.1 d;have ih:=XjQ t a u m (.inr ⟨a,rfl,i⟩);show XjN (XfL f (Xi3 a t) (Xhx l2)) p (a::(t++l2))
  refine ⟨?_,?_,ih⟩
  ·rw [XfO (j:=a*3) ?_ ?_]
   ·exact x
   ·rcases Xi6 a t with ⟨_,h⟩ | ⟨z,_,h,_⟩ <;> rw [h] <;> exact .inr (by omega)
   ·cases l2 with
    |nil=>exact .inl rfl
    |cons b r =>
     refine .inr fun e=>i ?_;have:a=b:=by simp only [Xhx] at e; omega
     rw [this]; simp
  ·cases t with
   |nil=>exact XfN
   |cons c s =>
    have B:∃ z ∈ c::s,Xi3 a (c::s)=(z:Int):=by
     rcases Xi6 a (c::s) with ⟨h,_⟩ | ⟨z,v,e,_⟩
     ·cases h
     ·exact ⟨z,v,e⟩
    obtain ⟨z,v,ez⟩:=B;rw [ez,XfO (j:=a*3+1) (pr:=(z:Int)) (.inr (fun e=>i ((by omega:a=z)▸List.mem_append_left _ v))) ?_]
    ·exact l
    ·cases l2 with
     |nil=>exact .inl rfl
     |cons b r=>exact .inr (by omega)
structure Rg where
 lb:Nat
 ab:Nat
 nb:Nat
def rgL (R:Rg):List Value := [.slice (some ⟨R.ab,0,none⟩) 1 1,.slice (some ⟨R.nb,0,none⟩) 1024 1024]
abbrev rgV (R:Rg):Value := .pointer (some ⟨R.lb,0,none⟩)
def Xpf (R:Rg):Nat→Prop:=fun z=>z=R.ab∨z=R.nb
structure Xbf (w:World) (R:Rg) (o:List Nat):Prop where
 obj:w.heap[R.lb]? = some (.cells (rgL R).toArray 329 (0,0))
 nodup:o.Nodup
 lt:∀ n ∈ o,n<1024
 at':∃ g f,XaE w R.ab 334 3 g∧XaE w R.nb 336 3072 f∧g 0=Xhx o∧g 1=Xi3 (-1) o∧g 2=o.length∧XjN f (-1) o ∧ ∀ n,n<1024→f (n*3+2)=if n ∈ o then 0 else -1
theorem Xbf.chg {S:Nat→Prop} {w w':World} {R:Rg} {o:List Nat} (h:Xbf w R o) (hc:Chg S w w') (h1:¬ S R.lb) (h2:¬ S R.ab) (h3:¬ S R.nb):Xbf w' R o:=by
 obtain ⟨g,f,a,b,c⟩:=h.at';exact ⟨hc.heap h.obj h1,h.nodup,h.lt,g,f,hc.heap a h2,hc.heap b h3,c⟩
theorem Xbf.grow {w w':World} {R:Rg} {o:List Nat} (h:Xbf w R o) (hc:Chg XaX w w'):Xbf w' R o:=h.chg hc id id id
theorem Xbf.blt {w:World} {R:Rg} {o:List Nat} (h:Xbf w R o):R.lb<w.heap.size∧R.ab<w.heap.size∧R.nb<w.heap.size:=by
 obtain ⟨g,f,a,b,c⟩:=h.at';exact ⟨Xkj h.obj,Xkj a,Xkj b⟩
theorem Xpq (R:Rg) (w:World) (h:w.heap[R.lb]? = some (.cells (rgL R).toArray 329 (0,0))):Xan Tryz.prog 304 #[rgV R,.int .i64 0] w (Xbs (.pointer (some ⟨R.ab,0,none⟩)) w):=by
 exact ζe Tryz.func304 Tryz.ntmps304 rfl (ζf rfl (ζl h rfl (ζf rfl (ζl h rfl (ζi 0 rfl (ζr Tryz.func304 rfl ⟨rfl,rfl⟩))))))
theorem Xpr (R:Rg) (n:Nat) (w:World) (h:w.heap[R.lb]? = some (.cells (rgL R).toArray 329 (0,0))) (hn:n<1024):Xan Tryz.prog 322 #[rgV R,.int .i64 n] w (Xbs (.pointer (some ⟨R.nb,0+n*3,none⟩)) w):=by
 exact ζe Tryz.func322 Tryz.ntmps322 rfl (ζf rfl (ζl h rfl (ζf rfl (ζl h rfl (ζi (n*3) rfl (ζr Tryz.func322 rfl ⟨rfl,rfl⟩))))))
theorem Xpp (b:Nat) (t:TypeId) (len:Nat) (f:Nat→Int) (way:Nat) (w:World) (h:XaE w b t len f) (hw:way≤1) (hl:way<len):Xan Tryz.prog 316 #[.pointer (some ⟨b,0,none⟩),.int .i64 way] w (Xbs (.int .i64 (f way)) w):=by
 exact ζe Tryz.func316 Tryz.ntmps316 rfl (ζi way rfl (ζk rfl (XiI h (k:=way) (by show 0+0+way=_; omega) hl) rfl (ζr Tryz.func316 rfl ⟨rfl,rfl⟩)))
theorem Xpu (R:Rg) (g:Nat→Int) (way:Nat) (to:Int) (w:World) (h:XaE w R.ab 334 3 g) (hw:way≤1) :
 Xan Tryz.prog 323 #[rgV R,.pointer (some ⟨R.ab,0,none⟩),.int .i64 (-1),.int .i64 way,.int .i64 to] w (fun _ w'=>XaE w' R.ab 334 3 (upd g (1 - way) to)∧Chg (fun z=>z=R.ab) w w'):=by
 exact ζe Tryz.func323 Tryz.ntmps323 rfl (ζy rfl (ζj rfl (ζi (1 - way) rfl (ζS rfl h (Xq4 (i:=1 - way) (by show 0+0+(1 - way)=_; omega) (by omega)) rfl fun d b a c=>ζr Tryz.func323 rfl ⟨b,a⟩))))
theorem Xpt (R:Rg) (f:Nat→Int) (a way:Nat) (to:Int) (w:World) (h0:w.heap[R.lb]? = some (.cells (rgL R).toArray 329 (0,0))) (h:XaE w R.nb 336 3072 f) (hw:way≤1) (ha:a<1024) :
 Xan Tryz.prog 323 #[rgV R,.pointer (some ⟨R.ab,0,none⟩),.int .i64 a,.int .i64 way,.int .i64 to] w (fun _ w'=>XaE w' R.nb 336 3072 (upd f (a*3+way) to)∧Chg (fun z=>z=R.nb) w w'):=by
 exact ζe Tryz.func323 Tryz.ntmps323 rfl (ζF rfl (by simp) (ζl h0 rfl (ζi (a*3) rfl (ζi way rfl (ζS rfl h (Xq4 (i:=a*3+way) (by show 0+a*3+0+way=_; omega) (by omega)) rfl fun e c b d=>ζr Tryz.func323 rfl ⟨c,b⟩)))))
theorem Xpk (R:Rg) (o:List Nat) (w:World) (h:Xbf w R o):Xan Tryz.prog 294 #[rgV R,.int .i64 0] w (Xbs (.int .i64 (Xhx o)) w):=by
 obtain ⟨g,f,a,c,b,e1,e2,d,e⟩:=h.at';exact ζe Tryz.func294 Tryz.ntmps294 rfl (ζw (Xpq R w h.obj) rfl (ζw (Xpp R.ab _ 3 g 0 w a (by omega) (by omega)) rfl (ζr Tryz.func294 rfl ⟨XiH b,rfl⟩)))
theorem Xpl (R:Rg) (o:List Nat) (w:World) (h:Xbf w R o):Xan Tryz.prog 293 #[rgV R,.int .i64 0] w (Xbs (.int .i64 (Xi3 (-1) o)) w):=by
 obtain ⟨g,f,a,b,c,e1,e2,d,e⟩:=h.at';exact ζe Tryz.func293 Tryz.ntmps293 rfl (ζw (Xpq R w h.obj) rfl (ζw (Xpp R.ab _ 3 g 1 w a (by omega) (by omega)) rfl (ζr Tryz.func293 rfl ⟨XiH e1,rfl⟩)))
theorem Xpm (R:Rg) (o:List Nat) (w:World) (h:Xbf w R o):Xan Tryz.prog 261 #[rgV R,.int .i64 0] w (Xbs (.int .i64 (o.length:Nat)) w):=by
 obtain ⟨g,f,a,b,c,e1,e2,d,e⟩:=h.at';exact ζe Tryz.func261 Tryz.ntmps261 rfl (ζw (Xpq R w h.obj) rfl (ζk rfl (XiI a (k:=2) rfl (by omega)) rfl (ζr Tryz.func261 rfl ⟨XiH e2,rfl⟩)))
theorem Xpo (R:Rg) (o:List Nat) (n:Nat) (w:World) (h:Xbf w R o) (hn:n<1024) (hno:n ∉ o) (hlo:o.length≤4096) :
 Xan Tryz.prog 319 #[rgV R,.int .i64 0,.int .i64 n] w (fun v w'=>v = .int .i64 0∧Xbf w' R (n::o)∧Chg (Xpf R) w w'):=by
 obtain ⟨g,f,L,M,e0,e1,e2,hl,T⟩:=h.at';have C:=h.obj;have y:R.nb≠R.ab:=XdP M L (by decide);have N:R.lb≠R.ab:=XdP C L (by decide);have O:R.lb≠R.nb:=XdP C M (by decide);have U:f (n*3+2) = -1:=by rw [T n hn,if_neg hno]
 refine Xan.enter Tryz.func319 rfl Tryz.ntmps319 rfl rfl ?_;refine ζa rfl ?_;refine ζc rfl (Xpq R w C) ?_;rintro _ _ ⟨rfl,rfl⟩;refine ζa rfl ?_;refine ζc rfl (Xpr R n w C hn) ?_;rintro _ _ ⟨rfl,rfl⟩;refine ζa rfl ?_;refine ζk rfl (XiI M (k:=n*3+2) (by show 0+n*3+2=_; omega) (by omega)) rfl ?_;rw [U];refine Xay.no hTT rfl rfl rfl ?_;refine ζc rfl (Xpp R.ab _ 3 g 0 w L (by omega) (by omega)) ?_;rintro _ _ ⟨rfl,rfl⟩;refine ζa rfl ?_;rw [e0];refine Xay.build hTT rfl rfl ?_;refine Xay.store hTT rfl M (Xq4 (i:=n*3+2) (by show 0+n*3+2=_; omega) (by omega)) rfl ?_;intro w1 V W al;refine ζa rfl ?_;refine Xay.store hTT rfl V (Xq5 (i:=n*3) (by show 0+n*3+0=_; omega) (by omega)) rfl ?_;intro D A a0 am;refine ζa rfl ?_;have q:=W.trans a0;have P:XaE D R.ab 334 3 g:=q.heap L y.symm;have E:=q.heap C O;have key:∀ (g' f':Nat→Int) (d:World),XaE d R.ab 334 3 g'→XaE d R.nb 336 3072 f'→d.heap[R.lb]? = some (.cells (rgL R).toArray 329 (0,0))→Chg (Xpf R) w d →
  g' 0=n→g' 1=Xi3 (-1) (n::o)→g' 2=o.length+1→XjN f' (-1) (n::o)→(∀ m,m<1024→f' (m*3+2)=if m ∈ n::o then 0 else -1)→Xbf d R (n::o)∧Chg (Xpf R) w d:=fun g' f' d k1 k2 k3 k4 k5 k6 k7 k8 k9 =>
  ⟨⟨k3,List.nodup_cons.2 ⟨hno,h.nodup⟩,fun m hm=>by rcases List.mem_cons.1 hm with rfl | hm; exact hn; exact h.lt m hm,g',f',k1,k2,k5,k6,by rw [k7]; simp,k8,k9⟩,k4⟩
 have F:∀ m,m<1024→(upd (upd (upd f (n*3+2) 0) (n*3) (-1)) (n*3+1) (Xhx o)) (m*3+2)=if m ∈ n::o then 0 else -1:=fun m hm=>by
  rw [Xvv _ _ (by omega),Xvv _ _ (by omega)];by_cases e:m=n
  ·subst e; rw [Xvw,if_pos (by simp)]
  ·rw [Xvv _ _ (by omega),T m hm];simp [e]
 have B:∀ j,j≠n*3+2→j≠n*3→j≠n*3+1→(upd (upd (upd f (n*3+2) 0) (n*3) (-1)) (n*3+1) (Xhx o)) j=f j:=fun j a b c=>by rw [Xvv _ _ c,Xvv _ _ b,Xvv _ _ a]
 have s:(upd (upd (upd f (n*3+2) 0) (n*3) (-1)) (n*3+1) (Xhx o)) (n*3) = -1:=by rw [Xvv _ _ (by omega),Xvw]
 have t:(upd (upd (upd f (n*3+2) 0) (n*3) (-1)) (n*3+1) (Xhx o)) (n*3+1)=Xhx o:=Xvw ..;have Q:Chg (Xpf R) w D:=q.mono fun z _ e => .inr e;obtain ⟨f2,G⟩:∃ f2,f2=upd (upd (upd f (n*3+2) 0) (n*3) (-1)) (n*3+1) (Xhx o):=⟨_,rfl⟩;rw [← G] at F B s t;replace A:XaE D R.nb 336 3072 f2:=by rw [G]; exact A
 cases o with
 |nil =>
  refine ζc rfl (Xpu R g 0 n D P (by omega)) ?_;rintro _ d ⟨H,l⟩;refine ζa rfl ?_;refine Xay.index hTT rfl (j:=0) (by omega) (by omega) (by first | rfl | omega | (simp; done) | (simp; omega)) rfl ?_;refine Xay.store hTT rfl H (Xq4 (i:=0) rfl (by omega)) rfl ?_;intro w4 p I a1;refine ζa rfl ?_;refine ζk rfl (XiI p (k:=2) rfl (by omega)) rfl ?_;have eg:upd (upd g (1 - 0) n) 0 n 2=0:=by rw [Xvv _ _ (by decide),Xvv _ _ (by decide),e2]; rfl
  rw [eg];refine Xay.arith hTT rfl (w64 (by omega)) rfl ?_;refine Xay.store hTT rfl p (Xq4 (i:=2) rfl (by omega)) rfl ?_;intro S J K a2;refine ζa rfl ?_;have u:=(l.trans I).trans K;exact Xay.ret1 hTT rfl Tryz.func319 rfl rfl ⟨rfl,key _ f2 S J (u.heap A y) (u.heap E N) (Q.trans (u.mono fun z _ e => .inl e)) (by rw [Xvv _ _ (by decide),Xvw]) (by rw [Xvv _ _ (by decide),Xvv _ _ (by decide)]; exact Xvw g 1 n) (by rw [Xvw]; rfl) ⟨s,t,trivial⟩ F⟩
 |cons a r =>
  have an:a≠n:=fun e=>hno (e▸List.mem_cons_self);have a3:=h.lt a (by simp);refine ζc rfl (Xpt R f2 a 0 n D E A (by omega) a3) ?_;rintro _ d ⟨a4,l⟩;refine ζa rfl ?_;have H:XaE d R.ab 334 3 g:=l.heap P y.symm;refine Xay.index hTT rfl (j:=0) (by omega) (by omega) (by first | rfl | omega | (simp; done) | (simp; omega)) rfl ?_;refine Xay.store hTT rfl H (Xq4 (i:=0) rfl (by omega)) rfl ?_;intro w4 p I a1;refine ζa rfl ?_;refine ζk rfl (XiI p (k:=2) rfl (by omega)) rfl ?_;have eg:upd g 0 n 2=(a::r).length:=by rw [Xvv _ _ (by decide),e2]
  rw [eg];refine Xay.arith hTT rfl (w64 (by simp only [List.length_cons] at hlo ⊢; omega)) rfl ?_;refine Xay.store hTT rfl p (Xq4 (i:=2) rfl (by omega)) rfl ?_;intro S J K a2;refine ζa rfl ?_;have x:=I.trans K;have a5:XjN (upd f2 (a*3+0) n) (-1) (n::a::r):=by
   refine ⟨by rw [Xvv _ _ (by omega)]; exact s,by rw [Xvv _ _ (by omega)]; exact t,?_⟩;obtain ⟨l1,l2,l3⟩:=hl;refine ⟨Xvw ..,?_,?_⟩
   ·rw [Xvv _ _ (by omega),B _ (by omega) (by omega) (by omega)]; exact l2
   ·refine XjP (fun b hb => ?_) l3;have ao:b≠n:=fun e=>hno (e▸List.mem_cons_of_mem _ hb);have ap:b≠a:=fun e=>(List.nodup_cons.1 h.nodup).1 (e▸hb);exact ⟨by rw [Xvv _ _ (by omega),B _ (by omega) (by omega) (by omega)],by rw [Xvv _ _ (by omega),B _ (by omega) (by omega) (by omega)]⟩
  exact Xay.ret1 hTT rfl Tryz.func319 rfl rfl ⟨rfl,key _ _ S J (x.heap a4 y) (x.heap (l.heap E O) N) ((Q.trans (l.mono fun z _ e => .inr e)).trans (x.mono fun z _ e => .inl e)) (by rw [Xvv _ _ (by decide),Xvw]) (by rw [Xvv _ _ (by decide),Xvv _ _ (by decide),e1]; try rfl) (by rw [Xvw]) a5 (fun m hm=>by rw [Xvv _ _ (by omega)]; exact F m hm)⟩
theorem XjO {f:Nat→Int} {n:Nat} {l2:List Nat}:∀ (l1:List Nat) (p:Int),XjN f p (l1++n::l2)→f (n*3)=Xi3 p l1∧f (n*3+1)=Xhx l2
 |[],_,h=>⟨h.1,h.2.1⟩
 |a::t,_,h=>XjO t a h.2.2
def Xu6 (g:Nat→Int) (a:Int) (way:Nat) (to:Int):Nat→Int:=if a = -1 then upd g (1 - way) to else g
def Xu5 (f:Nat→Int) (a:Int) (way:Nat) (to:Int):Nat→Int:=if a = -1 then f else upd f (a.toNat*3+way) to
theorem Xps (R:Rg) (g f:Nat→Int) (a:Int) (way:Nat) (to:Int) (w:World) (h0:w.heap[R.lb]? = some (.cells (rgL R).toArray 329 (0,0))) (h1:XaE w R.ab 334 3 g) (h2:XaE w R.nb 336 3072 f) (hw:way≤1) (ha:a = -1 ∨ ∃ k:Nat,a=k∧k<1024) :
 Xan Tryz.prog 323 #[rgV R,.pointer (some ⟨R.ab,0,none⟩),.int .i64 a,.int .i64 way,.int .i64 to] w (fun _ w'=>XaE w' R.ab 334 3 (Xu6 g a way to)∧XaE w' R.nb 336 3072 (Xu5 f a way to)∧w'.heap[R.lb]? = some (.cells (rgL R).toArray 329 (0,0))∧Chg (Xpf R) w w'):=by
 have c:=XdP h2 h1 (by decide);have h:=XdP h0 h1 (by decide);have i:=XdP h0 h2 (by decide);rcases ha with rfl | ⟨k,rfl,j⟩
 ·exact (Xpu R g way to w h1 hw).mono fun _ w' ⟨d,b⟩=>⟨d,b.heap h2 c,b.heap h0 h,b.mono fun z _ e => .inl e⟩
 ·refine (Xpt R f k way to w h0 h2 hw j).mono fun _ w' ⟨d,b⟩=>⟨?_,?_,b.heap h0 i,b.mono fun z _ e => .inr e⟩
  ·unfold Xu6; rw [if_neg (by omega)]; exact b.heap h1 c.symm
  ·unfold Xu5; rw [if_neg (by omega)]; exact d
theorem Xi5 (l:List Nat) (hl:∀ n ∈ l,n<1024):Xi3 (-1) l = -1 ∨ ∃ k:Nat,Xi3 (-1) l=k∧k<1024:=by
 rcases Xi6 (-1) l with ⟨_,h⟩ | ⟨a,b,h,_⟩
 ·exact .inl h
 ·exact .inr ⟨a,h,hl a b⟩
theorem Xhy (l:List Nat) (hl:∀ n ∈ l,n<1024):Xhx l = -1 ∨ ∃ k:Nat,Xhx l=k∧k<1024:=by
 cases l with
 |nil=>exact .inl rfl
 |cons a r=>exact .inr ⟨a,rfl,hl a (by simp)⟩
theorem Xi7 {l:List Nat} (h:Xi3 (-1) l = -1):l = []:=by
 rcases Xi6 (-1) l with ⟨e,_⟩ | ⟨a,_,b,_⟩
 ·exact e
 ·omega
theorem Xhz {l:List Nat} (h:Xhx l = -1):l = []:=by
 cases l with
 |nil=>rfl
 |cons a r=>have:(a:Int) = -1:=h; omega
theorem Xpj (R:Rg) (l1 l2:List Nat) (n:Nat) (w:World) (h:Xbf w R (l1++n::l2)) (hlo:(l1++n::l2).length≤4096) :
 Xan Tryz.prog 301 #[rgV R,.int .i64 n] w (fun v w'=>v = .int .i64 0∧Xbf w' R (l1++l2)∧Chg (Xpf R) w w'):=by
 obtain ⟨g,f,h1,B,e0,e1,e2,V,W⟩:=h.at';have Q:=h.obj;have hn:=h.lt n (by simp);have s:=h.nodup;have L:n ∉ l1:=fun hm=>(List.nodup_append.1 s).2.2 n hm n (by simp) rfl;have M:=(List.nodup_cons.1 (List.nodup_append.1 s).2.1).1;have N:n ∉ l1++l2:=fun hm=>by rcases List.mem_append.1 hm with h | h; exact L h; exact M h
 have O:f (n*3+2)=0:=by rw [W n hn,if_pos (by simp)]
 obtain ⟨ea,en⟩:=XjO l1 (-1) V;have S:=Xi5 l1 (fun m hm=>h.lt m (by simp [hm]));have T:=Xhy l2 (fun m hm=>h.lt m (by simp [hm]));have C:=XjQ l1 (-1) s V (.inl rfl);obtain ⟨pr,l⟩:∃ pr,pr=Xi3 (-1) l1:=⟨_,rfl⟩;obtain ⟨nx,o⟩:∃ nx,nx=Xhx l2:=⟨_,rfl⟩;rw [← l] at ea S C;rw [← o] at en T C;have U:pr = -1∨pr.toNat≠n:=by
  rcases Xi6 (-1) l1 with ⟨_,h⟩ | ⟨a,D,h,_⟩
  ·exact .inl (by rw [l,h])
  ·exact .inr (fun e=>L (by rw [l,h] at e; exact (show a=n from e)▸D))
 have an:nx = -1∨nx.toNat≠n:=by
  cases l2 with
  |nil=>exact .inl o
  |cons b r=>exact .inr (fun e=>M (by rw [o] at e; exact (show b=n from e)▸List.mem_cons_self))
 refine ζe Tryz.func301 Tryz.ntmps301 rfl (ζw (Xpr R n w Q hn) rfl (ζk rfl (XiI B (k:=n*3+2) (by show 0+n*3+2=_; omega) (by omega)) rfl ?_));rw [O];refine ζf rfl (ζk rfl (XiI B (k:=n*3+2) (by show 0+n*3+2=_; omega) (by omega)) rfl ?_);rw [O];refine ζw (Xpq R w Q) rfl (ζd 12 XaX (by kernel_rfl) rfl fun d=>δi 0 d rfl (δk d (XiI B (k:=n*3) (by show 0+n*3+0+0=_; omega) (by omega)) rfl (δi 1 d rfl (δk d (XiI B (k:=n*3+1) (by show 0+n*3+0+1=_; omega) (by omega)) rfl (δn d rfl fun w1 u => ?_)))));rw [ea,en];have a1:=u.heap' Q;have a2:=u.heap' h1;have a3:=u.heap' B;refine ζc rfl (Xps R g f pr 1 nx w1 a1 a2 a3 (by omega) S) ?_;rintro _ w2 ⟨a4,E,a5,a6⟩;refine ζa rfl ?_;have k1:Xu5 f pr 1 nx (n*3+1)=nx:=by
  unfold Xu5;by_cases A:pr = -1
  ·rw [if_pos A]; exact en
  ·rw [if_neg A,Xvv _ _ (by rcases U with h | h; exact absurd h A; omega)]; exact en
 have k2:Xu5 f pr 1 nx (n*3)=pr:=by
  unfold Xu5;by_cases A:pr = -1
  ·rw [if_pos A]; exact ea
  ·rw [if_neg A,Xvv _ _ (by omega)]; exact ea
 refine ζd 12 XaX (by kernel_rfl) rfl fun d=>δi 1 d rfl (δk d (XiI E (k:=n*3+1) (by show 0+n*3+0+1=_; omega) (by omega)) rfl (δi 0 d rfl (δk d (XiI E (k:=n*3) (by show 0+n*3+0+0=_; omega) (by omega)) rfl (δn d rfl fun w3 x => ?_))));rw [k1,k2];have a7:=x.heap' a5;have a8:=x.heap' a4;have a9:=x.heap' E;refine ζc rfl (Xps R _ _ nx 0 pr w3 a7 a8 a9 (by omega) T) ?_;rintro _ w4 ⟨p,y,F,aa⟩;refine ζa rfl ?_;have ab:=((u.mono fun _ _ h=>h.elim).trans a6).trans ((x.mono fun _ _ h=>h.elim).trans aa);have hF:Xu5 (Xu5 f pr 1 nx) nx 0 pr=XfL f pr nx:=rfl;rw [hF] at y;obtain ⟨G,K⟩:∃ G,G=Xu6 (Xu6 g pr 1 nx) nx 0 pr:=⟨_,rfl⟩;rw [← K] at p;have G2:G 2=(l1++n::l2).length:=by
  rw [K]; unfold Xu6;by_cases a:pr = -1 <;> by_cases b:nx = -1 <;> simp [a,b,upd,e2]
 have G0:G 0=Xhx (l1++l2):=by
  rw [K]; unfold Xu6;by_cases a:pr = -1
  ·have:l1 = []:=Xi7 (l▸a);subst this;by_cases b:nx = -1 <;> simp [a,b,upd] <;> rw [← o] <;> simp [b]
  ·have H:l1 ≠ []:=fun e=>a (by rw [l,e]; rfl);obtain ⟨c,t,rfl⟩:=List.exists_cons_of_ne_nil H;have:g 0=c:=e0;by_cases b:nx = -1 <;> simp [a,b,upd,this] <;> rfl
 have G1:G 1=Xi3 (-1) (l1++l2):=by
  rw [K]; unfold Xu6;by_cases b:nx = -1
  ·have:l2 = []:=Xhz (o▸b);subst this;rw [List.append_nil,← l];by_cases a:pr = -1 <;> simp [a,b,upd]
  ·have H:l2 ≠ []:=fun e=>b (by rw [o,e]; rfl);obtain ⟨c,t,rfl⟩:=List.exists_cons_of_ne_nil H;have ac:g 1=Xi3 (-1) (l1++c::t):=by rw [e1,Xi4,Xi4]; rfl
   rw [← ac];by_cases a:pr = -1 <;> simp [a,b,upd]
 refine ζk rfl (XiI p (k:=2) rfl (by omega)) rfl ?_;rw [G2];refine ζj rfl (ζS rfl p (Xq4 (i:=2) rfl (by omega)) rfl fun w5 ad I az => ?_);have P:=XdP y p (by decide);have ae:=XdP F p (by decide);have af:=XdP F y (by decide);have ag:=I.heap y P;refine ζb rfl (ζS rfl ag (Xq4 (i:=n*3+2) (by show 0+n*3+2=_; omega) (by omega)) rfl fun w6 ah ai b0=>ζS rfl ah (Xq5 (i:=n*3) (by show 0+n*3+0=_; omega) (by omega)) rfl fun w7 aj ak b1 => ?_);have q:=ai.trans ak;have J:∀ j,j≠n*3+2→j≠n*3→j≠n*3+1→(upd (upd (upd (XfL f pr nx) (n*3+2) (-1)) (n*3) (-1)) (n*3+1) (-1)) j=XfL f pr nx j:=fun j a b c=>by rw [Xvv _ _ c,Xvv _ _ b,Xvv _ _ a]
 exact Xay.ret1 hTT rfl Tryz.func301 rfl rfl ⟨rfl,⟨q.heap (I.heap F ae) af,by
  have:=s;rw [List.nodup_append] at this ⊢;exact ⟨this.1,(List.nodup_cons.1 this.2.1).2,fun a D b hb=>this.2.2 a D b (by simp [hb])⟩,fun m hm=>h.lt m (by rcases List.mem_append.1 hm with h | h <;> simp [h]),_,_,q.heap ad P.symm,aj,by rw [Xvv _ _ (by decide)]; exact G0,by rw [Xvv _ _ (by decide)]; exact G1,by rw [Xvw]; simp; omega,XjP (fun a D=>by
  have:a≠n:=fun e=>N (e▸D);exact ⟨(J _ (by omega) (by omega) (by omega)).symm,(J _ (by omega) (by omega) (by omega)).symm⟩) C,fun m hm=>by
  by_cases e:m=n
  ·subst e;rw [Xvv _ _ (by omega),Xvv _ _ (by omega),Xvw,if_neg N]
  ·rw [J _ (by omega) (by omega) (by omega),XfO (by rcases S with h | ⟨k,h,_⟩; exact .inl h; exact .inr (by omega)) (by rcases T with h | ⟨k,h,_⟩; exact .inl h; exact .inr (by omega)),W m hm];simp [e]⟩,(ab.trans (I.mono fun z _ e => .inl e)).trans (q.mono fun z _ e => .inr e)⟩
theorem Xun (n:Nat) (t:Nat→Int) (ht:∀ i,t i=0):Xuk n t=List.replicate n (.int .i64 0):=by
 unfold Xuk;rw [List.map_congr_left (g:=fun _=>Value.int .i64 0) (fun i _=>by rw [ht]),List.map_const',List.length_range]
theorem XwP (c:Nat):∀ n,XwJ (List.replicate c (Value.int .i64 0)) n=List.replicate (n*c) (Value.int .i64 0)
 |0=>by rw [Nat.zero_mul]; rfl
 |n+1=>by rw [XwJ,XwP c n,List.replicate_append_replicate,Nat.succ_mul,Nat.add_comm]
def XiC:Nat→Nat→Int
 |0=>fun _=>0
 |k+1=>upd (upd (upd (XiC k) (k*3) (-1)) (k*3+1) (-1)) (k*3+2) (-1)
theorem XiD:∀ (k n:Nat),n<k→XiC k (n*3+2) = -1
 |k+1,n,h=>by
  show upd (upd (upd (XiC k) (k*3) (-1)) (k*3+1) (-1)) (k*3+2) (-1) (n*3+2) = -1
  by_cases e:n=k
  ·subst e; exact Xvw ..
  ·rw [Xvv _ _ (by omega),Xvv _ _ (by omega),Xvv _ _ (by omega)]; exact XiD k n (by omega)
def XiE:Nat→Nat→Int
 |0=>fun _=>0
 |k+1=>upd (upd (XiE k) (k*3) (-1)) (k*3+1) (-1)
theorem Xpn (w:World):Xan Tryz.prog 217 #[.int .i64 1024,.int .i64 1] w
 (fun v w' => ∃ R,v = .tuple #[rgV R,.int .i64 0]∧(w.heap.size≤R.lb∧w.heap.size≤R.ab∧w.heap.size≤R.nb)∧Xbf w' R []∧Chg XaX w w'):=by
 refine ζe Tryz.func217 Tryz.ntmps217 rfl (ζf rfl (ζf rfl (ζf rfl (ζf rfl (ζd 4 XaX (by kernel_rfl) rfl fun p => ?_)))));refine Xaq.turn2 p rfl ?_ ?_
 ·intro w1 r;refine XbO.make hTT p rfl (m:=1) (kk:=1) rfl rfl (Nat.le_refl _) (by decide) (by decide) (fun _=>rfl) fun ab w2 e2 b C T=>Xaq.turn1 p rfl fun w3 g=>XbO.make hTT p rfl (m:=1024) (kk:=1024) rfl rfl (Nat.le_refl _) (by decide) (by decide) (fun _=>rfl) fun nb w4 e4 c s U => ?_;have V:=r.size;have W:=g.size;refine δn p rfl fun D j => ?_;replace b:XaE D ab 334 3 (XiE 0):=by
   have:=((g.trans s).trans j).heap' b;rw [show XwJ (Xen (Value.agg #[Value.int .i64 0,Value.int .i64 0,Value.int .i64 0])) 1=_ from XwP 3 1] at this;unfold XaE; rw [Xun 3 (XiE 0) (fun _=>rfl)]; exact this
  replace c:XaE D nb 336 3072 (XiC 0):=by
   have:=(j).heap' c;rw [show XwJ (Xen (Value.agg #[Value.int .i64 0,Value.int .i64 0,Value.int .i64 0])) 1024=_ from XwP 3 1024] at this;unfold XaE; rw [Xun 3072 (XiC 0) (fun _=>rfl)]; exact this
  have t:=(((r.trans C).trans g).trans s).trans j;have u:=XdP b c (by decide);have K:=Xkj b;have L:=Xkj c;have M:=t.size;refine ζb rfl (ζn rfl fun lb N e6 l n a0 => ?_);have E:=t.trans n;refine ζl l rfl ?_;refine Xay.loop (α:=Nat) (fun k => [(6,false,.pointer (some ⟨lb,0,none⟩)),(33,false,.int .i64 1),(34,false,.int .i64 k)])
   (fun k w'=>k≤1∧XaE w' ab 334 3 (XiE k)∧Chg (fun z=>z=ab) N w') (fun k=>1 - k) 0 ⟨rfl,rfl,rfl,trivial⟩ ⟨Nat.zero_le _,n.heap' b,Chg.refl _ _⟩ ?_
  rintro k O ⟨hk,F,d⟩ ih;refine ζa rfl (ζg rfl (fun x => ?_) fun x => ?_)
  ·have o:k<1:=by have:=of_decide_eq_true x; omega
   exact ζl (d.heap l (by omega)) rfl (ζb rfl (ζi (k*3) rfl (ζS rfl F (Xq5 (i:=k*3) (by show 0+k*3+0+0=_; omega) (by omega)) rfl fun P q a a1=>ζj rfl (ih (k+1) _ _ ⟨o,q,d.trans a⟩ (by omega) ⟨rfl,rfl,rfl,trivial⟩))))
  have G:k=1:=by have:=of_decide_eq_false x; omega
  subst G;have f:=d.heap l (by omega);have y:=d.heap (n.heap' c) u.symm;refine ζl f rfl ?_;refine Xay.loop (α:=Nat) (fun k => [(6,false,.pointer (some ⟨lb,0,none⟩)),(51,false,.int .i64 1024),(52,false,.int .i64 k)])
   (fun k w'=>k≤1024∧XaE w' nb 336 3072 (XiC k)∧Chg (fun z=>z=nb) O w') (fun k=>1024 - k) 0 ⟨rfl,rfl,rfl,trivial⟩ ⟨Nat.zero_le _,y,Chg.refl _ _⟩ ?_
  rintro k P ⟨a2,q,a⟩ H;refine ζa rfl (ζg rfl (fun A => ?_) fun A => ?_)
  ·have o:k<1024:=by have:=of_decide_eq_true A; omega
   exact ζl (a.heap f (by omega)) rfl (ζb rfl (ζb rfl (ζi (k*3) rfl (ζS rfl q (Xq6 (i:=k*3) (by show 0+k*3=_; omega) (by omega)) rfl fun w9 Q I a3=>ζj rfl (H (k+1) _ _ ⟨o,Q,a.trans I⟩ (by omega) ⟨rfl,rfl,rfl,trivial⟩)))))
  have B:k=1024:=by have:=of_decide_eq_false A; omega
  subst B;have J:=(E.since d (fun z S e=>by omega)).since a (fun z S e=>by omega);exact ζr Tryz.func217 rfl ⟨⟨lb,ab,nb⟩,rfl,⟨by show _≤lb; omega,by show _≤ab; omega,by show _≤nb; omega⟩,⟨a.heap f (by show ¬ lb=nb; omega),List.nodup_nil,(fun _ h=>by cases h),XiE 1,XiC 1024,a.heap F u,q,rfl,rfl,rfl,trivial,fun m hm=>by rw [XiD 1024 m hm]; rfl⟩,J⟩
 ·intro w1 r;refine XbO.make hTT p rfl (m:=1024) (kk:=1024) rfl rfl (Nat.le_refl _) (by decide) (by decide) (fun _=>rfl) fun nb w2 e2 c C T=>Xaq.turn1 p rfl fun w3 g=>XbO.make hTT p rfl (m:=1) (kk:=1) rfl rfl (Nat.le_refl _) (by decide) (by decide) (fun _=>rfl) fun ab w4 e4 b s U => ?_;have V:=r.size;have W:=g.size;refine δn p rfl fun D j => ?_;replace b:XaE D ab 334 3 (XiE 0):=by
   have:=(j).heap' b;rw [show XwJ (Xen (Value.agg #[Value.int .i64 0,Value.int .i64 0,Value.int .i64 0])) 1=_ from XwP 3 1] at this;unfold XaE; rw [Xun 3 (XiE 0) (fun _=>rfl)]; exact this
  replace c:XaE D nb 336 3072 (XiC 0):=by
   have:=((g.trans s).trans j).heap' c;rw [show XwJ (Xen (Value.agg #[Value.int .i64 0,Value.int .i64 0,Value.int .i64 0])) 1024=_ from XwP 3 1024] at this;unfold XaE; rw [Xun 3072 (XiC 0) (fun _=>rfl)]; exact this
  have t:=(((r.trans C).trans g).trans s).trans j;have u:=XdP b c (by decide);have K:=Xkj b;have L:=Xkj c;have M:=t.size;refine ζb rfl (ζn rfl fun lb N e6 l n a0 => ?_);have E:=t.trans n;refine ζl l rfl ?_;refine Xay.loop (α:=Nat) (fun k => [(6,false,.pointer (some ⟨lb,0,none⟩)),(33,false,.int .i64 1),(34,false,.int .i64 k)])
   (fun k w'=>k≤1∧XaE w' ab 334 3 (XiE k)∧Chg (fun z=>z=ab) N w') (fun k=>1 - k) 0 ⟨rfl,rfl,rfl,trivial⟩ ⟨Nat.zero_le _,n.heap' b,Chg.refl _ _⟩ ?_
  rintro k O ⟨hk,F,d⟩ ih;refine ζa rfl (ζg rfl (fun x => ?_) fun x => ?_)
  ·have o:k<1:=by have:=of_decide_eq_true x; omega
   exact ζl (d.heap l (by omega)) rfl (ζb rfl (ζi (k*3) rfl (ζS rfl F (Xq5 (i:=k*3) (by show 0+k*3+0+0=_; omega) (by omega)) rfl fun P q a a1=>ζj rfl (ih (k+1) _ _ ⟨o,q,d.trans a⟩ (by omega) ⟨rfl,rfl,rfl,trivial⟩))))
  have G:k=1:=by have:=of_decide_eq_false x; omega
  subst G;have f:=d.heap l (by omega);have y:=d.heap (n.heap' c) u.symm;refine ζl f rfl ?_;refine Xay.loop (α:=Nat) (fun k => [(6,false,.pointer (some ⟨lb,0,none⟩)),(51,false,.int .i64 1024),(52,false,.int .i64 k)])
   (fun k w'=>k≤1024∧XaE w' nb 336 3072 (XiC k)∧Chg (fun z=>z=nb) O w') (fun k=>1024 - k) 0 ⟨rfl,rfl,rfl,trivial⟩ ⟨Nat.zero_le _,y,Chg.refl _ _⟩ ?_
  rintro k P ⟨a2,q,a⟩ H;refine ζa rfl (ζg rfl (fun A => ?_) fun A => ?_)
  ·have o:k<1024:=by have:=of_decide_eq_true A; omega
   exact ζl (a.heap f (by omega)) rfl (ζb rfl (ζb rfl (ζi (k*3) rfl (ζS rfl q (Xq6 (i:=k*3) (by show 0+k*3=_; omega) (by omega)) rfl fun w9 Q I a3=>ζj rfl (H (k+1) _ _ ⟨o,Q,a.trans I⟩ (by omega) ⟨rfl,rfl,rfl,trivial⟩)))))
  have B:k=1024:=by have:=of_decide_eq_false A; omega
  subst B;have J:=(E.since d (fun z S e=>by omega)).since a (fun z S e=>by omega);exact ζr Tryz.func217 rfl ⟨⟨lb,ab,nb⟩,rfl,⟨by show _≤lb; omega,by show _≤ab; omega,by show _≤nb; omega⟩,⟨a.heap f (by show ¬ lb=nb; omega),List.nodup_nil,(fun _ h=>by cases h),XiE 1,XiC 1024,a.heap F u,q,rfl,rfl,rfl,trivial,fun m hm=>by rw [XiD 1024 m hm]; rfl⟩,J⟩
abbrev PgL:=List (Nat × List Int)
structure Sm where
 cls:Int
 blocks:Nat
 pg:PgL
 opn:List Nat
def Xsi:PgL→Int→Option (List Int)
 |[],_=>none
 |(m,p)::r,n=>if (m:Int)=n then some p else Xsi r n
def Xsr (l:PgL) (n:Nat) (p:List Int):PgL:=l.map fun e=>if e.1=n then (n,p) else e
def Xse (l:PgL) (n:Nat):PgL:=l.filter fun e=>e.1 != n
def Xsx:PgL→Nat
 |[]=>0
 |(_,p)::r=>Xnz p+Xsx r
theorem Xsp:∀ {l:PgL} {n:Int} {p:List Int},Xsi l n=some p → ∃ m:Nat,n=m∧(m,p) ∈ l
 |(m,q)::r,n,p,h=>by
  unfold Xsi at h;by_cases e:(m:Int)=n
  ·rw [if_pos e] at h; cases h; exact ⟨m,e.symm,by simp⟩
  ·rw [if_neg e] at h;obtain ⟨m',e',hm⟩:=Xsp h;exact ⟨m',e',by simp [hm]⟩
theorem Xsl:∀ {l:PgL} {n:Int},Xsi l n=none → ∀ e ∈ l,(e.1:Int)≠n
 |[],_,_,_,he=>by cases he
 |(m,q)::r,n,h,e,he=>by
  unfold Xsi at h;by_cases hm:(m:Int)=n
  ·rw [if_pos hm] at h; cases h
  ·rw [if_neg hm] at h;rcases List.mem_cons.1 he with rfl | he
   ·exact hm
   ·exact Xsl h e he
theorem Xsm:∀ {l:PgL} {m:Nat} {p:List Int},(l.map (·.1)).Nodup→(m,p) ∈ l→Xsi l m=some p
 |(a,q)::r,m,p,b,hm=>by
  obtain ⟨c,d⟩:=List.nodup_cons.1 b;unfold Xsi;rcases List.mem_cons.1 hm with e | hm
  ·cases e; rw [if_pos rfl]
  ·have:a≠m:=fun e=>c (List.mem_map.2 ⟨(m,p),hm,e.symm⟩);rw [if_neg (by omega)];exact Xsm d hm
theorem Xss (l:PgL) (n:Nat) (p:List Int):(Xsr l n p).map (·.1)=l.map (·.1):=by
 unfold Xsr;rw [List.map_map];refine List.map_congr_left fun e _ => ?_;show (if e.1=n then (n,p) else e).1=e.1
 split
 ·rename_i h; exact h.symm
 ·rfl
theorem XkS {l:PgL} {n:Nat} {p:List Int} {e:Nat × List Int} (h:e ∈ Xsr l n p):(e=(n,p) ∧ ∃ q,(n,q) ∈ l)∨(e.1≠n∧e ∈ l):=by
 unfold Xsr at h;obtain ⟨u,b,e1⟩:=List.mem_map.1 h;by_cases a:u.1=n
 ·rw [if_pos a] at e1; exact .inl ⟨e1.symm,u.2,by rw [← a]; exact b⟩
 ·rw [if_neg a] at e1; subst e1; exact .inr ⟨a,b⟩
theorem XkR {l:PgL} {n:Nat} {e:Nat × List Int}:e ∈ Xse l n↔e.1≠n∧e ∈ l:=by
 unfold Xse;rw [List.mem_filter];simp only [bne_iff_ne,ne_eq];exact And.comm
theorem Xsf (l:PgL) (n:Nat):(Xse l n).map (·.1)=(l.map (·.1)).filter (fun m=>m != n):=by
 unfold Xse;rw [List.filter_map];rfl
theorem Xsu:∀ {l:PgL} {n:Nat} (p:List Int),n ∉ l.map (·.1)→Xsr l n p=l:=fun {l n} p h=>by
 unfold Xsr
 conv=>rhs; rw [← List.map_id l]
 refine List.map_congr_left fun e a => ?_;rw [if_neg (fun b=>h (List.mem_map.2 ⟨e,a,b⟩))];rfl
theorem Xsg {l:PgL} {n:Nat} (h:n ∉ l.map (·.1)):Xse l n=l:=by
 unfold Xse;refine List.filter_eq_self.2 fun e a => ?_;simp only [bne_iff_ne,ne_eq];exact fun b=>h (List.mem_map.2 ⟨e,a,b⟩)
theorem XsB:∀ {l:PgL} {n:Nat} {p q:List Int},(l.map (·.1)).Nodup→(n,q) ∈ l→Xsx (Xsr l n p)+Xnz q=Xsx l+Xnz p
 |(a,r)::t,n,p,q,d,hm=>by
  obtain ⟨b,f⟩:=List.nodup_cons.1 d;rcases List.mem_cons.1 hm with e | hm
  ·have e1:=(Prod.mk.inj e).1;have e2:=(Prod.mk.inj e).2;subst e1; subst e2;have:Xsr ((n,q)::t) n p=(n,p)::t:=by
    show (if n=n then (n,p) else (n,q))::Xsr t n p=_
    rw [if_pos rfl,Xsu p b]
   rw [this];simp only [Xsx];omega
  ·have c:a≠n:=fun e=>b (e▸List.mem_map.2 ⟨(n,q),hm,rfl⟩);have:Xsr ((a,r)::t) n p=(a,r)::Xsr t n p:=by
    show (if a=n then (n,p) else (a,r))::Xsr t n p=_
    rw [if_neg c]
   rw [this];have ih:=XsB (p:=p) f hm;simp only [Xsx];omega
theorem Xsz:∀ {l:PgL} {n:Nat} {q:List Int},(l.map (·.1)).Nodup→(n,q) ∈ l→Xsx (Xse l n)+Xnz q=Xsx l∧(Xse l n).length+1=l.length
 |(a,r)::t,n,q,d,hm=>by
  obtain ⟨b,f⟩:=List.nodup_cons.1 d;rcases List.mem_cons.1 hm with e | hm
  ·have e1:=(Prod.mk.inj e).1;have e2:=(Prod.mk.inj e).2;subst e1; subst e2;have:Xse ((n,q)::t) n=t:=by
    unfold Xse;rw [List.filter_cons];simp only [bne_self_eq_false,Bool.false_eq_true,if_false];exact Xsg b
   rw [this];exact ⟨Nat.add_comm _ _,rfl⟩
  ·have c:a≠n:=fun e=>b (e▸List.mem_map.2 ⟨(n,q),hm,rfl⟩);have:Xse ((a,r)::t) n=(a,r)::Xse t n:=by
    unfold Xse;rw [List.filter_cons];simp [c]
   rw [this];obtain ⟨g,h⟩:=Xsz f hm;simp only [Xsx,List.length_cons];omega
theorem Xsy:∀ (l:PgL) (n:Nat) (p:List Int),Xsx (l ++ [(n,p)])=Xsx l+Xnz p
 |[],n,p=>by simp [Xsx]
 |(a,r)::t,n,p=>by
  have:=Xsy t n p;show Xnz r+Xsx (t ++ [(n,p)])=Xnz r+Xsx t+Xnz p
  omega
theorem XsA:∀ {l:PgL} {b:Nat},(∀ e ∈ l,e.2.length=b)→Xsx l≤l.length*b
 |[],b,_=>by simp [Xsx]
 |(a,r)::t,b,h=>by
  have ih:=XsA (l:=t) (b:=b) (fun e c=>h e (by simp [c]));have d:=XnB r;have f:r.length=b:=h (a,r) (by simp);simp only [Xsx,List.length_cons,Nat.succ_mul];omega
structure Sm.Ok (x:Sm):Prop where
 nodup:(x.pg.map (·.1)).Nodup
 cls:0≤x.cls
 blk:1≤x.blocks∧x.blocks≤512
 each:∀ e ∈ x.pg,e.1<1024∧e.2.length=x.blocks∧(e.1 ∈ x.opn↔Xnz e.2≠x.blocks)
 onodup:x.opn.Nodup
 osub:∀ n ∈ x.opn,∃ p,(n,p) ∈ x.pg
def Sm.Pos (x:Sm):Prop := ∀ e ∈ x.pg,0<Xnz e.2
def Sm.Of (x:Sm) (pl:PlM):Prop := ∀ e ∈ x.pg,e.1<pl.own.length∧pl.own.getD e.1 0=x.cls
def Sm.fresh (x:Sm) (n:Nat):Sm:={x with pg:=x.pg ++ [(n,List.replicate x.blocks (-1))],opn:=n::x.opn}
def Sm.takeAt (x:Sm) (n:Nat) (p:List Int) (who:Int):Sm :=
 {x with pg:=Xsr x.pg n (Xns p who),opn:=if Xnz (Xns p who)=x.blocks then x.opn.filter (fun m=>m != n) else x.opn}
def Sm.giveAt (x:Sm) (n:Nat) (p:List Int) (i:Int):Sm :=
 let o:=if Xnz p=x.blocks then n::x.opn else x.opn
 if Xnz (Xne p i)=0 then {x with pg:=Xse x.pg n,opn:=o.filter (fun m=>m != n)} else {x with pg:=Xsr x.pg n (Xne p i),opn:=o}
def Sm.ownAt (x:Sm) (n:Nat) (p:List Int) (i who:Int):Sm:={x with pg:=Xsr x.pg n (Xnm p i who)}
theorem Xnj {p:List Int}:Xni p<0↔Xnz p=p.length:=by
 have:=Xke (x:=pgB p);rw [Xnb] at this;exact this
theorem Xnv (p:List Int) (who:Int):(Xns p who).length=p.length:=by
 unfold Xns; split <;> simp
theorem Xng (p:List Int) (i:Int):(Xne p i).length=p.length:=by
 unfold Xne; split <;> simp
theorem Xnn (p:List Int) (i who:Int):(Xnm p i who).length=p.length:=by
 unfold Xnm; split <;> simp
theorem XgZ {x:List Int} {i:Nat} (h:i<x.length):x.getD i 0=x.getD i (-1):=by
 rw [List.getD_eq_getElem?_getD,List.getD_eq_getElem?_getD,List.getElem?_eq_getElem h]; rfl
theorem Xnw {p:List Int} {who:Int} (hw:0≤who) (h:Xnz p≠p.length):Xnu p who=0∧Xnz (Xns p who)=Xnz p+1:=by
 have a:¬ Xni p<0:=fun e=>h (Xnj.1 e);have e:Xnu p who=0:=by unfold Xnu; rw [if_neg (by omega),if_neg a]
 obtain ⟨b,c⟩:=XnF a;refine ⟨e,?_⟩;unfold Xns;rw [if_pos e];have:=XnD (v:=who) b;rw [if_pos (by rw [XgZ b]; exact c),if_neg (by omega)] at this;omega
theorem Xnh {p:List Int} {i:Int} (h:Xnf p i=0):Xnz (Xne p i)+1=Xnz p:=by
 unfold Xne;rw [if_pos h];unfold Xnf at h;split at h
 ·cases h
 ·rename_i c
  split at h
  ·cases h
  ·rename_i a
   have b:i.toNat<p.length:=by omega
   have:=XnD (v := -1) b;unfold Xnk at a;rw [if_pos (by omega)] at a;rw [if_neg (by rw [XgZ b]; exact a),if_pos rfl] at this;omega
theorem Xnr {p:List Int} {i who:Int}:Xnz (Xnm p i who)=Xnz p:=by
 unfold Xnm;split
 ·rename_i h
  unfold Xnl at h;split at h
  ·cases h
  ·rename_i c
   split at h
   ·cases h
   ·rename_i a
    have b:i.toNat<p.length:=by omega
    have:=XnD (v:=who) b;unfold Xnk at a;rw [if_pos (by omega)] at a;rw [if_neg (by rw [XgZ b]; exact a),if_neg (by omega)] at this;omega
 ·rfl
theorem XkO {l:List Nat} {m n:Nat}:m ∈ l.filter (fun k=>k != n)↔m≠n∧m ∈ l:=by
 rw [List.mem_filter];simp only [bne_iff_ne,ne_eq];exact And.comm
theorem Sm.Ok.fresh {x:Sm} (h:x.Ok) {n:Nat} (hn:n<1024) (hno:n ∉ x.pg.map (·.1)):(x.fresh n).Ok:=by
 have f:=h.blk;have g:n ∉ x.opn:=fun hm=>by obtain ⟨p,d⟩:=h.osub n hm; exact hno (List.mem_map.2 ⟨_,d,rfl⟩)
 refine ⟨?_,h.cls,h.blk,fun e he => ?_,List.nodup_cons.2 ⟨g,h.onodup⟩,fun m hm => ?_⟩
 ·show ((x.pg ++ [(n,List.replicate x.blocks (-1))]).map Prod.fst).Nodup
  rw [List.map_append];refine List.nodup_append.2 ⟨h.nodup,by simp,fun a i b f e => ?_⟩;have:b=n:=by simpa using f
  exact hno (this▸e▸i)
 ·rcases List.mem_append.1 he with he | he
  ·obtain ⟨a,b,c⟩:=h.each e he;have:e.1≠n:=fun e'=>hno (List.mem_map.2 ⟨e,he,e'⟩);exact ⟨a,b,by show e.1 ∈ n::x.opn↔_; rw [List.mem_cons]; simp only [this,false_or]; exact c⟩
  ·have:e=(n,List.replicate x.blocks (-1)):=by simpa using he
   subst this;refine ⟨hn,by simp [Sm.fresh],?_⟩;show n ∈ n::x.opn↔Xnz (List.replicate x.blocks (-1))≠x.blocks
   rw [XnC];constructor
   ·intro _; omega
   ·intro _; simp
 ·rcases List.mem_cons.1 hm with rfl | hm
  ·exact ⟨List.replicate x.blocks (-1),List.mem_append_right _ (by simp)⟩
  ·obtain ⟨p,d⟩:=h.osub m hm;exact ⟨p,List.mem_append_left _ d⟩
theorem Sm.Ok.takeAt {x:Sm} (h:x.Ok) {n:Nat} {p:List Int} {who:Int} (hw:0≤who) (hp:(n,p) ∈ x.pg) (ho:n ∈ x.opn):(x.takeAt n p who).Ok:=by
 obtain ⟨g,i,o⟩:=h.each _ hp;simp only at g i o
 refine ⟨by show ((Xsr _ _ _).map _).Nodup; rw [Xss]; exact h.nodup,h.cls,h.blk,fun e f => ?_,?_,fun m hm => ?_⟩
 ·rcases XkS f with ⟨rfl,_⟩ | ⟨j,f⟩
  ·refine ⟨g,by rw [Xnv]; exact i,?_⟩;show n ∈ (if _ then _ else _)↔_
   by_cases hf:Xnz (Xns p who)=x.blocks
   ·rw [if_pos hf,XkO];exact ⟨fun h=>absurd rfl h.1,fun h=>absurd hf h⟩
   ·rw [if_neg hf];exact ⟨fun _=>hf,fun _=>ho⟩
  ·obtain ⟨a,b,c⟩:=h.each e f;refine ⟨a,b,?_⟩;show e.1 ∈ (if _ then _ else _)↔_
   split
   ·rw [XkO]; simp only [ne_eq,j,not_false_eq_true,true_and]; exact c
   ·exact c
 ·show (if _ then _ else _:List Nat).Nodup
  split
  ·exact h.onodup.filter _
  ·exact h.onodup
 ·have k:m ∈ x.opn:=by
   have d:m ∈ (if _ then _ else _:List Nat):=hm;split at d
   ·exact (XkO.1 d).2
   ·exact d
  obtain ⟨q,l⟩:=h.osub m k;by_cases e:m=n
  ·subst e; exact ⟨_,List.mem_map.2 ⟨(m,q),l,if_pos rfl⟩⟩
  ·exact ⟨q,List.mem_map.2 ⟨(m,q),l,if_neg e⟩⟩
theorem Sm.Ok.giveAt {x:Sm} (h:x.Ok) {n:Nat} {p:List Int} {i:Int} (hp:(n,p) ∈ x.pg) (hi:Xnf p i=0):(x.giveAt n p i).Ok:=by
 obtain ⟨o,r,k⟩:=h.each _ hp;simp only at o r k
 have y:=Xnh hi;have w:=XnB p;have s:n ∈ (if Xnz p=x.blocks then n::x.opn else x.opn):=by
  split
  ·simp
  ·rename_i hf; exact k.2 hf
 have j:(if Xnz p=x.blocks then n::x.opn else x.opn).Nodup:=by
  split
  ·rename_i hf; exact List.nodup_cons.2 ⟨fun hm=>(k.1 hm) hf,h.onodup⟩
  ·exact h.onodup
 have d:∀ m,m≠n→(m ∈ (if Xnz p=x.blocks then n::x.opn else x.opn)↔m ∈ x.opn):=fun m hm=>by
  split
  ·rw [List.mem_cons]; simp [hm]
  ·rfl
 unfold Sm.giveAt;simp only
 by_cases t:Xnz (Xne p i)=0
 ·rw [if_pos t];refine ⟨by show ((Xse _ _).map _).Nodup; rw [Xsf]; exact h.nodup.filter _,h.cls,h.blk,fun e f => ?_,j.filter _,fun m hm => ?_⟩
  ·obtain ⟨g,f⟩:=XkR.1 f;obtain ⟨a,b,c⟩:=h.each e f;exact ⟨a,b,by show e.1 ∈ List.filter _ _↔_; rw [XkO,d _ g]; simp only [ne_eq,g,not_false_eq_true,true_and]; exact c⟩
  ·obtain ⟨u,v⟩:=XkO.1 hm;obtain ⟨q,l⟩:=h.osub m ((d m u).1 v);exact ⟨q,XkR.2 ⟨u,l⟩⟩
 ·rw [if_neg t];refine ⟨by show ((Xsr _ _ _).map _).Nodup; rw [Xss]; exact h.nodup,h.cls,h.blk,fun e f => ?_,j,fun m hm => ?_⟩
  ·rcases XkS f with ⟨rfl,_⟩ | ⟨g,f⟩
   ·refine ⟨o,by rw [Xng]; exact r,⟨fun _ => ?_,fun _=>s⟩⟩;show Xnz (Xne p i)≠x.blocks
    omega
   ·obtain ⟨a,b,c⟩:=h.each e f;exact ⟨a,b,(d _ g).trans c⟩
  ·by_cases e:m=n
   ·subst e; exact ⟨_,List.mem_map.2 ⟨(m,p),hp,if_pos rfl⟩⟩
   ·obtain ⟨q,l⟩:=h.osub m ((d m e).1 hm);exact ⟨q,List.mem_map.2 ⟨(m,q),l,if_neg e⟩⟩
theorem Sm.Ok.ownAt {x:Sm} (h:x.Ok) {n:Nat} {p:List Int} {i who:Int} (hp:(n,p) ∈ x.pg):(x.ownAt n p i who).Ok:=by
 obtain ⟨c,d,f⟩:=h.each _ hp;refine ⟨by show ((Xsr _ _ _).map _).Nodup; rw [Xss]; exact h.nodup,h.cls,h.blk,fun e a => ?_,h.onodup,fun m hm => ?_⟩
 ·rcases XkS a with ⟨rfl,_⟩ | ⟨g,a⟩
  ·exact ⟨c,by rw [Xnn]; exact d,by show _↔Xnz (Xnm p i who)≠_; rw [Xnr]; exact f⟩
  ·exact h.each e a
 ·obtain ⟨q,b⟩:=h.osub m hm;by_cases e:m=n
  ·subst e; exact ⟨_,List.mem_map.2 ⟨(m,q),b,if_pos rfl⟩⟩
  ·exact ⟨q,List.mem_map.2 ⟨(m,q),b,if_neg e⟩⟩
def kd (w:World) (b:Nat):Option (Option Nat):=match w.heap[b]? with
 |some (.cells _ t _)=>some (some t)
 |some (.map _ _)=>some none
 |_=>none
theorem XiO {w:World} {b t:Nat} {c:Array Value} {f:Nat × Nat} (h:w.heap[b]? = some (.cells c t f)):kd w b=some (some t):=by unfold kd; rw [h]
theorem XiS {w:World} {b:Nat} {m:AL} (h:XaL w b m):kd w b=some none:=by
 obtain ⟨es,c,hm,_⟩:=h;unfold kd; rw [hm]
theorem XiU {w:World} {a b:Nat} {x y:Option (Option Nat)} (h1:kd w a=x) (h2:kd w b=y) (h:x≠y):a≠b:=fun e=>h (by rw [← h1,← h2,e])
theorem XiR {w:World} {b:Nat} {x:Option Nat} (h:kd w b=some x):b<w.heap.size:=by
 by_cases a:b<w.heap.size
 ·exact a
 ·unfold kd at h;rw [Array.getElem?_eq_none (by omega)] at h;cases h
theorem Xup {w:World} {b:Nat} (h:XbD w) (hb:∀ v,w.cell? ⟨b,0,none⟩≠some (.int .u8 v)):1≠b:=fun e=>by
 have a:=h 0 (by decide);exact hb _ ((congrArg (fun x=>w.cell? ⟨x,0,none⟩) e.symm).trans a)
structure Sh where
 sb:Nat
 sm:Nat
 R:Rg
 P:Pl
abbrev sfV (S:Sh):Value := .pointer (some ⟨S.sb,0,none⟩)
def shL (S:Sh) (cls:Int) (blocks:Nat) (used:Int):List Value := [plV S.P,.int .i64 cls,.int .i64 (blocks:Int),.map (some S.sm),rgV S.R,.int .i64 used]
structure Xbt (w:World) (S:Sh) (G:Nat→Pg) (cls:Int) (blocks:Nat) (pg:PgL) (opn:List Nat) (used:Int):Prop where
 nodup:(pg.map (·.1)).Nodup
 tab:XbD w
 obj:w.heap[S.sb]? = some (.cells (shL S cls blocks used).toArray 272 (0,0))
 map:∃ m,XaL w S.sm m∧(Xb9 m).Nodup∧m.length=pg.length∧(∀ e ∈ pg,Xcj m e.1=some (pgV (G e.1))) ∧ ∀ k:Int,(∀ e ∈ pg,(e.1:Int)≠k)→Xcj m k=none
 ring:Xbf w S.R opn
 pages:∀ e ∈ pg,Xa3 w (G e.1) e.2
 sep:∀ e ∈ pg,(G e.1).mb≠S.sm ∧ ∀ e' ∈ pg,e.1≠e'.1→(G e.1).bb≠(G e'.1).bb∧(G e.1).mb≠(G e'.1).mb
def Xrb (S:Sh) (G:Nat→Pg) (pg:PgL):Nat→Prop:=fun z=>z=S.sb∨z=S.sm∨Xpf S.R z ∨ ∃ e ∈ pg,Xnd (G e.1) z
structure Xbu (w:World) (S:Sh):Prop where
 sb:kd w S.sb=some (some 272)
 sm:kd w S.sm=some none
 lb:kd w S.R.lb=some (some 329)
 ab:kd w S.R.ab=some (some 334)
 nb:kd w S.R.nb=some (some 336)
structure Xa4 (w:World) (g:Pg):Prop where
 p:kd w g.p=some (some 325)
 bb:kd w g.bb=some (some 366)
 mb:kd w g.mb=some none
theorem Xa3.kds {w:World} {g:Pg} {x:List Int} (h:Xa3 w g x):Xa4 w g:=by
 obtain ⟨m,hm,_⟩:=h.own;obtain ⟨ws,_,_,_,a⟩:=h.bits.ws;exact ⟨XiO h.pc,XiO a,XiS hm⟩
theorem Xbt.kds {w:World} {S:Sh} {G:Nat→Pg} {cls:Int} {blocks:Nat} {pg:PgL} {opn:List Nat} {used:Int} (h:Xbt w S G cls blocks pg opn used):Xbu w S:=by
 obtain ⟨m,hm,_⟩:=h.map;obtain ⟨g,f,a,b,_⟩:=h.ring.at';exact ⟨XiO h.obj,XiS hm,XiO h.ring.obj,XiO a,XiO b⟩
theorem Xuq {w:World} {g:Pg} {x:List Int} (h:Xa3 w g x):¬ Xnd g 1:=fun a=>by
 rcases a with e | e
 ·exact h.bits.ne e
 ·exact h.notab e
theorem Xa3.other {w w':World} {g g':Pg} {x x':List Int} (h:Xa3 w g x) (h':Xa3 w g' x') (hb:g'.bb≠g.bb) (hm:g'.mb≠g.mb) (hc:Chg (Xnd g) w w'):Xa3 w' g' x':=by
 have k:=h.kds;have k':=h'.kds;refine h'.chg hc ?_ ?_ ?_ (Xuq h)
 ·rintro (e | e)
  ·exact XiU k'.p k.bb (by decide) e
  ·exact XiU k'.p k.mb (by decide) e
 ·rintro (e | e)
  ·exact hb e
  ·exact XiU k'.bb k.mb (by decide) e
 ·rintro (e | e)
  ·exact XiU k'.mb k.bb (by decide) e
  ·exact hm e
section
variable {w w':World} {S:Sh} {G:Nat→Pg} {cls:Int} {blocks:Nat} {pg:PgL} {opn:List Nat} {used:Int}
theorem Xbt.chg {S':Nat→Prop} (h:Xbt w S G cls blocks pg opn used) (hc:Chg S' w w') (h1:∀ z,S' z→z≠S.sb∧z≠S.sm∧z≠S.R.lb ∧ ¬ Xpf S.R z) (h2:∀ z,S' z → ∀ e ∈ pg,z≠(G e.1).p ∧ ¬ Xnd (G e.1) z) (h3:¬ S' 1):Xbt w' S G cls blocks pg opn used:=by
 obtain ⟨m,hm,r⟩:=h.map;exact ⟨h.nodup,h.tab.chg hc h3,hc.heap h.obj (fun a=>(h1 _ a).1 rfl),⟨m,hm.chg hc (fun a=>(h1 _ a).2.1 rfl),r⟩,h.ring.chg hc (fun a=>(h1 _ a).2.2.1 rfl) (fun a=>(h1 _ a).2.2.2 (.inl rfl)) (fun a=>(h1 _ a).2.2.2 (.inr rfl)),
  fun e b=>(h.pages e b).chg hc (fun a=>(h2 _ a e b).1 rfl) (fun a=>(h2 _ a e b).2 (.inl rfl)) (fun a=>(h2 _ a e b).2 (.inr rfl)) h3,h.sep⟩
theorem Xbt.grow (h:Xbt w S G cls blocks pg opn used) (hc:Chg XaX w w'):Xbt w' S G cls blocks pg opn used:=h.chg hc (fun _ h=>h.elim) (fun _ h=>h.elim) id
theorem Xbt.apart (h:Xbt w S G cls blocks pg opn used) {z:Nat} {t:Nat} (hz:kd w z=some (some t)) (ht:t≠272∧t≠329∧t≠334∧t≠336∧t≠325∧t≠366) :
 (z≠S.sb∧z≠S.sm∧z≠S.R.lb ∧ ¬ Xpf S.R z) ∧ ∀ e ∈ pg,z≠(G e.1).p ∧ ¬ Xnd (G e.1) z:=by
 have k:=h.kds;have d:∀ {t':Nat},t≠t'→some (some t)≠some (some t'):=fun h e=>h (Option.some.inj (Option.some.inj e));refine ⟨⟨XiU hz k.sb (d ht.1),XiU hz k.sm (by simp),XiU hz k.lb (d ht.2.1),?_⟩,fun e a => ?_⟩
 ·rintro (e | e)
  ·exact XiU hz k.ab (d ht.2.2.1) e
  ·exact XiU hz k.nb (d ht.2.2.2.1) e
 ·have kp:=(h.pages e a).kds;refine ⟨XiU hz kp.p (d ht.2.2.2.2.1),?_⟩;rintro (e | e)
  ·exact XiU hz kp.bb (d ht.2.2.2.2.2) e
  ·exact XiU hz kp.mb (by simp) e
theorem Xbt.page (h:Xbt w S G cls blocks pg opn used) {n:Nat} {p p':List Int} (hp:(n,p) ∈ pg) (hk:Xa3 w' (G n) p') (hc:Chg (Xnd (G n)) w w'):Xbt w' S G cls blocks (Xsr pg n p') opn used:=by
 have k:=h.kds;have d:=h.pages _ hp;have kp:=d.kds;obtain ⟨m,hm,s,u,g,v⟩:=h.map;have hf:∀ z t,kd w z=some (some t)→t≠366 → ¬ Xnd (G n) z:=fun z t i ht=>by
  rintro (e | e)
  ·exact XiU i kp.bb (fun e=>ht (Option.some.inj (Option.some.inj e))) e
  ·exact XiU i kp.mb (by simp) e
 have l:¬ Xnd (G n) S.sm:=by
  rintro (e | e)
  ·exact XiU k.sm kp.bb (by simp) e
  ·exact (h.sep _ hp).1 e.symm
 refine ⟨by rw [Xss]; exact h.nodup,h.tab.chg hc (Xuq d),hc.heap h.obj (hf _ _ k.sb (by decide)),⟨m,hm.chg hc l,s,by unfold Xsr; rw [List.length_map]; exact u,fun e c => ?_,fun j o=>v j fun e c => ?_⟩,h.ring.chg hc (hf _ _ k.lb (by decide)) (hf _ _ k.ab (by decide)) (hf _ _ k.nb (by decide)),fun e c => ?_,fun e c => ?_⟩
 ·rcases XkS c with ⟨rfl,_⟩ | ⟨_,c⟩
  ·exact g (n,p) hp
  ·exact g e c
 ·by_cases e1:e.1=n
  ·have:=o (n,p') (List.mem_map.2 ⟨e,c,if_pos e1⟩);rw [e1]; exact this
  ·exact o e (List.mem_map.2 ⟨e,c,if_neg e1⟩)
 ·rcases XkS c with ⟨rfl,_⟩ | ⟨r,c⟩
  ·exact hk
  ·obtain ⟨a,b⟩:=(h.sep _ hp).2 e c (Ne.symm r);exact d.other (h.pages e c) a.symm b.symm hc
 ·have old:∃ q,(e.1,q) ∈ pg:=by
   rcases XkS c with ⟨rfl,_⟩ | ⟨_,c⟩
   ·exact ⟨p,hp⟩
   ·exact ⟨e.2,c⟩
  obtain ⟨q,x⟩:=old;obtain ⟨a,b⟩:=h.sep _ x;refine ⟨a,fun e' f => ?_⟩;rcases XkS f with ⟨rfl,_⟩ | ⟨_,f⟩
  ·exact b (n,p) hp
  ·exact b e' f
theorem Xbt.setUsed (h:Xbt w S G cls blocks pg opn used) {u:Int} (ho:w'.heap[S.sb]? = some (.cells (shL S cls blocks u).toArray 272 (0,0))) (hc:Chg (fun z=>z=S.sb) w w'):Xbt w' S G cls blocks pg opn u:=by
 have k:=h.kds;obtain ⟨m,hm,r⟩:=h.map;have a:=Xup h.tab (fun v e=>by rw [Xel h.obj] at e; simp [shL] at e);exact ⟨h.nodup,h.tab.chg hc a,ho,⟨m,hm.chg hc (XiU k.sm k.sb (by simp)),r⟩,h.ring.chg hc (XiU k.lb k.sb (by decide)) (XiU k.ab k.sb (by decide)) (XiU k.nb k.sb (by decide)),
  fun e b=>by have kp:=(h.pages e b).kds; exact (h.pages e b).chg hc (XiU kp.p k.sb (by decide)) (XiU kp.bb k.sb (by decide)) (XiU kp.mb k.sb (by simp)) a,h.sep⟩
theorem Xus {R:Rg} {o:List Nat} (h:Xbf w R o) (ht:XbD w):¬ Xpf R 1:=fun a=>by
 obtain ⟨g,f,b,c,_⟩:=h.at';rcases a with e | e
 ·exact Xup ht (fun v e=>by rw [XiI b (j:=0) (k:=0) rfl (by decide)] at e; cases e) e
 ·exact Xup ht (fun v e=>by rw [XiI c (j:=0) (k:=0) rfl (by decide)] at e; cases e) e
theorem Xbt.setRing (h:Xbt w S G cls blocks pg opn used) {o:List Nat} (hr:Xbf w' S.R o) (hc:Chg (Xpf S.R) w w'):Xbt w' S G cls blocks pg o used:=by
 have k:=h.kds;obtain ⟨m,hm,r⟩:=h.map;have a:=Xus h.ring h.tab;have hf:∀ z x,kd w z=some x→x≠some 334→x≠some 336 → ¬ Xpf S.R z:=fun z x b d f=>by
  rintro (e | e)
  ·exact XiU b k.ab (fun e=>d (Option.some.inj e)) e
  ·exact XiU b k.nb (fun e=>f (Option.some.inj e)) e
 exact ⟨h.nodup,h.tab.chg hc a,hc.heap h.obj (hf _ _ k.sb (by decide) (by decide)),⟨m,hm.chg hc (hf _ _ k.sm (by simp) (by simp)),r⟩,hr,
  fun e c=>by have kp:=(h.pages e c).kds; exact (h.pages e c).chg hc (hf _ _ kp.p (by decide) (by decide)) (hf _ _ kp.bb (by decide) (by decide)) (hf _ _ kp.mb (by simp) (by simp)) a,h.sep⟩
theorem Xuo {r:Nat} {m:AL} (h:XaL w r m) (ht:XbD w):1≠r:=by
 obtain ⟨es,c,hm,_⟩:=h;exact Xup ht (fun v e=>by simp only [World.cell?,hm] at e; cases e)
theorem Xbt.del (h:Xbt w S G cls blocks pg opn used) {n:Nat} {p:List Int} (hp:(n,p) ∈ pg) (hm':∀ m,XaL w S.sm m→XaL w' S.sm (XbZ m n)) (hc:Chg (fun z=>z=S.sm) w w'):Xbt w' S G cls blocks (Xse pg n) opn used:=by
 have k:=h.kds;obtain ⟨m,hm,d,o,f,i⟩:=h.map;have g:=Xuo hm h.tab;refine ⟨by rw [Xsf]; exact h.nodup.filter _,h.tab.chg hc g,hc.heap h.obj (XiU k.sb k.sm (by simp)),⟨XbZ m n,hm' m hm,by rw [Xcb]; exact d.erase _,?_,fun e a => ?_,fun j l => ?_⟩,h.ring.chg hc (XiU k.lb k.sm (by simp)) (XiU k.ab k.sm (by simp)) (XiU k.nb k.sm (by simp)),fun e a => ?_,fun e a => ?_⟩
 ·have:=(Xsz h.nodup hp).2;rw [Xb0,f _ hp];simp only [Option.isSome_some,if_true];omega
 ·obtain ⟨c,a⟩:=XkR.1 a;rw [Xcl d,if_neg (by omega)];exact f e a
 ·rw [Xcl d];by_cases e:j=n
  ·rw [if_pos e]
  ·rw [if_neg e];refine i j fun e' b => ?_;by_cases e2:e'.1=n
   ·rw [e2]; exact fun h=>e h.symm
   ·exact l e' (XkR.2 ⟨e2,b⟩)
 ·obtain ⟨c,a⟩:=XkR.1 a;have kp:=(h.pages e a).kds;exact (h.pages e a).chg hc (XiU kp.p k.sm (by simp)) (XiU kp.bb k.sm (by simp)) (h.sep e a).1 g
 ·obtain ⟨c,a⟩:=XkR.1 a;exact ⟨(h.sep e a).1,fun e' b=>(h.sep e a).2 e' (XkR.1 b).2⟩
def XoF (G:Nat→Pg) (n:Nat) (g:Pg):Nat→Pg:=fun m=>if m=n then g else G m
theorem Xbt.add (h:Xbt w S G cls blocks pg opn used) {n:Nat} {g:Pg} {p:List Int} (hn:n ∉ pg.map (·.1)) (hg:Xa3 w g p) (hsm:g.mb≠S.sm) (hd:∀ e ∈ pg,(G e.1).bb≠g.bb∧(G e.1).mb≠g.mb)
 (hm':∀ m,XaL w S.sm m→XaL w' S.sm (XcC m n (pgV g))) (hc:Chg (fun z=>z=S.sm) w w'):Xbt w' S (XoF G n g) cls blocks (pg ++ [(n,p)]) opn used:=by
 have k:=h.kds;obtain ⟨m,hm,v,x,y,s⟩:=h.map;have l:=Xuo hm h.tab;have o:∀ e ∈ pg,XoF G n g e.1=G e.1:=fun e he=>if_neg (fun e'=>hn (List.mem_map.2 ⟨e,he,e'⟩));have f:XoF G n g n=g:=if_pos rfl;have i:Xcj m n=none:=s n fun e he e'=>hn (List.mem_map.2 ⟨e,he,by omega⟩);have kg:=hg.kds;refine ⟨?_,h.tab.chg hc l,hc.heap h.obj (XiU k.sb k.sm (by simp)),⟨XcC m n (pgV g),hm' m hm,?_,?_,fun e he => ?_,fun j t => ?_⟩,h.ring.chg hc (XiU k.lb k.sm (by simp)) (XiU k.ab k.sm (by simp)) (XiU k.nb k.sm (by simp)),fun e he => ?_,fun e he => ?_⟩
 ·rw [List.map_append];refine List.nodup_append.2 ⟨h.nodup,by simp,fun a q b r e => ?_⟩;have:b=n:=by simpa using r
  exact hn (this▸e▸q)
 ·rw [Xcc];have:=Xcn.1 i;rw [if_neg this];refine List.nodup_append.2 ⟨v,by simp,fun a q b r e => ?_⟩;have u:b=(n:Int):=by simpa using r
  exact this (u▸e▸q)
 ·rw [XcD,i];simp [x]
 ·rw [Xco];rcases List.mem_append.1 he with he | he
  ·have d:e.1≠n:=fun e'=>hn (List.mem_map.2 ⟨e,he,e'⟩);rw [if_neg (by omega),o e he];exact y e he
  ·have:e=(n,p):=by simpa using he
   subst this;rw [if_pos rfl,f]
 ·rw [Xco,if_neg (fun e=>(t (n,p) (by simp)) e.symm)];exact s j fun e he=>t e (List.mem_append_left _ he)
 ·rcases List.mem_append.1 he with he | he
  ·rw [o e he];have kp:=(h.pages e he).kds;exact (h.pages e he).chg hc (XiU kp.p k.sm (by simp)) (XiU kp.bb k.sm (by simp)) (h.sep e he).1 l
  ·have:e=(n,p):=by simpa using he
   subst this;show Xa3 w' (XoF G n g n) p
   rw [f];exact hg.chg hc (XiU kg.p k.sm (by simp)) (XiU kg.bb k.sm (by simp)) hsm l
 ·have gl:∀ e ∈ pg ++ [(n,p)],(e ∈ pg∧XoF G n g e.1=G e.1)∨(e.1=n∧XoF G n g e.1=g):=fun e he=>by
   rcases List.mem_append.1 he with he | he
   ·exact .inl ⟨he,o e he⟩
   ·have:e=(n,p):=by simpa using he
    subst this;exact .inr ⟨rfl,f⟩
  rcases gl e he with ⟨he,e1⟩ | ⟨en,e1⟩
  ·rw [e1];refine ⟨(h.sep e he).1,fun e' c d => ?_⟩;rcases gl e' c with ⟨c,e2⟩ | ⟨_,e2⟩
   ·rw [e2]; exact (h.sep e he).2 e' c d
   ·rw [e2]; exact hd e he
  ·rw [e1];refine ⟨hsm,fun e' c d => ?_⟩;rcases gl e' c with ⟨c,e2⟩ | ⟨en',e2⟩
   ·rw [e2]; exact ⟨(hd e' c).1.symm,(hd e' c).2.symm⟩
   ·exact absurd (en.trans en'.symm) d
theorem Xbt.foot_lt (h:Xbt w S G cls blocks pg opn used):∀ z,Xrb S G pg z→z<w.heap.size:=fun z a=>by
 have k:=h.kds;rcases a with rfl | rfl | (rfl | rfl) | ⟨e,b,a⟩
 ·exact XiR k.sb
 ·exact XiR k.sm
 ·exact XiR k.ab
 ·exact XiR k.nb
 ·exact (h.pages e b).footlt z a
theorem Xbt.look (h:Xbt w S G cls blocks pg opn used) (n:Int):∃ m,XaL w S.sm m∧Xj6 m (.pointer none) n false=(match Xsi pg n with | some _=>pgV (G n.toNat) | none => .pointer none):=by
 obtain ⟨m,hm,e,f,b,c⟩:=h.map;refine ⟨m,hm,?_⟩;unfold Xj6;cases a:Xsi pg n with
 |none=>rw [c n (Xsl a)]; rfl
 |some p =>
  obtain ⟨k,rfl,d⟩:=Xsp a;rw [b _ d]; rfl
end
theorem XlW:∀ (N:Nat) (l:List Nat),l.Nodup→(∀ n ∈ l,n<N)→l.length≤N
 |0,l,_,h=>by
  cases l with
  |nil=>exact Nat.le_refl _
  |cons a r=>exact absurd (h a (by simp)) (Nat.not_lt_zero _)
 |N+1,l,b,h=>by
  have ih:=XlW N (l.erase N) (b.erase N) (fun n hm=>by
   obtain ⟨d,c⟩:=(b.mem_erase_iff).1 hm;have:=h n c;omega)
  by_cases hm:N ∈ l
  ·rw [List.length_erase_of_mem hm] at ih; omega
  ·rw [List.erase_of_not_mem hm] at ih; omega
theorem XfU:∀ {m m':AL},(m.map fun p=>((Value.int .i64 p.1,p.2):Value × Value))=m'.map (fun p=>(Value.int .i64 p.1,p.2))→m=m'
 |[],[],_=>rfl
 |[],_::_,h=>by cases h
 |_::_,[],h=>by cases h
 |(a,v)::r,(b,u)::t,h=>by
  simp only [List.map_cons,List.cons.injEq,Prod.mk.injEq,Value.int.injEq,true_and] at h;obtain ⟨⟨rfl,rfl⟩,h⟩:=h;rw [XfU h]
theorem XaL.uniq {w:World} {r:Nat} {m m':AL} (h:XaL w r m) (h':XaL w r m'):m=m':=by
 obtain ⟨es,c,e,a⟩:=h;obtain ⟨es',c',b,d⟩:=h';rw [e] at b;cases b
 unfold Xar at a d;exact XfU (a.symm.trans d)
theorem Sm.Ok.few {x:Sm} (h:x.Ok):x.pg.length≤1024∧x.opn.length≤1024∧Xsx x.pg≤524288:=by
 have a:=XlW _ _ h.nodup (fun n c=>by obtain ⟨e,d,rfl⟩:=List.mem_map.1 c; exact (h.each e d).1);rw [List.length_map] at a;have f:=XlW 1024 x.opn h.onodup (fun n c=>by obtain ⟨p,g⟩:=h.osub n c; exact (h.each _ g).1);have i:=XsA (l:=x.pg) (b:=x.blocks) (fun e d=>(h.each e d).2.1);have j:=Nat.mul_le_mul a h.blk.2;exact ⟨a,f,by omega⟩
theorem Xa9.kds {w:World} {P:Pl} {x:PlM} (h:Xa9 w P x):kd w P.pb=some (some 262)∧kd w P.ab=some (some 319):=by
 obtain ⟨head,f,a,b,_⟩:=h.at';exact ⟨XiO a,XiO b⟩
def Xcd (S:Sh) (G:Nat→Pg) (pg:PgL):Nat→Prop:=fun z=>Xrb S G pg z∨XnN S.P z
section
variable {w w':World} {S:Sh} {G:Nat→Pg} {cls:Int} {blocks:Nat} {pg:PgL} {opn:List Nat} {used:Int} {pl:PlM}
theorem Xbt.notpool (h:Xbt w S G cls blocks pg opn used) (hp:Xa9 w S.P pl):¬ Xrb S G pg S.P.pb ∧ ¬ Xrb S G pg S.P.ab:=by
 obtain ⟨f,g⟩:=hp.kds;have a:=h.apart f (by decide);have b:=h.apart g (by decide);constructor
 ·rintro (e | e | e | ⟨e,c,d⟩)
  ·exact a.1.1 e
  ·exact a.1.2.1 e
  ·exact a.1.2.2.2 e
  ·exact (a.2 e c).2 d
 ·rintro (e | e | e | ⟨e,c,d⟩)
  ·exact b.1.1 e
  ·exact b.1.2.1 e
  ·exact b.1.2.2.2 e
  ·exact (b.2 e c).2 d
theorem Xa9.far {S':Nat→Prop} (h:Xbt w S G cls blocks pg opn used) (hp:Xa9 w S.P pl) (hc:Chg S' w w') (hs:∀ z,S' z→Xrb S G pg z):Xa9 w' S.P pl:=by
 obtain ⟨a,b⟩:=h.notpool hp;exact hp.chg hc (fun c=>a (hs _ c)) (fun c=>b (hs _ c))
theorem Xur (ht:XbD w) (hp:Xa9 w S.P pl):¬ XnN S.P 1:=fun c=>by
 obtain ⟨head,f,a,b,_⟩:=hp.at';have d:=hp.good.len;rcases c with e | e
 ·exact Xup ht (fun v e=>by rw [Xel a] at e; simp [plL] at e) e
 ·exact Xup ht (fun v e=>by rw [XiI b (j:=0) (k:=0) rfl (by omega)] at e; cases e) e
theorem Xbt.pool (h:Xbt w S G cls blocks pg opn used) (hp:Xa9 w S.P pl) (hc:Chg (XnN S.P) w w'):Xbt w' S G cls blocks pg opn used:=by
 obtain ⟨d,e⟩:=hp.kds;have b:=h.apart d (by decide);have c:=h.apart e (by decide);refine h.chg hc (fun z a => ?_) (fun z a => ?_) (Xur h.tab hp)
 ·rcases a with rfl | rfl
  ·exact b.1
  ·exact c.1
 ·rcases a with rfl | rfl
  ·exact b.2
  ·exact c.2
end
structure Xbv (w:World) (S:Sh) (G:Nat→Pg) (x:Sm) (pl:PlM):Prop where
 ok:x.Ok
 pos:x.Pos
 of:x.Of pl
 at':Xbt w S G x.cls x.blocks x.pg x.opn (Xsx x.pg:Nat)
 pool:Xa9 w S.P pl
theorem Xbv.grow {w w':World} {S:Sh} {G:Nat→Pg} {x:Sm} {pl:PlM} (h:Xbv w S G x pl) (hc:Chg XaX w w'):Xbv w' S G x pl:=⟨h.ok,h.pos,h.of,h.at'.grow hc,h.pool.grow hc⟩
theorem XgV {x:Sm} {pl:PlM} (hok:x.Ok) (hof:x.Of pl) (hg:pl.Good) {n:Nat} (hn:n ∈ pl.free):n ∉ x.pg.map (·.1):=fun hm=>by
 obtain ⟨e,a,rfl⟩:=List.mem_map.1 hm;have b:=(hof e a).2;have c:=(hg.free _ hn).2;have:=hok.cls;omega
theorem XrN (S:Sh) (G:Nat→Pg) (x:Sm) (pl:PlM) (w:World) (h:Xbv w S G x pl) (hf:pl.free = []):Xan Tryz.prog 298 #[sfV S] w (fun v w'=>v = .tuple #[.int .i64 0,.int .i64 5]∧Xbv w' S G x pl∧Chg (XnN S.P) w w'):=by
 have s:=h.ok.cls;have eE:XnX pl x.cls=5:=by unfold XnX; rw [if_neg (by omega),hf]; rfl
 have eN:XnY pl x.cls=0:=by unfold XnY; rw [eE]; rfl
 have eT:XnW pl x.cls=pl:=by unfold XnW; rw [eE]; rfl
 refine Xan.enter Tryz.func298 rfl Tryz.ntmps298 rfl rfl ?_;refine ζa rfl ?_;refine Xay.drawn (q:=14) (XnN S.P) hTT Xk3 (by kernel_rfl) rfl ?_;intro b;have t:¬ XnN S.P S.sb:=fun m=>by
  obtain ⟨n,o⟩:=h.pool.kds;rcases m with e | e
  ·exact XiU h.at'.kds.sb n (by decide) e
  ·exact XiU h.at'.kds.sb o (by decide) e
 refine Xaq.loadb hTT b rfl h.at'.obj (by first | exact fun h=>h | (intro h; omega) | assumption) rfl rfl ?_;refine Xaq.loadb hTT b rfl h.at'.obj (by first | exact fun h=>h | (intro h; omega) | assumption) rfl rfl ?_;refine Xaq.turn1 b rfl ?_;intro g a;have i:=Xoj S.P pl x.cls g (h.pool.grow a);rw [eE,eN,eT] at i;have j:Chg (XnN S.P) w g:=a.mono fun _ _ h=>h.elim;refine XbO.call rfl i.fn (Post:=fun v d=>v = .tuple #[.int .i64 0,.int .i64 5]∧Xa9 d S.P pl∧Chg (XnN S.P) g d) (fun p=>i.mono fun v d k=>⟨p.trans k.2.2,k⟩) ?_;rintro _ d _ ⟨rfl,l,f⟩;refine Xaq.adv hTT b rfl ?_;refine Xaq.nil b ?_;intro u c;refine ζa rfl ?_;refine Xay.yes hTT rfl rfl rfl ?_;have r:=(h.at'.grow a).pool (h.pool.grow a) f;exact Xay.ret2 hTT rfl Tryz.func298 rfl rfl rfl ⟨rfl,⟨h.ok,h.pos,h.of,r.grow c,l.grow c⟩,(j.trans f).trans (c.mono fun _ _ h=>h.elim)⟩
theorem XrM (S:Sh) (G:Nat→Pg) (x:Sm) (pl:PlM) (n:Nat) (r:List Nat) (w:World) (h:Xbv w S G x pl) (hf:pl.free=n::r) (hn4:n<1024):Xan Tryz.prog 298 #[sfV S] w (fun v w'=>v = .tuple #[.int .i64 n,.int .i64 0] ∧ ∃ g,(w.heap.size≤g.p∧w.heap.size≤g.bb∧w.heap.size≤g.mb)∧Xbt w' S (XoF G n g) x.cls x.blocks (x.fresh n).pg (x.fresh n).opn (Xsx x.pg:Nat)∧Xa9 w' S.P (pl.take x.cls)∧Chg (Xcd S G x.pg) w w'):=by
 have ag:=h.ok.cls;have eE:XnX pl x.cls=0:=by unfold XnX; rw [if_neg (by omega),hf]; rfl
 have eN:XnY pl x.cls=n:=by unfold XnY; rw [if_pos eE,hf]; rfl
 have eT:XnW pl x.cls=pl.take x.cls:=by unfold XnW; rw [if_pos eE]
 have o:=XgV h.ok h.of h.pool.good (n:=n) (by rw [hf]; simp);have I:n ∉ x.opn:=fun hm=>by obtain ⟨p,D⟩:=h.ok.osub n hm; exact o (List.mem_map.2 ⟨_,D,rfl⟩)
 have J:=h.ok.blk;refine Xan.enter Tryz.func298 rfl Tryz.ntmps298 rfl rfl ?_;refine ζa rfl ?_;refine Xay.drawn (q:=14) (XnN S.P) hTT Xk3 (by kernel_rfl) rfl ?_;intro a;have ho:¬ XnN S.P S.sb:=fun hz=>by
  obtain ⟨k1,k2⟩:=h.pool.kds;rcases hz with e | e
  ·exact XiU h.at'.kds.sb k1 (by decide) e
  ·exact XiU h.at'.kds.sb k2 (by decide) e
 refine Xaq.loadb hTT a rfl h.at'.obj (by first | exact fun h=>h | (intro h; omega) | assumption) rfl rfl ?_;refine Xaq.loadb hTT a rfl h.at'.obj (by first | exact fun h=>h | (intro h; omega) | assumption) rfl rfl ?_;refine Xaq.turn1 a rfl ?_;intro E d;have F:=Xoj S.P pl x.cls E (h.pool.grow d);rw [eE,eN,eT] at F;have K:Chg (XnN S.P) w E:=d.mono fun _ _ h=>h.elim;refine XbO.call rfl F.fn (Post:=fun v c=>v = .tuple #[.int .i64 n,.int .i64 0]∧Xa9 c S.P (pl.take x.cls)∧Chg (XnN S.P) E c) (fun h0=>F.mono fun v c D=>⟨h0.trans D.2.2,D⟩) ?_;rintro _ c _ ⟨rfl,L,s⟩;refine Xaq.adv hTT a rfl ?_;refine Xaq.nil a ?_;intro f j;refine ζa rfl ?_;refine Xay.no hTT rfl rfl rfl ?_;have M:=(h.at'.grow d).pool (h.pool.grow d) s;have b:=M.grow j;have N:=L.grow j;have ah:w.heap.size≤f.heap.size:=by have:=d.size; have:=s.size; have:=j.size; omega
 have ai:¬ (S.sb=S.sm):=XiU b.kds.sb b.kds.sm (by simp);refine Xay.drawn (q:=15) (fun z=>z=S.sm) hTT Xk3 (by kernel_rfl) rfl ?_;intro a;refine Xaq.loadb hTT a rfl b.obj (by first | exact fun h=>h | (intro h; omega) | assumption) rfl rfl ?_;refine Xaq.loadb hTT a rfl b.obj (by first | exact fun h=>h | (intro h; omega) | assumption) rfl rfl ?_;have O:∀ w',Chg XaX f w'→Xan Tryz.prog 216 #[.int .i64 x.blocks] w' (fun v c=>Chg (fun z=>z=S.sm) w' c∧Chg XaX f c ∧ ∃ g,v = .tuple #[pgV g,.int .i64 0]∧(f.heap.size≤g.p∧f.heap.size≤g.bb∧f.heap.size≤g.mb)∧Xa3 c g (List.replicate x.blocks (-1))):=fun w' i =>
  (XmM x.blocks w' (b.grow i).tab J).mono fun v c ⟨g,h1,⟨b1,b2,b3⟩,h3,P⟩=>⟨P.mono fun _ _ h=>h.elim,i.trans P,g,h1,⟨by have:=i.size; omega,by have:=i.size; omega,by have:=i.size; omega⟩,h3⟩
 refine Xaq.callQ a rfl rfl (O) ?_;rintro _ w4 _ ⟨t,g,rfl,hb,hg⟩;refine Xaq.adv hTT a rfl ?_;refine Xaq.turn1 a rfl ?_;intro Q k;have u:=b.grow (t.trans k);obtain ⟨m,hm,aj⟩:=u.map;refine XbO.mapset hTT a rfl (hm) (by first | (intro h; exact rfl) | (intro h; omega)) rfl ?_;intro w6 R y ak;refine Xaq.nil a ?_;intro H A;refine ζa rfl ?_;have B:=b.foot_lt;have T:Xbt w6 S (XoF G n g) x.cls x.blocks (x.fresh n).pg x.opn (Xsx x.pg:Nat):=u.add o (hg.grow k) (fun e=>by have:=B S.sm (.inr (.inl rfl)); omega) (fun e U=>⟨fun e'=>by have:=B _ (.inr (.inr (.inr ⟨e,U,.inl rfl⟩))); omega,fun e'=>by have:=B _ (.inr (.inr (.inr ⟨e,U,.inr rfl⟩))); omega⟩) (fun m' h'=>by
  rw [h'.uniq hm];exact R) y
 have l:=T.grow A;refine Xay.loadb hTT rfl l.obj rfl rfl ?_;refine ζc rfl (Xpo S.R x.opn n H l.ring hn4 I (by have:=h.ok.few; omega)) ?_;rintro _ w8 ⟨rfl,V,C⟩;refine ζa rfl ?_;have W:=l.setRing V C;have a0:=((Xa9.far u (N.grow (t.trans k)) y (fun z e => .inr (.inl e))).grow A);have a1:=Xa9.far l a0 C (fun z e => .inr (.inr (.inl e)));have c1:Chg (Xcd S G x.pg) w f:=((K.trans s).trans (j.mono fun _ _ h=>h.elim)).mono fun z _ h => .inr h;have c2:Chg (Xcd S G x.pg) f Q:=(t.trans k).mono fun _ _ h=>h.elim;have c3:Chg (Xcd S G x.pg) Q H:=(y.mono fun z _ e => .inl (.inr (.inl e))).trans (A.mono fun _ _ h=>h.elim);have c4:Chg (Xcd S G x.pg) H w8:=C.mono fun z _ e => .inl (.inr (.inr (.inl e)));exact Xay.ret2 hTT rfl Tryz.func298 rfl rfl rfl ⟨rfl,g,⟨by omega,by omega,by omega⟩,W,a1,((c1.trans c2).trans c3).trans c4⟩
def Xrl (x:Sm) (pl:PlM):Nat:=match x.opn with
 |n::_=>n
 |[]=>pl.free.headD 0
def Xrq (x:Sm) (pl:PlM):Sm:=match x.opn with
 |_::_=>x
 |[]=>x.fresh (pl.free.headD 0)
def Xrm (x:Sm) (pl:PlM):PlM:=match x.opn with
 |_::_=>pl
 |[]=>pl.take x.cls
def shP (x:Sm) (pl:PlM):List Int:=(Xsi (Xrq x pl).pg (Xrl x pl)).getD []
def Xrt (x:Sm) (pl:PlM) (who:Int):Int:=if who<0 then 1 else if x.opn.length=0∧pl.free.length=0 then 5 else 0
def Xru (x:Sm) (pl:PlM) (who:Int):Int:=if Xrt x pl who=0 then (Xrl x pl:Int) else 0
def Xrs (x:Sm) (pl:PlM) (who:Int):Int:=if Xrt x pl who=0 then Xni (shP x pl) else 0
def Xrr (x:Sm) (pl:PlM) (who:Int):Sm:=if Xrt x pl who=0 then (Xrq x pl).takeAt (Xrl x pl) (shP x pl) who else x
def Xrv (x:Sm) (pl:PlM) (who:Int):PlM:=if Xrt x pl who=0 then Xrm x pl else pl
theorem XgO {S:Sh} {G:Nat→Pg} {pg:PgL} {n:Nat} {p:List Int}:∀ z,Xrb S G (Xsr pg n p) z→Xrb S G pg z:=fun z h=>by
 rcases h with h | h | h | ⟨e,a,b⟩
 ·exact .inl h
 ·exact .inr (.inl h)
 ·exact .inr (.inr (.inl h))
 ·rcases XkS a with ⟨rfl,q,c⟩ | ⟨_,a⟩
  ·exact .inr (.inr (.inr ⟨_,c,b⟩))
  ·exact .inr (.inr (.inr ⟨e,a,b⟩))
theorem XgL {S:Sh} {G:Nat→Pg} {pg:PgL} {n:Nat}:∀ z,Xrb S G (Xse pg n) z→Xrb S G pg z:=fun z h=>by
 rcases h with h | h | h | ⟨e,a,b⟩
 ·exact .inl h
 ·exact .inr (.inl h)
 ·exact .inr (.inr (.inl h))
 ·exact .inr (.inr (.inr ⟨e,(XkR.1 a).2,b⟩))
theorem XgN {S:Sh} {G:Nat→Pg} {pg:PgL} {n:Nat} {g:Pg} {p:List Int} {b:Nat} (hn:n ∉ pg.map (·.1)) (hg:b≤g.bb∧b≤g.mb):∀ z,Xrb S (XoF G n g) (pg ++ [(n,p)]) z→Xrb S G pg z∨b≤z:=fun z h=>by
 rcases h with h | h | h | ⟨e,he,a⟩
 ·exact .inl (.inl h)
 ·exact .inl (.inr (.inl h))
 ·exact .inl (.inr (.inr (.inl h)))
 ·rcases List.mem_append.1 he with he | he
  ·have:XoF G n g e.1=G e.1:=if_neg (fun e'=>hn (List.mem_map.2 ⟨e,he,e'⟩));rw [this] at a;exact .inl (.inr (.inr (.inr ⟨e,he,a⟩)))
  ·have:e=(n,p):=by simpa using he
   subst this;have:XoF G n g n=g:=if_pos rfl;rw [this] at a;rcases a with rfl | rfl
   ·exact .inr hg.1
   ·exact .inr hg.2
theorem Sm.Of.set {x x':Sm} {pl:PlM} (h:x.Of pl) (hc:x'.cls=x.cls) (hs:∀ e ∈ x'.pg,∃ q,(e.1,q) ∈ x.pg):x'.Of pl:=fun e a=>by
 obtain ⟨q,b⟩:=hs e a;rw [hc];exact h (e.1,q) b
theorem Xsv {pg:PgL} {n:Nat} {p:List Int} {e:Nat × List Int} (h:e ∈ Xsr pg n p):∃ q,(e.1,q) ∈ pg:=by
 rcases XkS h with ⟨rfl,q,a⟩ | ⟨_,b⟩
 ·exact ⟨q,a⟩
 ·exact ⟨e.2,b⟩
theorem Sm.Of.fresh {x:Sm} {pl:PlM} (h:x.Of pl) (hg:pl.Good) {n:Nat} {r:List Nat} (hf:pl.free=n::r):(x.fresh n).Of (pl.take x.cls):=by
 have e:pl.take x.cls=⟨pl.own.set n x.cls,r⟩:=by unfold PlM.take; rw [hf]
 obtain ⟨a,b⟩:=hg.free n (by rw [hf]; simp);rw [e];intro u hu;show u.1<(pl.own.set n x.cls).length∧(pl.own.set n x.cls).getD u.1 0=x.cls
 rw [List.length_set,Xha];rcases List.mem_append.1 hu with hu | hu
 ·refine ⟨(h u hu).1,?_⟩;split
  ·rfl
  ·exact (h u hu).2
 ·have:u=(n,List.replicate x.blocks (-1)):=by simpa using hu
  subst this;exact ⟨a,if_pos ⟨rfl,a⟩⟩
theorem Xgi {n:Nat} {r:List Nat} (h:(n::r).Nodup):(n::r).filter (fun m=>m != n)=r:=by
 obtain ⟨a,_⟩:=List.nodup_cons.1 h;rw [List.filter_cons];simp only [bne_self_eq_false,Bool.false_eq_true,if_false];refine List.filter_eq_self.2 fun m hm => ?_;simp only [bne_iff_ne,ne_eq];exact fun e=>a (e▸hm)
theorem XrL (who:Int) (w:World):Xan Tryz.prog 257 #[.pointer none,.int .i64 who] w (Xbs (.tuple #[.int .i64 0,.int .i64 0,.int .i64 1]) w):=by
 exact ζe Tryz.func257 Tryz.ntmps257 rfl (ζq rfl Tryz.func257 (Xbd.tmp rfl (.tmp rfl (.tmp rfl .nil))) ⟨rfl,rfl⟩)
theorem XrK (S:Sh) (G:Nat→Pg) (x:Sm) (pl:PlM) (who:Int) (w:World) (h:Xbv w S G x pl):Xan Tryz.prog 257 #[sfV S,.int .i64 who] w
 (fun v w'=>v = .tuple #[.int .i64 (Xru x pl who),.int .i64 (Xrs x pl who),.int .i64 (Xrt x pl who)] ∧ ∃ G',Xbv w' S G' (Xrr x pl who) (Xrv x pl who)∧Chg (Xcd S G x.pg) w w' ∧ ∀ z,Xrb S G' (Xrr x pl who).pg z→Xrb S G x.pg z∨w.heap.size≤z):=by
 have eN:∀ e,Xrt x pl who=e→e≠0→Xru x pl who=0∧Xrs x pl who=0∧Xrr x pl who=x∧Xrv x pl who=pl:=fun e h1 h2=>by
  unfold Xru Xrs Xrr Xrv; rw [h1,if_neg h2,if_neg h2,if_neg h2,if_neg h2]; exact ⟨rfl,rfl,rfl,rfl⟩
 refine ζe Tryz.func257 Tryz.ntmps257 rfl (ζg rfl (fun g1 => ?_) fun g1 => ?_)
 ·have k1:=of_decide_eq_true g1;have e1:Xrt x pl who=1:=by unfold Xrt; rw [if_pos k1]
  obtain ⟨a,b,c,d⟩:=eN 1 e1 (by decide);rw [a,b,c,d,e1];exact ζq rfl Tryz.func257 (Xbd.tmp rfl (.tmp rfl (.tmp rfl .nil))) ⟨rfl,G,h,Chg.refl _ _,fun z k => .inl k⟩
 have R:0≤who:=by have:=of_decide_eq_false g1; omega
 refine ζl h.at'.obj rfl (ζw (Xpk S.R x.opn w h.at'.ring) rfl ?_);obtain ⟨f,E⟩:∃ f,f=Xrq x pl:=⟨_,rfl⟩;obtain ⟨u,H⟩:∃ u,u=Xrm x pl:=⟨_,rfl⟩;cases F:x.opn with
 |nil =>
  refine ζy rfl ?_;cases hf:pl.free with
  |nil =>
   have e1:Xrt x pl who=5:=by unfold Xrt; rw [if_neg (by omega),if_pos (by rw [F,hf]; exact ⟨rfl,rfl⟩)]
   obtain ⟨a,b,c,d⟩:=eN 5 e1 (by decide);rw [a,b,c,d,e1];refine ζc rfl (XrN S G x pl w h hf) ?_;rintro _ w1 ⟨rfl,h1,b3⟩;exact ζa rfl (ζy rfl (ζq rfl Tryz.func257 (Xbd.tmp rfl (.tmp rfl (.tmp rfl .nil))) ⟨rfl,G,h1,b3.mono fun z _ h => .inr h,fun z k => .inl k⟩))
  |cons n r0 =>
   have au:n<1024:=by have:=(h.pool.good.free n (by rw [hf]; simp)).1; have:=h.pool.good.len; omega
   have e1:Xrt x pl who=0:=by unfold Xrt; rw [if_neg (by omega),if_neg (by rw [hf]; simp)]
   have aa:=XgV h.ok h.of h.pool.good (n:=n) (by rw [hf]; simp);have i:f=x.fresh n:=by rw [E]; unfold Xrq; rw [F,hf]; rfl
   have I:u=pl.take x.cls:=by rw [H]; unfold Xrm; rw [F]
   have J:Xrl x pl=n:=by unfold Xrl; rw [F,hf]; rfl
   refine ζc rfl (XrM S G x pl n r0 w h hf au) ?_;rintro _ W ⟨rfl,g,av,y,hP,ab⟩;refine ζa rfl (ζf rfl ?_);have j:f.Ok:=by rw [i]; exact h.ok.fresh au aa
   have a7:f.Of u:=by rw [i,I]; exact h.of.fresh h.pool.good hf
   obtain ⟨p,ac⟩:∃ p,p=List.replicate x.blocks (-1:Int):=⟨_,rfl⟩;have o:(n,p) ∈ f.pg:=by rw [i,ac]; exact List.mem_append_right _ (by simp)
   have a8:p.length=f.blocks:=by rw [i,ac]; exact List.length_replicate
   have bc:Xnz p=0:=by rw [ac]; exact XnC _
   have l:f.opn=n :: []:=by rw [i]; show n::x.opn=_; rw [F]
   obtain ⟨r,b4⟩:∃ r:List Nat,r = []:=⟨_,rfl⟩;rw [← b4] at l;have bd:=h.ok.blk;have b5:f.blocks=x.blocks:=by rw [i]; rfl
   obtain ⟨eE,eU⟩:=Xnw (p:=p) R (by omega);have eA:Xnt p who=Xni p:=by unfold Xnt; rw [if_pos eE]
   have a1:shP x pl=p:=by unfold shP; rw [← E,J,Xsm j.nodup o]; rfl
   have V:∀ e:Nat × List Int,e.1≠n→e ∈ f.pg→0<Xnz e.2:=fun e T he=>by
    rw [i] at he;rcases List.mem_append.1 he with he | he
    ·exact h.pos e he
    ·have:e=(n,List.replicate x.blocks (-1)):=by simpa using he
     rw [this] at T; exact absurd rfl T
   have r1:Xru x pl who=n:=by unfold Xru; rw [if_pos e1,J]
   have r2:Xrs x pl who=Xni p:=by unfold Xrs; rw [if_pos e1,a1]
   have r3:Xrr x pl who=f.takeAt n p who:=by unfold Xrr; rw [if_pos e1,a1,J,← E]
   have r4:Xrv x pl who=u:=by unfold Xrv; rw [if_pos e1,← H]
   rw [r1,r2,r3,r4,e1];rw [← I] at hP;obtain ⟨s,U⟩:∃ s,s=XoF G n g:=⟨_,rfl⟩;rw [← U,show x.cls=f.cls from by rw [i]; rfl,show x.blocks=f.blocks from b5.symm,show (x.fresh n).pg=f.pg from by rw [i],show (x.fresh n).opn=f.opn from by rw [i],show ((Xsx x.pg:Nat):Int)=(Xsx f.pg:Nat) from by
    rw [i]; show ((Xsx x.pg:Nat):Int)=(Xsx (x.pg ++ [(n,List.replicate x.blocks (-1))]):Nat); rw [Xsy,XnC]; rfl] at y
   have t:∀ z,Xrb S s f.pg z→Xrb S G x.pg z∨w.heap.size≤z:=by rw [U,i]; exact XgN aa ⟨av.2.1,av.2.2⟩
   have A:∀ z,z<w.heap.size→Xrb S s f.pg z→Xcd S G x.pg z:=fun z k h=>by
    rcases t z h with h | h
    ·exact .inl h
    ·omega
   refine ζl y.obj rfl ?_;obtain ⟨ma,ad,a2⟩:=y.look n;rw [Xsm j.nodup o] at a2;refine Xay.lookup hTT rfl (ad) (a2) rfl ?_;have hd:=XmR (s n) p who W (y.pages _ o);rw [eE,eA] at hd;refine ζc rfl (hd) ?_;rintro _ wa ⟨rfl,af,K⟩;refine ζa rfl ?_;have C:=y.page o af K;have ag:=Xa9.far y hP K (fun z h => .inr (.inr (.inr ⟨_,o,h⟩)));refine ζl C.obj rfl (ζJ rfl (by have:=j.few; omega) (ζs C.obj rfl fun wb ah L b6 => ?_));have D:=C.setUsed ah L;have ai:=Xa9.far C ag L (fun z h => .inl h);have a3:(n,Xns p who) ∈ Xsr f.pg n (Xns p who):=List.mem_map.2 ⟨(n,p),o,if_pos rfl⟩;refine ζl D.obj rfl ?_;obtain ⟨mb,aj,a4⟩:=D.look n;rw [Xsm (by rw [Xss]; exact j.nodup) a3] at a4;refine Xay.lookup hTT rfl (aj) (a4) rfl (ζv (XmJ (s n) (Xns p who) wb (D.pages _ a3)) rfl fun wc M => ?_);have q:=D.grow M;have a5:=ai.grow M;have a6:=((ab.since K (fun z k h=>A z k (.inr (.inr (.inr ⟨_,o,h⟩))))).since L (fun z k h=>A z k (.inl h))).trans (M.mono fun _ _ h=>h.elim);have ak:((Xsx (Xsr f.pg n (Xns p who)):Nat):Int)=(Xsx f.pg:Nat)+1:=by have:=XsB (p:=Xns p who) j.nodup o; omega
   rw [← ak] at q;have N:(f.takeAt n p who).Pos:=fun e he=>by
    rcases XkS he with ⟨rfl,_⟩ | ⟨T,he⟩
    ·show 0<Xnz (Xns p who); omega
    ·exact V e T he
   have O:(f.takeAt n p who).Of u:=a7.set rfl (fun e he=>Xsv he);have a0:((Xnz (Xns p who):Int) == (Xns p who).length)=decide (Xnz (Xns p who)=f.blocks):=by rw [Xnv,a8]; exact Bool.eq_iff_iff.2 (by simp only [beq_iff_eq,decide_eq_true_eq]; omega)
   rw [a0];refine ζg rfl (fun B => ?_) fun B => ?_
   ·have gful:=of_decide_eq_true B;refine ζl q.obj rfl ?_;have hr:=q.ring;rw [l] at hr;refine ζc rfl (Xpj S.R [] r n wc hr (by have:=j.few; have e:=congrArg List.length l; simp only [List.length_cons,List.nil_append] at e ⊢; omega)) ?_;rintro _ wd ⟨rfl,am,P⟩;refine ζa rfl ?_;have an:=q.setRing am P;have ao:=Xa9.far q a5 P (fun z h => .inr (.inr (.inl h)));have Q:(f.takeAt n p who).opn=r:=by
     show (if Xnz (Xns p who)=f.blocks then f.opn.filter (fun m=>m != n) else f.opn)=r
     rw [if_pos gful,l];exact Xgi (l▸j.onodup)
    exact ζq rfl Tryz.func257 (Xbd.tmp rfl (.tmp rfl (.tmp rfl .nil))) ⟨rfl,s,⟨j.takeAt R o (by rw [l]; simp),N,O,by rw [Q]; exact an,ao⟩,a6.since P (fun z k h=>A z k (.inr (.inr (.inl h)))),fun z h=>t z (XgO z h)⟩
   ·have gful:=of_decide_eq_false B;have Q:(f.takeAt n p who).opn=f.opn:=by
     show (if Xnz (Xns p who)=f.blocks then f.opn.filter (fun m=>m != n) else f.opn)=_
     rw [if_neg gful]
    exact ζq rfl Tryz.func257 (Xbd.tmp rfl (.tmp rfl (.tmp rfl .nil))) ⟨rfl,s,⟨j.takeAt R o (by rw [l]; simp),N,O,by rw [Q]; exact q,a5⟩,a6,fun z h=>t z (XgO z h)⟩
 |cons n r =>
  have e1:Xrt x pl who=0:=by unfold Xrt; rw [if_neg (by omega),if_neg (by rw [F]; simp)]
  have i:f=x:=by rw [E]; unfold Xrq; rw [F]
  have I:u=pl:=by rw [H]; unfold Xrm; rw [F]
  have J:Xrl x pl=n:=by unfold Xrl; rw [F]
  have hn:=h.ok.osub n (by rw [F]; simp);refine ζF rfl (by show ((n:Int) == -1)=false; simp) ?_;obtain ⟨p,ap⟩:=hn;have j:f.Ok:=by rw [i]; exact h.ok
  have a7:f.Of u:=by rw [i,I]; exact h.of
  have o:(n,p) ∈ f.pg:=by rw [i]; exact ap
  have a8:p.length=f.blocks:=by rw [i]; exact (h.ok.each _ ap).2.1
  have l:f.opn=n::r:=by rw [i]; exact F
  have b7:Xnz p≠f.blocks:=by rw [i]; exact (h.ok.each _ ap).2.2.1 (by rw [F]; simp)
  obtain ⟨eE,eU⟩:=Xnw (p:=p) R (by rw [a8]; exact b7);have eA:Xnt p who=Xni p:=by unfold Xnt; rw [if_pos eE]
  have a1:shP x pl=p:=by unfold shP; rw [← E,J,Xsm j.nodup o]; rfl
  have V:∀ e:Nat × List Int,e.1≠n→e ∈ f.pg→0<Xnz e.2:=fun e _ he=>by rw [i] at he; exact h.pos e he
  have r1:Xru x pl who=n:=by unfold Xru; rw [if_pos e1,J]
  have r2:Xrs x pl who=Xni p:=by unfold Xrs; rw [if_pos e1,a1]
  have r3:Xrr x pl who=f.takeAt n p who:=by unfold Xrr; rw [if_pos e1,a1,J,← E]
  have r4:Xrv x pl who=u:=by unfold Xrv; rw [if_pos e1,← H]
  rw [r1,r2,r3,r4,e1];have y:=h.at';have hP:=h.pool;rw [← i] at y;rw [← I] at hP;obtain ⟨W,hW⟩:∃ W,W=w:=⟨_,rfl⟩;rw [← hW] at y hP;obtain ⟨s,U⟩:∃ s,s=G:=⟨_,rfl⟩;rw [← U] at y;have ab:Chg (Xcd S G x.pg) w W:=by rw [hW]; exact Chg.refl _ _
  have t:∀ z,Xrb S s f.pg z→Xrb S G x.pg z∨w.heap.size≤z:=fun z k => .inl (by rw [U,i] at k; exact k);have A:∀ z,z<w.heap.size→Xrb S s f.pg z→Xcd S G x.pg z:=fun z _ k => .inl (by rw [U,i] at k; exact k);have ar:∀ {X:World→Prop},X W→X w:=fun h=>hW▸h;refine ar (X:=fun w2=>Xay _ _ _ _ _ _ _ w2) (ζl y.obj rfl ?_);obtain ⟨ma,ad,a2⟩:=y.look n;rw [Xsm j.nodup o] at a2;refine Xay.lookup hTT rfl (ad) (a2) rfl ?_;have hd:=XmR (s n) p who W (y.pages _ o);rw [eE,eA] at hd;refine ζc rfl (hd) ?_;rintro _ wa ⟨rfl,af,K⟩;refine ζa rfl ?_;have C:=y.page o af K;have ag:=Xa9.far y hP K (fun z h => .inr (.inr (.inr ⟨_,o,h⟩)));refine ζl C.obj rfl (ζJ rfl (by have:=j.few; omega) (ζs C.obj rfl fun wb ah L b6 => ?_));have D:=C.setUsed ah L;have ai:=Xa9.far C ag L (fun z h => .inl h);have a3:(n,Xns p who) ∈ Xsr f.pg n (Xns p who):=List.mem_map.2 ⟨(n,p),o,if_pos rfl⟩;refine ζl D.obj rfl ?_;obtain ⟨mb,aj,a4⟩:=D.look n;rw [Xsm (by rw [Xss]; exact j.nodup) a3] at a4;refine Xay.lookup hTT rfl (aj) (a4) rfl (ζv (XmJ (s n) (Xns p who) wb (D.pages _ a3)) rfl fun wc M => ?_);have q:=D.grow M;have a5:=ai.grow M;have a6:=((ab.since K (fun z k h=>A z k (.inr (.inr (.inr ⟨_,o,h⟩))))).since L (fun z k h=>A z k (.inl h))).trans (M.mono fun _ _ h=>h.elim);have ak:((Xsx (Xsr f.pg n (Xns p who)):Nat):Int)=(Xsx f.pg:Nat)+1:=by have:=XsB (p:=Xns p who) j.nodup o; omega
  rw [← ak] at q;have N:(f.takeAt n p who).Pos:=fun e he=>by
   rcases XkS he with ⟨rfl,_⟩ | ⟨T,he⟩
   ·show 0<Xnz (Xns p who); omega
   ·exact V e T he
  have O:(f.takeAt n p who).Of u:=a7.set rfl (fun e he=>Xsv he);have a0:((Xnz (Xns p who):Int) == (Xns p who).length)=decide (Xnz (Xns p who)=f.blocks):=by rw [Xnv,a8]; exact Bool.eq_iff_iff.2 (by simp only [beq_iff_eq,decide_eq_true_eq]; omega)
  rw [a0];refine ζg rfl (fun B => ?_) fun B => ?_
  ·have gful:=of_decide_eq_true B;refine ζl q.obj rfl ?_;have hr:=q.ring;rw [l] at hr;refine ζc rfl (Xpj S.R [] r n wc hr (by have:=j.few; have e:=congrArg List.length l; simp only [List.length_cons,List.nil_append] at e ⊢; omega)) ?_;rintro _ wd ⟨rfl,am,P⟩;refine ζa rfl ?_;have an:=q.setRing am P;have ao:=Xa9.far q a5 P (fun z h => .inr (.inr (.inl h)));have Q:(f.takeAt n p who).opn=r:=by
    show (if Xnz (Xns p who)=f.blocks then f.opn.filter (fun m=>m != n) else f.opn)=r
    rw [if_pos gful,l];exact Xgi (l▸j.onodup)
   exact ζq rfl Tryz.func257 (Xbd.tmp rfl (.tmp rfl (.tmp rfl .nil))) ⟨rfl,s,⟨j.takeAt R o (by rw [l]; simp),N,O,by rw [Q]; exact an,ao⟩,a6.since P (fun z k h=>A z k (.inr (.inr (.inl h)))),fun z h=>t z (XgO z h)⟩
  ·have gful:=of_decide_eq_false B;have Q:(f.takeAt n p who).opn=f.opn:=by
    show (if Xnz (Xns p who)=f.blocks then f.opn.filter (fun m=>m != n) else f.opn)=_
    rw [if_neg gful]
   exact ζq rfl Tryz.func257 (Xbd.tmp rfl (.tmp rfl (.tmp rfl .nil))) ⟨rfl,s,⟨j.takeAt R o (by rw [l]; simp),N,O,by rw [Q]; exact q,a5⟩,a6,fun z h=>t z (XgO z h)⟩
def Xoy (G:Nat→Pg) (n:Int) (o:Option (List Int)):Value:=match o with
 |some _=>pgV (G n.toNat)
 |none => .pointer none
theorem XrO (S:Sh) (G:Nat→Pg) (x:Sm) (pl:PlM) (n:Int) (w:World) (h:Xbv w S G x pl):Xan Tryz.prog 264 #[sfV S,.int .i64 n] w (Xbs (Xoy G n (Xsi x.pg n)) w):=by
 obtain ⟨m,hm,a⟩:=h.at'.look n;exact ζe Tryz.func264 Tryz.ntmps264 rfl (ζl h.at'.obj rfl (Xay.lookup hTT rfl (hm) ((a.trans (show _=Xoy G n (Xsi x.pg n) from by unfold Xoy; cases Xsi x.pg n <;> rfl))) rfl (ζr Tryz.func264 rfl ⟨rfl,rfl⟩)))
theorem XrP (n:Int) (w:World):Xan Tryz.prog 264 #[.pointer none,.int .i64 n] w (Xbs (.pointer none) w):=by
 exact ζe Tryz.func264 Tryz.ntmps264 rfl (ζr Tryz.func264 rfl ⟨rfl,rfl⟩)
def Xrk (x:Sm) (n i:Int):Int:=match Xsi x.pg n with
 |some p=>Xnk p i
 |none => -1
theorem XrG (S:Sh) (G:Nat→Pg) (x:Sm) (pl:PlM) (n i:Int) (w:World) (h:Xbv w S G x pl):Xan Tryz.prog 255 #[sfV S,.int .i64 n,.int .i64 i] w (Xbs (.int .i64 (Xrk x n i)) w):=by
 unfold Xrk;refine ζe Tryz.func255 Tryz.ntmps255 rfl (ζw (XrO S G x pl n w h) rfl ?_);cases a:Xsi x.pg n with
 |none =>
  exact ζw (XmQ i w) rfl (ζr Tryz.func255 rfl ⟨rfl,rfl⟩)
 |some p =>
  obtain ⟨k,rfl,b⟩:=Xsp a;exact ζw (XmP (G k) p i w (h.at'.pages _ b)) rfl (ζr Tryz.func255 rfl ⟨rfl,rfl⟩)
theorem XrH (n i:Int) (w:World):Xan Tryz.prog 255 #[.pointer none,.int .i64 n,.int .i64 i] w (Xbs (.int .i64 (-1)) w):=by
 exact ζe Tryz.func255 Tryz.ntmps255 rfl (ζw (XrP n w) rfl (ζw (XmQ i w) rfl (ζr Tryz.func255 rfl ⟨rfl,rfl⟩)))
theorem XrC (S:Sh) (G:Nat→Pg) (x:Sm) (pl:PlM) (w:World) (h:Xbv w S G x pl):Xan Tryz.prog 210 #[sfV S] w (Xbs (.int .i64 (x.opn.length:Nat)) w):=by
 exact ζe Tryz.func210 Tryz.ntmps210 rfl (ζl h.at'.obj rfl (ζw (Xpm S.R x.opn w h.at'.ring) rfl (ζr Tryz.func210 rfl ⟨rfl,rfl⟩)))
theorem XrD (w:World):Xan Tryz.prog 210 #[.pointer none] w (Xbs (.int .i64 0) w):=by
 exact ζe Tryz.func210 Tryz.ntmps210 rfl (ζr Tryz.func210 rfl ⟨rfl,rfl⟩)
theorem Xsw {l:PgL} {n:Nat} {p:List Int} (hn:(l.map (·.1)).Nodup) (hp:(n,p) ∈ l):Xsr l n p=l:=by
 unfold Xsr
 conv=>rhs; rw [← List.map_id l]
 refine List.map_congr_left fun e b => ?_;by_cases h:e.1=n
 ·rw [if_pos h];have c:=Xsm hn hp;have a:=Xsm hn (show (e.1,e.2) ∈ l from b);rw [h,c] at a;cases a
  rw [← h];rfl
 ·rw [if_neg h]; rfl
def Xrj (x:Sm) (n i who:Int):Int:=match Xsi x.pg n with
 |some p=>Xnl p i who
 |none=>1
def Xri (x:Sm) (n i who:Int):Sm:=match Xsi x.pg n with
 |some p=>x.ownAt n.toNat p i who
 |none=>x
theorem XrE (S:Sh) (G:Nat→Pg) (x:Sm) (pl:PlM) (n i who:Int) (w:World) (h:Xbv w S G x pl):Xan Tryz.prog 220 #[sfV S,.int .i64 n,.int .i64 i,.int .i64 who] w
 (fun v w'=>v = .int .i64 (Xrj x n i who)∧Xbv w' S G (Xri x n i who) pl∧Chg (Xcd S G x.pg) w w' ∧ ∀ z,Xrb S G (Xri x n i who).pg z→Xrb S G x.pg z):=by
 unfold Xrj Xri;refine ζe Tryz.func220 Tryz.ntmps220 rfl (ζw (XrO S G x pl n w h) rfl ?_);cases g:Xsi x.pg n with
 |none =>
  exact ζw (XmO i who w) rfl (ζr Tryz.func220 rfl ⟨rfl,h,Chg.refl _ _,fun _ h=>h⟩)
 |some p =>
  obtain ⟨k,rfl,a⟩:=Xsp g;refine ζc rfl (XmN (G k) p i who w (h.at'.pages _ a)) ?_;rintro _ j ⟨rfl,l,c⟩;refine ζa rfl ?_;have m:=h.at'.page a l c;have f:=Xa9.far h.at' h.pool c (fun z e => .inr (.inr (.inr ⟨_,a,e⟩)));have o:Xsx (Xsr x.pg k (Xnm p i who))=Xsx x.pg:=by have:=XsB (p:=Xnm p i who) h.ok.nodup a; rw [Xnr] at this; omega
  have d:(x.ownAt k p i who).Pos:=fun e b=>by
   rcases XkS b with ⟨rfl,_⟩ | ⟨_,b⟩
   ·show 0<Xnz (Xnm p i who); rw [Xnr]; exact h.pos _ a
   ·exact h.pos e b
  exact ζr Tryz.func220 rfl ⟨rfl,⟨h.ok.ownAt a,d,h.of.set rfl (fun e b=>Xsv b),by show Xbt j S G x.cls x.blocks (Xsr x.pg k (Xnm p i who)) x.opn (Xsx (Xsr x.pg k (Xnm p i who)):Nat); rw [o]; exact m,f⟩,c.mono fun z _ e => .inl (.inr (.inr (.inr ⟨_,a,e⟩))),fun z e=>XgO z e⟩
theorem XrF (n i who:Int) (w:World):Xan Tryz.prog 220 #[.pointer none,.int .i64 n,.int .i64 i,.int .i64 who] w (Xbs (.int .i64 1) w):=by
 exact ζe Tryz.func220 Tryz.ntmps220 rfl (ζw (XrP n w) rfl (ζw (XmO i who w) rfl (ζr Tryz.func220 rfl ⟨rfl,rfl⟩)))
theorem Xgj {l1 l2:List Nat} {n:Nat} (h:(l1++n::l2).Nodup):(l1++n::l2).filter (fun m=>m != n)=l1++l2:=by
 obtain ⟨d,a,b⟩:=List.nodup_append.1 h;obtain ⟨c,f⟩:=List.nodup_cons.1 a;rw [List.filter_append,List.filter_cons];simp only [bne_self_eq_false,Bool.false_eq_true,if_false];rw [List.filter_eq_self.2 (fun m hm=>by simp only [bne_iff_ne,ne_eq]; exact fun e=>b m hm n (by simp) e),List.filter_eq_self.2 (fun m hm=>by simp only [bne_iff_ne,ne_eq]; exact fun e=>c (e▸hm))]
theorem XrQ (S:Sh) (G:Nat→Pg) (cls:Int) (blocks:Nat) (pg:PgL) (opn:List Nat) (used:Int) (pl:PlM) (n:Nat) (p:List Int) (full:Bool) (w:World) (hS:Xbt w S G cls blocks pg opn used) (hP:Xa9 w S.P pl) (hp:(n,p) ∈ pg) (hn4:n<1024) (hfo:full=true→n ∉ opn) (hfo':full=false→n ∈ opn)
 (hon:opn.Nodup) (hol:opn.length≤1024) (hcl:0≤cls) (hof:n<pl.own.length∧pl.own.getD n 0=cls) :
 Xao Tryz.prog 303 #[sfV S,.int .i64 n,pgV (G n),.bool full] w (fun _ w'=>Xbt w' S G cls blocks (if Xnz p=0 then Xse pg n else pg) (if Xnz p=0 then (if full then n::opn else opn).filter (fun m=>m != n) else if full then n::opn else opn) used∧Xa9 w' S.P (if Xnz p=0 then pl.give n else pl)∧Chg (Xcd S G pg) w w'):=by
 refine Xao.enter Tryz.func303 rfl Tryz.ntmps303 rfl rfl (ζa rfl ?_);cases full with
 |true =>
  have L:=hfo rfl;refine ζy rfl (ζl hS.obj rfl (ζc rfl (Xpo S.R opn n w hS.ring hn4 L (by omega)) ?_));rintro _ W ⟨rfl,R,M⟩;refine ζa rfl ?_;have a:=hS.setRing R M;have j:=Xa9.far hS hP M (fun z h => .inr (.inr (.inl h)));have f:Chg (Xcd S G pg) w W:=M.mono fun z _ h => .inl (.inr (.inr (.inl h)));simp only [if_true];obtain ⟨c,b⟩:∃ o,o=n::opn:=⟨_,rfl⟩;have u:n ∈ c:=by rw [b]; simp
  have s:c.Nodup:=by rw [b]; exact List.nodup_cons.2 ⟨L,hon⟩
  have t:c.length≤4096:=by rw [b,List.length_cons]; omega
  rw [← b] at a ⊢;refine ζw (XmT (G n) p W (a.pages _ hp)) rfl ?_;by_cases d:Xnz p=0
  ·rw [if_pos d,if_pos d,if_pos d];obtain ⟨v,x,k⟩:=List.append_of_mem u;refine ζY rfl (show (((Xnz p:Nat):Int) == 0)=true by rw [d]; rfl) (ζl a.obj rfl ?_);have y:=a.ring;rw [k] at y;refine ζc rfl (Xpj S.R v x n W y (by rw [← k]; exact t)) ?_;rintro _ wa ⟨rfl,A,g⟩;refine ζa rfl ?_;have e:=a.setRing A g;have B:=Xa9.far a j g (fun z h => .inr (.inr (.inl h)));refine ζl e.obj rfl ?_;obtain ⟨m,hm,_⟩:=e.map;refine Xay.mapdel hTT rfl (hm) fun wb C i Q=>ζa rfl ?_;have l:=e.del hp (fun m' N=>by rw [N.uniq hm]; exact C) i;have q:=Xa9.far e B i (fun z h => .inr (.inl h));refine ζl l.obj rfl ?_;have D:Xnk pl.own n=pl.own.getD n 0:=by
    unfold Xnk; rw [if_pos (by omega)]; simp only [Int.toNat_natCast]; rw [XgZ hof.1]
   have E:XnP pl n=0:=by unfold XnP; rw [if_neg (by have:=hof.1; omega),D,if_neg (by rw [hof.2]; omega)]
   have F:=Xog S.P pl n wb q;rw [show XnO pl n=pl.give n from by unfold XnO; rw [if_pos E]; rfl] at F;refine ζc rfl (F) ?_;rintro _ wc ⟨rfl,H,r⟩;refine ζa rfl ?_;have I:=l.pool q r;have J:c.filter (fun m=>m != n)=v++x:=by rw [k]; exact Xgj (k▸s)
   rw [J];exact ζr Tryz.func303 rfl ⟨I,H,((f.trans (g.mono fun z _ h => .inl (.inr (.inr (.inl h))))).trans (i.mono fun z _ h => .inl (.inr (.inl h)))).trans (r.mono fun z _ h => .inr h)⟩
  ·rw [if_neg d,if_neg d,if_neg d];exact ζF rfl (show (((Xnz p:Nat):Int) == 0)=false by simp; omega) (ζr Tryz.func303 rfl ⟨a,j,f⟩)
 |false =>
  have O:=hfo' rfl;refine ζf rfl ?_;simp only [Bool.false_eq_true,if_false];obtain ⟨c,b⟩:∃ o,o=opn:=⟨_,rfl⟩;have u:n ∈ c:=by rw [b]; exact O
  have s:c.Nodup:=by rw [b]; exact hon
  have t:c.length≤4096:=by rw [b]; omega
  have a:=hS;have j:=hP;have f:Chg (Xcd S G pg) w w:=Chg.refl _ _;rw [← b] at a ⊢;obtain ⟨W,P⟩:∃ W,W=w:=⟨_,rfl⟩;have K:∀ {X:World→Prop},X W→X w:=fun h=>P▸h;rw [← P] at a j;replace f:Chg (Xcd S G pg) w W:=by rw [P]; exact f
  refine K (X:=fun T=>Xay _ _ _ _ _ _ _ T) (ζw (XmT (G n) p W (a.pages _ hp)) rfl ?_);by_cases d:Xnz p=0
  ·rw [if_pos d,if_pos d,if_pos d];obtain ⟨v,x,k⟩:=List.append_of_mem u;refine ζY rfl (show (((Xnz p:Nat):Int) == 0)=true by rw [d]; rfl) (ζl a.obj rfl ?_);have y:=a.ring;rw [k] at y;refine ζc rfl (Xpj S.R v x n W y (by rw [← k]; exact t)) ?_;rintro _ wa ⟨rfl,A,g⟩;refine ζa rfl ?_;have e:=a.setRing A g;have B:=Xa9.far a j g (fun z h => .inr (.inr (.inl h)));refine ζl e.obj rfl ?_;obtain ⟨m,hm,_⟩:=e.map;refine Xay.mapdel hTT rfl (hm) fun wb C i Q=>ζa rfl ?_;have l:=e.del hp (fun m' N=>by rw [N.uniq hm]; exact C) i;have q:=Xa9.far e B i (fun z h => .inr (.inl h));refine ζl l.obj rfl ?_;have D:Xnk pl.own n=pl.own.getD n 0:=by
    unfold Xnk; rw [if_pos (by omega)]; simp only [Int.toNat_natCast]; rw [XgZ hof.1]
   have E:XnP pl n=0:=by unfold XnP; rw [if_neg (by have:=hof.1; omega),D,if_neg (by rw [hof.2]; omega)]
   have F:=Xog S.P pl n wb q;rw [show XnO pl n=pl.give n from by unfold XnO; rw [if_pos E]; rfl] at F;refine ζc rfl (F) ?_;rintro _ wc ⟨rfl,H,r⟩;refine ζa rfl ?_;have I:=l.pool q r;have J:c.filter (fun m=>m != n)=v++x:=by rw [k]; exact Xgj (k▸s)
   rw [J];exact ζr Tryz.func303 rfl ⟨I,H,((f.trans (g.mono fun z _ h => .inl (.inr (.inr (.inl h))))).trans (i.mono fun z _ h => .inl (.inr (.inl h)))).trans (r.mono fun z _ h => .inr h)⟩
  ·rw [if_neg d,if_neg d,if_neg d];exact ζF rfl (show (((Xnz p:Nat):Int) == 0)=false by simp; omega) (ζr Tryz.func303 rfl ⟨a,j,f⟩)
def Xrd (x:Sm) (n i:Int):Int:=match Xsi x.pg n with
 |some p=>Xnf p i
 |none=>1
def Xrc (x:Sm) (n i:Int):Sm:=match Xsi x.pg n with
 |some p=>if Xnf p i=0 then x.giveAt n.toNat p i else x
 |none=>x
def Xre (x:Sm) (pl:PlM) (n i:Int):PlM:=match Xsi x.pg n with
 |some p=>if Xnf p i=0∧Xnz (Xne p i)=0 then pl.give n.toNat else pl
 |none=>pl
theorem Xsh (l:PgL) (n:Nat) (p:List Int):Xse (Xsr l n p) n=Xse l n:=by
 induction l with
 |nil=>rfl
 |cons e r ih =>
  unfold Xse Xsr at *;rw [List.map_cons,List.filter_cons,List.filter_cons];by_cases h:e.1=n
  ·rw [if_pos h];simp only [bne_self_eq_false,Bool.false_eq_true,if_false,h];exact ih
  ·rw [if_neg h];have:(e.1 != n)=true:=by simpa using h
   rw [if_pos this,if_pos this,ih]
theorem XgM {S:Sh} {G:Nat→Pg} {x:Sm} {n:Nat} {p:List Int} {i:Int}:∀ z,Xrb S G (x.giveAt n p i).pg z→Xrb S G x.pg z:=fun z h=>by
 unfold Sm.giveAt at h;simp only at h
 split at h
 ·exact XgL z h
 ·exact XgO z h
theorem Sm.Of.giveAt {x:Sm} {pl:PlM} (hok:x.Ok) (h:x.Of pl) {n:Nat} {p:List Int} {i:Int}:(x.giveAt n p i).Of (if Xnz (Xne p i)=0 then pl.give n else pl):=by
 unfold Sm.giveAt;simp only
 split
 ·intro e c;obtain ⟨d,c⟩:=XkR.1 c;obtain ⟨a,b⟩:=h e c;show e.1<(pl.own.set n (-1)).length∧(pl.own.set n (-1)).getD e.1 0=x.cls
  rw [List.length_set,Xha,if_neg (fun h=>d h.1.symm)];exact ⟨a,b⟩
 ·exact h.set rfl (fun e c=>Xsv c)
theorem XrA (n i:Int) (w:World):Xan Tryz.prog 260 #[.pointer none,.int .i64 n,.int .i64 i] w (Xbs (.int .i64 1) w):=by
 exact ζe Tryz.func260 Tryz.ntmps260 rfl (ζw (XrP n w) rfl (ζr Tryz.func260 rfl ⟨rfl,rfl⟩))
theorem Xrz (S:Sh) (G:Nat→Pg) (x:Sm) (pl:PlM) (n i:Int) (w:World) (h:Xbv w S G x pl):Xan Tryz.prog 260 #[sfV S,.int .i64 n,.int .i64 i] w
 (fun v w'=>v = .int .i64 (Xrd x n i)∧Xbv w' S G (Xrc x n i) (Xre x pl n i)∧Chg (Xcd S G x.pg) w w' ∧ ∀ z,Xrb S G (Xrc x n i).pg z→Xrb S G x.pg z):=by
 refine ζe Tryz.func260 Tryz.ntmps260 rfl (ζw (XrO S G x pl n w h) rfl ?_);cases b:Xsi x.pg n with
 |none =>
  rw [show Xrd x n i=1 from by unfold Xrd; rw [b],show Xrc x n i=x from by unfold Xrc; rw [b],show Xre x pl n i=pl from by unfold Xre; rw [b]];exact ζr Tryz.func260 rfl ⟨rfl,h,Chg.refl _ _,fun _ h=>h⟩
 |some p =>
  obtain ⟨k,rfl,a⟩:=Xsp b;obtain ⟨B,C,l⟩:=h.ok.each _ a;simp only at B C l
  have T:=h.ok.few;refine ζv (XmJ (G k) p w (h.at'.pages _ a)) rfl fun U m => ?_;have o:=h.at'.grow m;refine ζc rfl (XmK (G k) p i U (o.pages _ a)) ?_;rintro _ V ⟨rfl,K,q⟩;refine ζa rfl ?_;have f:=o.page a K q;have r:=Xa9.far o (h.pool.grow m) q (fun z e => .inr (.inr (.inr ⟨_,a,e⟩)));have D:Chg (Xcd S G x.pg) w V:=(m.mono fun _ _ h=>h.elim).trans (q.mono fun z _ e => .inl (.inr (.inr (.inr ⟨_,a,e⟩))));by_cases d:Xnf p i=0
  ·rw [show Xrd x k i=0 from by unfold Xrd; rw [b]; exact d,show Xrc x k i=x.giveAt k p i from by unfold Xrc; rw [b]; simp only; rw [if_pos d]; rfl,show Xre x pl k i=(if Xnz (Xne p i)=0 then pl.give k else pl) from by unfold Xre; rw [b]; simp only [d,true_and]; rfl,d];refine ζf rfl (Xay.defer rfl rfl (ζa rfl ?_));have hu:=Xnh d;have a3:=XsB (p:=Xne p i) h.ok.nodup a;refine ζl f.obj rfl (ζj rfl (ζs f.obj rfl fun W E s a4 => ?_));have L:((Xsx x.pg:Nat):Int) - 1=(Xsx (Xsr x.pg k (Xne p i)):Nat):=by omega
   rw [L] at E;have M:=f.setUsed E s;have I:=Xa9.far f r s (fun z e => .inl e);have N:=D.trans (s.mono fun z _ e => .inl (.inl e));have F:(k,Xne p i) ∈ Xsr x.pg k (Xne p i):=List.mem_map.2 ⟨(k,p),a,if_pos rfl⟩;have H:((Xnz p:Int) == p.length)=decide (Xnz p=x.blocks):=by rw [C]; exact Bool.eq_iff_iff.2 (by simp only [beq_iff_eq,decide_eq_true_eq]; omega)
   have u:=XrQ S G x.cls x.blocks _ x.opn _ pl k (Xne p i) (decide (Xnz p=x.blocks)) W M I F B (fun e hm=>(l.1 hm) (of_decide_eq_true e)) (fun e=>l.2 (of_decide_eq_false e)) h.ok.onodup (by omega) h.ok.cls (h.of _ a);rw [← H] at u;refine Xay.ret1D hTT rfl Tryz.func260 rfl rfl rfl (XiJ (args := [sfV S,.int .i64 k,pgV (G k),.bool ((Xnz p:Int) == p.length)]) (captured := []) u.fn) ⟨u.fn,?_⟩;have hc:=u.calls;intro c cs O;obtain ⟨en,u',w',fr,⟨h7,v,h8,g,P,Q⟩,y⟩:=hc c cs O;have J:(x.giveAt k p i).Pos:=by
    unfold Sm.giveAt;simp only
    split
    ·intro e t;exact h.pos e (XkR.1 t).2
    ·rename_i j
     intro e t;rcases XkS t with ⟨rfl,_⟩ | ⟨_,t⟩
     ·exact Nat.pos_of_ne_zero j
     ·exact h.pos e t
   refine ⟨en,u',w',fr,⟨h7,v,h8,rfl,⟨h.ok.giveAt a d,J,h.of.giveAt h.ok,?_,?_⟩,N.trans (Q.mono fun z _ j=>j.imp (XgO z) id),XgM⟩,y⟩
   ·rw [H] at g;show Xbt w' S G (x.giveAt k p i).cls (x.giveAt k p i).blocks (x.giveAt k p i).pg (x.giveAt k p i).opn (Xsx (x.giveAt k p i).pg:Nat)
    unfold Sm.giveAt;simp only
    simp only [decide_eq_true_eq] at g;by_cases j:Xnz (Xne p i)=0
    ·rw [if_pos j] at g ⊢;rw [if_pos j,Xsh] at g;have R:=(Xsz (by rw [Xss]; exact h.ok.nodup) F).1;rw [Xsh] at R;show Xbt w' S G x.cls x.blocks (Xse x.pg k) _ (Xsx (Xse x.pg k):Nat)
     rw [show Xsx (Xse x.pg k)=Xsx (Xsr x.pg k (Xne p i)) by omega];exact g
    ·rw [if_neg j] at g ⊢;rw [if_neg j] at g;exact g
   ·exact P
  ·have A:Xne p i=p:=by unfold Xne; rw [if_neg d]
   rw [A,Xsw h.ok.nodup a] at f;rw [show Xrd x k i=Xnf p i from by unfold Xrd; rw [b],show Xrc x k i=x from by unfold Xrc; rw [b]; simp only; rw [if_neg d],show Xre x pl k i=pl from by unfold Xre; rw [b]; simp only; rw [if_neg (fun h=>d h.1)]];exact ζY rfl (show (Xnf p i != 0)=true by simpa using d) (ζr Tryz.func260 rfl ⟨rfl,⟨h.ok,h.pos,h.of,f,r⟩,D,fun _ h=>h⟩)
def Xn8 (a b c d:Int):List Value := [.int .i64 a,.int .i64 b,.int .i64 c,.int .i64 d]
def Xrn (x:Sm):Bool:=decide (2≤x.opn.length)
def Xro (x:Sm):List Value:=if 2≤x.opn.length then Xn8 (Xi3 (-1) x.opn) (Xnx ((Xsi x.pg (Xi3 (-1) x.opn)).getD [])) (Xhx x.opn) (Xni ((Xsi x.pg (Xhx x.opn)).getD [])) else Xn8 0 0 0 0
theorem XrJ (w:World):Xan Tryz.prog 254 #[.pointer none] w (Grow (.tuple #[.agg (Xn8 0 0 0 0).toArray,.bool false]) w):=by
 exact ζe Tryz.func254 Tryz.ntmps254 rfl (ζn rfl fun tb f e1 b c g=>ζw (XrD f) rfl (ζy rfl (ζb rfl (ζs b rfl fun i a d h=>ζR Tryz.func254 a rfl ⟨rfl,c.since d (fun z j e=>by omega)⟩))))
theorem XrI (S:Sh) (G:Nat→Pg) (x:Sm) (pl:PlM) (w:World) (h:Xbv w S G x pl):Xan Tryz.prog 254 #[sfV S] w (Grow (.tuple #[.agg (Xro x).toArray,.bool (Xrn x)]) w):=by
 unfold Xro Xrn;refine ζe Tryz.func254 Tryz.ntmps254 rfl (ζn rfl fun tb I e1 s j O => ?_);have g:=h.grow j;refine ζw (XrC S G x pl I g) rfl ?_;by_cases f:2≤x.opn.length
 ·refine ζf rfl ?_;rw [if_pos f,decide_eq_true f];have n:∃ k ∈ x.opn,Xi3 (-1) x.opn=(k:Int):=by
   rcases Xi6 (-1) x.opn with ⟨e,_⟩ | ⟨a,v,e,_⟩
   ·rw [e] at f; simp at f
   ·exact ⟨a,v,e⟩
  have o:∃ k ∈ x.opn,Xhx x.opn=(k:Int):=by
   cases J:x.opn with
   |nil=>rw [J] at f; simp at f
   |cons a r=>exact ⟨a,by simp,rfl⟩
  obtain ⟨a,v,ea⟩:=n;obtain ⟨b,K,eb⟩:=o;obtain ⟨p,y⟩:=h.ok.osub a v;obtain ⟨q,A⟩:=h.ok.osub b K;rw [ea,eb,Xsm h.ok.nodup y,Xsm h.ok.nodup A];simp only [Option.getD_some];refine ζd 10 XaX (by kernel_rfl) rfl fun c=>δl c g.at'.obj rfl (δw c (fun w' d=>Xpl S.R x.opn w' (g.at'.ring.grow d)) rfl ?_);rw [ea];refine δl c g.at'.obj rfl (δw c (fun w' d=>Xpk S.R x.opn w' (g.at'.ring.grow d)) rfl ?_);rw [eb];refine δn c rfl fun L l => ?_;have i:=g.grow l;obtain ⟨m,hm,D⟩:=i.at'.look a;obtain ⟨m',E,t⟩:=i.at'.look b;rw [Xsm h.ok.nodup y] at D;rw [Xsm h.ok.nodup A] at t;exact ζd 16 XaX (by kernel_rfl) rfl fun c=>δl c i.at'.obj rfl (Xaq.lookup hTT c rfl (hm) (by first | (intro b h; cases h; assumption) | (intro b h M; cases h; omega)) (D) rfl (δw c (fun w' d=>XmS (G a) p w' ((i.at'.pages _ y).grow d)) rfl (δl c i.at'.obj rfl (Xaq.lookup hTT c rfl (E) (by first | (intro b h; cases h; assumption) | (intro b h M; cases h; omega)) (t) rfl (δv c (fun w' d=>XmL (G b) q w' ((i.at'.pages _ A).grow d)) rfl (δn c rfl fun R u=>ζb rfl (ζs (u.heap' (l.heap' s)) rfl fun T B F P=>ζR Tryz.func254 B rfl ⟨rfl,((j.trans l).trans u).since F (fun z N e=>by omega)⟩)))))))
 ·refine ζy rfl ?_;rw [if_neg f,decide_eq_false f];exact ζb rfl (ζs s rfl fun L C H Q=>ζR Tryz.func254 C rfl ⟨rfl,j.since H (fun z N e=>by omega)⟩)
def XlN (cls:Int) (blocks:Nat):Sm:=⟨cls,blocks,[],[]⟩
theorem XrB (P:Pl) (pl:PlM) (cls:Int) (k:Nat) (w:World) (ht:XbD w) (hc:0≤cls) (hk:1≤k∧k≤512) (hP:Xa9 w P pl):Xan Tryz.prog 148 #[plV P,.int .i64 cls,.int .i64 k] w
 (fun v w' => ∃ S,S.P=P∧v = .tuple #[sfV S,.int .i64 0]∧(∀ G z,Xrb S G [] z→w.heap.size≤z)∧(∀ G,Xbv w' S G (XlN cls k) pl)∧Chg XaX w w'):=by
 refine ζe Tryz.func148 Tryz.ntmps148 rfl (ζc rfl (XmM k w ht hk) ?_);rintro _ n ⟨g,rfl,_,_,d⟩;refine ζa rfl (ζf rfl (ζf rfl (ζc rfl (Xpn n) ?_)));rintro _ B ⟨R,rfl,⟨r,s,t⟩,o,f⟩;refine ζa rfl (Xay.mkmap rfl fun sm C e3 l i u=>ζa rfl (ζb rfl (ζn rfl fun sb D e4 m c x => ?_)));have b:=((d.trans f).trans i).trans c;have y:=d.size;have A:=f.size;exact Xay.ret2 hTT rfl Tryz.func148 rfl rfl rfl ⟨⟨sb,sm,R,P⟩,rfl,rfl,(fun G z p=>by
  rcases p with h | h | (h | h) | ⟨e,a,_⟩
  ·have:z=sb:=h; omega
  ·have:z=sm:=h; omega
  ·have:z=R.ab:=h; omega
  ·have:z=R.nb:=h; omega
  ·cases a),fun G=>⟨⟨List.nodup_nil,hc,hk,(fun e a=>by cases a),List.nodup_nil,(fun e a=>by cases a)⟩,(fun e a=>by cases a),(fun e a=>by cases a),⟨List.nodup_nil,fun j q=>b.cell (ht j q) id,m,⟨[],l.chg c id,List.nodup_nil,rfl,(fun e a=>by cases a),fun _ _=>rfl⟩,(o.grow i).grow c,(fun e a=>by cases a),(fun e a=>by cases a)⟩,hP.grow b⟩,b⟩
def Xbw (F:Nat→Prop) (w:World) (S:Sh) (x:Sm) (pl:PlM):Prop := ∃ G,Xbv w S G x pl ∧ ∀ z,Xcd S G x.pg z→F z
theorem Xbw.grow {F:Nat→Prop} {w w':World} {S:Sh} {x:Sm} {pl:PlM} (h:Xbw F w S x pl) (hc:Chg XaX w w'):Xbw F w' S x pl:=by
 obtain ⟨G,a,b⟩:=h;exact ⟨G,a.grow hc,b⟩
theorem Xbv.foot_lt {w:World} {S:Sh} {G:Nat→Pg} {x:Sm} {pl:PlM} (h:Xbv w S G x pl):∀ z,Xcd S G x.pg z→z<w.heap.size:=fun z hz=>by
 rcases hz with hz | hz | hz
 ·exact h.at'.foot_lt z hz
 ·have:z=S.P.pb:=hz; have:=h.pool.lt; omega
 ·have:z=S.P.ab:=hz; have:=h.pool.lt; omega
theorem Xbw.pool {F:Nat→Prop} {w:World} {S:Sh} {x:Sm} {pl:PlM} (h:Xbw F w S x pl):Xa9 w S.P pl:=by
 obtain ⟨G,a,_⟩:=h;exact a.pool
theorem Xbw.tab {F:Nat→Prop} {w:World} {S:Sh} {x:Sm} {pl:PlM} (h:Xbw F w S x pl):XbD w:=by
 obtain ⟨G,a,_⟩:=h;exact a.at'.tab
theorem Xbw.mono {F F':Nat→Prop} {w:World} {S:Sh} {x:Sm} {pl:PlM} (h:Xbw F w S x pl) (hF:∀ z,F z→F' z):Xbw F' w S x pl:=by
 obtain ⟨G,a,b⟩:=h;exact ⟨G,a,fun z c=>hF z (b z c)⟩
theorem Xbw.ok {F:Nat→Prop} {w:World} {S:Sh} {x:Sm} {pl:PlM} (h:Xbw F w S x pl):x.Ok∧x.Pos∧x.Of pl∧pl.Good:=by
 obtain ⟨G,a,_⟩:=h;exact ⟨a.ok,a.pos,a.of,a.pool.good⟩
theorem Xst (l:PgL) (n:Nat) (p:List Int):(Xsr l n p).length=l.length:=by unfold Xsr; simp
theorem Xrw (x:Sm) (pl:PlM) (who:Int):(Xrt x pl who≠0∧Xrr x pl who=x∧Xrv x pl who=pl) ∨
 (Xrt x pl who=0∧0≤who∧((∃ n r,x.opn=n::r∧Xrr x pl who=x.takeAt n (shP x pl) who∧Xrv x pl who=pl∧shP x pl=(Xsi x.pg n).getD []∧Xru x pl who=n∧Xrs x pl who=Xni (shP x pl)) ∨
  (∃ n r,x.opn = []∧pl.free=n::r∧Xrr x pl who=(x.fresh n).takeAt n (shP x pl) who∧Xrv x pl who=pl.take x.cls∧shP x pl=(Xsi (x.fresh n).pg n).getD []∧Xru x pl who=n∧Xrs x pl who=Xni (shP x pl)))):=by
 by_cases a:Xrt x pl who=0
 ·refine .inr ⟨a,?_,?_⟩
  ·unfold Xrt at a;split at a
   ·cases a
   ·omega
  ·have e1:Xrr x pl who=(Xrq x pl).takeAt (Xrl x pl) (shP x pl) who:=by unfold Xrr; rw [if_pos a]
   have e2:Xrv x pl who=Xrm x pl:=by unfold Xrv; rw [if_pos a]
   have e3:Xru x pl who=Xrl x pl:=by unfold Xru; rw [if_pos a]
   have e4:Xrs x pl who=Xni (shP x pl):=by unfold Xrs; rw [if_pos a]
   have e5:shP x pl=(Xsi (Xrq x pl).pg (Xrl x pl)).getD []:=rfl;cases b:x.opn with
   |cons n r =>
    have d:Xrq x pl=x:=by unfold Xrq; rw [b]
    have c:Xrl x pl=n:=by unfold Xrl; rw [b]
    have e:Xrm x pl=pl:=by unfold Xrm; rw [b]
    refine .inl ⟨n,r,rfl,?_,?_,?_,?_,e4⟩
    ·rw [e1,d,c]
    ·rw [e2,e]
    ·rw [e5,d,c]
    ·rw [e3,c]
   |nil =>
    cases hf:pl.free with
    |nil =>
     unfold Xrt at a;split at a
     ·cases a
     ·rw [if_pos (by rw [b,hf]; exact ⟨rfl,rfl⟩)] at a; cases a
    |cons n r =>
     have d:Xrq x pl=x.fresh n:=by unfold Xrq; rw [b,hf]; rfl
     have c:Xrl x pl=n:=by unfold Xrl; rw [b,hf]; rfl
     have e:Xrm x pl=pl.take x.cls:=by unfold Xrm; rw [b]
     refine .inr ⟨n,r,rfl,rfl,?_,?_,?_,?_,e4⟩
     ·rw [e1,d,c]
     ·rw [e2,e]
     ·rw [e5,d,c]
     ·rw [e3,c]
 ·exact .inl ⟨a,by unfold Xrr; rw [if_neg a],by unfold Xrv; rw [if_neg a]⟩
theorem XlZ:∀ (l l':List Nat),l.Nodup→(∀ a ∈ l,a ∈ l')→l.length≤l'.length
 |[],_,_,_=>Nat.zero_le _
 |a::r,l',f,h=>by
  obtain ⟨g,i⟩:=List.nodup_cons.1 f;have c:=h a (by simp);have ih:=XlZ r (l'.erase a) i (fun b d=>by
   have:b≠a:=fun e=>g (e▸d);exact (List.mem_erase_of_ne this).2 (h b (by simp [d])))
  rw [List.length_erase_of_mem c] at ih;have:=List.length_pos_of_mem c;simp only [List.length_cons];omega
theorem Xso {l:PgL} {n:Nat} {p q:List Int} (hn:(l.map (·.1)).Nodup) (hq:(n,q) ∈ l):Xsi (Xsr l n p) n=some p :=
 Xsm (by rw [Xss]; exact hn) (List.mem_map.2 ⟨(n,q),hq,if_pos rfl⟩)
def Rows {α:Type} (cells:α→List Value) (sz:Nat) (w:World) (a:Option Addr) (xs:List α):Prop :=
 ∀ i x,xs[i]? = some x → ∃ b off,a=some ⟨b,off,none⟩ ∧ ∀ j v,(cells x)[j]? = some v→w.cell? ⟨b,off+i*sz+j,none⟩=some v
theorem Rows.chg {α:Type} {cells:α→List Value} {sz:Nat} {w w':World} {a:Option Addr} {xs:List α} (h:Rows cells sz w a xs) (hc:Chg XaX w w'):Rows cells sz w' a xs:=fun i x d=>by
 obtain ⟨b,off,e,c⟩:=h i x d;exact ⟨b,off,e,fun j v f=>Xdk hc.below (c j v f)⟩
theorem Rows.at {α:Type} {cells:α→List Value} {sz:Nat} {w:World} {a:Option Addr} {xs:List α} (h:Rows cells sz w a xs) {i:Nat} (hi:i<xs.length) :
 ∃ b off,a=some ⟨b,off,none⟩ ∧ ∀ j v,(cells xs[i])[j]? = some v→w.cell? ⟨b,off+i*sz+j,none⟩=some v:=h i xs[i] (List.getElem?_eq_getElem hi)
def Xa0 (S:Nat→Prop) (a:Option Addr):Prop := ∀ b off s,a=some ⟨b,off,s⟩ → ¬ S b
theorem Xa0.fresh {S:Nat→Prop} {w:World} {g off:Nat} (hg:w.heap.size≤g) (hS:∀ b,S b→b<w.heap.size):Xa0 S (some ⟨g,off,none⟩):=fun b off' s e a=>by cases e; have:=hS _ a; omega
theorem Rd.far {k:IntKind} {w w':World} {a:Option Addr} {zs:List Int} {S:Nat→Prop} (h:Rd k w a zs) (hs:Xa0 S a) (hc:Chg S w w'):Rd k w' a zs:=(RdS.chg ⟨h,fun b off s e _=>hs b off s e⟩ hc).1
theorem Xa0.mono {S S':Nat→Prop} {a:Option Addr} (h:Xa0 S a) (hs:∀ z,S' z→S z):Xa0 S' a:=fun b off s e c=>h b off s e (hs _ c)
structure IL where
 a:Option Addr
 cap:Nat
 x:List Int
abbrev ilV (l:IL):Value := .slice l.a l.x.length l.cap
structure XaB (w:World) (l:IL):Prop where
 rd:Rd .i64 w l.a l.x
 len:l.x.length≤512
theorem XaB.grow {w w':World} {l:IL} (h:XaB w l) (hc:Chg XaX w w'):XaB w' l:=⟨h.rd.chg hc,h.len⟩
theorem XaB.far {w w':World} {l:IL} {S:Nat→Prop} (h:XaB w l) (hs:Xa0 S l.a) (hc:Chg S w w'):XaB w' l :=
 ⟨(RdS.chg ⟨h.rd,fun b off s e _=>hs b off s e⟩ hc).1,h.len⟩
theorem Xg4 {x:List Int} {i:Nat} (h:i<x.length):x.getD i (-1)=x.getD i 0:=by
 rw [List.getD_eq_getElem?_getD,List.getD_eq_getElem?_getD,List.getElem?_eq_getElem h]; rfl
theorem XaB.at {w:World} {l:IL} (h:XaB w l) {i:Nat} (hi:i<l.x.length):∃ b off,l.a=some ⟨b,off,none⟩∧w.cell? ⟨b,off+i,none⟩=some (.int .i64 (l.x.getD i (-1))):=by
 obtain ⟨b,off,e,a⟩:=h.rd i hi;exact ⟨b,off,e,by rw [Xg4 hi]; exact a⟩
def ALt (w:World) (a:Option Addr):Prop := ∀ b off s,a=some ⟨b,off,s⟩→b<w.heap.size
def Xax (w:World) (a:Option Addr):Prop := ∀ b off s,a=some ⟨b,off,s⟩→w.heap.size≤b
structure IlX (w:World) (l:IL):Prop where
 ok:XaB w l
 cap:l.x.length≤l.cap
 lt:ALt w l.a
theorem ALt.grow {w w':World} {a:Option Addr} (h:ALt w a) (hs:w.heap.size≤w'.heap.size):ALt w' a:=fun b off s e=>by have:=h b off s e; omega
theorem IlX.grow {w w':World} {l:IL} (h:IlX w l) (hc:Chg XaX w w'):IlX w' l:=⟨h.ok.grow hc,h.cap,h.lt.grow hc.size⟩
theorem IlX.far {w w':World} {l:IL} {S:Nat→Prop} (h:IlX w l) (hs:Xa0 S l.a) (hc:Chg S w w'):IlX w' l:=⟨h.ok.far hs hc,h.cap,h.lt.grow hc.size⟩
theorem ALt.out {w:World} {a:Option Addr} {S:Nat→Prop} (h:ALt w a) (hs:∀ z,S z→w.heap.size≤z):Xa0 S a:=fun b off s e c=>by
 have:=h b off s e;have:=hs b c;omega
theorem Xax.out {w:World} {a:Option Addr} {S:Nat→Prop} (h:Xax w a) (hs:∀ z,S z→z<w.heap.size):Xa0 S a:=fun b off s e c=>by
 have:=h b off s e;have:=hs b c;omega
theorem Own.il {base m:Nat} {w:World} {v:Value} {x:List Int} (h:Own base 3 1 w v m (x.map (Value.int .i64))) (hm:x.length=m) (hx:x.length≤512) :
 ∃ l:IL,v=ilV l∧l.x=x∧IlX w l ∧ ∀ b off s,l.a=some ⟨b,off,s⟩→base≤b:=by
 rcases h.2 with ⟨rfl,j⟩ | ⟨g,cap,cur,rfl,f,c,a,i,_,d⟩
 ·have:x = []:=List.length_eq_zero_iff.1 (by omega);subst this;exact ⟨⟨none,0,[]⟩,rfl,rfl,⟨⟨Rd.nil _ _ _,hx⟩,Nat.le_refl _,(by intro b off s e; cases e)⟩,(by intro b off s e; cases e)⟩
 ·subst hm;exact ⟨⟨some ⟨g,0,none⟩,cap,x⟩,rfl,rfl,⟨⟨Rd.of_take c (by simpa using d),hx⟩,a,(by intro b off s e; cases e; exact Xkj c)⟩,(by intro b off s e; cases e; exact f)⟩
theorem Own.one {base b:Nat} {w:World} {t:TypeId} {u:Value} (hb:base≤b) (h:w.heap[b]? = some (.cells #[u] t (0,0))):Own base t 1 w (.slice (some ⟨b,0,none⟩) 1 1) 1 [u] :=
 ⟨by simp,.inr ⟨b,1,#[u],rfl,hb,h,Nat.le_refl _,by decide,by simp,by simp⟩⟩
structure RP where
 o:IL
 f:IL
def rpL (r:RP):List Value := [ilV r.o,ilV r.f]
structure Xbl (w:World) (r:RP) (pl:PlM):Prop where
 o:IlX w r.o
 f:IlX w r.f
 eo:r.o.x=pl.own
 ef:r.f.x=pl.free.map (fun n:Nat=>(n:Int))
theorem Xbl.grow {w w':World} {r:RP} {pl:PlM} (h:Xbl w r pl) (hc:Chg XaX w w'):Xbl w' r pl:=⟨h.o.grow hc,h.f.grow hc,h.eo,h.ef⟩
def IL.sl (l:IL) (lo hi:Nat):IL:=⟨XrR l.a l.cap lo 1,l.cap - lo,(l.x.drop lo).take (hi - lo)⟩
theorem XrT {a:Option Addr} {cap l sz:Nat} {b off:Nat} {s:Option Nat} (h:XrR a cap l sz=some ⟨b,off,s⟩):∃ off' s',a=some ⟨b,off',s'⟩:=by
 unfold XrR at h;by_cases c:cap=l
 ·rw [if_pos c] at h; exact ⟨off,s,h⟩
 ·rw [if_neg c] at h;cases a with
  |none=>cases h
  |some x =>
   obtain ⟨xb,xo,xs⟩:=x;simp only [Option.map_some,Option.some.injEq] at h;unfold Addr.add at h;refine ⟨xo,xs,?_⟩;have d:xb=b:=by split at h <;> (cases h; rfl)
   rw [d]
theorem IlX.sl {w:World} {l:IL} (h:IlX w l) {lo hi:Nat} (h1:lo≤hi) (h2:hi≤l.x.length):IlX w (l.sl lo hi)∧(l.sl lo hi).x.length=hi - lo:=by
 have a:((l.x.drop lo).take (hi - lo)).length=hi - lo:=by rw [List.length_take,List.length_drop]; omega
 have c:=h.cap;have d:=h.ok.len;refine ⟨⟨⟨h.ok.rd.shift (by omega) c,by show ((l.x.drop lo).take (hi - lo)).length≤512; omega⟩,by show ((l.x.drop lo).take (hi - lo)).length≤l.cap - lo; omega,fun b off s e => ?_⟩,a⟩;obtain ⟨off',s',e'⟩:=XrT e;exact h.lt b off' s' e'
theorem Own.isSlice {base t size m:Nat} {w:World} {v:Value} {xs:List Value} (h:Own base t size w v m xs):∃ a n c,v = .slice a n c:=by
 rcases h.2 with ⟨h,_⟩ | ⟨g,cap,cur,h,_⟩
 ·exact ⟨_,_,_,h⟩
 ·exact ⟨_,_,_,h⟩
theorem XoM (i:Nat):((List.range (i+1)).map (fun n:Nat=>(n:Int))).map (Value.int .i64)=((List.range i).map (fun n:Nat=>(n:Int))).map (Value.int .i64) ++ [.int .i64 (i:Int)]:=by
 rw [List.range_succ,List.map_append,List.map_append]; rfl
theorem Xo3 (N:Nat) (w:World) (hN:1≤N∧N≤512):Xan Tryz.prog 223 #[.int .i64 N] w
 (fun v w' => ∃ r,v = .tuple #[.agg (rpL r).toArray,.int .i64 0]∧Xbl w' r (XnU N)∧Xax w r.o.a∧Xax w r.f.a∧Chg XaX w w'):=by
 have b8:maxLen=9223372036854775807:=rfl;refine ζe Tryz.func223 Tryz.ntmps223 rfl (ζn rfl fun qb w1 e1 am t b9=>ζn rfl fun tb q e2 an S ba => ?_);have W:=t.trans S;refine ζf rfl (ζf rfl ?_);refine Xay.loop (α:=Nat × Value × Value) (fun p => [(0,false,.int .i64 N),(2,false,.pointer (some ⟨qb,0,none⟩)),(4,false,.pointer (some ⟨tb,0,none⟩)),(5,false,.int .i64 p.1)])
  (fun p w'=>p.1≤N∧w'.heap[tb]? = some (.cells ([p.2.1,p.2.2]:List Value).toArray 42 (0,0))∧Own q.heap.size 3 1 w' p.2.1 p.1 ((List.replicate p.1 (-1)).map (Value.int .i64))∧Own q.heap.size 3 1 w' p.2.2 p.1 (((List.range p.1).map (fun n:Nat=>(n:Int))).map (Value.int .i64))∧(∀ b,some b=p.2.1.ownBlock→some b≠p.2.2.ownBlock)∧Chg (fun z=>z=tb) q w')
  (fun p=>N - p.1) (0,.slice none 0 0,.slice none 0 0) ⟨rfl,rfl,rfl,rfl,trivial⟩ ⟨Nat.zero_le _,an,World.ownsRow_nil _ _ _ _,World.ownsRow_nil _ _ _ _,(fun b h=>by cases h),Chg.refl _ _⟩ ?_
 rintro ⟨i,vo,vf⟩ w3 ⟨hi,c,u,y,A,k⟩ ih;simp only at hi c u y A
 have ay:=k.size;refine ζa rfl (ζg rfl (fun hc => ?_) fun hc => ?_)
 ·have ao:i<N:=by have:=of_decide_eq_true hc; omega
  refine ζl c rfl (Xay.buildSlice hTT rfl fun b4 w4 e4 ap l aq=>ζa rfl ?_);have d:=u.chg l (fun _ _ h=>h);have B:=y.chg l (fun _ _ h=>h);have a3:=l.heap' c;refine Xay.append (base:=q.heap.size) (xs:=(List.replicate i (-1)).map (Value.int .i64)) (news := [.int .i64 (-1)]) hTT rfl d (by omega) (by simp) (Xem ap) (by simp [Value.oneCell']) (by simp only; omega) ?_;intro vo' w5 f m ar;obtain ⟨C,D,E,rfl⟩:=Own.isSlice f;refine ζa rfl ?_;have bb:=m.size;have a4:=m.heap a3 (fun e=>by have:=(World.ownsRow.lt d tb (Eq.symm e)).1; omega);have F:=B.chg m (fun b a e=>A b e a);refine ζs a4 rfl fun w6 G H bc => ?_;have a5:=f.chg H (fun b a e=>by have:=(World.ownsRow.lt f b a.symm).1; omega);have a6:=F.chg H (fun b a e=>by have:=(World.ownsRow.lt F b a.symm).1; omega);have I:∀ b,some b=(Value.slice C D E).ownBlock→some b≠vf.ownBlock:=fun b a e=>by
   rcases ar.2 with h | h
   ·exact A b (a.trans h) e
   ·rw [h] at a;have e1:=Option.some.inj a;have:=(World.ownsRow.lt B b e.symm).2;omega
  refine ζl G rfl (Xay.buildSlice hTT rfl fun b7 w7 e7 au o bd=>ζa rfl ?_);have J:=a5.chg o (fun _ _ h=>h);have g:=a6.chg o (fun _ _ h=>h);have a7:=o.heap' G;refine Xay.append (base:=q.heap.size) (xs:=((List.range i).map (fun n:Nat=>(n:Int))).map (Value.int .i64)) (news := [.int .i64 (i:Int)]) hTT rfl g (by omega) (by simp) (Xem au) (by simp [Value.oneCell']) (by simp only; omega) ?_;intro vf' w8 j K av;obtain ⟨T,U,V,rfl⟩:=Own.isSlice j;refine ζa rfl ?_;have a8:=K.heap a7 (fun e=>by have:=(World.ownsRow.lt g tb (Eq.symm e)).1; omega);have L:=J.chg K (fun b a e=>I b a e);refine ζs a8 rfl fun w9 a9 M be => ?_;have aa:=L.chg M (fun b a e=>by have:=(World.ownsRow.lt L b a.symm).1; omega);have ab:=j.chg M (fun b a e=>by have:=(World.ownsRow.lt j b a.symm).1; omega);have ac:∀ b,some b=(Value.slice C D E).ownBlock→some b≠(Value.slice T U V).ownBlock:=fun b a e=>by
   rcases av.2 with h | h
   ·exact I b a (e.trans h)
   ·rw [h] at e;have e1:=Option.some.inj e;have:=(World.ownsRow.lt J b a.symm).2;omega
  have hS:Chg (fun z=>z=tb) q w9:=by
   have a1:=(k.trans (l.mono fun _ _ h=>h.elim)).since m (fun z O e=>by have:=(World.ownsRow.lt d z (Eq.symm e)).1; omega);have a2:=(a1.trans H).trans (o.mono (fun _ _ h=>h.elim):Chg (fun z=>z=tb) w6 w7);exact (a2.since K (fun z O e=>by have:=(World.ownsRow.lt g z (Eq.symm e)).1; omega)).trans M
  refine ζj rfl ?_;exact ih (i+1,.slice C D E,.slice T U V) _ _ ⟨ao,a9,by
   have e:(List.replicate (i+1) (-1:Int)).map (Value.int .i64)=(List.replicate i (-1)).map (Value.int .i64) ++ [.int .i64 (-1)]:=by rw [List.replicate_succ',List.map_append]; rfl
   rw [e]; exact aa,by rw [XoM]; exact ab,ac,hS⟩ (by simp only; omega) ⟨rfl,rfl,rfl,rfl,trivial⟩
 ·have aw:i=N:=by have:=of_decide_eq_false hc; omega
  subst aw;obtain ⟨ol,ad,ae,af,P⟩:=Own.il (x:=List.replicate i (-1)) u (by simp) (by simp; omega);obtain ⟨fl,ag,ah,ai,Q⟩:=Own.il (x:=(List.range i).map (fun n:Nat=>(n:Int))) y (by simp) (by simp; omega);subst ad;subst ag;refine ζl c rfl ?_;have aj:=k.heap (S.heap' am) (show ¬ qb=tb by omega);refine ζs aj rfl fun w4 ak R aq => ?_;have al:=W.since k (fun z O e=>by have:=t.size; omega);exact ζR Tryz.func223 ak rfl ⟨⟨ol,fl⟩,rfl,⟨af.far (by intro b off s e O; have:=P b off s e; omega) R,ai.far (by intro b off s e O; have:=Q b off s e; omega) R,ae,ah⟩,fun b off s e=>by have:=P b off s e; omega,fun b off s e=>by have:=Q b off s e; omega,al.since R (fun z O e=>by have:=t.size; omega)⟩
structure RS where
 p:RP
 cls:Int
 blocks:Nat
 nums:IL
 pa:Option Addr
 pcap:Nat
 ps:List IL
 opn:IL
def rsL (r:RS):List Value := [ilV r.p.o,ilV r.p.f,.int .i64 r.cls,.int .i64 (r.blocks:Int),ilV r.nums,.slice r.pa r.ps.length r.pcap,ilV r.opn]
def RdP (w:World) (a:Option Addr) (ps:List IL):Prop := ∀ (i:Nat) (l:IL),ps[i]? = some l → ∃ b off,a=some ⟨b,off,none⟩∧w.cell? ⟨b,off+i,none⟩=some (ilV l)
theorem RdP.grow {w w':World} {a:Option Addr} {ps:List IL} (h:RdP w a ps) (hc:Chg XaX w w'):RdP w' a ps:=fun i l d=>by
 obtain ⟨b,off,e,c⟩:=h i l d;exact ⟨b,off,e,hc.cell c id⟩
theorem RdP.far {w w':World} {a:Option Addr} {ps:List IL} {S:Nat→Prop} (h:RdP w a ps) (hs:Xa0 S a) (hc:Chg S w w'):RdP w' a ps:=fun i l d=>by
 obtain ⟨b,off,e,c⟩:=h i l d;exact ⟨b,off,e,hc.cell c (hs b off none e)⟩
theorem Own.pl {base m:Nat} {w:World} {v:Value} {ps:List IL} (h:Own base 22 1 w v m (ps.map ilV)) (hm:ps.length=m) :
 ∃ pa pcap,v = .slice pa ps.length pcap∧RdP w pa ps∧ALt w pa∧ps.length≤pcap ∧ ∀ b off s,pa=some ⟨b,off,s⟩→base≤b:=by
 rcases h.2 with ⟨rfl,p⟩ | ⟨g,cap,cur,rfl,k,d,c,o,_,f⟩
 ·have:ps = []:=List.length_eq_zero_iff.1 (by omega);subst this;exact ⟨none,0,rfl,(fun i l a=>by simp at a),(by intro b off s e; cases e),Nat.le_refl _,(by intro b off s e; cases e)⟩
 ·subst hm;refine ⟨some ⟨g,0,none⟩,cap,rfl,fun i l a=>⟨g,0,rfl,?_⟩,(by intro b off s e; cases e; exact Xkj d),c,(by intro b off s e; cases e; exact k)⟩;have n:=(List.getElem?_eq_some_iff.1 a).1;have j:(cur.toList.take ps.length)[i]? = (ps.map ilV)[i]?:=by rw [← f,Nat.mul_one]
  rw [List.getElem?_take,if_pos n,List.getElem?_map,a] at j;rw [Xel d,Nat.zero_add,← Array.getElem?_toList,j];rfl
structure IlY (w:World) (l:IL):Prop where
 ok:XaB w l
 lt:ALt w l.a
theorem IlY.grow {w w':World} {l:IL} (h:IlY w l) (hc:Chg XaX w w'):IlY w' l:=⟨h.ok.grow hc,h.lt.grow hc.size⟩
theorem IlY.far {w w':World} {l:IL} {S:Nat→Prop} (h:IlY w l) (hs:Xa0 S l.a) (hc:Chg S w w'):IlY w' l:=⟨h.ok.far hs hc,h.lt.grow hc.size⟩
theorem IlY.of {w:World} {l:IL} (h:XaB w l) (hp:0<l.x.length):IlY w l:=⟨h,fun b off s e=>by
 obtain ⟨b',off',e',a⟩:=h.rd 0 hp;rw [e] at e'; cases e';exact World.block_lt_of_cell? w _ a⟩
structure Xbo (w:World) (r:RS) (x:Sm) (pl:PlM):Prop where
 p:Xbl w r.p pl
 nums:IlX w r.nums
 opn:IlX w r.opn
 rp:RdP w r.pa r.ps
 plt:ALt w r.pa
 pcap:r.ps.length≤r.pcap
 each:∀ l ∈ r.ps,IlY w l
 e1:r.cls=x.cls
 e2:r.blocks=x.blocks
 e3:r.nums.x=x.pg.map (fun e=>((e.1:Nat):Int))
 e4:r.ps.map (·.x)=x.pg.map (·.2)
 e5:r.opn.x=x.opn.map (fun n:Nat=>(n:Int))
structure Xbp (S:Nat→Prop) (r:RS):Prop where
 o:Xa0 S r.p.o.a
 f:Xa0 S r.p.f.a
 nums:Xa0 S r.nums.a
 opn:Xa0 S r.opn.a
 pa:Xa0 S r.pa
 each:∀ l ∈ r.ps,Xa0 S l.a
theorem Xbo.grow {w w':World} {r:RS} {x:Sm} {pl:PlM} (h:Xbo w r x pl) (hc:Chg XaX w w'):Xbo w' r x pl :=
 ⟨h.p.grow hc,h.nums.grow hc,h.opn.grow hc,h.rp.grow hc,h.plt.grow hc.size,h.pcap,fun l a=>(h.each l a).grow hc,h.e1,h.e2,h.e3,h.e4,h.e5⟩
theorem Xbo.far {w w':World} {r:RS} {x:Sm} {pl:PlM} {S:Nat→Prop} (h:Xbo w r x pl) (ho:Xbp S r) (hc:Chg S w w'):Xbo w' r x pl :=
 ⟨⟨h.p.o.far ho.o hc,h.p.f.far ho.f hc,h.p.eo,h.p.ef⟩,h.nums.far ho.nums hc,h.opn.far ho.opn hc,h.rp.far ho.pa hc,h.plt.grow hc.size,h.pcap,fun l a=>(h.each l a).far (ho.each l a) hc,h.e1,h.e2,h.e3,h.e4,h.e5⟩
theorem Xbo.out {w:World} {r:RS} {x:Sm} {pl:PlM} {S:Nat→Prop} (h:Xbo w r x pl) (hs:∀ z,S z→w.heap.size≤z):Xbp S r :=
 ⟨h.p.o.lt.out hs,h.p.f.lt.out hs,h.nums.lt.out hs,h.opn.lt.out hs,h.plt.out hs,fun l a=>(h.each l a).lt.out hs⟩
def XaG (w:World) (r r':RS):Prop := ∀ S:Nat→Prop,(∀ z,S z→z<w.heap.size)→Xbp S r→Xbp S r'
theorem XaG.refl (w:World) (r:RS):XaG w r r:=fun _ _ h=>h
theorem XaG.trans {w w1:World} {r r1 r2:RS} (h:XaG w r r1) (h':XaG w1 r1 r2) (hs:w.heap.size≤w1.heap.size):XaG w r r2:=fun S a b =>
 h' S (fun z c=>by have:=a z c; omega) (h S a b)
end Go.Proofs.YtgddpaiandefgaaGreatDoor
