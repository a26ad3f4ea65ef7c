/-
  Texts put together: Open, Tied, OpenConf.
-/
import Derived.Test.YtgddpaiandefgaaGreatDoorPt5
import Derived.Test.YtgddpaiandefgaaGreatDoorRows
import Derived.Test.YtgddpaiandefgaaGreatDoorQBase
import Derived.OpenShut
import Derived.ShutString
import Derived.ChangeOld
import Derived.Test.YtgddpaiandefgaaGreatDoorTie
import Derived.Test.YtgddpaiandefgaaGreatDoorCards
import Derived.ProofKit
import Derived.LaidMore
import Derived.Lay
import Derived.SevenTiedAt
import Derived.Stop.Joined
set_option linter.unusedVariables false
set_option maxRecDepth 100000
namespace Go.Proofs.YtgddpaiandefgaaGreatDoor
open Go.RowKit
theorem own:ownKnob Tryz.prog.godebug=none:=by kernel_rfl
theorem laidOut:laidOutB Tryz.prog=true:=by kernel_rfl
section
open Go.ChangeShapes Go.WideShapes Go.ChangeAt Go.RowKit
def laidL : List (String × DataW Unit) := [("math/bits.deBruijn64tab", Rows.laid_math_bits_deBruijn64tab)]
theorem Xig:(Rows.laid_math_bits_deBruijn64tab:DataW Unit) = .agg (deB.map fun n:Nat => .lit (.int .u8 (n:Int))):=by rfl
theorem tab_of_laid {W:World} (h:laidMetH Tryz.prog laidL W):XbA W:=fun r e=>by
 rw [MakeChecks.laidMetH_plain _ _ _ (by kernel_rfl)] at h;obtain ⟨ps,⟨g,t,cs,fuel,p,q,a,f,i,b,_,_⟩,_,_⟩:=h;obtain rfl := Option.some.inj ((show Tryz.prog.globalNamed "math/bits.deBruijn64tab" = some 1 by kernel_rfl).symm.trans a)
 obtain rfl:=Option.some.inj ((show (Tryz.prog.globals[1]?).map (·.type)=some 386 by kernel_rfl).symm.trans f);rw [Xig] at b;obtain ⟨xs,m,_,ex,_,s,c⟩:=DataW.trod_array Tryz.underlying386 b;have j:Tryz.prog.cellsOf 5=1:=by kernel_rfl
 have d:=c r e;rw [j,Nat.mul_one,List.getElem?_eq_getElem (by omega)] at d;obtain ⟨z,e1,e2,_⟩:=DataW.trod_int Tryz.underlying5 d;have k:deB.length=64:=rfl;have e3:(xs.map (·.1))=deB.map fun n:Nat => .lit (.int .u8 (n:Int)):=(DataW.agg.inj (Prod.mk.inj ex).1).symm;have e4:(xs.map (·.1))[r]? = (deB.map fun n:Nat=>(DataW.lit (.int .u8 (n:Int)):DataW Unit))[r]?:=by rw [e3]
 rw [List.getElem?_map,List.getElem?_map,List.getElem?_eq_getElem (by omega:r<xs.length),List.getElem?_eq_getElem (by omega:r<deB.length),e2] at e4;have l:z=(deB.getD r 0:Nat):=by
  simp only [Option.map_some,Option.some.injEq,DataW.lit.injEq,Lit.int.injEq,true_and] at e4;rw [e4,List.getD,List.getElem?_eq_getElem (by omega:r<deB.length)]; rfl
 rw [World.var?_cell a i r,← l];have:cs.toList[r]? = some (.int .u8 z):=by
  have o:((cs.toList.drop r).take 1)[0]? = some (.int .u8 z):=by rw [e1]; rfl
  simpa using o
 simpa using this
end
section
open Go.ChangeShapes Go.WideShapes Go.ChangeAt Go.RowKit
theorem XhN {n:Int} (h:(Lit.int .i64 n).wf=true):XaC n:=by
 simp only [Lit.wf,Bool.and_eq_true,decide_eq_true_eq] at h;exact h
section
variable {H:Type} {enc:TypeId × Value→H} {w:World} {base:Nat} {spare:Nat→Bool} {held:Bool}
theorem Xlk {fuel:Nat} {cs:List Value} {x:DataW H × List MemPlace} (h:DataW.trod enc Tryz.prog w base spare held fuel 22 cs=some x) :
 ∃ a cap zs,cs = [.slice a zs.length cap]∧Rd .i64 w a zs∧zs.length≤cap∧cap≤maxLen ∧ ∀ n ∈ zs,XaC n:=by
 rcases open_ints (P:=Tryz.prog) Tryz.underlying22 Tryz.underlying3 (by kernel_rfl) h with ⟨f,_⟩ | ⟨x,l,c,zs,f,_,r,hm,s,_,e,k⟩
 ·exact ⟨none,0,[],f,Rd.nil _ _ _,Nat.le_refl _,by decide,fun _ h=>by cases h⟩
 ·have d:(zs.take l).length=l:=by
   rw [List.length_take,s]; split <;> omega
  refine ⟨some x,c,zs.take l,by rw [d]; exact f,?_,by rw [d]; exact r,hm,fun n t=>XhN (k n (List.mem_of_mem_take t))⟩;intro i m;rw [d] at m;have o:i<zs.length:=by rw [List.length_take] at d; omega
  have j:=e i o;have g:=e 0 (by omega);obtain ⟨b,off,spot⟩:=x;cases spot with
  |none =>
   refine ⟨b,off,rfl,?_⟩;rw [show (zs.take l).getD i 0=zs.getD i 0 from by simp [List.getD,m]];unfold Addr.add at j;by_cases p:i=0
   ·subst p; exact j
   ·rw [if_neg p] at j; exact j
  |some q =>
   exfalso
   simp only [World.cell?,Addr.add,if_true] at g;split at g <;> simp at g
theorem open_conf {v:Value} {d:DataW H} {ps:List MemPlace} (hval:∃ cs,v = .agg cs) (h:DataW.Trod enc Tryz.prog w base spare held 24 v d ps) :
 ∃ c p,v = .agg (Xe6 c p).toArray∧Xam w c p∧c.keep.length≤p.kc:=by
 obtain ⟨cs,rfl⟩:=hval;obtain ⟨fuel,e⟩:=h;obtain ⟨xs,n,_,_,I,b,a⟩:=DataW.trod_struct (P:=Tryz.prog) Tryz.underlying24 e
 clear e
 have J:=a 0 _ rfl;have K:=a 1 _ rfl;have L:=a 2 _ rfl;have M:=a 3 _ rfl;have N:=a 4 _ rfl;have O:=a 5 _ rfl;have Q:=a 6 _ rfl;have R:=a 7 _ rfl;obtain ⟨cl,rfl⟩:∃ l:List Value,cs=l.toArray:=⟨cs.toList,by simp⟩;have f:cl.length=8:=I
 match xs,b,cl,f with
 |[x0,x1,x2,x3,x4,x5,x6,x7],_,[S,T,U,V,W,c5,c6,c7],_ =>
  obtain ⟨g,e0,_,g0⟩:=DataW.trod_int (P:=Tryz.prog) Tryz.underlying3 J;obtain ⟨i,e1,_,g1⟩:=DataW.trod_int (P:=Tryz.prog) Tryz.underlying3 K;obtain ⟨j,k,m,e2,g2,l2,m2,_⟩:=Xlk L;obtain ⟨o,q,r,e3,g3,l3,m3,_⟩:=Xlk M;obtain ⟨s,e4,_,g4⟩:=DataW.trod_int (P:=Tryz.prog) Tryz.underlying3 N;obtain ⟨t,e5,_,g5⟩:=DataW.trod_int (P:=Tryz.prog) Tryz.underlying3 O;obtain ⟨u,e6,_,g6⟩:=DataW.trod_int (P:=Tryz.prog) Tryz.underlying3 Q;obtain ⟨x,e7,_,g7⟩:=DataW.trod_int (P:=Tryz.prog) Tryz.underlying3 R;have hm:maxLen≤9223372036854775807:=by decide
  refine ⟨⟨g,i,m,r,s,t,u,x⟩,⟨j,k,o,q⟩,?_,⟨g2,g3,by simp only; omega,by simp only; omega,XhN g0⟩,l3⟩;have y : [S] = [.int .i64 g]:=e0;have z : [T] = [.int .i64 i]:=e1;have B : [U] = [.slice j m.length k]:=e2;have C : [V] = [.slice o r.length q]:=e3;have D : [W] = [.int .i64 s]:=e4;have E : [c5] = [.int .i64 t]:=e5;have F : [c6] = [.int .i64 u]:=e6;have G : [c7] = [.int .i64 x]:=e7;cases y; cases z; cases B; cases C; cases D; cases E; cases F; cases G
  rfl
end
end
end Go.Proofs.YtgddpaiandefgaaGreatDoor
