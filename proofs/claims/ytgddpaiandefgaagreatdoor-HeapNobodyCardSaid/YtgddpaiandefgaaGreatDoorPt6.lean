/-
  Texts put together: Open, Tied, OpenRows.
-/
import Derived.Test.YtgddpaiandefgaaGreatDoorPt5
import Derived.Test.YtgddpaiandefgaaGreatDoorRows
import Derived.Test.YtgddpaiandefgaaGreatDoorQBase
import Derived.OpenShut
import Derived.ShutString
import Derived.ChangeOld
import Derived.Test.YtgddpaiandefgaaGreatDoorTie
import Derived.Test.YtgddpaiandefgaaGreatDoorCards
import Derived.ProofKit
import Derived.LaidMore
import Derived.Lay
import Derived.SevenTiedAt
import Derived.Stop.Joined
import Derived.Deep.Slices
set_option linter.unusedVariables false
set_option maxRecDepth 100000
namespace Go.Proofs.YtgddpaiandefgaaGreatDoor
open Go.RowKit
theorem own:ownKnob Tryz.prog.godebug=none:=by kernel_rfl
section
open Go.ChangeShapes Go.WideShapes Go.ChangeAt Go.RowKit
def laidL : List (String × DataW Unit) := [("math/bits.deBruijn64tab", Rows.laid_math_bits_deBruijn64tab)]
theorem Xis:(Rows.laid_math_bits_deBruijn64tab:DataW Unit) = .agg (deB.map fun n:Nat => .lit (.int .u8 (n:Int))):=by rfl
theorem tab_of_laid {W:World} (h:laidMetH Tryz.prog laidL W):Xbz W:=fun r e=>by
 rw [MakeChecks.laidMetH_plain _ _ _ (by kernel_rfl)] at h;obtain ⟨ps,⟨g,t,cs,fuel,p,q,a,f,i,b,_,_⟩,_,_⟩:=h;obtain rfl := Option.some.inj ((show Tryz.prog.globalNamed "math/bits.deBruijn64tab" = some 1 by kernel_rfl).symm.trans a)
 obtain rfl:=Option.some.inj ((show (Tryz.prog.globals[1]?).map (·.type)=some 386 by kernel_rfl).symm.trans f);rw [Xis] at b;obtain ⟨xs,m,_,ex,_,s,c⟩:=DataW.trod_array Tryz.underlying386 b;have j:Tryz.prog.cellsOf 5=1:=by kernel_rfl
 have d:=c r e;rw [j,Nat.mul_one,List.getElem?_eq_getElem (by omega)] at d;obtain ⟨z,e1,e2,_⟩:=DataW.trod_int Tryz.underlying5 d;have k:deB.length=64:=rfl;have e3:(xs.map (·.1))=deB.map fun n:Nat => .lit (.int .u8 (n:Int)):=(DataW.agg.inj (Prod.mk.inj ex).1).symm;have e4:(xs.map (·.1))[r]? = (deB.map fun n:Nat=>(DataW.lit (.int .u8 (n:Int)):DataW Unit))[r]?:=by rw [e3]
 rw [List.getElem?_map,List.getElem?_map,List.getElem?_eq_getElem (by omega:r<xs.length),List.getElem?_eq_getElem (by omega:r<deB.length),e2] at e4;have l:z=(deB.getD r 0:Nat):=by
  simp only [Option.map_some,Option.some.injEq,DataW.lit.injEq,Lit.int.injEq,true_and] at e4;rw [e4,List.getD,List.getElem?_eq_getElem (by omega:r<deB.length)]; rfl
 rw [World.var?_cell a i r,← l];have:cs.toList[r]? = some (.int .u8 z):=by
  have o:((cs.toList.drop r).take 1)[0]? = some (.int .u8 z):=by rw [e1]; rfl
  simpa using o
 simpa using this
end
section
open Go.ChangeShapes Go.WideShapes Go.ChangeAt Go.RowKit
section
variable {H:Type} {enc:TypeId × Value→H} {w:World} {base b0:Nat} {r:Go.Reach} {spare:Nat→Bool} {held:Bool} {P:Program}
end
end
end Go.Proofs.YtgddpaiandefgaaGreatDoor
