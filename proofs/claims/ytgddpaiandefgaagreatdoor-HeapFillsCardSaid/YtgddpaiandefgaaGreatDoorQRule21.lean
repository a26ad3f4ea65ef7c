/-
  Rule21
-/
import Derived.Test.YtgddpaiandefgaaGreatDoorQRule9
namespace Go.Proofs.YtgddpaiandefgaaGreatDoor
open Go.RowKit
section
variable {P:Program} {T:Tab} {ops:Array Oper} {f:FuncId} {R:Aim} {k:List Item} {q n:Nat} {ds:List Deferred} {s s':List Item} {w w0:World} {e e':Env} {U:List Nat} {S:Nat→Prop}
end
end Go.Proofs.YtgddpaiandefgaaGreatDoor
