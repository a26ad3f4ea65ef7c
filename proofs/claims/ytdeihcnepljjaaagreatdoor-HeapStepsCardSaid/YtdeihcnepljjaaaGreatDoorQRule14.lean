/-
  Rule14
-/
import Derived.Test.YtdeihcnepljjaaaGreatDoorQRule13
import Derived.Laws.StructEq
namespace Go.Proofs.YtdeihcnepljjaaaGreatDoor
open Go.RowKit
section
variable {P:Program}{T:Tab}{ops:Array Oper}{f:FuncId}{R:Aim}{k:List Item}{n:Nat}{ds:List Deferred}{s s':List Item}{w:World}{e:Env}
end
end Go.Proofs.YtdeihcnepljjaaaGreatDoor
