/-
  Rule20
-/
import Derived.Test.YtdeihcnepljjaaaGreatDoorQRule15
namespace Go.Proofs.YtdeihcnepljjaaaGreatDoor
open Go.RowKit
section
variable {P:Program}{T:Tab}{ops:Array Oper}{f:FuncId}{R:Aim}{k:List Item}{n q:Nat}{ds:List Deferred}{s s':List Item}{w w0:World}{e:Env}{U:List Nat}{S:Nat->Prop}
end
end Go.Proofs.YtdeihcnepljjaaaGreatDoor
