/-
  Rule26
-/
import Derived.Test.YtdeihcnepljjaaaGreatDoorQRule24
namespace Go.Proofs.YtdeihcnepljjaaaGreatDoor
open Go.RowKit
section
variable {P:Program}{T:Tab}{f:FuncId}{R:Aim}{Post:Value->World->Prop}{n:Nat}{ds:List Deferred}{s s':List Item}{e e':Env}{w w':World}
end
end Go.Proofs.YtdeihcnepljjaaaGreatDoor
