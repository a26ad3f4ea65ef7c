/-
  Rule25
-/
import Derived.Test.YtdeihcnepljjaaaGreatDoorQRule3
namespace Go.Proofs.YtdeihcnepljjaaaGreatDoor
open Go.RowKit
section
variable {P:Program}{f:FuncId}{R:Aim}{n:Nat}{ds:List Deferred}{s s0:List Item}{e:Env}{w:World}
theorem Xa.cut{α:Type}(I:α->Env)(xW:α->World->Prop)(use:(∀x w e,xW x w->Mi (I x) e->Xa P f R n ds s0 e w)->Xa P f R n ds s e w)(tail:∀x w,xW x w->Xa P f R n ds s0 (I x) w):Xa P f R n ds s e w:=
 use λx _ _ h a=>Xa.sub a (tail x _ h)
end
end Go.Proofs.YtdeihcnepljjaaaGreatDoor
