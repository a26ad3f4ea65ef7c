/-
  Rule19
-/
import Derived.Test.YtgddpaiandefgaaGreatDoorQRule18
namespace Go.Proofs.YtgddpaiandefgaaGreatDoor
open Go.RowKit
section
variable {P:Program} {T:Tab} {ops:Array Oper} {f:FuncId} {R:Aim} {k:List Item} {q n:Nat} {ds:List Deferred} {s s':List Item} {w w0:World} {e:Env} {U:List Nat} {S:Nat→Prop}
theorem XbK.loads (hT:XbB P T) (hB:Xfs ops q=true) {b off m d i:Nat} {c vs:List Value} {t:TypeId} {fz:Nat × Nat} {U2:List Nat} {e2:Env} (h:XcV (Xi6 T e) n ops e i=some ((b,off,some m),d))
 (hc:w.heap[b]? = some (.cells c.toArray t fz)) (hv:cut c off m=some vs)
 (ha:XbV T n ops q (rmN i U) (rmN i U) ((d,false,.agg vs.toArray)::e)=(U2,e2)) (hg:Xaq P f R n ds k ops q S U2 e2 w0 w):XbK P f R n ds k ops q S U i e w0 w :=
 XbK.val hT hB h (fun _ g a j=>Xjc hT g hc hv a j) id ha hg
end
end Go.Proofs.YtgddpaiandefgaaGreatDoor
