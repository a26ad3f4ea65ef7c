/-
  Rule12
-/
import Derived.Test.YtgddpaiandefgaaGreatDoorQRule11
namespace Go.Proofs.YtgddpaiandefgaaGreatDoor
open Go.RowKit
section
variable {P:Program} {T:Tab} {ops:Array Oper} {f:FuncId} {R:Aim} {k:List Item} {q n:Nat} {ds:List Deferred} {w w0:World} {e:Env} {U:List Nat} {S:Nat→Prop}
theorem XbO.make (hT:XbE P T) (hB:XfJ ops q=true) {z:List Value} {q' by' d i:Nat} {l c:Int} {m kk:Nat} {U2:List Nat} {e2:Nat→Env} (h:Xc2 (Xky T e) n ops e i=some ((z,q',by',l,c),d)) (hl:l=m) (hc:c=kk) (hmk:m≤kk) (hb:by'*kk≤140737488355328) (hk:kk≤9223372036854775807)
 (ha:∀ b,Xb2 T n ops q (rmN i U) (rmN i U) ((d,false,.slice (some ⟨b,0,none⟩) m kk)::e)=(U2,e2 b))
 (hg:∀ b w1,b=w.heap.size→w1.heap[b]? = some (.cells (XwJ z kk).toArray q' (0,0))→Chg XaX w w1→w1.heap.size=w.heap.size+1→Xaq P f R n ds k ops q S U2 (e2 b) w0 w1):XbO P f R n ds k ops q S U i e w0 w :=
 XbO.val hT hB h (fun _ g a hf=>Xkz hT g hl hc hmk hb hk a hf w) (fun h=>h.up (XeT _ _)) (ha _) (hg _ _ rfl (by simp) (XeT _ _) (by simp))
end
end Go.Proofs.YtgddpaiandefgaaGreatDoor
