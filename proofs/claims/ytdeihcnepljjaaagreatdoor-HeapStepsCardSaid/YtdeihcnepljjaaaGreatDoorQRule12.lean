/-
  Rule12
-/
import Derived.Test.YtdeihcnepljjaaaGreatDoorQRule11
namespace Go.Proofs.YtdeihcnepljjaaaGreatDoor
open Go.RowKit
section
variable {P:Program}{T:Tab}{ops:Array Oper}{f:FuncId}{R:Aim}{k:List Item}{q n:Nat}{ds:List Deferred}{w w0:World}{e:Env}{U:List Nat}{S:Nat->Prop}
theorem Xo.make(hT:Xp P T)(hB:Z0 ops q=true){z:List Value}{q' by' d i:Nat}{l c:Int}{m kk:Nat}{U2:List Nat}{e2:Nat->Env}(h:Cp (Vc T e) n ops e i=some ((z,q',by',l,c),d))(hl:l=m)(hc:c=kk)(hmk:m<=kk)(hb:by'*kk<=140737488355328)(hk:kk<=9223372036854775807)(ha:∀b,Z7 T n ops q (Xv i U) (Xv i U) ((d,false,.slice (some ⟨b,0,none⟩) m kk)::e)=(U2,e2 b))(hg:∀b w1,b=w.heap.size->w1.heap[b]?=some (.cells (Qa z kk).toArray q' (0,0))->Xc Xf w w1->w1.heap.size=w.heap.size+1->Xd P f R n ds k ops q S U2 (e2 b) w0 w1):Xo P f R n ds k ops q S U i e w0 w:=
 Xo.val hT hB h (λ_ g a hf=>Xfz hT g hl hc hmk hb hk a hf w) (λh=>h.up (E5 _ _)) (ha _) (hg _ _ rfl xS (E5 _ _) xS)
end
end Go.Proofs.YtdeihcnepljjaaaGreatDoor
