/-
  Post
-/
import Derived.Test.YtgddpaiandefgaaGreatDoorQTab
namespace Go.Proofs.YtgddpaiandefgaaGreatDoor
open Go.RowKit
def Xbs (v:Value) (w:World):Value→World→Prop:=fun u w'=>u=v∧w=w'
def Grow (v:Value) (w:World):Value→World→Prop:=fun u w'=>u=v∧Chg XaX w w'
theorem Xan.grow {P:Program} {k:FuncId} {args:Array Value} {w:World} {v:Value} (h:Xan P k args w (Xbs v w)):Xan P k args w (Grow v w) :=
 h.mono fun _ _ ⟨a,b⟩=>⟨a,b▸Chg.refl _ _⟩
theorem XdW {a b:Bool} (h:a=b):Value.bool a = .bool b:=by rw [h]
theorem XdV {a b:Bool} (h:a=b):some (Value.bool a)=some (.bool b):=by rw [h]
theorem XiH {k:IntKind} {a b:Int} (h:a=b):Value.int k a = .int k b:=by rw [h]
end Go.Proofs.YtgddpaiandefgaaGreatDoor
