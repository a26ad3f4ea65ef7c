/-
  Post
-/
import Derived.Test.YtnaoiegcobineaaGreatDoorQTab
namespace Go.Proofs.YtnaoiegcobineaaGreatDoor
open Go.RowKit
def Same (v:Value) (w:World):Value→World→Prop:=fun u w'=>u=v∧w=w'
def Grow (v:Value) (w:World):Value→World→Prop:=fun u w'=>u=v∧Chg None' w w'
theorem Does.grow {P:Program} {k:FuncId} {args:Array Value} {w:World} {v:Value} (h:Does P k args w (Same v w)):Does P k args w (Grow v w) :=
 h.mono fun _ _ ⟨h1,h2⟩=>⟨h1,h2▸Chg.refl _ _⟩
theorem bool_v {a b:Bool} (h:a=b):Value.bool a = .bool b:=by rw [h]
theorem bool_s {a b:Bool} (h:a=b):some (Value.bool a)=some (.bool b):=by rw [h]
theorem int_v {k:IntKind} {a b:Int} (h:a=b):Value.int k a = .int k b:=by rw [h]
end Go.Proofs.YtnaoiegcobineaaGreatDoor
