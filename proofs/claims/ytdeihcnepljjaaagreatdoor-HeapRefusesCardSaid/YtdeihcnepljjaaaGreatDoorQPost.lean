/-
  Post
-/
import Derived.Test.YtdeihcnepljjaaaGreatDoorQTab
namespace Go.Proofs.YtdeihcnepljjaaaGreatDoor
open Go.RowKit
def X5(v:Value)(w:World):Value->World->Prop:=λu w'=>u=v/\w=w'
def Grow(v:Value)(w:World):Value->World->Prop:=λu w'=>u=v/\Xc Xe w w'
theorem Xf.bQ{P:Program}{k:FuncId}{args:Array Value}{w:World}{v:Value}(h:Xf P k args w (X5 v w)):Xf P k args w (Grow v w):=
 h.mono λ_ _ ⟨a,b⟩=>⟨a,b▸Xc.refl _ _⟩
theorem Q0{a b:Bool}(h:a=b):Value.bool a=.bool b:=by rw[h]
theorem Xiu{a b:Bool}(h:a=b):some (Value.bool a)=some (.bool b):=by rw[h]
theorem XaZ{k:IntKind}{a b:Int}(h:a=b):some (Value.int k a)=some (.int k b):=by rw[h]
theorem Xz{k:IntKind}{a b:Int}(h:a=b):Value.int k a=.int k b:=by rw[h]
end Go.Proofs.YtdeihcnepljjaaaGreatDoor
