/-
  Post
-/
import Derived.Test.YtdeihcnepljjaaaGreatDoorQTab
namespace Go.Proofs.YtdeihcnepljjaaaGreatDoor
open Go.RowKit
def X9(v:Value)(w:World):Value->World->Prop:=λu w'=>u=v/\w=w'
def Grow(v:Value)(w:World):Value->World->Prop:=λu w'=>u=v/\Xc Xf w w'
theorem Xe.bQ{P:Program}{k:FuncId}{args:Array Value}{w:World}{v:Value}(h:Xe P k args w (X9 v w)):Xe P k args w (Grow v w):=
 h.mono λ_ _ ⟨a,b⟩=>⟨a,b▸Xc.refl _ _⟩
theorem Q5{a b:Bool}(h:a=b):Value.bool a=.bool b:=by rw[h]
theorem Xjf{a b:Bool}(h:a=b):some (Value.bool a)=some (.bool b):=by rw[h]
theorem Xbr{k:IntKind}{a b:Int}(h:a=b):some (Value.int k a)=some (.int k b):=by rw[h]
theorem X0{k:IntKind}{a b:Int}(h:a=b):Value.int k a=.int k b:=by rw[h]
end Go.Proofs.YtdeihcnepljjaaaGreatDoor
