/-
  Post
-/
import Derived.Test.YtohjeeapehmkcaaGreatDoorQTab
namespace Go.Proofs.YtohjeeapehmkcaaGreatDoor
open Go.RowKit
def Za(v:Value)(w:World):Value->World->Prop:=λu w'=>u=v/\w=w'
def Grow(v:Value)(w:World):Value->World->Prop:=λu w'=>u=v/\Xc Xe w w'
theorem Xf.grow{P:Program}{k:FuncId}{args:Array Value}{w:World}{v:Value}(h:Xf P k args w (Za v w)):Xf P k args w (Grow v w):=
 h.mono λ_ _ ⟨a,b⟩=>⟨a,b▸Xc.refl _ _⟩
theorem Ai{a b:Bool}(h:a=b):Value.bool a=.bool b:=by rw[h]
theorem Xib{a b:Bool}(h:a=b):some (Value.bool a)=some (.bool b):=by rw[h]
theorem Xax{k:IntKind}{a b:Int}(h:a=b):some (Value.int k a)=some (.int k b):=by rw[h]
theorem X0{k:IntKind}{a b:Int}(h:a=b):Value.int k a=.int k b:=by rw[h]
end Go.Proofs.YtohjeeapehmkcaaGreatDoor
