/-
  Rule23
-/
import Derived.Test.YtdeihcnepljjaaaGreatDoorQRule12
import Derived.Test.YtdeihcnepljjaaaGreatDoorQRule10
namespace Go.Proofs.YtdeihcnepljjaaaGreatDoor
open Go.RowKit
section
variable {P:Program}{T:Tab}{ops:Array Oper}{f:FuncId}{R:Aim}{k:List Item}{q n:Nat}{ds:List Deferred}{w w0:World}{e:Env}{U:List Nat}{S:Nat->Prop}
theorem Xd.turn3(hB:Zu ops q=true){i j l:Nat}(h:C4 ops q U U=[i,j,l])(h1:∀w',Xc Xe w w'->Xn P f R n ds k ops q S U i e w0 w')(h2:∀w',Xc Xe w w'->Xn P f R n ds k ops q S U j e w0 w')(h3:∀w',Xc Xe w w'->Xn P f R n ds k ops q S U l e w0 w'):Xd P f R n ds k ops q S U e w0 w:=
 Xd.turns hB h λw' a x hx=>by
  rcases List.mem_cons.1 hx with rfl|hx
  .exact h1 w' a
  .rcases List.mem_cons.1 hx with rfl|hx
   .exact h2 w' a
   .simp at hx;subst hx;exact h3 w' a
theorem Xn.mkmap(hT:Xp P T)(hB:Zu ops q=true){d i:Nat}{U2:List Nat}{e2:Nat->Env}(h:Cs Uh n ops e i=some ((),d))(ha:∀b,Z3 T n ops q (Xt i U) (Xt i U) ((d,false,.map (some b))::e)=(U2,e2 b))(hg:∀b w1,b=w.heap.size->Yx w1 b []->Xc Xe w w1->w1.heap.size=w.heap.size+1->Xd P f R n ds k ops q S U2 (e2 b) w0 w1):Xn P f R n ds k ops q S U i e w0 w:=by
 refine Xn.val (v:=.map (some w.heap.size)) (w1:={w with heap:=w.heap.push (.map #[] 0)}) hT hB h (λo c a hf=>?_) (λh=>h.up (E4 _ _)) (ha _) (hg _ _ rfl ⟨#[],0,by simp,rfl⟩ (E4 _ _) (by simp));unfold Uh at c;split at c
 .rename_i t g
  simp only[execOp,g,Option.map_none];refine(Xh (x:=(.map (some w.heap.size):Value)) (w':={w with heap:=w.heap.push (.map #[] 0)}) ?_).trans rfl;rfl
 .cases c
end
end Go.Proofs.YtdeihcnepljjaaaGreatDoor
