/-
  Rule23
-/
import Derived.Test.YtdeihcnepljjaaaGreatDoorQRule12
import Derived.Test.YtdeihcnepljjaaaGreatDoorQRule10
namespace Go.Proofs.YtdeihcnepljjaaaGreatDoor
open Go.RowKit
section
variable {P:Program}{T:Tab}{ops:Array Oper}{f:FuncId}{R:Aim}{k:List Item}{q n:Nat}{ds:List Deferred}{w w0:World}{e:Env}{U:List Nat}{S:Nat->Prop}
theorem Xd.turn3(hB:Z0 ops q=true){i j l:Nat}(h:C3 ops q U U=[i,j,l])(h1:∀w',Xc Xf w w'->Xo P f R n ds k ops q S U i e w0 w')(h2:∀w',Xc Xf w w'->Xo P f R n ds k ops q S U j e w0 w')(h3:∀w',Xc Xf w w'->Xo P f R n ds k ops q S U l e w0 w'):Xd P f R n ds k ops q S U e w0 w:=
 Xd.turns hB h λw' a x hx=>by
  rcases List.mem_cons.1 hx with rfl|hx
  .exact h1 w' a
  .rcases List.mem_cons.1 hx with rfl|hx
   .exact h2 w' a
   .simp at hx;subst hx;exact h3 w' a
theorem Xo.mkmap(hT:Xp P T)(hB:Z0 ops q=true){d i:Nat}{U2:List Nat}{e2:Nat->Env}(h:Cp Ve n ops e i=some ((),d))(ha:∀b,Z7 T n ops q (Xv i U) (Xv i U) ((d,false,.map (some b))::e)=(U2,e2 b))(hg:∀b w1,b=w.heap.size->Y7 w1 b []->Xc Xf w w1->w1.heap.size=w.heap.size+1->Xd P f R n ds k ops q S U2 (e2 b) w0 w1):Xo P f R n ds k ops q S U i e w0 w:=by
 refine Xo.val (v:=.map (some w.heap.size)) (w1:={w with heap:=w.heap.push (.map #[] 0)}) hT hB h (λo c a hf=>?_) (λh=>h.up (E5 _ _)) (ha _) (hg _ _ rfl ⟨#[],0,xS,rfl⟩ (E5 _ _) xS);unfold Ve at c;split at c
 .rename_i t g
  simp only[execOp,g,Option.map_none];refine(Xh (x:=(.map (some w.heap.size):Value)) (w':={w with heap:=w.heap.push (.map #[] 0)}) ?_).trans rfl;rfl
 .cases c
end
end Go.Proofs.YtdeihcnepljjaaaGreatDoor
