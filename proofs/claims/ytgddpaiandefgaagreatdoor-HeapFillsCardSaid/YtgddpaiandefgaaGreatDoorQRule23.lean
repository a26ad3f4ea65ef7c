/-
  Rule23
-/
import Derived.Test.YtgddpaiandefgaaGreatDoorQRule12
import Derived.Test.YtgddpaiandefgaaGreatDoorQRule10
namespace Go.Proofs.YtgddpaiandefgaaGreatDoor
open Go.RowKit
section
variable {P:Program} {T:Tab} {ops:Array Oper} {f:FuncId} {R:Aim} {k:List Item} {q n:Nat} {ds:List Deferred} {w w0:World} {e:Env} {U:List Nat} {S:Nat→Prop}
theorem Xaq.turn3 (hB:XfJ ops q=true) {i j l:Nat} (h:XgS ops q U U = [i,j,l]) (h1:∀ w',Chg XaX w w'→XbO P f R n ds k ops q S U i e w0 w') (h2:∀ w',Chg XaX w w'→XbO P f R n ds k ops q S U j e w0 w') (h3:∀ w',Chg XaX w w'→XbO P f R n ds k ops q S U l e w0 w'):Xaq P f R n ds k ops q S U e w0 w :=
 Xaq.turns hB h fun w' a x hx=>by
  rcases List.mem_cons.1 hx with rfl | hx
  ·exact h1 w' a
  ·rcases List.mem_cons.1 hx with rfl | hx
   ·exact h2 w' a
   ·simp at hx; subst hx; exact h3 w' a
theorem XbO.mkmap (hT:XbE P T) (hB:XfJ ops q=true) {d i:Nat} {U2:List Nat} {e2:Nat→Env} (h:Xc2 Xk4 n ops e i=some ((),d))
 (ha:∀ b,Xb2 T n ops q (rmN i U) (rmN i U) ((d,false,.map (some b))::e)=(U2,e2 b))
 (hg:∀ b w1,b=w.heap.size→XaL w1 b []→Chg XaX w w1→w1.heap.size=w.heap.size+1→Xaq P f R n ds k ops q S U2 (e2 b) w0 w1):XbO P f R n ds k ops q S U i e w0 w:=by
 refine XbO.val (v := .map (some w.heap.size)) (w1:={w with heap:=w.heap.push (.map #[] 0)}) hT hB h (fun o c a hf => ?_) (fun h=>h.up (XeT _ _)) (ha _) (hg _ _ rfl ⟨#[],0,by simp,rfl⟩ (XeT _ _) (by simp));unfold Xk4 at c;split at c
 ·rename_i t g
  simp only [execOp,g,Option.map_none];refine (XqJ (x:=(.map (some w.heap.size):Value)) (w':={w with heap:=w.heap.push (.map #[] 0)}) ?_).trans rfl;rfl
 ·cases c
end
end Go.Proofs.YtgddpaiandefgaaGreatDoor
