/-
  Rule22
-/
import Derived.Test.YtnaoiegcobineaaGreatDoorQRule20
namespace Go.Proofs.YtnaoiegcobineaaGreatDoor
open Go.RowKit
section
variable {P:Program} {T:Tab} {ops:Array Oper} {f:FuncId} {R:Aim} {k:List Item} {n q:Nat} {ds:List Deferred} {s s':List Item} {w w0:World} {e:Env} {U:List Nat} {S:Nat→Prop}
def fieldOf (T:Tab) (e:Env) (o:Oper):Option (Array Value × Nat × Nat) :=
 match o.op with
 |.field t x j=>match ev e x,row T t with
  |some (.agg c),some {und := .struct fs,..}=>match fs[j]? with
   |some fd=>match row T fd.type with
    |some {und := .struct _,size:=z,..}=>some (c,fd.offset,z)
    |_=>none
   |none=>none
  |_,_=>none
 |_=>none
theorem fieldOf_run (hT:TabOk P T) {c:Array Value} {o z:Nat} {v:Value} {op:Oper} (h:fieldOf T e op=some (c,o,z)) (hv:Value.agg (c.extract o (o+z))=v) (act:Act) (hf:Fits n act e):(execOp act.eval op).run P w = .ok (.value v) w:=by
 subst hv
 unfold fieldOf at h
 split at h
 ·rename_i t x j hop
  split at h
  ·rename_i c1 fs _ _ _ hx hr
   split at h
   ·rename_i fd hfd
    split at h
    ·rename_i fs2 z1 _ _ hr2
     cases h
     simp only [execOp,hop,hf.ev hx]
     refine (run_bind_ok (x:=(.agg (c.extract fd.offset (fd.offset+z)):Value)) (w':=w) ?_).trans rfl
     unfold Instr.field
     rw [run_bind_ok ((hT.row hr).underlying w)]
     simp only [hfd,asAgg]
     rw [run_bind_ok (show (pure c:Sem (Array Value)).run P w = .ok c w from rfl)]
     have hA:(isAgg fd.type).run P w = .ok true w:=by
      unfold isAgg
      rw [run_bind_ok ((hT.row hr2).underlying w)]; rfl
     unfold part
     rw [run_bind_ok hA]
     show (do let m ← sizeOf fd.type; pure (Value.agg (c.extract fd.offset (fd.offset+m))):Sem Value).run P w=_
     rw [run_bind_ok ((hT.row hr2).sizeOf w)]; rfl
    ·cases h
   ·cases h
  ·cases h
 ·cases h
theorem Goes.field (hT:TabOk P T) {c:Array Value} {o z d:Nat} {v:Value} {s2:List Item} {e2:Env} (h:atHead (fieldOf T e) n s e=some ((c,o,z),d,s')) (hv:Value.agg (c.extract o (o+z))=v)
 (ha:Go.Proofs.YtnaoiegcobineaaGreatDoor.adv T n 400 s' ((d,false,v)::e)=(s2,e2)) (hG:Goes P f R n ds s2 e2 w):Goes P f R n ds s e w :=
 Goes.val h (fun _ ho a hf=>fieldOf_run hT ho hv a hf) (Goes.adv hT 400 ha hG)
theorem Drawn.field (hT:TabOk P T) (hB:drawB ops q=true) {c:Array Value} {o z d i:Nat} {v:Value} {U2:List Nat} {e2:Env} (h:findD (fieldOf T e) n ops q U e U=some ((c,o,z),d,i)) (hv:Value.agg (c.extract o (o+z))=v)
 (ha:advD T n ops q (rmN i U) (rmN i U) ((d,false,v)::e)=(U2,e2)) (hG:Drawn P f R n ds k ops q S U2 e2 w0 w):Drawn P f R n ds k ops q S U e w0 w :=
 Drawn.val hT hB h (fun _ ho a w' _ hf=>fieldOf_run hT ho hv a hf) ha hG
end
end Go.Proofs.YtnaoiegcobineaaGreatDoor
