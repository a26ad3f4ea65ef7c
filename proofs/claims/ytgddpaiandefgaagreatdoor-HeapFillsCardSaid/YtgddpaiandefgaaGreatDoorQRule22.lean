/-
  Rule22
-/
import Derived.Test.YtgddpaiandefgaaGreatDoorQRule20
namespace Go.Proofs.YtgddpaiandefgaaGreatDoor
open Go.RowKit
section
variable {P:Program} {T:Tab} {ops:Array Oper} {f:FuncId} {R:Aim} {k:List Item} {n q:Nat} {ds:List Deferred} {s s':List Item} {w w0:World} {e:Env} {U:List Nat} {S:Nat→Prop}
def Xgc (T:Tab) (e:Env) (o:Oper):Option (Array Value × Nat × Nat) :=
 match o.op with
 |.field t x j=>match ev e x,row T t with
  |some (.agg c),some {und := .struct fs,..}=>match fs[j]? with
   |some fd=>match row T fd.type with
    |some {und := .struct _,size:=z,..}=>some (c,fd.offset,z)
    |_=>none
   |none=>none
  |_,_=>none
 |_=>none
theorem Xgd (hT:XbE P T) {c:Array Value} {o z:Nat} {v:Value} {op:Oper} (h:Xgc T e op=some (c,o,z)) (hv:Value.agg (c.extract o (o+z))=v) (act:Act) (hf:Xau n act e):(execOp act.eval op).run P w = .ok (.value v) w:=by
 subst hv;unfold Xgc at h;split at h
 ·rename_i t x j b
  split at h
  ·rename_i l fs _ _ _ f g
   split at h
   ·rename_i fd d
    split at h
    ·rename_i k p _ _ a
     cases h
     simp only [execOp,b,hf.ev f];refine (XqJ (x:=(.agg (c.extract fd.offset (fd.offset+z)):Value)) (w':=w) ?_).trans rfl;unfold Instr.field;rw [XqJ ((hT.row g).underlying w)];simp only [d,asAgg];rw [XqJ (show (pure c:Sem (Array Value)).run P w = .ok c w from rfl)];have i:(isAgg fd.type).run P w = .ok true w:=by
      unfold isAgg;rw [XqJ ((hT.row a).underlying w)]; rfl
     unfold part;rw [XqJ i];show (do let m ← sizeOf fd.type; pure (Value.agg (c.extract fd.offset (fd.offset+m))):Sem Value).run P w=_
     rw [XqJ ((hT.row a).sizeOf w)]; rfl
    ·cases h
   ·cases h
  ·cases h
 ·cases h
theorem Xay.field (hT:XbE P T) {c:Array Value} {o z d:Nat} {v:Value} {s2:List Item} {e2:Env} (h:XcY (Xgc T e) n s e=some ((c,o,z),d,s')) (hv:Value.agg (c.extract o (o+z))=v)
 (ha:Go.Proofs.YtgddpaiandefgaaGreatDoor.adv T n 400 s' ((d,false,v)::e)=(s2,e2)) (hG:Xay P f R n ds s2 e2 w):Xay P f R n ds s e w :=
 Xay.val h (fun _ b a hf=>Xgd hT b hv a hf) (Xay.adv hT 400 ha hG)
theorem Xaq.field (hT:XbE P T) (hB:XfJ ops q=true) {c:Array Value} {o z d i:Nat} {v:Value} {U2:List Nat} {e2:Env} (h:Xgm (Xgc T e) n ops q U e U=some ((c,o,z),d,i)) (hv:Value.agg (c.extract o (o+z))=v)
 (ha:Xb2 T n ops q (rmN i U) (rmN i U) ((d,false,v)::e)=(U2,e2)) (hG:Xaq P f R n ds k ops q S U2 e2 w0 w):Xaq P f R n ds k ops q S U e w0 w :=
 Xaq.val hT hB h (fun _ b a w' _ hf=>Xgd hT b hv a hf) ha hG
end
end Go.Proofs.YtgddpaiandefgaaGreatDoor
