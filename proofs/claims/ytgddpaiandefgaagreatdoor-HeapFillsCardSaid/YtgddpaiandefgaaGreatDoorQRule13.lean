/-
  Rule13
-/
import Derived.Test.YtgddpaiandefgaaGreatDoorQRule12
namespace Go.Proofs.YtgddpaiandefgaaGreatDoor
open Go.RowKit
section
variable {P:Program} {T:Tab} {ops:Array Oper} {f:FuncId} {R:Aim} {k:List Item} {q n:Nat} {ds:List Deferred} {w w0:World} {e:Env} {U:List Nat} {S:Nat→Prop}
def Xvu (T:Tab) (ops:Array Oper) (e:Env) (i:Nat):Option (Nat × Int × Value) :=
 match nth ops.toList i with
 |some o=>match Xv3 e ops o,o.dst with
  |some true,none=>match o.op with
   |.mapUpdate t m k x=>match ev e m,ev e k,ev e x,row T t with
    |some (.map (some r)),some (.int .i64 i),some v,some {und := .map kt _,..}=>match row T kt with
     |some {und := .int .i64,..}=>some (r,i,v)
     |_=>none
    |_,_,_,_=>none
   |_=>none
  |_,_=>none
 |none=>none
theorem XbO.mapset (hT:XbE P T) (hB:XfJ ops q=true) {r j:Nat} {i:Int} {v:Value} {m:AL} {U2:List Nat} {e2:Env} (h:Xvu T ops e j=some (r,i,v)) (hm:XaL w r m) (hS:r<w0.heap.size→S r)
 (ha:Xb2 T n ops q (rmN j U) (rmN j U) e=(U2,e2))
 (hg:∀ w1,XaL w1 r (XcC m i v)→Chg (fun b=>b=r) w w1→w1.heap.size=w.heap.size→Xaq P f R n ds k ops q S U2 e2 w0 w1):XbO P f R n ds k ops q S U j e w0 w:=by
 unfold Xvu at h;split at h
 ·rename_i o V
  split at h
  ·rename_i W hd
   split at h
   ·rename_i t x y z A
    split at h
    ·rename_i r1 i1 v1 kt et _ _ _ g G H I
     split at h
     ·rename_i _ _ _ u
      cases h
      obtain ⟨es,clock,l,s⟩:=hm;have B:=Xkj l;have key:∃ w1,(∀ a,Xau n a e→(execOp a.eval o).run P w = .ok .skip w1)∧XaL w1 r (XcC m i v)∧Chg (fun b=>b=r) w w1∧w1.heap.size=w.heap.size:=by
       cases d:Xb7 m i with
       |none =>
        refine ⟨{w with heap:=w.heap.setIfInBounds r (.map (es.push {key := .int .i64 i,val:=v,born:=clock}) (clock+1))},fun a hf => ?_,⟨_,_,XhT B,by simpa using XfV (c:=clock) s d⟩,XeX,by simp⟩;simp only [execOp,A,hf.ev g,hf.ev G,hf.ev H];refine (XqJ (x:=()) (w':={w with heap:=w.heap.setIfInBounds r (.map (es.push {key := .int .i64 i,val:=v,born:=clock}) (clock+1))}) ?_).trans rfl;unfold Instr.mapUpdate;refine (XqJ ((hT.row I).underlying w)).trans ?_;simp only
        refine (XqJ (MapKept.run_getObj_map l)).trans ?_;simp only
        refine (XqJ (XeF hT u rfl)).trans ?_;refine (XqJ (Xgo hT u rfl s)).trans ?_;rw [d];exact XqL _ l
       |some p =>
        obtain ⟨pi,pv⟩:=p;have E:=XfT s d;have J:(((es[pi]?).map (·.key)).getD (.int .i64 i)) = .int .i64 i:=by rw [← Array.getElem?_toList,E]; rfl
        refine ⟨{w with heap:=w.heap.setIfInBounds r (.map (es.modify pi fun e=>{e with key := .int .i64 i,val:=v}) clock)},fun a hf => ?_,⟨_,_,XhT B,by simpa using XfW (v':=v) s d⟩,XeX,by simp⟩;simp only [execOp,A,hf.ev g,hf.ev G,hf.ev H];refine (XqJ (x:=()) (w':={w with heap:=w.heap.setIfInBounds r (.map (es.modify pi fun e=>{e with key := .int .i64 i,val:=v}) clock)}) ?_).trans rfl;unfold Instr.mapUpdate;refine (XqJ ((hT.row I).underlying w)).trans ?_;simp only
        refine (XqJ (MapKept.run_getObj_map l)).trans ?_;simp only
        refine (XqJ (XeF hT u rfl)).trans ?_;refine (XqJ (Xgo hT u rfl s)).trans ?_;rw [d];simp only
        refine (XqJ (x:=(.int .i64 i:Value)) (w':=w) ?_).trans ?_
        ·rw [J];unfold Instr.keyThatStays;rw [XqM,if_pos rfl]; rfl
        ·exact XqL _ l
      obtain ⟨w1,F,K,C,L⟩:=key;intro a M hf N O hU h0;have D:Chg S w0 w1:=h0.since C (fun x g Q=>by rw [Q] at g ⊢; exact hS g);unfold opG;rw [Xl5 V];simp only [Xv4 hf W,if_true];unfold Xhp;rw [F a hf,hd];exact ⟨D,Xaq.adv hT hB ha (hg w1 K C L) _ M hf (N.rm (O _ hU)) (fun j hj=>O j ((XkQ N.1.1).1 hj).1) D⟩
     ·cases h
    ·cases h
   ·cases h
  ·cases h
 ·cases h
end
end Go.Proofs.YtgddpaiandefgaaGreatDoor
