/-
  Rule13
-/
import Derived.Test.YtgddpaiandefgaaGreatDoorQRule12
namespace Go.Proofs.YtgddpaiandefgaaGreatDoor
open Go.RowKit
section
variable {P:Program} {T:Tab} {ops:Array Oper} {f:FuncId} {R:Aim} {k:List Item} {q n:Nat} {ds:List Deferred} {w w0:World} {e:Env} {U:List Nat} {S:Nat→Prop}
def XtH (T:Tab) (ops:Array Oper) (e:Env) (i:Nat):Option (Nat × Int × Value) :=
 match nth ops.toList i with
 |some o=>match Xue e ops o,o.dst with
  |some true,none=>match o.op with
   |.mapUpdate t m k x=>match ev e m,ev e k,ev e x,row T t with
    |some (.map (some r)),some (.int .i64 i),some v,some {und := .map kt _,..}=>match row T kt with
     |some {und := .int .i64,..}=>some (r,i,v)
     |_=>none
    |_,_,_,_=>none
   |_=>none
  |_,_=>none
 |none=>none
theorem XbK.mapset (hT:XbB P T) (hB:Xfs ops q=true) {r j:Nat} {i:Int} {v:Value} {m:AL} {U2:List Nat} {e2:Env} (h:XtH T ops e j=some (r,i,v)) (hm:XaL w r m) (hS:r<w0.heap.size→S r)
 (ha:XbV T n ops q (rmN j U) (rmN j U) e=(U2,e2))
 (hg:∀ w1,XaL w1 r (Xcv m i v)→Chg (fun b=>b=r) w w1→w1.heap.size=w.heap.size→Xaq P f R n ds k ops q S U2 e2 w0 w1):XbK P f R n ds k ops q S U j e w0 w:=by
 unfold XtH at h;split at h
 ·rename_i o W
  split at h
  ·rename_i hw hd
   split at h
   ·rename_i t x y z B
    split at h
    ·rename_i r1 i1 v1 kt et _ _ _ l H I J
     split at h
     ·rename_i _ _ _ A
      cases h
      obtain ⟨es,clock,s,u⟩:=hm;have C:=Xjs s;have key:∃ w1,(∀ a,Xau n a e→(execOp a.eval o).run P w = .ok .skip w1)∧XaL w1 r (Xcv m i v)∧Chg (fun b=>b=r) w w1∧w1.heap.size=w.heap.size:=by
       cases g:Xb0 m i with
       |none =>
        refine ⟨{w with heap:=w.heap.setIfInBounds r (.map (es.push {key := .int .i64 i,val:=v,born:=clock}) (clock+1))},fun a d => ?_,⟨_,_,Xhm C,by simpa using XfE (c:=clock) u g⟩,XeI,by simp⟩;simp only [execOp,B,d.ev l,d.ev H,d.ev I];refine (Xpj (x:=()) (w':={w with heap:=w.heap.setIfInBounds r (.map (es.push {key := .int .i64 i,val:=v,born:=clock}) (clock+1))}) ?_).trans rfl;unfold Instr.mapUpdate;refine (Xpj ((hT.row J).underlying w)).trans ?_;simp only
        refine (Xpj (MapKept.run_getObj_map s)).trans ?_;simp only
        refine (Xpj (Xeq hT A rfl)).trans ?_;refine (Xpj (Xf5 hT A rfl u)).trans ?_;rw [g];exact Xpl _ s
       |some p =>
        obtain ⟨pi,pv⟩:=p;have F:=XfC u g;have K:(((es[pi]?).map (·.key)).getD (.int .i64 i)) = .int .i64 i:=by rw [← Array.getElem?_toList,F]; rfl
        refine ⟨{w with heap:=w.heap.setIfInBounds r (.map (es.modify pi fun e=>{e with key := .int .i64 i,val:=v}) clock)},fun a d => ?_,⟨_,_,Xhm C,by simpa using XfF (v':=v) u g⟩,XeI,by simp⟩;simp only [execOp,B,d.ev l,d.ev H,d.ev I];refine (Xpj (x:=()) (w':={w with heap:=w.heap.setIfInBounds r (.map (es.modify pi fun e=>{e with key := .int .i64 i,val:=v}) clock)}) ?_).trans rfl;unfold Instr.mapUpdate;refine (Xpj ((hT.row J).underlying w)).trans ?_;simp only
        refine (Xpj (MapKept.run_getObj_map s)).trans ?_;simp only
        refine (Xpj (Xeq hT A rfl)).trans ?_;refine (Xpj (Xf5 hT A rfl u)).trans ?_;rw [g];simp only
        refine (Xpj (x:=(.int .i64 i:Value)) (w':=w) ?_).trans ?_
        ·rw [K];unfold Instr.keyThatStays;rw [Xpm,if_pos rfl]; rfl
        ·exact Xpl _ s
      obtain ⟨w1,G,L,D,M⟩:=key;intro a N d O Q hU h0;have E:Chg S w0 w1:=h0.since D (fun x l V=>by rw [V] at l ⊢; exact hS l);unfold opG;rw [Xla W];simp only [Xuf d hw,if_true];unfold XgV;rw [G a d,hd];exact ⟨E,Xaq.adv hT hB ha (hg w1 L D M) _ N d (O.rm (Q _ hU)) (fun j hj=>Q j ((XjW O.1.1).1 hj).1) E⟩
     ·cases h
    ·cases h
   ·cases h
  ·cases h
 ·cases h
end
end Go.Proofs.YtgddpaiandefgaaGreatDoor
