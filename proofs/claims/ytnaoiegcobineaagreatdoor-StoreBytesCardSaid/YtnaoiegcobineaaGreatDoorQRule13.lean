/-
  Rule13
-/
import Derived.Test.YtnaoiegcobineaaGreatDoorQRule12
namespace Go.Proofs.YtnaoiegcobineaaGreatDoor
open Go.RowKit
section
variable {P:Program} {T:Tab} {ops:Array Oper} {f:FuncId} {R:Aim} {k:List Item} {q n:Nat} {ds:List Deferred} {w w0:World} {e:Env} {U:List Nat} {S:Nat→Prop}
def updTurn (T:Tab) (ops:Array Oper) (e:Env) (i:Nat):Option (Nat × Int × Value) :=
 match nth ops.toList i with
 |some o=>match want e ops o,o.dst with
  |some true,none=>match o.op with
   |.mapUpdate t m k x=>match ev e m,ev e k,ev e x,row T t with
    |some (.map (some r)),some (.int .i64 i),some v,some {und := .map kt _,..}=>match row T kt with
     |some {und := .int .i64,..}=>some (r,i,v)
     |_=>none
    |_,_,_,_=>none
   |_=>none
  |_,_=>none
 |none=>none
theorem Turn.mapset (hT:TabOk P T) (hB:drawB ops q=true) {r j:Nat} {i:Int} {v:Value} {m:AL} {U2:List Nat} {e2:Env} (h:updTurn T ops e j=some (r,i,v)) (hm:MapAt w r m) (hS:r<w0.heap.size→S r)
 (ha:advD T n ops q (rmN j U) (rmN j U) e=(U2,e2))
 (hg:∀ w1,MapAt w1 r (aput m i v)→Chg (fun b=>b=r) w w1→w1.heap.size=w.heap.size→Drawn P f R n ds k ops q S U2 e2 w0 w1):Turn P f R n ds k ops q S U j e w0 w:=by
 unfold updTurn at h
 split at h
 ·rename_i o ho
  split at h
  ·rename_i hw hd
   split at h
   ·rename_i t x y z hop
    split at h
    ·rename_i r1 i1 v1 kt et _ _ _ hx hy hz hr
     split at h
     ·rename_i _ _ _ hk
      cases h
      obtain ⟨es,clock,h1,h2⟩:=hm
      have hlt:=lt_of_heap h1
      have key:∃ w1,(∀ a,Fits n a e→(execOp a.eval o).run P w = .ok .skip w1)∧MapAt w1 r (aput m i v)∧Chg (fun b=>b=r) w w1∧w1.heap.size=w.heap.size:=by
       cases hf':afind m i with
       |none =>
        refine ⟨{w with heap:=w.heap.setIfInBounds r (.map (es.push {key := .int .i64 i,val:=v,born:=clock}) (clock+1))},fun a hf => ?_,⟨_,_,heap_setObj hlt,by simpa using ents_push (c:=clock) h2 hf'⟩,chg_setObj,by simp⟩
        simp only [execOp,hop,hf.ev hx,hf.ev hy,hf.ev hz]
        refine (run_bind_ok (x:=()) (w':={w with heap:=w.heap.setIfInBounds r (.map (es.push {key := .int .i64 i,val:=v,born:=clock}) (clock+1))}) ?_).trans rfl
        unfold Instr.mapUpdate
        refine (run_bind_ok ((hT.row hr).underlying w)).trans ?_
        simp only
        refine (run_bind_ok (MapKept.run_getObj_map h1)).trans ?_
        simp only
        refine (run_bind_ok (checkKey_int hT hk rfl)).trans ?_
        refine (run_bind_ok (findKey_int hT hk rfl h2)).trans ?_
        rw [hf']
        exact run_setObj_map' _ h1
       |some p =>
        obtain ⟨pi,pv⟩:=p
        have hkey:=ents_find h2 hf'
        have hk2:(((es[pi]?).map (·.key)).getD (.int .i64 i)) = .int .i64 i:=by rw [← Array.getElem?_toList,hkey]; rfl
        refine ⟨{w with heap:=w.heap.setIfInBounds r (.map (es.modify pi fun e=>{e with key := .int .i64 i,val:=v}) clock)},fun a hf => ?_,⟨_,_,heap_setObj hlt,by simpa using ents_put (v':=v) h2 hf'⟩,chg_setObj,by simp⟩
        simp only [execOp,hop,hf.ev hx,hf.ev hy,hf.ev hz]
        refine (run_bind_ok (x:=()) (w':={w with heap:=w.heap.setIfInBounds r (.map (es.modify pi fun e=>{e with key := .int .i64 i,val:=v}) clock)}) ?_).trans rfl
        unfold Instr.mapUpdate
        refine (run_bind_ok ((hT.row hr).underlying w)).trans ?_
        simp only
        refine (run_bind_ok (MapKept.run_getObj_map h1)).trans ?_
        simp only
        refine (run_bind_ok (checkKey_int hT hk rfl)).trans ?_
        refine (run_bind_ok (findKey_int hT hk rfl h2)).trans ?_
        rw [hf']
        simp only
        refine (run_bind_ok (x:=(.int .i64 i:Value)) (w':=w) ?_).trans ?_
        ·rw [hk2]
         unfold Instr.keyThatStays
         rw [sameBits_int,if_pos rfl]; rfl
        ·exact run_setObj_map' _ h1
      obtain ⟨w1,hrun,hm1,hch,hz1⟩:=key
      intro a hds hf hn hq hU h0
      have h1':Chg S w0 w1:=h0.since hch (fun x hx hxb=>by rw [hxb] at hx ⊢; exact hS hx)
      unfold opG
      rw [nth_at ho]
      simp only [want_ok hf hw,if_true]
      unfold grow1
      rw [hrun a hf,hd]
      exact ⟨h1',Drawn.adv hT hB ha (hg w1 hm1 hch hz1) _ hds hf (hn.rm (hq _ hU)) (fun j hj=>hq j ((mem_rmN hn.1.1).1 hj).1) h1'⟩
     ·cases h
    ·cases h
   ·cases h
  ·cases h
 ·cases h
end
end Go.Proofs.YtnaoiegcobineaaGreatDoor
