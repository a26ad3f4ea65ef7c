/-
  Rule18
-/
import Derived.Test.YtnaoiegcobineaaGreatDoorQRule17
namespace Go.Proofs.YtnaoiegcobineaaGreatDoor
open Go.RowKit
section
variable {P:Program} {T:Tab} {ops:Array Oper} {f:FuncId} {R:Aim} {k:List Item} {q n:Nat} {ds:List Deferred} {w w0:World} {e:Env} {U:List Nat} {S:Nat→Prop}
def delTurn (T:Tab) (ops:Array Oper) (e:Env) (i:Nat):Option (Nat × Int) :=
 match nth ops.toList i with
 |some o=>match want e ops o,o.dst,o.op with
  |some true,none,.call c=>match c.callee,evs e c.args.toList,c.argTypes.toList with
   |.builtin .delete,some [.map (some r),.int .i64 i],t::_=>match row T t with
    |some {und := .map kt _,..}=>match row T kt with
     |some {und := .int .i64,..}=>some (r,i)
     |_=>none
    |_=>none
   |_,_,_=>none
  |_,_,_=>none
 |none=>none
theorem Turn.mapdel (hT:TabOk P T) (hB:drawB ops q=true) {r j:Nat} {i:Int} {m:AL} {U2:List Nat} {e2:Env} (h:delTurn T ops e j=some (r,i)) (hm:MapAt w r m) (hS:r<w0.heap.size→S r)
 (ha:advD T n ops q (rmN j U) (rmN j U) e=(U2,e2))
 (hg:∀ w1,MapAt w1 r (adel m i)→Chg (fun b=>b=r) w w1→w1.heap.size=w.heap.size→Drawn P f R n ds k ops q S U2 e2 w0 w1):Turn P f R n ds k ops q S U j e w0 w:=by
 unfold delTurn at h
 split at h
 ·rename_i o ho
  split at h
  ·rename_i c hw hd hop
   split at h
   ·rename_i r1 i1 t ts hcal hev hty
    split at h
    ·rename_i kt et _ _ _ hr
     split at h
     ·rename_i _ _ _ hk
      cases h
      obtain ⟨es,clock,h1,h2⟩:=hm
      have hlt:=lt_of_heap h1
      have hex:∀ (w1:World),(Builtin.delete_ c.argTypes o.type #[.map (some r),.int .i64 i]).run P w = .ok (.tuple #[]) w1 → ∀ act,Fits n act e→(execOp act.eval o).run P w = .ok (.value (.tuple #[])) w1:=fun w1 hrun act hf=>by
       obtain ⟨dst,op,type,pos,after,guard⟩:=o
       simp only at hop
       subst hop
       obtain ⟨callee,args,argTypes⟩:=c
       simp only at hcal hev hrun
       subst hcal
       have hargs:args.map act.eval = #[.map (some r),.int .i64 i]:=map_of_toList (hf.evs hev)
       simp only [execOp,resolve,hargs]
       refine (run_bind_ok (show _=Result.ok _ w from rfl)).trans ?_
       exact (run_bind_ok (x:=(.tuple #[]:Value)) (w':=w1) hrun).trans rfl
      have h0:c.argTypes[0]? = some t:=by
       obtain ⟨callee,args,argTypes⟩:=c
       obtain ⟨ats⟩:=argTypes
       simp only at hty; subst hty; rfl
      have hdel:∀ (o':Obj),(afind m i=none→o' = .map es clock)→(∀ p,afind m i=some p→o' = .map (es.eraseIdxIfInBounds p.1) clock)→(Builtin.delete_ c.argTypes o.type #[.map (some r),.int .i64 i]).run P w = .ok (.tuple #[]) {w with heap:=w.heap.setIfInBounds r o'}:=fun o' hno hso=>by
       unfold Builtin.delete_
       simp only [h0,show (#[Value.map (some r),Value.int .i64 i]:Array Value)[0]? = some (.map (some r)) from rfl,show (#[Value.map (some r),Value.int .i64 i]:Array Value)[1]? = some (.int .i64 i) from rfl]
       refine (run_bind_ok ((hT.row hr).underlying w)).trans ?_
       simp only
       refine (run_bind_ok (MapKept.run_getObj_map h1)).trans ?_
       simp only
       refine (run_bind_ok (checkKey_int hT hk rfl)).trans ?_
       refine (run_bind_ok (findKey_int hT hk rfl h2)).trans ?_
       cases hfi:afind m i with
       |none=>rw [hno hfi]; exact (run_bind_ok (run_setObj_map' _ h1)).trans rfl
       |some p=>obtain ⟨pi,pv⟩:=p; rw [hso _ hfi]; exact (run_bind_ok (run_setObj_map' _ h1)).trans rfl
      have key:∃ w1,(∀ act,Fits n act e→(execOp act.eval o).run P w = .ok (.value (.tuple #[])) w1)∧MapAt w1 r (adel m i)∧Chg (fun b=>b=r) w w1∧w1.heap.size=w.heap.size:=by
       cases hf':afind m i with
       |none =>
        exact ⟨_,hex _ (hdel (.map es clock) (fun _=>rfl) (fun p hp=>by rw [hf'] at hp; cases hp)),⟨_,_,heap_setObj hlt,by rw [adel_none hf']; exact h2⟩,chg_setObj,by simp⟩
       |some p =>
        refine ⟨_,hex _ (hdel (.map (es.eraseIdxIfInBounds p.1) clock) (fun h=>by rw [hf'] at h; cases h) (fun p' hp=>by rw [hf'] at hp; cases hp; rfl)),⟨_,_,heap_setObj hlt,?_⟩,chg_setObj,by simp⟩
        have:=ents_del (v:=p.2) (i:=p.1) h2 hf'
        have he:(es.eraseIdxIfInBounds p.1).toList=es.toList.eraseIdx p.1:=by
         unfold Array.eraseIdxIfInBounds
         split
         ·simp
         ·rename_i hlt'
          rw [List.eraseIdx_of_length_le (by simpa using hlt')]
        rw [he]
        exact this
      obtain ⟨w1,hrun,hm1,hch,hz1⟩:=key
      intro a hds hf hn hq hU h0
      have h1':Chg S w0 w1:=h0.since hch (fun x hx hxb=>by rw [hxb] at hx ⊢; exact hS hx)
      unfold opG
      rw [nth_at ho]
      simp only [want_ok hf hw,if_true]
      unfold grow1
      rw [hrun a hf,hd]
      exact ⟨h1',Drawn.adv hT hB ha (hg w1 hm1 hch hz1) _ hds hf (hn.rm (hq _ hU)) (fun j hj=>hq j ((mem_rmN hn.1.1).1 hj).1) h1'⟩
     ·cases h
    ·cases h
   ·cases h
  ·cases h
 ·cases h
end
end Go.Proofs.YtnaoiegcobineaaGreatDoor
