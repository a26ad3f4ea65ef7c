/-
  Rule18
-/
import Derived.Test.YtgddpaiandefgaaGreatDoorQRule17
namespace Go.Proofs.YtgddpaiandefgaaGreatDoor
open Go.RowKit
section
variable {P:Program} {T:Tab} {ops:Array Oper} {f:FuncId} {R:Aim} {k:List Item} {q n:Nat} {ds:List Deferred} {w w0:World} {e:Env} {U:List Nat} {S:Nat→Prop}
def XfF (T:Tab) (ops:Array Oper) (e:Env) (i:Nat):Option (Nat × Int) :=
 match nth ops.toList i with
 |some o=>match Xv3 e ops o,o.dst,o.op with
  |some true,none,.call c=>match c.callee,evs e c.args.toList,c.argTypes.toList with
   |.builtin .delete,some [.map (some r),.int .i64 i],t::_=>match row T t with
    |some {und := .map kt _,..}=>match row T kt with
     |some {und := .int .i64,..}=>some (r,i)
     |_=>none
    |_=>none
   |_,_,_=>none
  |_,_,_=>none
 |none=>none
theorem XbO.mapdel (hT:XbE P T) (hB:XfJ ops q=true) {r j:Nat} {i:Int} {m:AL} {U2:List Nat} {e2:Env} (h:XfF T ops e j=some (r,i)) (hm:XaL w r m) (hS:r<w0.heap.size→S r)
 (ha:Xb2 T n ops q (rmN j U) (rmN j U) e=(U2,e2))
 (hg:∀ w1,XaL w1 r (XbZ m i)→Chg (fun b=>b=r) w w1→w1.heap.size=w.heap.size→Xaq P f R n ds k ops q S U2 e2 w0 w1):XbO P f R n ds k ops q S U j e w0 w:=by
 unfold XfF at h;split at h
 ·rename_i o ho
  split at h
  ·rename_i c hw hd A
   split at h
   ·rename_i r1 i1 t ts l B C
    split at h
    ·rename_i kt et _ _ _ hr
     split at h
     ·rename_i _ _ _ L
      cases h
      obtain ⟨es,clock,y,I⟩:=hm;have D:=Xkj y;have E:∀ (w1:World),(Builtin.delete_ c.argTypes o.type #[.map (some r),.int .i64 i]).run P w = .ok (.tuple #[]) w1 → ∀ act,Xau n act e→(execOp act.eval o).run P w = .ok (.value (.tuple #[])) w1:=fun w1 d act hf=>by
       obtain ⟨dst,op,type,pos,after,guard⟩:=o;simp only at A
       subst A;obtain ⟨callee,args,argTypes⟩:=c;simp only at l B d
       subst l;have z:args.map act.eval = #[.map (some r),.int .i64 i]:=XkD (hf.evs B);simp only [execOp,resolve,z];refine (XqJ (show _=Result.ok _ w from rfl)).trans ?_;exact (XqJ (x:=(.tuple #[]:Value)) (w':=w1) d).trans rfl
      have J:c.argTypes[0]? = some t:=by
       obtain ⟨callee,args,argTypes⟩:=c;obtain ⟨ats⟩:=argTypes;simp only at C; subst C; rfl
      have s:∀ (o':Obj),(Xb7 m i=none→o' = .map es clock)→(∀ p,Xb7 m i=some p→o' = .map (es.eraseIdxIfInBounds p.1) clock)→(Builtin.delete_ c.argTypes o.type #[.map (some r),.int .i64 i]).run P w = .ok (.tuple #[]) {w with heap:=w.heap.setIfInBounds r o'}:=fun o' M N=>by
       unfold Builtin.delete_;simp only [J,show (#[Value.map (some r),Value.int .i64 i]:Array Value)[0]? = some (.map (some r)) from rfl,show (#[Value.map (some r),Value.int .i64 i]:Array Value)[1]? = some (.int .i64 i) from rfl];refine (XqJ ((hT.row hr).underlying w)).trans ?_;simp only
       refine (XqJ (MapKept.run_getObj_map y)).trans ?_;simp only
       refine (XqJ (XeF hT L rfl)).trans ?_;refine (XqJ (Xgo hT L rfl I)).trans ?_;cases F:Xb7 m i with
       |none=>rw [M F]; exact (XqJ (XqL _ y)).trans rfl
       |some p=>obtain ⟨pi,pv⟩:=p; rw [N _ F]; exact (XqJ (XqL _ y)).trans rfl
      have key:∃ w1,(∀ act,Xau n act e→(execOp act.eval o).run P w = .ok (.value (.tuple #[])) w1)∧XaL w1 r (XbZ m i)∧Chg (fun b=>b=r) w w1∧w1.heap.size=w.heap.size:=by
       cases g:Xb7 m i with
       |none =>
        exact ⟨_,E _ (s (.map es clock) (fun _=>rfl) (fun p u=>by rw [g] at u; cases u)),⟨_,_,XhT D,by rw [Xb1 g]; exact I⟩,XeX,by simp⟩
       |some p =>
        refine ⟨_,E _ (s (.map (es.eraseIdxIfInBounds p.1) clock) (fun h=>by rw [g] at h; cases h) (fun p' u=>by rw [g] at u; cases u; rfl)),⟨_,_,XhT D,?_⟩,XeX,by simp⟩;have:=XfS (v:=p.2) (i:=p.1) I g;have he:(es.eraseIdxIfInBounds p.1).toList=es.toList.eraseIdx p.1:=by
         unfold Array.eraseIdxIfInBounds;split
         ·simp
         ·rename_i K
          rw [List.eraseIdx_of_length_le (by simpa using K)]
        rw [he];exact this
      obtain ⟨w1,d,O,G,Q⟩:=key;intro a V hf W hq hU J;have H:Chg S w0 w1:=J.since G (fun x hx a2=>by rw [a2] at hx ⊢; exact hS hx);unfold opG;rw [Xl5 ho];simp only [Xv4 hf hw,if_true];unfold Xhp;rw [d a hf,hd];exact ⟨H,Xaq.adv hT hB ha (hg w1 O G Q) _ V hf (W.rm (hq _ hU)) (fun j hj=>hq j ((XkQ W.1.1).1 hj).1) H⟩
     ·cases h
    ·cases h
   ·cases h
  ·cases h
 ·cases h
end
end Go.Proofs.YtgddpaiandefgaaGreatDoor
