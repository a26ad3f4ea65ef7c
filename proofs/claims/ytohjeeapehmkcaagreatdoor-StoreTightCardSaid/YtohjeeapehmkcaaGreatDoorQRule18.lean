/-
  Rule18
-/
import Derived.Test.YtohjeeapehmkcaaGreatDoorQRule17
namespace Go.Proofs.YtohjeeapehmkcaaGreatDoor
open Go.RowKit
section
variable {P:Program}{T:Tab}{ops:Array Oper}{f:FuncId}{R:Aim}{k:List Item}{q n:Nat}{ds:List Deferred}{w w0:World}{e:Env}{U:List Nat}{S:Nat->Prop}
def Xdy(T:Tab)(ops:Array Oper)(e:Env)(i:Nat):Option (Nat×Int):=
 match Ap ops.toList i with
 |some o=>match C7 e ops o,o.dst,o.op with
  |some true,none,.call c=>match c.callee,evs e c.args.toList,c.argTypes.toList with
   |.builtin .delete,some [.map (some r),.int .i64 i],t::_=>match row T t with
    |some {und:=.map kt _,..}=>match row T kt with
     |some {und:=.int .i64,..}=>some (r,i)
     |_=>none
    |_=>none
   |_,_,_=>none
  |_,_,_=>none
 |none=>none
theorem Xp.mapdel(hT:Xq P T)(hB:Zp ops q=true){r j:Nat}{i:Int}{m:AL}{U2:List Nat}{e2:Env}(h:Xdy T ops e j=some (r,i))(hm:Y6 w r m)(hS:r<w0.heap.size->S r)(ha:Zu T n ops q (Xw j U) (Xw j U) e=(U2,e2))(hg:∀w1,Y6 w1 r (Da m i)->Xc (λb=>b=r) w w1->w1.heap.size=w.heap.size->Xd P f R n ds k ops q S U2 e2 w0 w1):Xp P f R n ds k ops q S U j e w0 w:=by
 unfold Xdy at h;split at h
 ·rename_i o ho
  split at h
  ·rename_i c hw hd B
   split at h
   ·rename_i r1 i1 t ts l C D
    split at h
    ·rename_i kt et _ _ _ hr
     split at h
     ·rename_i _ _ _ M
      cases h
      obtain⟨es,clock,z,J⟩:=hm;have E:=Xg z;have F:∀(w1:World),(Builtin.delete_ c.argTypes o.type #[.map (some r),.int .i64 i]).run P w=.ok (.tuple #[]) w1 -> ∀act,X8 n act e->(execOp act.eval o).run P w=.ok (.value (.tuple #[])) w1:=λw1 d act s=>by
       obtain⟨dst,op,type,pos,after,guard⟩:=o;simp only at B
       subst B;obtain⟨callee,args,argTypes⟩:=c;simp only at l C d
       subst l;have A:=Fs (s.evs C);simp only[execOp,resolve,A];exact(Xh (show _=Result.ok _ w from rfl)).trans ((Xh (x:=(.tuple #[]:Value)) (w':=w1) d).trans rfl)
      have K:c.argTypes[0]?=some t:=by
       obtain⟨callee,args,argTypes⟩:=c;obtain⟨ats⟩:=argTypes;simp only at D;subst D;rfl
      have u:∀(o':Obj),(Qz m i=none->o'=.map es clock)->(∀p,Qz m i=some p->o'=.map (es.eraseIdxIfInBounds p.1) clock)->(Builtin.delete_ c.argTypes o.type #[.map (some r),.int .i64 i]).run P w=.ok (.tuple #[]) {w with heap:=w.heap.setIfInBounds r o'}:=λo' N O=>by
       unfold Builtin.delete_;simp only[K,show(#[Value.map (some r),Value.int .i64 i]:Array Value)[0]?=some (.map (some r)) from rfl,show(#[Value.map (some r),Value.int .i64 i]:Array Value)[1]?=some (.int .i64 i) from rfl];refine(Xh ((hT.row hr).underlying w)).trans ?_;simp only
       refine(Xh (MapKept.run_getObj_map z)).trans ?_;simp only
       refine(Xh (Ln hT M rfl)).trans ((Xh (Ls hT M rfl J)).trans ?_);cases G:Qz m i with
       |none=>rw[N G];exact(Xh (K3 _ z)).trans rfl
       |some p=>obtain⟨pi,pv⟩:=p;rw[O _ G];exact(Xh (K3 _ z)).trans rfl
      have key:∃w1,(∀act,X8 n act e->(execOp act.eval o).run P w=.ok (.value (.tuple #[])) w1)/\Y6 w1 r (Da m i)/\Xc (λb=>b=r) w w1/\w1.heap.size=w.heap.size:=by
       cases g:Qz m i with
       |none=>
        exact⟨_,F _ (u (.map es clock) (λ_=>rfl) (λp y=>by rw[g] at y;cases y)),⟨_,_,Jv E,by rw[XcH g];exact J⟩,Jq,by simp⟩
       |some p=>
        refine⟨_,F _ (u (.map (es.eraseIdxIfInBounds p.1) clock) (λh=>by rw[g] at h;cases h) (λp' y=>by rw[g] at y;cases y;rfl)),⟨_,_,Jv E,?_⟩,Jq,by simp⟩;have:=XdC (v:=p.2) (i:=p.1) J g;have he:(es.eraseIdxIfInBounds p.1).toList=es.toList.eraseIdx p.1:=by
         unfold Array.eraseIdxIfInBounds;split
         ·simp
         ·rename_i L
          rw[List.eraseIdx_of_length_le (by simpa using L)]
        rw[he];exact this
      obtain⟨w1,d,Q,H,V⟩:=key;intro a W s hn hq hU K;have I:=K.since H (λx hx a3=>by rw[a3] at hx⊢;exact hS hx);unfold opG;rw[Bg ho];simp only[C8 s hw,if_true];unfold Do;rw[d a s,hd];exact⟨I,Xd.adv hT hB ha (hg w1 Q H V) _ W s (hn.rm (hq _ hU)) (λj hj=>hq j ((Ft hn.1.1).1 hj).1) I⟩
     ·cases h
    ·cases h
   ·cases h
  ·cases h
 ·cases h
end
end Go.Proofs.YtohjeeapehmkcaaGreatDoor
