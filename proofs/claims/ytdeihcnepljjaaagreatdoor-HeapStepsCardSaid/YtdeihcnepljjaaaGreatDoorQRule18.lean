/-
  Rule18
-/
import Derived.Test.YtdeihcnepljjaaaGreatDoorQRule17
namespace Go.Proofs.YtdeihcnepljjaaaGreatDoor
open Go.RowKit
section
variable {P:Program}{T:Tab}{ops:Array Oper}{f:FuncId}{R:Aim}{k:List Item}{q n:Nat}{ds:List Deferred}{w w0:World}{e:Env}{U:List Nat}{S:Nat->Prop}
def Xev(T:Tab)(ops:Array Oper)(e:Env)(i:Nat):Option (Nat×Int):=
 match Av ops.toList i with
 |some o=>match Dl e ops o,o.dst,o.op with
  |some true,none,.call c=>match c.callee,evs e c.args.toList,c.argTypes.toList with
   |.builtin .delete,some [.map (some r),.int .i64 i],t::_=>match row T t with
    |some {und:=.map kt _,..}=>match row T kt with
     |some {und:=.int .i64,..}=>some (r,i)
     |_=>none
    |_=>none
   |_,_,_=>none
  |_,_,_=>none
 |none=>none
theorem Xo.mapdel(hT:Xp P T)(hB:Z0 ops q=true){r j:Nat}{i:Int}{m:AL}{U2:List Nat}{e2:Env}(h:Xev T ops e j=some (r,i))(hm:Y7 w r m)(hS:r<w0.heap.size->S r)(ha:Z7 T n ops q (Xv j U) (Xv j U) e=(U2,e2))(hg:∀w1,Y7 w1 r (Do m i)->Xc (λb=>b=r) w w1->w1.heap.size=w.heap.size->Xd P f R n ds k ops q S U2 e2 w0 w1):Xo P f R n ds k ops q S U j e w0 w:=by
 unfold Xev at h;split at h
 .rename_i o ho
  split at h
  .rename_i c hw hd A
   split at h
   .rename_i r1 i1 t ts l B C
    split at h
    .rename_i kt et _ _ _ hr
     split at h
     .rename_i _ _ _ L
      cases h
      obtain⟨es,clock,y,I⟩:=hm;have D:=Xg y;have E:∀(w1:World),(Builtin.delete_ c.argTypes o.type #[.map (some r),.int .i64 i]).run P w=.ok (.tuple #[]) w1 -> ∀act,Za n act e->(execOp act.eval o).run P w=.ok (.value (.tuple #[])) w1:=λw1 d act hf=>by
       obtain⟨dst,op,type,pos,after,guard⟩:=o;simp only at A
       subst A;obtain⟨callee,args,argTypes⟩:=c;simp only at l B d
       subst l;have z:=G8 (hf.evs B);simp only[execOp,resolve,z];exact(Xh (show _=Result.ok _ w from rfl)).trans ((Xh (x:=(.tuple #[]:Value)) (w':=w1) d).trans rfl)
      have J:c.argTypes[0]?=some t:=by
       obtain⟨callee,args,argTypes⟩:=c;obtain⟨ats⟩:=argTypes;simp only at C;subst C;rfl
      have s:∀(o':Obj),(Q4 m i=none->o'=.map es clock)->(∀p,Q4 m i=some p->o'=.map (es.eraseIdxIfInBounds p.1) clock)->(Builtin.delete_ c.argTypes o.type #[.map (some r),.int .i64 i]).run P w=.ok (.tuple #[]) {w with heap:=w.heap.setIfInBounds r o'}:=λo' M N=>by
       unfold Builtin.delete_;simp only[J,show(#[Value.map (some r),Value.int .i64 i]:Array Value)[0]?=some (.map (some r)) from rfl,show(#[Value.map (some r),Value.int .i64 i]:Array Value)[1]?=some (.int .i64 i) from rfl];refine(Xh ((hT.row hr).underlying w)).trans ?_;simp only
       refine(Xh (MapKept.run_getObj_map y)).trans ?_;simp only
       refine(Xh (Ms hT L rfl)).trans ((Xh (Mz hT L rfl I)).trans ?_);cases F:Q4 m i with
       |none=>rw[M F];exact(Xh (L3 _ y)).trans rfl
       |some p=>obtain⟨pi,pv⟩:=p;rw[N _ F];exact(Xh (L3 _ y)).trans rfl
      have key:∃w1,(∀act,Za n act e->(execOp act.eval o).run P w=.ok (.value (.tuple #[])) w1)/\Y7 w1 r (Do m i)/\Xc (λb=>b=r) w w1/\w1.heap.size=w.heap.size:=by
       cases g:Q4 m i with
       |none=>
        exact⟨_,E _ (s (.map es clock) (λ_=>rfl) (λp u=>by rw[g] at u;cases u)),⟨_,_,Kp D,by rw[XdJ g];exact I⟩,Kl,xS⟩
       |some p=>
        refine⟨_,E _ (s (.map (es.eraseIdxIfInBounds p.1) clock) (λh=>by rw[g] at h;cases h) (λp' u=>by rw[g] at u;cases u;rfl)),⟨_,_,Kp D,?_⟩,Kl,xS⟩;have:=Xey (v:=p.2) (i:=p.1) I g;have he:(es.eraseIdxIfInBounds p.1).toList=es.toList.eraseIdx p.1:=by
         unfold Array.eraseIdxIfInBounds;split
         .simp
         .rename_i K
          rw[List.eraseIdx_of_length_le (xU K)]
        rw[he];exact this
      obtain⟨w1,d,O,G,Q⟩:=key;intro a V hf hn hq hU J;have H:=J.bU G (λx hx a3=>by rw[a3] at hx⊢;exact hS hx);unfold opG;rw[Bx ho];simp only[D6 hf hw,if_true];unfold Em;rw[d a hf,hd];exact⟨H,Xd.adv hT hB ha (hg w1 O G Q) _ V hf (hn.rm (hq _ hU)) (λj hj=>hq j ((Hx hn.1.1).1 hj).1) H⟩
     .cases h
    .cases h
   .cases h
  .cases h
 .cases h
end
end Go.Proofs.YtdeihcnepljjaaaGreatDoor
