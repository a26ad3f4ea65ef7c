/-
  Rule13
-/
import Derived.Test.YtdeihcnepljjaaaGreatDoorQRule12
namespace Go.Proofs.YtdeihcnepljjaaaGreatDoor
open Go.RowKit
section
variable {P:Program}{T:Tab}{ops:Array Oper}{f:FuncId}{R:Aim}{k:List Item}{q n:Nat}{ds:List Deferred}{w w0:World}{e:Env}{U:List Nat}{S:Nat->Prop}
def Xic(T:Tab)(ops:Array Oper)(e:Env)(i:Nat):Option (Nat×Int×Value):=
 match Av ops.toList i with
 |some o=>match Dl e ops o,o.dst with
  |some true,none=>match o.op with
   |.mapUpdate t m k x=>match ev e m,ev e k,ev e x,row T t with
    |some (.map (some r)),some (.int .i64 i),some v,some {und:=.map kt _,..}=>match row T kt with
     |some {und:=.int .i64,..}=>some (r,i,v)
     |_=>none
    |_,_,_,_=>none
   |_=>none
  |_,_=>none
 |none=>none
theorem Xo.mapset(hT:Xp P T)(hB:Z0 ops q=true){r j:Nat}{i:Int}{v:Value}{m:AL}{U2:List Nat}{e2:Env}(h:Xic T ops e j=some (r,i,v))(hm:Y7 w r m)(hS:r<w0.heap.size->S r)(ha:Z7 T n ops q (Xv j U) (Xv j U) e=(U2,e2))(hg:∀w1,Y7 w1 r (C1 m i v)->Xc (λb=>b=r) w w1->w1.heap.size=w.heap.size->Xd P f R n ds k ops q S U2 e2 w0 w1):Xo P f R n ds k ops q S U j e w0 w:=by
 unfold Xic at h;split at h
 .rename_i o Q
  split at h
  .rename_i V hd
   split at h
   .rename_i t x y z A
    split at h
    .rename_i r1 i1 v1 kt et _ _ _ g G H hr
     split at h
     .rename_i _ _ _ u
      cases h
      obtain⟨es,clock,l,s⟩:=hm;have B:=Xg l;have key:∃w1,(∀a,Za n a e->(execOp a.eval o).run P w=.ok .skip w1)/\Y7 w1 r (C1 m i v)/\Xc (λb=>b=r) w w1/\w1.heap.size=w.heap.size:=by
       cases d:Q4 m i with
       |none=>
        refine⟨{w with heap:=w.heap.setIfInBounds r (.map (es.push {key:=.int .i64 i,val:=v,born:=clock}) (clock+1))},λa hf=>?_,⟨_,_,Kp B,xU (XeB (c:=clock) s d)⟩,Kl,xS⟩;simp only[execOp,A,hf.ev g,hf.ev G,hf.ev H];refine(Xh (x:=()) (w':={w with heap:=w.heap.setIfInBounds r (.map (es.push {key:=.int .i64 i,val:=v,born:=clock}) (clock+1))}) ?_).trans rfl;unfold Instr.mapUpdate;refine(Xh ((hT.row hr).underlying w)).trans ?_;simp only
        refine(Xh (MapKept.run_getObj_map l)).trans ?_;simp only
        refine(Xh (Ms hT u rfl)).trans ((Xh (Mz hT u rfl s)).trans ?_);rw[d];exact L3 _ l
       |some p=>
        obtain⟨pi,pv⟩:=p;have E:=Xez s d;have I:(((es[pi]?).map (·.key)).getD (.int .i64 i))=.int .i64 i:=by rw[<-Array.getElem?_toList,E];rfl
        refine⟨{w with heap:=w.heap.setIfInBounds r (.map (es.modify pi λe=>{e with key:=.int .i64 i,val:=v}) clock)},λa hf=>?_,⟨_,_,Kp B,xU (XeC (v':=v) s d)⟩,Kl,xS⟩;simp only[execOp,A,hf.ev g,hf.ev G,hf.ev H];refine(Xh (x:=()) (w':={w with heap:=w.heap.setIfInBounds r (.map (es.modify pi λe=>{e with key:=.int .i64 i,val:=v}) clock)}) ?_).trans rfl;unfold Instr.mapUpdate;refine(Xh ((hT.row hr).underlying w)).trans ?_;simp only
        refine(Xh (MapKept.run_getObj_map l)).trans ?_;simp only
        refine(Xh (Ms hT u rfl)).trans ((Xh (Mz hT u rfl s)).trans ?_);rw[d];simp only
        refine(Xh (x:=(.int .i64 i:Value)) (w':=w) ?_).trans ?_
        .rw[I];unfold Instr.keyThatStays;rw[Xg5,if_pos rfl];rfl
        .exact L3 _ l
      obtain⟨w1,F,J,C,K⟩:=key;intro a L hf M N hU h0;have D:=h0.bU C (λx g O=>by rw[O] at g⊢;exact hS g);unfold opG;rw[Bx Q];simp only[D6 hf V,if_true];unfold Em;rw[F a hf,hd];exact⟨D,Xd.adv hT hB ha (hg w1 J C K) _ L hf (M.rm (N _ hU)) (λj hj=>N j ((Hx M.1.1).1 hj).1) D⟩
     .cases h
    .cases h
   .cases h
  .cases h
 .cases h
end
end Go.Proofs.YtdeihcnepljjaaaGreatDoor
