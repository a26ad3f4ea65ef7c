/-
  Rule13
-/
import Derived.Test.YtohjeeapehmkcaaGreatDoorQRule12
namespace Go.Proofs.YtohjeeapehmkcaaGreatDoor
open Go.RowKit
section
variable {P:Program}{T:Tab}{ops:Array Oper}{f:FuncId}{R:Aim}{k:List Item}{q n:Nat}{ds:List Deferred}{w w0:World}{e:Env}{U:List Nat}{S:Nat->Prop}
def XgZ(T:Tab)(ops:Array Oper)(e:Env)(i:Nat):Option (Nat×Int×Value):=
 match Ap ops.toList i with
 |some o=>match C7 e ops o,o.dst with
  |some true,none=>match o.op with
   |.mapUpdate t m k x=>match ev e m,ev e k,ev e x,row T t with
    |some (.map (some r)),some (.int .i64 i),some v,some {und:=.map kt _,..}=>match row T kt with
     |some {und:=.int .i64,..}=>some (r,i,v)
     |_=>none
    |_,_,_,_=>none
   |_=>none
  |_,_=>none
 |none=>none
theorem Xp.mapset(hT:Xq P T)(hB:Zp ops q=true){r j:Nat}{i:Int}{v:Value}{m:AL}{U2:List Nat}{e2:Env}(h:XgZ T ops e j=some (r,i,v))(hm:Y6 w r m)(hS:r<w0.heap.size->S r)(ha:Zu T n ops q (Xw j U) (Xw j U) e=(U2,e2))(hg:∀w1,Y6 w1 r (Cm m i v)->Xc (λb=>b=r) w w1->w1.heap.size=w.heap.size->Xd P f R n ds k ops q S U2 e2 w0 w1):Xp P f R n ds k ops q S U j e w0 w:=by
 unfold XgZ at h;split at h
 ·rename_i o W
  split at h
  ·rename_i hw hd
   split at h
   ·rename_i t x y z B
    split at h
    ·rename_i r1 i1 v1 kt et _ _ _ l H I J
     split at h
     ·rename_i _ _ _ A
      cases h
      obtain⟨es,clock,s,u⟩:=hm;have C:=Xg s;have key:∃w1,(∀a,X8 n a e->(execOp a.eval o).run P w=.ok .skip w1)/\Y6 w1 r (Cm m i v)/\Xc (λb=>b=r) w w1/\w1.heap.size=w.heap.size:=by
       cases g:Qz m i with
       |none=>
        refine⟨{w with heap:=w.heap.setIfInBounds r (.map (es.push {key:=.int .i64 i,val:=v,born:=clock}) (clock+1))},λa d=>?_,⟨_,_,Jv C,by simpa using XdF (c:=clock) u g⟩,Jq,by simp⟩;simp only[execOp,B,d.ev l,d.ev H,d.ev I];refine(Xh (x:=()) (w':={w with heap:=w.heap.setIfInBounds r (.map (es.push {key:=.int .i64 i,val:=v,born:=clock}) (clock+1))}) ?_).trans rfl;unfold Instr.mapUpdate;refine(Xh ((hT.row J).underlying w)).trans ?_;simp only
        refine(Xh (MapKept.run_getObj_map s)).trans ?_;simp only
        refine(Xh (Ln hT A rfl)).trans ((Xh (Ls hT A rfl u)).trans ?_);rw[g];exact K3 _ s
       |some p=>
        obtain⟨pi,pv⟩:=p;have F:=XdD u g;have K:(((es[pi]?).map (·.key)).getD (.int .i64 i))=.int .i64 i:=by rw[<-Array.getElem?_toList,F];rfl
        refine⟨{w with heap:=w.heap.setIfInBounds r (.map (es.modify pi λe=>{e with key:=.int .i64 i,val:=v}) clock)},λa d=>?_,⟨_,_,Jv C,by simpa using XdG (v':=v) u g⟩,Jq,by simp⟩;simp only[execOp,B,d.ev l,d.ev H,d.ev I];refine(Xh (x:=()) (w':={w with heap:=w.heap.setIfInBounds r (.map (es.modify pi λe=>{e with key:=.int .i64 i,val:=v}) clock)}) ?_).trans rfl;unfold Instr.mapUpdate;refine(Xh ((hT.row J).underlying w)).trans ?_;simp only
        refine(Xh (MapKept.run_getObj_map s)).trans ?_;simp only
        refine(Xh (Ln hT A rfl)).trans ((Xh (Ls hT A rfl u)).trans ?_);rw[g];simp only
        refine(Xh (x:=(.int .i64 i:Value)) (w':=w) ?_).trans ?_
        ·rw[K];unfold Instr.keyThatStays;rw[Xf0,if_pos rfl];rfl
        ·exact K3 _ s
      obtain⟨w1,G,L,D,M⟩:=key;intro a N d O Q hU h0;have E:=h0.since D (λx l V=>by rw[V] at l⊢;exact hS l);unfold opG;rw[Bg W];simp only[C8 d hw,if_true];unfold Do;rw[G a d,hd];exact⟨E,Xd.adv hT hB ha (hg w1 L D M) _ N d (O.rm (Q _ hU)) (λj hj=>Q j ((Ft O.1.1).1 hj).1) E⟩
     ·cases h
    ·cases h
   ·cases h
  ·cases h
 ·cases h
end
end Go.Proofs.YtohjeeapehmkcaaGreatDoor
