/-
  Rule17
-/
import Derived.Test.YtdeihcnepljjaaaGreatDoorQRule15
import Derived.Lib.AppendZerosOnto
namespace Go.Proofs.YtdeihcnepljjaaaGreatDoor
open Go.RowKit
section
variable {P:Program}{T:Tab}{ops:Array Oper}{f:FuncId}{R:Aim}{k:List Item}{q n:Nat}{ds:List Deferred}{s s':List Item}{w w0:World}{e:Env}{U:List Nat}{S:Nat->Prop}
def XaH(T:Tab)(e:Env)(o:Oper):Option (Int×Nat×Nat×Value):=
 match o.op with
 |.call c=>match c.callee,evs e c.args.toList,c.argTypes.toList with
  |.builtin .append,some [.slice none 0 0,.int .i64 k],[t,t']=>match row T t,row T t' with
   |some {und:=.slice q,..},some {und:=.int .i64,..}=>match row T q with
    |some r2=>match r2.zero with
     |some z=>match Nat.beq (Y8 z).length 1,Nat.beq r2.size 1 with
      |true,true=>some (k,q,r2.bytes,z)
      |_,_=>none
     |none=>none
    |none=>none
   |_,_=>none
  |_,_,_=>none
 |_=>none
theorem XiS(hT:Xp P T){z:Value}{k q by':Nat}{o:Oper}(h:XaH T e o=some ((k:Int),q,by',z))(hk:0<k)(hb:k*by'<=140737488355328)(hk2:k<=140737488355328):∃cap w',(∀act,Za n act e->(execOp act.eval o).run P w=.ok (.value (.slice (some ⟨w.heap.size,0,none⟩) k cap)) w')/\Xc Xf w w'/\w'.heap.size=w.heap.size+1/\k<=cap/\cap<=maxLen/\∃cur,w'.heap[w.heap.size]?=some (.cells cur q (0,0))/\cur.size=cap:=by
 unfold XaH at h;split at h
 .rename_i c j
  split at h
  .rename_i M t t' d l f
   split at h
   .rename_i N H I O J K Q hr p
    split at h
    .rename_i R r
     split at h
     .rename_i S s
      split at h
      .rename_i u v
       cases h
       have hi:=(hT.row r).2;have E:=(hT.row hr).1;have x:=(hT.row p).1;cases a:P.info? q with
       |none=>rw[a] at hi;cases hi
       |some inf=>
        rw[a] at hi;simp only[Option.map_some,Option.some.injEq,Prod.mk.injEq] at hi;obtain⟨F,y,G⟩:=hi;have L:inf.size=1:=by rw[F];exact Nat.eq_of_beq_eq_true v
        have A:z.cells.size=1:=by
         have:=Nat.eq_of_beq_eq_true u;rw[<-Gl] at this;simpa using this
        have m:Builtin.nextslicecap (0+k) 0*inf.bytes<=281474976710656:=growslice_fits X (by rw[y,Nat.zero_add];exact hb);have b:=Lib.run_append_grow_zeros (P:=P) w t t' o.type q inf z .i64 .i64 E x a (by rw[G,s]) none 0 0 [] (by simp[Builtin.firstCells]) k hk X X X (by rw[y];omega) m;rw[Nat.zero_add] at b;have B:=grownCap_ge w k 0 q;have C:=grownCap_le_maxLen w k 0 q (by unfold maxLen;omega);refine⟨grownCap w k 0 q,w.drew.alloc (.cells (#[]++Builtin.zeroCells z.cells k++Builtin.zeroCells z.cells (grownCap w k 0 q-k)) q),λact hf=>?_,?_,?_,B,C,#[]++Builtin.zeroCells z.cells k++Builtin.zeroCells z.cells (grownCap w k 0 q-k),?_,?_⟩
        .obtain⟨dst,op,type,pos,after,guard⟩:=o;simp only at j
         subst j;obtain⟨callee,args,argTypes⟩:=c;simp only at d l f b
         subst d;have g:=G8 (hf.evs l);have D:argTypes=#[t,t']:=by obtain⟨ats⟩:=argTypes;simp only at f;subst f;rfl
         subst D;simp only[execOp,resolve,g];exact(Xh (show _=Result.ok _ w from rfl)).trans ((Xh b).trans rfl)
        .exact(show Xc Xf w w.drew from⟨rfl,rfl,rfl,Nat.le_refl _,λ_ _ _=>rfl⟩).trans (E5 _ _)
        .simp
        .exact(show ∀(i:World) o,i.heap.size=w.heap.size->(i.alloc o).heap[w.heap.size]?=some o from λi o h=>by show(i.heap.push o)[w.heap.size]?=some o;rw[<-h];simp) w.drew _ rfl
        .simp[Builtin.zeroCells,A]
         omega
      .cases h
     .cases h
    .cases h
   .cases h
  .cases h
 .cases h
theorem Xa.appendZ(hT:Xp P T){z:Value}{k q by' d:Nat}(h:Qb (XaH T e) n s e=some (((k:Int),q,by',z),d,s'))(hk:0<k)(hb:k*by'<=140737488355328)(hk2:k<=140737488355328)(hg:∀cap cur w1,Xc Xf w w1->w1.heap.size=w.heap.size+1->k<=cap->cap<=maxLen->w1.heap[w.heap.size]?=some (.cells cur q (0,0))->cur.size=cap->Xa P f R n ds s' ((d,false,.slice (some ⟨w.heap.size,0,none⟩) k cap)::e) w1):Xa P f R n ds s e w:=by
 obtain⟨o,c,g,b,i⟩:=Mp h;obtain⟨cap,w',j,l,m,p,r,cur,t,u⟩:=XiS (n:=n) hT i hk hb hk2;exact Xa.head c (by rw[g];exact K2 b) (λa hf=>.inl (j a hf)) (hg cap cur w' l m p r t u)
def XaZ(T:Tab)(e:Env)(o:Oper):Option Nat:=
 match o.op with
 |.call c=>match c.callee,evs e c.args.toList,c.argTypes.toList with
  |.builtin .cap,some [.slice _ _ m],t::_=>match row T t with
   |some {und:=.slice _,..}=>some m
   |_=>none
  |_,_,_=>none
 |_=>none
theorem Xji(hT:Xp P T){m:Nat}{o:Oper}(h:XaZ T e o=some m)(a:Act)(hf:Za n a e)(w:World):(execOp a.eval o).run P w=.ok (.value (.int .i64 m)) w:=by
 unfold XaZ at h;split at h
 .rename_i c g
  split at h
  .rename_i l p q t ts b i d
   split at h
   .rename_i r sz by' z hr
    cases h
    have j:=(hT.row hr).underlying w;obtain⟨dst,op,type,pos,after,guard⟩:=o;simp only at g
    subst g;obtain⟨callee,args,argTypes⟩:=c;simp only at b i d
    subst b;have f:=G8 (hf.evs i);have k:argTypes[0]?=some t:=by
     obtain⟨ats⟩:=argTypes;simp only at d;subst d;rfl
    simp only[execOp,resolve,f];refine(Xh (show _=Result.ok _ w from rfl)).trans ?_;refine(Xh (x:=(.int .i64 m:Value)) (w':=w) ?_).trans rfl;simp only[Builtin.cap_,k];exact(Xh j).trans rfl
   .cases h
  .cases h
 .cases h
theorem Xa.cap(hT:Xp P T){m d:Nat}(h:Qb (XaZ T e) n s e=some (m,d,s'))(hg:Xa P f R n ds s' ((d,false,.int .i64 m)::e) w):Xa P f R n ds s e w:=
 Xa.val h (λ_ b a hf=>Xji hT b a hf w) hg
end
end Go.Proofs.YtdeihcnepljjaaaGreatDoor
