/-
  Rule17
-/
import Derived.Test.YtdeihcnepljjaaaGreatDoorQRule15
import Derived.Lib.AppendZerosOnto
namespace Go.Proofs.YtdeihcnepljjaaaGreatDoor
open Go.RowKit
section
variable {P:Program}{T:Tab}{ops:Array Oper}{f:FuncId}{R:Aim}{k:List Item}{q n:Nat}{ds:List Deferred}{s s':List Item}{w w0:World}{e:Env}{U:List Nat}{S:Nat->Prop}
def Xaa(T:Tab)(e:Env)(o:Oper):Option (Int×Nat×Nat×Value):=
 match o.op with
 |.call c=>match c.callee,evs e c.args.toList,c.argTypes.toList with
  |.builtin .append,some [.slice none 0 0,.int .i64 k],[t,t']=>match row T t,row T t' with
   |some {und:=.slice q,..},some {und:=.int .i64,..}=>match row T q with
    |some r2=>match r2.zero with
     |some z=>match Nat.beq (Yz z).length 1,Nat.beq r2.size 1 with
      |true,true=>some (k,q,r2.bytes,z)
      |_,_=>none
     |none=>none
    |none=>none
   |_,_=>none
  |_,_,_=>none
 |_=>none
theorem Xh7(hT:Xp P T){z:Value}{k q by':Nat}{o:Oper}(h:Xaa T e o=some ((k:Int),q,by',z))(hk:0<k)(hb:k*by'<=140737488355328)(hk2:k<=140737488355328):∃cap w',(∀act,X7 n act e->(execOp act.eval o).run P w=.ok (.value (.slice (some ⟨w.heap.size,0,none⟩) k cap)) w')/\Xc Xe w w'/\w'.heap.size=w.heap.size+1/\k<=cap/\cap<=maxLen/\∃cur,w'.heap[w.heap.size]?=some (.cells cur q (0,0))/\cur.size=cap:=by
 unfold Xaa at h;split at h
 .rename_i c l
  split at h
  .rename_i N t t' d m f
   split at h
   .rename_i O I J Q K L R hr r
    split at h
    .rename_i S s
     split at h
     .rename_i U u
      split at h
      .rename_i v x
       cases h
       have g:=(hT.row s).2;have F:=(hT.row hr).1;have y:=(hT.row r).1;cases a:P.info? q with
       |none=>rw[a] at g;cases g
       |some inf=>
        rw[a] at g;simp only[Option.map_some,Option.some.injEq,Prod.mk.injEq] at g;obtain⟨G,A,H⟩:=g;have M:inf.size=1:=by rw[G];exact Nat.eq_of_beq_eq_true x
        have B:z.cells.size=1:=by
         have:=Nat.eq_of_beq_eq_true v;rw[<-Gf] at this;simpa using this
        have p:Builtin.nextslicecap (0+k) 0*inf.bytes<=281474976710656:=growslice_fits (by omega) (by rw[A,Nat.zero_add];exact hb);have b:=Lib.run_append_grow_zeros (P:=P) w t t' o.type q inf z .i64 .i64 F y a (by rw[H,u]) none 0 0 [] (by simp[Builtin.firstCells]) k hk (by omega) (by omega) (by omega) (by rw[A];omega) p;rw[Nat.zero_add] at b;have C:=grownCap_ge w k 0 q;have D:=grownCap_le_maxLen w k 0 q (by unfold maxLen;omega);refine⟨grownCap w k 0 q,w.drew.alloc (.cells (#[]++Builtin.zeroCells z.cells k++Builtin.zeroCells z.cells (grownCap w k 0 q-k)) q),λact hf=>?_,?_,?_,C,D,#[]++Builtin.zeroCells z.cells k++Builtin.zeroCells z.cells (grownCap w k 0 q-k),?_,?_⟩
        .obtain⟨dst,op,type,pos,after,guard⟩:=o;simp only at l
         subst l;obtain⟨callee,args,argTypes⟩:=c;simp only at d m f b
         subst d;have i:=G4 (hf.evs m);have E:argTypes=#[t,t']:=by obtain⟨ats⟩:=argTypes;simp only at f;subst f;rfl
         subst E;simp only[execOp,resolve,i];exact(Xh (show _=Result.ok _ w from rfl)).trans ((Xh b).trans rfl)
        .exact(show Xc Xe w w.drew from⟨rfl,rfl,rfl,Nat.le_refl _,λ_ _ _=>rfl⟩).trans (E4 _ _)
        .simp
        .exact(show ∀(j:World) o,j.heap.size=w.heap.size->(j.alloc o).heap[w.heap.size]?=some o from λj o h=>by show(j.heap.push o)[w.heap.size]?=some o;rw[<-h];simp) w.drew _ rfl
        .simp[Builtin.zeroCells,B]
         omega
      .cases h
     .cases h
    .cases h
   .cases h
  .cases h
 .cases h
theorem Xa.appendZ(hT:Xp P T){z:Value}{k q by' d:Nat}(h:Yy (Xaa T e) n s e=some (((k:Int),q,by',z),d,s'))(hk:0<k)(hb:k*by'<=140737488355328)(hk2:k<=140737488355328)(hg:∀cap cur w1,Xc Xe w w1->w1.heap.size=w.heap.size+1->k<=cap->cap<=maxLen->w1.heap[w.heap.size]?=some (.cells cur q (0,0))->cur.size=cap->Xa P f R n ds s' ((d,false,.slice (some ⟨w.heap.size,0,none⟩) k cap)::e) w1):Xa P f R n ds s e w:=by
 obtain⟨o,c,g,b,i⟩:=Ma h;obtain⟨cap,w',j,l,m,p,r,cur,t,u⟩:=Xh7 (n:=n) hT i hk hb hk2;exact Xa.head c (by rw[g];exact Ku b) (λa hf=>.inl (j a hf)) (hg cap cur w' l m p r t u)
def Xas(T:Tab)(e:Env)(o:Oper):Option Nat:=
 match o.op with
 |.call c=>match c.callee,evs e c.args.toList,c.argTypes.toList with
  |.builtin .cap,some [.slice _ _ m],t::_=>match row T t with
   |some {und:=.slice _,..}=>some m
   |_=>none
  |_,_,_=>none
 |_=>none
theorem Xix(hT:Xp P T){m:Nat}{o:Oper}(h:Xas T e o=some m)(a:Act)(hf:X7 n a e)(w:World):(execOp a.eval o).run P w=.ok (.value (.int .i64 m)) w:=by
 unfold Xas at h;split at h
 .rename_i c g
  split at h
  .rename_i l p q t ts b i d
   split at h
   .rename_i r sz by' z hr
    cases h
    have j:=(hT.row hr).underlying w;obtain⟨dst,op,type,pos,after,guard⟩:=o;simp only at g
    subst g;obtain⟨callee,args,argTypes⟩:=c;simp only at b i d
    subst b;have f:=G4 (hf.evs i);have k:argTypes[0]?=some t:=by
     obtain⟨ats⟩:=argTypes;simp only at d;subst d;rfl
    simp only[execOp,resolve,f];refine(Xh (show _=Result.ok _ w from rfl)).trans ?_;refine(Xh (x:=(.int .i64 m:Value)) (w':=w) ?_).trans rfl;simp only[Builtin.cap_,k];exact(Xh j).trans rfl
   .cases h
  .cases h
 .cases h
theorem Xa.cap(hT:Xp P T){m d:Nat}(h:Yy (Xas T e) n s e=some (m,d,s'))(hg:Xa P f R n ds s' ((d,false,.int .i64 m)::e) w):Xa P f R n ds s e w:=
 Xa.val h (λ_ b a hf=>Xix hT b a hf w) hg
end
end Go.Proofs.YtdeihcnepljjaaaGreatDoor
