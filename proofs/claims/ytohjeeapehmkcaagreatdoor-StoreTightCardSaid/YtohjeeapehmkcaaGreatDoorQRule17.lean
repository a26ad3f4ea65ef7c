/-
  Rule17
-/
import Derived.Test.YtohjeeapehmkcaaGreatDoorQRule15
import Derived.Lib.AppendZerosOnto
namespace Go.Proofs.YtohjeeapehmkcaaGreatDoor
open Go.RowKit
section
variable {P:Program}{T:Tab}{ops:Array Oper}{f:FuncId}{R:Aim}{k:List Item}{q n:Nat}{ds:List Deferred}{s s':List Item}{w w0:World}{e:Env}{U:List Nat}{S:Nat->Prop}
def Vz(T:Tab)(e:Env)(o:Oper):Option (Int×Nat×Nat×Value):=
 match o.op with
 |.call c=>match c.callee,evs e c.args.toList,c.argTypes.toList with
  |.builtin .append,some [.slice none 0 0,.int .i64 k],[t,t']=>match row T t,row T t' with
   |some {und:=.slice q,..},some {und:=.int .i64,..}=>match row T q with
    |some r2=>match r2.zero with
     |some z=>match Nat.beq (Y8 z).length 1,Nat.beq r2.size 1 with
      |true,true=>some (k,q,r2.bytes,z)
      |_,_=>none
     |none=>none
    |none=>none
   |_,_=>none
  |_,_,_=>none
 |_=>none
theorem Xhv(hT:Xq P T){z:Value}{k q by':Nat}{o:Oper}(h:Vz T e o=some ((k:Int),q,by',z))(hk:0<k)(hb:k*by'<=140737488355328)(hk2:k<=140737488355328):∃cap w',(∀act,X8 n act e->(execOp act.eval o).run P w=.ok (.value (.slice (some ⟨w.heap.size,0,none⟩) k cap)) w')/\Xc Xe w w'/\w'.heap.size=w.heap.size+1/\k<=cap/\cap<=maxLen/\∃cur,w'.heap[w.heap.size]?=some (.cells cur q (0,0))/\cur.size=cap:=by
 unfold Vz at h;split at h
 ·rename_i c j
  split at h
  ·rename_i O t t' d l f
   split at h
   ·rename_i Q J K R L M S E p
    split at h
    ·rename_i U r
     split at h
     ·rename_i V s
      split at h
      ·rename_i u v
       cases h
       have hi:=(hT.row r).2;have F:=(hT.row E).1;have x:=(hT.row p).1;cases a:P.info? q with
       |none=>rw[a] at hi;cases hi
       |some inf=>
        rw[a] at hi;simp only[Option.map_some,Option.some.injEq,Prod.mk.injEq] at hi;obtain⟨G,y,H⟩:=hi;have N:inf.size=1:=by rw[G];exact Nat.eq_of_beq_eq_true v
        have A:z.cells.size=1:=by
         have:=Nat.eq_of_beq_eq_true u;rw[<-E5] at this;simpa using this
        have m:Builtin.nextslicecap (0+k) 0*inf.bytes<=281474976710656:=growslice_fits (by omega) (by rw[y,Nat.zero_add];exact hb);have b:=Lib.run_append_grow_zeros (P:=P) w t t' o.type q inf z .i64 .i64 F x a (by rw[H,s]) none 0 0 [] (by simp[Builtin.firstCells]) k hk (by omega) (by omega) (by omega) (by rw[y];omega) m;rw[Nat.zero_add] at b;have B:=grownCap_ge w k 0 q;have C:=grownCap_le_maxLen w k 0 q (by unfold maxLen;omega);refine⟨grownCap w k 0 q,w.drew.alloc (.cells (#[]++Builtin.zeroCells z.cells k++Builtin.zeroCells z.cells (grownCap w k 0 q-k)) q),λact I=>?_,?_,?_,B,C,#[]++Builtin.zeroCells z.cells k++Builtin.zeroCells z.cells (grownCap w k 0 q-k),?_,?_⟩
        ·obtain⟨dst,op,type,pos,after,guard⟩:=o;simp only at j
         subst j;obtain⟨callee,args,argTypes⟩:=c;simp only at d l f b
         subst d;have g:=Fs (I.evs l);have D:argTypes=#[t,t']:=by obtain⟨ats⟩:=argTypes;simp only at f;subst f;rfl
         subst D;simp only[execOp,resolve,g];exact(Xh (show _=Result.ok _ w from rfl)).trans ((Xh b).trans rfl)
        ·exact(show Xc Xe w w.drew from⟨rfl,rfl,rfl,Nat.le_refl _,λ_ _ _=>rfl⟩).trans (Ea _ _)
        ·simp
        ·exact(show ∀(i:World) o,i.heap.size=w.heap.size->(i.alloc o).heap[w.heap.size]?=some o from λi o h=>by show(i.heap.push o)[w.heap.size]?=some o;rw[<-h];simp) w.drew _ rfl
        ·simp[Builtin.zeroCells,A]
         omega
      ·cases h
     ·cases h
    ·cases h
   ·cases h
  ·cases h
 ·cases h
theorem Xa.appendZ(hT:Xq P T){z:Value}{k q by' d:Nat}(h:Ql (Vz T e) n s e=some (((k:Int),q,by',z),d,s'))(hk:0<k)(hb:k*by'<=140737488355328)(hk2:k<=140737488355328)(hg:∀cap cur w1,Xc Xe w w1->w1.heap.size=w.heap.size+1->k<=cap->cap<=maxLen->w1.heap[w.heap.size]?=some (.cells cur q (0,0))->cur.size=cap->Xa P f R n ds s' ((d,false,.slice (some ⟨w.heap.size,0,none⟩) k cap)::e) w1):Xa P f R n ds s e w:=by
 obtain⟨o,c,g,b,i⟩:=Ll h;obtain⟨cap,w',j,l,m,p,r,cur,t,u⟩:=Xhv (n:=n) hT i hk hb hk2;exact Xa.head c (by rw[g];exact J3 b) (λa v=>.inl (j a v)) (hg cap cur w' l m p r t u)
def W3(T:Tab)(e:Env)(o:Oper):Option Nat:=
 match o.op with
 |.call c=>match c.callee,evs e c.args.toList,c.argTypes.toList with
  |.builtin .cap,some [.slice _ _ m],t::_=>match row T t with
   |some {und:=.slice _,..}=>some m
   |_=>none
  |_,_,_=>none
 |_=>none
theorem Xid(hT:Xq P T){m:Nat}{o:Oper}(h:W3 T e o=some m)(a:Act)(hf:X8 n a e)(w:World):(execOp a.eval o).run P w=.ok (.value (.int .i64 m)) w:=by
 unfold W3 at h;split at h
 ·rename_i c g
  split at h
  ·rename_i p q r t ts b i d
   split at h
   ·rename_i s sz by' z j
    cases h
    have k:=(hT.row j).underlying w;obtain⟨dst,op,type,pos,after,guard⟩:=o;simp only at g
    subst g;obtain⟨callee,args,argTypes⟩:=c;simp only at b i d
    subst b;have f:=Fs (hf.evs i);have l:argTypes[0]?=some t:=by
     obtain⟨ats⟩:=argTypes;simp only at d;subst d;rfl
    simp only[execOp,resolve,f];refine(Xh (show _=Result.ok _ w from rfl)).trans ?_;refine(Xh (x:=(.int .i64 m:Value)) (w':=w) ?_).trans rfl;simp only[Builtin.cap_,l];exact(Xh k).trans rfl
   ·cases h
  ·cases h
 ·cases h
theorem Xa.cap(hT:Xq P T){m d:Nat}(h:Ql (W3 T e) n s e=some (m,d,s'))(hg:Xa P f R n ds s' ((d,false,.int .i64 m)::e) w):Xa P f R n ds s e w:=
 Xa.val h (λ_ b a c=>Xid hT b a c w) hg
end
end Go.Proofs.YtohjeeapehmkcaaGreatDoor
