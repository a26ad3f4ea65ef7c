/-
  Rule17
-/
import Derived.Test.YtohjeeapehmkcaaGreatDoorQRule15
import Derived.Lib.AppendZerosOnto
namespace Go.Proofs.YtohjeeapehmkcaaGreatDoor
open Go.RowKit
section
variable {P:Program} {T:Tab} {ops:Array Oper} {f:FuncId} {R:Aim} {k:List Item} {q n:Nat} {ds:List Deferred} {s s':List Item} {w w0:World} {e:Env} {U:List Nat} {S:Nat->Prop}
def Uo (T:Tab) (e:Env) (o:Oper):Option (Int × Nat × Nat × Value) :=
 match o.op with
 |.call c=>match c.callee,evs e c.args.toList,c.argTypes.toList with
  |.builtin .append,some [.slice none 0 0,.int .i64 k],[t,t']=>match row T t,row T t' with
   |some {und := .slice q,..},some {und := .int .i64,..}=>match row T q with
    |some r2=>match r2.zero with
     |some z=>match Nat.beq (Yt z).length 1,Nat.beq r2.size 1 with
      |true,true=>some (k,q,r2.bytes,z)
      |_,_=>none
     |none=>none
    |none=>none
   |_,_=>none
  |_,_,_=>none
 |_=>none
theorem Xgh (hT:Xp P T) {z:Value} {k q by':Nat} {o:Oper} (h:Uo T e o=some ((k:Int),q,by',z)) (hk:0<k) (hb:k*by'<=140737488355328) (hk2:k<=140737488355328) :
 ∃ cap w',(∀ act,X5 n act e->(execOp act.eval o).run P w = .ok (.value (.slice (some ⟨w.heap.size,0,none⟩) k cap)) w')/\Xc Xe w w'/\w'.heap.size=w.heap.size+1/\k<=cap/\cap<=maxLen /\ ∃ cur,w'.heap[w.heap.size]? = some (.cells cur q (0,0))/\cur.size=cap:=by
 unfold Uo at h;split at h
 ·rename_i c l
  split at h
  ·rename_i Q t t' d m f
   split at h
   ·rename_i R K L S M N U F r
    split at h
    ·rename_i V s
     split at h
     ·rename_i W u
      split at h
      ·rename_i v x
       cases h
       have g:=(hT.row s).2;have G:=(hT.row F).1;have y:=(hT.row r).1;cases a:P.info? q with
       |none=>rw [a] at g; cases g
       |some inf =>
        rw [a] at g;simp only [Option.map_some,Option.some.injEq,Prod.mk.injEq] at g;obtain ⟨H,A,I⟩:=g;have O:inf.size=1:=by rw [H]; exact Nat.eq_of_beq_eq_true x
        have B:z.cells.size=1:=by
         have:=Nat.eq_of_beq_eq_true v;rw [<- Es] at this; simpa using this
        have p:Builtin.nextslicecap (0+k) 0*inf.bytes<=281474976710656:=growslice_fits (by omega) (by rw [A,Nat.zero_add]; exact hb);have b:=Lib.run_append_grow_zeros (P:=P) w t t' o.type q inf z .i64 .i64 G y a (by rw [I,u]) none 0 0 [] (by simp [Builtin.firstCells]) k hk (by omega) (by omega) (by omega) (by rw [A]; omega) p;rw [Nat.zero_add] at b;have C:=grownCap_ge w k 0 q;have D:=grownCap_le_maxLen w k 0 q (by unfold maxLen; omega);refine ⟨grownCap w k 0 q,w.drew.alloc (.cells (#[]++Builtin.zeroCells z.cells k++Builtin.zeroCells z.cells (grownCap w k 0 q - k)) q),fun act J => ?_,?_,?_,C,D,#[]++Builtin.zeroCells z.cells k++Builtin.zeroCells z.cells (grownCap w k 0 q - k),?_,?_⟩
        ·obtain ⟨dst,op,type,pos,after,guard⟩:=o;simp only at l
         subst l;obtain ⟨callee,args,argTypes⟩:=c;simp only at d m f b
         subst d;have i:args.map act.eval = #[.slice none 0 0,.int .i64 (k:Int)]:=Fc (J.evs m);have E:argTypes = #[t,t']:=by obtain ⟨ats⟩:=argTypes; simp only at f; subst f; rfl
         subst E;simp only [execOp,resolve,i];refine (Xh (show _=Result.ok _ w from rfl)).trans ?_;exact (Xh b).trans rfl
        ·exact (show Xc Xe w w.drew from ⟨rfl,rfl,rfl,Nat.le_refl _,fun _ _ _=>rfl⟩).trans (Dx _ _)
        ·simp
        ·exact (show ∀ (j:World) o,j.heap.size=w.heap.size->(j.alloc o).heap[w.heap.size]? = some o from fun j o h=>by show (j.heap.push o)[w.heap.size]? = some o; rw [<- h]; simp) w.drew _ rfl
        ·simp [Builtin.zeroCells,B]
         omega
      ·cases h
     ·cases h
    ·cases h
   ·cases h
  ·cases h
 ·cases h
theorem Xa.appendZ (hT:Xp P T) {z:Value} {k q by' d:Nat} (h:Qa (Uo T e) n s e=some (((k:Int),q,by',z),d,s')) (hk:0<k) (hb:k*by'<=140737488355328) (hk2:k<=140737488355328)
 (hg:∀ cap cur w1,Xc Xe w w1->w1.heap.size=w.heap.size+1->k<=cap->cap<=maxLen->w1.heap[w.heap.size]? = some (.cells cur q (0,0))->cur.size=cap->Xa P f R n ds s' ((d,false,.slice (some ⟨w.heap.size,0,none⟩) k cap)::e) w1):Xa P f R n ds s e w:=by
 obtain ⟨o,c,g,b,i⟩:=Ku h;obtain ⟨cap,w',j,l,m,p,r,cur,t,u⟩:=Xgh (n:=n) hT i hk hb hk2;exact Xa.head c (by rw [g]; exact Jh b) (fun a v => .inl (j a v)) (hg cap cur w' l m p r t u)
def U8 (T:Tab) (e:Env) (o:Oper):Option Nat :=
 match o.op with
 |.call c=>match c.callee,evs e c.args.toList,c.argTypes.toList with
  |.builtin .cap,some [.slice _ _ m],t::_=>match row T t with
   |some {und := .slice _,..}=>some m
   |_=>none
  |_,_,_=>none
 |_=>none
theorem XgW (hT:Xp P T) {m:Nat} {o:Oper} (h:U8 T e o=some m) (a:Act) (hf:X5 n a e) (w:World):(execOp a.eval o).run P w = .ok (.value (.int .i64 m)) w:=by
 unfold U8 at h;split at h
 ·rename_i c g
  split at h
  ·rename_i j k r t ts b i d
   split at h
   ·rename_i s sz by' z l
    cases h
    have p:=(hT.row l).underlying w;obtain ⟨dst,op,type,pos,after,guard⟩:=o;simp only at g
    subst g;obtain ⟨callee,args,argTypes⟩:=c;simp only at b i d
    subst b;have f:args.map a.eval = #[.slice j k m]:=Fc (hf.evs i);have q:argTypes[0]? = some t:=by
     obtain ⟨ats⟩:=argTypes;simp only at d; subst d; rfl
    simp only [execOp,resolve,f];refine (Xh (show _=Result.ok _ w from rfl)).trans ?_;refine (Xh (x:=(.int .i64 m:Value)) (w':=w) ?_).trans rfl;simp only [Builtin.cap_,q];exact (Xh p).trans rfl
   ·cases h
  ·cases h
 ·cases h
theorem Xa.cap (hT:Xp P T) {m d:Nat} (h:Qa (U8 T e) n s e=some (m,d,s')) (hg:Xa P f R n ds s' ((d,false,.int .i64 m)::e) w):Xa P f R n ds s e w :=
 Xa.val h (fun _ b a c=>XgW hT b a c w) hg
end
end Go.Proofs.YtohjeeapehmkcaaGreatDoor
