/-
  Rule2
-/
import Derived.Test.YtgddpaiandefgaaGreatDoorQRule
namespace Go.Proofs.YtgddpaiandefgaaGreatDoor
open Go.RowKit
section
variable {P:Program} {T:Tab} {f:FuncId} {R:Aim} {Post:Value→World→Prop} {n:Nat} {ds:List Deferred} {s s':List Item} {e e':Env} {w w':World}
def XqS:List Value→Nat→List Value→Option (List Value)
 |l,0,[]=>some l
 |_::r,0,v::vs=>match XqS r 0 vs with
  |some q=>some (v::q)
  |none=>none
 |x::r,i+1,vs=>match XqS r i vs with
  |some q=>some (x::q)
  |none=>none
 |[],_,_=>none
theorem Xq3:∀ (l:List Value) (i:Nat) (v:Value) (vs r:List Value),XqS l i (v::vs)=some r→i<l.length∧XqS (l.set i v) (i+1) vs=some r
 |[],0,v,vs,r,h=>by simp [XqS] at h
 |[],i+1,v,vs,r,h=>by simp [XqS] at h
 |x::l,0,v,vs,r,h=>by
  simp only [XqS] at h;split at h
  ·rename_i q a; cases h; exact ⟨by simp,by simp [XqS,a]⟩
  ·cases h
 |x::l,i+1,v,vs,r,h=>by
  simp only [XqS] at h;split at h
  ·rename_i q a
   cases h
   obtain ⟨c,b⟩:=Xq3 l i v vs q a;exact ⟨by simp; omega,by simp [XqS,b]⟩
  ·cases h
theorem Xq0:∀ (l:List Value) (i:Nat) (r:List Value),XqS l i []=some r→r=l
 |l,0,r,h=>by cases l <;> (simp [XqS] at h; first | exact h.symm | exact h)
 |x::l,i+1,r,h=>by
  simp only [XqS] at h;split at h
  ·rename_i q hq; cases h; rw [Xq0 l i q hq]
  ·cases h
 |[],i+1,r,h=>by simp [XqS] at h
def Xn6:Value→Bool | .agg _=>false | .tuple _=>false | _=>true
theorem XqQ {b off:Nat} {c:Array Value} {t:TypeId} {fz:Nat × Nat} {v:Value} (h:w.heap[b]? = some (.cells c t fz)) :
 (w.setCell ⟨b,off,none⟩ v).heap[b]? = some (.cells (c.setIfInBounds off v) t fz):=by
 simp only [World.setCell,Array.getElem?_modify,if_pos,h,Option.map_some]
 simp
theorem XeW (b off:Nat) (v:Value):Chg (fun k=>k=b) w (w.setCell ⟨b,off,none⟩ v) :=
 ⟨rfl,rfl,rfl,by simp [World.setCell],fun k _ a=>by simp only [World.setCell,Array.getElem?_modify]; rw [if_neg (by intro h; exact a h.symm)]⟩
theorem Xt5 {b off:Nat} {c:Array Value} {t:TypeId} {v:Value} (h:w.heap[b]? = some (.cells c t (0,0))) (hoff:off<c.size) (hv:Xn6 v=true) :
 (Go.store ⟨b,off,none⟩ v).run P w = .ok () (w.setCell ⟨b,off,none⟩ v):=by
 have a:w.cell? ⟨b,off,none⟩=some c[off]:=by rw [Xel h]; simp [hoff]
 have d:=XgY (off:=off) h;cases v <;> simp only [Xn6,reduceCtorEq] at hv <;> simp [Go.store,Sem.run,a,d]
theorem XtG {b:Nat} {t:TypeId} {off:Nat}:∀ (vs:List Value) (i:Nat) (w:World) (c r:List Value),w.heap[b]? = some (.cells c.toArray t (0,0))→XqS c (off+i) vs=some r→vs.all Xn6=true →
 ∃ w',(storeCells ⟨b,off,none⟩ vs i).run P w = .ok () w'∧w'.heap[b]? = some (.cells r.toArray t (0,0))∧Chg (fun k=>k=b) w w'∧w'.heap.size=w.heap.size
 |[],i,w,c,r,h,a,_=>⟨w,rfl,by rw [Xq0 _ _ _ a]; exact h,Chg.refl _ _,rfl⟩
 |v::vs,i,w,c,r,h,a,d=>by
  obtain ⟨g,j⟩:=Xq3 _ _ _ _ _ a;simp only [List.all_cons,Bool.and_eq_true] at d;have e:=Xt5 (P:=P) (off:=off+i) h (by simpa using g) d.1;have f:=XqQ (off:=off+i) (v:=v) h;obtain ⟨w',l,m,n,o⟩:=XtG vs (i+1) (w.setCell ⟨b,off+i,none⟩ v) (c.set (off+i) v) r (by rw [f,List.setIfInBounds_toArray]) (by rw [← Nat.add_assoc]; exact j) d.2;refine ⟨w',?_,m,(XeW b (off+i) v).trans n,by rw [o]; simp [World.setCell]⟩;simp only [storeCells,XbV];exact (XqJ e).trans l
def Xen:Value→List Value
 |.agg cs=>cs.toList
 |v => [v]
theorem Xeo (v:Value):v.cells.toList=Xen v:=by cases v <;> rfl
def storeAt (T:Tab) (s:List Item) (e:Env):Option (Nat × Nat × List Value × List Item) :=
 match XhA s e with
 |some (o,s')=>match o.dst with
  |none=>match o.op with
   |.store t x y=>match ev e x,ev e y,row T t with
    |some (.pointer (some ⟨b,off,none⟩)),some v,some r=>match Nat.beq (Xen v).length r.size with
     |true=>some (b,off,Xen v,s')
     |false=>none
    |_,_,_=>none
   |_=>none
  |some _=>none
 |none=>none
theorem Xay.head' {o:Oper} (h:XhA s e=some (o,s')) (hd:o.dst=none)
 (hrun:∀ a,Xau n a e→(execOp a.eval o).run P w = .ok .skip w') (hg:Xay P f R n ds s' e w'):Xay P f R n ds s e w :=
 Xay.head (v:=undef) (fl:=false) (e':=e) h (by rw [hd]; rfl) (fun a hf => .inr ⟨hrun a hf,rfl⟩) hg
theorem Xay.store (hT:XbE P T) {b off:Nat} {vs c r:List Value} {t:TypeId} (h:storeAt T s e=some (b,off,vs,s')) (hc:w.heap[b]? = some (.cells c.toArray t (0,0))) (hr:XqS c off vs=some r) (hp:vs.all Xn6=true)
 (hg:∀ w1,w1.heap[b]? = some (.cells r.toArray t (0,0))→Chg (fun k=>k=b) w w1→w1.heap.size=w.heap.size→Xay P f R n ds s' e w1):Xay P f R n ds s e w:=by
 unfold storeAt at h;split at h
 ·rename_i o D m
  split at h
  ·rename_i p
   split at h
   ·rename_i t x y g
    split at h
    ·rename_i E q v u z A i
     split at h
     ·rename_i j
      cases h
      obtain ⟨w1,a,B,l,C⟩:=XtG (P:=P) (off:=off) (Xen v) 0 w c r hc hr hp;refine Xay.head' m p (w':=w1) (fun a' hf => ?_) (hg w1 B l C);simp only [execOp,g,hf.ev z,hf.ev A];refine (XqJ (x:=()) (w':=w1) ?_).trans rfl;simp only [Instr.storeAt,Instr.sureAddr];refine (XqJ (show (pure _:Sem Addr).run P w = .ok _ w from rfl)).trans ?_;unfold storeVar;refine (XqJ ((hT.row i).sizeOf w)).trans ?_;have d:v.cells.size=u.size:=by
       have:=Nat.eq_of_beq_eq_true j;rw [← this,← Xeo]; simp
      rw [if_neg (by simp [d]),Xeo];exact a
     ·cases h
    ·cases h
   ·cases h
  ·cases h
 ·cases h
theorem XeT (o:Obj) (S:Nat→Prop):Chg S w {w with heap:=w.heap.push o} :=
 ⟨rfl,rfl,rfl,by simp,fun k a _=>by simp only [Array.getElem?_push]; rw [if_neg (by omega)]⟩
def XwI (r:XbP):Option (List Value):=match r.zero with | some v=>some (Xen v) | none=>none
def Xcg (T:Tab) (e:Env) (o:Oper):Option (List Value × Nat) :=
 match o.op with
 |.alloc t=>match row T t with
  |some r=>match XwI r with
   |some l=>some (l,t)
   |none=>none
  |none=>none
 |.box t x=>match ev e x with
  |some v=>some (Xen v,t)
  |none=>none
 |_=>none
theorem XlT {t:Nat} {v:Value}:(newVar t v).run P w = .ok ⟨w.heap.size,0,none⟩ {w with heap:=w.heap.push (.cells (Xen v).toArray t)}:=by
 have:(Xen v).toArray=v.cells:=by rw [← Xeo]
 rw [this];rfl
theorem Xch (hT:XbE P T) {l:List Value} {t:Nat} {o:Oper} (h:Xcg T e o=some (l,t)) (a:Act) (hf:Xau n a e):(execOp a.eval o).run P w = .ok (.value (.pointer (some ⟨w.heap.size,0,none⟩))) {w with heap:=w.heap.push (.cells l.toArray t)}:=by
 unfold Xcg at h;split at h
 ·rename_i d b
  split at h
  ·rename_i r f
   split at h
   ·rename_i j c
    cases h
    unfold XwI at c;split at c
    ·rename_i v g
     cases c
     simp only [execOp,b];refine (XqJ (x:=(.pointer (some ⟨w.heap.size,0,none⟩):Value)) ?_).trans rfl;unfold Instr.alloc;refine (XqJ ((hT.row f).zero g w)).trans ?_;simp only
     exact (XqJ XlT).trans rfl
    ·cases c
   ·cases h
  ·cases h
 ·rename_i d x b
  split at h
  ·rename_i v i
   cases h
   simp only [execOp,b,hf.ev i];refine (XqJ (x:=(.pointer (some ⟨w.heap.size,0,none⟩):Value)) ?_).trans rfl;unfold Instr.box;exact (XqJ XlT).trans rfl
  ·cases h
 ·cases h
theorem Xay.alloc (hT:XbE P T) {l:List Value} {t d:Nat} (h:XcY (Xcg T e) n s e=some ((l,t),d,s'))
 (hg:∀ b w1,b=w.heap.size→w1.heap[b]? = some (.cells l.toArray t (0,0))→Chg XaX w w1→w1.heap.size=w.heap.size+1→Xay P f R n ds s' ((d,false,.pointer (some ⟨b,0,none⟩))::e) w1):Xay P f R n ds s e w :=
 Xay.val h (fun _ c a hf=>Xch hT c a hf) (hg _ _ rfl (by simp) (XeT _ _) (by simp))
end
end Go.Proofs.YtgddpaiandefgaaGreatDoor
