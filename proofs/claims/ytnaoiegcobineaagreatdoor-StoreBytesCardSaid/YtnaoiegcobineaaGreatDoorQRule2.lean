/-
  Rule2
-/
import Derived.Test.YtnaoiegcobineaaGreatDoorQRule
namespace Go.Proofs.YtnaoiegcobineaaGreatDoor
open Go.RowKit
section
variable {P:Program} {T:Tab} {f:FuncId} {R:Aim} {Post:Value→World→Prop} {n:Nat} {ds:List Deferred} {s s':List Item} {e e':Env} {w w':World}
def setV:List Value→Nat→List Value→Option (List Value)
 |l,0,[]=>some l
 |_::r,0,v::vs=>match setV r 0 vs with
  |some q=>some (v::q)
  |none=>none
 |x::r,i+1,vs=>match setV r i vs with
  |some q=>some (x::q)
  |none=>none
 |[],_,_=>none
theorem setV_step:∀ (l:List Value) (i:Nat) (v:Value) (vs r:List Value),setV l i (v::vs)=some r→i<l.length∧setV (l.set i v) (i+1) vs=some r
 |[],0,v,vs,r,h=>by simp [setV] at h
 |[],i+1,v,vs,r,h=>by simp [setV] at h
 |x::l,0,v,vs,r,h=>by
  simp only [setV] at h
  split at h
  ·rename_i q hq; cases h; exact ⟨by simp,by simp [setV,hq]⟩
  ·cases h
 |x::l,i+1,v,vs,r,h=>by
  simp only [setV] at h
  split at h
  ·rename_i q hq
   cases h
   obtain ⟨h1,h2⟩:=setV_step l i v vs q hq
   exact ⟨by simp; omega,by simp [setV,h2]⟩
  ·cases h
theorem setV_nil:∀ (l:List Value) (i:Nat) (r:List Value),setV l i []=some r→r=l
 |l,0,r,h=>by cases l <;> (simp [setV] at h; first | exact h.symm | exact h)
 |x::l,i+1,r,h=>by
  simp only [setV] at h
  split at h
  ·rename_i q hq; cases h; rw [setV_nil l i q hq]
  ·cases h
 |[],i+1,r,h=>by simp [setV] at h
def plainV:Value→Bool | .agg _=>false | .tuple _=>false | _=>true
theorem setCell_heap_same {b off:Nat} {c:Array Value} {t:TypeId} {fz:Nat × Nat} {v:Value} (h:w.heap[b]? = some (.cells c t fz)) :
 (w.setCell ⟨b,off,none⟩ v).heap[b]? = some (.cells (c.setIfInBounds off v) t fz):=by
 simp only [World.setCell,Array.getElem?_modify,if_pos,h,Option.map_some]
 simp
theorem chg_setCell (b off:Nat) (v:Value):Chg (fun k=>k=b) w (w.setCell ⟨b,off,none⟩ v) :=
 ⟨rfl,rfl,rfl,by simp [World.setCell],fun k _ hk=>by simp only [World.setCell,Array.getElem?_modify]; rw [if_neg (by intro h; exact hk h.symm)]⟩
theorem store_run {b off:Nat} {c:Array Value} {t:TypeId} {v:Value} (h:w.heap[b]? = some (.cells c t (0,0))) (hoff:off<c.size) (hv:plainV v=true) :
 (Go.store ⟨b,off,none⟩ v).run P w = .ok () (w.setCell ⟨b,off,none⟩ v):=by
 have h1:w.cell? ⟨b,off,none⟩=some c[off]:=by rw [cell_of h]; simp [hoff]
 have h2:=frozen_of (off:=off) h
 cases v <;> simp only [plainV,reduceCtorEq] at hv <;> simp [Go.store,Sem.run,h1,h2]
theorem storeCells_run {b:Nat} {t:TypeId} {off:Nat}:∀ (vs:List Value) (i:Nat) (w:World) (c r:List Value),w.heap[b]? = some (.cells c.toArray t (0,0))→setV c (off+i) vs=some r→vs.all plainV=true →
 ∃ w',(storeCells ⟨b,off,none⟩ vs i).run P w = .ok () w'∧w'.heap[b]? = some (.cells r.toArray t (0,0))∧Chg (fun k=>k=b) w w'∧w'.heap.size=w.heap.size
 |[],i,w,c,r,h,hs,_=>⟨w,rfl,by rw [setV_nil _ _ _ hs]; exact h,Chg.refl _ _,rfl⟩
 |v::vs,i,w,c,r,h,hs,hp=>by
  obtain ⟨h1,h2⟩:=setV_step _ _ _ _ _ hs
  simp only [List.all_cons,Bool.and_eq_true] at hp
  have hst:=store_run (P:=P) (off:=off+i) h (by simpa using h1) hp.1
  have hw1:=setCell_heap_same (off:=off+i) (v:=v) h
  obtain ⟨w',hr,hb,hc,hz⟩:=storeCells_run vs (i+1) (w.setCell ⟨b,off+i,none⟩ v) (c.set (off+i) v) r (by rw [hw1,List.setIfInBounds_toArray]) (by rw [← Nat.add_assoc]; exact h2) hp.2
  refine ⟨w',?_,hb,(chg_setCell b (off+i) v).trans hc,by rw [hz]; simp [World.setCell]⟩
  simp only [storeCells,add_off]
  exact (run_bind_ok hst).trans hr
def cellsL:Value→List Value
 |.agg cs=>cs.toList
 |v => [v]
theorem cellsL_eq (v:Value):v.cells.toList=cellsL v:=by cases v <;> rfl
def storeAt (T:Tab) (s:List Item) (e:Env):Option (Nat × Nat × List Value × List Item) :=
 match headOp s e with
 |some (o,s')=>match o.dst with
  |none=>match o.op with
   |.store t x y=>match ev e x,ev e y,row T t with
    |some (.pointer (some ⟨b,off,none⟩)),some v,some r=>match Nat.beq (cellsL v).length r.size with
     |true=>some (b,off,cellsL v,s')
     |false=>none
    |_,_,_=>none
   |_=>none
  |some _=>none
 |none=>none
theorem Goes.head' {o:Oper} (h:headOp s e=some (o,s')) (hd:o.dst=none)
 (hrun:∀ a,Fits n a e→(execOp a.eval o).run P w = .ok .skip w') (hg:Goes P f R n ds s' e w'):Goes P f R n ds s e w :=
 Goes.head (v:=undef) (fl:=false) (e':=e) h (by rw [hd]; rfl) (fun a hf => .inr ⟨hrun a hf,rfl⟩) hg
theorem Goes.store (hT:TabOk P T) {b off:Nat} {vs c r:List Value} {t:TypeId} (h:storeAt T s e=some (b,off,vs,s')) (hc:w.heap[b]? = some (.cells c.toArray t (0,0))) (hr:setV c off vs=some r) (hp:vs.all plainV=true)
 (hg:∀ w1,w1.heap[b]? = some (.cells r.toArray t (0,0))→Chg (fun k=>k=b) w w1→w1.heap.size=w.heap.size→Goes P f R n ds s' e w1):Goes P f R n ds s e w:=by
 unfold storeAt at h
 split at h
 ·rename_i o s1 ho
  split at h
  ·rename_i hd
   split at h
   ·rename_i t x y hop
    split at h
    ·rename_i b1 off1 v r1 hx hy hr1
     split at h
     ·rename_i hsz
      cases h
      obtain ⟨w1,hrun,hb,hch,hz⟩:=storeCells_run (P:=P) (off:=off) (cellsL v) 0 w c r hc hr hp
      refine Goes.head' ho hd (w':=w1) (fun a' hf => ?_) (hg w1 hb hch hz)
      simp only [execOp,hop,hf.ev hx,hf.ev hy]
      refine (run_bind_ok (x:=()) (w':=w1) ?_).trans rfl
      simp only [Instr.storeAt,Instr.sureAddr]
      refine (run_bind_ok (show (pure _:Sem Addr).run P w = .ok _ w from rfl)).trans ?_
      unfold storeVar
      refine (run_bind_ok ((hT.row hr1).sizeOf w)).trans ?_
      have hsz':v.cells.size=r1.size:=by
       have:=Nat.eq_of_beq_eq_true hsz
       rw [← this,← cellsL_eq]; simp
      rw [if_neg (by simp [hsz']),cellsL_eq]
      exact hrun
     ·cases h
    ·cases h
   ·cases h
  ·cases h
 ·cases h
theorem chg_new (o:Obj) (S:Nat→Prop):Chg S w {w with heap:=w.heap.push o} :=
 ⟨rfl,rfl,rfl,by simp,fun k hk _=>by simp only [Array.getElem?_push]; rw [if_neg (by omega)]⟩
def zeroL (r:TyRow):Option (List Value):=match r.zero with | some v=>some (cellsL v) | none=>none
def allocOf (T:Tab) (e:Env) (o:Oper):Option (List Value × Nat) :=
 match o.op with
 |.alloc t=>match row T t with
  |some r=>match zeroL r with
   |some l=>some (l,t)
   |none=>none
  |none=>none
 |.box t x=>match ev e x with
  |some v=>some (cellsL v,t)
  |none=>none
 |_=>none
theorem newVar_run {t:Nat} {v:Value}:(newVar t v).run P w = .ok ⟨w.heap.size,0,none⟩ {w with heap:=w.heap.push (.cells (cellsL v).toArray t)}:=by
 have:(cellsL v).toArray=v.cells:=by rw [← cellsL_eq]
 rw [this]
 rfl
theorem allocOf_run (hT:TabOk P T) {l:List Value} {t:Nat} {o:Oper} (h:allocOf T e o=some (l,t)) (a:Act) (hf:Fits n a e):(execOp a.eval o).run P w = .ok (.value (.pointer (some ⟨w.heap.size,0,none⟩))) {w with heap:=w.heap.push (.cells l.toArray t)}:=by
 unfold allocOf at h
 split at h
 ·rename_i t1 hop
  split at h
  ·rename_i r hr
   split at h
   ·rename_i l1 hl
    cases h
    unfold zeroL at hl
    split at hl
    ·rename_i v hz
     cases hl
     simp only [execOp,hop]
     refine (run_bind_ok (x:=(.pointer (some ⟨w.heap.size,0,none⟩):Value)) ?_).trans rfl
     unfold Instr.alloc
     refine (run_bind_ok ((hT.row hr).zero hz w)).trans ?_
     simp only
     exact (run_bind_ok newVar_run).trans rfl
    ·cases hl
   ·cases h
  ·cases h
 ·rename_i t1 x hop
  split at h
  ·rename_i v hx
   cases h
   simp only [execOp,hop,hf.ev hx]
   refine (run_bind_ok (x:=(.pointer (some ⟨w.heap.size,0,none⟩):Value)) ?_).trans rfl
   unfold Instr.box
   exact (run_bind_ok newVar_run).trans rfl
  ·cases h
 ·cases h
theorem Goes.alloc (hT:TabOk P T) {l:List Value} {t d:Nat} (h:atHead (allocOf T e) n s e=some ((l,t),d,s'))
 (hg:∀ b w1,b=w.heap.size→w1.heap[b]? = some (.cells l.toArray t (0,0))→Chg None' w w1→w1.heap.size=w.heap.size+1→Goes P f R n ds s' ((d,false,.pointer (some ⟨b,0,none⟩))::e) w1):Goes P f R n ds s e w :=
 Goes.val h (fun _ ho a hf=>allocOf_run hT ho a hf) (hg _ _ rfl (by simp) (chg_new _ _) (by simp))
end
end Go.Proofs.YtnaoiegcobineaaGreatDoor
