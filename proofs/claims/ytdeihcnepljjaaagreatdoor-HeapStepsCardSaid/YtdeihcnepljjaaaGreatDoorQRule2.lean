/-
  Rule2
-/
import Derived.Test.YtdeihcnepljjaaaGreatDoorQRule
namespace Go.Proofs.YtdeihcnepljjaaaGreatDoor
open Go.RowKit
section
variable {P:Program}{T:Tab}{f:FuncId}{R:Aim}{Post:Value->World->Prop}{n:Nat}{ds:List Deferred}{s s':List Item}{e e':Env}{w w':World}
def Ya:List Value->Nat->List Value->Option (List Value)
 |l,0,[]=>some l
 |_::r,0,v::vs=>match Ya r 0 vs with
  |some q=>some (v::q)
  |none=>none
 |x::r,i+1,vs=>match Ya r i vs with
  |some q=>some (x::q)
  |none=>none
 |[],_,_=>none
theorem Wx:∀(l:List Value) (i:Nat) (v:Value) (vs r:List Value),Ya l i (v::vs)=some r->i<l.length/\Ya (l.set i v) (i+1) vs=some r
 |[],0,v,vs,r,h=>by simp[Ya] at h
 |[],i+1,v,vs,r,h=>by simp[Ya] at h
 |x::l,0,v,vs,r,h=>by
  simp only[Ya] at h;split at h
  .rename_i q a;cases h;exact⟨xS,by simp[Ya,a]⟩
  .cases h
 |x::l,i+1,v,vs,r,h=>by
  simp only[Ya] at h;split at h
  .rename_i q a
   cases h
   obtain⟨c,b⟩:=Wx l i v vs q a;exact⟨xQ,by simp[Ya,b]⟩
  .cases h
theorem Wv:∀(l:List Value) (i:Nat) (r:List Value),Ya l i []=some r->r=l
 |l,0,r,h=>by cases l <;> (simp[Ya] at h;first|exact h.symm|exact h)
 |x::l,i+1,r,h=>by
  simp only[Ya] at h;split at h
  .rename_i q hq;cases h;rw[Wv l i q hq]
  .cases h
 |[],i+1,r,h=>by simp[Ya] at h
def Nr:Value->Bool|.agg _=>false|.tuple _=>false|_=>true
theorem Xnw{b off:Nat}{c:Array Value}{t:TypeId}{fz:Nat×Nat}{v:Value}(h:w.heap[b]?=some (.cells c t fz)):(w.setCell ⟨b,off,none⟩ v).heap[b]?=some (.cells (c.setIfInBounds off v) t fz):=by
 simp only[World.setCell,Array.getElem?_modify,if_pos,h,Option.map_some]
 simp
theorem Xjp(b off:Nat)(v:Value):Xc (λk=>k=b) w (w.setCell ⟨b,off,none⟩ v):=
 ⟨rfl,rfl,rfl,by simp[World.setCell],λk _ a=>by simp only[World.setCell,Array.getElem?_modify];rw[if_neg (by intro h;exact a h.symm)]⟩
theorem Xoy{b off:Nat}{c:Array Value}{t:TypeId}{v:Value}(h:w.heap[b]?=some (.cells c t (0,0)))(hoff:off<c.size)(hv:Nr v=true):(Go.store ⟨b,off,none⟩ v).run P w=.ok () (w.setCell ⟨b,off,none⟩ v):=by
 have a:w.cell? ⟨b,off,none⟩=some c[off]:=by rw[Yx h];simp[hoff]
 have d:=Xj0 (off:=off) h;cases v <;> simp only[Nr,reduceCtorEq] at hv <;> simp[Go.store,Sem.run,a,d]
theorem XcN{b:Nat}{t:TypeId}{off:Nat}:∀(vs:List Value) (i:Nat) (w:World) (c r:List Value),w.heap[b]?=some (.cells c.toArray t (0,0))->Ya c (off+i) vs=some r->vs.all Nr=true ->
 ∃w',(storeCells ⟨b,off,none⟩ vs i).run P w=.ok () w'/\w'.heap[b]?=some (.cells r.toArray t (0,0))/\Xc (λk=>k=b) w w'/\w'.heap.size=w.heap.size
 |[],i,w,c,r,h,a,_=>⟨w,rfl,by rw[Wv _ _ _ a];exact h,Xc.refl _ _,rfl⟩
 |v::vs,i,w,c,r,h,a,d=>by
  obtain⟨j,l⟩:=Wx _ _ _ _ _ a;simp only[List.all_cons,Bool.and_eq_true] at d;have f:=Xoy (P:=P) (off:=off+i) h (xU j) d.1;have g:=Xnw (off:=off+i) (v:=v) h;obtain⟨w',hr,m,n,o⟩:=XcN vs (i+1) (w.setCell ⟨b,off+i,none⟩ v) (c.set (off+i) v) r (by rw[g,List.setIfInBounds_toArray]) (by rw[<-Nat.add_assoc];exact l) d.2;refine⟨w',?_,m,(Xjp b (off+i) v).trans n,by rw[o];simp[World.setCell]⟩;simp only[storeCells,C0];exact(Xh f).trans hr
def Y8:Value->List Value
 |.agg cs=>cs.toList
 |v=>[v]
theorem Gl(v:Value):v.cells.toList=Y8 v:=by cases v <;> rfl
def storeAt(T:Tab)(s:List Item)(e:Env):Option (Nat×Nat×List Value×List Item):=
 match E7 s e with
 |some (o,s')=>match o.dst with
  |none=>match o.op with
   |.store t x y=>match ev e x,ev e y,row T t with
    |some (.pointer (some ⟨b,off,none⟩)),some v,some r=>match Nat.beq (Y8 v).length r.size with
     |true=>some (b,off,Y8 v,s')
     |false=>none
    |_,_,_=>none
   |_=>none
  |some _=>none
 |none=>none
theorem Xa.head'{o:Oper}(h:E7 s e=some (o,s'))(hd:o.dst=none)(hrun:∀a,Za n a e->(execOp a.eval o).run P w=.ok .skip w')(hg:Xa P f R n ds s' e w'):Xa P f R n ds s e w:=
 Xa.head (v:=undef) (fl:=false) (e':=e) h (by rw[hd];rfl) (λa hf=>.inr ⟨hrun a hf,rfl⟩) hg
theorem Xa.store(hT:Xp P T){b off:Nat}{vs c r:List Value}{t:TypeId}(h:storeAt T s e=some (b,off,vs,s'))(hc:w.heap[b]?=some (.cells c.toArray t (0,0)))(hr:Ya c off vs=some r)(hp:vs.all Nr=true)(hg:∀w1,w1.heap[b]?=some (.cells r.toArray t (0,0))->Xc (λk=>k=b) w w1->w1.heap.size=w.heap.size->Xa P f R n ds s' e w1):Xa P f R n ds s e w:=by
 unfold storeAt at h;split at h
 .rename_i o D m
  split at h
  .rename_i p
   split at h
   .rename_i t x y g
    split at h
    .rename_i E q v u z A i
     split at h
     .rename_i j
      cases h
      obtain⟨w1,a,B,l,C⟩:=XcN (P:=P) (off:=off) (Y8 v) 0 w c r hc hr hp;refine Xa.head' m p (w':=w1) (λa' hf=>?_) (hg w1 B l C);simp only[execOp,g,hf.ev z,hf.ev A];refine(Xh (x:=()) (w':=w1) ?_).trans rfl;simp only[Instr.storeAt,Instr.sureAddr];refine(Xh (show(pure _:Sem Addr).run P w=.ok _ w from rfl)).trans ?_;unfold storeVar;refine(Xh ((hT.row i).sizeOf w)).trans ?_;have d:v.cells.size=u.size:=by
       have:=Nat.eq_of_beq_eq_true j;rw[<-this,<-Gl];simp
      rw[if_neg (by simp[d]),Gl];exact a
     .cases h
    .cases h
   .cases h
  .cases h
 .cases h
theorem E5(o:Obj)(S:Nat->Prop):Xc S w {w with heap:=w.heap.push o}:=
 ⟨rfl,rfl,rfl,xS,λk a _=>by simp only[Array.getElem?_push];rw[if_neg X]⟩
def Xip(r:Db):Option (List Value):=match r.zero with|some v=>some (Y8 v)|none=>none
def I4(T:Tab)(e:Env)(o:Oper):Option (List Value×Nat):=
 match o.op with
 |.alloc t=>match row T t with
  |some r=>match Xip r with
   |some l=>some (l,t)
   |none=>none
  |none=>none
 |.box t x=>match ev e x with
  |some v=>some (Y8 v,t)
  |none=>none
 |_=>none
theorem XfL{t:Nat}{v:Value}:(newVar t v).run P w=.ok ⟨w.heap.size,0,none⟩ {w with heap:=w.heap.push (.cells (Y8 v).toArray t)}:=by
 have:(Y8 v).toArray=v.cells:=by rw[<-Gl]
 rw[this];rfl
theorem Ty(hT:Xp P T){l:List Value}{t:Nat}{o:Oper}(h:I4 T e o=some (l,t))(a:Act)(hf:Za n a e):(execOp a.eval o).run P w=.ok (.value (.pointer (some ⟨w.heap.size,0,none⟩))) {w with heap:=w.heap.push (.cells l.toArray t)}:=by
 unfold I4 at h;split at h
 .rename_i d b
  split at h
  .rename_i r hr
   split at h
   .rename_i i c
    cases h
    unfold Xip at c;split at c
    .rename_i v f
     cases c
     simp only[execOp,b];refine(Xh (x:=(.pointer (some ⟨w.heap.size,0,none⟩):Value)) ?_).trans rfl;unfold Instr.alloc;refine(Xh ((hT.row hr).zero f w)).trans ?_;simp only
     exact(Xh XfL).trans rfl
    .cases c
   .cases h
  .cases h
 .rename_i d x b
  split at h
  .rename_i v g
   cases h
   simp only[execOp,b,hf.ev g];refine(Xh (x:=(.pointer (some ⟨w.heap.size,0,none⟩):Value)) ?_).trans rfl;unfold Instr.box;exact(Xh XfL).trans rfl
  .cases h
 .cases h
theorem Xa.alloc(hT:Xp P T){l:List Value}{t d:Nat}(h:Qb (I4 T e) n s e=some ((l,t),d,s'))(hg:∀b w1,b=w.heap.size->w1.heap[b]?=some (.cells l.toArray t (0,0))->Xc Xf w w1->w1.heap.size=w.heap.size+1->Xa P f R n ds s' ((d,false,.pointer (some ⟨b,0,none⟩))::e) w1):Xa P f R n ds s e w:=
 Xa.val h (λ_ c a hf=>Ty hT c a hf) (hg _ _ rfl xS (E5 _ _) xS)
end
end Go.Proofs.YtdeihcnepljjaaaGreatDoor
