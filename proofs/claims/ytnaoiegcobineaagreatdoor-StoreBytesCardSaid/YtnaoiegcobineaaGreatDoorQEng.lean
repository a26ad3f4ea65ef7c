/-
  Eng
-/
import Derived.Test.YtnaoiegcobineaaGreatDoorQBase
import Derived.Calls
import Derived.Orders
import Derived.Still
import Derived.AtR
import Derived.RangeFuncIn
import Derived.RangeFuncRecord
import Derived.RangeFuncLeaves
namespace Go.Proofs.YtnaoiegcobineaaGreatDoor
open Go.RowKit
abbrev Env:=List (Nat × Bool × Value)
def look:Env→Nat→Option Value
 |[],_=>none
 |(s,_,v)::r,t=>bif Nat.beq t s then some v else look r t
def lit:Env→Nat→Bool
 |[],_=>false
 |(s,b,_)::r,t=>bif Nat.beq t s then b else lit r t
structure Fits (n:Nat) (a:Act) (e:Env):Prop where
 size:a.tmps.size=n
 slot:∀ t v,look e t=some v→a.tmps[t]? = some v
theorem beq_no {t s:Nat} (h:¬ t=s):Nat.beq t s=false:=by
 cases hb:Nat.beq t s
 ·rfl
 ·exact absurd (Nat.eq_of_beq_eq_true hb) h
theorem look_cons (s:Nat) (b:Bool) (v:Value) (r:Env) (t:Nat):look ((s,b,v)::r) t=if t=s then some v else look r t:=by
 simp only [look]
 by_cases h:t=s
 ·subst h; simp
 ·have:Nat.beq t s=false:=beq_no h
  rw [this,if_neg h]; rfl
theorem Fits.put {n:Nat} {a:Act} {e:Env} (h:Fits n a e) (d:Nat) (b:Bool) (v:Value) (hd:d<n):Fits n (a.put (some d) v) ((d,b,v)::e):=by
 refine ⟨by simp [Act.put,h.size],fun t u ht => ?_⟩
 rw [look_cons] at ht
 by_cases e1:t=d
 ·subst e1
  simp only [if_true] at ht
  simp [Act.put,h.size,hd,ht]
 ·rw [if_neg e1] at ht
  simp only [Act.put,Array.getElem?_setIfInBounds]
  rw [if_neg (by omega)]
  exact h.slot t u ht
theorem Fits.weaken {n:Nat} {a:Act} {e e':Env} (h:Fits n a e) (hs:∀ t v,look e' t=some v→look e t=some v):Fits n a e':=⟨h.size,fun t v ht=>h.slot t v (hs t v ht)⟩
def ev (e:Env):Operand→Option Value
 |.tmp t=>look e t
 |.const v=>some v
 |.global g=>some (.pointer (some ⟨g,0,none⟩))
 |.func f=>some (.func (.func f) #[] #[])
theorem Fits.ev {n:Nat} {a:Act} {e:Env} (h:Fits n a e) {x:Operand} {v:Value} (hx:ev e x=some v):a.eval x=v:=by
 cases x with
 |tmp t =>
  have:=h.slot t v hx
  simp [Act.eval,this]
 |const u=>simp [Go.Proofs.YtnaoiegcobineaaGreatDoor.ev] at hx; simp [Act.eval,hx]
 |global g=>simp [Go.Proofs.YtnaoiegcobineaaGreatDoor.ev] at hx; simp [Act.eval,hx]
 |func f=>simp [Go.Proofs.YtnaoiegcobineaaGreatDoor.ev] at hx; simp [Act.eval,hx]
def evF (e:Env):Operand→Bool
 |.tmp t=>lit e t
 |.const _=>true
 |_=>false
def evs (e:Env):List Operand→Option (List Value)
 |[]=>some []
 |x::r=>match ev e x with
  |some v=>match evs e r with
   |some l=>some (v::l)
   |none=>none
  |none=>none
theorem Fits.evs {n:Nat} {a:Act} {e:Env} (h:Fits n a e):∀ {xs:List Operand} {vs:List Value},evs e xs=some vs→xs.map a.eval=vs
 |[],vs,hx=>by simp [Go.Proofs.YtnaoiegcobineaaGreatDoor.evs] at hx; simp [hx]
 |x::r,vs,hx=>by
  simp only [Go.Proofs.YtnaoiegcobineaaGreatDoor.evs] at hx
  split at hx
  ·rename_i v hv
   split at hx
   ·rename_i l hl
    simp only [Option.some.injEq] at hx
    rw [← hx,List.map_cons,h.ev hv,h.evs hl]
   ·cases hx
  ·cases hx
structure TyRow where
 und:TypeDesc
 size:Nat
 bytes:Nat
 zero:Option Value
abbrev Tab:=List (Nat × TyRow)
def row:Tab→Nat→Option TyRow
 |[],_=>none
 |(s,v)::r,t=>bif Nat.beq t s then some v else row r t
def RowOk (P:Program) (t:Nat) (r:TyRow):Prop :=
 P.underlying t=some r.und∧(P.info? t).map (fun i=>(i.size,i.bytes,i.zero))=some (r.size,r.bytes,r.zero)
def TabOk (P:Program):Tab→Prop
 |[]=>True
 |(t,r)::l=>RowOk P t r∧TabOk P l
theorem TabOk.row {P:Program}:∀ {T:Tab},TabOk P T → ∀ {t:Nat} {r:TyRow},row T t=some r→RowOk P t r
 |[],_,t,r,h=>by simp [Go.Proofs.YtnaoiegcobineaaGreatDoor.row] at h
 |(s,v)::l,hT,t,r,h=>by
  simp only [Go.Proofs.YtnaoiegcobineaaGreatDoor.row] at h
  by_cases hs:Nat.beq t s=true
  ·rw [hs] at h; simp at h; have:t=s:=Nat.eq_of_beq_eq_true hs
   subst this; subst h; exact hT.1
  ·have hs':Nat.beq t s=false:=by rw [← Bool.not_eq_true]; exact hs
   rw [hs'] at h; exact hT.2.row h
theorem RowOk.underlying {P:Program} {t:Nat} {r:TyRow} (h:RowOk P t r) (w:World):(underlying t).run P w = .ok r.und w:=by
 simp [Go.underlying,Go.program,Sem.run,bind,Sem.bind,h.1,pure]
theorem RowOk.sizeOf {P:Program} {t:Nat} {r:TyRow} (h:RowOk P t r) (w:World):(sizeOf t).run P w = .ok r.size w:=by
 have h2:=h.2
 cases hi:P.info? t with
 |none=>rw [hi] at h2; cases h2
 |some i =>
  rw [hi] at h2; simp at h2
  simp [Go.sizeOf,Go.typeInfo,Go.program,Sem.run,bind,Sem.bind,hi,pure,h2.1]
theorem RowOk.zero {P:Program} {t:Nat} {r:TyRow} (h:RowOk P t r) {z:Value} (hz:r.zero=some z) (w:World):(zeroValue t).run P w = .ok z w:=by
 have h2:=h.2
 cases hi:P.info? t with
 |none=>rw [hi] at h2; cases h2
 |some i =>
  rw [hi] at h2; simp at h2
  simp [Go.zeroValue,Go.typeInfo,Go.program,Sem.run,bind,Sem.bind,hi,pure,h2.2.2,hz]
def sameK:IntKind→IntKind→Bool
 |.i8,.i8 | .i16,.i16 | .i32,.i32 | .i64,.i64 | .u8,.u8 | .u16,.u16 | .u32,.u32 | .u64,.u64=>true
 |_,_=>false
theorem sameK_eq {a b:IntKind} (h:sameK a b=true):a=b:=by cases a <;> cases b <;> first | rfl | cases h
def cmpV (op:BinOp) (x y:Int):Option Value :=
 match op with
 |.eql=>some (.bool (x == y))
 |.neq=>some (.bool (x != y))
 |.lss=>some (.bool (decide (x<y)))
 |.leq=>some (.bool (decide (x≤y)))
 |.gtr=>some (.bool (decide (x > y)))
 |.geq=>some (.bool (decide (x≥y)))
 |_=>none
def binV (T:Tab) (op:BinOp) (t:Nat) (x y:Value):Option Value :=
 match x,y with
 |.int k a,.int k' b=>bif sameK k k' then cmpV op a b else none
 |.bool a,.bool b=>match op,row T t with
  |.eql,some {und := .bool,..}=>some (.bool (a == b))
  |.neq,some {und := .bool,..}=>some (.bool (!(a == b)))
  |_,_=>none
 |.pointer (some _),.pointer none | .pointer none,.pointer (some _)=>match op,row T t with
  |.eql,some {und := .pointer _,..}=>some (.bool false)
  |.neq,some {und := .pointer _,..}=>some (.bool true)
  |_,_=>none
 |.pointer none,.pointer none=>match op,row T t with
  |.eql,some {und := .pointer _,..}=>some (.bool true)
  |.neq,some {und := .pointer _,..}=>some (.bool false)
  |_,_=>none
 |.slice a _ _,.slice none 0 0=>match op,row T t with
  |.eql,some {und := .slice _,..}=>some (.bool a.isNone)
  |.neq,some {und := .slice _,..}=>some (.bool (!a.isNone))
  |_,_=>none
 |_,_=>none
def fieldOff (T:Tab) (t k:Nat):Option Nat :=
 match row T t with
 |some {und := .struct fs,..}=>match fs[k]? with
  |some f=>match row T f.type with
   |some r=>bif Nat.beq r.size 0 then none else some f.offset
   |none=>none
  |none=>none
 |_=>none
def unV (op:UnOp) (v:Value):Option Value :=
 match op,v with
 |.not,.bool b=>some (.bool (!b))
 |_,_=>none
def bltV (T:Tab) (b:Builtin) (ts:List Nat) (l:List Value):Option Value :=
 match b,ts,l with
 |.len,t::_,[.slice _ m _]=>match row T t with
  |some {und := .slice _,..}=>some (.int .i64 m)
  |_=>none
 |.min,_,[.int k x,.int _ y]=>some (.int k (if y<x then y else x))
 |.max,_,[.int k x,.int _ y]=>some (.int k (if y > x then y else x))
 |_,_,_=>none
def opV (T:Tab) (e:Env) (o:Op):Option Value :=
 match o with
 |.move x=>ev e x
 |.assign x=>ev e x
 |.pick c a b=>match evF e c with
  |true=>match ev e c with
   |some (.bool true)=>ev e a
   |some (.bool false)=>ev e b
   |_=>none
  |false=>none
 |.binOp op t x y _=>match ev e x,ev e y with
  |some v,some u=>binV T op t v u
  |_,_=>none
 |.unOp op _ x=>match ev e x with
  |some v=>unV op v
  |none=>none
 |.makeFunc fn first captured=>match evs e first.toList,evs e captured.toList with
  |some l,some m=>some (.func fn l.toArray m.toArray)
  |_,_=>none
 |.extract x i=>match ev e x with
  |some (.tuple vs)=>vs[i]?
  |_=>none
 |.nilCheck x=>match ev e x with
  |some (.pointer (some a))=>some (.pointer (some a))
  |_=>none
 |.fieldAddr t x k=>match ev e x with
  |some (.pointer (some ⟨b,off,none⟩))=>match fieldOff T t k with
   |some q=>some (.pointer (some ⟨b,off+q,none⟩))
   |none=>none
  |_=>none
 |.call c=>match c.callee,evs e c.args.toList with
  |.builtin b,some l=>bltV T b c.argTypes.toList l
  |_,_=>none
 |_=>none
def opF (e:Env) (o:Op):Bool :=
 match o with
 |.move x=>evF e x
 |.assign x=>evF e x
 |.pick c a b=>match evF e c with
  |true=>match ev e c with
   |some (.bool true)=>evF e a
   |some (.bool false)=>evF e b
   |_=>false
  |false=>false
 |.unOp _ _ x=>evF e x
 |.binOp _ _ x _ _=>match ev e x with
  |some (.pointer _)=>true
  |_=>false
 |_=>false
theorem add_off (b off q:Nat):(⟨b,off,none⟩:Addr).add q=⟨b,off+q,none⟩:=by
 unfold Addr.add; split <;> simp_all
theorem run_bind_ok {P:Program} {α β:Type} {s:Sem α} {f:α→Sem β} {w w':World} {x:α} (h:s.run P w = .ok x w'):(s >>= f).run P w=(f x).run P w':=by
 rw [Sem.run_bind,h]; rfl
theorem map_of_toList {α β:Type} {f:α→β} {xs:Array α} {l:List β} (h:xs.toList.map f=l):xs.map f=l.toArray:=by
 apply Array.ext'; rw [Array.toList_map,h]
theorem cmpV_run {P:Program} {op:BinOp} {a b:Int} {v:Value} (h:cmpV op a b=some v) (k:IntKind) (t:TypeId) (w:World):(binOp op t (.int k a) (.int k b)).run P w = .ok v w:=by
 cases op <;> simp only [cmpV,Option.some.injEq,reduceCtorEq] at h <;> (subst h; simp [binOp,Op.intCmp,go_sem])
theorem eqGuard_int {P:Program} {op:BinOp} {t:TypeId} {x y:Operand} {k k':IntKind} {a b:Int} (w:World):(eqGuard op t x y (.int k a) (.int k' b)).run P w = .ok () w:=by
 cases op <;> rfl
theorem eqGuard_bool {P:Program} {op:BinOp} {t:TypeId} {x y:Operand} {a b:Bool} (w:World):(eqGuard op t x y (.bool a) (.bool b)).run P w = .ok () w:=by
 cases op <;> rfl
theorem eqGuard_ptr {P:Program} {op:BinOp} {t:TypeId} {x y:Operand} {a b:Option Addr} (w:World):(eqGuard op t x y (.pointer a) (.pointer b)).run P w = .ok () w:=by
 cases op <;> rfl
theorem eqGuard_slice {P:Program} {op:BinOp} {t:TypeId} {x y:Operand} {a b:Option Addr} {n c m d:Nat} (w:World):(eqGuard op t x y (.slice a n c) (.slice b m d)).run P w = .ok () w:=by
 cases op <;> rfl
theorem equal_bool {P:Program} {t:TypeId} (a b:Bool) (w:World) (h:(underlying t).run P w = .ok .bool w):(Op.equal t (.bool a) (.bool b)).run P w = .ok (a == b) w:=by
 unfold Op.equal Op.maxDepth Op.equalIn
 rw [run_bind_ok h]; rfl
theorem equal_ptr_nil {P:Program} {t q:TypeId} (a:Addr) (w:World) (h:(underlying t).run P w = .ok (.pointer q) w):(Op.equal t (.pointer (some a)) (.pointer none)).run P w = .ok false w:=by
 unfold Op.equal Op.maxDepth Op.equalIn
 rw [run_bind_ok h]; rfl
theorem equal_nil_ptr {P:Program} {t q:TypeId} (a:Option Addr) (w:World) (h:(underlying t).run P w = .ok (.pointer q) w):(Op.equal t (.pointer none) (.pointer a)).run P w = .ok a.isNone w:=by
 unfold Op.equal Op.maxDepth Op.equalIn
 rw [run_bind_ok h]; rfl
theorem equal_slice_nil {P:Program} {t q:TypeId} (a:Option Addr) (n c m d:Nat) (w:World) (h:(underlying t).run P w = .ok (.slice q) w):(Op.equal t (.slice a n c) (.slice none m d)).run P w = .ok a.isNone w:=by
 unfold Op.equal Op.maxDepth Op.equalIn
 rw [run_bind_ok h]; cases a <;> rfl
theorem binV_run {P:Program} {T:Tab} (hT:TabOk P T) {op:BinOp} {t:Nat} {u v z:Value} (h:binV T op t u v=some z) (x y:Operand) (w:World) :
 (do eqGuard op t x y u v; binOp op t u v:Sem Value).run P w = .ok z w:=by
 unfold binV at h
 split at h
 ·rename_i k a k' b
  cases hk:sameK k k' <;> rw [hk] at h
  ·cases h
  ·have:=sameK_eq hk; subst this
   rw [run_bind_ok (eqGuard_int w)]
   exact cmpV_run h _ _ _
 ·rw [run_bind_ok (eqGuard_bool w)]
  split at h
  ·rename_i hr; cases h
   simp only [binOp]; rw [run_bind_ok (equal_bool _ _ w ((hT.row hr).underlying w))]; rfl
  ·rename_i hr; cases h
   simp only [binOp]; rw [run_bind_ok (equal_bool _ _ w ((hT.row hr).underlying w))]; rfl
  ·cases h
 ·rw [run_bind_ok (eqGuard_ptr w)]
  split at h
  ·rename_i hr; cases h
   simp only [binOp]; rw [run_bind_ok (equal_ptr_nil _ w ((hT.row hr).underlying w))]; rfl
  ·rename_i hr; cases h
   simp only [binOp]; rw [run_bind_ok (equal_ptr_nil _ w ((hT.row hr).underlying w))]; rfl
  ·cases h
 ·rw [run_bind_ok (eqGuard_ptr w)]
  split at h
  ·rename_i hr; cases h
   simp only [binOp]; rw [run_bind_ok (equal_nil_ptr _ w ((hT.row hr).underlying w))]; rfl
  ·rename_i hr; cases h
   simp only [binOp]; rw [run_bind_ok (equal_nil_ptr _ w ((hT.row hr).underlying w))]; rfl
  ·cases h
 ·rw [run_bind_ok (eqGuard_ptr w)]
  split at h
  ·rename_i hr; cases h
   simp only [binOp]; rw [run_bind_ok (equal_nil_ptr _ w ((hT.row hr).underlying w))]; rfl
  ·rename_i hr; cases h
   simp only [binOp]; rw [run_bind_ok (equal_nil_ptr _ w ((hT.row hr).underlying w))]; rfl
  ·cases h
 ·rw [run_bind_ok (eqGuard_slice w)]
  split at h
  ·rename_i hr; cases h
   simp only [binOp]; rw [run_bind_ok (equal_slice_nil _ _ _ _ _ w ((hT.row hr).underlying w))]; rfl
  ·rename_i hr; cases h
   simp only [binOp]; rw [run_bind_ok (equal_slice_nil _ _ _ _ _ w ((hT.row hr).underlying w))]; rfl
  ·cases h
 ·cases h
theorem fieldOff_run {P:Program} {T:Tab} (hT:TabOk P T) {t k q b off:Nat} (h:fieldOff T t k=some q) (w:World) :
 (Instr.fieldAt t (.pointer (some ⟨b,off,none⟩)) k).run P w = .ok (.pointer (some ⟨b,off+q,none⟩)) w:=by
 unfold fieldOff at h
 split at h
 ·rename_i fs _ _ _ hr
  split at h
  ·rename_i f hf
   split at h
   ·rename_i r hr2
    cases hz:Nat.beq r.size 0 <;> rw [hz] at h
    ·simp at h; subst h
     have hz':¬ r.size=0:=by intro h0; rw [h0] at hz; cases hz
     unfold Instr.fieldAt
     rw [run_bind_ok ((hT.row hr).underlying w)]
     simp only [hf,Instr.sureAddr,fieldPlace]
     rw [run_bind_ok (show (pure _:Sem Addr).run P w = .ok _ w from rfl)]
     rw [run_bind_ok (show _=Result.ok (⟨b,off+f.offset,none⟩:Addr) w from by
      rw [run_bind_ok ((hT.row hr2).sizeOf w),if_neg hz',← add_off]; rfl)]
     rfl
    ·cases h
   ·cases h
  ·cases h
 ·cases h
theorem opV_run {P:Program} {T:Tab} (hT:TabOk P T) {n:Nat} {a:Act} {e:Env} (hf:Fits n a e) {o:Oper} {v:Value} (h:opV T e o.op=some v) (w:World) :
 (execOp a.eval o).run P w = .ok (.value v) w:=by
 obtain ⟨dst,op,type,pos,after,guard⟩:=o
 cases op <;> simp only [opV] at h
 case move x=>simp only [execOp,hf.ev h]; rfl
 case assign x=>simp only [execOp,hf.ev h]; rfl
 case pick c x y =>
  split at h
  ·split at h
   ·rename_i hc; simp only [execOp,hf.ev hc,hf.ev h]; rfl
   ·rename_i hc; simp only [execOp,hf.ev hc,hf.ev h]; rfl
   ·cases h
  ·cases h
 case binOp op t x y yt =>
  split at h
  ·rename_i u v' hu hv
   simp only [execOp,hf.ev hu,hf.ev hv]
   rw [run_bind_ok (binV_run hT h x y w)]; rfl
  ·cases h
 case unOp op t x =>
  split at h
  ·rename_i u hu
   unfold unV at h
   split at h
   ·cases h; simp only [execOp,hf.ev hu]; rfl
   ·cases h
  ·cases h
 case makeFunc fn first captured =>
  split at h
  ·rename_i l m hl hm
   cases h
   simp only [execOp]
   have h1:first.map a.eval=l.toArray:=map_of_toList (hf.evs hl)
   have h2:captured.map a.eval=m.toArray:=map_of_toList (hf.evs hm)
   rw [h1,h2]; rfl
  ·cases h
 case extract x i =>
  split at h
  ·rename_i vs hv; simp only [execOp,hf.ev hv,Instr.extract,h]; rfl
  ·cases h
 case nilCheck x =>
  split at h
  ·rename_i ad hv; cases h; simp only [execOp,hf.ev hv]; rfl
  ·cases h
 case fieldAddr t x k =>
  split at h
  ·rename_i b off hv
   split at h
   ·rename_i q hq; cases h
    simp only [execOp,hf.ev hv]
    rw [run_bind_ok (fieldOff_run hT hq w)]; rfl
   ·cases h
  ·cases h
 case call c =>
  split at h
  ·rename_i b l hb hl
   have hargs:c.args.map a.eval=l.toArray:=map_of_toList (hf.evs hl)
   obtain ⟨callee,args,argTypes⟩:=c
   simp only at hb hl hargs
   subst hb
   simp only [execOp,resolve,hargs]
   unfold bltV at h
   split at h
   ·rename_i t ts a0 m c0 hts
    simp only at hts
    split at h
    ·rename_i hr; cases h
     have hu:=(hT.row hr).underlying w
     have h0:argTypes[0]? = some t:=by
      obtain ⟨ats⟩:=argTypes
      simp only at hts; subst hts; rfl
     refine (run_bind_ok (show _=Result.ok _ w from rfl)).trans ?_
     refine (run_bind_ok (x:=(.int .i64 m:Value)) (w':=w) ?_).trans rfl
     simp only [Builtin.len_,h0]
     exact (run_bind_ok hu).trans rfl
    ·cases h
   ·cases h; rfl
   ·cases h; rfl
   ·cases h
  ·cases h
 all_goals cases h
def Left (P:Program) (K:CallKind) (fr:Frame) (w:World):Ending→Prop
 |.returned v=>fr.mode = .returning∧fr.defers = []∧fr.kind=K ∧ ∃ fn,P.funcs[fr.fn]? = some fn∧(results fn fr.tmps).run P w = .ok v w
 |.panicked chain=>fr.mode = .panicking chain∧fr.defers = [] ∧ ∃ fn,P.funcs[fr.fn]? = some fn
 |.outgrown=>True
theorem Left.leaving {P:Program} {fr:Frame} {w:World} {en:Ending} (h:Left P .normal fr w en):fr.leaving P w en:=by cases en <;> exact h
structure Aim where
 ro:Option Nat
 post:Ending→World→Prop
def Aim.now (R:Aim) (en:Ending) (w:World):Prop:=R.ro=none→R.post en w
def RoundEnds (P:Program) (post:Ending→World→Prop) (K:CallKind) (fr:Frame) (cs:List Frame) (w:World) (en:Ending):Prop :=
 ∃ v w2,en = .returned v∧post en w2∧(K = .normal → ∀ c cs',cs=c::cs'→step P (lone fr cs w) = .next (lone (c.finish v) cs' w2))
def Aim.last (R:Aim) (P:Program) (K:CallKind) (fr:Frame) (cs:List Frame) (w:World) (en:Ending):Prop :=
 (R.ro=none→Left P K fr w en)∧(R.ro≠none→RoundEnds P R.post K fr cs w en)
theorem not_defer {P:Program} {o:Oper} {ρ:Operand→Value} {w w':World} {nx:Next} (h:(execOp ρ o).run P w = .ok nx w') (hn:∀ d,nx ≠ .defer d):∀ c,o.op ≠ .defer c:=by
 intro c hc
 simp only [execOp,hc,Sem.run_bind] at h
 cases hr:(resolve ρ c o.type).run P w with
 |ok d w1=>rw [hr] at h; simp only [Result.andThen,Sem.run_pure] at h; cases h; exact hn _ rfl
 |halt e w1=>rw [hr] at h; cases h
theorem stepE {P:Program} {b:Frame} {a:Act} {ops:Array Oper} {k:List Item} {cs:List Frame} {i:Nat} {rest:List Nat} {o:Oper} {w w':World} {nx:Next} (ho:ops[i]? = some o) (hw:Region.wanted o (yielded ops a.tmps)=true)
 (hr:(execOp a.eval o).run P w = .ok nx w') (hn:∀ d,nx ≠ .defer d) :
 stepG P true {frame:=b.atR a (.inRegion ops (i::rest)::k),callers:=cs,status := .running,dying:=none} w =
  stepG.apply P true (b.atR a (.inRegion ops (i::rest)::k)) cs none (execOp a.eval o) w:=by
 rw [stepGR_op ho hw,Oper.semAt_eq _ _ _ (not_defer hr hn)]
def Goes (P:Program) (f:FuncId) (R:Aim) (n:Nat) (ds:List Deferred) (s:List Item) (e:Env) (w:World):Prop :=
 ∀ (b:Frame) (cs:List Frame) (a:Act),b.fn=f→b.roundOf=R.ro→a.defers=ds→Fits n a e →
  ∃ en w' fr,R.now en w'∧Comes P (lone (b.atR a s) cs w) (lone fr cs w') en∧fr.fn=f∧R.last P b.kind fr cs w' en
section
variable {P:Program} {f:FuncId} {R:Aim} {n:Nat} {ds:List Deferred} {s s':List Item} {e e':Env} {w w':World}
theorem Goes.weaken (h:Goes P f R n ds s e' w) (hs:∀ t v,look e' t=some v→look e t=some v):Goes P f R n ds s e w :=
 fun b cs a hb hk hd hf=>h b cs a hb hk hd (hf.weaken hs)
theorem Goes.step (hstep:∀ (b:Frame) (cs:List Frame) (a:Act),Fits n a e→step P (lone (b.atR a s) cs w) = .next (lone (b.atR a s') cs w')) (h:Goes P f R n ds s' e w'):Goes P f R n ds s e w :=
 fun b cs a hb hk hd hf=>by
  obtain ⟨en,w2,fr,hR,hc,h1,h2⟩:=h b cs a hb hk hd hf
  exact ⟨en,w2,fr,hR,.of_steps (.one (hstep b cs a hf)) hc,h1,h2⟩
theorem Goes.value {ops:Array Oper} {i:Nat} {l:List Nat} {k:List Item} {o:Oper} {v:Value} (ho:ops[i]? = some o)
 (hrun:∀ a,Fits n a e→Region.wanted o (yielded ops a.tmps)=true∧(execOp a.eval o).run P w = .ok (.value v) w')
 (h:∀ a,Fits n a e→Fits n (a.put o.dst v) e') (hg:Goes P f R n ds (.inRegion ops l::k) e' w') :
 Goes P f R n ds (.inRegion ops (i::l)::k) e w:=fun b cs a hb hk hd hf=>by
 obtain ⟨hw,hr⟩:=hrun a hf
 have hd':(a.put o.dst v).defers=ds:=by cases o.dst <;> exact hd
 obtain ⟨en,w2,fr,hR,hc,h1,h2⟩:=hg b cs (a.put o.dst v) hb hk hd' (h a hf)
 refine ⟨en,w2,fr,hR,.of_steps (.one (step_lone_go ?_)) hc,h1,h2⟩
 have hfin:(b.atR a (.inRegion ops (i::l)::k)).finish v=b.atR (a.put o.dst v) (.inRegion ops l::k):=by
  rw [Frame.finish_atR,ho]; rfl
 rw [stepE ho hw hr (by simp),← hfin]
 simp [stepG.apply,hr]
theorem Goes.skipped {ops:Array Oper} {i:Nat} {l:List Nat} {k:List Item} {o:Oper} (ho:ops[i]? = some o)
 (hrun:∀ a,Fits n a e→Region.wanted o (yielded ops a.tmps)=false)
 (h:∀ a,Fits n a e→Fits n (a.put o.dst undef) e') (hg:Goes P f R n ds (.inRegion ops l::k) e' w) :
 Goes P f R n ds (.inRegion ops (i::l)::k) e w:=fun b cs a hb hk hd hf=>by
 have hw:=hrun a hf
 have hd':(a.put o.dst undef).defers=ds:=by cases o.dst <;> exact hd
 obtain ⟨en,w2,fr,hR,hc,h1,h2⟩:=hg b cs (a.put o.dst undef) hb hk hd' (h a hf)
 refine ⟨en,w2,fr,hR,.of_steps (.one ?_) hc,h1,h2⟩
 have hs:=stepR_op_skip (P:=P) (b:=b) (a:=a) (k:=k) (cs:=cs) (w:=w) (ops:=ops) (i:=i) (rest:=l) (by simp [ho]; simpa using hw)
 simpa [ho] using hs
end
def nth:List Oper→Nat→Option Oper
 |[],_=>none
 |o::_,0=>some o
 |_::r,i+1=>nth r i
theorem nth_eq:∀ (l:List Oper) (i:Nat),nth l i=l[i]?
 |[],_=>by simp [nth]
 |_::_,0=>by simp [nth]
 |_::r,i+1=>by simp [nth,nth_eq r i]
theorem nth_at {ops:Array Oper} {i:Nat} {o:Oper} (h:nth ops.toList i=some o):ops[i]? = some o:=by
 rw [nth_eq] at h; simpa using h
def want (e:Env) (ops:Array Oper) (o:Oper):Option Bool :=
 match o.guard with
 |none=>some true
 |some (j,b)=>match nth ops.toList j with
  |some g=>match g.dst with
   |some d=>match lit e d with
    |true=>match look e d with
     |some (.bool c)=>match c,b with
      |true,true=>some true
      |false,false=>some true
      |true,false=>some false
      |false,true=>some false
     |some (.tuple _)=>some false
     |_=>none
    |false=>none
   |none=>none
  |none=>none
theorem want_ok {n:Nat} {a:Act} {e:Env} (hf:Fits n a e) {ops:Array Oper} {o:Oper} {r:Bool} (h:want e ops o=some r):Region.wanted o (yielded ops a.tmps)=r:=by
 unfold want at h
 unfold Region.wanted
 split at h
 ·rename_i hg; rw [hg]; cases h; rfl
 ·rename_i j b hg
  rw [hg]
  split at h
  ·rename_i g hj
   split at h
   ·rename_i d hd
    split at h
    ·split at h
     ·rename_i c hc
      have hy:yielded ops a.tmps j=some c:=by
       unfold yielded
       rw [nth_at hj]
       simp only [Option.bind_some,hd,hf.slot d _ hc]
      simp only [hy]
      split at h <;> cases h <;> rfl
     ·rename_i c hc
      have hy:yielded ops a.tmps j=none:=by
       unfold yielded
       rw [nth_at hj]
       simp only [Option.bind_some,hd,hf.slot d _ hc]
      simp only [hy]
      cases h; rfl
     ·cases h
    ·cases h
   ·cases h
  ·cases h
def put0 (n:Nat) (dst:Option Nat) (b:Bool) (v:Value) (e:Env):Option Env :=
 match dst with
 |none=>some e
 |some d=>bif Nat.blt d n then some ((d,b,v)::e) else none
def putE (n:Nat) (dst:Option Nat) (b:Bool) (v:Value) (e:Env):Option Env :=
 match b with
 |true=>put0 n dst true v e
 |false=>put0 n dst false v e
theorem putE_eq {n:Nat} {dst:Option Nat} {b:Bool} {v:Value} {e:Env}:putE n dst b v e=put0 n dst b v e:=by cases b <;> rfl
theorem putE_ok {n:Nat} {dst:Option Nat} {b:Bool} {v:Value} {e e':Env} (h:putE n dst b v e=some e'):∀ a,Fits n a e→Fits n (a.put dst v) e':=by
 intro a hf
 rw [putE_eq] at h
 cases dst with
 |none=>simp [put0] at h; subst h; exact hf
 |some d =>
  simp only [put0] at h
  cases hb:Nat.blt d n <;> rw [hb] at h
  ·cases h
  ·simp at h; subst h; exact hf.put d b v (by simpa [Nat.blt_eq] using hb)
def adv (T:Tab) (n:Nat):Nat→List Item→Env→List Item × Env
 |0,s,e=>(s,e)
 |m+1,s,e=>match s with
  |.code .skip::k=>adv T n m k e
  |.code (.label _)::k=>adv T n m k e
  |.inBlock _::k=>adv T n m k e
  |.inScope _::k=>adv T n m k e
  |.code (.seq a b)::k=>adv T n m (.code a :: .code b::k) e
  |.code (.block id c)::k=>adv T n m (.code c :: .inBlock id::k) e
  |.code (.scope c)::k=>adv T n m (.code c :: .inScope c::k) e
  |.code (.exit id)::k=>match exitTo id k with
   |some k'=>adv T n m k' e
   |none=>(s,e)
  |.code (.cond c x y)::k=>match evF e c with
   |true=>match ev e c with
    |some (.bool true)=>adv T n m (.code x::k) e
    |some (.bool false)=>adv T n m (.code y::k) e
    |_=>(s,e)
   |false=>(s,e)
  |.code (.region _ ops false)::k=>adv T n m (.inRegion ops (List.range ops.toList.length)::k) e
  |.inRegion _ []::k=>adv T n m k e
  |.inRegion ops (i::l)::k=>match nth ops.toList i with
   |some o=>match want e ops o with
    |some false=>match putE n o.dst true undef e with
     |some e'=>adv T n m (.inRegion ops l::k) e'
     |none=>(s,e)
    |some true=>match opV T e o.op with
     |some v=>match putE n o.dst (opF e o.op) v e with
      |some e'=>adv T n m (.inRegion ops l::k) e'
      |none=>(s,e)
     |none=>(s,e)
    |none=>(s,e)
   |none=>(s,e)
  |_=>(s,e)
theorem adv_ok {P:Program} {T:Tab} (hT:TabOk P T) {f:FuncId} {R:Aim} {n:Nat} {ds:List Deferred} {w:World}:∀ (m:Nat) (s:List Item) (e:Env),
 Goes P f R n ds (adv T n m s e).1 (adv T n m s e).2 w→Goes P f R n ds s e w
 |0,s,e,h=>h
 |m+1,s,e,h=>by
  unfold adv at h
  split at h
  ·exact Goes.step (fun b cs a _=>stepR_skip) (adv_ok hT m _ _ h)
  ·exact Goes.step (fun b cs a _=>stepR_label) (adv_ok hT m _ _ h)
  ·exact Goes.step (fun b cs a _=>stepR_inBlock) (adv_ok hT m _ _ h)
  ·exact Goes.step (fun b cs a _=>step_lone_go (by simp [stepG,stepG.exec,Frame.atR])) (adv_ok hT m _ _ h)
  ·exact Goes.step (fun b cs a _=>stepR_seq) (adv_ok hT m _ _ h)
  ·exact Goes.step (fun b cs a _=>stepR_block) (adv_ok hT m _ _ h)
  ·exact Goes.step (fun b cs a _=>step_lone_go (by simp [stepG,stepG.exec,Frame.atR])) (adv_ok hT m _ _ h)
  ·split at h
   ·rename_i k' hk; exact Goes.step (fun b cs a _=>stepR_exit hk) (adv_ok hT m _ _ h)
   ·exact h
  ·split at h
   ·split at h
    ·rename_i hc; exact Goes.step (fun b cs a hf=>stepR_cond (t:=true) (hf.ev hc)) (adv_ok hT m _ _ h)
    ·rename_i hc; exact Goes.step (fun b cs a hf=>stepR_cond (t:=false) (hf.ev hc)) (adv_ok hT m _ _ h)
    ·exact h
   ·exact h
  ·exact Goes.step (fun b cs a _=>stepR_region) (adv_ok hT m _ _ (by simpa using h))
  ·exact Goes.step (fun b cs a _=>stepR_region_end) (adv_ok hT m _ _ h)
  ·split at h
   ·rename_i o ho
    split at h
    ·rename_i hw
     split at h
     ·rename_i e' he; exact Goes.skipped (nth_at ho) (fun a hf=>want_ok hf hw) (putE_ok he) (adv_ok hT m _ _ h)
     ·exact h
    ·rename_i hw
     split at h
     ·rename_i v hv
      split at h
      ·rename_i e' he
       exact Goes.value (nth_at ho) (fun a hf=>⟨want_ok hf hw,opV_run hT hf hv w⟩) (putE_ok he) (adv_ok hT m _ _ h)
      ·exact h
     ·exact h
    ·exact h
   ·exact h
  ·exact h
end Go.Proofs.YtnaoiegcobineaaGreatDoor
