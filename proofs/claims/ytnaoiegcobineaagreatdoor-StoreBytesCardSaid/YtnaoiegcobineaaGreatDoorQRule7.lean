/-
  Rule7
-/
import Derived.Test.YtnaoiegcobineaaGreatDoorQRule6
import Derived.Laws.CopyRow
import Derived.Laws.IdiomCopy
import Derived.Laws.BytesString
namespace Go.Proofs.YtnaoiegcobineaaGreatDoor
open Go.RowKit
section
variable {P:Program} {T:Tab} {ops:Array Oper} {f:FuncId} {R:Aim} {k:List Item} {q n:Nat} {ds:List Deferred} {s s':List Item} {w w0:World} {e:Env} {U:List Nat}
def bitV (op:BinOp) (k:IntKind) (x y:Int):Int :=
 let a:=BitVec.ofInt k.bits x
 let b:=BitVec.ofInt k.bits y
 match op with
 |.and=>k.wrap (a &&& b).toNat
 |.or=>k.wrap (a ||| b).toNat
 |.xor=>k.wrap (a ^^^ b).toNat
 |_=>k.wrap (a &&& ~~~b).toNat
def bitsOf (e:Env) (o:Oper):Option (BinOp × IntKind × Int × Int) :=
 match o.op with
 |.binOp op _ x y _=>match ev e x,ev e y with
  |some (.int k a),some (.int k' b)=>match sameK k k' with
   |true=>match op with
    |.and | .or | .xor | .andNot=>some (op,k,a,b)
    |_=>none
   |false=>none
  |_,_=>none
 |_=>none
theorem bitsOf_run {op:BinOp} {k:IntKind} {x y z:Int} {o:Oper} (h:bitsOf e o=some (op,k,x,y)) (hz:bitV op k x y=z) (a:Act) (hf:Fits n a e) (w:World):(execOp a.eval o).run P w = .ok (.value (.int k z)) w:=by
 subst hz
 unfold bitsOf at h
 split at h
 ·rename_i op1 t x' y' t' hop
  split at h
  ·rename_i k1 a1 k2 b1 hx hy
   split at h
   ·rename_i hk
    have:=sameK_eq hk; subst this
    split at h
    all_goals first | (cases h; done) | skip
    all_goals
     cases h
     simp only [execOp,hop,hf.ev hx,hf.ev hy]
     refine (run_bind_ok (x:=(.int k (bitV _ k x y):Value)) (w':=w) ?_).trans rfl
     refine (run_bind_ok (eqGuard_int w)).trans ?_
     simp only [binOp,ne_eq,not_true_eq_false,if_false,Op.intBits]
     rfl
   ·cases h
  ·cases h
 ·cases h
theorem Goes.bits (hT:TabOk P T) {op:BinOp} {k:IntKind} {x y z:Int} {d:Nat} {s2:List Item} {e2:Env} (h:atHead (bitsOf e) n s e=some ((op,k,x,y),d,s')) (hz:bitV op k x y=z)
 (ha:Go.Proofs.YtnaoiegcobineaaGreatDoor.adv T n 400 s' ((d,false,.int k z)::e)=(s2,e2)) (hg:Goes P f R n ds s2 e2 w):Goes P f R n ds s e w :=
 Goes.val h (fun _ ho a hf=>bitsOf_run ho hz a hf w) (Goes.adv hT 400 ha hg)
def shV (l:Bool) (k:IntKind) (x y:Int):Int:=if l then k.wrap (x*2 ^ (min y.toNat k.bits)) else x.fdiv (2 ^ (min y.toNat k.bits))
def shiftOf (e:Env) (o:Oper):Option (Bool × IntKind × Int × Int) :=
 match o.op with
 |.binOp .shl _ x y _=>match ev e x,ev e y with
  |some (.int k a),some (.int _ b)=>some (true,k,a,b)
  |_,_=>none
 |.binOp .shr _ x y _=>match ev e x,ev e y with
  |some (.int k a),some (.int _ b)=>some (false,k,a,b)
  |_,_=>none
 |_=>none
theorem shiftOf_run {l:Bool} {k:IntKind} {x y z:Int} {o:Oper} (h:shiftOf e o=some (l,k,x,y)) (hy:0≤y) (hz:shV l k x y=z) (a:Act) (hf:Fits n a e) (w:World):(execOp a.eval o).run P w = .ok (.value (.int k z)) w:=by
 subst hz
 unfold shiftOf at h
 split at h
 all_goals first | (cases h; done) | skip
 all_goals
  rename_i t x' y' t' hop
  split at h
  ·rename_i k1 a1 k2 b hx hy'
   cases h
   simp only [execOp,hop,hf.ev hx,hf.ev hy']
   refine (run_bind_ok (x:=(.int k (shV _ k x y):Value)) (w':=w) ?_).trans rfl
   refine (run_bind_ok (eqGuard_int w)).trans ?_
   simp only [binOp,Op.shift]
   rw [if_neg (by omega)]
   rfl
  ·cases h
theorem Goes.shift (hT:TabOk P T) {l:Bool} {k:IntKind} {x y z:Int} {d:Nat} {s2:List Item} {e2:Env} (h:atHead (shiftOf e) n s e=some ((l,k,x,y),d,s')) (hy:0≤y) (hz:shV l k x y=z)
 (ha:Go.Proofs.YtnaoiegcobineaaGreatDoor.adv T n 400 s' ((d,false,.int k z)::e)=(s2,e2)) (hg:Goes P f R n ds s2 e2 w):Goes P f R n ds s e w :=
 Goes.val h (fun _ ho a hf=>shiftOf_run ho hy hz a hf w) (Goes.adv hT 400 ha hg)
def copyOf (T:Tab) (e:Env) (o:Oper):Option (Option Addr × Nat × Option Addr × Nat) :=
 match o.op with
 |.call c=>match c.callee,evs e c.args.toList,c.argTypes.toList with
  |.builtin .copy,some [.slice d dl _,.slice a sl _],[t,_]=>match row T t with
   |some {und := .slice q,..}=>match row T q with
    |some r2=>match Nat.beq r2.size 1 with
     |true=>some (d,dl,a,sl)
     |false=>none
    |none=>none
   |_=>none
  |_,_,_=>none
 |_=>none
theorem copyOf_exec (hT:TabOk P T) {d a:Option Addr} {dl sl:Nat} {o:Oper} (h:copyOf T e o=some (d,dl,a,sl)):∃ dT sT dc sc elem,P.underlying dT=some (.slice elem)∧(P.info? elem).map (·.size)=some 1 ∧
 ∀ act,Fits n act e → ∀ v w w',(Builtin.copy_ #[dT,sT] o.type #[.slice d dl dc,.slice a sl sc]).run P w = .ok v w'→(execOp act.eval o).run P w = .ok (.value v) w':=by
 unfold copyOf at h
 split at h
 ·rename_i c hop
  split at h
  ·rename_i d1 dl1 dc a1 sl1 sc t t' hcal hev hty
   split at h
   ·rename_i q1 sz1 by1 z1 hr
    split at h
    ·rename_i r2 hr2
     split at h
     ·rename_i hone
      cases h
      have hi:=(hT.row hr2).2
      refine ⟨t,t',dc,sc,q1,(hT.row hr).1,?_,fun act hf v w w' hrun => ?_⟩
      ·cases hinf:P.info? q1 with
       |none=>rw [hinf] at hi; cases hi
       |some inf =>
        rw [hinf] at hi
        simp only [Option.map_some,Option.some.injEq,Prod.mk.injEq] at hi
        rw [Option.map_some,hi.1,Nat.eq_of_beq_eq_true hone]
      ·obtain ⟨dst,op,type,pos,after,guard⟩:=o
       simp only at hop
       subst hop
       obtain ⟨callee,args,argTypes⟩:=c
       simp only at hcal hev hty hrun
       subst hcal
       have hargs:args.map act.eval = #[.slice d dl dc,.slice a sl sc]:=map_of_toList (hf.evs hev)
       have hts:argTypes = #[t,t']:=by obtain ⟨ats⟩:=argTypes; simp only at hty; subst hty; rfl
       subst hts
       simp only [execOp,resolve,hargs]
       refine (run_bind_ok (show _=Result.ok _ w from rfl)).trans ?_
       exact (run_bind_ok (x:=v) (w':=w') hrun).trans rfl
     ·cases h
    ·cases h
   ·cases h
  ·cases h
 ·cases h
theorem chg_setRow {w:World} {g:Nat} {cs:Array Value}:Chg (fun b=>b=g) w (w.setRow g cs):=⟨rfl,rfl,rfl,by simp,fun b hb hne=>setRow_other w g b _ hne⟩
theorem Goes.copy (hT:TabOk P T) {g o' dl sl d:Nat} {a:Addr} {cur cs:List Value} {t:TypeId} (h:atHead (copyOf T e) n s e=some ((some ⟨g,o',none⟩,dl,some a,sl),d,s')) (hg':w.heap[g]? = some (.cells cur.toArray t (0,0)))
 (hn:cs.length=Nat.min sl dl) (hsrc:∀ j v,cs[j]? = some v→w.cell? (a.add j)=some v) (hfit:o'+cs.length≤cur.length) (h1:∀ v ∈ cs,v.oneCell'=true)
 (hg:∀ w1,w1.heap[g]? = some (.cells (cur.take o'++cs++cur.drop (o'+cs.length)).toArray t (0,0))→Chg (fun b=>b=g) w w1→w1.heap.size=w.heap.size→Goes P f R n ds s' ((d,false,.int .i64 cs.length)::e) w1):Goes P f R n ds s e w:=by
 obtain ⟨o,ho,hd,hlt,hx⟩:=atHead_ok h
 obtain ⟨dT,sT,dc,sc,elem,hu,hs,hex⟩:=copyOf_exec (n:=n) hT hx
 have hrun:=run_copy_row (P:=P) w dT sT o.type elem g o' dl dc a sl sc cur.toArray t cs hu hs hg' hn hsrc (by simpa using hfit) h1
 exact Goes.head ho (by rw [hd]; exact putE_lt hlt) (fun a hf => .inl (hex a hf _ _ _ hrun)) (hg _ (by simpa using setRow_heap w g cur.toArray _ t _ hg') chg_setRow (by simp))
theorem Goes.copy0 (hT:TabOk P T) {dl sl d:Nat} {x a:Option Addr} {s2:List Item} {e2:Env} (h:atHead (copyOf T e) n s e=some ((x,dl,a,sl),d,s')) (h0:Nat.min sl dl=0)
 (ha:Go.Proofs.YtnaoiegcobineaaGreatDoor.adv T n 400 s' ((d,false,.int .i64 0)::e)=(s2,e2)) (hg:Goes P f R n ds s2 e2 w):Goes P f R n ds s e w:=by
 refine Goes.val (v := .int .i64 0) (w':=w) h (fun o ho act hf => ?_) (Goes.adv hT 400 ha hg)
 obtain ⟨dT,sT,dc,sc,elem,hu,hs,hex⟩:=copyOf_exec (n:=n) hT ho
 exact hex act hf _ _ _ (run_copy_none (P:=P) w dT sT o.type elem x a dl dc sl sc hu hs h0)
theorem run_clear_row (w:World) (t e ty:TypeId) (z:Value) (ht:P.underlying t=some (.slice e)) (hv:∀ w,(zeroValue e).run P w = .ok z w) (hz:z.cells = #[z]) (h1:z.oneCell'=true) (g o n c:Nat) (cur:Array Value) (q:TypeId)
 (hg:w.heap[g]? = some (.cells cur q (0,0))) (hn:0<n) (hfit:o+n≤cur.size) :
 (Builtin.clear_ #[t] ty #[.slice (some ⟨g,o,none⟩) n c]).run P w = .ok (.tuple #[]) (w.setRow g (cur.toList.take o++List.replicate n z++cur.toList.drop (o+n)).toArray):=by
 have hzc:(Builtin.zeroCells z.cells n).toList=List.replicate n z:=by
  rw [hz]
  simp [Builtin.zeroCells]
  apply List.ext_getElem
  ·simp
  ·intro i h1 h2
   simp [Nat.mod_one]
 have hst:=run_storeCells_at P g o q (List.replicate n z) 0 cur w hg (by simpa using hfit) (by intro v hv'; rw [List.eq_of_mem_replicate hv']; exact h1)
 simp only [Nat.add_zero,List.length_replicate] at hst
 obtain ⟨m,rfl⟩:∃ m,n=m+1:=⟨n - 1,by omega⟩
 simp [Builtin.clear_,run_underlying ht,hv,hzc,hst]
def clearAt (T:Tab) (s:List Item) (e:Env):Option (Option Addr × Nat × Value × List Item) :=
 match headOp s e with
 |some (o,s')=>match o.dst,o.op with
  |none,.call c=>match c.callee,evs e c.args.toList,c.argTypes.toList with
   |.builtin .clear,some [.slice d m _],[t]=>match row T t with
    |some {und := .slice q,..}=>match row T q with
     |some r2=>match r2.zero with
      |some z=>some (d,m,z,s')
      |none=>none
     |none=>none
    |_=>none
   |_,_,_=>none
  |_,_=>none
 |none=>none
theorem clearAt_exec (hT:TabOk P T) {d:Option Addr} {m:Nat} {z:Value} (h:clearAt T s e=some (d,m,z,s')):∃ o,headOp s e=some (o,s')∧o.dst=none ∧ ∃ t dc elem,P.underlying t=some (.slice elem)∧(∀ w,(zeroValue elem).run P w = .ok z w) ∧
 ∀ act,Fits n act e → ∀ v w w',(Builtin.clear_ #[t] o.type #[.slice d m dc]).run P w = .ok v w'→(execOp act.eval o).run P w = .ok (.value v) w':=by
 unfold clearAt at h
 split at h
 ·rename_i o s1 hh
  split at h
  ·rename_i c hd hop
   split at h
   ·rename_i d1 m1 dc t hcal hev hty
    split at h
    ·rename_i q1 sz1 by1 z1 hr
     split at h
     ·rename_i r2 hr2
      split at h
      ·rename_i z2 hz2
       cases h
       refine ⟨o,hh,hd,t,dc,q1,(hT.row hr).1,fun w=>(hT.row hr2).zero hz2 w,fun act hf v w w' hrun => ?_⟩
       obtain ⟨dst,op,type,pos,after,guard⟩:=o
       simp only at hop
       subst hop
       obtain ⟨callee,args,argTypes⟩:=c
       simp only at hcal hev hty hrun
       subst hcal
       have hargs:args.map act.eval = #[.slice d m dc]:=map_of_toList (hf.evs hev)
       have hts:argTypes = #[t]:=by obtain ⟨ats⟩:=argTypes; simp only at hty; subst hty; rfl
       subst hts
       simp only [execOp,resolve,hargs]
       refine (run_bind_ok (show _=Result.ok _ w from rfl)).trans ?_
       exact (run_bind_ok (x:=v) (w':=w') hrun).trans rfl
      ·cases h
     ·cases h
    ·cases h
   ·cases h
  ·cases h
 ·cases h
theorem Goes.clear (hT:TabOk P T) {g o' m:Nat} {z:Value} {cur:List Value} {t:TypeId} (h:clearAt T s e=some (some ⟨g,o',none⟩,m,z,s')) (hg':w.heap[g]? = some (.cells cur.toArray t (0,0))) (hz:z.cells = #[z]) (h1:z.oneCell'=true) (hn:0<m) (hfit:o'+m≤cur.length)
 (hg:∀ w1,w1.heap[g]? = some (.cells (cur.take o'++List.replicate m z++cur.drop (o'+m)).toArray t (0,0))→Chg (fun b=>b=g) w w1→w1.heap.size=w.heap.size→Goes P f R n ds s' e w1):Goes P f R n ds s e w:=by
 obtain ⟨o,ho,hd,t',dc,elem,hu,hv,hex⟩:=clearAt_exec (n:=n) hT h
 have hrun:=run_clear_row (P:=P) w t' elem o.type z hu hv hz h1 g o' m dc cur.toArray t hg' hn (by simpa using hfit)
 exact Goes.head (fl:=false) (v := .tuple #[]) (e':=e) ho (by rw [hd]; rfl) (fun a hf => .inl (hex a hf _ _ _ hrun)) (hg _ (by simpa using setRow_heap w g cur.toArray _ t _ hg') chg_setRow (by simp))
theorem Goes.clear0 (hT:TabOk P T) {d:Option Addr} {m:Nat} {z:Value} {s2:List Item} {e2:Env} (h:clearAt T s e=some (d,m,z,s')) (h0:m=0) (ha:Go.Proofs.YtnaoiegcobineaaGreatDoor.adv T n 400 s' e=(s2,e2)) (hg:Goes P f R n ds s2 e2 w):Goes P f R n ds s e w:=by
 subst h0
 obtain ⟨o,ho,hd,t',dc,elem,hu,hv,hex⟩:=clearAt_exec (n:=n) hT h
 have hrun:(Builtin.clear_ #[t'] o.type #[.slice d 0 dc]).run P w = .ok (.tuple #[]) w:=by
  cases d <;> simp [Builtin.clear_,run_underlying hu]
 exact Goes.head (fl:=false) (v := .tuple #[]) (e':=e) ho (by rw [hd]; rfl) (fun a hf => .inl (hex a hf _ _ _ hrun)) (Goes.adv hT 400 ha hg)
def strOfB (ns:List Int):ByteArray:=ns.foldl (fun r n=>r.push (UInt8.ofNat n.toNat)) ByteArray.empty
def streqOf (e:Env) (o:Oper):Option (Bool × ByteArray × ByteArray) :=
 match o.op with
 |.binOp .eql _ x y _=>match ev e x,ev e y with
  |some (.string a),some (.string b)=>some (true,a,b)
  |_,_=>none
 |.binOp .neq _ x y _=>match ev e x,ev e y with
  |some (.string a),some (.string b)=>some (false,a,b)
  |_,_=>none
 |_=>none
theorem streqOf_run {p:Bool} {a b:ByteArray} {o:Oper} (h:streqOf e o=some (p,a,b)) (hab:a=b) (act:Act) (hf:Fits n act e) (w:World):(execOp act.eval o).run P w = .ok (.value (.bool p)) w:=by
 subst hab
 unfold streqOf at h
 split at h
 all_goals first | (cases h; done) | skip
 all_goals
  rename_i t x y t' hop
  split at h
  ·rename_i a1 b1 hx hy
   cases h
   simp only [execOp,hop,hf.ev hx,hf.ev hy]
   refine (run_bind_ok (x:=(.bool _:Value)) (w':=w) ?_).trans rfl
   refine (run_bind_ok (show (eqGuard _ _ _ _ (.string a) (.string a)).run P w = .ok () w from rfl)).trans ?_
   simp only [binOp,Op.stringOp]
   simp [Sem.run_pure]
  ·cases h
theorem Goes.streq (hT:TabOk P T) {p:Bool} {a b:ByteArray} {d:Nat} {s2:List Item} {e2:Env} (h:atHead (streqOf e) n s e=some ((p,a,b),d,s')) (hab:a=b)
 (ha:Go.Proofs.YtnaoiegcobineaaGreatDoor.adv T n 400 s' ((d,true,.bool p)::e)=(s2,e2)) (hg:Goes P f R n ds s2 e2 w):Goes P f R n ds s e w:=by
 refine Goes.val h (fun _ ho a hf=>streqOf_run ho hab a hf w) ?_
 exact Goes.know (t:=d) (b:=true) (v := .bool p) (by simp [look]) ((Goes.adv hT 400 ha hg).weaken fun t v hl=>by
  rw [look_cons] at hl ⊢
  by_cases he:t=d
  ·rw [if_pos he] at hl ⊢; exact hl
  ·rw [if_neg he] at hl ⊢; rw [look_cons,if_neg he]; exact hl)
def markOf (T:Tab) (e:Env) (o:Oper):Option (Addr × Nat × Nat) :=
 match o.op with
 |.convert src dst x=>match ev e x,row T src,row T dst with
  |some (.slice (some a) n c),some {und := .slice q,..},some {und := .slice _,..}=>match row T q with
   |some {und := .int .u8,..}=>match Nat.beq src dst with
    |true=>some (a,n,c)
    |false=>none
   |_=>none
  |_,_,_=>none
 |_=>none
theorem markOf_run (hT:TabOk P T) {a:Addr} {m c:Nat} {o:Oper} {cs:Array Value} {t:TypeId} {fz:Nat × Nat} (h:markOf T e o=some (a,m,c)) (hb:w.heap[a.block]? = some (.cells cs t fz)) (act:Act) (hf:Fits n act e) :
 (execOp act.eval o).run P w = .ok (.value (.slice (some a) m c)) (w.freeze {block:=a.block,off:=cs.size} 1):=by
 unfold markOf at h
 split at h
 ·rename_i src dst x hop
  split at h
  ·rename_i a1 n1 c1 q _ _ _ q' _ _ _ hx hs hd
   split at h
   ·rename_i _ _ _ hq
    split at h
    ·rename_i hbeq
     cases h
     have hsd:=Nat.eq_of_beq_eq_true hbeq
     subst hsd
     rw [hs] at hd
     simp only [Option.some.injEq,TyRow.mk.injEq,TypeDesc.slice.injEq] at hd
     obtain ⟨rfl,_⟩:=hd
     simp only [execOp,hop,hf.ev hx]
     refine (run_bind_ok (x:=(.slice (some a) m c:Value)) (w':=w.freeze {block:=a.block,off:=cs.size} 1) ?_).trans rfl
     unfold convert
     refine (run_bind_ok ((hT.row hs).underlying w)).trans ?_
     refine (run_bind_ok ((hT.row hs).underlying w)).trans ?_
     refine (run_bind_ok ((hT.row hq).underlying w)).trans ?_
     have hsh:w.shape? a.block=some (t,cs.size):=by unfold World.shape?; rw [hb]
     simp [markStringish,hsh]
    ·cases h
   ·cases h
  ·cases h
 ·cases h
theorem chg_freeze {a:Addr} {m:Nat}:Chg (fun b=>b=a.block) w (w.freeze a m):=by
 unfold World.freeze
 split
 ·exact Chg.refl _ _
 ·exact ⟨rfl,rfl,rfl,by simp,fun b hb hne=>by simp [Array.getElem?_modify,Ne.symm hne]⟩
theorem freeze_heap {b off:Nat} {cs:Array Value} {t:TypeId} {fz:Nat × Nat} (hb:w.heap[b]? = some (.cells cs t fz)):∃ fz',(w.freeze {block:=b,off:=off} 1).heap[b]? = some (.cells cs t fz'):=by
 unfold World.freeze
 rw [if_neg (by decide)]
 simp only [Array.getElem?_modify,if_true,hb,Option.map_some]
 obtain ⟨lo,hi⟩:=fz
 exact ⟨_,rfl⟩
theorem Goes.mark (hT:TabOk P T) {b off m c d:Nat} {cs:Array Value} {t:TypeId} {fz:Nat × Nat} (h:atHead (markOf T e) n s e=some ((⟨b,off,none⟩,m,c),d,s')) (hb:w.heap[b]? = some (.cells cs t fz))
 (hg:∀ w1 fz',w1.heap[b]? = some (.cells cs t fz')→Chg (fun x=>x=b) w w1→w1.heap.size=w.heap.size→Goes P f R n ds s' ((d,false,.slice (some ⟨b,off,none⟩) m c)::e) w1):Goes P f R n ds s e w:=by
 obtain ⟨fz',hfz⟩:=freeze_heap (w:=w) (off:=cs.size) hb
 exact Goes.val h (fun _ ho a hf=>markOf_run hT ho hb a hf) (hg _ fz' hfz (chg_freeze (a:=⟨b,cs.size,none⟩)) (by unfold World.freeze; rw [if_neg (by decide)]; simp))
end
end Go.Proofs.YtnaoiegcobineaaGreatDoor
