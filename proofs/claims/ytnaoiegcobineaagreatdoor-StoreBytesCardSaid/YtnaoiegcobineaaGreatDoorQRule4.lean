/-
  Rule4
-/
import Derived.Test.YtnaoiegcobineaaGreatDoorQRule3
namespace Go.Proofs.YtnaoiegcobineaaGreatDoor
open Go.RowKit
section
variable {P:Program} {T:Tab} {f:FuncId} {R:Aim} {Post:Value→World→Prop} {n:Nat} {ds:List Deferred} {s s':List Item} {e e':Env} {w w':World}
theorem setV_foldl (off:Nat):∀ (vs:List Value) (j:Nat) (c:Array Value) (r:List Value),setV c.toList (off+j) vs=some r →
 ((vs.zipIdx j).foldl (fun cs (x:Value × Nat)=>cs.setIfInBounds (off+x.2) x.1) c)=r.toArray
 |[],j,c,r,h=>by rw [setV_nil _ _ _ h]; rfl
 |v::vs,j,c,r,h=>by
  obtain ⟨h1,h2⟩:=setV_step _ _ _ _ _ h
  simp only [List.zipIdx_cons,List.foldl_cons]
  apply setV_foldl off vs (j+1)
  rw [Array.toList_setIfInBounds,← Nat.add_assoc]
  exact h2
theorem setV_le:∀ (l:List Value) (i:Nat) (r:List Value),setV l i []=some r→i≤l.length
 |l,0,r,h=>Nat.zero_le _
 |x::l,i+1,r,h=>by
  simp only [setV] at h
  split at h
  ·rename_i q hq; have:=setV_le l i q hq; simp; omega
  ·cases h
 |[],i+1,r,h=>by simp [setV] at h
theorem setV_length:∀ (l:List Value) (i:Nat) (vs r:List Value),setV l i vs=some r→r.length=l.length∧i+vs.length≤l.length
 |l,i,[],r,h=>by
  have h1:=setV_le _ _ _ h
  have:=setV_nil _ _ _ h
  subst this
  exact ⟨rfl,by simpa using h1⟩
 |l,i,v::vs,r,h=>by
  obtain ⟨h1,h2⟩:=setV_step _ _ _ _ _ h
  obtain ⟨h3,h4⟩:=setV_length _ _ _ _ h2
  simp at h3 h4 ⊢
  omega
def fillL (place:Nat→Option (Nat × Nat)):List Value→List (Nat × Value)→Option (List Value)
 |c,[]=>some c
 |c,(i,v)::r=>match place i with
  |some (off,size)=>match Nat.beq (cellsL v).length size with
   |true=>match setV c off (cellsL v) with
    |some c'=>fillL place c' r
    |none=>none
   |false=>none
  |none=>none
theorem fillL_ok {place:Nat→Option (Nat × Nat)}:∀ (parts:List (Nat × Value)) (c r:List Value),fillL place c parts=some r→Instr.fill place c.toArray parts=some r.toArray
 |[],c,r,h=>by simp [fillL] at h; subst h; rfl
 |(i,v)::parts,c,r,h=>by
  simp only [fillL] at h
  split at h
  ·rename_i off size hp
   split at h
   ·rename_i hs
    split at h
    ·rename_i c' hc
     have hsz:v.cells.size=size:=by rw [← Nat.eq_of_beq_eq_true hs,← cellsL_eq]; simp
     obtain ⟨h1,h2⟩:=setV_length _ _ _ _ hc
     have hl:(cellsL v).length=v.cells.size:=by rw [← cellsL_eq]; simp
     simp only [Instr.fill,hp]
     rw [if_neg (by simp [hsz]; omega)]
     have:(v.cells.zipIdx.foldl (fun cs (x:Value × Nat)=>cs.setIfInBounds (off+x.2) x.1) c.toArray)=c'.toArray:=by
      rw [← Array.foldl_toList,Array.toList_zipIdx,cellsL_eq]
      exact setV_foldl off _ 0 _ _ (by simpa using hc)
     rw [this]
     exact fillL_ok parts c' r h
    ·cases h
   ·cases h
  ·cases h
def partsE (e:Env):List (Nat × Operand)→Option (List (Nat × Value))
 |[]=>some []
 |(i,x)::r=>match ev e x with
  |some v=>match partsE e r with
   |some l=>some ((i,v)::l)
   |none=>none
  |none=>none
theorem partsE_ok {a:Act} (hf:Fits n a e):∀ {ps:List (Nat × Operand)} {l:List (Nat × Value)},partsE e ps=some l→ps.map (fun (i,x)=>(i,a.eval x))=l
 |[],l,h=>by simp [partsE] at h; simp [h]
 |(i,x)::r,l,h=>by
  simp only [partsE] at h
  split at h
  ·rename_i v hv
   split at h
   ·rename_i l' hl; cases h
    rw [List.map_cons,partsE_ok hf hl]
    show (i,a.eval x)::l'=(i,v)::l'
    rw [hf.ev hv]
   ·cases h
  ·cases h
def placesL (T:Tab):List Field→Option (List (Nat × Nat))
 |[]=>some []
 |f::r=>match row T f.type with
  |some q=>match placesL T r with
   |some l=>some ((f.offset,q.size)::l)
   |none=>none
  |none=>none
theorem placesL_run (hT:TabOk P T) (w:World):∀ {fs:List Field} {l:List (Nat × Nat)},placesL T fs=some l→(fs.mapM fun f=>do pure (f.offset,← sizeOf f.type):Sem (List (Nat × Nat))).run P w = .ok l w
 |[],l,h=>by simp [placesL] at h; subst h; rfl
 |f::r,l,h=>by
  simp only [placesL] at h
  split at h
  ·rename_i q hq
   split at h
   ·rename_i l' hl; cases h
    rw [List.mapM_cons]
    exact (run_bind_ok (x:=(f.offset,q.size)) (w':=w) ((run_bind_ok ((hT.row hq).sizeOf w)).trans rfl)).trans ((run_bind_ok (placesL_run hT w hl)).trans rfl)
   ·cases h
  ·cases h
def nthP:List (Nat × Nat)→Nat→Option (Nat × Nat)
 |[],_=>none
 |v::_,0=>some v
 |_::r,i+1=>nthP r i
theorem nthP_eq:∀ (l:List (Nat × Nat)) (i:Nat),nthP l i=l[i]?
 |[],_=>by simp [nthP]
 |_::_,0=>by simp [nthP]
 |_::r,i+1=>by simp [nthP,nthP_eq r i]
def buildOf (T:Tab) (e:Env) (o:Oper):Option (List Value) :=
 match o.op with
 |.build t parts=>match row T t,partsE e parts.toList with
  |some r,some l=>match r.zero,r.und with
   |some z,.struct fs=>match placesL T fs.toList with
    |some pl=>fillL (nthP pl) (cellsL z) l
    |none=>none
   |some z,.array _ q=>match row T q with
    |some r2=>fillL (fun i=>some (i*r2.size,r2.size)) (cellsL z) l
    |none=>none
   |_,_=>none
  |_,_=>none
 |_=>none
theorem buildOf_run (hT:TabOk P T) {vs:List Value} {o:Oper} (h:buildOf T e o=some vs) (a:Act) (hf:Fits n a e) (w:World):(execOp a.eval o).run P w = .ok (.value (.agg vs.toArray)) w:=by
 unfold buildOf at h
 split at h
 ·rename_i t parts hop
  split at h
  ·rename_i r l hr hl
   have hparts:(parts.map fun (i,x)=>(i,a.eval x)).toList=l:=by rw [Array.toList_map]; exact partsE_ok hf hl
   have hcz:∀ z:Value,z.cells=(cellsL z).toArray:=fun z=>by rw [← cellsL_eq]
   split at h
   ·rename_i z fs hz hu
    split at h
    ·rename_i pl hpl
     simp only [execOp,hop]
     refine (run_bind_ok (x:=(.agg vs.toArray:Value)) (w':=w) ?_).trans rfl
     unfold Instr.build
     refine (run_bind_ok ((hT.row hr).zero hz w)).trans ?_
     refine (run_bind_ok (by rw [(hT.row hr).underlying w,hu])).trans ?_
     simp only
     have hm:(fs.mapM fun f=>do pure (f.offset,← sizeOf f.type):Sem (Array (Nat × Nat))).run P w = .ok pl.toArray w:=by
      rw [Array.mapM_eq_mapM_toList]
      simp only [Sem.run_map,placesL_run hT w hpl,Result.andThen_ok]
     refine (run_bind_ok hm).trans ?_
     have hfill:=fillL_ok _ _ _ h
     have hpe:(fun i=>pl.toArray[i]?)=nthP pl:=by funext i; rw [nthP_eq]; simp
     rw [hparts,hcz,hpe,hfill]
     rfl
    ·cases h
   ·rename_i z m q hz hu
    split at h
    ·rename_i r2 hr2
     simp only [execOp,hop]
     refine (run_bind_ok (x:=(.agg vs.toArray:Value)) (w':=w) ?_).trans rfl
     unfold Instr.build
     refine (run_bind_ok ((hT.row hr).zero hz w)).trans ?_
     refine (run_bind_ok (by rw [(hT.row hr).underlying w,hu])).trans ?_
     simp only
     refine (run_bind_ok ((hT.row hr2).sizeOf w)).trans ?_
     rw [hparts,hcz,fillL_ok _ _ _ h]
     rfl
    ·cases h
   ·cases h
  ·cases h
 ·cases h
theorem Goes.build (hT:TabOk P T) {vs:List Value} {d:Nat} {s2:List Item} {e2:Env} (h:atHead (buildOf T e) n s e=some (vs,d,s'))
 (ha:Go.Proofs.YtnaoiegcobineaaGreatDoor.adv T n 400 s' ((d,false,.agg vs.toArray)::e)=(s2,e2)) (hg:Goes P f R n ds s2 e2 w):Goes P f R n ds s e w :=
 Goes.val h (fun _ ho a hf=>buildOf_run hT ho a hf w) (Goes.adv hT 400 ha hg)
theorem Quiet.build (hT:TabOk P T) {ops:Array Oper} {l l':List Oper} {K:Env→Prop} {vs:List Value} {d:Nat} {l2:List Oper} {e2:Env} (h:atHeadQ (buildOf T e) n ops l e=some (vs,d,l'))
 (ha:advQ T n ops l' ((d,false,.agg vs.toArray)::e)=(l2,e2)) (hg:Quiet P n ops w l2 e2 K):Quiet P n ops w l e K :=
 Quiet.val hT h (fun _ ho a w' _ hf=>buildOf_run hT ho a hf w') ha hg
def zeroRow (z:List Value):Nat→List Value
 |0 => []
 |m+1=>z++zeroRow z m
theorem zeroRow_length (z:List Value):∀ m,(zeroRow z m).length=m*z.length
 |0=>by simp [zeroRow]
 |m+1=>by rw [zeroRow,List.length_append,zeroRow_length z m,Nat.succ_mul,Nat.add_comm]
theorem zeroRow_get (z:List Value) (hz:0<z.length):∀ (m i:Nat),i<m*z.length→(zeroRow z m)[i]? = z[i % z.length]?
 |0,i,h=>by simp at h
 |m+1,i,h=>by
  rw [zeroRow]
  by_cases hi:i<z.length
  ·rw [List.getElem?_append_left hi,Nat.mod_eq_of_lt hi]
  ·rw [List.getElem?_append_right (by omega),zeroRow_get z hz m (i - z.length) (by rw [Nat.succ_mul] at h; omega)]
   rw [← Nat.mod_eq_sub_mod (by omega)]
theorem zeroRow_eq (z:Array Value) (m:Nat) (hz:0<z.size):((Array.range (m*z.size)).map fun i=>z[i % z.size]!)=(zeroRow z.toList m).toArray:=by
 apply Array.ext'
 apply List.ext_getElem?
 intro i
 rw [Array.toList_map,Array.toList_range,List.getElem?_map]
 by_cases hi:i<m*z.size
 ·rw [List.getElem?_range hi,Option.map_some]
  simp only
  rw [zeroRow_get z.toList (by simpa using hz) m i (by simpa using hi)]
  have hlt:i % z.size<z.size:=Nat.mod_lt _ hz
  simp [hlt]
 ·rw [List.getElem?_eq_none (by simp; omega),Option.map_none,List.getElem?_eq_none (by rw [zeroRow_length]; simp; omega)]
def buildSliceOf (T:Tab) (e:Env) (o:Oper):Option (List Value × Nat × Nat) :=
 match o.op with
 |.buildSlice t len parts=>match row T t,partsE e parts.toList with
  |some {und := .slice q,..},some l=>match row T q with
   |some r2=>match r2.zero with
    |some z=>match Nat.beq (cellsL z).length r2.size,Nat.blt 0 r2.size,Nat.ble (len*r2.size) 16777216 with
     |true,true,true=>match fillL (fun i=>some (i*r2.size,r2.size)) (zeroRow (cellsL z) len) l with
      |some vs=>some (vs,q,len)
      |none=>none
     |_,_,_=>none
    |none=>none
   |none=>none
  |_,_=>none
 |_=>none
theorem newRow_run {t:Nat} {l:List Value}:(newRow t l.toArray).run P w = .ok ⟨w.heap.size,0,none⟩ {w with heap:=w.heap.push (.cells l.toArray t)}:=rfl
theorem buildSliceOf_run (hT:TabOk P T) {vs:List Value} {q len:Nat} {o:Oper} (h:buildSliceOf T e o=some (vs,q,len)) (a:Act) (hf:Fits n a e) (w:World) :
 (execOp a.eval o).run P w = .ok (.value (.slice (some ⟨w.heap.size,0,none⟩) len len)) {w with heap:=w.heap.push (.cells vs.toArray q)}:=by
 unfold buildSliceOf at h
 split at h
 ·rename_i t len1 parts hop
  split at h
  ·rename_i q1 _ _ _ l hr hl
   split at h
   ·rename_i r2 hr2
    split at h
    ·rename_i z hz
     split at h
     ·rename_i hs h0 hle
      split at h
      ·rename_i vs1 hfill
       cases h
       have hparts:(parts.map fun (i,x)=>(i,a.eval x)).toList=l:=by rw [Array.toList_map]; exact partsE_ok hf hl
       have hs':=Nat.eq_of_beq_eq_true hs
       have h0':0<r2.size:=by simpa [Nat.blt_eq] using h0
       have hle':len*r2.size≤16777216:=Nat.le_of_ble_eq_true hle
       have hcz:z.cells.size=r2.size:=by rw [← hs',← cellsL_eq]; simp
       simp only [execOp,hop]
       refine (run_bind_ok (x:=(.slice (some ⟨w.heap.size,0,none⟩) len len:Value)) (w':={w with heap:=w.heap.push (.cells vs.toArray q)}) ?_).trans rfl
       unfold Instr.buildSlice
       refine (run_bind_ok ((hT.row hr).underlying w)).trans ?_
       simp only
       refine (run_bind_ok ((hT.row hr2).sizeOf w)).trans ?_
       rw [if_neg (by omega)]
       have hzz:∀ Z:Array Value,(Z=z.cells∨(len*r2.size=0∧Z = #[]))→(Array.range (len*r2.size)).map (fun i=>Z[i % Z.size]!)=(zeroRow (cellsL z) len).toArray:=by
        intro Z hZ
        rcases hZ with rfl | ⟨hZ0,rfl⟩
        ·rw [← hcz,zeroRow_eq _ _ (by omega),cellsL_eq]
        ·have:len=0:=by
          rcases Nat.mul_eq_zero.1 hZ0 with h | h
          ·exact h
          ·omega
         subst this
         simp [zeroRow]
       have key:∀ Z:Array Value,(Z=z.cells∨(len*r2.size=0∧Z = #[])) → ∀ k,Instr.fill k ((Array.range (len*r2.size)).map (fun i=>Z[i % Z.size]!)) l=Instr.fill k (zeroRow (cellsL z) len).toArray l:=fun Z hZ k=>by rw [hzz Z hZ]
       by_cases hl0:len*r2.size=0
       ·rw [if_pos hl0]
        refine (run_bind_ok (x:=(#[]:Array Value)) (w':=w) rfl).trans ?_
        simp only [hparts]
        rw [key #[] (.inr ⟨hl0,rfl⟩),fillL_ok _ _ _ hfill]
        exact (run_bind_ok newRow_run).trans rfl
       ·rw [if_neg hl0]
        refine (run_bind_ok ((hT.row hr2).zero hz w)).trans ?_
        refine (run_bind_ok (x:=z.cells) (w':=w) rfl).trans ?_
        simp only [hparts]
        rw [key z.cells (.inl rfl),fillL_ok _ _ _ hfill]
        exact (run_bind_ok newRow_run).trans rfl
      ·cases h
     ·cases h
    ·cases h
   ·cases h
  ·cases h
 ·cases h
theorem Goes.buildSlice (hT:TabOk P T) {vs:List Value} {q len d:Nat} (h:atHead (buildSliceOf T e) n s e=some ((vs,q,len),d,s'))
 (hg:∀ b w1,b=w.heap.size→w1.heap[b]? = some (.cells vs.toArray q (0,0))→Chg None' w w1→w1.heap.size=w.heap.size+1→Goes P f R n ds s' ((d,false,.slice (some ⟨b,0,none⟩) len len)::e) w1):Goes P f R n ds s e w :=
 Goes.val h (fun _ ho a hf=>buildSliceOf_run hT ho a hf w) (hg _ _ rfl (by simp) (chg_new _ _) (by simp))
def makeOf (T:Tab) (e:Env) (o:Oper):Option (List Value × Nat × Nat × Int × Int) :=
 match o.op with
 |.makeSlice t x y=>match ev e x,ev e y,row T t with
  |some (.int _ l),some (.int _ c),some {und := .slice q,..}=>match row T q with
   |some r2=>match r2.zero with
    |some z=>match Nat.beq (cellsL z).length r2.size,Nat.blt 0 r2.size with
     |true,true=>some (cellsL z,q,r2.bytes,l,c)
     |_,_=>none
    |none=>none
   |none=>none
  |_,_,_=>none
 |_=>none
theorem RowOk.info {t:Nat} {r:TyRow} (h:RowOk P t r) (w:World):∃ i,(typeInfo t).run P w = .ok i w∧i.bytes=r.bytes∧i.size=r.size:=by
 have h2:=h.2
 cases hi:P.info? t with
 |none=>rw [hi] at h2; cases h2
 |some i =>
  rw [hi] at h2; simp at h2
  exact ⟨i,by simp [Go.typeInfo,Go.program,Sem.run,bind,Sem.bind,hi,pure],h2.2.1,h2.1⟩
theorem makeOf_run (hT:TabOk P T) {z:List Value} {q by':Nat} {l c:Int} {m k:Nat} {o:Oper} (h:makeOf T e o=some (z,q,by',l,c)) (hl:l=m) (hc:c=k) (hmk:m≤k) (hb:by'*k≤140737488355328) (hk:k≤9223372036854775807) (a:Act) (hf:Fits n a e) (w:World) :
 (execOp a.eval o).run P w = .ok (.value (.slice (some ⟨w.heap.size,0,none⟩) m k)) {w with heap:=w.heap.push (.cells (zeroRow z k).toArray q)}:=by
 unfold makeOf at h
 split at h
 ·rename_i t x y hop
  split at h
  ·rename_i k1 l1 k2 c1 q1 _ _ _ hx hy hr
   split at h
   ·rename_i r2 hr2
    split at h
    ·rename_i z1 hz
     split at h
     ·rename_i hs h0
      cases h
      subst hl; subst hc
      obtain ⟨i,hi,hib,his⟩:=(hT.row hr2).info w
      have hs':=Nat.eq_of_beq_eq_true hs
      have h0':0<r2.size:=by simpa [Nat.blt_eq] using h0
      have hcz:z1.cells.size=r2.size:=by rw [← hs',← cellsL_eq]; simp
      simp only [execOp,hop,hf.ev hx,hf.ev hy]
      refine (run_bind_ok (x:=(.slice (some ⟨w.heap.size,0,none⟩) m k:Value)) (w':={w with heap:=w.heap.push (.cells (zeroRow (cellsL z1) k).toArray q)}) ?_).trans rfl
      unfold Instr.makeSlice
      refine (run_bind_ok ((hT.row hr).underlying w)).trans ?_
      simp only [asInt,asIntOf]
      refine (run_bind_ok (x:=(m:Int)) (w':=w) rfl).trans ?_
      refine (run_bind_ok (x:=(k:Int)) (w':=w) rfl).trans ?_
      refine (run_bind_ok hi).trans ?_
      have hwm:IntKind.i64.wrap (m:Int)=m:=w64 (by omega)
      have hwk:IntKind.i64.wrap (k:Int)=k:=w64 (by omega)
      have hbk:((i.bytes:Int)*(k:Int))≤140737488355328:=by
       rw [hib,← Int.natCast_mul]
       generalize r2.bytes*k=p at hb ⊢
       omega
      have hcond:((decide ((k:Int)<0) || decide ((i.bytes:Int)*(k:Int) > 2 ^ 48)) || decide ((m:Int)<0) || decide ((m:Int) > (k:Int)))=false:=by
       rw [decide_eq_false (by omega),decide_eq_false (by omega),decide_eq_false (by omega),decide_eq_false (by omega)]; rfl
      simp only [hwm,hwk]
      rw [if_neg (by rw [hcond]; simp)]
      have hroom:(askRoom ((k:Int).toNat*i.bytes)).run P w = .ok () w:=by
       unfold askRoom
       split
       ·simp [Go.mark,Sem.run]
       ·rfl
      refine (run_bind_ok hroom).trans ?_
      refine (run_bind_ok ((hT.row hr2).sizeOf w)).trans ?_
      simp only [Int.toNat_natCast]
      by_cases hk0:k*r2.size=0
      ·rw [if_pos hk0]
       have:k=0:=by
        rcases Nat.mul_eq_zero.1 hk0 with h | h
        ·exact h
        ·omega
       subst this
       refine (run_bind_ok (x:=(#[]:Array Value)) (w':=w) rfl).trans ?_
       have:(Array.range (0*r2.size)).map (fun i=>(#[]:Array Value)[i % (#[]:Array Value).size]!)=(zeroRow (cellsL z1) 0).toArray:=by simp [zeroRow]
       rw [this]
       exact (run_bind_ok newRow_run).trans rfl
      ·rw [if_neg hk0]
       refine (run_bind_ok ((hT.row hr2).zero hz w)).trans ?_
       refine (run_bind_ok (x:=z1.cells) (w':=w) rfl).trans ?_
       have:(Array.range (k*r2.size)).map (fun i=>z1.cells[i % z1.cells.size]!)=(zeroRow (cellsL z1) k).toArray:=by
        rw [← hcz,zeroRow_eq _ _ (by omega),cellsL_eq]
       rw [this]
       exact (run_bind_ok newRow_run).trans rfl
     ·cases h
    ·cases h
   ·cases h
  ·cases h
 ·cases h
theorem Goes.make (hT:TabOk P T) {z:List Value} {q by' d:Nat} {l c:Int} {m k:Nat} (h:atHead (makeOf T e) n s e=some ((z,q,by',l,c),d,s')) (hl:l=m) (hc:c=k) (hmk:m≤k) (hb:by'*k≤140737488355328) (hk:k≤9223372036854775807)
 (hg:∀ b w1,b=w.heap.size→w1.heap[b]? = some (.cells (zeroRow z k).toArray q (0,0))→Chg None' w w1→w1.heap.size=w.heap.size+1→Goes P f R n ds s' ((d,false,.slice (some ⟨b,0,none⟩) m k)::e) w1):Goes P f R n ds s e w :=
 Goes.val h (fun _ ho a hf=>makeOf_run hT ho hl hc hmk hb hk a hf w) (hg _ _ rfl (by simp) (chg_new _ _) (by simp))
theorem getD_at' {zs:List Int} {k:Nat} (h:k<zs.length):zs.getD k 0=zs[k]:=by simp [h]
def optE (e:Env):Option Operand→Option (Option Int)
 |none=>some none
 |some x=>match ev e x with
  |some (.int _ i)=>some (some i)
  |_=>none
def sliceOf (T:Tab) (e:Env) (o:Oper):Option (Option Addr × Nat × Nat × Option Int × Option Int × Nat) :=
 match o.op with
 |.slice t x lo hi none=>match ev e x,row T t,optE e lo,optE e hi with
  |some (.slice a len cap),some {und := .slice q,..},some l,some h=>match row T q with
   |some r=>some (a,len,cap,l,h,r.size)
   |none=>none
  |some (.pointer (some a)),some {und := .array m q,..},some l,some h=>match row T q with
   |some r=>some (some a,m,m,l,h,r.size)
   |none=>none
  |_,_,_,_=>none
 |_=>none
def shiftA (a:Option Addr) (cap l k:Nat):Option Addr:=if cap=l then a else a.map (·.add (l*k))
theorem sliceBound_run {k:IntKind} {i:Int} {y j:Nat} {c:BoundsCode} (hi:i=j) (hj:j≤y) (w:World):(Instr.sliceBound (.int k i) y c).run P w = .ok j w:=by
 subst hi
 unfold Instr.sliceBound
 refine (run_bind_ok (x:=(k,(j:Int))) (w':=w) rfl).trans ?_
 simp only
 rw [if_pos ⟨by omega,by omega⟩]
 rfl
theorem sliceBounds_run {isS:Bool} {len cap l h:Nat} {lo hi:Option Value} (w:World) (hl:(lo=none∧l=0) ∨ ∃ k i,lo=some (.int k i)∧i=(l:Int)) (hh:(hi=none∧h=len) ∨ ∃ k i,hi=some (.int k i)∧i=(h:Int)) (h1:l≤h) (h2:h≤cap) :
 (Instr.sliceBounds isS len cap lo hi none).run P w = .ok (l,h,cap) w:=by
 unfold Instr.sliceBounds
 refine (run_bind_ok (x:=cap) (w':=w) rfl).trans ?_
 rcases hh with ⟨rfl,rfl⟩ | ⟨k,i,rfl,hi⟩ <;> rcases hl with ⟨rfl,rfl⟩ | ⟨k',i',rfl,hi'⟩
 ·rfl
 ·exact (run_bind_ok (sliceBound_run hi' h1 w)).trans rfl
 ·exact (run_bind_ok (sliceBound_run hi h2 w)).trans rfl
 ·exact (run_bind_ok (sliceBound_run hi h2 w)).trans ((run_bind_ok (sliceBound_run hi' h1 w)).trans rfl)
theorem optE_ok {a:Act} (hf:Fits n a e) {x:Option Operand} {r:Option Int} (h:optE e x=some r):(x.map a.eval=none∧r=none) ∨ ∃ k i,x.map a.eval=some (.int k i)∧r=some i:=by
 cases x with
 |none=>simp [optE] at h; exact .inl ⟨rfl,h.symm⟩
 |some x =>
  simp only [optE] at h
  split at h
  ·rename_i k i hx; cases h; exact .inr ⟨k,i,by simp [hf.ev hx],rfl⟩
  ·cases h
def loV:Option Int→Int | some i=>i | none=>0
def hiV (len:Nat):Option Int→Int | some i=>i | none=>len
theorem sliceOf_run (hT:TabOk P T) {b:Option Addr} {len cap sz l h:Nat} {lo hi:Option Int} {o:Oper} (ho:sliceOf T e o=some (b,len,cap,lo,hi,sz)) (hl:loV lo=l) (hh:hiV len hi=h) (h1:l≤h) (h2:h≤cap) (a:Act) (hf:Fits n a e) (w:World) :
 (execOp a.eval o).run P w = .ok (.value (.slice (shiftA b cap l sz) (h - l) (cap - l))) w:=by
 unfold sliceOf at ho
 split at ho
 ·rename_i t x lo' hi' hop
  split at ho
  ·rename_i b1 len1 cap1 q _ _ _ lo1 hi1 hx hr hlo hhi
   split at ho
   ·rename_i r hr2
    cases ho
    simp only [execOp,hop,hf.ev hx]
    refine (run_bind_ok (x:=(.slice (shiftA b cap l r.size) (h - l) (cap - l):Value)) (w':=w) ?_).trans rfl
    unfold Instr.sliceAt
    refine (run_bind_ok ((hT.row hr).underlying w)).trans ?_
    simp only
    unfold Instr.slice
    refine (run_bind_ok ((hT.row hr).underlying w)).trans ?_
    simp only
    have hb:=sliceBounds_run (P:=P) (isS:=true) (len:=len) (cap:=cap) (l:=l) (h:=h) (lo:=lo'.map a.eval) (hi:=hi'.map a.eval) w
     (by rcases optE_ok hf hlo with ⟨g1,g2⟩ | ⟨k,i,g1,g2⟩
         ·subst g2; exact .inl ⟨g1,by simp [loV] at hl; omega⟩
         ·subst g2; exact .inr ⟨k,i,g1,hl⟩)
     (by rcases optE_ok hf hhi with ⟨g1,g2⟩ | ⟨k,i,g1,g2⟩
         ·subst g2; exact .inl ⟨g1,by simp [hiV] at hh; omega⟩
         ·subst g2; exact .inr ⟨k,i,g1,hh⟩) h1 h2
    refine (run_bind_ok hb).trans ?_
    simp only
    exact (run_bind_ok ((hT.row hr2).sizeOf w)).trans rfl
   ·cases ho
  ·rename_i b1 m q _ _ _ lo1 hi1 hx hr hlo hhi
   split at ho
   ·rename_i r hr2
    cases ho
    simp only [execOp,hop,hf.ev hx]
    refine (run_bind_ok (x:=(.slice (shiftA (some b1) len l r.size) (h - l) (len - l):Value)) (w':=w) ?_).trans rfl
    unfold Instr.sliceAt
    refine (run_bind_ok ((hT.row hr).underlying w)).trans ?_
    simp only [Instr.sureAddr]
    refine (run_bind_ok (x:=b1) (w':=w) rfl).trans ?_
    have hb:=sliceBounds_run (P:=P) (isS:=false) (len:=len) (cap:=len) (l:=l) (h:=h) (lo:=lo'.map a.eval) (hi:=hi'.map a.eval) w
     (by rcases optE_ok hf hlo with ⟨g1,g2⟩ | ⟨k,i,g1,g2⟩
         ·subst g2; exact .inl ⟨g1,by simp [loV] at hl; omega⟩
         ·subst g2; exact .inr ⟨k,i,g1,hl⟩)
     (by rcases optE_ok hf hhi with ⟨g1,g2⟩ | ⟨k,i,g1,g2⟩
         ·subst g2; exact .inl ⟨g1,by simp [hiV] at hh; omega⟩
         ·subst g2; exact .inr ⟨k,i,g1,hh⟩) h1 h2
    refine (run_bind_ok hb).trans ?_
    simp only
    refine (run_bind_ok ((hT.row hr2).sizeOf w)).trans ?_
    unfold shiftA
    split <;> rfl
   ·cases ho
  ·cases ho
 ·cases ho
theorem Goes.slice (hT:TabOk P T) {b:Option Addr} {len cap sz l h d:Nat} {lo hi:Option Int} {s2:List Item} {e2:Env} (ho:atHead (sliceOf T e) n s e=some ((b,len,cap,lo,hi,sz),d,s')) (hl:loV lo=l) (hh:hiV len hi=h) (h1:l≤h) (h2:h≤cap)
 (ha:Go.Proofs.YtnaoiegcobineaaGreatDoor.adv T n 400 s' ((d,false,.slice (shiftA b cap l sz) (h - l) (cap - l))::e)=(s2,e2)) (hg:Goes P f R n ds s2 e2 w):Goes P f R n ds s e w :=
 Goes.val ho (fun _ ho a hf=>sliceOf_run hT ho hl hh h1 h2 a hf w) (Goes.adv hT 400 ha hg)
theorem Quiet.slice (hT:TabOk P T) {ops:Array Oper} {ol l':List Oper} {K:Env→Prop} {b:Option Addr} {len cap sz l h d:Nat} {lo hi:Option Int} {l2:List Oper} {e2:Env} (ho:atHeadQ (sliceOf T e) n ops ol e=some ((b,len,cap,lo,hi,sz),d,l')) (hl:loV lo=l) (hh:hiV len hi=h) (h1:l≤h) (h2:h≤cap)
 (ha:advQ T n ops l' ((d,false,.slice (shiftA b cap l sz) (h - l) (cap - l))::e)=(l2,e2)) (hg:Quiet P n ops w l2 e2 K):Quiet P n ops w ol e K :=
 Quiet.val hT ho (fun _ ho a w' _ hf=>sliceOf_run hT ho hl hh h1 h2 a hf w') ha hg
theorem Rd.shift {k:IntKind} {a:Option Addr} {zs:List Int} {cap l m:Nat} (h:Rd k w a zs) (hm:l+m≤zs.length) (hc:zs.length≤cap):Rd k w (shiftA a cap l 1) ((zs.drop l).take m):=by
 intro i hi
 have hi':i<m:=by simp at hi; omega
 obtain ⟨b,off,rfl,hcell⟩:=h (l+i) (by omega)
 have hcl:¬ cap=l:=by omega
 refine ⟨b,off+l,?_,?_⟩
 ·simp only [shiftA,if_neg hcl,Option.map_some,Nat.mul_one,add_off]
 ·rw [Nat.add_assoc,hcell]
  congr 2
  have h1:i<((zs.drop l).take m).length:=hi
  rw [getD_at' h1,getD_at' (show l+i<zs.length by omega),List.getElem_take,List.getElem_drop]
end
end Go.Proofs.YtnaoiegcobineaaGreatDoor
