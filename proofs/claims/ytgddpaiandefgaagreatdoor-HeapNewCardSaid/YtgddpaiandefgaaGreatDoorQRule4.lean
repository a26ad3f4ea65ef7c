/-
  Rule4
-/
import Derived.Test.YtgddpaiandefgaaGreatDoorQRule3
namespace Go.Proofs.YtgddpaiandefgaaGreatDoor
open Go.RowKit
section
variable {P:Program} {T:Tab} {f:FuncId} {R:Aim} {Post:Value→World→Prop} {n:Nat} {ds:List Deferred} {s s':List Item} {e e':Env} {w w':World}
theorem Xpv (off:Nat):∀ (vs:List Value) (j:Nat) (c:Array Value) (r:List Value),Xps c.toList (off+j) vs=some r →
 ((vs.zipIdx j).foldl (fun cs (x:Value × Nat)=>cs.setIfInBounds (off+x.2) x.1) c)=r.toArray
 |[],j,c,r,h=>by rw [Xpz _ _ _ h]; rfl
 |v::vs,j,c,r,h=>by
  obtain ⟨b,a⟩:=XpC _ _ _ _ _ h;simp only [List.zipIdx_cons,List.foldl_cons];apply Xpv off vs (j+1)
  rw [Array.toList_setIfInBounds,← Nat.add_assoc];exact a
theorem Xpw:∀ (l:List Value) (i:Nat) (r:List Value),Xps l i []=some r→i≤l.length
 |l,0,r,h=>Nat.zero_le _
 |x::l,i+1,r,h=>by
  simp only [Xps] at h;split at h
  ·rename_i q a; have:=Xpw l i q a; simp; omega
  ·cases h
 |[],i+1,r,h=>by simp [Xps] at h
theorem Xpx:∀ (l:List Value) (i:Nat) (vs r:List Value),Xps l i vs=some r→r.length=l.length∧i+vs.length≤l.length
 |l,i,[],r,h=>by
  have a:=Xpw _ _ _ h;have:=Xpz _ _ _ h;subst this;exact ⟨rfl,by simpa using a⟩
 |l,i,v::vs,r,h=>by
  obtain ⟨a,b⟩:=XpC _ _ _ _ _ h;obtain ⟨c,d⟩:=Xpx _ _ _ _ b;simp at c d ⊢;omega
def XfX (place:Nat→Option (Nat × Nat)):List Value→List (Nat × Value)→Option (List Value)
 |c,[]=>some c
 |c,(i,v)::r=>match place i with
  |some (off,size)=>match Nat.beq (Xd9 v).length size with
   |true=>match Xps c off (Xd9 v) with
    |some c'=>XfX place c' r
    |none=>none
   |false=>none
  |none=>none
theorem XfY {place:Nat→Option (Nat × Nat)}:∀ (parts:List (Nat × Value)) (c r:List Value),XfX place c parts=some r→Instr.fill place c.toArray parts=some r.toArray
 |[],c,r,h=>by simp [XfX] at h; subst h; rfl
 |(i,v)::parts,c,r,h=>by
  simp only [XfX] at h;split at h
  ·rename_i off size d
   split at h
   ·rename_i e
    split at h
    ·rename_i c' a
     have b:v.cells.size=size:=by rw [← Nat.eq_of_beq_eq_true e,← Xea]; simp
     obtain ⟨f,g⟩:=Xpx _ _ _ _ a;have j:(Xd9 v).length=v.cells.size:=by rw [← Xea]; simp
     simp only [Instr.fill,d];rw [if_neg (by simp [b]; omega)];have:(v.cells.zipIdx.foldl (fun cs (x:Value × Nat)=>cs.setIfInBounds (off+x.2) x.1) c.toArray)=c'.toArray:=by
      rw [← Array.foldl_toList,Array.toList_zipIdx,Xea];exact Xpv off _ 0 _ _ (by simpa using a)
     rw [this];exact XfY parts c' r h
    ·cases h
   ·cases h
  ·cases h
def XlZ (e:Env):List (Nat × Operand)→Option (List (Nat × Value))
 |[]=>some []
 |(i,x)::r=>match ev e x with
  |some v=>match XlZ e r with
   |some l=>some ((i,v)::l)
   |none=>none
  |none=>none
theorem Xl0 {a:Act} (hf:Xau n a e):∀ {ps:List (Nat × Operand)} {l:List (Nat × Value)},XlZ e ps=some l→ps.map (fun (i,x)=>(i,a.eval x))=l
 |[],l,h=>by simp [XlZ] at h; simp [h]
 |(i,x)::r,l,h=>by
  simp only [XlZ] at h;split at h
  ·rename_i v hv
   split at h
   ·rename_i l' hl; cases h
    rw [List.map_cons,Xl0 hf hl];show (i,a.eval x)::l'=(i,v)::l'
    rw [hf.ev hv]
   ·cases h
  ·cases h
def XmY (T:Tab):List Field→Option (List (Nat × Nat))
 |[]=>some []
 |f::r=>match row T f.type with
  |some q=>match XmY T r with
   |some l=>some ((f.offset,q.size)::l)
   |none=>none
  |none=>none
theorem XmZ (hT:XbB P T) (w:World):∀ {fs:List Field} {l:List (Nat × Nat)},XmY T fs=some l→(fs.mapM fun f=>do pure (f.offset,← sizeOf f.type):Sem (List (Nat × Nat))).run P w = .ok l w
 |[],l,h=>by simp [XmY] at h; subst h; rfl
 |f::r,l,h=>by
  simp only [XmY] at h;split at h
  ·rename_i q a
   split at h
   ·rename_i l' b; cases h
    rw [List.mapM_cons];exact (Xpj (x:=(f.offset,q.size)) (w':=w) ((Xpj ((hT.row a).sizeOf w)).trans rfl)).trans ((Xpj (XmZ hT w b)).trans rfl)
   ·cases h
  ·cases h
def Xk6:List (Nat × Nat)→Nat→Option (Nat × Nat)
 |[],_=>none
 |v::_,0=>some v
 |_::r,i+1=>Xk6 r i
theorem Xk7:∀ (l:List (Nat × Nat)) (i:Nat),Xk6 l i=l[i]?
 |[],_=>by simp [Xk6]
 |_::_,0=>by simp [Xk6]
 |_::r,i+1=>by simp [Xk6,Xk7 r i]
def XdO (T:Tab) (e:Env) (o:Oper):Option (List Value) :=
 match o.op with
 |.build t parts=>match row T t,XlZ e parts.toList with
  |some r,some l=>match r.zero,r.und with
   |some z,.struct fs=>match XmY T fs.toList with
    |some pl=>XfX (Xk6 pl) (Xd9 z) l
    |none=>none
   |some z,.array _ q=>match row T q with
    |some r2=>XfX (fun i=>some (i*r2.size,r2.size)) (Xd9 z) l
    |none=>none
   |_,_=>none
  |_,_=>none
 |_=>none
theorem XdP (hT:XbB P T) {vs:List Value} {o:Oper} (h:XdO T e o=some vs) (a:Act) (hf:Xau n a e) (w:World):(execOp a.eval o).run P w = .ok (.value (.agg vs.toArray)) w:=by
 unfold XdO at h;split at h
 ·rename_i t parts g
  split at h
  ·rename_i r l c y
   have b:(parts.map fun (i,x)=>(i,a.eval x)).toList=l:=by rw [Array.toList_map]; exact Xl0 hf y
   have j:∀ z:Value,z.cells=(Xd9 z).toArray:=fun z=>by rw [← Xea]
   split at h
   ·rename_i z fs k p
    split at h
    ·rename_i pl s
     simp only [execOp,g];refine (Xpj (x:=(.agg vs.toArray:Value)) (w':=w) ?_).trans rfl;unfold Instr.build;refine (Xpj ((hT.row c).zero k w)).trans ?_;refine (Xpj (by rw [(hT.row c).underlying w,p])).trans ?_;simp only
     have hm:(fs.mapM fun f=>do pure (f.offset,← sizeOf f.type):Sem (Array (Nat × Nat))).run P w = .ok pl.toArray w:=by
      rw [Array.mapM_eq_mapM_toList];simp only [Sem.run_map,XmZ hT w s,Result.andThen_ok]
     refine (Xpj hm).trans ?_;have d:=XfY _ _ _ h;have u:(fun i=>pl.toArray[i]?)=Xk6 pl:=by funext i; rw [Xk7]; simp
     rw [b,j,u,d];rfl
    ·cases h
   ·rename_i z m q k p
    split at h
    ·rename_i A v
     simp only [execOp,g];refine (Xpj (x:=(.agg vs.toArray:Value)) (w':=w) ?_).trans rfl;unfold Instr.build;refine (Xpj ((hT.row c).zero k w)).trans ?_;refine (Xpj (by rw [(hT.row c).underlying w,p])).trans ?_;simp only
     refine (Xpj ((hT.row v).sizeOf w)).trans ?_;rw [b,j,XfY _ _ _ h];rfl
    ·cases h
   ·cases h
  ·cases h
 ·cases h
theorem Xay.build (hT:XbB P T) {vs:List Value} {d:Nat} {s2:List Item} {e2:Env} (h:XcR (XdO T e) n s e=some (vs,d,s'))
 (ha:Go.Proofs.YtgddpaiandefgaaGreatDoor.adv T n 400 s' ((d,false,.agg vs.toArray)::e)=(s2,e2)) (hg:Xay P f R n ds s2 e2 w):Xay P f R n ds s e w :=
 Xay.val h (fun _ b a c=>XdP hT b a c w) (Xay.adv hT 400 ha hg)
theorem Xa6.build (hT:XbB P T) {ops:Array Oper} {l l':List Oper} {K:Env→Prop} {vs:List Value} {d:Nat} {l2:List Oper} {e2:Env} (h:XcS (XdO T e) n ops l e=some (vs,d,l'))
 (ha:XbX T n ops l' ((d,false,.agg vs.toArray)::e)=(l2,e2)) (hg:Xa6 P n ops w l2 e2 K):Xa6 P n ops w l e K :=
 Xa6.val hT h (fun _ b a w' _ c=>XdP hT b a c w') ha hg
def XuS (z:List Value):Nat→List Value
 |0 => []
 |m+1=>z++XuS z m
theorem XuX (z:List Value):∀ m,(XuS z m).length=m*z.length
 |0=>by simp [XuS]
 |m+1=>by rw [XuS,List.length_append,XuX z m,Nat.succ_mul,Nat.add_comm]
theorem XuU (z:List Value) (hz:0<z.length):∀ (m i:Nat),i<m*z.length→(XuS z m)[i]? = z[i % z.length]?
 |0,i,h=>by simp at h
 |m+1,i,h=>by
  rw [XuS];by_cases hi:i<z.length
  ·rw [List.getElem?_append_left hi,Nat.mod_eq_of_lt hi]
  ·rw [List.getElem?_append_right (by omega),XuU z hz m (i - z.length) (by rw [Nat.succ_mul] at h; omega)];rw [← Nat.mod_eq_sub_mod (by omega)]
theorem XuT (z:Array Value) (m:Nat) (hz:0<z.size):((Array.range (m*z.size)).map fun i=>z[i % z.size]!)=(XuS z.toList m).toArray:=by
 apply Array.ext'
 apply List.ext_getElem?
 intro i;rw [Array.toList_map,Array.toList_range,List.getElem?_map];by_cases a:i<m*z.size
 ·rw [List.getElem?_range a,Option.map_some];simp only
  rw [XuU z.toList (by simpa using hz) m i (by simpa using a)];have b:i % z.size<z.size:=Nat.mod_lt _ hz;simp [b]
 ·rw [List.getElem?_eq_none (by simp; omega),Option.map_none,List.getElem?_eq_none (by rw [XuX]; simp; omega)]
def XdQ (T:Tab) (e:Env) (o:Oper):Option (List Value × Nat × Nat) :=
 match o.op with
 |.buildSlice t len parts=>match row T t,XlZ e parts.toList with
  |some {und := .slice q,..},some l=>match row T q with
   |some r2=>match r2.zero with
    |some z=>match Nat.beq (Xd9 z).length r2.size,Nat.blt 0 r2.size,Nat.ble (len*r2.size) 16777216 with
     |true,true,true=>match XfX (fun i=>some (i*r2.size,r2.size)) (XuS (Xd9 z) len) l with
      |some vs=>some (vs,q,len)
      |none=>none
     |_,_,_=>none
    |none=>none
   |none=>none
  |_,_=>none
 |_=>none
theorem XkP {t:Nat} {l:List Value}:(newRow t l.toArray).run P w = .ok ⟨w.heap.size,0,none⟩ {w with heap:=w.heap.push (.cells l.toArray t)}:=rfl
theorem XdR (hT:XbB P T) {vs:List Value} {q len:Nat} {o:Oper} (h:XdQ T e o=some (vs,q,len)) (a:Act) (hf:Xau n a e) (w:World) :
 (execOp a.eval o).run P w = .ok (.value (.slice (some ⟨w.heap.size,0,none⟩) len len)) {w with heap:=w.heap.push (.cells vs.toArray q)}:=by
 unfold XdQ at h;split at h
 ·rename_i t y parts m
  split at h
  ·rename_i I _ _ _ l A B
   split at h
   ·rename_i b g
    split at h
    ·rename_i z C
     split at h
     ·rename_i D E p
      split at h
      ·rename_i G d
       cases h
       have c:(parts.map fun (i,x)=>(i,a.eval x)).toList=l:=by rw [Array.toList_map]; exact Xl0 hf B
       have r:=Nat.eq_of_beq_eq_true D;have H:0<b.size:=by simpa [Nat.blt_eq] using E
       have F:len*b.size≤16777216:=Nat.le_of_ble_eq_true p;have s:z.cells.size=b.size:=by rw [← r,← Xea]; simp
       simp only [execOp,m];refine (Xpj (x:=(.slice (some ⟨w.heap.size,0,none⟩) len len:Value)) (w':={w with heap:=w.heap.push (.cells vs.toArray q)}) ?_).trans rfl;unfold Instr.buildSlice;refine (Xpj ((hT.row A).underlying w)).trans ?_;simp only
       refine (Xpj ((hT.row g).sizeOf w)).trans ?_;rw [if_neg (by omega)];have u:∀ Z:Array Value,(Z=z.cells∨(len*b.size=0∧Z = #[]))→(Array.range (len*b.size)).map (fun i=>Z[i % Z.size]!)=(XuS (Xd9 z) len).toArray:=by
        intro Z j;rcases j with rfl | ⟨v,rfl⟩
        ·rw [← s,XuT _ _ (by omega),Xea]
        ·have:len=0:=by
          rcases Nat.mul_eq_zero.1 v with h | h
          ·exact h
          ·omega
         subst this;simp [XuS]
       have key:∀ Z:Array Value,(Z=z.cells∨(len*b.size=0∧Z = #[])) → ∀ k,Instr.fill k ((Array.range (len*b.size)).map (fun i=>Z[i % Z.size]!)) l=Instr.fill k (XuS (Xd9 z) len).toArray l:=fun Z j k=>by rw [u Z j]
       by_cases f:len*b.size=0
       ·rw [if_pos f];refine (Xpj (x:=(#[]:Array Value)) (w':=w) rfl).trans ?_;simp only [c];rw [key #[] (.inr ⟨f,rfl⟩),XfY _ _ _ d];exact (Xpj XkP).trans rfl
       ·rw [if_neg f];refine (Xpj ((hT.row g).zero C w)).trans ?_;refine (Xpj (x:=z.cells) (w':=w) rfl).trans ?_;simp only [c];rw [key z.cells (.inl rfl),XfY _ _ _ d];exact (Xpj XkP).trans rfl
      ·cases h
     ·cases h
    ·cases h
   ·cases h
  ·cases h
 ·cases h
theorem Xay.buildSlice (hT:XbB P T) {vs:List Value} {q len d:Nat} (h:XcR (XdQ T e) n s e=some ((vs,q,len),d,s'))
 (hg:∀ b w1,b=w.heap.size→w1.heap[b]? = some (.cells vs.toArray q (0,0))→Chg XaW w w1→w1.heap.size=w.heap.size+1→Xay P f R n ds s' ((d,false,.slice (some ⟨b,0,none⟩) len len)::e) w1):Xay P f R n ds s e w :=
 Xay.val h (fun _ c a g=>XdR hT c a g w) (hg _ _ rfl (by simp) (XeE _ _) (by simp))
def XjE (T:Tab) (e:Env) (o:Oper):Option (List Value × Nat × Nat × Int × Int) :=
 match o.op with
 |.makeSlice t x y=>match ev e x,ev e y,row T t with
  |some (.int _ l),some (.int _ c),some {und := .slice q,..}=>match row T q with
   |some r2=>match r2.zero with
    |some z=>match Nat.beq (Xd9 z).length r2.size,Nat.blt 0 r2.size with
     |true,true=>some (Xd9 z,q,r2.bytes,l,c)
     |_,_=>none
    |none=>none
   |none=>none
  |_,_,_=>none
 |_=>none
theorem Xbh.info {t:Nat} {r:XbL} (h:Xbh P t r) (w:World):∃ i,(typeInfo t).run P w = .ok i w∧i.bytes=r.bytes∧i.size=r.size:=by
 have a:=h.2;cases b:P.info? t with
 |none=>rw [b] at a; cases a
 |some i =>
  rw [b] at a; simp at a;exact ⟨i,by simp [Go.typeInfo,Go.program,Sem.run,bind,Sem.bind,b,pure],a.2.1,a.1⟩
theorem XjF (hT:XbB P T) {z:List Value} {q by':Nat} {l c:Int} {m k:Nat} {o:Oper} (h:XjE T e o=some (z,q,by',l,c)) (hl:l=m) (hc:c=k) (hmk:m≤k) (hb:by'*k≤140737488355328) (hk:k≤9223372036854775807) (a:Act) (hf:Xau n a e) (w:World) :
 (execOp a.eval o).run P w = .ok (.value (.slice (some ⟨w.heap.size,0,none⟩) m k)) {w with heap:=w.heap.push (.cells (XuS z k).toArray q)}:=by
 unfold XjE at h;split at h
 ·rename_i t x y s
  split at h
  ·rename_i N O Q R S _ _ _ D E F
   split at h
   ·rename_i d f
    split at h
    ·rename_i b G
     split at h
     ·rename_i H I
      cases h
      subst hl; subst hc;obtain ⟨i,J,u,K⟩:=(hT.row f).info w;have v:=Nat.eq_of_beq_eq_true H;have L:0<d.size:=by simpa [Nat.blt_eq] using I
      have A:b.cells.size=d.size:=by rw [← v,← Xea]; simp
      simp only [execOp,s,hf.ev D,hf.ev E];refine (Xpj (x:=(.slice (some ⟨w.heap.size,0,none⟩) m k:Value)) (w':={w with heap:=w.heap.push (.cells (XuS (Xd9 b) k).toArray q)}) ?_).trans rfl;unfold Instr.makeSlice;refine (Xpj ((hT.row F).underlying w)).trans ?_;simp only [asInt,asIntOf];refine (Xpj (x:=(m:Int)) (w':=w) rfl).trans ?_;refine (Xpj (x:=(k:Int)) (w':=w) rfl).trans ?_;refine (Xpj J).trans ?_;have B:IntKind.i64.wrap (m:Int)=m:=w64 (by omega);have C:IntKind.i64.wrap (k:Int)=k:=w64 (by omega);have M:((i.bytes:Int)*(k:Int))≤140737488355328:=by
       rw [u,← Int.natCast_mul];generalize d.bytes*k=p at hb ⊢
       omega
      have j:((decide ((k:Int)<0) || decide ((i.bytes:Int)*(k:Int) > 2 ^ 48)) || decide ((m:Int)<0) || decide ((m:Int) > (k:Int)))=false:=by
       rw [decide_eq_false (by omega),decide_eq_false (by omega),decide_eq_false (by omega),decide_eq_false (by omega)]; rfl
      simp only [B,C];rw [if_neg (by rw [j]; simp)];have r:(askRoom ((k:Int).toNat*i.bytes)).run P w = .ok () w:=by
       unfold askRoom;split
       ·simp [Go.mark,Sem.run]
       ·rfl
      refine (Xpj r).trans ?_;refine (Xpj ((hT.row f).sizeOf w)).trans ?_;simp only [Int.toNat_natCast];by_cases g:k*d.size=0
      ·rw [if_pos g];have:k=0:=by
        rcases Nat.mul_eq_zero.1 g with h | h
        ·exact h
        ·omega
       subst this;refine (Xpj (x:=(#[]:Array Value)) (w':=w) rfl).trans ?_;have:(Array.range (0*d.size)).map (fun i=>(#[]:Array Value)[i % (#[]:Array Value).size]!)=(XuS (Xd9 b) 0).toArray:=by simp [XuS]
       rw [this];exact (Xpj XkP).trans rfl
      ·rw [if_neg g];refine (Xpj ((hT.row f).zero G w)).trans ?_;refine (Xpj (x:=b.cells) (w':=w) rfl).trans ?_;have:(Array.range (k*d.size)).map (fun i=>b.cells[i % b.cells.size]!)=(XuS (Xd9 b) k).toArray:=by
        rw [← A,XuT _ _ (by omega),Xea]
       rw [this];exact (Xpj XkP).trans rfl
     ·cases h
    ·cases h
   ·cases h
  ·cases h
 ·cases h
theorem Xay.make (hT:XbB P T) {z:List Value} {q by' d:Nat} {l c:Int} {m k:Nat} (h:XcR (XjE T e) n s e=some ((z,q,by',l,c),d,s')) (hl:l=m) (hc:c=k) (hmk:m≤k) (hb:by'*k≤140737488355328) (hk:k≤9223372036854775807)
 (hg:∀ b w1,b=w.heap.size→w1.heap[b]? = some (.cells (XuS z k).toArray q (0,0))→Chg XaW w w1→w1.heap.size=w.heap.size+1→Xay P f R n ds s' ((d,false,.slice (some ⟨b,0,none⟩) m k)::e) w1):Xay P f R n ds s e w :=
 Xay.val h (fun _ g a i=>XjF hT g hl hc hmk hb hk a i w) (hg _ _ rfl (by simp) (XeE _ _) (by simp))
theorem Xgy {zs:List Int} {k:Nat} (h:k<zs.length):zs.getD k 0=zs[k]:=by simp [h]
def Xll (e:Env):Option Operand→Option (Option Int)
 |none=>some none
 |some x=>match ev e x with
  |some (.int _ i)=>some (some i)
  |_=>none
def XqC (T:Tab) (e:Env) (o:Oper):Option (Option Addr × Nat × Nat × Option Int × Option Int × Nat) :=
 match o.op with
 |.slice t x lo hi none=>match ev e x,row T t,Xll e lo,Xll e hi with
  |some (.slice a len cap),some {und := .slice q,..},some l,some h=>match row T q with
   |some r=>some (a,len,cap,l,h,r.size)
   |none=>none
  |some (.pointer (some a)),some {und := .array m q,..},some l,some h=>match row T q with
   |some r=>some (some a,m,m,l,h,r.size)
   |none=>none
  |_,_,_,_=>none
 |_=>none
def Xqq (a:Option Addr) (cap l k:Nat):Option Addr:=if cap=l then a else a.map (·.add (l*k))
theorem XqA {k:IntKind} {i:Int} {y j:Nat} {c:BoundsCode} (hi:i=j) (hj:j≤y) (w:World):(Instr.sliceBound (.int k i) y c).run P w = .ok j w:=by
 subst hi;unfold Instr.sliceBound;refine (Xpj (x:=(k,(j:Int))) (w':=w) rfl).trans ?_;simp only
 rw [if_pos ⟨by omega,by omega⟩];rfl
theorem XqB {isS:Bool} {len cap l h:Nat} {lo hi:Option Value} (w:World) (hl:(lo=none∧l=0) ∨ ∃ k i,lo=some (.int k i)∧i=(l:Int)) (hh:(hi=none∧h=len) ∨ ∃ k i,hi=some (.int k i)∧i=(h:Int)) (h1:l≤h) (h2:h≤cap) :
 (Instr.sliceBounds isS len cap lo hi none).run P w = .ok (l,h,cap) w:=by
 unfold Instr.sliceBounds;refine (Xpj (x:=cap) (w':=w) rfl).trans ?_;rcases hh with ⟨rfl,rfl⟩ | ⟨k,i,rfl,hi⟩ <;> rcases hl with ⟨rfl,rfl⟩ | ⟨k',i',rfl,a⟩
 ·rfl
 ·exact (Xpj (XqA a h1 w)).trans rfl
 ·exact (Xpj (XqA hi h2 w)).trans rfl
 ·exact (Xpj (XqA hi h2 w)).trans ((Xpj (XqA a h1 w)).trans rfl)
theorem Xlm {a:Act} (hf:Xau n a e) {x:Option Operand} {r:Option Int} (h:Xll e x=some r):(x.map a.eval=none∧r=none) ∨ ∃ k i,x.map a.eval=some (.int k i)∧r=some i:=by
 cases x with
 |none=>simp [Xll] at h; exact .inl ⟨rfl,h.symm⟩
 |some x =>
  simp only [Xll] at h;split at h
  ·rename_i k i b; cases h; exact .inr ⟨k,i,by simp [hf.ev b],rfl⟩
  ·cases h
def loV:Option Int→Int | some i=>i | none=>0
def hiV (len:Nat):Option Int→Int | some i=>i | none=>len
theorem XqD (hT:XbB P T) {b:Option Addr} {len cap sz l h:Nat} {lo hi:Option Int} {o:Oper} (ho:XqC T e o=some (b,len,cap,lo,hi,sz)) (hl:loV lo=l) (hh:hiV len hi=h) (h1:l≤h) (h2:h≤cap) (a:Act) (hf:Xau n a e) (w:World) :
 (execOp a.eval o).run P w = .ok (.value (.slice (Xqq b cap l sz) (h - l) (cap - l))) w:=by
 unfold XqC at ho;split at ho
 ·rename_i t x lo' s u
  split at ho
  ·rename_i v C D q _ _ _ A B y p f g
   split at ho
   ·rename_i r j
    cases ho
    simp only [execOp,u,hf.ev y];refine (Xpj (x:=(.slice (Xqq b cap l r.size) (h - l) (cap - l):Value)) (w':=w) ?_).trans rfl;unfold Instr.sliceAt;refine (Xpj ((hT.row p).underlying w)).trans ?_;simp only
    unfold Instr.slice;refine (Xpj ((hT.row p).underlying w)).trans ?_;simp only
    have z:=XqB (P:=P) (isS:=true) (len:=len) (cap:=cap) (l:=l) (h:=h) (lo:=lo'.map a.eval) (hi:=s.map a.eval) w
     (by
      rcases Xlm hf f with ⟨c,d⟩ | ⟨k,i,c,d⟩
      ·subst d; exact .inl ⟨c,by simp [loV] at hl; omega⟩
      ·subst d; exact .inr ⟨k,i,c,hl⟩)
     (by
      rcases Xlm hf g with ⟨c,d⟩ | ⟨k,i,c,d⟩
      ·subst d; exact .inl ⟨c,by simp [hiV] at hh; omega⟩
      ·subst d; exact .inr ⟨k,i,c,hh⟩) h1 h2
    refine (Xpj z).trans ?_;simp only
    exact (Xpj ((hT.row j).sizeOf w)).trans rfl
   ·cases ho
  ·rename_i v m q _ _ _ A B y p f g
   split at ho
   ·rename_i r j
    cases ho
    simp only [execOp,u,hf.ev y];refine (Xpj (x:=(.slice (Xqq (some v) len l r.size) (h - l) (len - l):Value)) (w':=w) ?_).trans rfl;unfold Instr.sliceAt;refine (Xpj ((hT.row p).underlying w)).trans ?_;simp only [Instr.sureAddr];refine (Xpj (x:=v) (w':=w) rfl).trans ?_;have z:=XqB (P:=P) (isS:=false) (len:=len) (cap:=len) (l:=l) (h:=h) (lo:=lo'.map a.eval) (hi:=s.map a.eval) w
     (by
      rcases Xlm hf f with ⟨c,d⟩ | ⟨k,i,c,d⟩
      ·subst d; exact .inl ⟨c,by simp [loV] at hl; omega⟩
      ·subst d; exact .inr ⟨k,i,c,hl⟩)
     (by
      rcases Xlm hf g with ⟨c,d⟩ | ⟨k,i,c,d⟩
      ·subst d; exact .inl ⟨c,by simp [hiV] at hh; omega⟩
      ·subst d; exact .inr ⟨k,i,c,hh⟩) h1 h2
    refine (Xpj z).trans ?_;simp only
    refine (Xpj ((hT.row j).sizeOf w)).trans ?_;unfold Xqq;split <;> rfl
   ·cases ho
  ·cases ho
 ·cases ho
theorem Xay.slice (hT:XbB P T) {b:Option Addr} {len cap sz l h d:Nat} {lo hi:Option Int} {s2:List Item} {e2:Env} (ho:XcR (XqC T e) n s e=some ((b,len,cap,lo,hi,sz),d,s')) (hl:loV lo=l) (hh:hiV len hi=h) (h1:l≤h) (h2:h≤cap)
 (ha:Go.Proofs.YtgddpaiandefgaaGreatDoor.adv T n 400 s' ((d,false,.slice (Xqq b cap l sz) (h - l) (cap - l))::e)=(s2,e2)) (hg:Xay P f R n ds s2 e2 w):Xay P f R n ds s e w :=
 Xay.val ho (fun _ ho a c=>XqD hT ho hl hh h1 h2 a c w) (Xay.adv hT 400 ha hg)
theorem Xa6.slice (hT:XbB P T) {ops:Array Oper} {ol l':List Oper} {K:Env→Prop} {b:Option Addr} {len cap sz l h d:Nat} {lo hi:Option Int} {l2:List Oper} {e2:Env} (ho:XcS (XqC T e) n ops ol e=some ((b,len,cap,lo,hi,sz),d,l')) (hl:loV lo=l) (hh:hiV len hi=h) (h1:l≤h) (h2:h≤cap)
 (ha:XbX T n ops l' ((d,false,.slice (Xqq b cap l sz) (h - l) (cap - l))::e)=(l2,e2)) (hg:Xa6 P n ops w l2 e2 K):Xa6 P n ops w ol e K :=
 Xa6.val hT ho (fun _ ho a w' _ c=>XqD hT ho hl hh h1 h2 a c w') ha hg
theorem Rd.shift {k:IntKind} {a:Option Addr} {zs:List Int} {cap l m:Nat} (h:Rd k w a zs) (hm:l+m≤zs.length) (hc:zs.length≤cap):Rd k w (Xqq a cap l 1) ((zs.drop l).take m):=by
 intro i d;have g:i<m:=by simp at d; omega
 obtain ⟨b,off,rfl,c⟩:=h (l+i) (by omega);have e:¬ cap=l:=by omega
 refine ⟨b,off+l,?_,?_⟩
 ·simp only [Xqq,if_neg e,Option.map_some,Nat.mul_one,XbR]
 ·rw [Nat.add_assoc,c]
  congr 2
  have f:i<((zs.drop l).take m).length:=d;rw [Xgy f,Xgy (show l+i<zs.length by omega),List.getElem_take,List.getElem_drop]
end
end Go.Proofs.YtgddpaiandefgaaGreatDoor
