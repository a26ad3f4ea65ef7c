/-
  Rule4
-/
import Derived.Test.YtgddpaiandefgaaGreatDoorQRule3
namespace Go.Proofs.YtgddpaiandefgaaGreatDoor
open Go.RowKit
section
variable {P:Program} {T:Tab} {f:FuncId} {R:Aim} {Post:Value→World→Prop} {n:Nat} {ds:List Deferred} {s s':List Item} {e e':Env} {w w':World}
theorem XqV (off:Nat):∀ (vs:List Value) (j:Nat) (c:Array Value) (r:List Value),XqS c.toList (off+j) vs=some r →
 ((vs.zipIdx j).foldl (fun cs (x:Value × Nat)=>cs.setIfInBounds (off+x.2) x.1) c)=r.toArray
 |[],j,c,r,h=>by rw [Xq0 _ _ _ h]; rfl
 |v::vs,j,c,r,h=>by
  obtain ⟨b,a⟩:=Xq3 _ _ _ _ _ h;simp only [List.zipIdx_cons,List.foldl_cons];apply XqV off vs (j+1)
  rw [Array.toList_setIfInBounds,← Nat.add_assoc];exact a
theorem XqX:∀ (l:List Value) (i:Nat) (r:List Value),XqS l i []=some r→i≤l.length
 |l,0,r,h=>Nat.zero_le _
 |x::l,i+1,r,h=>by
  simp only [XqS] at h;split at h
  ·rename_i q a; have:=XqX l i q a; simp; omega
  ·cases h
 |[],i+1,r,h=>by simp [XqS] at h
theorem XqY:∀ (l:List Value) (i:Nat) (vs r:List Value),XqS l i vs=some r→r.length=l.length∧i+vs.length≤l.length
 |l,i,[],r,h=>by
  have a:=XqX _ _ _ h;have:=Xq0 _ _ _ h;subst this;exact ⟨rfl,by simpa using a⟩
 |l,i,v::vs,r,h=>by
  obtain ⟨a,b⟩:=Xq3 _ _ _ _ _ h;obtain ⟨c,d⟩:=XqY _ _ _ _ b;simp at c d ⊢;omega
def Xgg (place:Nat→Option (Nat × Nat)):List Value→List (Nat × Value)→Option (List Value)
 |c,[]=>some c
 |c,(i,v)::r=>match place i with
  |some (off,size)=>match Nat.beq (Xen v).length size with
   |true=>match XqS c off (Xen v) with
    |some c'=>Xgg place c' r
    |none=>none
   |false=>none
  |none=>none
theorem Xgh {place:Nat→Option (Nat × Nat)}:∀ (parts:List (Nat × Value)) (c r:List Value),Xgg place c parts=some r→Instr.fill place c.toArray parts=some r.toArray
 |[],c,r,h=>by simp [Xgg] at h; subst h; rfl
 |(i,v)::parts,c,r,h=>by
  simp only [Xgg] at h;split at h
  ·rename_i off size d
   split at h
   ·rename_i e
    split at h
    ·rename_i c' a
     have b:v.cells.size=size:=by rw [← Nat.eq_of_beq_eq_true e,← Xeo]; simp
     obtain ⟨f,g⟩:=XqY _ _ _ _ a;have j:(Xen v).length=v.cells.size:=by rw [← Xeo]; simp
     simp only [Instr.fill,d];rw [if_neg (by simp [b]; omega)];have:(v.cells.zipIdx.foldl (fun cs (x:Value × Nat)=>cs.setIfInBounds (off+x.2) x.1) c.toArray)=c'.toArray:=by
      rw [← Array.foldl_toList,Array.toList_zipIdx,Xeo];exact XqV off _ 0 _ _ (by simpa using a)
     rw [this];exact Xgh parts c' r h
    ·cases h
   ·cases h
  ·cases h
def Xm3 (e:Env):List (Nat × Operand)→Option (List (Nat × Value))
 |[]=>some []
 |(i,x)::r=>match ev e x with
  |some v=>match Xm3 e r with
   |some l=>some ((i,v)::l)
   |none=>none
  |none=>none
theorem Xm4 {a:Act} (hf:Xau n a e):∀ {ps:List (Nat × Operand)} {l:List (Nat × Value)},Xm3 e ps=some l→ps.map (fun (i,x)=>(i,a.eval x))=l
 |[],l,h=>by simp [Xm3] at h; simp [h]
 |(i,x)::r,l,h=>by
  simp only [Xm3] at h;split at h
  ·rename_i v hv
   split at h
   ·rename_i l' hl; cases h
    rw [List.map_cons,Xm4 hf hl];show (i,a.eval x)::l'=(i,v)::l'
    rw [hf.ev hv]
   ·cases h
  ·cases h
def Xn4 (T:Tab):List Field→Option (List (Nat × Nat))
 |[]=>some []
 |f::r=>match row T f.type with
  |some q=>match Xn4 T r with
   |some l=>some ((f.offset,q.size)::l)
   |none=>none
  |none=>none
theorem Xn5 (hT:XbE P T) (w:World):∀ {fs:List Field} {l:List (Nat × Nat)},Xn4 T fs=some l→(fs.mapM fun f=>do pure (f.offset,← sizeOf f.type):Sem (List (Nat × Nat))).run P w = .ok l w
 |[],l,h=>by simp [Xn4] at h; subst h; rfl
 |f::r,l,h=>by
  simp only [Xn4] at h;split at h
  ·rename_i q a
   split at h
   ·rename_i l' b; cases h
    rw [List.mapM_cons];exact (XqJ (x:=(f.offset,q.size)) (w':=w) ((XqJ ((hT.row a).sizeOf w)).trans rfl)).trans ((XqJ (Xn5 hT w b)).trans rfl)
   ·cases h
  ·cases h
def Xl1:List (Nat × Nat)→Nat→Option (Nat × Nat)
 |[],_=>none
 |v::_,0=>some v
 |_::r,i+1=>Xl1 r i
theorem Xl2:∀ (l:List (Nat × Nat)) (i:Nat),Xl1 l i=l[i]?
 |[],_=>by simp [Xl1]
 |_::_,0=>by simp [Xl1]
 |_::r,i+1=>by simp [Xl1,Xl2 r i]
def XdY (T:Tab) (e:Env) (o:Oper):Option (List Value) :=
 match o.op with
 |.build t parts=>match row T t,Xm3 e parts.toList with
  |some r,some l=>match r.zero,r.und with
   |some z,.struct fs=>match Xn4 T fs.toList with
    |some pl=>Xgg (Xl1 pl) (Xen z) l
    |none=>none
   |some z,.array _ q=>match row T q with
    |some r2=>Xgg (fun i=>some (i*r2.size,r2.size)) (Xen z) l
    |none=>none
   |_,_=>none
  |_,_=>none
 |_=>none
theorem XdZ (hT:XbE P T) {vs:List Value} {o:Oper} (h:XdY T e o=some vs) (a:Act) (hf:Xau n a e) (w:World):(execOp a.eval o).run P w = .ok (.value (.agg vs.toArray)) w:=by
 unfold XdY at h;split at h
 ·rename_i t parts g
  split at h
  ·rename_i r l c y
   have b:(parts.map fun (i,x)=>(i,a.eval x)).toList=l:=by rw [Array.toList_map]; exact Xm4 hf y
   have j:∀ z:Value,z.cells=(Xen z).toArray:=fun z=>by rw [← Xeo]
   split at h
   ·rename_i z fs k p
    split at h
    ·rename_i pl s
     simp only [execOp,g];refine (XqJ (x:=(.agg vs.toArray:Value)) (w':=w) ?_).trans rfl;unfold Instr.build;refine (XqJ ((hT.row c).zero k w)).trans ?_;refine (XqJ (by rw [(hT.row c).underlying w,p])).trans ?_;simp only
     have hm:(fs.mapM fun f=>do pure (f.offset,← sizeOf f.type):Sem (Array (Nat × Nat))).run P w = .ok pl.toArray w:=by
      rw [Array.mapM_eq_mapM_toList];simp only [Sem.run_map,Xn5 hT w s,Result.andThen_ok]
     refine (XqJ hm).trans ?_;have d:=Xgh _ _ _ h;have u:(fun i=>pl.toArray[i]?)=Xl1 pl:=by funext i; rw [Xl2]; simp
     rw [b,j,u,d];rfl
    ·cases h
   ·rename_i z m q k p
    split at h
    ·rename_i A v
     simp only [execOp,g];refine (XqJ (x:=(.agg vs.toArray:Value)) (w':=w) ?_).trans rfl;unfold Instr.build;refine (XqJ ((hT.row c).zero k w)).trans ?_;refine (XqJ (by rw [(hT.row c).underlying w,p])).trans ?_;simp only
     refine (XqJ ((hT.row v).sizeOf w)).trans ?_;rw [b,j,Xgh _ _ _ h];rfl
    ·cases h
   ·cases h
  ·cases h
 ·cases h
theorem Xay.build (hT:XbE P T) {vs:List Value} {d:Nat} {s2:List Item} {e2:Env} (h:XcY (XdY T e) n s e=some (vs,d,s'))
 (ha:Go.Proofs.YtgddpaiandefgaaGreatDoor.adv T n 400 s' ((d,false,.agg vs.toArray)::e)=(s2,e2)) (hg:Xay P f R n ds s2 e2 w):Xay P f R n ds s e w :=
 Xay.val h (fun _ b a hf=>XdZ hT b a hf w) (Xay.adv hT 400 ha hg)
theorem Xba.build (hT:XbE P T) {ops:Array Oper} {l l':List Oper} {K:Env→Prop} {vs:List Value} {d:Nat} {l2:List Oper} {e2:Env} (h:XcZ (XdY T e) n ops l e=some (vs,d,l'))
 (ha:Xb4 T n ops l' ((d,false,.agg vs.toArray)::e)=(l2,e2)) (hg:Xba P n ops w l2 e2 K):Xba P n ops w l e K :=
 Xba.val hT h (fun _ b a w' _ hf=>XdZ hT b a hf w') ha hg
def XwJ (z:List Value):Nat→List Value
 |0 => []
 |m+1=>z++XwJ z m
theorem XwO (z:List Value):∀ m,(XwJ z m).length=m*z.length
 |0=>by simp [XwJ]
 |m+1=>by rw [XwJ,List.length_append,XwO z m,Nat.succ_mul,Nat.add_comm]
theorem XwL (z:List Value) (hz:0<z.length):∀ (m i:Nat),i<m*z.length→(XwJ z m)[i]? = z[i % z.length]?
 |0,i,h=>by simp at h
 |m+1,i,h=>by
  rw [XwJ];by_cases hi:i<z.length
  ·rw [List.getElem?_append_left hi,Nat.mod_eq_of_lt hi]
  ·rw [List.getElem?_append_right (by omega),XwL z hz m (i - z.length) (by rw [Nat.succ_mul] at h; omega)];rw [← Nat.mod_eq_sub_mod (by omega)]
theorem XwK (z:Array Value) (m:Nat) (hz:0<z.size):((Array.range (m*z.size)).map fun i=>z[i % z.size]!)=(XwJ z.toList m).toArray:=by
 apply Array.ext'
 apply List.ext_getElem?
 intro i;rw [Array.toList_map,Array.toList_range,List.getElem?_map];by_cases a:i<m*z.size
 ·rw [List.getElem?_range a,Option.map_some];simp only
  rw [XwL z.toList (by simpa using hz) m i (by simpa using a)];have b:i % z.size<z.size:=Nat.mod_lt _ hz;simp [b]
 ·rw [List.getElem?_eq_none (by simp; omega),Option.map_none,List.getElem?_eq_none (by rw [XwO]; simp; omega)]
def Xd0 (T:Tab) (e:Env) (o:Oper):Option (List Value × Nat × Nat) :=
 match o.op with
 |.buildSlice t len parts=>match row T t,Xm3 e parts.toList with
  |some {und := .slice q,..},some l=>match row T q with
   |some r2=>match r2.zero with
    |some z=>match Nat.beq (Xen z).length r2.size,Nat.blt 0 r2.size,Nat.ble (len*r2.size) 16777216 with
     |true,true,true=>match Xgg (fun i=>some (i*r2.size,r2.size)) (XwJ (Xen z) len) l with
      |some vs=>some (vs,q,len)
      |none=>none
     |_,_,_=>none
    |none=>none
   |none=>none
  |_,_=>none
 |_=>none
theorem XlJ {t:Nat} {l:List Value}:(newRow t l.toArray).run P w = .ok ⟨w.heap.size,0,none⟩ {w with heap:=w.heap.push (.cells l.toArray t)}:=rfl
theorem Xd1 (hT:XbE P T) {vs:List Value} {q len:Nat} {o:Oper} (h:Xd0 T e o=some (vs,q,len)) (a:Act) (hf:Xau n a e) (w:World) :
 (execOp a.eval o).run P w = .ok (.value (.slice (some ⟨w.heap.size,0,none⟩) len len)) {w with heap:=w.heap.push (.cells vs.toArray q)}:=by
 unfold Xd0 at h;split at h
 ·rename_i t y parts m
  split at h
  ·rename_i I _ _ _ l A B
   split at h
   ·rename_i b g
    split at h
    ·rename_i z C
     split at h
     ·rename_i D E p
      split at h
      ·rename_i G d
       cases h
       have c:(parts.map fun (i,x)=>(i,a.eval x)).toList=l:=by rw [Array.toList_map]; exact Xm4 hf B
       have r:=Nat.eq_of_beq_eq_true D;have H:0<b.size:=by simpa [Nat.blt_eq] using E
       have F:len*b.size≤16777216:=Nat.le_of_ble_eq_true p;have s:z.cells.size=b.size:=by rw [← r,← Xeo]; simp
       simp only [execOp,m];refine (XqJ (x:=(.slice (some ⟨w.heap.size,0,none⟩) len len:Value)) (w':={w with heap:=w.heap.push (.cells vs.toArray q)}) ?_).trans rfl;unfold Instr.buildSlice;refine (XqJ ((hT.row A).underlying w)).trans ?_;simp only
       refine (XqJ ((hT.row g).sizeOf w)).trans ?_;rw [if_neg (by omega)];have u:∀ Z:Array Value,(Z=z.cells∨(len*b.size=0∧Z = #[]))→(Array.range (len*b.size)).map (fun i=>Z[i % Z.size]!)=(XwJ (Xen z) len).toArray:=by
        intro Z j;rcases j with rfl | ⟨v,rfl⟩
        ·rw [← s,XwK _ _ (by omega),Xeo]
        ·have:len=0:=by
          rcases Nat.mul_eq_zero.1 v with h | h
          ·exact h
          ·omega
         subst this;simp [XwJ]
       have key:∀ Z:Array Value,(Z=z.cells∨(len*b.size=0∧Z = #[])) → ∀ k,Instr.fill k ((Array.range (len*b.size)).map (fun i=>Z[i % Z.size]!)) l=Instr.fill k (XwJ (Xen z) len).toArray l:=fun Z j k=>by rw [u Z j]
       by_cases f:len*b.size=0
       ·rw [if_pos f];refine (XqJ (x:=(#[]:Array Value)) (w':=w) rfl).trans ?_;simp only [c];rw [key #[] (.inr ⟨f,rfl⟩),Xgh _ _ _ d];exact (XqJ XlJ).trans rfl
       ·rw [if_neg f];refine (XqJ ((hT.row g).zero C w)).trans ?_;refine (XqJ (x:=z.cells) (w':=w) rfl).trans ?_;simp only [c];rw [key z.cells (.inl rfl),Xgh _ _ _ d];exact (XqJ XlJ).trans rfl
      ·cases h
     ·cases h
    ·cases h
   ·cases h
  ·cases h
 ·cases h
theorem Xay.buildSlice (hT:XbE P T) {vs:List Value} {q len d:Nat} (h:XcY (Xd0 T e) n s e=some ((vs,q,len),d,s'))
 (hg:∀ b w1,b=w.heap.size→w1.heap[b]? = some (.cells vs.toArray q (0,0))→Chg XaX w w1→w1.heap.size=w.heap.size+1→Xay P f R n ds s' ((d,false,.slice (some ⟨b,0,none⟩) len len)::e) w1):Xay P f R n ds s e w :=
 Xay.val h (fun _ c a hf=>Xd1 hT c a hf w) (hg _ _ rfl (by simp) (XeT _ _) (by simp))
def Xky (T:Tab) (e:Env) (o:Oper):Option (List Value × Nat × Nat × Int × Int) :=
 match o.op with
 |.makeSlice t x y=>match ev e x,ev e y,row T t with
  |some (.int _ l),some (.int _ c),some {und := .slice q,..}=>match row T q with
   |some r2=>match r2.zero with
    |some z=>match Nat.beq (Xen z).length r2.size,Nat.blt 0 r2.size with
     |true,true=>some (Xen z,q,r2.bytes,l,c)
     |_,_=>none
    |none=>none
   |none=>none
  |_,_,_=>none
 |_=>none
theorem Xbk.info {t:Nat} {r:XbP} (h:Xbk P t r) (w:World):∃ i,(typeInfo t).run P w = .ok i w∧i.bytes=r.bytes∧i.size=r.size:=by
 have a:=h.2;cases b:P.info? t with
 |none=>rw [b] at a; cases a
 |some i =>
  rw [b] at a; simp at a;exact ⟨i,by simp [Go.typeInfo,Go.program,Sem.run,bind,Sem.bind,b,pure],a.2.1,a.1⟩
theorem Xkz (hT:XbE P T) {z:List Value} {q by':Nat} {l c:Int} {m k:Nat} {o:Oper} (h:Xky T e o=some (z,q,by',l,c)) (hl:l=m) (hc:c=k) (hmk:m≤k) (hb:by'*k≤140737488355328) (hk:k≤9223372036854775807) (a:Act) (hf:Xau n a e) (w:World) :
 (execOp a.eval o).run P w = .ok (.value (.slice (some ⟨w.heap.size,0,none⟩) m k)) {w with heap:=w.heap.push (.cells (XwJ z k).toArray q)}:=by
 unfold Xky at h;split at h
 ·rename_i t x y s
  split at h
  ·rename_i N O Q R S _ _ _ D E F
   split at h
   ·rename_i d f
    split at h
    ·rename_i b G
     split at h
     ·rename_i H I
      cases h
      subst hl; subst hc;obtain ⟨i,J,u,K⟩:=(hT.row f).info w;have v:=Nat.eq_of_beq_eq_true H;have L:0<d.size:=by simpa [Nat.blt_eq] using I
      have A:b.cells.size=d.size:=by rw [← v,← Xeo]; simp
      simp only [execOp,s,hf.ev D,hf.ev E];refine (XqJ (x:=(.slice (some ⟨w.heap.size,0,none⟩) m k:Value)) (w':={w with heap:=w.heap.push (.cells (XwJ (Xen b) k).toArray q)}) ?_).trans rfl;unfold Instr.makeSlice;refine (XqJ ((hT.row F).underlying w)).trans ?_;simp only [asInt,asIntOf];refine (XqJ (x:=(m:Int)) (w':=w) rfl).trans ?_;refine (XqJ (x:=(k:Int)) (w':=w) rfl).trans ?_;refine (XqJ J).trans ?_;have B:IntKind.i64.wrap (m:Int)=m:=w64 (by omega);have C:IntKind.i64.wrap (k:Int)=k:=w64 (by omega);have M:((i.bytes:Int)*(k:Int))≤140737488355328:=by
       rw [u,← Int.natCast_mul];generalize d.bytes*k=p at hb ⊢
       omega
      have j:((decide ((k:Int)<0) || decide ((i.bytes:Int)*(k:Int) > 2 ^ 48)) || decide ((m:Int)<0) || decide ((m:Int) > (k:Int)))=false:=by
       rw [decide_eq_false (by omega),decide_eq_false (by omega),decide_eq_false (by omega),decide_eq_false (by omega)]; rfl
      simp only [B,C];rw [if_neg (by rw [j]; simp)];have r:(askRoom ((k:Int).toNat*i.bytes)).run P w = .ok () w:=by
       unfold askRoom;split
       ·simp [Go.mark,Sem.run]
       ·rfl
      refine (XqJ r).trans ?_;refine (XqJ ((hT.row f).sizeOf w)).trans ?_;simp only [Int.toNat_natCast];by_cases g:k*d.size=0
      ·rw [if_pos g];have:k=0:=by
        rcases Nat.mul_eq_zero.1 g with h | h
        ·exact h
        ·omega
       subst this;refine (XqJ (x:=(#[]:Array Value)) (w':=w) rfl).trans ?_;have:(Array.range (0*d.size)).map (fun i=>(#[]:Array Value)[i % (#[]:Array Value).size]!)=(XwJ (Xen b) 0).toArray:=by simp [XwJ]
       rw [this];exact (XqJ XlJ).trans rfl
      ·rw [if_neg g];refine (XqJ ((hT.row f).zero G w)).trans ?_;refine (XqJ (x:=b.cells) (w':=w) rfl).trans ?_;have:(Array.range (k*d.size)).map (fun i=>b.cells[i % b.cells.size]!)=(XwJ (Xen b) k).toArray:=by
        rw [← A,XwK _ _ (by omega),Xeo]
       rw [this];exact (XqJ XlJ).trans rfl
     ·cases h
    ·cases h
   ·cases h
  ·cases h
 ·cases h
theorem Xay.make (hT:XbE P T) {z:List Value} {q by' d:Nat} {l c:Int} {m k:Nat} (h:XcY (Xky T e) n s e=some ((z,q,by',l,c),d,s')) (hl:l=m) (hc:c=k) (hmk:m≤k) (hb:by'*k≤140737488355328) (hk:k≤9223372036854775807)
 (hg:∀ b w1,b=w.heap.size→w1.heap[b]? = some (.cells (XwJ z k).toArray q (0,0))→Chg XaX w w1→w1.heap.size=w.heap.size+1→Xay P f R n ds s' ((d,false,.slice (some ⟨b,0,none⟩) m k)::e) w1):Xay P f R n ds s e w :=
 Xay.val h (fun _ g a hf=>Xkz hT g hl hc hmk hb hk a hf w) (hg _ _ rfl (by simp) (XeT _ _) (by simp))
theorem Xg1 {zs:List Int} {k:Nat} (h:k<zs.length):zs.getD k 0=zs[k]:=by simp [h]
def Xmn (e:Env):Option Operand→Option (Option Int)
 |none=>some none
 |some x=>match ev e x with
  |some (.int _ i)=>some (some i)
  |_=>none
def Xr3 (T:Tab) (e:Env) (o:Oper):Option (Option Addr × Nat × Nat × Option Int × Option Int × Nat) :=
 match o.op with
 |.slice t x lo hi none=>match ev e x,row T t,Xmn e lo,Xmn e hi with
  |some (.slice a len cap),some {und := .slice q,..},some l,some h=>match row T q with
   |some r=>some (a,len,cap,l,h,r.size)
   |none=>none
  |some (.pointer (some a)),some {und := .array m q,..},some l,some h=>match row T q with
   |some r=>some (some a,m,m,l,h,r.size)
   |none=>none
  |_,_,_,_=>none
 |_=>none
def XrR (a:Option Addr) (cap l k:Nat):Option Addr:=if cap=l then a else a.map (·.add (l*k))
theorem Xr1 {k:IntKind} {i:Int} {y j:Nat} {c:BoundsCode} (hi:i=j) (hj:j≤y) (w:World):(Instr.sliceBound (.int k i) y c).run P w = .ok j w:=by
 subst hi;unfold Instr.sliceBound;refine (XqJ (x:=(k,(j:Int))) (w':=w) rfl).trans ?_;simp only
 rw [if_pos ⟨by omega,by omega⟩];rfl
theorem Xr2 {isS:Bool} {len cap l h:Nat} {lo hi:Option Value} (w:World) (hl:(lo=none∧l=0) ∨ ∃ k i,lo=some (.int k i)∧i=(l:Int)) (hh:(hi=none∧h=len) ∨ ∃ k i,hi=some (.int k i)∧i=(h:Int)) (h1:l≤h) (h2:h≤cap) :
 (Instr.sliceBounds isS len cap lo hi none).run P w = .ok (l,h,cap) w:=by
 unfold Instr.sliceBounds;refine (XqJ (x:=cap) (w':=w) rfl).trans ?_;rcases hh with ⟨rfl,rfl⟩ | ⟨k,i,rfl,hi⟩ <;> rcases hl with ⟨rfl,rfl⟩ | ⟨k',i',rfl,a⟩
 ·rfl
 ·exact (XqJ (Xr1 a h1 w)).trans rfl
 ·exact (XqJ (Xr1 hi h2 w)).trans rfl
 ·exact (XqJ (Xr1 hi h2 w)).trans ((XqJ (Xr1 a h1 w)).trans rfl)
theorem Xmo {a:Act} (hf:Xau n a e) {x:Option Operand} {r:Option Int} (h:Xmn e x=some r):(x.map a.eval=none∧r=none) ∨ ∃ k i,x.map a.eval=some (.int k i)∧r=some i:=by
 cases x with
 |none=>simp [Xmn] at h; exact .inl ⟨rfl,h.symm⟩
 |some x =>
  simp only [Xmn] at h;split at h
  ·rename_i k i b; cases h; exact .inr ⟨k,i,by simp [hf.ev b],rfl⟩
  ·cases h
def loV:Option Int→Int | some i=>i | none=>0
def hiV (len:Nat):Option Int→Int | some i=>i | none=>len
theorem Xr4 (hT:XbE P T) {b:Option Addr} {len cap sz l h:Nat} {lo hi:Option Int} {o:Oper} (ho:Xr3 T e o=some (b,len,cap,lo,hi,sz)) (hl:loV lo=l) (hh:hiV len hi=h) (h1:l≤h) (h2:h≤cap) (a:Act) (hf:Xau n a e) (w:World) :
 (execOp a.eval o).run P w = .ok (.value (.slice (XrR b cap l sz) (h - l) (cap - l))) w:=by
 unfold Xr3 at ho;split at ho
 ·rename_i t x lo' s u
  split at ho
  ·rename_i v C D q _ _ _ A B y p f g
   split at ho
   ·rename_i r j
    cases ho
    simp only [execOp,u,hf.ev y];refine (XqJ (x:=(.slice (XrR b cap l r.size) (h - l) (cap - l):Value)) (w':=w) ?_).trans rfl;unfold Instr.sliceAt;refine (XqJ ((hT.row p).underlying w)).trans ?_;simp only
    unfold Instr.slice;refine (XqJ ((hT.row p).underlying w)).trans ?_;simp only
    have z:=Xr2 (P:=P) (isS:=true) (len:=len) (cap:=cap) (l:=l) (h:=h) (lo:=lo'.map a.eval) (hi:=s.map a.eval) w
     (by
      rcases Xmo hf f with ⟨c,d⟩ | ⟨k,i,c,d⟩
      ·subst d; exact .inl ⟨c,by simp [loV] at hl; omega⟩
      ·subst d; exact .inr ⟨k,i,c,hl⟩)
     (by
      rcases Xmo hf g with ⟨c,d⟩ | ⟨k,i,c,d⟩
      ·subst d; exact .inl ⟨c,by simp [hiV] at hh; omega⟩
      ·subst d; exact .inr ⟨k,i,c,hh⟩) h1 h2
    refine (XqJ z).trans ?_;simp only
    exact (XqJ ((hT.row j).sizeOf w)).trans rfl
   ·cases ho
  ·rename_i v m q _ _ _ A B y p f g
   split at ho
   ·rename_i r j
    cases ho
    simp only [execOp,u,hf.ev y];refine (XqJ (x:=(.slice (XrR (some v) len l r.size) (h - l) (len - l):Value)) (w':=w) ?_).trans rfl;unfold Instr.sliceAt;refine (XqJ ((hT.row p).underlying w)).trans ?_;simp only [Instr.sureAddr];refine (XqJ (x:=v) (w':=w) rfl).trans ?_;have z:=Xr2 (P:=P) (isS:=false) (len:=len) (cap:=len) (l:=l) (h:=h) (lo:=lo'.map a.eval) (hi:=s.map a.eval) w
     (by
      rcases Xmo hf f with ⟨c,d⟩ | ⟨k,i,c,d⟩
      ·subst d; exact .inl ⟨c,by simp [loV] at hl; omega⟩
      ·subst d; exact .inr ⟨k,i,c,hl⟩)
     (by
      rcases Xmo hf g with ⟨c,d⟩ | ⟨k,i,c,d⟩
      ·subst d; exact .inl ⟨c,by simp [hiV] at hh; omega⟩
      ·subst d; exact .inr ⟨k,i,c,hh⟩) h1 h2
    refine (XqJ z).trans ?_;simp only
    refine (XqJ ((hT.row j).sizeOf w)).trans ?_;unfold XrR;split <;> rfl
   ·cases ho
  ·cases ho
 ·cases ho
theorem Xay.slice (hT:XbE P T) {b:Option Addr} {len cap sz l h d:Nat} {lo hi:Option Int} {s2:List Item} {e2:Env} (ho:XcY (Xr3 T e) n s e=some ((b,len,cap,lo,hi,sz),d,s')) (hl:loV lo=l) (hh:hiV len hi=h) (h1:l≤h) (h2:h≤cap)
 (ha:Go.Proofs.YtgddpaiandefgaaGreatDoor.adv T n 400 s' ((d,false,.slice (XrR b cap l sz) (h - l) (cap - l))::e)=(s2,e2)) (hg:Xay P f R n ds s2 e2 w):Xay P f R n ds s e w :=
 Xay.val ho (fun _ ho a hf=>Xr4 hT ho hl hh h1 h2 a hf w) (Xay.adv hT 400 ha hg)
theorem Xba.slice (hT:XbE P T) {ops:Array Oper} {ol l':List Oper} {K:Env→Prop} {b:Option Addr} {len cap sz l h d:Nat} {lo hi:Option Int} {l2:List Oper} {e2:Env} (ho:XcZ (Xr3 T e) n ops ol e=some ((b,len,cap,lo,hi,sz),d,l')) (hl:loV lo=l) (hh:hiV len hi=h) (h1:l≤h) (h2:h≤cap)
 (ha:Xb4 T n ops l' ((d,false,.slice (XrR b cap l sz) (h - l) (cap - l))::e)=(l2,e2)) (hg:Xba P n ops w l2 e2 K):Xba P n ops w ol e K :=
 Xba.val hT ho (fun _ ho a w' _ hf=>Xr4 hT ho hl hh h1 h2 a hf w') ha hg
theorem Rd.shift {k:IntKind} {a:Option Addr} {zs:List Int} {cap l m:Nat} (h:Rd k w a zs) (hm:l+m≤zs.length) (hc:zs.length≤cap):Rd k w (XrR a cap l 1) ((zs.drop l).take m):=by
 intro i d;have g:i<m:=by simp at d; omega
 obtain ⟨b,off,rfl,c⟩:=h (l+i) (by omega);have e:¬ cap=l:=by omega
 refine ⟨b,off+l,?_,?_⟩
 ·simp only [XrR,if_neg e,Option.map_some,Nat.mul_one,XbV]
 ·rw [Nat.add_assoc,c]
  congr 2
  have f:i<((zs.drop l).take m).length:=d;rw [Xg1 f,Xg1 (show l+i<zs.length by omega),List.getElem_take,List.getElem_drop]
end
end Go.Proofs.YtgddpaiandefgaaGreatDoor
