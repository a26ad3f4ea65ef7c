/-
  Rule4
-/
import Derived.Test.YtdeihcnepljjaaaGreatDoorQRule3
namespace Go.Proofs.YtdeihcnepljjaaaGreatDoor
open Go.RowKit
section
variable {P:Program}{T:Tab}{f:FuncId}{R:Aim}{Post:Value->World->Prop}{n:Nat}{ds:List Deferred}{s s':List Item}{e e':Env}{w w':World}
theorem Xgp(off:Nat):∀(vs:List Value) (j:Nat) (c:Array Value) (r:List Value),Z4 c.toList (off+j) vs=some r ->
 ((vs.zipIdx j).foldl (λcs (x:Value×Nat)=>cs.setIfInBounds (off+x.2) x.1) c)=r.toArray
 |[],j,c,r,h=>by rw[Vf _ _ _ h];rfl
 |v::vs,j,c,r,h=>by
  obtain⟨b,a⟩:=Vh _ _ _ _ _ h;simp only[List.zipIdx_cons,List.foldl_cons];apply Xgp off vs (j+1)
  rw[Array.toList_setIfInBounds,<-Nat.add_assoc];exact a
theorem Xgr:∀(l:List Value) (i:Nat) (r:List Value),Z4 l i []=some r->i<=l.length
 |l,0,r,h=>Nat.zero_le _
 |x::l,i+1,r,h=>by
  simp only[Z4] at h;split at h
  .rename_i q a;have:=Xgr l i q a;simp;omega
  .cases h
 |[],i+1,r,h=>by simp[Z4] at h
theorem Xgs:∀(l:List Value) (i:Nat) (vs r:List Value),Z4 l i vs=some r->r.length=l.length/\i+vs.length<=l.length
 |l,i,[],r,h=>by
  have a:=Xgr _ _ _ h;have:=Vf _ _ _ h;subst this;exact⟨rfl,by simpa using a⟩
 |l,i,v::vs,r,h=>by
  obtain⟨a,b⟩:=Vh _ _ _ _ _ h;obtain⟨c,d⟩:=Xgs _ _ _ _ b;simp at c d⊢;omega
def Mh(place:Nat->Option (Nat×Nat)):List Value->List (Nat×Value)->Option (List Value)
 |c,[]=>some c
 |c,(i,v)::r=>match place i with
  |some (off,size)=>match Nat.beq (Yz v).length size with
   |true=>match Z4 c off (Yz v) with
    |some c'=>Mh place c' r
    |none=>none
   |false=>none
  |none=>none
theorem Re{place:Nat->Option (Nat×Nat)}:∀(parts:List (Nat×Value)) (c r:List Value),Mh place c parts=some r->Instr.fill place c.toArray parts=some r.toArray
 |[],c,r,h=>by simp[Mh] at h;subst h;rfl
 |(i,v)::parts,c,r,h=>by
  simp only[Mh] at h;split at h
  .rename_i off size d
   split at h
   .rename_i f
    split at h
    .rename_i c' a
     have b:v.cells.size=size:=by rw[<-Nat.eq_of_beq_eq_true f,<-Gf];simp
     obtain⟨g,j⟩:=Xgs _ _ _ _ a;have k:(Yz v).length=v.cells.size:=by rw[<-Gf];simp
     simp only[Instr.fill,d];rw[if_neg (by simp[b];omega)];have:(v.cells.zipIdx.foldl (λcs (x:Value×Nat)=>cs.setIfInBounds (off+x.2) x.1) c.toArray)=c'.toArray:=by
      rw[<-Array.foldl_toList,Array.toList_zipIdx,Gf];exact Xgp off _ 0 _ _ (by simpa using a)
     rw[this];exact Re parts c' r h
    .cases h
   .cases h
  .cases h
def O3(e:Env):List (Nat×Operand)->Option (List (Nat×Value))
 |[]=>some []
 |(i,x)::r=>match ev e x with
  |some v=>match O3 e r with
   |some l=>some ((i,v)::l)
   |none=>none
  |none=>none
theorem Xbu{a:Act}(hf:X7 n a e):∀{ps:List (Nat×Operand)} {l:List (Nat×Value)},O3 e ps=some l->ps.map (λ(i,x)=>(i,a.eval x))=l
 |[],l,h=>by simp[O3] at h;simp[h]
 |(i,x)::r,l,h=>by
  simp only[O3] at h;split at h
  .rename_i v hv
   split at h
   .rename_i l' hl;cases h
    rw[List.map_cons,Xbu hf hl];show(i,a.eval x)::l'=(i,v)::l'
    rw[hf.ev hv]
   .cases h
  .cases h
def R4(T:Tab):List Field->Option (List (Nat×Nat))
 |[]=>some []
 |f::r=>match row T f.type with
  |some q=>match R4 T r with
   |some l=>some ((f.offset,q.size)::l)
   |none=>none
  |none=>none
theorem XfA(hT:Xp P T)(w:World):∀{fs:List Field} {l:List (Nat×Nat)},R4 T fs=some l->(fs.mapM λf=>do pure (f.offset,<-sizeOf f.type):Sem (List (Nat×Nat))).run P w=.ok l w
 |[],l,h=>by simp[R4] at h;subst h;rfl
 |f::r,l,h=>by
  simp only[R4] at h;split at h
  .rename_i q a
   split at h
   .rename_i l' b;cases h
    rw[List.mapM_cons];exact(Xh (x:=(f.offset,q.size)) (w':=w) ((Xh ((hT.row a).sizeOf w)).trans rfl)).trans ((Xh (XfA hT w b)).trans rfl)
   .cases h
  .cases h
def Mw:List (Nat×Nat)->Nat->Option (Nat×Nat)
 |[],_=>none
 |v::_,0=>some v
 |_::r,i+1=>Mw r i
theorem Xfg:∀(l:List (Nat×Nat)) (i:Nat),Mw l i=l[i]?
 |[],_=>by simp[Mw]
 |_::_,0=>by simp[Mw]
 |_::r,i+1=>by simp[Mw,Xfg r i]
def N5(T:Tab)(e:Env)(o:Oper):Option (List Value):=
 match o.op with
 |.build t parts=>match row T t,O3 e parts.toList with
  |some r,some l=>match r.zero,r.und with
   |some z,.struct fs=>match R4 T fs.toList with
    |some pl=>Mh (Mw pl) (Yz z) l
    |none=>none
   |some z,.array _ q=>match row T q with
    |some r2=>Mh (λi=>some (i*r2.size,r2.size)) (Yz z) l
    |none=>none
   |_,_=>none
  |_,_=>none
 |_=>none
theorem Xap(hT:Xp P T){vs:List Value}{o:Oper}(h:N5 T e o=some vs)(a:Act)(hf:X7 n a e)(w:World):(execOp a.eval o).run P w=.ok (.value (.agg vs.toArray)) w:=by
 unfold N5 at h;split at h
 .rename_i t parts d
  split at h
  .rename_i r l hr v
   have b:(parts.map λ(i,x)=>(i,a.eval x)).toList=l:=by rw[Array.toList_map];exact Xbu hf v
   have g:∀z:Value,z.cells=(Yz z).toArray:=λz=>by rw[<-Gf]
   split at h
   .rename_i z fs j k
    split at h
    .rename_i pl p
     simp only[execOp,d];refine(Xh (x:=(.agg vs.toArray:Value)) (w':=w) ?_).trans rfl;unfold Instr.build;refine(Xh ((hT.row hr).zero j w)).trans ((Xh (by rw[(hT.row hr).underlying w,k])).trans ?_);simp only
     have hm:(fs.mapM λf=>do pure (f.offset,<-sizeOf f.type):Sem (Array (Nat×Nat))).run P w=.ok pl.toArray w:=by
      rw[Array.mapM_eq_mapM_toList];simp only[Sem.run_map,XfA hT w p,Result.andThen_ok]
     refine(Xh hm).trans ?_;have c:=Re _ _ _ h;have s:(λi=>pl.toArray[i]?)=Mw pl:=by funext i;rw[Xfg];simp
     rw[b,g,s,c];rfl
    .cases h
   .rename_i z m q j k
    split at h
    .rename_i y u
     simp only[execOp,d];refine(Xh (x:=(.agg vs.toArray:Value)) (w':=w) ?_).trans rfl;unfold Instr.build;refine(Xh ((hT.row hr).zero j w)).trans ((Xh (by rw[(hT.row hr).underlying w,k])).trans ?_);simp only
     refine(Xh ((hT.row u).sizeOf w)).trans ?_;rw[b,g,Re _ _ _ h];rfl
    .cases h
   .cases h
  .cases h
 .cases h
theorem Xa.build(hT:Xp P T){vs:List Value}{d:Nat}{s2:List Item}{e2:Env}(h:Yy (N5 T e) n s e=some (vs,d,s'))(ha:Go.Proofs.YtdeihcnepljjaaaGreatDoor.adv T n 400 s' ((d,false,.agg vs.toArray)::e)=(s2,e2))(hg:Xa P f R n ds s2 e2 w):Xa P f R n ds s e w:=
 Xa.val h (λ_ b a hf=>Xap hT b a hf w) (Xa.adv hT 400 ha hg)
theorem Xk.build(hT:Xp P T){ops:Array Oper}{l l':List Oper}{K:Env->Prop}{vs:List Value}{d:Nat}{l2:List Oper}{e2:Env}(h:Iz (N5 T e) n ops l e=some (vs,d,l'))(ha:E3 T n ops l' ((d,false,.agg vs.toArray)::e)=(l2,e2))(hg:Xk P n ops w l2 e2 K):Xk P n ops w l e K:=
 Xk.val hT h (λ_ b a w' _ hf=>Xap hT b a hf w') ha hg
def Y3(z:List Value):Nat->List Value
 |0=>[]
 |m+1=>z++Y3 z m
theorem XhI(z:List Value):∀m,(Y3 z m).length=m*z.length
 |0=>by simp[Y3]
 |m+1=>by rw[Y3,List.length_append,XhI z m,Nat.succ_mul,Nat.add_comm]
theorem XhF(z:List Value)(hz:0<z.length):∀(m i:Nat),i<m*z.length->(Y3 z m)[i]?=z[i%z.length]?
 |0,i,h=>by simp at h
 |m+1,i,h=>by
  rw[Y3];by_cases hi:i<z.length
  .rw[List.getElem?_append_left hi,Nat.mod_eq_of_lt hi]
  .rw[List.getElem?_append_right (by omega),XhF z hz m (i-z.length) (by rw[Nat.succ_mul] at h;omega)];rw[<-Nat.mod_eq_sub_mod (by omega)]
theorem XhE(z:Array Value)(m:Nat)(hz:0<z.size):((Array.range (m*z.size)).map λi=>z[i%z.size]!)=(Y3 z.toList m).toArray:=by
 apply Array.ext'
 apply List.ext_getElem?
 intro i;rw[Array.toList_map,Array.toList_range,List.getElem?_map];by_cases a:i<m*z.size
 .rw[List.getElem?_range a,Option.map_some];simp only
  rw[XhF z.toList (by simpa using hz) m i (by simpa using a)];have b:i%z.size<z.size:=Nat.mod_lt _ hz;simp[b]
 .rw[List.getElem?_eq_none (by simp;omega),Option.map_none,List.getElem?_eq_none (by rw[XhI];simp;omega)]
def Tl(T:Tab)(e:Env)(o:Oper):Option (List Value×Nat×Nat):=
 match o.op with
 |.buildSlice t len parts=>match row T t,O3 e parts.toList with
  |some {und:=.slice q,..},some l=>match row T q with
   |some r2=>match r2.zero with
    |some z=>match Nat.beq (Yz z).length r2.size,Nat.blt 0 r2.size,Nat.ble (len*r2.size) 16777216 with
     |true,true,true=>match Mh (λi=>some (i*r2.size,r2.size)) (Y3 (Yz z) len) l with
      |some vs=>some (vs,q,len)
      |none=>none
     |_,_,_=>none
    |none=>none
   |none=>none
  |_,_=>none
 |_=>none
theorem Ul{t:Nat}{l:List Value}:(newRow t l.toArray).run P w=.ok ⟨w.heap.size,0,none⟩ {w with heap:=w.heap.push (.cells l.toArray t)}:=rfl
theorem XdC(hT:Xp P T){vs:List Value}{q len:Nat}{o:Oper}(h:Tl T e o=some (vs,q,len))(a:Act)(hf:X7 n a e)(w:World):(execOp a.eval o).run P w=.ok (.value (.slice (some ⟨w.heap.size,0,none⟩) len len)) {w with heap:=w.heap.push (.cells vs.toArray q)}:=by
 unfold Tl at h;split at h
 .rename_i t y parts m
  split at h
  .rename_i H _ _ _ l hr A
   split at h
   .rename_i c g
    split at h
    .rename_i z B
     split at h
     .rename_i C D p
      split at h
      .rename_i F d
       cases h
       have b:(parts.map λ(i,x)=>(i,a.eval x)).toList=l:=by rw[Array.toList_map];exact Xbu hf A
       have r:=Nat.eq_of_beq_eq_true C;have G:0<c.size:=by simpa [Nat.blt_eq] using D
       have E:=Nat.le_of_ble_eq_true p;have s:z.cells.size=c.size:=by rw[<-r,<-Gf];simp
       simp only[execOp,m];refine(Xh (x:=(.slice (some ⟨w.heap.size,0,none⟩) len len:Value)) (w':={w with heap:=w.heap.push (.cells vs.toArray q)}) ?_).trans rfl;unfold Instr.buildSlice;refine(Xh ((hT.row hr).underlying w)).trans ?_;simp only
       refine(Xh ((hT.row g).sizeOf w)).trans ?_;rw[if_neg (by omega)];have u:∀Z:Array Value,(Z=z.cells\/(len*c.size=0/\Z=#[]))->(Array.range (len*c.size)).map (λi=>Z[i%Z.size]!)=(Y3 (Yz z) len).toArray:=by
        intro Z j;rcases j with rfl|⟨v,rfl⟩
        .rw[<-s,XhE _ _ (by omega),Gf]
        .have:len=0:=by
          rcases Nat.mul_eq_zero.1 v with h|h
          .exact h
          .omega
         subst this;simp[Y3]
       have key:∀Z:Array Value,(Z=z.cells\/(len*c.size=0/\Z=#[])) -> ∀k,Instr.fill k ((Array.range (len*c.size)).map (λi=>Z[i%Z.size]!)) l=Instr.fill k (Y3 (Yz z) len).toArray l:=λZ j k=>by rw[u Z j]
       by_cases f:len*c.size=0
       .rw[if_pos f];refine(Xh (x:=(#[]:Array Value)) (w':=w) rfl).trans ?_;simp only[b];rw[key #[] (.inr ⟨f,rfl⟩),Re _ _ _ d];exact(Xh Ul).trans rfl
       .rw[if_neg f];refine(Xh ((hT.row g).zero B w)).trans ((Xh (x:=z.cells) (w':=w) rfl).trans ?_);simp only[b];rw[key z.cells (.inl rfl),Re _ _ _ d];exact(Xh Ul).trans rfl
      .cases h
     .cases h
    .cases h
   .cases h
  .cases h
 .cases h
theorem Xa.buildSlice(hT:Xp P T){vs:List Value}{q len d:Nat}(h:Yy (Tl T e) n s e=some ((vs,q,len),d,s'))(hg:∀b w1,b=w.heap.size->w1.heap[b]?=some (.cells vs.toArray q (0,0))->Xc Xe w w1->w1.heap.size=w.heap.size+1->Xa P f R n ds s' ((d,false,.slice (some ⟨b,0,none⟩) len len)::e) w1):Xa P f R n ds s e w:=
 Xa.val h (λ_ c a hf=>XdC hT c a hf w) (hg _ _ rfl (by simp) (E4 _ _) (by simp))
def Ug(T:Tab)(e:Env)(o:Oper):Option (List Value×Nat×Nat×Int×Int):=
 match o.op with
 |.makeSlice t x y=>match ev e x,ev e y,row T t with
  |some (.int _ l),some (.int _ c),some {und:=.slice q,..}=>match row T q with
   |some r2=>match r2.zero with
    |some z=>match Nat.beq (Yz z).length r2.size,Nat.blt 0 r2.size with
     |true,true=>some (Yz z,q,r2.bytes,l,c)
     |_,_=>none
    |none=>none
   |none=>none
  |_,_,_=>none
 |_=>none
theorem H6.info{t:Nat}{r:Df}(h:H6 P t r)(w:World):∃i,(typeInfo t).run P w=.ok i w/\i.bytes=r.bytes/\i.size=r.size:=by
 have a:=h.2;cases b:P.info? t with
 |none=>rw[b] at a;cases a
 |some i=>
  rw[b] at a;simp at a;exact⟨i,by simp[Go.typeInfo,Go.program,Sem.run,bind,Sem.bind,b,pure],a.2.1,a.1⟩
theorem Xe0(hT:Xp P T){z:List Value}{q by':Nat}{l c:Int}{m k:Nat}{o:Oper}(h:Ug T e o=some (z,q,by',l,c))(hl:l=m)(hc:c=k)(hmk:m<=k)(hb:by'*k<=140737488355328)(hk:k<=9223372036854775807)(a:Act)(hf:X7 n a e)(w:World):(execOp a.eval o).run P w=.ok (.value (.slice (some ⟨w.heap.size,0,none⟩) m k)) {w with heap:=w.heap.push (.cells (Y3 z k).toArray q)}:=by
 unfold Ug at h;split at h
 .rename_i t x y s
  split at h
  .rename_i M N O Q R _ _ _ D E hr
   split at h
   .rename_i d f
    split at h
    .rename_i b F
     split at h
     .rename_i G H
      cases h
      subst hl;subst hc;obtain⟨i,I,u,J⟩:=(hT.row f).info w;have v:=Nat.eq_of_beq_eq_true G;have K:0<d.size:=by simpa [Nat.blt_eq] using H
      have A:b.cells.size=d.size:=by rw[<-v,<-Gf];simp
      simp only[execOp,s,hf.ev D,hf.ev E];refine(Xh (x:=(.slice (some ⟨w.heap.size,0,none⟩) m k:Value)) (w':={w with heap:=w.heap.push (.cells (Y3 (Yz b) k).toArray q)}) ?_).trans rfl;unfold Instr.makeSlice;refine(Xh ((hT.row hr).underlying w)).trans ?_;simp only[asInt,asIntOf];refine(Xh (x:=(m:Int)) (w':=w) rfl).trans ((Xh (x:=(k:Int)) (w':=w) rfl).trans ((Xh I).trans ?_));have B:IntKind.i64.wrap (m:Int)=m:=w64 (by omega);have C:IntKind.i64.wrap (k:Int)=k:=w64 (by omega);have L:((i.bytes:Int)*(k:Int))<=140737488355328:=by
       rw[u,<-Int.natCast_mul];generalize d.bytes*k=p at hb⊢
       omega
      have j:((decide ((k:Int)<0)||decide ((i.bytes:Int)*(k:Int)>2^48))||decide ((m:Int)<0)||decide ((m:Int)>(k:Int)))=false:=by
       rw[decide_eq_false (by omega),decide_eq_false (by omega),decide_eq_false (by omega),decide_eq_false (by omega)];rfl
      simp only[B,C];rw[if_neg (by rw[j];simp)];have r:(askRoom ((k:Int).toNat*i.bytes)).run P w=.ok () w:=by
       unfold askRoom;split
       .simp[Go.mark,Sem.run]
       .rfl
      refine(Xh r).trans ((Xh ((hT.row f).sizeOf w)).trans ?_);simp only[Int.toNat_natCast];by_cases g:k*d.size=0
      .rw[if_pos g];have:k=0:=by
        rcases Nat.mul_eq_zero.1 g with h|h
        .exact h
        .omega
       subst this;refine(Xh (x:=(#[]:Array Value)) (w':=w) rfl).trans ?_;have:(Array.range (0*d.size)).map (λi=>(#[]:Array Value)[i%(#[]:Array Value).size]!)=(Y3 (Yz b) 0).toArray:=by simp[Y3]
       rw[this];exact(Xh Ul).trans rfl
      .rw[if_neg g];refine(Xh ((hT.row f).zero F w)).trans ((Xh (x:=b.cells) (w':=w) rfl).trans ?_);have:(Array.range (k*d.size)).map (λi=>b.cells[i%b.cells.size]!)=(Y3 (Yz b) k).toArray:=by
        rw[<-A,XhE _ _ (by omega),Gf]
       rw[this];exact(Xh Ul).trans rfl
     .cases h
    .cases h
   .cases h
  .cases h
 .cases h
theorem Xa.make(hT:Xp P T){z:List Value}{q by' d:Nat}{l c:Int}{m k:Nat}(h:Yy (Ug T e) n s e=some ((z,q,by',l,c),d,s'))(hl:l=m)(hc:c=k)(hmk:m<=k)(hb:by'*k<=140737488355328)(hk:k<=9223372036854775807)(hg:∀b w1,b=w.heap.size->w1.heap[b]?=some (.cells (Y3 z k).toArray q (0,0))->Xc Xe w w1->w1.heap.size=w.heap.size+1->Xa P f R n ds s' ((d,false,.slice (some ⟨b,0,none⟩) m k)::e) w1):Xa P f R n ds s e w:=
 Xa.val h (λ_ g a hf=>Xe0 hT g hl hc hmk hb hk a hf w) (hg _ _ rfl (by simp) (E4 _ _) (by simp))
theorem Xen{zs:List Int}{k:Nat}(h:k<zs.length):zs.getD k 0=zs[k]:=by simp[h]
def Rx(e:Env):Option Operand->Option (Option Int)
 |none=>some none
 |some x=>match ev e x with
  |some (.int _ i)=>some (some i)
  |_=>none
def Vk(T:Tab)(e:Env)(o:Oper):Option (Option Addr×Nat×Nat×Option Int×Option Int×Nat):=
 match o.op with
 |.slice t x lo hi none=>match ev e x,row T t,Rx e lo,Rx e hi with
  |some (.slice a len cap),some {und:=.slice q,..},some l,some h=>match row T q with
   |some r=>some (a,len,cap,l,h,r.size)
   |none=>none
  |some (.pointer (some a)),some {und:=.array m q,..},some l,some h=>match row T q with
   |some r=>some (some a,m,m,l,h,r.size)
   |none=>none
  |_,_,_,_=>none
 |_=>none
def Aa(a:Option Addr)(cap l k:Nat):Option Addr:=if cap=l then a else a.map (·.add (l*k))
theorem Vj{k:IntKind}{i:Int}{y j:Nat}{c:BoundsCode}(hi:i=j)(hj:j<=y)(w:World):(Instr.sliceBound (.int k i) y c).run P w=.ok j w:=by
 subst hi;unfold Instr.sliceBound;refine(Xh (x:=(k,(j:Int))) (w':=w) rfl).trans ?_;simp only
 rw[if_pos ⟨by omega,by omega⟩];rfl
theorem XgC{isS:Bool}{len cap l h:Nat}{lo hi:Option Value}(w:World)(hl:(lo=none/\l=0)\/∃k i,lo=some (.int k i)/\i=(l:Int))(hh:(hi=none/\h=len)\/∃k i,hi=some (.int k i)/\i=(h:Int))(h1:l<=h)(h2:h<=cap):(Instr.sliceBounds isS len cap lo hi none).run P w=.ok (l,h,cap) w:=by
 unfold Instr.sliceBounds;refine(Xh (x:=cap) (w':=w) rfl).trans ?_;rcases hh with⟨rfl,rfl⟩|⟨k,i,rfl,hi⟩ <;> rcases hl with⟨rfl,rfl⟩|⟨k',i',rfl,a⟩
 .rfl
 .exact(Xh (Vj a h1 w)).trans rfl
 .exact(Xh (Vj hi h2 w)).trans rfl
 .exact(Xh (Vj hi h2 w)).trans ((Xh (Vj a h1 w)).trans rfl)
theorem Um{a:Act}(hf:X7 n a e){x:Option Operand}{r:Option Int}(h:Rx e x=some r):(x.map a.eval=none/\r=none)\/∃k i,x.map a.eval=some (.int k i)/\r=some i:=by
 cases x with
 |none=>simp[Rx] at h;exact .inl ⟨rfl,h.symm⟩
 |some x=>
  simp only[Rx] at h;split at h
  .rename_i k i b;cases h;exact .inr ⟨k,i,by simp[hf.ev b],rfl⟩
  .cases h
def Dw:Option Int->Int|some i=>i|none=>0
def Ds(len:Nat):Option Int->Int|some i=>i|none=>len
theorem XgD(hT:Xp P T){b:Option Addr}{len cap sz l h:Nat}{lo hi:Option Int}{o:Oper}(ho:Vk T e o=some (b,len,cap,lo,hi,sz))(hl:Dw lo=l)(hh:Ds len hi=h)(h1:l<=h)(h2:h<=cap)(a:Act)(hf:X7 n a e)(w:World):(execOp a.eval o).run P w=.ok (.value (.slice (Aa b cap l sz) (h-l) (cap-l))) w:=by
 unfold Vk at ho;split at ho
 .rename_i t x lo' p s
  split at ho
  .rename_i u B C q _ _ _ z A v hr f g
   split at ho
   .rename_i r j
    cases ho
    simp only[execOp,s,hf.ev v];refine(Xh (x:=(.slice (Aa b cap l r.size) (h-l) (cap-l):Value)) (w':=w) ?_).trans rfl;unfold Instr.sliceAt;refine(Xh ((hT.row hr).underlying w)).trans ?_;simp only
    unfold Instr.slice;refine(Xh ((hT.row hr).underlying w)).trans ?_;simp only
    have y:=XgC (P:=P) (isS:=true) (len:=len) (cap:=cap) (l:=l) (h:=h) (lo:=lo'.map a.eval) (hi:=p.map a.eval) w
     (by
      rcases Um hf f with⟨c,d⟩|⟨k,i,c,d⟩
      .subst d;exact .inl ⟨c,by simp[Dw] at hl;omega⟩
      .subst d;exact .inr ⟨k,i,c,hl⟩)
     (by
      rcases Um hf g with⟨c,d⟩|⟨k,i,c,d⟩
      .subst d;exact .inl ⟨c,by simp[Ds] at hh;omega⟩
      .subst d;exact .inr ⟨k,i,c,hh⟩) h1 h2
    refine(Xh y).trans ?_;simp only
    exact(Xh ((hT.row j).sizeOf w)).trans rfl
   .cases ho
  .rename_i u m q _ _ _ z A v hr f g
   split at ho
   .rename_i r j
    cases ho
    simp only[execOp,s,hf.ev v];refine(Xh (x:=(.slice (Aa (some u) len l r.size) (h-l) (len-l):Value)) (w':=w) ?_).trans rfl;unfold Instr.sliceAt;refine(Xh ((hT.row hr).underlying w)).trans ?_;simp only[Instr.sureAddr];refine(Xh (x:=u) (w':=w) rfl).trans ?_;have y:=XgC (P:=P) (isS:=false) (len:=len) (cap:=len) (l:=l) (h:=h) (lo:=lo'.map a.eval) (hi:=p.map a.eval) w
     (by
      rcases Um hf f with⟨c,d⟩|⟨k,i,c,d⟩
      .subst d;exact .inl ⟨c,by simp[Dw] at hl;omega⟩
      .subst d;exact .inr ⟨k,i,c,hl⟩)
     (by
      rcases Um hf g with⟨c,d⟩|⟨k,i,c,d⟩
      .subst d;exact .inl ⟨c,by simp[Ds] at hh;omega⟩
      .subst d;exact .inr ⟨k,i,c,hh⟩) h1 h2
    refine(Xh y).trans ?_;simp only
    refine(Xh ((hT.row j).sizeOf w)).trans ?_;unfold Aa;split <;> rfl
   .cases ho
  .cases ho
 .cases ho
theorem Xa.slice(hT:Xp P T){b:Option Addr}{len cap sz l h d:Nat}{lo hi:Option Int}{s2:List Item}{e2:Env}(ho:Yy (Vk T e) n s e=some ((b,len,cap,lo,hi,sz),d,s'))(hl:Dw lo=l)(hh:Ds len hi=h)(h1:l<=h)(h2:h<=cap)(ha:Go.Proofs.YtdeihcnepljjaaaGreatDoor.adv T n 400 s' ((d,false,.slice (Aa b cap l sz) (h-l) (cap-l))::e)=(s2,e2))(hg:Xa P f R n ds s2 e2 w):Xa P f R n ds s e w:=
 Xa.val ho (λ_ ho a hf=>XgD hT ho hl hh h1 h2 a hf w) (Xa.adv hT 400 ha hg)
theorem Rd.shift{k:IntKind}{a:Option Addr}{zs:List Int}{cap l m:Nat}(h:Rd k w a zs)(hm:l+m<=zs.length)(hc:zs.length<=cap):Rd k w (Aa a cap l 1) ((zs.drop l).take m):=by
 intro i d;have j:i<m:=by simp at d;omega
 obtain⟨b,off,rfl,c⟩:=h (l+i) (by omega);have f:¬cap=l:=by omega
 refine⟨b,off+l,?_,?_⟩
 .simp only[Aa,if_neg f,Option.map_some,Nat.mul_one,Cr]
 .rw[Nat.add_assoc,c]
  congr 2
  have g:=d;rw[Xen g,Xen (show l+i<zs.length by omega),List.getElem_take,List.getElem_drop]
end
end Go.Proofs.YtdeihcnepljjaaaGreatDoor
