/-
  Rule4
-/
import Derived.Test.YtdeihcnepljjaaaGreatDoorQRule3
namespace Go.Proofs.YtdeihcnepljjaaaGreatDoor
open Go.RowKit
section
variable {P:Program}{T:Tab}{f:FuncId}{R:Aim}{Post:Value->World->Prop}{n:Nat}{ds:List Deferred}{s s':List Item}{e e':Env}{w w':World}
theorem Xg6(off:Nat):∀(vs:List Value) (j:Nat) (c:Array Value) (r:List Value),Ya c.toList (off+j) vs=some r ->
 ((vs.zipIdx j).foldl (λcs (x:Value×Nat)=>cs.setIfInBounds (off+x.2) x.1) c)=r.toArray
 |[],j,c,r,h=>by rw[Wv _ _ _ h];rfl
 |v::vs,j,c,r,h=>by
  obtain⟨b,a⟩:=Wx _ _ _ _ _ h;simp only[List.zipIdx_cons,List.foldl_cons];apply Xg6 off vs (j+1)
  rw[Array.toList_setIfInBounds,<-Nat.add_assoc];exact a
theorem Xg8:∀(l:List Value) (i:Nat) (r:List Value),Ya l i []=some r->i<=l.length
 |l,0,r,h=>Nat.zero_le _
 |x::l,i+1,r,h=>by
  simp only[Ya] at h;split at h
  .rename_i q a;have:=Xg8 l i q a;simp;omega
  .cases h
 |[],i+1,r,h=>by simp[Ya] at h
theorem Xg9:∀(l:List Value) (i:Nat) (vs r:List Value),Ya l i vs=some r->r.length=l.length/\i+vs.length<=l.length
 |l,i,[],r,h=>by
  have a:=Xg8 _ _ _ h;have:=Wv _ _ _ h;subst this;exact⟨rfl,xU a⟩
 |l,i,v::vs,r,h=>by
  obtain⟨a,b⟩:=Wx _ _ _ _ _ h;obtain⟨c,d⟩:=Xg9 _ _ _ _ b;simp at c d⊢;omega
def Mx(place:Nat->Option (Nat×Nat)):List Value->List (Nat×Value)->Option (List Value)
 |c,[]=>some c
 |c,(i,v)::r=>match place i with
  |some (off,size)=>match Nat.beq (Y8 v).length size with
   |true=>match Ya c off (Y8 v) with
    |some c'=>Mx place c' r
    |none=>none
   |false=>none
  |none=>none
theorem R2{place:Nat->Option (Nat×Nat)}:∀(parts:List (Nat×Value)) (c r:List Value),Mx place c parts=some r->Instr.fill place c.toArray parts=some r.toArray
 |[],c,r,h=>by simp[Mx] at h;subst h;rfl
 |(i,v)::parts,c,r,h=>by
  simp only[Mx] at h;split at h
  .rename_i off size d
   split at h
   .rename_i f
    split at h
    .rename_i c' a
     have b:v.cells.size=size:=by rw[<-Nat.eq_of_beq_eq_true f,<-Gl];simp
     obtain⟨g,j⟩:=Xg9 _ _ _ _ a;have k:(Y8 v).length=v.cells.size:=by rw[<-Gl];simp
     simp only[Instr.fill,d];rw[if_neg (by simp[b];omega)];have:(v.cells.zipIdx.foldl (λcs (x:Value×Nat)=>cs.setIfInBounds (off+x.2) x.1) c.toArray)=c'.toArray:=by
      rw[<-Array.foldl_toList,Array.toList_zipIdx,Gl];exact Xg6 off _ 0 _ _ (xU a)
     rw[this];exact R2 parts c' r h
    .cases h
   .cases h
  .cases h
def Pn(e:Env):List (Nat×Operand)->Option (List (Nat×Value))
 |[]=>some []
 |(i,x)::r=>match ev e x with
  |some v=>match Pn e r with
   |some l=>some ((i,v)::l)
   |none=>none
  |none=>none
theorem XbY{a:Act}(hf:Za n a e):∀{ps:List (Nat×Operand)} {l:List (Nat×Value)},Pn e ps=some l->ps.map (λ(i,x)=>(i,a.eval x))=l
 |[],l,h=>by simp[Pn] at h;simp[h]
 |(i,x)::r,l,h=>by
  simp only[Pn] at h;split at h
  .rename_i v hv
   split at h
   .rename_i l' hl;cases h
    rw[List.map_cons,XbY hf hl];show(i,a.eval x)::l'=(i,v)::l'
    rw[hf.ev hv]
   .cases h
  .cases h
def Sv(T:Tab):List Field->Option (List (Nat×Nat))
 |[]=>some []
 |f::r=>match row T f.type with
  |some q=>match Sv T r with
   |some l=>some ((f.offset,q.size)::l)
   |none=>none
  |none=>none
theorem Xga(hT:Xp P T)(w:World):∀{fs:List Field} {l:List (Nat×Nat)},Sv T fs=some l->(fs.mapM λf=>do pure (f.offset,<-sizeOf f.type):Sem (List (Nat×Nat))).run P w=.ok l w
 |[],l,h=>by simp[Sv] at h;subst h;rfl
 |f::r,l,h=>by
  simp only[Sv] at h;split at h
  .rename_i q a
   split at h
   .rename_i l' b;cases h
    rw[List.mapM_cons];exact(Xh (x:=(f.offset,q.size)) (w':=w) ((Xh ((hT.row a).sizeOf w)).trans rfl)).trans ((Xh (Xga hT w b)).trans rfl)
   .cases h
  .cases h
def Nm:List (Nat×Nat)->Nat->Option (Nat×Nat)
 |[],_=>none
 |v::_,0=>some v
 |_::r,i+1=>Nm r i
theorem XfP:∀(l:List (Nat×Nat)) (i:Nat),Nm l i=l[i]?
 |[],_=>by simp[Nm]
 |_::_,0=>by simp[Nm]
 |_::r,i+1=>by simp[Nm,XfP r i]
def On(T:Tab)(e:Env)(o:Oper):Option (List Value):=
 match o.op with
 |.build t parts=>match row T t,Pn e parts.toList with
  |some r,some l=>match r.zero,r.und with
   |some z,.struct fs=>match Sv T fs.toList with
    |some pl=>Mx (Nm pl) (Y8 z) l
    |none=>none
   |some z,.array _ q=>match row T q with
    |some r2=>Mx (λi=>some (i*r2.size,r2.size)) (Y8 z) l
    |none=>none
   |_,_=>none
  |_,_=>none
 |_=>none
theorem XaW(hT:Xp P T){vs:List Value}{o:Oper}(h:On T e o=some vs)(a:Act)(hf:Za n a e)(w:World):(execOp a.eval o).run P w=.ok (.value (.agg vs.toArray)) w:=by
 unfold On at h;split at h
 .rename_i t parts d
  split at h
  .rename_i r l hr v
   have b:(parts.map λ(i,x)=>(i,a.eval x)).toList=l:=by rw[Array.toList_map];exact XbY hf v
   have g:∀z:Value,z.cells=(Y8 z).toArray:=λz=>by rw[<-Gl]
   split at h
   .rename_i z fs j k
    split at h
    .rename_i pl p
     simp only[execOp,d];refine(Xh (x:=(.agg vs.toArray:Value)) (w':=w) ?_).trans rfl;unfold Instr.build;refine(Xh ((hT.row hr).zero j w)).trans ((Xh (by rw[(hT.row hr).underlying w,k])).trans ?_);simp only
     have hm:(fs.mapM λf=>do pure (f.offset,<-sizeOf f.type):Sem (Array (Nat×Nat))).run P w=.ok pl.toArray w:=by
      rw[Array.mapM_eq_mapM_toList];simp only[Sem.run_map,Xga hT w p,Result.andThen_ok]
     refine(Xh hm).trans ?_;have c:=R2 _ _ _ h;have s:(λi=>pl.toArray[i]?)=Nm pl:=by funext i;rw[XfP];simp
     rw[b,g,s,c];rfl
    .cases h
   .rename_i z m q j k
    split at h
    .rename_i y u
     simp only[execOp,d];refine(Xh (x:=(.agg vs.toArray:Value)) (w':=w) ?_).trans rfl;unfold Instr.build;refine(Xh ((hT.row hr).zero j w)).trans ((Xh (by rw[(hT.row hr).underlying w,k])).trans ?_);simp only
     refine(Xh ((hT.row u).sizeOf w)).trans ?_;rw[b,g,R2 _ _ _ h];rfl
    .cases h
   .cases h
  .cases h
 .cases h
theorem Xa.build(hT:Xp P T){vs:List Value}{d:Nat}{s2:List Item}{e2:Env}(h:Qb (On T e) n s e=some (vs,d,s'))(ha:Go.Proofs.YtdeihcnepljjaaaGreatDoor.adv T n 400 s' ((d,false,.agg vs.toArray)::e)=(s2,e2))(hg:Xa P f R n ds s2 e2 w):Xa P f R n ds s e w:=
 Xa.val h (λ_ b a hf=>XaW hT b a hf w) (Xa.adv hT 400 ha hg)
theorem Xk.build(hT:Xp P T){ops:Array Oper}{l l':List Oper}{K:Env->Prop}{vs:List Value}{d:Nat}{l2:List Oper}{e2:Env}(h:I6 (On T e) n ops l e=some (vs,d,l'))(ha:E4 T n ops l' ((d,false,.agg vs.toArray)::e)=(l2,e2))(hg:Xk P n ops w l2 e2 K):Xk P n ops w l e K:=
 Xk.val hT h (λ_ b a w' _ hf=>XaW hT b a hf w') ha hg
def Qa(z:List Value):Nat->List Value
 |0=>[]
 |m+1=>z++Qa z m
theorem Xiu(z:List Value):∀m,(Qa z m).length=m*z.length
 |0=>by simp[Qa]
 |m+1=>by rw[Qa,List.length_append,Xiu z m,Nat.succ_mul,Nat.add_comm]
theorem Xir(z:List Value)(hz:0<z.length):∀(m i:Nat),i<m*z.length->(Qa z m)[i]?=z[i%z.length]?
 |0,i,h=>by simp at h
 |m+1,i,h=>by
  rw[Qa];by_cases hi:i<z.length
  .rw[List.getElem?_append_left hi,Nat.mod_eq_of_lt hi]
  .rw[List.getElem?_append_right X,Xir z hz m (i-z.length) (by rw[Nat.succ_mul] at h;omega)];rw[<-Nat.mod_eq_sub_mod X]
theorem Xiq(z:Array Value)(m:Nat)(hz:0<z.size):((Array.range (m*z.size)).map λi=>z[i%z.size]!)=(Qa z.toList m).toArray:=by
 apply Array.ext'
 apply List.ext_getElem?
 intro i;rw[Array.toList_map,Array.toList_range,List.getElem?_map];by_cases hi:i<m*z.size
 .rw[List.getElem?_range hi,Option.map_some];simp only
  rw[Xir z.toList (xU hz) m i (xU hi)];have a:i%z.size<z.size:=Nat.mod_lt _ hz;simp[a]
 .rw[List.getElem?_eq_none xQ,Option.map_none,List.getElem?_eq_none (by rw[Xiu];simp;omega)]
def Ua(T:Tab)(e:Env)(o:Oper):Option (List Value×Nat×Nat):=
 match o.op with
 |.buildSlice t len parts=>match row T t,Pn e parts.toList with
  |some {und:=.slice q,..},some l=>match row T q with
   |some r2=>match r2.zero with
    |some z=>match Nat.beq (Y8 z).length r2.size,Nat.blt 0 r2.size,Nat.ble (len*r2.size) 16777216 with
     |true,true,true=>match Mx (λi=>some (i*r2.size,r2.size)) (Qa (Y8 z) len) l with
      |some vs=>some (vs,q,len)
      |none=>none
     |_,_,_=>none
    |none=>none
   |none=>none
  |_,_=>none
 |_=>none
theorem Vi{t:Nat}{l:List Value}:(newRow t l.toArray).run P w=.ok ⟨w.heap.size,0,none⟩ {w with heap:=w.heap.push (.cells l.toArray t)}:=rfl
theorem Xd6(hT:Xp P T){vs:List Value}{q len:Nat}{o:Oper}(h:Ua T e o=some (vs,q,len))(a:Act)(hf:Za n a e)(w:World):(execOp a.eval o).run P w=.ok (.value (.slice (some ⟨w.heap.size,0,none⟩) len len)) {w with heap:=w.heap.push (.cells vs.toArray q)}:=by
 unfold Ua at h;split at h
 .rename_i t y parts m
  split at h
  .rename_i H _ _ _ l hr A
   split at h
   .rename_i c g
    split at h
    .rename_i z B
     split at h
     .rename_i C D p
      split at h
      .rename_i F d
       cases h
       have b:(parts.map λ(i,x)=>(i,a.eval x)).toList=l:=by rw[Array.toList_map];exact XbY hf A
       have r:=Nat.eq_of_beq_eq_true C;have G:0<c.size:=by simpa [Nat.blt_eq] using D
       have E:=Nat.le_of_ble_eq_true p;have s:z.cells.size=c.size:=by rw[<-r,<-Gl];simp
       simp only[execOp,m];refine(Xh (x:=(.slice (some ⟨w.heap.size,0,none⟩) len len:Value)) (w':={w with heap:=w.heap.push (.cells vs.toArray q)}) ?_).trans rfl;unfold Instr.buildSlice;refine(Xh ((hT.row hr).underlying w)).trans ?_;simp only
       refine(Xh ((hT.row g).sizeOf w)).trans ?_;rw[if_neg X];have u:∀Z:Array Value,(Z=z.cells\/(len*c.size=0/\Z=#[]))->(Array.range (len*c.size)).map (λi=>Z[i%Z.size]!)=(Qa (Y8 z) len).toArray:=by
        intro Z j;rcases j with rfl|⟨v,rfl⟩
        .rw[<-s,Xiq _ _ X,Gl]
        .have:len=0:=by
          rcases Nat.mul_eq_zero.1 v with h|h
          .exact h
          .omega
         subst this;simp[Qa]
       have key:∀Z:Array Value,(Z=z.cells\/(len*c.size=0/\Z=#[])) -> ∀k,Instr.fill k ((Array.range (len*c.size)).map (λi=>Z[i%Z.size]!)) l=Instr.fill k (Qa (Y8 z) len).toArray l:=λZ j k=>by rw[u Z j]
       by_cases f:len*c.size=0
       .rw[if_pos f];refine(Xh (x:=(#[]:Array Value)) (w':=w) rfl).trans ?_;simp only[b];rw[key #[] (.inr ⟨f,rfl⟩),R2 _ _ _ d];exact(Xh Vi).trans rfl
       .rw[if_neg f];refine(Xh ((hT.row g).zero B w)).trans ((Xh (x:=z.cells) (w':=w) rfl).trans ?_);simp only[b];rw[key z.cells (.inl rfl),R2 _ _ _ d];exact(Xh Vi).trans rfl
      .cases h
     .cases h
    .cases h
   .cases h
  .cases h
 .cases h
theorem Xa.buildSlice(hT:Xp P T){vs:List Value}{q len d:Nat}(h:Qb (Ua T e) n s e=some ((vs,q,len),d,s'))(hg:∀b w1,b=w.heap.size->w1.heap[b]?=some (.cells vs.toArray q (0,0))->Xc Xf w w1->w1.heap.size=w.heap.size+1->Xa P f R n ds s' ((d,false,.slice (some ⟨b,0,none⟩) len len)::e) w1):Xa P f R n ds s e w:=
 Xa.val h (λ_ c a hf=>Xd6 hT c a hf w) (hg _ _ rfl xS (E5 _ _) xS)
def Vc(T:Tab)(e:Env)(o:Oper):Option (List Value×Nat×Nat×Int×Int):=
 match o.op with
 |.makeSlice t x y=>match ev e x,ev e y,row T t with
  |some (.int _ l),some (.int _ c),some {und:=.slice q,..}=>match row T q with
   |some r2=>match r2.zero with
    |some z=>match Nat.beq (Y8 z).length r2.size,Nat.blt 0 r2.size with
     |true,true=>some (Y8 z,q,r2.bytes,l,c)
     |_,_=>none
    |none=>none
   |none=>none
  |_,_,_=>none
 |_=>none
theorem Ia.info{t:Nat}{r:Db}(h:Ia P t r)(w:World):∃i,(typeInfo t).run P w=.ok i w/\i.bytes=r.bytes/\i.size=r.size:=by
 have a:=h.2;cases hi:P.info? t with
 |none=>rw[hi] at a;cases a
 |some i=>
  rw[hi] at a;simp at a;exact⟨i,by simp[Go.typeInfo,Go.program,Sem.run,bind,Sem.bind,hi,pure],a.2.1,a.1⟩
theorem Xfz(hT:Xp P T){z:List Value}{q by':Nat}{l c:Int}{m k:Nat}{o:Oper}(h:Vc T e o=some (z,q,by',l,c))(hl:l=m)(hc:c=k)(hmk:m<=k)(hb:by'*k<=140737488355328)(hk:k<=9223372036854775807)(a:Act)(hf:Za n a e)(w:World):(execOp a.eval o).run P w=.ok (.value (.slice (some ⟨w.heap.size,0,none⟩) m k)) {w with heap:=w.heap.push (.cells (Qa z k).toArray q)}:=by
 unfold Vc at h;split at h
 .rename_i t x y s
  split at h
  .rename_i L M N O Q _ _ _ D E hr
   split at h
   .rename_i d f
    split at h
    .rename_i b F
     split at h
     .rename_i G H
      cases h
      subst hl;subst hc;obtain⟨i,hi,u,I⟩:=(hT.row f).info w;have v:=Nat.eq_of_beq_eq_true G;have J:0<d.size:=by simpa [Nat.blt_eq] using H
      have A:b.cells.size=d.size:=by rw[<-v,<-Gl];simp
      simp only[execOp,s,hf.ev D,hf.ev E];refine(Xh (x:=(.slice (some ⟨w.heap.size,0,none⟩) m k:Value)) (w':={w with heap:=w.heap.push (.cells (Qa (Y8 b) k).toArray q)}) ?_).trans rfl;unfold Instr.makeSlice;refine(Xh ((hT.row hr).underlying w)).trans ?_;simp only[asInt,asIntOf];refine(Xh (x:=(m:Int)) (w':=w) rfl).trans ((Xh (x:=(k:Int)) (w':=w) rfl).trans ((Xh hi).trans ?_));have B:IntKind.i64.wrap (m:Int)=m:=w64 X;have C:IntKind.i64.wrap (k:Int)=k:=w64 X;have K:((i.bytes:Int)*(k:Int))<=140737488355328:=by
       rw[u,<-Int.natCast_mul];generalize d.bytes*k=p at hb⊢
       omega
      have j:((decide ((k:Int)<0)||decide ((i.bytes:Int)*(k:Int)>2^48))||decide ((m:Int)<0)||decide ((m:Int)>(k:Int)))=false:=by
       rw[decide_eq_false X,decide_eq_false X,decide_eq_false X,decide_eq_false X];rfl
      simp only[B,C];rw[if_neg (by rw[j];simp)];have r:(askRoom ((k:Int).toNat*i.bytes)).run P w=.ok () w:=by
       unfold askRoom;split
       .simp[Go.mark,Sem.run]
       .rfl
      refine(Xh r).trans ((Xh ((hT.row f).sizeOf w)).trans ?_);simp only[Int.toNat_natCast];by_cases g:k*d.size=0
      .rw[if_pos g];have:k=0:=by
        rcases Nat.mul_eq_zero.1 g with h|h
        .exact h
        .omega
       subst this;refine(Xh (x:=(#[]:Array Value)) (w':=w) rfl).trans ?_;have:(Array.range (0*d.size)).map (λi=>(#[]:Array Value)[i%(#[]:Array Value).size]!)=(Qa (Y8 b) 0).toArray:=by simp[Qa]
       rw[this];exact(Xh Vi).trans rfl
      .rw[if_neg g];refine(Xh ((hT.row f).zero F w)).trans ((Xh (x:=b.cells) (w':=w) rfl).trans ?_);have:(Array.range (k*d.size)).map (λi=>b.cells[i%b.cells.size]!)=(Qa (Y8 b) k).toArray:=by
        rw[<-A,Xiq _ _ X,Gl]
       rw[this];exact(Xh Vi).trans rfl
     .cases h
    .cases h
   .cases h
  .cases h
 .cases h
theorem Xa.make(hT:Xp P T){z:List Value}{q by' d:Nat}{l c:Int}{m k:Nat}(h:Qb (Vc T e) n s e=some ((z,q,by',l,c),d,s'))(hl:l=m)(hc:c=k)(hmk:m<=k)(hb:by'*k<=140737488355328)(hk:k<=9223372036854775807)(hg:∀b w1,b=w.heap.size->w1.heap[b]?=some (.cells (Qa z k).toArray q (0,0))->Xc Xf w w1->w1.heap.size=w.heap.size+1->Xa P f R n ds s' ((d,false,.slice (some ⟨b,0,none⟩) m k)::e) w1):Xa P f R n ds s e w:=
 Xa.val h (λ_ g a hf=>Xfz hT g hl hc hmk hb hk a hf w) (hg _ _ rfl xS (E5 _ _) xS)
theorem XeQ{zs:List Int}{k:Nat}(h:k<zs.length):zs.getD k 0=zs[k]:=by simp[h]
def So(e:Env):Option Operand->Option (Option Int)
 |none=>some none
 |some x=>match ev e x with
  |some (.int _ i)=>some (some i)
  |_=>none
def W3(T:Tab)(e:Env)(o:Oper):Option (Option Addr×Nat×Nat×Option Int×Option Int×Nat):=
 match o.op with
 |.slice t x lo hi none=>match ev e x,row T t,So e lo,So e hi with
  |some (.slice a len cap),some {und:=.slice q,..},some l,some h=>match row T q with
   |some r=>some (a,len,cap,l,h,r.size)
   |none=>none
  |some (.pointer (some a)),some {und:=.array m q,..},some l,some h=>match row T q with
   |some r=>some (some a,m,m,l,h,r.size)
   |none=>none
  |_,_,_,_=>none
 |_=>none
def Ae(a:Option Addr)(cap l k:Nat):Option Addr:=if cap=l then a else a.map (·.add (l*k))
theorem W0{k:IntKind}{i:Int}{y j:Nat}{c:BoundsCode}(hi:i=j)(hj:j<=y)(w:World):(Instr.sliceBound (.int k i) y c).run P w=.ok j w:=by
 subst hi;unfold Instr.sliceBound;refine(Xh (x:=(k,(j:Int))) (w':=w) rfl).trans ?_;simp only
 rw[if_pos ⟨X,X⟩];rfl
theorem Xhk{isS:Bool}{len cap l h:Nat}{lo hi:Option Value}(w:World)(hl:(lo=none/\l=0)\/∃k i,lo=some (.int k i)/\i=(l:Int))(hh:(hi=none/\h=len)\/∃k i,hi=some (.int k i)/\i=(h:Int))(h1:l<=h)(h2:h<=cap):(Instr.sliceBounds isS len cap lo hi none).run P w=.ok (l,h,cap) w:=by
 unfold Instr.sliceBounds;refine(Xh (x:=cap) (w':=w) rfl).trans ?_;rcases hh with⟨rfl,rfl⟩|⟨k,i,rfl,hi⟩ <;> rcases hl with⟨rfl,rfl⟩|⟨k',i',rfl,a⟩
 .rfl
 .exact(Xh (W0 a h1 w)).trans rfl
 .exact(Xh (W0 hi h2 w)).trans rfl
 .exact(Xh (W0 hi h2 w)).trans ((Xh (W0 a h1 w)).trans rfl)
theorem Vj{a:Act}(hf:Za n a e){x:Option Operand}{r:Option Int}(h:So e x=some r):(x.map a.eval=none/\r=none)\/∃k i,x.map a.eval=some (.int k i)/\r=some i:=by
 cases x with
 |none=>simp[So] at h;exact .inl ⟨rfl,h.symm⟩
 |some x=>
  simp only[So] at h;split at h
  .rename_i k i b;cases h;exact .inr ⟨k,i,by simp[hf.ev b],rfl⟩
  .cases h
def Dx:Option Int->Int|some i=>i|none=>0
def Dr(len:Nat):Option Int->Int|some i=>i|none=>len
theorem Xhl(hT:Xp P T){b:Option Addr}{len cap sz l h:Nat}{lo hi:Option Int}{o:Oper}(ho:W3 T e o=some (b,len,cap,lo,hi,sz))(hl:Dx lo=l)(hh:Dr len hi=h)(h1:l<=h)(h2:h<=cap)(a:Act)(hf:Za n a e)(w:World):(execOp a.eval o).run P w=.ok (.value (.slice (Ae b cap l sz) (h-l) (cap-l))) w:=by
 unfold W3 at ho;split at ho
 .rename_i t x lo' p s
  split at ho
  .rename_i u B C q _ _ _ z A v hr f g
   split at ho
   .rename_i r j
    cases ho
    simp only[execOp,s,hf.ev v];refine(Xh (x:=(.slice (Ae b cap l r.size) (h-l) (cap-l):Value)) (w':=w) ?_).trans rfl;unfold Instr.sliceAt;refine(Xh ((hT.row hr).underlying w)).trans ?_;simp only
    unfold Instr.slice;refine(Xh ((hT.row hr).underlying w)).trans ?_;simp only
    have y:=Xhk (P:=P) (isS:=true) (len:=len) (cap:=cap) (l:=l) (h:=h) (lo:=lo'.map a.eval) (hi:=p.map a.eval) w
     (by
      rcases Vj hf f with⟨c,d⟩|⟨k,i,c,d⟩
      .subst d;exact .inl ⟨c,by simp[Dx] at hl;omega⟩
      .subst d;exact .inr ⟨k,i,c,hl⟩)
     (by
      rcases Vj hf g with⟨c,d⟩|⟨k,i,c,d⟩
      .subst d;exact .inl ⟨c,by simp[Dr] at hh;omega⟩
      .subst d;exact .inr ⟨k,i,c,hh⟩) h1 h2
    refine(Xh y).trans ?_;simp only
    exact(Xh ((hT.row j).sizeOf w)).trans rfl
   .cases ho
  .rename_i u m q _ _ _ z A v hr f g
   split at ho
   .rename_i r j
    cases ho
    simp only[execOp,s,hf.ev v];refine(Xh (x:=(.slice (Ae (some u) len l r.size) (h-l) (len-l):Value)) (w':=w) ?_).trans rfl;unfold Instr.sliceAt;refine(Xh ((hT.row hr).underlying w)).trans ?_;simp only[Instr.sureAddr];refine(Xh (x:=u) (w':=w) rfl).trans ?_;have y:=Xhk (P:=P) (isS:=false) (len:=len) (cap:=len) (l:=l) (h:=h) (lo:=lo'.map a.eval) (hi:=p.map a.eval) w
     (by
      rcases Vj hf f with⟨c,d⟩|⟨k,i,c,d⟩
      .subst d;exact .inl ⟨c,by simp[Dx] at hl;omega⟩
      .subst d;exact .inr ⟨k,i,c,hl⟩)
     (by
      rcases Vj hf g with⟨c,d⟩|⟨k,i,c,d⟩
      .subst d;exact .inl ⟨c,by simp[Dr] at hh;omega⟩
      .subst d;exact .inr ⟨k,i,c,hh⟩) h1 h2
    refine(Xh y).trans ?_;simp only
    refine(Xh ((hT.row j).sizeOf w)).trans ?_;unfold Ae;split <;> rfl
   .cases ho
  .cases ho
 .cases ho
theorem Xa.slice(hT:Xp P T){b:Option Addr}{len cap sz l h d:Nat}{lo hi:Option Int}{s2:List Item}{e2:Env}(ho:Qb (W3 T e) n s e=some ((b,len,cap,lo,hi,sz),d,s'))(hl:Dx lo=l)(hh:Dr len hi=h)(h1:l<=h)(h2:h<=cap)(ha:Go.Proofs.YtdeihcnepljjaaaGreatDoor.adv T n 400 s' ((d,false,.slice (Ae b cap l sz) (h-l) (cap-l))::e)=(s2,e2))(hg:Xa P f R n ds s2 e2 w):Xa P f R n ds s e w:=
 Xa.val ho (λ_ ho a hf=>Xhl hT ho hl hh h1 h2 a hf w) (Xa.adv hT 400 ha hg)
theorem Rd.shift{k:IntKind}{a:Option Addr}{zs:List Int}{cap l m:Nat}(h:Rd k w a zs)(hm:l+m<=zs.length)(hc:zs.length<=cap):Rd k w (Ae a cap l 1) ((zs.drop l).take m):=by
 intro i hi;have g:i<m:=by simp at hi;omega
 obtain⟨b,off,rfl,c⟩:=h (l+i) X;have d:¬cap=l:=X
 refine⟨b,off+l,?_,?_⟩
 .simp only[Ae,if_neg d,Option.map_some,Nat.mul_one,C0]
 .rw[Nat.add_assoc,c]
  congr 2
  have f:=hi;rw[XeQ f,XeQ (show l+i<zs.length by omega),List.getElem_take,List.getElem_drop]
end
end Go.Proofs.YtdeihcnepljjaaaGreatDoor
