/-
  Rule7
-/
import Derived.Test.YtdeihcnepljjaaaGreatDoorQRule6
import Derived.Laws.CopyRow
import Derived.Laws.IdiomCopy
import Derived.Laws.BytesString
namespace Go.Proofs.YtdeihcnepljjaaaGreatDoor
open Go.RowKit
section
variable {P:Program}{T:Tab}{ops:Array Oper}{f:FuncId}{R:Aim}{k:List Item}{q n:Nat}{ds:List Deferred}{s s':List Item}{w w0:World}{e:Env}{U:List Nat}
def Li(op:BinOp)(k:IntKind)(x y:Int):Int:=
 let a:=BitVec.ofInt k.bits x
 let b:=BitVec.ofInt k.bits y
 match op with
 |.and=>k.wrap (a &&& b).toNat
 |.or=>k.wrap (a|||b).toNat
 |.xor=>k.wrap (a ^^^ b).toNat
 |_=>k.wrap (a &&& ~~~b).toNat
def T6(e:Env)(o:Oper):Option (BinOp×IntKind×Int×Int):=
 match o.op with
 |.binOp op _ x y _=>match ev e x,ev e y with
  |some (.int k a),some (.int k' b)=>match Nv k k' with
   |true=>match op with
    |.and|.or|.xor|.andNot=>some (op,k,a,b)
    |_=>none
   |false=>none
  |_,_=>none
 |_=>none
theorem XdY{op:BinOp}{k:IntKind}{x y z:Int}{o:Oper}(h:T6 e o=some (op,k,x,y))(hz:Li op k x y=z)(a:Act)(hf:Za n a e)(w:World):(execOp a.eval o).run P w=.ok (.value (.int k z)) w:=by
 subst hz;unfold T6 at h;split at h
 .rename_i g t x' y' t' b
  split at h
  .rename_i i j l m c d
   split at h
   .rename_i f
    have:=Wu f;subst this;split at h
    all_goals first|(cases h;done)|skip
    all_goals
     cases h
     simp only[execOp,b,hf.ev c,hf.ev d];refine(Xh (x:=(.int k (Li _ k x y):Value)) (w':=w) ?_).trans rfl;refine(Xh (R0 w)).trans ?_;simp only[binOp,ne_eq,not_true_eq_false,if_false,Op.intBits];rfl
   .cases h
  .cases h
 .cases h
theorem Xa.bits(hT:Xp P T){op:BinOp}{k:IntKind}{x y z:Int}{d:Nat}{s2:List Item}{e2:Env}(h:Qb (T6 e) n s e=some ((op,k,x,y),d,s'))(hz:Li op k x y=z)(ha:Go.Proofs.YtdeihcnepljjaaaGreatDoor.adv T n 400 s' ((d,false,.int k z)::e)=(s2,e2))(hg:Xa P f R n ds s2 e2 w):Xa P f R n ds s e w:=
 Xa.val h (λ_ b a hf=>XdY b hz a hf w) (Xa.adv hT 400 ha hg)
def K6(l:Bool)(k:IntKind)(x y:Int):Int:=if l then k.wrap (x*2^(min y.toNat k.bits)) else x.fdiv (2^(min y.toNat k.bits))
def Wy(e:Env)(o:Oper):Option (Bool×IntKind×Int×Int):=
 match o.op with
 |.binOp .shl _ x y _=>match ev e x,ev e y with
  |some (.int k a),some (.int _ b)=>some (true,k,a,b)
  |_,_=>none
 |.binOp .shr _ x y _=>match ev e x,ev e y with
  |some (.int k a),some (.int _ b)=>some (false,k,a,b)
  |_,_=>none
 |_=>none
theorem Xhh{l:Bool}{k:IntKind}{x y z:Int}{o:Oper}(h:Wy e o=some (l,k,x,y))(hy:0<=y)(hz:K6 l k x y=z)(a:Act)(hf:Za n a e)(w:World):(execOp a.eval o).run P w=.ok (.value (.int k z)) w:=by
 subst hz;unfold Wy at h;split at h
 all_goals first|(cases h;done)|skip
 all_goals
  rename_i t x' y' t' c
  split at h
  .rename_i g i j b f d
   cases h
   simp only[execOp,c,hf.ev f,hf.ev d];refine(Xh (x:=(.int k (K6 _ k x y):Value)) (w':=w) ?_).trans rfl;refine(Xh (R0 w)).trans ?_;simp only[binOp,Op.shift];rw[if_neg X];rfl
  .cases h
theorem Xa.shift(hT:Xp P T){l:Bool}{k:IntKind}{x y z:Int}{d:Nat}{s2:List Item}{e2:Env}(h:Qb (Wy e) n s e=some ((l,k,x,y),d,s'))(hy:0<=y)(hz:K6 l k x y=z)(ha:Go.Proofs.YtdeihcnepljjaaaGreatDoor.adv T n 400 s' ((d,false,.int k z)::e)=(s2,e2))(hg:Xa P f R n ds s2 e2 w):Xa P f R n ds s e w:=
 Xa.val h (λ_ b a hf=>Xhh b hy hz a hf w) (Xa.adv hT 400 ha hg)
def Uk(T:Tab)(e:Env)(o:Oper):Option (Option Addr×Nat×Option Addr×Nat):=
 match o.op with
 |.call c=>match c.callee,evs e c.args.toList,c.argTypes.toList with
  |.builtin .copy,some [.slice d dl _,.slice a sl _],[t,_]=>match row T t with
   |some {und:=.slice q,..}=>match row T q with
    |some r2=>match Nat.beq r2.size 1 with
     |true=>some (d,dl,a,sl)
     |false=>none
    |none=>none
   |_=>none
  |_,_,_=>none
 |_=>none
theorem Xen(hT:Xp P T){d a:Option Addr}{dl sl:Nat}{o:Oper}(h:Uk T e o=some (d,dl,a,sl)):∃dT sT dc sc elem,P.underlying dT=some (.slice elem)/\(P.info? elem).map (·.size)=some 1/\
 ∀act,Za n act e -> ∀v w w',(Builtin.copy_ #[dT,sT] o.type #[.slice d dl dc,.slice a sl sc]).run P w=.ok v w'->(execOp act.eval o).run P w=.ok (.value v) w':=by
 unfold Uk at h;split at h
 .rename_i c k
  split at h
  .rename_i A s dc B u sc t t' b l f
   split at h
   .rename_i p y z C hr
    split at h
    .rename_i D q
     split at h
     .rename_i m
      cases h
      have hi:=(hT.row q).2;refine⟨t,t',dc,sc,p,(hT.row hr).1,?_,λact hf v w w' g=>?_⟩
      .cases i:P.info? p with
       |none=>rw[i] at hi;cases hi
       |some inf=>
        rw[i] at hi;simp only[Option.map_some,Option.some.injEq,Prod.mk.injEq] at hi;rw[Option.map_some,hi.1,Nat.eq_of_beq_eq_true m]
      .obtain⟨dst,op,type,pos,after,guard⟩:=o;simp only at k
       subst k;obtain⟨callee,args,argTypes⟩:=c;simp only at b l f g
       subst b;have j:=G8 (hf.evs l);have r:argTypes=#[t,t']:=by obtain⟨ats⟩:=argTypes;simp only at f;subst f;rfl
       subst r;simp only[execOp,resolve,j];exact(Xh (show _=Result.ok _ w from rfl)).trans ((Xh (x:=v) (w':=w') g).trans rfl)
     .cases h
    .cases h
   .cases h
  .cases h
 .cases h
theorem Xeg{w:World}{g:Nat}{cs:Array Value}:Xc (λb=>b=g) w (w.setRow g cs):=⟨rfl,rfl,rfl,xS,λb c a=>setRow_other w g b _ a⟩
theorem Xa.copy(hT:Xp P T){g o' dl sl d:Nat}{a:Addr}{cur cs:List Value}{t:TypeId}(h:Qb (Uk T e) n s e=some ((some ⟨g,o',none⟩,dl,some a,sl),d,s'))(hg':w.heap[g]?=some (.cells cur.toArray t (0,0)))(hn:cs.length=Nat.min sl dl)(hsrc:∀j v,cs[j]?=some v->w.cell? (a.add j)=some v)(hfit:o'+cs.length<=cur.length)(h1:∀v∈cs,v.oneCell'=true)(hg:∀w1,w1.heap[g]?=some (.cells (cur.take o'++cs++cur.drop (o'+cs.length)).toArray t (0,0))->Xc (λb=>b=g) w w1->w1.heap.size=w.heap.size->Xa P f R n ds s' ((d,false,.int .i64 cs.length)::e) w1):Xa P f R n ds s e w:=by
 obtain⟨o,l,m,i,p⟩:=Mp h;obtain⟨dT,sT,dc,sc,elem,q,r,k⟩:=Xen (n:=n) hT p;have c:=run_copy_row (P:=P) w dT sT o.type elem g o' dl dc a sl sc cur.toArray t cs q r hg' hn hsrc (xU hfit) h1;exact Xa.head l (by rw[m];exact K2 i) (λa hf=>.inl (k a hf _ _ _ c)) (hg _ (xU (setRow_heap w g cur.toArray _ t _ hg')) Xeg xS)
theorem Xa.copy0(hT:Xp P T){dl sl d:Nat}{x a:Option Addr}{s2:List Item}{e2:Env}(h:Qb (Uk T e) n s e=some ((x,dl,a,sl),d,s'))(h0:Nat.min sl dl=0)(ha:Go.Proofs.YtdeihcnepljjaaaGreatDoor.adv T n 400 s' ((d,false,.int .i64 0)::e)=(s2,e2))(hg:Xa P f R n ds s2 e2 w):Xa P f R n ds s e w:=by
 refine Xa.val (v:=.int .i64 0) (w':=w) h (λo c act hf=>?_) (Xa.adv hT 400 ha hg);obtain⟨dT,sT,dc,sc,elem,g,i,b⟩:=Xen (n:=n) hT c;exact b act hf _ _ _ (run_copy_none (P:=P) w dT sT o.type elem x a dl dc sl sc g i h0)
theorem Xnv(w:World)(t e ty:TypeId)(z:Value)(ht:P.underlying t=some (.slice e))(hv:∀w,(zeroValue e).run P w=.ok z w)(hz:z.cells=#[z])(h1:z.oneCell'=true)(g o n c:Nat)(cur:Array Value)(q:TypeId)(hg:w.heap[g]?=some (.cells cur q (0,0)))(hn:0<n)(hfit:o+n<=cur.size):(Builtin.clear_ #[t] ty #[.slice (some ⟨g,o,none⟩) n c]).run P w=.ok (.tuple #[]) (w.setRow g (cur.toList.take o++List.replicate n z++cur.toList.drop (o+n)).toArray):=by
 have b:(Builtin.zeroCells z.cells n).toList=List.replicate n z:=by
  rw[hz];simp[Builtin.zeroCells]
  apply List.ext_getElem
  .simp
  .intro i h1 f;simp[Nat.mod_one]
 have a:=run_storeCells_at P g o q (List.replicate n z) 0 cur w hg (xU hfit) (by intro v d;rw[List.eq_of_mem_replicate d];exact h1);simp only[Nat.add_zero,List.length_replicate] at a;obtain⟨m,rfl⟩:∃m,n=m+1:=⟨n-1,X⟩;simp[Builtin.clear_,run_underlying ht,hv,b,a]
def Uh(T:Tab)(s:List Item)(e:Env):Option (Option Addr×Nat×Value×List Item):=
 match E7 s e with
 |some (o,s')=>match o.dst,o.op with
  |none,.call c=>match c.callee,evs e c.args.toList,c.argTypes.toList with
   |.builtin .clear,some [.slice d m _],[t]=>match row T t with
    |some {und:=.slice q,..}=>match row T q with
     |some r2=>match r2.zero with
      |some z=>some (d,m,z,s')
      |none=>none
     |none=>none
    |_=>none
   |_,_,_=>none
  |_,_=>none
 |none=>none
theorem Xei(hT:Xp P T){d:Option Addr}{m:Nat}{z:Value}(h:Uh T s e=some (d,m,z,s')):∃o,E7 s e=some (o,s')/\o.dst=none/\∃t dc elem,P.underlying t=some (.slice elem)/\(∀w,(zeroValue elem).run P w=.ok z w)/\
 ∀act,Za n act e -> ∀v w w',(Builtin.clear_ #[t] o.type #[.slice d m dc]).run P w=.ok v w'->(execOp act.eval o).run P w=.ok (.value v) w':=by
 unfold Uh at h;split at h
 .rename_i o B q
  split at h
  .rename_i c r i
   split at h
   .rename_i C D dc t a j b
    split at h
    .rename_i u y A E hr
     split at h
     .rename_i F k
      split at h
      .rename_i G l
       cases h
       refine⟨o,q,r,t,dc,u,(hT.row hr).1,λw=>(hT.row k).zero l w,λact hf v w w' f=>?_⟩;obtain⟨dst,op,type,pos,after,guard⟩:=o;simp only at i
       subst i;obtain⟨callee,args,argTypes⟩:=c;simp only at a j b f
       subst a;have g:=G8 (hf.evs j);have p:argTypes=#[t]:=by obtain⟨ats⟩:=argTypes;simp only at b;subst b;rfl
       subst p;simp only[execOp,resolve,g];exact(Xh (show _=Result.ok _ w from rfl)).trans ((Xh (x:=v) (w':=w') f).trans rfl)
      .cases h
     .cases h
    .cases h
   .cases h
  .cases h
 .cases h
theorem Xa.clear(hT:Xp P T){g o' m:Nat}{z:Value}{cur:List Value}{t:TypeId}(h:Uh T s e=some (some ⟨g,o',none⟩,m,z,s'))(hg':w.heap[g]?=some (.cells cur.toArray t (0,0)))(hz:z.cells=#[z])(h1:z.oneCell'=true)(hn:0<m)(hfit:o'+m<=cur.length)(hg:∀w1,w1.heap[g]?=some (.cells (cur.take o'++List.replicate m z++cur.drop (o'+m)).toArray t (0,0))->Xc (λb=>b=g) w w1->w1.heap.size=w.heap.size->Xa P f R n ds s' e w1):Xa P f R n ds s e w:=by
 obtain⟨o,i,j,t',dc,elem,k,l,d⟩:=Xei (n:=n) hT h;have c:=Xnv (P:=P) w t' elem o.type z k l hz h1 g o' m dc cur.toArray t hg' hn (xU hfit);exact Xa.head (fl:=false) (v:=.tuple #[]) (e':=e) i (by rw[j];rfl) (λa hf=>.inl (d a hf _ _ _ c)) (hg _ (xU (setRow_heap w g cur.toArray _ t _ hg')) Xeg xS)
theorem Xa.clear0(hT:Xp P T){d:Option Addr}{m:Nat}{z:Value}{s2:List Item}{e2:Env}(h:Uh T s e=some (d,m,z,s'))(h0:m=0)(ha:Go.Proofs.YtdeihcnepljjaaaGreatDoor.adv T n 400 s' e=(s2,e2))(hg:Xa P f R n ds s2 e2 w):Xa P f R n ds s e w:=by
 subst h0;obtain⟨o,g,i,t',dc,elem,j,k,c⟩:=Xei (n:=n) hT h;have b:(Builtin.clear_ #[t'] o.type #[.slice d 0 dc]).run P w=.ok (.tuple #[]) w:=by
  cases d <;> simp[Builtin.clear_,run_underlying j]
 exact Xa.head (fl:=false) (v:=.tuple #[]) (e':=e) g (by rw[i];rfl) (λa hf=>.inl (c a hf _ _ _ b)) (Xa.adv hT 400 ha hg)
def XcR(ns:List Int):ByteArray:=ns.foldl (λr n=>r.push (UInt8.ofNat n.toNat)) ByteArray.empty
def XcS(e:Env)(o:Oper):Option (Bool×ByteArray×ByteArray):=
 match o.op with
 |.binOp .eql _ x y _=>match ev e x,ev e y with
  |some (.string a),some (.string b)=>some (true,a,b)
  |_,_=>none
 |.binOp .neq _ x y _=>match ev e x,ev e y with
  |some (.string a),some (.string b)=>some (false,a,b)
  |_,_=>none
 |_=>none
theorem XoA{p:Bool}{a b:ByteArray}{o:Oper}(h:XcS e o=some (p,a,b))(hab:a=b)(act:Act)(hf:Za n act e)(w:World):(execOp act.eval o).run P w=.ok (.value (.bool p)) w:=by
 subst hab;unfold XcS at h;split at h
 all_goals first|(cases h;done)|skip
 all_goals
  rename_i t x y t' c
  split at h
  .rename_i g i d f
   cases h
   simp only[execOp,c,hf.ev d,hf.ev f];refine(Xh (x:=(.bool _:Value)) (w':=w) ?_).trans rfl;refine(Xh (show(eqGuard _ _ _ _ (.string a) (.string a)).run P w=.ok () w from rfl)).trans ?_;simp only[binOp,Op.stringOp];simp[Sem.run_pure]
  .cases h
theorem Xa.streq(hT:Xp P T){p:Bool}{a b:ByteArray}{d:Nat}{s2:List Item}{e2:Env}(h:Qb (XcS e) n s e=some ((p,a,b),d,s'))(hab:a=b)(ha:Go.Proofs.YtdeihcnepljjaaaGreatDoor.adv T n 400 s' ((d,true,.bool p)::e)=(s2,e2))(hg:Xa P f R n ds s2 e2 w):Xa P f R n ds s e w:=by
 refine Xa.val h (λ_ i a hf=>XoA i hab a hf w) ?_;exact Xa.know (t:=d) (b:=true) (v:=.bool p) (by simp[look]) ((Xa.adv hT 400 ha hg).weaken λt v c=>by
  rw[Kx] at c⊢;by_cases g:t=d
  .rw[if_pos g] at c⊢;exact c
  .rw[if_neg g] at c⊢;rw[Kx,if_neg g];exact c)
def XbD(T:Tab)(e:Env)(o:Oper):Option (Addr×Nat×Nat):=
 match o.op with
 |.convert src dst x=>match ev e x,row T src,row T dst with
  |some (.slice (some a) n c),some {und:=.slice q,..},some {und:=.slice _,..}=>match row T q with
   |some {und:=.int .u8,..}=>match Nat.beq src dst with
    |true=>some (a,n,c)
    |false=>none
   |_=>none
  |_,_,_=>none
 |_=>none
theorem Xk5(hT:Xp P T){a:Addr}{m c:Nat}{o:Oper}{cs:Array Value}{t:TypeId}{fz:Nat×Nat}(h:XbD T e o=some (a,m,c))(hb:w.heap[a.block]?=some (.cells cs t fz))(act:Act)(hf:Za n act e):(execOp act.eval o).run P w=.ok (.value (.slice (some a) m c)) (w.freeze {block:=a.block,off:=cs.size} 1):=by
 unfold XbD at h;split at h
 .rename_i src dst x g
  split at h
  .rename_i p r s q _ _ _ q' _ _ _ k b d
   split at h
   .rename_i _ _ _ l
    split at h
    .rename_i f
     cases h
     have i:=Nat.eq_of_beq_eq_true f;subst i;rw[b] at d;simp only[Option.some.injEq,Db.mk.injEq,TypeDesc.slice.injEq] at d;obtain⟨rfl,_⟩:=d;simp only[execOp,g,hf.ev k];refine(Xh (x:=(.slice (some a) m c:Value)) (w':=w.freeze {block:=a.block,off:=cs.size} 1) ?_).trans rfl;unfold convert;refine(Xh ((hT.row b).underlying w)).trans ((Xh ((hT.row b).underlying w)).trans ((Xh ((hT.row l).underlying w)).trans ?_));have j:w.shape? a.block=some (t,cs.size):=by unfold World.shape?;rw[hb]
     simp[markStringish,j]
    .cases h
   .cases h
  .cases h
 .cases h
theorem Xjo{a:Addr}{m:Nat}:Xc (λb=>b=a.block) w (w.freeze a m):=by
 unfold World.freeze;split
 .exact Xc.refl _ _
 .exact⟨rfl,rfl,rfl,xS,λb d c=>by simp[Array.getElem?_modify,Ne.symm c]⟩
theorem XjZ{b off:Nat}{cs:Array Value}{t:TypeId}{fz:Nat×Nat}(hb:w.heap[b]?=some (.cells cs t fz)):∃fz',(w.freeze {block:=b,off:=off} 1).heap[b]?=some (.cells cs t fz'):=by
 unfold World.freeze;rw[if_neg xD];simp only[Array.getElem?_modify,if_true,hb,Option.map_some];obtain⟨lo,hi⟩:=fz;exact⟨_,rfl⟩
theorem Xa.mark(hT:Xp P T){b off m c d:Nat}{cs:Array Value}{t:TypeId}{fz:Nat×Nat}(h:Qb (XbD T e) n s e=some ((⟨b,off,none⟩,m,c),d,s'))(hb:w.heap[b]?=some (.cells cs t fz))(hg:∀w1 fz',w1.heap[b]?=some (.cells cs t fz')->Xc (λx=>x=b) w w1->w1.heap.size=w.heap.size->Xa P f R n ds s' ((d,false,.slice (some ⟨b,off,none⟩) m c)::e) w1):Xa P f R n ds s e w:=by
 obtain⟨fz',g⟩:=XjZ (w:=w) (off:=cs.size) hb;exact Xa.val h (λ_ i a hf=>Xk5 hT i hb a hf) (hg _ fz' g (Xjo (a:=⟨b,cs.size,none⟩)) (by unfold World.freeze;rw[if_neg xD];simp))
end
end Go.Proofs.YtdeihcnepljjaaaGreatDoor
