/-
  Rule7
-/
import Derived.Test.YtdeihcnepljjaaaGreatDoorQRule6
import Derived.Laws.CopyRow
import Derived.Laws.IdiomCopy
import Derived.Laws.BytesString
namespace Go.Proofs.YtdeihcnepljjaaaGreatDoor
open Go.RowKit
section
variable {P:Program}{T:Tab}{ops:Array Oper}{f:FuncId}{R:Aim}{k:List Item}{q n:Nat}{ds:List Deferred}{s s':List Item}{w w0:World}{e:Env}{U:List Nat}
def K8(op:BinOp)(k:IntKind)(x y:Int):Int:=
 let a:=BitVec.ofInt k.bits x
 let b:=BitVec.ofInt k.bits y
 match op with
 |.and=>k.wrap (a &&& b).toNat
 |.or=>k.wrap (a|||b).toNat
 |.xor=>k.wrap (a ^^^ b).toNat
 |_=>k.wrap (a &&& ~~~b).toNat
def Th(e:Env)(o:Oper):Option (BinOp×IntKind×Int×Int):=
 match o.op with
 |.binOp op _ x y _=>match ev e x,ev e y with
  |some (.int k a),some (.int k' b)=>match Nf k k' with
   |true=>match op with
    |.and|.or|.xor|.andNot=>some (op,k,a,b)
    |_=>none
   |false=>none
  |_,_=>none
 |_=>none
theorem Xdu{op:BinOp}{k:IntKind}{x y z:Int}{o:Oper}(h:Th e o=some (op,k,x,y))(hz:K8 op k x y=z)(a:Act)(hf:X7 n a e)(w:World):(execOp a.eval o).run P w=.ok (.value (.int k z)) w:=by
 subst hz;unfold Th at h;split at h
 .rename_i g t x' y' t' b
  split at h
  .rename_i i j l m c d
   split at h
   .rename_i f
    have:=Ve f;subst this;split at h
    all_goals first|(cases h;done)|skip
    all_goals
     cases h
     simp only[execOp,b,hf.ev c,hf.ev d];refine(Xh (x:=(.int k (K8 _ k x y):Value)) (w':=w) ?_).trans rfl;refine(Xh (Rb w)).trans ?_;simp only[binOp,ne_eq,not_true_eq_false,if_false,Op.intBits];rfl
   .cases h
  .cases h
 .cases h
theorem Xa.bits(hT:Xp P T){op:BinOp}{k:IntKind}{x y z:Int}{d:Nat}{s2:List Item}{e2:Env}(h:Yy (Th e) n s e=some ((op,k,x,y),d,s'))(hz:K8 op k x y=z)(ha:Go.Proofs.YtdeihcnepljjaaaGreatDoor.adv T n 400 s' ((d,false,.int k z)::e)=(s2,e2))(hg:Xa P f R n ds s2 e2 w):Xa P f R n ds s e w:=
 Xa.val h (λ_ b a hf=>Xdu b hz a hf w) (Xa.adv hT 400 ha hg)
def Kx(l:Bool)(k:IntKind)(x y:Int):Int:=if l then k.wrap (x*2^(min y.toNat k.bits)) else x.fdiv (2^(min y.toNat k.bits))
def Vi(e:Env)(o:Oper):Option (Bool×IntKind×Int×Int):=
 match o.op with
 |.binOp .shl _ x y _=>match ev e x,ev e y with
  |some (.int k a),some (.int _ b)=>some (true,k,a,b)
  |_,_=>none
 |.binOp .shr _ x y _=>match ev e x,ev e y with
  |some (.int k a),some (.int _ b)=>some (false,k,a,b)
  |_,_=>none
 |_=>none
theorem XgA{l:Bool}{k:IntKind}{x y z:Int}{o:Oper}(h:Vi e o=some (l,k,x,y))(hy:0<=y)(hz:Kx l k x y=z)(a:Act)(hf:X7 n a e)(w:World):(execOp a.eval o).run P w=.ok (.value (.int k z)) w:=by
 subst hz;unfold Vi at h;split at h
 all_goals first|(cases h;done)|skip
 all_goals
  rename_i t x' y' t' c
  split at h
  .rename_i g i j b f d
   cases h
   simp only[execOp,c,hf.ev f,hf.ev d];refine(Xh (x:=(.int k (Kx _ k x y):Value)) (w':=w) ?_).trans rfl;refine(Xh (Rb w)).trans ?_;simp only[binOp,Op.shift];rw[if_neg (by omega)];rfl
  .cases h
theorem Xa.shift(hT:Xp P T){l:Bool}{k:IntKind}{x y z:Int}{d:Nat}{s2:List Item}{e2:Env}(h:Yy (Vi e) n s e=some ((l,k,x,y),d,s'))(hy:0<=y)(hz:Kx l k x y=z)(ha:Go.Proofs.YtdeihcnepljjaaaGreatDoor.adv T n 400 s' ((d,false,.int k z)::e)=(s2,e2))(hg:Xa P f R n ds s2 e2 w):Xa P f R n ds s e w:=
 Xa.val h (λ_ b a hf=>XgA b hy hz a hf w) (Xa.adv hT 400 ha hg)
def Tu(T:Tab)(e:Env)(o:Oper):Option (Option Addr×Nat×Option Addr×Nat):=
 match o.op with
 |.call c=>match c.callee,evs e c.args.toList,c.argTypes.toList with
  |.builtin .copy,some [.slice d dl _,.slice a sl _],[t,_]=>match row T t with
   |some {und:=.slice q,..}=>match row T q with
    |some r2=>match Nat.beq r2.size 1 with
     |true=>some (d,dl,a,sl)
     |false=>none
    |none=>none
   |_=>none
  |_,_,_=>none
 |_=>none
theorem XdU(hT:Xp P T){d a:Option Addr}{dl sl:Nat}{o:Oper}(h:Tu T e o=some (d,dl,a,sl)):∃dT sT dc sc elem,P.underlying dT=some (.slice elem)/\(P.info? elem).map (·.size)=some 1/\
 ∀act,X7 n act e -> ∀v w w',(Builtin.copy_ #[dT,sT] o.type #[.slice d dl dc,.slice a sl sc]).run P w=.ok v w'->(execOp act.eval o).run P w=.ok (.value v) w':=by
 unfold Tu at h;split at h
 .rename_i c l
  split at h
  .rename_i B u dc C y sc t t' b m f
   split at h
   .rename_i q z A D hr
    split at h
    .rename_i E r
     split at h
     .rename_i p
      cases h
      have g:=(hT.row r).2;refine⟨t,t',dc,sc,q,(hT.row hr).1,?_,λact hf v w w' i=>?_⟩
      .cases j:P.info? q with
       |none=>rw[j] at g;cases g
       |some inf=>
        rw[j] at g;simp only[Option.map_some,Option.some.injEq,Prod.mk.injEq] at g;rw[Option.map_some,g.1,Nat.eq_of_beq_eq_true p]
      .obtain⟨dst,op,type,pos,after,guard⟩:=o;simp only at l
       subst l;obtain⟨callee,args,argTypes⟩:=c;simp only at b m f i
       subst b;have k:=G4 (hf.evs m);have s:argTypes=#[t,t']:=by obtain⟨ats⟩:=argTypes;simp only at f;subst f;rfl
       subst s;simp only[execOp,resolve,k];exact(Xh (show _=Result.ok _ w from rfl)).trans ((Xh (x:=v) (w':=w') i).trans rfl)
     .cases h
    .cases h
   .cases h
  .cases h
 .cases h
theorem XdM{w:World}{g:Nat}{cs:Array Value}:Xc (λb=>b=g) w (w.setRow g cs):=⟨rfl,rfl,rfl,by simp,λb c a=>setRow_other w g b _ a⟩
theorem Xa.copy(hT:Xp P T){g o' dl sl d:Nat}{a:Addr}{cur cs:List Value}{t:TypeId}(h:Yy (Tu T e) n s e=some ((some ⟨g,o',none⟩,dl,some a,sl),d,s'))(hg':w.heap[g]?=some (.cells cur.toArray t (0,0)))(hn:cs.length=Nat.min sl dl)(hsrc:∀j v,cs[j]?=some v->w.cell? (a.add j)=some v)(hfit:o'+cs.length<=cur.length)(h1:∀v∈cs,v.oneCell'=true)(hg:∀w1,w1.heap[g]?=some (.cells (cur.take o'++cs++cur.drop (o'+cs.length)).toArray t (0,0))->Xc (λb=>b=g) w w1->w1.heap.size=w.heap.size->Xa P f R n ds s' ((d,false,.int .i64 cs.length)::e) w1):Xa P f R n ds s e w:=by
 obtain⟨o,l,m,i,p⟩:=Ma h;obtain⟨dT,sT,dc,sc,elem,q,r,k⟩:=XdU (n:=n) hT p;have c:=run_copy_row (P:=P) w dT sT o.type elem g o' dl dc a sl sc cur.toArray t cs q r hg' hn hsrc (by simpa using hfit) h1;exact Xa.head l (by rw[m];exact Ku i) (λa hf=>.inl (k a hf _ _ _ c)) (hg _ (by simpa using setRow_heap w g cur.toArray _ t _ hg') XdM (by simp))
theorem Xa.copy0(hT:Xp P T){dl sl d:Nat}{x a:Option Addr}{s2:List Item}{e2:Env}(h:Yy (Tu T e) n s e=some ((x,dl,a,sl),d,s'))(h0:Nat.min sl dl=0)(ha:Go.Proofs.YtdeihcnepljjaaaGreatDoor.adv T n 400 s' ((d,false,.int .i64 0)::e)=(s2,e2))(hg:Xa P f R n ds s2 e2 w):Xa P f R n ds s e w:=by
 refine Xa.val (v:=.int .i64 0) (w':=w) h (λo c act hf=>?_) (Xa.adv hT 400 ha hg);obtain⟨dT,sT,dc,sc,elem,g,i,b⟩:=XdU (n:=n) hT c;exact b act hf _ _ _ (run_copy_none (P:=P) w dT sT o.type elem x a dl dc sl sc g i h0)
theorem XmA(w:World)(t e ty:TypeId)(z:Value)(ht:P.underlying t=some (.slice e))(hv:∀w,(zeroValue e).run P w=.ok z w)(hz:z.cells=#[z])(h1:z.oneCell'=true)(g o n c:Nat)(cur:Array Value)(q:TypeId)(hg:w.heap[g]?=some (.cells cur q (0,0)))(hn:0<n)(hfit:o+n<=cur.size):(Builtin.clear_ #[t] ty #[.slice (some ⟨g,o,none⟩) n c]).run P w=.ok (.tuple #[]) (w.setRow g (cur.toList.take o++List.replicate n z++cur.toList.drop (o+n)).toArray):=by
 have b:(Builtin.zeroCells z.cells n).toList=List.replicate n z:=by
  rw[hz];simp[Builtin.zeroCells]
  apply List.ext_getElem
  .simp
  .intro i h1 f;simp[Nat.mod_one]
 have a:=run_storeCells_at P g o q (List.replicate n z) 0 cur w hg (by simpa using hfit) (by intro v d;rw[List.eq_of_mem_replicate d];exact h1);simp only[Nat.add_zero,List.length_replicate] at a;obtain⟨m,rfl⟩:∃m,n=m+1:=⟨n-1,by omega⟩;simp[Builtin.clear_,run_underlying ht,hv,b,a]
def Tr(T:Tab)(s:List Item)(e:Env):Option (Option Addr×Nat×Value×List Item):=
 match E6 s e with
 |some (o,s')=>match o.dst,o.op with
  |none,.call c=>match c.callee,evs e c.args.toList,c.argTypes.toList with
   |.builtin .clear,some [.slice d m _],[t]=>match row T t with
    |some {und:=.slice q,..}=>match row T q with
     |some r2=>match r2.zero with
      |some z=>some (d,m,z,s')
      |none=>none
     |none=>none
    |_=>none
   |_,_,_=>none
  |_,_=>none
 |none=>none
theorem XdO(hT:Xp P T){d:Option Addr}{m:Nat}{z:Value}(h:Tr T s e=some (d,m,z,s')):∃o,E6 s e=some (o,s')/\o.dst=none/\∃t dc elem,P.underlying t=some (.slice elem)/\(∀w,(zeroValue elem).run P w=.ok z w)/\
 ∀act,X7 n act e -> ∀v w w',(Builtin.clear_ #[t] o.type #[.slice d m dc]).run P w=.ok v w'->(execOp act.eval o).run P w=.ok (.value v) w':=by
 unfold Tr at h;split at h
 .rename_i o B q
  split at h
  .rename_i c r i
   split at h
   .rename_i C D dc t a j b
    split at h
    .rename_i u y A E hr
     split at h
     .rename_i F k
      split at h
      .rename_i G l
       cases h
       refine⟨o,q,r,t,dc,u,(hT.row hr).1,λw=>(hT.row k).zero l w,λact hf v w w' f=>?_⟩;obtain⟨dst,op,type,pos,after,guard⟩:=o;simp only at i
       subst i;obtain⟨callee,args,argTypes⟩:=c;simp only at a j b f
       subst a;have g:=G4 (hf.evs j);have p:argTypes=#[t]:=by obtain⟨ats⟩:=argTypes;simp only at b;subst b;rfl
       subst p;simp only[execOp,resolve,g];exact(Xh (show _=Result.ok _ w from rfl)).trans ((Xh (x:=v) (w':=w') f).trans rfl)
      .cases h
     .cases h
    .cases h
   .cases h
  .cases h
 .cases h
theorem Xa.clear(hT:Xp P T){g o' m:Nat}{z:Value}{cur:List Value}{t:TypeId}(h:Tr T s e=some (some ⟨g,o',none⟩,m,z,s'))(hg':w.heap[g]?=some (.cells cur.toArray t (0,0)))(hz:z.cells=#[z])(h1:z.oneCell'=true)(hn:0<m)(hfit:o'+m<=cur.length)(hg:∀w1,w1.heap[g]?=some (.cells (cur.take o'++List.replicate m z++cur.drop (o'+m)).toArray t (0,0))->Xc (λb=>b=g) w w1->w1.heap.size=w.heap.size->Xa P f R n ds s' e w1):Xa P f R n ds s e w:=by
 obtain⟨o,i,j,t',dc,elem,k,l,d⟩:=XdO (n:=n) hT h;have c:=XmA (P:=P) w t' elem o.type z k l hz h1 g o' m dc cur.toArray t hg' hn (by simpa using hfit);exact Xa.head (fl:=false) (v:=.tuple #[]) (e':=e) i (by rw[j];rfl) (λa hf=>.inl (d a hf _ _ _ c)) (hg _ (by simpa using setRow_heap w g cur.toArray _ t _ hg') XdM (by simp))
theorem Xa.clear0(hT:Xp P T){d:Option Addr}{m:Nat}{z:Value}{s2:List Item}{e2:Env}(h:Tr T s e=some (d,m,z,s'))(h0:m=0)(ha:Go.Proofs.YtdeihcnepljjaaaGreatDoor.adv T n 400 s' e=(s2,e2))(hg:Xa P f R n ds s2 e2 w):Xa P f R n ds s e w:=by
 subst h0;obtain⟨o,g,i,t',dc,elem,j,k,c⟩:=XdO (n:=n) hT h;have b:(Builtin.clear_ #[t'] o.type #[.slice d 0 dc]).run P w=.ok (.tuple #[]) w:=by
  cases d <;> simp[Builtin.clear_,run_underlying j]
 exact Xa.head (fl:=false) (v:=.tuple #[]) (e':=e) g (by rw[i];rfl) (λa hf=>.inl (c a hf _ _ _ b)) (Xa.adv hT 400 ha hg)
def Xcn(ns:List Int):ByteArray:=ns.foldl (λr n=>r.push (UInt8.ofNat n.toNat)) ByteArray.empty
def Xco(e:Env)(o:Oper):Option (Bool×ByteArray×ByteArray):=
 match o.op with
 |.binOp .eql _ x y _=>match ev e x,ev e y with
  |some (.string a),some (.string b)=>some (true,a,b)
  |_,_=>none
 |.binOp .neq _ x y _=>match ev e x,ev e y with
  |some (.string a),some (.string b)=>some (false,a,b)
  |_,_=>none
 |_=>none
theorem XnG{p:Bool}{a b:ByteArray}{o:Oper}(h:Xco e o=some (p,a,b))(hab:a=b)(act:Act)(hf:X7 n act e)(w:World):(execOp act.eval o).run P w=.ok (.value (.bool p)) w:=by
 subst hab;unfold Xco at h;split at h
 all_goals first|(cases h;done)|skip
 all_goals
  rename_i t x y t' c
  split at h
  .rename_i g i d f
   cases h
   simp only[execOp,c,hf.ev d,hf.ev f];refine(Xh (x:=(.bool _:Value)) (w':=w) ?_).trans rfl;refine(Xh (show(eqGuard _ _ _ _ (.string a) (.string a)).run P w=.ok () w from rfl)).trans ?_;simp only[binOp,Op.stringOp];simp[Sem.run_pure]
  .cases h
theorem Xa.streq(hT:Xp P T){p:Bool}{a b:ByteArray}{d:Nat}{s2:List Item}{e2:Env}(h:Yy (Xco e) n s e=some ((p,a,b),d,s'))(hab:a=b)(ha:Go.Proofs.YtdeihcnepljjaaaGreatDoor.adv T n 400 s' ((d,true,.bool p)::e)=(s2,e2))(hg:Xa P f R n ds s2 e2 w):Xa P f R n ds s e w:=by
 refine Xa.val h (λ_ i a hf=>XnG i hab a hf w) ?_;exact Xa.know (t:=d) (b:=true) (v:=.bool p) (by simp[look]) ((Xa.adv hT 400 ha hg).weaken λt v c=>by
  rw[Kq] at c⊢;by_cases g:t=d
  .rw[if_pos g] at c⊢;exact c
  .rw[if_neg g] at c⊢;rw[Kq,if_neg g];exact c)
def Xa9(T:Tab)(e:Env)(o:Oper):Option (Addr×Nat×Nat):=
 match o.op with
 |.convert src dst x=>match ev e x,row T src,row T dst with
  |some (.slice (some a) n c),some {und:=.slice q,..},some {und:=.slice _,..}=>match row T q with
   |some {und:=.int .u8,..}=>match Nat.beq src dst with
    |true=>some (a,n,c)
    |false=>none
   |_=>none
  |_,_,_=>none
 |_=>none
theorem Xkd(hT:Xp P T){a:Addr}{m c:Nat}{o:Oper}{cs:Array Value}{t:TypeId}{fz:Nat×Nat}(h:Xa9 T e o=some (a,m,c))(hb:w.heap[a.block]?=some (.cells cs t fz))(act:Act)(hf:X7 n act e):(execOp act.eval o).run P w=.ok (.value (.slice (some a) m c)) (w.freeze {block:=a.block,off:=cs.size} 1):=by
 unfold Xa9 at h;split at h
 .rename_i src dst x g
  split at h
  .rename_i p r s q _ _ _ q' _ _ _ k b d
   split at h
   .rename_i _ _ _ l
    split at h
    .rename_i f
     cases h
     have i:=Nat.eq_of_beq_eq_true f;subst i;rw[b] at d;simp only[Option.some.injEq,Df.mk.injEq,TypeDesc.slice.injEq] at d;obtain⟨rfl,_⟩:=d;simp only[execOp,g,hf.ev k];refine(Xh (x:=(.slice (some a) m c:Value)) (w':=w.freeze {block:=a.block,off:=cs.size} 1) ?_).trans rfl;unfold convert;refine(Xh ((hT.row b).underlying w)).trans ((Xh ((hT.row b).underlying w)).trans ((Xh ((hT.row l).underlying w)).trans ?_));have j:w.shape? a.block=some (t,cs.size):=by unfold World.shape?;rw[hb]
     simp[markStringish,j]
    .cases h
   .cases h
  .cases h
 .cases h
theorem XiD{a:Addr}{m:Nat}:Xc (λb=>b=a.block) w (w.freeze a m):=by
 unfold World.freeze;split
 .exact Xc.refl _ _
 .exact⟨rfl,rfl,rfl,by simp,λb d c=>by simp[Array.getElem?_modify,Ne.symm c]⟩
theorem Xi8{b off:Nat}{cs:Array Value}{t:TypeId}{fz:Nat×Nat}(hb:w.heap[b]?=some (.cells cs t fz)):∃fz',(w.freeze {block:=b,off:=off} 1).heap[b]?=some (.cells cs t fz'):=by
 unfold World.freeze;rw[if_neg (by decide)];simp only[Array.getElem?_modify,if_true,hb,Option.map_some];obtain⟨lo,a⟩:=fz;exact⟨_,rfl⟩
theorem Xa.mark(hT:Xp P T){b off m c d:Nat}{cs:Array Value}{t:TypeId}{fz:Nat×Nat}(h:Yy (Xa9 T e) n s e=some ((⟨b,off,none⟩,m,c),d,s'))(hb:w.heap[b]?=some (.cells cs t fz))(hg:∀w1 fz',w1.heap[b]?=some (.cells cs t fz')->Xc (λx=>x=b) w w1->w1.heap.size=w.heap.size->Xa P f R n ds s' ((d,false,.slice (some ⟨b,off,none⟩) m c)::e) w1):Xa P f R n ds s e w:=by
 obtain⟨fz',g⟩:=Xi8 (w:=w) (off:=cs.size) hb;exact Xa.val h (λ_ i a hf=>Xkd hT i hb a hf) (hg _ fz' g (XiD (a:=⟨b,cs.size,none⟩)) (by unfold World.freeze;rw[if_neg (by decide)];simp))
end
end Go.Proofs.YtdeihcnepljjaaaGreatDoor
