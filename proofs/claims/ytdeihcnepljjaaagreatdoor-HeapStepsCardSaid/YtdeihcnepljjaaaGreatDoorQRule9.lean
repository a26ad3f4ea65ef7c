/-
  Rule9
-/
import Derived.Test.YtdeihcnepljjaaaGreatDoorQRule8
namespace Go.Proofs.YtdeihcnepljjaaaGreatDoor
open Go.RowKit
section
variable {P:Program}{T:Tab}{ops:Array Oper}{f:FuncId}{R:Aim}{k:List Item}{q n:Nat}{ds:List Deferred}{s s':List Item}{w w0:World}{e e':Env}{U:List Nat}{S:Nat->Prop}
def bstrN(T:Tab)(e:Env)(o:Oper):Option (Option Addr×Nat):=
 match o.op with
 |.convert src dst x=>match ev e x,row T src,row T dst with
  |some (.slice a n _),some {und:=.slice q,..},some {und:=.string,..}=>match row T q with
   |some {und:=.int .u8,..}=>some (a,n)
   |_=>none
  |_,_,_=>none
 |_=>none
theorem Xjg(hT:Xp P T){a:Option Addr}{m:Nat}{ns:List Int}{o:Oper}(h:bstrN T e o=some (a,m))(hl:ns.length=m)(hr:Rd .u8 w a ns)(act:Act)(hf:Za n act e):(execOp act.eval o).run P w=.ok (.value (.string (XcR ns))) w:=by
 subst hl;unfold bstrN at h;split at h
 .rename_i src dst x d
  split at h
  .rename_i l p f q _ _ _ _ _ _ g i j
   split at h
   .rename_i _ _ _ k
    cases h
    simp only[execOp,d,hf.ev g];refine(Xh (x:=(.string (XcR ns):Value)) (w':=w) ?_).trans rfl;unfold convert;refine(Xh ((hT.row i).underlying w)).trans ((Xh ((hT.row j).underlying w)).trans ((Xh ((hT.row k).underlying w)).trans ?_));cases a with
    |none=>
     have:ns=[]:=by
      cases ns with
      |nil=>rfl
      |cons x r=>obtain⟨b,off,e,_⟩:=hr 0 xS;cases e
     subst this;rfl
    |some a=>
     have c:=run_loadCells_list (P:=P) w a (ns.map (Value.int .u8)) hr.cells;rw[List.length_map] at c;exact run_bytesToString (P:=P) w a ns.length f ns c
   .cases h
  .cases h
 .cases h
theorem Xa.bstrN(hT:Xp P T){a:Option Addr}{m d:Nat}(ns:List Int){s2:List Item}{e2:Env}(h:Qb (bstrN T e) n s e=some ((a,m),d,s'))(hl:ns.length=m)(hr:Rd .u8 w a ns)(ha:Go.Proofs.YtdeihcnepljjaaaGreatDoor.adv T n 400 s' ((d,false,.string (XcR ns))::e)=(s2,e2))(hg:Xa P f R n ds s2 e2 w):Xa P f R n ds s e w:=
 Xa.val h (λ_ b a hf=>Xjg hT b hl hr a hf) (Xa.adv hT 400 ha hg)
def Og(S:Nat->Prop)(k:IntKind)(w:World)(a:Option Addr)(zs:List Int):Prop:=Rd k w a zs/\∀b off s,a=some ⟨b,off,s⟩->0<zs.length -> ¬S b
theorem Og.bR{S:Nat->Prop}{k:IntKind}{w w':World}{a:Option Addr}{zs:List Int}(h:Og S k w a zs)(hc:Xc S w w'):Og S k w' a zs:=⟨λi hi=>by
 obtain⟨b,off,e,c⟩:=h.1 i hi;exact⟨b,off,e,hc.cell c (h.2 b off none e X)⟩,h.2⟩
theorem XkP(hT:Xp P T){t:Nat}{r:Db}{b off:Nat}{vs:List Value}(hr:row T t=some r)(ha:I9 r=true)(hl:vs.length=r.size)(hc:∀j v,vs[j]?=some v->w.cell? ⟨b,off+j,none⟩=some v):(loadVar t ⟨b,off,none⟩).run P w=.ok (.agg vs.toArray) w:=by
 have a:=run_loadCells_list (P:=P) w ⟨b,off,none⟩ vs (λj v c=>by rw[C0];exact hc j v c);unfold loadVar;refine(Xh ((hT.row hr).isAgg w)).trans ?_;rw[ha];simp only[if_true];refine(Xh ((hT.row hr).sizeOf w)).trans ?_;rw[<-hl];exact(Xh a).trans rfl
theorem Xfr(hT:Xp P T){b off m:Nat}{vs:List Value}{o:Oper}(h:Cj T e o=some (b,off,some m))(hl:vs.length=m)(hc:∀j v,vs[j]?=some v->w.cell? ⟨b,off+j,none⟩=some v)(a:Act)(hf:Za n a e):(execOp a.eval o).run P w=.ok (.value (.agg vs.toArray)) w:=by
 unfold Cj at h;split at h
 .rename_i t x d
  split at h
  .rename_i i f r g hr
   split at h
   .rename_i c
    cases h
    simp only[execOp,d,hf.ev g];refine(Xh (x:=(.agg vs.toArray:Value)) (w':=w) ?_).trans rfl;simp only[Instr.loadAt,Instr.sureAddr];exact(Xh (show(pure _:Sem Addr).run P w=.ok _ w from rfl)).trans (XkP hT hr c hl hc)
   .cases h
  .cases h
 .cases h
theorem Xa.loadC(hT:Xp P T){b off m d:Nat}(vs:List Value){s2:List Item}{e2:Env}(h:Qb (Cj T e) n s e=some ((b,off,some m),d,s'))(hl:vs.length=m)(hc:∀j v,vs[j]?=some v->w.cell? ⟨b,off+j,none⟩=some v)(ha:Go.Proofs.YtdeihcnepljjaaaGreatDoor.adv T n 400 s' ((d,false,.agg vs.toArray)::e)=(s2,e2))(hg:Xa P f R n ds s2 e2 w):Xa P f R n ds s e w:=
 Xa.val h (λ_ c a hf=>Xfr hT c hl hc a hf) (Xa.adv hT 400 ha hg)
theorem Xd.loadC(hT:Xp P T)(hB:Z0 ops q=true){b off m d i:Nat}(vs:List Value){U2:List Nat}{e2:Env}(h:Au (Cj T e) n ops q U e U=some ((b,off,some m),d,i))(hl:vs.length=m)(hc:∀j v,vs[j]?=some v->w0.cell? ⟨b,off+j,none⟩=some v)(hS:¬S b)(ha:Z7 T n ops q (Xv i U) (Xv i U) ((d,false,.agg vs.toArray)::e)=(U2,e2))(hg:Xd P f R n ds k ops q S U2 e2 w0 w):Xd P f R n ds k ops q S U e w0 w:=
 Xd.val hT hB h (λ_ g a _ c hf=>Xfr hT g hl (λj v l=>c.cell (hc j v l) hS) a hf) ha hg
theorem Xo.alloc0(hT:Xp P T){l:List Value}{t d i:Nat}(h:Cp (I4 T e) n ops e i=some ((l,t),d))(hg:∀b w1,b=w.heap.size->w1.heap[b]?=some (.cells l.toArray t (0,0))->Xc Xf w w1->w1.heap.size=w.heap.size+1->Xd P f R n ds k ops q S (Xv i U) ((d,false,.pointer (some ⟨b,0,none⟩))::e) w0 w1):Xo P f R n ds k ops q S U i e w0 w:=by
 obtain⟨o,s,u,v,c,x⟩:=Mq h;intro a g hf m p y z;unfold opG;rw[Bx s];simp only[D6 hf u,if_true];unfold Em;rw[Ty hT x a hf];have r:=z.up (E5 (w:=w) (.cells l.toArray t) Xf);exact⟨r,hg _ _ rfl xS (E5 _ _) xS _ (by cases o.dst <;> exact g) (Gq (by rw[v];exact Lz c) a hf) (m.rm (p _ y)) (λj A=>p j ((Hx m.1.1).1 A).1) r⟩
def Pd:List Nat->Env->Env->List (Option Value)
 |_,[],_=>[]
 |seen,(t,_,_)::r,e=>(bif Dp t seen then none else look e t)::Pd (t::seen) r e
def Py:List Nat->Env->List (Option Value)
 |_,[]=>[]
 |seen,(t,_,v)::r=>(bif Dp t seen then none else some v)::Py (t::seen) r
theorem XhO:∀{r e:Env} {seen:List Nat},Pd seen r e=Py seen r -> ∀t v,Dp t seen=false->look r t=some v->look e t=some v
 |[],e,seen,_,t,v,_,h=>by simp[look] at h
 |(u,b,x)::r,e,seen,hs,t,v,ht,h=>by
  simp only[Pd,Py,List.cons.injEq] at hs;rw[Kx] at h;by_cases he:t=u
  .subst he;rw[if_pos rfl] at h;rw[ht] at hs;exact hs.1.trans h
  .rw[if_neg he] at h;exact XhO hs.2 t v (by rw[R6] at ht⊢;intro hm;rcases List.mem_cons.1 hm with h1|h1;exact he h1;exact ht h1) h
theorem Xd.subst(hs:Pd [] e' e=Py [] e')(h:Xd P f R n ds k ops q S U e' w0 w):Xd P f R n ds k ops q S U e w0 w:=h.weaken λt v=>XhO hs t v rfl
def Rp(ops:Array Oper)(i j:Nat):Nat×Nat:=match Av ops.toList i with
 |some o=>match o.op with
  |.call _=>(i,j)
  |_=>(j,i)
 |none=>(j,i)
theorem Xea(ops:Array Oper)(i j:Nat):Rp ops i j=(i,j)\/Rp ops i j=(j,i):=by
 unfold Rp;split
 .split
  .exact .inl rfl
  .exact .inr rfl
 .exact .inr rfl
theorem Xd.callAlloc{β:Type}(F:β->Value)(Q:β->World->Prop)(hT:Xp P T)(hB:Z0 ops q=true){i j ic ia fk dc da t:Nat}{as l:List Value}{U2 U3:List Nat}{e2:β->Env}{e3:Nat->β->Env}(hU:C3 ops q U U=[i,j])(hp:Rp ops i j=(ic,ia))(hc:Cp (Gj e) n ops e ic=some ((fk,as),dc))(hc':∀b,Cp (Gj ((da,false,.pointer (some ⟨b,0,none⟩))::e)) n ops ((da,false,.pointer (some ⟨b,0,none⟩))::e) ic=some ((fk,as),dc))(ha:Cp (I4 T e) n ops e ia=some ((l,t),da))(had:∀x,Z7 T n ops q (Xv ic U) (Xv ic U) ((dc,false,F x)::e)=(U2,e2 x))(ha':∀x,Cp (I4 T (e2 x)) n ops (e2 x) ia=some ((l,t),da))(hfa:C3 ops q U2 U2=[ia])(hfc:C3 ops q (Xv ia U) (Xv ia U)=[ic])(had':∀b x,Z7 T n ops q (Xv ic (Xv ia U)) (Xv ic (Xv ia U)) ((dc,false,F x)::(da,false,.pointer (some ⟨b,0,none⟩))::e)=(U3,e3 b x))(h23:Xv ia U2=U3)(hsub:∀b x,Pd [] ((da,false,.pointer (some ⟨b,0,none⟩))::e2 x) (e3 b x)=Py [] ((da,false,.pointer (some ⟨b,0,none⟩))::e2 x))(hd:∀w',Xc Xf w w'->Xe P fk as.toArray w' (λv w2=>Xc S w' w2/\∃x,v=F x/\Q x w2))(hQ:∀x w2 w3,Q x w2->Xc Xf w2 w3->Q x w3)(hS:∀b,S b->b<w.heap.size)(hg:∀b x w1,w.heap.size<=b->w1.heap[b]?=some (.cells l.toArray t (0,0))->Xc S w w1->Q x w1->Xd P f R n ds k ops q S U3 ((da,false,.pointer (some ⟨b,0,none⟩))::e2 x) w0 w1):Xd P f R n ds k ops q S U e w0 w:=by
 have C:=(hd w (Xc.refl _ _)).fn;have p:(i=ic/\j=ia)\/(i=ia/\j=ic):=by
  rcases Xea ops i j with h|h <;> rw[hp] at h <;> simp only[Prod.mk.injEq] at h
  .exact .inl ⟨h.1.symm,h.2.symm⟩
  .exact .inr ⟨h.2.symm,h.1.symm⟩
 have m:∀w',Xc Xf w w'->Xo P f R n ds k ops q S U ic e w0 w':=λw' a=>by
  refine Xo.call (Post:=λv w2=>Xc S w w2/\∃x,v=F x/\Q x w2) hc C (λy=>(hd w' a).mono λv w2 ⟨d,o⟩=>⟨y.trans d,(a.mono λ_ _ h=>h.elim).trans d,o⟩) λv w1 _ ⟨D,x,z,E⟩=>?_;subst z;refine Xd.adv hT hB (had x) ?_;refine Xd.cK hB hfa λw2 c=>?_;refine Xo.alloc0 hT (ha' x) λb w3 A B r _=>?_;rw[h23];have s:=D.up c;exact hg b x w3 (by rw[A];exact s.size) B (s.up r) (hQ _ _ _ E (c.trans r))
 have g:∀w',Xc Xf w w'->Xo P f R n ds k ops q S U ia e w0 w':=λw' a=>by
  refine Xo.alloc0 hT ha λb w1 A B u _=>?_;refine Xd.cK hB hfc λw2 c=>?_;refine Xo.call (Post:=λv w3=>Xc S w w3/\(∃x,v=F x/\Q x w3)/\w3.heap[b]?=some (.cells l.toArray t (0,0))) (hc' b) C (λy=>(hd w2 ((a.trans u).trans c)).mono λv w3 ⟨d,o⟩=>
   ⟨y.trans d,(((a.trans u).trans c).mono λ_ _ h=>h.elim).trans d,o,d.heap (c.bP B) (λG=>xI (hS b G) a.size)⟩) λv w3 _ ⟨d,⟨x,z,o⟩,H⟩=>?_
  subst z;exact Xd.adv hT hB (had' b x) (Xd.subst (hsub b x) (hg b x w3 (by rw[A];exact a.size) H d o))
 refine Xd.turn2 hB hU ?_ ?_
 .intro w' a;rcases p with⟨rfl,rfl⟩|⟨rfl,rfl⟩
  .exact m w' a
  .exact g w' a
 .intro w' a;rcases p with⟨rfl,rfl⟩|⟨rfl,rfl⟩
  .exact g w' a
  .exact m w' a
end
end Go.Proofs.YtdeihcnepljjaaaGreatDoor
