/-
  Rule6
-/
import Derived.Test.YtdeihcnepljjaaaGreatDoorQRule5
import Derived.Laws.AppendOwn
namespace Go.Proofs.YtdeihcnepljjaaaGreatDoor
open Go.RowKit
section
variable {P:Program}{T:Tab}{ops:Array Oper}{f:FuncId}{R:Aim}{k:List Item}{q n:Nat}{ds:List Deferred}{s s':List Item}{w w0:World}{e:Env}{U:List Nat}{S:Nat->Prop}
abbrev Xm(base t size:Nat)(w:World)(v:Value)(m:Nat)(xs:List Value):Prop:=w.ownsRow base t size v m xs
def Rn(T:Tab)(e:Env)(o:Oper):Option (Value×Addr×Nat×Nat×Nat×Nat×Nat×Value):=
 match o.op with
 |.call c=>match c.callee,evs e c.args.toList,c.argTypes.toList with
  |.builtin .append,some [v,.slice (some a) m cc],[t,t']=>match Nat.beq t t',row T t with
   |true,some {und:=.slice q,..}=>match row T q with
    |some r2=>match r2.zero with
     |some z=>match Nat.beq (Y8 z).length r2.size,Nat.blt 0 r2.size with
      |true,true=>some (v,a,m,cc,q,r2.size,r2.bytes,z)
      |_,_=>none
     |none=>none
    |none=>none
   |_,_=>none
  |_,_,_=>none
 |_=>none
theorem XiT{w:World}(base:Nat)(t ty e:TypeId)(i:TypeInfo)(z:Value)(size bytes:Nat)(ht:P.underlying t=some (.slice e))(hi:P.info? e=some i)(hz:i.zero=some z)(hsize:i.size=size)(hby:i.bytes=bytes)(v:Value)(n:Nat)(xs:List Value)(hown:w.ownsRow base e size v n xs)(a:Addr)(m c:Nat)(news:List Value)(hl:news.length=m*size)(hnews:∀j u,news[j]?=some u->w.cell? (a.add j)=some u)(h1:∀u∈news,u.oneCell'=true)(h63:n+m<=maxLen)(hbytes:(n+m)*bytes<=140737488355328){v':Value}{w':World}(hrun:(Builtin.append_ #[t,t] ty #[v,.slice (some a) m c]).run P w=.ok v' w'):v'.ownBlock=v.ownBlock\/v'.ownBlock=some w.heap.size:=by
 subst hsize;subst hby;have h:n+m<=9223372036854775807:=by simp only[maxLen] at h63;omega
 rcases hown.2 with⟨rfl,rfl⟩|⟨g,cap,cur,rfl,s,o,x,y,k,l⟩
 .have p:=List.eq_nil_of_length_eq_zero (xU hown.1);subst p;by_cases hm:m=0
  .subst hm;have q:=List.eq_nil_of_length_eq_zero (xU hl);subst q;have hr:(Builtin.append_ #[t,t] ty #[.slice none 0 0,.slice (some a) 0 c]).run P w=.ok (.slice none 0 0) w:=by
    simp[Builtin.append_,run_underlying ht,sizeOf,typeInfo,hi,Builtin.lenOf,Builtin.firstCells,loadCells,loadCellsFrom]
   rw[hr] at hrun;cases hrun
   exact .inl rfl
  .have hr:=run_append_nil (P:=P) w t ty e i z ht hi hz a m c news hl hnews X X (by have r:=hbytes;simp only[Nat.zero_add] at r;omega);rw[hr] at hrun;cases hrun
   exact .inr rfl
 .by_cases b:n+m<=cap
  .have f:n*i.size+news.length<=cur.size:=by rw[hl,k,<-Nat.add_mul];exact Nat.mul_le_mul_right _ b
   have hr:=run_append_room (P:=P) w t ty e i ht hi g n cap cur o a m c news hl hnews h1 b f;rw[hr] at hrun;cases hrun
   exact .inl rfl
  .have d:=hown.cells (g:=g) rfl;have hr:=run_append_grow (P:=P) w t ty e i z ht hi hz ⟨g,0,none⟩ n cap xs hown.1 d a m c news hl hnews X X (growslice_fits X hbytes);rw[hr] at hrun;cases hrun
   exact .inr rfl
theorem XdO(hT:Xp P T){v z:Value}{a:Addr}{m cc q size by' base j:Nat}{xs news:List Value}{o:Oper}(h:Rn T e o=some (v,a,m,cc,q,size,by',z))(hown:Xm base q size w v j xs)(hbase:base<=w.heap.size)(hl:news.length=m*size)(hnews:∀i u,news[i]?=some u->w.cell? (a.add i)=some u)(h1:∀u∈news,u.oneCell'=true)(hb:j+m<=maxLen/\(j+m)*by'<=140737488355328):∃v' w',(∀act,Za n act e->(execOp act.eval o).run P w=.ok (.value v') w')/\Xm base q size w' v' (j+m) (xs++news)/\w.grownBy w' v.ownBlock/\((v'=.slice none 0 0↔v=.slice none 0 0/\m=0)/\(v'.ownBlock=v.ownBlock\/v'.ownBlock=some w.heap.size)):=by
 unfold Rn at h;split at h
 .rename_i c p
  split at h
  .rename_i R S U V t t' f r g
   split at h
   .rename_i q1 O Q z1 C hr
    split at h
    .rename_i d D
     split at h
     .rename_i z2 s
      split at h
      .rename_i E y
       cases h
       have A:=Nat.eq_of_beq_eq_true C;subst A;have hi:=(hT.row D).2;have F:=(hT.row hr).1;cases b:P.info? q with
       |none=>rw[b] at hi;cases hi
       |some inf=>
        rw[b] at hi;simp only[Option.map_some,Option.some.injEq,Prod.mk.injEq] at hi;obtain⟨G,H,I⟩:=hi;have J:z.cells.size=d.size:=by
         have:=Nat.eq_of_beq_eq_true E;rw[<-Gl] at this;simpa using this
        have k:0<d.size:=by simpa [Nat.blt_eq] using y
        obtain⟨v',w',B,L,M,N⟩:=run_append_own (P:=P) w base t o.type q inf z d.size d.bytes F b (by rw[I,s]) G H J k v j xs hown a m cc news hl hnews h1 hb.1 hb.2 hbase;refine⟨v',w',λact hf=>?_,L,M,N,XiT base t o.type q inf z d.size d.bytes F b (by rw[I,s]) G H v j xs hown a m cc news hl hnews h1 hb.1 hb.2 B⟩;obtain⟨dst,op,type,pos,after,guard⟩:=o;simp only at p
        subst p;obtain⟨callee,args,argTypes⟩:=c;simp only at f r g B
        subst f;have l:=G8 (hf.evs r);have K:argTypes=#[t,t]:=by obtain⟨ats⟩:=argTypes;simp only at g;subst g;rfl
        subst K;simp only[execOp,resolve,l];exact(Xh (show _=Result.ok _ w from rfl)).trans ((Xh (x:=v') (w':=w') B).trans rfl)
      .cases h
     .cases h
    .cases h
   .cases h
  .cases h
 .cases h
def J3(v:Value):Nat->Prop:=λb=>some b=v.ownBlock
theorem Ot{w w':World}{row:Option Nat}(h:w.grownBy w' row):Xc (λb=>some b=row) w w':=⟨h.os,h.tape,h.output,h.size,λb a c=>h.block b a c⟩
theorem Xa.append(hT:Xp P T){v z:Value}{a:Addr}{m cc qq size by' base j d:Nat}{xs news:List Value}(h:Qb (Rn T e) n s e=some ((v,a,m,cc,qq,size,by',z),d,s'))(hown:Xm base qq size w v j xs)(hbase:base<=w.heap.size)(hl:news.length=m*size)(hnews:∀i u,news[i]?=some u->w.cell? (a.add i)=some u)(h1:∀u∈news,u.oneCell'=true)(hb:j+m<=maxLen/\(j+m)*by'<=140737488355328)(hg:∀v' w1,Xm base qq size w1 v' (j+m) (xs++news)->Xc (J3 v) w w1->((v'=.slice none 0 0↔v=.slice none 0 0/\m=0)/\(v'.ownBlock=v.ownBlock\/v'.ownBlock=some w.heap.size))->Xa P f R n ds s' ((d,false,v')::e) w1):Xa P f R n ds s e w:=by
 obtain⟨o,c,g,b,k⟩:=Mp h;obtain⟨v',w',l,p,q,r⟩:=XdO (n:=n) hT k hown hbase hl hnews h1 hb;exact Xa.head c (by rw[g];exact K2 b) (λa hf=>.inl (l a hf)) (hg v' w' p (Ot q) r)
def XhG(T:Tab)(ops:Array Oper)(e:Env)(i:Nat):Option (Nat×Nat×List Value):=
 match Av ops.toList i with
 |some o=>match Dl e ops o,o.dst with
  |some true,none=>match o.op with
   |.store t x y=>match ev e x,ev e y,row T t with
    |some (.pointer (some ⟨b,off,none⟩)),some v,some r=>match Nat.beq (Y8 v).length r.size with
     |true=>some (b,off,Y8 v)
     |false=>none
    |_,_,_=>none
   |_=>none
  |_,_=>none
 |none=>none
theorem Xo.store(hT:Xp P T)(hB:Z0 ops q=true){b off i:Nat}{vs c r:List Value}{t:TypeId}{U2:List Nat}{e2:Env}(h:XhG T ops e i=some (b,off,vs))(hc:w.heap[b]?=some (.cells c.toArray t (0,0)))(hS:b<w0.heap.size->S b)(hr:Ya c off vs=some r)(hp:vs.all Nr=true)(ha:Z7 T n ops q (Xv i U) (Xv i U) e=(U2,e2))(hg:∀w1,w1.heap[b]?=some (.cells r.toArray t (0,0))->Xc (λk=>k=b) w w1->w1.heap.size=w.heap.size->Xd P f R n ds k ops q S U2 e2 w0 w1):Xo P f R n ds k ops q S U i e w0 w:=by
 unfold XhG at h;split at h
 .rename_i o F
  split at h
  .rename_i G H
   split at h
   .rename_i t x y p
    split at h
    .rename_i V I v J d K s
     split at h
     .rename_i u
      cases h
      obtain⟨w1,l,L,g,M⟩:=XcN (P:=P) (off:=off) (Y8 v) 0 w c r hc hr hp;intro a z hf A B N O;have C:=O.bU g (λx d D=>by rw[D] at d⊢;exact hS d);unfold opG;rw[Bx F];simp only[D6 hf G,if_true];unfold Em;have E:(execOp a.eval o).run P w=.ok .skip w1:=by
       simp only[execOp,p,hf.ev d,hf.ev K];refine(Xh (x:=()) (w':=w1) ?_).trans rfl;simp only[Instr.storeAt,Instr.sureAddr];refine(Xh (show(pure _:Sem Addr).run P w=.ok _ w from rfl)).trans ?_;unfold storeVar;refine(Xh ((hT.row s).sizeOf w)).trans ?_;have m:v.cells.size=J.size:=by
        have:=Nat.eq_of_beq_eq_true u;rw[<-this,<-Gl];simp
       rw[if_neg (by simp[m]),Gl];exact l
      rw[E,H];exact⟨C,Xd.adv hT hB ha (hg w1 L g M) _ z hf (A.rm (B _ N)) (λj Q=>B j ((Hx A.1.1).1 Q).1) C⟩
     .cases h
    .cases h
   .cases h
  .cases h
 .cases h
end
theorem Xm.bR{base t size m:Nat}{S:Nat->Prop}{w w':World}{v:Value}{xs:List Value}(h:Xm base t size w v m xs)(hc:Xc S w w')(hs:∀b,some b=v.ownBlock -> ¬S b):Xm base t size w' v m xs:=by
 refine⟨h.1,?_⟩;rcases h.2 with a|⟨g,cap,cur,rfl,c,d,f⟩
 .exact .inl a
 .exact .inr ⟨g,cap,cur,rfl,c,hc.heap d (hs g rfl),f⟩
theorem Xm.form{base t size m:Nat}{w:World}{v:Value}{xs:List Value}(h:Xm base t size w v m xs)(hm:0<m):∃g cap cur,v=.slice (some ⟨g,0,none⟩) m cap/\base<=g/\w.heap[g]?=some (.cells cur t (0,0))/\m<=cap/\cap<=maxLen/\cur.toList.take (m*size)=xs:=by
 rcases h.2 with⟨_,a⟩|⟨g,cap,cur,a,b,c,d,f,_,i⟩
 .omega
 .exact⟨g,cap,cur,a,b,c,d,f,i⟩
theorem Rd.cells{k:IntKind}{w:World}{a:Addr}{zs:List Int}(h:Rd k w (some a) zs):∀i u,(zs.map (Value.int k))[i]?=some u->w.cell? (a.add i)=some u:=by
 intro i u c;rw[List.getElem?_map,Option.map_eq_some_iff] at c;obtain⟨z,d,rfl⟩:=c;have hi:=(List.getElem?_eq_some_iff.1 d).1;obtain⟨b,off,e,f⟩:=h i hi;cases e
 rw[C0,f];simp[d]
theorem J5{k:IntKind}{zs:List Int}:∀u∈zs.map (Value.int k),u.oneCell'=true:=by
 intro u a;obtain⟨z,_,rfl⟩:=List.mem_map.1 a;rfl
theorem Xm.empty{base t size b:Nat}{w:World}(hb:base<=b)(h:w.heap[b]?=some (.cells #[] t (0,0))):Xm base t size w (.slice (some ⟨b,0,none⟩) 0 0) 0 []:=
 ⟨xS,.inr ⟨b,0,#[],rfl,hb,h,Nat.le_refl _,xD,xS,xS⟩⟩
theorem Hs{w:World}{b:Nat}{u:Value}{t:TypeId}{fz:Nat×Nat}(h:w.heap[b]?=some (.cells #[u] t fz)):∀i x,[u][i]?=some x->w.cell? ((⟨b,0,none⟩:Addr).add i)=some x:=by
 intro i x a;rw[C0,Yx h]
 simpa using a
theorem Xm.bU{base t size m:Nat}{w0 w w':World}{v:Value}{xs:List Value}(h:Xm base t size w v m xs)(h0:Xc Xf w0 w)(hb:w0.heap.size<=base)(hc:Xc (J3 v) w w'):Xc Xf w0 w':=
 h0.bU hc λb c a=>xH (World.ownsRow.lt h b a.symm).1
theorem Rd.of_take{k:IntKind}{w:World}{g t:Nat}{fz:Nat×Nat}{cur:Array Value}{zs:List Int}(h:w.heap[g]?=some (.cells cur t fz))(hc:cur.toList.take zs.length=zs.map (Value.int k)):Rd k w (some ⟨g,0,none⟩) zs:=λi hi=>by
 refine⟨g,0,rfl,?_⟩;have a:(cur.toList.take zs.length)[i]?=(zs.map (Value.int k))[i]?:=by rw[hc]
 rw[List.getElem?_take,if_pos hi] at a;rw[Yx h];simp only[Nat.zero_add];rw[<-Array.getElem?_toList,a];simp[hi]
end Go.Proofs.YtdeihcnepljjaaaGreatDoor
