/-
  Rule15
-/
import Derived.Test.YtdeihcnepljjaaaGreatDoorQRule14
namespace Go.Proofs.YtdeihcnepljjaaaGreatDoor
open Go.RowKit
section
variable {P:Program}{T:Tab}{ops:Array Oper}{f:FuncId}{R:Aim}{k:List Item}{q n:Nat}{ds:List Deferred}{s s':List Item}{w w0:World}{e:Env}{U:List Nat}{S:Nat->Prop}
def Ml(T:Tab)(e:Env)(o:Oper):Option (Value×Option Addr×Nat×Nat×Nat×Nat×Nat×Value):=
 match o.op with
 |.call c=>match c.callee,evs e c.args.toList,c.argTypes.toList with
  |.builtin .append,some [v,.slice a m cc],[t,t']=>match Nat.beq t t',row T t with
   |true,some {und:=.slice q,..}=>match row T q with
    |some r2=>match r2.zero with
     |some z=>match Nat.beq (Y8 z).length r2.size,Nat.blt 0 r2.size with
      |true,true=>some (v,a,m,cc,q,r2.size,r2.bytes,z)
      |_,_=>none
     |none=>none
    |none=>none
   |_,_=>none
  |_,_,_=>none
 |_=>none
theorem XiR{v z:Value}{a:Addr}{m cc q size by':Nat}{o:Oper}(h:Ml T e o=some (v,some a,m,cc,q,size,by',z)):Rn T e o=some (v,a,m,cc,q,size,by',z):=by
 unfold Ml at h;split at h
 .rename_i c f
  split at h
  .rename_i s u w x t t' b g i
   split at h
   .rename_i y p r A j hr
    split at h
    .rename_i B k
     split at h
     .rename_i C l
      split at h
      .rename_i n d
       cases h
       unfold Rn;simp only[f,b,g,i,j,hr,k,l,n,d]
      .cases h
     .cases h
    .cases h
   .cases h
  .cases h
 .cases h
theorem Xnu{t ty q:TypeId}{i:TypeInfo}(ht:P.underlying t=some (.slice q))(hi:P.info? q=some i){b:Option Addr}{m c cc:Nat}(hm:m<=c):(Builtin.append_ #[t,t] ty #[.slice b m c,.slice none 0 cc]).run P w=.ok (.slice b m c) w:=by
 cases b with
 |none=>simp[Builtin.append_,run_underlying ht,sizeOf,typeInfo,hi,Builtin.lenOf,Builtin.firstCells,hm]
 |some a=>simp[Builtin.append_,run_underlying ht,sizeOf,typeInfo,hi,Builtin.lenOf,Builtin.firstCells,hm,storeCells]
theorem XaG(hT:Xp P T){v z:Value}{a:Option Addr}{m cc q size by' base j:Nat}{xs news:List Value}{o:Oper}(h:Ml T e o=some (v,a,m,cc,q,size,by',z))(hown:Xm base q size w v j xs)(hbase:base<=w.heap.size)(hnone:a=none->m=0)(hl:news.length=m*size)(hnews:∀i u,news[i]?=some u -> ∃a',a=some a'/\w.cell? (a'.add i)=some u)(h1:∀u∈news,u.oneCell'=true)(hb:j+m<=maxLen/\(j+m)*by'<=140737488355328):∃v' w',(∀act,Za n act e->(execOp act.eval o).run P w=.ok (.value v') w')/\Xm base q size w' v' (j+m) (xs++news)/\w.grownBy w' v.ownBlock/\((v'=.slice none 0 0↔v=.slice none 0 0/\m=0)/\(v'.ownBlock=v.ownBlock\/v'.ownBlock=some w.heap.size)):=by
 cases a with
 |some a'=>exact XdO hT (XiR h) hown hbase hl (λi u y=>by obtain⟨N,e2,A⟩:=hnews i u y;cases e2;exact A) h1 hb
 |none=>
  have hm:=hnone rfl;subst hm;have G:=List.eq_nil_of_length_eq_zero (xU hl);subst G;unfold Ml at h;split at h
  .rename_i c r
   split at h
   .rename_i O Q R S t t' d s f
    split at h
    .rename_i U J K V C hr
     split at h
     .rename_i r2 D
      split at h
      .rename_i z2 L
       split at h
       .rename_i M H
        cases h
        have B:=Nat.eq_of_beq_eq_true C;subst B;have hi:=(hT.row D).2;have y:=(hT.row hr).1;cases k:P.info? q with
        |none=>rw[k] at hi;cases hi
        |some inf=>
         have I:∃b mm l,v=.slice b mm l/\mm<=l:=by
          rcases hown.2 with⟨h,_⟩|⟨g,cap,cur,h,_,_,A,_⟩
          .exact⟨none,0,0,h,Nat.le_refl _⟩
          .exact⟨some ⟨g,0,none⟩,j,cap,h,A⟩
         obtain⟨b,mm,l,rfl,E⟩:=I;refine⟨.slice b mm l,w,λact hf=>?_,by rw[List.append_nil];exact hown,⟨rfl,rfl,rfl,Nat.le_refl _,λ_ _ _=>rfl⟩,⟨⟨λh=>⟨h,rfl⟩,λh=>h.1⟩,.inl rfl⟩⟩;obtain⟨dst,op,type,pos,after,guard⟩:=o;simp only at r
         subst r;obtain⟨callee,args,argTypes⟩:=c;simp only at d s f
         subst d;have p:=G8 (hf.evs s);have F:argTypes=#[t,t]:=by obtain⟨ats⟩:=argTypes;simp only at f;subst f;rfl
         subst F;simp only[execOp,resolve,p];exact(Xh (show _=Result.ok _ w from rfl)).trans ((Xh (x:=(.slice b mm l:Value)) (w':=w) (Xnu y k E)).trans rfl)
       .cases h
      .cases h
     .cases h
    .cases h
   .cases h
  .cases h
theorem Xa.appendA(hT:Xp P T){v z:Value}{a:Option Addr}{m cc qq size by' base j d:Nat}{xs news:List Value}(h:Qb (Ml T e) n s e=some ((v,a,m,cc,qq,size,by',z),d,s'))(hown:Xm base qq size w v j xs)(hbase:base<=w.heap.size)(hnone:a=none->m=0)(hl:news.length=m*size)(hnews:∀i u,news[i]?=some u -> ∃a',a=some a'/\w.cell? (a'.add i)=some u)(h1:∀u∈news,u.oneCell'=true)(hb:j+m<=maxLen/\(j+m)*by'<=140737488355328)(hg:∀v' w1,Xm base qq size w1 v' (j+m) (xs++news)->Xc (J3 v) w w1->((v'=.slice none 0 0↔v=.slice none 0 0/\m=0)/\(v'.ownBlock=v.ownBlock\/v'.ownBlock=some w.heap.size))->Xa P f R n ds s' ((d,false,v')::e) w1):Xa P f R n ds s e w:=by
 obtain⟨o,c,g,b,k⟩:=Mp h;obtain⟨v',w',l,p,q,r⟩:=XaG (n:=n) hT k hown hbase hnone hl hnews h1 hb;exact Xa.head c (by rw[g];exact K2 b) (λa hf=>.inl (l a hf)) (hg v' w' p (Ot q) r)
theorem Xo.appendA(hT:Xp P T)(hB:Z0 ops q=true){v z:Value}{a:Option Addr}{m cc qq size by' base j d i:Nat}{xs news:List Value}{U2:List Nat}{e2:Value->Env}(h:Cp (Ml T e) n ops e i=some ((v,a,m,cc,qq,size,by',z),d))(hown:Xm base qq size w v j xs)(hbase:base<=w.heap.size)(hnone:a=none->m=0)(hw0:w0.heap.size<=base)(hl:news.length=m*size)(hnews:∀i u,news[i]?=some u -> ∃a',a=some a'/\w.cell? (a'.add i)=some u)(h1:∀u∈news,u.oneCell'=true)(hb:j+m<=maxLen/\(j+m)*by'<=140737488355328)(ha:∀v',Z7 T n ops q (Xv i U) (Xv i U) ((d,false,v')::e)=(U2,e2 v'))(hg:∀v' w1,Xm base qq size w1 v' (j+m) (xs++news)->Xc (J3 v) w w1->((v'=.slice none 0 0↔v=.slice none 0 0/\m=0)/\(v'.ownBlock=v.ownBlock\/v'.ownBlock=some w.heap.size))->Xd P f R n ds k ops q S U2 (e2 v') w0 w1):Xo P f R n ds k ops q S U i e w0 w:=by
 obtain⟨o,x,y,A,g,B⟩:=Mq h;obtain⟨v',w',C,D,l,E⟩:=XaG (n:=n) hT B hown hbase hnone hl hnews h1 hb;have p:Xc S w0 w->Xc S w0 w':=λc=>c.bU (Ot l) (λb hb F=>by
  have:=(World.ownsRow.lt hown b F.symm).1;omega)
 intro a r hf s t G c;unfold opG;rw[Bx x];simp only[D6 hf y,if_true];unfold Em;rw[C a hf];exact⟨p c,Xd.adv hT hB (ha v') (hg v' w' D (Ot l) E) _ (by cases o.dst <;> exact r) (Gq (by rw[A];exact Lz g) a hf) (s.rm (t _ G)) (λj H=>t j ((Hx s.1.1).1 H).1) (p c)⟩
end
end Go.Proofs.YtdeihcnepljjaaaGreatDoor
