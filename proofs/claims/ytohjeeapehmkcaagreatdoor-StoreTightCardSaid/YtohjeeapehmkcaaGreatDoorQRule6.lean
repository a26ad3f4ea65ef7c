/-
  Rule6
-/
import Derived.Test.YtohjeeapehmkcaaGreatDoorQRule5
import Derived.Laws.AppendOwn
namespace Go.Proofs.YtohjeeapehmkcaaGreatDoor
open Go.RowKit
section
variable {P:Program}{T:Tab}{ops:Array Oper}{f:FuncId}{R:Aim}{k:List Item}{q n:Nat}{ds:List Deferred}{s s':List Item}{w w0:World}{e:Env}{U:List Nat}{S:Nat->Prop}
abbrev Xl(base t size:Nat)(w:World)(v:Value)(m:Nat)(xs:List Value):Prop:=w.ownsRow base t size v m xs
def Na(T:Tab)(e:Env)(o:Oper):Option (Value×Addr×Nat×Nat×Nat×Nat×Nat×Value):=
 match o.op with
 |.call c=>match c.callee,evs e c.args.toList,c.argTypes.toList with
  |.builtin .append,some [v,.slice (some a) m cc],[t,t']=>match Nat.beq t t',row T t with
   |true,some {und:=.slice q,..}=>match row T q with
    |some r2=>match r2.zero with
     |some z=>match Nat.beq (Y8 z).length r2.size,Nat.blt 0 r2.size with
      |true,true=>some (v,a,m,cc,q,r2.size,r2.bytes,z)
      |_,_=>none
     |none=>none
    |none=>none
   |_,_=>none
  |_,_,_=>none
 |_=>none
theorem Xhw{w:World}(base:Nat)(t ty e:TypeId)(i:TypeInfo)(z:Value)(size bytes:Nat)(ht:P.underlying t=some (.slice e))(hi:P.info? e=some i)(hz:i.zero=some z)(hsize:i.size=size)(hby:i.bytes=bytes)(v:Value)(n:Nat)(xs:List Value)(hown:w.ownsRow base e size v n xs)(a:Addr)(m c:Nat)(news:List Value)(hl:news.length=m*size)(hnews:∀j u,news[j]?=some u->w.cell? (a.add j)=some u)(h1:∀u∈news,u.oneCell'=true)(h63:n+m<=maxLen)(hbytes:(n+m)*bytes<=140737488355328){v':Value}{w':World}(hrun:(Builtin.append_ #[t,t] ty #[v,.slice (some a) m c]).run P w=.ok v' w'):v'.ownBlock=v.ownBlock\/v'.ownBlock=some w.heap.size:=by
 subst hsize;subst hby;have k:n+m<=9223372036854775807:=by simp only[maxLen] at h63;omega
 rcases hown.2 with⟨rfl,rfl⟩|⟨g,cap,cur,rfl,y,p,A,B,l,o⟩
 ·have q:=List.eq_nil_of_length_eq_zero (by simpa using hown.1);subst q;by_cases r:m=0
  ·subst r;have s:=List.eq_nil_of_length_eq_zero (by simpa using hl);subst s;have b:(Builtin.append_ #[t,t] ty #[.slice none 0 0,.slice (some a) 0 c]).run P w=.ok (.slice none 0 0) w:=by
    simp[Builtin.append_,run_underlying ht,sizeOf,typeInfo,hi,Builtin.lenOf,Builtin.firstCells,loadCells,loadCellsFrom]
   rw[b] at hrun;cases hrun
   exact .inl rfl
  ·have b:=run_append_nil (P:=P) w t ty e i z ht hi hz a m c news hl hnews (by omega) (by omega) (by have x:=hbytes;simp only[Nat.zero_add] at x;omega);rw[b] at hrun;cases hrun
   exact .inr rfl
 ·by_cases d:n+m<=cap
  ·have h:n*i.size+news.length<=cur.size:=by rw[hl,l,<-Nat.add_mul];exact Nat.mul_le_mul_right _ d
   have b:=run_append_room (P:=P) w t ty e i ht hi g n cap cur p a m c news hl hnews h1 d h;rw[b] at hrun;cases hrun
   exact .inl rfl
  ·have f:=hown.cells (g:=g) rfl;have b:=run_append_grow (P:=P) w t ty e i z ht hi hz ⟨g,0,none⟩ n cap xs hown.1 f a m c news hl hnews (by omega) (by omega) (growslice_fits (by omega) hbytes);rw[b] at hrun;cases hrun
   exact .inr rfl
theorem Vy(hT:Xq P T){v z:Value}{a:Addr}{m cc q size by' base j:Nat}{xs news:List Value}{o:Oper}(h:Na T e o=some (v,a,m,cc,q,size,by',z))(hown:Xl base q size w v j xs)(hbase:base<=w.heap.size)(hl:news.length=m*size)(hnews:∀i u,news[i]?=some u->w.cell? (a.add i)=some u)(h1:∀u∈news,u.oneCell'=true)(hb:j+m<=maxLen/\(j+m)*by'<=140737488355328):∃v' w',(∀act,X8 n act e->(execOp act.eval o).run P w=.ok (.value v') w')/\Xl base q size w' v' (j+m) (xs++news)/\w.grownBy w' v.ownBlock/\((v'=.slice none 0 0↔v=.slice none 0 0/\m=0)/\(v'.ownBlock=v.ownBlock\/v'.ownBlock=some w.heap.size)):=by
 unfold Na at h;split at h
 ·rename_i c p
  split at h
  ·rename_i U V W c1 t t' f r g
   split at h
   ·rename_i q1 R S z1 C L
    split at h
    ·rename_i d D
     split at h
     ·rename_i z2 s
      split at h
      ·rename_i E y
       cases h
       have A:=Nat.eq_of_beq_eq_true C;subst A;have hi:=(hT.row D).2;have F:=(hT.row L).1;cases b:P.info? q with
       |none=>rw[b] at hi;cases hi
       |some inf=>
        rw[b] at hi;simp only[Option.map_some,Option.some.injEq,Prod.mk.injEq] at hi;obtain⟨G,H,I⟩:=hi;have J:z.cells.size=d.size:=by
         have:=Nat.eq_of_beq_eq_true E;rw[<-E5] at this;simpa using this
        have k:0<d.size:=by simpa [Nat.blt_eq] using y
        obtain⟨v',w',B,M,N,O⟩:=run_append_own (P:=P) w base t o.type q inf z d.size d.bytes F b (by rw[I,s]) G H J k v j xs hown a m cc news hl hnews h1 hb.1 hb.2 hbase;refine⟨v',w',λact Q=>?_,M,N,O,Xhw base t o.type q inf z d.size d.bytes F b (by rw[I,s]) G H v j xs hown a m cc news hl hnews h1 hb.1 hb.2 B⟩;obtain⟨dst,op,type,pos,after,guard⟩:=o;simp only at p
        subst p;obtain⟨callee,args,argTypes⟩:=c;simp only at f r g B
        subst f;have l:=Fs (Q.evs r);have K:argTypes=#[t,t]:=by obtain⟨ats⟩:=argTypes;simp only at g;subst g;rfl
        subst K;simp only[execOp,resolve,l];exact(Xh (show _=Result.ok _ w from rfl)).trans ((Xh (x:=v') (w':=w') B).trans rfl)
      ·cases h
     ·cases h
    ·cases h
   ·cases h
  ·cases h
 ·cases h
def Ig(v:Value):Nat->Prop:=λb=>some b=v.ownBlock
theorem Kn{w w':World}{row:Option Nat}(h:w.grownBy w' row):Xc (λb=>some b=row) w w':=⟨h.os,h.tape,h.output,h.size,λb a c=>h.block b a c⟩
theorem Xa.append(hT:Xq P T){v z:Value}{a:Addr}{m cc qq size by' base j d:Nat}{xs news:List Value}(h:Ql (Na T e) n s e=some ((v,a,m,cc,qq,size,by',z),d,s'))(hown:Xl base qq size w v j xs)(hbase:base<=w.heap.size)(hl:news.length=m*size)(hnews:∀i u,news[i]?=some u->w.cell? (a.add i)=some u)(h1:∀u∈news,u.oneCell'=true)(hb:j+m<=maxLen/\(j+m)*by'<=140737488355328)(hg:∀v' w1,Xl base qq size w1 v' (j+m) (xs++news)->Xc (Ig v) w w1->((v'=.slice none 0 0↔v=.slice none 0 0/\m=0)/\(v'.ownBlock=v.ownBlock\/v'.ownBlock=some w.heap.size))->Xa P f R n ds s' ((d,false,v')::e) w1):Xa P f R n ds s e w:=by
 obtain⟨o,c,g,b,k⟩:=Ll h;obtain⟨v',w',l,p,q,r⟩:=Vy (n:=n) hT k hown hbase hl hnews h1 hb;exact Xa.head c (by rw[g];exact J3 b) (λa t=>.inl (l a t)) (hg v' w' p (Kn q) r)
theorem Xp.append(hT:Xq P T)(hB:Zp ops q=true){v z:Value}{a:Addr}{m cc qq size by' base j d i:Nat}{xs news:List Value}{U2:List Nat}{e2:Value->Env}(h:Bx (Na T e) n ops e i=some ((v,a,m,cc,qq,size,by',z),d))(hown:Xl base qq size w v j xs)(hbase:base<=w.heap.size)(hw0:w0.heap.size<=base)(hl:news.length=m*size)(hnews:∀i u,news[i]?=some u->w.cell? (a.add i)=some u)(h1:∀u∈news,u.oneCell'=true)(hb:j+m<=maxLen/\(j+m)*by'<=140737488355328)(ha:∀v',Zu T n ops q (Xw i U) (Xw i U) ((d,false,v')::e)=(U2,e2 v'))(hg:∀v' w1,Xl base qq size w1 v' (j+m) (xs++news)->Xc (Ig v) w w1->((v'=.slice none 0 0↔v=.slice none 0 0/\m=0)/\(v'.ownBlock=v.ownBlock\/v'.ownBlock=some w.heap.size))->Xd P f R n ds k ops q S U2 (e2 v') w0 w1):Xp P f R n ds k ops q S U i e w0 w:=by
 obtain⟨o,y,A,B,l,C⟩:=Kj h;obtain⟨v',w',D,E,p,F⟩:=Vy (n:=n) hT C hown hbase hl hnews h1 hb;have r:Xc S w0 w->Xc S w0 w':=λc=>c.since (Kn p) (λb hb G=>by
  have:=(World.ownsRow.lt hown b G.symm).1;omega)
 intro a s g t x H c;unfold opG;rw[Bg y];simp only[C8 g A,if_true];unfold Do;rw[D a g];exact⟨r c,Xd.adv hT hB (ha v') (hg v' w' E (Kn p) F) _ (by cases o.dst <;> exact s) (Ez (by rw[B];exact J2 l) a g) (t.rm (x _ H)) (λj I=>x j ((Ft t.1.1).1 I).1) (r c)⟩
def Xgv(T:Tab)(ops:Array Oper)(e:Env)(i:Nat):Option (Nat×Nat×List Value):=
 match Ap ops.toList i with
 |some o=>match C7 e ops o,o.dst with
  |some true,none=>match o.op with
   |.store t x y=>match ev e x,ev e y,row T t with
    |some (.pointer (some ⟨b,off,none⟩)),some v,some r=>match Nat.beq (Y8 v).length r.size with
     |true=>some (b,off,Y8 v)
     |false=>none
    |_,_,_=>none
   |_=>none
  |_,_=>none
 |none=>none
theorem Xp.store(hT:Xq P T)(hB:Zp ops q=true){b off i:Nat}{vs c r:List Value}{t:TypeId}{U2:List Nat}{e2:Env}(h:Xgv T ops e i=some (b,off,vs))(hc:w.heap[b]?=some (.cells c.toArray t (0,0)))(hS:b<w0.heap.size->S b)(hr:Yd c off vs=some r)(hp:vs.all Mc=true)(ha:Zu T n ops q (Xw i U) (Xw i U) e=(U2,e2))(hg:∀w1,w1.heap[b]?=some (.cells r.toArray t (0,0))->Xc (λk=>k=b) w w1->w1.heap.size=w.heap.size->Xd P f R n ds k ops q S U2 e2 w0 w1):Xp P f R n ds k ops q S U i e w0 w:=by
 unfold Xgv at h;split at h
 ·rename_i o G
  split at h
  ·rename_i H I
   split at h
   ·rename_i t x y s
    split at h
    ·rename_i W J v K d L u
     split at h
     ·rename_i z
      cases h
      obtain⟨w1,m,M,l,N⟩:=XbS (P:=P) (off:=off) (Y8 v) 0 w c r hc hr hp;intro a A g B C O Q;have D:=Q.since l (λx d E=>by rw[E] at d⊢;exact hS d);unfold opG;rw[Bg G];simp only[C8 g H,if_true];unfold Do;have F:(execOp a.eval o).run P w=.ok .skip w1:=by
       simp only[execOp,s,g.ev d,g.ev L];refine(Xh (x:=()) (w':=w1) ?_).trans rfl;simp only[Instr.storeAt,Instr.sureAddr];refine(Xh (show(pure _:Sem Addr).run P w=.ok _ w from rfl)).trans ?_;unfold storeVar;refine(Xh ((hT.row u).sizeOf w)).trans ?_;have p:v.cells.size=K.size:=by
        have:=Nat.eq_of_beq_eq_true z;rw[<-this,<-E5];simp
       rw[if_neg (by simp[p]),E5];exact m
      rw[F,I];exact⟨D,Xd.adv hT hB ha (hg w1 M l N) _ A g (B.rm (C _ O)) (λj V=>C j ((Ft B.1.1).1 V).1) D⟩
     ·cases h
    ·cases h
   ·cases h
  ·cases h
 ·cases h
end
theorem Xl.chg{base t size m:Nat}{S:Nat->Prop}{w w':World}{v:Value}{xs:List Value}(h:Xl base t size w v m xs)(hc:Xc S w w')(hs:∀b,some b=v.ownBlock -> ¬S b):Xl base t size w' v m xs:=by
 refine⟨h.1,?_⟩;rcases h.2 with a|⟨g,cap,cur,rfl,c,d,e⟩
 ·exact .inl a
 ·exact .inr ⟨g,cap,cur,rfl,c,hc.heap d (hs g rfl),e⟩
theorem Xl.form{base t size m:Nat}{w:World}{v:Value}{xs:List Value}(h:Xl base t size w v m xs)(hm:0<m):∃g cap cur,v=.slice (some ⟨g,0,none⟩) m cap/\base<=g/\w.heap[g]?=some (.cells cur t (0,0))/\m<=cap/\cap<=maxLen/\cur.toList.take (m*size)=xs:=by
 rcases h.2 with⟨_,a⟩|⟨g,cap,cur,a,b,c,d,e,_,f⟩
 ·omega
 ·exact⟨g,cap,cur,a,b,c,d,e,f⟩
theorem Rd.cells{k:IntKind}{w:World}{a:Addr}{zs:List Int}(h:Rd k w (some a) zs):∀i u,(zs.map (Value.int k))[i]?=some u->w.cell? (a.add i)=some u:=by
 intro i u c;rw[List.getElem?_map,Option.map_eq_some_iff] at c;obtain⟨z,d,rfl⟩:=c;have hi:=(List.getElem?_eq_some_iff.1 d).1;obtain⟨b,off,e,f⟩:=h i hi;cases e
 rw[Cl,f];simp[d]
theorem Jb{k:IntKind}{zs:List Int}:∀u∈zs.map (Value.int k),u.oneCell'=true:=by
 intro u a;obtain⟨z,_,rfl⟩:=List.mem_map.1 a;rfl
theorem Xl.empty{base t size b:Nat}{w:World}(hb:base<=b)(h:w.heap[b]?=some (.cells #[] t (0,0))):Xl base t size w (.slice (some ⟨b,0,none⟩) 0 0) 0 []:=
 ⟨by simp,.inr ⟨b,0,#[],rfl,hb,h,Nat.le_refl _,by decide,by simp,by simp⟩⟩
theorem Gl{w:World}{b:Nat}{u:Value}{t:TypeId}{fz:Nat×Nat}(h:w.heap[b]?=some (.cells #[u] t fz)):∀i x,[u][i]?=some x->w.cell? ((⟨b,0,none⟩:Addr).add i)=some x:=by
 intro i x a;rw[Cl,Yt h]
 simpa using a
theorem Xl.since{base t size m:Nat}{w0 w w':World}{v:Value}{xs:List Value}(h:Xl base t size w v m xs)(h0:Xc Xe w0 w)(hb:w0.heap.size<=base)(hc:Xc (Ig v) w w'):Xc Xe w0 w':=
 h0.since hc λb c a=>by have:=(World.ownsRow.lt h b a.symm).1;omega
theorem Rd.of_take{k:IntKind}{w:World}{g t:Nat}{fz:Nat×Nat}{cur:Array Value}{zs:List Int}(h:w.heap[g]?=some (.cells cur t fz))(hc:cur.toList.take zs.length=zs.map (Value.int k)):Rd k w (some ⟨g,0,none⟩) zs:=λi hi=>by
 refine⟨g,0,rfl,?_⟩;have a:(cur.toList.take zs.length)[i]?=(zs.map (Value.int k))[i]?:=by rw[hc]
 rw[List.getElem?_take,if_pos hi] at a;rw[Yt h];simp only[Nat.zero_add];rw[<-Array.getElem?_toList,a];simp[hi]
end Go.Proofs.YtohjeeapehmkcaaGreatDoor
