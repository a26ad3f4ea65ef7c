/-
  Rule19
-/
import Derived.Test.YtdeihcnepljjaaaGreatDoorQRule18
namespace Go.Proofs.YtdeihcnepljjaaaGreatDoor
open Go.RowKit
section
variable {P:Program}{T:Tab}{ops:Array Oper}{f:FuncId}{R:Aim}{k:List Item}{q n:Nat}{ds:List Deferred}{s s':List Item}{w w0:World}{e:Env}{U:List Nat}{S:Nat->Prop}
theorem Xo.appendS(hT:Xp P T)(hB:Z0 ops q=true){v z:Value}{a:Option Addr}{m cc qq size by' base j d i:Nat}{xs news:List Value}{U2:List Nat}{e2:Value->Env}(h:Cp (Ml T e) n ops e i=some ((v,a,m,cc,qq,size,by',z),d))(hown:Xm base qq size w v j xs)(hbase:base<=w.heap.size)(hnone:a=none->m=0)(hw0:∀b,some b=v.ownBlock->b<w0.heap.size->S b)(hl:news.length=m*size)(hnews:∀i u,news[i]?=some u -> ∃a',a=some a'/\w.cell? (a'.add i)=some u)(h1:∀u∈news,u.oneCell'=true)(hb:j+m<=maxLen/\(j+m)*by'<=140737488355328)(ha:∀v',Z7 T n ops q (Xv i U) (Xv i U) ((d,false,v')::e)=(U2,e2 v'))(hg:∀v' w1,Xm base qq size w1 v' (j+m) (xs++news)->Xc (J3 v) w w1->((v'=.slice none 0 0↔v=.slice none 0 0/\m=0)/\(v'.ownBlock=v.ownBlock\/v'.ownBlock=some w.heap.size))->Xd P f R n ds k ops q S U2 (e2 v') w0 w1):Xo P f R n ds k ops q S U i e w0 w:=by
 obtain⟨o,x,y,A,g,B⟩:=Mq h;obtain⟨v',w',C,D,l,E⟩:=XaG (n:=n) hT B hown hbase hnone hl hnews h1 hb;have p:Xc S w0 w->Xc S w0 w':=λc=>c.bU (Ot l) (λb hb F=>hw0 b F hb);intro a r hf s t G c;unfold opG;rw[Bx x];simp only[D6 hf y,if_true];unfold Em;rw[C a hf];exact⟨p c,Xd.adv hT hB (ha v') (hg v' w' D (Ot l) E) _ (by cases o.dst <;> exact r) (Gq (by rw[A];exact Lz g) a hf) (s.rm (t _ G)) (λj H=>t j ((Hx s.1.1).1 H).1) (p c)⟩
theorem Xd.loadsAt(i:Nat)(hT:Xp P T)(hB:Z0 ops q=true){b off m d:Nat}{c vs:List Value}{t:TypeId}{fz:Nat×Nat}{U2:List Nat}{e2:Env}(hU:Dp i U=true)(hfr:C3 ops q U [i]=[i])(h:Cp (Cj T e) n ops e i=some ((b,off,some m),d))(hc:w0.heap[b]?=some (.cells c.toArray t fz))(hS:¬S b)(hv:cut c off m=some vs)(ha:Z7 T n ops q (Xv i U) (Xv i U) ((d,false,.agg vs.toArray)::e)=(U2,e2))(hg:Xd P f R n ds k ops q S U2 e2 w0 w):Xd P f R n ds k ops q S U e w0 w:=by
 obtain⟨o,j,s,u,l,v⟩:=Mq h;have hm:i∈C3 ops q U [i]:=by rw[hfr];simp
 obtain⟨_,o',p,g⟩:=Na.1 hm;obtain rfl:o=o':=Option.some.inj (j.symm.trans p);exact Xd.one hB j (I7.1 hU) g s (by rw[u];exact Lz l) (λa w' r hf=>by
  unfold D1;rw[U8 hT v (r.heap hc hS) hv a hf];exact⟨rfl,rfl⟩) (Xd.adv hT hB ha hg)
end
end Go.Proofs.YtdeihcnepljjaaaGreatDoor
