/-
  Rule19
-/
import Derived.Test.YtohjeeapehmkcaaGreatDoorQRule18
namespace Go.Proofs.YtohjeeapehmkcaaGreatDoor
open Go.RowKit
section
variable {P:Program}{T:Tab}{ops:Array Oper}{f:FuncId}{R:Aim}{k:List Item}{q n:Nat}{ds:List Deferred}{s s':List Item}{w w0:World}{e:Env}{U:List Nat}{S:Nat->Prop}
theorem Xp.appendS(hT:Xq P T)(hB:Zp ops q=true){v z:Value}{a:Option Addr}{m cc qq size by' base j d i:Nat}{xs news:List Value}{U2:List Nat}{e2:Value->Env}(h:Bx (Li T e) n ops e i=some ((v,a,m,cc,qq,size,by',z),d))(hown:Xl base qq size w v j xs)(hbase:base<=w.heap.size)(hnone:a=none->m=0)(hw0:∀b,some b=v.ownBlock->b<w0.heap.size->S b)(hl:news.length=m*size)(hnews:∀i u,news[i]?=some u -> ∃a',a=some a'/\w.cell? (a'.add i)=some u)(h1:∀u∈news,u.oneCell'=true)(hb:j+m<=maxLen/\(j+m)*by'<=140737488355328)(ha:∀v',Zu T n ops q (Xw i U) (Xw i U) ((d,false,v')::e)=(U2,e2 v'))(hg:∀v' w1,Xl base qq size w1 v' (j+m) (xs++news)->Xc (Ig v) w w1->((v'=.slice none 0 0↔v=.slice none 0 0/\m=0)/\(v'.ownBlock=v.ownBlock\/v'.ownBlock=some w.heap.size))->Xd P f R n ds k ops q S U2 (e2 v') w0 w1):Xp P f R n ds k ops q S U i e w0 w:=by
 obtain⟨o,y,A,B,l,C⟩:=Kj h;obtain⟨v',w',D,E,p,F⟩:=Vx (n:=n) hT C hown hbase hnone hl hnews h1 hb;have r:Xc S w0 w->Xc S w0 w':=λc=>c.since (Kn p) (λb hb G=>hw0 b G hb);intro a s g t x H c;unfold opG;rw[Bg y];simp only[C8 g A,if_true];unfold Do;rw[D a g];exact⟨r c,Xd.adv hT hB (ha v') (hg v' w' E (Kn p) F) _ (by cases o.dst <;> exact s) (Ez (by rw[B];exact J2 l) a g) (t.rm (x _ H)) (λj I=>x j ((Ft t.1.1).1 I).1) (r c)⟩
theorem Xd.loadsAt(i:Nat)(hT:Xq P T)(hB:Zp ops q=true){b off m d:Nat}{c vs:List Value}{t:TypeId}{fz:Nat×Nat}{U2:List Nat}{e2:Env}(hU:Db i U=true)(hfr:Co ops q U [i]=[i])(h:Bx (Bz T e) n ops e i=some ((b,off,some m),d))(hc:w0.heap[b]?=some (.cells c.toArray t fz))(hS:¬S b)(hv:Dn c off m=some vs)(ha:Zu T n ops q (Xw i U) (Xw i U) ((d,false,.agg vs.toArray)::e)=(U2,e2))(hg:Xd P f R n ds k ops q S U2 e2 w0 w):Xd P f R n ds k ops q S U e w0 w:=by
 obtain⟨o,j,s,u,l,v⟩:=Kj h;have x:i∈Co ops q U [i]:=by rw[hfr];simp
 obtain⟨_,o',p,g⟩:=Lx.1 x;obtain rfl:o=o':=Option.some.inj (j.symm.trans p);exact Xd.one hB j (H9.1 hU) g s (by rw[u];exact J2 l) (λa w' r y=>by
  unfold Dh;rw[Pu hT v (r.heap hc hS) hv a y];exact⟨rfl,rfl⟩) (Xd.adv hT hB ha hg)
theorem Xp.loads(hT:Xq P T)(hB:Zp ops q=true){b off m d i:Nat}{c vs:List Value}{t:TypeId}{fz:Nat×Nat}{U2:List Nat}{e2:Env}(h:Bx (Bz T e) n ops e i=some ((b,off,some m),d))(hc:w.heap[b]?=some (.cells c.toArray t fz))(hv:Dn c off m=some vs)(ha:Zu T n ops q (Xw i U) (Xw i U) ((d,false,.agg vs.toArray)::e)=(U2,e2))(hg:Xd P f R n ds k ops q S U2 e2 w0 w):Xp P f R n ds k ops q S U i e w0 w:=
 Xp.val hT hB h (λ_ g a j=>Pu hT g hc hv a j) id ha hg
end
end Go.Proofs.YtohjeeapehmkcaaGreatDoor
