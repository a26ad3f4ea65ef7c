/-
  Rule19
-/
import Derived.Test.YtgddpaiandefgaaGreatDoorQRule18
namespace Go.Proofs.YtgddpaiandefgaaGreatDoor
open Go.RowKit
section
variable {P:Program} {T:Tab} {ops:Array Oper} {f:FuncId} {R:Aim} {k:List Item} {q n:Nat} {ds:List Deferred} {s s':List Item} {w w0:World} {e:Env} {U:List Nat} {S:Nat→Prop}
theorem XbO.appendS (hT:XbE P T) (hB:XfJ ops q=true) {v z:Value} {a:Option Addr} {m cc qq size by' base j d i:Nat} {xs news:List Value} {U2:List Nat} {e2:Value→Env} (h:Xc2 (Xcu T e) n ops e i=some ((v,a,m,cc,qq,size,by',z),d)) (hown:Own base qq size w v j xs) (hbase:base≤w.heap.size) (hnone:a=none→m=0)
 (hw0:∀ b,some b=v.ownBlock→b<w0.heap.size→S b) (hl:news.length=m*size) (hnews:∀ i u,news[i]? = some u → ∃ a',a=some a'∧w.cell? (a'.add i)=some u) (h1:∀ u ∈ news,u.oneCell'=true) (hb:j+m≤maxLen∧(j+m)*by'≤140737488355328)
 (ha:∀ v',Xb2 T n ops q (rmN i U) (rmN i U) ((d,false,v')::e)=(U2,e2 v'))
 (hg:∀ v' w1,Own base qq size w1 v' (j+m) (xs++news)→Chg (Xms v) w w1→((v' = .slice none 0 0↔v = .slice none 0 0∧m=0)∧(v'.ownBlock=v.ownBlock∨v'.ownBlock=some w.heap.size))→Xaq P f R n ds k ops q S U2 (e2 v') w0 w1):XbO P f R n ds k ops q S U i e w0 w:=by
 obtain ⟨o,x,y,A,g,B⟩:=Xc3 h;obtain ⟨v',w',C,D,l,E⟩:=Xcv (n:=n) hT B hown hbase hnone hl hnews h1 hb;have p:Chg S w0 w→Chg S w0 w':=fun c=>c.since (XeU l) (fun b hb F=>hw0 b F hb);intro a r hf s t G c;unfold opG;rw [Xl5 x];simp only [Xv4 hf y,if_true];unfold Xhp;rw [C a hf];exact ⟨p c,Xaq.adv hT hB (ha v') (hg v' w' D (XeU l) E) _ (by cases o.dst <;> exact r) (XoE (by rw [A]; exact XoB g) a hf) (s.rm (t _ G)) (fun j H=>t j ((XkQ s.1.1).1 H).1) (p c)⟩
theorem Xaq.loadsAt (i:Nat) (hT:XbE P T) (hB:XfJ ops q=true) {b off m d:Nat} {c vs:List Value} {t:TypeId} {fz:Nat × Nat} {U2:List Nat} {e2:Env} (hU:Xhu i U=true) (hfr:XgS ops q U [i] = [i]) (h:Xc2 (XjW T e) n ops e i=some ((b,off,some m),d))
 (hc:w0.heap[b]? = some (.cells c.toArray t fz)) (hS:¬ S b) (hv:cut c off m=some vs)
 (ha:Xb2 T n ops q (rmN i U) (rmN i U) ((d,false,.agg vs.toArray)::e)=(U2,e2)) (hg:Xaq P f R n ds k ops q S U2 e2 w0 w):Xaq P f R n ds k ops q S U e w0 w:=by
 obtain ⟨o,j,s,u,l,v⟩:=Xc3 h;have hm:i ∈ XgS ops q U [i]:=by rw [hfr]; simp
 obtain ⟨_,o',p,g⟩:=XgT.1 hm;obtain rfl:o=o':=Option.some.inj (j.symm.trans p);exact Xaq.one hB j (Xhv.1 hU) g s (by rw [u]; exact XoB l) (fun a w' r hf=>by
  unfold XoI;rw [Xj2 hT v (r.heap hc hS) hv a hf];exact ⟨rfl,rfl⟩) (Xaq.adv hT hB ha hg)
theorem XbO.loads (hT:XbE P T) (hB:XfJ ops q=true) {b off m d i:Nat} {c vs:List Value} {t:TypeId} {fz:Nat × Nat} {U2:List Nat} {e2:Env} (h:Xc2 (XjW T e) n ops e i=some ((b,off,some m),d))
 (hc:w.heap[b]? = some (.cells c.toArray t fz)) (hv:cut c off m=some vs)
 (ha:Xb2 T n ops q (rmN i U) (rmN i U) ((d,false,.agg vs.toArray)::e)=(U2,e2)) (hg:Xaq P f R n ds k ops q S U2 e2 w0 w):XbO P f R n ds k ops q S U i e w0 w :=
 XbO.val hT hB h (fun _ g a hf=>Xj2 hT g hc hv a hf) id ha hg
end
end Go.Proofs.YtgddpaiandefgaaGreatDoor
