/-
  Rule19
-/
import Derived.Test.YtohjeeapehmkcaaGreatDoorQRule18
namespace Go.Proofs.YtohjeeapehmkcaaGreatDoor
open Go.RowKit
section
variable {P:Program} {T:Tab} {ops:Array Oper} {f:FuncId} {R:Aim} {k:List Item} {q n:Nat} {ds:List Deferred} {s s':List Item} {w w0:World} {e:Env} {U:List Nat} {S:Nat->Prop}
theorem Xq.appendS (hT:Xp P T) (hB:Zm ops q=true) {v z:Value} {a:Option Addr} {m cc qq size by' base j d i:Nat} {xs news:List Value} {U2:List Nat} {e2:Value->Env} (h:Bl (Kr T e) n ops e i=some ((v,a,m,cc,qq,size,by',z),d)) (hown:Xl base qq size w v j xs) (hbase:base<=w.heap.size) (hnone:a=none->m=0)
 (hw0:∀ b,some b=v.ownBlock->b<w0.heap.size->S b) (hl:news.length=m*size) (hnews:∀ i u,news[i]? = some u -> ∃ a',a=some a'/\w.cell? (a'.add i)=some u) (h1:∀ u ∈ news,u.oneCell'=true) (hb:j+m<=maxLen/\(j+m)*by'<=140737488355328)
 (ha:∀ v',Zr T n ops q (Xu i U) (Xu i U) ((d,false,v')::e)=(U2,e2 v'))
 (hg:∀ v' w1,Xl base qq size w1 v' (j+m) (xs++news)->Xc (Hz v) w w1->((v' = .slice none 0 0↔v = .slice none 0 0/\m=0)/\(v'.ownBlock=v.ownBlock\/v'.ownBlock=some w.heap.size))->Xd P f R n ds k ops q S U2 (e2 v') w0 w1):Xq P f R n ds k ops q S U i e w0 w:=by
 obtain ⟨o,y,A,B,l,C⟩:=Jw h;obtain ⟨v',w',D,E,p,F⟩:=Um (n:=n) hT C hown hbase hnone hl hnews h1 hb;have r:Xc S w0 w->Xc S w0 w':=fun c=>c.since (Jz p) (fun b hb G=>hw0 b G hb);intro a s g t x H c;unfold opG;rw [A2 y];simp only [Cs g A,if_true];unfold Db;rw [D a g];exact ⟨r c,Xd.adv hT hB (ha v') (hg v' w' E (Jz p) F) _ (by cases o.dst <;> exact s) (Ek (by rw [B]; exact Jg l) a g) (t.rm (x _ H)) (fun j I=>x j ((Fd t.1.1).1 I).1) (r c)⟩
theorem Xd.loadsAt (i:Nat) (hT:Xp P T) (hB:Zm ops q=true) {b off m d:Nat} {c vs:List Value} {t:TypeId} {fz:Nat × Nat} {U2:List Nat} {e2:Env} (hU:Cv i U=true) (hfr:Cc ops q U [i] = [i]) (h:Bl (Bn T e) n ops e i=some ((b,off,some m),d))
 (hc:w0.heap[b]? = some (.cells c.toArray t fz)) (hS:¬ S b) (hv:Da c off m=some vs)
 (ha:Zr T n ops q (Xu i U) (Xu i U) ((d,false,.agg vs.toArray)::e)=(U2,e2)) (hg:Xd P f R n ds k ops q S U2 e2 w0 w):Xd P f R n ds k ops q S U e w0 w:=by
 obtain ⟨o,j,s,u,l,v⟩:=Jw h;have x:i ∈ Cc ops q U [i]:=by rw [hfr]; simp
 obtain ⟨_,o',p,g⟩:=K5.1 x;obtain rfl:o=o':=Option.some.inj (j.symm.trans p);exact Xd.one hB j (Hr.1 hU) g s (by rw [u]; exact Jg l) (fun a w' r y=>by
  unfold C3;rw [Ox hT v (r.heap hc hS) hv a y];exact ⟨rfl,rfl⟩) (Xd.adv hT hB ha hg)
theorem Xq.loads (hT:Xp P T) (hB:Zm ops q=true) {b off m d i:Nat} {c vs:List Value} {t:TypeId} {fz:Nat × Nat} {U2:List Nat} {e2:Env} (h:Bl (Bn T e) n ops e i=some ((b,off,some m),d))
 (hc:w.heap[b]? = some (.cells c.toArray t fz)) (hv:Da c off m=some vs)
 (ha:Zr T n ops q (Xu i U) (Xu i U) ((d,false,.agg vs.toArray)::e)=(U2,e2)) (hg:Xd P f R n ds k ops q S U2 e2 w0 w):Xq P f R n ds k ops q S U i e w0 w :=
 Xq.val hT hB h (fun _ g a j=>Ox hT g hc hv a j) id ha hg
end
end Go.Proofs.YtohjeeapehmkcaaGreatDoor
