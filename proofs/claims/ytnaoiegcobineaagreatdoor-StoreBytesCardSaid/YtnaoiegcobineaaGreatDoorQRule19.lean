/-
  Rule19
-/
import Derived.Test.YtnaoiegcobineaaGreatDoorQRule18
namespace Go.Proofs.YtnaoiegcobineaaGreatDoor
open Go.RowKit
section
variable {P:Program} {T:Tab} {ops:Array Oper} {f:FuncId} {R:Aim} {k:List Item} {q n:Nat} {ds:List Deferred} {s s':List Item} {w w0:World} {e:Env} {U:List Nat} {S:Nat→Prop}
theorem Turn.appendS (hT:TabOk P T) (hB:drawB ops q=true) {v z:Value} {a:Option Addr} {m cc qq size by' base j d i:Nat} {xs news:List Value} {U2:List Nat} {e2:Value→Env} (h:atTurn (appendAnyOf T e) n ops e i=some ((v,a,m,cc,qq,size,by',z),d)) (hown:Own base qq size w v j xs) (hbase:base≤w.heap.size) (hnone:a=none→m=0)
 (hw0:∀ b,some b=v.ownBlock→b<w0.heap.size→S b) (hl:news.length=m*size) (hnews:∀ i u,news[i]? = some u → ∃ a',a=some a'∧w.cell? (a'.add i)=some u) (h1:∀ u ∈ news,u.oneCell'=true) (hb:j+m≤maxLen∧(j+m)*by'≤140737488355328)
 (ha:∀ v',advD T n ops q (rmN i U) (rmN i U) ((d,false,v')::e)=(U2,e2 v'))
 (hg:∀ v' w1,Own base qq size w1 v' (j+m) (xs++news)→Chg (ownS v) w w1→((v' = .slice none 0 0↔v = .slice none 0 0∧m=0)∧(v'.ownBlock=v.ownBlock∨v'.ownBlock=some w.heap.size))→Drawn P f R n ds k ops q S U2 (e2 v') w0 w1):Turn P f R n ds k ops q S U i e w0 w:=by
 obtain ⟨o,ho,hw,hd,hlt,hx⟩:=atTurn_ok h
 obtain ⟨v',w',g1,g2,g3,g4⟩:=appendAny_run (n:=n) hT hx hown hbase hnone hl hnews h1 hb
 have hc:Chg S w0 w→Chg S w0 w':=fun h0=>h0.since (chg_of_grown g3) (fun b hb hs=>hw0 b hs hb)
 intro a hds hf hn hq hU h0
 unfold opG
 rw [nth_at ho]
 simp only [want_ok hf hw,if_true]
 unfold grow1
 rw [g1 a hf]
 exact ⟨hc h0,Drawn.adv hT hB (ha v') (hg v' w' g2 (chg_of_grown g3) g4) _ (by cases o.dst <;> exact hds) (putE_ok (by rw [hd]; exact putE_dst hlt) a hf) (hn.rm (hq _ hU)) (fun j hj=>hq j ((mem_rmN hn.1.1).1 hj).1) (hc h0)⟩
theorem Drawn.loadsAt (i:Nat) (hT:TabOk P T) (hB:drawB ops q=true) {b off m d:Nat} {c vs:List Value} {t:TypeId} {fz:Nat × Nat} {U2:List Nat} {e2:Env} (hU:hasN i U=true) (hfr:freeL ops q U [i] = [i]) (h:atTurn (loadOf T e) n ops e i=some ((b,off,some m),d))
 (hc:w0.heap[b]? = some (.cells c.toArray t fz)) (hS:¬ S b) (hv:cut c off m=some vs)
 (ha:advD T n ops q (rmN i U) (rmN i U) ((d,false,.agg vs.toArray)::e)=(U2,e2)) (hg:Drawn P f R n ds k ops q S U2 e2 w0 w):Drawn P f R n ds k ops q S U e w0 w:=by
 obtain ⟨o,ho,hw,hd,hlt,hx⟩:=atTurn_ok h
 have hm:i ∈ freeL ops q U [i]:=by rw [hfr]; simp
 obtain ⟨_,o',ho',hfree⟩:=freeL_mem.1 hm
 obtain rfl:o=o':=Option.some.inj (ho.symm.trans ho')
 exact Drawn.one hB ho (hasN_iff.1 hU) hfree hw (by rw [hd]; exact putE_dst hlt) (fun a w' hw' hf=>by
  unfold quietSt
  rw [loadsOf_run hT hx (hw'.heap hc hS) hv a hf]
  exact ⟨rfl,rfl⟩) (Drawn.adv hT hB ha hg)
theorem Turn.loads (hT:TabOk P T) (hB:drawB ops q=true) {b off m d i:Nat} {c vs:List Value} {t:TypeId} {fz:Nat × Nat} {U2:List Nat} {e2:Env} (h:atTurn (loadOf T e) n ops e i=some ((b,off,some m),d))
 (hc:w.heap[b]? = some (.cells c.toArray t fz)) (hv:cut c off m=some vs)
 (ha:advD T n ops q (rmN i U) (rmN i U) ((d,false,.agg vs.toArray)::e)=(U2,e2)) (hg:Drawn P f R n ds k ops q S U2 e2 w0 w):Turn P f R n ds k ops q S U i e w0 w :=
 Turn.val hT hB h (fun _ ho a hf=>loadsOf_run hT ho hc hv a hf) id ha hg
end
end Go.Proofs.YtnaoiegcobineaaGreatDoor
