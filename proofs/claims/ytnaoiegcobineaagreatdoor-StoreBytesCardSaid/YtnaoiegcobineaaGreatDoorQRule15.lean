/-
  Rule15
-/
import Derived.Test.YtnaoiegcobineaaGreatDoorQRule14
namespace Go.Proofs.YtnaoiegcobineaaGreatDoor
open Go.RowKit
section
variable {P:Program} {T:Tab} {ops:Array Oper} {f:FuncId} {R:Aim} {k:List Item} {q n:Nat} {ds:List Deferred} {s s':List Item} {w w0:World} {e:Env} {U:List Nat} {S:Nat→Prop}
def appendAnyOf (T:Tab) (e:Env) (o:Oper):Option (Value × Option Addr × Nat × Nat × Nat × Nat × Nat × Value) :=
 match o.op with
 |.call c=>match c.callee,evs e c.args.toList,c.argTypes.toList with
  |.builtin .append,some [v,.slice a m cc],[t,t']=>match Nat.beq t t',row T t with
   |true,some {und := .slice q,..}=>match row T q with
    |some r2=>match r2.zero with
     |some z=>match Nat.beq (cellsL z).length r2.size,Nat.blt 0 r2.size with
      |true,true=>some (v,a,m,cc,q,r2.size,r2.bytes,z)
      |_,_=>none
     |none=>none
    |none=>none
   |_,_=>none
  |_,_,_=>none
 |_=>none
theorem appendAny_some {v z:Value} {a:Addr} {m cc q size by':Nat} {o:Oper} (h:appendAnyOf T e o=some (v,some a,m,cc,q,size,by',z)):appendOf T e o=some (v,a,m,cc,q,size,by',z):=by
 unfold appendAnyOf at h
 split at h
 ·rename_i c hop
  split at h
  ·rename_i v1 a1 m1 c1 t t' hcal hev hty
   split at h
   ·rename_i q1 sz1 by1 z1 hbt hr
    split at h
    ·rename_i r2 hr2
     split at h
     ·rename_i z2 hz2
      split at h
      ·rename_i hzl hpos
       cases h
       unfold appendOf
       simp only [hop,hcal,hev,hty,hbt,hr,hr2,hz2,hzl,hpos]
      ·cases h
     ·cases h
    ·cases h
   ·cases h
  ·cases h
 ·cases h
theorem run_append_none {t ty q:TypeId} {i:TypeInfo} (ht:P.underlying t=some (.slice q)) (hi:P.info? q=some i) {b:Option Addr} {m c cc:Nat} (hm:m≤c):(Builtin.append_ #[t,t] ty #[.slice b m c,.slice none 0 cc]).run P w = .ok (.slice b m c) w:=by
 cases b with
 |none=>simp [Builtin.append_,run_underlying ht,sizeOf,typeInfo,hi,Builtin.lenOf,Builtin.firstCells,hm]
 |some a=>simp [Builtin.append_,run_underlying ht,sizeOf,typeInfo,hi,Builtin.lenOf,Builtin.firstCells,hm,storeCells]
theorem appendAny_run (hT:TabOk P T) {v z:Value} {a:Option Addr} {m cc q size by' base j:Nat} {xs news:List Value} {o:Oper} (h:appendAnyOf T e o=some (v,a,m,cc,q,size,by',z)) (hown:Own base q size w v j xs) (hbase:base≤w.heap.size) (hnone:a=none→m=0)
 (hl:news.length=m*size) (hnews:∀ i u,news[i]? = some u → ∃ a',a=some a'∧w.cell? (a'.add i)=some u) (h1:∀ u ∈ news,u.oneCell'=true) (hb:j+m≤maxLen∧(j+m)*by'≤140737488355328) :
 ∃ v' w',(∀ act,Fits n act e→(execOp act.eval o).run P w = .ok (.value v') w')∧Own base q size w' v' (j+m) (xs++news)∧w.grownBy w' v.ownBlock∧((v' = .slice none 0 0↔v = .slice none 0 0∧m=0)∧(v'.ownBlock=v.ownBlock∨v'.ownBlock=some w.heap.size)):=by
 cases a with
 |some a'=>exact appendOf_run hT (appendAny_some h) hown hbase hl (fun i u hu=>by obtain ⟨a2,e2,hc⟩:=hnews i u hu; cases e2; exact hc) h1 hb
 |none =>
  have hm:=hnone rfl
  subst hm
  have hn:news = []:=List.eq_nil_of_length_eq_zero (by simpa using hl)
  subst hn
  unfold appendAnyOf at h
  split at h
  ·rename_i c hop
   split at h
   ·rename_i v1 a1 m1 c1 t t' hcal hev hty
    split at h
    ·rename_i q1 sz1 by1 z1 hbt hr
     split at h
     ·rename_i r2 hr2
      split at h
      ·rename_i z2 hz2
       split at h
       ·rename_i hzl hpos
        cases h
        have hbt':=Nat.eq_of_beq_eq_true hbt
        subst hbt'
        have hi:=(hT.row hr2).2
        have hu:=(hT.row hr).1
        cases hinf:P.info? q with
        |none=>rw [hinf] at hi; cases hi
        |some inf =>
         have hv:∃ b mm c2,v = .slice b mm c2∧mm≤c2:=by
          rcases hown.2 with ⟨h,_⟩ | ⟨g,cap,cur,h,_,_,hc,_⟩
          ·exact ⟨none,0,0,h,Nat.le_refl _⟩
          ·exact ⟨some ⟨g,0,none⟩,j,cap,h,hc⟩
         obtain ⟨b,mm,c2,rfl,hmc⟩:=hv
         refine ⟨.slice b mm c2,w,fun act hf => ?_,by rw [List.append_nil]; exact hown,⟨rfl,rfl,rfl,Nat.le_refl _,fun _ _ _=>rfl⟩,⟨⟨fun h=>⟨h,rfl⟩,fun h=>h.1⟩,.inl rfl⟩⟩
         obtain ⟨dst,op,type,pos,after,guard⟩:=o
         simp only at hop
         subst hop
         obtain ⟨callee,args,argTypes⟩:=c
         simp only at hcal hev hty
         subst hcal
         have hargs:args.map act.eval = #[.slice b mm c2,.slice none 0 cc]:=map_of_toList (hf.evs hev)
         have hts:argTypes = #[t,t]:=by obtain ⟨ats⟩:=argTypes; simp only at hty; subst hty; rfl
         subst hts
         simp only [execOp,resolve,hargs]
         refine (run_bind_ok (show _=Result.ok _ w from rfl)).trans ?_
         exact (run_bind_ok (x:=(.slice b mm c2:Value)) (w':=w) (run_append_none hu hinf hmc)).trans rfl
       ·cases h
      ·cases h
     ·cases h
    ·cases h
   ·cases h
  ·cases h
theorem Goes.appendA (hT:TabOk P T) {v z:Value} {a:Option Addr} {m cc qq size by' base j d:Nat} {xs news:List Value} (h:atHead (appendAnyOf T e) n s e=some ((v,a,m,cc,qq,size,by',z),d,s')) (hown:Own base qq size w v j xs) (hbase:base≤w.heap.size) (hnone:a=none→m=0)
 (hl:news.length=m*size) (hnews:∀ i u,news[i]? = some u → ∃ a',a=some a'∧w.cell? (a'.add i)=some u) (h1:∀ u ∈ news,u.oneCell'=true) (hb:j+m≤maxLen∧(j+m)*by'≤140737488355328)
 (hg:∀ v' w1,Own base qq size w1 v' (j+m) (xs++news)→Chg (ownS v) w w1→((v' = .slice none 0 0↔v = .slice none 0 0∧m=0)∧(v'.ownBlock=v.ownBlock∨v'.ownBlock=some w.heap.size))→Goes P f R n ds s' ((d,false,v')::e) w1):Goes P f R n ds s e w:=by
 obtain ⟨o,ho,hd,hlt,hx⟩:=atHead_ok h
 obtain ⟨v',w',g1,g2,g3,g4⟩:=appendAny_run (n:=n) hT hx hown hbase hnone hl hnews h1 hb
 exact Goes.head ho (by rw [hd]; exact putE_lt hlt) (fun a hf => .inl (g1 a hf)) (hg v' w' g2 (chg_of_grown g3) g4)
theorem Turn.appendA (hT:TabOk P T) (hB:drawB ops q=true) {v z:Value} {a:Option Addr} {m cc qq size by' base j d i:Nat} {xs news:List Value} {U2:List Nat} {e2:Value→Env} (h:atTurn (appendAnyOf T e) n ops e i=some ((v,a,m,cc,qq,size,by',z),d)) (hown:Own base qq size w v j xs) (hbase:base≤w.heap.size) (hnone:a=none→m=0)
 (hw0:w0.heap.size≤base) (hl:news.length=m*size) (hnews:∀ i u,news[i]? = some u → ∃ a',a=some a'∧w.cell? (a'.add i)=some u) (h1:∀ u ∈ news,u.oneCell'=true) (hb:j+m≤maxLen∧(j+m)*by'≤140737488355328)
 (ha:∀ v',advD T n ops q (rmN i U) (rmN i U) ((d,false,v')::e)=(U2,e2 v'))
 (hg:∀ v' w1,Own base qq size w1 v' (j+m) (xs++news)→Chg (ownS v) w w1→((v' = .slice none 0 0↔v = .slice none 0 0∧m=0)∧(v'.ownBlock=v.ownBlock∨v'.ownBlock=some w.heap.size))→Drawn P f R n ds k ops q S U2 (e2 v') w0 w1):Turn P f R n ds k ops q S U i e w0 w:=by
 obtain ⟨o,ho,hw,hd,hlt,hx⟩:=atTurn_ok h
 obtain ⟨v',w',g1,g2,g3,g4⟩:=appendAny_run (n:=n) hT hx hown hbase hnone hl hnews h1 hb
 have hc:Chg S w0 w→Chg S w0 w':=fun h0=>h0.since (chg_of_grown g3) (fun b hb hs=>by
  have:=(World.ownsRow.lt hown b hs.symm).1
  omega)
 intro a hds hf hn hq hU h0
 unfold opG
 rw [nth_at ho]
 simp only [want_ok hf hw,if_true]
 unfold grow1
 rw [g1 a hf]
 exact ⟨hc h0,Drawn.adv hT hB (ha v') (hg v' w' g2 (chg_of_grown g3) g4) _ (by cases o.dst <;> exact hds) (putE_ok (by rw [hd]; exact putE_dst hlt) a hf) (hn.rm (hq _ hU)) (fun j hj=>hq j ((mem_rmN hn.1.1).1 hj).1) (hc h0)⟩
end
end Go.Proofs.YtnaoiegcobineaaGreatDoor
