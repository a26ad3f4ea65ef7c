/-
  Rule6
-/
import Derived.Test.YtnaoiegcobineaaGreatDoorQRule5
import Derived.Laws.AppendOwn
namespace Go.Proofs.YtnaoiegcobineaaGreatDoor
open Go.RowKit
section
variable {P:Program} {T:Tab} {ops:Array Oper} {f:FuncId} {R:Aim} {k:List Item} {q n:Nat} {ds:List Deferred} {s s':List Item} {w w0:World} {e:Env} {U:List Nat} {S:Nat→Prop}
abbrev Own (base t size:Nat) (w:World) (v:Value) (m:Nat) (xs:List Value):Prop:=w.ownsRow base t size v m xs
def appendOf (T:Tab) (e:Env) (o:Oper):Option (Value × Addr × Nat × Nat × Nat × Nat × Nat × Value) :=
 match o.op with
 |.call c=>match c.callee,evs e c.args.toList,c.argTypes.toList with
  |.builtin .append,some [v,.slice (some a) m cc],[t,t']=>match Nat.beq t t',row T t with
   |true,some {und := .slice q,..}=>match row T q with
    |some r2=>match r2.zero with
     |some z=>match Nat.beq (cellsL z).length r2.size,Nat.blt 0 r2.size with
      |true,true=>some (v,a,m,cc,q,r2.size,r2.bytes,z)
      |_,_=>none
     |none=>none
    |none=>none
   |_,_=>none
  |_,_,_=>none
 |_=>none
theorem append_where {w:World} (base:Nat) (t ty e:TypeId) (i:TypeInfo) (z:Value) (size bytes:Nat) (ht:P.underlying t=some (.slice e)) (hi:P.info? e=some i) (hz:i.zero=some z)
 (hsize:i.size=size) (hby:i.bytes=bytes) (v:Value) (n:Nat) (xs:List Value) (hown:w.ownsRow base e size v n xs)
 (a:Addr) (m c:Nat) (news:List Value) (hl:news.length=m*size) (hnews:∀ j u,news[j]? = some u→w.cell? (a.add j)=some u) (h1:∀ u ∈ news,u.oneCell'=true)
 (h63:n+m≤maxLen) (hbytes:(n+m)*bytes≤140737488355328) {v':Value} {w':World} (hrun:(Builtin.append_ #[t,t] ty #[v,.slice (some a) m c]).run P w = .ok v' w') :
 v'.ownBlock=v.ownBlock∨v'.ownBlock=some w.heap.size:=by
 subst hsize
 subst hby
 have hsmall:n+m≤9223372036854775807:=by simp only [maxLen] at h63; omega
 rcases hown.2 with ⟨rfl,rfl⟩ | ⟨g,cap,cur,rfl,hbg,hg,hnc,hcm,hcs,htake⟩
 ·have hx:xs = []:=List.eq_nil_of_length_eq_zero (by simpa using hown.1)
  subst hx
  by_cases hm:m=0
  ·subst hm
   have hn:news = []:=List.eq_nil_of_length_eq_zero (by simpa using hl)
   subst hn
   have hr:(Builtin.append_ #[t,t] ty #[.slice none 0 0,.slice (some a) 0 c]).run P w = .ok (.slice none 0 0) w:=by
    simp [Builtin.append_,run_underlying ht,sizeOf,typeInfo,hi,Builtin.lenOf,Builtin.firstCells,loadCells,loadCellsFrom]
   rw [hr] at hrun
   cases hrun
   exact .inl rfl
  ·have hr:=run_append_nil (P:=P) w t ty e i z ht hi hz a m c news hl hnews (by omega) (by omega) (by have hb:=hbytes; simp only [Nat.zero_add] at hb; omega)
   rw [hr] at hrun
   cases hrun
   exact .inr rfl
 ·by_cases hroom:n+m≤cap
  ·have hfit:n*i.size+news.length≤cur.size:=by rw [hl,hcs,← Nat.add_mul]; exact Nat.mul_le_mul_right _ hroom
   have hr:=run_append_room (P:=P) w t ty e i ht hi g n cap cur hg a m c news hl hnews h1 hroom hfit
   rw [hr] at hrun
   cases hrun
   exact .inl rfl
  ·have holds:∀ j u,xs[j]? = some u→w.cell? ((⟨g,0,none⟩:Addr).add j)=some u:=hown.cells (g:=g) rfl
   have hr:=run_append_grow (P:=P) w t ty e i z ht hi hz ⟨g,0,none⟩ n cap xs hown.1 holds a m c news hl hnews (by omega) (by omega) (growslice_fits (by omega) hbytes)
   rw [hr] at hrun
   cases hrun
   exact .inr rfl
theorem appendOf_run (hT:TabOk P T) {v z:Value} {a:Addr} {m cc q size by' base j:Nat} {xs news:List Value} {o:Oper} (h:appendOf T e o=some (v,a,m,cc,q,size,by',z)) (hown:Own base q size w v j xs) (hbase:base≤w.heap.size)
 (hl:news.length=m*size) (hnews:∀ i u,news[i]? = some u→w.cell? (a.add i)=some u) (h1:∀ u ∈ news,u.oneCell'=true) (hb:j+m≤maxLen∧(j+m)*by'≤140737488355328) :
 ∃ v' w',(∀ act,Fits n act e→(execOp act.eval o).run P w = .ok (.value v') w')∧Own base q size w' v' (j+m) (xs++news)∧w.grownBy w' v.ownBlock∧((v' = .slice none 0 0↔v = .slice none 0 0∧m=0)∧(v'.ownBlock=v.ownBlock∨v'.ownBlock=some w.heap.size)):=by
 unfold appendOf at h
 split at h
 ·rename_i c hop
  split at h
  ·rename_i v1 a1 m1 c1 t t' hcal hev hty
   split at h
   ·rename_i q1 sz1 by1 z1 hbt hr
    split at h
    ·rename_i r2 hr2
     split at h
     ·rename_i z2 hz2
      split at h
      ·rename_i hzl hpos
       cases h
       have hbt':=Nat.eq_of_beq_eq_true hbt
       subst hbt'
       have hi:=(hT.row hr2).2
       have hu:=(hT.row hr).1
       cases hinf:P.info? q with
       |none=>rw [hinf] at hi; cases hi
       |some inf =>
        rw [hinf] at hi
        simp only [Option.map_some,Option.some.injEq,Prod.mk.injEq] at hi
        obtain ⟨i1,i2,i3⟩:=hi
        have hzs:z.cells.size=r2.size:=by
         have:=Nat.eq_of_beq_eq_true hzl
         rw [← cellsL_eq] at this; simpa using this
        have hpos':0<r2.size:=by simpa [Nat.blt_eq] using hpos
        obtain ⟨v',w',g1,g2,g3,g4⟩:=run_append_own (P:=P) w base t o.type q inf z r2.size r2.bytes hu hinf (by rw [i3,hz2]) i1 i2 hzs hpos' v j xs hown a m cc news hl hnews h1 hb.1 hb.2 hbase
        refine ⟨v',w',fun act hf => ?_,g2,g3,g4,append_where base t o.type q inf z r2.size r2.bytes hu hinf (by rw [i3,hz2]) i1 i2 v j xs hown a m cc news hl hnews h1 hb.1 hb.2 g1⟩
        obtain ⟨dst,op,type,pos,after,guard⟩:=o
        simp only at hop
        subst hop
        obtain ⟨callee,args,argTypes⟩:=c
        simp only at hcal hev hty g1
        subst hcal
        have hargs:args.map act.eval = #[v,.slice (some a) m cc]:=map_of_toList (hf.evs hev)
        have hts:argTypes = #[t,t]:=by obtain ⟨ats⟩:=argTypes; simp only at hty; subst hty; rfl
        subst hts
        simp only [execOp,resolve,hargs]
        refine (run_bind_ok (show _=Result.ok _ w from rfl)).trans ?_
        exact (run_bind_ok (x:=v') (w':=w') g1).trans rfl
      ·cases h
     ·cases h
    ·cases h
   ·cases h
  ·cases h
 ·cases h
def ownS (v:Value):Nat→Prop:=fun b=>some b=v.ownBlock
theorem chg_of_grown {w w':World} {row:Option Nat} (h:w.grownBy w' row):Chg (fun b=>some b=row) w w':=⟨h.os,h.tape,h.output,h.size,fun b hb hs=>h.block b hb hs⟩
theorem Goes.append (hT:TabOk P T) {v z:Value} {a:Addr} {m cc qq size by' base j d:Nat} {xs news:List Value} (h:atHead (appendOf T e) n s e=some ((v,a,m,cc,qq,size,by',z),d,s')) (hown:Own base qq size w v j xs) (hbase:base≤w.heap.size)
 (hl:news.length=m*size) (hnews:∀ i u,news[i]? = some u→w.cell? (a.add i)=some u) (h1:∀ u ∈ news,u.oneCell'=true) (hb:j+m≤maxLen∧(j+m)*by'≤140737488355328)
 (hg:∀ v' w1,Own base qq size w1 v' (j+m) (xs++news)→Chg (ownS v) w w1→((v' = .slice none 0 0↔v = .slice none 0 0∧m=0)∧(v'.ownBlock=v.ownBlock∨v'.ownBlock=some w.heap.size))→Goes P f R n ds s' ((d,false,v')::e) w1):Goes P f R n ds s e w:=by
 obtain ⟨o,ho,hd,hlt,hx⟩:=atHead_ok h
 obtain ⟨v',w',g1,g2,g3,g4⟩:=appendOf_run (n:=n) hT hx hown hbase hl hnews h1 hb
 exact Goes.head ho (by rw [hd]; exact putE_lt hlt) (fun a hf => .inl (g1 a hf)) (hg v' w' g2 (chg_of_grown g3) g4)
theorem Turn.append (hT:TabOk P T) (hB:drawB ops q=true) {v z:Value} {a:Addr} {m cc qq size by' base j d i:Nat} {xs news:List Value} {U2:List Nat} {e2:Value→Env} (h:atTurn (appendOf T e) n ops e i=some ((v,a,m,cc,qq,size,by',z),d)) (hown:Own base qq size w v j xs) (hbase:base≤w.heap.size)
 (hw0:w0.heap.size≤base) (hl:news.length=m*size) (hnews:∀ i u,news[i]? = some u→w.cell? (a.add i)=some u) (h1:∀ u ∈ news,u.oneCell'=true) (hb:j+m≤maxLen∧(j+m)*by'≤140737488355328)
 (ha:∀ v',advD T n ops q (rmN i U) (rmN i U) ((d,false,v')::e)=(U2,e2 v'))
 (hg:∀ v' w1,Own base qq size w1 v' (j+m) (xs++news)→Chg (ownS v) w w1→((v' = .slice none 0 0↔v = .slice none 0 0∧m=0)∧(v'.ownBlock=v.ownBlock∨v'.ownBlock=some w.heap.size))→Drawn P f R n ds k ops q S U2 (e2 v') w0 w1):Turn P f R n ds k ops q S U i e w0 w:=by
 obtain ⟨o,ho,hw,hd,hlt,hx⟩:=atTurn_ok h
 obtain ⟨v',w',g1,g2,g3,g4⟩:=appendOf_run (n:=n) hT hx hown hbase hl hnews h1 hb
 have hc:Chg S w0 w→Chg S w0 w':=fun h0=>h0.since (chg_of_grown g3) (fun b hb hs=>by
  have:=(World.ownsRow.lt hown b hs.symm).1
  omega)
 intro a hds hf hn hq hU h0
 unfold opG
 rw [nth_at ho]
 simp only [want_ok hf hw,if_true]
 unfold grow1
 rw [g1 a hf]
 exact ⟨hc h0,Drawn.adv hT hB (ha v') (hg v' w' g2 (chg_of_grown g3) g4) _ (by cases o.dst <;> exact hds) (putE_ok (by rw [hd]; exact putE_dst hlt) a hf) (hn.rm (hq _ hU)) (fun j hj=>hq j ((mem_rmN hn.1.1).1 hj).1) (hc h0)⟩
def storeTurn (T:Tab) (ops:Array Oper) (e:Env) (i:Nat):Option (Nat × Nat × List Value) :=
 match nth ops.toList i with
 |some o=>match want e ops o,o.dst with
  |some true,none=>match o.op with
   |.store t x y=>match ev e x,ev e y,row T t with
    |some (.pointer (some ⟨b,off,none⟩)),some v,some r=>match Nat.beq (cellsL v).length r.size with
     |true=>some (b,off,cellsL v)
     |false=>none
    |_,_,_=>none
   |_=>none
  |_,_=>none
 |none=>none
theorem Turn.store (hT:TabOk P T) (hB:drawB ops q=true) {b off i:Nat} {vs c r:List Value} {t:TypeId} {U2:List Nat} {e2:Env} (h:storeTurn T ops e i=some (b,off,vs)) (hc:w.heap[b]? = some (.cells c.toArray t (0,0))) (hS:b<w0.heap.size→S b) (hr:setV c off vs=some r) (hp:vs.all plainV=true)
 (ha:advD T n ops q (rmN i U) (rmN i U) e=(U2,e2))
 (hg:∀ w1,w1.heap[b]? = some (.cells r.toArray t (0,0))→Chg (fun k=>k=b) w w1→w1.heap.size=w.heap.size→Drawn P f R n ds k ops q S U2 e2 w0 w1):Turn P f R n ds k ops q S U i e w0 w:=by
 unfold storeTurn at h
 split at h
 ·rename_i o ho
  split at h
  ·rename_i hw hd
   split at h
   ·rename_i t x y hop
    split at h
    ·rename_i b1 off1 v r1 hx hy hr1
     split at h
     ·rename_i hsz
      cases h
      obtain ⟨w1,hrun,hb,hch,hz⟩:=storeCells_run (P:=P) (off:=off) (cellsL v) 0 w c r hc hr hp
      intro a hds hf hn hq hU h0
      have h1:Chg S w0 w1:=h0.since hch (fun x hx hxb=>by rw [hxb] at hx ⊢; exact hS hx)
      unfold opG
      rw [nth_at ho]
      simp only [want_ok hf hw,if_true]
      unfold grow1
      have hex:(execOp a.eval o).run P w = .ok .skip w1:=by
       simp only [execOp,hop,hf.ev hx,hf.ev hy]
       refine (run_bind_ok (x:=()) (w':=w1) ?_).trans rfl
       simp only [Instr.storeAt,Instr.sureAddr]
       refine (run_bind_ok (show (pure _:Sem Addr).run P w = .ok _ w from rfl)).trans ?_
       unfold storeVar
       refine (run_bind_ok ((hT.row hr1).sizeOf w)).trans ?_
       have hsz':v.cells.size=r1.size:=by
        have:=Nat.eq_of_beq_eq_true hsz
        rw [← this,← cellsL_eq]; simp
       rw [if_neg (by simp [hsz']),cellsL_eq]
       exact hrun
      rw [hex,hd]
      exact ⟨h1,Drawn.adv hT hB ha (hg w1 hb hch hz) _ hds hf (hn.rm (hq _ hU)) (fun j hj=>hq j ((mem_rmN hn.1.1).1 hj).1) h1⟩
     ·cases h
    ·cases h
   ·cases h
  ·cases h
 ·cases h
end
theorem Own.chg {base t size m:Nat} {S:Nat→Prop} {w w':World} {v:Value} {xs:List Value} (h:Own base t size w v m xs) (hc:Chg S w w') (hs:∀ b,some b=v.ownBlock → ¬ S b):Own base t size w' v m xs:=by
 refine ⟨h.1,?_⟩
 rcases h.2 with h1 | ⟨g,cap,cur,rfl,h2,h3,h4⟩
 ·exact .inl h1
 ·exact .inr ⟨g,cap,cur,rfl,h2,hc.heap h3 (hs g rfl),h4⟩
theorem Own.form {base t size m:Nat} {w:World} {v:Value} {xs:List Value} (h:Own base t size w v m xs) (hm:0<m):∃ g cap cur,v = .slice (some ⟨g,0,none⟩) m cap∧base≤g∧w.heap[g]? = some (.cells cur t (0,0))∧m≤cap∧cap≤maxLen∧cur.toList.take (m*size)=xs:=by
 rcases h.2 with ⟨_,h1⟩ | ⟨g,cap,cur,h1,h2,h3,h4,h5,_,h6⟩
 ·omega
 ·exact ⟨g,cap,cur,h1,h2,h3,h4,h5,h6⟩
theorem Rd.cells {k:IntKind} {w:World} {a:Addr} {zs:List Int} (h:Rd k w (some a) zs):∀ i u,(zs.map (Value.int k))[i]? = some u→w.cell? (a.add i)=some u:=by
 intro i u hu
 rw [List.getElem?_map,Option.map_eq_some_iff] at hu
 obtain ⟨z,hz,rfl⟩:=hu
 have hi:i<zs.length:=(List.getElem?_eq_some_iff.1 hz).1
 obtain ⟨b,off,e,hc⟩:=h i hi
 cases e
 rw [add_off,hc]
 simp [hz]
theorem plain_ints {k:IntKind} {zs:List Int}:∀ u ∈ zs.map (Value.int k),u.oneCell'=true:=by
 intro u hu
 obtain ⟨z,_,rfl⟩:=List.mem_map.1 hu
 rfl
theorem Own.empty {base t size b:Nat} {w:World} (hb:base≤b) (h:w.heap[b]? = some (.cells #[] t (0,0))):Own base t size w (.slice (some ⟨b,0,none⟩) 0 0) 0 [] :=
 ⟨by simp,.inr ⟨b,0,#[],rfl,hb,h,Nat.le_refl _,by decide,by simp,by simp⟩⟩
theorem cells1 {w:World} {b:Nat} {u:Value} {t:TypeId} {fz:Nat × Nat} (h:w.heap[b]? = some (.cells #[u] t fz)):∀ i x,[u][i]? = some x→w.cell? ((⟨b,0,none⟩:Addr).add i)=some x:=by
 intro i x hx
 rw [add_off,cell_of h]
 simpa using hx
theorem Own.since {base t size m:Nat} {w0 w w':World} {v:Value} {xs:List Value} (h:Own base t size w v m xs) (h0:Chg None' w0 w) (hb:w0.heap.size≤base) (hc:Chg (ownS v) w w'):Chg None' w0 w' :=
 h0.since hc fun b hb' hs=>by have:=(World.ownsRow.lt h b hs.symm).1; omega
theorem Rd.of_take {k:IntKind} {w:World} {g t:Nat} {fz:Nat × Nat} {cur:Array Value} {zs:List Int} (h:w.heap[g]? = some (.cells cur t fz)) (hc:cur.toList.take zs.length=zs.map (Value.int k)):Rd k w (some ⟨g,0,none⟩) zs:=fun i hi=>by
 refine ⟨g,0,rfl,?_⟩
 have h1:(cur.toList.take zs.length)[i]? = (zs.map (Value.int k))[i]?:=by rw [hc]
 rw [List.getElem?_take,if_pos hi] at h1
 rw [cell_of h]
 simp only [Nat.zero_add]
 rw [← Array.getElem?_toList,h1]
 simp [hi]
end Go.Proofs.YtnaoiegcobineaaGreatDoor
