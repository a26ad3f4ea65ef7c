/-
  Rule5
-/
import Derived.Test.YtnaoiegcobineaaGreatDoorQRule4
namespace Go.Proofs.YtnaoiegcobineaaGreatDoor
open Go.RowKit
section
variable {P:Program} {T:Tab} {ops:Array Oper} {fn f:FuncId} {R:Aim} {k:List Item} {q tf n:Nat} {ds:List Deferred} {w w':World} {e e':Env} {S:Nat→Prop}
def grow1 (P:Program) (o:Oper) (a:Act) (w:World) (K:Value→World→Prop):Prop :=
 match (execOp a.eval o).run P w with
 |.ok (.value u) w'=>K u w'
 |.ok .skip w'=>K undef w'
 |.ok (.enter f args) w'=>w'=w∧Calls P f args w (fun e w'' => ∃ v,e = .returned v∧K v w'')
 |_=>False
theorem grow1_mono {o:Oper} {a:Act} {K K':Value→World→Prop} (h:∀ v w',K v w'→K' v w') (hg:grow1 P o a w K):grow1 P o a w K':=by
 unfold grow1 at *
 split
 ·rename_i hr; simp only [hr] at hg; exact h _ _ hg
 ·rename_i hr; simp only [hr] at hg; exact h _ _ hg
 ·rename_i hr; simp only [hr] at hg; exact ⟨hg.1,hg.2.mono fun en w2 ⟨v,h1,h3⟩=>⟨v,h1,h _ _ h3⟩⟩
 ·rename_i h1 h2 h3
  split at hg
  ·rename_i hr; exact absurd hr (h1 _ _)
  ·rename_i hr; exact absurd hr (h2 _)
  ·rename_i hr; exact absurd hr (h3 _ _ _)
  ·exact hg
def opG (P:Program) (ops:Array Oper) (i:Nat) (K:Act→World→Prop) (a:Act) (w:World):Prop :=
 match ops[i]? with
 |none=>False
 |some o=>if Region.wanted o (yielded ops a.tmps) then grow1 P o a w (fun v w'=>K (a.put o.dst v) w') else K (a.put o.dst undef) w
theorem opG_mono {i:Nat} {K K':Act→World→Prop} {a:Act} (h:∀ a' w',K a' w'→K' a' w') (hg:opG P ops i K a w):opG P ops i K' a w:=by
 unfold opG at *
 split
 ·rename_i ho; simp only [ho] at hg
 ·rename_i o ho
  simp only [ho] at hg
  split
  ·rename_i hw; simp only [hw,if_true] at hg; exact grow1_mono (fun v w' hk=>h _ _ hk) hg
  ·rename_i hw; simp only [hw] at hg; exact h _ _ hg
theorem grow1_of_quiet {o:Oper} {a:Act} {v:Value} {K:Value→World→Prop} (hq:quietSt P o a w v) (h:∀ w1,Chg None' w w1→K v w1):grow1 P o a w K:=by
 unfold quietSt at hq
 unfold grow1
 split at hq
 ·rename_i hr; obtain ⟨rfl,rfl⟩:=hq; simp only [hr]; exact h _ (Chg.refl _ _)
 ·rename_i hr; obtain ⟨rfl,rfl⟩:=hq; simp only [hr]; exact h _ (Chg.refl _ _)
 ·rename_i hr; obtain ⟨rfl,hc⟩:=hq; simp only [hr]; exact ⟨trivial,hc.mono fun en w2 ⟨h1,h2⟩=>⟨_,h1,h _ h2⟩⟩
 ·exact hq.elim
theorem YS.opG {C:World→Prop} {i:Nat} {o:Oper} {v:Value} {a:Act} (hi:ops[i]? = some o) (hy:YS P ops C o v a) (hC:C w) {K:Act→World→Prop} (h:∀ w1,Chg None' w w1→K (a.put o.dst v) w1):Go.Proofs.YtnaoiegcobineaaGreatDoor.opG P ops i K a w:=by
 unfold Go.Proofs.YtnaoiegcobineaaGreatDoor.opG
 simp only [hi]
 rcases hy with ⟨hw,hv⟩ | ⟨hw,rfl⟩
 ·simp only [hw,if_true]; exact grow1_of_quiet (hv w hC) h
 ·simp only [hw,Bool.false_eq_true,if_false]; exact h _ (Chg.refl _ _)
theorem Chg.up {S:Nat→Prop} {w w1 w2:World} (h:Chg S w w1) (k:Chg None' w1 w2):Chg S w w2:=h.trans (k.mono fun _ _ h=>h.elim)
theorem Chg.cell {S:Nat→Prop} {w w':World} (h:Chg S w w') {b off:Nat} {v:Value} (hc:w.cell? ⟨b,off,none⟩=some v) (hS:¬ S b):w'.cell? ⟨b,off,none⟩=some v:=by
 have hlt:b<w.heap.size:=World.block_lt_of_cell? w _ hc
 rw [← hc]
 simp only [World.cell?,h.block b hlt hS]
theorem YS.grown {o:Oper} {v:Value} {a:Act} (hy:YS P ops (fun x=>Chg None' w x) o v a) (h:Chg None' w w'):YS P ops (fun x=>Chg None' w' x) o v a :=
 hy.imp (fun ⟨h1,h2⟩=>⟨h1,fun x hx=>h2 x (h.trans hx)⟩) id
theorem opG_put {j:Nat} {oi oj:Oper} {v:Value} {w0:World} (hj:ops[j]? = some oj) (hap:oi.apart ops oj=true)
 (hsi:∀ cs b,oi.op ≠ .select cs b) (hsj:∀ cs b,oj.op ≠ .select cs b) {K:Act→World→Prop} {a:Act}
 (hy:YS P ops (fun x=>Chg S w0 x) oi v a) (h:opG P ops j K (a.put oi.dst v) w) :
 opG P ops j (fun a' w'=>YS P ops (fun x=>Chg S w0 x) oi v a'∧K (a'.put oi.dst v) w') a w:=by
 obtain ⟨h1,h2,h3⟩:=Oper.apart_spec hap
 have keep:∀ (a:Act),YS P ops (fun x=>Chg S w0 x) oi v a → ∀ u,YS P ops (fun x=>Chg S w0 x) oi v (a.put oj.dst u):=fun a hy u =>
  hy.of_same (execOp_put oi hsi a oj.dst u h3) (wanted_put oi a oj.dst u h3)
 unfold opG at *
 simp only [hj] at *
 rw [wanted_put oj a oi.dst v h1] at h
 split
 ·rename_i hw
  simp only [hw,if_true] at h
  have h':grow1 P oj a w (fun u w'=>K ((a.put oi.dst v).put oj.dst u) w'):=by
   unfold grow1 at *
   rwa [execOp_put oj hsj a oi.dst v h1] at h
  refine grow1_mono (fun u w' hk=>⟨keep a hy u,?_⟩) h'
  rw [← Act.put_comm a v u h2]; exact hk
 ·rename_i hw
  simp only [hw] at h
  exact ⟨keep a hy _,by rw [← Act.put_comm a v undef h2]; exact h⟩
theorem RunA.grow {i:Nat} {l:List Nat} {o:Oper} {a:Act} {K:Value→World→Prop} (ho:ops[i]? = some o) (hw:Region.wanted o (yielded ops a.tmps)=true) (hq:grow1 P o a w K)
 (h:∀ v w1,K v w1→RunA P fn R ops k l (a.put o.dst v) w1):RunA P fn R ops k (i::l) a w:=by
 unfold grow1 at hq
 split at hq
 ·rename_i u w' hr; exact RunA.value ho hw (.inl hr) (h _ _ hq)
 ·rename_i w' hr; exact RunA.value ho hw (.inr ⟨hr,rfl⟩) (h _ _ hq)
 ·rename_i fc args w' hr
  obtain ⟨rfl,hcall⟩:=hq
  intro b cs hb hk
  obtain ⟨en,w1,fr,⟨v,hen,hK⟩,hsteps,_,hleave⟩:=hcall (b.atR a (.inRegion ops (i::l)::k)::cs)
  subst hen
  have henter:Go.step P (lone (b.atR a (.inRegion ops (i::l)::k)) cs w') = .next (lone (Frame.enter P fc args .normal) (b.atR a (.inRegion ops (i::l)::k)::cs) w') :=
   step_lone_go (by rw [stepE ho hw hr (by simp)]; simp [stepG.apply,hr,Frame.atR])
  obtain ⟨en2,w2,fr2,hR,hc,h1,h2⟩:=h v w1 hK b cs hb hk
  refine ⟨en2,w2,fr2,hR,.of_steps (.head henter (Steps.trans hsteps (.one ?_))) hc,h1,h2⟩
  have hfin:(b.atR a (.inRegion ops (i::l)::k)).finish v=b.atR (a.put o.dst v) (.inRegion ops l::k):=by
   rw [Frame.finish_atR,ho]; rfl
  rw [← hfin]
  exact step_leave_returned hleave
 ·exact hq.elim
def AnyG (P:Program) (fn:FuncId) (R:Aim) (ops:Array Oper) (k:List Item) (q tf:Nat) (S:Nat→Prop) (w0:World):Nat→Array Bool→Act→World→Prop
 |0,L,a,w=>(∀ i ∈ Region.ready md ops L,q≤i) ∧ ∀ w',Chg None' w w'→AnyA P fn R ops k tf L a w'
 |m+1,L,a,w=>(∃ i,i ∈ Region.ready md ops L) ∧ ∀ w',Chg None' w w' → ∀ i ∈ Region.ready md ops L,opG P ops i (fun a1 w1=>Chg S w0 w1∧AnyG P fn R ops k q tf S w0 m (L.setIfInBounds i true) a1 w1) a w'
theorem AnyG.grown {w0:World}:∀ {m:Nat} {L:Array Bool} {a:Act},AnyG P fn R ops k q tf S w0 m L a w→Chg None' w w'→AnyG P fn R ops k q tf S w0 m L a w'
 |0,_,_,h,hc=>⟨h.1,fun x hx=>h.2 x (hc.trans hx)⟩
 |_+1,_,_,h,hc=>⟨h.1,fun x hx=>h.2 x (hc.trans hx)⟩
theorem AnyG.any {w0:World}:∀ {m:Nat} {L:Array Bool} {a:Act} {w:World},AnyG P fn R ops k q tf S w0 m L a w→AnyA P fn R ops k (m+tf) L a w
 |0,L,a,w,h=>by rw [Nat.zero_add]; exact h.2 w (Chg.refl _ _)
 |m+1,L,a,w,h=>by
  rw [show m+1+tf=(m+tf)+1 from by omega]
  refine AnyA.step h.1 fun i hi t => ?_
  have h1:=h.2 w (Chg.refl _ _) i hi
  unfold opG at h1
  split at h1
  ·exact h1.elim
  ·rename_i o ho
   split at h1
   ·rename_i hw; exact RunA.grow ho hw h1 fun v w1 hk=>(AnyG.any hk.2) t
   ·rename_i hw; exact RunA.skip ho (by simpa using hw) ((AnyG.any h1.2) t)
inductive Reach (ops:Array Oper):Nat→Nat→Prop
 |one {j i:Nat} {o:Oper} {e:_}:ops[j]? = some o→e ∈ o.after→Region.binds md e=true→e.on=i→Reach ops j i
 |step {j p i:Nat} {o:Oper} {e:_}:ops[j]? = some o→e ∈ o.after→Region.binds md e=true→e.on=p→Reach ops p i→Reach ops j i
def Closed (ops:Array Oper) (L:Array Bool):Prop := ∀ j o,ops[j]? = some o→L.getD j false=true → ∀ e ∈ o.after,Region.binds md e=true→L.getD e.on false=true
theorem Reach.listed {j i:Nat} {L:Array Bool} (h:Reach ops j i) (hc:Closed ops L) (hall:∀ o,ops[j]? = some o → ∀ e ∈ o.after,Region.binds md e=true→L.getD e.on false=true):L.getD i false=true:=by
 induction h with
 |one ho he hb hon=>rw [← hon]; exact hall _ ho _ he hb
 |step ho he hb hon _ ih =>
  have hp:=hall _ ho _ he hb
  rw [hon] at hp
  exact ih fun o' ho' e' he' hb'=>hc _ o' ho' hp e' he' hb'
theorem Closed.set {j:Nat} {L:Array Bool} (h:Closed ops L) (hr:j ∈ Region.ready md ops L):Closed ops (L.setIfInBounds j true):=by
 obtain ⟨_,o,ho,hall⟩:=mem_ready.1 hr
 have up:∀ x,L.getD x false=true→(L.setIfInBounds j true).getD x false=true:=fun x hx=>by
  by_cases hjx:j=x
  ·subst hjx
   rcases Nat.lt_or_ge j L.size with h' | h'
   ·simp [h']
   ·simp [Array.getElem?_eq_none h'] at hx
  ·rw [getD_set_ne false hjx]; exact hx
 intro x ox hox hL e he hb
 by_cases hjx:j=x
 ·subst hjx
  rw [ho] at hox; cases hox
  exact up _ (hall e he hb)
 ·rw [getD_set_ne false hjx] at hL
  exact up _ (h x ox hox hL e he hb)
theorem AnyG_first {w0:World} {i:Nat} {oi:Oper} {v:Value} (hi:ops[i]? = some oi) (hsel:∀ (j:Nat) (o:Oper) cs b,ops[j]? = some o→o.op ≠ .select cs b)
 (htail:∀ j o,q≤j→ops[j]? = some o→Reach ops j i) :
 ∀ (m:Nat) (L:Array Bool) (a:Act) (w:World),Chg S w0 w→Closed ops L →
  (∀ j oj,ops[j]? = some oj→j<q→j≠i→L.getD j true=false→(∀ e ∈ oj.after,Region.binds md e=true→e.on≠i)→oi.apart ops oj=true) →
  i ∈ Region.ready md ops L→YS P ops (fun x=>Chg S w0 x) oi v a →
  AnyG P fn R ops k q tf S w0 m (L.setIfInBounds i true) (a.put oi.dst v) w→AnyG P fn R ops k q tf S w0 (m+1) L a w:=by
 have hno:∀ (L:Array Bool) (_:World),Closed ops L→i ∈ Region.ready md ops L → ∀ j,j ∈ Region.ready md ops L→q≤j→False:=fun L _ hcl hr j hj hq=>by
  obtain ⟨_,o,ho,hall⟩:=mem_ready.1 hj
  have hli:=(htail j o hq ho).listed hcl (fun o' ho' e he hb=>by rw [ho] at ho'; cases ho'; exact hall e he hb)
  obtain ⟨hun,_⟩:=mem_ready.1 hr
  rcases Nat.lt_or_ge i L.size with h' | h'
  ·simp [h'] at hli hun; rw [hli] at hun; cases hun
  ·simp [Array.getElem?_eq_none h'] at hun
 intro m
 induction m with
 |zero =>
  intro L a w h0 hcl _ hr hy H
  refine ⟨⟨i,hr⟩,fun w' hw' j hj => ?_⟩
  by_cases hji:j=i
  ·subst hji; exact hy.opG hi (h0.up hw') fun w1 hw1=>⟨(h0.up hw').up hw1,H.grown (hw'.trans hw1)⟩
  ·exact (hno L w hcl hr j hj (H.1 j (ready_mono hj hji))).elim
 |succ m ih =>
  intro L a w h0 hcl hfree hr hy H
  refine ⟨⟨i,hr⟩,fun w' hw' j hj => ?_⟩
  by_cases hji:j=i
  ·subst hji; exact hy.opG hi (h0.up hw') fun w1 hw1=>⟨(h0.up hw').up hw1,H.grown (hw'.trans hw1)⟩
  ·have h1:=H.2 w' hw' j (ready_mono hj hji)
   obtain ⟨hjun,oj,hoj,hall⟩:=mem_ready.1 hj
   have hjq:j<q:=by
    rcases Nat.lt_or_ge j q with h' | h'
    ·exact h'
    ·exact (hno L w hcl hr j hj h').elim
   have h2:=opG_put hoj (hfree j oj hoj hjq hji hjun (ready_not hr hall)) (fun cs b=>hsel i oi cs b hi) (fun cs b=>hsel j oj cs b hoj) hy h1
   have hfree':∀ x ox,ops[x]? = some ox→x<q→x≠i→(L.setIfInBounds j true).getD x true=false →
    (∀ e ∈ ox.after,Region.binds md e=true→e.on≠i)→oi.apart ops ox=true:=fun x ox hx hxq hxi hun hno=>by
    refine hfree x ox hx hxq hxi ?_ hno
    by_cases hjx:j=x
    ·subst hjx; exact hjun
    ·rw [getD_set_ne true hjx] at hun; exact hun
   refine opG_mono (fun a' w1 h3=>⟨h3.2.1,ih (L.setIfInBounds j true) a' w1 h3.2.1 (hcl.set hj) hfree' (ready_mono hr (Ne.symm hji)) h3.1 ?_⟩) h2
   rw [Array.setIfInBounds_comm _ _ hji]
   exact h3.2.2
end
def hasN (i:Nat):List Nat→Bool
 |[]=>false
 |j::r=>match Nat.beq i j with
  |true=>true
  |false=>hasN i r
def rmN (i:Nat):List Nat→List Nat
 |[] => []
 |j::r=>match Nat.beq i j with
  |true=>r
  |false=>j::rmN i r
theorem hasN_iff {i:Nat}:∀ {U:List Nat},hasN i U=true↔i ∈ U
 |[]=>by simp [hasN]
 |j::r=>by
  unfold hasN
  cases h:Nat.beq i j with
  |true=>have:=Nat.eq_of_beq_eq_true h; subst this; simp
  |false =>
   have:i≠j:=Nat.ne_of_beq_eq_false h
   simp only [List.mem_cons,this,false_or]
   exact hasN_iff
theorem hasN_not {i:Nat} {U:List Nat}:hasN i U=false↔i ∉ U:=by
 rw [← hasN_iff]; simp
theorem mem_rmN {i j:Nat}:∀ {U:List Nat},U.Nodup→(j ∈ rmN i U↔j ∈ U∧j≠i)
 |[],_=>by simp [rmN]
 |x::r,hn=>by
  obtain ⟨h1,h2⟩:=List.nodup_cons.1 hn
  unfold rmN
  cases h:Nat.beq i x with
  |true =>
   have:=Nat.eq_of_beq_eq_true h; subst this
   simp only [List.mem_cons]
   constructor
   ·intro hj; exact ⟨.inr hj,fun e=>h1 (e▸hj)⟩
   ·rintro ⟨hj | hj,hne⟩
    ·exact absurd hj hne
    ·exact hj
  |false =>
   have hne:i≠x:=Nat.ne_of_beq_eq_false h
   simp only [List.mem_cons,mem_rmN h2]
   constructor
   ·rintro (rfl | ⟨h3,h4⟩)
    ·exact ⟨.inl rfl,Ne.symm hne⟩
    ·exact ⟨.inr h3,h4⟩
   ·rintro ⟨rfl | h3,h4⟩
    ·exact .inl rfl
    ·exact .inr ⟨h3,h4⟩
theorem nodup_rmN {i:Nat}:∀ {U:List Nat},U.Nodup→(rmN i U).Nodup
 |[],_=>by simp [rmN]
 |x::r,hn=>by
  obtain ⟨h1,h2⟩:=List.nodup_cons.1 hn
  unfold rmN
  cases h:Nat.beq i x with
  |true=>exact h2
  |false=>exact List.nodup_cons.2 ⟨fun hx=>h1 ((mem_rmN h2).1 hx).1,nodup_rmN h2⟩
theorem length_rmN {i:Nat}:∀ {U:List Nat},i ∈ U→(rmN i U).length+1=U.length
 |[],h=>by simp at h
 |x::r,h=>by
  unfold rmN
  cases hb:Nat.beq i x with
  |true=>rfl
  |false =>
   have hne:i≠x:=Nat.ne_of_beq_eq_false hb
   have:i ∈ r:=by rcases List.mem_cons.1 h with h | h; exact absurd h hne; exact h
   simp only [List.length_cons,length_rmN this]
def lsA (s q:Nat) (U:List Nat):Array Bool:=((List.range s).map fun i=>Nat.blt i q && !hasN i U).toArray
theorem lsA_getD {s q i:Nat} {U:List Nat} {d:Bool} (h:i<s):(lsA s q U).getD i d=(Nat.blt i q && !hasN i U):=by
 simp [lsA,h]
theorem lsA_rm {s q i:Nat} {U:List Nat} (hn:U.Nodup) (hq:i<q):(lsA s q U).setIfInBounds i true=lsA s q (rmN i U):=by
 apply Array.ext
 ·simp [lsA]
 ·intro j h1 h2
  have hj:j<s:=by simpa [lsA] using h2
  rw [Array.getElem_setIfInBounds]
  split
  ·rename_i he; subst he
   have:hasN i (rmN i U)=false:=hasN_not.2 (fun h=>((mem_rmN hn).1 h).2 rfl)
   simp [lsA,this,hq,Nat.blt_eq]
  ·rename_i he
   have:hasN j (rmN i U)=hasN j U:=by
    rw [Bool.eq_iff_iff,hasN_iff,hasN_iff,mem_rmN hn]
    exact ⟨fun h=>h.1,fun h=>⟨h,Ne.symm he⟩⟩
   simp [lsA,this]
  ·simpa using h1
def freeU (q:Nat) (U:List Nat) (o:Oper):Bool:=o.after.toList.all fun e => !Region.binds md e || (Nat.blt e.on q && !hasN e.on U)
section
variable {P:Program} {T:Tab} {ops:Array Oper} {fn f:FuncId} {R:Aim} {k:List Item} {q tf n:Nat} {ds:List Deferred} {w w' w0:World} {e e':Env} {U:List Nat} {S:Nat→Prop}
def edge (ops:Array Oper) (j i:Nat):Bool:=match ops[j]? with
 |some o=>o.after.any fun e=>Region.binds md e && e.on == i
 |none=>false
def ancL:List Oper→List Nat→List Nat
 |[],acc=>acc
 |o::r,acc=>ancL r (acc ++ [o.after.toList.foldl (fun m e=>bif Region.binds md e then m ||| (1 <<< e.on) ||| acc.getD e.on 0 else m) 0])
theorem anc_fold (acc:List Nat) (i:Nat):∀ (l:List _) (m:Nat),(l.foldl (fun m e=>bif Region.binds md e then m ||| (1 <<< e.on) ||| acc.getD e.on 0 else m) m).testBit i=true→m.testBit i=true ∨ ∃ e ∈ l,Region.binds md e=true∧(e.on=i∨(acc.getD e.on 0).testBit i=true)
 |[],m,h => .inl h
 |e::l,m,h=>by
  rw [List.foldl_cons] at h
  rcases anc_fold acc i l _ h with h1 | ⟨x,hx,hb,h2⟩
  ·cases hb:Region.binds md e with
   |false=>rw [hb] at h1; exact .inl h1
   |true =>
    rw [hb] at h1
    simp only [cond_true,Nat.testBit_or,Bool.or_eq_true] at h1
    rcases h1 with (h1 | h1) | h1
    ·exact .inl h1
    ·rw [Nat.one_shiftLeft,Nat.testBit_two_pow] at h1
     exact .inr ⟨e,by simp,hb,.inl (of_decide_eq_true h1)⟩
    ·exact .inr ⟨e,by simp,hb,.inr h1⟩
  ·exact .inr ⟨x,by simp [hx],hb,h2⟩
theorem anc_ok:∀ (l:List Oper) (acc:List Nat),(∀ j,l[j]? = ops[acc.length+j]?)→(∀ j i,(acc.getD j 0).testBit i=true→Reach ops j i) → ∀ j i,((ancL l acc).getD j 0).testBit i=true→Reach ops j i
 |[],acc,_,h,j,i,hb=>h j i hb
 |o::r,acc,hl,h,j,i,hb=>by
  refine anc_ok r _ (fun j => ?_) (fun j i hb => ?_) j i hb
  ·have:=hl (j+1)
   simp only [List.length_append,List.length_singleton]
   rw [show acc.length+1+j=acc.length+(j+1) from by omega,← this]
   simp
  ·have ho:ops[acc.length]? = some o:=by have:=hl 0; simpa using this.symm
   rcases Nat.lt_trichotomy j acc.length with hj | hj | hj
   ·rw [List.getD_eq_getElem?_getD,List.getElem?_append_left hj,← List.getD_eq_getElem?_getD] at hb
    exact h j i hb
   ·subst hj
    rw [List.getD_eq_getElem?_getD,List.getElem?_append_right (Nat.le_refl _)] at hb
    simp only [Nat.sub_self,List.getElem?_cons_zero,Option.getD_some] at hb
    rcases anc_fold acc i _ _ hb with h1 | ⟨e,he,hbe,h2 | h2⟩
    ·simp at h1
    ·exact .one ho (by simpa using he) hbe h2
    ·exact .step ho (by simpa using he) hbe rfl (h _ _ h2)
   ·rw [List.getD_eq_getElem?_getD,List.getElem?_append_right (by omega),List.getElem?_eq_none (by simp; omega)] at hb
    simp at hb
def drawB (ops:Array Oper) (q:Nat):Bool :=
 Region.noSelect ops && Nat.ble q ops.size &&
 (List.range q).all (fun i=>(List.range q).all fun j=>i == j || edge ops i j || edge ops j i || (match ops[i]?,ops[j]? with | some a,some b=>a.apart ops b | _,_=>false)) &&
 (let A:=ancL ops.toList []; (List.range' q (ops.size - q)).all (fun j=>(List.range q).all fun i=>(A.getD j 0).testBit i)) &&
 forcedTo ops (ops.size - q) q (lsA ops.size q [])
theorem edge_spec {i j:Nat} {o:Oper} (ho:ops[j]? = some o) (h:edge ops j i=true):∃ e ∈ o.after,Region.binds md e=true∧e.on=i:=by
 unfold edge at h
 rw [ho] at h
 obtain ⟨e,he,h7⟩:=Array.any_eq_true'.1 h
 simp only [Bool.and_eq_true,beq_iff_eq] at h7
 exact ⟨e,he,h7.1,h7.2⟩
theorem drawB_spec (h:drawB ops q=true):Region.noSelect ops=true∧q≤ops.size ∧
 (∀ i j oi oj,i<q→j<q→i≠j→ops[i]? = some oi→ops[j]? = some oj→edge ops i j=true∨edge ops j i=true∨oi.apart ops oj=true) ∧
 (∀ j o i,q≤j→ops[j]? = some o→i<q→Reach ops j i)∧forcedTo ops (ops.size - q) q (lsA ops.size q [])=true:=by
 unfold drawB at h
 simp only [Bool.and_eq_true] at h
 obtain ⟨⟨⟨⟨h1,h2⟩,h3⟩,h4⟩,h5⟩:=h
 refine ⟨h1,by simpa [Nat.ble_eq] using h2,fun i j oi oj hi hj hne hoi hoj => ?_,fun j o i hj ho hi => ?_,h5⟩
 ·have:=List.all_eq_true.1 (List.all_eq_true.1 h3 i (by simpa using hi)) j (by simpa using hj)
  rw [hoi,hoj] at this
  simp only [Bool.or_eq_true,beq_iff_eq] at this
  rcases this with ((h | h) | h) | h
  ·exact absurd h hne
  ·exact .inl h
  ·exact .inr (.inl h)
  ·exact .inr (.inr h)
 ·have hjs:j<ops.size:=(Array.getElem?_eq_some_iff.1 ho).1
  exact anc_ok ops.toList [] (fun x=>by simp) (fun x y h=>by simp at h) j i (List.all_eq_true.1 (List.all_eq_true.1 h4 j (by rw [List.mem_range']; exact ⟨j - q,by omega,by omega⟩)) i (by simpa using hi))
def Nd (ops:Array Oper) (q:Nat) (U:List Nat):Prop:=U.Nodup∧Closed ops (lsA ops.size q U)
theorem Nd.rm {i:Nat} (h:Nd ops q U) (hq:i<q) (hr:i ∈ Region.ready md ops (lsA ops.size q U)):Nd ops q (rmN i U):=⟨nodup_rmN h.1,by rw [← lsA_rm h.1 hq]; exact h.2.set hr⟩
def NdT (ops:Array Oper) (q:Nat) (U:List Nat) (i:Nat):Prop:=Nd ops q U∧i ∈ Region.ready md ops (lsA ops.size q U)
theorem NdT.rm {i:Nat} (h:NdT ops q U i) (hq:i<q):Nd ops q (rmN i U):=h.1.rm hq h.2
def Drawn (P:Program) (f:FuncId) (R:Aim) (n:Nat) (ds:List Deferred) (k:List Item) (ops:Array Oper) (q:Nat) (S:Nat→Prop) (U:List Nat) (e:Env) (w0 w:World):Prop :=
 ∀ a:Act,a.defers=ds→Fits n a e→Nd ops q U→(∀ i ∈ U,i<q)→Chg S w0 w→AnyG P f R ops k q (ops.size - q) S w0 U.length (lsA ops.size q U) a w
theorem free_ready (hB:drawB ops q=true) {i:Nat} {o:Oper} (ho:nth ops.toList i=some o) (hU:i ∈ U) (hq:i<q) (h:freeU q U o=true):i ∈ Region.ready md ops (lsA ops.size q U):=by
 obtain ⟨_,hle,_⟩:=drawB_spec hB
 refine mem_ready.2 ⟨?_,o,nth_at ho,fun e he hb => ?_⟩
 ·rw [lsA_getD (by omega),hasN_iff.2 hU]; simp
 ·have:=List.all_eq_true.1 h e (by simpa using he)
  rw [hb] at this
  simp only [Bool.not_true,Bool.false_or,Bool.and_eq_true,Nat.blt_eq] at this
  rw [lsA_getD (by omega)]
  simp only [Bool.and_eq_true,Nat.blt_eq]
  exact this
theorem ready_free (hB:drawB ops q=true) (hn:Nd ops q U) (hU:U ≠ []) (hlt:∀ i ∈ U,i<q) {i:Nat} (h:i ∈ Region.ready md ops (lsA ops.size q U)):i ∈ U ∧ ∃ o,nth ops.toList i=some o∧freeU q U o=true:=by
 obtain ⟨_,hle,_,htail,_⟩:=drawB_spec hB
 obtain ⟨h0,o,ho,hall⟩:=mem_ready.1 h
 have his:i<ops.size:=(Array.getElem?_eq_some_iff.1 ho).1
 have key:∀ e ∈ o.after,Region.binds md e=true→e.on<q∧e.on ∉ U:=fun e he hb=>by
  have h1:=hall e he hb
  by_cases hs:e.on<ops.size
  ·rw [lsA_getD hs] at h1
   simp only [Bool.and_eq_true,Nat.blt_eq,Bool.not_eq_true'] at h1
   exact ⟨h1.1,hasN_not.1 h1.2⟩
  ·simp [lsA,hs] at h1
 have hiq:i<q:=by
  rcases Nat.lt_or_ge i q with h' | h'
  ·exact h'
  ·cases U with
   |nil=>exact absurd rfl hU
   |cons x r =>
    have hl:=(htail i o x h' ho (hlt x (by simp))).listed hn.2 (fun o' ho' e he hb=>by rw [ho] at ho'; cases ho'; exact hall e he hb)
    have hxq:=hlt x (by simp)
    rw [lsA_getD (by omega)] at hl
    simp [hasN] at hl
 rw [lsA_getD his] at h0
 refine ⟨?_,o,by rw [nth_eq]; simpa using ho,?_⟩
 ·have h1:(Nat.blt i q)=true:=by simpa [Nat.blt_eq] using hiq
  rw [h1] at h0
  exact hasN_iff.1 (by simpa using h0)
 ·unfold freeU
  rw [List.all_eq_true]
  intro e he
  cases hb:Region.binds md e with
  |false=>rfl
  |true =>
   obtain ⟨g1,g2⟩:=key e (by simpa using he) hb
   simp only [Bool.not_true,Bool.false_or,Bool.and_eq_true,Nat.blt_eq,Bool.not_eq_true']
   exact ⟨g1,hasN_not.2 g2⟩
theorem Drawn.first (hB:drawB ops q=true) {i:Nat} {o:Oper} {v:Value} (ho:nth ops.toList i=some o) (hU:i ∈ U) (hfree:freeU q U o=true)
 (hy:∀ a,Fits n a e→YS P ops (fun x=>Chg S w0 x) o v a) (hfit:∀ a:Act,Fits n a e→Fits n (a.put o.dst v) e') (h:Drawn P f R n ds k ops q S (rmN i U) e' w0 w):Drawn P f R n ds k ops q S U e w0 w:=by
 obtain ⟨hsel,hle,hpairs,htail,_⟩:=drawB_spec hB
 intro a hd hf hn hlt h0
 have hiq:=hlt i hU
 have hlen:=length_rmN hU
 rw [← hlen]
 refine AnyG_first (nth_at ho) (Region.noSelect_spec hsel) (fun j oj hj hoj=>htail j oj i hj hoj hiq) _ _ a w h0 hn.2 (fun j oj hoj hjq hji hun hno => ?_) (free_ready hB ho hU hiq hfree) (hy a hf) ?_
 ·have hjs:j<ops.size:=(Array.getElem?_eq_some_iff.1 hoj).1
  ·rcases hpairs i j o oj hiq hjq (Ne.symm hji) (nth_at ho) hoj with h1 | h1 | h1
   ·exfalso
    obtain ⟨x,hx,hb,hon⟩:=edge_spec (nth_at ho) h1
    have:=List.all_eq_true.1 hfree x (by simpa using hx)
    rw [hb] at this
    simp only [Bool.not_true,Bool.false_or,Bool.and_eq_true,Nat.blt_eq,Bool.not_eq_true',hon] at this
    rw [lsA_getD hjs,this.2] at hun
    simp only [Bool.not_false,Bool.and_true] at hun
    rw [show Nat.blt j q=true from by simpa [Nat.blt_eq] using hjq] at hun; cases hun
   ·exfalso
    obtain ⟨x,hx,hb,hon⟩:=edge_spec hoj h1
    exact hno x hx hb hon
   ·exact h1
 ·rw [lsA_rm hn.1 hiq]
  exact h _ (by cases o.dst <;> exact hd) (hfit a hf) (hn.rm hiq (free_ready hB ho hU hiq hfree)) (fun j hj=>hlt j ((mem_rmN hn.1).1 hj).1) h0
theorem Drawn.weaken (h:Drawn P f R n ds k ops q S U e' w0 w) (hs:∀ t v,look e' t=some v→look e t=some v):Drawn P f R n ds k ops q S U e w0 w:=fun a hd hf=>h a hd (hf.weaken hs)
theorem Drawn.know {t:Nat} {b:Bool} {v:Value} (h:look e t=some v) (hg:Drawn P f R n ds k ops q S U ((t,b,v)::e) w0 w):Drawn P f R n ds k ops q S U e w0 w :=
 hg.weaken fun u x hu=>by
  rw [look_cons] at hu
  by_cases he:u=t
  ·subst he; rw [if_pos rfl] at hu; rw [h,hu]
  ·rwa [if_neg he] at hu
theorem Drawn.one (hB:drawB ops q=true) {i:Nat} {o:Oper} {v:Value} {fl:Bool} (ho:nth ops.toList i=some o) (hU:i ∈ U) (hfree:freeU q U o=true) (hw:want e ops o=some true) (hp:putE n o.dst fl v e=some e')
 (hrun:∀ a w',Chg S w0 w'→Fits n a e→quietSt P o a w' v) (h:Drawn P f R n ds k ops q S (rmN i U) e' w0 w):Drawn P f R n ds k ops q S U e w0 w :=
 Drawn.first hB ho hU hfree (fun a hf => .inl ⟨want_ok hf hw,fun w' hw'=>hrun a w' hw' hf⟩) (fun a hf=>putE_ok hp a hf) h
theorem Drawn.skip (hB:drawB ops q=true) {i:Nat} {o:Oper} {fl:Bool} (ho:nth ops.toList i=some o) (hU:i ∈ U) (hfree:freeU q U o=true) (hw:want e ops o=some false) (hp:putE n o.dst fl undef e=some e')
 (h:Drawn P f R n ds k ops q S (rmN i U) e' w0 w):Drawn P f R n ds k ops q S U e w0 w :=
 Drawn.first hB ho hU hfree (fun a hf => .inr ⟨want_ok hf hw,rfl⟩) (fun a hf=>putE_ok hp a hf) h
def advD (T:Tab) (n:Nat) (ops:Array Oper) (q:Nat):List Nat→List Nat→Env→List Nat × Env
 |[],U,e=>(U,e)
 |i::r,U,e=>match nth ops.toList i with
  |none=>advD T n ops q r U e
  |some o=>match hasN i U && freeU q U o with
   |false=>advD T n ops q r U e
   |true=>match want e ops o with
    |some false=>match putE n o.dst true undef e with
     |some e'=>advD T n ops q r (rmN i U) e'
     |none=>advD T n ops q r U e
    |some true=>match opV T e o.op with
     |some v=>match putE n o.dst (opF e o.op) v e with
      |some e'=>advD T n ops q r (rmN i U) e'
      |none=>advD T n ops q r U e
     |none=>advD T n ops q r U e
    |none=>advD T n ops q r U e
theorem advD_ok (hT:TabOk P T) (hB:drawB ops q=true):∀ (l U:List Nat) (e:Env),Drawn P f R n ds k ops q S (advD T n ops q l U e).1 (advD T n ops q l U e).2 w0 w→Drawn P f R n ds k ops q S U e w0 w
 |[],U,e,h=>h
 |i::r,U,e,h=>by
  unfold advD at h
  split at h
  ·exact advD_ok hT hB r U e h
  ·rename_i o ho
   split at h
   ·exact advD_ok hT hB r U e h
   ·rename_i hfr
    simp only [Bool.and_eq_true] at hfr
    obtain ⟨hU,hfr⟩:=hfr
    split at h
    ·rename_i hw
     split at h
     ·rename_i e' he; exact Drawn.skip hB ho (hasN_iff.1 hU) hfr hw he (advD_ok hT hB r _ e' h)
     ·exact advD_ok hT hB r U e h
    ·rename_i hw
     split at h
     ·rename_i v hv
      split at h
      ·rename_i e' he
       exact Drawn.one hB ho (hasN_iff.1 hU) hfr hw he (fun a w' _ hf=>by unfold quietSt; rw [opV_run hT hf hv w']; exact ⟨rfl,rfl⟩) (advD_ok hT hB r _ e' h)
      ·exact advD_ok hT hB r U e h
     ·exact advD_ok hT hB r U e h
    ·exact advD_ok hT hB r U e h
theorem Drawn.adv (hT:TabOk P T) (hB:drawB ops q=true) {U':List Nat} (h:advD T n ops q U U e=(U',e')) (hg:Drawn P f R n ds k ops q S U' e' w0 w):Drawn P f R n ds k ops q S U e w0 w:=advD_ok hT hB U U e (by rw [h]; exact hg)
def findD {δ:Type} (g:Oper→Option δ) (n:Nat) (ops:Array Oper) (q:Nat) (U:List Nat) (e:Env):List Nat→Option (δ × Nat × Nat)
 |[]=>none
 |i::r=>match nth ops.toList i with
  |none=>findD g n ops q U e r
  |some o=>match freeU q U o with
   |false=>findD g n ops q U e r
   |true=>match want e ops o with
    |some true=>match o.dst with
     |some d=>match Nat.blt d n with
      |true=>match g o with
       |some x=>some (x,d,i)
       |none=>findD g n ops q U e r
      |false=>findD g n ops q U e r
     |none=>findD g n ops q U e r
    |_=>findD g n ops q U e r
theorem findD_ok {δ:Type} {g:Oper→Option δ} {x:δ} {d i:Nat}:∀ {l:List Nat},findD g n ops q U e l=some (x,d,i)→i ∈ l ∧ ∃ o,nth ops.toList i=some o∧freeU q U o=true∧want e ops o=some true∧o.dst=some d∧Nat.blt d n=true∧g o=some x
 |[],h=>by simp [findD] at h
 |j::r,h=>by
  have rec':findD g n ops q U e r=some (x,d,i)→i ∈ j::r ∧ ∃ o,nth ops.toList i=some o∧freeU q U o=true∧want e ops o=some true∧o.dst=some d∧Nat.blt d n=true∧g o=some x:=fun h=>by
   obtain ⟨h1,h2⟩:=findD_ok h
   exact ⟨.tail _ h1,h2⟩
  unfold findD at h
  split at h
  ·exact rec' h
  ·rename_i o ho
   split at h
   ·exact rec' h
   ·rename_i hfr
    split at h
    ·rename_i hw
     split at h
     ·rename_i d1 hd
      split at h
      ·rename_i hlt
       split at h
       ·rename_i y hy; cases h; exact ⟨.head _,o,ho,hfr,hw,hd,hlt,hy⟩
       ·exact rec' h
      ·exact rec' h
     ·exact rec' h
    ·exact rec' h
theorem putE_dst {d:Nat} {v:Value} (h:Nat.blt d n=true):putE n (some d) false v e=some ((d,false,v)::e):=by
 rw [putE_eq]; unfold put0; simp only [h]; rfl
theorem Drawn.valQ (hT:TabOk P T) (hB:drawB ops q=true) {δ:Type} {g:Oper→Option δ} {x:δ} {d i:Nat} {v:Value} {U2:List Nat} {e2:Env} (h:findD g n ops q U e U=some (x,d,i))
 (hrun:∀ o,g o=some x → ∀ a w',Chg S w0 w'→Fits n a e→quietSt P o a w' v) (ha:advD T n ops q (rmN i U) (rmN i U) ((d,false,v)::e)=(U2,e2)) (hg:Drawn P f R n ds k ops q S U2 e2 w0 w):Drawn P f R n ds k ops q S U e w0 w:=by
 obtain ⟨hU,o,ho,hfr,hw,hd,hlt,hx⟩:=findD_ok h
 exact Drawn.one hB ho hU hfr hw (by rw [hd]; exact putE_dst hlt) (hrun o hx) (Drawn.adv hT hB ha hg)
theorem Drawn.val (hT:TabOk P T) (hB:drawB ops q=true) {δ:Type} {g:Oper→Option δ} {x:δ} {d i:Nat} {v:Value} {U2:List Nat} {e2:Env} (h:findD g n ops q U e U=some (x,d,i))
 (hrun:∀ o,g o=some x → ∀ a w',Chg S w0 w'→Fits n a e→(execOp a.eval o).run P w' = .ok (.value v) w') (ha:advD T n ops q (rmN i U) (rmN i U) ((d,false,v)::e)=(U2,e2)) (hg:Drawn P f R n ds k ops q S U2 e2 w0 w):Drawn P f R n ds k ops q S U e w0 w :=
 Drawn.valQ hT hB h (fun o ho a w' hw' hf=>by unfold quietSt; rw [hrun o ho a w' hw' hf]; exact ⟨rfl,rfl⟩) ha hg
theorem Drawn.arith (hT:TabOk P T) (hB:drawB ops q=true) {kk:IntKind} {z z':Int} {d i:Nat} {U2:List Nat} {e2:Env} (h:findD (arithOf T e) n ops q U e U=some ((kk,z),d,i)) (hz:kk.wrap z=z')
 (ha:advD T n ops q (rmN i U) (rmN i U) ((d,false,.int kk z')::e)=(U2,e2)) (hg:Drawn P f R n ds k ops q S U2 e2 w0 w):Drawn P f R n ds k ops q S U e w0 w :=
 Drawn.val hT hB h (fun _ ho a w' _ hf=>arithOf_run hT ho hz a hf w') ha hg
theorem Drawn.div (hT:TabOk P T) (hB:drawB ops q=true) {p:Bool} {kk:IntKind} {x y z:Int} {d i:Nat} {U2:List Nat} {e2:Env} (h:findD (divOf e) n ops q U e U=some ((p,kk,x,y),d,i)) (hy:y≠0) (hz:divV p kk x y=z)
 (ha:advD T n ops q (rmN i U) (rmN i U) ((d,false,.int kk z)::e)=(U2,e2)) (hg:Drawn P f R n ds k ops q S U2 e2 w0 w):Drawn P f R n ds k ops q S U e w0 w :=
 Drawn.val hT hB h (fun _ ho a w' _ hf=>divOf_run ho hy hz a hf w') ha hg
theorem Drawn.index (hT:TabOk P T) (hB:drawB ops q=true) {b off len sz d j i:Nat} {x:Int} {U2:List Nat} {e2:Env} (h:findD (indexOf T e) n ops q U e U=some ((b,off,len,sz,x),d,i)) (h0:0≤x) (h1:x<len) (hj:x.toNat*sz=j)
 (ha:advD T n ops q (rmN i U) (rmN i U) ((d,false,.pointer (some ⟨b,off+j,none⟩))::e)=(U2,e2)) (hg:Drawn P f R n ds k ops q S U2 e2 w0 w):Drawn P f R n ds k ops q S U e w0 w :=
 Drawn.val hT hB h (fun _ ho a w' _ hf=>indexOf_run hT ho h0 h1 hj a hf w') ha hg
theorem Drawn.load (hT:TabOk P T) (hB:drawB ops q=true) {b off d i:Nat} {v:Value} {U2:List Nat} {e2:Env} (h:findD (loadOf T e) n ops q U e U=some ((b,off,none),d,i)) (hc:w0.cell? ⟨b,off,none⟩=some v) (hS:¬ S b)
 (ha:advD T n ops q (rmN i U) (rmN i U) ((d,false,v)::e)=(U2,e2)) (hg:Drawn P f R n ds k ops q S U2 e2 w0 w):Drawn P f R n ds k ops q S U e w0 w :=
 Drawn.val hT hB h (fun _ ho a _ hw' hf=>loadOf_run hT ho (hw'.cell hc hS) a hf) ha hg
theorem Drawn.loadb (hT:TabOk P T) (hB:drawB ops q=true) {b off d i:Nat} {v:Value} {c:List Value} {t:TypeId} {fz:Nat × Nat} {U2:List Nat} {e2:Env} (h:findD (loadOf T e) n ops q U e U=some ((b,off,none),d,i)) (hc:w0.heap[b]? = some (.cells c.toArray t fz)) (hS:¬ S b) (hv:nthV c off=some v)
 (ha:advD T n ops q (rmN i U) (rmN i U) ((d,false,v)::e)=(U2,e2)) (hg:Drawn P f R n ds k ops q S U2 e2 w0 w):Drawn P f R n ds k ops q S U e w0 w :=
 Drawn.load hT hB h (cell_nth hc hv) hS ha hg
theorem Drawn.loads (hT:TabOk P T) (hB:drawB ops q=true) {b off m d i:Nat} {c vs:List Value} {t:TypeId} {fz:Nat × Nat} {U2:List Nat} {e2:Env} (h:findD (loadOf T e) n ops q U e U=some ((b,off,some m),d,i)) (hc:w0.heap[b]? = some (.cells c.toArray t fz)) (hS:¬ S b) (hv:cut c off m=some vs)
 (ha:advD T n ops q (rmN i U) (rmN i U) ((d,false,.agg vs.toArray)::e)=(U2,e2)) (hg:Drawn P f R n ds k ops q S U2 e2 w0 w):Drawn P f R n ds k ops q S U e w0 w :=
 Drawn.val hT hB h (fun _ ho a _ hw' hf=>loadsOf_run hT ho (hw'.heap hc hS) hv a hf) ha hg
theorem Drawn.build (hT:TabOk P T) (hB:drawB ops q=true) {vs:List Value} {d i:Nat} {U2:List Nat} {e2:Env} (h:findD (buildOf T e) n ops q U e U=some (vs,d,i))
 (ha:advD T n ops q (rmN i U) (rmN i U) ((d,false,.agg vs.toArray)::e)=(U2,e2)) (hg:Drawn P f R n ds k ops q S U2 e2 w0 w):Drawn P f R n ds k ops q S U e w0 w :=
 Drawn.val hT hB h (fun _ ho a w' _ hf=>buildOf_run hT ho a hf w') ha hg
theorem Drawn.slice (hT:TabOk P T) (hB:drawB ops q=true) {b:Option Addr} {len cap sz l h d i:Nat} {lo hi:Option Int} {U2:List Nat} {e2:Env} (ho:findD (sliceOf T e) n ops q U e U=some ((b,len,cap,lo,hi,sz),d,i)) (hl:loV lo=l) (hh:hiV len hi=h) (h1:l≤h) (h2:h≤cap)
 (ha:advD T n ops q (rmN i U) (rmN i U) ((d,false,.slice (shiftA b cap l sz) (h - l) (cap - l))::e)=(U2,e2)) (hg:Drawn P f R n ds k ops q S U2 e2 w0 w):Drawn P f R n ds k ops q S U e w0 w :=
 Drawn.val hT hB ho (fun _ ho a w' _ hf=>sliceOf_run hT ho hl hh h1 h2 a hf w') ha hg
theorem Drawn.call (hT:TabOk P T) (hB:drawB ops q=true) {fk d i:Nat} {as:List Value} {v:Value} {U2:List Nat} {e2:Env} (h:findD (callOf e) n ops q U e U=some ((fk,as),d,i)) (hd:∀ w',Chg S w0 w'→Does P fk as.toArray w' (fun u w2=>u=v∧Chg None' w' w2))
 (ha:advD T n ops q (rmN i U) (rmN i U) ((d,false,v)::e)=(U2,e2)) (hg:Drawn P f R n ds k ops q S U2 e2 w0 w):Drawn P f R n ds k ops q S U e w0 w :=
 Drawn.valQ hT hB h (fun o ho a w' hw' hf=>by
  have h1:=hd w' hw'
  unfold quietSt
  rw [callOf_run ho h1.fn a hf]
  exact ⟨rfl,h1.calls.mono fun en w2 ⟨u,hu,h2,h3⟩=>⟨by rw [hu,h2],h3⟩⟩) ha hg
def askD (ops:Array Oper) (q:Nat) (U:List Nat) (e:Env):List Nat→Option (Nat × Bool)
 |[]=>none
 |i::r=>match nth ops.toList i with
  |none=>askD ops q U e r
  |some o=>match freeU q U o with
   |false=>askD ops q U e r
   |true=>match want e ops o with
    |some false=>askD ops q U e r
    |_=>match askQ ops [o] e with
     |some x=>some x
     |none=>askD ops q U e r
theorem look_askD {t:Nat} {p:Bool}:∀ {l:List Nat},askD ops q U e l=some (t,p)→look e t=some (.bool p)
 |[],h=>by simp [askD] at h
 |j::r,h=>by
  unfold askD at h
  split at h
  ·exact look_askD h
  ·split at h
   ·exact look_askD h
   ·split at h
    ·exact look_askD h
    ·split at h
     ·rename_i x hx; cases h; exact look_askQ hx
     ·exact look_askD h
theorem Drawn.fork (hT:TabOk P T) (hB:drawB ops q=true) {t:Nat} {p:Bool} {U1 U2:List Nat} {e1 e2:Env} (h:askD ops q U e U=some (t,p)) (ha:advD T n ops q U U ((t,true,.bool true)::e)=(U1,e1)) (hb:advD T n ops q U U ((t,true,.bool false)::e)=(U2,e2))
 (ht:p=true→Drawn P f R n ds k ops q S U1 e1 w0 w) (hf:p=false→Drawn P f R n ds k ops q S U2 e2 w0 w):Drawn P f R n ds k ops q S U e w0 w:=by
 have hl:=look_askD h
 cases p with
 |true=>exact (Drawn.adv hT hB ha (ht rfl)).know hl
 |false=>exact (Drawn.adv hT hB hb (hf rfl)).know hl
theorem Drawn.yes (hT:TabOk P T) (hB:drawB ops q=true) {t:Nat} {p:Bool} {U1:List Nat} {e1:Env} (h:askD ops q U e U=some (t,p)) (hp:p=true) (ha:advD T n ops q U U ((t,true,.bool true)::e)=(U1,e1)) (hg:Drawn P f R n ds k ops q S U1 e1 w0 w):Drawn P f R n ds k ops q S U e w0 w:=by
 subst hp; exact (Drawn.adv hT hB ha hg).know (look_askD h)
theorem Drawn.no (hT:TabOk P T) (hB:drawB ops q=true) {t:Nat} {p:Bool} {U1:List Nat} {e1:Env} (h:askD ops q U e U=some (t,p)) (hp:p=false) (ha:advD T n ops q U U ((t,true,.bool false)::e)=(U1,e1)) (hg:Drawn P f R n ds k ops q S U1 e1 w0 w):Drawn P f R n ds k ops q S U e w0 w:=by
 subst hp; exact (Drawn.adv hT hB ha hg).know (look_askD h)
def freeL (ops:Array Oper) (q:Nat) (U:List Nat):List Nat→List Nat
 |[] => []
 |i::r=>match nth ops.toList i with
  |none=>freeL ops q U r
  |some o=>match freeU q U o with
   |true=>i::freeL ops q U r
   |false=>freeL ops q U r
theorem freeL_mem {i:Nat}:∀ {l:List Nat},i ∈ freeL ops q U l↔i ∈ l ∧ ∃ o,nth ops.toList i=some o∧freeU q U o=true
 |[]=>by simp [freeL]
 |j::r=>by
  unfold freeL
  split
  ·rename_i h
   rw [freeL_mem]
   constructor
   ·rintro ⟨h1,h2⟩; exact ⟨.tail _ h1,h2⟩
   ·rintro ⟨h1,o,ho,h2⟩
    rcases List.mem_cons.1 h1 with rfl | h1
    ·rw [h] at ho; cases ho
    ·exact ⟨h1,o,ho,h2⟩
  ·rename_i o ho
   split
   ·rename_i hf
    rw [List.mem_cons,freeL_mem]
    constructor
    ·rintro (rfl | ⟨h1,h2⟩)
     ·exact ⟨.head _,o,ho,hf⟩
     ·exact ⟨.tail _ h1,h2⟩
    ·rintro ⟨h1,h2⟩
     rcases List.mem_cons.1 h1 with rfl | h1
     ·exact .inl rfl
     ·exact .inr ⟨h1,h2⟩
   ·rename_i hf
    rw [freeL_mem]
    constructor
    ·rintro ⟨h1,h2⟩; exact ⟨.tail _ h1,h2⟩
    ·rintro ⟨h1,o',ho',h2⟩
     rcases List.mem_cons.1 h1 with rfl | h1
     ·rw [ho] at ho'; cases ho'; rw [hf] at h2; cases h2
     ·exact ⟨h1,o',ho',h2⟩
def Turn (P:Program) (f:FuncId) (R:Aim) (n:Nat) (ds:List Deferred) (k:List Item) (ops:Array Oper) (q:Nat) (S:Nat→Prop) (U:List Nat) (i:Nat) (e:Env) (w0 w:World):Prop :=
 ∀ a:Act,a.defers=ds→Fits n a e→NdT ops q U i→(∀ j ∈ U,j<q)→i ∈ U→Chg S w0 w→opG P ops i (fun a1 w1=>Chg S w0 w1∧AnyG P f R ops k q (ops.size - q) S w0 (rmN i U).length (lsA ops.size q (rmN i U)) a1 w1) a w
theorem Drawn.turns (hB:drawB ops q=true) {i0:Nat} {I:List Nat} (h:freeL ops q U U=i0::I) (hall:∀ w',Chg None' w w' → ∀ i ∈ i0::I,Turn P f R n ds k ops q S U i e w0 w'):Drawn P f R n ds k ops q S U e w0 w:=by
 intro a hd hf hn hlt hch
 have h0:i0 ∈ freeL ops q U U:=by rw [h]; simp
 obtain ⟨hU0,o0,ho0,hf0⟩:=freeL_mem.1 h0
 have hne:U ≠ []:=by intro he; subst he; simp at hU0
 have hlen:=length_rmN hU0
 rw [← hlen]
 refine ⟨⟨i0,free_ready hB ho0 hU0 (hlt _ hU0) hf0⟩,fun w' hw' i hi => ?_⟩
 obtain ⟨hU,o,ho,hfr⟩:=ready_free hB hn hne hlt hi
 have:=hall w' hw' i (by rw [← h]; exact freeL_mem.2 ⟨hU,o,ho,hfr⟩) a hd hf ⟨hn,hi⟩ hlt hU (hch.up hw')
 rw [lsA_rm hn.1 (hlt _ hU)]
 have he:(rmN i0 U).length=(rmN i U).length:=by have:=length_rmN hU; omega
 rw [he]
 exact this
theorem Drawn.turn1 (hB:drawB ops q=true) {i:Nat} (h:freeL ops q U U = [i]) (h1:∀ w',Chg None' w w'→Turn P f R n ds k ops q S U i e w0 w'):Drawn P f R n ds k ops q S U e w0 w :=
 Drawn.turns hB h fun w' hw' j hj=>by simp at hj; subst hj; exact h1 w' hw'
theorem Drawn.turn2 (hB:drawB ops q=true) {i j:Nat} (h:freeL ops q U U = [i,j]) (h1:∀ w',Chg None' w w'→Turn P f R n ds k ops q S U i e w0 w') (h2:∀ w',Chg None' w w'→Turn P f R n ds k ops q S U j e w0 w'):Drawn P f R n ds k ops q S U e w0 w :=
 Drawn.turns hB h fun w' hw' x hx=>by
  rcases List.mem_cons.1 hx with rfl | hx
  ·exact h1 w' hw'
  ·simp at hx; subst hx; exact h2 w' hw'
def atTurn {δ:Type} (g:Oper→Option δ) (n:Nat) (ops:Array Oper) (e:Env) (i:Nat):Option (δ × Nat) :=
 match nth ops.toList i with
 |some o=>match want e ops o with
  |some true=>match o.dst with
   |some d=>match Nat.blt d n with
    |true=>match g o with
     |some x=>some (x,d)
     |none=>none
    |false=>none
   |none=>none
  |_=>none
 |none=>none
theorem atTurn_ok {δ:Type} {g:Oper→Option δ} {x:δ} {d i:Nat} (h:atTurn g n ops e i=some (x,d)):∃ o,nth ops.toList i=some o∧want e ops o=some true∧o.dst=some d∧Nat.blt d n=true∧g o=some x:=by
 unfold atTurn at h
 split at h
 ·rename_i o ho
  split at h
  ·rename_i hw
   split at h
   ·rename_i d1 hd
    split at h
    ·rename_i hlt
     split at h
     ·rename_i y hy; cases h; exact ⟨o,ho,hw,hd,hlt,hy⟩
     ·cases h
    ·cases h
   ·cases h
  ·cases h
 ·cases h
theorem Turn.val (hT:TabOk P T) (hB:drawB ops q=true) {δ:Type} {g:Oper→Option δ} {x:δ} {d i:Nat} {v:Value} {w1:World} {U2:List Nat} {e2:Env} (h:atTurn g n ops e i=some (x,d))
 (hrun:∀ o,g o=some x → ∀ a,Fits n a e→(execOp a.eval o).run P w = .ok (.value v) w1) (hc:Chg S w0 w→Chg S w0 w1) (ha:advD T n ops q (rmN i U) (rmN i U) ((d,false,v)::e)=(U2,e2)) (hg:Drawn P f R n ds k ops q S U2 e2 w0 w1):Turn P f R n ds k ops q S U i e w0 w:=by
 obtain ⟨o,ho,hw,hd,hlt,hx⟩:=atTurn_ok h
 intro a hds hf hn hq hU h0
 unfold opG
 rw [nth_at ho]
 simp only [want_ok hf hw,if_true]
 unfold grow1
 rw [hrun o hx a hf]
 exact ⟨hc h0,Drawn.adv hT hB ha hg _ (by cases o.dst <;> exact hds) (putE_ok (by rw [hd]; exact putE_dst hlt) a hf) (hn.rm (hq _ hU)) (fun j hj=>hq j ((mem_rmN hn.1.1).1 hj).1) (hc h0)⟩
theorem Turn.alloc (hT:TabOk P T) (hB:drawB ops q=true) {l:List Value} {t d i:Nat} {U2:List Nat} {e2:Nat→Env} (h:atTurn (allocOf T e) n ops e i=some ((l,t),d))
 (ha:∀ b,advD T n ops q (rmN i U) (rmN i U) ((d,false,.pointer (some ⟨b,0,none⟩))::e)=(U2,e2 b))
 (hg:∀ b w1,b=w.heap.size→w1.heap[b]? = some (.cells l.toArray t (0,0))→Chg None' w w1→w1.heap.size=w.heap.size+1→Drawn P f R n ds k ops q S U2 (e2 b) w0 w1):Turn P f R n ds k ops q S U i e w0 w :=
 Turn.val hT hB h (fun _ ho a hf=>allocOf_run hT ho a hf) (fun h=>h.up (chg_new _ _)) (ha _) (hg _ _ rfl (by simp) (chg_new _ _) (by simp))
theorem Turn.buildSlice (hT:TabOk P T) (hB:drawB ops q=true) {vs:List Value} {t len d i:Nat} {U2:List Nat} {e2:Nat→Env} (h:atTurn (buildSliceOf T e) n ops e i=some ((vs,t,len),d))
 (ha:∀ b,advD T n ops q (rmN i U) (rmN i U) ((d,false,.slice (some ⟨b,0,none⟩) len len)::e)=(U2,e2 b))
 (hg:∀ b w1,b=w.heap.size→w1.heap[b]? = some (.cells vs.toArray t (0,0))→Chg None' w w1→w1.heap.size=w.heap.size+1→Drawn P f R n ds k ops q S U2 (e2 b) w0 w1):Turn P f R n ds k ops q S U i e w0 w :=
 Turn.val hT hB h (fun _ ho a hf=>buildSliceOf_run hT ho a hf w) (fun h=>h.up (chg_new _ _)) (ha _) (hg _ _ rfl (by simp) (chg_new _ _) (by simp))
theorem Turn.call {fk d i:Nat} {as:List Value} {Post:Value→World→Prop} (h:atTurn (callOf e) n ops e i=some ((fk,as),d)) (hk:FnOk P fk) (hd:Chg S w0 w→Does P fk as.toArray w (fun v w2=>Chg S w0 w2∧Post v w2))
 (hg:∀ v w1,Chg S w0 w1→Post v w1→Drawn P f R n ds k ops q S (rmN i U) ((d,false,v)::e) w0 w1):Turn P f R n ds k ops q S U i e w0 w:=by
 obtain ⟨o,ho,hw,hdst,hlt,hx⟩:=atTurn_ok h
 intro a hds hf hn hq hU h0
 unfold opG
 rw [nth_at ho]
 simp only [want_ok hf hw,if_true]
 unfold grow1
 rw [callOf_run hx hk a hf]
 exact ⟨rfl,(hd h0).calls.mono fun en w2 ⟨v,hen,hc,hp⟩=>⟨v,hen,hc,hg v w2 hc hp _ (by cases o.dst <;> exact hds) (putE_ok (by rw [hdst]; exact putE_dst hlt) a hf) (hn.rm (hq _ hU)) (fun j hj=>hq j ((mem_rmN hn.1.1).1 hj).1) hc⟩⟩
theorem Drawn.nil (hB:drawB ops q=true) (h:∀ w',Chg None' w w'→Goes P f R n ds (.inRegion ops (List.range' q (ops.size - q))::k) e w'):Drawn P f R n ds k ops q S [] e w0 w:=by
 obtain ⟨_,hle,_,htail,hfor⟩:=drawB_spec hB
 intro a hd hf _ _ _
 refine ⟨fun i hi => ?_,fun w' hw' t => ?_⟩
 ·obtain ⟨h0,o,ho,_⟩:=mem_ready.1 hi
  have his:i<ops.size:=(Array.getElem?_eq_some_iff.1 ho).1
  rw [lsA_getD his] at h0
  rcases Nat.lt_or_ge i q with h1 | h1
  ·rw [show Nat.blt i q=true from by simpa [Nat.blt_eq] using h1] at h0; simp [hasN] at h0
  ·exact h1
 ·rw [forced_lin _ _ _ hfor t]
  intro b cs hb hk
  exact h w' hw' b cs a hb hk hd hf
theorem Goes.drawn (S:Nat→Prop) (hT:TabOk P T) (hm:P.follows .mixedOrders=true) {id:Nat} {U2:List Nat} {e2:Env} (hB:drawB ops q=true) (ha:advD T n ops q (List.range q) (List.range q) e=(U2,e2)) (h':drawB ops q=true→Drawn P f R n ds k ops q S U2 e2 w w):Goes P f R n ds (.code (.region id ops true)::k) e w:=by
 have h:=h' hB
 obtain ⟨hsel,hq,_⟩:=drawB_spec hB
 intro b cs a hb hk hd hf
 have hcl0:Closed ops (lsA ops.size q (List.range q)):=fun j o ho hL=>by
  have hjs:j<ops.size:=(Array.getElem?_eq_some_iff.1 ho).1
  rw [lsA_getD hjs] at hL
  simp only [Bool.and_eq_true,Nat.blt_eq,Bool.not_eq_true'] at hL
  exact absurd (by simpa using hL.1) (hasN_not.1 hL.2)
 have hD:=Drawn.adv hT hB ha h a hd hf ⟨List.nodup_range,hcl0⟩ (fun i hi=>by simpa using hi) (Chg.refl _ _)
 have hs:lsA ops.size q (List.range q)=Array.replicate ops.size false:=by
  apply Array.ext
  ·simp [lsA]
  ·intro i h1 h2
   have:hasN i (List.range q)=Nat.blt i q:=by rw [Bool.eq_iff_iff,hasN_iff,Nat.blt_eq]; simp
   simp [lsA,this]
 rw [hs,List.length_range] at hD
 have hany:=(hD.grown ((Chg.refl _ _).drew _)).any (w:={w with drawn:=w.drawn+1})
 rw [show q+(ops.size - q)=ops.size from by omega] at hany
 obtain ⟨en,w',fr,hR,hc,h1,h2⟩:=hany (w.tape w.drawn (.order b.fn id)) b cs hb hk
 refine ⟨en,w',fr,hR,.of_steps (.one ?_) hc,h1,h2⟩
 rw [stepR_region_draw]
 simp only [Region.schedule,hm,Bool.true_or,if_true]
 rfl
end
end Go.Proofs.YtnaoiegcobineaaGreatDoor
