/-
  Mix
-/
import Derived.Test.YtnaoiegcobineaaGreatDoorQRule2
namespace Go.Proofs.YtnaoiegcobineaaGreatDoor
open Go.RowKit
section
variable {P:Program} {ops:Array Oper} {C:World→Prop}
def quietSt (P:Program) (o:Oper) (a:Act) (w:World) (v:Value):Prop :=
 match (execOp a.eval o).run P w with
 |.ok (.value u) w'=>w'=w∧u=v
 |.ok .skip w'=>w'=w∧v=undef
 |.ok (.enter f args) w'=>w'=w∧Calls P f args w (fun e w''=>e = .returned v∧Chg None' w w'')
 |_=>False
def qsOp (P:Program) (ops:Array Oper) (C:World→Prop) (i:Nat) (K:Act→Prop) (a:Act):Prop :=
 match ops[i]? with
 |none=>K a
 |some o=>if Region.wanted o (yielded ops a.tmps) then ∃ v,(∀ w,C w→quietSt P o a w v)∧K (a.put o.dst v) else K (a.put o.dst undef)
theorem qsOp_mono {i:Nat} {a:Act} {K K':Act→Prop} (h:∀ a,K a→K' a) (hh:qsOp P ops C i K a):qsOp P ops C i K' a:=by
 unfold qsOp at *
 split
 ·rename_i ho; simp only [ho] at hh; exact h _ hh
 ·rename_i o ho
  simp only [ho] at hh
  split
  ·rename_i hw; simp only [hw,if_true] at hh; obtain ⟨v,h1,h2⟩:=hh; exact ⟨v,h1,h _ h2⟩
  ·rename_i hw; simp only [hw] at hh; exact h _ hh
def YS (P:Program) (ops:Array Oper) (C:World→Prop) (o:Oper) (v:Value) (a:Act):Prop :=
 (Region.wanted o (yielded ops a.tmps)=true ∧ ∀ w,C w→quietSt P o a w v)∨(Region.wanted o (yielded ops a.tmps)=false∧v=undef)
theorem YS.qsOp {i:Nat} {o:Oper} {v:Value} {a:Act} (hi:ops[i]? = some o) (hy:YS P ops C o v a) {K:Act→Prop} (h:K (a.put o.dst v)):qsOp P ops C i K a:=by
 unfold Go.Proofs.YtnaoiegcobineaaGreatDoor.qsOp
 simp only [hi]
 rcases hy with ⟨hw,hv⟩ | ⟨hw,rfl⟩
 ·simp only [hw,if_true]; exact ⟨v,hv,h⟩
 ·simp only [hw,Bool.false_eq_true,if_false]; exact h
theorem YS.of_same {o:Oper} {v:Value} {a a':Act} (hy:YS P ops C o v a) (he:execOp a'.eval o=execOp a.eval o)
 (hw:Region.wanted o (yielded ops a'.tmps)=Region.wanted o (yielded ops a.tmps)):YS P ops C o v a':=by
 unfold YS quietSt at *
 rw [he,hw]
 exact hy
theorem ys_of_qsOp {i:Nat} {o:Oper} {a:Act} {K:Act→Prop} (hi:ops[i]? = some o) (h:qsOp P ops C i K a):∃ v,YS P ops C o v a∧K (a.put o.dst v):=by
 unfold qsOp at h
 simp only [hi] at h
 by_cases hw:Region.wanted o (yielded ops a.tmps)=true
 ·simp only [hw,if_true] at h
  obtain ⟨v,h1,h2⟩:=h
  exact ⟨v,.inl ⟨hw,h1⟩,h2⟩
 ·simp only [hw] at h
  exact ⟨undef,.inr ⟨by simpa using hw,rfl⟩,h⟩
theorem qsOp_put {j:Nat} {oi oj:Oper} {v:Value} (hj:ops[j]? = some oj) (hap:oi.apart ops oj=true)
 (hsi:∀ cs b,oi.op ≠ .select cs b) (hsj:∀ cs b,oj.op ≠ .select cs b) {K:Act→Prop} {a:Act}
 (hy:YS P ops C oi v a) (h:qsOp P ops C j K (a.put oi.dst v)) :
 qsOp P ops C j (fun a'=>YS P ops C oi v a'∧K (a'.put oi.dst v)) a:=by
 obtain ⟨h1,h2,h3⟩:=Oper.apart_spec hap
 have keep:∀ (a:Act),YS P ops C oi v a → ∀ u,YS P ops C oi v (a.put oj.dst u):=fun a hy u =>
  hy.of_same (execOp_put oi hsi a oj.dst u h3) (wanted_put oi a oj.dst u h3)
 unfold qsOp at *
 simp only [hj] at *
 rw [wanted_put oj a oi.dst v h1] at h
 split
 ·rename_i hw
  simp only [hw,if_true] at h
  obtain ⟨u,hu,hn⟩:=h
  refine ⟨u,fun w hw' => ?_,keep a hy u,by rw [← Act.put_comm a v u h2]; exact hn⟩
  have:=hu w hw'
  unfold quietSt at *
  rwa [execOp_put oj hsj a oi.dst v h1] at this
 ·rename_i hw
  simp only [hw] at h
  exact ⟨keep a hy _,by rw [← Act.put_comm a v undef h2]; exact h⟩
abbrev md:Region.Mode := .any
def wpF (P:Program) (ops:Array Oper) (C:World→Prop) (f:Nat) (Fin:Array Bool→Act→Prop):Nat→Array Bool→Act→Prop
 |0,listed,a=>(∀ i ∈ Region.ready md ops listed,i=f)∧Fin listed a
 |m+1,listed,a=>(∃ i ∈ Region.ready md ops listed,i≠f) ∧ ∀ i ∈ Region.ready md ops listed,i≠f→qsOp P ops C i (wpF P ops C f Fin m (listed.setIfInBounds i true)) a
theorem ready_not {i:Nat} {listed:Array Bool} {oj:Oper} (hr:i ∈ Region.ready md ops listed) (hall:∀ e ∈ oj.after,Region.binds md e=true→listed.getD e.on false=true) :
 ∀ e ∈ oj.after,Region.binds md e=true→e.on≠i:=fun e he hb heq=>by
 have h1:=hall e he hb
 have h0:=(mem_ready.1 hr).1
 rw [heq] at h1
 rcases Nat.lt_or_ge i listed.size with h' | h'
 ·simp [h'] at h0 h1; rw [h0] at h1; cases h1
 ·simp [Array.getElem?_eq_none h'] at h1
theorem wpF_first {f:Nat} {Fin:Array Bool→Act→Prop} {i:Nat} {oi:Oper} {v:Value} (hi:ops[i]? = some oi) (hif:i≠f) (hsel:∀ (j:Nat) (o:Oper) cs b,ops[j]? = some o→o.op ≠ .select cs b) :
 ∀ (m:Nat) (listed:Array Bool) (a:Act),
  (∀ j oj,ops[j]? = some oj→j≠i→listed.getD j true=false→(∀ e ∈ oj.after,Region.binds md e=true→e.on≠i)→oi.apart ops oj=true) →
  i ∈ Region.ready md ops listed→YS P ops C oi v a →
  wpF P ops C f Fin m (listed.setIfInBounds i true) (a.put oi.dst v)→wpF P ops C f Fin (m+1) listed a:=by
 intro m
 induction m with
 |zero =>
  intro listed a _ hr hy H
  refine ⟨⟨i,hr,hif⟩,fun j hj hjf => ?_⟩
  by_cases hji:j=i
  ·subst hji; exact hy.qsOp hi H
  ·exact absurd (H.1 j (ready_mono hj hji)) hjf
 |succ m ih =>
  intro listed a hfree hr hy H
  refine ⟨⟨i,hr,hif⟩,fun j hj hjf => ?_⟩
  by_cases hji:j=i
  ·subst hji; exact hy.qsOp hi H
  ·have h1:=H.2 j (ready_mono hj hji) hjf
   obtain ⟨hjun,oj,hoj,hall⟩:=mem_ready.1 hj
   have h2:=qsOp_put hoj (hfree j oj hoj hji hjun (ready_not hr hall)) (fun cs b=>hsel i oi cs b hi) (fun cs b=>hsel j oj cs b hoj) hy h1
   have hfree':∀ k ok,ops[k]? = some ok→k≠i→(listed.setIfInBounds j true).getD k true=false →
    (∀ e ∈ ok.after,Region.binds md e=true→e.on≠i)→oi.apart ops ok=true:=fun k ok hk hki hun hno=>by
    refine hfree k ok hk hki ?_ hno
    by_cases hjk:j=k
    ·subst hjk; exact hjun
    ·rw [getD_set_ne true hjk] at hun; exact hun
   refine qsOp_mono (fun a' h3=>ih (listed.setIfInBounds j true) a' hfree' (ready_mono hr (Ne.symm hji)) h3.1 ?_) h2
   rw [Array.setIfInBounds_comm _ _ hji]
   exact h3.2
def wpQS (P:Program) (ops:Array Oper) (C:World→Prop) (Q:Act→Prop):List Oper→Act→Prop
 |[],a=>Q a
 |o::rest,a=>if Region.wanted o (yielded ops a.tmps) then ∃ v,(∀ w,C w→quietSt P o a w v)∧wpQS P ops C Q rest (a.put o.dst v) else wpQS P ops C Q rest (a.put o.dst undef)
theorem wpQS_mono {Q Q':Act→Prop} (hq:∀ a,Q a→Q' a):∀ (l:List Oper) (a:Act),wpQS P ops C Q l a→wpQS P ops C Q' l a
 |[],a,h=>hq a h
 |o::l,a,h=>by
  unfold wpQS at h ⊢
  split
  ·rename_i hw; rw [if_pos hw] at h
   obtain ⟨v,h1,h2⟩:=h
   exact ⟨v,h1,wpQS_mono hq l _ h2⟩
  ·rename_i hw; rw [if_neg hw] at h; exact wpQS_mono hq l _ h
def lexTo (ops:Array Oper):Nat→Nat→Array Bool→Option (Array Bool)
 |0,_,listed=>some listed
 |m+1,k,listed=>if (Region.ready md ops listed).contains k && Region.free md ops listed k then lexTo ops m (k+1) (listed.setIfInBounds k true) else none
theorem wpF_lex {f:Nat} {Q:Act→Prop} {Lf:Array Bool} (hs:Region.noSelect ops=true) (hend:∀ i ∈ Region.ready md ops Lf,i=f):∀ (l:List Oper) (k:Nat) (listed:Array Bool) (a:Act),(∀ j,j<l.length→l[j]? = ops[k+j]?)→k+l.length≤f →
 lexTo ops l.length k listed=some Lf→wpQS P ops C Q l a→wpF P ops C f (fun L a=>L=Lf∧Q a) l.length listed a
 |[],_,listed,a,_,_,hB,h=>by
  simp only [List.length_nil,lexTo,Option.some.injEq] at hB
  subst hB
  exact ⟨hend,rfl,h⟩
 |o::l,k,listed,a,hl,hk,hB,h=>by
  have h0:ops[k]? = some o:=by simpa using (hl 0 (by simp)).symm
  simp only [List.length_cons,lexTo] at hB
  split at hB
  ·rename_i hc
   simp only [Bool.and_eq_true] at hc
   have hst:qsOp P ops C k (wpQS P ops C Q l) a:=by unfold qsOp; simp only [h0]; exact h
   obtain ⟨v,hy,hK⟩:=ys_of_qsOp h0 hst
   simp only [List.length_cons] at hk
   exact wpF_first h0 (by omega) (Region.noSelect_spec hs) l.length listed a (Region.free_spec h0 hc.2) (by simpa using hc.1) hy
    (wpF_lex hs hend l (k+1) _ _ (fun j hj=>by have:=hl (j+1) (by simp; omega); simpa [Nat.add_assoc,Nat.add_comm 1 j] using this) (by omega) hB hK)
  ·cases hB
variable {fn:FuncId} {R:Aim} {k:List Item}
def RunA (P:Program) (fn:FuncId) (R:Aim) (ops:Array Oper) (k:List Item) (l:List Nat) (a:Act) (w:World):Prop :=
 ∀ (b:Frame) (cs:List Frame),b.fn=fn→b.roundOf=R.ro → ∃ en w' fr,R.now en w'∧Comes P (lone (b.atR a (.inRegion ops l::k)) cs w) (lone fr cs w') en∧fr.fn=fn∧R.last P b.kind fr cs w' en
theorem RunA.value {i:Nat} {l:List Nat} {o:Oper} {a:Act} {w w1:World} {v:Value} (ho:ops[i]? = some o) (hw:Region.wanted o (yielded ops a.tmps)=true) (hr:(execOp a.eval o).run P w = .ok (.value v) w1∨(execOp a.eval o).run P w = .ok .skip w1∧v=undef)
 (h:RunA P fn R ops k l (a.put o.dst v) w1):RunA P fn R ops k (i::l) a w:=fun b cs hb hk=>by
 obtain ⟨en,w2,fr,hR,hc,h1,h2⟩:=h b cs hb hk
 refine ⟨en,w2,fr,hR,.of_steps (.one (step_lone_go ?_)) hc,h1,h2⟩
 have hfin:(b.atR a (.inRegion ops (i::l)::k)).finish v=b.atR (a.put o.dst v) (.inRegion ops l::k):=by
  rw [Frame.finish_atR,ho]; rfl
 rcases hr with hr | ⟨hr,hv⟩
 ·rw [stepE ho hw hr (by simp),← hfin]; simp [stepG.apply,hr]
 ·subst hv; rw [stepE ho hw hr (by simp),← hfin]; simp [stepG.apply,hr]
theorem RunA.skip {i:Nat} {l:List Nat} {o:Oper} {a:Act} {w:World} (ho:ops[i]? = some o) (hw:Region.wanted o (yielded ops a.tmps)=false)
 (h:RunA P fn R ops k l (a.put o.dst undef) w):RunA P fn R ops k (i::l) a w:=fun b cs hb hk=>by
 obtain ⟨en,w2,fr,hR,hc,h1,h2⟩:=h b cs hb hk
 refine ⟨en,w2,fr,hR,.of_steps (.one ?_) hc,h1,h2⟩
 have hs:=stepR_op_skip (P:=P) (b:=b) (a:=a) (k:=k) (cs:=cs) (w:=w) (ops:=ops) (i:=i) (rest:=l) (by simp [ho]; simpa using hw)
 simpa [ho] using hs
theorem RunA.quiet {i:Nat} {l:List Nat} {o:Oper} {a:Act} {w:World} {v:Value} (ho:ops[i]? = some o) (hw:Region.wanted o (yielded ops a.tmps)=true) (hq:quietSt P o a w v)
 (h:∀ w1,Chg None' w w1→RunA P fn R ops k l (a.put o.dst v) w1):RunA P fn R ops k (i::l) a w:=by
 unfold quietSt at hq
 split at hq
 ·rename_i u w' hr
  obtain ⟨rfl,rfl⟩:=hq
  exact RunA.value ho hw (.inl hr) (h _ (Chg.refl _ _))
 ·rename_i w' hr
  obtain ⟨rfl,rfl⟩:=hq
  exact RunA.value ho hw (.inr ⟨hr,rfl⟩) (h _ (Chg.refl _ _))
 ·rename_i fc args w' hr
  obtain ⟨rfl,hcall⟩:=hq
  intro b cs hb hk
  obtain ⟨en,w1,fr,⟨hen,hch⟩,hsteps,_,hleave⟩:=hcall (b.atR a (.inRegion ops (i::l)::k)::cs)
  subst hen
  have henter:Go.step P (lone (b.atR a (.inRegion ops (i::l)::k)) cs w') = .next (lone (Frame.enter P fc args .normal) (b.atR a (.inRegion ops (i::l)::k)::cs) w') :=
   step_lone_go (by rw [stepE ho hw hr (by simp)]; simp [stepG.apply,hr,Frame.atR])
  obtain ⟨en2,w2,fr2,hR,hc,h1,h2⟩:=h w1 hch b cs hb hk
  refine ⟨en2,w2,fr2,hR,.of_steps (.head henter (Steps.trans hsteps (.one ?_))) hc,h1,h2⟩
  have hfin:(b.atR a (.inRegion ops (i::l)::k)).finish v=b.atR (a.put o.dst v) (.inRegion ops l::k):=by
   rw [Frame.finish_atR,ho]; rfl
  rw [← hfin]
  exact step_leave_returned hleave
 ·exact hq.elim
def AnyA (P:Program) (fn:FuncId) (R:Aim) (ops:Array Oper) (k:List Item) (fuel:Nat) (listed:Array Bool) (a:Act) (w:World):Prop :=
 ∀ t,RunA P fn R ops k (Region.linearise.go md ops fuel t listed []) a w
theorem AnyA.step {fuel:Nat} {listed:Array Bool} {a:Act} {w:World} (hne:∃ i,i ∈ Region.ready md ops listed)
 (h:∀ i ∈ Region.ready md ops listed,∀ t,RunA P fn R ops k (i::Region.linearise.go md ops fuel t (listed.setIfInBounds i true) []) a w):AnyA P fn R ops k (fuel+1) listed a w:=by
 intro t
 simp only [Region.linearise.go]
 change RunA P fn R ops k (match (Region.ready md ops listed)[t % (Region.ready md ops listed).length]? with
  |some i=>Region.linearise.go md ops fuel (t / (Region.ready md ops listed).length) (listed.setIfInBounds i true) [i]
  |none => [].reverse) a w
 obtain ⟨i0,hi0⟩:=hne
 have hpos:0<(Region.ready md ops listed).length:=List.length_pos_of_mem hi0
 have hlt:t % (Region.ready md ops listed).length<(Region.ready md ops listed).length:=Nat.mod_lt _ hpos
 rw [List.getElem?_eq_getElem hlt]
 simp only
 rw [linearise_go_acc,List.reverse_singleton,List.singleton_append]
 exact h _ (List.getElem_mem hlt) _
def forcedTo (ops:Array Oper):Nat→Nat→Array Bool→Bool
 |0,_,_=>true
 |m+1,k,listed=>Region.ready md ops listed == [k] && forcedTo ops m (k+1) (listed.setIfInBounds k true)
theorem forced_lin:∀ (m k:Nat) (listed:Array Bool),forcedTo ops m k listed=true → ∀ t,Region.linearise.go md ops m t listed []=List.range' k m
 |0,k,listed,_,t=>by simp [Region.linearise.go]
 |m+1,k,listed,h,t=>by
  simp only [forcedTo,Bool.and_eq_true,beq_iff_eq] at h
  simp only [Region.linearise.go]
  change (match (Region.ready md ops listed)[t % (Region.ready md ops listed).length]? with
   |some i=>Region.linearise.go md ops m (t / (Region.ready md ops listed).length) (listed.setIfInBounds i true) [i]
   |none => [].reverse)=_
  rw [h.1]
  simp only [List.length_singleton,Nat.mod_one,List.getElem?_cons_zero]
  rw [linearise_go_acc,forced_lin m (k+1) _ h.2]
  simp [List.range'_succ]
def mixB (ops:Array Oper) (f:Nat):Bool :=
 Region.noSelect ops && Nat.blt f ops.size &&
 (match ops[f]? with | some o=>o.after.isEmpty && o.guard.isNone && (List.range f).all (fun j=>match ops[j]? with | some oj=>oj.apart ops o && oj.after.all (fun e => !Region.binds md e || e.on != f) | none=>false) | none=>false) &&
 (List.range' (f+1) (ops.size - (f+1))).all (fun j=>match ops[j]? with | some o=>(List.range (f+1)).all (fun i=>o.after.any fun e=>Region.binds md e && e.on == i) | none=>false) &&
 (match lexTo ops f 0 (Array.replicate ops.size false) with
  |some L=>Region.ready md ops L == [f] && forcedTo ops (ops.size - (f+1)) (f+1) (L.setIfInBounds f true)
  |none=>false)
theorem ready_set {f:Nat} {listed:Array Bool} {j:Nat} (hf:f<listed.size) (hj:j ∈ Region.ready md ops (listed.setIfInBounds f true)) :
 j≠f∧(j ∈ Region.ready md ops listed ∨ ∃ o,ops[j]? = some o∧listed.getD j true=false∧(∀ e ∈ o.after,Region.binds md e=true→(listed.setIfInBounds f true).getD e.on false=true) ∧ ∃ e ∈ o.after,Region.binds md e=true∧e.on=f):=by
 obtain ⟨h0,o,ho,hall⟩:=mem_ready.1 hj
 have hjf:j≠f:=by
  intro h; subst h
  simp [hf] at h0
 have h0':listed.getD j true=false:=by rwa [getD_set_ne true (Ne.symm hjf)] at h0
 refine ⟨hjf,?_⟩
 by_cases hex:∃ e ∈ o.after,Region.binds md e=true∧e.on=f
 ·exact .inr ⟨o,ho,h0',hall,hex⟩
 ·refine .inl (mem_ready.2 ⟨h0',o,ho,fun e he hb => ?_⟩)
  have h1:=hall e he hb
  have hne:f≠e.on:=fun h=>hex ⟨e,he,hb,h.symm⟩
  rwa [getD_set_ne false hne] at h1
section float
variable {w0:World} {f:Nat} {of:Oper} {d t:Nat} {z:List Value} {tf:Nat} {Lf:Array Bool} {Q:Act→Prop}
def ZeroAt (w:World) (b t:Nat) (z:List Value):Prop:=w.heap[b]? = some (.cells z.toArray t (0,0))
theorem mix_after (hof:ops[f]? = some of) (hsel:∀ (j:Nat) (o:Oper) cs b,ops[j]? = some o→o.op ≠ .select cs b) (hd:of.dst=some d)
 (hapart:∀ j o,j<f→ops[j]? = some o→o.apart ops of=true ∧ ∀ e ∈ o.after,Region.binds md e=true→e.on≠f)
 (htail:∀ j o,f<j→ops[j]? = some o → ∀ i,i≤f → ∃ e ∈ o.after,Region.binds md e=true∧e.on=i)
 (hfin:∀ a w b,Q a→Chg None' w0 w→w0.heap.size≤b→ZeroAt w b t z→AnyA P fn R ops k tf (Lf.setIfInBounds f true) (a.put (some d) (.pointer (some ⟨b,0,none⟩))) w) :
 ∀ (m:Nat) (listed:Array Bool) (a:Act) (w:World) (b:Nat),wpF P ops (fun w=>Chg None' w0 w) f (fun L a=>L=Lf∧Q a) m listed a→f<listed.size→listed.getD f true=false→Chg None' w0 w→w0.heap.size≤b→ZeroAt w b t z →
  AnyA P fn R ops k (m+tf) (listed.setIfInBounds f true) (a.put (some d) (.pointer (some ⟨b,0,none⟩))) w
 |0,listed,a,w,b,h,hs,hu,hc,hb,hz=>by
  obtain ⟨_,rfl,hq⟩:=h
  rw [Nat.zero_add]
  exact hfin a w b hq hc hb hz
 |m+1,listed,a,w,b,h,hs,hu,hc,hb,hz=>by
  obtain ⟨⟨i0,hi0,hi0f⟩,hall⟩:=h
  have hlt:∀ i,i ∈ Region.ready md ops listed→i≠f→i<f:=by
   intro i hi hif
   by_cases hlt:i<f
   ·exact hlt
   ·obtain ⟨_,o,ho,hal⟩:=mem_ready.1 hi
    obtain ⟨e,he,hbn,hon⟩:=htail i o (by omega) ho f (Nat.le_refl _)
    have:=hal e he hbn
    rw [hon] at this
    simp [hs] at hu this
    rw [hu] at this; cases this
  rw [show m+1+tf=(m+tf)+1 from by omega]
  refine AnyA.step ⟨i0,ready_mono hi0 hi0f⟩ fun j hj t' => ?_
  obtain ⟨hjf,hj'⟩:=ready_set hs hj
  rcases hj' with hj' | ⟨o,ho,hun,hal,e,he,hbn,hon⟩
  ·have hjlt:=hlt j hj' hjf
   have h1:=hall j hj' hjf
   obtain ⟨_,oj,hoj,_⟩:=mem_ready.1 hj'
   obtain ⟨hap,_⟩:=hapart j oj hjlt hoj
   obtain ⟨g1,g2,g3⟩:=Oper.apart_spec hap
   have hsf:listed.size=(listed.setIfInBounds j true).size:=by simp
   have hu':(listed.setIfInBounds j true).getD f true=false:=by rw [getD_set_ne true hjf]; exact hu
   have hcomm:∀ u,(a.put (some d) (.pointer (some ⟨b,0,none⟩))).put oj.dst u=(a.put oj.dst u).put (some d) (.pointer (some ⟨b,0,none⟩)):=fun u =>
    (Act.put_comm a u (.pointer (some ⟨b,0,none⟩)) (fun x hx=>by have:=g2 x hx; rw [hd] at this; exact this)).symm
   have g3':∀ x,some d=some x→x ∉ oj.looksAt ops:=fun x hx=>g3 x (by rw [hd]; exact hx)
   have hex:execOp (a.put (some d) (.pointer (some ⟨b,0,none⟩))).eval oj=execOp a.eval oj:=execOp_put oj (fun cs b=>hsel j oj cs b hoj) a (some d) _ g3'
   have hwa:Region.wanted oj (yielded ops (a.put (some d) (.pointer (some ⟨b,0,none⟩))).tmps)=Region.wanted oj (yielded ops a.tmps):=wanted_put oj a (some d) _ g3'
   have hrec:=fun a' w' hh hcc hzz=>mix_after hof hsel hd hapart htail hfin m (listed.setIfInBounds j true) a' w' b hh (hsf▸hs) hu' hcc hb hzz
   rw [Array.setIfInBounds_comm _ _ (Ne.symm hjf)]
   obtain ⟨v,hy,hK⟩:=ys_of_qsOp hoj h1
   rcases hy with ⟨hw,hv⟩ | ⟨hw,rfl⟩
   ·refine RunA.quiet (v:=v) hoj (by rw [hwa]; exact hw) (by have:=hv w hc; unfold quietSt at *; rw [hex]; exact this) fun w1 hw1 => ?_
    rw [hcomm]
    exact hrec _ _ hK (hc.trans hw1) (hw1.heap' hz) t'
   ·refine RunA.skip hoj (by rw [hwa]; exact hw) ?_
    rw [hcomm]
    exact hrec _ _ hK hc hz t'
  ·exfalso
   rcases Nat.lt_trichotomy j f with hl | hl | hl
   ·exact (hapart j o hl ho).2 e he hbn hon
   ·exact hjf hl
   ·obtain ⟨e',he',hbn',hon'⟩:=htail j o hl ho i0 (Nat.le_of_lt (hlt i0 hi0 hi0f))
    have h2:=hal e' he' hbn'
    rw [hon',getD_set_ne false (Ne.symm hi0f)] at h2
    have h3:=(mem_ready.1 hi0).1
    rcases Nat.lt_or_ge i0 listed.size with h' | h'
    ·simp [h'] at h2 h3; rw [h2] at h3; cases h3
    ·simp [Array.getElem?_eq_none h'] at h2
theorem mix_before (hof:ops[f]? = some of) (hsel:∀ (j:Nat) (o:Oper) cs b,ops[j]? = some o→o.op ≠ .select cs b) (hd:of.dst=some d) (hfa:of.after = #[]) (hfg:of.guard=none)
 (hrun:∀ (a:Act) (w:World),(execOp a.eval of).run P w = .ok (.value (.pointer (some ⟨w.heap.size,0,none⟩))) {w with heap:=w.heap.push (.cells z.toArray t)})
 (hapart:∀ j o,j<f→ops[j]? = some o→o.apart ops of=true ∧ ∀ e ∈ o.after,Region.binds md e=true→e.on≠f)
 (htail:∀ j o,f<j→ops[j]? = some o → ∀ i,i≤f → ∃ e ∈ o.after,Region.binds md e=true∧e.on=i)
 (hfin:∀ a w b,Q a→Chg None' w0 w→w0.heap.size≤b→ZeroAt w b t z→AnyA P fn R ops k tf (Lf.setIfInBounds f true) (a.put (some d) (.pointer (some ⟨b,0,none⟩))) w) :
 ∀ (m:Nat) (listed:Array Bool) (a:Act) (w:World),wpF P ops (fun w=>Chg None' w0 w) f (fun L a=>L=Lf∧Q a) m listed a→f<listed.size→listed.getD f true=false→Chg None' w0 w →
  AnyA P fn R ops k (m+1+tf) listed a w:=by
 have halloc:∀ (m:Nat) (listed:Array Bool) (a:Act) (w:World),wpF P ops (fun w=>Chg None' w0 w) f (fun L a=>L=Lf∧Q a) m listed a→f<listed.size→listed.getD f true=false→Chg None' w0 w →
  ∀ t',RunA P fn R ops k (f::Region.linearise.go md ops (m+tf) t' (listed.setIfInBounds f true) []) a w:=by
  intro m listed a w h hs hu hc t'
  refine RunA.value hof (by unfold Region.wanted; rw [hfg]) (.inl (hrun a w)) ?_
  rw [hd]
  exact mix_after hof hsel hd hapart htail hfin m listed a _ w.heap.size h hs hu (hc.trans (chg_new _ _)) hc.size (by simp [ZeroAt]) t'
 have hready:∀ listed:Array Bool,listed.getD f true=false→f ∈ Region.ready md ops listed:=fun listed hu=>mem_ready.2 ⟨hu,of,hof,fun e he=>by rw [hfa] at he; simp at he⟩
 intro m
 induction m with
 |zero =>
  intro listed a w h hs hu hc
  rw [show 0+1+tf=(0+tf)+1 from by omega]
  refine AnyA.step ⟨f,hready listed hu⟩ fun j hj t' => ?_
  have:=h.1 j hj
  subst this
  exact halloc 0 listed a w h hs hu hc t'
 |succ m ih =>
  intro listed a w h hs hu hc
  rw [show m+1+1+tf=(m+1+tf)+1 from by omega]
  refine AnyA.step ⟨f,hready listed hu⟩ fun j hj t' => ?_
  by_cases hjf:j=f
  ·subst hjf; exact halloc (m+1) listed a w h hs hu hc t'
  ·have h1:=h.2 j hj hjf
   obtain ⟨_,oj,hoj,_⟩:=mem_ready.1 hj
   obtain ⟨v,hy,hK⟩:=ys_of_qsOp hoj h1
   have hu':(listed.setIfInBounds j true).getD f true=false:=by rw [getD_set_ne true hjf]; exact hu
   rcases hy with ⟨hw,hv⟩ | ⟨hw,rfl⟩
   ·exact RunA.quiet (v:=v) hoj hw (hv w hc) fun w1 hw1=>ih _ _ _ hK (by simpa using hs) hu' (hc.trans hw1) t'
   ·exact RunA.skip hoj hw (ih _ _ _ hK (by simpa using hs) hu' hc t')
end float
end
end Go.Proofs.YtnaoiegcobineaaGreatDoor
