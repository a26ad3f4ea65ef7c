/-
  Rule5
-/
import Derived.Test.YtgddpaiandefgaaGreatDoorQRule4
namespace Go.Proofs.YtgddpaiandefgaaGreatDoor
open Go.RowKit
section
variable {P:Program} {T:Tab} {ops:Array Oper} {fn f:FuncId} {R:Aim} {k:List Item} {q tf n:Nat} {ds:List Deferred} {w w':World} {e e':Env} {S:Nat→Prop}
def Xhp (P:Program) (o:Oper) (a:Act) (w:World) (K:Value→World→Prop):Prop :=
 match (execOp a.eval o).run P w with
 |.ok (.value u) w'=>K u w'
 |.ok .skip w'=>K undef w'
 |.ok (.enter f args) w'=>w'=w∧Calls P f args w (fun e w'' => ∃ v,e = .returned v∧K v w'')
 |_=>False
theorem Xhq {o:Oper} {a:Act} {K K':Value→World→Prop} (h:∀ v w',K v w'→K' v w') (hg:Xhp P o a w K):Xhp P o a w K':=by
 unfold Xhp at *;split
 ·rename_i b; simp only [b] at hg; exact h _ _ hg
 ·rename_i b; simp only [b] at hg; exact h _ _ hg
 ·rename_i b; simp only [b] at hg; exact ⟨hg.1,hg.2.mono fun en f ⟨v,c,d⟩=>⟨v,c,h _ _ d⟩⟩
 ·rename_i c e d
  split at hg
  ·rename_i b; exact absurd b (c _ _)
  ·rename_i b; exact absurd b (e _)
  ·rename_i b; exact absurd b (d _ _ _)
  ·exact hg
def opG (P:Program) (ops:Array Oper) (i:Nat) (K:Act→World→Prop) (a:Act) (w:World):Prop :=
 match ops[i]? with
 |none=>False
 |some o=>if Region.wanted o (yielded ops a.tmps) then Xhp P o a w (fun v w'=>K (a.put o.dst v) w') else K (a.put o.dst undef) w
theorem Xmf {i:Nat} {K K':Act→World→Prop} {a:Act} (h:∀ a' w',K a' w'→K' a' w') (hg:opG P ops i K a w):opG P ops i K' a w:=by
 unfold opG at *;split
 ·rename_i b; simp only [b] at hg
 ·rename_i o b
  simp only [b] at hg;split
  ·rename_i c; simp only [c,if_true] at hg; exact Xhq (fun v w' d=>h _ _ d) hg
  ·rename_i c; simp only [c] at hg; exact h _ _ hg
theorem Xhr {o:Oper} {a:Act} {v:Value} {K:Value→World→Prop} (hq:XoI P o a w v) (h:∀ w1,Chg XaX w w1→K v w1):Xhp P o a w K:=by
 unfold XoI at hq;unfold Xhp;split at hq
 ·rename_i b; obtain ⟨rfl,rfl⟩:=hq; simp only [b]; exact h _ (Chg.refl _ _)
 ·rename_i b; obtain ⟨rfl,rfl⟩:=hq; simp only [b]; exact h _ (Chg.refl _ _)
 ·rename_i b; obtain ⟨rfl,c⟩:=hq; simp only [b]; exact ⟨trivial,c.mono fun en f ⟨d,e⟩=>⟨_,d,h _ e⟩⟩
 ·exact hq.elim
theorem YS.opG {C:World→Prop} {i:Nat} {o:Oper} {v:Value} {a:Act} (hi:ops[i]? = some o) (hy:YS P ops C o v a) (hC:C w) {K:Act→World→Prop} (h:∀ w1,Chg XaX w w1→K (a.put o.dst v) w1):Go.Proofs.YtgddpaiandefgaaGreatDoor.opG P ops i K a w:=by
 unfold Go.Proofs.YtgddpaiandefgaaGreatDoor.opG;simp only [hi];rcases hy with ⟨b,c⟩ | ⟨b,rfl⟩
 ·simp only [b,if_true]; exact Xhr (c w hC) h
 ·simp only [b,Bool.false_eq_true,if_false]; exact h _ (Chg.refl _ _)
theorem Chg.up {S:Nat→Prop} {w w1 w2:World} (h:Chg S w w1) (k:Chg XaX w1 w2):Chg S w w2:=h.trans (k.mono fun _ _ h=>h.elim)
theorem Chg.cell {S:Nat→Prop} {w w':World} (h:Chg S w w') {b off:Nat} {v:Value} (hc:w.cell? ⟨b,off,none⟩=some v) (hS:¬ S b):w'.cell? ⟨b,off,none⟩=some v:=by
 have a:b<w.heap.size:=World.block_lt_of_cell? w _ hc;rw [← hc];simp only [World.cell?,h.block b a hS]
theorem YS.grown {o:Oper} {v:Value} {a:Act} (hy:YS P ops (fun x=>Chg XaX w x) o v a) (h:Chg XaX w w'):YS P ops (fun x=>Chg XaX w' x) o v a :=
 hy.imp (fun ⟨b,c⟩=>⟨b,fun x d=>c x (h.trans d)⟩) id
theorem Xmg {j:Nat} {oi oj:Oper} {v:Value} {w0:World} (hj:ops[j]? = some oj) (hap:oi.apart ops oj=true)
 (hsi:∀ cs b,oi.op ≠ .select cs b) (hsj:∀ cs b,oj.op ≠ .select cs b) {K:Act→World→Prop} {a:Act}
 (hy:YS P ops (fun x=>Chg S w0 x) oi v a) (h:opG P ops j K (a.put oi.dst v) w) :
 opG P ops j (fun a' w'=>YS P ops (fun x=>Chg S w0 x) oi v a'∧K (a'.put oi.dst v) w') a w:=by
 obtain ⟨d,e,f⟩:=Oper.apart_spec hap;have keep:∀ (a:Act),YS P ops (fun x=>Chg S w0 x) oi v a → ∀ u,YS P ops (fun x=>Chg S w0 x) oi v (a.put oj.dst u):=fun a hy u =>
  hy.of_same (execOp_put oi hsi a oj.dst u f) (wanted_put oi a oj.dst u f)
 unfold opG at *;simp only [hj] at *;rw [wanted_put oj a oi.dst v d] at h;split
 ·rename_i c
  simp only [c,if_true] at h;have g:Xhp P oj a w (fun u w'=>K ((a.put oi.dst v).put oj.dst u) w'):=by
   unfold Xhp at *
   rwa [execOp_put oj hsj a oi.dst v d] at h
  refine Xhq (fun u w' i=>⟨keep a hy u,?_⟩) g;rw [← Act.put_comm a v u e]; exact i
 ·rename_i c
  simp only [c] at h;exact ⟨keep a hy _,by rw [← Act.put_comm a v undef e]; exact h⟩
theorem Xbq.grow {i:Nat} {l:List Nat} {o:Oper} {a:Act} {K:Value→World→Prop} (ho:ops[i]? = some o) (hw:Region.wanted o (yielded ops a.tmps)=true) (hq:Xhp P o a w K)
 (h:∀ v w1,K v w1→Xbq P fn R ops k l (a.put o.dst v) w1):Xbq P fn R ops k (i::l) a w:=by
 unfold Xhp at hq;split at hq
 ·rename_i u w' c; exact Xbq.value ho hw (.inl c) (h _ _ hq)
 ·rename_i w' c; exact Xbq.value ho hw (.inr ⟨c,rfl⟩) (h _ _ hq)
 ·rename_i fc args w' c
  obtain ⟨rfl,g⟩:=hq;intro b cs q r;obtain ⟨en,w1,fr,⟨v,m,s⟩,d,_,e⟩:=g (b.atR a (.inRegion ops (i::l)::k)::cs);subst m;have f:Go.step P (lone (b.atR a (.inRegion ops (i::l)::k)) cs w') = .next (lone (Frame.enter P fc args .normal) (b.atR a (.inRegion ops (i::l)::k)::cs) w') :=
   step_lone_go (by rw [Xtu ho hw c (by simp)]; simp [stepG.apply,c,Frame.atR])
  obtain ⟨n,t,p,x,y,z,A⟩:=h v w1 s b cs q r;refine ⟨n,t,p,x,.of_steps (.head f (Steps.trans d (.one ?_))) y,z,A⟩;have j:(b.atR a (.inRegion ops (i::l)::k)).finish v=b.atR (a.put o.dst v) (.inRegion ops l::k):=by
   rw [Frame.finish_atR,ho]; rfl
  rw [← j];exact step_leave_returned e
 ·exact hq.elim
def Xae (P:Program) (fn:FuncId) (R:Aim) (ops:Array Oper) (k:List Item) (q tf:Nat) (S:Nat→Prop) (w0:World):Nat→Array Bool→Act→World→Prop
 |0,L,a,w=>(∀ i ∈ Region.ready md ops L,q≤i) ∧ ∀ w',Chg XaX w w'→Xad P fn R ops k tf L a w'
 |m+1,L,a,w=>(∃ i,i ∈ Region.ready md ops L) ∧ ∀ w',Chg XaX w w' → ∀ i ∈ Region.ready md ops L,opG P ops i (fun a1 w1=>Chg S w0 w1∧Xae P fn R ops k q tf S w0 m (L.setIfInBounds i true) a1 w1) a w'
theorem Xae.grown {w0:World}:∀ {m:Nat} {L:Array Bool} {a:Act},Xae P fn R ops k q tf S w0 m L a w→Chg XaX w w'→Xae P fn R ops k q tf S w0 m L a w'
 |0,_,_,h,hc=>⟨h.1,fun x hx=>h.2 x (hc.trans hx)⟩
 |_+1,_,_,h,hc=>⟨h.1,fun x hx=>h.2 x (hc.trans hx)⟩
theorem Xae.any {w0:World}:∀ {m:Nat} {L:Array Bool} {a:Act} {w:World},Xae P fn R ops k q tf S w0 m L a w→Xad P fn R ops k (m+tf) L a w
 |0,L,a,w,h=>by rw [Nat.zero_add]; exact h.2 w (Chg.refl _ _)
 |m+1,L,a,w,h=>by
  rw [show m+1+tf=(m+tf)+1 from by omega];refine Xad.step h.1 fun i e t => ?_;have b:=h.2 w (Chg.refl _ _) i e;unfold opG at b;split at b
  ·exact b.elim
  ·rename_i o d
   split at b
   ·rename_i c; exact Xbq.grow d c b fun v g f=>(Xae.any f.2) t
   ·rename_i c; exact Xbq.skip d (by simpa using c) ((Xae.any b.2) t)
inductive Reach (ops:Array Oper):Nat→Nat→Prop
 |one {j i:Nat} {o:Oper} {e:_}:ops[j]? = some o→e ∈ o.after→Region.binds md e=true→e.on=i→Reach ops j i
 |step {j p i:Nat} {o:Oper} {e:_}:ops[j]? = some o→e ∈ o.after→Region.binds md e=true→e.on=p→Reach ops p i→Reach ops j i
def Xak (ops:Array Oper) (L:Array Bool):Prop := ∀ j o,ops[j]? = some o→L.getD j false=true → ∀ e ∈ o.after,Region.binds md e=true→L.getD e.on false=true
theorem Reach.listed {j i:Nat} {L:Array Bool} (h:Reach ops j i) (hc:Xak ops L) (hall:∀ o,ops[j]? = some o → ∀ e ∈ o.after,Region.binds md e=true→L.getD e.on false=true):L.getD i false=true:=by
 induction h with
 |one b c d a=>rw [← a]; exact hall _ b _ c d
 |step b c d a _ ih =>
  have f:=hall _ b _ c d;rw [a] at f;exact ih fun o' g e' k l=>hc _ o' g f e' k l
theorem Xak.set {j:Nat} {L:Array Bool} (h:Xak ops L) (hr:j ∈ Region.ready md ops L):Xak ops (L.setIfInBounds j true):=by
 obtain ⟨_,o,k,c⟩:=mem_ready.1 hr;have up:∀ x,L.getD x false=true→(L.setIfInBounds j true).getD x false=true:=fun x d=>by
  by_cases a:j=x
  ·subst a;rcases Nat.lt_or_ge j L.size with h' | h'
   ·simp [h']
   ·simp [Array.getElem?_eq_none h'] at d
  ·rw [getD_set_ne false a]; exact d
 intro x ox b f e g i;by_cases a:j=x
 ·subst a;rw [k] at b; cases b;exact up _ (c e g i)
 ·rw [getD_set_ne false a] at f;exact up _ (h x ox b f e g i)
theorem Xaf {w0:World} {i:Nat} {oi:Oper} {v:Value} (hi:ops[i]? = some oi) (hsel:∀ (j:Nat) (o:Oper) cs b,ops[j]? = some o→o.op ≠ .select cs b)
 (htail:∀ j o,q≤j→ops[j]? = some o→Reach ops j i) :
 ∀ (m:Nat) (L:Array Bool) (a:Act) (w:World),Chg S w0 w→Xak ops L →
  (∀ j oj,ops[j]? = some oj→j<q→j≠i→L.getD j true=false→(∀ e ∈ oj.after,Region.binds md e=true→e.on≠i)→oi.apart ops oj=true) →
  i ∈ Region.ready md ops L→YS P ops (fun x=>Chg S w0 x) oi v a →
  Xae P fn R ops k q tf S w0 m (L.setIfInBounds i true) (a.put oi.dst v) w→Xae P fn R ops k q tf S w0 (m+1) L a w:=by
 have r:∀ (L:Array Bool) (_:World),Xak ops L→i ∈ Region.ready md ops L → ∀ j,j ∈ Region.ready md ops L→q≤j→False:=fun L _ g h j l M=>by
  obtain ⟨_,o,G,p⟩:=mem_ready.1 l;have C:=(htail j o M G).listed g (fun o' D e N O=>by rw [G] at D; cases D; exact p e N O);obtain ⟨f,_⟩:=mem_ready.1 h;rcases Nat.lt_or_ge i L.size with h' | h'
  ·simp [h'] at C f; rw [C] at f; cases f
  ·simp [Array.getElem?_eq_none h'] at f
 intro m
 induction m with
 |zero =>
  intro L a w t g _ h A H;refine ⟨⟨i,h⟩,fun w' c j l => ?_⟩;by_cases d:j=i
  ·subst d; exact A.opG hi (t.up c) fun F n=>⟨(t.up c).up n,H.grown (c.trans n)⟩
  ·exact (r L w g h j l (H.1 j (ready_mono l d))).elim
 |succ m ih =>
  intro L a w t g s h A H;refine ⟨⟨i,h⟩,fun w' c j l => ?_⟩;by_cases d:j=i
  ·subst d; exact A.opG hi (t.up c) fun F n=>⟨(t.up c).up n,H.grown (c.trans n)⟩
  ·have Q:=H.2 w' c j (ready_mono l d);obtain ⟨u,oj,y,p⟩:=mem_ready.1 l;have I:j<q:=by
    rcases Nat.lt_or_ge j q with h' | h'
    ·exact h'
    ·exact (r L w g h j l h').elim
   have T:=Xmg y (s j oj y I d u (XoU h p)) (fun cs b=>hsel i oi cs b hi) (fun cs b=>hsel j oj cs b y) A Q;have z:∀ x ox,ops[x]? = some ox→x<q→x≠i→(L.setIfInBounds j true).getD x true=false →
    (∀ e ∈ ox.after,Region.binds md e=true→e.on≠i)→oi.apart ops ox=true:=fun x ox U J K f r=>by
    refine s x ox U J K ?_ r;by_cases E:j=x
    ·subst E; exact u
    ·rw [getD_set_ne true E] at f; exact f
   refine Xmf (fun a' F B=>⟨B.2.1,ih (L.setIfInBounds j true) a' F B.2.1 (g.set l) z (ready_mono h (Ne.symm d)) B.1 ?_⟩) T;rw [Array.setIfInBounds_comm _ _ d];exact B.2.2
end
def Xhu (i:Nat):List Nat→Bool
 |[]=>false
 |j::r=>match Nat.beq i j with
  |true=>true
  |false=>Xhu i r
def rmN (i:Nat):List Nat→List Nat
 |[] => []
 |j::r=>match Nat.beq i j with
  |true=>r
  |false=>j::rmN i r
theorem Xhv {i:Nat}:∀ {U:List Nat},Xhu i U=true↔i ∈ U
 |[]=>by simp [Xhu]
 |j::r=>by
  unfold Xhu;cases h:Nat.beq i j with
  |true=>have:=Nat.eq_of_beq_eq_true h; subst this; simp
  |false =>
   have:i≠j:=Nat.ne_of_beq_eq_false h;simp only [List.mem_cons,this,false_or];exact Xhv
theorem Xhw {i:Nat} {U:List Nat}:Xhu i U=false↔i ∉ U:=by
 rw [← Xhv]; simp
theorem XkQ {i j:Nat}:∀ {U:List Nat},U.Nodup→(j ∈ rmN i U↔j ∈ U∧j≠i)
 |[],_=>by simp [rmN]
 |x::r,c=>by
  obtain ⟨d,f⟩:=List.nodup_cons.1 c;unfold rmN;cases h:Nat.beq i x with
  |true =>
   have:=Nat.eq_of_beq_eq_true h; subst this;simp only [List.mem_cons];constructor
   ·intro hj; exact ⟨.inr hj,fun e=>d (e▸hj)⟩
   ·rintro ⟨hj | hj,a⟩
    ·exact absurd hj a
    ·exact hj
  |false =>
   have a:i≠x:=Nat.ne_of_beq_eq_false h;simp only [List.mem_cons,XkQ f];constructor
   ·rintro (rfl | ⟨h3,b⟩)
    ·exact ⟨.inl rfl,Ne.symm a⟩
    ·exact ⟨.inr h3,b⟩
   ·rintro ⟨rfl | h3,b⟩
    ·exact .inl rfl
    ·exact .inr ⟨h3,b⟩
theorem XlY {i:Nat}:∀ {U:List Nat},U.Nodup→(rmN i U).Nodup
 |[],_=>by simp [rmN]
 |x::r,b=>by
  obtain ⟨c,a⟩:=List.nodup_cons.1 b;unfold rmN;cases h:Nat.beq i x with
  |true=>exact a
  |false=>exact List.nodup_cons.2 ⟨fun d=>c ((XkQ a).1 d).1,XlY a⟩
theorem Xjp {i:Nat}:∀ {U:List Nat},i ∈ U→(rmN i U).length+1=U.length
 |[],h=>by simp at h
 |x::r,h=>by
  unfold rmN;cases b:Nat.beq i x with
  |true=>rfl
  |false =>
   have a:i≠x:=Nat.ne_of_beq_eq_false b;have:i ∈ r:=by rcases List.mem_cons.1 h with h | h; exact absurd h a; exact h
   simp only [List.length_cons,Xjp this]
def lsA (s q:Nat) (U:List Nat):Array Bool:=((List.range s).map fun i=>Nat.blt i q && !Xhu i U).toArray
theorem Xkh {s q i:Nat} {U:List Nat} {d:Bool} (h:i<s):(lsA s q U).getD i d=(Nat.blt i q && !Xhu i U):=by
 simp [lsA,h]
theorem Xki {s q i:Nat} {U:List Nat} (hn:U.Nodup) (hq:i<q):(lsA s q U).setIfInBounds i true=lsA s q (rmN i U):=by
 apply Array.ext
 ·simp [lsA]
 ·intro j b c;have d:j<s:=by simpa [lsA] using c
  rw [Array.getElem_setIfInBounds];split
  ·rename_i a; subst a
   have:Xhu i (rmN i U)=false:=Xhw.2 (fun h=>((XkQ hn).1 h).2 rfl);simp [lsA,this,hq,Nat.blt_eq]
  ·rename_i a
   have:Xhu j (rmN i U)=Xhu j U:=by
    rw [Bool.eq_iff_iff,Xhv,Xhv,XkQ hn];exact ⟨fun h=>h.1,fun h=>⟨h,Ne.symm a⟩⟩
   simp [lsA,this]
  ·simpa using b
def XgU (q:Nat) (U:List Nat) (o:Oper):Bool:=o.after.toList.all fun e => !Region.binds md e || (Nat.blt e.on q && !Xhu e.on U)
section
variable {P:Program} {T:Tab} {ops:Array Oper} {fn f:FuncId} {R:Aim} {k:List Item} {q tf n:Nat} {ds:List Deferred} {w w' w0:World} {e e':Env} {U:List Nat} {S:Nat→Prop}
def XfQ (ops:Array Oper) (j i:Nat):Bool:=match ops[j]? with
 |some o=>o.after.any fun e=>Region.binds md e && e.on == i
 |none=>false
def Xcp:List Oper→List Nat→List Nat
 |[],acc=>acc
 |o::r,acc=>Xcp r (acc ++ [o.after.toList.foldl (fun m e=>bif Region.binds md e then m ||| (1 <<< e.on) ||| acc.getD e.on 0 else m) 0])
theorem Xcq (acc:List Nat) (i:Nat):∀ (l:List _) (m:Nat),(l.foldl (fun m e=>bif Region.binds md e then m ||| (1 <<< e.on) ||| acc.getD e.on 0 else m) m).testBit i=true→m.testBit i=true ∨ ∃ e ∈ l,Region.binds md e=true∧(e.on=i∨(acc.getD e.on 0).testBit i=true)
 |[],m,h => .inl h
 |e::l,m,h=>by
  rw [List.foldl_cons] at h;rcases Xcq acc i l _ h with h1 | ⟨x,hx,hb,h2⟩
  ·cases hb:Region.binds md e with
   |false=>rw [hb] at h1; exact .inl h1
   |true =>
    rw [hb] at h1;simp only [cond_true,Nat.testBit_or,Bool.or_eq_true] at h1;rcases h1 with (h1 | h1) | h1
    ·exact .inl h1
    ·rw [Nat.one_shiftLeft,Nat.testBit_two_pow] at h1;exact .inr ⟨e,by simp,hb,.inl (of_decide_eq_true h1)⟩
    ·exact .inr ⟨e,by simp,hb,.inr h1⟩
  ·exact .inr ⟨x,by simp [hx],hb,h2⟩
theorem Xcr:∀ (l:List Oper) (acc:List Nat),(∀ j,l[j]? = ops[acc.length+j]?)→(∀ j i,(acc.getD j 0).testBit i=true→Reach ops j i) → ∀ j i,((Xcp l acc).getD j 0).testBit i=true→Reach ops j i
 |[],acc,_,h,j,i,a=>h j i a
 |o::r,acc,c,h,j,i,a=>by
  refine Xcr r _ (fun j => ?_) (fun j i a => ?_) j i a
  ·have:=c (j+1);simp only [List.length_append,List.length_singleton];rw [show acc.length+1+j=acc.length+(j+1) from by omega,← this]
   simp
  ·have d:ops[acc.length]? = some o:=by have:=c 0; simpa using this.symm
   rcases Nat.lt_trichotomy j acc.length with hj | hj | hj
   ·rw [List.getD_eq_getElem?_getD,List.getElem?_append_left hj,← List.getD_eq_getElem?_getD] at a;exact h j i a
   ·subst hj;rw [List.getD_eq_getElem?_getD,List.getElem?_append_right (Nat.le_refl _)] at a;simp only [Nat.sub_self,List.getElem?_cons_zero,Option.getD_some] at a;rcases Xcq acc i _ _ a with g | ⟨e,f,b,h2 | h2⟩
    ·simp at g
    ·exact .one d (by simpa using f) b h2
    ·exact .step d (by simpa using f) b rfl (h _ _ h2)
   ·rw [List.getD_eq_getElem?_getD,List.getElem?_append_right (by omega),List.getElem?_eq_none (by simp; omega)] at a;simp at a
def XfJ (ops:Array Oper) (q:Nat):Bool :=
 Region.noSelect ops && Nat.ble q ops.size &&
 (List.range q).all (fun i=>(List.range q).all fun j=>i == j || XfQ ops i j || XfQ ops j i || (match ops[i]?,ops[j]? with | some a,some b=>a.apart ops b | _,_=>false)) &&
 (let A:=Xcp ops.toList []; (List.range' q (ops.size - q)).all (fun j=>(List.range q).all fun i=>(A.getD j 0).testBit i)) &&
 XgP ops (ops.size - q) q (lsA ops.size q [])
theorem XfR {i j:Nat} {o:Oper} (ho:ops[j]? = some o) (h:XfQ ops j i=true):∃ e ∈ o.after,Region.binds md e=true∧e.on=i:=by
 unfold XfQ at h;rw [ho] at h;obtain ⟨e,b,a⟩:=Array.any_eq_true'.1 h;simp only [Bool.and_eq_true,beq_iff_eq] at a;exact ⟨e,b,a.1,a.2⟩
theorem XfK (h:XfJ ops q=true):Region.noSelect ops=true∧q≤ops.size ∧
 (∀ i j oi oj,i<q→j<q→i≠j→ops[i]? = some oi→ops[j]? = some oj→XfQ ops i j=true∨XfQ ops j i=true∨oi.apart ops oj=true) ∧
 (∀ j o i,q≤j→ops[j]? = some o→i<q→Reach ops j i)∧XgP ops (ops.size - q) q (lsA ops.size q [])=true:=by
 unfold XfJ at h;simp only [Bool.and_eq_true] at h;obtain ⟨⟨⟨⟨f,g⟩,k⟩,l⟩,m⟩:=h;refine ⟨f,by simpa [Nat.ble_eq] using g,fun i j oi oj a b c d e => ?_,fun j o i b n a => ?_,m⟩
 ·have:=List.all_eq_true.1 (List.all_eq_true.1 k i (by simpa using a)) j (by simpa using b);rw [d,e] at this;simp only [Bool.or_eq_true,beq_iff_eq] at this;rcases this with ((h | h) | h) | h
  ·exact absurd h c
  ·exact .inl h
  ·exact .inr (.inl h)
  ·exact .inr (.inr h)
 ·have p:j<ops.size:=(Array.getElem?_eq_some_iff.1 n).1;exact Xcr ops.toList [] (fun x=>by simp) (fun x y h=>by simp at h) j i (List.all_eq_true.1 (List.all_eq_true.1 l j (by rw [List.mem_range']; exact ⟨j - q,by omega,by omega⟩)) i (by simpa using a))
def Nd (ops:Array Oper) (q:Nat) (U:List Nat):Prop:=U.Nodup∧Xak ops (lsA ops.size q U)
theorem Nd.rm {i:Nat} (h:Nd ops q U) (hq:i<q) (hr:i ∈ Region.ready md ops (lsA ops.size q U)):Nd ops q (rmN i U):=⟨XlY h.1,by rw [← Xki h.1 hq]; exact h.2.set hr⟩
def NdT (ops:Array Oper) (q:Nat) (U:List Nat) (i:Nat):Prop:=Nd ops q U∧i ∈ Region.ready md ops (lsA ops.size q U)
theorem NdT.rm {i:Nat} (h:NdT ops q U i) (hq:i<q):Nd ops q (rmN i U):=h.1.rm hq h.2
def Xaq (P:Program) (f:FuncId) (R:Aim) (n:Nat) (ds:List Deferred) (k:List Item) (ops:Array Oper) (q:Nat) (S:Nat→Prop) (U:List Nat) (e:Env) (w0 w:World):Prop :=
 ∀ a:Act,a.defers=ds→Xau n a e→Nd ops q U→(∀ i ∈ U,i<q)→Chg S w0 w→Xae P f R ops k q (ops.size - q) S w0 U.length (lsA ops.size q U) a w
theorem XgW (hB:XfJ ops q=true) {i:Nat} {o:Oper} (ho:nth ops.toList i=some o) (hU:i ∈ U) (hq:i<q) (h:XgU q U o=true):i ∈ Region.ready md ops (lsA ops.size q U):=by
 obtain ⟨_,c,_⟩:=XfK hB;refine mem_ready.2 ⟨?_,o,Xl5 ho,fun e a b => ?_⟩
 ·rw [Xkh (by omega),Xhv.2 hU]; simp
 ·have:=List.all_eq_true.1 h e (by simpa using a);rw [b] at this;simp only [Bool.not_true,Bool.false_or,Bool.and_eq_true,Nat.blt_eq] at this;rw [Xkh (by omega)];simp only [Bool.and_eq_true,Nat.blt_eq];exact this
theorem XoT (hB:XfJ ops q=true) (hn:Nd ops q U) (hU:U ≠ []) (hlt:∀ i ∈ U,i<q) {i:Nat} (h:i ∈ Region.ready md ops (lsA ops.size q U)):i ∈ U ∧ ∃ o,nth ops.toList i=some o∧XgU q U o=true:=by
 obtain ⟨_,u,_,f,_⟩:=XfK hB;obtain ⟨k,o,g,b⟩:=mem_ready.1 h;have l:i<ops.size:=(Array.getElem?_eq_some_iff.1 g).1;have key:∀ e ∈ o.after,Region.binds md e=true→e.on<q∧e.on ∉ U:=fun e c d=>by
  have a:=b e c d;by_cases m:e.on<ops.size
  ·rw [Xkh m] at a;simp only [Bool.and_eq_true,Nat.blt_eq,Bool.not_eq_true'] at a;exact ⟨a.1,Xhw.1 a.2⟩
  ·simp [lsA,m] at a
 have n:i<q:=by
  rcases Nat.lt_or_ge i q with h' | h'
  ·exact h'
  ·cases U with
   |nil=>exact absurd rfl hU
   |cons x r =>
    have p:=(f i o x h' g (hlt x (by simp))).listed hn.2 (fun o' j e c d=>by rw [g] at j; cases j; exact b e c d);have v:=hlt x (by simp);rw [Xkh (by omega)] at p;simp [Xhu] at p
 rw [Xkh l] at k;refine ⟨?_,o,by rw [Xl6]; simpa using g,?_⟩
 ·have a:(Nat.blt i q)=true:=by simpa [Nat.blt_eq] using n
  rw [a] at k;exact Xhv.1 (by simpa using k)
 ·unfold XgU;rw [List.all_eq_true];intro e c;cases d:Region.binds md e with
  |false=>rfl
  |true =>
   obtain ⟨s,t⟩:=key e (by simpa using c) d;simp only [Bool.not_true,Bool.false_or,Bool.and_eq_true,Nat.blt_eq,Bool.not_eq_true'];exact ⟨s,Xhw.2 t⟩
theorem Xaq.first (hB:XfJ ops q=true) {i:Nat} {o:Oper} {v:Value} (ho:nth ops.toList i=some o) (hU:i ∈ U) (hfree:XgU q U o=true)
 (hy:∀ a,Xau n a e→YS P ops (fun x=>Chg S w0 x) o v a) (hfit:∀ a:Act,Xau n a e→Xau n (a.put o.dst v) e') (h:Xaq P f R n ds k ops q S (rmN i U) e' w0 w):Xaq P f R n ds k ops q S U e w0 w:=by
 obtain ⟨t,G,g,m,_⟩:=XfK hB;intro a F hf p r B;have b:=r i hU;have u:=Xjp hU;rw [← u];refine Xaf (Xl5 ho) (Region.noSelect_spec t) (fun j oj y c=>m j oj i y c b) _ _ a w B p.2 (fun j oj c s C d D => ?_) (XgW hB ho hU b hfree) (hy a hf) ?_
 ·have E:j<ops.size:=(Array.getElem?_eq_some_iff.1 c).1
  ·rcases g i j o oj b s (Ne.symm C) (Xl5 ho) c with h1 | h1 | h1
   ·exfalso
    obtain ⟨x,z,A,l⟩:=XfR (Xl5 ho) h1;have:=List.all_eq_true.1 hfree x (by simpa using z);rw [A] at this;simp only [Bool.not_true,Bool.false_or,Bool.and_eq_true,Nat.blt_eq,Bool.not_eq_true',l] at this;rw [Xkh E,this.2] at d;simp only [Bool.not_false,Bool.and_true] at d;rw [show Nat.blt j q=true from by simpa [Nat.blt_eq] using s] at d; cases d
   ·exfalso
    obtain ⟨x,z,A,l⟩:=XfR c h1;exact D x z A l
   ·exact h1
 ·rw [Xki p.1 b];exact h _ (by cases o.dst <;> exact F) (hfit a hf) (p.rm b (XgW hB ho hU b hfree)) (fun j y=>r j ((XkQ p.1).1 y).1) B
theorem Xaq.weaken (h:Xaq P f R n ds k ops q S U e' w0 w) (hs:∀ t v,look e' t=some v→look e t=some v):Xaq P f R n ds k ops q S U e w0 w:=fun a b hf=>h a b (hf.weaken hs)
theorem Xaq.know {t:Nat} {b:Bool} {v:Value} (h:look e t=some v) (hg:Xaq P f R n ds k ops q S U ((t,b,v)::e) w0 w):Xaq P f R n ds k ops q S U e w0 w :=
 hg.weaken fun u x a=>by
  rw [Xkb] at a;by_cases c:u=t
  ·subst c; rw [if_pos rfl] at a; rw [h,a]
  ·rwa [if_neg c] at a
theorem Xaq.one (hB:XfJ ops q=true) {i:Nat} {o:Oper} {v:Value} {fl:Bool} (ho:nth ops.toList i=some o) (hU:i ∈ U) (hfree:XgU q U o=true) (hw:Xv3 e ops o=some true) (hp:XoA n o.dst fl v e=some e')
 (hrun:∀ a w',Chg S w0 w'→Xau n a e→XoI P o a w' v) (h:Xaq P f R n ds k ops q S (rmN i U) e' w0 w):Xaq P f R n ds k ops q S U e w0 w :=
 Xaq.first hB ho hU hfree (fun a hf => .inl ⟨Xv4 hf hw,fun w' b=>hrun a w' b hf⟩) (fun a hf=>XoE hp a hf) h
theorem Xaq.skip (hB:XfJ ops q=true) {i:Nat} {o:Oper} {fl:Bool} (ho:nth ops.toList i=some o) (hU:i ∈ U) (hfree:XgU q U o=true) (hw:Xv3 e ops o=some false) (hp:XoA n o.dst fl undef e=some e')
 (h:Xaq P f R n ds k ops q S (rmN i U) e' w0 w):Xaq P f R n ds k ops q S U e w0 w :=
 Xaq.first hB ho hU hfree (fun a hf => .inr ⟨Xv4 hf hw,rfl⟩) (fun a hf=>XoE hp a hf) h
def Xb2 (T:Tab) (n:Nat) (ops:Array Oper) (q:Nat):List Nat→List Nat→Env→List Nat × Env
 |[],U,e=>(U,e)
 |i::r,U,e=>match nth ops.toList i with
  |none=>Xb2 T n ops q r U e
  |some o=>match Xhu i U && XgU q U o with
   |false=>Xb2 T n ops q r U e
   |true=>match Xv3 e ops o with
    |some false=>match XoA n o.dst true undef e with
     |some e'=>Xb2 T n ops q r (rmN i U) e'
     |none=>Xb2 T n ops q r U e
    |some true=>match opV T e o.op with
     |some v=>match XoA n o.dst (opF e o.op) v e with
      |some e'=>Xb2 T n ops q r (rmN i U) e'
      |none=>Xb2 T n ops q r U e
     |none=>Xb2 T n ops q r U e
    |none=>Xb2 T n ops q r U e
theorem Xb3 (hT:XbE P T) (hB:XfJ ops q=true):∀ (l U:List Nat) (e:Env),Xaq P f R n ds k ops q S (Xb2 T n ops q l U e).1 (Xb2 T n ops q l U e).2 w0 w→Xaq P f R n ds k ops q S U e w0 w
 |[],U,e,h=>h
 |i::r,U,e,h=>by
  unfold Xb2 at h;split at h
  ·exact Xb3 hT hB r U e h
  ·rename_i o g
   split at h
   ·exact Xb3 hT hB r U e h
   ·rename_i b
    simp only [Bool.and_eq_true] at b;obtain ⟨j,b⟩:=b;split at h
    ·rename_i c
     split at h
     ·rename_i e' d; exact Xaq.skip hB g (Xhv.1 j) b c d (Xb3 hT hB r _ e' h)
     ·exact Xb3 hT hB r U e h
    ·rename_i c
     split at h
     ·rename_i v m
      split at h
      ·rename_i e' d
       exact Xaq.one hB g (Xhv.1 j) b c d (fun a w' _ hf=>by unfold XoI; rw [Xmh hT hf m w']; exact ⟨rfl,rfl⟩) (Xb3 hT hB r _ e' h)
      ·exact Xb3 hT hB r U e h
     ·exact Xb3 hT hB r U e h
    ·exact Xb3 hT hB r U e h
theorem Xaq.adv (hT:XbE P T) (hB:XfJ ops q=true) {U':List Nat} (h:Xb2 T n ops q U U e=(U',e')) (hg:Xaq P f R n ds k ops q S U' e' w0 w):Xaq P f R n ds k ops q S U e w0 w:=Xb3 hT hB U U e (by rw [h]; exact hg)
def Xgm {δ:Type} (g:Oper→Option δ) (n:Nat) (ops:Array Oper) (q:Nat) (U:List Nat) (e:Env):List Nat→Option (δ × Nat × Nat)
 |[]=>none
 |i::r=>match nth ops.toList i with
  |none=>Xgm g n ops q U e r
  |some o=>match XgU q U o with
   |false=>Xgm g n ops q U e r
   |true=>match Xv3 e ops o with
    |some true=>match o.dst with
     |some d=>match Nat.blt d n with
      |true=>match g o with
       |some x=>some (x,d,i)
       |none=>Xgm g n ops q U e r
      |false=>Xgm g n ops q U e r
     |none=>Xgm g n ops q U e r
    |_=>Xgm g n ops q U e r
theorem Xgn {δ:Type} {g:Oper→Option δ} {x:δ} {d i:Nat}:∀ {l:List Nat},Xgm g n ops q U e l=some (x,d,i)→i ∈ l ∧ ∃ o,nth ops.toList i=some o∧XgU q U o=true∧Xv3 e ops o=some true∧o.dst=some d∧Nat.blt d n=true∧g o=some x
 |[],h=>by simp [Xgm] at h
 |j::r,h=>by
  have rec':Xgm g n ops q U e r=some (x,d,i)→i ∈ j::r ∧ ∃ o,nth ops.toList i=some o∧XgU q U o=true∧Xv3 e ops o=some true∧o.dst=some d∧Nat.blt d n=true∧g o=some x:=fun h=>by
   obtain ⟨c,f⟩:=Xgn h;exact ⟨.tail _ c,f⟩
  unfold Xgm at h;split at h
  ·exact rec' h
  ·rename_i o k
   split at h
   ·exact rec' h
   ·rename_i a
    split at h
    ·rename_i m
     split at h
     ·rename_i t p
      split at h
      ·rename_i b
       split at h
       ·rename_i y s; cases h; exact ⟨.head _,o,k,a,m,p,b,s⟩
       ·exact rec' h
      ·exact rec' h
     ·exact rec' h
    ·exact rec' h
theorem XoB {d:Nat} {v:Value} (h:Nat.blt d n=true):XoA n (some d) false v e=some ((d,false,v)::e):=by
 rw [XoC]; unfold Xoz; simp only [h]; rfl
theorem Xaq.valQ (hT:XbE P T) (hB:XfJ ops q=true) {δ:Type} {g:Oper→Option δ} {x:δ} {d i:Nat} {v:Value} {U2:List Nat} {e2:Env} (h:Xgm g n ops q U e U=some (x,d,i))
 (hrun:∀ o,g o=some x → ∀ a w',Chg S w0 w'→Xau n a e→XoI P o a w' v) (ha:Xb2 T n ops q (rmN i U) (rmN i U) ((d,false,v)::e)=(U2,e2)) (hg:Xaq P f R n ds k ops q S U2 e2 w0 w):Xaq P f R n ds k ops q S U e w0 w:=by
 obtain ⟨j,o,l,b,m,p,c,r⟩:=Xgn h;exact Xaq.one hB l j b m (by rw [p]; exact XoB c) (hrun o r) (Xaq.adv hT hB ha hg)
theorem Xaq.val (hT:XbE P T) (hB:XfJ ops q=true) {δ:Type} {g:Oper→Option δ} {x:δ} {d i:Nat} {v:Value} {U2:List Nat} {e2:Env} (h:Xgm g n ops q U e U=some (x,d,i))
 (hrun:∀ o,g o=some x → ∀ a w',Chg S w0 w'→Xau n a e→(execOp a.eval o).run P w' = .ok (.value v) w') (ha:Xb2 T n ops q (rmN i U) (rmN i U) ((d,false,v)::e)=(U2,e2)) (hg:Xaq P f R n ds k ops q S U2 e2 w0 w):Xaq P f R n ds k ops q S U e w0 w :=
 Xaq.valQ hT hB h (fun o c a w' b hf=>by unfold XoI; rw [hrun o c a w' b hf]; exact ⟨rfl,rfl⟩) ha hg
theorem Xaq.arith (hT:XbE P T) (hB:XfJ ops q=true) {kk:IntKind} {z z':Int} {d i:Nat} {U2:List Nat} {e2:Env} (h:Xgm (XcS T e) n ops q U e U=some ((kk,z),d,i)) (hz:kk.wrap z=z')
 (ha:Xb2 T n ops q (rmN i U) (rmN i U) ((d,false,.int kk z')::e)=(U2,e2)) (hg:Xaq P f R n ds k ops q S U2 e2 w0 w):Xaq P f R n ds k ops q S U e w0 w :=
 Xaq.val hT hB h (fun _ b a w' _ hf=>XcT hT b hz a hf w') ha hg
theorem Xaq.div (hT:XbE P T) (hB:XfJ ops q=true) {p:Bool} {kk:IntKind} {x y z:Int} {d i:Nat} {U2:List Nat} {e2:Env} (h:Xgm (XfG e) n ops q U e U=some ((p,kk,x,y),d,i)) (hy:y≠0) (hz:XfI p kk x y=z)
 (ha:Xb2 T n ops q (rmN i U) (rmN i U) ((d,false,.int kk z)::e)=(U2,e2)) (hg:Xaq P f R n ds k ops q S U2 e2 w0 w):Xaq P f R n ds k ops q S U e w0 w :=
 Xaq.val hT hB h (fun _ b a w' _ hf=>XfH b hy hz a hf w') ha hg
theorem Xaq.index (hT:XbE P T) (hB:XfJ ops q=true) {b off len sz d j i:Nat} {x:Int} {U2:List Nat} {e2:Env} (h:Xgm (Xiy T e) n ops q U e U=some ((b,off,len,sz,x),d,i)) (h0:0≤x) (h1:x<len) (hj:x.toNat*sz=j)
 (ha:Xb2 T n ops q (rmN i U) (rmN i U) ((d,false,.pointer (some ⟨b,off+j,none⟩))::e)=(U2,e2)) (hg:Xaq P f R n ds k ops q S U2 e2 w0 w):Xaq P f R n ds k ops q S U e w0 w :=
 Xaq.val hT hB h (fun _ c a w' _ hf=>Xiz hT c h0 h1 hj a hf w') ha hg
theorem Xaq.load (hT:XbE P T) (hB:XfJ ops q=true) {b off d i:Nat} {v:Value} {U2:List Nat} {e2:Env} (h:Xgm (XjW T e) n ops q U e U=some ((b,off,none),d,i)) (hc:w0.cell? ⟨b,off,none⟩=some v) (hS:¬ S b)
 (ha:Xb2 T n ops q (rmN i U) (rmN i U) ((d,false,v)::e)=(U2,e2)) (hg:Xaq P f R n ds k ops q S U2 e2 w0 w):Xaq P f R n ds k ops q S U e w0 w :=
 Xaq.val hT hB h (fun _ g a _ c hf=>XjX hT g (c.cell hc hS) a hf) ha hg
theorem Xaq.loadb (hT:XbE P T) (hB:XfJ ops q=true) {b off d i:Nat} {v:Value} {c:List Value} {t:TypeId} {fz:Nat × Nat} {U2:List Nat} {e2:Env} (h:Xgm (XjW T e) n ops q U e U=some ((b,off,none),d,i)) (hc:w0.heap[b]? = some (.cells c.toArray t fz)) (hS:¬ S b) (hv:Xl3 c off=some v)
 (ha:Xb2 T n ops q (rmN i U) (rmN i U) ((d,false,v)::e)=(U2,e2)) (hg:Xaq P f R n ds k ops q S U2 e2 w0 w):Xaq P f R n ds k ops q S U e w0 w :=
 Xaq.load hT hB h (Xek hc hv) hS ha hg
theorem Xaq.loads (hT:XbE P T) (hB:XfJ ops q=true) {b off m d i:Nat} {c vs:List Value} {t:TypeId} {fz:Nat × Nat} {U2:List Nat} {e2:Env} (h:Xgm (XjW T e) n ops q U e U=some ((b,off,some m),d,i)) (hc:w0.heap[b]? = some (.cells c.toArray t fz)) (hS:¬ S b) (hv:cut c off m=some vs)
 (ha:Xb2 T n ops q (rmN i U) (rmN i U) ((d,false,.agg vs.toArray)::e)=(U2,e2)) (hg:Xaq P f R n ds k ops q S U2 e2 w0 w):Xaq P f R n ds k ops q S U e w0 w :=
 Xaq.val hT hB h (fun _ j a _ g hf=>Xj2 hT j (g.heap hc hS) hv a hf) ha hg
theorem Xaq.build (hT:XbE P T) (hB:XfJ ops q=true) {vs:List Value} {d i:Nat} {U2:List Nat} {e2:Env} (h:Xgm (XdY T e) n ops q U e U=some (vs,d,i))
 (ha:Xb2 T n ops q (rmN i U) (rmN i U) ((d,false,.agg vs.toArray)::e)=(U2,e2)) (hg:Xaq P f R n ds k ops q S U2 e2 w0 w):Xaq P f R n ds k ops q S U e w0 w :=
 Xaq.val hT hB h (fun _ b a w' _ hf=>XdZ hT b a hf w') ha hg
theorem Xaq.slice (hT:XbE P T) (hB:XfJ ops q=true) {b:Option Addr} {len cap sz l h d i:Nat} {lo hi:Option Int} {U2:List Nat} {e2:Env} (ho:Xgm (Xr3 T e) n ops q U e U=some ((b,len,cap,lo,hi,sz),d,i)) (hl:loV lo=l) (hh:hiV len hi=h) (h1:l≤h) (h2:h≤cap)
 (ha:Xb2 T n ops q (rmN i U) (rmN i U) ((d,false,.slice (XrR b cap l sz) (h - l) (cap - l))::e)=(U2,e2)) (hg:Xaq P f R n ds k ops q S U2 e2 w0 w):Xaq P f R n ds k ops q S U e w0 w :=
 Xaq.val hT hB ho (fun _ ho a w' _ hf=>Xr4 hT ho hl hh h1 h2 a hf w') ha hg
theorem Xaq.call (hT:XbE P T) (hB:XfJ ops q=true) {fk d i:Nat} {as:List Value} {v:Value} {U2:List Nat} {e2:Env} (h:Xgm (Xed e) n ops q U e U=some ((fk,as),d,i)) (hd:∀ w',Chg S w0 w'→Xan P fk as.toArray w' (fun u w2=>u=v∧Chg XaX w' w2))
 (ha:Xb2 T n ops q (rmN i U) (rmN i U) ((d,false,v)::e)=(U2,e2)) (hg:Xaq P f R n ds k ops q S U2 e2 w0 w):Xaq P f R n ds k ops q S U e w0 w :=
 Xaq.valQ hT hB h (fun o g a w' b hf=>by
  have c:=hd w' b;unfold XoI;rw [Xee g c.fn a hf];exact ⟨rfl,c.calls.mono fun en w2 ⟨u,j,l,m⟩=>⟨by rw [j,l],m⟩⟩) ha hg
def XcV (ops:Array Oper) (q:Nat) (U:List Nat) (e:Env):List Nat→Option (Nat × Bool)
 |[]=>none
 |i::r=>match nth ops.toList i with
  |none=>XcV ops q U e r
  |some o=>match XgU q U o with
   |false=>XcV ops q U e r
   |true=>match Xv3 e ops o with
    |some false=>XcV ops q U e r
    |_=>match XcW ops [o] e with
     |some x=>some x
     |none=>XcV ops q U e r
theorem Xj9 {t:Nat} {p:Bool}:∀ {l:List Nat},XcV ops q U e l=some (t,p)→look e t=some (.bool p)
 |[],h=>by simp [XcV] at h
 |j::r,h=>by
  unfold XcV at h;split at h
  ·exact Xj9 h
  ·split at h
   ·exact Xj9 h
   ·split at h
    ·exact Xj9 h
    ·split at h
     ·rename_i x hx; cases h; exact Xka hx
     ·exact Xj9 h
theorem Xaq.fork (hT:XbE P T) (hB:XfJ ops q=true) {t:Nat} {p:Bool} {U1 U2:List Nat} {e1 e2:Env} (h:XcV ops q U e U=some (t,p)) (ha:Xb2 T n ops q U U ((t,true,.bool true)::e)=(U1,e1)) (hb:Xb2 T n ops q U U ((t,true,.bool false)::e)=(U2,e2))
 (ht:p=true→Xaq P f R n ds k ops q S U1 e1 w0 w) (hf:p=false→Xaq P f R n ds k ops q S U2 e2 w0 w):Xaq P f R n ds k ops q S U e w0 w:=by
 have a:=Xj9 h;cases p with
 |true=>exact (Xaq.adv hT hB ha (ht rfl)).know a
 |false=>exact (Xaq.adv hT hB hb (hf rfl)).know a
theorem Xaq.yes (hT:XbE P T) (hB:XfJ ops q=true) {t:Nat} {p:Bool} {U1:List Nat} {e1:Env} (h:XcV ops q U e U=some (t,p)) (hp:p=true) (ha:Xb2 T n ops q U U ((t,true,.bool true)::e)=(U1,e1)) (hg:Xaq P f R n ds k ops q S U1 e1 w0 w):Xaq P f R n ds k ops q S U e w0 w:=by
 subst hp; exact (Xaq.adv hT hB ha hg).know (Xj9 h)
theorem Xaq.no (hT:XbE P T) (hB:XfJ ops q=true) {t:Nat} {p:Bool} {U1:List Nat} {e1:Env} (h:XcV ops q U e U=some (t,p)) (hp:p=false) (ha:Xb2 T n ops q U U ((t,true,.bool false)::e)=(U1,e1)) (hg:Xaq P f R n ds k ops q S U1 e1 w0 w):Xaq P f R n ds k ops q S U e w0 w:=by
 subst hp; exact (Xaq.adv hT hB ha hg).know (Xj9 h)
def XgS (ops:Array Oper) (q:Nat) (U:List Nat):List Nat→List Nat
 |[] => []
 |i::r=>match nth ops.toList i with
  |none=>XgS ops q U r
  |some o=>match XgU q U o with
   |true=>i::XgS ops q U r
   |false=>XgS ops q U r
theorem XgT {i:Nat}:∀ {l:List Nat},i ∈ XgS ops q U l↔i ∈ l ∧ ∃ o,nth ops.toList i=some o∧XgU q U o=true
 |[]=>by simp [XgS]
 |j::r=>by
  unfold XgS;split
  ·rename_i h
   rw [XgT];constructor
   ·rintro ⟨h1,h2⟩; exact ⟨.tail _ h1,h2⟩
   ·rintro ⟨h1,o,ho,h2⟩;rcases List.mem_cons.1 h1 with rfl | h1
    ·rw [h] at ho; cases ho
    ·exact ⟨h1,o,ho,h2⟩
  ·rename_i o ho
   split
   ·rename_i hf
    rw [List.mem_cons,XgT];constructor
    ·rintro (rfl | ⟨h1,h2⟩)
     ·exact ⟨.head _,o,ho,hf⟩
     ·exact ⟨.tail _ h1,h2⟩
    ·rintro ⟨h1,h2⟩;rcases List.mem_cons.1 h1 with rfl | h1
     ·exact .inl rfl
     ·exact .inr ⟨h1,h2⟩
   ·rename_i hf
    rw [XgT];constructor
    ·rintro ⟨h1,h2⟩; exact ⟨.tail _ h1,h2⟩
    ·rintro ⟨h1,o',ho',h2⟩;rcases List.mem_cons.1 h1 with rfl | h1
     ·rw [ho] at ho'; cases ho'; rw [hf] at h2; cases h2
     ·exact ⟨h1,o',ho',h2⟩
def XbO (P:Program) (f:FuncId) (R:Aim) (n:Nat) (ds:List Deferred) (k:List Item) (ops:Array Oper) (q:Nat) (S:Nat→Prop) (U:List Nat) (i:Nat) (e:Env) (w0 w:World):Prop :=
 ∀ a:Act,a.defers=ds→Xau n a e→NdT ops q U i→(∀ j ∈ U,j<q)→i ∈ U→Chg S w0 w→opG P ops i (fun a1 w1=>Chg S w0 w1∧Xae P f R ops k q (ops.size - q) S w0 (rmN i U).length (lsA ops.size q (rmN i U)) a1 w1) a w
theorem Xaq.turns (hB:XfJ ops q=true) {i0:Nat} {I:List Nat} (h:XgS ops q U U=i0::I) (hall:∀ w',Chg XaX w w' → ∀ i ∈ i0::I,XbO P f R n ds k ops q S U i e w0 w'):Xaq P f R n ds k ops q S U e w0 w:=by
 intro a x hf j b p;have y:i0 ∈ XgS ops q U U:=by rw [h]; simp
 obtain ⟨c,A,r,s⟩:=XgT.1 y;have t:U ≠ []:=by intro l; subst l; simp at c
 have m:=Xjp c;rw [← m];refine ⟨⟨i0,XgW hB r c (b _ c) s⟩,fun w' g i u => ?_⟩;obtain ⟨d,o,z,v⟩:=XoT hB j t b u;have:=hall w' g i (by rw [← h]; exact XgT.2 ⟨d,o,z,v⟩) a x hf ⟨j,u⟩ b d (p.up g);rw [Xki j.1 (b _ d)];have l:(rmN i0 U).length=(rmN i U).length:=by have:=Xjp d; omega
 rw [l];exact this
theorem Xaq.turn1 (hB:XfJ ops q=true) {i:Nat} (h:XgS ops q U U = [i]) (h1:∀ w',Chg XaX w w'→XbO P f R n ds k ops q S U i e w0 w'):Xaq P f R n ds k ops q S U e w0 w :=
 Xaq.turns hB h fun w' a j b=>by simp at b; subst b; exact h1 w' a
theorem Xaq.turn2 (hB:XfJ ops q=true) {i j:Nat} (h:XgS ops q U U = [i,j]) (h1:∀ w',Chg XaX w w'→XbO P f R n ds k ops q S U i e w0 w') (h2:∀ w',Chg XaX w w'→XbO P f R n ds k ops q S U j e w0 w'):Xaq P f R n ds k ops q S U e w0 w :=
 Xaq.turns hB h fun w' a x hx=>by
  rcases List.mem_cons.1 hx with rfl | hx
  ·exact h1 w' a
  ·simp at hx; subst hx; exact h2 w' a
def Xc2 {δ:Type} (g:Oper→Option δ) (n:Nat) (ops:Array Oper) (e:Env) (i:Nat):Option (δ × Nat) :=
 match nth ops.toList i with
 |some o=>match Xv3 e ops o with
  |some true=>match o.dst with
   |some d=>match Nat.blt d n with
    |true=>match g o with
     |some x=>some (x,d)
     |none=>none
    |false=>none
   |none=>none
  |_=>none
 |none=>none
theorem Xc3 {δ:Type} {g:Oper→Option δ} {x:δ} {d i:Nat} (h:Xc2 g n ops e i=some (x,d)):∃ o,nth ops.toList i=some o∧Xv3 e ops o=some true∧o.dst=some d∧Nat.blt d n=true∧g o=some x:=by
 unfold Xc2 at h;split at h
 ·rename_i o b
  split at h
  ·rename_i c
   split at h
   ·rename_i k f
    split at h
    ·rename_i a
     split at h
     ·rename_i y j; cases h; exact ⟨o,b,c,f,a,j⟩
     ·cases h
    ·cases h
   ·cases h
  ·cases h
 ·cases h
theorem XbO.val (hT:XbE P T) (hB:XfJ ops q=true) {δ:Type} {g:Oper→Option δ} {x:δ} {d i:Nat} {v:Value} {w1:World} {U2:List Nat} {e2:Env} (h:Xc2 g n ops e i=some (x,d))
 (hrun:∀ o,g o=some x → ∀ a,Xau n a e→(execOp a.eval o).run P w = .ok (.value v) w1) (hc:Chg S w0 w→Chg S w0 w1) (ha:Xb2 T n ops q (rmN i U) (rmN i U) ((d,false,v)::e)=(U2,e2)) (hg:Xaq P f R n ds k ops q S U2 e2 w0 w1):XbO P f R n ds k ops q S U i e w0 w:=by
 obtain ⟨o,r,s,t,b,u⟩:=Xc3 h;intro a c hf l m y p;unfold opG;rw [Xl5 r];simp only [Xv4 hf s,if_true];unfold Xhp;rw [hrun o u a hf];exact ⟨hc p,Xaq.adv hT hB ha hg _ (by cases o.dst <;> exact c) (XoE (by rw [t]; exact XoB b) a hf) (l.rm (m _ y)) (fun j z=>m j ((XkQ l.1.1).1 z).1) (hc p)⟩
theorem XbO.alloc (hT:XbE P T) (hB:XfJ ops q=true) {l:List Value} {t d i:Nat} {U2:List Nat} {e2:Nat→Env} (h:Xc2 (Xcg T e) n ops e i=some ((l,t),d))
 (ha:∀ b,Xb2 T n ops q (rmN i U) (rmN i U) ((d,false,.pointer (some ⟨b,0,none⟩))::e)=(U2,e2 b))
 (hg:∀ b w1,b=w.heap.size→w1.heap[b]? = some (.cells l.toArray t (0,0))→Chg XaX w w1→w1.heap.size=w.heap.size+1→Xaq P f R n ds k ops q S U2 (e2 b) w0 w1):XbO P f R n ds k ops q S U i e w0 w :=
 XbO.val hT hB h (fun _ c a hf=>Xch hT c a hf) (fun h=>h.up (XeT _ _)) (ha _) (hg _ _ rfl (by simp) (XeT _ _) (by simp))
theorem XbO.buildSlice (hT:XbE P T) (hB:XfJ ops q=true) {vs:List Value} {t len d i:Nat} {U2:List Nat} {e2:Nat→Env} (h:Xc2 (Xd0 T e) n ops e i=some ((vs,t,len),d))
 (ha:∀ b,Xb2 T n ops q (rmN i U) (rmN i U) ((d,false,.slice (some ⟨b,0,none⟩) len len)::e)=(U2,e2 b))
 (hg:∀ b w1,b=w.heap.size→w1.heap[b]? = some (.cells vs.toArray t (0,0))→Chg XaX w w1→w1.heap.size=w.heap.size+1→Xaq P f R n ds k ops q S U2 (e2 b) w0 w1):XbO P f R n ds k ops q S U i e w0 w :=
 XbO.val hT hB h (fun _ c a hf=>Xd1 hT c a hf w) (fun h=>h.up (XeT _ _)) (ha _) (hg _ _ rfl (by simp) (XeT _ _) (by simp))
theorem XbO.call {fk d i:Nat} {as:List Value} {Post:Value→World→Prop} (h:Xc2 (Xed e) n ops e i=some ((fk,as),d)) (hk:Xaw P fk) (hd:Chg S w0 w→Xan P fk as.toArray w (fun v w2=>Chg S w0 w2∧Post v w2))
 (hg:∀ v w1,Chg S w0 w1→Post v w1→Xaq P f R n ds k ops q S (rmN i U) ((d,false,v)::e) w0 w1):XbO P f R n ds k ops q S U i e w0 w:=by
 obtain ⟨o,s,t,b,g,u⟩:=Xc3 h;intro a l hf m p x y;unfold opG;rw [Xl5 s];simp only [Xv4 hf t,if_true];unfold Xhp;rw [Xee u hk a hf];exact ⟨rfl,(hd y).calls.mono fun en w2 ⟨v,r,c,z⟩=>⟨v,r,c,hg v w2 c z _ (by cases o.dst <;> exact l) (XoE (by rw [b]; exact XoB g) a hf) (m.rm (p _ x)) (fun j B=>p j ((XkQ m.1.1).1 B).1) c⟩⟩
theorem Xaq.nil (hB:XfJ ops q=true) (h:∀ w',Chg XaX w w'→Xay P f R n ds (.inRegion ops (List.range' q (ops.size - q))::k) e w'):Xaq P f R n ds k ops q S [] e w0 w:=by
 obtain ⟨_,v,_,l,c⟩:=XfK hB;intro a m hf _ _ _;refine ⟨fun i p => ?_,fun w' g t => ?_⟩
 ·obtain ⟨d,o,r,_⟩:=mem_ready.1 p;have j:i<ops.size:=(Array.getElem?_eq_some_iff.1 r).1;rw [Xkh j] at d;rcases Nat.lt_or_ge i q with h1 | h1
  ·rw [show Nat.blt i q=true from by simpa [Nat.blt_eq] using h1] at d; simp [Xhu] at d
  ·exact h1
 ·rw [XgQ _ _ _ c t];intro b cs s u;exact h w' g b cs a s u m hf
theorem Xay.drawn (S:Nat→Prop) (hT:XbE P T) (hm:P.follows .mixedOrders=true) {id:Nat} {U2:List Nat} {e2:Env} (hB:XfJ ops q=true) (ha:Xb2 T n ops q (List.range q) (List.range q) e=(U2,e2)) (h':XfJ ops q=true→Xaq P f R n ds k ops q S U2 e2 w w):Xay P f R n ds (.code (.region id ops true)::k) e w:=by
 have h:=h' hB;obtain ⟨s,C,_⟩:=XfK hB;intro b cs a t u v hf;have g:Xak ops (lsA ops.size q (List.range q)):=fun j o x d=>by
  have l:j<ops.size:=(Array.getElem?_eq_some_iff.1 x).1;rw [Xkh l] at d;simp only [Bool.and_eq_true,Nat.blt_eq,Bool.not_eq_true'] at d;exact absurd (by simpa using d.1) (Xhw.1 d.2)
 have m:=Xaq.adv hT hB ha h a v hf ⟨List.nodup_range,g⟩ (fun i y=>by simpa using y) (Chg.refl _ _);have z:lsA ops.size q (List.range q)=Array.replicate ops.size false:=by
  apply Array.ext
  ·simp [lsA]
  ·intro i p r;have:Xhu i (List.range q)=Nat.blt i q:=by rw [Bool.eq_iff_iff,Xhv,Nat.blt_eq]; simp
   simp [lsA,this]
 rw [z,List.length_range] at m;have c:=(m.grown ((Chg.refl _ _).drew _)).any (w:={w with drawn:=w.drawn+1});rw [show q+(ops.size - q)=ops.size from by omega] at c;obtain ⟨en,w',fr,A,B,p,r⟩:=c (w.tape w.drawn (.order b.fn id)) b cs t u;refine ⟨en,w',fr,A,.of_steps (.one ?_) B,p,r⟩;rw [stepR_region_draw];simp only [Region.schedule,hm,Bool.true_or,if_true];rfl
end
end Go.Proofs.YtgddpaiandefgaaGreatDoor
