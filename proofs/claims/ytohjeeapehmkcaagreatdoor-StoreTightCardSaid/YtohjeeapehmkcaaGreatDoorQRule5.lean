/-
  Rule5
-/
import Derived.Test.YtohjeeapehmkcaaGreatDoorQRule4
namespace Go.Proofs.YtohjeeapehmkcaaGreatDoor
open Go.RowKit
section
variable {P:Program}{T:Tab}{ops:Array Oper}{fn f:FuncId}{R:Aim}{k:List Item}{q tf n:Nat}{ds:List Deferred}{w w':World}{e e':Env}{S:Nat->Prop}
def Do(P:Program)(o:Oper)(a:Act)(w:World)(K:Value->World->Prop):Prop:=
 match (execOp a.eval o).run P w with
 |.ok (.value u) w'=>K u w'
 |.ok .skip w'=>K undef w'
 |.ok (.enter f args) w'=>w'=w/\Calls P f args w (λe w''=>∃v,e=.returned v/\K v w'')
 |_=>False
theorem Xd2{o:Oper}{a:Act}{K K':Value->World->Prop}(h:∀v w',K v w'->K' v w')(hg:Do P o a w K):Do P o a w K':=by
 unfold Do at *;split
 ·rename_i b;simp only[b] at hg;exact h _ _ hg
 ·rename_i b;simp only[b] at hg;exact h _ _ hg
 ·rename_i b;simp only[b] at hg;exact⟨hg.1,hg.2.mono λen f ⟨v,c,d⟩=>⟨v,c,h _ _ d⟩⟩
 ·rename_i c e d
  split at hg
  ·rename_i b;exact absurd b (c _ _)
  ·rename_i b;exact absurd b (e _)
  ·rename_i b;exact absurd b (d _ _ _)
  ·exact hg
def opG(P:Program)(ops:Array Oper)(i:Nat)(K:Act->World->Prop)(a:Act)(w:World):Prop:=
 match ops[i]? with
 |none=>False
 |some o=>if Region.wanted o (yielded ops a.tmps) then Do P o a w (λv w'=>K (a.put o.dst v) w') else K (a.put o.dst undef) w
theorem XjW{i:Nat}{K K':Act->World->Prop}{a:Act}(h:∀a' w',K a' w'->K' a' w')(hg:opG P ops i K a w):opG P ops i K' a w:=by
 unfold opG at *;split
 ·rename_i b;simp only[b] at hg
 ·rename_i o b
  simp only[b] at hg;split
  ·rename_i c;simp only[c,if_true] at hg;exact Xd2 (λv w' d=>h _ _ d) hg
  ·rename_i c;simp only[c] at hg;exact h _ _ hg
theorem XiW{o:Oper}{a:Act}{v:Value}{K:Value->World->Prop}(hq:Dh P o a w v)(h:∀w1,Xc Xe w w1->K v w1):Do P o a w K:=by
 unfold Dh at hq;unfold Do;split at hq
 ·rename_i b;obtain⟨rfl,rfl⟩:=hq;simp only[b];exact h _ (Xc.refl _ _)
 ·rename_i b;obtain⟨rfl,rfl⟩:=hq;simp only[b];exact h _ (Xc.refl _ _)
 ·rename_i b;obtain⟨rfl,c⟩:=hq;simp only[b];exact⟨trivial,c.mono λen f ⟨d,e⟩=>⟨_,d,h _ e⟩⟩
 ·exact hq.elim
theorem YS.opG{C:World->Prop}{i:Nat}{o:Oper}{v:Value}{a:Act}(hi:ops[i]?=some o)(hy:YS P ops C o v a)(hC:C w){K:Act->World->Prop}(h:∀w1,Xc Xe w w1->K (a.put o.dst v) w1):Go.Proofs.YtohjeeapehmkcaaGreatDoor.opG P ops i K a w:=by
 unfold Go.Proofs.YtohjeeapehmkcaaGreatDoor.opG;simp only[hi];rcases hy with⟨b,c⟩|⟨b,rfl⟩
 ·simp only[b,if_true];exact XiW (c w hC) h
 ·simp only[b,Bool.false_eq_true,if_false];exact h _ (Xc.refl _ _)
theorem Xc.up{S:Nat->Prop}{w w1 w2:World}(h:Xc S w w1)(k:Xc Xe w1 w2):Xc S w w2:=h.trans (k.mono λ_ _ h=>h.elim)
theorem Xc.cell{S:Nat->Prop}{w w':World}(h:Xc S w w'){b off:Nat}{v:Value}(hc:w.cell? ⟨b,off,none⟩=some v)(hS:¬S b):w'.cell? ⟨b,off,none⟩=some v:=by
 have a:=World.block_lt_of_cell? w _ hc;rw[<-hc];simp only[World.cell?,h.block b a hS]
theorem YS.grown{o:Oper}{v:Value}{a:Act}(hy:YS P ops (λx=>Xc Xe w x) o v a)(h:Xc Xe w w'):YS P ops (λx=>Xc Xe w' x) o v a:=
 hy.imp (λ⟨b,c⟩=>⟨b,λx d=>c x (h.trans d)⟩) id
theorem XjX{j:Nat}{oi oj:Oper}{v:Value}{w0:World}(hj:ops[j]?=some oj)(hap:oi.apart ops oj=true)(hsi:∀cs b,oi.op≠.select cs b)(hsj:∀cs b,oj.op≠.select cs b){K:Act->World->Prop}{a:Act}(hy:YS P ops (λx=>Xc S w0 x) oi v a)(h:opG P ops j K (a.put oi.dst v) w):opG P ops j (λa' w'=>YS P ops (λx=>Xc S w0 x) oi v a'/\K (a'.put oi.dst v) w') a w:=by
 obtain⟨d,e,f⟩:=Oper.apart_spec hap;have keep:∀(a:Act),YS P ops (λx=>Xc S w0 x) oi v a -> ∀u,YS P ops (λx=>Xc S w0 x) oi v (a.put oj.dst u):=λa hy u=>
  hy.of_same (execOp_put oi hsi a oj.dst u f) (wanted_put oi a oj.dst u f)
 unfold opG at *;simp only[hj] at *;rw[wanted_put oj a oi.dst v d] at h;split
 ·rename_i c
  simp only[c,if_true] at h;have g:Do P oj a w (λu w'=>K ((a.put oi.dst v).put oj.dst u) w'):=by
   unfold Do at *
   rwa [execOp_put oj hsj a oi.dst v d] at h
  refine Xd2 (λu w' i=>⟨keep a hy u,?_⟩) g;rw[<-Act.put_comm a v u e];exact i
 ·rename_i c
  simp only[c] at h;exact⟨keep a hy _,by rw[<-Act.put_comm a v undef e];exact h⟩
theorem Ba.grow{i:Nat}{l:List Nat}{o:Oper}{a:Act}{K:Value->World->Prop}(ho:ops[i]?=some o)(hw:Region.wanted o (yielded ops a.tmps)=true)(hq:Do P o a w K)(h:∀v w1,K v w1->Ba P fn R ops k l (a.put o.dst v) w1):Ba P fn R ops k (i::l) a w:=by
 unfold Do at hq;split at hq
 ·rename_i u w' c;exact Ba.value ho hw (.inl c) (h _ _ hq)
 ·rename_i w' c;exact Ba.value ho hw (.inr ⟨c,rfl⟩) (h _ _ hq)
 ·rename_i fc args w' c
  obtain⟨rfl,g⟩:=hq;intro b cs q r;obtain⟨en,w1,fr,⟨v,m,s⟩,d,_,e⟩:=g (b.atR a (.inRegion ops (i::l)::k)::cs);subst m;have f:Go.step P (lone (b.atR a (.inRegion ops (i::l)::k)) cs w')=.next (lone (Frame.enter P fc args .normal) (b.atR a (.inRegion ops (i::l)::k)::cs) w'):=
   step_lone_go (by rw[Ke ho hw c (by simp)];simp[stepG.apply,c,Frame.atR])
  obtain⟨n,t,p,x,y,z,A⟩:=h v w1 s b cs q r;refine⟨n,t,p,x,.of_steps (.head f (Steps.trans d (.one ?_))) y,z,A⟩;have j:(b.atR a (.inRegion ops (i::l)::k)).finish v=b.atR (a.put o.dst v) (.inRegion ops l::k):=by
   rw[Frame.finish_atR,ho];rfl
  rw[<-j];exact step_leave_returned e
 ·exact hq.elim
def Hb(P:Program)(fn:FuncId)(R:Aim)(ops:Array Oper)(k:List Item)(q tf:Nat)(S:Nat->Prop)(w0:World):Nat->Array Bool->Act->World->Prop
 |0,L,a,w=>(∀i∈Region.ready md ops L,q<=i)/\∀w',Xc Xe w w'->Ha P fn R ops k tf L a w'
 |m+1,L,a,w=>(∃i,i∈Region.ready md ops L)/\∀w',Xc Xe w w' -> ∀i∈Region.ready md ops L,opG P ops i (λa1 w1=>Xc S w0 w1/\Hb P fn R ops k q tf S w0 m (L.setIfInBounds i true) a1 w1) a w'
theorem Hb.grown{w0:World}:∀{m:Nat} {L:Array Bool} {a:Act},Hb P fn R ops k q tf S w0 m L a w->Xc Xe w w'->Hb P fn R ops k q tf S w0 m L a w'
 |0,_,_,h,hc=>⟨h.1,λx hx=>h.2 x (hc.trans hx)⟩
 |_+1,_,_,h,hc=>⟨h.1,λx hx=>h.2 x (hc.trans hx)⟩
theorem Hb.any{w0:World}:∀{m:Nat} {L:Array Bool} {a:Act} {w:World},Hb P fn R ops k q tf S w0 m L a w->Ha P fn R ops k (m+tf) L a w
 |0,L,a,w,h=>by rw[Nat.zero_add];exact h.2 w (Xc.refl _ _)
 |m+1,L,a,w,h=>by
  rw[show m+1+tf=(m+tf)+1 from by omega];refine Ha.step h.1 λi hi t=>?_;have b:=h.2 w (Xc.refl _ _) i hi;unfold opG at b;split at b
  ·exact b.elim
  ·rename_i o d
   split at b
   ·rename_i c;exact Ba.grow d c b λv f e=>(Hb.any e.2) t
   ·rename_i c;exact Ba.skip d (by simpa using c) ((Hb.any b.2) t)
inductive Reach(ops:Array Oper):Nat->Nat->Prop
 |one {j i:Nat} {o:Oper} {e:_}:ops[j]?=some o->e∈o.after->Region.binds md e=true->e.on=i->Reach ops j i
 |step {j p i:Nat} {o:Oper} {e:_}:ops[j]?=some o->e∈o.after->Region.binds md e=true->e.on=p->Reach ops p i->Reach ops j i
def Kh(ops:Array Oper)(L:Array Bool):Prop:=∀j o,ops[j]?=some o->L.getD j false=true -> ∀e∈o.after,Region.binds md e=true->L.getD e.on false=true
theorem Reach.listed{j i:Nat}{L:Array Bool}(h:Reach ops j i)(hc:Kh ops L)(hall:∀o,ops[j]?=some o -> ∀e∈o.after,Region.binds md e=true->L.getD e.on false=true):L.getD i false=true:=by
 induction h with
 |one b c d a=>rw[<-a];exact hall _ b _ c d
 |step b c d a _ ih=>
  have f:=hall _ b _ c d;rw[a] at f;exact ih λo' g e' k l=>hc _ o' g f e' k l
theorem Kh.set{j:Nat}{L:Array Bool}(h:Kh ops L)(hr:j∈Region.ready md ops L):Kh ops (L.setIfInBounds j true):=by
 obtain⟨_,o,k,c⟩:=mem_ready.1 hr;have up:∀x,L.getD x false=true->(L.setIfInBounds j true).getD x false=true:=λx d=>by
  by_cases a:j=x
  ·subst a;rcases Nat.lt_or_ge j L.size with h'|h'
   ·simp[h']
   ·simp[Array.getElem?_eq_none h'] at d
  ·rw[getD_set_ne false a];exact d
 intro x ox b f e g i;by_cases a:j=x
 ·subst a;rw[k] at b;cases b;exact up _ (c e g i)
 ·rw[getD_set_ne false a] at f;exact up _ (h x ox b f e g i)
theorem Xhe{w0:World}{i:Nat}{oi:Oper}{v:Value}(hi:ops[i]?=some oi)(hsel:∀(j:Nat) (o:Oper) cs b,ops[j]?=some o->o.op≠.select cs b)(htail:∀j o,q<=j->ops[j]?=some o->Reach ops j i):∀(m:Nat) (L:Array Bool) (a:Act) (w:World),Xc S w0 w->Kh ops L ->
  (∀j oj,ops[j]?=some oj->j<q->j≠i->L.getD j true=false->(∀e∈oj.after,Region.binds md e=true->e.on≠i)->oi.apart ops oj=true) ->
  i∈Region.ready md ops L->YS P ops (λx=>Xc S w0 x) oi v a ->
  Hb P fn R ops k q tf S w0 m (L.setIfInBounds i true) (a.put oi.dst v) w->Hb P fn R ops k q tf S w0 (m+1) L a w:=by
 have r:∀(L:Array Bool) (_:World),Kh ops L->i∈Region.ready md ops L -> ∀j,j∈Region.ready md ops L->q<=j->False:=λL _ g h j l M=>by
  obtain⟨_,o,G,p⟩:=mem_ready.1 l;have C:=(htail j o M G).listed g (λo' D e N O=>by rw[G] at D;cases D;exact p e N O);obtain⟨f,_⟩:=mem_ready.1 h;rcases Nat.lt_or_ge i L.size with h'|h'
  ·simp[h'] at C f;rw[C] at f;cases f
  ·simp[Array.getElem?_eq_none h'] at f
 intro m
 induction m with
 |zero=>
  intro L a w t g _ h A H;refine⟨⟨i,h⟩,λw' c j l=>?_⟩;by_cases d:j=i
  ·subst d;exact A.opG hi (t.up c) λF n=>⟨(t.up c).up n,H.grown (c.trans n)⟩
  ·exact(r L w g h j l (H.1 j (ready_mono l d))).elim
 |succ m ih=>
  intro L a w t g s h A H;refine⟨⟨i,h⟩,λw' c j l=>?_⟩;by_cases d:j=i
  ·subst d;exact A.opG hi (t.up c) λF n=>⟨(t.up c).up n,H.grown (c.trans n)⟩
  ·have Q:=H.2 w' c j (ready_mono l d);obtain⟨u,oj,y,p⟩:=mem_ready.1 l;have I:j<q:=by
    rcases Nat.lt_or_ge j q with h'|h'
    ·exact h'
    ·exact(r L w g h j l h').elim
   have T:=XjX y (s j oj y I d u (Xfn h p)) (λcs b=>hsel i oi cs b hi) (λcs b=>hsel j oj cs b y) A Q;have z:∀x ox,ops[x]?=some ox->x<q->x≠i->(L.setIfInBounds j true).getD x true=false ->
    (∀e∈ox.after,Region.binds md e=true->e.on≠i)->oi.apart ops ox=true:=λx ox U J K f r=>by
    refine s x ox U J K ?_ r;by_cases E:j=x
    ·subst E;exact u
    ·rw[getD_set_ne true E] at f;exact f
   refine XjW (λa' F B=>⟨B.2.1,ih (L.setIfInBounds j true) a' F B.2.1 (g.set l) z (ready_mono h (Ne.symm d)) B.1 ?_⟩) T;rw[Array.setIfInBounds_comm _ _ d];exact B.2.2
end
def Db(i:Nat):List Nat->Bool
 |[]=>false
 |j::r=>match Nat.beq i j with
  |true=>true
  |false=>Db i r
def Xw(i:Nat):List Nat->List Nat
 |[]=>[]
 |j::r=>match Nat.beq i j with
  |true=>r
  |false=>j::Xw i r
theorem H9{i:Nat}:∀{U:List Nat},Db i U=true↔i∈U
 |[]=>by simp[Db]
 |j::r=>by
  unfold Db;cases h:Nat.beq i j with
  |true=>have:=Nat.eq_of_beq_eq_true h;subst this;simp
  |false=>
   have:i≠j:=Nat.ne_of_beq_eq_false h;simp only[List.mem_cons,this,false_or];exact H9
theorem Po{i:Nat}{U:List Nat}:Db i U=false↔i∉U:=by
 rw[<-H9];simp
theorem Ft{i j:Nat}:∀{U:List Nat},U.Nodup->(j∈Xw i U↔j∈U/\j≠i)
 |[],_=>by simp[Xw]
 |x::r,c=>by
  obtain⟨d,f⟩:=List.nodup_cons.1 c;unfold Xw;cases h:Nat.beq i x with
  |true=>
   have:=Nat.eq_of_beq_eq_true h;subst this;simp only[List.mem_cons];constructor
   ·intro hj;exact⟨.inr hj,λe=>d (e▸hj)⟩
   ·rintro⟨hj|hj,a⟩
    ·exact absurd hj a
    ·exact hj
  |false=>
   have a:i≠x:=Nat.ne_of_beq_eq_false h;simp only[List.mem_cons,Ft f];constructor
   ·rintro(rfl|⟨h3,b⟩)
    ·exact⟨.inl rfl,Ne.symm a⟩
    ·exact⟨.inr h3,b⟩
   ·rintro⟨rfl|h3,b⟩
    ·exact .inl rfl
    ·exact .inr ⟨h3,b⟩
theorem XeU{i:Nat}:∀{U:List Nat},U.Nodup->(Xw i U).Nodup
 |[],_=>by simp[Xw]
 |x::r,b=>by
  obtain⟨c,a⟩:=List.nodup_cons.1 b;unfold Xw;cases h:Nat.beq i x with
  |true=>exact a
  |false=>exact List.nodup_cons.2 ⟨λd=>c ((Ft a).1 d).1,XeU a⟩
theorem Th{i:Nat}:∀{U:List Nat},i∈U->(Xw i U).length+1=U.length
 |[],h=>by simp at h
 |x::r,h=>by
  unfold Xw;cases b:Nat.beq i x with
  |true=>rfl
  |false=>
   have a:i≠x:=Nat.ne_of_beq_eq_false b;have:i∈r:=by rcases List.mem_cons.1 h with h|h;exact absurd h a;exact h
   simp only[List.length_cons,Th this]
def Cq(s q:Nat)(U:List Nat):Array Bool:=((List.range s).map λi=>Nat.blt i q && !Db i U).toArray
theorem Kt{s q i:Nat}{U:List Nat}{d:Bool}(h:i<s):(Cq s q U).getD i d=(Nat.blt i q && !Db i U):=by
 simp[Cq,h]
theorem XaJ{s q i:Nat}{U:List Nat}(hn:U.Nodup)(hq:i<q):(Cq s q U).setIfInBounds i true=Cq s q (Xw i U):=by
 apply Array.ext
 ·simp[Cq]
 ·intro j b c;have d:j<s:=by simpa [Cq] using c
  rw[Array.getElem_setIfInBounds];split
  ·rename_i a;subst a
   have:Db i (Xw i U)=false:=Po.2 (λh=>((Ft hn).1 h).2 rfl);simp[Cq,this,hq,Nat.blt_eq]
  ·rename_i a
   have:Db j (Xw i U)=Db j U:=by
    rw[Bool.eq_iff_iff,H9,H9,Ft hn];exact⟨λh=>h.1,λh=>⟨h,Ne.symm a⟩⟩
   simp[Cq,this]
  ·simpa using b
def Gn(q:Nat)(U:List Nat)(o:Oper):Bool:=o.after.toList.all λe=>!Region.binds md e||(Nat.blt e.on q && !Db e.on U)
section
variable {P:Program}{T:Tab}{ops:Array Oper}{fn f:FuncId}{R:Aim}{k:List Item}{q tf n:Nat}{ds:List Deferred}{w w' w0:World}{e e':Env}{U:List Nat}{S:Nat->Prop}
def Nr(ops:Array Oper)(j i:Nat):Bool:=match ops[j]? with
 |some o=>o.after.any λe=>Region.binds md e && e.on == i
 |none=>false
def Vu:List Oper->List Nat->List Nat
 |[],acc=>acc
 |o::r,acc=>Vu r (acc++[o.after.toList.foldl (λm e=>bif Region.binds md e then m|||(1 <<< e.on)|||acc.getD e.on 0 else m) 0])
theorem XcK(acc:List Nat)(i:Nat):∀(l:List _) (m:Nat),(l.foldl (λm e=>bif Region.binds md e then m|||(1 <<< e.on)|||acc.getD e.on 0 else m) m).testBit i=true->m.testBit i=true\/∃e∈l,Region.binds md e=true/\(e.on=i\/(acc.getD e.on 0).testBit i=true)
 |[],m,h=>.inl h
 |e::l,m,h=>by
  rw[List.foldl_cons] at h;rcases XcK acc i l _ h with h1|⟨x,hx,hb,h2⟩
  ·cases hb:Region.binds md e with
   |false=>rw[hb] at h1;exact .inl h1
   |true=>
    rw[hb] at h1;simp only[cond_true,Nat.testBit_or,Bool.or_eq_true] at h1;rcases h1 with(h1|h1)|h1
    ·exact .inl h1
    ·rw[Nat.one_shiftLeft,Nat.testBit_two_pow] at h1;exact .inr ⟨e,by simp,hb,.inl (of_decide_eq_true h1)⟩
    ·exact .inr ⟨e,by simp,hb,.inr h1⟩
  ·exact .inr ⟨x,by simp[hx],hb,h2⟩
theorem XcL:∀(l:List Oper) (acc:List Nat),(∀j,l[j]?=ops[acc.length+j]?)->(∀j i,(acc.getD j 0).testBit i=true->Reach ops j i) -> ∀j i,((Vu l acc).getD j 0).testBit i=true->Reach ops j i
 |[],acc,_,h,j,i,a=>h j i a
 |o::r,acc,c,h,j,i,a=>by
  refine XcL r _ (λj=>?_) (λj i a=>?_) j i a
  ·have:=c (j+1);simp only[List.length_append,List.length_singleton];rw[show acc.length+1+j=acc.length+(j+1) from by omega,<-this]
   simp
  ·have d:ops[acc.length]?=some o:=by have:=c 0;simpa using this.symm
   rcases Nat.lt_trichotomy j acc.length with hj|hj|hj
   ·rw[List.getD_eq_getElem?_getD,List.getElem?_append_left hj,<-List.getD_eq_getElem?_getD] at a;exact h j i a
   ·subst hj;rw[List.getD_eq_getElem?_getD,List.getElem?_append_right (Nat.le_refl _)] at a;simp only[Nat.sub_self,List.getElem?_cons_zero,Option.getD_some] at a;rcases XcK acc i _ _ a with g|⟨e,f,b,h2|h2⟩
    ·simp at g
    ·exact .one d (by simpa using f) b h2
    ·exact .step d (by simpa using f) b rfl (h _ _ h2)
   ·rw[List.getD_eq_getElem?_getD,List.getElem?_append_right (by omega),List.getElem?_eq_none (by simp;omega)] at a;simp at a
def Zp(ops:Array Oper)(q:Nat):Bool:=
 Region.noSelect ops && Nat.ble q ops.size &&
 (List.range q).all (λi=>(List.range q).all λj=>i == j||Nr ops i j||Nr ops j i||(match ops[i]?,ops[j]? with|some a,some b=>a.apart ops b|_,_=>false)) &&
 (let A:=Vu ops.toList [];(List.range' q (ops.size-q)).all (λj=>(List.range q).all λi=>(A.getD j 0).testBit i)) &&
 Lw ops (ops.size-q) q (Cq ops.size q [])
theorem XdB{i j:Nat}{o:Oper}(ho:ops[j]?=some o)(h:Nr ops j i=true):∃e∈o.after,Region.binds md e=true/\e.on=i:=by
 unfold Nr at h;rw[ho] at h;obtain⟨e,b,a⟩:=Array.any_eq_true'.1 h;simp only[Bool.and_eq_true,beq_iff_eq] at a;exact⟨e,b,a.1,a.2⟩
theorem Ph(h:Zp ops q=true):Region.noSelect ops=true/\q<=ops.size/\
 (∀i j oi oj,i<q->j<q->i≠j->ops[i]?=some oi->ops[j]?=some oj->Nr ops i j=true\/Nr ops j i=true\/oi.apart ops oj=true)/\
 (∀j o i,q<=j->ops[j]?=some o->i<q->Reach ops j i)/\Lw ops (ops.size-q) q (Cq ops.size q [])=true:=by
 unfold Zp at h;simp only[Bool.and_eq_true] at h;obtain⟨⟨⟨⟨e,f⟩,g⟩,k⟩,l⟩:=h;refine⟨e,by simpa [Nat.ble_eq] using f,λi j oi oj hi a b c d=>?_,λj o i a m hi=>?_,l⟩
 ·have:=List.all_eq_true.1 (List.all_eq_true.1 g i (by simpa using hi)) j (by simpa using a);rw[c,d] at this;simp only[Bool.or_eq_true,beq_iff_eq] at this;rcases this with((h|h)|h)|h
  ·exact absurd h b
  ·exact .inl h
  ·exact .inr (.inl h)
  ·exact .inr (.inr h)
 ·have n:=(Array.getElem?_eq_some_iff.1 m).1;exact XcL ops.toList [] (λx=>by simp) (λx y h=>by simp at h) j i (List.all_eq_true.1 (List.all_eq_true.1 k j (by rw[List.mem_range'];exact⟨j-q,by omega,by omega⟩)) i (by simpa using hi))
def Nd(ops:Array Oper)(q:Nat)(U:List Nat):Prop:=U.Nodup/\Kh ops (Cq ops.size q U)
theorem Nd.rm{i:Nat}(h:Nd ops q U)(hq:i<q)(hr:i∈Region.ready md ops (Cq ops.size q U)):Nd ops q (Xw i U):=⟨XeU h.1,by rw[<-XaJ h.1 hq];exact h.2.set hr⟩
def Vm(ops:Array Oper)(q:Nat)(U:List Nat)(i:Nat):Prop:=Nd ops q U/\i∈Region.ready md ops (Cq ops.size q U)
theorem Vm.rm{i:Nat}(h:Vm ops q U i)(hq:i<q):Nd ops q (Xw i U):=h.1.rm hq h.2
def Xd(P:Program)(f:FuncId)(R:Aim)(n:Nat)(ds:List Deferred)(k:List Item)(ops:Array Oper)(q:Nat)(S:Nat->Prop)(U:List Nat)(e:Env)(w0 w:World):Prop:=
 ∀a:Act,a.defers=ds->X8 n a e->Nd ops q U->(∀i∈U,i<q)->Xc S w0 w->Hb P f R ops k q (ops.size-q) S w0 U.length (Cq ops.size q U) a w
theorem Xap(hB:Zp ops q=true){i:Nat}{o:Oper}(ho:Ap ops.toList i=some o)(hU:i∈U)(hq:i<q)(h:Gn q U o=true):i∈Region.ready md ops (Cq ops.size q U):=by
 obtain⟨_,c,_⟩:=Ph hB;refine mem_ready.2 ⟨?_,o,Bg ho,λe a b=>?_⟩
 ·rw[Kt (by omega),H9.2 hU];simp
 ·have:=List.all_eq_true.1 h e (by simpa using a);rw[b] at this;simp only[Bool.not_true,Bool.false_or,Bool.and_eq_true,Nat.blt_eq] at this;rw[Kt (by omega)];simp only[Bool.and_eq_true,Nat.blt_eq];exact this
theorem Xkz(hB:Zp ops q=true)(hn:Nd ops q U)(hU:U≠[])(hlt:∀i∈U,i<q){i:Nat}(h:i∈Region.ready md ops (Cq ops.size q U)):i∈U/\∃o,Ap ops.toList i=some o/\Gn q U o=true:=by
 obtain⟨_,u,_,f,_⟩:=Ph hB;obtain⟨k,o,g,b⟩:=mem_ready.1 h;have l:=(Array.getElem?_eq_some_iff.1 g).1;have key:∀e∈o.after,Region.binds md e=true->e.on<q/\e.on∉U:=λe c d=>by
  have a:=b e c d;by_cases m:e.on<ops.size
  ·rw[Kt m] at a;simp only[Bool.and_eq_true,Nat.blt_eq,Bool.not_eq_true'] at a;exact⟨a.1,Po.1 a.2⟩
  ·simp[Cq,m] at a
 have n:i<q:=by
  rcases Nat.lt_or_ge i q with h'|h'
  ·exact h'
  ·cases U with
   |nil=>exact absurd rfl hU
   |cons x r=>
    have p:=(f i o x h' g (hlt x (by simp))).listed hn.2 (λo' j e c d=>by rw[g] at j;cases j;exact b e c d);have v:=hlt x (by simp);rw[Kt (by omega)] at p;simp[Db] at p
 rw[Kt l] at k;refine⟨?_,o,by rw[XaT];simpa using g,?_⟩
 ·have a:(Nat.blt i q)=true:=by simpa [Nat.blt_eq] using n
  rw[a] at k;exact H9.1 (by simpa using k)
 ·unfold Gn;rw[List.all_eq_true];intro e c;cases d:Region.binds md e with
  |false=>rfl
  |true=>
   obtain⟨s,t⟩:=key e (by simpa using c) d;simp only[Bool.not_true,Bool.false_or,Bool.and_eq_true,Nat.blt_eq,Bool.not_eq_true'];exact⟨s,Po.2 t⟩
theorem Xd.first(hB:Zp ops q=true){i:Nat}{o:Oper}{v:Value}(ho:Ap ops.toList i=some o)(hU:i∈U)(hfree:Gn q U o=true)(hy:∀a,X8 n a e->YS P ops (λx=>Xc S w0 x) o v a)(hfit:∀a:Act,X8 n a e->X8 n (a.put o.dst v) e')(h:Xd P f R n ds k ops q S (Xw i U) e' w0 w):Xd P f R n ds k ops q S U e w0 w:=by
 obtain⟨t,H,g,m,_⟩:=Ph hB;intro a G B p r C;have b:=r i hU;have u:=Th hU;rw[<-u];refine Xhe (Bg ho) (Region.noSelect_spec t) (λj oj y c=>m j oj i y c b) _ _ a w C p.2 (λj oj c s D d E=>?_) (Xap hB ho hU b hfree) (hy a B) ?_
 ·have F:=(Array.getElem?_eq_some_iff.1 c).1
  ·rcases g i j o oj b s (Ne.symm D) (Bg ho) c with h1|h1|h1
   ·exfalso
    obtain⟨x,z,A,l⟩:=XdB (Bg ho) h1;have:=List.all_eq_true.1 hfree x (by simpa using z);rw[A] at this;simp only[Bool.not_true,Bool.false_or,Bool.and_eq_true,Nat.blt_eq,Bool.not_eq_true',l] at this;rw[Kt F,this.2] at d;simp only[Bool.not_false,Bool.and_true] at d;rw[show Nat.blt j q=true from by simpa [Nat.blt_eq] using s] at d;cases d
   ·exfalso
    obtain⟨x,z,A,l⟩:=XdB c h1;exact E x z A l
   ·exact h1
 ·rw[XaJ p.1 b];exact h _ (by cases o.dst <;> exact G) (hfit a B) (p.rm b (Xap hB ho hU b hfree)) (λj y=>r j ((Ft p.1).1 y).1) C
theorem Xd.weaken(h:Xd P f R n ds k ops q S U e' w0 w)(hs:∀t v,look e' t=some v->look e t=some v):Xd P f R n ds k ops q S U e w0 w:=λa b c=>h a b (c.weaken hs)
theorem Xd.know{t:Nat}{b:Bool}{v:Value}(h:look e t=some v)(hg:Xd P f R n ds k ops q S U ((t,b,v)::e) w0 w):Xd P f R n ds k ops q S U e w0 w:=
 hg.weaken λu x a=>by
  rw[Ic] at a;by_cases c:u=t
  ·subst c;rw[if_pos rfl] at a;rw[h,a]
  ·rwa [if_neg c] at a
theorem Xd.one(hB:Zp ops q=true){i:Nat}{o:Oper}{v:Value}{fl:Bool}(ho:Ap ops.toList i=some o)(hU:i∈U)(hfree:Gn q U o=true)(hw:C7 e ops o=some true)(hp:Ey n o.dst fl v e=some e')(hrun:∀a w',Xc S w0 w'->X8 n a e->Dh P o a w' v)(h:Xd P f R n ds k ops q S (Xw i U) e' w0 w):Xd P f R n ds k ops q S U e w0 w:=
 Xd.first hB ho hU hfree (λa b=>.inl ⟨C8 b hw,λw' c=>hrun a w' c b⟩) (λa b=>Ez hp a b) h
theorem Xd.skip(hB:Zp ops q=true){i:Nat}{o:Oper}{fl:Bool}(ho:Ap ops.toList i=some o)(hU:i∈U)(hfree:Gn q U o=true)(hw:C7 e ops o=some false)(hp:Ey n o.dst fl undef e=some e')(h:Xd P f R n ds k ops q S (Xw i U) e' w0 w):Xd P f R n ds k ops q S U e w0 w:=
 Xd.first hB ho hU hfree (λa b=>.inr ⟨C8 b hw,rfl⟩) (λa b=>Ez hp a b) h
def Zu(T:Tab)(n:Nat)(ops:Array Oper)(q:Nat):List Nat->List Nat->Env->List Nat×Env
 |[],U,e=>(U,e)
 |i::r,U,e=>match Ap ops.toList i with
  |none=>Zu T n ops q r U e
  |some o=>match Db i U && Gn q U o with
   |false=>Zu T n ops q r U e
   |true=>match C7 e ops o with
    |some false=>match Ey n o.dst true undef e with
     |some e'=>Zu T n ops q r (Xw i U) e'
     |none=>Zu T n ops q r U e
    |some true=>match P4 T e o.op with
     |some v=>match Ey n o.dst (opF e o.op) v e with
      |some e'=>Zu T n ops q r (Xw i U) e'
      |none=>Zu T n ops q r U e
     |none=>Zu T n ops q r U e
    |none=>Zu T n ops q r U e
theorem Jp(hT:Xq P T)(hB:Zp ops q=true):∀(l U:List Nat) (e:Env),Xd P f R n ds k ops q S (Zu T n ops q l U e).1 (Zu T n ops q l U e).2 w0 w->Xd P f R n ds k ops q S U e w0 w
 |[],U,e,h=>h
 |i::r,U,e,h=>by
  unfold Zu at h;split at h
  ·exact Jp hT hB r U e h
  ·rename_i o g
   split at h
   ·exact Jp hT hB r U e h
   ·rename_i b
    simp only[Bool.and_eq_true] at b;obtain⟨j,b⟩:=b;split at h
    ·rename_i c
     split at h
     ·rename_i e' d;exact Xd.skip hB g (H9.1 j) b c d (Jp hT hB r _ e' h)
     ·exact Jp hT hB r U e h
    ·rename_i c
     split at h
     ·rename_i v m
      split at h
      ·rename_i e' d
       exact Xd.one hB g (H9.1 j) b c d (λa w' _ p=>by unfold Dh;rw[XaW hT p m w'];exact⟨rfl,rfl⟩) (Jp hT hB r _ e' h)
      ·exact Jp hT hB r U e h
     ·exact Jp hT hB r U e h
    ·exact Jp hT hB r U e h
theorem Xd.adv(hT:Xq P T)(hB:Zp ops q=true){U':List Nat}(h:Zu T n ops q U U e=(U',e'))(hg:Xd P f R n ds k ops q S U' e' w0 w):Xd P f R n ds k ops q S U e w0 w:=Jp hT hB U U e (by rw[h];exact hg)
def Ae{δ:Type}(g:Oper->Option δ)(n:Nat)(ops:Array Oper)(q:Nat)(U:List Nat)(e:Env):List Nat->Option (δ×Nat×Nat)
 |[]=>none
 |i::r=>match Ap ops.toList i with
  |none=>Ae g n ops q U e r
  |some o=>match Gn q U o with
   |false=>Ae g n ops q U e r
   |true=>match C7 e ops o with
    |some true=>match o.dst with
     |some d=>match Nat.blt d n with
      |true=>match g o with
       |some x=>some (x,d,i)
       |none=>Ae g n ops q U e r
      |false=>Ae g n ops q U e r
     |none=>Ae g n ops q U e r
    |_=>Ae g n ops q U e r
theorem XdP{δ:Type}{g:Oper->Option δ}{x:δ}{d i:Nat}:∀{l:List Nat},Ae g n ops q U e l=some (x,d,i)->i∈l/\∃o,Ap ops.toList i=some o/\Gn q U o=true/\C7 e ops o=some true/\o.dst=some d/\Nat.blt d n=true/\g o=some x
 |[],h=>by simp[Ae] at h
 |j::r,h=>by
  have rec':Ae g n ops q U e r=some (x,d,i)->i∈j::r/\∃o,Ap ops.toList i=some o/\Gn q U o=true/\C7 e ops o=some true/\o.dst=some d/\Nat.blt d n=true/\g o=some x:=λh=>by
   obtain⟨c,f⟩:=XdP h;exact⟨.tail _ c,f⟩
  unfold Ae at h;split at h
  ·exact rec' h
  ·rename_i o k
   split at h
   ·exact rec' h
   ·rename_i a
    split at h
    ·rename_i m
     split at h
     ·rename_i t p
      split at h
      ·rename_i b
       split at h
       ·rename_i y s;cases h;exact⟨.head _,o,k,a,m,p,b,s⟩
       ·exact rec' h
      ·exact rec' h
     ·exact rec' h
    ·exact rec' h
theorem J2{d:Nat}{v:Value}(h:Nat.blt d n=true):Ey n (some d) false v e=some ((d,false,v)::e):=by
 rw[Xbg];unfold Md;simp only[h];rfl
theorem Xd.valQ(hT:Xq P T)(hB:Zp ops q=true){δ:Type}{g:Oper->Option δ}{x:δ}{d i:Nat}{v:Value}{U2:List Nat}{e2:Env}(h:Ae g n ops q U e U=some (x,d,i))(hrun:∀o,g o=some x -> ∀a w',Xc S w0 w'->X8 n a e->Dh P o a w' v)(ha:Zu T n ops q (Xw i U) (Xw i U) ((d,false,v)::e)=(U2,e2))(hg:Xd P f R n ds k ops q S U2 e2 w0 w):Xd P f R n ds k ops q S U e w0 w:=by
 obtain⟨j,o,l,b,m,p,c,r⟩:=XdP h;exact Xd.one hB l j b m (by rw[p];exact J2 c) (hrun o r) (Xd.adv hT hB ha hg)
theorem Xd.val(hT:Xq P T)(hB:Zp ops q=true){δ:Type}{g:Oper->Option δ}{x:δ}{d i:Nat}{v:Value}{U2:List Nat}{e2:Env}(h:Ae g n ops q U e U=some (x,d,i))(hrun:∀o,g o=some x -> ∀a w',Xc S w0 w'->X8 n a e->(execOp a.eval o).run P w'=.ok (.value v) w')(ha:Zu T n ops q (Xw i U) (Xw i U) ((d,false,v)::e)=(U2,e2))(hg:Xd P f R n ds k ops q S U2 e2 w0 w):Xd P f R n ds k ops q S U e w0 w:=
 Xd.valQ hT hB h (λo c a w' b j=>by unfold Dh;rw[hrun o c a w' b j];exact⟨rfl,rfl⟩) ha hg
theorem Xd.arith(hT:Xq P T)(hB:Zp ops q=true){kk:IntKind}{z z':Int}{d i:Nat}{U2:List Nat}{e2:Env}(h:Ae (Lk T e) n ops q U e U=some ((kk,z),d,i))(hz:kk.wrap z=z')(ha:Zu T n ops q (Xw i U) (Xw i U) ((d,false,.int kk z')::e)=(U2,e2))(hg:Xd P f R n ds k ops q S U2 e2 w0 w):Xd P f R n ds k ops q S U e w0 w:=
 Xd.val hT hB h (λ_ b a w' _ c=>V1 hT b hz a c w') ha hg
theorem Xd.div(hT:Xq P T)(hB:Zp ops q=true){p:Bool}{kk:IntKind}{x y z:Int}{d i:Nat}{U2:List Nat}{e2:Env}(h:Ae (Pf e) n ops q U e U=some ((p,kk,x,y),d,i))(hy:y≠0)(hz:Ko p kk x y=z)(ha:Zu T n ops q (Xw i U) (Xw i U) ((d,false,.int kk z)::e)=(U2,e2))(hg:Xd P f R n ds k ops q S U2 e2 w0 w):Xd P f R n ds k ops q S U e w0 w:=
 Xd.val hT hB h (λ_ b a w' _ c=>Xaj b hy hz a c w') ha hg
theorem Xd.index(hT:Xq P T)(hB:Zp ops q=true){b off len sz d j i:Nat}{x:Int}{U2:List Nat}{e2:Env}(h:Ae (Lz T e) n ops q U e U=some ((b,off,len,sz,x),d,i))(h0:0<=x)(h1:x<len)(hj:x.toNat*sz=j)(ha:Zu T n ops q (Xw i U) (Xw i U) ((d,false,.pointer (some ⟨b,off+j,none⟩))::e)=(U2,e2))(hg:Xd P f R n ds k ops q S U2 e2 w0 w):Xd P f R n ds k ops q S U e w0 w:=
 Xd.val hT hB h (λ_ c a w' _ g=>Xav hT c h0 h1 hj a g w') ha hg
theorem Xd.load(hT:Xq P T)(hB:Zp ops q=true){b off d i:Nat}{v:Value}{U2:List Nat}{e2:Env}(h:Ae (Bz T e) n ops q U e U=some ((b,off,none),d,i))(hc:w0.cell? ⟨b,off,none⟩=some v)(hS:¬S b)(ha:Zu T n ops q (Xw i U) (Xw i U) ((d,false,v)::e)=(U2,e2))(hg:Xd P f R n ds k ops q S U2 e2 w0 w):Xd P f R n ds k ops q S U e w0 w:=
 Xd.val hT hB h (λ_ g a _ c j=>Pt hT g (c.cell hc hS) a j) ha hg
theorem Xd.loadb(hT:Xq P T)(hB:Zp ops q=true){b off d i:Nat}{v:Value}{c:List Value}{t:TypeId}{fz:Nat×Nat}{U2:List Nat}{e2:Env}(h:Ae (Bz T e) n ops q U e U=some ((b,off,none),d,i))(hc:w0.heap[b]?=some (.cells c.toArray t fz))(hS:¬S b)(hv:Gt c off=some v)(ha:Zu T n ops q (Xw i U) (Xw i U) ((d,false,v)::e)=(U2,e2))(hg:Xd P f R n ds k ops q S U2 e2 w0 w):Xd P f R n ds k ops q S U e w0 w:=
 Xd.load hT hB h (Es hc hv) hS ha hg
theorem Xd.loads(hT:Xq P T)(hB:Zp ops q=true){b off m d i:Nat}{c vs:List Value}{t:TypeId}{fz:Nat×Nat}{U2:List Nat}{e2:Env}(h:Ae (Bz T e) n ops q U e U=some ((b,off,some m),d,i))(hc:w0.heap[b]?=some (.cells c.toArray t fz))(hS:¬S b)(hv:Dn c off m=some vs)(ha:Zu T n ops q (Xw i U) (Xw i U) ((d,false,.agg vs.toArray)::e)=(U2,e2))(hg:Xd P f R n ds k ops q S U2 e2 w0 w):Xd P f R n ds k ops q S U e w0 w:=
 Xd.val hT hB h (λ_ j a _ g l=>Pu hT j (g.heap hc hS) hv a l) ha hg
theorem Xd.build(hT:Xq P T)(hB:Zp ops q=true){vs:List Value}{d i:Nat}{U2:List Nat}{e2:Env}(h:Ae (Ng T e) n ops q U e U=some (vs,d,i))(ha:Zu T n ops q (Xw i U) (Xw i U) ((d,false,.agg vs.toArray)::e)=(U2,e2))(hg:Xd P f R n ds k ops q S U2 e2 w0 w):Xd P f R n ds k ops q S U e w0 w:=
 Xd.val hT hB h (λ_ b a w' _ c=>Wx hT b a c w') ha hg
theorem Xd.slice(hT:Xq P T)(hB:Zp ops q=true){b:Option Addr}{len cap sz l h d i:Nat}{lo hi:Option Int}{U2:List Nat}{e2:Env}(ho:Ae (R3 T e) n ops q U e U=some ((b,len,cap,lo,hi,sz),d,i))(hl:B7 lo=l)(hh:B5 len hi=h)(h1:l<=h)(h2:h<=cap)(ha:Zu T n ops q (Xw i U) (Xw i U) ((d,false,.slice (Q6 b cap l sz) (h-l) (cap-l))::e)=(U2,e2))(hg:Xd P f R n ds k ops q S U2 e2 w0 w):Xd P f R n ds k ops q S U e w0 w:=
 Xd.val hT hB ho (λ_ ho a w' _ c=>XbK hT ho hl hh h1 h2 a c w') ha hg
theorem Xd.call(hT:Xq P T)(hB:Zp ops q=true){fk d i:Nat}{as:List Value}{v:Value}{U2:List Nat}{e2:Env}(h:Ae (E4 e) n ops q U e U=some ((fk,as),d,i))(hd:∀w',Xc S w0 w'->Xf P fk as.toArray w' (λu w2=>u=v/\Xc Xe w' w2))(ha:Zu T n ops q (Xw i U) (Xw i U) ((d,false,v)::e)=(U2,e2))(hg:Xd P f R n ds k ops q S U2 e2 w0 w):Xd P f R n ds k ops q S U e w0 w:=
 Xd.valQ hT hB h (λo g a w' b j=>by
  have c:=hd w' b;unfold Dh;rw[Sw g c.fn a j];exact⟨rfl,c.calls.mono λen w2 ⟨u,l,m,p⟩=>⟨by rw[l,m],p⟩⟩) ha hg
def I1(ops:Array Oper)(q:Nat)(U:List Nat)(e:Env):List Nat->Option (Nat×Bool)
 |[]=>none
 |i::r=>match Ap ops.toList i with
  |none=>I1 ops q U e r
  |some o=>match Gn q U o with
   |false=>I1 ops q U e r
   |true=>match C7 e ops o with
    |some false=>I1 ops q U e r
    |_=>match Nc ops [o] e with
     |some x=>some x
     |none=>I1 ops q U e r
theorem L2{t:Nat}{p:Bool}:∀{l:List Nat},I1 ops q U e l=some (t,p)->look e t=some (.bool p)
 |[],h=>by simp[I1] at h
 |j::r,h=>by
  unfold I1 at h;split at h
  ·exact L2 h
  ·split at h
   ·exact L2 h
   ·split at h
    ·exact L2 h
    ·split at h
     ·rename_i x hx;cases h;exact Tm hx
     ·exact L2 h
theorem Xd.fork(hT:Xq P T)(hB:Zp ops q=true){t:Nat}{p:Bool}{U1 U2:List Nat}{e1 e2:Env}(h:I1 ops q U e U=some (t,p))(ha:Zu T n ops q U U ((t,true,.bool true)::e)=(U1,e1))(hb:Zu T n ops q U U ((t,true,.bool false)::e)=(U2,e2))(ht:p=true->Xd P f R n ds k ops q S U1 e1 w0 w)(hf:p=false->Xd P f R n ds k ops q S U2 e2 w0 w):Xd P f R n ds k ops q S U e w0 w:=by
 have a:=L2 h;cases p with
 |true=>exact(Xd.adv hT hB ha (ht rfl)).know a
 |false=>exact(Xd.adv hT hB hb (hf rfl)).know a
theorem Xd.yes(hT:Xq P T)(hB:Zp ops q=true){t:Nat}{p:Bool}{U1:List Nat}{e1:Env}(h:I1 ops q U e U=some (t,p))(hp:p=true)(ha:Zu T n ops q U U ((t,true,.bool true)::e)=(U1,e1))(hg:Xd P f R n ds k ops q S U1 e1 w0 w):Xd P f R n ds k ops q S U e w0 w:=by
 subst hp;exact(Xd.adv hT hB ha hg).know (L2 h)
theorem Xd.no(hT:Xq P T)(hB:Zp ops q=true){t:Nat}{p:Bool}{U1:List Nat}{e1:Env}(h:I1 ops q U e U=some (t,p))(hp:p=false)(ha:Zu T n ops q U U ((t,true,.bool false)::e)=(U1,e1))(hg:Xd P f R n ds k ops q S U1 e1 w0 w):Xd P f R n ds k ops q S U e w0 w:=by
 subst hp;exact(Xd.adv hT hB ha hg).know (L2 h)
def Co(ops:Array Oper)(q:Nat)(U:List Nat):List Nat->List Nat
 |[]=>[]
 |i::r=>match Ap ops.toList i with
  |none=>Co ops q U r
  |some o=>match Gn q U o with
   |true=>i::Co ops q U r
   |false=>Co ops q U r
theorem Lx{i:Nat}:∀{l:List Nat},i∈Co ops q U l↔i∈l/\∃o,Ap ops.toList i=some o/\Gn q U o=true
 |[]=>by simp[Co]
 |j::r=>by
  unfold Co;split
  ·rename_i h
   rw[Lx];constructor
   ·rintro⟨h1,h2⟩;exact⟨.tail _ h1,h2⟩
   ·rintro⟨h1,o,ho,h2⟩;rcases List.mem_cons.1 h1 with rfl|h1
    ·rw[h] at ho;cases ho
    ·exact⟨h1,o,ho,h2⟩
  ·rename_i o ho
   split
   ·rename_i hf
    rw[List.mem_cons,Lx];constructor
    ·rintro(rfl|⟨h1,h2⟩)
     ·exact⟨.head _,o,ho,hf⟩
     ·exact⟨.tail _ h1,h2⟩
    ·rintro⟨h1,h2⟩;rcases List.mem_cons.1 h1 with rfl|h1
     ·exact .inl rfl
     ·exact .inr ⟨h1,h2⟩
   ·rename_i hf
    rw[Lx];constructor
    ·rintro⟨h1,h2⟩;exact⟨.tail _ h1,h2⟩
    ·rintro⟨h1,o',ho',h2⟩;rcases List.mem_cons.1 h1 with rfl|h1
     ·rw[ho] at ho';cases ho';rw[hf] at h2;cases h2
     ·exact⟨h1,o',ho',h2⟩
def Xp(P:Program)(f:FuncId)(R:Aim)(n:Nat)(ds:List Deferred)(k:List Item)(ops:Array Oper)(q:Nat)(S:Nat->Prop)(U:List Nat)(i:Nat)(e:Env)(w0 w:World):Prop:=
 ∀a:Act,a.defers=ds->X8 n a e->Vm ops q U i->(∀j∈U,j<q)->i∈U->Xc S w0 w->opG P ops i (λa1 w1=>Xc S w0 w1/\Hb P f R ops k q (ops.size-q) S w0 (Xw i U).length (Cq ops.size q (Xw i U)) a1 w1) a w
theorem Xd.turns(hB:Zp ops q=true){i0:Nat}{I:List Nat}(h:Co ops q U U=i0::I)(hall:∀w',Xc Xe w w' -> ∀i∈i0::I,Xp P f R n ds k ops q S U i e w0 w'):Xd P f R n ds k ops q S U e w0 w:=by
 intro a v x j b p;have y:i0∈Co ops q U U:=by rw[h];simp
 obtain⟨c,A,r,s⟩:=Lx.1 y;have t:U≠[]:=by intro l;subst l;simp at c
 have m:=Th c;rw[<-m];refine⟨⟨i0,Xap hB r c (b _ c) s⟩,λw' g i hi=>?_⟩;obtain⟨d,o,z,u⟩:=Xkz hB j t b hi;have:=hall w' g i (by rw[<-h];exact Lx.2 ⟨d,o,z,u⟩) a v x ⟨j,hi⟩ b d (p.up g);rw[XaJ j.1 (b _ d)];have l:(Xw i0 U).length=(Xw i U).length:=by have:=Th d;omega
 rw[l];exact this
theorem Xd.turn1(hB:Zp ops q=true){i:Nat}(h:Co ops q U U=[i])(h1:∀w',Xc Xe w w'->Xp P f R n ds k ops q S U i e w0 w'):Xd P f R n ds k ops q S U e w0 w:=
 Xd.turns hB h λw' a j b=>by simp at b;subst b;exact h1 w' a
theorem Xd.turn2(hB:Zp ops q=true){i j:Nat}(h:Co ops q U U=[i,j])(h1:∀w',Xc Xe w w'->Xp P f R n ds k ops q S U i e w0 w')(h2:∀w',Xc Xe w w'->Xp P f R n ds k ops q S U j e w0 w'):Xd P f R n ds k ops q S U e w0 w:=
 Xd.turns hB h λw' a x hx=>by
  rcases List.mem_cons.1 hx with rfl|hx
  ·exact h1 w' a
  ·simp at hx;subst hx;exact h2 w' a
def Bx{δ:Type}(g:Oper->Option δ)(n:Nat)(ops:Array Oper)(e:Env)(i:Nat):Option (δ×Nat):=
 match Ap ops.toList i with
 |some o=>match C7 e ops o with
  |some true=>match o.dst with
   |some d=>match Nat.blt d n with
    |true=>match g o with
     |some x=>some (x,d)
     |none=>none
    |false=>none
   |none=>none
  |_=>none
 |none=>none
theorem Kj{δ:Type}{g:Oper->Option δ}{x:δ}{d i:Nat}(h:Bx g n ops e i=some (x,d)):∃o,Ap ops.toList i=some o/\C7 e ops o=some true/\o.dst=some d/\Nat.blt d n=true/\g o=some x:=by
 unfold Bx at h;split at h
 ·rename_i o b
  split at h
  ·rename_i c
   split at h
   ·rename_i k f
    split at h
    ·rename_i a
     split at h
     ·rename_i y j;cases h;exact⟨o,b,c,f,a,j⟩
     ·cases h
    ·cases h
   ·cases h
  ·cases h
 ·cases h
theorem Xp.val(hT:Xq P T)(hB:Zp ops q=true){δ:Type}{g:Oper->Option δ}{x:δ}{d i:Nat}{v:Value}{w1:World}{U2:List Nat}{e2:Env}(h:Bx g n ops e i=some (x,d))(hrun:∀o,g o=some x -> ∀a,X8 n a e->(execOp a.eval o).run P w=.ok (.value v) w1)(hc:Xc S w0 w->Xc S w0 w1)(ha:Zu T n ops q (Xw i U) (Xw i U) ((d,false,v)::e)=(U2,e2))(hg:Xd P f R n ds k ops q S U2 e2 w0 w1):Xp P f R n ds k ops q S U i e w0 w:=by
 obtain⟨o,s,t,u,c,y⟩:=Kj h;intro a l b m p z r;unfold opG;rw[Bg s];simp only[C8 b t,if_true];unfold Do;rw[hrun o y a b];exact⟨hc r,Xd.adv hT hB ha hg _ (by cases o.dst <;> exact l) (Ez (by rw[u];exact J2 c) a b) (m.rm (p _ z)) (λj A=>p j ((Ft m.1.1).1 A).1) (hc r)⟩
theorem Xp.alloc(hT:Xq P T)(hB:Zp ops q=true){l:List Value}{t d i:Nat}{U2:List Nat}{e2:Nat->Env}(h:Bx (H6 T e) n ops e i=some ((l,t),d))(ha:∀b,Zu T n ops q (Xw i U) (Xw i U) ((d,false,.pointer (some ⟨b,0,none⟩))::e)=(U2,e2 b))(hg:∀b w1,b=w.heap.size->w1.heap[b]?=some (.cells l.toArray t (0,0))->Xc Xe w w1->w1.heap.size=w.heap.size+1->Xd P f R n ds k ops q S U2 (e2 b) w0 w1):Xp P f R n ds k ops q S U i e w0 w:=
 Xp.val hT hB h (λ_ c a g=>Sg hT c a g) (λh=>h.up (Ea _ _)) (ha _) (hg _ _ rfl (by simp) (Ea _ _) (by simp))
theorem Xp.buildSlice(hT:Xq P T)(hB:Zp ops q=true){vs:List Value}{t len d i:Nat}{U2:List Nat}{e2:Nat->Env}(h:Bx (Su T e) n ops e i=some ((vs,t,len),d))(ha:∀b,Zu T n ops q (Xw i U) (Xw i U) ((d,false,.slice (some ⟨b,0,none⟩) len len)::e)=(U2,e2 b))(hg:∀b w1,b=w.heap.size->w1.heap[b]?=some (.cells vs.toArray t (0,0))->Xc Xe w w1->w1.heap.size=w.heap.size+1->Xd P f R n ds k ops q S U2 (e2 b) w0 w1):Xp P f R n ds k ops q S U i e w0 w:=
 Xp.val hT hB h (λ_ c a g=>Xc4 hT c a g w) (λh=>h.up (Ea _ _)) (ha _) (hg _ _ rfl (by simp) (Ea _ _) (by simp))
theorem Xp.call{fk d i:Nat}{as:List Value}{Post:Value->World->Prop}(h:Bx (E4 e) n ops e i=some ((fk,as),d))(hk:Mw P fk)(hd:Xc S w0 w->Xf P fk as.toArray w (λv w2=>Xc S w0 w2/\Post v w2))(hg:∀v w1,Xc S w0 w1->Post v w1->Xd P f R n ds k ops q S (Xw i U) ((d,false,v)::e) w0 w1):Xp P f R n ds k ops q S U i e w0 w:=by
 obtain⟨o,t,u,b,l,x⟩:=Kj h;intro a m c p r y z;unfold opG;rw[Bg t];simp only[C8 c u,if_true];unfold Do;rw[Sw x hk a c];exact⟨rfl,(hd z).calls.mono λen w2 ⟨v,s,g,A⟩=>⟨v,s,g,hg v w2 g A _ (by cases o.dst <;> exact m) (Ez (by rw[b];exact J2 l) a c) (p.rm (r _ y)) (λj B=>r j ((Ft p.1.1).1 B).1) g⟩⟩
theorem Xd.nil(hB:Zp ops q=true)(h:∀w',Xc Xe w w'->Xa P f R n ds (.inRegion ops (List.range' q (ops.size-q))::k) e w'):Xd P f R n ds k ops q S [] e w0 w:=by
 obtain⟨_,v,_,l,c⟩:=Ph hB;intro a m p _ _ _;refine⟨λi hi=>?_,λw' g t=>?_⟩
 ·obtain⟨d,o,r,_⟩:=mem_ready.1 hi;have j:=(Array.getElem?_eq_some_iff.1 r).1;rw[Kt j] at d;rcases Nat.lt_or_ge i q with h1|h1
  ·rw[show Nat.blt i q=true from by simpa [Nat.blt_eq] using h1] at d;simp[Db] at d
  ·exact h1
 ·rw[Xao _ _ _ c t];intro b cs s u;exact h w' g b cs a s u m p
theorem Xa.drawn(S:Nat->Prop)(hT:Xq P T)(hm:P.follows .mixedOrders=true){id:Nat}{U2:List Nat}{e2:Env}(hB:Zp ops q=true)(ha:Zu T n ops q (List.range q) (List.range q) e=(U2,e2))(h':Zp ops q=true->Xd P f R n ds k ops q S U2 e2 w w):Xa P f R n ds (.code (.region id ops true)::k) e w:=by
 have h:=h' hB;obtain⟨s,C,_⟩:=Ph hB;intro b cs a t u v x;have g:Kh ops (Cq ops.size q (List.range q)):=λj o y d=>by
  have l:=(Array.getElem?_eq_some_iff.1 y).1;rw[Kt l] at d;simp only[Bool.and_eq_true,Nat.blt_eq,Bool.not_eq_true'] at d;exact absurd (by simpa using d.1) (Po.1 d.2)
 have m:=Xd.adv hT hB ha h a v x ⟨List.nodup_range,g⟩ (λi hi=>by simpa using hi) (Xc.refl _ _);have z:Cq ops.size q (List.range q)=Array.replicate ops.size false:=by
  apply Array.ext
  ·simp[Cq]
  ·intro i p r;have:Db i (List.range q)=Nat.blt i q:=by rw[Bool.eq_iff_iff,H9,Nat.blt_eq];simp
   simp[Cq,this]
 rw[z,List.length_range] at m;have c:=(m.grown ((Xc.refl _ _).drew _)).any (w:={w with drawn:=w.drawn+1});rw[show q+(ops.size-q)=ops.size from by omega] at c;obtain⟨en,w',fr,A,B,p,r⟩:=c (w.tape w.drawn (.order b.fn id)) b cs t u;refine⟨en,w',fr,A,.of_steps (.one ?_) B,p,r⟩;rw[stepR_region_draw];simp only[Region.schedule,hm,Bool.true_or,if_true];rfl
end
end Go.Proofs.YtohjeeapehmkcaaGreatDoor
