/-
  Rule5
-/
import Derived.Test.YtdeihcnepljjaaaGreatDoorQRule4
namespace Go.Proofs.YtdeihcnepljjaaaGreatDoor
open Go.RowKit
section
variable {P:Program}{T:Tab}{ops:Array Oper}{fn f:FuncId}{R:Aim}{k:List Item}{q tf n:Nat}{ds:List Deferred}{w w':World}{e e':Env}{S:Nat->Prop}
def Eh(P:Program)(o:Oper)(a:Act)(w:World)(K:Value->World->Prop):Prop:=
 match (execOp a.eval o).run P w with
 |.ok (.value u) w'=>K u w'
 |.ok .skip w'=>K undef w'
 |.ok (.enter f args) w'=>w'=w/\Calls P f args w (λe w''=>∃v,e=.returned v/\K v w'')
 |_=>False
theorem Xes{o:Oper}{a:Act}{K K':Value->World->Prop}(h:∀v w',K v w'->K' v w')(hg:Eh P o a w K):Eh P o a w K':=by
 unfold Eh at *;split
 .rename_i hr;simp only[hr] at hg;exact h _ _ hg
 .rename_i hr;simp only[hr] at hg;exact h _ _ hg
 .rename_i hr;simp only[hr] at hg;exact⟨hg.1,hg.2.mono λen e ⟨v,b,c⟩=>⟨v,b,h _ _ c⟩⟩
 .rename_i b d c
  split at hg
  .rename_i hr;exact absurd hr (b _ _)
  .rename_i hr;exact absurd hr (d _)
  .rename_i hr;exact absurd hr (c _ _ _)
  .exact hg
def opG(P:Program)(ops:Array Oper)(i:Nat)(K:Act->World->Prop)(a:Act)(w:World):Prop:=
 match ops[i]? with
 |none=>False
 |some o=>if Region.wanted o (yielded ops a.tmps) then Eh P o a w (λv w'=>K (a.put o.dst v) w') else K (a.put o.dst undef) w
theorem XkA{i:Nat}{K K':Act->World->Prop}{a:Act}(h:∀a' w',K a' w'->K' a' w')(hg:opG P ops i K a w):opG P ops i K' a w:=by
 unfold opG at *;split
 .rename_i b;simp only[b] at hg
 .rename_i o b
  simp only[b] at hg;split
  .rename_i c;simp only[c,if_true] at hg;exact Xes (λv w' d=>h _ _ d) hg
  .rename_i c;simp only[c] at hg;exact h _ _ hg
theorem Xjn{o:Oper}{a:Act}{v:Value}{K:Value->World->Prop}(hq:Dv P o a w v)(h:∀w1,Xc Xf w w1->K v w1):Eh P o a w K:=by
 unfold Dv at hq;unfold Eh;split at hq
 .rename_i hr;obtain⟨rfl,rfl⟩:=hq;simp only[hr];exact h _ (Xc.refl _ _)
 .rename_i hr;obtain⟨rfl,rfl⟩:=hq;simp only[hr];exact h _ (Xc.refl _ _)
 .rename_i hr;obtain⟨rfl,b⟩:=hq;simp only[hr];exact⟨trivial,b.mono λen e ⟨c,d⟩=>⟨_,c,h _ d⟩⟩
 .exact hq.elim
theorem YS.opG{C:World->Prop}{i:Nat}{o:Oper}{v:Value}{a:Act}(hi:ops[i]?=some o)(hy:YS P ops C o v a)(hC:C w){K:Act->World->Prop}(h:∀w1,Xc Xf w w1->K (a.put o.dst v) w1):Go.Proofs.YtdeihcnepljjaaaGreatDoor.opG P ops i K a w:=by
 unfold Go.Proofs.YtdeihcnepljjaaaGreatDoor.opG;simp only[hi];rcases hy with⟨b,c⟩|⟨b,rfl⟩
 .simp only[b,if_true];exact Xjn (c w hC) h
 .simp only[b,Bool.false_eq_true,if_false];exact h _ (Xc.refl _ _)
theorem Xc.up{S:Nat->Prop}{w w1 w2:World}(h:Xc S w w1)(k:Xc Xf w1 w2):Xc S w w2:=h.trans (k.mono λ_ _ h=>h.elim)
theorem Xc.cell{S:Nat->Prop}{w w':World}(h:Xc S w w'){b off:Nat}{v:Value}(hc:w.cell? ⟨b,off,none⟩=some v)(hS:¬S b):w'.cell? ⟨b,off,none⟩=some v:=by
 have a:=World.block_lt_of_cell? w _ hc;rw[<-hc];simp only[World.cell?,h.block b a hS]
theorem XkB{j:Nat}{oi oj:Oper}{v:Value}{w0:World}(hj:ops[j]?=some oj)(hap:oi.apart ops oj=true)(hsi:∀cs b,oi.op≠.select cs b)(hsj:∀cs b,oj.op≠.select cs b){K:Act->World->Prop}{a:Act}(hy:YS P ops (λx=>Xc S w0 x) oi v a)(h:opG P ops j K (a.put oi.dst v) w):opG P ops j (λa' w'=>YS P ops (λx=>Xc S w0 x) oi v a'/\K (a'.put oi.dst v) w') a w:=by
 obtain⟨d,e,f⟩:=Oper.apart_spec hap;have bV:∀(a:Act),YS P ops (λx=>Xc S w0 x) oi v a -> ∀u,YS P ops (λx=>Xc S w0 x) oi v (a.put oj.dst u):=λa hy u=>
  hy.of_same (execOp_put oi hsi a oj.dst u f) (wanted_put oi a oj.dst u f)
 unfold opG at *;simp only[hj] at *;rw[wanted_put oj a oi.dst v d] at h;split
 .rename_i c
  simp only[c,if_true] at h;have g:Eh P oj a w (λu w'=>K ((a.put oi.dst v).put oj.dst u) w'):=by
   unfold Eh at *
   rwa [execOp_put oj hsj a oi.dst v d] at h
  refine Xes (λu w' i=>⟨bV a hy u,?_⟩) g;rw[<-Act.put_comm a v u e];exact i
 .rename_i c
  simp only[c] at h;exact⟨bV a hy _,by rw[<-Act.put_comm a v undef e];exact h⟩
theorem Bf.bQ{i:Nat}{l:List Nat}{o:Oper}{a:Act}{K:Value->World->Prop}(ho:ops[i]?=some o)(hw:Region.wanted o (yielded ops a.tmps)=true)(hq:Eh P o a w K)(h:∀v w1,K v w1->Bf P fn R ops k l (a.put o.dst v) w1):Bf P fn R ops k (i::l) a w:=by
 unfold Eh at hq;split at hq
 .rename_i u w' hr;exact Bf.value ho hw (.inl hr) (h _ _ hq)
 .rename_i w' hr;exact Bf.value ho hw (.inr ⟨hr,rfl⟩) (h _ _ hq)
 .rename_i fc args w' hr
  obtain⟨rfl,f⟩:=hq;intro b cs p q;obtain⟨en,w1,fr,⟨v,j,r⟩,c,_,d⟩:=f (b.atR a (.inRegion ops (i::l)::k)::cs);subst j;have e:Go.step P (lone (b.atR a (.inRegion ops (i::l)::k)) cs w')=.next (lone (Frame.enter P fc args .normal) (b.atR a (.inRegion ops (i::l)::k)::cs) w'):=
   step_lone_go (by rw[K3 ho hw hr (by simp)];simp[stepG.apply,hr,Frame.atR])
  obtain⟨m,s,n,t,x,y,z⟩:=h v w1 r b cs p q;refine⟨m,s,n,t,.of_steps (.head e (Steps.trans c (.one ?_))) x,y,z⟩;have g:(b.atR a (.inRegion ops (i::l)::k)).finish v=b.atR (a.put o.dst v) (.inRegion ops l::k):=by
   rw[Frame.finish_atR,ho];rfl
  rw[<-g];exact step_leave_returned d
 .exact hq.elim
def H2(P:Program)(fn:FuncId)(R:Aim)(ops:Array Oper)(k:List Item)(q tf:Nat)(S:Nat->Prop)(w0:World):Nat->Array Bool->Act->World->Prop
 |0,L,a,w=>(∀i∈Region.ready md ops L,q<=i)/\∀w',Xc Xf w w'->H1 P fn R ops k tf L a w'
 |m+1,L,a,w=>(∃i,i∈Region.ready md ops L)/\∀w',Xc Xf w w' -> ∀i∈Region.ready md ops L,opG P ops i (λa1 w1=>Xc S w0 w1/\H2 P fn R ops k q tf S w0 m (L.setIfInBounds i true) a1 w1) a w'
theorem H2.grown{w0:World}:∀{m:Nat} {L:Array Bool} {a:Act},H2 P fn R ops k q tf S w0 m L a w->Xc Xf w w'->H2 P fn R ops k q tf S w0 m L a w'
 |0,_,_,h,hc=>⟨h.1,λx hx=>h.2 x (hc.trans hx)⟩
 |_+1,_,_,h,hc=>⟨h.1,λx hx=>h.2 x (hc.trans hx)⟩
theorem H2.any{w0:World}:∀{m:Nat} {L:Array Bool} {a:Act} {w:World},H2 P fn R ops k q tf S w0 m L a w->H1 P fn R ops k (m+tf) L a w
 |0,L,a,w,h=>by rw[Nat.zero_add];exact h.2 w (Xc.refl _ _)
 |m+1,L,a,w,h=>by
  rw[show m+1+tf=(m+tf)+1 from by omega];refine H1.step h.1 λi e t=>?_;have b:=h.2 w (Xc.refl _ _) i e;unfold opG at b;split at b
  .exact b.elim
  .rename_i o d
   split at b
   .rename_i c;exact Bf.bQ d c b λv g f=>(H2.any f.2) t
   .rename_i c;exact Bf.skip d (by simpa using c) ((H2.any b.2) t)
inductive Reach(ops:Array Oper):Nat->Nat->Prop
 |one {j i:Nat} {o:Oper} {e:_}:ops[j]?=some o->e∈o.after->Region.binds md e=true->e.on=i->Reach ops j i
 |step {j p i:Nat} {o:Oper} {e:_}:ops[j]?=some o->e∈o.after->Region.binds md e=true->e.on=p->Reach ops p i->Reach ops j i
def K8(ops:Array Oper)(L:Array Bool):Prop:=∀j o,ops[j]?=some o->L.getD j false=true -> ∀e∈o.after,Region.binds md e=true->L.getD e.on false=true
theorem Reach.listed{j i:Nat}{L:Array Bool}(h:Reach ops j i)(hc:K8 ops L)(hall:∀o,ops[j]?=some o -> ∀e∈o.after,Region.binds md e=true->L.getD e.on false=true):L.getD i false=true:=by
 induction h with
 |one b c d a=>rw[<-a];exact hall _ b _ c d
 |step b c d a _ ih=>
  have f:=hall _ b _ c d;rw[a] at f;exact ih λo' g e' k l=>hc _ o' g f e' k l
theorem K8.set{j:Nat}{L:Array Bool}(h:K8 ops L)(hr:j∈Region.ready md ops L):K8 ops (L.setIfInBounds j true):=by
 obtain⟨_,o,k,c⟩:=mem_ready.1 hr;have up:∀x,L.getD x false=true->(L.setIfInBounds j true).getD x false=true:=λx d=>by
  by_cases a:j=x
  .subst a;rcases Nat.lt_or_ge j L.size with h'|h'
   .simp[h']
   .simp[Array.getElem?_eq_none h'] at d
  .rw[getD_set_ne false a];exact d
 intro x ox b f e g i;by_cases a:j=x
 .subst a;rw[k] at b;cases b;exact up _ (c e g i)
 .rw[getD_set_ne false a] at f;exact up _ (h x ox b f e g i)
theorem XhU{w0:World}{i:Nat}{oi:Oper}{v:Value}(hi:ops[i]?=some oi)(hsel:∀(j:Nat) (o:Oper) cs b,ops[j]?=some o->o.op≠.select cs b)(htail:∀j o,q<=j->ops[j]?=some o->Reach ops j i):∀(m:Nat) (L:Array Bool) (a:Act) (w:World),Xc S w0 w->K8 ops L ->
  (∀j oj,ops[j]?=some oj->j<q->j≠i->L.getD j true=false->(∀e∈oj.after,Region.binds md e=true->e.on≠i)->oi.apart ops oj=true) ->
  i∈Region.ready md ops L->YS P ops (λx=>Xc S w0 x) oi v a ->
  H2 P fn R ops k q tf S w0 m (L.setIfInBounds i true) (a.put oi.dst v) w->H2 P fn R ops k q tf S w0 (m+1) L a w:=by
 have p:∀(L:Array Bool) (_:World),K8 ops L->i∈Region.ready md ops L -> ∀j,j∈Region.ready md ops L->q<=j->False:=λL _ g hr j h K=>by
  obtain⟨_,o,F,n⟩:=mem_ready.1 h;have B:=(htail j o K F).listed g (λo' C e M N=>by rw[F] at C;cases C;exact n e M N);obtain⟨f,_⟩:=mem_ready.1 hr;rcases Nat.lt_or_ge i L.size with h'|h'
  .simp[h'] at B f;rw[B] at f;cases f
  .simp[Array.getElem?_eq_none h'] at f
 intro m
 induction m with
 |zero=>
  intro L a w s g _ hr z H;refine⟨⟨i,hr⟩,λw' c j h=>?_⟩;by_cases d:j=i
  .subst d;exact z.opG hi (s.up c) λE l=>⟨(s.up c).up l,H.grown (c.trans l)⟩
  .exact(p L w g hr j h (H.1 j (ready_mono h d))).elim
 |succ m ih=>
  intro L a w s g r hr z H;refine⟨⟨i,hr⟩,λw' c j h=>?_⟩;by_cases d:j=i
  .subst d;exact z.opG hi (s.up c) λE l=>⟨(s.up c).up l,H.grown (c.trans l)⟩
  .have O:=H.2 w' c j (ready_mono h d);obtain⟨t,oj,u,n⟩:=mem_ready.1 h;have G:j<q:=by
    rcases Nat.lt_or_ge j q with h'|h'
    .exact h'
    .exact(p L w g hr j h h').elim
   have Q:=XkB u (r j oj u G d t (XfK hr n)) (λcs b=>hsel i oi cs b hi) (λcs b=>hsel j oj cs b u) z O;have y:∀x ox,ops[x]?=some ox->x<q->x≠i->(L.setIfInBounds j true).getD x true=false ->
    (∀e∈ox.after,Region.binds md e=true->e.on≠i)->oi.apart ops ox=true:=λx ox T I J f p=>by
    refine r x ox T I J ?_ p;by_cases D:j=x
    .subst D;exact t
    .rw[getD_set_ne true D] at f;exact f
   refine XkA (λa' E A=>⟨A.2.1,ih (L.setIfInBounds j true) a' E A.2.1 (g.set h) y (ready_mono hr (Ne.symm d)) A.1 ?_⟩) Q;rw[Array.setIfInBounds_comm _ _ d];exact A.2.2
end
def Dl(i:Nat):List Nat->Bool
 |[]=>false
 |j::r=>match Nat.beq i j with
  |true=>true
  |false=>Dl i r
def Xt(i:Nat):List Nat->List Nat
 |[]=>[]
 |j::r=>match Nat.beq i j with
  |true=>r
  |false=>j::Xt i r
theorem I1{i:Nat}:∀{U:List Nat},Dl i U=true↔i∈U
 |[]=>by simp[Dl]
 |j::r=>by
  unfold Dl;cases h:Nat.beq i j with
  |true=>have:=Nat.eq_of_beq_eq_true h;subst this;simp
  |false=>
   have:i≠j:=Nat.ne_of_beq_eq_false h;simp only[List.mem_cons,this,false_or];exact I1
theorem Rk{i:Nat}{U:List Nat}:Dl i U=false↔i∉U:=by
 rw[<-I1];simp
theorem Hp{i j:Nat}:∀{U:List Nat},U.Nodup->(j∈Xt i U↔j∈U/\j≠i)
 |[],_=>by simp[Xt]
 |x::r,c=>by
  obtain⟨d,f⟩:=List.nodup_cons.1 c;unfold Xt;cases h:Nat.beq i x with
  |true=>
   have:=Nat.eq_of_beq_eq_true h;subst this;simp only[List.mem_cons];constructor
   .intro hj;exact⟨.inr hj,λe=>d (e▸hj)⟩
   .rintro⟨hj|hj,a⟩
    .exact absurd hj a
    .exact hj
  |false=>
   have a:i≠x:=Nat.ne_of_beq_eq_false h;simp only[List.mem_cons,Hp f];constructor
   .rintro(rfl|⟨h3,b⟩)
    .exact⟨.inl rfl,Ne.symm a⟩
    .exact⟨.inr h3,b⟩
   .rintro⟨rfl|h3,b⟩
    .exact .inl rfl
    .exact .inr ⟨h3,b⟩
theorem Xfh{i:Nat}:∀{U:List Nat},U.Nodup->(Xt i U).Nodup
 |[],_=>by simp[Xt]
 |x::r,b=>by
  obtain⟨c,a⟩:=List.nodup_cons.1 b;unfold Xt;cases h:Nat.beq i x with
  |true=>exact a
  |false=>exact List.nodup_cons.2 ⟨λd=>c ((Hp a).1 d).1,Xfh a⟩
theorem T7{i:Nat}:∀{U:List Nat},i∈U->(Xt i U).length+1=U.length
 |[],h=>by simp at h
 |x::r,h=>by
  unfold Xt;cases b:Nat.beq i x with
  |true=>rfl
  |false=>
   have a:i≠x:=Nat.ne_of_beq_eq_false b;have:i∈r:=by rcases List.mem_cons.1 h with h|h;exact absurd h a;exact h
   simp only[List.length_cons,T7 this]
def C3(s q:Nat)(U:List Nat):Array Bool:=((List.range s).map λi=>Nat.blt i q && !Dl i U).toArray
theorem Lk{s q i:Nat}{U:List Nat}{d:Bool}(h:i<s):(C3 s q U).getD i d=(Nat.blt i q && !Dl i U):=by
 simp[C3,h]
theorem Xa7{s q i:Nat}{U:List Nat}(hn:U.Nodup)(hq:i<q):(C3 s q U).setIfInBounds i true=C3 s q (Xt i U):=by
 apply Array.ext
 .simp[C3]
 .intro j b c;have d:j<s:=by simpa [C3] using c
  rw[Array.getElem_setIfInBounds];split
  .rename_i a;subst a
   have:Dl i (Xt i U)=false:=Rk.2 (λh=>((Hp hn).1 h).2 rfl);simp[C3,this,hq,Nat.blt_eq]
  .rename_i a
   have:Dl j (Xt i U)=Dl j U:=by
    rw[Bool.eq_iff_iff,I1,I1,Hp hn];exact⟨λh=>h.1,λh=>⟨h,Ne.symm a⟩⟩
   simp[C3,this]
  .simpa using b
def Hn(q:Nat)(U:List Nat)(o:Oper):Bool:=o.after.toList.all λe=>!Region.binds md e||(Nat.blt e.on q && !Dl e.on U)
section
variable {P:Program}{T:Tab}{ops:Array Oper}{fn f:FuncId}{R:Aim}{k:List Item}{q tf n:Nat}{ds:List Deferred}{w w' w0:World}{e e':Env}{U:List Nat}{S:Nat->Prop}
def Og(ops:Array Oper)(j i:Nat):Bool:=match ops[j]? with
 |some o=>o.after.any λe=>Region.binds md e && e.on == i
 |none=>false
def W8:List Oper->List Nat->List Nat
 |[],acc=>acc
 |o::r,acc=>W8 r (acc++[o.after.toList.foldl (λm e=>bif Region.binds md e then m|||(1 <<< e.on)|||acc.getD e.on 0 else m) 0])
theorem Xdh(acc:List Nat)(i:Nat):∀(l:List _) (m:Nat),(l.foldl (λm e=>bif Region.binds md e then m|||(1 <<< e.on)|||acc.getD e.on 0 else m) m).testBit i=true->m.testBit i=true\/∃e∈l,Region.binds md e=true/\(e.on=i\/(acc.getD e.on 0).testBit i=true)
 |[],m,h=>.inl h
 |e::l,m,h=>by
  rw[List.foldl_cons] at h;rcases Xdh acc i l _ h with h1|⟨x,hx,hb,h2⟩
  .cases hb:Region.binds md e with
   |false=>rw[hb] at h1;exact .inl h1
   |true=>
    rw[hb] at h1;simp only[cond_true,Nat.testBit_or,Bool.or_eq_true] at h1;rcases h1 with(h1|h1)|h1
    .exact .inl h1
    .rw[Nat.one_shiftLeft,Nat.testBit_two_pow] at h1;exact .inr ⟨e,by simp,hb,.inl (of_decide_eq_true h1)⟩
    .exact .inr ⟨e,by simp,hb,.inr h1⟩
  .exact .inr ⟨x,by simp[hx],hb,h2⟩
theorem Xdi:∀(l:List Oper) (acc:List Nat),(∀j,l[j]?=ops[acc.length+j]?)->(∀j i,(acc.getD j 0).testBit i=true->Reach ops j i) -> ∀j i,((W8 l acc).getD j 0).testBit i=true->Reach ops j i
 |[],acc,_,h,j,i,a=>h j i a
 |o::r,acc,c,h,j,i,a=>by
  refine Xdi r _ (λj=>?_) (λj i a=>?_) j i a
  .have:=c (j+1);simp only[List.length_append,List.length_singleton];rw[show acc.length+1+j=acc.length+(j+1) from by omega,<-this]
   simp
  .have d:ops[acc.length]?=some o:=by have:=c 0;simpa using this.symm
   rcases Nat.lt_trichotomy j acc.length with hj|hj|hj
   .rw[List.getD_eq_getElem?_getD,List.getElem?_append_left hj,<-List.getD_eq_getElem?_getD] at a;exact h j i a
   .subst hj;rw[List.getD_eq_getElem?_getD,List.getElem?_append_right (Nat.le_refl _)] at a;simp only[Nat.sub_self,List.getElem?_cons_zero,Option.getD_some] at a;rcases Xdh acc i _ _ a with g|⟨e,f,b,h2|h2⟩
    .simp at g
    .exact .one d (by simpa using f) b h2
    .exact .step d (by simpa using f) b rfl (h _ _ h2)
   .rw[List.getD_eq_getElem?_getD,List.getElem?_append_right (by omega),List.getElem?_eq_none (by simp;omega)] at a;simp at a
def Zs(ops:Array Oper)(q:Nat):Bool:=
 Region.noSelect ops && Nat.ble q ops.size &&
 (List.range q).all (λi=>(List.range q).all λj=>i == j||Og ops i j||Og ops j i||(match ops[i]?,ops[j]? with|some a,some b=>a.apart ops b|_,_=>false)) &&
 (let A:=W8 ops.toList [];(List.range' q (ops.size-q)).all (λj=>(List.range q).all λi=>(A.getD j 0).testBit i)) &&
 Mk ops (ops.size-q) q (C3 ops.size q [])
theorem Xd2{i j:Nat}{o:Oper}(ho:ops[j]?=some o)(h:Og ops j i=true):∃e∈o.after,Region.binds md e=true/\e.on=i:=by
 unfold Og at h;rw[ho] at h;obtain⟨e,b,a⟩:=Array.any_eq_true'.1 h;simp only[Bool.and_eq_true,beq_iff_eq] at a;exact⟨e,b,a.1,a.2⟩
theorem Rb(h:Zs ops q=true):Region.noSelect ops=true/\q<=ops.size/\
 (∀i j oi oj,i<q->j<q->i≠j->ops[i]?=some oi->ops[j]?=some oj->Og ops i j=true\/Og ops j i=true\/oi.apart ops oj=true)/\
 (∀j o i,q<=j->ops[j]?=some o->i<q->Reach ops j i)/\Mk ops (ops.size-q) q (C3 ops.size q [])=true:=by
 unfold Zs at h;simp only[Bool.and_eq_true] at h;obtain⟨⟨⟨⟨f,g⟩,k⟩,l⟩,m⟩:=h;refine⟨f,by simpa [Nat.ble_eq] using g,λi j oi oj a b c d e=>?_,λj o i b n a=>?_,m⟩
 .have:=List.all_eq_true.1 (List.all_eq_true.1 k i (by simpa using a)) j (by simpa using b);rw[d,e] at this;simp only[Bool.or_eq_true,beq_iff_eq] at this;rcases this with((h|h)|h)|h
  .exact absurd h c
  .exact .inl h
  .exact .inr (.inl h)
  .exact .inr (.inr h)
 .have p:=(Array.getElem?_eq_some_iff.1 n).1;exact Xdi ops.toList [] (λx=>by simp) (λx y h=>by simp at h) j i (List.all_eq_true.1 (List.all_eq_true.1 l j (by rw[List.mem_range'];exact⟨j-q,by omega,by omega⟩)) i (by simpa using a))
def Nd(ops:Array Oper)(q:Nat)(U:List Nat):Prop:=U.Nodup/\K8 ops (C3 ops.size q U)
theorem Nd.rm{i:Nat}(h:Nd ops q U)(hq:i<q)(hr:i∈Region.ready md ops (C3 ops.size q U)):Nd ops q (Xt i U):=⟨Xfh h.1,by rw[<-Xa7 h.1 hq];exact h.2.set hr⟩
def Wx(ops:Array Oper)(q:Nat)(U:List Nat)(i:Nat):Prop:=Nd ops q U/\i∈Region.ready md ops (C3 ops.size q U)
theorem Wx.rm{i:Nat}(h:Wx ops q U i)(hq:i<q):Nd ops q (Xt i U):=h.1.rm hq h.2
def Xd(P:Program)(f:FuncId)(R:Aim)(n:Nat)(ds:List Deferred)(k:List Item)(ops:Array Oper)(q:Nat)(S:Nat->Prop)(U:List Nat)(e:Env)(w0 w:World):Prop:=
 ∀a:Act,a.defers=ds->X7 n a e->Nd ops q U->(∀i∈U,i<q)->Xc S w0 w->H2 P f R ops k q (ops.size-q) S w0 U.length (C3 ops.size q U) a w
theorem XaP(hB:Zs ops q=true){i:Nat}{o:Oper}(ho:At ops.toList i=some o)(hU:i∈U)(hq:i<q)(h:Hn q U o=true):i∈Region.ready md ops (C3 ops.size q U):=by
 obtain⟨_,c,_⟩:=Rb hB;refine mem_ready.2 ⟨?_,o,Bv ho,λe a b=>?_⟩
 .rw[Lk (by omega),I1.2 hU];simp
 .have:=List.all_eq_true.1 h e (by simpa using a);rw[b] at this;simp only[Bool.not_true,Bool.false_or,Bool.and_eq_true,Nat.blt_eq] at this;rw[Lk (by omega)];simp only[Bool.and_eq_true,Nat.blt_eq];exact this
theorem Xlm(hB:Zs ops q=true)(hn:Nd ops q U)(hU:U≠[])(hlt:∀i∈U,i<q){i:Nat}(h:i∈Region.ready md ops (C3 ops.size q U)):i∈U/\∃o,At ops.toList i=some o/\Hn q U o=true:=by
 obtain⟨_,u,_,f,_⟩:=Rb hB;obtain⟨k,o,g,b⟩:=mem_ready.1 h;have l:=(Array.getElem?_eq_some_iff.1 g).1;have key:∀e∈o.after,Region.binds md e=true->e.on<q/\e.on∉U:=λe c d=>by
  have a:=b e c d;by_cases m:e.on<ops.size
  .rw[Lk m] at a;simp only[Bool.and_eq_true,Nat.blt_eq,Bool.not_eq_true'] at a;exact⟨a.1,Rk.1 a.2⟩
  .simp[C3,m] at a
 have n:i<q:=by
  rcases Nat.lt_or_ge i q with h'|h'
  .exact h'
  .cases U with
   |nil=>exact absurd rfl hU
   |cons x r=>
    have p:=(f i o x h' g (hlt x (by simp))).listed hn.2 (λo' j e c d=>by rw[g] at j;cases j;exact b e c d);have v:=hlt x (by simp);rw[Lk (by omega)] at p;simp[Dl] at p
 rw[Lk l] at k;refine⟨?_,o,by rw[Xbg];simpa using g,?_⟩
 .have a:(Nat.blt i q)=true:=by simpa [Nat.blt_eq] using n
  rw[a] at k;exact I1.1 (by simpa using k)
 .unfold Hn;rw[List.all_eq_true];intro e c;cases d:Region.binds md e with
  |false=>rfl
  |true=>
   obtain⟨s,t⟩:=key e (by simpa using c) d;simp only[Bool.not_true,Bool.false_or,Bool.and_eq_true,Nat.blt_eq,Bool.not_eq_true'];exact⟨s,Rk.2 t⟩
theorem Xd.first(hB:Zs ops q=true){i:Nat}{o:Oper}{v:Value}(ho:At ops.toList i=some o)(hU:i∈U)(hfree:Hn q U o=true)(hy:∀a,X7 n a e->YS P ops (λx=>Xc S w0 x) o v a)(hfit:∀a:Act,X7 n a e->X7 n (a.put o.dst v) e')(h:Xd P f R n ds k ops q S (Xt i U) e' w0 w):Xd P f R n ds k ops q S U e w0 w:=by
 obtain⟨t,G,g,m,_⟩:=Rb hB;intro a F hf p r B;have b:=r i hU;have u:=T7 hU;rw[<-u];refine XhU (Bv ho) (Region.noSelect_spec t) (λj oj y c=>m j oj i y c b) _ _ a w B p.2 (λj oj c s C d D=>?_) (XaP hB ho hU b hfree) (hy a hf) ?_
 .have E:=(Array.getElem?_eq_some_iff.1 c).1
  .rcases g i j o oj b s (Ne.symm C) (Bv ho) c with h1|h1|h1
   .exfalso
    obtain⟨x,z,A,l⟩:=Xd2 (Bv ho) h1;have:=List.all_eq_true.1 hfree x (by simpa using z);rw[A] at this;simp only[Bool.not_true,Bool.false_or,Bool.and_eq_true,Nat.blt_eq,Bool.not_eq_true',l] at this;rw[Lk E,this.2] at d;simp only[Bool.not_false,Bool.and_true] at d;rw[show Nat.blt j q=true from by simpa [Nat.blt_eq] using s] at d;cases d
   .exfalso
    obtain⟨x,z,A,l⟩:=Xd2 c h1;exact D x z A l
   .exact h1
 .rw[Xa7 p.1 b];exact h _ (by cases o.dst <;> exact F) (hfit a hf) (p.rm b (XaP hB ho hU b hfree)) (λj y=>r j ((Hp p.1).1 y).1) B
theorem Xd.weaken(h:Xd P f R n ds k ops q S U e' w0 w)(hs:∀t v,look e' t=some v->look e t=some v):Xd P f R n ds k ops q S U e w0 w:=λa b hf=>h a b (hf.weaken hs)
theorem Xd.know{t:Nat}{b:Bool}{v:Value}(h:look e t=some v)(hg:Xd P f R n ds k ops q S U ((t,b,v)::e) w0 w):Xd P f R n ds k ops q S U e w0 w:=
 hg.weaken λu x a=>by
  rw[Kr] at a;by_cases c:u=t
  .subst c;rw[if_pos rfl] at a;rw[h,a]
  .rwa [if_neg c] at a
theorem Xd.one(hB:Zs ops q=true){i:Nat}{o:Oper}{v:Value}{fl:Bool}(ho:At ops.toList i=some o)(hU:i∈U)(hfree:Hn q U o=true)(hw:Di e ops o=some true)(hp:Fm n o.dst fl v e=some e')(hrun:∀a w',Xc S w0 w'->X7 n a e->Dv P o a w' v)(h:Xd P f R n ds k ops q S (Xt i U) e' w0 w):Xd P f R n ds k ops q S U e w0 w:=
 Xd.first hB ho hU hfree (λa hf=>.inl ⟨Dy hf hw,λw' b=>hrun a w' b hf⟩) (λa hf=>Gg hp a hf) h
theorem Xd.skip(hB:Zs ops q=true){i:Nat}{o:Oper}{fl:Bool}(ho:At ops.toList i=some o)(hU:i∈U)(hfree:Hn q U o=true)(hw:Di e ops o=some false)(hp:Fm n o.dst fl undef e=some e')(h:Xd P f R n ds k ops q S (Xt i U) e' w0 w):Xd P f R n ds k ops q S U e w0 w:=
 Xd.first hB ho hU hfree (λa hf=>.inr ⟨Dy hf hw,rfl⟩) (λa hf=>Gg hp a hf) h
def Z1(T:Tab)(n:Nat)(ops:Array Oper)(q:Nat):List Nat->List Nat->Env->List Nat×Env
 |[],U,e=>(U,e)
 |i::r,U,e=>match At ops.toList i with
  |none=>Z1 T n ops q r U e
  |some o=>match Dl i U && Hn q U o with
   |false=>Z1 T n ops q r U e
   |true=>match Di e ops o with
    |some false=>match Fm n o.dst true undef e with
     |some e'=>Z1 T n ops q r (Xt i U) e'
     |none=>Z1 T n ops q r U e
    |some true=>match Rx T e o.op with
     |some v=>match Fm n o.dst (opF e o.op) v e with
      |some e'=>Z1 T n ops q r (Xt i U) e'
      |none=>Z1 T n ops q r U e
     |none=>Z1 T n ops q r U e
    |none=>Z1 T n ops q r U e
theorem Kg(hT:Xp P T)(hB:Zs ops q=true):∀(l U:List Nat) (e:Env),Xd P f R n ds k ops q S (Z1 T n ops q l U e).1 (Z1 T n ops q l U e).2 w0 w->Xd P f R n ds k ops q S U e w0 w
 |[],U,e,h=>h
 |i::r,U,e,h=>by
  unfold Z1 at h;split at h
  .exact Kg hT hB r U e h
  .rename_i o g
   split at h
   .exact Kg hT hB r U e h
   .rename_i b
    simp only[Bool.and_eq_true] at b;obtain⟨j,b⟩:=b;split at h
    .rename_i c
     split at h
     .rename_i e' d;exact Xd.skip hB g (I1.1 j) b c d (Kg hT hB r _ e' h)
     .exact Kg hT hB r U e h
    .rename_i c
     split at h
     .rename_i v m
      split at h
      .rename_i e' d
       exact Xd.one hB g (I1.1 j) b c d (λa w' _ hf=>by unfold Dv;rw[Xbi hT hf m w'];exact⟨rfl,rfl⟩) (Kg hT hB r _ e' h)
      .exact Kg hT hB r U e h
     .exact Kg hT hB r U e h
    .exact Kg hT hB r U e h
theorem Xd.adv(hT:Xp P T)(hB:Zs ops q=true){U':List Nat}(h:Z1 T n ops q U U e=(U',e'))(hg:Xd P f R n ds k ops q S U' e' w0 w):Xd P f R n ds k ops q S U e w0 w:=Kg hT hB U U e (by rw[h];exact hg)
def Aq{δ:Type}(g:Oper->Option δ)(n:Nat)(ops:Array Oper)(q:Nat)(U:List Nat)(e:Env):List Nat->Option (δ×Nat×Nat)
 |[]=>none
 |i::r=>match At ops.toList i with
  |none=>Aq g n ops q U e r
  |some o=>match Hn q U o with
   |false=>Aq g n ops q U e r
   |true=>match Di e ops o with
    |some true=>match o.dst with
     |some d=>match Nat.blt d n with
      |true=>match g o with
       |some x=>some (x,d,i)
       |none=>Aq g n ops q U e r
      |false=>Aq g n ops q U e r
     |none=>Aq g n ops q U e r
    |_=>Aq g n ops q U e r
theorem Xei{δ:Type}{g:Oper->Option δ}{x:δ}{d i:Nat}:∀{l:List Nat},Aq g n ops q U e l=some (x,d,i)->i∈l/\∃o,At ops.toList i=some o/\Hn q U o=true/\Di e ops o=some true/\o.dst=some d/\Nat.blt d n=true/\g o=some x
 |[],h=>by simp[Aq] at h
 |j::r,h=>by
  have rec':Aq g n ops q U e r=some (x,d,i)->i∈j::r/\∃o,At ops.toList i=some o/\Hn q U o=true/\Di e ops o=some true/\o.dst=some d/\Nat.blt d n=true/\g o=some x:=λh=>by
   obtain⟨c,f⟩:=Xei h;exact⟨.tail _ c,f⟩
  unfold Aq at h;split at h
  .exact rec' h
  .rename_i o k
   split at h
   .exact rec' h
   .rename_i a
    split at h
    .rename_i m
     split at h
     .rename_i t p
      split at h
      .rename_i b
       split at h
       .rename_i y s;cases h;exact⟨.head _,o,k,a,m,p,b,s⟩
       .exact rec' h
      .exact rec' h
     .exact rec' h
    .exact rec' h
theorem Lq{d:Nat}{v:Value}(h:Nat.blt d n=true):Fm n (some d) false v e=some ((d,false,v)::e):=by
 rw[XbD];unfold Nb;simp only[h];rfl
theorem Xd.valQ(hT:Xp P T)(hB:Zs ops q=true){δ:Type}{g:Oper->Option δ}{x:δ}{d i:Nat}{v:Value}{U2:List Nat}{e2:Env}(h:Aq g n ops q U e U=some (x,d,i))(hrun:∀o,g o=some x -> ∀a w',Xc S w0 w'->X7 n a e->Dv P o a w' v)(ha:Z1 T n ops q (Xt i U) (Xt i U) ((d,false,v)::e)=(U2,e2))(hg:Xd P f R n ds k ops q S U2 e2 w0 w):Xd P f R n ds k ops q S U e w0 w:=by
 obtain⟨j,o,l,b,m,p,c,r⟩:=Xei h;exact Xd.one hB l j b m (by rw[p];exact Lq c) (hrun o r) (Xd.adv hT hB ha hg)
theorem Xd.val(hT:Xp P T)(hB:Zs ops q=true){δ:Type}{g:Oper->Option δ}{x:δ}{d i:Nat}{v:Value}{U2:List Nat}{e2:Env}(h:Aq g n ops q U e U=some (x,d,i))(hrun:∀o,g o=some x -> ∀a w',Xc S w0 w'->X7 n a e->(execOp a.eval o).run P w'=.ok (.value v) w')(ha:Z1 T n ops q (Xt i U) (Xt i U) ((d,false,v)::e)=(U2,e2))(hg:Xd P f R n ds k ops q S U2 e2 w0 w):Xd P f R n ds k ops q S U e w0 w:=
 Xd.valQ hT hB h (λo c a w' b hf=>by unfold Dv;rw[hrun o c a w' b hf];exact⟨rfl,rfl⟩) ha hg
theorem Xd.arith(hT:Xp P T)(hB:Zs ops q=true){kk:IntKind}{z z':Int}{d i:Nat}{U2:List Nat}{e2:Env}(h:Aq (Ma T e) n ops q U e U=some ((kk,z),d,i))(hz:kk.wrap z=z')(ha:Z1 T n ops q (Xt i U) (Xt i U) ((d,false,.int kk z')::e)=(U2,e2))(hg:Xd P f R n ds k ops q S U2 e2 w0 w):Xd P f R n ds k ops q S U e w0 w:=
 Xd.val hT hB h (λ_ b a w' _ hf=>Xaf hT b hz a hf w') ha hg
theorem Xd.div(hT:Xp P T)(hB:Zs ops q=true){p:Bool}{kk:IntKind}{x y z:Int}{d i:Nat}{U2:List Nat}{e2:Env}(h:Aq (Ra e) n ops q U e U=some ((p,kk,x,y),d,i))(hy:y≠0)(hz:H9 p kk x y=z)(ha:Z1 T n ops q (Xt i U) (Xt i U) ((d,false,.int kk z)::e)=(U2,e2))(hg:Xd P f R n ds k ops q S U2 e2 w0 w):Xd P f R n ds k ops q S U e w0 w:=
 Xd.val hT hB h (λ_ b a w' _ hf=>XaK b hy hz a hf w') ha hg
theorem Xd.index(hT:Xp P T)(hB:Zs ops q=true){b off len sz d j i:Nat}{x:Int}{U2:List Nat}{e2:Env}(h:Aq (Mn T e) n ops q U e U=some ((b,off,len,sz,x),d,i))(h0:0<=x)(h1:x<len)(hj:x.toNat*sz=j)(ha:Z1 T n ops q (Xt i U) (Xt i U) ((d,false,.pointer (some ⟨b,off+j,none⟩))::e)=(U2,e2))(hg:Xd P f R n ds k ops q S U2 e2 w0 w):Xd P f R n ds k ops q S U e w0 w:=
 Xd.val hT hB h (λ_ c a w' _ hf=>XaX hT c h0 h1 hj a hf w') ha hg
theorem Xd.load(hT:Xp P T)(hB:Zs ops q=true){b off d i:Nat}{v:Value}{U2:List Nat}{e2:Env}(h:Aq (Ch T e) n ops q U e U=some ((b,off,none),d,i))(hc:w0.cell? ⟨b,off,none⟩=some v)(hS:¬S b)(ha:Z1 T n ops q (Xt i U) (Xt i U) ((d,false,v)::e)=(U2,e2))(hg:Xd P f R n ds k ops q S U2 e2 w0 w):Xd P f R n ds k ops q S U e w0 w:=
 Xd.val hT hB h (λ_ g a _ c hf=>Rq hT g (c.cell hc hS) a hf) ha hg
theorem Xd.cJ(hT:Xp P T)(hB:Zs ops q=true){b off d i:Nat}{v:Value}{c:List Value}{t:TypeId}{fz:Nat×Nat}{U2:List Nat}{e2:Env}(h:Aq (Ch T e) n ops q U e U=some ((b,off,none),d,i))(hc:w0.heap[b]?=some (.cells c.toArray t fz))(hS:¬S b)(hv:Hr c off=some v)(ha:Z1 T n ops q (Xt i U) (Xt i U) ((d,false,v)::e)=(U2,e2))(hg:Xd P f R n ds k ops q S U2 e2 w0 w):Xd P f R n ds k ops q S U e w0 w:=
 Xd.load hT hB h (Cp hc hv) hS ha hg
theorem Xd.loads(hT:Xp P T)(hB:Zs ops q=true){b off m d i:Nat}{c vs:List Value}{t:TypeId}{fz:Nat×Nat}{U2:List Nat}{e2:Env}(h:Aq (Ch T e) n ops q U e U=some ((b,off,some m),d,i))(hc:w0.heap[b]?=some (.cells c.toArray t fz))(hS:¬S b)(hv:cut c off m=some vs)(ha:Z1 T n ops q (Xt i U) (Xt i U) ((d,false,.agg vs.toArray)::e)=(U2,e2))(hg:Xd P f R n ds k ops q S U2 e2 w0 w):Xd P f R n ds k ops q S U e w0 w:=
 Xd.val hT hB h (λ_ j a _ g hf=>Uc hT j (g.heap hc hS) hv a hf) ha hg
theorem Xd.build(hT:Xp P T)(hB:Zs ops q=true){vs:List Value}{d i:Nat}{U2:List Nat}{e2:Env}(h:Aq (N7 T e) n ops q U e U=some (vs,d,i))(ha:Z1 T n ops q (Xt i U) (Xt i U) ((d,false,.agg vs.toArray)::e)=(U2,e2))(hg:Xd P f R n ds k ops q S U2 e2 w0 w):Xd P f R n ds k ops q S U e w0 w:=
 Xd.val hT hB h (λ_ b a w' _ hf=>Xas hT b a hf w') ha hg
theorem Xd.slice(hT:Xp P T)(hB:Zs ops q=true){b:Option Addr}{len cap sz l h d i:Nat}{lo hi:Option Int}{U2:List Nat}{e2:Env}(ho:Aq (Vl T e) n ops q U e U=some ((b,len,cap,lo,hi,sz),d,i))(hl:Dr lo=l)(hh:Dn len hi=h)(h1:l<=h)(h2:h<=cap)(ha:Z1 T n ops q (Xt i U) (Xt i U) ((d,false,.slice (Q9 b cap l sz) (h-l) (cap-l))::e)=(U2,e2))(hg:Xd P f R n ds k ops q S U2 e2 w0 w):Xd P f R n ds k ops q S U e w0 w:=
 Xd.val hT hB ho (λ_ ho a w' _ hf=>XgJ hT ho hl hh h1 h2 a hf w') ha hg
theorem Xd.call(hT:Xp P T)(hB:Zs ops q=true){fk d i:Nat}{as:List Value}{v:Value}{U2:List Nat}{e2:Env}(h:Aq (Ef e) n ops q U e U=some ((fk,as),d,i))(hd:∀w',Xc S w0 w'->Xe P fk as.toArray w' (λu w2=>u=v/\Xc Xf w' w2))(ha:Z1 T n ops q (Xt i U) (Xt i U) ((d,false,v)::e)=(U2,e2))(hg:Xd P f R n ds k ops q S U2 e2 w0 w):Xd P f R n ds k ops q S U e w0 w:=
 Xd.valQ hT hB h (λo g a w' b hf=>by
  have c:=hd w' b;unfold Dv;rw[Tm g c.fn a hf];exact⟨rfl,c.calls.mono λen w2 ⟨u,j,l,m⟩=>⟨by rw[j,l],m⟩⟩) ha hg
def Js(ops:Array Oper)(q:Nat)(U:List Nat)(e:Env):List Nat->Option (Nat×Bool)
 |[]=>none
 |i::r=>match At ops.toList i with
  |none=>Js ops q U e r
  |some o=>match Hn q U o with
   |false=>Js ops q U e r
   |true=>match Di e ops o with
    |some false=>Js ops q U e r
    |_=>match Tf ops [o] e with
     |some x=>some x
     |none=>Js ops q U e r
theorem Mt{t:Nat}{p:Bool}:∀{l:List Nat},Js ops q U e l=some (t,p)->look e t=some (.bool p)
 |[],h=>by simp[Js] at h
 |j::r,h=>by
  unfold Js at h;split at h
  .exact Mt h
  .split at h
   .exact Mt h
   .split at h
    .exact Mt h
    .split at h
     .rename_i x hx;cases h;exact XeY hx
     .exact Mt h
theorem Xd.fork(hT:Xp P T)(hB:Zs ops q=true){t:Nat}{p:Bool}{U1 U2:List Nat}{e1 e2:Env}(h:Js ops q U e U=some (t,p))(ha:Z1 T n ops q U U ((t,true,.bool true)::e)=(U1,e1))(hb:Z1 T n ops q U U ((t,true,.bool false)::e)=(U2,e2))(ht:p=true->Xd P f R n ds k ops q S U1 e1 w0 w)(hf:p=false->Xd P f R n ds k ops q S U2 e2 w0 w):Xd P f R n ds k ops q S U e w0 w:=by
 have a:=Mt h;cases p with
 |true=>exact(Xd.adv hT hB ha (ht rfl)).know a
 |false=>exact(Xd.adv hT hB hb (hf rfl)).know a
theorem Xd.yes(hT:Xp P T)(hB:Zs ops q=true){t:Nat}{p:Bool}{U1:List Nat}{e1:Env}(h:Js ops q U e U=some (t,p))(hp:p=true)(ha:Z1 T n ops q U U ((t,true,.bool true)::e)=(U1,e1))(hg:Xd P f R n ds k ops q S U1 e1 w0 w):Xd P f R n ds k ops q S U e w0 w:=by
 subst hp;exact(Xd.adv hT hB ha hg).know (Mt h)
theorem Xd.no(hT:Xp P T)(hB:Zs ops q=true){t:Nat}{p:Bool}{U1:List Nat}{e1:Env}(h:Js ops q U e U=some (t,p))(hp:p=false)(ha:Z1 T n ops q U U ((t,true,.bool false)::e)=(U1,e1))(hg:Xd P f R n ds k ops q S U1 e1 w0 w):Xd P f R n ds k ops q S U e w0 w:=by
 subst hp;exact(Xd.adv hT hB ha hg).know (Mt h)
def C1(ops:Array Oper)(q:Nat)(U:List Nat):List Nat->List Nat
 |[]=>[]
 |i::r=>match At ops.toList i with
  |none=>C1 ops q U r
  |some o=>match Hn q U o with
   |true=>i::C1 ops q U r
   |false=>C1 ops q U r
theorem Ml{i:Nat}:∀{l:List Nat},i∈C1 ops q U l↔i∈l/\∃o,At ops.toList i=some o/\Hn q U o=true
 |[]=>by simp[C1]
 |j::r=>by
  unfold C1;split
  .rename_i h
   rw[Ml];constructor
   .rintro⟨h1,h2⟩;exact⟨.tail _ h1,h2⟩
   .rintro⟨h1,o,ho,h2⟩;rcases List.mem_cons.1 h1 with rfl|h1
    .rw[h] at ho;cases ho
    .exact⟨h1,o,ho,h2⟩
  .rename_i o ho
   split
   .rename_i hf
    rw[List.mem_cons,Ml];constructor
    .rintro(rfl|⟨h1,h2⟩)
     .exact⟨.head _,o,ho,hf⟩
     .exact⟨.tail _ h1,h2⟩
    .rintro⟨h1,h2⟩;rcases List.mem_cons.1 h1 with rfl|h1
     .exact .inl rfl
     .exact .inr ⟨h1,h2⟩
   .rename_i hf
    rw[Ml];constructor
    .rintro⟨h1,h2⟩;exact⟨.tail _ h1,h2⟩
    .rintro⟨h1,o',ho',h2⟩;rcases List.mem_cons.1 h1 with rfl|h1
     .rw[ho] at ho';cases ho';rw[hf] at h2;cases h2
     .exact⟨h1,o',ho',h2⟩
def Xo(P:Program)(f:FuncId)(R:Aim)(n:Nat)(ds:List Deferred)(k:List Item)(ops:Array Oper)(q:Nat)(S:Nat->Prop)(U:List Nat)(i:Nat)(e:Env)(w0 w:World):Prop:=
 ∀a:Act,a.defers=ds->X7 n a e->Wx ops q U i->(∀j∈U,j<q)->i∈U->Xc S w0 w->opG P ops i (λa1 w1=>Xc S w0 w1/\H2 P f R ops k q (ops.size-q) S w0 (Xt i U).length (C3 ops.size q (Xt i U)) a1 w1) a w
theorem Xd.turns(hB:Zs ops q=true){i0:Nat}{I:List Nat}(h:C1 ops q U U=i0::I)(hall:∀w',Xc Xf w w' -> ∀i∈i0::I,Xo P f R n ds k ops q S U i e w0 w'):Xd P f R n ds k ops q S U e w0 w:=by
 intro a x hf j b p;have y:i0∈C1 ops q U U:=by rw[h];simp
 obtain⟨c,A,r,s⟩:=Ml.1 y;have t:U≠[]:=by intro l;subst l;simp at c
 have m:=T7 c;rw[<-m];refine⟨⟨i0,XaP hB r c (b _ c) s⟩,λw' g i u=>?_⟩;obtain⟨d,o,z,v⟩:=Xlm hB j t b u;have:=hall w' g i (by rw[<-h];exact Ml.2 ⟨d,o,z,v⟩) a x hf ⟨j,u⟩ b d (p.up g);rw[Xa7 j.1 (b _ d)];have l:(Xt i0 U).length=(Xt i U).length:=by have:=T7 d;omega
 rw[l];exact this
theorem Xd.cK(hB:Zs ops q=true){i:Nat}(h:C1 ops q U U=[i])(h1:∀w',Xc Xf w w'->Xo P f R n ds k ops q S U i e w0 w'):Xd P f R n ds k ops q S U e w0 w:=
 Xd.turns hB h λw' a j b=>by simp at b;subst b;exact h1 w' a
theorem Xd.turn2(hB:Zs ops q=true){i j:Nat}(h:C1 ops q U U=[i,j])(h1:∀w',Xc Xf w w'->Xo P f R n ds k ops q S U i e w0 w')(h2:∀w',Xc Xf w w'->Xo P f R n ds k ops q S U j e w0 w'):Xd P f R n ds k ops q S U e w0 w:=
 Xd.turns hB h λw' a x hx=>by
  rcases List.mem_cons.1 hx with rfl|hx
  .exact h1 w' a
  .simp at hx;subst hx;exact h2 w' a
def Cn{δ:Type}(g:Oper->Option δ)(n:Nat)(ops:Array Oper)(e:Env)(i:Nat):Option (δ×Nat):=
 match At ops.toList i with
 |some o=>match Di e ops o with
  |some true=>match o.dst with
   |some d=>match Nat.blt d n with
    |true=>match g o with
     |some x=>some (x,d)
     |none=>none
    |false=>none
   |none=>none
  |_=>none
 |none=>none
theorem Mc{δ:Type}{g:Oper->Option δ}{x:δ}{d i:Nat}(h:Cn g n ops e i=some (x,d)):∃o,At ops.toList i=some o/\Di e ops o=some true/\o.dst=some d/\Nat.blt d n=true/\g o=some x:=by
 unfold Cn at h;split at h
 .rename_i o b
  split at h
  .rename_i c
   split at h
   .rename_i k f
    split at h
    .rename_i a
     split at h
     .rename_i y j;cases h;exact⟨o,b,c,f,a,j⟩
     .cases h
    .cases h
   .cases h
  .cases h
 .cases h
theorem Xo.val(hT:Xp P T)(hB:Zs ops q=true){δ:Type}{g:Oper->Option δ}{x:δ}{d i:Nat}{v:Value}{w1:World}{U2:List Nat}{e2:Env}(h:Cn g n ops e i=some (x,d))(hrun:∀o,g o=some x -> ∀a,X7 n a e->(execOp a.eval o).run P w=.ok (.value v) w1)(hc:Xc S w0 w->Xc S w0 w1)(ha:Z1 T n ops q (Xt i U) (Xt i U) ((d,false,v)::e)=(U2,e2))(hg:Xd P f R n ds k ops q S U2 e2 w0 w1):Xo P f R n ds k ops q S U i e w0 w:=by
 obtain⟨o,r,s,t,b,u⟩:=Mc h;intro a c hf l m y p;unfold opG;rw[Bv r];simp only[Dy hf s,if_true];unfold Eh;rw[hrun o u a hf];exact⟨hc p,Xd.adv hT hB ha hg _ (by cases o.dst <;> exact c) (Gg (by rw[t];exact Lq b) a hf) (l.rm (m _ y)) (λj z=>m j ((Hp l.1.1).1 z).1) (hc p)⟩
theorem Xo.alloc(hT:Xp P T)(hB:Zs ops q=true){l:List Value}{t d i:Nat}{U2:List Nat}{e2:Nat->Env}(h:Cn (Iw T e) n ops e i=some ((l,t),d))(ha:∀b,Z1 T n ops q (Xt i U) (Xt i U) ((d,false,.pointer (some ⟨b,0,none⟩))::e)=(U2,e2 b))(hg:∀b w1,b=w.heap.size->w1.heap[b]?=some (.cells l.toArray t (0,0))->Xc Xf w w1->w1.heap.size=w.heap.size+1->Xd P f R n ds k ops q S U2 (e2 b) w0 w1):Xo P f R n ds k ops q S U i e w0 w:=
 Xo.val hT hB h (λ_ c a hf=>Ta hT c a hf) (λh=>h.up (E1 _ _)) (ha _) (hg _ _ rfl (by simp) (E1 _ _) (by simp))
theorem Xo.buildSlice(hT:Xp P T)(hB:Zs ops q=true){vs:List Value}{t len d i:Nat}{U2:List Nat}{e2:Nat->Env}(h:Cn (Tk T e) n ops e i=some ((vs,t,len),d))(ha:∀b,Z1 T n ops q (Xt i U) (Xt i U) ((d,false,.slice (some ⟨b,0,none⟩) len len)::e)=(U2,e2 b))(hg:∀b w1,b=w.heap.size->w1.heap[b]?=some (.cells vs.toArray t (0,0))->Xc Xf w w1->w1.heap.size=w.heap.size+1->Xd P f R n ds k ops q S U2 (e2 b) w0 w1):Xo P f R n ds k ops q S U i e w0 w:=
 Xo.val hT hB h (λ_ c a hf=>XdA hT c a hf w) (λh=>h.up (E1 _ _)) (ha _) (hg _ _ rfl (by simp) (E1 _ _) (by simp))
theorem Xo.call{fk d i:Nat}{as:List Value}{Post:Value->World->Prop}(h:Cn (Ef e) n ops e i=some ((fk,as),d))(hk:Ny P fk)(hd:Xc S w0 w->Xe P fk as.toArray w (λv w2=>Xc S w0 w2/\Post v w2))(hg:∀v w1,Xc S w0 w1->Post v w1->Xd P f R n ds k ops q S (Xt i U) ((d,false,v)::e) w0 w1):Xo P f R n ds k ops q S U i e w0 w:=by
 obtain⟨o,s,t,b,g,u⟩:=Mc h;intro a l hf m p x y;unfold opG;rw[Bv s];simp only[Dy hf t,if_true];unfold Eh;rw[Tm u hk a hf];exact⟨rfl,(hd y).calls.mono λen w2 ⟨v,r,c,z⟩=>⟨v,r,c,hg v w2 c z _ (by cases o.dst <;> exact l) (Gg (by rw[b];exact Lq g) a hf) (m.rm (p _ x)) (λj A=>p j ((Hp m.1.1).1 A).1) c⟩⟩
theorem Xd.nil(hB:Zs ops q=true)(h:∀w',Xc Xf w w'->Xa P f R n ds (.inRegion ops (List.range' q (ops.size-q))::k) e w'):Xd P f R n ds k ops q S [] e w0 w:=by
 obtain⟨_,v,_,l,c⟩:=Rb hB;intro a m hf _ _ _;refine⟨λi p=>?_,λw' g t=>?_⟩
 .obtain⟨d,o,r,_⟩:=mem_ready.1 p;have j:=(Array.getElem?_eq_some_iff.1 r).1;rw[Lk j] at d;rcases Nat.lt_or_ge i q with h1|h1
  .rw[show Nat.blt i q=true from by simpa [Nat.blt_eq] using h1] at d;simp[Dl] at d
  .exact h1
 .rw[XaN _ _ _ c t];intro b cs s u;exact h w' g b cs a s u m hf
theorem Xa.drawn(S:Nat->Prop)(hT:Xp P T)(hm:P.follows .mixedOrders=true){id:Nat}{U2:List Nat}{e2:Env}(hB:Zs ops q=true)(ha:Z1 T n ops q (List.range q) (List.range q) e=(U2,e2))(h':Zs ops q=true->Xd P f R n ds k ops q S U2 e2 w w):Xa P f R n ds (.code (.region id ops true)::k) e w:=by
 have h:=h' hB;obtain⟨s,C,_⟩:=Rb hB;intro b cs a t u v hf;have g:K8 ops (C3 ops.size q (List.range q)):=λj o x d=>by
  have l:=(Array.getElem?_eq_some_iff.1 x).1;rw[Lk l] at d;simp only[Bool.and_eq_true,Nat.blt_eq,Bool.not_eq_true'] at d;exact absurd (by simpa using d.1) (Rk.1 d.2)
 have m:=Xd.adv hT hB ha h a v hf ⟨List.nodup_range,g⟩ (λi y=>by simpa using y) (Xc.refl _ _);have z:C3 ops.size q (List.range q)=Array.replicate ops.size false:=by
  apply Array.ext
  .simp[C3]
  .intro i p r;have:Dl i (List.range q)=Nat.blt i q:=by rw[Bool.eq_iff_iff,I1,Nat.blt_eq];simp
   simp[C3,this]
 rw[z,List.length_range] at m;have c:=(m.grown ((Xc.refl _ _).drew _)).any (w:={w with drawn:=w.drawn+1});rw[show q+(ops.size-q)=ops.size from by omega] at c;obtain⟨en,w',fr,A,B,p,r⟩:=c (w.tape w.drawn (.order b.fn id)) b cs t u;refine⟨en,w',fr,A,.of_steps (.one ?_) B,p,r⟩;rw[stepR_region_draw];simp only[Region.schedule,hm,Bool.true_or,if_true];rfl
end
end Go.Proofs.YtdeihcnepljjaaaGreatDoor
