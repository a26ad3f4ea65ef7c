/-
  Rule5
-/
import Derived.Test.YtdeihcnepljjaaaGreatDoorQRule4
namespace Go.Proofs.YtdeihcnepljjaaaGreatDoor
open Go.RowKit
section
variable {P:Program}{T:Tab}{ops:Array Oper}{fn f:FuncId}{R:Aim}{k:List Item}{q tf n:Nat}{ds:List Deferred}{w w':World}{e e':Env}{S:Nat->Prop}
def Em(P:Program)(o:Oper)(a:Act)(w:World)(K:Value->World->Prop):Prop:=
 match (execOp a.eval o).run P w with
 |.ok (.value u) w'=>K u w'
 |.ok .skip w'=>K undef w'
 |.ok (.enter f args) w'=>w'=w/\Calls P f args w (λe w''=>∃v,e=.returned v/\K v w'')
 |_=>False
theorem Xev{o:Oper}{a:Act}{K K':Value->World->Prop}(h:∀v w',K v w'->K' v w')(hg:Em P o a w K):Em P o a w K':=by
 unfold Em at *;split
 .rename_i hr;simp only[hr] at hg;exact h _ _ hg
 .rename_i hr;simp only[hr] at hg;exact h _ _ hg
 .rename_i hr;simp only[hr] at hg;exact⟨hg.1,hg.2.mono λen f ⟨v,b,c⟩=>⟨v,b,h _ _ c⟩⟩
 .rename_i b d c
  split at hg
  .rename_i hr;exact absurd hr (b _ _)
  .rename_i hr;exact absurd hr (d _)
  .rename_i hr;exact absurd hr (c _ _ _)
  .exact hg
def opG(P:Program)(ops:Array Oper)(i:Nat)(K:Act->World->Prop)(a:Act)(w:World):Prop:=
 match ops[i]? with
 |none=>False
 |some o=>if Region.wanted o (yielded ops a.tmps) then Em P o a w (λv w'=>K (a.put o.dst v) w') else K (a.put o.dst undef) w
theorem Xkw{i:Nat}{K K':Act->World->Prop}{a:Act}(h:∀a' w',K a' w'->K' a' w')(hg:opG P ops i K a w):opG P ops i K' a w:=by
 unfold opG at *;split
 .rename_i b;simp only[b] at hg
 .rename_i o b
  simp only[b] at hg;split
  .rename_i c;simp only[c,if_true] at hg;exact Xev (λv w' d=>h _ _ d) hg
  .rename_i c;simp only[c] at hg;exact h _ _ hg
theorem Xjl{o:Oper}{a:Act}{v:Value}{K:Value->World->Prop}(hq:D0 P o a w v)(h:∀w1,Xc Xe w w1->K v w1):Em P o a w K:=by
 unfold D0 at hq;unfold Em;split at hq
 .rename_i hr;obtain⟨rfl,rfl⟩:=hq;simp only[hr];exact h _ (Xc.refl _ _)
 .rename_i hr;obtain⟨rfl,rfl⟩:=hq;simp only[hr];exact h _ (Xc.refl _ _)
 .rename_i hr;obtain⟨rfl,b⟩:=hq;simp only[hr];exact⟨trivial,b.mono λen f ⟨c,d⟩=>⟨_,c,h _ d⟩⟩
 .exact hq.elim
theorem YS.opG{C:World->Prop}{i:Nat}{o:Oper}{v:Value}{a:Act}(hi:ops[i]?=some o)(hy:YS P ops C o v a)(hC:C w){K:Act->World->Prop}(h:∀w1,Xc Xe w w1->K (a.put o.dst v) w1):Go.Proofs.YtdeihcnepljjaaaGreatDoor.opG P ops i K a w:=by
 unfold Go.Proofs.YtdeihcnepljjaaaGreatDoor.opG;simp only[hi];rcases hy with⟨b,c⟩|⟨b,rfl⟩
 .simp only[b,if_true];exact Xjl (c w hC) h
 .simp only[b,Bool.false_eq_true,if_false];exact h _ (Xc.refl _ _)
theorem Xc.up{S:Nat->Prop}{w w1 w2:World}(h:Xc S w w1)(k:Xc Xe w1 w2):Xc S w w2:=h.trans (k.mono λ_ _ h=>h.elim)
theorem Xc.cell{S:Nat->Prop}{w w':World}(h:Xc S w w'){b off:Nat}{v:Value}(hc:w.cell? ⟨b,off,none⟩=some v)(hS:¬S b):w'.cell? ⟨b,off,none⟩=some v:=by
 have a:=World.block_lt_of_cell? w _ hc;rw[<-hc];simp only[World.cell?,h.block b a hS]
theorem Xkx{j:Nat}{oi oj:Oper}{v:Value}{w0:World}(hj:ops[j]?=some oj)(hap:oi.apart ops oj=true)(hsi:∀cs b,oi.op≠.select cs b)(hsj:∀cs b,oj.op≠.select cs b){K:Act->World->Prop}{a:Act}(hy:YS P ops (λx=>Xc S w0 x) oi v a)(h:opG P ops j K (a.put oi.dst v) w):opG P ops j (λa' w'=>YS P ops (λx=>Xc S w0 x) oi v a'/\K (a'.put oi.dst v) w') a w:=by
 obtain⟨d,f,g⟩:=Oper.apart_spec hap;have bV:∀(a:Act),YS P ops (λx=>Xc S w0 x) oi v a -> ∀u,YS P ops (λx=>Xc S w0 x) oi v (a.put oj.dst u):=λa hy u=>
  hy.of_same (execOp_put oi hsi a oj.dst u g) (wanted_put oi a oj.dst u g)
 unfold opG at *;simp only[hj] at *;rw[wanted_put oj a oi.dst v d] at h;split
 .rename_i c
  simp only[c,if_true] at h;have i:Em P oj a w (λu w'=>K ((a.put oi.dst v).put oj.dst u) w'):=by
   unfold Em at *
   rwa [execOp_put oj hsj a oi.dst v d] at h
  refine Xev (λu w' k=>⟨bV a hy u,?_⟩) i;rw[<-Act.put_comm a v u f];exact k
 .rename_i c
  simp only[c] at h;exact⟨bV a hy _,by rw[<-Act.put_comm a v undef f];exact h⟩
theorem Bg.bQ{i:Nat}{l:List Nat}{o:Oper}{a:Act}{K:Value->World->Prop}(ho:ops[i]?=some o)(hw:Region.wanted o (yielded ops a.tmps)=true)(hq:Em P o a w K)(h:∀v w1,K v w1->Bg P fn R ops k l (a.put o.dst v) w1):Bg P fn R ops k (i::l) a w:=by
 unfold Em at hq;split at hq
 .rename_i u w' hr;exact Bg.value ho hw (.inl hr) (h _ _ hq)
 .rename_i w' hr;exact Bg.value ho hw (.inr ⟨hr,rfl⟩) (h _ _ hq)
 .rename_i fc args w' hr
  obtain⟨rfl,g⟩:=hq;intro b cs q r;obtain⟨en,w1,fr,⟨v,m,s⟩,c,_,d⟩:=g (b.atR a (.inRegion ops (i::l)::k)::cs);subst m;have f:Go.step P (lone (b.atR a (.inRegion ops (i::l)::k)) cs w')=.next (lone (Frame.enter P fc args .normal) (b.atR a (.inRegion ops (i::l)::k)::cs) w'):=
   step_lone_go (by rw[K0 ho hw hr (by simp)];simp[stepG.apply,hr,Frame.atR])
  obtain⟨n,t,p,x,y,z,A⟩:=h v w1 s b cs q r;refine⟨n,t,p,x,.of_steps (.head f (Steps.trans c (.one ?_))) y,z,A⟩;have j:(b.atR a (.inRegion ops (i::l)::k)).finish v=b.atR (a.put o.dst v) (.inRegion ops l::k):=by
   rw[Frame.finish_atR,ho];rfl
  rw[<-j];exact step_leave_returned d
 .exact hq.elim
def H4(P:Program)(fn:FuncId)(R:Aim)(ops:Array Oper)(k:List Item)(q tf:Nat)(S:Nat->Prop)(w0:World):Nat->Array Bool->Act->World->Prop
 |0,L,a,w=>(∀i∈Region.ready md ops L,q<=i)/\∀w',Xc Xe w w'->H3 P fn R ops k tf L a w'
 |m+1,L,a,w=>(∃i,i∈Region.ready md ops L)/\∀w',Xc Xe w w' -> ∀i∈Region.ready md ops L,opG P ops i (λa1 w1=>Xc S w0 w1/\H4 P fn R ops k q tf S w0 m (L.setIfInBounds i true) a1 w1) a w'
theorem H4.grown{w0:World}:∀{m:Nat} {L:Array Bool} {a:Act},H4 P fn R ops k q tf S w0 m L a w->Xc Xe w w'->H4 P fn R ops k q tf S w0 m L a w'
 |0,_,_,h,hc=>⟨h.1,λx hx=>h.2 x (hc.trans hx)⟩
 |_+1,_,_,h,hc=>⟨h.1,λx hx=>h.2 x (hc.trans hx)⟩
theorem H4.any{w0:World}:∀{m:Nat} {L:Array Bool} {a:Act} {w:World},H4 P fn R ops k q tf S w0 m L a w->H3 P fn R ops k (m+tf) L a w
 |0,L,a,w,h=>by rw[Nat.zero_add];exact h.2 w (Xc.refl _ _)
 |m+1,L,a,w,h=>by
  rw[show m+1+tf=(m+tf)+1 from by omega];refine H3.step h.1 λi f t=>?_;have b:=h.2 w (Xc.refl _ _) i f;unfold opG at b;split at b
  .exact b.elim
  .rename_i o d
   split at b
   .rename_i c;exact Bg.bQ d c b λv j g=>(H4.any g.2) t
   .rename_i c;exact Bg.skip d (by simpa using c) ((H4.any b.2) t)
inductive Reach(ops:Array Oper):Nat->Nat->Prop
 |one {j i:Nat} {o:Oper} {e:_}:ops[j]?=some o->e∈o.after->Region.binds md e=true->e.on=i->Reach ops j i
 |step {j p i:Nat} {o:Oper} {e:_}:ops[j]?=some o->e∈o.after->Region.binds md e=true->e.on=p->Reach ops p i->Reach ops j i
def K4(ops:Array Oper)(L:Array Bool):Prop:=∀j o,ops[j]?=some o->L.getD j false=true -> ∀e∈o.after,Region.binds md e=true->L.getD e.on false=true
theorem Reach.listed{j i:Nat}{L:Array Bool}(h:Reach ops j i)(hc:K4 ops L)(hall:∀o,ops[j]?=some o -> ∀e∈o.after,Region.binds md e=true->L.getD e.on false=true):L.getD i false=true:=by
 induction h with
 |one b c d a=>rw[<-a];exact hall _ b _ c d
 |step b c d a _ ih=>
  have f:=hall _ b _ c d;rw[a] at f;exact ih λo' g e' k l=>hc _ o' g f e' k l
theorem K4.set{j:Nat}{L:Array Bool}(h:K4 ops L)(hr:j∈Region.ready md ops L):K4 ops (L.setIfInBounds j true):=by
 obtain⟨_,o,k,c⟩:=mem_ready.1 hr;have up:∀x,L.getD x false=true->(L.setIfInBounds j true).getD x false=true:=λx d=>by
  by_cases a:j=x
  .subst a;rcases Nat.lt_or_ge j L.size with h'|h'
   .simp[h']
   .simp[Array.getElem?_eq_none h'] at d
  .rw[getD_set_ne false a];exact d
 intro x ox b f e g i;by_cases a:j=x
 .subst a;rw[k] at b;cases b;exact up _ (c e g i)
 .rw[getD_set_ne false a] at f;exact up _ (h x ox b f e g i)
theorem XhP{w0:World}{i:Nat}{oi:Oper}{v:Value}(hi:ops[i]?=some oi)(hsel:∀(j:Nat) (o:Oper) cs b,ops[j]?=some o->o.op≠.select cs b)(htail:∀j o,q<=j->ops[j]?=some o->Reach ops j i):∀(m:Nat) (L:Array Bool) (a:Act) (w:World),Xc S w0 w->K4 ops L ->
  (∀j oj,ops[j]?=some oj->j<q->j≠i->L.getD j true=false->(∀e∈oj.after,Region.binds md e=true->e.on≠i)->oi.apart ops oj=true) ->
  i∈Region.ready md ops L->YS P ops (λx=>Xc S w0 x) oi v a ->
  H4 P fn R ops k q tf S w0 m (L.setIfInBounds i true) (a.put oi.dst v) w->H4 P fn R ops k q tf S w0 (m+1) L a w:=by
 have p:∀(L:Array Bool) (_:World),K4 ops L->i∈Region.ready md ops L -> ∀j,j∈Region.ready md ops L->q<=j->False:=λL _ g hr j h K=>by
  obtain⟨_,o,F,n⟩:=mem_ready.1 h;have B:=(htail j o K F).listed g (λo' C e M N=>by rw[F] at C;cases C;exact n e M N);obtain⟨f,_⟩:=mem_ready.1 hr;rcases Nat.lt_or_ge i L.size with h'|h'
  .simp[h'] at B f;rw[B] at f;cases f
  .simp[Array.getElem?_eq_none h'] at f
 intro m
 induction m with
 |zero=>
  intro L a w s g _ hr z H;refine⟨⟨i,hr⟩,λw' c j h=>?_⟩;by_cases d:j=i
  .subst d;exact z.opG hi (s.up c) λE l=>⟨(s.up c).up l,H.grown (c.trans l)⟩
  .exact(p L w g hr j h (H.1 j (ready_mono h d))).elim
 |succ m ih=>
  intro L a w s g r hr z H;refine⟨⟨i,hr⟩,λw' c j h=>?_⟩;by_cases d:j=i
  .subst d;exact z.opG hi (s.up c) λE l=>⟨(s.up c).up l,H.grown (c.trans l)⟩
  .have O:=H.2 w' c j (ready_mono h d);obtain⟨t,oj,u,n⟩:=mem_ready.1 h;have G:j<q:=by
    rcases Nat.lt_or_ge j q with h'|h'
    .exact h'
    .exact(p L w g hr j h h').elim
   have Q:=Xkx u (r j oj u G d t (XfG hr n)) (λcs b=>hsel i oi cs b hi) (λcs b=>hsel j oj cs b u) z O;have y:∀x ox,ops[x]?=some ox->x<q->x≠i->(L.setIfInBounds j true).getD x true=false ->
    (∀e∈ox.after,Region.binds md e=true->e.on≠i)->oi.apart ops ox=true:=λx ox T I J f p=>by
    refine r x ox T I J ?_ p;by_cases D:j=x
    .subst D;exact t
    .rw[getD_set_ne true D] at f;exact f
   refine Xkw (λa' E A=>⟨A.2.1,ih (L.setIfInBounds j true) a' E A.2.1 (g.set h) y (ready_mono hr (Ne.symm d)) A.1 ?_⟩) Q;rw[Array.setIfInBounds_comm _ _ d];exact A.2.2
end
def Dq(i:Nat):List Nat->Bool
 |[]=>false
 |j::r=>match Nat.beq i j with
  |true=>true
  |false=>Dq i r
def Xt(i:Nat):List Nat->List Nat
 |[]=>[]
 |j::r=>match Nat.beq i j with
  |true=>r
  |false=>j::Xt i r
theorem I2{i:Nat}:∀{U:List Nat},Dq i U=true↔i∈U
 |[]=>by simp[Dq]
 |j::r=>by
  unfold Dq;cases h:Nat.beq i j with
  |true=>have:=Nat.eq_of_beq_eq_true h;subst this;simp
  |false=>
   have:i≠j:=Nat.ne_of_beq_eq_false h;simp only[List.mem_cons,this,false_or];exact I2
theorem Rj{i:Nat}{U:List Nat}:Dq i U=false↔i∉U:=by
 rw[<-I2];simp
theorem Hs{i j:Nat}:∀{U:List Nat},U.Nodup->(j∈Xt i U↔j∈U/\j≠i)
 |[],_=>by simp[Xt]
 |x::r,c=>by
  obtain⟨d,f⟩:=List.nodup_cons.1 c;unfold Xt;cases h:Nat.beq i x with
  |true=>
   have:=Nat.eq_of_beq_eq_true h;subst this;simp only[List.mem_cons];constructor
   .intro hj;exact⟨.inr hj,λe=>d (e▸hj)⟩
   .rintro⟨hj|hj,a⟩
    .exact absurd hj a
    .exact hj
  |false=>
   have a:i≠x:=Nat.ne_of_beq_eq_false h;simp only[List.mem_cons,Hs f];constructor
   .rintro(rfl|⟨h3,b⟩)
    .exact⟨.inl rfl,Ne.symm a⟩
    .exact⟨.inr h3,b⟩
   .rintro⟨rfl|h3,b⟩
    .exact .inl rfl
    .exact .inr ⟨h3,b⟩
theorem Xff{i:Nat}:∀{U:List Nat},U.Nodup->(Xt i U).Nodup
 |[],_=>by simp[Xt]
 |x::r,b=>by
  obtain⟨c,a⟩:=List.nodup_cons.1 b;unfold Xt;cases h:Nat.beq i x with
  |true=>exact a
  |false=>exact List.nodup_cons.2 ⟨λd=>c ((Hs a).1 d).1,Xff a⟩
theorem T7{i:Nat}:∀{U:List Nat},i∈U->(Xt i U).length+1=U.length
 |[],h=>by simp at h
 |x::r,h=>by
  unfold Xt;cases b:Nat.beq i x with
  |true=>rfl
  |false=>
   have a:i≠x:=Nat.ne_of_beq_eq_false b;have:i∈r:=by rcases List.mem_cons.1 h with h|h;exact absurd h a;exact h
   simp only[List.length_cons,T7 this]
def C5(s q:Nat)(U:List Nat):Array Bool:=((List.range s).map λi=>Nat.blt i q && !Dq i U).toArray
theorem Le{s q i:Nat}{U:List Nat}{d:Bool}(h:i<s):(C5 s q U).getD i d=(Nat.blt i q && !Dq i U):=by
 simp[C5,h]
theorem Xa8{s q i:Nat}{U:List Nat}(hn:U.Nodup)(hq:i<q):(C5 s q U).setIfInBounds i true=C5 s q (Xt i U):=by
 apply Array.ext
 .simp[C5]
 .intro j b c;have d:j<s:=by simpa [C5] using c
  rw[Array.getElem_setIfInBounds];split
  .rename_i a;subst a
   have:Dq i (Xt i U)=false:=Rj.2 (λh=>((Hs hn).1 h).2 rfl);simp[C5,this,hq,Nat.blt_eq]
  .rename_i a
   have:Dq j (Xt i U)=Dq j U:=by
    rw[Bool.eq_iff_iff,I2,I2,Hs hn];exact⟨λh=>h.1,λh=>⟨h,Ne.symm a⟩⟩
   simp[C5,this]
  .simpa using b
def Hq(q:Nat)(U:List Nat)(o:Oper):Bool:=o.after.toList.all λe=>!Region.binds md e||(Nat.blt e.on q && !Dq e.on U)
section
variable {P:Program}{T:Tab}{ops:Array Oper}{fn f:FuncId}{R:Aim}{k:List Item}{q tf n:Nat}{ds:List Deferred}{w w' w0:World}{e e':Env}{U:List Nat}{S:Nat->Prop}
def Oe(ops:Array Oper)(j i:Nat):Bool:=match ops[j]? with
 |some o=>o.after.any λe=>Region.binds md e && e.on == i
 |none=>false
def W5:List Oper->List Nat->List Nat
 |[],acc=>acc
 |o::r,acc=>W5 r (acc++[o.after.toList.foldl (λm e=>bif Region.binds md e then m|||(1 <<< e.on)|||acc.getD e.on 0 else m) 0])
theorem Xdj(acc:List Nat)(i:Nat):∀(l:List _) (m:Nat),(l.foldl (λm e=>bif Region.binds md e then m|||(1 <<< e.on)|||acc.getD e.on 0 else m) m).testBit i=true->m.testBit i=true\/∃e∈l,Region.binds md e=true/\(e.on=i\/(acc.getD e.on 0).testBit i=true)
 |[],m,h=>.inl h
 |e::l,m,h=>by
  rw[List.foldl_cons] at h;rcases Xdj acc i l _ h with h1|⟨x,hx,hb,h2⟩
  .cases hb:Region.binds md e with
   |false=>rw[hb] at h1;exact .inl h1
   |true=>
    rw[hb] at h1;simp only[cond_true,Nat.testBit_or,Bool.or_eq_true] at h1;rcases h1 with(h1|h1)|h1
    .exact .inl h1
    .rw[Nat.one_shiftLeft,Nat.testBit_two_pow] at h1;exact .inr ⟨e,by simp,hb,.inl (of_decide_eq_true h1)⟩
    .exact .inr ⟨e,by simp,hb,.inr h1⟩
  .exact .inr ⟨x,by simp[hx],hb,h2⟩
theorem Xdk:∀(l:List Oper) (acc:List Nat),(∀j,l[j]?=ops[acc.length+j]?)->(∀j i,(acc.getD j 0).testBit i=true->Reach ops j i) -> ∀j i,((W5 l acc).getD j 0).testBit i=true->Reach ops j i
 |[],acc,_,h,j,i,a=>h j i a
 |o::r,acc,c,h,j,i,a=>by
  refine Xdk r _ (λj=>?_) (λj i a=>?_) j i a
  .have:=c (j+1);simp only[List.length_append,List.length_singleton];rw[show acc.length+1+j=acc.length+(j+1) from by omega,<-this]
   simp
  .have d:ops[acc.length]?=some o:=by have:=c 0;simpa using this.symm
   rcases Nat.lt_trichotomy j acc.length with hj|hj|hj
   .rw[List.getD_eq_getElem?_getD,List.getElem?_append_left hj,<-List.getD_eq_getElem?_getD] at a;exact h j i a
   .subst hj;rw[List.getD_eq_getElem?_getD,List.getElem?_append_right (Nat.le_refl _)] at a;simp only[Nat.sub_self,List.getElem?_cons_zero,Option.getD_some] at a;rcases Xdj acc i _ _ a with g|⟨e,f,b,h2|h2⟩
    .simp at g
    .exact .one d (by simpa using f) b h2
    .exact .step d (by simpa using f) b rfl (h _ _ h2)
   .rw[List.getD_eq_getElem?_getD,List.getElem?_append_right (by omega),List.getElem?_eq_none (by simp;omega)] at a;simp at a
def Zu(ops:Array Oper)(q:Nat):Bool:=
 Region.noSelect ops && Nat.ble q ops.size &&
 (List.range q).all (λi=>(List.range q).all λj=>i == j||Oe ops i j||Oe ops j i||(match ops[i]?,ops[j]? with|some a,some b=>a.apart ops b|_,_=>false)) &&
 (let A:=W5 ops.toList [];(List.range' q (ops.size-q)).all (λj=>(List.range q).all λi=>(A.getD j 0).testBit i)) &&
 Mk ops (ops.size-q) q (C5 ops.size q [])
theorem Xd4{i j:Nat}{o:Oper}(ho:ops[j]?=some o)(h:Oe ops j i=true):∃e∈o.after,Region.binds md e=true/\e.on=i:=by
 unfold Oe at h;rw[ho] at h;obtain⟨e,b,a⟩:=Array.any_eq_true'.1 h;simp only[Bool.and_eq_true,beq_iff_eq] at a;exact⟨e,b,a.1,a.2⟩
theorem Ra(h:Zu ops q=true):Region.noSelect ops=true/\q<=ops.size/\
 (∀i j oi oj,i<q->j<q->i≠j->ops[i]?=some oi->ops[j]?=some oj->Oe ops i j=true\/Oe ops j i=true\/oi.apart ops oj=true)/\
 (∀j o i,q<=j->ops[j]?=some o->i<q->Reach ops j i)/\Mk ops (ops.size-q) q (C5 ops.size q [])=true:=by
 unfold Zu at h;simp only[Bool.and_eq_true] at h;obtain⟨⟨⟨⟨g,k⟩,l⟩,m⟩,n⟩:=h;refine⟨g,by simpa [Nat.ble_eq] using k,λi j oi oj a b c d f=>?_,λj o i b p a=>?_,n⟩
 .have:=List.all_eq_true.1 (List.all_eq_true.1 l i (by simpa using a)) j (by simpa using b);rw[d,f] at this;simp only[Bool.or_eq_true,beq_iff_eq] at this;rcases this with((h|h)|h)|h
  .exact absurd h c
  .exact .inl h
  .exact .inr (.inl h)
  .exact .inr (.inr h)
 .have r:=(Array.getElem?_eq_some_iff.1 p).1;exact Xdk ops.toList [] (λx=>by simp) (λx y h=>by simp at h) j i (List.all_eq_true.1 (List.all_eq_true.1 m j (by rw[List.mem_range'];exact⟨j-q,by omega,by omega⟩)) i (by simpa using a))
def Nd(ops:Array Oper)(q:Nat)(U:List Nat):Prop:=U.Nodup/\K4 ops (C5 ops.size q U)
theorem Nd.rm{i:Nat}(h:Nd ops q U)(hq:i<q)(hr:i∈Region.ready md ops (C5 ops.size q U)):Nd ops q (Xt i U):=⟨Xff h.1,by rw[<-Xa8 h.1 hq];exact h.2.set hr⟩
def Wu(ops:Array Oper)(q:Nat)(U:List Nat)(i:Nat):Prop:=Nd ops q U/\i∈Region.ready md ops (C5 ops.size q U)
theorem Wu.rm{i:Nat}(h:Wu ops q U i)(hq:i<q):Nd ops q (Xt i U):=h.1.rm hq h.2
def Xd(P:Program)(f:FuncId)(R:Aim)(n:Nat)(ds:List Deferred)(k:List Item)(ops:Array Oper)(q:Nat)(S:Nat->Prop)(U:List Nat)(e:Env)(w0 w:World):Prop:=
 ∀a:Act,a.defers=ds->X7 n a e->Nd ops q U->(∀i∈U,i<q)->Xc S w0 w->H4 P f R ops k q (ops.size-q) S w0 U.length (C5 ops.size q U) a w
theorem XaO(hB:Zu ops q=true){i:Nat}{o:Oper}(ho:Au ops.toList i=some o)(hU:i∈U)(hq:i<q)(h:Hq q U o=true):i∈Region.ready md ops (C5 ops.size q U):=by
 obtain⟨_,c,_⟩:=Ra hB;refine mem_ready.2 ⟨?_,o,Bx ho,λe a b=>?_⟩
 .rw[Le (by omega),I2.2 hU];simp
 .have:=List.all_eq_true.1 h e (by simpa using a);rw[b] at this;simp only[Bool.not_true,Bool.false_or,Bool.and_eq_true,Nat.blt_eq] at this;rw[Le (by omega)];simp only[Bool.and_eq_true,Nat.blt_eq];exact this
theorem Xlh(hB:Zu ops q=true)(hn:Nd ops q U)(hU:U≠[])(hlt:∀i∈U,i<q){i:Nat}(h:i∈Region.ready md ops (C5 ops.size q U)):i∈U/\∃o,Au ops.toList i=some o/\Hq q U o=true:=by
 obtain⟨_,u,_,f,_⟩:=Ra hB;obtain⟨k,o,g,b⟩:=mem_ready.1 h;have l:=(Array.getElem?_eq_some_iff.1 g).1;have key:∀e∈o.after,Region.binds md e=true->e.on<q/\e.on∉U:=λe c d=>by
  have a:=b e c d;by_cases m:e.on<ops.size
  .rw[Le m] at a;simp only[Bool.and_eq_true,Nat.blt_eq,Bool.not_eq_true'] at a;exact⟨a.1,Rj.1 a.2⟩
  .simp[C5,m] at a
 have n:i<q:=by
  rcases Nat.lt_or_ge i q with h'|h'
  .exact h'
  .cases U with
   |nil=>exact absurd rfl hU
   |cons x r=>
    have p:=(f i o x h' g (hlt x (by simp))).listed hn.2 (λo' j e c d=>by rw[g] at j;cases j;exact b e c d);have v:=hlt x (by simp);rw[Le (by omega)] at p;simp[Dq] at p
 rw[Le l] at k;refine⟨?_,o,by rw[Xbj];simpa using g,?_⟩
 .have a:(Nat.blt i q)=true:=by simpa [Nat.blt_eq] using n
  rw[a] at k;exact I2.1 (by simpa using k)
 .unfold Hq;rw[List.all_eq_true];intro e c;cases d:Region.binds md e with
  |false=>rfl
  |true=>
   obtain⟨s,t⟩:=key e (by simpa using c) d;simp only[Bool.not_true,Bool.false_or,Bool.and_eq_true,Nat.blt_eq,Bool.not_eq_true'];exact⟨s,Rj.2 t⟩
theorem Xd.first(hB:Zu ops q=true){i:Nat}{o:Oper}{v:Value}(ho:Au ops.toList i=some o)(hU:i∈U)(hfree:Hq q U o=true)(hy:∀a,X7 n a e->YS P ops (λx=>Xc S w0 x) o v a)(hfit:∀a:Act,X7 n a e->X7 n (a.put o.dst v) e')(h:Xd P f R n ds k ops q S (Xt i U) e' w0 w):Xd P f R n ds k ops q S U e w0 w:=by
 obtain⟨t,G,g,m,_⟩:=Ra hB;intro a F hf p r B;have b:=r i hU;have u:=T7 hU;rw[<-u];refine XhP (Bx ho) (Region.noSelect_spec t) (λj oj y c=>m j oj i y c b) _ _ a w B p.2 (λj oj c s C d D=>?_) (XaO hB ho hU b hfree) (hy a hf) ?_
 .have E:=(Array.getElem?_eq_some_iff.1 c).1
  .rcases g i j o oj b s (Ne.symm C) (Bx ho) c with h1|h1|h1
   .exfalso
    obtain⟨x,z,A,l⟩:=Xd4 (Bx ho) h1;have:=List.all_eq_true.1 hfree x (by simpa using z);rw[A] at this;simp only[Bool.not_true,Bool.false_or,Bool.and_eq_true,Nat.blt_eq,Bool.not_eq_true',l] at this;rw[Le E,this.2] at d;simp only[Bool.not_false,Bool.and_true] at d;rw[show Nat.blt j q=true from by simpa [Nat.blt_eq] using s] at d;cases d
   .exfalso
    obtain⟨x,z,A,l⟩:=Xd4 c h1;exact D x z A l
   .exact h1
 .rw[Xa8 p.1 b];exact h _ (by cases o.dst <;> exact F) (hfit a hf) (p.rm b (XaO hB ho hU b hfree)) (λj y=>r j ((Hs p.1).1 y).1) B
theorem Xd.weaken(h:Xd P f R n ds k ops q S U e' w0 w)(hs:∀t v,look e' t=some v->look e t=some v):Xd P f R n ds k ops q S U e w0 w:=λa b hf=>h a b (hf.weaken hs)
theorem Xd.know{t:Nat}{b:Bool}{v:Value}(h:look e t=some v)(hg:Xd P f R n ds k ops q S U ((t,b,v)::e) w0 w):Xd P f R n ds k ops q S U e w0 w:=
 hg.weaken λu x a=>by
  rw[Kq] at a;by_cases c:u=t
  .subst c;rw[if_pos rfl] at a;rw[h,a]
  .rwa [if_neg c] at a
theorem Xd.one(hB:Zu ops q=true){i:Nat}{o:Oper}{v:Value}{fl:Bool}(ho:Au ops.toList i=some o)(hU:i∈U)(hfree:Hq q U o=true)(hw:Dm e ops o=some true)(hp:Fu n o.dst fl v e=some e')(hrun:∀a w',Xc S w0 w'->X7 n a e->D0 P o a w' v)(h:Xd P f R n ds k ops q S (Xt i U) e' w0 w):Xd P f R n ds k ops q S U e w0 w:=
 Xd.first hB ho hU hfree (λa hf=>.inl ⟨D2 hf hw,λw' b=>hrun a w' b hf⟩) (λa hf=>Gl hp a hf) h
theorem Xd.skip(hB:Zu ops q=true){i:Nat}{o:Oper}{fl:Bool}(ho:Au ops.toList i=some o)(hU:i∈U)(hfree:Hq q U o=true)(hw:Dm e ops o=some false)(hp:Fu n o.dst fl undef e=some e')(h:Xd P f R n ds k ops q S (Xt i U) e' w0 w):Xd P f R n ds k ops q S U e w0 w:=
 Xd.first hB ho hU hfree (λa hf=>.inr ⟨D2 hf hw,rfl⟩) (λa hf=>Gl hp a hf) h
def Z3(T:Tab)(n:Nat)(ops:Array Oper)(q:Nat):List Nat->List Nat->Env->List Nat×Env
 |[],U,e=>(U,e)
 |i::r,U,e=>match Au ops.toList i with
  |none=>Z3 T n ops q r U e
  |some o=>match Dq i U && Hq q U o with
   |false=>Z3 T n ops q r U e
   |true=>match Dm e ops o with
    |some false=>match Fu n o.dst true undef e with
     |some e'=>Z3 T n ops q r (Xt i U) e'
     |none=>Z3 T n ops q r U e
    |some true=>match Rw T e o.op with
     |some v=>match Fu n o.dst (opF e o.op) v e with
      |some e'=>Z3 T n ops q r (Xt i U) e'
      |none=>Z3 T n ops q r U e
     |none=>Z3 T n ops q r U e
    |none=>Z3 T n ops q r U e
theorem Kg(hT:Xp P T)(hB:Zu ops q=true):∀(l U:List Nat) (e:Env),Xd P f R n ds k ops q S (Z3 T n ops q l U e).1 (Z3 T n ops q l U e).2 w0 w->Xd P f R n ds k ops q S U e w0 w
 |[],U,e,h=>h
 |i::r,U,e,h=>by
  unfold Z3 at h;split at h
  .exact Kg hT hB r U e h
  .rename_i o g
   split at h
   .exact Kg hT hB r U e h
   .rename_i b
    simp only[Bool.and_eq_true] at b;obtain⟨j,b⟩:=b;split at h
    .rename_i c
     split at h
     .rename_i e' d;exact Xd.skip hB g (I2.1 j) b c d (Kg hT hB r _ e' h)
     .exact Kg hT hB r U e h
    .rename_i c
     split at h
     .rename_i v m
      split at h
      .rename_i e' d
       exact Xd.one hB g (I2.1 j) b c d (λa w' _ hf=>by unfold D0;rw[Xbl hT hf m w'];exact⟨rfl,rfl⟩) (Kg hT hB r _ e' h)
      .exact Kg hT hB r U e h
     .exact Kg hT hB r U e h
    .exact Kg hT hB r U e h
theorem Xd.adv(hT:Xp P T)(hB:Zu ops q=true){U':List Nat}(h:Z3 T n ops q U U e=(U',e'))(hg:Xd P f R n ds k ops q S U' e' w0 w):Xd P f R n ds k ops q S U e w0 w:=Kg hT hB U U e (by rw[h];exact hg)
def Aq{δ:Type}(g:Oper->Option δ)(n:Nat)(ops:Array Oper)(q:Nat)(U:List Nat)(e:Env):List Nat->Option (δ×Nat×Nat)
 |[]=>none
 |i::r=>match Au ops.toList i with
  |none=>Aq g n ops q U e r
  |some o=>match Hq q U o with
   |false=>Aq g n ops q U e r
   |true=>match Dm e ops o with
    |some true=>match o.dst with
     |some d=>match Nat.blt d n with
      |true=>match g o with
       |some x=>some (x,d,i)
       |none=>Aq g n ops q U e r
      |false=>Aq g n ops q U e r
     |none=>Aq g n ops q U e r
    |_=>Aq g n ops q U e r
theorem Xek{δ:Type}{g:Oper->Option δ}{x:δ}{d i:Nat}:∀{l:List Nat},Aq g n ops q U e l=some (x,d,i)->i∈l/\∃o,Au ops.toList i=some o/\Hq q U o=true/\Dm e ops o=some true/\o.dst=some d/\Nat.blt d n=true/\g o=some x
 |[],h=>by simp[Aq] at h
 |j::r,h=>by
  have rec':Aq g n ops q U e r=some (x,d,i)->i∈j::r/\∃o,Au ops.toList i=some o/\Hq q U o=true/\Dm e ops o=some true/\o.dst=some d/\Nat.blt d n=true/\g o=some x:=λh=>by
   obtain⟨c,f⟩:=Xek h;exact⟨.tail _ c,f⟩
  unfold Aq at h;split at h
  .exact rec' h
  .rename_i o k
   split at h
   .exact rec' h
   .rename_i a
    split at h
    .rename_i m
     split at h
     .rename_i t p
      split at h
      .rename_i b
       split at h
       .rename_i y s;cases h;exact⟨.head _,o,k,a,m,p,b,s⟩
       .exact rec' h
      .exact rec' h
     .exact rec' h
    .exact rec' h
theorem Ll{d:Nat}{v:Value}(h:Nat.blt d n=true):Fu n (some d) false v e=some ((d,false,v)::e):=by
 rw[XbH];unfold Na;simp only[h];rfl
theorem Xd.valQ(hT:Xp P T)(hB:Zu ops q=true){δ:Type}{g:Oper->Option δ}{x:δ}{d i:Nat}{v:Value}{U2:List Nat}{e2:Env}(h:Aq g n ops q U e U=some (x,d,i))(hrun:∀o,g o=some x -> ∀a w',Xc S w0 w'->X7 n a e->D0 P o a w' v)(ha:Z3 T n ops q (Xt i U) (Xt i U) ((d,false,v)::e)=(U2,e2))(hg:Xd P f R n ds k ops q S U2 e2 w0 w):Xd P f R n ds k ops q S U e w0 w:=by
 obtain⟨j,o,l,b,m,p,c,r⟩:=Xek h;exact Xd.one hB l j b m (by rw[p];exact Ll c) (hrun o r) (Xd.adv hT hB ha hg)
theorem Xd.val(hT:Xp P T)(hB:Zu ops q=true){δ:Type}{g:Oper->Option δ}{x:δ}{d i:Nat}{v:Value}{U2:List Nat}{e2:Env}(h:Aq g n ops q U e U=some (x,d,i))(hrun:∀o,g o=some x -> ∀a w',Xc S w0 w'->X7 n a e->(execOp a.eval o).run P w'=.ok (.value v) w')(ha:Z3 T n ops q (Xt i U) (Xt i U) ((d,false,v)::e)=(U2,e2))(hg:Xd P f R n ds k ops q S U2 e2 w0 w):Xd P f R n ds k ops q S U e w0 w:=
 Xd.valQ hT hB h (λo c a w' b hf=>by unfold D0;rw[hrun o c a w' b hf];exact⟨rfl,rfl⟩) ha hg
theorem Xd.arith(hT:Xp P T)(hB:Zu ops q=true){kk:IntKind}{z z':Int}{d i:Nat}{U2:List Nat}{e2:Env}(h:Aq (L9 T e) n ops q U e U=some ((kk,z),d,i))(hz:kk.wrap z=z')(ha:Z3 T n ops q (Xt i U) (Xt i U) ((d,false,.int kk z')::e)=(U2,e2))(hg:Xd P f R n ds k ops q S U2 e2 w0 w):Xd P f R n ds k ops q S U e w0 w:=
 Xd.val hT hB h (λ_ b a w' _ hf=>Xac hT b hz a hf w') ha hg
theorem Xd.div(hT:Xp P T)(hB:Zu ops q=true){p:Bool}{kk:IntKind}{x y z:Int}{d i:Nat}{U2:List Nat}{e2:Env}(h:Aq (P9 e) n ops q U e U=some ((p,kk,x,y),d,i))(hy:y≠0)(hz:Ib p kk x y=z)(ha:Z3 T n ops q (Xt i U) (Xt i U) ((d,false,.int kk z)::e)=(U2,e2))(hg:Xd P f R n ds k ops q S U2 e2 w0 w):Xd P f R n ds k ops q S U e w0 w:=
 Xd.val hT hB h (λ_ b a w' _ hf=>XaI b hy hz a hf w') ha hg
theorem Xd.index(hT:Xp P T)(hB:Zu ops q=true){b off len sz d j i:Nat}{x:Int}{U2:List Nat}{e2:Env}(h:Aq (Mn T e) n ops q U e U=some ((b,off,len,sz,x),d,i))(h0:0<=x)(h1:x<len)(hj:x.toNat*sz=j)(ha:Z3 T n ops q (Xt i U) (Xt i U) ((d,false,.pointer (some ⟨b,off+j,none⟩))::e)=(U2,e2))(hg:Xd P f R n ds k ops q S U2 e2 w0 w):Xd P f R n ds k ops q S U e w0 w:=
 Xd.val hT hB h (λ_ c a w' _ hf=>XaY hT c h0 h1 hj a hf w') ha hg
theorem Xd.load(hT:Xp P T)(hB:Zu ops q=true){b off d i:Nat}{v:Value}{U2:List Nat}{e2:Env}(h:Aq (Ck T e) n ops q U e U=some ((b,off,none),d,i))(hc:w0.cell? ⟨b,off,none⟩=some v)(hS:¬S b)(ha:Z3 T n ops q (Xt i U) (Xt i U) ((d,false,v)::e)=(U2,e2))(hg:Xd P f R n ds k ops q S U2 e2 w0 w):Xd P f R n ds k ops q S U e w0 w:=
 Xd.val hT hB h (λ_ g a _ c hf=>Rp hT g (c.cell hc hS) a hf) ha hg
theorem Xd.cJ(hT:Xp P T)(hB:Zu ops q=true){b off d i:Nat}{v:Value}{c:List Value}{t:TypeId}{fz:Nat×Nat}{U2:List Nat}{e2:Env}(h:Aq (Ck T e) n ops q U e U=some ((b,off,none),d,i))(hc:w0.heap[b]?=some (.cells c.toArray t fz))(hS:¬S b)(hv:G7 c off=some v)(ha:Z3 T n ops q (Xt i U) (Xt i U) ((d,false,v)::e)=(U2,e2))(hg:Xd P f R n ds k ops q S U2 e2 w0 w):Xd P f R n ds k ops q S U e w0 w:=
 Xd.load hT hB h (Cu hc hv) hS ha hg
theorem Xd.loads(hT:Xp P T)(hB:Zu ops q=true){b off m d i:Nat}{c vs:List Value}{t:TypeId}{fz:Nat×Nat}{U2:List Nat}{e2:Env}(h:Aq (Ck T e) n ops q U e U=some ((b,off,some m),d,i))(hc:w0.heap[b]?=some (.cells c.toArray t fz))(hS:¬S b)(hv:cut c off m=some vs)(ha:Z3 T n ops q (Xt i U) (Xt i U) ((d,false,.agg vs.toArray)::e)=(U2,e2))(hg:Xd P f R n ds k ops q S U2 e2 w0 w):Xd P f R n ds k ops q S U e w0 w:=
 Xd.val hT hB h (λ_ j a _ g hf=>Uc hT j (g.heap hc hS) hv a hf) ha hg
theorem Xd.build(hT:Xp P T)(hB:Zu ops q=true){vs:List Value}{d i:Nat}{U2:List Nat}{e2:Env}(h:Aq (N5 T e) n ops q U e U=some (vs,d,i))(ha:Z3 T n ops q (Xt i U) (Xt i U) ((d,false,.agg vs.toArray)::e)=(U2,e2))(hg:Xd P f R n ds k ops q S U2 e2 w0 w):Xd P f R n ds k ops q S U e w0 w:=
 Xd.val hT hB h (λ_ b a w' _ hf=>Xap hT b a hf w') ha hg
theorem Xd.slice(hT:Xp P T)(hB:Zu ops q=true){b:Option Addr}{len cap sz l h d i:Nat}{lo hi:Option Int}{U2:List Nat}{e2:Env}(ho:Aq (Vk T e) n ops q U e U=some ((b,len,cap,lo,hi,sz),d,i))(hl:Dw lo=l)(hh:Ds len hi=h)(h1:l<=h)(h2:h<=cap)(ha:Z3 T n ops q (Xt i U) (Xt i U) ((d,false,.slice (Aa b cap l sz) (h-l) (cap-l))::e)=(U2,e2))(hg:Xd P f R n ds k ops q S U2 e2 w0 w):Xd P f R n ds k ops q S U e w0 w:=
 Xd.val hT hB ho (λ_ ho a w' _ hf=>XgD hT ho hl hh h1 h2 a hf w') ha hg
theorem Xd.call(hT:Xp P T)(hB:Zu ops q=true){fk d i:Nat}{as:List Value}{v:Value}{U2:List Nat}{e2:Env}(h:Aq (Ge e) n ops q U e U=some ((fk,as),d,i))(hd:∀w',Xc S w0 w'->Xf P fk as.toArray w' (λu w2=>u=v/\Xc Xe w' w2))(ha:Z3 T n ops q (Xt i U) (Xt i U) ((d,false,v)::e)=(U2,e2))(hg:Xd P f R n ds k ops q S U2 e2 w0 w):Xd P f R n ds k ops q S U e w0 w:=
 Xd.valQ hT hB h (λo g a w' b hf=>by
  have c:=hd w' b;unfold D0;rw[Tn g c.fn a hf];exact⟨rfl,c.calls.mono λen w2 ⟨u,j,l,m⟩=>⟨by rw[j,l],m⟩⟩) ha hg
def Jt(ops:Array Oper)(q:Nat)(U:List Nat)(e:Env):List Nat->Option (Nat×Bool)
 |[]=>none
 |i::r=>match Au ops.toList i with
  |none=>Jt ops q U e r
  |some o=>match Hq q U o with
   |false=>Jt ops q U e r
   |true=>match Dm e ops o with
    |some false=>Jt ops q U e r
    |_=>match Tg ops [o] e with
     |some x=>some x
     |none=>Jt ops q U e r
theorem Mt{t:Nat}{p:Bool}:∀{l:List Nat},Jt ops q U e l=some (t,p)->look e t=some (.bool p)
 |[],h=>by simp[Jt] at h
 |j::r,h=>by
  unfold Jt at h;split at h
  .exact Mt h
  .split at h
   .exact Mt h
   .split at h
    .exact Mt h
    .split at h
     .rename_i x hx;cases h;exact XeY hx
     .exact Mt h
theorem Xd.fork(hT:Xp P T)(hB:Zu ops q=true){t:Nat}{p:Bool}{U1 U2:List Nat}{e1 e2:Env}(h:Jt ops q U e U=some (t,p))(ha:Z3 T n ops q U U ((t,true,.bool true)::e)=(U1,e1))(hb:Z3 T n ops q U U ((t,true,.bool false)::e)=(U2,e2))(ht:p=true->Xd P f R n ds k ops q S U1 e1 w0 w)(hf:p=false->Xd P f R n ds k ops q S U2 e2 w0 w):Xd P f R n ds k ops q S U e w0 w:=by
 have a:=Mt h;cases p with
 |true=>exact(Xd.adv hT hB ha (ht rfl)).know a
 |false=>exact(Xd.adv hT hB hb (hf rfl)).know a
theorem Xd.yes(hT:Xp P T)(hB:Zu ops q=true){t:Nat}{p:Bool}{U1:List Nat}{e1:Env}(h:Jt ops q U e U=some (t,p))(hp:p=true)(ha:Z3 T n ops q U U ((t,true,.bool true)::e)=(U1,e1))(hg:Xd P f R n ds k ops q S U1 e1 w0 w):Xd P f R n ds k ops q S U e w0 w:=by
 subst hp;exact(Xd.adv hT hB ha hg).know (Mt h)
theorem Xd.no(hT:Xp P T)(hB:Zu ops q=true){t:Nat}{p:Bool}{U1:List Nat}{e1:Env}(h:Jt ops q U e U=some (t,p))(hp:p=false)(ha:Z3 T n ops q U U ((t,true,.bool false)::e)=(U1,e1))(hg:Xd P f R n ds k ops q S U1 e1 w0 w):Xd P f R n ds k ops q S U e w0 w:=by
 subst hp;exact(Xd.adv hT hB ha hg).know (Mt h)
def C4(ops:Array Oper)(q:Nat)(U:List Nat):List Nat->List Nat
 |[]=>[]
 |i::r=>match Au ops.toList i with
  |none=>C4 ops q U r
  |some o=>match Hq q U o with
   |true=>i::C4 ops q U r
   |false=>C4 ops q U r
theorem Ml{i:Nat}:∀{l:List Nat},i∈C4 ops q U l↔i∈l/\∃o,Au ops.toList i=some o/\Hq q U o=true
 |[]=>by simp[C4]
 |j::r=>by
  unfold C4;split
  .rename_i h
   rw[Ml];constructor
   .rintro⟨h1,h2⟩;exact⟨.tail _ h1,h2⟩
   .rintro⟨h1,o,ho,h2⟩;rcases List.mem_cons.1 h1 with rfl|h1
    .rw[h] at ho;cases ho
    .exact⟨h1,o,ho,h2⟩
  .rename_i o ho
   split
   .rename_i hf
    rw[List.mem_cons,Ml];constructor
    .rintro(rfl|⟨h1,h2⟩)
     .exact⟨.head _,o,ho,hf⟩
     .exact⟨.tail _ h1,h2⟩
    .rintro⟨h1,h2⟩;rcases List.mem_cons.1 h1 with rfl|h1
     .exact .inl rfl
     .exact .inr ⟨h1,h2⟩
   .rename_i hf
    rw[Ml];constructor
    .rintro⟨h1,h2⟩;exact⟨.tail _ h1,h2⟩
    .rintro⟨h1,o',ho',h2⟩;rcases List.mem_cons.1 h1 with rfl|h1
     .rw[ho] at ho';cases ho';rw[hf] at h2;cases h2
     .exact⟨h1,o',ho',h2⟩
def Xn(P:Program)(f:FuncId)(R:Aim)(n:Nat)(ds:List Deferred)(k:List Item)(ops:Array Oper)(q:Nat)(S:Nat->Prop)(U:List Nat)(i:Nat)(e:Env)(w0 w:World):Prop:=
 ∀a:Act,a.defers=ds->X7 n a e->Wu ops q U i->(∀j∈U,j<q)->i∈U->Xc S w0 w->opG P ops i (λa1 w1=>Xc S w0 w1/\H4 P f R ops k q (ops.size-q) S w0 (Xt i U).length (C5 ops.size q (Xt i U)) a1 w1) a w
theorem Xd.turns(hB:Zu ops q=true){i0:Nat}{I:List Nat}(h:C4 ops q U U=i0::I)(hall:∀w',Xc Xe w w' -> ∀i∈i0::I,Xn P f R n ds k ops q S U i e w0 w'):Xd P f R n ds k ops q S U e w0 w:=by
 intro a x hf j b p;have y:i0∈C4 ops q U U:=by rw[h];simp
 obtain⟨c,A,r,s⟩:=Ml.1 y;have t:U≠[]:=by intro l;subst l;simp at c
 have m:=T7 c;rw[<-m];refine⟨⟨i0,XaO hB r c (b _ c) s⟩,λw' g i u=>?_⟩;obtain⟨d,o,z,v⟩:=Xlh hB j t b u;have:=hall w' g i (by rw[<-h];exact Ml.2 ⟨d,o,z,v⟩) a x hf ⟨j,u⟩ b d (p.up g);rw[Xa8 j.1 (b _ d)];have l:(Xt i0 U).length=(Xt i U).length:=by have:=T7 d;omega
 rw[l];exact this
theorem Xd.cK(hB:Zu ops q=true){i:Nat}(h:C4 ops q U U=[i])(h1:∀w',Xc Xe w w'->Xn P f R n ds k ops q S U i e w0 w'):Xd P f R n ds k ops q S U e w0 w:=
 Xd.turns hB h λw' a j b=>by simp at b;subst b;exact h1 w' a
theorem Xd.turn2(hB:Zu ops q=true){i j:Nat}(h:C4 ops q U U=[i,j])(h1:∀w',Xc Xe w w'->Xn P f R n ds k ops q S U i e w0 w')(h2:∀w',Xc Xe w w'->Xn P f R n ds k ops q S U j e w0 w'):Xd P f R n ds k ops q S U e w0 w:=
 Xd.turns hB h λw' a x hx=>by
  rcases List.mem_cons.1 hx with rfl|hx
  .exact h1 w' a
  .simp at hx;subst hx;exact h2 w' a
def Cs{δ:Type}(g:Oper->Option δ)(n:Nat)(ops:Array Oper)(e:Env)(i:Nat):Option (δ×Nat):=
 match Au ops.toList i with
 |some o=>match Dm e ops o with
  |some true=>match o.dst with
   |some d=>match Nat.blt d n with
    |true=>match g o with
     |some x=>some (x,d)
     |none=>none
    |false=>none
   |none=>none
  |_=>none
 |none=>none
theorem Mb{δ:Type}{g:Oper->Option δ}{x:δ}{d i:Nat}(h:Cs g n ops e i=some (x,d)):∃o,Au ops.toList i=some o/\Dm e ops o=some true/\o.dst=some d/\Nat.blt d n=true/\g o=some x:=by
 unfold Cs at h;split at h
 .rename_i o b
  split at h
  .rename_i c
   split at h
   .rename_i k f
    split at h
    .rename_i a
     split at h
     .rename_i y j;cases h;exact⟨o,b,c,f,a,j⟩
     .cases h
    .cases h
   .cases h
  .cases h
 .cases h
theorem Xn.val(hT:Xp P T)(hB:Zu ops q=true){δ:Type}{g:Oper->Option δ}{x:δ}{d i:Nat}{v:Value}{w1:World}{U2:List Nat}{e2:Env}(h:Cs g n ops e i=some (x,d))(hrun:∀o,g o=some x -> ∀a,X7 n a e->(execOp a.eval o).run P w=.ok (.value v) w1)(hc:Xc S w0 w->Xc S w0 w1)(ha:Z3 T n ops q (Xt i U) (Xt i U) ((d,false,v)::e)=(U2,e2))(hg:Xd P f R n ds k ops q S U2 e2 w0 w1):Xn P f R n ds k ops q S U i e w0 w:=by
 obtain⟨o,r,s,t,b,u⟩:=Mb h;intro a c hf l m y p;unfold opG;rw[Bx r];simp only[D2 hf s,if_true];unfold Em;rw[hrun o u a hf];exact⟨hc p,Xd.adv hT hB ha hg _ (by cases o.dst <;> exact c) (Gl (by rw[t];exact Ll b) a hf) (l.rm (m _ y)) (λj z=>m j ((Hs l.1.1).1 z).1) (hc p)⟩
theorem Xn.alloc(hT:Xp P T)(hB:Zu ops q=true){l:List Value}{t d i:Nat}{U2:List Nat}{e2:Nat->Env}(h:Cs (Ix T e) n ops e i=some ((l,t),d))(ha:∀b,Z3 T n ops q (Xt i U) (Xt i U) ((d,false,.pointer (some ⟨b,0,none⟩))::e)=(U2,e2 b))(hg:∀b w1,b=w.heap.size->w1.heap[b]?=some (.cells l.toArray t (0,0))->Xc Xe w w1->w1.heap.size=w.heap.size+1->Xd P f R n ds k ops q S U2 (e2 b) w0 w1):Xn P f R n ds k ops q S U i e w0 w:=
 Xn.val hT hB h (λ_ c a hf=>Tb hT c a hf) (λh=>h.up (E4 _ _)) (ha _) (hg _ _ rfl (by simp) (E4 _ _) (by simp))
theorem Xn.buildSlice(hT:Xp P T)(hB:Zu ops q=true){vs:List Value}{t len d i:Nat}{U2:List Nat}{e2:Nat->Env}(h:Cs (Tl T e) n ops e i=some ((vs,t,len),d))(ha:∀b,Z3 T n ops q (Xt i U) (Xt i U) ((d,false,.slice (some ⟨b,0,none⟩) len len)::e)=(U2,e2 b))(hg:∀b w1,b=w.heap.size->w1.heap[b]?=some (.cells vs.toArray t (0,0))->Xc Xe w w1->w1.heap.size=w.heap.size+1->Xd P f R n ds k ops q S U2 (e2 b) w0 w1):Xn P f R n ds k ops q S U i e w0 w:=
 Xn.val hT hB h (λ_ c a hf=>XdC hT c a hf w) (λh=>h.up (E4 _ _)) (ha _) (hg _ _ rfl (by simp) (E4 _ _) (by simp))
theorem Xn.call{fk d i:Nat}{as:List Value}{Post:Value->World->Prop}(h:Cs (Ge e) n ops e i=some ((fk,as),d))(hk:Nw P fk)(hd:Xc S w0 w->Xf P fk as.toArray w (λv w2=>Xc S w0 w2/\Post v w2))(hg:∀v w1,Xc S w0 w1->Post v w1->Xd P f R n ds k ops q S (Xt i U) ((d,false,v)::e) w0 w1):Xn P f R n ds k ops q S U i e w0 w:=by
 obtain⟨o,s,t,b,g,u⟩:=Mb h;intro a l hf m p x y;unfold opG;rw[Bx s];simp only[D2 hf t,if_true];unfold Em;rw[Tn u hk a hf];exact⟨rfl,(hd y).calls.mono λen w2 ⟨v,r,c,z⟩=>⟨v,r,c,hg v w2 c z _ (by cases o.dst <;> exact l) (Gl (by rw[b];exact Ll g) a hf) (m.rm (p _ x)) (λj A=>p j ((Hs m.1.1).1 A).1) c⟩⟩
theorem Xd.nil(hB:Zu ops q=true)(h:∀w',Xc Xe w w'->Xa P f R n ds (.inRegion ops (List.range' q (ops.size-q))::k) e w'):Xd P f R n ds k ops q S [] e w0 w:=by
 obtain⟨_,v,_,l,c⟩:=Ra hB;intro a m hf _ _ _;refine⟨λi p=>?_,λw' g t=>?_⟩
 .obtain⟨d,o,r,_⟩:=mem_ready.1 p;have j:=(Array.getElem?_eq_some_iff.1 r).1;rw[Le j] at d;rcases Nat.lt_or_ge i q with h1|h1
  .rw[show Nat.blt i q=true from by simpa [Nat.blt_eq] using h1] at d;simp[Dq] at d
  .exact h1
 .rw[XaM _ _ _ c t];intro b cs s u;exact h w' g b cs a s u m hf
theorem Xa.drawn(S:Nat->Prop)(hT:Xp P T)(hm:P.follows .mixedOrders=true){id:Nat}{U2:List Nat}{e2:Env}(hB:Zu ops q=true)(ha:Z3 T n ops q (List.range q) (List.range q) e=(U2,e2))(h':Zu ops q=true->Xd P f R n ds k ops q S U2 e2 w w):Xa P f R n ds (.code (.region id ops true)::k) e w:=by
 have h:=h' hB;obtain⟨s,C,_⟩:=Ra hB;intro b cs a t u v hf;have g:K4 ops (C5 ops.size q (List.range q)):=λj o x d=>by
  have l:=(Array.getElem?_eq_some_iff.1 x).1;rw[Le l] at d;simp only[Bool.and_eq_true,Nat.blt_eq,Bool.not_eq_true'] at d;exact absurd (by simpa using d.1) (Rj.1 d.2)
 have m:=Xd.adv hT hB ha h a v hf ⟨List.nodup_range,g⟩ (λi y=>by simpa using y) (Xc.refl _ _);have z:C5 ops.size q (List.range q)=Array.replicate ops.size false:=by
  apply Array.ext
  .simp[C5]
  .intro i p r;have:Dq i (List.range q)=Nat.blt i q:=by rw[Bool.eq_iff_iff,I2,Nat.blt_eq];simp
   simp[C5,this]
 rw[z,List.length_range] at m;have c:=(m.grown ((Xc.refl _ _).drew _)).any (w:={w with drawn:=w.drawn+1});rw[show q+(ops.size-q)=ops.size from by omega] at c;obtain⟨en,w',fr,A,B,p,r⟩:=c (w.tape w.drawn (.order b.fn id)) b cs t u;refine⟨en,w',fr,A,.of_steps (.one ?_) B,p,r⟩;rw[stepR_region_draw];simp only[Region.schedule,hm,Bool.true_or,if_true];rfl
end
end Go.Proofs.YtdeihcnepljjaaaGreatDoor
