/-
  Rule5
-/
import Derived.Test.YtdeihcnepljjaaaGreatDoorQRule4
namespace Go.Proofs.YtdeihcnepljjaaaGreatDoor
open Go.RowKit
section
variable {P:Program}{T:Tab}{ops:Array Oper}{fn f:FuncId}{R:Aim}{k:List Item}{q tf n:Nat}{ds:List Deferred}{w w':World}{e e':Env}{S:Nat->Prop}
def Em(P:Program)(o:Oper)(a:Act)(w:World)(K:Value->World->Prop):Prop:=
 match (execOp a.eval o).run P w with
 |.ok (.value u) w'=>K u w'
 |.ok .skip w'=>K undef w'
 |.ok (.enter f args) w'=>w'=w/\Calls P f args w (λe w''=>∃v,e=.returned v/\K v w'')
 |_=>False
theorem Xe0{o:Oper}{a:Act}{K K':Value->World->Prop}(h:∀v w',K v w'->K' v w')(hg:Em P o a w K):Em P o a w K':=by
 unfold Em at *;split
 .rename_i hr;simp only[hr] at hg;exact h _ _ hg
 .rename_i hr;simp only[hr] at hg;exact h _ _ hg
 .rename_i hr;simp only[hr] at hg;exact⟨hg.1,hg.2.mono λen f ⟨v,b,c⟩=>⟨v,b,h _ _ c⟩⟩
 .rename_i b d c
  split at hg
  .rename_i hr;exact absurd hr (b _ _)
  .rename_i hr;exact absurd hr (d _)
  .rename_i hr;exact absurd hr (c _ _ _)
  .exact hg
def opG(P:Program)(ops:Array Oper)(i:Nat)(K:Act->World->Prop)(a:Act)(w:World):Prop:=
 match ops[i]? with
 |none=>False
 |some o=>if Region.wanted o (yielded ops a.tmps) then Em P o a w (λv w'=>K (a.put o.dst v) w') else K (a.put o.dst undef) w
theorem Xlo{i:Nat}{K K':Act->World->Prop}{a:Act}(h:∀a' w',K a' w'->K' a' w')(hg:opG P ops i K a w):opG P ops i K' a w:=by
 unfold opG at *;split
 .rename_i b;simp only[b] at hg
 .rename_i o b
  simp only[b] at hg;split
  .rename_i c;simp only[c,if_true] at hg;exact Xe0 (λv w' d=>h _ _ d) hg
  .rename_i c;simp only[c] at hg;exact h _ _ hg
theorem Xka{o:Oper}{a:Act}{v:Value}{K:Value->World->Prop}(hq:D1 P o a w v)(h:∀w1,Xc Xf w w1->K v w1):Em P o a w K:=by
 unfold D1 at hq;unfold Em;split at hq
 .rename_i hr;obtain⟨rfl,rfl⟩:=hq;simp only[hr];exact h _ (Xc.refl _ _)
 .rename_i hr;obtain⟨rfl,rfl⟩:=hq;simp only[hr];exact h _ (Xc.refl _ _)
 .rename_i hr;obtain⟨rfl,b⟩:=hq;simp only[hr];exact⟨trivial,b.mono λen f ⟨c,d⟩=>⟨_,c,h _ d⟩⟩
 .exact hq.elim
theorem YS.opG{C:World->Prop}{i:Nat}{o:Oper}{v:Value}{a:Act}(hi:ops[i]?=some o)(hy:YS P ops C o v a)(hC:C w){K:Act->World->Prop}(h:∀w1,Xc Xf w w1->K (a.put o.dst v) w1):Go.Proofs.YtdeihcnepljjaaaGreatDoor.opG P ops i K a w:=by
 unfold Go.Proofs.YtdeihcnepljjaaaGreatDoor.opG;simp only[hi];rcases hy with⟨b,c⟩|⟨b,rfl⟩
 .simp only[b,if_true];exact Xka (c w hC) h
 .simp only[b,Bool.false_eq_true,if_false];exact h _ (Xc.refl _ _)
theorem Xc.up{S:Nat->Prop}{w w1 w2:World}(h:Xc S w w1)(k:Xc Xf w1 w2):Xc S w w2:=h.trans (k.mono λ_ _ h=>h.elim)
theorem Xc.cell{S:Nat->Prop}{w w':World}(h:Xc S w w'){b off:Nat}{v:Value}(hc:w.cell? ⟨b,off,none⟩=some v)(hS:¬S b):w'.cell? ⟨b,off,none⟩=some v:=by
 have a:=World.block_lt_of_cell? w _ hc;rw[<-hc];simp only[World.cell?,h.block b a hS]
theorem Xlp{j:Nat}{oi oj:Oper}{v:Value}{w0:World}(hj:ops[j]?=some oj)(hap:oi.apart ops oj=true)(hsi:∀cs b,oi.op≠.select cs b)(hsj:∀cs b,oj.op≠.select cs b){K:Act->World->Prop}{a:Act}(hy:YS P ops (λx=>Xc S w0 x) oi v a)(h:opG P ops j K (a.put oi.dst v) w):opG P ops j (λa' w'=>YS P ops (λx=>Xc S w0 x) oi v a'/\K (a'.put oi.dst v) w') a w:=by
 obtain⟨d,f,g⟩:=Oper.apart_spec hap;have bV:∀(a:Act),YS P ops (λx=>Xc S w0 x) oi v a -> ∀u,YS P ops (λx=>Xc S w0 x) oi v (a.put oj.dst u):=λa hy u=>
  hy.of_same (execOp_put oi hsi a oj.dst u g) (wanted_put oi a oj.dst u g)
 unfold opG at *;simp only[hj] at *;rw[wanted_put oj a oi.dst v d] at h;split
 .rename_i c
  simp only[c,if_true] at h;have i:Em P oj a w (λu w'=>K ((a.put oi.dst v).put oj.dst u) w'):=by
   unfold Em at *
   rwa [execOp_put oj hsj a oi.dst v d] at h
  refine Xe0 (λu w' k=>⟨bV a hy u,?_⟩) i;rw[<-Act.put_comm a v u f];exact k
 .rename_i c
  simp only[c] at h;exact⟨bV a hy _,by rw[<-Act.put_comm a v undef f];exact h⟩
theorem Bj.bQ{i:Nat}{l:List Nat}{o:Oper}{a:Act}{K:Value->World->Prop}(ho:ops[i]?=some o)(hw:Region.wanted o (yielded ops a.tmps)=true)(hq:Em P o a w K)(h:∀v w1,K v w1->Bj P fn R ops k l (a.put o.dst v) w1):Bj P fn R ops k (i::l) a w:=by
 unfold Em at hq;split at hq
 .rename_i u w' hr;exact Bj.value ho hw (.inl hr) (h _ _ hq)
 .rename_i w' hr;exact Bj.value ho hw (.inr ⟨hr,rfl⟩) (h _ _ hq)
 .rename_i fc args w' hr
  obtain⟨rfl,g⟩:=hq;intro b cs q r;obtain⟨en,w1,fr,⟨v,m,s⟩,c,_,d⟩:=g (b.atR a (.inRegion ops (i::l)::k)::cs);subst m;have f:Go.step P (lone (b.atR a (.inRegion ops (i::l)::k)) cs w')=.next (lone (Frame.enter P fc args .normal) (b.atR a (.inRegion ops (i::l)::k)::cs) w'):=
   step_lone_go (by rw[K9 ho hw hr xS];simp[stepG.apply,hr,Frame.atR])
  obtain⟨n,t,p,x,y,z,A⟩:=h v w1 s b cs q r;refine⟨n,t,p,x,.of_steps (.head f (Steps.trans c (.one ?_))) y,z,A⟩;have j:(b.atR a (.inRegion ops (i::l)::k)).finish v=b.atR (a.put o.dst v) (.inRegion ops l::k):=by
   rw[Frame.finish_atR,ho];rfl
  rw[<-j];exact step_leave_returned d
 .exact hq.elim
def H8(P:Program)(fn:FuncId)(R:Aim)(ops:Array Oper)(k:List Item)(q tf:Nat)(S:Nat->Prop)(w0:World):Nat->Array Bool->Act->World->Prop
 |0,L,a,w=>(∀i∈Region.ready md ops L,q<=i)/\∀w',Xc Xf w w'->H7 P fn R ops k tf L a w'
 |m+1,L,a,w=>(∃i,i∈Region.ready md ops L)/\∀w',Xc Xf w w' -> ∀i∈Region.ready md ops L,opG P ops i (λa1 w1=>Xc S w0 w1/\H8 P fn R ops k q tf S w0 m (L.setIfInBounds i true) a1 w1) a w'
theorem H8.grown{w0:World}:∀{m:Nat} {L:Array Bool} {a:Act},H8 P fn R ops k q tf S w0 m L a w->Xc Xf w w'->H8 P fn R ops k q tf S w0 m L a w'
 |0,_,_,h,hc=>⟨h.1,λx hx=>h.2 x (hc.trans hx)⟩
 |_+1,_,_,h,hc=>⟨h.1,λx hx=>h.2 x (hc.trans hx)⟩
theorem H8.any{w0:World}:∀{m:Nat} {L:Array Bool} {a:Act} {w:World},H8 P fn R ops k q tf S w0 m L a w->H7 P fn R ops k (m+tf) L a w
 |0,L,a,w,h=>by rw[Nat.zero_add];exact h.2 w (Xc.refl _ _)
 |m+1,L,a,w,h=>by
  rw[show m+1+tf=(m+tf)+1 from by omega];refine H7.step h.1 λi hi t=>?_;have b:=h.2 w (Xc.refl _ _) i hi;unfold opG at b;split at b
  .exact b.elim
  .rename_i o d
   split at b
   .rename_i c;exact Bj.bQ d c b λv g f=>(H8.any f.2) t
   .rename_i c;exact Bj.skip d (xU c) ((H8.any b.2) t)
inductive Reach(ops:Array Oper):Nat->Nat->Prop
 |one {j i:Nat} {o:Oper} {e:_}:ops[j]?=some o->e∈o.after->Region.binds md e=true->e.on=i->Reach ops j i
 |step {j p i:Nat} {o:Oper} {e:_}:ops[j]?=some o->e∈o.after->Region.binds md e=true->e.on=p->Reach ops p i->Reach ops j i
def Ld(ops:Array Oper)(L:Array Bool):Prop:=∀j o,ops[j]?=some o->L.getD j false=true -> ∀e∈o.after,Region.binds md e=true->L.getD e.on false=true
theorem Reach.listed{j i:Nat}{L:Array Bool}(h:Reach ops j i)(hc:Ld ops L)(hall:∀o,ops[j]?=some o -> ∀e∈o.after,Region.binds md e=true->L.getD e.on false=true):L.getD i false=true:=by
 induction h with
 |one b c d a=>rw[<-a];exact hall _ b _ c d
 |step b c d a _ ih=>
  have f:=hall _ b _ c d;rw[a] at f;exact ih λo' g e' k l=>hc _ o' g f e' k l
theorem Ld.set{j:Nat}{L:Array Bool}(h:Ld ops L)(hr:j∈Region.ready md ops L):Ld ops (L.setIfInBounds j true):=by
 obtain⟨_,o,k,c⟩:=mem_ready.1 hr;have up:∀x,L.getD x false=true->(L.setIfInBounds j true).getD x false=true:=λx d=>by
  by_cases a:j=x
  .subst a;rcases Nat.lt_or_ge j L.size with h'|h'
   .simp[h']
   .simp[Array.getElem?_eq_none h'] at d
  .rw[getD_set_ne false a];exact d
 intro x ox b f e g i;by_cases a:j=x
 .subst a;rw[k] at b;cases b;exact up _ (c e g i)
 .rw[getD_set_ne false a] at f;exact up _ (h x ox b f e g i)
theorem XiB{w0:World}{i:Nat}{oi:Oper}{v:Value}(hi:ops[i]?=some oi)(hsel:∀(j:Nat) (o:Oper) cs b,ops[j]?=some o->o.op≠.select cs b)(htail:∀j o,q<=j->ops[j]?=some o->Reach ops j i):∀(m:Nat) (L:Array Bool) (a:Act) (w:World),Xc S w0 w->Ld ops L ->
  (∀j oj,ops[j]?=some oj->j<q->j≠i->L.getD j true=false->(∀e∈oj.after,Region.binds md e=true->e.on≠i)->oi.apart ops oj=true) ->
  i∈Region.ready md ops L->YS P ops (λx=>Xc S w0 x) oi v a ->
  H8 P fn R ops k q tf S w0 m (L.setIfInBounds i true) (a.put oi.dst v) w->H8 P fn R ops k q tf S w0 (m+1) L a w:=by
 have p:∀(L:Array Bool) (_:World),Ld ops L->i∈Region.ready md ops L -> ∀j,j∈Region.ready md ops L->q<=j->False:=λL _ g hr j h K=>by
  obtain⟨_,o,F,n⟩:=mem_ready.1 h;have B:=(htail j o K F).listed g (λo' C e M N=>by rw[F] at C;cases C;exact n e M N);obtain⟨f,_⟩:=mem_ready.1 hr;rcases Nat.lt_or_ge i L.size with h'|h'
  .simp[h'] at B f;rw[B] at f;cases f
  .simp[Array.getElem?_eq_none h'] at f
 intro m
 induction m with
 |zero=>
  intro L a w s g _ hr z H;refine⟨⟨i,hr⟩,λw' c j h=>?_⟩;by_cases d:j=i
  .subst d;exact z.opG hi (s.up c) λE l=>⟨(s.up c).up l,H.grown (c.trans l)⟩
  .exact(p L w g hr j h (H.1 j (ready_mono h d))).elim
 |succ m ih=>
  intro L a w s g r hr z H;refine⟨⟨i,hr⟩,λw' c j h=>?_⟩;by_cases d:j=i
  .subst d;exact z.opG hi (s.up c) λE l=>⟨(s.up c).up l,H.grown (c.trans l)⟩
  .have O:=H.2 w' c j (ready_mono h d);obtain⟨t,oj,u,n⟩:=mem_ready.1 h;have G:j<q:=by
    rcases Nat.lt_or_ge j q with h'|h'
    .exact h'
    .exact(p L w g hr j h h').elim
   have Q:=Xlp u (r j oj u G d t (Xgi hr n)) (λcs b=>hsel i oi cs b hi) (λcs b=>hsel j oj cs b u) z O;have y:∀x ox,ops[x]?=some ox->x<q->x≠i->(L.setIfInBounds j true).getD x true=false ->
    (∀e∈ox.after,Region.binds md e=true->e.on≠i)->oi.apart ops ox=true:=λx ox T I J f p=>by
    refine r x ox T I J ?_ p;by_cases D:j=x
    .subst D;exact t
    .rw[getD_set_ne true D] at f;exact f
   refine Xlo (λa' E A=>⟨A.2.1,ih (L.setIfInBounds j true) a' E A.2.1 (g.set h) y (ready_mono hr (Ne.symm d)) A.1 ?_⟩) Q;rw[Array.setIfInBounds_comm _ _ d];exact A.2.2
end
def Dp(i:Nat):List Nat->Bool
 |[]=>false
 |j::r=>match Nat.beq i j with
  |true=>true
  |false=>Dp i r
def Xv(i:Nat):List Nat->List Nat
 |[]=>[]
 |j::r=>match Nat.beq i j with
  |true=>r
  |false=>j::Xv i r
theorem I7{i:Nat}:∀{U:List Nat},Dp i U=true↔i∈U
 |[]=>by simp[Dp]
 |j::r=>by
  unfold Dp;cases h:Nat.beq i j with
  |true=>have:=Nat.eq_of_beq_eq_true h;subst this;simp
  |false=>
   have:i≠j:=Nat.ne_of_beq_eq_false h;simp only[List.mem_cons,this,false_or];exact I7
theorem R6{i:Nat}{U:List Nat}:Dp i U=false↔i∉U:=by
 rw[<-I7];simp
theorem Hx{i j:Nat}:∀{U:List Nat},U.Nodup->(j∈Xv i U↔j∈U/\j≠i)
 |[],_=>by simp[Xv]
 |x::r,c=>by
  obtain⟨d,f⟩:=List.nodup_cons.1 c;unfold Xv;cases h:Nat.beq i x with
  |true=>
   have:=Nat.eq_of_beq_eq_true h;subst this;simp only[List.mem_cons];constructor
   .intro hj;exact⟨.inr hj,λe=>d (e▸hj)⟩
   .rintro⟨hj|hj,a⟩
    .exact absurd hj a
    .exact hj
  |false=>
   have a:i≠x:=Nat.ne_of_beq_eq_false h;simp only[List.mem_cons,Hx f];constructor
   .rintro(rfl|⟨h3,b⟩)
    .exact⟨.inl rfl,Ne.symm a⟩
    .exact⟨.inr h3,b⟩
   .rintro⟨rfl|h3,b⟩
    .exact .inl rfl
    .exact .inr ⟨h3,b⟩
theorem XfO{i:Nat}:∀{U:List Nat},U.Nodup->(Xv i U).Nodup
 |[],_=>by simp[Xv]
 |x::r,b=>by
  obtain⟨c,a⟩:=List.nodup_cons.1 b;unfold Xv;cases h:Nat.beq i x with
  |true=>exact a
  |false=>exact List.nodup_cons.2 ⟨λd=>c ((Hx a).1 d).1,XfO a⟩
theorem Uy{i:Nat}:∀{U:List Nat},i∈U->(Xv i U).length+1=U.length
 |[],h=>by simp at h
 |x::r,h=>by
  unfold Xv;cases b:Nat.beq i x with
  |true=>rfl
  |false=>
   have a:i≠x:=Nat.ne_of_beq_eq_false b;have:i∈r:=by rcases List.mem_cons.1 h with h|h;exact absurd h a;exact h
   simp only[List.length_cons,Uy this]
def C4(s q:Nat)(U:List Nat):Array Bool:=((List.range s).map λi=>Nat.blt i q && !Dp i U).toArray
theorem Lr{s q i:Nat}{U:List Nat}{d:Bool}(h:i<s):(C4 s q U).getD i d=(Nat.blt i q && !Dp i U):=by
 simp[C4,h]
theorem XbC{s q i:Nat}{U:List Nat}(hn:U.Nodup)(hq:i<q):(C4 s q U).setIfInBounds i true=C4 s q (Xv i U):=by
 apply Array.ext
 .simp[C4]
 .intro j b c;have d:j<s:=by simpa [C4] using c
  rw[Array.getElem_setIfInBounds];split
  .rename_i a;subst a
   have:Dp i (Xv i U)=false:=R6.2 (λh=>((Hx hn).1 h).2 rfl);simp[C4,this,hq,Nat.blt_eq]
  .rename_i a
   have:Dp j (Xv i U)=Dp j U:=by
    rw[Bool.eq_iff_iff,I7,I7,Hx hn];exact⟨λh=>h.1,λh=>⟨h,Ne.symm a⟩⟩
   simp[C4,this]
  .simpa using b
def Hu(q:Nat)(U:List Nat)(o:Oper):Bool:=o.after.toList.all λe=>!Region.binds md e||(Nat.blt e.on q && !Dp e.on U)
section
variable {P:Program}{T:Tab}{ops:Array Oper}{fn f:FuncId}{R:Aim}{k:List Item}{q tf n:Nat}{ds:List Deferred}{w w' w0:World}{e e':Env}{U:List Nat}{S:Nat->Prop}
def Oy(ops:Array Oper)(j i:Nat):Bool:=match ops[j]? with
 |some o=>o.after.any λe=>Region.binds md e && e.on == i
 |none=>false
def XaC:List Oper->List Nat->List Nat
 |[],acc=>acc
 |o::r,acc=>XaC r (acc++[o.after.toList.foldl (λm e=>bif Region.binds md e then m|||(1 <<< e.on)|||acc.getD e.on 0 else m) 0])
theorem XdM(acc:List Nat)(i:Nat):∀(l:List _) (m:Nat),(l.foldl (λm e=>bif Region.binds md e then m|||(1 <<< e.on)|||acc.getD e.on 0 else m) m).testBit i=true->m.testBit i=true\/∃e∈l,Region.binds md e=true/\(e.on=i\/(acc.getD e.on 0).testBit i=true)
 |[],m,h=>.inl h
 |e::l,m,h=>by
  rw[List.foldl_cons] at h;rcases XdM acc i l _ h with h1|⟨x,hx,hb,h2⟩
  .cases hb:Region.binds md e with
   |false=>rw[hb] at h1;exact .inl h1
   |true=>
    rw[hb] at h1;simp only[cond_true,Nat.testBit_or,Bool.or_eq_true] at h1;rcases h1 with(h1|h1)|h1
    .exact .inl h1
    .rw[Nat.one_shiftLeft,Nat.testBit_two_pow] at h1;exact .inr ⟨e,xS,hb,.inl (of_decide_eq_true h1)⟩
    .exact .inr ⟨e,xS,hb,.inr h1⟩
  .exact .inr ⟨x,by simp[hx],hb,h2⟩
theorem XdN:∀(l:List Oper) (acc:List Nat),(∀j,l[j]?=ops[acc.length+j]?)->(∀j i,(acc.getD j 0).testBit i=true->Reach ops j i) -> ∀j i,((XaC l acc).getD j 0).testBit i=true->Reach ops j i
 |[],acc,_,h,j,i,a=>h j i a
 |o::r,acc,c,h,j,i,a=>by
  refine XdN r _ (λj=>?_) (λj i a=>?_) j i a
  .have:=c (j+1);simp only[List.length_append,List.length_singleton];rw[show acc.length+1+j=acc.length+(j+1) from by omega,<-this]
   simp
  .have d:ops[acc.length]?=some o:=by have:=c 0;simpa using this.symm
   rcases Nat.lt_trichotomy j acc.length with hj|hj|hj
   .rw[List.getD_eq_getElem?_getD,List.getElem?_append_left hj,<-List.getD_eq_getElem?_getD] at a;exact h j i a
   .subst hj;rw[List.getD_eq_getElem?_getD,List.getElem?_append_right (Nat.le_refl _)] at a;simp only[Nat.sub_self,List.getElem?_cons_zero,Option.getD_some] at a;rcases XdM acc i _ _ a with g|⟨e,f,b,h2|h2⟩
    .simp at g
    .exact .one d (xU f) b h2
    .exact .step d (xU f) b rfl (h _ _ h2)
   .rw[List.getD_eq_getElem?_getD,List.getElem?_append_right X,List.getElem?_eq_none xQ] at a;simp at a
def Z0(ops:Array Oper)(q:Nat):Bool:=
 Region.noSelect ops && Nat.ble q ops.size &&
 (List.range q).all (λi=>(List.range q).all λj=>i == j||Oy ops i j||Oy ops j i||(match ops[i]?,ops[j]? with|some a,some b=>a.apart ops b|_,_=>false)) &&
 (let A:=XaC ops.toList [];(List.range' q (ops.size-q)).all (λj=>(List.range q).all λi=>(A.getD j 0).testBit i)) &&
 M9 ops (ops.size-q) q (C4 ops.size q [])
theorem Xex{i j:Nat}{o:Oper}(ho:ops[j]?=some o)(h:Oy ops j i=true):∃e∈o.after,Region.binds md e=true/\e.on=i:=by
 unfold Oy at h;rw[ho] at h;obtain⟨e,b,a⟩:=Array.any_eq_true'.1 h;simp only[Bool.and_eq_true,beq_iff_eq] at a;exact⟨e,b,a.1,a.2⟩
theorem Rz(h:Z0 ops q=true):Region.noSelect ops=true/\q<=ops.size/\
 (∀i j oi oj,i<q->j<q->i≠j->ops[i]?=some oi->ops[j]?=some oj->Oy ops i j=true\/Oy ops j i=true\/oi.apart ops oj=true)/\
 (∀j o i,q<=j->ops[j]?=some o->i<q->Reach ops j i)/\M9 ops (ops.size-q) q (C4 ops.size q [])=true:=by
 unfold Z0 at h;simp only[Bool.and_eq_true] at h;obtain⟨⟨⟨⟨f,g⟩,k⟩,l⟩,m⟩:=h;refine⟨f,by simpa [Nat.ble_eq] using g,λi j oi oj hi a b c d=>?_,λj o i a n hi=>?_,m⟩
 .have:=List.all_eq_true.1 (List.all_eq_true.1 k i (xU hi)) j (xU a);rw[c,d] at this;simp only[Bool.or_eq_true,beq_iff_eq] at this;rcases this with((h|h)|h)|h
  .exact absurd h b
  .exact .inl h
  .exact .inr (.inl h)
  .exact .inr (.inr h)
 .have p:=(Array.getElem?_eq_some_iff.1 n).1;exact XdN ops.toList [] (λx=>xS) (λx y h=>by simp at h) j i (List.all_eq_true.1 (List.all_eq_true.1 l j (by rw[List.mem_range'];exact⟨j-q,X,X⟩)) i (xU hi))
def Nd(ops:Array Oper)(q:Nat)(U:List Nat):Prop:=U.Nodup/\Ld ops (C4 ops.size q U)
theorem Nd.rm{i:Nat}(h:Nd ops q U)(hq:i<q)(hr:i∈Region.ready md ops (C4 ops.size q U)):Nd ops q (Xv i U):=⟨XfO h.1,by rw[<-XbC h.1 hq];exact h.2.set hr⟩
def NdT(ops:Array Oper)(q:Nat)(U:List Nat)(i:Nat):Prop:=Nd ops q U/\i∈Region.ready md ops (C4 ops.size q U)
theorem NdT.rm{i:Nat}(h:NdT ops q U i)(hq:i<q):Nd ops q (Xv i U):=h.1.rm hq h.2
def Xd(P:Program)(f:FuncId)(R:Aim)(n:Nat)(ds:List Deferred)(k:List Item)(ops:Array Oper)(q:Nat)(S:Nat->Prop)(U:List Nat)(e:Env)(w0 w:World):Prop:=
 ∀a:Act,a.defers=ds->Za n a e->Nd ops q U->(∀i∈U,i<q)->Xc S w0 w->H8 P f R ops k q (ops.size-q) S w0 U.length (C4 ops.size q U) a w
theorem Xbj(hB:Z0 ops q=true){i:Nat}{o:Oper}(ho:Av ops.toList i=some o)(hU:i∈U)(hq:i<q)(h:Hu q U o=true):i∈Region.ready md ops (C4 ops.size q U):=by
 obtain⟨_,c,_⟩:=Rz hB;refine mem_ready.2 ⟨?_,o,Bx ho,λe a b=>?_⟩
 .rw[Lr X,I7.2 hU];simp
 .have:=List.all_eq_true.1 h e (xU a);rw[b] at this;simp only[Bool.not_true,Bool.false_or,Bool.and_eq_true,Nat.blt_eq] at this;rw[Lr X];simp only[Bool.and_eq_true,Nat.blt_eq];exact this
theorem Xl9(hB:Z0 ops q=true)(hn:Nd ops q U)(hU:U≠[])(hlt:∀i∈U,i<q){i:Nat}(h:i∈Region.ready md ops (C4 ops.size q U)):i∈U/\∃o,Av ops.toList i=some o/\Hu q U o=true:=by
 obtain⟨_,u,_,f,_⟩:=Rz hB;obtain⟨k,o,g,b⟩:=mem_ready.1 h;have l:=(Array.getElem?_eq_some_iff.1 g).1;have key:∀e∈o.after,Region.binds md e=true->e.on<q/\e.on∉U:=λe c d=>by
  have a:=b e c d;by_cases m:e.on<ops.size
  .rw[Lr m] at a;simp only[Bool.and_eq_true,Nat.blt_eq,Bool.not_eq_true'] at a;exact⟨a.1,R6.1 a.2⟩
  .simp[C4,m] at a
 have n:i<q:=by
  rcases Nat.lt_or_ge i q with h'|h'
  .exact h'
  .cases U with
   |nil=>exact absurd rfl hU
   |cons x r=>
    have p:=(f i o x h' g (hlt x xS)).listed hn.2 (λo' j e c d=>by rw[g] at j;cases j;exact b e c d);have v:=hlt x xS;rw[Lr X] at p;simp[Dp] at p
 rw[Lr l] at k;refine⟨?_,o,by rw[XbM];simpa using g,?_⟩
 .have a:(Nat.blt i q)=true:=by simpa [Nat.blt_eq] using n
  rw[a] at k;exact I7.1 (xU k)
 .unfold Hu;rw[List.all_eq_true];intro e c;cases d:Region.binds md e with
  |false=>rfl
  |true=>
   obtain⟨s,t⟩:=key e (xU c) d;simp only[Bool.not_true,Bool.false_or,Bool.and_eq_true,Nat.blt_eq,Bool.not_eq_true'];exact⟨s,R6.2 t⟩
theorem Xd.first(hB:Z0 ops q=true){i:Nat}{o:Oper}{v:Value}(ho:Av ops.toList i=some o)(hU:i∈U)(hfree:Hu q U o=true)(hy:∀a,Za n a e->YS P ops (λx=>Xc S w0 x) o v a)(hfit:∀a:Act,Za n a e->Za n (a.put o.dst v) e')(h:Xd P f R n ds k ops q S (Xv i U) e' w0 w):Xd P f R n ds k ops q S U e w0 w:=by
 obtain⟨t,G,g,m,_⟩:=Rz hB;intro a F hf p r B;have b:=r i hU;have u:=Uy hU;rw[<-u];refine XiB (Bx ho) (Region.noSelect_spec t) (λj oj y c=>m j oj i y c b) _ _ a w B p.2 (λj oj c s C d D=>?_) (Xbj hB ho hU b hfree) (hy a hf) ?_
 .have E:=(Array.getElem?_eq_some_iff.1 c).1
  .rcases g i j o oj b s (Ne.symm C) (Bx ho) c with h1|h1|h1
   .exfalso
    obtain⟨x,z,A,l⟩:=Xex (Bx ho) h1;have:=List.all_eq_true.1 hfree x (xU z);rw[A] at this;simp only[Bool.not_true,Bool.false_or,Bool.and_eq_true,Nat.blt_eq,Bool.not_eq_true',l] at this;rw[Lr E,this.2] at d;simp only[Bool.not_false,Bool.and_true] at d;rw[show Nat.blt j q=true from by simpa [Nat.blt_eq] using s] at d;cases d
   .exfalso
    obtain⟨x,z,A,l⟩:=Xex c h1;exact D x z A l
   .exact h1
 .rw[XbC p.1 b];exact h _ (by cases o.dst <;> exact F) (hfit a hf) (p.rm b (Xbj hB ho hU b hfree)) (λj y=>r j ((Hx p.1).1 y).1) B
theorem Xd.weaken(h:Xd P f R n ds k ops q S U e' w0 w)(hs:∀t v,look e' t=some v->look e t=some v):Xd P f R n ds k ops q S U e w0 w:=λa b hf=>h a b (hf.weaken hs)
theorem Xd.know{t:Nat}{b:Bool}{v:Value}(h:look e t=some v)(hg:Xd P f R n ds k ops q S U ((t,b,v)::e) w0 w):Xd P f R n ds k ops q S U e w0 w:=
 hg.weaken λu x a=>by
  rw[Kx] at a;by_cases c:u=t
  .subst c;rw[if_pos rfl] at a;rw[h,a]
  .rwa [if_neg c] at a
theorem Xd.one(hB:Z0 ops q=true){i:Nat}{o:Oper}{v:Value}{fl:Bool}(ho:Av ops.toList i=some o)(hU:i∈U)(hfree:Hu q U o=true)(hw:Dl e ops o=some true)(hp:Fy n o.dst fl v e=some e')(hrun:∀a w',Xc S w0 w'->Za n a e->D1 P o a w' v)(h:Xd P f R n ds k ops q S (Xv i U) e' w0 w):Xd P f R n ds k ops q S U e w0 w:=
 Xd.first hB ho hU hfree (λa hf=>.inl ⟨D6 hf hw,λw' b=>hrun a w' b hf⟩) (λa hf=>Gq hp a hf) h
theorem Xd.skip(hB:Z0 ops q=true){i:Nat}{o:Oper}{fl:Bool}(ho:Av ops.toList i=some o)(hU:i∈U)(hfree:Hu q U o=true)(hw:Dl e ops o=some false)(hp:Fy n o.dst fl undef e=some e')(h:Xd P f R n ds k ops q S (Xv i U) e' w0 w):Xd P f R n ds k ops q S U e w0 w:=
 Xd.first hB ho hU hfree (λa hf=>.inr ⟨D6 hf hw,rfl⟩) (λa hf=>Gq hp a hf) h
def Z7(T:Tab)(n:Nat)(ops:Array Oper)(q:Nat):List Nat->List Nat->Env->List Nat×Env
 |[],U,e=>(U,e)
 |i::r,U,e=>match Av ops.toList i with
  |none=>Z7 T n ops q r U e
  |some o=>match Dp i U && Hu q U o with
   |false=>Z7 T n ops q r U e
   |true=>match Dl e ops o with
    |some false=>match Fy n o.dst true undef e with
     |some e'=>Z7 T n ops q r (Xv i U) e'
     |none=>Z7 T n ops q r U e
    |some true=>match Sn T e o.op with
     |some v=>match Fy n o.dst (opF e o.op) v e with
      |some e'=>Z7 T n ops q r (Xv i U) e'
      |none=>Z7 T n ops q r U e
     |none=>Z7 T n ops q r U e
    |none=>Z7 T n ops q r U e
theorem Kj(hT:Xp P T)(hB:Z0 ops q=true):∀(l U:List Nat) (e:Env),Xd P f R n ds k ops q S (Z7 T n ops q l U e).1 (Z7 T n ops q l U e).2 w0 w->Xd P f R n ds k ops q S U e w0 w
 |[],U,e,h=>h
 |i::r,U,e,h=>by
  unfold Z7 at h;split at h
  .exact Kj hT hB r U e h
  .rename_i o g
   split at h
   .exact Kj hT hB r U e h
   .rename_i b
    simp only[Bool.and_eq_true] at b;obtain⟨j,b⟩:=b;split at h
    .rename_i c
     split at h
     .rename_i e' d;exact Xd.skip hB g (I7.1 j) b c d (Kj hT hB r _ e' h)
     .exact Kj hT hB r U e h
    .rename_i c
     split at h
     .rename_i v m
      split at h
      .rename_i e' d
       exact Xd.one hB g (I7.1 j) b c d (λa w' _ hf=>by unfold D1;rw[XbP hT hf m w'];exact⟨rfl,rfl⟩) (Kj hT hB r _ e' h)
      .exact Kj hT hB r U e h
     .exact Kj hT hB r U e h
    .exact Kj hT hB r U e h
theorem Xd.adv(hT:Xp P T)(hB:Z0 ops q=true){U':List Nat}(h:Z7 T n ops q U U e=(U',e'))(hg:Xd P f R n ds k ops q S U' e' w0 w):Xd P f R n ds k ops q S U e w0 w:=Kj hT hB U U e (by rw[h];exact hg)
def Au{δ:Type}(g:Oper->Option δ)(n:Nat)(ops:Array Oper)(q:Nat)(U:List Nat)(e:Env):List Nat->Option (δ×Nat×Nat)
 |[]=>none
 |i::r=>match Av ops.toList i with
  |none=>Au g n ops q U e r
  |some o=>match Hu q U o with
   |false=>Au g n ops q U e r
   |true=>match Dl e ops o with
    |some true=>match o.dst with
     |some d=>match Nat.blt d n with
      |true=>match g o with
       |some x=>some (x,d,i)
       |none=>Au g n ops q U e r
      |false=>Au g n ops q U e r
     |none=>Au g n ops q U e r
    |_=>Au g n ops q U e r
theorem XeN{δ:Type}{g:Oper->Option δ}{x:δ}{d i:Nat}:∀{l:List Nat},Au g n ops q U e l=some (x,d,i)->i∈l/\∃o,Av ops.toList i=some o/\Hu q U o=true/\Dl e ops o=some true/\o.dst=some d/\Nat.blt d n=true/\g o=some x
 |[],h=>by simp[Au] at h
 |j::r,h=>by
  have rec':Au g n ops q U e r=some (x,d,i)->i∈j::r/\∃o,Av ops.toList i=some o/\Hu q U o=true/\Dl e ops o=some true/\o.dst=some d/\Nat.blt d n=true/\g o=some x:=λh=>by
   obtain⟨c,f⟩:=XeN h;exact⟨.tail _ c,f⟩
  unfold Au at h;split at h
  .exact rec' h
  .rename_i o k
   split at h
   .exact rec' h
   .rename_i a
    split at h
    .rename_i m
     split at h
     .rename_i t p
      split at h
      .rename_i b
       split at h
       .rename_i y s;cases h;exact⟨.head _,o,k,a,m,p,b,s⟩
       .exact rec' h
      .exact rec' h
     .exact rec' h
    .exact rec' h
theorem Lz{d:Nat}{v:Value}(h:Nat.blt d n=true):Fy n (some d) false v e=some ((d,false,v)::e):=by
 rw[Xca];unfold Ns;simp only[h];rfl
theorem Xd.valQ(hT:Xp P T)(hB:Z0 ops q=true){δ:Type}{g:Oper->Option δ}{x:δ}{d i:Nat}{v:Value}{U2:List Nat}{e2:Env}(h:Au g n ops q U e U=some (x,d,i))(hrun:∀o,g o=some x -> ∀a w',Xc S w0 w'->Za n a e->D1 P o a w' v)(ha:Z7 T n ops q (Xv i U) (Xv i U) ((d,false,v)::e)=(U2,e2))(hg:Xd P f R n ds k ops q S U2 e2 w0 w):Xd P f R n ds k ops q S U e w0 w:=by
 obtain⟨j,o,l,b,m,p,c,r⟩:=XeN h;exact Xd.one hB l j b m (by rw[p];exact Lz c) (hrun o r) (Xd.adv hT hB ha hg)
theorem Xd.val(hT:Xp P T)(hB:Z0 ops q=true){δ:Type}{g:Oper->Option δ}{x:δ}{d i:Nat}{v:Value}{U2:List Nat}{e2:Env}(h:Au g n ops q U e U=some (x,d,i))(hrun:∀o,g o=some x -> ∀a w',Xc S w0 w'->Za n a e->(execOp a.eval o).run P w'=.ok (.value v) w')(ha:Z7 T n ops q (Xv i U) (Xv i U) ((d,false,v)::e)=(U2,e2))(hg:Xd P f R n ds k ops q S U2 e2 w0 w):Xd P f R n ds k ops q S U e w0 w:=
 Xd.valQ hT hB h (λo c a w' b hf=>by unfold D1;rw[hrun o c a w' b hf];exact⟨rfl,rfl⟩) ha hg
theorem Xd.arith(hT:Xp P T)(hB:Z0 ops q=true){kk:IntKind}{z z':Int}{d i:Nat}{U2:List Nat}{e2:Env}(h:Au (Mn T e) n ops q U e U=some ((kk,z),d,i))(hz:kk.wrap z=z')(ha:Z7 T n ops q (Xv i U) (Xv i U) ((d,false,.int kk z')::e)=(U2,e2))(hg:Xd P f R n ds k ops q S U2 e2 w0 w):Xd P f R n ds k ops q S U e w0 w:=
 Xd.val hT hB h (λ_ b a w' _ hf=>XaJ hT b hz a hf w') ha hg
theorem Xd.div(hT:Xp P T)(hB:Z0 ops q=true){p:Bool}{kk:IntKind}{x y z:Int}{d i:Nat}{U2:List Nat}{e2:Env}(h:Au (Ry e) n ops q U e U=some ((p,kk,x,y),d,i))(hy:y≠0)(hz:If p kk x y=z)(ha:Z7 T n ops q (Xv i U) (Xv i U) ((d,false,.int kk z)::e)=(U2,e2))(hg:Xd P f R n ds k ops q S U2 e2 w0 w):Xd P f R n ds k ops q S U e w0 w:=
 Xd.val hT hB h (λ_ b a w' _ hf=>Xbd b hy hz a hf w') ha hg
theorem Xd.index(hT:Xp P T)(hB:Z0 ops q=true){b off len sz d j i:Nat}{x:Int}{U2:List Nat}{e2:Env}(h:Au (Nc T e) n ops q U e U=some ((b,off,len,sz,x),d,i))(h0:0<=x)(h1:x<len)(hj:x.toNat*sz=j)(ha:Z7 T n ops q (Xv i U) (Xv i U) ((d,false,.pointer (some ⟨b,off+j,none⟩))::e)=(U2,e2))(hg:Xd P f R n ds k ops q S U2 e2 w0 w):Xd P f R n ds k ops q S U e w0 w:=
 Xd.val hT hB h (λ_ c a w' _ hf=>Xbq hT c h0 h1 hj a hf w') ha hg
theorem Xd.load(hT:Xp P T)(hB:Z0 ops q=true){b off d i:Nat}{v:Value}{U2:List Nat}{e2:Env}(h:Au (Cj T e) n ops q U e U=some ((b,off,none),d,i))(hc:w0.cell? ⟨b,off,none⟩=some v)(hS:¬S b)(ha:Z7 T n ops q (Xv i U) (Xv i U) ((d,false,v)::e)=(U2,e2))(hg:Xd P f R n ds k ops q S U2 e2 w0 w):Xd P f R n ds k ops q S U e w0 w:=
 Xd.val hT hB h (λ_ g a _ c hf=>Sd hT g (c.cell hc hS) a hf) ha hg
theorem Xd.cJ(hT:Xp P T)(hB:Z0 ops q=true){b off d i:Nat}{v:Value}{c:List Value}{t:TypeId}{fz:Nat×Nat}{U2:List Nat}{e2:Env}(h:Au (Cj T e) n ops q U e U=some ((b,off,none),d,i))(hc:w0.heap[b]?=some (.cells c.toArray t fz))(hS:¬S b)(hv:Hz c off=some v)(ha:Z7 T n ops q (Xv i U) (Xv i U) ((d,false,v)::e)=(U2,e2))(hg:Xd P f R n ds k ops q S U2 e2 w0 w):Xd P f R n ds k ops q S U e w0 w:=
 Xd.load hT hB h (Cr hc hv) hS ha hg
theorem Xd.loads(hT:Xp P T)(hB:Z0 ops q=true){b off m d i:Nat}{c vs:List Value}{t:TypeId}{fz:Nat×Nat}{U2:List Nat}{e2:Env}(h:Au (Cj T e) n ops q U e U=some ((b,off,some m),d,i))(hc:w0.heap[b]?=some (.cells c.toArray t fz))(hS:¬S b)(hv:cut c off m=some vs)(ha:Z7 T n ops q (Xv i U) (Xv i U) ((d,false,.agg vs.toArray)::e)=(U2,e2))(hg:Xd P f R n ds k ops q S U2 e2 w0 w):Xd P f R n ds k ops q S U e w0 w:=
 Xd.val hT hB h (λ_ j a _ g hf=>U8 hT j (g.heap hc hS) hv a hf) ha hg
theorem Xd.build(hT:Xp P T)(hB:Z0 ops q=true){vs:List Value}{d i:Nat}{U2:List Nat}{e2:Env}(h:Au (On T e) n ops q U e U=some (vs,d,i))(ha:Z7 T n ops q (Xv i U) (Xv i U) ((d,false,.agg vs.toArray)::e)=(U2,e2))(hg:Xd P f R n ds k ops q S U2 e2 w0 w):Xd P f R n ds k ops q S U e w0 w:=
 Xd.val hT hB h (λ_ b a w' _ hf=>XaW hT b a hf w') ha hg
theorem Xd.slice(hT:Xp P T)(hB:Z0 ops q=true){b:Option Addr}{len cap sz l h d i:Nat}{lo hi:Option Int}{U2:List Nat}{e2:Env}(ho:Au (W3 T e) n ops q U e U=some ((b,len,cap,lo,hi,sz),d,i))(hl:Dx lo=l)(hh:Dr len hi=h)(h1:l<=h)(h2:h<=cap)(ha:Z7 T n ops q (Xv i U) (Xv i U) ((d,false,.slice (Ae b cap l sz) (h-l) (cap-l))::e)=(U2,e2))(hg:Xd P f R n ds k ops q S U2 e2 w0 w):Xd P f R n ds k ops q S U e w0 w:=
 Xd.val hT hB ho (λ_ ho a w' _ hf=>Xhl hT ho hl hh h1 h2 a hf w') ha hg
theorem Xd.call(hT:Xp P T)(hB:Z0 ops q=true){fk d i:Nat}{as:List Value}{v:Value}{U2:List Nat}{e2:Env}(h:Au (Gj e) n ops q U e U=some ((fk,as),d,i))(hd:∀w',Xc S w0 w'->Xe P fk as.toArray w' (λu w2=>u=v/\Xc Xf w' w2))(ha:Z7 T n ops q (Xv i U) (Xv i U) ((d,false,v)::e)=(U2,e2))(hg:Xd P f R n ds k ops q S U2 e2 w0 w):Xd P f R n ds k ops q S U e w0 w:=
 Xd.valQ hT hB h (λo g a w' b hf=>by
  have c:=hd w' b;unfold D1;rw[Uc g c.fn a hf];exact⟨rfl,c.calls.mono λen w2 ⟨u,j,l,m⟩=>⟨by rw[j,l],m⟩⟩) ha hg
def Jw(ops:Array Oper)(q:Nat)(U:List Nat)(e:Env):List Nat->Option (Nat×Bool)
 |[]=>none
 |i::r=>match Av ops.toList i with
  |none=>Jw ops q U e r
  |some o=>match Hu q U o with
   |false=>Jw ops q U e r
   |true=>match Dl e ops o with
    |some false=>Jw ops q U e r
    |_=>match T5 ops [o] e with
     |some x=>some x
     |none=>Jw ops q U e r
theorem Nk{t:Nat}{p:Bool}:∀{l:List Nat},Jw ops q U e l=some (t,p)->look e t=some (.bool p)
 |[],h=>by simp[Jw] at h
 |j::r,h=>by
  unfold Jw at h;split at h
  .exact Nk h
  .split at h
   .exact Nk h
   .split at h
    .exact Nk h
    .split at h
     .rename_i x hx;cases h;exact Xfx hx
     .exact Nk h
theorem Xd.fork(hT:Xp P T)(hB:Z0 ops q=true){t:Nat}{p:Bool}{U1 U2:List Nat}{e1 e2:Env}(h:Jw ops q U e U=some (t,p))(ha:Z7 T n ops q U U ((t,true,.bool true)::e)=(U1,e1))(hb:Z7 T n ops q U U ((t,true,.bool false)::e)=(U2,e2))(ht:p=true->Xd P f R n ds k ops q S U1 e1 w0 w)(hf:p=false->Xd P f R n ds k ops q S U2 e2 w0 w):Xd P f R n ds k ops q S U e w0 w:=by
 have a:=Nk h;cases p with
 |true=>exact(Xd.adv hT hB ha (ht rfl)).know a
 |false=>exact(Xd.adv hT hB hb (hf rfl)).know a
theorem Xd.yes(hT:Xp P T)(hB:Z0 ops q=true){t:Nat}{p:Bool}{U1:List Nat}{e1:Env}(h:Jw ops q U e U=some (t,p))(hp:p=true)(ha:Z7 T n ops q U U ((t,true,.bool true)::e)=(U1,e1))(hg:Xd P f R n ds k ops q S U1 e1 w0 w):Xd P f R n ds k ops q S U e w0 w:=by
 subst hp;exact(Xd.adv hT hB ha hg).know (Nk h)
theorem Xd.no(hT:Xp P T)(hB:Z0 ops q=true){t:Nat}{p:Bool}{U1:List Nat}{e1:Env}(h:Jw ops q U e U=some (t,p))(hp:p=false)(ha:Z7 T n ops q U U ((t,true,.bool false)::e)=(U1,e1))(hg:Xd P f R n ds k ops q S U1 e1 w0 w):Xd P f R n ds k ops q S U e w0 w:=by
 subst hp;exact(Xd.adv hT hB ha hg).know (Nk h)
def C3(ops:Array Oper)(q:Nat)(U:List Nat):List Nat->List Nat
 |[]=>[]
 |i::r=>match Av ops.toList i with
  |none=>C3 ops q U r
  |some o=>match Hu q U o with
   |true=>i::C3 ops q U r
   |false=>C3 ops q U r
theorem Na{i:Nat}:∀{l:List Nat},i∈C3 ops q U l↔i∈l/\∃o,Av ops.toList i=some o/\Hu q U o=true
 |[]=>by simp[C3]
 |j::r=>by
  unfold C3;split
  .rename_i h
   rw[Na];constructor
   .rintro⟨h1,h2⟩;exact⟨.tail _ h1,h2⟩
   .rintro⟨h1,o,ho,h2⟩;rcases List.mem_cons.1 h1 with rfl|h1
    .rw[h] at ho;cases ho
    .exact⟨h1,o,ho,h2⟩
  .rename_i o ho
   split
   .rename_i hf
    rw[List.mem_cons,Na];constructor
    .rintro(rfl|⟨h1,h2⟩)
     .exact⟨.head _,o,ho,hf⟩
     .exact⟨.tail _ h1,h2⟩
    .rintro⟨h1,h2⟩;rcases List.mem_cons.1 h1 with rfl|h1
     .exact .inl rfl
     .exact .inr ⟨h1,h2⟩
   .rename_i hf
    rw[Na];constructor
    .rintro⟨h1,h2⟩;exact⟨.tail _ h1,h2⟩
    .rintro⟨h1,o',ho',h2⟩;rcases List.mem_cons.1 h1 with rfl|h1
     .rw[ho] at ho';cases ho';rw[hf] at h2;cases h2
     .exact⟨h1,o',ho',h2⟩
def Xo(P:Program)(f:FuncId)(R:Aim)(n:Nat)(ds:List Deferred)(k:List Item)(ops:Array Oper)(q:Nat)(S:Nat->Prop)(U:List Nat)(i:Nat)(e:Env)(w0 w:World):Prop:=
 ∀a:Act,a.defers=ds->Za n a e->NdT ops q U i->(∀j∈U,j<q)->i∈U->Xc S w0 w->opG P ops i (λa1 w1=>Xc S w0 w1/\H8 P f R ops k q (ops.size-q) S w0 (Xv i U).length (C4 ops.size q (Xv i U)) a1 w1) a w
theorem Xd.turns(hB:Z0 ops q=true){i0:Nat}{I:List Nat}(h:C3 ops q U U=i0::I)(hall:∀w',Xc Xf w w' -> ∀i∈i0::I,Xo P f R n ds k ops q S U i e w0 w'):Xd P f R n ds k ops q S U e w0 w:=by
 intro a v hf j b p;have x:i0∈C3 ops q U U:=by rw[h];simp
 obtain⟨c,z,r,s⟩:=Na.1 x;have t:U≠[]:=by intro l;subst l;simp at c
 have m:=Uy c;rw[<-m];refine⟨⟨i0,Xbj hB r c (b _ c) s⟩,λw' g i hi=>?_⟩;obtain⟨d,o,y,u⟩:=Xl9 hB j t b hi;have:=hall w' g i (by rw[<-h];exact Na.2 ⟨d,o,y,u⟩) a v hf ⟨j,hi⟩ b d (p.up g);rw[XbC j.1 (b _ d)];have l:(Xv i0 U).length=(Xv i U).length:=xH (Uy d)
 rw[l];exact this
theorem Xd.cK(hB:Z0 ops q=true){i:Nat}(h:C3 ops q U U=[i])(h1:∀w',Xc Xf w w'->Xo P f R n ds k ops q S U i e w0 w'):Xd P f R n ds k ops q S U e w0 w:=
 Xd.turns hB h λw' a j b=>by simp at b;subst b;exact h1 w' a
theorem Xd.turn2(hB:Z0 ops q=true){i j:Nat}(h:C3 ops q U U=[i,j])(h1:∀w',Xc Xf w w'->Xo P f R n ds k ops q S U i e w0 w')(h2:∀w',Xc Xf w w'->Xo P f R n ds k ops q S U j e w0 w'):Xd P f R n ds k ops q S U e w0 w:=
 Xd.turns hB h λw' a x hx=>by
  rcases List.mem_cons.1 hx with rfl|hx
  .exact h1 w' a
  .simp at hx;subst hx;exact h2 w' a
def Cp{δ:Type}(g:Oper->Option δ)(n:Nat)(ops:Array Oper)(e:Env)(i:Nat):Option (δ×Nat):=
 match Av ops.toList i with
 |some o=>match Dl e ops o with
  |some true=>match o.dst with
   |some d=>match Nat.blt d n with
    |true=>match g o with
     |some x=>some (x,d)
     |none=>none
    |false=>none
   |none=>none
  |_=>none
 |none=>none
theorem Mq{δ:Type}{g:Oper->Option δ}{x:δ}{d i:Nat}(h:Cp g n ops e i=some (x,d)):∃o,Av ops.toList i=some o/\Dl e ops o=some true/\o.dst=some d/\Nat.blt d n=true/\g o=some x:=by
 unfold Cp at h;split at h
 .rename_i o b
  split at h
  .rename_i c
   split at h
   .rename_i k f
    split at h
    .rename_i a
     split at h
     .rename_i y j;cases h;exact⟨o,b,c,f,a,j⟩
     .cases h
    .cases h
   .cases h
  .cases h
 .cases h
theorem Xo.val(hT:Xp P T)(hB:Z0 ops q=true){δ:Type}{g:Oper->Option δ}{x:δ}{d i:Nat}{v:Value}{w1:World}{U2:List Nat}{e2:Env}(h:Cp g n ops e i=some (x,d))(hrun:∀o,g o=some x -> ∀a,Za n a e->(execOp a.eval o).run P w=.ok (.value v) w1)(hc:Xc S w0 w->Xc S w0 w1)(ha:Z7 T n ops q (Xv i U) (Xv i U) ((d,false,v)::e)=(U2,e2))(hg:Xd P f R n ds k ops q S U2 e2 w0 w1):Xo P f R n ds k ops q S U i e w0 w:=by
 obtain⟨o,r,s,t,b,u⟩:=Mq h;intro a c hf l m y p;unfold opG;rw[Bx r];simp only[D6 hf s,if_true];unfold Em;rw[hrun o u a hf];exact⟨hc p,Xd.adv hT hB ha hg _ (by cases o.dst <;> exact c) (Gq (by rw[t];exact Lz b) a hf) (l.rm (m _ y)) (λj z=>m j ((Hx l.1.1).1 z).1) (hc p)⟩
theorem Xo.alloc(hT:Xp P T)(hB:Z0 ops q=true){l:List Value}{t d i:Nat}{U2:List Nat}{e2:Nat->Env}(h:Cp (I4 T e) n ops e i=some ((l,t),d))(ha:∀b,Z7 T n ops q (Xv i U) (Xv i U) ((d,false,.pointer (some ⟨b,0,none⟩))::e)=(U2,e2 b))(hg:∀b w1,b=w.heap.size->w1.heap[b]?=some (.cells l.toArray t (0,0))->Xc Xf w w1->w1.heap.size=w.heap.size+1->Xd P f R n ds k ops q S U2 (e2 b) w0 w1):Xo P f R n ds k ops q S U i e w0 w:=
 Xo.val hT hB h (λ_ c a hf=>Ty hT c a hf) (λh=>h.up (E5 _ _)) (ha _) (hg _ _ rfl xS (E5 _ _) xS)
theorem Xo.buildSlice(hT:Xp P T)(hB:Z0 ops q=true){vs:List Value}{t len d i:Nat}{U2:List Nat}{e2:Nat->Env}(h:Cp (Ua T e) n ops e i=some ((vs,t,len),d))(ha:∀b,Z7 T n ops q (Xv i U) (Xv i U) ((d,false,.slice (some ⟨b,0,none⟩) len len)::e)=(U2,e2 b))(hg:∀b w1,b=w.heap.size->w1.heap[b]?=some (.cells vs.toArray t (0,0))->Xc Xf w w1->w1.heap.size=w.heap.size+1->Xd P f R n ds k ops q S U2 (e2 b) w0 w1):Xo P f R n ds k ops q S U i e w0 w:=
 Xo.val hT hB h (λ_ c a hf=>Xd6 hT c a hf w) (λh=>h.up (E5 _ _)) (ha _) (hg _ _ rfl xS (E5 _ _) xS)
theorem Xo.call{fk d i:Nat}{as:List Value}{Post:Value->World->Prop}(h:Cp (Gj e) n ops e i=some ((fk,as),d))(hk:Ob P fk)(hd:Xc S w0 w->Xe P fk as.toArray w (λv w2=>Xc S w0 w2/\Post v w2))(hg:∀v w1,Xc S w0 w1->Post v w1->Xd P f R n ds k ops q S (Xv i U) ((d,false,v)::e) w0 w1):Xo P f R n ds k ops q S U i e w0 w:=by
 obtain⟨o,s,t,b,g,u⟩:=Mq h;intro a l hf m p x y;unfold opG;rw[Bx s];simp only[D6 hf t,if_true];unfold Em;rw[Uc u hk a hf];exact⟨rfl,(hd y).calls.mono λen w2 ⟨v,r,c,z⟩=>⟨v,r,c,hg v w2 c z _ (by cases o.dst <;> exact l) (Gq (by rw[b];exact Lz g) a hf) (m.rm (p _ x)) (λj A=>p j ((Hx m.1.1).1 A).1) c⟩⟩
theorem Xd.nil(hB:Z0 ops q=true)(h:∀w',Xc Xf w w'->Xa P f R n ds (.inRegion ops (List.range' q (ops.size-q))::k) e w'):Xd P f R n ds k ops q S [] e w0 w:=by
 obtain⟨_,u,_,l,c⟩:=Rz hB;intro a m hf _ _ _;refine⟨λi hi=>?_,λw' g t=>?_⟩
 .obtain⟨d,o,p,_⟩:=mem_ready.1 hi;have j:=(Array.getElem?_eq_some_iff.1 p).1;rw[Lr j] at d;rcases Nat.lt_or_ge i q with h1|h1
  .rw[show Nat.blt i q=true from by simpa [Nat.blt_eq] using h1] at d;simp[Dp] at d
  .exact h1
 .rw[Xbg _ _ _ c t];intro b cs r s;exact h w' g b cs a r s m hf
theorem Xa.drawn(S:Nat->Prop)(hT:Xp P T)(hm:P.follows .mixedOrders=true){id:Nat}{U2:List Nat}{e2:Env}(hB:Z0 ops q=true)(ha:Z7 T n ops q (List.range q) (List.range q) e=(U2,e2))(h':Z0 ops q=true->Xd P f R n ds k ops q S U2 e2 w w):Xa P f R n ds (.code (.region id ops true)::k) e w:=by
 have h:=h' hB;obtain⟨s,B,_⟩:=Rz hB;intro b cs a t u v hf;have g:Ld ops (C4 ops.size q (List.range q)):=λj o x d=>by
  have l:=(Array.getElem?_eq_some_iff.1 x).1;rw[Lr l] at d;simp only[Bool.and_eq_true,Nat.blt_eq,Bool.not_eq_true'] at d;exact absurd (xU d.1) (R6.1 d.2)
 have m:=Xd.adv hT hB ha h a v hf ⟨List.nodup_range,g⟩ (λi hi=>xU hi) (Xc.refl _ _);have y:C4 ops.size q (List.range q)=Array.replicate ops.size false:=by
  apply Array.ext
  .simp[C4]
  .intro i p r;have:Dp i (List.range q)=Nat.blt i q:=by rw[Bool.eq_iff_iff,I7,Nat.blt_eq];simp
   simp[C4,this]
 rw[y,List.length_range] at m;have c:=(m.grown ((Xc.refl _ _).drew _)).any (w:={w with drawn:=w.drawn+1});rw[show q+(ops.size-q)=ops.size from by omega] at c;obtain⟨en,w',fr,z,A,p,r⟩:=c (w.tape w.drawn (.order b.fn id)) b cs t u;refine⟨en,w',fr,z,.of_steps (.one ?_) A,p,r⟩;rw[stepR_region_draw];simp only[Region.schedule,hm,Bool.true_or,if_true];rfl
end
end Go.Proofs.YtdeihcnepljjaaaGreatDoor
