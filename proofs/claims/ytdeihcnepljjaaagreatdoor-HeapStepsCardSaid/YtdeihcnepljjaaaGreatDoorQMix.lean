/-
  Mix
-/
import Derived.Test.YtdeihcnepljjaaaGreatDoorQRule2
namespace Go.Proofs.YtdeihcnepljjaaaGreatDoor
open Go.RowKit
section
variable {P:Program}{ops:Array Oper}{C:World->Prop}
def D1(P:Program)(o:Oper)(a:Act)(w:World)(v:Value):Prop:=
 match (execOp a.eval o).run P w with
 |.ok (.value u) w'=>w'=w/\u=v
 |.ok .skip w'=>w'=w/\v=undef
 |.ok (.enter f args) w'=>w'=w/\Calls P f args w (λe w''=>e=.returned v/\Xc Xf w w'')
 |_=>False
def qsOp(P:Program)(ops:Array Oper)(C:World->Prop)(i:Nat)(K:Act->Prop)(a:Act):Prop:=
 match ops[i]? with
 |none=>K a
 |some o=>if Region.wanted o (yielded ops a.tmps) then ∃v,(∀w,C w->D1 P o a w v)/\K (a.put o.dst v) else K (a.put o.dst undef)
theorem Xl2{i:Nat}{a:Act}{K K':Act->Prop}(h:∀a,K a->K' a)(hh:qsOp P ops C i K a):qsOp P ops C i K' a:=by
 unfold qsOp at *;split
 .rename_i b;simp only[b] at hh;exact h _ hh
 .rename_i o b
  simp only[b] at hh;split
  .rename_i c;simp only[c,if_true] at hh;obtain⟨v,d,f⟩:=hh;exact⟨v,d,h _ f⟩
  .rename_i c;simp only[c] at hh;exact h _ hh
def YS(P:Program)(ops:Array Oper)(C:World->Prop)(o:Oper)(v:Value)(a:Act):Prop:=
 (Region.wanted o (yielded ops a.tmps)=true/\∀w,C w->D1 P o a w v)\/(Region.wanted o (yielded ops a.tmps)=false/\v=undef)
theorem YS.qsOp{i:Nat}{o:Oper}{v:Value}{a:Act}(hi:ops[i]?=some o)(hy:YS P ops C o v a){K:Act->Prop}(h:K (a.put o.dst v)):qsOp P ops C i K a:=by
 unfold Go.Proofs.YtdeihcnepljjaaaGreatDoor.qsOp;simp only[hi];rcases hy with⟨b,c⟩|⟨b,rfl⟩
 .simp only[b,if_true];exact⟨v,c,h⟩
 .simp only[b,Bool.false_eq_true,if_false];exact h
theorem YS.of_same{o:Oper}{v:Value}{a a':Act}(hy:YS P ops C o v a)(he:execOp a'.eval o=execOp a.eval o)(hw:Region.wanted o (yielded ops a'.tmps)=Region.wanted o (yielded ops a.tmps)):YS P ops C o v a':=by
 unfold YS D1 at *;rw[he,hw];exact hy
theorem Xds{i:Nat}{o:Oper}{a:Act}{K:Act->Prop}(hi:ops[i]?=some o)(h:qsOp P ops C i K a):∃v,YS P ops C o v a/\K (a.put o.dst v):=by
 unfold qsOp at h;simp only[hi] at h;by_cases b:Region.wanted o (yielded ops a.tmps)=true
 .simp only[b,if_true] at h;obtain⟨v,c,d⟩:=h;exact⟨v,.inl ⟨b,c⟩,d⟩
 .simp only[b] at h;exact⟨undef,.inr ⟨xU b,rfl⟩,h⟩
theorem Xl3{j:Nat}{oi oj:Oper}{v:Value}(hj:ops[j]?=some oj)(hap:oi.apart ops oj=true)(hsi:∀cs b,oi.op≠.select cs b)(hsj:∀cs b,oj.op≠.select cs b){K:Act->Prop}{a:Act}(hy:YS P ops C oi v a)(h:qsOp P ops C j K (a.put oi.dst v)):qsOp P ops C j (λa'=>YS P ops C oi v a'/\K (a'.put oi.dst v)) a:=by
 obtain⟨d,f,g⟩:=Oper.apart_spec hap;have bV:∀(a:Act),YS P ops C oi v a -> ∀u,YS P ops C oi v (a.put oj.dst u):=λa hy u=>
  hy.of_same (execOp_put oi hsi a oj.dst u g) (wanted_put oi a oj.dst u g)
 unfold qsOp at *;simp only[hj] at *;rw[wanted_put oj a oi.dst v d] at h;split
 .rename_i c
  simp only[c,if_true] at h;obtain⟨u,k,l⟩:=h;refine⟨u,λw i=>?_,bV a hy u,by rw[<-Act.put_comm a v u f];exact l⟩;have:=k w i;unfold D1 at *
  rwa [execOp_put oj hsj a oi.dst v d] at this
 .rename_i c
  simp only[c] at h;exact⟨bV a hy _,by rw[<-Act.put_comm a v undef f];exact h⟩
abbrev md:Region.Mode:=.any
def N7(P:Program)(ops:Array Oper)(C:World->Prop)(f:Nat)(Fin:Array Bool->Act->Prop):Nat->Array Bool->Act->Prop
 |0,listed,a=>(∀i∈Region.ready md ops listed,i=f)/\Fin listed a
 |m+1,listed,a=>(∃i∈Region.ready md ops listed,i≠f)/\∀i∈Region.ready md ops listed,i≠f->qsOp P ops C i (N7 P ops C f Fin m (listed.setIfInBounds i true)) a
theorem Xgi{i:Nat}{listed:Array Bool}{oj:Oper}(hr:i∈Region.ready md ops listed)(hall:∀e∈oj.after,Region.binds md e=true->listed.getD e.on false=true):∀e∈oj.after,Region.binds md e=true->e.on≠i:=λe d f b=>by
 have a:=hall e d f;have c:=(mem_ready.1 hr).1;rw[b] at a;rcases Nat.lt_or_ge i listed.size with h'|h'
 .simp[h'] at c a;rw[c] at a;cases a
 .simp[Array.getElem?_eq_none h'] at a
theorem Xo5{f:Nat}{Fin:Array Bool->Act->Prop}{i:Nat}{oi:Oper}{v:Value}(hi:ops[i]?=some oi)(hif:i≠f)(hsel:∀(j:Nat) (o:Oper) cs b,ops[j]?=some o->o.op≠.select cs b):∀(m:Nat) (listed:Array Bool) (a:Act),
  (∀j oj,ops[j]?=some oj->j≠i->listed.getD j true=false->(∀e∈oj.after,Region.binds md e=true->e.on≠i)->oi.apart ops oj=true) ->
  i∈Region.ready md ops listed->YS P ops C oi v a ->
  N7 P ops C f Fin m (listed.setIfInBounds i true) (a.put oi.dst v)->N7 P ops C f Fin (m+1) listed a:=by
 intro m
 induction m with
 |zero=>
  intro listed a _ hr p H;refine⟨⟨i,hr,hif⟩,λj q g=>?_⟩;by_cases c:j=i
  .subst c;exact p.qsOp hi H
  .exact absurd (H.1 j (ready_mono q c)) g
 |succ m ih=>
  intro listed a d hr p H;refine⟨⟨i,hr,hif⟩,λj q g=>?_⟩;by_cases c:j=i
  .subst c;exact p.qsOp hi H
  .have y:=H.2 j (ready_mono q c) g;obtain⟨h,oj,l,t⟩:=mem_ready.1 q;have z:=Xl3 l (d j oj l c h (Xgi hr t)) (λcs b=>hsel i oi cs b hi) (λcs b=>hsel j oj cs b l) p y;have n:∀k ok,ops[k]?=some ok->k≠i->(listed.setIfInBounds j true).getD k true=false ->
    (∀e∈ok.after,Region.binds md e=true->e.on≠i)->oi.apart ops ok=true:=λk ok A u r w=>by
    refine d k ok A u ?_ w;by_cases s:j=k
    .subst s;exact h
    .rw[getD_set_ne true s] at r;exact r
   refine Xl2 (λa' x=>ih (listed.setIfInBounds j true) a' n (ready_mono hr (Ne.symm c)) x.1 ?_) z;rw[Array.setIfInBounds_comm _ _ c];exact x.2
def H6(P:Program)(ops:Array Oper)(C:World->Prop)(Q:Act->Prop):List Oper->Act->Prop
 |[],a=>Q a
 |o::rest,a=>if Region.wanted o (yielded ops a.tmps) then ∃v,(∀w,C w->D1 P o a w v)/\H6 P ops C Q rest (a.put o.dst v) else H6 P ops C Q rest (a.put o.dst undef)
theorem Xdm{Q Q':Act->Prop}(hq:∀a,Q a->Q' a):∀(l:List Oper) (a:Act),H6 P ops C Q l a->H6 P ops C Q' l a
 |[],a,h=>hq a h
 |o::l,a,h=>by
  unfold H6 at h⊢;split
  .rename_i b;rw[if_pos b] at h
   obtain⟨v,c,d⟩:=h;exact⟨v,c,Xdm hq l _ d⟩
  .rename_i b;rw[if_neg b] at h;exact Xdm hq l _ h
def Pa(ops:Array Oper):Nat->Nat->Array Bool->Option (Array Bool)
 |0,_,listed=>some listed
 |m+1,k,listed=>if (Region.ready md ops listed).contains k && Region.free md ops listed k then Pa ops m (k+1) (listed.setIfInBounds k true) else none
theorem Xij{f:Nat}{Q:Act->Prop}{Lf:Array Bool}(hs:Region.noSelect ops=true)(hend:∀i∈Region.ready md ops Lf,i=f):∀(l:List Oper) (k:Nat) (listed:Array Bool) (a:Act),(∀j,j<l.length->l[j]?=ops[k+j]?)->k+l.length<=f ->
 Pa ops l.length k listed=some Lf->H6 P ops C Q l a->N7 P ops C f (λL a=>L=Lf/\Q a) l.length listed a
 |[],_,listed,a,_,_,b,h=>by
  simp only[List.length_nil,Pa,Option.some.injEq] at b;subst b;exact⟨hend,rfl,h⟩
 |o::l,k,listed,a,g,n,b,h=>by
  have c:ops[k]?=some o:=by simpa using(g 0 xS).symm
  simp only[List.length_cons,Pa] at b;split at b
  .rename_i d
   simp only[Bool.and_eq_true] at d;have m:qsOp P ops C k (H6 P ops C Q l) a:=by unfold qsOp;simp only[c];exact h
   obtain⟨v,p,q⟩:=Xds c m;simp only[List.length_cons] at n;exact Xo5 c X (Region.noSelect_spec hs) l.length listed a (Region.free_spec c d.2) (xU d.1) p
    (Xij hs hend l (k+1) _ _ (λj r=>by have:=g (j+1) xQ;simpa [Nat.add_assoc,Nat.add_comm 1 j] using this) X b q)
  .cases b
variable {fn:FuncId}{R:Aim}{k:List Item}
def Bj(P:Program)(fn:FuncId)(R:Aim)(ops:Array Oper)(k:List Item)(l:List Nat)(a:Act)(w:World):Prop:=
 ∀(b:Frame) (cs:List Frame),b.fn=fn->b.roundOf=R.ro -> ∃en w' fr,R.now en w'/\Comes P (lone (b.atR a (.inRegion ops l::k)) cs w) (lone fr cs w') en/\fr.fn=fn/\R.last P b.kind fr cs w' en
theorem Bj.value{i:Nat}{l:List Nat}{o:Oper}{a:Act}{w w1:World}{v:Value}(ho:ops[i]?=some o)(hw:Region.wanted o (yielded ops a.tmps)=true)(hr:(execOp a.eval o).run P w=.ok (.value v) w1\/(execOp a.eval o).run P w=.ok .skip w1/\v=undef)(h:Bj P fn R ops k l (a.put o.dst v) w1):Bj P fn R ops k (i::l) a w:=λb cs d f=>by
 obtain⟨en,g,fr,j,m,n,p⟩:=h b cs d f;refine⟨en,g,fr,j,.of_steps (.one (step_lone_go ?_)) m,n,p⟩;have c:(b.atR a (.inRegion ops (i::l)::k)).finish v=b.atR (a.put o.dst v) (.inRegion ops l::k):=by
  rw[Frame.finish_atR,ho];rfl
 rcases hr with hr|⟨hr,q⟩
 .rw[K9 ho hw hr xS,<-c];simp[stepG.apply,hr]
 .subst q;rw[K9 ho hw hr xS,<-c];simp[stepG.apply,hr]
theorem Bj.skip{i:Nat}{l:List Nat}{o:Oper}{a:Act}{w:World}(ho:ops[i]?=some o)(hw:Region.wanted o (yielded ops a.tmps)=false)(h:Bj P fn R ops k l (a.put o.dst undef) w):Bj P fn R ops k (i::l) a w:=λb cs c d=>by
 obtain⟨en,f,fr,g,j,m,n⟩:=h b cs c d;refine⟨en,f,fr,g,.of_steps (.one ?_) j,m,n⟩;have p:=stepR_op_skip (P:=P) (b:=b) (a:=a) (k:=k) (cs:=cs) (w:=w) (ops:=ops) (i:=i) (rest:=l) (by simp[ho];simpa using hw)
 simpa [ho] using p
theorem Bj.quiet{i:Nat}{l:List Nat}{o:Oper}{a:Act}{w:World}{v:Value}(ho:ops[i]?=some o)(hw:Region.wanted o (yielded ops a.tmps)=true)(hq:D1 P o a w v)(h:∀w1,Xc Xf w w1->Bj P fn R ops k l (a.put o.dst v) w1):Bj P fn R ops k (i::l) a w:=by
 unfold D1 at hq;split at hq
 .rename_i u w' hr
  obtain⟨rfl,rfl⟩:=hq;exact Bj.value ho hw (.inl hr) (h _ (Xc.refl _ _))
 .rename_i w' hr
  obtain⟨rfl,rfl⟩:=hq;exact Bj.value ho hw (.inr ⟨hr,rfl⟩) (h _ (Xc.refl _ _))
 .rename_i fc args w' hr
  obtain⟨rfl,g⟩:=hq;intro b cs r s;obtain⟨en,w1,fr,⟨m,n⟩,c,_,d⟩:=g (b.atR a (.inRegion ops (i::l)::k)::cs);subst m;have f:Go.step P (lone (b.atR a (.inRegion ops (i::l)::k)) cs w')=.next (lone (Frame.enter P fc args .normal) (b.atR a (.inRegion ops (i::l)::k)::cs) w'):=
   step_lone_go (by rw[K9 ho hw hr xS];simp[stepG.apply,hr,Frame.atR])
  obtain⟨p,t,q,x,y,z,A⟩:=h w1 n b cs r s;refine⟨p,t,q,x,.of_steps (.head f (Steps.trans c (.one ?_))) y,z,A⟩;have j:(b.atR a (.inRegion ops (i::l)::k)).finish v=b.atR (a.put o.dst v) (.inRegion ops l::k):=by
   rw[Frame.finish_atR,ho];rfl
  rw[<-j];exact step_leave_returned d
 .exact hq.elim
def H7(P:Program)(fn:FuncId)(R:Aim)(ops:Array Oper)(k:List Item)(fuel:Nat)(listed:Array Bool)(a:Act)(w:World):Prop:=
 ∀t,Bj P fn R ops k (Region.linearise.go md ops fuel t listed []) a w
theorem H7.step{fuel:Nat}{listed:Array Bool}{a:Act}{w:World}(hne:∃i,i∈Region.ready md ops listed)(h:∀i∈Region.ready md ops listed,∀t,Bj P fn R ops k (i::Region.linearise.go md ops fuel t (listed.setIfInBounds i true) []) a w):H7 P fn R ops k (fuel+1) listed a w:=by
 intro t;simp only[Region.linearise.go]
 change Bj P fn R ops k (match (Region.ready md ops listed)[t%(Region.ready md ops listed).length]? with
  |some i=>Region.linearise.go md ops fuel (t/(Region.ready md ops listed).length) (listed.setIfInBounds i true) [i]
  |none=>[].reverse) a w
 obtain⟨f,d⟩:=hne;have c:0<(Region.ready md ops listed).length:=List.length_pos_of_mem d;have b:t%(Region.ready md ops listed).length<(Region.ready md ops listed).length:=Nat.mod_lt _ c;rw[List.getElem?_eq_getElem b];simp only
 rw[linearise_go_acc,List.reverse_singleton,List.singleton_append];exact h _ (List.getElem_mem b) _
def M9(ops:Array Oper):Nat->Nat->Array Bool->Bool
 |0,_,_=>true
 |m+1,k,listed=>Region.ready md ops listed == [k] && M9 ops m (k+1) (listed.setIfInBounds k true)
theorem Xbg:∀(m k:Nat) (listed:Array Bool),M9 ops m k listed=true -> ∀t,Region.linearise.go md ops m t listed []=List.range' k m
 |0,k,listed,_,t=>by simp[Region.linearise.go]
 |m+1,k,listed,h,t=>by
  simp only[M9,Bool.and_eq_true,beq_iff_eq] at h;simp only[Region.linearise.go]
  change (match (Region.ready md ops listed)[t%(Region.ready md ops listed).length]? with
   |some i=>Region.linearise.go md ops m (t/(Region.ready md ops listed).length) (listed.setIfInBounds i true) [i]
   |none=>[].reverse)=_
  rw[h.1];simp only[List.length_singleton,Nat.mod_one,List.getElem?_cons_zero];rw[linearise_go_acc,Xbg m (k+1) _ h.2];simp[List.range'_succ]
def XbH(ops:Array Oper)(f:Nat):Bool:=
 Region.noSelect ops && Nat.blt f ops.size &&
 (match ops[f]? with|some o=>o.after.isEmpty && o.guard.isNone && (List.range f).all (λj=>match ops[j]? with|some oj=>oj.apart ops o && oj.after.all (λe=>!Region.binds md e||e.on != f)|none=>false)|none=>false) &&
 (List.range' (f+1) (ops.size-(f+1))).all (λj=>match ops[j]? with|some o=>(List.range (f+1)).all (λi=>o.after.any λe=>Region.binds md e && e.on == i)|none=>false) &&
 (match Pa ops f 0 (Array.replicate ops.size false) with
  |some L=>Region.ready md ops L == [f] && M9 ops (ops.size-(f+1)) (f+1) (L.setIfInBounds f true)
  |none=>false)
theorem Xma{f:Nat}{listed:Array Bool}{j:Nat}(hf:f<listed.size)(hj:j∈Region.ready md ops (listed.setIfInBounds f true)):j≠f/\(j∈Region.ready md ops listed\/∃o,ops[j]?=some o/\listed.getD j true=false/\(∀e∈o.after,Region.binds md e=true->(listed.setIfInBounds f true).getD e.on false=true)/\∃e∈o.after,Region.binds md e=true/\e.on=f):=by
 obtain⟨g,o,i,a⟩:=mem_ready.1 hj;have b:j≠f:=by
  intro h;subst h;simp[hf] at g
 have c:listed.getD j true=false:=by rwa [getD_set_ne true (Ne.symm b)] at g
 refine⟨b,?_⟩;by_cases d:∃e∈o.after,Region.binds md e=true/\e.on=f
 .exact .inr ⟨o,i,c,a,d⟩
 .refine .inl (mem_ready.2 ⟨c,o,i,λe k l=>?_⟩);have n:=a e k l;have m:f≠e.on:=λh=>d ⟨e,k,l,h.symm⟩
  rwa [getD_set_ne false m] at n
section float
variable {w0:World}{f:Nat}{of:Oper}{d t:Nat}{z:List Value}{tf:Nat}{Lf:Array Bool}{Q:Act->Prop}
def Tw(w:World)(b t:Nat)(z:List Value):Prop:=w.heap[b]?=some (.cells z.toArray t (0,0))
theorem XfB(hof:ops[f]?=some of)(hsel:∀(j:Nat) (o:Oper) cs b,ops[j]?=some o->o.op≠.select cs b)(hd:of.dst=some d)(hapart:∀j o,j<f->ops[j]?=some o->o.apart ops of=true/\∀e∈o.after,Region.binds md e=true->e.on≠f)(htail:∀j o,f<j->ops[j]?=some o -> ∀i,i<=f -> ∃e∈o.after,Region.binds md e=true/\e.on=i)(hfin:∀a w b,Q a->Xc Xf w0 w->w0.heap.size<=b->Tw w b t z->H7 P fn R ops k tf (Lf.setIfInBounds f true) (a.put (some d) (.pointer (some ⟨b,0,none⟩))) w):∀(m:Nat) (listed:Array Bool) (a:Act) (w:World) (b:Nat),N7 P ops (λw=>Xc Xf w0 w) f (λL a=>L=Lf/\Q a) m listed a->f<listed.size->listed.getD f true=false->Xc Xf w0 w->w0.heap.size<=b->Tw w b t z ->
  H7 P fn R ops k (m+tf) (listed.setIfInBounds f true) (a.put (some d) (.pointer (some ⟨b,0,none⟩))) w
 |0,listed,a,w,b,h,D,E,r,N,F=>by
  obtain⟨_,rfl,hq⟩:=h;rw[Nat.zero_add];exact hfin a w b hq r N F
 |m+1,listed,a,w,b,h,D,E,r,N,F=>by
  obtain⟨⟨G,s,n⟩,O⟩:=h;have p:∀i,i∈Region.ready md ops listed->i≠f->i<f:=by
   intro i hi aj;by_cases p:i<f
   .exact p
   .obtain⟨_,o,H,y⟩:=mem_ready.1 hi;obtain⟨e,S,A,B⟩:=htail i o X H f (Nat.le_refl _);have:=y e S A;rw[B] at this;simp[D] at E this
    rw[E] at this;cases this
  rw[show m+1+tf=(m+tf)+1 from by omega];refine H7.step ⟨G,ready_mono s n⟩ λj hj t'=>?_;obtain⟨c,g⟩:=Xma D hj;rcases g with g|⟨o,H,ak,y,e,S,A,B⟩
  .have T:=p j g c;have h1:=O j g c;obtain⟨_,oj,l,_⟩:=mem_ready.1 g;obtain⟨a3,_⟩:=hapart j oj T l;obtain⟨g1,g2,g3⟩:=Oper.apart_spec a3;have a4:listed.size=(listed.setIfInBounds j true).size:=xS
   have a5:(listed.setIfInBounds j true).getD f true=false:=by rw[getD_set_ne true c];exact E
   have q:∀u,(a.put (some d) (.pointer (some ⟨b,0,none⟩))).put oj.dst u=(a.put oj.dst u).put (some d) (.pointer (some ⟨b,0,none⟩)):=λu=>
    (Act.put_comm a u (.pointer (some ⟨b,0,none⟩)) (λx U=>by have:=g2 x U;rw[hd] at this;exact this)).symm
   have J:∀x,some d=some x->x∉oj.looksAt ops:=λx U=>g3 x (by rw[hd];exact U);have a6:execOp (a.put (some d) (.pointer (some ⟨b,0,none⟩))).eval oj=execOp a.eval oj:=execOp_put oj (λcs b=>hsel j oj cs b l) a (some d) _ J;have K:Region.wanted oj (yielded ops (a.put (some d) (.pointer (some ⟨b,0,none⟩))).tmps)=Region.wanted oj (yielded ops a.tmps):=wanted_put oj a (some d) _ J;have C:=λa' w' hh a7 a8=>XfB hof hsel hd hapart htail hfin m (listed.setIfInBounds j true) a' w' b hh (a4▸D) a5 a7 N a8;rw[Array.setIfInBounds_comm _ _ (Ne.symm c)];obtain⟨v,hy,hK⟩:=Xds l h1;rcases hy with⟨V,hv⟩|⟨V,rfl⟩
   .refine Bj.quiet (v:=v) l (by rw[K];exact V) (by have:=hv w r;unfold D1 at *;rw[a6];exact this) λw1 M=>?_;rw[q];exact C _ _ hK (r.trans M) (M.bP F) t'
   .refine Bj.skip l (by rw[K];exact V) ?_;rw[q];exact C _ _ hK r F t'
  .exfalso
   rcases Nat.lt_trichotomy j f with hl|hl|hl
   .exact(hapart j o hl H).2 e S A B
   .exact c hl
   .obtain⟨e',aa,a0,a1⟩:=htail j o hl H G (Nat.le_of_lt (p G s n));have I:=y e' aa a0;rw[a1,getD_set_ne false (Ne.symm n)] at I;have h3:=(mem_ready.1 s).1;rcases Nat.lt_or_ge G listed.size with h'|h'
    .simp[h'] at I h3;rw[I] at h3;cases h3
    .simp[Array.getElem?_eq_none h'] at I
theorem Xld(hof:ops[f]?=some of)(hsel:∀(j:Nat) (o:Oper) cs b,ops[j]?=some o->o.op≠.select cs b)(hd:of.dst=some d)(hfa:of.after=#[])(hfg:of.guard=none)(hrun:∀(a:Act) (w:World),(execOp a.eval of).run P w=.ok (.value (.pointer (some ⟨w.heap.size,0,none⟩))) {w with heap:=w.heap.push (.cells z.toArray t)})(hapart:∀j o,j<f->ops[j]?=some o->o.apart ops of=true/\∀e∈o.after,Region.binds md e=true->e.on≠f)(htail:∀j o,f<j->ops[j]?=some o -> ∀i,i<=f -> ∃e∈o.after,Region.binds md e=true/\e.on=i)(hfin:∀a w b,Q a->Xc Xf w0 w->w0.heap.size<=b->Tw w b t z->H7 P fn R ops k tf (Lf.setIfInBounds f true) (a.put (some d) (.pointer (some ⟨b,0,none⟩))) w):∀(m:Nat) (listed:Array Bool) (a:Act) (w:World),N7 P ops (λw=>Xc Xf w0 w) f (λL a=>L=Lf/\Q a) m listed a->f<listed.size->listed.getD f true=false->Xc Xf w0 w ->
  H7 P fn R ops k (m+1+tf) listed a w:=by
 have l:∀(m:Nat) (listed:Array Bool) (a:Act) (w:World),N7 P ops (λw=>Xc Xf w0 w) f (λL a=>L=Lf/\Q a) m listed a->f<listed.size->listed.getD f true=false->Xc Xf w0 w ->
  ∀t',Bj P fn R ops k (f::Region.linearise.go md ops (m+tf) t' (listed.setIfInBounds f true) []) a w:=by
  intro m listed a w h p c g t';refine Bj.value hof (by unfold Region.wanted;rw[hfg]) (.inl (hrun a w)) ?_;rw[hd];exact XfB hof hsel hd hapart htail hfin m listed a _ w.heap.size h p c (g.trans (E5 _ _)) g.size (by simp[Tw]) t'
 have n:∀listed:Array Bool,listed.getD f true=false->f∈Region.ready md ops listed:=λlisted c=>mem_ready.2 ⟨c,of,hof,λe y=>by rw[hfa] at y;simp at y⟩;intro m
 induction m with
 |zero=>
  intro listed a w h p c g;rw[show 0+1+tf=(0+tf)+1 from by omega];refine H7.step ⟨f,n listed c⟩ λj s t'=>?_;have:=h.1 j s;subst this;exact l 0 listed a w h p c g t'
 |succ m ih=>
  intro listed a w h p c g;rw[show m+1+1+tf=(m+1+tf)+1 from by omega];refine H7.step ⟨f,n listed c⟩ λj s t'=>?_;by_cases q:j=f
  .subst q;exact l (m+1) listed a w h p c g t'
  .have C:=h.2 j s q;obtain⟨_,oj,r,_⟩:=mem_ready.1 s;obtain⟨v,D,A⟩:=Xds r C;have u:(listed.setIfInBounds j true).getD f true=false:=by rw[getD_set_ne true q];exact c
   rcases D with⟨x,E⟩|⟨x,rfl⟩
   .exact Bj.quiet (v:=v) r x (E w g) λF B=>ih _ _ _ A (xU p) u (g.trans B) t'
   .exact Bj.skip r x (ih _ _ _ A (xU p) u g t')
end float
end
end Go.Proofs.YtdeihcnepljjaaaGreatDoor
