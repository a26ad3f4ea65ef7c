/-
  Rule8
-/
import Derived.Test.YtdeihcnepljjaaaGreatDoorQRule7
import Derived.Defers
namespace Go.Proofs.YtdeihcnepljjaaaGreatDoor
open Go.RowKit
section
variable {P:Program}{T:Tab}{f:FuncId}{R:Aim}{Post:Value->World->Prop}{k:List Item}{n:Nat}{ds:List Deferred}{s s':List Item}{w:World}{e:Env}
structure Hp(P:Program)(k:FuncId)(args:Array Value)(w:World)(Post:Value->World->Prop):Prop where
 fn:Ob P k
 calls:CallsD P k args .returning w (λen u' w'=>u'=.returning/\∃v,en=.returned v/\Post v w')
theorem Hp.enter{k:FuncId}{fn:Func}{c:Code}{l:List Value}{n:Nat}(hf : P.funcs[k]? = some fn)(hb : fn.body = some c)(hn : fn.ntmps = n) (hname : (fn.name == "runtime.NumGoroutine") = false) (hle' : Nat.ble l.length n = true)
 (h:Xa P k (Gh Post) n [] [.code c] (Mm 0 l) w):Hp P k l.toArray w Post:=by
 have z:=Nat.le_of_ble_eq_true hle';refine⟨⟨fn,hf,hname,by rw[hb];rfl⟩,λf cs p=>?_⟩
 let b:Frame:={(default:Frame) with fn:=k,kind:=.deferred,roundOf:=none}
 let a:Act:={tmps:=l.toArray++Array.replicate (fn.ntmps-l.toArray.size) undef,defers:=[]}
 have d:Frame.enter P k l.toArray .deferred=b.atR a [.code c]:=by
  simp[Frame.enter,Frame.atR,hf,hb,b,a]
 obtain⟨en,w',fr,i,j,g,q⟩:=h b (f::cs) a rfl rfl rfl ⟨by simp[a,hn];omega,λt v ht=>by
  obtain⟨_,g⟩:=XbA l 0 t v ht;have m:t<l.length:=by
   have:=(List.getElem?_eq_some_iff.1 g).1;simpa using this
  simp only[a];rw[Array.getElem?_append_left (xU m)]
  simpa using g⟩
 rw[<-d] at j;obtain⟨v,rfl,r⟩:=i rfl;obtain⟨s,u,x,y⟩:=q.1 rfl;refine⟨.returned v,.returning,w',fr,⟨rfl,v,rfl,r⟩,?_,x,s,u,y⟩;have o:({f with mode:=.returning}:Frame)=f:=by rw[<-p]
 rw[o];exact j
theorem Xa.deferred(hro:R.ro=none){o:Oper}{d:Deferred}(h:E7 s e=some (o,s'))(hd:o.dst=none)(hrun:∀a,Za n a e->(execOp a.eval o).run P w=.ok (.defer d) w)(hg:Xa P f R n (d::ds) s' e w):Xa P f R n ds s e w:=by
 unfold E7 at h;split at h
 .rename_i ops i l k
  split at h
  .rename_i o' c
   split at h
   .rename_i m
    cases h
    intro b cs a p g j hf;obtain⟨en,q,fr,r,t,u,v⟩:=hg b cs {a with defers:=d::a.defers} p g (by simp[j]) ⟨hf.1,hf.2⟩;refine⟨en,q,fr,r,.of_steps (.one (step_lone_go ?_)) t,u,v⟩;rw[stepGR_op (Bx c) (D6 hf m),g,hro,Oper.semAt_none];simp[stepG.apply,hrun a hf,Frame.atR,Frame.finish,Bx c,hd]
   .cases h
  .cases h
 .cases h
theorem Xa.ret1D(hT:Xp P T){fn:Func}{t k:Nat}{v:Value}{d:Deferred}{fv:Fn}{cap args:Array Value}(hs:Fm s=true)(hfn:P.funcs[f]?=some fn)(hr:fn.results.toList=[.tmp t])(hv:look e t=some v)(ht:d.target=.fn fv cap)(hi:(invoke d.target d.args).run P w=.ok (.enter k args) w)(hd:Hp P k args w (λ_ w'=>Post v w')):Xa P f (Gh Post) n [d] s e w:=by
 intro b cs a j l m hf;have h:∃todo,Go.step P (lone (b.atR a s) cs w)=.next (lone {b.atR a todo with mode:=.returning} cs w):=by
  unfold Fm at hs;split at hs
  .exact⟨[],stepR_end l⟩
  .rename_i k;exact⟨.code .ret::k,stepR_ret l⟩
  .cases hs
 obtain⟨todo,o⟩:=h;have u:=step_defer (P:=P) (fr:={b.atR a todo with mode:=.returning}) (cs:=cs) (w:=w) (d:=d) (ds:=[]) xS m ht hi;obtain⟨en,u',w',frX,⟨rfl,x,rfl,y⟩,g,p,q⟩:=hd.calls {({b.atR a todo with mode:=.returning}:Frame) with defers:=[]} cs rfl;have z:=step_going_returned (P:=P) (c:={({({b.atR a todo with mode:=.returning}:Frame) with defers:=[]}:Frame) with mode:=.returning}) (cs:=cs) p q;have i:=V4 (w:=w') hT hf (vs:=[v]) (fn:=fn) (by rw[hr];exact .tmp hv .nil);exact⟨.returned v,w',_,λ_=>⟨_,rfl,y⟩,Steps.head o (.head u (Steps.trans g (.one z))),j,λ_=>⟨rfl,rfl,rfl,fn,by rw[<-hfn,<-j];rfl,i⟩,λr=>absurd rfl r⟩
def Xet(s:List Item)(e:Env):Option (Nat×List Value×List Value×List Item):=
 match E7 s e with
 |some (o,s')=>match o.dst,o.op with
  |none,.defer c=>match c.callee,evs e c.args.toList with
   |.value x,some l=>match ev e x with
    |some (.func (.func k) first captured)=>some (k,first.toList++l,captured.toList,s')
    |_=>none
   |_,_=>none
  |_,_=>none
 |none=>none
abbrev Rx(k:Nat)(args captured:List Value):Deferred:={target:=.fn (.func k) captured.toArray,args:=args.toArray}
theorem Xa.defer(hro:R.ro=none){k:Nat}{args captured:List Value}(h:Xet s e=some (k,args,captured,s'))(hg:Xa P f R n (Rx k args captured::ds) s' e w):Xa P f R n ds s e w:=by
 unfold Xet at h;split at h
 .rename_i o r i
  split at h
  .rename_i c j g
   split at h
   .rename_i x l m p
    split at h
    .rename_i t first d q
     cases h
     refine Xa.deferred hro i j (λa hf=>?_) hg;have b:=G8 (hf.evs p);simp only[execOp,g,resolve,m,b,hf.ev q,Deferred.ofValue];refine(Xh (show(pure _:Sem Deferred).run P w=.ok _ w from rfl)).trans ?_;rw[show first++l.toArray=(first.toList++l).toArray from Array.ext' xS];simp[Rx,Sem.run_pure]
    .cases h
   .cases h
  .cases h
 .cases h
theorem O9{k:Nat}{args captured:List Value}(hk:Ob P k):(invoke (Rx k args captured).target (Rx k args captured).args).run P w=.ok (.enter k (args++captured).toArray) w:=by
 obtain⟨fn,c,a,b⟩:=hk;simp only[invoke,callFunc,Rx];refine(Xh (x:=P) (w':=w) rfl).trans ?_;simp only[c,a,Bool.false_eq_true,if_false,b];rw[show args.toArray++captured.toArray=(args++captured).toArray from by simp];rfl
end
end Go.Proofs.YtdeihcnepljjaaaGreatDoor
