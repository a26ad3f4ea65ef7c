/-
  Rule8
-/
import Derived.Test.YtohjeeapehmkcaaGreatDoorQRule7
import Derived.Defers
namespace Go.Proofs.YtohjeeapehmkcaaGreatDoor
open Go.RowKit
section
variable {P:Program}{T:Tab}{f:FuncId}{R:Aim}{Post:Value->World->Prop}{k:List Item}{n:Nat}{ds:List Deferred}{s s':List Item}{w:World}{e:Env}
structure Ge(P:Program)(k:FuncId)(args:Array Value)(w:World)(Post:Value->World->Prop):Prop where
 fn:Mw P k
 calls:CallsD P k args .returning w (λen u' w'=>u'=.returning/\∃v,en=.returned v/\Post v w')
theorem Ge.enter{k:FuncId}{fn:Func}{c:Code}{l:List Value}{n:Nat}(hf : P.funcs[k]? = some fn)(hb : fn.body = some c)(hn : fn.ntmps = n) (hname : (fn.name == "runtime.NumGoroutine") = false) (hle' : Nat.ble l.length n = true)
 (h:Xa P k (E2 Post) n [] [.code c] (Lj 0 l) w):Ge P k l.toArray w Post:=by
 have z:=Nat.le_of_ble_eq_true hle';refine⟨⟨fn,hf,hname,by rw[hb];rfl⟩,λe cs o=>?_⟩
 let b:Frame:={(default:Frame) with fn:=k,kind:=.deferred,roundOf:=none}
 let a:Act:={tmps:=l.toArray++Array.replicate (fn.ntmps-l.toArray.size) undef,defers:=[]}
 have d:Frame.enter P k l.toArray .deferred=b.atR a [.code c]:=by
  simp[Frame.enter,Frame.atR,hf,hb,b,a]
 obtain⟨en,w',fr,g,i,f,p⟩:=h b (e::cs) a rfl rfl rfl ⟨by simp[a,hn];omega,λt v q=>by
  obtain⟨_,f⟩:=XaH l 0 t v q;have j:t<l.length:=by
   have:=(List.getElem?_eq_some_iff.1 f).1;simpa using this
  simp only[a];rw[Array.getElem?_append_left (by simpa using j)]
  simpa using f⟩
 rw[<-d] at i;obtain⟨v,rfl,r⟩:=g rfl;obtain⟨s,u,x,y⟩:=p.1 rfl;refine⟨.returned v,.returning,w',fr,⟨rfl,v,rfl,r⟩,?_,x,s,u,y⟩;have m:({e with mode:=.returning}:Frame)=e:=by rw[<-o]
 rw[m];exact i
theorem Xa.deferred(hro:R.ro=none){o:Oper}{d:Deferred}(h:Ec s e=some (o,s'))(hd:o.dst=none)(hrun:∀a,X8 n a e->(execOp a.eval o).run P w=.ok (.defer d) w)(hg:Xa P f R n (d::ds) s' e w):Xa P f R n ds s e w:=by
 unfold Ec at h;split at h
 ·rename_i ops i l k
  split at h
  ·rename_i o' g
   split at h
   ·rename_i p
    cases h
    intro b cs a q j m c;obtain⟨en,r,fr,t,u,v,x⟩:=hg b cs {a with defers:=d::a.defers} q j (by simp[m]) ⟨c.1,c.2⟩;refine⟨en,r,fr,t,.of_steps (.one (step_lone_go ?_)) u,v,x⟩;rw[stepGR_op (Bg g) (C8 c p),j,hro,Oper.semAt_none];simp[stepG.apply,hrun a c,Frame.atR,Frame.finish,Bg g,hd]
   ·cases h
  ·cases h
 ·cases h
theorem Xa.ret1D(hT:Xq P T){fn:Func}{t k:Nat}{v:Value}{d:Deferred}{fv:Fn}{cap args:Array Value}(hs:Ep s=true)(hfn:P.funcs[f]?=some fn)(hr:fn.results.toList=[.tmp t])(hv:look e t=some v)(ht:d.target=.fn fv cap)(hi:(invoke d.target d.args).run P w=.ok (.enter k args) w)(hd:Ge P k args w (λ_ w'=>Post v w')):Xa P f (E2 Post) n [d] s e w:=by
 intro b cs a j l m u;have h:∃todo,Go.step P (lone (b.atR a s) cs w)=.next (lone {b.atR a todo with mode:=.returning} cs w):=by
  unfold Ep at hs;split at hs
  ·exact⟨[],stepR_end l⟩
  ·rename_i k;exact⟨.code .ret::k,stepR_ret l⟩
  ·cases hs
 obtain⟨todo,o⟩:=h;have y:=step_defer (P:=P) (fr:={b.atR a todo with mode:=.returning}) (cs:=cs) (w:=w) (d:=d) (ds:=[]) (by simp) m ht hi;obtain⟨en,u',w',frX,⟨rfl,x,rfl,z⟩,g,p,q⟩:=hd.calls {({b.atR a todo with mode:=.returning}:Frame) with defers:=[]} cs rfl;have A:=step_going_returned (P:=P) (c:={({({b.atR a todo with mode:=.returning}:Frame) with defers:=[]}:Frame) with mode:=.returning}) (cs:=cs) p q;have i:=Uf (w:=w') hT u (vs:=[v]) (fn:=fn) (by rw[hr];exact .tmp hv .nil);exact⟨.returned v,w',_,λ_=>⟨_,rfl,z⟩,Steps.head o (.head y (Steps.trans g (.one A))),j,λ_=>⟨rfl,rfl,rfl,fn,by rw[<-hfn,<-j];rfl,i⟩,λr=>absurd rfl r⟩
def Xdw(s:List Item)(e:Env):Option (Nat×List Value×List Value×List Item):=
 match Ec s e with
 |some (o,s')=>match o.dst,o.op with
  |none,.defer c=>match c.callee,evs e c.args.toList with
   |.value x,some l=>match ev e x with
    |some (.func (.func k) first captured)=>some (k,first.toList++l,captured.toList,s')
    |_=>none
   |_,_=>none
  |_,_=>none
 |none=>none
abbrev Pe(k:Nat)(args captured:List Value):Deferred:={target:=.fn (.func k) captured.toArray,args:=args.toArray}
theorem Xa.defer(hro:R.ro=none){k:Nat}{args captured:List Value}(h:Xdw s e=some (k,args,captured,s'))(hg:Xa P f R n (Pe k args captured::ds) s' e w):Xa P f R n ds s e w:=by
 unfold Xdw at h;split at h
 ·rename_i o t j
  split at h
  ·rename_i c m g
   split at h
   ·rename_i x l p q
    split at h
    ·rename_i u first d r
     cases h
     refine Xa.deferred hro j m (λa i=>?_) hg;have b:=Fs (i.evs q);simp only[execOp,g,resolve,p,b,i.ev r,Deferred.ofValue];refine(Xh (show(pure _:Sem Deferred).run P w=.ok _ w from rfl)).trans ?_;rw[show first++l.toArray=(first.toList++l).toArray from Array.ext' (by simp)];simp[Pe,Sem.run_pure]
    ·cases h
   ·cases h
  ·cases h
 ·cases h
theorem Nz{k:Nat}{args captured:List Value}(hk:Mw P k):(invoke (Pe k args captured).target (Pe k args captured).args).run P w=.ok (.enter k (args++captured).toArray) w:=by
 obtain⟨fn,c,a,b⟩:=hk;simp only[invoke,callFunc,Pe];refine(Xh (x:=P) (w':=w) rfl).trans ?_;simp only[c,a,Bool.false_eq_true,if_false,b];rw[show args.toArray++captured.toArray=(args++captured).toArray from by simp];rfl
end
end Go.Proofs.YtohjeeapehmkcaaGreatDoor
