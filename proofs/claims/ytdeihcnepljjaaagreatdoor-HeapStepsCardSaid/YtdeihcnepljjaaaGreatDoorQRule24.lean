/-
  Rule24
-/
import Derived.Test.YtdeihcnepljjaaaGreatDoorQRule5
import Derived.Laws.FloatArith
import Derived.Laws.NewFold
namespace Go.Proofs.YtdeihcnepljjaaaGreatDoor
open Go.RowKit
section
variable {P:Program}{T:Tab}{f:FuncId}{R:Aim}{n:Nat}{ds:List Deferred}{s s':List Item}{e e':Env}{w w':World}
theorem Xa.again(hT:Xp P T){body:Code}{k:List Item}{s2:List Item}{e2:Env}(ha:Go.Proofs.YtdeihcnepljjaaaGreatDoor.adv T n 400 (.code body::.inLoop body::k) e=(s2,e2))(h:Xa P f R n ds s2 e2 w):Xa P f R n ds (.inLoop body::k) e w:=
 Xa.step (λ_ _ _ _=>stepR_inLoop) (Xa.adv hT 400 ha h)
def XeJ(T:Tab)(e:Env)(o:Oper):Option (FloatKind×Int):=
 match o.op with
 |.convert src dst x=>match ev e x,row T src,row T dst with
  |some (.int _ a),some _,some {und:=.float k,..}=>some (k,a)
  |_,_,_=>none
 |_=>none
theorem Xa.fconv(hT:Xp P T){k:FloatKind}{z:Int}{d:Nat}{s2:List Item}{e2:Env}(h:Qb (XeJ T e) n s e=some ((k,z),d,s'))(ha:Go.Proofs.YtdeihcnepljjaaaGreatDoor.adv T n 400 s' ((d,false,.float k (k.nearest z))::e)=(s2,e2))(hg:Xa P f R n ds s2 e2 w):Xa P f R n ds s e w:=by
 refine Xa.val h (λo b a hf=>?_) (Xa.adv hT 400 ha hg);unfold XeJ at b;split at b
 .rename_i src dst x c
  split at b
  .rename_i l m p q _ _ _ j g i
   cases b
   simp only[execOp,c,hf.ev j];refine(Xh (x:=(.float k (k.nearest z):Value)) (w':=w) ?_).trans rfl;unfold convert;refine(Xh ((hT.row g).underlying w)).trans ((Xh ((hT.row i).underlying w)).trans ?_);rfl
  .cases b
 .cases b
def Xbh(e:Env)(o:Oper):Option (FloatKind×Nat×Nat):=
 match o.op with
 |.binOp .quo _ x y _=>match ev e x,ev e y with
  |some (.float k a),some (.float .f64 b)=>match k with
   |.f64=>some (.f64,a,b)
   |_=>none
  |_,_=>none
 |_=>none
def L0(a b r:Nat):Prop:=match FloatKind.format .f64|>.div a b with
 |some x=>r=x
 |none=>∃t,r=(t%2)*2^63+0x7ff0000000000000+1+(t/2)%(2^52-1)
theorem Xa.fquo(hT:Xp P T){k:FloatKind}{a b d:Nat}{s2:List Item}{e2:Nat->Env}(h:Qb (Xbh e) n s e=some ((k,a,b),d,s'))(ha:∀r,Go.Proofs.YtdeihcnepljjaaaGreatDoor.adv T n 400 s' ((d,false,.float .f64 r)::e)=(s2,e2 r))(hg:∀r w1,L0 a b r->Xc Xf w w1->Xa P f R n ds s2 (e2 r) w1):Xa P f R n ds s e w:=by
 have g:∀o,Xbh e o=some (k,a,b) -> ∀v w1,(binOp .quo 0 (.float .f64 a) (.float .f64 b)).run P w=.ok v w1 -> ∀x,Za n x e->(execOp x.eval o).run P w=.ok (.value v) w1:=by
  intro o c v w1 l x hf;unfold Xbh at c;split at c
  .rename_i t u y t' j
   split at c
   .rename_i m p
    split at c
    .cases c
     simp only[execOp,j,hf.ev m,hf.ev p];refine(Xh (x:=v) (w':=w1) ?_).trans rfl;exact(Xh (show(eqGuard _ _ _ _ _ _).run P w=.ok () w from rfl)).trans l
    .cases c
   .cases c
  .cases c
 cases i:FloatKind.format .f64|>.div a b with
 |some r=>
  refine Xa.val (w':=w) h (λo c x hf=>g o c _ _ (run_float_arith w .quo 0 .f64 a b r i) x hf) (Xa.adv hT 400 (ha r) (hg r w (by unfold L0;rw[i]) (Xc.refl _ _)))
 |none=>
  have q:Xc Xf w w.drew:=⟨rfl,rfl,rfl,Nat.le_refl _,λ_ _ _=>rfl⟩;refine Xa.val (w':=w.drew) (v:=.float .f64 ((Question.nanBits .f64 a b).cut (w.tape w.drawn (.nanBits .f64 a b)))) h (λo c x hf=>g o c _ _ ?_ x hf) (Xa.adv hT 400 (ha _) (hg _ w.drew (by unfold L0;rw[i];exact⟨_,rfl⟩) q));simp only[binOp,ne_eq,not_true_eq_false,if_false,Op.floatArith,i];simp[Question.forced]
def XeI(e:Env)(o:Oper):Option (BinOp×Nat×Nat):=
 match o.op with
 |.binOp op _ x y _=>match ev e x,ev e y with
  |some (.float .f64 a),some (.float .f64 b)=>some (op,a,b)
  |_,_=>none
 |_=>none
def R1(op:BinOp)(a b:Nat):Option Bool:=
 let c:=(FloatKind.format .f64).order a b
 match op with
 |.eql=>some (c == some .eq)
 |.neq=>some (c != some .eq)
 |.lss=>some (c == some .lt)
 |.gtr=>some (c == some .gt)
 |_=>none
theorem Xa.fcmp(hT:Xp P T){op:BinOp}{a b d:Nat}{v:Bool}{s2:List Item}{e2:Env}(h:Qb (XeI e) n s e=some ((op,a,b),d,s'))(hv:R1 op a b=some v)(ha:Go.Proofs.YtdeihcnepljjaaaGreatDoor.adv T n 400 s' ((d,false,.bool v)::e)=(s2,e2))(hg:Xa P f R n ds s2 e2 w):Xa P f R n ds s e w:=by
 refine Xa.val h (λo c x hf=>?_) (Xa.adv hT 400 ha hg);unfold XeI at c;split at c
 .rename_i k t l m t' g
  split at c
  .rename_i i j
   cases c
   simp only[execOp,g,hf.ev i,hf.ev j];refine(Xh (x:=(.bool v:Value)) (w':=w) ?_).trans rfl;unfold R1 at hv;refine(Xh (show(eqGuard _ _ _ _ _ _).run P w=.ok () w from ?_)).trans ?_
   .unfold eqGuard;cases op <;> rfl
   .cases op <;> simp only[reduceCtorEq,Option.some.injEq] at hv <;> (subst hv;simp only[binOp,ne_eq,not_true_eq_false,if_false,Op.floatCmp];rfl)
  .cases c
 .cases c
end
end Go.Proofs.YtdeihcnepljjaaaGreatDoor
