/-
  Rule24
-/
import Derived.Test.YtgddpaiandefgaaGreatDoorQRule5
import Derived.Laws.FloatArith
import Derived.Laws.NewFold
namespace Go.Proofs.YtgddpaiandefgaaGreatDoor
open Go.RowKit
section
variable {P:Program} {T:Tab} {f:FuncId} {R:Aim} {n:Nat} {ds:List Deferred} {s s':List Item} {e e':Env} {w w':World}
theorem Xay.again (hT:XbB P T) {body:Code} {k:List Item} {s2:List Item} {e2:Env} (ha:Go.Proofs.YtgddpaiandefgaaGreatDoor.adv T n 400 (.code body :: .inLoop body::k) e=(s2,e2)) (h:Xay P f R n ds s2 e2 w):Xay P f R n ds (.inLoop body::k) e w :=
 Xay.step (fun _ _ _ _=>stepR_inLoop) (Xay.adv hT 400 ha h)
def Xgf (T:Tab) (e:Env) (o:Oper):Option Value :=
 match o.op with
 |.field t x j=>match ev e x,row T t with
  |some (.agg c),some {und := .struct fs,..}=>match fs[j]? with
   |some fd=>match row T fd.type with
    |some r=>match Xh2 r with
     |false=>Xk8 c.toList fd.offset
     |true=>none
    |none=>none
   |none=>none
  |_,_=>none
 |_=>none
theorem Xgg (hT:XbB P T) {v:Value} {op:Oper} (h:Xgf T e op=some v) (act:Act) (hf:Xau n act e):(execOp act.eval op).run P w = .ok (.value v) w:=by
 unfold Xgf at h;split at h
 ·rename_i t x j b
  split at h
  ·rename_i a fs _ _ _ f g
   split at h
   ·rename_i fd c
    split at h
    ·rename_i r d
     split at h
     ·rename_i i
      simp only [execOp,b,hf.ev f];refine (Xpj (x:=v) (w':=w) ?_).trans rfl;unfold Instr.field;rw [Xpj ((hT.row g).underlying w)];simp only [c,asAgg];rw [Xpj (show (pure a:Sem (Array Value)).run P w = .ok a w from rfl)];unfold part;rw [Xpj ((hT.row d).isAgg w),i];have k:a[fd.offset]? = some v:=by rw [Xk9] at h; rw [← h]; exact Array.getElem?_toList.symm
      simp only [Bool.false_eq_true,if_false,k];rfl
     ·cases h
    ·cases h
   ·cases h
  ·cases h
 ·cases h
theorem Xay.fld (hT:XbB P T) {v:Value} {d:Nat} {s2:List Item} {e2:Env} (h:XcR (Xgf T e) n s e=some (v,d,s')) (ha:Go.Proofs.YtgddpaiandefgaaGreatDoor.adv T n 400 s' ((d,false,v)::e)=(s2,e2)) (hG:Xay P f R n ds s2 e2 w):Xay P f R n ds s e w :=
 Xay.val h (fun _ b a c=>Xgg hT b a c) (Xay.adv hT 400 ha hG)
def XfS (T:Tab) (e:Env) (o:Oper):Option (FloatKind × Int) :=
 match o.op with
 |.convert src dst x=>match ev e x,row T src,row T dst with
  |some (.int _ a),some _,some {und := .float k,..}=>some (k,a)
  |_,_,_=>none
 |_=>none
theorem Xay.fconv (hT:XbB P T) {k:FloatKind} {z:Int} {d:Nat} {s2:List Item} {e2:Env} (h:XcR (XfS T e) n s e=some ((k,z),d,s'))
 (ha:Go.Proofs.YtgddpaiandefgaaGreatDoor.adv T n 400 s' ((d,false,.float k (k.nearest z))::e)=(s2,e2)) (hg:Xay P f R n ds s2 e2 w):Xay P f R n ds s e w:=by
 refine Xay.val h (fun o b a j => ?_) (Xay.adv hT 400 ha hg);unfold XfS at b;split at b
 ·rename_i src dst x c
  split at b
  ·rename_i m p q r _ _ _ l g i
   cases b
   simp only [execOp,c,j.ev l];refine (Xpj (x:=(.float k (k.nearest z):Value)) (w':=w) ?_).trans rfl;unfold convert;refine (Xpj ((hT.row g).underlying w)).trans ?_;refine (Xpj ((hT.row i).underlying w)).trans ?_;rfl
  ·cases b
 ·cases b
def Xgo (e:Env) (o:Oper):Option (FloatKind × Nat × Nat) :=
 match o.op with
 |.binOp .quo _ x y _=>match ev e x,ev e y with
  |some (.float k a),some (.float .f64 b)=>match k with
   |.f64=>some (.f64,a,b)
   |_=>none
  |_,_=>none
 |_=>none
def XnE (a b r:Nat):Prop:=match FloatKind.format .f64 |>.div a b with
 |some x=>r=x
 |none => ∃ t,r=(t % 2)*2 ^ 63+0x7ff0000000000000+1+(t / 2) % (2 ^ 52 - 1)
theorem Xay.fquo (hT:XbB P T) {k:FloatKind} {a b d:Nat} {s2:List Item} {e2:Nat→Env} (h:XcR (Xgo e) n s e=some ((k,a,b),d,s'))
 (ha:∀ r,Go.Proofs.YtgddpaiandefgaaGreatDoor.adv T n 400 s' ((d,false,.float .f64 r)::e)=(s2,e2 r)) (hg:∀ r w1,XnE a b r→Chg XaW w w1→Xay P f R n ds s2 (e2 r) w1):Xay P f R n ds s e w:=by
 have i:∀ o,Xgo e o=some (k,a,b) → ∀ v w1,(binOp .quo 0 (.float .f64 a) (.float .f64 b)).run P w = .ok v w1 → ∀ x,Xau n x e→(execOp x.eval o).run P w = .ok (.value v) w1:=by
  intro o c v w1 m x g;unfold Xgo at c;split at c
  ·rename_i t y z t' l
   split at c
   ·rename_i p q
    split at c
    ·cases c
     simp only [execOp,l,g.ev p,g.ev q];refine (Xpj (x:=v) (w':=w1) ?_).trans rfl;exact (Xpj (show (eqGuard _ _ _ _ _ _).run P w = .ok () w from rfl)).trans m
    ·cases c
   ·cases c
  ·cases c
 cases j:FloatKind.format .f64 |>.div a b with
 |some r =>
  refine Xay.val (w':=w) h (fun o c x g=>i o c _ _ (run_float_arith w .quo 0 .f64 a b r j) x g) (Xay.adv hT 400 (ha r) (hg r w (by unfold XnE; rw [j]) (Chg.refl _ _)))
 |none =>
  have u:Chg XaW w w.drew:=⟨rfl,rfl,rfl,Nat.le_refl _,fun _ _ _=>rfl⟩;refine Xay.val (w':=w.drew) (v := .float .f64 ((Question.nanBits .f64 a b).cut (w.tape w.drawn (.nanBits .f64 a b)))) h (fun o c x g=>i o c _ _ ?_ x g) (Xay.adv hT 400 (ha _) (hg _ w.drew (by unfold XnE; rw [j]; exact ⟨_,rfl⟩) u));simp only [binOp,ne_eq,not_true_eq_false,if_false,Op.floatArith,j];simp [Question.forced]
def XfQ (e:Env) (o:Oper):Option (BinOp × Nat × Nat) :=
 match o.op with
 |.binOp op _ x y _=>match ev e x,ev e y with
  |some (.float .f64 a),some (.float .f64 b)=>some (op,a,b)
  |_,_=>none
 |_=>none
def XfR (op:BinOp) (a b:Nat):Option Bool :=
 let c:=(FloatKind.format .f64).order a b
 match op with
 |.eql=>some (c == some .eq)
 |.neq=>some (c != some .eq)
 |.lss=>some (c == some .lt)
 |.gtr=>some (c == some .gt)
 |_=>none
theorem Xay.fcmp (hT:XbB P T) {op:BinOp} {a b d:Nat} {v:Bool} {s2:List Item} {e2:Env} (h:XcR (XfQ e) n s e=some ((op,a,b),d,s')) (hv:XfR op a b=some v)
 (ha:Go.Proofs.YtgddpaiandefgaaGreatDoor.adv T n 400 s' ((d,false,.bool v)::e)=(s2,e2)) (hg:Xay P f R n ds s2 e2 w):Xay P f R n ds s e w:=by
 refine Xay.val h (fun o c x g => ?_) (Xay.adv hT 400 ha hg);unfold XfQ at c;split at c
 ·rename_i l t m p t' i
  split at c
  ·rename_i j k
   cases c
   simp only [execOp,i,g.ev j,g.ev k];refine (Xpj (x:=(.bool v:Value)) (w':=w) ?_).trans rfl;unfold XfR at hv;refine (Xpj (show (eqGuard _ _ _ _ _ _).run P w = .ok () w from ?_)).trans ?_
   ·unfold eqGuard;cases op <;> rfl
   ·cases op <;> simp only [reduceCtorEq,Option.some.injEq] at hv <;> (subst hv; simp only [binOp,ne_eq,not_true_eq_false,if_false,Op.floatCmp]; rfl)
  ·cases c
 ·cases c
end
end Go.Proofs.YtgddpaiandefgaaGreatDoor
