/-
  Texts put together: Hpm, Hp4, Aw23, Laws20, Laws20b, Laws23.
-/
import Derived.Test.YtgddpaiandefgaaGreatDoorPt4
import Derived.KernelRfl
set_option linter.unusedVariables false
set_option maxRecDepth 100000
namespace Go.Proofs.YtgddpaiandefgaaGreatDoor
open Go.RowKit
structure HpM.Ok (c:Conf) (x:HpM):Prop where
 st:x.st.Ok c
 tb:x.tb.Ok c.slots c.gens
 link:∀ o:Nat,x.tb.live.getD o false=true↔1≤(zsT x.st).getD o 0
def Xhz (c:Conf) (x:HpM) (n:Int):HpM:=if tbE x.tb n=0 then ⟨Xrz c x.st (tbN x.tb n),XsY x.tb n⟩ else x
def XhB (c:Conf) (x:HpM) (n i m:Int):HpM:=if tbE x.tb n=0 then ⟨XrH c x.st (tbN x.tb n) i m,x.tb⟩ else x
def XhD (x:HpM) (n i m:Int):Int:=if tbE x.tb n=0 then Xun x.st (tbN x.tb n) i m else tbE x.tb n
def XhC (c:Conf) (x:HpM) (n i m:Int):List Int:=if tbE x.tb n=0 then XrI c x.st (tbN x.tb n) i m else []
def XhF (c:Conf) (x:HpM) (n i:Int) (l:List Int):HpM:=if tbE x.tb n=0 then ⟨XrP c x.st (tbN x.tb n) i l,x.tb⟩ else x
def XhE (x:HpM) (k keep:Int):HpM:=⟨XrJ x.st k keep,x.tb⟩
def XhA (c:Conf) (x:HpM) (size:Int):Prop:=Xry c x.st size=0∧x.tb.fl ≠ []
instance (c:Conf) (x:HpM) (size:Int):Decidable (XhA c x size):=by unfold XhA; exact inferInstance
def Xhu (c:Conf) (x:HpM) (size:Int):HpM:=if XhA c x size then ⟨Xrq c x.st (Xs7 x.tb) size,Xs5 x.tb⟩ else x
def Xhv (c:Conf) (x:HpM) (size:Int):Int:=if Xry c x.st size=3 then 3 else if x.tb.fl = [] then 4 else Xry c x.st size
def Xhw (c:Conf) (x:HpM) (size:Int):Int:=if XhA c x size then Xs6 x.tb else 0
def Xhx (c:Conf) (x:HpM) (size:Int):Int:=if XhA c x size then 2+((Xhu c x size).st.rm.tot - x.st.rm.tot) else 0
def XkF (c:Conf):HpM:=⟨XkU c,XkX c.slots c.gens⟩
theorem XgF (x:List Bool) (i j:Nat) (v:Bool):(x.set i v).getD j false=if i=j∧i<x.length then v else x.getD j false:=by
 rw [List.getD_eq_getElem?_getD,List.getElem?_set,List.getD_eq_getElem?_getD];by_cases h:i=j
 ·subst h;by_cases a:i<x.length
  ·simp [a]
  ·simp [a]
 ·simp [h]
section
variable {c:Conf} {x:HpM}
theorem XlC {s:StM} {j:Nat} {t:ThM} (h:s.th[j]? = some (some t)):Xlz s (j:Nat)=0:=by
 unfold Xlz;have a:=(List.getElem?_eq_some_iff.1 h).1;rw [if_neg (by omega),Xtd h]
theorem HpM.Ok.len (h:x.Ok c):(zsT x.st).length=x.tb.live.length:=by
 have:=h.st.tl;have:=h.tb.n;have:=h.tb.nl;rw [Xvd];omega
theorem HpM.Ok.slot (h:x.Ok c) {n:Int} (hE:tbE x.tb n=0):∃ j:Nat,tbN x.tb n=j∧j<x.tb.live.length ∧ ∃ t,x.st.th[j]? = some (some t):=by
 obtain ⟨b,d,e,f,g,i,a⟩:=h.tb.tbE_ok hE;refine ⟨(Xs4 n).toNat,by unfold tbN; rw [if_pos hE]; omega,(List.getElem?_eq_some_iff.1 a).1,(Xvb h.st _).2 ((h.link _).1 (XgC a))⟩
theorem HpM.Ok.free (h:x.Ok c) (n:Int):(Xhz c x n).Ok c:=by
 unfold Xhz;split
 ·rename_i a
  obtain ⟨j,ej,b,t,d⟩:=h.slot a;have f:=h.len;refine ⟨h.st.free _,h.tb.give n,fun o => ?_⟩;show (XsY x.tb n).live.getD o false=true↔1≤(zsT (Xrz c x.st (tbN x.tb n))).getD o 0
  rw [Xu9 h.st,ej,if_pos (XlC d),Int.toNat_natCast,XgH];unfold XsY;have ej':(Xs4 n).toNat=j:=by unfold tbN at ej; rw [if_pos a] at ej; omega
  rw [if_pos a];show (x.tb.live.set (Xs4 n).toNat false).getD o false=true↔_
  rw [ej',XgF];by_cases e:j=o
  ·rw [if_pos ⟨e,b⟩,if_pos ⟨e,by omega⟩]
   simp
  ·rw [if_neg (fun g=>e g.1),if_neg (fun g=>e g.1)];exact h.link o
 ·exact h
theorem HpM.Ok.keep (h:x.Ok c) {s':StM} (hs:s'.Ok c) (hz:zsT s'=zsT x.st):HpM.Ok c ⟨s',x.tb⟩:=⟨hs,h.tb,fun o=>by rw [show zsT (HpM.mk s' x.tb).st=zsT x.st from hz]; exact h.link o⟩
theorem HpM.Ok.read (h:x.Ok c) (n i m:Int):(XhB c x n i m).Ok c:=by
 unfold XhB;split
 ·exact h.keep (h.st.read _ i m) (Xve ..)
 ·exact h
theorem HpM.Ok.write (h:x.Ok c) (n i:Int) {l:List Int} (hl:InB l):(XhF c x n i l).Ok c:=by
 unfold XhF;split
 ·exact h.keep (h.st.write _ i hl) (Xvh ..)
 ·exact h
theorem HpM.Ok.set (h:x.Ok c) (k keep:Int):(XhE x k keep).Ok c:=h.keep (h.st.set k keep) (Xvg ..)
theorem HpM.Ok.goes (h:x.Ok c) {size:Int} (hg:XhA c x size):∃ j:Nat,Xs7 x.tb=j∧j<x.tb.live.length∧x.tb.live.getD j false=false∧Xs5 x.tb={x.tb with live:=x.tb.live.set j true,fl:=x.tb.fl.tail}∧Xrr c x.st j size=0:=by
 cases a:x.tb.fl with
 |nil=>exact absurd a hg.2
 |cons j r =>
  obtain ⟨g,n,o,b⟩:=h.tb.fr j (by rw [a]; exact List.mem_cons_self);refine ⟨j,by unfold Xs7; rw [a],(List.getElem?_eq_some_iff.1 b).1,XgC b,by unfold Xs5; rw [a]; rfl,?_⟩;have k:=h.len;have m:=(List.getElem?_eq_some_iff.1 b).1;have d:¬ ∃ t,x.st.th[j]? = some (some t):=fun l=>by
   have:=(h.link j).2 ((Xvb h.st j).1 l);rw [XgC b] at this;cases this
  rw [Xvd] at k;have f:x.st.th[j]? = some none:=by
   cases i:x.st.th[j]? with
   |none=>rw [List.getElem?_eq_none_iff] at i; omega
   |some y=>cases y with
    |none=>rfl
    |some t=>exact absurd ⟨t,i⟩ d
  have e:Xlz x.st (j:Nat)=9:=by
   unfold Xlz;rw [if_neg (by omega),show XrO x.st (j:Nat)=none by unfold XrO; rw [if_pos (by omega),Int.toNat_natCast,List.getD_eq_getElem?_getD,f]; rfl]
  unfold Xrr;rw [e,if_neg (by decide),if_neg (by decide)];exact hg.1
theorem HpM.Ok.alloc (h:x.Ok c) (size:Int):(Xhu c x size).Ok c:=by
 unfold Xhu;split
 ·rename_i a
  obtain ⟨j,e1,e2,e3,e4,e5⟩:=h.goes a;have d:=h.len;have b:=(Xf9 a.1).1.1;refine ⟨h.st.alloc _ size,h.tb.take,fun o => ?_⟩;show (Xs5 x.tb).live.getD o false=true↔1≤(zsT (Xrq c x.st (Xs7 x.tb) size)).getD o 0
  rw [Xu4 h.st,e1,if_pos e5,e4,Int.toNat_natCast,XgH];show (x.tb.live.set j true).getD o false=true↔_
  rw [XgF];by_cases e:j=o
  ·rw [if_pos ⟨e,e2⟩,if_pos ⟨e,by omega⟩];simp [b]
  ·rw [if_neg (fun g=>e g.1),if_neg (fun g=>e g.1)];exact h.link o
 ·exact h
theorem XkI (hm:XjN c=true) (hA:Xbd c (XkM c 0)):(XkF c).Ok c:=by
 have a:(1≤c.slots∧c.slots≤4096)∧1≤c.gens∧c.gens≤1023:=by
  unfold XjN at hm;simp only [Bool.and_eq_true,decide_eq_true_eq,Xuo] at hm;omega
 refine ⟨XkW hm hA,XkY a.1 a.2,fun o => ?_⟩;have e1:(XkF c).tb.live.getD o false=false:=by
  show (List.replicate c.slots.toNat false).getD o false=false
  rw [List.getD_eq_getElem?_getD,List.getElem?_replicate];split <;> rfl
 have e2:(zsT (XkF c).st).getD o 0=0:=by
  show ((List.replicate c.slots.toNat (none:Option ThM)).map szT).getD o 0=0
  rw [List.getD_eq_getElem?_getD,List.getElem?_map,List.getElem?_replicate];split <;> rfl
 rw [e1,e2]
 simp
end
structure Hv (c:Conf) (n0:Nat) (w0 w:World) (F:Nat→Prop) (S:Sto) (H:Nat) (P:XbD) (x:HpM):Prop where
 hm:Hm c n0 w0 w F S H P x.st x.tb
 lap:S.R.lap=x.st.rm.tot
 ok:x.Ok c
def XaA (c:Conf) (n0:Nat) (w0 w:World) (F:Nat→Prop) (H:Nat) (P:XbD) (x:HpM) (w':World):Prop :=
 ∃ F' S',Hv c n0 w0 w' F' S' H P x∧(∀ z,F' z→F z∨w.heap.size≤z)∧Chg (Xhy F P) w w'
def Xap (c:Conf) (n0:Nat) (w0 w:World) (F:Nat→Prop) (H:Nat) (P:XbD) (x:HpM) (e g k:Int) (l:List Int) (v:Value) (w':World):Prop :=
 ∃ b F' S',v=XnT e g b k∧Xaj w.heap.size F' l b w'∧Hv c n0 w0 w' F' S' H P x∧(∀ z,F' z→F z∨w.heap.size≤z)∧Chg (Xhy F P) w w'
section
variable {c:Conf} {n0:Nat} {w0 w w':World} {F:Nat→Prop} {S:Sto} {H:Nat} {P:XbD} {s:StM} {t:TbM} {x x':HpM} {e g k:Int} {l:List Int} {v:Value}
theorem Hv.grow (h:Hv c n0 w0 w F S H P x) (hc:Chg XaW w w'):Hv c n0 w0 w' F S H P x:={h with hm:=h.hm.grow hc}
theorem XaA.up {w1:World} (h:XaA c n0 w0 w1 F H P x w') (hc:Chg XaW w w1):XaA c n0 w0 w F H P x w':=by
 obtain ⟨F',S',a,b,d⟩:=h;have:=hc.size;exact ⟨F',S',a,fun z e=>(b z e).imp id (by omega),(hc.mono fun _ _ h=>h.elim).trans d⟩
theorem XaA.on {w1:World} (h:XaA c n0 w0 w F H P x w1) (hc:Chg XaW w1 w'):XaA c n0 w0 w F H P x w':=by
 obtain ⟨F',S',a,b,d⟩:=h;exact ⟨F',S',a.grow hc,b,d.trans (hc.mono fun _ _ h=>h.elim)⟩
theorem Hv.self (h:Hv c n0 w0 w F S H P x) (hc:Chg XaW w w'):XaA c n0 w0 w F H P x w':=⟨F,S,h.grow hc,fun _ h => .inl h,hc.mono fun _ _ h=>h.elim⟩
theorem Hv.boxed (h:Hv c n0 w0 w F S H P x) {b ty:Nat} (hb:¬ F b) (hn:n0≤b∧w0.heap.size≤b) (hP:¬ XsW P b∧H≠b) (hk:kd w b=some (some ty)) (ht:ty≠329∧ty≠325∧ty≠3) (hc:Chg (fun q=>q=b) w w'):Hv c n0 w0 w' F S H P x :=
 {h with hm:=h.hm.boxed hb hn hP hk ht hc}
theorem Xhb (h:Hv c n0 w0 w F S H P x) (n:Int) (hn : -9223372036854775808≤n∧n≤9223372036854775807):Xan Tryz.prog 25 #[hpV H,.int .i64 n] w
 (Xap c n0 w0 w F H P (Xhz c x n) (tbE x.tb n) 0 ((if tbE x.tb n=0 then 2 else 0)+(1+((Xhz c x n).st.rm.tot - x.st.rm.tot))) []):=by
 have t:=h.hm.low';have a2:=h.hm.since0;have a3:=h.hm.tb.lt;have a4:=Xjs h.hm.obj;have E:=h.ok.free n;refine ζe Tryz.func25 Tryz.ntmps25 rfl (ζn rfl fun a w1 e1 W R a5=>ζn rfl fun d w2 e2 hd G a6=>ζn rfl fun b T e3 U u a7 => ?_);have I:=u.heap' (G.heap' W);have J:=u.heap' hd;have g:=(R.trans G).trans u;have K:=g.size;have M:=h.grow g;have L:∀ q,w.heap.size≤q → ¬ Xhy F P q:=fun q s e=>by
  rcases e with e | e | e
  ·have:=t q e; omega
  ·omega
  ·omega
 refine ζl I rfl (ζl J rfl (ζc rfl (Xhn M.hm M.lap n hn (k:=68) (cap := [.pointer (some ⟨a,0,none⟩),.pointer (some ⟨d,0,none⟩)]) (z:=2) (by omega) (fun p w' v=>Xhc (M.hm.grow v) (tbN x.tb n) n hn (v.cell (Xd6 (off:=0) I rfl) id) (v.cell (Xd6 (off:=0) J rfl) id) (L a (by omega)) (L d (by omega)))) ?_));rintro _ w4 i;refine ζa rfl ?_;by_cases p:tbE x.tb n=0
 ·have eX:Xhz c x n=⟨Xrz c x.st (tbN x.tb n),XsY x.tb n⟩:=by unfold Xhz; rw [if_pos p]
  rw [if_pos p] at i;rw [eX] at E ⊢;rw [if_pos p];obtain ⟨bv,r,rfl,y,N,j,l⟩:=i;obtain ⟨ra,rc,rfl,O,A⟩:=y;have m:¬ XsW P b:=fun e=>by rcases e with e | e <;> omega
  have o:=l.heap U (show ¬ Xhy F P b from fun e=>by
   rcases e with e | e
   ·have:=t b e; omega
   ·exact m e)
  have B:¬ r b:=fun e=>by
   rcases j b e with e | e
   ·have:=t b e; omega
   ·omega
  refine ζs o rfl fun w5 C f V => ?_;have Q:=N.boxed B (by omega) ⟨m,by omega⟩ (Xh5 o) (by decide) f;have D:=((show Xaj T.heap.size r _ (.slice ra _ rc) _ from ⟨ra,rc,rfl,O,A⟩).chg f (fun q e => .inl (.inl (by omega)))).low K (fun _ _ _ h=>h);exact ζR Tryz.func25 C rfl ⟨_,r,_,rfl,D,⟨Q,rfl,E⟩,fun q s=>(j q s).imp id (by omega),(((g.mono fun _ _ h=>h.elim).trans l)).since f (fun q s e=>by omega)⟩
 ·have eX:Xhz c x n=x:=by unfold Xhz; rw [if_neg p]
  rw [if_neg p] at i;rw [eX,if_neg p,Int.sub_self];obtain ⟨bv,r,rfl,y,N,j,l⟩:=i;obtain ⟨ra,rc,rfl,O,A⟩:=y;have m:¬ XsW P b:=fun e=>by rcases e with e | e <;> omega
  have o:=l.heap U (show ¬ Xhy F P b from fun e=>by
   rcases e with e | e
   ·have:=t b e; omega
   ·exact m e)
  have B:¬ r b:=fun e=>by
   rcases j b e with e | e
   ·have:=t b e; omega
   ·omega
  refine ζs o rfl fun w5 C f V => ?_;have Q:=N.boxed B (by omega) ⟨m,by omega⟩ (Xh5 o) (by decide) f;have D:=((show Xaj T.heap.size r _ (.slice ra _ rc) _ from ⟨ra,rc,rfl,O,A⟩).chg f (fun q e => .inl (.inl (by omega)))).low K (fun _ _ _ h=>h);exact ζR Tryz.func25 C rfl ⟨_,r,_,rfl,D,⟨Q,rfl,h.ok⟩,fun q s=>(j q s).imp id (by omega),(((g.mono fun _ _ h=>h.elim).trans l)).since f (fun q s e=>by omega)⟩
theorem Xhh (h:Hv c n0 w0 w F S H P x) (n i m:Int) (hn : -9223372036854775808≤n∧n≤9223372036854775807) (hi : -9223372036854775808≤i∧i≤9223372036854775807) (hm : -9223372036854775808≤m∧m≤9223372036854775807):Xan Tryz.prog 26 #[hpV H,.int .i64 n,.int .i64 i,.int .i64 m] w
 (Xap c n0 w0 w F H P (XhB c x n i m) (XhD x n i m) 0 (0+(1+((XhB c x n i m).st.rm.tot - x.st.rm.tot))) (XhC c x n i m)):=by
 have B:=h.hm.low';have a8:=h.hm.since0;have a9:=h.hm.tb.lt;have aa:=Xjs h.hm.obj;have K:=h.ok.read n i m;refine ζe Tryz.func26 Tryz.ntmps26 rfl (ζn rfl fun a w1 e1 ha V ab=>ζn rfl fun d w2 e2 hd L ac=>ζn rfl fun d' ad ae W t a6=>ζn rfl fun b w3 e3 hb v af => ?_);have M:=v.heap' (t.heap' (L.heap' ha));have a2:=v.heap' (t.heap' hd);have O:=v.heap' W;have g:=((V.trans L).trans t).trans v;have N:=g.size;have Q:=h.grow g;have C:∀ q,w.heap.size≤q → ¬ Xhy F P q:=fun q A e=>by
  rcases e with e | e | e
  ·have:=B q e; omega
  ·omega
  ·omega
 refine ζl M rfl (ζc rfl (Xhn Q.hm Q.lap n hn (k:=71) (cap := [.pointer (some ⟨a,0,none⟩),.pointer (some ⟨d,0,none⟩),.pointer (some ⟨d',0,none⟩)]) (z:=0) (by omega) (fun j w' y=>Xhi (Q.hm.grow y) (tbN x.tb n) i m hi hm (y.cell (Xd6 (off:=0) M rfl) id) (y.cell (Xd6 (off:=0) a2 rfl) id) (y.cell (Xd6 (off:=0) O rfl) id) (C a (by omega)) (C d (by omega)) (C d' (by omega)))) ?_);rintro _ w4 l;refine ζa rfl ?_;by_cases j:tbE x.tb n=0
 ·have eX:XhB c x n i m=⟨XrH c x.st (tbN x.tb n) i m,x.tb⟩:=by unfold XhB; rw [if_pos j]
  have eE:XhD x n i m=Xun x.st (tbN x.tb n) i m:=by unfold XhD; rw [if_pos j]
  have eB:XhC c x n i m=XrI c x.st (tbN x.tb n) i m:=by unfold XhC; rw [if_pos j]
  rw [if_pos j] at l;rw [eX] at K ⊢;rw [eE,eB];obtain ⟨bv,u,rfl,D,R,o,p⟩:=l;obtain ⟨ra,rc,rfl,T,E⟩:=D;have r:¬ XsW P b:=fun e=>by rcases e with e | e <;> omega
  have s:=p.heap hb (show ¬ Xhy F P b from fun e=>by
   rcases e with e | e
   ·have:=B b e; omega
   ·exact r e)
  have G:¬ u b:=fun e=>by
   rcases o b e with e | e
   ·have:=B b e; omega
   ·omega
  refine ζs s rfl fun w5 I f a3 => ?_;have U:=R.boxed G (by omega) ⟨r,by omega⟩ (Xh5 s) (by decide) f;have J:=((show Xaj w3.heap.size u _ (.slice ra _ rc) _ from ⟨ra,rc,rfl,T,E⟩).chg f (fun q e => .inl (.inl (by omega)))).low N (fun _ _ _ h=>h);exact ζR Tryz.func26 I rfl ⟨_,u,_,rfl,J,⟨U,rfl,K⟩,fun q A=>(o q A).imp id (by omega),(((g.mono fun _ _ h=>h.elim).trans p)).since f (fun q A e=>by omega)⟩
 ·have eX:XhB c x n i m=x:=by unfold XhB; rw [if_neg j]
  have eE:XhD x n i m=tbE x.tb n:=by unfold XhD; rw [if_neg j]
  have eB:XhC c x n i m = []:=by unfold XhC; rw [if_neg j]
  rw [if_neg j] at l;rw [eX,eE,eB,Int.sub_self];obtain ⟨bv,u,rfl,D,R,o,p⟩:=l;obtain ⟨ra,rc,rfl,T,E⟩:=D;have r:¬ XsW P b:=fun e=>by rcases e with e | e <;> omega
  have s:=p.heap hb (show ¬ Xhy F P b from fun e=>by
   rcases e with e | e
   ·have:=B b e; omega
   ·exact r e)
  have G:¬ u b:=fun e=>by
   rcases o b e with e | e
   ·have:=B b e; omega
   ·omega
  refine ζs s rfl fun w5 I f a3 => ?_;have U:=R.boxed G (by omega) ⟨r,by omega⟩ (Xh5 s) (by decide) f;have J:=((show Xaj w3.heap.size u _ (.slice ra _ rc) _ from ⟨ra,rc,rfl,T,E⟩).chg f (fun q e => .inl (.inl (by omega)))).low N (fun _ _ _ h=>h);exact ζR Tryz.func26 I rfl ⟨_,u,_,rfl,J,⟨U,rfl,h.ok⟩,fun q A=>(o q A).imp id (by omega),(((g.mono fun _ _ h=>h.elim).trans p)).since f (fun q A e=>by omega)⟩
theorem Xhj (h:Hv c n0 w0 w F S H P x) (n i:Int) (ba:Option Addr) (bc:Nat) (l:List Int) (hn : -9223372036854775808≤n∧n≤9223372036854775807) (hi : -9223372036854775808≤i∧i≤9223372036854775807) (hr:Rd .u8 w ba l) (hlc:l.length≤bc) (hl:l.length≤9223372036854775807) (hin:InB l) (hout:0<l.length→XaX F ba):Xan Tryz.prog 29 #[hpV H,.int .i64 n,.int .i64 i,.slice ba l.length bc] w
 (Xap c n0 w0 w F H P (XhF c x n i l) (XhD x n i l.length) 0 (0+(1+((XhF c x n i l).st.rm.tot - x.st.rm.tot))) []):=by
 have I:=h.hm.low';have a6:=h.hm.since0;have a7:=h.hm.tb.lt;have a8:=Xjs h.hm.obj;have J:=h.ok.write n i hin;refine ζe Tryz.func29 Tryz.ntmps29 rfl (ζn rfl fun a w1 e1 ha T a9=>ζn rfl fun d w2 e2 hd K aa=>ζn rfl fun d' ab ac U t a4=>ζn rfl fun b V e3 W y ad => ?_);have L:=y.heap' (t.heap' (K.heap' ha));have a0:=y.heap' (t.heap' hd);have N:=y.heap' U;have f:=((T.trans K).trans t).trans y;have M:=f.size;have O:=h.grow f;refine ζl L rfl (ζc rfl (Xhn O.hm O.lap n hn (k:=76) (cap := [.pointer (some ⟨a,0,none⟩),.pointer (some ⟨d,0,none⟩),.pointer (some ⟨d',0,none⟩)]) (z:=0) (by omega) (fun u w' m=>Xhk (O.hm.grow m) (tbN x.tb n) i ba bc l hi ((hr.chg f).chg m) hlc hl hin hout (m.cell (Xd6 (off:=0) L rfl) id) (m.cell (Xd6 (off:=0) a0 rfl) id) (m.cell (Xd6 (off:=0) N rfl) id))) ?_);rintro _ w4 j;refine ζa rfl ?_;by_cases u:tbE x.tb n=0
 ·have eX:XhF c x n i l=⟨XrP c x.st (tbN x.tb n) i l,x.tb⟩:=by unfold XhF; rw [if_pos u]
  have eE:XhD x n i l.length=Xun x.st (tbN x.tb n) i l.length:=by unfold XhD; rw [if_pos u]
  rw [if_pos u] at j;rw [eX] at J ⊢;rw [eE];obtain ⟨bv,v,rfl,A,Q,o,p⟩:=j;obtain ⟨ra,rc,rfl,hr,B⟩:=A;have r:¬ XsW P b:=fun e=>by rcases e with e | e <;> omega
  have s:=p.heap W (show ¬ Xhy F P b from fun e=>by
   rcases e with e | e
   ·have:=I b e; omega
   ·exact r e)
  have C:¬ v b:=fun e=>by
   rcases o b e with e | e
   ·have:=I b e; omega
   ·omega
  refine ζs s rfl fun w5 D g a1 => ?_;have R:=Q.boxed C (by omega) ⟨r,by omega⟩ (Xh5 s) (by decide) g;have E:=((show Xaj V.heap.size v _ (.slice ra _ rc) _ from ⟨ra,rc,rfl,hr,B⟩).chg g (fun q e => .inl (.inl (by omega)))).low M (fun _ _ _ h=>h);exact ζR Tryz.func29 D rfl ⟨_,v,_,rfl,E,⟨R,rfl,J⟩,fun q G=>(o q G).imp id (by omega),(((f.mono fun _ _ h=>h.elim).trans p)).since g (fun q G e=>by omega)⟩
 ·have eX:XhF c x n i l=x:=by unfold XhF; rw [if_neg u]
  have eE:XhD x n i l.length=tbE x.tb n:=by unfold XhD; rw [if_neg u]
  rw [if_neg u] at j;rw [eX,eE,Int.sub_self];obtain ⟨bv,v,rfl,A,Q,o,p⟩:=j;obtain ⟨ra,rc,rfl,hr,B⟩:=A;have r:¬ XsW P b:=fun e=>by rcases e with e | e <;> omega
  have s:=p.heap W (show ¬ Xhy F P b from fun e=>by
   rcases e with e | e
   ·have:=I b e; omega
   ·exact r e)
  have C:¬ v b:=fun e=>by
   rcases o b e with e | e
   ·have:=I b e; omega
   ·omega
  refine ζs s rfl fun w5 D g a1 => ?_;have R:=Q.boxed C (by omega) ⟨r,by omega⟩ (Xh5 s) (by decide) g;have E:=((show Xaj V.heap.size v _ (.slice ra _ rc) _ from ⟨ra,rc,rfl,hr,B⟩).chg g (fun q e => .inl (.inl (by omega)))).low M (fun _ _ _ h=>h);exact ζR Tryz.func29 D rfl ⟨_,v,_,rfl,E,⟨R,rfl,h.ok⟩,fun q G=>(o q G).imp id (by omega),(((f.mono fun _ _ h=>h.elim).trans p)).since g (fun q G e=>by omega)⟩
theorem Xg9 (h:Hv c n0 w0 w F S H P x) (size:Int):Xan Tryz.prog 14 #[hpV H,.int .i64 size] w (Xap c n0 w0 w F H P (Xhu c x size) (Xhv c x size) (Xhw c x size) (Xhx c x size) []):=by
 have K:=h.hm.low';have a3:=h.hm.since0;have a4:=h.hm.tb.lt;have a5:=Xjs h.hm.obj;have m:=h.ok.alloc size;refine ζe Tryz.func14 Tryz.ntmps14 rfl (ζn rfl fun b w1 e1 r k a6 => ?_);have D:=h.hm.grow k;refine ζl D.obj rfl (ζv (Xjv D.lv size) rfl fun w2 d => ?_);have i:=D.grow d;by_cases e3:Xry c x.st size=3
 ·have a:¬ XhA c x size:=fun a=>by have:=a.1; omega
  have eX:Xhu c x size=x:=by unfold Xhu; rw [if_neg a]
  have eE:Xhv c x size=3:=by unfold Xhv; rw [if_pos e3]
  have eH:Xhw c x size=0:=by unfold Xhw; rw [if_neg a]
  have eK:Xhx c x size=0:=by unfold Xhx; rw [if_neg a]
  rw [eX,eE,eH,eK,e3];refine ζf rfl (ζy rfl (ζb rfl (ζs (d.heap' r) rfl fun E f l t => ?_)));have g:=(k.trans d).since l (fun q n e=>by omega);exact ζR Tryz.func14 f rfl ⟨_,F,S,rfl,.none _ _ _,h.grow g,fun _ h => .inl h,g.mono fun _ _ h=>h.elim⟩
 refine ζy rfl (ζl i.obj rfl (ζw (Xnl i.tb) rfl ?_));by_cases e4:x.tb.fl = []
 ·have a:¬ XhA c x size:=fun a=>a.2 e4;have eX:Xhu c x size=x:=by unfold Xhu; rw [if_neg a]
  have eE:Xhv c x size=4:=by unfold Xhv; rw [if_neg e3,if_pos e4]
  have eH:Xhw c x size=0:=by unfold Xhw; rw [if_neg a]
  have eK:Xhx c x size=0:=by unfold Xhx; rw [if_neg a]
  rw [eX,eE,eH,eK,e4];refine ζy rfl (ζb rfl (ζs (d.heap' r) rfl fun E f l t => ?_));have g:=(k.trans d).since l (fun q n e=>by omega);exact ζR Tryz.func14 f rfl ⟨_,F,S,rfl,.none _ _ _,h.grow g,fun _ h => .inl h,g.mono fun _ _ h=>h.elim⟩
 have a7:=List.length_pos_iff.2 e4;refine ζf rfl ?_;by_cases s:Xry c x.st size=0
 ·have a:XhA c x size:=⟨s,e4⟩;obtain ⟨j,L,g2,g3,g4,W⟩:=h.ok.goes a;have eX:Xhu c x size=⟨Xrq c x.st (Xs7 x.tb) size,Xs5 x.tb⟩:=by unfold Xhu; rw [if_pos a]
  have eE:Xhv c x size=0:=by unfold Xhv; rw [if_neg e3,if_neg e4,s]
  have eH:Xhw c x size=Xs6 x.tb:=by unfold Xhw; rw [if_pos a]
  have eK:Xhx c x size=2+((Xhu c x size).st.rm.tot - x.st.rm.tot):=by unfold Xhx; rw [if_pos a]
  rw [eX] at m eK ⊢;rw [eE,eH,eK,s];refine ζf rfl (ζl i.obj rfl (ζc rfl (Xnp i.tb e4) ?_));rintro _ wt ⟨rfl,M,N⟩;refine ζa rfl ?_;obtain ⟨Ft,G,O,I⟩:=i.table M N;have Q:=G.obj;refine ζl Q rfl ?_;refine ζc rfl (Xjt G.lv (Xs7 x.tb) size) ?_;rintro _ wa ⟨rfl,R⟩;refine ζa rfl ?_;rw [L,W];have o:=(Xaz.seq O I (G.store R)).up d;rw [L] at o m;have a8:0≤(Xrq c x.st (j:Nat) size).rm.tot∧(Xrq c x.st (j:Nat) size).rm.tot≤4611686018427387904:=m.st.rm.ok.tot;have a0:=h.hm.lv.inv.rm.ok.tot;obtain ⟨T,i,u,v⟩:=o;have U:=i.obj;refine Xay.loadb hTT rfl U rfl rfl ?_;refine ζc rfl (XjA i.lv) ?_;rintro _ E ⟨rfl,V,p,y⟩;refine ζa rfl ?_;have h3:=i.steps V p y;have z:¬ XsW P b:=fun e=>by rcases e with e | e <;> omega
  have A:¬ T b:=fun e=>by
   rcases u b e with e | e
   ·have:=K b e; omega
   ·omega
  have f:=p.heap (v.heap r (show ¬ Xhy F P b from fun e=>by
   rcases e with e | e
   ·have:=K b e; omega
   ·exact z e)) (fun e=>A (e▸y))
  refine Xay.arith hTT rfl (w64 (by rw [h.lap]; omega)) rfl ?_;refine ζb rfl (ζs f rfl fun w5 B C a9 => ?_);have h5:=h3.boxed A (by omega) ⟨z,by omega⟩ (Xh5 f) (by decide) C;have J:=(((k.mono fun _ _ h=>h.elim).trans v).since p (fun q n e => .inl (e▸h.hm.lv.mb))).since C (fun q n e=>by omega);rw [h.lap] at B;exact ζq rfl Tryz.func14 (Xba.cell rfl rfl rfl B rfl .nil) ⟨_,T,_,rfl,.none _ _ _,⟨h5,rfl,m⟩,fun q n=>(u q n).imp id (by omega),J⟩
 ·have a:¬ XhA c x size:=fun a=>s a.1;have eX:Xhu c x size=x:=by unfold Xhu; rw [if_neg a]
  have eE:Xhv c x size=Xry c x.st size:=by unfold Xhv; rw [if_neg e3,if_neg e4]
  have eH:Xhw c x size=0:=by unfold Xhw; rw [if_neg a]
  have eK:Xhx c x size=0:=by unfold Xhx; rw [if_neg a]
  rw [eX,eE,eH,eK];refine ζy rfl (ζb rfl (ζs (d.heap' r) rfl fun E f l t => ?_));have g:=(k.trans d).since l (fun q n e=>by omega);exact ζR Tryz.func14 f rfl ⟨_,F,S,rfl,.none _ _ _,h.grow g,fun _ h => .inl h,g.mono fun _ _ h=>h.elim⟩
end
theorem Xhg (c:Conf) (p:Xal) (w:World) (hc:Xam w c p) (hm:XjN c=false):Xan Tryz.prog 10 #[.agg (Xe6 c p).toArray] w (Grow (.tuple #[.pointer none,.int .i64 1]) w):=by
 refine ζe Tryz.func10 Tryz.ntmps10 rfl (ζn rfl fun b e e1 f a g => ?_);exact ζl f rfl (ζv (Xse c p e (hc.chg a) hm) rfl fun h d=>ζy rfl (ζr Tryz.func10 rfl ⟨rfl,a.trans d⟩))
theorem Xhf (c:Conf) (p:Xal) (w:World) (hc:Xam w c p) (ht:XbA w) (hm:XjN c=true):Xan Tryz.prog 10 #[.agg (Xe6 c p).toArray] w (fun v w' => ∃ n0 F S H P,v = .tuple #[hpV H,.int .i64 0]∧Hv c n0 w w' F S H P (XkF c)∧Chg XaW w w'∧w.heap.size≤n0∧n0≤w'.heap.size):=by
 have o:(1≤c.slots∧c.slots≤4096)∧1≤c.gens∧c.gens≤1023:=by
  have hm:=hm;unfold XjN at hm;simp only [Bool.and_eq_true,decide_eq_true_eq,Xuo] at hm;omega
 refine ζe Tryz.func10 Tryz.ntmps10 rfl (ζn rfl fun b u e1 q f C => ?_);refine ζl q rfl (ζc rfl (Xjy c p u (hc.chg f) (ht.grow f) hm) ?_);rintro _ l ⟨F,S,rfl,j,m,_,g⟩;refine ζa rfl (ζf rfl ?_);have h:=g.heap' q;refine ζl h rfl (ζl h rfl ?_);obtain ⟨N,n⟩:=Int.eq_ofNat_of_zero_le (show 0≤c.slots by omega);rw [n];refine ζc rfl (Xno N c.gens l (by omega) o.2) ?_;rintro _ I ⟨P,rfl,r,x,i⟩;refine ζa rfl (ζl (i.heap' h) rfl (ζb rfl (ζn rfl fun H y e4 A k D => ?_)));have E:=g.size;have G:=i.size;have a:=j.low;have B:=j.inv.rm;have d:=i.trans k;have s:=j.base;have t:Hm c l.heap.size w y F S H P (XkU c) (XkX N c.gens) :=
  ⟨{(j.grow d) with base:=fun z e=>by have:=s z e; omega,chg:=((f.trans g).trans d)},by rw [A]; rfl,by rw [n]; exact x.grow k,⟨⟨r.1,r.2⟩,by omega,by omega⟩,
   fun e=>by have:=a _ e; omega,fun e=>by have:=a _ e; omega,fun e=>by have:=a _ e; omega⟩
 have eN:XkF c=⟨XkU c,XkX N c.gens⟩:=by unfold XkF; rw [n]
 exact ζr Tryz.func10 rfl ⟨l.heap.size,F,S,H,P,rfl,⟨by rw [eN]; exact t,by rw [eN]; exact m,XkI hm B⟩,(f.trans g).trans d,by omega,by omega⟩
def Xrb:Conf:=⟨64,4,[32],[0],8,5,3,128⟩
def Xhq:List Int := [104,105]
def Xc7:HpM:=XkF Xrb
def aw23x1:HpM:=Xhu Xrb Xc7 20
def aw23x2:HpM:=XhF Xrb aw23x1 4096 0 Xhq
def aw23x3:HpM:=XhB Xrb aw23x2 4096 0 3
def aw23x4:HpM:=Xhz Xrb aw23x3 4096
def aw23x5:HpM:=Xhz Xrb aw23x4 4096
def aw23x6:HpM:=Xhu Xrb aw23x5 0
theorem Xc4:XjN Xrb=true:=by kernel_rfl
theorem XcX:Xhv Xrb Xc7 20=0∧Xhw Xrb Xc7 20=4096∧Xhx Xrb Xc7 20=41:=⟨by kernel_rfl,by kernel_rfl,by kernel_rfl⟩
theorem XcY:XhD aw23x1 4096 0 2=0∧0+(1+(aw23x2.st.rm.tot - aw23x1.st.rm.tot))=3:=⟨by kernel_rfl,by kernel_rfl⟩
theorem XcZ:XhD aw23x2 4096 0 3=0∧0+(1+(aw23x3.st.rm.tot - aw23x2.st.rm.tot))=4∧XhC Xrb aw23x2 4096 0 3 = [104,105,0]:=⟨by kernel_rfl,by kernel_rfl,by kernel_rfl⟩
theorem Xc3:Xrt aw23x3.st=20∧((Xho aw23x3.st.rm.pl:Nat):Int)*64=64:=⟨by kernel_rfl,by kernel_rfl⟩
theorem Xc0:tbE aw23x3.tb 4096=0∧2+(1+(aw23x4.st.rm.tot - aw23x3.st.rm.tot))=10:=⟨by kernel_rfl,by kernel_rfl⟩
theorem Xc1:tbE aw23x4.tb 4096=6∧0+(1+(aw23x5.st.rm.tot - aw23x4.st.rm.tot))=1:=⟨by kernel_rfl,by kernel_rfl⟩
theorem Xc2:Xhv Xrb aw23x5 0=3:=by kernel_rfl
theorem Xc5:Xrt aw23x6.st=0∧((Xho aw23x6.st.rm.pl:Nat):Int)*64=0∧XsZ aw23x6.tb=0:=⟨by kernel_rfl,by kernel_rfl,by kernel_rfl⟩
theorem Xc6:(FloatKind.format .f64).div (FloatKind.nearest .f64 20) (FloatKind.nearest .f64 64)=some 4599301119452119040:=by kernel_rfl

theorem Xox (c:Conf) (tot k:Int):Xow (XkM c tot) k=0:=by
 unfold Xow;cases a:Xok (XkM c tot) k with
 |none=>rfl
 |some x =>
  obtain ⟨n,rfl,_,b⟩:=Xoq a;obtain ⟨_,rfl⟩:=XkR b;rfl
theorem Xoj {c:Conf} (h:XjN c=true) (tot:Int):Xoi c (XkM c tot) 1=0:=by
 have d:=XjT h;have hm:=d.most;have g:=d.n;have i:=d.pages;have e:XeN c.classes c.size=true:=by
  unfold XjN at h;simp only [Bool.and_eq_true,decide_eq_true_eq] at h;exact h.1.1.1.1.1.2
 have a:XmC c.classes 1 ≠ -1:=by
  unfold XmC;rw [if_neg (by omega)];have f:=XeO e 0 (by omega);have:0≤idx (fun s=>decide ((1:Int)≤s)) c.classes:=by
   rw [XhM,List.any_eq_true];refine ⟨c.classes[0],List.getElem_mem (by omega),?_⟩;rw [Xgx (show 0<c.classes.length by omega)] at f;exact decide_eq_true (by omega)
  omega
 have b:(XkM c tot).pl.free.length=c.pages.toNat:=by show (List.range c.pages.toNat).length=_; simp
 unfold Xoi Xov;rw [if_neg (by omega),if_neg a,Xox,b,if_neg (by omega)]
theorem Rd.of23 {k:IntKind} {w:World} {b:Nat} {c:Array Value} {t:TypeId} {fz:Nat × Nat} {zs:List Int} (h:w.heap[b]? = some (.cells c t fz)) (hc:c=(zs.map (Value.int k)).toArray):Rd k w (some ⟨b,0,none⟩) zs:=fun i a =>
 ⟨b,0,rfl,by rw [Xd7 h,hc]; simp [a]⟩
section
variable {c:Conf} {n0:Nat} {w0 w w1 w2 w':World} {F F':Nat→Prop} {S:Sto} {H:Nat} {P:XbD} {x:HpM}
theorem Hv.off (h:Hv c n0 w0 w F S H P x) {b:Nat} (hb:w.heap.size≤b):¬ Xhy F P b:=fun e=>by
 have a:=h.hm.tb.lt;rcases e with e | e | e
 ·have:=h.hm.low' b e; omega
 ·omega
 ·omega
theorem Hv.fresh (h:Hv c n0 w0 w F S H P x) {b ty:Nat} (hc:Chg XaW w w1) (hb:w.heap.size≤b) (hk:kd w1 b=some (some ty)) (ht:ty≠329∧ty≠325∧ty≠3) (hst:Chg (fun q=>q=b) w1 w2):Hv c n0 w0 w2 F S H P x:=by
 have f:=h.hm.since0;have d:=Xjs h.hm.obj;have a:=h.off hb;exact (h.grow hc).boxed (fun e=>a (.inl e)) (by omega) ⟨fun e=>a (.inr e),by omega⟩ hk ht hst
theorem Xic {b:Nat} {o:Obj} (h:w.heap[b]? = some o) (hn:¬ Xhy F P b) (hc:Chg (Xhy F P) w w') (hF:∀ z,F' z→F z∨w.heap.size≤z):w'.heap[b]? = some o ∧ ¬ Xhy F' P b :=
 ⟨hc.heap h hn,fun e=>e.elim (fun e=>(hF b e).elim (fun g=>hn (.inl g)) (fun g=>by have:=Xjs h; omega)) (fun e=>hn (.inr e))⟩
theorem Xaj.op {n:Nat} {l:List Int} {b:Value} (h:Xaj n F l b w) (hP:P.tb<n∧P.sb<n) (hc:Chg (Xhy F P) w w') (hF:∀ z,F' z→F z∨w.heap.size≤z):Xaj n F' l b w':=by
 obtain ⟨a,cap,e,j,f⟩:=h;have k:=(show Xaj n F l b w from ⟨a,cap,e,j,f⟩).chg hc (fun z m=>m.elim .inr (fun e => .inl (.inl (by rcases e with e | e <;> omega))));obtain ⟨o,d,e2,i,c⟩:=k;have e3:a=o:=by rw [e] at e2; cases e2; rfl
 subst e3;exact ⟨a,d,e2,i,fun b' off s' e=>⟨(c b' off s' e).1,fun g=>(hF b' g).elim (c b' off s' e).2 (fun g=>by have:=(f b' off s' e).1; omega)⟩⟩
end
theorem Xiq (w:World):Xan Tryz.prog 35 #[] w (fun v w' => ∃ p,v = .agg (Xe6 Xrb p).toArray∧Xam w' Xrb p∧Chg XaW w w'):=by
 refine ζe Tryz.func35 Tryz.ntmps35 rfl (ζn rfl fun b u e1 l e o=>Xay.buildSlice hTT rfl fun f x e2 g d q=>ζa rfl (Xay.buildSlice hTT rfl fun h y e3 i a r=>ζa rfl (ζb rfl (ζs (a.heap' (d.heap' l)) rfl fun m j c s => ?_))));have n:Xam m Xrb ⟨some ⟨f,0,none⟩,1,some ⟨h,0,none⟩,1⟩ :=
  ⟨Rd.of23 (c.heap (a.heap' g) (by omega)) rfl,Rd.of23 (c.heap i (by omega)) rfl,by decide,by decide,by unfold XaC; decide⟩
 exact ζR Tryz.func35 j rfl ⟨⟨some ⟨f,0,none⟩,1,some ⟨h,0,none⟩,1⟩,rfl,n,((e.trans d).trans a).since c (fun k z t=>by omega)⟩
theorem Xip (w:World) (ht:XbA w):Xan Tryz.prog 9 #[] w (Grow (.bool true) w):=by
 refine ζe Tryz.func9 Tryz.ntmps9 rfl (ζc rfl (Xiq w) ?_);rintro _ ws ⟨p,rfl,be,a9⟩;refine ζa rfl (ζc rfl (Xhf Xrb p ws be (ht.grow a9) Xc4) ?_);rintro _ w0 ⟨n0,F,S,H,P,rfl,h0,dl,_,_⟩;refine ζa rfl ?_;have aa:=Xg9 h0 20;rw [show XkF Xrb=Xc7 from rfl,XcX.1,XcX.2.1,XcX.2.2] at aa;refine ζc rfl (aa) ?_;rintro _ dm ⟨dn,F1,S1,rfl,bf,ab,dp,dq⟩;refine ζa rfl ?_;obtain ⟨dr,ds,rfl,dt,cu⟩:=bf;refine ζn rfl fun N du dv ac b8 cv=>ζs ac rfl fun bg ad b9 cw => ?_;have h1:=ab.fresh b8 (by omega) (Xh5 ac) (by decide) b9;have bh:=ab.off (b:=N) (by omega);replace h1:Hv Xrb n0 ws bg F1 S1 H P aw23x1:=h1;refine ζl ad rfl (Xay.buildSlice hTT rfl fun hb w4 e4 bj bk dw=>ζa rfl (Xay.mark hTT rfl bj fun w5 dx ba bl dy=>ζa rfl ?_));have R:=bk.since bl (fun z hz e=>by omega);have h5:=h1.grow R;have ae:=Xhj h5 4096 0 (some ⟨hb,0,none⟩) 2 Xhq (by decide) (by decide) (Rd.of23 ba rfl) (by decide) (by decide) (by unfold InB; decide) (fun _ b off s e hz=>by cases e; exact h1.off (b:=hb) (by omega) (.inl hz));rw [show XhD aw23x1 4096 0 (Xhq.length:Nat)=0 from XcY.1,show XhF Xrb aw23x1 4096 0 Xhq=aw23x2 from rfl,XcY.2] at ae;have u:=R.heap' ad;have T:=bh;refine ζc rfl (ae) ?_;rintro _ dz ⟨e0,F2,S2,rfl,bn,af,bo,ag⟩;refine ζa rfl ?_;obtain ⟨e1,e2,rfl,e3,cx⟩:=bn;refine ζn rfl fun O e5 e6 ah U cy=>ζs ah rfl fun bp bq V d0 => ?_;have h2:=af.fresh U (by omega) (Xh5 ah) (by decide) V;have br:=af.off (b:=O) (by omega);have d1:=ag.size;obtain ⟨D,bs⟩:=Xic u T ag bo;replace D:=V.heap (U.heap' D) (show ¬ N=O by omega);refine ζl D rfl ?_;have ai:=Xhh h2 4096 0 3 (by decide) (by decide) (by decide);rw [XcZ.1,show XhB Xrb aw23x2 4096 0 3=aw23x3 from rfl,XcZ.2.1,XcZ.2.2] at ai;refine ζc rfl (ai) ?_;rintro _ bt ⟨e7,F3,S3,rfl,a,aj,ak,W⟩;refine ζa rfl ?_;obtain ⟨al,am,rfl,bu,bc⟩:=a;refine ζn rfl fun A e8 e9 an r d3=>ζs an rfl fun ea bv t d4 => ?_;have h3:=aj.fresh r (by omega) (Xh5 an) (by decide) t;have bx:=aj.off (b:=A) (by omega);have d5:=W.size;obtain ⟨a0,bz⟩:=Xic D bs W ak;replace a0:=t.heap (r.heap' a0) (show ¬ N=A by omega);obtain ⟨a1,c0⟩:=Xic bq br W ak;replace a1:=t.heap (r.heap' a1) (show ¬ O=A by omega);have a:Xaj bp.heap.size F3 [104,105,0] (.slice al 3 am) bt:=⟨al,am,rfl,bu,bc⟩;replace a:=a.chg (X:=fun q=>q=A) ((r.mono fun _ _ h=>h.elim).trans t) (fun q e => .inl (.inr (by omega)));have ao:=Xha h3.hm;rw [Xc3.1,show ((Xho aw23x3.st.rm.pl:Nat):Int)*Xrb.size=64 from Xc3.2] at ao;refine ζc rfl (ao) ?_;rintro _ wf ⟨fl,rfl,hq,m⟩;refine ζa rfl ?_;unfold XnE at hq;rw [Xc6] at hq;subst hq;have hf:=h3.grow m;have d7:=m.size;have ap:=m.heap' a0;have c1:=m.heap' a1;have c2:=m.heap' bv;have c3:=bz;have c4:=c0;have c5:=bx;replace a:=a.chg m (fun q e=>e.elim);refine ζl ap rfl ?_;have aq:=Xhb hf 4096 (by decide);rw [show Xhz Xrb aw23x3 4096=aw23x4 from rfl,if_pos Xc0.1,Xc0.1,Xc0.2] at aq;refine ζc rfl (aq) ?_;rintro _ eb ⟨ec,F4,S4,rfl,c6,ar,E,x⟩;refine ζa rfl ?_;obtain ⟨ed,ee,rfl,ef,d8⟩:=c6;refine ζn rfl fun B eg eh au j d9=>ζs au rfl fun ei c7 k da => ?_;have h4:=ar.fresh j (by omega) (Xh5 au) (by decide) k;have c8:=ar.off (b:=B) (by omega);have dc:=x.size;obtain ⟨G,c9⟩:=Xic ap c3 x E;replace G:=k.heap (j.heap' G) (show ¬ N=B by omega);obtain ⟨a2,ca⟩:=Xic c1 c4 x E;replace a2:=k.heap (j.heap' a2) (show ¬ O=B by omega);obtain ⟨a3,cb⟩:=Xic c2 c5 x E;replace a3:=k.heap (j.heap' a3) (show ¬ A=B by omega);replace a:=a.op (by have:=h2.hm.tb.lt; exact this) x E;replace a:=a.chg (X:=fun q=>q=B) ((j.mono fun _ _ h=>h.elim).trans k) (fun q e => .inl (.inr (by omega)));refine ζl G rfl ?_;have av:=Xhb h4 4096 (by decide);rw [show Xhz Xrb aw23x4 4096=aw23x5 from rfl,if_neg (by rw [Xc1.1]; decide),Xc1.1,Xc1.2] at av;refine ζc rfl (av) ?_;rintro _ ej ⟨ek,F5,S5,rfl,cc,aw,y,n⟩;refine ζa rfl ?_;obtain ⟨el,em,rfl,en,dd⟩:=cc;refine ζn rfl fun C eo ep ax g de=>ζs ax rfl fun er cd i df => ?_;have h5:=aw.fresh g (by omega) (Xh5 ax) (by decide) i;have ce:=aw.off (b:=C) (by omega);have dg:=n.size;obtain ⟨u,T⟩:=Xic G c9 n y;replace u:=i.heap (g.heap' u) (show ¬ N=C by omega);obtain ⟨a4,cf⟩:=Xic a2 ca n y;replace a4:=i.heap (g.heap' a4) (show ¬ O=C by omega);obtain ⟨a5,cg⟩:=Xic a3 cb n y;replace a5:=i.heap (g.heap' a5) (show ¬ A=C by omega);obtain ⟨a6,ch⟩:=Xic c7 c8 n y;replace a6:=i.heap (g.heap' a6) (show ¬ B=C by omega);replace a:=a.op (by have:=h2.hm.tb.lt; exact this) n y;replace a:=a.chg (X:=fun q=>q=C) ((g.mono fun _ _ h=>h.elim).trans i) (fun q e => .inl (.inr (by omega)));have ay:=Xg9 h5 0;rw [show Xhu Xrb aw23x5 0=aw23x6 from rfl,Xc2] at ay;refine ζc rfl (ay) ?_;rintro _ es ⟨et,F6,S6,rfl,ci,cj,o,l⟩;refine ζa rfl ?_;obtain ⟨eu,ew,rfl,ex,dh⟩:=ci;refine ζn rfl fun Q ey f0 az d di=>ζs az rfl fun f1 ck f dj => ?_;have h6:=cj.fresh d (by omega) (Xh5 az) (by decide) f;have dk:=l.size;obtain ⟨I,f2⟩:=Xic u T l o;replace I:=f.heap (d.heap' I) (show ¬ N=Q by omega);obtain ⟨J,f3⟩:=Xic a4 cf l o;replace J:=f.heap (d.heap' J) (show ¬ O=Q by omega);obtain ⟨K,f4⟩:=Xic a5 cg l o;replace K:=f.heap (d.heap' K) (show ¬ A=Q by omega);obtain ⟨L,f5⟩:=Xic a6 ch l o;replace L:=f.heap (d.heap' L) (show ¬ B=Q by omega);obtain ⟨M,f6⟩:=Xic cd ce l o;replace M:=f.heap (d.heap' M) (show ¬ C=Q by omega);replace a:=a.op (by have:=h2.hm.tb.lt; exact this) l o;replace a:=a.chg (X:=fun q=>q=Q) ((d.mono fun _ _ h=>h.elim).trans f) (fun q e => .inl (.inr (by omega)));have b0:=Xha h6.hm;rw [Xc5.1,show ((Xho aw23x6.st.rm.pl:Nat):Int)*Xrb.size=0 from Xc5.2.1] at b0;refine ζc rfl (b0) ?_;rintro _ wg ⟨fg,rfl,cm,c⟩;refine ζa rfl ?_;have cn:=(XlX cm).2;have hg:=h6.grow c;refine ζy rfl (ζl (c.heap' I) rfl (ζy rfl (ζl (c.heap' I) rfl (ζy rfl (ζl (c.heap' J) rfl (ζy rfl (ζl (c.heap' J) rfl (ζy rfl (ζl (c.heap' K) rfl ?_)))))))));obtain ⟨rz,cz,ez,cp,_⟩:=a;cases ez
 refine Xay.bstrN hTT ([104,105,0]) rfl rfl ((cp.chg c)) rfl (Xay.streq hTT rfl (rfl) rfl (ζy rfl (ζl (c.heap' K) rfl (ζy rfl (Xay.fcmp hTT rfl (v:=true) rfl rfl (ζy rfl (ζl (c.heap' L) rfl (ζy rfl (ζl (c.heap' L) rfl (ζy rfl (ζl (c.heap' M) rfl (ζy rfl (ζl (c.heap' M) rfl (ζy rfl (ζl (c.heap' ck) rfl (ζy rfl (Xay.fcmp hTT rfl cn rfl (ζy rfl ?_))))))))))))))))));have b7:=Xhe hg.hm;rw [Xc5.2.2] at b7;exact ζw b7 rfl (ζr Tryz.func9 rfl ⟨rfl,a9.trans hg.hm.lv.chg⟩)
theorem XkH (c:Conf):XsZ (XkF c).tb=0:=by
 show (List.replicate c.slots.toNat false).count true=0
 rw [List.count_replicate];rfl
theorem XkG {c:Conf} (hm:XjN c=true):XhA c (XkF c) 1:=by
 have a:=(XjT hm).most;have b:1≤c.slots:=by
  unfold XjN at hm;simp only [Bool.and_eq_true,decide_eq_true_eq,Xuo] at hm;omega
 refine ⟨?_,fun e => ?_⟩
 ·show Xry c (XkU c) 1=0
  unfold Xry;rw [if_neg (by omega),show Xoi c (XkU c).rm 1=0 from Xoj hm 0];split <;> rfl
 ·have e:List.range c.slots.toNat = []:=e;have:=congrArg List.length e;rw [List.length_range,List.length_nil] at this;omega
theorem XkO {c:Conf} (hm:XjN c=true) (o:Nat):Xho (XoG c (XkM c 0) o 1).pl=1:=by
 have a:=XjT hm;have q:=a.n;have n:=a.most;have p:=a.pages;have d:=Xoj hm 0;have b:XmC c.classes 1 ≠ -1:=by
  have g:XeN c.classes c.size=true:=by
   unfold XjN at hm;simp only [Bool.and_eq_true,decide_eq_true_eq] at hm;exact hm.1.1.1.1.1.2
  unfold XmC;rw [if_neg (by have:=a.most; omega)];have i:=XeO g 0 (by have:=a.n; omega);have:0≤idx (fun s=>decide ((1:Int)≤s)) c.classes:=by
   rw [XhM,List.any_eq_true];refine ⟨c.classes[0],List.getElem_mem (by have:=a.n; omega),?_⟩;rw [Xgx (show 0<c.classes.length by have:=a.n; omega)] at i;exact decide_eq_true (by omega)
  omega
 unfold XoG;rw [if_neg (by omega),if_neg (fun h=>h d),if_neg b];obtain ⟨j,l⟩:=XmE b;obtain ⟨k,m⟩:=Int.eq_ofNat_of_zero_le j;rw [m] at l ⊢;have e:Xok (XkM c 0) (k:Nat)=some (XkT (k:Nat) (XdI c (k:Nat)).toNat):=by
  unfold Xok;rw [if_pos (by omega),Int.toNat_natCast];show (XkQ c c.classes.length)[k]? = _
  unfold XkQ;rw [List.getElem?_map,List.getElem?_range (by omega)];rfl
 have f:Xp2 (XkT (k:Nat) (XdI c (k:Nat)).toNat) (XkM c 0).pl o=0:=by
  unfold Xp2;rw [if_neg (by omega),if_neg (fun h=>by
   have:(List.range c.pages.toNat).length=0:=h.2;rw [List.length_range] at this;omega)]
 have r:=(XsO (XkT (k:Nat) (XdI c (k:Nat)).toNat) (XkM c 0).pl o (XmP (by omega)) (by show (0:Int)≤(k:Nat); omega)).2.2.2;unfold XoT;rw [e];simp only
 rw [if_pos f];show Xho (Xp4 _ (XkM c 0).pl o)=1
 have t:Xho (XkM c 0).pl=0:=Xmx _;have u:(Xp0 (XkT (k:Nat) (XdI c (k:Nat)).toNat) (XkM c 0).pl o).pg.length=1:=by
  unfold Xp0;rw [if_pos f];show (Xq0 _ _ _).length=1
  rw [Xq2];rfl
 have v:(XkT (k:Nat) (XdI c (k:Nat)).toNat).pg.length=0:=rfl;omega
theorem XkJ {c:Conf} (hm:XjN c=true) (hA:Xbd c (XkM c 0)):XsZ (Xhu c (XkF c) 1).tb=1∧Xho (Xhu c (XkF c) 1).st.rm.pl=1:=by
 have d:=XkG hm;have e:=XkI hm hA;obtain ⟨j,e1,e2,e3,e4,e5⟩:=e.goes d;have eX:Xhu c (XkF c) 1=⟨Xrq c (XkU c) (Xs7 (XkF c).tb) 1,Xs5 (XkF c).tb⟩:=by unfold Xhu; rw [if_pos d]; rfl
 rw [eX];refine ⟨?_,?_⟩
 ·show XsZ (Xs5 (XkF c).tb)=1
  rw [e4];have h:(XkF c).tb.live[j]? = some false:=by
   rw [List.getElem?_eq_getElem e2];rw [List.getD_eq_getElem?_getD,List.getElem?_eq_getElem e2] at e3;exact congrArg some e3
  have:=XiT (b:=true) h;have i:=XkH c;unfold XsZ at i ⊢;simp only [Bool.false_eq_true,if_false,if_true] at this;show ((XkF c).tb.live.set j true).count true=1
  omega
 ·show Xho (Xrq c (XkU c) (Xs7 (XkF c).tb) 1).rm.pl=1
  rw [e1];have l:Xrr c (XkU c) (j:Nat) 1=0:=e5;unfold Xrq;rw [if_pos l];show Xho (Xiw c (XkU c) (j:Nat) 1).rm.pl=1
  have f:XsV c (XkU c) 1=none:=by
   unfold XsV;have:XrE (XkU c) (XmC c.classes 1)=none:=by
    cases g:XrE (XkU c) (XmC c.classes 1) with
    |none=>rfl
    |some m =>
     obtain ⟨k,_,_,a⟩:=Xkw g;have a:=List.mem_of_getElem? a;simp only [XkU,List.mem_replicate] at a;cases a.2
   rw [this]
  unfold Xiw;rw [f];exact XkO hm j
theorem law_HeapNew (c:Conf) (p:Xal) (w:World) (ht:XbA w) (hc:Xam w c p):Xan Tryz.prog 3 #[.agg (Xe6 c p).toArray] w (Grow (.bool true) w):=by
 refine ζe Tryz.func3 Tryz.ntmps3 rfl (ζn rfl fun b A e1 B h I => ?_);refine ζv (Xip A (ht.grow h)) rfl fun s i => ?_;have e:=i.heap' B;have a:=h.trans i;refine ζl e rfl (ζg rfl (fun C => ?_) fun C => ?_)
 ·exact ζr Tryz.func3 rfl ⟨rfl,a⟩
 refine ζl e rfl (ζg rfl (fun D => ?_) fun D => ?_)
 ·exact ζr Tryz.func3 rfl ⟨rfl,a⟩
 refine ζl e rfl ?_;cases hm:XjN c with
 |false =>
  refine ζv (Xhg c p s (hc.chg a) hm) rfl fun o d => ?_;have f:=d.heap' e;refine ζl f rfl (ζv (XnR c p o (hc.chg (a.trans d))) rfl fun E g => ?_);rw [show XjQ c=1 by unfold XjQ; rw [hm]; rfl];exact ζy rfl (ζy rfl (ζy rfl (ζr Tryz.func3 rfl ⟨rfl,(a.trans d).trans g⟩)))
 |true =>
  refine ζc rfl (Xhf c p s (hc.chg a) (ht.grow a) hm) ?_;rintro _ o ⟨M,F,S,H,P,rfl,t,d,_,_⟩;refine ζa rfl ?_;have f:=d.heap' e;refine ζl f rfl (ζv (XnR c p o (hc.chg (a.trans d))) rfl fun E g => ?_);rw [show XjQ c=0 by unfold XjQ; rw [hm]; rfl];have q:=t.grow g;refine ζf rfl (ζy rfl (ζy rfl ?_));have j:=Xhe q.hm;rw [XkH] at j;refine ζw j rfl (ζy rfl ?_);have k:=Xhd q.hm;rw [show Xho (XkF c).st.rm.pl=0 from Xmx _] at k;refine ζv k rfl fun N u=>ζy rfl ?_;have G:=q.grow u;have v:=XkG hm;have l:=Xg9 G 1;rw [show Xhv c (XkF c) 1=0 by unfold Xhv; rw [v.1,if_neg (by decide),if_neg v.2]] at l;refine ζc rfl (l) ?_;rintro _ O ⟨bv,Q,R,rfl,x,r,J,K⟩;refine ζa rfl ?_;obtain ⟨ra,rc,rfl,T,L⟩:=x;have y:=XkJ hm t.hm.lv.inv.rm;refine Xay.fld hTT rfl rfl (ζy rfl ?_);have m:=Xhe r.hm;rw [y.1] at m;refine ζw m rfl (ζy rfl ?_);have n:=Xhd r.hm;rw [y.2] at n;exact ζv n rfl fun U z=>ζr Tryz.func3 rfl ⟨rfl,a.trans (r.hm.lv.chg.trans z)⟩
end Go.Proofs.YtgddpaiandefgaaGreatDoor
