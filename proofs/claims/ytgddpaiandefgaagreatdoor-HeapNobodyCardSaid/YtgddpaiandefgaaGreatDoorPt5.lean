/-
  Texts put together: Hp4, Aw23, Laws20, Laws20b, Laws23.
-/
import Derived.Test.YtgddpaiandefgaaGreatDoorPt4
import Derived.KernelRfl
set_option linter.unusedVariables false
set_option maxRecDepth 100000
namespace Go.Proofs.YtgddpaiandefgaaGreatDoor
open Go.RowKit
structure Hv (c:Conf) (n0:Nat) (w0 w:World) (F:Nat→Prop) (S:Sto) (H:Nat) (P:XbC) (x:HpM):Prop where
 hm:Hm c n0 w0 w F S H P x.st x.tb
 lap:S.R.lap=x.st.rm.tot
 ok:x.Ok c
def XaA (c:Conf) (n0:Nat) (w0 w:World) (F:Nat→Prop) (H:Nat) (P:XbC) (x:HpM) (w':World):Prop :=
 ∃ F' S',Hv c n0 w0 w' F' S' H P x∧(∀ z,F' z→F z∨w.heap.size≤z)∧Chg (XhL F P) w w'
def Xap (c:Conf) (n0:Nat) (w0 w:World) (F:Nat→Prop) (H:Nat) (P:XbC) (x:HpM) (e g k:Int) (l:List Int) (v:Value) (w':World):Prop :=
 ∃ b F' S',v=XnR e g b k∧Xaj w.heap.size F' l b w'∧Hv c n0 w0 w' F' S' H P x∧(∀ z,F' z→F z∨w.heap.size≤z)∧Chg (XhL F P) w w'
section
variable {c:Conf} {n0:Nat} {w0 w w':World} {F:Nat→Prop} {S:Sto} {H:Nat} {P:XbC} {s:StM} {t:TbM} {x x':HpM} {e g k:Int} {l:List Int} {v:Value}
theorem Hv.grow (h:Hv c n0 w0 w F S H P x) (hc:Chg XaW w w'):Hv c n0 w0 w' F S H P x:={h with hm:=h.hm.grow hc}
theorem XaA.up {w1:World} (h:XaA c n0 w0 w1 F H P x w') (hc:Chg XaW w w1):XaA c n0 w0 w F H P x w':=by
 obtain ⟨F',S',a,b,d⟩:=h;have:=hc.size;exact ⟨F',S',a,fun z e=>(b z e).imp id (by omega),(hc.mono fun _ _ h=>h.elim).trans d⟩
theorem XaA.on {w1:World} (h:XaA c n0 w0 w F H P x w1) (hc:Chg XaW w1 w'):XaA c n0 w0 w F H P x w':=by
 obtain ⟨F',S',a,b,d⟩:=h;exact ⟨F',S',a.grow hc,b,d.trans (hc.mono fun _ _ h=>h.elim)⟩
theorem Hv.self (h:Hv c n0 w0 w F S H P x) (hc:Chg XaW w w'):XaA c n0 w0 w F H P x w':=⟨F,S,h.grow hc,fun _ h => .inl h,hc.mono fun _ _ h=>h.elim⟩
theorem Hv.boxed (h:Hv c n0 w0 w F S H P x) {b ty:Nat} (hb:¬ F b) (hn:n0≤b∧w0.heap.size≤b) (hP:¬ XsR P b∧H≠b) (hk:kd w b=some (some ty)) (ht:ty≠329∧ty≠325∧ty≠3) (hc:Chg (fun q=>q=b) w w'):Hv c n0 w0 w' F S H P x :=
 {h with hm:=h.hm.boxed hb hn hP hk ht hc}
theorem Xhc (h:Hv c n0 w0 w F S H P x) (n:Int) (hn : -9223372036854775808≤n∧n≤9223372036854775807):Xan Tryz.prog 25 #[hpV H,.int .i64 n] w
 (Xap c n0 w0 w F H P (XhM c x n) (tbE x.tb n) 0 ((if tbE x.tb n=0 then 2 else 0)+(1+((XhM c x n).st.rm.tot - x.st.rm.tot))) []):=by
 have t:=h.hm.low';have a2:=h.hm.since0;have a3:=h.hm.tb.lt;have a4:=XjD h.hm.obj;have E:=h.ok.free n;refine ζe Tryz.func25 Tryz.ntmps25 rfl (ζn rfl fun a w1 e1 W R a5=>ζn rfl fun d w2 e2 hd G a6=>ζn rfl fun b T e3 U u a7 => ?_);have I:=u.heap' (G.heap' W);have J:=u.heap' hd;have g:=(R.trans G).trans u;have K:=g.size;have M:=h.grow g;have L:∀ q,w.heap.size≤q → ¬ XhL F P q:=fun q s e=>by
  rcases e with e | e | e
  ·have:=t q e; omega
  ·omega
  ·omega
 refine ζl I rfl (ζl J rfl (ζc rfl (Xhz M.hm M.lap n hn (k:=68) (cap := [.pointer (some ⟨a,0,none⟩),.pointer (some ⟨d,0,none⟩)]) (z:=2) (by omega) (fun p w' v=>Xhd (M.hm.grow v) (tbN x.tb n) n hn (v.cell (Xd5 (off:=0) I rfl) id) (v.cell (Xd5 (off:=0) J rfl) id) (L a (by omega)) (L d (by omega)))) ?_));rintro _ w4 i;refine ζa rfl ?_;by_cases p:tbE x.tb n=0
 ·have eX:XhM c x n=⟨Xrv c x.st (tbN x.tb n),XsT x.tb n⟩:=by unfold XhM; rw [if_pos p]
  rw [if_pos p] at i;rw [eX] at E ⊢;rw [if_pos p];obtain ⟨bv,r,rfl,y,N,j,l⟩:=i;obtain ⟨ra,rc,rfl,O,A⟩:=y;have m:¬ XsR P b:=fun e=>by rcases e with e | e <;> omega
  have o:=l.heap U (show ¬ XhL F P b from fun e=>by
   rcases e with e | e
   ·have:=t b e; omega
   ·exact m e)
  have B:¬ r b:=fun e=>by
   rcases j b e with e | e
   ·have:=t b e; omega
   ·omega
  refine ζs o rfl fun w5 C f V => ?_;have Q:=N.boxed B (by omega) ⟨m,by omega⟩ (Xih o) (by decide) f;have D:=((show Xaj T.heap.size r _ (.slice ra _ rc) _ from ⟨ra,rc,rfl,O,A⟩).chg f (fun q e => .inl (.inl (by omega)))).low K (fun _ _ _ h=>h);exact ζR Tryz.func25 C rfl ⟨_,r,_,rfl,D,⟨Q,rfl,E⟩,fun q s=>(j q s).imp id (by omega),(((g.mono fun _ _ h=>h.elim).trans l)).since f (fun q s e=>by omega)⟩
 ·have eX:XhM c x n=x:=by unfold XhM; rw [if_neg p]
  rw [if_neg p] at i;rw [eX,if_neg p,Int.sub_self];obtain ⟨bv,r,rfl,y,N,j,l⟩:=i;obtain ⟨ra,rc,rfl,O,A⟩:=y;have m:¬ XsR P b:=fun e=>by rcases e with e | e <;> omega
  have o:=l.heap U (show ¬ XhL F P b from fun e=>by
   rcases e with e | e
   ·have:=t b e; omega
   ·exact m e)
  have B:¬ r b:=fun e=>by
   rcases j b e with e | e
   ·have:=t b e; omega
   ·omega
  refine ζs o rfl fun w5 C f V => ?_;have Q:=N.boxed B (by omega) ⟨m,by omega⟩ (Xih o) (by decide) f;have D:=((show Xaj T.heap.size r _ (.slice ra _ rc) _ from ⟨ra,rc,rfl,O,A⟩).chg f (fun q e => .inl (.inl (by omega)))).low K (fun _ _ _ h=>h);exact ζR Tryz.func25 C rfl ⟨_,r,_,rfl,D,⟨Q,rfl,h.ok⟩,fun q s=>(j q s).imp id (by omega),(((g.mono fun _ _ h=>h.elim).trans l)).since f (fun q s e=>by omega)⟩
theorem Xhm (h:Hv c n0 w0 w F S H P x) (n i m:Int) (hn : -9223372036854775808≤n∧n≤9223372036854775807) (hi : -9223372036854775808≤i∧i≤9223372036854775807) (hm : -9223372036854775808≤m∧m≤9223372036854775807):Xan Tryz.prog 26 #[hpV H,.int .i64 n,.int .i64 i,.int .i64 m] w
 (Xap c n0 w0 w F H P (XhO c x n i m) (XhQ x n i m) 0 (0+(1+((XhO c x n i m).st.rm.tot - x.st.rm.tot))) (XhP c x n i m)):=by
 have B:=h.hm.low';have a8:=h.hm.since0;have a9:=h.hm.tb.lt;have aa:=XjD h.hm.obj;have K:=h.ok.read n i m;refine ζe Tryz.func26 Tryz.ntmps26 rfl (ζn rfl fun a w1 e1 ha V ab=>ζn rfl fun d w2 e2 hd L ac=>ζn rfl fun d' ad ae W t a6=>ζn rfl fun b w3 e3 hb v af => ?_);have M:=v.heap' (t.heap' (L.heap' ha));have a2:=v.heap' (t.heap' hd);have O:=v.heap' W;have g:=((V.trans L).trans t).trans v;have N:=g.size;have Q:=h.grow g;have C:∀ q,w.heap.size≤q → ¬ XhL F P q:=fun q A e=>by
  rcases e with e | e | e
  ·have:=B q e; omega
  ·omega
  ·omega
 refine ζl M rfl (ζc rfl (Xhz Q.hm Q.lap n hn (k:=71) (cap := [.pointer (some ⟨a,0,none⟩),.pointer (some ⟨d,0,none⟩),.pointer (some ⟨d',0,none⟩)]) (z:=0) (by omega) (fun j w' y=>Xhn (Q.hm.grow y) (tbN x.tb n) i m hi hm (y.cell (Xd5 (off:=0) M rfl) id) (y.cell (Xd5 (off:=0) a2 rfl) id) (y.cell (Xd5 (off:=0) O rfl) id) (C a (by omega)) (C d (by omega)) (C d' (by omega)))) ?_);rintro _ w4 l;refine ζa rfl ?_;by_cases j:tbE x.tb n=0
 ·have eX:XhO c x n i m=⟨XrD c x.st (tbN x.tb n) i m,x.tb⟩:=by unfold XhO; rw [if_pos j]
  have eE:XhQ x n i m=Xui x.st (tbN x.tb n) i m:=by unfold XhQ; rw [if_pos j]
  have eB:XhP c x n i m=XrE c x.st (tbN x.tb n) i m:=by unfold XhP; rw [if_pos j]
  rw [if_pos j] at l;rw [eX] at K ⊢;rw [eE,eB];obtain ⟨bv,u,rfl,D,R,o,p⟩:=l;obtain ⟨ra,rc,rfl,T,E⟩:=D;have r:¬ XsR P b:=fun e=>by rcases e with e | e <;> omega
  have s:=p.heap hb (show ¬ XhL F P b from fun e=>by
   rcases e with e | e
   ·have:=B b e; omega
   ·exact r e)
  have G:¬ u b:=fun e=>by
   rcases o b e with e | e
   ·have:=B b e; omega
   ·omega
  refine ζs s rfl fun w5 I f a3 => ?_;have U:=R.boxed G (by omega) ⟨r,by omega⟩ (Xih s) (by decide) f;have J:=((show Xaj w3.heap.size u _ (.slice ra _ rc) _ from ⟨ra,rc,rfl,T,E⟩).chg f (fun q e => .inl (.inl (by omega)))).low N (fun _ _ _ h=>h);exact ζR Tryz.func26 I rfl ⟨_,u,_,rfl,J,⟨U,rfl,K⟩,fun q A=>(o q A).imp id (by omega),(((g.mono fun _ _ h=>h.elim).trans p)).since f (fun q A e=>by omega)⟩
 ·have eX:XhO c x n i m=x:=by unfold XhO; rw [if_neg j]
  have eE:XhQ x n i m=tbE x.tb n:=by unfold XhQ; rw [if_neg j]
  have eB:XhP c x n i m = []:=by unfold XhP; rw [if_neg j]
  rw [if_neg j] at l;rw [eX,eE,eB,Int.sub_self];obtain ⟨bv,u,rfl,D,R,o,p⟩:=l;obtain ⟨ra,rc,rfl,T,E⟩:=D;have r:¬ XsR P b:=fun e=>by rcases e with e | e <;> omega
  have s:=p.heap hb (show ¬ XhL F P b from fun e=>by
   rcases e with e | e
   ·have:=B b e; omega
   ·exact r e)
  have G:¬ u b:=fun e=>by
   rcases o b e with e | e
   ·have:=B b e; omega
   ·omega
  refine ζs s rfl fun w5 I f a3 => ?_;have U:=R.boxed G (by omega) ⟨r,by omega⟩ (Xih s) (by decide) f;have J:=((show Xaj w3.heap.size u _ (.slice ra _ rc) _ from ⟨ra,rc,rfl,T,E⟩).chg f (fun q e => .inl (.inl (by omega)))).low N (fun _ _ _ h=>h);exact ζR Tryz.func26 I rfl ⟨_,u,_,rfl,J,⟨U,rfl,h.ok⟩,fun q A=>(o q A).imp id (by omega),(((g.mono fun _ _ h=>h.elim).trans p)).since f (fun q A e=>by omega)⟩
theorem Xht (h:Hv c n0 w0 w F S H P x) (n i:Int) (ba:Option Addr) (bc:Nat) (l:List Int) (hn : -9223372036854775808≤n∧n≤9223372036854775807) (hi : -9223372036854775808≤i∧i≤9223372036854775807) (hr:Rd .u8 w ba l) (hlc:l.length≤bc) (hl:l.length≤9223372036854775807) (hin:InB l) (hout:0<l.length→XaX F ba):Xan Tryz.prog 29 #[hpV H,.int .i64 n,.int .i64 i,.slice ba l.length bc] w
 (Xap c n0 w0 w F H P (XhS c x n i l) (XhQ x n i l.length) 0 (0+(1+((XhS c x n i l).st.rm.tot - x.st.rm.tot))) []):=by
 have I:=h.hm.low';have a6:=h.hm.since0;have a7:=h.hm.tb.lt;have a8:=XjD h.hm.obj;have J:=h.ok.write n i hin;refine ζe Tryz.func29 Tryz.ntmps29 rfl (ζn rfl fun a w1 e1 ha T a9=>ζn rfl fun d w2 e2 hd K aa=>ζn rfl fun d' ab ac U t a4=>ζn rfl fun b V e3 W y ad => ?_);have L:=y.heap' (t.heap' (K.heap' ha));have a0:=y.heap' (t.heap' hd);have N:=y.heap' U;have f:=((T.trans K).trans t).trans y;have M:=f.size;have O:=h.grow f;refine ζl L rfl (ζc rfl (Xhz O.hm O.lap n hn (k:=76) (cap := [.pointer (some ⟨a,0,none⟩),.pointer (some ⟨d,0,none⟩),.pointer (some ⟨d',0,none⟩)]) (z:=0) (by omega) (fun u w' m=>Xhu (O.hm.grow m) (tbN x.tb n) i ba bc l hi ((hr.chg f).chg m) hlc hl hin hout (m.cell (Xd5 (off:=0) L rfl) id) (m.cell (Xd5 (off:=0) a0 rfl) id) (m.cell (Xd5 (off:=0) N rfl) id))) ?_);rintro _ w4 j;refine ζa rfl ?_;by_cases u:tbE x.tb n=0
 ·have eX:XhS c x n i l=⟨XrL c x.st (tbN x.tb n) i l,x.tb⟩:=by unfold XhS; rw [if_pos u]
  have eE:XhQ x n i l.length=Xui x.st (tbN x.tb n) i l.length:=by unfold XhQ; rw [if_pos u]
  rw [if_pos u] at j;rw [eX] at J ⊢;rw [eE];obtain ⟨bv,v,rfl,A,Q,o,p⟩:=j;obtain ⟨ra,rc,rfl,hr,B⟩:=A;have r:¬ XsR P b:=fun e=>by rcases e with e | e <;> omega
  have s:=p.heap W (show ¬ XhL F P b from fun e=>by
   rcases e with e | e
   ·have:=I b e; omega
   ·exact r e)
  have C:¬ v b:=fun e=>by
   rcases o b e with e | e
   ·have:=I b e; omega
   ·omega
  refine ζs s rfl fun w5 D g a1 => ?_;have R:=Q.boxed C (by omega) ⟨r,by omega⟩ (Xih s) (by decide) g;have E:=((show Xaj V.heap.size v _ (.slice ra _ rc) _ from ⟨ra,rc,rfl,hr,B⟩).chg g (fun q e => .inl (.inl (by omega)))).low M (fun _ _ _ h=>h);exact ζR Tryz.func29 D rfl ⟨_,v,_,rfl,E,⟨R,rfl,J⟩,fun q G=>(o q G).imp id (by omega),(((f.mono fun _ _ h=>h.elim).trans p)).since g (fun q G e=>by omega)⟩
 ·have eX:XhS c x n i l=x:=by unfold XhS; rw [if_neg u]
  have eE:XhQ x n i l.length=tbE x.tb n:=by unfold XhQ; rw [if_neg u]
  rw [if_neg u] at j;rw [eX,eE,Int.sub_self];obtain ⟨bv,v,rfl,A,Q,o,p⟩:=j;obtain ⟨ra,rc,rfl,hr,B⟩:=A;have r:¬ XsR P b:=fun e=>by rcases e with e | e <;> omega
  have s:=p.heap W (show ¬ XhL F P b from fun e=>by
   rcases e with e | e
   ·have:=I b e; omega
   ·exact r e)
  have C:¬ v b:=fun e=>by
   rcases o b e with e | e
   ·have:=I b e; omega
   ·omega
  refine ζs s rfl fun w5 D g a1 => ?_;have R:=Q.boxed C (by omega) ⟨r,by omega⟩ (Xih s) (by decide) g;have E:=((show Xaj V.heap.size v _ (.slice ra _ rc) _ from ⟨ra,rc,rfl,hr,B⟩).chg g (fun q e => .inl (.inl (by omega)))).low M (fun _ _ _ h=>h);exact ζR Tryz.func29 D rfl ⟨_,v,_,rfl,E,⟨R,rfl,h.ok⟩,fun q G=>(o q G).imp id (by omega),(((f.mono fun _ _ h=>h.elim).trans p)).since g (fun q G e=>by omega)⟩
theorem Xg8 (h:Hv c n0 w0 w F S H P x) (size:Int):Xan Tryz.prog 14 #[hpV H,.int .i64 size] w (Xap c n0 w0 w F H P (XhH c x size) (XhI c x size) (XhJ c x size) (XhK c x size) []):=by
 have K:=h.hm.low';have a3:=h.hm.since0;have a4:=h.hm.tb.lt;have a5:=XjD h.hm.obj;have m:=h.ok.alloc size;refine ζe Tryz.func14 Tryz.ntmps14 rfl (ζn rfl fun b w1 e1 r k a6 => ?_);have D:=h.hm.grow k;refine ζl D.obj rfl (ζv (XjG D.lv size) rfl fun w2 d => ?_);have i:=D.grow d;by_cases e3:Xru c x.st size=3
 ·have a:¬ XhN c x size:=fun a=>by have:=a.1; omega
  have eX:XhH c x size=x:=by unfold XhH; rw [if_neg a]
  have eE:XhI c x size=3:=by unfold XhI; rw [if_pos e3]
  have eH:XhJ c x size=0:=by unfold XhJ; rw [if_neg a]
  have eK:XhK c x size=0:=by unfold XhK; rw [if_neg a]
  rw [eX,eE,eH,eK,e3];refine ζf rfl (ζy rfl (ζb rfl (ζs (d.heap' r) rfl fun E f l t => ?_)));have g:=(k.trans d).since l (fun q n e=>by omega);exact ζR Tryz.func14 f rfl ⟨_,F,S,rfl,.none _ _ _,h.grow g,fun _ h => .inl h,g.mono fun _ _ h=>h.elim⟩
 refine ζy rfl (ζl i.obj rfl (ζw (Xnm i.tb) rfl ?_));by_cases e4:x.tb.fl = []
 ·have a:¬ XhN c x size:=fun a=>a.2 e4;have eX:XhH c x size=x:=by unfold XhH; rw [if_neg a]
  have eE:XhI c x size=4:=by unfold XhI; rw [if_neg e3,if_pos e4]
  have eH:XhJ c x size=0:=by unfold XhJ; rw [if_neg a]
  have eK:XhK c x size=0:=by unfold XhK; rw [if_neg a]
  rw [eX,eE,eH,eK,e4];refine ζy rfl (ζb rfl (ζs (d.heap' r) rfl fun E f l t => ?_));have g:=(k.trans d).since l (fun q n e=>by omega);exact ζR Tryz.func14 f rfl ⟨_,F,S,rfl,.none _ _ _,h.grow g,fun _ h => .inl h,g.mono fun _ _ h=>h.elim⟩
 have a7:=List.length_pos_iff.2 e4;refine ζf rfl ?_;by_cases s:Xru c x.st size=0
 ·have a:XhN c x size:=⟨s,e4⟩;obtain ⟨j,L,g2,g3,g4,W⟩:=h.ok.goes a;have eX:XhH c x size=⟨Xrm c x.st (Xs2 x.tb) size,Xs0 x.tb⟩:=by unfold XhH; rw [if_pos a]
  have eE:XhI c x size=0:=by unfold XhI; rw [if_neg e3,if_neg e4,s]
  have eH:XhJ c x size=Xs1 x.tb:=by unfold XhJ; rw [if_pos a]
  have eK:XhK c x size=2+((XhH c x size).st.rm.tot - x.st.rm.tot):=by unfold XhK; rw [if_pos a]
  rw [eX] at m eK ⊢;rw [eE,eH,eK,s];refine ζf rfl (ζl i.obj rfl (ζc rfl (Xnq i.tb e4) ?_));rintro _ wt ⟨rfl,M,N⟩;refine ζa rfl ?_;obtain ⟨Ft,G,O,I⟩:=i.table M N;have Q:=G.obj;refine ζl Q rfl ?_;refine ζc rfl (XjE G.lv (Xs2 x.tb) size) ?_;rintro _ wa ⟨rfl,R⟩;refine ζa rfl ?_;rw [L,W];have o:=(Xaz.seq O I (G.store R)).up d;rw [L] at o m;have a8:0≤(Xrm c x.st (j:Nat) size).rm.tot∧(Xrm c x.st (j:Nat) size).rm.tot≤4611686018427387904:=m.st.rm.ok.tot;have a0:=h.hm.lv.inv.rm.ok.tot;obtain ⟨T,i,u,v⟩:=o;have U:=i.obj;refine Xay.loadb hTT rfl U rfl rfl ?_;refine ζc rfl (XjL i.lv) ?_;rintro _ E ⟨rfl,V,p,y⟩;refine ζa rfl ?_;have h3:=i.steps V p y;have z:¬ XsR P b:=fun e=>by rcases e with e | e <;> omega
  have A:¬ T b:=fun e=>by
   rcases u b e with e | e
   ·have:=K b e; omega
   ·omega
  have f:=p.heap (v.heap r (show ¬ XhL F P b from fun e=>by
   rcases e with e | e
   ·have:=K b e; omega
   ·exact z e)) (fun e=>A (e▸y))
  refine Xay.arith hTT rfl (w64 (by rw [h.lap]; omega)) rfl ?_;refine ζb rfl (ζs f rfl fun w5 B C a9 => ?_);have h5:=h3.boxed A (by omega) ⟨z,by omega⟩ (Xih f) (by decide) C;have J:=(((k.mono fun _ _ h=>h.elim).trans v).since p (fun q n e => .inl (e▸h.hm.lv.mb))).since C (fun q n e=>by omega);rw [h.lap] at B;exact ζq rfl Tryz.func14 (Xa9.cell rfl rfl rfl B rfl .nil) ⟨_,T,_,rfl,.none _ _ _,⟨h5,rfl,m⟩,fun q n=>(u q n).imp id (by omega),J⟩
 ·have a:¬ XhN c x size:=fun a=>s a.1;have eX:XhH c x size=x:=by unfold XhH; rw [if_neg a]
  have eE:XhI c x size=Xru c x.st size:=by unfold XhI; rw [if_neg e3,if_neg e4]
  have eH:XhJ c x size=0:=by unfold XhJ; rw [if_neg a]
  have eK:XhK c x size=0:=by unfold XhK; rw [if_neg a]
  rw [eX,eE,eH,eK];refine ζy rfl (ζb rfl (ζs (d.heap' r) rfl fun E f l t => ?_));have g:=(k.trans d).since l (fun q n e=>by omega);exact ζR Tryz.func14 f rfl ⟨_,F,S,rfl,.none _ _ _,h.grow g,fun _ h => .inl h,g.mono fun _ _ h=>h.elim⟩
end
theorem Xhk (c:Conf) (p:Xal) (w:World) (hc:Xam w c p) (ht:Xbz w) (hm:XjY c=true):Xan Tryz.prog 10 #[.agg (Xe5 c p).toArray] w (fun v w' => ∃ n0 F S H P,v = .tuple #[hpV H,.int .i64 0]∧Hv c n0 w w' F S H P (XkO c)∧Chg XaW w w'∧w.heap.size≤n0∧n0≤w'.heap.size):=by
 have o:(1≤c.slots∧c.slots≤4096)∧1≤c.gens∧c.gens≤1023:=by
  have hm:=hm;unfold XjY at hm;simp only [Bool.and_eq_true,decide_eq_true_eq,Xuj] at hm;omega
 refine ζe Tryz.func10 Tryz.ntmps10 rfl (ζn rfl fun b u e1 q f C => ?_);refine ζl q rfl (ζc rfl (XjJ c p u (hc.chg f) (ht.grow f) hm) ?_);rintro _ l ⟨F,S,rfl,j,m,_,g⟩;refine ζa rfl (ζf rfl ?_);have h:=g.heap' q;refine ζl h rfl (ζl h rfl ?_);obtain ⟨N,n⟩:=Int.eq_ofNat_of_zero_le (show 0≤c.slots by omega);rw [n];refine ζc rfl (Xnp N c.gens l (by omega) o.2) ?_;rintro _ I ⟨P,rfl,r,x,i⟩;refine ζa rfl (ζl (i.heap' h) rfl (ζb rfl (ζn rfl fun H y e4 A k D => ?_)));have E:=g.size;have G:=i.size;have a:=j.low;have B:=j.inv.rm;have d:=i.trans k;have s:=j.base;have t:Hm c l.heap.size w y F S H P (XkZ c) (Xk2 N c.gens) :=
  ⟨{(j.grow d) with base:=fun z e=>by have:=s z e; omega,chg:=((f.trans g).trans d)},by rw [A]; rfl,by rw [n]; exact x.grow k,⟨⟨r.1,r.2⟩,by omega,by omega⟩,
   fun e=>by have:=a _ e; omega,fun e=>by have:=a _ e; omega,fun e=>by have:=a _ e; omega⟩
 have eN:XkO c=⟨XkZ c,Xk2 N c.gens⟩:=by unfold XkO; rw [n]
 exact ζr Tryz.func10 rfl ⟨l.heap.size,F,S,H,P,rfl,⟨by rw [eN]; exact t,by rw [eN]; exact m,XkP hm B⟩,(f.trans g).trans d,by omega,by omega⟩
def Xq7:Conf:=⟨64,4,[32],[0],8,5,3,128⟩
def XhD:List Int := [104,105]
def Xc6:HpM:=XkO Xq7
def aw23x1:HpM:=XhH Xq7 Xc6 20
def aw23x2:HpM:=XhS Xq7 aw23x1 4096 0 XhD
def aw23x3:HpM:=XhO Xq7 aw23x2 4096 0 3
def aw23x4:HpM:=XhM Xq7 aw23x3 4096
def aw23x5:HpM:=XhM Xq7 aw23x4 4096
def aw23x6:HpM:=XhH Xq7 aw23x5 0
theorem Xc3:XjY Xq7=true:=by kernel_rfl
theorem XcW:XhI Xq7 Xc6 20=0∧XhJ Xq7 Xc6 20=4096∧XhK Xq7 Xc6 20=41:=⟨by kernel_rfl,by kernel_rfl,by kernel_rfl⟩
theorem XcX:XhQ aw23x1 4096 0 2=0∧0+(1+(aw23x2.st.rm.tot - aw23x1.st.rm.tot))=3:=⟨by kernel_rfl,by kernel_rfl⟩
theorem XcY:XhQ aw23x2 4096 0 3=0∧0+(1+(aw23x3.st.rm.tot - aw23x2.st.rm.tot))=4∧XhP Xq7 aw23x2 4096 0 3 = [104,105,0]:=⟨by kernel_rfl,by kernel_rfl,by kernel_rfl⟩
theorem Xc2:Xrp aw23x3.st=20∧((XhB aw23x3.st.rm.pl:Nat):Int)*64=64:=⟨by kernel_rfl,by kernel_rfl⟩
theorem XcZ:tbE aw23x3.tb 4096=0∧2+(1+(aw23x4.st.rm.tot - aw23x3.st.rm.tot))=10:=⟨by kernel_rfl,by kernel_rfl⟩
theorem Xc0:tbE aw23x4.tb 4096=6∧0+(1+(aw23x5.st.rm.tot - aw23x4.st.rm.tot))=1:=⟨by kernel_rfl,by kernel_rfl⟩
theorem Xc1:XhI Xq7 aw23x5 0=3:=by kernel_rfl
theorem Xc4:Xrp aw23x6.st=0∧((XhB aw23x6.st.rm.pl:Nat):Int)*64=0∧XsU aw23x6.tb=0:=⟨by kernel_rfl,by kernel_rfl,by kernel_rfl⟩
theorem Xc5:(FloatKind.format .f64).div (FloatKind.nearest .f64 20) (FloatKind.nearest .f64 64)=some 4599301119452119040:=by kernel_rfl


theorem Rd.of23 {k:IntKind} {w:World} {b:Nat} {c:Array Value} {t:TypeId} {fz:Nat × Nat} {zs:List Int} (h:w.heap[b]? = some (.cells c t fz)) (hc:c=(zs.map (Value.int k)).toArray):Rd k w (some ⟨b,0,none⟩) zs:=fun i a =>
 ⟨b,0,rfl,by rw [Xd6 h,hc]; simp [a]⟩
section
variable {c:Conf} {n0:Nat} {w0 w w1 w2 w':World} {F F':Nat→Prop} {S:Sto} {H:Nat} {P:XbC} {x:HpM}
theorem Hv.off (h:Hv c n0 w0 w F S H P x) {b:Nat} (hb:w.heap.size≤b):¬ XhL F P b:=fun e=>by
 have a:=h.hm.tb.lt;rcases e with e | e | e
 ·have:=h.hm.low' b e; omega
 ·omega
 ·omega
theorem Hv.fresh (h:Hv c n0 w0 w F S H P x) {b ty:Nat} (hc:Chg XaW w w1) (hb:w.heap.size≤b) (hk:kd w1 b=some (some ty)) (ht:ty≠329∧ty≠325∧ty≠3) (hst:Chg (fun q=>q=b) w1 w2):Hv c n0 w0 w2 F S H P x:=by
 have f:=h.hm.since0;have d:=XjD h.hm.obj;have a:=h.off hb;exact (h.grow hc).boxed (fun e=>a (.inl e)) (by omega) ⟨fun e=>a (.inr e),by omega⟩ hk ht hst
theorem Xio {b:Nat} {o:Obj} (h:w.heap[b]? = some o) (hn:¬ XhL F P b) (hc:Chg (XhL F P) w w') (hF:∀ z,F' z→F z∨w.heap.size≤z):w'.heap[b]? = some o ∧ ¬ XhL F' P b :=
 ⟨hc.heap h hn,fun e=>e.elim (fun e=>(hF b e).elim (fun g=>hn (.inl g)) (fun g=>by have:=XjD h; omega)) (fun e=>hn (.inr e))⟩
theorem Xaj.op {n:Nat} {l:List Int} {b:Value} (h:Xaj n F l b w) (hP:P.tb<n∧P.sb<n) (hc:Chg (XhL F P) w w') (hF:∀ z,F' z→F z∨w.heap.size≤z):Xaj n F' l b w':=by
 obtain ⟨a,cap,e,j,f⟩:=h;have k:=(show Xaj n F l b w from ⟨a,cap,e,j,f⟩).chg hc (fun z m=>m.elim .inr (fun e => .inl (.inl (by rcases e with e | e <;> omega))));obtain ⟨o,d,e2,i,c⟩:=k;have e3:a=o:=by rw [e] at e2; cases e2; rfl
 subst e3;exact ⟨a,d,e2,i,fun b' off s' e=>⟨(c b' off s' e).1,fun g=>(hF b' g).elim (c b' off s' e).2 (fun g=>by have:=(f b' off s' e).1; omega)⟩⟩
end
theorem XiB (w:World):Xan Tryz.prog 35 #[] w (fun v w' => ∃ p,v = .agg (Xe5 Xq7 p).toArray∧Xam w' Xq7 p∧Chg XaW w w'):=by
 refine ζe Tryz.func35 Tryz.ntmps35 rfl (ζn rfl fun b u e1 l e o=>Xay.buildSlice hTT rfl fun f x e2 g d q=>ζa rfl (Xay.buildSlice hTT rfl fun h y e3 i a r=>ζa rfl (ζb rfl (ζs (a.heap' (d.heap' l)) rfl fun m j c s => ?_))));have n:Xam m Xq7 ⟨some ⟨f,0,none⟩,1,some ⟨h,0,none⟩,1⟩ :=
  ⟨Rd.of23 (c.heap (a.heap' g) (by omega)) rfl,Rd.of23 (c.heap i (by omega)) rfl,by decide,by decide,by unfold XaC; decide⟩
 exact ζR Tryz.func35 j rfl ⟨⟨some ⟨f,0,none⟩,1,some ⟨h,0,none⟩,1⟩,rfl,n,((e.trans d).trans a).since c (fun k z t=>by omega)⟩
theorem XiA (w:World) (ht:Xbz w):Xan Tryz.prog 9 #[] w (Grow (.bool true) w):=by
 refine ζe Tryz.func9 Tryz.ntmps9 rfl (ζc rfl (XiB w) ?_);rintro _ ws ⟨p,rfl,be,a9⟩;refine ζa rfl (ζc rfl (Xhk Xq7 p ws be (ht.grow a9) Xc3) ?_);rintro _ w0 ⟨n0,F,S,H,P,rfl,h0,dl,_,_⟩;refine ζa rfl ?_;have aa:=Xg8 h0 20;rw [show XkO Xq7=Xc6 from rfl,XcW.1,XcW.2.1,XcW.2.2] at aa;refine ζc rfl (aa) ?_;rintro _ dm ⟨dn,F1,S1,rfl,bf,ab,dp,dq⟩;refine ζa rfl ?_;obtain ⟨dr,ds,rfl,dt,cu⟩:=bf;refine ζn rfl fun N du dv ac b8 cv=>ζs ac rfl fun bg ad b9 cw => ?_;have h1:=ab.fresh b8 (by omega) (Xih ac) (by decide) b9;have bh:=ab.off (b:=N) (by omega);replace h1:Hv Xq7 n0 ws bg F1 S1 H P aw23x1:=h1;refine ζl ad rfl (Xay.buildSlice hTT rfl fun hb w4 e4 bj bk dw=>ζa rfl (Xay.mark hTT rfl bj fun w5 dx ba bl dy=>ζa rfl ?_));have R:=bk.since bl (fun z hz e=>by omega);have h5:=h1.grow R;have ae:=Xht h5 4096 0 (some ⟨hb,0,none⟩) 2 XhD (by decide) (by decide) (Rd.of23 ba rfl) (by decide) (by decide) (by unfold InB; decide) (fun _ b off s e hz=>by cases e; exact h1.off (b:=hb) (by omega) (.inl hz));rw [show XhQ aw23x1 4096 0 (XhD.length:Nat)=0 from XcX.1,show XhS Xq7 aw23x1 4096 0 XhD=aw23x2 from rfl,XcX.2] at ae;have u:=R.heap' ad;have T:=bh;refine ζc rfl (ae) ?_;rintro _ dz ⟨e0,F2,S2,rfl,bn,af,bo,ag⟩;refine ζa rfl ?_;obtain ⟨e1,e2,rfl,e3,cx⟩:=bn;refine ζn rfl fun O e5 e6 ah U cy=>ζs ah rfl fun bp bq V d0 => ?_;have h2:=af.fresh U (by omega) (Xih ah) (by decide) V;have br:=af.off (b:=O) (by omega);have d1:=ag.size;obtain ⟨D,bs⟩:=Xio u T ag bo;replace D:=V.heap (U.heap' D) (show ¬ N=O by omega);refine ζl D rfl ?_;have ai:=Xhm h2 4096 0 3 (by decide) (by decide) (by decide);rw [XcY.1,show XhO Xq7 aw23x2 4096 0 3=aw23x3 from rfl,XcY.2.1,XcY.2.2] at ai;refine ζc rfl (ai) ?_;rintro _ bt ⟨e7,F3,S3,rfl,a,aj,ak,W⟩;refine ζa rfl ?_;obtain ⟨al,am,rfl,bu,bc⟩:=a;refine ζn rfl fun A e8 e9 an r d3=>ζs an rfl fun ea bv t d4 => ?_;have h3:=aj.fresh r (by omega) (Xih an) (by decide) t;have bx:=aj.off (b:=A) (by omega);have d5:=W.size;obtain ⟨a0,bz⟩:=Xio D bs W ak;replace a0:=t.heap (r.heap' a0) (show ¬ N=A by omega);obtain ⟨a1,c0⟩:=Xio bq br W ak;replace a1:=t.heap (r.heap' a1) (show ¬ O=A by omega);have a:Xaj bp.heap.size F3 [104,105,0] (.slice al 3 am) bt:=⟨al,am,rfl,bu,bc⟩;replace a:=a.chg (X:=fun q=>q=A) ((r.mono fun _ _ h=>h.elim).trans t) (fun q e => .inl (.inr (by omega)));have ao:=Xha h3.hm;rw [Xc2.1,show ((XhB aw23x3.st.rm.pl:Nat):Int)*Xq7.size=64 from Xc2.2] at ao;refine ζc rfl (ao) ?_;rintro _ wf ⟨fl,rfl,hq,m⟩;refine ζa rfl ?_;unfold XnF at hq;rw [Xc5] at hq;subst hq;have hf:=h3.grow m;have d7:=m.size;have ap:=m.heap' a0;have c1:=m.heap' a1;have c2:=m.heap' bv;have c3:=bz;have c4:=c0;have c5:=bx;replace a:=a.chg m (fun q e=>e.elim);refine ζl ap rfl ?_;have aq:=Xhc hf 4096 (by decide);rw [show XhM Xq7 aw23x3 4096=aw23x4 from rfl,if_pos XcZ.1,XcZ.1,XcZ.2] at aq;refine ζc rfl (aq) ?_;rintro _ eb ⟨ec,F4,S4,rfl,c6,ar,E,x⟩;refine ζa rfl ?_;obtain ⟨ed,ee,rfl,ef,d8⟩:=c6;refine ζn rfl fun B eg eh au j d9=>ζs au rfl fun ei c7 k da => ?_;have h4:=ar.fresh j (by omega) (Xih au) (by decide) k;have c8:=ar.off (b:=B) (by omega);have dc:=x.size;obtain ⟨G,c9⟩:=Xio ap c3 x E;replace G:=k.heap (j.heap' G) (show ¬ N=B by omega);obtain ⟨a2,ca⟩:=Xio c1 c4 x E;replace a2:=k.heap (j.heap' a2) (show ¬ O=B by omega);obtain ⟨a3,cb⟩:=Xio c2 c5 x E;replace a3:=k.heap (j.heap' a3) (show ¬ A=B by omega);replace a:=a.op (by have:=h2.hm.tb.lt; exact this) x E;replace a:=a.chg (X:=fun q=>q=B) ((j.mono fun _ _ h=>h.elim).trans k) (fun q e => .inl (.inr (by omega)));refine ζl G rfl ?_;have av:=Xhc h4 4096 (by decide);rw [show XhM Xq7 aw23x4 4096=aw23x5 from rfl,if_neg (by rw [Xc0.1]; decide),Xc0.1,Xc0.2] at av;refine ζc rfl (av) ?_;rintro _ ej ⟨ek,F5,S5,rfl,cc,aw,y,n⟩;refine ζa rfl ?_;obtain ⟨el,em,rfl,en,dd⟩:=cc;refine ζn rfl fun C eo ep ax g de=>ζs ax rfl fun er cd i df => ?_;have h5:=aw.fresh g (by omega) (Xih ax) (by decide) i;have ce:=aw.off (b:=C) (by omega);have dg:=n.size;obtain ⟨u,T⟩:=Xio G c9 n y;replace u:=i.heap (g.heap' u) (show ¬ N=C by omega);obtain ⟨a4,cf⟩:=Xio a2 ca n y;replace a4:=i.heap (g.heap' a4) (show ¬ O=C by omega);obtain ⟨a5,cg⟩:=Xio a3 cb n y;replace a5:=i.heap (g.heap' a5) (show ¬ A=C by omega);obtain ⟨a6,ch⟩:=Xio c7 c8 n y;replace a6:=i.heap (g.heap' a6) (show ¬ B=C by omega);replace a:=a.op (by have:=h2.hm.tb.lt; exact this) n y;replace a:=a.chg (X:=fun q=>q=C) ((g.mono fun _ _ h=>h.elim).trans i) (fun q e => .inl (.inr (by omega)));have ay:=Xg8 h5 0;rw [show XhH Xq7 aw23x5 0=aw23x6 from rfl,Xc1] at ay;refine ζc rfl (ay) ?_;rintro _ es ⟨et,F6,S6,rfl,ci,cj,o,l⟩;refine ζa rfl ?_;obtain ⟨eu,ew,rfl,ex,dh⟩:=ci;refine ζn rfl fun Q ey f0 az d di=>ζs az rfl fun f1 ck f dj => ?_;have h6:=cj.fresh d (by omega) (Xih az) (by decide) f;have dk:=l.size;obtain ⟨I,f2⟩:=Xio u T l o;replace I:=f.heap (d.heap' I) (show ¬ N=Q by omega);obtain ⟨J,f3⟩:=Xio a4 cf l o;replace J:=f.heap (d.heap' J) (show ¬ O=Q by omega);obtain ⟨K,f4⟩:=Xio a5 cg l o;replace K:=f.heap (d.heap' K) (show ¬ A=Q by omega);obtain ⟨L,f5⟩:=Xio a6 ch l o;replace L:=f.heap (d.heap' L) (show ¬ B=Q by omega);obtain ⟨M,f6⟩:=Xio cd ce l o;replace M:=f.heap (d.heap' M) (show ¬ C=Q by omega);replace a:=a.op (by have:=h2.hm.tb.lt; exact this) l o;replace a:=a.chg (X:=fun q=>q=Q) ((d.mono fun _ _ h=>h.elim).trans f) (fun q e => .inl (.inr (by omega)));have b0:=Xha h6.hm;rw [Xc4.1,show ((XhB aw23x6.st.rm.pl:Nat):Int)*Xq7.size=0 from Xc4.2.1] at b0;refine ζc rfl (b0) ?_;rintro _ wg ⟨fg,rfl,cm,c⟩;refine ζa rfl ?_;have cn:=(Xl0 cm).2;have hg:=h6.grow c;refine ζy rfl (ζl (c.heap' I) rfl (ζy rfl (ζl (c.heap' I) rfl (ζy rfl (ζl (c.heap' J) rfl (ζy rfl (ζl (c.heap' J) rfl (ζy rfl (ζl (c.heap' K) rfl ?_)))))))));obtain ⟨rz,cz,ez,cp,_⟩:=a;cases ez
 refine Xay.bstrN hTT ([104,105,0]) rfl rfl ((cp.chg c)) rfl (Xay.streq hTT rfl (rfl) rfl (ζy rfl (ζl (c.heap' K) rfl (ζy rfl (Xay.fcmp hTT rfl (v:=true) rfl rfl (ζy rfl (ζl (c.heap' L) rfl (ζy rfl (ζl (c.heap' L) rfl (ζy rfl (ζl (c.heap' M) rfl (ζy rfl (ζl (c.heap' M) rfl (ζy rfl (ζl (c.heap' ck) rfl (ζy rfl (Xay.fcmp hTT rfl cn rfl (ζy rfl ?_))))))))))))))))));have b7:=Xhi hg.hm;rw [Xc4.2.2] at b7;exact ζw b7 rfl (ζr Tryz.func9 rfl ⟨rfl,a9.trans hg.hm.lv.chg⟩)
theorem law_HeapNobody (n at':Int) (w:World) (ht:Xbz w):Xan Tryz.prog 8 #[.int .i64 n,.int .i64 at'] w (Grow (.bool true) w):=by
 refine ζe Tryz.func8 Tryz.ntmps8 rfl (ζv (XiA w ht) rfl fun m b=>ζc rfl (Xhb m) ?_);rintro _ o ⟨f,rfl,p,c⟩;refine ζa rfl ?_;have d:=(Xl0 p).2;exact ζy rfl (ζv (Xg9 n o) rfl fun q e=>Xay.fld hTT rfl rfl (ζy rfl (ζv (Xhe n q) rfl fun r g=>Xay.fld hTT rfl rfl (ζy rfl (ζv (Xho n at' 0 r) rfl fun s h=>Xay.fld hTT rfl rfl (ζy rfl (ζv (Xhv n at' none 0 0 s) rfl fun t i=>Xay.fld hTT rfl rfl (ζy rfl (ζv (Xhp n at' t) rfl fun u j=>Xay.fld hTT rfl rfl (ζy rfl (ζv (Xhs u) rfl fun v k=>Xay.fld hTT rfl rfl (ζy rfl (ζv (Xhq n at' v) rfl fun a l=>Xay.fld hTT rfl rfl (ζy rfl (ζw (Xhj a) rfl (ζy rfl (ζw (Xhr n a) rfl (ζy rfl (ζw (Xhg a) rfl (ζy rfl (ζw (Xhl n a) rfl (ζy rfl (ζw (Xhh n a) rfl (ζy rfl (Xay.fcmp hTT rfl d rfl (ζr Tryz.func8 rfl ⟨rfl,((((((((b.trans c).trans e).trans g).trans h).trans i).trans j).trans k).trans l)⟩))))))))))))))))))))))))))
end Go.Proofs.YtgddpaiandefgaaGreatDoor
