/-
  Texts put together: Slices, Class, Conf, Meter, Rmm, Pick, Rml, Room0, Room1, Room2, Room3, Slices2, Slices3, Plc, Room4, Room5, Room6, Flat, Ref20, Ref20b, Ref20c, Ref20d, Ref3, Ref20e, Ref20f, Ref20g, Ref20h, Ref20i, RmBack, RmOwn, Xbc, Top13, RmPlan, Arena, Arena2, View, View2.
-/
import Derived.Test.YtgddpaiandefgaaGreatDoorPt1
import Derived.Test.YtgddpaiandefgaaGreatDoorQPost
import Derived.Test.YtgddpaiandefgaaGreatDoorQRule6
import Derived.Test.YtgddpaiandefgaaGreatDoorQRule11
import Derived.Test.YtgddpaiandefgaaGreatDoorQRule16
import Derived.Test.YtgddpaiandefgaaGreatDoorQRule5
import Derived.Test.YtgddpaiandefgaaGreatDoorQRule15
import Derived.Test.YtgddpaiandefgaaGreatDoorQRule17
import Derived.Test.YtgddpaiandefgaaGreatDoorQRule18
import Derived.Test.YtgddpaiandefgaaGreatDoorQRule19
import Derived.Test.YtgddpaiandefgaaGreatDoorQRule7
set_option linter.unusedVariables false
set_option maxRecDepth 100000
namespace Go.Proofs.YtgddpaiandefgaaGreatDoor
open Go.RowKit
theorem XqH (a:Option Addr) (cap fk:Nat) (zs:List Int) (caps:List Value) (p:Int→Bool) (w:World) (hr:Rd .i64 w a zs) (hl:zs.length≤9223372036854775807)
 (hf:∀ x,x ∈ zs→Xan Tryz.prog fk (.int .i64 x::caps).toArray w (Xbo (.bool (p x)) w)) :
 Xan Tryz.prog 152 #[.slice a zs.length cap,.func (.func fk) #[] caps.toArray] w (Xbo (.int .i64 (idx p zs)) w):=by
 refine ζe Tryz.func152 Tryz.ntmps152 rfl ?_;refine Xay.loop (α:=Nat) (fun k => [(0,false,.slice a zs.length cap),(1,false,.func (.func fk) #[] caps.toArray),(7,false,.int .i64 zs.length),(8,false,.int .i64 k)])
  (fun k w'=>w'=w∧k≤zs.length ∧ ∀ j (h:j<zs.length),j<k→p zs[j]=false) (fun k=>zs.length - k) 0 ⟨rfl,rfl,rfl,rfl,trivial⟩ ⟨rfl,Nat.zero_le _,fun _ _ h=>by omega⟩ ?_
 rintro k o ⟨i,q,d⟩ ih;refine ζa rfl (ζg rfl (fun h => ?_) fun h => ?_)
 ·have c:k<zs.length:=by simpa using h
  obtain ⟨b,off,rfl,l⟩:=hr k c;rw [Xgw c] at l;subst i;refine ζi k rfl (ζk rfl l rfl (ζw (hf _ (List.getElem_mem c)) rfl (ζg rfl (fun f => ?_) fun f => ?_)))
  ·exact ζr Tryz.func152 rfl ⟨Xib (XhW c d f).symm,rfl⟩
  ·refine ζj rfl ?_;exact ih (k+1) _ _ ⟨rfl,c,fun j g m=>by
    by_cases e:j=k
    ·subst e; exact f
    ·exact d j g (by omega)⟩ (by omega) ⟨rfl,rfl,rfl,rfl,trivial⟩
 ·have n:k=zs.length:=by simp at h; omega
  subst i;exact ζr Tryz.func152 rfl ⟨Xib (XhY (fun j g=>d j g (by omega))).symm,rfl⟩
theorem XqD (a:Option Addr) (cap fk:Nat) (zs:List Int) (caps:List Value) (p:Int→Bool) (w:World) (hr:Rd .i64 w a zs) (hl:zs.length≤9223372036854775807)
 (hf:∀ x,x ∈ zs→Xan Tryz.prog fk (.int .i64 x::caps).toArray w (Xbo (.bool (p x)) w)) :
 Xan Tryz.prog 142 #[.slice a zs.length cap,.func (.func fk) #[] caps.toArray] w (Xbo (.bool (zs.any p)) w):=by
 exact ζe Tryz.func142 Tryz.ntmps142 rfl (ζw (XqH a cap fk zs caps p w hr hl hf) rfl (ζr Tryz.func142 rfl ⟨XdL (by rw [Bool.eq_iff_iff]; simp only [decide_eq_true_eq]; exact XhZ),rfl⟩))
theorem XqI (a:Option Addr) (cap:Nat) (bs:List Bool) (x:Bool) (w:World) (hr:RdB w a bs) (hl:bs.length≤9223372036854775807) :
 Xan Tryz.prog 211 #[.slice a bs.length cap,.bool x] w (Xbo (.int .i64 (idx (fun y=>x == y) bs)) w):=by
 refine ζe Tryz.func211 Tryz.ntmps211 rfl ?_;refine Xay.loop (α:=Nat) (fun k => [(0,false,.slice a bs.length cap),(1,false,.bool x),(7,false,.int .i64 bs.length),(8,false,.int .i64 k)])
  (fun k w'=>w'=w∧k≤bs.length ∧ ∀ j (h:j<bs.length),j<k→(x == bs[j])=false) (fun k=>bs.length - k) 0 ⟨rfl,rfl,rfl,rfl,trivial⟩ ⟨rfl,Nat.zero_le _,fun _ _ h=>by omega⟩ ?_
 rintro k o ⟨i,q,c⟩ ih;refine ζa rfl (ζg rfl (fun h => ?_) fun h => ?_)
 ·have d:k<bs.length:=by simpa using h
  obtain ⟨b,off,rfl,l⟩:=hr k d;subst i;refine ζi k rfl (ζk rfl l rfl (ζg rfl (fun f => ?_) fun f => ?_))
  ·exact ζr Tryz.func211 rfl ⟨Xib (XhW (p:=fun y=>x == y) d c f).symm,rfl⟩
  ·refine ζj rfl ?_;exact ih (k+1) _ _ ⟨rfl,d,fun j g m=>by
    by_cases e:j=k
    ·subst e; exact f
    ·exact c j g (by omega)⟩ (by omega) ⟨rfl,rfl,rfl,rfl,trivial⟩
 ·have n:k=bs.length:=by simp at h; omega
  subst i;exact ζr Tryz.func211 rfl ⟨Xib (XhY (p:=fun y=>x == y) (fun j g=>c j g (by omega))).symm,rfl⟩
theorem XqE (a:Option Addr) (cap:Nat) (bs:List Bool) (x:Bool) (w:World) (hr:RdB w a bs) (hl:bs.length≤9223372036854775807) :
 Xan Tryz.prog 144 #[.slice a bs.length cap,.bool x] w (Xbo (.bool (bs.any fun y=>x == y)) w):=by
 exact ζe Tryz.func144 Tryz.ntmps144 rfl (ζw (XqI a cap bs x w hr hl) rfl (ζr Tryz.func144 rfl ⟨XdL (by rw [Bool.eq_iff_iff]; simp only [decide_eq_true_eq]; exact XhZ),rfl⟩))
def okL (page:Int):Int→List Int→Bool
 |_,[]=>true
 |ahead,n::r=>decide (8≤n) && (n % 8 == 0) && decide (n≤page) && decide (ahead<n) && okL page n r
def XeM (zs:List Int) (page:Int):Bool:=decide (0<zs.length) && decide (zs.length≤16) && okL page 0 zs
def XeJ (zs:List Int) (page:Int):Int:=if XeM zs page then 0 else 1
theorem Xlh {page ahead:Int} {zs:List Int} {k:Nat} (h:k<zs.length):okL page ahead (zs.drop k)=(decide (8≤zs[k]) && (zs[k] % 8 == 0) && decide (zs[k]≤page) && decide (ahead<zs[k]) && okL page zs[k] (zs.drop (k+1))):=by
 rw [List.drop_eq_getElem_cons h]; rfl
theorem Xli {page ahead:Int} {zs:List Int} {k:Nat} (h:zs.length≤k):okL page ahead (zs.drop k)=true:=by
 rw [List.drop_eq_nil_of_le h]; rfl
theorem XeK {zs:List Int} {page:Int} (h:XeM zs page=false):XeJ zs page=1:=by unfold XeJ; rw [h]; rfl
theorem XeL {zs:List Int} {page:Int} (h:XeM zs page=true):XeJ zs page=0:=by unfold XeJ; rw [h]; rfl
theorem Xlj {page:Int}:∀ {zs:List Int} {ahead:Int},okL page ahead zs=true → ∀ i (h:i<zs.length),8≤zs[i]∧zs[i] % 8=0∧zs[i]≤page∧ahead<zs[i] ∧ ∀ j (hj:j<i),zs[j]<zs[i]
 |n::r,ahead,h,i,a=>by
  simp only [okL,Bool.and_eq_true,decide_eq_true_eq,beq_iff_eq] at h;obtain ⟨⟨⟨⟨b,c⟩,d⟩,e⟩,f⟩:=h;cases i with
  |zero=>exact ⟨b,c,d,e,fun j hj=>by omega⟩
  |succ i =>
   obtain ⟨g,k,l,m,o⟩:=Xlj f i (by simpa using a);refine ⟨g,k,l,by simp only [List.getElem_cons_succ]; omega,fun j hj => ?_⟩;cases j with
   |zero=>exact m
   |succ j=>exact o j (by omega)
theorem XeO {zs:List Int} {page:Int} (h:XeM zs page=true):0<zs.length∧zs.length≤16:=by
 unfold XeM at h; simp only [Bool.and_eq_true,decide_eq_true_eq] at h; exact h.1
theorem XeN {zs:List Int} {page:Int} (h:XeM zs page=true) (i:Nat) (hi:i<zs.length):8≤zs.getD i 0∧zs.getD i 0 % 8=0∧zs.getD i 0≤page:=by
 unfold XeM at h; simp only [Bool.and_eq_true,decide_eq_true_eq] at h;obtain ⟨a,b,c,_⟩:=Xlj h.2 i hi;rw [Xgw hi]; exact ⟨a,b,c⟩
theorem XeP (a:Option Addr) (cap:Nat) (zs:List Int) (page:Int) (w:World) (hr:Rd .i64 w a zs) (hl:zs.length≤9223372036854775807) :
 Xan Tryz.prog 141 #[.slice a zs.length cap,.int .i64 page] w (Xbo (.int .i64 (XeJ zs page)) w):=by
 refine ζe Tryz.func141 Tryz.ntmps141 rfl (ζg rfl (fun l => ?_) fun l => ?_)
 ·have d:0<zs.length:=by simpa using l
  by_cases f:zs.length≤16
  ·refine Xay.knowB (t:=5) rfl (decide_eq_true (by omega)) ?_;have p:XeM zs page=okL page 0 (zs.drop 0):=by unfold XeM; rw [decide_eq_true d,decide_eq_true f]; simp
   refine Xay.loop (α:=Nat × Int) (fun x => [(0,false,.slice a zs.length cap),(1,false,.int .i64 page),(5,true,.bool true),(6,false,.int .i64 x.2),(17,false,.slice a zs.length cap),(18,false,.int .i64 zs.length),(19,false,.int .i64 x.1)])
    (fun x w'=>w'=w∧x.1≤zs.length∧XeM zs page=okL page x.2 (zs.drop x.1)) (fun x=>zs.length - x.1) (0,0) ⟨rfl,rfl,rfl,rfl,rfl,rfl,rfl,trivial⟩ ⟨rfl,Nat.zero_le _,p⟩ ?_
   rintro ⟨k,ahead⟩ v ⟨r,s,e⟩ ih;simp only at s e
   subst r;refine ζa rfl (ζg rfl (fun h => ?_) fun h => ?_)
   ·have g:k<zs.length:=by simpa using h
    rw [Xlh g] at e;obtain ⟨b,off,rfl,c⟩:=hr k g;rw [Xgw g] at c;refine ζi k rfl (ζk rfl c rfl (ζg rfl (fun i => ?_) fun i => ?_))
    ·have u:=of_decide_eq_true i;refine Xay.div hTT rfl (by omega) (XnQ (by omega)) rfl (ζg rfl (fun m => ?_) fun m => ?_)
     ·refine ζg rfl (fun n => ?_) fun n => ?_
      ·refine ζg rfl (fun o => ?_) fun o => ?_
       ·have j:¬ ahead<zs[k]:=by simpa using o
        exact ζy rfl (ζr Tryz.func141 rfl ⟨Xib (XeK (by rw [e,decide_eq_false j]; simp)).symm,rfl⟩)
       ·have j:ahead<zs[k]:=by simpa using o
        exact ζj rfl (ih (k+1,zs[k]) _ _ ⟨rfl,g,by rw [e,decide_eq_true j,show decide (zs[k]≤page)=true from n,m,decide_eq_true u]; rfl⟩ (by simp only; omega) ⟨rfl,rfl,XdK (decide_eq_true j),rfl,rfl,rfl,rfl,trivial⟩)
      ·exact ζr Tryz.func141 rfl ⟨Xib (XeK (by rw [e,show decide (zs[k]≤page)=false from n]; simp)).symm,rfl⟩
     ·exact ζr Tryz.func141 rfl ⟨Xib (XeK (by rw [e,m]; simp)).symm,rfl⟩
    ·exact ζr Tryz.func141 rfl ⟨Xib (XeK (by rw [e,show decide (8≤zs[k])=false from i]; simp)).symm,rfl⟩
   ·have q:zs.length≤k:=by have:=of_decide_eq_false h; omega
    exact ζr Tryz.func141 rfl ⟨Xib (XeL (by rw [e,Xli q])).symm,rfl⟩
  ·refine Xay.knowB (t:=5) rfl (decide_eq_false (by omega)) (Xay.unroll hTT rfl (ζy rfl ?_));obtain ⟨b,off,rfl,c⟩:=hr 0 d;rw [Xgw d] at c;exact ζi 0 rfl (ζk rfl c rfl (ζr Tryz.func141 rfl ⟨Xib (XeK (by unfold XeM; rw [decide_eq_false f]; simp)).symm,rfl⟩))
 ·have d:¬ 0<zs.length:=by have i:=of_decide_eq_false l; omega
  exact Xay.unroll hTT rfl (ζf rfl (ζr Tryz.func141 rfl ⟨Xib (XeK (by unfold XeM; rw [decide_eq_false d]; simp)).symm,rfl⟩))
structure Conf where
 size:Int
 pages:Int
 classes:List Int
 keep:List Int
 step:Int
 slots:Int
 gens:Int
 most:Int
structure Xal where
 ca:Option Addr
 cc:Nat
 ka:Option Addr
 kc:Nat
def Xe5 (c:Conf) (p:Xal):List Value :=
 [.int .i64 c.size,.int .i64 c.pages,.slice p.ca c.classes.length p.cc,.slice p.ka c.keep.length p.kc,.int .i64 c.step,.int .i64 c.slots,.int .i64 c.gens,.int .i64 c.most]
def XaC (x:Int):Prop := -9223372036854775808≤x∧x≤9223372036854775807
structure Xam (w:World) (c:Conf) (p:Xal):Prop where
 classes:Rd .i64 w p.ca c.classes
 keep:Rd .i64 w p.ka c.keep
 lc:c.classes.length≤9223372036854775807
 lk:c.keep.length≤9223372036854775807
 size:XaC c.size
theorem Xam.chg {w w':World} {c:Conf} {p:Xal} (h:Xam w c p) (hw:Chg XaW w w'):Xam w' c p :=
 ⟨h.classes.chg hw,h.keep.chg hw,h.lc,h.lk,h.size⟩
def Xqu (n:Int):Bool:=decide (64≤n) && decide (n≤4096) && (n % 8 == 0)
def Xit (c:Conf):Int:=if Xqu c.size then c.size*(c.size / 8) else 0
def XdH (c:Conf) (k:Int):Int:=if 0≤k∧k<c.classes.length then Xuf c.size (c.classes.getD k.toNat 0) else 0
def Xuj (n a b:Int):Bool:=decide (a≤n) && decide (n≤b)
def Xip (k:Int):Bool := !Xuj k 0 1024
def XjY (c:Conf):Bool :=
 Xqu c.size && Xuj c.pages 1 1024 && XeM c.classes c.size && (decide (c.keep.length=c.classes.length) && !c.keep.any Xip) && Xuj c.step 1 65536 && Xuj c.slots 1 4096 && Xuj c.gens 1 1023 && Xuj c.most 1 (Xit c)
def Xj1 (c:Conf):Int:=if XjY c then 0 else 1
theorem Xqv {n:Int}:Xqu n=true↔64≤n∧n≤4096∧n % 8=0:=by
 unfold Xqu; simp [and_assoc]
theorem Xfb (n a b:Int) (w:World):Xan Tryz.prog 139 #[.int .i64 n,.int .i64 a,.int .i64 b] w (Xbo (.bool (Xuj n a b)) w):=by
 refine ζe Tryz.func139 Tryz.ntmps139 rfl (ζg rfl (fun h => ?_) fun h => ?_)
 ·exact ζr Tryz.func139 rfl ⟨XdL (by unfold Xuj; rw [show decide (a≤n)=true from h]; rfl),rfl⟩
 ·exact ζr Tryz.func139 rfl ⟨XdL (by unfold Xuj; rw [show decide (a≤n)=false from h]; rfl),rfl⟩
theorem Xfa (n:Int) (w:World):Xan Tryz.prog 140 #[.int .i64 n] w (Xbo (.bool (Xqu n)) w):=by
 refine ζe Tryz.func140 Tryz.ntmps140 rfl (ζw (Xfb n 64 4096 w) rfl (ζg rfl (fun h => ?_) fun h => ?_))
 ·have a:0≤n:=by unfold Xuj at h; simp at h; omega
  exact Xay.div hTT rfl (by omega) (XnQ (by omega)) rfl (ζr Tryz.func140 rfl ⟨XdL (by unfold Xqu; rw [show (decide (64≤n) && decide (n≤4096))=true from h]; rfl),rfl⟩)
 ·exact ζr Tryz.func140 rfl ⟨XdL (by unfold Xqu; rw [show (decide (64≤n) && decide (n≤4096))=false from h]; rfl),rfl⟩
theorem Xe7 (c:Conf) (p:Xal) (w:World):Xan Tryz.prog 143 #[.agg (Xe5 c p).toArray] w (Grow (.int .i64 (Xit c)) w):=by
 refine ζe Tryz.func143 Tryz.ntmps143 rfl (ζn rfl fun b g e1 e d j=>ζl e rfl (ζw (Xfa c.size g) rfl (ζg rfl (fun h => ?_) fun h => ?_)))
 ·have a:Xqu c.size=false:=by simpa using h
  exact ζr Tryz.func143 rfl ⟨Xib (by unfold Xit; rw [a]; rfl),d⟩
 ·have a:Xqu c.size=true:=by simpa using h
  have i:=Xqv.1 a;have f:0≤c.size / 8∧c.size / 8≤512:=by omega
  have k:0≤c.size*(c.size / 8):=Int.mul_nonneg (by omega) f.1;have l:=Int.mul_le_mul i.2.1 f.2 f.1 (by omega);exact ζl e rfl (ζl e rfl (Xay.div hTT rfl (by omega) (XnE (by omega) (by omega)) rfl (ζj rfl (ζr Tryz.func143 rfl ⟨Xib (by unfold Xit; rw [a]; rfl),d⟩))))
theorem Xe6 (c:Conf) (p:Xal) (k:Int) (w:World) (hc:Xam w c p):Xan Tryz.prog 149 #[.agg (Xe5 c p).toArray,.int .i64 k] w (Grow (.int .i64 (XdH c k)) w):=by
 have g:=hc.size;unfold XaC at g;refine ζe Tryz.func149 Tryz.ntmps149 rfl (ζn rfl fun b q e1 e a n=>ζg rfl (fun h => ?_) fun h => ?_)
 ·have l:=of_decide_eq_true h;exact ζr Tryz.func149 rfl ⟨Xib (by unfold XdH; rw [if_neg (by omega)]),a⟩
 ·have l:=of_decide_eq_false h;refine ζl e rfl (ζg rfl (fun f => ?_) fun f => ?_)
  ·have m:=of_decide_eq_true f;exact ζr Tryz.func149 rfl ⟨Xib (by unfold XdH; rw [if_neg (by omega)]),a⟩
  ·have m:=of_decide_eq_false f;obtain ⟨r,off,ea,d⟩:=(hc.chg a).classes k.toNat (by omega);obtain ⟨ca,cc,ka,kc⟩:=p;simp only at ea
   subst ea;exact Xay.quiet rfl Xki (by kernel_rfl) (Xa6.adv hTT rfl (Xa6.loadb hTT rfl e rfl rfl (Xa6.loadb hTT rfl e rfl rfl (Xa6.index hTT rfl (j:=k.toNat) (by omega) (by omega) (by first | rfl | omega | (simp; done) | (simp; omega)) rfl (Xa6.load hTT rfl d rfl (Xa6.call hTT rfl (fun w' o=>(Xtx c.size (c.classes.getD k.toNat 0) w' g.2).grow) rfl (Xa6.nil fun s i=>ζa rfl (ζr Tryz.func149 rfl ⟨Xib (by unfold XdH; rw [if_pos (by omega)]),a.trans i⟩))))))))
theorem Xe9 (k:Int) (w:World):Xan Tryz.prog 138 #[.int .i64 k] w (Xbo (.bool (Xip k)) w):=by
 exact ζe Tryz.func138 Tryz.ntmps138 rfl (ζw (Xfb k 0 1024 w) rfl (ζr Tryz.func138 rfl ⟨rfl,rfl⟩))
theorem Xe8 (c:Conf) (p:Xal) (w:World) (hc:Xam w c p):Xan Tryz.prog 84 #[.agg (Xe5 c p).toArray] w (Grow (.int .i64 (Xj1 c)) w):=by
 have B:=hc.lc;have i:=hc.lk;refine ζe Tryz.func84 Tryz.ntmps84 rfl (ζn rfl fun b F e1 d e C => ?_);have g:=hc.chg e;refine Xay.quietF (q:=41) hTT Xki (by kernel_rfl) rfl rfl rfl rfl (Xa6.adv hTT rfl (Xa6.loadb hTT rfl d rfl rfl (Xa6.call hTT rfl (fun w' a=>(Xfa c.size w').grow) rfl (Xa6.loadb hTT rfl d rfl rfl (Xa6.call hTT rfl (fun w' a=>(Xfb c.pages 1 1024 w').grow) rfl (Xa6.loadb hTT rfl d rfl rfl (Xa6.loadb hTT rfl d rfl rfl (Xa6.call hTT rfl (fun w' a=>(XeP p.ca p.cc c.classes c.size w' (g.classes.chg a) B).grow) rfl (Xa6.loadb hTT rfl d rfl rfl (Xa6.loadb hTT rfl d rfl rfl ?_))))))))));have fin:∀ (kk:Bool),(decide (c.keep.length=c.classes.length) && !c.keep.any Xip)=kk → 
  ([Xqu c.size,Xuj c.pages 1 1024,(XeJ c.classes c.size == 0),kk,Xuj c.step 1 65536,Xuj c.slots 1 4096,Xuj c.gens 1 1023,Xuj c.most 1 (Xit c)].any fun y=>false == y) = !XjY c:=by
  intro kk j;unfold XjY;rw [j];have:(XeJ c.classes c.size == 0)=XeM c.classes c.size:=by unfold XeJ; cases XeM c.classes c.size <;> rfl
  rw [this];cases Xqu c.size <;> cases Xuj c.pages 1 1024 <;> cases XeM c.classes c.size <;> cases kk <;> cases Xuj c.step 1 65536 <;> cases Xuj c.slots 1 4096 <;> cases Xuj c.gens 1 1023 <;> cases Xuj c.most 1 (Xit c) <;> rfl
 refine Xa6.fork hTT rfl rfl rfl (fun h => ?_) (fun h => ?_)
 case' refine_1 =>
  refine Xa6.loadb hTT rfl d rfl rfl (Xa6.call hTT rfl (fun w' a=>(XqD p.ka p.kc 138 c.keep [] Xip w' (g.keep.chg a) i (fun x _=>Xe9 x w')).grow) rfl ?_)
 all_goals
  refine Xa6.loadb hTT rfl d rfl rfl (Xa6.call hTT rfl (fun w' a=>(Xfb c.step 1 65536 w').grow) rfl (Xa6.loadb hTT rfl d rfl rfl (Xa6.call hTT rfl (fun w' a=>(Xfb c.slots 1 4096 w').grow) rfl (Xa6.loadb hTT rfl d rfl rfl (Xa6.call hTT rfl (fun w' a=>(Xfb c.gens 1 1023 w').grow) rfl (Xa6.loadb hTT rfl d rfl rfl (Xa6.loads hTT rfl d rfl rfl (Xa6.call hTT rfl (fun w' a=>Xe7 c p w') rfl (Xa6.call hTT rfl (fun w' a=>(Xfb c.most 1 (Xit c) w').grow) rfl (Xa6.build hTT rfl rfl (Xa6.nil fun m G n D o=>ζa rfl (ζs o rfl fun r s t E=>Xay.slice hTT rfl (l:=0) (h:=8) (by first | rfl | omega | simp [loV]) (by first | rfl | omega | simp [hiV]) (by omega) (by omega) rfl ?_))))))))))));have u:RdB r (some ⟨m,0,none⟩) [Xqu c.size,Xuj c.pages 1 1024,(XeJ c.classes c.size == 0),(decide (c.keep.length=c.classes.length) && !c.keep.any Xip),Xuj c.step 1 65536,Xuj c.slots 1 4096,Xuj c.gens 1 1023,Xuj c.most 1 (Xit c)]:=by
   have v:(c.keep.length:Int)=c.classes.length↔c.keep.length=c.classes.length:=by omega
   refine RdB.of s ?_;simp only [v,beq_iff_eq,beq_eq_false_iff_ne,ne_eq] at h;simp [h]
  refine ζw (XqE (some ⟨m,0,none⟩) 8 _ false r u (by simp)) rfl ?_;have z:=(e.trans n).since t (fun k j A=>by have:=e.size; subst A; omega);refine ζg rfl (fun f => ?_) fun f => ?_
  ·exact ζr Tryz.func84 rfl ⟨Xib (by rw [fin _ rfl] at f; unfold Xj1; rw [if_neg (by simpa using f)]),z⟩
  ·exact ζr Tryz.func84 rfl ⟨Xib (by rw [fin _ rfl] at f; unfold Xj1; rw [if_pos (by simpa using f)]),z⟩
def XaO (w:World) (b:Nat) (total lap:Int):Prop:=w.heap[b]? = some (.cells #[.int .i64 total,.int .i64 lap] 197 (0,0))∧0≤lap∧lap≤total∧total≤4611686018427387904
def Xek (total n:Int):Int:=if n<1 then total else total+min n (4611686018427387904 - total)
theorem Xem {total n:Int} (h:0≤total∧total≤4611686018427387904):total≤Xek total n∧Xek total n≤4611686018427387904:=by
 unfold Xek; split <;> omega
abbrev ptr (b:Option Nat):Value := .pointer (b.map fun b=>⟨b,0,none⟩)
theorem Xkc (w:World):Xan Tryz.prog 86 #[] w (fun v w'=>v = .pointer (some ⟨w.heap.size,0,none⟩)∧XaO w' w.heap.size 0 0∧Chg XaW w w'∧w'.heap.size=w.heap.size+1):=by
 refine ζe Tryz.func86 Tryz.ntmps86 rfl (ζb rfl (ζn rfl fun b e e1 d a c => ?_));subst e1;exact ζr Tryz.func86 rfl ⟨rfl,⟨d,by omega,by omega,by omega⟩,a,c⟩
theorem Xkd (b:Nat) (total lap:Int) (w:World) (h:XaO w b total lap):Xan Tryz.prog 212 #[.pointer (some ⟨b,0,none⟩)] w (Xbo (.int .i64 (4611686018427387904 - total)) w):=by
 obtain ⟨a,c,d,e⟩:=h;exact ζe Tryz.func212 Tryz.ntmps212 rfl (ζl a rfl (ζj rfl (ζr Tryz.func212 rfl ⟨rfl,rfl⟩)))
theorem XaO.chg {w w':World} {b:Nat} {total lap:Int} (h:XaO w b total lap) (hc:Chg XaW w w'):XaO w' b total lap:=⟨hc.heap' h.1,h.2⟩
theorem Xj8 (b:Nat) (total lap n:Int) (w:World) (h:XaO w b total lap):Xan Tryz.prog 146 #[.pointer (some ⟨b,0,none⟩),.int .i64 n] w (fun _ w'=>XaO w' b (Xek total n) lap∧Chg (fun x=>x=b) w w'):=by
 have g:=h;obtain ⟨i,m,q,o⟩:=h;refine ζe Tryz.func146 Tryz.ntmps146 rfl (ζg rfl (fun f => ?_) fun f => ?_)
 ·exact ζr Tryz.func146 rfl ⟨by unfold Xek; rw [if_pos (of_decide_eq_true f)]; exact g,Chg.refl _ _⟩
 ·have j:=of_decide_eq_false f;refine ζd 9 XaW (by kernel_rfl) rfl fun a=>δl a i rfl (δw a (fun w' k=>Xkd b total lap w' ((show XaO w b total lap from g).chg k)) rfl (δj a rfl (δn a rfl fun r c=>ζs (c.heap' i) rfl fun s d l p => ?_)));have e:total+(if 4611686018427387904 - total<n then 4611686018427387904 - total else n)=Xek total n:=by unfold Xek; rw [if_neg j]; split <;> omega
  rw [e] at d;have:=Xem (n:=n) ⟨by omega,o⟩;exact ζr Tryz.func146 rfl ⟨⟨d,m,by omega,by omega⟩,(Chg.refl _ w).trans ((c.mono (fun _ _ h=>h.elim)).trans l)⟩
theorem Xj9 (n:Int) (w:World):Xan Tryz.prog 146 #[.pointer none,.int .i64 n] w (fun _ w'=>w=w'):=by
 exact ζe Tryz.func146 Tryz.ntmps146 rfl (ζr Tryz.func146 rfl rfl)
structure RmM where
 shs:List Sm
 pl:PlM
 lg:List (Nat × List Nat)
 tot:Int
def Xoh (M:RmM) (k:Int):Option Sm:=if 0≤k then M.shs[k.toNat]? else none
def XhB (p:PlM):Nat:=Xmy p.own
def Xez (p q:PlM):Int:=3+(max (XhB q:Int) (XhB p) - min (XhB q:Int) (XhB p))*4
def XoN (M:RmM) (k:Nat) (x:Sm) (q:PlM):RmM:={M with shs:=M.shs.set k x,pl:=q}
def XoL (M:RmM) (k:Nat) (x:Sm) (q:PlM):RmM:={M with shs:=M.shs.set k x,pl:=q,tot:=Xek M.tot (Xez M.pl q)}
def XiQ (l:List (Nat × List Nat)):List Nat:=l.flatMap fun e=>e.1::e.2
def XiZ (l:List (Nat × List Nat)):Nat:=(l.map fun e=>e.2.length+1).sum
def XpL (l:List Sm):Nat:=(l.map fun x=>x.pg.length).sum
structure RmM.Ok (c:Conf) (M:RmM):Prop where
 n:M.shs.length=c.classes.length
 each:∀ (k:Nat) (x:Sm),M.shs[k]? = some x→x.cls=(k:Int)∧(x.blocks:Int)=XdH c (k:Int)
 own:(M.pl.own.length:Int)=c.pages
 lg:∀ m ∈ XiQ M.lg,m<M.pl.own.length∧M.pl.own.getD m 0=(M.shs.length:Int)
 nd:(XiQ M.lg).Nodup
 sum:XhB M.pl=XpL M.shs+XiZ M.lg
 tot:0≤M.tot∧M.tot≤4611686018427387904
def Eff (p q:PlM) (c:Int):Prop:=q=p∨(∃ n r,p.free=n::r∧q=p.take c) ∨ ∃ n,n<p.own.length∧p.own.getD n 0=c∧q=p.give n
theorem XsN {p:PlM} {n:Nat} {r:List Nat} (h:p.free=n::r) (c:Int):(p.take c).own=p.own.set n c∧(p.take c).free=r:=by unfold PlM.take; rw [h]; exact ⟨rfl,rfl⟩
theorem Eff.own {p q:PlM} {c:Int} (h:Eff p q c) (hg:p.Good):q.own.length=p.own.length ∧ ∀ m d,d≠c→0≤d→p.own.getD m 0=d→m<p.own.length→q.own.getD m 0=d:=by
 rcases h with rfl | ⟨n,r,a,rfl⟩ | ⟨n,j,f,rfl⟩
 ·exact ⟨rfl,fun m d _ _ h _=>h⟩
 ·rw [(XsN a c).1];refine ⟨List.length_set,fun m d b g hm i => ?_⟩;rw [XgG];obtain ⟨k,l⟩:=hg.free n (by rw [a]; simp);rw [if_neg (fun ⟨e,_⟩=>by subst e; omega)];exact hm
 ·refine ⟨List.length_set,fun m d b g hm i => ?_⟩;show (p.own.set n (-1)).getD m 0=d
  rw [XgG,if_neg (fun ⟨e,_⟩=>by subst e; exact b (hm.symm.trans f))];exact hm
theorem Eff.of {p q:PlM} {c:Int} (h:Eff p q c) (hg:p.Good) {y:Sm} (hy:y.Of p) (hc:y.cls≠c) (h0:0≤y.cls):y.Of q:=fun e b=>by
 obtain ⟨a,d⟩:=hy e b;obtain ⟨f,g⟩:=h.own hg;exact ⟨by rw [f]; exact a,g _ _ hc h0 d a⟩
theorem XpM:∀ {l:List Sm} {k:Nat} {x x':Sm},l[k]? = some x→XpL (l.set k x')+x.pg.length=XpL l+x'.pg.length
 |a::r,0,x,x',h=>by
  cases h
  unfold XpL;simp only [List.set_cons_zero,List.map_cons,List.sum_cons];omega
 |a::r,k+1,x,x',h=>by
  have:=XpM (l:=r) (k:=k) (x:=x) (x':=x') h;unfold XpL at *;simp only [List.set_cons_succ,List.map_cons,List.sum_cons];omega
theorem RmM.Ok.set {c:Conf} {M:RmM} (h:M.Ok c) (hg:M.pl.Good) {k:Nat} {x x':Sm} {q:PlM} (hx:M.shs[k]? = some x) (hE:Eff M.pl q x.cls) (hc:x'.cls=x.cls) (hb:x'.blocks=x.blocks) (hs:XhB q+x.pg.length=XhB M.pl+x'.pg.length):(XoN M k x' q).Ok c:=by
 have b:=(List.getElem?_eq_some_iff.1 hx).1;obtain ⟨e1,e2⟩:=h.each k x hx;obtain ⟨d,f⟩:=hE.own hg;refine ⟨by show (M.shs.set k x').length=_; rw [List.length_set]; exact h.n,fun j y a => ?_,by show (q.own.length:Int)=_; rw [d]; exact h.own,fun m hm => ?_,h.nd,?_,h.tot⟩
 ·replace a:(M.shs.set k x')[j]? = some y:=a;by_cases e:k=j
  ·subst e;rw [List.getElem?_set_self b] at a; cases a;exact ⟨hc.trans e1,by rw [hb]; exact e2⟩
  ·rw [List.getElem?_set_ne e] at a; exact h.each j y a
 ·obtain ⟨g,i⟩:=h.lg m hm;refine ⟨by show m<q.own.length; omega,?_⟩;show q.own.getD m 0=((M.shs.set k x').length:Int)
  rw [List.length_set];exact f _ _ (by rw [e1]; omega) (by omega) i g
 ·have:=XpM (x':=x') hx;have:=h.sum;show XhB q=XpL (M.shs.set k x')+XiZ M.lg
  omega
theorem Xen {t n:Int} (h:0≤t∧t≤4611686018427387904):0≤Xek t n∧Xek t n≤4611686018427387904:=by have:=Xem (n:=n) h; omega
theorem XsJ (x:Sm) (pl:PlM) (who:Int) (hg:pl.Good) (hcl:0≤x.cls):Eff pl (Xp0 x pl who) x.cls∧(XpW x pl who).cls=x.cls∧(XpW x pl who).blocks=x.blocks∧XhB (Xp0 x pl who)+x.pg.length=XhB pl+(XpW x pl who).pg.length:=by
 rcases Xp1 x pl who with ⟨_,a,b⟩ | ⟨_,_,⟨n,r,_,a,b,_⟩ | ⟨n,r,_,c,a,b,_⟩⟩
 ·rw [a,b]; exact ⟨.inl rfl,rfl,rfl,rfl⟩
 ·rw [a,b]; exact ⟨.inl rfl,rfl,rfl,by show _=_+(XqW _ _ _).length; rw [XqY]⟩
 ·rw [a,b];refine ⟨.inr (.inl ⟨n,r,c,rfl⟩),rfl,rfl,?_⟩;show _=_+(XqW (x.pg++_) _ _).length
  rw [XqY,List.length_append];obtain ⟨d,e⟩:=hg.free n (by rw [c]; simp);have:=XmB (v:=x.cls) d;rw [if_pos e,if_neg (by omega)] at this;unfold XhB;rw [(XsN c _).1];simp only [List.length_cons,List.length_nil];omega
theorem XgJ (x:Sm) (pl:PlM) (n i:Int) (hok:x.Ok) (hof:x.Of pl):Eff pl (XpJ x pl n i) x.cls∧(XpH x n i).cls=x.cls∧(XpH x n i).blocks=x.blocks∧XhB (XpJ x pl n i)+x.pg.length=XhB pl+(XpH x n i).pg.length:=by
 unfold XpH XpJ;split
 ·rename_i p e
  obtain ⟨k,f,hm⟩:=XqU e;rw [f];by_cases c:Xme p i=0
  ·simp only [c,if_true,true_and,Int.toNat_natCast];unfold Sm.giveAt;simp only
   by_cases a:Xmy (Xmd p i)=0
   ·rw [if_pos a,if_pos a];obtain ⟨b,d⟩:=hof _ hm;simp only at b d
    have g:=hok.cls;have:=XmB (v := -1) b;rw [if_neg (by omega),if_pos rfl] at this;have h:=(Xq4 hok.nodup hm).2;refine ⟨.inr (.inr ⟨k,b,d,rfl⟩),rfl,rfl,?_⟩;show Xmy (pl.own.set k (-1))+_=Xmy pl.own+(XqJ x.pg k).length
    omega
   ·rw [if_neg a,if_neg a];exact ⟨.inl rfl,rfl,rfl,by show _=_+(XqW _ _ _).length; rw [XqY]⟩
  ·simp only [c,if_false,false_and]; refine ⟨.inl rfl,?_,?_,?_⟩ <;> first | trivial | rfl
 ·exact ⟨.inl rfl,rfl,rfl,rfl⟩
theorem Xlu (x:Sm) (pl:PlM) (n i who:Int):Eff pl pl x.cls∧(XpN x n i who).cls=x.cls∧(XpN x n i who).blocks=x.blocks∧XhB pl+x.pg.length=XhB pl+(XpN x n i who).pg.length:=by
 unfold XpN;split
 ·exact ⟨.inl rfl,rfl,rfl,by show _=_+(XqW _ _ _).length; rw [XqY]⟩
 ·exact ⟨.inl rfl,rfl,rfl,rfl⟩
def Xb6 (n q:Int):Int:=if XjR n q=0∨XjR n q=9223372036854775807 then 0 else XjR n q+1
def XmF (zs:List Int) (n:Int):Int:=if n<1 then -1 else idx (fun s=>decide (n≤s)) zs
theorem XjS {n q:Int} (hn:n≤9223372036854775807):0≤XjR n q∧XjR n q≤9223372036854775807:=by
 unfold XjR;split
 ·omega
 ·have a:0≤(n - 1) / q:=Int.ediv_nonneg (by omega) (by omega);have b:(n - 1) / q≤n - 1:=Int.ediv_le_self _ (by omega);omega
theorem Xec (n q:Int) (w:World) (hn:n≤9223372036854775807):Xan Tryz.prog 198 #[.int .i64 n,.int .i64 q] w (Xbo (.int .i64 (XjR n q)) w):=by
 exact ζe Tryz.func198 Tryz.ntmps198 rfl (ζw (Xtw n q w hn) rfl (ζr Tryz.func198 rfl ⟨rfl,rfl⟩))
theorem Xea (n q:Int) (w:World) (hn:n≤9223372036854775807):Xan Tryz.prog 154 #[.int .i64 n,.int .i64 q] w (Xbo (.int .i64 (Xb6 n q)) w):=by
 have f:=XjS (q:=q) hn;refine ζe Tryz.func154 Tryz.ntmps154 rfl (ζw (Xec n q w hn) rfl (ζg rfl (fun a => ?_) fun a => ?_))
 ·have e:Xb6 n q=0:=by unfold Xb6; rw [if_pos (.inl (of_decide_eq_true a))]
  exact ζr Tryz.func154 rfl ⟨Xib e.symm,rfl⟩
 ·have c:=of_decide_eq_false a;refine ζg rfl (fun b => ?_) fun b => ?_
  ·have e:Xb6 n q=0:=by unfold Xb6; rw [if_pos (.inr (of_decide_eq_true b))]
   exact ζr Tryz.func154 rfl ⟨Xib e.symm,rfl⟩
  ·have d:=of_decide_eq_false b;have e:Xb6 n q=XjR n q+1:=by unfold Xb6; rw [if_neg (by omega)]
   exact ζj rfl (ζr Tryz.func154 rfl ⟨Xib e.symm,rfl⟩)
abbrev Xia (w:World) (b:Nat) (n:Int):Prop:=w.heap[b]? = some (.cells ([.int .i64 n]:List Value).toArray 3 (0,0))
theorem XeR (x n:Int) (b:Nat) (w:World) (h:Xia w b n):Xan Tryz.prog 153 #[.int .i64 x,.pointer (some ⟨b,0,none⟩)] w (Xbo (.bool (decide (n≤x))) w):=by
 exact ζe Tryz.func153 Tryz.ntmps153 rfl (ζl h rfl (ζr Tryz.func153 rfl ⟨rfl,rfl⟩))
theorem XeQ (a:Option Addr) (cap:Nat) (zs:List Int) (n:Int) (w:World) (hr:Rd .i64 w a zs) (hl:zs.length≤9223372036854775807):Xan Tryz.prog 94 #[.slice a zs.length cap,.int .i64 n] w (Grow (.int .i64 (XmF zs n)) w):=by
 refine ζe Tryz.func94 Tryz.ntmps94 rfl (ζn rfl fun b d e1 f c g=>ζl f rfl (ζg rfl (fun h => ?_) fun h => ?_))
 ·have e:XmF zs n = -1:=by unfold XmF; rw [if_pos (of_decide_eq_true h)]
  exact ζr Tryz.func94 rfl ⟨Xib e.symm,c⟩
 ·have e:XmF zs n=idx (fun s=>decide (n≤s)) zs:=by unfold XmF; rw [if_neg (of_decide_eq_false h)]
  exact ζw (XqH a cap 153 zs [.pointer (some ⟨b,0,none⟩)] (fun s=>decide (n≤s)) d (hr.chg c) hl (fun x _=>XeR x n b d f)) rfl (ζr Tryz.func94 rfl ⟨Xib e.symm,c⟩)
def XoR (M:RmM) (k who:Int):Int:=match Xoh M k with | none=>1 | some x=>XpY x M.pl who
def XoS (M:RmM) (k who:Int):Int:=match Xoh M k with | none=>0 | some x=>XpZ x M.pl who
def XoQ (M:RmM) (k who:Int):Int:=match Xoh M k with | none=>0 | some x=>XpX x M.pl who
def XoP (M:RmM) (k who:Int):RmM:=match Xoh M k with | none=>M | some x=>if XpY x M.pl who=0 then XoL M k.toNat (XpW x M.pl who) (Xp0 x M.pl who) else M
def Xop (M:RmM) (k n i:Int):Int:=match Xoh M k with | none=>1 | some x=>XpI x n i
def Xoo (M:RmM) (k n i:Int):RmM:=match Xoh M k with | none=>M | some x=>if XpI x n i=0 then XoL M k.toNat (XpH x n i) (XpJ x M.pl n i) else M
def Xov (M:RmM) (k n i who:Int):Int:=match Xoh M k with | none=>1 | some x=>XpO x n i who
def Xou (M:RmM) (k n i who:Int):RmM:=match Xoh M k with | none=>M | some x=>XoN M k.toNat (XpN x n i who) M.pl
def Xox (M:RmM) (k n i:Int):Int:=match Xoh M k with | none => -1 | some x=>XpP x n i
def Xot (M:RmM) (k:Int):Nat:=match Xoh M k with | none=>0 | some x=>x.opn.length
def XoH (M:RmM) (k:Int):Bool:=match Xoh M k with | none=>false | some x=>XpS x
def XoI (M:RmM) (k:Int):List Value:=match Xoh M k with | none=>Xm5 0 0 0 0 | some x=>XpT x
def Xos (c:Conf) (M:RmM) (size:Int):Int:=if XmF c.classes size = -1 then Xb6 size c.size else 1 - min (Xot M (XmF c.classes size):Int) 1
def Xog (c:Conf) (M:RmM) (size:Int):Int:=if size<1∨c.most<size then 3 else if (M.pl.free.length:Int)<Xos c M size then 5 else 0
structure PlcM where
 cls:Int
 page:Int
 idx:Int
 pages:List Int
def XkJ (l:List Nat):List Int:=l.map fun (n:Nat)=>(n:Int)
def XmX (p:PlM) (who:Int):Nat→PlM
 |0=>p
 |i+1=>XmT (XmX p who i) who
def XmO (p:PlM) (l:List Nat):PlM:=l.foldl (fun q (n:Nat)=>XmL q (n:Int)) p
def Xob (M:RmM) (many:Nat):RmM:={M with pl:=XmX M.pl M.shs.length many,lg:=M.lg ++ [(M.pl.free.getD 0 0,(M.pl.free.take many).tail)],tot:=Xek M.tot (many*4+(many - 1))}
def XoD (c:Conf) (M:RmM) (who size:Int):Int:=if who<0 then 1 else if Xog c M size≠0 then Xog c M size else if XmF c.classes size = -1 then 0 else XoR M (XmF c.classes size) who
def XoE (c:Conf) (M:RmM) (who size:Int):PlcM:=if who<0 then ⟨0,0,0,[]⟩ else if Xog c M size≠0 then ⟨0,0,0,[]⟩ else if XmF c.classes size = -1 then ⟨-1,(M.pl.free.getD 0 0:Nat),0,XkJ (M.pl.free.take (Xb6 size c.size).toNat).tail⟩ else ⟨XmF c.classes size,XoS M (XmF c.classes size) who,XoQ M (XmF c.classes size) who,[]⟩
def XoC (c:Conf) (M:RmM) (who size:Int):RmM:=if who<0 then M else if Xog c M size≠0 then M else if XmF c.classes size = -1 then Xob M (Xb6 size c.size).toNat else XoP M (XmF c.classes size) who
def XiV:List (Nat × List Nat)→Int→Option (List Nat)
 |[],_=>none
 |(m,r)::t,n=>if (m:Int)=n then some r else XiV t n
def XiS (l:List (Nat × List Nat)) (n:Nat):List (Nat × List Nat):=l.filter fun e=>e.1 != n
def Xor (M:RmM) (n:Nat) (r:List Nat):RmM:={M with pl:=XmO M.pl (n::r),lg:=XiS M.lg n,tot:=Xek M.tot ((r.length+1:Int)*4+r.length)}
def Xod (M:RmM) (q:PlcM):Int:=if q.cls ≠ -1 then Xop M q.cls q.page q.idx else match XiV M.lg q.page with | none=>1 | some r=>if XkJ r=q.pages then 0 else 1
def Xoc (M:RmM) (q:PlcM):RmM:=if q.cls ≠ -1 then Xoo M q.cls q.page q.idx else match XiV M.lg q.page with | none=>M | some r=>if XkJ r=q.pages then Xor M q.page.toNat r else M
theorem XmW {p:PlM} {who:Int} (hw:0≤who) {n:Nat} {r:List Nat} (hf:p.free=n::r):XmU p who=0∧XmV p who=n∧XmT p who=p.take who:=by
 have e:XmU p who=0:=by unfold XmU; rw [if_neg (by omega),hf]; rfl
 refine ⟨e,?_,?_⟩
 ·unfold XmV; rw [if_pos e,hf]; rfl
 ·unfold XmT; rw [if_pos e]
theorem XmZ {p:PlM} {who:Int} (hw:0≤who) (hg:p.Good):∀ i,i≤p.free.length→(XmX p who i).Good∧(XmX p who i).free=p.free.drop i∧(XmX p who i).own.length=p.own.length∧XhB (XmX p who i)=XhB p+i ∧ ∀ m,m<p.own.length→(XmX p who i).own.getD m 0=if m ∈ p.free.take i then who else p.own.getD m 0
 |0,_=>⟨hg,by simp [XmX],rfl,rfl,fun m _=>by simp [XmX]⟩
 |i+1,r=>by
  obtain ⟨d,g,j,s,k⟩:=XmZ hw hg i (by omega);have b:i<p.free.length:=by omega
  have a:(XmX p who i).free=p.free[i]::p.free.drop (i+1):=by rw [g]; exact List.drop_eq_getElem_cons b
  obtain ⟨_,_,e⟩:=XmW hw a;have e1:XmX p who (i+1)=(XmX p who i).take who:=e;obtain ⟨c,l⟩:=XsN a who;obtain ⟨f,n⟩:=d.free p.free[i] (by rw [a]; exact List.mem_cons_self);have o:=XmB (v:=who) f;rw [if_pos n,if_neg (by omega)] at o;refine ⟨e1▸d.take hw a,by rw [e1]; exact l,by rw [e1,c,List.length_set]; exact j,?_,fun m hm => ?_⟩
  ·unfold XhB at *; rw [e1,c]; omega
  ·rw [e1,c,XgG,k m hm];have q:p.free.take (i+1)=p.free.take i ++ [p.free[i]]:=by rw [List.take_add_one,List.getElem?_eq_getElem b]; rfl
   rw [q];by_cases e2:p.free[i]=m
   ·subst e2;rw [if_pos ⟨rfl,f⟩,if_pos (List.mem_append.2 (.inr (List.mem_singleton.2 rfl)))]
   ·rw [if_neg (fun h=>e2 h.1)];by_cases e3:m ∈ p.free.take i
    ·rw [if_pos e3,if_pos (List.mem_append.2 (.inl e3))]
    ·rw [if_neg e3,if_neg (by simp only [List.mem_append,List.mem_singleton]; rintro (h | h); exact e3 h; exact e2 h.symm)]
theorem XmY {p:PlM} {who:Int} (hw:0≤who) (hg:p.Good) {i:Nat} (hi:i≤p.free.length) {x:Sm} (hc:0≤x.cls) (hx:x.Of p):x.Of (XmX p who i):=fun e a=>by
 obtain ⟨b,c⟩:=hx e a;obtain ⟨_,_,f,_,d⟩:=XmZ hw hg i hi;refine ⟨by omega,?_⟩;rw [d _ b,if_neg (fun hm=>by have:=(hg.free _ (List.mem_of_mem_take hm)).2; omega)];exact c
theorem XmN {p:PlM} {n:Nat} (hn:n<p.own.length) (ho:p.own.getD n 0 ≠ -1):XmM p n=0∧XmL p n=p.give n:=by
 have a:Xmj p.own n=p.own.getD n 0:=by
  unfold Xmj; rw [if_pos (by omega)]; simp only [Int.toNat_natCast]; rw [List.getD_eq_getElem?_getD,List.getD_eq_getElem?_getD,List.getElem?_eq_getElem hn]; rfl
 have e:XmM p n=0:=by unfold XmM; rw [if_neg (by omega),a,if_neg ho]
 exact ⟨e,by unfold XmL; rw [if_pos e]; rfl⟩
theorem XmQ:∀ {l:List Nat} {p:PlM},p.Good→l.Nodup→(∀ m ∈ l,m<p.own.length∧p.own.getD m 0 ≠ -1)→(XmO p l).Good∧(XmO p l).own.length=p.own.length∧XhB (XmO p l)+l.length=XhB p ∧ ∀ m,(XmO p l).own.getD m 0=if m ∈ l then -1 else p.own.getD m 0
 |[],p,f,_,_=>⟨f,rfl,rfl,fun m=>by simp [XmO]⟩
 |n::r,p,f,j,h=>by
  obtain ⟨i,k⟩:=List.nodup_cons.1 j;obtain ⟨c,g⟩:=h n (by simp);obtain ⟨_,e⟩:=XmN c g;have e1:XmO p (n::r)=XmO (p.give n) r:=by unfold XmO; rw [List.foldl_cons,e]
  have o:=XmB (v := -1) c;rw [if_neg g,if_pos rfl] at o;have d:(p.give n).own=p.own.set n (-1):=rfl;obtain ⟨q,s,t,u⟩:=XmQ (p:=p.give n) (l:=r) (f.give c g) k (fun m hm=>by
   obtain ⟨a,b⟩:=h m (by simp [hm]);rw [d,List.length_set,XgG,if_neg (fun ⟨e,_⟩=>i (e▸hm))];exact ⟨a,b⟩)
  rw [e1];refine ⟨q,by rw [s,d,List.length_set],by unfold XhB at *; rw [d] at t; simp only [List.length_cons]; omega,fun m => ?_⟩;rw [u,d,XgG];by_cases e2:n=m
  ·subst e2;rw [if_neg i,if_pos ⟨rfl,c⟩,if_pos (by simp)]
  ·by_cases e3:m ∈ r
   ·rw [if_pos e3,if_pos (List.mem_cons_of_mem _ e3)]
   ·rw [if_neg e3,if_neg (fun h=>e2 h.1),if_neg (fun h=>(List.mem_cons.1 h).elim (fun h=>e2 h.symm) e3)]
theorem XmP {p:PlM} (hg:p.Good) {l:List Nat} (hn:l.Nodup) (hl:∀ m ∈ l,m<p.own.length∧p.own.getD m 0 ≠ -1) {x:Sm} (hx:x.Of p) (hd:∀ m ∈ l,p.own.getD m 0≠x.cls):x.Of (XmO p l):=fun e b=>by
 obtain ⟨d,a⟩:=hx e b;obtain ⟨_,f,_,c⟩:=XmQ hg hn hl;refine ⟨by omega,?_⟩;rw [c,if_neg (fun hm=>hd _ hm a)];exact a
theorem Xi0 (l l':List (Nat × List Nat)):XiZ (l++l')=XiZ l+XiZ l':=by unfold XiZ; rw [List.map_append,List.sum_append]
theorem XiR (l l':List (Nat × List Nat)):XiQ (l++l')=XiQ l++XiQ l':=by unfold XiQ; rw [List.flatMap_append]
theorem RmM.Ok.big {c:Conf} {M:RmM} (h:M.Ok c) (hg:M.pl.Good) {many:Nat} (h1:1≤many) (hm:many≤M.pl.free.length):(Xob M many).Ok c:=by
 obtain ⟨s,t,k,l,n⟩:=XmZ (who:=((M.shs.length:Nat):Int)) (by omega) hg many hm;have i:M.pl.free.getD 0 0::(M.pl.free.take many).tail=M.pl.free.take many:=by
  cases o:M.pl.free with
  |nil=>rw [o] at hm; simp at hm; omega
  |cons a r =>
   obtain ⟨m,rfl⟩:∃ m,many=m+1:=⟨many - 1,by omega⟩;rfl
 have eA:XiQ (Xob M many).lg=XiQ M.lg++M.pl.free.take many:=by
  show XiQ (M.lg++_)=_
  rw [XiR];unfold XiQ;rw [List.flatMap_cons,List.flatMap_nil,List.append_nil,i]
 have d:∀ m ∈ M.pl.free.take many,m ∈ M.pl.free:=fun m hm=>List.mem_of_mem_take hm;refine ⟨h.n,h.each,by show ((XmX _ _ _).own.length:Int)=_; rw [k]; exact h.own,fun m f => ?_,?_,?_,Xen h.tot⟩
 ·rw [eA] at f;have j:m<M.pl.own.length:=by
   rcases List.mem_append.1 f with g | g
   ·exact (h.lg m g).1
   ·exact (hg.free m (d m g)).1
  refine ⟨by show m<(XmX _ _ _).own.length; omega,?_⟩;show (XmX _ _ _).own.getD m 0=((M.shs.length:Nat):Int)
  rw [n m j];rcases List.mem_append.1 f with g | g
  ·by_cases e:m ∈ M.pl.free.take many
   ·rw [if_pos e]
   ·rw [if_neg e]; exact (h.lg m g).2
  ·rw [if_pos g]
 ·rw [eA];refine List.nodup_append.2 ⟨h.nd,hg.nodup.sublist (List.take_sublist _ _),fun a p b q e => ?_⟩;subst e;have:=(h.lg a p).2;have:=(hg.free a (d a q)).2;omega
 ·show XhB (XmX _ _ _)=XpL M.shs+XiZ (M.lg++_)
  rw [l,Xi0,h.sum];have:((M.pl.free.take many).tail.length+1)=many:=by rw [List.length_tail,List.length_take]; omega
  unfold XiZ;simp only [List.map_cons,List.map_nil,List.sum_cons,List.sum_nil];omega
theorem XiY:∀ {l:List (Nat × List Nat)} {n:Int} {r:List Nat},XiV l n=some r → ∃ m:Nat,n=m∧(m,r) ∈ l
 |(m,q)::t,n,r,h=>by
  unfold XiV at h;by_cases e:(m:Int)=n
  ·rw [if_pos e] at h; cases h; exact ⟨m,e.symm,by simp⟩
  ·rw [if_neg e] at h;obtain ⟨m',e',hm⟩:=XiY h;exact ⟨m',e',by simp [hm]⟩
theorem XiX:∀ {l:List (Nat × List Nat)} {n:Int},XiV l n=none → ∀ e ∈ l,(e.1:Int)≠n
 |[],_,_,_,he=>by cases he
 |(m,q)::r,n,h,e,he=>by
  unfold XiV at h;by_cases hm:(m:Int)=n
  ·rw [if_pos hm] at h; cases h
  ·rw [if_neg hm] at h;rcases List.mem_cons.1 he with rfl | he
   ·exact hm
   ·exact XiX h e he
theorem Xj4 {l:List (Nat × List Nat)} {e:Nat × List Nat} (h:e ∈ l) {m:Nat} (hm:m ∈ e.1::e.2):m ∈ XiQ l:=List.mem_flatMap.2 ⟨e,h,hm⟩
theorem XiU:∀ {l:List (Nat × List Nat)} {n:Nat},n ∉ XiQ l→XiS l n=l:=fun {l n} h=>by
 unfold XiS;refine List.filter_eq_self.2 fun e a => ?_;simp only [bne_iff_ne,ne_eq];exact fun e'=>h (Xj4 a (by rw [e']; simp))
theorem XiT:∀ {l:List (Nat × List Nat)} {n:Nat} {r:List Nat},(XiQ l).Nodup→(n,r) ∈ l → ∃ a b,l=a++(n,r)::b∧XiS l n=a++b:=fun {l n r} c hm=>by
 obtain ⟨a,b,rfl⟩:=List.append_of_mem hm;refine ⟨a,b,rfl,?_⟩;have e:XiQ (a++(n,r)::b)=XiQ a++((n::r)++XiQ b):=by rw [XiR]; rfl
 rw [e] at c;obtain ⟨k,d,f⟩:=List.nodup_append.1 c;obtain ⟨m,o,g⟩:=List.nodup_append.1 d;have i:n ∉ XiQ a:=fun h=>f n h n (by simp) rfl;have j:n ∉ XiQ b:=fun h=>g n (by simp) n h rfl;have:XiS (a++(n,r)::b) n=XiS a n++XiS b n:=by unfold XiS; rw [List.filter_append,List.filter_cons]; simp
 rw [this,XiU i,XiU j]
theorem RmM.Ok.gone {c:Conf} {M:RmM} (h:M.Ok c) (hg:M.pl.Good) {n:Nat} {r:List Nat} (hm:(n,r) ∈ M.lg):(Xor M n r).Ok c∧(XmO M.pl (n::r)).Good:=by
 obtain ⟨a,b,e1,e2⟩:=XiT h.nd hm;have eA:XiQ M.lg=XiQ a++((n::r)++XiQ b):=by rw [e1,XiR]; rfl
 have f:=h.nd;rw [eA] at f;obtain ⟨p,q,i⟩:=List.nodup_append.1 f;obtain ⟨s,t,u⟩:=List.nodup_append.1 q;obtain ⟨v,w,z,A⟩:=XmQ (l:=n::r) hg s (fun m d=>by
  obtain ⟨j,k⟩:=h.lg m (Xj4 hm d);exact ⟨j,by omega⟩)
 have eB:XiQ (XiS M.lg n)=XiQ a++XiQ b:=by rw [e2,XiR]
 refine ⟨⟨h.n,h.each,by show ((XmO _ _).own.length:Int)=_; rw [w]; exact h.own,fun m d => ?_,?_,?_,Xen h.tot⟩,v⟩
 ·replace d:m ∈ XiQ (XiS M.lg n):=d;rw [eB] at d;have e:m ∈ XiQ M.lg:=by
   rw [eA];rcases List.mem_append.1 d with g | g <;> simp [g]
  obtain ⟨j,k⟩:=h.lg m e;refine ⟨by show m<(XmO _ _).own.length; omega,?_⟩;show (XmO _ _).own.getD m 0=((M.shs.length:Nat):Int)
  rw [A,if_neg]
  ·exact k
  ·intro o;rcases List.mem_append.1 d with g | g
   ·exact i m g m (List.mem_append.2 (.inl o)) rfl
   ·exact u m o m g rfl
 ·show (XiQ (XiS M.lg n)).Nodup
  rw [eB];exact List.nodup_append.2 ⟨p,t,fun x B y C=>i x B y (List.mem_append.2 (.inr C))⟩
 ·show XhB (XmO _ _)=XpL M.shs+XiZ (XiS M.lg n)
  have D:=h.sum;rw [e1,Xi0] at D;rw [e2,Xi0];have:XiZ ((n,r)::b)=(r.length+1)+XiZ b:=by unfold XiZ; rw [List.map_cons,List.sum_cons]
  simp only [List.length_cons] at z;omega
structure Rm where
 rb:Nat
 c:Conf
 p:Xal
 mo:Option Nat
 P:Pl
 sb:Nat
 sc:Nat
 lm:Nat
 S:Nat→Sh
 lap:Int
 X:Nat→Prop
abbrev rmV (R:Rm):Value := .pointer (some ⟨R.rb,0,none⟩)
def rmL (R:Rm) (n:Nat):List Value:=Xe5 R.c R.p ++ [ptr R.mo,plV R.P,.slice (some ⟨R.sb,0,none⟩) n R.sc,.map (some R.lm)]
def Far (F:Nat→Prop) (w:World) (a:Option Addr) (l:List Int):Prop:=Rd .i64 w a l∧(0<l.length→XaX F a)
theorem Far.chg {F S:Nat→Prop} {w w':World} {a:Option Addr} {l:List Int} (h:Far F w a l) (hc:Chg S w w') (hS:∀ z,S z→F z):Far F w' a l:=by
 refine ⟨?_,h.2⟩;by_cases b:0<l.length
 ·exact h.1.far ((h.2 b).mono hS) hc
 ·have:l = []:=List.eq_nil_of_length_eq_zero (by omega);subst this;exact Rd.nil _ _ _
theorem Rd.block {k:IntKind} {w:World} {a:Option Addr} {l:List Int} (h:Rd k w a l) (hl:0<l.length) {b off:Nat} {s} (e:a=some ⟨b,off,s⟩):b<w.heap.size:=by
 obtain ⟨b',off',e',c⟩:=h 0 hl;rw [e] at e'; cases e';exact World.block_lt_of_cell? w _ c
theorem Far.grow {F F':Nat→Prop} {w:World} {a:Option Addr} {l:List Int} (h:Far F w a l) (hF:∀ z,F' z→F z∨w.heap.size≤z):Far F' w a l :=
 ⟨h.1,fun c b off s e hz=>by
  rcases hF b hz with hz | hz
  ·exact h.2 c b off s e hz
  ·have:=h.1.block c e; omega⟩
theorem Xii {S:Nat→Prop} {w w':World} {b:Nat} {x:Option Nat} (hc:Chg S w w') (h:kd w b=some x) (hS:¬ S b):kd w' b=some x:=by
 have a:=Xik h;unfold kd at *;rw [hc.block b a hS];exact h
def XaP (F:Nat→Prop) (w:World) (a:Option Addr):Prop := ∀ b off s,a=some ⟨b,off,s⟩→kd w b=some (some 3) ∧ ¬ F b
theorem XaP.chg {F S:Nat→Prop} {w w':World} {a:Option Addr} (h:XaP F w a) (hc:Chg S w w') (hS:∀ b,kd w b=some (some 3)→S b→F b):XaP F w' a:=fun b off s e =>
 ⟨Xii hc (h b off s e).1 (fun c=>(h b off s e).2 (hS b (h b off s e).1 c)),(h b off s e).2⟩
def XaI (F:Nat→Prop) (w:World) (lm:Nat) (lg:List (Nat × List Nat)):Prop := ∃ m,XaL w lm m∧(Xb1 m).Nodup∧(∀ e ∈ lg,∃ a cap,Xcb m e.1=some (.slice a e.2.length cap)∧Rd .i64 w a (XkJ e.2)∧XaP F w a) ∧ ∀ k:Int,(∀ e ∈ lg,(e.1:Int)≠k)→Xcb m k=none
theorem XaI.chg {F S:Nat→Prop} {w w':World} {lm:Nat} {lg:List (Nat × List Nat)} (h:XaI F w lm lg) (hc:Chg S w w') (hS:∀ b,kd w b=some (some 3)→S b→F b) (hl:¬ S lm):XaI F w' lm lg:=by
 obtain ⟨m,d,f,g,i⟩:=h;exact ⟨m,d.chg hc hl,f,fun e j=>by obtain ⟨a,cap,k,l,c⟩:=g e j; exact ⟨a,cap,k,l.far (fun b off s e n=>(c b off s e).2 (hS b (c b off s e).1 n)) hc,c.chg hc hS⟩,i⟩
theorem XaI.grow {F F':Nat→Prop} {w:World} {lm:Nat} {lg:List (Nat × List Nat)} (h:XaI F w lm lg) (hF:∀ z,F' z→F z∨w.heap.size≤z):XaI F' w lm lg:=by
 obtain ⟨m,d,f,g,i⟩:=h;exact ⟨m,d,f,fun e j=>by
  obtain ⟨a,cap,k,l,c⟩:=g e j;exact ⟨a,cap,k,l,fun b off s e=>⟨(c b off s e).1,fun n=>(hF b n).elim (c b off s e).2 (fun h=>by have:=Xik (c b off s e).1; omega)⟩⟩,i⟩
def Xbt (F:Nat→Prop) (w:World) (R:Rm) (shs:List Sm) (pl:PlM):Prop := ∃ G:Nat→Nat→Pg,
 (∀ k x,shs[k]? = some x→(R.S k).P=R.P∧Xbr w (R.S k) (G k) x pl ∧ ∀ z,XpG (R.S k) (G k) x.pg z→F z∧z≠R.lm) ∧
 ∀ j k x y,j≠k→shs[j]? = some x→shs[k]? = some y → ∀ z,XpG (R.S j) (G j) x.pg z → ¬ XpG (R.S k) (G k) y.pg z
def Rm.FX (R:Rm) (F:Nat→Prop):Nat→Prop:=fun z=>F z∨R.X z
structure Xbd (F:Nat→Prop) (w:World) (R:Rm) (M:RmM):Prop where
 ok:M.Ok R.c
 obj:w.heap[R.rb]? = some (.cells (rmL R M.shs.length).toArray 206 (0,0))
 cls:Far F w R.p.ca R.c.classes
 kee:Far F w R.p.ka R.c.keep
 may:XjY R.c=true
 met:∀ b,R.mo=some b→F b∧XaO w b M.tot R.lap
 sl:∀ k,k<M.shs.length→w.cell? ⟨R.sb,k,none⟩=some (sfV (R.S k))
 pool:Xa5 w R.P M.pl
 pf:∀ z,XmK R.P z→F z
 sh:Xbt F w R M.shs M.pl
 lg:XaI (R.FX F) w R.lm M.lg
 lf:F R.lm
 rf:¬ F R.rb
 sf:¬ F R.sb
 low:∀ z,F z→z<w.heap.size
 tab:Xbz w
 tf:¬ F 1
 xl:∀ z,R.X z→z<w.heap.size ∧ ¬ F z
theorem Xbd.conf {F:Nat→Prop} {w:World} {R:Rm} {M:RmM} (h:Xbd F w R M):Xam w R.c R.p:=by
 have hm:=h.may;unfold XjY at hm;simp only [Bool.and_eq_true,decide_eq_true_eq] at hm;obtain ⟨⟨⟨⟨⟨⟨⟨a,c⟩,b⟩,d,_⟩,_⟩,_⟩,_⟩,_⟩:=hm;have e:=XeO b;have:=Xqv.1 a;exact ⟨h.cls.1,h.kee.1,by omega,by omega,by unfold XaC; omega⟩
def Xbe (F:Nat→Prop) (w w':World) (R:Rm) (M:RmM):Prop := ∃ F',Xbd F' w' R M∧(∀ z,F' z→F z∨w.heap.size≤z)∧Chg F w w'
theorem Xbe.of {F:Nat→Prop} {w w':World} {R:Rm} {M:RmM} (h:Xbd F w' R M) (hc:Chg F w w'):Xbe F w w' R M:=⟨F,h,fun _ h => .inl h,hc⟩
theorem Xbe.trans {F:Nat→Prop} {w w1 w2:World} {R:Rm} {M:RmM} {F1:Nat→Prop} (hF:∀ z,F1 z→F z∨w.heap.size≤z) (hc:Chg F w w1) (h:Xbe F1 w1 w2 R M):Xbe F w w2 R M:=by
 obtain ⟨e,a,b,c⟩:=h;refine ⟨e,a,fun z d => ?_,hc.since c fun z d f => ?_⟩
 ·rcases b z d with h | h
  ·exact hF z h
  ·have:=hc.size; exact .inr (by omega)
 ·rcases hF z f with h | h
  ·exact h
  ·omega
section
variable {F:Nat→Prop} {w w':World} {R:Rm} {M:RmM}
theorem Xbt.grow {shs:List Sm} {pl:PlM} (h:Xbt F w R shs pl) (hc:Chg XaW w w'):Xbt F w' R shs pl:=by
 obtain ⟨G,a,b⟩:=h;exact ⟨G,fun k x c=>by obtain ⟨d,e,f⟩:=a k x c; exact ⟨d,e.grow hc,f⟩,b⟩
theorem Xbd.grow (h:Xbd F w R M) (hc:Chg XaW w w'):Xbd F w' R M :=
 ⟨h.ok,hc.heap' h.obj,h.cls.chg hc (fun _ h=>h.elim),h.kee.chg hc (fun _ h=>h.elim),h.may,fun b c=>by obtain ⟨d,e⟩:=h.met b c; exact ⟨d,e.chg hc⟩,
  fun k f=>hc.cell (h.sl k f) id,h.pool.grow hc,h.pf,h.sh.grow hc,h.lg.chg hc (fun _ _ h=>h.elim) id,h.lf,h.rf,h.sf,fun z a=>by have:=h.low z a; have:=hc.size; omega,h.tab.grow hc,h.tf,fun z a=>⟨by have:=(h.xl z a).1; have:=hc.size; omega,(h.xl z a).2⟩⟩
theorem Xim {b:Nat} {t l:Int} (h:XaO w b t l):kd w b=some (some 197):=Xih h.1
theorem Xij {F:Nat→Prop} {lm:Nat} {lg:List (Nat × List Nat)} (h:XaI F w lm lg):kd w lm=some none:=by
 obtain ⟨m,hm,_⟩:=h;exact Xil hm
theorem Xbd.charge (h:Xbd F w R M) {b:Nat} (hb:R.mo=some b) {t:Int} (hm:XaO w' b t R.lap) (hc:Chg (fun z=>z=b) w w'):Xbd F w' R {M with tot:=t}:=by
 obtain ⟨m,o⟩:=h.met b hb;have kb:=Xim o;have f:∀ z,z=b→F z:=fun z e=>e▸m;have kp:=h.pool.kds;have i:=Xin kp.1 kb (by decide);have j:=Xin kp.2 kb (by decide);have p:=Xin (Xij h.lg) kb (by simp);have q:1≠b:=fun e=>h.tf (e▸m);refine ⟨{h.ok with tot:=by have:=hm.2; show 0≤t∧t≤4611686018427387904; omega},hc.heap h.obj (fun e=>h.rf (f _ e)),h.cls.chg hc f,h.kee.chg hc f,h.may,fun b' l => ?_,fun k r=>hc.cell (h.sl k r) (fun e=>h.sf (f _ e)),h.pool.chg hc i j,h.pf,?_,h.lg.chg hc (fun z _ h => .inl (f z h)) p,h.lf,h.rf,h.sf,fun z g=>by have:=h.low z g; have:=hc.size; omega,h.tab.chg hc q,h.tf,fun z g=>⟨by have:=(h.xl z g).1; have:=hc.size; omega,(h.xl z g).2⟩⟩
 ·rw [hb] at l; cases l; exact ⟨m,hm⟩
 ·obtain ⟨G,a,d⟩:=h.sh;refine ⟨G,fun k x s => ?_,d⟩;obtain ⟨n,c,u⟩:=a k x s;have ap:=c.at'.apart kb (by decide);exact ⟨n,⟨c.ok,c.pos,c.of,c.at'.chg hc (fun z e=>e▸ap.1) (fun z e=>e▸ap.2) q,c.pool.chg hc (by rw [n]; exact i) (by rw [n]; exact j)⟩,u⟩
theorem Xbr.beside {S S':Sh} {G G':Nat→Pg} {x x':Sm} {pl pl':PlM} (h:Xbr w S G x pl) (h':Xbr w S' G' x' pl) (hd:∀ z,XpG S' G' x'.pg z → ¬ XpG S G x.pg z) (hc:Chg (Xb5 S' G' x'.pg) w w') (hP:S.P=S'.P) (hp:Xa5 w' S'.P pl') (hof:x.Of pl'):Xbr w' S G x pl':=by
 have k':=h'.at'.kds;have k:=h.at'.kds;obtain ⟨d,f⟩:=h'.pool.kds;have kx:∀ {z:Nat},Xb5 S' G' x'.pg z→kd w z≠some (some 329)∧kd w z≠some (some 325):=fun {z} a=>by
  rcases a with (e | e | (e | e) | ⟨e,b,e1 | e1⟩) | e | e
  ·subst e; rw [k'.sb]; exact ⟨by decide,by decide⟩
  ·subst e; rw [k'.sm]; exact ⟨by simp,by simp⟩
  ·subst e; rw [k'.ab]; exact ⟨by decide,by decide⟩
  ·subst e; rw [k'.nb]; exact ⟨by decide,by decide⟩
  ·subst e1; rw [(h'.at'.pages e b).kds.bb]; exact ⟨by decide,by decide⟩
  ·subst e1; rw [(h'.at'.pages e b).kds.mb]; exact ⟨by simp,by simp⟩
  ·subst e; rw [d]; exact ⟨by decide,by decide⟩
  ·subst e; rw [f]; exact ⟨by decide,by decide⟩
 have out:∀ z,XpG S G x.pg z → ¬ Xb5 S' G' x'.pg z:=fun z a hz'=>by
  rcases hz' with hz' | hz'
  ·exact hd z hz' a
  ·have c:=hz';have n:=h.at'.notpool (hP▸h'.pool);rw [hP] at n;rcases c with e | e
   ·subst e; exact n.1 a
   ·subst e; exact n.2 a
 refine ⟨h.ok,h.pos,hof,h.at'.chg hc (fun z a=>⟨fun e=>out z (.inl e) a,fun e=>out z (.inr (.inl e)) a,fun e=>(kx a).1 (e▸k.lb),fun e=>out z (.inr (.inr (.inl e))) a⟩) (fun z a e b=>⟨fun e'=>(kx a).2 (e'▸(h.at'.pages e b).kds.p),fun e'=>out z (.inr (.inr (.inr ⟨e,b,e'⟩))) a⟩) ?_,hP▸hp⟩;rintro (e | e)
 ·rcases e with e | e | e | ⟨e,b,e1⟩
  ·exact XsE h'.at'.tab (fun v e2=>by rw [Xd6 h'.at'.obj] at e2; simp [shL] at e2) e
  ·obtain ⟨m,hm,_⟩:=h'.at'.map;exact XsD hm h'.at'.tab e
  ·exact XsH h'.at'.ring h'.at'.tab e
  ·exact XsF (h'.at'.pages e b) e1
 ·exact XsG h'.at'.tab h'.pool e
theorem Xbd.shelf (h:Xbd F w R M) {k:Nat} {x:Sm} (hx:M.shs[k]? = some x):∃ Gk,(R.S k).P=R.P∧Xbr w (R.S k) Gk x M.pl∧(∀ z,Xb5 (R.S k) Gk x.pg z→F z) ∧ ∀ w' G' x' pl',Xbr w' (R.S k) G' x' pl'→Chg (Xb5 (R.S k) Gk x.pg) w w' →
 (∀ z,XpG (R.S k) G' x'.pg z→XpG (R.S k) Gk x.pg z∨w.heap.size≤z)→Eff M.pl pl' x.cls→x'.cls=x.cls→x'.blocks=x.blocks→XhB pl'+x.pg.length=XhB M.pl+x'.pg.length→Xbe F w w' R (XoN M k x' pl'):=by
 obtain ⟨G,a,d⟩:=h.sh;obtain ⟨s,t,v⟩:=a k x hx;have p:=(List.getElem?_eq_some_iff.1 hx).1;have f:∀ z,Xb5 (R.S k) (G k) x.pg z→F z:=fun z hz=>by
  rcases hz with hz | hz
  ·exact (v z hz).1
  ·exact h.pf z (s▸hz)
 refine ⟨G k,s,t,f,fun w' G' x' pl' o m A H I J T => ?_⟩;have D:=o.foot_lt
 let F':Nat→Prop:=fun z=>F z∨(w.heap.size≤z∧XpG (R.S k) G' x'.pg z)
 have q:∀ z,F' z→F z∨w.heap.size≤z:=fun z hz=>hz.imp id (·.1);have K:¬ Xb5 (R.S k) (G k) x.pg R.lm:=by
  rintro (hz | hz)
  ·exact (v _ hz).2 rfl
  ·have kl:=Xij h.lg;have kp:=t.pool.kds;rcases hz with e | e
   ·exact Xin kl kp.1 (by simp) e
   ·exact Xin kl kp.2 (by simp) e
 have S:=h.low _ h.lf;have n:∀ (b:Nat),b<w.heap.size → ¬ F b → ¬ F' b:=fun b L U hz=>by
  rcases hz with hz | ⟨hz,_⟩
  ·exact U hz
  ·omega
 have B:=World.block_lt_of_cell? w _ (h.sl k p);have E:=World.block_lt_of_cell? w _ (h.tab 0 (by decide));refine ⟨F',⟨h.ok.set h.pool.good hx H I J T,?_,(h.cls.grow q).chg m (fun z hz => .inl (f z hz)),(h.kee.grow q).chg m (fun z hz => .inl (f z hz)),h.may,fun b L => ?_,fun j C => ?_,s▸o.pool,fun z hz => .inl (h.pf z hz),⟨fun j=>if j=k then G' else G j,fun j y c => ?_,fun i j y y' r c l z hz => ?_⟩,(h.lg.grow (F':=R.FX F') (fun z hz=>hz.elim (fun h=>(q z h).imp .inl id) (fun h => .inl (.inr h)))).chg m (fun z _ hz => .inl (.inl (f z hz))) K,.inl h.lf,n _ (XjD h.obj) h.rf,n _ B h.sf,fun z hz => ?_,o.at'.tab,n _ E h.tf,fun z hz=>⟨by have:=(h.xl z hz).1; have:=m.size; omega,n z (h.xl z hz).1 (h.xl z hz).2⟩⟩,q,m.mono fun z _ hz=>f z hz⟩
 ·show w'.heap[R.rb]? = some (.cells (rmL R (M.shs.set k x').length).toArray _ _)
  rw [List.length_set];exact m.heap h.obj (fun hz=>h.rf (f _ hz))
 ·obtain ⟨N,hm⟩:=h.met b L;have kb:=Xim hm;have kp:=t.pool.kds;have ap:=t.at'.apart kb (by decide);refine ⟨.inl N,m.heap hm.1 ?_,hm.2⟩;rintro ((e | e | e | ⟨e,V,e1⟩) | e | e)
  ·exact ap.1.1 e
  ·exact ap.1.2.1 e
  ·exact ap.1.2.2.2 e
  ·exact (ap.2 e V).2 e1
  ·exact Xin kb kp.1 (by decide) e
  ·exact Xin kb kp.2 (by decide) e
 ·exact m.cell (h.sl j (by replace C:j<(M.shs.set k x').length:=C; rw [List.length_set] at C; exact C)) (fun hz=>h.sf (f _ hz))
 ·replace c:(M.shs.set k x')[j]? = some y:=c;by_cases e:j=k
  ·subst e;rw [List.getElem?_set_self p] at c; cases c;simp only [if_true];refine ⟨s,o,fun z hz => ?_⟩;rcases A z hz with g | g
   ·exact ⟨.inl (v z g).1,(v z g).2⟩
   ·exact ⟨.inr ⟨g,hz⟩,by omega⟩
  ·rw [List.getElem?_set_ne (Ne.symm e)] at c;simp only [if_neg e];obtain ⟨O,P,Q⟩:=a j y c;obtain ⟨c1,_⟩:=h.ok.each j y c;obtain ⟨c2,_⟩:=h.ok.each k x hx;exact ⟨O,P.beside t (fun z o A=>d j k y x e c hx z A o) m (O.trans s.symm) o.pool (H.of h.pool.good P.of (by omega) (by omega)),fun z hz=>⟨.inl (Q z hz).1,(Q z hz).2⟩⟩
 ·replace c:(M.shs.set k x')[i]? = some y:=c;replace l:(M.shs.set k x')[j]? = some y':=l;have old:∀ {i:Nat} {y:Sm},i≠k→M.shs[i]? = some y → ∀ {z:Nat},XpG (R.S i) (G i) y.pg z → ¬ XpG (R.S k) G' x'.pg z:=fun {i y} W c {z} hz u=>by
   rcases A z u with g | g
   ·exact d i k y x W c hx z hz g
   ·have:=h.low z ((a i y c).2.2 z hz).1; omega
  by_cases e:i=k
  ·subst e;rw [List.getElem?_set_self p] at c; cases c;rw [List.getElem?_set_ne r] at l;simp only [if_true] at hz;simp only [if_neg (Ne.symm r)];exact fun u=>old (Ne.symm r) l u hz
  ·rw [List.getElem?_set_ne (Ne.symm e)] at c;simp only [if_neg e] at hz;by_cases e':j=k
   ·subst e';rw [List.getElem?_set_self p] at l; cases l;simp only [if_true];exact old e c hz
   ·rw [List.getElem?_set_ne (Ne.symm e')] at l;simp only [if_neg e'];exact d i j y y' r c l z hz
 ·rcases hz with hz | ⟨_,hz⟩
  ·have:=h.low z hz; have:=m.size; omega
  ·exact D z (.inl hz)
theorem Xbr.swap {S:Sh} {G:Nat→Pg} {x:Sm} {pl pl':PlM} {lm:Nat} (h:Xbr w S G x pl) (hlm:kd w lm=some none) (hnl:¬ XpG S G x.pg lm) (hc:Chg (fun z=>XmK S.P z∨z=lm) w w') (hp:Xa5 w' S.P pl') (hof:x.Of pl') (ht:1≠lm):Xbr w' S G x pl':=by
 obtain ⟨f,g⟩:=h.pool.kds;have c:=h.at'.apart f (by decide);have d:=h.at'.apart g (by decide);have k:=h.at'.kds;refine ⟨h.ok,h.pos,hof,h.at'.chg hc (fun z b => ?_) (fun z b e a => ?_) ?_,hp⟩
 ·rcases b with (e | e) | e
  ·exact e▸c.1
  ·exact e▸d.1
  ·subst e;exact ⟨fun e=>hnl (.inl e),fun e=>hnl (.inr (.inl e)),Xin hlm k.lb (by simp),fun e=>hnl (.inr (.inr (.inl e)))⟩
 ·rcases b with (e1 | e1) | e1
  ·exact e1▸c.2 e a
  ·exact e1▸d.2 e a
  ·subst e1;exact ⟨Xin hlm (h.at'.pages e a).kds.p (by simp),fun e'=>hnl (.inr (.inr (.inr ⟨e,a,e'⟩)))⟩
 ·rintro (e | e)
  ·exact XsG h.at'.tab h.pool e
  ·exact ht e
theorem Xbd.swap (h:Xbd F w R M) {pl':PlM} {lg':List (Nat × List Nat)} (hok:RmM.Ok R.c {M with pl:=pl',lg:=lg'}) (hc:Chg (fun z=>XmK R.P z∨z=R.lm) w w') (hp:Xa5 w' R.P pl') (hl:XaI (R.FX F) w' R.lm lg') (hof:∀ (k:Nat) (x:Sm),M.shs[k]? = some x→x.Of M.pl→x.Of pl'):Xbd F w' R {M with pl:=pl',lg:=lg'}:=by
 have f:∀ z,(XmK R.P z∨z=R.lm)→F z:=fun z c=>c.elim (h.pf z) (fun e=>e▸h.lf);have kl:=Xij h.lg;have kp:=h.pool.kds;refine ⟨hok,hc.heap h.obj (fun c=>h.rf (f _ c)),h.cls.chg hc f,h.kee.chg hc f,h.may,fun b m => ?_,fun k n=>hc.cell (h.sl k n) (fun c=>h.sf (f _ c)),hp,h.pf,?_,hl,h.lf,h.rf,h.sf,fun z c=>by have:=h.low z c; have:=hc.size; omega,h.tab.chg hc (fun c=>h.tf (f _ c)),h.tf,fun z c=>⟨by have:=(h.xl z c).1; have:=hc.size; omega,(h.xl z c).2⟩⟩
 ·obtain ⟨g,hm⟩:=h.met b m;have kb:=Xim hm;refine ⟨g,hc.heap hm.1 ?_,hm.2⟩;rintro ((e | e) | e)
  ·exact Xin kb kp.1 (by decide) e
  ·exact Xin kb kp.2 (by decide) e
  ·exact Xin kb kl (by simp) e
 ·obtain ⟨G,a,d⟩:=h.sh;refine ⟨G,fun k x i => ?_,d⟩;obtain ⟨g,j,l⟩:=a k x i;exact ⟨g,j.swap kl (fun c=>(l _ c).2 rfl) (by rw [g]; exact hc) (by rw [g]; exact hp) (hof k x i j.of) (fun e=>h.tf (e▸h.lf)),l⟩
theorem Xbd.note {F0:Nat→Prop} {w0:World} {M0:RmM} (h0:Xbd F0 w0 R M0) (h:Xbd F w R M) {eb:Nat} {t:Nat} (hk:kd w eb=some (some t)) (hnew:w0.heap.size≤eb) (hF:¬ F eb) (hc:Chg (fun z=>z=eb) w w')
 (ht:t≠197∧t≠262∧t≠319∧t≠3∧t≠272∧t≠329∧t≠334∧t≠336∧t≠325∧t≠366):Xbd F w' R M:=by
 have d:∀ {t':Nat},t≠t'→some (some t)≠some (some t'):=fun h e=>h (Option.some.inj (Option.some.inj e));have n:0<M0.shs.length:=by
  have hm:=h0.may;unfold XjY at hm;simp only [Bool.and_eq_true,decide_eq_true_eq] at hm;have:=XeO hm.1.1.1.1.1.2;have:=h0.ok.n;omega
 have o:R.rb≠eb:=by have:=XjD h0.obj; omega
 have p:R.sb≠eb:=by have:=World.block_lt_of_cell? w0 _ (h0.sl 0 n); simp only at this; omega
 have m:1≠eb:=by have:=World.block_lt_of_cell? w0 _ (h0.tab 0 (by decide)); simp only at this; omega
 have j:∀ {a:Option Addr} {l:List Int},Far F0 w0 a l→Far F w a l→Far F w' a l:=fun {a l} y g=>by
  refine ⟨?_,g.2⟩;by_cases A:0<l.length
  ·exact g.1.far (fun b off s e q=>by have:=y.1.block A e; omega) hc
  ·have:l = []:=List.eq_nil_of_length_eq_zero (by omega);subst this;exact Rd.nil _ _ _
 have kp:=h.pool.kds;have r:=Xin kp.1 hk (Ne.symm (d ht.2.1));have u:=Xin kp.2 hk (Ne.symm (d ht.2.2.1));refine ⟨h.ok,hc.heap h.obj o,j h0.cls h.cls,j h0.kee h.kee,h.may,fun b q => ?_,fun k v=>hc.cell (h.sl k v) p,h.pool.chg hc r u,h.pf,?_,h.lg.chg hc (fun z c e=>absurd (c.symm.trans (e▸hk)) (Ne.symm (d ht.2.2.2.1))) (Xin (Xij h.lg) hk (by simp)),h.lf,h.rf,h.sf,fun z c=>by have:=h.low z c; have:=hc.size; omega,h.tab.chg hc m,h.tf,fun z c=>⟨by have:=(h.xl z c).1; have:=hc.size; omega,(h.xl z c).2⟩⟩
 ·obtain ⟨f,hm⟩:=h.met b q;exact ⟨f,hc.heap hm.1 (fun e=>hF (e▸f)),hm.2⟩
 ·obtain ⟨G,a,e⟩:=h.sh;refine ⟨G,fun k x B => ?_,e⟩;obtain ⟨f,i,C⟩:=a k x B;have ap:=i.at'.apart hk ht.2.2.2.2;exact ⟨f,⟨i.ok,i.pos,i.of,i.at'.chg hc (fun z e=>e▸ap.1) (fun z e=>e▸ap.2) m,i.pool.chg hc (by rw [f]; exact r) (by rw [f]; exact u)⟩,C⟩
theorem Xo8 (h:Xbd F w R M) (n:Int):Xan Tryz.prog 146 #[ptr R.mo,.int .i64 n] w (fun _ w'=>Xbd F w' R {M with tot:=Xek M.tot n}∧Chg F w w'):=by
 cases hm:R.mo with
 |none =>
  refine (Xj9 n w).mono fun _ w' e => ?_;subst e;have d:=Xen (n:=n) h.ok.tot;exact ⟨{h with ok:={h.ok with tot:=d},met:=fun b a=>by rw [hm] at a; cases a},Chg.refl _ _⟩
 |some b =>
  obtain ⟨f,a⟩:=h.met b hm;exact (Xj8 b M.tot R.lap n w a).mono fun _ w' ⟨g,c⟩=>⟨h.charge hm g c,c.mono fun z _ e=>e▸f⟩
end
def rsV (R:Rm) (M:RmM) (k:Int):Value:=match Xoh M k with | none => .pointer none | some _=>sfV (R.S k.toNat)
theorem Xon {M:RmM} {k:Int} {x:Sm} (h:Xoh M k=some x):∃ n:Nat,k=n∧n<M.shs.length∧M.shs[n]? = some x:=by
 unfold Xoh at h;by_cases a:0≤k
 ·rw [if_pos a] at h;exact ⟨k.toNat,by omega,(List.getElem?_eq_some_iff.1 h).1,h⟩
 ·rw [if_neg a] at h; cases h
theorem Xok {M:RmM} {k:Int} (h:k<0∨(M.shs.length:Int)≤k):Xoh M k=none:=by
 unfold Xoh;by_cases a:0≤k
 ·rw [if_pos a,List.getElem?_eq_none (by omega)]
 ·rw [if_neg a]
theorem Xoi {M:RmM} {k:Nat} (h:k<M.shs.length):Xoh M k=some M.shs[k]:=by
 unfold Xoh;rw [if_pos (by omega)];exact List.getElem?_eq_getElem h
theorem Xpa {F:Nat→Prop} {w:World} {R:Rm} {M:RmM} (h:Xbd F w R M) (k:Int):Xan Tryz.prog 219 #[rmV R,.int .i64 k] w (Xbo (rsV R M k) w):=by
 have g:=h.ok.n;refine ζe Tryz.func219 Tryz.ntmps219 rfl (ζg rfl (fun a => ?_) fun a => ?_)
 ·have e:rsV R M k = .pointer none:=by unfold rsV; rw [Xok (.inl (of_decide_eq_true a))]
  rw [e];exact ζa rfl (ζr Tryz.func219 rfl ⟨rfl,rfl⟩)
 ·have d:=of_decide_eq_false a;refine ζl h.obj rfl (ζg rfl (fun b => ?_) fun b => ?_)
  ·have e:rsV R M k = .pointer none:=by unfold rsV; rw [Xok (.inr (of_decide_eq_true b))]
   rw [e];exact ζr Tryz.func219 rfl ⟨rfl,rfl⟩
  ·have f:=of_decide_eq_false b;obtain ⟨n,rfl⟩:=Int.eq_ofNat_of_zero_le (show 0≤k by omega);have c:n<M.shs.length:=by omega
   have e:rsV R M n=sfV (R.S n):=by unfold rsV; rw [Xoi c]; rfl
   rw [e];exact ζl h.obj rfl (ζi n rfl (ζk rfl (show w.cell? ⟨R.sb,0+n,none⟩=_ from by rw [Nat.zero_add]; exact h.sl n c) rfl (ζr Tryz.func219 rfl ⟨rfl,rfl⟩)))
theorem XoY {F:Nat→Prop} {w:World} {R:Rm} {M:RmM} (h:Xbd F w R M):Xan Tryz.prog 92 #[rmV R] w (Xbo (.int .i64 (XhB M.pl:Nat)) w):=by
 exact ζe Tryz.func92 Tryz.ntmps92 rfl (ζl h.obj rfl (ζw (Xne R.P M.pl w h.pool) rfl (ζr Tryz.func92 rfl ⟨rfl,rfl⟩)))
theorem Xo2 {F:Nat→Prop} {w:World} {R:Rm} {M:RmM} (h:Xbd F w R M) (k n i:Int):Xan Tryz.prog 203 #[rmV R,.int .i64 k,.int .i64 n,.int .i64 i] w (Xbo (.int .i64 (Xox M k n i)) w):=by
 refine ζe Tryz.func203 Tryz.ntmps203 rfl (ζw (Xpa h k) rfl ?_);unfold rsV Xox;cases a:Xoh M k with
 |none =>
  exact ζw (Xqc n i w) rfl (ζr Tryz.func203 rfl ⟨rfl,rfl⟩)
 |some x =>
  obtain ⟨j,rfl,d,b⟩:=Xon a;obtain ⟨G,_,c,_⟩:=h.shelf b;exact ζw (Xqb (R.S j) G x M.pl n i w c) rfl (ζr Tryz.func203 rfl ⟨rfl,rfl⟩)
theorem Xo6 {F:Nat→Prop} {w:World} {R:Rm} {M:RmM} (h:Xbd F w R M) (k r:Int) (fk:Nat) (hf:Xan Tryz.prog fk #[rsV R M k] w (Xbo (.int .i64 r) w)):Xan Tryz.prog 209 #[rmV R,.int .i64 k,.func (.func fk) #[] #[]] w (Xbo (.int .i64 r) w):=by
 exact ζe Tryz.func209 Tryz.ntmps209 rfl (ζw (Xpa h k) rfl (ζw hf rfl (ζr Tryz.func209 rfl ⟨rfl,rfl⟩)))
theorem Xo0 {F:Nat→Prop} {w:World} {R:Rm} {M:RmM} (h:Xbd F w R M) (k:Int):Xan Tryz.prog 136 #[rmV R,.int .i64 k] w (Xbo (.int .i64 (Xot M k:Nat)) w):=by
 have a:Xan Tryz.prog 210 #[rsV R M k] w (Xbo (.int .i64 (Xot M k:Nat)) w):=by
  unfold rsV Xot;cases b:Xoh M k with
  |none=>exact Xp8 w
  |some x =>
   obtain ⟨j,rfl,e,c⟩:=Xon b;obtain ⟨G,_,d,_⟩:=h.shelf c;exact Xp7 (R.S j) G x M.pl w d
 exact ζe Tryz.func136 Tryz.ntmps136 rfl (ζw (Xo6 h k (Xot M k:Nat) 210 a) rfl (ζr Tryz.func136 rfl ⟨rfl,rfl⟩))
theorem Xo1 {F:Nat→Prop} {w:World} {R:Rm} {M:RmM} (h:Xbd F w R M) (k n i who:Int):Xan Tryz.prog 157 #[rmV R,.int .i64 k,.int .i64 n,.int .i64 i,.int .i64 who] w
 (fun v w'=>v = .int .i64 (Xov M k n i who)∧Xbe F w w' R (Xou M k n i who)):=by
 refine ζe Tryz.func157 Tryz.ntmps157 rfl (ζw (Xpa h k) rfl ?_);unfold rsV Xov Xou;cases d:Xoh M k with
 |none =>
  exact ζw (Xqa n i who w) rfl (ζr Tryz.func157 rfl ⟨rfl,.of h (Chg.refl _ _)⟩)
 |some x =>
  obtain ⟨j,rfl,o,e⟩:=Xon d;obtain ⟨G,_,f,_,a⟩:=h.shelf e;refine ζc rfl (Xp9 (R.S j) G x M.pl n i who w f) ?_;rintro _ g ⟨rfl,l,b,c⟩;refine ζa rfl ?_;obtain ⟨e1,e2,e3,e4⟩:=Xlu x M.pl n i who;exact ζr Tryz.func157 rfl ⟨rfl,a g G (XpN x n i who) M.pl l b (fun z m => .inl (c z m)) e1 e2 e3 e4⟩
theorem Xo4 {F:Nat→Prop} {w:World} {R:Rm} {M:RmM} (h:Xbd F w R M) (k:Int):Xan Tryz.prog 202 #[rmV R,.int .i64 k] w (Grow (.tuple #[.agg (XoI M k).toArray,.bool (XoH M k)]) w):=by
 refine ζe Tryz.func202 Tryz.ntmps202 rfl (ζn rfl fun b m e1 n g B => ?_);have o:=h.grow g;refine ζw (Xpa o k) rfl ?_;unfold rsV XoI XoH;cases r:Xoh M k with
 |none =>
  exact ζv (Xqe m) rfl fun s f=>ζs (f.heap' n) rfl fun t i l p=>ζR Tryz.func202 i rfl ⟨rfl,(g.trans f).since l (fun z u e=>by subst e1; omega)⟩
 |some x =>
  obtain ⟨j,rfl,C,y⟩:=Xon r;obtain ⟨G,_,A,_⟩:=o.shelf y;obtain ⟨pa,pb,pc,pd,ep⟩:∃ a b c d,XpT x=Xm5 a b c d:=by
   unfold XpT;split
   ·exact ⟨_,_,_,_,rfl⟩
   ·exact ⟨_,_,_,_,rfl⟩
  have q:=Xqd (R.S j) G x M.pl m A;rw [ep] at q;show Xay _ _ (Xba (fun v w'=>v = .tuple #[.agg (XpT x).toArray,.bool (XpS x)]∧_)) _ _ _ _ _
  rw [ep];exact ζv q rfl fun s f=>ζs (f.heap' n) rfl fun t i l p=>ζR Tryz.func202 i rfl ⟨rfl,(g.trans f).since l (fun z u e=>by subst e1; omega)⟩
abbrev XfN (w:World) (b:Nat) (e:Int):Prop:=w.heap[b]? = some (.cells ([.int .i64 e]:List Value).toArray 27 (0,0))
theorem XhC {p:PlM} (h:p.Good):XhB p≤1024:=by have:=Xmz p.own; have:=h.len; unfold XhB; omega
theorem Xo7 {F:Nat→Prop} {w:World} {R:Rm} {M:RmM} (h:Xbd F w R M) (held:Nat) (b:Nat) (E:Int) (hb:XfN w b E) (hh:held≤1024):Xao Tryz.prog 256 #[rmV R,.int .i64 (held:Int),.pointer (some ⟨b,0,none⟩)] w
 (fun _ w'=>Xbd F w' R (if E=0 then {M with tot:=Xek M.tot (3+(max (XhB M.pl:Int) held - min (XhB M.pl:Int) held)*4)} else M)∧Chg F w w'):=by
 refine Xao.enter Tryz.func256 rfl Tryz.ntmps256 rfl rfl ?_;have f:=XhC h.pool.good;refine ζa rfl (ζl hb rfl (ζg rfl (fun c => ?_) fun c => ?_))
 ·have a:E≠0:=by simpa using c
  rw [if_neg a];exact ζr Tryz.func256 rfl ⟨h,Chg.refl _ _⟩
 ·have a:E=0:=by simpa using c
  rw [if_pos a];refine ζw (XoY h) rfl (ζw (XoY h) rfl ?_);have e1:(if (held:Int) > XhB M.pl then (held:Int) else XhB M.pl)=max (XhB M.pl:Int) held:=by split <;> omega
  have e2:(if (held:Int)<XhB M.pl then (held:Int) else XhB M.pl)=min (XhB M.pl:Int) held:=by split <;> omega
  refine ζj rfl ?_;rw [e1,e2];refine ζl h.obj rfl (ζj rfl (ζj rfl (ζc rfl (Xo8 h (3+(max (XhB M.pl:Int) held - min (XhB M.pl:Int) held)*4)) ?_)));rintro _ g ⟨e,d⟩;exact ζa rfl (ζr Tryz.func256 rfl ⟨e,d⟩)
theorem XoO {M:RmM} {k:Nat} {x:Sm} (h:M.shs[k]? = some x):XoN M k x M.pl=M:=by
 have a:=(List.getElem?_eq_some_iff.1 h).1;have e:=(List.getElem?_eq_some_iff.1 h).2;have:M.shs.set k x=M.shs:=by rw [← e]; exact List.set_getElem_self a
 show RmM.mk (M.shs.set k x) M.pl M.lg M.tot=M
 rw [this]
theorem Xbd.wide {F F':Nat→Prop} {w:World} {R:Rm} {M:RmM} (h:Xbd F w R M) (hc:∀ z,F' z→F z∨w.heap.size≤z):∀ z,z<w.heap.size→F' z→F z:=fun z b a=>(hc z a).elim id (fun h=>by omega)
theorem Xo9 {F F2:Nat→Prop} {w w1 w3 w4:World} {R:Rm} {M2:RmM} (hc01:Chg XaW w w1) (hF2:∀ z,F2 z→F z∨w1.heap.size≤z) (hc13:Chg F w w3) (h4:Xbd F2 w4 R M2) (hc34:Chg F2 w3 w4):Xbe F w w4 R M2:=by
 have c:=hc01.size;refine ⟨F2,h4,fun z a=>(hF2 z a).imp id (fun h=>by omega),hc13.since hc34 fun z a b => ?_⟩;rcases hF2 z b with h | h
 ·exact h
 ·omega
theorem Xo5 {F:Nat→Prop} {w:World} {R:Rm} {M:RmM} (h:Xbd F w R M) (k who:Int):Xan Tryz.prog 204 #[rmV R,.int .i64 k,.int .i64 who] w
 (fun v w'=>v = .tuple #[.int .i64 (XoS M k who),.int .i64 (XoQ M k who),.int .i64 (XoR M k who)]∧Xbe F w w' R (XoP M k who)):=by
 have p:=XhC h.pool.good;refine ζe Tryz.func204 Tryz.ntmps204 rfl (ζn rfl fun b I e1 m a a1 => ?_);have n:=h.grow a;have f:¬ F b:=fun d=>by have:=h.low b d; omega
 refine ζw (XoY n) rfl (Xay.defer rfl rfl (ζa rfl (ζw (Xpa n k) rfl ?_)));unfold rsV XoS XoQ XoR XoP;cases S:Xoh M k with
 |none =>
  refine ζw (Xqg who I) rfl (ζs m rfl fun J c q a2 => ?_);have B:=h.note n (Xih m) (by omega) f q (by decide);have g:=Xo7 B (XhB M.pl) b 1 c p;refine Xay.retD hTT rfl Tryz.func204 rfl (Xid (args := [rmV R,.int .i64 (XhB M.pl:Nat),.pointer (some ⟨b,0,none⟩)]) (captured := []) g.fn) (g.mono fun _ T ⟨C,r⟩ => ?_);exact ⟨_,.tmp rfl (.tmp rfl (.one rfl rfl rfl (Xd6 (r.heap c f)) .nil)),rfl,Xo9 a (fun z h => .inl h) ((a.mono fun _ _ h=>h.elim).since q (fun z d e=>by omega)) C r⟩
 |some x =>
  obtain ⟨j,rfl,hj,K⟩:=Xon S;obtain ⟨G,_,L,D,N⟩:=n.shelf K;refine ζc rfl (Xqf (R.S j) G x M.pl who I L) ?_;rintro _ J ⟨rfl,G',O,s,P⟩;refine ζa rfl ?_;obtain ⟨e2,e3,e4,e5⟩:=XsJ x M.pl who h.pool.good L.ok.cls;obtain ⟨U,B,t,E⟩:=N J G' (XpW x M.pl who) (Xp0 x M.pl who) O s P e2 e3 e4 e5;have i:¬ U b:=fun d=>(t b d).elim f (fun h=>by have:=XjD m; omega);have Q:¬ Xb5 (R.S j) G x.pg b:=fun d=>f (D b d);have c:=s.heap m Q;refine ζs c rfl fun T u y a3 => ?_;have C:=h.note B (Xih c) (by omega) i y (by decide);have g:=Xo7 C (XhB M.pl) b (XpY x M.pl who) u p;refine Xay.retD hTT rfl Tryz.func204 rfl (Xid (args := [rmV R,.int .i64 (XhB M.pl:Nat),.pointer (some ⟨b,0,none⟩)]) (captured := []) g.fn) (g.mono fun _ w4 ⟨V,A⟩ => ?_);refine ⟨_,.tmp rfl (.tmp rfl (.one rfl rfl rfl (Xd6 (A.heap u i)) .nil)),rfl,?_⟩;have H:=((a.mono fun _ _ h=>h.elim).trans E).since y (fun z d e=>by omega);have l:=Xo9 a t H V A;simp only [Int.toNat_natCast];by_cases o:XpY x M.pl who=0
  ·rw [if_pos o] at l ⊢;exact l
  ·rw [if_neg o] at l ⊢;have W:XpW x M.pl who=x:=by unfold XpW; rw [if_neg o]
   have t2:Xp0 x M.pl who=M.pl:=by unfold Xp0; rw [if_neg o]
   rw [W,t2,XoO K] at l;exact l
theorem XpK {x:Sm} {pl:PlM} {n i:Int} (h:XpI x n i≠0):XpH x n i=x∧XpJ x pl n i=pl:=by
 unfold XpI at h;unfold XpH XpJ;cases a:XqN x.pg n with
 |none=>exact ⟨rfl,rfl⟩
 |some p =>
  rw [a] at h;simp only at h ⊢
  rw [if_neg h,if_neg (fun e=>h e.1)];exact ⟨rfl,rfl⟩
theorem XoX {F:Nat→Prop} {w:World} {R:Rm} {M:RmM} (h:Xbd F w R M) (k n i:Int):Xan Tryz.prog 208 #[rmV R,.int .i64 k,.int .i64 n,.int .i64 i] w
 (fun v w'=>v = .int .i64 (Xop M k n i)∧Xbe F w w' R (Xoo M k n i)):=by
 have q:=XhC h.pool.good;refine ζe Tryz.func208 Tryz.ntmps208 rfl (ζn rfl fun b L e1 o c a3 => ?_);have p:=h.grow c;have f:¬ F b:=fun a=>by have:=h.low b a; omega
 refine ζw (XoY p) rfl (Xay.defer rfl rfl (ζa rfl (ζw (Xpa p k) rfl ?_)));unfold rsV Xop Xoo;cases U:Xoh M k with
 |none =>
  refine ζw (Xp5 n i L) rfl (ζs o rfl fun N d r a4 => ?_);have C:=h.note p (Xih o) (by omega) f r (by decide);have g:=Xo7 C (XhB M.pl) b 1 d q;refine Xay.retD hTT rfl Tryz.func208 rfl (Xid (args := [rmV R,.int .i64 (XhB M.pl:Nat),.pointer (some ⟨b,0,none⟩)]) (captured := []) g.fn) (g.mono fun _ V ⟨D,s⟩ => ?_);exact ⟨_,.one rfl rfl rfl (Xd6 (s.heap d f)) .nil,rfl,Xo9 c (fun z h => .inl h) ((c.mono fun _ _ h=>h.elim).since r (fun z a e=>by omega)) D s⟩
 |some x =>
  obtain ⟨j,rfl,hj,O⟩:=Xon U;obtain ⟨G,_,E,H,P⟩:=p.shelf O;refine ζc rfl (Xp4 (R.S j) G x M.pl n i L E) ?_;rintro _ N ⟨rfl,Q,t,S⟩;refine ζa rfl ?_;obtain ⟨e2,e3,e4,e5⟩:=XgJ x M.pl n i E.ok E.of;obtain ⟨W,C,u,I⟩:=P N G (XpH x n i) (XpJ x M.pl n i) Q t (fun z a => .inl (S z a)) e2 e3 e4 e5;have l:¬ W b:=fun a=>(u b a).elim f (fun h=>by have:=XjD o; omega);have T:¬ Xb5 (R.S j) G x.pg b:=fun a=>f (H b a);have d:=t.heap o T;refine ζs d rfl fun V y A a5 => ?_;have D:=h.note C (Xih d) (by omega) l A (by decide);have g:=Xo7 D (XhB M.pl) b (XpI x n i) y q;refine Xay.retD hTT rfl Tryz.func208 rfl (Xid (args := [rmV R,.int .i64 (XhB M.pl:Nat),.pointer (some ⟨b,0,none⟩)]) (captured := []) g.fn) (g.mono fun _ w4 ⟨h4,B⟩ => ?_);refine ⟨_,.one rfl rfl rfl (Xd6 (B.heap y l)) .nil,rfl,?_⟩;have J:=((c.mono fun _ _ h=>h.elim).trans I).since A (fun z a e=>by omega);have m:=Xo9 c u J h4 B;simp only [Int.toNat_natCast];by_cases K:XpI x n i=0
  ·rw [if_pos K] at m ⊢;exact m
  ·rw [if_neg K] at m ⊢;obtain ⟨t1,t2⟩:=XpK (pl:=M.pl) K;rw [t1,t2,XoO O] at m;exact m
structure XaN (c:Conf):Prop where
 size:64≤c.size∧c.size≤4096
 pages:1≤c.pages∧c.pages≤1024
 n:1≤c.classes.length∧c.classes.length≤16
 keep:c.keep.length=c.classes.length
 most:1≤c.most∧c.most≤2097152
theorem Xj2 {c:Conf} (h:XjY c=true):XaN c:=by
 unfold XjY at h;simp only [Bool.and_eq_true,decide_eq_true_eq,Xuj] at h;obtain ⟨⟨⟨⟨⟨⟨⟨b,e⟩,f⟩,g,_⟩,_⟩,_⟩,_⟩,i⟩:=h;have k:=XeO f;have a:=Xqv.1 b;have hm:Xit c≤2097152:=by
  unfold Xit;rw [if_pos b];have j:c.size / 8≤512:=by omega
  have d:0≤c.size / 8:=by omega
  calc c.size*(c.size / 8)≤4096*(c.size / 8):=Int.mul_le_mul_of_nonneg_right a.2.1 d
   _≤4096*512:=Int.mul_le_mul_of_nonneg_left j (by omega)
   _=2097152:=by omega
 exact ⟨⟨a.1,a.2.1⟩,e,by omega,g,i.1,by omega⟩
theorem Xb7 {c:Conf} (h:XaN c) {n:Int} (hn:n≤c.most):0≤Xb6 n c.size∧Xb6 n c.size≤2097153:=by
 unfold Xb6 XjR;have b:=h.size;have hm:=h.most;by_cases a:n<1∨c.size<1
 ·rw [if_pos a]; simp
 ·rw [if_neg a];have d:0≤(n - 1) / c.size:=Int.ediv_nonneg (by omega) (by omega);have e:(n - 1) / c.size≤n - 1:=Int.ediv_le_self _ (by omega);split <;> omega
theorem XoW {F:Nat→Prop} {w:World} {R:Rm} {M:RmM} (h:Xbd F w R M) (size:Int):Xan Tryz.prog 95 #[rmV R,.int .i64 size] w (Grow (.int .i64 (Xog R.c M size)) w):=by
 have l:=Xj2 h.may;have o:=l.n;have p:=l.most;refine ζe Tryz.func95 Tryz.ntmps95 rfl (ζg rfl (fun j => ?_) fun j => ?_)
 ·have e:Xog R.c M size=3:=by unfold Xog; rw [if_pos (.inl (of_decide_eq_true j))]
  rw [e];exact ζr Tryz.func95 rfl ⟨rfl,Chg.refl _ _⟩
 ·have q:=of_decide_eq_false j;refine ζl h.obj rfl (ζg rfl (fun k => ?_) fun k => ?_)
  ·have e:Xog R.c M size=3:=by unfold Xog; rw [if_pos (.inr (of_decide_eq_true k))]
   rw [e];exact ζr Tryz.func95 rfl ⟨rfl,Chg.refl _ _⟩
  ·have r:=of_decide_eq_false k;have e3:Xog R.c M size=if (M.pl.free.length:Int)<Xos R.c M size then 5 else 0:=by unfold Xog; rw [if_neg (by omega)]
   rw [e3];refine ζd 16 XaW (by kernel_rfl) rfl fun f=>δl f h.obj rfl (δv f (fun w' i=>XeQ R.p.ca R.p.cc R.c.classes size w' (h.cls.1.chg i) (by omega)) rfl (δl f h.obj rfl (δw f (fun w' i=>Xea size R.c.size w' (by omega)) rfl (δn f rfl fun m a => ?_))));have b:=h.grow a;by_cases g:XmF R.c.classes size = -1
   ·have e4:Xos R.c M size=Xb6 size R.c.size:=by unfold Xos; rw [if_pos g]
    rw [e4];refine ζF rfl (by rw [g]; rfl) (ζl b.obj rfl (ζv (Xnc R.P M.pl m b.pool) rfl fun n c=>ζg rfl (fun d => ?_) fun d => ?_))
    ·rw [if_pos (of_decide_eq_true d)];exact ζr Tryz.func95 rfl ⟨rfl,a.trans c⟩
    ·rw [if_neg (of_decide_eq_false d)];exact ζr Tryz.func95 rfl ⟨rfl,a.trans c⟩
   ·have e4:Xos R.c M size=1 - min (Xot M (XmF R.c.classes size):Int) 1:=by unfold Xos; rw [if_neg g]
    rw [e4];refine ζY rfl (by simpa using g) (ζw (Xo0 b (XmF R.c.classes size)) rfl ?_);have e5:(if (1:Int)<(Xot M (XmF R.c.classes size):Nat) then (1:Int) else (Xot M (XmF R.c.classes size):Nat))=min ((Xot M (XmF R.c.classes size):Nat):Int) 1:=by split <;> omega
    rw [e5];refine ζj rfl (ζl b.obj rfl (ζv (Xnc R.P M.pl m b.pool) rfl fun n c=>ζg rfl (fun d => ?_) fun d => ?_))
    ·rw [if_pos (of_decide_eq_true d)];exact ζr Tryz.func95 rfl ⟨rfl,a.trans c⟩
    ·rw [if_neg (of_decide_eq_false d)];exact ζr Tryz.func95 rfl ⟨rfl,a.trans c⟩
theorem XqF (a a':Option Addr) (c c':Nat) (x y:List Int) (w:World) (hr:Rd .i64 w a x) (hr':Rd .i64 w a' y) (hl:x.length≤9223372036854775807):Xan Tryz.prog 246 #[.slice a x.length c,.slice a' y.length c'] w (Grow (.bool (decide (x=y))) w):=by
 refine ζe Tryz.func246 Tryz.ntmps246 rfl (ζg rfl (fun n => ?_) fun n => ?_)
 ·have q:x.length≠y.length:=by simp at n; omega
  have:x≠y:=fun e=>q (by rw [e]);exact ζr Tryz.func246 rfl ⟨XdL (decide_eq_false this).symm,Chg.refl _ _⟩
 ·have o:x.length=y.length:=by simp at n; omega
  refine Xay.loop (α:=Nat) (fun k => [(0,false,.slice a x.length c),(1,false,.slice a' y.length c'),(12,false,.int .i64 x.length),(13,false,.int .i64 k)])
   (fun k w'=>Chg XaW w w'∧k≤x.length ∧ ∀ j,j<k→x.getD j 0=y.getD j 0) (fun k=>x.length - k) 0 ⟨rfl,rfl,rfl,rfl,trivial⟩ ⟨Chg.refl _ _,Nat.zero_le _,fun _ h=>by omega⟩ ?_
  rintro k A ⟨d,B,f⟩ ih;refine ζa rfl (ζg rfl (fun h => ?_) fun h => ?_)
  ·have l:k<x.length:=by simpa using h
   obtain ⟨b,off,rfl,s⟩:=(hr.chg d) k l;obtain ⟨b',off',rfl,r⟩:=(hr'.chg d) k (by omega);refine ζd 9 XaW (by kernel_rfl) rfl fun g=>δi k g rfl (δk g s rfl (δi k g rfl (δk g r rfl (δn g rfl fun C m=>ζg rfl (fun i => ?_) fun i => ?_))))
   ·have p:x.getD k 0≠y.getD k 0:=by simpa using i
    have:x≠y:=fun e=>p (by rw [e]);exact ζr Tryz.func246 rfl ⟨XdL (decide_eq_false this).symm,d.trans m⟩
   ·have t:x.getD k 0=y.getD k 0:=by simpa using i
    refine ζj rfl ?_;exact ih (k+1) _ _ ⟨d.trans m,l,fun j D=>by
     by_cases e:j=k
     ·subst e; exact t
     ·exact f j (by omega)⟩ (by omega) ⟨rfl,rfl,rfl,rfl,trivial⟩
  ·have z:k=x.length:=by simp at h; omega
   have:x=y:=List.ext_getElem o fun j u v=>by
    have:=f j (by omega);rw [Xgw u,Xgw v] at this;exact this
   exact ζr Tryz.func246 rfl ⟨XdL (decide_eq_true this).symm,d⟩
theorem XqB (a:Option Addr) (cap:Nat) (x:List Int) (w:World) (hr:Rd .i64 w a x) (hl:x.length≤1048576) (hn:∃ a1,a=some a1):Xan Tryz.prog 85 #[.slice a x.length cap] w
 (fun v w' => ∃ g c,v = .slice (some ⟨g,0,none⟩) x.length c∧w.heap.size≤g∧Rd .i64 w' (some ⟨g,0,none⟩) x∧kd w' g=some (some 3)∧Chg XaW w w'):=by
 have q:maxLen=9223372036854775807:=rfl;obtain ⟨a1,rfl⟩:=hn;refine Xan.enter Tryz.func85 rfl Tryz.ntmps85 rfl rfl ?_;refine ζa rfl ?_;refine Xay.no hTT rfl rfl rfl ?_;refine Xay.buildSlice hTT rfl ?_;intro b m e1 n d r;refine ζa rfl ?_;subst e1;have h:Own w.heap.size 3 1 m (.slice (some ⟨w.heap.size,0,none⟩) 0 0) 0 []:=Own.empty (Nat.le_refl _) n;refine Xay.append (base:=w.heap.size) (xs := []) (news:=x.map (Value.int .i64)) hTT rfl h (by omega) (by simp) (hr.chg d).cells Xm4 ⟨by omega,by show (0+x.length)*8≤_; omega⟩ ?_;intro v s f i j;refine ζa rfl ?_;rw [Nat.zero_add,List.nil_append] at f;have o:=h.since d (Nat.le_refl _) i;rcases f.2 with ⟨e,_⟩ | ⟨g,c,cur,rfl,p,k,t,u,_,l⟩
 ·have:=(j.1.1 e).1; cases this
 ·exact Xay.ret1 hTT rfl Tryz.func85 rfl rfl ⟨g,c,rfl,p,Rd.of_take k (by rw [Nat.mul_one] at l; exact l),Xih k,o⟩
theorem XqG (k:Nat) (w:World) (hk:0<k) (hb:k≤1048576):Xan Tryz.prog 288 #[.slice none 0 0,.int .i64 (k:Int)] w
 (fun v w'=>Own w.heap.size 3 1 w' v 0 []∧Chg XaW w w'∧v.ownBlock=some w.heap.size∧v ≠ .slice none 0 0):=by
 refine ζe Tryz.func288 Tryz.ntmps288 rfl (ζf rfl (Xay.cap hTT rfl (ζa rfl (ζj rfl (ζj rfl (ζy rfl (Xay.cap hTT rfl (ζa rfl ?_))))))));rw [show (k:Int) - (((0:Nat):Int) - ((0:Nat):Int))=(k:Nat) from by omega];refine Xay.slice hTT rfl (l:=0) (h:=0) (by first | rfl | omega | simp [loV]) (by first | rfl | omega | simp [hiV]) (by omega) (by omega) rfl (Xay.appendZ (k:=k) hTT rfl hk (by show k*8≤_; omega) (by omega) fun cap cur g a d e b c f=>ζa rfl (Xay.slice hTT rfl (l:=0) (h:=0) (by first | rfl | omega | simp [loV]) (by first | rfl | omega | simp [hiV]) (by omega) (by omega) rfl ?_));have es:Xqm (some ⟨w.heap.size,0,none⟩) cap 0 1=some ⟨w.heap.size,0,none⟩:=by
  unfold Xqm;split
  ·omega
  ·rfl
 show Xay _ _ _ _ _ _ ((4,false,.slice (Xqm (some ⟨w.heap.size,0,none⟩) cap 0 1) 0 cap)::_) _
 rw [es];exact ζr Tryz.func288 rfl ⟨⟨rfl,.inr ⟨w.heap.size,cap,cur,rfl,Nat.le_refl _,c,by omega,b,by omega,by simp⟩⟩,a,rfl,by simp⟩
structure Sl where
 a:Option Addr
 cap:Nat
 x:List Int
abbrev slV (l:Sl):Value := .slice l.a l.x.length l.cap
def Xd2 (ls:List Sl):List Int:=(ls.map (·.x)).flatten
theorem Xd4 {ls:List Sl} {i:Nat} (h:i<ls.length):Xd2 (ls.take (i+1))=Xd2 (ls.take i)++ls[i].x:=by
 unfold Xd2;rw [List.take_add_one,List.getElem?_eq_getElem h,List.map_append,List.flatten_append]
 simp
theorem Xd3 (ls:List Sl) (i:Nat):(Xd2 (ls.take i)).length≤(Xd2 ls).length:=by
 have:Xd2 ls=Xd2 (ls.take i)++Xd2 (ls.drop i):=by
  unfold Xd2;rw [← List.flatten_append,← List.map_append,List.take_append_drop]
 rw [this,List.length_append];omega
theorem XqC (ob:Nat) (ls:List Sl) (w:World) (h:∀ i (hi:i<ls.length),w.cell? ⟨ob,i,none⟩=some (slV ls[i])) (hr:∀ l ∈ ls,Rd .i64 w l.a l.x) (hn:ls.length≤1024) (hpos:0<(Xd2 ls).length) (hb:(Xd2 ls).length≤1048576):Xan Tryz.prog 247 #[.slice (some ⟨ob,0,none⟩) ls.length ls.length] w
 (fun v w' => ∃ g c,v = .slice (some ⟨g,0,none⟩) (Xd2 ls).length c∧w.heap.size≤g∧Rd .i64 w' (some ⟨g,0,none⟩) (Xd2 ls)∧Chg XaW w w'):=by
 have M:maxLen=9223372036854775807:=rfl;refine ζe Tryz.func247 Tryz.ntmps247 rfl ?_;refine Xay.loop (α:=Nat) (fun k => [(0,false,.slice (some ⟨ob,0,none⟩) ls.length ls.length),(3,false,.int .i64 (Xd2 (ls.take k)).length),(9,false,.slice (some ⟨ob,0,none⟩) ls.length ls.length),(10,false,.int .i64 ls.length),(11,false,.int .i64 k)])
  (fun k w'=>w'=w∧k≤ls.length) (fun k=>ls.length - k) 0 ⟨rfl,rfl,rfl,rfl,rfl,trivial⟩ ⟨rfl,Nat.zero_le _⟩ ?_
 rintro k m ⟨G,P⟩ ih;subst G;refine ζa rfl (ζg rfl (fun r => ?_) fun r => ?_)
 ·have a:k<ls.length:=by simpa using r
  have t:=Xd3 ls (k+1);have q:=congrArg List.length (Xd4 a);rw [List.length_append] at q;refine ζi k rfl (ζk rfl (show m.cell? ⟨ob,0+k,none⟩=_ from by rw [Nat.zero_add]; exact h k a) rfl (ζj rfl (ζf rfl (ζj rfl ?_))));exact ih (k+1) _ _ ⟨rfl,a⟩ (by omega) ⟨rfl,congrArg (fun z=>some (Value.int .i64 z)) (show ((Xd2 (ls.take k)).length:Int)+(ls[k].x.length:Int)=((Xd2 (ls.take (k+1))).length:Int) from by rw [q]; omega),rfl,rfl,rfl,trivial⟩
 ·have n:k=ls.length:=by simp at r; omega
  subst n;rw [List.take_length];refine ζc rfl (XqG (Xd2 ls).length m hpos hb) ?_;rintro v Q ⟨H,x,N,y⟩;refine ζa rfl ?_;refine Xay.loop (α:=Nat × Value) (fun p => [(6,false,p.2),(25,false,.slice (some ⟨ob,0,none⟩) ls.length ls.length),(26,false,.int .i64 ls.length),(27,false,.int .i64 p.1)])
   (fun p w'=>p.1≤ls.length∧Own m.heap.size 3 1 w' p.2 (Xd2 (ls.take p.1)).length ((Xd2 (ls.take p.1)).map (Value.int .i64))∧p.2 ≠ .slice none 0 0∧Chg XaW m w') (fun p=>ls.length - p.1) (0,v) ⟨rfl,rfl,rfl,rfl,trivial⟩ ⟨Nat.zero_le _,H,y,x⟩ ?_
  rintro ⟨i,u⟩ I ⟨hi,d,A,f⟩ ih;simp only at hi d A
  refine ζa rfl (ζg rfl (fun s => ?_) fun s => ?_)
  ·have a:i<ls.length:=by simpa using s
   have t:=Xd3 ls (i+1);have q:=congrArg List.length (Xd4 a);rw [List.length_append] at q;have o:=(hr ls[i] (List.getElem_mem a)).chg f;refine ζi i rfl (ζk rfl (show I.cell? ⟨ob,0+i,none⟩=_ from by rw [Nat.zero_add]; exact f.cell (h i a) id) rfl ?_);refine Xay.appendA (base:=m.heap.size) (xs:=(Xd2 (ls.take i)).map (Value.int .i64)) (news:=ls[i].x.map (Value.int .i64)) hTT rfl d f.size (fun e=>by
    by_cases J:0<ls[i].x.length
    ·obtain ⟨b,off,e',_⟩:=o 0 J;rw [e] at e'; cases e'
    ·omega) (by simp) (fun j u B=>by
    have O:j<ls[i].x.length:=by have:=(List.getElem?_eq_some_iff.1 B).1; simpa using this
    obtain ⟨b,off,e',_⟩:=o 0 (by omega);exact ⟨_,e',(Rd.cells (e'▸o)) j u B⟩) Xm4 ⟨by omega,by show (_+_)*8≤_; omega⟩ ?_
   intro u' R C D E;exact ζa rfl (ζj rfl (ih (i+1,u') _ _ ⟨a,by rw [Xd4 a,List.length_append,List.map_append]; exact C,fun e=>A (E.1.1 e).1,d.since f (Nat.le_refl _) D⟩ (by simp only; omega) ⟨rfl,rfl,rfl,rfl,trivial⟩))
  ·have n:i=ls.length:=by simp at s; omega
   subst n;rw [List.take_length] at d;obtain ⟨g,c,cur,rfl,K,L,S,T,F⟩:=d.form hpos;exact ζr Tryz.func247 rfl ⟨g,c,rfl,K,Rd.of_take L (by rw [Nat.mul_one] at F; exact F),f⟩
structure Plc where
 cls:Int
 page:Int
 idx:Int
 pa:Option Addr
 pc:Nat
 pages:List Int
def Xm9 (q:Plc):List Value := [.int .i64 q.cls,.int .i64 q.page,.int .i64 q.idx,.slice q.pa q.pages.length q.pc]
structure Xa4 (w:World) (q:Plc):Prop where
 rd:Rd .i64 w q.pa q.pages
 len:q.pages.length≤9223372036854775807
abbrev Xm8 (w:World) (b:Nat) (q:Plc):Prop:=w.heap[b]? = some (.cells (Xm9 q).toArray 98 (0,0))
theorem Xa4.grow {w w':World} {q:Plc} (h:Xa4 w q) (hc:Chg XaW w w'):Xa4 w' q:=⟨h.rd.chg hc,h.len⟩
theorem XaI.put {F:Nat→Prop} {w w':World} {lm:Nat} {lg:List (Nat × List Nat)} {n cap:Nat} {r:List Nat} {a:Option Addr} (h:XaI F w lm lg) (hc:Chg (fun z=>z=lm) w w') (hm':∀ m,XaL w lm m→XaL w' lm (Xcu m n (.slice a r.length cap))) (hnew:∀ e ∈ lg,e.1≠n)
 (hr:Rd .i64 w' a (XkJ r)) (hmine:XaP F w' a):XaI F w' lm (lg ++ [(n,r)]):=by
 have l:=Xij h;obtain ⟨m,o,p,q,i⟩:=h;have c:=i n fun e he e'=>hnew e he (by omega);refine ⟨_,hm' m o,?_,fun e he => ?_,fun k d => ?_⟩
 ·rw [Xb4,if_neg (Xcf.1 c)];exact List.nodup_append.2 ⟨p,by simp,fun x t y j e=>by
   rw [List.mem_singleton] at j; subst j; subst e;exact Xcf.1 c t⟩
 ·rcases List.mem_append.1 he with he | he
  ·obtain ⟨a',cap',u,v,g⟩:=q e he;have f:∀ b off s,a'=some ⟨b,off,s⟩→b≠lm:=fun b off s e'=>Xin (g b off s e').1 l (by simp);refine ⟨a',cap',by rw [Xcg,if_neg (by have:=hnew e he; omega)]; exact u,v.far f hc,fun b off s e'=>⟨Xii hc (g b off s e').1 (f b off s e'),(g b off s e').2⟩⟩
  ·rw [List.mem_singleton] at he; subst he;exact ⟨a,cap,by rw [Xcg,if_pos rfl],hr,hmine⟩
 ·rw [Xcg,if_neg (fun e=>d (n,r) (by simp) e.symm)];exact i k fun e he=>d e (by simp [he])
theorem XaI.del {F:Nat→Prop} {w w':World} {lm:Nat} {lg:List (Nat × List Nat)} {n:Nat} (h:XaI F w lm lg) (hc:Chg (fun z=>z=lm) w w') (hm':∀ m,XaL w lm m→XaL w' lm (XbR m n)):XaI F w' lm (XiS lg n):=by
 have j:=Xij h;obtain ⟨m,l,c,o,p⟩:=h;refine ⟨_,hm' m l,by rw [Xb3]; exact c.erase _,fun e d => ?_,fun k g => ?_⟩
 ·obtain ⟨d,a⟩:=List.mem_filter.1 d;have q:e.1≠n:=by simpa using a
  obtain ⟨a',cap',r,t,f⟩:=o e d;have a:∀ b off s,a'=some ⟨b,off,s⟩→b≠lm:=fun b off s e'=>Xin (f b off s e').1 j (by simp);exact ⟨a',cap',by rw [Xcd c,if_neg (by omega)]; exact r,t.far a hc,fun b off s e'=>⟨Xii hc (f b off s e').1 (a b off s e'),(f b off s e').2⟩⟩
 ·rw [Xcd c];by_cases e:k=n
  ·rw [if_pos e]
  ·rw [if_neg e];refine p k fun e' i e2 => ?_;by_cases e3:e'.1=n
   ·exact e (by omega)
   ·exact g e' (List.mem_filter.2 ⟨i,by simpa using e3⟩) e2
theorem Xqn {a:Option Addr} {cap l sz:Nat} {b off:Nat} {s} (h:Xqm a cap l sz=some ⟨b,off,s⟩):∃ off' s',a=some ⟨b,off',s'⟩:=by
 unfold Xqm at h;by_cases c:cap=l
 ·rw [if_pos c] at h; exact ⟨off,s,h⟩
 ·rw [if_neg c] at h;cases a with
  |none=>cases h
  |some x =>
   obtain ⟨xb,xo,xs⟩:=x;simp only [Option.map_some,Option.some.injEq] at h;have:xb=b:=by
    have:=congrArg Addr.block h;unfold Addr.add at this;split at this <;> exact this
   subst this;exact ⟨xo,xs,rfl⟩
theorem XlA {l:List Nat} {w:World} {base m:Nat} {v:Value} (h:Own base 3 1 w v m ((XkJ l).map (Value.int .i64))) (hm:l.length=m) (hp:0<m):∃ g cap,v = .slice (some ⟨g,0,none⟩) m cap∧base≤g∧m≤cap∧cap≤maxLen∧kd w g=some (some 3)∧Rd .i64 w (some ⟨g,0,none⟩) (XkJ l):=by
 obtain ⟨g,cap,cur,e,c,a,d,f,b⟩:=h.form hp;have i:(XkJ l).length=m:=by unfold XkJ; rw [List.length_map]; exact hm
 exact ⟨g,cap,e,c,d,f,Xih a,Rd.of_take a (by rw [i]; rw [Nat.mul_one] at b; exact b)⟩
theorem XkK (l r:List Nat):XkJ (l++r)=XkJ l++XkJ r:=by unfold XkJ; rw [List.map_append]
theorem XkL (l:List Nat):(XkJ l).length=l.length:=by unfold XkJ; rw [List.length_map]
def Xa2 (F:Nat→Prop) (w w':World) (R:Rm) (M:RmM) (q:Plc):Prop := ∃ F',Xbd F' w' R M∧(∀ z,F' z→F z∨w.heap.size≤z)∧Chg F w w'∧Xa4 w' q∧XaX F' q.pa ∧ ∀ b off s,q.pa=some ⟨b,off,s⟩→w.heap.size≤b∧kd w' b=some (some 3)
def Xnb (q:Plc):PlcM:=⟨q.cls,q.page,q.idx,q.pages⟩
theorem Xo3 {F:Nat→Prop} {w:World} {R:Rm} {M:RmM} (h:Xbd F w R M) (who size:Int):Xan Tryz.prog 158 #[rmV R,.int .i64 who,.int .i64 size] w
 (fun v w' => ∃ q:Plc,v = .tuple #[.agg (Xm9 q).toArray,.int .i64 (XoD R.c M who size)]∧Xnb q=XoE R.c M who size∧Xa2 F w w' R (XoC R.c M who size) q):=by
 have da:maxLen=9223372036854775807:=rfl;have hf:=Xj2 h.may;have db:=hf.size;have dc:=hf.n;have dd:=hf.most;have noq:∀ {F':Nat→Prop} {w':World} (c i j:Int),Xa4 w' ⟨c,i,j,none,0,[]⟩∧XaX F' none ∧ ∀ b off s,(none:Option Addr)=some ⟨b,off,s⟩→w.heap.size≤b∧kd w' b=some (some 3):=fun c i j=>⟨⟨Rd.nil _ _ _,by simp⟩,⟨(fun _ _ _ e=>by cases e),(fun _ _ _ e=>by cases e)⟩⟩;refine Xan.enter Tryz.func158 rfl Tryz.ntmps158 rfl rfl ?_;refine ζa rfl ?_;refine Xay.alloc hTT rfl ?_;intro b w1 e1 hb P de;refine ζa rfl ?_;have B:¬ F b:=fun d=>by have:=h.low b d; omega
 have bm:Chg F w w1:=P.mono fun _ _ h=>h.elim;by_cases u:who<0
 ·have ac:XoD R.c M who size=1∧XoE R.c M who size=⟨0,0,0,[]⟩∧XoC R.c M who size=M:=by
   unfold XoD XoE XoC; rw [if_pos u,if_pos u,if_pos u]; exact ⟨rfl,rfl,rfl⟩
  rw [ac.1,ac.2.1,ac.2.2];refine Xay.yes hTT rfl (decide_eq_true u) rfl ?_;refine Xay.build hTT rfl rfl ?_;refine Xay.store hTT rfl hb rfl rfl ?_;intro D Q ad df;refine ζa rfl ?_;have h2:=h.note (h.grow P) (Xih hb) (by omega) B ad (by decide);exact ζq rfl Tryz.func158 (Xa9.cell rfl rfl rfl Q rfl (.tmp rfl .nil)) ⟨⟨0,0,0,none,0,[]⟩,rfl,rfl,F,h2,fun z d => .inl d,bm.since ad (fun z d e=>by omega),noq 0 0 0⟩
 ·refine Xay.no hTT rfl (decide_eq_false u) rfl ?_;refine ζc rfl (XoW (h.grow P) size) ?_;rintro _ D ⟨rfl,ae⟩;refine ζa rfl ?_;have h2:=(h.grow P).grow ae;have Q:=ae.heap' hb;have af:=P.trans ae;by_cases n:Xog R.c M size=0
  ·have bn:¬ (size<1∨R.c.most<size)∧Xos R.c M size≤M.pl.free.length:=by
    unfold Xog at n;split at n
    ·cases n
    ·split at n
     ·cases n
     ·refine ⟨by assumption,by omega⟩
   have J:¬ (Xog R.c M size≠0):=fun h=>h n;refine Xay.no hTT rfl (by rw [n]; rfl) rfl ?_;refine Xay.loadb hTT rfl h2.obj rfl rfl ?_;refine ζc rfl (XeQ R.p.ca R.p.cc R.c.classes size D h2.cls.1 (by omega)) ?_;rintro _ w3 ⟨rfl,ag⟩;refine ζa rfl ?_;have o:=h2.grow ag;have T:=ag.heap' Q;have a1:=af.trans ag;by_cases L:XmF R.c.classes size = -1
   ·have G:XoD R.c M who size=0∧XoE R.c M who size=⟨-1,(M.pl.free.getD 0 0:Nat),0,XkJ (M.pl.free.take (Xb6 size R.c.size).toNat).tail⟩∧XoC R.c M who size=Xob M (Xb6 size R.c.size).toNat:=by
     exact ⟨by unfold XoD; rw [if_neg u,if_neg J,if_pos L],by unfold XoE; rw [if_neg u,if_neg J,if_pos L],by unfold XoC; rw [if_neg u,if_neg J,if_pos L]⟩
    rw [G.1,G.2.1,G.2.2];have cp:Xos R.c M size=Xb6 size R.c.size:=by unfold Xos; rw [if_pos L]
    have dg:2≤Xb6 size R.c.size:=by
     have h0:0≤(size - 1) / R.c.size:=Int.ediv_nonneg (by omega) (by omega);have h9:(size - 1) / R.c.size≤size - 1:=Int.ediv_le_self _ (by omega);have e4:XjR size R.c.size=(size - 1) / R.c.size+1:=by unfold XjR; rw [if_neg (by omega)]
     unfold Xb6;rw [e4,if_neg (by omega)];omega
    obtain ⟨many,b3⟩:=Int.eq_ofNat_of_zero_le (show 0≤Xb6 size R.c.size by omega);have dh:2≤many:=by omega
    have K:many≤M.pl.free.length:=by have:=bn.2; omega
    have di:M.pl.free.length≤1024:=by have:=h.pool.good.many; have:=h.pool.good.len; omega
    refine Xay.no hTT rfl (by rw [L]; rfl) rfl ?_;refine Xay.loadb hTT rfl o.obj rfl rfl ?_;refine ζc rfl (Xea size R.c.size w3 (by omega)) ?_;rintro _ _ ⟨rfl,rfl⟩;refine ζa rfl ?_;rw [b3,Int.toNat_natCast];have ah:¬ XmK R.P R.rb:=fun d=>h.rf (h.pf _ d);refine Xay.loop (α:=Nat × Value) (fun p => [(0,false,rmV R),(6,false,.pointer (some ⟨b,0,none⟩)),(13,false,p.2),(58,false,.int .i64 many),(59,false,.int .i64 p.1)])
     (fun p w'=>p.1≤many∧Own w3.heap.size 3 1 w' p.2 p.1 ((XkJ (M.pl.free.take p.1)).map (Value.int .i64))∧Xa5 w' R.P (XmX M.pl (M.shs.length:Nat) p.1)∧Chg (XmK R.P) w3 w') (fun p=>many - p.1) (0,.slice none 0 0) ⟨rfl,rfl,rfl,rfl,rfl,trivial⟩ ⟨Nat.zero_le _,⟨rfl,.inl ⟨rfl,rfl⟩⟩,o.pool,Chg.refl _ _⟩ ?_
    rintro ⟨i,v⟩ w4 ⟨hi,a4,ai,r⟩ ih;simp only at hi a4 ai
    refine ζa rfl ?_;refine Xay.fork hTT rfl rfl rfl (fun aj => ?_) (fun aj => ?_)
    ·have c1:i<many:=by simpa using aj
     have ba:i<M.pl.free.length:=by omega
     obtain ⟨q1,q2,q3,q4,q5⟩:=XmZ (who:=(M.shs.length:Nat)) (by omega) h.pool.good i (by omega);have b4:(XmX M.pl (M.shs.length:Nat) i).free=M.pl.free[i]::M.pl.free.drop (i+1):=by rw [q2]; exact List.drop_eq_getElem_cons ba
     obtain ⟨t1,t2,t3⟩:=XmW (who:=(M.shs.length:Nat)) (by omega) b4;have hn:=h.ok.n;have E:=r.heap o.obj ah;refine Xay.drawn (q:=16) (XmK R.P) hTT Xki (by kernel_rfl) rfl ?_;intro f;refine Xaq.loadb hTT f rfl E (by first | exact fun h=>h | (intro h; omega) | assumption) rfl rfl ?_;refine Xaq.loadb hTT f rfl E (by first | exact fun h=>h | (intro h; omega) | assumption) rfl rfl ?_;refine Xaq.turn1 f rfl ?_;intro w5 t;have hd:=Xng R.P _ (M.shs.length:Nat) w5 (ai.grow t);rw [t1,t2] at hd;rw [hn] at hd;refine XbJ.call rfl hd.fn (Post:=fun v D=>v = .tuple #[.int .i64 (M.pl.free[i]:Nat),.int .i64 0]∧Xa5 D R.P (XmX M.pl (M.shs.length:Nat) (i+1))∧Chg (XmK R.P) w5 D) (fun h0=>hd.mono fun v D hp=>⟨h0.trans hp.2.2,hp.1,by rw [hn]; exact hp.2.1,hp.2.2⟩) ?_;rintro _ w6 _ ⟨rfl,al,A⟩;refine Xaq.adv hTT f rfl ?_;refine Xaq.nil f ?_;intro w7 C;refine ζa rfl ?_;refine Xay.buildSlice hTT rfl ?_;intro b8 N e8 U bb dj;refine ζa rfl ?_;have a3:Chg (XmK R.P) w4 N:=(((t.mono fun _ _ h=>h.elim).trans A).trans (C.mono fun _ _ h=>h.elim)).trans (bb.mono fun _ _ h=>h.elim);have cw:=o.pool.lt;have a5:=a4.chg a3 (fun z d hP=>by
      have dk:=(World.ownsRow.lt a4 z d.symm).1;rcases hP with e | e <;> omega)
     have bp:w3.heap.size≤N.heap.size:=(r.trans a3).size;refine Xay.append (base:=w3.heap.size) (xs:=(XkJ (M.pl.free.take i)).map (Value.int .i64)) (news := [.int .i64 (M.pl.free[i]:Nat)]) hTT rfl a5 bp (by simp) (Xd7 U) (by simp [Value.oneCell']) ⟨by omega,by show (i+1)*8≤_; omega⟩ ?_;intro v9 w9 c8 bc dl;refine ζa rfl ?_;refine Xay.arith hTT rfl (w64 (by omega)) rfl ?_;exact ih (i+1,v9) _ _ ⟨c1,by
      have e:(XkJ (M.pl.free.take (i+1))).map (Value.int .i64)=(XkJ (M.pl.free.take i)).map (Value.int .i64) ++ [.int .i64 (M.pl.free[i]:Nat)]:=by
       rw [List.take_add_one,List.getElem?_eq_getElem ba,XkK,List.map_append]; rfl
      rw [e]; exact c8,(al.grow (C.trans bb)).chg bc (fun e=>by have:=(World.ownsRow.lt a5 _ e.symm).1; omega) (fun e=>by have:=(World.ownsRow.lt a5 _ e.symm).1; omega),(r.trans a3).since bc (fun z d e=>by have:=(World.ownsRow.lt a5 z e.symm).1; omega)⟩ (by simp only; omega) ⟨rfl,rfl,rfl,rfl,rfl,trivial⟩
    ·have bq:i=many:=by simp at aj; omega
     subst bq;have am:(M.pl.free.take i).length=i:=by rw [List.length_take]; omega
     obtain ⟨g,cap,rfl,hg,d0,dm,c9,bd⟩:=XlA a4 am (by omega);have a6:¬ F g:=fun d=>by have:=o.low g d; omega
     have V:∀ {w':World},Rd .i64 w' (some ⟨g,0,none⟩) (XkJ (M.pl.free.take i))→w'.cell? ⟨g,0+0,none⟩=some (.int .i64 (M.pl.free.getD 0 0:Nat)):=fun {w'} hr=>by
      obtain ⟨b',off',e',hc⟩:=hr 0 (by rw [XkL]; omega);cases e'
      have e:(XkJ (M.pl.free.take i)).getD 0 0=((M.pl.free.getD 0 0:Nat):Int):=by
       cases an:M.pl.free with
       |nil=>rw [an] at K; simp at K; omega
       |cons x y =>
        obtain ⟨j,rfl⟩:∃ j,i=j+1:=⟨i - 1,by omega⟩;rfl
      rw [e] at hc;exact hc
     have W:∀ {w':World},Rd .i64 w' (some ⟨g,0,none⟩) (XkJ (M.pl.free.take i))→Rd .i64 w' (Xqm (some ⟨g,0,none⟩) cap 1 1) (XkJ (M.pl.free.take i).tail):=fun {w'} hr=>by
      have:=hr.shift (cap:=cap) (l:=1) (m:=i - 1) (by rw [XkL]; omega) (by rw [XkL]; omega);have e:((XkJ (M.pl.free.take i)).drop 1).take (i - 1)=XkJ (M.pl.free.take i).tail:=by
       have e1:(XkJ (M.pl.free.take i)).drop 1=XkJ (M.pl.free.take i).tail:=by unfold XkJ; rw [List.drop_one,List.map_tail]
       rw [e1];exact List.take_of_length_le (by rw [XkL,List.length_tail]; omega)
      rw [e] at this;exact this
     have dn:¬ R.rb=R.lm:=fun e=>h.rf (e▸h.lf);have be:¬ g=R.lm:=fun e=>a6 (e▸h.lf);have E:=r.heap o.obj ah;refine Xay.drawn (q:=10) (fun z=>z=R.lm) hTT Xki (by kernel_rfl) rfl ?_;intro f;refine Xaq.loadb hTT f rfl E (by first | exact fun h=>h | (intro h; omega) | assumption) rfl rfl ?_;refine Xaq.index hTT f rfl (j:=0) (by omega) (by omega) (by first | rfl | omega | (simp; done) | (simp; omega)) rfl ?_;refine Xaq.load hTT f rfl (V bd) (by first | exact fun h=>h | (intro h; omega) | assumption) rfl ?_;refine Xaq.slice hTT f rfl (l:=1) (h:=i) (by first | rfl | omega | simp [loV]) (by first | rfl | omega | simp [hiV]) (by omega) (by omega) rfl ?_;refine Xaq.turn1 f rfl ?_;intro w5 t;have bf:=o.lg.chg r (fun z _ d => .inl (o.pf z d)) (fun d=>by
      have kl:=Xij o.lg;have kp:=o.pool.kds;rcases d with e | e
      ·exact Xin kl kp.1 (by simp) e
      ·exact Xin kl kp.2 (by simp) e)
     have a7:=bf.chg t (fun _ _ h=>h.elim) id;obtain ⟨m,hm,_⟩:=a7;have a7:=bf.chg t (fun _ _ h=>h.elim) id;refine XbJ.mapset hTT f rfl (hm) (by first | (intro h; exact rfl) | (intro h; omega)) rfl ?_;intro w6 cb A dp;refine Xaq.nil f ?_;intro w7 C;refine ζa rfl ?_;have ao:kd w6 g=some (some 3):=Xii A (Xii t c9 id) be;have ap:Rd .i64 w6 (some ⟨g,0,none⟩) (XkJ (M.pl.free.take i)):=(bd.chg t).far (fun b' off s e=>by cases e; exact be) A;have b7:∀ {w':World},kd w' g=some (some 3)→XaP (R.FX F) w' (Xqm (some ⟨g,0,none⟩) cap 1 1):=fun {w'} hk b' off s e=>by
      obtain ⟨_,_,e'⟩:=Xqn e;cases e'
      exact ⟨hk,fun d=>d.elim a6 (fun hx=>by have:=(o.xl _ hx).1; omega)⟩
     have a0:(M.pl.free.take i).tail.length=i - 1:=by rw [List.length_tail,am]
     have aq:M.pl.free.getD 0 0 ∈ M.pl.free:=by
      cases an:M.pl.free with
      |nil=>rw [an] at K; simp at K; omega
      |cons x y=>simp
     have cc:XaI (R.FX F) w6 R.lm (M.lg ++ [(M.pl.free.getD 0 0,(M.pl.free.take i).tail)]):=a7.put (cap:=cap - 1) (a:=Xqm (some ⟨g,0,none⟩) cap 1 1) A (fun m' h'=>by
      rw [h'.uniq hm,a0];exact cb) (fun e he e'=>by
       have h8:=(h.ok.lg e.1 (Xj4 he (by simp))).2;have h9:=(h.pool.good.free _ aq).2;rw [e'] at h8;omega) (W ap) (b7 ao)
     have bg:=Xij a7;have au:=ai.grow t;have al:Xa5 w6 R.P (XmX M.pl (M.shs.length:Nat) i):=au.chg A (Xin au.kds.1 bg (by simp)) (Xin au.kds.2 bg (by simp));have cd:=h.ok.big h.pool.good (show 1≤i by omega) K;have h6:=o.swap (pl':=XmX M.pl (M.shs.length:Nat) i) (lg':=M.lg ++ [(M.pl.free.getD 0 0,(M.pl.free.take i).tail)]) {cd with tot:=h.ok.tot} (((r.mono fun _ _ h => .inl h).trans (t.mono fun _ _ h=>h.elim)).trans (A.mono fun _ _ h => .inr h)) al cc (fun k x hx ce=>XmY (by omega) h.pool.good K (by have:=(h.ok.each k x hx).1; omega) ce);have h7:=h6.grow C;refine Xay.loadb hTT rfl h7.obj rfl rfl ?_;refine Xay.arith hTT rfl (w64 (by omega)) rfl ?_;refine Xay.arith hTT rfl (w64 (by omega)) rfl ?_;refine Xay.arith hTT rfl (w64 (by omega)) rfl ?_;refine Xay.arith hTT rfl (w64 (by omega)) rfl ?_;rw [show ((i:Nat):Int)*4+(((i:Nat):Int) - 1)*1=(i:Int)*4+((i:Int) - 1) from by omega];refine ζc rfl (Xo8 h7 ((i:Int)*4+((i:Int) - 1))) ?_;rintro _ N ⟨h8,a8⟩;refine ζa rfl ?_;replace h8:Xbd F N R (Xob M i):=h8;have a9:=r.heap T (fun d=>B (o.pf b d));have cg:=C.heap' (A.heap (t.heap' a9) (fun e=>B (e▸h.lf)));have U:=a8.heap cg B;have av:=(ap.chg C).far (fun b' off s e=>by cases e; exact a6) a8;have bt:=Xii a8 (Xii C ao id) a6;have dq:¬ g=b:=fun e=>by
      have:=Xih U;rw [← e,bt] at this
      revert this; decide
     have d5:=XjD U;have ch:∀ w',Chg XaW N w'→Xan Tryz.prog 85 #[.slice (Xqm (some ⟨g,0,none⟩) cap 1 1) (i - 1) (cap - 1)] w' (fun v D=>Chg (fun z=>z=b) w' D∧Chg XaW N D ∧ ∃ n c2,v = .slice (some ⟨n,0,none⟩) (i - 1) c2∧N.heap.size≤n∧Rd .i64 D (some ⟨n,0,none⟩) (XkJ (M.pl.free.take i).tail)∧kd D n=some (some 3)):=fun w' ax=>by
      have hd:=XqB (Xqm (some ⟨g,0,none⟩) cap 1 1) (cap - 1) (XkJ (M.pl.free.take i).tail) w' ((W av).chg ax) (by rw [XkL,a0]; omega) (by unfold Xqm; split <;> exact ⟨_,rfl⟩);rw [XkL,a0] at hd;exact hd.mono fun v D ⟨n,c2,q1,q2,q3,q4,q5⟩=>⟨q5.mono fun _ _ h=>h.elim,ax.trans q5,n,c2,q1,by have:=ax.size; omega,q3,q4⟩
     refine Xay.drawn (q:=9) (fun z=>z=b) hTT Xki (by kernel_rfl) rfl ?_;intro f;refine Xaq.index hTT f rfl (j:=0) (by omega) (by omega) (by first | rfl | omega | (simp; done) | (simp; omega)) rfl ?_;refine Xaq.load hTT f rfl (V av) (by first | exact fun h=>h | (intro h; omega) | assumption) rfl ?_;refine Xaq.slice hTT f rfl (l:=1) (h:=i) (by first | rfl | omega | simp [loV]) (by first | rfl | omega | simp [hiV]) (by omega) (by omega) rfl ?_;refine Xaq.callQ f rfl rfl (ch) ?_;rintro _ w9 _ ⟨ay,n,c2,rfl,dr,ci,cj⟩;refine Xaq.adv hTT f rfl ?_;refine Xaq.build hTT f rfl rfl ?_;refine Xaq.turn1 f rfl ?_;intro ds H;have az:=(ay.trans H).heap' U;refine XbJ.store hTT f rfl az (by first | (intro h; exact rfl) | (intro h; omega)) rfl rfl rfl ?_;intro dt bu O d6;refine Xaq.nil f ?_;intro ck I;refine ζa rfl ?_;have b0:n≠b:=by omega
     have cl:=h.note (h8.grow (ay.trans H)) (Xih az) (by omega) B O (by decide);have cm:=cl.grow I;have bv:=I.heap' bu;have bw:=(((ci.chg H).far (S:=fun z=>z=b) (fun b' off s e=>by cases e; exact b0) O).chg I);have bh:Chg F w N:=((((((a1.mono fun _ _ h=>h.elim).trans (r.mono fun z _ d=>o.pf z d)).trans (t.mono fun _ _ h=>h.elim)).trans (A.mono fun z _ e=>e▸h.lf)).trans (C.mono fun _ _ h=>h.elim)).trans a8);have b9:Chg F w ck:=((bh.trans ((ay.trans H).mono fun _ _ h=>h.elim)).since O (fun z d e=>by omega)).trans (I.mono fun _ _ h=>h.elim);have d7:w.heap.size≤N.heap.size:=bh.size;exact ζq rfl Tryz.func158 (Xa9.cell rfl rfl rfl bv rfl (.tmp rfl .nil)) ⟨⟨-1,(M.pl.free.getD 0 0:Nat),0,some ⟨n,0,none⟩,c2,XkJ (M.pl.free.take i).tail⟩,by show Value.tuple #[Value.agg _,_]=Value.tuple #[Value.agg (#[_,_,_,Value.slice _ (XkJ (M.pl.free.take i).tail).length _]:Array Value),_]; rw [XkL,a0],rfl,F,cm,fun z d => .inl d,b9,⟨bw,by rw [XkL,a0]; omega⟩,fun b' off s e d=>by cases e; have:=h.low _ d; omega,fun b' off s e=>by cases e; exact ⟨by omega,Xii I (Xii O (Xii H cj id) b0) id⟩⟩
   ·have G:XoD R.c M who size=XoR M (XmF R.c.classes size) who∧XoE R.c M who size=⟨XmF R.c.classes size,XoS M (XmF R.c.classes size) who,XoQ M (XmF R.c.classes size) who,[]⟩∧XoC R.c M who size=XoP M (XmF R.c.classes size) who:=by
     exact ⟨by unfold XoD; rw [if_neg u,if_neg J,if_neg L],by unfold XoE; rw [if_neg u,if_neg J,if_neg L],by unfold XoC; rw [if_neg u,if_neg J,if_neg L]⟩
    rw [G.1,G.2.1,G.2.2];refine Xay.yes hTT rfl (by simpa using L) rfl ?_;refine ζc rfl (Xo5 o (XmF R.c.classes size) who) ?_;rintro _ w4 ⟨rfl,F4,h4,bi,r⟩;refine ζa rfl ?_;have bx:¬ F4 b:=fun d=>(bi b d).elim B (fun h=>by have:=XjD T; omega);have a9:=r.heap T B;refine Xay.build hTT rfl rfl ?_;refine Xay.store hTT rfl a9 rfl rfl ?_;intro w5 co bj du;refine ζa rfl ?_;have h5:=h.note h4 (Xih a9) (by omega) bx bj (by decide);exact ζq rfl Tryz.func158 (Xa9.cell rfl rfl rfl co rfl (.tmp rfl .nil)) ⟨⟨XmF R.c.classes size,XoS M (XmF R.c.classes size) who,XoQ M (XmF R.c.classes size) who,none,0,[]⟩,rfl,rfl,F4,h5,(fun z d=>(bi z d).imp id (fun h=>by have:=a1.size; omega)),((a1.mono fun _ _ h=>h.elim).trans r).since bj (fun z d e=>by omega),noq _ _ _⟩
  ·have b1:XoD R.c M who size=Xog R.c M size∧XoE R.c M who size=⟨0,0,0,[]⟩∧XoC R.c M who size=M:=by
    unfold XoD XoE XoC; rw [if_neg u,if_neg u,if_neg u,if_pos n,if_pos n,if_pos n]; exact ⟨rfl,rfl,rfl⟩
   rw [b1.1,b1.2.1,b1.2.2];refine Xay.yes hTT rfl (by simpa using n) rfl ?_;refine Xay.build hTT rfl rfl ?_;refine Xay.store hTT rfl Q rfl rfl ?_;intro w3 T b2 dv;refine ζa rfl ?_;have o:=h.note h2 (Xih Q) (by omega) B b2 (by decide);exact ζq rfl Tryz.func158 (Xa9.cell rfl rfl rfl T rfl (.tmp rfl .nil)) ⟨⟨0,0,0,none,0,[]⟩,rfl,rfl,F,o,fun z d => .inl d,(af.mono fun _ _ h=>h.elim).since b2 (fun z d e=>by omega),noq 0 0 0⟩
theorem XiW {F:Nat→Prop} {w:World} {lm:Nat} {lg:List (Nat × List Nat)} (h:XaI F w lm lg):∃ m,XaL w lm m∧(∀ n:Int,XiV lg n=none→Xcb m n=none) ∧ ∀ (n:Nat) r,(n,r) ∈ lg → ∃ a cap,Xcb m n=some (.slice a r.length cap)∧Rd .i64 w a (XkJ r)∧XaP F w a:=by
 obtain ⟨m,b,i,c,d⟩:=h;exact ⟨m,b,fun n f=>d n fun e g=>XiX f e g,fun n r hm=>c _ hm⟩
theorem XoV {F:Nat→Prop} {w:World} {R:Rm} {M:RmM} (h:Xbd F w R M) (q:Plc) (hq:Xa4 w q):Xan Tryz.prog 191 #[rmV R,.agg (Xm9 q).toArray] w
 (fun v w'=>v = .int .i64 (Xod M (Xnb q))∧Xbe F w w' R (Xoc M (Xnb q))):=by
 have c3:maxLen=9223372036854775807:=rfl;refine Xan.enter Tryz.func191 rfl Tryz.ntmps191 rfl rfl ?_;refine ζa rfl ?_;refine Xay.alloc hTT rfl ?_;intro b w1 e1 D a0 c4;refine ζa rfl ?_;have b3:¬ F b:=fun c=>by have:=h.low b c; omega
 have S:=h.grow a0;replace D:w1.heap[b]? = some (.cells (Xm9 q).toArray 98 (0,0)):=D;have P:Chg F w w1:=a0.mono fun _ _ h=>h.elim;refine Xay.loadb hTT rfl D rfl rfl ?_;by_cases E:q.cls = -1
 ·have eD:Xod M (Xnb q)=(match XiV M.lg q.page with | none=>1 | some r=>if XkJ r=q.pages then 0 else 1)∧Xoc M (Xnb q)=(match XiV M.lg q.page with | none=>M | some r=>if XkJ r=q.pages then Xor M q.page.toNat r else M):=by
   unfold Xod Xoc Xnb;exact ⟨if_neg (fun h=>h E),if_neg (fun h=>h E)⟩
  rw [eD.1,eD.2];refine Xay.no hTT rfl (by simp [E]) rfl ?_;obtain ⟨m,hm,b4,a8⟩:=XiW S.lg;cases hg:XiV M.lg q.page with
  |none =>
   simp only
   refine Xay.drawn (q:=12) XaW hTT Xki (by kernel_rfl) rfl ?_;intro f;refine Xaq.loadb hTT f rfl S.obj (by first | exact fun h=>h | (intro h; omega) | assumption) rfl rfl ?_;refine Xaq.loadb hTT f rfl D (by first | exact fun h=>h | (intro h; omega) | assumption) rfl rfl ?_;refine Xaq.lookup hTT f rfl (hm) (by first | (intro b h; cases h; assumption) | (intro b h hs; cases h; omega)) ((show Xjq m _ _ true = .tuple #[.slice none 0 0,.bool false] from by unfold Xjq; rw [b4 _ hg]; rfl)) rfl ?_;refine Xaq.nil f ?_;intro w2 d;refine ζa rfl ?_;refine Xay.yes hTT rfl rfl rfl ?_;exact Xay.ret1 hTT rfl Tryz.func191 rfl rfl ⟨rfl,.of (S.grow d) (P.trans (d.mono fun _ _ h=>h.elim))⟩
  |some r =>
   simp only
   obtain ⟨n,hn,o⟩:=XiY hg;obtain ⟨a,cap,aa,ae,ab⟩:=a8 n r o;refine Xay.drawn (q:=12) XaW hTT Xki (by kernel_rfl) rfl ?_;intro f;refine Xaq.loadb hTT f rfl S.obj (by first | exact fun h=>h | (intro h; omega) | assumption) rfl rfl ?_;refine Xaq.loadb hTT f rfl D (by first | exact fun h=>h | (intro h; omega) | assumption) rfl rfl ?_;refine Xaq.lookup hTT f rfl (hm) (by first | (intro b h; cases h; assumption) | (intro b h hs; cases h; omega)) ((show Xjq m _ _ true = .tuple #[.slice a r.length cap,.bool true] from by unfold Xjq; rw [hn,aa]; rfl)) rfl ?_;refine Xaq.nil f ?_;intro w2 d;refine ζa rfl ?_;refine Xay.no hTT rfl rfl rfl ?_;have h2:=S.grow d;have af:=d.heap' D;have c5:r.length≤1024:=by
    obtain ⟨_,_,p3,_⟩:=XmQ (l:=n::r) h.pool.good (by
     obtain ⟨A,B,eA,_⟩:=XiT h.ok.nd o;have e:XiQ M.lg=XiQ A++((n::r)++XiQ B):=by rw [eA,XiR]; rfl
     have u:=h.ok.nd;rw [e] at u;exact (List.nodup_append.1 (List.nodup_append.1 u).2.1).1) (fun m t=>by
     obtain ⟨E,g2⟩:=h.ok.lg m (Xj4 o t);exact ⟨E,by omega⟩)
    have:=XhC h.pool.good;simp only [List.length_cons] at p3;omega
   have hd:=XqF a q.pa cap q.pc (XkJ r) q.pages w2 (ae.chg d) ((hq.rd.chg a0).chg d) (by rw [XkL]; omega);rw [XkL] at hd;refine Xay.loadb hTT rfl af rfl rfl ?_;refine ζc rfl (hd) ?_;rintro _ w3 ⟨rfl,G⟩;refine ζa rfl ?_;have H:=h2.grow G;have ag:=G.heap' af;have a1:=d.trans G;by_cases T:XkJ r=q.pages
   ·rw [if_pos T,if_pos T,hn,Int.toNat_natCast];refine Xay.no hTT rfl (by rw [decide_eq_true T]; rfl) rfl ?_;have bu:¬ R.rb=R.lm:=fun e=>h.rf (e▸h.lf);have b9:¬ b=R.lm:=fun e=>b3 (e▸h.lf);refine Xay.drawn (q:=7) (fun z=>z=R.lm) hTT Xki (by kernel_rfl) rfl ?_;intro f;refine Xaq.loadb hTT f rfl H.obj (by first | exact fun h=>h | (intro h; omega) | assumption) rfl rfl ?_;refine Xaq.loadb hTT f rfl ag (by first | exact fun h=>h | (intro h; omega) | assumption) rfl rfl ?_;refine Xaq.turn1 f rfl ?_;intro w4 C;have U:=H.grow C;obtain ⟨m4,ah,_⟩:=U.lg;refine XbJ.mapdel hTT f rfl (ah) (by first | (intro h; exact rfl) | (intro h; omega)) rfl ?_;intro w5 ba I c6;refine Xaq.nil f ?_;intro w6 ai;refine ζa rfl ?_;have bb:=ai.heap' (I.heap (C.heap' ag) b9);refine Xay.loadb hTT rfl bb rfl rfl ?_;refine Xay.buildSlice hTT rfl ?_;intro b7 w7 e7 bc bd c7;refine ζa rfl ?_;refine Xay.buildSlice hTT rfl ?_;intro ob w8 e8 a2 aj c8;refine ζa rfl ?_;have be:XaI (R.FX F) w5 R.lm (XiS M.lg n):=U.lg.del I (fun m' h'=>by
     rw [h'.uniq ah,← hn];exact ba)
    have aw:Chg XaW w6 w8:=bd.trans aj;have y:Chg XaW w5 w8:=ai.trans aw;have bf:=be.chg y (fun _ _ h=>h.elim) id;have a3:=Xij U.lg;have bg:Xa5 w8 R.P M.pl:=(U.pool.chg I (Xin U.pool.kds.1 a3 (by simp)) (Xin U.pool.kds.2 a3 (by simp))).grow y;have bh:Rd .i64 w5 a (XkJ r):=(((ae.chg d).chg G).chg C).far (fun b' off s e=>by
     have hk:=(ab b' off s e).1;exact Xin (Xii C (Xii G (Xii d hk id) id) id) a3 (by simp)) I
    have bj:=bh.chg y
    let ls:List Sl := [⟨some ⟨b7,0,none⟩,1,[(n:Int)]⟩,⟨a,cap,XkJ r⟩]
    have a4:Xd2 ls=XkJ (n::r):=by show [(n:Int)]++(XkJ r ++ [])=_; rw [List.append_nil]; rfl
    have bk:(Xd2 ls).length=r.length+1:=by rw [a4,XkL]; rfl
    have ak:=XqC ob ls w8 (fun i V=>by
     replace V:i<2:=V;rcases (show i=0∨i=1 by omega) with rfl | rfl
     ·rw [Xd6 a2]; rfl
     ·rw [Xd6 a2];show some (Value.slice a r.length cap)=some (Value.slice a (XkJ r).length cap)
      rw [XkL]) (fun l hl=>by
     rcases List.mem_cons.1 hl with rfl | hl
     ·have ax:=aj.heap' bc;exact Rd.of_cells fun i V=>by
       have:i=0:=by replace V:i<1:=V; omega
       subst this;rw [Xd6 ax,hn]; rfl
     ·rw [List.mem_singleton] at hl; subst hl;exact bj) (by show 2≤1024; omega) (by omega) (by omega)
    rw [bk] at ak;refine ζc rfl (ak) ?_;rintro _ w9 ⟨g,c9,rfl,ca,al,a5⟩;refine ζa rfl ?_;rw [a4] at al;have am:=bg.grow a5;have J:Chg (fun z=>XmK R.P z∨z=R.lm) w3 w9:=((((C.mono fun _ _ h=>h.elim).trans (I.mono fun _ _ h => .inr h)).trans (y.mono fun _ _ h=>h.elim)).trans (a5.mono fun _ _ h=>h.elim));have an:∀ z,(XmK R.P z∨z=R.lm)→F z:=fun z c=>c.elim (h.pf z) (fun e=>e▸h.lf);have ad:=J.heap H.obj (fun c=>h.rf (an _ c));have ay:¬ XmK R.P R.rb:=fun c=>h.rf (h.pf _ c);refine Xay.loop (α:=Nat) (fun i => [(0,false,rmV R),(5,false,.slice a r.length cap),(54,false,.slice (some ⟨g,0,none⟩) (r.length+1) c9),(55,false,.int .i64 ((r.length+1:Nat):Int)),(56,false,.int .i64 i)])
     (fun i w'=>i≤r.length+1∧Xa5 w' R.P (XmO M.pl ((n::r).take i))∧Chg (XmK R.P) w9 w') (fun i=>r.length+1 - i) 0 ⟨rfl,rfl,rfl,rfl,rfl,trivial⟩ ⟨Nat.zero_le _,am,Chg.refl _ _⟩ ?_
    rintro i bm ⟨V,K,p⟩ ih;refine ζa rfl ?_;refine Xay.fork hTT rfl rfl rfl (fun a6 => ?_) (fun a6 => ?_)
    ·have ao:i<r.length+1:=by have:=of_decide_eq_true a6; omega
     have L:i<(n::r).length:=ao;have c0:=am.lt;obtain ⟨b',off',e',Q⟩:=al i (by rw [XkL]; exact L);cases e'
     have ev:(XkJ (n::r)).getD i 0=((n::r)[i]:Int):=by
      unfold XkJ;rw [List.getD_eq_getElem?_getD,List.getElem?_map,List.getElem?_eq_getElem L];rfl
     rw [ev] at Q;have c1:=XjD a2;have W:=p.cell Q (fun c=>by
      have:=H.pool.lt;have:=C.size;have:=y.size;rcases c with e | e <;> omega)
     refine Xay.index hTT rfl (j:=i) (by omega) (by omega) (by first | rfl | omega | (simp; done) | (simp; omega)) rfl ?_;refine ζk rfl W rfl ?_;refine Xay.loadb hTT rfl (p.heap ad ay) rfl rfl ?_;refine ζc rfl (Xnd R.P _ (((n::r)[i]:Nat):Int) bm K) ?_;rintro _ ap ⟨_,az,N⟩;refine ζa rfl ?_;refine Xay.arith hTT rfl (w64 (by omega)) rfl ?_;exact ih (i+1) _ _ ⟨ao,by
      have e:XmO M.pl ((n::r).take (i+1))=XmL (XmO M.pl ((n::r).take i)) (((n::r)[i]:Nat):Int):=by
       rw [List.take_add_one,List.getElem?_eq_getElem L];unfold XmO;rw [List.foldl_append];rfl
      rw [e]; exact az,p.trans N⟩ (by omega) ⟨rfl,rfl,rfl,rfl,rfl,trivial⟩
    ·have bn:i=r.length+1:=by have:=of_decide_eq_false a6; omega
     subst bn;have etk:(n::r).take (r.length+1)=n::r:=List.take_length (l:=n::r);rw [etk] at K;obtain ⟨bo,_⟩:=h.ok.gone h.pool.good o;have b0:=(bf.chg a5 (fun _ _ h=>h.elim) id).chg p (fun z _ c => .inl (h.pf z c)) (fun c=>by
      have aq:=Xij H.lg;have kp:=H.pool.kds;rcases c with e | e
      ·exact Xin aq kp.1 (by simp) e
      ·exact Xin aq kp.2 (by simp) e)
     have u:(n::r).Nodup:=by
      obtain ⟨A,B,eA,_⟩:=XiT h.ok.nd o;have e:XiQ M.lg=XiQ A++((n::r)++XiQ B):=by rw [eA,XiR]; rfl
      have u:=h.ok.nd;rw [e] at u;exact (List.nodup_append.1 (List.nodup_append.1 u).2.1).1
     have O:∀ m ∈ n::r,m<M.pl.own.length∧M.pl.own.getD m 0=(M.shs.length:Int):=fun m t=>h.ok.lg m (Xj4 o t);have ar:=H.swap (pl':=XmO M.pl (n::r)) (lg':=XiS M.lg n) {bo with tot:=h.ok.tot} (J.trans (p.mono fun _ _ h => .inl h)) K b0 (fun k x hx bq=>by
      have hk:k<M.shs.length:=(List.getElem?_eq_some_iff.1 hx).1;have cb:=(h.ok.each k x hx).1;exact XmP h.pool.good u (fun m t=>⟨(O m t).1,by have:=(O m t).2; omega⟩) bq (fun m t=>by have:=(O m t).2; omega))
     refine Xay.loadb hTT rfl ar.obj rfl rfl ?_;refine Xay.arith hTT rfl (w64 (by omega)) rfl ?_;refine Xay.arith hTT rfl (w64 (by omega)) rfl ?_;refine Xay.arith hTT rfl (w64 (by omega)) rfl ?_;refine Xay.arith hTT rfl (w64 (by omega)) rfl ?_;rw [show ((r.length:Nat):Int)*1=(r.length:Int) from by omega];refine ζc rfl (Xo8 ar ((((r.length:Nat):Int)+1)*4+(r.length:Int))) ?_;rintro _ ap ⟨a7,N⟩;refine ζa rfl ?_;replace a7:Xbd F ap R (Xor M n r):=a7;have b1:Chg F w w3:=P.trans (a1.mono fun _ _ h=>h.elim);exact Xay.ret1 hTT rfl Tryz.func191 rfl rfl ⟨rfl,.of a7 (((b1.trans (J.mono fun z _ c=>an z c)).trans (p.mono fun z _ c=>h.pf z c)).trans N)⟩
   ·rw [if_neg T,if_neg T];refine Xay.yes hTT rfl (by rw [decide_eq_false T]; rfl) rfl ?_;exact Xay.ret1 hTT rfl Tryz.func191 rfl rfl ⟨rfl,.of H (P.trans (a1.mono fun _ _ h=>h.elim))⟩
 ·have eD:Xod M (Xnb q)=Xop M q.cls q.page q.idx∧Xoc M (Xnb q)=Xoo M q.cls q.page q.idx:=by
   unfold Xod Xoc Xnb;exact ⟨if_pos E,if_pos E⟩
  rw [eD.1,eD.2];refine Xay.yes hTT rfl (by simpa using E) rfl ?_;refine Xay.loadb hTT rfl D rfl rfl ?_;refine Xay.loadb hTT rfl D rfl rfl ?_;refine Xay.loadb hTT rfl D rfl rfl ?_;refine ζc rfl (XoX S q.cls q.page q.idx) ?_;rintro _ w2 ⟨rfl,hT⟩;refine ζa rfl ?_;exact Xay.ret1 hTT rfl Tryz.func191 rfl rfl ⟨rfl,Xbe.trans (fun z c => .inl c) P hT⟩
theorem Xbr.note {w w':World} {S:Sh} {G:Nat→Pg} {x:Sm} {pl:PlM} (h:Xbr w S G x pl) {eb t:Nat} (hk:kd w eb=some (some t)) (hc:Chg (fun z=>z=eb) w w') (htb:1≠eb)
 (ht:t≠262∧t≠319∧t≠272∧t≠329∧t≠334∧t≠336∧t≠325∧t≠366):Xbr w' S G x pl:=by
 have d:∀ {t':Nat},t≠t'→some (some t)≠some (some t'):=fun h e=>h (Option.some.inj (Option.some.inj e));have kp:=h.pool.kds;have ap:=h.at'.apart hk ht.2.2;exact ⟨h.ok,h.pos,h.of,h.at'.chg hc (fun z e=>e▸ap.1) (fun z e=>e▸ap.2) htb,h.pool.chg hc (Xin kp.1 hk (Ne.symm (d ht.1))) (Xin kp.2 hk (Ne.symm (d ht.2.1)))⟩
theorem Xbr.own {w w':World} {S:Sh} {G:Nat→Pg} {x:Sm} {pl:PlM} (h:Xbr w S G x pl) {base m:Nat} {v:Value} {xs:List Value} (ho:Own base 207 1 w v m xs) (hc:Chg (Xlt v) w w') (htb:1<base):Xbr w' S G x pl:=by
 rcases ho.2 with ⟨rfl,_⟩ | ⟨g,cap,cur,rfl,b,a,_⟩
 ·exact h.grow (hc.mono fun z _ e=>by cases e)
 ·exact h.note (Xih a) (hc.mono fun z _ e=>Option.some.inj e) (by omega) (by decide)
def XkV (c:Conf) (n:Nat):List Sm:=(List.range n).map fun k=>XkY (k:Nat) (XdH c (k:Nat)).toNat
def XkS (c:Conf) (tot:Int):RmM:=⟨XkV c c.classes.length,XmR c.pages.toNat,[],tot⟩
theorem XkW {c:Conf} {n k:Nat} {x:Sm} (h:(XkV c n)[k]? = some x):k<n∧x=XkY (k:Nat) (XdH c (k:Nat)).toNat:=by
 unfold XkV at h;rw [List.getElem?_map,Option.map_eq_some_iff] at h;obtain ⟨j,d,e⟩:=h;obtain ⟨a,b⟩:=List.getElem?_eq_some_iff.1 d;simp only [List.length_range] at a;rw [List.getElem_range] at b;subst b;exact ⟨a,e.symm⟩
theorem XkX (c:Conf):∀ n,XpL (XkV c n)=0
 |0=>rfl
 |n+1=>by
  have:=XkX c n;unfold XpL XkV at *;rw [List.range_succ,List.map_append,List.map_append,List.sum_append,this];rfl
theorem XdI {c:Conf} (h:XjY c=true) {k:Nat} (hk:k<c.classes.length):1≤XdH c k∧XdH c k≤512:=by
 have a:=Xj2 h;have g:=a.size;have d:XeM c.classes c.size=true:=by
  unfold XjY at h;simp only [Bool.and_eq_true,decide_eq_true_eq] at h;exact h.1.1.1.1.1.2
 obtain ⟨e,_,i⟩:=XeN d k hk;unfold XdH;rw [if_pos (by omega),Int.toNat_natCast,Xuh (by omega) (by omega)];constructor
 ·exact (Int.le_ediv_iff_mul_le (by omega)).2 (by omega)
 ·have j:c.size / c.classes.getD k 0≤c.size / 8:=by
   refine Int.le_ediv_of_mul_le (by omega) ?_;have l:=Int.ediv_mul_le c.size (b:=c.classes.getD k 0) (by omega);have f:0≤c.size / c.classes.getD k 0:=Int.ediv_nonneg (by omega) (by omega);have m:=Int.mul_le_mul_of_nonneg_left e f;omega
  omega
theorem XkT {c:Conf} (h:XjY c=true) {tot:Int} (ht:0≤tot∧tot≤4611686018427387904):(XkS c tot).Ok c:=by
 have a:=Xj2 h;have e:=a.pages;refine ⟨by show (XkV c _).length=_; unfold XkV; simp,fun k x b => ?_,?_,(fun m hm=>by cases hm),List.nodup_nil,?_,ht⟩
 ·obtain ⟨d,rfl⟩:=XkW b;have:=XdI h d;exact ⟨rfl,by show (((XdH c k).toNat:Nat):Int)=_; omega⟩
 ·show (((List.replicate c.pages.toNat (-1:Int)).length:Nat):Int)=_
  rw [List.length_replicate]; omega
 ·show XhB (XmR c.pages.toNat)=XpL (XkV c _)+0
  rw [XkX];exact XmA _
theorem XoZ (c:Conf) (p:Xal) (mo:Option Nat) (tot lap:Int) (X:Nat→Prop) (w:World) (hc:Xam w c p) (ht:Xbz w) (hX:∀ z,X z→z<w.heap.size∧mo≠some z) (hmo:∀ b,mo=some b→XaO w b tot lap∧Far (fun z=>z=b) w p.ca c.classes∧Far (fun z=>z=b) w p.ka c.keep) (htot:0≤tot∧tot≤4611686018427387904) :
 Xan Tryz.prog 88 #[.agg (Xe5 c p).toArray,ptr mo] w (fun v w'=>Chg XaW w w'∧if XjY c=true then ∃ F R,R.c=c∧R.p=p∧R.mo=mo∧v = .tuple #[rmV R,.int .i64 0]∧Xbd F w' R (XkS c tot)∧(∀ z,F z→w.heap.size≤z∨mo=some z)∧R.lap=lap∧R.X=X else v = .tuple #[.pointer none,.int .i64 1]):=by
 have ch:maxLen=9223372036854775807:=rfl;refine ζe Tryz.func88 Tryz.ntmps88 rfl (ζn rfl fun cb w1 e1 ao a7 ci => ?_);refine ζl ao rfl (ζv (Xe8 c p w1 (hc.chg a7)) rfl fun w2 Q => ?_);have a8:=Q.heap' ao;by_cases hm:XjY c=true
 ·have em:Xj1 c=0:=by unfold Xj1; rw [if_pos hm]
  have hf:=Xj2 hm;have cj:=hf.n;have ck:=hf.pages;rw [em];simp only [hm,if_true];refine ζf rfl (ζl a8 rfl ?_);obtain ⟨N,hN⟩:=Int.eq_ofNat_of_zero_le (show 0≤c.pages by omega);rw [hN];refine ζc rfl (Xnf N w2 (by omega)) ?_;rintro _ w3 ⟨P,rfl,⟨cl,cm⟩,aq,a9⟩;refine ζa rfl ?_;have aa:=a9.heap' a8;have c0:=aq.lt;refine ζl aa rfl (Xay.mkmap rfl fun lm w4 e4 bi ab cn=>ζa rfl (ζb rfl (ζn rfl fun rb J e5 ar T co => ?_)));have cp:=Q.size;have cq:=a9.size;have ac:=T.heap' (ab.heap' aa);have K:=(((a7.trans Q).trans a9).trans ab).trans T;have c1:1<w.heap.size:=World.block_lt_of_cell? w _ (ht 0 (by decide));have bj:Xa5 J P (XmR N):=(aq.grow ab).grow T;refine Xay.loadb hTT rfl ac rfl rfl ?_;refine Xay.loop (α:=Nat × Value × List Sh) (fun x => [(2,false,.pointer (some ⟨cb,0,none⟩)),(7,false,plV P),(8,false,.int .i64 0),(9,false,.pointer (some ⟨rb,0,none⟩)),(32,false,.int .i64 c.classes.length),(33,false,.int .i64 x.1)])
   (fun x w'=>x.1≤c.classes.length∧x.2.2.length=x.1∧w'.heap[rb]? = some (.cells (Xe5 c p ++ [ptr mo,plV P,x.2.1,.map (some lm)]).toArray 206 (0,0))∧Own J.heap.size 207 1 w' x.2.1 x.1 (x.2.2.map sfV) ∧
    (∀ (k:Nat) (S:Sh),x.2.2[k]? = some S→S.P=P∧(∀ G,Xbr w' S G (XkY (k:Nat) (XdH c (k:Nat)).toNat) (XmR N)) ∧ ∀ G z,XpG S G [] z→J.heap.size≤z∧z<w'.heap.size) ∧
    (∀ (j k:Nat) (S S':Sh),j<k→x.2.2[j]? = some S→x.2.2[k]? = some S' → ∀ G G' z,XpG S G [] z → ¬ XpG S' G' [] z)∧Chg (fun z=>z=rb) J w') (fun x=>c.classes.length - x.1) (0,.slice none 0 0,[]) ⟨rfl,rfl,rfl,rfl,rfl,rfl,trivial⟩ ⟨Nat.zero_le _,rfl,ar,⟨rfl,.inl ⟨rfl,rfl⟩⟩,(fun k S h=>by cases h),(fun j k S S' _ h=>by cases h),Chg.refl _ _⟩ ?_
  rintro ⟨i,v,ls⟩ I ⟨hi,ad,B,U,n,C,r⟩ ih;simp only at hi ad B U n C
  have f:Chg XaW w I:=K.since r (fun z hz e=>by omega);have au:Xa5 I P (XmR N):=bj.chg r (by omega) (by omega);refine ζa rfl ?_;refine Xay.fork hTT rfl rfl rfl (fun ae => ?_) (fun ae => ?_)
  ·have af:i<c.classes.length:=by have:=of_decide_eq_true ae; omega
   have cr:=XdI hm af;obtain ⟨bk,ag⟩:=Int.eq_ofNat_of_zero_le (show 0≤XdH c i by omega);have b4:=r.heap ac (by omega);refine Xay.loads hTT rfl b4 rfl rfl ?_;refine ζc rfl (Xe6 c p (i:Nat) I (hc.chg f)) ?_;rintro _ w7 ⟨rfl,V⟩;refine ζa rfl ?_;rw [ag];have b5:=f.trans V;refine ζc rfl (Xp6 P (XmR N) (i:Nat) bk w7 (ht.grow b5) (by omega) (by omega) (au.grow V)) ?_;rintro _ w8 ⟨S,bl,rfl,av,d,aw⟩;refine ζa rfl ?_;have ah:=V.trans aw;have b6:=ah.heap' B;refine Xay.loadb hTT rfl b6 rfl rfl ?_;refine Xay.buildSlice hTT rfl ?_;intro b9 w9 e9 bm ax cs;refine ζa rfl ?_;have t:=ah.trans ax;have b7:=t.heap' B;have W:=U.chg t (fun _ _ h=>h);have c5:=r.size;have c6:=t.size;refine Xay.append (base:=J.heap.size) (xs:=ls.map sfV) (news := [sfV S]) hTT rfl W (by omega) (by simp) (Xd7 bm) (by simp [Value.oneCell']) ⟨by omega,by show (i+1)*8≤_; omega⟩ ?_;intro v' ct L D c7;refine ζa rfl ?_;have bv:=XjD ar;have b8:¬ Xlt v rb:=fun e=>by have:=(World.ownsRow.lt W _ e.symm).1; omega
   have a0:=D.heap b7 b8;obtain ⟨g',cap',cur',rfl,_⟩:=L.form (by omega);refine Xay.store hTT rfl a0 rfl rfl ?_;intro ai E M c8;refine ζa rfl ?_;replace E:ai.heap[rb]? = some (.cells (Xe5 c p ++ [ptr mo,plV P,.slice (some ⟨g',0,none⟩) (i+1) cap',.map (some lm)]).toArray 206 (0,0)):=E;refine Xay.arith hTT rfl (w64 (by omega)) rfl ?_;have ba:=Xih a0;have bw:=D.size;have ay:∀ {S':Sh} {G:Nat→Pg} {x:Sm} {pl:PlM},Xbr w9 S' G x pl→Xbr ai S' G x pl:=fun h=>(h.own W D (by have:=K.size; omega)).note ba M (by have:=K.size; omega) (by decide);have am:Chg (fun z=>z=rb) J ai:=((r.trans (t.mono fun _ _ h=>h.elim)).since D (fun z hz e=>by have:=(World.ownsRow.lt W _ e.symm).1; omega)).trans M;have c9:=aw.size;have ca:=V.size;have bb:=fun G=>(d G).foot_lt;exact ih (i+1,.slice (some ⟨g',0,none⟩) (i+1) cap',ls ++ [S]) _ _ ⟨af,by simp [ad],E,by
    have:=L.chg M (fun z hz e=>by
     subst e;have:=(World.ownsRow.lt L _ hz.symm).1; omega)
    simpa using this,fun k S' m=>by
    by_cases e:k<ls.length
    ·rw [List.getElem?_append_left e] at m;obtain ⟨a1,a2,a3⟩:=n k S' m;exact ⟨a1,fun G=>ay ((a2 G).grow t),fun G z hz=>by obtain ⟨b1,b2⟩:=a3 G z hz; exact ⟨b1,by omega⟩⟩
    ·rw [List.getElem?_append_right (by omega)] at m;have e2:k=ls.length:=by
      have:=(List.getElem?_eq_some_iff.1 m).1;simp only [List.length_singleton] at this;omega
     subst e2;simp only [Nat.sub_self,List.getElem?_cons_zero,Option.some.injEq] at m;subst m;refine ⟨bl,fun G=>ay ?_,fun G z hz => ?_⟩
     ·rw [ad,ag,Int.toNat_natCast]; exact (d G).grow ax
     ·have g1:=av G z hz;have g2:=bb G z (.inl hz);exact ⟨by omega,by omega⟩,fun j k S1 S2 a4 h1 h2 G G' z hz=>by
    by_cases e:k<ls.length
    ·rw [List.getElem?_append_left e] at h2;rw [List.getElem?_append_left (by omega)] at h1;exact C j k S1 S2 a4 h1 h2 G G' z hz
    ·rw [List.getElem?_append_right (by omega)] at h2;have e2:k=ls.length:=by
      have:=(List.getElem?_eq_some_iff.1 h2).1;simp only [List.length_singleton] at this;omega
     subst e2;simp only [Nat.sub_self,List.getElem?_cons_zero,Option.some.injEq] at h2;subst h2;rw [List.getElem?_append_left a4] at h1;have g1:=((n j S1 h1).2.2 G z hz).2;exact fun u=>by have:=av G' z u; omega,am⟩ (by simp only; omega) ⟨rfl,rfl,rfl,rfl,rfl,rfl,trivial⟩
  ·have bq:i=c.classes.length:=by have:=of_decide_eq_false ae; omega
   subst bq;obtain ⟨g,cap,cur,rfl,cu,az,_⟩:=U.form (by omega);have aj:=World.ownsRow.cells U (g:=g) rfl;have br:=Xih az;have cv:=XjD az;have ce:=r.size
   let q:Nat→Pg:=fun _=>⟨0,0,0⟩
   let R:Rm:=⟨rb,c,p,mo,P,g,cap,lm,fun k=>ls.getD k ⟨0,0,⟨0,0,0⟩,P⟩,lap,X⟩
   let F:Nat→Prop:=fun z=>(∃ (k:Nat) (S:Sh),ls[k]? = some S∧XpG S q [] z)∨XmK P z∨z=lm∨mo=some z
   have o:∀ z,F z→(w.heap.size≤z∧z<I.heap.size)∨mo=some z:=fun z hz=>by
    rcases hz with ⟨k,S,d,hz⟩ | hz | hz | hz
    ·obtain ⟨b1,b2⟩:=(n k S d).2.2 q z hz;exact .inl ⟨by omega,b2⟩
    ·rcases hz with e | e <;> exact .inl ⟨by omega,by omega⟩
    ·exact .inl ⟨by omega,by omega⟩
    ·exact .inr hz
   have O:∀ b,mo=some b→b<w.heap.size:=fun b A=>by
    obtain ⟨hm,_⟩:=hmo b A;exact XjD hm.1
   have ak:∀ {a:Option Addr} {l:List Int},Rd .i64 w a l→(∀ b,mo=some b→Far (fun z=>z=b) w a l)→Far F I a l:=fun {a l} hr A=>⟨hr.chg f,fun hl b off s e hz=>by
    have af:=hr.block hl e;rcases o b hz with ⟨h,_⟩ | h
    ·omega
    ·exact (A b h).2 hl b off s e rfl⟩
   have a5:∀ (k:Nat) (S:Sh),ls[k]? = some S→R.S k=S:=fun k S h=>by
    show ls.getD k _=S
    rw [List.getD_eq_getElem?_getD,h]; rfl
   have H:∀ (k:Nat),k<c.classes.length → ∃ S,ls[k]? = some S:=fun k m=>⟨_,List.getElem?_eq_getElem (by omega)⟩;have b0:(XkV c c.classes.length).length=c.classes.length:=by unfold XkV; simp
   exact Xay.ret2 hTT rfl Tryz.func88 rfl rfl rfl ⟨f,F,R,rfl,rfl,rfl,rfl,⟨XkT hm htot,by show I.heap[rb]? = some (.cells (rmL R (XkV c c.classes.length).length).toArray _ _); rw [b0]; exact B,ak hc.classes (fun b A=>(hmo b A).2.1),ak hc.keep (fun b A=>(hmo b A).2.2),hm,
    fun b A=>⟨.inr (.inr (.inr A)),by obtain ⟨h,_⟩:=hmo b A; exact h.chg f⟩,fun k m=>by
     replace m:k<(XkV c c.classes.length).length:=m;rw [b0] at m;obtain ⟨S,d⟩:=H k m;have:=aj k (sfV S) (by rw [List.getElem?_map,d]; rfl);rw [XbQ] at this;rw [a5 k S d]
     simpa using this,by show Xa5 I P (XmR c.pages.toNat); rw [hN,Int.toNat_natCast]; exact au,fun z hz => .inr (.inl hz),⟨fun _=>q,fun k x hx=>by
     obtain ⟨m,rfl⟩:=XkW hx;obtain ⟨S,d⟩:=H k m;obtain ⟨a1,a2,a3⟩:=n k S d;rw [a5 k S d];refine ⟨a1,by show Xbr I S q _ (XmR c.pages.toNat); rw [hN,Int.toNat_natCast]; exact a2 q,fun z hz=>⟨.inl ⟨k,S,d,hz⟩,fun e => ?_⟩⟩;have:=(a3 q z hz).1;have e':z=lm:=e;omega,fun j k x y a4 hx hy z hz u=>by
     obtain ⟨hj,rfl⟩:=XkW hx;obtain ⟨m,rfl⟩:=XkW hy;obtain ⟨S,d⟩:=H j hj;obtain ⟨S',al⟩:=H k m;rw [a5 j S d] at hz;rw [a5 k S' al] at u;rcases Nat.lt_or_gt_of_ne a4 with h | h
     ·exact C j k S S' h d al q q z hz u
     ·exact C k j S' S h al d q q z u hz⟩,⟨[],(bi.chg T id).chg r (by omega),List.nodup_nil,(fun e he=>by cases he),fun _ _=>rfl⟩,.inr (.inr (.inl rfl)),fun hz=>by
     rcases hz with ⟨k,S,d,hz⟩ | hz | hz | hz
     ·have:=((n k S d).2.2 q _ hz).1;replace this:J.heap.size≤rb:=this;omega
     ·rcases hz with e | e
      ·replace e:rb=P.pb:=e; omega
      ·replace e:rb=P.ab:=e; omega
     ·replace hz:rb=lm:=hz; omega
     ·have:=O _ hz;replace this:rb<w.heap.size:=this;omega,fun hz=>by
     rcases hz with ⟨k,S,d,hz⟩ | hz | hz | hz
     ·have ap:=((n k S d).2.1 q).at'.apart br (by decide);rcases hz with e | e | e | ⟨e,he,_⟩
      ·exact ap.1.1 e
      ·exact ap.1.2.1 e
      ·exact ap.1.2.2.2 e
      ·cases he
     ·rcases hz with e | e
      ·replace e:g=P.pb:=e; omega
      ·replace e:g=P.ab:=e; omega
     ·replace hz:g=lm:=hz; omega
     ·have:=O _ hz;replace this:g<w.heap.size:=this;omega,fun z hz=>by
     rcases o z hz with ⟨_,h⟩ | h
     ·exact h
     ·have:=O z h; have:=f.size; omega,ht.grow f,fun hz=>by
     rcases o _ hz with ⟨h,_⟩ | h
     ·omega
     ·obtain ⟨bu,_⟩:=hmo _ h;exact XsE ht (fun v e=>by rw [Xd6 bu.1] at e; simp at e) rfl,fun z hz=>⟨by have:=(hX z hz).1; have:=f.size; omega,fun u=>by
     rcases o z u with ⟨h,_⟩ | h
     ·have:=(hX z hz).1; omega
     ·exact (hX z hz).2 h⟩⟩,fun z hz=>(o z hz).imp (·.1) id,rfl,rfl⟩
 ·have em:Xj1 c=1:=by unfold Xj1; rw [if_neg hm]
  rw [em];simp only [hm];exact ζy rfl (ζr Tryz.func88 rfl ⟨a7.trans Q,rfl⟩)
section
variable {α:Type} {cells:α→List Value} {sz:Nat}
def fl (cells:α→List Value) (xs:List α):List Value:=xs.flatMap cells
theorem Xga (xs ys:List α):fl cells (xs++ys)=fl cells xs++fl cells ys:=by unfold fl; rw [List.flatMap_append]
theorem Xgc (hl:∀ x,(cells x).length=sz):∀ xs:List α,(fl cells xs).length=xs.length*sz
 |[]=>by simp [fl]
 |x::r=>by
  have:=Xgc hl r;unfold fl at *;rw [List.flatMap_cons,List.length_append,this,hl,List.length_cons,Nat.succ_mul];omega
theorem Xgb (hl:∀ x,(cells x).length=sz) {j:Nat} (hj:j<sz):∀ (xs:List α) (i:Nat) (x:α),xs[i]? = some x→(fl cells xs)[i*sz+j]? = (cells x)[j]?
 |[],i,x,h=>by simp at h
 |y::r,0,x,h=>by
  cases h
  unfold fl;rw [List.flatMap_cons,Nat.zero_mul,Nat.zero_add,List.getElem?_append_left (by rw [hl]; exact hj)]
 |y::r,i+1,x,h=>by
  have:=Xgb hl hj r i x h;unfold fl at *;rw [List.flatMap_cons,List.getElem?_append_right (by rw [hl,Nat.succ_mul]; omega),hl,← this]
  congr 1
  rw [Nat.succ_mul]; omega
theorem Xpu:∀ (A old vs B:List Value),old.length=vs.length→Xpo (A++(old++B)) A.length vs=some (A++(vs++B))
 |[],[],[],B,_=>by cases B <;> rfl
 |[],o::old,v::vs,B,h=>by
  have:=Xpu [] old vs B (by simpa using h);simp only [List.nil_append,List.length_nil] at this;show Xpo (o::(old++B)) 0 (v::vs)=_
  unfold Xpo;rw [this]; rfl
 |x::A,old,vs,B,h=>by
  have:=Xpu A old vs B h;show Xpo (x::(A++(old++B))) (A.length+1) vs=_
  unfold Xpo;rw [this]; rfl
theorem Xgd (hl:∀ x,(cells x).length=sz) {xs:List α} {k:Nat} {y:α} {rest:List Value} (hk:k<xs.length):Xpo (fl cells xs++rest) (0+k*sz) (cells y)=some (fl cells (xs.set k y)++rest):=by
 have e1:xs=xs.take k++(xs[k]::xs.drop (k+1)):=by rw [← List.drop_eq_getElem_cons hk,List.take_append_drop]
 have e2:xs.set k y=xs.take k++(y::xs.drop (k+1)):=List.set_eq_take_append_cons_drop.trans (if_pos hk);have a:(fl cells (xs.take k)).length=0+k*sz:=by rw [Xgc hl,List.length_take,Nat.min_eq_left (by omega),Nat.zero_add]
 have f1:∀ z,fl cells (xs.take k++(z::xs.drop (k+1)))++rest=fl cells (xs.take k)++(cells z++(fl cells (xs.drop (k+1))++rest)):=fun z=>by
  rw [Xga];unfold fl;rw [List.flatMap_cons];simp only [List.append_assoc]
 rw [e2,f1 y,← a]
 conv=>lhs; rw [e1,f1 xs[k]]
 rw [show (xs.take k++xs[k]::xs.drop (k+1)).take k=xs.take k from by rw [← e1]];exact Xpu _ _ _ _ (by rw [hl,hl])
end
structure RR where
 c:Conf
 cp:Xal
 p:RP
 ss:List RS
 sa:Option Addr
 scap:Nat
 lg:List Plc
 la:Option Addr
 lcap:Nat
 steps:Int
def lgP (e:Nat × List Nat):PlcM:=⟨-1,(e.1:Nat),0,XkJ e.2⟩
structure MOk (M:RmM):Prop where
 sh:∀ (k:Nat) (x:Sm),M.shs[k]? = some x→x.Ok∧x.Of M.pl
 good:M.pl.Good
theorem Xbd.mok {F:Nat→Prop} {w:World} {R:Rm} {M:RmM} (h:Xbd F w R M):MOk M:=⟨fun k x b=>by
 obtain ⟨G,_,a,_⟩:=h.shelf b;exact ⟨a.ok,a.of⟩,h.pool.good⟩
structure Xbi (w:World) (r:RR) (M:RmM):Prop where
 p:Xbh w r.p M.pl
 sr:Rows rsL 7 w r.sa r.ss
 sl:ALt w r.sa
 sc:r.ss.length≤r.scap
 n:r.ss.length=M.shs.length
 few:r.ss.length≤16
 each:∀ (k:Nat) (s:RS) (x:Sm),r.ss[k]? = some s→M.shs[k]? = some x → ∃ pk,Xbk w s x pk∧x.Of pk
 lr:Rows Xm9 4 w r.la r.lg
 ll:ALt w r.la
 lc:r.lg.length≤r.lcap
 lm:r.lg.length≤1024
 lge:r.lg.map Xnb=M.lg.map lgP
 lgo:∀ q ∈ r.lg,Xa4 w q∧ALt w q.pa
 st:r.steps=M.tot
structure Xbj (S:Nat→Prop) (r:RR):Prop where
 o:XaX S r.p.o.a
 f:XaX S r.p.f.a
 sa:XaX S r.sa
 each:∀ s ∈ r.ss,Xbl S s
 la:XaX S r.la
 lgo:∀ q ∈ r.lg,XaX S q.pa
theorem Rows.far {α:Type} {cells:α→List Value} {sz:Nat} {w w':World} {a:Option Addr} {xs:List α} {S:Nat→Prop} (h:Rows cells sz w a xs) (hs:XaX S a) (hc:Chg S w w'):Rows cells sz w' a xs:=fun i x d=>by
 obtain ⟨b,off,e,c⟩:=h i x d;exact ⟨b,off,e,fun j v f=>hc.cell (c j v f) (hs b off _ e)⟩
theorem Xbi.grow {w w':World} {r:RR} {M:RmM} (h:Xbi w r M) (hc:Chg XaW w w'):Xbi w' r M :=
 ⟨h.p.grow hc,h.sr.chg hc,h.sl.grow hc.size,h.sc,h.n,h.few,fun k s x d e=>by obtain ⟨pk,a,b⟩:=h.each k s x d e; exact ⟨pk,a.grow hc,b⟩,h.lr.chg hc,h.ll.grow hc.size,h.lc,h.lm,h.lge,fun q c=>⟨(h.lgo q c).1.grow hc,(h.lgo q c).2.grow hc.size⟩,h.st⟩
theorem Xbi.far {w w':World} {r:RR} {M:RmM} {S:Nat→Prop} (h:Xbi w r M) (ho:Xbj S r) (hc:Chg S w w'):Xbi w' r M :=
 ⟨⟨h.p.o.far ho.o hc,h.p.f.far ho.f hc,h.p.eo,h.p.ef⟩,h.sr.far ho.sa hc,h.sl.grow hc.size,h.sc,h.n,h.few,fun k s x d e=>by obtain ⟨pk,a,b⟩:=h.each k s x d e; exact ⟨pk,a.far (ho.each s (List.mem_of_getElem? d)) hc,b⟩,h.lr.far ho.la hc,h.ll.grow hc.size,h.lc,h.lm,h.lge,fun q c=>⟨⟨(h.lgo q c).1.rd.far (ho.lgo q c) hc,(h.lgo q c).1.len⟩,(h.lgo q c).2.grow hc.size⟩,h.st⟩
theorem Xbi.out {w:World} {r:RR} {M:RmM} {S:Nat→Prop} (h:Xbi w r M) (hs:∀ z,S z→w.heap.size≤z):Xbj S r :=
 ⟨h.p.o.lt.out hs,h.p.f.lt.out hs,h.sl.out hs,fun s hm=>by
  obtain ⟨k,b,rfl⟩:=List.getElem_of_mem hm;obtain ⟨pk,a,_⟩:=h.each k _ _ (List.getElem?_eq_getElem b) (List.getElem?_eq_getElem (by rw [← h.n]; exact b));exact a.out hs,h.ll.out hs,fun q c=>(h.lgo q c).2.out hs⟩
theorem Xbj.mono {S S':Nat→Prop} {r:RR} (h:Xbj S r) (hs:∀ z,S' z→S z):Xbj S' r :=
 ⟨h.o.mono hs,h.f.mono hs,h.sa.mono hs,fun s hm=>⟨(h.each s hm).o.mono hs,(h.each s hm).f.mono hs,(h.each s hm).nums.mono hs,(h.each s hm).opn.mono hs,(h.each s hm).pa.mono hs,fun l a=>((h.each s hm).each l a).mono hs⟩,h.la.mono hs,fun q b=>(h.lgo q b).mono hs⟩
def Xa7 (w:World) (r r':RR):Prop:=r'.c=r.c∧r'.cp=r.cp ∧ ∀ S:Nat→Prop,(∀ z,S z→z<w.heap.size)→Xbj S r→Xbj S r'
theorem Xa7.refl (w:World) (r:RR):Xa7 w r r:=⟨rfl,rfl,fun _ _ h=>h⟩
theorem Xa7.trans {w w1:World} {r r1 r2:RR} (h:Xa7 w r r1) (h':Xa7 w1 r1 r2) (hs:w.heap.size≤w1.heap.size):Xa7 w r r2:=⟨h'.1.trans h.1,h'.2.1.trans h.2.1,fun S a b =>
 h'.2.2 S (fun z c=>by have:=a z c; omega) (h.2.2 S a b)⟩

theorem Xbi.sout {w:World} {r:RR} {M:RmM} {S:Nat→Prop} (h:Xbj S r) {k:Nat} {s:RS} (hk:r.ss[k]? = some s) (_:Xbi w r M):Xbl S {s with p:=r.p}:=by
 have:=h.each s (List.mem_of_getElem? hk);exact ⟨h.o,h.f,this.nums,this.opn,this.pa,this.each⟩
theorem Xbi.put {w w':World} {r:RR} {M:RmM} (h:Xbi w r M) (hc:Chg XaW w w') {k:Nat} {s:RS} {x':Sm} {pl':PlM} {t:Int} {sa':Option Addr} {scap':Nat} (hk:k<r.ss.length) (hs:Xbk w' s x' pl') (hof:x'.Of pl') (hrow:Rows rsL 7 w' sa' (r.ss.set k s)) (hlt:ALt w' sa') (hcap:(r.ss.set k s).length≤scap') :
 Xbi w' {r with sa:=sa',scap:=scap',ss:=r.ss.set k s,p:=s.p,steps:=t} {M with shs:=M.shs.set k x',pl:=pl',tot:=t}:=by
 have a:=h.grow hc;refine ⟨hs.p,hrow,hlt,hcap,by show (r.ss.set k s).length=(M.shs.set k x').length; rw [List.length_set,List.length_set]; exact h.n,by show (r.ss.set k s).length≤16; rw [List.length_set]; exact h.few,fun j d f b c => ?_,a.lr,a.ll,a.lc,a.lm,a.lge,a.lgo,rfl⟩;by_cases e:k=j
 ·subst e;rw [List.getElem?_set_self hk] at b;rw [List.getElem?_set_self (by rw [← h.n]; exact hk)] at c;cases b; cases c
  exact ⟨pl',hs,hof⟩
 ·rw [List.getElem?_set_ne e] at b c;exact a.each j d f b c
theorem Xa7.put {w w1 w':World} {r:RR} {M:RmM} (h:Xbi w r M) {k:Nat} {s0 s:RS} {t:Int} {sa':Option Addr} {scap':Nat} (hk:r.ss[k]? = some s0) (hs:w.heap.size≤w1.heap.size) (hkeep:XaG w1 {s0 with p:=r.p} s) (hf:Xax w' sa') (hs':w.heap.size≤w'.heap.size) :
 Xa7 w r {r with sa:=sa',scap:=scap',ss:=r.ss.set k s,p:=s.p,steps:=t}:=⟨rfl,rfl,fun S e b=>by
 have a:=hkeep S (fun z c=>by have:=e z c; omega) (Xbi.sout b hk h);refine ⟨a.o,a.f,hf.out (fun z c=>by have:=e z c; omega),fun f d => ?_,b.la,b.lgo⟩;rcases List.mem_or_eq_of_mem_set d with d | rfl
 ·exact b.each f d
 ·exact a⟩
theorem Eff.good {p q:PlM} {c:Int} (h:Eff p q c) (hg:p.Good) (hc:0≤c):q.Good:=by
 rcases h with rfl | ⟨n,r,a,rfl⟩ | ⟨n,b,d,rfl⟩
 ·exact hg
 ·exact hg.take hc a
 ·exact hg.give b (by omega)
theorem XsL (x:Sm) (pl:PlM) (who:Int) (hof:x.Of pl) (hg:pl.Good):(XpW x pl who).Of (Xp0 x pl who):=by
 rcases Xp1 x pl who with ⟨_,a,b⟩ | ⟨_,_,⟨n,r,_,a,b,_⟩ | ⟨n,r,_,d,a,b,_⟩⟩
 ·rw [a,b]; exact hof
 ·rw [a,b]; exact hof.set rfl (fun e c=>Xq0 c)
 ·rw [a,b]; exact (hof.fresh hg d).set rfl (fun e c=>Xq0 c)
theorem XgK (x:Sm) (pl:PlM) (n i:Int) (hok:x.Ok) (hof:x.Of pl):(XpH x n i).Of (XpJ x pl n i):=by
 unfold XpH XpJ;cases c:XqN x.pg n with
 |none=>exact hof
 |some p =>
  simp only
  by_cases a:Xme p i=0
  ·rw [if_pos a];have:=Sm.Of.giveAt hok hof (n:=n.toNat) (p:=p) (i:=i);by_cases b:Xmy (Xmd p i)=0
   ·rw [if_pos b] at this; rw [if_pos ⟨a,b⟩]; exact this
   ·rw [if_neg b] at this; rw [if_neg (fun h=>b h.2)]; exact this
  ·rw [if_neg a,if_neg (fun h=>a h.1)]; exact hof
theorem Xlw (x:Sm) (pl:PlM) (n i who:Int) (hof:x.Of pl):(XpN x n i who).Of pl:=by
 unfold XpN;split
 ·exact hof.set rfl (fun e a=>Xq0 a)
 ·exact hof

theorem Xuk {n a b:Int}:Xuj n a b=true↔a≤n∧n≤b:=by unfold Xuj; simp
theorem XjZ {c:Conf}:XjY c=true↔Xqu c.size=true∧(1≤c.pages∧c.pages≤1024)∧XeM c.classes c.size=true∧c.keep.length=c.classes.length∧(∀ k,k ∈ c.keep→0≤k∧k≤1024) ∧
 (1≤c.step∧c.step≤65536)∧(1≤c.slots∧c.slots≤4096)∧(1≤c.gens∧c.gens≤1023)∧(1≤c.most∧c.most≤Xit c):=by
 unfold XjY Xip;simp only [Bool.and_eq_true,Xuk,decide_eq_true_eq,Bool.not_eq_true',List.any_eq_false,Bool.not_eq_false,and_assoc]
theorem Rd.of {k:IntKind} {w:World} {b:Nat} {c:Array Value} {t:TypeId} {fz:Nat × Nat} {zs:List Int} (h:w.heap[b]? = some (.cells c t fz)) (hc:c=(zs.map (Value.int k)).toArray):Rd k w (some ⟨b,0,none⟩) zs:=fun i a =>
 ⟨b,0,rfl,by rw [Xd6 h,hc]; simp [a]⟩
theorem XmG (zs:List Int) (n:Int) : -1≤XmF zs n:=by
 unfold XmF;split
 ·omega
 ·by_cases h:zs.any (fun s=>decide (n≤s))=true
  ·have:=XhZ.2 h; omega
  ·rw [XhY (fun j b=>by
    by_cases a:n≤zs[j]
    ·exact absurd (List.any_eq_true.2 ⟨zs[j],List.getElem_mem b,decide_eq_true a⟩) h
    ·exact decide_eq_false a)]
   omega

theorem Xa7.out {w w2:World} {r r':RR} {M:RmM} (hK:Xa7 w2 r r') (h:Xbi w r M) {S:Nat→Prop} (h1:∀ z,S z→w.heap.size≤z) (h2:∀ z,S z→z<w2.heap.size):Xbj S r':=hK.2.2 S h2 (h.out h1)

theorem Xir {lg:List (Nat × List Nat)} (hn:(XiQ lg).Nodup) {n:Nat} {r r':List Nat} (h:(n,r) ∈ lg) (h':(n,r') ∈ lg):r=r':=by
 obtain ⟨a,b,e1,e2⟩:=XiT hn h;rw [e1] at h' hn;have c:XiQ (a++(n,r)::b)=XiQ a++((n::r)++XiQ b):=by rw [XiR]; rfl
 rw [c] at hn;obtain ⟨_,d,e⟩:=List.nodup_append.1 hn;obtain ⟨_,_,f⟩:=List.nodup_append.1 d;rcases List.mem_append.1 h' with g | g
 ·exact absurd rfl (e n (Xj4 g (by simp)) n (by simp))
 ·rcases List.mem_cons.1 g with g | g
  ·exact ((Prod.mk.inj g).2).symm
  ·exact absurd rfl (f n (by simp) n (Xj4 g (by simp)))
def XaK (M:RmM):Prop := ∀ (k:Nat) (x:Sm),M.shs[k]? = some x→x.Pos
theorem Xbd.mpos {F:Nat→Prop} {w:World} {R:Rm} {M:RmM} (h:Xbd F w R M):XaK M:=fun k x a=>by
 obtain ⟨G,_,b,_⟩:=h.shelf a;exact b.pos
theorem XhX {α:Type} {p:α→Bool} {l:List α} (_ : -1≤idx p l):idx p l<l.length:=by
 by_cases h:∃ k,∃ a:k<l.length,p l[k]=true ∧ ∀ j (b:j<l.length),j<k→p l[j]=false
 ·obtain ⟨k,a,d,e⟩:=h;rw [XhW a e d]; omega
 ·rw [XhY fun j b => ?_]
  ·omega
  ·induction j using Nat.strongRecOn with
   |ind j ih =>
    cases f:p l[j] with
    |false=>rfl
    |true=>exact absurd ⟨j,b,f,fun i g c=>ih i c g⟩ h
theorem XmH {zs:List Int} {n:Int} (h:XmF zs n ≠ -1):0≤XmF zs n∧XmF zs n<zs.length:=by
 have a:=XmG zs n;refine ⟨by omega,?_⟩;unfold XmF at *;split at h
 ·exact absurd rfl h
 ·rename_i b
  rw [if_neg b] at a;rw [if_neg b];exact XhX a
theorem Xf9 {c:Conf} {M:RmM} {who size:Int} (hok:M.Ok c) (hw:0≤who) (h:Xog c M size=0):XoD c M who size=0:=by
 have a:(Xos c M size:Int)≤M.pl.free.length:=by
  unfold Xog at h;split at h
  ·exact absurd h (by decide)
  ·split at h
   ·exact absurd h (by decide)
   ·omega
 unfold XoD;rw [if_neg (by omega),if_neg (by omega)];split
 ·rfl
 ·rename_i b
  obtain ⟨g,i⟩:=XmH b;obtain ⟨k,d⟩:=Int.eq_ofNat_of_zero_le g;rw [d] at i ⊢;have e:k<M.shs.length:=by have:=hok.n; omega
  have f:=Xoi e;unfold XoR;rw [f];simp only
  unfold XpY;rw [if_neg (by omega),if_neg];intro ⟨j,l⟩;unfold Xos at a;rw [if_neg b,d] at a;unfold Xot at a;rw [f] at a;simp only [j,l] at a;omega
theorem Xom {M:RmM} {k j:Nat} {x:Sm} {q:PlM} {t:Int}:Xoh {M with shs:=M.shs.set k x,pl:=q,tot:=t} j=if k=j∧k<M.shs.length then some x else Xoh M j:=by
 unfold Xoh;rw [if_pos (Int.natCast_nonneg _),if_pos (Int.natCast_nonneg _),Int.toNat_natCast];show (M.shs.set k x)[j]? = _
 by_cases e:k=j
 ·subst e;by_cases a:k<M.shs.length
  ·rw [if_pos ⟨rfl,a⟩,List.getElem?_set_self a]
  ·rw [if_neg (fun h=>a h.2),List.getElem?_eq_none (by rw [List.length_set]; omega),List.getElem?_eq_none (by omega)]
 ·rw [if_neg (fun h=>e h.1),List.getElem?_set_ne e]
theorem XlG {x:Sm} {n i:Int} (h:XpP x n i = -1):XpI x n i≠0:=by
 unfold XpP at h;unfold XpI;cases a:XqN x.pg n with
 |none=>simp
 |some p =>
  rw [a] at h;simp only at h ⊢
  unfold Xme;split
  ·decide
  ·first | decide | (rw [if_pos h]; decide)
theorem Xoj {M:RmM} {k:Int} (h:k<0):Xoh M k=none:=Xok (.inl h)
theorem XqS {l:PgL} {n:Nat} {p q:List Int} (hn:(l.map (·.1)).Nodup) (hq:(n,q) ∈ l) (m:Int):XqN (XqW l n p) m=if m=n then some p else XqN l m:=by
 by_cases e:m=n
 ·rw [if_pos e,e]; exact XqT hn hq
 ·rw [if_neg e]
  clear hn hq
  induction l with
  |nil=>rfl
  |cons a r ih =>
   obtain ⟨k,t⟩:=a;by_cases c:k=n
   ·have:XqW ((k,t)::r) n p=(n,p)::XqW r n p:=by show (if k=n then (n,p) else (k,t))::XqW r n p=_; rw [if_pos c]
    rw [this];unfold XqN;rw [if_neg (fun h=>e h.symm),if_neg (fun h=>e (by omega))];exact ih
   ·have:XqW ((k,t)::r) n p=(k,t)::XqW r n p:=by show (if k=n then (n,p) else (k,t))::XqW r n p=_; rw [if_neg c]
    rw [this];unfold XqN;by_cases b:(k:Int)=m
    ·rw [if_pos b,if_pos b]
    ·rw [if_neg b,if_neg b]; exact ih
theorem XqO {l:PgL} {n:Nat} {p:List Int} (hn:n ∉ l.map (·.1)) (m:Int):XqN (l ++ [(n,p)]) m=if m=n then some p else XqN l m:=by
 induction l with
 |nil =>
  show XqN [(n,p)] m=_
  unfold XqN;by_cases e:(n:Int)=m
  ·rw [if_pos e,if_pos e.symm]
  ·rw [if_neg e,if_neg (fun h=>e h.symm)]; rfl
 |cons a r ih =>
  obtain ⟨k,t⟩:=a;have d:k≠n:=fun h=>hn (by simp [h]);have c:n ∉ r.map (·.1):=fun h=>hn (by simp at h ⊢; exact .inr h);show (if (k:Int)=m then some t else XqN (r ++ [(n,p)]) m)=if m=n then some p else (if (k:Int)=m then some t else XqN r m)
  rw [ih c];by_cases b:(k:Int)=m
  ·rw [if_pos b,if_pos b,if_neg (by omega)]
  ·rw [if_neg b,if_neg b]
theorem XqP {l:PgL} {n:Nat} (m:Int):XqN (XqJ l n) m=if m=n then none else XqN l m:=by
 induction l with
 |nil=>show none=_; split <;> rfl
 |cons a r ih =>
  obtain ⟨k,t⟩:=a;by_cases c:k=n
  ·have:XqJ ((k,t)::r) n=XqJ r n:=by unfold XqJ; rw [List.filter_cons]; simp [c]
   rw [this,ih];by_cases e:m=n
   ·rw [if_pos e,if_pos e]
   ·rw [if_neg e,if_neg e];show _=if (k:Int)=m then some t else XqN r m
    rw [if_neg (by omega)]
  ·have:XqJ ((k,t)::r) n=(k,t)::XqJ r n:=by unfold XqJ; rw [List.filter_cons]; simp [c]
   rw [this];show (if (k:Int)=m then some t else XqN (XqJ r n) m)=if m=n then none else (if (k:Int)=m then some t else XqN r m)
   rw [ih];by_cases b:(k:Int)=m
   ·rw [if_pos b,if_pos b,if_neg (by omega)]
   ·rw [if_neg b,if_neg b]
theorem Xmn {p:List Int} {k:Nat} {v:Int} (h:k<p.length) (j:Int):Xmj (p.set k v) j=if j=k then v else Xmj p j:=by
 unfold Xmj;by_cases a:0≤j
 ·obtain ⟨j,rfl⟩:=Int.eq_ofNat_of_zero_le a;rw [if_pos a,if_pos a];show (p.set k v).getD j (-1)=_
  rw [XgF];by_cases e:k=j
  ·subst e; rw [if_pos ⟨rfl,h⟩,if_pos rfl]
  ·rw [if_neg (fun h=>e h.1),if_neg (by omega)]; rfl
 ·rw [if_neg a,if_neg a,if_neg (by omega)]
theorem Xmo {p:List Int} {j:Int} (h:Xmj p j ≠ -1):0≤j∧j<p.length:=by
 unfold Xmj at h;split at h
 ·rename_i a
  refine ⟨a,?_⟩;refine Int.not_le.1 fun b=>h ?_;rw [List.getD_eq_getElem?_getD,List.getElem?_eq_none (by omega)];rfl
 ·exact absurd rfl h
theorem XlH {x:Sm} {n i:Int} (hok:x.Ok) (h:XpP x n i ≠ -1):∃ (m:Nat) (p:List Int),n=m∧(m,p) ∈ x.pg∧XqN x.pg n=some p∧0≤i∧i<x.blocks∧XpP x n i=Xmj p i:=by
 unfold XpP at h ⊢;cases c:XqN x.pg n with
 |none=>rw [c] at h; exact absurd rfl h
 |some p =>
  rw [c] at h;simp only at h
  obtain ⟨m,rfl,hm⟩:=XqU c;have d:=(hok.each _ hm).2.1;obtain ⟨a,b⟩:=Xmo h;exact ⟨m,p,rfl,hm,rfl,a,by simp only at d; omega,rfl⟩
theorem XgI {x:Sm} {n i:Int}:XpI x n i=0↔XpP x n i ≠ -1:=by
 constructor
 ·intro h d; exact XlG d h
 ·intro h;unfold XpP at h;unfold XpI;cases c:XqN x.pg n with
  |none=>rw [c] at h; exact absurd rfl h
  |some p =>
   rw [c] at h;simp only at h ⊢
   obtain ⟨a,b⟩:=Xmo h;unfold Xme;rw [if_neg (by omega),if_neg h]
theorem Xls {x:Sm} {n i who:Int} (hw:0≤who):XpO x n i who=0↔XpP x n i ≠ -1:=by
 unfold XpP XpO;cases d:XqN x.pg n with
 |none=>simp
 |some p =>
  simp only
  unfold Xmk;constructor
  ·intro h c;split at h
   ·cases h
   ·first | (rw [if_pos c] at h; cases h) | (cases h)
  ·intro h;obtain ⟨a,b⟩:=Xmo h;rw [if_neg (by omega),if_neg h]
theorem XgM {x:Sm} {n i:Int} (hok:x.Ok) (h:XpP x n i ≠ -1) (m j:Int):XpP (XpH x n i) m j=if m=n∧j=i then -1 else XpP x m j:=by
 obtain ⟨k,p,rfl,o,l,t,A,e⟩:=XlH hok h;obtain ⟨i,rfl⟩:=Int.eq_ofNat_of_zero_le t;rw [e] at h;have u:=(hok.each _ o).2.1;simp only at u
 have q:Xme p i=0:=by unfold Xme; rw [if_neg (by omega),if_neg h]
 have w:XpH x (k:Nat) i=x.giveAt k p i:=by unfold XpH; rw [l]; simp only; rw [if_pos q,Int.toNat_natCast]
 rw [w];have d:Xmd p i=p.set i (-1):=by unfold Xmd; rw [if_pos q,Int.toNat_natCast]
 unfold Sm.giveAt;simp only
 by_cases r:Xmy (Xmd p i)=0
 ·rw [if_pos r];unfold XpP;simp only
  rw [XqP];by_cases hm:m=k
  ·rw [if_pos hm];by_cases c:j=i
   ·rw [if_pos ⟨hm,c⟩]
   ·rw [if_neg (fun h=>c h.2),hm,l];simp only
    have s:Xmj (Xmd p i) j = -1:=Decidable.byContradiction fun f=>by
     obtain ⟨a,b⟩:=Xmo f;obtain ⟨j,rfl⟩:=Int.eq_ofNat_of_zero_le a;have g:j<(Xmd p i).length:=by omega
     have:=XmB (v := -1) g;rw [if_pos rfl] at this;have y:(Xmd p i).getD j 0 ≠ -1:=by
      rw [Xgv g];intro z;apply f
      unfold Xmj;rw [if_pos a,Int.toNat_natCast]; exact z
     rw [if_neg y] at this;omega
    rw [d,Xmn (by omega),if_neg c] at s;exact s.symm
  ·rw [if_neg hm,if_neg (fun h=>hm h.1)]
 ·rw [if_neg r];unfold XpP;simp only
  rw [XqS hok.nodup o];by_cases hm:m=k
  ·rw [if_pos hm,hm,l];simp only
   rw [d,Xmn (by omega)];by_cases c:j=i
   ·rw [if_pos c,if_pos ⟨by trivial,c⟩]
   ·rw [if_neg c,if_neg (fun h=>c h.2)]
  ·rw [if_neg hm,if_neg (fun h=>hm h.1)]
theorem Xly {x:Sm} {n i who:Int} (hok:x.Ok) (hw:0≤who) (h:XpP x n i ≠ -1) (m j:Int):XpP (XpN x n i who) m j=if m=n∧j=i then who else XpP x m j:=by
 obtain ⟨k,p,rfl,b,c,f,q,e⟩:=XlH hok h;obtain ⟨i,rfl⟩:=Int.eq_ofNat_of_zero_le f;rw [e] at h;have g:=(hok.each _ b).2.1;simp only at g
 have l:Xmk p i who=0:=by unfold Xmk; rw [if_neg (by omega),if_neg h]
 have o:XpN x (k:Nat) i who=x.ownAt k p i who:=by unfold XpN; rw [c]; simp only [Int.toNat_natCast]
 rw [o];have d:Xml p i who=p.set i who:=by unfold Xml; rw [if_pos l,Int.toNat_natCast]
 unfold Sm.ownAt XpP;simp only
 rw [XqS hok.nodup b];by_cases hm:m=k
 ·rw [if_pos hm,hm,c];simp only
  rw [d,Xmn (by omega)];by_cases a:j=i
  ·rw [if_pos a,if_pos ⟨by trivial,a⟩]
  ·rw [if_neg a,if_neg (fun h=>a h.2)]
 ·rw [if_neg hm,if_neg (fun h=>hm h.1)]
theorem XsI {x:Sm} {n:Nat} {p:List Int} {who:Int} (hok:x.Ok) (hw:0≤who) (hp:(n,p) ∈ x.pg) (hf:Xmy p≠x.blocks) (m j:Int):XpP (x.takeAt n p who) m j=(if m=n∧j=Xmh p then who else XpP x m j)∧XpP x n (Xmh p) = -1∧0≤Xmh p∧Xmh p<x.blocks:=by
 have d:=(hok.each _ hp).2.1;simp only at d
 have f:=XqR hok.nodup hp;obtain ⟨e1,_⟩:=Xmv (p:=p) (who:=who) hw (by rw [d]; exact hf);have l:¬ Xmh p<0:=fun e=>by have:=Xmi.1 e; omega
 obtain ⟨b,c⟩:=XmD l;obtain ⟨k,g⟩:=Int.eq_ofNat_of_zero_le (show 0≤Xmh p by omega);rw [g] at b c ⊢;simp only [Int.toNat_natCast] at b c;have i:Xmr p who=p.set k who:=by unfold Xmr; rw [if_pos e1,g,Int.toNat_natCast]
 refine ⟨?_,?_,by omega,by omega⟩
 ·unfold Sm.takeAt XpP;simp only
  rw [XqS hok.nodup hp,i];by_cases hm:m=n
  ·rw [if_pos hm,hm,f];simp only
   rw [Xmn b];by_cases a:j=k
   ·rw [if_pos a,if_pos ⟨by trivial,a⟩]
   ·rw [if_neg a,if_neg (fun h=>a h.2)]
  ·rw [if_neg hm,if_neg (fun h=>hm h.1)]
 ·unfold XpP;rw [f];simp only
  unfold Xmj;rw [if_pos (by omega),Int.toNat_natCast]; exact c
structure XbB (x:Sm) (pl:PlM) (who:Int):Prop where
 own:∀ m j,XpP (XpW x pl who) m j=if m=XpZ x pl who∧j=XpX x pl who then who else XpP x m j
 free:XpP x (XpZ x pl who) (XpX x pl who) = -1
 n:0≤XpZ x pl who∧XpZ x pl who<pl.own.length
 a:0≤XpX x pl who∧XpX x pl who<x.blocks
 used:Xq2 (XpW x pl who).pg=Xq2 x.pg+1
 ok:(XpW x pl who).Ok
theorem XsK {x:Sm} {pl:PlM} {who:Int} (hok:x.Ok) (hof:x.Of pl) (hg:pl.Good) (hE:XpY x pl who=0):XbB x pl who:=by
 rcases Xp1 x pl who with ⟨l,_⟩ | ⟨_,q,⟨n,r,s,d,z,g,h,e⟩ | ⟨n,r,s,v,d,z,g,h,e⟩⟩
 ·exact absurd hE l
 ·obtain ⟨p,c⟩:=hok.osub n (by rw [s]; simp);rw [XqR hok.nodup c] at g;simp only [Option.getD_some] at g;rw [g] at d e;have f:=(hok.each _ c).2.2.1 (by rw [s]; simp);simp only at f
  have t:=(hok.each _ c).2.1;simp only at t
  have T:=fun m j=>XsI hok q c f m j;obtain ⟨_,e2⟩:=Xmv (p:=p) (who:=who) q (by rw [t]; exact f);refine ⟨fun m j=>by rw [d,h,e]; exact (T m j).1,by rw [h,e]; exact (T 0 0).2.1,?_,by rw [e]; exact (T 0 0).2.2,?_,by rw [d]; exact hok.takeAt q c (by rw [s]; simp)⟩
  ·rw [h]; have:=(hof _ c).1; simp only at this; omega
  ·rw [d];have:=Xq6 (p:=Xmr p who) hok.nodup c;show Xq2 (XqW _ _ _)=_
   omega
 ·have i:=Xgr hok hof hg (n:=n) (by rw [v]; simp);have C:=(hg.free n (by rw [v]; simp)).1;have w:n<1024:=by have:=hg.len; omega
  have o:=hok.fresh w i;have c:(n,List.replicate x.blocks (-1)) ∈ (x.fresh n).pg:=List.mem_append_right _ (by simp);rw [XqR o.nodup c] at g;simp only [Option.getD_some] at g;rw [g] at d e;have D:=hok.blk;have f:Xmy (List.replicate x.blocks (-1))≠(x.fresh n).blocks:=by rw [XmA]; show 0≠x.blocks; omega
  have T:=fun m j=>XsI o q c f m j;have u:∀ m j,XpP (x.fresh n) m j=XpP x m j:=fun m j=>by
   unfold XpP;show (match XqN (x.pg ++ [(n,List.replicate x.blocks (-1))]) m with | some p=>Xmj p j | none => -1)=_
   rw [XqO i];by_cases hm:m=n
   ·rw [if_pos hm];have A:XqN x.pg m=none:=by
     cases hg:XqN x.pg m with
     |none=>rfl
     |some p =>
      obtain ⟨k,E,y⟩:=XqU hg;have:k=n:=by omega
      subst this;exact absurd (List.mem_map.2 ⟨_,y,rfl⟩) i
    rw [A];simp only
    refine Decidable.byContradiction fun l => ?_;obtain ⟨a,b⟩:=Xmo l;apply l
    unfold Xmj;rw [if_pos a,List.getD_eq_getElem?_getD,List.getElem?_replicate];split <;> rfl
   ·rw [if_neg hm]; rfl
  have t:(List.replicate x.blocks (-1:Int)).length=x.blocks:=List.length_replicate;obtain ⟨_,e2⟩:=Xmv (p:=List.replicate x.blocks (-1)) (who:=who) q (by rw [XmA,t]; omega);refine ⟨fun m j=>by rw [d,h,e,(T m j).1,u],by rw [h,e,← u]; exact (T 0 0).2.1,by rw [h]; omega,by rw [e]; exact (T 0 0).2.2,?_,by rw [d]; exact o.takeAt q c (by show n ∈ n::x.opn; simp)⟩;rw [d];have B:=Xq6 (p:=Xmr (List.replicate x.blocks (-1)) who) o.nodup c;have F:Xq2 (x.fresh n).pg=Xq2 x.pg:=by show Xq2 (x.pg++_)=_; rw [Xq3,XmA]; rfl
  rw [XmA] at B e2;show Xq2 (XqW _ _ _)=_
  omega
structure Xbc (c:Conf) (M:RmM):Prop where
 ok:M.Ok c
 mok:MOk M
 pos:XaK M
theorem XqV {x:Sm} {n:Nat} {p:List Int} (hp:x.Pos) (h:0<Xmy p):∀ e ∈ XqW x.pg n p,0<Xmy e.2:=fun e a=>by
 rcases Xj7 a with ⟨rfl,_⟩ | ⟨_,a⟩
 ·exact h
 ·exact hp e a
theorem XsP {x:Sm} {pl:PlM} {who:Int} (hok:x.Ok) (hpos:x.Pos) (hof:x.Of pl) (hg:pl.Good):(XpW x pl who).Pos:=by
 rcases Xp1 x pl who with ⟨_,h,_⟩ | ⟨_,j,⟨n,r,f,g,q,a,_⟩ | ⟨n,r,f,k,g,q,a,_⟩⟩
 ·rw [h]; exact hpos
 ·obtain ⟨p,b⟩:=hok.osub n (by rw [f]; simp);rw [XqR hok.nodup b] at a;simp only [Option.getD_some] at a;rw [g,a];have c:=(hok.each _ b).2.1;have d:=(hok.each _ b).2.2.1 (by rw [f]; simp);simp only at c d
  obtain ⟨_,e2⟩:=Xmv (p:=p) (who:=who) j (by rw [c]; exact d);exact XqV hpos (by omega)
 ·have i:=Xgr hok hof hg (n:=n) (by rw [k]; simp);have l:n<1024:=by have:=(hg.free n (by rw [k]; simp)).1; have:=hg.len; omega
  have m:=hok.fresh l i;have b:(n,List.replicate x.blocks (-1)) ∈ (x.fresh n).pg:=List.mem_append_right _ (by simp);rw [XqR m.nodup b] at a;simp only [Option.getD_some] at a;rw [g,a];have c:(List.replicate x.blocks (-1:Int)).length=x.blocks:=List.length_replicate;have s:=hok.blk;obtain ⟨_,e2⟩:=Xmv (p:=List.replicate x.blocks (-1)) (who:=who) j (by rw [XmA,c]; omega);intro e he;rcases Xj7 he with ⟨rfl,_⟩ | ⟨o,he⟩
  ·show 0<Xmy (Xmr _ _); omega
  ·rcases List.mem_append.1 he with he | he
   ·exact hpos e he
   ·have:e=(n,List.replicate x.blocks (-1)):=by simpa using he
    subst this;exact absurd rfl o
theorem XgO {x:Sm} {n i:Int} (hpos:x.Pos):(XpH x n i).Pos:=by
 unfold XpH;cases d:XqN x.pg n with
 |none=>exact hpos
 |some p =>
  simp only
  by_cases a:Xme p i=0
  ·rw [if_pos a];unfold Sm.giveAt;simp only
   by_cases b:Xmy (Xmd p i)=0
   ·rw [if_pos b];intro e c;exact hpos e (Xj6.1 c).2
   ·rw [if_neg b];exact XqV hpos (by omega)
  ·rw [if_neg a]; exact hpos
theorem XlB {x:Sm} {n i who:Int} (hpos:x.Pos):(XpN x n i who).Pos:=by
 unfold XpN;cases a:XqN x.pg n with
 |none=>exact hpos
 |some p =>
  obtain ⟨m,rfl,hm⟩:=XqU a;exact XqV hpos (by rw [Xmq]; exact hpos _ hm)
theorem XgL {x:Sm} {n i:Int} (hok:x.Ok):(XpH x n i).Ok:=by
 unfold XpH;cases b:XqN x.pg n with
 |none=>exact hok
 |some p =>
  obtain ⟨m,rfl,hm⟩:=XqU b;simp only [Int.toNat_natCast];by_cases a:Xme p i=0
  ·rw [if_pos a]; exact hok.giveAt hm a
  ·rw [if_neg a]; exact hok
theorem Xlx {x:Sm} {n i who:Int} (hok:x.Ok):(XpN x n i who).Ok:=by
 unfold XpN;cases a:XqN x.pg n with
 |none=>exact hok
 |some p =>
  obtain ⟨m,rfl,hm⟩:=XqU a;simp only [Int.toNat_natCast];exact hok.ownAt hm
theorem XsM {x:Sm} {pl:PlM} {who:Int} (hok:x.Ok) (hof:x.Of pl) (hg:pl.Good):(XpW x pl who).Ok:=by
 by_cases a:XpY x pl who=0
 ·exact (XsK hok hof hg a).ok
 ·have:XpW x pl who=x:=by unfold XpW; rw [if_neg a]
  rw [this]; exact hok
section
variable {c:Conf} {M:RmM}
theorem Xbc.set {k:Nat} {x x':Sm} {q:PlM} (h:Xbc c M) (hx:M.shs[k]? = some x) (hE:Eff M.pl q x.cls) (hc:x'.cls=x.cls) (hb:x'.blocks=x.blocks) (hs:XhB q+x.pg.length=XhB M.pl+x'.pg.length) (hok:x'.Ok) (hof:x'.Of q) (hpos:x'.Pos):Xbc c (XoN M k x' q):=by
 have g:=(List.getElem?_eq_some_iff.1 hx).1;obtain ⟨e1,_⟩:=h.ok.each k x hx;have f:=(h.mok.sh k x hx).1.cls;have get:∀ (j:Nat) (y:Sm),(XoN M k x' q).shs[j]? = some y→(j=k∧y=x')∨(j≠k∧M.shs[j]? = some y):=fun j y d=>by
  replace d:(M.shs.set k x')[j]? = some y:=d;by_cases e:k=j
  ·subst e; rw [List.getElem?_set_self g] at d; cases d; exact .inl ⟨rfl,rfl⟩
  ·rw [List.getElem?_set_ne e] at d; exact .inr ⟨fun h=>e h.symm,d⟩
 refine ⟨h.ok.set h.mok.good hx hE hc hb hs,⟨fun j y d => ?_,hE.good h.mok.good f⟩,fun j y d => ?_⟩
 ·rcases get j y d with ⟨_,rfl⟩ | ⟨i,d⟩
  ·exact ⟨hok,hof⟩
  ·obtain ⟨a,b⟩:=h.mok.sh j y d;obtain ⟨e2,_⟩:=h.ok.each j y d;exact ⟨a,hE.of h.mok.good b (by omega) (by omega)⟩
 ·rcases get j y d with ⟨_,rfl⟩ | ⟨_,d⟩
  ·exact hpos
  ·exact h.pos j y d
theorem Xbc.tot (h:Xbc c M) {t:Int} (ht:0≤t∧t≤4611686018427387904):Xbc c {M with tot:=t}:=⟨{h.ok with tot:=ht},⟨h.mok.sh,h.mok.good⟩,h.pos⟩
theorem Xbc.charge (h:Xbc c M) (n:Int):Xbc c {M with tot:=Xek M.tot n}:=h.tot (Xen h.ok.tot)
theorem XoM (k:Nat) (x:Sm) (q:PlM):XoL M k x q={XoN M k x q with tot:=Xek M.tot (Xez M.pl q)}:=rfl
theorem Xbc.take (h:Xbc c M) (k who:Int):Xbc c (XoP M k who):=by
 unfold XoP;cases b:Xoh M k with
 |none=>exact h
 |some x =>
  obtain ⟨n,rfl,d,a⟩:=Xon b;simp only [Int.toNat_natCast];split
  ·obtain ⟨xo,xf⟩:=h.mok.sh n x a;obtain ⟨e1,e2,e3,e4⟩:=XsJ x M.pl who h.mok.good xo.cls;rw [XoM];exact (h.set a e1 e2 e3 e4 (XsM xo xf h.mok.good) (XsL x M.pl who xf h.mok.good) (XsP xo (h.pos n x a) xf h.mok.good)).tot (Xen h.ok.tot)
  ·exact h
theorem Xbc.give (h:Xbc c M) (k n i:Int):Xbc c (Xoo M k n i):=by
 unfold Xoo;cases b:Xoh M k with
 |none=>exact h
 |some x =>
  obtain ⟨m,rfl,d,a⟩:=Xon b;simp only [Int.toNat_natCast];split
  ·obtain ⟨xo,xf⟩:=h.mok.sh m x a;obtain ⟨e1,e2,e3,e4⟩:=XgJ x M.pl n i xo xf;rw [XoM];exact (h.set a e1 e2 e3 e4 (XgL xo) (XgK x M.pl n i xo xf) (XgO (h.pos m x a))).tot (Xen h.ok.tot)
  ·exact h
theorem Xbc.own (h:Xbc c M) (k n i who:Int):Xbc c (Xou M k n i who):=by
 unfold Xou;cases b:Xoh M k with
 |none=>exact h
 |some x =>
  obtain ⟨m,rfl,d,a⟩:=Xon b;simp only [Int.toNat_natCast];obtain ⟨xo,xf⟩:=h.mok.sh m x a;obtain ⟨e1,e2,e3,e4⟩:=Xlu x M.pl n i who;exact h.set a e1 e2 e3 e4 (Xlx xo) (Xlw x M.pl n i who xf) (XlB (h.pos m x a))
theorem Xbc.big (h:Xbc c M) {many:Nat} (h1:1≤many) (hm:many≤M.pl.free.length):Xbc c (Xob M many):=by
 obtain ⟨d,_⟩:=XmZ (who:=((M.shs.length:Nat):Int)) (by omega) h.mok.good many hm;exact ⟨h.ok.big h.mok.good h1 hm,⟨fun k x e=>by
  obtain ⟨a,b⟩:=h.mok.sh k x e;exact ⟨a,XmY (by omega) h.mok.good hm a.cls b⟩,d⟩,h.pos⟩
theorem Xi2 (h:M.Ok c) {n:Nat} {r:List Nat} (hm:(n,r) ∈ M.lg):(n::r).Nodup:=by
 obtain ⟨A,B,eA,_⟩:=XiT h.nd hm;have e:XiQ M.lg=XiQ A++((n::r)++XiQ B):=by rw [eA,XiR]; rfl
 have a:=h.nd;rw [e] at a;exact (List.nodup_append.1 (List.nodup_append.1 a).2.1).1
theorem Xbc.gone (h:Xbc c M) {n:Nat} {r:List Nat} (hm:(n,r) ∈ M.lg):Xbc c (Xor M n r):=by
 obtain ⟨a,b⟩:=h.ok.gone h.mok.good hm;have g:=Xi2 h.ok hm;have e:∀ m ∈ n::r,m<M.pl.own.length∧M.pl.own.getD m 0=(M.shs.length:Int):=fun m d=>h.ok.lg m (Xj4 hm d);exact ⟨a,⟨fun k x f=>by
  obtain ⟨xo,xf⟩:=h.mok.sh k x f;have j:k<M.shs.length:=(List.getElem?_eq_some_iff.1 f).1;have i:=(h.ok.each k x f).1;exact ⟨xo,XmP h.mok.good g (fun m d=>⟨(e m d).1,by have:=(e m d).2; omega⟩) xf (fun m d=>by have:=(e m d).2; omega)⟩,b⟩,h.pos⟩
theorem Xf6 {size:Int} (hmay:XjY c=true) (h:Xog c M size=0) (hp:XmF c.classes size = -1):2≤(Xb6 size c.size).toNat∧(Xb6 size c.size).toNat≤M.pl.free.length∧1≤size∧size≤c.most:=by
 have a:=Xj2 hmay;have f:(Xos c M size:Int)≤M.pl.free.length ∧ ¬ (size<1∨c.most<size):=by
  unfold Xog at h;split at h
  ·exact absurd h (by decide)
  ·split at h
   ·exact absurd h (by decide)
   ·exact ⟨by omega,by assumption⟩
 have e:Xos c M size=Xb6 size c.size:=by unfold Xos; rw [if_pos hp]
 have b:2≤Xb6 size c.size:=by
  have g:=a.size;have d:=a.most;have i:0≤(size - 1) / c.size:=Int.ediv_nonneg (by omega) (by omega);have j:(size - 1) / c.size≤size - 1:=Int.ediv_le_self _ (by omega);have e4:XjR size c.size=(size - 1) / c.size+1:=by unfold XjR; rw [if_neg (by omega)]
  unfold Xb6;rw [e4,if_neg (by omega)];omega
 omega
theorem Xbc.drop (h:Xbc c M) (q:PlcM):Xbc c (Xoc M q):=by
 unfold Xoc;split
 ·exact h.give _ _ _
 ·split
  ·exact h
  ·rename_i r a
   split
   ·obtain ⟨n,b,hm⟩:=XiY a;rw [b,Int.toNat_natCast];exact h.gone hm
   ·exact h
theorem Xol {k:Nat} {x':Sm} {q:PlM} (hk:k<M.shs.length) (j:Int):Xoh (XoN M k x' q) j=if j=k then some x' else Xoh M j:=by
 by_cases a:j<0
 ·rw [if_neg (by omega),Xoj a,Xoj a]
 ·obtain ⟨j,rfl⟩:=Int.eq_ofNat_of_zero_le (show 0≤j by omega);have:=Xom (M:=M) (k:=k) (j:=j) (x:=x') (q:=q) (t:=M.tot);have e:XoN M k x' q={M with shs:=M.shs.set k x',pl:=q,tot:=M.tot}:=rfl;rw [e,this];by_cases h:k=j
  ·rw [if_pos ⟨h,hk⟩,if_pos (by omega)]
  ·rw [if_neg (fun b=>h b.1),if_neg (by omega)]
theorem XoB {k:Nat} {x x':Sm} {q:PlM} (hx:M.shs[k]? = some x) (j n a:Int):Xox (XoN M k x' q) j n a=if j=k then XpP x' n a else Xox M j n a:=by
 have b:=(List.getElem?_eq_some_iff.1 hx).1;unfold Xox;rw [Xol b];by_cases h:j=k
 ·rw [if_pos h,if_pos h]
 ·rw [if_neg h,if_neg h]
theorem XoA (k:Nat) (x:Sm) (q:PlM) (j n a:Int):Xox (XoL M k x q) j n a=Xox (XoN M k x q) j n a:=rfl
theorem Xoy {k:Nat} {x:Sm} (hx:M.shs[k]? = some x) (n a:Int):Xox M (k:Nat) n a=XpP x n a:=by
 have b:=(List.getElem?_eq_some_iff.1 hx).1;have e:=(List.getElem?_eq_some_iff.1 hx).2;unfold Xox;rw [Xoi b,e]
theorem Xoz (h:Xbc c M) {k n a:Int} (ho:Xox M k n a ≠ -1):∃ (j:Nat) (x:Sm),k=j∧j<c.classes.length∧M.shs[j]? = some x∧XpP x n a=Xox M k n a∧0≤n∧n<c.pages∧0≤a∧a<XdH c k:=by
 unfold Xox at ho;cases d:Xoh M k with
 |none=>rw [d] at ho; exact absurd rfl ho
 |some x =>
  rw [d] at ho;simp only at ho
  obtain ⟨j,rfl,i,b⟩:=Xon d;obtain ⟨xo,xf⟩:=h.mok.sh j x b;obtain ⟨m,p,rfl,hm,_,f,l,_⟩:=XlH xo ho;have o:=(h.ok.each j x b).2;have e:=(xf _ hm).1;have g:=h.ok.own;have q:=h.ok.n;exact ⟨j,x,rfl,by omega,b,(Xoy b _ _).symm,by omega,by simp only at e; omega,f,by omega⟩
theorem XoT (h:Xbc c M) {k who:Int} (hE:XoR M k who=0):∃ (j:Nat) (x:Sm),k=j∧j<M.shs.length∧M.shs[j]? = some x∧XpY x M.pl who=0∧XoP M k who=XoL M j (XpW x M.pl who) (Xp0 x M.pl who)∧XoS M k who=XpZ x M.pl who∧XoQ M k who=XpX x M.pl who:=by
 unfold XoR at hE;cases a:Xoh M k with
 |none=>rw [a] at hE; exact absurd (show (1:Int)=0 from hE) (by decide)
 |some x =>
  rw [a] at hE;obtain ⟨j,rfl,b,d⟩:=Xon a;simp only at hE
  exact ⟨j,x,rfl,b,d,hE,by unfold XoP; rw [a]; simp only; rw [if_pos hE,Int.toNat_natCast],by unfold XoS; rw [a],by unfold XoQ; rw [a]⟩
theorem XsO (h:Xbc c M) {k who:Int} (hE:XoR M k who=0):(∀ j n a,Xox (XoP M k who) j n a=if j=k∧n=XoS M k who∧a=XoQ M k who then who else Xox M j n a)∧Xox M k (XoS M k who) (XoQ M k who) = -1:=by
 obtain ⟨i,x,rfl,g,b,f,e1,e2,e3⟩:=XoT h hE;obtain ⟨xo,xf⟩:=h.mok.sh i x b;have T:=XsK xo xf h.mok.good f;refine ⟨fun j n a => ?_,by rw [e2,e3,Xoy b]; exact T.free⟩;rw [e1,e2,e3,XoA,XoB b];by_cases d:j=i
 ·rw [if_pos d,T.own,d,Xoy b];by_cases e:n=XpZ x M.pl who∧a=XpX x M.pl who
  ·rw [if_pos e,if_pos ⟨rfl,e⟩]
  ·rw [if_neg e,if_neg (fun h=>e h.2)]
 ·rw [if_neg d,if_neg (fun h=>d h.1)]
theorem XgN (h:Xbc c M) {k n i:Int} (ho:Xox M k n i ≠ -1):Xop M k n i=0 ∧ ∀ j m a,Xox (Xoo M k n i) j m a=if j=k∧m=n∧a=i then -1 else Xox M j m a:=by
 obtain ⟨l,x,rfl,_,b,e,_⟩:=Xoz h ho;obtain ⟨xo,xf⟩:=h.mok.sh l x b;have p:=(List.getElem?_eq_some_iff.1 b).1;have g:Xoh M (l:Nat)=some x:=by rw [Xoi p]; exact congrArg some (List.getElem?_eq_some_iff.1 b).2
 rw [← e] at ho;have o:=XgI.2 ho;have e1:Xoo M (l:Nat) n i=XoL M l (XpH x n i) (XpJ x M.pl n i):=by unfold Xoo; rw [g]; simp only; rw [if_pos o,Int.toNat_natCast]
 refine ⟨by unfold Xop; rw [g]; exact o,fun j m a => ?_⟩;rw [e1,XoA,XoB b];by_cases d:j=l
 ·rw [if_pos d,XgM xo ho,d,Xoy b];by_cases f:m=n∧a=i
  ·rw [if_pos f,if_pos ⟨rfl,f⟩]
  ·rw [if_neg f,if_neg (fun h=>f h.2)]
 ·rw [if_neg d,if_neg (fun h=>d h.1)]
theorem Xlz (h:Xbc c M) {k n i who:Int} (hw:0≤who) (ho:Xox M k n i ≠ -1):Xov M k n i who=0 ∧ ∀ j m a,Xox (Xou M k n i who) j m a=if j=k∧m=n∧a=i then who else Xox M j m a:=by
 obtain ⟨l,x,rfl,_,b,e,_⟩:=Xoz h ho;obtain ⟨xo,xf⟩:=h.mok.sh l x b;have o:=(List.getElem?_eq_some_iff.1 b).1;have g:Xoh M (l:Nat)=some x:=by rw [Xoi o]; exact congrArg some (List.getElem?_eq_some_iff.1 b).2
 rw [← e] at ho;have e1:Xou M (l:Nat) n i who=XoN M l (XpN x n i who) M.pl:=by unfold Xou; rw [g]; simp only [Int.toNat_natCast]
 refine ⟨by unfold Xov; rw [g]; exact (Xls hw).2 ho,fun j m a => ?_⟩;rw [e1,XoB b];by_cases d:j=l
 ·rw [if_pos d,Xly xo hw ho,d,Xoy b];by_cases f:m=n∧a=i
  ·rw [if_pos f,if_pos ⟨rfl,f⟩]
  ·rw [if_neg f,if_neg (fun h=>f h.2)]
 ·rw [if_neg d,if_neg (fun h=>d h.1)]
end
theorem Xgz {x:List Bool} {j:Nat} (h:j<x.length):x.getD j false=x[j]:=by rw [List.getD_eq_getElem?_getD,List.getElem?_eq_getElem h]; rfl
theorem XhF {x:List Bool} (h:cnt x≠0):∃ t,t<x.length∧x.getD t false=true∧XhE x=(t:Int):=by
 have key:∀ m,m≤x.length→(∀ j,m≤j→x.getD j false=false)→(∀ j,x.getD j false=false) ∨ ∃ t,t<x.length∧x.getD t false=true ∧ ∀ j,t<j→x.getD j false=false:=by
  intro m
  induction m with
  |zero=>intro _ h; exact .inl fun j=>h j (Nat.zero_le _)
  |succ m ihm =>
   intro hm h;cases f:x.getD m false with
   |true=>exact .inr ⟨m,by omega,f,fun j a=>h j a⟩
   |false=>exact ihm (by omega) fun j a=>(Nat.eq_or_lt_of_le a).elim (fun e=>e▸f) (fun e=>h j e)
 rcases key x.length (Nat.le_refl _) (fun j a=>by rw [List.getD_eq_getElem?_getD,List.getElem?_eq_none a]; rfl) with k | ⟨t,b,c,g⟩
 ·exfalso
  apply h
  have d:x=List.replicate x.length false:=by
   apply List.ext_getElem (by simp)
   intro j l n;rw [← Xgz l,k j]; simp
  rw [d,Xe3]
 ·exact ⟨t,b,c,XnX (p:=id) b (fun j a i=>by rw [← Xgz a]; exact g j i) (by rw [← Xgz b]; exact c)⟩
theorem Xmx {p:List Int} (h:0<Xmy p):∃ t,t<p.length∧Xmw p=(t:Int)∧p.getD t (-1) ≠ -1:=by
 obtain ⟨t,a,b,c⟩:=XhF (x:=pgB p) (by unfold Xmy at h; omega);rw [Xma] at a;rw [Xl9] at b;exact ⟨t,a,c,by simpa using b⟩
def XpU (x:Sm):Int × Int × Int × Int:=if 2≤x.opn.length then (Xiv (-1) x.opn,Xmw ((XqN x.pg (Xiv (-1) x.opn)).getD []),Xg2 x.opn,Xmh ((XqN x.pg (Xg2 x.opn)).getD [])) else (0,0,0,0)
def XoK (M:RmM) (k:Int):Int × Int × Int × Int:=match Xoh M k with | none=>(0,0,0,0) | some x=>XpU x
theorem XoJ (M:RmM) (k:Int):XoI M k=Xm5 (XoK M k).1 (XoK M k).2.1 (XoK M k).2.2.1 (XoK M k).2.2.2:=by
 unfold XoI XoK;cases Xoh M k with
 |none=>rfl
 |some x =>
  show XpT x=Xm5 (XpU x).1 (XpU x).2.1 (XpU x).2.2.1 (XpU x).2.2.2
  unfold XpT XpU;split <;> rfl
structure Xa3 (M:RmM) (k:Nat):Prop where
 own:Xox M k (XoK M k).1 (XoK M k).2.1 ≠ -1
 e:∀ who:Int,0≤who→XoR M k who=0
 n:∀ who:Int,0≤who→XoS M k who=(XoK M k).2.2.1
 a:∀ who:Int,0≤who→XoQ M k who=(XoK M k).2.2.2
 ne:(XoK M k).1≠(XoK M k).2.2.1
theorem Xm7 {c:Conf} {M:RmM} (h:Xbc c M) {k:Nat} (hB:XoH M k=true):Xa3 M k:=by
 unfold XoH at hB;cases l:Xoh M k with
 |none=>rw [l] at hB; exact absurd hB (by decide)
 |some x =>
  rw [l] at hB;have d:=of_decide_eq_true hB;obtain ⟨j,P,O,z⟩:=Xon l;obtain rfl:k=j:=by omega
  obtain ⟨xo,xf⟩:=h.mok.sh k x z;have A:=h.pos k x z;obtain ⟨f,D,E,l',u⟩:=(Xiy (-1) x.opn).resolve_left (fun e=>by rw [e.1] at d; simp at d);obtain ⟨t,r,m⟩:∃ t r,x.opn=t::r:=by
   cases g:x.opn with
   |nil=>rw [g] at d; simp at d
   |cons t r=>exact ⟨t,r,rfl⟩
  obtain ⟨p,B⟩:=xo.osub f D;obtain ⟨F,v⟩:=xo.osub t (by rw [m]; simp);have q:XoK M k=(((f:Nat):Int),Xmw p,((t:Nat):Int),Xmh F):=by
   unfold XoK;rw [l];show XpU x=_
   unfold XpU;rw [if_pos d,E,m];show ((f:Int),Xmw ((XqN x.pg f).getD []),(t:Int),Xmh ((XqN x.pg t).getD []))=_
   rw [XqR xo.nodup B,XqR xo.nodup v];rfl
  have G:∀ who:Int,0≤who→XpY x M.pl who=0:=fun who a=>by unfold XpY; rw [if_neg (by omega),if_neg (by omega)]
  have H:∀ who:Int,0≤who→XpZ x M.pl who=t∧XpX x M.pl who=Xmh F:=fun who a=>by
   rcases Xp1 x M.pl who with ⟨w,_⟩ | ⟨_,_,⟨n,r',g,_,_,C,J,I⟩ | ⟨n,r',g,_⟩⟩
   ·exact absurd (G who a) w
   ·rw [m] at g;obtain ⟨e1,_⟩:=List.cons.inj g;subst e1;rw [XqR xo.nodup v] at C;simp only [Option.getD_some] at C;rw [C] at I;exact ⟨J,I⟩
   ·rw [m] at g; cases g
  have w:f≠t:=fun e=>by
   have y:=xo.onodup;rw [u] at y d;have K:=u.symm.trans m;cases l' with
   |nil=>simp at d
   |cons b s =>
    obtain ⟨e1,_⟩:=List.cons.inj K;obtain ⟨_,_,L⟩:=List.nodup_append.1 y;exact L b (by simp) f (by simp) (e1.trans e.symm)
  have o:=l;refine ⟨?_,fun who a=>by unfold XoR; rw [o]; exact G who a,fun who a=>by unfold XoS; rw [o,q]; exact (H who a).1,fun who a=>by unfold XoQ; rw [o,q]; exact (H who a).2,by rw [q]; simp only; omega⟩;rw [q,Xoy z];simp only
  obtain ⟨i,N,e1,e2⟩:=Xmx (A _ B);simp only at N e1 e2
  unfold XpP;rw [XqR xo.nodup B];simp only
  rw [e1];unfold Xmj;rw [if_pos (by omega),Int.toNat_natCast];exact e2
structure Ar where
 ab:Nat
 db:Nat
 mc:Nat
 mb:Option Nat
structure ArV where
 bs:List Int
 total:Int
 lap:Int
abbrev XtF (A:Ar):Value := .func (.func 145) #[] #[.pointer (some ⟨A.mc,0,none⟩)]
structure Xag (w:World) (A:Ar) (V:ArV):Prop where
 obj:w.heap[A.ab]? = some (.cells #[.slice (some ⟨A.db,0,none⟩) V.bs.length V.bs.length,XtF A] 199 (0,0))
 dat:w.heap[A.db]? = some (.cells (V.bs.map (Value.int .u8)).toArray 5 (0,0))
 cap:w.heap[A.mc]? = some (.cells #[ptr A.mb] 127 (0,0))
 met:∀ b,A.mb=some b→XaO w b V.total V.lap
 len:V.bs.length≤4194304
 rng:∀ x ∈ V.bs,0≤x∧x<256
theorem XdE {w:World} {a b t t':Nat} {c c':Array Value} {f f':Nat × Nat} (h:w.heap[a]? = some (.cells c t f)) (h':w.heap[b]? = some (.cells c' t' f')) (ht:t≠t'):a≠b:=by
 intro e; subst e; rw [h] at h'; cases h'; exact ht rfl
def XjO (A:Ar):Nat→Prop:=fun b=>A.mb=some b
def Xgg (A:Ar):Nat→Prop:=fun b=>b=A.db∨A.mb=some b
def ArV.charge (V:ArV) (A:Ar) (n:Int):ArV:=match A.mb with
 |none=>V
 |some _=>{V with total:=Xek V.total n}
theorem ArV.charge_bs (V:ArV) (A:Ar) (n:Int):(V.charge A n).bs=V.bs:=by unfold ArV.charge; split <;> rfl
theorem ArV.charge_lap (V:ArV) (A:Ar) (n:Int):(V.charge A n).lap=V.lap:=by unfold ArV.charge; split <;> rfl
theorem Xag.chg {w w':World} {A:Ar} {V:ArV} {S:Nat→Prop} (h:Xag w A V) (hc:Chg S w w') (hs:∀ b,b=A.ab∨b=A.db∨b=A.mc∨A.mb=some b → ¬ S b):Xag w' A V :=
 ⟨hc.heap h.obj (hs _ (.inl rfl)),hc.heap h.dat (hs _ (.inr (.inl rfl))),hc.heap h.cap (hs _ (.inr (.inr (.inl rfl)))),fun b a=>⟨hc.heap (h.met b a).1 (hs _ (.inr (.inr (.inr a)))),(h.met b a).2⟩,h.len,h.rng⟩
theorem Xag.grow {w w':World} {A:Ar} {V:ArV} (h:Xag w A V) (hc:Chg XaW w w'):Xag w' A V:=h.chg hc fun _ _ h=>h
theorem Xag.metered {w w':World} {A:Ar} {V:ArV} {b:Nat} {t:Int} (h:Xag w A V) (hb:A.mb=some b) (hm:XaO w' b t V.lap) (hc:Chg (fun x=>x=b) w w'):Xag w' A {V with total:=t}:=by
 have c:=(h.met b hb).1;refine ⟨hc.heap h.obj (fun e=>XdE h.obj c (by decide) e),hc.heap h.dat (fun e=>XdE h.dat c (by decide) e),hc.heap h.cap (fun e=>XdE h.cap c (by decide) e),fun b' a => ?_,h.len,h.rng⟩;rw [hb] at a; cases a; exact hm
abbrev Xra (A:Ar) (N at' n:Nat):Value := .slice (Xqm (some ⟨A.db,0,none⟩) N at' 1) n (N - at')
theorem XcG (A:Ar) (V:ArV) (i n:Nat) (w:World) (h:Xag w A V) (ht:i+n≤V.bs.length):Xan Tryz.prog 292 #[.pointer (some ⟨A.ab,0,none⟩),.int .i64 i,.int .i64 n] w (Xbo (.tuple #[Xra A V.bs.length i n,.int .i64 0]) w):=by
 have a:=h.len;exact ζe Tryz.func292 Tryz.ntmps292 rfl (ζf rfl (ζf rfl (ζl h.obj rfl (ζf rfl (ζl h.obj rfl (ζj rfl (ζf rfl (ζl h.obj rfl (ζj rfl (Xay.slice hTT rfl (l:=i) (h:=(i+n)) (by first | rfl | omega | simp [loV]) (by first | rfl | omega | simp [hiV]) (by omega) (by omega) rfl (ζr Tryz.func292 rfl ⟨by rw [show i+n - i=n from by omega],rfl⟩)))))))))))
theorem XcI (A:Ar) (V:ArV) (n:Int) (w:World) (h:Xag w A V):Xan Tryz.prog 145 #[.int .i64 n,.pointer (some ⟨A.mc,0,none⟩)] w (fun _ w'=>Xag w' A (V.charge A n)∧Chg (XjO A) w w'):=by
 have c:=h.cap;cases a:A.mb with
 |none =>
  rw [a] at c;refine ζe Tryz.func145 Tryz.ntmps145 rfl (ζl c rfl (ζc rfl (Xj9 n w) ?_));rintro _ f rfl;refine ζa rfl ?_;have e:V.charge A n=V:=by unfold ArV.charge; rw [a]
  exact ζr Tryz.func145 rfl ⟨by rw [e]; exact h,Chg.refl _ _⟩
 |some b =>
  rw [a] at c;refine ζe Tryz.func145 Tryz.ntmps145 rfl (ζl c rfl (ζc rfl (Xj8 b V.total V.lap n w (h.met b a)) ?_));rintro _ f ⟨hm,d⟩;refine ζa rfl ?_;have e:V.charge A n={V with total:=Xek V.total n}:=by unfold ArV.charge; rw [a]
  exact ζr Tryz.func145 rfl ⟨by rw [e]; exact h.metered a hm d,d.mono (fun x _ g=>by unfold XjO; rw [g]; exact a)⟩
theorem XcE (A:Ar) (V:ArV) (i n:Nat) (w:World) (h:Xag w A V) (ht:i+n≤V.bs.length):Xan Tryz.prog 250 #[.pointer (some ⟨A.ab,0,none⟩),.int .i64 i,.int .i64 n] w (fun v w'=>v = .tuple #[Xra A V.bs.length i n,.int .i64 0]∧Xag w' A (V.charge A n)∧Chg (XjO A) w w'):=by
 refine ζe Tryz.func250 Tryz.ntmps250 rfl (ζw (XcG A V i n w h ht) rfl (ζy rfl (ζl h.obj rfl (ζc rfl (XcI A V n w h) ?_))));rintro _ c ⟨a,b⟩;exact ζa rfl (ζr Tryz.func250 rfl ⟨rfl,a,b⟩)
theorem XcA (A:Ar) (V:ArV) (w:World) (h:Xag w A V):Xan Tryz.prog 150 #[.pointer (some ⟨A.ab,0,none⟩)] w (Xbo (.int .i64 V.bs.length) w):=by
 exact ζe Tryz.func150 Tryz.ntmps150 rfl (ζl h.obj rfl (ζr Tryz.func150 rfl ⟨rfl,rfl⟩))
def Xcw (p s:Int):Bool:=decide (1≤p) && decide (p≤1024) && decide (64≤s) && decide (s≤4096) && (s % 8 == 0)
theorem Xcx {p s:Int}:Xcw p s=true↔1≤p∧p≤1024∧64≤s∧s≤4096∧s % 8=0:=by unfold Xcw; simp [and_assoc]
def XuW (n:Nat):List Int:=List.replicate n 0
theorem XuU:∀ n,XuN [Value.int .u8 0] n=(XuW n).map (Value.int .u8)
 |0=>rfl
 |n+1=>by rw [XuN,XuU n]; simp [XuW,List.replicate_succ]
theorem XcB (mb:Option Nat) (total lap:Int) (p s:Int) (w:World) (hm:∀ b,mb=some b→XaO w b total lap) (ht:Xcw p s=true):Xan Tryz.prog 87 #[.int .i64 p,.int .i64 s,ptr mb] w
 (fun v w' => ∃ A:Ar,v = .tuple #[.pointer (some ⟨A.ab,0,none⟩),.int .i64 0]∧A.mb=mb∧w.heap.size≤A.ab∧w.heap.size≤A.db∧w.heap.size≤A.mc∧Xag w' A ⟨XuW (p*s).toNat,total,lap⟩∧Chg XaW w w'):=by
 have g:=Xcx.1 ht;have y:0≤p*s:=Int.mul_nonneg (by omega) (by omega);have z:p*s≤1024*4096:=Int.mul_le_mul (by omega) (by omega) (by omega) (by omega);refine Xan.enter Tryz.func87 rfl Tryz.ntmps87 rfl rfl ?_;refine ζa rfl ?_;refine Xay.alloc hTT rfl ?_;intro mc B e1 i f r;refine ζa rfl ?_;refine Xay.no hTT rfl (decide_eq_false (by omega)) rfl ?_;refine Xay.no hTT rfl (decide_eq_false (by omega)) rfl ?_;refine Xay.no hTT rfl (decide_eq_false (by omega)) rfl ?_;refine Xay.no hTT rfl (decide_eq_false (by omega)) rfl ?_;refine Xay.div hTT rfl (by omega) (XnQ (by omega)) rfl ?_;refine Xay.no hTT rfl (by simp; omega) rfl ?_;refine Xay.arith hTT rfl (w64 (by omega)) rfl ?_;refine Xay.make hTT (m:=(p*s).toNat) (k:=(p*s).toNat) rfl (by omega) (by omega) (Nat.le_refl _) (by simp only; omega) (by omega) ?_;intro db C e2 h d t;refine ζa rfl ?_;refine Xay.build hTT rfl rfl ?_;refine Xay.alloc hTT rfl ?_;intro ab n e3 e c u;refine ζa rfl ?_;have o:(XuN (Xd8 (Value.int .u8 0)) (p*s).toNat)=(XuW (p*s).toNat).map (Value.int .u8):=XuU _;rw [o] at h;have a:(XuW (p*s).toNat).length=(p*s).toNat:=List.length_replicate;rw [← a] at e;have j:Xag n ⟨ab,db,mc,mb⟩ ⟨XuW (p*s).toNat,total,lap⟩ :=
  ⟨e,c.heap' h,c.heap' (d.heap' i),fun b l=>⟨c.heap' (d.heap' (f.heap' (hm b l).1)),(hm b l).2⟩,by rw [a]; omega,fun x q=>by rw [List.eq_of_mem_replicate q]; omega⟩
 rw [a] at e;exact Xay.ret2 hTT rfl Tryz.func87 rfl rfl rfl ⟨⟨ab,db,mc,mb⟩,rfl,rfl,by simp only; omega,by simp only; omega,by simp only; omega,j,(f.trans d).trans c⟩
theorem Rd.metered {w w':World} {A:Ar} {V:ArV} {a:Option Addr} {l:List Int} (hr:Rd .u8 w a l) (h:Xag w A V) (hc:Chg (XjO A) w w'):Rd .u8 w' a l:=fun i g=>by
 obtain ⟨b,off,e,c⟩:=hr i g;refine ⟨b,off,e,?_⟩;have d:¬ XjO A b:=fun j=>by
  have m:=(h.met b j).1;rw [Xd6 m] at c
  match hj:off+i,c with
  |0,c=>simp at c
  |1,c=>simp at c
  |k+2,c=>simp at c
 have f:=World.block_lt_of_cell? w _ c;rw [← c];simp only [World.cell?,hc.block b f d]
def wrB (bs:List Int) (i:Nat) (l:List Int):List Int:=bs.take i++l++bs.drop (i+l.length)
theorem Xuu {bs:List Int} {i:Nat} {l:List Int} (h:i+l.length≤bs.length):(wrB bs i l).length=bs.length:=by unfold wrB; simp; omega
theorem Xuv {bs:List Int} {i:Nat} {l:List Int} {x:Int} (h:x ∈ wrB bs i l):x ∈ bs∨x ∈ l:=by
 unfold wrB at h;simp only [List.mem_append] at h;rcases h with (h | h) | h
 ·exact .inl (List.mem_of_mem_take h)
 ·exact .inr h
 ·exact .inl (List.mem_of_mem_drop h)
theorem Xuw {bs:List Int} {i:Nat}:wrB bs i []=bs:=by unfold wrB; simp
def InB (l:List Int):Prop := ∀ x ∈ l,0≤x∧x<256
theorem Xag.laid {w w':World} {A:Ar} {V:ArV} {bs:List Int} (h:Xag w A V) (hd:w'.heap[A.db]? = some (.cells (bs.map (Value.int .u8)).toArray 5 (0,0))) (hc:Chg (fun b=>b=A.db) w w') (hl:bs.length=V.bs.length) (hr:InB bs):Xag w' A {V with bs:=bs} :=
 ⟨by rw [hl]; exact hc.heap h.obj (fun e=>XdE h.obj h.dat (by decide) e),hd,hc.heap h.cap (fun e=>XdE h.cap h.dat (by decide) e),fun b a=>⟨hc.heap (h.met b a).1 (fun e=>XdE (h.met b a).1 h.dat (by decide) e),(h.met b a).2⟩,by rw [hl]; exact h.len,hr⟩
theorem Xrb {A:Ar} {N i n:Nat} (h:i+n≤N) (hn:0<n):Xqm (some ⟨A.db,0,none⟩) N i 1=some ⟨A.db,i,none⟩:=by
 unfold Xqm;rw [if_neg (by omega),Option.map_some,XbQ]
 simp
theorem XcF (A:Ar) (V:ArV) (i n:Nat) (w:World) (h:Xag w A V) (ht:i+n≤V.bs.length):Xan Tryz.prog 250 #[.pointer (some ⟨A.ab,0,none⟩),.int .i64 i,.int .i64 n] w
 (fun v w' => ∃ x,v = .tuple #[.slice x n (V.bs.length - i),.int .i64 0]∧(0<n→x=some ⟨A.db,i,none⟩)∧x.isSome=true∧Xag w' A (V.charge A n)∧Chg (XjO A) w w') :=
 (XcE A V i n w h ht).mono fun _ _ ⟨a,b,c⟩=>⟨_,a,fun d=>Xrb ht d,by unfold Xqm; split <;> rfl,b,c⟩
theorem XcD (A:Ar) (V:ArV) (i:Nat) (a:Option Addr) (cap:Nat) (l:List Int) (w:World) (h:Xag w A V) (hr:Rd .u8 w a l) (hb:InB l) (ht:i+l.length≤V.bs.length) :
 Xan Tryz.prog 196 #[.pointer (some ⟨A.ab,0,none⟩),.int .i64 i,.slice a l.length cap] w (fun v w'=>v = .int .i64 0∧Xag w' A {V.charge A l.length with bs:=wrB V.bs i l}∧Chg (Xgg A) w w'):=by
 refine Xan.enter Tryz.func196 rfl Tryz.ntmps196 rfl rfl ?_;refine ζa rfl ?_;refine ζc rfl (XcF A V i l.length w h ht) ?_;rintro _ s ⟨x,rfl,j,_,k,o⟩;refine ζa rfl ?_;have c:Chg (Xgg A) w s:=o.mono fun b _ hb => .inr hb;have e1:=V.charge_bs A l.length;by_cases p:l.length=0
 ·refine Xay.copy0 hTT rfl (by simp [p]) rfl ?_;have m:l = []:=List.eq_nil_of_length_eq_zero p;subst m;exact Xay.ret1 hTT rfl Tryz.func196 rfl rfl ⟨rfl,by rw [Xuw,← V.charge_bs A 0]; exact k,c⟩
 ·have q:=j (by omega);subst q;have r:=hr.metered h o;have t:∃ aa,a=some aa:=by obtain ⟨b,off,e,_⟩:=hr 0 (by omega); exact ⟨_,e⟩
  obtain ⟨aa,rfl⟩:=t;have d:=k.dat;rw [e1] at d;refine Xay.copy hTT rfl d (cs:=l.map (Value.int .u8)) (by simp) r.cells (by simp; omega) Xm4 ?_;intro z f g y;refine ζa rfl ?_;have n:(V.bs.map (Value.int .u8)).take i++l.map (Value.int .u8)++(V.bs.map (Value.int .u8)).drop (i+(l.map (Value.int .u8)).length)=(wrB V.bs i l).map (Value.int .u8):=by
   unfold wrB; simp [List.map_take,List.map_drop]
  rw [n] at f;have u:=k.laid f g (by rw [Xuu ht,e1]) (fun x j=>(Xuv j).elim (h.rng x) (hb x));exact Xay.ret1 hTT rfl Tryz.func196 rfl rfl ⟨rfl,u,c.trans (g.mono fun b _ hb => .inl hb)⟩
def XaY (base:Nat) (w:World) (v:Value) (l:List Int):Prop := ∃ g cap cur,v = .slice (some ⟨g,0,none⟩) l.length cap∧base≤g∧w.heap[g]? = some (.cells cur 5 (0,0))∧l.length≤cap∧cur.toList.take l.length=l.map (Value.int .u8)
theorem XqA (aa:Addr) (cap:Nat) (l:List Int) (w:World) (hr:Rd .u8 w (some aa) l) (hl:l.length≤4194304):Xan Tryz.prog 251 #[.slice (some aa) l.length cap] w (fun v w'=>XaY w.heap.size w' v l∧Chg XaW w w'):=by
 have p:maxLen=9223372036854775807:=rfl;refine Xan.enter Tryz.func251 rfl Tryz.ntmps251 rfl rfl ?_;refine ζa rfl ?_;refine Xay.no hTT rfl rfl rfl ?_;refine Xay.buildSlice hTT rfl ?_;intro b i e1 j a q;refine ζa rfl ?_;have c:Own w.heap.size 5 1 i (.slice (some ⟨b,0,none⟩) 0 0) 0 []:=Own.empty (by omega) j;refine Xay.append (base:=w.heap.size) (xs := []) (news:=l.map (Value.int .u8)) hTT rfl c a.size (by simp) (hr.chg a).cells Xm4 (by simp only; omega) ?_;intro r s d e f;refine ζa rfl ?_;have h:=c.since a (Nat.le_refl _) e;rcases d.2 with ⟨k,_⟩ | ⟨g,cap',cur,rfl,m,n,t,_,_,o⟩
 ·exact absurd (f.1.1 k).1 (by simp)
 ·exact Xay.ret1 hTT rfl Tryz.func251 rfl rfl ⟨⟨g,cap',cur,by simp,m,n,by omega,by simpa using o⟩,h⟩
def sub (bs:List Int) (i n:Nat):List Int:=(bs.drop i).take n
theorem Xst {bs:List Int} {i n:Nat} (h:i+n≤bs.length):(sub bs i n).length=n:=by unfold sub; simp; omega
theorem Xag.sub {w:World} {A:Ar} {V:ArV} {x:Option Addr} {i n:Nat} (h:Xag w A V) (hx:0<n→x=some ⟨A.db,i,none⟩) (ht:i+n≤V.bs.length):Rd .u8 w x (sub V.bs i n):=fun j a=>by
 rw [Xst ht] at a;refine ⟨A.db,i,hx (by omega),?_⟩;rw [Xd6 h.dat];have:(Go.Proofs.YtgddpaiandefgaaGreatDoor.sub V.bs i n).getD j 0=V.bs[i+j]'(by omega):=by unfold Go.Proofs.YtgddpaiandefgaaGreatDoor.sub; simp [List.getD,a,show i+j<V.bs.length from by omega]
 rw [this];simp [show i+j<V.bs.length from by omega]
theorem XcC (A:Ar) (V:ArV) (i n:Nat) (w:World) (h:Xag w A V) (ht:i+n≤V.bs.length) :
 Xan Tryz.prog 194 #[.pointer (some ⟨A.ab,0,none⟩),.int .i64 i,.int .i64 n] w (fun v w' => ∃ v',v = .tuple #[v',.int .i64 0]∧XaY w.heap.size w' v' (sub V.bs i n)∧Xag w' A (V.charge A n)∧Chg (XjO A) w w'):=by
 have q:=h.len;refine ζe Tryz.func194 Tryz.ntmps194 rfl (ζc rfl (XcF A V i n w h ht) ?_);rintro _ j ⟨x,rfl,k,l,e,b⟩;refine ζa rfl ?_;obtain ⟨aa,rfl⟩:=Option.isSome_iff_exists.1 l;have e1:=V.charge_bs A n;have f:=e.sub (i:=i) (n:=n) k (by rw [e1]; exact ht);rw [e1] at f;have c:=XqA aa (V.bs.length - i) (sub V.bs i n) j f (by rw [Xst ht]; omega);rw [Xst ht] at c;refine ζc rfl (c) ?_;rintro m r ⟨o,d⟩;refine ζa rfl ?_;obtain ⟨g,cap,cur,p,s,a⟩:=o;exact ζr Tryz.func194 rfl ⟨m,rfl,⟨g,cap,cur,p,by have:=b.size; omega,a⟩,e.grow d,b.trans (d.mono fun _ _ h=>h.elim)⟩
theorem Xux {z:Int} (h:0≤z∧z<18446744073709551616):IntKind.u64.wrap z=z:=by
 simp only [IntKind.wrap,IntKind.signed,IntKind.bits]
 first | omega | (simp; omega)
def inT (n top:Int):Bool:=decide (0≤n) && decide (n<top)
theorem Xh1 {n top:Int}:inT n top=true↔0≤n∧n<top:=by unfold inT; simp
def XtL (c:Conf) (q:Plc):Bool :=
 if q.cls = -1 then decide (0<q.pages.length) && !q.pages.any (fun n => !inT n c.pages)
 else inT q.cls c.classes.length && inT q.page c.pages && inT q.idx (XdH c q.cls)
def XeV (c:Conf) (k:Int):Int:=c.classes.getD k.toNat 0
def XtI (c:Conf) (q:Plc):Int:=if XtL c q then (if q.cls = -1 then q.pages.length*c.size else XeV c q.cls) else 0
def XtH (c:Conf) (q:Plc):Int:=if XtL c q=true∧q.cls ≠ -1 then q.page*c.size+q.idx*XeV c q.cls else -1
structure Vw where
 vb:Nat
 c:Conf
 p:Xal
 ab:Nat
 mb:Option Nat
def vwL (v:Vw):List Value:=Xe5 v.c v.p ++ [.pointer (some ⟨v.ab,0,none⟩),ptr v.mb]
abbrev vwV (v:Vw):Value := .pointer (some ⟨v.vb,0,none⟩)
structure XbN (w:World) (v:Vw):Prop where
 obj:w.heap[v.vb]? = some (.cells (vwL v).toArray 211 (0,0))
 conf:Xam w v.c v.p
 may:XjY v.c=true
theorem XbN.grow {w w':World} {v:Vw} (h:XbN w v) (hc:Chg XaW w w'):XbN w' v:=⟨hc.heap' h.obj,h.conf.chg hc,h.may⟩
theorem Xt1 (n top:Int) (w:World):Xan Tryz.prog 267 #[.int .i64 n,.int .i64 top] w (Xbo (.bool (inT n top)) w):=by
 refine ζe Tryz.func267 Tryz.ntmps267 rfl (ζg rfl (fun h => ?_) fun h => ?_)
 ·have g:=of_decide_eq_true h;exact ζr Tryz.func267 rfl ⟨XdL (by unfold inT; rw [decide_eq_true g]; rfl),rfl⟩
 ·have g:=of_decide_eq_false h;exact ζr Tryz.func267 rfl ⟨XdL (by unfold inT; rw [decide_eq_false g]; rfl),rfl⟩
abbrev Xns (w:World) (b:Nat) (v:Vw):Prop:=w.heap[b]? = some (.cells ([vwV v]:List Value).toArray 133 (0,0))
theorem XtY (v:Vw) (b:Nat) (x:Int) (w:World) (h:XbN w v) (hb:Xns w b v):Xan Tryz.prog 266 #[.int .i64 x,.pointer (some ⟨b,0,none⟩)] w (Xbo (.bool (!inT x v.c.pages)) w):=by
 exact ζe Tryz.func266 Tryz.ntmps266 rfl (ζl hb rfl (ζl h.obj rfl (ζw (Xt1 x v.c.pages w) rfl (ζr Tryz.func266 rfl ⟨rfl,rfl⟩))))
theorem XtX (v:Vw) (q:Plc) (w:World) (h:XbN w v) (hq:Xa4 w q):Xan Tryz.prog 222 #[vwV v,.agg (Xm9 q).toArray] w (Grow (.bool (XtL v.c q)) w):=by
 have k:=hq.len;refine ζe Tryz.func222 Tryz.ntmps222 rfl (ζn rfl fun vb C e1 s t A=>ζn rfl fun qb o e2 b m B => ?_);have f:=t.trans m;have d:=h.grow f;have c:=m.heap' s;have l:=hq.grow f;obtain ⟨cls,page,idx,pa,pc,pages⟩:=q;replace b:o.heap[qb]? = some (.cells ([.int .i64 cls,.int .i64 page,.int .i64 idx,.slice pa pages.length pc]:List Value).toArray 98 (0,0)):=b;replace l:=l.rd;replace k:pages.length≤9223372036854775807:=k;refine Xay.loadb hTT rfl c rfl rfl ?_;refine Xay.loadb hTT rfl b rfl rfl ?_;refine Xay.fork hTT rfl rfl rfl (fun i => ?_) (fun i => ?_)
 ·have g:cls = -1:=by simpa using i
  refine Xay.loadb hTT rfl b rfl rfl ?_;by_cases u:0<pages.length
  ·refine Xay.yes hTT rfl (decide_eq_true (by omega)) rfl ?_;exact ζl b rfl (ζw (XqD pa pc 266 pages [.pointer (some ⟨vb,0,none⟩)] (fun n => !inT n v.c.pages) o l k (fun x _=>XtY v vb x o d c)) rfl (ζr Tryz.func222 rfl ⟨XdL (by unfold XtL; simp only; rw [if_pos g,decide_eq_true u]; rfl),f⟩))
  ·exact ζf rfl (ζr Tryz.func222 rfl ⟨XdL (by unfold XtL; simp only; rw [if_pos g,decide_eq_false u]; rfl),f⟩)
 ·have g:¬ cls = -1:=by simpa using i
  have y:XtL v.c ⟨cls,page,idx,pa,pc,pages⟩=(inT cls v.c.classes.length && inT page v.c.pages && inT idx (XdH v.c cls)):=by unfold XtL; simp only; rw [if_neg g]
  rw [y];refine ζd 32 XaW (by kernel_rfl) rfl fun a=>δl a b rfl (δl a c rfl (δl a d.obj rfl (δw a (fun w' j=>Xt1 cls v.c.classes.length w') rfl ?_)));refine Xaq.fork hTT a rfl rfl rfl (fun p => ?_) (fun p => ?_)
  ·rw [p];refine δl a b rfl (δl a c rfl (δl a d.obj rfl (δw a (fun w' j=>Xt1 page v.c.pages w') rfl ?_)));refine Xaq.fork hTT a rfl rfl rfl (fun r => ?_) (fun r => ?_)
   ·rw [r];exact δl a b rfl (δl a c rfl (δl a d.obj rfl (δl a b rfl (δv a (fun w' j=>Xe6 v.c v.p cls w' (d.conf.chg j)) rfl (δw a (fun w' j=>Xt1 idx (XdH v.c cls) w') rfl (δn a rfl fun z e=>ζr Tryz.func222 rfl ⟨rfl,f.trans e⟩))))))
   ·rw [r];exact δn a rfl fun z e=>ζr Tryz.func222 rfl ⟨rfl,f.trans e⟩
  ·rw [p];exact δn a rfl fun z e=>ζr Tryz.func222 rfl ⟨rfl,f.trans e⟩
theorem Xj0 {c:Conf} (h:XjY c=true):(64≤c.size∧c.size≤4096∧c.size % 8=0)∧(1≤c.pages∧c.pages≤1024)∧XeM c.classes c.size=true:=by
 obtain ⟨a,b,d,_⟩:=XjZ.1 h;exact ⟨Xqv.1 a,b,d⟩
theorem Xig {c:Conf} {q:Plc} (hm:XjY c=true) (h:XtL c q=true) (hc:q.cls ≠ -1) :
 ∃ k pg ix:Nat,q.cls=k∧q.page=pg∧q.idx=ix∧k<c.classes.length∧(pg:Int)<c.pages∧8≤XeV c k∧XeV c k≤c.size∧0≤(pg:Int)*c.size∧0≤(ix:Int)*XeV c k∧(ix:Int)*XeV c k+XeV c k≤c.size∧(pg:Int)*c.size+(ix:Int)*XeV c k+XeV c k≤c.size*c.pages:=by
 obtain ⟨r,s,j⟩:=Xj0 hm;unfold XtL at h;rw [if_neg hc] at h;simp only [Bool.and_eq_true,Xh1] at h;obtain ⟨⟨⟨l,t⟩,m,u⟩,n,o⟩:=h;obtain ⟨k,e⟩:=Int.eq_ofNat_of_zero_le l;obtain ⟨pg,f⟩:=Int.eq_ofNat_of_zero_le m;obtain ⟨ix,b⟩:=Int.eq_ofNat_of_zero_le n;have d:k<c.classes.length:=by omega
 obtain ⟨p,v,g⟩:=XeN j k d;have a:XeV c k=c.classes.getD k 0:=rfl;rw [← a] at p g;have i:XdH c q.cls=c.size / XeV c k:=by
  unfold XdH;rw [e,if_pos (by omega),Int.toNat_natCast,← a,Xuh (by omega) (by omega)]
 rw [i,b] at o;have e1:(ix:Int)*XeV c k+XeV c k≤c.size:=by
  have:((ix:Int)+1)*XeV c k≤c.size:=by
   calc ((ix:Int)+1)*XeV c k≤(c.size / XeV c k)*XeV c k:=Int.mul_le_mul_of_nonneg_right (by omega) (by omega)
    _≤c.size:=Int.ediv_mul_le _ (by omega)
  rw [Int.add_mul,Int.one_mul] at this;exact this
 have e2:(pg:Int)*c.size+c.size≤c.size*c.pages:=by
  have:((pg:Int)+1)*c.size≤c.pages*c.size:=Int.mul_le_mul_of_nonneg_right (by omega) (by omega);rw [Int.add_mul,Int.one_mul,Int.mul_comm c.pages] at this;exact this
 refine ⟨k,pg,ix,e,f,b,d,by omega,by omega,g,Int.mul_nonneg (by omega) (by omega),Int.mul_nonneg (by omega) (by omega),e1,by omega⟩
theorem Xif {c:Conf} {q:Plc} (h:XtL c q=true) (hc:q.cls = -1):0<q.pages.length ∧ ∀ n ∈ q.pages,0≤n∧n<c.pages:=by
 unfold XtL at h;rw [if_pos hc] at h;simp only [Bool.and_eq_true,decide_eq_true_eq,Bool.not_eq_true'] at h;refine ⟨h.1,fun n a => ?_⟩;have:=List.any_eq_false.1 h.2 n a;simp at this;exact Xh1.1 this
theorem XbN.cls {w:World} {v:Vw} (h:XbN w v) {k:Nat} (hk:k<v.c.classes.length):∃ b off,v.p.ca=some ⟨b,off,none⟩∧w.cell? ⟨b,off+k,none⟩=some (.int .i64 (XeV v.c k)):=h.conf.classes k hk
theorem Xqt {c:Conf} (hm:XjY c=true):64≤c.size*c.pages∧c.size*c.pages≤4194304:=by
 obtain ⟨a,b,_⟩:=Xj0 hm;constructor
 ·calc (64:Int)=64*1:=rfl
   _≤c.size*c.pages:=Int.mul_le_mul (by omega) (by omega) (by omega) (by omega)
 ·calc c.size*c.pages≤4096*1024:=Int.mul_le_mul (by omega) (by omega) (by omega) (by omega)
   _=4194304:=rfl
theorem XtO (v:Vw) (q:Plc) (w:World) (h:XbN w v) (hq:Xa4 w q) (hfew:q.pages.length≤1000000000):Xan Tryz.prog 159 #[vwV v,.agg (Xm9 q).toArray] w (Grow (.int .i64 (XtI v.c q)) w):=by
 obtain ⟨E,F,G⟩:=Xj0 h.may;refine ζe Tryz.func159 Tryz.ntmps159 rfl (ζn rfl fun qb x e1 o e z => ?_);have p:=h.grow e;refine ζl o rfl (ζv (XtX v q x p (hq.grow e)) rfl fun H f => ?_);have b:=f.heap' o;have i:=p.grow f;have s:=e.trans f;cases n:XtL v.c q with
 |false =>
  exact ζy rfl (ζr Tryz.func159 rfl ⟨Xib (by unfold XtI; rw [n]; rfl),s⟩)
 |true =>
  refine ζf rfl (ζl b rfl (ζg rfl (fun d => ?_) fun d => ?_))
  ·have g:q.cls = -1:=by simpa using d
   have A:0≤(q.pages.length:Int)*v.c.size:=Int.mul_nonneg (by omega) (by omega);have B:(q.pages.length:Int)*v.c.size≤1000000000*4096:=Int.mul_le_mul (by omega) (by omega) (by omega) (by omega);refine Xay.drawn (q:=10) XaW hTT Xki (by kernel_rfl) rfl ?_;intro a;refine Xaq.loadb hTT a rfl b (by first | exact fun h=>h | (intro h; omega) | assumption) rfl rfl ?_;refine Xaq.loadb hTT a rfl i.obj (by first | exact fun h=>h | (intro h; omega) | assumption) rfl rfl ?_;refine Xaq.arith hTT a rfl (w64 (by omega)) rfl ?_;exact δn a rfl fun y l=>ζr Tryz.func159 rfl ⟨Xib (by unfold XtI; rw [if_pos n,if_pos g]),s.trans l⟩
  ·have g:¬ q.cls = -1:=by simpa using d
   obtain ⟨k,pg,ix,t,C,D,m,_,_,_,_,_,_,_⟩:=Xig h.may n g;obtain ⟨cb,off,r,u⟩:=i.cls m;obtain ⟨vb,c,⟨ca,cc,ka,kc⟩,ab,mb⟩:=v;simp only at r
   subst r;obtain ⟨cls,page,idx,pa,pc,pages⟩:=q;simp only at t
   subst t;replace m:k<c.classes.length:=m;refine ζd 10 XaW (by kernel_rfl) rfl fun a=>δl a i.obj rfl (δl a b rfl ?_);refine Xaq.index hTT a rfl (j:=k) (show (0:Int)≤k by omega) (show (k:Int)<c.classes.length by omega) (by simp) rfl ?_;exact δk a u rfl (δn a rfl fun y l=>ζr Tryz.func159 rfl ⟨Xib (by unfold XtI; rw [if_pos n]; simp only; rw [if_neg g]),s.trans l⟩)
theorem XtN (v:Vw) (q:Plc) (w:World) (h:XbN w v) (hq:Xa4 w q):Xan Tryz.prog 205 #[vwV v,.agg (Xm9 q).toArray] w (Grow (.int .i64 (XtH v.c q)) w):=by
 obtain ⟨H,I,J⟩:=Xj0 h.may;have e:=Xqt h.may;refine ζe Tryz.func205 Tryz.ntmps205 rfl (ζn rfl fun qb E e1 n f G => ?_);have o:=h.grow f;refine ζl n rfl (ζv (XtX v q E o (hq.grow f)) rfl fun K i => ?_);have b:=i.heap' n;have l:=o.grow i;have t:=f.trans i;cases u:XtL v.c q with
 |false =>
  exact ζy rfl (ζr Tryz.func205 rfl ⟨Xib (by unfold XtH; rw [u,if_neg (by simp)]),t⟩)
 |true =>
  refine ζf rfl (ζl b rfl (ζg rfl (fun d => ?_) fun d => ?_))
  ·have g:q.cls = -1:=by simpa using d
   exact ζr Tryz.func205 rfl ⟨Xib (by unfold XtH; rw [if_neg (fun F=>F.2 g)]),t⟩
  ·have g:¬ q.cls = -1:=by simpa using d
   obtain ⟨k,pg,ix,x,p,r,m,L,y,M,z,A,N,B⟩:=Xig h.may u g;obtain ⟨cb,off,s,C⟩:=l.cls m;obtain ⟨vb,c,⟨ca,cc,ka,kc⟩,ab,mb⟩:=v;simp only at s
   subst s;obtain ⟨cls,page,idx,pa,pc,pages⟩:=q;simp only at x p r
   subst x;subst p;subst r;replace m:k<c.classes.length:=m;replace e:64≤c.size*c.pages∧c.size*c.pages≤4194304:=e;replace z:0≤(pg:Int)*c.size:=z;replace A:0≤(ix:Int)*XeV c k:=A;replace B:(pg:Int)*c.size+(ix:Int)*XeV c k+XeV c k≤c.size*c.pages:=B;replace y:8≤XeV c k:=y;refine Xay.drawn (q:=22) XaW hTT Xki (by kernel_rfl) rfl ?_;intro a;refine Xaq.loadb hTT a rfl b (by first | exact fun h=>h | (intro h; omega) | assumption) rfl rfl ?_;refine Xaq.loadb hTT a rfl l.obj (by first | exact fun h=>h | (intro h; omega) | assumption) rfl rfl ?_;refine Xaq.arith hTT a rfl (w64 (by show _∧_; simp only; omega)) rfl ?_;refine Xaq.loadb hTT a rfl b (by first | exact fun h=>h | (intro h; omega) | assumption) rfl rfl ?_;refine Xaq.loadb hTT a rfl l.obj (by first | exact fun h=>h | (intro h; omega) | assumption) rfl rfl ?_;refine Xaq.loadb hTT a rfl b (by first | exact fun h=>h | (intro h; omega) | assumption) rfl rfl ?_;refine Xaq.index hTT a rfl (j:=k) (show (0:Int)≤k by omega) (show (k:Int)<c.classes.length by omega) (by simp) rfl ?_;exact δk a C rfl (Xaq.arith hTT a rfl (w64 (by show _∧_; simp only; omega)) rfl (Xaq.arith hTT a rfl (w64 (by show _∧_; simp only; omega)) rfl (δn a rfl fun O D=>ζr Tryz.func205 rfl ⟨Xib (by unfold XtH; rw [if_pos ⟨u,g⟩]),t.trans D⟩)))
theorem XtP (c:Conf) (p:Xal) (A:Ar) (V:ArV) (w:World) (hc:Xam w c p) (hA:Xag w A V):Xan Tryz.prog 89 #[.agg (Xe5 c p).toArray,.pointer (some ⟨A.ab,0,none⟩),ptr A.mb] w
 (fun v w'=>Chg XaW w w'∧if XjY c=true∧(V.bs.length:Int)=c.size*c.pages then ∃ vb,v = .tuple #[.pointer (some ⟨vb,0,none⟩),.int .i64 0]∧w.heap.size≤vb∧XbN w' ⟨vb,c,p,A.ab,A.mb⟩ else v = .tuple #[.pointer none,.int .i64 1]):=by
 refine ζe Tryz.func89 Tryz.ntmps89 rfl (ζn rfl fun cb n e1 g h r => ?_);refine ζl g rfl (ζv (Xe8 c p n (hc.chg h)) rfl fun t i => ?_);have e:=h.trans i;have a:=i.heap' g;cases hm:XjY c with
 |false =>
  rw [show Xj1 c=1 from by unfold Xj1; rw [hm]; rfl];exact ζy rfl (ζr Tryz.func89 rfl ⟨e,by rw [if_neg (by simp)]⟩)
 |true =>
  rw [show Xj1 c=0 from by unfold Xj1; rw [hm]; rfl];have o:=Xqt hm;refine ζf rfl (ζd 8 XaW (by kernel_rfl) rfl fun d=>δw d (fun w' k=>XcA A V w' ((hA.grow e).grow k)) rfl (δl d a rfl (δl d a rfl (Xaq.arith hTT d rfl (w64 (by show _∧_; omega)) rfl (Xaq.adv hTT d rfl (δn d rfl fun u b => ?_))))));by_cases f:(V.bs.length:Int)=c.size*c.pages
  ·refine ζF rfl (show ((V.bs.length:Int) != c.size*c.pages)=false by rw [f]; exact bne_self_eq_false _) (ζl (b.heap' a) rfl (ζb rfl (ζn rfl fun vb x e4 l m s => ?_)));have j:=(e.trans b).trans m;exact ζr Tryz.func89 rfl ⟨j,by rw [if_pos ⟨rfl,f⟩]; exact ⟨vb,rfl,by have:=e.size; have:=b.size; omega,⟨l,hc.chg j,hm⟩⟩⟩
  ·exact ζY rfl (show ((V.bs.length:Int) != c.size*c.pages)=true by simpa using f) (ζr Tryz.func89 rfl ⟨e.trans b,by rw [if_neg (fun q=>f q.2)]⟩)
end Go.Proofs.YtgddpaiandefgaaGreatDoor
