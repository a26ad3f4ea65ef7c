/-
  Texts put together: Slices, Class, Conf, Meter, Rmm, Pick, Rml, Room0, Room1, Room2, Room3, Slices2, Slices3, Plc, Room4, Room5, Room6, Flat, Ref20, Ref20b, Ref20c, Ref20d, Ref3, Ref20e, Ref20f, Ref20g, Ref20h, Ref20i, RmBack, RmOwn, Xbd, Top13, RmPlan, Arena, Arena2.
-/
import Derived.Test.YtgddpaiandefgaaGreatDoorPt1
import Derived.Test.YtgddpaiandefgaaGreatDoorQPost
import Derived.Test.YtgddpaiandefgaaGreatDoorQRule6
import Derived.Test.YtgddpaiandefgaaGreatDoorQRule11
import Derived.Test.YtgddpaiandefgaaGreatDoorQRule16
import Derived.Test.YtgddpaiandefgaaGreatDoorQRule5
import Derived.Test.YtgddpaiandefgaaGreatDoorQRule15
import Derived.Test.YtgddpaiandefgaaGreatDoorQRule17
import Derived.Test.YtgddpaiandefgaaGreatDoorQRule18
import Derived.Test.YtgddpaiandefgaaGreatDoorQRule19
import Derived.Test.YtgddpaiandefgaaGreatDoorQRule7
set_option linter.unusedVariables false
set_option maxRecDepth 100000
namespace Go.Proofs.YtgddpaiandefgaaGreatDoor
open Go.RowKit
theorem XqL (a:Option Addr) (cap fk:Nat) (zs:List Int) (caps:List Value) (p:Int→Bool) (w:World) (hr:Rd .i64 w a zs) (hl:zs.length≤9223372036854775807)
 (hf:∀ x,x ∈ zs→Xan Tryz.prog fk (.int .i64 x::caps).toArray w (Xbp (.bool (p x)) w)) :
 Xan Tryz.prog 152 #[.slice a zs.length cap,.func (.func fk) #[] caps.toArray] w (Xbp (.int .i64 (idx p zs)) w):=by
 refine ζe Tryz.func152 Tryz.ntmps152 rfl ?_;refine Xay.loop (α:=Nat) (fun k => [(0,false,.slice a zs.length cap),(1,false,.func (.func fk) #[] caps.toArray),(7,false,.int .i64 zs.length),(8,false,.int .i64 k)])
  (fun k w'=>w'=w∧k≤zs.length ∧ ∀ j (h:j<zs.length),j<k→p zs[j]=false) (fun k=>zs.length - k) 0 ⟨rfl,rfl,rfl,rfl,trivial⟩ ⟨rfl,Nat.zero_le _,fun _ _ h=>by omega⟩ ?_
 rintro k o ⟨i,q,d⟩ ih;refine ζa rfl (ζg rfl (fun h => ?_) fun h => ?_)
 ·have c:k<zs.length:=by simpa using h
  obtain ⟨b,off,rfl,l⟩:=hr k c;rw [Xgx c] at l;subst i;refine ζi k rfl (ζk rfl l rfl (ζw (hf _ (List.getElem_mem c)) rfl (ζg rfl (fun f => ?_) fun f => ?_)))
  ·exact ζr Tryz.func152 rfl ⟨XhZ (XhJ c d f).symm,rfl⟩
  ·refine ζj rfl ?_;exact ih (k+1) _ _ ⟨rfl,c,fun j g m=>by
    by_cases e:j=k
    ·subst e; exact f
    ·exact d j g (by omega)⟩ (by omega) ⟨rfl,rfl,rfl,rfl,trivial⟩
 ·have n:k=zs.length:=by simp at h; omega
  subst i;exact ζr Tryz.func152 rfl ⟨XhZ (XhL (fun j g=>d j g (by omega))).symm,rfl⟩
theorem XqH (a:Option Addr) (cap fk:Nat) (zs:List Int) (caps:List Value) (p:Int→Bool) (w:World) (hr:Rd .i64 w a zs) (hl:zs.length≤9223372036854775807)
 (hf:∀ x,x ∈ zs→Xan Tryz.prog fk (.int .i64 x::caps).toArray w (Xbp (.bool (p x)) w)) :
 Xan Tryz.prog 142 #[.slice a zs.length cap,.func (.func fk) #[] caps.toArray] w (Xbp (.bool (zs.any p)) w):=by
 exact ζe Tryz.func142 Tryz.ntmps142 rfl (ζw (XqL a cap fk zs caps p w hr hl hf) rfl (ζr Tryz.func142 rfl ⟨XdM (by rw [Bool.eq_iff_iff]; simp only [decide_eq_true_eq]; exact XhM),rfl⟩))
theorem XqM (a:Option Addr) (cap:Nat) (bs:List Bool) (x:Bool) (w:World) (hr:RdB w a bs) (hl:bs.length≤9223372036854775807) :
 Xan Tryz.prog 211 #[.slice a bs.length cap,.bool x] w (Xbp (.int .i64 (idx (fun y=>x == y) bs)) w):=by
 refine ζe Tryz.func211 Tryz.ntmps211 rfl ?_;refine Xay.loop (α:=Nat) (fun k => [(0,false,.slice a bs.length cap),(1,false,.bool x),(7,false,.int .i64 bs.length),(8,false,.int .i64 k)])
  (fun k w'=>w'=w∧k≤bs.length ∧ ∀ j (h:j<bs.length),j<k→(x == bs[j])=false) (fun k=>bs.length - k) 0 ⟨rfl,rfl,rfl,rfl,trivial⟩ ⟨rfl,Nat.zero_le _,fun _ _ h=>by omega⟩ ?_
 rintro k o ⟨i,q,c⟩ ih;refine ζa rfl (ζg rfl (fun h => ?_) fun h => ?_)
 ·have d:k<bs.length:=by simpa using h
  obtain ⟨b,off,rfl,l⟩:=hr k d;subst i;refine ζi k rfl (ζk rfl l rfl (ζg rfl (fun f => ?_) fun f => ?_))
  ·exact ζr Tryz.func211 rfl ⟨XhZ (XhJ (p:=fun y=>x == y) d c f).symm,rfl⟩
  ·refine ζj rfl ?_;exact ih (k+1) _ _ ⟨rfl,d,fun j g m=>by
    by_cases e:j=k
    ·subst e; exact f
    ·exact c j g (by omega)⟩ (by omega) ⟨rfl,rfl,rfl,rfl,trivial⟩
 ·have n:k=bs.length:=by simp at h; omega
  subst i;exact ζr Tryz.func211 rfl ⟨XhZ (XhL (p:=fun y=>x == y) (fun j g=>c j g (by omega))).symm,rfl⟩
theorem XqI (a:Option Addr) (cap:Nat) (bs:List Bool) (x:Bool) (w:World) (hr:RdB w a bs) (hl:bs.length≤9223372036854775807) :
 Xan Tryz.prog 144 #[.slice a bs.length cap,.bool x] w (Xbp (.bool (bs.any fun y=>x == y)) w):=by
 exact ζe Tryz.func144 Tryz.ntmps144 rfl (ζw (XqM a cap bs x w hr hl) rfl (ζr Tryz.func144 rfl ⟨XdM (by rw [Bool.eq_iff_iff]; simp only [decide_eq_true_eq]; exact XhM),rfl⟩))
def okL (page:Int):Int→List Int→Bool
 |_,[]=>true
 |ahead,n::r=>decide (8≤n) && (n % 8 == 0) && decide (n≤page) && decide (ahead<n) && okL page n r
def XeN (zs:List Int) (page:Int):Bool:=decide (0<zs.length) && decide (zs.length≤16) && okL page 0 zs
def XeK (zs:List Int) (page:Int):Int:=if XeN zs page then 0 else 1
theorem Xlc {page ahead:Int} {zs:List Int} {k:Nat} (h:k<zs.length):okL page ahead (zs.drop k)=(decide (8≤zs[k]) && (zs[k] % 8 == 0) && decide (zs[k]≤page) && decide (ahead<zs[k]) && okL page zs[k] (zs.drop (k+1))):=by
 rw [List.drop_eq_getElem_cons h]; rfl
theorem Xld {page ahead:Int} {zs:List Int} {k:Nat} (h:zs.length≤k):okL page ahead (zs.drop k)=true:=by
 rw [List.drop_eq_nil_of_le h]; rfl
theorem XeL {zs:List Int} {page:Int} (h:XeN zs page=false):XeK zs page=1:=by unfold XeK; rw [h]; rfl
theorem XeM {zs:List Int} {page:Int} (h:XeN zs page=true):XeK zs page=0:=by unfold XeK; rw [h]; rfl
theorem Xle {page:Int}:∀ {zs:List Int} {ahead:Int},okL page ahead zs=true → ∀ i (h:i<zs.length),8≤zs[i]∧zs[i] % 8=0∧zs[i]≤page∧ahead<zs[i] ∧ ∀ j (hj:j<i),zs[j]<zs[i]
 |n::r,ahead,h,i,a=>by
  simp only [okL,Bool.and_eq_true,decide_eq_true_eq,beq_iff_eq] at h;obtain ⟨⟨⟨⟨b,c⟩,d⟩,e⟩,f⟩:=h;cases i with
  |zero=>exact ⟨b,c,d,e,fun j hj=>by omega⟩
  |succ i =>
   obtain ⟨g,k,l,m,o⟩:=Xle f i (by simpa using a);refine ⟨g,k,l,by simp only [List.getElem_cons_succ]; omega,fun j hj => ?_⟩;cases j with
   |zero=>exact m
   |succ j=>exact o j (by omega)
theorem XeP {zs:List Int} {page:Int} (h:XeN zs page=true):0<zs.length∧zs.length≤16:=by
 unfold XeN at h; simp only [Bool.and_eq_true,decide_eq_true_eq] at h; exact h.1
theorem XeO {zs:List Int} {page:Int} (h:XeN zs page=true) (i:Nat) (hi:i<zs.length):8≤zs.getD i 0∧zs.getD i 0 % 8=0∧zs.getD i 0≤page:=by
 unfold XeN at h; simp only [Bool.and_eq_true,decide_eq_true_eq] at h;obtain ⟨a,b,c,_⟩:=Xle h.2 i hi;rw [Xgx hi]; exact ⟨a,b,c⟩
theorem XeQ (a:Option Addr) (cap:Nat) (zs:List Int) (page:Int) (w:World) (hr:Rd .i64 w a zs) (hl:zs.length≤9223372036854775807) :
 Xan Tryz.prog 141 #[.slice a zs.length cap,.int .i64 page] w (Xbp (.int .i64 (XeK zs page)) w):=by
 refine ζe Tryz.func141 Tryz.ntmps141 rfl (ζg rfl (fun l => ?_) fun l => ?_)
 ·have d:0<zs.length:=by simpa using l
  by_cases f:zs.length≤16
  ·refine Xay.knowB (t:=5) rfl (decide_eq_true (by omega)) ?_;have p:XeN zs page=okL page 0 (zs.drop 0):=by unfold XeN; rw [decide_eq_true d,decide_eq_true f]; simp
   refine Xay.loop (α:=Nat × Int) (fun x => [(0,false,.slice a zs.length cap),(1,false,.int .i64 page),(5,true,.bool true),(6,false,.int .i64 x.2),(17,false,.slice a zs.length cap),(18,false,.int .i64 zs.length),(19,false,.int .i64 x.1)])
    (fun x w'=>w'=w∧x.1≤zs.length∧XeN zs page=okL page x.2 (zs.drop x.1)) (fun x=>zs.length - x.1) (0,0) ⟨rfl,rfl,rfl,rfl,rfl,rfl,rfl,trivial⟩ ⟨rfl,Nat.zero_le _,p⟩ ?_
   rintro ⟨k,ahead⟩ v ⟨r,s,e⟩ ih;simp only at s e
   subst r;refine ζa rfl (ζg rfl (fun h => ?_) fun h => ?_)
   ·have g:k<zs.length:=by simpa using h
    rw [Xlc g] at e;obtain ⟨b,off,rfl,c⟩:=hr k g;rw [Xgx g] at c;refine ζi k rfl (ζk rfl c rfl (ζg rfl (fun i => ?_) fun i => ?_))
    ·have u:=of_decide_eq_true i;refine Xay.div hTT rfl (by omega) (XnS (by omega)) rfl (ζg rfl (fun m => ?_) fun m => ?_)
     ·refine ζg rfl (fun n => ?_) fun n => ?_
      ·refine ζg rfl (fun o => ?_) fun o => ?_
       ·have j:¬ ahead<zs[k]:=by simpa using o
        exact ζy rfl (ζr Tryz.func141 rfl ⟨XhZ (XeL (by rw [e,decide_eq_false j]; simp)).symm,rfl⟩)
       ·have j:ahead<zs[k]:=by simpa using o
        exact ζj rfl (ih (k+1,zs[k]) _ _ ⟨rfl,g,by rw [e,decide_eq_true j,show decide (zs[k]≤page)=true from n,m,decide_eq_true u]; rfl⟩ (by simp only; omega) ⟨rfl,rfl,XdL (decide_eq_true j),rfl,rfl,rfl,rfl,trivial⟩)
      ·exact ζr Tryz.func141 rfl ⟨XhZ (XeL (by rw [e,show decide (zs[k]≤page)=false from n]; simp)).symm,rfl⟩
     ·exact ζr Tryz.func141 rfl ⟨XhZ (XeL (by rw [e,m]; simp)).symm,rfl⟩
    ·exact ζr Tryz.func141 rfl ⟨XhZ (XeL (by rw [e,show decide (8≤zs[k])=false from i]; simp)).symm,rfl⟩
   ·have q:zs.length≤k:=by have:=of_decide_eq_false h; omega
    exact ζr Tryz.func141 rfl ⟨XhZ (XeM (by rw [e,Xld q])).symm,rfl⟩
  ·refine Xay.knowB (t:=5) rfl (decide_eq_false (by omega)) (Xay.unroll hTT rfl (ζy rfl ?_));obtain ⟨b,off,rfl,c⟩:=hr 0 d;rw [Xgx d] at c;exact ζi 0 rfl (ζk rfl c rfl (ζr Tryz.func141 rfl ⟨XhZ (XeL (by unfold XeN; rw [decide_eq_false f]; simp)).symm,rfl⟩))
 ·have d:¬ 0<zs.length:=by have i:=of_decide_eq_false l; omega
  exact Xay.unroll hTT rfl (ζf rfl (ζr Tryz.func141 rfl ⟨XhZ (XeL (by unfold XeN; rw [decide_eq_false d]; simp)).symm,rfl⟩))
def Xni (zs:List Int) (k:Nat):Int:=if k=0 then 0 else zs.getD (k - 1) 0
theorem Xnj {zs:List Int} {k:Nat} (h:k<zs.length):Xni zs (k+1)=zs[k]:=by simp [Xni,h]
theorem Xlf {page ahead n:Int} {r:List Int} (h1:8≤n) (h2:n % 8=0) (h3:n≤page) (h4:ahead<n):(decide (8≤n) && (n % 8 == 0) && decide (n≤page) && decide (ahead<n) && okL page n r)=okL page n r:=by
 rw [decide_eq_true h1,decide_eq_true h3,decide_eq_true h4,show (n % 8 == 0)=true from by simpa using h2]; rfl
theorem XnP (a:Option Addr) (cap:Nat) (zs:List Int) (page:Int) (w:World) (hr:Rd .i64 w a zs) (hl:zs.length≤9223372036854775807) :
 Xan Tryz.prog 39 #[.slice a zs.length cap,.int .i64 page] w (Grow (.int .i64 (XeK zs page)) w):=by
 refine ζe Tryz.func39 Tryz.ntmps39 rfl (ζg rfl (fun o => ?_) fun o => ?_)
 ·have y:zs.length=0:=by have:=of_decide_eq_true o; omega
  exact ζr Tryz.func39 rfl ⟨XhZ (XeL (by unfold XeN; rw [decide_eq_false (by omega)]; simp)).symm,Chg.refl _ _⟩
 ·have y:¬ zs.length=0:=by have:=of_decide_eq_false o; omega
  refine ζg rfl (fun p => ?_) fun p => ?_
  ·have z:=of_decide_eq_true p;exact ζr Tryz.func39 rfl ⟨XhZ (XeL (by unfold XeN; rw [decide_eq_false (show ¬ zs.length≤16 from by omega)]; simp)).symm,Chg.refl _ _⟩
  ·have z:=of_decide_eq_false p;have u:XeN zs page=okL page (Xni zs 0) (zs.drop 0):=by unfold XeN; rw [decide_eq_true (by omega),decide_eq_true (by omega)]; simp [Xni]
   refine Xay.loop (α:=Nat) (fun k => [(0,false,.slice a zs.length cap),(1,false,.int .i64 page),(5,false,.int .i64 k)])
    (fun k w'=>Chg XaW w w'∧k≤zs.length∧XeN zs page=okL page (Xni zs k) (zs.drop k)) (fun k=>zs.length - k) 0 ⟨rfl,rfl,rfl,trivial⟩ ⟨Chg.refl _ _,Nat.zero_le _,u⟩ ?_
   rintro k C ⟨f,D,g⟩ ih;refine ζa rfl (ζg rfl (fun h => ?_) fun h => ?_)
   ·have e:k<zs.length:=by simpa using h
    rw [Xlc e] at g;have n:=hr.chg f;obtain ⟨b,off,rfl,d⟩:=n k e;rw [Xgx e] at d;refine Xay.quiet rfl Xj9 (by kernel_rfl) (Xa6.adv hTT rfl (Xa6.index hTT rfl (j:=k) (by omega) (by omega) (by first | rfl | omega | (simp; done) | (simp; omega)) rfl (Xa6.load hTT rfl d rfl ?_)));refine Xa6.fork hTT rfl rfl rfl (fun q => ?_) (fun q => ?_)
    ·exact Xa6.nil fun l c=>ζa rfl (ζr Tryz.func39 rfl ⟨XhZ (XeL (by rw [g,decide_eq_false (show ¬ 8≤zs[k] from by have:=of_decide_eq_true q; omega)]; simp)).symm,f.trans c⟩)
    ·have E:=of_decide_eq_false q;refine Xa6.index hTT rfl (j:=k) (by omega) (by omega) (by first | rfl | omega | (simp; done) | (simp; omega)) rfl (Xa6.load hTT rfl d rfl (Xa6.div hTT rfl (by omega) (XnS (by omega)) rfl ?_));refine Xa6.fork hTT rfl rfl rfl (fun m => ?_) (fun m => ?_)
     ·exact Xa6.nil fun l c=>ζa rfl (ζr Tryz.func39 rfl ⟨XhZ (XeL (by rw [g,show (zs[k] % 8 == 0)=false from by simpa using m]; simp)).symm,f.trans c⟩)
     ·refine Xa6.index hTT rfl (j:=k) (by omega) (by omega) (by first | rfl | omega | (simp; done) | (simp; omega)) rfl (Xa6.load hTT rfl d rfl ?_);refine Xa6.fork hTT rfl rfl rfl (fun r => ?_) (fun r => ?_)
      ·exact Xa6.nil fun l c=>ζa rfl (ζr Tryz.func39 rfl ⟨XhZ (XeL (by rw [g,decide_eq_false (show ¬ zs[k]≤page from by have:=of_decide_eq_true r; omega)]; simp)).symm,f.trans c⟩)
      ·have F:=of_decide_eq_false r;refine Xa6.fork hTT rfl rfl rfl (fun s => ?_) (fun s => ?_)
       ·have v:=of_decide_eq_true s;obtain ⟨b',off',e',i⟩:=n (k - 1) (by omega);simp only [Option.some.injEq,Addr.mk.injEq] at e';obtain ⟨rfl,rfl,_⟩:=e';refine Xa6.index hTT rfl (j:=k) (by omega) (by omega) (by first | rfl | omega | (simp; done) | (simp; omega)) rfl (Xa6.load hTT rfl d rfl (Xa6.arith hTT rfl (w64 (by omega)) rfl (Xa6.index hTT rfl (j:=(k - 1)) (by omega) (by omega) (by first | rfl | omega | (simp; done) | (simp; omega)) rfl (Xa6.load hTT rfl i rfl (Xa6.nil fun l c=>ζa rfl ?_)))));have A:Xni zs k=zs.getD (k - 1) 0:=by unfold Xni; rw [if_neg (by omega)]
        refine ζg rfl (fun t => ?_) fun t => ?_
        ·have B:=of_decide_eq_true t;exact ζr Tryz.func39 rfl ⟨XhZ (XeL (by rw [g,A,decide_eq_false (show ¬ zs.getD (k - 1) 0<zs[k] from by omega)]; simp)).symm,f.trans c⟩
        ·have B:=of_decide_eq_false t;exact ζj rfl (ih (k+1) _ _ ⟨f.trans c,e,by rw [g,Xlf (by omega) (by simpa using m) (by omega) (by omega),Xnj e]⟩ (by omega) ⟨rfl,rfl,rfl,trivial⟩)
       ·have v:k=0:=by have:=of_decide_eq_false s; omega
        subst v;exact Xa6.nil fun l c=>ζa rfl (ζj rfl (ih 1 _ _ ⟨f.trans c,e,by rw [g,Xlf (by omega) (by simpa using m) (by omega) (by simp [Xni]; omega),Xnj e]⟩ (by omega) ⟨rfl,rfl,rfl,trivial⟩))
   ·have x:zs.length≤k:=by have:=of_decide_eq_false h; omega
    exact ζr Tryz.func39 rfl ⟨XhZ (XeM (by rw [g,Xld x])).symm,f⟩
structure Conf where
 size:Int
 pages:Int
 classes:List Int
 keep:List Int
 step:Int
 slots:Int
 gens:Int
 most:Int
structure Xal where
 ca:Option Addr
 cc:Nat
 ka:Option Addr
 kc:Nat
def Xe6 (c:Conf) (p:Xal):List Value :=
 [.int .i64 c.size,.int .i64 c.pages,.slice p.ca c.classes.length p.cc,.slice p.ka c.keep.length p.kc,.int .i64 c.step,.int .i64 c.slots,.int .i64 c.gens,.int .i64 c.most]
def XaC (x:Int):Prop := -9223372036854775808≤x∧x≤9223372036854775807
structure Xam (w:World) (c:Conf) (p:Xal):Prop where
 classes:Rd .i64 w p.ca c.classes
 keep:Rd .i64 w p.ka c.keep
 lc:c.classes.length≤9223372036854775807
 lk:c.keep.length≤9223372036854775807
 size:XaC c.size
theorem Xam.chg {w w':World} {c:Conf} {p:Xal} (h:Xam w c p) (hw:Chg XaW w w'):Xam w' c p :=
 ⟨h.classes.chg hw,h.keep.chg hw,h.lc,h.lk,h.size⟩
def Xqy (n:Int):Bool:=decide (64≤n) && decide (n≤4096) && (n % 8 == 0)
def Xih (c:Conf):Int:=if Xqy c.size then c.size*(c.size / 8) else 0
def XdI (c:Conf) (k:Int):Int:=if 0≤k∧k<c.classes.length then Xuk c.size (c.classes.getD k.toNat 0) else 0
def Xuo (n a b:Int):Bool:=decide (a≤n) && decide (n≤b)
def Xid (k:Int):Bool := !Xuo k 0 1024
def XjN (c:Conf):Bool :=
 Xqy c.size && Xuo c.pages 1 1024 && XeN c.classes c.size && (decide (c.keep.length=c.classes.length) && !c.keep.any Xid) && Xuo c.step 1 65536 && Xuo c.slots 1 4096 && Xuo c.gens 1 1023 && Xuo c.most 1 (Xih c)
def XjQ (c:Conf):Int:=if XjN c then 0 else 1
theorem Xqz {n:Int}:Xqy n=true↔64≤n∧n≤4096∧n % 8=0:=by
 unfold Xqy; simp [and_assoc]
theorem Xfc (n a b:Int) (w:World):Xan Tryz.prog 139 #[.int .i64 n,.int .i64 a,.int .i64 b] w (Xbp (.bool (Xuo n a b)) w):=by
 refine ζe Tryz.func139 Tryz.ntmps139 rfl (ζg rfl (fun h => ?_) fun h => ?_)
 ·exact ζr Tryz.func139 rfl ⟨XdM (by unfold Xuo; rw [show decide (a≤n)=true from h]; rfl),rfl⟩
 ·exact ζr Tryz.func139 rfl ⟨XdM (by unfold Xuo; rw [show decide (a≤n)=false from h]; rfl),rfl⟩
theorem Xfb (n:Int) (w:World):Xan Tryz.prog 140 #[.int .i64 n] w (Xbp (.bool (Xqy n)) w):=by
 refine ζe Tryz.func140 Tryz.ntmps140 rfl (ζw (Xfc n 64 4096 w) rfl (ζg rfl (fun h => ?_) fun h => ?_))
 ·have a:0≤n:=by unfold Xuo at h; simp at h; omega
  exact Xay.div hTT rfl (by omega) (XnS (by omega)) rfl (ζr Tryz.func140 rfl ⟨XdM (by unfold Xqy; rw [show (decide (64≤n) && decide (n≤4096))=true from h]; rfl),rfl⟩)
 ·exact ζr Tryz.func140 rfl ⟨XdM (by unfold Xqy; rw [show (decide (64≤n) && decide (n≤4096))=false from h]; rfl),rfl⟩
theorem Xe8 (c:Conf) (p:Xal) (w:World):Xan Tryz.prog 143 #[.agg (Xe6 c p).toArray] w (Grow (.int .i64 (Xih c)) w):=by
 refine ζe Tryz.func143 Tryz.ntmps143 rfl (ζn rfl fun b g e1 e d j=>ζl e rfl (ζw (Xfb c.size g) rfl (ζg rfl (fun h => ?_) fun h => ?_)))
 ·have a:Xqy c.size=false:=by simpa using h
  exact ζr Tryz.func143 rfl ⟨XhZ (by unfold Xih; rw [a]; rfl),d⟩
 ·have a:Xqy c.size=true:=by simpa using h
  have i:=Xqz.1 a;have f:0≤c.size / 8∧c.size / 8≤512:=by omega
  have k:0≤c.size*(c.size / 8):=Int.mul_nonneg (by omega) f.1;have l:=Int.mul_le_mul i.2.1 f.2 f.1 (by omega);exact ζl e rfl (ζl e rfl (Xay.div hTT rfl (by omega) (XnD (by omega) (by omega)) rfl (ζj rfl (ζr Tryz.func143 rfl ⟨XhZ (by unfold Xih; rw [a]; rfl),d⟩))))
theorem Xe7 (c:Conf) (p:Xal) (k:Int) (w:World) (hc:Xam w c p):Xan Tryz.prog 149 #[.agg (Xe6 c p).toArray,.int .i64 k] w (Grow (.int .i64 (XdI c k)) w):=by
 have g:=hc.size;unfold XaC at g;refine ζe Tryz.func149 Tryz.ntmps149 rfl (ζn rfl fun b q e1 e a n=>ζg rfl (fun h => ?_) fun h => ?_)
 ·have l:=of_decide_eq_true h;exact ζr Tryz.func149 rfl ⟨XhZ (by unfold XdI; rw [if_neg (by omega)]),a⟩
 ·have l:=of_decide_eq_false h;refine ζl e rfl (ζg rfl (fun f => ?_) fun f => ?_)
  ·have m:=of_decide_eq_true f;exact ζr Tryz.func149 rfl ⟨XhZ (by unfold XdI; rw [if_neg (by omega)]),a⟩
  ·have m:=of_decide_eq_false f;obtain ⟨r,off,ea,d⟩:=(hc.chg a).classes k.toNat (by omega);obtain ⟨ca,cc,ka,kc⟩:=p;simp only at ea
   subst ea;exact Xay.quiet rfl Xj9 (by kernel_rfl) (Xa6.adv hTT rfl (Xa6.loadb hTT rfl e rfl rfl (Xa6.loadb hTT rfl e rfl rfl (Xa6.index hTT rfl (j:=k.toNat) (by omega) (by omega) (by first | rfl | omega | (simp; done) | (simp; omega)) rfl (Xa6.load hTT rfl d rfl (Xa6.call hTT rfl (fun w' o=>(XtC c.size (c.classes.getD k.toNat 0) w' g.2).grow) rfl (Xa6.nil fun s i=>ζa rfl (ζr Tryz.func149 rfl ⟨XhZ (by unfold XdI; rw [if_pos (by omega)]),a.trans i⟩))))))))
theorem Xfa (k:Int) (w:World):Xan Tryz.prog 138 #[.int .i64 k] w (Xbp (.bool (Xid k)) w):=by
 exact ζe Tryz.func138 Tryz.ntmps138 rfl (ζw (Xfc k 0 1024 w) rfl (ζr Tryz.func138 rfl ⟨rfl,rfl⟩))
theorem Xe9 (c:Conf) (p:Xal) (w:World) (hc:Xam w c p):Xan Tryz.prog 84 #[.agg (Xe6 c p).toArray] w (Grow (.int .i64 (XjQ c)) w):=by
 have B:=hc.lc;have i:=hc.lk;refine ζe Tryz.func84 Tryz.ntmps84 rfl (ζn rfl fun b F e1 d e C => ?_);have g:=hc.chg e;refine Xay.quietF (q:=41) hTT Xj9 (by kernel_rfl) rfl rfl rfl rfl (Xa6.adv hTT rfl (Xa6.loadb hTT rfl d rfl rfl (Xa6.call hTT rfl (fun w' a=>(Xfb c.size w').grow) rfl (Xa6.loadb hTT rfl d rfl rfl (Xa6.call hTT rfl (fun w' a=>(Xfc c.pages 1 1024 w').grow) rfl (Xa6.loadb hTT rfl d rfl rfl (Xa6.loadb hTT rfl d rfl rfl (Xa6.call hTT rfl (fun w' a=>(XeQ p.ca p.cc c.classes c.size w' (g.classes.chg a) B).grow) rfl (Xa6.loadb hTT rfl d rfl rfl (Xa6.loadb hTT rfl d rfl rfl ?_))))))))));have fin:∀ (kk:Bool),(decide (c.keep.length=c.classes.length) && !c.keep.any Xid)=kk → 
  ([Xqy c.size,Xuo c.pages 1 1024,(XeK c.classes c.size == 0),kk,Xuo c.step 1 65536,Xuo c.slots 1 4096,Xuo c.gens 1 1023,Xuo c.most 1 (Xih c)].any fun y=>false == y) = !XjN c:=by
  intro kk j;unfold XjN;rw [j];have:(XeK c.classes c.size == 0)=XeN c.classes c.size:=by unfold XeK; cases XeN c.classes c.size <;> rfl
  rw [this];cases Xqy c.size <;> cases Xuo c.pages 1 1024 <;> cases XeN c.classes c.size <;> cases kk <;> cases Xuo c.step 1 65536 <;> cases Xuo c.slots 1 4096 <;> cases Xuo c.gens 1 1023 <;> cases Xuo c.most 1 (Xih c) <;> rfl
 refine Xa6.fork hTT rfl rfl rfl (fun h => ?_) (fun h => ?_)
 case' refine_1 =>
  refine Xa6.loadb hTT rfl d rfl rfl (Xa6.call hTT rfl (fun w' a=>(XqH p.ka p.kc 138 c.keep [] Xid w' (g.keep.chg a) i (fun x _=>Xfa x w')).grow) rfl ?_)
 all_goals
  refine Xa6.loadb hTT rfl d rfl rfl (Xa6.call hTT rfl (fun w' a=>(Xfc c.step 1 65536 w').grow) rfl (Xa6.loadb hTT rfl d rfl rfl (Xa6.call hTT rfl (fun w' a=>(Xfc c.slots 1 4096 w').grow) rfl (Xa6.loadb hTT rfl d rfl rfl (Xa6.call hTT rfl (fun w' a=>(Xfc c.gens 1 1023 w').grow) rfl (Xa6.loadb hTT rfl d rfl rfl (Xa6.loads hTT rfl d rfl rfl (Xa6.call hTT rfl (fun w' a=>Xe8 c p w') rfl (Xa6.call hTT rfl (fun w' a=>(Xfc c.most 1 (Xih c) w').grow) rfl (Xa6.build hTT rfl rfl (Xa6.nil fun m G n D o=>ζa rfl (ζs o rfl fun r s t E=>Xay.slice hTT rfl (l:=0) (h:=8) (by first | rfl | omega | simp [loV]) (by first | rfl | omega | simp [hiV]) (by omega) (by omega) rfl ?_))))))))))));have u:RdB r (some ⟨m,0,none⟩) [Xqy c.size,Xuo c.pages 1 1024,(XeK c.classes c.size == 0),(decide (c.keep.length=c.classes.length) && !c.keep.any Xid),Xuo c.step 1 65536,Xuo c.slots 1 4096,Xuo c.gens 1 1023,Xuo c.most 1 (Xih c)]:=by
   have v:(c.keep.length:Int)=c.classes.length↔c.keep.length=c.classes.length:=by omega
   refine RdB.of s ?_;simp only [v,beq_iff_eq,beq_eq_false_iff_ne,ne_eq] at h;simp [h]
  refine ζw (XqI (some ⟨m,0,none⟩) 8 _ false r u (by simp)) rfl ?_;have z:=(e.trans n).since t (fun k j A=>by have:=e.size; subst A; omega);refine ζg rfl (fun f => ?_) fun f => ?_
  ·exact ζr Tryz.func84 rfl ⟨XhZ (by rw [fin _ rfl] at f; unfold XjQ; rw [if_neg (by simpa using f)]),z⟩
  ·exact ζr Tryz.func84 rfl ⟨XhZ (by rw [fin _ rfl] at f; unfold XjQ; rw [if_pos (by simpa using f)]),z⟩
def XaO (w:World) (b:Nat) (total lap:Int):Prop:=w.heap[b]? = some (.cells #[.int .i64 total,.int .i64 lap] 197 (0,0))∧0≤lap∧lap≤total∧total≤4611686018427387904
def Xel (total n:Int):Int:=if n<1 then total else total+min n (4611686018427387904 - total)
theorem Xen {total n:Int} (h:0≤total∧total≤4611686018427387904):total≤Xel total n∧Xel total n≤4611686018427387904:=by
 unfold Xel; split <;> omega
abbrev ptr (b:Option Nat):Value := .pointer (b.map fun b=>⟨b,0,none⟩)
theorem Xj3 (w:World):Xan Tryz.prog 86 #[] w (fun v w'=>v = .pointer (some ⟨w.heap.size,0,none⟩)∧XaO w' w.heap.size 0 0∧Chg XaW w w'∧w'.heap.size=w.heap.size+1):=by
 refine ζe Tryz.func86 Tryz.ntmps86 rfl (ζb rfl (ζn rfl fun b e e1 d a c => ?_));subst e1;exact ζr Tryz.func86 rfl ⟨rfl,⟨d,by omega,by omega,by omega⟩,a,c⟩
theorem Xj4 (b:Nat) (total lap:Int) (w:World) (h:XaO w b total lap):Xan Tryz.prog 212 #[.pointer (some ⟨b,0,none⟩)] w (Xbp (.int .i64 (4611686018427387904 - total)) w):=by
 obtain ⟨a,c,d,e⟩:=h;exact ζe Tryz.func212 Tryz.ntmps212 rfl (ζl a rfl (ζj rfl (ζr Tryz.func212 rfl ⟨rfl,rfl⟩)))
theorem XaO.chg {w w':World} {b:Nat} {total lap:Int} (h:XaO w b total lap) (hc:Chg XaW w w'):XaO w' b total lap:=⟨hc.heap' h.1,h.2⟩
theorem XjZ (b:Nat) (total lap n:Int) (w:World) (h:XaO w b total lap):Xan Tryz.prog 146 #[.pointer (some ⟨b,0,none⟩),.int .i64 n] w (fun _ w'=>XaO w' b (Xel total n) lap∧Chg (fun x=>x=b) w w'):=by
 have g:=h;obtain ⟨i,m,q,o⟩:=h;refine ζe Tryz.func146 Tryz.ntmps146 rfl (ζg rfl (fun f => ?_) fun f => ?_)
 ·exact ζr Tryz.func146 rfl ⟨by unfold Xel; rw [if_pos (of_decide_eq_true f)]; exact g,Chg.refl _ _⟩
 ·have j:=of_decide_eq_false f;refine ζd 9 XaW (by kernel_rfl) rfl fun a=>δl a i rfl (δw a (fun w' k=>Xj4 b total lap w' ((show XaO w b total lap from g).chg k)) rfl (δj a rfl (δn a rfl fun r c=>ζs (c.heap' i) rfl fun s d l p => ?_)));have e:total+(if 4611686018427387904 - total<n then 4611686018427387904 - total else n)=Xel total n:=by unfold Xel; rw [if_neg j]; split <;> omega
  rw [e] at d;have:=Xen (n:=n) ⟨by omega,o⟩;exact ζr Tryz.func146 rfl ⟨⟨d,m,by omega,by omega⟩,(Chg.refl _ w).trans ((c.mono (fun _ _ h=>h.elim)).trans l)⟩
theorem Xj0 (n:Int) (w:World):Xan Tryz.prog 146 #[.pointer none,.int .i64 n] w (fun _ w'=>w=w'):=by
 exact ζe Tryz.func146 Tryz.ntmps146 rfl (ζr Tryz.func146 rfl rfl)
structure RmM where
 shs:List Sm
 pl:PlM
 lg:List (Nat × List Nat)
 tot:Int
def Xok (M:RmM) (k:Int):Option Sm:=if 0≤k then M.shs[k.toNat]? else none
def Xho (p:PlM):Nat:=Xmv p.own
def XeA (p q:PlM):Int:=3+(max (Xho q:Int) (Xho p) - min (Xho q:Int) (Xho p))*4
def XoR (M:RmM) (k:Nat) (x:Sm) (q:PlM):RmM:={M with shs:=M.shs.set k x,pl:=q}
def XoP (M:RmM) (k:Nat) (x:Sm) (q:PlM):RmM:={M with shs:=M.shs.set k x,pl:=q,tot:=Xel M.tot (XeA M.pl q)}
def XiF (l:List (Nat × List Nat)):List Nat:=l.flatMap fun e=>e.1::e.2
def XiO (l:List (Nat × List Nat)):Nat:=(l.map fun e=>e.2.length+1).sum
def XpP (l:List Sm):Nat:=(l.map fun x=>x.pg.length).sum
structure RmM.Ok (c:Conf) (M:RmM):Prop where
 n:M.shs.length=c.classes.length
 each:∀ (k:Nat) (x:Sm),M.shs[k]? = some x→x.cls=(k:Int)∧(x.blocks:Int)=XdI c (k:Int)
 own:(M.pl.own.length:Int)=c.pages
 lg:∀ m ∈ XiF M.lg,m<M.pl.own.length∧M.pl.own.getD m 0=(M.shs.length:Int)
 nd:(XiF M.lg).Nodup
 sum:Xho M.pl=XpP M.shs+XiO M.lg
 tot:0≤M.tot∧M.tot≤4611686018427387904
def Eff (p q:PlM) (c:Int):Prop:=q=p∨(∃ n r,p.free=n::r∧q=p.take c) ∨ ∃ n,n<p.own.length∧p.own.getD n 0=c∧q=p.give n
theorem XsS {p:PlM} {n:Nat} {r:List Nat} (h:p.free=n::r) (c:Int):(p.take c).own=p.own.set n c∧(p.take c).free=r:=by unfold PlM.take; rw [h]; exact ⟨rfl,rfl⟩
theorem Eff.own {p q:PlM} {c:Int} (h:Eff p q c) (hg:p.Good):q.own.length=p.own.length ∧ ∀ m d,d≠c→0≤d→p.own.getD m 0=d→m<p.own.length→q.own.getD m 0=d:=by
 rcases h with rfl | ⟨n,r,a,rfl⟩ | ⟨n,j,f,rfl⟩
 ·exact ⟨rfl,fun m d _ _ h _=>h⟩
 ·rw [(XsS a c).1];refine ⟨List.length_set,fun m d b g hm i => ?_⟩;rw [XgH];obtain ⟨k,l⟩:=hg.free n (by rw [a]; simp);rw [if_neg (fun ⟨e,_⟩=>by subst e; omega)];exact hm
 ·refine ⟨List.length_set,fun m d b g hm i => ?_⟩;show (p.own.set n (-1)).getD m 0=d
  rw [XgH,if_neg (fun ⟨e,_⟩=>by subst e; exact b (hm.symm.trans f))];exact hm
theorem Eff.of {p q:PlM} {c:Int} (h:Eff p q c) (hg:p.Good) {y:Sm} (hy:y.Of p) (hc:y.cls≠c) (h0:0≤y.cls):y.Of q:=fun e b=>by
 obtain ⟨a,d⟩:=hy e b;obtain ⟨f,g⟩:=h.own hg;exact ⟨by rw [f]; exact a,g _ _ hc h0 d a⟩
theorem XpQ:∀ {l:List Sm} {k:Nat} {x x':Sm},l[k]? = some x→XpP (l.set k x')+x.pg.length=XpP l+x'.pg.length
 |a::r,0,x,x',h=>by
  cases h
  unfold XpP;simp only [List.set_cons_zero,List.map_cons,List.sum_cons];omega
 |a::r,k+1,x,x',h=>by
  have:=XpQ (l:=r) (k:=k) (x:=x) (x':=x') h;unfold XpP at *;simp only [List.set_cons_succ,List.map_cons,List.sum_cons];omega
theorem RmM.Ok.set {c:Conf} {M:RmM} (h:M.Ok c) (hg:M.pl.Good) {k:Nat} {x x':Sm} {q:PlM} (hx:M.shs[k]? = some x) (hE:Eff M.pl q x.cls) (hc:x'.cls=x.cls) (hb:x'.blocks=x.blocks) (hs:Xho q+x.pg.length=Xho M.pl+x'.pg.length):(XoR M k x' q).Ok c:=by
 have b:=(List.getElem?_eq_some_iff.1 hx).1;obtain ⟨e1,e2⟩:=h.each k x hx;obtain ⟨d,f⟩:=hE.own hg;refine ⟨by show (M.shs.set k x').length=_; rw [List.length_set]; exact h.n,fun j y a => ?_,by show (q.own.length:Int)=_; rw [d]; exact h.own,fun m hm => ?_,h.nd,?_,h.tot⟩
 ·replace a:(M.shs.set k x')[j]? = some y:=a;by_cases e:k=j
  ·subst e;rw [List.getElem?_set_self b] at a; cases a;exact ⟨hc.trans e1,by rw [hb]; exact e2⟩
  ·rw [List.getElem?_set_ne e] at a; exact h.each j y a
 ·obtain ⟨g,i⟩:=h.lg m hm;refine ⟨by show m<q.own.length; omega,?_⟩;show q.own.getD m 0=((M.shs.set k x').length:Int)
  rw [List.length_set];exact f _ _ (by rw [e1]; omega) (by omega) i g
 ·have:=XpQ (x':=x') hx;have:=h.sum;show Xho q=XpP (M.shs.set k x')+XiO M.lg
  omega
theorem Xeo {t n:Int} (h:0≤t∧t≤4611686018427387904):0≤Xel t n∧Xel t n≤4611686018427387904:=by have:=Xen (n:=n) h; omega
theorem XsO (x:Sm) (pl:PlM) (who:Int) (hg:pl.Good) (hcl:0≤x.cls):Eff pl (Xp4 x pl who) x.cls∧(Xp0 x pl who).cls=x.cls∧(Xp0 x pl who).blocks=x.blocks∧Xho (Xp4 x pl who)+x.pg.length=Xho pl+(Xp0 x pl who).pg.length:=by
 rcases Xp5 x pl who with ⟨_,a,b⟩ | ⟨_,_,⟨n,r,_,a,b,_⟩ | ⟨n,r,_,c,a,b,_⟩⟩
 ·rw [a,b]; exact ⟨.inl rfl,rfl,rfl,rfl⟩
 ·rw [a,b]; exact ⟨.inl rfl,rfl,rfl,by show _=_+(Xq0 _ _ _).length; rw [Xq2]⟩
 ·rw [a,b];refine ⟨.inr (.inl ⟨n,r,c,rfl⟩),rfl,rfl,?_⟩;show _=_+(Xq0 (x.pg++_) _ _).length
  rw [Xq2,List.length_append];obtain ⟨d,e⟩:=hg.free n (by rw [c]; simp);have:=Xmy (v:=x.cls) d;rw [if_pos e,if_neg (by omega)] at this;unfold Xho;rw [(XsS c _).1];simp only [List.length_cons,List.length_nil];omega
theorem XgK (x:Sm) (pl:PlM) (n i:Int) (hok:x.Ok) (hof:x.Of pl):Eff pl (XpN x pl n i) x.cls∧(XpL x n i).cls=x.cls∧(XpL x n i).blocks=x.blocks∧Xho (XpN x pl n i)+x.pg.length=Xho pl+(XpL x n i).pg.length:=by
 unfold XpL XpN;split
 ·rename_i p e
  obtain ⟨k,f,hm⟩:=XqY e;rw [f];by_cases c:Xmb p i=0
  ·simp only [c,if_true,true_and,Int.toNat_natCast];unfold Sm.giveAt;simp only
   by_cases a:Xmv (Xma p i)=0
   ·rw [if_pos a,if_pos a];obtain ⟨b,d⟩:=hof _ hm;simp only at b d
    have g:=hok.cls;have:=Xmy (v := -1) b;rw [if_neg (by omega),if_pos rfl] at this;have h:=(Xq8 hok.nodup hm).2;refine ⟨.inr (.inr ⟨k,b,d,rfl⟩),rfl,rfl,?_⟩;show Xmv (pl.own.set k (-1))+_=Xmv pl.own+(XqN x.pg k).length
    omega
   ·rw [if_neg a,if_neg a];exact ⟨.inl rfl,rfl,rfl,by show _=_+(Xq0 _ _ _).length; rw [Xq2]⟩
  ·simp only [c,if_false,false_and]; refine ⟨.inl rfl,?_,?_,?_⟩ <;> first | trivial | rfl
 ·exact ⟨.inl rfl,rfl,rfl,rfl⟩
theorem Xlr (x:Sm) (pl:PlM) (n i who:Int):Eff pl pl x.cls∧(XpR x n i who).cls=x.cls∧(XpR x n i who).blocks=x.blocks∧Xho pl+x.pg.length=Xho pl+(XpR x n i who).pg.length:=by
 unfold XpR;split
 ·exact ⟨.inl rfl,rfl,rfl,by show _=_+(Xq0 _ _ _).length; rw [Xq2]⟩
 ·exact ⟨.inl rfl,rfl,rfl,rfl⟩
def Xb7 (n q:Int):Int:=if XjG n q=0∨XjG n q=9223372036854775807 then 0 else XjG n q+1
def XmC (zs:List Int) (n:Int):Int:=if n<1 then -1 else idx (fun s=>decide (n≤s)) zs
theorem XjH {n q:Int} (hn:n≤9223372036854775807):0≤XjG n q∧XjG n q≤9223372036854775807:=by
 unfold XjG;split
 ·omega
 ·have a:0≤(n - 1) / q:=Int.ediv_nonneg (by omega) (by omega);have b:(n - 1) / q≤n - 1:=Int.ediv_le_self _ (by omega);omega
theorem Xed (n q:Int) (w:World) (hn:n≤9223372036854775807):Xan Tryz.prog 198 #[.int .i64 n,.int .i64 q] w (Xbp (.int .i64 (XjG n q)) w):=by
 exact ζe Tryz.func198 Tryz.ntmps198 rfl (ζw (XtB n q w hn) rfl (ζr Tryz.func198 rfl ⟨rfl,rfl⟩))
theorem Xeb (n q:Int) (w:World) (hn:n≤9223372036854775807):Xan Tryz.prog 154 #[.int .i64 n,.int .i64 q] w (Xbp (.int .i64 (Xb7 n q)) w):=by
 have f:=XjH (q:=q) hn;refine ζe Tryz.func154 Tryz.ntmps154 rfl (ζw (Xed n q w hn) rfl (ζg rfl (fun a => ?_) fun a => ?_))
 ·have e:Xb7 n q=0:=by unfold Xb7; rw [if_pos (.inl (of_decide_eq_true a))]
  exact ζr Tryz.func154 rfl ⟨XhZ e.symm,rfl⟩
 ·have c:=of_decide_eq_false a;refine ζg rfl (fun b => ?_) fun b => ?_
  ·have e:Xb7 n q=0:=by unfold Xb7; rw [if_pos (.inr (of_decide_eq_true b))]
   exact ζr Tryz.func154 rfl ⟨XhZ e.symm,rfl⟩
  ·have d:=of_decide_eq_false b;have e:Xb7 n q=XjG n q+1:=by unfold Xb7; rw [if_neg (by omega)]
   exact ζj rfl (ζr Tryz.func154 rfl ⟨XhZ e.symm,rfl⟩)
abbrev XhY (w:World) (b:Nat) (n:Int):Prop:=w.heap[b]? = some (.cells ([.int .i64 n]:List Value).toArray 3 (0,0))
theorem XeS (x n:Int) (b:Nat) (w:World) (h:XhY w b n):Xan Tryz.prog 153 #[.int .i64 x,.pointer (some ⟨b,0,none⟩)] w (Xbp (.bool (decide (n≤x))) w):=by
 exact ζe Tryz.func153 Tryz.ntmps153 rfl (ζl h rfl (ζr Tryz.func153 rfl ⟨rfl,rfl⟩))
theorem XeR (a:Option Addr) (cap:Nat) (zs:List Int) (n:Int) (w:World) (hr:Rd .i64 w a zs) (hl:zs.length≤9223372036854775807):Xan Tryz.prog 94 #[.slice a zs.length cap,.int .i64 n] w (Grow (.int .i64 (XmC zs n)) w):=by
 refine ζe Tryz.func94 Tryz.ntmps94 rfl (ζn rfl fun b d e1 f c g=>ζl f rfl (ζg rfl (fun h => ?_) fun h => ?_))
 ·have e:XmC zs n = -1:=by unfold XmC; rw [if_pos (of_decide_eq_true h)]
  exact ζr Tryz.func94 rfl ⟨XhZ e.symm,c⟩
 ·have e:XmC zs n=idx (fun s=>decide (n≤s)) zs:=by unfold XmC; rw [if_neg (of_decide_eq_false h)]
  exact ζw (XqL a cap 153 zs [.pointer (some ⟨b,0,none⟩)] (fun s=>decide (n≤s)) d (hr.chg c) hl (fun x _=>XeS x n b d f)) rfl (ζr Tryz.func94 rfl ⟨XhZ e.symm,c⟩)
def XoV (M:RmM) (k who:Int):Int:=match Xok M k with | none=>1 | some x=>Xp2 x M.pl who
def XoW (M:RmM) (k who:Int):Int:=match Xok M k with | none=>0 | some x=>Xp3 x M.pl who
def XoU (M:RmM) (k who:Int):Int:=match Xok M k with | none=>0 | some x=>Xp1 x M.pl who
def XoT (M:RmM) (k who:Int):RmM:=match Xok M k with | none=>M | some x=>if Xp2 x M.pl who=0 then XoP M k.toNat (Xp0 x M.pl who) (Xp4 x M.pl who) else M
def Xos (M:RmM) (k n i:Int):Int:=match Xok M k with | none=>1 | some x=>XpM x n i
def Xor (M:RmM) (k n i:Int):RmM:=match Xok M k with | none=>M | some x=>if XpM x n i=0 then XoP M k.toNat (XpL x n i) (XpN x M.pl n i) else M
def Xoz (M:RmM) (k n i who:Int):Int:=match Xok M k with | none=>1 | some x=>XpS x n i who
def Xoy (M:RmM) (k n i who:Int):RmM:=match Xok M k with | none=>M | some x=>XoR M k.toNat (XpR x n i who) M.pl
def XoB (M:RmM) (k n i:Int):Int:=match Xok M k with | none => -1 | some x=>XpT x n i
def Xow (M:RmM) (k:Int):Nat:=match Xok M k with | none=>0 | some x=>x.opn.length
def XoL (M:RmM) (k:Int):Bool:=match Xok M k with | none=>false | some x=>XpW x
def XoM (M:RmM) (k:Int):List Value:=match Xok M k with | none=>Xm2 0 0 0 0 | some x=>XpX x
def Xov (c:Conf) (M:RmM) (size:Int):Int:=if XmC c.classes size = -1 then Xb7 size c.size else 1 - min (Xow M (XmC c.classes size):Int) 1
def Xoi (c:Conf) (M:RmM) (size:Int):Int:=if size<1∨c.most<size then 3 else if (M.pl.free.length:Int)<Xov c M size then 5 else 0
structure PlcM where
 cls:Int
 page:Int
 idx:Int
 pages:List Int
def XkA (l:List Nat):List Int:=l.map fun (n:Nat)=>(n:Int)
def XmU (p:PlM) (who:Int):Nat→PlM
 |0=>p
 |i+1=>XmQ (XmU p who i) who
def XmL (p:PlM) (l:List Nat):PlM:=l.foldl (fun q (n:Nat)=>XmI q (n:Int)) p
def Xod (M:RmM) (many:Nat):RmM:={M with pl:=XmU M.pl M.shs.length many,lg:=M.lg ++ [(M.pl.free.getD 0 0,(M.pl.free.take many).tail)],tot:=Xel M.tot (many*4+(many - 1))}
def XoH (c:Conf) (M:RmM) (who size:Int):Int:=if who<0 then 1 else if Xoi c M size≠0 then Xoi c M size else if XmC c.classes size = -1 then 0 else XoV M (XmC c.classes size) who
def XoI (c:Conf) (M:RmM) (who size:Int):PlcM:=if who<0 then ⟨0,0,0,[]⟩ else if Xoi c M size≠0 then ⟨0,0,0,[]⟩ else if XmC c.classes size = -1 then ⟨-1,(M.pl.free.getD 0 0:Nat),0,XkA (M.pl.free.take (Xb7 size c.size).toNat).tail⟩ else ⟨XmC c.classes size,XoW M (XmC c.classes size) who,XoU M (XmC c.classes size) who,[]⟩
def XoG (c:Conf) (M:RmM) (who size:Int):RmM:=if who<0 then M else if Xoi c M size≠0 then M else if XmC c.classes size = -1 then Xod M (Xb7 size c.size).toNat else XoT M (XmC c.classes size) who
def XiK:List (Nat × List Nat)→Int→Option (List Nat)
 |[],_=>none
 |(m,r)::t,n=>if (m:Int)=n then some r else XiK t n
def XiH (l:List (Nat × List Nat)) (n:Nat):List (Nat × List Nat):=l.filter fun e=>e.1 != n
def Xou (M:RmM) (n:Nat) (r:List Nat):RmM:={M with pl:=XmL M.pl (n::r),lg:=XiH M.lg n,tot:=Xel M.tot ((r.length+1:Int)*4+r.length)}
def Xof (M:RmM) (q:PlcM):Int:=if q.cls ≠ -1 then Xos M q.cls q.page q.idx else match XiK M.lg q.page with | none=>1 | some r=>if XkA r=q.pages then 0 else 1
def Xoe (M:RmM) (q:PlcM):RmM:=if q.cls ≠ -1 then Xor M q.cls q.page q.idx else match XiK M.lg q.page with | none=>M | some r=>if XkA r=q.pages then Xou M q.page.toNat r else M
theorem XmT {p:PlM} {who:Int} (hw:0≤who) {n:Nat} {r:List Nat} (hf:p.free=n::r):XmR p who=0∧XmS p who=n∧XmQ p who=p.take who:=by
 have e:XmR p who=0:=by unfold XmR; rw [if_neg (by omega),hf]; rfl
 refine ⟨e,?_,?_⟩
 ·unfold XmS; rw [if_pos e,hf]; rfl
 ·unfold XmQ; rw [if_pos e]
theorem XmW {p:PlM} {who:Int} (hw:0≤who) (hg:p.Good):∀ i,i≤p.free.length→(XmU p who i).Good∧(XmU p who i).free=p.free.drop i∧(XmU p who i).own.length=p.own.length∧Xho (XmU p who i)=Xho p+i ∧ ∀ m,m<p.own.length→(XmU p who i).own.getD m 0=if m ∈ p.free.take i then who else p.own.getD m 0
 |0,_=>⟨hg,by simp [XmU],rfl,rfl,fun m _=>by simp [XmU]⟩
 |i+1,r=>by
  obtain ⟨d,g,j,s,k⟩:=XmW hw hg i (by omega);have b:i<p.free.length:=by omega
  have a:(XmU p who i).free=p.free[i]::p.free.drop (i+1):=by rw [g]; exact List.drop_eq_getElem_cons b
  obtain ⟨_,_,e⟩:=XmT hw a;have e1:XmU p who (i+1)=(XmU p who i).take who:=e;obtain ⟨c,l⟩:=XsS a who;obtain ⟨f,n⟩:=d.free p.free[i] (by rw [a]; exact List.mem_cons_self);have o:=Xmy (v:=who) f;rw [if_pos n,if_neg (by omega)] at o;refine ⟨e1▸d.take hw a,by rw [e1]; exact l,by rw [e1,c,List.length_set]; exact j,?_,fun m hm => ?_⟩
  ·unfold Xho at *; rw [e1,c]; omega
  ·rw [e1,c,XgH,k m hm];have q:p.free.take (i+1)=p.free.take i ++ [p.free[i]]:=by rw [List.take_add_one,List.getElem?_eq_getElem b]; rfl
   rw [q];by_cases e2:p.free[i]=m
   ·subst e2;rw [if_pos ⟨rfl,f⟩,if_pos (List.mem_append.2 (.inr (List.mem_singleton.2 rfl)))]
   ·rw [if_neg (fun h=>e2 h.1)];by_cases e3:m ∈ p.free.take i
    ·rw [if_pos e3,if_pos (List.mem_append.2 (.inl e3))]
    ·rw [if_neg e3,if_neg (by simp only [List.mem_append,List.mem_singleton]; rintro (h | h); exact e3 h; exact e2 h.symm)]
theorem XmV {p:PlM} {who:Int} (hw:0≤who) (hg:p.Good) {i:Nat} (hi:i≤p.free.length) {x:Sm} (hc:0≤x.cls) (hx:x.Of p):x.Of (XmU p who i):=fun e a=>by
 obtain ⟨b,c⟩:=hx e a;obtain ⟨_,_,f,_,d⟩:=XmW hw hg i hi;refine ⟨by omega,?_⟩;rw [d _ b,if_neg (fun hm=>by have:=(hg.free _ (List.mem_of_mem_take hm)).2; omega)];exact c
theorem XmK {p:PlM} {n:Nat} (hn:n<p.own.length) (ho:p.own.getD n 0 ≠ -1):XmJ p n=0∧XmI p n=p.give n:=by
 have a:Xmg p.own n=p.own.getD n 0:=by
  unfold Xmg; rw [if_pos (by omega)]; simp only [Int.toNat_natCast]; rw [List.getD_eq_getElem?_getD,List.getD_eq_getElem?_getD,List.getElem?_eq_getElem hn]; rfl
 have e:XmJ p n=0:=by unfold XmJ; rw [if_neg (by omega),a,if_neg ho]
 exact ⟨e,by unfold XmI; rw [if_pos e]; rfl⟩
theorem XmN:∀ {l:List Nat} {p:PlM},p.Good→l.Nodup→(∀ m ∈ l,m<p.own.length∧p.own.getD m 0 ≠ -1)→(XmL p l).Good∧(XmL p l).own.length=p.own.length∧Xho (XmL p l)+l.length=Xho p ∧ ∀ m,(XmL p l).own.getD m 0=if m ∈ l then -1 else p.own.getD m 0
 |[],p,f,_,_=>⟨f,rfl,rfl,fun m=>by simp [XmL]⟩
 |n::r,p,f,j,h=>by
  obtain ⟨i,k⟩:=List.nodup_cons.1 j;obtain ⟨c,g⟩:=h n (by simp);obtain ⟨_,e⟩:=XmK c g;have e1:XmL p (n::r)=XmL (p.give n) r:=by unfold XmL; rw [List.foldl_cons,e]
  have o:=Xmy (v := -1) c;rw [if_neg g,if_pos rfl] at o;have d:(p.give n).own=p.own.set n (-1):=rfl;obtain ⟨q,s,t,u⟩:=XmN (p:=p.give n) (l:=r) (f.give c g) k (fun m hm=>by
   obtain ⟨a,b⟩:=h m (by simp [hm]);rw [d,List.length_set,XgH,if_neg (fun ⟨e,_⟩=>i (e▸hm))];exact ⟨a,b⟩)
  rw [e1];refine ⟨q,by rw [s,d,List.length_set],by unfold Xho at *; rw [d] at t; simp only [List.length_cons]; omega,fun m => ?_⟩;rw [u,d,XgH];by_cases e2:n=m
  ·subst e2;rw [if_neg i,if_pos ⟨rfl,c⟩,if_pos (by simp)]
  ·by_cases e3:m ∈ r
   ·rw [if_pos e3,if_pos (List.mem_cons_of_mem _ e3)]
   ·rw [if_neg e3,if_neg (fun h=>e2 h.1),if_neg (fun h=>(List.mem_cons.1 h).elim (fun h=>e2 h.symm) e3)]
theorem XmM {p:PlM} (hg:p.Good) {l:List Nat} (hn:l.Nodup) (hl:∀ m ∈ l,m<p.own.length∧p.own.getD m 0 ≠ -1) {x:Sm} (hx:x.Of p) (hd:∀ m ∈ l,p.own.getD m 0≠x.cls):x.Of (XmL p l):=fun e b=>by
 obtain ⟨d,a⟩:=hx e b;obtain ⟨_,f,_,c⟩:=XmN hg hn hl;refine ⟨by omega,?_⟩;rw [c,if_neg (fun hm=>hd _ hm a)];exact a
theorem XiP (l l':List (Nat × List Nat)):XiO (l++l')=XiO l+XiO l':=by unfold XiO; rw [List.map_append,List.sum_append]
theorem XiG (l l':List (Nat × List Nat)):XiF (l++l')=XiF l++XiF l':=by unfold XiF; rw [List.flatMap_append]
theorem RmM.Ok.big {c:Conf} {M:RmM} (h:M.Ok c) (hg:M.pl.Good) {many:Nat} (h1:1≤many) (hm:many≤M.pl.free.length):(Xod M many).Ok c:=by
 obtain ⟨s,t,k,l,n⟩:=XmW (who:=((M.shs.length:Nat):Int)) (by omega) hg many hm;have i:M.pl.free.getD 0 0::(M.pl.free.take many).tail=M.pl.free.take many:=by
  cases o:M.pl.free with
  |nil=>rw [o] at hm; simp at hm; omega
  |cons a r =>
   obtain ⟨m,rfl⟩:∃ m,many=m+1:=⟨many - 1,by omega⟩;rfl
 have eA:XiF (Xod M many).lg=XiF M.lg++M.pl.free.take many:=by
  show XiF (M.lg++_)=_
  rw [XiG];unfold XiF;rw [List.flatMap_cons,List.flatMap_nil,List.append_nil,i]
 have d:∀ m ∈ M.pl.free.take many,m ∈ M.pl.free:=fun m hm=>List.mem_of_mem_take hm;refine ⟨h.n,h.each,by show ((XmU _ _ _).own.length:Int)=_; rw [k]; exact h.own,fun m f => ?_,?_,?_,Xeo h.tot⟩
 ·rw [eA] at f;have j:m<M.pl.own.length:=by
   rcases List.mem_append.1 f with g | g
   ·exact (h.lg m g).1
   ·exact (hg.free m (d m g)).1
  refine ⟨by show m<(XmU _ _ _).own.length; omega,?_⟩;show (XmU _ _ _).own.getD m 0=((M.shs.length:Nat):Int)
  rw [n m j];rcases List.mem_append.1 f with g | g
  ·by_cases e:m ∈ M.pl.free.take many
   ·rw [if_pos e]
   ·rw [if_neg e]; exact (h.lg m g).2
  ·rw [if_pos g]
 ·rw [eA];refine List.nodup_append.2 ⟨h.nd,hg.nodup.sublist (List.take_sublist _ _),fun a p b q e => ?_⟩;subst e;have:=(h.lg a p).2;have:=(hg.free a (d a q)).2;omega
 ·show Xho (XmU _ _ _)=XpP M.shs+XiO (M.lg++_)
  rw [l,XiP,h.sum];have:((M.pl.free.take many).tail.length+1)=many:=by rw [List.length_tail,List.length_take]; omega
  unfold XiO;simp only [List.map_cons,List.map_nil,List.sum_cons,List.sum_nil];omega
theorem XiN:∀ {l:List (Nat × List Nat)} {n:Int} {r:List Nat},XiK l n=some r → ∃ m:Nat,n=m∧(m,r) ∈ l
 |(m,q)::t,n,r,h=>by
  unfold XiK at h;by_cases e:(m:Int)=n
  ·rw [if_pos e] at h; cases h; exact ⟨m,e.symm,by simp⟩
  ·rw [if_neg e] at h;obtain ⟨m',e',hm⟩:=XiN h;exact ⟨m',e',by simp [hm]⟩
theorem XiM:∀ {l:List (Nat × List Nat)} {n:Int},XiK l n=none → ∀ e ∈ l,(e.1:Int)≠n
 |[],_,_,_,he=>by cases he
 |(m,q)::r,n,h,e,he=>by
  unfold XiK at h;by_cases hm:(m:Int)=n
  ·rw [if_pos hm] at h; cases h
  ·rw [if_neg hm] at h;rcases List.mem_cons.1 he with rfl | he
   ·exact hm
   ·exact XiM h e he
theorem XjV {l:List (Nat × List Nat)} {e:Nat × List Nat} (h:e ∈ l) {m:Nat} (hm:m ∈ e.1::e.2):m ∈ XiF l:=List.mem_flatMap.2 ⟨e,h,hm⟩
theorem XiJ:∀ {l:List (Nat × List Nat)} {n:Nat},n ∉ XiF l→XiH l n=l:=fun {l n} h=>by
 unfold XiH;refine List.filter_eq_self.2 fun e a => ?_;simp only [bne_iff_ne,ne_eq];exact fun e'=>h (XjV a (by rw [e']; simp))
theorem XiI:∀ {l:List (Nat × List Nat)} {n:Nat} {r:List Nat},(XiF l).Nodup→(n,r) ∈ l → ∃ a b,l=a++(n,r)::b∧XiH l n=a++b:=fun {l n r} c hm=>by
 obtain ⟨a,b,rfl⟩:=List.append_of_mem hm;refine ⟨a,b,rfl,?_⟩;have e:XiF (a++(n,r)::b)=XiF a++((n::r)++XiF b):=by rw [XiG]; rfl
 rw [e] at c;obtain ⟨k,d,f⟩:=List.nodup_append.1 c;obtain ⟨m,o,g⟩:=List.nodup_append.1 d;have i:n ∉ XiF a:=fun h=>f n h n (by simp) rfl;have j:n ∉ XiF b:=fun h=>g n (by simp) n h rfl;have:XiH (a++(n,r)::b) n=XiH a n++XiH b n:=by unfold XiH; rw [List.filter_append,List.filter_cons]; simp
 rw [this,XiJ i,XiJ j]
theorem RmM.Ok.gone {c:Conf} {M:RmM} (h:M.Ok c) (hg:M.pl.Good) {n:Nat} {r:List Nat} (hm:(n,r) ∈ M.lg):(Xou M n r).Ok c∧(XmL M.pl (n::r)).Good:=by
 obtain ⟨a,b,e1,e2⟩:=XiI h.nd hm;have eA:XiF M.lg=XiF a++((n::r)++XiF b):=by rw [e1,XiG]; rfl
 have f:=h.nd;rw [eA] at f;obtain ⟨p,q,i⟩:=List.nodup_append.1 f;obtain ⟨s,t,u⟩:=List.nodup_append.1 q;obtain ⟨v,w,z,A⟩:=XmN (l:=n::r) hg s (fun m d=>by
  obtain ⟨j,k⟩:=h.lg m (XjV hm d);exact ⟨j,by omega⟩)
 have eB:XiF (XiH M.lg n)=XiF a++XiF b:=by rw [e2,XiG]
 refine ⟨⟨h.n,h.each,by show ((XmL _ _).own.length:Int)=_; rw [w]; exact h.own,fun m d => ?_,?_,?_,Xeo h.tot⟩,v⟩
 ·replace d:m ∈ XiF (XiH M.lg n):=d;rw [eB] at d;have e:m ∈ XiF M.lg:=by
   rw [eA];rcases List.mem_append.1 d with g | g <;> simp [g]
  obtain ⟨j,k⟩:=h.lg m e;refine ⟨by show m<(XmL _ _).own.length; omega,?_⟩;show (XmL _ _).own.getD m 0=((M.shs.length:Nat):Int)
  rw [A,if_neg]
  ·exact k
  ·intro o;rcases List.mem_append.1 d with g | g
   ·exact i m g m (List.mem_append.2 (.inl o)) rfl
   ·exact u m o m g rfl
 ·show (XiF (XiH M.lg n)).Nodup
  rw [eB];exact List.nodup_append.2 ⟨p,t,fun x B y C=>i x B y (List.mem_append.2 (.inr C))⟩
 ·show Xho (XmL _ _)=XpP M.shs+XiO (XiH M.lg n)
  have D:=h.sum;rw [e1,XiP] at D;rw [e2,XiP];have:XiO ((n,r)::b)=(r.length+1)+XiO b:=by unfold XiO; rw [List.map_cons,List.sum_cons]
  simp only [List.length_cons] at z;omega
structure Rm where
 rb:Nat
 c:Conf
 p:Xal
 mo:Option Nat
 P:Pl
 sb:Nat
 sc:Nat
 lm:Nat
 S:Nat→Sh
 lap:Int
 X:Nat→Prop
abbrev rmV (R:Rm):Value := .pointer (some ⟨R.rb,0,none⟩)
def rmL (R:Rm) (n:Nat):List Value:=Xe6 R.c R.p ++ [ptr R.mo,plV R.P,.slice (some ⟨R.sb,0,none⟩) n R.sc,.map (some R.lm)]
def Far (F:Nat→Prop) (w:World) (a:Option Addr) (l:List Int):Prop:=Rd .i64 w a l∧(0<l.length→XaX F a)
theorem Far.chg {F S:Nat→Prop} {w w':World} {a:Option Addr} {l:List Int} (h:Far F w a l) (hc:Chg S w w') (hS:∀ z,S z→F z):Far F w' a l:=by
 refine ⟨?_,h.2⟩;by_cases b:0<l.length
 ·exact h.1.far ((h.2 b).mono hS) hc
 ·have:l = []:=List.eq_nil_of_length_eq_zero (by omega);subst this;exact Rd.nil _ _ _
theorem Rd.block {k:IntKind} {w:World} {a:Option Addr} {l:List Int} (h:Rd k w a l) (hl:0<l.length) {b off:Nat} {s} (e:a=some ⟨b,off,s⟩):b<w.heap.size:=by
 obtain ⟨b',off',e',c⟩:=h 0 hl;rw [e] at e'; cases e';exact World.block_lt_of_cell? w _ c
theorem Far.grow {F F':Nat→Prop} {w:World} {a:Option Addr} {l:List Int} (h:Far F w a l) (hF:∀ z,F' z→F z∨w.heap.size≤z):Far F' w a l :=
 ⟨h.1,fun c b off s e hz=>by
  rcases hF b hz with hz | hz
  ·exact h.2 c b off s e hz
  ·have:=h.1.block c e; omega⟩
theorem Xh6 {S:Nat→Prop} {w w':World} {b:Nat} {x:Option Nat} (hc:Chg S w w') (h:kd w b=some x) (hS:¬ S b):kd w' b=some x:=by
 have a:=Xh8 h;unfold kd at *;rw [hc.block b a hS];exact h
def XaP (F:Nat→Prop) (w:World) (a:Option Addr):Prop := ∀ b off s,a=some ⟨b,off,s⟩→kd w b=some (some 3) ∧ ¬ F b
theorem XaP.chg {F S:Nat→Prop} {w w':World} {a:Option Addr} (h:XaP F w a) (hc:Chg S w w') (hS:∀ b,kd w b=some (some 3)→S b→F b):XaP F w' a:=fun b off s e =>
 ⟨Xh6 hc (h b off s e).1 (fun c=>(h b off s e).2 (hS b (h b off s e).1 c)),(h b off s e).2⟩
def XaI (F:Nat→Prop) (w:World) (lm:Nat) (lg:List (Nat × List Nat)):Prop := ∃ m,XaL w lm m∧(Xb2 m).Nodup∧(∀ e ∈ lg,∃ a cap,Xcc m e.1=some (.slice a e.2.length cap)∧Rd .i64 w a (XkA e.2)∧XaP F w a) ∧ ∀ k:Int,(∀ e ∈ lg,(e.1:Int)≠k)→Xcc m k=none
theorem XaI.chg {F S:Nat→Prop} {w w':World} {lm:Nat} {lg:List (Nat × List Nat)} (h:XaI F w lm lg) (hc:Chg S w w') (hS:∀ b,kd w b=some (some 3)→S b→F b) (hl:¬ S lm):XaI F w' lm lg:=by
 obtain ⟨m,d,f,g,i⟩:=h;exact ⟨m,d.chg hc hl,f,fun e j=>by obtain ⟨a,cap,k,l,c⟩:=g e j; exact ⟨a,cap,k,l.far (fun b off s e n=>(c b off s e).2 (hS b (c b off s e).1 n)) hc,c.chg hc hS⟩,i⟩
theorem XaI.grow {F F':Nat→Prop} {w:World} {lm:Nat} {lg:List (Nat × List Nat)} (h:XaI F w lm lg) (hF:∀ z,F' z→F z∨w.heap.size≤z):XaI F' w lm lg:=by
 obtain ⟨m,d,f,g,i⟩:=h;exact ⟨m,d,f,fun e j=>by
  obtain ⟨a,cap,k,l,c⟩:=g e j;exact ⟨a,cap,k,l,fun b off s e=>⟨(c b off s e).1,fun n=>(hF b n).elim (c b off s e).2 (fun h=>by have:=Xh8 (c b off s e).1; omega)⟩⟩,i⟩
def Xbu (F:Nat→Prop) (w:World) (R:Rm) (shs:List Sm) (pl:PlM):Prop := ∃ G:Nat→Nat→Pg,
 (∀ k x,shs[k]? = some x→(R.S k).P=R.P∧Xbs w (R.S k) (G k) x pl ∧ ∀ z,XpK (R.S k) (G k) x.pg z→F z∧z≠R.lm) ∧
 ∀ j k x y,j≠k→shs[j]? = some x→shs[k]? = some y → ∀ z,XpK (R.S j) (G j) x.pg z → ¬ XpK (R.S k) (G k) y.pg z
def Rm.FX (R:Rm) (F:Nat→Prop):Nat→Prop:=fun z=>F z∨R.X z
structure Xbe (F:Nat→Prop) (w:World) (R:Rm) (M:RmM):Prop where
 ok:M.Ok R.c
 obj:w.heap[R.rb]? = some (.cells (rmL R M.shs.length).toArray 206 (0,0))
 cls:Far F w R.p.ca R.c.classes
 kee:Far F w R.p.ka R.c.keep
 may:XjN R.c=true
 met:∀ b,R.mo=some b→F b∧XaO w b M.tot R.lap
 sl:∀ k,k<M.shs.length→w.cell? ⟨R.sb,k,none⟩=some (sfV (R.S k))
 pool:Xa5 w R.P M.pl
 pf:∀ z,XmH R.P z→F z
 sh:Xbu F w R M.shs M.pl
 lg:XaI (R.FX F) w R.lm M.lg
 lf:F R.lm
 rf:¬ F R.rb
 sf:¬ F R.sb
 low:∀ z,F z→z<w.heap.size
 tab:XbA w
 tf:¬ F 1
 xl:∀ z,R.X z→z<w.heap.size ∧ ¬ F z
theorem Xbe.conf {F:Nat→Prop} {w:World} {R:Rm} {M:RmM} (h:Xbe F w R M):Xam w R.c R.p:=by
 have hm:=h.may;unfold XjN at hm;simp only [Bool.and_eq_true,decide_eq_true_eq] at hm;obtain ⟨⟨⟨⟨⟨⟨⟨a,c⟩,b⟩,d,_⟩,_⟩,_⟩,_⟩,_⟩:=hm;have e:=XeP b;have:=Xqz.1 a;exact ⟨h.cls.1,h.kee.1,by omega,by omega,by unfold XaC; omega⟩
def Xbf (F:Nat→Prop) (w w':World) (R:Rm) (M:RmM):Prop := ∃ F',Xbe F' w' R M∧(∀ z,F' z→F z∨w.heap.size≤z)∧Chg F w w'
theorem Xbf.of {F:Nat→Prop} {w w':World} {R:Rm} {M:RmM} (h:Xbe F w' R M) (hc:Chg F w w'):Xbf F w w' R M:=⟨F,h,fun _ h => .inl h,hc⟩
theorem Xbf.trans {F:Nat→Prop} {w w1 w2:World} {R:Rm} {M:RmM} {F1:Nat→Prop} (hF:∀ z,F1 z→F z∨w.heap.size≤z) (hc:Chg F w w1) (h:Xbf F1 w1 w2 R M):Xbf F w w2 R M:=by
 obtain ⟨e,a,b,c⟩:=h;refine ⟨e,a,fun z d => ?_,hc.since c fun z d f => ?_⟩
 ·rcases b z d with h | h
  ·exact hF z h
  ·have:=hc.size; exact .inr (by omega)
 ·rcases hF z f with h | h
  ·exact h
  ·omega
section
variable {F:Nat→Prop} {w w':World} {R:Rm} {M:RmM}
theorem Xbu.grow {shs:List Sm} {pl:PlM} (h:Xbu F w R shs pl) (hc:Chg XaW w w'):Xbu F w' R shs pl:=by
 obtain ⟨G,a,b⟩:=h;exact ⟨G,fun k x c=>by obtain ⟨d,e,f⟩:=a k x c; exact ⟨d,e.grow hc,f⟩,b⟩
theorem Xbe.grow (h:Xbe F w R M) (hc:Chg XaW w w'):Xbe F w' R M :=
 ⟨h.ok,hc.heap' h.obj,h.cls.chg hc (fun _ h=>h.elim),h.kee.chg hc (fun _ h=>h.elim),h.may,fun b c=>by obtain ⟨d,e⟩:=h.met b c; exact ⟨d,e.chg hc⟩,
  fun k f=>hc.cell (h.sl k f) id,h.pool.grow hc,h.pf,h.sh.grow hc,h.lg.chg hc (fun _ _ h=>h.elim) id,h.lf,h.rf,h.sf,fun z a=>by have:=h.low z a; have:=hc.size; omega,h.tab.grow hc,h.tf,fun z a=>⟨by have:=(h.xl z a).1; have:=hc.size; omega,(h.xl z a).2⟩⟩
theorem Xia {b:Nat} {t l:Int} (h:XaO w b t l):kd w b=some (some 197):=Xh5 h.1
theorem Xh7 {F:Nat→Prop} {lm:Nat} {lg:List (Nat × List Nat)} (h:XaI F w lm lg):kd w lm=some none:=by
 obtain ⟨m,hm,_⟩:=h;exact Xh9 hm
theorem Xbe.charge (h:Xbe F w R M) {b:Nat} (hb:R.mo=some b) {t:Int} (hm:XaO w' b t R.lap) (hc:Chg (fun z=>z=b) w w'):Xbe F w' R {M with tot:=t}:=by
 obtain ⟨m,o⟩:=h.met b hb;have kb:=Xia o;have f:∀ z,z=b→F z:=fun z e=>e▸m;have kp:=h.pool.kds;have i:=Xib kp.1 kb (by decide);have j:=Xib kp.2 kb (by decide);have p:=Xib (Xh7 h.lg) kb (by simp);have q:1≠b:=fun e=>h.tf (e▸m);refine ⟨{h.ok with tot:=by have:=hm.2; show 0≤t∧t≤4611686018427387904; omega},hc.heap h.obj (fun e=>h.rf (f _ e)),h.cls.chg hc f,h.kee.chg hc f,h.may,fun b' l => ?_,fun k r=>hc.cell (h.sl k r) (fun e=>h.sf (f _ e)),h.pool.chg hc i j,h.pf,?_,h.lg.chg hc (fun z _ h => .inl (f z h)) p,h.lf,h.rf,h.sf,fun z g=>by have:=h.low z g; have:=hc.size; omega,h.tab.chg hc q,h.tf,fun z g=>⟨by have:=(h.xl z g).1; have:=hc.size; omega,(h.xl z g).2⟩⟩
 ·rw [hb] at l; cases l; exact ⟨m,hm⟩
 ·obtain ⟨G,a,d⟩:=h.sh;refine ⟨G,fun k x s => ?_,d⟩;obtain ⟨n,c,u⟩:=a k x s;have ap:=c.at'.apart kb (by decide);exact ⟨n,⟨c.ok,c.pos,c.of,c.at'.chg hc (fun z e=>e▸ap.1) (fun z e=>e▸ap.2) q,c.pool.chg hc (by rw [n]; exact i) (by rw [n]; exact j)⟩,u⟩
theorem Xbs.beside {S S':Sh} {G G':Nat→Pg} {x x':Sm} {pl pl':PlM} (h:Xbs w S G x pl) (h':Xbs w S' G' x' pl) (hd:∀ z,XpK S' G' x'.pg z → ¬ XpK S G x.pg z) (hc:Chg (Xb6 S' G' x'.pg) w w') (hP:S.P=S'.P) (hp:Xa5 w' S'.P pl') (hof:x.Of pl'):Xbs w' S G x pl':=by
 have k':=h'.at'.kds;have k:=h.at'.kds;obtain ⟨d,f⟩:=h'.pool.kds;have kx:∀ {z:Nat},Xb6 S' G' x'.pg z→kd w z≠some (some 329)∧kd w z≠some (some 325):=fun {z} a=>by
  rcases a with (e | e | (e | e) | ⟨e,b,e1 | e1⟩) | e | e
  ·subst e; rw [k'.sb]; exact ⟨by decide,by decide⟩
  ·subst e; rw [k'.sm]; exact ⟨by simp,by simp⟩
  ·subst e; rw [k'.ab]; exact ⟨by decide,by decide⟩
  ·subst e; rw [k'.nb]; exact ⟨by decide,by decide⟩
  ·subst e1; rw [(h'.at'.pages e b).kds.bb]; exact ⟨by decide,by decide⟩
  ·subst e1; rw [(h'.at'.pages e b).kds.mb]; exact ⟨by simp,by simp⟩
  ·subst e; rw [d]; exact ⟨by decide,by decide⟩
  ·subst e; rw [f]; exact ⟨by decide,by decide⟩
 have out:∀ z,XpK S G x.pg z → ¬ Xb6 S' G' x'.pg z:=fun z a hz'=>by
  rcases hz' with hz' | hz'
  ·exact hd z hz' a
  ·have c:=hz';have n:=h.at'.notpool (hP▸h'.pool);rw [hP] at n;rcases c with e | e
   ·subst e; exact n.1 a
   ·subst e; exact n.2 a
 refine ⟨h.ok,h.pos,hof,h.at'.chg hc (fun z a=>⟨fun e=>out z (.inl e) a,fun e=>out z (.inr (.inl e)) a,fun e=>(kx a).1 (e▸k.lb),fun e=>out z (.inr (.inr (.inl e))) a⟩) (fun z a e b=>⟨fun e'=>(kx a).2 (e'▸(h.at'.pages e b).kds.p),fun e'=>out z (.inr (.inr (.inr ⟨e,b,e'⟩))) a⟩) ?_,hP▸hp⟩;rintro (e | e)
 ·rcases e with e | e | e | ⟨e,b,e1⟩
  ·exact XsJ h'.at'.tab (fun v e2=>by rw [Xd7 h'.at'.obj] at e2; simp [shL] at e2) e
  ·obtain ⟨m,hm,_⟩:=h'.at'.map;exact XsI hm h'.at'.tab e
  ·exact XsM h'.at'.ring h'.at'.tab e
  ·exact XsK (h'.at'.pages e b) e1
 ·exact XsL h'.at'.tab h'.pool e
theorem Xbe.shelf (h:Xbe F w R M) {k:Nat} {x:Sm} (hx:M.shs[k]? = some x):∃ Gk,(R.S k).P=R.P∧Xbs w (R.S k) Gk x M.pl∧(∀ z,Xb6 (R.S k) Gk x.pg z→F z) ∧ ∀ w' G' x' pl',Xbs w' (R.S k) G' x' pl'→Chg (Xb6 (R.S k) Gk x.pg) w w' →
 (∀ z,XpK (R.S k) G' x'.pg z→XpK (R.S k) Gk x.pg z∨w.heap.size≤z)→Eff M.pl pl' x.cls→x'.cls=x.cls→x'.blocks=x.blocks→Xho pl'+x.pg.length=Xho M.pl+x'.pg.length→Xbf F w w' R (XoR M k x' pl'):=by
 obtain ⟨G,a,d⟩:=h.sh;obtain ⟨s,t,v⟩:=a k x hx;have p:=(List.getElem?_eq_some_iff.1 hx).1;have f:∀ z,Xb6 (R.S k) (G k) x.pg z→F z:=fun z hz=>by
  rcases hz with hz | hz
  ·exact (v z hz).1
  ·exact h.pf z (s▸hz)
 refine ⟨G k,s,t,f,fun w' G' x' pl' o m A H I J T => ?_⟩;have D:=o.foot_lt
 let F':Nat→Prop:=fun z=>F z∨(w.heap.size≤z∧XpK (R.S k) G' x'.pg z)
 have q:∀ z,F' z→F z∨w.heap.size≤z:=fun z hz=>hz.imp id (·.1);have K:¬ Xb6 (R.S k) (G k) x.pg R.lm:=by
  rintro (hz | hz)
  ·exact (v _ hz).2 rfl
  ·have kl:=Xh7 h.lg;have kp:=t.pool.kds;rcases hz with e | e
   ·exact Xib kl kp.1 (by simp) e
   ·exact Xib kl kp.2 (by simp) e
 have S:=h.low _ h.lf;have n:∀ (b:Nat),b<w.heap.size → ¬ F b → ¬ F' b:=fun b L U hz=>by
  rcases hz with hz | ⟨hz,_⟩
  ·exact U hz
  ·omega
 have B:=World.block_lt_of_cell? w _ (h.sl k p);have E:=World.block_lt_of_cell? w _ (h.tab 0 (by decide));refine ⟨F',⟨h.ok.set h.pool.good hx H I J T,?_,(h.cls.grow q).chg m (fun z hz => .inl (f z hz)),(h.kee.grow q).chg m (fun z hz => .inl (f z hz)),h.may,fun b L => ?_,fun j C => ?_,s▸o.pool,fun z hz => .inl (h.pf z hz),⟨fun j=>if j=k then G' else G j,fun j y c => ?_,fun i j y y' r c l z hz => ?_⟩,(h.lg.grow (F':=R.FX F') (fun z hz=>hz.elim (fun h=>(q z h).imp .inl id) (fun h => .inl (.inr h)))).chg m (fun z _ hz => .inl (.inl (f z hz))) K,.inl h.lf,n _ (Xjs h.obj) h.rf,n _ B h.sf,fun z hz => ?_,o.at'.tab,n _ E h.tf,fun z hz=>⟨by have:=(h.xl z hz).1; have:=m.size; omega,n z (h.xl z hz).1 (h.xl z hz).2⟩⟩,q,m.mono fun z _ hz=>f z hz⟩
 ·show w'.heap[R.rb]? = some (.cells (rmL R (M.shs.set k x').length).toArray _ _)
  rw [List.length_set];exact m.heap h.obj (fun hz=>h.rf (f _ hz))
 ·obtain ⟨N,hm⟩:=h.met b L;have kb:=Xia hm;have kp:=t.pool.kds;have ap:=t.at'.apart kb (by decide);refine ⟨.inl N,m.heap hm.1 ?_,hm.2⟩;rintro ((e | e | e | ⟨e,V,e1⟩) | e | e)
  ·exact ap.1.1 e
  ·exact ap.1.2.1 e
  ·exact ap.1.2.2.2 e
  ·exact (ap.2 e V).2 e1
  ·exact Xib kb kp.1 (by decide) e
  ·exact Xib kb kp.2 (by decide) e
 ·exact m.cell (h.sl j (by replace C:j<(M.shs.set k x').length:=C; rw [List.length_set] at C; exact C)) (fun hz=>h.sf (f _ hz))
 ·replace c:(M.shs.set k x')[j]? = some y:=c;by_cases e:j=k
  ·subst e;rw [List.getElem?_set_self p] at c; cases c;simp only [if_true];refine ⟨s,o,fun z hz => ?_⟩;rcases A z hz with g | g
   ·exact ⟨.inl (v z g).1,(v z g).2⟩
   ·exact ⟨.inr ⟨g,hz⟩,by omega⟩
  ·rw [List.getElem?_set_ne (Ne.symm e)] at c;simp only [if_neg e];obtain ⟨O,P,Q⟩:=a j y c;obtain ⟨c1,_⟩:=h.ok.each j y c;obtain ⟨c2,_⟩:=h.ok.each k x hx;exact ⟨O,P.beside t (fun z o A=>d j k y x e c hx z A o) m (O.trans s.symm) o.pool (H.of h.pool.good P.of (by omega) (by omega)),fun z hz=>⟨.inl (Q z hz).1,(Q z hz).2⟩⟩
 ·replace c:(M.shs.set k x')[i]? = some y:=c;replace l:(M.shs.set k x')[j]? = some y':=l;have old:∀ {i:Nat} {y:Sm},i≠k→M.shs[i]? = some y → ∀ {z:Nat},XpK (R.S i) (G i) y.pg z → ¬ XpK (R.S k) G' x'.pg z:=fun {i y} W c {z} hz u=>by
   rcases A z u with g | g
   ·exact d i k y x W c hx z hz g
   ·have:=h.low z ((a i y c).2.2 z hz).1; omega
  by_cases e:i=k
  ·subst e;rw [List.getElem?_set_self p] at c; cases c;rw [List.getElem?_set_ne r] at l;simp only [if_true] at hz;simp only [if_neg (Ne.symm r)];exact fun u=>old (Ne.symm r) l u hz
  ·rw [List.getElem?_set_ne (Ne.symm e)] at c;simp only [if_neg e] at hz;by_cases e':j=k
   ·subst e';rw [List.getElem?_set_self p] at l; cases l;simp only [if_true];exact old e c hz
   ·rw [List.getElem?_set_ne (Ne.symm e')] at l;simp only [if_neg e'];exact d i j y y' r c l z hz
 ·rcases hz with hz | ⟨_,hz⟩
  ·have:=h.low z hz; have:=m.size; omega
  ·exact D z (.inl hz)
theorem Xbs.swap {S:Sh} {G:Nat→Pg} {x:Sm} {pl pl':PlM} {lm:Nat} (h:Xbs w S G x pl) (hlm:kd w lm=some none) (hnl:¬ XpK S G x.pg lm) (hc:Chg (fun z=>XmH S.P z∨z=lm) w w') (hp:Xa5 w' S.P pl') (hof:x.Of pl') (ht:1≠lm):Xbs w' S G x pl':=by
 obtain ⟨f,g⟩:=h.pool.kds;have c:=h.at'.apart f (by decide);have d:=h.at'.apart g (by decide);have k:=h.at'.kds;refine ⟨h.ok,h.pos,hof,h.at'.chg hc (fun z b => ?_) (fun z b e a => ?_) ?_,hp⟩
 ·rcases b with (e | e) | e
  ·exact e▸c.1
  ·exact e▸d.1
  ·subst e;exact ⟨fun e=>hnl (.inl e),fun e=>hnl (.inr (.inl e)),Xib hlm k.lb (by simp),fun e=>hnl (.inr (.inr (.inl e)))⟩
 ·rcases b with (e1 | e1) | e1
  ·exact e1▸c.2 e a
  ·exact e1▸d.2 e a
  ·subst e1;exact ⟨Xib hlm (h.at'.pages e a).kds.p (by simp),fun e'=>hnl (.inr (.inr (.inr ⟨e,a,e'⟩)))⟩
 ·rintro (e | e)
  ·exact XsL h.at'.tab h.pool e
  ·exact ht e
theorem Xbe.swap (h:Xbe F w R M) {pl':PlM} {lg':List (Nat × List Nat)} (hok:RmM.Ok R.c {M with pl:=pl',lg:=lg'}) (hc:Chg (fun z=>XmH R.P z∨z=R.lm) w w') (hp:Xa5 w' R.P pl') (hl:XaI (R.FX F) w' R.lm lg') (hof:∀ (k:Nat) (x:Sm),M.shs[k]? = some x→x.Of M.pl→x.Of pl'):Xbe F w' R {M with pl:=pl',lg:=lg'}:=by
 have f:∀ z,(XmH R.P z∨z=R.lm)→F z:=fun z c=>c.elim (h.pf z) (fun e=>e▸h.lf);have kl:=Xh7 h.lg;have kp:=h.pool.kds;refine ⟨hok,hc.heap h.obj (fun c=>h.rf (f _ c)),h.cls.chg hc f,h.kee.chg hc f,h.may,fun b m => ?_,fun k n=>hc.cell (h.sl k n) (fun c=>h.sf (f _ c)),hp,h.pf,?_,hl,h.lf,h.rf,h.sf,fun z c=>by have:=h.low z c; have:=hc.size; omega,h.tab.chg hc (fun c=>h.tf (f _ c)),h.tf,fun z c=>⟨by have:=(h.xl z c).1; have:=hc.size; omega,(h.xl z c).2⟩⟩
 ·obtain ⟨g,hm⟩:=h.met b m;have kb:=Xia hm;refine ⟨g,hc.heap hm.1 ?_,hm.2⟩;rintro ((e | e) | e)
  ·exact Xib kb kp.1 (by decide) e
  ·exact Xib kb kp.2 (by decide) e
  ·exact Xib kb kl (by simp) e
 ·obtain ⟨G,a,d⟩:=h.sh;refine ⟨G,fun k x i => ?_,d⟩;obtain ⟨g,j,l⟩:=a k x i;exact ⟨g,j.swap kl (fun c=>(l _ c).2 rfl) (by rw [g]; exact hc) (by rw [g]; exact hp) (hof k x i j.of) (fun e=>h.tf (e▸h.lf)),l⟩
theorem Xbe.note {F0:Nat→Prop} {w0:World} {M0:RmM} (h0:Xbe F0 w0 R M0) (h:Xbe F w R M) {eb:Nat} {t:Nat} (hk:kd w eb=some (some t)) (hnew:w0.heap.size≤eb) (hF:¬ F eb) (hc:Chg (fun z=>z=eb) w w')
 (ht:t≠197∧t≠262∧t≠319∧t≠3∧t≠272∧t≠329∧t≠334∧t≠336∧t≠325∧t≠366):Xbe F w' R M:=by
 have d:∀ {t':Nat},t≠t'→some (some t)≠some (some t'):=fun h e=>h (Option.some.inj (Option.some.inj e));have n:0<M0.shs.length:=by
  have hm:=h0.may;unfold XjN at hm;simp only [Bool.and_eq_true,decide_eq_true_eq] at hm;have:=XeP hm.1.1.1.1.1.2;have:=h0.ok.n;omega
 have o:R.rb≠eb:=by have:=Xjs h0.obj; omega
 have p:R.sb≠eb:=by have:=World.block_lt_of_cell? w0 _ (h0.sl 0 n); simp only at this; omega
 have m:1≠eb:=by have:=World.block_lt_of_cell? w0 _ (h0.tab 0 (by decide)); simp only at this; omega
 have j:∀ {a:Option Addr} {l:List Int},Far F0 w0 a l→Far F w a l→Far F w' a l:=fun {a l} y g=>by
  refine ⟨?_,g.2⟩;by_cases A:0<l.length
  ·exact g.1.far (fun b off s e q=>by have:=y.1.block A e; omega) hc
  ·have:l = []:=List.eq_nil_of_length_eq_zero (by omega);subst this;exact Rd.nil _ _ _
 have kp:=h.pool.kds;have r:=Xib kp.1 hk (Ne.symm (d ht.2.1));have u:=Xib kp.2 hk (Ne.symm (d ht.2.2.1));refine ⟨h.ok,hc.heap h.obj o,j h0.cls h.cls,j h0.kee h.kee,h.may,fun b q => ?_,fun k v=>hc.cell (h.sl k v) p,h.pool.chg hc r u,h.pf,?_,h.lg.chg hc (fun z c e=>absurd (c.symm.trans (e▸hk)) (Ne.symm (d ht.2.2.2.1))) (Xib (Xh7 h.lg) hk (by simp)),h.lf,h.rf,h.sf,fun z c=>by have:=h.low z c; have:=hc.size; omega,h.tab.chg hc m,h.tf,fun z c=>⟨by have:=(h.xl z c).1; have:=hc.size; omega,(h.xl z c).2⟩⟩
 ·obtain ⟨f,hm⟩:=h.met b q;exact ⟨f,hc.heap hm.1 (fun e=>hF (e▸f)),hm.2⟩
 ·obtain ⟨G,a,e⟩:=h.sh;refine ⟨G,fun k x B => ?_,e⟩;obtain ⟨f,i,C⟩:=a k x B;have ap:=i.at'.apart hk ht.2.2.2.2;exact ⟨f,⟨i.ok,i.pos,i.of,i.at'.chg hc (fun z e=>e▸ap.1) (fun z e=>e▸ap.2) m,i.pool.chg hc (by rw [f]; exact r) (by rw [f]; exact u)⟩,C⟩
theorem Xpc (h:Xbe F w R M) (n:Int):Xan Tryz.prog 146 #[ptr R.mo,.int .i64 n] w (fun _ w'=>Xbe F w' R {M with tot:=Xel M.tot n}∧Chg F w w'):=by
 cases hm:R.mo with
 |none =>
  refine (Xj0 n w).mono fun _ w' e => ?_;subst e;have d:=Xeo (n:=n) h.ok.tot;exact ⟨{h with ok:={h.ok with tot:=d},met:=fun b a=>by rw [hm] at a; cases a},Chg.refl _ _⟩
 |some b =>
  obtain ⟨f,a⟩:=h.met b hm;exact (XjZ b M.tot R.lap n w a).mono fun _ w' ⟨g,c⟩=>⟨h.charge hm g c,c.mono fun z _ e=>e▸f⟩
end
def rsV (R:Rm) (M:RmM) (k:Int):Value:=match Xok M k with | none => .pointer none | some _=>sfV (R.S k.toNat)
theorem Xoq {M:RmM} {k:Int} {x:Sm} (h:Xok M k=some x):∃ n:Nat,k=n∧n<M.shs.length∧M.shs[n]? = some x:=by
 unfold Xok at h;by_cases a:0≤k
 ·rw [if_pos a] at h;exact ⟨k.toNat,by omega,(List.getElem?_eq_some_iff.1 h).1,h⟩
 ·rw [if_neg a] at h; cases h
theorem Xon {M:RmM} {k:Int} (h:k<0∨(M.shs.length:Int)≤k):Xok M k=none:=by
 unfold Xok;by_cases a:0≤k
 ·rw [if_pos a,List.getElem?_eq_none (by omega)]
 ·rw [if_neg a]
theorem Xol {M:RmM} {k:Nat} (h:k<M.shs.length):Xok M k=some M.shs[k]:=by
 unfold Xok;rw [if_pos (by omega)];exact List.getElem?_eq_getElem h
theorem Xpe {F:Nat→Prop} {w:World} {R:Rm} {M:RmM} (h:Xbe F w R M) (k:Int):Xan Tryz.prog 219 #[rmV R,.int .i64 k] w (Xbp (rsV R M k) w):=by
 have g:=h.ok.n;refine ζe Tryz.func219 Tryz.ntmps219 rfl (ζg rfl (fun a => ?_) fun a => ?_)
 ·have e:rsV R M k = .pointer none:=by unfold rsV; rw [Xon (.inl (of_decide_eq_true a))]
  rw [e];exact ζa rfl (ζr Tryz.func219 rfl ⟨rfl,rfl⟩)
 ·have d:=of_decide_eq_false a;refine ζl h.obj rfl (ζg rfl (fun b => ?_) fun b => ?_)
  ·have e:rsV R M k = .pointer none:=by unfold rsV; rw [Xon (.inr (of_decide_eq_true b))]
   rw [e];exact ζr Tryz.func219 rfl ⟨rfl,rfl⟩
  ·have f:=of_decide_eq_false b;obtain ⟨n,rfl⟩:=Int.eq_ofNat_of_zero_le (show 0≤k by omega);have c:n<M.shs.length:=by omega
   have e:rsV R M n=sfV (R.S n):=by unfold rsV; rw [Xol c]; rfl
   rw [e];exact ζl h.obj rfl (ζi n rfl (ζk rfl (show w.cell? ⟨R.sb,0+n,none⟩=_ from by rw [Nat.zero_add]; exact h.sl n c) rfl (ζr Tryz.func219 rfl ⟨rfl,rfl⟩)))
theorem Xo2 {F:Nat→Prop} {w:World} {R:Rm} {M:RmM} (h:Xbe F w R M):Xan Tryz.prog 92 #[rmV R] w (Xbp (.int .i64 (Xho M.pl:Nat)) w):=by
 exact ζe Tryz.func92 Tryz.ntmps92 rfl (ζl h.obj rfl (ζw (Xnb R.P M.pl w h.pool) rfl (ζr Tryz.func92 rfl ⟨rfl,rfl⟩)))
theorem Xo6 {F:Nat→Prop} {w:World} {R:Rm} {M:RmM} (h:Xbe F w R M) (k n i:Int):Xan Tryz.prog 203 #[rmV R,.int .i64 k,.int .i64 n,.int .i64 i] w (Xbp (.int .i64 (XoB M k n i)) w):=by
 refine ζe Tryz.func203 Tryz.ntmps203 rfl (ζw (Xpe h k) rfl ?_);unfold rsV XoB;cases a:Xok M k with
 |none =>
  exact ζw (Xqg n i w) rfl (ζr Tryz.func203 rfl ⟨rfl,rfl⟩)
 |some x =>
  obtain ⟨j,rfl,d,b⟩:=Xoq a;obtain ⟨G,_,c,_⟩:=h.shelf b;exact ζw (Xqf (R.S j) G x M.pl n i w c) rfl (ζr Tryz.func203 rfl ⟨rfl,rfl⟩)
theorem Xpa {F:Nat→Prop} {w:World} {R:Rm} {M:RmM} (h:Xbe F w R M) (k r:Int) (fk:Nat) (hf:Xan Tryz.prog fk #[rsV R M k] w (Xbp (.int .i64 r) w)):Xan Tryz.prog 209 #[rmV R,.int .i64 k,.func (.func fk) #[] #[]] w (Xbp (.int .i64 r) w):=by
 exact ζe Tryz.func209 Tryz.ntmps209 rfl (ζw (Xpe h k) rfl (ζw hf rfl (ζr Tryz.func209 rfl ⟨rfl,rfl⟩)))
theorem Xo4 {F:Nat→Prop} {w:World} {R:Rm} {M:RmM} (h:Xbe F w R M) (k:Int):Xan Tryz.prog 136 #[rmV R,.int .i64 k] w (Xbp (.int .i64 (Xow M k:Nat)) w):=by
 have a:Xan Tryz.prog 210 #[rsV R M k] w (Xbp (.int .i64 (Xow M k:Nat)) w):=by
  unfold rsV Xow;cases b:Xok M k with
  |none=>exact Xqc w
  |some x =>
   obtain ⟨j,rfl,e,c⟩:=Xoq b;obtain ⟨G,_,d,_⟩:=h.shelf c;exact Xqb (R.S j) G x M.pl w d
 exact ζe Tryz.func136 Tryz.ntmps136 rfl (ζw (Xpa h k (Xow M k:Nat) 210 a) rfl (ζr Tryz.func136 rfl ⟨rfl,rfl⟩))
theorem Xo5 {F:Nat→Prop} {w:World} {R:Rm} {M:RmM} (h:Xbe F w R M) (k n i who:Int):Xan Tryz.prog 157 #[rmV R,.int .i64 k,.int .i64 n,.int .i64 i,.int .i64 who] w
 (fun v w'=>v = .int .i64 (Xoz M k n i who)∧Xbf F w w' R (Xoy M k n i who)):=by
 refine ζe Tryz.func157 Tryz.ntmps157 rfl (ζw (Xpe h k) rfl ?_);unfold rsV Xoz Xoy;cases d:Xok M k with
 |none =>
  exact ζw (Xqe n i who w) rfl (ζr Tryz.func157 rfl ⟨rfl,.of h (Chg.refl _ _)⟩)
 |some x =>
  obtain ⟨j,rfl,o,e⟩:=Xoq d;obtain ⟨G,_,f,_,a⟩:=h.shelf e;refine ζc rfl (Xqd (R.S j) G x M.pl n i who w f) ?_;rintro _ g ⟨rfl,l,b,c⟩;refine ζa rfl ?_;obtain ⟨e1,e2,e3,e4⟩:=Xlr x M.pl n i who;exact ζr Tryz.func157 rfl ⟨rfl,a g G (XpR x n i who) M.pl l b (fun z m => .inl (c z m)) e1 e2 e3 e4⟩
theorem Xo8 {F:Nat→Prop} {w:World} {R:Rm} {M:RmM} (h:Xbe F w R M) (k:Int):Xan Tryz.prog 202 #[rmV R,.int .i64 k] w (Grow (.tuple #[.agg (XoM M k).toArray,.bool (XoL M k)]) w):=by
 refine ζe Tryz.func202 Tryz.ntmps202 rfl (ζn rfl fun b m e1 n g B => ?_);have o:=h.grow g;refine ζw (Xpe o k) rfl ?_;unfold rsV XoM XoL;cases r:Xok M k with
 |none =>
  exact ζv (Xqi m) rfl fun s f=>ζs (f.heap' n) rfl fun t i l p=>ζR Tryz.func202 i rfl ⟨rfl,(g.trans f).since l (fun z u e=>by subst e1; omega)⟩
 |some x =>
  obtain ⟨j,rfl,C,y⟩:=Xoq r;obtain ⟨G,_,A,_⟩:=o.shelf y;obtain ⟨pa,pb,pc,pd,ep⟩:∃ a b c d,XpX x=Xm2 a b c d:=by
   unfold XpX;split
   ·exact ⟨_,_,_,_,rfl⟩
   ·exact ⟨_,_,_,_,rfl⟩
  have q:=Xqh (R.S j) G x M.pl m A;rw [ep] at q;show Xay _ _ (Xbb (fun v w'=>v = .tuple #[.agg (XpX x).toArray,.bool (XpW x)]∧_)) _ _ _ _ _
  rw [ep];exact ζv q rfl fun s f=>ζs (f.heap' n) rfl fun t i l p=>ζR Tryz.func202 i rfl ⟨rfl,(g.trans f).since l (fun z u e=>by subst e1; omega)⟩
abbrev XfO (w:World) (b:Nat) (e:Int):Prop:=w.heap[b]? = some (.cells ([.int .i64 e]:List Value).toArray 27 (0,0))
theorem Xhp {p:PlM} (h:p.Good):Xho p≤1024:=by have:=Xmw p.own; have:=h.len; unfold Xho; omega
theorem Xpb {F:Nat→Prop} {w:World} {R:Rm} {M:RmM} (h:Xbe F w R M) (held:Nat) (b:Nat) (E:Int) (hb:XfO w b E) (hh:held≤1024):Xao Tryz.prog 256 #[rmV R,.int .i64 (held:Int),.pointer (some ⟨b,0,none⟩)] w
 (fun _ w'=>Xbe F w' R (if E=0 then {M with tot:=Xel M.tot (3+(max (Xho M.pl:Int) held - min (Xho M.pl:Int) held)*4)} else M)∧Chg F w w'):=by
 refine Xao.enter Tryz.func256 rfl Tryz.ntmps256 rfl rfl ?_;have f:=Xhp h.pool.good;refine ζa rfl (ζl hb rfl (ζg rfl (fun c => ?_) fun c => ?_))
 ·have a:E≠0:=by simpa using c
  rw [if_neg a];exact ζr Tryz.func256 rfl ⟨h,Chg.refl _ _⟩
 ·have a:E=0:=by simpa using c
  rw [if_pos a];refine ζw (Xo2 h) rfl (ζw (Xo2 h) rfl ?_);have e1:(if (held:Int) > Xho M.pl then (held:Int) else Xho M.pl)=max (Xho M.pl:Int) held:=by split <;> omega
  have e2:(if (held:Int)<Xho M.pl then (held:Int) else Xho M.pl)=min (Xho M.pl:Int) held:=by split <;> omega
  refine ζj rfl ?_;rw [e1,e2];refine ζl h.obj rfl (ζj rfl (ζj rfl (ζc rfl (Xpc h (3+(max (Xho M.pl:Int) held - min (Xho M.pl:Int) held)*4)) ?_)));rintro _ g ⟨e,d⟩;exact ζa rfl (ζr Tryz.func256 rfl ⟨e,d⟩)
theorem XoS {M:RmM} {k:Nat} {x:Sm} (h:M.shs[k]? = some x):XoR M k x M.pl=M:=by
 have a:=(List.getElem?_eq_some_iff.1 h).1;have e:=(List.getElem?_eq_some_iff.1 h).2;have:M.shs.set k x=M.shs:=by rw [← e]; exact List.set_getElem_self a
 show RmM.mk (M.shs.set k x) M.pl M.lg M.tot=M
 rw [this]
theorem Xbe.wide {F F':Nat→Prop} {w:World} {R:Rm} {M:RmM} (h:Xbe F w R M) (hc:∀ z,F' z→F z∨w.heap.size≤z):∀ z,z<w.heap.size→F' z→F z:=fun z b a=>(hc z a).elim id (fun h=>by omega)
theorem Xpd {F F2:Nat→Prop} {w w1 w3 w4:World} {R:Rm} {M2:RmM} (hc01:Chg XaW w w1) (hF2:∀ z,F2 z→F z∨w1.heap.size≤z) (hc13:Chg F w w3) (h4:Xbe F2 w4 R M2) (hc34:Chg F2 w3 w4):Xbf F w w4 R M2:=by
 have c:=hc01.size;refine ⟨F2,h4,fun z a=>(hF2 z a).imp id (fun h=>by omega),hc13.since hc34 fun z a b => ?_⟩;rcases hF2 z b with h | h
 ·exact h
 ·omega
theorem Xo9 {F:Nat→Prop} {w:World} {R:Rm} {M:RmM} (h:Xbe F w R M) (k who:Int):Xan Tryz.prog 204 #[rmV R,.int .i64 k,.int .i64 who] w
 (fun v w'=>v = .tuple #[.int .i64 (XoW M k who),.int .i64 (XoU M k who),.int .i64 (XoV M k who)]∧Xbf F w w' R (XoT M k who)):=by
 have p:=Xhp h.pool.good;refine ζe Tryz.func204 Tryz.ntmps204 rfl (ζn rfl fun b I e1 m a a1 => ?_);have n:=h.grow a;have f:¬ F b:=fun d=>by have:=h.low b d; omega
 refine ζw (Xo2 n) rfl (Xay.defer rfl rfl (ζa rfl (ζw (Xpe n k) rfl ?_)));unfold rsV XoW XoU XoV XoT;cases S:Xok M k with
 |none =>
  refine ζw (Xqk who I) rfl (ζs m rfl fun J c q a2 => ?_);have B:=h.note n (Xh5 m) (by omega) f q (by decide);have g:=Xpb B (Xho M.pl) b 1 c p;refine Xay.retD hTT rfl Tryz.func204 rfl (Xh1 (args := [rmV R,.int .i64 (Xho M.pl:Nat),.pointer (some ⟨b,0,none⟩)]) (captured := []) g.fn) (g.mono fun _ T ⟨C,r⟩ => ?_);exact ⟨_,.tmp rfl (.tmp rfl (.one rfl rfl rfl (Xd7 (r.heap c f)) .nil)),rfl,Xpd a (fun z h => .inl h) ((a.mono fun _ _ h=>h.elim).since q (fun z d e=>by omega)) C r⟩
 |some x =>
  obtain ⟨j,rfl,hj,K⟩:=Xoq S;obtain ⟨G,_,L,D,N⟩:=n.shelf K;refine ζc rfl (Xqj (R.S j) G x M.pl who I L) ?_;rintro _ J ⟨rfl,G',O,s,P⟩;refine ζa rfl ?_;obtain ⟨e2,e3,e4,e5⟩:=XsO x M.pl who h.pool.good L.ok.cls;obtain ⟨U,B,t,E⟩:=N J G' (Xp0 x M.pl who) (Xp4 x M.pl who) O s P e2 e3 e4 e5;have i:¬ U b:=fun d=>(t b d).elim f (fun h=>by have:=Xjs m; omega);have Q:¬ Xb6 (R.S j) G x.pg b:=fun d=>f (D b d);have c:=s.heap m Q;refine ζs c rfl fun T u y a3 => ?_;have C:=h.note B (Xh5 c) (by omega) i y (by decide);have g:=Xpb C (Xho M.pl) b (Xp2 x M.pl who) u p;refine Xay.retD hTT rfl Tryz.func204 rfl (Xh1 (args := [rmV R,.int .i64 (Xho M.pl:Nat),.pointer (some ⟨b,0,none⟩)]) (captured := []) g.fn) (g.mono fun _ w4 ⟨V,A⟩ => ?_);refine ⟨_,.tmp rfl (.tmp rfl (.one rfl rfl rfl (Xd7 (A.heap u i)) .nil)),rfl,?_⟩;have H:=((a.mono fun _ _ h=>h.elim).trans E).since y (fun z d e=>by omega);have l:=Xpd a t H V A;simp only [Int.toNat_natCast];by_cases o:Xp2 x M.pl who=0
  ·rw [if_pos o] at l ⊢;exact l
  ·rw [if_neg o] at l ⊢;have W:Xp0 x M.pl who=x:=by unfold Xp0; rw [if_neg o]
   have t2:Xp4 x M.pl who=M.pl:=by unfold Xp4; rw [if_neg o]
   rw [W,t2,XoS K] at l;exact l
theorem XpO {x:Sm} {pl:PlM} {n i:Int} (h:XpM x n i≠0):XpL x n i=x∧XpN x pl n i=pl:=by
 unfold XpM at h;unfold XpL XpN;cases a:XqR x.pg n with
 |none=>exact ⟨rfl,rfl⟩
 |some p =>
  rw [a] at h;simp only at h ⊢
  rw [if_neg h,if_neg (fun e=>h e.1)];exact ⟨rfl,rfl⟩
theorem Xo1 {F:Nat→Prop} {w:World} {R:Rm} {M:RmM} (h:Xbe F w R M) (k n i:Int):Xan Tryz.prog 208 #[rmV R,.int .i64 k,.int .i64 n,.int .i64 i] w
 (fun v w'=>v = .int .i64 (Xos M k n i)∧Xbf F w w' R (Xor M k n i)):=by
 have q:=Xhp h.pool.good;refine ζe Tryz.func208 Tryz.ntmps208 rfl (ζn rfl fun b L e1 o c a3 => ?_);have p:=h.grow c;have f:¬ F b:=fun a=>by have:=h.low b a; omega
 refine ζw (Xo2 p) rfl (Xay.defer rfl rfl (ζa rfl (ζw (Xpe p k) rfl ?_)));unfold rsV Xos Xor;cases U:Xok M k with
 |none =>
  refine ζw (Xp9 n i L) rfl (ζs o rfl fun N d r a4 => ?_);have C:=h.note p (Xh5 o) (by omega) f r (by decide);have g:=Xpb C (Xho M.pl) b 1 d q;refine Xay.retD hTT rfl Tryz.func208 rfl (Xh1 (args := [rmV R,.int .i64 (Xho M.pl:Nat),.pointer (some ⟨b,0,none⟩)]) (captured := []) g.fn) (g.mono fun _ V ⟨D,s⟩ => ?_);exact ⟨_,.one rfl rfl rfl (Xd7 (s.heap d f)) .nil,rfl,Xpd c (fun z h => .inl h) ((c.mono fun _ _ h=>h.elim).since r (fun z a e=>by omega)) D s⟩
 |some x =>
  obtain ⟨j,rfl,hj,O⟩:=Xoq U;obtain ⟨G,_,E,H,P⟩:=p.shelf O;refine ζc rfl (Xp8 (R.S j) G x M.pl n i L E) ?_;rintro _ N ⟨rfl,Q,t,S⟩;refine ζa rfl ?_;obtain ⟨e2,e3,e4,e5⟩:=XgK x M.pl n i E.ok E.of;obtain ⟨W,C,u,I⟩:=P N G (XpL x n i) (XpN x M.pl n i) Q t (fun z a => .inl (S z a)) e2 e3 e4 e5;have l:¬ W b:=fun a=>(u b a).elim f (fun h=>by have:=Xjs o; omega);have T:¬ Xb6 (R.S j) G x.pg b:=fun a=>f (H b a);have d:=t.heap o T;refine ζs d rfl fun V y A a5 => ?_;have D:=h.note C (Xh5 d) (by omega) l A (by decide);have g:=Xpb D (Xho M.pl) b (XpM x n i) y q;refine Xay.retD hTT rfl Tryz.func208 rfl (Xh1 (args := [rmV R,.int .i64 (Xho M.pl:Nat),.pointer (some ⟨b,0,none⟩)]) (captured := []) g.fn) (g.mono fun _ w4 ⟨h4,B⟩ => ?_);refine ⟨_,.one rfl rfl rfl (Xd7 (B.heap y l)) .nil,rfl,?_⟩;have J:=((c.mono fun _ _ h=>h.elim).trans I).since A (fun z a e=>by omega);have m:=Xpd c u J h4 B;simp only [Int.toNat_natCast];by_cases K:XpM x n i=0
  ·rw [if_pos K] at m ⊢;exact m
  ·rw [if_neg K] at m ⊢;obtain ⟨t1,t2⟩:=XpO (pl:=M.pl) K;rw [t1,t2,XoS O] at m;exact m
structure XaN (c:Conf):Prop where
 size:64≤c.size∧c.size≤4096
 pages:1≤c.pages∧c.pages≤1024
 n:1≤c.classes.length∧c.classes.length≤16
 keep:c.keep.length=c.classes.length
 most:1≤c.most∧c.most≤2097152
theorem XjT {c:Conf} (h:XjN c=true):XaN c:=by
 unfold XjN at h;simp only [Bool.and_eq_true,decide_eq_true_eq,Xuo] at h;obtain ⟨⟨⟨⟨⟨⟨⟨b,e⟩,f⟩,g,_⟩,_⟩,_⟩,_⟩,i⟩:=h;have k:=XeP f;have a:=Xqz.1 b;have hm:Xih c≤2097152:=by
  unfold Xih;rw [if_pos b];have j:c.size / 8≤512:=by omega
  have d:0≤c.size / 8:=by omega
  calc c.size*(c.size / 8)≤4096*(c.size / 8):=Int.mul_le_mul_of_nonneg_right a.2.1 d
   _≤4096*512:=Int.mul_le_mul_of_nonneg_left j (by omega)
   _=2097152:=by omega
 exact ⟨⟨a.1,a.2.1⟩,e,by omega,g,i.1,by omega⟩
theorem Xb8 {c:Conf} (h:XaN c) {n:Int} (hn:n≤c.most):0≤Xb7 n c.size∧Xb7 n c.size≤2097153:=by
 unfold Xb7 XjG;have b:=h.size;have hm:=h.most;by_cases a:n<1∨c.size<1
 ·rw [if_pos a]; simp
 ·rw [if_neg a];have d:0≤(n - 1) / c.size:=Int.ediv_nonneg (by omega) (by omega);have e:(n - 1) / c.size≤n - 1:=Int.ediv_le_self _ (by omega);split <;> omega
theorem Xo0 {F:Nat→Prop} {w:World} {R:Rm} {M:RmM} (h:Xbe F w R M) (size:Int):Xan Tryz.prog 95 #[rmV R,.int .i64 size] w (Grow (.int .i64 (Xoi R.c M size)) w):=by
 have l:=XjT h.may;have o:=l.n;have p:=l.most;refine ζe Tryz.func95 Tryz.ntmps95 rfl (ζg rfl (fun j => ?_) fun j => ?_)
 ·have e:Xoi R.c M size=3:=by unfold Xoi; rw [if_pos (.inl (of_decide_eq_true j))]
  rw [e];exact ζr Tryz.func95 rfl ⟨rfl,Chg.refl _ _⟩
 ·have q:=of_decide_eq_false j;refine ζl h.obj rfl (ζg rfl (fun k => ?_) fun k => ?_)
  ·have e:Xoi R.c M size=3:=by unfold Xoi; rw [if_pos (.inr (of_decide_eq_true k))]
   rw [e];exact ζr Tryz.func95 rfl ⟨rfl,Chg.refl _ _⟩
  ·have r:=of_decide_eq_false k;have e3:Xoi R.c M size=if (M.pl.free.length:Int)<Xov R.c M size then 5 else 0:=by unfold Xoi; rw [if_neg (by omega)]
   rw [e3];refine ζd 16 XaW (by kernel_rfl) rfl fun f=>δl f h.obj rfl (δv f (fun w' i=>XeR R.p.ca R.p.cc R.c.classes size w' (h.cls.1.chg i) (by omega)) rfl (δl f h.obj rfl (δw f (fun w' i=>Xeb size R.c.size w' (by omega)) rfl (δn f rfl fun m a => ?_))));have b:=h.grow a;by_cases g:XmC R.c.classes size = -1
   ·have e4:Xov R.c M size=Xb7 size R.c.size:=by unfold Xov; rw [if_pos g]
    rw [e4];refine ζF rfl (by rw [g]; rfl) (ζl b.obj rfl (ζv (Xm9 R.P M.pl m b.pool) rfl fun n c=>ζg rfl (fun d => ?_) fun d => ?_))
    ·rw [if_pos (of_decide_eq_true d)];exact ζr Tryz.func95 rfl ⟨rfl,a.trans c⟩
    ·rw [if_neg (of_decide_eq_false d)];exact ζr Tryz.func95 rfl ⟨rfl,a.trans c⟩
   ·have e4:Xov R.c M size=1 - min (Xow M (XmC R.c.classes size):Int) 1:=by unfold Xov; rw [if_neg g]
    rw [e4];refine ζY rfl (by simpa using g) (ζw (Xo4 b (XmC R.c.classes size)) rfl ?_);have e5:(if (1:Int)<(Xow M (XmC R.c.classes size):Nat) then (1:Int) else (Xow M (XmC R.c.classes size):Nat))=min ((Xow M (XmC R.c.classes size):Nat):Int) 1:=by split <;> omega
    rw [e5];refine ζj rfl (ζl b.obj rfl (ζv (Xm9 R.P M.pl m b.pool) rfl fun n c=>ζg rfl (fun d => ?_) fun d => ?_))
    ·rw [if_pos (of_decide_eq_true d)];exact ζr Tryz.func95 rfl ⟨rfl,a.trans c⟩
    ·rw [if_neg (of_decide_eq_false d)];exact ζr Tryz.func95 rfl ⟨rfl,a.trans c⟩
theorem XqJ (a a':Option Addr) (c c':Nat) (x y:List Int) (w:World) (hr:Rd .i64 w a x) (hr':Rd .i64 w a' y) (hl:x.length≤9223372036854775807):Xan Tryz.prog 246 #[.slice a x.length c,.slice a' y.length c'] w (Grow (.bool (decide (x=y))) w):=by
 refine ζe Tryz.func246 Tryz.ntmps246 rfl (ζg rfl (fun n => ?_) fun n => ?_)
 ·have q:x.length≠y.length:=by simp at n; omega
  have:x≠y:=fun e=>q (by rw [e]);exact ζr Tryz.func246 rfl ⟨XdM (decide_eq_false this).symm,Chg.refl _ _⟩
 ·have o:x.length=y.length:=by simp at n; omega
  refine Xay.loop (α:=Nat) (fun k => [(0,false,.slice a x.length c),(1,false,.slice a' y.length c'),(12,false,.int .i64 x.length),(13,false,.int .i64 k)])
   (fun k w'=>Chg XaW w w'∧k≤x.length ∧ ∀ j,j<k→x.getD j 0=y.getD j 0) (fun k=>x.length - k) 0 ⟨rfl,rfl,rfl,rfl,trivial⟩ ⟨Chg.refl _ _,Nat.zero_le _,fun _ h=>by omega⟩ ?_
  rintro k A ⟨d,B,f⟩ ih;refine ζa rfl (ζg rfl (fun h => ?_) fun h => ?_)
  ·have l:k<x.length:=by simpa using h
   obtain ⟨b,off,rfl,s⟩:=(hr.chg d) k l;obtain ⟨b',off',rfl,r⟩:=(hr'.chg d) k (by omega);refine ζd 9 XaW (by kernel_rfl) rfl fun g=>δi k g rfl (δk g s rfl (δi k g rfl (δk g r rfl (δn g rfl fun C m=>ζg rfl (fun i => ?_) fun i => ?_))))
   ·have p:x.getD k 0≠y.getD k 0:=by simpa using i
    have:x≠y:=fun e=>p (by rw [e]);exact ζr Tryz.func246 rfl ⟨XdM (decide_eq_false this).symm,d.trans m⟩
   ·have t:x.getD k 0=y.getD k 0:=by simpa using i
    refine ζj rfl ?_;exact ih (k+1) _ _ ⟨d.trans m,l,fun j D=>by
     by_cases e:j=k
     ·subst e; exact t
     ·exact f j (by omega)⟩ (by omega) ⟨rfl,rfl,rfl,rfl,trivial⟩
  ·have z:k=x.length:=by simp at h; omega
   have:x=y:=List.ext_getElem o fun j u v=>by
    have:=f j (by omega);rw [Xgx u,Xgx v] at this;exact this
   exact ζr Tryz.func246 rfl ⟨XdM (decide_eq_true this).symm,d⟩
theorem XqF (a:Option Addr) (cap:Nat) (x:List Int) (w:World) (hr:Rd .i64 w a x) (hl:x.length≤1048576) (hn:∃ a1,a=some a1):Xan Tryz.prog 85 #[.slice a x.length cap] w
 (fun v w' => ∃ g c,v = .slice (some ⟨g,0,none⟩) x.length c∧w.heap.size≤g∧Rd .i64 w' (some ⟨g,0,none⟩) x∧kd w' g=some (some 3)∧Chg XaW w w'):=by
 have q:maxLen=9223372036854775807:=rfl;obtain ⟨a1,rfl⟩:=hn;refine Xan.enter Tryz.func85 rfl Tryz.ntmps85 rfl rfl ?_;refine ζa rfl ?_;refine Xay.no hTT rfl rfl rfl ?_;refine Xay.buildSlice hTT rfl ?_;intro b m e1 n d r;refine ζa rfl ?_;subst e1;have h:Own w.heap.size 3 1 m (.slice (some ⟨w.heap.size,0,none⟩) 0 0) 0 []:=Own.empty (Nat.le_refl _) n;refine Xay.append (base:=w.heap.size) (xs := []) (news:=x.map (Value.int .i64)) hTT rfl h (by omega) (by simp) (hr.chg d).cells Xm1 ⟨by omega,by show (0+x.length)*8≤_; omega⟩ ?_;intro v s f i j;refine ζa rfl ?_;rw [Nat.zero_add,List.nil_append] at f;have o:=h.since d (Nat.le_refl _) i;rcases f.2 with ⟨e,_⟩ | ⟨g,c,cur,rfl,p,k,t,u,_,l⟩
 ·have:=(j.1.1 e).1; cases this
 ·exact Xay.ret1 hTT rfl Tryz.func85 rfl rfl ⟨g,c,rfl,p,Rd.of_take k (by rw [Nat.mul_one] at l; exact l),Xh5 k,o⟩
theorem XqK (k:Nat) (w:World) (hk:0<k) (hb:k≤1048576):Xan Tryz.prog 288 #[.slice none 0 0,.int .i64 (k:Int)] w
 (fun v w'=>Own w.heap.size 3 1 w' v 0 []∧Chg XaW w w'∧v.ownBlock=some w.heap.size∧v ≠ .slice none 0 0):=by
 refine ζe Tryz.func288 Tryz.ntmps288 rfl (ζf rfl (Xay.cap hTT rfl (ζa rfl (ζj rfl (ζj rfl (ζy rfl (Xay.cap hTT rfl (ζa rfl ?_))))))));rw [show (k:Int) - (((0:Nat):Int) - ((0:Nat):Int))=(k:Nat) from by omega];refine Xay.slice hTT rfl (l:=0) (h:=0) (by first | rfl | omega | simp [loV]) (by first | rfl | omega | simp [hiV]) (by omega) (by omega) rfl (Xay.appendZ (k:=k) hTT rfl hk (by show k*8≤_; omega) (by omega) fun cap cur g a d e b c f=>ζa rfl (Xay.slice hTT rfl (l:=0) (h:=0) (by first | rfl | omega | simp [loV]) (by first | rfl | omega | simp [hiV]) (by omega) (by omega) rfl ?_));have es:Xqq (some ⟨w.heap.size,0,none⟩) cap 0 1=some ⟨w.heap.size,0,none⟩:=by
  unfold Xqq;split
  ·omega
  ·rfl
 show Xay _ _ _ _ _ _ ((4,false,.slice (Xqq (some ⟨w.heap.size,0,none⟩) cap 0 1) 0 cap)::_) _
 rw [es];exact ζr Tryz.func288 rfl ⟨⟨rfl,.inr ⟨w.heap.size,cap,cur,rfl,Nat.le_refl _,c,by omega,b,by omega,by simp⟩⟩,a,rfl,by simp⟩
structure Sl where
 a:Option Addr
 cap:Nat
 x:List Int
abbrev slV (l:Sl):Value := .slice l.a l.x.length l.cap
def Xd3 (ls:List Sl):List Int:=(ls.map (·.x)).flatten
theorem Xd5 {ls:List Sl} {i:Nat} (h:i<ls.length):Xd3 (ls.take (i+1))=Xd3 (ls.take i)++ls[i].x:=by
 unfold Xd3;rw [List.take_add_one,List.getElem?_eq_getElem h,List.map_append,List.flatten_append]
 simp
theorem Xd4 (ls:List Sl) (i:Nat):(Xd3 (ls.take i)).length≤(Xd3 ls).length:=by
 have:Xd3 ls=Xd3 (ls.take i)++Xd3 (ls.drop i):=by
  unfold Xd3;rw [← List.flatten_append,← List.map_append,List.take_append_drop]
 rw [this,List.length_append];omega
theorem XqG (ob:Nat) (ls:List Sl) (w:World) (h:∀ i (hi:i<ls.length),w.cell? ⟨ob,i,none⟩=some (slV ls[i])) (hr:∀ l ∈ ls,Rd .i64 w l.a l.x) (hn:ls.length≤1024) (hpos:0<(Xd3 ls).length) (hb:(Xd3 ls).length≤1048576):Xan Tryz.prog 247 #[.slice (some ⟨ob,0,none⟩) ls.length ls.length] w
 (fun v w' => ∃ g c,v = .slice (some ⟨g,0,none⟩) (Xd3 ls).length c∧w.heap.size≤g∧Rd .i64 w' (some ⟨g,0,none⟩) (Xd3 ls)∧Chg XaW w w'):=by
 have M:maxLen=9223372036854775807:=rfl;refine ζe Tryz.func247 Tryz.ntmps247 rfl ?_;refine Xay.loop (α:=Nat) (fun k => [(0,false,.slice (some ⟨ob,0,none⟩) ls.length ls.length),(3,false,.int .i64 (Xd3 (ls.take k)).length),(9,false,.slice (some ⟨ob,0,none⟩) ls.length ls.length),(10,false,.int .i64 ls.length),(11,false,.int .i64 k)])
  (fun k w'=>w'=w∧k≤ls.length) (fun k=>ls.length - k) 0 ⟨rfl,rfl,rfl,rfl,rfl,trivial⟩ ⟨rfl,Nat.zero_le _⟩ ?_
 rintro k m ⟨G,P⟩ ih;subst G;refine ζa rfl (ζg rfl (fun r => ?_) fun r => ?_)
 ·have a:k<ls.length:=by simpa using r
  have t:=Xd4 ls (k+1);have q:=congrArg List.length (Xd5 a);rw [List.length_append] at q;refine ζi k rfl (ζk rfl (show m.cell? ⟨ob,0+k,none⟩=_ from by rw [Nat.zero_add]; exact h k a) rfl (ζj rfl (ζf rfl (ζj rfl ?_))));exact ih (k+1) _ _ ⟨rfl,a⟩ (by omega) ⟨rfl,congrArg (fun z=>some (Value.int .i64 z)) (show ((Xd3 (ls.take k)).length:Int)+(ls[k].x.length:Int)=((Xd3 (ls.take (k+1))).length:Int) from by rw [q]; omega),rfl,rfl,rfl,trivial⟩
 ·have n:k=ls.length:=by simp at r; omega
  subst n;rw [List.take_length];refine ζc rfl (XqK (Xd3 ls).length m hpos hb) ?_;rintro v Q ⟨H,x,N,y⟩;refine ζa rfl ?_;refine Xay.loop (α:=Nat × Value) (fun p => [(6,false,p.2),(25,false,.slice (some ⟨ob,0,none⟩) ls.length ls.length),(26,false,.int .i64 ls.length),(27,false,.int .i64 p.1)])
   (fun p w'=>p.1≤ls.length∧Own m.heap.size 3 1 w' p.2 (Xd3 (ls.take p.1)).length ((Xd3 (ls.take p.1)).map (Value.int .i64))∧p.2 ≠ .slice none 0 0∧Chg XaW m w') (fun p=>ls.length - p.1) (0,v) ⟨rfl,rfl,rfl,rfl,trivial⟩ ⟨Nat.zero_le _,H,y,x⟩ ?_
  rintro ⟨i,u⟩ I ⟨hi,d,A,f⟩ ih;simp only at hi d A
  refine ζa rfl (ζg rfl (fun s => ?_) fun s => ?_)
  ·have a:i<ls.length:=by simpa using s
   have t:=Xd4 ls (i+1);have q:=congrArg List.length (Xd5 a);rw [List.length_append] at q;have o:=(hr ls[i] (List.getElem_mem a)).chg f;refine ζi i rfl (ζk rfl (show I.cell? ⟨ob,0+i,none⟩=_ from by rw [Nat.zero_add]; exact f.cell (h i a) id) rfl ?_);refine Xay.appendA (base:=m.heap.size) (xs:=(Xd3 (ls.take i)).map (Value.int .i64)) (news:=ls[i].x.map (Value.int .i64)) hTT rfl d f.size (fun e=>by
    by_cases J:0<ls[i].x.length
    ·obtain ⟨b,off,e',_⟩:=o 0 J;rw [e] at e'; cases e'
    ·omega) (by simp) (fun j u B=>by
    have O:j<ls[i].x.length:=by have:=(List.getElem?_eq_some_iff.1 B).1; simpa using this
    obtain ⟨b,off,e',_⟩:=o 0 (by omega);exact ⟨_,e',(Rd.cells (e'▸o)) j u B⟩) Xm1 ⟨by omega,by show (_+_)*8≤_; omega⟩ ?_
   intro u' R C D E;exact ζa rfl (ζj rfl (ih (i+1,u') _ _ ⟨a,by rw [Xd5 a,List.length_append,List.map_append]; exact C,fun e=>A (E.1.1 e).1,d.since f (Nat.le_refl _) D⟩ (by simp only; omega) ⟨rfl,rfl,rfl,rfl,trivial⟩))
  ·have n:i=ls.length:=by simp at s; omega
   subst n;rw [List.take_length] at d;obtain ⟨g,c,cur,rfl,K,L,S,T,F⟩:=d.form hpos;exact ζr Tryz.func247 rfl ⟨g,c,rfl,K,Rd.of_take L (by rw [Nat.mul_one] at F; exact F),f⟩
structure Plc where
 cls:Int
 page:Int
 idx:Int
 pa:Option Addr
 pc:Nat
 pages:List Int
def Xm6 (q:Plc):List Value := [.int .i64 q.cls,.int .i64 q.page,.int .i64 q.idx,.slice q.pa q.pages.length q.pc]
structure Xa4 (w:World) (q:Plc):Prop where
 rd:Rd .i64 w q.pa q.pages
 len:q.pages.length≤9223372036854775807
abbrev Xm5 (w:World) (b:Nat) (q:Plc):Prop:=w.heap[b]? = some (.cells (Xm6 q).toArray 98 (0,0))
theorem Xa4.grow {w w':World} {q:Plc} (h:Xa4 w q) (hc:Chg XaW w w'):Xa4 w' q:=⟨h.rd.chg hc,h.len⟩
theorem XaI.put {F:Nat→Prop} {w w':World} {lm:Nat} {lg:List (Nat × List Nat)} {n cap:Nat} {r:List Nat} {a:Option Addr} (h:XaI F w lm lg) (hc:Chg (fun z=>z=lm) w w') (hm':∀ m,XaL w lm m→XaL w' lm (Xcv m n (.slice a r.length cap))) (hnew:∀ e ∈ lg,e.1≠n)
 (hr:Rd .i64 w' a (XkA r)) (hmine:XaP F w' a):XaI F w' lm (lg ++ [(n,r)]):=by
 have l:=Xh7 h;obtain ⟨m,o,p,q,i⟩:=h;have c:=i n fun e he e'=>hnew e he (by omega);refine ⟨_,hm' m o,?_,fun e he => ?_,fun k d => ?_⟩
 ·rw [Xb5,if_neg (Xcg.1 c)];exact List.nodup_append.2 ⟨p,by simp,fun x t y j e=>by
   rw [List.mem_singleton] at j; subst j; subst e;exact Xcg.1 c t⟩
 ·rcases List.mem_append.1 he with he | he
  ·obtain ⟨a',cap',u,v,g⟩:=q e he;have f:∀ b off s,a'=some ⟨b,off,s⟩→b≠lm:=fun b off s e'=>Xib (g b off s e').1 l (by simp);refine ⟨a',cap',by rw [Xch,if_neg (by have:=hnew e he; omega)]; exact u,v.far f hc,fun b off s e'=>⟨Xh6 hc (g b off s e').1 (f b off s e'),(g b off s e').2⟩⟩
  ·rw [List.mem_singleton] at he; subst he;exact ⟨a,cap,by rw [Xch,if_pos rfl],hr,hmine⟩
 ·rw [Xch,if_neg (fun e=>d (n,r) (by simp) e.symm)];exact i k fun e he=>d e (by simp [he])
theorem XaI.del {F:Nat→Prop} {w w':World} {lm:Nat} {lg:List (Nat × List Nat)} {n:Nat} (h:XaI F w lm lg) (hc:Chg (fun z=>z=lm) w w') (hm':∀ m,XaL w lm m→XaL w' lm (XbS m n)):XaI F w' lm (XiH lg n):=by
 have j:=Xh7 h;obtain ⟨m,l,c,o,p⟩:=h;refine ⟨_,hm' m l,by rw [Xb4]; exact c.erase _,fun e d => ?_,fun k g => ?_⟩
 ·obtain ⟨d,a⟩:=List.mem_filter.1 d;have q:e.1≠n:=by simpa using a
  obtain ⟨a',cap',r,t,f⟩:=o e d;have a:∀ b off s,a'=some ⟨b,off,s⟩→b≠lm:=fun b off s e'=>Xib (f b off s e').1 j (by simp);exact ⟨a',cap',by rw [Xce c,if_neg (by omega)]; exact r,t.far a hc,fun b off s e'=>⟨Xh6 hc (f b off s e').1 (a b off s e'),(f b off s e').2⟩⟩
 ·rw [Xce c];by_cases e:k=n
  ·rw [if_pos e]
  ·rw [if_neg e];refine p k fun e' i e2 => ?_;by_cases e3:e'.1=n
   ·exact e (by omega)
   ·exact g e' (List.mem_filter.2 ⟨i,by simpa using e3⟩) e2
theorem Xqr {a:Option Addr} {cap l sz:Nat} {b off:Nat} {s} (h:Xqq a cap l sz=some ⟨b,off,s⟩):∃ off' s',a=some ⟨b,off',s'⟩:=by
 unfold Xqq at h;by_cases c:cap=l
 ·rw [if_pos c] at h; exact ⟨off,s,h⟩
 ·rw [if_neg c] at h;cases a with
  |none=>cases h
  |some x =>
   obtain ⟨xb,xo,xs⟩:=x;simp only [Option.map_some,Option.some.injEq] at h;have:xb=b:=by
    have:=congrArg Addr.block h;unfold Addr.add at this;split at this <;> exact this
   subst this;exact ⟨xo,xs,rfl⟩
theorem Xlx {l:List Nat} {w:World} {base m:Nat} {v:Value} (h:Own base 3 1 w v m ((XkA l).map (Value.int .i64))) (hm:l.length=m) (hp:0<m):∃ g cap,v = .slice (some ⟨g,0,none⟩) m cap∧base≤g∧m≤cap∧cap≤maxLen∧kd w g=some (some 3)∧Rd .i64 w (some ⟨g,0,none⟩) (XkA l):=by
 obtain ⟨g,cap,cur,e,c,a,d,f,b⟩:=h.form hp;have i:(XkA l).length=m:=by unfold XkA; rw [List.length_map]; exact hm
 exact ⟨g,cap,e,c,d,f,Xh5 a,Rd.of_take a (by rw [i]; rw [Nat.mul_one] at b; exact b)⟩
theorem XkB (l r:List Nat):XkA (l++r)=XkA l++XkA r:=by unfold XkA; rw [List.map_append]
theorem XkC (l:List Nat):(XkA l).length=l.length:=by unfold XkA; rw [List.length_map]
def Xa2 (F:Nat→Prop) (w w':World) (R:Rm) (M:RmM) (q:Plc):Prop := ∃ F',Xbe F' w' R M∧(∀ z,F' z→F z∨w.heap.size≤z)∧Chg F w w'∧Xa4 w' q∧XaX F' q.pa ∧ ∀ b off s,q.pa=some ⟨b,off,s⟩→w.heap.size≤b∧kd w' b=some (some 3)
def Xm8 (q:Plc):PlcM:=⟨q.cls,q.page,q.idx,q.pages⟩
theorem Xo7 {F:Nat→Prop} {w:World} {R:Rm} {M:RmM} (h:Xbe F w R M) (who size:Int):Xan Tryz.prog 158 #[rmV R,.int .i64 who,.int .i64 size] w
 (fun v w' => ∃ q:Plc,v = .tuple #[.agg (Xm6 q).toArray,.int .i64 (XoH R.c M who size)]∧Xm8 q=XoI R.c M who size∧Xa2 F w w' R (XoG R.c M who size) q):=by
 have da:maxLen=9223372036854775807:=rfl;have hf:=XjT h.may;have db:=hf.size;have dc:=hf.n;have dd:=hf.most;have noq:∀ {F':Nat→Prop} {w':World} (c i j:Int),Xa4 w' ⟨c,i,j,none,0,[]⟩∧XaX F' none ∧ ∀ b off s,(none:Option Addr)=some ⟨b,off,s⟩→w.heap.size≤b∧kd w' b=some (some 3):=fun c i j=>⟨⟨Rd.nil _ _ _,by simp⟩,⟨(fun _ _ _ e=>by cases e),(fun _ _ _ e=>by cases e)⟩⟩;refine Xan.enter Tryz.func158 rfl Tryz.ntmps158 rfl rfl ?_;refine ζa rfl ?_;refine Xay.alloc hTT rfl ?_;intro b w1 e1 hb P de;refine ζa rfl ?_;have B:¬ F b:=fun d=>by have:=h.low b d; omega
 have bm:Chg F w w1:=P.mono fun _ _ h=>h.elim;by_cases u:who<0
 ·have ac:XoH R.c M who size=1∧XoI R.c M who size=⟨0,0,0,[]⟩∧XoG R.c M who size=M:=by
   unfold XoH XoI XoG; rw [if_pos u,if_pos u,if_pos u]; exact ⟨rfl,rfl,rfl⟩
  rw [ac.1,ac.2.1,ac.2.2];refine Xay.yes hTT rfl (decide_eq_true u) rfl ?_;refine Xay.build hTT rfl rfl ?_;refine Xay.store hTT rfl hb rfl rfl ?_;intro D Q ad df;refine ζa rfl ?_;have h2:=h.note (h.grow P) (Xh5 hb) (by omega) B ad (by decide);exact ζq rfl Tryz.func158 (Xba.cell rfl rfl rfl Q rfl (.tmp rfl .nil)) ⟨⟨0,0,0,none,0,[]⟩,rfl,rfl,F,h2,fun z d => .inl d,bm.since ad (fun z d e=>by omega),noq 0 0 0⟩
 ·refine Xay.no hTT rfl (decide_eq_false u) rfl ?_;refine ζc rfl (Xo0 (h.grow P) size) ?_;rintro _ D ⟨rfl,ae⟩;refine ζa rfl ?_;have h2:=(h.grow P).grow ae;have Q:=ae.heap' hb;have af:=P.trans ae;by_cases n:Xoi R.c M size=0
  ·have bn:¬ (size<1∨R.c.most<size)∧Xov R.c M size≤M.pl.free.length:=by
    unfold Xoi at n;split at n
    ·cases n
    ·split at n
     ·cases n
     ·refine ⟨by assumption,by omega⟩
   have J:¬ (Xoi R.c M size≠0):=fun h=>h n;refine Xay.no hTT rfl (by rw [n]; rfl) rfl ?_;refine Xay.loadb hTT rfl h2.obj rfl rfl ?_;refine ζc rfl (XeR R.p.ca R.p.cc R.c.classes size D h2.cls.1 (by omega)) ?_;rintro _ w3 ⟨rfl,ag⟩;refine ζa rfl ?_;have o:=h2.grow ag;have T:=ag.heap' Q;have a1:=af.trans ag;by_cases L:XmC R.c.classes size = -1
   ·have G:XoH R.c M who size=0∧XoI R.c M who size=⟨-1,(M.pl.free.getD 0 0:Nat),0,XkA (M.pl.free.take (Xb7 size R.c.size).toNat).tail⟩∧XoG R.c M who size=Xod M (Xb7 size R.c.size).toNat:=by
     exact ⟨by unfold XoH; rw [if_neg u,if_neg J,if_pos L],by unfold XoI; rw [if_neg u,if_neg J,if_pos L],by unfold XoG; rw [if_neg u,if_neg J,if_pos L]⟩
    rw [G.1,G.2.1,G.2.2];have cp:Xov R.c M size=Xb7 size R.c.size:=by unfold Xov; rw [if_pos L]
    have dg:2≤Xb7 size R.c.size:=by
     have h0:0≤(size - 1) / R.c.size:=Int.ediv_nonneg (by omega) (by omega);have h9:(size - 1) / R.c.size≤size - 1:=Int.ediv_le_self _ (by omega);have e4:XjG size R.c.size=(size - 1) / R.c.size+1:=by unfold XjG; rw [if_neg (by omega)]
     unfold Xb7;rw [e4,if_neg (by omega)];omega
    obtain ⟨many,b3⟩:=Int.eq_ofNat_of_zero_le (show 0≤Xb7 size R.c.size by omega);have dh:2≤many:=by omega
    have K:many≤M.pl.free.length:=by have:=bn.2; omega
    have di:M.pl.free.length≤1024:=by have:=h.pool.good.many; have:=h.pool.good.len; omega
    refine Xay.no hTT rfl (by rw [L]; rfl) rfl ?_;refine Xay.loadb hTT rfl o.obj rfl rfl ?_;refine ζc rfl (Xeb size R.c.size w3 (by omega)) ?_;rintro _ _ ⟨rfl,rfl⟩;refine ζa rfl ?_;rw [b3,Int.toNat_natCast];have ah:¬ XmH R.P R.rb:=fun d=>h.rf (h.pf _ d);refine Xay.loop (α:=Nat × Value) (fun p => [(0,false,rmV R),(6,false,.pointer (some ⟨b,0,none⟩)),(13,false,p.2),(58,false,.int .i64 many),(59,false,.int .i64 p.1)])
     (fun p w'=>p.1≤many∧Own w3.heap.size 3 1 w' p.2 p.1 ((XkA (M.pl.free.take p.1)).map (Value.int .i64))∧Xa5 w' R.P (XmU M.pl (M.shs.length:Nat) p.1)∧Chg (XmH R.P) w3 w') (fun p=>many - p.1) (0,.slice none 0 0) ⟨rfl,rfl,rfl,rfl,rfl,trivial⟩ ⟨Nat.zero_le _,⟨rfl,.inl ⟨rfl,rfl⟩⟩,o.pool,Chg.refl _ _⟩ ?_
    rintro ⟨i,v⟩ w4 ⟨hi,a4,ai,r⟩ ih;simp only at hi a4 ai
    refine ζa rfl ?_;refine Xay.fork hTT rfl rfl rfl (fun aj => ?_) (fun aj => ?_)
    ·have c1:i<many:=by simpa using aj
     have ba:i<M.pl.free.length:=by omega
     obtain ⟨q1,q2,q3,q4,q5⟩:=XmW (who:=(M.shs.length:Nat)) (by omega) h.pool.good i (by omega);have b4:(XmU M.pl (M.shs.length:Nat) i).free=M.pl.free[i]::M.pl.free.drop (i+1):=by rw [q2]; exact List.drop_eq_getElem_cons ba
     obtain ⟨t1,t2,t3⟩:=XmT (who:=(M.shs.length:Nat)) (by omega) b4;have hn:=h.ok.n;have E:=r.heap o.obj ah;refine Xay.drawn (q:=16) (XmH R.P) hTT Xj9 (by kernel_rfl) rfl ?_;intro f;refine Xaq.loadb hTT f rfl E (by first | exact fun h=>h | (intro h; omega) | assumption) rfl rfl ?_;refine Xaq.loadb hTT f rfl E (by first | exact fun h=>h | (intro h; omega) | assumption) rfl rfl ?_;refine Xaq.turn1 f rfl ?_;intro w5 t;have hd:=Xnd R.P _ (M.shs.length:Nat) w5 (ai.grow t);rw [t1,t2] at hd;rw [hn] at hd;refine XbK.call rfl hd.fn (Post:=fun v D=>v = .tuple #[.int .i64 (M.pl.free[i]:Nat),.int .i64 0]∧Xa5 D R.P (XmU M.pl (M.shs.length:Nat) (i+1))∧Chg (XmH R.P) w5 D) (fun h0=>hd.mono fun v D hp=>⟨h0.trans hp.2.2,hp.1,by rw [hn]; exact hp.2.1,hp.2.2⟩) ?_;rintro _ w6 _ ⟨rfl,al,A⟩;refine Xaq.adv hTT f rfl ?_;refine Xaq.nil f ?_;intro w7 C;refine ζa rfl ?_;refine Xay.buildSlice hTT rfl ?_;intro b8 N e8 U bb dj;refine ζa rfl ?_;have a3:Chg (XmH R.P) w4 N:=(((t.mono fun _ _ h=>h.elim).trans A).trans (C.mono fun _ _ h=>h.elim)).trans (bb.mono fun _ _ h=>h.elim);have cw:=o.pool.lt;have a5:=a4.chg a3 (fun z d hP=>by
      have dk:=(World.ownsRow.lt a4 z d.symm).1;rcases hP with e | e <;> omega)
     have bp:w3.heap.size≤N.heap.size:=(r.trans a3).size;refine Xay.append (base:=w3.heap.size) (xs:=(XkA (M.pl.free.take i)).map (Value.int .i64)) (news := [.int .i64 (M.pl.free[i]:Nat)]) hTT rfl a5 bp (by simp) (Xd8 U) (by simp [Value.oneCell']) ⟨by omega,by show (i+1)*8≤_; omega⟩ ?_;intro v9 w9 c8 bc dl;refine ζa rfl ?_;refine Xay.arith hTT rfl (w64 (by omega)) rfl ?_;exact ih (i+1,v9) _ _ ⟨c1,by
      have e:(XkA (M.pl.free.take (i+1))).map (Value.int .i64)=(XkA (M.pl.free.take i)).map (Value.int .i64) ++ [.int .i64 (M.pl.free[i]:Nat)]:=by
       rw [List.take_add_one,List.getElem?_eq_getElem ba,XkB,List.map_append]; rfl
      rw [e]; exact c8,(al.grow (C.trans bb)).chg bc (fun e=>by have:=(World.ownsRow.lt a5 _ e.symm).1; omega) (fun e=>by have:=(World.ownsRow.lt a5 _ e.symm).1; omega),(r.trans a3).since bc (fun z d e=>by have:=(World.ownsRow.lt a5 z e.symm).1; omega)⟩ (by simp only; omega) ⟨rfl,rfl,rfl,rfl,rfl,trivial⟩
    ·have bq:i=many:=by simp at aj; omega
     subst bq;have am:(M.pl.free.take i).length=i:=by rw [List.length_take]; omega
     obtain ⟨g,cap,rfl,hg,d0,dm,c9,bd⟩:=Xlx a4 am (by omega);have a6:¬ F g:=fun d=>by have:=o.low g d; omega
     have V:∀ {w':World},Rd .i64 w' (some ⟨g,0,none⟩) (XkA (M.pl.free.take i))→w'.cell? ⟨g,0+0,none⟩=some (.int .i64 (M.pl.free.getD 0 0:Nat)):=fun {w'} hr=>by
      obtain ⟨b',off',e',hc⟩:=hr 0 (by rw [XkC]; omega);cases e'
      have e:(XkA (M.pl.free.take i)).getD 0 0=((M.pl.free.getD 0 0:Nat):Int):=by
       cases an:M.pl.free with
       |nil=>rw [an] at K; simp at K; omega
       |cons x y =>
        obtain ⟨j,rfl⟩:∃ j,i=j+1:=⟨i - 1,by omega⟩;rfl
      rw [e] at hc;exact hc
     have W:∀ {w':World},Rd .i64 w' (some ⟨g,0,none⟩) (XkA (M.pl.free.take i))→Rd .i64 w' (Xqq (some ⟨g,0,none⟩) cap 1 1) (XkA (M.pl.free.take i).tail):=fun {w'} hr=>by
      have:=hr.shift (cap:=cap) (l:=1) (m:=i - 1) (by rw [XkC]; omega) (by rw [XkC]; omega);have e:((XkA (M.pl.free.take i)).drop 1).take (i - 1)=XkA (M.pl.free.take i).tail:=by
       have e1:(XkA (M.pl.free.take i)).drop 1=XkA (M.pl.free.take i).tail:=by unfold XkA; rw [List.drop_one,List.map_tail]
       rw [e1];exact List.take_of_length_le (by rw [XkC,List.length_tail]; omega)
      rw [e] at this;exact this
     have dn:¬ R.rb=R.lm:=fun e=>h.rf (e▸h.lf);have be:¬ g=R.lm:=fun e=>a6 (e▸h.lf);have E:=r.heap o.obj ah;refine Xay.drawn (q:=10) (fun z=>z=R.lm) hTT Xj9 (by kernel_rfl) rfl ?_;intro f;refine Xaq.loadb hTT f rfl E (by first | exact fun h=>h | (intro h; omega) | assumption) rfl rfl ?_;refine Xaq.index hTT f rfl (j:=0) (by omega) (by omega) (by first | rfl | omega | (simp; done) | (simp; omega)) rfl ?_;refine Xaq.load hTT f rfl (V bd) (by first | exact fun h=>h | (intro h; omega) | assumption) rfl ?_;refine Xaq.slice hTT f rfl (l:=1) (h:=i) (by first | rfl | omega | simp [loV]) (by first | rfl | omega | simp [hiV]) (by omega) (by omega) rfl ?_;refine Xaq.turn1 f rfl ?_;intro w5 t;have bf:=o.lg.chg r (fun z _ d => .inl (o.pf z d)) (fun d=>by
      have kl:=Xh7 o.lg;have kp:=o.pool.kds;rcases d with e | e
      ·exact Xib kl kp.1 (by simp) e
      ·exact Xib kl kp.2 (by simp) e)
     have a7:=bf.chg t (fun _ _ h=>h.elim) id;obtain ⟨m,hm,_⟩:=a7;have a7:=bf.chg t (fun _ _ h=>h.elim) id;refine XbK.mapset hTT f rfl (hm) (by first | (intro h; exact rfl) | (intro h; omega)) rfl ?_;intro w6 cb A dp;refine Xaq.nil f ?_;intro w7 C;refine ζa rfl ?_;have ao:kd w6 g=some (some 3):=Xh6 A (Xh6 t c9 id) be;have ap:Rd .i64 w6 (some ⟨g,0,none⟩) (XkA (M.pl.free.take i)):=(bd.chg t).far (fun b' off s e=>by cases e; exact be) A;have b7:∀ {w':World},kd w' g=some (some 3)→XaP (R.FX F) w' (Xqq (some ⟨g,0,none⟩) cap 1 1):=fun {w'} hk b' off s e=>by
      obtain ⟨_,_,e'⟩:=Xqr e;cases e'
      exact ⟨hk,fun d=>d.elim a6 (fun hx=>by have:=(o.xl _ hx).1; omega)⟩
     have a0:(M.pl.free.take i).tail.length=i - 1:=by rw [List.length_tail,am]
     have aq:M.pl.free.getD 0 0 ∈ M.pl.free:=by
      cases an:M.pl.free with
      |nil=>rw [an] at K; simp at K; omega
      |cons x y=>simp
     have cc:XaI (R.FX F) w6 R.lm (M.lg ++ [(M.pl.free.getD 0 0,(M.pl.free.take i).tail)]):=a7.put (cap:=cap - 1) (a:=Xqq (some ⟨g,0,none⟩) cap 1 1) A (fun m' h'=>by
      rw [h'.uniq hm,a0];exact cb) (fun e he e'=>by
       have h8:=(h.ok.lg e.1 (XjV he (by simp))).2;have h9:=(h.pool.good.free _ aq).2;rw [e'] at h8;omega) (W ap) (b7 ao)
     have bg:=Xh7 a7;have au:=ai.grow t;have al:Xa5 w6 R.P (XmU M.pl (M.shs.length:Nat) i):=au.chg A (Xib au.kds.1 bg (by simp)) (Xib au.kds.2 bg (by simp));have cd:=h.ok.big h.pool.good (show 1≤i by omega) K;have h6:=o.swap (pl':=XmU M.pl (M.shs.length:Nat) i) (lg':=M.lg ++ [(M.pl.free.getD 0 0,(M.pl.free.take i).tail)]) {cd with tot:=h.ok.tot} (((r.mono fun _ _ h => .inl h).trans (t.mono fun _ _ h=>h.elim)).trans (A.mono fun _ _ h => .inr h)) al cc (fun k x hx ce=>XmV (by omega) h.pool.good K (by have:=(h.ok.each k x hx).1; omega) ce);have h7:=h6.grow C;refine Xay.loadb hTT rfl h7.obj rfl rfl ?_;refine Xay.arith hTT rfl (w64 (by omega)) rfl ?_;refine Xay.arith hTT rfl (w64 (by omega)) rfl ?_;refine Xay.arith hTT rfl (w64 (by omega)) rfl ?_;refine Xay.arith hTT rfl (w64 (by omega)) rfl ?_;rw [show ((i:Nat):Int)*4+(((i:Nat):Int) - 1)*1=(i:Int)*4+((i:Int) - 1) from by omega];refine ζc rfl (Xpc h7 ((i:Int)*4+((i:Int) - 1))) ?_;rintro _ N ⟨h8,a8⟩;refine ζa rfl ?_;replace h8:Xbe F N R (Xod M i):=h8;have a9:=r.heap T (fun d=>B (o.pf b d));have cg:=C.heap' (A.heap (t.heap' a9) (fun e=>B (e▸h.lf)));have U:=a8.heap cg B;have av:=(ap.chg C).far (fun b' off s e=>by cases e; exact a6) a8;have bt:=Xh6 a8 (Xh6 C ao id) a6;have dq:¬ g=b:=fun e=>by
      have:=Xh5 U;rw [← e,bt] at this
      revert this; decide
     have d5:=Xjs U;have ch:∀ w',Chg XaW N w'→Xan Tryz.prog 85 #[.slice (Xqq (some ⟨g,0,none⟩) cap 1 1) (i - 1) (cap - 1)] w' (fun v D=>Chg (fun z=>z=b) w' D∧Chg XaW N D ∧ ∃ n c2,v = .slice (some ⟨n,0,none⟩) (i - 1) c2∧N.heap.size≤n∧Rd .i64 D (some ⟨n,0,none⟩) (XkA (M.pl.free.take i).tail)∧kd D n=some (some 3)):=fun w' ax=>by
      have hd:=XqF (Xqq (some ⟨g,0,none⟩) cap 1 1) (cap - 1) (XkA (M.pl.free.take i).tail) w' ((W av).chg ax) (by rw [XkC,a0]; omega) (by unfold Xqq; split <;> exact ⟨_,rfl⟩);rw [XkC,a0] at hd;exact hd.mono fun v D ⟨n,c2,q1,q2,q3,q4,q5⟩=>⟨q5.mono fun _ _ h=>h.elim,ax.trans q5,n,c2,q1,by have:=ax.size; omega,q3,q4⟩
     refine Xay.drawn (q:=9) (fun z=>z=b) hTT Xj9 (by kernel_rfl) rfl ?_;intro f;refine Xaq.index hTT f rfl (j:=0) (by omega) (by omega) (by first | rfl | omega | (simp; done) | (simp; omega)) rfl ?_;refine Xaq.load hTT f rfl (V av) (by first | exact fun h=>h | (intro h; omega) | assumption) rfl ?_;refine Xaq.slice hTT f rfl (l:=1) (h:=i) (by first | rfl | omega | simp [loV]) (by first | rfl | omega | simp [hiV]) (by omega) (by omega) rfl ?_;refine Xaq.callQ f rfl rfl (ch) ?_;rintro _ w9 _ ⟨ay,n,c2,rfl,dr,ci,cj⟩;refine Xaq.adv hTT f rfl ?_;refine Xaq.build hTT f rfl rfl ?_;refine Xaq.turn1 f rfl ?_;intro ds H;have az:=(ay.trans H).heap' U;refine XbK.store hTT f rfl az (by first | (intro h; exact rfl) | (intro h; omega)) rfl rfl rfl ?_;intro dt bu O d6;refine Xaq.nil f ?_;intro ck I;refine ζa rfl ?_;have b0:n≠b:=by omega
     have cl:=h.note (h8.grow (ay.trans H)) (Xh5 az) (by omega) B O (by decide);have cm:=cl.grow I;have bv:=I.heap' bu;have bw:=(((ci.chg H).far (S:=fun z=>z=b) (fun b' off s e=>by cases e; exact b0) O).chg I);have bh:Chg F w N:=((((((a1.mono fun _ _ h=>h.elim).trans (r.mono fun z _ d=>o.pf z d)).trans (t.mono fun _ _ h=>h.elim)).trans (A.mono fun z _ e=>e▸h.lf)).trans (C.mono fun _ _ h=>h.elim)).trans a8);have b9:Chg F w ck:=((bh.trans ((ay.trans H).mono fun _ _ h=>h.elim)).since O (fun z d e=>by omega)).trans (I.mono fun _ _ h=>h.elim);have d7:w.heap.size≤N.heap.size:=bh.size;exact ζq rfl Tryz.func158 (Xba.cell rfl rfl rfl bv rfl (.tmp rfl .nil)) ⟨⟨-1,(M.pl.free.getD 0 0:Nat),0,some ⟨n,0,none⟩,c2,XkA (M.pl.free.take i).tail⟩,by show Value.tuple #[Value.agg _,_]=Value.tuple #[Value.agg (#[_,_,_,Value.slice _ (XkA (M.pl.free.take i).tail).length _]:Array Value),_]; rw [XkC,a0],rfl,F,cm,fun z d => .inl d,b9,⟨bw,by rw [XkC,a0]; omega⟩,fun b' off s e d=>by cases e; have:=h.low _ d; omega,fun b' off s e=>by cases e; exact ⟨by omega,Xh6 I (Xh6 O (Xh6 H cj id) b0) id⟩⟩
   ·have G:XoH R.c M who size=XoV M (XmC R.c.classes size) who∧XoI R.c M who size=⟨XmC R.c.classes size,XoW M (XmC R.c.classes size) who,XoU M (XmC R.c.classes size) who,[]⟩∧XoG R.c M who size=XoT M (XmC R.c.classes size) who:=by
     exact ⟨by unfold XoH; rw [if_neg u,if_neg J,if_neg L],by unfold XoI; rw [if_neg u,if_neg J,if_neg L],by unfold XoG; rw [if_neg u,if_neg J,if_neg L]⟩
    rw [G.1,G.2.1,G.2.2];refine Xay.yes hTT rfl (by simpa using L) rfl ?_;refine ζc rfl (Xo9 o (XmC R.c.classes size) who) ?_;rintro _ w4 ⟨rfl,F4,h4,bi,r⟩;refine ζa rfl ?_;have bx:¬ F4 b:=fun d=>(bi b d).elim B (fun h=>by have:=Xjs T; omega);have a9:=r.heap T B;refine Xay.build hTT rfl rfl ?_;refine Xay.store hTT rfl a9 rfl rfl ?_;intro w5 co bj du;refine ζa rfl ?_;have h5:=h.note h4 (Xh5 a9) (by omega) bx bj (by decide);exact ζq rfl Tryz.func158 (Xba.cell rfl rfl rfl co rfl (.tmp rfl .nil)) ⟨⟨XmC R.c.classes size,XoW M (XmC R.c.classes size) who,XoU M (XmC R.c.classes size) who,none,0,[]⟩,rfl,rfl,F4,h5,(fun z d=>(bi z d).imp id (fun h=>by have:=a1.size; omega)),((a1.mono fun _ _ h=>h.elim).trans r).since bj (fun z d e=>by omega),noq _ _ _⟩
  ·have b1:XoH R.c M who size=Xoi R.c M size∧XoI R.c M who size=⟨0,0,0,[]⟩∧XoG R.c M who size=M:=by
    unfold XoH XoI XoG; rw [if_neg u,if_neg u,if_neg u,if_pos n,if_pos n,if_pos n]; exact ⟨rfl,rfl,rfl⟩
   rw [b1.1,b1.2.1,b1.2.2];refine Xay.yes hTT rfl (by simpa using n) rfl ?_;refine Xay.build hTT rfl rfl ?_;refine Xay.store hTT rfl Q rfl rfl ?_;intro w3 T b2 dv;refine ζa rfl ?_;have o:=h.note h2 (Xh5 Q) (by omega) B b2 (by decide);exact ζq rfl Tryz.func158 (Xba.cell rfl rfl rfl T rfl (.tmp rfl .nil)) ⟨⟨0,0,0,none,0,[]⟩,rfl,rfl,F,o,fun z d => .inl d,(af.mono fun _ _ h=>h.elim).since b2 (fun z d e=>by omega),noq 0 0 0⟩
theorem XiL {F:Nat→Prop} {w:World} {lm:Nat} {lg:List (Nat × List Nat)} (h:XaI F w lm lg):∃ m,XaL w lm m∧(∀ n:Int,XiK lg n=none→Xcc m n=none) ∧ ∀ (n:Nat) r,(n,r) ∈ lg → ∃ a cap,Xcc m n=some (.slice a r.length cap)∧Rd .i64 w a (XkA r)∧XaP F w a:=by
 obtain ⟨m,b,i,c,d⟩:=h;exact ⟨m,b,fun n f=>d n fun e g=>XiM f e g,fun n r hm=>c _ hm⟩
theorem XoZ {F:Nat→Prop} {w:World} {R:Rm} {M:RmM} (h:Xbe F w R M) (q:Plc) (hq:Xa4 w q):Xan Tryz.prog 191 #[rmV R,.agg (Xm6 q).toArray] w
 (fun v w'=>v = .int .i64 (Xof M (Xm8 q))∧Xbf F w w' R (Xoe M (Xm8 q))):=by
 have c3:maxLen=9223372036854775807:=rfl;refine Xan.enter Tryz.func191 rfl Tryz.ntmps191 rfl rfl ?_;refine ζa rfl ?_;refine Xay.alloc hTT rfl ?_;intro b w1 e1 D a0 c4;refine ζa rfl ?_;have b3:¬ F b:=fun c=>by have:=h.low b c; omega
 have S:=h.grow a0;replace D:w1.heap[b]? = some (.cells (Xm6 q).toArray 98 (0,0)):=D;have P:Chg F w w1:=a0.mono fun _ _ h=>h.elim;refine Xay.loadb hTT rfl D rfl rfl ?_;by_cases E:q.cls = -1
 ·have eD:Xof M (Xm8 q)=(match XiK M.lg q.page with | none=>1 | some r=>if XkA r=q.pages then 0 else 1)∧Xoe M (Xm8 q)=(match XiK M.lg q.page with | none=>M | some r=>if XkA r=q.pages then Xou M q.page.toNat r else M):=by
   unfold Xof Xoe Xm8;exact ⟨if_neg (fun h=>h E),if_neg (fun h=>h E)⟩
  rw [eD.1,eD.2];refine Xay.no hTT rfl (by simp [E]) rfl ?_;obtain ⟨m,hm,b4,a8⟩:=XiL S.lg;cases hg:XiK M.lg q.page with
  |none =>
   simp only
   refine Xay.drawn (q:=12) XaW hTT Xj9 (by kernel_rfl) rfl ?_;intro f;refine Xaq.loadb hTT f rfl S.obj (by first | exact fun h=>h | (intro h; omega) | assumption) rfl rfl ?_;refine Xaq.loadb hTT f rfl D (by first | exact fun h=>h | (intro h; omega) | assumption) rfl rfl ?_;refine Xaq.lookup hTT f rfl (hm) (by first | (intro b h; cases h; assumption) | (intro b h hs; cases h; omega)) ((show Xjf m _ _ true = .tuple #[.slice none 0 0,.bool false] from by unfold Xjf; rw [b4 _ hg]; rfl)) rfl ?_;refine Xaq.nil f ?_;intro w2 d;refine ζa rfl ?_;refine Xay.yes hTT rfl rfl rfl ?_;exact Xay.ret1 hTT rfl Tryz.func191 rfl rfl ⟨rfl,.of (S.grow d) (P.trans (d.mono fun _ _ h=>h.elim))⟩
  |some r =>
   simp only
   obtain ⟨n,hn,o⟩:=XiN hg;obtain ⟨a,cap,aa,ae,ab⟩:=a8 n r o;refine Xay.drawn (q:=12) XaW hTT Xj9 (by kernel_rfl) rfl ?_;intro f;refine Xaq.loadb hTT f rfl S.obj (by first | exact fun h=>h | (intro h; omega) | assumption) rfl rfl ?_;refine Xaq.loadb hTT f rfl D (by first | exact fun h=>h | (intro h; omega) | assumption) rfl rfl ?_;refine Xaq.lookup hTT f rfl (hm) (by first | (intro b h; cases h; assumption) | (intro b h hs; cases h; omega)) ((show Xjf m _ _ true = .tuple #[.slice a r.length cap,.bool true] from by unfold Xjf; rw [hn,aa]; rfl)) rfl ?_;refine Xaq.nil f ?_;intro w2 d;refine ζa rfl ?_;refine Xay.no hTT rfl rfl rfl ?_;have h2:=S.grow d;have af:=d.heap' D;have c5:r.length≤1024:=by
    obtain ⟨_,_,p3,_⟩:=XmN (l:=n::r) h.pool.good (by
     obtain ⟨A,B,eA,_⟩:=XiI h.ok.nd o;have e:XiF M.lg=XiF A++((n::r)++XiF B):=by rw [eA,XiG]; rfl
     have u:=h.ok.nd;rw [e] at u;exact (List.nodup_append.1 (List.nodup_append.1 u).2.1).1) (fun m t=>by
     obtain ⟨E,g2⟩:=h.ok.lg m (XjV o t);exact ⟨E,by omega⟩)
    have:=Xhp h.pool.good;simp only [List.length_cons] at p3;omega
   have hd:=XqJ a q.pa cap q.pc (XkA r) q.pages w2 (ae.chg d) ((hq.rd.chg a0).chg d) (by rw [XkC]; omega);rw [XkC] at hd;refine Xay.loadb hTT rfl af rfl rfl ?_;refine ζc rfl (hd) ?_;rintro _ w3 ⟨rfl,G⟩;refine ζa rfl ?_;have H:=h2.grow G;have ag:=G.heap' af;have a1:=d.trans G;by_cases T:XkA r=q.pages
   ·rw [if_pos T,if_pos T,hn,Int.toNat_natCast];refine Xay.no hTT rfl (by rw [decide_eq_true T]; rfl) rfl ?_;have bu:¬ R.rb=R.lm:=fun e=>h.rf (e▸h.lf);have b9:¬ b=R.lm:=fun e=>b3 (e▸h.lf);refine Xay.drawn (q:=7) (fun z=>z=R.lm) hTT Xj9 (by kernel_rfl) rfl ?_;intro f;refine Xaq.loadb hTT f rfl H.obj (by first | exact fun h=>h | (intro h; omega) | assumption) rfl rfl ?_;refine Xaq.loadb hTT f rfl ag (by first | exact fun h=>h | (intro h; omega) | assumption) rfl rfl ?_;refine Xaq.turn1 f rfl ?_;intro w4 C;have U:=H.grow C;obtain ⟨m4,ah,_⟩:=U.lg;refine XbK.mapdel hTT f rfl (ah) (by first | (intro h; exact rfl) | (intro h; omega)) rfl ?_;intro w5 ba I c6;refine Xaq.nil f ?_;intro w6 ai;refine ζa rfl ?_;have bb:=ai.heap' (I.heap (C.heap' ag) b9);refine Xay.loadb hTT rfl bb rfl rfl ?_;refine Xay.buildSlice hTT rfl ?_;intro b7 w7 e7 bc bd c7;refine ζa rfl ?_;refine Xay.buildSlice hTT rfl ?_;intro ob w8 e8 a2 aj c8;refine ζa rfl ?_;have be:XaI (R.FX F) w5 R.lm (XiH M.lg n):=U.lg.del I (fun m' h'=>by
     rw [h'.uniq ah,← hn];exact ba)
    have aw:Chg XaW w6 w8:=bd.trans aj;have y:Chg XaW w5 w8:=ai.trans aw;have bf:=be.chg y (fun _ _ h=>h.elim) id;have a3:=Xh7 U.lg;have bg:Xa5 w8 R.P M.pl:=(U.pool.chg I (Xib U.pool.kds.1 a3 (by simp)) (Xib U.pool.kds.2 a3 (by simp))).grow y;have bh:Rd .i64 w5 a (XkA r):=(((ae.chg d).chg G).chg C).far (fun b' off s e=>by
     have hk:=(ab b' off s e).1;exact Xib (Xh6 C (Xh6 G (Xh6 d hk id) id) id) a3 (by simp)) I
    have bj:=bh.chg y
    let ls:List Sl := [⟨some ⟨b7,0,none⟩,1,[(n:Int)]⟩,⟨a,cap,XkA r⟩]
    have a4:Xd3 ls=XkA (n::r):=by show [(n:Int)]++(XkA r ++ [])=_; rw [List.append_nil]; rfl
    have bk:(Xd3 ls).length=r.length+1:=by rw [a4,XkC]; rfl
    have ak:=XqG ob ls w8 (fun i V=>by
     replace V:i<2:=V;rcases (show i=0∨i=1 by omega) with rfl | rfl
     ·rw [Xd7 a2]; rfl
     ·rw [Xd7 a2];show some (Value.slice a r.length cap)=some (Value.slice a (XkA r).length cap)
      rw [XkC]) (fun l hl=>by
     rcases List.mem_cons.1 hl with rfl | hl
     ·have ax:=aj.heap' bc;exact Rd.of_cells fun i V=>by
       have:i=0:=by replace V:i<1:=V; omega
       subst this;rw [Xd7 ax,hn]; rfl
     ·rw [List.mem_singleton] at hl; subst hl;exact bj) (by show 2≤1024; omega) (by omega) (by omega)
    rw [bk] at ak;refine ζc rfl (ak) ?_;rintro _ w9 ⟨g,c9,rfl,ca,al,a5⟩;refine ζa rfl ?_;rw [a4] at al;have am:=bg.grow a5;have J:Chg (fun z=>XmH R.P z∨z=R.lm) w3 w9:=((((C.mono fun _ _ h=>h.elim).trans (I.mono fun _ _ h => .inr h)).trans (y.mono fun _ _ h=>h.elim)).trans (a5.mono fun _ _ h=>h.elim));have an:∀ z,(XmH R.P z∨z=R.lm)→F z:=fun z c=>c.elim (h.pf z) (fun e=>e▸h.lf);have ad:=J.heap H.obj (fun c=>h.rf (an _ c));have ay:¬ XmH R.P R.rb:=fun c=>h.rf (h.pf _ c);refine Xay.loop (α:=Nat) (fun i => [(0,false,rmV R),(5,false,.slice a r.length cap),(54,false,.slice (some ⟨g,0,none⟩) (r.length+1) c9),(55,false,.int .i64 ((r.length+1:Nat):Int)),(56,false,.int .i64 i)])
     (fun i w'=>i≤r.length+1∧Xa5 w' R.P (XmL M.pl ((n::r).take i))∧Chg (XmH R.P) w9 w') (fun i=>r.length+1 - i) 0 ⟨rfl,rfl,rfl,rfl,rfl,trivial⟩ ⟨Nat.zero_le _,am,Chg.refl _ _⟩ ?_
    rintro i bm ⟨V,K,p⟩ ih;refine ζa rfl ?_;refine Xay.fork hTT rfl rfl rfl (fun a6 => ?_) (fun a6 => ?_)
    ·have ao:i<r.length+1:=by have:=of_decide_eq_true a6; omega
     have L:i<(n::r).length:=ao;have c0:=am.lt;obtain ⟨b',off',e',Q⟩:=al i (by rw [XkC]; exact L);cases e'
     have ev:(XkA (n::r)).getD i 0=((n::r)[i]:Int):=by
      unfold XkA;rw [List.getD_eq_getElem?_getD,List.getElem?_map,List.getElem?_eq_getElem L];rfl
     rw [ev] at Q;have c1:=Xjs a2;have W:=p.cell Q (fun c=>by
      have:=H.pool.lt;have:=C.size;have:=y.size;rcases c with e | e <;> omega)
     refine Xay.index hTT rfl (j:=i) (by omega) (by omega) (by first | rfl | omega | (simp; done) | (simp; omega)) rfl ?_;refine ζk rfl W rfl ?_;refine Xay.loadb hTT rfl (p.heap ad ay) rfl rfl ?_;refine ζc rfl (Xna R.P _ (((n::r)[i]:Nat):Int) bm K) ?_;rintro _ ap ⟨_,az,N⟩;refine ζa rfl ?_;refine Xay.arith hTT rfl (w64 (by omega)) rfl ?_;exact ih (i+1) _ _ ⟨ao,by
      have e:XmL M.pl ((n::r).take (i+1))=XmI (XmL M.pl ((n::r).take i)) (((n::r)[i]:Nat):Int):=by
       rw [List.take_add_one,List.getElem?_eq_getElem L];unfold XmL;rw [List.foldl_append];rfl
      rw [e]; exact az,p.trans N⟩ (by omega) ⟨rfl,rfl,rfl,rfl,rfl,trivial⟩
    ·have bn:i=r.length+1:=by have:=of_decide_eq_false a6; omega
     subst bn;have etk:(n::r).take (r.length+1)=n::r:=List.take_length (l:=n::r);rw [etk] at K;obtain ⟨bo,_⟩:=h.ok.gone h.pool.good o;have b0:=(bf.chg a5 (fun _ _ h=>h.elim) id).chg p (fun z _ c => .inl (h.pf z c)) (fun c=>by
      have aq:=Xh7 H.lg;have kp:=H.pool.kds;rcases c with e | e
      ·exact Xib aq kp.1 (by simp) e
      ·exact Xib aq kp.2 (by simp) e)
     have u:(n::r).Nodup:=by
      obtain ⟨A,B,eA,_⟩:=XiI h.ok.nd o;have e:XiF M.lg=XiF A++((n::r)++XiF B):=by rw [eA,XiG]; rfl
      have u:=h.ok.nd;rw [e] at u;exact (List.nodup_append.1 (List.nodup_append.1 u).2.1).1
     have O:∀ m ∈ n::r,m<M.pl.own.length∧M.pl.own.getD m 0=(M.shs.length:Int):=fun m t=>h.ok.lg m (XjV o t);have ar:=H.swap (pl':=XmL M.pl (n::r)) (lg':=XiH M.lg n) {bo with tot:=h.ok.tot} (J.trans (p.mono fun _ _ h => .inl h)) K b0 (fun k x hx bq=>by
      have hk:k<M.shs.length:=(List.getElem?_eq_some_iff.1 hx).1;have cb:=(h.ok.each k x hx).1;exact XmM h.pool.good u (fun m t=>⟨(O m t).1,by have:=(O m t).2; omega⟩) bq (fun m t=>by have:=(O m t).2; omega))
     refine Xay.loadb hTT rfl ar.obj rfl rfl ?_;refine Xay.arith hTT rfl (w64 (by omega)) rfl ?_;refine Xay.arith hTT rfl (w64 (by omega)) rfl ?_;refine Xay.arith hTT rfl (w64 (by omega)) rfl ?_;refine Xay.arith hTT rfl (w64 (by omega)) rfl ?_;rw [show ((r.length:Nat):Int)*1=(r.length:Int) from by omega];refine ζc rfl (Xpc ar ((((r.length:Nat):Int)+1)*4+(r.length:Int))) ?_;rintro _ ap ⟨a7,N⟩;refine ζa rfl ?_;replace a7:Xbe F ap R (Xou M n r):=a7;have b1:Chg F w w3:=P.trans (a1.mono fun _ _ h=>h.elim);exact Xay.ret1 hTT rfl Tryz.func191 rfl rfl ⟨rfl,.of a7 (((b1.trans (J.mono fun z _ c=>an z c)).trans (p.mono fun z _ c=>h.pf z c)).trans N)⟩
   ·rw [if_neg T,if_neg T];refine Xay.yes hTT rfl (by rw [decide_eq_false T]; rfl) rfl ?_;exact Xay.ret1 hTT rfl Tryz.func191 rfl rfl ⟨rfl,.of H (P.trans (a1.mono fun _ _ h=>h.elim))⟩
 ·have eD:Xof M (Xm8 q)=Xos M q.cls q.page q.idx∧Xoe M (Xm8 q)=Xor M q.cls q.page q.idx:=by
   unfold Xof Xoe Xm8;exact ⟨if_pos E,if_pos E⟩
  rw [eD.1,eD.2];refine Xay.yes hTT rfl (by simpa using E) rfl ?_;refine Xay.loadb hTT rfl D rfl rfl ?_;refine Xay.loadb hTT rfl D rfl rfl ?_;refine Xay.loadb hTT rfl D rfl rfl ?_;refine ζc rfl (Xo1 S q.cls q.page q.idx) ?_;rintro _ w2 ⟨rfl,hT⟩;refine ζa rfl ?_;exact Xay.ret1 hTT rfl Tryz.func191 rfl rfl ⟨rfl,Xbf.trans (fun z c => .inl c) P hT⟩
theorem Xbs.note {w w':World} {S:Sh} {G:Nat→Pg} {x:Sm} {pl:PlM} (h:Xbs w S G x pl) {eb t:Nat} (hk:kd w eb=some (some t)) (hc:Chg (fun z=>z=eb) w w') (htb:1≠eb)
 (ht:t≠262∧t≠319∧t≠272∧t≠329∧t≠334∧t≠336∧t≠325∧t≠366):Xbs w' S G x pl:=by
 have d:∀ {t':Nat},t≠t'→some (some t)≠some (some t'):=fun h e=>h (Option.some.inj (Option.some.inj e));have kp:=h.pool.kds;have ap:=h.at'.apart hk ht.2.2;exact ⟨h.ok,h.pos,h.of,h.at'.chg hc (fun z e=>e▸ap.1) (fun z e=>e▸ap.2) htb,h.pool.chg hc (Xib kp.1 hk (Ne.symm (d ht.1))) (Xib kp.2 hk (Ne.symm (d ht.2.1)))⟩
theorem Xbs.own {w w':World} {S:Sh} {G:Nat→Pg} {x:Sm} {pl:PlM} (h:Xbs w S G x pl) {base m:Nat} {v:Value} {xs:List Value} (ho:Own base 207 1 w v m xs) (hc:Chg (Xlq v) w w') (htb:1<base):Xbs w' S G x pl:=by
 rcases ho.2 with ⟨rfl,_⟩ | ⟨g,cap,cur,rfl,b,a,_⟩
 ·exact h.grow (hc.mono fun z _ e=>by cases e)
 ·exact h.note (Xh5 a) (hc.mono fun z _ e=>Option.some.inj e) (by omega) (by decide)
def XkQ (c:Conf) (n:Nat):List Sm:=(List.range n).map fun k=>XkT (k:Nat) (XdI c (k:Nat)).toNat
def XkM (c:Conf) (tot:Int):RmM:=⟨XkQ c c.classes.length,XmO c.pages.toNat,[],tot⟩
theorem XkR {c:Conf} {n k:Nat} {x:Sm} (h:(XkQ c n)[k]? = some x):k<n∧x=XkT (k:Nat) (XdI c (k:Nat)).toNat:=by
 unfold XkQ at h;rw [List.getElem?_map,Option.map_eq_some_iff] at h;obtain ⟨j,d,e⟩:=h;obtain ⟨a,b⟩:=List.getElem?_eq_some_iff.1 d;simp only [List.length_range] at a;rw [List.getElem_range] at b;subst b;exact ⟨a,e.symm⟩
theorem XkS (c:Conf):∀ n,XpP (XkQ c n)=0
 |0=>rfl
 |n+1=>by
  have:=XkS c n;unfold XpP XkQ at *;rw [List.range_succ,List.map_append,List.map_append,List.sum_append,this];rfl
theorem XdJ {c:Conf} (h:XjN c=true) {k:Nat} (hk:k<c.classes.length):1≤XdI c k∧XdI c k≤512:=by
 have a:=XjT h;have g:=a.size;have d:XeN c.classes c.size=true:=by
  unfold XjN at h;simp only [Bool.and_eq_true,decide_eq_true_eq] at h;exact h.1.1.1.1.1.2
 obtain ⟨e,_,i⟩:=XeO d k hk;unfold XdI;rw [if_pos (by omega),Int.toNat_natCast,Xum (by omega) (by omega)];constructor
 ·exact (Int.le_ediv_iff_mul_le (by omega)).2 (by omega)
 ·have j:c.size / c.classes.getD k 0≤c.size / 8:=by
   refine Int.le_ediv_of_mul_le (by omega) ?_;have l:=Int.ediv_mul_le c.size (b:=c.classes.getD k 0) (by omega);have f:0≤c.size / c.classes.getD k 0:=Int.ediv_nonneg (by omega) (by omega);have m:=Int.mul_le_mul_of_nonneg_left e f;omega
  omega
theorem XkN {c:Conf} (h:XjN c=true) {tot:Int} (ht:0≤tot∧tot≤4611686018427387904):(XkM c tot).Ok c:=by
 have a:=XjT h;have e:=a.pages;refine ⟨by show (XkQ c _).length=_; unfold XkQ; simp,fun k x b => ?_,?_,(fun m hm=>by cases hm),List.nodup_nil,?_,ht⟩
 ·obtain ⟨d,rfl⟩:=XkR b;have:=XdJ h d;exact ⟨rfl,by show (((XdI c k).toNat:Nat):Int)=_; omega⟩
 ·show (((List.replicate c.pages.toNat (-1:Int)).length:Nat):Int)=_
  rw [List.length_replicate]; omega
 ·show Xho (XmO c.pages.toNat)=XpP (XkQ c _)+0
  rw [XkS];exact Xmx _
theorem Xo3 (c:Conf) (p:Xal) (mo:Option Nat) (tot lap:Int) (X:Nat→Prop) (w:World) (hc:Xam w c p) (ht:XbA w) (hX:∀ z,X z→z<w.heap.size∧mo≠some z) (hmo:∀ b,mo=some b→XaO w b tot lap∧Far (fun z=>z=b) w p.ca c.classes∧Far (fun z=>z=b) w p.ka c.keep) (htot:0≤tot∧tot≤4611686018427387904) :
 Xan Tryz.prog 88 #[.agg (Xe6 c p).toArray,ptr mo] w (fun v w'=>Chg XaW w w'∧if XjN c=true then ∃ F R,R.c=c∧R.p=p∧R.mo=mo∧v = .tuple #[rmV R,.int .i64 0]∧Xbe F w' R (XkM c tot)∧(∀ z,F z→w.heap.size≤z∨mo=some z)∧R.lap=lap∧R.X=X else v = .tuple #[.pointer none,.int .i64 1]):=by
 have ch:maxLen=9223372036854775807:=rfl;refine ζe Tryz.func88 Tryz.ntmps88 rfl (ζn rfl fun cb w1 e1 ao a7 ci => ?_);refine ζl ao rfl (ζv (Xe9 c p w1 (hc.chg a7)) rfl fun w2 Q => ?_);have a8:=Q.heap' ao;by_cases hm:XjN c=true
 ·have em:XjQ c=0:=by unfold XjQ; rw [if_pos hm]
  have hf:=XjT hm;have cj:=hf.n;have ck:=hf.pages;rw [em];simp only [hm,if_true];refine ζf rfl (ζl a8 rfl ?_);obtain ⟨N,hN⟩:=Int.eq_ofNat_of_zero_le (show 0≤c.pages by omega);rw [hN];refine ζc rfl (Xnc N w2 (by omega)) ?_;rintro _ w3 ⟨P,rfl,⟨cl,cm⟩,aq,a9⟩;refine ζa rfl ?_;have aa:=a9.heap' a8;have c0:=aq.lt;refine ζl aa rfl (Xay.mkmap rfl fun lm w4 e4 bi ab cn=>ζa rfl (ζb rfl (ζn rfl fun rb J e5 ar T co => ?_)));have cp:=Q.size;have cq:=a9.size;have ac:=T.heap' (ab.heap' aa);have K:=(((a7.trans Q).trans a9).trans ab).trans T;have c1:1<w.heap.size:=World.block_lt_of_cell? w _ (ht 0 (by decide));have bj:Xa5 J P (XmO N):=(aq.grow ab).grow T;refine Xay.loadb hTT rfl ac rfl rfl ?_;refine Xay.loop (α:=Nat × Value × List Sh) (fun x => [(2,false,.pointer (some ⟨cb,0,none⟩)),(7,false,plV P),(8,false,.int .i64 0),(9,false,.pointer (some ⟨rb,0,none⟩)),(32,false,.int .i64 c.classes.length),(33,false,.int .i64 x.1)])
   (fun x w'=>x.1≤c.classes.length∧x.2.2.length=x.1∧w'.heap[rb]? = some (.cells (Xe6 c p ++ [ptr mo,plV P,x.2.1,.map (some lm)]).toArray 206 (0,0))∧Own J.heap.size 207 1 w' x.2.1 x.1 (x.2.2.map sfV) ∧
    (∀ (k:Nat) (S:Sh),x.2.2[k]? = some S→S.P=P∧(∀ G,Xbs w' S G (XkT (k:Nat) (XdI c (k:Nat)).toNat) (XmO N)) ∧ ∀ G z,XpK S G [] z→J.heap.size≤z∧z<w'.heap.size) ∧
    (∀ (j k:Nat) (S S':Sh),j<k→x.2.2[j]? = some S→x.2.2[k]? = some S' → ∀ G G' z,XpK S G [] z → ¬ XpK S' G' [] z)∧Chg (fun z=>z=rb) J w') (fun x=>c.classes.length - x.1) (0,.slice none 0 0,[]) ⟨rfl,rfl,rfl,rfl,rfl,rfl,trivial⟩ ⟨Nat.zero_le _,rfl,ar,⟨rfl,.inl ⟨rfl,rfl⟩⟩,(fun k S h=>by cases h),(fun j k S S' _ h=>by cases h),Chg.refl _ _⟩ ?_
  rintro ⟨i,v,ls⟩ I ⟨hi,ad,B,U,n,C,r⟩ ih;simp only at hi ad B U n C
  have f:Chg XaW w I:=K.since r (fun z hz e=>by omega);have au:Xa5 I P (XmO N):=bj.chg r (by omega) (by omega);refine ζa rfl ?_;refine Xay.fork hTT rfl rfl rfl (fun ae => ?_) (fun ae => ?_)
  ·have af:i<c.classes.length:=by have:=of_decide_eq_true ae; omega
   have cr:=XdJ hm af;obtain ⟨bk,ag⟩:=Int.eq_ofNat_of_zero_le (show 0≤XdI c i by omega);have b4:=r.heap ac (by omega);refine Xay.loads hTT rfl b4 rfl rfl ?_;refine ζc rfl (Xe7 c p (i:Nat) I (hc.chg f)) ?_;rintro _ w7 ⟨rfl,V⟩;refine ζa rfl ?_;rw [ag];have b5:=f.trans V;refine ζc rfl (Xqa P (XmO N) (i:Nat) bk w7 (ht.grow b5) (by omega) (by omega) (au.grow V)) ?_;rintro _ w8 ⟨S,bl,rfl,av,d,aw⟩;refine ζa rfl ?_;have ah:=V.trans aw;have b6:=ah.heap' B;refine Xay.loadb hTT rfl b6 rfl rfl ?_;refine Xay.buildSlice hTT rfl ?_;intro b9 w9 e9 bm ax cs;refine ζa rfl ?_;have t:=ah.trans ax;have b7:=t.heap' B;have W:=U.chg t (fun _ _ h=>h);have c5:=r.size;have c6:=t.size;refine Xay.append (base:=J.heap.size) (xs:=ls.map sfV) (news := [sfV S]) hTT rfl W (by omega) (by simp) (Xd8 bm) (by simp [Value.oneCell']) ⟨by omega,by show (i+1)*8≤_; omega⟩ ?_;intro v' ct L D c7;refine ζa rfl ?_;have bv:=Xjs ar;have b8:¬ Xlq v rb:=fun e=>by have:=(World.ownsRow.lt W _ e.symm).1; omega
   have a0:=D.heap b7 b8;obtain ⟨g',cap',cur',rfl,_⟩:=L.form (by omega);refine Xay.store hTT rfl a0 rfl rfl ?_;intro ai E M c8;refine ζa rfl ?_;replace E:ai.heap[rb]? = some (.cells (Xe6 c p ++ [ptr mo,plV P,.slice (some ⟨g',0,none⟩) (i+1) cap',.map (some lm)]).toArray 206 (0,0)):=E;refine Xay.arith hTT rfl (w64 (by omega)) rfl ?_;have ba:=Xh5 a0;have bw:=D.size;have ay:∀ {S':Sh} {G:Nat→Pg} {x:Sm} {pl:PlM},Xbs w9 S' G x pl→Xbs ai S' G x pl:=fun h=>(h.own W D (by have:=K.size; omega)).note ba M (by have:=K.size; omega) (by decide);have am:Chg (fun z=>z=rb) J ai:=((r.trans (t.mono fun _ _ h=>h.elim)).since D (fun z hz e=>by have:=(World.ownsRow.lt W _ e.symm).1; omega)).trans M;have c9:=aw.size;have ca:=V.size;have bb:=fun G=>(d G).foot_lt;exact ih (i+1,.slice (some ⟨g',0,none⟩) (i+1) cap',ls ++ [S]) _ _ ⟨af,by simp [ad],E,by
    have:=L.chg M (fun z hz e=>by
     subst e;have:=(World.ownsRow.lt L _ hz.symm).1; omega)
    simpa using this,fun k S' m=>by
    by_cases e:k<ls.length
    ·rw [List.getElem?_append_left e] at m;obtain ⟨a1,a2,a3⟩:=n k S' m;exact ⟨a1,fun G=>ay ((a2 G).grow t),fun G z hz=>by obtain ⟨b1,b2⟩:=a3 G z hz; exact ⟨b1,by omega⟩⟩
    ·rw [List.getElem?_append_right (by omega)] at m;have e2:k=ls.length:=by
      have:=(List.getElem?_eq_some_iff.1 m).1;simp only [List.length_singleton] at this;omega
     subst e2;simp only [Nat.sub_self,List.getElem?_cons_zero,Option.some.injEq] at m;subst m;refine ⟨bl,fun G=>ay ?_,fun G z hz => ?_⟩
     ·rw [ad,ag,Int.toNat_natCast]; exact (d G).grow ax
     ·have g1:=av G z hz;have g2:=bb G z (.inl hz);exact ⟨by omega,by omega⟩,fun j k S1 S2 a4 h1 h2 G G' z hz=>by
    by_cases e:k<ls.length
    ·rw [List.getElem?_append_left e] at h2;rw [List.getElem?_append_left (by omega)] at h1;exact C j k S1 S2 a4 h1 h2 G G' z hz
    ·rw [List.getElem?_append_right (by omega)] at h2;have e2:k=ls.length:=by
      have:=(List.getElem?_eq_some_iff.1 h2).1;simp only [List.length_singleton] at this;omega
     subst e2;simp only [Nat.sub_self,List.getElem?_cons_zero,Option.some.injEq] at h2;subst h2;rw [List.getElem?_append_left a4] at h1;have g1:=((n j S1 h1).2.2 G z hz).2;exact fun u=>by have:=av G' z u; omega,am⟩ (by simp only; omega) ⟨rfl,rfl,rfl,rfl,rfl,rfl,trivial⟩
  ·have bq:i=c.classes.length:=by have:=of_decide_eq_false ae; omega
   subst bq;obtain ⟨g,cap,cur,rfl,cu,az,_⟩:=U.form (by omega);have aj:=World.ownsRow.cells U (g:=g) rfl;have br:=Xh5 az;have cv:=Xjs az;have ce:=r.size
   let q:Nat→Pg:=fun _=>⟨0,0,0⟩
   let R:Rm:=⟨rb,c,p,mo,P,g,cap,lm,fun k=>ls.getD k ⟨0,0,⟨0,0,0⟩,P⟩,lap,X⟩
   let F:Nat→Prop:=fun z=>(∃ (k:Nat) (S:Sh),ls[k]? = some S∧XpK S q [] z)∨XmH P z∨z=lm∨mo=some z
   have o:∀ z,F z→(w.heap.size≤z∧z<I.heap.size)∨mo=some z:=fun z hz=>by
    rcases hz with ⟨k,S,d,hz⟩ | hz | hz | hz
    ·obtain ⟨b1,b2⟩:=(n k S d).2.2 q z hz;exact .inl ⟨by omega,b2⟩
    ·rcases hz with e | e <;> exact .inl ⟨by omega,by omega⟩
    ·exact .inl ⟨by omega,by omega⟩
    ·exact .inr hz
   have O:∀ b,mo=some b→b<w.heap.size:=fun b A=>by
    obtain ⟨hm,_⟩:=hmo b A;exact Xjs hm.1
   have ak:∀ {a:Option Addr} {l:List Int},Rd .i64 w a l→(∀ b,mo=some b→Far (fun z=>z=b) w a l)→Far F I a l:=fun {a l} hr A=>⟨hr.chg f,fun hl b off s e hz=>by
    have af:=hr.block hl e;rcases o b hz with ⟨h,_⟩ | h
    ·omega
    ·exact (A b h).2 hl b off s e rfl⟩
   have a5:∀ (k:Nat) (S:Sh),ls[k]? = some S→R.S k=S:=fun k S h=>by
    show ls.getD k _=S
    rw [List.getD_eq_getElem?_getD,h]; rfl
   have H:∀ (k:Nat),k<c.classes.length → ∃ S,ls[k]? = some S:=fun k m=>⟨_,List.getElem?_eq_getElem (by omega)⟩;have b0:(XkQ c c.classes.length).length=c.classes.length:=by unfold XkQ; simp
   exact Xay.ret2 hTT rfl Tryz.func88 rfl rfl rfl ⟨f,F,R,rfl,rfl,rfl,rfl,⟨XkN hm htot,by show I.heap[rb]? = some (.cells (rmL R (XkQ c c.classes.length).length).toArray _ _); rw [b0]; exact B,ak hc.classes (fun b A=>(hmo b A).2.1),ak hc.keep (fun b A=>(hmo b A).2.2),hm,
    fun b A=>⟨.inr (.inr (.inr A)),by obtain ⟨h,_⟩:=hmo b A; exact h.chg f⟩,fun k m=>by
     replace m:k<(XkQ c c.classes.length).length:=m;rw [b0] at m;obtain ⟨S,d⟩:=H k m;have:=aj k (sfV S) (by rw [List.getElem?_map,d]; rfl);rw [XbR] at this;rw [a5 k S d]
     simpa using this,by show Xa5 I P (XmO c.pages.toNat); rw [hN,Int.toNat_natCast]; exact au,fun z hz => .inr (.inl hz),⟨fun _=>q,fun k x hx=>by
     obtain ⟨m,rfl⟩:=XkR hx;obtain ⟨S,d⟩:=H k m;obtain ⟨a1,a2,a3⟩:=n k S d;rw [a5 k S d];refine ⟨a1,by show Xbs I S q _ (XmO c.pages.toNat); rw [hN,Int.toNat_natCast]; exact a2 q,fun z hz=>⟨.inl ⟨k,S,d,hz⟩,fun e => ?_⟩⟩;have:=(a3 q z hz).1;have e':z=lm:=e;omega,fun j k x y a4 hx hy z hz u=>by
     obtain ⟨hj,rfl⟩:=XkR hx;obtain ⟨m,rfl⟩:=XkR hy;obtain ⟨S,d⟩:=H j hj;obtain ⟨S',al⟩:=H k m;rw [a5 j S d] at hz;rw [a5 k S' al] at u;rcases Nat.lt_or_gt_of_ne a4 with h | h
     ·exact C j k S S' h d al q q z hz u
     ·exact C k j S' S h al d q q z u hz⟩,⟨[],(bi.chg T id).chg r (by omega),List.nodup_nil,(fun e he=>by cases he),fun _ _=>rfl⟩,.inr (.inr (.inl rfl)),fun hz=>by
     rcases hz with ⟨k,S,d,hz⟩ | hz | hz | hz
     ·have:=((n k S d).2.2 q _ hz).1;replace this:J.heap.size≤rb:=this;omega
     ·rcases hz with e | e
      ·replace e:rb=P.pb:=e; omega
      ·replace e:rb=P.ab:=e; omega
     ·replace hz:rb=lm:=hz; omega
     ·have:=O _ hz;replace this:rb<w.heap.size:=this;omega,fun hz=>by
     rcases hz with ⟨k,S,d,hz⟩ | hz | hz | hz
     ·have ap:=((n k S d).2.1 q).at'.apart br (by decide);rcases hz with e | e | e | ⟨e,he,_⟩
      ·exact ap.1.1 e
      ·exact ap.1.2.1 e
      ·exact ap.1.2.2.2 e
      ·cases he
     ·rcases hz with e | e
      ·replace e:g=P.pb:=e; omega
      ·replace e:g=P.ab:=e; omega
     ·replace hz:g=lm:=hz; omega
     ·have:=O _ hz;replace this:g<w.heap.size:=this;omega,fun z hz=>by
     rcases o z hz with ⟨_,h⟩ | h
     ·exact h
     ·have:=O z h; have:=f.size; omega,ht.grow f,fun hz=>by
     rcases o _ hz with ⟨h,_⟩ | h
     ·omega
     ·obtain ⟨bu,_⟩:=hmo _ h;exact XsJ ht (fun v e=>by rw [Xd7 bu.1] at e; simp at e) rfl,fun z hz=>⟨by have:=(hX z hz).1; have:=f.size; omega,fun u=>by
     rcases o z u with ⟨h,_⟩ | h
     ·have:=(hX z hz).1; omega
     ·exact (hX z hz).2 h⟩⟩,fun z hz=>(o z hz).imp (·.1) id,rfl,rfl⟩
 ·have em:XjQ c=1:=by unfold XjQ; rw [if_neg hm]
  rw [em];simp only [hm];exact ζy rfl (ζr Tryz.func88 rfl ⟨a7.trans Q,rfl⟩)
section
variable {α:Type} {cells:α→List Value} {sz:Nat}
def fl (cells:α→List Value) (xs:List α):List Value:=xs.flatMap cells
theorem Xgb (xs ys:List α):fl cells (xs++ys)=fl cells xs++fl cells ys:=by unfold fl; rw [List.flatMap_append]
theorem Xgd (hl:∀ x,(cells x).length=sz):∀ xs:List α,(fl cells xs).length=xs.length*sz
 |[]=>by simp [fl]
 |x::r=>by
  have:=Xgd hl r;unfold fl at *;rw [List.flatMap_cons,List.length_append,this,hl,List.length_cons,Nat.succ_mul];omega
theorem Xgc (hl:∀ x,(cells x).length=sz) {j:Nat} (hj:j<sz):∀ (xs:List α) (i:Nat) (x:α),xs[i]? = some x→(fl cells xs)[i*sz+j]? = (cells x)[j]?
 |[],i,x,h=>by simp at h
 |y::r,0,x,h=>by
  cases h
  unfold fl;rw [List.flatMap_cons,Nat.zero_mul,Nat.zero_add,List.getElem?_append_left (by rw [hl]; exact hj)]
 |y::r,i+1,x,h=>by
  have:=Xgc hl hj r i x h;unfold fl at *;rw [List.flatMap_cons,List.getElem?_append_right (by rw [hl,Nat.succ_mul]; omega),hl,← this]
  congr 1
  rw [Nat.succ_mul]; omega
theorem Xpy:∀ (A old vs B:List Value),old.length=vs.length→Xps (A++(old++B)) A.length vs=some (A++(vs++B))
 |[],[],[],B,_=>by cases B <;> rfl
 |[],o::old,v::vs,B,h=>by
  have:=Xpy [] old vs B (by simpa using h);simp only [List.nil_append,List.length_nil] at this;show Xps (o::(old++B)) 0 (v::vs)=_
  unfold Xps;rw [this]; rfl
 |x::A,old,vs,B,h=>by
  have:=Xpy A old vs B h;show Xps (x::(A++(old++B))) (A.length+1) vs=_
  unfold Xps;rw [this]; rfl
theorem Xge (hl:∀ x,(cells x).length=sz) {xs:List α} {k:Nat} {y:α} {rest:List Value} (hk:k<xs.length):Xps (fl cells xs++rest) (0+k*sz) (cells y)=some (fl cells (xs.set k y)++rest):=by
 have e1:xs=xs.take k++(xs[k]::xs.drop (k+1)):=by rw [← List.drop_eq_getElem_cons hk,List.take_append_drop]
 have e2:xs.set k y=xs.take k++(y::xs.drop (k+1)):=List.set_eq_take_append_cons_drop.trans (if_pos hk);have a:(fl cells (xs.take k)).length=0+k*sz:=by rw [Xgd hl,List.length_take,Nat.min_eq_left (by omega),Nat.zero_add]
 have f1:∀ z,fl cells (xs.take k++(z::xs.drop (k+1)))++rest=fl cells (xs.take k)++(cells z++(fl cells (xs.drop (k+1))++rest)):=fun z=>by
  rw [Xgb];unfold fl;rw [List.flatMap_cons];simp only [List.append_assoc]
 rw [e2,f1 y,← a]
 conv=>lhs; rw [e1,f1 xs[k]]
 rw [show (xs.take k++xs[k]::xs.drop (k+1)).take k=xs.take k from by rw [← e1]];exact Xpy _ _ _ _ (by rw [hl,hl])
end
structure RR where
 c:Conf
 cp:Xal
 p:RP
 ss:List RS
 sa:Option Addr
 scap:Nat
 lg:List Plc
 la:Option Addr
 lcap:Nat
 steps:Int
def lgP (e:Nat × List Nat):PlcM:=⟨-1,(e.1:Nat),0,XkA e.2⟩
structure MOk (M:RmM):Prop where
 sh:∀ (k:Nat) (x:Sm),M.shs[k]? = some x→x.Ok∧x.Of M.pl
 good:M.pl.Good
theorem Xbe.mok {F:Nat→Prop} {w:World} {R:Rm} {M:RmM} (h:Xbe F w R M):MOk M:=⟨fun k x b=>by
 obtain ⟨G,_,a,_⟩:=h.shelf b;exact ⟨a.ok,a.of⟩,h.pool.good⟩
structure Xbj (w:World) (r:RR) (M:RmM):Prop where
 p:Xbi w r.p M.pl
 sr:Rows rsL 7 w r.sa r.ss
 sl:ALt w r.sa
 sc:r.ss.length≤r.scap
 n:r.ss.length=M.shs.length
 few:r.ss.length≤16
 each:∀ (k:Nat) (s:RS) (x:Sm),r.ss[k]? = some s→M.shs[k]? = some x → ∃ pk,Xbl w s x pk∧x.Of pk
 lr:Rows Xm6 4 w r.la r.lg
 ll:ALt w r.la
 lc:r.lg.length≤r.lcap
 lm:r.lg.length≤1024
 lge:r.lg.map Xm8=M.lg.map lgP
 lgo:∀ q ∈ r.lg,Xa4 w q∧ALt w q.pa
 st:r.steps=M.tot
structure Xbk (S:Nat→Prop) (r:RR):Prop where
 o:XaX S r.p.o.a
 f:XaX S r.p.f.a
 sa:XaX S r.sa
 each:∀ s ∈ r.ss,Xbm S s
 la:XaX S r.la
 lgo:∀ q ∈ r.lg,XaX S q.pa
theorem Rows.far {α:Type} {cells:α→List Value} {sz:Nat} {w w':World} {a:Option Addr} {xs:List α} {S:Nat→Prop} (h:Rows cells sz w a xs) (hs:XaX S a) (hc:Chg S w w'):Rows cells sz w' a xs:=fun i x d=>by
 obtain ⟨b,off,e,c⟩:=h i x d;exact ⟨b,off,e,fun j v f=>hc.cell (c j v f) (hs b off _ e)⟩
theorem Xbj.grow {w w':World} {r:RR} {M:RmM} (h:Xbj w r M) (hc:Chg XaW w w'):Xbj w' r M :=
 ⟨h.p.grow hc,h.sr.chg hc,h.sl.grow hc.size,h.sc,h.n,h.few,fun k s x d e=>by obtain ⟨pk,a,b⟩:=h.each k s x d e; exact ⟨pk,a.grow hc,b⟩,h.lr.chg hc,h.ll.grow hc.size,h.lc,h.lm,h.lge,fun q c=>⟨(h.lgo q c).1.grow hc,(h.lgo q c).2.grow hc.size⟩,h.st⟩
theorem Xbj.far {w w':World} {r:RR} {M:RmM} {S:Nat→Prop} (h:Xbj w r M) (ho:Xbk S r) (hc:Chg S w w'):Xbj w' r M :=
 ⟨⟨h.p.o.far ho.o hc,h.p.f.far ho.f hc,h.p.eo,h.p.ef⟩,h.sr.far ho.sa hc,h.sl.grow hc.size,h.sc,h.n,h.few,fun k s x d e=>by obtain ⟨pk,a,b⟩:=h.each k s x d e; exact ⟨pk,a.far (ho.each s (List.mem_of_getElem? d)) hc,b⟩,h.lr.far ho.la hc,h.ll.grow hc.size,h.lc,h.lm,h.lge,fun q c=>⟨⟨(h.lgo q c).1.rd.far (ho.lgo q c) hc,(h.lgo q c).1.len⟩,(h.lgo q c).2.grow hc.size⟩,h.st⟩
theorem Xbj.out {w:World} {r:RR} {M:RmM} {S:Nat→Prop} (h:Xbj w r M) (hs:∀ z,S z→w.heap.size≤z):Xbk S r :=
 ⟨h.p.o.lt.out hs,h.p.f.lt.out hs,h.sl.out hs,fun s hm=>by
  obtain ⟨k,b,rfl⟩:=List.getElem_of_mem hm;obtain ⟨pk,a,_⟩:=h.each k _ _ (List.getElem?_eq_getElem b) (List.getElem?_eq_getElem (by rw [← h.n]; exact b));exact a.out hs,h.ll.out hs,fun q c=>(h.lgo q c).2.out hs⟩
theorem Xbk.mono {S S':Nat→Prop} {r:RR} (h:Xbk S r) (hs:∀ z,S' z→S z):Xbk S' r :=
 ⟨h.o.mono hs,h.f.mono hs,h.sa.mono hs,fun s hm=>⟨(h.each s hm).o.mono hs,(h.each s hm).f.mono hs,(h.each s hm).nums.mono hs,(h.each s hm).opn.mono hs,(h.each s hm).pa.mono hs,fun l a=>((h.each s hm).each l a).mono hs⟩,h.la.mono hs,fun q b=>(h.lgo q b).mono hs⟩
def Xa7 (w:World) (r r':RR):Prop:=r'.c=r.c∧r'.cp=r.cp ∧ ∀ S:Nat→Prop,(∀ z,S z→z<w.heap.size)→Xbk S r→Xbk S r'
theorem Xa7.refl (w:World) (r:RR):Xa7 w r r:=⟨rfl,rfl,fun _ _ h=>h⟩
theorem Xa7.trans {w w1:World} {r r1 r2:RR} (h:Xa7 w r r1) (h':Xa7 w1 r1 r2) (hs:w.heap.size≤w1.heap.size):Xa7 w r r2:=⟨h'.1.trans h.1,h'.2.1.trans h.2.1,fun S a b =>
 h'.2.2 S (fun z c=>by have:=a z c; omega) (h.2.2 S a b)⟩

theorem Xbj.sout {w:World} {r:RR} {M:RmM} {S:Nat→Prop} (h:Xbk S r) {k:Nat} {s:RS} (hk:r.ss[k]? = some s) (_:Xbj w r M):Xbm S {s with p:=r.p}:=by
 have:=h.each s (List.mem_of_getElem? hk);exact ⟨h.o,h.f,this.nums,this.opn,this.pa,this.each⟩
theorem Xbj.put {w w':World} {r:RR} {M:RmM} (h:Xbj w r M) (hc:Chg XaW w w') {k:Nat} {s:RS} {x':Sm} {pl':PlM} {t:Int} {sa':Option Addr} {scap':Nat} (hk:k<r.ss.length) (hs:Xbl w' s x' pl') (hof:x'.Of pl') (hrow:Rows rsL 7 w' sa' (r.ss.set k s)) (hlt:ALt w' sa') (hcap:(r.ss.set k s).length≤scap') :
 Xbj w' {r with sa:=sa',scap:=scap',ss:=r.ss.set k s,p:=s.p,steps:=t} {M with shs:=M.shs.set k x',pl:=pl',tot:=t}:=by
 have a:=h.grow hc;refine ⟨hs.p,hrow,hlt,hcap,by show (r.ss.set k s).length=(M.shs.set k x').length; rw [List.length_set,List.length_set]; exact h.n,by show (r.ss.set k s).length≤16; rw [List.length_set]; exact h.few,fun j d f b c => ?_,a.lr,a.ll,a.lc,a.lm,a.lge,a.lgo,rfl⟩;by_cases e:k=j
 ·subst e;rw [List.getElem?_set_self hk] at b;rw [List.getElem?_set_self (by rw [← h.n]; exact hk)] at c;cases b; cases c
  exact ⟨pl',hs,hof⟩
 ·rw [List.getElem?_set_ne e] at b c;exact a.each j d f b c
theorem Xa7.put {w w1 w':World} {r:RR} {M:RmM} (h:Xbj w r M) {k:Nat} {s0 s:RS} {t:Int} {sa':Option Addr} {scap':Nat} (hk:r.ss[k]? = some s0) (hs:w.heap.size≤w1.heap.size) (hkeep:XaG w1 {s0 with p:=r.p} s) (hf:Xax w' sa') (hs':w.heap.size≤w'.heap.size) :
 Xa7 w r {r with sa:=sa',scap:=scap',ss:=r.ss.set k s,p:=s.p,steps:=t}:=⟨rfl,rfl,fun S e b=>by
 have a:=hkeep S (fun z c=>by have:=e z c; omega) (Xbj.sout b hk h);refine ⟨a.o,a.f,hf.out (fun z c=>by have:=e z c; omega),fun f d => ?_,b.la,b.lgo⟩;rcases List.mem_or_eq_of_mem_set d with d | rfl
 ·exact b.each f d
 ·exact a⟩
theorem Eff.good {p q:PlM} {c:Int} (h:Eff p q c) (hg:p.Good) (hc:0≤c):q.Good:=by
 rcases h with rfl | ⟨n,r,a,rfl⟩ | ⟨n,b,d,rfl⟩
 ·exact hg
 ·exact hg.take hc a
 ·exact hg.give b (by omega)
theorem XsQ (x:Sm) (pl:PlM) (who:Int) (hof:x.Of pl) (hg:pl.Good):(Xp0 x pl who).Of (Xp4 x pl who):=by
 rcases Xp5 x pl who with ⟨_,a,b⟩ | ⟨_,_,⟨n,r,_,a,b,_⟩ | ⟨n,r,_,d,a,b,_⟩⟩
 ·rw [a,b]; exact hof
 ·rw [a,b]; exact hof.set rfl (fun e c=>Xq4 c)
 ·rw [a,b]; exact (hof.fresh hg d).set rfl (fun e c=>Xq4 c)
theorem XgL (x:Sm) (pl:PlM) (n i:Int) (hok:x.Ok) (hof:x.Of pl):(XpL x n i).Of (XpN x pl n i):=by
 unfold XpL XpN;cases c:XqR x.pg n with
 |none=>exact hof
 |some p =>
  simp only
  by_cases a:Xmb p i=0
  ·rw [if_pos a];have:=Sm.Of.giveAt hok hof (n:=n.toNat) (p:=p) (i:=i);by_cases b:Xmv (Xma p i)=0
   ·rw [if_pos b] at this; rw [if_pos ⟨a,b⟩]; exact this
   ·rw [if_neg b] at this; rw [if_neg (fun h=>b h.2)]; exact this
  ·rw [if_neg a,if_neg (fun h=>a h.1)]; exact hof
theorem Xlt (x:Sm) (pl:PlM) (n i who:Int) (hof:x.Of pl):(XpR x n i who).Of pl:=by
 unfold XpR;split
 ·exact hof.set rfl (fun e a=>Xq4 a)
 ·exact hof

theorem Xup {n a b:Int}:Xuo n a b=true↔a≤n∧n≤b:=by unfold Xuo; simp
theorem XjO {c:Conf}:XjN c=true↔Xqy c.size=true∧(1≤c.pages∧c.pages≤1024)∧XeN c.classes c.size=true∧c.keep.length=c.classes.length∧(∀ k,k ∈ c.keep→0≤k∧k≤1024) ∧
 (1≤c.step∧c.step≤65536)∧(1≤c.slots∧c.slots≤4096)∧(1≤c.gens∧c.gens≤1023)∧(1≤c.most∧c.most≤Xih c):=by
 unfold XjN Xid;simp only [Bool.and_eq_true,Xup,decide_eq_true_eq,Bool.not_eq_true',List.any_eq_false,Bool.not_eq_false,and_assoc]
theorem XjR {c:Conf} (h:XjN c=true→False):Value.int .i64 1 = .int .i64 (XjQ c):=by unfold XjQ; rw [if_neg h]
theorem XjS {c:Conf} (h:XjN c=true):Value.int .i64 0 = .int .i64 (XjQ c):=by unfold XjQ; rw [if_pos h]
theorem Xii {c:Conf}:Xih c=0↔Xqy c.size=false:=by
 unfold Xih;by_cases h:Xqy c.size=true
 ·rw [if_pos h,h];have a:=Xqz.1 h;have b:64*8≤c.size*(c.size / 8):=Int.mul_le_mul a.1 (by omega) (by omega) (by omega);constructor
  ·intro; omega
  ·intro h; cases h
 ·rw [if_neg h]; simpa using h
theorem XnQ (c:Conf) (p:Xal) (w:World):Xan Tryz.prog 38 #[.agg (Xe6 c p).toArray] w (Grow (.int .i64 (Xih c)) w):=by
 refine ζe Tryz.func38 Tryz.ntmps38 rfl (ζn rfl fun b l e1 e d k => ?_);have no:(64≤c.size∧c.size≤4096∧c.size % 8=0→False)→Value.int .i64 0 = .int .i64 (Xih c):=fun h=>by unfold Xih; rw [if_neg (fun i=>h (Xqz.1 i))]
 refine ζl e rfl (ζg rfl (fun f => ?_) fun f => ?_)
 ·exact ζr Tryz.func38 rfl ⟨no (fun h=>by have:=of_decide_eq_true f; omega),d⟩
 ·have m:=of_decide_eq_false f;refine ζl e rfl (ζg rfl (fun g => ?_) fun g => ?_)
  ·exact ζr Tryz.func38 rfl ⟨no (fun h=>by have:=of_decide_eq_true g; omega),d⟩
  ·have n:=of_decide_eq_false g;refine ζl e rfl (Xay.div hTT rfl (by omega) (XnS (by omega)) rfl (ζg rfl (fun a => ?_) fun a => ?_))
   ·exact ζr Tryz.func38 rfl ⟨no (fun h=>by have:=h.2.2; simp [this] at a),d⟩
   ·have j:c.size % 8=0:=by simpa using a
    have a:0≤c.size / 8∧c.size / 8≤512:=by omega
    have o:0≤c.size*(c.size / 8):=Int.mul_nonneg (by omega) a.1;have q:c.size*(c.size / 8)≤4096*512:=Int.mul_le_mul (by omega) a.2 a.1 (by omega);refine Xay.loadb hTT rfl e rfl rfl ?_;refine Xay.loadb hTT rfl e rfl rfl ?_;refine Xay.div hTT rfl (by omega) (XnD (by omega) (by omega)) rfl ?_;refine Xay.arith hTT rfl (w64 (by omega)) rfl ?_;exact ζr Tryz.func38 rfl ⟨XhZ (by unfold Xih; rw [if_pos (Xqz.2 ⟨by omega,by omega,j⟩)]),d⟩
theorem XnR (c:Conf) (p:Xal) (w:World) (hc:Xam w c p):Xan Tryz.prog 11 #[.agg (Xe6 c p).toArray] w (Grow (.int .i64 (XjQ c)) w):=by
 have S:=hc.lc;refine ζe Tryz.func11 Tryz.ntmps11 rfl (ζn rfl fun b T e1 N O ac=>ζl N rfl (ζv (XnQ c p T) rfl fun wL P => ?_));have i:=O.trans P;have l:=P.heap' N;have v:=hc.chg i;refine ζg rfl (fun s => ?_) fun s => ?_
 ·exact ζr Tryz.func11 rfl ⟨XjR (fun h=>by have:=(XjO.1 h).1; rw [Xii.1 (by simpa using s)] at this; cases this),i⟩
 ·have U:Xqy c.size=true:=by
   cases h:Xqy c.size with
   |true=>rfl
   |false=>rw [Xii.2 h] at s; cases s
  refine ζl l rfl (ζg rfl (fun y => ?_) fun y => ?_)
  ·exact ζr Tryz.func11 rfl ⟨XjR (fun h=>by have:=(XjO.1 h).2.1; have:=of_decide_eq_true y; omega),i⟩
  ·refine ζl l rfl (ζg rfl (fun z => ?_) fun z => ?_)
   ·exact ζr Tryz.func11 rfl ⟨XjR (fun h=>by have:=(XjO.1 h).2.1; have:=of_decide_eq_true z; omega),i⟩
   ·refine ζl l rfl (ζl l rfl (ζv (XnP p.ca p.cc c.classes c.size wL v.classes S) rfl fun V A => ?_));have o:=i.trans A;have q:=A.heap' l;have Q:=v.chg A;refine ζg rfl (fun t => ?_) fun t => ?_
    ·exact ζr Tryz.func11 rfl ⟨XjR (fun h=>by have:=(XjO.1 h).2.2.1; simp [XeK,this] at t),o⟩
    ·refine ζl q rfl (ζl q rfl (ζg rfl (fun B => ?_) fun B => ?_))
     ·exact ζr Tryz.func11 rfl ⟨XjR (fun h=>by have:=(XjO.1 h).2.2.2.1; simp [this] at B),o⟩
     ·have g2:=of_decide_eq_false y;have g3:=of_decide_eq_false z;have W:XeN c.classes c.size=true:=by unfold XeK at t; cases hh:XeN c.classes c.size <;> simp [hh] at t ⊢
      have g5:c.keep.length=c.classes.length:=by simp at B; omega
      refine Xay.loop (α:=Nat) (fun k => [(1,false,.pointer (some ⟨b,0,none⟩)),(3,false,.int .i64 k)])
       (fun k w'=>Chg XaW V w'∧k≤c.keep.length ∧ ∀ j (h:j<c.keep.length),j<k→0≤c.keep[j]∧c.keep[j]≤1024) (fun k=>c.keep.length - k) 0 ⟨rfl,rfl,trivial⟩ ⟨Chg.refl _ _,Nat.zero_le _,fun _ _ h=>by omega⟩ ?_
      rintro k w4 ⟨u,hk,r⟩ ih;have f:=o.trans u;have d:=u.heap' q;have R:=Q.chg u;refine ζa rfl (ζl d rfl (ζg rfl (fun h => ?_) fun h => ?_))
      ·have m:k<c.keep.length:=by simpa using h
       obtain ⟨b1,off,ea,g⟩:=R.keep k m;rw [Xgx m] at g;obtain ⟨ca,cc,ka,kc⟩:=p;simp only at ea
       subst ea;refine ζl d rfl (ζi k rfl (ζk rfl g rfl (ζg rfl (fun C => ?_) fun C => ?_)))
       ·exact ζr Tryz.func11 rfl ⟨XjR (fun h=>by have:=(XjO.1 h).2.2.2.2.1 _ (List.getElem_mem m); have:=of_decide_eq_true C; omega),f⟩
       ·refine ζl d rfl (ζi k rfl (ζk rfl g rfl (ζg rfl (fun D => ?_) fun D => ?_)))
        ·exact ζr Tryz.func11 rfl ⟨XjR (fun h=>by have:=(XjO.1 h).2.2.2.2.1 _ (List.getElem_mem m); have:=of_decide_eq_true D; omega),f⟩
        ·refine ζj rfl ?_;exact ih (k+1) _ _ ⟨u,m,fun j E ad=>by
          by_cases e:j=k
          ·subst e; exact ⟨by have:=of_decide_eq_false C; omega,by have:=of_decide_eq_false D; omega⟩
          ·exact r j E (by omega)⟩ (by omega) ⟨rfl,rfl,trivial⟩
      ·have ae:k=c.keep.length:=by simp at h; omega
       have g6:∀ x,x ∈ c.keep→0≤x∧x≤1024:=fun x hx=>by obtain ⟨j,E,rfl⟩:=List.mem_iff_getElem.1 hx; exact r j E (by omega)
       refine Xay.quiet rfl Xj9 (by kernel_rfl) (Xa6.adv hTT rfl (Xa6.loadb hTT rfl d rfl rfl ?_));refine Xa6.fork hTT rfl rfl rfl (fun F => ?_) (fun F => ?_)
       ·exact Xa6.nil fun n a=>ζa rfl (ζr Tryz.func11 rfl ⟨XjR (fun h=>by have:=(XjO.1 h).2.2.2.2.2; have:=of_decide_eq_true F; omega),f.trans a⟩)
       refine Xa6.loadb hTT rfl d rfl rfl ?_;refine Xa6.fork hTT rfl rfl rfl (fun G => ?_) (fun G => ?_)
       ·exact Xa6.nil fun n a=>ζa rfl (ζr Tryz.func11 rfl ⟨XjR (fun h=>by have:=(XjO.1 h).2.2.2.2.2; have:=of_decide_eq_true G; omega),f.trans a⟩)
       refine Xa6.loadb hTT rfl d rfl rfl ?_;refine Xa6.fork hTT rfl rfl rfl (fun H => ?_) (fun H => ?_)
       ·exact Xa6.nil fun n a=>ζa rfl (ζr Tryz.func11 rfl ⟨XjR (fun h=>by have:=(XjO.1 h).2.2.2.2.2; have:=of_decide_eq_true H; omega),f.trans a⟩)
       refine Xa6.loadb hTT rfl d rfl rfl ?_;refine Xa6.fork hTT rfl rfl rfl (fun I => ?_) (fun I => ?_)
       ·exact Xa6.nil fun n a=>ζa rfl (ζr Tryz.func11 rfl ⟨XjR (fun h=>by have:=(XjO.1 h).2.2.2.2.2; have:=of_decide_eq_true I; omega),f.trans a⟩)
       refine Xa6.loadb hTT rfl d rfl rfl ?_;refine Xa6.fork hTT rfl rfl rfl (fun J => ?_) (fun J => ?_)
       ·exact Xa6.nil fun n a=>ζa rfl (ζr Tryz.func11 rfl ⟨XjR (fun h=>by have:=(XjO.1 h).2.2.2.2.2; have:=of_decide_eq_true J; omega),f.trans a⟩)
       refine Xa6.loadb hTT rfl d rfl rfl ?_;refine Xa6.fork hTT rfl rfl rfl (fun K => ?_) (fun K => ?_)
       ·exact Xa6.nil fun n a=>ζa rfl (ζr Tryz.func11 rfl ⟨XjR (fun h=>by have:=(XjO.1 h).2.2.2.2.2; have:=of_decide_eq_true K; omega),f.trans a⟩)
       refine Xa6.loadb hTT rfl d rfl rfl ?_;refine Xa6.fork hTT rfl rfl rfl (fun L => ?_) (fun L => ?_)
       ·exact Xa6.nil fun n a=>ζa rfl (ζr Tryz.func11 rfl ⟨XjR (fun h=>by have:=(XjO.1 h).2.2.2.2.2; have:=of_decide_eq_true L; omega),f.trans a⟩)
       refine Xa6.loadb hTT rfl d rfl rfl (Xa6.loads hTT rfl d rfl rfl (Xa6.call hTT rfl (fun w' af=>XnQ c p w') rfl (Xa6.nil fun n a=>ζa rfl (ζg rfl (fun M => ?_) fun M => ?_))))
       ·exact ζr Tryz.func11 rfl ⟨XjR (fun h=>by have:=(XjO.1 h).2.2.2.2.2; have:=of_decide_eq_true M; omega),f.trans a⟩
       have:=of_decide_eq_false F;have:=of_decide_eq_false G;have:=of_decide_eq_false H;have:=of_decide_eq_false I;have:=of_decide_eq_false J;have:=of_decide_eq_false K;have:=of_decide_eq_false L;have:=of_decide_eq_false M;exact ζr Tryz.func11 rfl ⟨XjS (XjO.2 ⟨U,by omega,W,g5,g6,by omega,by omega,by omega,by omega⟩),f.trans a⟩
theorem Rd.of {k:IntKind} {w:World} {b:Nat} {c:Array Value} {t:TypeId} {fz:Nat × Nat} {zs:List Int} (h:w.heap[b]? = some (.cells c t fz)) (hc:c=(zs.map (Value.int k)).toArray):Rd k w (some ⟨b,0,none⟩) zs:=fun i a =>
 ⟨b,0,rfl,by rw [Xd7 h,hc]; simp [a]⟩
theorem XmD (zs:List Int) (n:Int) : -1≤XmC zs n:=by
 unfold XmC;split
 ·omega
 ·by_cases h:zs.any (fun s=>decide (n≤s))=true
  ·have:=XhM.2 h; omega
  ·rw [XhL (fun j b=>by
    by_cases a:n≤zs[j]
    ·exact absurd (List.any_eq_true.2 ⟨zs[j],List.getElem_mem b,decide_eq_true a⟩) h
    ·exact decide_eq_false a)]
   omega

theorem Xa7.out {w w2:World} {r r':RR} {M:RmM} (hK:Xa7 w2 r r') (h:Xbj w r M) {S:Nat→Prop} (h1:∀ z,S z→w.heap.size≤z) (h2:∀ z,S z→z<w2.heap.size):Xbk S r':=hK.2.2 S h2 (h.out h1)

theorem Xif {lg:List (Nat × List Nat)} (hn:(XiF lg).Nodup) {n:Nat} {r r':List Nat} (h:(n,r) ∈ lg) (h':(n,r') ∈ lg):r=r':=by
 obtain ⟨a,b,e1,e2⟩:=XiI hn h;rw [e1] at h' hn;have c:XiF (a++(n,r)::b)=XiF a++((n::r)++XiF b):=by rw [XiG]; rfl
 rw [c] at hn;obtain ⟨_,d,e⟩:=List.nodup_append.1 hn;obtain ⟨_,_,f⟩:=List.nodup_append.1 d;rcases List.mem_append.1 h' with g | g
 ·exact absurd rfl (e n (XjV g (by simp)) n (by simp))
 ·rcases List.mem_cons.1 g with g | g
  ·exact ((Prod.mk.inj g).2).symm
  ·exact absurd rfl (f n (by simp) n (XjV g (by simp)))
def XaK (M:RmM):Prop := ∀ (k:Nat) (x:Sm),M.shs[k]? = some x→x.Pos
theorem Xbe.mpos {F:Nat→Prop} {w:World} {R:Rm} {M:RmM} (h:Xbe F w R M):XaK M:=fun k x a=>by
 obtain ⟨G,_,b,_⟩:=h.shelf a;exact b.pos
theorem XhK {α:Type} {p:α→Bool} {l:List α} (_ : -1≤idx p l):idx p l<l.length:=by
 by_cases h:∃ k,∃ a:k<l.length,p l[k]=true ∧ ∀ j (b:j<l.length),j<k→p l[j]=false
 ·obtain ⟨k,a,d,e⟩:=h;rw [XhJ a e d]; omega
 ·rw [XhL fun j b => ?_]
  ·omega
  ·induction j using Nat.strongRecOn with
   |ind j ih =>
    cases f:p l[j] with
    |false=>rfl
    |true=>exact absurd ⟨j,b,f,fun i g c=>ih i c g⟩ h
theorem XmE {zs:List Int} {n:Int} (h:XmC zs n ≠ -1):0≤XmC zs n∧XmC zs n<zs.length:=by
 have a:=XmD zs n;refine ⟨by omega,?_⟩;unfold XmC at *;split at h
 ·exact absurd rfl h
 ·rename_i b
  rw [if_neg b] at a;rw [if_neg b];exact XhK a
theorem Xga {c:Conf} {M:RmM} {who size:Int} (hok:M.Ok c) (hw:0≤who) (h:Xoi c M size=0):XoH c M who size=0:=by
 have a:(Xov c M size:Int)≤M.pl.free.length:=by
  unfold Xoi at h;split at h
  ·exact absurd h (by decide)
  ·split at h
   ·exact absurd h (by decide)
   ·omega
 unfold XoH;rw [if_neg (by omega),if_neg (by omega)];split
 ·rfl
 ·rename_i b
  obtain ⟨g,i⟩:=XmE b;obtain ⟨k,d⟩:=Int.eq_ofNat_of_zero_le g;rw [d] at i ⊢;have e:k<M.shs.length:=by have:=hok.n; omega
  have f:=Xol e;unfold XoV;rw [f];simp only
  unfold Xp2;rw [if_neg (by omega),if_neg];intro ⟨j,l⟩;unfold Xov at a;rw [if_neg b,d] at a;unfold Xow at a;rw [f] at a;simp only [j,l] at a;omega
theorem Xop {M:RmM} {k j:Nat} {x:Sm} {q:PlM} {t:Int}:Xok {M with shs:=M.shs.set k x,pl:=q,tot:=t} j=if k=j∧k<M.shs.length then some x else Xok M j:=by
 unfold Xok;rw [if_pos (Int.natCast_nonneg _),if_pos (Int.natCast_nonneg _),Int.toNat_natCast];show (M.shs.set k x)[j]? = _
 by_cases e:k=j
 ·subst e;by_cases a:k<M.shs.length
  ·rw [if_pos ⟨rfl,a⟩,List.getElem?_set_self a]
  ·rw [if_neg (fun h=>a h.2),List.getElem?_eq_none (by rw [List.length_set]; omega),List.getElem?_eq_none (by omega)]
 ·rw [if_neg (fun h=>e h.1),List.getElem?_set_ne e]
theorem XlD {x:Sm} {n i:Int} (h:XpT x n i = -1):XpM x n i≠0:=by
 unfold XpT at h;unfold XpM;cases a:XqR x.pg n with
 |none=>simp
 |some p =>
  rw [a] at h;simp only at h ⊢
  unfold Xmb;split
  ·decide
  ·first | decide | (rw [if_pos h]; decide)
theorem Xom {M:RmM} {k:Int} (h:k<0):Xok M k=none:=Xon (.inl h)
theorem XqW {l:PgL} {n:Nat} {p q:List Int} (hn:(l.map (·.1)).Nodup) (hq:(n,q) ∈ l) (m:Int):XqR (Xq0 l n p) m=if m=n then some p else XqR l m:=by
 by_cases e:m=n
 ·rw [if_pos e,e]; exact XqX hn hq
 ·rw [if_neg e]
  clear hn hq
  induction l with
  |nil=>rfl
  |cons a r ih =>
   obtain ⟨k,t⟩:=a;by_cases c:k=n
   ·have:Xq0 ((k,t)::r) n p=(n,p)::Xq0 r n p:=by show (if k=n then (n,p) else (k,t))::Xq0 r n p=_; rw [if_pos c]
    rw [this];unfold XqR;rw [if_neg (fun h=>e h.symm),if_neg (fun h=>e (by omega))];exact ih
   ·have:Xq0 ((k,t)::r) n p=(k,t)::Xq0 r n p:=by show (if k=n then (n,p) else (k,t))::Xq0 r n p=_; rw [if_neg c]
    rw [this];unfold XqR;by_cases b:(k:Int)=m
    ·rw [if_pos b,if_pos b]
    ·rw [if_neg b,if_neg b]; exact ih
theorem XqS {l:PgL} {n:Nat} {p:List Int} (hn:n ∉ l.map (·.1)) (m:Int):XqR (l ++ [(n,p)]) m=if m=n then some p else XqR l m:=by
 induction l with
 |nil =>
  show XqR [(n,p)] m=_
  unfold XqR;by_cases e:(n:Int)=m
  ·rw [if_pos e,if_pos e.symm]
  ·rw [if_neg e,if_neg (fun h=>e h.symm)]; rfl
 |cons a r ih =>
  obtain ⟨k,t⟩:=a;have d:k≠n:=fun h=>hn (by simp [h]);have c:n ∉ r.map (·.1):=fun h=>hn (by simp at h ⊢; exact .inr h);show (if (k:Int)=m then some t else XqR (r ++ [(n,p)]) m)=if m=n then some p else (if (k:Int)=m then some t else XqR r m)
  rw [ih c];by_cases b:(k:Int)=m
  ·rw [if_pos b,if_pos b,if_neg (by omega)]
  ·rw [if_neg b,if_neg b]
theorem XqT {l:PgL} {n:Nat} (m:Int):XqR (XqN l n) m=if m=n then none else XqR l m:=by
 induction l with
 |nil=>show none=_; split <;> rfl
 |cons a r ih =>
  obtain ⟨k,t⟩:=a;by_cases c:k=n
  ·have:XqN ((k,t)::r) n=XqN r n:=by unfold XqN; rw [List.filter_cons]; simp [c]
   rw [this,ih];by_cases e:m=n
   ·rw [if_pos e,if_pos e]
   ·rw [if_neg e,if_neg e];show _=if (k:Int)=m then some t else XqR r m
    rw [if_neg (by omega)]
  ·have:XqN ((k,t)::r) n=(k,t)::XqN r n:=by unfold XqN; rw [List.filter_cons]; simp [c]
   rw [this];show (if (k:Int)=m then some t else XqR (XqN r n) m)=if m=n then none else (if (k:Int)=m then some t else XqR r m)
   rw [ih];by_cases b:(k:Int)=m
   ·rw [if_pos b,if_pos b,if_neg (by omega)]
   ·rw [if_neg b,if_neg b]
theorem Xmk {p:List Int} {k:Nat} {v:Int} (h:k<p.length) (j:Int):Xmg (p.set k v) j=if j=k then v else Xmg p j:=by
 unfold Xmg;by_cases a:0≤j
 ·obtain ⟨j,rfl⟩:=Int.eq_ofNat_of_zero_le a;rw [if_pos a,if_pos a];show (p.set k v).getD j (-1)=_
  rw [XgG];by_cases e:k=j
  ·subst e; rw [if_pos ⟨rfl,h⟩,if_pos rfl]
  ·rw [if_neg (fun h=>e h.1),if_neg (by omega)]; rfl
 ·rw [if_neg a,if_neg a,if_neg (by omega)]
theorem Xml {p:List Int} {j:Int} (h:Xmg p j ≠ -1):0≤j∧j<p.length:=by
 unfold Xmg at h;split at h
 ·rename_i a
  refine ⟨a,?_⟩;refine Int.not_le.1 fun b=>h ?_;rw [List.getD_eq_getElem?_getD,List.getElem?_eq_none (by omega)];rfl
 ·exact absurd rfl h
theorem XlE {x:Sm} {n i:Int} (hok:x.Ok) (h:XpT x n i ≠ -1):∃ (m:Nat) (p:List Int),n=m∧(m,p) ∈ x.pg∧XqR x.pg n=some p∧0≤i∧i<x.blocks∧XpT x n i=Xmg p i:=by
 unfold XpT at h ⊢;cases c:XqR x.pg n with
 |none=>rw [c] at h; exact absurd rfl h
 |some p =>
  rw [c] at h;simp only at h
  obtain ⟨m,rfl,hm⟩:=XqY c;have d:=(hok.each _ hm).2.1;obtain ⟨a,b⟩:=Xml h;exact ⟨m,p,rfl,hm,rfl,a,by simp only at d; omega,rfl⟩
theorem XgJ {x:Sm} {n i:Int}:XpM x n i=0↔XpT x n i ≠ -1:=by
 constructor
 ·intro h d; exact XlD d h
 ·intro h;unfold XpT at h;unfold XpM;cases c:XqR x.pg n with
  |none=>rw [c] at h; exact absurd rfl h
  |some p =>
   rw [c] at h;simp only at h ⊢
   obtain ⟨a,b⟩:=Xml h;unfold Xmb;rw [if_neg (by omega),if_neg h]
theorem Xlp {x:Sm} {n i who:Int} (hw:0≤who):XpS x n i who=0↔XpT x n i ≠ -1:=by
 unfold XpT XpS;cases d:XqR x.pg n with
 |none=>simp
 |some p =>
  simp only
  unfold Xmh;constructor
  ·intro h c;split at h
   ·cases h
   ·first | (rw [if_pos c] at h; cases h) | (cases h)
  ·intro h;obtain ⟨a,b⟩:=Xml h;rw [if_neg (by omega),if_neg h]
theorem XgN {x:Sm} {n i:Int} (hok:x.Ok) (h:XpT x n i ≠ -1) (m j:Int):XpT (XpL x n i) m j=if m=n∧j=i then -1 else XpT x m j:=by
 obtain ⟨k,p,rfl,o,l,t,A,e⟩:=XlE hok h;obtain ⟨i,rfl⟩:=Int.eq_ofNat_of_zero_le t;rw [e] at h;have u:=(hok.each _ o).2.1;simp only at u
 have q:Xmb p i=0:=by unfold Xmb; rw [if_neg (by omega),if_neg h]
 have w:XpL x (k:Nat) i=x.giveAt k p i:=by unfold XpL; rw [l]; simp only; rw [if_pos q,Int.toNat_natCast]
 rw [w];have d:Xma p i=p.set i (-1):=by unfold Xma; rw [if_pos q,Int.toNat_natCast]
 unfold Sm.giveAt;simp only
 by_cases r:Xmv (Xma p i)=0
 ·rw [if_pos r];unfold XpT;simp only
  rw [XqT];by_cases hm:m=k
  ·rw [if_pos hm];by_cases c:j=i
   ·rw [if_pos ⟨hm,c⟩]
   ·rw [if_neg (fun h=>c h.2),hm,l];simp only
    have s:Xmg (Xma p i) j = -1:=Decidable.byContradiction fun f=>by
     obtain ⟨a,b⟩:=Xml f;obtain ⟨j,rfl⟩:=Int.eq_ofNat_of_zero_le a;have g:j<(Xma p i).length:=by omega
     have:=Xmy (v := -1) g;rw [if_pos rfl] at this;have y:(Xma p i).getD j 0 ≠ -1:=by
      rw [Xgw g];intro z;apply f
      unfold Xmg;rw [if_pos a,Int.toNat_natCast]; exact z
     rw [if_neg y] at this;omega
    rw [d,Xmk (by omega),if_neg c] at s;exact s.symm
  ·rw [if_neg hm,if_neg (fun h=>hm h.1)]
 ·rw [if_neg r];unfold XpT;simp only
  rw [XqW hok.nodup o];by_cases hm:m=k
  ·rw [if_pos hm,hm,l];simp only
   rw [d,Xmk (by omega)];by_cases c:j=i
   ·rw [if_pos c,if_pos ⟨by trivial,c⟩]
   ·rw [if_neg c,if_neg (fun h=>c h.2)]
  ·rw [if_neg hm,if_neg (fun h=>hm h.1)]
theorem Xlv {x:Sm} {n i who:Int} (hok:x.Ok) (hw:0≤who) (h:XpT x n i ≠ -1) (m j:Int):XpT (XpR x n i who) m j=if m=n∧j=i then who else XpT x m j:=by
 obtain ⟨k,p,rfl,b,c,f,q,e⟩:=XlE hok h;obtain ⟨i,rfl⟩:=Int.eq_ofNat_of_zero_le f;rw [e] at h;have g:=(hok.each _ b).2.1;simp only at g
 have l:Xmh p i who=0:=by unfold Xmh; rw [if_neg (by omega),if_neg h]
 have o:XpR x (k:Nat) i who=x.ownAt k p i who:=by unfold XpR; rw [c]; simp only [Int.toNat_natCast]
 rw [o];have d:Xmi p i who=p.set i who:=by unfold Xmi; rw [if_pos l,Int.toNat_natCast]
 unfold Sm.ownAt XpT;simp only
 rw [XqW hok.nodup b];by_cases hm:m=k
 ·rw [if_pos hm,hm,c];simp only
  rw [d,Xmk (by omega)];by_cases a:j=i
  ·rw [if_pos a,if_pos ⟨by trivial,a⟩]
  ·rw [if_neg a,if_neg (fun h=>a h.2)]
 ·rw [if_neg hm,if_neg (fun h=>hm h.1)]
theorem XsN {x:Sm} {n:Nat} {p:List Int} {who:Int} (hok:x.Ok) (hw:0≤who) (hp:(n,p) ∈ x.pg) (hf:Xmv p≠x.blocks) (m j:Int):XpT (x.takeAt n p who) m j=(if m=n∧j=Xme p then who else XpT x m j)∧XpT x n (Xme p) = -1∧0≤Xme p∧Xme p<x.blocks:=by
 have d:=(hok.each _ hp).2.1;simp only at d
 have f:=XqV hok.nodup hp;obtain ⟨e1,_⟩:=Xms (p:=p) (who:=who) hw (by rw [d]; exact hf);have l:¬ Xme p<0:=fun e=>by have:=Xmf.1 e; omega
 obtain ⟨b,c⟩:=XmA l;obtain ⟨k,g⟩:=Int.eq_ofNat_of_zero_le (show 0≤Xme p by omega);rw [g] at b c ⊢;simp only [Int.toNat_natCast] at b c;have i:Xmo p who=p.set k who:=by unfold Xmo; rw [if_pos e1,g,Int.toNat_natCast]
 refine ⟨?_,?_,by omega,by omega⟩
 ·unfold Sm.takeAt XpT;simp only
  rw [XqW hok.nodup hp,i];by_cases hm:m=n
  ·rw [if_pos hm,hm,f];simp only
   rw [Xmk b];by_cases a:j=k
   ·rw [if_pos a,if_pos ⟨by trivial,a⟩]
   ·rw [if_neg a,if_neg (fun h=>a h.2)]
  ·rw [if_neg hm,if_neg (fun h=>hm h.1)]
 ·unfold XpT;rw [f];simp only
  unfold Xmg;rw [if_pos (by omega),Int.toNat_natCast]; exact c
structure XbC (x:Sm) (pl:PlM) (who:Int):Prop where
 own:∀ m j,XpT (Xp0 x pl who) m j=if m=Xp3 x pl who∧j=Xp1 x pl who then who else XpT x m j
 free:XpT x (Xp3 x pl who) (Xp1 x pl who) = -1
 n:0≤Xp3 x pl who∧Xp3 x pl who<pl.own.length
 a:0≤Xp1 x pl who∧Xp1 x pl who<x.blocks
 used:Xq6 (Xp0 x pl who).pg=Xq6 x.pg+1
 ok:(Xp0 x pl who).Ok
theorem XsP {x:Sm} {pl:PlM} {who:Int} (hok:x.Ok) (hof:x.Of pl) (hg:pl.Good) (hE:Xp2 x pl who=0):XbC x pl who:=by
 rcases Xp5 x pl who with ⟨l,_⟩ | ⟨_,q,⟨n,r,s,d,z,g,h,e⟩ | ⟨n,r,s,v,d,z,g,h,e⟩⟩
 ·exact absurd hE l
 ·obtain ⟨p,c⟩:=hok.osub n (by rw [s]; simp);rw [XqV hok.nodup c] at g;simp only [Option.getD_some] at g;rw [g] at d e;have f:=(hok.each _ c).2.2.1 (by rw [s]; simp);simp only at f
  have t:=(hok.each _ c).2.1;simp only at t
  have T:=fun m j=>XsN hok q c f m j;obtain ⟨_,e2⟩:=Xms (p:=p) (who:=who) q (by rw [t]; exact f);refine ⟨fun m j=>by rw [d,h,e]; exact (T m j).1,by rw [h,e]; exact (T 0 0).2.1,?_,by rw [e]; exact (T 0 0).2.2,?_,by rw [d]; exact hok.takeAt q c (by rw [s]; simp)⟩
  ·rw [h]; have:=(hof _ c).1; simp only at this; omega
  ·rw [d];have:=Xra (p:=Xmo p who) hok.nodup c;show Xq6 (Xq0 _ _ _)=_
   omega
 ·have i:=Xgs hok hof hg (n:=n) (by rw [v]; simp);have C:=(hg.free n (by rw [v]; simp)).1;have w:n<1024:=by have:=hg.len; omega
  have o:=hok.fresh w i;have c:(n,List.replicate x.blocks (-1)) ∈ (x.fresh n).pg:=List.mem_append_right _ (by simp);rw [XqV o.nodup c] at g;simp only [Option.getD_some] at g;rw [g] at d e;have D:=hok.blk;have f:Xmv (List.replicate x.blocks (-1))≠(x.fresh n).blocks:=by rw [Xmx]; show 0≠x.blocks; omega
  have T:=fun m j=>XsN o q c f m j;have u:∀ m j,XpT (x.fresh n) m j=XpT x m j:=fun m j=>by
   unfold XpT;show (match XqR (x.pg ++ [(n,List.replicate x.blocks (-1))]) m with | some p=>Xmg p j | none => -1)=_
   rw [XqS i];by_cases hm:m=n
   ·rw [if_pos hm];have A:XqR x.pg m=none:=by
     cases hg:XqR x.pg m with
     |none=>rfl
     |some p =>
      obtain ⟨k,E,y⟩:=XqY hg;have:k=n:=by omega
      subst this;exact absurd (List.mem_map.2 ⟨_,y,rfl⟩) i
    rw [A];simp only
    refine Decidable.byContradiction fun l => ?_;obtain ⟨a,b⟩:=Xml l;apply l
    unfold Xmg;rw [if_pos a,List.getD_eq_getElem?_getD,List.getElem?_replicate];split <;> rfl
   ·rw [if_neg hm]; rfl
  have t:(List.replicate x.blocks (-1:Int)).length=x.blocks:=List.length_replicate;obtain ⟨_,e2⟩:=Xms (p:=List.replicate x.blocks (-1)) (who:=who) q (by rw [Xmx,t]; omega);refine ⟨fun m j=>by rw [d,h,e,(T m j).1,u],by rw [h,e,← u]; exact (T 0 0).2.1,by rw [h]; omega,by rw [e]; exact (T 0 0).2.2,?_,by rw [d]; exact o.takeAt q c (by show n ∈ n::x.opn; simp)⟩;rw [d];have B:=Xra (p:=Xmo (List.replicate x.blocks (-1)) who) o.nodup c;have F:Xq6 (x.fresh n).pg=Xq6 x.pg:=by show Xq6 (x.pg++_)=_; rw [Xq7,Xmx]; rfl
  rw [Xmx] at B e2;show Xq6 (Xq0 _ _ _)=_
  omega
structure Xbd (c:Conf) (M:RmM):Prop where
 ok:M.Ok c
 mok:MOk M
 pos:XaK M
theorem XqZ {x:Sm} {n:Nat} {p:List Int} (hp:x.Pos) (h:0<Xmv p):∀ e ∈ Xq0 x.pg n p,0<Xmv e.2:=fun e a=>by
 rcases XjY a with ⟨rfl,_⟩ | ⟨_,a⟩
 ·exact h
 ·exact hp e a
theorem XsU {x:Sm} {pl:PlM} {who:Int} (hok:x.Ok) (hpos:x.Pos) (hof:x.Of pl) (hg:pl.Good):(Xp0 x pl who).Pos:=by
 rcases Xp5 x pl who with ⟨_,h,_⟩ | ⟨_,j,⟨n,r,f,g,q,a,_⟩ | ⟨n,r,f,k,g,q,a,_⟩⟩
 ·rw [h]; exact hpos
 ·obtain ⟨p,b⟩:=hok.osub n (by rw [f]; simp);rw [XqV hok.nodup b] at a;simp only [Option.getD_some] at a;rw [g,a];have c:=(hok.each _ b).2.1;have d:=(hok.each _ b).2.2.1 (by rw [f]; simp);simp only at c d
  obtain ⟨_,e2⟩:=Xms (p:=p) (who:=who) j (by rw [c]; exact d);exact XqZ hpos (by omega)
 ·have i:=Xgs hok hof hg (n:=n) (by rw [k]; simp);have l:n<1024:=by have:=(hg.free n (by rw [k]; simp)).1; have:=hg.len; omega
  have m:=hok.fresh l i;have b:(n,List.replicate x.blocks (-1)) ∈ (x.fresh n).pg:=List.mem_append_right _ (by simp);rw [XqV m.nodup b] at a;simp only [Option.getD_some] at a;rw [g,a];have c:(List.replicate x.blocks (-1:Int)).length=x.blocks:=List.length_replicate;have s:=hok.blk;obtain ⟨_,e2⟩:=Xms (p:=List.replicate x.blocks (-1)) (who:=who) j (by rw [Xmx,c]; omega);intro e he;rcases XjY he with ⟨rfl,_⟩ | ⟨o,he⟩
  ·show 0<Xmv (Xmo _ _); omega
  ·rcases List.mem_append.1 he with he | he
   ·exact hpos e he
   ·have:e=(n,List.replicate x.blocks (-1)):=by simpa using he
    subst this;exact absurd rfl o
theorem XgP {x:Sm} {n i:Int} (hpos:x.Pos):(XpL x n i).Pos:=by
 unfold XpL;cases d:XqR x.pg n with
 |none=>exact hpos
 |some p =>
  simp only
  by_cases a:Xmb p i=0
  ·rw [if_pos a];unfold Sm.giveAt;simp only
   by_cases b:Xmv (Xma p i)=0
   ·rw [if_pos b];intro e c;exact hpos e (XjX.1 c).2
   ·rw [if_neg b];exact XqZ hpos (by omega)
  ·rw [if_neg a]; exact hpos
theorem Xly {x:Sm} {n i who:Int} (hpos:x.Pos):(XpR x n i who).Pos:=by
 unfold XpR;cases a:XqR x.pg n with
 |none=>exact hpos
 |some p =>
  obtain ⟨m,rfl,hm⟩:=XqY a;exact XqZ hpos (by rw [Xmn]; exact hpos _ hm)
theorem XgM {x:Sm} {n i:Int} (hok:x.Ok):(XpL x n i).Ok:=by
 unfold XpL;cases b:XqR x.pg n with
 |none=>exact hok
 |some p =>
  obtain ⟨m,rfl,hm⟩:=XqY b;simp only [Int.toNat_natCast];by_cases a:Xmb p i=0
  ·rw [if_pos a]; exact hok.giveAt hm a
  ·rw [if_neg a]; exact hok
theorem Xlu {x:Sm} {n i who:Int} (hok:x.Ok):(XpR x n i who).Ok:=by
 unfold XpR;cases a:XqR x.pg n with
 |none=>exact hok
 |some p =>
  obtain ⟨m,rfl,hm⟩:=XqY a;simp only [Int.toNat_natCast];exact hok.ownAt hm
theorem XsR {x:Sm} {pl:PlM} {who:Int} (hok:x.Ok) (hof:x.Of pl) (hg:pl.Good):(Xp0 x pl who).Ok:=by
 by_cases a:Xp2 x pl who=0
 ·exact (XsP hok hof hg a).ok
 ·have:Xp0 x pl who=x:=by unfold Xp0; rw [if_neg a]
  rw [this]; exact hok
section
variable {c:Conf} {M:RmM}
theorem Xbd.set {k:Nat} {x x':Sm} {q:PlM} (h:Xbd c M) (hx:M.shs[k]? = some x) (hE:Eff M.pl q x.cls) (hc:x'.cls=x.cls) (hb:x'.blocks=x.blocks) (hs:Xho q+x.pg.length=Xho M.pl+x'.pg.length) (hok:x'.Ok) (hof:x'.Of q) (hpos:x'.Pos):Xbd c (XoR M k x' q):=by
 have g:=(List.getElem?_eq_some_iff.1 hx).1;obtain ⟨e1,_⟩:=h.ok.each k x hx;have f:=(h.mok.sh k x hx).1.cls;have get:∀ (j:Nat) (y:Sm),(XoR M k x' q).shs[j]? = some y→(j=k∧y=x')∨(j≠k∧M.shs[j]? = some y):=fun j y d=>by
  replace d:(M.shs.set k x')[j]? = some y:=d;by_cases e:k=j
  ·subst e; rw [List.getElem?_set_self g] at d; cases d; exact .inl ⟨rfl,rfl⟩
  ·rw [List.getElem?_set_ne e] at d; exact .inr ⟨fun h=>e h.symm,d⟩
 refine ⟨h.ok.set h.mok.good hx hE hc hb hs,⟨fun j y d => ?_,hE.good h.mok.good f⟩,fun j y d => ?_⟩
 ·rcases get j y d with ⟨_,rfl⟩ | ⟨i,d⟩
  ·exact ⟨hok,hof⟩
  ·obtain ⟨a,b⟩:=h.mok.sh j y d;obtain ⟨e2,_⟩:=h.ok.each j y d;exact ⟨a,hE.of h.mok.good b (by omega) (by omega)⟩
 ·rcases get j y d with ⟨_,rfl⟩ | ⟨_,d⟩
  ·exact hpos
  ·exact h.pos j y d
theorem Xbd.tot (h:Xbd c M) {t:Int} (ht:0≤t∧t≤4611686018427387904):Xbd c {M with tot:=t}:=⟨{h.ok with tot:=ht},⟨h.mok.sh,h.mok.good⟩,h.pos⟩
theorem Xbd.charge (h:Xbd c M) (n:Int):Xbd c {M with tot:=Xel M.tot n}:=h.tot (Xeo h.ok.tot)
theorem XoQ (k:Nat) (x:Sm) (q:PlM):XoP M k x q={XoR M k x q with tot:=Xel M.tot (XeA M.pl q)}:=rfl
theorem Xbd.take (h:Xbd c M) (k who:Int):Xbd c (XoT M k who):=by
 unfold XoT;cases b:Xok M k with
 |none=>exact h
 |some x =>
  obtain ⟨n,rfl,d,a⟩:=Xoq b;simp only [Int.toNat_natCast];split
  ·obtain ⟨xo,xf⟩:=h.mok.sh n x a;obtain ⟨e1,e2,e3,e4⟩:=XsO x M.pl who h.mok.good xo.cls;rw [XoQ];exact (h.set a e1 e2 e3 e4 (XsR xo xf h.mok.good) (XsQ x M.pl who xf h.mok.good) (XsU xo (h.pos n x a) xf h.mok.good)).tot (Xeo h.ok.tot)
  ·exact h
theorem Xbd.give (h:Xbd c M) (k n i:Int):Xbd c (Xor M k n i):=by
 unfold Xor;cases b:Xok M k with
 |none=>exact h
 |some x =>
  obtain ⟨m,rfl,d,a⟩:=Xoq b;simp only [Int.toNat_natCast];split
  ·obtain ⟨xo,xf⟩:=h.mok.sh m x a;obtain ⟨e1,e2,e3,e4⟩:=XgK x M.pl n i xo xf;rw [XoQ];exact (h.set a e1 e2 e3 e4 (XgM xo) (XgL x M.pl n i xo xf) (XgP (h.pos m x a))).tot (Xeo h.ok.tot)
  ·exact h
theorem Xbd.own (h:Xbd c M) (k n i who:Int):Xbd c (Xoy M k n i who):=by
 unfold Xoy;cases b:Xok M k with
 |none=>exact h
 |some x =>
  obtain ⟨m,rfl,d,a⟩:=Xoq b;simp only [Int.toNat_natCast];obtain ⟨xo,xf⟩:=h.mok.sh m x a;obtain ⟨e1,e2,e3,e4⟩:=Xlr x M.pl n i who;exact h.set a e1 e2 e3 e4 (Xlu xo) (Xlt x M.pl n i who xf) (Xly (h.pos m x a))
theorem Xbd.big (h:Xbd c M) {many:Nat} (h1:1≤many) (hm:many≤M.pl.free.length):Xbd c (Xod M many):=by
 obtain ⟨d,_⟩:=XmW (who:=((M.shs.length:Nat):Int)) (by omega) h.mok.good many hm;exact ⟨h.ok.big h.mok.good h1 hm,⟨fun k x e=>by
  obtain ⟨a,b⟩:=h.mok.sh k x e;exact ⟨a,XmV (by omega) h.mok.good hm a.cls b⟩,d⟩,h.pos⟩
theorem XiR (h:M.Ok c) {n:Nat} {r:List Nat} (hm:(n,r) ∈ M.lg):(n::r).Nodup:=by
 obtain ⟨A,B,eA,_⟩:=XiI h.nd hm;have e:XiF M.lg=XiF A++((n::r)++XiF B):=by rw [eA,XiG]; rfl
 have a:=h.nd;rw [e] at a;exact (List.nodup_append.1 (List.nodup_append.1 a).2.1).1
theorem Xbd.gone (h:Xbd c M) {n:Nat} {r:List Nat} (hm:(n,r) ∈ M.lg):Xbd c (Xou M n r):=by
 obtain ⟨a,b⟩:=h.ok.gone h.mok.good hm;have g:=XiR h.ok hm;have e:∀ m ∈ n::r,m<M.pl.own.length∧M.pl.own.getD m 0=(M.shs.length:Int):=fun m d=>h.ok.lg m (XjV hm d);exact ⟨a,⟨fun k x f=>by
  obtain ⟨xo,xf⟩:=h.mok.sh k x f;have j:k<M.shs.length:=(List.getElem?_eq_some_iff.1 f).1;have i:=(h.ok.each k x f).1;exact ⟨xo,XmM h.mok.good g (fun m d=>⟨(e m d).1,by have:=(e m d).2; omega⟩) xf (fun m d=>by have:=(e m d).2; omega)⟩,b⟩,h.pos⟩
theorem Xf7 {size:Int} (hmay:XjN c=true) (h:Xoi c M size=0) (hp:XmC c.classes size = -1):2≤(Xb7 size c.size).toNat∧(Xb7 size c.size).toNat≤M.pl.free.length∧1≤size∧size≤c.most:=by
 have a:=XjT hmay;have f:(Xov c M size:Int)≤M.pl.free.length ∧ ¬ (size<1∨c.most<size):=by
  unfold Xoi at h;split at h
  ·exact absurd h (by decide)
  ·split at h
   ·exact absurd h (by decide)
   ·exact ⟨by omega,by assumption⟩
 have e:Xov c M size=Xb7 size c.size:=by unfold Xov; rw [if_pos hp]
 have b:2≤Xb7 size c.size:=by
  have g:=a.size;have d:=a.most;have i:0≤(size - 1) / c.size:=Int.ediv_nonneg (by omega) (by omega);have j:(size - 1) / c.size≤size - 1:=Int.ediv_le_self _ (by omega);have e4:XjG size c.size=(size - 1) / c.size+1:=by unfold XjG; rw [if_neg (by omega)]
  unfold Xb7;rw [e4,if_neg (by omega)];omega
 omega
theorem Xbd.drop (h:Xbd c M) (q:PlcM):Xbd c (Xoe M q):=by
 unfold Xoe;split
 ·exact h.give _ _ _
 ·split
  ·exact h
  ·rename_i r a
   split
   ·obtain ⟨n,b,hm⟩:=XiN a;rw [b,Int.toNat_natCast];exact h.gone hm
   ·exact h
theorem Xoo {k:Nat} {x':Sm} {q:PlM} (hk:k<M.shs.length) (j:Int):Xok (XoR M k x' q) j=if j=k then some x' else Xok M j:=by
 by_cases a:j<0
 ·rw [if_neg (by omega),Xom a,Xom a]
 ·obtain ⟨j,rfl⟩:=Int.eq_ofNat_of_zero_le (show 0≤j by omega);have:=Xop (M:=M) (k:=k) (j:=j) (x:=x') (q:=q) (t:=M.tot);have e:XoR M k x' q={M with shs:=M.shs.set k x',pl:=q,tot:=M.tot}:=rfl;rw [e,this];by_cases h:k=j
  ·rw [if_pos ⟨h,hk⟩,if_pos (by omega)]
  ·rw [if_neg (fun b=>h b.1),if_neg (by omega)]
theorem XoF {k:Nat} {x x':Sm} {q:PlM} (hx:M.shs[k]? = some x) (j n a:Int):XoB (XoR M k x' q) j n a=if j=k then XpT x' n a else XoB M j n a:=by
 have b:=(List.getElem?_eq_some_iff.1 hx).1;unfold XoB;rw [Xoo b];by_cases h:j=k
 ·rw [if_pos h,if_pos h]
 ·rw [if_neg h,if_neg h]
theorem XoE (k:Nat) (x:Sm) (q:PlM) (j n a:Int):XoB (XoP M k x q) j n a=XoB (XoR M k x q) j n a:=rfl
theorem XoC {k:Nat} {x:Sm} (hx:M.shs[k]? = some x) (n a:Int):XoB M (k:Nat) n a=XpT x n a:=by
 have b:=(List.getElem?_eq_some_iff.1 hx).1;have e:=(List.getElem?_eq_some_iff.1 hx).2;unfold XoB;rw [Xol b,e]
theorem XoD (h:Xbd c M) {k n a:Int} (ho:XoB M k n a ≠ -1):∃ (j:Nat) (x:Sm),k=j∧j<c.classes.length∧M.shs[j]? = some x∧XpT x n a=XoB M k n a∧0≤n∧n<c.pages∧0≤a∧a<XdI c k:=by
 unfold XoB at ho;cases d:Xok M k with
 |none=>rw [d] at ho; exact absurd rfl ho
 |some x =>
  rw [d] at ho;simp only at ho
  obtain ⟨j,rfl,i,b⟩:=Xoq d;obtain ⟨xo,xf⟩:=h.mok.sh j x b;obtain ⟨m,p,rfl,hm,_,f,l,_⟩:=XlE xo ho;have o:=(h.ok.each j x b).2;have e:=(xf _ hm).1;have g:=h.ok.own;have q:=h.ok.n;exact ⟨j,x,rfl,by omega,b,(XoC b _ _).symm,by omega,by simp only at e; omega,f,by omega⟩
theorem XoX (h:Xbd c M) {k who:Int} (hE:XoV M k who=0):∃ (j:Nat) (x:Sm),k=j∧j<M.shs.length∧M.shs[j]? = some x∧Xp2 x M.pl who=0∧XoT M k who=XoP M j (Xp0 x M.pl who) (Xp4 x M.pl who)∧XoW M k who=Xp3 x M.pl who∧XoU M k who=Xp1 x M.pl who:=by
 unfold XoV at hE;cases a:Xok M k with
 |none=>rw [a] at hE; exact absurd (show (1:Int)=0 from hE) (by decide)
 |some x =>
  rw [a] at hE;obtain ⟨j,rfl,b,d⟩:=Xoq a;simp only at hE
  exact ⟨j,x,rfl,b,d,hE,by unfold XoT; rw [a]; simp only; rw [if_pos hE,Int.toNat_natCast],by unfold XoW; rw [a],by unfold XoU; rw [a]⟩
theorem XsT (h:Xbd c M) {k who:Int} (hE:XoV M k who=0):(∀ j n a,XoB (XoT M k who) j n a=if j=k∧n=XoW M k who∧a=XoU M k who then who else XoB M j n a)∧XoB M k (XoW M k who) (XoU M k who) = -1:=by
 obtain ⟨i,x,rfl,g,b,f,e1,e2,e3⟩:=XoX h hE;obtain ⟨xo,xf⟩:=h.mok.sh i x b;have T:=XsP xo xf h.mok.good f;refine ⟨fun j n a => ?_,by rw [e2,e3,XoC b]; exact T.free⟩;rw [e1,e2,e3,XoE,XoF b];by_cases d:j=i
 ·rw [if_pos d,T.own,d,XoC b];by_cases e:n=Xp3 x M.pl who∧a=Xp1 x M.pl who
  ·rw [if_pos e,if_pos ⟨rfl,e⟩]
  ·rw [if_neg e,if_neg (fun h=>e h.2)]
 ·rw [if_neg d,if_neg (fun h=>d h.1)]
theorem XgO (h:Xbd c M) {k n i:Int} (ho:XoB M k n i ≠ -1):Xos M k n i=0 ∧ ∀ j m a,XoB (Xor M k n i) j m a=if j=k∧m=n∧a=i then -1 else XoB M j m a:=by
 obtain ⟨l,x,rfl,_,b,e,_⟩:=XoD h ho;obtain ⟨xo,xf⟩:=h.mok.sh l x b;have p:=(List.getElem?_eq_some_iff.1 b).1;have g:Xok M (l:Nat)=some x:=by rw [Xol p]; exact congrArg some (List.getElem?_eq_some_iff.1 b).2
 rw [← e] at ho;have o:=XgJ.2 ho;have e1:Xor M (l:Nat) n i=XoP M l (XpL x n i) (XpN x M.pl n i):=by unfold Xor; rw [g]; simp only; rw [if_pos o,Int.toNat_natCast]
 refine ⟨by unfold Xos; rw [g]; exact o,fun j m a => ?_⟩;rw [e1,XoE,XoF b];by_cases d:j=l
 ·rw [if_pos d,XgN xo ho,d,XoC b];by_cases f:m=n∧a=i
  ·rw [if_pos f,if_pos ⟨rfl,f⟩]
  ·rw [if_neg f,if_neg (fun h=>f h.2)]
 ·rw [if_neg d,if_neg (fun h=>d h.1)]
theorem Xlw (h:Xbd c M) {k n i who:Int} (hw:0≤who) (ho:XoB M k n i ≠ -1):Xoz M k n i who=0 ∧ ∀ j m a,XoB (Xoy M k n i who) j m a=if j=k∧m=n∧a=i then who else XoB M j m a:=by
 obtain ⟨l,x,rfl,_,b,e,_⟩:=XoD h ho;obtain ⟨xo,xf⟩:=h.mok.sh l x b;have o:=(List.getElem?_eq_some_iff.1 b).1;have g:Xok M (l:Nat)=some x:=by rw [Xol o]; exact congrArg some (List.getElem?_eq_some_iff.1 b).2
 rw [← e] at ho;have e1:Xoy M (l:Nat) n i who=XoR M l (XpR x n i who) M.pl:=by unfold Xoy; rw [g]; simp only [Int.toNat_natCast]
 refine ⟨by unfold Xoz; rw [g]; exact (Xlp hw).2 ho,fun j m a => ?_⟩;rw [e1,XoF b];by_cases d:j=l
 ·rw [if_pos d,Xlv xo hw ho,d,XoC b];by_cases f:m=n∧a=i
  ·rw [if_pos f,if_pos ⟨rfl,f⟩]
  ·rw [if_neg f,if_neg (fun h=>f h.2)]
 ·rw [if_neg d,if_neg (fun h=>d h.1)]
end
theorem XgA {x:List Bool} {j:Nat} (h:j<x.length):x.getD j false=x[j]:=by rw [List.getD_eq_getElem?_getD,List.getElem?_eq_getElem h]; rfl
theorem Xhs {x:List Bool} (h:cnt x≠0):∃ t,t<x.length∧x.getD t false=true∧Xhr x=(t:Int):=by
 have key:∀ m,m≤x.length→(∀ j,m≤j→x.getD j false=false)→(∀ j,x.getD j false=false) ∨ ∃ t,t<x.length∧x.getD t false=true ∧ ∀ j,t<j→x.getD j false=false:=by
  intro m
  induction m with
  |zero=>intro _ h; exact .inl fun j=>h j (Nat.zero_le _)
  |succ m ihm =>
   intro hm h;cases f:x.getD m false with
   |true=>exact .inr ⟨m,by omega,f,fun j a=>h j a⟩
   |false=>exact ihm (by omega) fun j a=>(Nat.eq_or_lt_of_le a).elim (fun e=>e▸f) (fun e=>h j e)
 rcases key x.length (Nat.le_refl _) (fun j a=>by rw [List.getD_eq_getElem?_getD,List.getElem?_eq_none a]; rfl) with k | ⟨t,b,c,g⟩
 ·exfalso
  apply h
  have d:x=List.replicate x.length false:=by
   apply List.ext_getElem (by simp)
   intro j l n;rw [← XgA l,k j]; simp
  rw [d,Xe4]
 ·exact ⟨t,b,c,XnZ (p:=id) b (fun j a i=>by rw [← XgA a]; exact g j i) (by rw [← XgA b]; exact c)⟩
theorem Xmu {p:List Int} (h:0<Xmv p):∃ t,t<p.length∧Xmt p=(t:Int)∧p.getD t (-1) ≠ -1:=by
 obtain ⟨t,a,b,c⟩:=Xhs (x:=pgB p) (by unfold Xmv at h; omega);rw [Xl7] at a;rw [Xl6] at b;exact ⟨t,a,c,by simpa using b⟩
def XpY (x:Sm):Int × Int × Int × Int:=if 2≤x.opn.length then (Xik (-1) x.opn,Xmt ((XqR x.pg (Xik (-1) x.opn)).getD []),Xg3 x.opn,Xme ((XqR x.pg (Xg3 x.opn)).getD [])) else (0,0,0,0)
def XoO (M:RmM) (k:Int):Int × Int × Int × Int:=match Xok M k with | none=>(0,0,0,0) | some x=>XpY x
theorem XoN (M:RmM) (k:Int):XoM M k=Xm2 (XoO M k).1 (XoO M k).2.1 (XoO M k).2.2.1 (XoO M k).2.2.2:=by
 unfold XoM XoO;cases Xok M k with
 |none=>rfl
 |some x =>
  show XpX x=Xm2 (XpY x).1 (XpY x).2.1 (XpY x).2.2.1 (XpY x).2.2.2
  unfold XpX XpY;split <;> rfl
structure Xa3 (M:RmM) (k:Nat):Prop where
 own:XoB M k (XoO M k).1 (XoO M k).2.1 ≠ -1
 e:∀ who:Int,0≤who→XoV M k who=0
 n:∀ who:Int,0≤who→XoW M k who=(XoO M k).2.2.1
 a:∀ who:Int,0≤who→XoU M k who=(XoO M k).2.2.2
 ne:(XoO M k).1≠(XoO M k).2.2.1
theorem Xm4 {c:Conf} {M:RmM} (h:Xbd c M) {k:Nat} (hB:XoL M k=true):Xa3 M k:=by
 unfold XoL at hB;cases l:Xok M k with
 |none=>rw [l] at hB; exact absurd hB (by decide)
 |some x =>
  rw [l] at hB;have d:=of_decide_eq_true hB;obtain ⟨j,P,O,z⟩:=Xoq l;obtain rfl:k=j:=by omega
  obtain ⟨xo,xf⟩:=h.mok.sh k x z;have A:=h.pos k x z;obtain ⟨f,D,E,l',u⟩:=(Xin (-1) x.opn).resolve_left (fun e=>by rw [e.1] at d; simp at d);obtain ⟨t,r,m⟩:∃ t r,x.opn=t::r:=by
   cases g:x.opn with
   |nil=>rw [g] at d; simp at d
   |cons t r=>exact ⟨t,r,rfl⟩
  obtain ⟨p,B⟩:=xo.osub f D;obtain ⟨F,v⟩:=xo.osub t (by rw [m]; simp);have q:XoO M k=(((f:Nat):Int),Xmt p,((t:Nat):Int),Xme F):=by
   unfold XoO;rw [l];show XpY x=_
   unfold XpY;rw [if_pos d,E,m];show ((f:Int),Xmt ((XqR x.pg f).getD []),(t:Int),Xme ((XqR x.pg t).getD []))=_
   rw [XqV xo.nodup B,XqV xo.nodup v];rfl
  have G:∀ who:Int,0≤who→Xp2 x M.pl who=0:=fun who a=>by unfold Xp2; rw [if_neg (by omega),if_neg (by omega)]
  have H:∀ who:Int,0≤who→Xp3 x M.pl who=t∧Xp1 x M.pl who=Xme F:=fun who a=>by
   rcases Xp5 x M.pl who with ⟨w,_⟩ | ⟨_,_,⟨n,r',g,_,_,C,J,I⟩ | ⟨n,r',g,_⟩⟩
   ·exact absurd (G who a) w
   ·rw [m] at g;obtain ⟨e1,_⟩:=List.cons.inj g;subst e1;rw [XqV xo.nodup v] at C;simp only [Option.getD_some] at C;rw [C] at I;exact ⟨J,I⟩
   ·rw [m] at g; cases g
  have w:f≠t:=fun e=>by
   have y:=xo.onodup;rw [u] at y d;have K:=u.symm.trans m;cases l' with
   |nil=>simp at d
   |cons b s =>
    obtain ⟨e1,_⟩:=List.cons.inj K;obtain ⟨_,_,L⟩:=List.nodup_append.1 y;exact L b (by simp) f (by simp) (e1.trans e.symm)
  have o:=l;refine ⟨?_,fun who a=>by unfold XoV; rw [o]; exact G who a,fun who a=>by unfold XoW; rw [o,q]; exact (H who a).1,fun who a=>by unfold XoU; rw [o,q]; exact (H who a).2,by rw [q]; simp only; omega⟩;rw [q,XoC z];simp only
  obtain ⟨i,N,e1,e2⟩:=Xmu (A _ B);simp only at N e1 e2
  unfold XpT;rw [XqV xo.nodup B];simp only
  rw [e1];unfold Xmg;rw [if_pos (by omega),Int.toNat_natCast];exact e2
structure Ar where
 ab:Nat
 db:Nat
 mc:Nat
 mb:Option Nat
structure ArV where
 bs:List Int
 total:Int
 lap:Int
abbrev XtK (A:Ar):Value := .func (.func 145) #[] #[.pointer (some ⟨A.mc,0,none⟩)]
structure Xag (w:World) (A:Ar) (V:ArV):Prop where
 obj:w.heap[A.ab]? = some (.cells #[.slice (some ⟨A.db,0,none⟩) V.bs.length V.bs.length,XtK A] 199 (0,0))
 dat:w.heap[A.db]? = some (.cells (V.bs.map (Value.int .u8)).toArray 5 (0,0))
 cap:w.heap[A.mc]? = some (.cells #[ptr A.mb] 127 (0,0))
 met:∀ b,A.mb=some b→XaO w b V.total V.lap
 len:V.bs.length≤4194304
 rng:∀ x ∈ V.bs,0≤x∧x<256
theorem XdF {w:World} {a b t t':Nat} {c c':Array Value} {f f':Nat × Nat} (h:w.heap[a]? = some (.cells c t f)) (h':w.heap[b]? = some (.cells c' t' f')) (ht:t≠t'):a≠b:=by
 intro e; subst e; rw [h] at h'; cases h'; exact ht rfl
def XjD (A:Ar):Nat→Prop:=fun b=>A.mb=some b
def Xgh (A:Ar):Nat→Prop:=fun b=>b=A.db∨A.mb=some b
def ArV.charge (V:ArV) (A:Ar) (n:Int):ArV:=match A.mb with
 |none=>V
 |some _=>{V with total:=Xel V.total n}
theorem ArV.charge_bs (V:ArV) (A:Ar) (n:Int):(V.charge A n).bs=V.bs:=by unfold ArV.charge; split <;> rfl
theorem ArV.charge_lap (V:ArV) (A:Ar) (n:Int):(V.charge A n).lap=V.lap:=by unfold ArV.charge; split <;> rfl
theorem Xag.chg {w w':World} {A:Ar} {V:ArV} {S:Nat→Prop} (h:Xag w A V) (hc:Chg S w w') (hs:∀ b,b=A.ab∨b=A.db∨b=A.mc∨A.mb=some b → ¬ S b):Xag w' A V :=
 ⟨hc.heap h.obj (hs _ (.inl rfl)),hc.heap h.dat (hs _ (.inr (.inl rfl))),hc.heap h.cap (hs _ (.inr (.inr (.inl rfl)))),fun b a=>⟨hc.heap (h.met b a).1 (hs _ (.inr (.inr (.inr a)))),(h.met b a).2⟩,h.len,h.rng⟩
theorem Xag.grow {w w':World} {A:Ar} {V:ArV} (h:Xag w A V) (hc:Chg XaW w w'):Xag w' A V:=h.chg hc fun _ _ h=>h
theorem Xag.metered {w w':World} {A:Ar} {V:ArV} {b:Nat} {t:Int} (h:Xag w A V) (hb:A.mb=some b) (hm:XaO w' b t V.lap) (hc:Chg (fun x=>x=b) w w'):Xag w' A {V with total:=t}:=by
 have c:=(h.met b hb).1;refine ⟨hc.heap h.obj (fun e=>XdF h.obj c (by decide) e),hc.heap h.dat (fun e=>XdF h.dat c (by decide) e),hc.heap h.cap (fun e=>XdF h.cap c (by decide) e),fun b' a => ?_,h.len,h.rng⟩;rw [hb] at a; cases a; exact hm
abbrev Xre (A:Ar) (N at' n:Nat):Value := .slice (Xqq (some ⟨A.db,0,none⟩) N at' 1) n (N - at')
theorem XcH (A:Ar) (V:ArV) (i n:Nat) (w:World) (h:Xag w A V) (ht:i+n≤V.bs.length):Xan Tryz.prog 292 #[.pointer (some ⟨A.ab,0,none⟩),.int .i64 i,.int .i64 n] w (Xbp (.tuple #[Xre A V.bs.length i n,.int .i64 0]) w):=by
 have a:=h.len;exact ζe Tryz.func292 Tryz.ntmps292 rfl (ζf rfl (ζf rfl (ζl h.obj rfl (ζf rfl (ζl h.obj rfl (ζj rfl (ζf rfl (ζl h.obj rfl (ζj rfl (Xay.slice hTT rfl (l:=i) (h:=(i+n)) (by first | rfl | omega | simp [loV]) (by first | rfl | omega | simp [hiV]) (by omega) (by omega) rfl (ζr Tryz.func292 rfl ⟨by rw [show i+n - i=n from by omega],rfl⟩)))))))))))
theorem XcJ (A:Ar) (V:ArV) (n:Int) (w:World) (h:Xag w A V):Xan Tryz.prog 145 #[.int .i64 n,.pointer (some ⟨A.mc,0,none⟩)] w (fun _ w'=>Xag w' A (V.charge A n)∧Chg (XjD A) w w'):=by
 have c:=h.cap;cases a:A.mb with
 |none =>
  rw [a] at c;refine ζe Tryz.func145 Tryz.ntmps145 rfl (ζl c rfl (ζc rfl (Xj0 n w) ?_));rintro _ f rfl;refine ζa rfl ?_;have e:V.charge A n=V:=by unfold ArV.charge; rw [a]
  exact ζr Tryz.func145 rfl ⟨by rw [e]; exact h,Chg.refl _ _⟩
 |some b =>
  rw [a] at c;refine ζe Tryz.func145 Tryz.ntmps145 rfl (ζl c rfl (ζc rfl (XjZ b V.total V.lap n w (h.met b a)) ?_));rintro _ f ⟨hm,d⟩;refine ζa rfl ?_;have e:V.charge A n={V with total:=Xel V.total n}:=by unfold ArV.charge; rw [a]
  exact ζr Tryz.func145 rfl ⟨by rw [e]; exact h.metered a hm d,d.mono (fun x _ g=>by unfold XjD; rw [g]; exact a)⟩
theorem XcF (A:Ar) (V:ArV) (i n:Nat) (w:World) (h:Xag w A V) (ht:i+n≤V.bs.length):Xan Tryz.prog 250 #[.pointer (some ⟨A.ab,0,none⟩),.int .i64 i,.int .i64 n] w (fun v w'=>v = .tuple #[Xre A V.bs.length i n,.int .i64 0]∧Xag w' A (V.charge A n)∧Chg (XjD A) w w'):=by
 refine ζe Tryz.func250 Tryz.ntmps250 rfl (ζw (XcH A V i n w h ht) rfl (ζy rfl (ζl h.obj rfl (ζc rfl (XcJ A V n w h) ?_))));rintro _ c ⟨a,b⟩;exact ζa rfl (ζr Tryz.func250 rfl ⟨rfl,a,b⟩)
theorem XcB (A:Ar) (V:ArV) (w:World) (h:Xag w A V):Xan Tryz.prog 150 #[.pointer (some ⟨A.ab,0,none⟩)] w (Xbp (.int .i64 V.bs.length) w):=by
 exact ζe Tryz.func150 Tryz.ntmps150 rfl (ζl h.obj rfl (ζr Tryz.func150 rfl ⟨rfl,rfl⟩))
def Xcx (p s:Int):Bool:=decide (1≤p) && decide (p≤1024) && decide (64≤s) && decide (s≤4096) && (s % 8 == 0)
theorem Xcy {p s:Int}:Xcx p s=true↔1≤p∧p≤1024∧64≤s∧s≤4096∧s % 8=0:=by unfold Xcx; simp [and_assoc]
def Xu1 (n:Nat):List Int:=List.replicate n 0
theorem XuZ:∀ n,XuS [Value.int .u8 0] n=(Xu1 n).map (Value.int .u8)
 |0=>rfl
 |n+1=>by rw [XuS,XuZ n]; simp [Xu1,List.replicate_succ]
theorem XcC (mb:Option Nat) (total lap:Int) (p s:Int) (w:World) (hm:∀ b,mb=some b→XaO w b total lap) (ht:Xcx p s=true):Xan Tryz.prog 87 #[.int .i64 p,.int .i64 s,ptr mb] w
 (fun v w' => ∃ A:Ar,v = .tuple #[.pointer (some ⟨A.ab,0,none⟩),.int .i64 0]∧A.mb=mb∧w.heap.size≤A.ab∧w.heap.size≤A.db∧w.heap.size≤A.mc∧Xag w' A ⟨Xu1 (p*s).toNat,total,lap⟩∧Chg XaW w w'):=by
 have g:=Xcy.1 ht;have y:0≤p*s:=Int.mul_nonneg (by omega) (by omega);have z:p*s≤1024*4096:=Int.mul_le_mul (by omega) (by omega) (by omega) (by omega);refine Xan.enter Tryz.func87 rfl Tryz.ntmps87 rfl rfl ?_;refine ζa rfl ?_;refine Xay.alloc hTT rfl ?_;intro mc B e1 i f r;refine ζa rfl ?_;refine Xay.no hTT rfl (decide_eq_false (by omega)) rfl ?_;refine Xay.no hTT rfl (decide_eq_false (by omega)) rfl ?_;refine Xay.no hTT rfl (decide_eq_false (by omega)) rfl ?_;refine Xay.no hTT rfl (decide_eq_false (by omega)) rfl ?_;refine Xay.div hTT rfl (by omega) (XnS (by omega)) rfl ?_;refine Xay.no hTT rfl (by simp; omega) rfl ?_;refine Xay.arith hTT rfl (w64 (by omega)) rfl ?_;refine Xay.make hTT (m:=(p*s).toNat) (k:=(p*s).toNat) rfl (by omega) (by omega) (Nat.le_refl _) (by simp only; omega) (by omega) ?_;intro db C e2 h d t;refine ζa rfl ?_;refine Xay.build hTT rfl rfl ?_;refine Xay.alloc hTT rfl ?_;intro ab n e3 e c u;refine ζa rfl ?_;have o:(XuS (Xd9 (Value.int .u8 0)) (p*s).toNat)=(Xu1 (p*s).toNat).map (Value.int .u8):=XuZ _;rw [o] at h;have a:(Xu1 (p*s).toNat).length=(p*s).toNat:=List.length_replicate;rw [← a] at e;have j:Xag n ⟨ab,db,mc,mb⟩ ⟨Xu1 (p*s).toNat,total,lap⟩ :=
  ⟨e,c.heap' h,c.heap' (d.heap' i),fun b l=>⟨c.heap' (d.heap' (f.heap' (hm b l).1)),(hm b l).2⟩,by rw [a]; omega,fun x q=>by rw [List.eq_of_mem_replicate q]; omega⟩
 rw [a] at e;exact Xay.ret2 hTT rfl Tryz.func87 rfl rfl rfl ⟨⟨ab,db,mc,mb⟩,rfl,rfl,by simp only; omega,by simp only; omega,by simp only; omega,j,(f.trans d).trans c⟩
theorem Rd.metered {w w':World} {A:Ar} {V:ArV} {a:Option Addr} {l:List Int} (hr:Rd .u8 w a l) (h:Xag w A V) (hc:Chg (XjD A) w w'):Rd .u8 w' a l:=fun i g=>by
 obtain ⟨b,off,e,c⟩:=hr i g;refine ⟨b,off,e,?_⟩;have d:¬ XjD A b:=fun j=>by
  have m:=(h.met b j).1;rw [Xd7 m] at c
  match hj:off+i,c with
  |0,c=>simp at c
  |1,c=>simp at c
  |k+2,c=>simp at c
 have f:=World.block_lt_of_cell? w _ c;rw [← c];simp only [World.cell?,hc.block b f d]
def wrB (bs:List Int) (i:Nat) (l:List Int):List Int:=bs.take i++l++bs.drop (i+l.length)
theorem Xuz {bs:List Int} {i:Nat} {l:List Int} (h:i+l.length≤bs.length):(wrB bs i l).length=bs.length:=by unfold wrB; simp; omega
theorem XuA {bs:List Int} {i:Nat} {l:List Int} {x:Int} (h:x ∈ wrB bs i l):x ∈ bs∨x ∈ l:=by
 unfold wrB at h;simp only [List.mem_append] at h;rcases h with (h | h) | h
 ·exact .inl (List.mem_of_mem_take h)
 ·exact .inr h
 ·exact .inl (List.mem_of_mem_drop h)
theorem XuB {bs:List Int} {i:Nat}:wrB bs i []=bs:=by unfold wrB; simp
def InB (l:List Int):Prop := ∀ x ∈ l,0≤x∧x<256
theorem Xag.laid {w w':World} {A:Ar} {V:ArV} {bs:List Int} (h:Xag w A V) (hd:w'.heap[A.db]? = some (.cells (bs.map (Value.int .u8)).toArray 5 (0,0))) (hc:Chg (fun b=>b=A.db) w w') (hl:bs.length=V.bs.length) (hr:InB bs):Xag w' A {V with bs:=bs} :=
 ⟨by rw [hl]; exact hc.heap h.obj (fun e=>XdF h.obj h.dat (by decide) e),hd,hc.heap h.cap (fun e=>XdF h.cap h.dat (by decide) e),fun b a=>⟨hc.heap (h.met b a).1 (fun e=>XdF (h.met b a).1 h.dat (by decide) e),(h.met b a).2⟩,by rw [hl]; exact h.len,hr⟩
theorem Xrf {A:Ar} {N i n:Nat} (h:i+n≤N) (hn:0<n):Xqq (some ⟨A.db,0,none⟩) N i 1=some ⟨A.db,i,none⟩:=by
 unfold Xqq;rw [if_neg (by omega),Option.map_some,XbR]
 simp
theorem XcG (A:Ar) (V:ArV) (i n:Nat) (w:World) (h:Xag w A V) (ht:i+n≤V.bs.length):Xan Tryz.prog 250 #[.pointer (some ⟨A.ab,0,none⟩),.int .i64 i,.int .i64 n] w
 (fun v w' => ∃ x,v = .tuple #[.slice x n (V.bs.length - i),.int .i64 0]∧(0<n→x=some ⟨A.db,i,none⟩)∧x.isSome=true∧Xag w' A (V.charge A n)∧Chg (XjD A) w w') :=
 (XcF A V i n w h ht).mono fun _ _ ⟨a,b,c⟩=>⟨_,a,fun d=>Xrf ht d,by unfold Xqq; split <;> rfl,b,c⟩
theorem XcE (A:Ar) (V:ArV) (i:Nat) (a:Option Addr) (cap:Nat) (l:List Int) (w:World) (h:Xag w A V) (hr:Rd .u8 w a l) (hb:InB l) (ht:i+l.length≤V.bs.length) :
 Xan Tryz.prog 196 #[.pointer (some ⟨A.ab,0,none⟩),.int .i64 i,.slice a l.length cap] w (fun v w'=>v = .int .i64 0∧Xag w' A {V.charge A l.length with bs:=wrB V.bs i l}∧Chg (Xgh A) w w'):=by
 refine Xan.enter Tryz.func196 rfl Tryz.ntmps196 rfl rfl ?_;refine ζa rfl ?_;refine ζc rfl (XcG A V i l.length w h ht) ?_;rintro _ s ⟨x,rfl,j,_,k,o⟩;refine ζa rfl ?_;have c:Chg (Xgh A) w s:=o.mono fun b _ hb => .inr hb;have e1:=V.charge_bs A l.length;by_cases p:l.length=0
 ·refine Xay.copy0 hTT rfl (by simp [p]) rfl ?_;have m:l = []:=List.eq_nil_of_length_eq_zero p;subst m;exact Xay.ret1 hTT rfl Tryz.func196 rfl rfl ⟨rfl,by rw [XuB,← V.charge_bs A 0]; exact k,c⟩
 ·have q:=j (by omega);subst q;have r:=hr.metered h o;have t:∃ aa,a=some aa:=by obtain ⟨b,off,e,_⟩:=hr 0 (by omega); exact ⟨_,e⟩
  obtain ⟨aa,rfl⟩:=t;have d:=k.dat;rw [e1] at d;refine Xay.copy hTT rfl d (cs:=l.map (Value.int .u8)) (by simp) r.cells (by simp; omega) Xm1 ?_;intro z f g y;refine ζa rfl ?_;have n:(V.bs.map (Value.int .u8)).take i++l.map (Value.int .u8)++(V.bs.map (Value.int .u8)).drop (i+(l.map (Value.int .u8)).length)=(wrB V.bs i l).map (Value.int .u8):=by
   unfold wrB; simp [List.map_take,List.map_drop]
  rw [n] at f;have u:=k.laid f g (by rw [Xuz ht,e1]) (fun x j=>(XuA j).elim (h.rng x) (hb x));exact Xay.ret1 hTT rfl Tryz.func196 rfl rfl ⟨rfl,u,c.trans (g.mono fun b _ hb => .inl hb)⟩
def XaY (base:Nat) (w:World) (v:Value) (l:List Int):Prop := ∃ g cap cur,v = .slice (some ⟨g,0,none⟩) l.length cap∧base≤g∧w.heap[g]? = some (.cells cur 5 (0,0))∧l.length≤cap∧cur.toList.take l.length=l.map (Value.int .u8)
theorem XqE (aa:Addr) (cap:Nat) (l:List Int) (w:World) (hr:Rd .u8 w (some aa) l) (hl:l.length≤4194304):Xan Tryz.prog 251 #[.slice (some aa) l.length cap] w (fun v w'=>XaY w.heap.size w' v l∧Chg XaW w w'):=by
 have p:maxLen=9223372036854775807:=rfl;refine Xan.enter Tryz.func251 rfl Tryz.ntmps251 rfl rfl ?_;refine ζa rfl ?_;refine Xay.no hTT rfl rfl rfl ?_;refine Xay.buildSlice hTT rfl ?_;intro b i e1 j a q;refine ζa rfl ?_;have c:Own w.heap.size 5 1 i (.slice (some ⟨b,0,none⟩) 0 0) 0 []:=Own.empty (by omega) j;refine Xay.append (base:=w.heap.size) (xs := []) (news:=l.map (Value.int .u8)) hTT rfl c a.size (by simp) (hr.chg a).cells Xm1 (by simp only; omega) ?_;intro r s d e f;refine ζa rfl ?_;have h:=c.since a (Nat.le_refl _) e;rcases d.2 with ⟨k,_⟩ | ⟨g,cap',cur,rfl,m,n,t,_,_,o⟩
 ·exact absurd (f.1.1 k).1 (by simp)
 ·exact Xay.ret1 hTT rfl Tryz.func251 rfl rfl ⟨⟨g,cap',cur,by simp,m,n,by omega,by simpa using o⟩,h⟩
def sub (bs:List Int) (i n:Nat):List Int:=(bs.drop i).take n
theorem Xsy {bs:List Int} {i n:Nat} (h:i+n≤bs.length):(sub bs i n).length=n:=by unfold sub; simp; omega
theorem Xag.sub {w:World} {A:Ar} {V:ArV} {x:Option Addr} {i n:Nat} (h:Xag w A V) (hx:0<n→x=some ⟨A.db,i,none⟩) (ht:i+n≤V.bs.length):Rd .u8 w x (sub V.bs i n):=fun j a=>by
 rw [Xsy ht] at a;refine ⟨A.db,i,hx (by omega),?_⟩;rw [Xd7 h.dat];have:(Go.Proofs.YtgddpaiandefgaaGreatDoor.sub V.bs i n).getD j 0=V.bs[i+j]'(by omega):=by unfold Go.Proofs.YtgddpaiandefgaaGreatDoor.sub; simp [List.getD,a,show i+j<V.bs.length from by omega]
 rw [this];simp [show i+j<V.bs.length from by omega]
theorem XcD (A:Ar) (V:ArV) (i n:Nat) (w:World) (h:Xag w A V) (ht:i+n≤V.bs.length) :
 Xan Tryz.prog 194 #[.pointer (some ⟨A.ab,0,none⟩),.int .i64 i,.int .i64 n] w (fun v w' => ∃ v',v = .tuple #[v',.int .i64 0]∧XaY w.heap.size w' v' (sub V.bs i n)∧Xag w' A (V.charge A n)∧Chg (XjD A) w w'):=by
 have q:=h.len;refine ζe Tryz.func194 Tryz.ntmps194 rfl (ζc rfl (XcG A V i n w h ht) ?_);rintro _ j ⟨x,rfl,k,l,e,b⟩;refine ζa rfl ?_;obtain ⟨aa,rfl⟩:=Option.isSome_iff_exists.1 l;have e1:=V.charge_bs A n;have f:=e.sub (i:=i) (n:=n) k (by rw [e1]; exact ht);rw [e1] at f;have c:=XqE aa (V.bs.length - i) (sub V.bs i n) j f (by rw [Xsy ht]; omega);rw [Xsy ht] at c;refine ζc rfl (c) ?_;rintro m r ⟨o,d⟩;refine ζa rfl ?_;obtain ⟨g,cap,cur,p,s,a⟩:=o;exact ζr Tryz.func194 rfl ⟨m,rfl,⟨g,cap,cur,p,by have:=b.size; omega,a⟩,e.grow d,b.trans (d.mono fun _ _ h=>h.elim)⟩
theorem XuC {z:Int} (h:0≤z∧z<18446744073709551616):IntKind.u64.wrap z=z:=by
 simp only [IntKind.wrap,IntKind.signed,IntKind.bits]
 first | omega | (simp; omega)
end Go.Proofs.YtgddpaiandefgaaGreatDoor
