/-
  Texts put together: Ref13b, Ref13c, Ref13d, Ref13e, Ref13f, Unit, Slices, Class, Conf, Meter, Rmm, Pick, Rml, Room0, Room1, Room2, Room3, Slices2, Slices3, Plc, Room4, Room5, Room6, Flat, Ref20, Ref20b, Ref20c, Ref20d, Ref3, Ref20e, Ref20f, Ref20g, Ref20h, Ref20i, RmBack, RmOwn, Xbg, Top13.
-/
import Derived.Test.YtgddpaiandefgaaGreatDoorPt1
import Derived.Test.YtgddpaiandefgaaGreatDoorQPost
import Derived.Test.YtgddpaiandefgaaGreatDoorQRule6
import Derived.Test.YtgddpaiandefgaaGreatDoorQRule11
import Derived.Test.YtgddpaiandefgaaGreatDoorQRule16
import Derived.Test.YtgddpaiandefgaaGreatDoorQRule5
import Derived.Test.YtgddpaiandefgaaGreatDoorQRule15
import Derived.Test.YtgddpaiandefgaaGreatDoorQRule17
import Derived.Test.YtgddpaiandefgaaGreatDoorQRule18
import Derived.Test.YtgddpaiandefgaaGreatDoorQRule19
set_option linter.unusedVariables false
set_option maxRecDepth 100000
namespace Go.Proofs.YtgddpaiandefgaaGreatDoor
open Go.RowKit
theorem Xbo.few {w:World} {r:RS} {x:Sm} {pl:PlM} (h:Xbo w r x pl) (hok:x.Ok) (hof:x.Of pl):x.pg.length≤512∧x.opn.length≤512∧pl.own.length≤512:=by
 have b:=h.p.o.ok.len;rw [h.p.eo] at b;have c:=XlW _ _ hok.nodup (fun n a=>by obtain ⟨e,d,rfl⟩:=List.mem_map.1 a; exact (hof e d).1);rw [List.length_map] at c;have g:=XlW pl.own.length x.opn hok.onodup (fun n a=>by obtain ⟨p,f⟩:=hok.osub n a; exact (hof _ f).1);exact ⟨by omega,by omega,b⟩
theorem Xbl.out {w:World} {r:RP} {pl:PlM} {S:Nat→Prop} (h:Xbl w r pl) (hs:∀ z,S z→w.heap.size≤z):Xa0 S r.o.a∧Xa0 S r.f.a:=⟨h.o.lt.out hs,h.f.lt.out hs⟩



theorem RdP.shift {w:World} {a:Option Addr} {ps:List IL} {cap lo k:Nat} (h:RdP w a ps) (hm:lo+k≤ps.length) (hc:ps.length≤cap):RdP w (XrR a cap lo 1) ((ps.drop lo).take k):=fun i l d=>by
 have g:=(List.getElem?_eq_some_iff.1 d).1;have e:i<k:=by rw [List.length_take] at g; omega
 rw [List.getElem?_take,if_pos e,List.getElem?_drop] at d;obtain ⟨b,off,rfl,c⟩:=h (lo+i) l d;have f:¬ cap=lo:=by omega
 refine ⟨b,off+lo,?_,?_⟩
 ·simp only [XrR,if_neg f,Option.map_some,Nat.mul_one,XbV]
 ·rw [Nat.add_assoc]; exact c
def Xwa (n q:Int):Int:=if n<1∨q<1 then 0 else n / q
theorem Xwc {n q:Int} (h:1≤n) (h':1≤q):Xwa n q=n / q:=by unfold Xwa; rw [if_neg (by omega)]
theorem Xwb {n q:Int} (h:n<1∨q<1):Xwa n q=0:=by unfold Xwa; rw [if_pos h]
theorem Xvs (x:Int) (w:World):Xan Tryz.prog 306 #[.int .i64 x] w (Xbs (.bool (decide (x<1))) w):=by
 exact ζe Tryz.func306 Tryz.ntmps306 rfl (ζr Tryz.func306 rfl ⟨rfl,rfl⟩)
theorem Xvq (x y:Int) (w:World):Xan Tryz.prog 305 #[.int .i64 x,.int .i64 y,.func (.func 306) #[] #[]] w (Xbs (.bool (decide (x<1∨y<1))) w):=by
 refine ζe Tryz.func305 Tryz.ntmps305 rfl (ζw (Xvs x w) rfl (ζg rfl (fun h => ?_) fun h => ?_))
 ·exact ζr Tryz.func305 rfl ⟨XdW (by simp at h; simp [h]),rfl⟩
 ·exact ζw (Xvs y w) rfl (ζr Tryz.func305 rfl ⟨XdW (by simp at h; simp [show ¬ x<1 from by omega]),rfl⟩)
theorem Xvr (x y:Int) (w:World):Xan Tryz.prog 263 #[.int .i64 x,.int .i64 y] w (Xbs (.bool (decide (x<1∨y<1))) w):=by
 exact ζe Tryz.func263 Tryz.ntmps263 rfl (ζw (Xvq x y w) rfl (ζr Tryz.func263 rfl ⟨rfl,rfl⟩))
theorem Xvp (n q:Int) (w:World) (hn:n≤9223372036854775807):Xan Tryz.prog 218 #[.int .i64 n,.int .i64 q] w (Xbs (.int .i64 (Xwa n q)) w):=by
 refine ζe Tryz.func218 Tryz.ntmps218 rfl (ζw (Xvr n q w) rfl (ζg rfl (fun h => ?_) fun h => ?_))
 ·exact ζr Tryz.func218 rfl ⟨XiH (Xwb (by simpa using h)).symm,rfl⟩
 ·have a:1≤n∧1≤q:=by simp at h; omega
  exact Xay.div hTT rfl (by omega) (XoJ (by omega) (by omega)) rfl (ζr Tryz.func218 rfl ⟨XiH (Xwc a.1 a.2).symm,rfl⟩)
theorem XoW (n q:Int) (w:World) (hn:n≤9223372036854775807):Xan Tryz.prog 268 #[.int .i64 n,.int .i64 q] w (Xbs (.int .i64 (Xwa n q)) w):=by
 refine ζe Tryz.func268 Tryz.ntmps268 rfl (ζg rfl (fun h => ?_) fun h => ?_)
 ·exact ζr Tryz.func268 rfl ⟨XiH (Xwb (.inl (by simpa using h))).symm,rfl⟩
 ·refine ζg rfl (fun a => ?_) fun a => ?_
  ·exact ζr Tryz.func268 rfl ⟨XiH (Xwb (.inr (by simpa using a))).symm,rfl⟩
  ·have b:1≤n∧1≤q:=by simp at h a; omega
   exact Xay.div hTT rfl (by omega) (XoJ (by omega) (by omega)) rfl (ζr Tryz.func268 rfl ⟨XiH (Xwc b.1 b.2).symm,rfl⟩)
def XkA (n q:Int):Int:=if n<1∨q<1 then 0 else (n - 1) / q+1
theorem Xvo (n q:Int) (w:World) (hn:n≤9223372036854775807):Xan Tryz.prog 253 #[.int .i64 n,.int .i64 q] w (Xbs (.int .i64 (XkA n q)) w):=by
 refine ζe Tryz.func253 Tryz.ntmps253 rfl (ζw (Xvr n q w) rfl (ζg rfl (fun h => ?_) fun h => ?_))
 ·have:XkA n q=0:=by unfold XkA; rw [if_pos (by simpa using h)]
  exact ζr Tryz.func253 rfl ⟨XiH this.symm,rfl⟩
 ·have a:1≤n∧1≤q:=by simp at h; omega
  have:XkA n q=(n - 1) / q+1:=by unfold XkA; rw [if_neg (by omega)]
  have b:0≤(n - 1) / q:=Int.ediv_nonneg (by omega) (by omega);have c:(n - 1) / q≤n - 1:=Int.ediv_le_self _ (by omega);exact ζj rfl (Xay.div hTT rfl (by omega) (XoJ (by omega) (by omega)) rfl (ζj rfl (ζr Tryz.func253 rfl ⟨XiH this.symm,rfl⟩)))
theorem Xsc (a:Option Addr) (cap fk:Nat) (zs:List Int) (caps:List Value) (p:Int→Bool) (w:World) (hr:Rd .i64 w a zs) (hl:zs.length≤9223372036854775807)
 (hf:∀ x,x ∈ zs→Xan Tryz.prog fk (.int .i64 x::caps).toArray w (Xbs (.bool (p x)) w)) :
 Xan Tryz.prog 152 #[.slice a zs.length cap,.func (.func fk) #[] caps.toArray] w (Xbs (.int .i64 (idx p zs)) w):=by
 refine ζe Tryz.func152 Tryz.ntmps152 rfl ?_;refine Xay.loop (α:=Nat) (fun k => [(0,false,.slice a zs.length cap),(1,false,.func (.func fk) #[] caps.toArray),(7,false,.int .i64 zs.length),(8,false,.int .i64 k)])
  (fun k w'=>w'=w∧k≤zs.length ∧ ∀ j (h:j<zs.length),j<k→p zs[j]=false) (fun k=>zs.length - k) 0 ⟨rfl,rfl,rfl,rfl,trivial⟩ ⟨rfl,Nat.zero_le _,fun _ _ h=>by omega⟩ ?_
 rintro k o ⟨i,q,d⟩ ih;refine ζa rfl (ζg rfl (fun h => ?_) fun h => ?_)
 ·have c:k<zs.length:=by simpa using h
  obtain ⟨b,off,rfl,l⟩:=hr k c;rw [Xg0 c] at l;subst i;refine ζi k rfl (ζk rfl l rfl (ζw (hf _ (List.getElem_mem c)) rfl (ζg rfl (fun f => ?_) fun f => ?_)))
  ·exact ζr Tryz.func152 rfl ⟨XiH (Xip c d f).symm,rfl⟩
  ·refine ζj rfl ?_;exact ih (k+1) _ _ ⟨rfl,c,fun j g m=>by
    by_cases e:j=k
    ·subst e; exact f
    ·exact d j g (by omega)⟩ (by omega) ⟨rfl,rfl,rfl,rfl,trivial⟩
 ·have n:k=zs.length:=by simp at h; omega
  subst i;exact ζr Tryz.func152 rfl ⟨XiH (Xir (fun j g=>d j g (by omega))).symm,rfl⟩
theorem Xr8 (a:Option Addr) (cap fk:Nat) (zs:List Int) (caps:List Value) (p:Int→Bool) (w:World) (hr:Rd .i64 w a zs) (hl:zs.length≤9223372036854775807)
 (hf:∀ x,x ∈ zs→Xan Tryz.prog fk (.int .i64 x::caps).toArray w (Xbs (.bool (p x)) w)) :
 Xan Tryz.prog 142 #[.slice a zs.length cap,.func (.func fk) #[] caps.toArray] w (Xbs (.bool (zs.any p)) w):=by
 exact ζe Tryz.func142 Tryz.ntmps142 rfl (ζw (Xsc a cap fk zs caps p w hr hl hf) rfl (ζr Tryz.func142 rfl ⟨XdW (by rw [Bool.eq_iff_iff]; simp only [decide_eq_true_eq]; exact Xis),rfl⟩))
theorem Xsd (a:Option Addr) (cap:Nat) (bs:List Bool) (x:Bool) (w:World) (hr:RdB w a bs) (hl:bs.length≤9223372036854775807) :
 Xan Tryz.prog 211 #[.slice a bs.length cap,.bool x] w (Xbs (.int .i64 (idx (fun y=>x == y) bs)) w):=by
 refine ζe Tryz.func211 Tryz.ntmps211 rfl ?_;refine Xay.loop (α:=Nat) (fun k => [(0,false,.slice a bs.length cap),(1,false,.bool x),(7,false,.int .i64 bs.length),(8,false,.int .i64 k)])
  (fun k w'=>w'=w∧k≤bs.length ∧ ∀ j (h:j<bs.length),j<k→(x == bs[j])=false) (fun k=>bs.length - k) 0 ⟨rfl,rfl,rfl,rfl,trivial⟩ ⟨rfl,Nat.zero_le _,fun _ _ h=>by omega⟩ ?_
 rintro k o ⟨i,q,c⟩ ih;refine ζa rfl (ζg rfl (fun h => ?_) fun h => ?_)
 ·have d:k<bs.length:=by simpa using h
  obtain ⟨b,off,rfl,l⟩:=hr k d;subst i;refine ζi k rfl (ζk rfl l rfl (ζg rfl (fun f => ?_) fun f => ?_))
  ·exact ζr Tryz.func211 rfl ⟨XiH (Xip (p:=fun y=>x == y) d c f).symm,rfl⟩
  ·refine ζj rfl ?_;exact ih (k+1) _ _ ⟨rfl,d,fun j g m=>by
    by_cases e:j=k
    ·subst e; exact f
    ·exact c j g (by omega)⟩ (by omega) ⟨rfl,rfl,rfl,rfl,trivial⟩
 ·have n:k=bs.length:=by simp at h; omega
  subst i;exact ζr Tryz.func211 rfl ⟨XiH (Xir (p:=fun y=>x == y) (fun j g=>c j g (by omega))).symm,rfl⟩
theorem Xr9 (a:Option Addr) (cap:Nat) (bs:List Bool) (x:Bool) (w:World) (hr:RdB w a bs) (hl:bs.length≤9223372036854775807) :
 Xan Tryz.prog 144 #[.slice a bs.length cap,.bool x] w (Xbs (.bool (bs.any fun y=>x == y)) w):=by
 exact ζe Tryz.func144 Tryz.ntmps144 rfl (ζw (Xsd a cap bs x w hr hl) rfl (ζr Tryz.func144 rfl ⟨XdW (by rw [Bool.eq_iff_iff]; simp only [decide_eq_true_eq]; exact Xis),rfl⟩))
def okL (page:Int):Int→List Int→Bool
 |_,[]=>true
 |ahead,n::r=>decide (8≤n) && (n % 8 == 0) && decide (n≤page) && decide (ahead<n) && okL page n r
def Xe2 (zs:List Int) (page:Int):Bool:=decide (0<zs.length) && decide (zs.length≤16) && okL page 0 zs
def XeZ (zs:List Int) (page:Int):Int:=if Xe2 zs page then 0 else 1
theorem Xl9 {page ahead:Int} {zs:List Int} {k:Nat} (h:k<zs.length):okL page ahead (zs.drop k)=(decide (8≤zs[k]) && (zs[k] % 8 == 0) && decide (zs[k]≤page) && decide (ahead<zs[k]) && okL page zs[k] (zs.drop (k+1))):=by
 rw [List.drop_eq_getElem_cons h]; rfl
theorem Xma {page ahead:Int} {zs:List Int} {k:Nat} (h:zs.length≤k):okL page ahead (zs.drop k)=true:=by
 rw [List.drop_eq_nil_of_le h]; rfl
theorem Xe0 {zs:List Int} {page:Int} (h:Xe2 zs page=false):XeZ zs page=1:=by unfold XeZ; rw [h]; rfl
theorem Xe1 {zs:List Int} {page:Int} (h:Xe2 zs page=true):XeZ zs page=0:=by unfold XeZ; rw [h]; rfl
theorem Xmb {page:Int}:∀ {zs:List Int} {ahead:Int},okL page ahead zs=true → ∀ i (h:i<zs.length),8≤zs[i]∧zs[i] % 8=0∧zs[i]≤page∧ahead<zs[i] ∧ ∀ j (hj:j<i),zs[j]<zs[i]
 |n::r,ahead,h,i,a=>by
  simp only [okL,Bool.and_eq_true,decide_eq_true_eq,beq_iff_eq] at h;obtain ⟨⟨⟨⟨b,c⟩,d⟩,e⟩,f⟩:=h;cases i with
  |zero=>exact ⟨b,c,d,e,fun j hj=>by omega⟩
  |succ i =>
   obtain ⟨g,k,l,m,o⟩:=Xmb f i (by simpa using a);refine ⟨g,k,l,by simp only [List.getElem_cons_succ]; omega,fun j hj => ?_⟩;cases j with
   |zero=>exact m
   |succ j=>exact o j (by omega)
theorem Xe4 {zs:List Int} {page:Int} (h:Xe2 zs page=true):0<zs.length∧zs.length≤16:=by
 unfold Xe2 at h; simp only [Bool.and_eq_true,decide_eq_true_eq] at h; exact h.1
theorem Xe3 {zs:List Int} {page:Int} (h:Xe2 zs page=true) (i:Nat) (hi:i<zs.length):8≤zs.getD i 0∧zs.getD i 0 % 8=0∧zs.getD i 0≤page:=by
 unfold Xe2 at h; simp only [Bool.and_eq_true,decide_eq_true_eq] at h;obtain ⟨a,b,c,_⟩:=Xmb h.2 i hi;rw [Xg0 hi]; exact ⟨a,b,c⟩
theorem Xe5 (a:Option Addr) (cap:Nat) (zs:List Int) (page:Int) (w:World) (hr:Rd .i64 w a zs) (hl:zs.length≤9223372036854775807) :
 Xan Tryz.prog 141 #[.slice a zs.length cap,.int .i64 page] w (Xbs (.int .i64 (XeZ zs page)) w):=by
 refine ζe Tryz.func141 Tryz.ntmps141 rfl (ζg rfl (fun l => ?_) fun l => ?_)
 ·have d:0<zs.length:=by simpa using l
  by_cases f:zs.length≤16
  ·refine Xay.knowB (t:=5) rfl (decide_eq_true (by omega)) ?_;have p:Xe2 zs page=okL page 0 (zs.drop 0):=by unfold Xe2; rw [decide_eq_true d,decide_eq_true f]; simp
   refine Xay.loop (α:=Nat × Int) (fun x => [(0,false,.slice a zs.length cap),(1,false,.int .i64 page),(5,true,.bool true),(6,false,.int .i64 x.2),(17,false,.slice a zs.length cap),(18,false,.int .i64 zs.length),(19,false,.int .i64 x.1)])
    (fun x w'=>w'=w∧x.1≤zs.length∧Xe2 zs page=okL page x.2 (zs.drop x.1)) (fun x=>zs.length - x.1) (0,0) ⟨rfl,rfl,rfl,rfl,rfl,rfl,rfl,trivial⟩ ⟨rfl,Nat.zero_le _,p⟩ ?_
   rintro ⟨k,ahead⟩ v ⟨r,s,e⟩ ih;simp only at s e
   subst r;refine ζa rfl (ζg rfl (fun h => ?_) fun h => ?_)
   ·have g:k<zs.length:=by simpa using h
    rw [Xl9 g] at e;obtain ⟨b,off,rfl,c⟩:=hr k g;rw [Xg0 g] at c;refine ζi k rfl (ζk rfl c rfl (ζg rfl (fun i => ?_) fun i => ?_))
    ·have u:=of_decide_eq_true i;refine Xay.div hTT rfl (by omega) (Xo9 (by omega)) rfl (ζg rfl (fun m => ?_) fun m => ?_)
     ·refine ζg rfl (fun n => ?_) fun n => ?_
      ·refine ζg rfl (fun o => ?_) fun o => ?_
       ·have j:¬ ahead<zs[k]:=by simpa using o
        exact ζy rfl (ζr Tryz.func141 rfl ⟨XiH (Xe0 (by rw [e,decide_eq_false j]; simp)).symm,rfl⟩)
       ·have j:ahead<zs[k]:=by simpa using o
        exact ζj rfl (ih (k+1,zs[k]) _ _ ⟨rfl,g,by rw [e,decide_eq_true j,show decide (zs[k]≤page)=true from n,m,decide_eq_true u]; rfl⟩ (by simp only; omega) ⟨rfl,rfl,XdV (decide_eq_true j),rfl,rfl,rfl,rfl,trivial⟩)
      ·exact ζr Tryz.func141 rfl ⟨XiH (Xe0 (by rw [e,show decide (zs[k]≤page)=false from n]; simp)).symm,rfl⟩
     ·exact ζr Tryz.func141 rfl ⟨XiH (Xe0 (by rw [e,m]; simp)).symm,rfl⟩
    ·exact ζr Tryz.func141 rfl ⟨XiH (Xe0 (by rw [e,show decide (8≤zs[k])=false from i]; simp)).symm,rfl⟩
   ·have q:zs.length≤k:=by have:=of_decide_eq_false h; omega
    exact ζr Tryz.func141 rfl ⟨XiH (Xe1 (by rw [e,Xma q])).symm,rfl⟩
  ·refine Xay.knowB (t:=5) rfl (decide_eq_false (by omega)) (Xay.unroll hTT rfl (ζy rfl ?_));obtain ⟨b,off,rfl,c⟩:=hr 0 d;rw [Xg0 d] at c;exact ζi 0 rfl (ζk rfl c rfl (ζr Tryz.func141 rfl ⟨XiH (Xe0 (by unfold Xe2; rw [decide_eq_false f]; simp)).symm,rfl⟩))
 ·have d:¬ 0<zs.length:=by have i:=of_decide_eq_false l; omega
  exact Xay.unroll hTT rfl (ζf rfl (ζr Tryz.func141 rfl ⟨XiH (Xe0 (by unfold Xe2; rw [decide_eq_false d]; simp)).symm,rfl⟩))
def Xoo (zs:List Int) (k:Nat):Int:=if k=0 then 0 else zs.getD (k - 1) 0
theorem Xop {zs:List Int} {k:Nat} (h:k<zs.length):Xoo zs (k+1)=zs[k]:=by simp [Xoo,h]
theorem Xmc {page ahead n:Int} {r:List Int} (h1:8≤n) (h2:n % 8=0) (h3:n≤page) (h4:ahead<n):(decide (8≤n) && (n % 8 == 0) && decide (n≤page) && decide (ahead<n) && okL page n r)=okL page n r:=by
 rw [decide_eq_true h1,decide_eq_true h3,decide_eq_true h4,show (n % 8 == 0)=true from by simpa using h2]; rfl
theorem XoX (a:Option Addr) (cap:Nat) (zs:List Int) (page:Int) (w:World) (hr:Rd .i64 w a zs) (hl:zs.length≤9223372036854775807) :
 Xan Tryz.prog 39 #[.slice a zs.length cap,.int .i64 page] w (Grow (.int .i64 (XeZ zs page)) w):=by
 refine ζe Tryz.func39 Tryz.ntmps39 rfl (ζg rfl (fun o => ?_) fun o => ?_)
 ·have y:zs.length=0:=by have:=of_decide_eq_true o; omega
  exact ζr Tryz.func39 rfl ⟨XiH (Xe0 (by unfold Xe2; rw [decide_eq_false (by omega)]; simp)).symm,Chg.refl _ _⟩
 ·have y:¬ zs.length=0:=by have:=of_decide_eq_false o; omega
  refine ζg rfl (fun p => ?_) fun p => ?_
  ·have z:=of_decide_eq_true p;exact ζr Tryz.func39 rfl ⟨XiH (Xe0 (by unfold Xe2; rw [decide_eq_false (show ¬ zs.length≤16 from by omega)]; simp)).symm,Chg.refl _ _⟩
  ·have z:=of_decide_eq_false p;have u:Xe2 zs page=okL page (Xoo zs 0) (zs.drop 0):=by unfold Xe2; rw [decide_eq_true (by omega),decide_eq_true (by omega)]; simp [Xoo]
   refine Xay.loop (α:=Nat) (fun k => [(0,false,.slice a zs.length cap),(1,false,.int .i64 page),(5,false,.int .i64 k)])
    (fun k w'=>Chg XaX w w'∧k≤zs.length∧Xe2 zs page=okL page (Xoo zs k) (zs.drop k)) (fun k=>zs.length - k) 0 ⟨rfl,rfl,rfl,trivial⟩ ⟨Chg.refl _ _,Nat.zero_le _,u⟩ ?_
   rintro k C ⟨f,D,g⟩ ih;refine ζa rfl (ζg rfl (fun h => ?_) fun h => ?_)
   ·have e:k<zs.length:=by simpa using h
    rw [Xl9 e] at g;have n:=hr.chg f;obtain ⟨b,off,rfl,d⟩:=n k e;rw [Xg0 e] at d;refine Xay.quiet rfl Xk3 (by kernel_rfl) (Xba.adv hTT rfl (Xba.index hTT rfl (j:=k) (by omega) (by omega) (by first | rfl | omega | (simp; done) | (simp; omega)) rfl (Xba.load hTT rfl d rfl ?_)));refine Xba.fork hTT rfl rfl rfl (fun q => ?_) (fun q => ?_)
    ·exact Xba.nil fun l c=>ζa rfl (ζr Tryz.func39 rfl ⟨XiH (Xe0 (by rw [g,decide_eq_false (show ¬ 8≤zs[k] from by have:=of_decide_eq_true q; omega)]; simp)).symm,f.trans c⟩)
    ·have E:=of_decide_eq_false q;refine Xba.index hTT rfl (j:=k) (by omega) (by omega) (by first | rfl | omega | (simp; done) | (simp; omega)) rfl (Xba.load hTT rfl d rfl (Xba.div hTT rfl (by omega) (Xo9 (by omega)) rfl ?_));refine Xba.fork hTT rfl rfl rfl (fun m => ?_) (fun m => ?_)
     ·exact Xba.nil fun l c=>ζa rfl (ζr Tryz.func39 rfl ⟨XiH (Xe0 (by rw [g,show (zs[k] % 8 == 0)=false from by simpa using m]; simp)).symm,f.trans c⟩)
     ·refine Xba.index hTT rfl (j:=k) (by omega) (by omega) (by first | rfl | omega | (simp; done) | (simp; omega)) rfl (Xba.load hTT rfl d rfl ?_);refine Xba.fork hTT rfl rfl rfl (fun r => ?_) (fun r => ?_)
      ·exact Xba.nil fun l c=>ζa rfl (ζr Tryz.func39 rfl ⟨XiH (Xe0 (by rw [g,decide_eq_false (show ¬ zs[k]≤page from by have:=of_decide_eq_true r; omega)]; simp)).symm,f.trans c⟩)
      ·have F:=of_decide_eq_false r;refine Xba.fork hTT rfl rfl rfl (fun s => ?_) (fun s => ?_)
       ·have v:=of_decide_eq_true s;obtain ⟨b',off',e',i⟩:=n (k - 1) (by omega);simp only [Option.some.injEq,Addr.mk.injEq] at e';obtain ⟨rfl,rfl,_⟩:=e';refine Xba.index hTT rfl (j:=k) (by omega) (by omega) (by first | rfl | omega | (simp; done) | (simp; omega)) rfl (Xba.load hTT rfl d rfl (Xba.arith hTT rfl (w64 (by omega)) rfl (Xba.index hTT rfl (j:=(k - 1)) (by omega) (by omega) (by first | rfl | omega | (simp; done) | (simp; omega)) rfl (Xba.load hTT rfl i rfl (Xba.nil fun l c=>ζa rfl ?_)))));have A:Xoo zs k=zs.getD (k - 1) 0:=by unfold Xoo; rw [if_neg (by omega)]
        refine ζg rfl (fun t => ?_) fun t => ?_
        ·have B:=of_decide_eq_true t;exact ζr Tryz.func39 rfl ⟨XiH (Xe0 (by rw [g,A,decide_eq_false (show ¬ zs.getD (k - 1) 0<zs[k] from by omega)]; simp)).symm,f.trans c⟩
        ·have B:=of_decide_eq_false t;exact ζj rfl (ih (k+1) _ _ ⟨f.trans c,e,by rw [g,Xmc (by omega) (by simpa using m) (by omega) (by omega),Xop e]⟩ (by omega) ⟨rfl,rfl,rfl,trivial⟩)
       ·have v:k=0:=by have:=of_decide_eq_false s; omega
        subst v;exact Xba.nil fun l c=>ζa rfl (ζj rfl (ih 1 _ _ ⟨f.trans c,e,by rw [g,Xmc (by omega) (by simpa using m) (by omega) (by simp [Xoo]; omega),Xop e]⟩ (by omega) ⟨rfl,rfl,rfl,trivial⟩))
   ·have x:zs.length≤k:=by have:=of_decide_eq_false h; omega
    exact ζr Tryz.func39 rfl ⟨XiH (Xe1 (by rw [g,Xma x])).symm,f⟩
structure Conf where
 size:Int
 pages:Int
 classes:List Int
 keep:List Int
 step:Int
 slots:Int
 gens:Int
 most:Int
structure Xal where
 ca:Option Addr
 cc:Nat
 ka:Option Addr
 kc:Nat
def Xfl (c:Conf) (p:Xal):List Value :=
 [.int .i64 c.size,.int .i64 c.pages,.slice p.ca c.classes.length p.cc,.slice p.ka c.keep.length p.kc,.int .i64 c.step,.int .i64 c.slots,.int .i64 c.gens,.int .i64 c.most]
def XaC (x:Int):Prop := -9223372036854775808≤x∧x≤9223372036854775807
structure Xam (w:World) (c:Conf) (p:Xal):Prop where
 classes:Rd .i64 w p.ca c.classes
 keep:Rd .i64 w p.ka c.keep
 lc:c.classes.length≤9223372036854775807
 lk:c.keep.length≤9223372036854775807
 size:XaC c.size
theorem Xam.chg {w w':World} {c:Conf} {p:Xal} (h:Xam w c p) (hw:Chg XaX w w'):Xam w' c p :=
 ⟨h.classes.chg hw,h.keep.chg hw,h.lc,h.lk,h.size⟩
def XrZ (n:Int):Bool:=decide (64≤n) && decide (n≤4096) && (n % 8 == 0)
def Xi0 (c:Conf):Int:=if XrZ c.size then c.size*(c.size / 8) else 0
def XdS (c:Conf) (k:Int):Int:=if 0≤k∧k<c.classes.length then Xwa c.size (c.classes.getD k.toNat 0) else 0
def Xwe (n a b:Int):Bool:=decide (a≤n) && decide (n≤b)
def XiW (k:Int):Bool := !Xwe k 0 1024
def XkH (c:Conf):Bool :=
 XrZ c.size && Xwe c.pages 1 1024 && Xe2 c.classes c.size && (decide (c.keep.length=c.classes.length) && !c.keep.any XiW) && Xwe c.step 1 65536 && Xwe c.slots 1 4096 && Xwe c.gens 1 1023 && Xwe c.most 1 (Xi0 c)
def XkK (c:Conf):Int:=if XkH c then 0 else 1
theorem Xr0 {n:Int}:XrZ n=true↔64≤n∧n≤4096∧n % 8=0:=by
 unfold XrZ; simp [and_assoc]
theorem Xfr (n a b:Int) (w:World):Xan Tryz.prog 139 #[.int .i64 n,.int .i64 a,.int .i64 b] w (Xbs (.bool (Xwe n a b)) w):=by
 refine ζe Tryz.func139 Tryz.ntmps139 rfl (ζg rfl (fun h => ?_) fun h => ?_)
 ·exact ζr Tryz.func139 rfl ⟨XdW (by unfold Xwe; rw [show decide (a≤n)=true from h]; rfl),rfl⟩
 ·exact ζr Tryz.func139 rfl ⟨XdW (by unfold Xwe; rw [show decide (a≤n)=false from h]; rfl),rfl⟩
theorem Xfq (n:Int) (w:World):Xan Tryz.prog 140 #[.int .i64 n] w (Xbs (.bool (XrZ n)) w):=by
 refine ζe Tryz.func140 Tryz.ntmps140 rfl (ζw (Xfr n 64 4096 w) rfl (ζg rfl (fun h => ?_) fun h => ?_))
 ·have a:0≤n:=by unfold Xwe at h; simp at h; omega
  exact Xay.div hTT rfl (by omega) (Xo9 (by omega)) rfl (ζr Tryz.func140 rfl ⟨XdW (by unfold XrZ; rw [show (decide (64≤n) && decide (n≤4096))=true from h]; rfl),rfl⟩)
 ·exact ζr Tryz.func140 rfl ⟨XdW (by unfold XrZ; rw [show (decide (64≤n) && decide (n≤4096))=false from h]; rfl),rfl⟩
theorem Xfn (c:Conf) (p:Xal) (w:World):Xan Tryz.prog 143 #[.agg (Xfl c p).toArray] w (Grow (.int .i64 (Xi0 c)) w):=by
 refine ζe Tryz.func143 Tryz.ntmps143 rfl (ζn rfl fun b g e1 e d j=>ζl e rfl (ζw (Xfq c.size g) rfl (ζg rfl (fun h => ?_) fun h => ?_)))
 ·have a:XrZ c.size=false:=by simpa using h
  exact ζr Tryz.func143 rfl ⟨XiH (by unfold Xi0; rw [a]; rfl),d⟩
 ·have a:XrZ c.size=true:=by simpa using h
  have i:=Xr0.1 a;have f:0≤c.size / 8∧c.size / 8≤512:=by omega
  have k:0≤c.size*(c.size / 8):=Int.mul_nonneg (by omega) f.1;have l:=Int.mul_le_mul i.2.1 f.2 f.1 (by omega);exact ζl e rfl (ζl e rfl (Xay.div hTT rfl (by omega) (XoJ (by omega) (by omega)) rfl (ζj rfl (ζr Tryz.func143 rfl ⟨XiH (by unfold Xi0; rw [a]; rfl),d⟩))))
theorem Xfm (c:Conf) (p:Xal) (k:Int) (w:World) (hc:Xam w c p):Xan Tryz.prog 149 #[.agg (Xfl c p).toArray,.int .i64 k] w (Grow (.int .i64 (XdS c k)) w):=by
 have g:=hc.size;unfold XaC at g;refine ζe Tryz.func149 Tryz.ntmps149 rfl (ζn rfl fun b q e1 e a n=>ζg rfl (fun h => ?_) fun h => ?_)
 ·have l:=of_decide_eq_true h;exact ζr Tryz.func149 rfl ⟨XiH (by unfold XdS; rw [if_neg (by omega)]),a⟩
 ·have l:=of_decide_eq_false h;refine ζl e rfl (ζg rfl (fun f => ?_) fun f => ?_)
  ·have m:=of_decide_eq_true f;exact ζr Tryz.func149 rfl ⟨XiH (by unfold XdS; rw [if_neg (by omega)]),a⟩
  ·have m:=of_decide_eq_false f;obtain ⟨r,off,ea,d⟩:=(hc.chg a).classes k.toNat (by omega);obtain ⟨ca,cc,ka,kc⟩:=p;simp only at ea
   subst ea;exact Xay.quiet rfl Xk3 (by kernel_rfl) (Xba.adv hTT rfl (Xba.loadb hTT rfl e rfl rfl (Xba.loadb hTT rfl e rfl rfl (Xba.index hTT rfl (j:=k.toNat) (by omega) (by omega) (by first | rfl | omega | (simp; done) | (simp; omega)) rfl (Xba.load hTT rfl d rfl (Xba.call hTT rfl (fun w' o=>(Xvp c.size (c.classes.getD k.toNat 0) w' g.2).grow) rfl (Xba.nil fun s i=>ζa rfl (ζr Tryz.func149 rfl ⟨XiH (by unfold XdS; rw [if_pos (by omega)]),a.trans i⟩))))))))
theorem Xfp (k:Int) (w:World):Xan Tryz.prog 138 #[.int .i64 k] w (Xbs (.bool (XiW k)) w):=by
 exact ζe Tryz.func138 Tryz.ntmps138 rfl (ζw (Xfr k 0 1024 w) rfl (ζr Tryz.func138 rfl ⟨rfl,rfl⟩))
theorem Xfo (c:Conf) (p:Xal) (w:World) (hc:Xam w c p):Xan Tryz.prog 84 #[.agg (Xfl c p).toArray] w (Grow (.int .i64 (XkK c)) w):=by
 have B:=hc.lc;have i:=hc.lk;refine ζe Tryz.func84 Tryz.ntmps84 rfl (ζn rfl fun b F e1 d e C => ?_);have g:=hc.chg e;refine Xay.quietF (q:=41) hTT Xk3 (by kernel_rfl) rfl rfl rfl rfl (Xba.adv hTT rfl (Xba.loadb hTT rfl d rfl rfl (Xba.call hTT rfl (fun w' a=>(Xfq c.size w').grow) rfl (Xba.loadb hTT rfl d rfl rfl (Xba.call hTT rfl (fun w' a=>(Xfr c.pages 1 1024 w').grow) rfl (Xba.loadb hTT rfl d rfl rfl (Xba.loadb hTT rfl d rfl rfl (Xba.call hTT rfl (fun w' a=>(Xe5 p.ca p.cc c.classes c.size w' (g.classes.chg a) B).grow) rfl (Xba.loadb hTT rfl d rfl rfl (Xba.loadb hTT rfl d rfl rfl ?_))))))))));have fin:∀ (kk:Bool),(decide (c.keep.length=c.classes.length) && !c.keep.any XiW)=kk → 
  ([XrZ c.size,Xwe c.pages 1 1024,(XeZ c.classes c.size == 0),kk,Xwe c.step 1 65536,Xwe c.slots 1 4096,Xwe c.gens 1 1023,Xwe c.most 1 (Xi0 c)].any fun y=>false == y) = !XkH c:=by
  intro kk j;unfold XkH;rw [j];have:(XeZ c.classes c.size == 0)=Xe2 c.classes c.size:=by unfold XeZ; cases Xe2 c.classes c.size <;> rfl
  rw [this];cases XrZ c.size <;> cases Xwe c.pages 1 1024 <;> cases Xe2 c.classes c.size <;> cases kk <;> cases Xwe c.step 1 65536 <;> cases Xwe c.slots 1 4096 <;> cases Xwe c.gens 1 1023 <;> cases Xwe c.most 1 (Xi0 c) <;> rfl
 refine Xba.fork hTT rfl rfl rfl (fun h => ?_) (fun h => ?_)
 case' refine_1 =>
  refine Xba.loadb hTT rfl d rfl rfl (Xba.call hTT rfl (fun w' a=>(Xr8 p.ka p.kc 138 c.keep [] XiW w' (g.keep.chg a) i (fun x _=>Xfp x w')).grow) rfl ?_)
 all_goals
  refine Xba.loadb hTT rfl d rfl rfl (Xba.call hTT rfl (fun w' a=>(Xfr c.step 1 65536 w').grow) rfl (Xba.loadb hTT rfl d rfl rfl (Xba.call hTT rfl (fun w' a=>(Xfr c.slots 1 4096 w').grow) rfl (Xba.loadb hTT rfl d rfl rfl (Xba.call hTT rfl (fun w' a=>(Xfr c.gens 1 1023 w').grow) rfl (Xba.loadb hTT rfl d rfl rfl (Xba.loads hTT rfl d rfl rfl (Xba.call hTT rfl (fun w' a=>Xfn c p w') rfl (Xba.call hTT rfl (fun w' a=>(Xfr c.most 1 (Xi0 c) w').grow) rfl (Xba.build hTT rfl rfl (Xba.nil fun m G n D o=>ζa rfl (ζs o rfl fun r s t E=>Xay.slice hTT rfl (l:=0) (h:=8) (by first | rfl | omega | simp [loV]) (by first | rfl | omega | simp [hiV]) (by omega) (by omega) rfl ?_))))))))))));have u:RdB r (some ⟨m,0,none⟩) [XrZ c.size,Xwe c.pages 1 1024,(XeZ c.classes c.size == 0),(decide (c.keep.length=c.classes.length) && !c.keep.any XiW),Xwe c.step 1 65536,Xwe c.slots 1 4096,Xwe c.gens 1 1023,Xwe c.most 1 (Xi0 c)]:=by
   have v:(c.keep.length:Int)=c.classes.length↔c.keep.length=c.classes.length:=by omega
   refine RdB.of s ?_;simp only [v,beq_iff_eq,beq_eq_false_iff_ne,ne_eq] at h;simp [h]
  refine ζw (Xr9 (some ⟨m,0,none⟩) 8 _ false r u (by simp)) rfl ?_;have z:=(e.trans n).since t (fun k j A=>by have:=e.size; subst A; omega);refine ζg rfl (fun f => ?_) fun f => ?_
  ·exact ζr Tryz.func84 rfl ⟨XiH (by rw [fin _ rfl] at f; unfold XkK; rw [if_neg (by simpa using f)]),z⟩
  ·exact ζr Tryz.func84 rfl ⟨XiH (by rw [fin _ rfl] at f; unfold XkK; rw [if_pos (by simpa using f)]),z⟩
def XaO (w:World) (b:Nat) (total lap:Int):Prop:=w.heap[b]? = some (.cells #[.int .i64 total,.int .i64 lap] 197 (0,0))∧0≤lap∧lap≤total∧total≤4611686018427387904
def XeA (total n:Int):Int:=if n<1 then total else total+min n (4611686018427387904 - total)
theorem XeC {total n:Int} (h:0≤total∧total≤4611686018427387904):total≤XeA total n∧XeA total n≤4611686018427387904:=by
 unfold XeA; split <;> omega
abbrev ptr (b:Option Nat):Value := .pointer (b.map fun b=>⟨b,0,none⟩)
theorem XkX (w:World):Xan Tryz.prog 86 #[] w (fun v w'=>v = .pointer (some ⟨w.heap.size,0,none⟩)∧XaO w' w.heap.size 0 0∧Chg XaX w w'∧w'.heap.size=w.heap.size+1):=by
 refine ζe Tryz.func86 Tryz.ntmps86 rfl (ζb rfl (ζn rfl fun b e e1 d a c => ?_));subst e1;exact ζr Tryz.func86 rfl ⟨rfl,⟨d,by omega,by omega,by omega⟩,a,c⟩
theorem XkY (b:Nat) (total lap:Int) (w:World) (h:XaO w b total lap):Xan Tryz.prog 212 #[.pointer (some ⟨b,0,none⟩)] w (Xbs (.int .i64 (4611686018427387904 - total)) w):=by
 obtain ⟨a,c,d,e⟩:=h;exact ζe Tryz.func212 Tryz.ntmps212 rfl (ζl a rfl (ζj rfl (ζr Tryz.func212 rfl ⟨rfl,rfl⟩)))
theorem XaO.chg {w w':World} {b:Nat} {total lap:Int} (h:XaO w b total lap) (hc:Chg XaX w w'):XaO w' b total lap:=⟨hc.heap' h.1,h.2⟩
theorem XkT (b:Nat) (total lap n:Int) (w:World) (h:XaO w b total lap):Xan Tryz.prog 146 #[.pointer (some ⟨b,0,none⟩),.int .i64 n] w (fun _ w'=>XaO w' b (XeA total n) lap∧Chg (fun x=>x=b) w w'):=by
 have g:=h;obtain ⟨i,m,q,o⟩:=h;refine ζe Tryz.func146 Tryz.ntmps146 rfl (ζg rfl (fun f => ?_) fun f => ?_)
 ·exact ζr Tryz.func146 rfl ⟨by unfold XeA; rw [if_pos (of_decide_eq_true f)]; exact g,Chg.refl _ _⟩
 ·have j:=of_decide_eq_false f;refine ζd 9 XaX (by kernel_rfl) rfl fun a=>δl a i rfl (δw a (fun w' k=>XkY b total lap w' ((show XaO w b total lap from g).chg k)) rfl (δj a rfl (δn a rfl fun r c=>ζs (c.heap' i) rfl fun s d l p => ?_)));have e:total+(if 4611686018427387904 - total<n then 4611686018427387904 - total else n)=XeA total n:=by unfold XeA; rw [if_neg j]; split <;> omega
  rw [e] at d;have:=XeC (n:=n) ⟨by omega,o⟩;exact ζr Tryz.func146 rfl ⟨⟨d,m,by omega,by omega⟩,(Chg.refl _ w).trans ((c.mono (fun _ _ h=>h.elim)).trans l)⟩
theorem XkU (n:Int) (w:World):Xan Tryz.prog 146 #[.pointer none,.int .i64 n] w (fun _ w'=>w=w'):=by
 exact ζe Tryz.func146 Tryz.ntmps146 rfl (ζr Tryz.func146 rfl rfl)
structure RmM where
 shs:List Sm
 pl:PlM
 lg:List (Nat × List Nat)
 tot:Int
def XpC (M:RmM) (k:Int):Option Sm:=if 0≤k then M.shs[k.toNat]? else none
def XhV (p:PlM):Nat:=Xnz p.own
def XeP (p q:PlM):Int:=3+(max (XhV q:Int) (XhV p) - min (XhV q:Int) (XhV p))*4
def Xp8 (M:RmM) (k:Nat) (x:Sm) (q:PlM):RmM:={M with shs:=M.shs.set k x,pl:=q}
def Xp6 (M:RmM) (k:Nat) (x:Sm) (q:PlM):RmM:={M with shs:=M.shs.set k x,pl:=q,tot:=XeA M.tot (XeP M.pl q)}
def Xjr (l:List (Nat × List Nat)):List Nat:=l.flatMap fun e=>e.1::e.2
def XjA (l:List (Nat × List Nat)):Nat:=(l.map fun e=>e.2.length+1).sum
def Xrg (l:List Sm):Nat:=(l.map fun x=>x.pg.length).sum
structure RmM.Ok (c:Conf) (M:RmM):Prop where
 n:M.shs.length=c.classes.length
 each:∀ (k:Nat) (x:Sm),M.shs[k]? = some x→x.cls=(k:Int)∧(x.blocks:Int)=XdS c (k:Int)
 own:(M.pl.own.length:Int)=c.pages
 lg:∀ m ∈ Xjr M.lg,m<M.pl.own.length∧M.pl.own.getD m 0=(M.shs.length:Int)
 nd:(Xjr M.lg).Nodup
 sum:XhV M.pl=Xrg M.shs+XjA M.lg
 tot:0≤M.tot∧M.tot≤4611686018427387904
def Eff (p q:PlM) (c:Int):Prop:=q=p∨(∃ n r,p.free=n::r∧q=p.take c) ∨ ∃ n,n<p.own.length∧p.own.getD n 0=c∧q=p.give n
theorem Xuy {p:PlM} {n:Nat} {r:List Nat} (h:p.free=n::r) (c:Int):(p.take c).own=p.own.set n c∧(p.take c).free=r:=by unfold PlM.take; rw [h]; exact ⟨rfl,rfl⟩
theorem Eff.own {p q:PlM} {c:Int} (h:Eff p q c) (hg:p.Good):q.own.length=p.own.length ∧ ∀ m d,d≠c→0≤d→p.own.getD m 0=d→m<p.own.length→q.own.getD m 0=d:=by
 rcases h with rfl | ⟨n,r,hf,rfl⟩ | ⟨n,i,b,rfl⟩
 ·exact ⟨rfl,fun m d _ _ h _=>h⟩
 ·rw [(Xuy hf c).1];refine ⟨List.length_set,fun m d a f hm g => ?_⟩;rw [Xha];obtain ⟨j,k⟩:=hg.free n (by rw [hf]; simp);rw [if_neg (fun ⟨e,_⟩=>by subst e; omega)];exact hm
 ·refine ⟨List.length_set,fun m d a f hm g => ?_⟩;show (p.own.set n (-1)).getD m 0=d
  rw [Xha,if_neg (fun ⟨e,_⟩=>by subst e; exact a (hm.symm.trans b))];exact hm
theorem Eff.of {p q:PlM} {c:Int} (h:Eff p q c) (hg:p.Good) {y:Sm} (hy:y.Of p) (hc:y.cls≠c) (h0:0≤y.cls):y.Of q:=fun e b=>by
 obtain ⟨a,d⟩:=hy e b;obtain ⟨f,g⟩:=h.own hg;exact ⟨by rw [f]; exact a,g _ _ hc h0 d a⟩
theorem Xrh:∀ {l:List Sm} {k:Nat} {x x':Sm},l[k]? = some x→Xrg (l.set k x')+x.pg.length=Xrg l+x'.pg.length
 |a::r,0,x,x',h=>by
  cases h
  unfold Xrg;simp only [List.set_cons_zero,List.map_cons,List.sum_cons];omega
 |a::r,k+1,x,x',h=>by
  have:=Xrh (l:=r) (k:=k) (x:=x) (x':=x') h;unfold Xrg at *;simp only [List.set_cons_succ,List.map_cons,List.sum_cons];omega
theorem RmM.Ok.set {c:Conf} {M:RmM} (h:M.Ok c) (hg:M.pl.Good) {k:Nat} {x x':Sm} {q:PlM} (hx:M.shs[k]? = some x) (hE:Eff M.pl q x.cls) (hc:x'.cls=x.cls) (hb:x'.blocks=x.blocks) (hs:XhV q+x.pg.length=XhV M.pl+x'.pg.length):(Xp8 M k x' q).Ok c:=by
 have b:=(List.getElem?_eq_some_iff.1 hx).1;obtain ⟨e1,e2⟩:=h.each k x hx;obtain ⟨d,f⟩:=hE.own hg;refine ⟨by show (M.shs.set k x').length=_; rw [List.length_set]; exact h.n,fun j y a => ?_,by show (q.own.length:Int)=_; rw [d]; exact h.own,fun m hm => ?_,h.nd,?_,h.tot⟩
 ·replace a:(M.shs.set k x')[j]? = some y:=a;by_cases e:k=j
  ·subst e;rw [List.getElem?_set_self b] at a; cases a;exact ⟨hc.trans e1,by rw [hb]; exact e2⟩
  ·rw [List.getElem?_set_ne e] at a; exact h.each j y a
 ·obtain ⟨g,i⟩:=h.lg m hm;refine ⟨by show m<q.own.length; omega,?_⟩;show q.own.getD m 0=((M.shs.set k x').length:Int)
  rw [List.length_set];exact f _ _ (by rw [e1]; omega) (by omega) i g
 ·have:=Xrh (x':=x') hx;have:=h.sum;show XhV q=Xrg (M.shs.set k x')+XjA M.lg
  omega
theorem XeD {t n:Int} (h:0≤t∧t≤4611686018427387904):0≤XeA t n∧XeA t n≤4611686018427387904:=by have:=XeC (n:=n) h; omega
theorem Xuu (x:Sm) (pl:PlM) (who:Int) (hg:pl.Good) (hcl:0≤x.cls):Eff pl (Xrv x pl who) x.cls∧(Xrr x pl who).cls=x.cls∧(Xrr x pl who).blocks=x.blocks∧XhV (Xrv x pl who)+x.pg.length=XhV pl+(Xrr x pl who).pg.length:=by
 rcases Xrw x pl who with ⟨_,a,b⟩ | ⟨_,_,⟨n,r,_,a,b,_⟩ | ⟨n,r,_,hf,a,b,_⟩⟩
 ·rw [a,b]; exact ⟨.inl rfl,rfl,rfl,rfl⟩
 ·rw [a,b]; exact ⟨.inl rfl,rfl,rfl,by show _=_+(Xsr _ _ _).length; rw [Xst]⟩
 ·rw [a,b];refine ⟨.inr (.inl ⟨n,r,hf,rfl⟩),rfl,rfl,?_⟩;show _=_+(Xsr (x.pg++_) _ _).length
  rw [Xst,List.length_append];obtain ⟨c,d⟩:=hg.free n (by rw [hf]; simp);have:=XnD (v:=x.cls) c;rw [if_pos d,if_neg (by omega)] at this;unfold XhV;rw [(Xuy hf _).1];simp only [List.length_cons,List.length_nil];omega
theorem Xhd (x:Sm) (pl:PlM) (n i:Int) (hok:x.Ok) (hof:x.Of pl):Eff pl (Xre x pl n i) x.cls∧(Xrc x n i).cls=x.cls∧(Xrc x n i).blocks=x.blocks∧XhV (Xre x pl n i)+x.pg.length=XhV pl+(Xrc x n i).pg.length:=by
 unfold Xrc Xre;split
 ·rename_i p e
  obtain ⟨k,f,hm⟩:=Xsp e;rw [f];by_cases c:Xnf p i=0
  ·simp only [c,if_true,true_and,Int.toNat_natCast];unfold Sm.giveAt;simp only
   by_cases a:Xnz (Xne p i)=0
   ·rw [if_pos a,if_pos a];obtain ⟨b,d⟩:=hof _ hm;simp only at b d
    have g:=hok.cls;have:=XnD (v := -1) b;rw [if_neg (by omega),if_pos rfl] at this;have h:=(Xsz hok.nodup hm).2;refine ⟨.inr (.inr ⟨k,b,d,rfl⟩),rfl,rfl,?_⟩;show Xnz (pl.own.set k (-1))+_=Xnz pl.own+(Xse x.pg k).length
    omega
   ·rw [if_neg a,if_neg a];exact ⟨.inl rfl,rfl,rfl,by show _=_+(Xsr _ _ _).length; rw [Xst]⟩
  ·simp only [c,if_false,false_and]; refine ⟨.inl rfl,?_,?_,?_⟩ <;> first | trivial | rfl
 ·exact ⟨.inl rfl,rfl,rfl,rfl⟩
theorem Xmu (x:Sm) (pl:PlM) (n i who:Int):Eff pl pl x.cls∧(Xri x n i who).cls=x.cls∧(Xri x n i who).blocks=x.blocks∧XhV pl+x.pg.length=XhV pl+(Xri x n i who).pg.length:=by
 unfold Xri;split
 ·exact ⟨.inl rfl,rfl,rfl,by show _=_+(Xsr _ _ _).length; rw [Xst]⟩
 ·exact ⟨.inl rfl,rfl,rfl,rfl⟩
def Xce (n q:Int):Int:=if XkA n q=0∨XkA n q=9223372036854775807 then 0 else XkA n q+1
def XnI (zs:List Int) (n:Int):Int:=if n<1 then -1 else idx (fun s=>decide (n≤s)) zs
theorem XkB {n q:Int} (hn:n≤9223372036854775807):0≤XkA n q∧XkA n q≤9223372036854775807:=by
 unfold XkA;split
 ·omega
 ·have a:0≤(n - 1) / q:=Int.ediv_nonneg (by omega) (by omega);have b:(n - 1) / q≤n - 1:=Int.ediv_le_self _ (by omega);omega
theorem Xes (n q:Int) (w:World) (hn:n≤9223372036854775807):Xan Tryz.prog 198 #[.int .i64 n,.int .i64 q] w (Xbs (.int .i64 (XkA n q)) w):=by
 exact ζe Tryz.func198 Tryz.ntmps198 rfl (ζw (Xvo n q w hn) rfl (ζr Tryz.func198 rfl ⟨rfl,rfl⟩))
theorem Xeq (n q:Int) (w:World) (hn:n≤9223372036854775807):Xan Tryz.prog 154 #[.int .i64 n,.int .i64 q] w (Xbs (.int .i64 (Xce n q)) w):=by
 have f:=XkB (q:=q) hn;refine ζe Tryz.func154 Tryz.ntmps154 rfl (ζw (Xes n q w hn) rfl (ζg rfl (fun a => ?_) fun a => ?_))
 ·have e:Xce n q=0:=by unfold Xce; rw [if_pos (.inl (of_decide_eq_true a))]
  exact ζr Tryz.func154 rfl ⟨XiH e.symm,rfl⟩
 ·have c:=of_decide_eq_false a;refine ζg rfl (fun b => ?_) fun b => ?_
  ·have e:Xce n q=0:=by unfold Xce; rw [if_pos (.inr (of_decide_eq_true b))]
   exact ζr Tryz.func154 rfl ⟨XiH e.symm,rfl⟩
  ·have d:=of_decide_eq_false b;have e:Xce n q=XkA n q+1:=by unfold Xce; rw [if_neg (by omega)]
   exact ζj rfl (ζr Tryz.func154 rfl ⟨XiH e.symm,rfl⟩)
abbrev XiG (w:World) (b:Nat) (n:Int):Prop:=w.heap[b]? = some (.cells ([.int .i64 n]:List Value).toArray 3 (0,0))
theorem Xe7 (x n:Int) (b:Nat) (w:World) (h:XiG w b n):Xan Tryz.prog 153 #[.int .i64 x,.pointer (some ⟨b,0,none⟩)] w (Xbs (.bool (decide (n≤x))) w):=by
 exact ζe Tryz.func153 Tryz.ntmps153 rfl (ζl h rfl (ζr Tryz.func153 rfl ⟨rfl,rfl⟩))
theorem Xe6 (a:Option Addr) (cap:Nat) (zs:List Int) (n:Int) (w:World) (hr:Rd .i64 w a zs) (hl:zs.length≤9223372036854775807):Xan Tryz.prog 94 #[.slice a zs.length cap,.int .i64 n] w (Grow (.int .i64 (XnI zs n)) w):=by
 refine ζe Tryz.func94 Tryz.ntmps94 rfl (ζn rfl fun b d e1 f c g=>ζl f rfl (ζg rfl (fun h => ?_) fun h => ?_))
 ·have e:XnI zs n = -1:=by unfold XnI; rw [if_pos (of_decide_eq_true h)]
  exact ζr Tryz.func94 rfl ⟨XiH e.symm,c⟩
 ·have e:XnI zs n=idx (fun s=>decide (n≤s)) zs:=by unfold XnI; rw [if_neg (of_decide_eq_false h)]
  exact ζw (Xsc a cap 153 zs [.pointer (some ⟨b,0,none⟩)] (fun s=>decide (n≤s)) d (hr.chg c) hl (fun x _=>Xe7 x n b d f)) rfl (ζr Tryz.func94 rfl ⟨XiH e.symm,c⟩)
def Xqc (M:RmM) (k who:Int):Int:=match XpC M k with | none=>1 | some x=>Xrt x M.pl who
def Xqd (M:RmM) (k who:Int):Int:=match XpC M k with | none=>0 | some x=>Xru x M.pl who
def Xqb (M:RmM) (k who:Int):Int:=match XpC M k with | none=>0 | some x=>Xrs x M.pl who
def Xqa (M:RmM) (k who:Int):RmM:=match XpC M k with | none=>M | some x=>if Xrt x M.pl who=0 then Xp6 M k.toNat (Xrr x M.pl who) (Xrv x M.pl who) else M
def XpK (M:RmM) (k n i:Int):Int:=match XpC M k with | none=>1 | some x=>Xrd x n i
def XpJ (M:RmM) (k n i:Int):RmM:=match XpC M k with | none=>M | some x=>if Xrd x n i=0 then Xp6 M k.toNat (Xrc x n i) (Xre x M.pl n i) else M
def XpQ (M:RmM) (k n i who:Int):Int:=match XpC M k with | none=>1 | some x=>Xrj x n i who
def XpP (M:RmM) (k n i who:Int):RmM:=match XpC M k with | none=>M | some x=>Xp8 M k.toNat (Xri x n i who) M.pl
def XpS (M:RmM) (k n i:Int):Int:=match XpC M k with | none => -1 | some x=>Xrk x n i
def XpO (M:RmM) (k:Int):Nat:=match XpC M k with | none=>0 | some x=>x.opn.length
def Xp2 (M:RmM) (k:Int):Bool:=match XpC M k with | none=>false | some x=>Xrn x
def Xp3 (M:RmM) (k:Int):List Value:=match XpC M k with | none=>Xn8 0 0 0 0 | some x=>Xro x
def XpN (c:Conf) (M:RmM) (size:Int):Int:=if XnI c.classes size = -1 then Xce size c.size else 1 - min (XpO M (XnI c.classes size):Int) 1
def XpA (c:Conf) (M:RmM) (size:Int):Int:=if size<1∨c.most<size then 3 else if (M.pl.free.length:Int)<XpN c M size then 5 else 0
structure PlcM where
 cls:Int
 page:Int
 idx:Int
 pages:List Int
def Xly (l:List Nat):List Int:=l.map fun (n:Nat)=>(n:Int)
def Xn0 (p:PlM) (who:Int):Nat→PlM
 |0=>p
 |i+1=>XnW (Xn0 p who i) who
def XnR (p:PlM) (l:List Nat):PlM:=l.foldl (fun q (n:Nat)=>XnO q (n:Int)) p
def Xpv (M:RmM) (many:Nat):RmM:={M with pl:=Xn0 M.pl M.shs.length many,lg:=M.lg ++ [(M.pl.free.getD 0 0,(M.pl.free.take many).tail)],tot:=XeA M.tot (many*4+(many - 1))}
def XpY (c:Conf) (M:RmM) (who size:Int):Int:=if who<0 then 1 else if XpA c M size≠0 then XpA c M size else if XnI c.classes size = -1 then 0 else Xqc M (XnI c.classes size) who
def XpZ (c:Conf) (M:RmM) (who size:Int):PlcM:=if who<0 then ⟨0,0,0,[]⟩ else if XpA c M size≠0 then ⟨0,0,0,[]⟩ else if XnI c.classes size = -1 then ⟨-1,(M.pl.free.getD 0 0:Nat),0,Xly (M.pl.free.take (Xce size c.size).toNat).tail⟩ else ⟨XnI c.classes size,Xqd M (XnI c.classes size) who,Xqb M (XnI c.classes size) who,[]⟩
def XpX (c:Conf) (M:RmM) (who size:Int):RmM:=if who<0 then M else if XpA c M size≠0 then M else if XnI c.classes size = -1 then Xpv M (Xce size c.size).toNat else Xqa M (XnI c.classes size) who
def Xjw:List (Nat × List Nat)→Int→Option (List Nat)
 |[],_=>none
 |(m,r)::t,n=>if (m:Int)=n then some r else Xjw t n
def Xjt (l:List (Nat × List Nat)) (n:Nat):List (Nat × List Nat):=l.filter fun e=>e.1 != n
def XpM (M:RmM) (n:Nat) (r:List Nat):RmM:={M with pl:=XnR M.pl (n::r),lg:=Xjt M.lg n,tot:=XeA M.tot ((r.length+1:Int)*4+r.length)}
def Xpx (M:RmM) (q:PlcM):Int:=if q.cls ≠ -1 then XpK M q.cls q.page q.idx else match Xjw M.lg q.page with | none=>1 | some r=>if Xly r=q.pages then 0 else 1
def Xpw (M:RmM) (q:PlcM):RmM:=if q.cls ≠ -1 then XpJ M q.cls q.page q.idx else match Xjw M.lg q.page with | none=>M | some r=>if Xly r=q.pages then XpM M q.page.toNat r else M
theorem XnZ {p:PlM} {who:Int} (hw:0≤who) {n:Nat} {r:List Nat} (hf:p.free=n::r):XnX p who=0∧XnY p who=n∧XnW p who=p.take who:=by
 have e:XnX p who=0:=by unfold XnX; rw [if_neg (by omega),hf]; rfl
 refine ⟨e,?_,?_⟩
 ·unfold XnY; rw [if_pos e,hf]; rfl
 ·unfold XnW; rw [if_pos e]
theorem Xn2 {p:PlM} {who:Int} (hw:0≤who) (hg:p.Good):∀ i,i≤p.free.length→(Xn0 p who i).Good∧(Xn0 p who i).free=p.free.drop i∧(Xn0 p who i).own.length=p.own.length∧XhV (Xn0 p who i)=XhV p+i ∧ ∀ m,m<p.own.length→(Xn0 p who i).own.getD m 0=if m ∈ p.free.take i then who else p.own.getD m 0
 |0,_=>⟨hg,by simp [Xn0],rfl,rfl,fun m _=>by simp [Xn0]⟩
 |i+1,o=>by
  obtain ⟨c,f,g,q,j⟩:=Xn2 hw hg i (by omega);have a:i<p.free.length:=by omega
  have hf:(Xn0 p who i).free=p.free[i]::p.free.drop (i+1):=by rw [f]; exact List.drop_eq_getElem_cons a
  obtain ⟨_,_,e⟩:=XnZ hw hf;have e1:Xn0 p who (i+1)=(Xn0 p who i).take who:=e;obtain ⟨b,k⟩:=Xuy hf who;obtain ⟨d,l⟩:=c.free p.free[i] (by rw [hf]; exact List.mem_cons_self);have n:=XnD (v:=who) d;rw [if_pos l,if_neg (by omega)] at n;refine ⟨e1▸c.take hw hf,by rw [e1]; exact k,by rw [e1,b,List.length_set]; exact g,?_,fun m hm => ?_⟩
  ·unfold XhV at *; rw [e1,b]; omega
  ·rw [e1,b,Xha,j m hm];have ht:p.free.take (i+1)=p.free.take i ++ [p.free[i]]:=by rw [List.take_add_one,List.getElem?_eq_getElem a]; rfl
   rw [ht];by_cases e2:p.free[i]=m
   ·subst e2;rw [if_pos ⟨rfl,d⟩,if_pos (List.mem_append.2 (.inr (List.mem_singleton.2 rfl)))]
   ·rw [if_neg (fun h=>e2 h.1)];by_cases e3:m ∈ p.free.take i
    ·rw [if_pos e3,if_pos (List.mem_append.2 (.inl e3))]
    ·rw [if_neg e3,if_neg (by simp only [List.mem_append,List.mem_singleton]; rintro (h | h); exact e3 h; exact e2 h.symm)]
theorem Xn1 {p:PlM} {who:Int} (hw:0≤who) (hg:p.Good) {i:Nat} (hi:i≤p.free.length) {x:Sm} (hc:0≤x.cls) (hx:x.Of p):x.Of (Xn0 p who i):=fun e a=>by
 obtain ⟨b,c⟩:=hx e a;obtain ⟨_,_,f,_,d⟩:=Xn2 hw hg i hi;refine ⟨by omega,?_⟩;rw [d _ b,if_neg (fun hm=>by have:=(hg.free _ (List.mem_of_mem_take hm)).2; omega)];exact c
theorem XnQ {p:PlM} {n:Nat} (hn:n<p.own.length) (ho:p.own.getD n 0 ≠ -1):XnP p n=0∧XnO p n=p.give n:=by
 have a:Xnk p.own n=p.own.getD n 0:=by
  unfold Xnk; rw [if_pos (by omega)]; simp only [Int.toNat_natCast]; rw [List.getD_eq_getElem?_getD,List.getD_eq_getElem?_getD,List.getElem?_eq_getElem hn]; rfl
 have e:XnP p n=0:=by unfold XnP; rw [if_neg (by omega),a,if_neg ho]
 exact ⟨e,by unfold XnO; rw [if_pos e]; rfl⟩
theorem XnT:∀ {l:List Nat} {p:PlM},p.Good→l.Nodup→(∀ m ∈ l,m<p.own.length∧p.own.getD m 0 ≠ -1)→(XnR p l).Good∧(XnR p l).own.length=p.own.length∧XhV (XnR p l)+l.length=XhV p ∧ ∀ m,(XnR p l).own.getD m 0=if m ∈ l then -1 else p.own.getD m 0
 |[],p,f,_,_=>⟨f,rfl,rfl,fun m=>by simp [XnR]⟩
 |n::r,p,f,j,h=>by
  obtain ⟨i,k⟩:=List.nodup_cons.1 j;obtain ⟨c,g⟩:=h n (by simp);obtain ⟨_,e⟩:=XnQ c g;have e1:XnR p (n::r)=XnR (p.give n) r:=by unfold XnR; rw [List.foldl_cons,e]
  have o:=XnD (v := -1) c;rw [if_neg g,if_pos rfl] at o;have d:(p.give n).own=p.own.set n (-1):=rfl;obtain ⟨q,s,t,u⟩:=XnT (p:=p.give n) (l:=r) (f.give c g) k (fun m hm=>by
   obtain ⟨a,b⟩:=h m (by simp [hm]);rw [d,List.length_set,Xha,if_neg (fun ⟨e,_⟩=>i (e▸hm))];exact ⟨a,b⟩)
  rw [e1];refine ⟨q,by rw [s,d,List.length_set],by unfold XhV at *; rw [d] at t; simp only [List.length_cons]; omega,fun m => ?_⟩;rw [u,d,Xha];by_cases e2:n=m
  ·subst e2;rw [if_neg i,if_pos ⟨rfl,c⟩,if_pos (by simp)]
  ·by_cases e3:m ∈ r
   ·rw [if_pos e3,if_pos (List.mem_cons_of_mem _ e3)]
   ·rw [if_neg e3,if_neg (fun h=>e2 h.1),if_neg (fun h=>(List.mem_cons.1 h).elim (fun h=>e2 h.symm) e3)]
theorem XnS {p:PlM} (hg:p.Good) {l:List Nat} (hn:l.Nodup) (hl:∀ m ∈ l,m<p.own.length∧p.own.getD m 0 ≠ -1) {x:Sm} (hx:x.Of p) (hd:∀ m ∈ l,p.own.getD m 0≠x.cls):x.Of (XnR p l):=fun e b=>by
 obtain ⟨d,a⟩:=hx e b;obtain ⟨_,f,_,c⟩:=XnT hg hn hl;refine ⟨by omega,?_⟩;rw [c,if_neg (fun hm=>hd _ hm a)];exact a
theorem XjB (l l':List (Nat × List Nat)):XjA (l++l')=XjA l+XjA l':=by unfold XjA; rw [List.map_append,List.sum_append]
theorem Xjs (l l':List (Nat × List Nat)):Xjr (l++l')=Xjr l++Xjr l':=by unfold Xjr; rw [List.flatMap_append]
theorem RmM.Ok.big {c:Conf} {M:RmM} (h:M.Ok c) (hg:M.pl.Good) {many:Nat} (h1:1≤many) (hm:many≤M.pl.free.length):(Xpv M many).Ok c:=by
 obtain ⟨q,s,k,l,n⟩:=Xn2 (who:=((M.shs.length:Nat):Int)) (by omega) hg many hm;have i:M.pl.free.getD 0 0::(M.pl.free.take many).tail=M.pl.free.take many:=by
  cases hf:M.pl.free with
  |nil=>rw [hf] at hm; simp at hm; omega
  |cons a r =>
   obtain ⟨m,rfl⟩:∃ m,many=m+1:=⟨many - 1,by omega⟩;rfl
 have eA:Xjr (Xpv M many).lg=Xjr M.lg++M.pl.free.take many:=by
  show Xjr (M.lg++_)=_
  rw [Xjs];unfold Xjr;rw [List.flatMap_cons,List.flatMap_nil,List.append_nil,i]
 have d:∀ m ∈ M.pl.free.take many,m ∈ M.pl.free:=fun m hm=>List.mem_of_mem_take hm;refine ⟨h.n,h.each,by show ((Xn0 _ _ _).own.length:Int)=_; rw [k]; exact h.own,fun m f => ?_,?_,?_,XeD h.tot⟩
 ·rw [eA] at f;have j:m<M.pl.own.length:=by
   rcases List.mem_append.1 f with g | g
   ·exact (h.lg m g).1
   ·exact (hg.free m (d m g)).1
  refine ⟨by show m<(Xn0 _ _ _).own.length; omega,?_⟩;show (Xn0 _ _ _).own.getD m 0=((M.shs.length:Nat):Int)
  rw [n m j];rcases List.mem_append.1 f with g | g
  ·by_cases e:m ∈ M.pl.free.take many
   ·rw [if_pos e]
   ·rw [if_neg e]; exact (h.lg m g).2
  ·rw [if_pos g]
 ·rw [eA];refine List.nodup_append.2 ⟨h.nd,hg.nodup.sublist (List.take_sublist _ _),fun a o b p e => ?_⟩;subst e;have:=(h.lg a o).2;have:=(hg.free a (d a p)).2;omega
 ·show XhV (Xn0 _ _ _)=Xrg M.shs+XjA (M.lg++_)
  rw [l,XjB,h.sum];have:((M.pl.free.take many).tail.length+1)=many:=by rw [List.length_tail,List.length_take]; omega
  unfold XjA;simp only [List.map_cons,List.map_nil,List.sum_cons,List.sum_nil];omega
theorem Xjz:∀ {l:List (Nat × List Nat)} {n:Int} {r:List Nat},Xjw l n=some r → ∃ m:Nat,n=m∧(m,r) ∈ l
 |(m,q)::t,n,r,h=>by
  unfold Xjw at h;by_cases e:(m:Int)=n
  ·rw [if_pos e] at h; cases h; exact ⟨m,e.symm,by simp⟩
  ·rw [if_neg e] at h;obtain ⟨m',e',hm⟩:=Xjz h;exact ⟨m',e',by simp [hm]⟩
theorem Xjy:∀ {l:List (Nat × List Nat)} {n:Int},Xjw l n=none → ∀ e ∈ l,(e.1:Int)≠n
 |[],_,_,_,he=>by cases he
 |(m,q)::r,n,h,e,he=>by
  unfold Xjw at h;by_cases hm:(m:Int)=n
  ·rw [if_pos hm] at h; cases h
  ·rw [if_neg hm] at h;rcases List.mem_cons.1 he with rfl | he
   ·exact hm
   ·exact Xjy h e he
theorem XkP {l:List (Nat × List Nat)} {e:Nat × List Nat} (h:e ∈ l) {m:Nat} (hm:m ∈ e.1::e.2):m ∈ Xjr l:=List.mem_flatMap.2 ⟨e,h,hm⟩
theorem Xjv:∀ {l:List (Nat × List Nat)} {n:Nat},n ∉ Xjr l→Xjt l n=l:=fun {l n} h=>by
 unfold Xjt;refine List.filter_eq_self.2 fun e a => ?_;simp only [bne_iff_ne,ne_eq];exact fun e'=>h (XkP a (by rw [e']; simp))
theorem Xju:∀ {l:List (Nat × List Nat)} {n:Nat} {r:List Nat},(Xjr l).Nodup→(n,r) ∈ l → ∃ a b,l=a++(n,r)::b∧Xjt l n=a++b:=fun {l n r} c hm=>by
 obtain ⟨a,b,rfl⟩:=List.append_of_mem hm;refine ⟨a,b,rfl,?_⟩;have e:Xjr (a++(n,r)::b)=Xjr a++((n::r)++Xjr b):=by rw [Xjs]; rfl
 rw [e] at c;obtain ⟨k,d,f⟩:=List.nodup_append.1 c;obtain ⟨m,o,g⟩:=List.nodup_append.1 d;have i:n ∉ Xjr a:=fun h=>f n h n (by simp) rfl;have j:n ∉ Xjr b:=fun h=>g n (by simp) n h rfl;have:Xjt (a++(n,r)::b) n=Xjt a n++Xjt b n:=by unfold Xjt; rw [List.filter_append,List.filter_cons]; simp
 rw [this,Xjv i,Xjv j]
theorem RmM.Ok.gone {c:Conf} {M:RmM} (h:M.Ok c) (hg:M.pl.Good) {n:Nat} {r:List Nat} (hm:(n,r) ∈ M.lg):(XpM M n r).Ok c∧(XnR M.pl (n::r)).Good:=by
 obtain ⟨a,b,e1,e2⟩:=Xju h.nd hm;have eA:Xjr M.lg=Xjr a++((n::r)++Xjr b):=by rw [e1,Xjs]; rfl
 have f:=h.nd;rw [eA] at f;obtain ⟨p,q,i⟩:=List.nodup_append.1 f;obtain ⟨s,t,u⟩:=List.nodup_append.1 q;obtain ⟨v,w,z,A⟩:=XnT (l:=n::r) hg s (fun m d=>by
  obtain ⟨j,k⟩:=h.lg m (XkP hm d);exact ⟨j,by omega⟩)
 have eB:Xjr (Xjt M.lg n)=Xjr a++Xjr b:=by rw [e2,Xjs]
 refine ⟨⟨h.n,h.each,by show ((XnR _ _).own.length:Int)=_; rw [w]; exact h.own,fun m d => ?_,?_,?_,XeD h.tot⟩,v⟩
 ·replace d:m ∈ Xjr (Xjt M.lg n):=d;rw [eB] at d;have e:m ∈ Xjr M.lg:=by
   rw [eA];rcases List.mem_append.1 d with g | g <;> simp [g]
  obtain ⟨j,k⟩:=h.lg m e;refine ⟨by show m<(XnR _ _).own.length; omega,?_⟩;show (XnR _ _).own.getD m 0=((M.shs.length:Nat):Int)
  rw [A,if_neg]
  ·exact k
  ·intro o;rcases List.mem_append.1 d with g | g
   ·exact i m g m (List.mem_append.2 (.inl o)) rfl
   ·exact u m o m g rfl
 ·show (Xjr (Xjt M.lg n)).Nodup
  rw [eB];exact List.nodup_append.2 ⟨p,t,fun x B y C=>i x B y (List.mem_append.2 (.inr C))⟩
 ·show XhV (XnR _ _)=Xrg M.shs+XjA (Xjt M.lg n)
  have D:=h.sum;rw [e1,XjB] at D;rw [e2,XjB];have:XjA ((n,r)::b)=(r.length+1)+XjA b:=by unfold XjA; rw [List.map_cons,List.sum_cons]
  simp only [List.length_cons] at z;omega
structure Rm where
 rb:Nat
 c:Conf
 p:Xal
 mo:Option Nat
 P:Pl
 sb:Nat
 sc:Nat
 lm:Nat
 S:Nat→Sh
 lap:Int
 X:Nat→Prop
abbrev rmV (R:Rm):Value := .pointer (some ⟨R.rb,0,none⟩)
def rmL (R:Rm) (n:Nat):List Value:=Xfl R.c R.p ++ [ptr R.mo,plV R.P,.slice (some ⟨R.sb,0,none⟩) n R.sc,.map (some R.lm)]
def Far (F:Nat→Prop) (w:World) (a:Option Addr) (l:List Int):Prop:=Rd .i64 w a l∧(0<l.length→Xa0 F a)
theorem Far.chg {F S:Nat→Prop} {w w':World} {a:Option Addr} {l:List Int} (h:Far F w a l) (hc:Chg S w w') (hS:∀ z,S z→F z):Far F w' a l:=by
 refine ⟨?_,h.2⟩;by_cases b:0<l.length
 ·exact h.1.far ((h.2 b).mono hS) hc
 ·have:l = []:=List.eq_nil_of_length_eq_zero (by omega);subst this;exact Rd.nil _ _ _
theorem Rd.block {k:IntKind} {w:World} {a:Option Addr} {l:List Int} (h:Rd k w a l) (hl:0<l.length) {b off:Nat} {s} (e:a=some ⟨b,off,s⟩):b<w.heap.size:=by
 obtain ⟨b',off',e',c⟩:=h 0 hl;rw [e] at e'; cases e';exact World.block_lt_of_cell? w _ c
theorem Far.grow {F F':Nat→Prop} {w:World} {a:Option Addr} {l:List Int} (h:Far F w a l) (hF:∀ z,F' z→F z∨w.heap.size≤z):Far F' w a l :=
 ⟨h.1,fun c b off s e hz=>by
  rcases hF b hz with hz | hz
  ·exact h.2 c b off s e hz
  ·have:=h.1.block c e; omega⟩
theorem XiP {S:Nat→Prop} {w w':World} {b:Nat} {x:Option Nat} (hc:Chg S w w') (h:kd w b=some x) (hS:¬ S b):kd w' b=some x:=by
 have a:=XiR h;unfold kd at *;rw [hc.block b a hS];exact h
def XaP (F:Nat→Prop) (w:World) (a:Option Addr):Prop := ∀ b off s,a=some ⟨b,off,s⟩→kd w b=some (some 3) ∧ ¬ F b
theorem XaP.chg {F S:Nat→Prop} {w w':World} {a:Option Addr} (h:XaP F w a) (hc:Chg S w w') (hS:∀ b,kd w b=some (some 3)→S b→F b):XaP F w' a:=fun b off s e =>
 ⟨XiP hc (h b off s e).1 (fun c=>(h b off s e).2 (hS b (h b off s e).1 c)),(h b off s e).2⟩
def XaI (F:Nat→Prop) (w:World) (lm:Nat) (lg:List (Nat × List Nat)):Prop := ∃ m,XaL w lm m∧(Xb9 m).Nodup∧(∀ e ∈ lg,∃ a cap,Xcj m e.1=some (.slice a e.2.length cap)∧Rd .i64 w a (Xly e.2)∧XaP F w a) ∧ ∀ k:Int,(∀ e ∈ lg,(e.1:Int)≠k)→Xcj m k=none
theorem XaI.chg {F S:Nat→Prop} {w w':World} {lm:Nat} {lg:List (Nat × List Nat)} (h:XaI F w lm lg) (hc:Chg S w w') (hS:∀ b,kd w b=some (some 3)→S b→F b) (hl:¬ S lm):XaI F w' lm lg:=by
 obtain ⟨m,d,f,g,i⟩:=h;exact ⟨m,d.chg hc hl,f,fun e j=>by obtain ⟨a,cap,k,l,c⟩:=g e j; exact ⟨a,cap,k,l.far (fun b off s e n=>(c b off s e).2 (hS b (c b off s e).1 n)) hc,c.chg hc hS⟩,i⟩
theorem XaI.grow {F F':Nat→Prop} {w:World} {lm:Nat} {lg:List (Nat × List Nat)} (h:XaI F w lm lg) (hF:∀ z,F' z→F z∨w.heap.size≤z):XaI F' w lm lg:=by
 obtain ⟨m,d,f,g,i⟩:=h;exact ⟨m,d,f,fun e j=>by
  obtain ⟨a,cap,k,l,c⟩:=g e j;exact ⟨a,cap,k,l,fun b off s e=>⟨(c b off s e).1,fun n=>(hF b n).elim (c b off s e).2 (fun h=>by have:=XiR (c b off s e).1; omega)⟩⟩,i⟩
def Xbx (F:Nat→Prop) (w:World) (R:Rm) (shs:List Sm) (pl:PlM):Prop := ∃ G:Nat→Nat→Pg,
 (∀ k x,shs[k]? = some x→(R.S k).P=R.P∧Xbv w (R.S k) (G k) x pl ∧ ∀ z,Xrb (R.S k) (G k) x.pg z→F z∧z≠R.lm) ∧
 ∀ j k x y,j≠k→shs[j]? = some x→shs[k]? = some y → ∀ z,Xrb (R.S j) (G j) x.pg z → ¬ Xrb (R.S k) (G k) y.pg z
def Rm.FX (R:Rm) (F:Nat→Prop):Nat→Prop:=fun z=>F z∨R.X z
structure Xbh (F:Nat→Prop) (w:World) (R:Rm) (M:RmM):Prop where
 ok:M.Ok R.c
 obj:w.heap[R.rb]? = some (.cells (rmL R M.shs.length).toArray 206 (0,0))
 cls:Far F w R.p.ca R.c.classes
 kee:Far F w R.p.ka R.c.keep
 may:XkH R.c=true
 met:∀ b,R.mo=some b→F b∧XaO w b M.tot R.lap
 sl:∀ k,k<M.shs.length→w.cell? ⟨R.sb,k,none⟩=some (sfV (R.S k))
 pool:Xa9 w R.P M.pl
 pf:∀ z,XnN R.P z→F z
 sh:Xbx F w R M.shs M.pl
 lg:XaI (R.FX F) w R.lm M.lg
 lf:F R.lm
 rf:¬ F R.rb
 sf:¬ F R.sb
 low:∀ z,F z→z<w.heap.size
 tab:XbD w
 tf:¬ F 1
 xl:∀ z,R.X z→z<w.heap.size ∧ ¬ F z
theorem Xbh.conf {F:Nat→Prop} {w:World} {R:Rm} {M:RmM} (h:Xbh F w R M):Xam w R.c R.p:=by
 have hm:=h.may;unfold XkH at hm;simp only [Bool.and_eq_true,decide_eq_true_eq] at hm;obtain ⟨⟨⟨⟨⟨⟨⟨a,c⟩,b⟩,d,_⟩,_⟩,_⟩,_⟩,_⟩:=hm;have e:=Xe4 b;have:=Xr0.1 a;exact ⟨h.cls.1,h.kee.1,by omega,by omega,by unfold XaC; omega⟩
def Xbi (F:Nat→Prop) (w w':World) (R:Rm) (M:RmM):Prop := ∃ F',Xbh F' w' R M∧(∀ z,F' z→F z∨w.heap.size≤z)∧Chg F w w'
theorem Xbi.of {F:Nat→Prop} {w w':World} {R:Rm} {M:RmM} (h:Xbh F w' R M) (hc:Chg F w w'):Xbi F w w' R M:=⟨F,h,fun _ h => .inl h,hc⟩
theorem Xbi.trans {F:Nat→Prop} {w w1 w2:World} {R:Rm} {M:RmM} {F1:Nat→Prop} (hF:∀ z,F1 z→F z∨w.heap.size≤z) (hc:Chg F w w1) (h:Xbi F1 w1 w2 R M):Xbi F w w2 R M:=by
 obtain ⟨e,a,b,c⟩:=h;refine ⟨e,a,fun z d => ?_,hc.since c fun z d f => ?_⟩
 ·rcases b z d with h | h
  ·exact hF z h
  ·have:=hc.size; exact .inr (by omega)
 ·rcases hF z f with h | h
  ·exact h
  ·omega
section
variable {F:Nat→Prop} {w w':World} {R:Rm} {M:RmM}
theorem Xbx.grow {shs:List Sm} {pl:PlM} (h:Xbx F w R shs pl) (hc:Chg XaX w w'):Xbx F w' R shs pl:=by
 obtain ⟨G,a,b⟩:=h;exact ⟨G,fun k x c=>by obtain ⟨d,e,f⟩:=a k x c; exact ⟨d,e.grow hc,f⟩,b⟩
theorem Xbh.grow (h:Xbh F w R M) (hc:Chg XaX w w'):Xbh F w' R M :=
 ⟨h.ok,hc.heap' h.obj,h.cls.chg hc (fun _ h=>h.elim),h.kee.chg hc (fun _ h=>h.elim),h.may,fun b c=>by obtain ⟨d,e⟩:=h.met b c; exact ⟨d,e.chg hc⟩,
  fun k f=>hc.cell (h.sl k f) id,h.pool.grow hc,h.pf,h.sh.grow hc,h.lg.chg hc (fun _ _ h=>h.elim) id,h.lf,h.rf,h.sf,fun z a=>by have:=h.low z a; have:=hc.size; omega,h.tab.grow hc,h.tf,fun z a=>⟨by have:=(h.xl z a).1; have:=hc.size; omega,(h.xl z a).2⟩⟩
theorem XiT {b:Nat} {t l:Int} (h:XaO w b t l):kd w b=some (some 197):=XiO h.1
theorem XiQ {F:Nat→Prop} {lm:Nat} {lg:List (Nat × List Nat)} (h:XaI F w lm lg):kd w lm=some none:=by
 obtain ⟨m,hm,_⟩:=h;exact XiS hm
theorem Xbh.charge (h:Xbh F w R M) {b:Nat} (hb:R.mo=some b) {t:Int} (hm:XaO w' b t R.lap) (hc:Chg (fun z=>z=b) w w'):Xbh F w' R {M with tot:=t}:=by
 obtain ⟨m,o⟩:=h.met b hb;have kb:=XiT o;have f:∀ z,z=b→F z:=fun z e=>e▸m;have kp:=h.pool.kds;have i:=XiU kp.1 kb (by decide);have j:=XiU kp.2 kb (by decide);have p:=XiU (XiQ h.lg) kb (by simp);have ht:1≠b:=fun e=>h.tf (e▸m);refine ⟨{h.ok with tot:=by have:=hm.2; show 0≤t∧t≤4611686018427387904; omega},hc.heap h.obj (fun e=>h.rf (f _ e)),h.cls.chg hc f,h.kee.chg hc f,h.may,fun b' l => ?_,fun k q=>hc.cell (h.sl k q) (fun e=>h.sf (f _ e)),h.pool.chg hc i j,h.pf,?_,h.lg.chg hc (fun z _ h => .inl (f z h)) p,h.lf,h.rf,h.sf,fun z g=>by have:=h.low z g; have:=hc.size; omega,h.tab.chg hc ht,h.tf,fun z g=>⟨by have:=(h.xl z g).1; have:=hc.size; omega,(h.xl z g).2⟩⟩
 ·rw [hb] at l; cases l; exact ⟨m,hm⟩
 ·obtain ⟨G,a,d⟩:=h.sh;refine ⟨G,fun k x r => ?_,d⟩;obtain ⟨n,c,s⟩:=a k x r;have ap:=c.at'.apart kb (by decide);exact ⟨n,⟨c.ok,c.pos,c.of,c.at'.chg hc (fun z e=>e▸ap.1) (fun z e=>e▸ap.2) ht,c.pool.chg hc (by rw [n]; exact i) (by rw [n]; exact j)⟩,s⟩
theorem Xbv.beside {S S':Sh} {G G':Nat→Pg} {x x':Sm} {pl pl':PlM} (h:Xbv w S G x pl) (h':Xbv w S' G' x' pl) (hd:∀ z,Xrb S' G' x'.pg z → ¬ Xrb S G x.pg z) (hc:Chg (Xcd S' G' x'.pg) w w') (hP:S.P=S'.P) (hp:Xa9 w' S'.P pl') (hof:x.Of pl'):Xbv w' S G x pl':=by
 have k':=h'.at'.kds;have k:=h.at'.kds;obtain ⟨d,f⟩:=h'.pool.kds;have kx:∀ {z:Nat},Xcd S' G' x'.pg z→kd w z≠some (some 329)∧kd w z≠some (some 325):=fun {z} a=>by
  rcases a with (e | e | (e | e) | ⟨e,b,e1 | e1⟩) | e | e
  ·subst e; rw [k'.sb]; exact ⟨by decide,by decide⟩
  ·subst e; rw [k'.sm]; exact ⟨by simp,by simp⟩
  ·subst e; rw [k'.ab]; exact ⟨by decide,by decide⟩
  ·subst e; rw [k'.nb]; exact ⟨by decide,by decide⟩
  ·subst e1; rw [(h'.at'.pages e b).kds.bb]; exact ⟨by decide,by decide⟩
  ·subst e1; rw [(h'.at'.pages e b).kds.mb]; exact ⟨by simp,by simp⟩
  ·subst e; rw [d]; exact ⟨by decide,by decide⟩
  ·subst e; rw [f]; exact ⟨by decide,by decide⟩
 have out:∀ z,Xrb S G x.pg z → ¬ Xcd S' G' x'.pg z:=fun z a hz'=>by
  rcases hz' with hz' | hz'
  ·exact hd z hz' a
  ·have c:=hz';have n:=h.at'.notpool (hP▸h'.pool);rw [hP] at n;rcases c with e | e
   ·subst e; exact n.1 a
   ·subst e; exact n.2 a
 refine ⟨h.ok,h.pos,hof,h.at'.chg hc (fun z a=>⟨fun e=>out z (.inl e) a,fun e=>out z (.inr (.inl e)) a,fun e=>(kx a).1 (e▸k.lb),fun e=>out z (.inr (.inr (.inl e))) a⟩) (fun z a e b=>⟨fun e'=>(kx a).2 (e'▸(h.at'.pages e b).kds.p),fun e'=>out z (.inr (.inr (.inr ⟨e,b,e'⟩))) a⟩) ?_,hP▸hp⟩;rintro (e | e)
 ·rcases e with e | e | e | ⟨e,b,e1⟩
  ·exact Xup h'.at'.tab (fun v e2=>by rw [Xel h'.at'.obj] at e2; simp [shL] at e2) e
  ·obtain ⟨m,hm,_⟩:=h'.at'.map;exact Xuo hm h'.at'.tab e
  ·exact Xus h'.at'.ring h'.at'.tab e
  ·exact Xuq (h'.at'.pages e b) e1
 ·exact Xur h'.at'.tab h'.pool e
theorem Xbh.shelf (h:Xbh F w R M) {k:Nat} {x:Sm} (hx:M.shs[k]? = some x):∃ Gk,(R.S k).P=R.P∧Xbv w (R.S k) Gk x M.pl∧(∀ z,Xcd (R.S k) Gk x.pg z→F z) ∧ ∀ w' G' x' pl',Xbv w' (R.S k) G' x' pl'→Chg (Xcd (R.S k) Gk x.pg) w w' →
 (∀ z,Xrb (R.S k) G' x'.pg z→Xrb (R.S k) Gk x.pg z∨w.heap.size≤z)→Eff M.pl pl' x.cls→x'.cls=x.cls→x'.blocks=x.blocks→XhV pl'+x.pg.length=XhV M.pl+x'.pg.length→Xbi F w w' R (Xp8 M k x' pl'):=by
 obtain ⟨G,a,d⟩:=h.sh;obtain ⟨s,t,hf⟩:=a k x hx;have p:=(List.getElem?_eq_some_iff.1 hx).1;have f:∀ z,Xcd (R.S k) (G k) x.pg z→F z:=fun z hz=>by
  rcases hz with hz | hz
  ·exact (hf z hz).1
  ·exact h.pf z (s▸hz)
 refine ⟨G k,s,t,f,fun w' G' x' pl' o m v E H I S => ?_⟩;have C:=o.foot_lt
 let F':Nat→Prop:=fun z=>F z∨(w.heap.size≤z∧Xrb (R.S k) G' x'.pg z)
 have q:∀ z,F' z→F z∨w.heap.size≤z:=fun z hz=>hz.imp id (·.1);have J:¬ Xcd (R.S k) (G k) x.pg R.lm:=by
  rintro (hz | hz)
  ·exact (hf _ hz).2 rfl
  ·have kl:=XiQ h.lg;have kp:=t.pool.kds;rcases hz with e | e
   ·exact XiU kl kp.1 (by simp) e
   ·exact XiU kl kp.2 (by simp) e
 have Q:=h.low _ h.lf;have n:∀ (b:Nat),b<w.heap.size → ¬ F b → ¬ F' b:=fun b K T hz=>by
  rcases hz with hz | ⟨hz,_⟩
  ·exact T hz
  ·omega
 have A:=World.block_lt_of_cell? w _ (h.sl k p);have D:=World.block_lt_of_cell? w _ (h.tab 0 (by decide));refine ⟨F',⟨h.ok.set h.pool.good hx E H I S,?_,(h.cls.grow q).chg m (fun z hz => .inl (f z hz)),(h.kee.grow q).chg m (fun z hz => .inl (f z hz)),h.may,fun b K => ?_,fun j B => ?_,s▸o.pool,fun z hz => .inl (h.pf z hz),⟨fun j=>if j=k then G' else G j,fun j y c => ?_,fun i j y y' r c l z hz => ?_⟩,(h.lg.grow (F':=R.FX F') (fun z hz=>hz.elim (fun h=>(q z h).imp .inl id) (fun h => .inl (.inr h)))).chg m (fun z _ hz => .inl (.inl (f z hz))) J,.inl h.lf,n _ (Xkj h.obj) h.rf,n _ A h.sf,fun z hz => ?_,o.at'.tab,n _ D h.tf,fun z hz=>⟨by have:=(h.xl z hz).1; have:=m.size; omega,n z (h.xl z hz).1 (h.xl z hz).2⟩⟩,q,m.mono fun z _ hz=>f z hz⟩
 ·show w'.heap[R.rb]? = some (.cells (rmL R (M.shs.set k x').length).toArray _ _)
  rw [List.length_set];exact m.heap h.obj (fun hz=>h.rf (f _ hz))
 ·obtain ⟨L,hm⟩:=h.met b K;have kb:=XiT hm;have kp:=t.pool.kds;have ap:=t.at'.apart kb (by decide);refine ⟨.inl L,m.heap hm.1 ?_,hm.2⟩;rintro ((e | e | e | ⟨e,U,e1⟩) | e | e)
  ·exact ap.1.1 e
  ·exact ap.1.2.1 e
  ·exact ap.1.2.2.2 e
  ·exact (ap.2 e U).2 e1
  ·exact XiU kb kp.1 (by decide) e
  ·exact XiU kb kp.2 (by decide) e
 ·exact m.cell (h.sl j (by replace B:j<(M.shs.set k x').length:=B; rw [List.length_set] at B; exact B)) (fun hz=>h.sf (f _ hz))
 ·replace c:(M.shs.set k x')[j]? = some y:=c;by_cases e:j=k
  ·subst e;rw [List.getElem?_set_self p] at c; cases c;simp only [if_true];refine ⟨s,o,fun z hz => ?_⟩;rcases v z hz with g | g
   ·exact ⟨.inl (hf z g).1,(hf z g).2⟩
   ·exact ⟨.inr ⟨g,hz⟩,by omega⟩
  ·rw [List.getElem?_set_ne (Ne.symm e)] at c;simp only [if_neg e];obtain ⟨N,O,P⟩:=a j y c;obtain ⟨W,_⟩:=h.ok.each j y c;obtain ⟨c2,_⟩:=h.ok.each k x hx;exact ⟨N,O.beside t (fun z o v=>d j k y x e c hx z v o) m (N.trans s.symm) o.pool (E.of h.pool.good O.of (by omega) (by omega)),fun z hz=>⟨.inl (P z hz).1,(P z hz).2⟩⟩
 ·replace c:(M.shs.set k x')[i]? = some y:=c;replace l:(M.shs.set k x')[j]? = some y':=l;have old:∀ {i:Nat} {y:Sm},i≠k→M.shs[i]? = some y → ∀ {z:Nat},Xrb (R.S i) (G i) y.pg z → ¬ Xrb (R.S k) G' x'.pg z:=fun {i y} V c {z} hz u=>by
   rcases v z u with g | g
   ·exact d i k y x V c hx z hz g
   ·have:=h.low z ((a i y c).2.2 z hz).1; omega
  by_cases e:i=k
  ·subst e;rw [List.getElem?_set_self p] at c; cases c;rw [List.getElem?_set_ne r] at l;simp only [if_true] at hz;simp only [if_neg (Ne.symm r)];exact fun u=>old (Ne.symm r) l u hz
  ·rw [List.getElem?_set_ne (Ne.symm e)] at c;simp only [if_neg e] at hz;by_cases e':j=k
   ·subst e';rw [List.getElem?_set_self p] at l; cases l;simp only [if_true];exact old e c hz
   ·rw [List.getElem?_set_ne (Ne.symm e')] at l;simp only [if_neg e'];exact d i j y y' r c l z hz
 ·rcases hz with hz | ⟨_,hz⟩
  ·have:=h.low z hz; have:=m.size; omega
  ·exact C z (.inl hz)
theorem Xbv.swap {S:Sh} {G:Nat→Pg} {x:Sm} {pl pl':PlM} {lm:Nat} (h:Xbv w S G x pl) (hlm:kd w lm=some none) (hnl:¬ Xrb S G x.pg lm) (hc:Chg (fun z=>XnN S.P z∨z=lm) w w') (hp:Xa9 w' S.P pl') (hof:x.Of pl') (ht:1≠lm):Xbv w' S G x pl':=by
 obtain ⟨f,g⟩:=h.pool.kds;have c:=h.at'.apart f (by decide);have d:=h.at'.apart g (by decide);have k:=h.at'.kds;refine ⟨h.ok,h.pos,hof,h.at'.chg hc (fun z b => ?_) (fun z b e a => ?_) ?_,hp⟩
 ·rcases b with (e | e) | e
  ·exact e▸c.1
  ·exact e▸d.1
  ·subst e;exact ⟨fun e=>hnl (.inl e),fun e=>hnl (.inr (.inl e)),XiU hlm k.lb (by simp),fun e=>hnl (.inr (.inr (.inl e)))⟩
 ·rcases b with (e1 | e1) | e1
  ·exact e1▸c.2 e a
  ·exact e1▸d.2 e a
  ·subst e1;exact ⟨XiU hlm (h.at'.pages e a).kds.p (by simp),fun e'=>hnl (.inr (.inr (.inr ⟨e,a,e'⟩)))⟩
 ·rintro (e | e)
  ·exact Xur h.at'.tab h.pool e
  ·exact ht e
theorem Xbh.swap (h:Xbh F w R M) {pl':PlM} {lg':List (Nat × List Nat)} (hok:RmM.Ok R.c {M with pl:=pl',lg:=lg'}) (hc:Chg (fun z=>XnN R.P z∨z=R.lm) w w') (hp:Xa9 w' R.P pl') (hl:XaI (R.FX F) w' R.lm lg') (hof:∀ (k:Nat) (x:Sm),M.shs[k]? = some x→x.Of M.pl→x.Of pl'):Xbh F w' R {M with pl:=pl',lg:=lg'}:=by
 have f:∀ z,(XnN R.P z∨z=R.lm)→F z:=fun z c=>c.elim (h.pf z) (fun e=>e▸h.lf);have kl:=XiQ h.lg;have kp:=h.pool.kds;refine ⟨hok,hc.heap h.obj (fun c=>h.rf (f _ c)),h.cls.chg hc f,h.kee.chg hc f,h.may,fun b m => ?_,fun k n=>hc.cell (h.sl k n) (fun c=>h.sf (f _ c)),hp,h.pf,?_,hl,h.lf,h.rf,h.sf,fun z c=>by have:=h.low z c; have:=hc.size; omega,h.tab.chg hc (fun c=>h.tf (f _ c)),h.tf,fun z c=>⟨by have:=(h.xl z c).1; have:=hc.size; omega,(h.xl z c).2⟩⟩
 ·obtain ⟨g,hm⟩:=h.met b m;have kb:=XiT hm;refine ⟨g,hc.heap hm.1 ?_,hm.2⟩;rintro ((e | e) | e)
  ·exact XiU kb kp.1 (by decide) e
  ·exact XiU kb kp.2 (by decide) e
  ·exact XiU kb kl (by simp) e
 ·obtain ⟨G,a,d⟩:=h.sh;refine ⟨G,fun k x i => ?_,d⟩;obtain ⟨g,j,l⟩:=a k x i;exact ⟨g,j.swap kl (fun c=>(l _ c).2 rfl) (by rw [g]; exact hc) (by rw [g]; exact hp) (hof k x i j.of) (fun e=>h.tf (e▸h.lf)),l⟩
theorem Xbh.note {F0:Nat→Prop} {w0:World} {M0:RmM} (h0:Xbh F0 w0 R M0) (h:Xbh F w R M) {eb:Nat} {t:Nat} (hk:kd w eb=some (some t)) (hnew:w0.heap.size≤eb) (hF:¬ F eb) (hc:Chg (fun z=>z=eb) w w')
 (ht:t≠197∧t≠262∧t≠319∧t≠3∧t≠272∧t≠329∧t≠334∧t≠336∧t≠325∧t≠366):Xbh F w' R M:=by
 have d:∀ {t':Nat},t≠t'→some (some t)≠some (some t'):=fun h e=>h (Option.some.inj (Option.some.inj e));have n:0<M0.shs.length:=by
  have hm:=h0.may;unfold XkH at hm;simp only [Bool.and_eq_true,decide_eq_true_eq] at hm;have:=Xe4 hm.1.1.1.1.1.2;have:=h0.ok.n;omega
 have o:R.rb≠eb:=by have:=Xkj h0.obj; omega
 have p:R.sb≠eb:=by have:=World.block_lt_of_cell? w0 _ (h0.sl 0 n); simp only at this; omega
 have m:1≠eb:=by have:=World.block_lt_of_cell? w0 _ (h0.tab 0 (by decide)); simp only at this; omega
 have j:∀ {a:Option Addr} {l:List Int},Far F0 w0 a l→Far F w a l→Far F w' a l:=fun {a l} y g=>by
  refine ⟨?_,g.2⟩;by_cases A:0<l.length
  ·exact g.1.far (fun b off s e q=>by have:=y.1.block A e; omega) hc
  ·have:l = []:=List.eq_nil_of_length_eq_zero (by omega);subst this;exact Rd.nil _ _ _
 have kp:=h.pool.kds;have r:=XiU kp.1 hk (Ne.symm (d ht.2.1));have u:=XiU kp.2 hk (Ne.symm (d ht.2.2.1));refine ⟨h.ok,hc.heap h.obj o,j h0.cls h.cls,j h0.kee h.kee,h.may,fun b q => ?_,fun k v=>hc.cell (h.sl k v) p,h.pool.chg hc r u,h.pf,?_,h.lg.chg hc (fun z c e=>absurd (c.symm.trans (e▸hk)) (Ne.symm (d ht.2.2.2.1))) (XiU (XiQ h.lg) hk (by simp)),h.lf,h.rf,h.sf,fun z c=>by have:=h.low z c; have:=hc.size; omega,h.tab.chg hc m,h.tf,fun z c=>⟨by have:=(h.xl z c).1; have:=hc.size; omega,(h.xl z c).2⟩⟩
 ·obtain ⟨f,hm⟩:=h.met b q;exact ⟨f,hc.heap hm.1 (fun e=>hF (e▸f)),hm.2⟩
 ·obtain ⟨G,a,e⟩:=h.sh;refine ⟨G,fun k x B => ?_,e⟩;obtain ⟨f,i,C⟩:=a k x B;have ap:=i.at'.apart hk ht.2.2.2.2;exact ⟨f,⟨i.ok,i.pos,i.of,i.at'.chg hc (fun z e=>e▸ap.1) (fun z e=>e▸ap.2) m,i.pool.chg hc (by rw [f]; exact r) (by rw [f]; exact u)⟩,C⟩
theorem Xqt (h:Xbh F w R M) (n:Int):Xan Tryz.prog 146 #[ptr R.mo,.int .i64 n] w (fun _ w'=>Xbh F w' R {M with tot:=XeA M.tot n}∧Chg F w w'):=by
 cases hm:R.mo with
 |none =>
  refine (XkU n w).mono fun _ w' e => ?_;subst e;have d:=XeD (n:=n) h.ok.tot;exact ⟨{h with ok:={h.ok with tot:=d},met:=fun b a=>by rw [hm] at a; cases a},Chg.refl _ _⟩
 |some b =>
  obtain ⟨f,a⟩:=h.met b hm;exact (XkT b M.tot R.lap n w a).mono fun _ w' ⟨g,c⟩=>⟨h.charge hm g c,c.mono fun z _ e=>e▸f⟩
end
def rsV (R:Rm) (M:RmM) (k:Int):Value:=match XpC M k with | none => .pointer none | some _=>sfV (R.S k.toNat)
theorem XpI {M:RmM} {k:Int} {x:Sm} (h:XpC M k=some x):∃ n:Nat,k=n∧n<M.shs.length∧M.shs[n]? = some x:=by
 unfold XpC at h;by_cases a:0≤k
 ·rw [if_pos a] at h;exact ⟨k.toNat,by omega,(List.getElem?_eq_some_iff.1 h).1,h⟩
 ·rw [if_neg a] at h; cases h
theorem XpF {M:RmM} {k:Int} (h:k<0∨(M.shs.length:Int)≤k):XpC M k=none:=by
 unfold XpC;by_cases a:0≤k
 ·rw [if_pos a,List.getElem?_eq_none (by omega)]
 ·rw [if_neg a]
theorem XpD {M:RmM} {k:Nat} (h:k<M.shs.length):XpC M k=some M.shs[k]:=by
 unfold XpC;rw [if_pos (by omega)];exact List.getElem?_eq_getElem h
theorem Xqv {F:Nat→Prop} {w:World} {R:Rm} {M:RmM} (h:Xbh F w R M) (k:Int):Xan Tryz.prog 219 #[rmV R,.int .i64 k] w (Xbs (rsV R M k) w):=by
 have g:=h.ok.n;refine ζe Tryz.func219 Tryz.ntmps219 rfl (ζg rfl (fun a => ?_) fun a => ?_)
 ·have e:rsV R M k = .pointer none:=by unfold rsV; rw [XpF (.inl (of_decide_eq_true a))]
  rw [e];exact ζa rfl (ζr Tryz.func219 rfl ⟨rfl,rfl⟩)
 ·have d:=of_decide_eq_false a;refine ζl h.obj rfl (ζg rfl (fun b => ?_) fun b => ?_)
  ·have e:rsV R M k = .pointer none:=by unfold rsV; rw [XpF (.inr (of_decide_eq_true b))]
   rw [e];exact ζr Tryz.func219 rfl ⟨rfl,rfl⟩
  ·have f:=of_decide_eq_false b;obtain ⟨n,rfl⟩:=Int.eq_ofNat_of_zero_le (show 0≤k by omega);have c:n<M.shs.length:=by omega
   have e:rsV R M n=sfV (R.S n):=by unfold rsV; rw [XpD c]; rfl
   rw [e];exact ζl h.obj rfl (ζi n rfl (ζk rfl (show w.cell? ⟨R.sb,0+n,none⟩=_ from by rw [Nat.zero_add]; exact h.sl n c) rfl (ζr Tryz.func219 rfl ⟨rfl,rfl⟩)))
theorem Xqj {F:Nat→Prop} {w:World} {R:Rm} {M:RmM} (h:Xbh F w R M):Xan Tryz.prog 92 #[rmV R] w (Xbs (.int .i64 (XhV M.pl:Nat)) w):=by
 exact ζe Tryz.func92 Tryz.ntmps92 rfl (ζl h.obj rfl (ζw (Xoh R.P M.pl w h.pool) rfl (ζr Tryz.func92 rfl ⟨rfl,rfl⟩)))
theorem Xqn {F:Nat→Prop} {w:World} {R:Rm} {M:RmM} (h:Xbh F w R M) (k n i:Int):Xan Tryz.prog 203 #[rmV R,.int .i64 k,.int .i64 n,.int .i64 i] w (Xbs (.int .i64 (XpS M k n i)) w):=by
 refine ζe Tryz.func203 Tryz.ntmps203 rfl (ζw (Xqv h k) rfl ?_);unfold rsV XpS;cases a:XpC M k with
 |none =>
  exact ζw (XrH n i w) rfl (ζr Tryz.func203 rfl ⟨rfl,rfl⟩)
 |some x =>
  obtain ⟨j,rfl,d,b⟩:=XpI a;obtain ⟨G,_,c,_⟩:=h.shelf b;exact ζw (XrG (R.S j) G x M.pl n i w c) rfl (ζr Tryz.func203 rfl ⟨rfl,rfl⟩)
theorem Xqr {F:Nat→Prop} {w:World} {R:Rm} {M:RmM} (h:Xbh F w R M) (k r:Int) (fk:Nat) (hf:Xan Tryz.prog fk #[rsV R M k] w (Xbs (.int .i64 r) w)):Xan Tryz.prog 209 #[rmV R,.int .i64 k,.func (.func fk) #[] #[]] w (Xbs (.int .i64 r) w):=by
 exact ζe Tryz.func209 Tryz.ntmps209 rfl (ζw (Xqv h k) rfl (ζw hf rfl (ζr Tryz.func209 rfl ⟨rfl,rfl⟩)))
theorem Xql {F:Nat→Prop} {w:World} {R:Rm} {M:RmM} (h:Xbh F w R M) (k:Int):Xan Tryz.prog 136 #[rmV R,.int .i64 k] w (Xbs (.int .i64 (XpO M k:Nat)) w):=by
 have hf:Xan Tryz.prog 210 #[rsV R M k] w (Xbs (.int .i64 (XpO M k:Nat)) w):=by
  unfold rsV XpO;cases a:XpC M k with
  |none=>exact XrD w
  |some x =>
   obtain ⟨j,rfl,d,b⟩:=XpI a;obtain ⟨G,_,c,_⟩:=h.shelf b;exact XrC (R.S j) G x M.pl w c
 exact ζe Tryz.func136 Tryz.ntmps136 rfl (ζw (Xqr h k (XpO M k:Nat) 210 hf) rfl (ζr Tryz.func136 rfl ⟨rfl,rfl⟩))
theorem Xqm {F:Nat→Prop} {w:World} {R:Rm} {M:RmM} (h:Xbh F w R M) (k n i who:Int):Xan Tryz.prog 157 #[rmV R,.int .i64 k,.int .i64 n,.int .i64 i,.int .i64 who] w
 (fun v w'=>v = .int .i64 (XpQ M k n i who)∧Xbi F w w' R (XpP M k n i who)):=by
 refine ζe Tryz.func157 Tryz.ntmps157 rfl (ζw (Xqv h k) rfl ?_);unfold rsV XpQ XpP;cases d:XpC M k with
 |none =>
  exact ζw (XrF n i who w) rfl (ζr Tryz.func157 rfl ⟨rfl,.of h (Chg.refl _ _)⟩)
 |some x =>
  obtain ⟨j,rfl,o,e⟩:=XpI d;obtain ⟨G,_,f,_,a⟩:=h.shelf e;refine ζc rfl (XrE (R.S j) G x M.pl n i who w f) ?_;rintro _ g ⟨rfl,l,b,c⟩;refine ζa rfl ?_;obtain ⟨e1,e2,e3,e4⟩:=Xmu x M.pl n i who;exact ζr Tryz.func157 rfl ⟨rfl,a g G (Xri x n i who) M.pl l b (fun z m => .inl (c z m)) e1 e2 e3 e4⟩
theorem Xqp {F:Nat→Prop} {w:World} {R:Rm} {M:RmM} (h:Xbh F w R M) (k:Int):Xan Tryz.prog 202 #[rmV R,.int .i64 k] w (Grow (.tuple #[.agg (Xp3 M k).toArray,.bool (Xp2 M k)]) w):=by
 refine ζe Tryz.func202 Tryz.ntmps202 rfl (ζn rfl fun b m e1 n g B => ?_);have o:=h.grow g;refine ζw (Xqv o k) rfl ?_;unfold rsV Xp3 Xp2;cases r:XpC M k with
 |none =>
  exact ζv (XrJ m) rfl fun s f=>ζs (f.heap' n) rfl fun t i l p=>ζR Tryz.func202 i rfl ⟨rfl,(g.trans f).since l (fun z u e=>by subst e1; omega)⟩
 |some x =>
  obtain ⟨j,rfl,C,y⟩:=XpI r;obtain ⟨G,_,A,_⟩:=o.shelf y;obtain ⟨pa,pb,pc,pd,ep⟩:∃ a b c d,Xro x=Xn8 a b c d:=by
   unfold Xro;split
   ·exact ⟨_,_,_,_,rfl⟩
   ·exact ⟨_,_,_,_,rfl⟩
  have q:=XrI (R.S j) G x M.pl m A;rw [ep] at q;show Xay _ _ (Xbe (fun v w'=>v = .tuple #[.agg (Xro x).toArray,.bool (Xrn x)]∧_)) _ _ _ _ _
  rw [ep];exact ζv q rfl fun s f=>ζs (f.heap' n) rfl fun t i l p=>ζR Tryz.func202 i rfl ⟨rfl,(g.trans f).since l (fun z u e=>by subst e1; omega)⟩
abbrev Xf5 (w:World) (b:Nat) (e:Int):Prop:=w.heap[b]? = some (.cells ([.int .i64 e]:List Value).toArray 27 (0,0))
theorem XhW {p:PlM} (h:p.Good):XhV p≤1024:=by have:=XnB p.own; have:=h.len; unfold XhV; omega
theorem Xqs {F:Nat→Prop} {w:World} {R:Rm} {M:RmM} (h:Xbh F w R M) (held:Nat) (b:Nat) (E:Int) (hb:Xf5 w b E) (hh:held≤1024):Xao Tryz.prog 256 #[rmV R,.int .i64 (held:Int),.pointer (some ⟨b,0,none⟩)] w
 (fun _ w'=>Xbh F w' R (if E=0 then {M with tot:=XeA M.tot (3+(max (XhV M.pl:Int) held - min (XhV M.pl:Int) held)*4)} else M)∧Chg F w w'):=by
 refine Xao.enter Tryz.func256 rfl Tryz.ntmps256 rfl rfl ?_;have f:=XhW h.pool.good;refine ζa rfl (ζl hb rfl (ζg rfl (fun c => ?_) fun c => ?_))
 ·have a:E≠0:=by simpa using c
  rw [if_neg a];exact ζr Tryz.func256 rfl ⟨h,Chg.refl _ _⟩
 ·have a:E=0:=by simpa using c
  rw [if_pos a];refine ζw (Xqj h) rfl (ζw (Xqj h) rfl ?_);have e1:(if (held:Int) > XhV M.pl then (held:Int) else XhV M.pl)=max (XhV M.pl:Int) held:=by split <;> omega
  have e2:(if (held:Int)<XhV M.pl then (held:Int) else XhV M.pl)=min (XhV M.pl:Int) held:=by split <;> omega
  refine ζj rfl ?_;rw [e1,e2];refine ζl h.obj rfl (ζj rfl (ζj rfl (ζc rfl (Xqt h (3+(max (XhV M.pl:Int) held - min (XhV M.pl:Int) held)*4)) ?_)));rintro _ g ⟨e,d⟩;exact ζa rfl (ζr Tryz.func256 rfl ⟨e,d⟩)
theorem Xp9 {M:RmM} {k:Nat} {x:Sm} (h:M.shs[k]? = some x):Xp8 M k x M.pl=M:=by
 have a:=(List.getElem?_eq_some_iff.1 h).1;have e:=(List.getElem?_eq_some_iff.1 h).2;have:M.shs.set k x=M.shs:=by rw [← e]; exact List.set_getElem_self a
 show RmM.mk (M.shs.set k x) M.pl M.lg M.tot=M
 rw [this]
theorem Xbh.wide {F F':Nat→Prop} {w:World} {R:Rm} {M:RmM} (h:Xbh F w R M) (hc:∀ z,F' z→F z∨w.heap.size≤z):∀ z,z<w.heap.size→F' z→F z:=fun z b a=>(hc z a).elim id (fun h=>by omega)
theorem Xqu {F F2:Nat→Prop} {w w1 w3 w4:World} {R:Rm} {M2:RmM} (hc01:Chg XaX w w1) (hF2:∀ z,F2 z→F z∨w1.heap.size≤z) (hc13:Chg F w w3) (h4:Xbh F2 w4 R M2) (hc34:Chg F2 w3 w4):Xbi F w w4 R M2:=by
 have c:=hc01.size;refine ⟨F2,h4,fun z a=>(hF2 z a).imp id (fun h=>by omega),hc13.since hc34 fun z a b => ?_⟩;rcases hF2 z b with h | h
 ·exact h
 ·omega
theorem Xqq {F:Nat→Prop} {w:World} {R:Rm} {M:RmM} (h:Xbh F w R M) (k who:Int):Xan Tryz.prog 204 #[rmV R,.int .i64 k,.int .i64 who] w
 (fun v w'=>v = .tuple #[.int .i64 (Xqd M k who),.int .i64 (Xqb M k who),.int .i64 (Xqc M k who)]∧Xbi F w w' R (Xqa M k who)):=by
 have p:=XhW h.pool.good;refine ζe Tryz.func204 Tryz.ntmps204 rfl (ζn rfl fun b I e1 m a a1 => ?_);have n:=h.grow a;have f:¬ F b:=fun d=>by have:=h.low b d; omega
 refine ζw (Xqj n) rfl (Xay.defer rfl rfl (ζa rfl (ζw (Xqv n k) rfl ?_)));unfold rsV Xqd Xqb Xqc Xqa;cases S:XpC M k with
 |none =>
  refine ζw (XrL who I) rfl (ζs m rfl fun J c q a2 => ?_);have B:=h.note n (XiO m) (by omega) f q (by decide);have g:=Xqs B (XhV M.pl) b 1 c p;refine Xay.retD hTT rfl Tryz.func204 rfl (XiJ (args := [rmV R,.int .i64 (XhV M.pl:Nat),.pointer (some ⟨b,0,none⟩)]) (captured := []) g.fn) (g.mono fun _ T ⟨C,r⟩ => ?_);exact ⟨_,.tmp rfl (.tmp rfl (.one rfl rfl rfl (Xel (r.heap c f)) .nil)),rfl,Xqu a (fun z h => .inl h) ((a.mono fun _ _ h=>h.elim).since q (fun z d e=>by omega)) C r⟩
 |some x =>
  obtain ⟨j,rfl,hj,K⟩:=XpI S;obtain ⟨G,_,L,D,N⟩:=n.shelf K;refine ζc rfl (XrK (R.S j) G x M.pl who I L) ?_;rintro _ J ⟨rfl,G',O,s,P⟩;refine ζa rfl ?_;obtain ⟨e2,e3,e4,e5⟩:=Xuu x M.pl who h.pool.good L.ok.cls;obtain ⟨U,B,t,E⟩:=N J G' (Xrr x M.pl who) (Xrv x M.pl who) O s P e2 e3 e4 e5;have i:¬ U b:=fun d=>(t b d).elim f (fun h=>by have:=Xkj m; omega);have Q:¬ Xcd (R.S j) G x.pg b:=fun d=>f (D b d);have c:=s.heap m Q;refine ζs c rfl fun T u y a3 => ?_;have C:=h.note B (XiO c) (by omega) i y (by decide);have g:=Xqs C (XhV M.pl) b (Xrt x M.pl who) u p;refine Xay.retD hTT rfl Tryz.func204 rfl (XiJ (args := [rmV R,.int .i64 (XhV M.pl:Nat),.pointer (some ⟨b,0,none⟩)]) (captured := []) g.fn) (g.mono fun _ w4 ⟨V,A⟩ => ?_);refine ⟨_,.tmp rfl (.tmp rfl (.one rfl rfl rfl (Xel (A.heap u i)) .nil)),rfl,?_⟩;have H:=((a.mono fun _ _ h=>h.elim).trans E).since y (fun z d e=>by omega);have l:=Xqu a t H V A;simp only [Int.toNat_natCast];by_cases o:Xrt x M.pl who=0
  ·rw [if_pos o] at l ⊢;exact l
  ·rw [if_neg o] at l ⊢;have W:Xrr x M.pl who=x:=by unfold Xrr; rw [if_neg o]
   have t2:Xrv x M.pl who=M.pl:=by unfold Xrv; rw [if_neg o]
   rw [W,t2,Xp9 K] at l;exact l
theorem Xrf {x:Sm} {pl:PlM} {n i:Int} (h:Xrd x n i≠0):Xrc x n i=x∧Xre x pl n i=pl:=by
 unfold Xrd at h;unfold Xrc Xre;cases a:Xsi x.pg n with
 |none=>exact ⟨rfl,rfl⟩
 |some p =>
  rw [a] at h;simp only at h ⊢
  rw [if_neg h,if_neg (fun e=>h e.1)];exact ⟨rfl,rfl⟩
theorem Xqi {F:Nat→Prop} {w:World} {R:Rm} {M:RmM} (h:Xbh F w R M) (k n i:Int):Xan Tryz.prog 208 #[rmV R,.int .i64 k,.int .i64 n,.int .i64 i] w
 (fun v w'=>v = .int .i64 (XpK M k n i)∧Xbi F w w' R (XpJ M k n i)):=by
 have q:=XhW h.pool.good;refine ζe Tryz.func208 Tryz.ntmps208 rfl (ζn rfl fun b L e1 o c a3 => ?_);have p:=h.grow c;have f:¬ F b:=fun a=>by have:=h.low b a; omega
 refine ζw (Xqj p) rfl (Xay.defer rfl rfl (ζa rfl (ζw (Xqv p k) rfl ?_)));unfold rsV XpK XpJ;cases U:XpC M k with
 |none =>
  refine ζw (XrA n i L) rfl (ζs o rfl fun N d r a4 => ?_);have C:=h.note p (XiO o) (by omega) f r (by decide);have g:=Xqs C (XhV M.pl) b 1 d q;refine Xay.retD hTT rfl Tryz.func208 rfl (XiJ (args := [rmV R,.int .i64 (XhV M.pl:Nat),.pointer (some ⟨b,0,none⟩)]) (captured := []) g.fn) (g.mono fun _ V ⟨D,s⟩ => ?_);exact ⟨_,.one rfl rfl rfl (Xel (s.heap d f)) .nil,rfl,Xqu c (fun z h => .inl h) ((c.mono fun _ _ h=>h.elim).since r (fun z a e=>by omega)) D s⟩
 |some x =>
  obtain ⟨j,rfl,hj,O⟩:=XpI U;obtain ⟨G,_,E,H,P⟩:=p.shelf O;refine ζc rfl (Xrz (R.S j) G x M.pl n i L E) ?_;rintro _ N ⟨rfl,Q,t,S⟩;refine ζa rfl ?_;obtain ⟨e2,e3,e4,e5⟩:=Xhd x M.pl n i E.ok E.of;obtain ⟨W,C,u,I⟩:=P N G (Xrc x n i) (Xre x M.pl n i) Q t (fun z a => .inl (S z a)) e2 e3 e4 e5;have l:¬ W b:=fun a=>(u b a).elim f (fun h=>by have:=Xkj o; omega);have T:¬ Xcd (R.S j) G x.pg b:=fun a=>f (H b a);have d:=t.heap o T;refine ζs d rfl fun V y A a5 => ?_;have D:=h.note C (XiO d) (by omega) l A (by decide);have g:=Xqs D (XhV M.pl) b (Xrd x n i) y q;refine Xay.retD hTT rfl Tryz.func208 rfl (XiJ (args := [rmV R,.int .i64 (XhV M.pl:Nat),.pointer (some ⟨b,0,none⟩)]) (captured := []) g.fn) (g.mono fun _ w4 ⟨h4,B⟩ => ?_);refine ⟨_,.one rfl rfl rfl (Xel (B.heap y l)) .nil,rfl,?_⟩;have J:=((c.mono fun _ _ h=>h.elim).trans I).since A (fun z a e=>by omega);have m:=Xqu c u J h4 B;simp only [Int.toNat_natCast];by_cases K:Xrd x n i=0
  ·rw [if_pos K] at m ⊢;exact m
  ·rw [if_neg K] at m ⊢;obtain ⟨t1,t2⟩:=Xrf (pl:=M.pl) K;rw [t1,t2,Xp9 O] at m;exact m
structure XaN (c:Conf):Prop where
 size:64≤c.size∧c.size≤4096
 pages:1≤c.pages∧c.pages≤1024
 n:1≤c.classes.length∧c.classes.length≤16
 keep:c.keep.length=c.classes.length
 most:1≤c.most∧c.most≤2097152
theorem XkN {c:Conf} (h:XkH c=true):XaN c:=by
 unfold XkH at h;simp only [Bool.and_eq_true,decide_eq_true_eq,Xwe] at h;obtain ⟨⟨⟨⟨⟨⟨⟨b,e⟩,f⟩,g,_⟩,_⟩,_⟩,_⟩,i⟩:=h;have k:=Xe4 f;have a:=Xr0.1 b;have hm:Xi0 c≤2097152:=by
  unfold Xi0;rw [if_pos b];have j:c.size / 8≤512:=by omega
  have d:0≤c.size / 8:=by omega
  calc c.size*(c.size / 8)≤4096*(c.size / 8):=Int.mul_le_mul_of_nonneg_right a.2.1 d
   _≤4096*512:=Int.mul_le_mul_of_nonneg_left j (by omega)
   _=2097152:=by omega
 exact ⟨⟨a.1,a.2.1⟩,e,by omega,g,i.1,by omega⟩
theorem Xcf {c:Conf} (h:XaN c) {n:Int} (hn:n≤c.most):0≤Xce n c.size∧Xce n c.size≤2097153:=by
 unfold Xce XkA;have b:=h.size;have hm:=h.most;by_cases a:n<1∨c.size<1
 ·rw [if_pos a]; simp
 ·rw [if_neg a];have d:0≤(n - 1) / c.size:=Int.ediv_nonneg (by omega) (by omega);have e:(n - 1) / c.size≤n - 1:=Int.ediv_le_self _ (by omega);split <;> omega
theorem Xqh {F:Nat→Prop} {w:World} {R:Rm} {M:RmM} (h:Xbh F w R M) (size:Int):Xan Tryz.prog 95 #[rmV R,.int .i64 size] w (Grow (.int .i64 (XpA R.c M size)) w):=by
 have hf:=XkN h.may;have n:=hf.n;have o:=hf.most;refine ζe Tryz.func95 Tryz.ntmps95 rfl (ζg rfl (fun j => ?_) fun j => ?_)
 ·have e:XpA R.c M size=3:=by unfold XpA; rw [if_pos (.inl (of_decide_eq_true j))]
  rw [e];exact ζr Tryz.func95 rfl ⟨rfl,Chg.refl _ _⟩
 ·have p:=of_decide_eq_false j;refine ζl h.obj rfl (ζg rfl (fun k => ?_) fun k => ?_)
  ·have e:XpA R.c M size=3:=by unfold XpA; rw [if_pos (.inr (of_decide_eq_true k))]
   rw [e];exact ζr Tryz.func95 rfl ⟨rfl,Chg.refl _ _⟩
  ·have q:=of_decide_eq_false k;have e3:XpA R.c M size=if (M.pl.free.length:Int)<XpN R.c M size then 5 else 0:=by unfold XpA; rw [if_neg (by omega)]
   rw [e3];refine ζd 16 XaX (by kernel_rfl) rfl fun f=>δl f h.obj rfl (δv f (fun w' i=>Xe6 R.p.ca R.p.cc R.c.classes size w' (h.cls.1.chg i) (by omega)) rfl (δl f h.obj rfl (δw f (fun w' i=>Xeq size R.c.size w' (by omega)) rfl (δn f rfl fun l a => ?_))));have b:=h.grow a;by_cases g:XnI R.c.classes size = -1
   ·have e4:XpN R.c M size=Xce size R.c.size:=by unfold XpN; rw [if_pos g]
    rw [e4];refine ζF rfl (by rw [g]; rfl) (ζl b.obj rfl (ζv (Xof R.P M.pl l b.pool) rfl fun m c=>ζg rfl (fun d => ?_) fun d => ?_))
    ·rw [if_pos (of_decide_eq_true d)];exact ζr Tryz.func95 rfl ⟨rfl,a.trans c⟩
    ·rw [if_neg (of_decide_eq_false d)];exact ζr Tryz.func95 rfl ⟨rfl,a.trans c⟩
   ·have e4:XpN R.c M size=1 - min (XpO M (XnI R.c.classes size):Int) 1:=by unfold XpN; rw [if_neg g]
    rw [e4];refine ζY rfl (by simpa using g) (ζw (Xql b (XnI R.c.classes size)) rfl ?_);have e5:(if (1:Int)<(XpO M (XnI R.c.classes size):Nat) then (1:Int) else (XpO M (XnI R.c.classes size):Nat))=min ((XpO M (XnI R.c.classes size):Nat):Int) 1:=by split <;> omega
    rw [e5];refine ζj rfl (ζl b.obj rfl (ζv (Xof R.P M.pl l b.pool) rfl fun m c=>ζg rfl (fun d => ?_) fun d => ?_))
    ·rw [if_pos (of_decide_eq_true d)];exact ζr Tryz.func95 rfl ⟨rfl,a.trans c⟩
    ·rw [if_neg (of_decide_eq_false d)];exact ζr Tryz.func95 rfl ⟨rfl,a.trans c⟩
theorem Xsa (a a':Option Addr) (c c':Nat) (x y:List Int) (w:World) (hr:Rd .i64 w a x) (hr':Rd .i64 w a' y) (hl:x.length≤9223372036854775807):Xan Tryz.prog 246 #[.slice a x.length c,.slice a' y.length c'] w (Grow (.bool (decide (x=y))) w):=by
 refine ζe Tryz.func246 Tryz.ntmps246 rfl (ζg rfl (fun n => ?_) fun n => ?_)
 ·have q:x.length≠y.length:=by simp at n; omega
  have:x≠y:=fun e=>q (by rw [e]);exact ζr Tryz.func246 rfl ⟨XdW (decide_eq_false this).symm,Chg.refl _ _⟩
 ·have o:x.length=y.length:=by simp at n; omega
  refine Xay.loop (α:=Nat) (fun k => [(0,false,.slice a x.length c),(1,false,.slice a' y.length c'),(12,false,.int .i64 x.length),(13,false,.int .i64 k)])
   (fun k w'=>Chg XaX w w'∧k≤x.length ∧ ∀ j,j<k→x.getD j 0=y.getD j 0) (fun k=>x.length - k) 0 ⟨rfl,rfl,rfl,rfl,trivial⟩ ⟨Chg.refl _ _,Nat.zero_le _,fun _ h=>by omega⟩ ?_
  rintro k A ⟨d,B,f⟩ ih;refine ζa rfl (ζg rfl (fun h => ?_) fun h => ?_)
  ·have l:k<x.length:=by simpa using h
   obtain ⟨b,off,rfl,s⟩:=(hr.chg d) k l;obtain ⟨b',off',rfl,r⟩:=(hr'.chg d) k (by omega);refine ζd 9 XaX (by kernel_rfl) rfl fun g=>δi k g rfl (δk g s rfl (δi k g rfl (δk g r rfl (δn g rfl fun C m=>ζg rfl (fun i => ?_) fun i => ?_))))
   ·have p:x.getD k 0≠y.getD k 0:=by simpa using i
    have:x≠y:=fun e=>p (by rw [e]);exact ζr Tryz.func246 rfl ⟨XdW (decide_eq_false this).symm,d.trans m⟩
   ·have t:x.getD k 0=y.getD k 0:=by simpa using i
    refine ζj rfl ?_;exact ih (k+1) _ _ ⟨d.trans m,l,fun j D=>by
     by_cases e:j=k
     ·subst e; exact t
     ·exact f j (by omega)⟩ (by omega) ⟨rfl,rfl,rfl,rfl,trivial⟩
  ·have z:k=x.length:=by simp at h; omega
   have:x=y:=List.ext_getElem o fun j u v=>by
    have:=f j (by omega);rw [Xg0 u,Xg0 v] at this;exact this
   exact ζr Tryz.func246 rfl ⟨XdW (decide_eq_true this).symm,d⟩
theorem Xr6 (a:Option Addr) (cap:Nat) (x:List Int) (w:World) (hr:Rd .i64 w a x) (hl:x.length≤1048576) (hn:∃ a1,a=some a1):Xan Tryz.prog 85 #[.slice a x.length cap] w
 (fun v w' => ∃ g c,v = .slice (some ⟨g,0,none⟩) x.length c∧w.heap.size≤g∧Rd .i64 w' (some ⟨g,0,none⟩) x∧kd w' g=some (some 3)∧Chg XaX w w'):=by
 have q:maxLen=9223372036854775807:=rfl;obtain ⟨a1,rfl⟩:=hn;refine Xan.enter Tryz.func85 rfl Tryz.ntmps85 rfl rfl ?_;refine ζa rfl ?_;refine Xay.no hTT rfl rfl rfl ?_;refine Xay.buildSlice hTT rfl ?_;intro b m e1 n d r;refine ζa rfl ?_;subst e1;have h:Own w.heap.size 3 1 m (.slice (some ⟨w.heap.size,0,none⟩) 0 0) 0 []:=Own.empty (Nat.le_refl _) n;refine Xay.append (base:=w.heap.size) (xs := []) (news:=x.map (Value.int .i64)) hTT rfl h (by omega) (by simp) (hr.chg d).cells Xn7 ⟨by omega,by show (0+x.length)*8≤_; omega⟩ ?_;intro v s f i j;refine ζa rfl ?_;rw [Nat.zero_add,List.nil_append] at f;have o:=h.since d (Nat.le_refl _) i;rcases f.2 with ⟨e,_⟩ | ⟨g,c,cur,rfl,p,k,t,u,_,l⟩
 ·have:=(j.1.1 e).1; cases this
 ·exact Xay.ret1 hTT rfl Tryz.func85 rfl rfl ⟨g,c,rfl,p,Rd.of_take k (by rw [Nat.mul_one] at l; exact l),XiO k,o⟩
theorem Xsb (k:Nat) (w:World) (hk:0<k) (hb:k≤1048576):Xan Tryz.prog 288 #[.slice none 0 0,.int .i64 (k:Int)] w
 (fun v w'=>Own w.heap.size 3 1 w' v 0 []∧Chg XaX w w'∧v.ownBlock=some w.heap.size∧v ≠ .slice none 0 0):=by
 refine ζe Tryz.func288 Tryz.ntmps288 rfl (ζf rfl (Xay.cap hTT rfl (ζa rfl (ζj rfl (ζj rfl (ζy rfl (Xay.cap hTT rfl (ζa rfl ?_))))))));rw [show (k:Int) - (((0:Nat):Int) - ((0:Nat):Int))=(k:Nat) from by omega];refine Xay.slice hTT rfl (l:=0) (h:=0) (by first | rfl | omega | simp [loV]) (by first | rfl | omega | simp [hiV]) (by omega) (by omega) rfl (Xay.appendZ (k:=k) hTT rfl hk (by show k*8≤_; omega) (by omega) fun cap cur g a d e b c f=>ζa rfl (Xay.slice hTT rfl (l:=0) (h:=0) (by first | rfl | omega | simp [loV]) (by first | rfl | omega | simp [hiV]) (by omega) (by omega) rfl ?_));have es:XrR (some ⟨w.heap.size,0,none⟩) cap 0 1=some ⟨w.heap.size,0,none⟩:=by
  unfold XrR;split
  ·omega
  ·rfl
 show Xay _ _ _ _ _ _ ((4,false,.slice (XrR (some ⟨w.heap.size,0,none⟩) cap 0 1) 0 cap)::_) _
 rw [es];exact ζr Tryz.func288 rfl ⟨⟨rfl,.inr ⟨w.heap.size,cap,cur,rfl,Nat.le_refl _,c,by omega,b,by omega,by simp⟩⟩,a,rfl,by simp⟩
structure Sl where
 a:Option Addr
 cap:Nat
 x:List Int
abbrev slV (l:Sl):Value := .slice l.a l.x.length l.cap
def Xeh (ls:List Sl):List Int:=(ls.map (·.x)).flatten
theorem Xej {ls:List Sl} {i:Nat} (h:i<ls.length):Xeh (ls.take (i+1))=Xeh (ls.take i)++ls[i].x:=by
 unfold Xeh;rw [List.take_add_one,List.getElem?_eq_getElem h,List.map_append,List.flatten_append]
 simp
theorem Xei (ls:List Sl) (i:Nat):(Xeh (ls.take i)).length≤(Xeh ls).length:=by
 have:Xeh ls=Xeh (ls.take i)++Xeh (ls.drop i):=by
  unfold Xeh;rw [← List.flatten_append,← List.map_append,List.take_append_drop]
 rw [this,List.length_append];omega
theorem Xr7 (ob:Nat) (ls:List Sl) (w:World) (h:∀ i (hi:i<ls.length),w.cell? ⟨ob,i,none⟩=some (slV ls[i])) (hr:∀ l ∈ ls,Rd .i64 w l.a l.x) (hn:ls.length≤1024) (hpos:0<(Xeh ls).length) (hb:(Xeh ls).length≤1048576):Xan Tryz.prog 247 #[.slice (some ⟨ob,0,none⟩) ls.length ls.length] w
 (fun v w' => ∃ g c,v = .slice (some ⟨g,0,none⟩) (Xeh ls).length c∧w.heap.size≤g∧Rd .i64 w' (some ⟨g,0,none⟩) (Xeh ls)∧Chg XaX w w'):=by
 have M:maxLen=9223372036854775807:=rfl;refine ζe Tryz.func247 Tryz.ntmps247 rfl ?_;refine Xay.loop (α:=Nat) (fun k => [(0,false,.slice (some ⟨ob,0,none⟩) ls.length ls.length),(3,false,.int .i64 (Xeh (ls.take k)).length),(9,false,.slice (some ⟨ob,0,none⟩) ls.length ls.length),(10,false,.int .i64 ls.length),(11,false,.int .i64 k)])
  (fun k w'=>w'=w∧k≤ls.length) (fun k=>ls.length - k) 0 ⟨rfl,rfl,rfl,rfl,rfl,trivial⟩ ⟨rfl,Nat.zero_le _⟩ ?_
 rintro k m ⟨G,P⟩ ih;subst G;refine ζa rfl (ζg rfl (fun r => ?_) fun r => ?_)
 ·have a:k<ls.length:=by simpa using r
  have t:=Xei ls (k+1);have q:=congrArg List.length (Xej a);rw [List.length_append] at q;refine ζi k rfl (ζk rfl (show m.cell? ⟨ob,0+k,none⟩=_ from by rw [Nat.zero_add]; exact h k a) rfl (ζj rfl (ζf rfl (ζj rfl ?_))));exact ih (k+1) _ _ ⟨rfl,a⟩ (by omega) ⟨rfl,congrArg (fun z=>some (Value.int .i64 z)) (show ((Xeh (ls.take k)).length:Int)+(ls[k].x.length:Int)=((Xeh (ls.take (k+1))).length:Int) from by rw [q]; omega),rfl,rfl,rfl,trivial⟩
 ·have n:k=ls.length:=by simp at r; omega
  subst n;rw [List.take_length];refine ζc rfl (Xsb (Xeh ls).length m hpos hb) ?_;rintro v Q ⟨H,x,N,y⟩;refine ζa rfl ?_;refine Xay.loop (α:=Nat × Value) (fun p => [(6,false,p.2),(25,false,.slice (some ⟨ob,0,none⟩) ls.length ls.length),(26,false,.int .i64 ls.length),(27,false,.int .i64 p.1)])
   (fun p w'=>p.1≤ls.length∧Own m.heap.size 3 1 w' p.2 (Xeh (ls.take p.1)).length ((Xeh (ls.take p.1)).map (Value.int .i64))∧p.2 ≠ .slice none 0 0∧Chg XaX m w') (fun p=>ls.length - p.1) (0,v) ⟨rfl,rfl,rfl,rfl,trivial⟩ ⟨Nat.zero_le _,H,y,x⟩ ?_
  rintro ⟨i,u⟩ I ⟨hi,d,A,f⟩ ih;simp only at hi d A
  refine ζa rfl (ζg rfl (fun s => ?_) fun s => ?_)
  ·have a:i<ls.length:=by simpa using s
   have t:=Xei ls (i+1);have q:=congrArg List.length (Xej a);rw [List.length_append] at q;have o:=(hr ls[i] (List.getElem_mem a)).chg f;refine ζi i rfl (ζk rfl (show I.cell? ⟨ob,0+i,none⟩=_ from by rw [Nat.zero_add]; exact f.cell (h i a) id) rfl ?_);refine Xay.appendA (base:=m.heap.size) (xs:=(Xeh (ls.take i)).map (Value.int .i64)) (news:=ls[i].x.map (Value.int .i64)) hTT rfl d f.size (fun e=>by
    by_cases J:0<ls[i].x.length
    ·obtain ⟨b,off,e',_⟩:=o 0 J;rw [e] at e'; cases e'
    ·omega) (by simp) (fun j u B=>by
    have O:j<ls[i].x.length:=by have:=(List.getElem?_eq_some_iff.1 B).1; simpa using this
    obtain ⟨b,off,e',_⟩:=o 0 (by omega);exact ⟨_,e',(Rd.cells (e'▸o)) j u B⟩) Xn7 ⟨by omega,by show (_+_)*8≤_; omega⟩ ?_
   intro u' R C D E;exact ζa rfl (ζj rfl (ih (i+1,u') _ _ ⟨a,by rw [Xej a,List.length_append,List.map_append]; exact C,fun e=>A (E.1.1 e).1,d.since f (Nat.le_refl _) D⟩ (by simp only; omega) ⟨rfl,rfl,rfl,rfl,trivial⟩))
  ·have n:i=ls.length:=by simp at s; omega
   subst n;rw [List.take_length] at d;obtain ⟨g,c,cur,rfl,K,L,S,T,F⟩:=d.form hpos;exact ζr Tryz.func247 rfl ⟨g,c,rfl,K,Rd.of_take L (by rw [Nat.mul_one] at F; exact F),f⟩
structure Plc where
 cls:Int
 page:Int
 idx:Int
 pa:Option Addr
 pc:Nat
 pages:List Int
def Xoc (q:Plc):List Value := [.int .i64 q.cls,.int .i64 q.page,.int .i64 q.idx,.slice q.pa q.pages.length q.pc]
structure Xa8 (w:World) (q:Plc):Prop where
 rd:Rd .i64 w q.pa q.pages
 len:q.pages.length≤9223372036854775807
abbrev Xob (w:World) (b:Nat) (q:Plc):Prop:=w.heap[b]? = some (.cells (Xoc q).toArray 98 (0,0))
theorem Xa8.grow {w w':World} {q:Plc} (h:Xa8 w q) (hc:Chg XaX w w'):Xa8 w' q:=⟨h.rd.chg hc,h.len⟩
theorem XaI.put {F:Nat→Prop} {w w':World} {lm:Nat} {lg:List (Nat × List Nat)} {n cap:Nat} {r:List Nat} {a:Option Addr} (h:XaI F w lm lg) (hc:Chg (fun z=>z=lm) w w') (hm':∀ m,XaL w lm m→XaL w' lm (XcC m n (.slice a r.length cap))) (hnew:∀ e ∈ lg,e.1≠n)
 (hr:Rd .i64 w' a (Xly r)) (hmine:XaP F w' a):XaI F w' lm (lg ++ [(n,r)]):=by
 have l:=XiQ h;obtain ⟨m,o,p,q,i⟩:=h;have c:=i n fun e he e'=>hnew e he (by omega);refine ⟨_,hm' m o,?_,fun e he => ?_,fun k d => ?_⟩
 ·rw [Xcc,if_neg (Xcn.1 c)];exact List.nodup_append.2 ⟨p,by simp,fun x t y j e=>by
   rw [List.mem_singleton] at j; subst j; subst e;exact Xcn.1 c t⟩
 ·rcases List.mem_append.1 he with he | he
  ·obtain ⟨a',cap',u,v,g⟩:=q e he;have f:∀ b off s,a'=some ⟨b,off,s⟩→b≠lm:=fun b off s e'=>XiU (g b off s e').1 l (by simp);refine ⟨a',cap',by rw [Xco,if_neg (by have:=hnew e he; omega)]; exact u,v.far f hc,fun b off s e'=>⟨XiP hc (g b off s e').1 (f b off s e'),(g b off s e').2⟩⟩
  ·rw [List.mem_singleton] at he; subst he;exact ⟨a,cap,by rw [Xco,if_pos rfl],hr,hmine⟩
 ·rw [Xco,if_neg (fun e=>d (n,r) (by simp) e.symm)];exact i k fun e he=>d e (by simp [he])
theorem XaI.del {F:Nat→Prop} {w w':World} {lm:Nat} {lg:List (Nat × List Nat)} {n:Nat} (h:XaI F w lm lg) (hc:Chg (fun z=>z=lm) w w') (hm':∀ m,XaL w lm m→XaL w' lm (XbZ m n)):XaI F w' lm (Xjt lg n):=by
 have j:=XiQ h;obtain ⟨m,l,c,o,p⟩:=h;refine ⟨_,hm' m l,by rw [Xcb]; exact c.erase _,fun e d => ?_,fun k g => ?_⟩
 ·obtain ⟨d,a⟩:=List.mem_filter.1 d;have q:e.1≠n:=by simpa using a
  obtain ⟨a',cap',r,t,f⟩:=o e d;have a:∀ b off s,a'=some ⟨b,off,s⟩→b≠lm:=fun b off s e'=>XiU (f b off s e').1 j (by simp);exact ⟨a',cap',by rw [Xcl c,if_neg (by omega)]; exact r,t.far a hc,fun b off s e'=>⟨XiP hc (f b off s e').1 (a b off s e'),(f b off s e').2⟩⟩
 ·rw [Xcl c];by_cases e:k=n
  ·rw [if_pos e]
  ·rw [if_neg e];refine p k fun e' i e2 => ?_;by_cases e3:e'.1=n
   ·exact e (by omega)
   ·exact g e' (List.mem_filter.2 ⟨i,by simpa using e3⟩) e2
theorem XrS {a:Option Addr} {cap l sz:Nat} {b off:Nat} {s} (h:XrR a cap l sz=some ⟨b,off,s⟩):∃ off' s',a=some ⟨b,off',s'⟩:=by
 unfold XrR at h;by_cases c:cap=l
 ·rw [if_pos c] at h; exact ⟨off,s,h⟩
 ·rw [if_neg c] at h;cases a with
  |none=>cases h
  |some x =>
   obtain ⟨xb,xo,xs⟩:=x;simp only [Option.map_some,Option.some.injEq] at h;have:xb=b:=by
    have:=congrArg Addr.block h;unfold Addr.add at this;split at this <;> exact this
   subst this;exact ⟨xo,xs,rfl⟩
theorem XmA {l:List Nat} {w:World} {base m:Nat} {v:Value} (h:Own base 3 1 w v m ((Xly l).map (Value.int .i64))) (hm:l.length=m) (hp:0<m):∃ g cap,v = .slice (some ⟨g,0,none⟩) m cap∧base≤g∧m≤cap∧cap≤maxLen∧kd w g=some (some 3)∧Rd .i64 w (some ⟨g,0,none⟩) (Xly l):=by
 obtain ⟨g,cap,cur,e,c,a,d,f,b⟩:=h.form hp;have i:(Xly l).length=m:=by unfold Xly; rw [List.length_map]; exact hm
 exact ⟨g,cap,e,c,d,f,XiO a,Rd.of_take a (by rw [i]; rw [Nat.mul_one] at b; exact b)⟩
theorem Xlz (l r:List Nat):Xly (l++r)=Xly l++Xly r:=by unfold Xly; rw [List.map_append]
theorem XlA (l:List Nat):(Xly l).length=l.length:=by unfold Xly; rw [List.length_map]
def Xa6 (F:Nat→Prop) (w w':World) (R:Rm) (M:RmM) (q:Plc):Prop := ∃ F',Xbh F' w' R M∧(∀ z,F' z→F z∨w.heap.size≤z)∧Chg F w w'∧Xa8 w' q∧Xa0 F' q.pa ∧ ∀ b off s,q.pa=some ⟨b,off,s⟩→w.heap.size≤b∧kd w' b=some (some 3)
def Xoe (q:Plc):PlcM:=⟨q.cls,q.page,q.idx,q.pages⟩
theorem Xqo {F:Nat→Prop} {w:World} {R:Rm} {M:RmM} (h:Xbh F w R M) (who size:Int):Xan Tryz.prog 158 #[rmV R,.int .i64 who,.int .i64 size] w
 (fun v w' => ∃ q:Plc,v = .tuple #[.agg (Xoc q).toArray,.int .i64 (XpY R.c M who size)]∧Xoe q=XpZ R.c M who size∧Xa6 F w w' R (XpX R.c M who size) q):=by
 have d9:maxLen=9223372036854775807:=rfl;have hf:=XkN h.may;have da:=hf.size;have db:=hf.n;have dc:=hf.most;have noq:∀ {F':Nat→Prop} {w':World} (c i j:Int),Xa8 w' ⟨c,i,j,none,0,[]⟩∧Xa0 F' none ∧ ∀ b off s,(none:Option Addr)=some ⟨b,off,s⟩→w.heap.size≤b∧kd w' b=some (some 3):=fun c i j=>⟨⟨Rd.nil _ _ _,by simp⟩,⟨(fun _ _ _ e=>by cases e),(fun _ _ _ e=>by cases e)⟩⟩;refine Xan.enter Tryz.func158 rfl Tryz.ntmps158 rfl rfl ?_;refine ζa rfl ?_;refine Xay.alloc hTT rfl ?_;intro b w1 e1 hb P dd;refine ζa rfl ?_;have B:¬ F b:=fun d=>by have:=h.low b d; omega
 have bl:Chg F w w1:=P.mono fun _ _ h=>h.elim;by_cases u:who<0
 ·have ac:XpY R.c M who size=1∧XpZ R.c M who size=⟨0,0,0,[]⟩∧XpX R.c M who size=M:=by
   unfold XpY XpZ XpX; rw [if_pos u,if_pos u,if_pos u]; exact ⟨rfl,rfl,rfl⟩
  rw [ac.1,ac.2.1,ac.2.2];refine Xay.yes hTT rfl (decide_eq_true u) rfl ?_;refine Xay.build hTT rfl rfl ?_;refine Xay.store hTT rfl hb rfl rfl ?_;intro D Q ad de;refine ζa rfl ?_;have h2:=h.note (h.grow P) (XiO hb) (by omega) B ad (by decide);exact ζq rfl Tryz.func158 (Xbd.cell rfl rfl rfl Q rfl (.tmp rfl .nil)) ⟨⟨0,0,0,none,0,[]⟩,rfl,rfl,F,h2,fun z d => .inl d,bl.since ad (fun z d e=>by omega),noq 0 0 0⟩
 ·refine Xay.no hTT rfl (decide_eq_false u) rfl ?_;refine ζc rfl (Xqh (h.grow P) size) ?_;rintro _ D ⟨rfl,ae⟩;refine ζa rfl ?_;have h2:=(h.grow P).grow ae;have Q:=ae.heap' hb;have af:=P.trans ae;by_cases n:XpA R.c M size=0
  ·have bm:¬ (size<1∨R.c.most<size)∧XpN R.c M size≤M.pl.free.length:=by
    unfold XpA at n;split at n
    ·cases n
    ·split at n
     ·cases n
     ·refine ⟨by assumption,by omega⟩
   have J:¬ (XpA R.c M size≠0):=fun h=>h n;refine Xay.no hTT rfl (by rw [n]; rfl) rfl ?_;refine Xay.loadb hTT rfl h2.obj rfl rfl ?_;refine ζc rfl (Xe6 R.p.ca R.p.cc R.c.classes size D h2.cls.1 (by omega)) ?_;rintro _ w3 ⟨rfl,ag⟩;refine ζa rfl ?_;have o:=h2.grow ag;have T:=ag.heap' Q;have a1:=af.trans ag;by_cases L:XnI R.c.classes size = -1
   ·have G:XpY R.c M who size=0∧XpZ R.c M who size=⟨-1,(M.pl.free.getD 0 0:Nat),0,Xly (M.pl.free.take (Xce size R.c.size).toNat).tail⟩∧XpX R.c M who size=Xpv M (Xce size R.c.size).toNat:=by
     exact ⟨by unfold XpY; rw [if_neg u,if_neg J,if_pos L],by unfold XpZ; rw [if_neg u,if_neg J,if_pos L],by unfold XpX; rw [if_neg u,if_neg J,if_pos L]⟩
    rw [G.1,G.2.1,G.2.2];have co:XpN R.c M size=Xce size R.c.size:=by unfold XpN; rw [if_pos L]
    have df:2≤Xce size R.c.size:=by
     have h0:0≤(size - 1) / R.c.size:=Int.ediv_nonneg (by omega) (by omega);have h9:(size - 1) / R.c.size≤size - 1:=Int.ediv_le_self _ (by omega);have e4:XkA size R.c.size=(size - 1) / R.c.size+1:=by unfold XkA; rw [if_neg (by omega)]
     unfold Xce;rw [e4,if_neg (by omega)];omega
    obtain ⟨many,b3⟩:=Int.eq_ofNat_of_zero_le (show 0≤Xce size R.c.size by omega);have dg:2≤many:=by omega
    have K:many≤M.pl.free.length:=by have:=bm.2; omega
    have dh:M.pl.free.length≤1024:=by have:=h.pool.good.many; have:=h.pool.good.len; omega
    refine Xay.no hTT rfl (by rw [L]; rfl) rfl ?_;refine Xay.loadb hTT rfl o.obj rfl rfl ?_;refine ζc rfl (Xeq size R.c.size w3 (by omega)) ?_;rintro _ _ ⟨rfl,rfl⟩;refine ζa rfl ?_;rw [b3,Int.toNat_natCast];have ah:¬ XnN R.P R.rb:=fun d=>h.rf (h.pf _ d);refine Xay.loop (α:=Nat × Value) (fun p => [(0,false,rmV R),(6,false,.pointer (some ⟨b,0,none⟩)),(13,false,p.2),(58,false,.int .i64 many),(59,false,.int .i64 p.1)])
     (fun p w'=>p.1≤many∧Own w3.heap.size 3 1 w' p.2 p.1 ((Xly (M.pl.free.take p.1)).map (Value.int .i64))∧Xa9 w' R.P (Xn0 M.pl (M.shs.length:Nat) p.1)∧Chg (XnN R.P) w3 w') (fun p=>many - p.1) (0,.slice none 0 0) ⟨rfl,rfl,rfl,rfl,rfl,trivial⟩ ⟨Nat.zero_le _,⟨rfl,.inl ⟨rfl,rfl⟩⟩,o.pool,Chg.refl _ _⟩ ?_
    rintro ⟨i,v⟩ w4 ⟨hi,a4,ai,r⟩ ih;simp only at hi a4 ai
    refine ζa rfl ?_;refine Xay.fork hTT rfl rfl rfl (fun aj => ?_) (fun aj => ?_)
    ·have c0:i<many:=by simpa using aj
     have ba:i<M.pl.free.length:=by omega
     obtain ⟨q1,q2,q3,q4,q5⟩:=Xn2 (who:=(M.shs.length:Nat)) (by omega) h.pool.good i (by omega);have b4:(Xn0 M.pl (M.shs.length:Nat) i).free=M.pl.free[i]::M.pl.free.drop (i+1):=by rw [q2]; exact List.drop_eq_getElem_cons ba
     obtain ⟨t1,t2,t3⟩:=XnZ (who:=(M.shs.length:Nat)) (by omega) b4;have hn:=h.ok.n;have E:=r.heap o.obj ah;refine Xay.drawn (q:=16) (XnN R.P) hTT Xk3 (by kernel_rfl) rfl ?_;intro f;refine Xaq.loadb hTT f rfl E (by first | exact fun h=>h | (intro h; omega) | assumption) rfl rfl ?_;refine Xaq.loadb hTT f rfl E (by first | exact fun h=>h | (intro h; omega) | assumption) rfl rfl ?_;refine Xaq.turn1 f rfl ?_;intro w5 t;have hd:=Xoj R.P _ (M.shs.length:Nat) w5 (ai.grow t);rw [t1,t2] at hd;rw [hn] at hd;refine XbO.call rfl hd.fn (Post:=fun v D=>v = .tuple #[.int .i64 (M.pl.free[i]:Nat),.int .i64 0]∧Xa9 D R.P (Xn0 M.pl (M.shs.length:Nat) (i+1))∧Chg (XnN R.P) w5 D) (fun h0=>hd.mono fun v D hp=>⟨h0.trans hp.2.2,hp.1,by rw [hn]; exact hp.2.1,hp.2.2⟩) ?_;rintro _ w6 _ ⟨rfl,al,A⟩;refine Xaq.adv hTT f rfl ?_;refine Xaq.nil f ?_;intro w7 C;refine ζa rfl ?_;refine Xay.buildSlice hTT rfl ?_;intro b8 N e8 U bb di;refine ζa rfl ?_;have a3:Chg (XnN R.P) w4 N:=(((t.mono fun _ _ h=>h.elim).trans A).trans (C.mono fun _ _ h=>h.elim)).trans (bb.mono fun _ _ h=>h.elim);have cv:=o.pool.lt;have a5:=a4.chg a3 (fun z d hP=>by
      have dj:=(World.ownsRow.lt a4 z d.symm).1;rcases hP with e | e <;> omega)
     have bo:w3.heap.size≤N.heap.size:=(r.trans a3).size;refine Xay.append (base:=w3.heap.size) (xs:=(Xly (M.pl.free.take i)).map (Value.int .i64)) (news := [.int .i64 (M.pl.free[i]:Nat)]) hTT rfl a5 bo (by simp) (Xem U) (by simp [Value.oneCell']) ⟨by omega,by show (i+1)*8≤_; omega⟩ ?_;intro v9 w9 c7 bc dk;refine ζa rfl ?_;refine Xay.arith hTT rfl (w64 (by omega)) rfl ?_;exact ih (i+1,v9) _ _ ⟨c0,by
      have e:(Xly (M.pl.free.take (i+1))).map (Value.int .i64)=(Xly (M.pl.free.take i)).map (Value.int .i64) ++ [.int .i64 (M.pl.free[i]:Nat)]:=by
       rw [List.take_add_one,List.getElem?_eq_getElem ba,Xlz,List.map_append]; rfl
      rw [e]; exact c7,(al.grow (C.trans bb)).chg bc (fun e=>by have:=(World.ownsRow.lt a5 _ e.symm).1; omega) (fun e=>by have:=(World.ownsRow.lt a5 _ e.symm).1; omega),(r.trans a3).since bc (fun z d e=>by have:=(World.ownsRow.lt a5 z e.symm).1; omega)⟩ (by simp only; omega) ⟨rfl,rfl,rfl,rfl,rfl,trivial⟩
    ·have bp:i=many:=by simp at aj; omega
     subst bp;have am:(M.pl.free.take i).length=i:=by rw [List.length_take]; omega
     obtain ⟨g,cap,rfl,hg,cz,dl,c8,bd⟩:=XmA a4 am (by omega);have a6:¬ F g:=fun d=>by have:=o.low g d; omega
     have V:∀ {w':World},Rd .i64 w' (some ⟨g,0,none⟩) (Xly (M.pl.free.take i))→w'.cell? ⟨g,0+0,none⟩=some (.int .i64 (M.pl.free.getD 0 0:Nat)):=fun {w'} hr=>by
      obtain ⟨b',off',e',hc⟩:=hr 0 (by rw [XlA]; omega);cases e'
      have e:(Xly (M.pl.free.take i)).getD 0 0=((M.pl.free.getD 0 0:Nat):Int):=by
       cases an:M.pl.free with
       |nil=>rw [an] at K; simp at K; omega
       |cons x y =>
        obtain ⟨j,rfl⟩:∃ j,i=j+1:=⟨i - 1,by omega⟩;rfl
      rw [e] at hc;exact hc
     have W:∀ {w':World},Rd .i64 w' (some ⟨g,0,none⟩) (Xly (M.pl.free.take i))→Rd .i64 w' (XrR (some ⟨g,0,none⟩) cap 1 1) (Xly (M.pl.free.take i).tail):=fun {w'} hr=>by
      have:=hr.shift (cap:=cap) (l:=1) (m:=i - 1) (by rw [XlA]; omega) (by rw [XlA]; omega);have e:((Xly (M.pl.free.take i)).drop 1).take (i - 1)=Xly (M.pl.free.take i).tail:=by
       have e1:(Xly (M.pl.free.take i)).drop 1=Xly (M.pl.free.take i).tail:=by unfold Xly; rw [List.drop_one,List.map_tail]
       rw [e1];exact List.take_of_length_le (by rw [XlA,List.length_tail]; omega)
      rw [e] at this;exact this
     have dm:¬ R.rb=R.lm:=fun e=>h.rf (e▸h.lf);have be:¬ g=R.lm:=fun e=>a6 (e▸h.lf);have E:=r.heap o.obj ah;refine Xay.drawn (q:=10) (fun z=>z=R.lm) hTT Xk3 (by kernel_rfl) rfl ?_;intro f;refine Xaq.loadb hTT f rfl E (by first | exact fun h=>h | (intro h; omega) | assumption) rfl rfl ?_;refine Xaq.index hTT f rfl (j:=0) (by omega) (by omega) (by first | rfl | omega | (simp; done) | (simp; omega)) rfl ?_;refine Xaq.load hTT f rfl (V bd) (by first | exact fun h=>h | (intro h; omega) | assumption) rfl ?_;refine Xaq.slice hTT f rfl (l:=1) (h:=i) (by first | rfl | omega | simp [loV]) (by first | rfl | omega | simp [hiV]) (by omega) (by omega) rfl ?_;refine Xaq.turn1 f rfl ?_;intro w5 t;have bf:=o.lg.chg r (fun z _ d => .inl (o.pf z d)) (fun d=>by
      have kl:=XiQ o.lg;have kp:=o.pool.kds;rcases d with e | e
      ·exact XiU kl kp.1 (by simp) e
      ·exact XiU kl kp.2 (by simp) e)
     have a7:=bf.chg t (fun _ _ h=>h.elim) id;obtain ⟨m,hm,_⟩:=a7;have a7:=bf.chg t (fun _ _ h=>h.elim) id;refine XbO.mapset hTT f rfl (hm) (by first | (intro h; exact rfl) | (intro h; omega)) rfl ?_;intro w6 ca A dn;refine Xaq.nil f ?_;intro w7 C;refine ζa rfl ?_;have ao:kd w6 g=some (some 3):=XiP A (XiP t c8 id) be;have ap:Rd .i64 w6 (some ⟨g,0,none⟩) (Xly (M.pl.free.take i)):=(bd.chg t).far (fun b' off s e=>by cases e; exact be) A;have b7:∀ {w':World},kd w' g=some (some 3)→XaP (R.FX F) w' (XrR (some ⟨g,0,none⟩) cap 1 1):=fun {w'} hk b' off s e=>by
      obtain ⟨_,_,e'⟩:=XrS e;cases e'
      exact ⟨hk,fun d=>d.elim a6 (fun hx=>by have:=(o.xl _ hx).1; omega)⟩
     have a0:(M.pl.free.take i).tail.length=i - 1:=by rw [List.length_tail,am]
     have aq:M.pl.free.getD 0 0 ∈ M.pl.free:=by
      cases an:M.pl.free with
      |nil=>rw [an] at K; simp at K; omega
      |cons x y=>simp
     have cb:XaI (R.FX F) w6 R.lm (M.lg ++ [(M.pl.free.getD 0 0,(M.pl.free.take i).tail)]):=a7.put (cap:=cap - 1) (a:=XrR (some ⟨g,0,none⟩) cap 1 1) A (fun m' h'=>by
      rw [h'.uniq hm,a0];exact ca) (fun e he e'=>by
       have h8:=(h.ok.lg e.1 (XkP he (by simp))).2;have h9:=(h.pool.good.free _ aq).2;rw [e'] at h8;omega) (W ap) (b7 ao)
     have bg:=XiQ a7;have au:=ai.grow t;have al:Xa9 w6 R.P (Xn0 M.pl (M.shs.length:Nat) i):=au.chg A (XiU au.kds.1 bg (by simp)) (XiU au.kds.2 bg (by simp));have cc:=h.ok.big h.pool.good (show 1≤i by omega) K;have h6:=o.swap (pl':=Xn0 M.pl (M.shs.length:Nat) i) (lg':=M.lg ++ [(M.pl.free.getD 0 0,(M.pl.free.take i).tail)]) {cc with tot:=h.ok.tot} (((r.mono fun _ _ h => .inl h).trans (t.mono fun _ _ h=>h.elim)).trans (A.mono fun _ _ h => .inr h)) al cb (fun k x hx cd=>Xn1 (by omega) h.pool.good K (by have:=(h.ok.each k x hx).1; omega) cd);have h7:=h6.grow C;refine Xay.loadb hTT rfl h7.obj rfl rfl ?_;refine Xay.arith hTT rfl (w64 (by omega)) rfl ?_;refine Xay.arith hTT rfl (w64 (by omega)) rfl ?_;refine Xay.arith hTT rfl (w64 (by omega)) rfl ?_;refine Xay.arith hTT rfl (w64 (by omega)) rfl ?_;rw [show ((i:Nat):Int)*4+(((i:Nat):Int) - 1)*1=(i:Int)*4+((i:Int) - 1) from by omega];refine ζc rfl (Xqt h7 ((i:Int)*4+((i:Int) - 1))) ?_;rintro _ N ⟨h8,a8⟩;refine ζa rfl ?_;replace h8:Xbh F N R (Xpv M i):=h8;have a9:=r.heap T (fun d=>B (o.pf b d));have cf:=C.heap' (A.heap (t.heap' a9) (fun e=>B (e▸h.lf)));have U:=a8.heap cf B;have av:=(ap.chg C).far (fun b' off s e=>by cases e; exact a6) a8;have bs:=XiP a8 (XiP C ao id) a6;have dp:¬ g=b:=fun e=>by
      have:=XiO U;rw [← e,bs] at this
      revert this; decide
     have d4:=Xkj U;have cg:∀ w',Chg XaX N w'→Xan Tryz.prog 85 #[.slice (XrR (some ⟨g,0,none⟩) cap 1 1) (i - 1) (cap - 1)] w' (fun v D=>Chg (fun z=>z=b) w' D∧Chg XaX N D ∧ ∃ n c2,v = .slice (some ⟨n,0,none⟩) (i - 1) c2∧N.heap.size≤n∧Rd .i64 D (some ⟨n,0,none⟩) (Xly (M.pl.free.take i).tail)∧kd D n=some (some 3)):=fun w' ax=>by
      have hd:=Xr6 (XrR (some ⟨g,0,none⟩) cap 1 1) (cap - 1) (Xly (M.pl.free.take i).tail) w' ((W av).chg ax) (by rw [XlA,a0]; omega) (by unfold XrR; split <;> exact ⟨_,rfl⟩);rw [XlA,a0] at hd;exact hd.mono fun v D ⟨n,c2,q1,q2,q3,q4,q5⟩=>⟨q5.mono fun _ _ h=>h.elim,ax.trans q5,n,c2,q1,by have:=ax.size; omega,q3,q4⟩
     refine Xay.drawn (q:=9) (fun z=>z=b) hTT Xk3 (by kernel_rfl) rfl ?_;intro f;refine Xaq.index hTT f rfl (j:=0) (by omega) (by omega) (by first | rfl | omega | (simp; done) | (simp; omega)) rfl ?_;refine Xaq.load hTT f rfl (V av) (by first | exact fun h=>h | (intro h; omega) | assumption) rfl ?_;refine Xaq.slice hTT f rfl (l:=1) (h:=i) (by first | rfl | omega | simp [loV]) (by first | rfl | omega | simp [hiV]) (by omega) (by omega) rfl ?_;refine Xaq.callQ f rfl rfl (cg) ?_;rintro _ w9 _ ⟨ay,n,c2,rfl,dq,ch,ci⟩;refine Xaq.adv hTT f rfl ?_;refine Xaq.build hTT f rfl rfl ?_;refine Xaq.turn1 f rfl ?_;intro dr H;have az:=(ay.trans H).heap' U;refine XbO.store hTT f rfl az (by first | (intro h; exact rfl) | (intro h; omega)) rfl rfl rfl ?_;intro ds bt O d5;refine Xaq.nil f ?_;intro cj I;refine ζa rfl ?_;have b0:n≠b:=by omega
     have ck:=h.note (h8.grow (ay.trans H)) (XiO az) (by omega) B O (by decide);have cl:=ck.grow I;have bu:=I.heap' bt;have bv:=(((ch.chg H).far (S:=fun z=>z=b) (fun b' off s e=>by cases e; exact b0) O).chg I);have bh:Chg F w N:=((((((a1.mono fun _ _ h=>h.elim).trans (r.mono fun z _ d=>o.pf z d)).trans (t.mono fun _ _ h=>h.elim)).trans (A.mono fun z _ e=>e▸h.lf)).trans (C.mono fun _ _ h=>h.elim)).trans a8);have b9:Chg F w cj:=((bh.trans ((ay.trans H).mono fun _ _ h=>h.elim)).since O (fun z d e=>by omega)).trans (I.mono fun _ _ h=>h.elim);have d6:w.heap.size≤N.heap.size:=bh.size;exact ζq rfl Tryz.func158 (Xbd.cell rfl rfl rfl bu rfl (.tmp rfl .nil)) ⟨⟨-1,(M.pl.free.getD 0 0:Nat),0,some ⟨n,0,none⟩,c2,Xly (M.pl.free.take i).tail⟩,by show Value.tuple #[Value.agg _,_]=Value.tuple #[Value.agg (#[_,_,_,Value.slice _ (Xly (M.pl.free.take i).tail).length _]:Array Value),_]; rw [XlA,a0],rfl,F,cl,fun z d => .inl d,b9,⟨bv,by rw [XlA,a0]; omega⟩,fun b' off s e d=>by cases e; have:=h.low _ d; omega,fun b' off s e=>by cases e; exact ⟨by omega,XiP I (XiP O (XiP H ci id) b0) id⟩⟩
   ·have G:XpY R.c M who size=Xqc M (XnI R.c.classes size) who∧XpZ R.c M who size=⟨XnI R.c.classes size,Xqd M (XnI R.c.classes size) who,Xqb M (XnI R.c.classes size) who,[]⟩∧XpX R.c M who size=Xqa M (XnI R.c.classes size) who:=by
     exact ⟨by unfold XpY; rw [if_neg u,if_neg J,if_neg L],by unfold XpZ; rw [if_neg u,if_neg J,if_neg L],by unfold XpX; rw [if_neg u,if_neg J,if_neg L]⟩
    rw [G.1,G.2.1,G.2.2];refine Xay.yes hTT rfl (by simpa using L) rfl ?_;refine ζc rfl (Xqq o (XnI R.c.classes size) who) ?_;rintro _ w4 ⟨rfl,F4,h4,bi,r⟩;refine ζa rfl ?_;have bw:¬ F4 b:=fun d=>(bi b d).elim B (fun h=>by have:=Xkj T; omega);have a9:=r.heap T B;refine Xay.build hTT rfl rfl ?_;refine Xay.store hTT rfl a9 rfl rfl ?_;intro w5 cn bj dt;refine ζa rfl ?_;have h5:=h.note h4 (XiO a9) (by omega) bw bj (by decide);exact ζq rfl Tryz.func158 (Xbd.cell rfl rfl rfl cn rfl (.tmp rfl .nil)) ⟨⟨XnI R.c.classes size,Xqd M (XnI R.c.classes size) who,Xqb M (XnI R.c.classes size) who,none,0,[]⟩,rfl,rfl,F4,h5,(fun z d=>(bi z d).imp id (fun h=>by have:=a1.size; omega)),((a1.mono fun _ _ h=>h.elim).trans r).since bj (fun z d e=>by omega),noq _ _ _⟩
  ·have b1:XpY R.c M who size=XpA R.c M size∧XpZ R.c M who size=⟨0,0,0,[]⟩∧XpX R.c M who size=M:=by
    unfold XpY XpZ XpX; rw [if_neg u,if_neg u,if_neg u,if_pos n,if_pos n,if_pos n]; exact ⟨rfl,rfl,rfl⟩
   rw [b1.1,b1.2.1,b1.2.2];refine Xay.yes hTT rfl (by simpa using n) rfl ?_;refine Xay.build hTT rfl rfl ?_;refine Xay.store hTT rfl Q rfl rfl ?_;intro w3 T b2 du;refine ζa rfl ?_;have o:=h.note h2 (XiO Q) (by omega) B b2 (by decide);exact ζq rfl Tryz.func158 (Xbd.cell rfl rfl rfl T rfl (.tmp rfl .nil)) ⟨⟨0,0,0,none,0,[]⟩,rfl,rfl,F,o,fun z d => .inl d,(af.mono fun _ _ h=>h.elim).since b2 (fun z d e=>by omega),noq 0 0 0⟩
theorem Xjx {F:Nat→Prop} {w:World} {lm:Nat} {lg:List (Nat × List Nat)} (h:XaI F w lm lg):∃ m,XaL w lm m∧(∀ n:Int,Xjw lg n=none→Xcj m n=none) ∧ ∀ (n:Nat) r,(n,r) ∈ lg → ∃ a cap,Xcj m n=some (.slice a r.length cap)∧Rd .i64 w a (Xly r)∧XaP F w a:=by
 obtain ⟨m,b,i,c,d⟩:=h;exact ⟨m,b,fun n f=>d n fun e g=>Xjy f e g,fun n r hm=>c _ hm⟩
theorem Xqg {F:Nat→Prop} {w:World} {R:Rm} {M:RmM} (h:Xbh F w R M) (q:Plc) (hq:Xa8 w q):Xan Tryz.prog 191 #[rmV R,.agg (Xoc q).toArray] w
 (fun v w'=>v = .int .i64 (Xpx M (Xoe q))∧Xbi F w w' R (Xpw M (Xoe q))):=by
 have c3:maxLen=9223372036854775807:=rfl;refine Xan.enter Tryz.func191 rfl Tryz.ntmps191 rfl rfl ?_;refine ζa rfl ?_;refine Xay.alloc hTT rfl ?_;intro b w1 e1 D a0 c4;refine ζa rfl ?_;have b3:¬ F b:=fun c=>by have:=h.low b c; omega
 have S:=h.grow a0;replace D:w1.heap[b]? = some (.cells (Xoc q).toArray 98 (0,0)):=D;have P:Chg F w w1:=a0.mono fun _ _ h=>h.elim;refine Xay.loadb hTT rfl D rfl rfl ?_;by_cases E:q.cls = -1
 ·have eD:Xpx M (Xoe q)=(match Xjw M.lg q.page with | none=>1 | some r=>if Xly r=q.pages then 0 else 1)∧Xpw M (Xoe q)=(match Xjw M.lg q.page with | none=>M | some r=>if Xly r=q.pages then XpM M q.page.toNat r else M):=by
   unfold Xpx Xpw Xoe;exact ⟨if_neg (fun h=>h E),if_neg (fun h=>h E)⟩
  rw [eD.1,eD.2];refine Xay.no hTT rfl (by simp [E]) rfl ?_;obtain ⟨m,hm,b4,a8⟩:=Xjx S.lg;cases hg:Xjw M.lg q.page with
  |none =>
   simp only
   refine Xay.drawn (q:=12) XaX hTT Xk3 (by kernel_rfl) rfl ?_;intro f;refine Xaq.loadb hTT f rfl S.obj (by first | exact fun h=>h | (intro h; omega) | assumption) rfl rfl ?_;refine Xaq.loadb hTT f rfl D (by first | exact fun h=>h | (intro h; omega) | assumption) rfl rfl ?_;refine Xaq.lookup hTT f rfl (hm) (by first | (intro b h; cases h; assumption) | (intro b h hs; cases h; omega)) ((show Xj6 m _ _ true = .tuple #[.slice none 0 0,.bool false] from by unfold Xj6; rw [b4 _ hg]; rfl)) rfl ?_;refine Xaq.nil f ?_;intro w2 d;refine ζa rfl ?_;refine Xay.yes hTT rfl rfl rfl ?_;exact Xay.ret1 hTT rfl Tryz.func191 rfl rfl ⟨rfl,.of (S.grow d) (P.trans (d.mono fun _ _ h=>h.elim))⟩
  |some r =>
   simp only
   obtain ⟨n,hn,o⟩:=Xjz hg;obtain ⟨a,cap,aa,ae,ab⟩:=a8 n r o;refine Xay.drawn (q:=12) XaX hTT Xk3 (by kernel_rfl) rfl ?_;intro f;refine Xaq.loadb hTT f rfl S.obj (by first | exact fun h=>h | (intro h; omega) | assumption) rfl rfl ?_;refine Xaq.loadb hTT f rfl D (by first | exact fun h=>h | (intro h; omega) | assumption) rfl rfl ?_;refine Xaq.lookup hTT f rfl (hm) (by first | (intro b h; cases h; assumption) | (intro b h hs; cases h; omega)) ((show Xj6 m _ _ true = .tuple #[.slice a r.length cap,.bool true] from by unfold Xj6; rw [hn,aa]; rfl)) rfl ?_;refine Xaq.nil f ?_;intro w2 d;refine ζa rfl ?_;refine Xay.no hTT rfl rfl rfl ?_;have h2:=S.grow d;have af:=d.heap' D;have c5:r.length≤1024:=by
    obtain ⟨_,_,p3,_⟩:=XnT (l:=n::r) h.pool.good (by
     obtain ⟨A,B,eA,_⟩:=Xju h.ok.nd o;have e:Xjr M.lg=Xjr A++((n::r)++Xjr B):=by rw [eA,Xjs]; rfl
     have u:=h.ok.nd;rw [e] at u;exact (List.nodup_append.1 (List.nodup_append.1 u).2.1).1) (fun m t=>by
     obtain ⟨E,g2⟩:=h.ok.lg m (XkP o t);exact ⟨E,by omega⟩)
    have:=XhW h.pool.good;simp only [List.length_cons] at p3;omega
   have hd:=Xsa a q.pa cap q.pc (Xly r) q.pages w2 (ae.chg d) ((hq.rd.chg a0).chg d) (by rw [XlA]; omega);rw [XlA] at hd;refine Xay.loadb hTT rfl af rfl rfl ?_;refine ζc rfl (hd) ?_;rintro _ w3 ⟨rfl,G⟩;refine ζa rfl ?_;have H:=h2.grow G;have ag:=G.heap' af;have a1:=d.trans G;by_cases T:Xly r=q.pages
   ·rw [if_pos T,if_pos T,hn,Int.toNat_natCast];refine Xay.no hTT rfl (by rw [decide_eq_true T]; rfl) rfl ?_;have bu:¬ R.rb=R.lm:=fun e=>h.rf (e▸h.lf);have b9:¬ b=R.lm:=fun e=>b3 (e▸h.lf);refine Xay.drawn (q:=7) (fun z=>z=R.lm) hTT Xk3 (by kernel_rfl) rfl ?_;intro f;refine Xaq.loadb hTT f rfl H.obj (by first | exact fun h=>h | (intro h; omega) | assumption) rfl rfl ?_;refine Xaq.loadb hTT f rfl ag (by first | exact fun h=>h | (intro h; omega) | assumption) rfl rfl ?_;refine Xaq.turn1 f rfl ?_;intro w4 C;have U:=H.grow C;obtain ⟨m4,ah,_⟩:=U.lg;refine XbO.mapdel hTT f rfl (ah) (by first | (intro h; exact rfl) | (intro h; omega)) rfl ?_;intro w5 ba I c6;refine Xaq.nil f ?_;intro w6 ai;refine ζa rfl ?_;have bb:=ai.heap' (I.heap (C.heap' ag) b9);refine Xay.loadb hTT rfl bb rfl rfl ?_;refine Xay.buildSlice hTT rfl ?_;intro b7 w7 e7 bc bd c7;refine ζa rfl ?_;refine Xay.buildSlice hTT rfl ?_;intro ob w8 e8 a2 aj c8;refine ζa rfl ?_;have be:XaI (R.FX F) w5 R.lm (Xjt M.lg n):=U.lg.del I (fun m' h'=>by
     rw [h'.uniq ah,← hn];exact ba)
    have aw:Chg XaX w6 w8:=bd.trans aj;have y:Chg XaX w5 w8:=ai.trans aw;have bf:=be.chg y (fun _ _ h=>h.elim) id;have a3:=XiQ U.lg;have bg:Xa9 w8 R.P M.pl:=(U.pool.chg I (XiU U.pool.kds.1 a3 (by simp)) (XiU U.pool.kds.2 a3 (by simp))).grow y;have bh:Rd .i64 w5 a (Xly r):=(((ae.chg d).chg G).chg C).far (fun b' off s e=>by
     have hk:=(ab b' off s e).1;exact XiU (XiP C (XiP G (XiP d hk id) id) id) a3 (by simp)) I
    have bj:=bh.chg y
    let ls:List Sl := [⟨some ⟨b7,0,none⟩,1,[(n:Int)]⟩,⟨a,cap,Xly r⟩]
    have a4:Xeh ls=Xly (n::r):=by show [(n:Int)]++(Xly r ++ [])=_; rw [List.append_nil]; rfl
    have bk:(Xeh ls).length=r.length+1:=by rw [a4,XlA]; rfl
    have ak:=Xr7 ob ls w8 (fun i V=>by
     replace V:i<2:=V;rcases (show i=0∨i=1 by omega) with rfl | rfl
     ·rw [Xel a2]; rfl
     ·rw [Xel a2];show some (Value.slice a r.length cap)=some (Value.slice a (Xly r).length cap)
      rw [XlA]) (fun l hl=>by
     rcases List.mem_cons.1 hl with rfl | hl
     ·have ax:=aj.heap' bc;exact Rd.of_cells fun i V=>by
       have:i=0:=by replace V:i<1:=V; omega
       subst this;rw [Xel ax,hn]; rfl
     ·rw [List.mem_singleton] at hl; subst hl;exact bj) (by show 2≤1024; omega) (by omega) (by omega)
    rw [bk] at ak;refine ζc rfl (ak) ?_;rintro _ w9 ⟨g,c9,rfl,ca,al,a5⟩;refine ζa rfl ?_;rw [a4] at al;have am:=bg.grow a5;have J:Chg (fun z=>XnN R.P z∨z=R.lm) w3 w9:=((((C.mono fun _ _ h=>h.elim).trans (I.mono fun _ _ h => .inr h)).trans (y.mono fun _ _ h=>h.elim)).trans (a5.mono fun _ _ h=>h.elim));have an:∀ z,(XnN R.P z∨z=R.lm)→F z:=fun z c=>c.elim (h.pf z) (fun e=>e▸h.lf);have ad:=J.heap H.obj (fun c=>h.rf (an _ c));have ay:¬ XnN R.P R.rb:=fun c=>h.rf (h.pf _ c);refine Xay.loop (α:=Nat) (fun i => [(0,false,rmV R),(5,false,.slice a r.length cap),(54,false,.slice (some ⟨g,0,none⟩) (r.length+1) c9),(55,false,.int .i64 ((r.length+1:Nat):Int)),(56,false,.int .i64 i)])
     (fun i w'=>i≤r.length+1∧Xa9 w' R.P (XnR M.pl ((n::r).take i))∧Chg (XnN R.P) w9 w') (fun i=>r.length+1 - i) 0 ⟨rfl,rfl,rfl,rfl,rfl,trivial⟩ ⟨Nat.zero_le _,am,Chg.refl _ _⟩ ?_
    rintro i bm ⟨V,K,p⟩ ih;refine ζa rfl ?_;refine Xay.fork hTT rfl rfl rfl (fun a6 => ?_) (fun a6 => ?_)
    ·have ao:i<r.length+1:=by have:=of_decide_eq_true a6; omega
     have L:i<(n::r).length:=ao;have c0:=am.lt;obtain ⟨b',off',e',Q⟩:=al i (by rw [XlA]; exact L);cases e'
     have ev:(Xly (n::r)).getD i 0=((n::r)[i]:Int):=by
      unfold Xly;rw [List.getD_eq_getElem?_getD,List.getElem?_map,List.getElem?_eq_getElem L];rfl
     rw [ev] at Q;have c1:=Xkj a2;have W:=p.cell Q (fun c=>by
      have:=H.pool.lt;have:=C.size;have:=y.size;rcases c with e | e <;> omega)
     refine Xay.index hTT rfl (j:=i) (by omega) (by omega) (by first | rfl | omega | (simp; done) | (simp; omega)) rfl ?_;refine ζk rfl W rfl ?_;refine Xay.loadb hTT rfl (p.heap ad ay) rfl rfl ?_;refine ζc rfl (Xog R.P _ (((n::r)[i]:Nat):Int) bm K) ?_;rintro _ ap ⟨_,az,N⟩;refine ζa rfl ?_;refine Xay.arith hTT rfl (w64 (by omega)) rfl ?_;exact ih (i+1) _ _ ⟨ao,by
      have e:XnR M.pl ((n::r).take (i+1))=XnO (XnR M.pl ((n::r).take i)) (((n::r)[i]:Nat):Int):=by
       rw [List.take_add_one,List.getElem?_eq_getElem L];unfold XnR;rw [List.foldl_append];rfl
      rw [e]; exact az,p.trans N⟩ (by omega) ⟨rfl,rfl,rfl,rfl,rfl,trivial⟩
    ·have bn:i=r.length+1:=by have:=of_decide_eq_false a6; omega
     subst bn;have etk:(n::r).take (r.length+1)=n::r:=List.take_length (l:=n::r);rw [etk] at K;obtain ⟨bo,_⟩:=h.ok.gone h.pool.good o;have b0:=(bf.chg a5 (fun _ _ h=>h.elim) id).chg p (fun z _ c => .inl (h.pf z c)) (fun c=>by
      have aq:=XiQ H.lg;have kp:=H.pool.kds;rcases c with e | e
      ·exact XiU aq kp.1 (by simp) e
      ·exact XiU aq kp.2 (by simp) e)
     have u:(n::r).Nodup:=by
      obtain ⟨A,B,eA,_⟩:=Xju h.ok.nd o;have e:Xjr M.lg=Xjr A++((n::r)++Xjr B):=by rw [eA,Xjs]; rfl
      have u:=h.ok.nd;rw [e] at u;exact (List.nodup_append.1 (List.nodup_append.1 u).2.1).1
     have O:∀ m ∈ n::r,m<M.pl.own.length∧M.pl.own.getD m 0=(M.shs.length:Int):=fun m t=>h.ok.lg m (XkP o t);have ar:=H.swap (pl':=XnR M.pl (n::r)) (lg':=Xjt M.lg n) {bo with tot:=h.ok.tot} (J.trans (p.mono fun _ _ h => .inl h)) K b0 (fun k x hx bq=>by
      have hk:k<M.shs.length:=(List.getElem?_eq_some_iff.1 hx).1;have cb:=(h.ok.each k x hx).1;exact XnS h.pool.good u (fun m t=>⟨(O m t).1,by have:=(O m t).2; omega⟩) bq (fun m t=>by have:=(O m t).2; omega))
     refine Xay.loadb hTT rfl ar.obj rfl rfl ?_;refine Xay.arith hTT rfl (w64 (by omega)) rfl ?_;refine Xay.arith hTT rfl (w64 (by omega)) rfl ?_;refine Xay.arith hTT rfl (w64 (by omega)) rfl ?_;refine Xay.arith hTT rfl (w64 (by omega)) rfl ?_;rw [show ((r.length:Nat):Int)*1=(r.length:Int) from by omega];refine ζc rfl (Xqt ar ((((r.length:Nat):Int)+1)*4+(r.length:Int))) ?_;rintro _ ap ⟨a7,N⟩;refine ζa rfl ?_;replace a7:Xbh F ap R (XpM M n r):=a7;have b1:Chg F w w3:=P.trans (a1.mono fun _ _ h=>h.elim);exact Xay.ret1 hTT rfl Tryz.func191 rfl rfl ⟨rfl,.of a7 (((b1.trans (J.mono fun z _ c=>an z c)).trans (p.mono fun z _ c=>h.pf z c)).trans N)⟩
   ·rw [if_neg T,if_neg T];refine Xay.yes hTT rfl (by rw [decide_eq_false T]; rfl) rfl ?_;exact Xay.ret1 hTT rfl Tryz.func191 rfl rfl ⟨rfl,.of H (P.trans (a1.mono fun _ _ h=>h.elim))⟩
 ·have eD:Xpx M (Xoe q)=XpK M q.cls q.page q.idx∧Xpw M (Xoe q)=XpJ M q.cls q.page q.idx:=by
   unfold Xpx Xpw Xoe;exact ⟨if_pos E,if_pos E⟩
  rw [eD.1,eD.2];refine Xay.yes hTT rfl (by simpa using E) rfl ?_;refine Xay.loadb hTT rfl D rfl rfl ?_;refine Xay.loadb hTT rfl D rfl rfl ?_;refine Xay.loadb hTT rfl D rfl rfl ?_;refine ζc rfl (Xqi S q.cls q.page q.idx) ?_;rintro _ w2 ⟨rfl,hT⟩;refine ζa rfl ?_;exact Xay.ret1 hTT rfl Tryz.func191 rfl rfl ⟨rfl,Xbi.trans (fun z c => .inl c) P hT⟩
theorem Xbv.note {w w':World} {S:Sh} {G:Nat→Pg} {x:Sm} {pl:PlM} (h:Xbv w S G x pl) {eb t:Nat} (hk:kd w eb=some (some t)) (hc:Chg (fun z=>z=eb) w w') (htb:1≠eb)
 (ht:t≠262∧t≠319∧t≠272∧t≠329∧t≠334∧t≠336∧t≠325∧t≠366):Xbv w' S G x pl:=by
 have d:∀ {t':Nat},t≠t'→some (some t)≠some (some t'):=fun h e=>h (Option.some.inj (Option.some.inj e));have kp:=h.pool.kds;have ap:=h.at'.apart hk ht.2.2;exact ⟨h.ok,h.pos,h.of,h.at'.chg hc (fun z e=>e▸ap.1) (fun z e=>e▸ap.2) htb,h.pool.chg hc (XiU kp.1 hk (Ne.symm (d ht.1))) (XiU kp.2 hk (Ne.symm (d ht.2.1)))⟩
theorem Xbv.own {w w':World} {S:Sh} {G:Nat→Pg} {x:Sm} {pl:PlM} (h:Xbv w S G x pl) {base m:Nat} {v:Value} {xs:List Value} (ho:Own base 207 1 w v m xs) (hc:Chg (Xms v) w w') (htb:1<base):Xbv w' S G x pl:=by
 rcases ho.2 with ⟨rfl,_⟩ | ⟨g,cap,cur,rfl,b,a,_⟩
 ·exact h.grow (hc.mono fun z _ e=>by cases e)
 ·exact h.note (XiO a) (hc.mono fun z _ e=>Option.some.inj e) (by omega) (by decide)
def XlK (c:Conf) (n:Nat):List Sm:=(List.range n).map fun k=>XlN (k:Nat) (XdS c (k:Nat)).toNat
def XlH (c:Conf) (tot:Int):RmM:=⟨XlK c c.classes.length,XnU c.pages.toNat,[],tot⟩
theorem XlL {c:Conf} {n k:Nat} {x:Sm} (h:(XlK c n)[k]? = some x):k<n∧x=XlN (k:Nat) (XdS c (k:Nat)).toNat:=by
 unfold XlK at h;rw [List.getElem?_map,Option.map_eq_some_iff] at h;obtain ⟨j,d,e⟩:=h;obtain ⟨a,b⟩:=List.getElem?_eq_some_iff.1 d;simp only [List.length_range] at a;rw [List.getElem_range] at b;subst b;exact ⟨a,e.symm⟩
theorem XlM (c:Conf):∀ n,Xrg (XlK c n)=0
 |0=>rfl
 |n+1=>by
  have:=XlM c n;unfold Xrg XlK at *;rw [List.range_succ,List.map_append,List.map_append,List.sum_append,this];rfl
theorem XdT {c:Conf} (h:XkH c=true) {k:Nat} (hk:k<c.classes.length):1≤XdS c k∧XdS c k≤512:=by
 have hf:=XkN h;have f:=hf.size;have a:Xe2 c.classes c.size=true:=by
  unfold XkH at h;simp only [Bool.and_eq_true,decide_eq_true_eq] at h;exact h.1.1.1.1.1.2
 obtain ⟨d,_,g⟩:=Xe3 a k hk;unfold XdS;rw [if_pos (by omega),Int.toNat_natCast,Xwc (by omega) (by omega)];constructor
 ·exact (Int.le_ediv_iff_mul_le (by omega)).2 (by omega)
 ·have i:c.size / c.classes.getD k 0≤c.size / 8:=by
   refine Int.le_ediv_of_mul_le (by omega) ?_;have j:=Int.ediv_mul_le c.size (b:=c.classes.getD k 0) (by omega);have e:0≤c.size / c.classes.getD k 0:=Int.ediv_nonneg (by omega) (by omega);have l:=Int.mul_le_mul_of_nonneg_left d e;omega
  omega
theorem XlI {c:Conf} (h:XkH c=true) {tot:Int} (ht:0≤tot∧tot≤4611686018427387904):(XlH c tot).Ok c:=by
 have hf:=XkN h;have d:=hf.pages;refine ⟨by show (XlK c _).length=_; unfold XlK; simp,fun k x a => ?_,?_,(fun m hm=>by cases hm),List.nodup_nil,?_,ht⟩
 ·obtain ⟨b,rfl⟩:=XlL a;have:=XdT h b;exact ⟨rfl,by show (((XdS c k).toNat:Nat):Int)=_; omega⟩
 ·show (((List.replicate c.pages.toNat (-1:Int)).length:Nat):Int)=_
  rw [List.length_replicate]; omega
 ·show XhV (XnU c.pages.toNat)=Xrg (XlK c _)+0
  rw [XlM];exact XnC _
theorem Xqk (c:Conf) (p:Xal) (mo:Option Nat) (tot lap:Int) (X:Nat→Prop) (w:World) (hc:Xam w c p) (ht:XbD w) (hX:∀ z,X z→z<w.heap.size∧mo≠some z) (hmo:∀ b,mo=some b→XaO w b tot lap∧Far (fun z=>z=b) w p.ca c.classes∧Far (fun z=>z=b) w p.ka c.keep) (htot:0≤tot∧tot≤4611686018427387904) :
 Xan Tryz.prog 88 #[.agg (Xfl c p).toArray,ptr mo] w (fun v w'=>Chg XaX w w'∧if XkH c=true then ∃ F R,R.c=c∧R.p=p∧R.mo=mo∧v = .tuple #[rmV R,.int .i64 0]∧Xbh F w' R (XlH c tot)∧(∀ z,F z→w.heap.size≤z∨mo=some z)∧R.lap=lap∧R.X=X else v = .tuple #[.pointer none,.int .i64 1]):=by
 have cg:maxLen=9223372036854775807:=rfl;refine ζe Tryz.func88 Tryz.ntmps88 rfl (ζn rfl fun cb w1 e1 ao a7 ch => ?_);refine ζl ao rfl (ζv (Xfo c p w1 (hc.chg a7)) rfl fun w2 Q => ?_);have a8:=Q.heap' ao;by_cases hm:XkH c=true
 ·have em:XkK c=0:=by unfold XkK; rw [if_pos hm]
  have hf:=XkN hm;have ci:=hf.n;have cj:=hf.pages;rw [em];simp only [hm,if_true];refine ζf rfl (ζl a8 rfl ?_);obtain ⟨N,hN⟩:=Int.eq_ofNat_of_zero_le (show 0≤c.pages by omega);rw [hN];refine ζc rfl (Xoi N w2 (by omega)) ?_;rintro _ w3 ⟨P,rfl,⟨ck,cl⟩,aq,a9⟩;refine ζa rfl ?_;have aa:=a9.heap' a8;have bz:=aq.lt;refine ζl aa rfl (Xay.mkmap rfl fun lm w4 e4 bh ab cm=>ζa rfl (ζb rfl (ζn rfl fun rb J e5 ar T cn => ?_)));have co:=Q.size;have cp:=a9.size;have ac:=T.heap' (ab.heap' aa);have K:=(((a7.trans Q).trans a9).trans ab).trans T;have c0:1<w.heap.size:=World.block_lt_of_cell? w _ (ht 0 (by decide));have bi:Xa9 J P (XnU N):=(aq.grow ab).grow T;refine Xay.loadb hTT rfl ac rfl rfl ?_;refine Xay.loop (α:=Nat × Value × List Sh) (fun x => [(2,false,.pointer (some ⟨cb,0,none⟩)),(7,false,plV P),(8,false,.int .i64 0),(9,false,.pointer (some ⟨rb,0,none⟩)),(32,false,.int .i64 c.classes.length),(33,false,.int .i64 x.1)])
   (fun x w'=>x.1≤c.classes.length∧x.2.2.length=x.1∧w'.heap[rb]? = some (.cells (Xfl c p ++ [ptr mo,plV P,x.2.1,.map (some lm)]).toArray 206 (0,0))∧Own J.heap.size 207 1 w' x.2.1 x.1 (x.2.2.map sfV) ∧
    (∀ (k:Nat) (S:Sh),x.2.2[k]? = some S→S.P=P∧(∀ G,Xbv w' S G (XlN (k:Nat) (XdS c (k:Nat)).toNat) (XnU N)) ∧ ∀ G z,Xrb S G [] z→J.heap.size≤z∧z<w'.heap.size) ∧
    (∀ (j k:Nat) (S S':Sh),j<k→x.2.2[j]? = some S→x.2.2[k]? = some S' → ∀ G G' z,Xrb S G [] z → ¬ Xrb S' G' [] z)∧Chg (fun z=>z=rb) J w') (fun x=>c.classes.length - x.1) (0,.slice none 0 0,[]) ⟨rfl,rfl,rfl,rfl,rfl,rfl,trivial⟩ ⟨Nat.zero_le _,rfl,ar,⟨rfl,.inl ⟨rfl,rfl⟩⟩,(fun k S h=>by cases h),(fun j k S S' _ h=>by cases h),Chg.refl _ _⟩ ?_
  rintro ⟨i,v,ls⟩ I ⟨hi,ad,B,U,n,C,r⟩ ih;simp only at hi ad B U n C
  have f:Chg XaX w I:=K.since r (fun z hz e=>by omega);have au:Xa9 I P (XnU N):=bi.chg r (by omega) (by omega);refine ζa rfl ?_;refine Xay.fork hTT rfl rfl rfl (fun ae => ?_) (fun ae => ?_)
  ·have af:i<c.classes.length:=by have:=of_decide_eq_true ae; omega
   have cq:=XdT hm af;obtain ⟨bk,ag⟩:=Int.eq_ofNat_of_zero_le (show 0≤XdS c i by omega);have b4:=r.heap ac (by omega);refine Xay.loads hTT rfl b4 rfl rfl ?_;refine ζc rfl (Xfm c p (i:Nat) I (hc.chg f)) ?_;rintro _ w7 ⟨rfl,V⟩;refine ζa rfl ?_;rw [ag];have b5:=f.trans V;refine ζc rfl (XrB P (XnU N) (i:Nat) bk w7 (ht.grow b5) (by omega) (by omega) (au.grow V)) ?_;rintro _ w8 ⟨S,bj,rfl,av,d,aw⟩;refine ζa rfl ?_;have ah:=V.trans aw;have b6:=ah.heap' B;refine Xay.loadb hTT rfl b6 rfl rfl ?_;refine Xay.buildSlice hTT rfl ?_;intro b9 w9 e9 bl ax cr;refine ζa rfl ?_;have t:=ah.trans ax;have b7:=t.heap' B;have W:=U.chg t (fun _ _ h=>h);have c4:=r.size;have c5:=t.size;refine Xay.append (base:=J.heap.size) (xs:=ls.map sfV) (news := [sfV S]) hTT rfl W (by omega) (by simp) (Xem bl) (by simp [Value.oneCell']) ⟨by omega,by show (i+1)*8≤_; omega⟩ ?_;intro v' cs L D c6;refine ζa rfl ?_;have bu:=Xkj ar;have b8:¬ Xms v rb:=fun e=>by have:=(World.ownsRow.lt W _ e.symm).1; omega
   have a0:=D.heap b7 b8;obtain ⟨g',cap',cur',rfl,_⟩:=L.form (by omega);refine Xay.store hTT rfl a0 rfl rfl ?_;intro ai E M c7;refine ζa rfl ?_;replace E:ai.heap[rb]? = some (.cells (Xfl c p ++ [ptr mo,plV P,.slice (some ⟨g',0,none⟩) (i+1) cap',.map (some lm)]).toArray 206 (0,0)):=E;refine Xay.arith hTT rfl (w64 (by omega)) rfl ?_;have ba:=XiO a0;have bv:=D.size;have ay:∀ {S':Sh} {G:Nat→Pg} {x:Sm} {pl:PlM},Xbv w9 S' G x pl→Xbv ai S' G x pl:=fun h=>(h.own W D (by have:=K.size; omega)).note ba M (by have:=K.size; omega) (by decide);have am:Chg (fun z=>z=rb) J ai:=((r.trans (t.mono fun _ _ h=>h.elim)).since D (fun z hz e=>by have:=(World.ownsRow.lt W _ e.symm).1; omega)).trans M;have c8:=aw.size;have c9:=V.size;have bb:=fun G=>(d G).foot_lt;exact ih (i+1,.slice (some ⟨g',0,none⟩) (i+1) cap',ls ++ [S]) _ _ ⟨af,by simp [ad],E,by
    have:=L.chg M (fun z hz e=>by
     subst e;have:=(World.ownsRow.lt L _ hz.symm).1; omega)
    simpa using this,fun k S' m=>by
    by_cases e:k<ls.length
    ·rw [List.getElem?_append_left e] at m;obtain ⟨a1,a2,a3⟩:=n k S' m;exact ⟨a1,fun G=>ay ((a2 G).grow t),fun G z hz=>by obtain ⟨b1,b2⟩:=a3 G z hz; exact ⟨b1,by omega⟩⟩
    ·rw [List.getElem?_append_right (by omega)] at m;have e2:k=ls.length:=by
      have:=(List.getElem?_eq_some_iff.1 m).1;simp only [List.length_singleton] at this;omega
     subst e2;simp only [Nat.sub_self,List.getElem?_cons_zero,Option.some.injEq] at m;subst m;refine ⟨bj,fun G=>ay ?_,fun G z hz => ?_⟩
     ·rw [ad,ag,Int.toNat_natCast]; exact (d G).grow ax
     ·have g1:=av G z hz;have g2:=bb G z (.inl hz);exact ⟨by omega,by omega⟩,fun j k S1 S2 a4 h1 h2 G G' z hz=>by
    by_cases e:k<ls.length
    ·rw [List.getElem?_append_left e] at h2;rw [List.getElem?_append_left (by omega)] at h1;exact C j k S1 S2 a4 h1 h2 G G' z hz
    ·rw [List.getElem?_append_right (by omega)] at h2;have e2:k=ls.length:=by
      have:=(List.getElem?_eq_some_iff.1 h2).1;simp only [List.length_singleton] at this;omega
     subst e2;simp only [Nat.sub_self,List.getElem?_cons_zero,Option.some.injEq] at h2;subst h2;rw [List.getElem?_append_left a4] at h1;have g1:=((n j S1 h1).2.2 G z hz).2;exact fun u=>by have:=av G' z u; omega,am⟩ (by simp only; omega) ⟨rfl,rfl,rfl,rfl,rfl,rfl,trivial⟩
  ·have bp:i=c.classes.length:=by have:=of_decide_eq_false ae; omega
   subst bp;obtain ⟨g,cap,cur,rfl,ct,az,_⟩:=U.form (by omega);have aj:=World.ownsRow.cells U (g:=g) rfl;have bq:=XiO az;have cu:=Xkj az;have cd:=r.size
   let q:Nat→Pg:=fun _=>⟨0,0,0⟩
   let R:Rm:=⟨rb,c,p,mo,P,g,cap,lm,fun k=>ls.getD k ⟨0,0,⟨0,0,0⟩,P⟩,lap,X⟩
   let F:Nat→Prop:=fun z=>(∃ (k:Nat) (S:Sh),ls[k]? = some S∧Xrb S q [] z)∨XnN P z∨z=lm∨mo=some z
   have o:∀ z,F z→(w.heap.size≤z∧z<I.heap.size)∨mo=some z:=fun z hz=>by
    rcases hz with ⟨k,S,d,hz⟩ | hz | hz | hz
    ·obtain ⟨b1,b2⟩:=(n k S d).2.2 q z hz;exact .inl ⟨by omega,b2⟩
    ·rcases hz with e | e <;> exact .inl ⟨by omega,by omega⟩
    ·exact .inl ⟨by omega,by omega⟩
    ·exact .inr hz
   have O:∀ b,mo=some b→b<w.heap.size:=fun b A=>by
    obtain ⟨hm,_⟩:=hmo b A;exact Xkj hm.1
   have ak:∀ {a:Option Addr} {l:List Int},Rd .i64 w a l→(∀ b,mo=some b→Far (fun z=>z=b) w a l)→Far F I a l:=fun {a l} hr A=>⟨hr.chg f,fun hl b off s e hz=>by
    have af:=hr.block hl e;rcases o b hz with ⟨h,_⟩ | h
    ·omega
    ·exact (A b h).2 hl b off s e rfl⟩
   have a5:∀ (k:Nat) (S:Sh),ls[k]? = some S→R.S k=S:=fun k S h=>by
    show ls.getD k _=S
    rw [List.getD_eq_getElem?_getD,h]; rfl
   have H:∀ (k:Nat),k<c.classes.length → ∃ S,ls[k]? = some S:=fun k m=>⟨_,List.getElem?_eq_getElem (by omega)⟩;have b0:(XlK c c.classes.length).length=c.classes.length:=by unfold XlK; simp
   exact Xay.ret2 hTT rfl Tryz.func88 rfl rfl rfl ⟨f,F,R,rfl,rfl,rfl,rfl,⟨XlI hm htot,by show I.heap[rb]? = some (.cells (rmL R (XlK c c.classes.length).length).toArray _ _); rw [b0]; exact B,ak hc.classes (fun b A=>(hmo b A).2.1),ak hc.keep (fun b A=>(hmo b A).2.2),hm,
    fun b A=>⟨.inr (.inr (.inr A)),by obtain ⟨h,_⟩:=hmo b A; exact h.chg f⟩,fun k m=>by
     replace m:k<(XlK c c.classes.length).length:=m;rw [b0] at m;obtain ⟨S,d⟩:=H k m;have:=aj k (sfV S) (by rw [List.getElem?_map,d]; rfl);rw [XbV] at this;rw [a5 k S d]
     simpa using this,by show Xa9 I P (XnU c.pages.toNat); rw [hN,Int.toNat_natCast]; exact au,fun z hz => .inr (.inl hz),⟨fun _=>q,fun k x hx=>by
     obtain ⟨m,rfl⟩:=XlL hx;obtain ⟨S,d⟩:=H k m;obtain ⟨a1,a2,a3⟩:=n k S d;rw [a5 k S d];refine ⟨a1,by show Xbv I S q _ (XnU c.pages.toNat); rw [hN,Int.toNat_natCast]; exact a2 q,fun z hz=>⟨.inl ⟨k,S,d,hz⟩,fun e => ?_⟩⟩;have:=(a3 q z hz).1;have e':z=lm:=e;omega,fun j k x y a4 hx hy z hz u=>by
     obtain ⟨hj,rfl⟩:=XlL hx;obtain ⟨m,rfl⟩:=XlL hy;obtain ⟨S,d⟩:=H j hj;obtain ⟨S',al⟩:=H k m;rw [a5 j S d] at hz;rw [a5 k S' al] at u;rcases Nat.lt_or_gt_of_ne a4 with h | h
     ·exact C j k S S' h d al q q z hz u
     ·exact C k j S' S h al d q q z u hz⟩,⟨[],(bh.chg T id).chg r (by omega),List.nodup_nil,(fun e he=>by cases he),fun _ _=>rfl⟩,.inr (.inr (.inl rfl)),fun hz=>by
     rcases hz with ⟨k,S,d,hz⟩ | hz | hz | hz
     ·have:=((n k S d).2.2 q _ hz).1;replace this:J.heap.size≤rb:=this;omega
     ·rcases hz with e | e
      ·replace e:rb=P.pb:=e; omega
      ·replace e:rb=P.ab:=e; omega
     ·replace hz:rb=lm:=hz; omega
     ·have:=O _ hz;replace this:rb<w.heap.size:=this;omega,fun hz=>by
     rcases hz with ⟨k,S,d,hz⟩ | hz | hz | hz
     ·have ap:=((n k S d).2.1 q).at'.apart bq (by decide);rcases hz with e | e | e | ⟨e,he,_⟩
      ·exact ap.1.1 e
      ·exact ap.1.2.1 e
      ·exact ap.1.2.2.2 e
      ·cases he
     ·rcases hz with e | e
      ·replace e:g=P.pb:=e; omega
      ·replace e:g=P.ab:=e; omega
     ·replace hz:g=lm:=hz; omega
     ·have:=O _ hz;replace this:g<w.heap.size:=this;omega,fun z hz=>by
     rcases o z hz with ⟨_,h⟩ | h
     ·exact h
     ·have:=O z h; have:=f.size; omega,ht.grow f,fun hz=>by
     rcases o _ hz with ⟨h,_⟩ | h
     ·omega
     ·obtain ⟨bt,_⟩:=hmo _ h;exact Xup ht (fun v e=>by rw [Xel bt.1] at e; simp at e) rfl,fun z hz=>⟨by have:=(hX z hz).1; have:=f.size; omega,fun u=>by
     rcases o z u with ⟨h,_⟩ | h
     ·have:=(hX z hz).1; omega
     ·exact (hX z hz).2 h⟩⟩,fun z hz=>(o z hz).imp (·.1) id,rfl,rfl⟩
 ·have em:XkK c=1:=by unfold XkK; rw [if_neg hm]
  rw [em];simp only [hm];exact ζy rfl (ζr Tryz.func88 rfl ⟨a7.trans Q,rfl⟩)
section
variable {α:Type} {cells:α→List Value} {sz:Nat}
def fl (cells:α→List Value) (xs:List α):List Value:=xs.flatMap cells
theorem Xgv (xs ys:List α):fl cells (xs++ys)=fl cells xs++fl cells ys:=by unfold fl; rw [List.flatMap_append]
theorem XgG (x:α):fl cells [x]=cells x:=by unfold fl; simp
theorem XgE (hl:∀ x,(cells x).length=sz):∀ xs:List α,(fl cells xs).length=xs.length*sz
 |[]=>by simp [fl]
 |x::r=>by
  have:=XgE hl r;unfold fl at *;rw [List.flatMap_cons,List.length_append,this,hl,List.length_cons,Nat.succ_mul];omega
theorem XgA (hl:∀ x,(cells x).length=sz) {j:Nat} (hj:j<sz):∀ (xs:List α) (i:Nat) (x:α),xs[i]? = some x→(fl cells xs)[i*sz+j]? = (cells x)[j]?
 |[],i,x,h=>by simp at h
 |y::r,0,x,h=>by
  cases h
  unfold fl;rw [List.flatMap_cons,Nat.zero_mul,Nat.zero_add,List.getElem?_append_left (by rw [hl]; exact hj)]
 |y::r,i+1,x,h=>by
  have:=XgA hl hj r i x h;unfold fl at *;rw [List.flatMap_cons,List.getElem?_append_right (by rw [hl,Nat.succ_mul]; omega),hl,← this]
  congr 1
  rw [Nat.succ_mul]; omega
theorem Xqy {w:World} {g t:Nat} {fz:Nat × Nat} {xs:List α} {rest:List Value} (h:w.heap[g]? = some (.cells (fl cells xs++rest).toArray t fz)) (hl:∀ x,(cells x).length=sz):Rows cells sz w (some ⟨g,0,none⟩) xs:=fun i x a=>by
 refine ⟨g,0,rfl,fun j v b => ?_⟩;have c:j<sz:=by have:=(List.getElem?_eq_some_iff.1 b).1; rw [hl] at this; exact this
 have d:=(List.getElem?_eq_some_iff.1 a).1;rw [Xel h,Nat.zero_add,List.getElem?_toArray,List.getElem?_append_left,XgA hl c xs i x a]
 ·exact b
 ·rw [XgE hl];have:(i+1)*sz≤xs.length*sz:=Nat.mul_le_mul_right _ d;rw [Nat.succ_mul] at this;omega
theorem Own.rowsN {base t n:Nat} {w:World} {v:Value} {xs:List α} (h:Own base t sz w v n (fl cells xs)) (hl:∀ x,(cells x).length=sz) (hn:xs.length=n) :
 ∃ a cap,v = .slice a xs.length cap∧Rows cells sz w a xs∧ALt w a∧xs.length≤cap ∧ ∀ b off s,a=some ⟨b,off,s⟩→base≤b:=by
 rcases h.2 with ⟨rfl,m⟩ | ⟨g,cap,cur,rfl,j,d,c,k,_,f⟩
 ·have:xs = []:=List.length_eq_zero_iff.1 (by omega);subst this;exact ⟨none,0,rfl,(fun i l hl=>by simp at hl),(by intro b off s e; cases e),Nat.le_refl _,(by intro b off s e; cases e)⟩
 ·subst hn;refine ⟨some ⟨g,0,none⟩,cap,rfl,Xqy (rest:=cur.toList.drop (xs.length*sz)) (t:=t) (fz:=(0,0)) ?_ hl,(by intro b off s e; cases e; exact Xkj d),c,(by intro b off s e; cases e; exact j)⟩;rw [d,← f,List.take_append_drop]
theorem XqZ:∀ (A old vs B:List Value),old.length=vs.length→XqS (A++(old++B)) A.length vs=some (A++(vs++B))
 |[],[],[],B,_=>by cases B <;> rfl
 |[],o::old,v::vs,B,h=>by
  have:=XqZ [] old vs B (by simpa using h);simp only [List.nil_append,List.length_nil] at this;show XqS (o::(old++B)) 0 (v::vs)=_
  unfold XqS;rw [this]; rfl
 |x::A,old,vs,B,h=>by
  have:=XqZ A old vs B h;show XqS (x::(A++(old++B))) (A.length+1) vs=_
  unfold XqS;rw [this]; rfl
theorem XgJ (hl:∀ x,(cells x).length=sz) {xs:List α} {k:Nat} {y:α} {rest:List Value} (hk:k<xs.length):XqS (fl cells xs++rest) (0+k*sz) (cells y)=some (fl cells (xs.set k y)++rest):=by
 have e1:xs=xs.take k++(xs[k]::xs.drop (k+1)):=by rw [← List.drop_eq_getElem_cons hk,List.take_append_drop]
 have e2:xs.set k y=xs.take k++(y::xs.drop (k+1)):=List.set_eq_take_append_cons_drop.trans (if_pos hk);have a:(fl cells (xs.take k)).length=0+k*sz:=by rw [XgE hl,List.length_take,Nat.min_eq_left (by omega),Nat.zero_add]
 have f1:∀ z,fl cells (xs.take k++(z::xs.drop (k+1)))++rest=fl cells (xs.take k)++(cells z++(fl cells (xs.drop (k+1))++rest)):=fun z=>by
  rw [Xgv];unfold fl;rw [List.flatMap_cons];simp only [List.append_assoc]
 rw [e2,f1 y,← a]
 conv=>lhs; rw [e1,f1 xs[k]]
 rw [show (xs.take k++xs[k]::xs.drop (k+1)).take k=xs.take k from by rw [← e1]];exact XqZ _ _ _ _ (by rw [hl,hl])
end
structure RR where
 c:Conf
 cp:Xal
 p:RP
 ss:List RS
 sa:Option Addr
 scap:Nat
 lg:List Plc
 la:Option Addr
 lcap:Nat
 steps:Int
def rrL (r:RR):List Value:=Xfl r.c r.cp ++ [ilV r.p.o,ilV r.p.f,.slice r.sa r.ss.length r.scap,.slice r.la r.lg.length r.lcap,.int .i64 r.steps]
def lgP (e:Nat × List Nat):PlcM:=⟨-1,(e.1:Nat),0,Xly e.2⟩
structure MOk (M:RmM):Prop where
 sh:∀ (k:Nat) (x:Sm),M.shs[k]? = some x→x.Ok∧x.Of M.pl
 good:M.pl.Good
theorem Xbh.mok {F:Nat→Prop} {w:World} {R:Rm} {M:RmM} (h:Xbh F w R M):MOk M:=⟨fun k x b=>by
 obtain ⟨G,_,a,_⟩:=h.shelf b;exact ⟨a.ok,a.of⟩,h.pool.good⟩
structure Xbm (w:World) (r:RR) (M:RmM):Prop where
 p:Xbl w r.p M.pl
 sr:Rows rsL 7 w r.sa r.ss
 sl:ALt w r.sa
 sc:r.ss.length≤r.scap
 n:r.ss.length=M.shs.length
 few:r.ss.length≤16
 each:∀ (k:Nat) (s:RS) (x:Sm),r.ss[k]? = some s→M.shs[k]? = some x → ∃ pk,Xbo w s x pk∧x.Of pk
 lr:Rows Xoc 4 w r.la r.lg
 ll:ALt w r.la
 lc:r.lg.length≤r.lcap
 lm:r.lg.length≤1024
 lge:r.lg.map Xoe=M.lg.map lgP
 lgo:∀ q ∈ r.lg,Xa8 w q∧ALt w q.pa
 st:r.steps=M.tot
structure Xbn (S:Nat→Prop) (r:RR):Prop where
 o:Xa0 S r.p.o.a
 f:Xa0 S r.p.f.a
 sa:Xa0 S r.sa
 each:∀ s ∈ r.ss,Xbp S s
 la:Xa0 S r.la
 lgo:∀ q ∈ r.lg,Xa0 S q.pa
theorem Rows.far {α:Type} {cells:α→List Value} {sz:Nat} {w w':World} {a:Option Addr} {xs:List α} {S:Nat→Prop} (h:Rows cells sz w a xs) (hs:Xa0 S a) (hc:Chg S w w'):Rows cells sz w' a xs:=fun i x d=>by
 obtain ⟨b,off,e,c⟩:=h i x d;exact ⟨b,off,e,fun j v f=>hc.cell (c j v f) (hs b off _ e)⟩
theorem Xbm.grow {w w':World} {r:RR} {M:RmM} (h:Xbm w r M) (hc:Chg XaX w w'):Xbm w' r M :=
 ⟨h.p.grow hc,h.sr.chg hc,h.sl.grow hc.size,h.sc,h.n,h.few,fun k s x d e=>by obtain ⟨pk,a,b⟩:=h.each k s x d e; exact ⟨pk,a.grow hc,b⟩,h.lr.chg hc,h.ll.grow hc.size,h.lc,h.lm,h.lge,fun q c=>⟨(h.lgo q c).1.grow hc,(h.lgo q c).2.grow hc.size⟩,h.st⟩
theorem Xbm.far {w w':World} {r:RR} {M:RmM} {S:Nat→Prop} (h:Xbm w r M) (ho:Xbn S r) (hc:Chg S w w'):Xbm w' r M :=
 ⟨⟨h.p.o.far ho.o hc,h.p.f.far ho.f hc,h.p.eo,h.p.ef⟩,h.sr.far ho.sa hc,h.sl.grow hc.size,h.sc,h.n,h.few,fun k s x d e=>by obtain ⟨pk,a,b⟩:=h.each k s x d e; exact ⟨pk,a.far (ho.each s (List.mem_of_getElem? d)) hc,b⟩,h.lr.far ho.la hc,h.ll.grow hc.size,h.lc,h.lm,h.lge,fun q c=>⟨⟨(h.lgo q c).1.rd.far (ho.lgo q c) hc,(h.lgo q c).1.len⟩,(h.lgo q c).2.grow hc.size⟩,h.st⟩
theorem Xbm.out {w:World} {r:RR} {M:RmM} {S:Nat→Prop} (h:Xbm w r M) (hs:∀ z,S z→w.heap.size≤z):Xbn S r :=
 ⟨h.p.o.lt.out hs,h.p.f.lt.out hs,h.sl.out hs,fun s hm=>by
  obtain ⟨k,b,rfl⟩:=List.getElem_of_mem hm;obtain ⟨pk,a,_⟩:=h.each k _ _ (List.getElem?_eq_getElem b) (List.getElem?_eq_getElem (by rw [← h.n]; exact b));exact a.out hs,h.ll.out hs,fun q c=>(h.lgo q c).2.out hs⟩
theorem Xbn.mono {S S':Nat→Prop} {r:RR} (h:Xbn S r) (hs:∀ z,S' z→S z):Xbn S' r :=
 ⟨h.o.mono hs,h.f.mono hs,h.sa.mono hs,fun s hm=>⟨(h.each s hm).o.mono hs,(h.each s hm).f.mono hs,(h.each s hm).nums.mono hs,(h.each s hm).opn.mono hs,(h.each s hm).pa.mono hs,fun l a=>((h.each s hm).each l a).mono hs⟩,h.la.mono hs,fun q b=>(h.lgo q b).mono hs⟩
def Xbb (w:World) (r r':RR):Prop:=r'.c=r.c∧r'.cp=r.cp ∧ ∀ S:Nat→Prop,(∀ z,S z→z<w.heap.size)→Xbn S r→Xbn S r'
theorem Xbb.refl (w:World) (r:RR):Xbb w r r:=⟨rfl,rfl,fun _ _ h=>h⟩
theorem Xbb.trans {w w1:World} {r r1 r2:RR} (h:Xbb w r r1) (h':Xbb w1 r1 r2) (hs:w.heap.size≤w1.heap.size):Xbb w r r2:=⟨h'.1.trans h.1,h'.2.1.trans h.2.1,fun S a b =>
 h'.2.2 S (fun z c=>by have:=a z c; omega) (h.2.2 S a b)⟩
abbrev XqA (w:World) (b:Nat) (r:RR):Prop:=w.heap[b]? = some (.cells (rrL r).toArray 46 (0,0))
theorem XqG (s:RS):(rsL s).length=7:=rfl
theorem XqH (s:RS):∀ u ∈ rsL s,u.oneCell'=true:=fun u a=>by
 simp only [rsL,List.mem_cons,List.mem_nil_iff,or_false] at a;rcases a with rfl | rfl | rfl | rfl | rfl | rfl | rfl <;> rfl
theorem Xbm.sout {w:World} {r:RR} {M:RmM} {S:Nat→Prop} (h:Xbn S r) {k:Nat} {s:RS} (hk:r.ss[k]? = some s) (_:Xbm w r M):Xbp S {s with p:=r.p}:=by
 have:=h.each s (List.mem_of_getElem? hk);exact ⟨h.o,h.f,this.nums,this.opn,this.pa,this.each⟩
theorem Xbm.put {w w':World} {r:RR} {M:RmM} (h:Xbm w r M) (hc:Chg XaX w w') {k:Nat} {s:RS} {x':Sm} {pl':PlM} {t:Int} {sa':Option Addr} {scap':Nat} (hk:k<r.ss.length) (hs:Xbo w' s x' pl') (hof:x'.Of pl') (hrow:Rows rsL 7 w' sa' (r.ss.set k s)) (hlt:ALt w' sa') (hcap:(r.ss.set k s).length≤scap') :
 Xbm w' {r with sa:=sa',scap:=scap',ss:=r.ss.set k s,p:=s.p,steps:=t} {M with shs:=M.shs.set k x',pl:=pl',tot:=t}:=by
 have a:=h.grow hc;refine ⟨hs.p,hrow,hlt,hcap,by show (r.ss.set k s).length=(M.shs.set k x').length; rw [List.length_set,List.length_set]; exact h.n,by show (r.ss.set k s).length≤16; rw [List.length_set]; exact h.few,fun j d f b c => ?_,a.lr,a.ll,a.lc,a.lm,a.lge,a.lgo,rfl⟩;by_cases e:k=j
 ·subst e;rw [List.getElem?_set_self hk] at b;rw [List.getElem?_set_self (by rw [← h.n]; exact hk)] at c;cases b; cases c
  exact ⟨pl',hs,hof⟩
 ·rw [List.getElem?_set_ne e] at b c;exact a.each j d f b c
theorem Xbb.put {w w1 w':World} {r:RR} {M:RmM} (h:Xbm w r M) {k:Nat} {s0 s:RS} {t:Int} {sa':Option Addr} {scap':Nat} (hk:r.ss[k]? = some s0) (hs:w.heap.size≤w1.heap.size) (hkeep:XaG w1 {s0 with p:=r.p} s) (hf:Xax w' sa') (hs':w.heap.size≤w'.heap.size) :
 Xbb w r {r with sa:=sa',scap:=scap',ss:=r.ss.set k s,p:=s.p,steps:=t}:=⟨rfl,rfl,fun S e b=>by
 have a:=hkeep S (fun z c=>by have:=e z c; omega) (Xbm.sout b hk h);refine ⟨a.o,a.f,hf.out (fun z c=>by have:=e z c; omega),fun f d => ?_,b.la,b.lgo⟩;rcases List.mem_or_eq_of_mem_set d with d | rfl
 ·exact b.each f d
 ·exact a⟩
theorem Eff.good {p q:PlM} {c:Int} (h:Eff p q c) (hg:p.Good) (hc:0≤c):q.Good:=by
 rcases h with rfl | ⟨n,r,hf,rfl⟩ | ⟨n,a,b,rfl⟩
 ·exact hg
 ·exact hg.take hc hf
 ·exact hg.give a (by omega)
theorem Xuw (x:Sm) (pl:PlM) (who:Int) (hof:x.Of pl) (hg:pl.Good):(Xrr x pl who).Of (Xrv x pl who):=by
 rcases Xrw x pl who with ⟨_,a,b⟩ | ⟨_,_,⟨n,r,_,a,b,_⟩ | ⟨n,r,_,hf,a,b,_⟩⟩
 ·rw [a,b]; exact hof
 ·rw [a,b]; exact hof.set rfl (fun e c=>Xsv c)
 ·rw [a,b]; exact (hof.fresh hg hf).set rfl (fun e c=>Xsv c)
theorem Xhf (x:Sm) (pl:PlM) (n i:Int) (hok:x.Ok) (hof:x.Of pl):(Xrc x n i).Of (Xre x pl n i):=by
 unfold Xrc Xre;cases c:Xsi x.pg n with
 |none=>exact hof
 |some p =>
  simp only
  by_cases a:Xnf p i=0
  ·rw [if_pos a];have:=Sm.Of.giveAt hok hof (n:=n.toNat) (p:=p) (i:=i);by_cases b:Xnz (Xne p i)=0
   ·rw [if_pos b] at this; rw [if_pos ⟨a,b⟩]; exact this
   ·rw [if_neg b] at this; rw [if_neg (fun h=>b h.2)]; exact this
  ·rw [if_neg a,if_neg (fun h=>a h.1)]; exact hof
theorem Xmw (x:Sm) (pl:PlM) (n i who:Int) (hof:x.Of pl):(Xri x n i who).Of pl:=by
 unfold Xri;split
 ·exact hof.set rfl (fun e a=>Xsv a)
 ·exact hof

theorem Xwf {n a b:Int}:Xwe n a b=true↔a≤n∧n≤b:=by unfold Xwe; simp
theorem XkI {c:Conf}:XkH c=true↔XrZ c.size=true∧(1≤c.pages∧c.pages≤1024)∧Xe2 c.classes c.size=true∧c.keep.length=c.classes.length∧(∀ k,k ∈ c.keep→0≤k∧k≤1024) ∧
 (1≤c.step∧c.step≤65536)∧(1≤c.slots∧c.slots≤4096)∧(1≤c.gens∧c.gens≤1023)∧(1≤c.most∧c.most≤Xi0 c):=by
 unfold XkH XiW;simp only [Bool.and_eq_true,Xwf,decide_eq_true_eq,Bool.not_eq_true',List.any_eq_false,Bool.not_eq_false,and_assoc]
theorem XkL {c:Conf} (h:XkH c=true→False):Value.int .i64 1 = .int .i64 (XkK c):=by unfold XkK; rw [if_neg h]
theorem XkM {c:Conf} (h:XkH c=true):Value.int .i64 0 = .int .i64 (XkK c):=by unfold XkK; rw [if_pos h]
theorem Xi1 {c:Conf}:Xi0 c=0↔XrZ c.size=false:=by
 unfold Xi0;by_cases h:XrZ c.size=true
 ·rw [if_pos h,h];have a:=Xr0.1 h;have b:64*8≤c.size*(c.size / 8):=Int.mul_le_mul a.1 (by omega) (by omega) (by omega);constructor
  ·intro; omega
  ·intro h; cases h
 ·rw [if_neg h]; simpa using h
theorem Xo0 (c:Conf) (p:Xal) (w:World):Xan Tryz.prog 38 #[.agg (Xfl c p).toArray] w (Grow (.int .i64 (Xi0 c)) w):=by
 refine ζe Tryz.func38 Tryz.ntmps38 rfl (ζn rfl fun b l e1 e d k => ?_);have no:(64≤c.size∧c.size≤4096∧c.size % 8=0→False)→Value.int .i64 0 = .int .i64 (Xi0 c):=fun h=>by unfold Xi0; rw [if_neg (fun i=>h (Xr0.1 i))]
 refine ζl e rfl (ζg rfl (fun f => ?_) fun f => ?_)
 ·exact ζr Tryz.func38 rfl ⟨no (fun h=>by have:=of_decide_eq_true f; omega),d⟩
 ·have m:=of_decide_eq_false f;refine ζl e rfl (ζg rfl (fun g => ?_) fun g => ?_)
  ·exact ζr Tryz.func38 rfl ⟨no (fun h=>by have:=of_decide_eq_true g; omega),d⟩
  ·have n:=of_decide_eq_false g;refine ζl e rfl (Xay.div hTT rfl (by omega) (Xo9 (by omega)) rfl (ζg rfl (fun a => ?_) fun a => ?_))
   ·exact ζr Tryz.func38 rfl ⟨no (fun h=>by have:=h.2.2; simp [this] at a),d⟩
   ·have j:c.size % 8=0:=by simpa using a
    have a:0≤c.size / 8∧c.size / 8≤512:=by omega
    have o:0≤c.size*(c.size / 8):=Int.mul_nonneg (by omega) a.1;have q:c.size*(c.size / 8)≤4096*512:=Int.mul_le_mul (by omega) a.2 a.1 (by omega);refine Xay.loadb hTT rfl e rfl rfl ?_;refine Xay.loadb hTT rfl e rfl rfl ?_;refine Xay.div hTT rfl (by omega) (XoJ (by omega) (by omega)) rfl ?_;refine Xay.arith hTT rfl (w64 (by omega)) rfl ?_;exact ζr Tryz.func38 rfl ⟨XiH (by unfold Xi0; rw [if_pos (Xr0.2 ⟨by omega,by omega,j⟩)]),d⟩
theorem XoY (c:Conf) (p:Xal) (k:Int) (w:World) (hc:Xam w c p):Xan Tryz.prog 224 #[.agg (Xfl c p).toArray,.int .i64 k] w (Grow (.int .i64 (XdS c k)) w):=by
 have g:=hc.size;unfold XaC at g;refine ζe Tryz.func224 Tryz.ntmps224 rfl (ζn rfl fun b q e1 e a n=>ζg rfl (fun h => ?_) fun h => ?_)
 ·have l:=of_decide_eq_true h;exact ζr Tryz.func224 rfl ⟨XiH (by unfold XdS; rw [if_neg (by omega)]),a⟩
 ·have l:=of_decide_eq_false h;refine ζl e rfl (ζg rfl (fun f => ?_) fun f => ?_)
  ·have m:=of_decide_eq_true f;exact ζr Tryz.func224 rfl ⟨XiH (by unfold XdS; rw [if_neg (by omega)]),a⟩
  ·have m:=of_decide_eq_false f;obtain ⟨r,off,ea,d⟩:=(hc.chg a).classes k.toNat (by omega);obtain ⟨ca,cc,ka,kc⟩:=p;simp only at ea
   subst ea;exact Xay.quiet rfl Xk3 (by kernel_rfl) (Xba.adv hTT rfl (Xba.loadb hTT rfl e rfl rfl (Xba.loadb hTT rfl e rfl rfl (Xba.index hTT rfl (j:=k.toNat) (by omega) (by omega) (by first | rfl | omega | (simp; done) | (simp; omega)) rfl (Xba.load hTT rfl d rfl (Xba.call hTT rfl (fun w' o=>(XoW c.size (c.classes.getD k.toNat 0) w' g.2).grow) rfl (Xba.nil fun s i=>ζa rfl (ζr Tryz.func224 rfl ⟨XiH (by unfold XdS; rw [if_pos (by omega)]),a.trans i⟩))))))))
theorem Xo1 (c:Conf) (p:Xal) (w:World) (hc:Xam w c p):Xan Tryz.prog 11 #[.agg (Xfl c p).toArray] w (Grow (.int .i64 (XkK c)) w):=by
 have S:=hc.lc;refine ζe Tryz.func11 Tryz.ntmps11 rfl (ζn rfl fun b T e1 N O ac=>ζl N rfl (ζv (Xo0 c p T) rfl fun wL P => ?_));have i:=O.trans P;have l:=P.heap' N;have v:=hc.chg i;refine ζg rfl (fun s => ?_) fun s => ?_
 ·exact ζr Tryz.func11 rfl ⟨XkL (fun h=>by have:=(XkI.1 h).1; rw [Xi1.1 (by simpa using s)] at this; cases this),i⟩
 ·have U:XrZ c.size=true:=by
   cases h:XrZ c.size with
   |true=>rfl
   |false=>rw [Xi1.2 h] at s; cases s
  refine ζl l rfl (ζg rfl (fun y => ?_) fun y => ?_)
  ·exact ζr Tryz.func11 rfl ⟨XkL (fun h=>by have:=(XkI.1 h).2.1; have:=of_decide_eq_true y; omega),i⟩
  ·refine ζl l rfl (ζg rfl (fun z => ?_) fun z => ?_)
   ·exact ζr Tryz.func11 rfl ⟨XkL (fun h=>by have:=(XkI.1 h).2.1; have:=of_decide_eq_true z; omega),i⟩
   ·refine ζl l rfl (ζl l rfl (ζv (XoX p.ca p.cc c.classes c.size wL v.classes S) rfl fun V A => ?_));have o:=i.trans A;have q:=A.heap' l;have Q:=v.chg A;refine ζg rfl (fun t => ?_) fun t => ?_
    ·exact ζr Tryz.func11 rfl ⟨XkL (fun h=>by have:=(XkI.1 h).2.2.1; simp [XeZ,this] at t),o⟩
    ·refine ζl q rfl (ζl q rfl (ζg rfl (fun B => ?_) fun B => ?_))
     ·exact ζr Tryz.func11 rfl ⟨XkL (fun h=>by have:=(XkI.1 h).2.2.2.1; simp [this] at B),o⟩
     ·have g2:=of_decide_eq_false y;have g3:=of_decide_eq_false z;have W:Xe2 c.classes c.size=true:=by unfold XeZ at t; cases hh:Xe2 c.classes c.size <;> simp [hh] at t ⊢
      have g5:c.keep.length=c.classes.length:=by simp at B; omega
      refine Xay.loop (α:=Nat) (fun k => [(1,false,.pointer (some ⟨b,0,none⟩)),(3,false,.int .i64 k)])
       (fun k w'=>Chg XaX V w'∧k≤c.keep.length ∧ ∀ j (h:j<c.keep.length),j<k→0≤c.keep[j]∧c.keep[j]≤1024) (fun k=>c.keep.length - k) 0 ⟨rfl,rfl,trivial⟩ ⟨Chg.refl _ _,Nat.zero_le _,fun _ _ h=>by omega⟩ ?_
      rintro k w4 ⟨u,hk,r⟩ ih;have f:=o.trans u;have d:=u.heap' q;have R:=Q.chg u;refine ζa rfl (ζl d rfl (ζg rfl (fun h => ?_) fun h => ?_))
      ·have m:k<c.keep.length:=by simpa using h
       obtain ⟨b1,off,ea,g⟩:=R.keep k m;rw [Xg0 m] at g;obtain ⟨ca,cc,ka,kc⟩:=p;simp only at ea
       subst ea;refine ζl d rfl (ζi k rfl (ζk rfl g rfl (ζg rfl (fun C => ?_) fun C => ?_)))
       ·exact ζr Tryz.func11 rfl ⟨XkL (fun h=>by have:=(XkI.1 h).2.2.2.2.1 _ (List.getElem_mem m); have:=of_decide_eq_true C; omega),f⟩
       ·refine ζl d rfl (ζi k rfl (ζk rfl g rfl (ζg rfl (fun D => ?_) fun D => ?_)))
        ·exact ζr Tryz.func11 rfl ⟨XkL (fun h=>by have:=(XkI.1 h).2.2.2.2.1 _ (List.getElem_mem m); have:=of_decide_eq_true D; omega),f⟩
        ·refine ζj rfl ?_;exact ih (k+1) _ _ ⟨u,m,fun j E ad=>by
          by_cases e:j=k
          ·subst e; exact ⟨by have:=of_decide_eq_false C; omega,by have:=of_decide_eq_false D; omega⟩
          ·exact r j E (by omega)⟩ (by omega) ⟨rfl,rfl,trivial⟩
      ·have ae:k=c.keep.length:=by simp at h; omega
       have g6:∀ x,x ∈ c.keep→0≤x∧x≤1024:=fun x hx=>by obtain ⟨j,E,rfl⟩:=List.mem_iff_getElem.1 hx; exact r j E (by omega)
       refine Xay.quiet rfl Xk3 (by kernel_rfl) (Xba.adv hTT rfl (Xba.loadb hTT rfl d rfl rfl ?_));refine Xba.fork hTT rfl rfl rfl (fun F => ?_) (fun F => ?_)
       ·exact Xba.nil fun n a=>ζa rfl (ζr Tryz.func11 rfl ⟨XkL (fun h=>by have:=(XkI.1 h).2.2.2.2.2; have:=of_decide_eq_true F; omega),f.trans a⟩)
       refine Xba.loadb hTT rfl d rfl rfl ?_;refine Xba.fork hTT rfl rfl rfl (fun G => ?_) (fun G => ?_)
       ·exact Xba.nil fun n a=>ζa rfl (ζr Tryz.func11 rfl ⟨XkL (fun h=>by have:=(XkI.1 h).2.2.2.2.2; have:=of_decide_eq_true G; omega),f.trans a⟩)
       refine Xba.loadb hTT rfl d rfl rfl ?_;refine Xba.fork hTT rfl rfl rfl (fun H => ?_) (fun H => ?_)
       ·exact Xba.nil fun n a=>ζa rfl (ζr Tryz.func11 rfl ⟨XkL (fun h=>by have:=(XkI.1 h).2.2.2.2.2; have:=of_decide_eq_true H; omega),f.trans a⟩)
       refine Xba.loadb hTT rfl d rfl rfl ?_;refine Xba.fork hTT rfl rfl rfl (fun I => ?_) (fun I => ?_)
       ·exact Xba.nil fun n a=>ζa rfl (ζr Tryz.func11 rfl ⟨XkL (fun h=>by have:=(XkI.1 h).2.2.2.2.2; have:=of_decide_eq_true I; omega),f.trans a⟩)
       refine Xba.loadb hTT rfl d rfl rfl ?_;refine Xba.fork hTT rfl rfl rfl (fun J => ?_) (fun J => ?_)
       ·exact Xba.nil fun n a=>ζa rfl (ζr Tryz.func11 rfl ⟨XkL (fun h=>by have:=(XkI.1 h).2.2.2.2.2; have:=of_decide_eq_true J; omega),f.trans a⟩)
       refine Xba.loadb hTT rfl d rfl rfl ?_;refine Xba.fork hTT rfl rfl rfl (fun K => ?_) (fun K => ?_)
       ·exact Xba.nil fun n a=>ζa rfl (ζr Tryz.func11 rfl ⟨XkL (fun h=>by have:=(XkI.1 h).2.2.2.2.2; have:=of_decide_eq_true K; omega),f.trans a⟩)
       refine Xba.loadb hTT rfl d rfl rfl ?_;refine Xba.fork hTT rfl rfl rfl (fun L => ?_) (fun L => ?_)
       ·exact Xba.nil fun n a=>ζa rfl (ζr Tryz.func11 rfl ⟨XkL (fun h=>by have:=(XkI.1 h).2.2.2.2.2; have:=of_decide_eq_true L; omega),f.trans a⟩)
       refine Xba.loadb hTT rfl d rfl rfl (Xba.loads hTT rfl d rfl rfl (Xba.call hTT rfl (fun w' af=>Xo0 c p w') rfl (Xba.nil fun n a=>ζa rfl (ζg rfl (fun M => ?_) fun M => ?_))))
       ·exact ζr Tryz.func11 rfl ⟨XkL (fun h=>by have:=(XkI.1 h).2.2.2.2.2; have:=of_decide_eq_true M; omega),f.trans a⟩
       have:=of_decide_eq_false F;have:=of_decide_eq_false G;have:=of_decide_eq_false H;have:=of_decide_eq_false I;have:=of_decide_eq_false J;have:=of_decide_eq_false K;have:=of_decide_eq_false L;have:=of_decide_eq_false M;exact ζr Tryz.func11 rfl ⟨XkM (XkI.2 ⟨U,by omega,W,g5,g6,by omega,by omega,by omega,by omega⟩),f.trans a⟩
theorem Rd.of {k:IntKind} {w:World} {b:Nat} {c:Array Value} {t:TypeId} {fz:Nat × Nat} {zs:List Int} (h:w.heap[b]? = some (.cells c t fz)) (hc:c=(zs.map (Value.int k)).toArray):Rd k w (some ⟨b,0,none⟩) zs:=fun i a =>
 ⟨b,0,rfl,by rw [Xel h,hc]; simp [a]⟩
theorem XnJ (zs:List Int) (n:Int) : -1≤XnI zs n:=by
 unfold XnI;split
 ·omega
 ·by_cases h:zs.any (fun s=>decide (n≤s))=true
  ·have:=Xis.2 h; omega
  ·rw [Xir (fun j b=>by
    by_cases a:n≤zs[j]
    ·exact absurd (List.any_eq_true.2 ⟨zs[j],List.getElem_mem b,decide_eq_true a⟩) h
    ·exact decide_eq_false a)]
   omega
def nilIL:IL:=⟨none,0,[]⟩
def rs0 (k:Int) (b:Nat):RS:=⟨⟨nilIL,nilIL⟩,k,b,nilIL,none,0,[],nilIL⟩
def XqD (c:Conf) (n:Nat):List RS:=(List.range n).map fun k=>rs0 (k:Nat) (XdS c (k:Nat)).toNat
theorem XqE {c:Conf} {n k:Nat} {s:RS} (h:(XqD c n)[k]? = some s):k<n∧s=rs0 (k:Nat) (XdS c (k:Nat)).toNat:=by
 unfold XqD at h;rw [List.getElem?_map,Option.map_eq_some_iff] at h;obtain ⟨j,d,e⟩:=h;obtain ⟨a,b⟩:=List.getElem?_eq_some_iff.1 d;simp only [List.length_range] at a;rw [List.getElem_range] at b;subst b;exact ⟨a,e.symm⟩
theorem XqF (c:Conf) (n:Nat):XqD c (n+1)=XqD c n ++ [rs0 (n:Nat) (XdS c (n:Nat)).toNat]:=by
 unfold XqD;rw [List.range_succ,List.map_append]; rfl
theorem XqB (w:World) (k:Int) (b:Nat):Xbo w (rs0 k b) (XlN k b) ⟨[],[]⟩:=by
 have a:IlX w nilIL:=⟨⟨Rd.nil _ _ _,by simp [nilIL]⟩,Nat.le_refl _,(by intro b off s e; cases e)⟩;exact ⟨⟨a,a,rfl,rfl⟩,a,a,(fun i l c=>by simp [rs0] at c),(by intro b off s e; cases e),Nat.le_refl _,(fun l c=>by simp [rs0] at c),rfl,rfl,rfl,rfl,rfl⟩
theorem XqC (S:Nat→Prop) (k:Int) (b:Nat):Xbp S (rs0 k b):=by
 have a:Xa0 S (none:Option Addr):=fun b off s e=>by cases e
 exact ⟨a,a,a,a,a,fun l c=>by simp [rs0] at c⟩
theorem Xep {w:World} {b:Nat} {l:List Value} {t:TypeId} {fz:Nat × Nat} (h:w.heap[b]? = some (.cells l.toArray t fz)):∀ i u,l[i]? = some u → ∃ a',(some ⟨b,0,none⟩:Option Addr)=some a'∧w.cell? (a'.add i)=some u:=fun i u a =>
 ⟨_,rfl,by rw [XbV,Xel h,Nat.zero_add]; simpa using a⟩
theorem Xo5 (c:Conf) (p:Xal) (w:World) (hc:Xam w c p) (hm:XkH c=true) (hp:c.pages≤512):Xan Tryz.prog 162 #[.agg (Xfl c p).toArray] w
 (fun v w' => ∃ r,v = .tuple #[.agg (rrL r).toArray,.int .i64 0]∧r.c=c∧r.cp=p∧Xbm w' r (XlH c 0)∧(∀ S:Nat→Prop,(∀ z,S z→z<w.heap.size)→Xbn S r)∧Chg XaX w w'):=by
 have bt:maxLen=9223372036854775807:=rfl;have hf:=XkN hm;have bu:=hf.n;have bv:=hf.pages;obtain ⟨N,hN⟩:=Int.eq_ofNat_of_zero_le (show 0≤c.pages by omega);have em:XkK c=0:=by unfold XkK; rw [if_pos hm]
 refine ζe Tryz.func162 Tryz.ntmps162 rfl (ζn rfl fun cb w1 e1 ax ay bw=>ζn rfl fun ob w2 e2 az ae bx => ?_);have y:=ay.trans ae;have W:=ae.heap' ax;refine ζl W rfl (ζv (Xo1 c p w2 (hc.chg y)) rfl fun w3 D => ?_);rw [em];refine ζf rfl ?_;have a0:=D.heap' W;refine ζl a0 rfl ?_;rw [hN];refine ζc rfl (Xo3 N w3 (by omega)) ?_;rintro _ w4 ⟨rp,rfl,a1,af,ag,Q⟩;refine ζa rfl (ζn rfl fun pb w5 e5 b0 b1 bz=>ζs b0 rfl fun w6 ah b2 c0 => ?_);have g:=b1.since b2 (fun z a e=>by omega);have a2:=g.heap' (Q.heap' a0);refine ζl a2 rfl (ζl ah rfl (ζb rfl (ζn rfl fun tb w7 e7 b3 b4 c1=>ζs b3 rfl fun w8 ai b5 c2 => ?_)));have A:=b4.since b5 (fun z a e=>by omega);have L:=(((y.trans D).trans Q).trans g).trans A;have aj:=A.heap' a2;have ak:=(((D.trans Q).trans g).trans A).heap' az;have bg:=((D.trans Q).trans g).size;refine Xay.loop (α:=Nat × Value) (fun x => [(1,false,.pointer (some ⟨cb,0,none⟩)),(2,false,.pointer (some ⟨ob,0,none⟩)),(6,false,.pointer (some ⟨tb,0,none⟩)),(7,false,.int .i64 x.1)])
  (fun x w'=>x.1≤c.classes.length∧w'.heap[tb]? = some (.cells (Xfl c p ++ [ilV rp.o,ilV rp.f,x.2,.slice none 0 0,.int .i64 0]).toArray 46 (0,0))∧Own w8.heap.size 280 7 w' x.2 x.1 (fl rsL (XqD c x.1))∧Chg (fun z=>z=tb) w8 w') (fun x=>c.classes.length - x.1) (0,.slice none 0 0) ⟨rfl,rfl,rfl,rfl,trivial⟩ ⟨Nat.zero_le _,ai,⟨rfl,.inl ⟨rfl,rfl⟩⟩,Chg.refl _ _⟩ ?_
 rintro ⟨i,v⟩ w9 ⟨hi,j,T,m⟩ ih;simp only at hi j T
 have a4:=m.heap aj (by omega);have a5:=L.since m (fun z a e=>by have:=L.size; omega);have bi:=m.size;refine ζa rfl (ζl a4 rfl (ζg rfl (fun a6 => ?_) fun a6 => ?_))
 ·have E:i<c.classes.length:=by have:=of_decide_eq_true a6; omega
  have c3:=XdT hm E;obtain ⟨bk,B⟩:=Int.eq_ofNat_of_zero_le (show 0≤XdS c i by omega);refine ζd 11 (fun z=>z=tb∨w8.heap.size≤z) (by kernel_rfl) rfl fun d=>Xaq.loadsAt (3) hTT d rfl rfl rfl a4 (by first | exact fun h=>h | (intro h; omega) | assumption) rfl rfl (δv d (fun w' b6=>XoY c p (i:Nat) w' (hc.chg (a5.since b6 (fun z a e=>by have:=L.size; rcases e with e | e <;> omega)))) rfl (Xaq.build hTT d rfl rfl ?_));refine Xaq.turn2 d rfl ?_ ?_
  ·intro wa F;refine XbO.loadb hTT d rfl (F.heap' j) rfl rfl (Xaq.turn1 d rfl fun wb U=>XbO.buildSlice hTT d rfl (fun _=>rfl) fun b7 wc ec a7 G c4=>Xaq.turn1 d rfl fun wd H => ?_);have f:=((F.trans U).trans G).trans H;have l:=T.chg f (fun _ _ h=>h);have n:=H.heap' a7;rw [B] at n;refine XbO.appendS hTT d rfl (base:=w8.heap.size) (xs:=fl rsL (XqD c i)) (news:=rsL (rs0 (i:Nat) bk)) l (by have:=f.size; omega) (fun e=>by cases e) (fun b M _ => .inr (World.ownsRow.lt l b M.symm).1) rfl (Xep n) (XqH _) ⟨by omega,by show (i+1)*136≤_; omega⟩ (fun _=>rfl) ?_;intro v2 wf o I b8;obtain ⟨va,vn,vc,rfl⟩:=Own.isSlice o;refine Xaq.turn1 d rfl ?_;intro wg t;have O:=I.heap (f.heap' j) (fun e=>by have:=(World.ownsRow.lt l tb (Eq.symm e)).1; omega);refine XbO.store hTT d rfl (t.heap' O) (by first | (intro h; exact rfl) | (intro h; omega)) rfl rfl rfl fun wh P J b9=>δn d rfl fun wi u => ?_;have a8:=((o.chg t (fun _ _ h=>h)).chg J (fun b M e=>by have:=(World.ownsRow.lt o b M.symm).1; replace e:b=tb:=e; omega)).chg u (fun _ _ h=>h);have a9:=((((m.trans (f.mono fun _ _ h=>h.elim)).since I (fun z a e=>by have:=(World.ownsRow.lt l z e.symm).1; omega)).trans (t.mono fun _ _ h=>h.elim)).trans J).trans (u.mono fun _ _ h=>h.elim);exact ζj rfl (ih (i+1,.slice va vn vc) _ _ ⟨E,u.heap' P,by rw [XqF,Xgv,XgG,B,Int.toNat_natCast]; exact a8,a9⟩ (by simp only; omega) ⟨rfl,rfl,rfl,rfl,trivial⟩)
  ·intro wa F;refine XbO.buildSlice hTT d rfl (fun _=>rfl) fun b7 wb eb a7 U c5=>Xaq.turn1 d rfl fun wc G=>XbO.loadb hTT d rfl (((F.trans U).trans G).heap' j) rfl rfl (Xaq.turn1 d rfl fun wd H => ?_);have f:=((F.trans U).trans G).trans H;have l:=T.chg f (fun _ _ h=>h);have n:=H.heap' (G.heap' a7);rw [B] at n;refine XbO.appendS hTT d rfl (base:=w8.heap.size) (xs:=fl rsL (XqD c i)) (news:=rsL (rs0 (i:Nat) bk)) l (by have:=f.size; omega) (fun e=>by cases e) (fun b M _ => .inr (World.ownsRow.lt l b M.symm).1) rfl (Xep n) (XqH _) ⟨by omega,by show (i+1)*136≤_; omega⟩ (fun _=>rfl) ?_;intro v2 wf o I b8;obtain ⟨va,vn,vc,rfl⟩:=Own.isSlice o;refine Xaq.turn1 d rfl ?_;intro wg t;have O:=I.heap (f.heap' j) (fun e=>by have:=(World.ownsRow.lt l tb (Eq.symm e)).1; omega);refine XbO.store hTT d rfl (t.heap' O) (by first | (intro h; exact rfl) | (intro h; omega)) rfl rfl rfl fun wh P J b9=>δn d rfl fun wi u => ?_;have a8:=((o.chg t (fun _ _ h=>h)).chg J (fun b M e=>by have:=(World.ownsRow.lt o b M.symm).1; replace e:b=tb:=e; omega)).chg u (fun _ _ h=>h);have a9:=((((m.trans (f.mono fun _ _ h=>h.elim)).since I (fun z a e=>by have:=(World.ownsRow.lt l z e.symm).1; omega)).trans (t.mono fun _ _ h=>h.elim)).trans J).trans (u.mono fun _ _ h=>h.elim);exact ζj rfl (ih (i+1,.slice va vn vc) _ _ ⟨E,u.heap' P,by rw [XqF,Xgv,XgG,B,Int.toNat_natCast]; exact a8,a9⟩ (by simp only; omega) ⟨rfl,rfl,rfl,rfl,trivial⟩)
 ·have ba:i=c.classes.length:=by have:=of_decide_eq_false a6; omega
  subst ba;have C:(XqD c c.classes.length).length=c.classes.length:=by unfold XqD; simp
  obtain ⟨sa,scap,rfl,am,E,aa,V⟩:=Own.rowsN T XqG C;rw [C] at j aa
  let R:RR:=⟨c,p,rp,XqD c c.classes.length,sa,scap,[],none,0,0⟩
  have ab:XqA w9 tb R:=by
   show w9.heap[tb]? = some (.cells (Xfl c p ++ [ilV rp.o,ilV rp.f,.slice sa (XqD c c.classes.length).length scap,.slice none 0 0,.int .i64 0]).toArray _ _)
   rw [C]; exact j
  refine ζl ab rfl ?_;have an:=m.heap ak (by omega);refine ζs an rfl fun wa ao K c6 => ?_;have ap:=a5.since K (fun z a e=>by omega);have bb:∀ S:Nat→Prop,Xa0 S (none:Option Addr):=fun S b off s e=>by cases e
  have bm:=D.size;have bc:Xbl wa rp (XnU N):=by
   have h9:Xbl w9 rp (XnU N):=by
    have h8:=(a1.grow g).grow A;exact ⟨h8.o.far (fun b off s e a=>by have:=a1.o.lt b off s e; have:=g.size; replace a:b=tb:=a; omega) m,h8.f.far (fun b off s e a=>by have:=a1.f.lt b off s e; have:=g.size; replace a:b=tb:=a; omega) m,h8.eo,h8.ef⟩
   exact ⟨h9.o.far (fun b off s e a=>by have:=af b off s e; replace a:b=ob:=a; omega) K,h9.f.far (fun b off s e a=>by have:=ag b off s e; replace a:b=ob:=a; omega) K,h9.eo,h9.ef⟩
  have aq:Xa0 (fun z=>z=ob) sa:=fun b off s e a=>by have:=V b off s e; replace a:b=ob:=a; omega
  have ar:∀ S:Nat→Prop,(∀ z,S z→z<w.heap.size)→Xbn S R:=fun S hS=>⟨af.out (fun z a=>by have:=hS z a; have:=y.size; omega),ag.out (fun z a=>by have:=hS z a; have:=y.size; omega),fun b off s e a=>by have:=V b off s e; have:=hS b a; omega,fun s hs=>by
   obtain ⟨k,hk,rfl⟩:=List.getElem_of_mem hs;obtain ⟨_,e⟩:=XqE (List.getElem?_eq_getElem hk);rw [e]; exact XqC S _ _,bb S,fun q hq=>by cases hq⟩
  have bd:Xbm wa R (XlH c 0):=by
   refine ⟨by show Xbl wa rp (XnU c.pages.toNat); rw [hN,Int.toNat_natCast]; exact bc,am.far aq K,E.grow K.size,by show (XqD c c.classes.length).length≤scap; rw [C]; exact aa,by show (XqD c _).length=(XlK c _).length; unfold XqD XlK; simp,by show (XqD c c.classes.length).length≤16; omega,fun k s x h1 h2 => ?_,(fun i x hx=>by simp [R] at hx),(by intro b off s e; cases e),Nat.le_refl _,by show 0≤1024; omega,rfl,(fun q hq=>by cases hq),rfl⟩;obtain ⟨_,rfl⟩:=XqE h1;obtain ⟨_,rfl⟩:=XlL h2;exact ⟨⟨[],[]⟩,XqB _ _ _,fun e he=>by cases he⟩
  exact ζR Tryz.func162 ao rfl ⟨R,rfl,rfl,rfl,bd,ar,ap⟩
theorem Xbb.out {w w2:World} {r r':RR} {M:RmM} (hK:Xbb w2 r r') (h:Xbm w r M) {S:Nat→Prop} (h1:∀ z,S z→w.heap.size≤z) (h2:∀ z,S z→z<w2.heap.size):Xbn S r':=hK.2.2 S h2 (h.out h1)

theorem XiY {lg:List (Nat × List Nat)} (hn:(Xjr lg).Nodup) {n:Nat} {r r':List Nat} (h:(n,r) ∈ lg) (h':(n,r') ∈ lg):r=r':=by
 obtain ⟨a,b,e1,e2⟩:=Xju hn h;rw [e1] at h' hn;have c:Xjr (a++(n,r)::b)=Xjr a++((n::r)++Xjr b):=by rw [Xjs]; rfl
 rw [c] at hn;obtain ⟨_,d,e⟩:=List.nodup_append.1 hn;obtain ⟨_,_,f⟩:=List.nodup_append.1 d;rcases List.mem_append.1 h' with g | g
 ·exact absurd rfl (e n (XkP g (by simp)) n (by simp))
 ·rcases List.mem_cons.1 g with g | g
  ·exact ((Prod.mk.inj g).2).symm
  ·exact absurd rfl (f n (by simp) n (XkP g (by simp)))
def XaK (M:RmM):Prop := ∀ (k:Nat) (x:Sm),M.shs[k]? = some x→x.Pos
theorem Xbh.mpos {F:Nat→Prop} {w:World} {R:Rm} {M:RmM} (h:Xbh F w R M):XaK M:=fun k x a=>by
 obtain ⟨G,_,b,_⟩:=h.shelf a;exact b.pos
theorem Xiq {α:Type} {p:α→Bool} {l:List α} (_ : -1≤idx p l):idx p l<l.length:=by
 by_cases h:∃ k,∃ a:k<l.length,p l[k]=true ∧ ∀ j (b:j<l.length),j<k→p l[j]=false
 ·obtain ⟨k,a,d,e⟩:=h;rw [Xip a e d]; omega
 ·rw [Xir fun j b => ?_]
  ·omega
  ·induction j using Nat.strongRecOn with
   |ind j ih =>
    cases f:p l[j] with
    |false=>rfl
    |true=>exact absurd ⟨j,b,f,fun i g c=>ih i c g⟩ h
theorem XnK {zs:List Int} {n:Int} (h:XnI zs n ≠ -1):0≤XnI zs n∧XnI zs n<zs.length:=by
 have a:=XnJ zs n;refine ⟨by omega,?_⟩;unfold XnI at *;split at h
 ·exact absurd rfl h
 ·rename_i b
  rw [if_neg b] at a;rw [if_neg b];exact Xiq a
theorem Xgu {c:Conf} {M:RmM} {who size:Int} (hok:M.Ok c) (hw:0≤who) (h:XpA c M size=0):XpY c M who size=0:=by
 have a:(XpN c M size:Int)≤M.pl.free.length:=by
  unfold XpA at h;split at h
  ·exact absurd h (by decide)
  ·split at h
   ·exact absurd h (by decide)
   ·omega
 unfold XpY;rw [if_neg (by omega),if_neg (by omega)];split
 ·rfl
 ·rename_i b
  obtain ⟨g,i⟩:=XnK b;obtain ⟨k,d⟩:=Int.eq_ofNat_of_zero_le g;rw [d] at i ⊢;have e:k<M.shs.length:=by have:=hok.n; omega
  have f:=XpD e;unfold Xqc;rw [f];simp only
  unfold Xrt;rw [if_neg (by omega),if_neg];intro ⟨j,l⟩;unfold XpN at a;rw [if_neg b,d] at a;unfold XpO at a;rw [f] at a;simp only [j,l] at a;omega
theorem XpH {M:RmM} {k j:Nat} {x:Sm} {q:PlM} {t:Int}:XpC {M with shs:=M.shs.set k x,pl:=q,tot:=t} j=if k=j∧k<M.shs.length then some x else XpC M j:=by
 unfold XpC;rw [if_pos (Int.natCast_nonneg _),if_pos (Int.natCast_nonneg _),Int.toNat_natCast];show (M.shs.set k x)[j]? = _
 by_cases e:k=j
 ·subst e;by_cases a:k<M.shs.length
  ·rw [if_pos ⟨rfl,a⟩,List.getElem?_set_self a]
  ·rw [if_neg (fun h=>a h.2),List.getElem?_eq_none (by rw [List.length_set]; omega),List.getElem?_eq_none (by omega)]
 ·rw [if_neg (fun h=>e h.1),List.getElem?_set_ne e]
theorem XmG {x:Sm} {n i:Int} (h:Xrk x n i = -1):Xrd x n i≠0:=by
 unfold Xrk at h;unfold Xrd;cases a:Xsi x.pg n with
 |none=>simp
 |some p =>
  rw [a] at h;simp only at h ⊢
  unfold Xnf;split
  ·decide
  ·first | decide | (rw [if_pos h]; decide)
theorem XpE {M:RmM} {k:Int} (h:k<0):XpC M k=none:=XpF (.inl h)
theorem Xsn {l:PgL} {n:Nat} {p q:List Int} (hn:(l.map (·.1)).Nodup) (hq:(n,q) ∈ l) (m:Int):Xsi (Xsr l n p) m=if m=n then some p else Xsi l m:=by
 by_cases e:m=n
 ·rw [if_pos e,e]; exact Xso hn hq
 ·rw [if_neg e]
  clear hn hq
  induction l with
  |nil=>rfl
  |cons a r ih =>
   obtain ⟨k,t⟩:=a;by_cases c:k=n
   ·have:Xsr ((k,t)::r) n p=(n,p)::Xsr r n p:=by show (if k=n then (n,p) else (k,t))::Xsr r n p=_; rw [if_pos c]
    rw [this];unfold Xsi;rw [if_neg (fun h=>e h.symm),if_neg (fun h=>e (by omega))];exact ih
   ·have:Xsr ((k,t)::r) n p=(k,t)::Xsr r n p:=by show (if k=n then (n,p) else (k,t))::Xsr r n p=_; rw [if_neg c]
    rw [this];unfold Xsi;by_cases b:(k:Int)=m
    ·rw [if_pos b,if_pos b]
    ·rw [if_neg b,if_neg b]; exact ih
theorem Xsj {l:PgL} {n:Nat} {p:List Int} (hn:n ∉ l.map (·.1)) (m:Int):Xsi (l ++ [(n,p)]) m=if m=n then some p else Xsi l m:=by
 induction l with
 |nil =>
  show Xsi [(n,p)] m=_
  unfold Xsi;by_cases e:(n:Int)=m
  ·rw [if_pos e,if_pos e.symm]
  ·rw [if_neg e,if_neg (fun h=>e h.symm)]; rfl
 |cons a r ih =>
  obtain ⟨k,t⟩:=a;have d:k≠n:=fun h=>hn (by simp [h]);have c:n ∉ r.map (·.1):=fun h=>hn (by simp at h ⊢; exact .inr h);show (if (k:Int)=m then some t else Xsi (r ++ [(n,p)]) m)=if m=n then some p else (if (k:Int)=m then some t else Xsi r m)
  rw [ih c];by_cases b:(k:Int)=m
  ·rw [if_pos b,if_pos b,if_neg (by omega)]
  ·rw [if_neg b,if_neg b]
theorem Xsk {l:PgL} {n:Nat} (m:Int):Xsi (Xse l n) m=if m=n then none else Xsi l m:=by
 induction l with
 |nil=>show none=_; split <;> rfl
 |cons a r ih =>
  obtain ⟨k,t⟩:=a;by_cases c:k=n
  ·have:Xse ((k,t)::r) n=Xse r n:=by unfold Xse; rw [List.filter_cons]; simp [c]
   rw [this,ih];by_cases e:m=n
   ·rw [if_pos e,if_pos e]
   ·rw [if_neg e,if_neg e];show _=if (k:Int)=m then some t else Xsi r m
    rw [if_neg (by omega)]
  ·have:Xse ((k,t)::r) n=(k,t)::Xse r n:=by unfold Xse; rw [List.filter_cons]; simp [c]
   rw [this];show (if (k:Int)=m then some t else Xsi (Xse r n) m)=if m=n then none else (if (k:Int)=m then some t else Xsi r m)
   rw [ih];by_cases b:(k:Int)=m
   ·rw [if_pos b,if_pos b,if_neg (by omega)]
   ·rw [if_neg b,if_neg b]
theorem Xno {p:List Int} {k:Nat} {v:Int} (h:k<p.length) (j:Int):Xnk (p.set k v) j=if j=k then v else Xnk p j:=by
 unfold Xnk;by_cases a:0≤j
 ·obtain ⟨j,rfl⟩:=Int.eq_ofNat_of_zero_le a;rw [if_pos a,if_pos a];show (p.set k v).getD j (-1)=_
  rw [Xg9];by_cases e:k=j
  ·subst e; rw [if_pos ⟨rfl,h⟩,if_pos rfl]
  ·rw [if_neg (fun h=>e h.1),if_neg (by omega)]; rfl
 ·rw [if_neg a,if_neg a,if_neg (by omega)]
theorem Xnp {p:List Int} {j:Int} (h:Xnk p j ≠ -1):0≤j∧j<p.length:=by
 unfold Xnk at h;split at h
 ·rename_i a
  refine ⟨a,?_⟩;refine Int.not_le.1 fun b=>h ?_;rw [List.getD_eq_getElem?_getD,List.getElem?_eq_none (by omega)];rfl
 ·exact absurd rfl h
theorem XmH {x:Sm} {n i:Int} (hok:x.Ok) (h:Xrk x n i ≠ -1):∃ (m:Nat) (p:List Int),n=m∧(m,p) ∈ x.pg∧Xsi x.pg n=some p∧0≤i∧i<x.blocks∧Xrk x n i=Xnk p i:=by
 unfold Xrk at h ⊢;cases c:Xsi x.pg n with
 |none=>rw [c] at h; exact absurd rfl h
 |some p =>
  rw [c] at h;simp only at h
  obtain ⟨m,rfl,hm⟩:=Xsp c;have d:=(hok.each _ hm).2.1;obtain ⟨a,b⟩:=Xnp h;exact ⟨m,p,rfl,hm,rfl,a,by simp only at d; omega,rfl⟩
theorem Xhc {x:Sm} {n i:Int}:Xrd x n i=0↔Xrk x n i ≠ -1:=by
 constructor
 ·intro h d; exact XmG d h
 ·intro h;unfold Xrk at h;unfold Xrd;cases c:Xsi x.pg n with
  |none=>rw [c] at h; exact absurd rfl h
  |some p =>
   rw [c] at h;simp only at h ⊢
   obtain ⟨a,b⟩:=Xnp h;unfold Xnf;rw [if_neg (by omega),if_neg h]
theorem Xmr {x:Sm} {n i who:Int} (hw:0≤who):Xrj x n i who=0↔Xrk x n i ≠ -1:=by
 unfold Xrk Xrj;cases d:Xsi x.pg n with
 |none=>simp
 |some p =>
  simp only
  unfold Xnl;constructor
  ·intro h c;split at h
   ·cases h
   ·first | (rw [if_pos c] at h; cases h) | (cases h)
  ·intro h;obtain ⟨a,b⟩:=Xnp h;rw [if_neg (by omega),if_neg h]
theorem Xhh {x:Sm} {n i:Int} (hok:x.Ok) (h:Xrk x n i ≠ -1) (m j:Int):Xrk (Xrc x n i) m j=if m=n∧j=i then -1 else Xrk x m j:=by
 obtain ⟨k,p,rfl,o,l,t,A,e⟩:=XmH hok h;obtain ⟨i,rfl⟩:=Int.eq_ofNat_of_zero_le t;rw [e] at h;have u:=(hok.each _ o).2.1;simp only at u
 have q:Xnf p i=0:=by unfold Xnf; rw [if_neg (by omega),if_neg h]
 have w:Xrc x (k:Nat) i=x.giveAt k p i:=by unfold Xrc; rw [l]; simp only; rw [if_pos q,Int.toNat_natCast]
 rw [w];have d:Xne p i=p.set i (-1):=by unfold Xne; rw [if_pos q,Int.toNat_natCast]
 unfold Sm.giveAt;simp only
 by_cases r:Xnz (Xne p i)=0
 ·rw [if_pos r];unfold Xrk;simp only
  rw [Xsk];by_cases hm:m=k
  ·rw [if_pos hm];by_cases c:j=i
   ·rw [if_pos ⟨hm,c⟩]
   ·rw [if_neg (fun h=>c h.2),hm,l];simp only
    have s:Xnk (Xne p i) j = -1:=Decidable.byContradiction fun f=>by
     obtain ⟨a,b⟩:=Xnp f;obtain ⟨j,rfl⟩:=Int.eq_ofNat_of_zero_le a;have g:j<(Xne p i).length:=by omega
     have:=XnD (v := -1) g;rw [if_pos rfl] at this;have y:(Xne p i).getD j 0 ≠ -1:=by
      rw [XgZ g];intro z;apply f
      unfold Xnk;rw [if_pos a,Int.toNat_natCast]; exact z
     rw [if_neg y] at this;omega
    rw [d,Xno (by omega),if_neg c] at s;exact s.symm
  ·rw [if_neg hm,if_neg (fun h=>hm h.1)]
 ·rw [if_neg r];unfold Xrk;simp only
  rw [Xsn hok.nodup o];by_cases hm:m=k
  ·rw [if_pos hm,hm,l];simp only
   rw [d,Xno (by omega)];by_cases c:j=i
   ·rw [if_pos c,if_pos ⟨by trivial,c⟩]
   ·rw [if_neg c,if_neg (fun h=>c h.2)]
  ·rw [if_neg hm,if_neg (fun h=>hm h.1)]
theorem Xmy {x:Sm} {n i who:Int} (hok:x.Ok) (hw:0≤who) (h:Xrk x n i ≠ -1) (m j:Int):Xrk (Xri x n i who) m j=if m=n∧j=i then who else Xrk x m j:=by
 obtain ⟨k,p,rfl,b,c,f,q,e⟩:=XmH hok h;obtain ⟨i,rfl⟩:=Int.eq_ofNat_of_zero_le f;rw [e] at h;have g:=(hok.each _ b).2.1;simp only at g
 have l:Xnl p i who=0:=by unfold Xnl; rw [if_neg (by omega),if_neg h]
 have o:Xri x (k:Nat) i who=x.ownAt k p i who:=by unfold Xri; rw [c]; simp only [Int.toNat_natCast]
 rw [o];have d:Xnm p i who=p.set i who:=by unfold Xnm; rw [if_pos l,Int.toNat_natCast]
 unfold Sm.ownAt Xrk;simp only
 rw [Xsn hok.nodup b];by_cases hm:m=k
 ·rw [if_pos hm,hm,c];simp only
  rw [d,Xno (by omega)];by_cases a:j=i
  ·rw [if_pos a,if_pos ⟨by trivial,a⟩]
  ·rw [if_neg a,if_neg (fun h=>a h.2)]
 ·rw [if_neg hm,if_neg (fun h=>hm h.1)]
theorem Xut {x:Sm} {n:Nat} {p:List Int} {who:Int} (hok:x.Ok) (hw:0≤who) (hp:(n,p) ∈ x.pg) (hf:Xnz p≠x.blocks) (m j:Int):Xrk (x.takeAt n p who) m j=(if m=n∧j=Xni p then who else Xrk x m j)∧Xrk x n (Xni p) = -1∧0≤Xni p∧Xni p<x.blocks:=by
 have d:=(hok.each _ hp).2.1;simp only at d
 have f:=Xsm hok.nodup hp;obtain ⟨e1,_⟩:=Xnw (p:=p) (who:=who) hw (by rw [d]; exact hf);have l:¬ Xni p<0:=fun e=>by have:=Xnj.1 e; omega
 obtain ⟨b,c⟩:=XnF l;obtain ⟨k,g⟩:=Int.eq_ofNat_of_zero_le (show 0≤Xni p by omega);rw [g] at b c ⊢;simp only [Int.toNat_natCast] at b c;have i:Xns p who=p.set k who:=by unfold Xns; rw [if_pos e1,g,Int.toNat_natCast]
 refine ⟨?_,?_,by omega,by omega⟩
 ·unfold Sm.takeAt Xrk;simp only
  rw [Xsn hok.nodup hp,i];by_cases hm:m=n
  ·rw [if_pos hm,hm,f];simp only
   rw [Xno b];by_cases a:j=k
   ·rw [if_pos a,if_pos ⟨by trivial,a⟩]
   ·rw [if_neg a,if_neg (fun h=>a h.2)]
  ·rw [if_neg hm,if_neg (fun h=>hm h.1)]
 ·unfold Xrk;rw [f];simp only
  unfold Xnk;rw [if_pos (by omega),Int.toNat_natCast]; exact c
structure XbG (x:Sm) (pl:PlM) (who:Int):Prop where
 own:∀ m j,Xrk (Xrr x pl who) m j=if m=Xru x pl who∧j=Xrs x pl who then who else Xrk x m j
 free:Xrk x (Xru x pl who) (Xrs x pl who) = -1
 n:0≤Xru x pl who∧Xru x pl who<pl.own.length
 a:0≤Xrs x pl who∧Xrs x pl who<x.blocks
 used:Xsx (Xrr x pl who).pg=Xsx x.pg+1
 ok:(Xrr x pl who).Ok
theorem Xuv {x:Sm} {pl:PlM} {who:Int} (hok:x.Ok) (hof:x.Of pl) (hg:pl.Good) (hE:Xrt x pl who=0):XbG x pl who:=by
 rcases Xrw x pl who with ⟨l,_⟩ | ⟨_,q,⟨n,r,s,d,y,g,h,e⟩ | ⟨n,r,s,hf,d,y,g,h,e⟩⟩
 ·exact absurd hE l
 ·obtain ⟨p,c⟩:=hok.osub n (by rw [s]; simp);rw [Xsm hok.nodup c] at g;simp only [Option.getD_some] at g;rw [g] at d e;have f:=(hok.each _ c).2.2.1 (by rw [s]; simp);simp only at f
  have t:=(hok.each _ c).2.1;simp only at t
  have T:=fun m j=>Xut hok q c f m j;obtain ⟨_,e2⟩:=Xnw (p:=p) (who:=who) q (by rw [t]; exact f);refine ⟨fun m j=>by rw [d,h,e]; exact (T m j).1,by rw [h,e]; exact (T 0 0).2.1,?_,by rw [e]; exact (T 0 0).2.2,?_,by rw [d]; exact hok.takeAt q c (by rw [s]; simp)⟩
  ·rw [h]; have:=(hof _ c).1; simp only at this; omega
  ·rw [d];have:=XsB (p:=Xns p who) hok.nodup c;show Xsx (Xsr _ _ _)=_
   omega
 ·have i:=XgV hok hof hg (n:=n) (by rw [hf]; simp);have B:=(hg.free n (by rw [hf]; simp)).1;have v:n<1024:=by have:=hg.len; omega
  have o:=hok.fresh v i;have c:(n,List.replicate x.blocks (-1)) ∈ (x.fresh n).pg:=List.mem_append_right _ (by simp);rw [Xsm o.nodup c] at g;simp only [Option.getD_some] at g;rw [g] at d e;have C:=hok.blk;have f:Xnz (List.replicate x.blocks (-1))≠(x.fresh n).blocks:=by rw [XnC]; show 0≠x.blocks; omega
  have T:=fun m j=>Xut o q c f m j;have u:∀ m j,Xrk (x.fresh n) m j=Xrk x m j:=fun m j=>by
   unfold Xrk;show (match Xsi (x.pg ++ [(n,List.replicate x.blocks (-1))]) m with | some p=>Xnk p j | none => -1)=_
   rw [Xsj i];by_cases hm:m=n
   ·rw [if_pos hm];have z:Xsi x.pg m=none:=by
     cases hg:Xsi x.pg m with
     |none=>rfl
     |some p =>
      obtain ⟨k,D,w⟩:=Xsp hg;have:k=n:=by omega
      subst this;exact absurd (List.mem_map.2 ⟨_,w,rfl⟩) i
    rw [z];simp only
    refine Decidable.byContradiction fun l => ?_;obtain ⟨a,b⟩:=Xnp l;apply l
    unfold Xnk;rw [if_pos a,List.getD_eq_getElem?_getD,List.getElem?_replicate];split <;> rfl
   ·rw [if_neg hm]; rfl
  have t:(List.replicate x.blocks (-1:Int)).length=x.blocks:=List.length_replicate;obtain ⟨_,e2⟩:=Xnw (p:=List.replicate x.blocks (-1)) (who:=who) q (by rw [XnC,t]; omega);refine ⟨fun m j=>by rw [d,h,e,(T m j).1,u],by rw [h,e,← u]; exact (T 0 0).2.1,by rw [h]; omega,by rw [e]; exact (T 0 0).2.2,?_,by rw [d]; exact o.takeAt q c (by show n ∈ n::x.opn; simp)⟩;rw [d];have A:=XsB (p:=Xns (List.replicate x.blocks (-1)) who) o.nodup c;have E:Xsx (x.fresh n).pg=Xsx x.pg:=by show Xsx (x.pg++_)=_; rw [Xsy,XnC]; rfl
  rw [XnC] at A e2;show Xsx (Xsr _ _ _)=_
  omega
structure Xbg (c:Conf) (M:RmM):Prop where
 ok:M.Ok c
 mok:MOk M
 pos:XaK M
theorem Xsq {x:Sm} {n:Nat} {p:List Int} (hp:x.Pos) (h:0<Xnz p):∀ e ∈ Xsr x.pg n p,0<Xnz e.2:=fun e a=>by
 rcases XkS a with ⟨rfl,_⟩ | ⟨_,a⟩
 ·exact h
 ·exact hp e a
theorem XuA {x:Sm} {pl:PlM} {who:Int} (hok:x.Ok) (hpos:x.Pos) (hof:x.Of pl) (hg:pl.Good):(Xrr x pl who).Pos:=by
 rcases Xrw x pl who with ⟨_,h,_⟩ | ⟨_,j,⟨n,r,f,g,o,a,_⟩ | ⟨n,r,f,hf,g,o,a,_⟩⟩
 ·rw [h]; exact hpos
 ·obtain ⟨p,b⟩:=hok.osub n (by rw [f]; simp);rw [Xsm hok.nodup b] at a;simp only [Option.getD_some] at a;rw [g,a];have c:=(hok.each _ b).2.1;have d:=(hok.each _ b).2.2.1 (by rw [f]; simp);simp only at c d
  obtain ⟨_,e2⟩:=Xnw (p:=p) (who:=who) j (by rw [c]; exact d);exact Xsq hpos (by omega)
 ·have i:=XgV hok hof hg (n:=n) (by rw [hf]; simp);have k:n<1024:=by have:=(hg.free n (by rw [hf]; simp)).1; have:=hg.len; omega
  have l:=hok.fresh k i;have b:(n,List.replicate x.blocks (-1)) ∈ (x.fresh n).pg:=List.mem_append_right _ (by simp);rw [Xsm l.nodup b] at a;simp only [Option.getD_some] at a;rw [g,a];have c:(List.replicate x.blocks (-1:Int)).length=x.blocks:=List.length_replicate;have q:=hok.blk;obtain ⟨_,e2⟩:=Xnw (p:=List.replicate x.blocks (-1)) (who:=who) j (by rw [XnC,c]; omega);intro e he;rcases XkS he with ⟨rfl,_⟩ | ⟨m,he⟩
  ·show 0<Xnz (Xns _ _); omega
  ·rcases List.mem_append.1 he with he | he
   ·exact hpos e he
   ·have:e=(n,List.replicate x.blocks (-1)):=by simpa using he
    subst this;exact absurd rfl m
theorem Xhj {x:Sm} {n i:Int} (hpos:x.Pos):(Xrc x n i).Pos:=by
 unfold Xrc;cases d:Xsi x.pg n with
 |none=>exact hpos
 |some p =>
  simp only
  by_cases a:Xnf p i=0
  ·rw [if_pos a];unfold Sm.giveAt;simp only
   by_cases b:Xnz (Xne p i)=0
   ·rw [if_pos b];intro e c;exact hpos e (XkR.1 c).2
   ·rw [if_neg b];exact Xsq hpos (by omega)
  ·rw [if_neg a]; exact hpos
theorem XmB {x:Sm} {n i who:Int} (hpos:x.Pos):(Xri x n i who).Pos:=by
 unfold Xri;cases a:Xsi x.pg n with
 |none=>exact hpos
 |some p =>
  obtain ⟨m,rfl,hm⟩:=Xsp a;exact Xsq hpos (by rw [Xnr]; exact hpos _ hm)
theorem Xhg {x:Sm} {n i:Int} (hok:x.Ok):(Xrc x n i).Ok:=by
 unfold Xrc;cases b:Xsi x.pg n with
 |none=>exact hok
 |some p =>
  obtain ⟨m,rfl,hm⟩:=Xsp b;simp only [Int.toNat_natCast];by_cases a:Xnf p i=0
  ·rw [if_pos a]; exact hok.giveAt hm a
  ·rw [if_neg a]; exact hok
theorem Xmx {x:Sm} {n i who:Int} (hok:x.Ok):(Xri x n i who).Ok:=by
 unfold Xri;cases a:Xsi x.pg n with
 |none=>exact hok
 |some p =>
  obtain ⟨m,rfl,hm⟩:=Xsp a;simp only [Int.toNat_natCast];exact hok.ownAt hm
theorem Xux {x:Sm} {pl:PlM} {who:Int} (hok:x.Ok) (hof:x.Of pl) (hg:pl.Good):(Xrr x pl who).Ok:=by
 by_cases a:Xrt x pl who=0
 ·exact (Xuv hok hof hg a).ok
 ·have:Xrr x pl who=x:=by unfold Xrr; rw [if_neg a]
  rw [this]; exact hok
section
variable {c:Conf} {M:RmM}
theorem Xbg.set {k:Nat} {x x':Sm} {q:PlM} (h:Xbg c M) (hx:M.shs[k]? = some x) (hE:Eff M.pl q x.cls) (hc:x'.cls=x.cls) (hb:x'.blocks=x.blocks) (hs:XhV q+x.pg.length=XhV M.pl+x'.pg.length) (hok:x'.Ok) (hof:x'.Of q) (hpos:x'.Pos):Xbg c (Xp8 M k x' q):=by
 have g:=(List.getElem?_eq_some_iff.1 hx).1;obtain ⟨e1,_⟩:=h.ok.each k x hx;have f:=(h.mok.sh k x hx).1.cls;have get:∀ (j:Nat) (y:Sm),(Xp8 M k x' q).shs[j]? = some y→(j=k∧y=x')∨(j≠k∧M.shs[j]? = some y):=fun j y d=>by
  replace d:(M.shs.set k x')[j]? = some y:=d;by_cases e:k=j
  ·subst e; rw [List.getElem?_set_self g] at d; cases d; exact .inl ⟨rfl,rfl⟩
  ·rw [List.getElem?_set_ne e] at d; exact .inr ⟨fun h=>e h.symm,d⟩
 refine ⟨h.ok.set h.mok.good hx hE hc hb hs,⟨fun j y d => ?_,hE.good h.mok.good f⟩,fun j y d => ?_⟩
 ·rcases get j y d with ⟨_,rfl⟩ | ⟨i,d⟩
  ·exact ⟨hok,hof⟩
  ·obtain ⟨a,b⟩:=h.mok.sh j y d;obtain ⟨e2,_⟩:=h.ok.each j y d;exact ⟨a,hE.of h.mok.good b (by omega) (by omega)⟩
 ·rcases get j y d with ⟨_,rfl⟩ | ⟨_,d⟩
  ·exact hpos
  ·exact h.pos j y d
theorem Xbg.tot (h:Xbg c M) {t:Int} (ht:0≤t∧t≤4611686018427387904):Xbg c {M with tot:=t}:=⟨{h.ok with tot:=ht},⟨h.mok.sh,h.mok.good⟩,h.pos⟩
theorem Xbg.charge (h:Xbg c M) (n:Int):Xbg c {M with tot:=XeA M.tot n}:=h.tot (XeD h.ok.tot)
theorem Xp7 (k:Nat) (x:Sm) (q:PlM):Xp6 M k x q={Xp8 M k x q with tot:=XeA M.tot (XeP M.pl q)}:=rfl
theorem Xbg.take (h:Xbg c M) (k who:Int):Xbg c (Xqa M k who):=by
 unfold Xqa;cases b:XpC M k with
 |none=>exact h
 |some x =>
  obtain ⟨n,rfl,d,a⟩:=XpI b;simp only [Int.toNat_natCast];split
  ·obtain ⟨xo,xf⟩:=h.mok.sh n x a;obtain ⟨e1,e2,e3,e4⟩:=Xuu x M.pl who h.mok.good xo.cls;rw [Xp7];exact (h.set a e1 e2 e3 e4 (Xux xo xf h.mok.good) (Xuw x M.pl who xf h.mok.good) (XuA xo (h.pos n x a) xf h.mok.good)).tot (XeD h.ok.tot)
  ·exact h
theorem Xbg.give (h:Xbg c M) (k n i:Int):Xbg c (XpJ M k n i):=by
 unfold XpJ;cases b:XpC M k with
 |none=>exact h
 |some x =>
  obtain ⟨m,rfl,d,a⟩:=XpI b;simp only [Int.toNat_natCast];split
  ·obtain ⟨xo,xf⟩:=h.mok.sh m x a;obtain ⟨e1,e2,e3,e4⟩:=Xhd x M.pl n i xo xf;rw [Xp7];exact (h.set a e1 e2 e3 e4 (Xhg xo) (Xhf x M.pl n i xo xf) (Xhj (h.pos m x a))).tot (XeD h.ok.tot)
  ·exact h
theorem Xbg.own (h:Xbg c M) (k n i who:Int):Xbg c (XpP M k n i who):=by
 unfold XpP;cases b:XpC M k with
 |none=>exact h
 |some x =>
  obtain ⟨m,rfl,d,a⟩:=XpI b;simp only [Int.toNat_natCast];obtain ⟨xo,xf⟩:=h.mok.sh m x a;obtain ⟨e1,e2,e3,e4⟩:=Xmu x M.pl n i who;exact h.set a e1 e2 e3 e4 (Xmx xo) (Xmw x M.pl n i who xf) (XmB (h.pos m x a))
theorem Xbg.big (h:Xbg c M) {many:Nat} (h1:1≤many) (hm:many≤M.pl.free.length):Xbg c (Xpv M many):=by
 obtain ⟨d,_⟩:=Xn2 (who:=((M.shs.length:Nat):Int)) (by omega) h.mok.good many hm;exact ⟨h.ok.big h.mok.good h1 hm,⟨fun k x e=>by
  obtain ⟨a,b⟩:=h.mok.sh k x e;exact ⟨a,Xn1 (by omega) h.mok.good hm a.cls b⟩,d⟩,h.pos⟩
theorem XjE (h:M.Ok c) {n:Nat} {r:List Nat} (hm:(n,r) ∈ M.lg):(n::r).Nodup:=by
 obtain ⟨A,B,eA,_⟩:=Xju h.nd hm;have e:Xjr M.lg=Xjr A++((n::r)++Xjr B):=by rw [eA,Xjs]; rfl
 have a:=h.nd;rw [e] at a;exact (List.nodup_append.1 (List.nodup_append.1 a).2.1).1
theorem Xbg.gone (h:Xbg c M) {n:Nat} {r:List Nat} (hm:(n,r) ∈ M.lg):Xbg c (XpM M n r):=by
 obtain ⟨a,b⟩:=h.ok.gone h.mok.good hm;have g:=XjE h.ok hm;have e:∀ m ∈ n::r,m<M.pl.own.length∧M.pl.own.getD m 0=(M.shs.length:Int):=fun m d=>h.ok.lg m (XkP hm d);exact ⟨a,⟨fun k x f=>by
  obtain ⟨xo,xf⟩:=h.mok.sh k x f;have j:k<M.shs.length:=(List.getElem?_eq_some_iff.1 f).1;have i:=(h.ok.each k x f).1;exact ⟨xo,XnS h.mok.good g (fun m d=>⟨(e m d).1,by have:=(e m d).2; omega⟩) xf (fun m d=>by have:=(e m d).2; omega)⟩,b⟩,h.pos⟩
theorem Xgq {size:Int} (hmay:XkH c=true) (h:XpA c M size=0) (hp:XnI c.classes size = -1):2≤(Xce size c.size).toNat∧(Xce size c.size).toNat≤M.pl.free.length∧1≤size∧size≤c.most:=by
 have hf:=XkN hmay;have d:(XpN c M size:Int)≤M.pl.free.length ∧ ¬ (size<1∨c.most<size):=by
  unfold XpA at h;split at h
  ·exact absurd h (by decide)
  ·split at h
   ·exact absurd h (by decide)
   ·exact ⟨by omega,by assumption⟩
 have e:XpN c M size=Xce size c.size:=by unfold XpN; rw [if_pos hp]
 have a:2≤Xce size c.size:=by
  have f:=hf.size;have b:=hf.most;have g:0≤(size - 1) / c.size:=Int.ediv_nonneg (by omega) (by omega);have i:(size - 1) / c.size≤size - 1:=Int.ediv_le_self _ (by omega);have e4:XkA size c.size=(size - 1) / c.size+1:=by unfold XkA; rw [if_neg (by omega)]
  unfold Xce;rw [e4,if_neg (by omega)];omega
 omega
theorem Xbg.drop (h:Xbg c M) (q:PlcM):Xbg c (Xpw M q):=by
 unfold Xpw;split
 ·exact h.give _ _ _
 ·split
  ·exact h
  ·rename_i r a
   split
   ·obtain ⟨n,b,hm⟩:=Xjz a;rw [b,Int.toNat_natCast];exact h.gone hm
   ·exact h
theorem XpG {k:Nat} {x':Sm} {q:PlM} (hk:k<M.shs.length) (j:Int):XpC (Xp8 M k x' q) j=if j=k then some x' else XpC M j:=by
 by_cases a:j<0
 ·rw [if_neg (by omega),XpE a,XpE a]
 ·obtain ⟨j,rfl⟩:=Int.eq_ofNat_of_zero_le (show 0≤j by omega);have:=XpH (M:=M) (k:=k) (j:=j) (x:=x') (q:=q) (t:=M.tot);have e:Xp8 M k x' q={M with shs:=M.shs.set k x',pl:=q,tot:=M.tot}:=rfl;rw [e,this];by_cases h:k=j
  ·rw [if_pos ⟨h,hk⟩,if_pos (by omega)]
  ·rw [if_neg (fun b=>h b.1),if_neg (by omega)]
theorem XpW {k:Nat} {x x':Sm} {q:PlM} (hx:M.shs[k]? = some x) (j n a:Int):XpS (Xp8 M k x' q) j n a=if j=k then Xrk x' n a else XpS M j n a:=by
 have b:=(List.getElem?_eq_some_iff.1 hx).1;unfold XpS;rw [XpG b];by_cases h:j=k
 ·rw [if_pos h,if_pos h]
 ·rw [if_neg h,if_neg h]
theorem XpV (k:Nat) (x:Sm) (q:PlM) (j n a:Int):XpS (Xp6 M k x q) j n a=XpS (Xp8 M k x q) j n a:=rfl
theorem XpT {k:Nat} {x:Sm} (hx:M.shs[k]? = some x) (n a:Int):XpS M (k:Nat) n a=Xrk x n a:=by
 have b:=(List.getElem?_eq_some_iff.1 hx).1;have e:=(List.getElem?_eq_some_iff.1 hx).2;unfold XpS;rw [XpD b,e]
theorem XpU (h:Xbg c M) {k n a:Int} (ho:XpS M k n a ≠ -1):∃ (j:Nat) (x:Sm),k=j∧j<c.classes.length∧M.shs[j]? = some x∧Xrk x n a=XpS M k n a∧0≤n∧n<c.pages∧0≤a∧a<XdS c k:=by
 unfold XpS at ho;cases d:XpC M k with
 |none=>rw [d] at ho; exact absurd rfl ho
 |some x =>
  rw [d] at ho;simp only at ho
  obtain ⟨j,rfl,i,b⟩:=XpI d;obtain ⟨xo,xf⟩:=h.mok.sh j x b;obtain ⟨m,p,rfl,hm,_,f,l,_⟩:=XmH xo ho;have o:=(h.ok.each j x b).2;have e:=(xf _ hm).1;have g:=h.ok.own;have q:=h.ok.n;exact ⟨j,x,rfl,by omega,b,(XpT b _ _).symm,by omega,by simp only at e; omega,f,by omega⟩
theorem Xqe (h:Xbg c M) {k who:Int} (hE:Xqc M k who=0):∃ (j:Nat) (x:Sm),k=j∧j<M.shs.length∧M.shs[j]? = some x∧Xrt x M.pl who=0∧Xqa M k who=Xp6 M j (Xrr x M.pl who) (Xrv x M.pl who)∧Xqd M k who=Xru x M.pl who∧Xqb M k who=Xrs x M.pl who:=by
 unfold Xqc at hE;cases a:XpC M k with
 |none=>rw [a] at hE; exact absurd (show (1:Int)=0 from hE) (by decide)
 |some x =>
  rw [a] at hE;obtain ⟨j,rfl,b,d⟩:=XpI a;simp only at hE
  exact ⟨j,x,rfl,b,d,hE,by unfold Xqa; rw [a]; simp only; rw [if_pos hE,Int.toNat_natCast],by unfold Xqd; rw [a],by unfold Xqb; rw [a]⟩
theorem Xuz (h:Xbg c M) {k who:Int} (hE:Xqc M k who=0):(∀ j n a,XpS (Xqa M k who) j n a=if j=k∧n=Xqd M k who∧a=Xqb M k who then who else XpS M j n a)∧XpS M k (Xqd M k who) (Xqb M k who) = -1:=by
 obtain ⟨i,x,rfl,g,b,f,e1,e2,e3⟩:=Xqe h hE;obtain ⟨xo,xf⟩:=h.mok.sh i x b;have T:=Xuv xo xf h.mok.good f;refine ⟨fun j n a => ?_,by rw [e2,e3,XpT b]; exact T.free⟩;rw [e1,e2,e3,XpV,XpW b];by_cases d:j=i
 ·rw [if_pos d,T.own,d,XpT b];by_cases e:n=Xru x M.pl who∧a=Xrs x M.pl who
  ·rw [if_pos e,if_pos ⟨rfl,e⟩]
  ·rw [if_neg e,if_neg (fun h=>e h.2)]
 ·rw [if_neg d,if_neg (fun h=>d h.1)]
theorem Xhi (h:Xbg c M) {k n i:Int} (ho:XpS M k n i ≠ -1):XpK M k n i=0 ∧ ∀ j m a,XpS (XpJ M k n i) j m a=if j=k∧m=n∧a=i then -1 else XpS M j m a:=by
 obtain ⟨l,x,rfl,_,b,e,_⟩:=XpU h ho;obtain ⟨xo,xf⟩:=h.mok.sh l x b;have p:=(List.getElem?_eq_some_iff.1 b).1;have g:XpC M (l:Nat)=some x:=by rw [XpD p]; exact congrArg some (List.getElem?_eq_some_iff.1 b).2
 rw [← e] at ho;have o:=Xhc.2 ho;have e1:XpJ M (l:Nat) n i=Xp6 M l (Xrc x n i) (Xre x M.pl n i):=by unfold XpJ; rw [g]; simp only; rw [if_pos o,Int.toNat_natCast]
 refine ⟨by unfold XpK; rw [g]; exact o,fun j m a => ?_⟩;rw [e1,XpV,XpW b];by_cases d:j=l
 ·rw [if_pos d,Xhh xo ho,d,XpT b];by_cases f:m=n∧a=i
  ·rw [if_pos f,if_pos ⟨rfl,f⟩]
  ·rw [if_neg f,if_neg (fun h=>f h.2)]
 ·rw [if_neg d,if_neg (fun h=>d h.1)]
theorem Xmz (h:Xbg c M) {k n i who:Int} (hw:0≤who) (ho:XpS M k n i ≠ -1):XpQ M k n i who=0 ∧ ∀ j m a,XpS (XpP M k n i who) j m a=if j=k∧m=n∧a=i then who else XpS M j m a:=by
 obtain ⟨l,x,rfl,_,b,e,_⟩:=XpU h ho;obtain ⟨xo,xf⟩:=h.mok.sh l x b;have o:=(List.getElem?_eq_some_iff.1 b).1;have g:XpC M (l:Nat)=some x:=by rw [XpD o]; exact congrArg some (List.getElem?_eq_some_iff.1 b).2
 rw [← e] at ho;have e1:XpP M (l:Nat) n i who=Xp8 M l (Xri x n i who) M.pl:=by unfold XpP; rw [g]; simp only [Int.toNat_natCast]
 refine ⟨by unfold XpQ; rw [g]; exact (Xmr hw).2 ho,fun j m a => ?_⟩;rw [e1,XpW b];by_cases d:j=l
 ·rw [if_pos d,Xmy xo hw ho,d,XpT b];by_cases f:m=n∧a=i
  ·rw [if_pos f,if_pos ⟨rfl,f⟩]
  ·rw [if_neg f,if_neg (fun h=>f h.2)]
 ·rw [if_neg d,if_neg (fun h=>d h.1)]
end
theorem Xg3 {x:List Bool} {j:Nat} (h:j<x.length):x.getD j false=x[j]:=by rw [List.getD_eq_getElem?_getD,List.getElem?_eq_getElem h]; rfl
theorem Xh0 {x:List Bool} (h:cnt x≠0):∃ t,t<x.length∧x.getD t false=true∧XhZ x=(t:Int):=by
 have key:∀ m,m≤x.length→(∀ j,m≤j→x.getD j false=false)→(∀ j,x.getD j false=false) ∨ ∃ t,t<x.length∧x.getD t false=true ∧ ∀ j,t<j→x.getD j false=false:=by
  intro m
  induction m with
  |zero=>intro _ h; exact .inl fun j=>h j (Nat.zero_le _)
  |succ m ihm =>
   intro hm h;cases f:x.getD m false with
   |true=>exact .inr ⟨m,by omega,f,fun j a=>h j a⟩
   |false=>exact ihm (by omega) fun j a=>(Nat.eq_or_lt_of_le a).elim (fun e=>e▸f) (fun e=>h j e)
 rcases key x.length (Nat.le_refl _) (fun j a=>by rw [List.getD_eq_getElem?_getD,List.getElem?_eq_none a]; rfl) with k | ⟨t,b,c,g⟩
 ·exfalso
  apply h
  have d:x=List.replicate x.length false:=by
   apply List.ext_getElem (by simp)
   intro j l n;rw [← Xg3 l,k j]; simp
  rw [d,Xfj]
 ·exact ⟨t,b,c,Xph (p:=id) b (fun j a i=>by rw [← Xg3 a]; exact g j i) (by rw [← Xg3 b]; exact c)⟩
theorem Xny {p:List Int} (h:0<Xnz p):∃ t,t<p.length∧Xnx p=(t:Int)∧p.getD t (-1) ≠ -1:=by
 obtain ⟨t,a,b,c⟩:=Xh0 (x:=pgB p) (by unfold Xnz at h; omega);rw [Xnb] at a;rw [Xna] at b;exact ⟨t,a,c,by simpa using b⟩
end Go.Proofs.YtgddpaiandefgaaGreatDoor
