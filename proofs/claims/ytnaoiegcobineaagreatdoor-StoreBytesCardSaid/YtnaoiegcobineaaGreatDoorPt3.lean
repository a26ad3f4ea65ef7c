/-
  Texts put together: Ref20c, Ref20d, Ref3, Ref20e, Ref20f, Ref20g, Ref20h, Ref20i, RmBack, RmOwn, RmAll, Top13, RmPlan, Arena, Arena2, View, View2, Chain, Chain2, View3, View4, Arena3, View5, View6, View7, View8, Laws21, Ref6, Few, Ref21, Ref21b, Ref21d, Cut16, Ref21e, Ref21f, Ref21g, Ref21h, Ref21i, Laws6b, Move, Move2, Lap, Laws15, Ref6b, Ref6c.
-/
import Derived.Test.YtnaoiegcobineaaGreatDoorPt2
import Derived.Test.YtnaoiegcobineaaGreatDoorQRule19
import Derived.Test.YtnaoiegcobineaaGreatDoorQRule7
import Derived.Test.YtnaoiegcobineaaGreatDoorQRule11
import Derived.Test.YtnaoiegcobineaaGreatDoorQPost
import Derived.Lib.SliceRun
import Derived.Test.YtnaoiegcobineaaGreatDoorQRule12
import Derived.Test.YtnaoiegcobineaaGreatDoorQRule8
set_option linter.unusedVariables false
namespace Go.Proofs.YtnaoiegcobineaaGreatDoor
open Go.RowKit
theorem RrOk.sout {w:World} {r:RR} {M:RmM} {S:Nat→Prop} (h:RrOut S r) {k:Nat} {s:RS} (hk:r.ss[k]? = some s) (_:RrOk w r M):RsOut S {s with p:=r.p}:=by
 have:=h.each s (List.mem_of_getElem? hk)
 exact ⟨h.o,h.f,this.nums,this.opn,this.pa,this.each⟩
theorem RrOk.put {w w':World} {r:RR} {M:RmM} (h:RrOk w r M) (hc:Chg None' w w') {k:Nat} {s:RS} {x':Sm} {pl':PlM} {t:Int} {sa':Option Addr} {scap':Nat} (hk:k<r.ss.length) (hs:RsOk w' s x' pl') (hof:x'.Of pl') (hrow:Rows rsL 7 w' sa' (r.ss.set k s)) (hlt:ALt w' sa') (hcap:(r.ss.set k s).length≤scap') :
 RrOk w' {r with sa:=sa',scap:=scap',ss:=r.ss.set k s,p:=s.p,steps:=t} {M with shs:=M.shs.set k x',pl:=pl',tot:=t}:=by
 have h':=h.grow hc
 refine ⟨hs.p,hrow,hlt,hcap,by show (r.ss.set k s).length=(M.shs.set k x').length; rw [List.length_set,List.length_set]; exact h.n,by show (r.ss.set k s).length≤16; rw [List.length_set]; exact h.few,fun j s1 x1 h1 h2 => ?_,h'.lr,h'.ll,h'.lc,h'.lm,h'.lge,h'.lgo,rfl⟩
 replace h1:(r.ss.set k s)[j]? = some s1:=h1
 replace h2:(M.shs.set k x')[j]? = some x1:=h2
 by_cases e:k=j
 ·subst e
  rw [List.getElem?_set_self hk] at h1
  rw [List.getElem?_set_self (by rw [← h.n]; exact hk)] at h2
  cases h1; cases h2
  exact ⟨pl',hs,hof⟩
 ·rw [List.getElem?_set_ne e] at h1 h2
  exact h'.each j s1 x1 h1 h2
theorem RKeep.put {w w1 w':World} {r:RR} {M:RmM} (h:RrOk w r M) {k:Nat} {s0 s:RS} {t:Int} {sa':Option Addr} {scap':Nat} (hk:r.ss[k]? = some s0) (hs:w.heap.size≤w1.heap.size) (hkeep:Keep w1 {s0 with p:=r.p} s) (hf:Fresh w' sa') (hs':w.heap.size≤w'.heap.size) :
 RKeep w r {r with sa:=sa',scap:=scap',ss:=r.ss.set k s,p:=s.p,steps:=t}:=⟨rfl,rfl,fun S hS ho=>by
 have hso:=hkeep S (fun z hz=>by have:=hS z hz; omega) (RrOk.sout ho hk h)
 refine ⟨hso.o,hso.f,hf.out (fun z hz=>by have:=hS z hz; omega),fun s1 h1 => ?_,ho.la,ho.lgo⟩
 rcases List.mem_or_eq_of_mem_set h1 with h1 | rfl
 ·exact ho.each s1 h1
 ·exact hso⟩
theorem Eff.good {p q:PlM} {c:Int} (h:Eff p q c) (hg:p.Good) (hc:0≤c):q.Good:=by
 rcases h with rfl | ⟨n,r,hf,rfl⟩ | ⟨n,hn,ho,rfl⟩
 ·exact hg
 ·exact hg.take hc hf
 ·exact hg.give hn (by omega)
theorem take_of (x:Sm) (pl:PlM) (who:Int) (hof:x.Of pl) (hg:pl.Good):(shTake x pl who).Of (shTakeP x pl who):=by
 rcases shTake_cases x pl who with ⟨_,h1,h2⟩ | ⟨_,_,⟨n,r,_,h1,h2,_⟩ | ⟨n,r,_,hf,h1,h2,_⟩⟩
 ·rw [h1,h2]; exact hof
 ·rw [h1,h2]; exact hof.set rfl (fun e he=>smSet_old he)
 ·rw [h1,h2]; exact (hof.fresh hg hf).set rfl (fun e he=>smSet_old he)
theorem give_of (x:Sm) (pl:PlM) (n i:Int) (hok:x.Ok) (hof:x.Of pl):(shGive x n i).Of (shGiveP x pl n i):=by
 unfold shGive shGiveP
 cases hg:smGet x.pg n with
 |none=>exact hof
 |some p =>
  simp only
  by_cases hE:pgGiveE p i=0
  ·rw [if_pos hE]
   have:=Sm.Of.giveAt hok hof (n:=n.toNat) (p:=p) (i:=i)
   by_cases hu:pgUsed (pgGive p i)=0
   ·rw [if_pos hu] at this; rw [if_pos ⟨hE,hu⟩]; exact this
   ·rw [if_neg hu] at this; rw [if_neg (fun h=>hu h.2)]; exact this
  ·rw [if_neg hE,if_neg (fun h=>hE h.1)]; exact hof
theorem own_of (x:Sm) (pl:PlM) (n i who:Int) (hof:x.Of pl):(shOwn x n i who).Of pl:=by
 unfold shOwn
 split
 ·exact hof.set rfl (fun e he=>smSet_old he)
 ·exact hof
end Go.Proofs.YtnaoiegcobineaaGreatDoor
namespace Go.Proofs.YtnaoiegcobineaaGreatDoor
open Go.RowKit
end Go.Proofs.YtnaoiegcobineaaGreatDoor
namespace Go.Proofs.YtnaoiegcobineaaGreatDoor
open Go.RowKit
theorem withinM_iff {n a b:Int}:withinM n a b=true↔a≤n∧n≤b:=by unfold withinM; simp
theorem mayB_iff {c:Conf}:mayB c=true↔sizedM c.size=true∧(1≤c.pages∧c.pages≤1024)∧classOk c.classes c.size=true∧c.keep.length=c.classes.length∧(∀ k,k ∈ c.keep→0≤k∧k≤1024) ∧
 (1≤c.step∧c.step≤65536)∧(1≤c.slots∧c.slots≤4096)∧(1≤c.gens∧c.gens≤1023)∧(1≤c.most∧c.most≤largeM c):=by
 unfold mayB keepBad
 simp only [Bool.and_eq_true,withinM_iff,decide_eq_true_eq,Bool.not_eq_true',List.any_eq_false,Bool.not_eq_false,and_assoc]
theorem mayM_one {c:Conf} (h:mayB c=true→False):Value.int .i64 1 = .int .i64 (mayM c):=by unfold mayM; rw [if_neg h]
theorem mayM_zero {c:Conf} (h:mayB c=true):Value.int .i64 0 = .int .i64 (mayM c):=by unfold mayM; rw [if_pos h]
theorem largeM_zero {c:Conf}:largeM c=0↔sizedM c.size=false:=by
 unfold largeM
 by_cases h:sizedM c.size=true
 ·rw [if_pos h,h]
  have h2:=sizedM_iff.1 h
  have h4:64*8≤c.size*(c.size / 8):=Int.mul_le_mul h2.1 (by omega) (by omega) (by omega)
  constructor
  ·intro; omega
  ·intro h; cases h
 ·rw [if_neg h]; simpa using h
theorem ref03_Large (c:Conf) (p:ConfAt) (w:World):Does Tryz.prog 50 #[.agg (confL c p).toArray] w (Grow (.int .i64 (largeM c)) w):=by
 refine Does.enter Tryz.func50 rfl Tryz.ntmps50 rfl rfl ?_
 refine Goes.adv hTT 400 rfl ?_
 refine Goes.alloc hTT rfl ?_
 intro b w1 e1 hb hw1 hz1
 refine Goes.adv hTT 400 rfl ?_
 have no:(64≤c.size∧c.size≤4096∧c.size % 8=0→False)→Value.int .i64 0 = .int .i64 (largeM c):=fun h=>by unfold largeM; rw [if_neg (fun h'=>h (sizedM_iff.1 h'))]
 refine Goes.loadb hTT rfl hb rfl rfl ?_
 refine Goes.fork hTT rfl rfl rfl (fun h1 => ?_) (fun h1 => ?_)
 ·exact Goes.ret1 hTT rfl Tryz.func50 rfl rfl ⟨no (fun h=>by have:=of_decide_eq_true h1; omega),hw1⟩
 ·have g1:=of_decide_eq_false h1
  refine Goes.loadb hTT rfl hb rfl rfl ?_
  refine Goes.fork hTT rfl rfl rfl (fun h2 => ?_) (fun h2 => ?_)
  ·exact Goes.ret1 hTT rfl Tryz.func50 rfl rfl ⟨no (fun h=>by have:=of_decide_eq_true h2; omega),hw1⟩
  ·have g2:=of_decide_eq_false h2
   refine Goes.loadb hTT rfl hb rfl rfl ?_
   refine Goes.div hTT rfl (by omega) (rem_ (by omega)) rfl ?_
   refine Goes.fork hTT rfl rfl rfl (fun h3 => ?_) (fun h3 => ?_)
   ·exact Goes.ret1 hTT rfl Tryz.func50 rfl rfl ⟨no (fun h=>by have:=h.2.2; simp [this] at h3),hw1⟩
   ·have g3:c.size % 8=0:=by simpa using h3
    have h3:0≤c.size / 8∧c.size / 8≤512:=by omega
    have h4:0≤c.size*(c.size / 8):=Int.mul_nonneg (by omega) h3.1
    have h5:c.size*(c.size / 8)≤4096*512:=Int.mul_le_mul (by omega) h3.2 h3.1 (by omega)
    refine Goes.loadb hTT rfl hb rfl rfl ?_
    refine Goes.loadb hTT rfl hb rfl rfl ?_
    refine Goes.div hTT rfl (by omega) (quo64 (by omega) (by omega)) rfl ?_
    refine Goes.arith hTT rfl (w64 (by omega)) rfl ?_
    exact Goes.ret1 hTT rfl Tryz.func50 rfl rfl ⟨int_v (by unfold largeM; rw [if_pos (sizedM_iff.2 ⟨by omega,by omega,g3⟩)]),hw1⟩
theorem ref03_Blocks (c:Conf) (p:ConfAt) (k:Int) (w:World) (hc:ConfOk w c p):Does Tryz.prog 81 #[.agg (confL c p).toArray,.int .i64 k] w (Grow (.int .i64 (blocksM c k)) w):=by
 have hl:=hc.lc
 have hs:=hc.size
 unfold In64 at hs
 refine Does.enter Tryz.func81 rfl Tryz.ntmps81 rfl rfl ?_
 refine Goes.adv hTT 400 rfl ?_
 refine Goes.alloc hTT rfl ?_
 intro b w1 e1 hb hw1 hz1
 refine Goes.adv hTT 400 rfl ?_
 refine Goes.fork hTT rfl rfl rfl (fun h => ?_) (fun h => ?_)
 ·have h':k<0:=of_decide_eq_true h
  exact Goes.ret1 hTT rfl Tryz.func81 rfl rfl ⟨int_v (by unfold blocksM; rw [if_neg (by omega)]),hw1⟩
 ·have h':¬ k<0:=of_decide_eq_false h
  refine Goes.loadb hTT rfl hb rfl rfl ?_
  refine Goes.fork hTT rfl rfl rfl (fun h2 => ?_) (fun h2 => ?_)
  ·have h3:=of_decide_eq_true h2
   exact Goes.ret1 hTT rfl Tryz.func81 rfl rfl ⟨int_v (by unfold blocksM; rw [if_neg (by omega)]),hw1⟩
  ·have h3:=of_decide_eq_false h2
   obtain ⟨b1,off,ea,hcell⟩:=(hc.chg hw1).classes k.toNat (by omega)
   obtain ⟨ca,cc,ka,kc⟩:=p
   simp only at ea
   subst ea
   refine Goes.quiet rfl mixed (by kernel_rfl) ?_
   refine Quiet.adv hTT rfl ?_
   refine Quiet.loadb hTT rfl hb rfl rfl ?_
   refine Quiet.loadb hTT rfl hb rfl rfl ?_
   refine Quiet.index hTT rfl (j:=k.toNat) (by omega) (by omega) (by first | rfl | omega | (simp; done) | (simp; omega)) rfl ?_
   refine Quiet.load hTT rfl hcell rfl ?_
   refine Quiet.call hTT rfl (fun w' hw'=>(ref01_Whole c.size (c.classes.getD k.toNat 0) w' hs.2).grow) rfl ?_
   refine Quiet.nil ?_
   intro w2 hw2
   refine Goes.adv hTT 400 rfl ?_
   exact Goes.ret1 hTT rfl Tryz.func81 rfl rfl ⟨int_v (by unfold blocksM; rw [if_pos (by omega)]),hw1.trans hw2⟩
theorem ref03_May (c:Conf) (p:ConfAt) (w:World) (hc:ConfOk w c p):Does Tryz.prog 12 #[.agg (confL c p).toArray] w (Grow (.int .i64 (mayM c)) w):=by
 have hl:=hc.lc
 have hlk:=hc.lk
 refine Does.enter Tryz.func12 rfl Tryz.ntmps12 rfl rfl ?_
 refine Goes.adv hTT 400 rfl ?_
 refine Goes.alloc hTT rfl ?_
 intro b w1 e1 hb hw1 hz1
 refine Goes.adv hTT 400 rfl ?_
 refine Goes.loads hTT rfl hb rfl rfl ?_
 refine Goes.call rfl (ref03_Large c p w1) ?_
 rintro _ wL ⟨rfl,hL⟩
 refine Goes.adv hTT 400 rfl ?_
 have hw2:=hw1.trans hL
 have hb2:=hL.heap' hb
 have hc2:=hc.chg hw2
 refine Goes.fork hTT rfl rfl rfl (fun h1 => ?_) (fun h1 => ?_)
 ·exact Goes.ret1 hTT rfl Tryz.func12 rfl rfl ⟨mayM_one (fun h=>by have:=(mayB_iff.1 h).1; rw [largeM_zero.1 (by simpa using h1)] at this; cases this),hw2⟩
 ·have g1:sizedM c.size=true:=by
   cases h:sizedM c.size with
   |true=>rfl
   |false=>rw [largeM_zero.2 h] at h1; cases h1
  refine Goes.loadb hTT rfl hb2 rfl rfl ?_
  refine Goes.fork hTT rfl rfl rfl (fun h2 => ?_) (fun h2 => ?_)
  ·exact Goes.ret1 hTT rfl Tryz.func12 rfl rfl ⟨mayM_one (fun h=>by have:=(mayB_iff.1 h).2.1; have:=of_decide_eq_true h2; omega),hw2⟩
  ·refine Goes.loadb hTT rfl hb2 rfl rfl ?_
   refine Goes.fork hTT rfl rfl rfl (fun h3 => ?_) (fun h3 => ?_)
   ·exact Goes.ret1 hTT rfl Tryz.func12 rfl rfl ⟨mayM_one (fun h=>by have:=(mayB_iff.1 h).2.1; have:=of_decide_eq_true h3; omega),hw2⟩
   ·refine Goes.loadb hTT rfl hb2 rfl rfl ?_
    refine Goes.loadb hTT rfl hb2 rfl rfl ?_
    refine Goes.call rfl (ref02_May p.ca p.cc c.classes c.size wL hc2.classes hl) ?_
    rintro _ w3 ⟨rfl,hM⟩
    refine Goes.adv hTT 400 rfl ?_
    have hw3:=hw2.trans hM
    have hb3:=hM.heap' hb2
    have hc3:=hc2.chg hM
    refine Goes.fork hTT rfl rfl rfl (fun h4 => ?_) (fun h4 => ?_)
    ·exact Goes.ret1 hTT rfl Tryz.func12 rfl rfl ⟨mayM_one (fun h=>by have:=(mayB_iff.1 h).2.2.1; simp [classMay,this] at h4),hw3⟩
    ·refine Goes.loadb hTT rfl hb3 rfl rfl ?_
     refine Goes.loadb hTT rfl hb3 rfl rfl ?_
     refine Goes.fork hTT rfl rfl rfl (fun h5 => ?_) (fun h5 => ?_)
     ·exact Goes.ret1 hTT rfl Tryz.func12 rfl rfl ⟨mayM_one (fun h=>by have:=(mayB_iff.1 h).2.2.2.1; simp [this] at h5),hw3⟩
     ·have g2:=of_decide_eq_false h2
      have g3:=of_decide_eq_false h3
      have g4:classOk c.classes c.size=true:=by unfold classMay at h4; cases hh:classOk c.classes c.size <;> simp [hh] at h4 ⊢
      have g5:c.keep.length=c.classes.length:=by simp at h5; omega
      refine Goes.loop (α:=Nat) (fun k => [(1,false,.pointer (some ⟨b,0,none⟩)),(3,false,.int .i64 k)])
       (fun k w'=>Chg None' w3 w'∧k≤c.keep.length ∧ ∀ j (h:j<c.keep.length),j<k→0≤c.keep[j]∧c.keep[j]≤1024) (fun k=>c.keep.length - k) 0 ⟨rfl,rfl,trivial⟩ ⟨Chg.refl _ _,Nat.zero_le _,fun _ _ h=>by omega⟩ ?_
      rintro k w4 ⟨hw,hk,hpre⟩ ih
      have hw4:=hw3.trans hw
      have hb4:=hw.heap' hb3
      have hc4:=hc3.chg hw
      refine Goes.adv hTT 400 rfl ?_
      refine Goes.loadb hTT rfl hb4 rfl rfl ?_
      refine Goes.fork hTT rfl rfl rfl (fun h => ?_) (fun h => ?_)
      ·have hlt:k<c.keep.length:=by simpa using h
       obtain ⟨b1,off,ea,hcell⟩:=hc4.keep k hlt
       rw [getD_at hlt] at hcell
       obtain ⟨ca,cc,ka,kc⟩:=p
       simp only at ea
       subst ea
       refine Goes.loadb hTT rfl hb4 rfl rfl ?_
       refine Goes.index hTT rfl (j:=k) (by omega) (by omega) (by first | rfl | omega | (simp; done) | (simp; omega)) rfl ?_
       refine Goes.load hTT rfl hcell rfl ?_
       refine Goes.fork hTT rfl rfl rfl (fun h6 => ?_) (fun h6 => ?_)
       ·exact Goes.ret1 hTT rfl Tryz.func12 rfl rfl ⟨mayM_one (fun h=>by have:=(mayB_iff.1 h).2.2.2.2.1 _ (List.getElem_mem hlt); have:=of_decide_eq_true h6; omega),hw4⟩
       ·refine Goes.loadb hTT rfl hb4 rfl rfl ?_
        refine Goes.index hTT rfl (j:=k) (by omega) (by omega) (by first | rfl | omega | (simp; done) | (simp; omega)) rfl ?_
        refine Goes.load hTT rfl hcell rfl ?_
        refine Goes.fork hTT rfl rfl rfl (fun h7 => ?_) (fun h7 => ?_)
        ·exact Goes.ret1 hTT rfl Tryz.func12 rfl rfl ⟨mayM_one (fun h=>by have:=(mayB_iff.1 h).2.2.2.2.1 _ (List.getElem_mem hlt); have:=of_decide_eq_true h7; omega),hw4⟩
        ·refine Goes.arith hTT rfl (w64 (by omega)) rfl ?_
         exact ih (k+1) _ _ ⟨hw,hlt,fun j hj hjk=>by
          by_cases e:j=k
          ·subst e; exact ⟨by have:=of_decide_eq_false h6; omega,by have:=of_decide_eq_false h7; omega⟩
          ·exact hpre j hj (by omega)⟩ (by omega) ⟨rfl,rfl,trivial⟩
      ·have hge:k=c.keep.length:=by simp at h; omega
       have g6:∀ x,x ∈ c.keep→0≤x∧x≤1024:=fun x hx=>by obtain ⟨j,hj,rfl⟩:=List.mem_iff_getElem.1 hx; exact hpre j hj (by omega)
       refine Goes.quiet rfl mixed (by kernel_rfl) ?_
       refine Quiet.adv hTT rfl ?_
       refine Quiet.loadb hTT rfl hb4 rfl rfl ?_
       refine Quiet.fork hTT rfl rfl rfl (fun a1 => ?_) (fun a1 => ?_)
       ·refine Quiet.nil ?_
        intro w5 hw5
        refine Goes.adv hTT 400 rfl ?_
        exact Goes.ret1 hTT rfl Tryz.func12 rfl rfl ⟨mayM_one (fun h=>by have:=(mayB_iff.1 h).2.2.2.2.2; have:=of_decide_eq_true a1; omega),hw4.trans hw5⟩
       refine Quiet.loadb hTT rfl hb4 rfl rfl ?_
       refine Quiet.fork hTT rfl rfl rfl (fun a2 => ?_) (fun a2 => ?_)
       ·refine Quiet.nil ?_
        intro w5 hw5
        refine Goes.adv hTT 400 rfl ?_
        exact Goes.ret1 hTT rfl Tryz.func12 rfl rfl ⟨mayM_one (fun h=>by have:=(mayB_iff.1 h).2.2.2.2.2; have:=of_decide_eq_true a2; omega),hw4.trans hw5⟩
       refine Quiet.loadb hTT rfl hb4 rfl rfl ?_
       refine Quiet.fork hTT rfl rfl rfl (fun a3 => ?_) (fun a3 => ?_)
       ·refine Quiet.nil ?_
        intro w5 hw5
        refine Goes.adv hTT 400 rfl ?_
        exact Goes.ret1 hTT rfl Tryz.func12 rfl rfl ⟨mayM_one (fun h=>by have:=(mayB_iff.1 h).2.2.2.2.2; have:=of_decide_eq_true a3; omega),hw4.trans hw5⟩
       refine Quiet.loadb hTT rfl hb4 rfl rfl ?_
       refine Quiet.fork hTT rfl rfl rfl (fun a4 => ?_) (fun a4 => ?_)
       ·refine Quiet.nil ?_
        intro w5 hw5
        refine Goes.adv hTT 400 rfl ?_
        exact Goes.ret1 hTT rfl Tryz.func12 rfl rfl ⟨mayM_one (fun h=>by have:=(mayB_iff.1 h).2.2.2.2.2; have:=of_decide_eq_true a4; omega),hw4.trans hw5⟩
       refine Quiet.loadb hTT rfl hb4 rfl rfl ?_
       refine Quiet.fork hTT rfl rfl rfl (fun a5 => ?_) (fun a5 => ?_)
       ·refine Quiet.nil ?_
        intro w5 hw5
        refine Goes.adv hTT 400 rfl ?_
        exact Goes.ret1 hTT rfl Tryz.func12 rfl rfl ⟨mayM_one (fun h=>by have:=(mayB_iff.1 h).2.2.2.2.2; have:=of_decide_eq_true a5; omega),hw4.trans hw5⟩
       refine Quiet.loadb hTT rfl hb4 rfl rfl ?_
       refine Quiet.fork hTT rfl rfl rfl (fun a6 => ?_) (fun a6 => ?_)
       ·refine Quiet.nil ?_
        intro w5 hw5
        refine Goes.adv hTT 400 rfl ?_
        exact Goes.ret1 hTT rfl Tryz.func12 rfl rfl ⟨mayM_one (fun h=>by have:=(mayB_iff.1 h).2.2.2.2.2; have:=of_decide_eq_true a6; omega),hw4.trans hw5⟩
       refine Quiet.loadb hTT rfl hb4 rfl rfl ?_
       refine Quiet.fork hTT rfl rfl rfl (fun a7 => ?_) (fun a7 => ?_)
       ·refine Quiet.nil ?_
        intro w5 hw5
        refine Goes.adv hTT 400 rfl ?_
        exact Goes.ret1 hTT rfl Tryz.func12 rfl rfl ⟨mayM_one (fun h=>by have:=(mayB_iff.1 h).2.2.2.2.2; have:=of_decide_eq_true a7; omega),hw4.trans hw5⟩
       refine Quiet.loadb hTT rfl hb4 rfl rfl ?_
       refine Quiet.loads hTT rfl hb4 rfl rfl ?_
       refine Quiet.call hTT rfl (fun w' hw'=>ref03_Large c p w') rfl ?_
       refine Quiet.nil ?_
       intro w5 hw5
       refine Goes.adv hTT 400 rfl ?_
       refine Goes.fork hTT rfl rfl rfl (fun a8 => ?_) (fun a8 => ?_)
       ·exact Goes.ret1 hTT rfl Tryz.func12 rfl rfl ⟨mayM_one (fun h=>by have:=(mayB_iff.1 h).2.2.2.2.2; have:=of_decide_eq_true a8; omega),hw4.trans hw5⟩
       have:=of_decide_eq_false a1
       have:=of_decide_eq_false a2
       have:=of_decide_eq_false a3
       have:=of_decide_eq_false a4
       have:=of_decide_eq_false a5
       have:=of_decide_eq_false a6
       have:=of_decide_eq_false a7
       have:=of_decide_eq_false a8
       exact Goes.ret1 hTT rfl Tryz.func12 rfl rfl ⟨mayM_zero (mayB_iff.2 ⟨g1,by omega,g4,g5,g6,by omega,by omega,by omega,by omega⟩),hw4.trans hw5⟩
theorem Rd.of {k:IntKind} {w:World} {b:Nat} {c:Array Value} {t:TypeId} {fz:Nat × Nat} {zs:List Int} (h:w.heap[b]? = some (.cells c t fz)) (hc:c=(zs.map (Value.int k)).toArray):Rd k w (some ⟨b,0,none⟩) zs:=fun i hi =>
 ⟨b,0,rfl,by rw [cell_of h,hc]; simp [hi]⟩
end Go.Proofs.YtnaoiegcobineaaGreatDoor
namespace Go.Proofs.YtnaoiegcobineaaGreatDoor
open Go.RowKit
theorem pickM_ge (zs:List Int) (n:Int) : -1≤pickM zs n:=by
 unfold pickM
 split
 ·omega
 ·by_cases h:zs.any (fun s=>decide (n≤s))=true
  ·have:=idx_nonneg.2 h; omega
  ·rw [idx_none (fun j hj=>by
    by_cases h2:n≤zs[j]
    ·exact absurd (List.any_eq_true.2 ⟨zs[j],List.getElem_mem hj,decide_eq_true h2⟩) h
    ·exact decide_eq_false h2)]
   omega
end Go.Proofs.YtnaoiegcobineaaGreatDoor
namespace Go.Proofs.YtnaoiegcobineaaGreatDoor
open Go.RowKit
def nilIL:IL:=⟨none,0,[]⟩
def rs0 (k:Int) (b:Nat):RS:=⟨⟨nilIL,nilIL⟩,k,b,nilIL,none,0,[],nilIL⟩
def rs0s (c:Conf) (n:Nat):List RS:=(List.range n).map fun k=>rs0 (k:Nat) (blocksM c (k:Nat)).toNat
theorem rs0s_get {c:Conf} {n k:Nat} {s:RS} (h:(rs0s c n)[k]? = some s):k<n∧s=rs0 (k:Nat) (blocksM c (k:Nat)).toNat:=by
 unfold rs0s at h
 rw [List.getElem?_map,Option.map_eq_some_iff] at h
 obtain ⟨j,hj,e⟩:=h
 obtain ⟨h1,h2⟩:=List.getElem?_eq_some_iff.1 hj
 simp only [List.length_range] at h1
 rw [List.getElem_range] at h2
 subst h2
 exact ⟨h1,e.symm⟩
theorem rs0s_succ (c:Conf) (n:Nat):rs0s c (n+1)=rs0s c n ++ [rs0 (n:Nat) (blocksM c (n:Nat)).toNat]:=by
 unfold rs0s
 rw [List.range_succ,List.map_append]; rfl
theorem rs0_ok (w:World) (k:Int) (b:Nat):RsOk w (rs0 k b) (newSm k b) ⟨[],[]⟩:=by
 have hn:IlX w nilIL:=⟨⟨Rd.nil _ _ _,by simp [nilIL]⟩,Nat.le_refl _,(by intro b off s e; cases e)⟩
 exact ⟨⟨hn,hn,rfl,rfl⟩,hn,hn,(fun i l hl=>by simp [rs0] at hl),(by intro b off s e; cases e),Nat.le_refl _,(fun l hl=>by simp [rs0] at hl),rfl,rfl,rfl,rfl,rfl⟩
theorem rs0_out (S:Nat→Prop) (k:Int) (b:Nat):RsOut S (rs0 k b):=by
 have hn:OutA S (none:Option Addr):=fun b off s e=>by cases e
 exact ⟨hn,hn,hn,hn,hn,fun l hl=>by simp [rs0] at hl⟩
theorem cellsN {w:World} {b:Nat} {l:List Value} {t:TypeId} {fz:Nat × Nat} (h:w.heap[b]? = some (.cells l.toArray t fz)):∀ i u,l[i]? = some u → ∃ a',(some ⟨b,0,none⟩:Option Addr)=some a'∧w.cell? (a'.add i)=some u:=fun i u hu =>
 ⟨_,rfl,by rw [add_off,cell_of h,Nat.zero_add]; simpa using hu⟩
set_option maxRecDepth 100000 in
theorem ref20_New (c:Conf) (p:ConfAt) (w:World) (hc:ConfOk w c p) (hm:mayB c=true) (hp:c.pages≤512):Does Tryz.prog 112 #[.agg (confL c p).toArray] w
 (fun v w' => ∃ r,v = .tuple #[.agg (rrL r).toArray,.int .i64 0]∧r.c=c∧r.cp=p∧RrOk w' r (newRm c 0)∧(∀ S:Nat→Prop,(∀ z,S z→z<w.heap.size)→RrOut S r)∧Chg None' w w'):=by
 have hml:maxLen=9223372036854775807:=rfl
 have hf:=may_facts hm
 have hfn:=hf.n
 have hfp:=hf.pages
 obtain ⟨N,hN⟩:=Int.eq_ofNat_of_zero_le (show 0≤c.pages by omega)
 have em:mayM c=0:=by unfold mayM; rw [if_pos hm]
 refine Does.enter Tryz.func112 rfl Tryz.ntmps112 rfl rfl ?_
 refine Goes.adv hTT 400 rfl ?_
 refine Goes.alloc hTT rfl ?_
 intro cb w1 e1 hcb hw1 hz1
 refine Goes.adv hTT 400 rfl ?_
 refine Goes.alloc hTT rfl ?_
 intro ob w2 e2 hob hw2 hz2
 refine Goes.adv hTT 400 rfl ?_
 replace hcb:w1.heap[cb]? = some (.cells (confL c p).toArray 24 (0,0)):=hcb
 have hw02:=hw1.trans hw2
 have hcb2:=hw2.heap' hcb
 refine Goes.loads hTT rfl hcb2 rfl rfl ?_
 refine Goes.call rfl (ref03_May c p w2 (hc.chg hw02)) ?_
 rintro _ w3 ⟨rfl,hw3⟩
 refine Goes.adv hTT 400 rfl ?_
 rw [em]
 refine Goes.no hTT rfl rfl rfl ?_
 have hcb3:=hw3.heap' hcb2
 refine Goes.loadb hTT rfl hcb3 rfl rfl ?_
 rw [hN]
 refine Goes.call rfl (ref08_New N w3 (by omega)) ?_
 rintro _ w4 ⟨rp,rfl,hP4,hFo,hFf,hw4⟩
 refine Goes.adv hTT 400 rfl ?_
 refine Goes.alloc hTT rfl ?_
 intro pb w5 e5 hpb hw5 hz5
 refine Goes.adv hTT 400 rfl ?_
 refine Goes.store hTT rfl hpb rfl rfl ?_
 intro w6 hpb6 hs6 hz6
 refine Goes.adv hTT 400 rfl ?_
 replace hpb6:w6.heap[pb]? = some (.cells (rpL rp).toArray 40 (0,0)):=hpb6
 have hw46:Chg None' w4 w6:=hw5.since hs6 (fun z hz e=>by omega)
 have hcb6:=hw46.heap' (hw4.heap' hcb3)
 refine Goes.loads hTT rfl hcb6 rfl rfl ?_
 refine Goes.loads hTT rfl hpb6 rfl rfl ?_
 refine Goes.build hTT rfl rfl ?_
 refine Goes.alloc hTT rfl ?_
 intro tb w7 e7 htb hw7 hz7
 refine Goes.adv hTT 400 rfl ?_
 refine Goes.store hTT rfl htb rfl rfl ?_
 intro w8 htb8 hs8 hz8
 refine Goes.adv hTT 400 rfl ?_
 replace htb8:w8.heap[tb]? = some (.cells (confL c p ++ [ilV rp.o,ilV rp.f,.slice none 0 0,.slice none 0 0,.int .i64 0]).toArray 44 (0,0)):=htb8
 have hw68:Chg None' w6 w8:=hw7.since hs8 (fun z hz e=>by omega)
 have hw08:=(((hw02.trans hw3).trans hw4).trans hw46).trans hw68
 have hcb8:=hw68.heap' hcb6
 have hob8:=(((hw3.trans hw4).trans hw46).trans hw68).heap' hob
 have hs01:=hw1.size
 have hlcb:=lt_of_heap hcb
 have hlob:=lt_of_heap hob
 have hltb:=lt_of_heap htb8
 have hs26:w2.heap.size≤w6.heap.size:=((hw3.trans hw4).trans hw46).size
 refine Goes.loop (α:=Nat × Value) (fun x => [(1,false,.pointer (some ⟨cb,0,none⟩)),(2,false,.pointer (some ⟨ob,0,none⟩)),(6,false,.pointer (some ⟨tb,0,none⟩)),(7,false,.int .i64 x.1)])
  (fun x w'=>x.1≤c.classes.length∧w'.heap[tb]? = some (.cells (confL c p ++ [ilV rp.o,ilV rp.f,x.2,.slice none 0 0,.int .i64 0]).toArray 44 (0,0))∧Own w8.heap.size 130 7 w' x.2 x.1 (fl rsL (rs0s c x.1))∧Chg (fun z=>z=tb) w8 w') (fun x=>c.classes.length - x.1) (0,.slice none 0 0) ⟨rfl,rfl,rfl,rfl,trivial⟩ ⟨Nat.zero_le _,htb8,⟨rfl,.inl ⟨rfl,rfl⟩⟩,Chg.refl _ _⟩ ?_
 rintro ⟨i,v⟩ w9 ⟨hi,htb9,ho9,hc9⟩ ih
 simp only at hi htb9 ho9
 have hcb9:=hc9.heap hcb8 (by omega)
 have hw09:Chg None' w w9:=hw08.since hc9 (fun z hz e=>by have:=hw08.size; omega)
 have hs89:=hc9.size
 refine Goes.adv hTT 400 rfl ?_
 refine Goes.loadb hTT rfl hcb9 rfl rfl ?_
 refine Goes.fork hTT rfl rfl rfl (fun hlp => ?_) (fun hlp => ?_)
 ·have hlt:i<c.classes.length:=by have:=of_decide_eq_true hlp; omega
  have hbk:=blocks_ok hm hlt
  obtain ⟨bk,hbk'⟩:=Int.eq_ofNat_of_zero_le (show 0≤blocksM c i by omega)
  refine Goes.drawn (q:=11) (fun z=>z=tb∨w8.heap.size≤z) hTT mixed (by kernel_rfl) rfl ?_
  intro hB
  have hcS:¬ (cb=tb∨w8.heap.size≤cb):=by omega
  refine Drawn.loadsAt (3) hTT hB rfl rfl rfl hcb9 (by first | exact fun h=>h | (intro h; omega) | assumption) rfl rfl ?_
  refine Drawn.call hTT hB rfl (fun w' hw'=>ref03_Blocks c p (i:Nat) w' (hc.chg (hw09.since hw' (fun z hz e=>by have:=hw08.size; rcases e with e | e <;> omega)))) rfl ?_
  refine Drawn.build hTT hB rfl rfl ?_
  refine Drawn.turn2 hB rfl ?_ ?_
  ·intro wa hwa
   refine Turn.loadb hTT hB rfl (hwa.heap' htb9) rfl rfl ?_
   refine Drawn.turn1 hB rfl ?_
   intro wb hwb
   refine Turn.buildSlice hTT hB rfl (fun _=>rfl) ?_
   intro b7 wc ec hb7 hwc hzc
   refine Drawn.turn1 hB rfl ?_
   intro wd hwd
   have hw9d:=((hwa.trans hwb).trans hwc).trans hwd
   have hod:=ho9.chg hw9d (fun _ _ h=>h)
   have hb7d:=hwd.heap' hb7
   rw [hbk'] at hb7d
   refine Turn.appendS hTT hB rfl (base:=w8.heap.size) (xs:=fl rsL (rs0s c i)) (news:=rsL (rs0 (i:Nat) bk)) hod (by have:=hw9d.size; omega) (fun e=>by cases e) (fun b hb _ => .inr (World.ownsRow.lt hod b hb.symm).1) rfl (cellsN hb7d) (rsL_plain _) ⟨by omega,by show (i+1)*136≤_; omega⟩ (fun _=>rfl) ?_
   intro v2 wf ho2 hsf hv2
   obtain ⟨va,vn,vc,rfl⟩:=Own.isSlice ho2
   refine Drawn.turn1 hB rfl ?_
   intro wg hwg
   have htbf:=hsf.heap (hw9d.heap' htb9) (fun e=>by have:=(World.ownsRow.lt hod tb (Eq.symm e)).1; omega)
   refine Turn.store hTT hB rfl (hwg.heap' htbf) (by first | (intro h; exact rfl) | (intro h; omega)) rfl rfl rfl ?_
   intro wh htbh hsh hzh
   refine Drawn.nil hB ?_
   intro wi hwi
   refine Goes.adv hTT 400 rfl ?_
   replace htbh:wh.heap[tb]? = some (.cells (confL c p ++ [ilV rp.o,ilV rp.f,.slice va vn vc,.slice none 0 0,.int .i64 0]).toArray 44 (0,0)):=htbh
   have hoi:=((ho2.chg hwg (fun _ _ h=>h)).chg hsh (fun b hb e=>by have:=(World.ownsRow.lt ho2 b hb.symm).1; replace e:b=tb:=e; omega)).chg hwi (fun _ _ h=>h)
   have hc8:Chg (fun z=>z=tb) w8 wi:=((((hc9.trans (hw9d.mono fun _ _ h=>h.elim)).since hsf (fun z hz e=>by have:=(World.ownsRow.lt hod z e.symm).1; omega)).trans (hwg.mono fun _ _ h=>h.elim)).trans hsh).trans (hwi.mono fun _ _ h=>h.elim)
   refine Goes.arith hTT rfl (w64 (by omega)) rfl ?_
   exact ih (i+1,.slice va vn vc) _ _ ⟨hlt,hwi.heap' htbh,by rw [rs0s_succ,fl_append,fl_one,hbk',Int.toNat_natCast]; exact hoi,hc8⟩ (by simp only; omega) ⟨rfl,rfl,rfl,rfl,trivial⟩
  ·intro wa hwa
   refine Turn.buildSlice hTT hB rfl (fun _=>rfl) ?_
   intro b7 wb eb hb7 hwb hzb
   refine Drawn.turn1 hB rfl ?_
   intro wc hwc
   refine Turn.loadb hTT hB rfl (((hwa.trans hwb).trans hwc).heap' htb9) rfl rfl ?_
   refine Drawn.turn1 hB rfl ?_
   intro wd hwd
   have hw9d:=((hwa.trans hwb).trans hwc).trans hwd
   have hod:=ho9.chg hw9d (fun _ _ h=>h)
   have hb7d:=hwd.heap' (hwc.heap' hb7)
   rw [hbk'] at hb7d
   refine Turn.appendS hTT hB rfl (base:=w8.heap.size) (xs:=fl rsL (rs0s c i)) (news:=rsL (rs0 (i:Nat) bk)) hod (by have:=hw9d.size; omega) (fun e=>by cases e) (fun b hb _ => .inr (World.ownsRow.lt hod b hb.symm).1) rfl (cellsN hb7d) (rsL_plain _) ⟨by omega,by show (i+1)*136≤_; omega⟩ (fun _=>rfl) ?_
   intro v2 wf ho2 hsf hv2
   obtain ⟨va,vn,vc,rfl⟩:=Own.isSlice ho2
   refine Drawn.turn1 hB rfl ?_
   intro wg hwg
   have htbf:=hsf.heap (hw9d.heap' htb9) (fun e=>by have:=(World.ownsRow.lt hod tb (Eq.symm e)).1; omega)
   refine Turn.store hTT hB rfl (hwg.heap' htbf) (by first | (intro h; exact rfl) | (intro h; omega)) rfl rfl rfl ?_
   intro wh htbh hsh hzh
   refine Drawn.nil hB ?_
   intro wi hwi
   refine Goes.adv hTT 400 rfl ?_
   replace htbh:wh.heap[tb]? = some (.cells (confL c p ++ [ilV rp.o,ilV rp.f,.slice va vn vc,.slice none 0 0,.int .i64 0]).toArray 44 (0,0)):=htbh
   have hoi:=((ho2.chg hwg (fun _ _ h=>h)).chg hsh (fun b hb e=>by have:=(World.ownsRow.lt ho2 b hb.symm).1; replace e:b=tb:=e; omega)).chg hwi (fun _ _ h=>h)
   have hc8:Chg (fun z=>z=tb) w8 wi:=((((hc9.trans (hw9d.mono fun _ _ h=>h.elim)).since hsf (fun z hz e=>by have:=(World.ownsRow.lt hod z e.symm).1; omega)).trans (hwg.mono fun _ _ h=>h.elim)).trans hsh).trans (hwi.mono fun _ _ h=>h.elim)
   refine Goes.arith hTT rfl (w64 (by omega)) rfl ?_
   exact ih (i+1,.slice va vn vc) _ _ ⟨hlt,hwi.heap' htbh,by rw [rs0s_succ,fl_append,fl_one,hbk',Int.toNat_natCast]; exact hoi,hc8⟩ (by simp only; omega) ⟨rfl,rfl,rfl,rfl,trivial⟩
 ·have hge:i=c.classes.length:=by have:=of_decide_eq_false hlp; omega
  subst hge
  have hlen:(rs0s c c.classes.length).length=c.classes.length:=by unfold rs0s; simp
  obtain ⟨sa,scap,rfl,hrow,hlt,hcap,hbase⟩:=Own.rowsN ho9 rsL_len hlen
  rw [hlen] at htb9 hcap
  let R:RR:=⟨c,p,rp,rs0s c c.classes.length,sa,scap,[],none,0,0⟩
  have htb9':rrBox w9 tb R:=by
   show w9.heap[tb]? = some (.cells (confL c p ++ [ilV rp.o,ilV rp.f,.slice sa (rs0s c c.classes.length).length scap,.slice none 0 0,.int .i64 0]).toArray _ _)
   rw [hlen]; exact htb9
  refine Goes.loads hTT rfl htb9' rfl rfl ?_
  have hob9:=hc9.heap hob8 (by omega)
  refine Goes.store hTT rfl hob9 rfl rfl ?_
  intro wa hoba hsa hza
  refine Goes.adv hTT 400 rfl ?_
  replace hoba:rrBox wa ob R:=hoba
  have hc0a:Chg None' w wa:=hw09.since hsa (fun z hz e=>by omega)
  have hs08:=hw08.size
  have hon:∀ S:Nat→Prop,OutA S (none:Option Addr):=fun S b off s e=>by cases e
  have hs23:=hw3.size
  have hPa:RpOk wa rp (plNew N):=by
   have h9:RpOk w9 rp (plNew N):=by
    have h8:=(hP4.grow hw46).grow hw68
    exact ⟨h8.o.far (fun b off s e hz=>by have:=hP4.o.lt b off s e; have:=hw46.size; replace hz:b=tb:=hz; omega) hc9,h8.f.far (fun b off s e hz=>by have:=hP4.f.lt b off s e; have:=hw46.size; replace hz:b=tb:=hz; omega) hc9,h8.eo,h8.ef⟩
   exact ⟨h9.o.far (fun b off s e hz=>by have:=hFo b off s e; replace hz:b=ob:=hz; omega) hsa,h9.f.far (fun b off s e hz=>by have:=hFf b off s e; replace hz:b=ob:=hz; omega) hsa,h9.eo,h9.ef⟩
  have hsaO:OutA (fun z=>z=ob) sa:=fun b off s e hz=>by have:=hbase b off s e; replace hz:b=ob:=hz; omega
  have hout:∀ S:Nat→Prop,(∀ z,S z→z<w.heap.size)→RrOut S R:=fun S hS=>⟨hFo.out (fun z hz=>by have:=hS z hz; have:=hw02.size; omega),hFf.out (fun z hz=>by have:=hS z hz; have:=hw02.size; omega),fun b off s e hz=>by have:=hbase b off s e; have:=hS b hz; omega,fun s hs=>by
   obtain ⟨k,hk,rfl⟩:=List.getElem_of_mem hs
   obtain ⟨_,e⟩:=rs0s_get (List.getElem?_eq_getElem hk)
   rw [e]; exact rs0_out S _ _,hon S,fun q hq=>by cases hq⟩
  have hrr:RrOk wa R (newRm c 0):=by
   refine ⟨by show RpOk wa rp (plNew c.pages.toNat); rw [hN,Int.toNat_natCast]; exact hPa,hrow.far hsaO hsa,hlt.grow hsa.size,by show (rs0s c c.classes.length).length≤scap; rw [hlen]; exact hcap,by show (rs0s c _).length=(newShs c _).length; unfold rs0s newShs; simp,by show (rs0s c c.classes.length).length≤16; omega,fun k s x h1 h2 => ?_,(fun i x hx=>by simp [R] at hx),(by intro b off s e; cases e),Nat.le_refl _,by show 0≤1024; omega,rfl,(fun q hq=>by cases hq),rfl⟩
   obtain ⟨_,rfl⟩:=rs0s_get h1
   obtain ⟨_,rfl⟩:=newShs_get h2
   exact ⟨⟨[],[]⟩,rs0_ok _ _ _,fun e he=>by cases he⟩
  exact Goes.ret hTT rfl Tryz.func112 (ResOk.cell rfl rfl rfl hoba rfl (.tmp rfl .nil)) ⟨R,rfl,rfl,rfl,hrr,hout,hc0a⟩
end Go.Proofs.YtnaoiegcobineaaGreatDoor
namespace Go.Proofs.YtnaoiegcobineaaGreatDoor
open Go.RowKit
theorem RKeep.out {w w2:World} {r r':RR} {M:RmM} (hK:RKeep w2 r r') (h:RrOk w r M) {S:Nat→Prop} (h1:∀ z,S z→w.heap.size≤z) (h2:∀ z,S z→z<w2.heap.size):RrOut S r':=hK.2.2 S h2 (h.out h1)
end Go.Proofs.YtnaoiegcobineaaGreatDoor
namespace Go.Proofs.YtnaoiegcobineaaGreatDoor
open Go.RowKit
end Go.Proofs.YtnaoiegcobineaaGreatDoor
namespace Go.Proofs.YtnaoiegcobineaaGreatDoor
open Go.RowKit
theorem keys_lg {lg:List (Nat × List Nat)} (hn:(lgAll lg).Nodup) {n:Nat} {r r':List Nat} (h:(n,r) ∈ lg) (h':(n,r') ∈ lg):r=r':=by
 obtain ⟨a,b,e1,e2⟩:=lgDel_cut hn h
 rw [e1] at h' hn
 have hnn:lgAll (a++(n,r)::b)=lgAll a++((n::r)++lgAll b):=by rw [lgAll_append]; rfl
 rw [hnn] at hn
 obtain ⟨_,h2,h3⟩:=List.nodup_append.1 hn
 obtain ⟨_,_,h6⟩:=List.nodup_append.1 h2
 rcases List.mem_append.1 h' with g | g
 ·exact absurd rfl (h3 n (mem_lgAll g (by simp)) n (by simp))
 ·rcases List.mem_cons.1 g with g | g
  ·exact ((Prod.mk.inj g).2).symm
  ·exact absurd rfl (h6 n (by simp) n (mem_lgAll g (by simp)))
end Go.Proofs.YtnaoiegcobineaaGreatDoor
namespace Go.Proofs.YtnaoiegcobineaaGreatDoor
open Go.RowKit
def MPos (M:RmM):Prop := ∀ (k:Nat) (x:Sm),M.shs[k]? = some x→x.Pos
theorem RmSt.mpos {F:Nat→Prop} {w:World} {R:Rm} {M:RmM} (h:RmSt F w R M):MPos M:=fun k x hx=>by
 obtain ⟨G,_,hS,_⟩:=h.shelf hx
 exact hS.pos
theorem idx_lt {α:Type} {p:α→Bool} {l:List α} (_ : -1≤idx p l):idx p l<l.length:=by
 by_cases h:∃ k,∃ hk:k<l.length,p l[k]=true ∧ ∀ j (hj:j<l.length),j<k→p l[j]=false
 ·obtain ⟨k,hk,h1,h2⟩:=h
  rw [idx_at hk h2 h1]; omega
 ·rw [idx_none fun j hj => ?_]
  ·omega
  ·induction j using Nat.strongRecOn with
   |ind j ih =>
    cases hp:p l[j] with
    |false=>rfl
    |true=>exact absurd ⟨j,hj,hp,fun i hi hij=>ih i hij hi⟩ h
theorem pickM_lt {zs:List Int} {n:Int} (h:pickM zs n ≠ -1):0≤pickM zs n∧pickM zs n<zs.length:=by
 have h0:=pickM_ge zs n
 refine ⟨by omega,?_⟩
 unfold pickM at *
 split at h
 ·exact absurd rfl h
 ·rename_i hn
  rw [if_neg hn] at h0
  rw [if_neg hn]
  exact idx_lt h0
theorem fits_place {c:Conf} {M:RmM} {who size:Int} (hok:M.Ok c) (hw:0≤who) (h:rmFits c M size=0):rmPlaceE c M who size=0:=by
 have hn:(rmNeed c M size:Int)≤M.pl.free.length:=by
  unfold rmFits at h
  split at h
  ·exact absurd h (by decide)
  ·split at h
   ·exact absurd h (by decide)
   ·omega
 unfold rmPlaceE
 rw [if_neg (by omega),if_neg (by omega)]
 split
 ·rfl
 ·rename_i hp
  obtain ⟨p0,p1⟩:=pickM_lt hp
  obtain ⟨k,hk⟩:=Int.eq_ofNat_of_zero_le p0
  rw [hk] at p1 ⊢
  have hkl:k<M.shs.length:=by have:=hok.n; omega
  have hg:rmGet M (k:Nat)=some M.shs[k]:=rmGet_nat hkl
  unfold rmTakeE
  rw [hg]
  simp only
  unfold shTakeE
  rw [if_neg (by omega),if_neg]
  intro ⟨h1,h2⟩
  unfold rmNeed at hn
  rw [if_neg hp,hk] at hn
  unfold rmOpen at hn
  rw [hg] at hn
  simp only [h1,h2] at hn
  omega
theorem rmGet_set {M:RmM} {k j:Nat} {x:Sm} {q:PlM} {t:Int}:rmGet {M with shs:=M.shs.set k x,pl:=q,tot:=t} j=if k=j∧k<M.shs.length then some x else rmGet M j:=by
 unfold rmGet
 rw [if_pos (Int.natCast_nonneg _),if_pos (Int.natCast_nonneg _),Int.toNat_natCast]
 show (M.shs.set k x)[j]? = _
 by_cases e:k=j
 ·subst e
  by_cases hk:k<M.shs.length
  ·rw [if_pos ⟨rfl,hk⟩,List.getElem?_set_self hk]
  ·rw [if_neg (fun h=>hk h.2),List.getElem?_eq_none (by rw [List.length_set]; omega),List.getElem?_eq_none (by omega)]
 ·rw [if_neg (fun h=>e h.1),List.getElem?_set_ne e]
theorem owner_give {x:Sm} {n i:Int} (h:shOwner x n i = -1):shGiveE x n i≠0:=by
 unfold shOwner at h
 unfold shGiveE
 cases hg:smGet x.pg n with
 |none=>simp
 |some p =>
  rw [hg] at h
  simp only at h ⊢
  unfold pgGiveE
  split
  ·decide
  ·first | decide | (rw [if_pos h]; decide)
theorem rmGet_neg {M:RmM} {k:Int} (h:k<0):rmGet M k=none:=rmGet_none (.inl h)
end Go.Proofs.YtnaoiegcobineaaGreatDoor
namespace Go.Proofs.YtnaoiegcobineaaGreatDoor
open Go.RowKit
theorem smGet_set {l:PgL} {n:Nat} {p q:List Int} (hn:(l.map (·.1)).Nodup) (hq:(n,q) ∈ l) (m:Int):smGet (smSet l n p) m=if m=n then some p else smGet l m:=by
 by_cases e:m=n
 ·rw [if_pos e,e]; exact smGet_set_eq hn hq
 ·rw [if_neg e]
  clear hn hq
  induction l with
  |nil=>rfl
  |cons a r ih =>
   obtain ⟨k,t⟩:=a
   by_cases hk:k=n
   ·have:smSet ((k,t)::r) n p=(n,p)::smSet r n p:=by show (if k=n then (n,p) else (k,t))::smSet r n p=_; rw [if_pos hk]
    rw [this]
    unfold smGet
    rw [if_neg (fun h=>e h.symm),if_neg (fun h=>e (by omega))]
    exact ih
   ·have:smSet ((k,t)::r) n p=(k,t)::smSet r n p:=by show (if k=n then (n,p) else (k,t))::smSet r n p=_; rw [if_neg hk]
    rw [this]
    unfold smGet
    by_cases h2:(k:Int)=m
    ·rw [if_pos h2,if_pos h2]
    ·rw [if_neg h2,if_neg h2]; exact ih
theorem smGet_app {l:PgL} {n:Nat} {p:List Int} (hn:n ∉ l.map (·.1)) (m:Int):smGet (l ++ [(n,p)]) m=if m=n then some p else smGet l m:=by
 induction l with
 |nil =>
  show smGet [(n,p)] m=_
  unfold smGet
  by_cases e:(n:Int)=m
  ·rw [if_pos e,if_pos e.symm]
  ·rw [if_neg e,if_neg (fun h=>e h.symm)]; rfl
 |cons a r ih =>
  obtain ⟨k,t⟩:=a
  have hk:k≠n:=fun h=>hn (by simp [h])
  have hr:n ∉ r.map (·.1):=fun h=>hn (by simp at h ⊢; exact .inr h)
  show (if (k:Int)=m then some t else smGet (r ++ [(n,p)]) m)=if m=n then some p else (if (k:Int)=m then some t else smGet r m)
  rw [ih hr]
  by_cases h1:(k:Int)=m
  ·rw [if_pos h1,if_pos h1,if_neg (by omega)]
  ·rw [if_neg h1,if_neg h1]
theorem smGet_dele {l:PgL} {n:Nat} (m:Int):smGet (smDel l n) m=if m=n then none else smGet l m:=by
 induction l with
 |nil=>show none=_; split <;> rfl
 |cons a r ih =>
  obtain ⟨k,t⟩:=a
  by_cases hk:k=n
  ·have:smDel ((k,t)::r) n=smDel r n:=by unfold smDel; rw [List.filter_cons]; simp [hk]
   rw [this,ih]
   by_cases e:m=n
   ·rw [if_pos e,if_pos e]
   ·rw [if_neg e,if_neg e]
    show _=if (k:Int)=m then some t else smGet r m
    rw [if_neg (by omega)]
  ·have:smDel ((k,t)::r) n=(k,t)::smDel r n:=by unfold smDel; rw [List.filter_cons]; simp [hk]
   rw [this]
   show (if (k:Int)=m then some t else smGet (smDel r n) m)=if m=n then none else (if (k:Int)=m then some t else smGet r m)
   rw [ih]
   by_cases h1:(k:Int)=m
   ·rw [if_pos h1,if_pos h1,if_neg (by omega)]
   ·rw [if_neg h1,if_neg h1]
theorem pgOwn_at {p:List Int} {k:Nat} {v:Int} (h:k<p.length) (j:Int):pgOwn (p.set k v) j=if j=k then v else pgOwn p j:=by
 unfold pgOwn
 by_cases hj:0≤j
 ·obtain ⟨j,rfl⟩:=Int.eq_ofNat_of_zero_le hj
  rw [if_pos hj,if_pos hj]
  show (p.set k v).getD j (-1)=_
  rw [getD_set_i]
  by_cases e:k=j
  ·subst e; rw [if_pos ⟨rfl,h⟩,if_pos rfl]
  ·rw [if_neg (fun h=>e h.1),if_neg (by omega)]; rfl
 ·rw [if_neg hj,if_neg hj,if_neg (by omega)]
theorem pgOwn_in {p:List Int} {j:Int} (h:pgOwn p j ≠ -1):0≤j∧j<p.length:=by
 unfold pgOwn at h
 split at h
 ·rename_i h0
  refine ⟨h0,?_⟩
  refine Int.not_le.1 fun hl=>h ?_
  rw [List.getD_eq_getElem?_getD,List.getElem?_eq_none (by omega)]
  rfl
 ·exact absurd rfl h
theorem owner_in {x:Sm} {n i:Int} (hok:x.Ok) (h:shOwner x n i ≠ -1):∃ (m:Nat) (p:List Int),n=m∧(m,p) ∈ x.pg∧smGet x.pg n=some p∧0≤i∧i<x.blocks∧shOwner x n i=pgOwn p i:=by
 unfold shOwner at h ⊢
 cases hg:smGet x.pg n with
 |none=>rw [hg] at h; exact absurd rfl h
 |some p =>
  rw [hg] at h
  simp only at h
  obtain ⟨m,rfl,hm⟩:=smGet_some hg
  have hl:=(hok.each _ hm).2.1
  obtain ⟨a,b⟩:=pgOwn_in h
  exact ⟨m,p,rfl,hm,rfl,a,by simp only at hl; omega,rfl⟩
theorem giveE_iff {x:Sm} {n i:Int}:shGiveE x n i=0↔shOwner x n i ≠ -1:=by
 constructor
 ·intro h h2; exact owner_give h2 h
 ·intro h
  unfold shOwner at h
  unfold shGiveE
  cases hg:smGet x.pg n with
  |none=>rw [hg] at h; exact absurd rfl h
  |some p =>
   rw [hg] at h
   simp only at h ⊢
   obtain ⟨a,b⟩:=pgOwn_in h
   unfold pgGiveE
   rw [if_neg (by omega),if_neg h]
theorem ownE_iff {x:Sm} {n i who:Int} (hw:0≤who):shOwnE x n i who=0↔shOwner x n i ≠ -1:=by
 unfold shOwner shOwnE
 cases hg:smGet x.pg n with
 |none=>simp
 |some p =>
  simp only
  unfold pgOwnE
  constructor
  ·intro h h2
   split at h
   ·cases h
   ·first | (rw [if_pos h2] at h; cases h) | (cases h)
  ·intro h
   obtain ⟨a,b⟩:=pgOwn_in h
   rw [if_neg (by omega),if_neg h]
theorem give_owner {x:Sm} {n i:Int} (hok:x.Ok) (h:shOwner x n i ≠ -1) (m j:Int):shOwner (shGive x n i) m j=if m=n∧j=i then -1 else shOwner x m j:=by
 obtain ⟨k,p,rfl,hp,hg,h0,h1,e⟩:=owner_in hok h
 obtain ⟨i,rfl⟩:=Int.eq_ofNat_of_zero_le h0
 rw [e] at h
 have hl:=(hok.each _ hp).2.1
 simp only at hl
 have hE:pgGiveE p i=0:=by unfold pgGiveE; rw [if_neg (by omega),if_neg h]
 have hv:shGive x (k:Nat) i=x.giveAt k p i:=by unfold shGive; rw [hg]; simp only; rw [if_pos hE,Int.toNat_natCast]
 rw [hv]
 have hgp:pgGive p i=p.set i (-1):=by unfold pgGive; rw [if_pos hE,Int.toNat_natCast]
 unfold Sm.giveAt
 simp only
 by_cases hz:pgUsed (pgGive p i)=0
 ·rw [if_pos hz]
  unfold shOwner
  simp only
  rw [smGet_dele]
  by_cases hm:m=k
  ·rw [if_pos hm]
   by_cases hj:j=i
   ·rw [if_pos ⟨hm,hj⟩]
   ·rw [if_neg (fun h=>hj h.2),hm,hg]
    simp only
    have h3:pgOwn (pgGive p i) j = -1:=Decidable.byContradiction fun hne=>by
     obtain ⟨a,b⟩:=pgOwn_in hne
     obtain ⟨j,rfl⟩:=Int.eq_ofNat_of_zero_le a
     have hlt:j<(pgGive p i).length:=by omega
     have:=pgUsed_set (v := -1) hlt
     rw [if_pos rfl] at this
     have h5:(pgGive p i).getD j 0 ≠ -1:=by
      rw [getD_0_m1 hlt]
      intro h6
      apply hne
      unfold pgOwn
      rw [if_pos a,Int.toNat_natCast]; exact h6
     rw [if_neg h5] at this
     omega
    rw [hgp,pgOwn_at (by omega),if_neg hj] at h3
    exact h3.symm
  ·rw [if_neg hm,if_neg (fun h=>hm h.1)]
 ·rw [if_neg hz]
  unfold shOwner
  simp only
  rw [smGet_set hok.nodup hp]
  by_cases hm:m=k
  ·rw [if_pos hm,hm,hg]
   simp only
   rw [hgp,pgOwn_at (by omega)]
   by_cases hj:j=i
   ·rw [if_pos hj,if_pos ⟨by trivial,hj⟩]
   ·rw [if_neg hj,if_neg (fun h=>hj h.2)]
  ·rw [if_neg hm,if_neg (fun h=>hm h.1)]
theorem own_owner {x:Sm} {n i who:Int} (hok:x.Ok) (hw:0≤who) (h:shOwner x n i ≠ -1) (m j:Int):shOwner (shOwn x n i who) m j=if m=n∧j=i then who else shOwner x m j:=by
 obtain ⟨k,p,rfl,hp,hg,h0,h1,e⟩:=owner_in hok h
 obtain ⟨i,rfl⟩:=Int.eq_ofNat_of_zero_le h0
 rw [e] at h
 have hl:=(hok.each _ hp).2.1
 simp only at hl
 have hE:pgOwnE p i who=0:=by unfold pgOwnE; rw [if_neg (by omega),if_neg h]
 have hv:shOwn x (k:Nat) i who=x.ownAt k p i who:=by unfold shOwn; rw [hg]; simp only [Int.toNat_natCast]
 rw [hv]
 have hgp:pgOwnS p i who=p.set i who:=by unfold pgOwnS; rw [if_pos hE,Int.toNat_natCast]
 unfold Sm.ownAt shOwner
 simp only
 rw [smGet_set hok.nodup hp]
 by_cases hm:m=k
 ·rw [if_pos hm,hm,hg]
  simp only
  rw [hgp,pgOwn_at (by omega)]
  by_cases hj:j=i
  ·rw [if_pos hj,if_pos ⟨by trivial,hj⟩]
  ·rw [if_neg hj,if_neg (fun h=>hj h.2)]
 ·rw [if_neg hm,if_neg (fun h=>hm h.1)]
theorem takeAt_owner {x:Sm} {n:Nat} {p:List Int} {who:Int} (hok:x.Ok) (hw:0≤who) (hp:(n,p) ∈ x.pg) (hf:pgUsed p≠x.blocks) (m j:Int):shOwner (x.takeAt n p who) m j=(if m=n∧j=pgHole p then who else shOwner x m j)∧shOwner x n (pgHole p) = -1∧0≤pgHole p∧pgHole p<x.blocks:=by
 have hl:=(hok.each _ hp).2.1
 simp only at hl
 have hg:=smGet_of hok.nodup hp
 obtain ⟨e1,_⟩:=pgTake_ok (p:=p) (who:=who) hw (by rw [hl]; exact hf)
 have hh:¬ pgHole p<0:=fun e=>by have:=pgHole_full.1 e; omega
 obtain ⟨g1,g2⟩:=pg_hole_in hh
 obtain ⟨k,hk⟩:=Int.eq_ofNat_of_zero_le (show 0≤pgHole p by omega)
 rw [hk] at g1 g2 ⊢
 simp only [Int.toNat_natCast] at g1 g2
 have hpt:pgTake p who=p.set k who:=by unfold pgTake; rw [if_pos e1,hk,Int.toNat_natCast]
 refine ⟨?_,?_,by omega,by omega⟩
 ·unfold Sm.takeAt shOwner
  simp only
  rw [smGet_set hok.nodup hp,hpt]
  by_cases hm:m=n
  ·rw [if_pos hm,hm,hg]
   simp only
   rw [pgOwn_at g1]
   by_cases hj:j=k
   ·rw [if_pos hj,if_pos ⟨by trivial,hj⟩]
   ·rw [if_neg hj,if_neg (fun h=>hj h.2)]
  ·rw [if_neg hm,if_neg (fun h=>hm h.1)]
 ·unfold shOwner
  rw [hg]
  simp only
  unfold pgOwn
  rw [if_pos (by omega),Int.toNat_natCast]; exact g2
structure TakeF (x:Sm) (pl:PlM) (who:Int):Prop where
 own:∀ m j,shOwner (shTake x pl who) m j=if m=shTakeN x pl who∧j=shTakeA x pl who then who else shOwner x m j
 free:shOwner x (shTakeN x pl who) (shTakeA x pl who) = -1
 n:0≤shTakeN x pl who∧shTakeN x pl who<pl.own.length
 a:0≤shTakeA x pl who∧shTakeA x pl who<x.blocks
 used:smUsed (shTake x pl who).pg=smUsed x.pg+1
 ok:(shTake x pl who).Ok
theorem take_facts {x:Sm} {pl:PlM} {who:Int} (hok:x.Ok) (hof:x.Of pl) (hg:pl.Good) (hE:shTakeE x pl who=0):TakeF x pl who:=by
 rcases shTake_cases x pl who with ⟨hne,_⟩ | ⟨_,hw,⟨n,r,ho,k1,k2,k3,k4,k5⟩ | ⟨n,r,ho,hf,k1,k2,k3,k4,k5⟩⟩
 ·exact absurd hE hne
 ·obtain ⟨p,hp⟩:=hok.osub n (by rw [ho]; simp)
  rw [smGet_of hok.nodup hp] at k3
  simp only [Option.getD_some] at k3
  rw [k3] at k1 k5
  have hnf:=(hok.each _ hp).2.2.1 (by rw [ho]; simp)
  simp only at hnf
  have hl:=(hok.each _ hp).2.1
  simp only at hl
  have T:=fun m j=>takeAt_owner hok hw hp hnf m j
  obtain ⟨_,e2⟩:=pgTake_ok (p:=p) (who:=who) hw (by rw [hl]; exact hnf)
  refine ⟨fun m j=>by rw [k1,k4,k5]; exact (T m j).1,by rw [k4,k5]; exact (T 0 0).2.1,?_,by rw [k5]; exact (T 0 0).2.2,?_,by rw [k1]; exact hok.takeAt hw hp (by rw [ho]; simp)⟩
  ·rw [k4]; have:=(hof _ hp).1; simp only at this; omega
  ·rw [k1]
   have:=smUsed_set (p:=pgTake p who) hok.nodup hp
   show smUsed (smSet _ _ _)=_
   omega
 ·have hnew:=free_new hok hof hg (n:=n) (by rw [hf]; simp)
  have hnl:=(hg.free n (by rw [hf]; simp)).1
  have hn4:n<1024:=by have:=hg.len; omega
  have hx1:=hok.fresh hn4 hnew
  have hp:(n,List.replicate x.blocks (-1)) ∈ (x.fresh n).pg:=List.mem_append_right _ (by simp)
  rw [smGet_of hx1.nodup hp] at k3
  simp only [Option.getD_some] at k3
  rw [k3] at k1 k5
  have hb:=hok.blk
  have hnf:pgUsed (List.replicate x.blocks (-1))≠(x.fresh n).blocks:=by rw [pgUsed_new]; show 0≠x.blocks; omega
  have T:=fun m j=>takeAt_owner hx1 hw hp hnf m j
  have hfo:∀ m j,shOwner (x.fresh n) m j=shOwner x m j:=fun m j=>by
   unfold shOwner
   show (match smGet (x.pg ++ [(n,List.replicate x.blocks (-1))]) m with | some p=>pgOwn p j | none => -1)=_
   rw [smGet_app hnew]
   by_cases hm:m=n
   ·rw [if_pos hm]
    have h0:smGet x.pg m=none:=by
     cases hg:smGet x.pg m with
     |none=>rfl
     |some p =>
      obtain ⟨k,hk,hkm⟩:=smGet_some hg
      have:k=n:=by omega
      subst this
      exact absurd (List.mem_map.2 ⟨_,hkm,rfl⟩) hnew
    rw [h0]
    simp only
    refine Decidable.byContradiction fun hne => ?_
    obtain ⟨a,b⟩:=pgOwn_in hne
    apply hne
    unfold pgOwn
    rw [if_pos a,List.getD_eq_getElem?_getD,List.getElem?_replicate]
    split <;> rfl
   ·rw [if_neg hm]; rfl
  have hl:(List.replicate x.blocks (-1:Int)).length=x.blocks:=List.length_replicate
  obtain ⟨_,e2⟩:=pgTake_ok (p:=List.replicate x.blocks (-1)) (who:=who) hw (by rw [pgUsed_new,hl]; omega)
  refine ⟨fun m j=>by rw [k1,k4,k5,(T m j).1,hfo],by rw [k4,k5,← hfo]; exact (T 0 0).2.1,by rw [k4]; omega,by rw [k5]; exact (T 0 0).2.2,?_,by rw [k1]; exact hx1.takeAt hw hp (by show n ∈ n::x.opn; simp)⟩
  rw [k1]
  have h1:=smUsed_set (p:=pgTake (List.replicate x.blocks (-1)) who) hx1.nodup hp
  have h2:smUsed (x.fresh n).pg=smUsed x.pg:=by show smUsed (x.pg++_)=_; rw [smUsed_append,pgUsed_new]; rfl
  rw [pgUsed_new] at h1 e2
  show smUsed (smSet _ _ _)=_
  omega
end Go.Proofs.YtnaoiegcobineaaGreatDoor
namespace Go.Proofs.YtnaoiegcobineaaGreatDoor
open Go.RowKit
structure RmAll (c:Conf) (M:RmM):Prop where
 ok:M.Ok c
 mok:MOk M
 pos:MPos M
theorem smPos_set {x:Sm} {n:Nat} {p:List Int} (hp:x.Pos) (h:0<pgUsed p):∀ e ∈ smSet x.pg n p,0<pgUsed e.2:=fun e he=>by
 rcases mem_smSet he with ⟨rfl,_⟩ | ⟨_,he⟩
 ·exact h
 ·exact hp e he
theorem take_pos {x:Sm} {pl:PlM} {who:Int} (hok:x.Ok) (hpos:x.Pos) (hof:x.Of pl) (hg:pl.Good):(shTake x pl who).Pos:=by
 rcases shTake_cases x pl who with ⟨_,h,_⟩ | ⟨_,hw,⟨n,r,ho,k1,k2,k3,_⟩ | ⟨n,r,ho,hf,k1,k2,k3,_⟩⟩
 ·rw [h]; exact hpos
 ·obtain ⟨p,hp⟩:=hok.osub n (by rw [ho]; simp)
  rw [smGet_of hok.nodup hp] at k3
  simp only [Option.getD_some] at k3
  rw [k1,k3]
  have hl:=(hok.each _ hp).2.1
  have hnf:=(hok.each _ hp).2.2.1 (by rw [ho]; simp)
  simp only at hl hnf
  obtain ⟨_,e2⟩:=pgTake_ok (p:=p) (who:=who) hw (by rw [hl]; exact hnf)
  exact smPos_set hpos (by omega)
 ·have hnew:=free_new hok hof hg (n:=n) (by rw [hf]; simp)
  have hn4:n<1024:=by have:=(hg.free n (by rw [hf]; simp)).1; have:=hg.len; omega
  have hx1:=hok.fresh hn4 hnew
  have hp:(n,List.replicate x.blocks (-1)) ∈ (x.fresh n).pg:=List.mem_append_right _ (by simp)
  rw [smGet_of hx1.nodup hp] at k3
  simp only [Option.getD_some] at k3
  rw [k1,k3]
  have hl:(List.replicate x.blocks (-1:Int)).length=x.blocks:=List.length_replicate
  have hb:=hok.blk
  obtain ⟨_,e2⟩:=pgTake_ok (p:=List.replicate x.blocks (-1)) (who:=who) hw (by rw [pgUsed_new,hl]; omega)
  intro e he
  rcases mem_smSet he with ⟨rfl,_⟩ | ⟨hne,he⟩
  ·show 0<pgUsed (pgTake _ _); omega
  ·rcases List.mem_append.1 he with he | he
   ·exact hpos e he
   ·have:e=(n,List.replicate x.blocks (-1)):=by simpa using he
    subst this
    exact absurd rfl hne
theorem give_pos {x:Sm} {n i:Int} (hpos:x.Pos):(shGive x n i).Pos:=by
 unfold shGive
 cases hg:smGet x.pg n with
 |none=>exact hpos
 |some p =>
  simp only
  by_cases hE:pgGiveE p i=0
  ·rw [if_pos hE]
   unfold Sm.giveAt
   simp only
   by_cases hz:pgUsed (pgGive p i)=0
   ·rw [if_pos hz]
    intro e he
    exact hpos e (mem_smDel.1 he).2
   ·rw [if_neg hz]
    exact smPos_set hpos (by omega)
  ·rw [if_neg hE]; exact hpos
theorem own_pos {x:Sm} {n i who:Int} (hpos:x.Pos):(shOwn x n i who).Pos:=by
 unfold shOwn
 cases hg:smGet x.pg n with
 |none=>exact hpos
 |some p =>
  obtain ⟨m,rfl,hm⟩:=smGet_some hg
  exact smPos_set hpos (by rw [pgOwn_used]; exact hpos _ hm)
theorem give_ok {x:Sm} {n i:Int} (hok:x.Ok):(shGive x n i).Ok:=by
 unfold shGive
 cases hg:smGet x.pg n with
 |none=>exact hok
 |some p =>
  obtain ⟨m,rfl,hm⟩:=smGet_some hg
  simp only [Int.toNat_natCast]
  by_cases hE:pgGiveE p i=0
  ·rw [if_pos hE]; exact hok.giveAt hm hE
  ·rw [if_neg hE]; exact hok
theorem own_ok {x:Sm} {n i who:Int} (hok:x.Ok):(shOwn x n i who).Ok:=by
 unfold shOwn
 cases hg:smGet x.pg n with
 |none=>exact hok
 |some p =>
  obtain ⟨m,rfl,hm⟩:=smGet_some hg
  simp only [Int.toNat_natCast]
  exact hok.ownAt hm
theorem take_ok {x:Sm} {pl:PlM} {who:Int} (hok:x.Ok) (hof:x.Of pl) (hg:pl.Good):(shTake x pl who).Ok:=by
 by_cases hE:shTakeE x pl who=0
 ·exact (take_facts hok hof hg hE).ok
 ·have:shTake x pl who=x:=by unfold shTake; rw [if_neg hE]
  rw [this]; exact hok
section
variable {c:Conf} {M:RmM}
theorem RmAll.set {k:Nat} {x x':Sm} {q:PlM} (h:RmAll c M) (hx:M.shs[k]? = some x) (hE:Eff M.pl q x.cls) (hc:x'.cls=x.cls) (hb:x'.blocks=x.blocks) (hs:heldM q+x.pg.length=heldM M.pl+x'.pg.length) (hok:x'.Ok) (hof:x'.Of q) (hpos:x'.Pos):RmAll c (rmSet M k x' q):=by
 have hk:k<M.shs.length:=(List.getElem?_eq_some_iff.1 hx).1
 obtain ⟨e1,_⟩:=h.ok.each k x hx
 have hcl:=(h.mok.sh k x hx).1.cls
 have get:∀ (j:Nat) (y:Sm),(rmSet M k x' q).shs[j]? = some y→(j=k∧y=x')∨(j≠k∧M.shs[j]? = some y):=fun j y hy=>by
  replace hy:(M.shs.set k x')[j]? = some y:=hy
  by_cases e:k=j
  ·subst e; rw [List.getElem?_set_self hk] at hy; cases hy; exact .inl ⟨rfl,rfl⟩
  ·rw [List.getElem?_set_ne e] at hy; exact .inr ⟨fun h=>e h.symm,hy⟩
 refine ⟨h.ok.set h.mok.good hx hE hc hb hs,⟨fun j y hy => ?_,hE.good h.mok.good hcl⟩,fun j y hy => ?_⟩
 ·rcases get j y hy with ⟨_,rfl⟩ | ⟨hj,hy⟩
  ·exact ⟨hok,hof⟩
  ·obtain ⟨a,b⟩:=h.mok.sh j y hy
   obtain ⟨e2,_⟩:=h.ok.each j y hy
   exact ⟨a,hE.of h.mok.good b (by omega) (by omega)⟩
 ·rcases get j y hy with ⟨_,rfl⟩ | ⟨_,hy⟩
  ·exact hpos
  ·exact h.pos j y hy
theorem RmAll.tot (h:RmAll c M) {t:Int} (ht:0≤t∧t≤4611686018427387904):RmAll c {M with tot:=t}:=⟨{h.ok with tot:=ht},⟨h.mok.sh,h.mok.good⟩,h.pos⟩
theorem RmAll.charge (h:RmAll c M) (n:Int):RmAll c {M with tot:=charged M.tot n}:=h.tot (charged_pos h.ok.tot)
theorem rmPut_eq (k:Nat) (x:Sm) (q:PlM):rmPut M k x q={rmSet M k x q with tot:=charged M.tot (chgM M.pl q)}:=rfl
theorem RmAll.take (h:RmAll c M) (k who:Int):RmAll c (rmTake M k who):=by
 unfold rmTake
 cases hg:rmGet M k with
 |none=>exact h
 |some x =>
  obtain ⟨n,rfl,hn,hx⟩:=rmGet_some hg
  simp only [Int.toNat_natCast]
  split
  ·obtain ⟨xo,xf⟩:=h.mok.sh n x hx
   obtain ⟨e1,e2,e3,e4⟩:=take_eff x M.pl who h.mok.good xo.cls
   rw [rmPut_eq]
   exact (h.set hx e1 e2 e3 e4 (take_ok xo xf h.mok.good) (take_of x M.pl who xf h.mok.good) (take_pos xo (h.pos n x hx) xf h.mok.good)).tot (charged_pos h.ok.tot)
  ·exact h
theorem RmAll.give (h:RmAll c M) (k n i:Int):RmAll c (rmGive M k n i):=by
 unfold rmGive
 cases hg:rmGet M k with
 |none=>exact h
 |some x =>
  obtain ⟨m,rfl,hn,hx⟩:=rmGet_some hg
  simp only [Int.toNat_natCast]
  split
  ·obtain ⟨xo,xf⟩:=h.mok.sh m x hx
   obtain ⟨e1,e2,e3,e4⟩:=give_eff x M.pl n i xo xf
   rw [rmPut_eq]
   exact (h.set hx e1 e2 e3 e4 (give_ok xo) (give_of x M.pl n i xo xf) (give_pos (h.pos m x hx))).tot (charged_pos h.ok.tot)
  ·exact h
theorem RmAll.own (h:RmAll c M) (k n i who:Int):RmAll c (rmOwn M k n i who):=by
 unfold rmOwn
 cases hg:rmGet M k with
 |none=>exact h
 |some x =>
  obtain ⟨m,rfl,hn,hx⟩:=rmGet_some hg
  simp only [Int.toNat_natCast]
  obtain ⟨xo,xf⟩:=h.mok.sh m x hx
  obtain ⟨e1,e2,e3,e4⟩:=own_eff x M.pl n i who
  exact h.set hx e1 e2 e3 e4 (own_ok xo) (own_of x M.pl n i who xf) (own_pos (h.pos m x hx))
theorem RmAll.big (h:RmAll c M) {many:Nat} (h1:1≤many) (hm:many≤M.pl.free.length):RmAll c (rmBig M many):=by
 obtain ⟨p1,_⟩:=plTk_props (who:=((M.shs.length:Nat):Int)) (by omega) h.mok.good many hm
 exact ⟨h.ok.big h.mok.good h1 hm,⟨fun k x hx=>by
  obtain ⟨a,b⟩:=h.mok.sh k x hx
  exact ⟨a,plTk_of (by omega) h.mok.good hm a.cls b⟩,p1⟩,h.pos⟩
theorem lg_nodup (h:M.Ok c) {n:Nat} {r:List Nat} (hm:(n,r) ∈ M.lg):(n::r).Nodup:=by
 obtain ⟨A,B,eA,_⟩:=lgDel_cut h.nd hm
 have e:lgAll M.lg=lgAll A++((n::r)++lgAll B):=by rw [eA,lgAll_append]; rfl
 have hnd:=h.nd
 rw [e] at hnd
 exact (List.nodup_append.1 (List.nodup_append.1 hnd).2.1).1
theorem RmAll.gone (h:RmAll c M) {n:Nat} {r:List Nat} (hm:(n,r) ∈ M.lg):RmAll c (rmGone M n r):=by
 obtain ⟨a,b⟩:=h.ok.gone h.mok.good hm
 have hnd:=lg_nodup h.ok hm
 have hown:∀ m ∈ n::r,m<M.pl.own.length∧M.pl.own.getD m 0=(M.shs.length:Int):=fun m hm'=>h.ok.lg m (mem_lgAll hm hm')
 exact ⟨a,⟨fun k x hx=>by
  obtain ⟨xo,xf⟩:=h.mok.sh k x hx
  have hk:k<M.shs.length:=(List.getElem?_eq_some_iff.1 hx).1
  have hcx:=(h.ok.each k x hx).1
  exact ⟨xo,plGv_of h.mok.good hnd (fun m hm'=>⟨(hown m hm').1,by have:=(hown m hm').2; omega⟩) xf (fun m hm'=>by have:=(hown m hm').2; omega)⟩,b⟩,h.pos⟩
theorem fits_big {size:Int} (hmay:mayB c=true) (h:rmFits c M size=0) (hp:pickM c.classes size = -1):2≤(allM size c.size).toNat∧(allM size c.size).toNat≤M.pl.free.length∧1≤size∧size≤c.most:=by
 have hf:=may_facts hmay
 have hn:(rmNeed c M size:Int)≤M.pl.free.length ∧ ¬ (size<1∨c.most<size):=by
  unfold rmFits at h
  split at h
  ·exact absurd h (by decide)
  ·split at h
   ·exact absurd h (by decide)
   ·exact ⟨by omega,by assumption⟩
 have e:rmNeed c M size=allM size c.size:=by unfold rmNeed; rw [if_pos hp]
 have hge:2≤allM size c.size:=by
  have hs:=hf.size
  have hmo:=hf.most
  have h0:0≤(size - 1) / c.size:=Int.ediv_nonneg (by omega) (by omega)
  have h9:(size - 1) / c.size≤size - 1:=Int.ediv_le_self _ (by omega)
  have e4:manyM size c.size=(size - 1) / c.size+1:=by unfold manyM; rw [if_neg (by omega)]
  unfold allM
  rw [e4,if_neg (by omega)]
  omega
 omega
theorem RmAll.drop (h:RmAll c M) (q:PlcM):RmAll c (rmDrop M q):=by
 unfold rmDrop
 split
 ·exact h.give _ _ _
 ·split
  ·exact h
  ·rename_i r hr
   split
   ·obtain ⟨n,hn,hm⟩:=lgGet_some hr
    rw [hn,Int.toNat_natCast]
    exact h.gone hm
   ·exact h
theorem rmGet_rmSet {k:Nat} {x':Sm} {q:PlM} (hk:k<M.shs.length) (j:Int):rmGet (rmSet M k x' q) j=if j=k then some x' else rmGet M j:=by
 by_cases hj:j<0
 ·rw [if_neg (by omega),rmGet_neg hj,rmGet_neg hj]
 ·obtain ⟨j,rfl⟩:=Int.eq_ofNat_of_zero_le (show 0≤j by omega)
  have:=rmGet_set (M:=M) (k:=k) (j:=j) (x:=x') (q:=q) (t:=M.tot)
  have e:rmSet M k x' q={M with shs:=M.shs.set k x',pl:=q,tot:=M.tot}:=rfl
  rw [e,this]
  by_cases h:k=j
  ·rw [if_pos ⟨h,hk⟩,if_pos (by omega)]
  ·rw [if_neg (fun h2=>h h2.1),if_neg (by omega)]
theorem rmOwner_set {k:Nat} {x x':Sm} {q:PlM} (hx:M.shs[k]? = some x) (j n a:Int):rmOwner (rmSet M k x' q) j n a=if j=k then shOwner x' n a else rmOwner M j n a:=by
 have hk:k<M.shs.length:=(List.getElem?_eq_some_iff.1 hx).1
 unfold rmOwner
 rw [rmGet_rmSet hk]
 by_cases h:j=k
 ·rw [if_pos h,if_pos h]
 ·rw [if_neg h,if_neg h]
theorem rmOwner_put (k:Nat) (x:Sm) (q:PlM) (j n a:Int):rmOwner (rmPut M k x q) j n a=rmOwner (rmSet M k x q) j n a:=rfl
theorem rmOwner_at {k:Nat} {x:Sm} (hx:M.shs[k]? = some x) (n a:Int):rmOwner M (k:Nat) n a=shOwner x n a:=by
 have hk:k<M.shs.length:=(List.getElem?_eq_some_iff.1 hx).1
 have e:M.shs[k]=x:=(List.getElem?_eq_some_iff.1 hx).2
 unfold rmOwner
 rw [rmGet_nat hk,e]
theorem rmOwner_in (h:RmAll c M) {k n a:Int} (ho:rmOwner M k n a ≠ -1):∃ (j:Nat) (x:Sm),k=j∧j<c.classes.length∧M.shs[j]? = some x∧shOwner x n a=rmOwner M k n a∧0≤n∧n<c.pages∧0≤a∧a<blocksM c k:=by
 unfold rmOwner at ho
 cases hg:rmGet M k with
 |none=>rw [hg] at ho; exact absurd rfl ho
 |some x =>
  rw [hg] at ho
  simp only at ho
  obtain ⟨j,rfl,hj,hx⟩:=rmGet_some hg
  obtain ⟨xo,xf⟩:=h.mok.sh j x hx
  obtain ⟨m,p,rfl,hm,_,h0,h1,_⟩:=owner_in xo ho
  have hb:=(h.ok.each j x hx).2
  have hpg:=(xf _ hm).1
  have hown:=h.ok.own
  have hn:=h.ok.n
  exact ⟨j,x,rfl,by omega,hx,(rmOwner_at hx _ _).symm,by omega,by simp only at hpg; omega,h0,by omega⟩
theorem rmTake_in (h:RmAll c M) {k who:Int} (hE:rmTakeE M k who=0):∃ (j:Nat) (x:Sm),k=j∧j<M.shs.length∧M.shs[j]? = some x∧shTakeE x M.pl who=0∧rmTake M k who=rmPut M j (shTake x M.pl who) (shTakeP x M.pl who)∧rmTakeN M k who=shTakeN x M.pl who∧rmTakeA M k who=shTakeA x M.pl who:=by
 unfold rmTakeE at hE
 cases hg:rmGet M k with
 |none=>rw [hg] at hE; exact absurd (show (1:Int)=0 from hE) (by decide)
 |some x =>
  rw [hg] at hE
  obtain ⟨j,rfl,hj,hx⟩:=rmGet_some hg
  simp only at hE
  exact ⟨j,x,rfl,hj,hx,hE,by unfold rmTake; rw [hg]; simp only; rw [if_pos hE,Int.toNat_natCast],by unfold rmTakeN; rw [hg],by unfold rmTakeA; rw [hg]⟩
theorem take_ownerM (h:RmAll c M) {k who:Int} (hE:rmTakeE M k who=0):(∀ j n a,rmOwner (rmTake M k who) j n a=if j=k∧n=rmTakeN M k who∧a=rmTakeA M k who then who else rmOwner M j n a)∧rmOwner M k (rmTakeN M k who) (rmTakeA M k who) = -1:=by
 obtain ⟨i,x,rfl,hi,hx,hE',e1,e2,e3⟩:=rmTake_in h hE
 obtain ⟨xo,xf⟩:=h.mok.sh i x hx
 have T:=take_facts xo xf h.mok.good hE'
 refine ⟨fun j n a => ?_,by rw [e2,e3,rmOwner_at hx]; exact T.free⟩
 rw [e1,e2,e3,rmOwner_put,rmOwner_set hx]
 by_cases hj:j=i
 ·rw [if_pos hj,T.own,hj,rmOwner_at hx]
  by_cases hq:n=shTakeN x M.pl who∧a=shTakeA x M.pl who
  ·rw [if_pos hq,if_pos ⟨rfl,hq⟩]
  ·rw [if_neg hq,if_neg (fun h=>hq h.2)]
 ·rw [if_neg hj,if_neg (fun h=>hj h.1)]
theorem give_ownerM (h:RmAll c M) {k n i:Int} (ho:rmOwner M k n i ≠ -1):rmGiveE M k n i=0 ∧ ∀ j m a,rmOwner (rmGive M k n i) j m a=if j=k∧m=n∧a=i then -1 else rmOwner M j m a:=by
 obtain ⟨l,x,rfl,_,hx,e,_⟩:=rmOwner_in h ho
 obtain ⟨xo,xf⟩:=h.mok.sh l x hx
 have hl:l<M.shs.length:=(List.getElem?_eq_some_iff.1 hx).1
 have hg:rmGet M (l:Nat)=some x:=by rw [rmGet_nat hl]; exact congrArg some (List.getElem?_eq_some_iff.1 hx).2
 rw [← e] at ho
 have hE:=giveE_iff.2 ho
 have e1:rmGive M (l:Nat) n i=rmPut M l (shGive x n i) (shGiveP x M.pl n i):=by unfold rmGive; rw [hg]; simp only; rw [if_pos hE,Int.toNat_natCast]
 refine ⟨by unfold rmGiveE; rw [hg]; exact hE,fun j m a => ?_⟩
 rw [e1,rmOwner_put,rmOwner_set hx]
 by_cases hj:j=l
 ·rw [if_pos hj,give_owner xo ho,hj,rmOwner_at hx]
  by_cases hq:m=n∧a=i
  ·rw [if_pos hq,if_pos ⟨rfl,hq⟩]
  ·rw [if_neg hq,if_neg (fun h=>hq h.2)]
 ·rw [if_neg hj,if_neg (fun h=>hj h.1)]
theorem own_ownerM (h:RmAll c M) {k n i who:Int} (hw:0≤who) (ho:rmOwner M k n i ≠ -1):rmOwnE M k n i who=0 ∧ ∀ j m a,rmOwner (rmOwn M k n i who) j m a=if j=k∧m=n∧a=i then who else rmOwner M j m a:=by
 obtain ⟨l,x,rfl,_,hx,e,_⟩:=rmOwner_in h ho
 obtain ⟨xo,xf⟩:=h.mok.sh l x hx
 have hl:l<M.shs.length:=(List.getElem?_eq_some_iff.1 hx).1
 have hg:rmGet M (l:Nat)=some x:=by rw [rmGet_nat hl]; exact congrArg some (List.getElem?_eq_some_iff.1 hx).2
 rw [← e] at ho
 have e1:rmOwn M (l:Nat) n i who=rmSet M l (shOwn x n i who) M.pl:=by unfold rmOwn; rw [hg]; simp only [Int.toNat_natCast]
 refine ⟨by unfold rmOwnE; rw [hg]; exact (ownE_iff hw).2 ho,fun j m a => ?_⟩
 rw [e1,rmOwner_set hx]
 by_cases hj:j=l
 ·rw [if_pos hj,own_owner xo hw ho,hj,rmOwner_at hx]
  by_cases hq:m=n∧a=i
  ·rw [if_pos hq,if_pos ⟨rfl,hq⟩]
  ·rw [if_neg hq,if_neg (fun h=>hq h.2)]
 ·rw [if_neg hj,if_neg (fun h=>hj h.1)]
end
end Go.Proofs.YtnaoiegcobineaaGreatDoor
namespace Go.Proofs.YtnaoiegcobineaaGreatDoor
open Go.RowKit
theorem getD_is0 {x:List Bool} {j:Nat} (h:j<x.length):x.getD j false=x[j]:=by rw [List.getD_eq_getElem?_getD,List.getElem?_eq_getElem h]; rfl
theorem high_is {x:List Bool} (h:cnt x≠0):∃ t,t<x.length∧x.getD t false=true∧highM x=(t:Int):=by
 have key:∀ m,m≤x.length→(∀ j,m≤j→x.getD j false=false)→(∀ j,x.getD j false=false) ∨ ∃ t,t<x.length∧x.getD t false=true ∧ ∀ j,t<j→x.getD j false=false:=by
  intro m
  induction m with
  |zero=>intro _ h; exact .inl fun j=>h j (Nat.zero_le _)
  |succ m ihm =>
   intro hm h
   cases hb:x.getD m false with
   |true=>exact .inr ⟨m,by omega,hb,fun j hj=>h j hj⟩
   |false=>exact ihm (by omega) fun j hj=>(Nat.eq_or_lt_of_le hj).elim (fun e=>e▸hb) (fun e=>h j e)
 rcases key x.length (Nat.le_refl _) (fun j hj=>by rw [List.getD_eq_getElem?_getD,List.getElem?_eq_none hj]; rfl) with h1 | ⟨t,ht1,ht2,ht3⟩
 ·exfalso
  apply h
  have hall:x=List.replicate x.length false:=by
   apply List.ext_getElem (by simp)
   intro j h2 h3
   rw [← getD_is0 h2,h1 j]; simp
  rw [hall,cnt_replicate]
 ·exact ⟨t,ht1,ht2,ridx_at (p:=id) ht1 (fun j hj hjt=>by rw [← getD_is0 hj]; exact ht3 j hjt) (by rw [← getD_is0 ht1]; exact ht2)⟩
theorem pgTop_is {p:List Int} (h:0<pgUsed p):∃ t,t<p.length∧pgTop p=(t:Int)∧p.getD t (-1) ≠ -1:=by
 obtain ⟨t,h1,h2,h3⟩:=high_is (x:=pgB p) (by unfold pgUsed at h; omega)
 rw [pgB_length] at h1
 rw [pgB_getD] at h2
 exact ⟨t,h1,h3,by simpa using h2⟩
end Go.Proofs.YtnaoiegcobineaaGreatDoor
namespace Go.Proofs.YtnaoiegcobineaaGreatDoor
open Go.RowKit
def shPlanN (x:Sm):Int × Int × Int × Int:=if 2≤x.opn.length then (lastI (-1) x.opn,pgTop ((smGet x.pg (lastI (-1) x.opn)).getD []),headI x.opn,pgHole ((smGet x.pg (headI x.opn)).getD [])) else (0,0,0,0)
def rmPlanN (M:RmM) (k:Int):Int × Int × Int × Int:=match rmGet M k with | none=>(0,0,0,0) | some x=>shPlanN x
theorem rmPlanL_eq (M:RmM) (k:Int):rmPlanL M k=planL (rmPlanN M k).1 (rmPlanN M k).2.1 (rmPlanN M k).2.2.1 (rmPlanN M k).2.2.2:=by
 unfold rmPlanL rmPlanN
 cases rmGet M k with
 |none=>rfl
 |some x =>
  show shPlanL x=planL (shPlanN x).1 (shPlanN x).2.1 (shPlanN x).2.2.1 (shPlanN x).2.2.2
  unfold shPlanL shPlanN
  split <;> rfl
structure PlanF (M:RmM) (k:Nat):Prop where
 own:rmOwner M k (rmPlanN M k).1 (rmPlanN M k).2.1 ≠ -1
 e:∀ who:Int,0≤who→rmTakeE M k who=0
 n:∀ who:Int,0≤who→rmTakeN M k who=(rmPlanN M k).2.2.1
 a:∀ who:Int,0≤who→rmTakeA M k who=(rmPlanN M k).2.2.2
 ne:(rmPlanN M k).1≠(rmPlanN M k).2.2.1
theorem plan_facts {c:Conf} {M:RmM} (h:RmAll c M) {k:Nat} (hB:rmPlanB M k=true):PlanF M k:=by
 unfold rmPlanB at hB
 cases hg:rmGet M k with
 |none=>rw [hg] at hB; exact absurd hB (by decide)
 |some x =>
  rw [hg] at hB
  have h2:2≤x.opn.length:=of_decide_eq_true hB
  obtain ⟨j,hj,hjl,hx⟩:=rmGet_some hg
  obtain rfl:k=j:=by omega
  obtain ⟨xo,xf⟩:=h.mok.sh k x hx
  have hpos:=h.pos k x hx
  obtain ⟨f,hfm,hf1,l',hf2⟩:=(lastI_mem (-1) x.opn).resolve_left (fun e=>by rw [e.1] at h2; simp at h2)
  obtain ⟨t,r,hr⟩:∃ t r,x.opn=t::r:=by
   cases ho:x.opn with
   |nil=>rw [ho] at h2; simp at h2
   |cons t r=>exact ⟨t,r,rfl⟩
  obtain ⟨p,hp⟩:=xo.osub f hfm
  obtain ⟨p2,hp2⟩:=xo.osub t (by rw [hr]; simp)
  have hN:rmPlanN M k=(((f:Nat):Int),pgTop p,((t:Nat):Int),pgHole p2):=by
   unfold rmPlanN
   rw [hg]
   show shPlanN x=_
   unfold shPlanN
   rw [if_pos h2,hf1,hr]
   show ((f:Int),pgTop ((smGet x.pg f).getD []),(t:Int),pgHole ((smGet x.pg t).getD []))=_
   rw [smGet_of xo.nodup hp,smGet_of xo.nodup hp2]
   rfl
  have hE:∀ who:Int,0≤who→shTakeE x M.pl who=0:=fun who hw=>by unfold shTakeE; rw [if_neg (by omega),if_neg (by omega)]
  have hT:∀ who:Int,0≤who→shTakeN x M.pl who=t∧shTakeA x M.pl who=pgHole p2:=fun who hw=>by
   rcases shTake_cases x M.pl who with ⟨hne,_⟩ | ⟨_,_,⟨n,r',ho,_,_,k3,k4,k5⟩ | ⟨n,r',ho,_⟩⟩
   ·exact absurd (hE who hw) hne
   ·rw [hr] at ho
    obtain ⟨e1,_⟩:=List.cons.inj ho
    subst e1
    rw [smGet_of xo.nodup hp2] at k3
    simp only [Option.getD_some] at k3
    rw [k3] at k5
    exact ⟨k4,k5⟩
   ·rw [hr] at ho; cases ho
  have hne:f≠t:=fun e=>by
   have hnd:=xo.onodup
   rw [hf2] at hnd h2
   have h3:l' ++ [f]=t::r:=hf2.symm.trans hr
   cases l' with
   |nil=>simp at h2
   |cons b s =>
    obtain ⟨e1,_⟩:=List.cons.inj h3
    obtain ⟨_,_,h5⟩:=List.nodup_append.1 hnd
    exact h5 b (by simp) f (by simp) (e1.trans e.symm)
  have hgt:rmGet M ((k:Nat):Int)=some x:=hg
  refine ⟨?_,fun who hw=>by unfold rmTakeE; rw [hgt]; exact hE who hw,fun who hw=>by unfold rmTakeN; rw [hgt,hN]; exact (hT who hw).1,fun who hw=>by unfold rmTakeA; rw [hgt,hN]; exact (hT who hw).2,by rw [hN]; simp only; omega⟩
  rw [hN,rmOwner_at hx]
  simp only
  obtain ⟨i,hi,e1,e2⟩:=pgTop_is (hpos _ hp)
  simp only at hi e1 e2
  unfold shOwner
  rw [smGet_of xo.nodup hp]
  simp only
  rw [e1]
  unfold pgOwn
  rw [if_pos (by omega),Int.toNat_natCast]
  exact e2
end Go.Proofs.YtnaoiegcobineaaGreatDoor
namespace Go.Proofs.YtnaoiegcobineaaGreatDoor
open Go.RowKit
structure Ar where
 ab:Nat
 db:Nat
 mc:Nat
 mb:Option Nat
structure ArV where
 bs:List Int
 total:Int
 lap:Int
abbrev usedV (A:Ar):Value := .func (.func 99) #[] #[.pointer (some ⟨A.mc,0,none⟩)]
structure ArOk (w:World) (A:Ar) (V:ArV):Prop where
 obj:w.heap[A.ab]? = some (.cells #[.slice (some ⟨A.db,0,none⟩) V.bs.length V.bs.length,usedV A] 145 (0,0))
 dat:w.heap[A.db]? = some (.cells (V.bs.map (Value.int .u8)).toArray 5 (0,0))
 cap:w.heap[A.mc]? = some (.cells #[ptr A.mb] 80 (0,0))
 met:∀ b,A.mb=some b→MeterAt w b V.total V.lap
 len:V.bs.length≤4194304
 rng:∀ x ∈ V.bs,0≤x∧x<256
theorem blk_ne {w:World} {a b t t':Nat} {c c':Array Value} {f f':Nat × Nat} (h:w.heap[a]? = some (.cells c t f)) (h':w.heap[b]? = some (.cells c' t' f')) (ht:t≠t'):a≠b:=by
 intro e; subst e; rw [h] at h'; cases h'; exact ht rfl
def mFoot (A:Ar):Nat→Prop:=fun b=>A.mb=some b
def foot (A:Ar):Nat→Prop:=fun b=>b=A.db∨A.mb=some b
def ArV.charge (V:ArV) (A:Ar) (n:Int):ArV:=match A.mb with
 |none=>V
 |some _=>{V with total:=charged V.total n}
theorem ArV.charge_bs (V:ArV) (A:Ar) (n:Int):(V.charge A n).bs=V.bs:=by unfold ArV.charge; split <;> rfl
theorem ArV.charge_lap (V:ArV) (A:Ar) (n:Int):(V.charge A n).lap=V.lap:=by unfold ArV.charge; split <;> rfl
theorem ArOk.chg {w w':World} {A:Ar} {V:ArV} {S:Nat→Prop} (h:ArOk w A V) (hc:Chg S w w') (hs:∀ b,b=A.ab∨b=A.db∨b=A.mc∨A.mb=some b → ¬ S b):ArOk w' A V :=
 ⟨hc.heap h.obj (hs _ (.inl rfl)),hc.heap h.dat (hs _ (.inr (.inl rfl))),hc.heap h.cap (hs _ (.inr (.inr (.inl rfl)))),fun b hb=>⟨hc.heap (h.met b hb).1 (hs _ (.inr (.inr (.inr hb)))),(h.met b hb).2⟩,h.len,h.rng⟩
theorem ArOk.grow {w w':World} {A:Ar} {V:ArV} (h:ArOk w A V) (hc:Chg None' w w'):ArOk w' A V:=h.chg hc fun _ _ h=>h
theorem ArOk.metered {w w':World} {A:Ar} {V:ArV} {b:Nat} {t:Int} (h:ArOk w A V) (hb:A.mb=some b) (hm:MeterAt w' b t V.lap) (hc:Chg (fun x=>x=b) w w'):ArOk w' A {V with total:=t}:=by
 have h0:=(h.met b hb).1
 refine ⟨hc.heap h.obj (fun e=>blk_ne h.obj h0 (by decide) e),hc.heap h.dat (fun e=>blk_ne h.dat h0 (by decide) e),hc.heap h.cap (fun e=>blk_ne h.cap h0 (by decide) e),fun b' hb' => ?_,h.len,h.rng⟩
 rw [hb] at hb'; cases hb'; exact hm
abbrev spanV (A:Ar) (N at' n:Nat):Value := .slice (shiftA (some ⟨A.db,0,none⟩) N at' 1) n (N - at')
theorem arena_span (A:Ar) (V:ArV) (i n:Nat) (w:World) (h:ArOk w A V) (ht:i+n≤V.bs.length):Does Tryz.prog 225 #[.pointer (some ⟨A.ab,0,none⟩),.int .i64 i,.int .i64 n] w (Same (.tuple #[spanV A V.bs.length i n,.int .i64 0]) w):=by
 have hl:=h.len
 refine Does.enter Tryz.func225 rfl Tryz.ntmps225 rfl rfl ?_
 refine Goes.adv hTT 400 rfl ?_
 refine Goes.no hTT rfl (decide_eq_false (by omega)) rfl ?_
 refine Goes.no hTT rfl (decide_eq_false (by omega)) rfl ?_
 refine Goes.loadb hTT rfl h.obj rfl rfl ?_
 refine Goes.no hTT rfl (decide_eq_false (by omega)) rfl ?_
 refine Goes.loadb hTT rfl h.obj rfl rfl ?_
 refine Goes.arith hTT rfl (w64 (by omega)) rfl ?_
 refine Goes.no hTT rfl (decide_eq_false (by omega)) rfl ?_
 refine Goes.loadb hTT rfl h.obj rfl rfl ?_
 refine Goes.arith hTT rfl (w64 (by omega)) rfl ?_
 refine Goes.slice hTT rfl (l:=i) (h:=(i+n)) (by first | rfl | omega | simp [loV]) (by first | rfl | omega | simp [hiV]) (by omega) (by omega) rfl ?_
 exact Goes.ret2 hTT rfl Tryz.func225 rfl rfl rfl ⟨by rw [show i+n - i=n from by omega],rfl⟩
theorem arena_used (A:Ar) (V:ArV) (n:Int) (w:World) (h:ArOk w A V):Does Tryz.prog 99 #[.int .i64 n,.pointer (some ⟨A.mc,0,none⟩)] w (fun _ w'=>ArOk w' A (V.charge A n)∧Chg (mFoot A) w w'):=by
 have hc:=h.cap
 cases hb:A.mb with
 |none =>
  rw [hb] at hc
  refine Does.enter Tryz.func99 rfl Tryz.ntmps99 rfl rfl ?_
  refine Goes.adv hTT 400 rfl ?_
  refine Goes.loadb hTT rfl hc rfl rfl ?_
  refine Goes.call rfl (meter_Charge0 n w) ?_
  rintro _ w1 rfl
  refine Goes.adv hTT 400 rfl ?_
  have e:V.charge A n=V:=by unfold ArV.charge; rw [hb]
  exact Goes.ret0 hTT rfl Tryz.func99 rfl ⟨by rw [e]; exact h,Chg.refl _ _⟩
 |some b =>
  rw [hb] at hc
  refine Does.enter Tryz.func99 rfl Tryz.ntmps99 rfl rfl ?_
  refine Goes.adv hTT 400 rfl ?_
  refine Goes.loadb hTT rfl hc rfl rfl ?_
  refine Goes.call rfl (meter_Charge b V.total V.lap n w (h.met b hb)) ?_
  rintro _ w1 ⟨hm,hs⟩
  refine Goes.adv hTT 400 rfl ?_
  have e:V.charge A n={V with total:=charged V.total n}:=by unfold ArV.charge; rw [hb]
  exact Goes.ret0 hTT rfl Tryz.func99 rfl ⟨by rw [e]; exact h.metered hb hm hs,hs.mono (fun x _ hx=>by unfold mFoot; rw [hx]; exact hb)⟩
theorem arena_charged (A:Ar) (V:ArV) (i n:Nat) (w:World) (h:ArOk w A V) (ht:i+n≤V.bs.length):Does Tryz.prog 186 #[.pointer (some ⟨A.ab,0,none⟩),.int .i64 i,.int .i64 n] w (fun v w'=>v = .tuple #[spanV A V.bs.length i n,.int .i64 0]∧ArOk w' A (V.charge A n)∧Chg (mFoot A) w w'):=by
 refine Does.enter Tryz.func186 rfl Tryz.ntmps186 rfl rfl ?_
 refine Goes.adv hTT 400 rfl ?_
 refine Goes.call rfl (arena_span A V i n w h ht) ?_
 rintro _ _ ⟨rfl,rfl⟩
 refine Goes.adv hTT 400 rfl ?_
 refine Goes.yes hTT rfl rfl rfl ?_
 refine Goes.loadb hTT rfl h.obj rfl rfl ?_
 refine Goes.call rfl (arena_used A V n w h) ?_
 rintro _ w1 ⟨h1,hs⟩
 refine Goes.adv hTT 400 rfl ?_
 exact Goes.ret2 hTT rfl Tryz.func186 rfl rfl rfl ⟨rfl,h1,hs⟩
theorem arena_Len (A:Ar) (V:ArV) (w:World) (h:ArOk w A V):Does Tryz.prog 104 #[.pointer (some ⟨A.ab,0,none⟩)] w (Same (.int .i64 V.bs.length) w):=by
 refine Does.enter Tryz.func104 rfl Tryz.ntmps104 rfl rfl ?_
 refine Goes.adv hTT 400 rfl ?_
 refine Goes.loadb hTT rfl h.obj rfl rfl ?_
 exact Goes.ret1 hTT rfl Tryz.func104 rfl rfl ⟨rfl,rfl⟩
def arMay (p s:Int):Bool:=decide (1≤p) && decide (p≤1024) && decide (64≤s) && decide (s≤4096) && (s % 8 == 0)
theorem arMay_iff {p s:Int}:arMay p s=true↔1≤p∧p≤1024∧64≤s∧s≤4096∧s % 8=0:=by unfold arMay; simp [and_assoc]
def zeros (n:Nat):List Int:=List.replicate n 0
theorem zeroRow_zeros:∀ n,zeroRow [Value.int .u8 0] n=(zeros n).map (Value.int .u8)
 |0=>rfl
 |n+1=>by rw [zeroRow,zeroRow_zeros n]; simp [zeros,List.replicate_succ]
theorem arena_New (mb:Option Nat) (total lap:Int) (p s:Int) (w:World) (hm:∀ b,mb=some b→MeterAt w b total lap) (ht:arMay p s=true):Does Tryz.prog 47 #[.int .i64 p,.int .i64 s,ptr mb] w
 (fun v w' => ∃ A:Ar,v = .tuple #[.pointer (some ⟨A.ab,0,none⟩),.int .i64 0]∧A.mb=mb∧w.heap.size≤A.ab∧w.heap.size≤A.db∧w.heap.size≤A.mc∧ArOk w' A ⟨zeros (p*s).toNat,total,lap⟩∧Chg None' w w'):=by
 have g:=arMay_iff.1 ht
 have h0:0≤p*s:=Int.mul_nonneg (by omega) (by omega)
 have h1:p*s≤1024*4096:=Int.mul_le_mul (by omega) (by omega) (by omega) (by omega)
 refine Does.enter Tryz.func47 rfl Tryz.ntmps47 rfl rfl ?_
 refine Goes.adv hTT 400 rfl ?_
 refine Goes.alloc hTT rfl ?_
 intro mc w1 e1 hmc hw1 hz1
 refine Goes.adv hTT 400 rfl ?_
 refine Goes.no hTT rfl (decide_eq_false (by omega)) rfl ?_
 refine Goes.no hTT rfl (decide_eq_false (by omega)) rfl ?_
 refine Goes.no hTT rfl (decide_eq_false (by omega)) rfl ?_
 refine Goes.no hTT rfl (decide_eq_false (by omega)) rfl ?_
 refine Goes.div hTT rfl (by omega) (rem_ (by omega)) rfl ?_
 refine Goes.no hTT rfl (by simp; omega) rfl ?_
 refine Goes.arith hTT rfl (w64 (by omega)) rfl ?_
 refine Goes.make hTT (m:=(p*s).toNat) (k:=(p*s).toNat) rfl (by omega) (by omega) (Nat.le_refl _) (by simp only; omega) (by omega) ?_
 intro db w2 e2 hdb hw2 hz2
 refine Goes.adv hTT 400 rfl ?_
 refine Goes.build hTT rfl rfl ?_
 refine Goes.alloc hTT rfl ?_
 intro ab w3 e3 hab hw3 hz3
 refine Goes.adv hTT 400 rfl ?_
 have hz:(zeroRow (cellsL (Value.int .u8 0)) (p*s).toNat)=(zeros (p*s).toNat).map (Value.int .u8):=zeroRow_zeros _
 rw [hz] at hdb
 have hlen:(zeros (p*s).toNat).length=(p*s).toNat:=List.length_replicate
 rw [← hlen] at hab
 have hok:ArOk w3 ⟨ab,db,mc,mb⟩ ⟨zeros (p*s).toNat,total,lap⟩ :=
  ⟨hab,hw3.heap' hdb,hw3.heap' (hw2.heap' hmc),fun b hb=>⟨hw3.heap' (hw2.heap' (hw1.heap' (hm b hb).1)),(hm b hb).2⟩,by rw [hlen]; omega,fun x hx=>by rw [List.eq_of_mem_replicate hx]; omega⟩
 rw [hlen] at hab
 exact Goes.ret2 hTT rfl Tryz.func47 rfl rfl rfl ⟨⟨ab,db,mc,mb⟩,rfl,rfl,by simp only; omega,by simp only; omega,by simp only; omega,hok,(hw1.trans hw2).trans hw3⟩
end Go.Proofs.YtnaoiegcobineaaGreatDoor
namespace Go.Proofs.YtnaoiegcobineaaGreatDoor
open Go.RowKit
theorem Rd.metered {w w':World} {A:Ar} {V:ArV} {a:Option Addr} {l:List Int} (hr:Rd .u8 w a l) (h:ArOk w A V) (hc:Chg (mFoot A) w w'):Rd .u8 w' a l:=fun i hi=>by
 obtain ⟨b,off,e,hcell⟩:=hr i hi
 refine ⟨b,off,e,?_⟩
 have hne:¬ mFoot A b:=fun hb=>by
  have h0:=(h.met b hb).1
  rw [cell_of h0] at hcell
  match hj:off+i,hcell with
  |0,hcell=>simp at hcell
  |1,hcell=>simp at hcell
  |k+2,hcell=>simp at hcell
 have hlt:b<w.heap.size:=World.block_lt_of_cell? w _ hcell
 rw [← hcell]
 simp only [World.cell?,hc.block b hlt hne]
def wrB (bs:List Int) (i:Nat) (l:List Int):List Int:=bs.take i++l++bs.drop (i+l.length)
theorem wrB_length {bs:List Int} {i:Nat} {l:List Int} (h:i+l.length≤bs.length):(wrB bs i l).length=bs.length:=by unfold wrB; simp; omega
theorem wrB_mem {bs:List Int} {i:Nat} {l:List Int} {x:Int} (h:x ∈ wrB bs i l):x ∈ bs∨x ∈ l:=by
 unfold wrB at h
 simp only [List.mem_append] at h
 rcases h with (h | h) | h
 ·exact .inl (List.mem_of_mem_take h)
 ·exact .inr h
 ·exact .inl (List.mem_of_mem_drop h)
theorem wrB_nil {bs:List Int} {i:Nat}:wrB bs i []=bs:=by unfold wrB; simp
def InB (l:List Int):Prop := ∀ x ∈ l,0≤x∧x<256
theorem ArOk.laid {w w':World} {A:Ar} {V:ArV} {bs:List Int} (h:ArOk w A V) (hd:w'.heap[A.db]? = some (.cells (bs.map (Value.int .u8)).toArray 5 (0,0))) (hc:Chg (fun b=>b=A.db) w w') (hl:bs.length=V.bs.length) (hr:InB bs):ArOk w' A {V with bs:=bs} :=
 ⟨by rw [hl]; exact hc.heap h.obj (fun e=>blk_ne h.obj h.dat (by decide) e),hd,hc.heap h.cap (fun e=>blk_ne h.cap h.dat (by decide) e),fun b hb=>⟨hc.heap (h.met b hb).1 (fun e=>blk_ne (h.met b hb).1 h.dat (by decide) e),(h.met b hb).2⟩,by rw [hl]; exact h.len,hr⟩
theorem span_addr {A:Ar} {N i n:Nat} (h:i+n≤N) (hn:0<n):shiftA (some ⟨A.db,0,none⟩) N i 1=some ⟨A.db,i,none⟩:=by
 unfold shiftA
 rw [if_neg (by omega),Option.map_some,add_off]
 simp
theorem arena_charged' (A:Ar) (V:ArV) (i n:Nat) (w:World) (h:ArOk w A V) (ht:i+n≤V.bs.length):Does Tryz.prog 186 #[.pointer (some ⟨A.ab,0,none⟩),.int .i64 i,.int .i64 n] w
 (fun v w' => ∃ x,v = .tuple #[.slice x n (V.bs.length - i),.int .i64 0]∧(0<n→x=some ⟨A.db,i,none⟩)∧x.isSome=true∧ArOk w' A (V.charge A n)∧Chg (mFoot A) w w') :=
 (arena_charged A V i n w h ht).mono fun _ _ ⟨h1,h2,h3⟩=>⟨_,h1,fun hn=>span_addr ht hn,by unfold shiftA; split <;> rfl,h2,h3⟩
theorem arena_Write (A:Ar) (V:ArV) (i:Nat) (a:Option Addr) (cap:Nat) (l:List Int) (w:World) (h:ArOk w A V) (hr:Rd .u8 w a l) (hb:InB l) (ht:i+l.length≤V.bs.length) :
 Does Tryz.prog 154 #[.pointer (some ⟨A.ab,0,none⟩),.int .i64 i,.slice a l.length cap] w (fun v w'=>v = .int .i64 0∧ArOk w' A {V.charge A l.length with bs:=wrB V.bs i l}∧Chg (foot A) w w'):=by
 refine Does.enter Tryz.func154 rfl Tryz.ntmps154 rfl rfl ?_
 refine Goes.adv hTT 400 rfl ?_
 refine Goes.call rfl (arena_charged' A V i l.length w h ht) ?_
 rintro _ w1 ⟨x,rfl,hx,_,h1,hs⟩
 refine Goes.adv hTT 400 rfl ?_
 have hsf:Chg (foot A) w w1:=hs.mono fun b _ hb => .inr hb
 have e1:=V.charge_bs A l.length
 by_cases hl:l.length=0
 ·refine Goes.copy0 hTT rfl (by simp [hl]) rfl ?_
  have hnil:l = []:=List.eq_nil_of_length_eq_zero hl
  subst hnil
  exact Goes.ret1 hTT rfl Tryz.func154 rfl rfl ⟨rfl,by rw [wrB_nil,← V.charge_bs A 0]; exact h1,hsf⟩
 ·have hxe:=hx (by omega)
  subst hxe
  have hr1:=hr.metered h hs
  have ha:∃ aa,a=some aa:=by obtain ⟨b,off,e,_⟩:=hr 0 (by omega); exact ⟨_,e⟩
  obtain ⟨aa,rfl⟩:=ha
  have hd1:=h1.dat
  rw [e1] at hd1
  refine Goes.copy hTT rfl hd1 (cs:=l.map (Value.int .u8)) (by simp) hr1.cells (by simp; omega) plain_ints ?_
  intro w2 hd2 hs2 hz2
  refine Goes.adv hTT 400 rfl ?_
  have hmap:(V.bs.map (Value.int .u8)).take i++l.map (Value.int .u8)++(V.bs.map (Value.int .u8)).drop (i+(l.map (Value.int .u8)).length)=(wrB V.bs i l).map (Value.int .u8):=by
   unfold wrB; simp [List.map_take,List.map_drop]
  rw [hmap] at hd2
  have h2:=h1.laid hd2 hs2 (by rw [wrB_length ht,e1]) (fun x hx=>(wrB_mem hx).elim (h.rng x) (hb x))
  exact Goes.ret1 hTT rfl Tryz.func154 rfl rfl ⟨rfl,h2,hsf.trans (hs2.mono fun b _ hb => .inl hb)⟩
def OwnB (base:Nat) (w:World) (v:Value) (l:List Int):Prop := ∃ g cap cur,v = .slice (some ⟨g,0,none⟩) l.length cap∧base≤g∧w.heap[g]? = some (.cells cur 5 (0,0))∧l.length≤cap∧cur.toList.take l.length=l.map (Value.int .u8)
theorem slices_Clone (aa:Addr) (cap:Nat) (l:List Int) (w:World) (hr:Rd .u8 w (some aa) l) (hl:l.length≤4194304):Does Tryz.prog 187 #[.slice (some aa) l.length cap] w (fun v w'=>OwnB w.heap.size w' v l∧Chg None' w w'):=by
 have hml:maxLen=9223372036854775807:=rfl
 refine Does.enter Tryz.func187 rfl Tryz.ntmps187 rfl rfl ?_
 refine Goes.adv hTT 400 rfl ?_
 refine Goes.no hTT rfl rfl rfl ?_
 refine Goes.buildSlice hTT rfl ?_
 intro b w1 e1 hb hw1 hz1
 refine Goes.adv hTT 400 rfl ?_
 have ho:Own w.heap.size 5 1 w1 (.slice (some ⟨b,0,none⟩) 0 0) 0 []:=Own.empty (by omega) hb
 refine Goes.append (base:=w.heap.size) (xs := []) (news:=l.map (Value.int .u8)) hTT rfl ho hw1.size (by simp) (hr.chg hw1).cells plain_ints (by simp only; omega) ?_
 intro v2 w2 ho2 hs2 hv2
 refine Goes.adv hTT 400 rfl ?_
 have hc2:=ho.since hw1 (Nat.le_refl _) hs2
 rcases ho2.2 with ⟨h1,_⟩ | ⟨g,cap',cur,rfl,h2,h3,h4,_,_,h6⟩
 ·exact absurd (hv2.1.1 h1).1 (by simp)
 ·exact Goes.ret1 hTT rfl Tryz.func187 rfl rfl ⟨⟨g,cap',cur,by simp,h2,h3,by omega,by simpa using h6⟩,hc2⟩
def sub (bs:List Int) (i n:Nat):List Int:=(bs.drop i).take n
theorem sub_length {bs:List Int} {i n:Nat} (h:i+n≤bs.length):(sub bs i n).length=n:=by unfold sub; simp; omega
theorem ArOk.sub {w:World} {A:Ar} {V:ArV} {x:Option Addr} {i n:Nat} (h:ArOk w A V) (hx:0<n→x=some ⟨A.db,i,none⟩) (ht:i+n≤V.bs.length):Rd .u8 w x (sub V.bs i n):=fun j hj=>by
 rw [sub_length ht] at hj
 refine ⟨A.db,i,hx (by omega),?_⟩
 rw [cell_of h.dat]
 have:(Go.Proofs.YtnaoiegcobineaaGreatDoor.sub V.bs i n).getD j 0=V.bs[i+j]'(by omega):=by unfold Go.Proofs.YtnaoiegcobineaaGreatDoor.sub; simp [List.getD,hj,show i+j<V.bs.length from by omega]
 rw [this]
 simp [show i+j<V.bs.length from by omega]
theorem arena_Read (A:Ar) (V:ArV) (i n:Nat) (w:World) (h:ArOk w A V) (ht:i+n≤V.bs.length) :
 Does Tryz.prog 131 #[.pointer (some ⟨A.ab,0,none⟩),.int .i64 i,.int .i64 n] w (fun v w' => ∃ v',v = .tuple #[v',.int .i64 0]∧OwnB w.heap.size w' v' (sub V.bs i n)∧ArOk w' A (V.charge A n)∧Chg (mFoot A) w w'):=by
 have hl:=h.len
 refine Does.enter Tryz.func131 rfl Tryz.ntmps131 rfl rfl ?_
 refine Goes.adv hTT 400 rfl ?_
 refine Goes.call rfl (arena_charged' A V i n w h ht) ?_
 rintro _ w1 ⟨x,rfl,hx,hs,h1,hs1⟩
 refine Goes.adv hTT 400 rfl ?_
 obtain ⟨aa,rfl⟩:=Option.isSome_iff_exists.1 hs
 have e1:=V.charge_bs A n
 have hr:=h1.sub (i:=i) (n:=n) hx (by rw [e1]; exact ht)
 rw [e1] at hr
 have hcl:=slices_Clone aa (V.bs.length - i) (sub V.bs i n) w1 hr (by rw [sub_length ht]; omega)
 rw [sub_length ht] at hcl
 refine Goes.call rfl (hcl) ?_
 rintro v2 w2 ⟨ho,hw2⟩
 refine Goes.adv hTT 400 rfl ?_
 obtain ⟨g,cap,cur,hv,hg,hrest⟩:=ho
 exact Goes.ret2 hTT rfl Tryz.func131 rfl rfl rfl ⟨v2,rfl,⟨g,cap,cur,hv,by have:=hs1.size; omega,hrest⟩,h1.grow hw2,hs1.trans (hw2.mono fun _ _ h=>h.elim)⟩
theorem wrap_u64 {z:Int} (h:0≤z∧z<18446744073709551616):IntKind.u64.wrap z=z:=by
 simp only [IntKind.wrap,IntKind.signed,IntKind.bits]
 first | omega | (simp; omega)
end Go.Proofs.YtnaoiegcobineaaGreatDoor
namespace Go.Proofs.YtnaoiegcobineaaGreatDoor
open Go.RowKit
def inT (n top:Int):Bool:=decide (0≤n) && decide (n<top)
theorem inT_iff {n top:Int}:inT n top=true↔0≤n∧n<top:=by unfold inT; simp
def viewIs (c:Conf) (q:Plc):Bool :=
 if q.cls = -1 then decide (0<q.pages.length) && !q.pages.any (fun n => !inT n c.pages)
 else inT q.cls c.classes.length && inT q.page c.pages && inT q.idx (blocksM c q.cls)
def clsM (c:Conf) (k:Int):Int:=c.classes.getD k.toNat 0
def viewHolds (c:Conf) (q:Plc):Int:=if viewIs c q then (if q.cls = -1 then q.pages.length*c.size else clsM c q.cls) else 0
def viewAt (c:Conf) (q:Plc):Int:=if viewIs c q=true∧q.cls ≠ -1 then q.page*c.size+q.idx*clsM c q.cls else -1
structure Vw where
 vb:Nat
 c:Conf
 p:ConfAt
 ab:Nat
 mb:Option Nat
def vwL (v:Vw):List Value:=confL v.c v.p ++ [.pointer (some ⟨v.ab,0,none⟩),ptr v.mb]
abbrev vwV (v:Vw):Value := .pointer (some ⟨v.vb,0,none⟩)
structure VwOk (w:World) (v:Vw):Prop where
 obj:w.heap[v.vb]? = some (.cells (vwL v).toArray 157 (0,0))
 conf:ConfOk w v.c v.p
 may:mayB v.c=true
theorem VwOk.grow {w w':World} {v:Vw} (h:VwOk w v) (hc:Chg None' w w'):VwOk w' v:=⟨hc.heap' h.obj,h.conf.chg hc,h.may⟩
theorem view_within (n top:Int) (w:World):Does Tryz.prog 222 #[.int .i64 n,.int .i64 top] w (Same (.bool (inT n top)) w):=by
 refine Does.enter Tryz.func222 rfl Tryz.ntmps222 rfl rfl ?_
 refine Goes.adv hTT 400 rfl ?_
 refine Goes.fork hTT rfl rfl rfl (fun h => ?_) (fun h => ?_)
 ·have g:0≤n:=of_decide_eq_true h
  exact Goes.ret1 hTT rfl Tryz.func222 rfl rfl ⟨bool_v (by unfold inT; rw [decide_eq_true g]; rfl),rfl⟩
 ·have g:¬ 0≤n:=of_decide_eq_false h
  exact Goes.ret1 hTT rfl Tryz.func222 rfl rfl ⟨bool_v (by unfold inT; rw [decide_eq_false g]; rfl),rfl⟩
abbrev ptrBox (w:World) (b:Nat) (v:Vw):Prop:=w.heap[b]? = some (.cells ([vwV v]:List Value).toArray 86 (0,0))
theorem view_is1 (v:Vw) (b:Nat) (x:Int) (w:World) (h:VwOk w v) (hb:ptrBox w b v):Does Tryz.prog 221 #[.int .i64 x,.pointer (some ⟨b,0,none⟩)] w (Same (.bool (!inT x v.c.pages)) w):=by
 refine Does.enter Tryz.func221 rfl Tryz.ntmps221 rfl rfl ?_
 refine Goes.adv hTT 400 rfl ?_
 refine Goes.loadb hTT rfl hb rfl rfl ?_
 refine Goes.loadb hTT rfl h.obj rfl rfl ?_
 refine Goes.call rfl (view_within x v.c.pages w) ?_
 rintro _ _ ⟨rfl,rfl⟩
 refine Goes.adv hTT 400 rfl ?_
 exact Goes.ret1 hTT rfl Tryz.func221 rfl rfl ⟨rfl,rfl⟩
theorem view_is (v:Vw) (q:Plc) (w:World) (h:VwOk w v) (hq:PlcOk w q):Does Tryz.prog 184 #[vwV v,.agg (plcL q).toArray] w (Grow (.bool (viewIs v.c q)) w):=by
 have hql:=hq.len
 have hcl:=h.conf.lc
 refine Does.enter Tryz.func184 rfl Tryz.ntmps184 rfl rfl ?_
 refine Goes.adv hTT 400 rfl ?_
 refine Goes.alloc hTT rfl ?_
 intro vb w1 e1 hvb hw1 hz1
 refine Goes.adv hTT 400 rfl ?_
 refine Goes.alloc hTT rfl ?_
 intro qb w2 e2 hqb hw2 hz2
 refine Goes.adv hTT 400 rfl ?_
 have hw:=hw1.trans hw2
 have hv2:=h.grow hw
 have hvb2:=hw2.heap' hvb
 have hq2:=hq.grow hw
 obtain ⟨cls,page,idx,pa,pc,pages⟩:=q
 replace hqb:w2.heap[qb]? = some (.cells ([.int .i64 cls,.int .i64 page,.int .i64 idx,.slice pa pages.length pc]:List Value).toArray 106 (0,0)):=hqb
 replace hq2:Rd .i64 w2 pa pages:=hq2.rd
 replace hql:pages.length≤9223372036854775807:=hql
 refine Goes.loadb hTT rfl hvb2 rfl rfl ?_
 refine Goes.loadb hTT rfl hqb rfl rfl ?_
 refine Goes.fork hTT rfl rfl rfl (fun hcl1 => ?_) (fun hcl1 => ?_)
 ·have g:cls = -1:=by simpa using hcl1
  refine Goes.loadb hTT rfl hqb rfl rfl ?_
  by_cases h0:0<pages.length
  ·refine Goes.yes hTT rfl (decide_eq_true (by omega)) rfl ?_
   refine Goes.loadb hTT rfl hqb rfl rfl ?_
   refine Goes.call rfl (slices_ContainsFunc_int pa pc 221 pages [.pointer (some ⟨vb,0,none⟩)] (fun n => !inT n v.c.pages) w2 hq2 hql (fun x _=>view_is1 v vb x w2 hv2 hvb2)) ?_
   rintro _ _ ⟨rfl,rfl⟩
   refine Goes.adv hTT 400 rfl ?_
   exact Goes.ret1 hTT rfl Tryz.func184 rfl rfl ⟨bool_v (by unfold viewIs; simp only; rw [if_pos g,decide_eq_true h0]; rfl),hw⟩
  ·refine Goes.no hTT rfl (decide_eq_false (by omega)) rfl ?_
   exact Goes.ret1 hTT rfl Tryz.func184 rfl rfl ⟨bool_v (by unfold viewIs; simp only; rw [if_pos g,decide_eq_false h0]; rfl),hw⟩
 ·have g:¬ cls = -1:=by simpa using hcl1
  have hvi:viewIs v.c ⟨cls,page,idx,pa,pc,pages⟩=(inT cls v.c.classes.length && inT page v.c.pages && inT idx (blocksM v.c cls)):=by unfold viewIs; simp only; rw [if_neg g]
  rw [hvi]
  refine Goes.drawn (q:=32) None' hTT mixed (by kernel_rfl) rfl ?_
  intro hB
  refine Drawn.loadb hTT hB rfl hqb (by first | exact fun h=>h | (intro h; omega) | assumption) rfl rfl ?_
  refine Drawn.loadb hTT hB rfl hvb2 (by first | exact fun h=>h | (intro h; omega) | assumption) rfl rfl ?_
  refine Drawn.loadb hTT hB rfl hv2.obj (by first | exact fun h=>h | (intro h; omega) | assumption) rfl rfl ?_
  refine Drawn.call hTT hB rfl (fun w' hw'=>(view_within cls v.c.classes.length w').grow) rfl ?_
  refine Drawn.fork hTT hB rfl rfl rfl (fun h1 => ?_) (fun h1 => ?_)
  ·rw [h1]
   refine Drawn.loadb hTT hB rfl hqb (by first | exact fun h=>h | (intro h; omega) | assumption) rfl rfl ?_
   refine Drawn.loadb hTT hB rfl hvb2 (by first | exact fun h=>h | (intro h; omega) | assumption) rfl rfl ?_
   refine Drawn.loadb hTT hB rfl hv2.obj (by first | exact fun h=>h | (intro h; omega) | assumption) rfl rfl ?_
   refine Drawn.call hTT hB rfl (fun w' hw'=>(view_within page v.c.pages w').grow) rfl ?_
   refine Drawn.fork hTT hB rfl rfl rfl (fun h2 => ?_) (fun h2 => ?_)
   ·rw [h2]
    refine Drawn.loadb hTT hB rfl hqb (by first | exact fun h=>h | (intro h; omega) | assumption) rfl rfl ?_
    refine Drawn.loadb hTT hB rfl hvb2 (by first | exact fun h=>h | (intro h; omega) | assumption) rfl rfl ?_
    refine Drawn.loads hTT hB rfl hv2.obj (by first | exact fun h=>h | (intro h; omega) | assumption) rfl rfl ?_
    refine Drawn.loadb hTT hB rfl hqb (by first | exact fun h=>h | (intro h; omega) | assumption) rfl rfl ?_
    refine Drawn.call hTT hB rfl (fun w' hw'=>conf_Blocks v.c v.p cls w' (hv2.conf.chg hw')) rfl ?_
    refine Drawn.call hTT hB rfl (fun w' hw'=>(view_within idx (blocksM v.c cls) w').grow) rfl ?_
    refine Drawn.nil hB ?_
    intro w3 hw3
    refine Goes.adv hTT 400 rfl ?_
    exact Goes.ret1 hTT rfl Tryz.func184 rfl rfl ⟨rfl,hw.trans hw3⟩
   ·rw [h2]
    refine Drawn.nil hB ?_
    intro w3 hw3
    refine Goes.adv hTT 400 rfl ?_
    exact Goes.ret1 hTT rfl Tryz.func184 rfl rfl ⟨rfl,hw.trans hw3⟩
  ·rw [h1]
   refine Drawn.nil hB ?_
   intro w3 hw3
   refine Goes.adv hTT 400 rfl ?_
   exact Goes.ret1 hTT rfl Tryz.func184 rfl rfl ⟨rfl,hw.trans hw3⟩
end Go.Proofs.YtnaoiegcobineaaGreatDoor
namespace Go.Proofs.YtnaoiegcobineaaGreatDoor
open Go.RowKit
theorem mayFacts {c:Conf} (h:mayB c=true):(64≤c.size∧c.size≤4096∧c.size % 8=0)∧(1≤c.pages∧c.pages≤1024)∧classOk c.classes c.size=true:=by
 obtain ⟨h1,h2,h3,_⟩:=mayB_iff.1 h
 exact ⟨sizedM_iff.1 h1,h2,h3⟩
theorem is_small {c:Conf} {q:Plc} (hm:mayB c=true) (h:viewIs c q=true) (hc:q.cls ≠ -1) :
 ∃ k pg ix:Nat,q.cls=k∧q.page=pg∧q.idx=ix∧k<c.classes.length∧(pg:Int)<c.pages∧8≤clsM c k∧clsM c k≤c.size∧0≤(pg:Int)*c.size∧0≤(ix:Int)*clsM c k∧(ix:Int)*clsM c k+clsM c k≤c.size∧(pg:Int)*c.size+(ix:Int)*clsM c k+clsM c k≤c.size*c.pages:=by
 obtain ⟨h1,h2,h3⟩:=mayFacts hm
 unfold viewIs at h
 rw [if_neg hc] at h
 simp only [Bool.and_eq_true,inT_iff] at h
 obtain ⟨⟨⟨a1,a2⟩,b1,b2⟩,c1,c2⟩:=h
 obtain ⟨k,hk⟩:=Int.eq_ofNat_of_zero_le a1
 obtain ⟨pg,hpg⟩:=Int.eq_ofNat_of_zero_le b1
 obtain ⟨ix,hix⟩:=Int.eq_ofNat_of_zero_le c1
 have hkl:k<c.classes.length:=by omega
 obtain ⟨d1,d2,d3⟩:=classOk_get h3 k hkl
 have hcls:clsM c k=c.classes.getD k 0:=rfl
 rw [← hcls] at d1 d3
 have hbl:blocksM c q.cls=c.size / clsM c k:=by
  unfold blocksM
  rw [hk,if_pos (by omega),Int.toNat_natCast,← hcls,whole_yes (by omega) (by omega)]
 rw [hbl,hix] at c2
 have e1:(ix:Int)*clsM c k+clsM c k≤c.size:=by
  have:((ix:Int)+1)*clsM c k≤c.size:=by
   calc ((ix:Int)+1)*clsM c k≤(c.size / clsM c k)*clsM c k:=Int.mul_le_mul_of_nonneg_right (by omega) (by omega)
    _≤c.size:=Int.ediv_mul_le _ (by omega)
  rw [Int.add_mul,Int.one_mul] at this
  exact this
 have e2:(pg:Int)*c.size+c.size≤c.size*c.pages:=by
  have:((pg:Int)+1)*c.size≤c.pages*c.size:=Int.mul_le_mul_of_nonneg_right (by omega) (by omega)
  rw [Int.add_mul,Int.one_mul,Int.mul_comm c.pages] at this
  exact this
 refine ⟨k,pg,ix,hk,hpg,hix,hkl,by omega,by omega,d3,Int.mul_nonneg (by omega) (by omega),Int.mul_nonneg (by omega) (by omega),e1,by omega⟩
theorem is_large {c:Conf} {q:Plc} (h:viewIs c q=true) (hc:q.cls = -1):0<q.pages.length ∧ ∀ n ∈ q.pages,0≤n∧n<c.pages:=by
 unfold viewIs at h
 rw [if_pos hc] at h
 simp only [Bool.and_eq_true,decide_eq_true_eq,Bool.not_eq_true'] at h
 refine ⟨h.1,fun n hn => ?_⟩
 have:=List.any_eq_false.1 h.2 n hn
 simp at this
 exact inT_iff.1 this
theorem VwOk.cls {w:World} {v:Vw} (h:VwOk w v) {k:Nat} (hk:k<v.c.classes.length):∃ b off,v.p.ca=some ⟨b,off,none⟩∧w.cell? ⟨b,off+k,none⟩=some (.int .i64 (clsM v.c k)):=h.conf.classes k hk
theorem size_total {c:Conf} (hm:mayB c=true):64≤c.size*c.pages∧c.size*c.pages≤4194304:=by
 obtain ⟨h1,h2,_⟩:=mayFacts hm
 constructor
 ·calc (64:Int)=64*1:=rfl
   _≤c.size*c.pages:=Int.mul_le_mul (by omega) (by omega) (by omega) (by omega)
 ·calc c.size*c.pages≤4096*1024:=Int.mul_le_mul (by omega) (by omega) (by omega) (by omega)
   _=4194304:=rfl
theorem view_Holds (v:Vw) (q:Plc) (w:World) (h:VwOk w v) (hq:PlcOk w q) (hfew:q.pages.length≤1000000000):Does Tryz.prog 147 #[vwV v,.agg (plcL q).toArray] w (Grow (.int .i64 (viewHolds v.c q)) w):=by
 obtain ⟨m1,m2,m3⟩:=mayFacts h.may
 refine Does.enter Tryz.func147 rfl Tryz.ntmps147 rfl rfl ?_
 refine Goes.adv hTT 400 rfl ?_
 refine Goes.alloc hTT rfl ?_
 intro qb w1 e1 hqb hw1 hz1
 refine Goes.adv hTT 400 rfl ?_
 have hv1:=h.grow hw1
 replace hqb:w1.heap[qb]? = some (.cells (plcL q).toArray 106 (0,0)):=hqb
 refine Goes.loads hTT rfl hqb rfl rfl ?_
 refine Goes.call rfl (view_is v q w1 hv1 (hq.grow hw1)) ?_
 rintro _ w2 ⟨rfl,hw2⟩
 refine Goes.adv hTT 400 rfl ?_
 have hqb2:=hw2.heap' hqb
 have hv2:=hv1.grow hw2
 have hw:=hw1.trans hw2
 cases hi:viewIs v.c q with
 |false =>
  refine Goes.yes hTT rfl rfl rfl ?_
  exact Goes.ret1 hTT rfl Tryz.func147 rfl rfl ⟨int_v (by unfold viewHolds; rw [hi]; rfl),hw⟩
 |true =>
  refine Goes.no hTT rfl rfl rfl ?_
  refine Goes.loadb hTT rfl hqb2 rfl rfl ?_
  refine Goes.fork hTT rfl rfl rfl (fun hcl1 => ?_) (fun hcl1 => ?_)
  ·have g:q.cls = -1:=by simpa using hcl1
   have hl0:0≤(q.pages.length:Int)*v.c.size:=Int.mul_nonneg (by omega) (by omega)
   have hl1:(q.pages.length:Int)*v.c.size≤1000000000*4096:=Int.mul_le_mul (by omega) (by omega) (by omega) (by omega)
   refine Goes.drawn (q:=10) None' hTT mixed (by kernel_rfl) rfl ?_
   intro hB
   refine Drawn.loadb hTT hB rfl hqb2 (by first | exact fun h=>h | (intro h; omega) | assumption) rfl rfl ?_
   refine Drawn.loadb hTT hB rfl hv2.obj (by first | exact fun h=>h | (intro h; omega) | assumption) rfl rfl ?_
   refine Drawn.arith hTT hB rfl (w64 (by omega)) rfl ?_
   refine Drawn.nil hB ?_
   intro w3 hw3
   refine Goes.adv hTT 400 rfl ?_
   exact Goes.ret1 hTT rfl Tryz.func147 rfl rfl ⟨int_v (by unfold viewHolds; rw [if_pos hi,if_pos g]),hw.trans hw3⟩
  ·have g:¬ q.cls = -1:=by simpa using hcl1
   obtain ⟨k,pg,ix,hk,hpg,hix,hkl,_,_,_,_,_,_,_⟩:=is_small h.may hi g
   obtain ⟨cb,off,hca,hcc⟩:=hv2.cls hkl
   obtain ⟨vb,c,⟨ca,cc,ka,kc⟩,ab,mb⟩:=v
   simp only at hca
   subst hca
   obtain ⟨cls,page,idx,pa,pc,pages⟩:=q
   simp only at hk
   subst hk
   replace hkl:k<c.classes.length:=hkl
   refine Goes.drawn (q:=10) None' hTT mixed (by kernel_rfl) rfl ?_
   intro hB
   refine Drawn.loadb hTT hB rfl hv2.obj (by first | exact fun h=>h | (intro h; omega) | assumption) rfl rfl ?_
   refine Drawn.loadb hTT hB rfl hqb2 (by first | exact fun h=>h | (intro h; omega) | assumption) rfl rfl ?_
   refine Drawn.index hTT hB rfl (j:=k) (show (0:Int)≤k by omega) (show (k:Int)<c.classes.length by omega) (by simp) rfl ?_
   refine Drawn.load hTT hB rfl hcc (by first | exact fun h=>h | (intro h; omega) | assumption) rfl ?_
   refine Drawn.nil hB ?_
   intro w3 hw3
   refine Goes.adv hTT 400 rfl ?_
   exact Goes.ret1 hTT rfl Tryz.func147 rfl rfl ⟨int_v (by unfold viewHolds; rw [if_pos hi]; simp only; rw [if_neg g]),hw.trans hw3⟩
theorem view_At (v:Vw) (q:Plc) (w:World) (h:VwOk w v) (hq:PlcOk w q):Does Tryz.prog 141 #[vwV v,.agg (plcL q).toArray] w (Grow (.int .i64 (viewAt v.c q)) w):=by
 obtain ⟨m1,m2,m3⟩:=mayFacts h.may
 have htot:=size_total h.may
 refine Does.enter Tryz.func141 rfl Tryz.ntmps141 rfl rfl ?_
 refine Goes.adv hTT 400 rfl ?_
 refine Goes.alloc hTT rfl ?_
 intro qb w1 e1 hqb hw1 hz1
 refine Goes.adv hTT 400 rfl ?_
 have hv1:=h.grow hw1
 replace hqb:w1.heap[qb]? = some (.cells (plcL q).toArray 106 (0,0)):=hqb
 refine Goes.loads hTT rfl hqb rfl rfl ?_
 refine Goes.call rfl (view_is v q w1 hv1 (hq.grow hw1)) ?_
 rintro _ w2 ⟨rfl,hw2⟩
 refine Goes.adv hTT 400 rfl ?_
 have hqb2:=hw2.heap' hqb
 have hv2:=hv1.grow hw2
 have hw:=hw1.trans hw2
 cases hi:viewIs v.c q with
 |false =>
  refine Goes.yes hTT rfl rfl rfl ?_
  exact Goes.ret1 hTT rfl Tryz.func141 rfl rfl ⟨int_v (by unfold viewAt; rw [hi,if_neg (by simp)]),hw⟩
 |true =>
  refine Goes.no hTT rfl rfl rfl ?_
  refine Goes.loadb hTT rfl hqb2 rfl rfl ?_
  refine Goes.fork hTT rfl rfl rfl (fun hcl1 => ?_) (fun hcl1 => ?_)
  ·have g:q.cls = -1:=by simpa using hcl1
   exact Goes.ret1 hTT rfl Tryz.func141 rfl rfl ⟨int_v (by unfold viewAt; rw [if_neg (fun hh=>hh.2 g)]),hw⟩
  ·have g:¬ q.cls = -1:=by simpa using hcl1
   obtain ⟨k,pg,ix,hk,hpg,hix,hkl,g1,g2,g3,g4,g5,g6,g7⟩:=is_small h.may hi g
   obtain ⟨cb,off,hca,hcc⟩:=hv2.cls hkl
   obtain ⟨vb,c,⟨ca,cc,ka,kc⟩,ab,mb⟩:=v
   simp only at hca
   subst hca
   obtain ⟨cls,page,idx,pa,pc,pages⟩:=q
   simp only at hk hpg hix
   subst hk
   subst hpg
   subst hix
   replace hkl:k<c.classes.length:=hkl
   replace htot:64≤c.size*c.pages∧c.size*c.pages≤4194304:=htot
   replace g4:0≤(pg:Int)*c.size:=g4
   replace g5:0≤(ix:Int)*clsM c k:=g5
   replace g6:(ix:Int)*clsM c k+clsM c k≤c.size:=g6
   replace g7:(pg:Int)*c.size+(ix:Int)*clsM c k+clsM c k≤c.size*c.pages:=g7
   replace g2:8≤clsM c k:=g2
   replace m1:64≤c.size∧c.size≤4096∧c.size % 8=0:=m1
   refine Goes.drawn (q:=22) None' hTT mixed (by kernel_rfl) rfl ?_
   intro hB
   refine Drawn.loadb hTT hB rfl hqb2 (by first | exact fun h=>h | (intro h; omega) | assumption) rfl rfl ?_
   refine Drawn.loadb hTT hB rfl hv2.obj (by first | exact fun h=>h | (intro h; omega) | assumption) rfl rfl ?_
   refine Drawn.arith hTT hB rfl (w64 (by show _∧_; simp only; omega)) rfl ?_
   refine Drawn.loadb hTT hB rfl hqb2 (by first | exact fun h=>h | (intro h; omega) | assumption) rfl rfl ?_
   refine Drawn.loadb hTT hB rfl hv2.obj (by first | exact fun h=>h | (intro h; omega) | assumption) rfl rfl ?_
   refine Drawn.loadb hTT hB rfl hqb2 (by first | exact fun h=>h | (intro h; omega) | assumption) rfl rfl ?_
   refine Drawn.index hTT hB rfl (j:=k) (show (0:Int)≤k by omega) (show (k:Int)<c.classes.length by omega) (by simp) rfl ?_
   refine Drawn.load hTT hB rfl hcc (by first | exact fun h=>h | (intro h; omega) | assumption) rfl ?_
   refine Drawn.arith hTT hB rfl (w64 (by show _∧_; simp only; omega)) rfl ?_
   refine Drawn.arith hTT hB rfl (w64 (by show _∧_; simp only; omega)) rfl ?_
   refine Drawn.nil hB ?_
   intro w3 hw3
   refine Goes.adv hTT 400 rfl ?_
   exact Goes.ret1 hTT rfl Tryz.func141 rfl rfl ⟨int_v (by unfold viewAt; rw [if_pos ⟨hi,g⟩]),hw.trans hw3⟩
theorem view_New (c:Conf) (p:ConfAt) (A:Ar) (V:ArV) (w:World) (hc:ConfOk w c p) (hA:ArOk w A V):Does Tryz.prog 49 #[.agg (confL c p).toArray,.pointer (some ⟨A.ab,0,none⟩),ptr A.mb] w
 (fun v w'=>Chg None' w w'∧if mayB c=true∧(V.bs.length:Int)=c.size*c.pages then ∃ vb,v = .tuple #[.pointer (some ⟨vb,0,none⟩),.int .i64 0]∧w.heap.size≤vb∧VwOk w' ⟨vb,c,p,A.ab,A.mb⟩ else v = .tuple #[.pointer none,.int .i64 1]):=by
 refine Does.enter Tryz.func49 rfl Tryz.ntmps49 rfl rfl ?_
 refine Goes.adv hTT 400 rfl ?_
 refine Goes.alloc hTT rfl ?_
 intro cb w1 e1 hcb hw1 hz1
 refine Goes.adv hTT 400 rfl ?_
 replace hcb:w1.heap[cb]? = some (.cells (confL c p).toArray 24 (0,0)):=hcb
 refine Goes.loads hTT rfl hcb rfl rfl ?_
 refine Goes.call rfl (conf_May c p w1 (hc.chg hw1)) ?_
 rintro _ w2 ⟨rfl,hw2⟩
 refine Goes.adv hTT 400 rfl ?_
 have hw:=hw1.trans hw2
 have hcb2:=hw2.heap' hcb
 cases hm:mayB c with
 |false =>
  rw [show mayM c=1 from by unfold mayM; rw [hm]; rfl]
  refine Goes.yes hTT rfl rfl rfl ?_
  exact Goes.ret2 hTT rfl Tryz.func49 rfl rfl rfl ⟨hw,by rw [if_neg (by simp)]⟩
 |true =>
  rw [show mayM c=0 from by unfold mayM; rw [hm]; rfl]
  have htot:=size_total hm
  refine Goes.no hTT rfl rfl rfl ?_
  refine Goes.drawn (q:=8) None' hTT mixed (by kernel_rfl) rfl ?_
  intro hB
  refine Drawn.call hTT hB rfl (fun w' hw'=>(arena_Len A V w' ((hA.grow hw).grow hw')).grow) rfl ?_
  refine Drawn.loadb hTT hB rfl hcb2 (by first | exact fun h=>h | (intro h; omega) | assumption) rfl rfl ?_
  refine Drawn.loadb hTT hB rfl hcb2 (by first | exact fun h=>h | (intro h; omega) | assumption) rfl rfl ?_
  refine Drawn.arith hTT hB rfl (w64 (by show _∧_; omega)) rfl ?_
  refine Drawn.adv hTT hB rfl ?_
  refine Drawn.nil hB ?_
  intro w3 hw3
  refine Goes.adv hTT 400 rfl ?_
  by_cases hl:(V.bs.length:Int)=c.size*c.pages
  ·refine Goes.no hTT rfl (show ((V.bs.length:Int) != c.size*c.pages)=false by rw [hl]; exact bne_self_eq_false _) rfl ?_
   refine Goes.loads hTT rfl (hw3.heap' hcb2) rfl rfl ?_
   refine Goes.build hTT rfl rfl ?_
   refine Goes.alloc hTT rfl ?_
   intro vb w4 e4 hvb hw4 hz4
   refine Goes.adv hTT 400 rfl ?_
   have hwa:=(hw.trans hw3).trans hw4
   exact Goes.ret2 hTT rfl Tryz.func49 rfl rfl rfl ⟨hwa,by rw [if_pos ⟨rfl,hl⟩]; exact ⟨vb,rfl,by have:=hw.size; have:=hw3.size; omega,⟨hvb,hc.chg hwa,hm⟩⟩⟩
  ·refine Goes.yes hTT rfl (show ((V.bs.length:Int) != c.size*c.pages)=true by simpa using hl) rfl ?_
   exact Goes.ret2 hTT rfl Tryz.func49 rfl rfl rfl ⟨hw.trans hw3,by rw [if_neg (fun hh=>hl hh.2)]⟩
end Go.Proofs.YtnaoiegcobineaaGreatDoor
namespace Go.Proofs.YtnaoiegcobineaaGreatDoor
open Go.RowKit
abbrev Span:=Nat × Nat × Nat
def spanL (s:Span):List Value := [.int .i64 (s.1:Nat),.int .i64 (s.2.1:Nat),.int .i64 (s.2.2:Nat)]
def headS (at' n page:Nat):Span:=(at' / page,at' % page,min n (page - at' % page))
def spansF:Nat→Nat→Nat→Nat→List Span
 |0,_,_,_ => []
 |f+1,at',n,page=>if n=0 then [] else headS at' n page::spansF f (at'+min n (page - at' % page)) (n - min n (page - at' % page)) page
def spansM (at' n page:Nat):List Span:=spansF n at' n page
theorem headS_pos {at' n page:Nat} (hp:1≤page) (hn:0<n):0<min n (page - at' % page):=by
 have:=Nat.mod_lt at' (show 0<page by omega); omega
theorem spansF_fuel {page:Nat} (hp:1≤page):∀ (f g at' n:Nat),n≤f→n≤g→spansF f at' n page=spansF g at' n page
 |0,0,_,_,_,_=>rfl
 |0,g+1,at',n,h,_=>by obtain rfl:n=0:=by omega
                      simp [spansF]
 |f+1,0,at',n,_,h=>by obtain rfl:n=0:=by omega
                      simp [spansF]
 |f+1,g+1,at',n,h1,h2=>by
  unfold spansF
  split
  ·rfl
  ·rename_i hn
   have:=headS_pos (at':=at') hp (show 0<n by omega)
   rw [spansF_fuel hp f g _ _ (by omega) (by omega)]
theorem spansM_nil (at' page:Nat):spansM at' 0 page = []:=rfl
theorem spansM_cons {at' n page:Nat} (hp:1≤page) (hn:0<n):spansM at' n page=headS at' n page::spansM (at'+min n (page - at' % page)) (n - min n (page - at' % page)) page:=by
 have:=headS_pos (at':=at') hp hn
 unfold spansM
 obtain ⟨m,rfl⟩:∃ m,n=m+1:=⟨n - 1,by omega⟩
 rw [show spansF (m+1) at' (m+1) page=headS at' (m+1) page::spansF m (at'+min (m+1) (page - at' % page)) (m+1 - min (m+1) (page - at' % page)) page from by
  show (if m+1=0 then [] else _)=_
  rw [if_neg (by omega)]]
 rw [spansF_fuel hp m _ _ _ (by omega) (Nat.le_refl _)]
theorem spansM_length {page:Nat} (hp:1≤page):∀ (n at':Nat),(spansM at' n page).length≤n:=by
 intro n
 induction n using Nat.strongRecOn with
 |_ n ih =>
  intro at'
  by_cases hn:n=0
  ·subst hn; exact Nat.le_refl _
  ·have:=headS_pos (at':=at') hp (show 0<n by omega)
   rw [spansM_cons hp (by omega),List.length_cons]
   have:=ih (n - min n (page - at' % page)) (by omega) (at'+min n (page - at' % page))
   omega
abbrev intBox (w:World) (b:Nat) (x:Int):Prop:=w.heap[b]? = some (.cells ([.int .i64 x]:List Value).toArray 3 (0,0))
theorem chain_next (pa pp pn at' page n:Nat) (w:World) (ha:intBox w pa at') (hp:intBox w pp page) (hn:intBox w pn n) (hb:at'+n≤16777216∧1≤page∧page≤16777216) :
 Does Tryz.prog 273 #[.pointer (some ⟨pa,0,none⟩),.pointer (some ⟨pp,0,none⟩),.pointer (some ⟨pn,0,none⟩)] w (Grow (.agg (spanL (headS at' n page)).toArray) w):=by
 have hmod:0≤(at':Int) % page∧(at':Int) % page<page:=⟨Int.emod_nonneg _ (by omega),Int.emod_lt_of_pos _ (by omega)⟩
 have e3:((min n (page - at' % page):Nat):Int)=if (page:Int) - (at':Int) % page<n then (page:Int) - (at':Int) % page else n:=by
  rw [show ((at':Int) % page)=((at' % page:Nat):Int) from rfl]
  have:=Nat.mod_lt at' (show 0<page by omega)
  split <;> omega
 refine Does.enter Tryz.func273 rfl Tryz.ntmps273 rfl rfl ?_
 refine Goes.adv hTT 400 rfl ?_
 refine Goes.alloc hTT rfl ?_
 intro rb w1 e1 hrb hw1 hz1
 refine Goes.adv hTT 400 rfl ?_
 refine Goes.loadb hTT rfl (hw1.heap' ha) rfl rfl ?_
 refine Goes.loadb hTT rfl (hw1.heap' hp) rfl rfl ?_
 refine Goes.div hTT rfl (by omega) (rem_ (by omega)) rfl ?_
 refine Goes.drawn (q:=10) None' hTT mixed (by kernel_rfl) rfl ?_
 intro hB
 refine Drawn.loadb hTT hB rfl (hw1.heap' ha) (by first | exact fun h=>h | (intro h; omega) | assumption) rfl rfl ?_
 refine Drawn.loadb hTT hB rfl (hw1.heap' hp) (by first | exact fun h=>h | (intro h; omega) | assumption) rfl rfl ?_
 refine Drawn.div hTT hB rfl (by omega) (quo64 (by omega) (by omega)) rfl ?_
 refine Drawn.loadb hTT hB rfl (hw1.heap' hn) (by first | exact fun h=>h | (intro h; omega) | assumption) rfl rfl ?_
 refine Drawn.loadb hTT hB rfl (hw1.heap' hp) (by first | exact fun h=>h | (intro h; omega) | assumption) rfl rfl ?_
 refine Drawn.arith hTT hB rfl (w64 (by omega)) rfl ?_
 refine Drawn.adv hTT hB rfl ?_
 refine Drawn.build hTT hB rfl rfl ?_
 refine Drawn.nil hB ?_
 intro w2 hw2
 refine Goes.adv hTT 400 rfl ?_
 refine Goes.store hTT rfl (hw2.heap' hrb) rfl rfl ?_
 intro w3 hr3 hs3 hz3
 refine Goes.adv hTT 400 rfl ?_
 have hc3:Chg None' w w3:=(hw1.trans hw2).since hs3 (fun x hx hx'=>by omega)
 exact Goes.ret hTT rfl Tryz.func273 (ResOk.cell rfl rfl rfl hr3 rfl .nil) ⟨by unfold spanL headS; simp only; rw [e3]; rfl,hc3⟩
theorem chain_spans1 (l pa pp pn at0 n0 page:Nat) (w:World) (Y:Nat→Prop) (I:Nat→World→Prop) (hb:at0+n0≤16777216∧1≤page∧page≤16777216) (ha:intBox w pa at0) (hp:intBox w pp page) (hn:intBox w pn n0)
 (hne:pa≠pp∧pa≠pn∧pp≠pn) (hY:¬ Y pa ∧ ¬ Y pp ∧ ¬ Y pn) (hI:∀ k w w',I k w→Chg (fun z=>z=pa∨z=pn) w w'→I k w')
 (hy:∀ k w0 w (h:k<(spansM at0 n0 page).length),I k w0→Chg None' w0 w→YDoes Tryz.prog l [.agg (spanL (spansM at0 n0 page)[k]).toArray] w (fun v w'=>v = .bool true∧I (k+1) w'∧Chg (fun z=>Y z∧z<w0.heap.size) w w'))
 (h0:I 0 w) :
 Does Tryz.prog 272 #[yieldV l,.pointer (some ⟨pa,0,none⟩),.pointer (some ⟨pp,0,none⟩),.pointer (some ⟨pn,0,none⟩)] w (fun v w'=>v = .tuple #[]∧I (spansM at0 n0 page).length w'∧Chg (fun z=>z=pa∨z=pn∨Y z) w w'):=by
 refine Does.enter Tryz.func272 rfl Tryz.ntmps272 rfl rfl ?_
 refine Goes.adv hTT 400 rfl ?_
 refine Goes.loop (α:=Nat × Nat × Nat) (fun _ => [(0,false,yieldV l),(1,false,.pointer (some ⟨pa,0,none⟩)),(3,false,.pointer (some ⟨pn,0,none⟩)),(5,false,.func (.func 273) #[] #[.pointer (some ⟨pa,0,none⟩),.pointer (some ⟨pp,0,none⟩),.pointer (some ⟨pn,0,none⟩)])])
  (fun p w' => ∃ pre,spansM at0 n0 page=pre++spansM p.2.1 p.2.2 page∧pre.length=p.1∧p.2.1+p.2.2=at0+n0∧I p.1 w'∧intBox w' pa p.2.1∧intBox w' pp page∧intBox w' pn p.2.2∧Chg (fun z=>z=pa∨z=pn∨Y z) w w') (fun p=>p.2.2) (0,at0,n0) ⟨rfl,rfl,rfl,rfl,trivial⟩
  ⟨[],rfl,rfl,rfl,h0,ha,hp,hn,Chg.refl _ _⟩ ?_
 rintro ⟨k,at',n⟩ w1 ⟨pre,hpre,hk,hsum,hI1,ha1,hp1,hn1,hc1⟩ ih
 simp only at hpre hk hsum hI1 ha1 hn1
 subst hk
 refine Goes.adv hTT 400 rfl ?_
 refine Goes.loadb hTT rfl hn1 rfl rfl ?_
 refine Goes.fork hTT rfl rfl rfl (fun hc => ?_) (fun hc => ?_)
 ·have hn0:0<n:=by have:=of_decide_eq_true hc; omega
  have hlen:=headS_pos (at':=at') hb.2.1 hn0
  have hcons:=spansM_cons (at':=at') hb.2.1 hn0
  refine Goes.call rfl (chain_next pa pp pn at' page n w1 ha1 hp1 hn1 (by omega)) ?_
  rintro _ w2 ⟨rfl,hw2⟩
  refine Goes.adv hTT 400 rfl ?_
  refine Goes.alloc hTT rfl ?_
  intro sb w3 e3 hsb hw3 hz3
  refine Goes.adv hTT 400 rfl ?_
  refine Goes.store hTT rfl hsb rfl rfl ?_
  intro w4 hsb4 hs4 hz4
  refine Goes.adv hTT 400 rfl ?_
  have hw14:Chg None' w1 w4:=(hw2.trans hw3).since hs4 (fun z hz e=>by have:=hw2.size; omega)
  have hlt:pre.length<(spansM at0 n0 page).length:=by rw [hpre,hcons]; simp
  have hel:(spansM at0 n0 page)[pre.length]=headS at' n page:=by
   simp only [hpre,hcons]; simp
  have hyk:=hy pre.length w1 w4 hlt hI1 hw14
  rw [hel] at hyk
  replace hsb4:w4.heap[sb]? = some (.cells (spanL (headS at' n page)).toArray 292 (0,0)):=hsb4
  refine Goes.loads hTT rfl hsb4 rfl rfl ?_
  refine Goes.yield rfl hyk ?_
  rintro _ w5 ⟨rfl,hI5,hs5⟩
  refine Goes.adv hTT 400 rfl ?_
  refine Goes.no hTT rfl rfl rfl ?_
  have hsbs:w1.heap.size≤sb:=by have:=hw2.size; omega
  have hla:=lt_of_heap ha1
  have hlp:=lt_of_heap hp1
  have hln:=lt_of_heap hn1
  have ha5:intBox w5 pa at':=hs5.heap (hw14.heap' ha1) (fun h=>hY.1 h.1)
  have hp5:intBox w5 pp page:=hs5.heap (hw14.heap' hp1) (fun h=>hY.2.1 h.1)
  have hn5:intBox w5 pn n:=hs5.heap (hw14.heap' hn1) (fun h=>hY.2.2 h.1)
  have hsb5:=hs5.heap hsb4 (fun h=>by have:=h.2; omega)
  refine Goes.drawn (q:=9) (fun z=>z=pa) hTT mixed (by kernel_rfl) rfl ?_
  intro hB
  refine Drawn.loadbAt (4) hTT hB rfl rfl rfl hn5 (by first | exact fun h=>h | (intro h; omega) | assumption) rfl rfl ?_
  refine Drawn.loadbAt (2) hTT hB rfl rfl rfl hsb5 (by first | exact fun h=>h | (intro h; omega) | assumption) rfl rfl ?_
  refine Drawn.loadbAt (6) hTT hB rfl rfl rfl hsb5 (by first | exact fun h=>h | (intro h; omega) | assumption) rfl rfl ?_
  refine Drawn.arith hTT hB rfl (w64 (by show _∧_; unfold headS; simp only; omega)) rfl ?_
  refine Drawn.turn1 hB rfl ?_
  intro w6 hw6
  refine Turn.loadb hTT hB rfl (hw6.heap' ha5) rfl rfl ?_
  refine Drawn.arith hTT hB rfl (w64 (by show _∧_; unfold headS; simp only; omega)) rfl ?_
  refine Drawn.turn1 hB rfl ?_
  intro w6b hw6b
  refine Turn.store hTT hB rfl (hw6b.heap' (hw6.heap' ha5)) (by first | (intro h; exact rfl) | (intro h; omega)) rfl rfl rfl ?_
  intro w7a ha7a hs7 hz7
  refine Drawn.nil hB ?_
  intro w7 hw7
  refine Goes.adv hTT 400 rfl ?_
  have hw66:=hw6.trans hw6b
  have ha7:=hw7.heap' ha7a
  refine Goes.store hTT rfl (hw7.heap' (hs7.heap (hw66.heap' hn5) (fun e=>hne.2.1 e.symm))) rfl rfl ?_
  intro w8 hn8 hs8 hz8
  refine Goes.adv hTT 400 rfl ?_
  have ha8:=hs8.heap ha7 hne.2.1
  have hp8:intBox w8 pp page:=hs8.heap (hw7.heap' (hs7.heap (hw66.heap' hp5) (fun e=>hne.1 e.symm))) hne.2.2
  have hc68:Chg (fun z=>z=pa∨z=pn) w6b w8:=((hs7.mono fun _ _ h => .inl h).trans (hw7.mono fun _ _ h=>h.elim)).trans (hs8.mono fun _ _ h => .inr h)
  have hc58:Chg (fun z=>z=pa∨z=pn) w5 w8:=(hw66.mono fun _ _ h=>h.elim).trans hc68
  have hc18:Chg (fun z=>z=pa∨z=pn∨Y z) w1 w8:=((hw14.mono fun _ _ h=>h.elim).trans (hs5.mono fun _ _ h => .inr (.inr h.1))).trans (hc58.mono fun _ _ h=>h.elim .inl (fun h => .inr (.inl h)))
  exact ih (pre.length+1,at'+min n (page - at' % page),n - min n (page - at' % page)) _ _ ⟨pre ++ [headS at' n page],by rw [hpre,hcons]; simp,by simp,by simp only; omega,hI _ _ _ hI5 hc58,by
   have e:((at':Int)+((headS at' n page).2.2:Nat))=((at'+min n (page - at' % page):Nat):Int):=by unfold headS; simp only; omega
   simp only
   rw [← e]; exact ha8,hp8,by
   have e:((n:Int) - ((headS at' n page).2.2:Nat))=((n - min n (page - at' % page):Nat):Int):=by unfold headS; simp only; omega
   simp only
   rw [← e]; exact hn8,hc1.trans hc18⟩ (by simp only; omega) ⟨rfl,rfl,rfl,rfl,trivial⟩
 ·have hn0:n=0:=by have:=of_decide_eq_false hc; omega
  subst hn0
  have hlen:(spansM at0 n0 page).length=pre.length:=by rw [hpre,spansM_nil]; simp
  exact Goes.ret0 hTT rfl Tryz.func272 rfl ⟨rfl,by rw [hlen]; exact hI1,hc1⟩
end Go.Proofs.YtnaoiegcobineaaGreatDoor
namespace Go.Proofs.YtnaoiegcobineaaGreatDoor
open Go.RowKit
theorem chain_spans (at' n page:Int) (w:World):Does Tryz.prog 257 #[.int .i64 at',.int .i64 n,.int .i64 page] w (fun v w' => ∃ pa pp pn,v = .func (.func 272) #[] #[.pointer (some ⟨pa,0,none⟩),.pointer (some ⟨pp,0,none⟩),.pointer (some ⟨pn,0,none⟩)] ∧
 w.heap.size≤pa∧w.heap.size≤pp∧w.heap.size≤pn∧(pa≠pp∧pa≠pn∧pp≠pn)∧intBox w' pa at'∧intBox w' pp page∧intBox w' pn n∧Chg None' w w'):=by
 refine Does.enter Tryz.func257 rfl Tryz.ntmps257 rfl rfl ?_
 refine Goes.adv hTT 400 rfl ?_
 refine Goes.alloc hTT rfl ?_
 intro pa w1 e1 ha hw1 hz1
 refine Goes.adv hTT 400 rfl ?_
 refine Goes.alloc hTT rfl ?_
 intro pn w2 e2 hn hw2 hz2
 refine Goes.adv hTT 400 rfl ?_
 refine Goes.alloc hTT rfl ?_
 intro pp w3 e3 hp hw3 hz3
 refine Goes.adv hTT 400 rfl ?_
 exact Goes.ret1 hTT rfl Tryz.func257 rfl rfl ⟨pa,pp,pn,rfl,by omega,by omega,by omega,by omega,hw3.heap' (hw2.heap' ha),hp,hw3.heap' hn,(hw1.trans hw2).trans hw3⟩
theorem rows_of_own {base t:Nat} {w:World} {v:Value} {L:List Span} (h:Own base t 3 w v L.length (L.flatMap spanL)):∃ a cap,v = .slice a L.length cap∧Rows spanL 3 w a L ∧ ∀ b off s,a=some ⟨b,off,s⟩→base≤b:=by
 rcases h.2 with ⟨rfl,h0⟩ | ⟨g,cap,cur,rfl,h2,h3,h4,h5,h6,h7⟩
 ·obtain rfl:L = []:=List.length_eq_zero_iff.1 h0
  exact ⟨none,0,rfl,fun i x hx=>by simp at hx,fun _ _ _ e=>by cases e⟩
 ·refine ⟨some ⟨g,0,none⟩,cap,rfl,fun i x hx=>⟨g,0,rfl,fun j v hv => ?_⟩,fun b off s e=>by cases e; exact h2⟩
  have hil:=(List.getElem?_eq_some_iff.1 hx).1
  have hj:j<3:=by have:=(List.getElem?_eq_some_iff.1 hv).1; simpa [spanL] using this
  rw [cell_of h3]
  have hfl:∀ (L:List Span) (i:Nat) (x:Span),L[i]? = some x→(L.flatMap spanL)[i*3+j]? = (spanL x)[j]?:=by
   intro L
   induction L with
   |nil=>intro i x hx; simp at hx
   |cons s r ih =>
    intro i x hx
    rw [List.flatMap_cons]
    have hl3:(spanL s).length=3:=rfl
    cases i with
    |zero =>
     simp at hx; subst hx
     rw [Nat.zero_mul,Nat.zero_add,List.getElem?_append_left (by rw [hl3]; exact hj)]
    |succ i =>
     rw [List.getElem?_append_right (by rw [hl3]; omega),hl3,show (i+1)*3+j - 3=i*3+j from by omega]
     exact ih i x (by simpa using hx)
  have h8:=hfl L i x hx
  rw [hv,← h7,List.getElem?_take,if_pos (by omega)] at h8
  rw [Nat.zero_add]
  simpa using h8
theorem chain_Cut (at' n page:Nat) (w:World) (hb:at'+n≤16777216∧1≤page∧page≤16777216):Does Tryz.prog 224 #[.int .i64 at',.int .i64 n,.int .i64 page] w
 (fun v w' => ∃ a cap,v = .slice a (spansM at' n page).length cap∧Rows spanL 3 w' a (spansM at' n page)∧(∀ b off s,a=some ⟨b,off,s⟩→w.heap.size≤b)∧Chg None' w w'):=by
 have hml:maxLen=9223372036854775807:=rfl
 have hsl:=spansM_length (page:=page) hb.2.1 n at'
 refine Does.enter Tryz.func224 rfl Tryz.ntmps224 rfl rfl ?_
 refine Goes.adv hTT 400 rfl ?_
 refine Goes.no hTT rfl (decide_eq_false (by omega)) rfl ?_
 refine Goes.no hTT rfl (decide_eq_false (by omega)) rfl ?_
 refine Goes.no hTT rfl (decide_eq_false (by omega)) rfl ?_
 refine Goes.no hTT rfl (decide_eq_false (by omega)) rfl ?_
 refine Goes.arith hTT rfl (w64 (by omega)) rfl ?_
 refine Goes.no hTT rfl (decide_eq_false (by omega)) rfl ?_
 refine Goes.alloc hTT rfl ?_
 intro lb w1 e1 hlb hw1 hz1
 refine Goes.adv hTT 400 rfl ?_
 refine Goes.call rfl (chain_spans at' n page w1) ?_
 rintro _ w2 ⟨pa,pp,pn,rfl,ha2,hp2,hn2,hne,hba,hbp,hbn,hw2⟩
 refine Goes.adv hTT 400 rfl ?_
 have hbla:=lt_of_heap hba
 have hblp:=lt_of_heap hbp
 have hbln:=lt_of_heap hbn
 have hw02:=hw1.trans hw2
 have hlb2:=hw2.heap' hlb
 have hs2:=hw2.size
 refine Goes.rangeFunc rfl rfl ⟨Tryz.f272,Tryz.func272,rfl,rfl⟩ ?_
 intro r0 B tmps w3 hr0 hB hfit hmk hlr hw3 hz3
 have hw03:=hw02.trans hw3
 have hr0s:r0.state = .ready:=by rw [hr0]
 have hr0r:({r0 with state := .ready,pending:=none}:Loop)=r0:=by rw [hr0]
 have hr0p:r0.pending=none:=by rw [hr0]
 refine (chain_spans1 (B+1) pa pp pn at' n page w3 (fun z=>z=lb∨z=B+1∨B+2≤z)
  (fun k w'=>k≤(spansM at' n page).length ∧ ∃ v,w'.heap[lb]? = some (.cells ([v]:List Value).toArray 283 (0,0))∧Own (B+2) 292 3 w' v k (((spansM at' n page).take k).flatMap spanL) ∧
   w'.heap[B+1]? = some (.loop r0)∧w'.heap[B]? = some (.deferred (some []))∧B+2≤w'.heap.size∧Chg None' w w')
  hb (hw3.heap' hba) (hw3.heap' hbp) (hw3.heap' hbn) hne ⟨by omega,by omega,by omega⟩ ?_ ?_ ⟨Nat.zero_le _,_,hw3.heap' hlb2,World.ownsRow_nil _ _ _ _,hlr,hmk,by omega,hw03⟩).mono ?_
 ·rintro k w4 w5 ⟨hk,v,h1,h2,h3,h4,h5,h6⟩ hs
  refine ⟨hk,v,hs.heap h1 (by omega),h2.chg hs (fun b hb e => ?_),hs.heap h3 (by omega),hs.heap h4 (by omega),Nat.le_trans h5 hs.size,h6.since hs (fun z hz e=>by have:=hw1.size; omega)⟩
  have:=(World.ownsRow.lt h2 b hb.symm).1
  omega
 ·rintro k w4 w5 hk ⟨hk',v,h1,h2,h3,h4,h5,h6⟩ hw5
  have hlt3:=lt_of_heap h3
  have hlt1:=lt_of_heap h1
  subst hr0
  refine YDoes.enter (ps := [33]) (hw5.heap' h3) rfl rfl hfit rfl ?_
  refine Goes.adv hTT 400 rfl ?_
  refine Goes.alloc hTT rfl ?_
  intro sb w6 e6 hsb hw6 hz6
  refine Goes.adv hTT 400 rfl ?_
  refine Goes.store hTT rfl hsb rfl rfl ?_
  intro w7 hsb7 hs7 hz7
  refine Goes.adv hTT 400 rfl ?_
  have hw47:Chg None' w4 w7:=(hw5.trans hw6).since hs7 (fun z hz e=>by have:=hw5.size; omega)
  have hsz5:=hw5.size
  refine Goes.beginRound rfl (hw47.heap' h3) rfl ?_
  intro w8 hl8 hs8 hz8
  refine Goes.adv hTT 400 rfl ?_
  refine Goes.loadb hTT rfl (hs8.heap (hw47.heap' h1) (by omega)) rfl rfl ?_
  refine Goes.loads hTT rfl (hs8.heap hsb7 (by omega)) rfl rfl ?_
  refine Goes.buildSlice hTT rfl ?_
  intro b9 w9 e9 hb9 hw9 hz9
  refine Goes.adv hTT 400 rfl ?_
  have ho9:=((h2.chg hw47 (fun _ _ h=>h)).chg hs8 (fun b hb e=>by have:=(World.ownsRow.lt h2 b hb.symm).1; omega)).chg hw9 (fun _ _ h=>h)
  have htk:((spansM at' n page).take (k+1)).flatMap spanL=((spansM at' n page).take k).flatMap spanL++spanL (spansM at' n page)[k]:=by
   rw [List.take_add_one,List.getElem?_eq_getElem hk,List.flatMap_append]; simp
  refine Goes.append (base:=B+2) (news:=spanL (spansM at' n page)[k]) hTT rfl ho9 (by have:=hw47.size; have:=hs8.size; have:=hw9.size; omega) rfl (fun i u hu=>by rw [add_off,cell_of hb9]; simpa [spanL,zeroRow] using hu) (fun u hu=>by simp [spanL] at hu; rcases hu with rfl | rfl | rfl <;> rfl) (by simp only; omega) ?_
  intro v10 w10 ho10 hs10 hv10
  obtain ⟨g10,cap10,cur10,hv10e,-⟩:=ho10.form (by omega)
  subst hv10e
  refine Goes.adv hTT 400 rfl ?_
  have hlb10:=hs10.heap (hw9.heap' (hs8.heap (hw47.heap' h1) (by omega))) (fun e=>by have:=(World.ownsRow.lt ho9 lb e.symm).1; omega)
  refine Goes.store hTT rfl hlb10 rfl rfl ?_
  intro w11 hlb11 hs11 hz11
  refine Goes.adv hTT 400 rfl ?_
  have hl10:=hs10.heap (hw9.heap' hl8) (fun e=>by have:=(World.ownsRow.lt ho9 _ e.symm).1; omega)
  have hl11:=hs11.heap hl10 (by omega)
  refine Goes.roundEnd rfl hl11 ?_
  intro w12 hl12 hs12 hz12
  have hm12:w12.heap[B]? = some (.deferred (some [])):=hs12.heap (hs11.heap (hs10.heap (hw9.heap' (hs8.heap (hw47.heap' h4) (by omega))) (fun e=>by have:=(World.ownsRow.lt ho9 _ e.symm).1; omega)) (by omega)) (by omega)
  have hc:∀ S:Nat→Prop,S lb→S (B+1)→(∀ z,some z=v.ownBlock→S z)→Chg S w5 w12:=fun S c1 c2 c3=>by
   have a1:Chg S w5 w7:=(hw6.mono fun _ _ h=>h.elim).since hs7 (fun z hz e=>by omega)
   have a2:Chg S w7 w8:=hs8.mono fun z _ e=>by subst e; exact c2
   have a3:Chg S w8 w10:=(hw9.mono fun _ _ h=>h.elim).trans (hs10.mono fun z _ e=>c3 z e)
   have a4:Chg S w10 w11:=hs11.mono fun z _ e=>by subst e; exact c1
   have a5:Chg S w11 w12:=hs12.mono fun z _ e=>by subst e; exact c2
   exact (((a1.trans a2).trans a3).trans a4).trans a5
  refine ⟨_,rfl,rfl,⟨hk,_,hs12.heap hlb11 (by omega),?_,hl12,hm12,by have:=hw47.size; have:=hs8.size; have:=hw9.size; have:=hs10.size; omega,(h6.trans hw5).since (hc (fun z=>z=lb∨B+1≤z) (.inl rfl) (.inr (Nat.le_refl _)) (fun z e => .inr (by have:=(World.ownsRow.lt h2 z e.symm).1; omega))) (fun z hz e=>by have:=hw1.size; omega)⟩,
   hc _ ⟨.inl rfl,hlt1⟩ ⟨.inr (.inl rfl),hlt3⟩ (fun z e=>⟨.inr (.inr (World.ownsRow.lt h2 z e.symm).1),(World.ownsRow.lt h2 z e.symm).2⟩)⟩
  rw [htk]
  exact (ho10.chg hs11 (fun b hb e=>by have:=(World.ownsRow.lt ho10 b hb.symm).1; omega)).chg hs12 (fun b hb e=>by have:=(World.ownsRow.lt ho10 b hb.symm).1; omega)
 ·rintro _ w4 ⟨rfl,⟨hk,v,h1,h2,h3,h4,h5,h6⟩,hs4⟩
  refine ⟨_,h3,by rw [hr0s]; simp,?_⟩
  intro w5 hs5 hz5
  rw [hr0p]
  refine Goes.adv hTT 400 rfl ?_
  refine Goes.loadb hTT rfl (hs5.heap h1 (by omega)) rfl rfl ?_
  rw [List.take_length] at h2
  have h25:=h2.chg hs5 (fun b hb e=>by have:=(World.ownsRow.lt h2 b hb.symm).1; omega)
  refine Goes.retM hTT rfl Tryz.func224 (hs5.heap h4 (by omega)) (vs := [v]) (fun _ _ => .tmp rfl .nil) ?_
  intro w6 hs6 hz6
  have h26:=h25.chg hs6 (fun b hb e=>by have:=(World.ownsRow.lt h2 b hb.symm).1; omega)
  obtain ⟨a,cap,rfl,hrows,hnew⟩:=rows_of_own h26
  exact ⟨a,cap,rfl,hrows,fun b off s e=>by have:=hnew b off s e; have:=hw02.size; omega,(h6.since hs5 (fun z hz e=>by have:=hw1.size; omega)).since hs6 (fun z hz e=>by have:=hw1.size; omega)⟩
end Go.Proofs.YtnaoiegcobineaaGreatDoor
namespace Go.Proofs.YtnaoiegcobineaaGreatDoor
open Go.RowKit
theorem Rd.far' {k:IntKind} {w w':World} {a:Option Addr} {zs:List Int} {S:Nat→Prop} (h:Rd k w a zs) (hs:0<zs.length→OutA S a) (hc:Chg S w w'):Rd k w' a zs:=(RdS.chg ⟨h,fun b off s e hl=>hs hl b off s e⟩ hc).1
theorem PlcOk.far {w w':World} {q:Plc} {S:Nat→Prop} (h:PlcOk w q) (hs:0<q.pages.length→OutA S q.pa) (hc:Chg S w w'):PlcOk w' q:=⟨h.rd.far' hs hc,h.len⟩
theorem ConfOk.far {w w':World} {c:Conf} {p:ConfAt} {S:Nat→Prop} (h:ConfOk w c p) (h1:0<c.classes.length→OutA S p.ca) (h2:0<c.keep.length→OutA S p.ka) (hc:Chg S w w'):ConfOk w' c p:=⟨h.classes.far' h1 hc,h.keep.far' h2 hc,h.lc,h.lk,h.size⟩
theorem VwOk.far {w w':World} {v:Vw} {S:Nat→Prop} (h:VwOk w v) (h0:¬ S v.vb) (h1:0<v.c.classes.length→OutA S v.p.ca) (h2:0<v.c.keep.length→OutA S v.p.ka) (hc:Chg S w w'):VwOk w' v:=⟨hc.heap h.obj h0,h.conf.far h1 h2 hc,h.may⟩
theorem Rd.outNew {k:IntKind} {w:World} {a:Option Addr} {zs:List Int} {S S':Nat→Prop} (h:Rd k w a zs) (hs:0<zs.length→OutA S a) (hS:∀ z,S' z→S z∨w.heap.size≤z):0<zs.length→OutA S' a:=fun hl b off s e hb=>by
 rcases hS b hb with h1 | h1
 ·exact hs hl b off s e h1
 ·obtain ⟨b',off',e',hc⟩:=h 0 hl
  rw [e] at e'
  cases e'
  have:=World.block_lt_of_cell? w _ hc
  simp only at this
  omega
theorem span_in {page:Nat} (hp:1≤page):∀ (n at':Nat),∀ s ∈ spansM at' n page,s.1*page+s.2.1+s.2.2≤at'+n∧0<s.2.2∧s.2.1+s.2.2≤page∧at'≤s.1*page+s.2.1:=by
 intro n
 induction n using Nat.strongRecOn with
 |_ n ih =>
  intro at' s hs
  by_cases hn:n=0
  ·subst hn; cases hs
  ·have hpos:=headS_pos (at':=at') hp (show 0<n by omega)
   have hmod:=Nat.mod_lt at' (show 0<page by omega)
   have hdm:=Nat.div_add_mod at' page
   rw [spansM_cons hp (by omega)] at hs
   rcases List.mem_cons.1 hs with rfl | hs
   ·unfold headS
    simp only
    rw [Nat.mul_comm] at hdm
    omega
   ·have:=ih _ (by omega) _ s hs
    omega
def partsM (c:Conf) (q:Plc) (at' n:Nat):List (Int × Int) :=
 if q.cls = -1 then (spansM at' n c.size.toNat).map fun s=>(q.pages.getD s.1 0*c.size+s.2.1,(s.2.2:Int)) else [(viewAt c q+at',(n:Int))]
theorem charge_Ar (A:Ar) (V:ArV) (n:Int) (w:World) (h:ArOk w A V):Does Tryz.prog 100 #[ptr A.mb,.int .i64 n] w (fun _ w'=>ArOk w' A (V.charge A n)∧Chg (mFoot A) w w'):=by
 cases hb:A.mb with
 |none =>
  refine (meter_Charge0 n w).mono fun _ w' e => ?_
  subst e
  exact ⟨by unfold ArV.charge; rw [hb]; exact h,Chg.refl _ _⟩
 |some b =>
  refine (meter_Charge b V.total V.lap n w (h.met b hb)).mono fun _ w' ⟨hm,hs⟩ => ?_
  exact ⟨by unfold ArV.charge; rw [hb]; exact h.metered hb hm hs,hs.mono fun x _ hx=>by unfold mFoot; rw [hx]; exact hb⟩
theorem view_parts (v:Vw) (q:Plc) (at' n:Int) (w:World):Does Tryz.prog 185 #[vwV v,.agg (plcL q).toArray,.int .i64 at',.int .i64 n] w (fun u w' => ∃ pb vb ab nb,u = .func (.func 223) #[] #[.pointer (some ⟨pb,0,none⟩),.pointer (some ⟨vb,0,none⟩),.pointer (some ⟨ab,0,none⟩),.pointer (some ⟨nb,0,none⟩)] ∧
 w.heap.size≤pb∧w.heap.size≤vb∧w.heap.size≤ab∧w.heap.size≤nb∧plcBox w' pb q∧ptrBox w' vb v∧intBox w' ab at'∧intBox w' nb n∧Chg None' w w'):=by
 refine Does.enter Tryz.func185 rfl Tryz.ntmps185 rfl rfl ?_
 refine Goes.adv hTT 400 rfl ?_
 refine Goes.alloc hTT rfl ?_
 intro vb w1 e1 hv hw1 hz1
 refine Goes.adv hTT 400 rfl ?_
 refine Goes.alloc hTT rfl ?_
 intro pb w2 e2 hp hw2 hz2
 refine Goes.adv hTT 400 rfl ?_
 refine Goes.alloc hTT rfl ?_
 intro ab w3 e3 ha hw3 hz3
 refine Goes.adv hTT 400 rfl ?_
 refine Goes.alloc hTT rfl ?_
 intro nb w4 e4 hn hw4 hz4
 refine Goes.adv hTT 400 rfl ?_
 have hw24:=hw2.trans (hw3.trans hw4)
 exact Goes.ret1 hTT rfl Tryz.func185 rfl rfl ⟨pb,vb,ab,nb,rfl,by omega,by omega,by omega,by omega,(hw3.trans hw4).heap' hp,hw24.heap' hv,hw4.heap' ha,hn,hw1.trans hw24⟩
def chgL (q:Plc) (A:Ar) (V:ArV):ArV:=if q.cls = -1 then V.charge A 1 else V
theorem ArOk.mlt {w:World} {A:Ar} {V:ArV} (h:ArOk w A V):∀ z,mFoot A z→z<w.heap.size:=fun z hz=>lt_of_heap (h.met z hz).1
theorem view_parts1 (l:Nat) (v:Vw) (q:Plc) (at' n pb vb ab nb:Nat) (A:Ar) (Vs:Nat→ArV) (K:Nat→(Nat→Prop)→World→Prop) (Y0:Nat→Prop) (w:World)
 (hv:VwOk w v) (hq:PlcOk w q) (hmb:v.mb=A.mb) (hin:viewIs v.c q=true) (hr:(at':Int)+n≤viewHolds v.c q) (hfew:q.pages.length≤4096)
 (hpb:plcBox w pb q) (hvb:ptrBox w vb v) (hab:intBox w ab at') (hnb:intBox w nb n)
 (hP1:∀ z,Y0 z∨mFoot A z→z≠pb∧z≠vb∧z≠v.vb) (hPq:0<q.pages.length→OutA (fun z=>Y0 z∨mFoot A z) q.pa) (hPc:0<v.c.classes.length→OutA (fun z=>Y0 z∨mFoot A z) v.p.ca) (hPk:0<v.c.keep.length→OutA (fun z=>Y0 z∨mFoot A z) v.p.ka)
 (hKlt:∀ k Y w,K k Y w → ∀ z,Y z→z<w.heap.size) (hK:∀ k Y w w',K k Y w→Chg (mFoot A) w w'→K k Y w')
 (hy:∀ k Y w0 w (h:k<(partsM v.c q at' n).length),ArOk w0 A (chgL q A (Vs k))→K k Y w0→Chg None' w0 w →
  YDoes Tryz.prog l [.int .i64 (partsM v.c q at' n)[k].1,.int .i64 (partsM v.c q at' n)[k].2] w (fun u w'=>u = .bool true∧ArOk w' A (Vs (k+1))∧Chg Y w w' ∧ ∃ Y',K (k+1) Y' w' ∧ ∀ z,Y' z→Y z∨w.heap.size≤z))
 (h0:ArOk w A (Vs 0)) (hK0:K 0 Y0 w) :
 Does Tryz.prog 223 #[yieldV l,.pointer (some ⟨pb,0,none⟩),.pointer (some ⟨vb,0,none⟩),.pointer (some ⟨ab,0,none⟩),.pointer (some ⟨nb,0,none⟩)] w
  (fun u w'=>u = .tuple #[]∧ArOk w' A (Vs (partsM v.c q at' n).length)∧(∃ Y',K (partsM v.c q at' n).length Y' w' ∧ ∀ z,Y' z→Y0 z∨w.heap.size≤z)∧Chg (fun z=>Y0 z∨mFoot A z) w w'):=by
 obtain ⟨m1,m2,m3⟩:=mayFacts hv.may
 have htot:=size_total hv.may
 have hNm:∀ {x y:World},Chg None' x y→Chg (mFoot A) x y:=fun h=>h.mono fun _ _ h=>h.elim
 refine Does.enter Tryz.func223 rfl Tryz.ntmps223 rfl rfl ?_
 refine Goes.adv hTT 400 rfl ?_
 refine Goes.loadb hTT rfl hpb rfl rfl ?_
 by_cases hcl:q.cls = -1
 ·obtain ⟨hpos,hpg⟩:=is_large hin hcl
  have hho:viewHolds v.c q=(q.pages.length:Int)*v.c.size:=by unfold viewHolds; rw [if_pos hin,if_pos hcl]
  rw [hho] at hr
  have hl1:(q.pages.length:Int)*v.c.size≤4096*4096:=Int.mul_le_mul (by omega) (by omega) (by omega) (by omega)
  obtain ⟨sz,hsz⟩:=Int.eq_ofNat_of_zero_le (show 0≤v.c.size by omega)
  have hszt:v.c.size.toNat=sz:=by omega
  have hpe:partsM v.c q at' n=(spansM at' n sz).map fun s=>(q.pages.getD s.1 0*v.c.size+s.2.1,(s.2.2:Int)):=by unfold partsM; rw [if_pos hcl,hszt]
  have hplen:(partsM v.c q at' n).length=(spansM at' n sz).length:=by rw [hpe,List.length_map]
  have hsl:=spansM_length (page:=sz) (by omega) n at'
  refine Goes.no hTT rfl (show (q.cls != -1)=false by rw [hcl]; rfl) rfl ?_
  refine Goes.drawn (q:=10) None' hTT mixed (by kernel_rfl) rfl ?_
  intro hB
  refine Drawn.loadb hTT hB rfl hab (by first | exact fun h=>h | (intro h; omega) | assumption) rfl rfl ?_
  refine Drawn.loadb hTT hB rfl hnb (by first | exact fun h=>h | (intro h; omega) | assumption) rfl rfl ?_
  refine Drawn.loadb hTT hB rfl hvb (by first | exact fun h=>h | (intro h; omega) | assumption) rfl rfl ?_
  refine Drawn.loadb hTT hB rfl hv.obj (by first | exact fun h=>h | (intro h; omega) | assumption) rfl rfl ?_
  have hd:∀ w',Chg None' w w'→Does Tryz.prog 224 #[.int .i64 at',.int .i64 n,.int .i64 v.c.size] w' (fun u w2=>Chg None' w' w2 ∧ ∃ a cap,u = .slice a (spansM at' n sz).length cap∧Rows spanL 3 w2 a (spansM at' n sz)∧(∀ b off s,a=some ⟨b,off,s⟩→w'.heap.size≤b)):=fun w' hw'=>by
   rw [hsz]
   exact (chain_Cut at' n sz w' (by omega)).mono fun u w2 ⟨a,cap,h1,h2,h3,h4⟩=>⟨h4,a,cap,h1,h2,h3⟩
  refine Drawn.callQ hB rfl rfl (fun w' hw'=>(hd w' hw').mono fun u w2 ⟨h1,a,cap,h2,h3,h4⟩=>(⟨h1,a,cap,h2,h3,fun b off s e=>Nat.le_trans hw'.size (h4 b off s e)⟩:Chg None' w' w2 ∧ ∃ a cap,u = .slice a (spansM at' n sz).length cap∧Rows spanL 3 w2 a (spansM at' n sz)∧(∀ b off s,a=some ⟨b,off,s⟩→w.heap.size≤b))) ?_
  rintro _ w1 hw1 ⟨sa,scap,rfl,hrows,hnew⟩
  refine Drawn.adv hTT hB rfl ?_
  refine Drawn.nil hB ?_
  intro w2 hw2
  refine Goes.adv hTT 400 rfl ?_
  have hw02:=hw1.trans hw2
  have hrows2:=hrows.chg hw2
  have hPr:OutA (fun z=>Y0 z∨mFoot A z) sa:=fun b off s e hb=>by
   have:=hnew b off s e
   rcases hb with hb | hb
   ·have:=hKlt _ _ _ hK0 b hb; omega
   ·have:=h0.mlt b hb; omega
  refine Goes.loop (α:=Nat) (fun k => [(0,false,yieldV l),(1,false,.pointer (some ⟨pb,0,none⟩)),(2,false,.pointer (some ⟨vb,0,none⟩)),(26,false,.slice sa (spansM at' n sz).length scap),(27,false,.int .i64 (spansM at' n sz).length),(28,false,.int .i64 k)])
   (fun k w'=>k≤(spansM at' n sz).length∧ArOk w' A (Vs k)∧(∃ Y,K k Y w' ∧ ∀ z,Y z→Y0 z∨w2.heap.size≤z)∧Chg (fun z=>Y0 z∨mFoot A z) w2 w') (fun k=>(spansM at' n sz).length - k) 0 ⟨rfl,rfl,rfl,rfl,rfl,rfl,trivial⟩
   ⟨Nat.zero_le _,h0.grow hw02,⟨Y0,hK _ _ _ _ hK0 (hNm hw02),fun _ h => .inl h⟩,Chg.refl _ _⟩ ?_
  rintro k w3 ⟨hk,hA3,⟨Y,hK3,hY3⟩,hs3⟩ ih
  refine Goes.adv hTT 400 rfl ?_
  refine Goes.fork hTT rfl rfl rfl (fun hc => ?_) (fun hc => ?_)
  ·have hlt:k<(spansM at' n sz).length:=by have:=of_decide_eq_true hc; omega
   obtain ⟨s,hs⟩:∃ s,s=(spansM at' n sz)[k]:=⟨_,rfl⟩
   obtain ⟨i1,i2,i3,i4⟩:=span_in (page:=sz) (by omega) n at' s (hs▸List.getElem_mem hlt)
   have hNl:s.1<q.pages.length:=by
    have h1:(s.1*sz:Nat)<q.pages.length*sz:=by
     have:((q.pages.length*sz:Nat):Int)=(q.pages.length:Int)*v.c.size:=by rw [hsz]; rfl
     omega
    exact Nat.lt_of_mul_lt_mul_right h1
   obtain ⟨rb,roff,hra,hcell⟩:=(hrows2.at hlt)
   subst hra
   rw [← hs] at hcell
   have hcell3:∀ j u,(spanL s)[j]? = some u→w3.cell? ⟨rb,roff+k*3+j,none⟩=some u:=fun j u hu=>hs3.cell (hcell j u hu) (hPr rb roff none rfl)
   have hpb3:plcBox w3 pb q:=hs3.heap (hw02.heap' hpb) (fun e=>(hP1 _ e).1 rfl)
   have hvb3:ptrBox w3 vb v:=hs3.heap (hw02.heap' hvb) (fun e=>(hP1 _ e).2.1 rfl)
   have hv3:VwOk w3 v:=(hv.grow hw02).far (fun e=>(hP1 _ e).2.2 rfl) hPc hPk hs3
   have hq3:PlcOk w3 q:=(hq.grow hw02).far hPq hs3
   refine Goes.index hTT rfl (j:=(k*3)) (by omega) (by omega) (by first | rfl | omega | (simp; done) | (simp; omega)) rfl ?_
   refine Goes.loadC hTT (spanL s) rfl (by first | rfl | (simp; done) | (simp [*]; done) | (simp; omega)) (hcell3) rfl ?_
   refine Goes.alloc hTT rfl ?_
   intro sb w4 e4 hsb hw4 hz4
   refine Goes.adv hTT 400 rfl ?_
   refine Goes.store hTT rfl hsb rfl rfl ?_
   intro w5 hsb5 hs5 hz5
   refine Goes.adv hTT 400 rfl ?_
   replace hsb5:w5.heap[sb]? = some (.cells (spanL s).toArray 292 (0,0)):=hsb5
   have hw35:Chg None' w3 w5:=hw4.since hs5 (fun z hz e=>by omega)
   refine Goes.loadb hTT rfl (hw35.heap' hvb3) rfl rfl ?_
   refine Goes.loadb hTT rfl (hv3.grow hw35).obj rfl rfl ?_
   rw [hmb]
   refine Goes.call rfl (charge_Ar A (Vs k) 1 w5 (hA3.grow hw35)) ?_
   rintro _ w6 ⟨hA6,hs6⟩
   refine Goes.adv hTT 400 rfl ?_
   have hK6:=hK _ _ _ _ (hK _ _ _ _ hK3 (hNm hw35)) hs6
   have hmP:∀ {x y:World},Chg (mFoot A) x y→Chg (fun z=>Y0 z∨mFoot A z) x y:=fun h=>h.mono fun _ _ h => .inr h
   have hs36:Chg (fun z=>Y0 z∨mFoot A z) w3 w6:=(hw35.mono fun _ _ h=>h.elim).trans (hmP hs6)
   have hpb6:plcBox w6 pb q:=hs36.heap hpb3 (fun e=>(hP1 _ e).1 rfl)
   have hvb6:ptrBox w6 vb v:=hs36.heap hvb3 (fun e=>(hP1 _ e).2.1 rfl)
   have hv6:VwOk w6 v:=hv3.far (fun e=>(hP1 _ e).2.2 rfl) hPc hPk hs36
   have hq6:PlcOk w6 q:=hq3.far hPq hs36
   have hsb6:=hs6.heap hsb5 (fun e=>by have:=hA3.mlt _ e; omega)
   obtain ⟨gb,goff,hga,hgc⟩:=hq6.rd s.1 hNl
   have hpn:0≤q.pages.getD s.1 0∧q.pages.getD s.1 0<v.c.pages:=hpg _ (by rw [List.getD_eq_getElem?_getD,List.getElem?_eq_getElem hNl]; exact List.getElem_mem hNl)
   have hmul:0≤q.pages.getD s.1 0*v.c.size∧q.pages.getD s.1 0*v.c.size≤1024*4096:=⟨Int.mul_nonneg hpn.1 (by omega),Int.mul_le_mul (by omega) (by omega) (by omega) (by omega)⟩
   have hpk:(partsM v.c q at' n)[k]'(by rw [hplen]; exact hlt)=(q.pages.getD s.1 0*v.c.size+s.2.1,(s.2.2:Int)):=by
    simp only [hpe,List.getElem_map,← hs]
   obtain ⟨cls,page,idx,pa,pc,pages⟩:=q
   simp only at hga
   subst hga
   refine Goes.drawn (q:=18) None' hTT mixed (by kernel_rfl) rfl ?_
   intro hB
   refine Drawn.loadb hTT hB rfl hpb6 (by first | exact fun h=>h | (intro h; omega) | assumption) rfl rfl ?_
   refine Drawn.loadb hTT hB rfl hsb6 (by first | exact fun h=>h | (intro h; omega) | assumption) rfl rfl ?_
   refine Drawn.index hTT hB rfl (j:=s.1) (show (0:Int)≤(s.1:Nat) by omega) (show ((s.1:Nat):Int)<pages.length by have:s.1<pages.length:=hNl; omega) (by simp) rfl ?_
   refine Drawn.load hTT hB rfl hgc (by first | exact fun h=>h | (intro h; omega) | assumption) rfl ?_
   refine Drawn.loadb hTT hB rfl hvb6 (by first | exact fun h=>h | (intro h; omega) | assumption) rfl rfl ?_
   refine Drawn.loadb hTT hB rfl hv6.obj (by first | exact fun h=>h | (intro h; omega) | assumption) rfl rfl ?_
   refine Drawn.arith hTT hB rfl (w64 (by show _∧_; simp only at hmul ⊢; omega)) rfl ?_
   refine Drawn.loadb hTT hB rfl hsb6 (by first | exact fun h=>h | (intro h; omega) | assumption) rfl rfl ?_
   refine Drawn.arith hTT hB rfl (w64 (by show _∧_; simp only at hmul ⊢; omega)) rfl ?_
   refine Drawn.loadb hTT hB rfl hsb6 (by first | exact fun h=>h | (intro h; omega) | assumption) rfl rfl ?_
   refine Drawn.nil hB ?_
   intro w7 hw7
   refine Goes.adv hTT 400 rfl ?_
   have hyk:=hy k Y w6 w7 (by rw [hplen]; exact hlt) (by unfold chgL; rw [if_pos hcl]; exact hA6) hK6 hw7
   rw [hpk] at hyk
   refine Goes.yield rfl hyk ?_
   rintro _ w8 ⟨rfl,hA8,hs8,Y',hK8,hY8⟩
   refine Goes.adv hTT 400 rfl ?_
   refine Goes.no hTT rfl rfl rfl ?_
   refine Goes.arith hTT rfl (w64 (by omega)) rfl ?_
   have hsz27:w2.heap.size≤w7.heap.size:=by have:=hs3.size; have:=hs36.size; have:=hw7.size; omega
   exact ih (k+1) _ _ ⟨hlt,hA8,⟨Y',hK8,fun z hz=>(hY8 z hz).elim (hY3 z) (fun h => .inr (by omega))⟩,
    ((hs3.trans hs36).trans (hw7.mono fun _ _ h=>h.elim)).since hs8 (fun z hz h => .inl ((hY3 z h).elim id (fun h=>by omega)))⟩ (by omega) ⟨rfl,rfl,rfl,rfl,rfl,rfl,trivial⟩
  ·have hge:k=(spansM at' n sz).length:=by have:=of_decide_eq_false hc; omega
   subst hge
   have hsz02:=hw02.size
   rw [hplen]
   exact Goes.ret0 hTT rfl Tryz.func223 rfl ⟨rfl,hA3,⟨Y,hK3,fun z hz=>(hY3 z hz).imp id (fun h=>by omega)⟩,(hw02.mono fun _ _ h=>h.elim).trans hs3⟩
 ·have hpe:partsM v.c q at' n = [(viewAt v.c q+at',(n:Int))]:=by unfold partsM; rw [if_neg hcl]
  obtain ⟨kk,pg,ix,hkk,hpg,hix,hkl,g1,g2,g3,g4,g5,g6,g7⟩:=is_small hv.may hin hcl
  have hat:viewAt v.c q=(pg:Int)*v.c.size+(ix:Int)*clsM v.c kk:=by unfold viewAt; rw [if_pos ⟨hin,hcl⟩,hkk,hpg,hix]
  have hho:viewHolds v.c q=clsM v.c kk:=by unfold viewHolds; rw [if_pos hin,if_neg hcl,hkk]
  rw [hho] at hr
  refine Goes.yes hTT rfl (show (q.cls != -1)=true by simpa using hcl) rfl ?_
  refine Goes.drawn (q:=7) None' hTT mixed (by kernel_rfl) rfl ?_
  intro hB
  refine Drawn.loadb hTT hB rfl hvb (by first | exact fun h=>h | (intro h; omega) | assumption) rfl rfl ?_
  refine Drawn.loads hTT hB rfl hpb (by first | exact fun h=>h | (intro h; omega) | assumption) rfl rfl ?_
  refine Drawn.call hTT hB rfl (fun w' hw'=>view_At v q w' (hv.grow hw') (hq.grow hw')) rfl ?_
  refine Drawn.loadb hTT hB rfl hab (by first | exact fun h=>h | (intro h; omega) | assumption) rfl rfl ?_
  refine Drawn.arith hTT hB rfl (w64 (by show _∧_; rw [hat]; omega)) rfl ?_
  refine Drawn.loadb hTT hB rfl hnb (by first | exact fun h=>h | (intro h; omega) | assumption) rfl rfl ?_
  refine Drawn.nil hB ?_
  intro w2 hw2
  refine Goes.adv hTT 400 rfl ?_
  have hyk:=hy 0 Y0 w w2 (by rw [hpe]; simp) (by unfold chgL; rw [if_neg hcl]; exact h0) hK0 hw2
  rw [show (partsM v.c q at' n)[0]'(by rw [hpe]; simp)=(viewAt v.c q+at',(n:Int)) from by simp only [hpe]; rfl] at hyk
  refine Goes.yield rfl hyk ?_
  rintro _ w8 ⟨rfl,hA8,hs8,Y',hK8,hY8⟩
  refine Goes.adv hTT 400 rfl ?_
  have hl1:(partsM v.c q at' n).length=1:=by rw [hpe]; rfl
  rw [hl1]
  have:=hw2.size
  exact Goes.ret0 hTT rfl Tryz.func223 rfl ⟨rfl,hA8,⟨Y',hK8,fun z hz=>(hY8 z hz).imp id (fun h=>by omega)⟩,(hw2.mono fun _ _ h=>h.elim).trans (hs8.mono fun _ _ h => .inl h)⟩
end Go.Proofs.YtnaoiegcobineaaGreatDoor
namespace Go.Proofs.YtnaoiegcobineaaGreatDoor
open Go.RowKit
def checkM (c:Conf) (q:Plc) (at' n:Int):Int:=if viewIs c q=false then 1 else if at'<0∨n<0∨viewHolds c q<n∨viewHolds c q - n<at' then 8 else 0
theorem viewHolds_bound {c:Conf} {q:Plc} (hm:mayB c=true) (hfew:q.pages.length≤4096):0≤viewHolds c q∧viewHolds c q≤16777216:=by
 obtain ⟨m1,m2,m3⟩:=mayFacts hm
 unfold viewHolds
 split
 ·rename_i hi
  split
  ·have h1:(q.pages.length:Int)*c.size≤4096*4096:=Int.mul_le_mul (by omega) (by omega) (by omega) (by omega)
   exact ⟨Int.mul_nonneg (by omega) (by omega),by omega⟩
  ·rename_i hcl
   obtain ⟨kk,pg,ix,hkk,_,_,hkl,_,g2,g3,_⟩:=is_small hm hi hcl
   rw [hkk]; omega
 ·omega
theorem ArOk.blt {w:World} {A:Ar} {V:ArV} (h:ArOk w A V):∀ b,b=A.ab∨b=A.db∨b=A.mc∨A.mb=some b→b<w.heap.size:=fun b hb=>by
 rcases hb with rfl | rfl | rfl | hb
 ·exact lt_of_heap h.obj
 ·exact lt_of_heap h.dat
 ·exact lt_of_heap h.cap
 ·exact lt_of_heap (h.met b hb).1
theorem view_each (v:Vw) (q:Plc) (at' n fk:Nat) (caps:List Value) (A:Ar) (Vs:Nat→ArV) (K:Nat→(Nat→Prop)→World→Prop) (Y0:Nat→Prop) (w:World)
 (hv:VwOk w v) (hq:PlcOk w q) (hmb:v.mb=A.mb) (hck:checkM v.c q at' n=0) (hfew:q.pages.length≤4096)
 (hPv:¬ (Y0 v.vb∨mFoot A v.vb)) (hPq:0<q.pages.length→OutA (fun z=>Y0 z∨mFoot A z) q.pa) (hPc:0<v.c.classes.length→OutA (fun z=>Y0 z∨mFoot A z) v.p.ca) (hPk:0<v.c.keep.length→OutA (fun z=>Y0 z∨mFoot A z) v.p.ka)
 (hKlt:∀ k Y w,K k Y w → ∀ z,Y z→z<w.heap.size) (hK:∀ k Y w1 w2 S,K k Y w1→Chg S w1 w2→(∀ z,S z→mFoot A z∨(¬ Y z∧w.heap.size≤z))→K k Y w2)
 (hdo:∀ k Y w0 (h:k<(partsM v.c q at' n).length),ArOk w0 A (chgL q A (Vs k))→K k Y w0 →
  Does Tryz.prog fk (.int .i64 (partsM v.c q at' n)[k].1 :: .int .i64 (partsM v.c q at' n)[k].2::caps).toArray w0 (fun _ w'=>ArOk w' A (Vs (k+1))∧Chg Y w0 w' ∧ ∃ Y',K (k+1) Y' w' ∧ ∀ z,Y' z→Y z∨w0.heap.size≤z))
 (h0:ArOk w A (Vs 0)) (hK0:K 0 Y0 w) :
 Does Tryz.prog 129 #[vwV v,.agg (plcL q).toArray,.int .i64 at',.int .i64 n,.func (.func fk) #[] caps.toArray] w
  (fun u w'=>u = .int .i64 0∧ArOk w' A (Vs (partsM v.c q at' n).length)∧(∃ Y',K (partsM v.c q at' n).length Y' w' ∧ ∀ z,Y' z→Y0 z∨w.heap.size≤z)∧Chg (fun z=>Y0 z∨mFoot A z) w w'):=by
 have hb:=viewHolds_bound (c:=v.c) (q:=q) hv.may hfew
 have hi:viewIs v.c q=true:=by
  cases hi:viewIs v.c q with
  |true=>rfl
  |false=>unfold checkM at hck; rw [if_pos hi] at hck; cases hck
 have hgood:¬ ((at':Int)<0∨(n:Int)<0∨viewHolds v.c q<n∨viewHolds v.c q - n<at'):=fun h=>by
  unfold checkM at hck; rw [if_neg (by rw [hi]; decide),if_pos h] at hck; cases hck
 refine Does.enter Tryz.func129 rfl Tryz.ntmps129 rfl rfl ?_
 refine Goes.adv hTT 400 rfl ?_
 refine Goes.alloc hTT rfl ?_
 intro qb w1 e1 hqb hw1 hz1
 refine Goes.adv hTT 400 rfl ?_
 refine Goes.alloc hTT rfl ?_
 intro db w2 e2 hdb hw2 hz2
 refine Goes.adv hTT 400 rfl ?_
 replace hqb:plcBox w1 qb q:=hqb
 have hqb2:=hw2.heap' hqb
 have hw:=hw1.trans hw2
 refine Goes.loads hTT rfl hqb2 rfl rfl ?_
 refine Goes.call rfl (view_is v q w2 (hv.grow hw) (hq.grow hw)) ?_
 rintro _ w3 ⟨rfl,hw3⟩
 refine Goes.adv hTT 400 rfl ?_
 have hwa:=hw.trans hw3
 rw [hi]
 refine Goes.no hTT rfl rfl rfl ?_
 refine Goes.no hTT rfl (decide_eq_false (by omega)) rfl ?_
 refine Goes.no hTT rfl (decide_eq_false (by omega)) rfl ?_
 refine Goes.loads hTT rfl (hw3.heap' hqb2) rfl rfl ?_
 refine Goes.call rfl (view_Holds v q w3 (hv.grow hwa) (hq.grow hwa) (by omega)) ?_
 rintro _ w4 ⟨rfl,hw4⟩
 refine Goes.adv hTT 400 rfl ?_
 have hwb:=hwa.trans hw4
 refine Goes.no hTT rfl (decide_eq_false (by omega)) rfl ?_
 refine Goes.loads hTT rfl ((hw3.trans hw4).heap' hqb2) rfl rfl ?_
 refine Goes.call rfl (view_Holds v q w4 (hv.grow hwb) (hq.grow hwb) (by omega)) ?_
 rintro _ w5 ⟨rfl,hw5⟩
 refine Goes.adv hTT 400 rfl ?_
 have hwc:=hwb.trans hw5
 refine Goes.arith hTT rfl (w64 (by omega)) rfl ?_
 refine Goes.no hTT rfl (decide_eq_false (by omega)) rfl ?_
 have hq25:=(hw3.trans hw4).trans hw5
 refine Goes.loads hTT rfl (hq25.heap' hqb2) rfl rfl ?_
 refine Goes.call rfl (view_parts v q at' n w5) ?_
 rintro _ w6 ⟨pb,vb,ab,nb,rfl,hpb,hvb,hab,hnb,bpb,bvb,bab,bnb,hw6⟩
 refine Goes.adv hTT 400 rfl ?_
 have hwd:=hwc.trans hw6
 have hdb6:=(hq25.trans hw6).heap' hdb
 have l1:=lt_of_heap bpb
 have l2:=lt_of_heap bvb
 have hsz5:=hwc.size
 have hsz6:=hwd.size
 have hldb:=lt_of_heap hdb6
 refine Goes.rangeFunc rfl rfl ⟨Tryz.f223,Tryz.func223,rfl,rfl⟩ ?_
 intro r0 B tmps w7 hr0 hB hfit hmk hlr hw7 hz7
 have hwe:=hwd.trans hw7
 have hY0w:∀ z,Y0 z→z<w.heap.size:=hKlt _ _ _ hK0
 have hmw:=h0.mlt
 have hvw:=lt_of_heap hv.obj
 have hN:∀ {x y:World} {k Y},K k Y x→Chg None' x y→K k Y y:=fun hk hc=>hK _ _ _ _ _ hk hc (fun _ h=>h.elim)
 have hr0s:r0.state = .ready:=by rw [hr0]
 have hr0r:({r0 with state := .ready,pending:=none}:Loop)=r0:=by rw [hr0]
 have hr0p:r0.pending=none:=by rw [hr0]
 refine (view_parts1 (B+1) v q at' n pb vb ab nb A Vs
  (fun k Y2 x => ∃ Y,K k Y x∧(∀ z,Y2 z↔Y z∨z=B+1)∧x.heap[B+1]? = some (.loop r0)∧x.heap[B]? = some (.deferred (some []))∧x.heap[db]? = some (.cells ([.func (.func fk) #[] caps.toArray]:List Value).toArray 132 (0,0))∧(∀ z,Y z→z≠B∧z≠B+1∧z≠db))
  (fun z=>Y0 z∨z=B+1) w7 (hv.grow hwe) (hq.grow hwe) hmb hi (by omega) hfew (hw7.heap' bpb) (hw7.heap' bvb) (hw7.heap' bab) (hw7.heap' bnb) ?_ ?_ ?_ ?_ ?_ ?_ ?_ (h0.grow hwe) ?_).mono ?_
 ·intro z hz
  rcases hz with (hz | hz) | hz
  ·have:=hY0w z hz
   exact ⟨by omega,by omega,fun e=>hPv (.inl (e▸hz))⟩
  ·exact ⟨by omega,by omega,by omega⟩
  ·have:=hmw z hz
   exact ⟨by omega,by omega,fun e=>hPv (.inr (e▸hz))⟩
 ·exact hq.rd.outNew hPq (fun z hz=>by rcases hz with (hz | hz) | hz; exact .inl (.inl hz); exact .inr (by omega); exact .inl (.inr hz))
 ·exact hv.conf.classes.outNew hPc (fun z hz=>by rcases hz with (hz | hz) | hz; exact .inl (.inl hz); exact .inr (by omega); exact .inl (.inr hz))
 ·exact hv.conf.keep.outNew hPk (fun z hz=>by rcases hz with (hz | hz) | hz; exact .inl (.inl hz); exact .inr (by omega); exact .inl (.inr hz))
 ·rintro k Y2 x ⟨Y,h1,h2,h3,h4,h5,h6⟩ z hz
  rcases (h2 z).1 hz with hz | rfl
  ·exact hKlt _ _ _ h1 z hz
  ·exact lt_of_heap h3
 ·rintro k Y2 x y ⟨Y,h1,h2,h3,h4,h5,h6⟩ hs
  exact ⟨Y,hK _ _ _ _ _ h1 hs (fun z h => .inl h),h2,hs.heap h3 (fun e=>by have:=hmw _ e; omega),hs.heap h4 (fun e=>by have:=hmw _ e; omega),hs.heap h5 (fun e=>by have:=hmw _ e; omega),h6⟩
 ·rintro k Y2 x0 x hk hA0 ⟨Y,h1,h2,h3,h4,h5,h6⟩ hx
  have hlt3:=lt_of_heap h3
  have hA:=hA0.grow hx
  have hlx3:=hx.heap' h3
  have hlx4:=hx.heap' h4
  have hlx5:=hx.heap' h5
  have hKx:=hN h1 hx
  subst hr0
  refine YDoes.enter (ps := [46,47]) hlx3 rfl rfl hfit rfl ?_
  refine Goes.adv hTT 400 rfl ?_
  refine Goes.beginRound rfl hlx3 rfl ?_
  intro x1 hl1 hs1 hz1
  refine Goes.adv hTT 400 rfl ?_
  have hKx1:K k Y x1:=hK _ _ _ _ _ hKx hs1 (fun z e => .inr ⟨fun hy=>(h6 z hy).2.1 e,by omega⟩)
  have hA1:ArOk x1 A (chgL q A (Vs k)):=hA.chg hs1 (fun b hb e=>by have:=h0.blt b hb; omega)
  refine Goes.loadb hTT rfl (hs1.heap hlx5 (by omega)) rfl rfl ?_
  refine Goes.call rfl (hdo k Y x1 hk hA1 hKx1) ?_
  rintro _ x2 ⟨hA2,hs2,Y',hK2,hY'⟩
  refine Goes.adv hTT 400 rfl ?_
  have hl2:=hs2.heap hl1 (fun hy=>(h6 _ hy).2.1 rfl)
  refine Goes.roundEnd rfl hl2 ?_
  intro x3 hl3 hs3 hz3
  have hxs:=hx.size
  have hlt4:=lt_of_heap hlx4
  have hlt5:=lt_of_heap hlx5
  have hltx3:=lt_of_heap hlx3
  have hY'6:∀ z,Y' z→z≠B∧z≠B+1∧z≠db:=fun z hz=>(hY' z hz).elim (h6 z) (fun h=>by omega)
  have hA3:ArOk x3 A (Vs (k+1)):=hA2.chg hs3 (fun b hb e=>by have:=h0.blt b hb; omega)
  have hK3:K (k+1) Y' x3:=hK _ _ _ _ _ hK2 hs3 (fun z e => .inr ⟨fun hy=>(hY'6 z hy).2.1 e,by omega⟩)
  refine ⟨_,rfl,rfl,hA3,((hs1.mono fun z _ e=>(h2 z).2 (.inr e)).trans (hs2.mono fun z _ e=>(h2 z).2 (.inl e))).trans (hs3.mono fun z _ e=>(h2 z).2 (.inr e)),fun z=>Y' z∨z=B+1,⟨Y',hK3,fun z=>Iff.rfl,hl3,hs3.heap (hs2.heap (hs1.heap hlx4 (by omega)) (fun hy=>(h6 _ hy).1 rfl)) (by omega),hs3.heap (hs2.heap (hs1.heap hlx5 (by omega)) (fun hy=>(h6 _ hy).2.2 rfl)) (by omega),hY'6⟩,fun z hz => ?_⟩
  rcases hz with hz | hz
  ·exact (hY' z hz).elim (fun h => .inl ((h2 z).2 (.inl h))) (fun h => .inr (by omega))
  ·exact .inl ((h2 z).2 (.inr hz))
 ·exact ⟨Y0,hN hK0 hwe,fun z=>Iff.rfl,hlr,hmk,hw7.heap' hdb6,fun z hz=>by have:=hY0w z hz; omega⟩
 ·rintro _ w8 ⟨rfl,hA8,⟨Y2,⟨Y,h1,h2,h3,h4,h5,h6⟩,hY2⟩,hs8⟩
  refine ⟨_,h3,by rw [hr0s]; simp,?_⟩
  intro w9 hs9 hz9
  rw [hr0p]
  refine Goes.adv hTT 400 rfl ?_
  refine Goes.retM hTT rfl Tryz.func129 (hs9.heap h4 (by omega)) (vs := [.int .i64 0]) (fun _ _ => .tmp rfl .nil) ?_
  intro w10 hs10 hz10
  have hA10:ArOk w10 A _:=(hA8.chg hs9 (fun b hb e=>by have:=h0.blt b hb; omega)).chg hs10 (fun b hb e=>by have:=h0.blt b hb; omega)
  have hK10:=hK _ _ _ _ _ (hK _ _ _ _ _ h1 hs9 (fun z e => .inr ⟨fun hy=>(h6 z hy).2.1 e,by omega⟩)) hs10 (fun z e => .inr ⟨fun hy=>(h6 z hy).1 e,by omega⟩)
  refine ⟨rfl,hA10,⟨Y,hK10,fun z hz => ?_⟩,?_⟩
  ·rcases hY2 z ((h2 z).2 (.inl hz)) with (h | h) | h
   ·exact .inl h
   ·exact .inr (by omega)
   ·exact .inr (by omega)
  ·exact ((((hwe.mono fun _ _ h=>h.elim).since hs8 (fun z hz h=>by rcases h with (h | h) | h; exact .inl h; exact absurd hz (by omega); exact .inr h))).since hs9 (fun z hz e=>absurd hz (by omega))).since hs10 (fun z hz e=>absurd hz (by omega))
end Go.Proofs.YtnaoiegcobineaaGreatDoor
namespace Go.Proofs.YtnaoiegcobineaaGreatDoor
open Go.RowKit
theorem arena_span' (A:Ar) (V:ArV) (i n:Nat) (w:World) (h:ArOk w A V) (ht:i+n≤V.bs.length):Does Tryz.prog 225 #[.pointer (some ⟨A.ab,0,none⟩),.int .i64 i,.int .i64 n] w
 (fun v w' => ∃ x,v = .tuple #[.slice x n (V.bs.length - i),.int .i64 0]∧(0<n→x=some ⟨A.db,i,none⟩)∧x.isSome=true∧w=w') :=
 (arena_span A V i n w h ht).mono fun _ _ ⟨h1,h2⟩=>⟨_,h1,fun hn=>span_addr ht hn,by unfold shiftA; split <;> rfl,h2⟩
theorem arena_Copy (A:Ar) (V:ArV) (t f n:Nat) (w:World) (h:ArOk w A V) (hf:f+n≤V.bs.length) (ht:t+n≤V.bs.length) :
 Does Tryz.prog 195 #[.pointer (some ⟨A.ab,0,none⟩),.int .i64 t,.int .i64 f,.int .i64 n] w (fun v w'=>v = .int .i64 0∧ArOk w' A {V.charge A n with bs:=wrB V.bs t (sub V.bs f n)}∧Chg (foot A) w w'):=by
 refine Does.enter Tryz.func195 rfl Tryz.ntmps195 rfl rfl ?_
 refine Goes.adv hTT 400 rfl ?_
 refine Goes.call rfl (arena_span' A V f n w h hf) ?_
 rintro _ w0 ⟨y,rfl,hy,_,rfl⟩
 refine Goes.adv hTT 400 rfl ?_
 refine Goes.no hTT rfl rfl rfl ?_
 refine Goes.call rfl (arena_charged' A V t n w h ht) ?_
 rintro _ w1 ⟨x,rfl,hx,_,h1,hs⟩
 refine Goes.adv hTT 400 rfl ?_
 have hsf:Chg (foot A) w w1:=hs.mono fun b _ hb => .inr hb
 have e1:=V.charge_bs A n
 by_cases hn:n=0
 ·refine Goes.copy0 hTT rfl (by simp [hn]) rfl ?_
  subst hn
  have hnil:sub V.bs f 0 = []:=by simp [sub]
  exact Goes.ret1 hTT rfl Tryz.func195 rfl rfl ⟨rfl,by rw [hnil,wrB_nil,← V.charge_bs A 0]; exact h1,hsf⟩
 ·have hxe:=hx (by omega)
  have hye:=hy (by omega)
  subst hxe hye
  have hr1:=h1.sub (i:=f) (n:=n) (x:=some ⟨A.db,f,none⟩) (fun _=>rfl) (by rw [e1]; exact hf)
  rw [e1] at hr1
  have hd1:=h1.dat
  rw [e1] at hd1
  have hln:=sub_length hf
  refine Goes.copy hTT rfl hd1 (cs:=(sub V.bs f n).map (Value.int .u8)) (by simp [hln]) hr1.cells (by simp [hln]; omega) plain_ints ?_
  intro w2 hd2 hs2 hz2
  refine Goes.adv hTT 400 rfl ?_
  have hmap:(V.bs.map (Value.int .u8)).take t++(sub V.bs f n).map (Value.int .u8)++(V.bs.map (Value.int .u8)).drop (t+((sub V.bs f n).map (Value.int .u8)).length)=(wrB V.bs t (sub V.bs f n)).map (Value.int .u8):=by
   unfold wrB; simp [List.map_take,List.map_drop]
  rw [hmap] at hd2
  have h2:=h1.laid hd2 hs2 (by rw [wrB_length (by rw [hln]; exact ht),e1]) (fun x hx=>(wrB_mem hx).elim (h.rng x) (fun hx=>h.rng x (List.mem_of_mem_drop (List.mem_of_mem_take hx))))
  exact Goes.ret1 hTT rfl Tryz.func195 rfl rfl ⟨rfl,h2,hsf.trans (hs2.mono fun b _ hb => .inl hb)⟩
theorem wrB_getD {bs l:List Int} {i j:Nat} (h:i+l.length≤bs.length):(wrB bs i l).getD j 0=if j<i then bs.getD j 0 else if j<i+l.length then l.getD (j - i) 0 else bs.getD j 0:=by
 unfold wrB
 simp only [List.getD_eq_getElem?_getD]
 by_cases h1:j<i
 ·rw [if_pos h1,List.append_assoc,List.getElem?_append_left (by simp; omega),List.getElem?_take,if_pos h1]
 ·rw [if_neg h1]
  by_cases h2:j<i+l.length
  ·rw [if_pos h2,List.getElem?_append_left (by simp; omega),List.getElem?_append_right (by simp; omega)]
   simp [show min i bs.length=i from by omega]
  ·rw [if_neg h2,List.getElem?_append_right (by simp; omega)]
   simp only [List.length_append,List.length_take,List.getElem?_drop,show min i bs.length=i from by omega]
   rw [show i+l.length+(j - (i+l.length))=j from by omega]
theorem ext_getD {a b:List Int} (hl:a.length=b.length) (h:∀ j,j<a.length→a.getD j 0=b.getD j 0):a=b:=by
 apply List.ext_getElem hl
 intro j h1 h2
 have:=h j h1
 simpa [List.getD,h1,h2] using this
theorem set_getD {l:List Int} {i j:Nat} {x:Int} (hi:i<l.length):(l.set i x).getD j 0=if j=i then x else l.getD j 0:=by
 simp only [List.getD_eq_getElem?_getD,List.getElem?_set]
 by_cases h:i=j
 ·subst h; simp [hi]
 ·rw [if_neg h,if_neg (Ne.symm h)]
theorem setV_one:∀ (l:List Value) (i:Nat) (v:Value),i<l.length→setV l i [v]=some (l.set i v)
 |x::r,0,v,_=>by simp [setV]
 |x::r,i+1,v,h=>by simp [setV,setV_one r i v (by simpa using h)]
theorem setV1 {l:List Int} {i:Nat} {x:Int} (hi:i<l.length):setV (l.map (Value.int .u8)) i [.int .u8 x]=some ((l.set i x).map (Value.int .u8)):=by
 rw [setV_one _ _ _ (by simpa using hi),List.map_set]
theorem wrap_u8 {z:Int}:IntKind.u8.wrap z=z % 256:=by
 simp only [IntKind.wrap,IntKind.signed,IntKind.bits]
 simp
def partW (bs:List Int) (i:Nat) (l:List Int) (k:Nat):List Int:=wrB bs i (l.take k)
theorem partW_step {bs l:List Int} {i k:Nat} (h:i+l.length≤bs.length) (hk:k<l.length):(partW bs i l k).set (i+k) (l.getD k 0)=partW bs i l (k+1):=by
 unfold partW
 have h1:(l.take k).length=k:=by simp; omega
 have h2:(l.take (k+1)).length=k+1:=by simp; omega
 have hl1:(wrB bs i (l.take k)).length=bs.length:=wrB_length (by omega)
 have hl2:(wrB bs i (l.take (k+1))).length=bs.length:=wrB_length (by omega)
 refine ext_getD (by simp [hl1,hl2]) fun j hj => ?_
 have htk:∀ m,m<k→(l.take k).getD m 0=l.getD m 0:=fun m hm=>by simp [List.getD,hm]
 have htk1:∀ m,m<k+1→(l.take (k+1)).getD m 0=l.getD m 0:=fun m hm=>by simp [List.getD,hm]
 rw [set_getD (by omega),wrB_getD (by omega),wrB_getD (by omega),h1,h2]
 by_cases e:j=i+k
 ·subst e
  rw [if_pos rfl,if_neg (by omega),if_pos (by omega),show i+k - i=k from by omega,htk1 k (by omega)]
 ·rw [if_neg e]
  by_cases h3:j<i
  ·rw [if_pos h3,if_pos h3]
  ·rw [if_neg h3,if_neg h3]
   by_cases h4:j<i+k
   ·rw [if_pos h4,if_pos (by omega),htk _ (by omega),htk1 _ (by omega)]
   ·rw [if_neg h4,if_neg (by omega)]
theorem partW_zero {bs l:List Int} {i:Nat}:partW bs i l 0=bs:=by unfold partW; simp [wrB_nil]
theorem partW_all {bs l:List Int} {i:Nat}:partW bs i l l.length=wrB bs i l:=by unfold partW; rw [List.take_length]
theorem partW_length {bs l:List Int} {i k:Nat} (h:i+l.length≤bs.length):(partW bs i l k).length=bs.length:=wrB_length (by simp; omega)
theorem partW_in {bs l:List Int} {i k:Nat} (h:InB bs) (h':InB l):InB (partW bs i l k):=fun x hx=>(wrB_mem hx).elim (h x) (fun hx=>h' x (List.mem_of_mem_take hx))
theorem or_zero {c:Int} (h:0≤c∧c<256):bitV .or .u8 0 c=c:=by
 obtain ⟨c,rfl⟩:=Int.eq_ofNat_of_zero_le h.1
 have hbv:(BitVec.ofInt 8 (0:Int) ||| BitVec.ofInt 8 (c:Int)).toNat=c:=by
  rw [BitVec.toNat_or,BitVec.toNat_ofInt,BitVec.toNat_ofInt]
  rw [show ((c:Int) % ((2 ^ 8:Nat):Int)).toNat=c from by omega]
  simp
 change IntKind.u8.wrap ((BitVec.ofInt 8 (0:Int) ||| BitVec.ofInt 8 (c:Int)).toNat:Int)=_
 rw [hbv,wrap_u8]
 omega
theorem dat_cell {w:World} {A:Ar} {V:ArV} {j:Nat} (h:ArOk w A V) (hj:j<V.bs.length):w.cell? ⟨A.db,j,none⟩=some (.int .u8 (V.bs.getD j 0)):=by
 rw [cell_of h.dat]; simp [hj]
theorem arena_Fill (A:Ar) (V:ArV) (i n:Nat) (c:Int) (w:World) (h:ArOk w A V) (ht:i+n≤V.bs.length) (hc:0≤c∧c<256) :
 Does Tryz.prog 151 #[.pointer (some ⟨A.ab,0,none⟩),.int .i64 i,.int .i64 n,.int .u8 c] w (fun v w'=>v = .int .i64 0∧ArOk w' A {V.charge A n with bs:=wrB V.bs i (List.replicate n c)}∧Chg (foot A) w w'):=by
 have hlen:=h.len
 refine Does.enter Tryz.func151 rfl Tryz.ntmps151 rfl rfl ?_
 refine Goes.adv hTT 400 rfl ?_
 refine Goes.call rfl (arena_charged' A V i n w h ht) ?_
 rintro _ w1 ⟨x,rfl,hx,_,h1,hs⟩
 refine Goes.adv hTT 400 rfl ?_
 have hsf:Chg (foot A) w w1:=hs.mono fun b _ hb => .inr hb
 have e1:=V.charge_bs A n
 by_cases hn:n=0
 ·refine Goes.clear0 hTT rfl hn rfl ?_
  refine Goes.unroll hTT rfl ?_
  refine Goes.no hTT rfl (decide_eq_false (by omega)) rfl ?_
  subst hn
  exact Goes.ret1 hTT rfl Tryz.func151 rfl rfl ⟨rfl,by rw [List.replicate_zero,wrB_nil,← V.charge_bs A 0]; exact h1,hsf⟩
 ·have hxe:=hx (by omega)
  subst hxe
  have hd1:=h1.dat
  rw [e1] at hd1
  have hr0:(List.replicate n (0:Int)).length=n:=List.length_replicate
  have hrc:(List.replicate n c).length=n:=List.length_replicate
  refine Goes.clear hTT rfl hd1 rfl rfl (by omega) (by simp; omega) ?_
  intro w2 hd2 hs2 hz2
  refine Goes.adv hTT 400 rfl ?_
  have hmap:(V.bs.map (Value.int .u8)).take i++List.replicate n (Value.int .u8 0)++(V.bs.map (Value.int .u8)).drop (i+n)=(wrB V.bs i (List.replicate n 0)).map (Value.int .u8):=by
   unfold wrB; simp [List.map_take,List.map_drop]
  rw [hmap] at hd2
  have hi0:InB (List.replicate n (0:Int)):=fun x hx=>by rw [List.eq_of_mem_replicate hx]; omega
  have hic:InB (List.replicate n c):=fun x hx=>by rw [List.eq_of_mem_replicate hx]; exact hc
  have h2:=h1.laid hd2 hs2 (by rw [wrB_length (by omega),e1]) (fun x hx=>(wrB_mem hx).elim (h.rng x) (hi0 x))
  have hs12:Chg (foot A) w w2:=hsf.trans (hs2.mono fun b _ hb => .inl hb)
  obtain ⟨b0,hb0⟩:∃ b0,b0=wrB V.bs i (List.replicate n 0):=⟨_,rfl⟩
  rw [← hb0] at h2
  have hb0l:b0.length=V.bs.length:=by rw [hb0,wrB_length (by omega)]
  have hb0i:InB b0:=fun x hx=>by rw [hb0] at hx; exact (wrB_mem hx).elim (h.rng x) (hi0 x)
  refine Goes.loop (α:=Nat) (fun k => [(3,false,.int .u8 c),(9,false,.slice (some ⟨A.db,i,none⟩) n (V.bs.length - i)),(10,false,.int .i64 0),(21,false,.int .i64 n),(22,false,.int .i64 k)])
   (fun k w'=>ArOk w' A {V.charge A n with bs:=partW b0 i (List.replicate n c) k}∧Chg (foot A) w w'∧k≤n) (fun k=>n - k) 0 ⟨rfl,rfl,rfl,rfl,rfl,trivial⟩ ⟨by rw [partW_zero]; exact h2,hs12,by omega⟩ ?_
  rintro k w3 ⟨h3,hs3,hk⟩ ih
  refine Goes.adv hTT 400 rfl ?_
  refine Goes.fork hTT rfl rfl rfl (fun h0 => ?_) (fun h0 => ?_)
  ·have hlt:k<n:=by have:=of_decide_eq_true h0; omega
   have hpl:(partW b0 i (List.replicate n c) k).length=V.bs.length:=by rw [partW_length (by omega),hb0l]
   have hv0:(partW b0 i (List.replicate n c) k).getD (i+k) 0=0:=by
    unfold partW
    rw [wrB_getD (by simp; omega),if_neg (by omega),if_neg (by simp; omega),hb0,wrB_getD (by omega),if_neg (by omega),if_pos (by omega)]
    simp [List.getD,hlt]
   have hcell:w3.cell? ⟨A.db,i+k,none⟩=some (.int .u8 0):=by rw [← hv0]; exact dat_cell (j:=i+k) h3 (by simp only [hpl]; omega)
   refine Goes.index hTT rfl (j:=k) (by omega) (by omega) (by first | rfl | omega | (simp; done) | (simp; omega)) rfl ?_
   refine Goes.load hTT rfl hcell rfl ?_
   refine Goes.bits hTT rfl (or_zero hc) rfl ?_
   refine Goes.index hTT rfl (j:=k) (by omega) (by omega) (by first | rfl | omega | (simp; done) | (simp; omega)) rfl ?_
   refine Goes.store hTT rfl h3.dat (setV1 (by simp only [hpl]; omega)) rfl ?_
   intro w4 hd4 hs4 hz4
   refine Goes.adv hTT 400 rfl ?_
   have hd4':w4.heap[A.db]? = some (.cells ((partW b0 i (List.replicate n c) (k+1)).map (Value.int .u8)).toArray 5 (0,0)):=by
    rw [← partW_step (l:=List.replicate n c) (i:=i) (bs:=b0) (k:=k) (by omega) (by omega),show (List.replicate n c).getD k 0=c from by simp [List.getD,hlt]]; exact hd4
   have h4:=h3.laid hd4' hs4 (by simp only; rw [partW_length (by omega),partW_length (by omega)]) (partW_in hb0i hic)
   refine Goes.arith hTT rfl (w64 (by omega)) rfl ?_
   exact ih (k+1) _ _ ⟨h4,hs3.trans (hs4.mono fun b _ hb => .inl hb),by omega⟩ (by omega) ⟨rfl,rfl,rfl,rfl,rfl,trivial⟩
  ·have hge:k=n:=by have:=of_decide_eq_false h0; omega
   subst hge
   have hfin:partW b0 i (List.replicate k c) k=wrB V.bs i (List.replicate k c):=by
    refine ext_getD (by rw [partW_length (by omega),wrB_length (by omega),hb0l]) fun j hj => ?_
    have hj':=hj
    unfold partW
    rw [show (List.replicate k c).take k=List.replicate k c from by simp,wrB_getD (by omega),wrB_getD (by omega),hb0,wrB_getD (by omega)]
    by_cases h5:j<i
    ·simp only [if_pos h5]
    ·simp only [if_neg h5,hrc,hr0]
     by_cases h6:j<i+k
     ·simp only [if_pos h6]
     ·simp only [if_neg h6]
   rw [hfin] at h3
   exact Goes.ret1 hTT rfl Tryz.func151 rfl rfl ⟨rfl,h3,hs3⟩
end Go.Proofs.YtnaoiegcobineaaGreatDoor
namespace Go.Proofs.YtnaoiegcobineaaGreatDoor
open Go.RowKit
theorem parts_in {c:Conf} {q:Plc} {at' n:Nat} (hm:mayB c=true) (hck:checkM c q at' n=0) (hfew:q.pages.length≤4096) :
 ∀ p ∈ partsM c q at' n,∃ i m:Nat,p=((i:Int),(m:Int))∧((i+m:Nat):Int)≤c.size*c.pages:=by
 obtain ⟨m1,m2,m3⟩:=mayFacts hm
 have hi:viewIs c q=true:=by
  cases hi:viewIs c q with
  |true=>rfl
  |false=>unfold checkM at hck; rw [if_pos hi] at hck; cases hck
 have hgood:¬ ((at':Int)<0∨(n:Int)<0∨viewHolds c q<n∨viewHolds c q - n<at'):=fun h=>by
  unfold checkM at hck; rw [if_neg (by rw [hi]; decide),if_pos h] at hck; cases hck
 intro p hp
 unfold partsM at hp
 split at hp
 ·rename_i hcl
  obtain ⟨s,hs,rfl⟩:=List.mem_map.1 hp
  obtain ⟨hpos,hpg⟩:=is_large hi hcl
  have hho:viewHolds c q=(q.pages.length:Int)*c.size:=by unfold viewHolds; rw [if_pos hi,if_pos hcl]
  obtain ⟨sz,hsz⟩:=Int.eq_ofNat_of_zero_le (show 0≤c.size by omega)
  rw [show c.size.toNat=sz from by omega] at hs
  obtain ⟨i1,i2,i3,i4⟩:=span_in (page:=sz) (by omega) n at' s hs
  have hNl:s.1<q.pages.length:=by
   have h1:(s.1*sz:Nat)<q.pages.length*sz:=by
    have:((q.pages.length*sz:Nat):Int)=(q.pages.length:Int)*c.size:=by rw [hsz]; rfl
    omega
   exact Nat.lt_of_mul_lt_mul_right h1
  have hpn:=hpg _ (show q.pages.getD s.1 0 ∈ q.pages by rw [List.getD_eq_getElem?_getD,List.getElem?_eq_getElem hNl]; exact List.getElem_mem hNl)
  obtain ⟨g,hg⟩:=Int.eq_ofNat_of_zero_le hpn.1
  refine ⟨g*sz+s.2.1,s.2.2,?_,?_⟩
  ·rw [hg,hsz]; rfl
  ·have e2:(g:Int)*c.size+c.size≤c.size*c.pages:=by
    have:((g:Int)+1)*c.size≤c.pages*c.size:=Int.mul_le_mul_of_nonneg_right (by omega) (by omega)
    rw [Int.add_mul,Int.one_mul,Int.mul_comm c.pages] at this
    exact this
   have e3:((g*sz:Nat):Int)=(g:Int)*c.size:=by rw [hsz]; rfl
   omega
 ·rename_i hcl
  simp at hp
  subst hp
  obtain ⟨kk,pg,ix,hkk,hpg,hix,hkl,g1,g2,g3,g4,g5,g6,g7⟩:=is_small hm hi hcl
  have hat:viewAt c q=(pg:Int)*c.size+(ix:Int)*clsM c kk:=by unfold viewAt; rw [if_pos ⟨hi,hcl⟩,hkk,hpg,hix]
  have hho:viewHolds c q=clsM c kk:=by unfold viewHolds; rw [if_pos hi,if_neg hcl,hkk]
  obtain ⟨a,ha⟩:=Int.eq_ofNat_of_zero_le (show 0≤viewAt c q by omega)
  exact ⟨a+at',n,by rw [ha]; rfl,by omega⟩
def vsT (q:Plc) (A:Ar) (V:ArV) (ps:List (Int × Int)):Nat→ArV
 |0=>V
 |k+1=>(chgL q A (vsT q A V ps k)).charge A (ps.getD k (0,0)).2
theorem chgL_bs (q:Plc) (A:Ar) (V:ArV):(chgL q A V).bs=V.bs:=by unfold chgL; split; exact V.charge_bs A 1; rfl
theorem vsT_bs (q:Plc) (A:Ar) (V:ArV) (ps:List (Int × Int)):∀ k,(vsT q A V ps k).bs=V.bs
 |0=>rfl
 |k+1=>by unfold vsT; rw [ArV.charge_bs,chgL_bs,vsT_bs q A V ps k]
def readM (bs:List Int) (ps:List (Int × Int)):List Int:=ps.flatMap fun p=>sub bs p.1.toNat p.2.toNat
theorem view_Read1 (v:Vw) (vb ob:Nat) (A:Ar) (V:ArV) (i m base j:Nat) (u:Value) (xs:List Int) (w:World) (hvb:ptrBox w vb v) (hv:w.heap[v.vb]? = some (.cells (vwL v).toArray 157 (0,0))) (hab:v.ab=A.ab)
 (hob:w.heap[ob]? = some (.cells ([u]:List Value).toArray 36 (0,0))) (hown:Own base 5 1 w u j (xs.map (Value.int .u8))) (hbase:base≤w.heap.size) (hobb:ob<base) (hA:ArOk w A V) (him:i+m≤V.bs.length) (hj:j+m≤16777216)
 (hmo:∀ z,mFoot A z→z≠ob∧z<base) (hArow:∀ b,b=A.ab∨b=A.db∨b=A.mc∨A.mb=some b→some b=u.ownBlock→False) (hAob:∀ b,b=A.ab∨b=A.db∨b=A.mc∨A.mb=some b→b=ob→False) :
 Does Tryz.prog 130 #[.int .i64 i,.int .i64 m,.pointer (some ⟨vb,0,none⟩),.pointer (some ⟨ob,0,none⟩)] w (fun _ w'=>ArOk w' A (V.charge A m)∧Chg (fun z=>z=ob∨some z=u.ownBlock∨mFoot A z) w w' ∧
  ∃ u',w'.heap[ob]? = some (.cells ([u']:List Value).toArray 36 (0,0))∧Own base 5 1 w' u' (j+m) ((xs++sub V.bs i m).map (Value.int .u8)) ∧ ∀ z,some z=u'.ownBlock→some z=u.ownBlock∨w.heap.size≤z):=by
 have hml:maxLen=9223372036854775807:=rfl
 refine Does.enter Tryz.func130 rfl Tryz.ntmps130 rfl rfl ?_
 refine Goes.adv hTT 400 rfl ?_
 refine Goes.loadb hTT rfl hvb rfl rfl ?_
 refine Goes.loadb hTT rfl hv rfl rfl ?_
 rw [hab]
 refine Goes.call rfl (arena_Read A V i m w hA him) ?_
 rintro _ w1 ⟨v1,rfl,⟨g,cap,cur,rfl,hg,hgh,hgc,hgt⟩,hA1,hs1⟩
 refine Goes.adv hTT 400 rfl ?_
 have hsl:(sub V.bs i m).length=m:=sub_length him
 have hob1:=hs1.heap hob (fun e=>(hmo _ e).1 rfl)
 have ho1:=hown.chg hs1 (fun b hb e=>by have:=(World.ownsRow.lt hown b hb.symm).1; have:=(hmo _ e).2; omega)
 rw [hsl] at hgc hgt ⊢
 have hsz1:=hs1.size
 refine Goes.loadb hTT rfl hob1 rfl rfl ?_
 have hnews:∀ k x,((sub V.bs i m).map (Value.int .u8))[k]? = some x→w1.cell? ((⟨g,0,none⟩:Addr).add k)=some x:=fun k x hx=>by
  rw [add_off,cell_of hgh]
  have hk:k<m:=by have:=(List.getElem?_eq_some_iff.1 hx).1; simpa [hsl] using this
  rw [← hgt,List.getElem?_take,if_pos hk] at hx
  simpa using hx
 refine Goes.append (base:=base) (news:=(sub V.bs i m).map (Value.int .u8)) hTT rfl ho1 (by omega) (by simp [hsl]) hnews plain_ints (by simp only; omega) ?_
 intro v2 w2 ho2 hs2 hv2
 rcases ho2.2 with ⟨hv2e,hz2⟩ | ⟨g2,cap2,cur2,hv2e,_⟩
 ·subst hv2e
  refine Goes.adv hTT 400 rfl ?_
  have hob2:=hs2.heap hob1 (fun e=>by have:=(World.ownsRow.lt ho1 _ e.symm).1; omega)
  refine Goes.store hTT rfl hob2 rfl rfl ?_
  intro w3 hob3 hs3 hz3
  refine Goes.adv hTT 400 rfl ?_
  have ho3:=ho2.chg hs3 (fun b hb e=>by have:=(World.ownsRow.lt ho2 b hb.symm).1; omega)
  have hA2:ArOk w3 A (V.charge A m):=(hA1.chg hs2 (fun b hb e=>hArow b hb e)).chg hs3 (fun b hb e=>hAob b hb e)
  have hc:Chg (fun z=>z=ob∨some z=u.ownBlock∨mFoot A z) w w3:=((hs1.mono fun z _ h => .inr (.inr h)).trans (hs2.mono fun z _ h => .inr (.inl h))).trans (hs3.mono fun z _ h => .inl h)
  exact Goes.ret0 hTT rfl Tryz.func130 rfl ⟨hA2,hc,_,hob3,by rw [List.map_append]; exact ho3,fun z hz=>by rcases hv2.2 with h | h; exact .inl (hz.trans h); exact .inr (by rw [h] at hz; cases hz; omega)⟩
 ·subst hv2e
  refine Goes.adv hTT 400 rfl ?_
  have hob2:=hs2.heap hob1 (fun e=>by have:=(World.ownsRow.lt ho1 _ e.symm).1; omega)
  refine Goes.store hTT rfl hob2 rfl rfl ?_
  intro w3 hob3 hs3 hz3
  refine Goes.adv hTT 400 rfl ?_
  have ho3:=ho2.chg hs3 (fun b hb e=>by have:=(World.ownsRow.lt ho2 b hb.symm).1; omega)
  have hA2:ArOk w3 A (V.charge A m):=(hA1.chg hs2 (fun b hb e=>hArow b hb e)).chg hs3 (fun b hb e=>hAob b hb e)
  have hc:Chg (fun z=>z=ob∨some z=u.ownBlock∨mFoot A z) w w3:=((hs1.mono fun z _ h => .inr (.inr h)).trans (hs2.mono fun z _ h => .inr (.inl h))).trans (hs3.mono fun z _ h => .inl h)
  exact Goes.ret0 hTT rfl Tryz.func130 rfl ⟨hA2,hc,_,hob3,by rw [List.map_append]; exact ho3,fun z hz=>by rcases hv2.2 with h | h; exact .inl (hz.trans h); exact .inr (by rw [h] at hz; cases hz; omega)⟩
end Go.Proofs.YtnaoiegcobineaaGreatDoor
namespace Go.Proofs.YtnaoiegcobineaaGreatDoor
open Go.RowKit
theorem spansM_sum {page:Nat} (hp:1≤page):∀ (n at':Nat),((spansM at' n page).map fun s=>s.2.2).sum=n:=by
 intro n
 induction n using Nat.strongRecOn with
 |_ n ih =>
  intro at'
  by_cases hn:n=0
  ·subst hn; rfl
  ·have hpos:=headS_pos (at':=at') hp (show 0<n by omega)
   rw [spansM_cons hp (by omega),List.map_cons,List.sum_cons,ih _ (by omega)]
   unfold headS
   simp only
   omega
def totalM (ps:List (Int × Int)):Nat:=(ps.map fun p=>p.2.toNat).sum
theorem totalM_cons (p:Int × Int) (ps:List (Int × Int)):totalM (p::ps)=p.2.toNat+totalM ps:=by simp [totalM]
theorem totalM_append (a b:List (Int × Int)):totalM (a++b)=totalM a+totalM b:=by simp [totalM]
theorem parts_total {c:Conf} {q:Plc} {at' n:Nat} (hm:mayB c=true):totalM (partsM c q at' n)=n:=by
 obtain ⟨m1,m2,m3⟩:=mayFacts hm
 unfold partsM
 split
 ·unfold totalM
  rw [List.map_map]
  have:=spansM_sum (page:=c.size.toNat) (by omega) n at'
  exact this
 ·simp [totalM]
theorem totalM_take {ps:List (Int × Int)} {k:Nat} (h:k<ps.length):totalM (ps.take k)+ps[k].2.toNat≤totalM ps:=by
 have e:ps=ps.take k++ps[k]::ps.drop (k+1):=by rw [← List.drop_eq_getElem_cons h,List.take_append_drop]
 have e2:totalM ps=totalM (ps.take k)+(ps[k].2.toNat+totalM (ps.drop (k+1))):=by
  conv=>lhs; rw [e]
  rw [totalM_append,totalM_cons]
 omega
theorem readM_length {bs:List Int} {N:Nat} (hN:bs.length=N):∀ {ps:List (Int × Int)},(∀ p ∈ ps,∃ i m:Nat,p=((i:Int),(m:Int))∧i+m≤N)→(readM bs ps).length=totalM ps
 |[],_=>rfl
 |p::r,h=>by
  obtain ⟨i,m,rfl,him⟩:=h p List.mem_cons_self
  rw [totalM_cons]
  unfold readM
  rw [List.flatMap_cons,List.length_append]
  have:=readM_length hN (ps:=r) (fun p hp=>h p (List.mem_cons_of_mem _ hp))
  unfold readM at this
  rw [this]
  simp only [Int.toNat_natCast]
  rw [sub_length (by omega)]
theorem vsT_succ {q:Plc} {A:Ar} {V:ArV} {ps:List (Int × Int)} {k:Nat} (h:k<ps.length):vsT q A V ps (k+1)=(chgL q A (vsT q A V ps k)).charge A ps[k].2:=by
 show (chgL q A (vsT q A V ps k)).charge A (ps.getD k (0,0)).2=_
 rw [List.getD_eq_getElem?_getD,List.getElem?_eq_getElem h]; rfl
theorem view_Read (v:Vw) (q:Plc) (at' n:Nat) (A:Ar) (V:ArV) (w:World) (hv:VwOk w v) (hq:PlcOk w q) (hmb:v.mb=A.mb) (hab:v.ab=A.ab) (hck:checkM v.c q at' n=0) (hfew:q.pages.length≤4096)
 (hPv:¬ mFoot A v.vb) (hPq:0<q.pages.length→OutA (mFoot A) q.pa) (hPc:0<v.c.classes.length→OutA (mFoot A) v.p.ca) (hPk:0<v.c.keep.length→OutA (mFoot A) v.p.ka) (hA:ArOk w A V) (hlen:(V.bs.length:Int)=v.c.size*v.c.pages) :
 Does Tryz.prog 72 #[vwV v,.agg (plcL q).toArray,.int .i64 at',.int .i64 n] w (fun u w' => ∃ u1,u = .tuple #[u1,.int .i64 0]∧ArOk w' A (vsT q A V (partsM v.c q at' n) (partsM v.c q at' n).length)∧Chg (mFoot A) w w' ∧
  Own w.heap.size 5 1 w' u1 (readM V.bs (partsM v.c q at' n)).length ((readM V.bs (partsM v.c q at' n)).map (Value.int .u8))):=by
 obtain ⟨ps,hps⟩:∃ ps,ps=partsM v.c q at' n:=⟨_,rfl⟩
 have hpin:∀ p ∈ ps,∃ i m:Nat,p=((i:Int),(m:Int))∧i+m≤V.bs.length:=fun p hp=>by
  obtain ⟨i,m,h1,h2⟩:=parts_in hv.may hck hfew p (hps▸hp)
  exact ⟨i,m,h1,by omega⟩
 have htot:totalM ps=n:=by rw [hps]; exact parts_total hv.may
 have hhb:=viewHolds_bound (c:=v.c) (q:=q) hv.may hfew
 have hn:n≤16777216:=by
  unfold checkM at hck
  split at hck
  ·cases hck
  ·split at hck
   ·cases hck
   ·omega
 rw [← hps]
 refine Does.enter Tryz.func72 rfl Tryz.ntmps72 rfl rfl ?_
 refine Goes.adv hTT 400 rfl ?_
 refine Goes.alloc hTT rfl ?_
 intro vb w1 e1 hvb hw1 hz1
 refine Goes.adv hTT 400 rfl ?_
 refine Goes.alloc hTT rfl ?_
 intro qb w2 e2 hqb hw2 hz2
 refine Goes.adv hTT 400 rfl ?_
 refine Goes.alloc hTT rfl ?_
 intro ob w3 e3 hob hw3 hz3
 refine Goes.adv hTT 400 rfl ?_
 replace hqb:plcBox w2 qb q:=hqb
 have hw:=(hw1.trans hw2).trans hw3
 have hvb3:ptrBox w3 vb v:=(hw2.trans hw3).heap' hvb
 refine Goes.loadb hTT rfl hvb3 rfl rfl ?_
 refine Goes.loads hTT rfl (hw3.heap' hqb) rfl rfl ?_
 have hmlt:=hA.mlt
 have hvl:=lt_of_heap hv.obj
 have hE:=view_each v q at' n 130 [.pointer (some ⟨vb,0,none⟩),.pointer (some ⟨ob,0,none⟩)] A (vsT q A V ps)
  (fun k Y x => ∃ u,x.heap[ob]? = some (.cells ([u]:List Value).toArray 36 (0,0))∧Own w3.heap.size 5 1 x u (readM V.bs (ps.take k)).length ((readM V.bs (ps.take k)).map (Value.int .u8)) ∧
   (∀ z,Y z↔z=ob∨some z=u.ownBlock∨mFoot A z)∧ptrBox x vb v∧x.heap[v.vb]? = some (.cells (vwL v).toArray 157 (0,0))∧w3.heap.size≤x.heap.size)
  (fun z=>z=ob∨mFoot A z) w3 (hv.grow hw) (hq.grow hw) hmb hck hfew
  (by rintro ((h | h) | h); omega; exact hPv h; exact hPv h)
  (hq.rd.outNew hPq (fun z hz=>by rcases hz with (h | h) | h; exact .inr (by omega); exact .inl h; exact .inl h))
  (hv.conf.classes.outNew hPc (fun z hz=>by rcases hz with (h | h) | h; exact .inr (by omega); exact .inl h; exact .inl h))
  (hv.conf.keep.outNew hPk (fun z hz=>by rcases hz with (h | h) | h; exact .inr (by omega); exact .inl h; exact .inl h))
  (by
   rintro k Y x ⟨u,h1,h2,h3,h4,h5,h6⟩ z hz
   rcases (h3 z).1 hz with rfl | h | h
   ·exact lt_of_heap h1
   ·exact (World.ownsRow.lt h2 z h.symm).2
   ·have:=hmlt z h; omega)
  (by
   rintro k Y x y S ⟨u,h1,h2,h3,h4,h5,h6⟩ hs hS
   have no:∀ z,z<w3.heap.size → ¬ mFoot A z → ¬ S z:=fun z hz hm h=>(hS z h).elim hm (fun h=>by omega)
   exact ⟨u,hs.heap h1 (no _ (by omega) (fun h=>by have:=hmlt _ h; omega)),h2.chg hs (fun b hb h=>by
    have hbb:=World.ownsRow.lt h2 b hb.symm
    rcases hS b h with hm | hm
    ·have:=hmlt b hm; omega
    ·exact hm.1 ((h3 b).2 (.inr (.inl hb)))),h3,hs.heap h4 (no _ (by omega) (fun h=>by have:=hmlt _ h; omega)),hs.heap h5 (no _ (by omega) hPv),Nat.le_trans h6 hs.size⟩)
  (by
   rintro k Y x hk hAx ⟨u,h1,h2,h3,h4,h5,h6⟩
   rw [← hps] at hk
   obtain ⟨i,m,hp,him⟩:=hpin ps[k] (List.getElem_mem hk)
   have hbs:(chgL q A (vsT q A V ps k)).bs=V.bs:=by rw [chgL_bs,vsT_bs]
   have hrl:(readM V.bs (ps.take k)).length=totalM (ps.take k):=readM_length rfl (fun p hp=>hpin p (List.mem_of_mem_take hp))
   have htk:=totalM_take hk
   rw [hp] at htk
   simp only [Int.toNat_natCast] at htk
   have hAb:∀ b,b=A.ab∨b=A.db∨b=A.mc∨A.mb=some b→b<w.heap.size:=hA.blt
   have hR:=view_Read1 v vb ob A (chgL q A (vsT q A V ps k)) i m w3.heap.size (readM V.bs (ps.take k)).length u (readM V.bs (ps.take k)) x h4 h5 hab h1 h2 h6 (by omega) hAx (by rw [hbs]; exact him) (by omega)
    (fun z hz=>by have:=hmlt z hz; omega) (fun b hb e=>by have:=hAb b hb; have:=(World.ownsRow.lt h2 b e.symm).1; omega) (fun b hb e=>by have:=hAb b hb; omega)
   simp only [← hps]
   rw [hp]
   refine hR.mono fun _ y ⟨a1,a2,u',a3,a4,a5⟩ => ?_
   rw [hbs] at a4
   have htake:readM V.bs (ps.take (k+1))=readM V.bs (ps.take k)++sub V.bs i m:=by
    rw [List.take_add_one,List.getElem?_eq_getElem hk,hp]
    unfold readM
    rw [List.flatMap_append]
    simp
   refine ⟨by rw [vsT_succ hk,hp]; exact a1,a2.mono fun z _ hz=>(h3 z).2 hz,fun z=>z=ob∨some z=u'.ownBlock∨mFoot A z,⟨u',a3,?_,fun z=>Iff.rfl,?_,?_,Nat.le_trans h6 a2.size⟩,fun z hz => ?_⟩
   ·rw [htake,List.length_append,sub_length him]
    exact a4
   ·exact a2.heap h4 (fun h=>by rcases h with h | h | h; omega; have:=(World.ownsRow.lt h2 _ h.symm).1; omega; have:=hmlt _ h; omega)
   ·exact a2.heap h5 (fun h=>by rcases h with h | h | h; omega; have:=(World.ownsRow.lt h2 _ h.symm).1; omega; exact hPv h)
   ·rcases hz with h | h | h
    ·exact .inl ((h3 z).2 (.inl h))
    ·rcases a5 z h with h | h
     ·exact .inl ((h3 z).2 (.inr (.inl h)))
     ·exact .inr h
    ·exact .inl ((h3 z).2 (.inr (.inr h))))
  (hA.grow hw) ⟨.slice none 0 0,hob,World.ownsRow_nil _ _ _ _,fun z=>⟨fun h=>h.elim .inl (fun h => .inr (.inr h)),fun h=>by rcases h with h | h | h; exact .inl h; cases h; exact .inr h⟩,hvb3,hw.heap' hv.obj,Nat.le_refl _⟩
 rw [← hps] at hE
 refine Goes.call rfl (hE) ?_
 rintro _ w4 ⟨rfl,hA4,⟨Y',⟨u,h1,h2,h3,h4,h5,h6⟩,hY'⟩,hs4⟩
 refine Goes.adv hTT 400 rfl ?_
 rw [List.take_length] at h2
 have hch:Chg (mFoot A) w w4:=(hw.mono fun _ _ h=>h.elim).since hs4 (fun z hz h=>by rcases h with (h | h) | h; omega; exact h; exact h)
 have ho:Own w.heap.size 5 1 w4 u (readM V.bs ps).length ((readM V.bs ps).map (Value.int .u8)):=by
  refine ⟨h2.1,?_⟩
  rcases h2.2 with h | ⟨g,cap,cur,a1,a2,a3⟩
  ·exact .inl h
  ·exact .inr ⟨g,cap,cur,a1,by omega,a3⟩
 refine Goes.loadb hTT rfl h1 rfl rfl ?_
 exact Goes.ret2 hTT rfl Tryz.func72 rfl rfl rfl ⟨u,rfl,hA4,hch,ho⟩
end Go.Proofs.YtnaoiegcobineaaGreatDoor
namespace Go.Proofs.YtnaoiegcobineaaGreatDoor
open Go.RowKit
def vsW (q:Plc) (A:Ar) (V:ArV) (ps:List (Int × Int)) (l:List Int):Nat→ArV
 |0=>V
 |k+1=>{(chgL q A (vsW q A V ps l k)).charge A (ps.getD k (0,0)).2 with bs:=wrB (vsW q A V ps l k).bs (ps.getD k (0,0)).1.toNat (sub l (totalM (ps.take k)) (ps.getD k (0,0)).2.toNat)}
theorem vsW_succ {q:Plc} {A:Ar} {V:ArV} {ps:List (Int × Int)} {l:List Int} {k i m:Nat} (h:k<ps.length) (hp:ps[k]=((i:Int),(m:Int))) :
 vsW q A V ps l (k+1)={(chgL q A (vsW q A V ps l k)).charge A m with bs:=wrB (vsW q A V ps l k).bs i (sub l (totalM (ps.take k)) m)}:=by
 have hg:ps.getD k (0,0)=((i:Int),(m:Int)):=by rw [List.getD_eq_getElem?_getD,List.getElem?_eq_getElem h,hp]; rfl
 show ({(chgL q A (vsW q A V ps l k)).charge A (ps.getD k (0,0)).2 with bs:=wrB (vsW q A V ps l k).bs (ps.getD k (0,0)).1.toNat (sub l (totalM (ps.take k)) (ps.getD k (0,0)).2.toNat)}:ArV)=_
 rw [hg]
 rfl
theorem vsW_len {q:Plc} {A:Ar} {V:ArV} {ps:List (Int × Int)} {l:List Int} (hpin:∀ p ∈ ps,∃ i m:Nat,p=((i:Int),(m:Int))∧i+m≤V.bs.length) (htot:totalM ps=l.length):∀ {k:Nat},k≤ps.length→(vsW q A V ps l k).bs.length=V.bs.length
 |0,_=>rfl
 |k+1,h=>by
  obtain ⟨i,m,hp,him⟩:=hpin ps[k] (List.getElem_mem h)
  have ih:=vsW_len (q:=q) (A:=A) hpin htot (k:=k) (by omega)
  have htk:=totalM_take h
  rw [hp] at htk
  simp only [Int.toNat_natCast] at htk
  rw [vsW_succ h hp]
  show (wrB _ _ _).length=_
  rw [wrB_length (by rw [sub_length (by omega),ih]; exact him),ih]
theorem shiftA_out {S:Nat→Prop} {a:Option Addr} {cap l sz:Nat} (h:OutA S a):OutA S (shiftA a cap l sz):=by
 intro b off s e
 unfold shiftA at e
 by_cases hc:cap=l
 ·rw [if_pos hc] at e; exact h b off s e
 ·rw [if_neg hc] at e
  cases a with
  |none=>cases e
  |some x =>
   obtain ⟨xb,xo,xs⟩:=x
   have hx:=h xb xo xs rfl
   simp only [Option.map_some,Option.some.injEq] at e
   unfold Addr.add at e
   have hb:xb=b:=by
    split at e <;> (cases e; rfl)
   rw [← hb]; exact hx
theorem view_Write1 (v:Vw) (vb bb:Nat) (A:Ar) (V:ArV) (i m:Nat) (a:Option Addr) (cap:Nat) (l:List Int) (w:World) (hvb:ptrBox w vb v) (hv:w.heap[v.vb]? = some (.cells (vwL v).toArray 157 (0,0))) (hab:v.ab=A.ab)
 (hbb:w.heap[bb]? = some (.cells ([.slice a l.length cap]:List Value).toArray 36 (0,0))) (hr:Rd .u8 w a l) (hlc:l.length≤cap) (hin:InB l) (hm:m≤l.length) (hA:ArOk w A V) (him:i+m≤V.bs.length)
 (hfo:∀ z,foot A z→z≠bb) (hAb:∀ b,b=A.ab∨b=A.db∨b=A.mc∨A.mb=some b→b≠bb) (S:Nat→Prop) (hS:∀ z,z=bb∨foot A z→S z) (hout:0<l.length→OutA S a) :
 Does Tryz.prog 153 #[.int .i64 i,.int .i64 m,.pointer (some ⟨vb,0,none⟩),.pointer (some ⟨bb,0,none⟩)] w (fun _ w'=>ArOk w' A {V.charge A m with bs:=wrB V.bs i (l.take m)}∧Chg (fun z=>z=bb∨foot A z) w w' ∧
  ∃ a' cap',w'.heap[bb]? = some (.cells ([.slice a' (l.drop m).length cap']:List Value).toArray 36 (0,0))∧Rd .u8 w' a' (l.drop m)∧(l.drop m).length≤cap'∧(0<(l.drop m).length→OutA S a')):=by
 have htl:(l.take m).length=m:=by simp; omega
 refine Does.enter Tryz.func153 rfl Tryz.ntmps153 rfl rfl ?_
 refine Goes.adv hTT 400 rfl ?_
 refine Goes.drawn (q:=8) None' hTT mixed (by kernel_rfl) rfl ?_
 intro hB
 refine Drawn.loadb hTT hB rfl hvb (by first | exact fun h=>h | (intro h; omega) | assumption) rfl rfl ?_
 refine Drawn.loadb hTT hB rfl hv (by first | exact fun h=>h | (intro h; omega) | assumption) rfl rfl ?_
 refine Drawn.loadb hTT hB rfl hbb (by first | exact fun h=>h | (intro h; omega) | assumption) rfl rfl ?_
 refine Drawn.slice hTT hB rfl (l:=0) (h:=m) (by first | rfl | omega | simp [loV]) (by first | rfl | omega | simp [hiV]) (by omega) (by omega) rfl ?_
 refine Drawn.nil hB ?_
 intro w1 hw1
 refine Goes.adv hTT 400 rfl ?_
 rw [hab]
 have hr1:=hr.chg hw1
 have hsh:=hr1.shift (l:=0) (m:=m) (by omega) hlc
 rw [List.drop_zero] at hsh
 have hW:=arena_Write A V i (shiftA a cap 0 1) (cap - 0) (l.take m) w1 (hA.grow hw1) hsh (fun x hx=>hin x (List.mem_of_mem_take hx)) (by rw [htl]; exact him)
 rw [htl] at hW
 refine Goes.call rfl hW ?_
 rintro _ w2 ⟨rfl,hA2,hs2⟩
 refine Goes.adv hTT 400 rfl ?_
 have hbb2:=hs2.heap (hw1.heap' hbb) (fun e=>hfo _ e rfl)
 refine Goes.loadb hTT rfl hbb2 rfl rfl ?_
 refine Goes.slice hTT rfl (l:=m) (h:=l.length) (by first | rfl | omega | simp [loV]) (by first | rfl | omega | simp [hiV]) (by omega) (by omega) rfl ?_
 refine Goes.store hTT rfl hbb2 rfl rfl ?_
 intro w3 hbb3 hs3 hz3
 refine Goes.adv hTT 400 rfl ?_
 have hdl:(l.drop m).length=l.length - m:=by simp
 have hc:Chg (fun z=>z=bb∨foot A z) w w3:=((hw1.mono fun _ _ h=>h.elim).trans (hs2.mono fun _ _ h => .inr h)).trans (hs3.mono fun _ _ h => .inl h)
 have hr3:Rd .u8 w3 a l:=hr.far' hout (hc.mono fun z _ h=>hS z h)
 have hrd:=hr3.shift (l:=m) (m:=l.length - m) (by omega) hlc
 rw [List.take_of_length_le (by rw [hdl]; exact Nat.le_refl _)] at hrd
 exact Goes.ret0 hTT rfl Tryz.func153 rfl ⟨hA2.chg hs3 (fun b hb e=>hAb b hb e),hc,_,_,by rw [hdl]; exact hbb3,hrd,by rw [hdl]; omega,fun h=>shiftA_out (hout (by omega))⟩
end Go.Proofs.YtnaoiegcobineaaGreatDoor
namespace Go.Proofs.YtnaoiegcobineaaGreatDoor
open Go.RowKit
theorem foot_lt {w:World} {A:Ar} {V:ArV} (h:ArOk w A V):∀ z,foot A z→z<w.heap.size:=fun z hz=>h.blt z (hz.elim (fun e => .inr (.inl e)) (fun e => .inr (.inr (.inr e))))
theorem view_Write (v:Vw) (q:Plc) (at':Nat) (a:Option Addr) (cap:Nat) (l:List Int) (A:Ar) (V:ArV) (w:World) (hv:VwOk w v) (hq:PlcOk w q) (hmb:v.mb=A.mb) (hab:v.ab=A.ab) (hck:checkM v.c q at' l.length=0) (hfew:q.pages.length≤4096)
 (hPv:¬ foot A v.vb) (hPq:0<q.pages.length→OutA (foot A) q.pa) (hPc:0<v.c.classes.length→OutA (foot A) v.p.ca) (hPk:0<v.c.keep.length→OutA (foot A) v.p.ka) (hA:ArOk w A V) (hlen:(V.bs.length:Int)=v.c.size*v.c.pages)
 (hr:Rd .u8 w a l) (hlc:l.length≤cap) (hin:InB l) (hout:0<l.length→OutA (foot A) a) :
 Does Tryz.prog 90 #[vwV v,.agg (plcL q).toArray,.int .i64 at',.slice a l.length cap] w (fun u w'=>u = .int .i64 0∧ArOk w' A (vsW q A V (partsM v.c q at' l.length) l (partsM v.c q at' l.length).length)∧Chg (foot A) w w'):=by
 obtain ⟨ps,hps⟩:∃ ps,ps=partsM v.c q at' l.length:=⟨_,rfl⟩
 have hpin:∀ p ∈ ps,∃ i m:Nat,p=((i:Int),(m:Int))∧i+m≤V.bs.length:=fun p hp=>by
  obtain ⟨i,m,h1,h2⟩:=parts_in hv.may hck hfew p (hps▸hp)
  exact ⟨i,m,h1,by omega⟩
 have htot:totalM ps=l.length:=by rw [hps]; exact parts_total hv.may
 rw [← hps]
 refine Does.enter Tryz.func90 rfl Tryz.ntmps90 rfl rfl ?_
 refine Goes.adv hTT 400 rfl ?_
 refine Goes.alloc hTT rfl ?_
 intro vb w1 e1 hvb hw1 hz1
 refine Goes.adv hTT 400 rfl ?_
 refine Goes.alloc hTT rfl ?_
 intro qb w2 e2 hqb hw2 hz2
 refine Goes.adv hTT 400 rfl ?_
 refine Goes.alloc hTT rfl ?_
 intro bb w3 e3 hbb hw3 hz3
 refine Goes.adv hTT 400 rfl ?_
 replace hqb:plcBox w2 qb q:=hqb
 replace hbb:w3.heap[bb]? = some (.cells ([.slice a l.length cap]:List Value).toArray 36 (0,0)):=hbb
 have hw:=(hw1.trans hw2).trans hw3
 have hvb3:ptrBox w3 vb v:=(hw2.trans hw3).heap' hvb
 refine Goes.loadb hTT rfl hvb3 rfl rfl ?_
 refine Goes.loads hTT rfl (hw3.heap' hqb) rfl rfl ?_
 refine Goes.loadb hTT rfl hbb rfl rfl ?_
 have hflt:=foot_lt hA
 have hmf:∀ z,mFoot A z→foot A z:=fun z h => .inr h
 have hvl:=lt_of_heap hv.obj
 have hbl:=hA.blt
 have hE:=view_each v q at' l.length 153 [.pointer (some ⟨vb,0,none⟩),.pointer (some ⟨bb,0,none⟩)] A (vsW q A V ps l)
  (fun k Y x => ∃ a' cap',x.heap[bb]? = some (.cells ([.slice a' (l.drop (totalM (ps.take k))).length cap']:List Value).toArray 36 (0,0))∧Rd .u8 x a' (l.drop (totalM (ps.take k)))∧(l.drop (totalM (ps.take k))).length≤cap' ∧
   (0<(l.drop (totalM (ps.take k))).length→OutA (fun z=>z=bb∨foot A z∨w3.heap.size≤z) a')∧(∀ z,Y z↔z=bb∨foot A z)∧ptrBox x vb v∧x.heap[v.vb]? = some (.cells (vwL v).toArray 157 (0,0))∧w3.heap.size≤x.heap.size)
  (fun z=>z=bb∨foot A z) w3 (hv.grow hw) (hq.grow hw) hmb hck hfew
  (by rintro ((h | h) | h); omega; exact hPv h; exact hPv (hmf _ h))
  (hq.rd.outNew hPq (fun z hz=>by rcases hz with (h | h) | h; exact .inr (by omega); exact .inl h; exact .inl (hmf _ h)))
  (hv.conf.classes.outNew hPc (fun z hz=>by rcases hz with (h | h) | h; exact .inr (by omega); exact .inl h; exact .inl (hmf _ h)))
  (hv.conf.keep.outNew hPk (fun z hz=>by rcases hz with (h | h) | h; exact .inr (by omega); exact .inl h; exact .inl (hmf _ h)))
  (by
   rintro k Y x ⟨a',cap',h1,h2,h3,h4,h5,h6,h7,h8⟩ z hz
   rcases (h5 z).1 hz with rfl | h
   ·exact lt_of_heap h1
   ·have:=hflt z h; omega)
  (by
   rintro k Y x y S ⟨a',cap',h1,h2,h3,h4,h5,h6,h7,h8⟩ hs hS
   have no:∀ z,z<w3.heap.size → ¬ mFoot A z → ¬ S z:=fun z hz hm h=>(hS z h).elim hm (fun h=>by omega)
   refine ⟨a',cap',hs.heap h1 (no _ (by omega) (fun h=>by have:=hflt _ (hmf _ h); omega)),h2.far' (fun hl b off s e hb=>h4 hl b off s e ((hS b hb).elim (fun h => .inr (.inl (hmf _ h))) (fun h => .inr (.inr h.2)))) hs,h3,h4,h5,hs.heap h6 (no _ (by omega) (fun h=>by have:=hflt _ (hmf _ h); omega)),hs.heap h7 (no _ (by omega) (fun h=>hPv (hmf _ h))),Nat.le_trans h8 hs.size⟩)
  (by
   rintro k Y x hk hAx ⟨a',cap',h1,h2,h3,h4,h5,h6,h7,h8⟩
   rw [← hps] at hk
   obtain ⟨i,m,hp,him⟩:=hpin ps[k] (List.getElem_mem hk)
   have hbs:(chgL q A (vsW q A V ps l k)).bs=(vsW q A V ps l k).bs:=chgL_bs _ _ _
   have hbl2:(vsW q A V ps l k).bs.length=V.bs.length:=vsW_len hpin htot (by omega)
   have htk:=totalM_take hk
   rw [hp] at htk
   simp only [Int.toNat_natCast] at htk
   have hdl:(l.drop (totalM (ps.take k))).length=l.length - totalM (ps.take k):=by simp
   have hR:=view_Write1 v vb bb A (chgL q A (vsW q A V ps l k)) i m a' cap' (l.drop (totalM (ps.take k))) x h6 h7 hab h1 h2 h3 (fun y hy=>hin y (List.mem_of_mem_drop hy)) (by omega) hAx (by rw [hbs,hbl2]; exact him)
    (fun z hz=>by have:=hflt z hz; omega) (fun b hb=>by have:=hbl b hb; omega) (fun z=>z=bb∨foot A z∨w3.heap.size≤z) (fun z h=>h.imp id .inl) h4
   simp only [← hps]
   rw [hp]
   refine hR.mono fun _ y ⟨a1,a2,a3,c3,b1,b2,b3,b4⟩ => ?_
   rw [hbs] at a1
   have hoff:totalM (ps.take (k+1))=totalM (ps.take k)+m:=by
    rw [List.take_add_one,List.getElem?_eq_getElem hk,hp,totalM_append]; simp [totalM]
   have hdd:(l.drop (totalM (ps.take k))).drop m=l.drop (totalM (ps.take (k+1))):=by rw [List.drop_drop,hoff]
   rw [hdd] at b1 b2 b3 b4
   refine ⟨by rw [vsW_succ hk hp]; exact a1,a2.mono fun z _ hz=>(h5 z).2 hz,fun z=>z=bb∨foot A z,⟨a3,c3,b1,b2,b3,b4,fun z=>Iff.rfl,?_,?_,Nat.le_trans h8 a2.size⟩,fun z hz => .inl ((h5 z).2 hz)⟩
   ·exact a2.heap h6 (fun h=>by rcases h with h | h; omega; have:=hflt _ h; omega)
   ·exact a2.heap h7 (fun h=>by rcases h with h | h; omega; exact hPv h))
  (hA.grow hw) ⟨a,cap,by simpa [totalM] using hbb,by simpa [totalM] using hr.chg hw,by simpa [totalM] using hlc,fun h=>by
   have:=hr.outNew hout (S':=fun z=>z=bb∨foot A z∨w3.heap.size≤z) (fun z hz=>by rcases hz with h | h | h; exact .inr (by omega); exact .inl h; exact .inr (by have:=hw.size; omega))
   exact this (by simpa [totalM] using h),fun z=>Iff.rfl,hvb3,hw.heap' hv.obj,Nat.le_refl _⟩
 rw [← hps] at hE
 refine Goes.call rfl (hE) ?_
 rintro _ w4 ⟨rfl,hA4,_,hs4⟩
 refine Goes.adv hTT 400 rfl ?_
 have hch:Chg (foot A) w w4:=(hw.mono fun _ _ h=>h.elim).since hs4 (fun z hz h=>by rcases h with (h | h) | h; omega; exact h; exact hmf _ h)
 exact Goes.ret1 hTT rfl Tryz.func90 rfl rfl ⟨rfl,hA4,hch⟩
end Go.Proofs.YtnaoiegcobineaaGreatDoor
namespace Go.Proofs.YtnaoiegcobineaaGreatDoor
open Go.RowKit
end Go.Proofs.YtnaoiegcobineaaGreatDoor
namespace Go.Proofs.YtnaoiegcobineaaGreatDoor
open Go.RowKit
structure RA where
 a:Option Addr
 cap:Nat
 bs:List Int
 steps:Int
def raL (r:RA):List Value := [.slice r.a r.bs.length r.cap,.int .i64 r.steps]
structure RaOk (w:World) (r:RA):Prop where
 rd:Rd .u8 w r.a r.bs
 len:r.bs.length≤4194304
 lc:r.bs.length≤r.cap
 rng:InB r.bs
theorem RaOk.grow {w w':World} {r:RA} (h:RaOk w r) (hc:Chg None' w w'):RaOk w' r:=⟨h.rd.chg hc,h.len,h.lc,h.rng⟩
theorem RdU.of {w:World} {b:Nat} {c:Array Value} {t:TypeId} {fz:Nat × Nat} {zs:List Int} (h:w.heap[b]? = some (.cells c t fz)) (hc:c=(zs.map (Value.int .u8)).toArray):Rd .u8 w (some ⟨b,0,none⟩) zs:=fun i hi =>
 ⟨b,0,rfl,by rw [cell_of h,hc]; simp [hi]⟩
theorem ref06_New (p s:Int) (w:World) (ht:arMay p s=true):Does Tryz.prog 111 #[.int .i64 p,.int .i64 s] w
 (fun v w' => ∃ b,v = .tuple #[.agg (raL ⟨some ⟨b,0,none⟩,(p*s).toNat,zeros (p*s).toNat,0⟩).toArray,.int .i64 0]∧w.heap.size≤b∧RaOk w' ⟨some ⟨b,0,none⟩,(p*s).toNat,zeros (p*s).toNat,0⟩∧Chg None' w w'):=by
 have g:=arMay_iff.1 ht
 have h0:0≤p*s:=Int.mul_nonneg (by omega) (by omega)
 have h1:p*s≤1024*4096:=Int.mul_le_mul (by omega) (by omega) (by omega) (by omega)
 have hlen:(zeros (p*s).toNat).length=(p*s).toNat:=List.length_replicate
 refine Does.enter Tryz.func111 rfl Tryz.ntmps111 rfl rfl ?_
 refine Goes.adv hTT 400 rfl ?_
 refine Goes.alloc hTT rfl ?_
 intro rb w1 e1 hrb hw1 hz1
 refine Goes.adv hTT 400 rfl ?_
 refine Goes.no hTT rfl (decide_eq_false (by omega)) rfl ?_
 refine Goes.no hTT rfl (decide_eq_false (by omega)) rfl ?_
 refine Goes.no hTT rfl (decide_eq_false (by omega)) rfl ?_
 refine Goes.no hTT rfl (decide_eq_false (by omega)) rfl ?_
 refine Goes.div hTT rfl (by omega) (rem_ (by omega)) rfl ?_
 refine Goes.no hTT rfl (by simp; omega) rfl ?_
 refine Goes.arith hTT rfl (w64 (by omega)) rfl ?_
 refine Goes.make hTT (m:=(p*s).toNat) (k:=(p*s).toNat) rfl (by omega) (by omega) (Nat.le_refl _) (by simp only; omega) (by omega) ?_
 intro b w2 e2 hb hw2 hz2
 refine Goes.adv hTT 400 rfl ?_
 refine Goes.build hTT rfl rfl ?_
 refine Goes.store hTT rfl (hw2.heap' hrb) rfl rfl ?_
 intro w3 hr3 hs3 hz3
 refine Goes.adv hTT 400 rfl ?_
 have hc3:Chg None' w w3:=(hw1.trans hw2).since hs3 (fun x hx hx'=>by omega)
 have hzz:(zeroRow (cellsL (Value.int .u8 0)) (p*s).toNat)=(zeros (p*s).toNat).map (Value.int .u8):=zeroRow_zeros _
 rw [hzz] at hb
 have hb3:=hs3.heap hb (by omega)
 have hok:RaOk w3 ⟨some ⟨b,0,none⟩,(p*s).toNat,zeros (p*s).toNat,0⟩:=⟨RdU.of hb3 rfl,by simp only [hlen]; omega,by simp only [hlen]; omega,fun x hx=>by rw [List.eq_of_mem_replicate hx]; omega⟩
 exact Goes.ret hTT rfl Tryz.func111 (ResOk.cell rfl rfl rfl hr3 rfl (.tmp rfl .nil)) ⟨b,by unfold raL; simp only [hlen]; rfl,by omega,hok,hc3⟩
end Go.Proofs.YtnaoiegcobineaaGreatDoor
namespace Go.Proofs.YtnaoiegcobineaaGreatDoor
open Go.RowKit
def fewM (c:Conf):Bool:=mayB c && decide (c.size≤256) && decide (c.pages≤24) && decide (c.slots≤20)
theorem ref03_Few (c:Conf) (p:ConfAt) (w:World) (hc:ConfOk w c p):Does Tryz.prog 17 #[.agg (confL c p).toArray] w (Grow (.bool (fewM c)) w):=by
 refine Does.enter Tryz.func17 rfl Tryz.ntmps17 rfl rfl ?_
 refine Goes.adv hTT 400 rfl ?_
 refine Goes.alloc hTT rfl ?_
 intro cb w1 e1 hcb hw1 hz1
 refine Goes.adv hTT 400 rfl ?_
 replace hcb:w1.heap[cb]? = some (.cells (confL c p).toArray 24 (0,0)):=hcb
 refine Goes.loads hTT rfl hcb rfl rfl ?_
 refine Goes.call rfl (ref03_May c p w1 (hc.chg hw1)) ?_
 rintro _ w2 ⟨rfl,hw2⟩
 refine Goes.adv hTT 400 rfl ?_
 have hw:=hw1.trans hw2
 have hcb2:=hw2.heap' hcb
 unfold fewM
 cases hm:mayB c with
 |false =>
  rw [show mayM c=1 from by unfold mayM; rw [hm]; rfl]
  refine Goes.no hTT rfl rfl rfl ?_
  exact Goes.ret1 hTT rfl Tryz.func17 rfl rfl ⟨rfl,hw⟩
 |true =>
  rw [show mayM c=0 from by unfold mayM; rw [hm]; rfl]
  refine Goes.yes hTT rfl rfl rfl ?_
  refine Goes.loadb hTT rfl hcb2 rfl rfl ?_
  refine Goes.fork hTT rfl rfl rfl (fun h1 => ?_) (fun h1 => ?_)
  ·refine Goes.loadb hTT rfl hcb2 rfl rfl ?_
   rw [h1]
   refine Goes.fork hTT rfl rfl rfl (fun h2 => ?_) (fun h2 => ?_)
   ·refine Goes.loadb hTT rfl hcb2 rfl rfl ?_
    rw [h2]
    exact Goes.ret1 hTT rfl Tryz.func17 rfl rfl ⟨rfl,hw⟩
   ·rw [h2]
    exact Goes.ret1 hTT rfl Tryz.func17 rfl rfl ⟨rfl,hw⟩
  ·rw [h1]
   exact Goes.ret1 hTT rfl Tryz.func17 rfl rfl ⟨rfl,hw⟩
theorem few_may {c:Conf} (h:fewM c=true):mayB c=true∧c.size≤256∧c.pages≤24:=by
 unfold fewM at h
 simp only [Bool.and_eq_true,decide_eq_true_eq] at h
 exact ⟨h.1.1.1,h.1.1.2,h.1.2⟩
end Go.Proofs.YtnaoiegcobineaaGreatDoor
namespace Go.Proofs.YtnaoiegcobineaaGreatDoor
open Go.RowKit
end Go.Proofs.YtnaoiegcobineaaGreatDoor
namespace Go.Proofs.YtnaoiegcobineaaGreatDoor
open Go.RowKit
end Go.Proofs.YtnaoiegcobineaaGreatDoor
namespace Go.Proofs.YtnaoiegcobineaaGreatDoor
open Go.RowKit
def whereM (c:Conf) (q:Plc) (i:Nat):Int:=if q.cls = -1 then q.pages.getD (i / c.size.toNat) 0*c.size+((i % c.size.toNat:Nat):Int) else viewAt c q+i
end Go.Proofs.YtnaoiegcobineaaGreatDoor
namespace Go.Proofs.YtnaoiegcobineaaGreatDoor
open Go.RowKit
end Go.Proofs.YtnaoiegcobineaaGreatDoor
namespace Go.Proofs.YtnaoiegcobineaaGreatDoor
open Go.RowKit
def chargeM (c:Conf) (q:Plc) (at' n:Nat):Int:=n+(if q.cls = -1 then ((spansM at' n c.size.toNat).length:Int) else 0)
end Go.Proofs.YtnaoiegcobineaaGreatDoor
namespace Go.Proofs.YtnaoiegcobineaaGreatDoor
open Go.RowKit
theorem where_in {c:Conf} {q:Plc} {i:Nat} (hm:mayB c=true) (hin:viewIs c q=true) (hi:(i:Int)<viewHolds c q):0≤whereM c q i∧whereM c q i<c.size*c.pages:=by
 obtain ⟨m1,m2,m3⟩:=mayFacts hm
 unfold whereM
 by_cases hcl:q.cls = -1
 ·rw [if_pos hcl]
  obtain ⟨hpos,hpg⟩:=is_large hin hcl
  have hho:viewHolds c q=(q.pages.length:Int)*c.size:=by unfold viewHolds; rw [if_pos hin,if_pos hcl]
  rw [hho] at hi
  obtain ⟨sz,hsz⟩:=Int.eq_ofNat_of_zero_le (show 0≤c.size by omega)
  have hszt:c.size.toNat=sz:=by omega
  rw [hszt]
  have hd1:i / sz<q.pages.length:=by
   apply Nat.div_lt_of_lt_mul
   have:((sz*q.pages.length:Nat):Int)=(q.pages.length:Int)*c.size:=by rw [hsz,Int.mul_comm]; rfl
   omega
  have hmod:=Nat.mod_lt i (show 0<sz by omega)
  obtain ⟨D,hD⟩:∃ D,D=i / sz:=⟨_,rfl⟩
  obtain ⟨M,hM⟩:∃ M,M=i % sz:=⟨_,rfl⟩
  rw [← hD] at hd1 ⊢
  rw [← hM] at hmod ⊢
  have hpn:0≤q.pages.getD D 0∧q.pages.getD D 0<c.pages:=hpg _ (by rw [List.getD_eq_getElem?_getD,List.getElem?_eq_getElem hd1]; exact List.getElem_mem hd1)
  have h1:0≤q.pages.getD D 0*c.size:=Int.mul_nonneg hpn.1 (by omega)
  have e2:q.pages.getD D 0*c.size+c.size≤c.size*c.pages:=by
   have:(q.pages.getD D 0+1)*c.size≤c.pages*c.size:=Int.mul_le_mul_of_nonneg_right (by omega) (by omega)
   rw [Int.add_mul,Int.one_mul,Int.mul_comm c.pages] at this
   exact this
  omega
 ·rw [if_neg hcl]
  obtain ⟨k,pg,ix,hk,hpg,hix,hkl,g1,g2,g3,g4,g5,g6,g7⟩:=is_small hm hin hcl
  have hat:viewAt c q=(pg:Int)*c.size+(ix:Int)*clsM c k:=by unfold viewAt; rw [if_pos ⟨hin,hcl⟩,hk,hpg,hix]
  have hho:viewHolds c q=clsM c k:=by unfold viewHolds; rw [if_pos hin,if_neg hcl,hk]
  omega
def toldM (c:Conf) (q:Plc) (bs:List Int) (at' n:Nat):List Int:=(List.range n).map fun i=>bs.getD (whereM c q (at'+i)).toNat 0
theorem check_zero {c:Conf} {q:Plc} {at' n:Int} (h:checkM c q at' n=0):viewIs c q=true∧0≤at'∧0≤n∧at'+n≤viewHolds c q:=by
 have hi:viewIs c q=true:=by
  cases hi:viewIs c q with
  |true=>rfl
  |false=>unfold checkM at h; rw [if_pos hi] at h; cases h
 have hgood:¬ (at'<0∨n<0∨viewHolds c q<n∨viewHolds c q - n<at'):=fun hh=>by
  unfold checkM at h; rw [if_neg (by rw [hi]; decide),if_pos hh] at h; cases h
 exact ⟨hi,by omega,by omega,by omega⟩
end Go.Proofs.YtnaoiegcobineaaGreatDoor
namespace Go.Proofs.YtnaoiegcobineaaGreatDoor
open Go.RowKit
end Go.Proofs.YtnaoiegcobineaaGreatDoor
namespace Go.Proofs.YtnaoiegcobineaaGreatDoor
open Go.RowKit
def layM (c:Conf) (q:Plc) (bs:List Int) (at':Nat) (l:List Int):Nat→List Int
 |0=>bs
 |k+1=>(layM c q bs at' l k).set (whereM c q (at'+k)).toNat (l.getD k 0)
theorem layM_len (c:Conf) (q:Plc) (bs:List Int) (at':Nat) (l:List Int):∀ k,(layM c q bs at' l k).length=bs.length
 |0=>rfl
 |k+1=>by show (List.set _ _ _).length=_; rw [List.length_set,layM_len c q bs at' l k]
end Go.Proofs.YtnaoiegcobineaaGreatDoor
namespace Go.Proofs.YtnaoiegcobineaaGreatDoor
open Go.RowKit
end Go.Proofs.YtnaoiegcobineaaGreatDoor
namespace Go.Proofs.YtnaoiegcobineaaGreatDoor
open Go.RowKit
theorem sub_getD {bs:List Int} {i n j:Nat} (hj:j<n):(sub bs i n).getD j 0=bs.getD (i+j) 0:=by
 unfold sub; simp [List.getD,hj]
theorem OwnB.rd {base:Nat} {w:World} {v:Value} {l:List Int} (h:OwnB base w v l):∃ g cap cur,v = .slice (some ⟨g,0,none⟩) l.length cap∧base≤g∧w.heap[g]? = some (.cells cur 5 (0,0))∧l.length≤cap∧cur.toList.take l.length=l.map (Value.int .u8)∧Rd .u8 w (some ⟨g,0,none⟩) l:=by
 obtain ⟨g,cap,cur,h1,h2,h3,h4,h5⟩:=h
 exact ⟨g,cap,cur,h1,h2,h3,h4,h5,Rd.of_take h3 h5⟩
theorem Rd.at {k:IntKind} {w:World} {a:Option Addr} {l:List Int} (h:Rd k w a l) (hl:0<l.length):∃ b off,a=some ⟨b,off,none⟩ ∧ ∀ j,j<l.length→w.cell? ⟨b,off+j,none⟩=some (.int k (l.getD j 0)):=by
 obtain ⟨b,off,e,_⟩:=h 0 hl
 refine ⟨b,off,e,fun j hj => ?_⟩
 obtain ⟨b',off',e',hc⟩:=h j hj
 rw [e] at e'; cases e'; exact hc
end Go.Proofs.YtnaoiegcobineaaGreatDoor
namespace Go.Proofs.YtnaoiegcobineaaGreatDoor
open Go.RowKit
structure Mv where
 mv:Nat
 f:Nat
 t:Nat
 size:Nat
def mvCells (A:Ar) (M:Mv) (gone:Nat):List Value := [.func (.func 195) #[.pointer (some ⟨A.ab,0,none⟩)] #[],.int .i64 M.f,.int .i64 M.t,.int .i64 M.size,.int .i64 gone]
structure MvOk (w:World) (A:Ar) (V:ArV) (M:Mv) (gone:Nat):Prop where
 ar:ArOk w A V
 obj:w.heap[M.mv]? = some (.cells (mvCells A M gone).toArray 184 (0,0))
 pos:1≤M.size
 gone:gone≤M.size
 f:M.f+M.size≤V.bs.length
 t:M.t+M.size≤V.bs.length
theorem MvOk.nfoot {w:World} {A:Ar} {V:ArV} {M:Mv} {g:Nat} (h:MvOk w A V M g):¬ foot A M.mv:=by
 rintro (e | e)
 ·exact blk_ne h.obj h.ar.dat (by decide) e
 ·exact blk_ne h.obj (h.ar.met _ e).1 (by decide) rfl
theorem MvOk.grow {w w':World} {A:Ar} {V:ArV} {M:Mv} {g:Nat} (h:MvOk w A V M g) (hc:Chg None' w w'):MvOk w' A V M g:=⟨h.ar.grow hc,hc.heap' h.obj,h.pos,h.gone,h.f,h.t⟩
def mBlk (A:Ar) (M:Mv):Nat→Prop:=fun b=>b=A.ab∨b=A.db∨b=A.mc∨A.mb=some b∨b=M.mv
theorem MvOk.lt {w:World} {A:Ar} {V:ArV} {M:Mv} {g:Nat} (h:MvOk w A V M g):∀ x,mBlk A M x→x<w.heap.size:=fun x hx=>by
 rcases hx with rfl | rfl | rfl | hx | rfl
 ·exact lt_of_heap h.ar.obj
 ·exact lt_of_heap h.ar.dat
 ·exact lt_of_heap h.ar.cap
 ·exact lt_of_heap (h.ar.met _ hx).1
 ·exact lt_of_heap h.obj
theorem MvOk.far {w w':World} {A:Ar} {V:ArV} {M:Mv} {g:Nat} {S:Nat→Prop} (h:MvOk w A V M g) (hc:Chg S w w') (hs:∀ x,mBlk A M x → ¬ S x):MvOk w' A V M g :=
 ⟨h.ar.chg hc (fun b hb=>hs b (by rcases hb with h | h | h | h; exact .inl h; exact .inr (.inl h); exact .inr (.inr (.inl h)); exact .inr (.inr (.inr (.inl h))))),hc.heap h.obj (hs _ (.inr (.inr (.inr (.inr rfl))))),h.pos,h.gone,h.f,h.t⟩
theorem MvOk.laid {w w':World} {A:Ar} {V V':ArV} {M:Mv} {g:Nat} (h:MvOk w A V M g) (hA:ArOk w' A V') (hc:Chg (foot A) w w') (hl:V'.bs.length=V.bs.length):MvOk w' A V' M g :=
 ⟨hA,hc.heap h.obj h.nfoot,h.pos,h.gone,by rw [hl]; exact h.f,by rw [hl]; exact h.t⟩
def cpB (bs:List Int) (t f n:Nat):List Int:=wrB bs t (sub bs f n)
theorem cpB_length {bs:List Int} {t f n:Nat} (h:f+n≤bs.length) (h':t+n≤bs.length):(cpB bs t f n).length=bs.length:=wrB_length (by rw [sub_length h]; exact h')
def mFt (A:Ar) (M:Mv):Nat→Prop:=fun b=>foot A b∨b=M.mv
theorem move_Left (A:Ar) (V:ArV) (M:Mv) (g:Nat) (w:World) (h:MvOk w A V M g):Does Tryz.prog 73 #[.pointer (some ⟨M.mv,0,none⟩)] w (Grow (.int .i64 (M.size - g:Nat)) w):=by
 have hl:=h.ar.len
 have hg:=h.gone
 have ht:=h.t
 refine Does.enter Tryz.func73 rfl Tryz.ntmps73 rfl rfl ?_
 refine Goes.adv hTT 400 rfl ?_
 refine Goes.quiet rfl mixed (by kernel_rfl) ?_
 refine Quiet.adv hTT rfl ?_
 refine Quiet.loadb hTT rfl h.obj rfl rfl ?_
 refine Quiet.loadb hTT rfl h.obj rfl rfl ?_
 refine Quiet.arith hTT rfl (w64 (by omega)) rfl ?_
 refine Quiet.nil ?_
 intro w1 hw1
 refine Goes.adv hTT 400 rfl ?_
 exact Goes.ret1 hTT rfl Tryz.func73 rfl rfl ⟨int_v (by omega),hw1⟩
theorem move_some (A:Ar) (V:ArV) (M:Mv) (g i n:Nat) (w:World) (h:MvOk w A V M g) (hi:i+n≤M.size) (hn:0<n):Does Tryz.prog 196 #[.pointer (some ⟨M.mv,0,none⟩),.int .i64 i,.int .i64 n] w
 (fun _ w'=>MvOk w' A {V.charge A n with bs:=cpB V.bs (M.t+i) (M.f+i) n} M g∧Chg (foot A) w w'):=by
 have hl:=h.ar.len
 have ht:=h.t
 have hf:=h.f
 have hnf:=h.nfoot
 have e1:((M.t:Int)+i)=((M.t+i:Nat):Int):=by omega
 have e2:((M.f:Int)+i)=((M.f+i:Nat):Int):=by omega
 refine Does.enter Tryz.func196 rfl Tryz.ntmps196 rfl rfl ?_
 refine Goes.adv hTT 400 rfl ?_
 refine Goes.yes hTT rfl (decide_eq_true (by omega)) rfl ?_
 refine Goes.drawn (q:=18) (foot A) hTT mixed (by kernel_rfl) rfl ?_
 intro hB
 refine Drawn.loadb hTT hB rfl h.obj (by first | exact fun h=>h | (intro h; omega) | assumption) rfl rfl ?_
 refine Drawn.loadb hTT hB rfl h.obj (by first | exact fun h=>h | (intro h; omega) | assumption) rfl rfl ?_
 refine Drawn.arith hTT hB rfl (w64 (by omega)) rfl ?_
 refine Drawn.loadb hTT hB rfl h.obj (by first | exact fun h=>h | (intro h; omega) | assumption) rfl rfl ?_
 refine Drawn.arith hTT hB rfl (w64 (by omega)) rfl ?_
 rw [e1,e2]
 refine Drawn.turn1 hB rfl ?_
 intro w1 hw1
 have h1:=h.grow hw1
 refine Turn.call rfl (arena_Copy A V (M.t+i) (M.f+i) n w1 h1.ar (by omega) (by omega)).fn (Post:=fun v w2=>v = .int .i64 0∧ArOk w2 A {V.charge A n with bs:=cpB V.bs (M.t+i) (M.f+i) n}∧Chg (foot A) w1 w2)
  (fun h0=>(arena_Copy A V (M.t+i) (M.f+i) n w1 h1.ar (by omega) (by omega)).mono fun v w2 hp=>⟨h0.trans hp.2.2,hp⟩) ?_
 rintro _ w2 _ ⟨rfl,hA2,hs2⟩
 refine Drawn.nil hB ?_
 intro w3 hw3
 refine Goes.adv hTT 400 rfl ?_
 have hlen:(cpB V.bs (M.t+i) (M.f+i) n).length=V.bs.length:=cpB_length (by omega) (by omega)
 exact Goes.ret0 hTT rfl Tryz.func196 rfl ⟨⟨hA2.grow hw3,hw3.heap' (hs2.heap h1.obj hnf),h.pos,h.gone,by simp only [hlen]; exact hf,by simp only [hlen]; exact ht⟩,(hw1.mono fun _ _ h=>h.elim).trans (hs2.trans (hw3.mono fun _ _ h=>h.elim))⟩
theorem move_some0 (M:Mv) (i n:Int) (w:World) (hn:n≤0):Does Tryz.prog 196 #[.pointer (some ⟨M.mv,0,none⟩),.int .i64 i,.int .i64 n] w (fun _ w'=>w=w'):=by
 refine Does.enter Tryz.func196 rfl Tryz.ntmps196 rfl rfl ?_
 refine Goes.adv hTT 400 rfl ?_
 refine Goes.no hTT rfl (decide_eq_false (by omega)) rfl ?_
 exact Goes.ret0 hTT rfl Tryz.func196 rfl rfl
def stepK (n:Int) (left:Nat):Nat:=(min n left).toNat
def stepV (A:Ar) (V:ArV) (M:Mv) (g k:Nat):ArV:=if k=0 then V else {V.charge A k with bs:=cpB V.bs (M.t+g) (M.f+g) k}
theorem move_Step (A:Ar) (V:ArV) (M:Mv) (g:Nat) (n:Int) (w:World) (h:MvOk w A V M g):Does Tryz.prog 143 #[.pointer (some ⟨M.mv,0,none⟩),.int .i64 n] w
 (fun v w'=>v = .int .i64 (stepK n (M.size - g))∧MvOk w' A (stepV A V M g (stepK n (M.size - g))) M (g+stepK n (M.size - g))∧Chg (mFt A M) w w'):=by
 have hl:=h.ar.len
 have hg:=h.gone
 have ht:=h.t
 obtain ⟨k,hk⟩:∃ k,k=stepK n (M.size - g):=⟨_,rfl⟩
 rw [← hk]
 unfold stepK at hk
 have hkl:k≤M.size - g:=by omega
 have hkv:(if (0:Int) > (if ((M.size - g:Nat):Int)<n then ((M.size - g:Nat):Int) else n) then 0 else (if ((M.size - g:Nat):Int)<n then ((M.size - g:Nat):Int) else n))=(k:Int):=by
  subst hk
  split <;> split <;> omega
 refine Does.enter Tryz.func143 rfl Tryz.ntmps143 rfl rfl ?_
 refine Goes.adv hTT 400 rfl ?_
 refine Goes.call rfl (move_Left A V M g w h) ?_
 rintro _ w1 ⟨rfl,hw1⟩
 refine Goes.adv hTT 400 rfl ?_
 rw [hkv]
 have h1:=h.grow hw1
 by_cases hk0:k=0
 ·refine Goes.no hTT rfl (decide_eq_false (by omega)) rfl ?_
  subst hk0
  exact Goes.ret1 hTT rfl Tryz.func143 rfl rfl ⟨rfl,by unfold stepV; rw [if_pos rfl]; exact h1,hw1.mono fun _ _ h=>h.elim⟩
 ·refine Goes.yes hTT rfl (decide_eq_true (by omega)) rfl ?_
  refine Goes.loadb hTT rfl h1.obj rfl rfl ?_
  refine Goes.call rfl (move_some A V M g g k w1 h1 (by omega) (by omega)) ?_
  rintro _ w2 ⟨h2,hs2⟩
  refine Goes.adv hTT 400 rfl ?_
  refine Goes.loadb hTT rfl h2.obj rfl rfl ?_
  refine Goes.arith hTT rfl (w64 (by omega)) rfl ?_
  rw [show ((g:Int)+k)=((g+k:Nat):Int) from by omega]
  refine Goes.store hTT rfl h2.obj rfl rfl ?_
  intro w3 hb3 hs3 hz3
  refine Goes.adv hTT 400 rfl ?_
  have hA3:=h2.ar.chg hs3 (fun b hb e=>by
   subst e
   rcases hb with e | e | e | e
   ·exact blk_ne h2.obj h2.ar.obj (by decide) e
   ·exact blk_ne h2.obj h2.ar.dat (by decide) e
   ·exact blk_ne h2.obj h2.ar.cap (by decide) e
   ·exact blk_ne h2.obj (h2.ar.met _ e).1 (by decide) rfl)
  have hc:Chg (mFt A M) w w3:=(hw1.mono fun _ _ h=>h.elim).trans ((hs2.mono fun b _ hb => .inl hb).trans (hs3.mono fun b _ hb => .inr hb))
  have hv:stepV A V M g k={V.charge A k with bs:=cpB V.bs (M.t+g) (M.f+g) k}:=by unfold stepV; rw [if_neg hk0]
  exact Goes.ret1 hTT rfl Tryz.func143 rfl rfl ⟨rfl,by rw [hv]; exact ⟨hA3,hb3,h.pos,by omega,h2.f,h2.t⟩,hc⟩
def wroteK (i n g:Nat):Nat:=min (i+n) g - i
def wroteV (A:Ar) (V:ArV) (M:Mv) (g i n:Nat):ArV:=if wroteK i n g=0 then V else {V.charge A (wroteK i n g) with bs:=cpB V.bs (M.t+i) (M.f+i) (wroteK i n g)}
theorem move_Wrote (A:Ar) (V:ArV) (M:Mv) (g i n:Nat) (w:World) (h:MvOk w A V M g) (hi:i+n≤M.size):Does Tryz.prog 152 #[.pointer (some ⟨M.mv,0,none⟩),.int .i64 i,.int .i64 n] w
 (fun v w'=>v = .int .i64 0∧MvOk w' A (wroteV A V M g i n) M g∧Chg (foot A) w w'):=by
 have hl:=h.ar.len
 have hg:=h.gone
 have ht:=h.t
 refine Does.enter Tryz.func152 rfl Tryz.ntmps152 rfl rfl ?_
 refine Goes.adv hTT 400 rfl ?_
 refine Goes.no hTT rfl (decide_eq_false (by omega)) rfl ?_
 refine Goes.no hTT rfl (decide_eq_false (by omega)) rfl ?_
 refine Goes.loadb hTT rfl h.obj rfl rfl ?_
 refine Goes.no hTT rfl (decide_eq_false (by omega)) rfl ?_
 refine Goes.loadb hTT rfl h.obj rfl rfl ?_
 refine Goes.arith hTT rfl (w64 (by omega)) rfl ?_
 refine Goes.no hTT rfl (decide_eq_false (by omega)) rfl ?_
 refine Goes.arith hTT rfl (w64 (by omega)) rfl ?_
 refine Goes.loadb hTT rfl h.obj rfl rfl ?_
 refine Goes.arith hTT rfl (w64 (by split <;> omega)) rfl ?_
 by_cases hk:wroteK i n g=0
 ·refine Goes.call rfl (move_some0 M i _ w (by unfold wroteK at hk; split <;> omega)) ?_
  rintro _ w1 rfl
  refine Goes.adv hTT 400 rfl ?_
  have hv:wroteV A V M g i n=V:=by unfold wroteV; rw [if_pos hk]
  exact Goes.ret1 hTT rfl Tryz.func152 rfl rfl ⟨rfl,by rw [hv]; exact h,Chg.refl _ _⟩
 ·have e:(if (g:Int)<(i:Int)+n then (g:Int) else (i:Int)+n) - i=((wroteK i n g:Nat):Int):=by unfold wroteK at hk ⊢; split <;> omega
  rw [e]
  refine Goes.call rfl (move_some A V M g i (wroteK i n g) w h (by unfold wroteK; omega) (by omega)) ?_
  rintro _ w1 ⟨h1,hs1⟩
  refine Goes.adv hTT 400 rfl ?_
  have hv:wroteV A V M g i n={V.charge A (wroteK i n g) with bs:=cpB V.bs (M.t+i) (M.f+i) (wroteK i n g)}:=by unfold wroteV; rw [if_neg hk]
  exact Goes.ret1 hTT rfl Tryz.func152 rfl rfl ⟨rfl,by rw [hv]; exact h1,hs1⟩
def mvMay (N:Nat) (f t size:Int):Bool:=decide (1≤size) && (decide (0≤f) && decide (size≤N) && decide (f≤N - size)) && (decide (0≤t) && decide (size≤N) && decide (t≤N - size)) && (decide (f+size≤t) || decide (t+size≤f))
theorem mvMay_iff {N:Nat} {f t size:Int}:mvMay N f t size=true↔1≤size∧(0≤f∧size≤N∧f≤N - size)∧(0≤t∧t≤N - size)∧(f+size≤t∨t+size≤f):=by
 unfold mvMay
 simp only [Bool.and_eq_true,Bool.or_eq_true,decide_eq_true_eq]
 constructor
 ·rintro ⟨⟨⟨h1,⟨h2,h3⟩,h4⟩,⟨h5,_⟩,h6⟩,h7⟩; exact ⟨h1,⟨h2,h3,h4⟩,⟨h5,h6⟩,h7⟩
 ·rintro ⟨h1,⟨h2,h3,h4⟩,⟨h5,h6⟩,h7⟩; exact ⟨⟨⟨h1,⟨h2,h3⟩,h4⟩,⟨h5,h3⟩,h6⟩,h7⟩
def inB (N:Nat) (size at':Int):Bool:=decide (0≤at') && decide (size≤N) && decide (at'≤N - size)
theorem move_in (A:Ar) (V:ArV) (x size:Int) (sb pb:Nat) (w:World) (hA:ArOk w A V) (hs:w.heap[sb]? = some (.cells #[.int .i64 size] 3 (0,0))) (hp:w.heap[pb]? = some (.cells #[.pointer (some ⟨A.ab,0,none⟩)] 84 (0,0))) (hsz:1≤size) :
 Does Tryz.prog 194 #[.int .i64 x,.pointer (some ⟨sb,0,none⟩),.pointer (some ⟨pb,0,none⟩)] w (Grow (.bool (inB V.bs.length size x)) w):=by
 have hl:=hA.len
 refine Does.enter Tryz.func194 rfl Tryz.ntmps194 rfl rfl ?_
 refine Goes.adv hTT 400 rfl ?_
 refine Goes.quiet rfl mixed (by kernel_rfl) ?_
 refine Quiet.adv hTT rfl ?_
 refine Quiet.fork hTT rfl rfl rfl (fun h1 => ?_) (fun h1 => ?_)
 ·refine Quiet.loadb hTT rfl hs rfl rfl ?_
  refine Quiet.loadb hTT rfl hp rfl rfl ?_
  refine Quiet.call hTT rfl (fun w' hw'=>(arena_Len A V w' (hA.grow hw')).grow) rfl ?_
  refine Quiet.fork hTT rfl rfl rfl (fun h2 => ?_) (fun h2 => ?_)
  ·have g2:=of_decide_eq_true h2
   refine Quiet.loadb hTT rfl hp rfl rfl ?_
   refine Quiet.call hTT rfl (fun w' hw'=>(arena_Len A V w' (hA.grow hw')).grow) rfl ?_
   refine Quiet.loadb hTT rfl hs rfl rfl ?_
   refine Quiet.arith hTT rfl (w64 (by omega)) rfl ?_
   refine Quiet.nil ?_
   intro w1 hw1
   refine Goes.adv hTT 400 rfl ?_
   exact Goes.ret1 hTT rfl Tryz.func194 rfl rfl ⟨bool_v (by unfold inB; rw [show decide (0≤x)=true from h1,show decide (size≤(V.bs.length:Int))=true from h2]; rfl),hw1⟩
  ·refine Quiet.nil ?_
   intro w1 hw1
   refine Goes.adv hTT 400 rfl ?_
   exact Goes.ret1 hTT rfl Tryz.func194 rfl rfl ⟨bool_v (by unfold inB; rw [show decide (0≤x)=true from h1,show decide (size≤(V.bs.length:Int))=false from h2]; rfl),hw1⟩
 ·refine Quiet.nil ?_
  intro w1 hw1
  refine Goes.adv hTT 400 rfl ?_
  exact Goes.ret1 hTT rfl Tryz.func194 rfl rfl ⟨bool_v (by unfold inB; rw [show decide (0≤x)=false from h1]; rfl),hw1⟩
end Go.Proofs.YtnaoiegcobineaaGreatDoor
namespace Go.Proofs.YtnaoiegcobineaaGreatDoor
open Go.RowKit
theorem inB_iff {N:Nat} {size x:Int}:inB N size x=true↔0≤x∧size≤N∧x≤N - size:=by unfold inB; simp [and_assoc]
theorem move_New (A:Ar) (V:ArV) (f t size:Nat) (w:World) (hA:ArOk w A V) (hm:mvMay V.bs.length f t size=true):Does Tryz.prog 142 #[.pointer (some ⟨A.ab,0,none⟩),.int .i64 f,.int .i64 t,.int .i64 size] w
 (fun v w' => ∃ M:Mv,v = .tuple #[.pointer (some ⟨M.mv,0,none⟩),.int .i64 0]∧M.f=f∧M.t=t∧M.size=size∧w.heap.size≤M.mv∧MvOk w' A V M 0∧Chg None' w w'):=by
 have hl:=hA.len
 have g:=mvMay_iff.1 hm
 have hif:inB V.bs.length size f=true:=inB_iff.2 (by omega)
 have hit:inB V.bs.length size t=true:=inB_iff.2 (by omega)
 refine Does.enter Tryz.func142 rfl Tryz.ntmps142 rfl rfl ?_
 refine Goes.adv hTT 400 rfl ?_
 refine Goes.alloc hTT rfl ?_
 intro pb w1 e1 hpb hw1 hz1
 refine Goes.adv hTT 400 rfl ?_
 refine Goes.alloc hTT rfl ?_
 intro sb w2 e2 hsb hw2 hz2
 refine Goes.adv hTT 400 rfl ?_
 have hA2:=(hA.grow hw1).grow hw2
 have hpb2:=hw2.heap' hpb
 refine Goes.loadb hTT rfl hpb2 rfl rfl ?_
 refine Goes.loadb hTT rfl hsb rfl rfl ?_
 refine Goes.no hTT rfl (decide_eq_false (by omega)) rfl ?_
 refine Goes.call rfl (move_in A V f size sb pb w2 hA2 hsb hpb2 (by omega)) ?_
 rintro _ w3 ⟨rfl,hw3⟩
 refine Goes.adv hTT 400 rfl ?_
 refine Goes.no hTT rfl (by rw [hif]; rfl) rfl ?_
 refine Goes.call rfl (move_in A V t size sb pb w3 (hA2.grow hw3) (hw3.heap' hsb) (hw3.heap' hpb2) (by omega)) ?_
 rintro _ w4 ⟨rfl,hw4⟩
 refine Goes.adv hTT 400 rfl ?_
 refine Goes.no hTT rfl (by rw [hit]; rfl) rfl ?_
 refine Goes.arith hTT rfl (w64 (by split <;> split <;> omega)) rfl ?_
 have hsb4:=hw4.heap' (hw3.heap' hsb)
 have hpb4:=hw4.heap' (hw3.heap' hpb2)
 refine Goes.loadb hTT rfl hsb4 rfl rfl ?_
 refine Goes.no hTT rfl (decide_eq_false (by split <;> split <;> omega)) rfl ?_
 refine Goes.loadb hTT rfl hpb4 rfl rfl ?_
 refine Goes.loadb hTT rfl hsb4 rfl rfl ?_
 refine Goes.build hTT rfl rfl ?_
 refine Goes.alloc hTT rfl ?_
 intro mv w5 e5 hmv hw5 hz5
 refine Goes.adv hTT 400 rfl ?_
 have hc:Chg None' w w5:=(((hw1.trans hw2).trans hw3).trans hw4).trans hw5
 exact Goes.ret2 hTT rfl Tryz.func142 rfl rfl rfl ⟨⟨mv,f,t,size⟩,rfl,rfl,rfl,rfl,by have:=((hw1.trans hw2).trans hw3).trans hw4; have:=this.size; simp only; omega,⟨hA.grow hc,hmv,by simp only; omega,Nat.zero_le _,by simp only; omega,by simp only; omega⟩,hc⟩
end Go.Proofs.YtnaoiegcobineaaGreatDoor
namespace Go.Proofs.YtnaoiegcobineaaGreatDoor
open Go.RowKit
theorem meter_Lap1 (b cb:Nat) (total lap:Int) (w:World) (h:MeterAt w b total lap) (hc:w.heap[cb]? = some (.cells #[.pointer (some ⟨b,0,none⟩)] 80 (0,0))) :
 DoesD Tryz.prog 106 #[.pointer (some ⟨cb,0,none⟩)] w (fun _ w'=>MeterAt w' b total total∧Chg (fun x=>x=b) w w'):=by
 obtain ⟨hb,h1,h2,h3⟩:=h
 refine DoesD.enter Tryz.func106 rfl Tryz.ntmps106 rfl rfl ?_
 refine Goes.adv hTT 400 rfl ?_
 refine Goes.drawn (q:=5) None' hTT mixed (by kernel_rfl) rfl ?_
 intro hB
 refine Drawn.load hTT hB rfl (cell_nth (off:=0) hc rfl) (by first | exact fun h=>h | (intro h; omega) | assumption) rfl ?_
 refine Drawn.load hTT hB rfl (cell_nth (off:=0) hc rfl) (by first | exact fun h=>h | (intro h; omega) | assumption) rfl ?_
 refine Drawn.loadb hTT hB rfl hb (by first | exact fun h=>h | (intro h; omega) | assumption) rfl rfl ?_
 refine Drawn.nil hB ?_
 intro w1 hw1
 refine Goes.adv hTT 400 rfl ?_
 refine Goes.store hTT rfl (hw1.heap' hb) rfl rfl ?_
 intro w2 hb2 hs2 hz2
 refine Goes.adv hTT 400 rfl ?_
 exact Goes.ret0 hTT rfl Tryz.func106 rfl ⟨⟨hb2,by omega,by omega,h3⟩,(hw1.mono fun _ _ h=>h.elim).trans hs2⟩
theorem meter_Lap (b:Nat) (total lap:Int) (w:World) (h:MeterAt w b total lap):Does Tryz.prog 57 #[.pointer (some ⟨b,0,none⟩)] w (fun v w'=>v = .int .i64 (total - lap)∧MeterAt w' b total total∧Chg (fun x=>x=b) w w'):=by
 have h':=h
 obtain ⟨hb,h1,h2,h3⟩:=h
 refine Does.enter Tryz.func57 rfl Tryz.ntmps57 rfl rfl ?_
 refine Goes.adv hTT 400 rfl ?_
 refine Goes.alloc hTT rfl ?_
 intro cb w1 e1 hcb hw1 hz1
 refine Goes.adv hTT 400 rfl ?_
 refine Goes.loadb hTT rfl hcb rfl rfl ?_
 refine Goes.defer rfl rfl ?_
 refine Goes.adv hTT 400 rfl ?_
 refine Goes.quiet rfl mixed (by kernel_rfl) ?_
 refine Quiet.adv hTT rfl ?_
 refine Quiet.loadb hTT rfl hcb rfl rfl ?_
 refine Quiet.loadb hTT rfl (hw1.heap' hb) rfl rfl ?_
 refine Quiet.loadb hTT rfl hcb rfl rfl ?_
 refine Quiet.loadb hTT rfl (hw1.heap' hb) rfl rfl ?_
 refine Quiet.arith hTT rfl (w64 (by omega)) rfl ?_
 refine Quiet.nil ?_
 intro w2 hw2
 refine Goes.adv hTT 400 rfl ?_
 have hd:=meter_Lap1 b cb total lap w2 ((h'.chg hw1).chg hw2) (hw2.heap' hcb)
 refine Goes.ret1D hTT rfl Tryz.func57 rfl rfl rfl (invoke_dfr (args := []) (captured := [.pointer (some ⟨cb,0,none⟩)]) hd.fn) ⟨hd.fn,?_⟩
 have hc:=hd.calls
 intro c cs hu
 obtain ⟨en,u',w',fr,⟨h7,v,h8,h9,h10⟩,hrest⟩:=hc c cs hu
 exact ⟨en,u',w',fr,⟨h7,v,h8,rfl,h9,((hw1.trans hw2).mono fun _ _ h=>h.elim).trans h10⟩,hrest⟩
end Go.Proofs.YtnaoiegcobineaaGreatDoor
namespace Go.Proofs.YtnaoiegcobineaaGreatDoor
open Go.RowKit
end Go.Proofs.YtnaoiegcobineaaGreatDoor
namespace Go.Proofs.YtnaoiegcobineaaGreatDoor
open Go.RowKit
theorem Rd.keepU {w w':World} {a:Option Addr} {l:List Int} {q t:Nat} {c:Array Value} {fz:Nat × Nat} (hr:Rd .u8 w a l) (hq:w.heap[q]? = some (.cells c t fz)) (hc:∀ x ∈ c.toList,∀ z,x ≠ .int .u8 z) (hs:Chg (fun b=>b=q) w w'):Rd .u8 w' a l:=fun j hj=>by
 obtain ⟨b,off,e,hcell⟩:=hr j hj
 refine ⟨b,off,e,hs.cell hcell (fun hx => ?_)⟩
 subst hx
 rw [cell_of hq] at hcell
 exact hc _ (Array.mem_toList_iff.2 (Array.mem_of_getElem? hcell)) _ rfl
def NewA (w:World) (r:RA):Prop := ∃ g,r.a=some ⟨g,0,none⟩∧w.heap.size≤g
end Go.Proofs.YtnaoiegcobineaaGreatDoor
namespace Go.Proofs.YtnaoiegcobineaaGreatDoor
open Go.RowKit
end Go.Proofs.YtnaoiegcobineaaGreatDoor
