/-
  Texts put together: Shelf5, Shst, Shp, Back13, RowsD, Ref12, Ref08, Ref08b, Ref13, Ref13b, Ref13c, Ref13d, Ref13e, Ref13f, Unit, Slices, Class, Conf, Meter, Rmm, Pick, Rml, Room0, Room1, Room2, Room3, Slices2, Slices3, Plc, Room4, Room5, Room6, Flat, Ref20, Ref20b.
-/
import Derived.Test.YtnaoiegcobineaaGreatDoorPt1
import Derived.Test.YtnaoiegcobineaaGreatDoorQRule9
import Derived.Test.YtnaoiegcobineaaGreatDoorQRule6
import Derived.Test.YtnaoiegcobineaaGreatDoorQRule15
import Derived.Test.YtnaoiegcobineaaGreatDoorQPost
import Derived.Test.YtnaoiegcobineaaGreatDoorQRule11
import Derived.Test.YtnaoiegcobineaaGreatDoorQRule16
import Derived.Test.YtnaoiegcobineaaGreatDoorQRule5
import Derived.Test.YtnaoiegcobineaaGreatDoorQRule17
import Derived.Test.YtnaoiegcobineaaGreatDoorQRule18
set_option linter.unusedVariables false
namespace Go.Proofs.YtnaoiegcobineaaGreatDoor
open Go.RowKit
def shGiveE (x:Sm) (n i:Int):Int:=match smGet x.pg n with
 |some p=>pgGiveE p i
 |none=>1
def shGive (x:Sm) (n i:Int):Sm:=match smGet x.pg n with
 |some p=>if pgGiveE p i=0 then x.giveAt n.toNat p i else x
 |none=>x
def shGiveP (x:Sm) (pl:PlM) (n i:Int):PlM:=match smGet x.pg n with
 |some p=>if pgGiveE p i=0∧pgUsed (pgGive p i)=0 then pl.give n.toNat else pl
 |none=>pl
theorem smDel_set (l:PgL) (n:Nat) (p:List Int):smDel (smSet l n p) n=smDel l n:=by
 induction l with
 |nil=>rfl
 |cons e r ih =>
  unfold smDel smSet at *
  rw [List.map_cons,List.filter_cons,List.filter_cons]
  by_cases h:e.1=n
  ·rw [if_pos h]
   simp only [bne_self_eq_false,Bool.false_eq_true,if_false,h]
   exact ih
  ·rw [if_neg h]
   have:(e.1 != n)=true:=by simpa using h
   rw [if_pos this,if_pos this,ih]
theorem foot_giveAt {S:Sh} {G:Nat→Pg} {x:Sm} {n:Nat} {p:List Int} {i:Int}:∀ z,shFoot S G (x.giveAt n p i).pg z→shFoot S G x.pg z:=fun z h=>by
 unfold Sm.giveAt at h
 simp only at h
 split at h
 ·exact foot_del z h
 ·exact foot_set z h
theorem Sm.Of.giveAt {x:Sm} {pl:PlM} (hok:x.Ok) (h:x.Of pl) {n:Nat} {p:List Int} {i:Int}:(x.giveAt n p i).Of (if pgUsed (pgGive p i)=0 then pl.give n else pl):=by
 unfold Sm.giveAt
 simp only
 split
 ·intro e he
  obtain ⟨hne,he⟩:=mem_smDel.1 he
  obtain ⟨a,b⟩:=h e he
  show e.1<(pl.own.set n (-1)).length∧(pl.own.set n (-1)).getD e.1 0=x.cls
  rw [List.length_set,getD_set_z,if_neg (fun h=>hne h.1.symm)]
  exact ⟨a,b⟩
 ·exact h.set rfl (fun e he=>smSet_old he)
theorem shelf_Give_nil (n i:Int) (w:World):Does Tryz.prog 197 #[.pointer none,.int .i64 n,.int .i64 i] w (Same (.int .i64 1) w):=by
 refine Does.enter Tryz.func197 rfl Tryz.ntmps197 rfl rfl ?_
 refine Goes.adv hTT 400 rfl ?_
 refine Goes.call rfl (shelf_page_nil n w) ?_
 rintro _ _ ⟨rfl,rfl⟩
 refine Goes.adv hTT 400 rfl ?_
 exact Goes.ret1 hTT rfl Tryz.func197 rfl rfl ⟨rfl,rfl⟩
set_option maxRecDepth 100000 in
theorem shelf_Give (S:Sh) (G:Nat→Pg) (x:Sm) (pl:PlM) (n i:Int) (w:World) (h:ShOk w S G x pl):Does Tryz.prog 197 #[sfV S,.int .i64 n,.int .i64 i] w
 (fun v w'=>v = .int .i64 (shGiveE x n i)∧ShOk w' S G (shGive x n i) (shGiveP x pl n i)∧Chg (allFoot S G x.pg) w w' ∧ ∀ z,shFoot S G (shGive x n i).pg z→shFoot S G x.pg z):=by
 refine Does.enter Tryz.func197 rfl Tryz.ntmps197 rfl rfl ?_
 refine Goes.adv hTT 400 rfl ?_
 refine Goes.call rfl (shelf_page S G x pl n w h) ?_
 rintro _ _ ⟨rfl,rfl⟩
 refine Goes.adv hTT 400 rfl ?_
 cases hg:smGet x.pg n with
 |none =>
  rw [show shGiveE x n i=1 from by unfold shGiveE; rw [hg],show shGive x n i=x from by unfold shGive; rw [hg],show shGiveP x pl n i=pl from by unfold shGiveP; rw [hg]]
  exact Goes.ret1 hTT rfl Tryz.func197 rfl rfl ⟨rfl,h,Chg.refl _ _,fun _ h=>h⟩
 |some p =>
  obtain ⟨k,rfl,hk⟩:=smGet_some hg
  obtain ⟨he1,he2,he3⟩:=h.ok.each _ hk
  simp only at he1 he2 he3
  have hfew:=h.ok.few
  have hlt:=h.at'.foot_lt
  refine Goes.call rfl (page_Full (G k) p w (h.at'.pages _ hk)) ?_
  rintro _ w1 ⟨rfl,hw1⟩
  refine Goes.adv hTT 400 rfl ?_
  have hS1:=h.at'.grow hw1
  refine Goes.call rfl (page_Give (G k) p i w1 (hS1.pages _ hk)) ?_
  rintro _ w2 ⟨rfl,hP2,hs2⟩
  refine Goes.adv hTT 400 rfl ?_
  have hS2:=hS1.page hk hP2 hs2
  have hPl2:=PoolOk.far hS1 (h.pool.grow hw1) hs2 (fun z e => .inr (.inr (.inr ⟨_,hk,e⟩)))
  have hc2:Chg (allFoot S G x.pg) w w2:=(hw1.mono fun _ _ h=>h.elim).trans (hs2.mono fun z _ e => .inl (.inr (.inr (.inr ⟨_,hk,e⟩))))
  by_cases hE:pgGiveE p i=0
  ·rw [show shGiveE x k i=0 from by unfold shGiveE; rw [hg]; exact hE,show shGive x k i=x.giveAt k p i from by unfold shGive; rw [hg]; simp only; rw [if_pos hE]; rfl,show shGiveP x pl k i=(if pgUsed (pgGive p i)=0 then pl.give k else pl) from by unfold shGiveP; rw [hg]; simp only [hE,true_and]; rfl,hE]
   refine Goes.no hTT rfl rfl rfl ?_
   refine Goes.defer rfl rfl ?_
   refine Goes.adv hTT 400 rfl ?_
   have hu:=pgGive_used hE
   have hus:=smUsed_set (p:=pgGive p i) h.ok.nodup hk
   refine Goes.loadb hTT rfl hS2.obj rfl rfl ?_
   refine Goes.arith hTT rfl (w64 (by omega)) rfl ?_
   refine Goes.store hTT rfl hS2.obj rfl rfl ?_
   intro w3 hob hs3 hz3
   refine Goes.adv hTT 400 rfl ?_
   have hu3:((smUsed x.pg:Nat):Int) - 1=(smUsed (smSet x.pg k (pgGive p i)):Nat):=by omega
   replace hob:w3.heap[S.sb]? = some (.cells (shL S x.cls x.blocks ((smUsed x.pg:Nat) - 1)).toArray 214 (0,0)):=hob
   rw [hu3] at hob
   have hS3:=hS2.setUsed hob hs3
   have hPl3:=PoolOk.far hS2 hPl2 hs3 (fun z e => .inl e)
   have hc3:Chg (allFoot S G x.pg) w w3:=hc2.trans (hs3.mono fun z _ e => .inl (.inl e))
   have hkn:(k,pgGive p i) ∈ smSet x.pg k (pgGive p i):=List.mem_map.2 ⟨(k,p),hk,if_pos rfl⟩
   have hfb:((pgUsed p:Int) == p.length)=decide (pgUsed p=x.blocks):=by rw [he2]; exact Bool.eq_iff_iff.2 (by simp only [beq_iff_eq,decide_eq_true_eq]; omega)
   have hd:=shelf_settle S G x.cls x.blocks _ x.opn _ pl k (pgGive p i) (decide (pgUsed p=x.blocks)) w3 hS3 hPl3 hkn he1 (fun e hm=>(he3.1 hm) (of_decide_eq_true e)) (fun e=>he3.2 (of_decide_eq_false e)) h.ok.onodup (by omega) h.ok.cls (h.of _ hk)
   rw [← hfb] at hd
   refine Goes.ret1D hTT rfl Tryz.func197 rfl rfl rfl (invoke_dfr (args := [sfV S,.int .i64 k,pgV (G k),.bool ((pgUsed p:Int) == p.length)]) (captured := []) hd.fn) ⟨hd.fn,?_⟩
   have hc:=hd.calls
   intro c cs hu'
   obtain ⟨en,u',w',fr,⟨h7,v,h8,h9,h10,h11⟩,hrest⟩:=hc c cs hu'
   have hpos:(x.giveAt k p i).Pos:=by
    unfold Sm.giveAt
    simp only
    split
    ·intro e he
     exact h.pos e (mem_smDel.1 he).2
    ·rename_i hz
     intro e he
     rcases mem_smSet he with ⟨rfl,_⟩ | ⟨_,he⟩
     ·exact Nat.pos_of_ne_zero hz
     ·exact h.pos e he
   refine ⟨en,u',w',fr,⟨h7,v,h8,rfl,⟨h.ok.giveAt hk hE,hpos,h.of.giveAt h.ok,?_,?_⟩,hc3.trans (h11.mono fun z _ hz=>hz.imp (foot_set z) id),foot_giveAt⟩,hrest⟩
   ·rw [hfb] at h9
    show ShAt w' S G (x.giveAt k p i).cls (x.giveAt k p i).blocks (x.giveAt k p i).pg (x.giveAt k p i).opn (smUsed (x.giveAt k p i).pg:Nat)
    unfold Sm.giveAt
    simp only
    simp only [decide_eq_true_eq] at h9
    by_cases hz:pgUsed (pgGive p i)=0
    ·rw [if_pos hz] at h9 ⊢
     rw [if_pos hz,smDel_set] at h9
     have hde:=(smUsed_del (by rw [smSet_fst]; exact h.ok.nodup) hkn).1
     rw [smDel_set] at hde
     show ShAt w' S G x.cls x.blocks (smDel x.pg k) _ (smUsed (smDel x.pg k):Nat)
     rw [show smUsed (smDel x.pg k)=smUsed (smSet x.pg k (pgGive p i)) by omega]
     exact h9
    ·rw [if_neg hz] at h9 ⊢
     rw [if_neg hz] at h9
     exact h9
   ·exact h10
  ·have hsame:pgGive p i=p:=by unfold pgGive; rw [if_neg hE]
   rw [hsame,smSet_self h.ok.nodup hk] at hS2
   rw [show shGiveE x k i=pgGiveE p i from by unfold shGiveE; rw [hg],show shGive x k i=x from by unfold shGive; rw [hg]; simp only; rw [if_neg hE],show shGiveP x pl k i=pl from by unfold shGiveP; rw [hg]; simp only; rw [if_neg (fun h=>hE h.1)]]
   refine Goes.yes hTT rfl (show (pgGiveE p i != 0)=true by simpa using hE) rfl ?_
   exact Goes.ret1 hTT rfl Tryz.func197 rfl rfl ⟨rfl,⟨h.ok,h.pos,h.of,hS2,hPl2⟩,hc2,fun _ h=>h⟩
def planL (a b c d:Int):List Value := [.int .i64 a,.int .i64 b,.int .i64 c,.int .i64 d]
def shPlanB (x:Sm):Bool:=decide (2≤x.opn.length)
def shPlanL (x:Sm):List Value:=if 2≤x.opn.length then planL (lastI (-1) x.opn) (pgTop ((smGet x.pg (lastI (-1) x.opn)).getD [])) (headI x.opn) (pgHole ((smGet x.pg (headI x.opn)).getD [])) else planL 0 0 0 0
theorem shelf_Plan_nil (w:World):Does Tryz.prog 190 #[.pointer none] w (Grow (.tuple #[.agg (planL 0 0 0 0).toArray,.bool false]) w):=by
 refine Does.enter Tryz.func190 rfl Tryz.ntmps190 rfl rfl ?_
 refine Goes.adv hTT 400 rfl ?_
 refine Goes.alloc hTT rfl ?_
 intro tb w1 e1 htb hw1 hz1
 refine Goes.adv hTT 400 rfl ?_
 refine Goes.call rfl (shelf_Open_nil w1) ?_
 rintro _ _ ⟨rfl,rfl⟩
 refine Goes.adv hTT 400 rfl ?_
 refine Goes.yes hTT rfl rfl rfl ?_
 refine Goes.build hTT rfl rfl ?_
 refine Goes.store hTT rfl htb rfl rfl ?_
 intro w2 htb2 hs2 hz2
 refine Goes.adv hTT 400 rfl ?_
 exact Goes.ret hTT rfl Tryz.func190 (ResOk.cell rfl rfl rfl htb2 rfl (.tmp rfl .nil)) ⟨rfl,hw1.since hs2 (fun z hz e=>by omega)⟩
theorem shelf_Plan (S:Sh) (G:Nat→Pg) (x:Sm) (pl:PlM) (w:World) (h:ShOk w S G x pl):Does Tryz.prog 190 #[sfV S] w (Grow (.tuple #[.agg (shPlanL x).toArray,.bool (shPlanB x)]) w):=by
 unfold shPlanL shPlanB
 refine Does.enter Tryz.func190 rfl Tryz.ntmps190 rfl rfl ?_
 refine Goes.adv hTT 400 rfl ?_
 refine Goes.alloc hTT rfl ?_
 intro tb w1 e1 htb hw1 hz1
 refine Goes.adv hTT 400 rfl ?_
 have h1:=h.grow hw1
 refine Goes.call rfl (shelf_Open S G x pl w1 h1) ?_
 rintro _ _ ⟨rfl,rfl⟩
 refine Goes.adv hTT 400 rfl ?_
 by_cases ho:2≤x.opn.length
 ·refine Goes.no hTT rfl (decide_eq_false (by omega)) rfl ?_
  rw [if_pos ho,decide_eq_true ho]
  have hlast:∃ k ∈ x.opn,lastI (-1) x.opn=(k:Int):=by
   rcases lastI_mem (-1) x.opn with ⟨e,_⟩ | ⟨a,ha,e,_⟩
   ·rw [e] at ho; simp at ho
   ·exact ⟨a,ha,e⟩
  have hhead:∃ k ∈ x.opn,headI x.opn=(k:Int):=by
   cases hx:x.opn with
   |nil=>rw [hx] at ho; simp at ho
   |cons a r=>exact ⟨a,by simp,rfl⟩
  obtain ⟨a,ha,ea⟩:=hlast
  obtain ⟨b,hb,eb⟩:=hhead
  obtain ⟨p,hp⟩:=h.ok.osub a ha
  obtain ⟨q,hq⟩:=h.ok.osub b hb
  rw [ea,eb,smGet_of h.ok.nodup hp,smGet_of h.ok.nodup hq]
  simp only [Option.getD_some]
  refine Goes.drawn (q:=10) None' hTT mixed (by kernel_rfl) rfl ?_
  intro hB
  refine Drawn.loadb hTT hB rfl h1.at'.obj (by first | exact fun h=>h | (intro h; omega) | assumption) rfl rfl ?_
  refine Drawn.call hTT hB rfl (fun w' hw'=>(ring_Last S.R x.opn w' (h1.at'.ring.grow hw')).grow) rfl ?_
  rw [ea]
  refine Drawn.loadb hTT hB rfl h1.at'.obj (by first | exact fun h=>h | (intro h; omega) | assumption) rfl rfl ?_
  refine Drawn.call hTT hB rfl (fun w' hw'=>(ring_First S.R x.opn w' (h1.at'.ring.grow hw')).grow) rfl ?_
  rw [eb]
  refine Drawn.nil hB ?_
  intro w2 hw2
  refine Goes.adv hTT 400 rfl ?_
  have h2:=h1.grow hw2
  obtain ⟨m,hm,hl⟩:=h2.at'.look a
  obtain ⟨m',hm',hl'⟩:=h2.at'.look b
  rw [smGet_of h.ok.nodup hp] at hl
  rw [smGet_of h.ok.nodup hq] at hl'
  refine Goes.drawn (q:=16) None' hTT mixed (by kernel_rfl) rfl ?_
  intro hB
  refine Drawn.loadb hTT hB rfl h2.at'.obj (by first | exact fun h=>h | (intro h; omega) | assumption) rfl rfl ?_
  refine Drawn.lookup hTT hB rfl (hm) (by first | (intro b h; cases h; assumption) | (intro b h hs; cases h; omega)) (hl) rfl ?_
  refine Drawn.call hTT hB rfl (fun w' hw'=>(page_Top (G a) p w' ((h2.at'.pages _ hp).grow hw')).grow) rfl ?_
  refine Drawn.loadb hTT hB rfl h2.at'.obj (by first | exact fun h=>h | (intro h; omega) | assumption) rfl rfl ?_
  refine Drawn.lookup hTT hB rfl (hm') (by first | (intro b h; cases h; assumption) | (intro b h hs; cases h; omega)) (hl') rfl ?_
  refine Drawn.call hTT hB rfl (fun w' hw'=>page_Hole (G b) q w' ((h2.at'.pages _ hq).grow hw')) rfl ?_
  refine Drawn.nil hB ?_
  intro w3 hw3
  refine Goes.adv hTT 400 rfl ?_
  refine Goes.build hTT rfl rfl ?_
  refine Goes.store hTT rfl (hw3.heap' (hw2.heap' htb)) rfl rfl ?_
  intro w4 htb4 hs4 hz4
  refine Goes.adv hTT 400 rfl ?_
  exact Goes.ret hTT rfl Tryz.func190 (ResOk.cell rfl rfl rfl htb4 rfl (.tmp rfl .nil)) ⟨rfl,((hw1.trans hw2).trans hw3).since hs4 (fun z hz e=>by omega)⟩
 ·refine Goes.yes hTT rfl (decide_eq_true (by omega)) rfl ?_
  rw [if_neg ho,decide_eq_false ho]
  refine Goes.build hTT rfl rfl ?_
  refine Goes.store hTT rfl htb rfl rfl ?_
  intro w2 htb2 hs2 hz2
  refine Goes.adv hTT 400 rfl ?_
  exact Goes.ret hTT rfl Tryz.func190 (ResOk.cell rfl rfl rfl htb2 rfl (.tmp rfl .nil)) ⟨rfl,hw1.since hs2 (fun z hz e=>by omega)⟩
def newSm (cls:Int) (blocks:Nat):Sm:=⟨cls,blocks,[],[]⟩
theorem shelf_New (P:Pl) (pl:PlM) (cls:Int) (k:Nat) (w:World) (ht:TabAt w) (hc:0≤cls) (hk:1≤k∧k≤512) (hP:PoolOk w P pl):Does Tryz.prog 102 #[plV P,.int .i64 cls,.int .i64 k] w
 (fun v w' => ∃ S,S.P=P∧v = .tuple #[sfV S,.int .i64 0]∧(∀ G z,shFoot S G [] z→w.heap.size≤z)∧(∀ G,ShOk w' S G (newSm cls k) pl)∧Chg None' w w'):=by
 refine Does.enter Tryz.func102 rfl Tryz.ntmps102 rfl rfl ?_
 refine Goes.adv hTT 400 rfl ?_
 refine Goes.call rfl (page_New k w ht hk) ?_
 rintro _ w1 ⟨g,rfl,_,_,hw1⟩
 refine Goes.adv hTT 400 rfl ?_
 refine Goes.no hTT rfl (decide_eq_false (by omega)) rfl ?_
 refine Goes.no hTT rfl rfl rfl ?_
 refine Goes.call rfl (ring_New w1) ?_
 rintro _ w2 ⟨R,rfl,⟨hb1,hb2,hb3⟩,hR,hw2⟩
 refine Goes.adv hTT 400 rfl ?_
 refine Goes.mkmap rfl ?_
 intro sm w3 e3 hm3 hw3 hz3
 refine Goes.adv hTT 400 rfl ?_
 refine Goes.build hTT rfl rfl ?_
 refine Goes.alloc hTT rfl ?_
 intro sb w4 e4 hsb hw4 hz4
 refine Goes.adv hTT 400 rfl ?_
 have hw04:=((hw1.trans hw2).trans hw3).trans hw4
 have hs1:=hw1.size
 have hs2:=hw2.size
 have hs3:=hw3.size
 replace hsb:w4.heap[sb]? = some (.cells (shL ⟨sb,sm,R,P⟩ cls k 0).toArray 214 (0,0)):=hsb
 exact Goes.ret2 hTT rfl Tryz.func102 rfl rfl rfl ⟨⟨sb,sm,R,P⟩,rfl,rfl,(fun G z hz=>by
  rcases hz with h | h | (h | h) | ⟨e,he,_⟩
  ·have:z=sb:=h; omega
  ·have:z=sm:=h; omega
  ·have:z=R.ab:=h; omega
  ·have:z=R.nb:=h; omega
  ·cases he),fun G=>⟨⟨List.nodup_nil,hc,hk,(fun e he=>by cases he),List.nodup_nil,(fun e he=>by cases he)⟩,(fun e he=>by cases he),(fun e he=>by cases he),⟨List.nodup_nil,fun j hj=>hw04.cell (ht j hj) id,hsb,⟨[],hm3.chg hw4 id,List.nodup_nil,rfl,(fun e he=>by cases he),fun _ _=>rfl⟩,(hR.grow hw3).grow hw4,(fun e he=>by cases he),(fun e he=>by cases he)⟩,hP.grow hw04⟩,hw04⟩
end Go.Proofs.YtnaoiegcobineaaGreatDoor
namespace Go.Proofs.YtnaoiegcobineaaGreatDoor
open Go.RowKit
def ShSt (F:Nat→Prop) (w:World) (S:Sh) (x:Sm) (pl:PlM):Prop := ∃ G,ShOk w S G x pl ∧ ∀ z,allFoot S G x.pg z→F z
theorem ShSt.grow {F:Nat→Prop} {w w':World} {S:Sh} {x:Sm} {pl:PlM} (h:ShSt F w S x pl) (hc:Chg None' w w'):ShSt F w' S x pl:=by
 obtain ⟨G,a,b⟩:=h
 exact ⟨G,a.grow hc,b⟩
theorem ShOk.foot_lt {w:World} {S:Sh} {G:Nat→Pg} {x:Sm} {pl:PlM} (h:ShOk w S G x pl):∀ z,allFoot S G x.pg z→z<w.heap.size:=fun z hz=>by
 rcases hz with hz | hz | hz
 ·exact h.at'.foot_lt z hz
 ·have:z=S.P.pb:=hz; have:=h.pool.lt; omega
 ·have:z=S.P.ab:=hz; have:=h.pool.lt; omega
theorem ShSt.pool {F:Nat→Prop} {w:World} {S:Sh} {x:Sm} {pl:PlM} (h:ShSt F w S x pl):PoolOk w S.P pl:=by
 obtain ⟨G,a,_⟩:=h
 exact a.pool
theorem ShSt.tab {F:Nat→Prop} {w:World} {S:Sh} {x:Sm} {pl:PlM} (h:ShSt F w S x pl):TabAt w:=by
 obtain ⟨G,a,_⟩:=h
 exact a.at'.tab
end Go.Proofs.YtnaoiegcobineaaGreatDoor
namespace Go.Proofs.YtnaoiegcobineaaGreatDoor
open Go.RowKit
theorem ShSt.mono {F F':Nat→Prop} {w:World} {S:Sh} {x:Sm} {pl:PlM} (h:ShSt F w S x pl) (hF:∀ z,F z→F' z):ShSt F' w S x pl:=by
 obtain ⟨G,a,b⟩:=h
 exact ⟨G,a,fun z hz=>hF z (b z hz)⟩
theorem ShSt.ok {F:Nat→Prop} {w:World} {S:Sh} {x:Sm} {pl:PlM} (h:ShSt F w S x pl):x.Ok∧x.Pos∧x.Of pl∧pl.Good:=by
 obtain ⟨G,a,_⟩:=h
 exact ⟨a.ok,a.pos,a.of,a.pool.good⟩
theorem smSet_length (l:PgL) (n:Nat) (p:List Int):(smSet l n p).length=l.length:=by unfold smSet; simp
theorem shTake_cases (x:Sm) (pl:PlM) (who:Int):(shTakeE x pl who≠0∧shTake x pl who=x∧shTakeP x pl who=pl) ∨
 (shTakeE x pl who=0∧0≤who∧((∃ n r,x.opn=n::r∧shTake x pl who=x.takeAt n (shP x pl) who∧shTakeP x pl who=pl∧shP x pl=(smGet x.pg n).getD []∧shTakeN x pl who=n∧shTakeA x pl who=pgHole (shP x pl)) ∨
  (∃ n r,x.opn = []∧pl.free=n::r∧shTake x pl who=(x.fresh n).takeAt n (shP x pl) who∧shTakeP x pl who=pl.take x.cls∧shP x pl=(smGet (x.fresh n).pg n).getD []∧shTakeN x pl who=n∧shTakeA x pl who=pgHole (shP x pl)))):=by
 by_cases hE:shTakeE x pl who=0
 ·refine .inr ⟨hE,?_,?_⟩
  ·unfold shTakeE at hE
   split at hE
   ·cases hE
   ·omega
  ·have e1:shTake x pl who=(shPre x pl).takeAt (shPage x pl) (shP x pl) who:=by unfold shTake; rw [if_pos hE]
   have e2:shTakeP x pl who=shPl x pl:=by unfold shTakeP; rw [if_pos hE]
   have e3:shTakeN x pl who=shPage x pl:=by unfold shTakeN; rw [if_pos hE]
   have e4:shTakeA x pl who=pgHole (shP x pl):=by unfold shTakeA; rw [if_pos hE]
   have e5:shP x pl=(smGet (shPre x pl).pg (shPage x pl)).getD []:=rfl
   cases ho:x.opn with
   |cons n r =>
    have a1:shPre x pl=x:=by unfold shPre; rw [ho]
    have a2:shPage x pl=n:=by unfold shPage; rw [ho]
    have a3:shPl x pl=pl:=by unfold shPl; rw [ho]
    refine .inl ⟨n,r,rfl,?_,?_,?_,?_,e4⟩
    ·rw [e1,a1,a2]
    ·rw [e2,a3]
    ·rw [e5,a1,a2]
    ·rw [e3,a2]
   |nil =>
    cases hf:pl.free with
    |nil =>
     unfold shTakeE at hE
     split at hE
     ·cases hE
     ·rw [if_pos (by rw [ho,hf]; exact ⟨rfl,rfl⟩)] at hE; cases hE
    |cons n r =>
     have a1:shPre x pl=x.fresh n:=by unfold shPre; rw [ho,hf]; rfl
     have a2:shPage x pl=n:=by unfold shPage; rw [ho,hf]; rfl
     have a3:shPl x pl=pl.take x.cls:=by unfold shPl; rw [ho]
     refine .inr ⟨n,r,rfl,rfl,?_,?_,?_,?_,e4⟩
     ·rw [e1,a1,a2]
     ·rw [e2,a3]
     ·rw [e5,a1,a2]
     ·rw [e3,a2]
 ·exact .inl ⟨hE,by unfold shTake; rw [if_neg hE],by unfold shTakeP; rw [if_neg hE]⟩
end Go.Proofs.YtnaoiegcobineaaGreatDoor
namespace Go.Proofs.YtnaoiegcobineaaGreatDoor
open Go.RowKit
theorem smGet_set_eq {l:PgL} {n:Nat} {p q:List Int} (hn:(l.map (·.1)).Nodup) (hq:(n,q) ∈ l):smGet (smSet l n p) n=some p :=
 smGet_of (by rw [smSet_fst]; exact hn) (List.mem_map.2 ⟨(n,q),hq,if_pos rfl⟩)
end Go.Proofs.YtnaoiegcobineaaGreatDoor
namespace Go.Proofs.YtnaoiegcobineaaGreatDoor
open Go.RowKit
def Rows {α:Type} (cells:α→List Value) (sz:Nat) (w:World) (a:Option Addr) (xs:List α):Prop :=
 ∀ i x,xs[i]? = some x → ∃ b off,a=some ⟨b,off,none⟩ ∧ ∀ j v,(cells x)[j]? = some v→w.cell? ⟨b,off+i*sz+j,none⟩=some v
theorem Rows.chg {α:Type} {cells:α→List Value} {sz:Nat} {w w':World} {a:Option Addr} {xs:List α} (h:Rows cells sz w a xs) (hc:Chg None' w w'):Rows cells sz w' a xs:=fun i x hx=>by
 obtain ⟨b,off,e,hcell⟩:=h i x hx
 exact ⟨b,off,e,fun j v hv=>below_cell hc.below (hcell j v hv)⟩
theorem Rows.at {α:Type} {cells:α→List Value} {sz:Nat} {w:World} {a:Option Addr} {xs:List α} (h:Rows cells sz w a xs) {i:Nat} (hi:i<xs.length) :
 ∃ b off,a=some ⟨b,off,none⟩ ∧ ∀ j v,(cells xs[i])[j]? = some v→w.cell? ⟨b,off+i*sz+j,none⟩=some v:=h i xs[i] (List.getElem?_eq_getElem hi)
def OutA (S:Nat→Prop) (a:Option Addr):Prop := ∀ b off s,a=some ⟨b,off,s⟩ → ¬ S b
theorem OutA.fresh {S:Nat→Prop} {w:World} {g off:Nat} (hg:w.heap.size≤g) (hS:∀ b,S b→b<w.heap.size):OutA S (some ⟨g,off,none⟩):=fun b off' s e hb=>by cases e; have:=hS _ hb; omega
theorem Rd.far {k:IntKind} {w w':World} {a:Option Addr} {zs:List Int} {S:Nat→Prop} (h:Rd k w a zs) (hs:OutA S a) (hc:Chg S w w'):Rd k w' a zs:=(RdS.chg ⟨h,fun b off s e _=>hs b off s e⟩ hc).1
theorem OutA.mono {S S':Nat→Prop} {a:Option Addr} (h:OutA S a) (hs:∀ z,S' z→S z):OutA S' a:=fun b off s e hb=>h b off s e (hs _ hb)
end Go.Proofs.YtnaoiegcobineaaGreatDoor
namespace Go.Proofs.YtnaoiegcobineaaGreatDoor
open Go.RowKit
structure IL where
 a:Option Addr
 cap:Nat
 x:List Int
abbrev ilV (l:IL):Value := .slice l.a l.x.length l.cap
structure IlOk (w:World) (l:IL):Prop where
 rd:Rd .i64 w l.a l.x
 len:l.x.length≤512
theorem IlOk.grow {w w':World} {l:IL} (h:IlOk w l) (hc:Chg None' w w'):IlOk w' l:=⟨h.rd.chg hc,h.len⟩
theorem IlOk.far {w w':World} {l:IL} {S:Nat→Prop} (h:IlOk w l) (hs:OutA S l.a) (hc:Chg S w w'):IlOk w' l :=
 ⟨(RdS.chg ⟨h.rd,fun b off s e _=>hs b off s e⟩ hc).1,h.len⟩
theorem getD_m1 {x:List Int} {i:Nat} (h:i<x.length):x.getD i (-1)=x.getD i 0:=by
 rw [List.getD_eq_getElem?_getD,List.getD_eq_getElem?_getD,List.getElem?_eq_getElem h]; rfl
theorem IlOk.at {w:World} {l:IL} (h:IlOk w l) {i:Nat} (hi:i<l.x.length):∃ b off,l.a=some ⟨b,off,none⟩∧w.cell? ⟨b,off+i,none⟩=some (.int .i64 (l.x.getD i (-1))):=by
 obtain ⟨b,off,e,hc⟩:=h.rd i hi
 exact ⟨b,off,e,by rw [getD_m1 hi]; exact hc⟩
end Go.Proofs.YtnaoiegcobineaaGreatDoor
namespace Go.Proofs.YtnaoiegcobineaaGreatDoor
open Go.RowKit
def ALt (w:World) (a:Option Addr):Prop := ∀ b off s,a=some ⟨b,off,s⟩→b<w.heap.size
def Fresh (w:World) (a:Option Addr):Prop := ∀ b off s,a=some ⟨b,off,s⟩→w.heap.size≤b
structure IlX (w:World) (l:IL):Prop where
 ok:IlOk w l
 cap:l.x.length≤l.cap
 lt:ALt w l.a
theorem ALt.grow {w w':World} {a:Option Addr} (h:ALt w a) (hs:w.heap.size≤w'.heap.size):ALt w' a:=fun b off s e=>by have:=h b off s e; omega
theorem IlX.grow {w w':World} {l:IL} (h:IlX w l) (hc:Chg None' w w'):IlX w' l:=⟨h.ok.grow hc,h.cap,h.lt.grow hc.size⟩
theorem IlX.far {w w':World} {l:IL} {S:Nat→Prop} (h:IlX w l) (hs:OutA S l.a) (hc:Chg S w w'):IlX w' l:=⟨h.ok.far hs hc,h.cap,h.lt.grow hc.size⟩
theorem ALt.out {w:World} {a:Option Addr} {S:Nat→Prop} (h:ALt w a) (hs:∀ z,S z→w.heap.size≤z):OutA S a:=fun b off s e hz=>by
 have:=h b off s e
 have:=hs b hz
 omega
theorem Fresh.out {w:World} {a:Option Addr} {S:Nat→Prop} (h:Fresh w a) (hs:∀ z,S z→z<w.heap.size):OutA S a:=fun b off s e hz=>by
 have:=h b off s e
 have:=hs b hz
 omega
theorem Rd.cellsA {k:IntKind} {w:World} {a:Option Addr} {x:List Int} (h:Rd k w a x):∀ i u,(x.map (Value.int k))[i]? = some u → ∃ a',a=some a'∧w.cell? (a'.add i)=some u:=fun i u hu=>by
 have hi:i<x.length:=by have:=(List.getElem?_eq_some_iff.1 hu).1; simpa using this
 obtain ⟨b,off,rfl,_⟩:=h i hi
 exact ⟨_,rfl,h.cells i u hu⟩
theorem Rd.noneA {w:World} {a:Option Addr} {x:List Int} {k:IntKind} (h:Rd k w a x):a=none→x.length=0:=fun e=>by
 cases x with
 |nil=>rfl
 |cons z r =>
  obtain ⟨b,off,e',_⟩:=h 0 (by simp)
  rw [e] at e'; cases e'
theorem Own.il {base m:Nat} {w:World} {v:Value} {x:List Int} (h:Own base 3 1 w v m (x.map (Value.int .i64))) (hm:x.length=m) (hx:x.length≤512) :
 ∃ l:IL,v=ilV l∧l.x=x∧IlX w l ∧ ∀ b off s,l.a=some ⟨b,off,s⟩→base≤b:=by
 rcases h.2 with ⟨rfl,h2⟩ | ⟨g,cap,cur,rfl,hg,hh,hcap,hm2,_,hx2⟩
 ·have:x = []:=List.length_eq_zero_iff.1 (by omega)
  subst this
  exact ⟨⟨none,0,[]⟩,rfl,rfl,⟨⟨Rd.nil _ _ _,hx⟩,Nat.le_refl _,(by intro b off s e; cases e)⟩,(by intro b off s e; cases e)⟩
 ·subst hm
  exact ⟨⟨some ⟨g,0,none⟩,cap,x⟩,rfl,rfl,⟨⟨Rd.of_take hh (by simpa using hx2),hx⟩,hcap,(by intro b off s e; cases e; exact lt_of_heap hh)⟩,(by intro b off s e; cases e; exact hg)⟩
theorem Own.one {base b:Nat} {w:World} {t:TypeId} {u:Value} (hb:base≤b) (h:w.heap[b]? = some (.cells #[u] t (0,0))):Own base t 1 w (.slice (some ⟨b,0,none⟩) 1 1) 1 [u] :=
 ⟨by simp,.inr ⟨b,1,#[u],rfl,hb,h,Nat.le_refl _,by decide,by simp,by simp⟩⟩
structure RP where
 o:IL
 f:IL
def rpL (r:RP):List Value := [ilV r.o,ilV r.f]
structure RpOk (w:World) (r:RP) (pl:PlM):Prop where
 o:IlX w r.o
 f:IlX w r.f
 eo:r.o.x=pl.own
 ef:r.f.x=pl.free.map (fun n:Nat=>(n:Int))
theorem RpOk.grow {w w':World} {r:RP} {pl:PlM} (h:RpOk w r pl) (hc:Chg None' w w'):RpOk w' r pl:=⟨h.o.grow hc,h.f.grow hc,h.eo,h.ef⟩
def IL.sl (l:IL) (lo hi:Nat):IL:=⟨shiftA l.a l.cap lo 1,l.cap - lo,(l.x.drop lo).take (hi - lo)⟩
theorem shiftA_blk {a:Option Addr} {cap l sz:Nat} {b off:Nat} {s:Option Nat} (h:shiftA a cap l sz=some ⟨b,off,s⟩):∃ off' s',a=some ⟨b,off',s'⟩:=by
 unfold shiftA at h
 by_cases hc:cap=l
 ·rw [if_pos hc] at h; exact ⟨off,s,h⟩
 ·rw [if_neg hc] at h
  cases a with
  |none=>cases h
  |some x =>
   obtain ⟨xb,xo,xs⟩:=x
   simp only [Option.map_some,Option.some.injEq] at h
   unfold Addr.add at h
   refine ⟨xo,xs,?_⟩
   have hb:xb=b:=by split at h <;> (cases h; rfl)
   rw [hb]
theorem IlX.sl {w:World} {l:IL} (h:IlX w l) {lo hi:Nat} (h1:lo≤hi) (h2:hi≤l.x.length):IlX w (l.sl lo hi)∧(l.sl lo hi).x.length=hi - lo:=by
 have hlen:((l.x.drop lo).take (hi - lo)).length=hi - lo:=by rw [List.length_take,List.length_drop]; omega
 have hc:=h.cap
 have hl:=h.ok.len
 refine ⟨⟨⟨h.ok.rd.shift (by omega) hc,by show ((l.x.drop lo).take (hi - lo)).length≤512; omega⟩,by show ((l.x.drop lo).take (hi - lo)).length≤l.cap - lo; omega,fun b off s e => ?_⟩,hlen⟩
 obtain ⟨off',s',e'⟩:=shiftA_blk e
 exact h.lt b off' s' e'
end Go.Proofs.YtnaoiegcobineaaGreatDoor
namespace Go.Proofs.YtnaoiegcobineaaGreatDoor
open Go.RowKit
theorem Own.isSlice {base t size m:Nat} {w:World} {v:Value} {xs:List Value} (h:Own base t size w v m xs):∃ a n c,v = .slice a n c:=by
 rcases h.2 with ⟨h,_⟩ | ⟨g,cap,cur,h,_⟩
 ·exact ⟨_,_,_,h⟩
 ·exact ⟨_,_,_,h⟩
theorem range_map_succ (i:Nat):((List.range (i+1)).map (fun n:Nat=>(n:Int))).map (Value.int .i64)=((List.range i).map (fun n:Nat=>(n:Int))).map (Value.int .i64) ++ [.int .i64 (i:Int)]:=by
 rw [List.range_succ,List.map_append,List.map_append]; rfl
theorem ref08_New (N:Nat) (w:World) (hN:1≤N∧N≤512):Does Tryz.prog 163 #[.int .i64 N] w
 (fun v w' => ∃ r,v = .tuple #[.agg (rpL r).toArray,.int .i64 0]∧RpOk w' r (plNew N)∧Fresh w r.o.a∧Fresh w r.f.a∧Chg None' w w'):=by
 have hml:maxLen=9223372036854775807:=rfl
 refine Does.enter Tryz.func163 rfl Tryz.ntmps163 rfl rfl ?_
 refine Goes.adv hTT 400 rfl ?_
 refine Goes.alloc hTT rfl ?_
 intro qb w1 e1 hqb hw1 hz1
 refine Goes.adv hTT 400 rfl ?_
 refine Goes.alloc hTT rfl ?_
 intro tb w2 e2 htb hw2 hz2
 refine Goes.adv hTT 400 rfl ?_
 replace htb:w2.heap[tb]? = some (.cells ([.slice none 0 0,.slice none 0 0]:List Value).toArray 40 (0,0)):=htb
 have hw02:=hw1.trans hw2
 refine Goes.no hTT rfl (decide_eq_false (by omega)) rfl ?_
 refine Goes.no hTT rfl (decide_eq_false (by omega)) rfl ?_
 have htl:=lt_of_heap htb
 have hql:=lt_of_heap hqb
 refine Goes.loop (α:=Nat × Value × Value) (fun p => [(0,false,.int .i64 N),(2,false,.pointer (some ⟨qb,0,none⟩)),(4,false,.pointer (some ⟨tb,0,none⟩)),(5,false,.int .i64 p.1)])
  (fun p w'=>p.1≤N∧w'.heap[tb]? = some (.cells ([p.2.1,p.2.2]:List Value).toArray 40 (0,0))∧Own w2.heap.size 3 1 w' p.2.1 p.1 ((List.replicate p.1 (-1)).map (Value.int .i64))∧Own w2.heap.size 3 1 w' p.2.2 p.1 (((List.range p.1).map (fun n:Nat=>(n:Int))).map (Value.int .i64))∧(∀ b,some b=p.2.1.ownBlock→some b≠p.2.2.ownBlock)∧Chg (fun z=>z=tb) w2 w')
  (fun p=>N - p.1) (0,.slice none 0 0,.slice none 0 0) ⟨rfl,rfl,rfl,rfl,trivial⟩ ⟨Nat.zero_le _,htb,World.ownsRow_nil _ _ _ _,World.ownsRow_nil _ _ _ _,(fun b h=>by cases h),Chg.refl _ _⟩ ?_
 rintro ⟨i,vo,vf⟩ w3 ⟨hi,htb3,hoo,hof,hne,hs3⟩ ih
 simp only at hi htb3 hoo hof hne
 have hsz3:=hs3.size
 refine Goes.adv hTT 400 rfl ?_
 refine Goes.fork hTT rfl rfl rfl (fun hc => ?_) (fun hc => ?_)
 ·have hlt:i<N:=by have:=of_decide_eq_true hc; omega
  refine Goes.loadb hTT rfl htb3 rfl rfl ?_
  refine Goes.buildSlice hTT rfl ?_
  intro b4 w4 e4 hb4 hw4 hz4
  refine Goes.adv hTT 400 rfl ?_
  have hoo4:=hoo.chg hw4 (fun _ _ h=>h)
  have hof4:=hof.chg hw4 (fun _ _ h=>h)
  have htb4:=hw4.heap' htb3
  refine Goes.append (base:=w2.heap.size) (xs:=(List.replicate i (-1)).map (Value.int .i64)) (news := [.int .i64 (-1)]) hTT rfl hoo4 (by omega) (by simp) (cells1 hb4) (by simp [Value.oneCell']) (by simp only; omega) ?_
  intro vo' w5 hoo5 hs5 hv5
  obtain ⟨oa5,on5,oc5,rfl⟩:=Own.isSlice hoo5
  refine Goes.adv hTT 400 rfl ?_
  have hz5:=hs5.size
  have htb5:=hs5.heap htb4 (fun e=>by have:=(World.ownsRow.lt hoo4 tb (Eq.symm e)).1; omega)
  have hof5:=hof4.chg hs5 (fun b hb e=>hne b e hb)
  refine Goes.store hTT rfl htb5 rfl rfl ?_
  intro w6 htb6 hs6 hz6
  refine Goes.adv hTT 400 rfl ?_
  have hoo6:=hoo5.chg hs6 (fun b hb e=>by have:=(World.ownsRow.lt hoo5 b hb.symm).1; omega)
  have hof6:=hof5.chg hs6 (fun b hb e=>by have:=(World.ownsRow.lt hof5 b hb.symm).1; omega)
  have hne':∀ b,some b=(Value.slice oa5 on5 oc5).ownBlock→some b≠vf.ownBlock:=fun b hb e=>by
   rcases hv5.2 with h | h
   ·exact hne b (hb.trans h) e
   ·rw [h] at hb
    have e1:=Option.some.inj hb
    have:=(World.ownsRow.lt hof4 b e.symm).2
    omega
  replace htb6:w6.heap[tb]? = some (.cells ([.slice oa5 on5 oc5,vf]:List Value).toArray 40 (0,0)):=htb6
  refine Goes.loadb hTT rfl htb6 rfl rfl ?_
  refine Goes.buildSlice hTT rfl ?_
  intro b7 w7 e7 hb7 hw7 hz7
  refine Goes.adv hTT 400 rfl ?_
  have hoo7:=hoo6.chg hw7 (fun _ _ h=>h)
  have hof7:=hof6.chg hw7 (fun _ _ h=>h)
  have htb7:=hw7.heap' htb6
  refine Goes.append (base:=w2.heap.size) (xs:=((List.range i).map (fun n:Nat=>(n:Int))).map (Value.int .i64)) (news := [.int .i64 (i:Int)]) hTT rfl hof7 (by omega) (by simp) (cells1 hb7) (by simp [Value.oneCell']) (by simp only; omega) ?_
  intro vf' w8 hof8 hs8 hv8
  obtain ⟨fa8,fn8,fc8,rfl⟩:=Own.isSlice hof8
  refine Goes.adv hTT 400 rfl ?_
  have htb8:=hs8.heap htb7 (fun e=>by have:=(World.ownsRow.lt hof7 tb (Eq.symm e)).1; omega)
  have hoo8:=hoo7.chg hs8 (fun b hb e=>hne' b hb e)
  refine Goes.store hTT rfl htb8 rfl rfl ?_
  intro w9 htb9 hs9 hz9
  refine Goes.adv hTT 400 rfl ?_
  replace htb9:w9.heap[tb]? = some (.cells ([.slice oa5 on5 oc5,.slice fa8 fn8 fc8]:List Value).toArray 40 (0,0)):=htb9
  have hoo9:=hoo8.chg hs9 (fun b hb e=>by have:=(World.ownsRow.lt hoo8 b hb.symm).1; omega)
  have hof9:=hof8.chg hs9 (fun b hb e=>by have:=(World.ownsRow.lt hof8 b hb.symm).1; omega)
  have hne9:∀ b,some b=(Value.slice oa5 on5 oc5).ownBlock→some b≠(Value.slice fa8 fn8 fc8).ownBlock:=fun b hb e=>by
   rcases hv8.2 with h | h
   ·exact hne' b hb (e.trans h)
   ·rw [h] at e
    have e1:=Option.some.inj e
    have:=(World.ownsRow.lt hoo7 b hb.symm).2
    omega
  have hS:Chg (fun z=>z=tb) w2 w9:=by
   have a1:Chg (fun z=>z=tb) w2 w5:=(hs3.trans (hw4.mono fun _ _ h=>h.elim)).since hs5 (fun z hz e=>by have:=(World.ownsRow.lt hoo4 z (Eq.symm e)).1; omega)
   have a2:=(a1.trans hs6).trans (hw7.mono (fun _ _ h=>h.elim):Chg (fun z=>z=tb) w6 w7)
   exact (a2.since hs8 (fun z hz e=>by have:=(World.ownsRow.lt hof7 z (Eq.symm e)).1; omega)).trans hs9
  refine Goes.arith hTT rfl (w64 (by omega)) rfl ?_
  exact ih (i+1,.slice oa5 on5 oc5,.slice fa8 fn8 fc8) _ _ ⟨hlt,htb9,by
   have e:(List.replicate (i+1) (-1:Int)).map (Value.int .i64)=(List.replicate i (-1)).map (Value.int .i64) ++ [.int .i64 (-1)]:=by rw [List.replicate_succ',List.map_append]; rfl
   rw [e]; exact hoo9,by rw [range_map_succ]; exact hof9,hne9,hS⟩ (by simp only; omega) ⟨rfl,rfl,rfl,rfl,trivial⟩
 ·have hge:i=N:=by have:=of_decide_eq_false hc; omega
  subst hge
  obtain ⟨ol,holv,holx,holX,holb⟩:=Own.il (x:=List.replicate i (-1)) hoo (by simp) (by simp; omega)
  obtain ⟨fl,hflv,hflx,hflX,hflb⟩:=Own.il (x:=(List.range i).map (fun n:Nat=>(n:Int))) hof (by simp) (by simp; omega)
  subst holv
  subst hflv
  refine Goes.loads hTT rfl htb3 rfl rfl ?_
  have hqb3:=hs3.heap (hw2.heap' hqb) (show ¬ qb=tb by omega)
  refine Goes.store hTT rfl hqb3 rfl rfl ?_
  intro w4 hqb4 hs4 hz4
  refine Goes.adv hTT 400 rfl ?_
  replace hqb4:w4.heap[qb]? = some (.cells (rpL ⟨ol,fl⟩).toArray 40 (0,0)):=hqb4
  have hw03:Chg None' w w3:=hw02.since hs3 (fun z hz e=>by have:=hw1.size; omega)
  have hs02:=hw02.size
  exact Goes.ret hTT rfl Tryz.func163 (ResOk.cell rfl rfl rfl hqb4 rfl (.tmp rfl .nil)) ⟨⟨ol,fl⟩,rfl,⟨holX.far (by intro b off s e hz; have:=holb b off s e; omega) hs4,hflX.far (by intro b off s e hz; have:=hflb b off s e; omega) hs4,holx,hflx⟩,fun b off s e=>by have:=holb b off s e; omega,fun b off s e=>by have:=hflb b off s e; omega,hw03.since hs4 (fun z hz e=>by have:=hw1.size; omega)⟩
end Go.Proofs.YtnaoiegcobineaaGreatDoor
namespace Go.Proofs.YtnaoiegcobineaaGreatDoor
open Go.RowKit
structure RS where
 p:RP
 cls:Int
 blocks:Nat
 nums:IL
 pa:Option Addr
 pcap:Nat
 ps:List IL
 opn:IL
def rsL (r:RS):List Value := [ilV r.p.o,ilV r.p.f,.int .i64 r.cls,.int .i64 (r.blocks:Int),ilV r.nums,.slice r.pa r.ps.length r.pcap,ilV r.opn]
def RdP (w:World) (a:Option Addr) (ps:List IL):Prop := ∀ (i:Nat) (l:IL),ps[i]? = some l → ∃ b off,a=some ⟨b,off,none⟩∧w.cell? ⟨b,off+i,none⟩=some (ilV l)
theorem RdP.grow {w w':World} {a:Option Addr} {ps:List IL} (h:RdP w a ps) (hc:Chg None' w w'):RdP w' a ps:=fun i l hl=>by
 obtain ⟨b,off,e,hcell⟩:=h i l hl
 exact ⟨b,off,e,hc.cell hcell id⟩
theorem RdP.far {w w':World} {a:Option Addr} {ps:List IL} {S:Nat→Prop} (h:RdP w a ps) (hs:OutA S a) (hc:Chg S w w'):RdP w' a ps:=fun i l hl=>by
 obtain ⟨b,off,e,hcell⟩:=h i l hl
 exact ⟨b,off,e,hc.cell hcell (hs b off none e)⟩
theorem RdP.noneA {w:World} {a:Option Addr} {ps:List IL} (h:RdP w a ps):a=none→ps.length=0:=fun e=>by
 cases ps with
 |nil=>rfl
 |cons l r =>
  obtain ⟨b,off,e',_⟩:=h 0 l rfl
  rw [e] at e'; cases e'
theorem RdP.cellsA {w:World} {a:Option Addr} {ps:List IL} (h:RdP w a ps):∀ i u,(ps.map ilV)[i]? = some u → ∃ a',a=some a'∧w.cell? (a'.add i)=some u:=fun i u hu=>by
 rw [List.getElem?_map,Option.map_eq_some_iff] at hu
 obtain ⟨l,hl,rfl⟩:=hu
 obtain ⟨b,off,rfl,hc⟩:=h i l hl
 exact ⟨_,rfl,by rw [add_off]; exact hc⟩
theorem Own.pl {base m:Nat} {w:World} {v:Value} {ps:List IL} (h:Own base 22 1 w v m (ps.map ilV)) (hm:ps.length=m) :
 ∃ pa pcap,v = .slice pa ps.length pcap∧RdP w pa ps∧ALt w pa∧ps.length≤pcap ∧ ∀ b off s,pa=some ⟨b,off,s⟩→base≤b:=by
 rcases h.2 with ⟨rfl,h2⟩ | ⟨g,cap,cur,rfl,hg,hh,hcap,hm2,_,hx2⟩
 ·have:ps = []:=List.length_eq_zero_iff.1 (by omega)
  subst this
  exact ⟨none,0,rfl,(fun i l hl=>by simp at hl),(by intro b off s e; cases e),Nat.le_refl _,(by intro b off s e; cases e)⟩
 ·subst hm
  refine ⟨some ⟨g,0,none⟩,cap,rfl,fun i l hl=>⟨g,0,rfl,?_⟩,(by intro b off s e; cases e; exact lt_of_heap hh),hcap,(by intro b off s e; cases e; exact hg)⟩
  have hi:i<ps.length:=(List.getElem?_eq_some_iff.1 hl).1
  have h1:(cur.toList.take ps.length)[i]? = (ps.map ilV)[i]?:=by rw [← hx2,Nat.mul_one]
  rw [List.getElem?_take,if_pos hi,List.getElem?_map,hl] at h1
  rw [cell_of hh,Nat.zero_add,← Array.getElem?_toList,h1]
  rfl
structure IlY (w:World) (l:IL):Prop where
 ok:IlOk w l
 lt:ALt w l.a
theorem IlY.grow {w w':World} {l:IL} (h:IlY w l) (hc:Chg None' w w'):IlY w' l:=⟨h.ok.grow hc,h.lt.grow hc.size⟩
theorem IlY.far {w w':World} {l:IL} {S:Nat→Prop} (h:IlY w l) (hs:OutA S l.a) (hc:Chg S w w'):IlY w' l:=⟨h.ok.far hs hc,h.lt.grow hc.size⟩
theorem IlY.of {w:World} {l:IL} (h:IlOk w l) (hp:0<l.x.length):IlY w l:=⟨h,fun b off s e=>by
 obtain ⟨b',off',e',hc⟩:=h.rd 0 hp
 rw [e] at e'; cases e'
 exact World.block_lt_of_cell? w _ hc⟩
structure RsOk (w:World) (r:RS) (x:Sm) (pl:PlM):Prop where
 p:RpOk w r.p pl
 nums:IlX w r.nums
 opn:IlX w r.opn
 rp:RdP w r.pa r.ps
 plt:ALt w r.pa
 pcap:r.ps.length≤r.pcap
 each:∀ l ∈ r.ps,IlY w l
 e1:r.cls=x.cls
 e2:r.blocks=x.blocks
 e3:r.nums.x=x.pg.map (fun e=>((e.1:Nat):Int))
 e4:r.ps.map (·.x)=x.pg.map (·.2)
 e5:r.opn.x=x.opn.map (fun n:Nat=>(n:Int))
structure RsOut (S:Nat→Prop) (r:RS):Prop where
 o:OutA S r.p.o.a
 f:OutA S r.p.f.a
 nums:OutA S r.nums.a
 opn:OutA S r.opn.a
 pa:OutA S r.pa
 each:∀ l ∈ r.ps,OutA S l.a
theorem RsOk.grow {w w':World} {r:RS} {x:Sm} {pl:PlM} (h:RsOk w r x pl) (hc:Chg None' w w'):RsOk w' r x pl :=
 ⟨h.p.grow hc,h.nums.grow hc,h.opn.grow hc,h.rp.grow hc,h.plt.grow hc.size,h.pcap,fun l hl=>(h.each l hl).grow hc,h.e1,h.e2,h.e3,h.e4,h.e5⟩
theorem RsOk.far {w w':World} {r:RS} {x:Sm} {pl:PlM} {S:Nat→Prop} (h:RsOk w r x pl) (ho:RsOut S r) (hc:Chg S w w'):RsOk w' r x pl :=
 ⟨⟨h.p.o.far ho.o hc,h.p.f.far ho.f hc,h.p.eo,h.p.ef⟩,h.nums.far ho.nums hc,h.opn.far ho.opn hc,h.rp.far ho.pa hc,h.plt.grow hc.size,h.pcap,fun l hl=>(h.each l hl).far (ho.each l hl) hc,h.e1,h.e2,h.e3,h.e4,h.e5⟩
theorem RsOk.out {w:World} {r:RS} {x:Sm} {pl:PlM} {S:Nat→Prop} (h:RsOk w r x pl) (hs:∀ z,S z→w.heap.size≤z):RsOut S r :=
 ⟨h.p.o.lt.out hs,h.p.f.lt.out hs,h.nums.lt.out hs,h.opn.lt.out hs,h.plt.out hs,fun l hl=>(h.each l hl).lt.out hs⟩
def Keep (w:World) (r r':RS):Prop := ∀ S:Nat→Prop,(∀ z,S z→z<w.heap.size)→RsOut S r→RsOut S r'
theorem Keep.refl (w:World) (r:RS):Keep w r r:=fun _ _ h=>h
theorem Keep.trans {w w1:World} {r r1 r2:RS} (h:Keep w r r1) (h':Keep w1 r1 r2) (hs:w.heap.size≤w1.heap.size):Keep w r r2:=fun S hS ho =>
 h' S (fun z hz=>by have:=hS z hz; omega) (h S hS ho)
end Go.Proofs.YtnaoiegcobineaaGreatDoor
namespace Go.Proofs.YtnaoiegcobineaaGreatDoor
open Go.RowKit
theorem RsOk.few {w:World} {r:RS} {x:Sm} {pl:PlM} (h:RsOk w r x pl) (hok:x.Ok) (hof:x.Of pl):x.pg.length≤512∧x.opn.length≤512∧pl.own.length≤512:=by
 have ho:=h.p.o.ok.len
 rw [h.p.eo] at ho
 have h1:(x.pg.map (·.1)).length≤pl.own.length:=nodup_le _ _ hok.nodup (fun n hn=>by obtain ⟨e,he,rfl⟩:=List.mem_map.1 hn; exact (hof e he).1)
 rw [List.length_map] at h1
 have h2:=nodup_le pl.own.length x.opn hok.onodup (fun n hn=>by obtain ⟨p,hp⟩:=hok.osub n hn; exact (hof _ hp).1)
 exact ⟨by omega,by omega,ho⟩
theorem RpOk.out {w:World} {r:RP} {pl:PlM} {S:Nat→Prop} (h:RpOk w r pl) (hs:∀ z,S z→w.heap.size≤z):OutA S r.o.a∧OutA S r.f.a:=⟨h.o.lt.out hs,h.f.lt.out hs⟩
end Go.Proofs.YtnaoiegcobineaaGreatDoor
namespace Go.Proofs.YtnaoiegcobineaaGreatDoor
open Go.RowKit
end Go.Proofs.YtnaoiegcobineaaGreatDoor
namespace Go.Proofs.YtnaoiegcobineaaGreatDoor
open Go.RowKit
end Go.Proofs.YtnaoiegcobineaaGreatDoor
namespace Go.Proofs.YtnaoiegcobineaaGreatDoor
open Go.RowKit
end Go.Proofs.YtnaoiegcobineaaGreatDoor
namespace Go.Proofs.YtnaoiegcobineaaGreatDoor
open Go.RowKit
theorem RdP.shift {w:World} {a:Option Addr} {ps:List IL} {cap lo k:Nat} (h:RdP w a ps) (hm:lo+k≤ps.length) (hc:ps.length≤cap):RdP w (shiftA a cap lo 1) ((ps.drop lo).take k):=fun i l hl=>by
 have hi:i<((ps.drop lo).take k).length:=(List.getElem?_eq_some_iff.1 hl).1
 have hi':i<k:=by rw [List.length_take] at hi; omega
 rw [List.getElem?_take,if_pos hi',List.getElem?_drop] at hl
 obtain ⟨b,off,rfl,hcell⟩:=h (lo+i) l hl
 have hcl:¬ cap=lo:=by omega
 refine ⟨b,off+lo,?_,?_⟩
 ·simp only [shiftA,if_neg hcl,Option.map_some,Nat.mul_one,add_off]
 ·rw [Nat.add_assoc]; exact hcell
end Go.Proofs.YtnaoiegcobineaaGreatDoor
namespace Go.Proofs.YtnaoiegcobineaaGreatDoor
open Go.RowKit
def whole (n q:Int):Int:=if n<1∨q<1 then 0 else n / q
theorem whole_yes {n q:Int} (h:1≤n) (h':1≤q):whole n q=n / q:=by unfold whole; rw [if_neg (by omega)]
theorem whole_no {n q:Int} (h:n<1∨q<1):whole n q=0:=by unfold whole; rw [if_pos h]
theorem unit_none1 (x:Int) (w:World):Does Tryz.prog 243 #[.int .i64 x] w (Same (.bool (decide (x<1))) w):=by
 refine Does.enter Tryz.func243 rfl Tryz.ntmps243 rfl rfl ?_
 refine Goes.adv hTT 400 rfl ?_
 exact Goes.ret1 hTT rfl Tryz.func243 rfl rfl ⟨rfl,rfl⟩
theorem unit_either (x y:Int) (w:World):Does Tryz.prog 242 #[.int .i64 x,.int .i64 y,.func (.func 243) #[] #[]] w (Same (.bool (decide (x<1∨y<1))) w):=by
 refine Does.enter Tryz.func242 rfl Tryz.ntmps242 rfl rfl ?_
 refine Goes.adv hTT 400 rfl ?_
 refine Goes.call rfl (unit_none1 x w) ?_
 rintro _ _ ⟨rfl,rfl⟩
 refine Goes.adv hTT 400 rfl ?_
 refine Goes.fork hTT rfl rfl rfl (fun h => ?_) (fun h => ?_)
 ·exact Goes.ret1 hTT rfl Tryz.func242 rfl rfl ⟨bool_v (by simp at h; simp [h]),rfl⟩
 ·refine Goes.call rfl (unit_none1 y w) ?_
  rintro _ _ ⟨rfl,rfl⟩
  refine Goes.adv hTT 400 rfl ?_
  exact Goes.ret1 hTT rfl Tryz.func242 rfl rfl ⟨bool_v (by simp at h; simp [show ¬ x<1 from by omega]),rfl⟩
theorem unit_none (x y:Int) (w:World):Does Tryz.prog 205 #[.int .i64 x,.int .i64 y] w (Same (.bool (decide (x<1∨y<1))) w):=by
 refine Does.enter Tryz.func205 rfl Tryz.ntmps205 rfl rfl ?_
 refine Goes.adv hTT 400 rfl ?_
 refine Goes.call rfl (unit_either x y w) ?_
 rintro _ _ ⟨rfl,rfl⟩
 refine Goes.adv hTT 400 rfl ?_
 exact Goes.ret1 hTT rfl Tryz.func205 rfl rfl ⟨rfl,rfl⟩
theorem unit_Whole (n q:Int) (w:World) (hn:n≤9223372036854775807):Does Tryz.prog 162 #[.int .i64 n,.int .i64 q] w (Same (.int .i64 (whole n q)) w):=by
 refine Does.enter Tryz.func162 rfl Tryz.ntmps162 rfl rfl ?_
 refine Goes.adv hTT 400 rfl ?_
 refine Goes.call rfl (unit_none n q w) ?_
 rintro _ _ ⟨rfl,rfl⟩
 refine Goes.adv hTT 400 rfl ?_
 refine Goes.fork hTT rfl rfl rfl (fun h => ?_) (fun h => ?_)
 ·exact Goes.ret1 hTT rfl Tryz.func162 rfl rfl ⟨int_v (whole_no (by simpa using h)).symm,rfl⟩
 ·have h':1≤n∧1≤q:=by simp at h; omega
  refine Goes.div hTT rfl (by omega) (quo64 (by omega) (by omega)) rfl ?_
  exact Goes.ret1 hTT rfl Tryz.func162 rfl rfl ⟨int_v (whole_yes h'.1 h'.2).symm,rfl⟩
theorem ref01_Whole (n q:Int) (w:World) (hn:n≤9223372036854775807):Does Tryz.prog 136 #[.int .i64 n,.int .i64 q] w (Same (.int .i64 (whole n q)) w):=by
 refine Does.enter Tryz.func136 rfl Tryz.ntmps136 rfl rfl ?_
 refine Goes.adv hTT 400 rfl ?_
 refine Goes.fork hTT rfl rfl rfl (fun h => ?_) (fun h => ?_)
 ·exact Goes.ret1 hTT rfl Tryz.func136 rfl rfl ⟨int_v (whole_no (.inl (by simpa using h))).symm,rfl⟩
 ·refine Goes.fork hTT rfl rfl rfl (fun h' => ?_) (fun h' => ?_)
  ·exact Goes.ret1 hTT rfl Tryz.func136 rfl rfl ⟨int_v (whole_no (.inr (by simpa using h'))).symm,rfl⟩
  ·have h1:1≤n∧1≤q:=by simp at h h'; omega
   refine Goes.div hTT rfl (by omega) (quo64 (by omega) (by omega)) rfl ?_
   exact Goes.ret1 hTT rfl Tryz.func136 rfl rfl ⟨int_v (whole_yes h1.1 h1.2).symm,rfl⟩
def manyM (n q:Int):Int:=if n<1∨q<1 then 0 else (n - 1) / q+1
theorem unit_Many (n q:Int) (w:World) (hn:n≤9223372036854775807):Does Tryz.prog 203 #[.int .i64 n,.int .i64 q] w (Same (.int .i64 (manyM n q)) w):=by
 refine Does.enter Tryz.func203 rfl Tryz.ntmps203 rfl rfl ?_
 refine Goes.adv hTT 400 rfl ?_
 refine Goes.call rfl (unit_none n q w) ?_
 rintro _ _ ⟨rfl,rfl⟩
 refine Goes.adv hTT 400 rfl ?_
 refine Goes.fork hTT rfl rfl rfl (fun h => ?_) (fun h => ?_)
 ·have:manyM n q=0:=by unfold manyM; rw [if_pos (by simpa using h)]
  exact Goes.ret1 hTT rfl Tryz.func203 rfl rfl ⟨int_v this.symm,rfl⟩
 ·have h':1≤n∧1≤q:=by simp at h; omega
  have:manyM n q=(n - 1) / q+1:=by unfold manyM; rw [if_neg (by omega)]
  have h0:0≤(n - 1) / q:=Int.ediv_nonneg (by omega) (by omega)
  have h1:(n - 1) / q≤n - 1:=Int.ediv_le_self _ (by omega)
  refine Goes.arith hTT rfl (w64 (by omega)) rfl ?_
  refine Goes.div hTT rfl (by omega) (quo64 (by omega) (by omega)) rfl ?_
  refine Goes.arith hTT rfl (w64 (by omega)) rfl ?_
  exact Goes.ret1 hTT rfl Tryz.func203 rfl rfl ⟨int_v this.symm,rfl⟩
end Go.Proofs.YtnaoiegcobineaaGreatDoor
namespace Go.Proofs.YtnaoiegcobineaaGreatDoor
open Go.RowKit
theorem slices_IndexFunc_int (a:Option Addr) (cap fk:Nat) (zs:List Int) (caps:List Value) (p:Int→Bool) (w:World) (hr:Rd .i64 w a zs) (hl:zs.length≤9223372036854775807)
 (hf:∀ x,x ∈ zs→Does Tryz.prog fk (.int .i64 x::caps).toArray w (Same (.bool (p x)) w)) :
 Does Tryz.prog 107 #[.slice a zs.length cap,.func (.func fk) #[] caps.toArray] w (Same (.int .i64 (idx p zs)) w):=by
 refine Does.enter Tryz.func107 rfl Tryz.ntmps107 rfl rfl ?_
 refine Goes.adv hTT 400 rfl ?_
 refine Goes.loop (α:=Nat) (fun k => [(0,false,.slice a zs.length cap),(1,false,.func (.func fk) #[] caps.toArray),(7,false,.int .i64 zs.length),(8,false,.int .i64 k)])
  (fun k w'=>w'=w∧k≤zs.length ∧ ∀ j (h:j<zs.length),j<k→p zs[j]=false) (fun k=>zs.length - k) 0 ⟨rfl,rfl,rfl,rfl,trivial⟩ ⟨rfl,Nat.zero_le _,fun _ _ h=>by omega⟩ ?_
 rintro k w1 ⟨hw,hk,hpre⟩ ih
 refine Goes.adv hTT 400 rfl ?_
 refine Goes.fork hTT rfl rfl rfl (fun h => ?_) (fun h => ?_)
 ·have hlt:k<zs.length:=by simpa using h
  obtain ⟨b,off,rfl,hc⟩:=hr k hlt
  rw [getD_at hlt] at hc
  subst hw
  refine Goes.index hTT rfl (j:=k) (by omega) (by omega) (by first | rfl | omega | (simp; done) | (simp; omega)) rfl ?_
  refine Goes.load hTT rfl hc rfl ?_
  refine Goes.call rfl (hf _ (List.getElem_mem hlt)) ?_
  rintro _ _ ⟨rfl,rfl⟩
  refine Goes.adv hTT 400 rfl ?_
  refine Goes.fork hTT rfl rfl rfl (fun hp => ?_) (fun hp => ?_)
  ·exact Goes.ret1 hTT rfl Tryz.func107 rfl rfl ⟨int_v (idx_at hlt hpre hp).symm,rfl⟩
  ·refine Goes.arith hTT rfl (w64 (by omega)) rfl ?_
   exact ih (k+1) _ _ ⟨rfl,hlt,fun j hj hjk=>by
    by_cases e:j=k
    ·subst e; exact hp
    ·exact hpre j hj (by omega)⟩ (by omega) ⟨rfl,rfl,rfl,rfl,trivial⟩
 ·have hge:k=zs.length:=by simp at h; omega
  subst hw
  exact Goes.ret1 hTT rfl Tryz.func107 rfl rfl ⟨int_v (idx_none (fun j hj=>hpre j hj (by omega))).symm,rfl⟩
theorem slices_ContainsFunc_int (a:Option Addr) (cap fk:Nat) (zs:List Int) (caps:List Value) (p:Int→Bool) (w:World) (hr:Rd .i64 w a zs) (hl:zs.length≤9223372036854775807)
 (hf:∀ x,x ∈ zs→Does Tryz.prog fk (.int .i64 x::caps).toArray w (Same (.bool (p x)) w)) :
 Does Tryz.prog 96 #[.slice a zs.length cap,.func (.func fk) #[] caps.toArray] w (Same (.bool (zs.any p)) w):=by
 refine Does.enter Tryz.func96 rfl Tryz.ntmps96 rfl rfl ?_
 refine Goes.adv hTT 400 rfl ?_
 refine Goes.call rfl (slices_IndexFunc_int a cap fk zs caps p w hr hl hf) ?_
 rintro _ _ ⟨rfl,rfl⟩
 refine Goes.adv hTT 400 rfl ?_
 exact Goes.ret1 hTT rfl Tryz.func96 rfl rfl ⟨bool_v (by rw [Bool.eq_iff_iff]; simp only [decide_eq_true_eq]; exact idx_nonneg),rfl⟩
theorem slices_Index_bool (a:Option Addr) (cap:Nat) (bs:List Bool) (x:Bool) (w:World) (hr:RdB w a bs) (hl:bs.length≤9223372036854775807) :
 Does Tryz.prog 155 #[.slice a bs.length cap,.bool x] w (Same (.int .i64 (idx (fun y=>x == y) bs)) w):=by
 refine Does.enter Tryz.func155 rfl Tryz.ntmps155 rfl rfl ?_
 refine Goes.adv hTT 400 rfl ?_
 refine Goes.loop (α:=Nat) (fun k => [(0,false,.slice a bs.length cap),(1,false,.bool x),(7,false,.int .i64 bs.length),(8,false,.int .i64 k)])
  (fun k w'=>w'=w∧k≤bs.length ∧ ∀ j (h:j<bs.length),j<k→(x == bs[j])=false) (fun k=>bs.length - k) 0 ⟨rfl,rfl,rfl,rfl,trivial⟩ ⟨rfl,Nat.zero_le _,fun _ _ h=>by omega⟩ ?_
 rintro k w1 ⟨hw,hk,hpre⟩ ih
 refine Goes.adv hTT 400 rfl ?_
 refine Goes.fork hTT rfl rfl rfl (fun h => ?_) (fun h => ?_)
 ·have hlt:k<bs.length:=by simpa using h
  obtain ⟨b,off,rfl,hc⟩:=hr k hlt
  subst hw
  refine Goes.index hTT rfl (j:=k) (by omega) (by omega) (by first | rfl | omega | (simp; done) | (simp; omega)) rfl ?_
  refine Goes.load hTT rfl hc rfl ?_
  refine Goes.fork hTT rfl rfl rfl (fun hp => ?_) (fun hp => ?_)
  ·exact Goes.ret1 hTT rfl Tryz.func155 rfl rfl ⟨int_v (idx_at (p:=fun y=>x == y) hlt hpre hp).symm,rfl⟩
  ·refine Goes.arith hTT rfl (w64 (by omega)) rfl ?_
   exact ih (k+1) _ _ ⟨rfl,hlt,fun j hj hjk=>by
    by_cases e:j=k
    ·subst e; exact hp
    ·exact hpre j hj (by omega)⟩ (by omega) ⟨rfl,rfl,rfl,rfl,trivial⟩
 ·have hge:k=bs.length:=by simp at h; omega
  subst hw
  exact Goes.ret1 hTT rfl Tryz.func155 rfl rfl ⟨int_v (idx_none (p:=fun y=>x == y) (fun j hj=>hpre j hj (by omega))).symm,rfl⟩
theorem slices_Contains_bool (a:Option Addr) (cap:Nat) (bs:List Bool) (x:Bool) (w:World) (hr:RdB w a bs) (hl:bs.length≤9223372036854775807) :
 Does Tryz.prog 98 #[.slice a bs.length cap,.bool x] w (Same (.bool (bs.any fun y=>x == y)) w):=by
 refine Does.enter Tryz.func98 rfl Tryz.ntmps98 rfl rfl ?_
 refine Goes.adv hTT 400 rfl ?_
 refine Goes.call rfl (slices_Index_bool a cap bs x w hr hl) ?_
 rintro _ _ ⟨rfl,rfl⟩
 refine Goes.adv hTT 400 rfl ?_
 exact Goes.ret1 hTT rfl Tryz.func98 rfl rfl ⟨bool_v (by rw [Bool.eq_iff_iff]; simp only [decide_eq_true_eq]; exact idx_nonneg),rfl⟩
end Go.Proofs.YtnaoiegcobineaaGreatDoor
namespace Go.Proofs.YtnaoiegcobineaaGreatDoor
open Go.RowKit
def okL (page:Int):Int→List Int→Bool
 |_,[]=>true
 |ahead,n::r=>decide (8≤n) && (n % 8 == 0) && decide (n≤page) && decide (ahead<n) && okL page n r
def classOk (zs:List Int) (page:Int):Bool:=decide (0<zs.length) && decide (zs.length≤16) && okL page 0 zs
def classMay (zs:List Int) (page:Int):Int:=if classOk zs page then 0 else 1
theorem okL_drop {page ahead:Int} {zs:List Int} {k:Nat} (h:k<zs.length):okL page ahead (zs.drop k)=(decide (8≤zs[k]) && (zs[k] % 8 == 0) && decide (zs[k]≤page) && decide (ahead<zs[k]) && okL page zs[k] (zs.drop (k+1))):=by
 rw [List.drop_eq_getElem_cons h]; rfl
theorem okL_end {page ahead:Int} {zs:List Int} {k:Nat} (h:zs.length≤k):okL page ahead (zs.drop k)=true:=by
 rw [List.drop_eq_nil_of_le h]; rfl
theorem classMay_no {zs:List Int} {page:Int} (h:classOk zs page=false):classMay zs page=1:=by unfold classMay; rw [h]; rfl
theorem classMay_yes {zs:List Int} {page:Int} (h:classOk zs page=true):classMay zs page=0:=by unfold classMay; rw [h]; rfl
theorem okL_get {page:Int}:∀ {zs:List Int} {ahead:Int},okL page ahead zs=true → ∀ i (h:i<zs.length),8≤zs[i]∧zs[i] % 8=0∧zs[i]≤page∧ahead<zs[i] ∧ ∀ j (hj:j<i),zs[j]<zs[i]
 |n::r,ahead,h,i,hi=>by
  simp only [okL,Bool.and_eq_true,decide_eq_true_eq,beq_iff_eq] at h
  obtain ⟨⟨⟨⟨h1,h2⟩,h3⟩,h4⟩,h5⟩:=h
  cases i with
  |zero=>exact ⟨h1,h2,h3,h4,fun j hj=>by omega⟩
  |succ i =>
   obtain ⟨g1,g2,g3,g4,g5⟩:=okL_get h5 i (by simpa using hi)
   refine ⟨g1,g2,g3,by simp only [List.getElem_cons_succ]; omega,fun j hj => ?_⟩
   cases j with
   |zero=>exact g4
   |succ j=>exact g5 j (by omega)
theorem classOk_len {zs:List Int} {page:Int} (h:classOk zs page=true):0<zs.length∧zs.length≤16:=by
 unfold classOk at h; simp only [Bool.and_eq_true,decide_eq_true_eq] at h; exact h.1
theorem classOk_get {zs:List Int} {page:Int} (h:classOk zs page=true) (i:Nat) (hi:i<zs.length):8≤zs.getD i 0∧zs.getD i 0 % 8=0∧zs.getD i 0≤page:=by
 unfold classOk at h; simp only [Bool.and_eq_true,decide_eq_true_eq] at h
 obtain ⟨g1,g2,g3,_⟩:=okL_get h.2 i hi
 rw [getD_at hi]; exact ⟨g1,g2,g3⟩
theorem class_May (a:Option Addr) (cap:Nat) (zs:List Int) (page:Int) (w:World) (hr:Rd .i64 w a zs) (hl:zs.length≤9223372036854775807) :
 Does Tryz.prog 95 #[.slice a zs.length cap,.int .i64 page] w (Same (.int .i64 (classMay zs page)) w):=by
 refine Does.enter Tryz.func95 rfl Tryz.ntmps95 rfl rfl ?_
 refine Goes.adv hTT 400 rfl ?_
 refine Goes.fork hTT rfl rfl rfl (fun h0 => ?_) (fun h0 => ?_)
 ·have hlen:0<zs.length:=by simpa using h0
  by_cases hlen':zs.length≤16
  ·refine Goes.knowB (t:=5) rfl (decide_eq_true (by omega)) ?_
   have hok:classOk zs page=okL page 0 (zs.drop 0):=by unfold classOk; rw [decide_eq_true hlen,decide_eq_true hlen']; simp
   refine Goes.loop (α:=Nat × Int) (fun x => [(0,false,.slice a zs.length cap),(1,false,.int .i64 page),(5,true,.bool true),(6,false,.int .i64 x.2),(17,false,.slice a zs.length cap),(18,false,.int .i64 zs.length),(19,false,.int .i64 x.1)])
    (fun x w'=>w'=w∧x.1≤zs.length∧classOk zs page=okL page x.2 (zs.drop x.1)) (fun x=>zs.length - x.1) (0,0) ⟨rfl,rfl,rfl,rfl,rfl,rfl,rfl,trivial⟩ ⟨rfl,Nat.zero_le _,hok⟩ ?_
   rintro ⟨k,ahead⟩ w1 ⟨hw,hk,hc⟩ ih
   simp only at hk hc
   subst hw
   refine Goes.adv hTT 400 rfl ?_
   refine Goes.fork hTT rfl rfl rfl (fun h => ?_) (fun h => ?_)
   ·have hlt:k<zs.length:=by simpa using h
    rw [okL_drop hlt] at hc
    obtain ⟨b,off,rfl,hcell⟩:=hr k hlt
    rw [getD_at hlt] at hcell
    refine Goes.index hTT rfl (j:=k) (by omega) (by omega) (by first | rfl | omega | (simp; done) | (simp; omega)) rfl ?_
    refine Goes.load hTT rfl hcell rfl ?_
    refine Goes.fork hTT rfl rfl rfl (fun h2 => ?_) (fun h2 => ?_)
    ·have g2:8≤zs[k]:=of_decide_eq_true h2
     refine Goes.div hTT rfl (by omega) (rem_ (by omega)) rfl ?_
     refine Goes.fork hTT rfl rfl rfl (fun h3 => ?_) (fun h3 => ?_)
     ·refine Goes.fork hTT rfl rfl rfl (fun h4 => ?_) (fun h4 => ?_)
      ·refine Goes.fork hTT rfl rfl rfl (fun h5 => ?_) (fun h5 => ?_)
       ·have g5:¬ ahead<zs[k]:=by simpa using h5
        refine Goes.yes hTT rfl h5 rfl ?_
        exact Goes.ret1 hTT rfl Tryz.func95 rfl rfl ⟨int_v (classMay_no (by rw [hc,decide_eq_false g5]; simp)).symm,rfl⟩
       ·have g5:ahead<zs[k]:=by simpa using h5
        refine Goes.arith hTT rfl (w64 (by omega)) rfl ?_
        exact ih (k+1,zs[k]) _ _ ⟨rfl,hlt,by rw [hc,decide_eq_true g5,show decide (zs[k]≤page)=true from h4,h3,decide_eq_true g2]; rfl⟩ (by simp only; omega) ⟨rfl,rfl,bool_s (decide_eq_true g5),rfl,rfl,rfl,rfl,trivial⟩
      ·exact Goes.ret1 hTT rfl Tryz.func95 rfl rfl ⟨int_v (classMay_no (by rw [hc,show decide (zs[k]≤page)=false from h4]; simp)).symm,rfl⟩
     ·exact Goes.ret1 hTT rfl Tryz.func95 rfl rfl ⟨int_v (classMay_no (by rw [hc,h3]; simp)).symm,rfl⟩
    ·exact Goes.ret1 hTT rfl Tryz.func95 rfl rfl ⟨int_v (classMay_no (by rw [hc,show decide (8≤zs[k])=false from h2]; simp)).symm,rfl⟩
   ·have hge:zs.length≤k:=by have:=of_decide_eq_false h; omega
    exact Goes.ret1 hTT rfl Tryz.func95 rfl rfl ⟨int_v (classMay_yes (by rw [hc,okL_end hge])).symm,rfl⟩
  ·refine Goes.knowB (t:=5) rfl (decide_eq_false (by omega)) ?_
   refine Goes.unroll hTT rfl ?_
   refine Goes.yes hTT rfl (decide_eq_true (by omega)) rfl ?_
   obtain ⟨b,off,rfl,hcell⟩:=hr 0 hlen
   rw [getD_at hlen] at hcell
   refine Goes.index hTT rfl (j:=0) (by omega) (by omega) (by first | rfl | omega | (simp; done) | (simp; omega)) rfl ?_
   refine Goes.load hTT rfl hcell rfl ?_
   exact Goes.ret1 hTT rfl Tryz.func95 rfl rfl ⟨int_v (classMay_no (by unfold classOk; rw [decide_eq_false hlen']; simp)).symm,rfl⟩
 ·have hlen:¬ 0<zs.length:=by have h2:=of_decide_eq_false h0; omega
  refine Goes.unroll hTT rfl ?_
  refine Goes.no hTT rfl (decide_eq_false (by omega)) rfl ?_
  exact Goes.ret1 hTT rfl Tryz.func95 rfl rfl ⟨int_v (classMay_no (by unfold classOk; rw [decide_eq_false hlen]; simp)).symm,rfl⟩
def prevOf (zs:List Int) (k:Nat):Int:=if k=0 then 0 else zs.getD (k - 1) 0
theorem prevOf_succ {zs:List Int} {k:Nat} (h:k<zs.length):prevOf zs (k+1)=zs[k]:=by simp [prevOf,h]
theorem okL_step {page ahead n:Int} {r:List Int} (h1:8≤n) (h2:n % 8=0) (h3:n≤page) (h4:ahead<n):(decide (8≤n) && (n % 8 == 0) && decide (n≤page) && decide (ahead<n) && okL page n r)=okL page n r:=by
 rw [decide_eq_true h1,decide_eq_true h3,decide_eq_true h4,show (n % 8 == 0)=true from by simpa using h2]; rfl
theorem ref02_May (a:Option Addr) (cap:Nat) (zs:List Int) (page:Int) (w:World) (hr:Rd .i64 w a zs) (hl:zs.length≤9223372036854775807) :
 Does Tryz.prog 51 #[.slice a zs.length cap,.int .i64 page] w (Grow (.int .i64 (classMay zs page)) w):=by
 refine Does.enter Tryz.func51 rfl Tryz.ntmps51 rfl rfl ?_
 refine Goes.adv hTT 400 rfl ?_
 refine Goes.fork hTT rfl rfl rfl (fun h0 => ?_) (fun h0 => ?_)
 ·have g0:zs.length=0:=by have:=of_decide_eq_true h0; omega
  exact Goes.ret1 hTT rfl Tryz.func51 rfl rfl ⟨int_v (classMay_no (by unfold classOk; rw [decide_eq_false (by omega)]; simp)).symm,Chg.refl _ _⟩
 ·have g0:¬ zs.length=0:=by have:=of_decide_eq_false h0; omega
  refine Goes.fork hTT rfl rfl rfl (fun h1 => ?_) (fun h1 => ?_)
  ·have g1:=of_decide_eq_true h1
   exact Goes.ret1 hTT rfl Tryz.func51 rfl rfl ⟨int_v (classMay_no (by unfold classOk; rw [decide_eq_false (show ¬ zs.length≤16 from by omega)]; simp)).symm,Chg.refl _ _⟩
  ·have g1:=of_decide_eq_false h1
   have hok:classOk zs page=okL page (prevOf zs 0) (zs.drop 0):=by unfold classOk; rw [decide_eq_true (by omega),decide_eq_true (by omega)]; simp [prevOf]
   refine Goes.loop (α:=Nat) (fun k => [(0,false,.slice a zs.length cap),(1,false,.int .i64 page),(5,false,.int .i64 k)])
    (fun k w'=>Chg None' w w'∧k≤zs.length∧classOk zs page=okL page (prevOf zs k) (zs.drop k)) (fun k=>zs.length - k) 0 ⟨rfl,rfl,rfl,trivial⟩ ⟨Chg.refl _ _,Nat.zero_le _,hok⟩ ?_
   rintro k w1 ⟨hw,hk,hc⟩ ih
   refine Goes.adv hTT 400 rfl ?_
   refine Goes.fork hTT rfl rfl rfl (fun h => ?_) (fun h => ?_)
   ·have hlt:k<zs.length:=by simpa using h
    rw [okL_drop hlt] at hc
    have hr1:=hr.chg hw
    obtain ⟨b,off,rfl,hcell⟩:=hr1 k hlt
    rw [getD_at hlt] at hcell
    refine Goes.quiet rfl mixed (by kernel_rfl) ?_
    refine Quiet.adv hTT rfl ?_
    refine Quiet.index hTT rfl (j:=k) (by omega) (by omega) (by first | rfl | omega | (simp; done) | (simp; omega)) rfl ?_
    refine Quiet.load hTT rfl hcell rfl ?_
    refine Quiet.fork hTT rfl rfl rfl (fun h2 => ?_) (fun h2 => ?_)
    ·refine Quiet.nil ?_
     intro w2 hw2
     refine Goes.adv hTT 400 rfl ?_
     exact Goes.ret1 hTT rfl Tryz.func51 rfl rfl ⟨int_v (classMay_no (by rw [hc,decide_eq_false (show ¬ 8≤zs[k] from by have:=of_decide_eq_true h2; omega)]; simp)).symm,hw.trans hw2⟩
    ·have g2:=of_decide_eq_false h2
     refine Quiet.index hTT rfl (j:=k) (by omega) (by omega) (by first | rfl | omega | (simp; done) | (simp; omega)) rfl ?_
     refine Quiet.load hTT rfl hcell rfl ?_
     refine Quiet.div hTT rfl (by omega) (rem_ (by omega)) rfl ?_
     refine Quiet.fork hTT rfl rfl rfl (fun h3 => ?_) (fun h3 => ?_)
     ·refine Quiet.nil ?_
      intro w2 hw2
      refine Goes.adv hTT 400 rfl ?_
      exact Goes.ret1 hTT rfl Tryz.func51 rfl rfl ⟨int_v (classMay_no (by rw [hc,show (zs[k] % 8 == 0)=false from by simpa using h3]; simp)).symm,hw.trans hw2⟩
     ·refine Quiet.index hTT rfl (j:=k) (by omega) (by omega) (by first | rfl | omega | (simp; done) | (simp; omega)) rfl ?_
      refine Quiet.load hTT rfl hcell rfl ?_
      refine Quiet.fork hTT rfl rfl rfl (fun h4 => ?_) (fun h4 => ?_)
      ·refine Quiet.nil ?_
       intro w2 hw2
       refine Goes.adv hTT 400 rfl ?_
       exact Goes.ret1 hTT rfl Tryz.func51 rfl rfl ⟨int_v (classMay_no (by rw [hc,decide_eq_false (show ¬ zs[k]≤page from by have:=of_decide_eq_true h4; omega)]; simp)).symm,hw.trans hw2⟩
      ·have g4:=of_decide_eq_false h4
       refine Quiet.fork hTT rfl rfl rfl (fun h5 => ?_) (fun h5 => ?_)
       ·have g5:=of_decide_eq_true h5
        obtain ⟨b',off',e',hcell'⟩:=hr1 (k - 1) (by omega)
        simp only [Option.some.injEq,Addr.mk.injEq] at e'
        obtain ⟨rfl,rfl,_⟩:=e'
        refine Quiet.index hTT rfl (j:=k) (by omega) (by omega) (by first | rfl | omega | (simp; done) | (simp; omega)) rfl ?_
        refine Quiet.load hTT rfl hcell rfl ?_
        refine Quiet.arith hTT rfl (w64 (by omega)) rfl ?_
        refine Quiet.index hTT rfl (j:=(k - 1)) (by omega) (by omega) (by first | rfl | omega | (simp; done) | (simp; omega)) rfl ?_
        refine Quiet.load hTT rfl hcell' rfl ?_
        refine Quiet.nil ?_
        intro w2 hw2
        refine Goes.adv hTT 400 rfl ?_
        have hp:prevOf zs k=zs.getD (k - 1) 0:=by unfold prevOf; rw [if_neg (by omega)]
        refine Goes.fork hTT rfl rfl rfl (fun h6 => ?_) (fun h6 => ?_)
        ·have g6:=of_decide_eq_true h6
         exact Goes.ret1 hTT rfl Tryz.func51 rfl rfl ⟨int_v (classMay_no (by rw [hc,hp,decide_eq_false (show ¬ zs.getD (k - 1) 0<zs[k] from by omega)]; simp)).symm,hw.trans hw2⟩
        ·have g6:=of_decide_eq_false h6
         refine Goes.arith hTT rfl (w64 (by omega)) rfl ?_
         exact ih (k+1) _ _ ⟨hw.trans hw2,hlt,by rw [hc,okL_step (by omega) (by simpa using h3) (by omega) (by omega),prevOf_succ hlt]⟩ (by omega) ⟨rfl,rfl,rfl,trivial⟩
       ·have g5:k=0:=by have:=of_decide_eq_false h5; omega
        subst g5
        refine Quiet.nil ?_
        intro w2 hw2
        refine Goes.adv hTT 400 rfl ?_
        refine Goes.arith hTT rfl (w64 (by omega)) rfl ?_
        exact ih 1 _ _ ⟨hw.trans hw2,hlt,by rw [hc,okL_step (by omega) (by simpa using h3) (by omega) (by simp [prevOf]; omega),prevOf_succ hlt]⟩ (by omega) ⟨rfl,rfl,rfl,trivial⟩
   ·have hge:zs.length≤k:=by have:=of_decide_eq_false h; omega
    exact Goes.ret1 hTT rfl Tryz.func51 rfl rfl ⟨int_v (classMay_yes (by rw [hc,okL_end hge])).symm,hw⟩
end Go.Proofs.YtnaoiegcobineaaGreatDoor
namespace Go.Proofs.YtnaoiegcobineaaGreatDoor
open Go.RowKit
structure Conf where
 size:Int
 pages:Int
 classes:List Int
 keep:List Int
 step:Int
 slots:Int
 gens:Int
 most:Int
structure ConfAt where
 ca:Option Addr
 cc:Nat
 ka:Option Addr
 kc:Nat
def confL (c:Conf) (p:ConfAt):List Value :=
 [.int .i64 c.size,.int .i64 c.pages,.slice p.ca c.classes.length p.cc,.slice p.ka c.keep.length p.kc,.int .i64 c.step,.int .i64 c.slots,.int .i64 c.gens,.int .i64 c.most]
def In64 (x:Int):Prop := -9223372036854775808≤x∧x≤9223372036854775807
structure ConfOk (w:World) (c:Conf) (p:ConfAt):Prop where
 classes:Rd .i64 w p.ca c.classes
 keep:Rd .i64 w p.ka c.keep
 lc:c.classes.length≤9223372036854775807
 lk:c.keep.length≤9223372036854775807
 size:In64 c.size
theorem ConfOk.chg {w w':World} {c:Conf} {p:ConfAt} (h:ConfOk w c p) (hw:Chg None' w w'):ConfOk w' c p :=
 ⟨h.classes.chg hw,h.keep.chg hw,h.lc,h.lk,h.size⟩
def sizedM (n:Int):Bool:=decide (64≤n) && decide (n≤4096) && (n % 8 == 0)
def largeM (c:Conf):Int:=if sizedM c.size then c.size*(c.size / 8) else 0
def blocksM (c:Conf) (k:Int):Int:=if 0≤k∧k<c.classes.length then whole c.size (c.classes.getD k.toNat 0) else 0
def withinM (n a b:Int):Bool:=decide (a≤n) && decide (n≤b)
def keepBad (k:Int):Bool := !withinM k 0 1024
def mayB (c:Conf):Bool :=
 sizedM c.size && withinM c.pages 1 1024 && classOk c.classes c.size && (decide (c.keep.length=c.classes.length) && !c.keep.any keepBad) && withinM c.step 1 65536 && withinM c.slots 1 4096 && withinM c.gens 1 1023 && withinM c.most 1 (largeM c)
def mayM (c:Conf):Int:=if mayB c then 0 else 1
theorem sizedM_iff {n:Int}:sizedM n=true↔64≤n∧n≤4096∧n % 8=0:=by
 unfold sizedM; simp [and_assoc]
theorem conf_within (n a b:Int) (w:World):Does Tryz.prog 93 #[.int .i64 n,.int .i64 a,.int .i64 b] w (Same (.bool (withinM n a b)) w):=by
 refine Does.enter Tryz.func93 rfl Tryz.ntmps93 rfl rfl ?_
 refine Goes.adv hTT 400 rfl ?_
 refine Goes.fork hTT rfl rfl rfl (fun h => ?_) (fun h => ?_)
 ·exact Goes.ret1 hTT rfl Tryz.func93 rfl rfl ⟨bool_v (by unfold withinM; rw [show decide (a≤n)=true from h]; rfl),rfl⟩
 ·exact Goes.ret1 hTT rfl Tryz.func93 rfl rfl ⟨bool_v (by unfold withinM; rw [show decide (a≤n)=false from h]; rfl),rfl⟩
theorem conf_sized (n:Int) (w:World):Does Tryz.prog 94 #[.int .i64 n] w (Same (.bool (sizedM n)) w):=by
 refine Does.enter Tryz.func94 rfl Tryz.ntmps94 rfl rfl ?_
 refine Goes.adv hTT 400 rfl ?_
 refine Goes.call rfl (conf_within n 64 4096 w) ?_
 rintro _ _ ⟨rfl,rfl⟩
 refine Goes.adv hTT 400 rfl ?_
 refine Goes.fork hTT rfl rfl rfl (fun h => ?_) (fun h => ?_)
 ·have h':0≤n:=by unfold withinM at h; simp at h; omega
  refine Goes.div hTT rfl (by omega) (rem_ (by omega)) rfl ?_
  exact Goes.ret1 hTT rfl Tryz.func94 rfl rfl ⟨bool_v (by unfold sizedM; rw [show (decide (64≤n) && decide (n≤4096))=true from h]; rfl),rfl⟩
 ·exact Goes.ret1 hTT rfl Tryz.func94 rfl rfl ⟨bool_v (by unfold sizedM; rw [show (decide (64≤n) && decide (n≤4096))=false from h]; rfl),rfl⟩
theorem conf_Large (c:Conf) (p:ConfAt) (w:World):Does Tryz.prog 97 #[.agg (confL c p).toArray] w (Grow (.int .i64 (largeM c)) w):=by
 refine Does.enter Tryz.func97 rfl Tryz.ntmps97 rfl rfl ?_
 refine Goes.adv hTT 400 rfl ?_
 refine Goes.alloc hTT rfl ?_
 intro b w1 e1 hb hw1 hz1
 refine Goes.adv hTT 400 rfl ?_
 refine Goes.loadb hTT rfl hb rfl rfl ?_
 refine Goes.call rfl (conf_sized c.size w1) ?_
 rintro _ _ ⟨rfl,rfl⟩
 refine Goes.adv hTT 400 rfl ?_
 refine Goes.fork hTT rfl rfl rfl (fun h => ?_) (fun h => ?_)
 ·have h':sizedM c.size=false:=by simpa using h
  exact Goes.ret1 hTT rfl Tryz.func97 rfl rfl ⟨int_v (by unfold largeM; rw [h']; rfl),hw1⟩
 ·have h':sizedM c.size=true:=by simpa using h
  have h2:=sizedM_iff.1 h'
  have h3:0≤c.size / 8∧c.size / 8≤512:=by omega
  have h4:0≤c.size*(c.size / 8):=Int.mul_nonneg (by omega) h3.1
  have h5:c.size*(c.size / 8)≤4096*512:=Int.mul_le_mul h2.2.1 h3.2 h3.1 (by omega)
  refine Goes.loadb hTT rfl hb rfl rfl ?_
  refine Goes.loadb hTT rfl hb rfl rfl ?_
  refine Goes.div hTT rfl (by omega) (quo64 (by omega) (by omega)) rfl ?_
  refine Goes.arith hTT rfl (w64 (by omega)) rfl ?_
  exact Goes.ret1 hTT rfl Tryz.func97 rfl rfl ⟨int_v (by unfold largeM; rw [h']; rfl),hw1⟩
theorem conf_Blocks (c:Conf) (p:ConfAt) (k:Int) (w:World) (hc:ConfOk w c p):Does Tryz.prog 103 #[.agg (confL c p).toArray,.int .i64 k] w (Grow (.int .i64 (blocksM c k)) w):=by
 have hl:=hc.lc
 have hs:=hc.size
 unfold In64 at hs
 refine Does.enter Tryz.func103 rfl Tryz.ntmps103 rfl rfl ?_
 refine Goes.adv hTT 400 rfl ?_
 refine Goes.alloc hTT rfl ?_
 intro b w1 e1 hb hw1 hz1
 refine Goes.adv hTT 400 rfl ?_
 refine Goes.fork hTT rfl rfl rfl (fun h => ?_) (fun h => ?_)
 ·have h':k<0:=of_decide_eq_true h
  exact Goes.ret1 hTT rfl Tryz.func103 rfl rfl ⟨int_v (by unfold blocksM; rw [if_neg (by omega)]),hw1⟩
 ·have h':¬ k<0:=of_decide_eq_false h
  refine Goes.loadb hTT rfl hb rfl rfl ?_
  refine Goes.fork hTT rfl rfl rfl (fun h2 => ?_) (fun h2 => ?_)
  ·have h3:=of_decide_eq_true h2
   exact Goes.ret1 hTT rfl Tryz.func103 rfl rfl ⟨int_v (by unfold blocksM; rw [if_neg (by omega)]),hw1⟩
  ·have h3:=of_decide_eq_false h2
   obtain ⟨b1,off,ea,hcell⟩:=(hc.chg hw1).classes k.toNat (by omega)
   obtain ⟨ca,cc,ka,kc⟩:=p
   simp only at ea
   subst ea
   refine Goes.quiet rfl mixed (by kernel_rfl) ?_
   refine Quiet.adv hTT rfl ?_
   refine Quiet.loadb hTT rfl hb rfl rfl ?_
   refine Quiet.loadb hTT rfl hb rfl rfl ?_
   refine Quiet.index hTT rfl (j:=k.toNat) (by omega) (by omega) (by first | rfl | omega | (simp; done) | (simp; omega)) rfl ?_
   refine Quiet.load hTT rfl hcell rfl ?_
   refine Quiet.call hTT rfl (fun w' hw'=>(unit_Whole c.size (c.classes.getD k.toNat 0) w' hs.2).grow) rfl ?_
   refine Quiet.nil ?_
   intro w2 hw2
   refine Goes.adv hTT 400 rfl ?_
   exact Goes.ret1 hTT rfl Tryz.func103 rfl rfl ⟨int_v (by unfold blocksM; rw [if_pos (by omega)]),hw1.trans hw2⟩
theorem conf_May1 (k:Int) (w:World):Does Tryz.prog 92 #[.int .i64 k] w (Same (.bool (keepBad k)) w):=by
 refine Does.enter Tryz.func92 rfl Tryz.ntmps92 rfl rfl ?_
 refine Goes.adv hTT 400 rfl ?_
 refine Goes.call rfl (conf_within k 0 1024 w) ?_
 rintro _ _ ⟨rfl,rfl⟩
 refine Goes.adv hTT 400 rfl ?_
 exact Goes.ret1 hTT rfl Tryz.func92 rfl rfl ⟨rfl,rfl⟩
theorem conf_May (c:Conf) (p:ConfAt) (w:World) (hc:ConfOk w c p):Does Tryz.prog 44 #[.agg (confL c p).toArray] w (Grow (.int .i64 (mayM c)) w):=by
 have hl:=hc.lc
 have hlk:=hc.lk
 refine Does.enter Tryz.func44 rfl Tryz.ntmps44 rfl rfl ?_
 refine Goes.adv hTT 400 rfl ?_
 refine Goes.alloc hTT rfl ?_
 intro b w1 e1 hb hw1 hz1
 refine Goes.adv hTT 400 rfl ?_
 have hc1:=hc.chg hw1
 refine Goes.quietF (q:=41) hTT mixed (by kernel_rfl) rfl rfl rfl rfl ?_
 refine Quiet.adv hTT rfl ?_
 refine Quiet.loadb hTT rfl hb rfl rfl ?_
 refine Quiet.call hTT rfl (fun w' hw'=>(conf_sized c.size w').grow) rfl ?_
 refine Quiet.loadb hTT rfl hb rfl rfl ?_
 refine Quiet.call hTT rfl (fun w' hw'=>(conf_within c.pages 1 1024 w').grow) rfl ?_
 refine Quiet.loadb hTT rfl hb rfl rfl ?_
 refine Quiet.loadb hTT rfl hb rfl rfl ?_
 refine Quiet.call hTT rfl (fun w' hw'=>(class_May p.ca p.cc c.classes c.size w' (hc1.classes.chg hw') hl).grow) rfl ?_
 refine Quiet.loadb hTT rfl hb rfl rfl ?_
 refine Quiet.loadb hTT rfl hb rfl rfl ?_
 have fin:∀ (kk:Bool),(decide (c.keep.length=c.classes.length) && !c.keep.any keepBad)=kk → 
  ([sizedM c.size,withinM c.pages 1 1024,(classMay c.classes c.size == 0),kk,withinM c.step 1 65536,withinM c.slots 1 4096,withinM c.gens 1 1023,withinM c.most 1 (largeM c)].any fun y=>false == y) = !mayB c:=by
  intro kk hk
  unfold mayB
  rw [hk]
  have:(classMay c.classes c.size == 0)=classOk c.classes c.size:=by unfold classMay; cases classOk c.classes c.size <;> rfl
  rw [this]
  cases sizedM c.size <;> cases withinM c.pages 1 1024 <;> cases classOk c.classes c.size <;> cases kk <;> cases withinM c.step 1 65536 <;> cases withinM c.slots 1 4096 <;> cases withinM c.gens 1 1023 <;> cases withinM c.most 1 (largeM c) <;> rfl
 refine Quiet.fork hTT rfl rfl rfl (fun h => ?_) (fun h => ?_)
 case' refine_1 =>
  refine Quiet.loadb hTT rfl hb rfl rfl ?_
  refine Quiet.call hTT rfl (fun w' hw'=>(slices_ContainsFunc_int p.ka p.kc 92 c.keep [] keepBad w' (hc1.keep.chg hw') hlk (fun x _=>conf_May1 x w')).grow) rfl ?_
 all_goals
  refine Quiet.loadb hTT rfl hb rfl rfl ?_
  refine Quiet.call hTT rfl (fun w' hw'=>(conf_within c.step 1 65536 w').grow) rfl ?_
  refine Quiet.loadb hTT rfl hb rfl rfl ?_
  refine Quiet.call hTT rfl (fun w' hw'=>(conf_within c.slots 1 4096 w').grow) rfl ?_
  refine Quiet.loadb hTT rfl hb rfl rfl ?_
  refine Quiet.call hTT rfl (fun w' hw'=>(conf_within c.gens 1 1023 w').grow) rfl ?_
  refine Quiet.loadb hTT rfl hb rfl rfl ?_
  refine Quiet.loads hTT rfl hb rfl rfl ?_
  refine Quiet.call hTT rfl (fun w' hw'=>conf_Large c p w') rfl ?_
  refine Quiet.call hTT rfl (fun w' hw'=>(conf_within c.most 1 (largeM c) w').grow) rfl ?_
  refine Quiet.build hTT rfl rfl ?_
  refine Quiet.nil ?_
  intro b2 w2 hw2 hb2 hz2
  refine Goes.adv hTT 400 rfl ?_
  refine Goes.store hTT rfl hz2 rfl rfl ?_
  intro w3 hb3 hw3 hz3
  refine Goes.adv hTT 400 rfl ?_
  refine Goes.slice hTT rfl (l:=0) (h:=8) (by first | rfl | omega | simp [loV]) (by first | rfl | omega | simp [hiV]) (by omega) (by omega) rfl ?_
  have hr3:RdB w3 (some ⟨b2,0,none⟩) [sizedM c.size,withinM c.pages 1 1024,(classMay c.classes c.size == 0),(decide (c.keep.length=c.classes.length) && !c.keep.any keepBad),withinM c.step 1 65536,withinM c.slots 1 4096,withinM c.gens 1 1023,withinM c.most 1 (largeM c)]:=by
   have hkk:(c.keep.length:Int)=c.classes.length↔c.keep.length=c.classes.length:=by omega
   refine RdB.of hb3 ?_
   simp only [hkk,beq_iff_eq,beq_eq_false_iff_ne,ne_eq] at h
   simp [h]
  refine Goes.call rfl (slices_Contains_bool (some ⟨b2,0,none⟩) 8 _ false w3 hr3 (by simp)) ?_
  rintro _ _ ⟨rfl,rfl⟩
  refine Goes.adv hTT 400 rfl ?_
  have hf:=fin _ rfl
  have hw:Chg None' w w3:=(hw1.trans hw2).since hw3 (fun k hk hk'=>by have:=hw1.size; subst hk'; omega)
  refine Goes.fork hTT rfl rfl rfl (fun hh => ?_) (fun hh => ?_)
  ·exact Goes.ret1 hTT rfl Tryz.func44 rfl rfl ⟨int_v (by rw [fin _ rfl] at hh; unfold mayM; rw [if_neg (by simpa using hh)]),hw⟩
  ·exact Goes.ret1 hTT rfl Tryz.func44 rfl rfl ⟨int_v (by rw [fin _ rfl] at hh; unfold mayM; rw [if_pos (by simpa using hh)]),hw⟩
end Go.Proofs.YtnaoiegcobineaaGreatDoor
namespace Go.Proofs.YtnaoiegcobineaaGreatDoor
open Go.RowKit
def MeterAt (w:World) (b:Nat) (total lap:Int):Prop:=w.heap[b]? = some (.cells #[.int .i64 total,.int .i64 lap] 143 (0,0))∧0≤lap∧lap≤total∧total≤4611686018427387904
def charged (total n:Int):Int:=if n<1 then total else total+min n (4611686018427387904 - total)
theorem charged_le {total n:Int} (h:0≤total∧total≤4611686018427387904):total≤charged total n∧charged total n≤4611686018427387904:=by
 unfold charged; split <;> omega
abbrev ptr (b:Option Nat):Value := .pointer (b.map fun b=>⟨b,0,none⟩)
theorem meter_New (w:World):Does Tryz.prog 46 #[] w (fun v w'=>v = .pointer (some ⟨w.heap.size,0,none⟩)∧MeterAt w' w.heap.size 0 0∧Chg None' w w'∧w'.heap.size=w.heap.size+1):=by
 refine Does.enter Tryz.func46 rfl Tryz.ntmps46 rfl rfl ?_
 refine Goes.adv hTT 400 rfl ?_
 refine Goes.build hTT rfl rfl ?_
 refine Goes.alloc hTT rfl ?_
 intro b w1 e1 hb hw1 hz1
 refine Goes.adv hTT 400 rfl ?_
 subst e1
 exact Goes.ret1 hTT rfl Tryz.func46 rfl rfl ⟨rfl,⟨hb,by omega,by omega,by omega⟩,hw1,hz1⟩
theorem meter_room (b:Nat) (total lap:Int) (w:World) (h:MeterAt w b total lap):Does Tryz.prog 156 #[.pointer (some ⟨b,0,none⟩)] w (Same (.int .i64 (4611686018427387904 - total)) w):=by
 obtain ⟨hb,h1,h2,h3⟩:=h
 refine Does.enter Tryz.func156 rfl Tryz.ntmps156 rfl rfl ?_
 refine Goes.adv hTT 400 rfl ?_
 refine Goes.loadb hTT rfl hb rfl rfl ?_
 refine Goes.arith hTT rfl (w64 (by omega)) rfl ?_
 exact Goes.ret1 hTT rfl Tryz.func156 rfl rfl ⟨rfl,rfl⟩
theorem MeterAt.chg {w w':World} {b:Nat} {total lap:Int} (h:MeterAt w b total lap) (hc:Chg None' w w'):MeterAt w' b total lap:=⟨hc.heap' h.1,h.2⟩
theorem meter_Charge (b:Nat) (total lap n:Int) (w:World) (h:MeterAt w b total lap):Does Tryz.prog 100 #[.pointer (some ⟨b,0,none⟩),.int .i64 n] w (fun _ w'=>MeterAt w' b (charged total n) lap∧Chg (fun x=>x=b) w w'):=by
 have h':=h
 obtain ⟨hb,h1,h2,h3⟩:=h
 refine Does.enter Tryz.func100 rfl Tryz.ntmps100 rfl rfl ?_
 refine Goes.adv hTT 400 rfl ?_
 refine Goes.fork hTT rfl rfl rfl (fun h0 => ?_) (fun h0 => ?_)
 ·exact Goes.ret0 hTT rfl Tryz.func100 rfl ⟨by unfold charged; rw [if_pos (of_decide_eq_true h0)]; exact h',Chg.refl _ _⟩
 ·have h0':=of_decide_eq_false h0
  refine Goes.drawn (q:=9) None' hTT mixed (by kernel_rfl) rfl ?_
  intro hB
  refine Drawn.loadb hTT hB rfl hb (by first | exact fun h=>h | (intro h; omega) | assumption) rfl rfl ?_
  refine Drawn.call hTT hB rfl (fun w' hw'=>(meter_room b total lap w' ((show MeterAt w b total lap from h').chg hw')).grow) rfl ?_
  refine Drawn.arith hTT hB rfl (w64 (by omega)) rfl ?_
  refine Drawn.nil hB ?_
  intro w1 hw1
  refine Goes.adv hTT 400 rfl ?_
  refine Goes.store hTT rfl (hw1.heap' hb) rfl rfl ?_
  intro w2 hb2 hw2 hz2
  refine Goes.adv hTT 400 rfl ?_
  have e:total+(if 4611686018427387904 - total<n then 4611686018427387904 - total else n)=charged total n:=by unfold charged; rw [if_neg h0']; split <;> omega
  rw [e] at hb2
  have:=charged_le (n:=n) ⟨by omega,h3⟩
  exact Goes.ret0 hTT rfl Tryz.func100 rfl ⟨⟨hb2,h1,by omega,by omega⟩,(Chg.refl _ w).trans ((hw1.mono (fun _ _ h=>h.elim)).trans hw2)⟩
theorem meter_Charge0 (n:Int) (w:World):Does Tryz.prog 100 #[.pointer none,.int .i64 n] w (fun _ w'=>w=w'):=by
 refine Does.enter Tryz.func100 rfl Tryz.ntmps100 rfl rfl ?_
 refine Goes.adv hTT 400 rfl ?_
 exact Goes.ret0 hTT rfl Tryz.func100 rfl rfl
end Go.Proofs.YtnaoiegcobineaaGreatDoor
namespace Go.Proofs.YtnaoiegcobineaaGreatDoor
open Go.RowKit
structure RmM where
 shs:List Sm
 pl:PlM
 lg:List (Nat × List Nat)
 tot:Int
def rmGet (M:RmM) (k:Int):Option Sm:=if 0≤k then M.shs[k.toNat]? else none
def heldM (p:PlM):Nat:=pgUsed p.own
def chgM (p q:PlM):Int:=3+(max (heldM q:Int) (heldM p) - min (heldM q:Int) (heldM p))*4
def rmSet (M:RmM) (k:Nat) (x:Sm) (q:PlM):RmM:={M with shs:=M.shs.set k x,pl:=q}
def rmPut (M:RmM) (k:Nat) (x:Sm) (q:PlM):RmM:={M with shs:=M.shs.set k x,pl:=q,tot:=charged M.tot (chgM M.pl q)}
def lgAll (l:List (Nat × List Nat)):List Nat:=l.flatMap fun e=>e.1::e.2
def lgMany (l:List (Nat × List Nat)):Nat:=(l.map fun e=>e.2.length+1).sum
def shMany (l:List Sm):Nat:=(l.map fun x=>x.pg.length).sum
structure RmM.Ok (c:Conf) (M:RmM):Prop where
 n:M.shs.length=c.classes.length
 each:∀ (k:Nat) (x:Sm),M.shs[k]? = some x→x.cls=(k:Int)∧(x.blocks:Int)=blocksM c (k:Int)
 own:(M.pl.own.length:Int)=c.pages
 lg:∀ m ∈ lgAll M.lg,m<M.pl.own.length∧M.pl.own.getD m 0=(M.shs.length:Int)
 nd:(lgAll M.lg).Nodup
 sum:heldM M.pl=shMany M.shs+lgMany M.lg
 tot:0≤M.tot∧M.tot≤4611686018427387904
def Eff (p q:PlM) (c:Int):Prop:=q=p∨(∃ n r,p.free=n::r∧q=p.take c) ∨ ∃ n,n<p.own.length∧p.own.getD n 0=c∧q=p.give n
theorem take_own {p:PlM} {n:Nat} {r:List Nat} (h:p.free=n::r) (c:Int):(p.take c).own=p.own.set n c∧(p.take c).free=r:=by unfold PlM.take; rw [h]; exact ⟨rfl,rfl⟩
theorem Eff.own {p q:PlM} {c:Int} (h:Eff p q c) (hg:p.Good):q.own.length=p.own.length ∧ ∀ m d,d≠c→0≤d→p.own.getD m 0=d→m<p.own.length→q.own.getD m 0=d:=by
 rcases h with rfl | ⟨n,r,hf,rfl⟩ | ⟨n,hn,ho,rfl⟩
 ·exact ⟨rfl,fun m d _ _ h _=>h⟩
 ·rw [(take_own hf c).1]
  refine ⟨List.length_set,fun m d hd h0 hm hl => ?_⟩
  rw [getD_set_z]
  obtain ⟨h1,h2⟩:=hg.free n (by rw [hf]; simp)
  rw [if_neg (fun ⟨e,_⟩=>by subst e; omega)]
  exact hm
 ·refine ⟨List.length_set,fun m d hd h0 hm hl => ?_⟩
  show (p.own.set n (-1)).getD m 0=d
  rw [getD_set_z,if_neg (fun ⟨e,_⟩=>by subst e; exact hd (hm.symm.trans ho))]
  exact hm
theorem Eff.of {p q:PlM} {c:Int} (h:Eff p q c) (hg:p.Good) {y:Sm} (hy:y.Of p) (hc:y.cls≠c) (h0:0≤y.cls):y.Of q:=fun e he=>by
 obtain ⟨h1,h2⟩:=hy e he
 obtain ⟨g1,g2⟩:=h.own hg
 exact ⟨by rw [g1]; exact h1,g2 _ _ hc h0 h2 h1⟩
theorem shMany_set:∀ {l:List Sm} {k:Nat} {x x':Sm},l[k]? = some x→shMany (l.set k x')+x.pg.length=shMany l+x'.pg.length
 |a::r,0,x,x',h=>by
  cases h
  unfold shMany
  simp only [List.set_cons_zero,List.map_cons,List.sum_cons]
  omega
 |a::r,k+1,x,x',h=>by
  have:=shMany_set (l:=r) (k:=k) (x:=x) (x':=x') h
  unfold shMany at *
  simp only [List.set_cons_succ,List.map_cons,List.sum_cons]
  omega
theorem RmM.Ok.set {c:Conf} {M:RmM} (h:M.Ok c) (hg:M.pl.Good) {k:Nat} {x x':Sm} {q:PlM} (hx:M.shs[k]? = some x) (hE:Eff M.pl q x.cls) (hc:x'.cls=x.cls) (hb:x'.blocks=x.blocks) (hs:heldM q+x.pg.length=heldM M.pl+x'.pg.length):(rmSet M k x' q).Ok c:=by
 have hk:k<M.shs.length:=(List.getElem?_eq_some_iff.1 hx).1
 obtain ⟨e1,e2⟩:=h.each k x hx
 obtain ⟨g1,g2⟩:=hE.own hg
 refine ⟨by show (M.shs.set k x').length=_; rw [List.length_set]; exact h.n,fun j y hy => ?_,by show (q.own.length:Int)=_; rw [g1]; exact h.own,fun m hm => ?_,h.nd,?_,h.tot⟩
 ·replace hy:(M.shs.set k x')[j]? = some y:=hy
  by_cases e:k=j
  ·subst e
   rw [List.getElem?_set_self hk] at hy; cases hy
   exact ⟨hc.trans e1,by rw [hb]; exact e2⟩
  ·rw [List.getElem?_set_ne e] at hy; exact h.each j y hy
 ·obtain ⟨h1,h2⟩:=h.lg m hm
  refine ⟨by show m<q.own.length; omega,?_⟩
  show q.own.getD m 0=((M.shs.set k x').length:Int)
  rw [List.length_set]
  exact g2 _ _ (by rw [e1]; omega) (by omega) h2 h1
 ·have:=shMany_set (x':=x') hx
  have:=h.sum
  show heldM q=shMany (M.shs.set k x')+lgMany M.lg
  omega
theorem charged_pos {t n:Int} (h:0≤t∧t≤4611686018427387904):0≤charged t n∧charged t n≤4611686018427387904:=by have:=charged_le (n:=n) h; omega
theorem take_eff (x:Sm) (pl:PlM) (who:Int) (hg:pl.Good) (hcl:0≤x.cls):Eff pl (shTakeP x pl who) x.cls∧(shTake x pl who).cls=x.cls∧(shTake x pl who).blocks=x.blocks∧heldM (shTakeP x pl who)+x.pg.length=heldM pl+(shTake x pl who).pg.length:=by
 rcases shTake_cases x pl who with ⟨_,h1,h2⟩ | ⟨_,_,⟨n,r,_,h1,h2,_⟩ | ⟨n,r,_,hf,h1,h2,_⟩⟩
 ·rw [h1,h2]; exact ⟨.inl rfl,rfl,rfl,rfl⟩
 ·rw [h1,h2]; exact ⟨.inl rfl,rfl,rfl,by show _=_+(smSet _ _ _).length; rw [smSet_length]⟩
 ·rw [h1,h2]
  refine ⟨.inr (.inl ⟨n,r,hf,rfl⟩),rfl,rfl,?_⟩
  show _=_+(smSet (x.pg++_) _ _).length
  rw [smSet_length,List.length_append]
  obtain ⟨hn,ho⟩:=hg.free n (by rw [hf]; simp)
  have:=pgUsed_set (v:=x.cls) hn
  rw [if_pos ho,if_neg (by omega)] at this
  unfold heldM
  rw [(take_own hf _).1]
  simp only [List.length_cons,List.length_nil]
  omega
theorem give_eff (x:Sm) (pl:PlM) (n i:Int) (hok:x.Ok) (hof:x.Of pl):Eff pl (shGiveP x pl n i) x.cls∧(shGive x n i).cls=x.cls∧(shGive x n i).blocks=x.blocks∧heldM (shGiveP x pl n i)+x.pg.length=heldM pl+(shGive x n i).pg.length:=by
 unfold shGive shGiveP
 split
 ·rename_i p hp
  obtain ⟨k,hk,hm⟩:=smGet_some hp
  rw [hk]
  by_cases hE:pgGiveE p i=0
  ·simp only [hE,if_true,true_and,Int.toNat_natCast]
   unfold Sm.giveAt
   simp only
   by_cases hz:pgUsed (pgGive p i)=0
   ·rw [if_pos hz,if_pos hz]
    obtain ⟨hn,ho⟩:=hof _ hm
    simp only at hn ho
    have hcl:=hok.cls
    have:=pgUsed_set (v := -1) hn
    rw [if_neg (by omega),if_pos rfl] at this
    have hd:=(smUsed_del hok.nodup hm).2
    refine ⟨.inr (.inr ⟨k,hn,ho,rfl⟩),rfl,rfl,?_⟩
    show pgUsed (pl.own.set k (-1))+_=pgUsed pl.own+(smDel x.pg k).length
    omega
   ·rw [if_neg hz,if_neg hz]
    exact ⟨.inl rfl,rfl,rfl,by show _=_+(smSet _ _ _).length; rw [smSet_length]⟩
  ·simp only [hE,if_false,false_and]; refine ⟨.inl rfl,?_,?_,?_⟩ <;> first | trivial | rfl
 ·exact ⟨.inl rfl,rfl,rfl,rfl⟩
theorem own_eff (x:Sm) (pl:PlM) (n i who:Int):Eff pl pl x.cls∧(shOwn x n i who).cls=x.cls∧(shOwn x n i who).blocks=x.blocks∧heldM pl+x.pg.length=heldM pl+(shOwn x n i who).pg.length:=by
 unfold shOwn
 split
 ·exact ⟨.inl rfl,rfl,rfl,by show _=_+(smSet _ _ _).length; rw [smSet_length]⟩
 ·exact ⟨.inl rfl,rfl,rfl,rfl⟩
end Go.Proofs.YtnaoiegcobineaaGreatDoor
namespace Go.Proofs.YtnaoiegcobineaaGreatDoor
open Go.RowKit
def allM (n q:Int):Int:=if manyM n q=0∨manyM n q=9223372036854775807 then 0 else manyM n q+1
def pickM (zs:List Int) (n:Int):Int:=if n<1 then -1 else idx (fun s=>decide (n≤s)) zs
theorem manyM_le {n q:Int} (hn:n≤9223372036854775807):0≤manyM n q∧manyM n q≤9223372036854775807:=by
 unfold manyM
 split
 ·omega
 ·have h0:0≤(n - 1) / q:=Int.ediv_nonneg (by omega) (by omega)
  have h1:(n - 1) / q≤n - 1:=Int.ediv_le_self _ (by omega)
  omega
theorem chain_Data (n q:Int) (w:World) (hn:n≤9223372036854775807):Does Tryz.prog 149 #[.int .i64 n,.int .i64 q] w (Same (.int .i64 (manyM n q)) w):=by
 refine Does.enter Tryz.func149 rfl Tryz.ntmps149 rfl rfl ?_
 refine Goes.adv hTT 400 rfl ?_
 refine Goes.call rfl (unit_Many n q w hn) ?_
 rintro _ _ ⟨rfl,rfl⟩
 refine Goes.adv hTT 400 rfl ?_
 exact Goes.ret1 hTT rfl Tryz.func149 rfl rfl ⟨rfl,rfl⟩
theorem chain_All (n q:Int) (w:World) (hn:n≤9223372036854775807):Does Tryz.prog 109 #[.int .i64 n,.int .i64 q] w (Same (.int .i64 (allM n q)) w):=by
 have hb:=manyM_le (q:=q) hn
 refine Does.enter Tryz.func109 rfl Tryz.ntmps109 rfl rfl ?_
 refine Goes.adv hTT 400 rfl ?_
 refine Goes.call rfl (chain_Data n q w hn) ?_
 rintro _ _ ⟨rfl,rfl⟩
 refine Goes.adv hTT 400 rfl ?_
 refine Goes.fork hTT rfl rfl rfl (fun h1 => ?_) (fun h1 => ?_)
 ·have e:allM n q=0:=by unfold allM; rw [if_pos (.inl (of_decide_eq_true h1))]
  exact Goes.ret1 hTT rfl Tryz.func109 rfl rfl ⟨int_v e.symm,rfl⟩
 ·have h1':=of_decide_eq_false h1
  refine Goes.fork hTT rfl rfl rfl (fun h2 => ?_) (fun h2 => ?_)
  ·have e:allM n q=0:=by unfold allM; rw [if_pos (.inr (of_decide_eq_true h2))]
   exact Goes.ret1 hTT rfl Tryz.func109 rfl rfl ⟨int_v e.symm,rfl⟩
  ·have h2':=of_decide_eq_false h2
   have e:allM n q=manyM n q+1:=by unfold allM; rw [if_neg (by omega)]
   refine Goes.arith hTT rfl (w64 (by omega)) rfl ?_
   exact Goes.ret1 hTT rfl Tryz.func109 rfl rfl ⟨int_v e.symm,rfl⟩
abbrev intBoxP (w:World) (b:Nat) (n:Int):Prop:=w.heap[b]? = some (.cells ([.int .i64 n]:List Value).toArray 3 (0,0))
theorem class_Pick1 (x n:Int) (b:Nat) (w:World) (h:intBoxP w b n):Does Tryz.prog 108 #[.int .i64 x,.pointer (some ⟨b,0,none⟩)] w (Same (.bool (decide (n≤x))) w):=by
 refine Does.enter Tryz.func108 rfl Tryz.ntmps108 rfl rfl ?_
 refine Goes.adv hTT 400 rfl ?_
 refine Goes.loadb hTT rfl h rfl rfl ?_
 exact Goes.ret1 hTT rfl Tryz.func108 rfl rfl ⟨rfl,rfl⟩
theorem class_Pick (a:Option Addr) (cap:Nat) (zs:List Int) (n:Int) (w:World) (hr:Rd .i64 w a zs) (hl:zs.length≤9223372036854775807):Does Tryz.prog 59 #[.slice a zs.length cap,.int .i64 n] w (Grow (.int .i64 (pickM zs n)) w):=by
 refine Does.enter Tryz.func59 rfl Tryz.ntmps59 rfl rfl ?_
 refine Goes.adv hTT 400 rfl ?_
 refine Goes.alloc hTT rfl ?_
 intro b w1 e1 hb hw1 hz1
 refine Goes.adv hTT 400 rfl ?_
 refine Goes.loadb hTT rfl hb rfl rfl ?_
 refine Goes.fork hTT rfl rfl rfl (fun h => ?_) (fun h => ?_)
 ·have e:pickM zs n = -1:=by unfold pickM; rw [if_pos (of_decide_eq_true h)]
  exact Goes.ret1 hTT rfl Tryz.func59 rfl rfl ⟨int_v e.symm,hw1⟩
 ·have e:pickM zs n=idx (fun s=>decide (n≤s)) zs:=by unfold pickM; rw [if_neg (of_decide_eq_false h)]
  refine Goes.call rfl (slices_IndexFunc_int a cap 108 zs [.pointer (some ⟨b,0,none⟩)] (fun s=>decide (n≤s)) w1 (hr.chg hw1) hl (fun x _=>class_Pick1 x n b w1 hb)) ?_
  rintro _ _ ⟨rfl,rfl⟩
  refine Goes.adv hTT 400 rfl ?_
  exact Goes.ret1 hTT rfl Tryz.func59 rfl rfl ⟨int_v e.symm,hw1⟩
end Go.Proofs.YtnaoiegcobineaaGreatDoor
namespace Go.Proofs.YtnaoiegcobineaaGreatDoor
open Go.RowKit
def rmTakeE (M:RmM) (k who:Int):Int:=match rmGet M k with | none=>1 | some x=>shTakeE x M.pl who
def rmTakeN (M:RmM) (k who:Int):Int:=match rmGet M k with | none=>0 | some x=>shTakeN x M.pl who
def rmTakeA (M:RmM) (k who:Int):Int:=match rmGet M k with | none=>0 | some x=>shTakeA x M.pl who
def rmTake (M:RmM) (k who:Int):RmM:=match rmGet M k with | none=>M | some x=>if shTakeE x M.pl who=0 then rmPut M k.toNat (shTake x M.pl who) (shTakeP x M.pl who) else M
def rmGiveE (M:RmM) (k n i:Int):Int:=match rmGet M k with | none=>1 | some x=>shGiveE x n i
def rmGive (M:RmM) (k n i:Int):RmM:=match rmGet M k with | none=>M | some x=>if shGiveE x n i=0 then rmPut M k.toNat (shGive x n i) (shGiveP x M.pl n i) else M
def rmOwnE (M:RmM) (k n i who:Int):Int:=match rmGet M k with | none=>1 | some x=>shOwnE x n i who
def rmOwn (M:RmM) (k n i who:Int):RmM:=match rmGet M k with | none=>M | some x=>rmSet M k.toNat (shOwn x n i who) M.pl
def rmOwner (M:RmM) (k n i:Int):Int:=match rmGet M k with | none => -1 | some x=>shOwner x n i
def rmOpen (M:RmM) (k:Int):Nat:=match rmGet M k with | none=>0 | some x=>x.opn.length
def rmPlanB (M:RmM) (k:Int):Bool:=match rmGet M k with | none=>false | some x=>shPlanB x
def rmPlanL (M:RmM) (k:Int):List Value:=match rmGet M k with | none=>planL 0 0 0 0 | some x=>shPlanL x
def rmNeed (c:Conf) (M:RmM) (size:Int):Int:=if pickM c.classes size = -1 then allM size c.size else 1 - min (rmOpen M (pickM c.classes size):Int) 1
def rmFits (c:Conf) (M:RmM) (size:Int):Int:=if size<1∨c.most<size then 3 else if (M.pl.free.length:Int)<rmNeed c M size then 5 else 0
structure PlcM where
 cls:Int
 page:Int
 idx:Int
 pages:List Int
def natsI (l:List Nat):List Int:=l.map fun (n:Nat)=>(n:Int)
def plTk (p:PlM) (who:Int):Nat→PlM
 |0=>p
 |i+1=>plTake (plTk p who i) who
def plGv (p:PlM) (l:List Nat):PlM:=l.foldl (fun q (n:Nat)=>plGive q (n:Int)) p
def rmBig (M:RmM) (many:Nat):RmM:={M with pl:=plTk M.pl M.shs.length many,lg:=M.lg ++ [(M.pl.free.getD 0 0,(M.pl.free.take many).tail)],tot:=charged M.tot (many*4+(many - 1))}
def rmPlaceE (c:Conf) (M:RmM) (who size:Int):Int:=if who<0 then 1 else if rmFits c M size≠0 then rmFits c M size else if pickM c.classes size = -1 then 0 else rmTakeE M (pickM c.classes size) who
def rmPlaceQ (c:Conf) (M:RmM) (who size:Int):PlcM:=if who<0 then ⟨0,0,0,[]⟩ else if rmFits c M size≠0 then ⟨0,0,0,[]⟩ else if pickM c.classes size = -1 then ⟨-1,(M.pl.free.getD 0 0:Nat),0,natsI (M.pl.free.take (allM size c.size).toNat).tail⟩ else ⟨pickM c.classes size,rmTakeN M (pickM c.classes size) who,rmTakeA M (pickM c.classes size) who,[]⟩
def rmPlace (c:Conf) (M:RmM) (who size:Int):RmM:=if who<0 then M else if rmFits c M size≠0 then M else if pickM c.classes size = -1 then rmBig M (allM size c.size).toNat else rmTake M (pickM c.classes size) who
def lgGet:List (Nat × List Nat)→Int→Option (List Nat)
 |[],_=>none
 |(m,r)::t,n=>if (m:Int)=n then some r else lgGet t n
def lgDel (l:List (Nat × List Nat)) (n:Nat):List (Nat × List Nat):=l.filter fun e=>e.1 != n
def rmGone (M:RmM) (n:Nat) (r:List Nat):RmM:={M with pl:=plGv M.pl (n::r),lg:=lgDel M.lg n,tot:=charged M.tot ((r.length+1:Int)*4+r.length)}
def rmDropE (M:RmM) (q:PlcM):Int:=if q.cls ≠ -1 then rmGiveE M q.cls q.page q.idx else match lgGet M.lg q.page with | none=>1 | some r=>if natsI r=q.pages then 0 else 1
def rmDrop (M:RmM) (q:PlcM):RmM:=if q.cls ≠ -1 then rmGive M q.cls q.page q.idx else match lgGet M.lg q.page with | none=>M | some r=>if natsI r=q.pages then rmGone M q.page.toNat r else M
theorem plTake_ok {p:PlM} {who:Int} (hw:0≤who) {n:Nat} {r:List Nat} (hf:p.free=n::r):plTakeE p who=0∧plTakeN p who=n∧plTake p who=p.take who:=by
 have e:plTakeE p who=0:=by unfold plTakeE; rw [if_neg (by omega),hf]; rfl
 refine ⟨e,?_,?_⟩
 ·unfold plTakeN; rw [if_pos e,hf]; rfl
 ·unfold plTake; rw [if_pos e]
theorem plTk_props {p:PlM} {who:Int} (hw:0≤who) (hg:p.Good):∀ i,i≤p.free.length→(plTk p who i).Good∧(plTk p who i).free=p.free.drop i∧(plTk p who i).own.length=p.own.length∧heldM (plTk p who i)=heldM p+i ∧ ∀ m,m<p.own.length→(plTk p who i).own.getD m 0=if m ∈ p.free.take i then who else p.own.getD m 0
 |0,_=>⟨hg,by simp [plTk],rfl,rfl,fun m _=>by simp [plTk]⟩
 |i+1,hi=>by
  obtain ⟨h1,h2,h3,h4,h5⟩:=plTk_props hw hg i (by omega)
  have hlt:i<p.free.length:=by omega
  have hf:(plTk p who i).free=p.free[i]::p.free.drop (i+1):=by rw [h2]; exact List.drop_eq_getElem_cons hlt
  obtain ⟨_,_,e⟩:=plTake_ok hw hf
  have e1:plTk p who (i+1)=(plTk p who i).take who:=e
  obtain ⟨o1,o2⟩:=take_own hf who
  obtain ⟨n1,n2⟩:=h1.free p.free[i] (by rw [hf]; exact List.mem_cons_self)
  have hu:=pgUsed_set (v:=who) n1
  rw [if_pos n2,if_neg (by omega)] at hu
  refine ⟨e1▸h1.take hw hf,by rw [e1]; exact o2,by rw [e1,o1,List.length_set]; exact h3,?_,fun m hm => ?_⟩
  ·unfold heldM at *; rw [e1,o1]; omega
  ·rw [e1,o1,getD_set_z,h5 m hm]
   have ht:p.free.take (i+1)=p.free.take i ++ [p.free[i]]:=by rw [List.take_add_one,List.getElem?_eq_getElem hlt]; rfl
   rw [ht]
   by_cases e2:p.free[i]=m
   ·subst e2
    rw [if_pos ⟨rfl,n1⟩,if_pos (List.mem_append.2 (.inr (List.mem_singleton.2 rfl)))]
   ·rw [if_neg (fun h=>e2 h.1)]
    by_cases e3:m ∈ p.free.take i
    ·rw [if_pos e3,if_pos (List.mem_append.2 (.inl e3))]
    ·rw [if_neg e3,if_neg (by simp only [List.mem_append,List.mem_singleton]; rintro (h | h); exact e3 h; exact e2 h.symm)]
theorem plTk_of {p:PlM} {who:Int} (hw:0≤who) (hg:p.Good) {i:Nat} (hi:i≤p.free.length) {x:Sm} (hc:0≤x.cls) (hx:x.Of p):x.Of (plTk p who i):=fun e he=>by
 obtain ⟨h1,h2⟩:=hx e he
 obtain ⟨_,_,p3,_,p5⟩:=plTk_props hw hg i hi
 refine ⟨by omega,?_⟩
 rw [p5 _ h1,if_neg (fun hm=>by have:=(hg.free _ (List.mem_of_mem_take hm)).2; omega)]
 exact h2
theorem plGive_ok {p:PlM} {n:Nat} (hn:n<p.own.length) (ho:p.own.getD n 0 ≠ -1):plGiveE p n=0∧plGive p n=p.give n:=by
 have hpo:pgOwn p.own n=p.own.getD n 0:=by
  unfold pgOwn; rw [if_pos (by omega)]; simp only [Int.toNat_natCast]; rw [List.getD_eq_getElem?_getD,List.getD_eq_getElem?_getD,List.getElem?_eq_getElem hn]; rfl
 have e:plGiveE p n=0:=by unfold plGiveE; rw [if_neg (by omega),hpo,if_neg ho]
 exact ⟨e,by unfold plGive; rw [if_pos e]; rfl⟩
theorem plGv_props:∀ {l:List Nat} {p:PlM},p.Good→l.Nodup→(∀ m ∈ l,m<p.own.length∧p.own.getD m 0 ≠ -1)→(plGv p l).Good∧(plGv p l).own.length=p.own.length∧heldM (plGv p l)+l.length=heldM p ∧ ∀ m,(plGv p l).own.getD m 0=if m ∈ l then -1 else p.own.getD m 0
 |[],p,hg,_,_=>⟨hg,rfl,rfl,fun m=>by simp [plGv]⟩
 |n::r,p,hg,hn,h=>by
  obtain ⟨h1,h2⟩:=List.nodup_cons.1 hn
  obtain ⟨g1,g2⟩:=h n (by simp)
  obtain ⟨_,e⟩:=plGive_ok g1 g2
  have e1:plGv p (n::r)=plGv (p.give n) r:=by unfold plGv; rw [List.foldl_cons,e]
  have hu:=pgUsed_set (v := -1) g1
  rw [if_neg g2,if_pos rfl] at hu
  have ho:(p.give n).own=p.own.set n (-1):=rfl
  obtain ⟨i1,i2,i3,i4⟩:=plGv_props (p:=p.give n) (l:=r) (hg.give g1 g2) h2 (fun m hm=>by
   obtain ⟨a,b⟩:=h m (by simp [hm])
   rw [ho,List.length_set,getD_set_z,if_neg (fun ⟨e,_⟩=>h1 (e▸hm))]
   exact ⟨a,b⟩)
  rw [e1]
  refine ⟨i1,by rw [i2,ho,List.length_set],by unfold heldM at *; rw [ho] at i3; simp only [List.length_cons]; omega,fun m => ?_⟩
  rw [i4,ho,getD_set_z]
  by_cases e2:n=m
  ·subst e2
   rw [if_neg h1,if_pos ⟨rfl,g1⟩,if_pos (by simp)]
  ·by_cases e3:m ∈ r
   ·rw [if_pos e3,if_pos (List.mem_cons_of_mem _ e3)]
   ·rw [if_neg e3,if_neg (fun h=>e2 h.1),if_neg (fun h=>(List.mem_cons.1 h).elim (fun h=>e2 h.symm) e3)]
theorem plGv_of {p:PlM} (hg:p.Good) {l:List Nat} (hn:l.Nodup) (hl:∀ m ∈ l,m<p.own.length∧p.own.getD m 0 ≠ -1) {x:Sm} (hx:x.Of p) (hd:∀ m ∈ l,p.own.getD m 0≠x.cls):x.Of (plGv p l):=fun e he=>by
 obtain ⟨h1,h2⟩:=hx e he
 obtain ⟨_,p2,_,p4⟩:=plGv_props hg hn hl
 refine ⟨by omega,?_⟩
 rw [p4,if_neg (fun hm=>hd _ hm h2)]
 exact h2
theorem lgMany_append (l l':List (Nat × List Nat)):lgMany (l++l')=lgMany l+lgMany l':=by unfold lgMany; rw [List.map_append,List.sum_append]
theorem lgAll_append (l l':List (Nat × List Nat)):lgAll (l++l')=lgAll l++lgAll l':=by unfold lgAll; rw [List.flatMap_append]
theorem RmM.Ok.big {c:Conf} {M:RmM} (h:M.Ok c) (hg:M.pl.Good) {many:Nat} (h1:1≤many) (hm:many≤M.pl.free.length):(rmBig M many).Ok c:=by
 obtain ⟨p1,p2,p3,p4,p5⟩:=plTk_props (who:=((M.shs.length:Nat):Int)) (by omega) hg many hm
 have hall:M.pl.free.getD 0 0::(M.pl.free.take many).tail=M.pl.free.take many:=by
  cases hf:M.pl.free with
  |nil=>rw [hf] at hm; simp at hm; omega
  |cons a r =>
   obtain ⟨m,rfl⟩:∃ m,many=m+1:=⟨many - 1,by omega⟩
   rfl
 have eA:lgAll (rmBig M many).lg=lgAll M.lg++M.pl.free.take many:=by
  show lgAll (M.lg++_)=_
  rw [lgAll_append]
  unfold lgAll
  rw [List.flatMap_cons,List.flatMap_nil,List.append_nil,hall]
 have hsub:∀ m ∈ M.pl.free.take many,m ∈ M.pl.free:=fun m hm=>List.mem_of_mem_take hm
 refine ⟨h.n,h.each,by show ((plTk _ _ _).own.length:Int)=_; rw [p3]; exact h.own,fun m hm' => ?_,?_,?_,charged_pos h.tot⟩
 ·rw [eA] at hm'
  have hlt:m<M.pl.own.length:=by
   rcases List.mem_append.1 hm' with g | g
   ·exact (h.lg m g).1
   ·exact (hg.free m (hsub m g)).1
  refine ⟨by show m<(plTk _ _ _).own.length; omega,?_⟩
  show (plTk _ _ _).own.getD m 0=((M.shs.length:Nat):Int)
  rw [p5 m hlt]
  rcases List.mem_append.1 hm' with g | g
  ·by_cases e:m ∈ M.pl.free.take many
   ·rw [if_pos e]
   ·rw [if_neg e]; exact (h.lg m g).2
  ·rw [if_pos g]
 ·rw [eA]
  refine List.nodup_append.2 ⟨h.nd,hg.nodup.sublist (List.take_sublist _ _),fun a ha b hb e => ?_⟩
  subst e
  have:=(h.lg a ha).2
  have:=(hg.free a (hsub a hb)).2
  omega
 ·show heldM (plTk _ _ _)=shMany M.shs+lgMany (M.lg++_)
  rw [p4,lgMany_append,h.sum]
  have:((M.pl.free.take many).tail.length+1)=many:=by rw [List.length_tail,List.length_take]; omega
  unfold lgMany
  simp only [List.map_cons,List.map_nil,List.sum_cons,List.sum_nil]
  omega
theorem lgGet_some:∀ {l:List (Nat × List Nat)} {n:Int} {r:List Nat},lgGet l n=some r → ∃ m:Nat,n=m∧(m,r) ∈ l
 |(m,q)::t,n,r,h=>by
  unfold lgGet at h
  by_cases e:(m:Int)=n
  ·rw [if_pos e] at h; cases h; exact ⟨m,e.symm,by simp⟩
  ·rw [if_neg e] at h
   obtain ⟨m',e',hm⟩:=lgGet_some h
   exact ⟨m',e',by simp [hm]⟩
theorem lgGet_none:∀ {l:List (Nat × List Nat)} {n:Int},lgGet l n=none → ∀ e ∈ l,(e.1:Int)≠n
 |[],_,_,_,he=>by cases he
 |(m,q)::r,n,h,e,he=>by
  unfold lgGet at h
  by_cases hm:(m:Int)=n
  ·rw [if_pos hm] at h; cases h
  ·rw [if_neg hm] at h
   rcases List.mem_cons.1 he with rfl | he
   ·exact hm
   ·exact lgGet_none h e he
theorem mem_lgAll {l:List (Nat × List Nat)} {e:Nat × List Nat} (h:e ∈ l) {m:Nat} (hm:m ∈ e.1::e.2):m ∈ lgAll l:=List.mem_flatMap.2 ⟨e,h,hm⟩
theorem lgDel_none:∀ {l:List (Nat × List Nat)} {n:Nat},n ∉ lgAll l→lgDel l n=l:=fun {l n} h=>by
 unfold lgDel
 refine List.filter_eq_self.2 fun e he => ?_
 simp only [bne_iff_ne,ne_eq]
 exact fun e'=>h (mem_lgAll he (by rw [e']; simp))
theorem lgDel_cut:∀ {l:List (Nat × List Nat)} {n:Nat} {r:List Nat},(lgAll l).Nodup→(n,r) ∈ l → ∃ a b,l=a++(n,r)::b∧lgDel l n=a++b:=fun {l n r} hn hm=>by
 obtain ⟨a,b,rfl⟩:=List.append_of_mem hm
 refine ⟨a,b,rfl,?_⟩
 have e:lgAll (a++(n,r)::b)=lgAll a++((n::r)++lgAll b):=by rw [lgAll_append]; rfl
 rw [e] at hn
 obtain ⟨h1,h2,h3⟩:=List.nodup_append.1 hn
 obtain ⟨h4,h5,h6⟩:=List.nodup_append.1 h2
 have ha:n ∉ lgAll a:=fun h=>h3 n h n (by simp) rfl
 have hb:n ∉ lgAll b:=fun h=>h6 n (by simp) n h rfl
 have:lgDel (a++(n,r)::b) n=lgDel a n++lgDel b n:=by unfold lgDel; rw [List.filter_append,List.filter_cons]; simp
 rw [this,lgDel_none ha,lgDel_none hb]
theorem RmM.Ok.gone {c:Conf} {M:RmM} (h:M.Ok c) (hg:M.pl.Good) {n:Nat} {r:List Nat} (hm:(n,r) ∈ M.lg):(rmGone M n r).Ok c∧(plGv M.pl (n::r)).Good:=by
 obtain ⟨a,b,e1,e2⟩:=lgDel_cut h.nd hm
 have eA:lgAll M.lg=lgAll a++((n::r)++lgAll b):=by rw [e1,lgAll_append]; rfl
 have hn:=h.nd
 rw [eA] at hn
 obtain ⟨h1,h2,h3⟩:=List.nodup_append.1 hn
 obtain ⟨h4,h5,h6⟩:=List.nodup_append.1 h2
 obtain ⟨p1,p2,p3,p4⟩:=plGv_props (l:=n::r) hg h4 (fun m hm'=>by
  obtain ⟨g1,g2⟩:=h.lg m (mem_lgAll hm hm')
  exact ⟨g1,by omega⟩)
 have eB:lgAll (lgDel M.lg n)=lgAll a++lgAll b:=by rw [e2,lgAll_append]
 refine ⟨⟨h.n,h.each,by show ((plGv _ _).own.length:Int)=_; rw [p2]; exact h.own,fun m hm' => ?_,?_,?_,charged_pos h.tot⟩,p1⟩
 ·replace hm':m ∈ lgAll (lgDel M.lg n):=hm'
  rw [eB] at hm'
  have hold:m ∈ lgAll M.lg:=by
   rw [eA]
   rcases List.mem_append.1 hm' with g | g <;> simp [g]
  obtain ⟨g1,g2⟩:=h.lg m hold
  refine ⟨by show m<(plGv _ _).own.length; omega,?_⟩
  show (plGv _ _).own.getD m 0=((M.shs.length:Nat):Int)
  rw [p4,if_neg]
  ·exact g2
  ·intro hc
   rcases List.mem_append.1 hm' with g | g
   ·exact h3 m g m (List.mem_append.2 (.inl hc)) rfl
   ·exact h6 m hc m g rfl
 ·show (lgAll (lgDel M.lg n)).Nodup
  rw [eB]
  exact List.nodup_append.2 ⟨h1,h5,fun x hx y hy=>h3 x hx y (List.mem_append.2 (.inr hy))⟩
 ·show heldM (plGv _ _)=shMany M.shs+lgMany (lgDel M.lg n)
  have hs:=h.sum
  rw [e1,lgMany_append] at hs
  rw [e2,lgMany_append]
  have:lgMany ((n,r)::b)=(r.length+1)+lgMany b:=by unfold lgMany; rw [List.map_cons,List.sum_cons]
  simp only [List.length_cons] at p3
  omega
end Go.Proofs.YtnaoiegcobineaaGreatDoor
namespace Go.Proofs.YtnaoiegcobineaaGreatDoor
open Go.RowKit
structure Rm where
 rb:Nat
 c:Conf
 p:ConfAt
 mo:Option Nat
 P:Pl
 sb:Nat
 sc:Nat
 lm:Nat
 S:Nat→Sh
 lap:Int
 X:Nat→Prop
abbrev rmV (R:Rm):Value := .pointer (some ⟨R.rb,0,none⟩)
def rmL (R:Rm) (n:Nat):List Value:=confL R.c R.p ++ [ptr R.mo,plV R.P,.slice (some ⟨R.sb,0,none⟩) n R.sc,.map (some R.lm)]
def Far (F:Nat→Prop) (w:World) (a:Option Addr) (l:List Int):Prop:=Rd .i64 w a l∧(0<l.length→OutA F a)
theorem Far.chg {F S:Nat→Prop} {w w':World} {a:Option Addr} {l:List Int} (h:Far F w a l) (hc:Chg S w w') (hS:∀ z,S z→F z):Far F w' a l:=by
 refine ⟨?_,h.2⟩
 by_cases hl:0<l.length
 ·exact h.1.far ((h.2 hl).mono hS) hc
 ·have:l = []:=List.eq_nil_of_length_eq_zero (by omega)
  subst this
  exact Rd.nil _ _ _
theorem Rd.block {k:IntKind} {w:World} {a:Option Addr} {l:List Int} (h:Rd k w a l) (hl:0<l.length) {b off:Nat} {s} (e:a=some ⟨b,off,s⟩):b<w.heap.size:=by
 obtain ⟨b',off',e',hc⟩:=h 0 hl
 rw [e] at e'; cases e'
 exact World.block_lt_of_cell? w _ hc
theorem Far.grow {F F':Nat→Prop} {w:World} {a:Option Addr} {l:List Int} (h:Far F w a l) (hF:∀ z,F' z→F z∨w.heap.size≤z):Far F' w a l :=
 ⟨h.1,fun hl b off s e hz=>by
  rcases hF b hz with hz | hz
  ·exact h.2 hl b off s e hz
  ·have:=h.1.block hl e; omega⟩
theorem kd_chg {S:Nat→Prop} {w w':World} {b:Nat} {x:Option Nat} (hc:Chg S w w') (h:kd w b=some x) (hS:¬ S b):kd w' b=some x:=by
 have hl:=kd_lt h
 unfold kd at *
 rw [hc.block b hl hS]
 exact h
def Mine (F:Nat→Prop) (w:World) (a:Option Addr):Prop := ∀ b off s,a=some ⟨b,off,s⟩→kd w b=some (some 3) ∧ ¬ F b
theorem Mine.chg {F S:Nat→Prop} {w w':World} {a:Option Addr} (h:Mine F w a) (hc:Chg S w w') (hS:∀ b,kd w b=some (some 3)→S b→F b):Mine F w' a:=fun b off s e =>
 ⟨kd_chg hc (h b off s e).1 (fun hz=>(h b off s e).2 (hS b (h b off s e).1 hz)),(h b off s e).2⟩
def LgAt (F:Nat→Prop) (w:World) (lm:Nat) (lg:List (Nat × List Nat)):Prop := ∃ m,MapAt w lm m∧(akeys m).Nodup∧(∀ e ∈ lg,∃ a cap,alook m e.1=some (.slice a e.2.length cap)∧Rd .i64 w a (natsI e.2)∧Mine F w a) ∧ ∀ k:Int,(∀ e ∈ lg,(e.1:Int)≠k)→alook m k=none
theorem LgAt.chg {F S:Nat→Prop} {w w':World} {lm:Nat} {lg:List (Nat × List Nat)} (h:LgAt F w lm lg) (hc:Chg S w w') (hS:∀ b,kd w b=some (some 3)→S b→F b) (hl:¬ S lm):LgAt F w' lm lg:=by
 obtain ⟨m,h1,h2,h3,h4⟩:=h
 exact ⟨m,h1.chg hc hl,h2,fun e he=>by obtain ⟨a,cap,g1,g2,g3⟩:=h3 e he; exact ⟨a,cap,g1,g2.far (fun b off s e hb=>(g3 b off s e).2 (hS b (g3 b off s e).1 hb)) hc,g3.chg hc hS⟩,h4⟩
theorem LgAt.grow {F F':Nat→Prop} {w:World} {lm:Nat} {lg:List (Nat × List Nat)} (h:LgAt F w lm lg) (hF:∀ z,F' z→F z∨w.heap.size≤z):LgAt F' w lm lg:=by
 obtain ⟨m,h1,h2,h3,h4⟩:=h
 exact ⟨m,h1,h2,fun e he=>by
  obtain ⟨a,cap,g1,g2,g3⟩:=h3 e he
  exact ⟨a,cap,g1,g2,fun b off s e=>⟨(g3 b off s e).1,fun hz=>(hF b hz).elim (g3 b off s e).2 (fun h=>by have:=kd_lt (g3 b off s e).1; omega)⟩⟩,h4⟩
def ShsAt (F:Nat→Prop) (w:World) (R:Rm) (shs:List Sm) (pl:PlM):Prop := ∃ G:Nat→Nat→Pg,
 (∀ k x,shs[k]? = some x→(R.S k).P=R.P∧ShOk w (R.S k) (G k) x pl ∧ ∀ z,shFoot (R.S k) (G k) x.pg z→F z∧z≠R.lm) ∧
 ∀ j k x y,j≠k→shs[j]? = some x→shs[k]? = some y → ∀ z,shFoot (R.S j) (G j) x.pg z → ¬ shFoot (R.S k) (G k) y.pg z
def Rm.FX (R:Rm) (F:Nat→Prop):Nat→Prop:=fun z=>F z∨R.X z
structure RmSt (F:Nat→Prop) (w:World) (R:Rm) (M:RmM):Prop where
 ok:M.Ok R.c
 obj:w.heap[R.rb]? = some (.cells (rmL R M.shs.length).toArray 152 (0,0))
 cls:Far F w R.p.ca R.c.classes
 kee:Far F w R.p.ka R.c.keep
 may:mayB R.c=true
 met:∀ b,R.mo=some b→F b∧MeterAt w b M.tot R.lap
 sl:∀ k,k<M.shs.length→w.cell? ⟨R.sb,k,none⟩=some (sfV (R.S k))
 pool:PoolOk w R.P M.pl
 pf:∀ z,plFoot R.P z→F z
 sh:ShsAt F w R M.shs M.pl
 lg:LgAt (R.FX F) w R.lm M.lg
 lf:F R.lm
 rf:¬ F R.rb
 sf:¬ F R.sb
 low:∀ z,F z→z<w.heap.size
 tab:TabAt w
 tf:¬ F 0
 xl:∀ z,R.X z→z<w.heap.size ∧ ¬ F z
theorem RmSt.conf {F:Nat→Prop} {w:World} {R:Rm} {M:RmM} (h:RmSt F w R M):ConfOk w R.c R.p:=by
 have hm:=h.may
 unfold mayB at hm
 simp only [Bool.and_eq_true,decide_eq_true_eq] at hm
 obtain ⟨⟨⟨⟨⟨⟨⟨h1,h2⟩,h3⟩,h4,_⟩,_⟩,_⟩,_⟩,_⟩:=hm
 have hl:=classOk_len h3
 have:=sizedM_iff.1 h1
 exact ⟨h.cls.1,h.kee.1,by omega,by omega,by unfold In64; omega⟩
def RmTo (F:Nat→Prop) (w w':World) (R:Rm) (M:RmM):Prop := ∃ F',RmSt F' w' R M∧(∀ z,F' z→F z∨w.heap.size≤z)∧Chg F w w'
theorem RmTo.of {F:Nat→Prop} {w w':World} {R:Rm} {M:RmM} (h:RmSt F w' R M) (hc:Chg F w w'):RmTo F w w' R M:=⟨F,h,fun _ h => .inl h,hc⟩
theorem RmTo.trans {F:Nat→Prop} {w w1 w2:World} {R:Rm} {M:RmM} {F1:Nat→Prop} (hF:∀ z,F1 z→F z∨w.heap.size≤z) (hc:Chg F w w1) (h:RmTo F1 w1 w2 R M):RmTo F w w2 R M:=by
 obtain ⟨F2,a,b,c⟩:=h
 refine ⟨F2,a,fun z hz => ?_,hc.since c fun z hz h1 => ?_⟩
 ·rcases b z hz with h | h
  ·exact hF z h
  ·have:=hc.size; exact .inr (by omega)
 ·rcases hF z h1 with h | h
  ·exact h
  ·omega
section
variable {F:Nat→Prop} {w w':World} {R:Rm} {M:RmM}
theorem ShsAt.grow {shs:List Sm} {pl:PlM} (h:ShsAt F w R shs pl) (hc:Chg None' w w'):ShsAt F w' R shs pl:=by
 obtain ⟨G,a,b⟩:=h
 exact ⟨G,fun k x hx=>by obtain ⟨h1,h2,h3⟩:=a k x hx; exact ⟨h1,h2.grow hc,h3⟩,b⟩
theorem RmSt.grow (h:RmSt F w R M) (hc:Chg None' w w'):RmSt F w' R M :=
 ⟨h.ok,hc.heap' h.obj,h.cls.chg hc (fun _ h=>h.elim),h.kee.chg hc (fun _ h=>h.elim),h.may,fun b hb=>by obtain ⟨h1,h2⟩:=h.met b hb; exact ⟨h1,h2.chg hc⟩,
  fun k hk=>hc.cell (h.sl k hk) id,h.pool.grow hc,h.pf,h.sh.grow hc,h.lg.chg hc (fun _ _ h=>h.elim) id,h.lf,h.rf,h.sf,fun z hz=>by have:=h.low z hz; have:=hc.size; omega,h.tab.grow hc,h.tf,fun z hz=>⟨by have:=(h.xl z hz).1; have:=hc.size; omega,(h.xl z hz).2⟩⟩
theorem kd_meter {b:Nat} {t l:Int} (h:MeterAt w b t l):kd w b=some (some 143):=kd_cells h.1
theorem kd_lg {F:Nat→Prop} {lm:Nat} {lg:List (Nat × List Nat)} (h:LgAt F w lm lg):kd w lm=some none:=by
 obtain ⟨m,hm,_⟩:=h
 exact kd_map hm
theorem RmSt.charge (h:RmSt F w R M) {b:Nat} (hb:R.mo=some b) {t:Int} (hm:MeterAt w' b t R.lap) (hc:Chg (fun z=>z=b) w w'):RmSt F w' R {M with tot:=t}:=by
 obtain ⟨hF,hm0⟩:=h.met b hb
 have kb:=kd_meter hm0
 have hS:∀ z,z=b→F z:=fun z e=>e▸hF
 have kp:=h.pool.kds
 have ne1:R.P.pb≠b:=kd_ne kp.1 kb (by decide)
 have ne2:R.P.ab≠b:=kd_ne kp.2 kb (by decide)
 have ne3:R.lm≠b:=kd_ne (kd_lg h.lg) kb (by simp)
 have ht:0≠b:=fun e=>h.tf (e▸hF)
 refine ⟨{h.ok with tot:=by have:=hm.2; show 0≤t∧t≤4611686018427387904; omega},hc.heap h.obj (fun e=>h.rf (hS _ e)),h.cls.chg hc hS,h.kee.chg hc hS,h.may,fun b' hb' => ?_,fun k hk=>hc.cell (h.sl k hk) (fun e=>h.sf (hS _ e)),h.pool.chg hc ne1 ne2,h.pf,?_,h.lg.chg hc (fun z _ h => .inl (hS z h)) ne3,h.lf,h.rf,h.sf,fun z hz=>by have:=h.low z hz; have:=hc.size; omega,h.tab.chg hc ht,h.tf,fun z hz=>⟨by have:=(h.xl z hz).1; have:=hc.size; omega,(h.xl z hz).2⟩⟩
 ·rw [hb] at hb'; cases hb'; exact ⟨hF,hm⟩
 ·obtain ⟨G,a,d⟩:=h.sh
  refine ⟨G,fun k x hx => ?_,d⟩
  obtain ⟨h1,h2,h3⟩:=a k x hx
  have ap:=h2.at'.apart kb (by decide)
  exact ⟨h1,⟨h2.ok,h2.pos,h2.of,h2.at'.chg hc (fun z e=>e▸ap.1) (fun z e=>e▸ap.2) ht,h2.pool.chg hc (by rw [h1]; exact ne1) (by rw [h1]; exact ne2)⟩,h3⟩
theorem ShOk.beside {S S':Sh} {G G':Nat→Pg} {x x':Sm} {pl pl':PlM} (h:ShOk w S G x pl) (h':ShOk w S' G' x' pl) (hd:∀ z,shFoot S' G' x'.pg z → ¬ shFoot S G x.pg z) (hc:Chg (allFoot S' G' x'.pg) w w') (hP:S.P=S'.P) (hp:PoolOk w' S'.P pl') (hof:x.Of pl'):ShOk w' S G x pl':=by
 have k':=h'.at'.kds
 have k:=h.at'.kds
 obtain ⟨q1,q2⟩:=h'.pool.kds
 have a1:=h.at'.apart q1 (by decide)
 have a2:=h.at'.apart q2 (by decide)
 have kx:∀ {z:Nat},allFoot S' G' x'.pg z→kd w z≠some (some 264)∧kd w z≠some (some 260):=fun {z} hz=>by
  rcases hz with (e | e | (e | e) | ⟨e,he,e1 | e1⟩) | e | e
  ·subst e; rw [k'.sb]; exact ⟨by decide,by decide⟩
  ·subst e; rw [k'.sm]; exact ⟨by simp,by simp⟩
  ·subst e; rw [k'.ab]; exact ⟨by decide,by decide⟩
  ·subst e; rw [k'.nb]; exact ⟨by decide,by decide⟩
  ·subst e1; rw [(h'.at'.pages e he).kds.bb]; exact ⟨by decide,by decide⟩
  ·subst e1; rw [(h'.at'.pages e he).kds.mb]; exact ⟨by simp,by simp⟩
  ·subst e; rw [q1]; exact ⟨by decide,by decide⟩
  ·subst e; rw [q2]; exact ⟨by decide,by decide⟩
 have out:∀ z,shFoot S G x.pg z → ¬ allFoot S' G' x'.pg z:=fun z hz hz'=>by
  rcases hz' with hz' | hz'
  ·exact hd z hz' hz
  ·have hz2:z=S'.P.pb∨z=S'.P.ab:=hz'
   have n:=h.at'.notpool (hP▸h'.pool)
   rw [hP] at n
   rcases hz2 with e | e
   ·subst e; exact n.1 hz
   ·subst e; exact n.2 hz
 refine ⟨h.ok,h.pos,hof,h.at'.chg hc (fun z hz=>⟨fun e=>out z (.inl e) hz,fun e=>out z (.inr (.inl e)) hz,fun e=>(kx hz).1 (e▸k.lb),fun e=>out z (.inr (.inr (.inl e))) hz⟩) (fun z hz e he=>⟨fun e'=>(kx hz).2 (e'▸(h.at'.pages e he).kds.p),fun e'=>out z (.inr (.inr (.inr ⟨e,he,e'⟩))) hz⟩) ?_,hP▸hp⟩
 rintro (e | e)
 ·rcases e with e | e | e | ⟨e,he,e1⟩
  ·exact tab_ne h'.at'.tab (fun v e2=>by rw [cell_of h'.at'.obj] at e2; simp [shL] at e2) e
  ·obtain ⟨m,hm,_⟩:=h'.at'.map
   exact tab_map hm h'.at'.tab e
  ·exact tab_ring h'.at'.ring h'.at'.tab e
  ·exact tab_page (h'.at'.pages e he) e1
 ·exact tab_pool h'.at'.tab h'.pool e
theorem RmSt.shelf (h:RmSt F w R M) {k:Nat} {x:Sm} (hx:M.shs[k]? = some x):∃ Gk,(R.S k).P=R.P∧ShOk w (R.S k) Gk x M.pl∧(∀ z,allFoot (R.S k) Gk x.pg z→F z) ∧ ∀ w' G' x' pl',ShOk w' (R.S k) G' x' pl'→Chg (allFoot (R.S k) Gk x.pg) w w' →
 (∀ z,shFoot (R.S k) G' x'.pg z→shFoot (R.S k) Gk x.pg z∨w.heap.size≤z)→Eff M.pl pl' x.cls→x'.cls=x.cls→x'.blocks=x.blocks→heldM pl'+x.pg.length=heldM M.pl+x'.pg.length→RmTo F w w' R (rmSet M k x' pl'):=by
 obtain ⟨G,a,d⟩:=h.sh
 obtain ⟨hP,hk,hf⟩:=a k x hx
 have hkl:k<M.shs.length:=(List.getElem?_eq_some_iff.1 hx).1
 have hall:∀ z,allFoot (R.S k) (G k) x.pg z→F z:=fun z hz=>by
  rcases hz with hz | hz
  ·exact (hf z hz).1
  ·exact h.pf z (hP▸hz)
 refine ⟨G k,hP,hk,hall,fun w' G' x' pl' h1 hc h2 hE hcl hbl hs => ?_⟩
 have hlt':=h1.foot_lt
 let F':Nat→Prop:=fun z=>F z∨(w.heap.size≤z∧shFoot (R.S k) G' x'.pg z)
 have hF':∀ z,F' z→F z∨w.heap.size≤z:=fun z hz=>hz.imp id (·.1)
 have hlm:¬ allFoot (R.S k) (G k) x.pg R.lm:=by
  rintro (hz | hz)
  ·exact (hf _ hz).2 rfl
  ·have kl:=kd_lg h.lg
   have kp:=hk.pool.kds
   rcases hz with e | e
   ·exact kd_ne kl kp.1 (by simp) e
   ·exact kd_ne kl kp.2 (by simp) e
 have hlmlt:R.lm<w.heap.size:=h.low _ h.lf
 have hnew:∀ (b:Nat),b<w.heap.size → ¬ F b → ¬ F' b:=fun b hb hn hz=>by
  rcases hz with hz | ⟨hz,_⟩
  ·exact hn hz
  ·omega
 have hsblt:R.sb<w.heap.size:=World.block_lt_of_cell? w _ (h.sl k hkl)
 have htlt:0<w.heap.size:=World.block_lt_of_cell? w _ (h.tab 0 (by decide))
 refine ⟨F',⟨h.ok.set h.pool.good hx hE hcl hbl hs,?_,(h.cls.grow hF').chg hc (fun z hz => .inl (hall z hz)),(h.kee.grow hF').chg hc (fun z hz => .inl (hall z hz)),h.may,fun b hb => ?_,fun j hj => ?_,hP▸h1.pool,fun z hz => .inl (h.pf z hz),⟨fun j=>if j=k then G' else G j,fun j y hy => ?_,fun i j y y' hij hy hy' z hz => ?_⟩,(h.lg.grow (F':=R.FX F') (fun z hz=>hz.elim (fun h=>(hF' z h).imp .inl id) (fun h => .inl (.inr h)))).chg hc (fun z _ hz => .inl (.inl (hall z hz))) hlm,.inl h.lf,hnew _ (lt_of_heap h.obj) h.rf,hnew _ hsblt h.sf,fun z hz => ?_,h1.at'.tab,hnew _ htlt h.tf,fun z hz=>⟨by have:=(h.xl z hz).1; have:=hc.size; omega,hnew z (h.xl z hz).1 (h.xl z hz).2⟩⟩,hF',hc.mono fun z _ hz=>hall z hz⟩
 ·show w'.heap[R.rb]? = some (.cells (rmL R (M.shs.set k x').length).toArray _ _)
  rw [List.length_set]
  exact hc.heap h.obj (fun hz=>h.rf (hall _ hz))
 ·obtain ⟨hb1,hm⟩:=h.met b hb
  have kb:=kd_meter hm
  have kp:=hk.pool.kds
  have ap:=hk.at'.apart kb (by decide)
  refine ⟨.inl hb1,hc.heap hm.1 ?_,hm.2⟩
  rintro ((e | e | e | ⟨e,he,e1⟩) | e | e)
  ·exact ap.1.1 e
  ·exact ap.1.2.1 e
  ·exact ap.1.2.2.2 e
  ·exact (ap.2 e he).2 e1
  ·exact kd_ne kb kp.1 (by decide) e
  ·exact kd_ne kb kp.2 (by decide) e
 ·exact hc.cell (h.sl j (by replace hj:j<(M.shs.set k x').length:=hj; rw [List.length_set] at hj; exact hj)) (fun hz=>h.sf (hall _ hz))
 ·replace hy:(M.shs.set k x')[j]? = some y:=hy
  by_cases e:j=k
  ·subst e
   rw [List.getElem?_set_self hkl] at hy; cases hy
   simp only [if_true]
   refine ⟨hP,h1,fun z hz => ?_⟩
   rcases h2 z hz with g | g
   ·exact ⟨.inl (hf z g).1,(hf z g).2⟩
   ·exact ⟨.inr ⟨g,hz⟩,by omega⟩
  ·rw [List.getElem?_set_ne (Ne.symm e)] at hy
   simp only [if_neg e]
   obtain ⟨p1,p2,p3⟩:=a j y hy
   obtain ⟨c1,_⟩:=h.ok.each j y hy
   obtain ⟨c2,_⟩:=h.ok.each k x hx
   exact ⟨p1,p2.beside hk (fun z h1 h2=>d j k y x e hy hx z h2 h1) hc (p1.trans hP.symm) h1.pool (hE.of h.pool.good p2.of (by omega) (by omega)),fun z hz=>⟨.inl (p3 z hz).1,(p3 z hz).2⟩⟩
 ·replace hy:(M.shs.set k x')[i]? = some y:=hy
  replace hy':(M.shs.set k x')[j]? = some y':=hy'
  have old:∀ {i:Nat} {y:Sm},i≠k→M.shs[i]? = some y → ∀ {z:Nat},shFoot (R.S i) (G i) y.pg z → ¬ shFoot (R.S k) G' x'.pg z:=fun {i y} hi hy {z} hz hz'=>by
   rcases h2 z hz' with g | g
   ·exact d i k y x hi hy hx z hz g
   ·have:=h.low z ((a i y hy).2.2 z hz).1; omega
  by_cases e:i=k
  ·subst e
   rw [List.getElem?_set_self hkl] at hy; cases hy
   rw [List.getElem?_set_ne hij] at hy'
   simp only [if_true] at hz
   simp only [if_neg (Ne.symm hij)]
   exact fun hz'=>old (Ne.symm hij) hy' hz' hz
  ·rw [List.getElem?_set_ne (Ne.symm e)] at hy
   simp only [if_neg e] at hz
   by_cases e':j=k
   ·subst e'
    rw [List.getElem?_set_self hkl] at hy'; cases hy'
    simp only [if_true]
    exact old e hy hz
   ·rw [List.getElem?_set_ne (Ne.symm e')] at hy'
    simp only [if_neg e']
    exact d i j y y' hij hy hy' z hz
 ·rcases hz with hz | ⟨_,hz⟩
  ·have:=h.low z hz; have:=hc.size; omega
  ·exact hlt' z (.inl hz)
theorem ShOk.swap {S:Sh} {G:Nat→Pg} {x:Sm} {pl pl':PlM} {lm:Nat} (h:ShOk w S G x pl) (hlm:kd w lm=some none) (hnl:¬ shFoot S G x.pg lm) (hc:Chg (fun z=>plFoot S.P z∨z=lm) w w') (hp:PoolOk w' S.P pl') (hof:x.Of pl') (ht:0≠lm):ShOk w' S G x pl':=by
 obtain ⟨q1,q2⟩:=h.pool.kds
 have a1:=h.at'.apart q1 (by decide)
 have a2:=h.at'.apart q2 (by decide)
 have k:=h.at'.kds
 refine ⟨h.ok,h.pos,hof,h.at'.chg hc (fun z hz => ?_) (fun z hz e he => ?_) ?_,hp⟩
 ·rcases hz with (e | e) | e
  ·exact e▸a1.1
  ·exact e▸a2.1
  ·subst e
   exact ⟨fun e=>hnl (.inl e),fun e=>hnl (.inr (.inl e)),kd_ne hlm k.lb (by simp),fun e=>hnl (.inr (.inr (.inl e)))⟩
 ·rcases hz with (e1 | e1) | e1
  ·exact e1▸a1.2 e he
  ·exact e1▸a2.2 e he
  ·subst e1
   exact ⟨kd_ne hlm (h.at'.pages e he).kds.p (by simp),fun e'=>hnl (.inr (.inr (.inr ⟨e,he,e'⟩)))⟩
 ·rintro (e | e)
  ·exact tab_pool h.at'.tab h.pool e
  ·exact ht e
theorem RmSt.swap (h:RmSt F w R M) {pl':PlM} {lg':List (Nat × List Nat)} (hok:RmM.Ok R.c {M with pl:=pl',lg:=lg'}) (hc:Chg (fun z=>plFoot R.P z∨z=R.lm) w w') (hp:PoolOk w' R.P pl') (hl:LgAt (R.FX F) w' R.lm lg') (hof:∀ (k:Nat) (x:Sm),M.shs[k]? = some x→x.Of M.pl→x.Of pl'):RmSt F w' R {M with pl:=pl',lg:=lg'}:=by
 have hS:∀ z,(plFoot R.P z∨z=R.lm)→F z:=fun z hz=>hz.elim (h.pf z) (fun e=>e▸h.lf)
 have kl:=kd_lg h.lg
 have kp:=h.pool.kds
 refine ⟨hok,hc.heap h.obj (fun hz=>h.rf (hS _ hz)),h.cls.chg hc hS,h.kee.chg hc hS,h.may,fun b hb => ?_,fun k hk=>hc.cell (h.sl k hk) (fun hz=>h.sf (hS _ hz)),hp,h.pf,?_,hl,h.lf,h.rf,h.sf,fun z hz=>by have:=h.low z hz; have:=hc.size; omega,h.tab.chg hc (fun hz=>h.tf (hS _ hz)),h.tf,fun z hz=>⟨by have:=(h.xl z hz).1; have:=hc.size; omega,(h.xl z hz).2⟩⟩
 ·obtain ⟨h1,hm⟩:=h.met b hb
  have kb:=kd_meter hm
  refine ⟨h1,hc.heap hm.1 ?_,hm.2⟩
  rintro ((e | e) | e)
  ·exact kd_ne kb kp.1 (by decide) e
  ·exact kd_ne kb kp.2 (by decide) e
  ·exact kd_ne kb kl (by simp) e
 ·obtain ⟨G,a,d⟩:=h.sh
  refine ⟨G,fun k x hx => ?_,d⟩
  obtain ⟨h1,h2,h3⟩:=a k x hx
  exact ⟨h1,h2.swap kl (fun hz=>(h3 _ hz).2 rfl) (by rw [h1]; exact hc) (by rw [h1]; exact hp) (hof k x hx h2.of) (fun e=>h.tf (e▸h.lf)),h3⟩
theorem RmSt.note {F0:Nat→Prop} {w0:World} {M0:RmM} (h0:RmSt F0 w0 R M0) (h:RmSt F w R M) {eb:Nat} {t:Nat} (hk:kd w eb=some (some t)) (hnew:w0.heap.size≤eb) (hF:¬ F eb) (hc:Chg (fun z=>z=eb) w w')
 (ht:t≠143∧t≠204∧t≠254∧t≠3∧t≠214∧t≠264∧t≠269∧t≠271∧t≠260∧t≠301):RmSt F w' R M:=by
 have d:∀ {t':Nat},t≠t'→some (some t)≠some (some t'):=fun h e=>h (Option.some.inj (Option.some.inj e))
 have hpos:0<M0.shs.length:=by
  have hm:=h0.may
  unfold mayB at hm
  simp only [Bool.and_eq_true,decide_eq_true_eq] at hm
  have:=classOk_len hm.1.1.1.1.1.2
  have:=h0.ok.n
  omega
 have hrb:R.rb≠eb:=by have:=lt_of_heap h0.obj; omega
 have hsb:R.sb≠eb:=by have:=World.block_lt_of_cell? w0 _ (h0.sl 0 hpos); simp only at this; omega
 have htb:0≠eb:=by have:=World.block_lt_of_cell? w0 _ (h0.tab 0 (by decide)); simp only at this; omega
 have hfar:∀ {a:Option Addr} {l:List Int},Far F0 w0 a l→Far F w a l→Far F w' a l:=fun {a l} g0 g=>by
  refine ⟨?_,g.2⟩
  by_cases hl:0<l.length
  ·exact g.1.far (fun b off s e hb=>by have:=g0.1.block hl e; omega) hc
  ·have:l = []:=List.eq_nil_of_length_eq_zero (by omega)
   subst this
   exact Rd.nil _ _ _
 have kp:=h.pool.kds
 have n1:R.P.pb≠eb:=kd_ne kp.1 hk (Ne.symm (d ht.2.1))
 have n2:R.P.ab≠eb:=kd_ne kp.2 hk (Ne.symm (d ht.2.2.1))
 refine ⟨h.ok,hc.heap h.obj hrb,hfar h0.cls h.cls,hfar h0.kee h.kee,h.may,fun b hb => ?_,fun k hk'=>hc.cell (h.sl k hk') hsb,h.pool.chg hc n1 n2,h.pf,?_,h.lg.chg hc (fun z hz e=>absurd (hz.symm.trans (e▸hk)) (Ne.symm (d ht.2.2.2.1))) (kd_ne (kd_lg h.lg) hk (by simp)),h.lf,h.rf,h.sf,fun z hz=>by have:=h.low z hz; have:=hc.size; omega,h.tab.chg hc htb,h.tf,fun z hz=>⟨by have:=(h.xl z hz).1; have:=hc.size; omega,(h.xl z hz).2⟩⟩
 ·obtain ⟨h1,hm⟩:=h.met b hb
  exact ⟨h1,hc.heap hm.1 (fun e=>hF (e▸h1)),hm.2⟩
 ·obtain ⟨G,a,e⟩:=h.sh
  refine ⟨G,fun k x hx => ?_,e⟩
  obtain ⟨h1,h2,h3⟩:=a k x hx
  have ap:=h2.at'.apart hk ht.2.2.2.2
  exact ⟨h1,⟨h2.ok,h2.pos,h2.of,h2.at'.chg hc (fun z e=>e▸ap.1) (fun z e=>e▸ap.2) htb,h2.pool.chg hc (by rw [h1]; exact n1) (by rw [h1]; exact n2)⟩,h3⟩
theorem room_meter (h:RmSt F w R M) (n:Int):Does Tryz.prog 100 #[ptr R.mo,.int .i64 n] w (fun _ w'=>RmSt F w' R {M with tot:=charged M.tot n}∧Chg F w w'):=by
 cases hm:R.mo with
 |none =>
  refine (meter_Charge0 n w).mono fun _ w' e => ?_
  subst e
  have hp:=charged_pos (n:=n) h.ok.tot
  exact ⟨{h with ok:={h.ok with tot:=hp},met:=fun b hb=>by rw [hm] at hb; cases hb},Chg.refl _ _⟩
 |some b =>
  obtain ⟨hF,hb⟩:=h.met b hm
  exact (meter_Charge b M.tot R.lap n w hb).mono fun _ w' ⟨h1,h2⟩=>⟨h.charge hm h1 h2,h2.mono fun z _ e=>e▸hF⟩
end
end Go.Proofs.YtnaoiegcobineaaGreatDoor
namespace Go.Proofs.YtnaoiegcobineaaGreatDoor
open Go.RowKit
def rsV (R:Rm) (M:RmM) (k:Int):Value:=match rmGet M k with | none => .pointer none | some _=>sfV (R.S k.toNat)
theorem rmGet_some {M:RmM} {k:Int} {x:Sm} (h:rmGet M k=some x):∃ n:Nat,k=n∧n<M.shs.length∧M.shs[n]? = some x:=by
 unfold rmGet at h
 by_cases h0:0≤k
 ·rw [if_pos h0] at h
  exact ⟨k.toNat,by omega,(List.getElem?_eq_some_iff.1 h).1,h⟩
 ·rw [if_neg h0] at h; cases h
theorem rmGet_none {M:RmM} {k:Int} (h:k<0∨(M.shs.length:Int)≤k):rmGet M k=none:=by
 unfold rmGet
 by_cases h0:0≤k
 ·rw [if_pos h0,List.getElem?_eq_none (by omega)]
 ·rw [if_neg h0]
theorem rmGet_nat {M:RmM} {k:Nat} (h:k<M.shs.length):rmGet M k=some M.shs[k]:=by
 unfold rmGet
 rw [if_pos (by omega)]
 exact List.getElem?_eq_getElem h
theorem room_shelf {F:Nat→Prop} {w:World} {R:Rm} {M:RmM} (h:RmSt F w R M) (k:Int):Does Tryz.prog 188 #[rmV R,.int .i64 k] w (Same (rsV R M k) w):=by
 have hn:=h.ok.n
 have hc16:M.shs.length≤16:=by
  have hm:=h.may
  unfold mayB at hm
  simp only [Bool.and_eq_true,decide_eq_true_eq] at hm
  have:=classOk_len hm.1.1.1.1.1.2
  omega
 refine Does.enter Tryz.func188 rfl Tryz.ntmps188 rfl rfl ?_
 refine Goes.adv hTT 400 rfl ?_
 refine Goes.fork hTT rfl rfl rfl (fun h1 => ?_) (fun h1 => ?_)
 ·have e:rsV R M k = .pointer none:=by unfold rsV; rw [rmGet_none (.inl (of_decide_eq_true h1))]
  rw [e]
  refine Goes.adv hTT 400 rfl ?_
  exact Goes.ret1 hTT rfl Tryz.func188 rfl rfl ⟨rfl,rfl⟩
 ·have h1':=of_decide_eq_false h1
  refine Goes.loadb hTT rfl h.obj rfl rfl ?_
  refine Goes.fork hTT rfl rfl rfl (fun h2 => ?_) (fun h2 => ?_)
  ·have e:rsV R M k = .pointer none:=by unfold rsV; rw [rmGet_none (.inr (of_decide_eq_true h2))]
   rw [e]
   exact Goes.ret1 hTT rfl Tryz.func188 rfl rfl ⟨rfl,rfl⟩
  ·have h2':=of_decide_eq_false h2
   obtain ⟨n,rfl⟩:=Int.eq_ofNat_of_zero_le (show 0≤k by omega)
   have hl:n<M.shs.length:=by omega
   have e:rsV R M n=sfV (R.S n):=by unfold rsV; rw [rmGet_nat hl]; rfl
   rw [e]
   refine Goes.loadb hTT rfl h.obj rfl rfl ?_
   refine Goes.index hTT rfl (j:=n) (by omega) (by omega) (by first | rfl | omega | (simp; done) | (simp; omega)) rfl ?_
   refine Goes.load hTT rfl (show w.cell? ⟨R.sb,0+n,none⟩=_ from by rw [Nat.zero_add]; exact h.sl n hl) rfl ?_
   exact Goes.ret1 hTT rfl Tryz.func188 rfl rfl ⟨rfl,rfl⟩
theorem room_Held {F:Nat→Prop} {w:World} {R:Rm} {M:RmM} (h:RmSt F w R M):Does Tryz.prog 54 #[rmV R] w (Same (.int .i64 (heldM M.pl:Nat)) w):=by
 refine Does.enter Tryz.func54 rfl Tryz.ntmps54 rfl rfl ?_
 refine Goes.adv hTT 400 rfl ?_
 refine Goes.loadb hTT rfl h.obj rfl rfl ?_
 refine Goes.call rfl (pool_Held R.P M.pl w h.pool) ?_
 rintro _ _ ⟨rfl,rfl⟩
 refine Goes.adv hTT 400 rfl ?_
 exact Goes.ret1 hTT rfl Tryz.func54 rfl rfl ⟨rfl,rfl⟩
theorem room_Owner {F:Nat→Prop} {w:World} {R:Rm} {M:RmM} (h:RmSt F w R M) (k n i:Int):Does Tryz.prog 139 #[rmV R,.int .i64 k,.int .i64 n,.int .i64 i] w (Same (.int .i64 (rmOwner M k n i)) w):=by
 refine Does.enter Tryz.func139 rfl Tryz.ntmps139 rfl rfl ?_
 refine Goes.adv hTT 400 rfl ?_
 refine Goes.call rfl (room_shelf h k) ?_
 rintro _ _ ⟨rfl,rfl⟩
 refine Goes.adv hTT 400 rfl ?_
 unfold rsV rmOwner
 cases hg:rmGet M k with
 |none =>
  refine Goes.call rfl (shelf_Owner_nil n i w) ?_
  rintro _ _ ⟨rfl,rfl⟩
  refine Goes.adv hTT 400 rfl ?_
  exact Goes.ret1 hTT rfl Tryz.func139 rfl rfl ⟨rfl,rfl⟩
 |some x =>
  obtain ⟨j,rfl,hj,hx⟩:=rmGet_some hg
  obtain ⟨G,_,hS,_⟩:=h.shelf hx
  refine Goes.call rfl (shelf_Owner (R.S j) G x M.pl n i w hS) ?_
  rintro _ _ ⟨rfl,rfl⟩
  refine Goes.adv hTT 400 rfl ?_
  exact Goes.ret1 hTT rfl Tryz.func139 rfl rfl ⟨rfl,rfl⟩
theorem room_ask {F:Nat→Prop} {w:World} {R:Rm} {M:RmM} (h:RmSt F w R M) (k r:Int) (fk:Nat) (hf:Does Tryz.prog fk #[rsV R M k] w (Same (.int .i64 r) w)):Does Tryz.prog 132 #[rmV R,.int .i64 k,.func (.func fk) #[] #[]] w (Same (.int .i64 r) w):=by
 refine Does.enter Tryz.func132 rfl Tryz.ntmps132 rfl rfl ?_
 refine Goes.adv hTT 400 rfl ?_
 refine Goes.call rfl (room_shelf h k) ?_
 rintro _ _ ⟨rfl,rfl⟩
 refine Goes.adv hTT 400 rfl ?_
 refine Goes.call rfl (hf) ?_
 rintro _ _ ⟨rfl,rfl⟩
 refine Goes.adv hTT 400 rfl ?_
 exact Goes.ret1 hTT rfl Tryz.func132 rfl rfl ⟨rfl,rfl⟩
theorem room_Open {F:Nat→Prop} {w:World} {R:Rm} {M:RmM} (h:RmSt F w R M) (k:Int):Does Tryz.prog 75 #[rmV R,.int .i64 k] w (Same (.int .i64 (rmOpen M k:Nat)) w):=by
 have hf:Does Tryz.prog 133 #[rsV R M k] w (Same (.int .i64 (rmOpen M k:Nat)) w):=by
  unfold rsV rmOpen
  cases hg:rmGet M k with
  |none=>exact shelf_Open_nil w
  |some x =>
   obtain ⟨j,rfl,hj,hx⟩:=rmGet_some hg
   obtain ⟨G,_,hS,_⟩:=h.shelf hx
   exact shelf_Open (R.S j) G x M.pl w hS
 refine Does.enter Tryz.func75 rfl Tryz.ntmps75 rfl rfl ?_
 refine Goes.adv hTT 400 rfl ?_
 refine Goes.call rfl (room_ask h k (rmOpen M k:Nat) 133 hf) ?_
 rintro _ _ ⟨rfl,rfl⟩
 refine Goes.adv hTT 400 rfl ?_
 exact Goes.ret1 hTT rfl Tryz.func75 rfl rfl ⟨rfl,rfl⟩
theorem room_Own {F:Nat→Prop} {w:World} {R:Rm} {M:RmM} (h:RmSt F w R M) (k n i who:Int):Does Tryz.prog 145 #[rmV R,.int .i64 k,.int .i64 n,.int .i64 i,.int .i64 who] w
 (fun v w'=>v = .int .i64 (rmOwnE M k n i who)∧RmTo F w w' R (rmOwn M k n i who)):=by
 refine Does.enter Tryz.func145 rfl Tryz.ntmps145 rfl rfl ?_
 refine Goes.adv hTT 400 rfl ?_
 refine Goes.call rfl (room_shelf h k) ?_
 rintro _ _ ⟨rfl,rfl⟩
 refine Goes.adv hTT 400 rfl ?_
 unfold rsV rmOwnE rmOwn
 cases hg:rmGet M k with
 |none =>
  refine Goes.call rfl (shelf_Own_nil n i who w) ?_
  rintro _ _ ⟨rfl,rfl⟩
  refine Goes.adv hTT 400 rfl ?_
  exact Goes.ret1 hTT rfl Tryz.func145 rfl rfl ⟨rfl,.of h (Chg.refl _ _)⟩
 |some x =>
  obtain ⟨j,rfl,hj,hx⟩:=rmGet_some hg
  obtain ⟨G,_,hS,_,hto⟩:=h.shelf hx
  refine Goes.call rfl (shelf_Own (R.S j) G x M.pl n i who w hS) ?_
  rintro _ w1 ⟨rfl,h1,hc1,hf1⟩
  refine Goes.adv hTT 400 rfl ?_
  obtain ⟨e1,e2,e3,e4⟩:=own_eff x M.pl n i who
  exact Goes.ret1 hTT rfl Tryz.func145 rfl rfl ⟨rfl,hto w1 G (shOwn x n i who) M.pl h1 hc1 (fun z hz => .inl (hf1 z hz)) e1 e2 e3 e4⟩
theorem room_Plan {F:Nat→Prop} {w:World} {R:Rm} {M:RmM} (h:RmSt F w R M) (k:Int):Does Tryz.prog 138 #[rmV R,.int .i64 k] w (Grow (.tuple #[.agg (rmPlanL M k).toArray,.bool (rmPlanB M k)]) w):=by
 refine Does.enter Tryz.func138 rfl Tryz.ntmps138 rfl rfl ?_
 refine Goes.adv hTT 400 rfl ?_
 refine Goes.alloc hTT rfl ?_
 intro b w1 e1 hb hw1 hz1
 refine Goes.adv hTT 400 rfl ?_
 have h1:=h.grow hw1
 refine Goes.call rfl (room_shelf h1 k) ?_
 rintro _ _ ⟨rfl,rfl⟩
 refine Goes.adv hTT 400 rfl ?_
 unfold rsV rmPlanL rmPlanB
 cases hg:rmGet M k with
 |none =>
  refine Goes.call rfl (shelf_Plan_nil w1) ?_
  rintro _ w2 ⟨rfl,hw2⟩
  refine Goes.adv hTT 400 rfl ?_
  refine Goes.store hTT rfl (hw2.heap' hb) rfl rfl ?_
  intro w3 hb3 hw3 hz3
  refine Goes.adv hTT 400 rfl ?_
  exact Goes.ret hTT rfl Tryz.func138 (ResOk.cell rfl rfl rfl hb3 rfl (.tmp rfl .nil)) ⟨rfl,(hw1.trans hw2).since hw3 (fun z hz e=>by subst e1; omega)⟩
 |some x =>
  obtain ⟨j,rfl,hj,hx⟩:=rmGet_some hg
  obtain ⟨G,_,hS,_⟩:=h1.shelf hx
  obtain ⟨pa,pb,pc,pd,ep⟩:∃ a b c d,shPlanL x=planL a b c d:=by
   unfold shPlanL
   split
   ·exact ⟨_,_,_,_,rfl⟩
   ·exact ⟨_,_,_,_,rfl⟩
  have hd:=shelf_Plan (R.S j) G x M.pl w1 hS
  rw [ep] at hd
  show Goes _ _ (RetA (fun v w'=>v = .tuple #[.agg (shPlanL x).toArray,.bool (shPlanB x)]∧_)) _ _ _ _ _
  rw [ep]
  refine Goes.call rfl (hd) ?_
  rintro _ w2 ⟨rfl,hw2⟩
  refine Goes.adv hTT 400 rfl ?_
  refine Goes.store hTT rfl (hw2.heap' hb) rfl rfl ?_
  intro w3 hb3 hw3 hz3
  refine Goes.adv hTT 400 rfl ?_
  exact Goes.ret hTT rfl Tryz.func138 (ResOk.cell rfl rfl rfl hb3 rfl (.tmp rfl .nil)) ⟨rfl,(hw1.trans hw2).since hw3 (fun z hz e=>by subst e1; omega)⟩
end Go.Proofs.YtnaoiegcobineaaGreatDoor
namespace Go.Proofs.YtnaoiegcobineaaGreatDoor
open Go.RowKit
abbrev errBox (w:World) (b:Nat) (e:Int):Prop:=w.heap[b]? = some (.cells ([.int .i64 e]:List Value).toArray 27 (0,0))
theorem heldM_le {p:PlM} (h:p.Good):heldM p≤1024:=by have:=pgUsed_le p.own; have:=h.len; unfold heldM; omega
theorem room_charge {F:Nat→Prop} {w:World} {R:Rm} {M:RmM} (h:RmSt F w R M) (held:Nat) (b:Nat) (E:Int) (hb:errBox w b E) (hh:held≤1024):DoesD Tryz.prog 192 #[rmV R,.int .i64 (held:Int),.pointer (some ⟨b,0,none⟩)] w
 (fun _ w'=>RmSt F w' R (if E=0 then {M with tot:=charged M.tot (3+(max (heldM M.pl:Int) held - min (heldM M.pl:Int) held)*4)} else M)∧Chg F w w'):=by
 refine DoesD.enter Tryz.func192 rfl Tryz.ntmps192 rfl rfl ?_
 have hl:=heldM_le h.pool.good
 refine Goes.adv hTT 400 rfl ?_
 refine Goes.loadb hTT rfl hb rfl rfl ?_
 refine Goes.fork hTT rfl rfl rfl (fun hE => ?_) (fun hE => ?_)
 ·have hE':E≠0:=by simpa using hE
  rw [if_neg hE']
  exact Goes.ret0 hTT rfl Tryz.func192 rfl ⟨h,Chg.refl _ _⟩
 ·have hE':E=0:=by simpa using hE
  rw [if_pos hE']
  refine Goes.call rfl (room_Held h) ?_
  rintro _ _ ⟨rfl,rfl⟩
  refine Goes.adv hTT 400 rfl ?_
  refine Goes.call rfl (room_Held h) ?_
  rintro _ _ ⟨rfl,rfl⟩
  refine Goes.adv hTT 400 rfl ?_
  have e1:(if (held:Int) > heldM M.pl then (held:Int) else heldM M.pl)=max (heldM M.pl:Int) held:=by split <;> omega
  have e2:(if (held:Int)<heldM M.pl then (held:Int) else heldM M.pl)=min (heldM M.pl:Int) held:=by split <;> omega
  refine Goes.arith hTT rfl (w64 (by omega)) rfl ?_
  rw [e1,e2]
  refine Goes.loadb hTT rfl h.obj rfl rfl ?_
  refine Goes.arith hTT rfl (w64 (by omega)) rfl ?_
  refine Goes.arith hTT rfl (w64 (by omega)) rfl ?_
  refine Goes.call rfl (room_meter h (3+(max (heldM M.pl:Int) held - min (heldM M.pl:Int) held)*4)) ?_
  rintro _ w1 ⟨h1,hc1⟩
  refine Goes.adv hTT 400 rfl ?_
  exact Goes.ret0 hTT rfl Tryz.func192 rfl ⟨h1,hc1⟩
theorem rmSet_self {M:RmM} {k:Nat} {x:Sm} (h:M.shs[k]? = some x):rmSet M k x M.pl=M:=by
 have hl:=(List.getElem?_eq_some_iff.1 h).1
 have e:=(List.getElem?_eq_some_iff.1 h).2
 have:M.shs.set k x=M.shs:=by rw [← e]; exact List.set_getElem_self hl
 show RmM.mk (M.shs.set k x) M.pl M.lg M.tot=M
 rw [this]
theorem RmSt.wide {F F':Nat→Prop} {w:World} {R:Rm} {M:RmM} (h:RmSt F w R M) (hc:∀ z,F' z→F z∨w.heap.size≤z):∀ z,z<w.heap.size→F' z→F z:=fun z hz h1=>(hc z h1).elim id (fun h=>by omega)
theorem room_settle {F F2:Nat→Prop} {w w1 w3 w4:World} {R:Rm} {M2:RmM} (hc01:Chg None' w w1) (hF2:∀ z,F2 z→F z∨w1.heap.size≤z) (hc13:Chg F w w3) (h4:RmSt F2 w4 R M2) (hc34:Chg F2 w3 w4):RmTo F w w4 R M2:=by
 have hs:=hc01.size
 refine ⟨F2,h4,fun z hz=>(hF2 z hz).imp id (fun h=>by omega),hc13.since hc34 fun z hz h1 => ?_⟩
 rcases hF2 z h1 with h | h
 ·exact h
 ·omega
theorem room_Take {F:Nat→Prop} {w:World} {R:Rm} {M:RmM} (h:RmSt F w R M) (k who:Int):Does Tryz.prog 140 #[rmV R,.int .i64 k,.int .i64 who] w
 (fun v w'=>v = .tuple #[.int .i64 (rmTakeN M k who),.int .i64 (rmTakeA M k who),.int .i64 (rmTakeE M k who)]∧RmTo F w w' R (rmTake M k who)):=by
 have hlh:=heldM_le h.pool.good
 refine Does.enter Tryz.func140 rfl Tryz.ntmps140 rfl rfl ?_
 refine Goes.adv hTT 400 rfl ?_
 refine Goes.alloc hTT rfl ?_
 intro b w1 e1 hb hw1 hz1
 refine Goes.adv hTT 400 rfl ?_
 have h1:=h.grow hw1
 have hbF:¬ F b:=fun hz=>by have:=h.low b hz; omega
 refine Goes.call rfl (room_Held h1) ?_
 rintro _ _ ⟨rfl,rfl⟩
 refine Goes.adv hTT 400 rfl ?_
 refine Goes.defer rfl rfl ?_
 refine Goes.adv hTT 400 rfl ?_
 refine Goes.call rfl (room_shelf h1 k) ?_
 rintro _ _ ⟨rfl,rfl⟩
 refine Goes.adv hTT 400 rfl ?_
 unfold rsV rmTakeN rmTakeA rmTakeE rmTake
 cases hg:rmGet M k with
 |none =>
  refine Goes.call rfl (shelf_Take_nil who w1) ?_
  rintro _ _ ⟨rfl,rfl⟩
  refine Goes.adv hTT 400 rfl ?_
  refine Goes.store hTT rfl hb rfl rfl ?_
  intro w2 hb2 hs2 hz2
  refine Goes.adv hTT 400 rfl ?_
  have h2:=h.note h1 (kd_cells hb) (by omega) hbF hs2 (by decide)
  have hd:=room_charge h2 (heldM M.pl) b 1 hb2 hlh
  refine Goes.retD hTT rfl Tryz.func140 rfl (invoke_dfr (args := [rmV R,.int .i64 (heldM M.pl:Nat),.pointer (some ⟨b,0,none⟩)]) (captured := []) hd.fn) (hd.mono fun _ w3 ⟨h3,hc3⟩ => ?_)
  exact ⟨_,.tmp rfl (.tmp rfl (.one rfl rfl rfl (cell_of (hc3.heap hb2 hbF)) .nil)),rfl,room_settle hw1 (fun z h => .inl h) ((hw1.mono fun _ _ h=>h.elim).since hs2 (fun z hz e=>by omega)) h3 hc3⟩
 |some x =>
  obtain ⟨j,rfl,hj,hx⟩:=rmGet_some hg
  obtain ⟨G,_,hS,hall,hto⟩:=h1.shelf hx
  refine Goes.call rfl (shelf_Take (R.S j) G x M.pl who w1 hS) ?_
  rintro _ w2 ⟨rfl,G',hS2,hc2,hf2⟩
  refine Goes.adv hTT 400 rfl ?_
  obtain ⟨e2,e3,e4,e5⟩:=take_eff x M.pl who h.pool.good hS.ok.cls
  obtain ⟨F2,h2,hF2,hc2'⟩:=hto w2 G' (shTake x M.pl who) (shTakeP x M.pl who) hS2 hc2 hf2 e2 e3 e4 e5
  have hbF2:¬ F2 b:=fun hz=>(hF2 b hz).elim hbF (fun h=>by have:=lt_of_heap hb; omega)
  have hbA:¬ allFoot (R.S j) G x.pg b:=fun hz=>hbF (hall b hz)
  have hb2:=hc2.heap hb hbA
  refine Goes.store hTT rfl hb2 rfl rfl ?_
  intro w3 hb3 hs3 hz3
  refine Goes.adv hTT 400 rfl ?_
  have h3:=h.note h2 (kd_cells hb2) (by omega) hbF2 hs3 (by decide)
  have hd:=room_charge h3 (heldM M.pl) b (shTakeE x M.pl who) hb3 hlh
  refine Goes.retD hTT rfl Tryz.func140 rfl (invoke_dfr (args := [rmV R,.int .i64 (heldM M.pl:Nat),.pointer (some ⟨b,0,none⟩)]) (captured := []) hd.fn) (hd.mono fun _ w4 ⟨h4,hc4⟩ => ?_)
  refine ⟨_,.tmp rfl (.tmp rfl (.one rfl rfl rfl (cell_of (hc4.heap hb3 hbF2)) .nil)),rfl,?_⟩
  have hc03:Chg F w w3:=((hw1.mono fun _ _ h=>h.elim).trans hc2').since hs3 (fun z hz e=>by omega)
  have hT:=room_settle hw1 hF2 hc03 h4 hc4
  simp only [Int.toNat_natCast]
  by_cases hE:shTakeE x M.pl who=0
  ·rw [if_pos hE] at hT ⊢
   exact hT
  ·rw [if_neg hE] at hT ⊢
   have t1:shTake x M.pl who=x:=by unfold shTake; rw [if_neg hE]
   have t2:shTakeP x M.pl who=M.pl:=by unfold shTakeP; rw [if_neg hE]
   rw [t1,t2,rmSet_self hx] at hT
   exact hT
theorem shGive_no {x:Sm} {pl:PlM} {n i:Int} (h:shGiveE x n i≠0):shGive x n i=x∧shGiveP x pl n i=pl:=by
 unfold shGiveE at h
 unfold shGive shGiveP
 cases hg:smGet x.pg n with
 |none=>exact ⟨rfl,rfl⟩
 |some p =>
  rw [hg] at h
  simp only at h ⊢
  rw [if_neg h,if_neg (fun e=>h e.1)]
  exact ⟨rfl,rfl⟩
theorem room_Give {F:Nat→Prop} {w:World} {R:Rm} {M:RmM} (h:RmSt F w R M) (k n i:Int):Does Tryz.prog 144 #[rmV R,.int .i64 k,.int .i64 n,.int .i64 i] w
 (fun v w'=>v = .int .i64 (rmGiveE M k n i)∧RmTo F w w' R (rmGive M k n i)):=by
 have hlh:=heldM_le h.pool.good
 refine Does.enter Tryz.func144 rfl Tryz.ntmps144 rfl rfl ?_
 refine Goes.adv hTT 400 rfl ?_
 refine Goes.alloc hTT rfl ?_
 intro b w1 e1 hb hw1 hz1
 refine Goes.adv hTT 400 rfl ?_
 have h1:=h.grow hw1
 have hbF:¬ F b:=fun hz=>by have:=h.low b hz; omega
 refine Goes.call rfl (room_Held h1) ?_
 rintro _ _ ⟨rfl,rfl⟩
 refine Goes.adv hTT 400 rfl ?_
 refine Goes.defer rfl rfl ?_
 refine Goes.adv hTT 400 rfl ?_
 refine Goes.call rfl (room_shelf h1 k) ?_
 rintro _ _ ⟨rfl,rfl⟩
 refine Goes.adv hTT 400 rfl ?_
 unfold rsV rmGiveE rmGive
 cases hg:rmGet M k with
 |none =>
  refine Goes.call rfl (shelf_Give_nil n i w1) ?_
  rintro _ _ ⟨rfl,rfl⟩
  refine Goes.adv hTT 400 rfl ?_
  refine Goes.store hTT rfl hb rfl rfl ?_
  intro w2 hb2 hs2 hz2
  refine Goes.adv hTT 400 rfl ?_
  have h2:=h.note h1 (kd_cells hb) (by omega) hbF hs2 (by decide)
  have hd:=room_charge h2 (heldM M.pl) b 1 hb2 hlh
  refine Goes.retD hTT rfl Tryz.func144 rfl (invoke_dfr (args := [rmV R,.int .i64 (heldM M.pl:Nat),.pointer (some ⟨b,0,none⟩)]) (captured := []) hd.fn) (hd.mono fun _ w3 ⟨h3,hc3⟩ => ?_)
  exact ⟨_,.one rfl rfl rfl (cell_of (hc3.heap hb2 hbF)) .nil,rfl,room_settle hw1 (fun z h => .inl h) ((hw1.mono fun _ _ h=>h.elim).since hs2 (fun z hz e=>by omega)) h3 hc3⟩
 |some x =>
  obtain ⟨j,rfl,hj,hx⟩:=rmGet_some hg
  obtain ⟨G,_,hS,hall,hto⟩:=h1.shelf hx
  refine Goes.call rfl (shelf_Give (R.S j) G x M.pl n i w1 hS) ?_
  rintro _ w2 ⟨rfl,hS2,hc2,hf2⟩
  refine Goes.adv hTT 400 rfl ?_
  obtain ⟨e2,e3,e4,e5⟩:=give_eff x M.pl n i hS.ok hS.of
  obtain ⟨F2,h2,hF2,hc2'⟩:=hto w2 G (shGive x n i) (shGiveP x M.pl n i) hS2 hc2 (fun z hz => .inl (hf2 z hz)) e2 e3 e4 e5
  have hbF2:¬ F2 b:=fun hz=>(hF2 b hz).elim hbF (fun h=>by have:=lt_of_heap hb; omega)
  have hbA:¬ allFoot (R.S j) G x.pg b:=fun hz=>hbF (hall b hz)
  have hb2:=hc2.heap hb hbA
  refine Goes.store hTT rfl hb2 rfl rfl ?_
  intro w3 hb3 hs3 hz3
  refine Goes.adv hTT 400 rfl ?_
  have h3:=h.note h2 (kd_cells hb2) (by omega) hbF2 hs3 (by decide)
  have hd:=room_charge h3 (heldM M.pl) b (shGiveE x n i) hb3 hlh
  refine Goes.retD hTT rfl Tryz.func144 rfl (invoke_dfr (args := [rmV R,.int .i64 (heldM M.pl:Nat),.pointer (some ⟨b,0,none⟩)]) (captured := []) hd.fn) (hd.mono fun _ w4 ⟨h4,hc4⟩ => ?_)
  refine ⟨_,.one rfl rfl rfl (cell_of (hc4.heap hb3 hbF2)) .nil,rfl,?_⟩
  have hc03:Chg F w w3:=((hw1.mono fun _ _ h=>h.elim).trans hc2').since hs3 (fun z hz e=>by omega)
  have hT:=room_settle hw1 hF2 hc03 h4 hc4
  simp only [Int.toNat_natCast]
  by_cases hE:shGiveE x n i=0
  ·rw [if_pos hE] at hT ⊢
   exact hT
  ·rw [if_neg hE] at hT ⊢
   obtain ⟨t1,t2⟩:=shGive_no (pl:=M.pl) hE
   rw [t1,t2,rmSet_self hx] at hT
   exact hT
end Go.Proofs.YtnaoiegcobineaaGreatDoor
namespace Go.Proofs.YtnaoiegcobineaaGreatDoor
open Go.RowKit
structure MayF (c:Conf):Prop where
 size:64≤c.size∧c.size≤4096
 pages:1≤c.pages∧c.pages≤1024
 n:1≤c.classes.length∧c.classes.length≤16
 keep:c.keep.length=c.classes.length
 most:1≤c.most∧c.most≤2097152
theorem may_facts {c:Conf} (h:mayB c=true):MayF c:=by
 unfold mayB at h
 simp only [Bool.and_eq_true,decide_eq_true_eq,withinM] at h
 obtain ⟨⟨⟨⟨⟨⟨⟨h1,h2⟩,h3⟩,h4,_⟩,_⟩,_⟩,_⟩,h8⟩:=h
 have hl:=classOk_len h3
 have hs:=sizedM_iff.1 h1
 have hm:largeM c≤2097152:=by
  unfold largeM
  rw [if_pos h1]
  have h9:c.size / 8≤512:=by omega
  have h10:0≤c.size / 8:=by omega
  calc c.size*(c.size / 8)≤4096*(c.size / 8):=Int.mul_le_mul_of_nonneg_right hs.2.1 h10
   _≤4096*512:=Int.mul_le_mul_of_nonneg_left h9 (by omega)
   _=2097152:=by omega
 exact ⟨⟨hs.1,hs.2.1⟩,h2,by omega,h4,h8.1,by omega⟩
theorem allM_le {c:Conf} (h:MayF c) {n:Int} (hn:n≤c.most):0≤allM n c.size∧allM n c.size≤2097153:=by
 unfold allM manyM
 have hs:=h.size
 have hm:=h.most
 by_cases h1:n<1∨c.size<1
 ·rw [if_pos h1]; simp
 ·rw [if_neg h1]
  have h0:0≤(n - 1) / c.size:=Int.ediv_nonneg (by omega) (by omega)
  have h2:(n - 1) / c.size≤n - 1:=Int.ediv_le_self _ (by omega)
  split <;> omega
theorem room_Fits {F:Nat→Prop} {w:World} {R:Rm} {M:RmM} (h:RmSt F w R M) (size:Int):Does Tryz.prog 60 #[rmV R,.int .i64 size] w (Grow (.int .i64 (rmFits R.c M size)) w):=by
 have hf:=may_facts h.may
 have hs1:=hf.size
 have hs2:=hf.n
 have hs3:=hf.most
 refine Does.enter Tryz.func60 rfl Tryz.ntmps60 rfl rfl ?_
 refine Goes.adv hTT 400 rfl ?_
 refine Goes.fork hTT rfl rfl rfl (fun h1 => ?_) (fun h1 => ?_)
 ·have e:rmFits R.c M size=3:=by unfold rmFits; rw [if_pos (.inl (of_decide_eq_true h1))]
  rw [e]
  exact Goes.ret1 hTT rfl Tryz.func60 rfl rfl ⟨rfl,Chg.refl _ _⟩
 ·have h1':=of_decide_eq_false h1
  refine Goes.loadb hTT rfl h.obj rfl rfl ?_
  refine Goes.fork hTT rfl rfl rfl (fun h2 => ?_) (fun h2 => ?_)
  ·have e:rmFits R.c M size=3:=by unfold rmFits; rw [if_pos (.inr (of_decide_eq_true h2))]
   rw [e]
   exact Goes.ret1 hTT rfl Tryz.func60 rfl rfl ⟨rfl,Chg.refl _ _⟩
  ·have h2':=of_decide_eq_false h2
   have hall:=allM_le hf (n:=size) (by omega)
   have e3:rmFits R.c M size=if (M.pl.free.length:Int)<rmNeed R.c M size then 5 else 0:=by unfold rmFits; rw [if_neg (by omega)]
   rw [e3]
   refine Goes.drawn (q:=16) None' hTT mixed (by kernel_rfl) rfl ?_
   intro hB
   refine Drawn.loadb hTT hB rfl h.obj (by first | exact fun h=>h | (intro h; omega) | assumption) rfl rfl ?_
   refine Drawn.call hTT hB rfl (fun w' hw'=>class_Pick R.p.ca R.p.cc R.c.classes size w' (h.cls.1.chg hw') (by omega)) rfl ?_
   refine Drawn.loadb hTT hB rfl h.obj (by first | exact fun h=>h | (intro h; omega) | assumption) rfl rfl ?_
   refine Drawn.call hTT hB rfl (fun w' hw'=>(chain_All size R.c.size w' (by omega)).grow) rfl ?_
   refine Drawn.nil hB ?_
   intro w1 hw1
   refine Goes.adv hTT 400 rfl ?_
   have h1s:=h.grow hw1
   by_cases hp:pickM R.c.classes size = -1
   ·have e4:rmNeed R.c M size=allM size R.c.size:=by unfold rmNeed; rw [if_pos hp]
    rw [e4]
    refine Goes.no hTT rfl (by rw [hp]; rfl) rfl ?_
    refine Goes.loadb hTT rfl h1s.obj rfl rfl ?_
    refine Goes.call rfl (pool_Free R.P M.pl w1 h1s.pool) ?_
    rintro _ w2 ⟨rfl,hw2⟩
    refine Goes.adv hTT 400 rfl ?_
    refine Goes.fork hTT rfl rfl rfl (fun hq => ?_) (fun hq => ?_)
    ·rw [if_pos (of_decide_eq_true hq)]
     exact Goes.ret1 hTT rfl Tryz.func60 rfl rfl ⟨rfl,hw1.trans hw2⟩
    ·rw [if_neg (of_decide_eq_false hq)]
     exact Goes.ret1 hTT rfl Tryz.func60 rfl rfl ⟨rfl,hw1.trans hw2⟩
   ·have e4:rmNeed R.c M size=1 - min (rmOpen M (pickM R.c.classes size):Int) 1:=by unfold rmNeed; rw [if_neg hp]
    rw [e4]
    refine Goes.yes hTT rfl (by simpa using hp) rfl ?_
    refine Goes.call rfl (room_Open h1s (pickM R.c.classes size)) ?_
    rintro _ _ ⟨rfl,rfl⟩
    refine Goes.adv hTT 400 rfl ?_
    have e5:(if (1:Int)<(rmOpen M (pickM R.c.classes size):Nat) then (1:Int) else (rmOpen M (pickM R.c.classes size):Nat))=min ((rmOpen M (pickM R.c.classes size):Nat):Int) 1:=by split <;> omega
    rw [e5]
    refine Goes.arith hTT rfl (w64 (by omega)) rfl ?_
    refine Goes.loadb hTT rfl h1s.obj rfl rfl ?_
    refine Goes.call rfl (pool_Free R.P M.pl w1 h1s.pool) ?_
    rintro _ w2 ⟨rfl,hw2⟩
    refine Goes.adv hTT 400 rfl ?_
    refine Goes.fork hTT rfl rfl rfl (fun hq => ?_) (fun hq => ?_)
    ·rw [if_pos (of_decide_eq_true hq)]
     exact Goes.ret1 hTT rfl Tryz.func60 rfl rfl ⟨rfl,hw1.trans hw2⟩
    ·rw [if_neg (of_decide_eq_false hq)]
     exact Goes.ret1 hTT rfl Tryz.func60 rfl rfl ⟨rfl,hw1.trans hw2⟩
end Go.Proofs.YtnaoiegcobineaaGreatDoor
namespace Go.Proofs.YtnaoiegcobineaaGreatDoor
open Go.RowKit
theorem slices_Equal_int (a a':Option Addr) (c c':Nat) (x y:List Int) (w:World) (hr:Rd .i64 w a x) (hr':Rd .i64 w a' y) (hl:x.length≤9223372036854775807):Does Tryz.prog 200 #[.slice a x.length c,.slice a' y.length c'] w (Grow (.bool (decide (x=y))) w):=by
 refine Does.enter Tryz.func200 rfl Tryz.ntmps200 rfl rfl ?_
 refine Goes.adv hTT 400 rfl ?_
 refine Goes.fork hTT rfl rfl rfl (fun h0 => ?_) (fun h0 => ?_)
 ·have h0':x.length≠y.length:=by simp at h0; omega
  have:x≠y:=fun e=>h0' (by rw [e])
  exact Goes.ret1 hTT rfl Tryz.func200 rfl rfl ⟨bool_v (decide_eq_false this).symm,Chg.refl _ _⟩
 ·have hlen:x.length=y.length:=by simp at h0; omega
  refine Goes.loop (α:=Nat) (fun k => [(0,false,.slice a x.length c),(1,false,.slice a' y.length c'),(12,false,.int .i64 x.length),(13,false,.int .i64 k)])
   (fun k w'=>Chg None' w w'∧k≤x.length ∧ ∀ j,j<k→x.getD j 0=y.getD j 0) (fun k=>x.length - k) 0 ⟨rfl,rfl,rfl,rfl,trivial⟩ ⟨Chg.refl _ _,Nat.zero_le _,fun _ h=>by omega⟩ ?_
  rintro k w1 ⟨hw,hk,hpre⟩ ih
  refine Goes.adv hTT 400 rfl ?_
  refine Goes.fork hTT rfl rfl rfl (fun h => ?_) (fun h => ?_)
  ·have hlt:k<x.length:=by simpa using h
   obtain ⟨b,off,rfl,hc⟩:=(hr.chg hw) k hlt
   obtain ⟨b',off',rfl,hc'⟩:=(hr'.chg hw) k (by omega)
   refine Goes.drawn (q:=9) None' hTT mixed (by kernel_rfl) rfl ?_
   intro hB
   refine Drawn.index hTT hB rfl (j:=k) (by omega) (by omega) (by first | rfl | omega | (simp; done) | (simp; omega)) rfl ?_
   refine Drawn.load hTT hB rfl hc (by first | exact fun h=>h | (intro h; omega) | assumption) rfl ?_
   refine Drawn.index hTT hB rfl (j:=k) (by omega) (by omega) (by first | rfl | omega | (simp; done) | (simp; omega)) rfl ?_
   refine Drawn.load hTT hB rfl hc' (by first | exact fun h=>h | (intro h; omega) | assumption) rfl ?_
   refine Drawn.nil hB ?_
   intro w2 hw2
   refine Goes.adv hTT 400 rfl ?_
   refine Goes.fork hTT rfl rfl rfl (fun hne => ?_) (fun hne => ?_)
   ·have hne':x.getD k 0≠y.getD k 0:=by simpa using hne
    have:x≠y:=fun e=>hne' (by rw [e])
    exact Goes.ret1 hTT rfl Tryz.func200 rfl rfl ⟨bool_v (decide_eq_false this).symm,hw.trans hw2⟩
   ·have he:x.getD k 0=y.getD k 0:=by simpa using hne
    refine Goes.arith hTT rfl (w64 (by omega)) rfl ?_
    exact ih (k+1) _ _ ⟨hw.trans hw2,hlt,fun j hj=>by
     by_cases e:j=k
     ·subst e; exact he
     ·exact hpre j (by omega)⟩ (by omega) ⟨rfl,rfl,rfl,rfl,trivial⟩
  ·have hge:k=x.length:=by simp at h; omega
   have:x=y:=List.ext_getElem hlen fun j h1 h2=>by
    have:=hpre j (by omega)
    rw [getD_at h1,getD_at h2] at this
    exact this
   exact Goes.ret1 hTT rfl Tryz.func200 rfl rfl ⟨bool_v (decide_eq_true this).symm,hw⟩
theorem slices_Clone_int (a:Option Addr) (cap:Nat) (x:List Int) (w:World) (hr:Rd .i64 w a x) (hl:x.length≤1048576) (hn:∃ a1,a=some a1):Does Tryz.prog 45 #[.slice a x.length cap] w
 (fun v w' => ∃ g c,v = .slice (some ⟨g,0,none⟩) x.length c∧w.heap.size≤g∧Rd .i64 w' (some ⟨g,0,none⟩) x∧kd w' g=some (some 3)∧Chg None' w w'):=by
 have hml:maxLen=9223372036854775807:=rfl
 obtain ⟨a1,rfl⟩:=hn
 refine Does.enter Tryz.func45 rfl Tryz.ntmps45 rfl rfl ?_
 refine Goes.adv hTT 400 rfl ?_
 refine Goes.no hTT rfl rfl rfl ?_
 refine Goes.buildSlice hTT rfl ?_
 intro b w1 e1 hb hw1 hz1
 refine Goes.adv hTT 400 rfl ?_
 subst e1
 have ho:Own w.heap.size 3 1 w1 (.slice (some ⟨w.heap.size,0,none⟩) 0 0) 0 []:=Own.empty (Nat.le_refl _) hb
 refine Goes.append (base:=w.heap.size) (xs := []) (news:=x.map (Value.int .i64)) hTT rfl ho (by omega) (by simp) (hr.chg hw1).cells plain_ints ⟨by omega,by show (0+x.length)*8≤_; omega⟩ ?_
 intro v w2 ho2 hs2 hv2
 refine Goes.adv hTT 400 rfl ?_
 rw [Nat.zero_add,List.nil_append] at ho2
 have hc:=ho.since hw1 (Nat.le_refl _) hs2
 rcases ho2.2 with ⟨e,_⟩ | ⟨g,c,cur,rfl,h2,h3,h4,h5,_,h6⟩
 ·have:=(hv2.1.1 e).1; cases this
 ·exact Goes.ret1 hTT rfl Tryz.func45 rfl rfl ⟨g,c,rfl,h2,Rd.of_take h3 (by rw [Nat.mul_one] at h6; exact h6),kd_cells h3,hc⟩
end Go.Proofs.YtnaoiegcobineaaGreatDoor
namespace Go.Proofs.YtnaoiegcobineaaGreatDoor
open Go.RowKit
theorem slices_Grow_nil (k:Nat) (w:World) (hk:0<k) (hb:k≤1048576):Does Tryz.prog 240 #[.slice none 0 0,.int .i64 (k:Int)] w
 (fun v w'=>Own w.heap.size 3 1 w' v 0 []∧Chg None' w w'∧v.ownBlock=some w.heap.size∧v ≠ .slice none 0 0):=by
 refine Does.enter Tryz.func240 rfl Tryz.ntmps240 rfl rfl ?_
 refine Goes.adv hTT 400 rfl ?_
 refine Goes.no hTT rfl (decide_eq_false (by omega)) rfl ?_
 refine Goes.cap hTT rfl ?_
 refine Goes.adv hTT 400 rfl ?_
 refine Goes.arith hTT rfl (w64 (by omega)) rfl ?_
 refine Goes.arith hTT rfl (w64 (by omega)) rfl ?_
 refine Goes.yes hTT rfl (decide_eq_true (by omega)) rfl ?_
 refine Goes.cap hTT rfl ?_
 refine Goes.adv hTT 400 rfl ?_
 rw [show (k:Int) - (((0:Nat):Int) - ((0:Nat):Int))=(k:Nat) from by omega]
 refine Goes.slice hTT rfl (l:=0) (h:=0) (by first | rfl | omega | simp [loV]) (by first | rfl | omega | simp [hiV]) (by omega) (by omega) rfl ?_
 refine Goes.appendZ (k:=k) hTT rfl hk (by show k*8≤_; omega) (by omega) ?_
 intro cap cur w1 hw1 hz1 hk1 hc1 hb1 hs1
 refine Goes.adv hTT 400 rfl ?_
 refine Goes.slice hTT rfl (l:=0) (h:=0) (by first | rfl | omega | simp [loV]) (by first | rfl | omega | simp [hiV]) (by omega) (by omega) rfl ?_
 have es:shiftA (some ⟨w.heap.size,0,none⟩) cap 0 1=some ⟨w.heap.size,0,none⟩:=by
  unfold shiftA
  split
  ·omega
  ·rfl
 show Goes _ _ _ _ _ _ ((4,false,.slice (shiftA (some ⟨w.heap.size,0,none⟩) cap 0 1) 0 cap)::_) _
 rw [es]
 exact Goes.ret1 hTT rfl Tryz.func240 rfl rfl ⟨⟨rfl,.inr ⟨w.heap.size,cap,cur,rfl,Nat.le_refl _,hb1,by omega,hc1,by omega,by simp⟩⟩,hw1,rfl,by simp⟩
structure Sl where
 a:Option Addr
 cap:Nat
 x:List Int
abbrev slV (l:Sl):Value := .slice l.a l.x.length l.cap
def catM (ls:List Sl):List Int:=(ls.map (·.x)).flatten
theorem catM_take {ls:List Sl} {i:Nat} (h:i<ls.length):catM (ls.take (i+1))=catM (ls.take i)++ls[i].x:=by
 unfold catM
 rw [List.take_add_one,List.getElem?_eq_getElem h,List.map_append,List.flatten_append]
 simp
theorem catM_le (ls:List Sl) (i:Nat):(catM (ls.take i)).length≤(catM ls).length:=by
 have:catM ls=catM (ls.take i)++catM (ls.drop i):=by
  unfold catM
  rw [← List.flatten_append,← List.map_append,List.take_append_drop]
 rw [this,List.length_append]
 omega
set_option maxRecDepth 100000 in
theorem slices_Concat_int (ob:Nat) (ls:List Sl) (w:World) (h:∀ i (hi:i<ls.length),w.cell? ⟨ob,i,none⟩=some (slV ls[i])) (hr:∀ l ∈ ls,Rd .i64 w l.a l.x) (hn:ls.length≤1024) (hpos:0<(catM ls).length) (hb:(catM ls).length≤1048576):Does Tryz.prog 201 #[.slice (some ⟨ob,0,none⟩) ls.length ls.length] w
 (fun v w' => ∃ g c,v = .slice (some ⟨g,0,none⟩) (catM ls).length c∧w.heap.size≤g∧Rd .i64 w' (some ⟨g,0,none⟩) (catM ls)∧Chg None' w w'):=by
 have hml:maxLen=9223372036854775807:=rfl
 refine Does.enter Tryz.func201 rfl Tryz.ntmps201 rfl rfl ?_
 refine Goes.adv hTT 400 rfl ?_
 refine Goes.loop (α:=Nat) (fun k => [(0,false,.slice (some ⟨ob,0,none⟩) ls.length ls.length),(3,false,.int .i64 (catM (ls.take k)).length),(9,false,.slice (some ⟨ob,0,none⟩) ls.length ls.length),(10,false,.int .i64 ls.length),(11,false,.int .i64 k)])
  (fun k w'=>w'=w∧k≤ls.length) (fun k=>ls.length - k) 0 ⟨rfl,rfl,rfl,rfl,rfl,trivial⟩ ⟨rfl,Nat.zero_le _⟩ ?_
 rintro k w1 ⟨hw,hk⟩ ih
 subst hw
 refine Goes.adv hTT 400 rfl ?_
 refine Goes.fork hTT rfl rfl rfl (fun h1 => ?_) (fun h1 => ?_)
 ·have hlt:k<ls.length:=by simpa using h1
  have hle:=catM_le ls (k+1)
  have he:=congrArg List.length (catM_take hlt)
  rw [List.length_append] at he
  refine Goes.index hTT rfl (j:=k) (by omega) (by omega) (by first | rfl | omega | (simp; done) | (simp; omega)) rfl ?_
  refine Goes.load hTT rfl (show w1.cell? ⟨ob,0+k,none⟩=_ from by rw [Nat.zero_add]; exact h k hlt) rfl ?_
  refine Goes.arith hTT rfl (w64 (by omega)) rfl ?_
  refine Goes.no hTT rfl (decide_eq_false (by omega)) rfl ?_
  refine Goes.arith hTT rfl (w64 (by omega)) rfl ?_
  exact ih (k+1) _ _ ⟨rfl,hlt⟩ (by omega) ⟨rfl,congrArg (fun z=>some (Value.int .i64 z)) (show ((catM (ls.take k)).length:Int)+(ls[k].x.length:Int)=((catM (ls.take (k+1))).length:Int) from by rw [he]; omega),rfl,rfl,rfl,trivial⟩
 ·have hge:k=ls.length:=by simp at h1; omega
  subst hge
  rw [List.take_length]
  refine Goes.call rfl (slices_Grow_nil (catM ls).length w1 hpos hb) ?_
  rintro v w2 ⟨ho,hc2,hv1,hv2⟩
  refine Goes.adv hTT 400 rfl ?_
  refine Goes.loop (α:=Nat × Value) (fun p => [(6,false,p.2),(25,false,.slice (some ⟨ob,0,none⟩) ls.length ls.length),(26,false,.int .i64 ls.length),(27,false,.int .i64 p.1)])
   (fun p w'=>p.1≤ls.length∧Own w1.heap.size 3 1 w' p.2 (catM (ls.take p.1)).length ((catM (ls.take p.1)).map (Value.int .i64))∧p.2 ≠ .slice none 0 0∧Chg None' w1 w') (fun p=>ls.length - p.1) (0,v) ⟨rfl,rfl,rfl,rfl,trivial⟩ ⟨Nat.zero_le _,ho,hv2,hc2⟩ ?_
  rintro ⟨i,u⟩ w3 ⟨hi,ho3,hu,hc3⟩ ih
  simp only at hi ho3 hu
  refine Goes.adv hTT 400 rfl ?_
  refine Goes.fork hTT rfl rfl rfl (fun h2 => ?_) (fun h2 => ?_)
  ·have hlt:i<ls.length:=by simpa using h2
   have hle:=catM_le ls (i+1)
   have he:=congrArg List.length (catM_take hlt)
   rw [List.length_append] at he
   have hrd:=(hr ls[i] (List.getElem_mem hlt)).chg hc3
   refine Goes.index hTT rfl (j:=i) (by omega) (by omega) (by first | rfl | omega | (simp; done) | (simp; omega)) rfl ?_
   refine Goes.load hTT rfl (show w3.cell? ⟨ob,0+i,none⟩=_ from by rw [Nat.zero_add]; exact hc3.cell (h i hlt) id) rfl ?_
   refine Goes.appendA (base:=w1.heap.size) (xs:=(catM (ls.take i)).map (Value.int .i64)) (news:=ls[i].x.map (Value.int .i64)) hTT rfl ho3 hc3.size (fun e=>by
    by_cases hl:0<ls[i].x.length
    ·obtain ⟨b,off,e',_⟩:=hrd 0 hl
     rw [e] at e'; cases e'
    ·omega) (by simp) (fun j u hj=>by
    have hjl:j<ls[i].x.length:=by have:=(List.getElem?_eq_some_iff.1 hj).1; simpa using this
    obtain ⟨b,off,e',_⟩:=hrd 0 (by omega)
    exact ⟨_,e',(Rd.cells (e'▸hrd)) j u hj⟩) plain_ints ⟨by omega,by show (_+_)*8≤_; omega⟩ ?_
   intro u' w4 ho4 hs4 hv4
   refine Goes.adv hTT 400 rfl ?_
   refine Goes.arith hTT rfl (w64 (by omega)) rfl ?_
   exact ih (i+1,u') _ _ ⟨hlt,by rw [catM_take hlt,List.length_append,List.map_append]; exact ho4,fun e=>hu (hv4.1.1 e).1,ho3.since hc3 (Nat.le_refl _) hs4⟩ (by simp only; omega) ⟨rfl,rfl,rfl,rfl,trivial⟩
  ·have hge:i=ls.length:=by simp at h2; omega
   subst hge
   rw [List.take_length] at ho3
   obtain ⟨g,c,cur,rfl,h3,h4,h5,h6,h7⟩:=ho3.form hpos
   exact Goes.ret1 hTT rfl Tryz.func201 rfl rfl ⟨g,c,rfl,h3,Rd.of_take h4 (by rw [Nat.mul_one] at h7; exact h7),hc3⟩
end Go.Proofs.YtnaoiegcobineaaGreatDoor
namespace Go.Proofs.YtnaoiegcobineaaGreatDoor
open Go.RowKit
structure Plc where
 cls:Int
 page:Int
 idx:Int
 pa:Option Addr
 pc:Nat
 pages:List Int
def plcL (q:Plc):List Value := [.int .i64 q.cls,.int .i64 q.page,.int .i64 q.idx,.slice q.pa q.pages.length q.pc]
structure PlcOk (w:World) (q:Plc):Prop where
 rd:Rd .i64 w q.pa q.pages
 len:q.pages.length≤9223372036854775807
abbrev plcBox (w:World) (b:Nat) (q:Plc):Prop:=w.heap[b]? = some (.cells (plcL q).toArray 106 (0,0))
theorem PlcOk.grow {w w':World} {q:Plc} (h:PlcOk w q) (hc:Chg None' w w'):PlcOk w' q:=⟨h.rd.chg hc,h.len⟩
end Go.Proofs.YtnaoiegcobineaaGreatDoor
namespace Go.Proofs.YtnaoiegcobineaaGreatDoor
open Go.RowKit
theorem LgAt.put {F:Nat→Prop} {w w':World} {lm:Nat} {lg:List (Nat × List Nat)} {n cap:Nat} {r:List Nat} {a:Option Addr} (h:LgAt F w lm lg) (hc:Chg (fun z=>z=lm) w w') (hm':∀ m,MapAt w lm m→MapAt w' lm (aput m n (.slice a r.length cap))) (hnew:∀ e ∈ lg,e.1≠n)
 (hr:Rd .i64 w' a (natsI r)) (hmine:Mine F w' a):LgAt F w' lm (lg ++ [(n,r)]):=by
 have hk:=kd_lg h
 obtain ⟨m,h1,h2,h3,h4⟩:=h
 have hno:alook m n=none:=h4 n fun e he e'=>hnew e he (by omega)
 refine ⟨_,hm' m h1,?_,fun e he => ?_,fun k hk' => ?_⟩
 ·rw [akeys_put,if_neg (alook_none.1 hno)]
  exact List.nodup_append.2 ⟨h2,by simp,fun x hx y hy e=>by
   rw [List.mem_singleton] at hy; subst hy; subst e
   exact alook_none.1 hno hx⟩
 ·rcases List.mem_append.1 he with he | he
  ·obtain ⟨a',cap',g1,g2,g3⟩:=h3 e he
   have hne:∀ b off s,a'=some ⟨b,off,s⟩→b≠lm:=fun b off s e'=>kd_ne (g3 b off s e').1 hk (by simp)
   refine ⟨a',cap',by rw [alook_put,if_neg (by have:=hnew e he; omega)]; exact g1,g2.far hne hc,fun b off s e'=>⟨kd_chg hc (g3 b off s e').1 (hne b off s e'),(g3 b off s e').2⟩⟩
  ·rw [List.mem_singleton] at he; subst he
   exact ⟨a,cap,by rw [alook_put,if_pos rfl],hr,hmine⟩
 ·rw [alook_put,if_neg (fun e=>hk' (n,r) (by simp) e.symm)]
  exact h4 k fun e he=>hk' e (by simp [he])
theorem LgAt.del {F:Nat→Prop} {w w':World} {lm:Nat} {lg:List (Nat × List Nat)} {n:Nat} (h:LgAt F w lm lg) (hc:Chg (fun z=>z=lm) w w') (hm':∀ m,MapAt w lm m→MapAt w' lm (adel m n)):LgAt F w' lm (lgDel lg n):=by
 have hk:=kd_lg h
 obtain ⟨m,h1,h2,h3,h4⟩:=h
 refine ⟨_,hm' m h1,by rw [akeys_del]; exact h2.erase _,fun e he => ?_,fun k hk' => ?_⟩
 ·obtain ⟨he,hne⟩:=List.mem_filter.1 he
  have hne':e.1≠n:=by simpa using hne
  obtain ⟨a',cap',g1,g2,g3⟩:=h3 e he
  have hne:∀ b off s,a'=some ⟨b,off,s⟩→b≠lm:=fun b off s e'=>kd_ne (g3 b off s e').1 hk (by simp)
  exact ⟨a',cap',by rw [alook_del h2,if_neg (by omega)]; exact g1,g2.far hne hc,fun b off s e'=>⟨kd_chg hc (g3 b off s e').1 (hne b off s e'),(g3 b off s e').2⟩⟩
 ·rw [alook_del h2]
  by_cases e:k=n
  ·rw [if_pos e]
  ·rw [if_neg e]
   refine h4 k fun e' he' e2 => ?_
   by_cases e3:e'.1=n
   ·exact e (by omega)
   ·exact hk' e' (List.mem_filter.2 ⟨he',by simpa using e3⟩) e2
theorem shiftA_b {a:Option Addr} {cap l sz:Nat} {b off:Nat} {s} (h:shiftA a cap l sz=some ⟨b,off,s⟩):∃ off' s',a=some ⟨b,off',s'⟩:=by
 unfold shiftA at h
 by_cases hc:cap=l
 ·rw [if_pos hc] at h; exact ⟨off,s,h⟩
 ·rw [if_neg hc] at h
  cases a with
  |none=>cases h
  |some x =>
   obtain ⟨xb,xo,xs⟩:=x
   simp only [Option.map_some,Option.some.injEq] at h
   have:xb=b:=by
    have:=congrArg Addr.block h
    unfold Addr.add at this
    split at this <;> exact this
   subst this
   exact ⟨xo,xs,rfl⟩
theorem own_page {l:List Nat} {w:World} {base m:Nat} {v:Value} (h:Own base 3 1 w v m ((natsI l).map (Value.int .i64))) (hm:l.length=m) (hp:0<m):∃ g cap,v = .slice (some ⟨g,0,none⟩) m cap∧base≤g∧m≤cap∧cap≤maxLen∧kd w g=some (some 3)∧Rd .i64 w (some ⟨g,0,none⟩) (natsI l):=by
 obtain ⟨g,cap,cur,e,h3,h4,h5,h6,h7⟩:=h.form hp
 have hl:(natsI l).length=m:=by unfold natsI; rw [List.length_map]; exact hm
 exact ⟨g,cap,e,h3,h5,h6,kd_cells h4,Rd.of_take h4 (by rw [hl]; rw [Nat.mul_one] at h7; exact h7)⟩
theorem natsI_append (l r:List Nat):natsI (l++r)=natsI l++natsI r:=by unfold natsI; rw [List.map_append]
theorem natsI_length (l:List Nat):(natsI l).length=l.length:=by unfold natsI; rw [List.length_map]
def PlTo (F:Nat→Prop) (w w':World) (R:Rm) (M:RmM) (q:Plc):Prop := ∃ F',RmSt F' w' R M∧(∀ z,F' z→F z∨w.heap.size≤z)∧Chg F w w'∧PlcOk w' q∧OutA F' q.pa ∧ ∀ b off s,q.pa=some ⟨b,off,s⟩→w.heap.size≤b∧kd w' b=some (some 3)
def plcP (q:Plc):PlcM:=⟨q.cls,q.page,q.idx,q.pages⟩
set_option maxRecDepth 100000 in
theorem room_Place {F:Nat→Prop} {w:World} {R:Rm} {M:RmM} (h:RmSt F w R M) (who size:Int):Does Tryz.prog 146 #[rmV R,.int .i64 who,.int .i64 size] w
 (fun v w' => ∃ q:Plc,v = .tuple #[.agg (plcL q).toArray,.int .i64 (rmPlaceE R.c M who size)]∧plcP q=rmPlaceQ R.c M who size∧PlTo F w w' R (rmPlace R.c M who size) q):=by
 have hml:maxLen=9223372036854775807:=rfl
 have hf:=may_facts h.may
 have hs1:=hf.size
 have hs2:=hf.n
 have hs3:=hf.most
 have noq:∀ {F':Nat→Prop} {w':World} (c i j:Int),PlcOk w' ⟨c,i,j,none,0,[]⟩∧OutA F' none ∧ ∀ b off s,(none:Option Addr)=some ⟨b,off,s⟩→w.heap.size≤b∧kd w' b=some (some 3):=fun c i j=>⟨⟨Rd.nil _ _ _,by simp⟩,⟨(fun _ _ _ e=>by cases e),(fun _ _ _ e=>by cases e)⟩⟩
 refine Does.enter Tryz.func146 rfl Tryz.ntmps146 rfl rfl ?_
 refine Goes.adv hTT 400 rfl ?_
 refine Goes.alloc hTT rfl ?_
 intro b w1 e1 hb hw1 hz1
 refine Goes.adv hTT 400 rfl ?_
 have hbF:¬ F b:=fun hz=>by have:=h.low b hz; omega
 have hw1':Chg F w w1:=hw1.mono fun _ _ h=>h.elim
 by_cases g1:who<0
 ·have e1':rmPlaceE R.c M who size=1∧rmPlaceQ R.c M who size=⟨0,0,0,[]⟩∧rmPlace R.c M who size=M:=by
   unfold rmPlaceE rmPlaceQ rmPlace; rw [if_pos g1,if_pos g1,if_pos g1]; exact ⟨rfl,rfl,rfl⟩
  rw [e1'.1,e1'.2.1,e1'.2.2]
  refine Goes.yes hTT rfl (decide_eq_true g1) rfl ?_
  refine Goes.build hTT rfl rfl ?_
  refine Goes.store hTT rfl hb rfl rfl ?_
  intro w2 hb2 hs2' hz2
  refine Goes.adv hTT 400 rfl ?_
  have h2:=h.note (h.grow hw1) (kd_cells hb) (by omega) hbF hs2' (by decide)
  exact Goes.ret hTT rfl Tryz.func146 (ResOk.cell rfl rfl rfl hb2 rfl (.tmp rfl .nil)) ⟨⟨0,0,0,none,0,[]⟩,rfl,rfl,F,h2,fun z hz => .inl hz,hw1'.since hs2' (fun z hz e=>by omega),noq 0 0 0⟩
 ·refine Goes.no hTT rfl (decide_eq_false g1) rfl ?_
  refine Goes.call rfl (room_Fits (h.grow hw1) size) ?_
  rintro _ w2 ⟨rfl,hw2⟩
  refine Goes.adv hTT 400 rfl ?_
  have h2:=(h.grow hw1).grow hw2
  have hb2:=hw2.heap' hb
  have hc12:=hw1.trans hw2
  by_cases g2:rmFits R.c M size=0
  ·have hfit:¬ (size<1∨R.c.most<size)∧rmNeed R.c M size≤M.pl.free.length:=by
    unfold rmFits at g2
    split at g2
    ·cases g2
    ·split at g2
     ·cases g2
     ·refine ⟨by assumption,by omega⟩
   have g2':¬ (rmFits R.c M size≠0):=fun h=>h g2
   refine Goes.no hTT rfl (by rw [g2]; rfl) rfl ?_
   refine Goes.loadb hTT rfl h2.obj rfl rfl ?_
   refine Goes.call rfl (class_Pick R.p.ca R.p.cc R.c.classes size w2 h2.cls.1 (by omega)) ?_
   rintro _ w3 ⟨rfl,hw3⟩
   refine Goes.adv hTT 400 rfl ?_
   have h3:=h2.grow hw3
   have hb3:=hw3.heap' hb2
   have hc13:=hc12.trans hw3
   by_cases g3:pickM R.c.classes size = -1
   ·have e3':rmPlaceE R.c M who size=0∧rmPlaceQ R.c M who size=⟨-1,(M.pl.free.getD 0 0:Nat),0,natsI (M.pl.free.take (allM size R.c.size).toNat).tail⟩∧rmPlace R.c M who size=rmBig M (allM size R.c.size).toNat:=by
     exact ⟨by unfold rmPlaceE; rw [if_neg g1,if_neg g2',if_pos g3],by unfold rmPlaceQ; rw [if_neg g1,if_neg g2',if_pos g3],by unfold rmPlace; rw [if_neg g1,if_neg g2',if_pos g3]⟩
    rw [e3'.1,e3'.2.1,e3'.2.2]
    have hneed:rmNeed R.c M size=allM size R.c.size:=by unfold rmNeed; rw [if_pos g3]
    have hge:2≤allM size R.c.size:=by
     have h0:0≤(size - 1) / R.c.size:=Int.ediv_nonneg (by omega) (by omega)
     have h9:(size - 1) / R.c.size≤size - 1:=Int.ediv_le_self _ (by omega)
     have e4:manyM size R.c.size=(size - 1) / R.c.size+1:=by unfold manyM; rw [if_neg (by omega)]
     unfold allM
     rw [e4,if_neg (by omega)]
     omega
    obtain ⟨many,hmany⟩:=Int.eq_ofNat_of_zero_le (show 0≤allM size R.c.size by omega)
    have hm2:2≤many:=by omega
    have hmf:many≤M.pl.free.length:=by have:=hfit.2; omega
    have hfl:M.pl.free.length≤1024:=by have:=h.pool.good.many; have:=h.pool.good.len; omega
    refine Goes.no hTT rfl (by rw [g3]; rfl) rfl ?_
    refine Goes.loadb hTT rfl h3.obj rfl rfl ?_
    refine Goes.call rfl (chain_All size R.c.size w3 (by omega)) ?_
    rintro _ _ ⟨rfl,rfl⟩
    refine Goes.adv hTT 400 rfl ?_
    rw [hmany,Int.toNat_natCast]
    have hrbP:¬ plFoot R.P R.rb:=fun hz=>h.rf (h.pf _ hz)
    refine Goes.loop (α:=Nat × Value) (fun p => [(0,false,rmV R),(6,false,.pointer (some ⟨b,0,none⟩)),(13,false,p.2),(58,false,.int .i64 many),(59,false,.int .i64 p.1)])
     (fun p w'=>p.1≤many∧Own w3.heap.size 3 1 w' p.2 p.1 ((natsI (M.pl.free.take p.1)).map (Value.int .i64))∧PoolOk w' R.P (plTk M.pl (M.shs.length:Nat) p.1)∧Chg (plFoot R.P) w3 w') (fun p=>many - p.1) (0,.slice none 0 0) ⟨rfl,rfl,rfl,rfl,rfl,trivial⟩ ⟨Nat.zero_le _,⟨rfl,.inl ⟨rfl,rfl⟩⟩,h3.pool,Chg.refl _ _⟩ ?_
    rintro ⟨i,v⟩ w4 ⟨hi,ho4,hP4,hc4⟩ ih
    simp only at hi ho4 hP4
    refine Goes.adv hTT 400 rfl ?_
    refine Goes.fork hTT rfl rfl rfl (fun hlp => ?_) (fun hlp => ?_)
    ·have hlt:i<many:=by simpa using hlp
     have hil:i<M.pl.free.length:=by omega
     obtain ⟨q1,q2,q3,q4,q5⟩:=plTk_props (who:=(M.shs.length:Nat)) (by omega) h.pool.good i (by omega)
     have hfree:(plTk M.pl (M.shs.length:Nat) i).free=M.pl.free[i]::M.pl.free.drop (i+1):=by rw [q2]; exact List.drop_eq_getElem_cons hil
     obtain ⟨t1,t2,t3⟩:=plTake_ok (who:=(M.shs.length:Nat)) (by omega) hfree
     have hn:=h.ok.n
     have hobj4:=hc4.heap h3.obj hrbP
     refine Goes.drawn (q:=16) (plFoot R.P) hTT mixed (by kernel_rfl) rfl ?_
     intro hB
     refine Drawn.loadb hTT hB rfl hobj4 (by first | exact fun h=>h | (intro h; omega) | assumption) rfl rfl ?_
     refine Drawn.loadb hTT hB rfl hobj4 (by first | exact fun h=>h | (intro h; omega) | assumption) rfl rfl ?_
     refine Drawn.turn1 hB rfl ?_
     intro w5 hw5
     have hd:=pool_Take R.P _ (M.shs.length:Nat) w5 (hP4.grow hw5)
     rw [t1,t2] at hd
     rw [hn] at hd
     refine Turn.call rfl hd.fn (Post:=fun v w2=>v = .tuple #[.int .i64 (M.pl.free[i]:Nat),.int .i64 0]∧PoolOk w2 R.P (plTk M.pl (M.shs.length:Nat) (i+1))∧Chg (plFoot R.P) w5 w2) (fun h0=>hd.mono fun v w2 hp=>⟨h0.trans hp.2.2,hp.1,by rw [hn]; exact hp.2.1,hp.2.2⟩) ?_
     rintro _ w6 _ ⟨rfl,hP6,hs6⟩
     refine Drawn.adv hTT hB rfl ?_
     refine Drawn.nil hB ?_
     intro w7 hw7
     refine Goes.adv hTT 400 rfl ?_
     refine Goes.buildSlice hTT rfl ?_
     intro b8 w8 e8 hb8 hw8 hz8
     refine Goes.adv hTT 400 rfl ?_
     have hc48:Chg (plFoot R.P) w4 w8:=(((hw5.mono fun _ _ h=>h.elim).trans hs6).trans (hw7.mono fun _ _ h=>h.elim)).trans (hw8.mono fun _ _ h=>h.elim)
     have hPlt:=h3.pool.lt
     have ho8:=ho4.chg hc48 (fun z hz hP=>by
      have hzb:=(World.ownsRow.lt ho4 z hz.symm).1
      rcases hP with e | e <;> omega)
     have hs38:w3.heap.size≤w8.heap.size:=(hc4.trans hc48).size
     refine Goes.append (base:=w3.heap.size) (xs:=(natsI (M.pl.free.take i)).map (Value.int .i64)) (news := [.int .i64 (M.pl.free[i]:Nat)]) hTT rfl ho8 hs38 (by simp) (cells1 hb8) (by simp [Value.oneCell']) ⟨by omega,by show (i+1)*8≤_; omega⟩ ?_
     intro v9 w9 ho9 hs9 hv9
     refine Goes.adv hTT 400 rfl ?_
     refine Goes.arith hTT rfl (w64 (by omega)) rfl ?_
     exact ih (i+1,v9) _ _ ⟨hlt,by
      have e:(natsI (M.pl.free.take (i+1))).map (Value.int .i64)=(natsI (M.pl.free.take i)).map (Value.int .i64) ++ [.int .i64 (M.pl.free[i]:Nat)]:=by
       rw [List.take_add_one,List.getElem?_eq_getElem hil,natsI_append,List.map_append]; rfl
      rw [e]; exact ho9,(hP6.grow (hw7.trans hw8)).chg hs9 (fun e=>by have:=(World.ownsRow.lt ho8 _ e.symm).1; omega) (fun e=>by have:=(World.ownsRow.lt ho8 _ e.symm).1; omega),(hc4.trans hc48).since hs9 (fun z hz e=>by have:=(World.ownsRow.lt ho8 z e.symm).1; omega)⟩ (by simp only; omega) ⟨rfl,rfl,rfl,rfl,rfl,trivial⟩
    ·have hge':i=many:=by simp at hlp; omega
     subst hge'
     have hlen:(M.pl.free.take i).length=i:=by rw [List.length_take]; omega
     obtain ⟨g,cap,rfl,hg,hcap,hcm,hkg,hrd⟩:=own_page ho4 hlen (by omega)
     have hgF:¬ F g:=fun hz=>by have:=h3.low g hz; omega
     have hcellF:∀ {w':World},Rd .i64 w' (some ⟨g,0,none⟩) (natsI (M.pl.free.take i))→w'.cell? ⟨g,0+0,none⟩=some (.int .i64 (M.pl.free.getD 0 0:Nat)):=fun {w'} hr=>by
      obtain ⟨b',off',e',hc⟩:=hr 0 (by rw [natsI_length]; omega)
      cases e'
      have e:(natsI (M.pl.free.take i)).getD 0 0=((M.pl.free.getD 0 0:Nat):Int):=by
       cases hfr:M.pl.free with
       |nil=>rw [hfr] at hmf; simp at hmf; omega
       |cons x y =>
        obtain ⟨j,rfl⟩:∃ j,i=j+1:=⟨i - 1,by omega⟩
        rfl
      rw [e] at hc
      exact hc
     have hshift:∀ {w':World},Rd .i64 w' (some ⟨g,0,none⟩) (natsI (M.pl.free.take i))→Rd .i64 w' (shiftA (some ⟨g,0,none⟩) cap 1 1) (natsI (M.pl.free.take i).tail):=fun {w'} hr=>by
      have:=hr.shift (cap:=cap) (l:=1) (m:=i - 1) (by rw [natsI_length]; omega) (by rw [natsI_length]; omega)
      have e:((natsI (M.pl.free.take i)).drop 1).take (i - 1)=natsI (M.pl.free.take i).tail:=by
       have e1:(natsI (M.pl.free.take i)).drop 1=natsI (M.pl.free.take i).tail:=by unfold natsI; rw [List.drop_one,List.map_tail]
       rw [e1]
       exact List.take_of_length_le (by rw [natsI_length,List.length_tail]; omega)
      rw [e] at this
      exact this
     have hrl:¬ R.rb=R.lm:=fun e=>h.rf (e▸h.lf)
     have hgl:¬ g=R.lm:=fun e=>hgF (e▸h.lf)
     have hobj4:=hc4.heap h3.obj hrbP
     refine Goes.drawn (q:=10) (fun z=>z=R.lm) hTT mixed (by kernel_rfl) rfl ?_
     intro hB
     refine Drawn.loadb hTT hB rfl hobj4 (by first | exact fun h=>h | (intro h; omega) | assumption) rfl rfl ?_
     refine Drawn.index hTT hB rfl (j:=0) (by omega) (by omega) (by first | rfl | omega | (simp; done) | (simp; omega)) rfl ?_
     refine Drawn.load hTT hB rfl (hcellF hrd) (by first | exact fun h=>h | (intro h; omega) | assumption) rfl ?_
     refine Drawn.slice hTT hB rfl (l:=1) (h:=i) (by first | rfl | omega | simp [loV]) (by first | rfl | omega | simp [hiV]) (by omega) (by omega) rfl ?_
     refine Drawn.turn1 hB rfl ?_
     intro w5 hw5
     have hl4:=h3.lg.chg hc4 (fun z _ hz => .inl (h3.pf z hz)) (fun hz=>by
      have kl:=kd_lg h3.lg
      have kp:=h3.pool.kds
      rcases hz with e | e
      ·exact kd_ne kl kp.1 (by simp) e
      ·exact kd_ne kl kp.2 (by simp) e)
     have hl5:=hl4.chg hw5 (fun _ _ h=>h.elim) id
     obtain ⟨m,hm,_⟩:=hl5
     have hl5:=hl4.chg hw5 (fun _ _ h=>h.elim) id
     refine Turn.mapset hTT hB rfl (hm) (by first | (intro h; exact rfl) | (intro h; omega)) rfl ?_
     intro w6 hm6 hs6 hz6
     refine Drawn.nil hB ?_
     intro w7 hw7
     refine Goes.adv hTT 400 rfl ?_
     have hkg6:kd w6 g=some (some 3):=kd_chg hs6 (kd_chg hw5 hkg id) hgl
     have hrd6:Rd .i64 w6 (some ⟨g,0,none⟩) (natsI (M.pl.free.take i)):=(hrd.chg hw5).far (fun b' off s e=>by cases e; exact hgl) hs6
     have hmine:∀ {w':World},kd w' g=some (some 3)→Mine (R.FX F) w' (shiftA (some ⟨g,0,none⟩) cap 1 1):=fun {w'} hk b' off s e=>by
      obtain ⟨_,_,e'⟩:=shiftA_b e
      cases e'
      exact ⟨hk,fun hz=>hz.elim hgF (fun hx=>by have:=(h3.xl _ hx).1; omega)⟩
     have htl:(M.pl.free.take i).tail.length=i - 1:=by rw [List.length_tail,hlen]
     have hfresh:M.pl.free.getD 0 0 ∈ M.pl.free:=by
      cases hfr:M.pl.free with
      |nil=>rw [hfr] at hmf; simp at hmf; omega
      |cons x y=>simp
     have hl6:LgAt (R.FX F) w6 R.lm (M.lg ++ [(M.pl.free.getD 0 0,(M.pl.free.take i).tail)]):=hl5.put (cap:=cap - 1) (a:=shiftA (some ⟨g,0,none⟩) cap 1 1) hs6 (fun m' h'=>by
      rw [h'.uniq hm,htl]
      exact hm6) (fun e he e'=>by
       have h8:=(h.ok.lg e.1 (mem_lgAll he (by simp))).2
       have h9:=(h.pool.good.free _ hfresh).2
       rw [e'] at h8
       omega) (hshift hrd6) (hmine hkg6)
     have kl5:=kd_lg hl5
     have hP5:=hP4.grow hw5
     have hP6:PoolOk w6 R.P (plTk M.pl (M.shs.length:Nat) i):=hP5.chg hs6 (kd_ne hP5.kds.1 kl5 (by simp)) (kd_ne hP5.kds.2 kl5 (by simp))
     have hok:=h.ok.big h.pool.good (show 1≤i by omega) hmf
     have h6:=h3.swap (pl':=plTk M.pl (M.shs.length:Nat) i) (lg':=M.lg ++ [(M.pl.free.getD 0 0,(M.pl.free.take i).tail)]) {hok with tot:=h.ok.tot} (((hc4.mono fun _ _ h => .inl h).trans (hw5.mono fun _ _ h=>h.elim)).trans (hs6.mono fun _ _ h => .inr h)) hP6 hl6 (fun k x hx hof=>plTk_of (by omega) h.pool.good hmf (by have:=(h.ok.each k x hx).1; omega) hof)
     have h7:=h6.grow hw7
     refine Goes.loadb hTT rfl h7.obj rfl rfl ?_
     refine Goes.arith hTT rfl (w64 (by omega)) rfl ?_
     refine Goes.arith hTT rfl (w64 (by omega)) rfl ?_
     refine Goes.arith hTT rfl (w64 (by omega)) rfl ?_
     refine Goes.arith hTT rfl (w64 (by omega)) rfl ?_
     rw [show ((i:Nat):Int)*4+(((i:Nat):Int) - 1)*1=(i:Int)*4+((i:Int) - 1) from by omega]
     refine Goes.call rfl (room_meter h7 ((i:Int)*4+((i:Int) - 1))) ?_
     rintro _ w8 ⟨h8,hc8⟩
     refine Goes.adv hTT 400 rfl ?_
     replace h8:RmSt F w8 R (rmBig M i):=h8
     have hb4:=hc4.heap hb3 (fun hz=>hbF (h3.pf b hz))
     have hb7:=hw7.heap' (hs6.heap (hw5.heap' hb4) (fun e=>hbF (e▸h.lf)))
     have hb8:=hc8.heap hb7 hbF
     have hrd8:=(hrd6.chg hw7).far (fun b' off s e=>by cases e; exact hgF) hc8
     have hkg8:=kd_chg hc8 (kd_chg hw7 hkg6 id) hgF
     have hgb:¬ g=b:=fun e=>by
      have:=kd_cells hb8
      rw [← e,hkg8] at this
      revert this; decide
     have hlt8:=lt_of_heap hb8
     have hd9:∀ w',Chg None' w8 w'→Does Tryz.prog 45 #[.slice (shiftA (some ⟨g,0,none⟩) cap 1 1) (i - 1) (cap - 1)] w' (fun v w2=>Chg (fun z=>z=b) w' w2∧Chg None' w8 w2 ∧ ∃ g2 c2,v = .slice (some ⟨g2,0,none⟩) (i - 1) c2∧w8.heap.size≤g2∧Rd .i64 w2 (some ⟨g2,0,none⟩) (natsI (M.pl.free.take i).tail)∧kd w2 g2=some (some 3)):=fun w' hw'=>by
      have hd:=slices_Clone_int (shiftA (some ⟨g,0,none⟩) cap 1 1) (cap - 1) (natsI (M.pl.free.take i).tail) w' ((hshift hrd8).chg hw') (by rw [natsI_length,htl]; omega) (by unfold shiftA; split <;> exact ⟨_,rfl⟩)
      rw [natsI_length,htl] at hd
      exact hd.mono fun v w2 ⟨g2,c2,q1,q2,q3,q4,q5⟩=>⟨q5.mono fun _ _ h=>h.elim,hw'.trans q5,g2,c2,q1,by have:=hw'.size; omega,q3,q4⟩
     refine Goes.drawn (q:=9) (fun z=>z=b) hTT mixed (by kernel_rfl) rfl ?_
     intro hB
     refine Drawn.index hTT hB rfl (j:=0) (by omega) (by omega) (by first | rfl | omega | (simp; done) | (simp; omega)) rfl ?_
     refine Drawn.load hTT hB rfl (hcellF hrd8) (by first | exact fun h=>h | (intro h; omega) | assumption) rfl ?_
     refine Drawn.slice hTT hB rfl (l:=1) (h:=i) (by first | rfl | omega | simp [loV]) (by first | rfl | omega | simp [hiV]) (by omega) (by omega) rfl ?_
     refine Drawn.callQ hB rfl rfl (hd9) ?_
     rintro _ w9 _ ⟨hw9,g2,c2,rfl,hg2,hr2,hl2⟩
     refine Drawn.adv hTT hB rfl ?_
     refine Drawn.build hTT hB rfl rfl ?_
     refine Drawn.turn1 hB rfl ?_
     intro w10 hw10
     have hb10:=(hw9.trans hw10).heap' hb8
     refine Turn.store hTT hB rfl hb10 (by first | (intro h; exact rfl) | (intro h; omega)) rfl rfl rfl ?_
     intro w11 hb11 hs11 hz11
     refine Drawn.nil hB ?_
     intro w12 hw12
     refine Goes.adv hTT 400 rfl ?_
     have hg2b:g2≠b:=by omega
     have h11:=h.note (h8.grow (hw9.trans hw10)) (kd_cells hb10) (by omega) hbF hs11 (by decide)
     have h12:=h11.grow hw12
     have hb12:=hw12.heap' hb11
     have hr12:=(((hr2.chg hw10).far (S:=fun z=>z=b) (fun b' off s e=>by cases e; exact hg2b) hs11).chg hw12)
     have hcF:Chg F w w8:=((((((hc13.mono fun _ _ h=>h.elim).trans (hc4.mono fun z _ hz=>h3.pf z hz)).trans (hw5.mono fun _ _ h=>h.elim)).trans (hs6.mono fun z _ e=>e▸h.lf)).trans (hw7.mono fun _ _ h=>h.elim)).trans hc8)
     have hcF12:Chg F w w12:=((hcF.trans ((hw9.trans hw10).mono fun _ _ h=>h.elim)).since hs11 (fun z hz e=>by omega)).trans (hw12.mono fun _ _ h=>h.elim)
     have hsz8:w.heap.size≤w8.heap.size:=hcF.size
     exact Goes.ret hTT rfl Tryz.func146 (ResOk.cell rfl rfl rfl hb12 rfl (.tmp rfl .nil)) ⟨⟨-1,(M.pl.free.getD 0 0:Nat),0,some ⟨g2,0,none⟩,c2,natsI (M.pl.free.take i).tail⟩,by show Value.tuple #[Value.agg _,_]=Value.tuple #[Value.agg (#[_,_,_,Value.slice _ (natsI (M.pl.free.take i).tail).length _]:Array Value),_]; rw [natsI_length,htl],rfl,F,h12,fun z hz => .inl hz,hcF12,⟨hr12,by rw [natsI_length,htl]; omega⟩,fun b' off s e hz=>by cases e; have:=h.low _ hz; omega,fun b' off s e=>by cases e; exact ⟨by omega,kd_chg hw12 (kd_chg hs11 (kd_chg hw10 hl2 id) hg2b) id⟩⟩
   ·have e3':rmPlaceE R.c M who size=rmTakeE M (pickM R.c.classes size) who∧rmPlaceQ R.c M who size=⟨pickM R.c.classes size,rmTakeN M (pickM R.c.classes size) who,rmTakeA M (pickM R.c.classes size) who,[]⟩∧rmPlace R.c M who size=rmTake M (pickM R.c.classes size) who:=by
     exact ⟨by unfold rmPlaceE; rw [if_neg g1,if_neg g2',if_neg g3],by unfold rmPlaceQ; rw [if_neg g1,if_neg g2',if_neg g3],by unfold rmPlace; rw [if_neg g1,if_neg g2',if_neg g3]⟩
    rw [e3'.1,e3'.2.1,e3'.2.2]
    refine Goes.yes hTT rfl (by simpa using g3) rfl ?_
    refine Goes.call rfl (room_Take h3 (pickM R.c.classes size) who) ?_
    rintro _ w4 ⟨rfl,F4,h4,hF4,hc4⟩
    refine Goes.adv hTT 400 rfl ?_
    have hbF4:¬ F4 b:=fun hz=>(hF4 b hz).elim hbF (fun h=>by have:=lt_of_heap hb3; omega)
    have hb4:=hc4.heap hb3 hbF
    refine Goes.build hTT rfl rfl ?_
    refine Goes.store hTT rfl hb4 rfl rfl ?_
    intro w5 hb5 hs5 hz5
    refine Goes.adv hTT 400 rfl ?_
    have h5:=h.note h4 (kd_cells hb4) (by omega) hbF4 hs5 (by decide)
    exact Goes.ret hTT rfl Tryz.func146 (ResOk.cell rfl rfl rfl hb5 rfl (.tmp rfl .nil)) ⟨⟨pickM R.c.classes size,rmTakeN M (pickM R.c.classes size) who,rmTakeA M (pickM R.c.classes size) who,none,0,[]⟩,rfl,rfl,F4,h5,(fun z hz=>(hF4 z hz).imp id (fun h=>by have:=hc13.size; omega)),((hc13.mono fun _ _ h=>h.elim).trans hc4).since hs5 (fun z hz e=>by omega),noq _ _ _⟩
  ·have e2':rmPlaceE R.c M who size=rmFits R.c M size∧rmPlaceQ R.c M who size=⟨0,0,0,[]⟩∧rmPlace R.c M who size=M:=by
    unfold rmPlaceE rmPlaceQ rmPlace; rw [if_neg g1,if_neg g1,if_neg g1,if_pos g2,if_pos g2,if_pos g2]; exact ⟨rfl,rfl,rfl⟩
   rw [e2'.1,e2'.2.1,e2'.2.2]
   refine Goes.yes hTT rfl (by simpa using g2) rfl ?_
   refine Goes.build hTT rfl rfl ?_
   refine Goes.store hTT rfl hb2 rfl rfl ?_
   intro w3 hb3 hs3' hz3
   refine Goes.adv hTT 400 rfl ?_
   have h3:=h.note h2 (kd_cells hb2) (by omega) hbF hs3' (by decide)
   exact Goes.ret hTT rfl Tryz.func146 (ResOk.cell rfl rfl rfl hb3 rfl (.tmp rfl .nil)) ⟨⟨0,0,0,none,0,[]⟩,rfl,rfl,F,h3,fun z hz => .inl hz,(hc12.mono fun _ _ h=>h.elim).since hs3' (fun z hz e=>by omega),noq 0 0 0⟩
end Go.Proofs.YtnaoiegcobineaaGreatDoor
namespace Go.Proofs.YtnaoiegcobineaaGreatDoor
open Go.RowKit
theorem lgGet_look {F:Nat→Prop} {w:World} {lm:Nat} {lg:List (Nat × List Nat)} (h:LgAt F w lm lg):∃ m,MapAt w lm m∧(∀ n:Int,lgGet lg n=none→alook m n=none) ∧ ∀ (n:Nat) r,(n,r) ∈ lg → ∃ a cap,alook m n=some (.slice a r.length cap)∧Rd .i64 w a (natsI r)∧Mine F w a:=by
 obtain ⟨m,h1,h2,h3,h4⟩:=h
 exact ⟨m,h1,fun n hn=>h4 n fun e he=>lgGet_none hn e he,fun n r hm=>h3 _ hm⟩
set_option maxRecDepth 100000 in
theorem room_Drop {F:Nat→Prop} {w:World} {R:Rm} {M:RmM} (h:RmSt F w R M) (q:Plc) (hq:PlcOk w q):Does Tryz.prog 148 #[rmV R,.agg (plcL q).toArray] w
 (fun v w'=>v = .int .i64 (rmDropE M (plcP q))∧RmTo F w w' R (rmDrop M (plcP q))):=by
 have hml:maxLen=9223372036854775807:=rfl
 refine Does.enter Tryz.func148 rfl Tryz.ntmps148 rfl rfl ?_
 refine Goes.adv hTT 400 rfl ?_
 refine Goes.alloc hTT rfl ?_
 intro b w1 e1 hb hw1 hz1
 refine Goes.adv hTT 400 rfl ?_
 have hbF:¬ F b:=fun hz=>by have:=h.low b hz; omega
 have h1:=h.grow hw1
 replace hb:w1.heap[b]? = some (.cells (plcL q).toArray 106 (0,0)):=hb
 have hcF:Chg F w w1:=hw1.mono fun _ _ h=>h.elim
 refine Goes.loadb hTT rfl hb rfl rfl ?_
 by_cases g1:q.cls = -1
 ·have eD:rmDropE M (plcP q)=(match lgGet M.lg q.page with | none=>1 | some r=>if natsI r=q.pages then 0 else 1)∧rmDrop M (plcP q)=(match lgGet M.lg q.page with | none=>M | some r=>if natsI r=q.pages then rmGone M q.page.toNat r else M):=by
   unfold rmDropE rmDrop plcP
   exact ⟨if_neg (fun h=>h g1),if_neg (fun h=>h g1)⟩
  rw [eD.1,eD.2]
  refine Goes.no hTT rfl (by simp [g1]) rfl ?_
  obtain ⟨m,hm,hno,hsome⟩:=lgGet_look h1.lg
  cases hg:lgGet M.lg q.page with
  |none =>
   simp only
   refine Goes.drawn (q:=12) None' hTT mixed (by kernel_rfl) rfl ?_
   intro hB
   refine Drawn.loadb hTT hB rfl h1.obj (by first | exact fun h=>h | (intro h; omega) | assumption) rfl rfl ?_
   refine Drawn.loadb hTT hB rfl hb (by first | exact fun h=>h | (intro h; omega) | assumption) rfl rfl ?_
   refine Drawn.lookup hTT hB rfl (hm) (by first | (intro b h; cases h; assumption) | (intro b h hs; cases h; omega)) ((show lookV m _ _ true = .tuple #[.slice none 0 0,.bool false] from by unfold lookV; rw [hno _ hg]; rfl)) rfl ?_
   refine Drawn.nil hB ?_
   intro w2 hw2
   refine Goes.adv hTT 400 rfl ?_
   refine Goes.yes hTT rfl rfl rfl ?_
   exact Goes.ret1 hTT rfl Tryz.func148 rfl rfl ⟨rfl,.of (h1.grow hw2) (hcF.trans (hw2.mono fun _ _ h=>h.elim))⟩
  |some r =>
   simp only
   obtain ⟨n,hn,hmem⟩:=lgGet_some hg
   obtain ⟨a,cap,hlook,hrd,hmine⟩:=hsome n r hmem
   refine Goes.drawn (q:=12) None' hTT mixed (by kernel_rfl) rfl ?_
   intro hB
   refine Drawn.loadb hTT hB rfl h1.obj (by first | exact fun h=>h | (intro h; omega) | assumption) rfl rfl ?_
   refine Drawn.loadb hTT hB rfl hb (by first | exact fun h=>h | (intro h; omega) | assumption) rfl rfl ?_
   refine Drawn.lookup hTT hB rfl (hm) (by first | (intro b h; cases h; assumption) | (intro b h hs; cases h; omega)) ((show lookV m _ _ true = .tuple #[.slice a r.length cap,.bool true] from by unfold lookV; rw [hn,hlook]; rfl)) rfl ?_
   refine Drawn.nil hB ?_
   intro w2 hw2
   refine Goes.adv hTT 400 rfl ?_
   refine Goes.no hTT rfl rfl rfl ?_
   have h2:=h1.grow hw2
   have hb2:=hw2.heap' hb
   have hrl:r.length≤1024:=by
    obtain ⟨_,_,p3,_⟩:=plGv_props (l:=n::r) h.pool.good (by
     obtain ⟨A,B,eA,_⟩:=lgDel_cut h.ok.nd hmem
     have e:lgAll M.lg=lgAll A++((n::r)++lgAll B):=by rw [eA,lgAll_append]; rfl
     have hnd:=h.ok.nd
     rw [e] at hnd
     exact (List.nodup_append.1 (List.nodup_append.1 hnd).2.1).1) (fun m hm'=>by
     obtain ⟨g1,g2⟩:=h.ok.lg m (mem_lgAll hmem hm')
     exact ⟨g1,by omega⟩)
    have:=heldM_le h.pool.good
    simp only [List.length_cons] at p3
    omega
   have hd:=slices_Equal_int a q.pa cap q.pc (natsI r) q.pages w2 (hrd.chg hw2) ((hq.rd.chg hw1).chg hw2) (by rw [natsI_length]; omega)
   rw [natsI_length] at hd
   refine Goes.loadb hTT rfl hb2 rfl rfl ?_
   refine Goes.call rfl (hd) ?_
   rintro _ w3 ⟨rfl,hw3⟩
   refine Goes.adv hTT 400 rfl ?_
   have h3:=h2.grow hw3
   have hb3:=hw3.heap' hb2
   have hc13:=hw2.trans hw3
   by_cases hE:natsI r=q.pages
   ·rw [if_pos hE,if_pos hE,hn,Int.toNat_natCast]
    refine Goes.no hTT rfl (by rw [decide_eq_true hE]; rfl) rfl ?_
    have hlrb:¬ R.rb=R.lm:=fun e=>h.rf (e▸h.lf)
    have hlb:¬ b=R.lm:=fun e=>hbF (e▸h.lf)
    refine Goes.drawn (q:=7) (fun z=>z=R.lm) hTT mixed (by kernel_rfl) rfl ?_
    intro hB
    refine Drawn.loadb hTT hB rfl h3.obj (by first | exact fun h=>h | (intro h; omega) | assumption) rfl rfl ?_
    refine Drawn.loadb hTT hB rfl hb3 (by first | exact fun h=>h | (intro h; omega) | assumption) rfl rfl ?_
    refine Drawn.turn1 hB rfl ?_
    intro w4 hw4
    have h4:=h3.grow hw4
    obtain ⟨m4,hm4,_⟩:=h4.lg
    refine Turn.mapdel hTT hB rfl (hm4) (by first | (intro h; exact rfl) | (intro h; omega)) rfl ?_
    intro w5 hm5 hs5 hz5
    refine Drawn.nil hB ?_
    intro w6 hw6
    refine Goes.adv hTT 400 rfl ?_
    have hb6:=hw6.heap' (hs5.heap (hw4.heap' hb3) hlb)
    refine Goes.loadb hTT rfl hb6 rfl rfl ?_
    refine Goes.buildSlice hTT rfl ?_
    intro b7 w7 e7 hb7 hw7 hz7
    refine Goes.adv hTT 400 rfl ?_
    refine Goes.buildSlice hTT rfl ?_
    intro ob w8 e8 hb8 hw8 hz8
    refine Goes.adv hTT 400 rfl ?_
    have hl5:LgAt (R.FX F) w5 R.lm (lgDel M.lg n):=h4.lg.del hs5 (fun m' h'=>by
     rw [h'.uniq hm4,← hn]
     exact hm5)
    have hc68:Chg None' w6 w8:=hw7.trans hw8
    have hc58:Chg None' w5 w8:=hw6.trans hc68
    have hl8:=hl5.chg hc58 (fun _ _ h=>h.elim) id
    have kl4:=kd_lg h4.lg
    have hP8:PoolOk w8 R.P M.pl:=(h4.pool.chg hs5 (kd_ne h4.pool.kds.1 kl4 (by simp)) (kd_ne h4.pool.kds.2 kl4 (by simp))).grow hc58
    have hr5:Rd .i64 w5 a (natsI r):=(((hrd.chg hw2).chg hw3).chg hw4).far (fun b' off s e=>by
     have hk:=(hmine b' off s e).1
     exact kd_ne (kd_chg hw4 (kd_chg hw3 (kd_chg hw2 hk id) id) id) kl4 (by simp)) hs5
    have hr8:=hr5.chg hc58
    let ls:List Sl := [⟨some ⟨b7,0,none⟩,1,[(n:Int)]⟩,⟨a,cap,natsI r⟩]
    have hcat:catM ls=natsI (n::r):=by show [(n:Int)]++(natsI r ++ [])=_; rw [List.append_nil]; rfl
    have hcl:(catM ls).length=r.length+1:=by rw [hcat,natsI_length]; rfl
    have hd8:=slices_Concat_int ob ls w8 (fun i hi=>by
     replace hi:i<2:=hi
     rcases (show i=0∨i=1 by omega) with rfl | rfl
     ·rw [cell_of hb8]; rfl
     ·rw [cell_of hb8]
      show some (Value.slice a r.length cap)=some (Value.slice a (natsI r).length cap)
      rw [natsI_length]) (fun l hl=>by
     rcases List.mem_cons.1 hl with rfl | hl
     ·have hb78:=hw8.heap' hb7
      exact Rd.of_cells fun i hi=>by
       have:i=0:=by replace hi:i<1:=hi; omega
       subst this
       rw [cell_of hb78,hn]; rfl
     ·rw [List.mem_singleton] at hl; subst hl
      exact hr8) (by show 2≤1024; omega) (by omega) (by omega)
    rw [hcl] at hd8
    refine Goes.call rfl (hd8) ?_
    rintro _ w9 ⟨g,c9,rfl,hg9,hr9,hw9⟩
    refine Goes.adv hTT 400 rfl ?_
    rw [hcat] at hr9
    have hP9:=hP8.grow hw9
    have hc39:Chg (fun z=>plFoot R.P z∨z=R.lm) w3 w9:=((((hw4.mono fun _ _ h=>h.elim).trans (hs5.mono fun _ _ h => .inr h)).trans (hc58.mono fun _ _ h=>h.elim)).trans (hw9.mono fun _ _ h=>h.elim))
    have hlF:∀ z,(plFoot R.P z∨z=R.lm)→F z:=fun z hz=>hz.elim (h.pf z) (fun e=>e▸h.lf)
    have hobj9:=hc39.heap h3.obj (fun hz=>h.rf (hlF _ hz))
    have hrbP:¬ plFoot R.P R.rb:=fun hz=>h.rf (h.pf _ hz)
    refine Goes.loop (α:=Nat) (fun i => [(0,false,rmV R),(5,false,.slice a r.length cap),(54,false,.slice (some ⟨g,0,none⟩) (r.length+1) c9),(55,false,.int .i64 ((r.length+1:Nat):Int)),(56,false,.int .i64 i)])
     (fun i w'=>i≤r.length+1∧PoolOk w' R.P (plGv M.pl ((n::r).take i))∧Chg (plFoot R.P) w9 w') (fun i=>r.length+1 - i) 0 ⟨rfl,rfl,rfl,rfl,rfl,trivial⟩ ⟨Nat.zero_le _,hP9,Chg.refl _ _⟩ ?_
    rintro i w10 ⟨hi,hP10,hc10⟩ ih
    refine Goes.adv hTT 400 rfl ?_
    refine Goes.fork hTT rfl rfl rfl (fun hlp => ?_) (fun hlp => ?_)
    ·have hlt:i<r.length+1:=by have:=of_decide_eq_true hlp; omega
     have hlt':i<(n::r).length:=hlt
     have hPlt:=hP9.lt
     obtain ⟨b',off',e',hcell⟩:=hr9 i (by rw [natsI_length]; exact hlt')
     cases e'
     have ev:(natsI (n::r)).getD i 0=((n::r)[i]:Int):=by
      unfold natsI
      rw [List.getD_eq_getElem?_getD,List.getElem?_map,List.getElem?_eq_getElem hlt']
      rfl
     rw [ev] at hcell
     have hlt8:=lt_of_heap hb8
     have hcell10:=hc10.cell hcell (fun hz=>by
      have:=h3.pool.lt
      have:=hw4.size
      have:=hc58.size
      rcases hz with e | e <;> omega)
     refine Goes.index hTT rfl (j:=i) (by omega) (by omega) (by first | rfl | omega | (simp; done) | (simp; omega)) rfl ?_
     refine Goes.load hTT rfl hcell10 rfl ?_
     refine Goes.loadb hTT rfl (hc10.heap hobj9 hrbP) rfl rfl ?_
     refine Goes.call rfl (pool_Give R.P _ (((n::r)[i]:Nat):Int) w10 hP10) ?_
     rintro _ w11 ⟨_,hP11,hc11⟩
     refine Goes.adv hTT 400 rfl ?_
     refine Goes.arith hTT rfl (w64 (by omega)) rfl ?_
     exact ih (i+1) _ _ ⟨hlt,by
      have e:plGv M.pl ((n::r).take (i+1))=plGive (plGv M.pl ((n::r).take i)) (((n::r)[i]:Nat):Int):=by
       rw [List.take_add_one,List.getElem?_eq_getElem hlt']
       unfold plGv
       rw [List.foldl_append]
       rfl
      rw [e]; exact hP11,hc10.trans hc11⟩ (by omega) ⟨rfl,rfl,rfl,rfl,rfl,trivial⟩
    ·have hge:i=r.length+1:=by have:=of_decide_eq_false hlp; omega
     subst hge
     have etk:(n::r).take (r.length+1)=n::r:=List.take_length (l:=n::r)
     rw [etk] at hP10
     obtain ⟨hok,_⟩:=h.ok.gone h.pool.good hmem
     have hl10:=(hl8.chg hw9 (fun _ _ h=>h.elim) id).chg hc10 (fun z _ hz => .inl (h.pf z hz)) (fun hz=>by
      have kl3:=kd_lg h3.lg
      have kp:=h3.pool.kds
      rcases hz with e | e
      ·exact kd_ne kl3 kp.1 (by simp) e
      ·exact kd_ne kl3 kp.2 (by simp) e)
     have hnd:(n::r).Nodup:=by
      obtain ⟨A,B,eA,_⟩:=lgDel_cut h.ok.nd hmem
      have e:lgAll M.lg=lgAll A++((n::r)++lgAll B):=by rw [eA,lgAll_append]; rfl
      have hnd:=h.ok.nd
      rw [e] at hnd
      exact (List.nodup_append.1 (List.nodup_append.1 hnd).2.1).1
     have hown:∀ m ∈ n::r,m<M.pl.own.length∧M.pl.own.getD m 0=(M.shs.length:Int):=fun m hm'=>h.ok.lg m (mem_lgAll hmem hm')
     have h10:=h3.swap (pl':=plGv M.pl (n::r)) (lg':=lgDel M.lg n) {hok with tot:=h.ok.tot} (hc39.trans (hc10.mono fun _ _ h => .inl h)) hP10 hl10 (fun k x hx hof=>by
      have hk:k<M.shs.length:=(List.getElem?_eq_some_iff.1 hx).1
      have hcx:=(h.ok.each k x hx).1
      exact plGv_of h.pool.good hnd (fun m hm'=>⟨(hown m hm').1,by have:=(hown m hm').2; omega⟩) hof (fun m hm'=>by have:=(hown m hm').2; omega))
     refine Goes.loadb hTT rfl h10.obj rfl rfl ?_
     refine Goes.arith hTT rfl (w64 (by omega)) rfl ?_
     refine Goes.arith hTT rfl (w64 (by omega)) rfl ?_
     refine Goes.arith hTT rfl (w64 (by omega)) rfl ?_
     refine Goes.arith hTT rfl (w64 (by omega)) rfl ?_
     rw [show ((r.length:Nat):Int)*1=(r.length:Int) from by omega]
     refine Goes.call rfl (room_meter h10 ((((r.length:Nat):Int)+1)*4+(r.length:Int))) ?_
     rintro _ w11 ⟨h11,hc11⟩
     refine Goes.adv hTT 400 rfl ?_
     replace h11:RmSt F w11 R (rmGone M n r):=h11
     have hcF3:Chg F w w3:=hcF.trans (hc13.mono fun _ _ h=>h.elim)
     exact Goes.ret1 hTT rfl Tryz.func148 rfl rfl ⟨rfl,.of h11 (((hcF3.trans (hc39.mono fun z _ hz=>hlF z hz)).trans (hc10.mono fun z _ hz=>h.pf z hz)).trans hc11)⟩
   ·rw [if_neg hE,if_neg hE]
    refine Goes.yes hTT rfl (by rw [decide_eq_false hE]; rfl) rfl ?_
    exact Goes.ret1 hTT rfl Tryz.func148 rfl rfl ⟨rfl,.of h3 (hcF.trans (hc13.mono fun _ _ h=>h.elim))⟩
 ·have eD:rmDropE M (plcP q)=rmGiveE M q.cls q.page q.idx∧rmDrop M (plcP q)=rmGive M q.cls q.page q.idx:=by
   unfold rmDropE rmDrop plcP
   exact ⟨if_pos g1,if_pos g1⟩
  rw [eD.1,eD.2]
  refine Goes.yes hTT rfl (by simpa using g1) rfl ?_
  refine Goes.loadb hTT rfl hb rfl rfl ?_
  refine Goes.loadb hTT rfl hb rfl rfl ?_
  refine Goes.loadb hTT rfl hb rfl rfl ?_
  refine Goes.call rfl (room_Give h1 q.cls q.page q.idx) ?_
  rintro _ w2 ⟨rfl,hT⟩
  refine Goes.adv hTT 400 rfl ?_
  exact Goes.ret1 hTT rfl Tryz.func148 rfl rfl ⟨rfl,RmTo.trans (fun z hz => .inl hz) hcF hT⟩
end Go.Proofs.YtnaoiegcobineaaGreatDoor
namespace Go.Proofs.YtnaoiegcobineaaGreatDoor
open Go.RowKit
theorem ShOk.note {w w':World} {S:Sh} {G:Nat→Pg} {x:Sm} {pl:PlM} (h:ShOk w S G x pl) {eb t:Nat} (hk:kd w eb=some (some t)) (hc:Chg (fun z=>z=eb) w w') (htb:0≠eb)
 (ht:t≠204∧t≠254∧t≠214∧t≠264∧t≠269∧t≠271∧t≠260∧t≠301):ShOk w' S G x pl:=by
 have d:∀ {t':Nat},t≠t'→some (some t)≠some (some t'):=fun h e=>h (Option.some.inj (Option.some.inj e))
 have kp:=h.pool.kds
 have ap:=h.at'.apart hk ht.2.2
 exact ⟨h.ok,h.pos,h.of,h.at'.chg hc (fun z e=>e▸ap.1) (fun z e=>e▸ap.2) htb,h.pool.chg hc (kd_ne kp.1 hk (Ne.symm (d ht.1))) (kd_ne kp.2 hk (Ne.symm (d ht.2.1)))⟩
theorem ShOk.own {w w':World} {S:Sh} {G:Nat→Pg} {x:Sm} {pl:PlM} (h:ShOk w S G x pl) {base m:Nat} {v:Value} {xs:List Value} (ho:Own base 153 1 w v m xs) (hc:Chg (ownS v) w w') (htb:0<base):ShOk w' S G x pl:=by
 rcases ho.2 with ⟨rfl,_⟩ | ⟨g,cap,cur,rfl,h2,h3,_⟩
 ·exact h.grow (hc.mono fun z _ e=>by cases e)
 ·exact h.note (kd_cells h3) (hc.mono fun z _ e=>Option.some.inj e) (by omega) (by decide)
def newShs (c:Conf) (n:Nat):List Sm:=(List.range n).map fun k=>newSm (k:Nat) (blocksM c (k:Nat)).toNat
def newRm (c:Conf) (tot:Int):RmM:=⟨newShs c c.classes.length,plNew c.pages.toNat,[],tot⟩
theorem newShs_get {c:Conf} {n k:Nat} {x:Sm} (h:(newShs c n)[k]? = some x):k<n∧x=newSm (k:Nat) (blocksM c (k:Nat)).toNat:=by
 unfold newShs at h
 rw [List.getElem?_map,Option.map_eq_some_iff] at h
 obtain ⟨j,hj,e⟩:=h
 obtain ⟨h1,h2⟩:=List.getElem?_eq_some_iff.1 hj
 simp only [List.length_range] at h1
 rw [List.getElem_range] at h2
 subst h2
 exact ⟨h1,e.symm⟩
theorem newShs_many (c:Conf):∀ n,shMany (newShs c n)=0
 |0=>rfl
 |n+1=>by
  have:=newShs_many c n
  unfold shMany newShs at *
  rw [List.range_succ,List.map_append,List.map_append,List.sum_append,this]
  rfl
theorem blocks_ok {c:Conf} (h:mayB c=true) {k:Nat} (hk:k<c.classes.length):1≤blocksM c k∧blocksM c k≤512:=by
 have hf:=may_facts h
 have hs:=hf.size
 have h3:classOk c.classes c.size=true:=by
  unfold mayB at h
  simp only [Bool.and_eq_true,decide_eq_true_eq] at h
  exact h.1.1.1.1.1.2
 obtain ⟨g1,_,g3⟩:=classOk_get h3 k hk
 unfold blocksM
 rw [if_pos (by omega),Int.toNat_natCast,whole_yes (by omega) (by omega)]
 constructor
 ·exact (Int.le_ediv_iff_mul_le (by omega)).2 (by omega)
 ·have h4:c.size / c.classes.getD k 0≤c.size / 8:=by
   refine Int.le_ediv_of_mul_le (by omega) ?_
   have h5:=Int.ediv_mul_le c.size (b:=c.classes.getD k 0) (by omega)
   have h6:0≤c.size / c.classes.getD k 0:=Int.ediv_nonneg (by omega) (by omega)
   have h7:c.size / c.classes.getD k 0*8≤c.size / c.classes.getD k 0*c.classes.getD k 0:=Int.mul_le_mul_of_nonneg_left g1 h6
   omega
  omega
theorem newRm_ok {c:Conf} (h:mayB c=true) {tot:Int} (ht:0≤tot∧tot≤4611686018427387904):(newRm c tot).Ok c:=by
 have hf:=may_facts h
 have hp:=hf.pages
 refine ⟨by show (newShs c _).length=_; unfold newShs; simp,fun k x hx => ?_,?_,(fun m hm=>by cases hm),List.nodup_nil,?_,ht⟩
 ·obtain ⟨hk,rfl⟩:=newShs_get hx
  have:=blocks_ok h hk
  exact ⟨rfl,by show (((blocksM c k).toNat:Nat):Int)=_; omega⟩
 ·show (((List.replicate c.pages.toNat (-1:Int)).length:Nat):Int)=_
  rw [List.length_replicate]; omega
 ·show heldM (plNew c.pages.toNat)=shMany (newShs c _)+0
  rw [newShs_many]
  exact pgUsed_new _
set_option maxRecDepth 100000 in
theorem room_New (c:Conf) (p:ConfAt) (mo:Option Nat) (tot lap:Int) (X:Nat→Prop) (w:World) (hc:ConfOk w c p) (ht:TabAt w) (hX:∀ z,X z→z<w.heap.size∧mo≠some z) (hmo:∀ b,mo=some b→MeterAt w b tot lap∧Far (fun z=>z=b) w p.ca c.classes∧Far (fun z=>z=b) w p.ka c.keep) (htot:0≤tot∧tot≤4611686018427387904) :
 Does Tryz.prog 48 #[.agg (confL c p).toArray,ptr mo] w (fun v w'=>Chg None' w w'∧if mayB c=true then ∃ F R,R.c=c∧R.p=p∧R.mo=mo∧v = .tuple #[rmV R,.int .i64 0]∧RmSt F w' R (newRm c tot)∧(∀ z,F z→w.heap.size≤z∨mo=some z)∧R.lap=lap∧R.X=X else v = .tuple #[.pointer none,.int .i64 1]):=by
 have hml:maxLen=9223372036854775807:=rfl
 refine Does.enter Tryz.func48 rfl Tryz.ntmps48 rfl rfl ?_
 refine Goes.adv hTT 400 rfl ?_
 refine Goes.alloc hTT rfl ?_
 intro cb w1 e1 hcb hw1 hz1
 refine Goes.adv hTT 400 rfl ?_
 replace hcb:w1.heap[cb]? = some (.cells (confL c p).toArray 24 (0,0)):=hcb
 refine Goes.loads hTT rfl hcb rfl rfl ?_
 refine Goes.call rfl (conf_May c p w1 (hc.chg hw1)) ?_
 rintro _ w2 ⟨rfl,hw2⟩
 refine Goes.adv hTT 400 rfl ?_
 have hcb2:=hw2.heap' hcb
 by_cases hm:mayB c=true
 ·have em:mayM c=0:=by unfold mayM; rw [if_pos hm]
  have hf:=may_facts hm
  have hfn:=hf.n
  have hfp:=hf.pages
  rw [em]
  simp only [hm,if_true]
  refine Goes.no hTT rfl rfl rfl ?_
  refine Goes.loadb hTT rfl hcb2 rfl rfl ?_
  obtain ⟨N,hN⟩:=Int.eq_ofNat_of_zero_le (show 0≤c.pages by omega)
  rw [hN]
  refine Goes.call rfl (pool_New N w2 (by omega)) ?_
  rintro _ w3 ⟨P,rfl,⟨hP1,hP2⟩,hP3,hw3⟩
  refine Goes.adv hTT 400 rfl ?_
  have hcb3:=hw3.heap' hcb2
  have hP3l:=hP3.lt
  refine Goes.loads hTT rfl hcb3 rfl rfl ?_
  refine Goes.mkmap rfl ?_
  intro lm w4 e4 hm4 hw4 hz4
  refine Goes.adv hTT 400 rfl ?_
  refine Goes.build hTT rfl rfl ?_
  refine Goes.alloc hTT rfl ?_
  intro rb w5 e5 hrb hw5 hz5
  refine Goes.adv hTT 400 rfl ?_
  replace hrb:w5.heap[rb]? = some (.cells (confL c p ++ [ptr mo,plV P,.slice none 0 0,.map (some lm)]).toArray 152 (0,0)):=hrb
  have hs1:=hw1.size
  have hs2:=hw2.size
  have hs3:=hw3.size
  have hcb5:=hw5.heap' (hw4.heap' hcb3)
  have hw05:Chg None' w w5:=(((hw1.trans hw2).trans hw3).trans hw4).trans hw5
  have hlcb:=lt_of_heap hcb
  have htlt:0<w.heap.size:=World.block_lt_of_cell? w _ (ht 0 (by decide))
  have hP5:PoolOk w5 P (plNew N):=(hP3.grow hw4).grow hw5
  refine Goes.loadb hTT rfl hcb5 rfl rfl ?_
  refine Goes.loop (α:=Nat × Value × List Sh) (fun x => [(2,false,.pointer (some ⟨cb,0,none⟩)),(7,false,plV P),(8,false,.int .i64 0),(9,false,.pointer (some ⟨rb,0,none⟩)),(32,false,.int .i64 c.classes.length),(33,false,.int .i64 x.1)])
   (fun x w'=>x.1≤c.classes.length∧x.2.2.length=x.1∧w'.heap[rb]? = some (.cells (confL c p ++ [ptr mo,plV P,x.2.1,.map (some lm)]).toArray 152 (0,0))∧Own w5.heap.size 153 1 w' x.2.1 x.1 (x.2.2.map sfV) ∧
    (∀ (k:Nat) (S:Sh),x.2.2[k]? = some S→S.P=P∧(∀ G,ShOk w' S G (newSm (k:Nat) (blocksM c (k:Nat)).toNat) (plNew N)) ∧ ∀ G z,shFoot S G [] z→w5.heap.size≤z∧z<w'.heap.size) ∧
    (∀ (j k:Nat) (S S':Sh),j<k→x.2.2[j]? = some S→x.2.2[k]? = some S' → ∀ G G' z,shFoot S G [] z → ¬ shFoot S' G' [] z)∧Chg (fun z=>z=rb) w5 w') (fun x=>c.classes.length - x.1) (0,.slice none 0 0,[]) ⟨rfl,rfl,rfl,rfl,rfl,rfl,trivial⟩ ⟨Nat.zero_le _,rfl,hrb,⟨rfl,.inl ⟨rfl,rfl⟩⟩,(fun k S h=>by cases h),(fun j k S S' _ h=>by cases h),Chg.refl _ _⟩ ?_
  rintro ⟨i,v,ls⟩ w6 ⟨hi,hll,hrb6,ho6,hsh6,hdj6,hc6⟩ ih
  simp only at hi hll hrb6 ho6 hsh6 hdj6
  have hw06:Chg None' w w6:=hw05.since hc6 (fun z hz e=>by omega)
  have hP6:PoolOk w6 P (plNew N):=hP5.chg hc6 (by omega) (by omega)
  refine Goes.adv hTT 400 rfl ?_
  refine Goes.fork hTT rfl rfl rfl (fun hlp => ?_) (fun hlp => ?_)
  ·have hlt:i<c.classes.length:=by have:=of_decide_eq_true hlp; omega
   have hbk:=blocks_ok hm hlt
   obtain ⟨bk,hbk'⟩:=Int.eq_ofNat_of_zero_le (show 0≤blocksM c i by omega)
   have hcb6:=hc6.heap hcb5 (by omega)
   refine Goes.loads hTT rfl hcb6 rfl rfl ?_
   refine Goes.call rfl (conf_Blocks c p (i:Nat) w6 (hc.chg hw06)) ?_
   rintro _ w7 ⟨rfl,hw7⟩
   refine Goes.adv hTT 400 rfl ?_
   rw [hbk']
   have hw07:=hw06.trans hw7
   refine Goes.call rfl (shelf_New P (plNew N) (i:Nat) bk w7 (ht.grow hw07) (by omega) (by omega) (hP6.grow hw7)) ?_
   rintro _ w8 ⟨S,hSP,rfl,hSf,hS,hw8⟩
   refine Goes.adv hTT 400 rfl ?_
   have hw68:=hw7.trans hw8
   have hrb8:=hw68.heap' hrb6
   refine Goes.loadb hTT rfl hrb8 rfl rfl ?_
   refine Goes.buildSlice hTT rfl ?_
   intro b9 w9 e9 hb9 hw9 hz9
   refine Goes.adv hTT 400 rfl ?_
   have hw69:=hw68.trans hw9
   have hrb9:=hw69.heap' hrb6
   have ho9:=ho6.chg hw69 (fun _ _ h=>h)
   have hs56:=hc6.size
   have hs69:=hw69.size
   refine Goes.append (base:=w5.heap.size) (xs:=ls.map sfV) (news := [sfV S]) hTT rfl ho9 (by omega) (by simp) (cells1 hb9) (by simp [Value.oneCell']) ⟨by omega,by show (i+1)*8≤_; omega⟩ ?_
   intro v' w10 ho10 hs10 hv10
   refine Goes.adv hTT 400 rfl ?_
   have hrb5l:=lt_of_heap hrb
   have hrbo:¬ ownS v rb:=fun e=>by have:=(World.ownsRow.lt ho9 _ e.symm).1; omega
   have hrb10:=hs10.heap hrb9 hrbo
   obtain ⟨g',cap',cur',rfl,_⟩:=ho10.form (by omega)
   refine Goes.store hTT rfl hrb10 rfl rfl ?_
   intro w11 hrb11 hs11 hz11
   refine Goes.adv hTT 400 rfl ?_
   replace hrb11:w11.heap[rb]? = some (.cells (confL c p ++ [ptr mo,plV P,.slice (some ⟨g',0,none⟩) (i+1) cap',.map (some lm)]).toArray 152 (0,0)):=hrb11
   refine Goes.arith hTT rfl (w64 (by omega)) rfl ?_
   have hkrb:=kd_cells hrb10
   have hsz10:=hs10.size
   have hup:∀ {S':Sh} {G:Nat→Pg} {x:Sm} {pl:PlM},ShOk w9 S' G x pl→ShOk w11 S' G x pl:=fun h=>(h.own ho9 hs10 (by have:=hw05.size; omega)).note hkrb hs11 (by have:=hw05.size; omega) (by decide)
   have hc511:Chg (fun z=>z=rb) w5 w11:=((hc6.trans (hw69.mono fun _ _ h=>h.elim)).since hs10 (fun z hz e=>by have:=(World.ownsRow.lt ho9 _ e.symm).1; omega)).trans hs11
   have hsz8:=hw8.size
   have hsz7:=hw7.size
   have hsz9:=hw9.size
   have hSlt:=fun G=>(hS G).foot_lt
   exact ih (i+1,.slice (some ⟨g',0,none⟩) (i+1) cap',ls ++ [S]) _ _ ⟨hlt,by simp [hll],hrb11,by
    have:=ho10.chg hs11 (fun z hz e=>by
     subst e
     have:=(World.ownsRow.lt ho10 _ hz.symm).1; omega)
    simpa using this,fun k S' hk=>by
    by_cases e:k<ls.length
    ·rw [List.getElem?_append_left e] at hk
     obtain ⟨a1,a2,a3⟩:=hsh6 k S' hk
     exact ⟨a1,fun G=>hup ((a2 G).grow hw69),fun G z hz=>by obtain ⟨b1,b2⟩:=a3 G z hz; exact ⟨b1,by omega⟩⟩
    ·rw [List.getElem?_append_right (by omega)] at hk
     have e2:k=ls.length:=by
      have:=(List.getElem?_eq_some_iff.1 hk).1
      simp only [List.length_singleton] at this
      omega
     subst e2
     simp only [Nat.sub_self,List.getElem?_cons_zero,Option.some.injEq] at hk
     subst hk
     refine ⟨hSP,fun G=>hup ?_,fun G z hz => ?_⟩
     ·rw [hll,hbk',Int.toNat_natCast]; exact (hS G).grow hw9
     ·have g1:=hSf G z hz
      have g2:=hSlt G z (.inl hz)
      exact ⟨by omega,by omega⟩,fun j k S1 S2 hjk h1 h2 G G' z hz=>by
    by_cases e:k<ls.length
    ·rw [List.getElem?_append_left e] at h2
     rw [List.getElem?_append_left (by omega)] at h1
     exact hdj6 j k S1 S2 hjk h1 h2 G G' z hz
    ·rw [List.getElem?_append_right (by omega)] at h2
     have e2:k=ls.length:=by
      have:=(List.getElem?_eq_some_iff.1 h2).1
      simp only [List.length_singleton] at this
      omega
     subst e2
     simp only [Nat.sub_self,List.getElem?_cons_zero,Option.some.injEq] at h2
     subst h2
     rw [List.getElem?_append_left hjk] at h1
     have g1:=((hsh6 j S1 h1).2.2 G z hz).2
     exact fun hz'=>by have:=hSf G' z hz'; omega,hc511⟩ (by simp only; omega) ⟨rfl,rfl,rfl,rfl,rfl,rfl,trivial⟩
  ·have hge:i=c.classes.length:=by have:=of_decide_eq_false hlp; omega
   subst hge
   obtain ⟨g,cap,cur,rfl,hg1,hg2,_⟩:=ho6.form (by omega)
   have hcells:=World.ownsRow.cells ho6 (g:=g) rfl
   have hkg:=kd_cells hg2
   have hlg:=lt_of_heap hg2
   have hrbl:=lt_of_heap hrb
   have hs36:=hc6.size
   let G0:Nat→Pg:=fun _=>⟨0,0,0⟩
   let R:Rm:=⟨rb,c,p,mo,P,g,cap,lm,fun k=>ls.getD k ⟨0,0,⟨0,0,0⟩,P⟩,lap,X⟩
   let F:Nat→Prop:=fun z=>(∃ (k:Nat) (S:Sh),ls[k]? = some S∧shFoot S G0 [] z)∨plFoot P z∨z=lm∨mo=some z
   have hFlow:∀ z,F z→(w.heap.size≤z∧z<w6.heap.size)∨mo=some z:=fun z hz=>by
    rcases hz with ⟨k,S,hS,hz⟩ | hz | hz | hz
    ·obtain ⟨b1,b2⟩:=(hsh6 k S hS).2.2 G0 z hz
     exact .inl ⟨by omega,b2⟩
    ·rcases hz with e | e <;> exact .inl ⟨by omega,by omega⟩
    ·exact .inl ⟨by omega,by omega⟩
    ·exact .inr hz
   have hmlt:∀ b,mo=some b→b<w.heap.size:=fun b hb=>by
    obtain ⟨hm,_⟩:=hmo b hb
    exact lt_of_heap hm.1
   have hfar:∀ {a:Option Addr} {l:List Int},Rd .i64 w a l→(∀ b,mo=some b→Far (fun z=>z=b) w a l)→Far F w6 a l:=fun {a l} hr hb=>⟨hr.chg hw06,fun hl b off s e hz=>by
    have hlt:=hr.block hl e
    rcases hFlow b hz with ⟨h,_⟩ | h
    ·omega
    ·exact (hb b h).2 hl b off s e rfl⟩
   have hRS:∀ (k:Nat) (S:Sh),ls[k]? = some S→R.S k=S:=fun k S h=>by
    show ls.getD k _=S
    rw [List.getD_eq_getElem?_getD,h]; rfl
   have hget:∀ (k:Nat),k<c.classes.length → ∃ S,ls[k]? = some S:=fun k hk=>⟨_,List.getElem?_eq_getElem (by omega)⟩
   have hnl:(newShs c c.classes.length).length=c.classes.length:=by unfold newShs; simp
   exact Goes.ret2 hTT rfl Tryz.func48 rfl rfl rfl ⟨hw06,F,R,rfl,rfl,rfl,rfl,⟨newRm_ok hm htot,by show w6.heap[rb]? = some (.cells (rmL R (newShs c c.classes.length).length).toArray _ _); rw [hnl]; exact hrb6,hfar hc.classes (fun b hb=>(hmo b hb).2.1),hfar hc.keep (fun b hb=>(hmo b hb).2.2),hm,
    fun b hb=>⟨.inr (.inr (.inr hb)),by obtain ⟨h,_⟩:=hmo b hb; exact h.chg hw06⟩,fun k hk=>by
     replace hk:k<(newShs c c.classes.length).length:=hk
     rw [hnl] at hk
     obtain ⟨S,hS⟩:=hget k hk
     have:=hcells k (sfV S) (by rw [List.getElem?_map,hS]; rfl)
     rw [add_off] at this
     rw [hRS k S hS]
     simpa using this,by show PoolOk w6 P (plNew c.pages.toNat); rw [hN,Int.toNat_natCast]; exact hP6,fun z hz => .inr (.inl hz),⟨fun _=>G0,fun k x hx=>by
     obtain ⟨hk,rfl⟩:=newShs_get hx
     obtain ⟨S,hS⟩:=hget k hk
     obtain ⟨a1,a2,a3⟩:=hsh6 k S hS
     rw [hRS k S hS]
     refine ⟨a1,by show ShOk w6 S G0 _ (plNew c.pages.toNat); rw [hN,Int.toNat_natCast]; exact a2 G0,fun z hz=>⟨.inl ⟨k,S,hS,hz⟩,fun e => ?_⟩⟩
     have:=(a3 G0 z hz).1
     have e':z=lm:=e
     omega,fun j k x y hjk hx hy z hz hz'=>by
     obtain ⟨hj,rfl⟩:=newShs_get hx
     obtain ⟨hk,rfl⟩:=newShs_get hy
     obtain ⟨S,hS⟩:=hget j hj
     obtain ⟨S',hS'⟩:=hget k hk
     rw [hRS j S hS] at hz
     rw [hRS k S' hS'] at hz'
     rcases Nat.lt_or_gt_of_ne hjk with h | h
     ·exact hdj6 j k S S' h hS hS' G0 G0 z hz hz'
     ·exact hdj6 k j S' S h hS' hS G0 G0 z hz' hz⟩,⟨[],(hm4.chg hw5 id).chg hc6 (by omega),List.nodup_nil,(fun e he=>by cases he),fun _ _=>rfl⟩,.inr (.inr (.inl rfl)),fun hz=>by
     rcases hz with ⟨k,S,hS,hz⟩ | hz | hz | hz
     ·have:=((hsh6 k S hS).2.2 G0 _ hz).1
      replace this:w5.heap.size≤rb:=this
      omega
     ·rcases hz with e | e
      ·replace e:rb=P.pb:=e; omega
      ·replace e:rb=P.ab:=e; omega
     ·replace hz:rb=lm:=hz; omega
     ·have:=hmlt _ hz
      replace this:rb<w.heap.size:=this
      omega,fun hz=>by
     rcases hz with ⟨k,S,hS,hz⟩ | hz | hz | hz
     ·have ap:=((hsh6 k S hS).2.1 G0).at'.apart hkg (by decide)
      rcases hz with e | e | e | ⟨e,he,_⟩
      ·exact ap.1.1 e
      ·exact ap.1.2.1 e
      ·exact ap.1.2.2.2 e
      ·cases he
     ·rcases hz with e | e
      ·replace e:g=P.pb:=e; omega
      ·replace e:g=P.ab:=e; omega
     ·replace hz:g=lm:=hz; omega
     ·have:=hmlt _ hz
      replace this:g<w.heap.size:=this
      omega,fun z hz=>by
     rcases hFlow z hz with ⟨_,h⟩ | h
     ·exact h
     ·have:=hmlt z h; have:=hw06.size; omega,ht.grow hw06,fun hz=>by
     rcases hFlow _ hz with ⟨h,_⟩ | h
     ·omega
     ·obtain ⟨hm1,_⟩:=hmo _ h
      exact tab_ne ht (fun v e=>by rw [cell_of hm1.1] at e; simp at e) rfl,fun z hz=>⟨by have:=(hX z hz).1; have:=hw06.size; omega,fun hz'=>by
     rcases hFlow z hz' with ⟨h,_⟩ | h
     ·have:=(hX z hz).1; omega
     ·exact (hX z hz).2 h⟩⟩,fun z hz=>(hFlow z hz).imp (·.1) id,rfl,rfl⟩
 ·have em:mayM c=1:=by unfold mayM; rw [if_neg hm]
  rw [em]
  simp only [hm]
  refine Goes.yes hTT rfl rfl rfl ?_
  exact Goes.ret2 hTT rfl Tryz.func48 rfl rfl rfl ⟨hw1.trans hw2,rfl⟩
end Go.Proofs.YtnaoiegcobineaaGreatDoor
namespace Go.Proofs.YtnaoiegcobineaaGreatDoor
open Go.RowKit
section
variable {α:Type} {cells:α→List Value} {sz:Nat}
def fl (cells:α→List Value) (xs:List α):List Value:=xs.flatMap cells
theorem fl_nil:fl cells [] = []:=rfl
theorem fl_append (xs ys:List α):fl cells (xs++ys)=fl cells xs++fl cells ys:=by unfold fl; rw [List.flatMap_append]
theorem fl_one (x:α):fl cells [x]=cells x:=by unfold fl; simp
theorem fl_length (hl:∀ x,(cells x).length=sz):∀ xs:List α,(fl cells xs).length=xs.length*sz
 |[]=>by simp [fl]
 |x::r=>by
  have:=fl_length hl r
  unfold fl at *
  rw [List.flatMap_cons,List.length_append,this,hl,List.length_cons,Nat.succ_mul]
  omega
theorem fl_get (hl:∀ x,(cells x).length=sz) {j:Nat} (hj:j<sz):∀ (xs:List α) (i:Nat) (x:α),xs[i]? = some x→(fl cells xs)[i*sz+j]? = (cells x)[j]?
 |[],i,x,h=>by simp at h
 |y::r,0,x,h=>by
  cases h
  unfold fl
  rw [List.flatMap_cons,Nat.zero_mul,Nat.zero_add,List.getElem?_append_left (by rw [hl]; exact hj)]
 |y::r,i+1,x,h=>by
  have:=fl_get hl hj r i x h
  unfold fl at *
  rw [List.flatMap_cons,List.getElem?_append_right (by rw [hl,Nat.succ_mul]; omega),hl,← this]
  congr 1
  rw [Nat.succ_mul]; omega
theorem Rows.news {w:World} {a:Option Addr} {xs:List α} (h:Rows cells sz w a xs) (hl:∀ x,(cells x).length=sz) (hz:0<sz):∀ i u,(fl cells xs)[i]? = some u → ∃ a',a=some a'∧w.cell? (a'.add i)=some u:=fun i u hu=>by
 have hi:i<xs.length*sz:=by rw [← fl_length hl]; exact (List.getElem?_eq_some_iff.1 hu).1
 have hq:i / sz<xs.length:=(Nat.div_lt_iff_lt_mul hz).2 hi
 have hr:i % sz<sz:=Nat.mod_lt _ hz
 have e:i / sz*sz+i % sz=i:=by rw [Nat.mul_comm]; exact Nat.div_add_mod i sz
 obtain ⟨b,off,rfl,hc⟩:=h (i / sz) xs[i / sz] (List.getElem?_eq_getElem hq)
 have hg:=fl_get hl hr xs (i / sz) xs[i / sz] (List.getElem?_eq_getElem hq)
 rw [e,hu] at hg
 refine ⟨_,rfl,?_⟩
 rw [add_off]
 have:=hc (i % sz) u hg.symm
 rw [Nat.add_assoc,e] at this
 exact this
theorem Rows.noneA {w:World} {a:Option Addr} {xs:List α} (h:Rows cells sz w a xs):a=none→xs.length=0:=fun e=>by
 cases xs with
 |nil=>rfl
 |cons l r =>
  obtain ⟨b,off,e',_⟩:=h 0 l rfl
  rw [e] at e'; cases e'
theorem fl_plain (hp:∀ x,∀ u ∈ cells x,u.oneCell'=true) (xs:List α):∀ u ∈ fl cells xs,u.oneCell'=true:=fun u hu=>by
 unfold fl at hu
 obtain ⟨x,_,h⟩:=List.mem_flatMap.1 hu
 exact hp x u h
theorem rows_at {w:World} {g t:Nat} {fz:Nat × Nat} {xs:List α} {rest:List Value} (h:w.heap[g]? = some (.cells (fl cells xs++rest).toArray t fz)) (hl:∀ x,(cells x).length=sz):Rows cells sz w (some ⟨g,0,none⟩) xs:=fun i x hx=>by
 refine ⟨g,0,rfl,fun j v hv => ?_⟩
 have hj:j<sz:=by have:=(List.getElem?_eq_some_iff.1 hv).1; rw [hl] at this; exact this
 have hi:=(List.getElem?_eq_some_iff.1 hx).1
 rw [cell_of h,Nat.zero_add,List.getElem?_toArray,List.getElem?_append_left,fl_get hl hj xs i x hx]
 ·exact hv
 ·rw [fl_length hl]
  have:(i+1)*sz≤xs.length*sz:=Nat.mul_le_mul_right _ hi
  rw [Nat.succ_mul] at this
  omega
theorem Own.rowsN {base t n:Nat} {w:World} {v:Value} {xs:List α} (h:Own base t sz w v n (fl cells xs)) (hl:∀ x,(cells x).length=sz) (hn:xs.length=n) :
 ∃ a cap,v = .slice a xs.length cap∧Rows cells sz w a xs∧ALt w a∧xs.length≤cap ∧ ∀ b off s,a=some ⟨b,off,s⟩→base≤b:=by
 rcases h.2 with ⟨rfl,h2⟩ | ⟨g,cap,cur,rfl,hg,hh,hcap,hm2,_,hx2⟩
 ·have:xs = []:=List.length_eq_zero_iff.1 (by omega)
  subst this
  exact ⟨none,0,rfl,(fun i l hl=>by simp at hl),(by intro b off s e; cases e),Nat.le_refl _,(by intro b off s e; cases e)⟩
 ·subst hn
  refine ⟨some ⟨g,0,none⟩,cap,rfl,rows_at (rest:=cur.toList.drop (xs.length*sz)) (t:=t) (fz:=(0,0)) ?_ hl,(by intro b off s e; cases e; exact lt_of_heap hh),hcap,(by intro b off s e; cases e; exact hg)⟩
  rw [hh,← hx2,List.take_append_drop]
theorem setV_mid:∀ (A old vs B:List Value),old.length=vs.length→setV (A++(old++B)) A.length vs=some (A++(vs++B))
 |[],[],[],B,_=>by cases B <;> rfl
 |[],o::old,v::vs,B,h=>by
  have:=setV_mid [] old vs B (by simpa using h)
  simp only [List.nil_append,List.length_nil] at this
  show setV (o::(old++B)) 0 (v::vs)=_
  unfold setV
  rw [this]; rfl
 |x::A,old,vs,B,h=>by
  have:=setV_mid A old vs B h
  show setV (x::(A++(old++B))) (A.length+1) vs=_
  unfold setV
  rw [this]; rfl
theorem fl_set (hl:∀ x,(cells x).length=sz) {xs:List α} {k:Nat} {y:α} {rest:List Value} (hk:k<xs.length):setV (fl cells xs++rest) (0+k*sz) (cells y)=some (fl cells (xs.set k y)++rest):=by
 have e1:xs=xs.take k++(xs[k]::xs.drop (k+1)):=by rw [← List.drop_eq_getElem_cons hk,List.take_append_drop]
 have e2:xs.set k y=xs.take k++(y::xs.drop (k+1)):=List.set_eq_take_append_cons_drop.trans (if_pos hk)
 have l1:(fl cells (xs.take k)).length=0+k*sz:=by rw [fl_length hl,List.length_take,Nat.min_eq_left (by omega),Nat.zero_add]
 have f1:∀ z,fl cells (xs.take k++(z::xs.drop (k+1)))++rest=fl cells (xs.take k)++(cells z++(fl cells (xs.drop (k+1))++rest)):=fun z=>by
  rw [fl_append]
  unfold fl
  rw [List.flatMap_cons]
  simp only [List.append_assoc]
 rw [e2,f1 y,← l1]
 conv=>lhs; rw [e1,f1 xs[k]]
 rw [show (xs.take k++xs[k]::xs.drop (k+1)).take k=xs.take k from by rw [← e1]]
 exact setV_mid _ _ _ _ (by rw [hl,hl])
end
end Go.Proofs.YtnaoiegcobineaaGreatDoor
namespace Go.Proofs.YtnaoiegcobineaaGreatDoor
open Go.RowKit
structure RR where
 c:Conf
 cp:ConfAt
 p:RP
 ss:List RS
 sa:Option Addr
 scap:Nat
 lg:List Plc
 la:Option Addr
 lcap:Nat
 steps:Int
def rrL (r:RR):List Value:=confL r.c r.cp ++ [ilV r.p.o,ilV r.p.f,.slice r.sa r.ss.length r.scap,.slice r.la r.lg.length r.lcap,.int .i64 r.steps]
def lgP (e:Nat × List Nat):PlcM:=⟨-1,(e.1:Nat),0,natsI e.2⟩
structure MOk (M:RmM):Prop where
 sh:∀ (k:Nat) (x:Sm),M.shs[k]? = some x→x.Ok∧x.Of M.pl
 good:M.pl.Good
theorem RmSt.mok {F:Nat→Prop} {w:World} {R:Rm} {M:RmM} (h:RmSt F w R M):MOk M:=⟨fun k x hx=>by
 obtain ⟨G,_,hS,_⟩:=h.shelf hx
 exact ⟨hS.ok,hS.of⟩,h.pool.good⟩
structure RrOk (w:World) (r:RR) (M:RmM):Prop where
 p:RpOk w r.p M.pl
 sr:Rows rsL 7 w r.sa r.ss
 sl:ALt w r.sa
 sc:r.ss.length≤r.scap
 n:r.ss.length=M.shs.length
 few:r.ss.length≤16
 each:∀ (k:Nat) (s:RS) (x:Sm),r.ss[k]? = some s→M.shs[k]? = some x → ∃ pk,RsOk w s x pk∧x.Of pk
 lr:Rows plcL 4 w r.la r.lg
 ll:ALt w r.la
 lc:r.lg.length≤r.lcap
 lm:r.lg.length≤1024
 lge:r.lg.map plcP=M.lg.map lgP
 lgo:∀ q ∈ r.lg,PlcOk w q∧ALt w q.pa
 st:r.steps=M.tot
structure RrOut (S:Nat→Prop) (r:RR):Prop where
 o:OutA S r.p.o.a
 f:OutA S r.p.f.a
 sa:OutA S r.sa
 each:∀ s ∈ r.ss,RsOut S s
 la:OutA S r.la
 lgo:∀ q ∈ r.lg,OutA S q.pa
theorem Rows.far {α:Type} {cells:α→List Value} {sz:Nat} {w w':World} {a:Option Addr} {xs:List α} {S:Nat→Prop} (h:Rows cells sz w a xs) (hs:OutA S a) (hc:Chg S w w'):Rows cells sz w' a xs:=fun i x hx=>by
 obtain ⟨b,off,e,hcell⟩:=h i x hx
 exact ⟨b,off,e,fun j v hv=>hc.cell (hcell j v hv) (hs b off _ e)⟩
theorem RrOk.grow {w w':World} {r:RR} {M:RmM} (h:RrOk w r M) (hc:Chg None' w w'):RrOk w' r M :=
 ⟨h.p.grow hc,h.sr.chg hc,h.sl.grow hc.size,h.sc,h.n,h.few,fun k s x h1 h2=>by obtain ⟨pk,a,b⟩:=h.each k s x h1 h2; exact ⟨pk,a.grow hc,b⟩,h.lr.chg hc,h.ll.grow hc.size,h.lc,h.lm,h.lge,fun q hq=>⟨(h.lgo q hq).1.grow hc,(h.lgo q hq).2.grow hc.size⟩,h.st⟩
theorem RrOk.far {w w':World} {r:RR} {M:RmM} {S:Nat→Prop} (h:RrOk w r M) (ho:RrOut S r) (hc:Chg S w w'):RrOk w' r M :=
 ⟨⟨h.p.o.far ho.o hc,h.p.f.far ho.f hc,h.p.eo,h.p.ef⟩,h.sr.far ho.sa hc,h.sl.grow hc.size,h.sc,h.n,h.few,fun k s x h1 h2=>by obtain ⟨pk,a,b⟩:=h.each k s x h1 h2; exact ⟨pk,a.far (ho.each s (List.mem_of_getElem? h1)) hc,b⟩,h.lr.far ho.la hc,h.ll.grow hc.size,h.lc,h.lm,h.lge,fun q hq=>⟨⟨(h.lgo q hq).1.rd.far (ho.lgo q hq) hc,(h.lgo q hq).1.len⟩,(h.lgo q hq).2.grow hc.size⟩,h.st⟩
theorem RrOk.out {w:World} {r:RR} {M:RmM} {S:Nat→Prop} (h:RrOk w r M) (hs:∀ z,S z→w.heap.size≤z):RrOut S r :=
 ⟨h.p.o.lt.out hs,h.p.f.lt.out hs,h.sl.out hs,fun s hm=>by
  obtain ⟨k,hk,rfl⟩:=List.getElem_of_mem hm
  obtain ⟨pk,a,_⟩:=h.each k _ _ (List.getElem?_eq_getElem hk) (List.getElem?_eq_getElem (by rw [← h.n]; exact hk))
  exact a.out hs,h.ll.out hs,fun q hq=>(h.lgo q hq).2.out hs⟩
theorem RrOut.mono {S S':Nat→Prop} {r:RR} (h:RrOut S r) (hs:∀ z,S' z→S z):RrOut S' r :=
 ⟨h.o.mono hs,h.f.mono hs,h.sa.mono hs,fun s hm=>⟨(h.each s hm).o.mono hs,(h.each s hm).f.mono hs,(h.each s hm).nums.mono hs,(h.each s hm).opn.mono hs,(h.each s hm).pa.mono hs,fun l hl=>((h.each s hm).each l hl).mono hs⟩,h.la.mono hs,fun q hq=>(h.lgo q hq).mono hs⟩
def RKeep (w:World) (r r':RR):Prop:=r'.c=r.c∧r'.cp=r.cp ∧ ∀ S:Nat→Prop,(∀ z,S z→z<w.heap.size)→RrOut S r→RrOut S r'
theorem RKeep.refl (w:World) (r:RR):RKeep w r r:=⟨rfl,rfl,fun _ _ h=>h⟩
theorem RKeep.trans {w w1:World} {r r1 r2:RR} (h:RKeep w r r1) (h':RKeep w1 r1 r2) (hs:w.heap.size≤w1.heap.size):RKeep w r r2:=⟨h'.1.trans h.1,h'.2.1.trans h.2.1,fun S hS ho =>
 h'.2.2 S (fun z hz=>by have:=hS z hz; omega) (h.2.2 S hS ho)⟩
abbrev rrBox (w:World) (b:Nat) (r:RR):Prop:=w.heap[b]? = some (.cells (rrL r).toArray 44 (0,0))
end Go.Proofs.YtnaoiegcobineaaGreatDoor
namespace Go.Proofs.YtnaoiegcobineaaGreatDoor
open Go.RowKit
theorem rsL_len (s:RS):(rsL s).length=7:=rfl
theorem rsL_plain (s:RS):∀ u ∈ rsL s,u.oneCell'=true:=fun u hu=>by
 simp only [rsL,List.mem_cons,List.mem_nil_iff,or_false] at hu
 rcases hu with rfl | rfl | rfl | rfl | rfl | rfl | rfl <;> rfl
end Go.Proofs.YtnaoiegcobineaaGreatDoor
