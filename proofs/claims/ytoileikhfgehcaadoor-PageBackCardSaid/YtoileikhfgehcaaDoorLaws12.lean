/-
  Layer 12: an act on a page; the statements' own functions.
-/
import Derived.Test.YtoileikhfgehcaaDoorRef12
import Derived.Test.YtoileikhfgehcaaDoorLaws11b
namespace Go.Proofs.YtoileikhfgehcaaDoor
open Go.RowKit

structure Act12 where
  kind : Int
  at' : Int
  who : Int
def act12L (u : Act12) : List Value := [.int .u8 u.kind, .int .i64 u.at', .int .i64 u.who]
def do12S (x : List Int) (u : Act12) : List Int := if u.kind % 3 = 0 then pgTake x u.who else if u.kind % 3 = 1 then pgGive x u.at' else pgOwnS x u.at' u.who
def do12A (x : List Int) (u : Act12) : Int := if u.kind % 3 = 0 then pgTakeA x u.who else 0
def do12E (x : List Int) (u : Act12) : Int := if u.kind % 3 = 0 then pgTakeE x u.who else if u.kind % 3 = 1 then pgGiveE x u.at' else pgOwnE x u.at' u.who
theorem chg_foot {w w1 w' : World} {S : Nat → Prop} (h0 : Chg None' w w1) (h : Chg S w1 w') : Chg S w w' := (h0.mono fun _ _ h => h.elim).trans h
theorem law12_do (g : Pg) (x : List Int) (u : Act12) (w : World) (h : PageOk w g x) (hk : 0 ≤ u.kind ∧ u.kind < 256) : Does Tryd.prog 33 #[pgV g, .agg (act12L u).toArray] w
    (fun v w' => v = .tuple #[.int .i64 (do12A x u), .int .i64 (do12E x u)] ∧ PageOk w' g (do12S x u) ∧ Chg (pgFoot g) w w') := by
  refine Does.enter Tryd.func33 rfl Tryd.ntmps33 rfl rfl ?_
  refine Goes.adv hTT 400 rfl ?_
  refine Goes.alloc hTT rfl ?_
  intro ub w1 e1 hub hw1 hz1
  refine Goes.adv hTT 400 rfl ?_
  have h1 := h.grow hw1
  obtain ⟨kind, at', who⟩ := u
  simp only at hk
  replace hub : w1.heap[ub]? = some (.cells ([.int .u8 kind, .int .i64 at', .int .i64 who] : List Value).toArray 55 (0, 0)) := hub
  refine Goes.loadb hTT rfl hub rfl rfl ?_
  refine Goes.div hTT rfl (by omega) (rem_ (by omega)) rfl ?_
  refine Goes.fork hTT rfl rfl rfl (fun h0 => ?_) (fun h0 => ?_)
  · have g0 : kind % 3 = 0 := by simpa using h0
    have hs : do12S x ⟨kind, at', who⟩ = pgTake x who := if_pos g0
    have ha : do12A x ⟨kind, at', who⟩ = pgTakeA x who := if_pos g0
    have he : do12E x ⟨kind, at', who⟩ = pgTakeE x who := if_pos g0
    rw [hs, ha, he]
    refine Goes.loadb hTT rfl hub rfl rfl ?_
    refine Goes.call rfl (page_Take g x who w1 h1) ?_
    rintro _ w2 ⟨rfl, h2, hs2⟩
    refine Goes.adv hTT 400 rfl ?_
    exact Goes.ret2 hTT rfl Tryd.func33 rfl rfl rfl ⟨rfl, h2, chg_foot hw1 hs2⟩
  have g0 : ¬ kind % 3 = 0 := by simpa using h0
  have ha : do12A x ⟨kind, at', who⟩ = 0 := if_neg g0
  refine Goes.fork hTT rfl rfl rfl (fun h0' => ?_) (fun h0' => ?_)
  · have g1 : kind % 3 = 1 := by simpa using h0'
    have hs : do12S x ⟨kind, at', who⟩ = pgGive x at' := (if_neg g0).trans (if_pos g1)
    have he : do12E x ⟨kind, at', who⟩ = pgGiveE x at' := (if_neg g0).trans (if_pos g1)
    rw [hs, ha, he]
    refine Goes.loadb hTT rfl hub rfl rfl ?_
    refine Goes.call rfl (page_Give g x at' w1 h1) ?_
    rintro _ w2 ⟨rfl, h2, hs2⟩
    refine Goes.adv hTT 400 rfl ?_
    exact Goes.ret2 hTT rfl Tryd.func33 rfl rfl rfl ⟨rfl, h2, chg_foot hw1 hs2⟩
  · have g1 : ¬ kind % 3 = 1 := by simpa using h0'
    have hs : do12S x ⟨kind, at', who⟩ = pgOwnS x at' who := (if_neg g0).trans (if_neg g1)
    have he : do12E x ⟨kind, at', who⟩ = pgOwnE x at' who := (if_neg g0).trans (if_neg g1)
    rw [hs, ha, he]
    refine Goes.loadb hTT rfl hub rfl rfl ?_
    refine Goes.loadb hTT rfl hub rfl rfl ?_
    refine Goes.call rfl (page_Own g x at' who w1 h1) ?_
    rintro _ w2 ⟨rfl, h2, hs2⟩
    refine Goes.adv hTT 400 rfl ?_
    exact Goes.ret2 hTT rfl Tryd.func33 rfl rfl rfl ⟨rfl, h2, chg_foot hw1 hs2⟩
theorem ref12_Do (l : IL) (u : Act12) (w : World) (h : IlOk w l) (hk : 0 ≤ u.kind ∧ u.kind < 256) : Does Tryd.prog 34 #[ilV l, .agg (act12L u).toArray] w
    (fun v w' => ∃ l' : IL, v = .tuple #[ilV l', .int .i64 (do12A l.x u), .int .i64 (do12E l.x u)] ∧ l'.x = do12S l.x u ∧ IlOk w' l' ∧ Chg None' w w' ∧ Newer w l.a l'.a) := by
  refine Does.enter Tryd.func34 rfl Tryd.ntmps34 rfl rfl ?_
  refine Goes.adv hTT 400 rfl ?_
  refine Goes.alloc hTT rfl ?_
  intro ub w1 e1 hub hw1 hz1
  refine Goes.adv hTT 400 rfl ?_
  have h1 := h.grow hw1
  obtain ⟨kind, at', who⟩ := u
  simp only at hk
  have hback : ∀ {l' : IL}, Newer w1 l.a l'.a → Newer w l.a l'.a := fun hn => hn.imp id fun ⟨g, off, e, hg⟩ => ⟨g, off, e, Nat.le_trans hw1.size hg⟩
  replace hub : w1.heap[ub]? = some (.cells ([.int .u8 kind, .int .i64 at', .int .i64 who] : List Value).toArray 55 (0, 0)) := hub
  refine Goes.loadb hTT rfl hub rfl rfl ?_
  refine Goes.div hTT rfl (by omega) (rem_ (by omega)) rfl ?_
  refine Goes.fork hTT rfl rfl rfl (fun h0 => ?_) (fun h0 => ?_)
  · have g0 : kind % 3 = 0 := by simpa using h0
    have hs : do12S l.x ⟨kind, at', who⟩ = pgTake l.x who := if_pos g0
    have ha : do12A l.x ⟨kind, at', who⟩ = pgTakeA l.x who := if_pos g0
    have he : do12E l.x ⟨kind, at', who⟩ = pgTakeE l.x who := if_pos g0
    rw [hs, ha, he]
    refine Goes.loadb hTT rfl hub rfl rfl ?_
    refine Goes.call rfl (ref12_Take l who w1 h1) ?_
    rintro _ w2 ⟨l', rfl, hx, hl, hw2, hn⟩
    refine Goes.adv hTT 400 rfl ?_
    exact Goes.ret hTT rfl Tryd.func34 (.tmp rfl (.tmp rfl (.tmp rfl .nil))) ⟨l', rfl, hx, hl, hw1.trans hw2, hback hn⟩
  have g0 : ¬ kind % 3 = 0 := by simpa using h0
  have ha : do12A l.x ⟨kind, at', who⟩ = 0 := if_neg g0
  refine Goes.fork hTT rfl rfl rfl (fun h0' => ?_) (fun h0' => ?_)
  · have g1 : kind % 3 = 1 := by simpa using h0'
    have hs : do12S l.x ⟨kind, at', who⟩ = pgGive l.x at' := (if_neg g0).trans (if_pos g1)
    have he : do12E l.x ⟨kind, at', who⟩ = pgGiveE l.x at' := (if_neg g0).trans (if_pos g1)
    rw [hs, ha, he]
    refine Goes.loadb hTT rfl hub rfl rfl ?_
    refine Goes.call rfl (ref12_Give l at' w1 h1) ?_
    rintro _ w2 ⟨l', rfl, hx, hl, hw2, hn⟩
    refine Goes.adv hTT 400 rfl ?_
    exact Goes.ret hTT rfl Tryd.func34 (.tmp rfl (.tmp rfl (.tmp rfl .nil))) ⟨l', rfl, hx, hl, hw1.trans hw2, hback hn⟩
  · have g1 : ¬ kind % 3 = 1 := by simpa using h0'
    have hs : do12S l.x ⟨kind, at', who⟩ = pgOwnS l.x at' who := (if_neg g0).trans (if_neg g1)
    have he : do12E l.x ⟨kind, at', who⟩ = pgOwnE l.x at' who := (if_neg g0).trans (if_neg g1)
    rw [hs, ha, he]
    refine Goes.loadb hTT rfl hub rfl rfl ?_
    refine Goes.loadb hTT rfl hub rfl rfl ?_
    refine Goes.call rfl (ref12_Own l at' who w1 h1) ?_
    rintro _ w2 ⟨l', rfl, hx, hl, hw2, hn⟩
    refine Goes.adv hTT 400 rfl ?_
    exact Goes.ret hTT rfl Tryd.func34 (.tmp rfl (.tmp rfl (.tmp rfl .nil))) ⟨l', rfl, hx, hl, hw1.trans hw2, hback hn⟩
theorem law12_same (g : Pg) (x : List Int) (l : IL) (w : World) (h : PageOk w g x) (hl : IlOk w l) (hx : l.x = x) : Does Tryd.prog 35 #[pgV g, ilV l] w (Grow (.bool true) w) := by
  subst hx
  have hlen := hl.len
  refine Does.enter Tryd.func35 rfl Tryd.ntmps35 rfl rfl ?_
  refine Goes.adv hTT 400 rfl ?_
  refine Goes.loop (α := Nat) (fun k => [(0, false, pgV g), (1, false, ilV l), (5, false, .int .i64 ((k : Int) - 1))])
    (fun k w' => k ≤ l.x.length + 2 ∧ Chg None' w w') (fun k => l.x.length + 2 - k) 0 ⟨rfl, rfl, rfl, trivial⟩ ⟨by omega, Chg.refl _ _⟩ ?_
  rintro k w1 ⟨hk, hw1⟩ ih
  have h1 := h.grow hw1
  have hl1 := hl.grow hw1
  refine Goes.adv hTT 400 rfl ?_
  refine Goes.fork hTT rfl rfl rfl (fun hc => ?_) (fun hc => ?_)
  · have hle : (k : Int) - 1 ≤ l.x.length := of_decide_eq_true hc
    refine Goes.call rfl (page_Owner g _ ((k : Int) - 1) w1 h1) ?_
    rintro _ _ ⟨rfl, rfl⟩
    refine Goes.adv hTT 400 rfl ?_
    refine Goes.call rfl (ref12_Owner l ((k : Int) - 1) w1 hl1) ?_
    rintro _ _ ⟨rfl, rfl⟩
    refine Goes.adv hTT 400 rfl ?_
    refine Goes.no hTT rfl (bne_self_eq_false _) rfl ?_
    refine Goes.arith hTT rfl (w64 (by omega)) rfl ?_
    exact ih (k + 1) _ _ ⟨by omega, hw1⟩ (by omega) ⟨rfl, rfl, by show some (Value.int .i64 ((k : Int) - 1 + 1)) = some (.int .i64 (((k + 1 : Nat) : Int) - 1)); exact int_s (by omega), trivial⟩
  · refine Goes.call rfl (ref12_Used l w1 hl1) ?_
    rintro _ _ ⟨rfl, rfl⟩
    refine Goes.adv hTT 400 rfl ?_
    refine Goes.call rfl (page_Used g _ w1 h1) ?_
    rintro _ _ ⟨rfl, rfl⟩
    refine Goes.adv hTT 400 rfl ?_
    refine Goes.yes hTT rfl (beq_self_eq_true _) rfl ?_
    refine Goes.call rfl (page_Full g _ w1 h1) ?_
    rintro _ w2 ⟨rfl, hw2⟩
    refine Goes.adv hTT 400 rfl ?_
    refine Goes.yes hTT rfl (beq_self_eq_true _) rfl ?_
    refine Goes.call rfl (page_Hole g _ w2 (h1.grow hw2)) ?_
    rintro _ w3 ⟨rfl, hw3⟩
    refine Goes.adv hTT 400 rfl ?_
    refine Goes.call rfl (ref12_Hole l w3 ((hl1.grow hw2).grow hw3)) ?_
    rintro _ _ ⟨rfl, rfl⟩
    refine Goes.adv hTT 400 rfl ?_
    refine Goes.yes hTT rfl (beq_self_eq_true _) rfl ?_
    refine Goes.call rfl (page_Top g _ w3 ((h1.grow hw2).grow hw3)) ?_
    rintro _ _ ⟨rfl, rfl⟩
    refine Goes.adv hTT 400 rfl ?_
    refine Goes.call rfl (ref12_Top l w3 ((hl1.grow hw2).grow hw3)) ?_
    rintro _ _ ⟨rfl, rfl⟩
    refine Goes.adv hTT 400 rfl ?_
    exact Goes.ret1 hTT rfl Tryd.func35 rfl rfl ⟨bool_v (beq_self_eq_true _), (hw1.trans hw2).trans hw3⟩
theorem law12_awake (w : World) (hT0 : TabAt w) : Does Tryd.prog 24 #[] w (Grow (.bool true) w) := by
  refine Does.enter Tryd.func24 rfl Tryd.ntmps24 rfl rfl ?_
  refine Goes.adv hTT 400 rfl ?_
  refine Goes.call rfl (page_New 2 w hT0 (by decide)) ?_
  rintro _ w1 ⟨g, rfl, hg, h1, hw1⟩
  refine Goes.adv hTT 400 rfl ?_
  have hf : ∀ z, z < w.heap.size → pgFoot g z → False := fun z hz h => by rcases h with h | h <;> omega
  refine Goes.call rfl (page_Take g _ 7 w1 h1) ?_
  rintro _ w2 ⟨rfl, h2, hs2⟩
  refine Goes.adv hTT 400 rfl ?_
  refine Goes.call rfl (page_Take g _ 8 w2 h2) ?_
  rintro _ w3 ⟨rfl, h3, hs3⟩
  refine Goes.adv hTT 400 rfl ?_
  refine Goes.call rfl (page_Take g _ 9 w3 h3) ?_
  rintro _ w4 ⟨rfl, h4, hs4⟩
  refine Goes.adv hTT 400 rfl ?_
  refine Goes.call rfl (page_Full g _ w4 h4) ?_
  rintro _ w5 ⟨rfl, hw5⟩
  refine Goes.adv hTT 400 rfl ?_
  refine Goes.call rfl (page_Give g _ 0 w5 (h4.grow hw5)) ?_
  rintro _ w6 ⟨rfl, h6, hs6⟩
  refine Goes.adv hTT 400 rfl ?_
  refine Goes.call rfl (page_Give g _ 0 w6 h6) ?_
  rintro _ w7 ⟨rfl, h7, hs7⟩
  refine Goes.adv hTT 400 rfl ?_
  have hc7 : Chg None' w w7 := (((((hw1.since hs2 hf).since hs3 hf).since hs4 hf).trans hw5).since hs6 hf).since hs7 hf
  refine Goes.yes hTT rfl rfl rfl ?_
  refine Goes.yes hTT rfl rfl rfl ?_
  refine Goes.yes hTT rfl rfl rfl ?_
  refine Goes.yes hTT rfl rfl rfl ?_
  refine Goes.yes hTT rfl rfl rfl ?_
  refine Goes.yes hTT rfl rfl rfl ?_
  refine Goes.yes hTT rfl rfl rfl ?_
  refine Goes.yes hTT rfl rfl rfl ?_
  refine Goes.yes hTT rfl rfl rfl ?_
  refine Goes.call rfl (page_Hole g _ w7 h7) ?_
  rintro _ w8 ⟨rfl, hw8⟩
  refine Goes.adv hTT 400 rfl ?_
  have h8 := h7.grow hw8
  refine Goes.yes hTT rfl rfl rfl ?_
  refine Goes.call rfl (page_Top g _ w8 h8) ?_
  rintro _ _ ⟨rfl, rfl⟩
  refine Goes.adv hTT 400 rfl ?_
  refine Goes.yes hTT rfl rfl rfl ?_
  refine Goes.call rfl (page_Owner g _ 1 w8 h8) ?_
  rintro _ _ ⟨rfl, rfl⟩
  refine Goes.adv hTT 400 rfl ?_
  refine Goes.yes hTT rfl rfl rfl ?_
  refine Goes.call rfl (page_Owner g _ 0 w8 h8) ?_
  rintro _ _ ⟨rfl, rfl⟩
  refine Goes.adv hTT 400 rfl ?_
  refine Goes.yes hTT rfl rfl rfl ?_
  refine Goes.call rfl (page_Used g _ w8 h8) ?_
  rintro _ _ ⟨rfl, rfl⟩
  refine Goes.adv hTT 400 rfl ?_
  exact Goes.ret1 hTT rfl Tryd.func24 rfl rfl ⟨rfl, hc7.trans hw8⟩
theorem law_PageNobody (i : Int) (w : World) (hT0 : TabAt w) : Does Tryd.prog 12 #[.int .i64 i] w (Grow (.bool true) w) := by
  refine Does.enter Tryd.func12 rfl Tryd.ntmps12 rfl rfl ?_
  refine Goes.adv hTT 400 rfl ?_
  refine Goes.call rfl (law12_awake w hT0) ?_
  rintro _ w1 ⟨rfl, hw1⟩
  refine Goes.adv hTT 400 rfl ?_
  refine Goes.call rfl (page_Take_nil i w1) ?_
  rintro _ _ ⟨rfl, rfl⟩
  refine Goes.adv hTT 400 rfl ?_
  refine Goes.yes hTT rfl rfl rfl ?_
  refine Goes.yes hTT rfl rfl rfl ?_
  refine Goes.call rfl (page_Give_nil i w1) ?_
  rintro _ _ ⟨rfl, rfl⟩
  refine Goes.adv hTT 400 rfl ?_
  refine Goes.yes hTT rfl rfl rfl ?_
  refine Goes.call rfl (page_Own_nil i 1 w1) ?_
  rintro _ _ ⟨rfl, rfl⟩
  refine Goes.adv hTT 400 rfl ?_
  refine Goes.yes hTT rfl rfl rfl ?_
  refine Goes.call rfl (page_Owner_nil i w1) ?_
  rintro _ _ ⟨rfl, rfl⟩
  refine Goes.adv hTT 400 rfl ?_
  refine Goes.yes hTT rfl rfl rfl ?_
  refine Goes.call rfl (page_Used_nil w1) ?_
  rintro _ _ ⟨rfl, rfl⟩
  refine Goes.adv hTT 400 rfl ?_
  refine Goes.yes hTT rfl rfl rfl ?_
  refine Goes.call rfl (page_Full_nil w1) ?_
  rintro _ w2 ⟨rfl, hw2⟩
  refine Goes.adv hTT 400 rfl ?_
  refine Goes.yes hTT rfl rfl rfl ?_
  refine Goes.call rfl (page_Hole_nil w2) ?_
  rintro _ _ ⟨rfl, rfl⟩
  refine Goes.adv hTT 400 rfl ?_
  refine Goes.yes hTT rfl rfl rfl ?_
  refine Goes.call rfl (page_Top_nil w2) ?_
  rintro _ _ ⟨rfl, rfl⟩
  refine Goes.adv hTT 400 rfl ?_
  exact Goes.ret1 hTT rfl Tryd.func12 rfl rfl ⟨rfl, hw1.trans hw2⟩
theorem law_PageNew (m : Int) (w : World) (hT0 : TabAt w) : Does Tryd.prog 8 #[.int .i64 m] w (Grow (.bool true) w) := by
  refine Does.enter Tryd.func8 rfl Tryd.ntmps8 rfl rfl ?_
  refine Goes.adv hTT 400 rfl ?_
  refine Goes.call rfl (law12_awake w hT0) ?_
  rintro _ w1 ⟨rfl, hw1⟩
  refine Goes.adv hTT 400 rfl ?_
  have hT1 := hT0.grow hw1
  by_cases hm : 1 ≤ m ∧ m ≤ 512
  · obtain ⟨m, rfl⟩ := Int.eq_ofNat_of_zero_le (show 0 ≤ m by omega)
    refine Goes.call rfl (page_New m w1 hT1 (by omega)) ?_
    rintro _ w2 ⟨g, rfl, hg, h2, hw2⟩
    refine Goes.adv hTT 400 rfl ?_
    refine Goes.call rfl (ref12_New m w2 (by omega)) ?_
    rintro _ w3 ⟨l, rfl, hlx, hl3, hw3, hln⟩
    refine Goes.adv hTT 400 rfl ?_
    refine Goes.no hTT rfl rfl rfl ?_
    refine Goes.yes hTT rfl rfl rfl ?_
    refine Goes.yes hTT rfl rfl rfl ?_
    have h3 := h2.grow hw3
    have hlen : (List.replicate m false).length = m := List.length_replicate
    have hpB : pgB (List.replicate m (-1)) = List.replicate m false := by simp [pgB]
    have hused : pgUsed (List.replicate m (-1)) = 0 := by unfold pgUsed; rw [hpB, cnt_replicate]
    have hlow : pgHole (List.replicate m (-1)) = 0 := by unfold pgHole; rw [hpB]; exact idx_at (p := fun b => !b) (k := 0) (by omega) (fun j _ hj => by omega) (by simp)
    have hhigh : pgTop (List.replicate m (-1)) = -1 := by unfold pgTop; rw [hpB]; exact ridx_none (p := id) (fun j hj => by simp)
    refine Goes.call rfl (page_Used g _ w3 h3) ?_
    rintro _ _ ⟨rfl, rfl⟩
    refine Goes.adv hTT 400 rfl ?_
    rw [hused]
    refine Goes.yes hTT rfl rfl rfl ?_
    refine Goes.call rfl (page_Full g _ w3 h3) ?_
    rintro _ w4 ⟨rfl, hw4⟩
    refine Goes.adv hTT 400 rfl ?_
    rw [hused, List.length_replicate]
    refine Goes.yes hTT rfl (show (!(((0 : Nat) : Int) == (m : Int))) = true by simp; omega) rfl ?_
    refine Goes.call rfl (page_Hole g _ w4 (h3.grow hw4)) ?_
    rintro _ w5 ⟨rfl, hw5⟩
    refine Goes.adv hTT 400 rfl ?_
    rw [hlow]
    refine Goes.yes hTT rfl rfl rfl ?_
    refine Goes.call rfl (page_Top g _ w5 ((h3.grow hw4).grow hw5)) ?_
    rintro _ _ ⟨rfl, rfl⟩
    refine Goes.adv hTT 400 rfl ?_
    rw [hhigh]
    exact Goes.ret1 hTT rfl Tryd.func8 rfl rfl ⟨rfl, (((hw1.trans hw2).trans hw3).trans hw4).trans hw5⟩
  · refine Goes.call rfl (page_New_no m w1 hm) ?_
    rintro _ _ ⟨rfl, rfl⟩
    refine Goes.adv hTT 400 rfl ?_
    refine Goes.call rfl (ref12_New_no m w1 hm) ?_
    rintro _ _ ⟨rfl, rfl⟩
    refine Goes.adv hTT 400 rfl ?_
    refine Goes.yes hTT rfl rfl rfl ?_
    refine Goes.yes hTT rfl rfl rfl ?_
    refine Goes.yes hTT rfl rfl rfl ?_
    exact Goes.ret1 hTT rfl Tryd.func8 rfl rfl ⟨rfl, hw1⟩
end Go.Proofs.YtoileikhfgehcaaDoor
