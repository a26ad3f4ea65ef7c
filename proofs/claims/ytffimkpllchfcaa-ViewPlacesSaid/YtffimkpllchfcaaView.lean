/-
  Layer 21: a view: places, how many bytes they have, where a block begins.
-/
import Derived.Test.YtffimkpllchfcaaConf
import Derived.Test.YtffimkpllchfcaaArena2
import Derived.Test.YtffimkpllchfcaaRule11
namespace Go.Proofs.Ytffimkpllchfcaa
open Go.RowKit

/-- A place. -/
structure Plc where
  cls : Int
  page : Int
  idx : Int
  pa : Option Addr
  pc : Nat
  pages : List Int
def plL (q : Plc) : List Value := [.int .i64 q.cls, .int .i64 q.page, .int .i64 q.idx, .slice q.pa q.pages.length q.pc]
structure PlcOk (w : World) (q : Plc) : Prop where
  rd : Rd .i64 w q.pa q.pages
  len : q.pages.length ≤ 9223372036854775807
theorem PlcOk.grow {w w' : World} {q : Plc} (h : PlcOk w q) (hc : Chg None' w w') : PlcOk w' q := ⟨h.rd.chg hc, h.len⟩
def inT (n top : Int) : Bool := decide (0 ≤ n) && decide (n < top)
theorem inT_iff {n top : Int} : inT n top = true ↔ 0 ≤ n ∧ n < top := by unfold inT; simp
def viewIs (c : Conf) (q : Plc) : Bool :=
  if q.cls = -1 then decide (0 < q.pages.length) && !q.pages.any (fun n => !inT n c.pages)
  else inT q.cls c.classes.length && inT q.page c.pages && inT q.idx (blocksM c q.cls)
def clsM (c : Conf) (k : Int) : Int := c.classes.getD k.toNat 0
def viewHolds (c : Conf) (q : Plc) : Int := if viewIs c q then (if q.cls = -1 then q.pages.length * c.size else clsM c q.cls) else 0
def viewAt (c : Conf) (q : Plc) : Int := if viewIs c q = true ∧ q.cls ≠ -1 then q.page * c.size + q.idx * clsM c q.cls else -1
/-- Where a view lies; its arena, its meter. -/
structure Vw where
  vb : Nat
  c : Conf
  p : ConfAt
  ab : Nat
  mb : Option Nat
def vwL (v : Vw) : List Value := confL v.c v.p ++ [.pointer (some ⟨v.ab, 0, none⟩), ptr v.mb]
abbrev vwV (v : Vw) : Value := .pointer (some ⟨v.vb, 0, none⟩)
structure VwOk (w : World) (v : Vw) : Prop where
  obj : w.heap[v.vb]? = some (.cells (vwL v).toArray 75 (0, 0))
  conf : ConfOk w v.c v.p
  may : mayB v.c = true
theorem VwOk.grow {w w' : World} {v : Vw} (h : VwOk w v) (hc : Chg None' w w') : VwOk w' v := ⟨hc.heap' h.obj, h.conf.chg hc, h.may⟩
theorem view_within (n top : Int) (w : World) : Does Try.prog 60 #[.int .i64 n, .int .i64 top] w (Same (.bool (inT n top)) w) := by
  refine Does.enter Try.func60 rfl Try.ntmps60 rfl rfl ?_
  refine Goes.adv hTT 400 rfl ?_
  refine Goes.fork hTT rfl rfl rfl (fun h => ?_) (fun h => ?_)
  · have g : 0 ≤ n := of_decide_eq_true h
    exact Goes.ret1 hTT rfl Try.func60 rfl rfl ⟨bool_v (by unfold inT; rw [decide_eq_true g]; rfl), rfl⟩
  · have g : ¬ 0 ≤ n := of_decide_eq_false h
    exact Goes.ret1 hTT rfl Try.func60 rfl rfl ⟨bool_v (by unfold inT; rw [decide_eq_false g]; rfl), rfl⟩
abbrev ptrBox (w : World) (b : Nat) (v : Vw) : Prop := w.heap[b]? = some (.cells ([vwV v] : List Value).toArray 33 (0, 0))
theorem view_is1 (v : Vw) (b : Nat) (x : Int) (w : World) (h : VwOk w v) (hb : ptrBox w b v) : Does Try.prog 59 #[.int .i64 x, .pointer (some ⟨b, 0, none⟩)] w (Same (.bool (!inT x v.c.pages)) w) := by
  refine Does.enter Try.func59 rfl Try.ntmps59 rfl rfl ?_
  refine Goes.adv hTT 400 rfl ?_
  refine Goes.loadb hTT rfl hb rfl rfl ?_
  refine Goes.loadb hTT rfl h.obj rfl rfl ?_
  refine Goes.call rfl (view_within x v.c.pages w) ?_
  rintro _ _ ⟨rfl, rfl⟩
  refine Goes.adv hTT 400 rfl ?_
  exact Goes.ret1 hTT rfl Try.func59 rfl rfl ⟨rfl, rfl⟩
theorem view_is (v : Vw) (q : Plc) (w : World) (h : VwOk w v) (hq : PlcOk w q) : Does Try.prog 34 #[vwV v, .agg (plL q).toArray] w (Grow (.bool (viewIs v.c q)) w) := by
  have hql := hq.len
  have hcl := h.conf.lc
  refine Does.enter Try.func34 rfl Try.ntmps34 rfl rfl ?_
  refine Goes.adv hTT 400 rfl ?_
  refine Goes.alloc hTT rfl ?_
  intro vb w1 e1 hvb hw1 hz1
  refine Goes.adv hTT 400 rfl ?_
  refine Goes.alloc hTT rfl ?_
  intro qb w2 e2 hqb hw2 hz2
  refine Goes.adv hTT 400 rfl ?_
  have hw := hw1.trans hw2
  have hv2 := h.grow hw
  have hvb2 := hw2.heap' hvb
  have hq2 := hq.grow hw
  obtain ⟨cls, page, idx, pa, pc, pages⟩ := q
  replace hqb : w2.heap[qb]? = some (.cells ([.int .i64 cls, .int .i64 page, .int .i64 idx, .slice pa pages.length pc] : List Value).toArray 26 (0, 0)) := hqb
  replace hq2 : Rd .i64 w2 pa pages := hq2.rd
  replace hql : pages.length ≤ 9223372036854775807 := hql
  refine Goes.loadb hTT rfl hvb2 rfl rfl ?_
  refine Goes.loadb hTT rfl hqb rfl rfl ?_
  refine Goes.fork hTT rfl rfl rfl (fun hcl1 => ?_) (fun hcl1 => ?_)
  · have g : cls = -1 := by simpa using hcl1
    refine Goes.loadb hTT rfl hqb rfl rfl ?_
    by_cases h0 : 0 < pages.length
    · refine Goes.yes hTT rfl (decide_eq_true (by omega)) rfl ?_
      refine Goes.loadb hTT rfl hqb rfl rfl ?_
      refine Goes.call rfl (slices_ContainsFunc_int pa pc 59 pages [.pointer (some ⟨vb, 0, none⟩)] (fun n => !inT n v.c.pages) w2 hq2 hql (fun x _ => view_is1 v vb x w2 hv2 hvb2)) ?_
      rintro _ _ ⟨rfl, rfl⟩
      refine Goes.adv hTT 400 rfl ?_
      exact Goes.ret1 hTT rfl Try.func34 rfl rfl ⟨bool_v (by unfold viewIs; simp only; rw [if_pos g, decide_eq_true h0]; rfl), hw⟩
    · refine Goes.no hTT rfl (decide_eq_false (by omega)) rfl ?_
      exact Goes.ret1 hTT rfl Try.func34 rfl rfl ⟨bool_v (by unfold viewIs; simp only; rw [if_pos g, decide_eq_false h0]; rfl), hw⟩
  · have g : ¬ cls = -1 := by simpa using hcl1
    have hvi : viewIs v.c ⟨cls, page, idx, pa, pc, pages⟩ = (inT cls v.c.classes.length && inT page v.c.pages && inT idx (blocksM v.c cls)) := by unfold viewIs; simp only; rw [if_neg g]
    rw [hvi]
    refine Goes.drawn (q := 32) None' hTT mixed (by kernel_rfl) rfl ?_
    intro hB
    refine Drawn.loadb hTT hB rfl hqb (by first | exact fun h => h | (intro h; omega) | assumption) rfl rfl ?_
    refine Drawn.loadb hTT hB rfl hvb2 (by first | exact fun h => h | (intro h; omega) | assumption) rfl rfl ?_
    refine Drawn.loadb hTT hB rfl hv2.obj (by first | exact fun h => h | (intro h; omega) | assumption) rfl rfl ?_
    refine Drawn.call hTT hB rfl (fun w' hw' => (view_within cls v.c.classes.length w').grow) rfl ?_
    refine Drawn.fork hTT hB rfl rfl rfl (fun h1 => ?_) (fun h1 => ?_)
    · rw [h1]
      refine Drawn.loadb hTT hB rfl hqb (by first | exact fun h => h | (intro h; omega) | assumption) rfl rfl ?_
      refine Drawn.loadb hTT hB rfl hvb2 (by first | exact fun h => h | (intro h; omega) | assumption) rfl rfl ?_
      refine Drawn.loadb hTT hB rfl hv2.obj (by first | exact fun h => h | (intro h; omega) | assumption) rfl rfl ?_
      refine Drawn.call hTT hB rfl (fun w' hw' => (view_within page v.c.pages w').grow) rfl ?_
      refine Drawn.fork hTT hB rfl rfl rfl (fun h2 => ?_) (fun h2 => ?_)
      · rw [h2]
        refine Drawn.loadb hTT hB rfl hqb (by first | exact fun h => h | (intro h; omega) | assumption) rfl rfl ?_
        refine Drawn.loadb hTT hB rfl hvb2 (by first | exact fun h => h | (intro h; omega) | assumption) rfl rfl ?_
        refine Drawn.loads hTT hB rfl hv2.obj (by first | exact fun h => h | (intro h; omega) | assumption) rfl rfl ?_
        refine Drawn.loadb hTT hB rfl hqb (by first | exact fun h => h | (intro h; omega) | assumption) rfl rfl ?_
        refine Drawn.call hTT hB rfl (fun w' hw' => conf_Blocks v.c v.p cls w' (hv2.conf.chg hw')) rfl ?_
        refine Drawn.call hTT hB rfl (fun w' hw' => (view_within idx (blocksM v.c cls) w').grow) rfl ?_
        refine Drawn.nil hB ?_
        intro w3 hw3
        refine Goes.adv hTT 400 rfl ?_
        exact Goes.ret1 hTT rfl Try.func34 rfl rfl ⟨rfl, hw.trans hw3⟩
      · rw [h2]
        refine Drawn.nil hB ?_
        intro w3 hw3
        refine Goes.adv hTT 400 rfl ?_
        exact Goes.ret1 hTT rfl Try.func34 rfl rfl ⟨rfl, hw.trans hw3⟩
    · rw [h1]
      refine Drawn.nil hB ?_
      intro w3 hw3
      refine Goes.adv hTT 400 rfl ?_
      exact Goes.ret1 hTT rfl Try.func34 rfl rfl ⟨rfl, hw.trans hw3⟩
theorem view_is_nil (q : Plc) (w : World) : Does Try.prog 34 #[.pointer none, .agg (plL q).toArray] w (Grow (.bool false) w) := by
  refine Does.enter Try.func34 rfl Try.ntmps34 rfl rfl ?_
  refine Goes.adv hTT 400 rfl ?_
  refine Goes.alloc hTT rfl ?_
  intro vb w1 e1 hvb hw1 hz1
  refine Goes.adv hTT 400 rfl ?_
  refine Goes.alloc hTT rfl ?_
  intro qb w2 e2 hqb hw2 hz2
  refine Goes.adv hTT 400 rfl ?_
  refine Goes.loadb hTT rfl (hw2.heap' hvb) rfl rfl ?_
  exact Goes.ret1 hTT rfl Try.func34 rfl rfl ⟨rfl, hw1.trans hw2⟩
end Go.Proofs.Ytffimkpllchfcaa
