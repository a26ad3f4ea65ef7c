/-
  Bytes as a string, nil too; a struct loaded from cells anywhere; a call and a new block in either order.
-/
import Derived.Test.YtkiionjcapnepaaGreatDoorRule8
namespace Go.Proofs.YtkiionjcapnepaaGreatDoor
open Go.RowKit
section
variable {P : Program} {T : Tab} {ops : Array Oper} {f : FuncId} {R : Aim} {k : List Item} {q n : Nat} {ds : List Deferred} {s s' : List Item} {w w0 : World} {e e' : Env} {U : List Nat} {S : Nat → Prop}

/-! ### string(b) -/
def bstrN (T : Tab) (e : Env) (o : Oper) : Option (Option Addr × Nat) :=
  match o.op with
  | .convert src dst x => match ev e x, row T src, row T dst with
    | some (.slice a n _), some { und := .slice q, .. }, some { und := .string, .. } => match row T q with
      | some { und := .int .u8, .. } => some (a, n)
      | _ => none
    | _, _, _ => none
  | _ => none
theorem bstrN_run (hT : TabOk P T) {a : Option Addr} {m : Nat} {ns : List Int} {o : Oper} (h : bstrN T e o = some (a, m)) (hl : ns.length = m) (hr : Rd .u8 w a ns) (act : Act) (hf : Fits n act e) : (execOp act.eval o).run P w = .ok (.value (.string (strOfB ns))) w := by
  subst hl
  unfold bstrN at h
  split at h
  · rename_i src dst x hop
    split at h
    · rename_i a1 n1 c1 q _ _ _ _ _ _ hx hs hd
      split at h
      · rename_i _ _ _ hq
        cases h
        simp only [execOp, hop, hf.ev hx]
        refine (run_bind_ok (x := (.string (strOfB ns) : Value)) (w' := w) ?_).trans rfl
        unfold convert
        refine (run_bind_ok ((hT.row hs).underlying w)).trans ?_
        refine (run_bind_ok ((hT.row hd).underlying w)).trans ?_
        refine (run_bind_ok ((hT.row hq).underlying w)).trans ?_
        cases a with
        | none =>
          have : ns = [] := by
            cases ns with
            | nil => rfl
            | cons x r => obtain ⟨b, off, e, _⟩ := hr 0 (by simp); cases e
          subst this
          rfl
        | some a =>
          have hlc := run_loadCells_list (P := P) w a (ns.map (Value.int .u8)) hr.cells
          rw [List.length_map] at hlc
          exact run_bytesToString (P := P) w a ns.length c1 ns hlc
      · cases h
    · cases h
  · cases h
theorem Goes.bstrN (hT : TabOk P T) {a : Option Addr} {m d : Nat} (ns : List Int) {s2 : List Item} {e2 : Env} (h : atHead (bstrN T e) n s e = some ((a, m), d, s')) (hl : ns.length = m) (hr : Rd .u8 w a ns)
    (ha : Go.Proofs.YtkiionjcapnepaaGreatDoor.adv T n 400 s' ((d, false, .string (strOfB ns)) :: e) = (s2, e2)) (hg : Goes P f R n ds s2 e2 w) : Goes P f R n ds s e w :=
  Goes.val h (fun _ ho a hf => bstrN_run hT ho hl hr a hf) (Goes.adv hT 400 ha hg)
/-- Bytes that lie in no block of S. -/
def RdS (S : Nat → Prop) (k : IntKind) (w : World) (a : Option Addr) (zs : List Int) : Prop := Rd k w a zs ∧ ∀ b off s, a = some ⟨b, off, s⟩ → 0 < zs.length → ¬ S b
theorem RdS.chg {S : Nat → Prop} {k : IntKind} {w w' : World} {a : Option Addr} {zs : List Int} (h : RdS S k w a zs) (hc : Chg S w w') : RdS S k w' a zs := ⟨fun i hi => by
  obtain ⟨b, off, e, hcell⟩ := h.1 i hi
  exact ⟨b, off, e, hc.cell hcell (h.2 b off none e (by omega))⟩, h.2⟩
theorem Drawn.bstrN (hT : TabOk P T) (hB : drawB ops q = true) {a : Option Addr} {m d i : Nat} (ns : List Int) {U2 : List Nat} {e2 : Env} (h : findD (bstrN T e) n ops q U e U = some ((a, m), d, i)) (hl : ns.length = m) (hr : RdS S .u8 w0 a ns)
    (ha : advD T n ops q (rmN i U) (rmN i U) ((d, false, .string (strOfB ns)) :: e) = (U2, e2)) (hg : Drawn P f R n ds k ops q S U2 e2 w0 w) : Drawn P f R n ds k ops q S U e w0 w :=
  Drawn.val hT hB h (fun _ ho a _ hw' hf => bstrN_run hT ho hl (hr.chg hw').1 a hf) ha hg
theorem Drawn.streq (hT : TabOk P T) (hB : drawB ops q = true) {p : Bool} {a b : ByteArray} {d i : Nat} {U2 : List Nat} {e2 : Env} (h : findD (streqOf e) n ops q U e U = some ((p, a, b), d, i)) (hab : a = b)
    (ha : advD T n ops q (rmN i U) (rmN i U) ((d, false, .bool p) :: e) = (U2, e2)) (hg : Drawn P f R n ds k ops q S U2 e2 w0 w) : Drawn P f R n ds k ops q S U e w0 w :=
  Drawn.val hT hB h (fun _ ho a w' _ hf => streqOf_run ho hab a hf w') ha hg

/-! ### A struct loaded from cells -/
theorem loadVar_cells (hT : TabOk P T) {t : Nat} {r : TyRow} {b off : Nat} {vs : List Value} (hr : row T t = some r) (ha : isAggR r = true) (hl : vs.length = r.size) (hc : ∀ j v, vs[j]? = some v → w.cell? ⟨b, off + j, none⟩ = some v) :
    (loadVar t ⟨b, off, none⟩).run P w = .ok (.agg vs.toArray) w := by
  have hlc := run_loadCells_list (P := P) w ⟨b, off, none⟩ vs (fun j v hv => by rw [add_off]; exact hc j v hv)
  unfold loadVar
  refine (run_bind_ok ((hT.row hr).isAgg w)).trans ?_
  rw [ha]
  simp only [if_true]
  refine (run_bind_ok ((hT.row hr).sizeOf w)).trans ?_
  rw [← hl]
  exact (run_bind_ok hlc).trans rfl
theorem loadC_run (hT : TabOk P T) {b off m : Nat} {vs : List Value} {o : Oper} (h : loadOf T e o = some (b, off, some m)) (hl : vs.length = m) (hc : ∀ j v, vs[j]? = some v → w.cell? ⟨b, off + j, none⟩ = some v) (a : Act) (hf : Fits n a e) : (execOp a.eval o).run P w = .ok (.value (.agg vs.toArray)) w := by
  unfold loadOf at h
  split at h
  · rename_i t x hop
    split at h
    · rename_i b1 off1 r hx hr
      split at h
      · rename_i hagg
        cases h
        simp only [execOp, hop, hf.ev hx]
        refine (run_bind_ok (x := (.agg vs.toArray : Value)) (w' := w) ?_).trans rfl
        simp only [Instr.loadAt, Instr.sureAddr]
        exact (run_bind_ok (show (pure _ : Sem Addr).run P w = .ok _ w from rfl)).trans (loadVar_cells hT hr hagg hl hc)
      · cases h
    · cases h
  · cases h
theorem Goes.loadC (hT : TabOk P T) {b off m d : Nat} (vs : List Value) {s2 : List Item} {e2 : Env} (h : atHead (loadOf T e) n s e = some ((b, off, some m), d, s')) (hl : vs.length = m) (hc : ∀ j v, vs[j]? = some v → w.cell? ⟨b, off + j, none⟩ = some v)
    (ha : Go.Proofs.YtkiionjcapnepaaGreatDoor.adv T n 400 s' ((d, false, .agg vs.toArray) :: e) = (s2, e2)) (hg : Goes P f R n ds s2 e2 w) : Goes P f R n ds s e w :=
  Goes.val h (fun _ ho a hf => loadC_run hT ho hl hc a hf) (Goes.adv hT 400 ha hg)
theorem Drawn.loadC (hT : TabOk P T) (hB : drawB ops q = true) {b off m d i : Nat} (vs : List Value) {U2 : List Nat} {e2 : Env} (h : findD (loadOf T e) n ops q U e U = some ((b, off, some m), d, i)) (hl : vs.length = m) (hc : ∀ j v, vs[j]? = some v → w0.cell? ⟨b, off + j, none⟩ = some v) (hS : ¬ S b)
    (ha : advD T n ops q (rmN i U) (rmN i U) ((d, false, .agg vs.toArray) :: e) = (U2, e2)) (hg : Drawn P f R n ds k ops q S U2 e2 w0 w) : Drawn P f R n ds k ops q S U e w0 w :=
  Drawn.val hT hB h (fun _ ho a _ hw' hf => loadC_run hT ho hl (fun j v hv => hw'.cell (hc j v hv) hS) a hf) ha hg

/-! ### A call and a new block, in either order -/
theorem Drawn.swap {d d' : Nat} {b b' : Bool} {v v' : Value} (hne : d ≠ d') (h : Drawn P f R n ds k ops q S U ((d, b, v) :: (d', b', v') :: e) w0 w) : Drawn P f R n ds k ops q S U ((d', b', v') :: (d, b, v) :: e) w0 w :=
  h.weaken fun t u ht => by
    rw [look_cons, look_cons] at ht ⊢
    by_cases h1 : t = d
    · subst h1; rw [if_pos rfl] at ht; rw [if_neg hne, if_pos rfl]; exact ht
    · rw [if_neg h1] at ht
      by_cases h2 : t = d'
      · subst h2; rw [if_pos rfl] at ht ⊢; exact ht
      · rw [if_neg h2] at ht ⊢; rw [if_neg h1]; exact ht
theorem Turn.alloc0 (hT : TabOk P T) {l : List Value} {t d i : Nat} (h : atTurn (allocOf T e) n ops e i = some ((l, t), d))
    (hg : ∀ b w1, b = w.heap.size → w1.heap[b]? = some (.cells l.toArray t (0, 0)) → Chg None' w w1 → w1.heap.size = w.heap.size + 1 → Drawn P f R n ds k ops q S (rmN i U) ((d, false, .pointer (some ⟨b, 0, none⟩)) :: e) w0 w1) : Turn P f R n ds k ops q S U i e w0 w := by
  obtain ⟨o, ho, hw, hd, hlt, hx⟩ := atTurn_ok h
  intro a hds hf hn hq hU h0
  unfold opG
  rw [nth_at ho]
  simp only [want_ok hf hw, if_true]
  unfold grow1
  rw [allocOf_run hT hx a hf]
  have h1 := h0.up (chg_new (w := w) (.cells l.toArray t) None')
  exact ⟨h1, hg _ _ rfl (by simp) (chg_new _ _) (by simp) _ (by cases o.dst <;> exact hds) (putE_ok (by rw [hd]; exact putE_dst hlt) a hf) (hn.rm (hq _ hU)) (fun j hj => hq j ((mem_rmN hn.1.1).1 hj).1) h1⟩
/-- What the first environment's slots hold, but for those that are held anew ahead; and what these slots hold in the second one. -/
def lhsE : List Nat → Env → Env → List (Option Value)
  | _, [], _ => []
  | seen, (t, _, _) :: r, e => (bif hasN t seen then none else look e t) :: lhsE (t :: seen) r e
def rhsE : List Nat → Env → List (Option Value)
  | _, [] => []
  | seen, (t, _, v) :: r => (bif hasN t seen then none else some v) :: rhsE (t :: seen) r
theorem subE : ∀ {r e : Env} {seen : List Nat}, lhsE seen r e = rhsE seen r → ∀ t v, hasN t seen = false → look r t = some v → look e t = some v
  | [], e, seen, _, t, v, _, h => by simp [look] at h
  | (u, b, x) :: r, e, seen, hs, t, v, ht, h => by
    simp only [lhsE, rhsE, List.cons.injEq] at hs
    rw [look_cons] at h
    by_cases he : t = u
    · subst he
      rw [if_pos rfl] at h
      rw [ht] at hs
      exact hs.1.trans h
    · rw [if_neg he] at h
      exact subE hs.2 t v (by rw [hasN_not] at ht ⊢; intro hm; rcases List.mem_cons.1 hm with h1 | h1; exact he h1; exact ht h1) h
theorem Drawn.subst (hs : lhsE [] e' e = rhsE [] e') (h : Drawn P f R n ds k ops q S U e' w0 w) : Drawn P f R n ds k ops q S U e w0 w := h.weaken fun t v => subE hs t v rfl
/-- Of two operations the call, then the other one. -/
def callFirst (ops : Array Oper) (i j : Nat) : Nat × Nat := match nth ops.toList i with
  | some o => match o.op with
    | .call _ => (i, j)
    | _ => (j, i)
  | none => (j, i)
theorem callFirst_or (ops : Array Oper) (i j : Nat) : callFirst ops i j = (i, j) ∨ callFirst ops i j = (j, i) := by
  unfold callFirst
  split
  · split
    · exact .inl rfl
    · exact .inr rfl
  · exact .inr rfl
theorem Drawn.callAlloc {β : Type} (F : β → Value) (Q : β → World → Prop) (hT : TabOk P T) (hB : drawB ops q = true) {i j ic ia fk dc da t : Nat} {as l : List Value} {U2 U3 : List Nat} {e2 : β → Env} {e3 : Nat → β → Env} (hU : freeL ops q U U = [i, j]) (hp : callFirst ops i j = (ic, ia))
    (hc : atTurn (callOf e) n ops e ic = some ((fk, as), dc)) (hc' : ∀ b, atTurn (callOf ((da, false, .pointer (some ⟨b, 0, none⟩)) :: e)) n ops ((da, false, .pointer (some ⟨b, 0, none⟩)) :: e) ic = some ((fk, as), dc))
    (ha : atTurn (allocOf T e) n ops e ia = some ((l, t), da)) (had : ∀ x, advD T n ops q (rmN ic U) (rmN ic U) ((dc, false, F x) :: e) = (U2, e2 x))
    (ha' : ∀ x, atTurn (allocOf T (e2 x)) n ops (e2 x) ia = some ((l, t), da)) (hfa : freeL ops q U2 U2 = [ia]) (hfc : freeL ops q (rmN ia U) (rmN ia U) = [ic])
    (had' : ∀ b x, advD T n ops q (rmN ic (rmN ia U)) (rmN ic (rmN ia U)) ((dc, false, F x) :: (da, false, .pointer (some ⟨b, 0, none⟩)) :: e) = (U3, e3 b x)) (h23 : rmN ia U2 = U3) (hsub : ∀ b x, lhsE [] ((da, false, .pointer (some ⟨b, 0, none⟩)) :: e2 x) (e3 b x) = rhsE [] ((da, false, .pointer (some ⟨b, 0, none⟩)) :: e2 x))
    (hd : ∀ w', Chg None' w w' → Does P fk as.toArray w' (fun v w2 => Chg S w' w2 ∧ ∃ x, v = F x ∧ Q x w2)) (hQ : ∀ x w2 w3, Q x w2 → Chg None' w2 w3 → Q x w3) (hS : ∀ b, S b → b < w.heap.size)
    (hg : ∀ b x w1, w.heap.size ≤ b → w1.heap[b]? = some (.cells l.toArray t (0, 0)) → Chg S w w1 → Q x w1 → Drawn P f R n ds k ops q S U3 ((da, false, .pointer (some ⟨b, 0, none⟩)) :: e2 x) w0 w1) : Drawn P f R n ds k ops q S U e w0 w := by
  have hk := (hd w (Chg.refl _ _)).fn
  have hij : (i = ic ∧ j = ia) ∨ (i = ia ∧ j = ic) := by
    rcases callFirst_or ops i j with h | h <;> rw [hp] at h <;> simp only [Prod.mk.injEq] at h
    · exact .inl ⟨h.1.symm, h.2.symm⟩
    · exact .inr ⟨h.2.symm, h.1.symm⟩
  have hcall : ∀ w', Chg None' w w' → Turn P f R n ds k ops q S U ic e w0 w' := fun w' hw' => by
    refine Turn.call (Post := fun v w2 => Chg S w w2 ∧ ∃ x, v = F x ∧ Q x w2) hc hk (fun h0 => (hd w' hw').mono fun v w2 ⟨g1, g2⟩ => ⟨h0.trans g1, (hw'.mono fun _ _ h => h.elim).trans g1, g2⟩) fun v w1 _ ⟨hc1, x, hv, hq1⟩ => ?_
    subst hv
    refine Drawn.adv hT hB (had x) ?_
    refine Drawn.turn1 hB hfa fun w2 hw2 => ?_
    refine Turn.alloc0 hT (ha' x) fun b w3 hb hz hw3 _ => ?_
    rw [h23]
    have hc2 := hc1.up hw2
    exact hg b x w3 (by rw [hb]; exact hc2.size) hz (hc2.up hw3) (hQ _ _ _ hq1 (hw2.trans hw3))
  have halloc : ∀ w', Chg None' w w' → Turn P f R n ds k ops q S U ia e w0 w' := fun w' hw' => by
    refine Turn.alloc0 hT ha fun b w1 hb hz hw1 _ => ?_
    refine Drawn.turn1 hB hfc fun w2 hw2 => ?_
    refine Turn.call (Post := fun v w3 => Chg S w w3 ∧ (∃ x, v = F x ∧ Q x w3) ∧ w3.heap[b]? = some (.cells l.toArray t (0, 0))) (hc' b) hk (fun h0 => (hd w2 ((hw'.trans hw1).trans hw2)).mono fun v w3 ⟨g1, g2⟩ =>
      ⟨h0.trans g1, (((hw'.trans hw1).trans hw2).mono fun _ _ h => h.elim).trans g1, g2, g1.heap (hw2.heap' hz) (fun hs => by have := hS b hs; have := hw'.size; omega)⟩) fun v w3 _ ⟨g1, ⟨x, hv, g2⟩, g3⟩ => ?_
    subst hv
    refine Drawn.adv hT hB (had' b x) ?_
    exact Drawn.subst (hsub b x) (hg b x w3 (by rw [hb]; exact hw'.size) g3 g1 g2)
  refine Drawn.turn2 hB hU ?_ ?_
  · intro w' hw'
    rcases hij with ⟨rfl, rfl⟩ | ⟨rfl, rfl⟩
    · exact hcall w' hw'
    · exact halloc w' hw'
  · intro w' hw'
    rcases hij with ⟨rfl, rfl⟩ | ⟨rfl, rfl⟩
    · exact halloc w' hw'
    · exact hcall w' hw'
end
end Go.Proofs.YtkiionjcapnepaaGreatDoor
