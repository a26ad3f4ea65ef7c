/-
  Bits, shifts, copy, clear, bytes as a string.
-/
import Derived.Test.YtommemplakcaaaaRule6
import Derived.Laws.CopyRow
import Derived.Laws.IdiomCopy
import Derived.Laws.BytesString
namespace Go.Proofs.Ytommemplakcaaaa
open Go.RowKit
section
variable {P : Program} {T : Tab} {ops : Array Oper} {f : FuncId} {R : Ending → World → Prop} {k : List Item} {q n : Nat} {ds : List Deferred} {s s' : List Item} {w w0 : World} {e : Env} {U : List Nat}

/-! ### & | ^ &^ -/
def bitV (op : BinOp) (k : IntKind) (x y : Int) : Int :=
  let a := BitVec.ofInt k.bits x
  let b := BitVec.ofInt k.bits y
  match op with
  | .and => k.wrap (a &&& b).toNat
  | .or => k.wrap (a ||| b).toNat
  | .xor => k.wrap (a ^^^ b).toNat
  | _ => k.wrap (a &&& ~~~b).toNat
def bitsOf (e : Env) (o : Oper) : Option (BinOp × IntKind × Int × Int) :=
  match o.op with
  | .binOp op _ x y _ => match ev e x, ev e y with
    | some (.int k a), some (.int k' b) => match sameK k k' with
      | true => match op with
        | .and | .or | .xor | .andNot => some (op, k, a, b)
        | _ => none
      | false => none
    | _, _ => none
  | _ => none
theorem bitsOf_run {op : BinOp} {k : IntKind} {x y z : Int} {o : Oper} (h : bitsOf e o = some (op, k, x, y)) (hz : bitV op k x y = z) (a : Act) (hf : Fits n a e) (w : World) : (execOp a.eval o).run P w = .ok (.value (.int k z)) w := by
  subst hz
  unfold bitsOf at h
  split at h
  · rename_i op1 t x' y' t' hop
    split at h
    · rename_i k1 a1 k2 b1 hx hy
      split at h
      · rename_i hk
        have := sameK_eq hk; subst this
        split at h
        all_goals first | (cases h; done) | skip
        all_goals
          cases h
          simp only [execOp, hop, hf.ev hx, hf.ev hy]
          refine (run_bind_ok (x := (.int k (bitV _ k x y) : Value)) (w' := w) ?_).trans rfl
          refine (run_bind_ok (eqGuard_int w)).trans ?_
          simp only [binOp, ne_eq, not_true_eq_false, if_false, Op.intBits]
          rfl
      · cases h
    · cases h
  · cases h
theorem Goes.bits (hT : TabOk P T) {op : BinOp} {k : IntKind} {x y z : Int} {d : Nat} {s2 : List Item} {e2 : Env} (h : atHead (bitsOf e) n s e = some ((op, k, x, y), d, s')) (hz : bitV op k x y = z)
    (ha : Go.Proofs.Ytommemplakcaaaa.adv T n 400 s' ((d, false, .int k z) :: e) = (s2, e2)) (hg : Goes P f R n ds s2 e2 w) : Goes P f R n ds s e w :=
  Goes.val h (fun _ ho a hf => bitsOf_run ho hz a hf w) (Goes.adv hT 400 ha hg)
/-! ### << >> -/
def shV (l : Bool) (k : IntKind) (x y : Int) : Int := if l then k.wrap (x * 2 ^ (min y.toNat k.bits)) else x.fdiv (2 ^ (min y.toNat k.bits))
def shiftOf (e : Env) (o : Oper) : Option (Bool × IntKind × Int × Int) :=
  match o.op with
  | .binOp .shl _ x y _ => match ev e x, ev e y with
    | some (.int k a), some (.int _ b) => some (true, k, a, b)
    | _, _ => none
  | .binOp .shr _ x y _ => match ev e x, ev e y with
    | some (.int k a), some (.int _ b) => some (false, k, a, b)
    | _, _ => none
  | _ => none
theorem shiftOf_run {l : Bool} {k : IntKind} {x y z : Int} {o : Oper} (h : shiftOf e o = some (l, k, x, y)) (hy : 0 ≤ y) (hz : shV l k x y = z) (a : Act) (hf : Fits n a e) (w : World) : (execOp a.eval o).run P w = .ok (.value (.int k z)) w := by
  subst hz
  unfold shiftOf at h
  split at h
  all_goals first | (cases h; done) | skip
  all_goals
    rename_i t x' y' t' hop
    split at h
    · rename_i k1 a1 k2 b hx hy'
      cases h
      simp only [execOp, hop, hf.ev hx, hf.ev hy']
      refine (run_bind_ok (x := (.int k (shV _ k x y) : Value)) (w' := w) ?_).trans rfl
      refine (run_bind_ok (eqGuard_int w)).trans ?_
      simp only [binOp, Op.shift]
      rw [if_neg (by omega)]
      rfl
    · cases h
theorem Goes.shift (hT : TabOk P T) {l : Bool} {k : IntKind} {x y z : Int} {d : Nat} {s2 : List Item} {e2 : Env} (h : atHead (shiftOf e) n s e = some ((l, k, x, y), d, s')) (hy : 0 ≤ y) (hz : shV l k x y = z)
    (ha : Go.Proofs.Ytommemplakcaaaa.adv T n 400 s' ((d, false, .int k z) :: e) = (s2, e2)) (hg : Goes P f R n ds s2 e2 w) : Goes P f R n ds s e w :=
  Goes.val h (fun _ ho a hf => shiftOf_run ho hy hz a hf w) (Goes.adv hT 400 ha hg)
/-! ### copy -/
def copyOf (T : Tab) (e : Env) (o : Oper) : Option (Option Addr × Nat × Option Addr × Nat) :=
  match o.op with
  | .call c => match c.callee, evs e c.args.toList, c.argTypes.toList with
    | .builtin .copy, some [.slice d dl _, .slice a sl _], [t, _] => match row T t with
      | some { und := .slice q, .. } => match row T q with
        | some r2 => match Nat.beq r2.size 1 with
          | true => some (d, dl, a, sl)
          | false => none
        | none => none
      | _ => none
    | _, _, _ => none
  | _ => none
theorem copyOf_exec (hT : TabOk P T) {d a : Option Addr} {dl sl : Nat} {o : Oper} (h : copyOf T e o = some (d, dl, a, sl)) : ∃ dT sT dc sc elem, P.underlying dT = some (.slice elem) ∧ (P.info? elem).map (·.size) = some 1 ∧
    ∀ act, Fits n act e → ∀ v w w', (Builtin.copy_ #[dT, sT] o.type #[.slice d dl dc, .slice a sl sc]).run P w = .ok v w' → (execOp act.eval o).run P w = .ok (.value v) w' := by
  unfold copyOf at h
  split at h
  · rename_i c hop
    split at h
    · rename_i d1 dl1 dc a1 sl1 sc t t' hcal hev hty
      split at h
      · rename_i q1 sz1 by1 z1 hr
        split at h
        · rename_i r2 hr2
          split at h
          · rename_i hone
            cases h
            have hi := (hT.row hr2).2
            refine ⟨t, t', dc, sc, q1, (hT.row hr).1, ?_, fun act hf v w w' hrun => ?_⟩
            · cases hinf : P.info? q1 with
              | none => rw [hinf] at hi; cases hi
              | some inf =>
                rw [hinf] at hi
                simp only [Option.map_some, Option.some.injEq, Prod.mk.injEq] at hi
                rw [Option.map_some, hi.1, Nat.eq_of_beq_eq_true hone]
            · obtain ⟨dst, op, type, pos, after, guard⟩ := o
              simp only at hop
              subst hop
              obtain ⟨callee, args, argTypes⟩ := c
              simp only at hcal hev hty hrun
              subst hcal
              have hargs : args.map act.eval = #[.slice d dl dc, .slice a sl sc] := map_of_toList (hf.evs hev)
              have hts : argTypes = #[t, t'] := by obtain ⟨ats⟩ := argTypes; simp only at hty; subst hty; rfl
              subst hts
              simp only [execOp, resolve, hargs]
              refine (run_bind_ok (show _ = Result.ok _ w from rfl)).trans ?_
              exact (run_bind_ok (x := v) (w' := w') hrun).trans rfl
          · cases h
        · cases h
      · cases h
    · cases h
  · cases h
theorem chg_setRow {w : World} {g : Nat} {cs : Array Value} : Chg (fun b => b = g) w (w.setRow g cs) := ⟨rfl, rfl, rfl, by simp, fun b hb hne => setRow_other w g b _ hne⟩
theorem Goes.copy (hT : TabOk P T) {g o' dl sl d : Nat} {a : Addr} {cur cs : List Value} {t : TypeId} (h : atHead (copyOf T e) n s e = some ((some ⟨g, o', none⟩, dl, some a, sl), d, s')) (hg' : w.heap[g]? = some (.cells cur.toArray t (0, 0)))
    (hn : cs.length = Nat.min sl dl) (hsrc : ∀ j v, cs[j]? = some v → w.cell? (a.add j) = some v) (hfit : o' + cs.length ≤ cur.length) (h1 : ∀ v ∈ cs, v.oneCell' = true)
    (hg : ∀ w1, w1.heap[g]? = some (.cells (cur.take o' ++ cs ++ cur.drop (o' + cs.length)).toArray t (0, 0)) → Chg (fun b => b = g) w w1 → w1.heap.size = w.heap.size → Goes P f R n ds s' ((d, false, .int .i64 cs.length) :: e) w1) : Goes P f R n ds s e w := by
  obtain ⟨o, ho, hd, hlt, hx⟩ := atHead_ok h
  obtain ⟨dT, sT, dc, sc, elem, hu, hs, hex⟩ := copyOf_exec (n := n) hT hx
  have hrun := run_copy_row (P := P) w dT sT o.type elem g o' dl dc a sl sc cur.toArray t cs hu hs hg' hn hsrc (by simpa using hfit) h1
  exact Goes.head ho (by rw [hd]; exact putE_lt hlt) (fun a hf => .inl (hex a hf _ _ _ hrun)) (hg _ (by simpa using setRow_heap w g cur.toArray _ t _ hg') chg_setRow (by simp))
theorem Goes.copy0 (hT : TabOk P T) {dl sl d : Nat} {x a : Option Addr} {s2 : List Item} {e2 : Env} (h : atHead (copyOf T e) n s e = some ((x, dl, a, sl), d, s')) (h0 : Nat.min sl dl = 0)
    (ha : Go.Proofs.Ytommemplakcaaaa.adv T n 400 s' ((d, false, .int .i64 0) :: e) = (s2, e2)) (hg : Goes P f R n ds s2 e2 w) : Goes P f R n ds s e w := by
  refine Goes.val (v := .int .i64 0) (w' := w) h (fun o ho act hf => ?_) (Goes.adv hT 400 ha hg)
  obtain ⟨dT, sT, dc, sc, elem, hu, hs, hex⟩ := copyOf_exec (n := n) hT ho
  exact hex act hf _ _ _ (run_copy_none (P := P) w dT sT o.type elem x a dl dc sl sc hu hs h0)
end
end Go.Proofs.Ytommemplakcaaaa
