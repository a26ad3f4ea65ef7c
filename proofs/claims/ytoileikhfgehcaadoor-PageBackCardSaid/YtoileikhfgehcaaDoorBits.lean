/-
  Layer 11: places that are set, or not.
-/
import Derived.Test.YtoileikhfgehcaaDoorTz
import Derived.Test.YtoileikhfgehcaaDoorIdx
namespace Go.Proofs.YtoileikhfgehcaaDoor
open Go.RowKit

/-- Go's table of math/bits lies as its text lays it. -/
def TabAt (w : World) : Prop := ∀ j, j < 64 → w.cell? ⟨0, j, none⟩ = some (.int .u8 (deB.getD j 0 : Nat))
theorem TabAt.chg {S : Nat → Prop} {w w' : World} (h : TabAt w) (hc : Chg S w w') (hs : ¬ S 0) : TabAt w' := fun j hj => hc.cell (h j hj) hs
theorem TabAt.grow {w w' : World} (h : TabAt w) (hc : Chg None' w w') : TabAt w' := h.chg hc id

theorem bits_TZ (x t : Nat) (w : World) (hT0 : TabAt w) (hx : x < 2 ^ 64) (ht : t < 64) (h1 : x.testBit t = true) (h0 : ∀ j, j < t → x.testBit j = false) : Does Tryd.prog 42 #[.int .u64 x] w (Same (.int .i64 t) w) := by
  have hx0 : 0 < x := by
    rcases Nat.eq_zero_or_pos x with h | h
    · subst h; simp at h1
    · exact h
  refine Does.enter Tryd.func42 rfl Tryd.ntmps42 rfl rfl ?_
  refine Goes.adv hTT 400 rfl ?_
  refine Goes.no hTT rfl (by simp; omega) rfl ?_
  refine Goes.un hTT rfl (un_neg hx hx0) rfl ?_
  refine Goes.bits hTT rfl (bit_and hx (by omega)) rfl ?_
  rw [and_neg hx ht h1 h0]
  have hdb := deB_at t ht
  obtain ⟨j, hj⟩ : ∃ j, j = (2 ^ t * 285870213051353865) % 2 ^ 64 / 2 ^ 58 := ⟨_, rfl⟩
  rw [← hj] at hdb
  have hj64 : j < 64 := by rw [hj]; exact (Nat.div_lt_iff_lt_mul (by decide)).2 (Nat.lt_of_lt_of_le (Nat.mod_lt _ (by decide)) (by decide))
  refine Goes.arith hTT rfl (show IntKind.u64.wrap (((2 ^ t : Nat) : Int) * 285870213051353865) = (((2 ^ t * 285870213051353865) % 2 ^ 64 : Nat) : Int) from by simp only [IntKind.wrap, IntKind.signed, IntKind.bits]; simp) rfl ?_
  refine Goes.shift hTT rfl (by omega) (show shV false .u64 (((2 ^ t * 285870213051353865) % 2 ^ 64 : Nat) : Int) 58 = (((2 ^ t * 285870213051353865) % 2 ^ 64 / 2 ^ 58 : Nat) : Int) from sh_right (j := 58) (by decide)) rfl ?_
  rw [← hj]
  have hcell : w.cell? ⟨0, 0 + j, none⟩ = some (.int .u8 (t : Int)) := by rw [Nat.zero_add, hT0 j hj64, List.getD_eq_getElem?_getD, hdb]; rfl
  refine Goes.index hTT rfl (j := j) (by omega) (by omega) (by first | rfl | omega | (simp; done) | (simp; omega)) rfl ?_
  refine Goes.load hTT rfl hcell rfl ?_
  refine Goes.arith hTT rfl (w64 (by omega)) rfl ?_
  exact Goes.ret1 hTT rfl Tryd.func42 rfl rfl ⟨rfl, rfl⟩
theorem bits_TZ0 (w : World) : Does Tryd.prog 42 #[.int .u64 0] w (Same (.int .i64 64) w) := by
  refine Does.enter Tryd.func42 rfl Tryd.ntmps42 rfl rfl ?_
  refine Goes.adv hTT 400 rfl ?_
  refine Goes.yes hTT rfl rfl rfl ?_
  exact Goes.ret1 hTT rfl Tryd.func42 rfl rfl ⟨rfl, rfl⟩
theorem wrap_u8' {z : Int} : IntKind.u8.wrap z = z % 256 := by
  simp only [IntKind.wrap, IntKind.signed, IntKind.bits]
  simp
theorem len8_of {b : ByteArray} (h : ∀ z : Fin 256, (b[z.val]?).map (fun x => (x.toNat : Int)) = some ((len8 z.val : Nat) : Int)) {y : Nat} (hy : y < 256) : (b[((y : Nat) : Int).toNat]?).map (fun x => (x.toNat : Int)) = some ((len8 y : Nat) : Int) := by
  rw [Int.toNat_natCast]; exact h ⟨y, hy⟩
/-- x has so many bits as y, and c more. -/
def More (x y c : Nat) : Prop := ∀ m, IsLen y m → IsLen x (m + c)
theorem More.step {x y c k : Nat} (h : More x y c) (hy : 2 ^ k ≤ y) : More x (y / 2 ^ k) (k + c) := fun m hm => by
  have hp : 0 < 2 ^ k := Nat.pow_pos (by decide)
  have := h _ (hm.shift (hm.pos (Nat.div_pos hy hp)))
  rwa [Nat.add_assoc] at this
theorem More.self (x : Nat) : More x x 0 := fun m hm => hm
theorem bits_Len64 (x : Nat) (w : World) (hx : x < 2 ^ 64) : Does Tryd.prog 43 #[.int .u64 x] w (fun v w' => ∃ n, IsLen x n ∧ v = .int .i64 n ∧ w = w') := by
  refine Does.enter Tryd.func43 rfl Tryd.ntmps43 rfl rfl ?_
  refine Goes.adv hTT 400 rfl ?_
  refine Goes.fork hTT rfl rfl rfl (fun h32 => ?_) (fun h32 => ?_)
  · have g32 : 4294967296 ≤ x := by have := of_decide_eq_true h32; omega
    refine Goes.shift hTT rfl (by omega) (sh_right (x := x) (j := 32) (by decide)) rfl ?_
    have hq : x / 2 ^ 32 < 4294967296 := by omega
    refine Goes.fork hTT rfl rfl rfl (fun h16 => ?_) (fun h16 => ?_)
    · have g16 : 65536 ≤ x / 2 ^ 32 := by have := of_decide_eq_true h16; omega
      refine Goes.shift hTT rfl (by omega) (sh_right (x := x / 2 ^ 32) (j := 16) (by decide)) rfl ?_
      refine Goes.arith hTT rfl (w64 (by omega)) rfl ?_
      have hz : (x / 2 ^ 32) / 2 ^ 16 < 65536 := by omega
      refine Goes.fork hTT rfl rfl rfl (fun h8 => ?_) (fun h8 => ?_)
      · have g8 : 256 ≤ (x / 2 ^ 32) / 2 ^ 16 := by have := of_decide_eq_true h8; omega
        refine Goes.shift hTT rfl (by omega) (sh_right (x := (x / 2 ^ 32) / 2 ^ 16) (j := 8) (by decide)) rfl ?_
        refine Goes.arith hTT rfl (w64 (by omega)) rfl ?_
        have hy : ((x / 2 ^ 32) / 2 ^ 16) / 2 ^ 8 < 256 := by omega
        have hl8 := (len8_is hy).le (k := 8) hy
        refine Goes.arith hTT rfl (show IntKind.u8.wrap ((((x / 2 ^ 32) / 2 ^ 16) / 2 ^ 8 : Nat) : Int) = ((((x / 2 ^ 32) / 2 ^ 16) / 2 ^ 8 : Nat) : Int) from by rw [wrap_u8']; omega) rfl ?_
        refine Goes.sidx hTT rfl (by omega) (len8_of (by decide +kernel) hy) rfl ?_
        refine Goes.arith hTT rfl (w64 (by omega)) rfl ?_
        refine Goes.arith hTT rfl (w64 (by omega)) rfl ?_
        exact Goes.ret1 hTT rfl Tryd.func43 rfl rfl ⟨len8 (((x / 2 ^ 32) / 2 ^ 16) / 2 ^ 8) + (8 + (16 + (32 + 0))), ((((((More.self x).step (k := 32) g32)).step (k := 16) g16)).step (k := 8) g8) _ (len8_is hy), int_v (by omega), rfl⟩
      · have hy : ((x / 2 ^ 32) / 2 ^ 16) < 256 := by have := of_decide_eq_false h8; omega
        have hl8 := (len8_is hy).le (k := 8) hy
        refine Goes.arith hTT rfl (show IntKind.u8.wrap (((x / 2 ^ 32) / 2 ^ 16 : Nat) : Int) = (((x / 2 ^ 32) / 2 ^ 16 : Nat) : Int) from by rw [wrap_u8']; omega) rfl ?_
        refine Goes.sidx hTT rfl (by omega) (len8_of (by decide +kernel) hy) rfl ?_
        refine Goes.arith hTT rfl (w64 (by omega)) rfl ?_
        refine Goes.arith hTT rfl (w64 (by omega)) rfl ?_
        exact Goes.ret1 hTT rfl Tryd.func43 rfl rfl ⟨len8 ((x / 2 ^ 32) / 2 ^ 16) + (16 + (32 + 0)), (((((More.self x).step (k := 32) g32)).step (k := 16) g16)) _ (len8_is hy), int_v (by omega), rfl⟩
    · have hz : (x / 2 ^ 32) < 65536 := by have := of_decide_eq_false h16; omega
      refine Goes.fork hTT rfl rfl rfl (fun h8 => ?_) (fun h8 => ?_)
      · have g8 : 256 ≤ x / 2 ^ 32 := by have := of_decide_eq_true h8; omega
        refine Goes.shift hTT rfl (by omega) (sh_right (x := x / 2 ^ 32) (j := 8) (by decide)) rfl ?_
        refine Goes.arith hTT rfl (w64 (by omega)) rfl ?_
        have hy : (x / 2 ^ 32) / 2 ^ 8 < 256 := by omega
        have hl8 := (len8_is hy).le (k := 8) hy
        refine Goes.arith hTT rfl (show IntKind.u8.wrap (((x / 2 ^ 32) / 2 ^ 8 : Nat) : Int) = (((x / 2 ^ 32) / 2 ^ 8 : Nat) : Int) from by rw [wrap_u8']; omega) rfl ?_
        refine Goes.sidx hTT rfl (by omega) (len8_of (by decide +kernel) hy) rfl ?_
        refine Goes.arith hTT rfl (w64 (by omega)) rfl ?_
        refine Goes.arith hTT rfl (w64 (by omega)) rfl ?_
        exact Goes.ret1 hTT rfl Tryd.func43 rfl rfl ⟨len8 ((x / 2 ^ 32) / 2 ^ 8) + (8 + (32 + 0)), ((((More.self x).step (k := 32) g32)).step (k := 8) g8) _ (len8_is hy), int_v (by omega), rfl⟩
      · have hy : (x / 2 ^ 32) < 256 := by have := of_decide_eq_false h8; omega
        have hl8 := (len8_is hy).le (k := 8) hy
        refine Goes.arith hTT rfl (show IntKind.u8.wrap ((x / 2 ^ 32 : Nat) : Int) = ((x / 2 ^ 32 : Nat) : Int) from by rw [wrap_u8']; omega) rfl ?_
        refine Goes.sidx hTT rfl (by omega) (len8_of (by decide +kernel) hy) rfl ?_
        refine Goes.arith hTT rfl (w64 (by omega)) rfl ?_
        refine Goes.arith hTT rfl (w64 (by omega)) rfl ?_
        exact Goes.ret1 hTT rfl Tryd.func43 rfl rfl ⟨len8 (x / 2 ^ 32) + (32 + 0), (((More.self x).step (k := 32) g32)) _ (len8_is hy), int_v (by omega), rfl⟩
  · have hq : x < 4294967296 := by have := of_decide_eq_false h32; omega
    refine Goes.fork hTT rfl rfl rfl (fun h16 => ?_) (fun h16 => ?_)
    · have g16 : 65536 ≤ x := by have := of_decide_eq_true h16; omega
      refine Goes.shift hTT rfl (by omega) (sh_right (x := x) (j := 16) (by decide)) rfl ?_
      refine Goes.arith hTT rfl (w64 (by omega)) rfl ?_
      have hz : (x) / 2 ^ 16 < 65536 := by omega
      refine Goes.fork hTT rfl rfl rfl (fun h8 => ?_) (fun h8 => ?_)
      · have g8 : 256 ≤ (x) / 2 ^ 16 := by have := of_decide_eq_true h8; omega
        refine Goes.shift hTT rfl (by omega) (sh_right (x := (x) / 2 ^ 16) (j := 8) (by decide)) rfl ?_
        refine Goes.arith hTT rfl (w64 (by omega)) rfl ?_
        have hy : ((x) / 2 ^ 16) / 2 ^ 8 < 256 := by omega
        have hl8 := (len8_is hy).le (k := 8) hy
        refine Goes.arith hTT rfl (show IntKind.u8.wrap ((((x) / 2 ^ 16) / 2 ^ 8 : Nat) : Int) = ((((x) / 2 ^ 16) / 2 ^ 8 : Nat) : Int) from by rw [wrap_u8']; omega) rfl ?_
        refine Goes.sidx hTT rfl (by omega) (len8_of (by decide +kernel) hy) rfl ?_
        refine Goes.arith hTT rfl (w64 (by omega)) rfl ?_
        refine Goes.arith hTT rfl (w64 (by omega)) rfl ?_
        exact Goes.ret1 hTT rfl Tryd.func43 rfl rfl ⟨len8 (((x) / 2 ^ 16) / 2 ^ 8) + (8 + (16 + (0))), ((((More.self x).step (k := 16) g16)).step (k := 8) g8) _ (len8_is hy), int_v (by omega), rfl⟩
      · have hy : ((x) / 2 ^ 16) < 256 := by have := of_decide_eq_false h8; omega
        have hl8 := (len8_is hy).le (k := 8) hy
        refine Goes.arith hTT rfl (show IntKind.u8.wrap (((x) / 2 ^ 16 : Nat) : Int) = (((x) / 2 ^ 16 : Nat) : Int) from by rw [wrap_u8']; omega) rfl ?_
        refine Goes.sidx hTT rfl (by omega) (len8_of (by decide +kernel) hy) rfl ?_
        refine Goes.arith hTT rfl (w64 (by omega)) rfl ?_
        refine Goes.arith hTT rfl (w64 (by omega)) rfl ?_
        exact Goes.ret1 hTT rfl Tryd.func43 rfl rfl ⟨len8 ((x) / 2 ^ 16) + (16 + (0)), (((More.self x).step (k := 16) g16)) _ (len8_is hy), int_v (by omega), rfl⟩
    · have hz : (x) < 65536 := by have := of_decide_eq_false h16; omega
      refine Goes.fork hTT rfl rfl rfl (fun h8 => ?_) (fun h8 => ?_)
      · have g8 : 256 ≤ x := by have := of_decide_eq_true h8; omega
        refine Goes.shift hTT rfl (by omega) (sh_right (x := x) (j := 8) (by decide)) rfl ?_
        refine Goes.arith hTT rfl (w64 (by omega)) rfl ?_
        have hy : (x) / 2 ^ 8 < 256 := by omega
        have hl8 := (len8_is hy).le (k := 8) hy
        refine Goes.arith hTT rfl (show IntKind.u8.wrap (((x) / 2 ^ 8 : Nat) : Int) = (((x) / 2 ^ 8 : Nat) : Int) from by rw [wrap_u8']; omega) rfl ?_
        refine Goes.sidx hTT rfl (by omega) (len8_of (by decide +kernel) hy) rfl ?_
        refine Goes.arith hTT rfl (w64 (by omega)) rfl ?_
        refine Goes.arith hTT rfl (w64 (by omega)) rfl ?_
        exact Goes.ret1 hTT rfl Tryd.func43 rfl rfl ⟨len8 ((x) / 2 ^ 8) + (8 + (0)), ((More.self x).step (k := 8) g8) _ (len8_is hy), int_v (by omega), rfl⟩
      · have hy : (x) < 256 := by have := of_decide_eq_false h8; omega
        have hl8 := (len8_is hy).le (k := 8) hy
        refine Goes.arith hTT rfl (show IntKind.u8.wrap ((x : Nat) : Int) = ((x : Nat) : Int) from by rw [wrap_u8']; omega) rfl ?_
        refine Goes.sidx hTT rfl (by omega) (len8_of (by decide +kernel) hy) rfl ?_
        refine Goes.arith hTT rfl (w64 (by omega)) rfl ?_
        refine Goes.arith hTT rfl (w64 (by omega)) rfl ?_
        exact Goes.ret1 hTT rfl Tryd.func43 rfl rfl ⟨len8 (x) + (0), (More.self x) _ (len8_is hy), int_v (by omega), rfl⟩

/-- How many are set. -/
def cnt : List Bool → Nat
  | [] => 0
  | b :: r => (if b then 1 else 0) + cnt r
theorem cnt_le : ∀ (x : List Bool), cnt x ≤ x.length
  | [] => Nat.le_refl _
  | b :: r => by have := cnt_le r; simp only [cnt, List.length_cons]; split <;> omega
theorem cnt_full : ∀ {x : List Bool}, cnt x = x.length → ∀ j (h : j < x.length), x[j] = true
  | [], _, j, h => by simp at h
  | b :: r, hc, j, h => by
    have := cnt_le r
    simp only [cnt, List.length_cons] at hc
    cases b with
    | false => simp at hc; omega
    | true =>
      cases j with
      | zero => rfl
      | succ j => simp; exact cnt_full (by simp at hc; omega) j (by simpa using h)
theorem cnt_not_full : ∀ {x : List Bool}, cnt x ≠ x.length → ∃ j, ∃ h : j < x.length, x[j] = false
  | [], hc => by simp [cnt] at hc
  | b :: r, hc => by
    cases b with
    | false => exact ⟨0, by simp, rfl⟩
    | true =>
      have : cnt r ≠ r.length := by simp only [cnt, List.length_cons] at hc; simp at hc; omega
      obtain ⟨j, h, e⟩ := cnt_not_full this
      exact ⟨j + 1, by simpa using h, by simpa using e⟩
theorem cnt_set : ∀ (x : List Bool) (i : Nat) (h : i < x.length) (b : Bool), cnt (x.set i b) + (if x[i] then 1 else 0) = cnt x + (if b then 1 else 0)
  | [], i, h, b => by simp at h
  | a :: r, 0, h, b => by simp only [List.set_cons_zero, cnt, List.getElem_cons_zero]; omega
  | a :: r, i + 1, h, b => by
    have := cnt_set r i (by simpa using h) b
    simp only [List.set_cons_succ, cnt, List.getElem_cons_succ]
    omega
theorem cnt_zero : ∀ {x : List Bool}, cnt x = 0 → ∀ j (h : j < x.length), x[j] = false
  | [], _, j, h => by simp at h
  | b :: r, hc, j, h => by
    cases b with
    | true => simp [cnt] at hc
    | false =>
      cases j with
      | zero => rfl
      | succ j => simp; exact cnt_zero (by simpa [cnt] using hc) j (by simpa using h)
theorem cnt_replicate (n : Nat) : cnt (List.replicate n false) = 0 := by
  induction n with
  | zero => rfl
  | succ n ih => simp [List.replicate_succ, cnt, ih]
def lowM (x : List Bool) : Int := idx (fun b => !b) x
def highM (x : List Bool) : Int := ridx id x
def hasM (x : List Bool) (i : Int) : Bool := decide (0 ≤ i) && x.getD i.toNat false
def inM (x : List Bool) (i : Int) : Bool := decide (0 ≤ i) && decide (i < x.length)
theorem hasM_in {x : List Bool} {i : Int} (h : hasM x i = true) : inM x i = true := by
  unfold hasM at h
  unfold inM
  simp only [Bool.and_eq_true, decide_eq_true_eq] at h ⊢
  refine ⟨h.1, ?_⟩
  rcases Nat.lt_or_ge i.toNat x.length with h2 | h2
  · omega
  · have := h.2
    rw [List.getD_eq_getElem?_getD, List.getElem?_eq_none h2] at this
    cases this
/-- What is wrong with a setting. -/
def setE (x : List Bool) (i : Int) (b : Bool) : Int :=
  if inM x i = false then 1 else if b && hasM x i then 10 else if !b && !hasM x i then 9 else 0
def setB (x : List Bool) (i : Int) (b : Bool) : List Bool := if setE x i b = 0 then x.set i.toNat b else x
/-- How bits lie. -/
def bitsL (ws : List Nat) (x : List Bool) : List Value := ws.map (fun n : Nat => Value.int .u64 (n : Int)) ++ [Value.int .i64 (x.length : Int), Value.int .i64 (cnt x : Int)]
structure BitsOk (w : World) (b : Nat) (x : List Bool) : Prop where
  tab : TabAt w
  ws : ∃ ws : List Nat, ws.length = 8 ∧ (∀ k, ws.getD k 0 < 2 ^ 64) ∧ (∀ k j, j < 64 → (ws.getD k 0).testBit j = x.getD (64 * k + j) false) ∧
    w.heap[b]? = some (.cells (bitsL ws x).toArray 66 (0, 0))
  pos : 1 ≤ x.length
  len : x.length ≤ 512
theorem BitsOk.chg {S : Nat → Prop} {w w' : World} {b : Nat} {x : List Bool} (h : BitsOk w b x) (hc : Chg S w w') (hs : ¬ S b) (hg : ¬ S 0) : BitsOk w' b x := by
  obtain ⟨ws, h1, h2, h3, h4⟩ := h.ws
  exact ⟨h.tab.chg hc hg, ⟨ws, h1, h2, h3, hc.heap h4 hs⟩, h.pos, h.len⟩
theorem BitsOk.grow {w w' : World} {b : Nat} {x : List Bool} (h : BitsOk w b x) (hc : Chg None' w w') : BitsOk w' b x := h.chg hc id id
theorem BitsOk.ne {w : World} {b : Nat} {x : List Bool} (h : BitsOk w b x) : 0 ≠ b := by
  obtain ⟨ws, h1, h2, h3, h4⟩ := h.ws
  intro e
  have := h.tab 0 (by decide)
  subst e
  rw [cell_of h4] at this
  match ws, h1 with
  | c :: r, _ => simp [bitsL] at this
theorem bits_many {w : World} {b : Nat} {x : List Bool} {ws : List Nat} (h1 : ws.length = 8) (h : w.heap[b]? = some (.cells (bitsL ws x).toArray 66 (0, 0))) : w.cell? ⟨b, 8, none⟩ = some (.int .i64 x.length) := by
  rw [cell_of h]; simp [bitsL, h1]
theorem bits_cnt {w : World} {b : Nat} {x : List Bool} {ws : List Nat} (h1 : ws.length = 8) (h : w.heap[b]? = some (.cells (bitsL ws x).toArray 66 (0, 0))) : w.cell? ⟨b, 9, none⟩ = some (.int .i64 (cnt x)) := by
  rw [cell_of h]; simp [bitsL, h1]
theorem bits_word {w : World} {b k : Nat} {x : List Bool} {ws : List Nat} (h1 : ws.length = 8) (h : w.heap[b]? = some (.cells (bitsL ws x).toArray 66 (0, 0))) (hk : k < 8) : w.cell? ⟨b, 0 + k, none⟩ = some (.int .u64 (ws.getD k 0 : Nat)) := by
  have hk' : k < ws.length := by omega
  rw [cell_of h, Nat.zero_add]
  simp only [List.getElem?_toArray, List.getD_eq_getElem?_getD, bitsL]
  rw [List.getElem?_append_left (by simpa using hk'), List.getElem?_map, List.getElem?_eq_getElem hk']
  rfl
theorem BitsOk.many {w : World} {b : Nat} {x : List Bool} (h : BitsOk w b x) : w.cell? ⟨b, 8, none⟩ = some (.int .i64 x.length) := by
  obtain ⟨ws, h1, h2, h3, h4⟩ := h.ws; exact bits_many h1 h4
theorem BitsOk.cnt {w : World} {b : Nat} {x : List Bool} (h : BitsOk w b x) : w.cell? ⟨b, 9, none⟩ = some (.int .i64 (cnt x)) := by
  obtain ⟨ws, h1, h2, h3, h4⟩ := h.ws; exact bits_cnt h1 h4
theorem BitsOk.lt {w : World} {b : Nat} {x : List Bool} (h : BitsOk w b x) : b < w.heap.size := by
  obtain ⟨ws, h1, h2, h3, h4⟩ := h.ws; exact lt_of_heap h4
theorem getD_rep {α : Type} (n k : Nat) (x : α) : (List.replicate n x).getD k x = x := by
  rw [List.getD_eq_getElem?_getD, List.getElem?_replicate]; split <;> rfl
theorem bits_New (m : Nat) (w : World) (hT0 : TabAt w) (h : 1 ≤ m ∧ m ≤ 512) : Does Tryd.prog 14 #[.int .i64 m] w (fun v w' => ∃ b, v = .tuple #[.pointer (some ⟨b, 0, none⟩), .int .i64 0] ∧ w.heap.size ≤ b ∧ BitsOk w' b (List.replicate m false) ∧ Chg None' w w') := by
  refine Does.enter Tryd.func14 rfl Tryd.ntmps14 rfl rfl ?_
  refine Goes.adv hTT 400 rfl ?_
  refine Goes.no hTT rfl (decide_eq_false (by omega)) rfl ?_
  refine Goes.no hTT rfl (decide_eq_false (by omega)) rfl ?_
  refine Goes.build hTT rfl rfl ?_
  refine Goes.alloc hTT rfl ?_
  intro b w1 e1 hb hw1 hz1
  refine Goes.adv hTT 400 rfl ?_
  have hlen : (List.replicate m false).length = m := List.length_replicate
  exact Goes.ret2 hTT rfl Tryd.func14 rfl rfl rfl ⟨b, rfl, by omega, ⟨hT0.grow hw1, ⟨List.replicate 8 0, rfl, fun k => by rw [getD_rep]; decide, fun k j hj => by rw [getD_rep, getD_rep]; simp, by unfold bitsL; rw [hlen, cnt_replicate]; exact hb⟩, by omega, by omega⟩, hw1⟩
theorem bits_New_no (m : Int) (w : World) (h : ¬ (1 ≤ m ∧ m ≤ 512)) : Does Tryd.prog 14 #[.int .i64 m] w (Same (.tuple #[.pointer none, .int .i64 1]) w) := by
  refine Does.enter Tryd.func14 rfl Tryd.ntmps14 rfl rfl ?_
  refine Goes.adv hTT 400 rfl ?_
  refine Goes.fork hTT rfl rfl rfl (fun h1 => ?_) (fun h1 => ?_)
  · exact Goes.ret2 hTT rfl Tryd.func14 rfl rfl rfl ⟨rfl, rfl⟩
  have g1 := of_decide_eq_false h1
  refine Goes.yes hTT rfl (decide_eq_true (by omega)) rfl ?_
  exact Goes.ret2 hTT rfl Tryd.func14 rfl rfl rfl ⟨rfl, rfl⟩
theorem bits_there (b : Nat) (x : List Bool) (i : Int) (w : World) (h : BitsOk w b x) : Does Tryd.prog 38 #[.pointer (some ⟨b, 0, none⟩), .int .i64 i] w (Same (.bool (inM x i)) w) := by
  refine Does.enter Tryd.func38 rfl Tryd.ntmps38 rfl rfl ?_
  refine Goes.adv hTT 400 rfl ?_
  refine Goes.fork hTT rfl rfl rfl (fun h1 => ?_) (fun h1 => ?_)
  · have g1 : 0 ≤ i := of_decide_eq_true h1
    refine Goes.load hTT rfl h.many rfl ?_
    exact Goes.ret1 hTT rfl Tryd.func38 rfl rfl ⟨bool_v (by unfold inM; rw [decide_eq_true g1]; rfl), rfl⟩
  · have g1 : ¬ 0 ≤ i := of_decide_eq_false h1
    exact Goes.ret1 hTT rfl Tryd.func38 rfl rfl ⟨bool_v (by unfold inM; rw [decide_eq_false g1]; rfl), rfl⟩
theorem bits_there_nil (i : Int) (w : World) : Does Tryd.prog 38 #[.pointer none, .int .i64 i] w (Same (.bool false) w) := by
  refine Does.enter Tryd.func38 rfl Tryd.ntmps38 rfl rfl ?_
  refine Goes.adv hTT 400 rfl ?_
  exact Goes.ret1 hTT rfl Tryd.func38 rfl rfl ⟨rfl, rfl⟩
theorem bits_Has (b : Nat) (x : List Bool) (i : Int) (w : World) (h : BitsOk w b x) : Does Tryd.prog 19 #[.pointer (some ⟨b, 0, none⟩), .int .i64 i] w (Same (.bool (hasM x i)) w) := by
  have hl := h.len
  obtain ⟨ws, h1, h2, h3, h4⟩ := h.ws
  refine Does.enter Tryd.func19 rfl Tryd.ntmps19 rfl rfl ?_
  refine Goes.adv hTT 400 rfl ?_
  refine Goes.call rfl (bits_there b x i w h) ?_
  rintro _ _ ⟨rfl, rfl⟩
  refine Goes.adv hTT 400 rfl ?_
  cases hin : inM x i with
  | false =>
    have hno : hasM x i = false := by cases hh : hasM x i; rfl; rw [hasM_in hh] at hin; cases hin
    refine Goes.no hTT rfl rfl rfl ?_
    exact Goes.ret1 hTT rfl Tryd.func19 rfl rfl ⟨bool_v hno.symm, rfl⟩
  | true =>
    have hi : 0 ≤ i ∧ i < x.length := by unfold inM at hin; simpa using hin
    obtain ⟨i, rfl⟩ := Int.eq_ofNat_of_zero_le hi.1
    have hk : i / 64 < 8 := by omega
    refine Goes.yes hTT rfl rfl rfl ?_
    refine Goes.div hTT rfl (by omega) (quo64 (by omega) (by omega)) rfl ?_
    refine Goes.index hTT rfl (j := (i / 64)) (by omega) (by omega) (by first | rfl | omega | (simp; done) | (simp; omega)) rfl ?_
    refine Goes.load hTT rfl (bits_word h1 h4 hk) rfl ?_
    refine Goes.div hTT rfl (by omega) (rem_ (by omega)) rfl ?_
    rw [show ((i : Int) % 64) = ((i % 64 : Nat) : Int) from by omega]
    refine Goes.shift hTT rfl (by omega) (sh_right (by omega)) rfl ?_
    refine Goes.bits hTT rfl (bit_and (y := 1) (Nat.lt_of_le_of_lt (Nat.div_le_self _ _) (h2 _)) (by decide)) rfl ?_
    rw [and_one]
    have hbit := h3 (i / 64) (i % 64) (by omega)
    rw [show 64 * (i / 64) + i % 64 = i from by omega] at hbit
    exact Goes.ret1 hTT rfl Tryd.func19 rfl rfl ⟨bool_v (by rw [bit_odd, hbit]; unfold hasM; simp), rfl⟩
theorem bits_Has_nil (i : Int) (w : World) : Does Tryd.prog 19 #[.pointer none, .int .i64 i] w (Same (.bool false) w) := by
  refine Does.enter Tryd.func19 rfl Tryd.ntmps19 rfl rfl ?_
  refine Goes.adv hTT 400 rfl ?_
  refine Goes.call rfl (bits_there_nil i w) ?_
  rintro _ _ ⟨rfl, rfl⟩
  refine Goes.adv hTT 400 rfl ?_
  refine Goes.no hTT rfl rfl rfl ?_
  exact Goes.ret1 hTT rfl Tryd.func19 rfl rfl ⟨rfl, rfl⟩
theorem bits_Count (b : Nat) (x : List Bool) (w : World) (h : BitsOk w b x) : Does Tryd.prog 23 #[.pointer (some ⟨b, 0, none⟩)] w (Same (.int .i64 (cnt x)) w) := by
  refine Does.enter Tryd.func23 rfl Tryd.ntmps23 rfl rfl ?_
  refine Goes.adv hTT 400 rfl ?_
  refine Goes.load hTT rfl h.cnt rfl ?_
  exact Goes.ret1 hTT rfl Tryd.func23 rfl rfl ⟨rfl, rfl⟩
theorem bits_Count_nil (w : World) : Does Tryd.prog 23 #[.pointer none] w (Same (.int .i64 0) w) := by
  refine Does.enter Tryd.func23 rfl Tryd.ntmps23 rfl rfl ?_
  refine Goes.adv hTT 400 rfl ?_
  exact Goes.ret1 hTT rfl Tryd.func23 rfl rfl ⟨rfl, rfl⟩
end Go.Proofs.YtoileikhfgehcaaDoor
