/-
  Layer 21: a view: reading, writing, clearing.
-/
import Derived.Test.YtffimkpllchfcaaView4
import Derived.Test.YtffimkpllchfcaaArena3
namespace Go.Proofs.Ytffimkpllchfcaa
open Go.RowKit

/-- Each part lies in the arena; all together are as many as was asked. -/
theorem parts_in {c : Conf} {q : Plc} {at' n : Nat} (hm : mayB c = true) (hck : checkM c q at' n = 0) (hfew : q.pages.length ≤ 4096) :
    ∀ p ∈ partsM c q at' n, ∃ i m : Nat, p = ((i : Int), (m : Int)) ∧ ((i + m : Nat) : Int) ≤ c.size * c.pages := by
  obtain ⟨m1, m2, m3⟩ := may_facts hm
  have hi : viewIs c q = true := by
    cases hi : viewIs c q with
    | true => rfl
    | false => unfold checkM at hck; rw [if_pos hi] at hck; cases hck
  have hgood : ¬ ((at' : Int) < 0 ∨ (n : Int) < 0 ∨ viewHolds c q < n ∨ viewHolds c q - n < at') := fun h => by
    unfold checkM at hck; rw [if_neg (by rw [hi]; decide), if_pos h] at hck; cases hck
  intro p hp
  unfold partsM at hp
  split at hp
  · rename_i hcl
    obtain ⟨s, hs, rfl⟩ := List.mem_map.1 hp
    obtain ⟨hpos, hpg⟩ := is_large hi hcl
    have hho : viewHolds c q = (q.pages.length : Int) * c.size := by unfold viewHolds; rw [if_pos hi, if_pos hcl]
    obtain ⟨sz, hsz⟩ := Int.eq_ofNat_of_zero_le (show 0 ≤ c.size by omega)
    rw [show c.size.toNat = sz from by omega] at hs
    obtain ⟨i1, i2, i3, i4⟩ := span_in (page := sz) (by omega) n at' s hs
    have hNl : s.1 < q.pages.length := by
      have h1 : (s.1 * sz : Nat) < q.pages.length * sz := by
        have : ((q.pages.length * sz : Nat) : Int) = (q.pages.length : Int) * c.size := by rw [hsz]; rfl
        omega
      exact Nat.lt_of_mul_lt_mul_right h1
    have hpn := hpg _ (show q.pages.getD s.1 0 ∈ q.pages by rw [List.getD_eq_getElem?_getD, List.getElem?_eq_getElem hNl]; exact List.getElem_mem hNl)
    obtain ⟨g, hg⟩ := Int.eq_ofNat_of_zero_le hpn.1
    refine ⟨g * sz + s.2.1, s.2.2, ?_, ?_⟩
    · rw [hg, hsz]; rfl
    · have e2 : (g : Int) * c.size + c.size ≤ c.size * c.pages := by
        have : ((g : Int) + 1) * c.size ≤ c.pages * c.size := Int.mul_le_mul_of_nonneg_right (by omega) (by omega)
        rw [Int.add_mul, Int.one_mul, Int.mul_comm c.pages] at this
        exact this
      have e3 : ((g * sz : Nat) : Int) = (g : Int) * c.size := by rw [hsz]; rfl
      omega
  · rename_i hcl
    simp at hp
    subst hp
    obtain ⟨kk, pg, ix, hkk, hpg, hix, hkl, g1, g2, g3, g4, g5, g6, g7⟩ := is_small hm hi hcl
    have hat : viewAt c q = (pg : Int) * c.size + (ix : Int) * clsM c kk := by unfold viewAt; rw [if_pos ⟨hi, hcl⟩, hkk, hpg, hix]
    have hho : viewHolds c q = clsM c kk := by unfold viewHolds; rw [if_pos hi, if_neg hcl, hkk]
    obtain ⟨a, ha⟩ := Int.eq_ofNat_of_zero_le (show 0 ≤ viewAt c q by omega)
    exact ⟨a + at', n, by rw [ha]; rfl, by omega⟩
/-- An arena's meter behind the parts ahead of k, when each is charged. -/
def vsT (q : Plc) (A : Ar) (V : ArV) (ps : List (Int × Int)) : Nat → ArV
  | 0 => V
  | k + 1 => (chgL q A (vsT q A V ps k)).charge A (ps.getD k (0, 0)).2
theorem chgL_bs (q : Plc) (A : Ar) (V : ArV) : (chgL q A V).bs = V.bs := by unfold chgL; split; exact V.charge_bs A 1; rfl
theorem vsT_bs (q : Plc) (A : Ar) (V : ArV) (ps : List (Int × Int)) : ∀ k, (vsT q A V ps k).bs = V.bs
  | 0 => rfl
  | k + 1 => by unfold vsT; rw [ArV.charge_bs, chgL_bs, vsT_bs q A V ps k]
/-- The bytes of the parts ahead of k. -/
def readM (bs : List Int) (ps : List (Int × Int)) : List Int := ps.flatMap fun p => sub bs p.1.toNat p.2.toNat
theorem view_Read1 (v : Vw) (vb ob : Nat) (A : Ar) (V : ArV) (i m base j : Nat) (u : Value) (xs : List Int) (w : World) (hvb : ptrBox w vb v) (hv : w.heap[v.vb]? = some (.cells (vwL v).toArray 75 (0, 0))) (hab : v.ab = A.ab)
    (hob : w.heap[ob]? = some (.cells ([u] : List Value).toArray 39 (0, 0))) (hown : Own base 5 1 w u j (xs.map (Value.int .u8))) (hbase : base ≤ w.heap.size) (hobb : ob < base) (hA : ArOk w A V) (him : i + m ≤ V.bs.length) (hj : j + m ≤ 16777216)
    (hmo : ∀ z, mFoot A z → z ≠ ob ∧ z < base) (hArow : ∀ b, b = A.ab ∨ b = A.db ∨ b = A.mc ∨ A.mb = some b → some b = u.ownBlock → False) (hAob : ∀ b, b = A.ab ∨ b = A.db ∨ b = A.mc ∨ A.mb = some b → b = ob → False) :
    Does Try.prog 40 #[.int .i64 i, .int .i64 m, .pointer (some ⟨vb, 0, none⟩), .pointer (some ⟨ob, 0, none⟩)] w (fun _ w' => ArOk w' A (V.charge A m) ∧ Chg (fun z => z = ob ∨ some z = u.ownBlock ∨ mFoot A z) w w' ∧
      ∃ u', w'.heap[ob]? = some (.cells ([u'] : List Value).toArray 39 (0, 0)) ∧ Own base 5 1 w' u' (j + m) ((xs ++ sub V.bs i m).map (Value.int .u8)) ∧ ∀ z, some z = u'.ownBlock → some z = u.ownBlock ∨ w.heap.size ≤ z) := by
  have hml : maxLen = 9223372036854775807 := rfl
  refine Does.enter Try.func40 rfl Try.ntmps40 rfl rfl ?_
  refine Goes.adv hTT 400 rfl ?_
  refine Goes.loadb hTT rfl hvb rfl rfl ?_
  refine Goes.loadb hTT rfl hv rfl rfl ?_
  rw [hab]
  refine Goes.call rfl (arena_Read A V i m w hA him) ?_
  rintro _ w1 ⟨v1, rfl, ⟨g, cap, cur, rfl, hg, hgh, hgc, hgt⟩, hA1, hs1⟩
  refine Goes.adv hTT 400 rfl ?_
  have hsl : (sub V.bs i m).length = m := sub_length him
  have hob1 := hs1.heap hob (fun e => (hmo _ e).1 rfl)
  have ho1 := hown.chg hs1 (fun b hb e => by have := (World.ownsRow.lt hown b hb.symm).1; have := (hmo _ e).2; omega)
  rw [hsl] at hgc hgt ⊢
  have hsz1 := hs1.size
  refine Goes.loadb hTT rfl hob1 rfl rfl ?_
  have hnews : ∀ k x, ((sub V.bs i m).map (Value.int .u8))[k]? = some x → w1.cell? ((⟨g, 0, none⟩ : Addr).add k) = some x := fun k x hx => by
    rw [add_off, cell_of hgh]
    have hk : k < m := by have := (List.getElem?_eq_some_iff.1 hx).1; simpa [hsl] using this
    rw [← hgt, List.getElem?_take, if_pos hk] at hx
    simpa using hx
  refine Goes.append (base := base) (news := (sub V.bs i m).map (Value.int .u8)) hTT rfl ho1 (by omega) (by simp [hsl]) hnews plain_ints (by simp only; omega) ?_
  intro v2 w2 ho2 hs2 hv2
  rcases ho2.2 with ⟨hv2e, hz2⟩ | ⟨g2, cap2, cur2, hv2e, _⟩
  · subst hv2e
    refine Goes.adv hTT 400 rfl ?_
    have hob2 := hs2.heap hob1 (fun e => by have := (World.ownsRow.lt ho1 _ e.symm).1; omega)
    refine Goes.store hTT rfl hob2 rfl rfl ?_
    intro w3 hob3 hs3 hz3
    refine Goes.adv hTT 400 rfl ?_
    have ho3 := ho2.chg hs3 (fun b hb e => by have := (World.ownsRow.lt ho2 b hb.symm).1; omega)
    have hA2 : ArOk w3 A (V.charge A m) := (hA1.chg hs2 (fun b hb e => hArow b hb e)).chg hs3 (fun b hb e => hAob b hb e)
    have hc : Chg (fun z => z = ob ∨ some z = u.ownBlock ∨ mFoot A z) w w3 := ((hs1.mono fun z _ h => .inr (.inr h)).trans (hs2.mono fun z _ h => .inr (.inl h))).trans (hs3.mono fun z _ h => .inl h)
    exact Goes.ret0 hTT rfl Try.func40 rfl ⟨hA2, hc, _, hob3, by rw [List.map_append]; exact ho3, fun z hz => by rcases hv2.2 with h | h; exact .inl (hz.trans h); exact .inr (by rw [h] at hz; cases hz; omega)⟩
  · subst hv2e
    refine Goes.adv hTT 400 rfl ?_
    have hob2 := hs2.heap hob1 (fun e => by have := (World.ownsRow.lt ho1 _ e.symm).1; omega)
    refine Goes.store hTT rfl hob2 rfl rfl ?_
    intro w3 hob3 hs3 hz3
    refine Goes.adv hTT 400 rfl ?_
    have ho3 := ho2.chg hs3 (fun b hb e => by have := (World.ownsRow.lt ho2 b hb.symm).1; omega)
    have hA2 : ArOk w3 A (V.charge A m) := (hA1.chg hs2 (fun b hb e => hArow b hb e)).chg hs3 (fun b hb e => hAob b hb e)
    have hc : Chg (fun z => z = ob ∨ some z = u.ownBlock ∨ mFoot A z) w w3 := ((hs1.mono fun z _ h => .inr (.inr h)).trans (hs2.mono fun z _ h => .inr (.inl h))).trans (hs3.mono fun z _ h => .inl h)
    exact Goes.ret0 hTT rfl Try.func40 rfl ⟨hA2, hc, _, hob3, by rw [List.map_append]; exact ho3, fun z hz => by rcases hv2.2 with h | h; exact .inl (hz.trans h); exact .inr (by rw [h] at hz; cases hz; omega)⟩
end Go.Proofs.Ytffimkpllchfcaa
