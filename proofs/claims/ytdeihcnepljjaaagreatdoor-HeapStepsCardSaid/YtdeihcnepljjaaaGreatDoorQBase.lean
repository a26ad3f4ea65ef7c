/-
  Base
-/
import Derived.WalkKit
import Derived.KernelRfl
import Derived.Below
import Derived.ProofKit
import Derived.Deep.QuietTactic
import Derived.BigQuiet
import Derived.Outline
import Derived.LoopTactic
import Derived.Deep.LoopGhost
import Derived.WalkSpells
import Derived.WalkLawsBesides
import Derived.Lib.Hide
namespace Go.Proofs.YtdeihcnepljjaaaGreatDoor
open Go.RowKit
theorem Om{w w':World}(h:Below w.heap.size w w'){a:Addr}{v:Value}(hc:w.cell? a=some v):w'.cell? a=some v:=
 (h.cell (World.block_lt_of_cell? w a hc)).trans hc
def Rd(k:IntKind)(w:World)(a:Option Addr)(zs:List Int):Prop:=
 ∀i,i<zs.length -> ∃b off,a=some ⟨b,off,none⟩/\w.cell? ⟨b,off+i,none⟩=some (.int k (zs.getD i 0))
theorem Rd.nil(k:IntKind)(w:World)(a:Option Addr):Rd k w a []:=λi h=>absurd h (by simp)
theorem Rd.below{k:IntKind}{w w':World}{a:Option Addr}{zs:List Int}(h:Rd k w a zs)(hb:Below w.heap.size w w'):Rd k w' a zs:=λi hi=>by
 obtain⟨b,off,e,c⟩:=h i hi;exact⟨b,off,e,Om hb c⟩
theorem Rd.of_cells{k:IntKind}{w:World}{b off:Nat}{zs:List Int}(h:∀i,i<zs.length->w.cell? ⟨b,off+i,none⟩=some (.int k (zs.getD i 0))):Rd k w (some ⟨b,off,none⟩) zs:=
 λi hi=>⟨b,off,rfl,h i hi⟩
theorem X{p:Prop}(h:p:=by omega):p:=h
theorem xD{p:Prop}(h:p:=by decide):p:=h
theorem xK{p:Prop}(h:p:=by kernel_rfl):p:=h
theorem xS{p:Prop}(h:p:=by simp):p:=h
theorem xP{p:Prop}(h:p:=by simp only;omega):p:=h
theorem xQ{p:Prop}(h:p:=by simp;omega):p:=h
theorem xT{p:Prop}(h:p:=by first|rfl|(simp;done)|(simp[*];done)|(simp;omega)):p:=h
theorem xH{p q:Prop}(a:q)(h:q->p:=by intro _;omega):p:=h a
theorem xI{p q r:Prop}(a:q)(b:r)(h:q->r->p:=by intro _ _;omega):p:=h a b
theorem xU{p q:Prop}(a:q)(h:q->p:=by intro h;simpa using h):p:=h a
theorem Y{α:Type}{a:α}:a=a:=rfl
@[reducible]def W:Int->Value:=Value.int .i64
@[reducible]def xV(b:Nat):Value:=.pointer (some ⟨b,0,none⟩)
end Go.Proofs.YtdeihcnepljjaaaGreatDoor
