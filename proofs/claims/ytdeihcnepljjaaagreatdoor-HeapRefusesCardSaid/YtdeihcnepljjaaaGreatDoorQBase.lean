/-
  Base
-/
import Derived.WalkKit
import Derived.Below
import Derived.ProofKit
import Derived.Deep.QuietTactic
import Derived.BigQuiet
import Derived.Outline
import Derived.LoopTactic
import Derived.Deep.LoopGhost
import Derived.WalkSpells
import Derived.WalkLawsBesides
import Derived.Lib.Hide
namespace Go.Proofs.YtdeihcnepljjaaaGreatDoor
open Go.RowKit
theorem Mc{w w':World}(h:Below w.heap.size w w'){a:Addr}{v:Value}(hc:w.cell? a=some v):w'.cell? a=some v:=
 (h.cell (World.block_lt_of_cell? w a hc)).trans hc
def Rd(k:IntKind)(w:World)(a:Option Addr)(zs:List Int):Prop:=
 ∀i,i<zs.length -> ∃b off,a=some ⟨b,off,none⟩/\w.cell? ⟨b,off+i,none⟩=some (.int k (zs.getD i 0))
theorem Rd.nil(k:IntKind)(w:World)(a:Option Addr):Rd k w a []:=λi h=>absurd h (by simp)
theorem Rd.below{k:IntKind}{w w':World}{a:Option Addr}{zs:List Int}(h:Rd k w a zs)(hb:Below w.heap.size w w'):Rd k w' a zs:=λi c=>by
 obtain⟨b,off,e,d⟩:=h i c;exact⟨b,off,e,Mc hb d⟩
theorem Rd.of_cells{k:IntKind}{w:World}{b off:Nat}{zs:List Int}(h:∀i,i<zs.length->w.cell? ⟨b,off+i,none⟩=some (.int k (zs.getD i 0))):Rd k w (some ⟨b,off,none⟩) zs:=
 λi a=>⟨b,off,rfl,h i a⟩
end Go.Proofs.YtdeihcnepljjaaaGreatDoor
