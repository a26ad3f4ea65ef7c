/-
  What every claim of this seat needs: no switch of its own, and what the text lays.
-/
import Derived.Test.YtommemplakcaaaaRows
import Derived.Test.YtommemplakcaaaaBase
import Derived.OpenShut
import Derived.ShutString
import Derived.ChangeOld
namespace Go.Proofs.Ytommemplakcaaaa
open Go.RowKit

theorem own : ownKnob Try.prog.godebug = none := by kernel_rfl
theorem laidOut : laidOutB Try.prog = true := by kernel_rfl
end Go.Proofs.Ytommemplakcaaaa
