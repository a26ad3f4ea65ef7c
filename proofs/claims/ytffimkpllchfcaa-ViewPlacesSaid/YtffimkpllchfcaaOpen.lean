/-
  What every claim of this seat needs: no switch of its own, and what the text lays.
-/
import Derived.Test.YtffimkpllchfcaaRows
import Derived.Test.YtffimkpllchfcaaBase
import Derived.OpenShut
import Derived.ShutString
import Derived.ChangeOld
namespace Go.Proofs.Ytffimkpllchfcaa
open Go.RowKit

theorem own : ownKnob Try.prog.godebug = none := by kernel_rfl
theorem laidOut : laidOutB Try.prog = true := by kernel_rfl
end Go.Proofs.Ytffimkpllchfcaa
