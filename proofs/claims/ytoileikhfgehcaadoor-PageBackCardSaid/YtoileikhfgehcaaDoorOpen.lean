/-
  What every claim of this seat needs: no switch of its own, and what the text lays.
-/
import Derived.Test.YtoileikhfgehcaaDoorRows
import Derived.Test.YtoileikhfgehcaaDoorBase
import Derived.OpenShut
import Derived.ShutString
import Derived.ChangeOld
namespace Go.Proofs.YtoileikhfgehcaaDoor
open Go.RowKit

theorem own : ownKnob Tryd.prog.godebug = none := by kernel_rfl
theorem laidOut : laidOutB Tryd.prog = true := by kernel_rfl
end Go.Proofs.YtoileikhfgehcaaDoor
