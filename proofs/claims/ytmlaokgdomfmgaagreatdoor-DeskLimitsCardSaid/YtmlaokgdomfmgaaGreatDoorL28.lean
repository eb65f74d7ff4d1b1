/- A part of the proof. -/
import Derived.Test.YtmlaokgdomfmgaaGreatDoorL20
import Derived.KernelRfl
set_option linter.all false
section
set_option maxRecDepth 100000
namespace Go.Proofs.Z
open Go
theorem do12 : evCall pgF 300 9 [dk7, ln12] [] = some (.ret (.tup [dk8, rs12]), []) := by kernel_rfl
end Go.Proofs.Z
end
