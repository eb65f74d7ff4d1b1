/- A part of the proof. -/
import Derived.Test.YtmlaokgdomfmgaaGreatDoorL20
import Derived.KernelRfl
set_option linter.all false
section
set_option maxRecDepth 100000
namespace Go.Proofs.Z
open Go
theorem do6 : evCall pgF 300 9 [dk3, ln6] [] = some (.ret (.tup [dk4, rs6]), []) := by kernel_rfl
end Go.Proofs.Z
end
