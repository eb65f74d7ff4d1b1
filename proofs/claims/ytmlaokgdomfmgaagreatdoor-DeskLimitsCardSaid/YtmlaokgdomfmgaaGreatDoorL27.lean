/- A part of the proof. -/
import Derived.Test.YtmlaokgdomfmgaaGreatDoorL20
import Derived.KernelRfl
set_option linter.all false
section
set_option maxRecDepth 100000
namespace Go.Proofs.Z
open Go
theorem do11 : evCall pgF 300 9 [dk6, ln11] [] = some (.ret (.tup [dk7, rs11]), []) := by kernel_rfl
end Go.Proofs.Z
end
