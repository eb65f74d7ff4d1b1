/- A part of the proof. -/
import Derived.Test.YtmlaokgdomfmgaaGreatDoorL20
import Derived.KernelRfl
set_option linter.all false
section
set_option maxRecDepth 100000
namespace Go.Proofs.Z
open Go
theorem do7 : evCall pgF 300 9 [dk4, ln7] [] = some (.ret (.tup [dk4, rs7]), []) := by kernel_rfl
end Go.Proofs.Z
end
section
set_option maxRecDepth 100000
namespace Go.Proofs.Z
open Go
theorem do8 : evCall pgF 300 9 [dk4, ln8] [] = some (.ret (.tup [dk4, rs8]), []) := by kernel_rfl
end Go.Proofs.Z
end
section
set_option maxRecDepth 100000
namespace Go.Proofs.Z
open Go
theorem do9 : evCall pgF 300 9 [dk4, ln9] [] = some (.ret (.tup [dk5, rs9]), []) := by kernel_rfl
end Go.Proofs.Z
end
