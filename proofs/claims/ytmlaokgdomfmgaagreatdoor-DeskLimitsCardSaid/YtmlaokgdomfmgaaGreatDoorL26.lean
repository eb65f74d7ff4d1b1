/- A part of the proof. -/
import Derived.Test.YtmlaokgdomfmgaaGreatDoorL20
import Derived.KernelRfl
set_option linter.all false
section
set_option maxRecDepth 100000
namespace Go.Proofs.Z
open Go
theorem do10 : evCall pgF 300 9 [dk5, ln10] [] = some (.ret (.tup [dk6, rs10]), []) := by kernel_rfl
end Go.Proofs.Z
end
