/- A part of the proof. -/
import Derived.Test.YtmlaokgdomfmgaaGreatDoorL20
import Derived.KernelRfl
set_option linter.all false
section
set_option maxRecDepth 100000
namespace Go.Proofs.Z
open Go
theorem do2 : evCall pgF 300 9 [dk2, ln2] [] = some (.ret (.tup [dk2, rs2]), []) := by kernel_rfl
end Go.Proofs.Z
end
section
set_option maxRecDepth 100000
namespace Go.Proofs.Z
open Go
theorem do3 : evCall pgF 300 9 [dk2, ln3] [] = some (.ret (.tup [dk2, rs3]), []) := by kernel_rfl
end Go.Proofs.Z
end
section
set_option maxRecDepth 100000
namespace Go.Proofs.Z
open Go
theorem do4 : evCall pgF 300 9 [dk2, ln4] [] = some (.ret (.tup [dk2, rs4]), []) := by kernel_rfl
end Go.Proofs.Z
end
section
set_option maxRecDepth 100000
namespace Go.Proofs.Z
open Go
theorem do5 : evCall pgF 300 9 [dk2, ln5] [] = some (.ret (.tup [dk3, rs5]), []) := by kernel_rfl
end Go.Proofs.Z
end
