/-
  NARROWER THAN 'FOR EVERY INPUT', by the rows' own cells (each row's printed sentence says how): ReadAffine: loops · ReadRight: loops · ReadData: loops.
  DERIVED. THE GIVEN ROWS OF THIS SEAT. 5 by the template 'for every input the law returns true; each argument reads behind the call as it read before'; 0 by the template 'total and deterministic' (their statements: YtffohgbmjjbhiaaGreatTotals.lean).
  GIVEN WITH THE SEED: the statements are not yours to turn. If you find one false, say at which input.
  Laid BY PROGRAM, IN A SANDBOX (cutbox-rows.mjs): the forced cells as the released guide's own fill.sh prints them over the translation 5a19b776af87afa0… (all of the seat's roots in one cut). By AI agents, Wed Nov 11 2026. No macro, syntax, notation, axiom, sorry.
-/
import Derived.Test.YtffohgbmjjbhiaaGreatChecked
import GoSem.Claim
import GoSem.ClaimJoined
import GoSem.ClaimMapViews
import Derived.JoinedTies
import Derived.KernelRfl
namespace Go.Proofs.YtffohgbmjjbhiaaGreat
/- THE CELL 'sum', in the pinned program and in every row, IS THE sha256 OF THE DUMP (.gsa) THAT YtffohgbmjjbhiaaGreatProg.lean LOADS. Nothing in Lean hashes anything: it is a label: what it is worth is what the hold of that sum in a sandbox is worth. -/
noncomputable def Tryz.pinned : Pinned := { name := "ytffohgbmjjbhiaagreat", sum := "5a19b776af87afa04ddc351af4671b2f530186afde75dd31d4caa346d5954885", checked := Tryz.checked }
namespace Rows
def none {H : Type} : Left H := { results := [], args := [] }

/-- 'gossamerlaw21.ReadAgain': WHATEVER THE INPUT: true; the input reads as it did. -/
def readAgainSpec : ChangeSpec := { name := "readAgain", fn := fun _ => fun
  | [d1, d2] => { results := [.lit (.bool true)], args := [d1, d2] }
  | _ => none }
def readAgainRow : OpenClaim := { program := "ytffohgbmjjbhiaagreat", sum := "5a19b776af87afa04ddc351af4671b2f530186afde75dd31d4caa346d5954885", func := "gossamer/gossamerlaw21.ReadAgain", spec := "readAgain", unfollowed := true, recurses := true, apart := false }
def ReadAgainSaid : Prop := readAgainRow.holds Tryz.pinned (OpenSpec.ofChange readAgainSpec)

/-- ITS FALSE NEIGHBOUR: 'it returns false'. Refute it at one input. -/
def readAgainWrong : ChangeSpec := { name := "readAgain", fn := fun _ => fun
  | [d1, d2] => { results := [.lit (.bool false)], args := [d1, d2] }
  | _ => none }
def ReadAgainWrongFalsely : Prop := readAgainRow.holds Tryz.pinned (OpenSpec.ofChange readAgainWrong)

/-- 'gossamerlaw21.ReadAffine': WHATEVER THE INPUT: true; the input reads as it did. -/
def readAffineSpec : ChangeSpec := { name := "readAffine", fn := fun _ => fun
  | [d1, d2] => { results := [.lit (.bool true)], args := [d1, d2] }
  | _ => none }
def readAffineRow : OpenClaim := { program := "ytffohgbmjjbhiaagreat", sum := "5a19b776af87afa04ddc351af4671b2f530186afde75dd31d4caa346d5954885", func := "gossamer/gossamerlaw21.ReadAffine", spec := "readAffine", unfollowed := true, recurses := true, loops := true, apart := false }
def ReadAffineSaid : Prop := readAffineRow.holds Tryz.pinned (OpenSpec.ofChange readAffineSpec)

/-- ITS FALSE NEIGHBOUR: 'it returns false'. Refute it at one input. -/
def readAffineWrong : ChangeSpec := { name := "readAffine", fn := fun _ => fun
  | [d1, d2] => { results := [.lit (.bool false)], args := [d1, d2] }
  | _ => none }
def ReadAffineWrongFalsely : Prop := readAffineRow.holds Tryz.pinned (OpenSpec.ofChange readAffineWrong)

/-- 'gossamerlaw21.ReadRight': WHATEVER THE INPUT: true; the input reads as it did. -/
def readRightSpec : ChangeSpec := { name := "readRight", fn := fun _ => fun
  | [d1, d2] => { results := [.lit (.bool true)], args := [d1, d2] }
  | _ => none }
def readRightRow : OpenClaim := { program := "ytffohgbmjjbhiaagreat", sum := "5a19b776af87afa04ddc351af4671b2f530186afde75dd31d4caa346d5954885", func := "gossamer/gossamerlaw21.ReadRight", spec := "readRight", unfollowed := true, recurses := true, loops := true, apart := false }
def ReadRightSaid : Prop := readRightRow.holds Tryz.pinned (OpenSpec.ofChange readRightSpec)

/-- ITS FALSE NEIGHBOUR: 'it returns false'. Refute it at one input. -/
def readRightWrong : ChangeSpec := { name := "readRight", fn := fun _ => fun
  | [d1, d2] => { results := [.lit (.bool false)], args := [d1, d2] }
  | _ => none }
def ReadRightWrongFalsely : Prop := readRightRow.holds Tryz.pinned (OpenSpec.ofChange readRightWrong)

/-- 'gossamerlaw21.ReadFuel': WHATEVER THE INPUT: true; the input reads as it did. -/
def readFuelSpec : ChangeSpec := { name := "readFuel", fn := fun _ => fun
  | [d1, d2, d3] => { results := [.lit (.bool true)], args := [d1, d2, d3] }
  | _ => none }
def readFuelRow : OpenClaim := { program := "ytffohgbmjjbhiaagreat", sum := "5a19b776af87afa04ddc351af4671b2f530186afde75dd31d4caa346d5954885", func := "gossamer/gossamerlaw21.ReadFuel", spec := "readFuel", unfollowed := true, recurses := true, apart := false }
def ReadFuelSaid : Prop := readFuelRow.holds Tryz.pinned (OpenSpec.ofChange readFuelSpec)

/-- ITS FALSE NEIGHBOUR: 'it returns false'. Refute it at one input. -/
def readFuelWrong : ChangeSpec := { name := "readFuel", fn := fun _ => fun
  | [d1, d2, d3] => { results := [.lit (.bool false)], args := [d1, d2, d3] }
  | _ => none }
def ReadFuelWrongFalsely : Prop := readFuelRow.holds Tryz.pinned (OpenSpec.ofChange readFuelWrong)

/-- 'gossamerlaw21.ReadData': WHATEVER THE INPUT: true; the input reads as it did. -/
def readDataSpec : ChangeSpec := { name := "readData", fn := fun _ => fun
  | [d1, d2] => { results := [.lit (.bool true)], args := [d1, d2] }
  | _ => none }
def readDataRow : OpenClaim := { program := "ytffohgbmjjbhiaagreat", sum := "5a19b776af87afa04ddc351af4671b2f530186afde75dd31d4caa346d5954885", func := "gossamer/gossamerlaw21.ReadData", spec := "readData", unfollowed := true, recurses := true, loops := true, apart := false }
def ReadDataSaid : Prop := readDataRow.holds Tryz.pinned (OpenSpec.ofChange readDataSpec)

/-- ITS FALSE NEIGHBOUR: 'it returns false'. Refute it at one input. -/
def readDataWrong : ChangeSpec := { name := "readData", fn := fun _ => fun
  | [d1, d2] => { results := [.lit (.bool false)], args := [d1, d2] }
  | _ => none }
def ReadDataWrongFalsely : Prop := readDataRow.holds Tryz.pinned (OpenSpec.ofChange readDataWrong)

/- THE SECOND FORM. 'bulk': how many values and letters a reading holds, each counted each time it is reached (what is shared counts as often as it is met; a slice's spare places count too). A statement '..UptoSaid' is the law's where the arguments, and the package variables that the reading takes, are together of bulk at most 1048576: NARROWER than '..Said'. Prove '..Said' where nothing that the law and all that it calls make is longer than what came in: it says more and counts as full. Else prove '..UptoSaid'. A law counts once. -/
mutual
def uptoBulk {H : Type} : DataW H → Nat
  | .lit (.string bytes) => bytes.length + 1
  | .lit _ => 1
  | .nil => 1
  | .ptr d => uptoBulk d + 1
  | .slice elems spare => uptoBulkAll elems + uptoBulkAll spare + 1
  | .agg parts => uptoBulkAll parts + 1
  | .iface _ d => uptoBulk d + 1
  | .map entries => uptoBulkEntries entries + 1
  | .held _ => 1
def uptoBulkAll {H : Type} : List (DataW H) → Nat
  | [] => 0
  | d :: r => uptoBulk d + uptoBulkAll r
def uptoBulkEntries {H : Type} : List (Lit × DataW H) → Nat
  | [] => 0
  | x :: r => uptoBulkEntry x + uptoBulkEntries r
def uptoBulkEntry {H : Type} : Lit × DataW H → Nat
  | (.string bytes, d) => bytes.length + uptoBulk d + 1
  | (_, d) => uptoBulk d + 1
 end
def uptoSmall : (H : Type) → List (DataW H) → Bool := fun _ ds => decide (uptoBulkAll ds ≤ 1048576)
def OpenSpec.upto (s : _root_.Go.ChangeSpec) : _root_.Go.OpenSpec := { _root_.Go.OpenSpec.ofChange s with cond := some uptoSmall }

/-- 'gossamerlaw21.ReadAgain', WHERE WHAT IT READS IS OF BULK AT MOST 1048576: true; the input reads as it did. -/
def readAgainUptoRow : OpenClaim := { program := "ytffohgbmjjbhiaagreat", sum := "5a19b776af87afa04ddc351af4671b2f530186afde75dd31d4caa346d5954885", func := "gossamer/gossamerlaw21.ReadAgain", spec := "readAgain", unfollowed := true, recurses := true, apart := false, narrowed := true }
def ReadAgainUptoSaid : Prop := readAgainUptoRow.holds Tryz.pinned (OpenSpec.upto readAgainSpec)

/-- 'gossamerlaw21.ReadAffine', WHERE WHAT IT READS IS OF BULK AT MOST 1048576: true; the input reads as it did. -/
def readAffineUptoRow : OpenClaim := { program := "ytffohgbmjjbhiaagreat", sum := "5a19b776af87afa04ddc351af4671b2f530186afde75dd31d4caa346d5954885", func := "gossamer/gossamerlaw21.ReadAffine", spec := "readAffine", unfollowed := true, recurses := true, loops := true, apart := false, narrowed := true }
def ReadAffineUptoSaid : Prop := readAffineUptoRow.holds Tryz.pinned (OpenSpec.upto readAffineSpec)

/-- 'gossamerlaw21.ReadRight', WHERE WHAT IT READS IS OF BULK AT MOST 1048576: true; the input reads as it did. -/
def readRightUptoRow : OpenClaim := { program := "ytffohgbmjjbhiaagreat", sum := "5a19b776af87afa04ddc351af4671b2f530186afde75dd31d4caa346d5954885", func := "gossamer/gossamerlaw21.ReadRight", spec := "readRight", unfollowed := true, recurses := true, loops := true, apart := false, narrowed := true }
def ReadRightUptoSaid : Prop := readRightUptoRow.holds Tryz.pinned (OpenSpec.upto readRightSpec)

/-- 'gossamerlaw21.ReadFuel', WHERE WHAT IT READS IS OF BULK AT MOST 1048576: true; the input reads as it did. -/
def readFuelUptoRow : OpenClaim := { program := "ytffohgbmjjbhiaagreat", sum := "5a19b776af87afa04ddc351af4671b2f530186afde75dd31d4caa346d5954885", func := "gossamer/gossamerlaw21.ReadFuel", spec := "readFuel", unfollowed := true, recurses := true, apart := false, narrowed := true }
def ReadFuelUptoSaid : Prop := readFuelUptoRow.holds Tryz.pinned (OpenSpec.upto readFuelSpec)

/-- 'gossamerlaw21.ReadData', WHERE WHAT IT READS IS OF BULK AT MOST 1048576: true; the input reads as it did. -/
def readDataUptoRow : OpenClaim := { program := "ytffohgbmjjbhiaagreat", sum := "5a19b776af87afa04ddc351af4671b2f530186afde75dd31d4caa346d5954885", func := "gossamer/gossamerlaw21.ReadData", spec := "readData", unfollowed := true, recurses := true, loops := true, apart := false, narrowed := true }
def ReadDataUptoSaid : Prop := readDataUptoRow.holds Tryz.pinned (OpenSpec.upto readDataSpec)

end Rows
end Go.Proofs.YtffohgbmjjbhiaaGreat
