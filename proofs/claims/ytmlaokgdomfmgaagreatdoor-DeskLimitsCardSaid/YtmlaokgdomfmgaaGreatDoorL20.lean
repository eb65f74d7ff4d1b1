/- A part of the proof. -/
import Derived.Test.YtmlaokgdomfmgaaGreatDoorL13
import Derived.Test.YtmlaokgdomfmgaaGreatDoorL19
import Derived.Test.YtmlaokgdomfmgaaGreatDoorL15
set_option linter.all false
section
namespace Go.Proofs.Z
open Go Go.Proofs
noncomputable def ot : BT Orc := (.node 251 indexO (.node 78 joinO (.node 36 splitO (.node 20 asO .leaf .leaf) (.node 46 itoaO .leaf .leaf)) (.node 127 stringO (.node 123 atoiO .leaf .leaf) (.node 211 copyO .leaf .leaf))) (.node 464 (cloneO 126 2 16) (.node 419 (cloneO 193 2 24) (.node 340 fieldsO .leaf .leaf) (.node 423 keysO .leaf .leaf)) (.node 481 (cloneO 79 4 56) (.node 465 (cloneO 134 6 88) .leaf .leaf) .leaf)))
theorem ot_ok {f : Nat} {F : Orc} (h : ot.get f = some F) : OrcOK f F := by
  have h1 := BT.get_mem h
  simp only [ot, BT.toL, List.nil_append, List.append_nil, List.cons_append, List.mem_cons, List.not_mem_nil, or_false, Prod.mk.injEq] at h1
  rcases h1 with ⟨rfl, rfl⟩ | ⟨rfl, rfl⟩ | ⟨rfl, rfl⟩ | ⟨rfl, rfl⟩ | ⟨rfl, rfl⟩ | ⟨rfl, rfl⟩ | ⟨rfl, rfl⟩ | ⟨rfl, rfl⟩ | ⟨rfl, rfl⟩ | ⟨rfl, rfl⟩ | ⟨rfl, rfl⟩ | ⟨rfl, rfl⟩ | ⟨rfl, rfl⟩ | ⟨rfl, rfl⟩
  · exact asO_ok
  · exact splitO_ok
  · exact itoaO_ok
  · exact joinO_ok
  · exact atoiO_ok
  · exact stringO_ok
  · exact copyO_ok
  · exact indexO_ok
  · exact fieldsO_ok
  · exact clO419
  · exact keysO_ok
  · exact clO464
  · exact clO465
  · exact clO481
noncomputable def pgF : Prg := ⟨ft.get, ot.get⟩
theorem pgF_ok : PrgOK pgF := ⟨mixed, fnsz, fun f c h => ft_ok h, fun f F h => ot_ok h⟩
end Go.Proofs.Z
end
section
namespace Go.Proofs.Z
open Go
def dk0 : AV := .ag [.p (.s []), .p (.i .i64 100), .p (.i .i64 2000), .p (.i .i64 10000), .p (.i .i64 10000), .p (.sl []), .p (.i .i64 0), .p (.i .i64 0), .p (.i .i64 0), .p (.i .i64 0), .p (.i .i64 0), .p (.s []), .p (.sl []), .p (.i .i64 0), .p (.i .i64 0), .p (.i .i64 0), .p (.i .i64 0), .p (.i .i64 0), .p (.i .i64 0), .p (.i .i64 0), .p (.i .i64 0), .p (.i .i64 0), .p (.i .i64 0), .p (.i .i64 0)]
def dk1 : AV := .ag [.p (.s [49, 32, 43, 32, 49]), .p (.i .i64 100), .p (.i .i64 2000), .p (.i .i64 10000), .p (.i .i64 10000), .p (.sl []), .p (.i .i64 0), .p (.i .i64 0), .p (.i .i64 0), .p (.i .i64 0), .p (.i .i64 0), .p (.s []), .p (.sl []), .p (.i .i64 0), .p (.i .i64 0), .p (.i .i64 0), .p (.i .i64 0), .p (.i .i64 0), .p (.i .i64 0), .p (.i .i64 0), .p (.i .i64 0), .p (.i .i64 0), .p (.i .i64 0), .p (.i .i64 0)]
def dk2 : AV := .ag [.p (.s [49, 32, 43, 32, 49]), .p (.i .i64 100), .p (.i .i64 2000), .p (.i .i64 10000), .p (.i .i64 10000), .p (.sl []), .p (.i .i64 1), .p (.i .i64 0), .p (.i .i64 0), .p (.i .i64 1), .p (.i .i64 2), .p (.s []), .p (.sl []), .p (.i .i64 0), .p (.i .i64 0), .p (.i .i64 0), .p (.i .i64 1), .p (.i .i64 1), .p (.i .i64 0), .p (.i .i64 0), .p (.i .i64 0), .p (.i .i64 0), .p (.i .i64 1), .p (.i .i64 1)]
def dk3 : AV := .ag [.p (.s [49, 32, 43, 32, 49]), .p (.i .i64 100), .p (.i .i64 2000), .p (.i .i64 1), .p (.i .i64 10000), .p (.sl []), .p (.i .i64 1), .p (.i .i64 0), .p (.i .i64 0), .p (.i .i64 1), .p (.i .i64 2), .p (.s []), .p (.sl []), .p (.i .i64 0), .p (.i .i64 0), .p (.i .i64 0), .p (.i .i64 1), .p (.i .i64 1), .p (.i .i64 0), .p (.i .i64 0), .p (.i .i64 0), .p (.i .i64 0), .p (.i .i64 1), .p (.i .i64 1)]
def dk4 : AV := .ag [.p (.s [49, 32, 43, 32, 49]), .p (.i .i64 100), .p (.i .i64 2000), .p (.i .i64 1), .p (.i .i64 10000), .p (.sl []), .p (.i .i64 3), .p (.i .i64 90), .p (.i .i64 0), .p (.i .i64 0), .p (.i .i64 0), .p (.s []), .p (.sl []), .p (.i .i64 0), .p (.i .i64 0), .p (.i .i64 0), .p (.i .i64 1), .p (.i .i64 0), .p (.i .i64 0), .p (.i .i64 0), .p (.i .i64 0), .p (.i .i64 0), .p (.i .i64 0), .p (.i .i64 2)]
def dk5 : AV := .ag [.p (.s [49, 32, 43, 32, 49]), .p (.i .i64 100), .p (.i .i64 2000), .p (.i .i64 1), .p (.i .i64 10000), .p (.sl [[.i .i64 0], [.i .i64 1]]), .p (.i .i64 3), .p (.i .i64 90), .p (.i .i64 0), .p (.i .i64 0), .p (.i .i64 0), .p (.s []), .p (.sl []), .p (.i .i64 0), .p (.i .i64 0), .p (.i .i64 0), .p (.i .i64 1), .p (.i .i64 0), .p (.i .i64 0), .p (.i .i64 0), .p (.i .i64 0), .p (.i .i64 0), .p (.i .i64 0), .p (.i .i64 2)]
def dk6 : AV := .ag [.p (.s [49, 32, 43, 32, 49]), .p (.i .i64 100), .p (.i .i64 2000), .p (.i .i64 1), .p (.i .i64 10000), .p (.sl [[.i .i64 0], [.i .i64 1]]), .p (.i .i64 1), .p (.i .i64 0), .p (.i .i64 0), .p (.i .i64 1), .p (.i .i64 2), .p (.s []), .p (.sl []), .p (.i .i64 0), .p (.i .i64 0), .p (.i .i64 0), .p (.i .i64 1), .p (.i .i64 1), .p (.i .i64 0), .p (.i .i64 0), .p (.i .i64 0), .p (.i .i64 0), .p (.i .i64 1), .p (.i .i64 3)]
def dk7 : AV := .ag [.p (.s [67, 111, 110, 115, 32, 40, 50, 32, 42, 32, 51, 41, 32, 78, 105, 108]), .p (.i .i64 100), .p (.i .i64 2000), .p (.i .i64 1), .p (.i .i64 10000), .p (.sl [[.i .i64 0], [.i .i64 1]]), .p (.i .i64 0), .p (.i .i64 0), .p (.i .i64 0), .p (.i .i64 0), .p (.i .i64 0), .p (.s []), .p (.sl []), .p (.i .i64 0), .p (.i .i64 0), .p (.i .i64 0), .p (.i .i64 0), .p (.i .i64 0), .p (.i .i64 0), .p (.i .i64 0), .p (.i .i64 0), .p (.i .i64 0), .p (.i .i64 0), .p (.i .i64 3)]
def dk8 : AV := .ag [.p (.s [67, 111, 110, 115, 32, 40, 50, 32, 42, 32, 51, 41, 32, 78, 105, 108]), .p (.i .i64 100), .p (.i .i64 2000), .p (.i .i64 1), .p (.i .i64 10000), .p (.sl [[.i .i64 0], [.i .i64 1]]), .p (.i .i64 1), .p (.i .i64 0), .p (.i .i64 0), .p (.i .i64 2), .p (.i .i64 0), .p (.s [67, 111, 110, 115]), .p (.sl [[.i .i64 5, .i .i64 0, .s [], .sl []], [.i .i64 5, .i .i64 0, .s [], .sl []]]), .p (.i .i64 0), .p (.i .i64 0), .p (.i .i64 0), .p (.i .i64 1), .p (.i .i64 1), .p (.i .i64 0), .p (.i .i64 0), .p (.i .i64 0), .p (.i .i64 0), .p (.i .i64 0), .p (.i .i64 4)]
def dk9 : AV := .ag [.p (.s [67, 111, 110, 115, 32, 40, 50, 32, 42, 32, 51, 41, 32, 78, 105, 108]), .p (.i .i64 100), .p (.i .i64 2000), .p (.i .i64 1), .p (.i .i64 10000), .p (.sl [[.i .i64 0], [.i .i64 1]]), .p (.i .i64 1), .p (.i .i64 0), .p (.i .i64 0), .p (.i .i64 2), .p (.i .i64 0), .p (.s [67, 111, 110, 115]), .p (.sl [[.i .i64 1, .i .i64 6, .s [], .sl []], [.i .i64 2, .i .i64 0, .s [78, 105, 108], .sl []]]), .p (.i .i64 0), .p (.i .i64 0), .p (.i .i64 0), .p (.i .i64 1), .p (.i .i64 1), .p (.i .i64 0), .p (.i .i64 0), .p (.i .i64 0), .p (.i .i64 0), .p (.i .i64 1), .p (.i .i64 5)]
def dk10 : AV := .ag [.p (.s [67, 111, 110, 115, 32, 40, 50, 32, 42, 32, 51, 41, 32, 78, 105, 108]), .p (.i .i64 100), .p (.i .i64 2000), .p (.i .i64 1), .p (.i .i64 10000), .p (.sl []), .p (.i .i64 1), .p (.i .i64 0), .p (.i .i64 0), .p (.i .i64 2), .p (.i .i64 0), .p (.s [67, 111, 110, 115]), .p (.sl [[.i .i64 1, .i .i64 6, .s [], .sl []], [.i .i64 2, .i .i64 0, .s [78, 105, 108], .sl []]]), .p (.i .i64 0), .p (.i .i64 0), .p (.i .i64 0), .p (.i .i64 1), .p (.i .i64 1), .p (.i .i64 0), .p (.i .i64 0), .p (.i .i64 0), .p (.i .i64 0), .p (.i .i64 1), .p (.i .i64 5)]
def ln0 : AV := .p (.s [108, 111, 97, 100, 32, 49, 32, 43, 32, 49])
def ln1 : AV := .p (.s [110, 102])
def ln2 : AV := .p (.s [115, 116, 97, 116, 115])
def ln3 : AV := .p (.s [115, 104, 111, 119])
def ln4 : AV := .p (.s [108, 111, 97, 100, 32, 120])
def ln5 : AV := .p (.s [102, 117, 101, 108, 32, 49])
def ln6 : AV := .p (.s [119, 104, 110, 102])
def ln7 : AV := .p (.s [100, 101, 112, 116, 104, 32, 50, 48, 49])
def ln8 : AV := .p (.s [102, 117, 101, 108, 32, 48, 49])
def ln9 : AV := .p (.s [112, 105, 99, 107, 115, 32, 48, 32, 49])
def ln10 : AV := .p (.s [119, 104, 110, 102])
def ln11 : AV := .p (.s [108, 111, 97, 100, 32, 67, 111, 110, 115, 32, 40, 50, 32, 42, 32, 51, 41, 32, 78, 105, 108])
def ln12 : AV := .p (.s [119, 104, 110, 102])
def ln13 : AV := .p (.s [110, 102])
def ln14 : AV := .p (.s [])
def ln15 : AV := .p (.s [110, 102, 32])
def ln16 : AV := .p (.s [108, 111, 97, 100, 32])
def ln17 : AV := .p (.s [112, 105, 99, 107, 115])
def ln18 : AV := .p (.s [112, 105, 99, 107, 115, 32, 120])
def rs0 : AV := .p (.s [111, 107])
def rs1 : AV := .p (.s [100, 111, 110, 101, 32, 50])
def rs2 : AV := .p (.s [114, 117, 110, 115, 32, 49, 32, 109, 101, 101, 116, 105, 110, 103, 115, 32, 50, 32, 98, 101, 116, 97, 115, 32, 48, 32, 115, 116, 101, 112, 115, 32, 49])
def rs3 : AV := .p (.s [49, 32, 43, 32, 49])
def rs4 : AV := .p (.s [101, 114, 114, 111, 114, 32, 53, 48, 32, 97, 116, 32, 48])
def rs5 : AV := .p (.s [111, 107])
def rs6 : AV := .p (.s [110, 101, 116, 32, 57, 48])
def rs7 : AV := .p (.s [101, 114, 114, 111, 114, 32, 49])
def rs8 : AV := .p (.s [101, 114, 114, 111, 114, 32, 50, 52, 48])
def rs9 : AV := .p (.s [111, 107])
def rs10 : AV := .p (.s [100, 111, 110, 101, 32, 50])
def rs11 : AV := .p (.s [111, 107])
def rs12 : AV := .p (.s [100, 111, 110, 101, 32, 40, 67, 111, 110, 115, 32, 63, 32, 63, 41])
def rs13 : AV := .p (.s [100, 111, 110, 101, 32, 40, 67, 111, 110, 115, 32, 54, 32, 78, 105, 108, 41])
def rs14 : AV := .p (.s [101, 114, 114, 111, 114, 32, 50, 52, 48])
def rs15 : AV := .p (.s [101, 114, 114, 111, 114, 32, 50, 52, 48])
def rs16 : AV := .p (.s [101, 114, 114, 111, 114, 32, 51, 48, 32, 97, 116, 32, 48])
def rs17 : AV := .p (.s [111, 107])
def rs18 : AV := .p (.s [101, 114, 114, 111, 114, 32, 50, 52, 48])
def rs19 : AV := .p (.s [110, 111, 110, 101])
end Go.Proofs.Z
end
