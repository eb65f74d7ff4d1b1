/- A part of the proof. -/
import Derived.Test.YtffohgbmjjbhiaaGreatA05
import Derived.Test.YtffohgbmjjbhiaaGreatProg
import Derived.Test.YtffohgbmjjbhiaaGreatA06
import Derived.Test.YtffohgbmjjbhiaaGreatA07
import Derived.IntWalk
set_option linter.all false
section
namespace Go.Proofs.Z
open Go Go.Proofs
open Y
attribute [local simp] t i T N y z I J K M F l r S X B Q O C A V H a b c D e
def c164:CFun:=by refine (?k:Ih CFun _) (Im ⟨(Q (O [0,2] [M 4 0,M 5 0,I 6 (.nilck (t 5)),F 7 12 6,l 8 1 7,b 9 179 4 8,I 2 (.new [z,z,z,(.p (.s [])),.nils,.nils]),S 6 2 9]) (Q (.draw [0,3] [] [M 10 0,F 11 1 2,l 12 1 11,F 13 3 2,l 14 1 13,M 15 0,M 16 0,I 17 (.nilck (t 16)),F 18 13 17,l 19 1 18,b 20 179 15 19,I 21 (.field 2 1 false (t 20)),I 22 (.build [z,z,z,(.p (.s [])),.nils,.nils] [(0,1,(i 12)),(1,1,(t 12)),(3,1,(t 14)),(2,1,(t 21))]),b 23 166 10 22,M 3 23] [.closed 179 [15,19]]) (Q (O [0,3] [M 24 0,M 25 0,I 26 (.nilck (t 25)),F 27 12 26,l 28 1 27,I 29 (.call 152 [(t 28),(i 2)]),M 30 3,I 31 (.call 152 [(t 30),(i 0)]),c 32 165 24 29 31]) (O [] [M 33 0,M 34 0,I 35 (.nilck (t 34)),F 36 12 35,l 37 1 36,I 38 (.call 152 [(t 37),(i 1)]),M 39 3,I 40 (.call 152 [(t 39),(i 1)]),c 41 165 33 38 40])))),[],false,false⟩);intro h;dsimp at h;refine (?g:Ig CFun) _ h;exact fun c _=>c
theorem ok164:comp Tryz.prog 164=cr c164:=by kernel_rfl
def c165:CFun:=by refine (?k:Ih CFun _) (Im ⟨(Q (O [0,4,5] [I 4 (.box (t 1)),I 5 (.box (t 2))]) (.draw [] [] [M 7 0,M 8 0,I 9 (.nilck (t 8)),F 10 0 9,r 11 2 10,r 12 2 4,r 13 2 5,c 14 183 11 12 13,M 6 14,X 15 6 0,X 16 6 1,I 17 (.nilck (t 7)),F 18 0 17,S 2 18 15] [])),[],false,false⟩);intro h;dsimp at h;refine (?g:Ig CFun) _ h;exact fun c _=>c
theorem ok165:comp Tryz.prog 165=cr c165:=by kernel_rfl
def c166:CFun:=by refine (?k:Ih CFun _) (Im ⟨(Q (O [0,3] [I 3 (.box (t 1)),I 4 (.mov (i 0))]) (Q (O [0,3] [I 5 (.mov (i 0))]) (Q (.draw [5] [] [M 7 0,M 8 0,I 9 (.nilck (t 8)),F 10 0 9,r 11 2 10,r 12 6 3,b 13 184 11 12,M 6 13,X 14 6 0,X 15 6 1,X 16 6 2,I 17 (.nilck (t 7)),F 18 0 17,S 2 18 14,M 5 15] []) (Q (O [4] [M 19 5,M 4 19]) .ret)))),[.t 4],false,false⟩);intro h;dsimp at h;refine (?g:Ig CFun) _ h;exact fun c _=>c
theorem ok166:comp Tryz.prog 166=cr c166:=by kernel_rfl
def c167:CFun:=by refine (?k:Ih CFun _) (Im ⟨(Q (O [0,2] [M 4 0,M 5 0,a 6 181 5,I 7 (.build [z,z,z,(.p (.s [])),.nils,.nils] [(0,1,(i 13)),(1,1,(t 6))]),b 8 166 4 7,M 2 8]) (Q (.draw [0,2,3] [] [M 9 0,M 10 0,M 11 0,I 12 (.nilck (t 11)),F 13 12 12,l 14 1 13,I 15 (.call 170 [(t 10),(t 14),(i 2)]),M 16 0,M 17 0,I 18 (.nilck (t 17)),F 19 13 18,l 20 1 19,I 21 (.call 170 [(t 16),(t 20),(i 1)]),I 22 (.app false 2 16 (t 15) (t 21)),b 23 169 9 22,M 3 23] [.low 19,.closed 170 [10,14]]) (Q (O [3] [M 24 0,M 25 0,I 26 (.nilck (t 25)),F 27 12 26,l 28 1 27,I 29 (.call 152 [(t 28),(i 1)]),M 30 2,I 31 (.call 152 [(t 30),(i 0)]),c 32 165 24 29 31]) (O [] [M 33 3,I 34 (.callv (t 33) [])])))),[],false,false⟩);intro h;dsimp at h;refine (?g:Ig CFun) _ h;exact fun c _=>c
theorem ok167:comp Tryz.prog 167=cr c167:=by kernel_rfl
def c168l0:CCode:=by refine (?k:Ih CCode _) (Im (Q (O [0,4,5,44,45,46,47] [B 47 .lss 46 (t 45)]) (Q (C (t 47) .skip (.exit 0)) (Q (.block 1 (Q (O [0,4,5,6,7,44,45,46] [M 48 46,A 49 1 44 46,l 50 1 49,M 6 48,M 7 50]) (O [0,4,5,44,45,46] [M 51 0,M 52 0,I 53 (.nilck (t 52)),F 54 12 53,l 55 1 54,M 56 6,B 57 .add 56 (i 1),b 58 152 55 57,M 59 7,I 60 (.call 152 [(t 59),(i 0)]),c 61 165 51 58 60]))) (O [0,4,5,44,45,46] [B 62 .add 46 (i 1),M 46 62])))));intro h;dsimp at h;refine (?g:Ig CCode) _ h;exact fun c _=>c
def c168l1:CCode:=by refine (?k:Ih CCode _) (Im (Q (O [0,4,8,9,63,64,65,81,82,83,84] [B 84 .lss 83 (t 82)]) (Q (C (t 84) .skip (.exit 4)) (Q (.block 5 (Q (O [0,4,8,9,10,11,63,64,65,81,82,83] [M 85 83,A 86 1 81 83,l 87 1 86,M 10 85,M 11 87]) (O [0,4,8,9,63,64,65,81,82,83] [M 88 0,M 89 9,M 90 10,B 91 .add 90 (i 1),b 92 152 89 91,M 93 11,M 94 8,B 95 .add 94 (i 1),b 96 152 93 95,c 97 182 88 92 96]))) (O [0,4,8,9,63,64,65,81,82,83] [B 98 .add 83 (i 1),M 83 98])))));intro h;dsimp at h;refine (?g:Ig CCode) _ h;exact fun c _=>c
def c168l2:CCode:=by refine (?k:Ih CCode _) (Im (Q (O [0,4,63,64,65,66] [B 66 .lss 65 (t 64)]) (Q (C (t 66) .skip (.exit 2)) (Q (.block 3 (Q (O [0,4,8,9,63,64,65] [M 67 65,A 68 1 63 65,l 69 1 68,M 8 67,M 9 69]) (Q (O [0,4,8,9,63,64,65] [M 70 0,M 71 0,I 72 (.nilck (t 71)),F 73 13 72,l 74 1 73,M 75 8,B 76 .add 75 (i 1),b 77 152 74 76,M 78 9,I 79 (.call 152 [(t 78),(i 0)]),c 80 165 70 77 79]) (Q (O [0,4,8,9,63,64,65,81,82,83] [M 81 4,V 82 81,I 83 (.mov (i 0))]) (.block 4 (.loop [0,4,8,9,63,64,65,81,82,83] c168l1)))))) (O [0,4,63,64,65] [B 99 .add 65 (i 1),M 65 99])))));intro h;dsimp at h;refine (?g:Ig CCode) _ h;exact fun c _=>c
def c168:CFun:=by refine (?k:Ih CFun _) (Im ⟨(Q (.draw [0,2,3] [I 2 (.new [z,z,z,(.p (.s [])),.nils,.nils]),I 3 (.new [z,z,z,(.p (.s [])),.nils,.nils])] [M 12 0,M 13 0,I 14 (.nilck (t 13)),F 15 12 14,l 16 1 15,b 17 179 12 16,M 18 0,M 19 0,I 20 (.nilck (t 19)),F 21 13 20,l 22 1 21,b 23 179 18 22,S 6 2 17,S 6 3 23] [.low 21,.closed 179 [12,16]]) (Q (O [0,2,3] [M 24 0,I 25 (.nilck (t 24)),F 26 2 25,F 27 2 26,l 28 1 27,F 29 1 3,S 1 29 28]) (Q (O [0,2,3,4] [M 30 0,r 31 6 3,F 32 5 2,l 33 1 32,V 34 33,B 35 .sub 34 (i 1),c 36 180 30 31 35,M 4 36]) (Q (O [0,4,5] [M 37 0,r 38 6 2,F 39 5 3,l 40 1 39,V 41 40,B 42 .sub 41 (i 1),c 43 180 37 38 42,M 5 43]) (Q (Q (O [0,4,5,44,45,46] [M 44 4,V 45 44,I 46 (.mov (i 0))]) (.block 0 (.loop [0,4,5,44,45,46] c168l0))) (Q (O [0,4,63,64,65] [M 63 5,V 64 63,I 65 (.mov (i 0))]) (.block 2 (.loop [0,4,63,64,65] c168l2)))))))),[],false,false⟩);intro h;dsimp at h;refine (?g:Ig CFun) _ h;exact fun c _=>c
theorem ok168:comp Tryz.prog 168=cr c168:=by kernel_rfl
def c169:CFun:=by refine (?k:Ih CFun _) (Im ⟨(Q (O [2,3] [I 2 (.box (t 0)),I 3 (.box (t 1)),I 4 (.mov (.k (.p .fnil)))]) (Q (.draw [2,3,5] [I 5 (.new [.nils])] [l 6 1 2,l 7 1 2,a 8 181 7,I 9 (.build [z,z,z,(.p (.s [])),.nils,.nils] [(0,1,(i 7)),(1,1,(t 8))]),l 10 1 3,V 11 10,c 12 180 6 9 11,S 1 5 12] [.closed 181 [7],.low 3,.low 10]) (Q (O [4] [I 13 (.mkfn 185 [] [(t 3),(t 2),(t 5)]),M 4 13]) .ret))),[.t 4],false,true⟩);intro h;dsimp at h;refine (?g:Ig CFun) _ h;exact fun c _=>c
theorem ok169:comp Tryz.prog 169=cr c169:=by kernel_rfl
def c170l0:CCode:=by refine (?k:Ih CCode _) (Im (Q (Q (O [0,1,7,8,16] [M 10 8,M 11 0,M 12 1,b 13 179 11 12,I 14 (.field 5 1 false (t 13)),V 15 14,B 16 .lss 10 (t 15)]) (C (t 16) .skip (.exit 0))) (Q (.block 1 (O [0,1,7,8] [M 19 7,M 20 1,M 21 8,b 22 152 20 21,I 23 (.bslice 2 [(.i .i64 0),(.i .i64 0)] 1 [(0,(t 22))]),I 24 (.app false 2 16 (t 19) (t 23)),M 7 24])) (O [0,1,7,8] [M 17 8,B 18 .add 17 (i 1),M 8 18]))));intro h;dsimp at h;refine (?g:Ig CCode) _ h;exact fun c _=>c
def c170:CFun:=by refine (?k:Ih CFun _) (Im ⟨(Q (O [0,1,2] [I 6 (.mov (.k .nils))]) (Q (O [0,1,2,7] [I 7 (.mov (.k .nils))]) (Q (Q (O [0,1,7,8] [M 9 2,M 8 9]) (.block 0 (.loop [0,1,7,8] c170l0))) (Q (O [6] [M 25 7,M 6 25]) .ret)))),[.t 6],false,true⟩);intro h;dsimp at h;refine (?g:Ig CFun) _ h;exact fun c _=>c
theorem ok170:comp Tryz.prog 170=cr c170:=by kernel_rfl
def c171l0:CCode:=by refine (?k:Ih CCode _) (Im (Q (O [0,46,47,48,49] [B 49 .lss 48 (t 47)]) (Q (C (t 49) .skip (.exit 2)) (Q (.block 3 (Q (O [0,7,46,47,48] [A 50 2 46 48,r 51 2 50,I 7 (.new [z,z]),S 2 7 51]) (O [0,46,47,48] [M 52 0,F 53 0 7,l 54 1 53,b 55 186 52 54]))) (O [0,46,47,48] [B 56 .add 48 (i 1),M 48 56])))));intro h;dsimp at h;refine (?g:Ig CCode) _ h;exact fun c _=>c
def c171l1:CCode:=by refine (?k:Ih CCode _) (Im (Q (Q (O [0,16] [M 11 0,I 12 (.nilck (t 11)),F 13 2 12,l 14 1 13,V 15 14,B 16 .gtr 15 (i 0)]) (C (t 16) .skip (.exit 0))) (.block 1 (Q (O [0,4] [M 17 0,I 18 (.nilck (t 17)),F 19 2 18,l 20 1 19,V 21 20,B 22 .sub 21 (i 1),M 4 22]) (Q (O [0,4,5] [M 23 0,I 24 (.nilck (t 23)),F 25 2 24,l 26 1 25,M 27 4,A 28 1 26 27,l 29 1 28,M 5 29]) (Q (O [0,5] [M 30 0,M 31 0,I 32 (.nilck (t 31)),F 33 2 32,l 34 1 33,M 35 4,I 36 (.subs false 1 (t 34) none (some (t 35))),I 37 (.nilck (t 30)),F 38 2 37,S 1 38 36]) (Q (O [0,46,47,48] [M 39 0,I 40 (.nilck (t 39)),F 41 0 40,l 42 1 41,M 43 5,A 44 6 42 43,F 45 5 44,l 46 1 45,V 47 46,I 48 (.mov (i 0))]) (.block 2 (.loop [0,46,47,48] c171l0)))))))));intro h;dsimp at h;refine (?g:Ig CCode) _ h;exact fun c _=>c
def c171:CFun:=by refine (?k:Ih CFun _) (Im ⟨(Q (O [0] [M 8 0,M 9 1,b 10 186 8 9]) (.block 0 (.loop [0] c171l1))),[],false,true⟩);intro h;dsimp at h;refine (?g:Ig CFun) _ h;exact fun c _=>c
theorem ok171:comp Tryz.prog 171=cr c171:=by kernel_rfl
def c172:CFun:=by refine (?k:Ih CFun _) (Im ⟨(Q (O [1,2] [I 1 (.box (t 0)),I 2 (.new [.nils,z])]) (Q (.draw [1,2] [] [F 3 0 1,l 4 1 3,V 5 4,B 6 .add 5 (i 1),I 7 (.mkslice 6 88 [(.i .i64 0),(.i .i64 0),(.i .i64 0),(.s []),(.sl []),(.sl [])] (i 0) (t 6)),F 8 0 1,l 9 1 8,I 10 (.app false 6 88 (t 7) (t 9)),F 11 0 1,S 1 11 10] [.low 8]) (Q (O [2] [r 12 2 1,S 2 2 12]) .ret))),[.cell 2 2 true],false,true⟩);intro h;dsimp at h;refine (?g:Ig CFun) _ h;exact fun c _=>c
theorem ok172:comp Tryz.prog 172=cr c172:=by kernel_rfl
def c173:CFun:=by refine (?k:Ih CFun _) (Im ⟨(Q (O [1,2] [I 2 (.box (t 0)),I 3 (.mov N)]) (Q (O [3] [F 4 0 2,l 5 1 4,F 6 0 1,l 7 1 6,I 8 (.bin .eql .str (t 5) (t 7)),M 3 8]) .ret)),[.t 3],false,false⟩);intro h;dsimp at h;refine (?g:Ig CFun) _ h;exact fun c _=>c
theorem ok173:comp Tryz.prog 173=cr c173:=by kernel_rfl
def c174:CFun:=by refine (?k:Ih CFun _) (Im ⟨(Q (O [0,1] [I 4 (.mov N)]) (Q (O [4] [M 5 0,M 6 1,b 7 187 5 6,B 8 .geq 7 (i 0),M 4 8]) .ret)),[.t 4],false,false⟩);intro h;dsimp at h;refine (?g:Ig CFun) _ h;exact fun c _=>c
theorem ok174:comp Tryz.prog 174=cr c174:=by kernel_rfl
def c175l0:CCode:=by refine (?k:Ih CCode _) (Im (Q (O [0,1,7,8,9] [B 9 .lss 8 (t 7)]) (Q (C (t 9) .skip (.exit 0)) (Q (.block 1 (Q (O [0,1,5,7,8] [M 10 8,M 5 10]) (Q (O [0,1,5,7,8,16] [M 11 1,M 12 0,M 13 5,A 14 2 12 13,r 15 2 14,I 16 (.callv (t 11) [(t 15)])]) (C (t 16) (Q (O [4] [M 17 5,M 4 17]) .ret) .skip)))) (O [0,1,7,8] [B 18 .add 8 (i 1),M 8 18])))));intro h;dsimp at h;refine (?g:Ig CCode) _ h;exact fun c _=>c
def c175:CFun:=by refine (?k:Ih CFun _) (Im ⟨(Q (O [0,1] [I 4 (.mov (i 0))]) (Q (Q (O [0,1,7,8] [M 6 0,V 7 6,I 8 (.mov (i 0))]) (.block 0 (.loop [0,1,7,8] c175l0))) (Q (O [4] [I 4 (.mov (i (-1)))]) .ret))),[.t 4],false,false⟩);intro h;dsimp at h;refine (?g:Ig CFun) _ h;exact fun c _=>c
theorem ok175:comp Tryz.prog 175=cr c175:=by kernel_rfl
def c176:CFun:=by refine (?k:Ih CFun _) (Im ⟨(Q (O [2,3,4] [I 2 (.box (t 0)),I 3 (.box (t 1)),I 4 (.new [z,(.p (.b false)),z,z,z,z,z,(.p (.s [])),.nils,.nils]),I 5 (.mov (i 0))]) (Q (Q (O [2,3,4,11] [F 7 1 2,l 8 1 7,F 9 1 3,l 10 1 9,B 11 .neq 8 (t 10)]) (C (t 11) (Q (O [4,5] [I 12 (.build [z,(.p (.b false)),z,z,z,z,z,(.p (.s [])),.nils,.nils] []),S 10 4 12,I 5 (.mov (i 140))]) .ret) .skip)) (Q (O [4,6] [F 13 4 2,l 14 1 13,I 15 (.mkfn 188 [] [(t 3)]),b 16 187 14 15,M 6 16]) (Q (Q (O [4,6,18] [M 17 6,B 18 .lss 17 (i 0)]) (C (t 18) (Q (O [4,5] [I 19 (.call 156 [(i 5)]),X 20 19 0,X 21 19 1,S 10 4 20,M 5 21]) .ret) .skip)) (Q (O [4,5] [M 22 6,I 23 (.build [z,(.p (.b false)),z,z,z,z,z,(.p (.s [])),.nils,.nils] [(0,1,(i 2)),(3,1,(t 22))]),S 10 4 23,I 5 (.mov (i 0))]) .ret))))),[.cell 4 10 true,.t 5],false,false⟩);intro h;dsimp at h;refine (?g:Ig CFun) _ h;exact fun c _=>c
theorem ok176:comp Tryz.prog 176=cr c176:=by kernel_rfl
def c177:CFun:=by refine (?k:Ih CFun _) (Im ⟨(Q (O [2,3,4] [I 2 (.box (t 0)),I 3 (.box (t 1)),I 4 (.new [z,(.p (.b false)),z,z,z,z,z,(.p (.s [])),.nils,.nils]),I 5 (.mov (i 0))]) (Q (O [2,3,4,6] [I 7 (.build [z,z,z,(.p (.s [])),.nils,.nils] [(0,1,(i 10))]),I 6 (.new [z,z,z,(.p (.s [])),.nils,.nils]),S 6 6 7]) (Q (Q (O [2,3,4,6,9] [F 8 3 2,l 9 1 8]) (.block 0 (Q (O [2,3,4,6,9,10] [I 11 (.bin .eql .str (t 9) (.k (.p (.s [43])))),M 10 11]) (C (t 10) (O [2,4,6] [F 12 2 2,l 13 1 12,F 14 2 3,l 15 1 14,B 16 .add 13 (t 15),F 17 2 6,S 1 17 16]) (Q (O [2,3,4,6,9,18] [I 19 (.bin .eql .str (t 9) (.k (.p (.s [45])))),M 18 19]) (C (t 18) (O [2,4,6] [F 20 2 2,l 21 1 20,F 22 2 3,l 23 1 22,B 24 .sub 21 (t 23),F 25 2 6,S 1 25 24]) (Q (O [2,3,4,6,9,26] [I 27 (.bin .eql .str (t 9) (.k (.p (.s [42])))),M 26 27]) (C (t 26) (O [2,4,6] [F 28 2 2,l 29 1 28,F 30 2 3,l 31 1 30,B 32 .mul 29 (t 31),F 33 2 6,S 1 33 32]) (Q (O [2,3,4,6,9,34] [I 35 (.bin .eql .str (t 9) (.k (.p (.s [47])))),M 34 35]) (C (t 34) (Q (Q (O [2,3,4,6,38] [F 36 2 3,l 37 1 36,B 38 .eql 37 (i 0)]) (C (t 38) (Q (O [4,5] [I 39 (.call 156 [(i 5)]),X 40 39 0,X 41 39 1,S 10 4 40,M 5 41]) .ret) .skip)) (O [2,4,6] [F 42 2 2,l 43 1 42,F 44 2 3,l 45 1 44,B 46 .quo 43 (t 45),F 47 2 6,S 1 47 46])) (Q (O [2,3,4,6,9,48] [I 49 (.bin .eql .str (t 9) (.k (.p (.s [60])))),M 48 49]) (C (t 48) (O [2,4,6] [F 50 2 2,l 51 1 50,F 52 2 3,l 53 1 52,B 54 .lss 51 (t 53),a 55 189 54,S 6 6 55]) (Q (O [2,3,4,6,56] [I 57 (.bin .eql .str (t 9) (.k (.p (.s [61,61])))),M 56 57]) (C (t 56) (O [2,4,6] [F 58 2 2,l 59 1 58,F 60 2 3,l 61 1 60,B 62 .eql 59 (t 61),a 63 189 62,S 6 6 63]) .skip)))))))))))))) (Q (O [4,6] [F 64 1 2,l 65 1 64,F 66 1 6,S 1 66 65]) (Q (O [4,5] [r 67 6 6,I 68 (.build [z,(.p (.b false)),z,z,z,z,z,(.p (.s [])),.nils,.nils] [(0,1,(i 4)),(4,6,(t 67))]),S 10 4 68,I 5 (.mov (i 0))]) .ret))))),[.cell 4 10 true,.t 5],false,false⟩);intro h;dsimp at h;refine (?g:Ig CFun) _ h;exact fun c _=>c
theorem ok177:comp Tryz.prog 177=cr c177:=by kernel_rfl
def c178:CFun:=by refine (?k:Ih CFun _) (Im ⟨(Q (O [0,4,5] [I 4 (.box (t 1)),I 5 (.box (t 2))]) (.draw [] [] [M 7 0,M 8 0,I 9 (.nilck (t 8)),F 10 0 9,r 11 2 10,r 12 2 4,r 13 2 5,c 14 190 11 12 13,M 6 14,X 15 6 0,X 16 6 1,I 17 (.nilck (t 7)),F 18 0 17,S 2 18 15] [])),[],false,false⟩);intro h;dsimp at h;refine (?g:Ig CFun) _ h;exact fun c _=>c
theorem ok178:comp Tryz.prog 178=cr c178:=by kernel_rfl
def c179:CFun:=by refine (?k:Ih CFun _) (Im ⟨(Q (O [0,1,4] [I 4 (.new [z,z,z,(.p (.s [])),.nils,.nils])]) (Q (O [4] [M 5 0,I 6 (.nilck (t 5)),F 7 0 6,F 8 0 7,l 9 1 8,M 10 1,A 11 6 9 10,r 12 6 11,S 6 4 12]) .ret)),[.cell 4 6 true],false,false⟩);intro h;dsimp at h;refine (?g:Ig CFun) _ h;exact fun c _=>c
theorem ok179:comp Tryz.prog 179=cr c179:=by kernel_rfl
def c180l0:CCode:=by refine (?k:Ih CCode _) (Im (Q (O [0,4,7,8,9,10] [B 10 .lss 9 (t 8)]) (Q (C (t 10) .skip (.exit 0)) (Q (.block 1 (O [0,4,7,8,9] [M 11 7,M 12 0,r 13 6 4,b 14 166 12 13,I 15 (.bslice 1 [(.i .i64 0)] 1 [(0,(t 14))]),I 16 (.app false 1 8 (t 11) (t 15)),M 7 16])) (O [0,4,7,8,9] [B 17 .add 9 (i 1),M 9 17])))));intro h;dsimp at h;refine (?g:Ig CCode) _ h;exact fun c _=>c
def c180:CFun:=by refine (?k:Ih CFun _) (Im ⟨(Q (O [0,2,4] [I 4 (.box (t 1)),I 6 (.mov (.k .nils))]) (Q (O [0,2,4,7] [I 7 (.mov (.k .nils))]) (Q (Q (O [0,4,7,8,9] [M 8 2,I 9 (.mov (i 0))]) (.block 0 (.loop [0,4,7,8,9] c180l0))) (Q (O [6] [M 18 7,M 6 18]) .ret)))),[.t 6],false,false⟩);intro h;dsimp at h;refine (?g:Ig CFun) _ h;exact fun c _=>c
theorem ok180:comp Tryz.prog 180=cr c180:=by kernel_rfl
def c181:CFun:=by refine (?k:Ih CFun _) (Im ⟨(Q (O [0] [I 2 (.mov (i 0))]) (Q (O [2] [M 3 0,M 4 0,I 5 (.nilck (t 4)),F 6 12 5,l 7 1 6,b 8 179 3 7,I 9 (.field 1 1 false (t 8)),M 2 9]) .ret)),[.t 2],false,false⟩);intro h;dsimp at h;refine (?g:Ig CFun) _ h;exact fun c _=>c
theorem ok181:comp Tryz.prog 181=cr c181:=by kernel_rfl
def c182:CFun:=by refine (?k:Ih CFun _) (Im ⟨(Q (O [0,4,5] [I 4 (.box (t 1)),I 5 (.box (t 2))]) (.draw [] [] [M 7 0,M 8 0,I 9 (.nilck (t 8)),F 10 0 9,r 11 2 10,r 12 2 4,r 13 2 5,c 14 191 11 12 13,M 6 14,X 15 6 0,X 16 6 1,I 17 (.nilck (t 7)),F 18 0 17,S 2 18 15] [])),[],false,false⟩);intro h;dsimp at h;refine (?g:Ig CFun) _ h;exact fun c _=>c
theorem ok182:comp Tryz.prog 182=cr c182:=by kernel_rfl
def c183:CFun:=by refine (?k:Ih CFun _) (Im ⟨(Q (O [3,4,5,6] [I 3 (.box (t 0)),I 4 (.box (t 1)),I 5 (.box (t 2)),I 6 (.new [.nils,z]),I 7 (.mov (i 0))]) (Q (O [3,4,5,6,8] [r 9 2 3,I 10 (.build [.nils,z] [(0,2,(t 9))]),I 8 (.new [.nils,z]),S 2 8 10]) (Q (.block 0 (Q (.draw [3,4,5,6,8,11] [] [r 12 2 8,r 13 2 4,r 14 2 5,I 15 (.bslice 2 [(.i .i64 0),(.i .i64 0)] 2 [(0,(t 13)),(1,(t 14))]),b 16 138 12 15,H 17 16,M 18 17,J 18 (r 19 2 4),J 18 (r 20 2 5),J 18 (I 21 (.bin .eql (.leaves 2 [(0,1),(1,1)]) (t 19) (t 20))),D 22 18 21,M 23 22,J 23 (r 24 2 8),J 23 (r 25 2 8),J 23 (r 26 2 4),J 23 (b 27 139 25 26),J 23 (I 28 (.bslice 2 [(.i .i64 0),(.i .i64 0)] 1 [(0,(t 27))])),J 23 (b 29 138 24 28),J 23 (H 30 29),D 31 23 30,M 11 31] [.closed 139 [25,26]]) (C (t 11) (Q (O [6,7] [r 32 2 3,S 2 6 32,I 7 (.mov (i 130))]) .ret) (Q (.draw [3,4,5,6,8,33] [] [r 34 2 8,r 35 2 4,b 36 139 34 35,r 37 2 5,I 38 (.bin .eql (.leaves 2 [(0,1),(1,1)]) (t 36) (t 37)),M 33 38] [.low 5,.closed 139 [34,35]]) (C (t 33) (Q (O [6,7] [r 39 2 3,S 2 6 39,I 7 (.mov (i 0))]) .ret) .skip))))) (Q (.draw [6,7] [] [r 40 2 8,r 41 2 5,r 42 2 8,r 43 2 4,b 44 139 42 43,c 45 192 40 41 44,X 46 45 0,X 47 45 1,S 2 6 46,M 7 47] [.closed 139 [42,43]]) .ret)))),[.cell 6 2 true,.t 7],false,false⟩);intro h;dsimp at h;refine (?g:Ig CFun) _ h;exact fun c _=>c
theorem ok183:comp Tryz.prog 183=cr c183:=by kernel_rfl
def c184:CFun:=by refine (?k:Ih CFun _) (Im ⟨(Q (O [2,3,4] [I 2 (.box (t 0)),I 3 (.box (t 1)),I 4 (.new [.nils,z]),I 5 (.mov (i 0)),I 6 (.mov (i 0))]) (Q (.block 0 (Q (O [2,3,4,8] [F 9 0 3,l 10 1 9,B 11 .eql 10 (i 0),M 12 11,J 12 (F 13 0 3),J 12 (l 14 1 13),J 12 (B 15 .eql 14 (i 1)),D 16 12 15,M 17 16,J 17 (r 18 6 3),J 17 (a 19 135 18),J 17 (H 20 19),D 21 17 20,M 8 21]) (C (t 8) (Q (O [4,5,6] [r 22 2 2,S 2 4 22,I 5 (.mov (i 0)),I 6 (.mov (i 122))]) .ret) (Q (.draw [2,3,4,23] [] [r 24 2 2,a 25 143 24,F 26 1 2,l 27 1 26,B 28 .geq 25 (t 27),M 23 28] [.low 26,.closed 143 [24]]) (C (t 23) (Q (O [4,5,6] [r 29 2 2,S 2 4 29,I 5 (.mov (i 0)),I 6 (.mov (i 121))]) .ret) .skip))))) (Q (O [2,3,4] [r 30 2 2,a 31 172 30,S 2 2 31]) (Q (.draw [2,3,4] [] [r 32 6 3,a 33 136 32,I 34 (.mkslice 2 16 [(.i .i64 0),(.i .i64 0)] (t 33) (t 33)),F 35 4 3,l 36 1 35,a 37 193 36,F 38 5 3,S 1 38 34,F 39 4 3,S 1 39 37] [.low 35,.closed 136 [32],.quiet 193 [36]]) (Q (O [2,3,4,7] [F 40 0 2,l 41 1 40,I 42 (.call 194 [(t 41),(.k (.fn 160 [] []))]),M 7 42]) (Q (Q (O [2,3,4,7,44] [M 43 7,B 44 .lss 43 (i 0)]) (C (t 44) (Q (O [2,3,4,7] [F 45 0 2,l 46 1 45,V 47 46,M 7 47]) (O [2,3,4,7] [F 48 0 2,l 49 1 48,r 50 6 3,I 51 (.bslice 6 [(.i .i64 0),(.i .i64 0),(.i .i64 0),(.s []),(.sl []),(.sl [])] 1 [(0,(t 50))]),I 52 (.app false 6 88 (t 49) (t 51)),F 53 0 2,S 1 53 52])) .skip)) (Q (O [2,4,7] [F 54 0 2,l 55 1 54,M 56 7,r 57 6 3,A 58 6 55 56,S 6 58 57]) (Q (O [4,5,6] [r 59 2 2,M 60 7,S 2 4 59,M 5 60,I 6 (.mov (i 0))]) .ret)))))))),[.cell 4 2 true,.t 5,.t 6],false,false⟩);intro h;dsimp at h;refine (?g:Ig CFun) _ h;exact fun c _=>c
theorem ok184:comp Tryz.prog 184=cr c184:=by kernel_rfl
def c185l0:CCode:=by refine (?k:Ih CCode _) (Im (Q (O [1,2,5,6,7,8] [B 8 .lss 7 (t 6)]) (Q (C (t 8) .skip (.exit 0)) (Q (.block 1 (Q (O [1,2,3,4,5,6,7] [M 9 7,A 10 2 5 7,r 11 2 10,I 4 (.new [z,z]),M 3 9,S 2 4 11]) (.draw [1,2,5,6,7] [] [l 12 1 1,r 13 2 4,l 14 1 2,M 15 3,A 16 1 14 15,l 17 1 16,I 18 (.call 152 [(t 17),(i 0)]),c 19 165 12 13 18] [.closed 152 [17]]))) (O [1,2,5,6,7] [B 20 .add 7 (i 1),M 7 20])))));intro h;dsimp at h;refine (?g:Ig CCode) _ h;exact fun c _=>c
def c185:CFun:=by refine (?k:Ih CFun _) (Im ⟨(Q (O [1,2,5,6,7] [l 5 1 0,V 6 5,I 7 (.mov (i 0))]) (.block 0 (.loop [1,2,5,6,7] c185l0))),[],false,false⟩);intro h;dsimp at h;refine (?g:Ig CFun) _ h;exact fun c _=>c
theorem ok185:comp Tryz.prog 185=cr c185:=by kernel_rfl
def c186:CFun:=by refine (?k:Ih CFun _) (Im ⟨(Q (Q (O [0,1,10] [M 4 0,I 5 (.nilck (t 4)),F 6 1 5,l 7 1 6,M 8 1,A 9 1 7 8,l 10 1 9]) (C (t 10) .ret .skip)) (Q (O [0,1] [M 11 0,I 12 (.nilck (t 11)),F 13 1 12,l 14 1 13,M 15 1,A 16 1 14 15,⟨none,.store 1 (t 16) T,none⟩]) (O [] [M 17 0,M 18 0,I 19 (.nilck (t 18)),F 20 2 19,l 21 1 20,M 22 1,I 23 (.bslice 1 [(.i .i64 0)] 1 [(0,(t 22))]),I 24 (.app false 1 8 (t 21) (t 23)),I 25 (.nilck (t 17)),F 26 2 25,S 1 26 24]))),[],false,true⟩);intro h;dsimp at h;refine (?g:Ig CFun) _ h;exact fun c _=>c
theorem ok186:comp Tryz.prog 186=cr c186:=by kernel_rfl
def c187l0:CCode:=by refine (?k:Ih CCode _) (Im (Q (O [0,1,7,8,9] [B 9 .lss 8 (t 7)]) (Q (C (t 9) .skip (.exit 0)) (Q (.block 1 (Q (O [0,1,5,7,8] [M 10 8,M 5 10]) (Q (O [0,1,5,7,8,16] [M 11 1,M 12 0,M 13 5,A 14 2 12 13,r 15 2 14,I 16 (.callv (t 11) [(t 15)])]) (C (t 16) (Q (O [4] [M 17 5,M 4 17]) .ret) .skip)))) (O [0,1,7,8] [B 18 .add 8 (i 1),M 8 18])))));intro h;dsimp at h;refine (?g:Ig CCode) _ h;exact fun c _=>c
def c187:CFun:=by refine (?k:Ih CFun _) (Im ⟨(Q (O [0,1] [I 4 (.mov (i 0))]) (Q (Q (O [0,1,7,8] [M 6 0,V 7 6,I 8 (.mov (i 0))]) (.block 0 (.loop [0,1,7,8] c187l0))) (Q (O [4] [I 4 (.mov (i (-1)))]) .ret))),[.t 4],false,false⟩);intro h;dsimp at h;refine (?g:Ig CFun) _ h;exact fun c _=>c
theorem ok187:comp Tryz.prog 187=cr c187:=by kernel_rfl
def c188:CFun:=by refine (?k:Ih CFun _) (Im ⟨(Q (O [1,2] [I 2 (.box (t 0)),I 3 (.mov N)]) (Q (O [3] [F 4 0 2,l 5 1 4,F 6 3 1,l 7 1 6,I 8 (.bin .eql .str (t 5) (t 7)),M 9 8,K 9 (F 10 1 2),K 9 (l 11 1 10),K 9 (F 12 5 1),K 9 (l 13 1 12),K 9 (V 14 13),K 9 (B 15 .sub 14 (i 1)),K 9 (B 16 .eql 11 (t 15)),e 17 9 16,M 3 17]) .ret)),[.t 3],false,false⟩);intro h;dsimp at h;refine (?g:Ig CFun) _ h;exact fun c _=>c
theorem ok188:comp Tryz.prog 188=cr c188:=by kernel_rfl
def c189:CFun:=by refine (?k:Ih CFun _) (Im ⟨(Q (O [0,2] [I 2 (.new [z,z,z,(.p (.s [])),.nils,.nils])]) (Q (O [0,2,3] [I 3 (.mov (.k (.p (.s [70,97,108,115,101]))))]) (Q (Q (O [2,3,4] [M 4 0]) (C (t 4) (O [2,3] [I 3 (.mov (.k (.p (.s [84,114,117,101]))))]) .skip)) (Q (O [2] [M 5 3,I 6 (.mkslice 2 16 [(.i .i64 0),(.i .i64 0)] (i 1) (i 1)),I 7 (.build [z,z,z,(.p (.s [])),.nils,.nils] [(0,1,(i 8)),(3,1,(t 5)),(5,1,(t 6))]),S 6 2 7]) .ret)))),[.cell 2 6 true],false,false⟩);intro h;dsimp at h;refine (?g:Ig CFun) _ h;exact fun c _=>c
theorem ok189:comp Tryz.prog 189=cr c189:=by kernel_rfl
def c190:CFun:=by refine (?k:Ih CFun _) (Im ⟨(Q (O [3,4,5,6] [I 3 (.box (t 0)),I 4 (.box (t 1)),I 5 (.box (t 2)),I 6 (.new [.nils,z]),I 7 (.mov (i 0))]) (Q (O [3,4,5,6,8] [r 9 2 3,I 10 (.build [.nils,z] [(0,2,(t 9))]),I 8 (.new [.nils,z]),S 2 8 10]) (Q (.block 0 (Q (.draw [3,4,5,6,8,11] [] [r 12 2 8,r 13 2 4,r 14 2 5,I 15 (.bslice 2 [(.i .i64 0),(.i .i64 0)] 2 [(0,(t 13)),(1,(t 14))]),b 16 138 12 15,H 17 16,M 18 17,J 18 (r 19 2 4),J 18 (r 20 2 5),J 18 (I 21 (.bin .eql (.leaves 2 [(0,1),(1,1)]) (t 19) (t 20))),D 22 18 21,M 23 22,J 23 (r 24 2 8),J 23 (r 25 2 8),J 23 (r 26 2 4),J 23 (b 27 139 25 26),J 23 (r 28 2 8),J 23 (r 29 2 5),J 23 (b 30 139 28 29),J 23 (I 31 (.bslice 2 [(.i .i64 0),(.i .i64 0)] 2 [(0,(t 27)),(1,(t 30))])),J 23 (b 32 138 24 31),J 23 (H 33 32),D 34 23 33,M 11 34] [.closed 139 [25,26],.low 8,.low 5,.closed 139 [28,29]]) (C (t 11) (Q (O [6,7] [r 35 2 3,S 2 6 35,I 7 (.mov (i 130))]) .ret) (Q (.draw [3,4,5,6,8,36] [] [r 37 2 8,r 38 2 4,b 39 139 37 38,r 40 2 5,I 41 (.bin .eql (.leaves 2 [(0,1),(1,1)]) (t 39) (t 40)),M 36 41] [.low 5,.closed 139 [37,38]]) (C (t 36) (Q (O [6,7] [r 42 2 3,S 2 6 42,I 7 (.mov (i 0))]) .ret) .skip))))) (Q (.draw [6,7] [] [r 43 2 8,r 44 2 8,r 45 2 4,b 46 139 44 45,r 47 2 8,r 48 2 5,b 49 139 47 48,c 50 192 43 46 49,X 51 50 0,X 52 50 1,S 2 6 51,M 7 52] [.closed 139 [44,45],.low 8,.low 5,.closed 139 [47,48]]) .ret)))),[.cell 6 2 true,.t 7],false,false⟩);intro h;dsimp at h;refine (?g:Ig CFun) _ h;exact fun c _=>c
theorem ok190:comp Tryz.prog 190=cr c190:=by kernel_rfl
def c191:CFun:=by refine (?k:Ih CFun _) (Im ⟨(Q (O [3,4,5,6] [I 3 (.box (t 0)),I 4 (.box (t 1)),I 5 (.box (t 2)),I 6 (.new [.nils,z]),I 7 (.mov (i 0))]) (Q (O [6,7] [r 8 2 3,I 9 (.build [.nils,z] [(0,2,(t 8))]),r 10 2 4,r 11 2 5,c 12 192 9 10 11,X 13 12 0,X 14 12 1,S 2 6 13,M 7 14]) .ret)),[.cell 6 2 true,.t 7],false,false⟩);intro h;dsimp at h;refine (?g:Ig CFun) _ h;exact fun c _=>c
theorem ok191:comp Tryz.prog 191=cr c191:=by kernel_rfl
def c192:CFun:=by refine (?k:Ih CFun _) (Im ⟨(Q (O [3,4,5,6] [I 3 (.box (t 0)),I 4 (.box (t 1)),I 5 (.box (t 2)),I 6 (.new [.nils,z]),I 7 (.mov (i 0))]) (Q (Q (O [3,4,5,6,18] [r 8 2 3,r 9 2 4,r 10 2 5,I 11 (.bslice 2 [(.i .i64 0),(.i .i64 0)] 2 [(0,(t 9)),(1,(t 10))]),b 12 138 8 11,H 13 12,M 14 13,J 14 (r 15 2 4),J 14 (r 16 2 5),J 14 (I 17 (.bin .eql (.leaves 2 [(0,1),(1,1)]) (t 15) (t 16))),D 18 14 17]) (C (t 18) (Q (O [6,7] [F 19 0 3,r 20 2 19,S 2 6 20,I 7 (.mov (i 130))]) .ret) .skip)) (Q (.draw [6,7] [] [r 21 2 3,r 22 2 4,r 23 2 5,c 24 195 21 22 23,r 25 2 5,r 26 2 4,c 27 195 24 25 26,I 28 (.field 0 2 true (t 27)),S 2 6 28,I 7 (.mov (i 0))] [.low 5,.closed 195 [21,22,23],.low 4]) .ret))),[.cell 6 2 true,.t 7],false,false⟩);intro h;dsimp at h;refine (?g:Ig CFun) _ h;exact fun c _=>c
theorem ok192:comp Tryz.prog 192=cr c192:=by kernel_rfl
def c194l0:CCode:=by refine (?k:Ih CCode _) (Im (Q (O [0,1,7,8,9] [B 9 .lss 8 (t 7)]) (Q (C (t 9) .skip (.exit 0)) (Q (.block 1 (Q (O [0,1,5,7,8] [M 10 8,M 5 10]) (Q (O [0,1,5,7,8,16] [M 11 1,M 12 0,M 13 5,A 14 6 12 13,r 15 6 14,I 16 (.callv (t 11) [(t 15)])]) (C (t 16) (Q (O [4] [M 17 5,M 4 17]) .ret) .skip)))) (O [0,1,7,8] [B 18 .add 8 (i 1),M 8 18])))));intro h;dsimp at h;refine (?g:Ig CCode) _ h;exact fun c _=>c
def c194:CFun:=by refine (?k:Ih CFun _) (Im ⟨(Q (O [0,1] [I 4 (.mov (i 0))]) (Q (Q (O [0,1,7,8] [M 6 0,V 7 6,I 8 (.mov (i 0))]) (.block 0 (.loop [0,1,7,8] c194l0))) (Q (O [4] [I 4 (.mov (i (-1)))]) .ret))),[.t 4],true,false⟩);intro h;dsimp at h;refine (?g:Ig CFun) _ h;exact fun c _=>c
theorem ok194:comp Tryz.prog 194=cr c194:=by kernel_rfl
def c195:CFun:=by refine (?k:Ih CFun _) (Im ⟨(Q (O [3,4,5,6] [I 3 (.box (t 0)),I 4 (.box (t 1)),I 5 (.box (t 2)),I 6 (.new [.nils,z])]) (Q (O [3,4,5,6,7] [F 8 0 3,F 9 0 8,l 10 1 9,F 11 0 4,l 12 1 11,A 13 6 10 12,r 14 6 13,I 7 (.new [z,z,z,(.p (.s [])),.nils,.nils]),S 6 7 14]) (Q (O [3,4,5,6,7] [F 15 5 7,l 16 1 15,a 17 196 16,F 18 5 7,S 1 18 17]) (Q (O [3,4,6,7] [F 19 5 7,l 20 1 19,F 21 1 4,l 22 1 21,r 23 2 5,A 24 2 20 22,S 2 24 23]) (Q (O [3,4,6,7] [F 25 0 3,F 26 0 25,l 27 1 26,a 28 197 27,F 29 0 3,F 30 0 29,S 1 30 28]) (Q (O [3,6] [F 31 0 3,F 32 0 31,l 33 1 32,F 34 0 4,l 35 1 34,r 36 6 7,A 37 6 33 35,S 6 37 36]) (Q (O [6] [r 38 2 3,S 2 6 38]) .ret))))))),[.cell 6 2 true],false,false⟩);intro h;dsimp at h;refine (?g:Ig CFun) _ h;exact fun c _=>c
theorem ok195:comp Tryz.prog 195=cr c195:=by kernel_rfl
end Go.Proofs.Z
end
section
namespace Go.Proofs.Z
open Go Go.Proofs
def tbl:List (Nat×CFun):=[(3,c3),(6,c6),(8,c8),(9,c9),(10,c10),(12,c12),(13,c13),(14,c14),(15,c15),(18,c18),(20,c20),(25,c25),(26,c26),(27,c27),(28,c28),(29,c29),(30,c30),(32,c32),(33,c33),(35,c35),(37,c37),(38,c38),(39,c39),(42,c42),(43,c43),(44,c44),(45,c45),(46,c46),(47,c47),(48,c48),(50,c50),(51,c51),(52,c52),(53,c53),(56,c56),(57,c57),(58,c58),(59,c59),(60,c60),(61,c61),(62,c62),(63,c63),(64,c64),(65,c65),(66,c66),(67,c67),(69,c69),(70,c70),(71,c71),(72,c72),(73,c73),(74,c74),(81,c81),(82,c82),(83,c83),(84,c84),(85,c85),(86,c86),(87,c87),(88,c88),(89,c89),(90,c90),(91,c91),(92,c92),(93,c93),(94,c94),(95,c95),(96,c96),(97,c97),(98,c98),(102,c102),(103,c103),(104,c104),(105,c105),(106,c106),(107,c107),(108,c108),(109,c109),(110,c110),(111,c111),(112,c112),(113,c113),(114,c114),(115,c115),(116,c116),(117,c117),(120,c120),(121,c121),(122,c122),(123,c123),(124,c124),(125,c125),(126,c126),(127,c127),(128,c128),(129,c129),(130,c130),(131,c131),(132,c132),(133,c133),(134,c134),(135,c135),(136,c136),(137,c137),(138,c138),(139,c139),(140,c140),(141,c141),(142,c142),(143,c143),(144,c144),(145,c145),(146,c146),(147,c147),(148,c148),(149,c149),(150,c150),(151,c151),(152,c152),(153,c153),(154,c154),(155,c155),(156,c156),(157,c157),(158,c158),(159,c159),(160,c160),(161,c161),(162,c162),(163,c163),(164,c164),(165,c165),(166,c166),(167,c167),(168,c168),(169,c169),(170,c170),(171,c171),(172,c172),(173,c173),(174,c174),(175,c175),(176,c176),(177,c177),(178,c178),(179,c179),(180,c180),(181,c181),(182,c182),(183,c183),(184,c184),(185,c185),(186,c186),(187,c187),(188,c188),(189,c189),(190,c190),(191,c191),(192,c192),(194,c194),(195,c195)]
set_option maxRecDepth 20000 in
theorem tbl_all:AllOK Tryz.prog tbl :=
 ⟨fnOK ok3,
 ⟨fnOK ok6,
 ⟨fnOK ok8,
 ⟨fnOK ok9,
 ⟨fnOK ok10,
 ⟨fnOK ok12,
 ⟨fnOK ok13,
 ⟨fnOK ok14,
 ⟨fnOK ok15,
 ⟨fnOK ok18,
 ⟨fnOK ok20,
 ⟨fnOK ok25,
 ⟨fnOK ok26,
 ⟨fnOK ok27,
 ⟨fnOK ok28,
 ⟨fnOK ok29,
 ⟨fnOK ok30,
 ⟨fnOK ok32,
 ⟨fnOK ok33,
 ⟨fnOK ok35,
 ⟨fnOK ok37,
 ⟨fnOK ok38,
 ⟨fnOK ok39,
 ⟨fnOK ok42,
 ⟨fnOK ok43,
 ⟨fnOK ok44,
 ⟨fnOK ok45,
 ⟨fnOK ok46,
 ⟨fnOK ok47,
 ⟨fnOK ok48,
 ⟨fnOK ok50,
 ⟨fnOK ok51,
 ⟨fnOK ok52,
 ⟨fnOK ok53,
 ⟨fnOK ok56,
 ⟨fnOK ok57,
 ⟨fnOK ok58,
 ⟨fnOK ok59,
 ⟨fnOK ok60,
 ⟨fnOK ok61,
 ⟨fnOK ok62,
 ⟨fnOK ok63,
 ⟨fnOK ok64,
 ⟨fnOK ok65,
 ⟨fnOK ok66,
 ⟨fnOK ok67,
 ⟨fnOK ok69,
 ⟨fnOK ok70,
 ⟨fnOK ok71,
 ⟨fnOK ok72,
 ⟨fnOK ok73,
 ⟨fnOK ok74,
 ⟨fnOK ok81,
 ⟨fnOK ok82,
 ⟨fnOK ok83,
 ⟨fnOK ok84,
 ⟨fnOK ok85,
 ⟨fnOK ok86,
 ⟨fnOK ok87,
 ⟨fnOK ok88,
 ⟨fnOK ok89,
 ⟨fnOK ok90,
 ⟨fnOK ok91,
 ⟨fnOK ok92,
 ⟨fnOK ok93,
 ⟨fnOK ok94,
 ⟨fnOK ok95,
 ⟨fnOK ok96,
 ⟨fnOK ok97,
 ⟨fnOK ok98,
 ⟨fnOK ok102,
 ⟨fnOK ok103,
 ⟨fnOK ok104,
 ⟨fnOK ok105,
 ⟨fnOK ok106,
 ⟨fnOK ok107,
 ⟨fnOK ok108,
 ⟨fnOK ok109,
 ⟨fnOK ok110,
 ⟨fnOK ok111,
 ⟨fnOK ok112,
 ⟨fnOK ok113,
 ⟨fnOK ok114,
 ⟨fnOK ok115,
 ⟨fnOK ok116,
 ⟨fnOK ok117,
 ⟨fnOK ok120,
 ⟨fnOK ok121,
 ⟨fnOK ok122,
 ⟨fnOK ok123,
 ⟨fnOK ok124,
 ⟨fnOK ok125,
 ⟨fnOK ok126,
 ⟨fnOK ok127,
 ⟨fnOK ok128,
 ⟨fnOK ok129,
 ⟨fnOK ok130,
 ⟨fnOK ok131,
 ⟨fnOK ok132,
 ⟨fnOK ok133,
 ⟨fnOK ok134,
 ⟨fnOK ok135,
 ⟨fnOK ok136,
 ⟨fnOK ok137,
 ⟨fnOK ok138,
 ⟨fnOK ok139,
 ⟨fnOK ok140,
 ⟨fnOK ok141,
 ⟨fnOK ok142,
 ⟨fnOK ok143,
 ⟨fnOK ok144,
 ⟨fnOK ok145,
 ⟨fnOK ok146,
 ⟨fnOK ok147,
 ⟨fnOK ok148,
 ⟨fnOK ok149,
 ⟨fnOK ok150,
 ⟨fnOK ok151,
 ⟨fnOK ok152,
 ⟨fnOK ok153,
 ⟨fnOK ok154,
 ⟨fnOK ok155,
 ⟨fnOK ok156,
 ⟨fnOK ok157,
 ⟨fnOK ok158,
 ⟨fnOK ok159,
 ⟨fnOK ok160,
 ⟨fnOK ok161,
 ⟨fnOK ok162,
 ⟨fnOK ok163,
 ⟨fnOK ok164,
 ⟨fnOK ok165,
 ⟨fnOK ok166,
 ⟨fnOK ok167,
 ⟨fnOK ok168,
 ⟨fnOK ok169,
 ⟨fnOK ok170,
 ⟨fnOK ok171,
 ⟨fnOK ok172,
 ⟨fnOK ok173,
 ⟨fnOK ok174,
 ⟨fnOK ok175,
 ⟨fnOK ok176,
 ⟨fnOK ok177,
 ⟨fnOK ok178,
 ⟨fnOK ok179,
 ⟨fnOK ok180,
 ⟨fnOK ok181,
 ⟨fnOK ok182,
 ⟨fnOK ok183,
 ⟨fnOK ok184,
 ⟨fnOK ok185,
 ⟨fnOK ok186,
 ⟨fnOK ok187,
 ⟨fnOK ok188,
 ⟨fnOK ok189,
 ⟨fnOK ok190,
 ⟨fnOK ok191,
 ⟨fnOK ok192,
 ⟨fnOK ok194,
 ⟨fnOK ok195,
 trivial⟩⟩⟩⟩⟩⟩⟩⟩⟩⟩⟩⟩⟩⟩⟩⟩⟩⟩⟩⟩⟩⟩⟩⟩⟩⟩⟩⟩⟩⟩⟩⟩⟩⟩⟩⟩⟩⟩⟩⟩⟩⟩⟩⟩⟩⟩⟩⟩⟩⟩⟩⟩⟩⟩⟩⟩⟩⟩⟩⟩⟩⟩⟩⟩⟩⟩⟩⟩⟩⟩⟩⟩⟩⟩⟩⟩⟩⟩⟩⟩⟩⟩⟩⟩⟩⟩⟩⟩⟩⟩⟩⟩⟩⟩⟩⟩⟩⟩⟩⟩⟩⟩⟩⟩⟩⟩⟩⟩⟩⟩⟩⟩⟩⟩⟩⟩⟩⟩⟩⟩⟩⟩⟩⟩⟩⟩⟩⟩⟩⟩⟩⟩⟩⟩⟩⟩⟩⟩⟩⟩⟩⟩⟩⟩⟩⟩⟩⟩⟩⟩⟩⟩⟩⟩⟩⟩⟩⟩⟩⟩⟩
end Go.Proofs.Z
end
section
namespace Go.Proofs.Z
structure Port where
 node:Nat
 slot:Nat
 deriving DecidableEq,Inhabited
structure Node where
 kind:Nat
 lev:Nat
 n:Int
 name:List UInt8
 alts:List (List UInt8×Nat)
 to:List Port
 deriving DecidableEq,Inhabited
structure Net where
 nodes:List Node
 cap:Nat
 deriving DecidableEq,Inhabited
def Node.zero:Node:=⟨0,0,0,[],[],[]⟩
def kindPorts (k:Nat):Nat:=[0,1,3,3,3,2,2,1,0,0,1,3,2,1].getD k 0
theorem kindPorts_big {k:Nat}(h:¬ k<14):kindPorts k=0:=by
 unfold kindPorts
 rw[List.getD_eq_getElem?_getD,List.getElem?_eq_none (by simp;omega)]
 rfl
def Node.ports (x:Node):Nat:=if x.kind=8 then x.to.length else if x.kind=9 then 2+x.alts.length else kindPorts x.kind
def altsFrom (all:List (List UInt8×Nat))(i:Nat):List (List UInt8×Nat)→Bool
 |[]=>true
 |a::r=>!decide (a.1=[]) && decide (a.2≤8) && !((all.take i).any fun b=>decide (b.1=a.1)) && altsFrom all (i+1) r
def Node.altsOK (x:Node):Bool:=if x.kind=9 then altsFrom x.alts 0 x.alts && decide (1≤x.alts.length∧x.alts.length≤8) else decide (x.alts.length=0)
def Node.ok (x:Node):Bool :=
 decide (x.kind≤13) && x.altsOK && decide (x.lev≤if x.kind≤1 then 0 else 60) && ((!decide (x.name=[])) == decide (x.kind=8∨x.kind=11∨x.kind=12)) &&
 (decide (x.n=0) || decide (x.kind=10∨x.kind=12)) && (!decide (x.kind=8) || decide (1≤x.to.length∧x.to.length≤9))
end Go.Proofs.Z
namespace Go.Proofs.Z
def Net.peer (n:Net)(p:Port):Option Port:=match n.nodes[p.node]? with
 |some x=>x.to[p.slot]?
 |none=>none
structure Net.Ok (n:Net):Prop where
 cap:1≤n.cap∧n.cap≤4000
 len:1≤n.nodes.length∧n.nodes.length≤n.cap
 last:∀ x,n.nodes[n.nodes.length-1]?=some x→x.kind≠0
 node:∀ i x,n.nodes[i]?=some x→x.ok=true∧x.to.length=x.ports∧(x.kind=1↔i=0)
 link:∀ i x k q,n.nodes[i]?=some x→x.to[k]?=some q→q≠⟨i,k⟩∧n.peer q=some ⟨i,k⟩
theorem Node.alts_len {x:Node}(h:x.ok=true):x.alts.length≤8:=by
 simp only[Node.ok,Bool.and_eq_true]at h
 have:=h.1.1.1.1.2
 unfold Node.altsOK at this
 split at this
 ·simp only[Bool.and_eq_true,decide_eq_true_eq]at this;omega
 ·simp only[decide_eq_true_eq]at this;omega
theorem kindPorts_le (k:Nat):kindPorts k≤3:=by
 by_cases h:k<14
 ·have:∀ j:Fin 14,kindPorts j≤3:=by decide
  exact this ⟨k,h⟩
 ·rw[kindPorts_big h];omega
theorem Node.ports_le {x:Node}(h:x.ok=true)(hl:x.to.length=x.ports):x.to.length≤10:=by
 have h1:=Node.alts_len h
 have h2:=kindPorts_le x.kind
 simp only[Node.ok,Bool.and_eq_true,Bool.or_eq_true,Bool.not_eq_true',decide_eq_true_eq,decide_eq_false_iff_not]at h
 have h3:=h.2
 unfold Node.ports at hl
 by_cases h8:x.kind=8
 ·rcases h3 with h3|h3
  ·exact absurd h8 h3
  ·omega
 ·rw[if_neg h8]at hl
  split at hl<;>omega
end Go.Proofs.Z
namespace Go.Proofs.Z
def Node.setTo (x:Node)(k:Nat)(q:Port):Node:={ x with to:=x.to.set k q }
def Net.put (n:Net)(p q:Port):Net:=match n.nodes[p.node]? with
 |some x=>{ n with nodes:=n.nodes.set p.node (x.setTo p.slot q) }
 |none=>n
def Net.link (n:Net)(p q:Port):Net:=(n.put p q).put q p
def Net.pr (n:Net)(p:Port):Port:=(n.peer p).getD ⟨0,0⟩
def Net.has (n:Net)(p:Port):Prop:=∃ x,n.nodes[p.node]?=some x∧p.slot<x.to.length
def Net.move (n:Net)(p q:Port):Net:=if n.pr p=q then n else n.link q (n.pr p)
def Net.join (n:Net)(p q:Port):Net:=if n.pr p=q then n else n.link (n.pr p) (n.pr q)
theorem Net.has_pr {n:Net}{p:Port}(h:n.has p):∃ x,n.nodes[p.node]?=some x∧x.to[p.slot]?=some (n.pr p):=by
 obtain ⟨x,h1,h2⟩:=h
 refine ⟨x,h1,?_⟩
 unfold Net.pr Net.peer
 rw[h1]
 simp[gG h2]
theorem Net.put_nodes {n:Net}{p q:Port}{x:Node}(h:n.nodes[p.node]?=some x):(n.put p q).nodes=n.nodes.set p.node (x.setTo p.slot q):=by
 unfold Net.put
 rw[h]
theorem Net.put_at {n:Net}{p q:Port}{i:Nat}:(n.put p q).nodes[i]?=if i=p.node then (n.nodes[i]?).map (fun x=>x.setTo p.slot q) else n.nodes[i]?:=by
 unfold Net.put
 cases h:n.nodes[p.node]? with
 |none =>
  dsimp only
  split
  ·rename_i e;subst e;rw[h];rfl
  ·rfl
 |some x =>
  dsimp only
  obtain ⟨h1,h2⟩:=gE h
  rw[List.getElem?_set]
  by_cases e:p.node=i
  ·subst e;simp[h1,h2]
  ·rw[if_neg e,if_neg (fun e'=>e e'.symm)]
theorem Net.put_has {n:Net}{p q r:Port}:(n.put p q).has r↔n.has r:=by
 unfold Net.has
 rw[Net.put_at]
 split
 ·constructor
  ·rintro ⟨x,h1,h2⟩
   rw[Option.map_eq_some_iff]at h1
   obtain ⟨y,h1,rfl⟩:=h1
   exact ⟨y,h1,by simpa [Node.setTo] using h2⟩
  ·rintro ⟨x,h1,h2⟩
   rw[h1]
   exact ⟨_,rfl,by simpa [Node.setTo] using h2⟩
 ·exact Iff.rfl
theorem Net.put_len {n:Net}{p q:Port}:(n.put p q).nodes.length=n.nodes.length:=by
 unfold Net.put
 split<;>simp
theorem Net.put_cap {n:Net}{p q:Port}:(n.put p q).cap=n.cap:=by
 unfold Net.put
 split<;>rfl
def Net.Tiny (n:Net):Prop:=n.nodes.length<2 ^ 20∧∀ (i:Nat) (x:Node),n.nodes[i]?=some x→x.to.length<2 ^ 20
def Net.hasT (n:Net)(p:Port):Prop:=n.has p∧n.Tiny
theorem Net.Tiny.put {n:Net}(h:n.Tiny)(p q:Port):(n.put p q).Tiny:=by
 refine ⟨by rw[Net.put_len];exact h.1,fun i x hx=>?_⟩
 rw[Net.put_at]at hx
 split at hx
 ·obtain ⟨y,hy,rfl⟩:=Option.map_eq_some_iff.1 hx
  simpa [Node.setTo] using h.2 i y hy
 ·exact h.2 i x hx
end Go.Proofs.Z
end
section
namespace Go.Proofs.Z
open Go Go.Proofs
abbrev iv (n:Int):PV:=.i .i64 n
def Port.enc (p:Port):List PV:=[iv p.node,iv p.slot]
def encAr (a:List UInt8×Nat):List PV:=[.s a.1,iv a.2]
def Node.enc (x:Node):List PV:=[iv x.kind,iv x.lev,iv x.n,.s x.name,.sl (x.alts.map encAr),.sl (x.to.map Port.enc)]
def Net.pv (n:Net):PV:=.sl (n.nodes.map Node.enc)
def Net.cells (n:Net):List AV:=[.p n.pv,.p (iv n.cap)]
def Net.enc (n:Net):AV:=.ag n.cells
def cloneP:List AV→Option (Out×Heap)
 |[.p (.sl rows)]=>if (okRows 2 rows && roomy rows.length 24)=true then some (.ret (.p (.sl rows)),[]) else none
 |_=>none
def cloneO (sz bytes:Nat):List AV→Option (Out×Heap)
 |[.p (.sl [])]=>some (.ret (.p (.sl [])),[])
 |[.p (.sl rows)]=>if (okRows sz rows && roomy rows.length bytes)=true then some (.ret (.arr 0 rows.length 1),[.arr sz rows 1 0]) else none
 |_=>none
def codeOf (f:Nat):Option CFun:=(tbl.find? (fun p=>Nat.beq p.1 f)).map (·.2)
structure Std (pg:Prg):Prop where
 code:pg.code=codeOf
 orc:∀ f,f≠193→f≠196→f≠197→f≠11→pg.orc f=none
 o193:pg.orc 193=some cloneP
 o196:pg.orc 196=some (cloneO 2 16)
 o197:pg.orc 197=some (cloneO 6 88)
 quiet:pg.quiet 193=true
variable {pg:Prg}
theorem Std.run (h:Std pg){f:Nat}{x:CFun}(hc:codeOf f=some x)(h1:f≠193)(h2:f≠196)(h3:f≠197)(h4:f≠11)(a:List AV)(G:Heap) :
  E pg f a G=evFun pg (E pg) (L pg) x a G:=E_code (h.orc f h1 h2 h3 h4) (by rw[h.code];exact hc) a G
theorem Std.keep (h:Std pg){f:Nat}{x:CFun}(hc:codeOf f=some x):keepA pg f=x.keepArgs:=by
 unfold keepA
 rw[h.code,hc]
def pg0:Prg:=mkPrg tbl [(193,cloneP),(196,cloneO 2 16),(197,cloneO 6 88)] [193]
theorem pg0_std:Std pg0:=by
 refine ⟨rfl,fun f h1 h2 h3 h4=>?_,rfl,rfl,rfl,rfl⟩
 simp only[pg0,mkPrg,Option.map_eq_none_iff,List.find?_eq_none]
 intro p hp
 simp only[List.mem_cons,List.not_mem_nil,or_false]at hp
 rcases hp with rfl|rfl|rfl<;>simp<;>omega
theorem Std.roD (h:Std pg):∀ n f,roFnD pg n f=roFnD pg0 n f
 |0,_=>rfl
 |n+1,f=>by
  have hf:roFnD pg n=roFnD pg0 n:=funext (h.roD n)
  unfold roFnD
  rw[hf,h.code,pg0_std.code]
  by_cases h1:f=193
  ·subst h1;rw[h.o193,pg0_std.o193]
  ·by_cases h2:f=196
   ·subst h2;rw[h.o196,pg0_std.o196]
   ·by_cases h3:f=197
    ·subst h3;rw[h.o197,pg0_std.o197]
    ·by_cases h4:f=11
     ·subst h4
      have:codeOf 11=none:=by rfl
      rw[this]
      cases pg.orc 11<;>cases pg0.orc 11<;>rfl
     ·rw[h.orc f h1 h2 h3 h4,pg0_std.orc f h1 h2 h3 h4]
theorem Std.ro (h:Std pg)(f:Nat):roFn pg f=roFn pg0 f:=h.roD 3 f
theorem call_pure {call:CallF}{f:Nat}{args args':List AV}{out:Out}{G:Heap}(ha:∀ e,expL (keepA pg f) e args=some (args',e))(hc:call f args' []=some (out,[]))(ho:out.below 0=true) :
  eCA pg call f args G=some (out,G):=by
 unfold eCA
 rw[ha]
 dsimp only
 have:eOs (G.length+1) ⟨[],G⟩ 0=some ([],⟨[],G⟩):=by simp[eOs]
 rw[this]
 dsimp only
 rw[hc]
 have hback:∀ n,out.back [] n=out:=fun n=>by
  cases out with
  |ret v=>simp only[Out.back];rw[back_below0 n (by simpa [Out.below] using ho)]
  |pan v=>simp only[Out.back];rw[back_below0 n (by simpa [Out.below] using ho)]
 simp[hback,setAll]
mutual
def flatA:AV→Bool
 |.p _=>true
 |.undef=>true
 |.ag cs=>flatAL cs
 |_=>false
def flatAL:List AV→Bool
 |[]=>true
 |a::r=>flatA a && flatAL r
end
mutual
theorem flatA_exp (keep:Bool)(e:Exp):∀ {a:AV},flatA a=true→exp keep e a=some (a,e)
 |.p x,_=>by simp[exp]
 |.undef,_=>by simp[exp]
 |.ag cs,h=>by simp only[exp];rw[flatAL_exp keep e (l:=cs) (by simpa [flatA] using h)]
 |.nils,h=>by simp[flatA]at h
 |.rp _,h=>by simp[flatA]at h
 |.arr _ _ _,h=>by simp[flatA]at h
 |.ptr _ _,h=>by simp[flatA]at h
 |.eptr _ _ _ _,h=>by simp[flatA]at h
 |.tup cs,h=>by simp[flatA]at h
 |.ifc t v,h=>by simp[flatA]at h
 |.fn f a b,h=>by simp[flatA]at h
theorem flatAL_exp (keep:Bool)(e:Exp):∀ {l:List AV},flatAL l=true→expL keep e l=some (l,e)
 |[],_=>by simp[expL]
 |a::r,h=>by
  simp only[flatAL,Bool.and_eq_true]at h
  simp only[expL]
  rw[flatA_exp keep e h.1]
  dsimp only
  rw[flatAL_exp keep e h.2]
end
theorem flatAL_pcs:∀ l:List PV,flatAL (pcs l)=true
 |[]=>rfl
 |a::r=>by simpa [pcs,flatAL,flatA] using flatAL_pcs r
theorem at_pure {call:CallF}{f:Nat}{args:List AV}{out:Out}{G:Heap}(hc:call f args []=some (out,[]))(ha:flatAL args=true)(ho:out.below 0=true) :
  eCA pg call f args G=some (out,G):=call_pure (fun e=>flatAL_exp _ e ha) hc ho
theorem w64 (n:Int)(h1:-9223372036854775808≤n)(h2:n≤9223372036854775807):IntKind.i64.wrap n=n:=by rw[IntKind.wrap_i64];omega
end Go.Proofs.Z
end
section
namespace Go.Proofs.Z
open Go Go.Proofs
theorem idxOf_range':∀ (n s id:Nat),s≤id→id<s+n→idxOf (List.range' s n) id=some (id-s)
 |0,s,id,h1,h2=>by omega
 |n+1,s,id,h1,h2=>by
  rw[List.range'_succ]
  unfold idxOf
  by_cases h:s=id
  ·subst h;simp
  ·rw[if_neg h,idxOf_range' n (s+1) id (by omega) (by omega)]
   simp
   omega
def Ids (base:Nat)(e:Exp):Prop:=∀ id,id<base→idxOf e.ids id=some id
theorem ids_range (base:Nat)(G:Heap):Ids base ⟨List.range base,G⟩:=fun id h=>by
 rw[List.range_eq_range']
 have:=idxOf_range' base 0 id (by omega) (by omega)
 simpa using this
theorem Ids.id {base:Nat}{e:Exp}(h:Ids base e){id:Nat}(hid:id<base):e.id id=(id,e):=by
 unfold Exp.id
 rw[h id hid]
mutual
theorem exp_same {base:Nat}{e:Exp}(h:Ids base e):∀ {a:AV},below base a=true→exp true e a=some (a,e)
 |.p x,_=>by simp[exp]
 |.nils,_=>by simp[exp]
 |.undef,_=>by simp[exp]
 |.rp _,_=>by simp[exp]
 |.arr id _ _,hb=>by simp only[below]at hb;simp[exp,h.id (Nat.blt_eq.mp hb)]
 |.ptr id _,hb=>by simp only[below]at hb;simp[exp,h.id (Nat.blt_eq.mp hb)]
 |.eptr id _ _ _,hb=>by simp only[below]at hb;simp[exp,h.id (Nat.blt_eq.mp hb)]
 |.ag cs,hb=>by simp only[exp];rw[expL_same h (l:=cs) (by simpa [below] using hb)]
 |.tup cs,hb=>by simp only[exp];rw[expL_same h (l:=cs) (by simpa [below] using hb)]
 |.ifc t v,hb=>by simp only[exp];rw[exp_same h (a:=v) (by simpa [below] using hb)]
 |.fn f a b,hb=>by
  simp only[below,Bool.and_eq_true]at hb
  simp only[exp]
  rw[expL_same h hb.1]
  dsimp only
  rw[expL_same h hb.2]
theorem expL_same {base:Nat}{e:Exp}(h:Ids base e):∀ {l:List AV},belowL base l=true→expL true e l=some (l,e)
 |[],_=>by simp[expL]
 |a::r,hb=>by
  simp only[belowL,Bool.and_eq_true]at hb
  simp only[expL]
  rw[exp_same h hb.1]
  dsimp only
  rw[expL_same h hb.2]
end
theorem expObjs_same {base:Nat}{G:Heap}(hG:G.length=base)(ho:G.all (bOb base)=true):∀ (fuel k:Nat),base<fuel+k→k≤base→eOs fuel ⟨List.range base,G⟩ k=some (G.drop k,⟨List.range base,G⟩)
 |0,k,h1,h2=>by omega
 |fuel+1,k,h1,h2=>by
  unfold eOs
  by_cases hk:k=base
  ·subst hk
   rw[List.getElem?_eq_none (by simp)]
   rw[List.drop_eq_nil_of_le (by omega)]
  ·have hlt:k<base:=by omega
   have e1:(⟨List.range base,G⟩:Exp).ids[k]?=some k:=by simp[hlt]
   rw[e1]
   dsimp only
   have hkG:k<G.length:=by omega
   rw[gG hkG]
   have hd:G.drop k=G[k]::G.drop (k+1):=List.drop_eq_getElem_cons hkG
   have hb:bOb base G[k]=true:=List.all_eq_true.mp ho _ (List.getElem_mem hkG)
   have ih:=expObjs_same hG ho fuel (k+1) (by omega) (by omega)
   cases hc:G[k] with
   |arr sz rows g sl =>
    dsimp only
    rw[ih]
    rw[hd,hc]
   |box cs =>
    rw[hc]at hb
    dsimp only
    rw[expL_same (ids_range base G) (by simpa [bOb] using hb)]
    dsimp only
    rw[ih]
    rw[hd,hc]
theorem gcEnv_same {base:Nat}{e:Exp}(h:Ids base e):∀ {env:Env},(∀ p,p∈env→below base p.2=true)→gcEnv e env=some (env,e)
 |[],_=>rfl
 |(k,a)::r,hb=>by
  unfold gcEnv
  rw[exp_same h (hb (k,a) (by simp))]
  dsimp only
  rw[gcEnv_same h fun p hp=>hb p (by simp[hp])]
theorem gc_same {base:Nat}{live:List Nat}{env:Env}{G:Heap}(hG:G.length=base)(ho:G.all (bOb base)=true)(he:∀ p,p∈restr live env→below base p.2=true):gc base live env G=some (restr live env,G):=by
 unfold gc
 rw[gcEnv_same (ids_range base G) he]
 dsimp only
 rw[expObjs_same hG ho _ 0 (by omega) (by omega)]
 simp
theorem leave_same {base:Nat}{o:Out}{G:Heap}(hG:G.length=base)(ho:G.all (bOb base)=true)(hb:o.below base=true):leave base o G=some (o,G):=by
 unfold leave
 have:G.take base=G:=by rw[← hG];simp
 rw[this,hb,ho]
 rfl
theorem L_unf {pg:Prg}{b:Nat}{v:List Nat}{body c:CCode}(hb:body=c){env:Env}{G:Heap} :
  L pg b v body env G=match evCode pg (E pg) (L pg) b c env G with
   |some (.normal,env,G)=>match gc b v env G with
    |some (env,G)=>L pg b v body env G
    |none=>none
   |r=>r:=by subst hb;exact L_eq b v body env G
section
variable {pg:Prg}{call:CallF}{loop:LoopF}{base:Nat}
abbrev Rs:=Option (Ex×Env×Heap)
def kO (pg:Prg)(call:CallF)(d:Option Nat)(r:List CI)(x:Option Res)(env:Env):Rs:=match x with
 |none=>none
 |some (.val v G)=>evOps pg call r (put env d v) G
 |some (.pan v G)=>some (.pan v,env,G)
def kG (pg:Prg)(call:CallF)(d:Option Nat)(o:COp)(r:List CI)(g:Option Bool)(env:Env)(G:Heap):Rs:=match g with
 |none=>none
 |some false=>evOps pg call r (put env d .undef) G
 |some true=>kO pg call d r (evOp pg call o env G) env
theorem k_nil {env:Env}{G:Heap}:evOps pg call [] env G=some (.normal,env,G):=by simp[evOps]
theorem k_ops {d:Option Nat}{o:COp}{r:List CI}{env:Env}{G:Heap}:evOps pg call (⟨d,o,none⟩::r) env G=kO pg call d r (evOp pg call o env G) env:=by
 rw[evOps]
 simp only[gOK,kO]
 rcases evOp pg call o env G with _|⟨_|_⟩<;>rfl
theorem k_opsg {d:Option Nat}{o:COp}{g:Nat×Bool}{r:List CI}{env:Env}{G:Heap}:evOps pg call (⟨d,o,some g⟩::r) env G=kG pg call d o r (gOK env (some g)) env G:=by
 rw[evOps]
 simp only[kG]
 rcases gOK env (some g) with _|⟨_|_⟩
 ·rfl
 ·rfl
 ·simp only[kO];rcases evOp pg call o env G with _|⟨_|_⟩<;>rfl
theorem kG_true {d:Option Nat}{o:COp}{r:List CI}{env:Env}{G:Heap}:kG pg call d o r (some true) env G=kO pg call d r (evOp pg call o env G) env:=rfl
theorem kG_false {d:Option Nat}{o:COp}{r:List CI}{env:Env}{G:Heap}:kG pg call d o r (some false) env G=evOps pg call r (put env d .undef) G:=rfl
theorem kO_val {d:Option Nat}{r:List CI}{v:AV}{env:Env}{G:Heap}:kO pg call d r (some (.val v G)) env=evOps pg call r (put env d v) G:=rfl
theorem kO_pan {d:Option Nat}{r:List CI}{v:AV}{env:Env}{G:Heap}:kO pg call d r (some (.pan v G)) env=some (.pan v,env,G):=rfl
def kS (pg:Prg)(call:CallF)(loop:LoopF)(base:Nat)(b:CCode)(x:Rs):Rs:=match x with
 |some (.normal,env,G)=>evCode pg call loop base b env G
 |r=>r
theorem k_seq {a b:CCode}{env:Env}{G:Heap}:evCode pg call loop base (.seq a b) env G=kS pg call loop base b (evCode pg call loop base a env G):=by
 rw[evCode];rfl
theorem kS_n {b:CCode}{env:Env}{G:Heap}:kS pg call loop base b (some (.normal,env,G))=evCode pg call loop base b env G:=rfl
theorem kS_r {b:CCode}{env:Env}{G:Heap}:kS pg call loop base b (some (.ret,env,G))=some (.ret,env,G):=rfl
theorem kS_e {b:CCode}{id:Nat}{env:Env}{G:Heap}:kS pg call loop base b (some (.exit id,env,G))=some (.exit id,env,G):=rfl
theorem kS_p {b:CCode}{v:AV}{env:Env}{G:Heap}:kS pg call loop base b (some (.pan v,env,G))=some (.pan v,env,G):=rfl
def kR (live:List Nat)(x:Rs):Rs:=match x with
 |some (.normal,env,G)=>some (.normal,restr live env,G)
 |r=>r
theorem k_o {live:List Nat}{l:List CI}{env:Env}{G:Heap}:evCode pg call loop base (.ops live l) env G=kR live (evOps pg call l env G):=by
 rw[evCode];rfl
theorem kR_n {live:List Nat}{env:Env}{G:Heap}:kR live (some (.normal,env,G))=some (.normal,restr live env,G):=rfl
theorem kR_p {live:List Nat}{v:AV}{env:Env}{G:Heap}:kR live (some (.pan v,env,G))=some (.pan v,env,G):=rfl
def kD2 (pg:Prg)(live:List Nat)(chk:List Chk)(n:Nat)(x:Rs):Rs:=match x with
 |some (.normal,env',G')=>if chk.all (chkOK pg env' n)=true then some (.normal,restr live env',G') else none
 |_=>none
def kD1 (pg:Prg)(call:CallF)(live:List Nat)(rest:List CI)(chk:List Chk)(x:Rs):Rs:=match x with
 |some (.normal,env,G)=>kD2 pg live chk G.length (evOps pg call rest env G)
 |_=>none
theorem k_d {live:List Nat}{news rest:List CI}{chk:List Chk}{env:Env}{G:Heap}:evCode pg call loop base (.draw live news rest chk) env G=kD1 pg call live rest chk (evOps pg call news env G):=by
 rw[evCode];rfl
theorem kD1_n {live:List Nat}{rest:List CI}{chk:List Chk}{env:Env}{G:Heap}:kD1 pg call live rest chk (some (.normal,env,G))=kD2 pg live chk G.length (evOps pg call rest env G):=rfl
theorem kD2_n {live:List Nat}{chk:List Chk}{n:Nat}{env:Env}{G:Heap}:kD2 pg live chk n (some (.normal,env,G))=if chk.all (chkOK pg env n)=true then some (.normal,restr live env,G) else none:=rfl
def kC (pg:Prg)(call:CallF)(loop:LoopF)(base:Nat)(a b:CCode)(env:Env)(G:Heap)(x:Option AV):Rs:=match x with
 |some (.p (.b x))=>if x then evCode pg call loop base a env G else evCode pg call loop base b env G
 |_=>none
theorem k_c {c:Opd}{a b:CCode}{env:Env}{G:Heap}:evCode pg call loop base (.cond c a b) env G=kC pg call loop base a b env G (opd env c):=by
 rw[evCode];rfl
theorem kC_t {a b:CCode}{env:Env}{G:Heap}:kC pg call loop base a b env G (some (.p (.b true)))=evCode pg call loop base a env G:=rfl
theorem kC_f {a b:CCode}{env:Env}{G:Heap}:kC pg call loop base a b env G (some (.p (.b false)))=evCode pg call loop base b env G:=rfl
def kB (id:Nat)(x:Rs):Rs:=match x with
 |some (.exit id',env,G)=>if id'=id then some (.normal,env,G) else some (.exit id',env,G)
 |r=>r
theorem k_b {id:Nat}{a:CCode}{env:Env}{G:Heap}:evCode pg call loop base (.block id a) env G=kB id (evCode pg call loop base a env G):=by
 rw[evCode];rfl
theorem kB_n {id:Nat}{env:Env}{G:Heap}:kB id (some (.normal,env,G))=some (.normal,env,G):=rfl
theorem kB_r {id:Nat}{env:Env}{G:Heap}:kB id (some (.ret,env,G))=some (.ret,env,G):=rfl
theorem kB_p {id:Nat}{v:AV}{env:Env}{G:Heap}:kB id (some (.pan v,env,G))=some (.pan v,env,G):=rfl
theorem kB_e {id id':Nat}{env:Env}{G:Heap}:kB id (some (.exit id',env,G))=if id'=id then some (.normal,env,G) else some (.exit id',env,G):=rfl
theorem k_skip {env:Env}{G:Heap}:evCode pg call loop base .skip env G=some (.normal,env,G):=by rw[evCode]
theorem k_ret {env:Env}{G:Heap}:evCode pg call loop base .ret env G=some (.ret,env,G):=by rw[evCode]
theorem k_exit {id:Nat}{env:Env}{G:Heap}:evCode pg call loop base (.exit id) env G=some (.exit id,env,G):=by rw[evCode]
def kL (loop:LoopF)(base:Nat)(live:List Nat)(a:CCode)(x:Option (Env×Heap)):Rs:=match x with
 |some (env,G)=>loop base live a env G
 |none=>none
theorem k_l {live:List Nat}{a:CCode}{env:Env}{G:Heap}:evCode pg call loop base (.loop live a) env G=kL loop base live a (gc base live env G):=by
 rw[evCode];rfl
theorem kL_s {live:List Nat}{a:CCode}{env:Env}{G:Heap}:kL loop base live a (some (env,G))=loop base live a env G:=rfl
noncomputable def kLp (pg:Prg)(base:Nat)(live:List Nat)(body:CCode)(x:Rs):Rs:=match x with
 |some (.normal,env,G)=>kL (L pg) base live body (gc base live env G)
 |r=>r
theorem k_L {live:List Nat}{body c:CCode}(hb:body=c){env:Env}{G:Heap}:L pg base live body env G=kLp pg base live body (evCode pg (E pg) (L pg) base c env G):=by
 rw[L_unf hb];rfl
theorem kLp_n {live:List Nat}{body:CCode}{env:Env}{G:Heap}:kLp pg base live body (some (.normal,env,G))=kL (L pg) base live body (gc base live env G):=rfl
theorem kLp_r {live:List Nat}{body:CCode}{env:Env}{G:Heap}:kLp pg base live body (some (.ret,env,G))=some (.ret,env,G):=rfl
theorem kLp_e {live:List Nat}{body:CCode}{id:Nat}{env:Env}{G:Heap}:kLp pg base live body (some (.exit id,env,G))=some (.exit id,env,G):=rfl
theorem kLp_p {live:List Nat}{body:CCode}{v:AV}{env:Env}{G:Heap}:kLp pg base live body (some (.pan v,env,G))=some (.pan v,env,G):=rfl
def kN (n:Nat)(x:Option (AV×Heap)):Option (Out×Heap):=match x with
 |some (v,G)=>leave n (.ret v) G
 |none=>none
def kV (n:Nat)(keep:Bool)(G:Heap)(x:Option (List AV)):Option (Out×Heap):=match x with
 |none=>none
 |some vs=>if keep then some (.ret (whole vs),G) else kN n (norm G (whole vs))
def kF (n:Nat)(res:List CRes)(keep:Bool)(x:Rs):Option (Out×Heap):=match x with
 |some (.pan v,_,G')=>leave n (.pan v) G'
 |some (.exit _,_,_)=>none
 |some (_,env,G')=>kV n keep G' (evRes env G' res)
 |none=>none
theorem k_f {body:CCode}{res:List CRes}{ka kr:Bool}{args:List AV}{G:Heap}:evFun pg call loop ⟨body,res,ka,kr⟩ args G=kF G.length res kr (evCode pg call loop G.length body (iEv 0 args) G):=by
 unfold evFun kF
 dsimp only
 rcases evCode pg call loop G.length body (iEv 0 args) G with _|⟨_|_|_|_,_,_⟩<;>dsimp only[kV]<;>(try rfl)
 all_goals
  rcases evRes _ _ res with _|vs<;>dsimp only
  cases kr
  ·simp only[Bool.false_eq_true,if_false,kN]
   rcases norm _ (whole vs) with _|⟨_,_⟩<;>rfl
  ·rfl
theorem kF_n {n:Nat}{res:List CRes}{kr:Bool}{env:Env}{G:Heap}:kF n res kr (some (.normal,env,G))=kV n kr G (evRes env G res):=rfl
theorem kF_r {n:Nat}{res:List CRes}{kr:Bool}{env:Env}{G:Heap}:kF n res kr (some (.ret,env,G))=kV n kr G (evRes env G res):=rfl
theorem kF_p {n:Nat}{res:List CRes}{kr:Bool}{v:AV}{env:Env}{G:Heap}:kF n res kr (some (.pan v,env,G))=leave n (.pan v) G:=rfl
theorem kV_f {n:Nat}{G:Heap}{vs:List AV}:kV n false G (some vs)=kN n (norm G (whole vs)):=rfl
theorem kV_t {n:Nat}{G:Heap}{vs:List AV}:kV n true G (some vs)=some (.ret (whole vs),G):=rfl
theorem kN_s {n:Nat}{v:AV}{G:Heap}:kN n (some (v,G))=leave n (.ret v) G:=rfl
end
section
variable {pg:Prg}{call:CallF}{loop:LoopF}{base:Nat}{p:Prop}[Decidable p]
theorem kG_dec {d:Option Nat}{o:COp}{r:List CI}{env:Env}{G:Heap}:kG pg call d o r (some (decide p)) env G=if p then kG pg call d o r (some true) env G else kG pg call d o r (some false) env G:=by
 by_cases h:p<;>simp[h]
theorem kG_ndec {d:Option Nat}{o:COp}{r:List CI}{env:Env}{G:Heap}:kG pg call d o r (some (!decide p)) env G=if p then kG pg call d o r (some false) env G else kG pg call d o r (some true) env G:=by
 by_cases h:p<;>simp[h]
theorem kC_dec {a b:CCode}{env:Env}{G:Heap}:kC pg call loop base a b env G (some (.p (.b (decide p))))=if p then evCode pg call loop base a env G else evCode pg call loop base b env G:=by
 by_cases h:p<;>simp[h,kC]
theorem kC_ndec {a b:CCode}{env:Env}{G:Heap}:kC pg call loop base a b env G (some (.p (.b (!decide p))))=if p then evCode pg call loop base b env G else evCode pg call loop base a env G:=by
 by_cases h:p<;>simp[h,kC]
theorem kS_ite {b:CCode}{x y:Rs}:kS pg call loop base b (if p then x else y)=if p then kS pg call loop base b x else kS pg call loop base b y:=by
 by_cases h:p<;>simp[h]
theorem kR_ite {live:List Nat}{x y:Rs}:kR live (if p then x else y)=if p then kR live x else kR live y:=by
 by_cases h:p<;>simp[h]
theorem kD2_ite {live:List Nat}{chk:List Chk}{n:Nat}{x y:Rs}:kD2 pg live chk n (if p then x else y)=if p then kD2 pg live chk n x else kD2 pg live chk n y:=by
 by_cases h:p<;>simp[h]
theorem kB_ite {id:Nat}{x y:Rs}:kB id (if p then x else y)=if p then kB id x else kB id y:=by
 by_cases h:p<;>simp[h]
theorem kF_ite {n:Nat}{res:List CRes}{kr:Bool}{x y:Rs}:kF n res kr (if p then x else y)=if p then kF n res kr x else kF n res kr y:=by
 by_cases h:p<;>simp[h]
theorem kLp_ite {live:List Nat}{body:CCode}{x y:Rs}:kLp pg base live body (if p then x else y)=if p then kLp pg base live body x else kLp pg base live body y:=by
 by_cases h:p<;>simp[h]
theorem kO_ite {d:Option Nat}{r:List CI}{env:Env}{x y:Option Res}:kO pg call d r (if p then x else y) env=if p then kO pg call d r x env else kO pg call d r y env:=by
 by_cases h:p<;>simp[h]
end
end Go.Proofs.Z
end
section
namespace Go.Proofs.Z
open Go Go.Proofs
attribute [local simp] k_nil k_ops k_opsg kG_true kG_false kO_val kO_pan k_seq kS_n kS_r kS_e kS_p k_o kR_n kR_p kD2_n kD1_n k_d k_c kC_t kC_f k_b kB_n kB_r kB_p kB_e k_skip k_ret k_exit k_l kL_s kLp_n kLp_r kLp_e kLp_p k_f kF_n kF_r kF_p kV_f kV_t kN_s evOp evBin gOK opd opds lk put restr iEv evRes whole norm normL one Out.below below belowL bOb evStore evLoad evLen AV.cells AV.flat PV.flat splice fillAt pcs isStr rowsOf Res.of evCmp lvE leafEq asInt noIdAt noId noIdL tids chkOK
variable {pg:Prg}{G:Heap}
def idxInt (o:Option Nat):Int:=match o with
 |some k=>k
 |none=>-1
theorem l187 (h:Std pg){body:CCode}(hb:body=c187l0){f:Nat}{first cap:List AV}{rows:List (List PV)}{q:List PV→Bool}(hl:rows.length<2 ^ 40)(ho:G.all (bOb G.length)=true)(hf:below G.length (.fn f first cap)=true)
  (hr:∀ row,row∈rows→okRow 2 row=true) (hq:∀ row,row∈rows→eCA pg (E pg) f (first++[.ag (pcs row)]++cap) G=some (.ret (.p (.b (q row))),G)) :
  ∀ (n i:Nat),i+n=rows.length→L pg G.length [0,1,7,8] body [(0,.p (.sl rows)),(1,.fn f first cap),(7,.p (.i .i64 rows.length)),(8,.p (.i .i64 i))] G =
   some (match (rows.drop i).findIdx? q with
    |some k=>(.ret,[(4,.p (.i .i64 (i+k:Nat)))],G)
    |none=>(.exit 0,[(0,.p (.sl rows)),(1,.fn f first cap),(7,.p (.i .i64 rows.length)),(8,.p (.i .i64 rows.length)),(9,.p (.b false))],G))
 |0,i,hi=>by
  have:i=rows.length:=by omega
  subst this
  rw[k_L hb]
  simp[c187l0,leave]
 |n+1,i,hi=>by
  have hlt:i<rows.length:=by omega
  have hd:rows.drop i=rows[i]::rows.drop (i+1):=List.drop_eq_getElem_cons hlt
  have h1:=hr _ (List.getElem_mem hlt)
  have h2:=hq _ (List.getElem_mem hlt)
  have h3:rows[i].length=2:=by simp[okRow]at h1;exact h1.1
  have h4:rows[i].take 2=rows[i]:=by rw[← h3];simp
  rw[k_L hb,hd,List.findIdx?_cons]
  cases hqv:q rows[i] with
  |true =>
   rw[hqv]at h2
   simp only[List.append_assoc,List.cons_append,List.nil_append,pcs]at h2
   simp[c187l0,leave,hlt,h1,h3,h4,h2]
  |false =>
   rw[hqv]at h2
   simp only[List.append_assoc,List.cons_append,List.nil_append,pcs]at h2
   simp[c187l0,leave,hlt,h1,h3,h4,h2,w64 ((i:Int)+1) (by omega) (by omega)]
   rw[gc_same rfl ho (by simp[leave];simpa [below] using hf)]
   simp[leave]
   rw[show ((i:Int)+1)=((i+1:Nat):Int) from by omega,l187 h hb hl ho hf hr hq n (i+1) (by omega)]
   simp
   cases (rows.drop (i+1)).findIdx? q with
   |none=>simp
   |some k=>simp;omega
theorem s187 (h:Std pg){f:Nat}{first cap:List AV}{rows:List (List PV)}{q:List PV→Bool}(hl:rows.length<2 ^ 40)(ho:G.all (bOb G.length)=true)(hf:below G.length (.fn f first cap)=true)
  (hr:∀ row,row∈rows→okRow 2 row=true) (hq:∀ row,row∈rows→eCA pg (E pg) f (first++[.ag (pcs row)]++cap) G=some (.ret (.p (.b (q row))),G)) :
  E pg 187 [.p (.sl rows),.fn f first cap] G=some (.ret (.p (.i .i64 (idxInt (rows.findIdx? q)))),G):=by
 rw[h.run (x:=c187) rfl (by decide) (by decide) (by decide) (by decide)]
 have hl2:=fun v=>leave_same (o:=.ret (.p v)) (G:=G) rfl ho rfl
 simp[c187]
 rw[gc_same rfl ho (by simp[leave];simpa [below] using hf)]
 simp[lk]
 rw[show AV.p (.i .i64 0)=.p (.i .i64 ((0:Nat):Int)) from rfl,l187 h rfl hl ho hf hr hq rows.length 0 (by omega)]
 simp only[List.drop_zero]
 cases rows.findIdx? q with
 |none=>simp[hl2,idxInt]
 |some k=>simp[hl2,idxInt]
theorem l175 (h:Std pg){body:CCode}(hb:body=c175l0){f:Nat}{first cap:List AV}{rows:List (List PV)}{q:List PV→Bool}(hl:rows.length<2 ^ 40)(ho:G.all (bOb G.length)=true)(hf:below G.length (.fn f first cap)=true)
  (hr:∀ row,row∈rows→okRow 2 row=true) (hq:∀ row,row∈rows→eCA pg (E pg) f (first++[.ag (pcs row)]++cap) G=some (.ret (.p (.b (q row))),G)) :
  ∀ (n i:Nat),i+n=rows.length→L pg G.length [0,1,7,8] body [(0,.p (.sl rows)),(1,.fn f first cap),(7,.p (.i .i64 rows.length)),(8,.p (.i .i64 i))] G =
   some (match (rows.drop i).findIdx? q with
    |some k=>(.ret,[(4,.p (.i .i64 (i+k:Nat)))],G)
    |none=>(.exit 0,[(0,.p (.sl rows)),(1,.fn f first cap),(7,.p (.i .i64 rows.length)),(8,.p (.i .i64 rows.length)),(9,.p (.b false))],G))
 |0,i,hi=>by
  have:i=rows.length:=by omega
  subst this
  rw[k_L hb]
  simp[c175l0,leave]
 |n+1,i,hi=>by
  have hlt:i<rows.length:=by omega
  have hd:rows.drop i=rows[i]::rows.drop (i+1):=List.drop_eq_getElem_cons hlt
  have h1:=hr _ (List.getElem_mem hlt)
  have h2:=hq _ (List.getElem_mem hlt)
  have h3:rows[i].length=2:=by simp[okRow]at h1;exact h1.1
  have h4:rows[i].take 2=rows[i]:=by rw[← h3];simp
  rw[k_L hb,hd,List.findIdx?_cons]
  cases hqv:q rows[i] with
  |true =>
   rw[hqv]at h2
   simp only[List.append_assoc,List.cons_append,List.nil_append,pcs]at h2
   simp[c175l0,leave,hlt,h1,h3,h4,h2]
  |false =>
   rw[hqv]at h2
   simp only[List.append_assoc,List.cons_append,List.nil_append,pcs]at h2
   simp[c175l0,leave,hlt,h1,h3,h4,h2,w64 ((i:Int)+1) (by omega) (by omega)]
   rw[gc_same rfl ho (by simp[leave];simpa [below] using hf)]
   simp[leave]
   rw[show ((i:Int)+1)=((i+1:Nat):Int) from by omega,l175 h hb hl ho hf hr hq n (i+1) (by omega)]
   simp
   cases (rows.drop (i+1)).findIdx? q with
   |none=>simp
   |some k=>simp;omega
theorem s175 (h:Std pg){f:Nat}{first cap:List AV}{rows:List (List PV)}{q:List PV→Bool}(hl:rows.length<2 ^ 40)(ho:G.all (bOb G.length)=true)(hf:below G.length (.fn f first cap)=true)
  (hr:∀ row,row∈rows→okRow 2 row=true) (hq:∀ row,row∈rows→eCA pg (E pg) f (first++[.ag (pcs row)]++cap) G=some (.ret (.p (.b (q row))),G)) :
  E pg 175 [.p (.sl rows),.fn f first cap] G=some (.ret (.p (.i .i64 (idxInt (rows.findIdx? q)))),G):=by
 rw[h.run (x:=c175) rfl (by decide) (by decide) (by decide) (by decide)]
 have hl2:=fun v=>leave_same (o:=.ret (.p v)) (G:=G) rfl ho rfl
 simp[c175]
 rw[gc_same rfl ho (by simp[leave];simpa [below] using hf)]
 simp[lk]
 rw[show AV.p (.i .i64 0)=.p (.i .i64 ((0:Nat):Int)) from rfl,l175 h rfl hl ho hf hr hq rows.length 0 (by omega)]
 simp only[List.drop_zero]
 cases rows.findIdx? q with
 |none=>simp[hl2,idxInt]
 |some k=>simp[hl2,idxInt]
theorem l140 (h:Std pg){body:CCode}(hb:body=c140l0){l:List Int}{v:Int}(hl:l.length<2 ^ 40) :
  ∀ (n i:Nat),i+n=l.length→L pg 0 [0,1,7,8] body [(0,.p (.sl (l.map fun x=>[.i .i64 x]))),(1,.p (.i .i64 v)),(7,.p (.i .i64 l.length)),(8,.p (.i .i64 i))] [] =
   some (match (l.drop i).findIdx? (fun x=>decide (v=x)) with
    |some k=>(.ret,[(4,.p (.i .i64 (i+k:Nat)))],[])
    |none=>(.exit 0,[(0,.p (.sl (l.map fun x=>[.i .i64 x]))),(1,.p (.i .i64 v)),(7,.p (.i .i64 l.length)),(8,.p (.i .i64 l.length)),(9,.p (.b false))],[]))
 |0,i,hi=>by
  have:i=l.length:=by omega
  subst this
  rw[k_L hb]
  simp[c140l0,leave]
 |n+1,i,hi=>by
  have hlt:i<l.length:=by omega
  have hd:l.drop i=l[i]::l.drop (i+1):=List.drop_eq_getElem_cons hlt
  rw[k_L hb,hd,List.findIdx?_cons]
  by_cases hqv:v=l[i]
  ·simp[c140l0,leave,hlt,hqv,okRow]
  ·simp[c140l0,leave,hlt,hqv,okRow,gc,gcEnv,exp,expL,eOs,Exp.id,idxOf,List.range,List.range.loop,w64 ((i:Int)+1) (by omega) (by omega)]
   rw[show ((i:Int)+1)=((i+1:Nat):Int) from by omega,l140 h hb hl n (i+1) (by omega)]
   simp
   cases (l.drop (i+1)).findIdx? (fun x=>decide (v=x)) with
   |none=>simp
   |some k=>simp;omega
theorem t130 (h:Std pg){l:List Int}{v:Int}(hl:l.length<2 ^ 40):eCA pg (E pg) 130 [.p (.sl (l.map fun x=>[.i .i64 x])),.p (.i .i64 v)] G=some (.ret (.p (.b (l.contains v))),G):=by
 refine at_pure ?_ rfl rfl
 have h1:E pg 140 [.p (.sl (l.map fun x=>[.i .i64 x])),.p (.i .i64 v)] []=some (.ret (.p (.i .i64 (idxInt (l.findIdx? (fun x=>decide (v=x)))))),[]):=by
  rw[h.run (x:=c140) rfl (by decide) (by decide) (by decide) (by decide)]
  simp[c140,leave,gc,gcEnv,exp,expL,eOs,Exp.id,idxOf,List.range,List.range.loop]
  rw[show AV.p (.i .i64 0)=.p (.i .i64 ((0:Nat):Int)) from rfl,l140 h rfl hl l.length 0 (by omega)]
  simp only[List.drop_zero]
  cases l.findIdx? (fun x=>decide (v=x)) with
  |none=>simp[leave,idxInt]
  |some k=>simp[leave,idxInt]
 rw[h.run (x:=c130) rfl (by decide) (by decide) (by decide) (by decide)]
 simp[c130,leave,at_pure (G:=[]) h1 rfl rfl]
 cases hk:l.findIdx? (fun x=>decide (v=x)) with
 |none =>
  simp[idxInt]
  simp at hk
  intro hm
  exact hk _ hm rfl
 |some k =>
  simp[idxInt]
  obtain ⟨h1,h2,h3⟩:=List.findIdx?_eq_some_iff_getElem.1 hk
  simp at h2
  rw[h2]
  exact List.getElem_mem h1
theorem s134 (h:Std pg)(n a b:Int):E pg 134 [.p (.i .i64 n),.p (.i .i64 a),.p (.i .i64 b)] []=some (.ret (.p (.b (decide (a≤n∧n≤b)))),[]):=by
 rw[h.run (x:=c134) rfl (by decide) (by decide) (by decide) (by decide)]
 by_cases h1:a≤n<;>simp[h1,c134,leave]
theorem t134 (h:Std pg)(n a b:Int):eCA pg (E pg) 134 [.p (.i .i64 n),.p (.i .i64 a),.p (.i .i64 b)] G=some (.ret (.p (.b (decide (a≤n∧n≤b)))),G):=at_pure (s134 h n a b) rfl rfl
theorem s149 (h:Std pg):E pg 149 [] []=some (.ret (.ag (pcs ((List.range 14).map fun k=>iv (kindPorts k)))),[]):=by
 rw[h.run (x:=c149) rfl (by decide) (by decide) (by decide) (by decide)]
 simp[c149,leave,kindPorts,List.range,List.range.loop]
theorem t149 (h:Std pg):eCA pg (E pg) 149 [] G=some (.ret (.ag (pcs ((List.range 14).map fun k=>iv (kindPorts k)))),G):=at_pure (s149 h) rfl rfl
theorem t136 (h:Std pg)(k l:Nat)(n:Int)(name:List UInt8)(alts:List (List UInt8×Nat))(to:List Port)(ha:alts.length<2 ^ 40) :
  eCA pg (E pg) 136 [.ag [.p (.i .i64 k),.p (.i .i64 l),.p (.i .i64 n),.p (.s name),.p (.sl (alts.map encAr)),.p (.sl (to.map Port.enc))]] G=some (.ret (.p (.i .i64 ((Node.mk k l n name alts to).ports:Nat))),G):=by
 refine at_pure ?_ rfl rfl
 rw[h.run (x:=c136) rfl (by decide) (by decide) (by decide) (by decide)]
 by_cases h1:(k:Int)=8
 ·have:k=8:=by omega
  subst this
  simp[c136,leave,Node.ports]
 ·by_cases h2:(k:Int)=9
  ·have:k=9:=by omega
   subst this
   simp[c136,leave,Node.ports,w64 (2+(alts.length:Int)) (by omega) (by omega)]
  ·have h1':k≠8:=by omega
   have h2':k≠9:=by omega
   by_cases h3:(k:Int)≤13
   ·have h4:(k:Int)<14:=by omega
    have h5:k<14:=by omega
    simp[h1,h2,h3,h4,h5,h1',h2',c136,leave,Node.ports,t134 h,t149 h,(show keepA pg 149=false from h.keep (x:=c149) rfl),List.getElem?_range]
   ·have h5:¬ k<14:=by omega
    simp[h1,h2,h3,h5,h1',h2',c136,leave,Node.ports,t134 h,t149 h,kindPorts_big h5]
theorem t160 (h:Std pg)(k l:Nat)(n:Int)(name:List UInt8)(alts to:List (List PV)) :
  eCA pg (E pg) 160 [.ag [.p (.i .i64 k),.p (.i .i64 l),.p (.i .i64 n),.p (.s name),.p (.sl alts),.p (.sl to)]] G=some (.ret (.p (.b (decide (k=0)))),G):=by
 refine at_pure ?_ rfl rfl
 rw[h.run (x:=c160) rfl (by decide) (by decide) (by decide) (by decide)]
 simp[c160,leave]
theorem s173 (h:Std pg)(name:List UInt8)(m:Nat)(b:List UInt8×Nat) :
  E pg 173 [.ag [.p (.s b.1),.p (.i .i64 b.2)],.ptr 0 0] [.box [.p (.s name),.p (.i .i64 m)]]=some (.ret (.p (.b (decide (b.1=name)))),[.box [.p (.s name),.p (.i .i64 m)]]):=by
 rw[h.run (x:=c173) rfl (by decide) (by decide) (by decide) (by decide)]
 simp[c173,leave]
theorem t173 (h:Std pg)(name:List UInt8)(m:Nat)(b:List UInt8×Nat) :
  eCA pg (E pg) 173 [.ag [.p (.s b.1),.p (.i .i64 b.2)],.ptr 0 0] [.box [.p (.s name),.p (.i .i64 m)]]=some (.ret (.p (.b (decide (b.1=name)))),[.box [.p (.s name),.p (.i .i64 m)]]):=by
 simp[eCA,gc,gcEnv,exp,expL,eOs,Exp.id,idxOf,List.range,List.range.loop,s173 h,Out.back,back,backL,backId,backObj,setAll]
theorem okRows_map {α:Type}{sz:Nat}{f:α→List PV}(hf:∀ a,okRow sz (f a)=true)(l:List α):∀ row,row∈l.map f→okRow sz row=true:=by
 intro row hr
 obtain ⟨a,_,rfl⟩:=List.mem_map.1 hr
 exact hf a
theorem okAr (a:List UInt8×Nat):okRow 2 (encAr a)=true:=by simp[encAr,okRow,PV.flat]
theorem okPort (a:Port):okRow 2 a.enc=true:=by simp[Port.enc,okRow,PV.flat]
theorem okNode (a:Node):okRow 6 a.enc=true:=by simp[Node.enc,okRow,PV.flat]
theorem s174 (h:Std pg)(name:List UInt8)(m:Nat)(l:List (List UInt8×Nat))(hl:l.length<2 ^ 40) :
  E pg 174 [.p (.sl (l.map encAr)),.fn 173 [] [.ptr 0 0]] [.box [.p (.s name),.p (.i .i64 m)]]=some (.ret (.p (.b (l.any fun b=>decide (b.1=name)))),[.box [.p (.s name),.p (.i .i64 m)]]):=by
 have h1:=s187 (G:=[.box [.p (.s name),.p (.i .i64 m)]]) h (f:=173) (first:=[]) (cap:=[.ptr 0 0]) (rows:=l.map encAr) (q:=fun row=>match row with|.s x::_=>decide (x=name)|_=>false) (by simpa using hl) rfl rfl (okRows_map okAr l) (by
  intro row hr
  obtain ⟨b,_,rfl⟩:=List.mem_map.1 hr
  simpa [encAr,pcs] using t173 h name m b)
 have h2:(l.map encAr).findIdx? (fun row=>match row with|.s x::_=>decide (x=name)|_=>false)=l.findIdx? fun b=>decide (b.1=name):=by
  rw[List.findIdx?_map];rfl
 rw[h2]at h1
 rw[h.run (x:=c174) rfl (by decide) (by decide) (by decide) (by decide)]
 simp[c174,leave,eCA,gc,gcEnv,exp,expL,eOs,Exp.id,idxOf,List.range,List.range.loop,h1,Out.back,back,backL,backId,backObj,setAll,(show keepA pg 187=false from h.keep (x:=c187) rfl)]
 cases hk:l.findIdx? (fun b=>decide (b.1=name)) with
 |none =>
  simp[idxInt]
  simpa using hk
 |some k =>
  simp[idxInt]
  obtain ⟨h1,h2,h3⟩:=List.findIdx?_eq_some_iff_getElem.1 hk
  simp at h2
  exact ⟨l[k].2,by rw[← h2];exact List.getElem_mem h1⟩
theorem t174 (h:Std pg)(name:List UInt8)(m:Nat)(l:List (List UInt8×Nat))(hl:l.length<2 ^ 40)(c:List AV) :
  eCA pg (E pg) 174 [.p (.sl (l.map encAr)),.fn 173 [] [.ptr 1 0]] [.box c,.box [.p (.s name),.p (.i .i64 m)]]=some (.ret (.p (.b (l.any fun b=>decide (b.1=name)))),[.box c,.box [.p (.s name),.p (.i .i64 m)]]):=by
 simp[eCA,gc,gcEnv,exp,expL,eOs,Exp.id,idxOf,List.range,List.range.loop,s174 h _ _ _ hl,Out.back,back,backL,backId,backObj,setAll,(show keepA pg 174=false from h.keep (x:=c174) rfl)]
theorem okRows_enc {α:Type}{sz:Nat}{f:α→List PV}(hf:∀ a,okRow sz (f a)=true)(l:List α):okRows sz (l.map f)=true:=by
 simp only[okRows,List.all_eq_true]
 exact okRows_map hf l
theorem l148 (h:Std pg){body:CCode}(hb:body=c148l0){all:List (List UInt8×Nat)}(hl:all.length<2 ^ 40){c:List AV}(hc:c[4]?=some (.p (.sl (all.map encAr))))(hcb:belowL 0 c=true) :
  ∀ (n i:Nat),i+n=all.length→∃ H,L pg 0 [1,14,15,16] body [(1,.ptr 0 0),(14,.p (.sl (all.map encAr))),(15,.p (.i .i64 all.length)),(16,.p (.i .i64 i))] [.box c] =
   some (bif altsFrom all i (all.drop i) then (.exit 0,[(1,.ptr 0 0),(14,.p (.sl (all.map encAr))),(15,.p (.i .i64 all.length)),(16,.p (.i .i64 all.length)),(17,.p (.b false))],[.box c]) else (.ret,[(2,.p (.b false))],H))
 |0,i,hi=>by
  have:i=all.length:=by omega
  subst this
  rw[k_L hb]
  refine ⟨[],?_⟩
  simp[c148l0,leave,altsFrom]
 |n+1,i,hi=>by
  have hlt:i<all.length:=by omega
  have hd:all.drop i=all[i]::all.drop (i+1):=List.drop_eq_getElem_cons hlt
  obtain ⟨H,ih⟩:=l148 h hb hl hc hcb n (i+1) (by omega)
  rw[k_L hb,hd]
  have e0:=okRows_enc okAr all
  have e1:okRow 2 (encAr all[i])=true:=okAr _
  simp only[altsFrom]
  have hle:i≤all.length:=by omega
  have htl:(all.take i).length<2 ^ 40:=by simp;omega
  by_cases h1:all[i].1=[]
  ·refine ⟨[.box c,.box [.p (.s []),.p (.i .i64 all[i].2)]],?_⟩
   simp[c148l0,leave,hlt,encAr,okRow,h1]
  ·by_cases h2:all[i].2≤8
   ·have h2':(all[i].2:Int)≤8:=by omega
    have ht:=t174 h all[i].1 all[i].2 (all.take i) htl c
    simp only[List.map_take]at ht
    rcases Bool.eq_false_or_eq_true ((all.take i).any fun b=>decide (b.1=all[i].1)) with hq|hq
    ·rw[hq]at ht
     refine ⟨[.box c,.box [.p (.s all[i].1),.p (.i .i64 all[i].2)]],?_⟩
     rw[hq]
     simp[c148l0,leave,hlt,hle,encAr,okRow,h1,h2,h2',t134 h,evSub,e0,hc,ht]
    ·rw[hq]at ht
     refine ⟨H,?_⟩
     have hce:∀ e,expL true e c=some (c,e):=fun e=>expL_same (base:=0) (fun id h=>by omega) hcb
     rw[show ((i+1:Nat):Int)=(i:Int)+1 from by omega]at ih
     rw[hq]
     simp[c148l0,leave,hlt,hle,encAr,okRow,h1,h2,h2',t134 h,evSub,e0,hc,ht,w64 ((i:Int)+1) (by omega) (by omega),gc,gcEnv,exp,expL,eOs,Exp.id,idxOf,List.range,List.range.loop,hce,ih]
   ·have h2':¬ (all[i].2:Int)≤8:=by omega
    refine ⟨[.box c,.box [.p (.s all[i].1),.p (.i .i64 all[i].2)]],?_⟩
    simp[c148l0,leave,hlt,encAr,okRow,h1,h2,h2',t134 h]
theorem t148 (h:Std pg)(k l:Nat)(n:Int)(name:List UInt8)(alts:List (List UInt8×Nat))(to:List Port)(ha:alts.length<2 ^ 40) :
  eCA pg (E pg) 148 [.ag [.p (.i .i64 k),.p (.i .i64 l),.p (.i .i64 n),.p (.s name),.p (.sl (alts.map encAr)),.p (.sl (to.map Port.enc))]] G=some (.ret (.p (.b (Node.mk k l n name alts to).altsOK)),G):=by
 refine at_pure ?_ rfl rfl
 rw[h.run (x:=c148) rfl (by decide) (by decide) (by decide) (by decide)]
 by_cases h1:k=9
 ·subst h1
  obtain ⟨H,hL⟩:=l148 h rfl ha (c:=[.p (.i .i64 9),.p (.i .i64 l),.p (.i .i64 n),.p (.s name),.p (.sl (alts.map encAr)),.p (.sl (to.map Port.enc))]) rfl rfl alts.length 0 (by omega)
  simp[c148,leave,gc,gcEnv,exp,expL,eOs,Exp.id,idxOf,List.range,List.range.loop]
  rw[show AV.p (.i .i64 0)=.p (.i .i64 ((0:Nat):Int)) from rfl,hL]
  simp only[List.drop_zero]
  cases hq:altsFrom alts 0 alts with
  |true =>
   simp[leave,t134 h,Node.altsOK,hq]
   rw[Bool.eq_iff_iff]
   simp
   omega
  |false=>simp[leave,Node.altsOK,hq]
 ·have:¬ (k:Int)=9:=by omega
  simp[c148,leave,this,Node.altsOK,h1]
theorem t135 (h:Std pg)(k l:Nat)(n:Int)(name:List UInt8)(alts:List (List UInt8×Nat))(to:List Port)(ha:alts.length<2 ^ 40) :
  eCA pg (E pg) 135 [.ag [.p (.i .i64 k),.p (.i .i64 l),.p (.i .i64 n),.p (.s name),.p (.sl (alts.map encAr)),.p (.sl (to.map Port.enc))]] G=some (.ret (.p (.b (Node.mk k l n name alts to).ok)),G):=by
 refine at_pure ?_ rfl rfl
 rw[h.run (x:=c135) rfl (by decide) (by decide) (by decide) (by decide)]
 by_cases h1:(k:Int)≤13
 ·have h1':k≤13:=by omega
  cases h2:(Node.mk k l n name alts to).altsOK with
  |false=>simp[c135,leave,h1,h1',t134 h,t148 h _ _ _ _ _ _ ha,h2,Node.ok]
  |true =>
   have hk:k=0∨k=1∨k=8∨k=10∨k=11∨k=12∨(k≠0∧k≠1∧k≠8∧k≠10∧k≠11∧k≠12):=by omega
   have x134:=@t134 pg
   rcases hk with hk|hk|hk|hk|hk|hk|hk
   ·have e1:((k:Int)≤13)=True:=eq_true h1
    have e1':(k≤13)=True:=eq_true h1'
    have i0:((k:Int)=0)=True:=eq_true (by omega)
    have n0:(k=0)=True:=eq_true (by omega)
    have i1:((k:Int)=1)=False:=eq_false (by omega)
    have n1:(k=1)=False:=eq_false (by omega)
    have i8:((k:Int)=8)=False:=eq_false (by omega)
    have n8:(k=8)=False:=eq_false (by omega)
    have i10:((k:Int)=10)=False:=eq_false (by omega)
    have n10:(k=10)=False:=eq_false (by omega)
    have i11:((k:Int)=11)=False:=eq_false (by omega)
    have n11:(k=11)=False:=eq_false (by omega)
    have i12:((k:Int)=12)=False:=eq_false (by omega)
    have n12:(k=12)=False:=eq_false (by omega)
    have nl:(k≤1)=True:=eq_true (by omega)
    by_cases h3:l≤0
    ·have h3':(l:Int)≤0:=by omega
     by_cases h4:name=[]
     ·by_cases h5:n=0
      ·simp[c135,leave,t134 h,t148 h _ _ _ _ _ _ ha,h2,Node.ok,e1,e1',nl,i0,n0,i1,n1,i8,n8,i10,n10,i11,n11,i12,n12,eq_true (show l=0 from by omega),eq_true (show (l:Int)≤0 from by omega),eq_true h4,eq_true h5]
      ·simp[c135,leave,t134 h,t148 h _ _ _ _ _ _ ha,h2,Node.ok,e1,e1',nl,i0,n0,i1,n1,i8,n8,i10,n10,i11,n11,i12,n12,eq_true (show l=0 from by omega),eq_true (show (l:Int)≤0 from by omega),eq_true h4,eq_false h5]
     ·simp[c135,leave,t134 h,t148 h _ _ _ _ _ _ ha,h2,Node.ok,e1,e1',nl,i0,n0,i1,n1,i8,n8,i10,n10,i11,n11,i12,n12,eq_true (show l=0 from by omega),eq_true (show (l:Int)≤0 from by omega),eq_false h4]
    ·have h3':¬ (l:Int)≤0:=by omega
     have h3'':l≠0:=by omega
     simp[c135,leave,t134 h,t148 h _ _ _ _ _ _ ha,h2,Node.ok,e1,e1',nl,i0,n0,i1,n1,i8,n8,i10,n10,i11,n11,i12,n12,h3'']
   ·have e1:((k:Int)≤13)=True:=eq_true h1
    have e1':(k≤13)=True:=eq_true h1'
    have i0:((k:Int)=0)=False:=eq_false (by omega)
    have n0:(k=0)=False:=eq_false (by omega)
    have i1:((k:Int)=1)=True:=eq_true (by omega)
    have n1:(k=1)=True:=eq_true (by omega)
    have i8:((k:Int)=8)=False:=eq_false (by omega)
    have n8:(k=8)=False:=eq_false (by omega)
    have i10:((k:Int)=10)=False:=eq_false (by omega)
    have n10:(k=10)=False:=eq_false (by omega)
    have i11:((k:Int)=11)=False:=eq_false (by omega)
    have n11:(k=11)=False:=eq_false (by omega)
    have i12:((k:Int)=12)=False:=eq_false (by omega)
    have n12:(k=12)=False:=eq_false (by omega)
    have nl:(k≤1)=True:=eq_true (by omega)
    by_cases h3:l≤0
    ·have h3':(l:Int)≤0:=by omega
     by_cases h4:name=[]
     ·by_cases h5:n=0
      ·simp[c135,leave,t134 h,t148 h _ _ _ _ _ _ ha,h2,Node.ok,e1,e1',nl,i0,n0,i1,n1,i8,n8,i10,n10,i11,n11,i12,n12,eq_true (show l=0 from by omega),eq_true (show (l:Int)≤0 from by omega),eq_true h4,eq_true h5]
      ·simp[c135,leave,t134 h,t148 h _ _ _ _ _ _ ha,h2,Node.ok,e1,e1',nl,i0,n0,i1,n1,i8,n8,i10,n10,i11,n11,i12,n12,eq_true (show l=0 from by omega),eq_true (show (l:Int)≤0 from by omega),eq_true h4,eq_false h5]
     ·simp[c135,leave,t134 h,t148 h _ _ _ _ _ _ ha,h2,Node.ok,e1,e1',nl,i0,n0,i1,n1,i8,n8,i10,n10,i11,n11,i12,n12,eq_true (show l=0 from by omega),eq_true (show (l:Int)≤0 from by omega),eq_false h4]
    ·have h3':¬ (l:Int)≤0:=by omega
     have h3'':l≠0:=by omega
     simp[c135,leave,t134 h,t148 h _ _ _ _ _ _ ha,h2,Node.ok,e1,e1',nl,i0,n0,i1,n1,i8,n8,i10,n10,i11,n11,i12,n12,h3'']
   ·have e1:((k:Int)≤13)=True:=eq_true h1
    have e1':(k≤13)=True:=eq_true h1'
    have i0:((k:Int)=0)=False:=eq_false (by omega)
    have n0:(k=0)=False:=eq_false (by omega)
    have i1:((k:Int)=1)=False:=eq_false (by omega)
    have n1:(k=1)=False:=eq_false (by omega)
    have i8:((k:Int)=8)=True:=eq_true (by omega)
    have n8:(k=8)=True:=eq_true (by omega)
    have i10:((k:Int)=10)=False:=eq_false (by omega)
    have n10:(k=10)=False:=eq_false (by omega)
    have i11:((k:Int)=11)=False:=eq_false (by omega)
    have n11:(k=11)=False:=eq_false (by omega)
    have i12:((k:Int)=12)=False:=eq_false (by omega)
    have n12:(k=12)=False:=eq_false (by omega)
    have nl:(k≤1)=False:=eq_false (by omega)
    by_cases h3:l≤60
    ·have h3':(l:Int)≤60:=by omega
     by_cases h4:name=[]
     ·simp[c135,leave,t134 h,t148 h _ _ _ _ _ _ ha,h2,Node.ok,e1,e1',nl,i0,n0,i1,n1,i8,n8,i10,n10,i11,n11,i12,n12,eq_true h3,eq_true h3',eq_true h4]
     ·by_cases h5:n=0
      ·by_cases h6:1≤to.length∧to.length≤9
       ·have h7:(1:Int)≤to.length∧(to.length:Int)≤9:=by omega
        simp[c135,leave,t134 h,t148 h _ _ _ _ _ _ ha,h2,Node.ok,e1,e1',nl,i0,n0,i1,n1,i8,n8,i10,n10,i11,n11,i12,n12,eq_true h3,eq_true h3',eq_false h4,eq_true h5,h6.1,h6.2,h7.1,h7.2]
       ·have h7:¬ ((1:Int)≤to.length∧(to.length:Int)≤9):=by omega
        have h7':((1:Int)≤to.length∧(to.length:Int)≤9)=False:=eq_false h7
        have h6':(1≤to.length∧to.length≤9)=False:=eq_false h6
        simp[c135,leave,t134 h,t148 h _ _ _ _ _ _ ha,h2,Node.ok,e1,e1',nl,i0,n0,i1,n1,i8,n8,i10,n10,i11,n11,i12,n12,eq_true h3,eq_true h3',eq_false h4,eq_true h5,h6',h7']
      ·simp[c135,leave,t134 h,t148 h _ _ _ _ _ _ ha,h2,Node.ok,e1,e1',nl,i0,n0,i1,n1,i8,n8,i10,n10,i11,n11,i12,n12,eq_true h3,eq_true h3',eq_false h4,eq_false h5]
    ·have h3':¬ (l:Int)≤60:=by omega
     simp[c135,leave,t134 h,t148 h _ _ _ _ _ _ ha,h2,Node.ok,e1,e1',nl,i0,n0,i1,n1,i8,n8,i10,n10,i11,n11,i12,n12,eq_false h3,eq_false h3']
   ·have e1:((k:Int)≤13)=True:=eq_true h1
    have e1':(k≤13)=True:=eq_true h1'
    have i0:((k:Int)=0)=False:=eq_false (by omega)
    have n0:(k=0)=False:=eq_false (by omega)
    have i1:((k:Int)=1)=False:=eq_false (by omega)
    have n1:(k=1)=False:=eq_false (by omega)
    have i8:((k:Int)=8)=False:=eq_false (by omega)
    have n8:(k=8)=False:=eq_false (by omega)
    have i10:((k:Int)=10)=True:=eq_true (by omega)
    have n10:(k=10)=True:=eq_true (by omega)
    have i11:((k:Int)=11)=False:=eq_false (by omega)
    have n11:(k=11)=False:=eq_false (by omega)
    have i12:((k:Int)=12)=False:=eq_false (by omega)
    have n12:(k=12)=False:=eq_false (by omega)
    have nl:(k≤1)=False:=eq_false (by omega)
    by_cases h3:l≤60
    ·have h3':(l:Int)≤60:=by omega
     by_cases h4:name=[]
     ·by_cases h5:n=0
      ·simp[c135,leave,t134 h,t148 h _ _ _ _ _ _ ha,h2,Node.ok,e1,e1',nl,i0,n0,i1,n1,i8,n8,i10,n10,i11,n11,i12,n12,eq_true h3,eq_true h3',eq_true h4,eq_true h5]
      ·simp[c135,leave,t134 h,t148 h _ _ _ _ _ _ ha,h2,Node.ok,e1,e1',nl,i0,n0,i1,n1,i8,n8,i10,n10,i11,n11,i12,n12,eq_true h3,eq_true h3',eq_true h4,eq_false h5]
     ·simp[c135,leave,t134 h,t148 h _ _ _ _ _ _ ha,h2,Node.ok,e1,e1',nl,i0,n0,i1,n1,i8,n8,i10,n10,i11,n11,i12,n12,eq_true h3,eq_true h3',eq_false h4]
    ·have h3':¬ (l:Int)≤60:=by omega
     simp[c135,leave,t134 h,t148 h _ _ _ _ _ _ ha,h2,Node.ok,e1,e1',nl,i0,n0,i1,n1,i8,n8,i10,n10,i11,n11,i12,n12,eq_false h3,eq_false h3']
   ·have e1:((k:Int)≤13)=True:=eq_true h1
    have e1':(k≤13)=True:=eq_true h1'
    have i0:((k:Int)=0)=False:=eq_false (by omega)
    have n0:(k=0)=False:=eq_false (by omega)
    have i1:((k:Int)=1)=False:=eq_false (by omega)
    have n1:(k=1)=False:=eq_false (by omega)
    have i8:((k:Int)=8)=False:=eq_false (by omega)
    have n8:(k=8)=False:=eq_false (by omega)
    have i10:((k:Int)=10)=False:=eq_false (by omega)
    have n10:(k=10)=False:=eq_false (by omega)
    have i11:((k:Int)=11)=True:=eq_true (by omega)
    have n11:(k=11)=True:=eq_true (by omega)
    have i12:((k:Int)=12)=False:=eq_false (by omega)
    have n12:(k=12)=False:=eq_false (by omega)
    have nl:(k≤1)=False:=eq_false (by omega)
    by_cases h3:l≤60
    ·have h3':(l:Int)≤60:=by omega
     by_cases h4:name=[]
     ·simp[c135,leave,t134 h,t148 h _ _ _ _ _ _ ha,h2,Node.ok,e1,e1',nl,i0,n0,i1,n1,i8,n8,i10,n10,i11,n11,i12,n12,eq_true h3,eq_true h3',eq_true h4]
     ·by_cases h5:n=0
      ·simp[c135,leave,t134 h,t148 h _ _ _ _ _ _ ha,h2,Node.ok,e1,e1',nl,i0,n0,i1,n1,i8,n8,i10,n10,i11,n11,i12,n12,eq_true h3,eq_true h3',eq_false h4,eq_true h5]
      ·simp[c135,leave,t134 h,t148 h _ _ _ _ _ _ ha,h2,Node.ok,e1,e1',nl,i0,n0,i1,n1,i8,n8,i10,n10,i11,n11,i12,n12,eq_true h3,eq_true h3',eq_false h4,eq_false h5]
    ·have h3':¬ (l:Int)≤60:=by omega
     simp[c135,leave,t134 h,t148 h _ _ _ _ _ _ ha,h2,Node.ok,e1,e1',nl,i0,n0,i1,n1,i8,n8,i10,n10,i11,n11,i12,n12,eq_false h3,eq_false h3']
   ·have e1:((k:Int)≤13)=True:=eq_true h1
    have e1':(k≤13)=True:=eq_true h1'
    have i0:((k:Int)=0)=False:=eq_false (by omega)
    have n0:(k=0)=False:=eq_false (by omega)
    have i1:((k:Int)=1)=False:=eq_false (by omega)
    have n1:(k=1)=False:=eq_false (by omega)
    have i8:((k:Int)=8)=False:=eq_false (by omega)
    have n8:(k=8)=False:=eq_false (by omega)
    have i10:((k:Int)=10)=False:=eq_false (by omega)
    have n10:(k=10)=False:=eq_false (by omega)
    have i11:((k:Int)=11)=False:=eq_false (by omega)
    have n11:(k=11)=False:=eq_false (by omega)
    have i12:((k:Int)=12)=True:=eq_true (by omega)
    have n12:(k=12)=True:=eq_true (by omega)
    have nl:(k≤1)=False:=eq_false (by omega)
    by_cases h3:l≤60
    ·have h3':(l:Int)≤60:=by omega
     by_cases h4:name=[]
     ·simp[c135,leave,t134 h,t148 h _ _ _ _ _ _ ha,h2,Node.ok,e1,e1',nl,i0,n0,i1,n1,i8,n8,i10,n10,i11,n11,i12,n12,eq_true h3,eq_true h3',eq_true h4]
     ·by_cases h5:n=0
      ·simp[c135,leave,t134 h,t148 h _ _ _ _ _ _ ha,h2,Node.ok,e1,e1',nl,i0,n0,i1,n1,i8,n8,i10,n10,i11,n11,i12,n12,eq_true h3,eq_true h3',eq_false h4,eq_true h5]
      ·simp[c135,leave,t134 h,t148 h _ _ _ _ _ _ ha,h2,Node.ok,e1,e1',nl,i0,n0,i1,n1,i8,n8,i10,n10,i11,n11,i12,n12,eq_true h3,eq_true h3',eq_false h4,eq_false h5]
    ·have h3':¬ (l:Int)≤60:=by omega
     simp[c135,leave,t134 h,t148 h _ _ _ _ _ _ ha,h2,Node.ok,e1,e1',nl,i0,n0,i1,n1,i8,n8,i10,n10,i11,n11,i12,n12,eq_false h3,eq_false h3']
   ·have e1:((k:Int)≤13)=True:=eq_true h1
    have e1':(k≤13)=True:=eq_true h1'
    have i0:((k:Int)=0)=False:=eq_false (by omega)
    have n0:(k=0)=False:=eq_false (by omega)
    have i1:((k:Int)=1)=False:=eq_false (by omega)
    have n1:(k=1)=False:=eq_false (by omega)
    have i8:((k:Int)=8)=False:=eq_false (by omega)
    have n8:(k=8)=False:=eq_false (by omega)
    have i10:((k:Int)=10)=False:=eq_false (by omega)
    have n10:(k=10)=False:=eq_false (by omega)
    have i11:((k:Int)=11)=False:=eq_false (by omega)
    have n11:(k=11)=False:=eq_false (by omega)
    have i12:((k:Int)=12)=False:=eq_false (by omega)
    have n12:(k=12)=False:=eq_false (by omega)
    have nl:(k≤1)=False:=eq_false (by omega)
    by_cases h3:l≤60
    ·have h3':(l:Int)≤60:=by omega
     by_cases h4:name=[]
     ·by_cases h5:n=0
      ·simp[c135,leave,t134 h,t148 h _ _ _ _ _ _ ha,h2,Node.ok,e1,e1',nl,i0,n0,i1,n1,i8,n8,i10,n10,i11,n11,i12,n12,eq_true h3,eq_true h3',eq_true h4,eq_true h5]
      ·simp[c135,leave,t134 h,t148 h _ _ _ _ _ _ ha,h2,Node.ok,e1,e1',nl,i0,n0,i1,n1,i8,n8,i10,n10,i11,n11,i12,n12,eq_true h3,eq_true h3',eq_true h4,eq_false h5]
     ·simp[c135,leave,t134 h,t148 h _ _ _ _ _ _ ha,h2,Node.ok,e1,e1',nl,i0,n0,i1,n1,i8,n8,i10,n10,i11,n11,i12,n12,eq_true h3,eq_true h3',eq_false h4]
    ·have h3':¬ (l:Int)≤60:=by omega
     simp[c135,leave,t134 h,t148 h _ _ _ _ _ _ ha,h2,Node.ok,e1,e1',nl,i0,n0,i1,n1,i8,n8,i10,n10,i11,n11,i12,n12,eq_false h3,eq_false h3']
 ·have h1':¬ k≤13:=by omega
  simp[c135,leave,h1,h1',t134 h,Node.ok]
end Go.Proofs.Z
end
