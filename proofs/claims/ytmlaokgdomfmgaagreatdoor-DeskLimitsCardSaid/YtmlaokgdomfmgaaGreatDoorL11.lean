/- A part of the proof. -/
import Derived.Test.YtmlaokgdomfmgaaGreatDoorL10
import Derived.Test.YtmlaokgdomfmgaaGreatDoorProg
set_option linter.all false
section
namespace Go.Proofs.Z
open Go Go.Proofs
set_option maxRecDepth 100000
set_option maxHeartbeats 1000000
noncomputable section
def r2 := w (qFunc Tryz.prog 2)
def a2 := w (an r2)
def c2 : CFun := wf (mk a2 false false [])
theorem ok2 : comp Tryz.prog 2 c2.md = some (erase c2.body, c2.res) := by kernel_rfl
theorem ft2 : c2.fit = true := by kernel_rfl
def r3 := w (qFunc Tryz.prog 3)
def a3 := w (an r3)
def c3 : CFun := wf (mk a3 false false [])
theorem ok3 : comp Tryz.prog 3 c3.md = some (erase c3.body, c3.res) := by kernel_rfl
theorem ft3 : c3.fit = true := by kernel_rfl
def r4 := w (qFunc Tryz.prog 4)
def a4 := w (an r4)
def c4 : CFun := wf (mk a4 false false [])
theorem ok4 : comp Tryz.prog 4 c4.md = some (erase c4.body, c4.res) := by kernel_rfl
theorem ft4 : c4.fit = true := by kernel_rfl
def r5 := w (qFunc Tryz.prog 5)
def a5 := w (an r5)
def c5 : CFun := wf (mk a5 false false [])
theorem ok5 : comp Tryz.prog 5 c5.md = some (erase c5.body, c5.res) := by kernel_rfl
theorem ft5 : c5.fit = true := by kernel_rfl
def r6 := w (qFunc Tryz.prog 6)
def a6 := w (an r6)
def c6l0 : CCode := wf (ml a6 [])
def c6 : CFun := (wf fun x0 => mk a6 false false [x0]) c6l0
theorem ok6 : comp Tryz.prog 6 c6.md = some (erase c6.body, c6.res) := by kernel_rfl
theorem ft6 : c6.fit = true := by kernel_rfl
def r7 := w (qFunc Tryz.prog 7)
def a7 := w (an r7)
def c7 : CFun := wf (mk a7 false false [])
theorem ok7 : comp Tryz.prog 7 c7.md = some (erase c7.body, c7.res) := by kernel_rfl
theorem ft7 : c7.fit = true := by kernel_rfl
def r8 := w (qFunc Tryz.prog 8)
def a8 := w (an r8)
def c8 : CFun := wf (mk a8 false false [])
theorem ok8 : comp Tryz.prog 8 c8.md = some (erase c8.body, c8.res) := by kernel_rfl
theorem ft8 : c8.fit = true := by kernel_rfl
def r9 := w (qFunc Tryz.prog 9)
def a9 := w (an r9)
def c9 : CFun := wf (mk a9 false false [])
theorem ok9 : comp Tryz.prog 9 c9.md = some (erase c9.body, c9.res) := by kernel_rfl
theorem ft9 : c9.fit = true := by kernel_rfl
def r10 := w (qFunc Tryz.prog 10)
def a10 := w (an r10)
def c10 : CFun := wf (mk a10 false false [])
theorem ok10 : comp Tryz.prog 10 c10.md = some (erase c10.body, c10.res) := by kernel_rfl
theorem ft10 : c10.fit = true := by kernel_rfl
def r11 := w (qFunc Tryz.prog 11)
def a11 := w (an r11)
def c11l0 : CCode := wf (ml a11 [])
def c11 : CFun := (wf fun x0 => mk a11 false false [x0]) c11l0
theorem ok11 : comp Tryz.prog 11 c11.md = some (erase c11.body, c11.res) := by kernel_rfl
theorem ft11 : c11.fit = true := by kernel_rfl
def r12 := w (qFunc Tryz.prog 12)
def a12 := w (an r12)
def c12l0 : CCode := wf (ml a12 [])
def c12 : CFun := (wf fun x0 => mk a12 false false [x0]) c12l0
theorem ok12 : comp Tryz.prog 12 c12.md = some (erase c12.body, c12.res) := by kernel_rfl
theorem ft12 : c12.fit = true := by kernel_rfl
def r13 := w (qFunc Tryz.prog 13)
def a13 := w (an r13)
def c13l0 : CCode := wf (ml a13 [])
def c13 : CFun := (wf fun x0 => mk a13 false false [x0]) c13l0
theorem ok13 : comp Tryz.prog 13 c13.md = some (erase c13.body, c13.res) := by kernel_rfl
theorem ft13 : c13.fit = true := by kernel_rfl
def r14 := w (qFunc Tryz.prog 14)
def a14 := w (an r14)
def c14 : CFun := wf (mk a14 false false [])
theorem ok14 : comp Tryz.prog 14 c14.md = some (erase c14.body, c14.res) := by kernel_rfl
theorem ft14 : c14.fit = true := by kernel_rfl
def r15 := w (qFunc Tryz.prog 15)
def a15 := w (an r15)
def c15 : CFun := wf (mk a15 false false [])
theorem ok15 : comp Tryz.prog 15 c15.md = some (erase c15.body, c15.res) := by kernel_rfl
theorem ft15 : c15.fit = true := by kernel_rfl
def r16 := w (qFunc Tryz.prog 16)
def a16 := w (an r16)
def c16 : CFun := wf (mk a16 false false [])
theorem ok16 : comp Tryz.prog 16 c16.md = some (erase c16.body, c16.res) := by kernel_rfl
theorem ft16 : c16.fit = true := by kernel_rfl
def r17 := w (qFunc Tryz.prog 17)
def a17 := w (an r17)
def c17l0 : CCode := wf (ml a17 [])
def c17 : CFun := (wf fun x0 => mk a17 false false [x0]) c17l0
theorem ok17 : comp Tryz.prog 17 c17.md = some (erase c17.body, c17.res) := by kernel_rfl
theorem ft17 : c17.fit = true := by kernel_rfl
def r18 := w (qFunc Tryz.prog 18)
def a18 := w (an r18)
def c18l0 : CCode := wf (ml a18 [])
def c18 : CFun := (wf fun x0 => mk a18 false false [x0]) c18l0
theorem ok18 : comp Tryz.prog 18 c18.md = some (erase c18.body, c18.res) := by kernel_rfl
theorem ft18 : c18.fit = true := by kernel_rfl
def r19 := w (qFunc Tryz.prog 19)
def a19 := w (an r19)
def c19 : CFun := wf (mk a19 false false [])
theorem ok19 : comp Tryz.prog 19 c19.md = some (erase c19.body, c19.res) := by kernel_rfl
theorem ft19 : c19.fit = true := by kernel_rfl
def r21 := w (qFunc Tryz.prog 21)
def a21 := w (an r21)
def c21 : CFun := wf (mk a21 false false [])
theorem ok21 : comp Tryz.prog 21 c21.md = some (erase c21.body, c21.res) := by kernel_rfl
theorem ft21 : c21.fit = true := by kernel_rfl
def r22 := w (qFunc Tryz.prog 22)
def a22 := w (an r22)
def c22l0 : CCode := wf (ml a22 [])
def c22 : CFun := (wf fun x0 => mk a22 false false [x0]) c22l0
theorem ok22 : comp Tryz.prog 22 c22.md = some (erase c22.body, c22.res) := by kernel_rfl
theorem ft22 : c22.fit = true := by kernel_rfl
def r23 := w (qFunc Tryz.prog 23)
def a23 := w (an r23)
def c23 : CFun := wf (mk a23 false false [])
theorem ok23 : comp Tryz.prog 23 c23.md = some (erase c23.body, c23.res) := by kernel_rfl
theorem ft23 : c23.fit = true := by kernel_rfl
def r24 := w (qFunc Tryz.prog 24)
def a24 := w (an r24)
def c24l0 : CCode := wf (ml a24 [])
def c24 : CFun := (wf fun x0 => mk a24 false false [x0]) c24l0
theorem ok24 : comp Tryz.prog 24 c24.md = some (erase c24.body, c24.res) := by kernel_rfl
theorem ft24 : c24.fit = true := by kernel_rfl
def r25 := w (qFunc Tryz.prog 25)
def a25 := w (an r25)
def c25 : CFun := wf (mk a25 false false [])
theorem ok25 : comp Tryz.prog 25 c25.md = some (erase c25.body, c25.res) := by kernel_rfl
theorem ft25 : c25.fit = true := by kernel_rfl
def r26 := w (qFunc Tryz.prog 26)
def a26 := w (an r26)
def c26 : CFun := wf (mk a26 false false [])
theorem ok26 : comp Tryz.prog 26 c26.md = some (erase c26.body, c26.res) := by kernel_rfl
theorem ft26 : c26.fit = true := by kernel_rfl
def r27 := w (qFunc Tryz.prog 27)
def a27 := w (an r27)
def c27 : CFun := wf (mk a27 false false [])
theorem ok27 : comp Tryz.prog 27 c27.md = some (erase c27.body, c27.res) := by kernel_rfl
theorem ft27 : c27.fit = true := by kernel_rfl
def r28 := w (qFunc Tryz.prog 28)
def a28 := w (an r28)
def c28 : CFun := wf (mk a28 false false [])
theorem ok28 : comp Tryz.prog 28 c28.md = some (erase c28.body, c28.res) := by kernel_rfl
theorem ft28 : c28.fit = true := by kernel_rfl
def r29 := w (qFunc Tryz.prog 29)
def a29 := w (an r29)
def c29 : CFun := wf (mk a29 false false [])
theorem ok29 : comp Tryz.prog 29 c29.md = some (erase c29.body, c29.res) := by kernel_rfl
theorem ft29 : c29.fit = true := by kernel_rfl
def r30 := w (qFunc Tryz.prog 30)
def a30 := w (an r30)
def c30l0 : CCode := wf (ml a30 [])
def c30 : CFun := (wf fun x0 => mk a30 false false [x0]) c30l0
theorem ok30 : comp Tryz.prog 30 c30.md = some (erase c30.body, c30.res) := by kernel_rfl
theorem ft30 : c30.fit = true := by kernel_rfl
def r31 := w (qFunc Tryz.prog 31)
def a31 := w (an r31)
def c31 : CFun := wf (mk a31 false false [])
theorem ok31 : comp Tryz.prog 31 c31.md = some (erase c31.body, c31.res) := by kernel_rfl
theorem ft31 : c31.fit = true := by kernel_rfl
def r32 := w (qFunc Tryz.prog 32)
def a32 := w (an r32)
def c32l0 : CCode := wf (ml a32 [])
def c32 : CFun := (wf fun x0 => mk a32 false false [x0]) c32l0
theorem ok32 : comp Tryz.prog 32 c32.md = some (erase c32.body, c32.res) := by kernel_rfl
theorem ft32 : c32.fit = true := by kernel_rfl
def r33 := w (qFunc Tryz.prog 33)
def a33 := w (an r33)
def c33l0 : CCode := wf (ml a33 [])
def c33 : CFun := (wf fun x0 => mk a33 false false [x0]) c33l0
theorem ok33 : comp Tryz.prog 33 c33.md = some (erase c33.body, c33.res) := by kernel_rfl
theorem ft33 : c33.fit = true := by kernel_rfl
def r34 := w (qFunc Tryz.prog 34)
def a34 := w (an r34)
def c34 : CFun := wf (mk a34 false false [])
theorem ok34 : comp Tryz.prog 34 c34.md = some (erase c34.body, c34.res) := by kernel_rfl
theorem ft34 : c34.fit = true := by kernel_rfl
def r35 := w (qFunc Tryz.prog 35)
def a35 := w (an r35)
def c35 : CFun := wf (mk a35 false false [])
theorem ok35 : comp Tryz.prog 35 c35.md = some (erase c35.body, c35.res) := by kernel_rfl
theorem ft35 : c35.fit = true := by kernel_rfl
def r36 := w (qFunc Tryz.prog 36)
def a36 := w (an r36)
def c36 : CFun := wf (mk a36 false false [])
theorem ok36 : comp Tryz.prog 36 c36.md = some (erase c36.body, c36.res) := by kernel_rfl
theorem ft36 : c36.fit = true := by kernel_rfl
def r37 := w (qFunc Tryz.prog 37)
def a37 := w (an r37)
def c37l0 : CCode := wf (ml a37 [])
def c37 : CFun := (wf fun x0 => mk a37 false false [x0]) c37l0
theorem ok37 : comp Tryz.prog 37 c37.md = some (erase c37.body, c37.res) := by kernel_rfl
theorem ft37 : c37.fit = true := by kernel_rfl
def r38 := w (qFunc Tryz.prog 38)
def a38 := w (an r38)
def c38 : CFun := wf (mk a38 false false [])
theorem ok38 : comp Tryz.prog 38 c38.md = some (erase c38.body, c38.res) := by kernel_rfl
theorem ft38 : c38.fit = true := by kernel_rfl
def r39 := w (qFunc Tryz.prog 39)
def a39 := w (an r39)
def c39 : CFun := wf (mk a39 false false [])
theorem ok39 : comp Tryz.prog 39 c39.md = some (erase c39.body, c39.res) := by kernel_rfl
theorem ft39 : c39.fit = true := by kernel_rfl
def r40 := w (qFunc Tryz.prog 40)
def a40 := w (an r40)
def c40 : CFun := wf (mk a40 false false [])
theorem ok40 : comp Tryz.prog 40 c40.md = some (erase c40.body, c40.res) := by kernel_rfl
theorem ft40 : c40.fit = true := by kernel_rfl
def r41 := w (qFunc Tryz.prog 41)
def a41 := w (an r41)
def c41l0 : CCode := wf (ml a41 [])
def c41 : CFun := (wf fun x0 => mk a41 false false [x0]) c41l0
theorem ok41 : comp Tryz.prog 41 c41.md = some (erase c41.body, c41.res) := by kernel_rfl
theorem ft41 : c41.fit = true := by kernel_rfl
def r46 := w (qFunc Tryz.prog 46)
def a46 := w (an r46)
def c46 : CFun := wf (mk a46 false false [])
theorem ok46 : comp Tryz.prog 46 c46.md = some (erase c46.body, c46.res) := by kernel_rfl
theorem ft46 : c46.fit = true := by kernel_rfl
end
end Go.Proofs.Z
end
section
namespace Go.Proofs.Z
open Go Go.Proofs
set_option maxRecDepth 100000
set_option maxHeartbeats 1000000
noncomputable section
def r47 := w (qFunc Tryz.prog 47)
def a47 := w (an r47)
def c47 : CFun := wf (mk a47 false false [])
theorem ok47 : comp Tryz.prog 47 c47.md = some (erase c47.body, c47.res) := by kernel_rfl
theorem ft47 : c47.fit = true := by kernel_rfl
def r48 := w (qFunc Tryz.prog 48)
def a48 := w (an r48)
def c48 : CFun := wf (mk a48 false false [])
theorem ok48 : comp Tryz.prog 48 c48.md = some (erase c48.body, c48.res) := by kernel_rfl
theorem ft48 : c48.fit = true := by kernel_rfl
def r49 := w (qFunc Tryz.prog 49)
def a49 := w (an r49)
def c49 : CFun := wf (mk a49 false false [])
theorem ok49 : comp Tryz.prog 49 c49.md = some (erase c49.body, c49.res) := by kernel_rfl
theorem ft49 : c49.fit = true := by kernel_rfl
def r50 := w (qFunc Tryz.prog 50)
def a50 := w (an r50)
def c50 : CFun := wf (mk a50 false false [])
theorem ok50 : comp Tryz.prog 50 c50.md = some (erase c50.body, c50.res) := by kernel_rfl
theorem ft50 : c50.fit = true := by kernel_rfl
def r51 := w (qFunc Tryz.prog 51)
def a51 := w (an r51)
def c51 : CFun := wf (mk a51 false false [])
theorem ok51 : comp Tryz.prog 51 c51.md = some (erase c51.body, c51.res) := by kernel_rfl
theorem ft51 : c51.fit = true := by kernel_rfl
def r52 := w (qFunc Tryz.prog 52)
def a52 := w (an r52)
def c52l0 : CCode := wf (ml a52 [])
def c52 : CFun := (wf fun x0 => mk a52 false false [x0]) c52l0
theorem ok52 : comp Tryz.prog 52 c52.md = some (erase c52.body, c52.res) := by kernel_rfl
theorem ft52 : c52.fit = true := by kernel_rfl
def r53 := w (qFunc Tryz.prog 53)
def a53 := w (an r53)
def c53l0 : CCode := wf (ml a53 [])
def c53 : CFun := (wf fun x0 => mk a53 false false [x0]) c53l0
theorem ok53 : comp Tryz.prog 53 c53.md = some (erase c53.body, c53.res) := by kernel_rfl
theorem ft53 : c53.fit = true := by kernel_rfl
def r54 := w (qFunc Tryz.prog 54)
def a54 := w (an r54)
def c54l0 : CCode := wf (ml a54 [])
def c54 : CFun := (wf fun x0 => mk a54 false false [x0]) c54l0
theorem ok54 : comp Tryz.prog 54 c54.md = some (erase c54.body, c54.res) := by kernel_rfl
theorem ft54 : c54.fit = true := by kernel_rfl
def r55 := w (qFunc Tryz.prog 55)
def a55 := w (an r55)
def c55l0 : CCode := wf (ml a55 [])
def c55 : CFun := (wf fun x0 => mk a55 false false [x0]) c55l0
theorem ok55 : comp Tryz.prog 55 c55.md = some (erase c55.body, c55.res) := by kernel_rfl
theorem ft55 : c55.fit = true := by kernel_rfl
def r56 := w (qFunc Tryz.prog 56)
def a56 := w (an r56)
def c56 : CFun := wf (mk a56 false false [])
theorem ok56 : comp Tryz.prog 56 c56.md = some (erase c56.body, c56.res) := by kernel_rfl
theorem ft56 : c56.fit = true := by kernel_rfl
def r57 := w (qFunc Tryz.prog 57)
def a57 := w (an r57)
def c57 : CFun := wf (mk a57 false false [])
theorem ok57 : comp Tryz.prog 57 c57.md = some (erase c57.body, c57.res) := by kernel_rfl
theorem ft57 : c57.fit = true := by kernel_rfl
def r58 := w (qFunc Tryz.prog 58)
def a58 := w (an r58)
def c58l0 : CCode := wf (ml a58 [])
def c58l1 : CCode := (wf fun x0 => ml a58 [x0]) c58l0
def c58 : CFun := (wf fun x0 x1 => mk a58 false false [x0, x1]) c58l0 c58l1
theorem ok58 : comp Tryz.prog 58 c58.md = some (erase c58.body, c58.res) := by kernel_rfl
theorem ft58 : c58.fit = true := by kernel_rfl
def r59 := w (qFunc Tryz.prog 59)
def a59 := w (an r59)
def c59 : CFun := wf (mk a59 false false [])
theorem ok59 : comp Tryz.prog 59 c59.md = some (erase c59.body, c59.res) := by kernel_rfl
theorem ft59 : c59.fit = true := by kernel_rfl
def r60 := w (qFunc Tryz.prog 60)
def a60 := w (an r60)
def c60l0 : CCode := wf (ml a60 [])
def c60 : CFun := (wf fun x0 => mk a60 false false [x0]) c60l0
theorem ok60 : comp Tryz.prog 60 c60.md = some (erase c60.body, c60.res) := by kernel_rfl
theorem ft60 : c60.fit = true := by kernel_rfl
def r61 := w (qFunc Tryz.prog 61)
def a61 := w (an r61)
def c61 : CFun := wf (mk a61 false false [])
theorem ok61 : comp Tryz.prog 61 c61.md = some (erase c61.body, c61.res) := by kernel_rfl
theorem ft61 : c61.fit = true := by kernel_rfl
def r62 := w (qFunc Tryz.prog 62)
def a62 := w (an r62)
def c62 : CFun := wf (mk a62 false false [])
theorem ok62 : comp Tryz.prog 62 c62.md = some (erase c62.body, c62.res) := by kernel_rfl
theorem ft62 : c62.fit = true := by kernel_rfl
def r63 := w (qFunc Tryz.prog 63)
def a63 := w (an r63)
def c63 : CFun := wf (mk a63 false false [])
theorem ok63 : comp Tryz.prog 63 c63.md = some (erase c63.body, c63.res) := by kernel_rfl
theorem ft63 : c63.fit = true := by kernel_rfl
def r64 := w (qFunc Tryz.prog 64)
def a64 := w (an r64)
def c64 : CFun := wf (mk a64 false false [])
theorem ok64 : comp Tryz.prog 64 c64.md = some (erase c64.body, c64.res) := by kernel_rfl
theorem ft64 : c64.fit = true := by kernel_rfl
def r65 := w (qFunc Tryz.prog 65)
def a65 := w (an r65)
def c65l0 : CCode := wf (ml a65 [])
def c65 : CFun := (wf fun x0 => mk a65 false false [x0]) c65l0
theorem ok65 : comp Tryz.prog 65 c65.md = some (erase c65.body, c65.res) := by kernel_rfl
theorem ft65 : c65.fit = true := by kernel_rfl
def r66 := w (qFunc Tryz.prog 66)
def a66 := w (an r66)
def c66l0 : CCode := wf (ml a66 [])
def c66 : CFun := (wf fun x0 => mk a66 false false [x0]) c66l0
theorem ok66 : comp Tryz.prog 66 c66.md = some (erase c66.body, c66.res) := by kernel_rfl
theorem ft66 : c66.fit = true := by kernel_rfl
def r67 := w (qFunc Tryz.prog 67)
def a67 := w (an r67)
def c67 : CFun := wf (mk a67 false false [])
theorem ok67 : comp Tryz.prog 67 c67.md = some (erase c67.body, c67.res) := by kernel_rfl
theorem ft67 : c67.fit = true := by kernel_rfl
def r68 := w (qFunc Tryz.prog 68)
def a68 := w (an r68)
def c68 : CFun := wf (mk a68 false false [])
theorem ok68 : comp Tryz.prog 68 c68.md = some (erase c68.body, c68.res) := by kernel_rfl
theorem ft68 : c68.fit = true := by kernel_rfl
def r69 := w (qFunc Tryz.prog 69)
def a69 := w (an r69)
def c69 : CFun := wf (mk a69 false false [])
theorem ok69 : comp Tryz.prog 69 c69.md = some (erase c69.body, c69.res) := by kernel_rfl
theorem ft69 : c69.fit = true := by kernel_rfl
def r70 := w (qFunc Tryz.prog 70)
def a70 := w (an r70)
def c70l0 : CCode := wf (ml a70 [])
def c70 : CFun := (wf fun x0 => mk a70 false false [x0]) c70l0
theorem ok70 : comp Tryz.prog 70 c70.md = some (erase c70.body, c70.res) := by kernel_rfl
theorem ft70 : c70.fit = true := by kernel_rfl
def r71 := w (qFunc Tryz.prog 71)
def a71 := w (an r71)
def c71 : CFun := wf (mk a71 false false [])
theorem ok71 : comp Tryz.prog 71 c71.md = some (erase c71.body, c71.res) := by kernel_rfl
theorem ft71 : c71.fit = true := by kernel_rfl
def r72 := w (qFunc Tryz.prog 72)
def a72 := w (an r72)
def c72l0 : CCode := wf (ml a72 [])
def c72l1 : CCode := (wf fun x0 => ml a72 [x0]) c72l0
def c72 : CFun := (wf fun x0 x1 => mk a72 false false [x0, x1]) c72l0 c72l1
theorem ok72 : comp Tryz.prog 72 c72.md = some (erase c72.body, c72.res) := by kernel_rfl
theorem ft72 : c72.fit = true := by kernel_rfl
def r73 := w (qFunc Tryz.prog 73)
def a73 := w (an r73)
def c73 : CFun := wf (mk a73 false true [])
theorem ok73 : comp Tryz.prog 73 c73.md = some (erase c73.body, c73.res) := by kernel_rfl
theorem ft73 : c73.fit = true := by kernel_rfl
def r74 := w (qFunc Tryz.prog 74)
def a74 := w (an r74)
def c74 : CFun := wf (mk a74 false false [])
theorem ok74 : comp Tryz.prog 74 c74.md = some (erase c74.body, c74.res) := by kernel_rfl
theorem ft74 : c74.fit = true := by kernel_rfl
def r75 := w (qFunc Tryz.prog 75)
def a75 := w (an r75)
def c75 : CFun := wf (mk a75 false false [])
theorem ok75 : comp Tryz.prog 75 c75.md = some (erase c75.body, c75.res) := by kernel_rfl
theorem ft75 : c75.fit = true := by kernel_rfl
def r76 := w (qFunc Tryz.prog 76)
def a76 := w (an r76)
def c76 : CFun := wf (mk a76 false false [])
theorem ok76 : comp Tryz.prog 76 c76.md = some (erase c76.body, c76.res) := by kernel_rfl
theorem ft76 : c76.fit = true := by kernel_rfl
def r77 := w (qFunc Tryz.prog 77)
def a77 := w (an r77)
def c77l0 : CCode := wf (ml a77 [])
def c77l1 : CCode := (wf fun x0 => ml a77 [x0]) c77l0
def c77 : CFun := (wf fun x0 x1 => mk a77 false false [x0, x1]) c77l0 c77l1
theorem ok77 : comp Tryz.prog 77 c77.md = some (erase c77.body, c77.res) := by kernel_rfl
theorem ft77 : c77.fit = true := by kernel_rfl
def r78 := w (qFunc Tryz.prog 78)
def a78 := w (an r78)
def c78l0 : CCode := wf (ml a78 [])
def c78l1 : CCode := (wf fun x0 => ml a78 [x0]) c78l0
def c78 : CFun := (wf fun x0 x1 => mk a78 false false [x0, x1]) c78l0 c78l1
theorem ok78 : comp Tryz.prog 78 c78.md = some (erase c78.body, c78.res) := by kernel_rfl
theorem ft78 : c78.fit = true := by kernel_rfl
def r82 := w (qFunc Tryz.prog 82)
def a82 := w (an r82)
def c82 : CFun := wf (mk a82 false false [])
theorem ok82 : comp Tryz.prog 82 c82.md = some (erase c82.body, c82.res) := by kernel_rfl
theorem ft82 : c82.fit = true := by kernel_rfl
def r83 := w (qFunc Tryz.prog 83)
def a83 := w (an r83)
def c83l0 : CCode := wf (ml a83 [])
def c83 : CFun := (wf fun x0 => mk a83 false false [x0]) c83l0
theorem ok83 : comp Tryz.prog 83 c83.md = some (erase c83.body, c83.res) := by kernel_rfl
theorem ft83 : c83.fit = true := by kernel_rfl
def r84 := w (qFunc Tryz.prog 84)
def a84 := w (an r84)
def c84l0 : CCode := wf (ml a84 [])
def c84 : CFun := (wf fun x0 => mk a84 false false [x0]) c84l0
theorem ok84 : comp Tryz.prog 84 c84.md = some (erase c84.body, c84.res) := by kernel_rfl
theorem ft84 : c84.fit = true := by kernel_rfl
def r85 := w (qFunc Tryz.prog 85)
def a85 := w (an r85)
def c85l0 : CCode := wf (ml a85 [])
def c85 : CFun := (wf fun x0 => mk a85 false false [x0]) c85l0
theorem ok85 : comp Tryz.prog 85 c85.md = some (erase c85.body, c85.res) := by kernel_rfl
theorem ft85 : c85.fit = true := by kernel_rfl
def r86 := w (qFunc Tryz.prog 86)
def a86 := w (an r86)
def c86 : CFun := wf (mk a86 false false [])
theorem ok86 : comp Tryz.prog 86 c86.md = some (erase c86.body, c86.res) := by kernel_rfl
theorem ft86 : c86.fit = true := by kernel_rfl
def r87 := w (qFunc Tryz.prog 87)
def a87 := w (an r87)
def c87 : CFun := wf (mk a87 false false [])
theorem ok87 : comp Tryz.prog 87 c87.md = some (erase c87.body, c87.res) := by kernel_rfl
theorem ft87 : c87.fit = true := by kernel_rfl
def r88 := w (qFunc Tryz.prog 88)
def a88 := w (an r88)
def c88 : CFun := wf (mk a88 false false [])
theorem ok88 : comp Tryz.prog 88 c88.md = some (erase c88.body, c88.res) := by kernel_rfl
theorem ft88 : c88.fit = true := by kernel_rfl
def r89 := w (qFunc Tryz.prog 89)
def a89 := w (an r89)
def c89 : CFun := wf (mk a89 false false [])
theorem ok89 : comp Tryz.prog 89 c89.md = some (erase c89.body, c89.res) := by kernel_rfl
theorem ft89 : c89.fit = true := by kernel_rfl
end
end Go.Proofs.Z
end
section
namespace Go.Proofs.Z
open Go Go.Proofs
set_option maxRecDepth 100000
set_option maxHeartbeats 1000000
noncomputable section
def r90 := w (qFunc Tryz.prog 90)
def a90 := w (an r90)
def c90l0 : CCode := wf (ml a90 [])
def c90 : CFun := (wf fun x0 => mk a90 false false [x0]) c90l0
theorem ok90 : comp Tryz.prog 90 c90.md = some (erase c90.body, c90.res) := by kernel_rfl
theorem ft90 : c90.fit = true := by kernel_rfl
def r91 := w (qFunc Tryz.prog 91)
def a91 := w (an r91)
def c91l0 : CCode := wf (ml a91 [])
def c91 : CFun := (wf fun x0 => mk a91 false false [x0]) c91l0
theorem ok91 : comp Tryz.prog 91 c91.md = some (erase c91.body, c91.res) := by kernel_rfl
theorem ft91 : c91.fit = true := by kernel_rfl
def r92 := w (qFunc Tryz.prog 92)
def a92 := w (an r92)
def c92 : CFun := wf (mk a92 false false [])
theorem ok92 : comp Tryz.prog 92 c92.md = some (erase c92.body, c92.res) := by kernel_rfl
theorem ft92 : c92.fit = true := by kernel_rfl
def r93 := w (qFunc Tryz.prog 93)
def a93 := w (an r93)
def c93 : CFun := wf (mk a93 false false [])
theorem ok93 : comp Tryz.prog 93 c93.md = some (erase c93.body, c93.res) := by kernel_rfl
theorem ft93 : c93.fit = true := by kernel_rfl
def r94 := w (qFunc Tryz.prog 94)
def a94 := w (an r94)
def c94l0 : CCode := wf (ml a94 [])
def c94 : CFun := (wf fun x0 => mk a94 false false [x0]) c94l0
theorem ok94 : comp Tryz.prog 94 c94.md = some (erase c94.body, c94.res) := by kernel_rfl
theorem ft94 : c94.fit = true := by kernel_rfl
def r95 := w (qFunc Tryz.prog 95)
def a95 := w (an r95)
def c95 : CFun := wf (mk a95 false false [])
theorem ok95 : comp Tryz.prog 95 c95.md = some (erase c95.body, c95.res) := by kernel_rfl
theorem ft95 : c95.fit = true := by kernel_rfl
def r96 := w (qFunc Tryz.prog 96)
def a96 := w (an r96)
def c96l0 : CCode := wf (ml a96 [])
def c96 : CFun := (wf fun x0 => mk a96 false false [x0]) c96l0
theorem ok96 : comp Tryz.prog 96 c96.md = some (erase c96.body, c96.res) := by kernel_rfl
theorem ft96 : c96.fit = true := by kernel_rfl
def r97 := w (qFunc Tryz.prog 97)
def a97 := w (an r97)
def c97 : CFun := wf (mk a97 false false [])
theorem ok97 : comp Tryz.prog 97 c97.md = some (erase c97.body, c97.res) := by kernel_rfl
theorem ft97 : c97.fit = true := by kernel_rfl
def r98 := w (qFunc Tryz.prog 98)
def a98 := w (an r98)
def c98 : CFun := wf (mk a98 false false [])
theorem ok98 : comp Tryz.prog 98 c98.md = some (erase c98.body, c98.res) := by kernel_rfl
theorem ft98 : c98.fit = true := by kernel_rfl
def r99 := w (qFunc Tryz.prog 99)
def a99 := w (an r99)
def c99 : CFun := wf (mk a99 false false [])
theorem ok99 : comp Tryz.prog 99 c99.md = some (erase c99.body, c99.res) := by kernel_rfl
theorem ft99 : c99.fit = true := by kernel_rfl
def r100 := w (qFunc Tryz.prog 100)
def a100 := w (an r100)
def c100 : CFun := wf (mk a100 false false [])
theorem ok100 : comp Tryz.prog 100 c100.md = some (erase c100.body, c100.res) := by kernel_rfl
theorem ft100 : c100.fit = true := by kernel_rfl
def r101 := w (qFunc Tryz.prog 101)
def a101 := w (an r101)
def c101l0 : CCode := wf (ml a101 [])
def c101l1 : CCode := (wf fun x0 => ml a101 [x0]) c101l0
def c101 : CFun := (wf fun x0 x1 => mk a101 false false [x0, x1]) c101l0 c101l1
theorem ok101 : comp Tryz.prog 101 c101.md = some (erase c101.body, c101.res) := by kernel_rfl
theorem ft101 : c101.fit = true := by kernel_rfl
def r102 := w (qFunc Tryz.prog 102)
def a102 := w (an r102)
def c102 : CFun := wf (mk a102 false false [])
theorem ok102 : comp Tryz.prog 102 c102.md = some (erase c102.body, c102.res) := by kernel_rfl
theorem ft102 : c102.fit = true := by kernel_rfl
def r103 := w (qFunc Tryz.prog 103)
def a103 := w (an r103)
def c103l0 : CCode := wf (ml a103 [])
def c103 : CFun := (wf fun x0 => mk a103 false false [x0]) c103l0
theorem ok103 : comp Tryz.prog 103 c103.md = some (erase c103.body, c103.res) := by kernel_rfl
theorem ft103 : c103.fit = true := by kernel_rfl
def r104 := w (qFunc Tryz.prog 104)
def a104 := w (an r104)
def c104l0 : CCode := wf (ml a104 [])
def c104 : CFun := (wf fun x0 => mk a104 false false [x0]) c104l0
theorem ok104 : comp Tryz.prog 104 c104.md = some (erase c104.body, c104.res) := by kernel_rfl
theorem ft104 : c104.fit = true := by kernel_rfl
def r105 := w (qFunc Tryz.prog 105)
def a105 := w (an r105)
def c105 : CFun := wf (mk a105 false false [])
theorem ok105 : comp Tryz.prog 105 c105.md = some (erase c105.body, c105.res) := by kernel_rfl
theorem ft105 : c105.fit = true := by kernel_rfl
def r106 := w (qFunc Tryz.prog 106)
def a106 := w (an r106)
def c106l0 : CCode := wf (ml a106 [])
def c106 : CFun := (wf fun x0 => mk a106 false false [x0]) c106l0
theorem ok106 : comp Tryz.prog 106 c106.md = some (erase c106.body, c106.res) := by kernel_rfl
theorem ft106 : c106.fit = true := by kernel_rfl
def r107 := w (qFunc Tryz.prog 107)
def a107 := w (an r107)
def c107 : CFun := wf (mk a107 false false [])
theorem ok107 : comp Tryz.prog 107 c107.md = some (erase c107.body, c107.res) := by kernel_rfl
theorem ft107 : c107.fit = true := by kernel_rfl
def r108 := w (qFunc Tryz.prog 108)
def a108 := w (an r108)
def c108l0 : CCode := wf (ml a108 [])
def c108 : CFun := (wf fun x0 => mk a108 false false [x0]) c108l0
theorem ok108 : comp Tryz.prog 108 c108.md = some (erase c108.body, c108.res) := by kernel_rfl
theorem ft108 : c108.fit = true := by kernel_rfl
def r109 := w (qFunc Tryz.prog 109)
def a109 := w (an r109)
def c109l0 : CCode := wf (ml a109 [])
def c109 : CFun := (wf fun x0 => mk a109 false false [x0]) c109l0
theorem ok109 : comp Tryz.prog 109 c109.md = some (erase c109.body, c109.res) := by kernel_rfl
theorem ft109 : c109.fit = true := by kernel_rfl
def r110 := w (qFunc Tryz.prog 110)
def a110 := w (an r110)
def c110l0 : CCode := wf (ml a110 [])
def c110 : CFun := (wf fun x0 => mk a110 false false [x0]) c110l0
theorem ok110 : comp Tryz.prog 110 c110.md = some (erase c110.body, c110.res) := by kernel_rfl
theorem ft110 : c110.fit = true := by kernel_rfl
def r111 := w (qFunc Tryz.prog 111)
def a111 := w (an r111)
def c111l0 : CCode := wf (ml a111 [])
def c111 : CFun := (wf fun x0 => mk a111 false false [x0]) c111l0
theorem ok111 : comp Tryz.prog 111 c111.md = some (erase c111.body, c111.res) := by kernel_rfl
theorem ft111 : c111.fit = true := by kernel_rfl
def r112 := w (qFunc Tryz.prog 112)
def a112 := w (an r112)
def c112l0 : CCode := wf (ml a112 [])
def c112 : CFun := (wf fun x0 => mk a112 false false [x0]) c112l0
theorem ok112 : comp Tryz.prog 112 c112.md = some (erase c112.body, c112.res) := by kernel_rfl
theorem ft112 : c112.fit = true := by kernel_rfl
def r113 := w (qFunc Tryz.prog 113)
def a113 := w (an r113)
def c113 : CFun := wf (mk a113 false false [])
theorem ok113 : comp Tryz.prog 113 c113.md = some (erase c113.body, c113.res) := by kernel_rfl
theorem ft113 : c113.fit = true := by kernel_rfl
def r114 := w (qFunc Tryz.prog 114)
def a114 := w (an r114)
def c114 : CFun := wf (mk a114 false false [])
theorem ok114 : comp Tryz.prog 114 c114.md = some (erase c114.body, c114.res) := by kernel_rfl
theorem ft114 : c114.fit = true := by kernel_rfl
def r115 := w (qFunc Tryz.prog 115)
def a115 := w (an r115)
def c115l0 : CCode := wf (ml a115 [])
def c115 : CFun := (wf fun x0 => mk a115 false false [x0]) c115l0
theorem ok115 : comp Tryz.prog 115 c115.md = some (erase c115.body, c115.res) := by kernel_rfl
theorem ft115 : c115.fit = true := by kernel_rfl
def r116 := w (qFunc Tryz.prog 116)
def a116 := w (an r116)
def c116 : CFun := wf (mk a116 false false [])
theorem ok116 : comp Tryz.prog 116 c116.md = some (erase c116.body, c116.res) := by kernel_rfl
theorem ft116 : c116.fit = true := by kernel_rfl
def r117 := w (qFunc Tryz.prog 117)
def a117 := w (an r117)
def c117l0 : CCode := wf (ml a117 [])
def c117 : CFun := (wf fun x0 => mk a117 false false [x0]) c117l0
theorem ok117 : comp Tryz.prog 117 c117.md = some (erase c117.body, c117.res) := by kernel_rfl
theorem ft117 : c117.fit = true := by kernel_rfl
def r118 := w (qFunc Tryz.prog 118)
def a118 := w (an r118)
def c118 : CFun := wf (mk a118 false false [])
theorem ok118 : comp Tryz.prog 118 c118.md = some (erase c118.body, c118.res) := by kernel_rfl
theorem ft118 : c118.fit = true := by kernel_rfl
def r119 := w (qFunc Tryz.prog 119)
def a119 := w (an r119)
def c119l0 : CCode := wf (ml a119 [])
def c119 : CFun := (wf fun x0 => mk a119 false false [x0]) c119l0
theorem ok119 : comp Tryz.prog 119 c119.md = some (erase c119.body, c119.res) := by kernel_rfl
theorem ft119 : c119.fit = true := by kernel_rfl
def r120 := w (qFunc Tryz.prog 120)
def a120 := w (an r120)
def c120l0 : CCode := wf (ml a120 [])
def c120 : CFun := (wf fun x0 => mk a120 false false [x0]) c120l0
theorem ok120 : comp Tryz.prog 120 c120.md = some (erase c120.body, c120.res) := by kernel_rfl
theorem ft120 : c120.fit = true := by kernel_rfl
def r121 := w (qFunc Tryz.prog 121)
def a121 := w (an r121)
def c121l0 : CCode := wf (ml a121 [])
def c121 : CFun := (wf fun x0 => mk a121 false false [x0]) c121l0
theorem ok121 : comp Tryz.prog 121 c121.md = some (erase c121.body, c121.res) := by kernel_rfl
theorem ft121 : c121.fit = true := by kernel_rfl
def r122 := w (qFunc Tryz.prog 122)
def a122 := w (an r122)
def c122 : CFun := wf (mk a122 false false [])
theorem ok122 : comp Tryz.prog 122 c122.md = some (erase c122.body, c122.res) := by kernel_rfl
theorem ft122 : c122.fit = true := by kernel_rfl
def r123 := w (qFunc Tryz.prog 123)
def a123 := w (an r123)
def c123 : CFun := wf (mk a123 false false [])
theorem ok123 : comp Tryz.prog 123 c123.md = some (erase c123.body, c123.res) := by kernel_rfl
theorem ft123 : c123.fit = true := by kernel_rfl
def r124 := w (qFunc Tryz.prog 124)
def a124 := w (an r124)
def c124 : CFun := wf (mk a124 false false [])
theorem ok124 : comp Tryz.prog 124 c124.md = some (erase c124.body, c124.res) := by kernel_rfl
theorem ft124 : c124.fit = true := by kernel_rfl
def r125 := w (qFunc Tryz.prog 125)
def a125 := w (an r125)
def c125 : CFun := wf (mk a125 false false [])
theorem ok125 : comp Tryz.prog 125 c125.md = some (erase c125.body, c125.res) := by kernel_rfl
theorem ft125 : c125.fit = true := by kernel_rfl
def r126 := w (qFunc Tryz.prog 126)
def a126 := w (an r126)
def c126l0 : CCode := wf (ml a126 [])
def c126 : CFun := (wf fun x0 => mk a126 false true [x0]) c126l0
theorem ok126 : comp Tryz.prog 126 c126.md = some (erase c126.body, c126.res) := by kernel_rfl
theorem ft126 : c126.fit = true := by kernel_rfl
def r128 := w (qFunc Tryz.prog 128)
def a128 := w (an r128)
def c128 : CFun := wf (mk a128 false false [])
theorem ok128 : comp Tryz.prog 128 c128.md = some (erase c128.body, c128.res) := by kernel_rfl
theorem ft128 : c128.fit = true := by kernel_rfl
def r129 := w (qFunc Tryz.prog 129)
def a129 := w (an r129)
def c129 : CFun := wf (mk a129 false false [])
theorem ok129 : comp Tryz.prog 129 c129.md = some (erase c129.body, c129.res) := by kernel_rfl
theorem ft129 : c129.fit = true := by kernel_rfl
def r130 := w (qFunc Tryz.prog 130)
def a130 := w (an r130)
def c130 : CFun := wf (mk a130 false false [])
theorem ok130 : comp Tryz.prog 130 c130.md = some (erase c130.body, c130.res) := by kernel_rfl
theorem ft130 : c130.fit = true := by kernel_rfl
end
end Go.Proofs.Z
end
section
namespace Go.Proofs.Z
open Go Go.Proofs
set_option maxRecDepth 100000
set_option maxHeartbeats 1000000
noncomputable section
def r131 := w (qFunc Tryz.prog 131)
def a131 := w (an r131)
def c131 : CFun := wf (mk a131 false false [])
theorem ok131 : comp Tryz.prog 131 c131.md = some (erase c131.body, c131.res) := by kernel_rfl
theorem ft131 : c131.fit = true := by kernel_rfl
def r132 := w (qFunc Tryz.prog 132)
def a132 := w (an r132)
def c132 : CFun := wf (mk a132 false false [])
theorem ok132 : comp Tryz.prog 132 c132.md = some (erase c132.body, c132.res) := by kernel_rfl
theorem ft132 : c132.fit = true := by kernel_rfl
def r133 := w (qFunc Tryz.prog 133)
def a133 := w (an r133)
def c133 : CFun := wf (mk a133 false false [])
theorem ok133 : comp Tryz.prog 133 c133.md = some (erase c133.body, c133.res) := by kernel_rfl
theorem ft133 : c133.fit = true := by kernel_rfl
def r135 := w (qFunc Tryz.prog 135)
def a135 := w (an r135)
def c135 : CFun := wf (mk a135 false true [])
theorem ok135 : comp Tryz.prog 135 c135.md = some (erase c135.body, c135.res) := by kernel_rfl
theorem ft135 : c135.fit = true := by kernel_rfl
def r137 := w (qFunc Tryz.prog 137)
def a137 := w (an r137)
def c137 : CFun := wf (mk a137 false false [])
theorem ok137 : comp Tryz.prog 137 c137.md = some (erase c137.body, c137.res) := by kernel_rfl
theorem ft137 : c137.fit = true := by kernel_rfl
def r138 := w (qFunc Tryz.prog 138)
def a138 := w (an r138)
def c138 : CFun := wf (mk a138 false false [])
theorem ok138 : comp Tryz.prog 138 c138.md = some (erase c138.body, c138.res) := by kernel_rfl
theorem ft138 : c138.fit = true := by kernel_rfl
def r139 := w (qFunc Tryz.prog 139)
def a139 := w (an r139)
def c139l0 : CCode := wf (ml a139 [])
def c139 : CFun := (wf fun x0 => mk a139 false false [x0]) c139l0
theorem ok139 : comp Tryz.prog 139 c139.md = some (erase c139.body, c139.res) := by kernel_rfl
theorem ft139 : c139.fit = true := by kernel_rfl
def r140 := w (qFunc Tryz.prog 140)
def a140 := w (an r140)
def c140l0 : CCode := wf (ml a140 [])
def c140 : CFun := (wf fun x0 => mk a140 false false [x0]) c140l0
theorem ok140 : comp Tryz.prog 140 c140.md = some (erase c140.body, c140.res) := by kernel_rfl
theorem ft140 : c140.fit = true := by kernel_rfl
def r141 := w (qFunc Tryz.prog 141)
def a141 := w (an r141)
def c141 : CFun := wf (mk a141 false false [])
theorem ok141 : comp Tryz.prog 141 c141.md = some (erase c141.body, c141.res) := by kernel_rfl
theorem ft141 : c141.fit = true := by kernel_rfl
def r142 := w (qFunc Tryz.prog 142)
def a142 := w (an r142)
def c142l0 : CCode := wf (ml a142 [])
def c142 : CFun := (wf fun x0 => mk a142 false false [x0]) c142l0
theorem ok142 : comp Tryz.prog 142 c142.md = some (erase c142.body, c142.res) := by kernel_rfl
theorem ft142 : c142.fit = true := by kernel_rfl
def r143 := w (qFunc Tryz.prog 143)
def a143 := w (an r143)
def c143l0 : CCode := wf (ml a143 [])
def c143l1 : CCode := (wf fun x0 => ml a143 [x0]) c143l0
def c143 : CFun := (wf fun x0 x1 => mk a143 false false [x0, x1]) c143l0 c143l1
theorem ok143 : comp Tryz.prog 143 c143.md = some (erase c143.body, c143.res) := by kernel_rfl
theorem ft143 : c143.fit = true := by kernel_rfl
def r144 := w (qFunc Tryz.prog 144)
def a144 := w (an r144)
def c144 : CFun := wf (mk a144 false false [])
theorem ok144 : comp Tryz.prog 144 c144.md = some (erase c144.body, c144.res) := by kernel_rfl
theorem ft144 : c144.fit = true := by kernel_rfl
def r145 := w (qFunc Tryz.prog 145)
def a145 := w (an r145)
def c145l0 : CCode := wf (ml a145 [])
def c145 : CFun := (wf fun x0 => mk a145 false false [x0]) c145l0
theorem ok145 : comp Tryz.prog 145 c145.md = some (erase c145.body, c145.res) := by kernel_rfl
theorem ft145 : c145.fit = true := by kernel_rfl
def r146 := w (qFunc Tryz.prog 146)
def a146 := w (an r146)
def c146l0 : CCode := wf (ml a146 [])
def c146 : CFun := (wf fun x0 => mk a146 false false [x0]) c146l0
theorem ok146 : comp Tryz.prog 146 c146.md = some (erase c146.body, c146.res) := by kernel_rfl
theorem ft146 : c146.fit = true := by kernel_rfl
def r147 := w (qFunc Tryz.prog 147)
def a147 := w (an r147)
def c147 : CFun := wf (mk a147 false false [])
theorem ok147 : comp Tryz.prog 147 c147.md = some (erase c147.body, c147.res) := by kernel_rfl
theorem ft147 : c147.fit = true := by kernel_rfl
def r148 := w (qFunc Tryz.prog 148)
def a148 := w (an r148)
def c148l0 : CCode := wf (ml a148 [])
def c148 : CFun := (wf fun x0 => mk a148 false false [x0]) c148l0
theorem ok148 : comp Tryz.prog 148 c148.md = some (erase c148.body, c148.res) := by kernel_rfl
theorem ft148 : c148.fit = true := by kernel_rfl
def r149 := w (qFunc Tryz.prog 149)
def a149 := w (an r149)
def c149 : CFun := wf (mk a149 false false [])
theorem ok149 : comp Tryz.prog 149 c149.md = some (erase c149.body, c149.res) := by kernel_rfl
theorem ft149 : c149.fit = true := by kernel_rfl
def r150 := w (qFunc Tryz.prog 150)
def a150 := w (an r150)
def c150l0 : CCode := wf (ml a150 [])
def c150 : CFun := (wf fun x0 => mk a150 false false [x0]) c150l0
theorem ok150 : comp Tryz.prog 150 c150.md = some (erase c150.body, c150.res) := by kernel_rfl
theorem ft150 : c150.fit = true := by kernel_rfl
def r151 := w (qFunc Tryz.prog 151)
def a151 := w (an r151)
def c151 : CFun := wf (mk a151 false false [])
theorem ok151 : comp Tryz.prog 151 c151.md = some (erase c151.body, c151.res) := by kernel_rfl
theorem ft151 : c151.fit = true := by kernel_rfl
def r152 := w (qFunc Tryz.prog 152)
def a152 := w (an r152)
def c152l0 : CCode := wf (ml a152 [])
def c152 : CFun := (wf fun x0 => mk a152 false false [x0]) c152l0
theorem ok152 : comp Tryz.prog 152 c152.md = some (erase c152.body, c152.res) := by kernel_rfl
theorem ft152 : c152.fit = true := by kernel_rfl
def r153 := w (qFunc Tryz.prog 153)
def a153 := w (an r153)
def c153 : CFun := wf (mk a153 false false [])
theorem ok153 : comp Tryz.prog 153 c153.md = some (erase c153.body, c153.res) := by kernel_rfl
theorem ft153 : c153.fit = true := by kernel_rfl
def r154 := w (qFunc Tryz.prog 154)
def a154 := w (an r154)
def c154 : CFun := wf (mk a154 false false [])
theorem ok154 : comp Tryz.prog 154 c154.md = some (erase c154.body, c154.res) := by kernel_rfl
theorem ft154 : c154.fit = true := by kernel_rfl
def r155 := w (qFunc Tryz.prog 155)
def a155 := w (an r155)
def c155l0 : CCode := wf (ml a155 [])
def c155 : CFun := (wf fun x0 => mk a155 false false [x0]) c155l0
theorem ok155 : comp Tryz.prog 155 c155.md = some (erase c155.body, c155.res) := by kernel_rfl
theorem ft155 : c155.fit = true := by kernel_rfl
def r156 := w (qFunc Tryz.prog 156)
def a156 := w (an r156)
def c156 : CFun := wf (mk a156 false false [])
theorem ok156 : comp Tryz.prog 156 c156.md = some (erase c156.body, c156.res) := by kernel_rfl
theorem ft156 : c156.fit = true := by kernel_rfl
def r157 := w (qFunc Tryz.prog 157)
def a157 := w (an r157)
def c157l0 : CCode := wf (ml a157 [])
def c157l1 : CCode := (wf fun x0 => ml a157 [x0]) c157l0
def c157 : CFun := (wf fun x0 x1 => mk a157 false false [x0, x1]) c157l0 c157l1
theorem ok157 : comp Tryz.prog 157 c157.md = some (erase c157.body, c157.res) := by kernel_rfl
theorem ft157 : c157.fit = true := by kernel_rfl
def r158 := w (qFunc Tryz.prog 158)
def a158 := w (an r158)
def c158 : CFun := wf (mk a158 false false [])
theorem ok158 : comp Tryz.prog 158 c158.md = some (erase c158.body, c158.res) := by kernel_rfl
theorem ft158 : c158.fit = true := by kernel_rfl
def r159 := w (qFunc Tryz.prog 159)
def a159 := w (an r159)
def c159l0 : CCode := wf (ml a159 [])
def c159 : CFun := (wf fun x0 => mk a159 false false [x0]) c159l0
theorem ok159 : comp Tryz.prog 159 c159.md = some (erase c159.body, c159.res) := by kernel_rfl
theorem ft159 : c159.fit = true := by kernel_rfl
def r160 := w (qFunc Tryz.prog 160)
def a160 := w (an r160)
def c160 : CFun := wf (mk a160 false false [])
theorem ok160 : comp Tryz.prog 160 c160.md = some (erase c160.body, c160.res) := by kernel_rfl
theorem ft160 : c160.fit = true := by kernel_rfl
def r161 := w (qFunc Tryz.prog 161)
def a161 := w (an r161)
def c161l0 : CCode := wf (ml a161 [])
def c161 : CFun := (wf fun x0 => mk a161 false false [x0]) c161l0
theorem ok161 : comp Tryz.prog 161 c161.md = some (erase c161.body, c161.res) := by kernel_rfl
theorem ft161 : c161.fit = true := by kernel_rfl
def r162 := w (qFunc Tryz.prog 162)
def a162 := w (an r162)
def c162l0 : CCode := wf (ml a162 [])
def c162 : CFun := (wf fun x0 => mk a162 false false [x0]) c162l0
theorem ok162 : comp Tryz.prog 162 c162.md = some (erase c162.body, c162.res) := by kernel_rfl
theorem ft162 : c162.fit = true := by kernel_rfl
def r163 := w (qFunc Tryz.prog 163)
def a163 := w (an r163)
def c163l0 : CCode := wf (ml a163 [])
def c163 : CFun := (wf fun x0 => mk a163 false false [x0]) c163l0
theorem ok163 : comp Tryz.prog 163 c163.md = some (erase c163.body, c163.res) := by kernel_rfl
theorem ft163 : c163.fit = true := by kernel_rfl
def r164 := w (qFunc Tryz.prog 164)
def a164 := w (an r164)
def c164l0 : CCode := wf (ml a164 [])
def c164 : CFun := (wf fun x0 => mk a164 false false [x0]) c164l0
theorem ok164 : comp Tryz.prog 164 c164.md = some (erase c164.body, c164.res) := by kernel_rfl
theorem ft164 : c164.fit = true := by kernel_rfl
def r165 := w (qFunc Tryz.prog 165)
def a165 := w (an r165)
def c165l0 : CCode := wf (ml a165 [])
def c165 : CFun := (wf fun x0 => mk a165 false false [x0]) c165l0
theorem ok165 : comp Tryz.prog 165 c165.md = some (erase c165.body, c165.res) := by kernel_rfl
theorem ft165 : c165.fit = true := by kernel_rfl
def r166 := w (qFunc Tryz.prog 166)
def a166 := w (an r166)
def c166 : CFun := wf (mk a166 false false [])
theorem ok166 : comp Tryz.prog 166 c166.md = some (erase c166.body, c166.res) := by kernel_rfl
theorem ft166 : c166.fit = true := by kernel_rfl
def r167 := w (qFunc Tryz.prog 167)
def a167 := w (an r167)
def c167 : CFun := wf (mk a167 false false [])
theorem ok167 : comp Tryz.prog 167 c167.md = some (erase c167.body, c167.res) := by kernel_rfl
theorem ft167 : c167.fit = true := by kernel_rfl
def r168 := w (qFunc Tryz.prog 168)
def a168 := w (an r168)
def c168l0 : CCode := wf (ml a168 [])
def c168 : CFun := (wf fun x0 => mk a168 false false [x0]) c168l0
theorem ok168 : comp Tryz.prog 168 c168.md = some (erase c168.body, c168.res) := by kernel_rfl
theorem ft168 : c168.fit = true := by kernel_rfl
def r169 := w (qFunc Tryz.prog 169)
def a169 := w (an r169)
def c169 : CFun := wf (mk a169 false false [])
theorem ok169 : comp Tryz.prog 169 c169.md = some (erase c169.body, c169.res) := by kernel_rfl
theorem ft169 : c169.fit = true := by kernel_rfl
def r170 := w (qFunc Tryz.prog 170)
def a170 := w (an r170)
def c170 : CFun := wf (mk a170 false false [])
theorem ok170 : comp Tryz.prog 170 c170.md = some (erase c170.body, c170.res) := by kernel_rfl
theorem ft170 : c170.fit = true := by kernel_rfl
def r171 := w (qFunc Tryz.prog 171)
def a171 := w (an r171)
def c171 : CFun := wf (mk a171 false false [])
theorem ok171 : comp Tryz.prog 171 c171.md = some (erase c171.body, c171.res) := by kernel_rfl
theorem ft171 : c171.fit = true := by kernel_rfl
def r172 := w (qFunc Tryz.prog 172)
def a172 := w (an r172)
def c172 : CFun := wf (mk a172 false false [])
theorem ok172 : comp Tryz.prog 172 c172.md = some (erase c172.body, c172.res) := by kernel_rfl
theorem ft172 : c172.fit = true := by kernel_rfl
end
end Go.Proofs.Z
end
section
namespace Go.Proofs.Z
open Go Go.Proofs
set_option maxRecDepth 100000
set_option maxHeartbeats 1000000
noncomputable section
def r173 := w (qFunc Tryz.prog 173)
def a173 := w (an r173)
def c173 : CFun := wf (mk a173 false false [])
theorem ok173 : comp Tryz.prog 173 c173.md = some (erase c173.body, c173.res) := by kernel_rfl
theorem ft173 : c173.fit = true := by kernel_rfl
def r174 := w (qFunc Tryz.prog 174)
def a174 := w (an r174)
def c174l0 : CCode := wf (ml a174 [])
def c174 : CFun := (wf fun x0 => mk a174 false false [x0]) c174l0
theorem ok174 : comp Tryz.prog 174 c174.md = some (erase c174.body, c174.res) := by kernel_rfl
theorem ft174 : c174.fit = true := by kernel_rfl
def r175 := w (qFunc Tryz.prog 175)
def a175 := w (an r175)
def c175 : CFun := wf (mk a175 false false [])
theorem ok175 : comp Tryz.prog 175 c175.md = some (erase c175.body, c175.res) := by kernel_rfl
theorem ft175 : c175.fit = true := by kernel_rfl
def r176 := w (qFunc Tryz.prog 176)
def a176 := w (an r176)
def c176 : CFun := wf (mk a176 false false [])
theorem ok176 : comp Tryz.prog 176 c176.md = some (erase c176.body, c176.res) := by kernel_rfl
theorem ft176 : c176.fit = true := by kernel_rfl
def r177 := w (qFunc Tryz.prog 177)
def a177 := w (an r177)
def c177 : CFun := wf (mk a177 false false [])
theorem ok177 : comp Tryz.prog 177 c177.md = some (erase c177.body, c177.res) := by kernel_rfl
theorem ft177 : c177.fit = true := by kernel_rfl
def r178 := w (qFunc Tryz.prog 178)
def a178 := w (an r178)
def c178 : CFun := wf (mk a178 false true [])
theorem ok178 : comp Tryz.prog 178 c178.md = some (erase c178.body, c178.res) := by kernel_rfl
theorem ft178 : c178.fit = true := by kernel_rfl
def r179 := w (qFunc Tryz.prog 179)
def a179 := w (an r179)
def c179 : CFun := wf (mk a179 false false [])
theorem ok179 : comp Tryz.prog 179 c179.md = some (erase c179.body, c179.res) := by kernel_rfl
theorem ft179 : c179.fit = true := by kernel_rfl
def r180 := w (qFunc Tryz.prog 180)
def a180 := w (an r180)
def c180 : CFun := wf (mk a180 false false [])
theorem ok180 : comp Tryz.prog 180 c180.md = some (erase c180.body, c180.res) := by kernel_rfl
theorem ft180 : c180.fit = true := by kernel_rfl
def r181 := w (qFunc Tryz.prog 181)
def a181 := w (an r181)
def c181l0 : CCode := wf (ml a181 [])
def c181 : CFun := (wf fun x0 => mk a181 false false [x0]) c181l0
theorem ok181 : comp Tryz.prog 181 c181.md = some (erase c181.body, c181.res) := by kernel_rfl
theorem ft181 : c181.fit = true := by kernel_rfl
def r182 := w (qFunc Tryz.prog 182)
def a182 := w (an r182)
def c182 : CFun := wf (mk a182 true false [])
theorem ok182 : comp Tryz.prog 182 c182.md = some (erase c182.body, c182.res) := by kernel_rfl
theorem ft182 : c182.fit = true := by kernel_rfl
def r183 := w (qFunc Tryz.prog 183)
def a183 := w (an r183)
def c183 : CFun := wf (mk a183 false false [])
theorem ok183 : comp Tryz.prog 183 c183.md = some (erase c183.body, c183.res) := by kernel_rfl
theorem ft183 : c183.fit = true := by kernel_rfl
def r184 := w (qFunc Tryz.prog 184)
def a184 := w (an r184)
def c184l0 : CCode := wf (ml a184 [])
def c184 : CFun := (wf fun x0 => mk a184 false false [x0]) c184l0
theorem ok184 : comp Tryz.prog 184 c184.md = some (erase c184.body, c184.res) := by kernel_rfl
theorem ft184 : c184.fit = true := by kernel_rfl
def r185 := w (qFunc Tryz.prog 185)
def a185 := w (an r185)
def c185 : CFun := wf (mk a185 false false [])
theorem ok185 : comp Tryz.prog 185 c185.md = some (erase c185.body, c185.res) := by kernel_rfl
theorem ft185 : c185.fit = true := by kernel_rfl
def r186 := w (qFunc Tryz.prog 186)
def a186 := w (an r186)
def c186 : CFun := wf (mk a186 false false [])
theorem ok186 : comp Tryz.prog 186 c186.md = some (erase c186.body, c186.res) := by kernel_rfl
theorem ft186 : c186.fit = true := by kernel_rfl
def r187 := w (qFunc Tryz.prog 187)
def a187 := w (an r187)
def c187 : CFun := wf (mk a187 false false [])
theorem ok187 : comp Tryz.prog 187 c187.md = some (erase c187.body, c187.res) := by kernel_rfl
theorem ft187 : c187.fit = true := by kernel_rfl
def r188 := w (qFunc Tryz.prog 188)
def a188 := w (an r188)
def c188 : CFun := wf (mk a188 false false [])
theorem ok188 : comp Tryz.prog 188 c188.md = some (erase c188.body, c188.res) := by kernel_rfl
theorem ft188 : c188.fit = true := by kernel_rfl
def r189 := w (qFunc Tryz.prog 189)
def a189 := w (an r189)
def c189l0 : CCode := wf (ml a189 [])
def c189 : CFun := (wf fun x0 => mk a189 false false [x0]) c189l0
theorem ok189 : comp Tryz.prog 189 c189.md = some (erase c189.body, c189.res) := by kernel_rfl
theorem ft189 : c189.fit = true := by kernel_rfl
def r190 := w (qFunc Tryz.prog 190)
def a190 := w (an r190)
def c190l0 : CCode := wf (ml a190 [])
def c190 : CFun := (wf fun x0 => mk a190 false false [x0]) c190l0
theorem ok190 : comp Tryz.prog 190 c190.md = some (erase c190.body, c190.res) := by kernel_rfl
theorem ft190 : c190.fit = true := by kernel_rfl
def r192 := w (qFunc Tryz.prog 192)
def a192 := w (an r192)
def c192 : CFun := wf (mk a192 false false [])
theorem ok192 : comp Tryz.prog 192 c192.md = some (erase c192.body, c192.res) := by kernel_rfl
theorem ft192 : c192.fit = true := by kernel_rfl
def r197 := w (qFunc Tryz.prog 197)
def a197 := w (an r197)
def c197l0 : CCode := wf (ml a197 [])
def c197 : CFun := (wf fun x0 => mk a197 false false [x0]) c197l0
theorem ok197 : comp Tryz.prog 197 c197.md = some (erase c197.body, c197.res) := by kernel_rfl
theorem ft197 : c197.fit = true := by kernel_rfl
def r198 := w (qFunc Tryz.prog 198)
def a198 := w (an r198)
def c198l0 : CCode := wf (ml a198 [])
def c198 : CFun := (wf fun x0 => mk a198 false false [x0]) c198l0
theorem ok198 : comp Tryz.prog 198 c198.md = some (erase c198.body, c198.res) := by kernel_rfl
theorem ft198 : c198.fit = true := by kernel_rfl
def r199 := w (qFunc Tryz.prog 199)
def a199 := w (an r199)
def c199l0 : CCode := wf (ml a199 [])
def c199l1 : CCode := (wf fun x0 => ml a199 [x0]) c199l0
def c199 : CFun := (wf fun x0 x1 => mk a199 false false [x0, x1]) c199l0 c199l1
theorem ok199 : comp Tryz.prog 199 c199.md = some (erase c199.body, c199.res) := by kernel_rfl
theorem ft199 : c199.fit = true := by kernel_rfl
def r200 := w (qFunc Tryz.prog 200)
def a200 := w (an r200)
def c200 : CFun := wf (mk a200 false true [])
theorem ok200 : comp Tryz.prog 200 c200.md = some (erase c200.body, c200.res) := by kernel_rfl
theorem ft200 : c200.fit = true := by kernel_rfl
def r201 := w (qFunc Tryz.prog 201)
def a201 := w (an r201)
def c201 : CFun := wf (mk a201 false true [])
theorem ok201 : comp Tryz.prog 201 c201.md = some (erase c201.body, c201.res) := by kernel_rfl
theorem ft201 : c201.fit = true := by kernel_rfl
def r202 := w (qFunc Tryz.prog 202)
def a202 := w (an r202)
def c202 : CFun := wf (mk a202 false false [])
theorem ok202 : comp Tryz.prog 202 c202.md = some (erase c202.body, c202.res) := by kernel_rfl
theorem ft202 : c202.fit = true := by kernel_rfl
def r203 := w (qFunc Tryz.prog 203)
def a203 := w (an r203)
def c203 : CFun := wf (mk a203 false true [])
theorem ok203 : comp Tryz.prog 203 c203.md = some (erase c203.body, c203.res) := by kernel_rfl
theorem ft203 : c203.fit = true := by kernel_rfl
def r204 := w (qFunc Tryz.prog 204)
def a204 := w (an r204)
def c204 : CFun := wf (mk a204 false false [])
theorem ok204 : comp Tryz.prog 204 c204.md = some (erase c204.body, c204.res) := by kernel_rfl
theorem ft204 : c204.fit = true := by kernel_rfl
def r205 := w (qFunc Tryz.prog 205)
def a205 := w (an r205)
def c205l0 : CCode := wf (ml a205 [])
def c205 : CFun := (wf fun x0 => mk a205 false false [x0]) c205l0
theorem ok205 : comp Tryz.prog 205 c205.md = some (erase c205.body, c205.res) := by kernel_rfl
theorem ft205 : c205.fit = true := by kernel_rfl
def r206 := w (qFunc Tryz.prog 206)
def a206 := w (an r206)
def c206l0 : CCode := wf (ml a206 [])
def c206 : CFun := (wf fun x0 => mk a206 false false [x0]) c206l0
theorem ok206 : comp Tryz.prog 206 c206.md = some (erase c206.body, c206.res) := by kernel_rfl
theorem ft206 : c206.fit = true := by kernel_rfl
def r207 := w (qFunc Tryz.prog 207)
def a207 := w (an r207)
def c207 : CFun := wf (mk a207 false false [])
theorem ok207 : comp Tryz.prog 207 c207.md = some (erase c207.body, c207.res) := by kernel_rfl
theorem ft207 : c207.fit = true := by kernel_rfl
def r208 := w (qFunc Tryz.prog 208)
def a208 := w (an r208)
def c208 : CFun := wf (mk a208 false false [])
theorem ok208 : comp Tryz.prog 208 c208.md = some (erase c208.body, c208.res) := by kernel_rfl
theorem ft208 : c208.fit = true := by kernel_rfl
def r209 := w (qFunc Tryz.prog 209)
def a209 := w (an r209)
def c209 : CFun := wf (mk a209 false false [])
theorem ok209 : comp Tryz.prog 209 c209.md = some (erase c209.body, c209.res) := by kernel_rfl
theorem ft209 : c209.fit = true := by kernel_rfl
def r210 := w (qFunc Tryz.prog 210)
def a210 := w (an r210)
def c210l0 : CCode := wf (ml a210 [])
def c210 : CFun := (wf fun x0 => mk a210 false false [x0]) c210l0
theorem ok210 : comp Tryz.prog 210 c210.md = some (erase c210.body, c210.res) := by kernel_rfl
theorem ft210 : c210.fit = true := by kernel_rfl
def r213 := w (qFunc Tryz.prog 213)
def a213 := w (an r213)
def c213 : CFun := wf (mk a213 false false [])
theorem ok213 : comp Tryz.prog 213 c213.md = some (erase c213.body, c213.res) := by kernel_rfl
theorem ft213 : c213.fit = true := by kernel_rfl
def r215 := w (qFunc Tryz.prog 215)
def a215 := w (an r215)
def c215l0 : CCode := wf (ml a215 [])
def c215 : CFun := (wf fun x0 => mk a215 false false [x0]) c215l0
theorem ok215 : comp Tryz.prog 215 c215.md = some (erase c215.body, c215.res) := by kernel_rfl
theorem ft215 : c215.fit = true := by kernel_rfl
def r217 := w (qFunc Tryz.prog 217)
def a217 := w (an r217)
def c217 : CFun := wf (mk a217 false false [])
theorem ok217 : comp Tryz.prog 217 c217.md = some (erase c217.body, c217.res) := by kernel_rfl
theorem ft217 : c217.fit = true := by kernel_rfl
def r218 := w (qFunc Tryz.prog 218)
def a218 := w (an r218)
def c218 : CFun := wf (mk a218 false false [])
theorem ok218 : comp Tryz.prog 218 c218.md = some (erase c218.body, c218.res) := by kernel_rfl
theorem ft218 : c218.fit = true := by kernel_rfl
def r219 := w (qFunc Tryz.prog 219)
def a219 := w (an r219)
def c219 : CFun := wf (mk a219 false false [])
theorem ok219 : comp Tryz.prog 219 c219.md = some (erase c219.body, c219.res) := by kernel_rfl
theorem ft219 : c219.fit = true := by kernel_rfl
def r220 := w (qFunc Tryz.prog 220)
def a220 := w (an r220)
def c220 : CFun := wf (mk a220 false false [])
theorem ok220 : comp Tryz.prog 220 c220.md = some (erase c220.body, c220.res) := by kernel_rfl
theorem ft220 : c220.fit = true := by kernel_rfl
def r221 := w (qFunc Tryz.prog 221)
def a221 := w (an r221)
def c221l0 : CCode := wf (ml a221 [])
def c221l1 : CCode := (wf fun x0 => ml a221 [x0]) c221l0
def c221 : CFun := (wf fun x0 x1 => mk a221 false false [x0, x1]) c221l0 c221l1
theorem ok221 : comp Tryz.prog 221 c221.md = some (erase c221.body, c221.res) := by kernel_rfl
theorem ft221 : c221.fit = true := by kernel_rfl
end
end Go.Proofs.Z
end
