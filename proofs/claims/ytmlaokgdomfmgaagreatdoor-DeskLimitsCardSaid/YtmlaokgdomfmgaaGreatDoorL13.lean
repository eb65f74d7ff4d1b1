/- A part of the proof. -/
import Derived.Test.YtmlaokgdomfmgaaGreatDoorL10
import Derived.Test.YtmlaokgdomfmgaaGreatDoorProg
import Derived.Lib.LaidTab
import Derived.Lib.ItoaNum
import Derived.Lib.Space
import Derived.Test.YtmlaokgdomfmgaaGreatDoorL11
import Derived.Test.YtmlaokgdomfmgaaGreatDoorL12
import Derived.WalkKit
import Derived.LaidEql
import Derived.RowKitTokens
import Derived.Lib.Builder
import Derived.Lib.UnsafeStr
import Derived.Laws.Externs
import Derived.Lib.MakeNoZero
import Derived.Laws.BitsLemmas
import Derived.Below
set_option linter.all false
section
namespace Go.Proofs.Z
open Go Go.Proofs
set_option maxRecDepth 100000
set_option maxHeartbeats 1000000
noncomputable section
def r441 := w (qFunc Tryz.prog 441)
def a441 := w (an r441)
def c441 : CFun := wf (mk a441 false false [])
theorem ok441 : comp Tryz.prog 441 c441.md = some (erase c441.body, c441.res) := by kernel_rfl
theorem ft441 : c441.fit = true := by kernel_rfl
def r442 := w (qFunc Tryz.prog 442)
def a442 := w (an r442)
def c442 : CFun := wf (mk a442 false false [])
theorem ok442 : comp Tryz.prog 442 c442.md = some (erase c442.body, c442.res) := by kernel_rfl
theorem ft442 : c442.fit = true := by kernel_rfl
def r443 := w (qFunc Tryz.prog 443)
def a443 := w (an r443)
def c443 : CFun := wf (mk a443 false true [])
theorem ok443 : comp Tryz.prog 443 c443.md = some (erase c443.body, c443.res) := by kernel_rfl
theorem ft443 : c443.fit = true := by kernel_rfl
def r444 := w (qFunc Tryz.prog 444)
def a444 := w (an r444)
def c444 : CFun := wf (mk a444 false false [])
theorem ok444 : comp Tryz.prog 444 c444.md = some (erase c444.body, c444.res) := by kernel_rfl
theorem ft444 : c444.fit = true := by kernel_rfl
def r445 := w (qFunc Tryz.prog 445)
def a445 := w (an r445)
def c445l0 : CCode := wf (ml a445 [])
def c445l1 : CCode := (wf fun x0 => ml a445 [x0]) c445l0
def c445l2 : CCode := (wf fun x0 x1 => ml a445 [x0, x1]) c445l0 c445l1
def c445 : CFun := (wf fun x0 x1 x2 => mk a445 false false [x0, x1, x2]) c445l0 c445l1 c445l2
theorem ok445 : comp Tryz.prog 445 c445.md = some (erase c445.body, c445.res) := by kernel_rfl
theorem ft445 : c445.fit = true := by kernel_rfl
def r446 := w (qFunc Tryz.prog 446)
def a446 := w (an r446)
def c446 : CFun := wf (mk a446 false false [])
theorem ok446 : comp Tryz.prog 446 c446.md = some (erase c446.body, c446.res) := by kernel_rfl
theorem ft446 : c446.fit = true := by kernel_rfl
def r447 := w (qFunc Tryz.prog 447)
def a447 := w (an r447)
def c447l0 : CCode := wf (ml a447 [])
def c447 : CFun := (wf fun x0 => mk a447 false false [x0]) c447l0
theorem ok447 : comp Tryz.prog 447 c447.md = some (erase c447.body, c447.res) := by kernel_rfl
theorem ft447 : c447.fit = true := by kernel_rfl
def r448 := w (qFunc Tryz.prog 448)
def a448 := w (an r448)
def c448l0 : CCode := wf (ml a448 [])
def c448l1 : CCode := (wf fun x0 => ml a448 [x0]) c448l0
def c448 : CFun := (wf fun x0 x1 => mk a448 false false [x0, x1]) c448l0 c448l1
theorem ok448 : comp Tryz.prog 448 c448.md = some (erase c448.body, c448.res) := by kernel_rfl
theorem ft448 : c448.fit = true := by kernel_rfl
def r449 := w (qFunc Tryz.prog 449)
def a449 := w (an r449)
def c449 : CFun := wf (mk a449 false false [])
theorem ok449 : comp Tryz.prog 449 c449.md = some (erase c449.body, c449.res) := by kernel_rfl
theorem ft449 : c449.fit = true := by kernel_rfl
def r450 := w (qFunc Tryz.prog 450)
def a450 := w (an r450)
def c450 : CFun := wf (mk a450 false false [])
theorem ok450 : comp Tryz.prog 450 c450.md = some (erase c450.body, c450.res) := by kernel_rfl
theorem ft450 : c450.fit = true := by kernel_rfl
def r451 := w (qFunc Tryz.prog 451)
def a451 := w (an r451)
def c451 : CFun := wf (mk a451 false false [])
theorem ok451 : comp Tryz.prog 451 c451.md = some (erase c451.body, c451.res) := by kernel_rfl
theorem ft451 : c451.fit = true := by kernel_rfl
def r452 := w (qFunc Tryz.prog 452)
def a452 := w (an r452)
def c452 : CFun := wf (mk a452 false false [])
theorem ok452 : comp Tryz.prog 452 c452.md = some (erase c452.body, c452.res) := by kernel_rfl
theorem ft452 : c452.fit = true := by kernel_rfl
def r453 := w (qFunc Tryz.prog 453)
def a453 := w (an r453)
def c453 : CFun := wf (mk a453 false false [])
theorem ok453 : comp Tryz.prog 453 c453.md = some (erase c453.body, c453.res) := by kernel_rfl
theorem ft453 : c453.fit = true := by kernel_rfl
def r454 := w (qFunc Tryz.prog 454)
def a454 := w (an r454)
def c454 : CFun := wf (mk a454 false false [])
theorem ok454 : comp Tryz.prog 454 c454.md = some (erase c454.body, c454.res) := by kernel_rfl
theorem ft454 : c454.fit = true := by kernel_rfl
def r455 := w (qFunc Tryz.prog 455)
def a455 := w (an r455)
def c455 : CFun := wf (mk a455 false false [])
theorem ok455 : comp Tryz.prog 455 c455.md = some (erase c455.body, c455.res) := by kernel_rfl
theorem ft455 : c455.fit = true := by kernel_rfl
def r456 := w (qFunc Tryz.prog 456)
def a456 := w (an r456)
def c456 : CFun := wf (mk a456 false false [])
theorem ok456 : comp Tryz.prog 456 c456.md = some (erase c456.body, c456.res) := by kernel_rfl
theorem ft456 : c456.fit = true := by kernel_rfl
def r457 := w (qFunc Tryz.prog 457)
def a457 := w (an r457)
def c457l0 : CCode := wf (ml a457 [])
def c457 : CFun := (wf fun x0 => mk a457 false false [x0]) c457l0
theorem ok457 : comp Tryz.prog 457 c457.md = some (erase c457.body, c457.res) := by kernel_rfl
theorem ft457 : c457.fit = true := by kernel_rfl
def r458 := w (qFunc Tryz.prog 458)
def a458 := w (an r458)
def c458 : CFun := wf (mk a458 false false [])
theorem ok458 : comp Tryz.prog 458 c458.md = some (erase c458.body, c458.res) := by kernel_rfl
theorem ft458 : c458.fit = true := by kernel_rfl
def r459 := w (qFunc Tryz.prog 459)
def a459 := w (an r459)
def c459 : CFun := wf (mk a459 false false [])
theorem ok459 : comp Tryz.prog 459 c459.md = some (erase c459.body, c459.res) := by kernel_rfl
theorem ft459 : c459.fit = true := by kernel_rfl
def r460 := w (qFunc Tryz.prog 460)
def a460 := w (an r460)
def c460 : CFun := wf (mk a460 false false [])
theorem ok460 : comp Tryz.prog 460 c460.md = some (erase c460.body, c460.res) := by kernel_rfl
theorem ft460 : c460.fit = true := by kernel_rfl
def r462 := w (qFunc Tryz.prog 462)
def a462 := w (an r462)
def c462 : CFun := wf (mk a462 false false [])
theorem ok462 : comp Tryz.prog 462 c462.md = some (erase c462.body, c462.res) := by kernel_rfl
theorem ft462 : c462.fit = true := by kernel_rfl
def r463 := w (qFunc Tryz.prog 463)
def a463 := w (an r463)
def c463 : CFun := wf (mk a463 false false [])
theorem ok463 : comp Tryz.prog 463 c463.md = some (erase c463.body, c463.res) := by kernel_rfl
theorem ft463 : c463.fit = true := by kernel_rfl
def r466 := w (qFunc Tryz.prog 466)
def a466 := w (an r466)
def c466 : CFun := wf (mk a466 false false [])
theorem ok466 : comp Tryz.prog 466 c466.md = some (erase c466.body, c466.res) := by kernel_rfl
theorem ft466 : c466.fit = true := by kernel_rfl
def r467 := w (qFunc Tryz.prog 467)
def a467 := w (an r467)
def c467 : CFun := wf (mk a467 false false [])
theorem ok467 : comp Tryz.prog 467 c467.md = some (erase c467.body, c467.res) := by kernel_rfl
theorem ft467 : c467.fit = true := by kernel_rfl
def r468 := w (qFunc Tryz.prog 468)
def a468 := w (an r468)
def c468 : CFun := wf (mk a468 false false [])
theorem ok468 : comp Tryz.prog 468 c468.md = some (erase c468.body, c468.res) := by kernel_rfl
theorem ft468 : c468.fit = true := by kernel_rfl
def r469 := w (qFunc Tryz.prog 469)
def a469 := w (an r469)
def c469 : CFun := wf (mk a469 false false [])
theorem ok469 : comp Tryz.prog 469 c469.md = some (erase c469.body, c469.res) := by kernel_rfl
theorem ft469 : c469.fit = true := by kernel_rfl
def r470 := w (qFunc Tryz.prog 470)
def a470 := w (an r470)
def c470l0 : CCode := wf (ml a470 [])
def c470 : CFun := (wf fun x0 => mk a470 false false [x0]) c470l0
theorem ok470 : comp Tryz.prog 470 c470.md = some (erase c470.body, c470.res) := by kernel_rfl
theorem ft470 : c470.fit = true := by kernel_rfl
def r471 := w (qFunc Tryz.prog 471)
def a471 := w (an r471)
def c471 : CFun := wf (mk a471 false false [])
theorem ok471 : comp Tryz.prog 471 c471.md = some (erase c471.body, c471.res) := by kernel_rfl
theorem ft471 : c471.fit = true := by kernel_rfl
def r472 := w (qFunc Tryz.prog 472)
def a472 := w (an r472)
def c472 : CFun := wf (mk a472 false false [])
theorem ok472 : comp Tryz.prog 472 c472.md = some (erase c472.body, c472.res) := by kernel_rfl
theorem ft472 : c472.fit = true := by kernel_rfl
def r473 := w (qFunc Tryz.prog 473)
def a473 := w (an r473)
def c473 : CFun := wf (mk a473 false false [])
theorem ok473 : comp Tryz.prog 473 c473.md = some (erase c473.body, c473.res) := by kernel_rfl
theorem ft473 : c473.fit = true := by kernel_rfl
def r474 := w (qFunc Tryz.prog 474)
def a474 := w (an r474)
def c474l0 : CCode := wf (ml a474 [])
def c474 : CFun := (wf fun x0 => mk a474 false false [x0]) c474l0
theorem ok474 : comp Tryz.prog 474 c474.md = some (erase c474.body, c474.res) := by kernel_rfl
theorem ft474 : c474.fit = true := by kernel_rfl
def r475 := w (qFunc Tryz.prog 475)
def a475 := w (an r475)
def c475 : CFun := wf (mk a475 false false [])
theorem ok475 : comp Tryz.prog 475 c475.md = some (erase c475.body, c475.res) := by kernel_rfl
theorem ft475 : c475.fit = true := by kernel_rfl
def r476 := w (qFunc Tryz.prog 476)
def a476 := w (an r476)
def c476l0 : CCode := wf (ml a476 [])
def c476 : CFun := (wf fun x0 => mk a476 false false [x0]) c476l0
theorem ok476 : comp Tryz.prog 476 c476.md = some (erase c476.body, c476.res) := by kernel_rfl
theorem ft476 : c476.fit = true := by kernel_rfl
def r477 := w (qFunc Tryz.prog 477)
def a477 := w (an r477)
def c477l0 : CCode := wf (ml a477 [])
def c477 : CFun := (wf fun x0 => mk a477 false false [x0]) c477l0
theorem ok477 : comp Tryz.prog 477 c477.md = some (erase c477.body, c477.res) := by kernel_rfl
theorem ft477 : c477.fit = true := by kernel_rfl
def r478 := w (qFunc Tryz.prog 478)
def a478 := w (an r478)
def c478 : CFun := wf (mk a478 false false [])
theorem ok478 : comp Tryz.prog 478 c478.md = some (erase c478.body, c478.res) := by kernel_rfl
theorem ft478 : c478.fit = true := by kernel_rfl
def r479 := w (qFunc Tryz.prog 479)
def a479 := w (an r479)
def c479 : CFun := wf (mk a479 false false [])
theorem ok479 : comp Tryz.prog 479 c479.md = some (erase c479.body, c479.res) := by kernel_rfl
theorem ft479 : c479.fit = true := by kernel_rfl
def r480 := w (qFunc Tryz.prog 480)
def a480 := w (an r480)
def c480 : CFun := wf (mk a480 false false [])
theorem ok480 : comp Tryz.prog 480 c480.md = some (erase c480.body, c480.res) := by kernel_rfl
theorem ft480 : c480.fit = true := by kernel_rfl
def r482 := w (qFunc Tryz.prog 482)
def a482 := w (an r482)
def c482 : CFun := wf (mk a482 false false [])
theorem ok482 : comp Tryz.prog 482 c482.md = some (erase c482.body, c482.res) := by kernel_rfl
theorem ft482 : c482.fit = true := by kernel_rfl
def r483 := w (qFunc Tryz.prog 483)
def a483 := w (an r483)
def c483 : CFun := wf (mk a483 false false [])
theorem ok483 : comp Tryz.prog 483 c483.md = some (erase c483.body, c483.res) := by kernel_rfl
theorem ft483 : c483.fit = true := by kernel_rfl
def r484 := w (qFunc Tryz.prog 484)
def a484 := w (an r484)
def c484l0 : CCode := wf (ml a484 [])
def c484 : CFun := (wf fun x0 => mk a484 false false [x0]) c484l0
theorem ok484 : comp Tryz.prog 484 c484.md = some (erase c484.body, c484.res) := by kernel_rfl
theorem ft484 : c484.fit = true := by kernel_rfl
end
end Go.Proofs.Z
end
section
namespace Go.Proofs.Z
open Go Go.Proofs
set_option maxRecDepth 100000
set_option maxHeartbeats 1000000
noncomputable section
def r485 := w (qFunc Tryz.prog 485)
def a485 := w (an r485)
def c485 : CFun := wf (mk a485 false false [])
theorem ok485 : comp Tryz.prog 485 c485.md = some (erase c485.body, c485.res) := by kernel_rfl
theorem ft485 : c485.fit = true := by kernel_rfl
def r486 := w (qFunc Tryz.prog 486)
def a486 := w (an r486)
def c486 : CFun := wf (mk a486 false false [])
theorem ok486 : comp Tryz.prog 486 c486.md = some (erase c486.body, c486.res) := by kernel_rfl
theorem ft486 : c486.fit = true := by kernel_rfl
def r487 := w (qFunc Tryz.prog 487)
def a487 := w (an r487)
def c487 : CFun := wf (mk a487 false false [])
theorem ok487 : comp Tryz.prog 487 c487.md = some (erase c487.body, c487.res) := by kernel_rfl
theorem ft487 : c487.fit = true := by kernel_rfl
def r488 := w (qFunc Tryz.prog 488)
def a488 := w (an r488)
def c488l0 : CCode := wf (ml a488 [])
def c488 : CFun := (wf fun x0 => mk a488 false false [x0]) c488l0
theorem ok488 : comp Tryz.prog 488 c488.md = some (erase c488.body, c488.res) := by kernel_rfl
theorem ft488 : c488.fit = true := by kernel_rfl
def r489 := w (qFunc Tryz.prog 489)
def a489 := w (an r489)
def c489 : CFun := wf (mk a489 false false [])
theorem ok489 : comp Tryz.prog 489 c489.md = some (erase c489.body, c489.res) := by kernel_rfl
theorem ft489 : c489.fit = true := by kernel_rfl
def r490 := w (qFunc Tryz.prog 490)
def a490 := w (an r490)
def c490l0 : CCode := wf (ml a490 [])
def c490 : CFun := (wf fun x0 => mk a490 false false [x0]) c490l0
theorem ok490 : comp Tryz.prog 490 c490.md = some (erase c490.body, c490.res) := by kernel_rfl
theorem ft490 : c490.fit = true := by kernel_rfl
def r491 := w (qFunc Tryz.prog 491)
def a491 := w (an r491)
def c491l0 : CCode := wf (ml a491 [])
def c491 : CFun := (wf fun x0 => mk a491 false false [x0]) c491l0
theorem ok491 : comp Tryz.prog 491 c491.md = some (erase c491.body, c491.res) := by kernel_rfl
theorem ft491 : c491.fit = true := by kernel_rfl
def r492 := w (qFunc Tryz.prog 492)
def a492 := w (an r492)
def c492 : CFun := wf (mk a492 false false [])
theorem ok492 : comp Tryz.prog 492 c492.md = some (erase c492.body, c492.res) := by kernel_rfl
theorem ft492 : c492.fit = true := by kernel_rfl
def r493 := w (qFunc Tryz.prog 493)
def a493 := w (an r493)
def c493 : CFun := wf (mk a493 false false [])
theorem ok493 : comp Tryz.prog 493 c493.md = some (erase c493.body, c493.res) := by kernel_rfl
theorem ft493 : c493.fit = true := by kernel_rfl
def r494 := w (qFunc Tryz.prog 494)
def a494 := w (an r494)
def c494 : CFun := wf (mk a494 false false [])
theorem ok494 : comp Tryz.prog 494 c494.md = some (erase c494.body, c494.res) := by kernel_rfl
theorem ft494 : c494.fit = true := by kernel_rfl
def r495 := w (qFunc Tryz.prog 495)
def a495 := w (an r495)
def c495 : CFun := wf (mk a495 false false [])
theorem ok495 : comp Tryz.prog 495 c495.md = some (erase c495.body, c495.res) := by kernel_rfl
theorem ft495 : c495.fit = true := by kernel_rfl
def r496 := w (qFunc Tryz.prog 496)
def a496 := w (an r496)
def c496 : CFun := wf (mk a496 false false [])
theorem ok496 : comp Tryz.prog 496 c496.md = some (erase c496.body, c496.res) := by kernel_rfl
theorem ft496 : c496.fit = true := by kernel_rfl
def r497 := w (qFunc Tryz.prog 497)
def a497 := w (an r497)
def c497l0 : CCode := wf (ml a497 [])
def c497l1 : CCode := (wf fun x0 => ml a497 [x0]) c497l0
def c497 : CFun := (wf fun x0 x1 => mk a497 false false [x0, x1]) c497l0 c497l1
theorem ok497 : comp Tryz.prog 497 c497.md = some (erase c497.body, c497.res) := by kernel_rfl
theorem ft497 : c497.fit = true := by kernel_rfl
def r498 := w (qFunc Tryz.prog 498)
def a498 := w (an r498)
def c498l0 : CCode := wf (ml a498 [])
def c498l1 : CCode := (wf fun x0 => ml a498 [x0]) c498l0
def c498 : CFun := (wf fun x0 x1 => mk a498 false false [x0, x1]) c498l0 c498l1
theorem ok498 : comp Tryz.prog 498 c498.md = some (erase c498.body, c498.res) := by kernel_rfl
theorem ft498 : c498.fit = true := by kernel_rfl
def r499 := w (qFunc Tryz.prog 499)
def a499 := w (an r499)
def c499l0 : CCode := wf (ml a499 [])
def c499 : CFun := (wf fun x0 => mk a499 false false [x0]) c499l0
theorem ok499 : comp Tryz.prog 499 c499.md = some (erase c499.body, c499.res) := by kernel_rfl
theorem ft499 : c499.fit = true := by kernel_rfl
def r500 := w (qFunc Tryz.prog 500)
def a500 := w (an r500)
def c500 : CFun := wf (mk a500 false false [])
theorem ok500 : comp Tryz.prog 500 c500.md = some (erase c500.body, c500.res) := by kernel_rfl
theorem ft500 : c500.fit = true := by kernel_rfl
def r501 := w (qFunc Tryz.prog 501)
def a501 := w (an r501)
def c501l0 : CCode := wf (ml a501 [])
def c501 : CFun := (wf fun x0 => mk a501 false false [x0]) c501l0
theorem ok501 : comp Tryz.prog 501 c501.md = some (erase c501.body, c501.res) := by kernel_rfl
theorem ft501 : c501.fit = true := by kernel_rfl
def r502 := w (qFunc Tryz.prog 502)
def a502 := w (an r502)
def c502l0 : CCode := wf (ml a502 [])
def c502l1 : CCode := (wf fun x0 => ml a502 [x0]) c502l0
def c502l2 : CCode := (wf fun x0 x1 => ml a502 [x0, x1]) c502l0 c502l1
def c502l3 : CCode := (wf fun x0 x1 x2 => ml a502 [x0, x1, x2]) c502l0 c502l1 c502l2
def c502 : CFun := (wf fun x0 x1 x2 x3 => mk a502 false false [x0, x1, x2, x3]) c502l0 c502l1 c502l2 c502l3
theorem ok502 : comp Tryz.prog 502 c502.md = some (erase c502.body, c502.res) := by kernel_rfl
theorem ft502 : c502.fit = true := by kernel_rfl
def r503 := w (qFunc Tryz.prog 503)
def a503 := w (an r503)
def c503 : CFun := wf (mk a503 false false [])
theorem ok503 : comp Tryz.prog 503 c503.md = some (erase c503.body, c503.res) := by kernel_rfl
theorem ft503 : c503.fit = true := by kernel_rfl
def r504 := w (qFunc Tryz.prog 504)
def a504 := w (an r504)
def c504l0 : CCode := wf (ml a504 [])
def c504l1 : CCode := (wf fun x0 => ml a504 [x0]) c504l0
def c504l2 : CCode := (wf fun x0 x1 => ml a504 [x0, x1]) c504l0 c504l1
def c504 : CFun := (wf fun x0 x1 x2 => mk a504 false false [x0, x1, x2]) c504l0 c504l1 c504l2
theorem ok504 : comp Tryz.prog 504 c504.md = some (erase c504.body, c504.res) := by kernel_rfl
theorem ft504 : c504.fit = true := by kernel_rfl
def r505 := w (qFunc Tryz.prog 505)
def a505 := w (an r505)
def c505l0 : CCode := wf (ml a505 [])
def c505l1 : CCode := (wf fun x0 => ml a505 [x0]) c505l0
def c505l2 : CCode := (wf fun x0 x1 => ml a505 [x0, x1]) c505l0 c505l1
def c505l3 : CCode := (wf fun x0 x1 x2 => ml a505 [x0, x1, x2]) c505l0 c505l1 c505l2
def c505l4 : CCode := (wf fun x0 x1 x2 x3 => ml a505 [x0, x1, x2, x3]) c505l0 c505l1 c505l2 c505l3
def c505 : CFun := (wf fun x0 x1 x2 x3 x4 => mk a505 false false [x0, x1, x2, x3, x4]) c505l0 c505l1 c505l2 c505l3 c505l4
theorem ok505 : comp Tryz.prog 505 c505.md = some (erase c505.body, c505.res) := by kernel_rfl
theorem ft505 : c505.fit = true := by kernel_rfl
def r506 := w (qFunc Tryz.prog 506)
def a506 := w (an r506)
def c506 : CFun := wf (mk a506 false false [])
theorem ok506 : comp Tryz.prog 506 c506.md = some (erase c506.body, c506.res) := by kernel_rfl
theorem ft506 : c506.fit = true := by kernel_rfl
def r507 := w (qFunc Tryz.prog 507)
def a507 := w (an r507)
def c507l0 : CCode := wf (ml a507 [])
def c507 : CFun := (wf fun x0 => mk a507 false false [x0]) c507l0
theorem ok507 : comp Tryz.prog 507 c507.md = some (erase c507.body, c507.res) := by kernel_rfl
theorem ft507 : c507.fit = true := by kernel_rfl
def r508 := w (qFunc Tryz.prog 508)
def a508 := w (an r508)
def c508 : CFun := wf (mk a508 false false [])
theorem ok508 : comp Tryz.prog 508 c508.md = some (erase c508.body, c508.res) := by kernel_rfl
theorem ft508 : c508.fit = true := by kernel_rfl
def r509 := w (qFunc Tryz.prog 509)
def a509 := w (an r509)
def c509 : CFun := wf (mk a509 false false [])
theorem ok509 : comp Tryz.prog 509 c509.md = some (erase c509.body, c509.res) := by kernel_rfl
theorem ft509 : c509.fit = true := by kernel_rfl
def r510 := w (qFunc Tryz.prog 510)
def a510 := w (an r510)
def c510 : CFun := wf (mk a510 false false [])
theorem ok510 : comp Tryz.prog 510 c510.md = some (erase c510.body, c510.res) := by kernel_rfl
theorem ft510 : c510.fit = true := by kernel_rfl
def r511 := w (qFunc Tryz.prog 511)
def a511 := w (an r511)
def c511 : CFun := wf (mk a511 false false [])
theorem ok511 : comp Tryz.prog 511 c511.md = some (erase c511.body, c511.res) := by kernel_rfl
theorem ft511 : c511.fit = true := by kernel_rfl
def r512 := w (qFunc Tryz.prog 512)
def a512 := w (an r512)
def c512 : CFun := wf (mk a512 false false [])
theorem ok512 : comp Tryz.prog 512 c512.md = some (erase c512.body, c512.res) := by kernel_rfl
theorem ft512 : c512.fit = true := by kernel_rfl
def r513 := w (qFunc Tryz.prog 513)
def a513 := w (an r513)
def c513 : CFun := wf (mk a513 false false [])
theorem ok513 : comp Tryz.prog 513 c513.md = some (erase c513.body, c513.res) := by kernel_rfl
theorem ft513 : c513.fit = true := by kernel_rfl
def r546 := w (qFunc Tryz.prog 546)
def a546 := w (an r546)
def c546 : CFun := wf (mk a546 false false [])
theorem ok546 : comp Tryz.prog 546 c546.md = some (erase c546.body, c546.res) := by kernel_rfl
theorem ft546 : c546.fit = true := by kernel_rfl
def r550 := w (qFunc Tryz.prog 550)
def a550 := w (an r550)
def c550 : CFun := wf (mk a550 false false [])
theorem ok550 : comp Tryz.prog 550 c550.md = some (erase c550.body, c550.res) := by kernel_rfl
theorem ft550 : c550.fit = true := by kernel_rfl
end
end Go.Proofs.Z
end
section
namespace Go.Proofs.Z
open Go Go.Proofs
noncomputable def theGl (g : Nat) : Option (Array Value → Prop) :=
  if g = 2 then some fun cs => cs = (Lib.pow10Tab.map fun z => Value.int .u64 z).toArray
  else if g = 5 ∨ g = 6 then some fun cs => ∃ te pe, cs = #[.iface te pe]
  else if g = 7 then some fun cs => cs = (Lib.asciiSpaceTab.map fun z => Value.int .u8 z).toArray
  else if g = 0 then some fun cs => cs = #[.iface 158 (.agg #[.pointer (some ⟨12, 59, none⟩)])]
  else if g = 1 then some fun cs => ∃ n, cs = #[.int .i64 n]
  else none
noncomputable instance theP : HasP := ⟨Tryz.prog, theGl⟩
end Go.Proofs.Z
end
section
namespace Go.Proofs.Z
open Go Go.Proofs
noncomputable def tbl : List (Nat × CFun) := [(2, c2), (3, c3), (4, c4), (5, c5), (6, c6), (7, c7), (8, c8), (9, c9), (10, c10), (11, c11), (12, c12), (13, c13), (14, c14), (15, c15), (16, c16), (17, c17), (18, c18), (19, c19), (21, c21), (22, c22), (23, c23), (24, c24), (25, c25), (26, c26), (27, c27), (28, c28), (29, c29), (30, c30), (31, c31), (32, c32), (33, c33), (34, c34), (35, c35), (36, c36), (37, c37), (38, c38), (39, c39), (40, c40), (41, c41), (46, c46), (47, c47), (48, c48), (49, c49), (50, c50), (51, c51), (52, c52), (53, c53), (54, c54), (55, c55), (56, c56), (57, c57), (58, c58), (59, c59), (60, c60), (61, c61), (62, c62), (63, c63), (64, c64), (65, c65), (66, c66), (67, c67), (68, c68), (69, c69), (70, c70), (71, c71), (72, c72), (73, c73), (74, c74), (75, c75), (76, c76), (77, c77), (78, c78), (82, c82), (83, c83), (84, c84), (85, c85), (86, c86), (87, c87), (88, c88), (89, c89), (90, c90), (91, c91), (92, c92), (93, c93), (94, c94), (95, c95), (96, c96), (97, c97), (98, c98), (99, c99), (100, c100), (101, c101), (102, c102), (103, c103), (104, c104), (105, c105), (106, c106), (107, c107), (108, c108), (109, c109), (110, c110), (111, c111), (112, c112), (113, c113), (114, c114), (115, c115), (116, c116), (117, c117), (118, c118), (119, c119), (120, c120), (121, c121), (122, c122), (123, c123), (124, c124), (125, c125), (126, c126), (128, c128), (129, c129), (130, c130), (131, c131), (132, c132), (133, c133), (135, c135), (137, c137), (138, c138), (139, c139), (140, c140), (141, c141), (142, c142), (143, c143), (144, c144), (145, c145), (146, c146), (147, c147), (148, c148), (149, c149), (150, c150), (151, c151), (152, c152), (153, c153), (154, c154), (155, c155), (156, c156), (157, c157), (158, c158), (159, c159), (160, c160), (161, c161), (162, c162), (163, c163), (164, c164), (165, c165), (166, c166), (167, c167), (168, c168), (169, c169), (170, c170), (171, c171), (172, c172), (173, c173), (174, c174), (175, c175), (176, c176), (177, c177), (178, c178), (179, c179), (180, c180), (181, c181), (182, c182), (183, c183), (184, c184), (185, c185), (186, c186), (187, c187), (188, c188), (189, c189), (190, c190), (192, c192), (197, c197), (198, c198), (199, c199), (200, c200), (201, c201), (202, c202), (203, c203), (204, c204), (205, c205), (206, c206), (207, c207), (208, c208), (209, c209), (210, c210), (213, c213), (215, c215), (217, c217), (218, c218), (219, c219), (220, c220), (221, c221), (222, c222), (223, c223), (224, c224), (225, c225), (226, c226), (227, c227), (228, c228), (229, c229), (230, c230), (231, c231), (232, c232), (233, c233), (234, c234), (235, c235), (236, c236), (237, c237), (238, c238), (239, c239), (240, c240), (241, c241), (242, c242), (243, c243), (244, c244), (245, c245), (246, c246), (247, c247), (248, c248), (249, c249), (250, c250), (251, c251), (252, c252), (253, c253), (254, c254), (255, c255), (256, c256), (257, c257), (258, c258), (259, c259), (260, c260), (261, c261), (262, c262), (263, c263), (264, c264), (265, c265), (266, c266), (267, c267), (268, c268), (269, c269), (270, c270), (272, c272), (274, c274), (275, c275), (279, c279), (280, c280), (281, c281), (282, c282), (283, c283), (284, c284), (285, c285), (286, c286), (287, c287), (288, c288), (289, c289), (290, c290), (291, c291), (292, c292), (293, c293), (294, c294), (295, c295), (298, c298), (299, c299), (300, c300), (301, c301), (302, c302), (303, c303), (304, c304), (305, c305), (306, c306), (307, c307), (308, c308), (309, c309), (310, c310), (311, c311), (312, c312), (313, c313), (314, c314), (315, c315), (316, c316), (317, c317), (319, c319), (320, c320), (321, c321), (322, c322), (323, c323), (324, c324), (325, c325), (326, c326), (327, c327), (328, c328), (329, c329), (330, c330), (331, c331), (332, c332), (333, c333), (335, c335), (338, c338), (339, c339), (341, c341), (342, c342), (343, c343), (344, c344), (345, c345), (346, c346), (347, c347), (348, c348), (349, c349), (350, c350), (351, c351), (352, c352), (353, c353), (354, c354), (355, c355), (358, c358), (360, c360), (361, c361), (362, c362), (363, c363), (364, c364), (367, c367), (368, c368), (369, c369), (370, c370), (372, c372), (373, c373), (374, c374), (375, c375), (376, c376), (377, c377), (378, c378), (379, c379), (380, c380), (381, c381), (382, c382), (383, c383), (384, c384), (385, c385), (386, c386), (387, c387), (388, c388), (389, c389), (390, c390), (391, c391), (392, c392), (393, c393), (394, c394), (395, c395), (396, c396), (397, c397), (398, c398), (399, c399), (400, c400), (401, c401), (402, c402), (403, c403), (404, c404), (405, c405), (406, c406), (407, c407), (408, c408), (409, c409), (410, c410), (411, c411), (412, c412), (413, c413), (414, c414), (415, c415), (416, c416), (417, c417), (418, c418), (420, c420), (421, c421), (422, c422), (423, c423), (424, c424), (425, c425), (426, c426), (427, c427), (428, c428), (429, c429), (430, c430), (431, c431), (432, c432), (433, c433), (434, c434), (435, c435), (436, c436), (437, c437), (438, c438), (439, c439), (440, c440), (441, c441), (442, c442), (443, c443), (444, c444), (445, c445), (446, c446), (447, c447), (448, c448), (449, c449), (450, c450), (451, c451), (452, c452), (453, c453), (454, c454), (455, c455), (456, c456), (457, c457), (458, c458), (459, c459), (460, c460), (462, c462), (463, c463), (466, c466), (467, c467), (468, c468), (469, c469), (470, c470), (471, c471), (472, c472), (473, c473), (474, c474), (475, c475), (476, c476), (477, c477), (478, c478), (479, c479), (480, c480), (482, c482), (483, c483), (484, c484), (485, c485), (486, c486), (487, c487), (488, c488), (489, c489), (490, c490), (491, c491), (492, c492), (493, c493), (494, c494), (495, c495), (496, c496), (497, c497), (498, c498), (499, c499), (500, c500), (501, c501), (502, c502), (503, c503), (504, c504), (505, c505), (506, c506), (507, c507), (508, c508), (509, c509), (510, c510), (511, c511), (512, c512), (513, c513), (546, c546), (550, c550)]
set_option maxRecDepth 20000 in
theorem tbl_all : AllOK tbl :=
  ⟨fnOK ok2 ft2,
  ⟨fnOK ok3 ft3,
  ⟨fnOK ok4 ft4,
  ⟨fnOK ok5 ft5,
  ⟨fnOK ok6 ft6,
  ⟨fnOK ok7 ft7,
  ⟨fnOK ok8 ft8,
  ⟨fnOK ok9 ft9,
  ⟨fnOK ok10 ft10,
  ⟨fnOK ok11 ft11,
  ⟨fnOK ok12 ft12,
  ⟨fnOK ok13 ft13,
  ⟨fnOK ok14 ft14,
  ⟨fnOK ok15 ft15,
  ⟨fnOK ok16 ft16,
  ⟨fnOK ok17 ft17,
  ⟨fnOK ok18 ft18,
  ⟨fnOK ok19 ft19,
  ⟨fnOK ok21 ft21,
  ⟨fnOK ok22 ft22,
  ⟨fnOK ok23 ft23,
  ⟨fnOK ok24 ft24,
  ⟨fnOK ok25 ft25,
  ⟨fnOK ok26 ft26,
  ⟨fnOK ok27 ft27,
  ⟨fnOK ok28 ft28,
  ⟨fnOK ok29 ft29,
  ⟨fnOK ok30 ft30,
  ⟨fnOK ok31 ft31,
  ⟨fnOK ok32 ft32,
  ⟨fnOK ok33 ft33,
  ⟨fnOK ok34 ft34,
  ⟨fnOK ok35 ft35,
  ⟨fnOK ok36 ft36,
  ⟨fnOK ok37 ft37,
  ⟨fnOK ok38 ft38,
  ⟨fnOK ok39 ft39,
  ⟨fnOK ok40 ft40,
  ⟨fnOK ok41 ft41,
  ⟨fnOK ok46 ft46,
  ⟨fnOK ok47 ft47,
  ⟨fnOK ok48 ft48,
  ⟨fnOK ok49 ft49,
  ⟨fnOK ok50 ft50,
  ⟨fnOK ok51 ft51,
  ⟨fnOK ok52 ft52,
  ⟨fnOK ok53 ft53,
  ⟨fnOK ok54 ft54,
  ⟨fnOK ok55 ft55,
  ⟨fnOK ok56 ft56,
  ⟨fnOK ok57 ft57,
  ⟨fnOK ok58 ft58,
  ⟨fnOK ok59 ft59,
  ⟨fnOK ok60 ft60,
  ⟨fnOK ok61 ft61,
  ⟨fnOK ok62 ft62,
  ⟨fnOK ok63 ft63,
  ⟨fnOK ok64 ft64,
  ⟨fnOK ok65 ft65,
  ⟨fnOK ok66 ft66,
  ⟨fnOK ok67 ft67,
  ⟨fnOK ok68 ft68,
  ⟨fnOK ok69 ft69,
  ⟨fnOK ok70 ft70,
  ⟨fnOK ok71 ft71,
  ⟨fnOK ok72 ft72,
  ⟨fnOK ok73 ft73,
  ⟨fnOK ok74 ft74,
  ⟨fnOK ok75 ft75,
  ⟨fnOK ok76 ft76,
  ⟨fnOK ok77 ft77,
  ⟨fnOK ok78 ft78,
  ⟨fnOK ok82 ft82,
  ⟨fnOK ok83 ft83,
  ⟨fnOK ok84 ft84,
  ⟨fnOK ok85 ft85,
  ⟨fnOK ok86 ft86,
  ⟨fnOK ok87 ft87,
  ⟨fnOK ok88 ft88,
  ⟨fnOK ok89 ft89,
  ⟨fnOK ok90 ft90,
  ⟨fnOK ok91 ft91,
  ⟨fnOK ok92 ft92,
  ⟨fnOK ok93 ft93,
  ⟨fnOK ok94 ft94,
  ⟨fnOK ok95 ft95,
  ⟨fnOK ok96 ft96,
  ⟨fnOK ok97 ft97,
  ⟨fnOK ok98 ft98,
  ⟨fnOK ok99 ft99,
  ⟨fnOK ok100 ft100,
  ⟨fnOK ok101 ft101,
  ⟨fnOK ok102 ft102,
  ⟨fnOK ok103 ft103,
  ⟨fnOK ok104 ft104,
  ⟨fnOK ok105 ft105,
  ⟨fnOK ok106 ft106,
  ⟨fnOK ok107 ft107,
  ⟨fnOK ok108 ft108,
  ⟨fnOK ok109 ft109,
  ⟨fnOK ok110 ft110,
  ⟨fnOK ok111 ft111,
  ⟨fnOK ok112 ft112,
  ⟨fnOK ok113 ft113,
  ⟨fnOK ok114 ft114,
  ⟨fnOK ok115 ft115,
  ⟨fnOK ok116 ft116,
  ⟨fnOK ok117 ft117,
  ⟨fnOK ok118 ft118,
  ⟨fnOK ok119 ft119,
  ⟨fnOK ok120 ft120,
  ⟨fnOK ok121 ft121,
  ⟨fnOK ok122 ft122,
  ⟨fnOK ok123 ft123,
  ⟨fnOK ok124 ft124,
  ⟨fnOK ok125 ft125,
  ⟨fnOK ok126 ft126,
  ⟨fnOK ok128 ft128,
  ⟨fnOK ok129 ft129,
  ⟨fnOK ok130 ft130,
  ⟨fnOK ok131 ft131,
  ⟨fnOK ok132 ft132,
  ⟨fnOK ok133 ft133,
  ⟨fnOK ok135 ft135,
  ⟨fnOK ok137 ft137,
  ⟨fnOK ok138 ft138,
  ⟨fnOK ok139 ft139,
  ⟨fnOK ok140 ft140,
  ⟨fnOK ok141 ft141,
  ⟨fnOK ok142 ft142,
  ⟨fnOK ok143 ft143,
  ⟨fnOK ok144 ft144,
  ⟨fnOK ok145 ft145,
  ⟨fnOK ok146 ft146,
  ⟨fnOK ok147 ft147,
  ⟨fnOK ok148 ft148,
  ⟨fnOK ok149 ft149,
  ⟨fnOK ok150 ft150,
  ⟨fnOK ok151 ft151,
  ⟨fnOK ok152 ft152,
  ⟨fnOK ok153 ft153,
  ⟨fnOK ok154 ft154,
  ⟨fnOK ok155 ft155,
  ⟨fnOK ok156 ft156,
  ⟨fnOK ok157 ft157,
  ⟨fnOK ok158 ft158,
  ⟨fnOK ok159 ft159,
  ⟨fnOK ok160 ft160,
  ⟨fnOK ok161 ft161,
  ⟨fnOK ok162 ft162,
  ⟨fnOK ok163 ft163,
  ⟨fnOK ok164 ft164,
  ⟨fnOK ok165 ft165,
  ⟨fnOK ok166 ft166,
  ⟨fnOK ok167 ft167,
  ⟨fnOK ok168 ft168,
  ⟨fnOK ok169 ft169,
  ⟨fnOK ok170 ft170,
  ⟨fnOK ok171 ft171,
  ⟨fnOK ok172 ft172,
  ⟨fnOK ok173 ft173,
  ⟨fnOK ok174 ft174,
  ⟨fnOK ok175 ft175,
  ⟨fnOK ok176 ft176,
  ⟨fnOK ok177 ft177,
  ⟨fnOK ok178 ft178,
  ⟨fnOK ok179 ft179,
  ⟨fnOK ok180 ft180,
  ⟨fnOK ok181 ft181,
  ⟨fnOK ok182 ft182,
  ⟨fnOK ok183 ft183,
  ⟨fnOK ok184 ft184,
  ⟨fnOK ok185 ft185,
  ⟨fnOK ok186 ft186,
  ⟨fnOK ok187 ft187,
  ⟨fnOK ok188 ft188,
  ⟨fnOK ok189 ft189,
  ⟨fnOK ok190 ft190,
  ⟨fnOK ok192 ft192,
  ⟨fnOK ok197 ft197,
  ⟨fnOK ok198 ft198,
  ⟨fnOK ok199 ft199,
  ⟨fnOK ok200 ft200,
  ⟨fnOK ok201 ft201,
  ⟨fnOK ok202 ft202,
  ⟨fnOK ok203 ft203,
  ⟨fnOK ok204 ft204,
  ⟨fnOK ok205 ft205,
  ⟨fnOK ok206 ft206,
  ⟨fnOK ok207 ft207,
  ⟨fnOK ok208 ft208,
  ⟨fnOK ok209 ft209,
  ⟨fnOK ok210 ft210,
  ⟨fnOK ok213 ft213,
  ⟨fnOK ok215 ft215,
  ⟨fnOK ok217 ft217,
  ⟨fnOK ok218 ft218,
  ⟨fnOK ok219 ft219,
  ⟨fnOK ok220 ft220,
  ⟨fnOK ok221 ft221,
  ⟨fnOK ok222 ft222,
  ⟨fnOK ok223 ft223,
  ⟨fnOK ok224 ft224,
  ⟨fnOK ok225 ft225,
  ⟨fnOK ok226 ft226,
  ⟨fnOK ok227 ft227,
  ⟨fnOK ok228 ft228,
  ⟨fnOK ok229 ft229,
  ⟨fnOK ok230 ft230,
  ⟨fnOK ok231 ft231,
  ⟨fnOK ok232 ft232,
  ⟨fnOK ok233 ft233,
  ⟨fnOK ok234 ft234,
  ⟨fnOK ok235 ft235,
  ⟨fnOK ok236 ft236,
  ⟨fnOK ok237 ft237,
  ⟨fnOK ok238 ft238,
  ⟨fnOK ok239 ft239,
  ⟨fnOK ok240 ft240,
  ⟨fnOK ok241 ft241,
  ⟨fnOK ok242 ft242,
  ⟨fnOK ok243 ft243,
  ⟨fnOK ok244 ft244,
  ⟨fnOK ok245 ft245,
  ⟨fnOK ok246 ft246,
  ⟨fnOK ok247 ft247,
  ⟨fnOK ok248 ft248,
  ⟨fnOK ok249 ft249,
  ⟨fnOK ok250 ft250,
  ⟨fnOK ok251 ft251,
  ⟨fnOK ok252 ft252,
  ⟨fnOK ok253 ft253,
  ⟨fnOK ok254 ft254,
  ⟨fnOK ok255 ft255,
  ⟨fnOK ok256 ft256,
  ⟨fnOK ok257 ft257,
  ⟨fnOK ok258 ft258,
  ⟨fnOK ok259 ft259,
  ⟨fnOK ok260 ft260,
  ⟨fnOK ok261 ft261,
  ⟨fnOK ok262 ft262,
  ⟨fnOK ok263 ft263,
  ⟨fnOK ok264 ft264,
  ⟨fnOK ok265 ft265,
  ⟨fnOK ok266 ft266,
  ⟨fnOK ok267 ft267,
  ⟨fnOK ok268 ft268,
  ⟨fnOK ok269 ft269,
  ⟨fnOK ok270 ft270,
  ⟨fnOK ok272 ft272,
  ⟨fnOK ok274 ft274,
  ⟨fnOK ok275 ft275,
  ⟨fnOK ok279 ft279,
  ⟨fnOK ok280 ft280,
  ⟨fnOK ok281 ft281,
  ⟨fnOK ok282 ft282,
  ⟨fnOK ok283 ft283,
  ⟨fnOK ok284 ft284,
  ⟨fnOK ok285 ft285,
  ⟨fnOK ok286 ft286,
  ⟨fnOK ok287 ft287,
  ⟨fnOK ok288 ft288,
  ⟨fnOK ok289 ft289,
  ⟨fnOK ok290 ft290,
  ⟨fnOK ok291 ft291,
  ⟨fnOK ok292 ft292,
  ⟨fnOK ok293 ft293,
  ⟨fnOK ok294 ft294,
  ⟨fnOK ok295 ft295,
  ⟨fnOK ok298 ft298,
  ⟨fnOK ok299 ft299,
  ⟨fnOK ok300 ft300,
  ⟨fnOK ok301 ft301,
  ⟨fnOK ok302 ft302,
  ⟨fnOK ok303 ft303,
  ⟨fnOK ok304 ft304,
  ⟨fnOK ok305 ft305,
  ⟨fnOK ok306 ft306,
  ⟨fnOK ok307 ft307,
  ⟨fnOK ok308 ft308,
  ⟨fnOK ok309 ft309,
  ⟨fnOK ok310 ft310,
  ⟨fnOK ok311 ft311,
  ⟨fnOK ok312 ft312,
  ⟨fnOK ok313 ft313,
  ⟨fnOK ok314 ft314,
  ⟨fnOK ok315 ft315,
  ⟨fnOK ok316 ft316,
  ⟨fnOK ok317 ft317,
  ⟨fnOK ok319 ft319,
  ⟨fnOK ok320 ft320,
  ⟨fnOK ok321 ft321,
  ⟨fnOK ok322 ft322,
  ⟨fnOK ok323 ft323,
  ⟨fnOK ok324 ft324,
  ⟨fnOK ok325 ft325,
  ⟨fnOK ok326 ft326,
  ⟨fnOK ok327 ft327,
  ⟨fnOK ok328 ft328,
  ⟨fnOK ok329 ft329,
  ⟨fnOK ok330 ft330,
  ⟨fnOK ok331 ft331,
  ⟨fnOK ok332 ft332,
  ⟨fnOK ok333 ft333,
  ⟨fnOK ok335 ft335,
  ⟨fnOK ok338 ft338,
  ⟨fnOK ok339 ft339,
  ⟨fnOK ok341 ft341,
  ⟨fnOK ok342 ft342,
  ⟨fnOK ok343 ft343,
  ⟨fnOK ok344 ft344,
  ⟨fnOK ok345 ft345,
  ⟨fnOK ok346 ft346,
  ⟨fnOK ok347 ft347,
  ⟨fnOK ok348 ft348,
  ⟨fnOK ok349 ft349,
  ⟨fnOK ok350 ft350,
  ⟨fnOK ok351 ft351,
  ⟨fnOK ok352 ft352,
  ⟨fnOK ok353 ft353,
  ⟨fnOK ok354 ft354,
  ⟨fnOK ok355 ft355,
  ⟨fnOK ok358 ft358,
  ⟨fnOK ok360 ft360,
  ⟨fnOK ok361 ft361,
  ⟨fnOK ok362 ft362,
  ⟨fnOK ok363 ft363,
  ⟨fnOK ok364 ft364,
  ⟨fnOK ok367 ft367,
  ⟨fnOK ok368 ft368,
  ⟨fnOK ok369 ft369,
  ⟨fnOK ok370 ft370,
  ⟨fnOK ok372 ft372,
  ⟨fnOK ok373 ft373,
  ⟨fnOK ok374 ft374,
  ⟨fnOK ok375 ft375,
  ⟨fnOK ok376 ft376,
  ⟨fnOK ok377 ft377,
  ⟨fnOK ok378 ft378,
  ⟨fnOK ok379 ft379,
  ⟨fnOK ok380 ft380,
  ⟨fnOK ok381 ft381,
  ⟨fnOK ok382 ft382,
  ⟨fnOK ok383 ft383,
  ⟨fnOK ok384 ft384,
  ⟨fnOK ok385 ft385,
  ⟨fnOK ok386 ft386,
  ⟨fnOK ok387 ft387,
  ⟨fnOK ok388 ft388,
  ⟨fnOK ok389 ft389,
  ⟨fnOK ok390 ft390,
  ⟨fnOK ok391 ft391,
  ⟨fnOK ok392 ft392,
  ⟨fnOK ok393 ft393,
  ⟨fnOK ok394 ft394,
  ⟨fnOK ok395 ft395,
  ⟨fnOK ok396 ft396,
  ⟨fnOK ok397 ft397,
  ⟨fnOK ok398 ft398,
  ⟨fnOK ok399 ft399,
  ⟨fnOK ok400 ft400,
  ⟨fnOK ok401 ft401,
  ⟨fnOK ok402 ft402,
  ⟨fnOK ok403 ft403,
  ⟨fnOK ok404 ft404,
  ⟨fnOK ok405 ft405,
  ⟨fnOK ok406 ft406,
  ⟨fnOK ok407 ft407,
  ⟨fnOK ok408 ft408,
  ⟨fnOK ok409 ft409,
  ⟨fnOK ok410 ft410,
  ⟨fnOK ok411 ft411,
  ⟨fnOK ok412 ft412,
  ⟨fnOK ok413 ft413,
  ⟨fnOK ok414 ft414,
  ⟨fnOK ok415 ft415,
  ⟨fnOK ok416 ft416,
  ⟨fnOK ok417 ft417,
  ⟨fnOK ok418 ft418,
  ⟨fnOK ok420 ft420,
  ⟨fnOK ok421 ft421,
  ⟨fnOK ok422 ft422,
  ⟨fnOK ok423 ft423,
  ⟨fnOK ok424 ft424,
  ⟨fnOK ok425 ft425,
  ⟨fnOK ok426 ft426,
  ⟨fnOK ok427 ft427,
  ⟨fnOK ok428 ft428,
  ⟨fnOK ok429 ft429,
  ⟨fnOK ok430 ft430,
  ⟨fnOK ok431 ft431,
  ⟨fnOK ok432 ft432,
  ⟨fnOK ok433 ft433,
  ⟨fnOK ok434 ft434,
  ⟨fnOK ok435 ft435,
  ⟨fnOK ok436 ft436,
  ⟨fnOK ok437 ft437,
  ⟨fnOK ok438 ft438,
  ⟨fnOK ok439 ft439,
  ⟨fnOK ok440 ft440,
  ⟨fnOK ok441 ft441,
  ⟨fnOK ok442 ft442,
  ⟨fnOK ok443 ft443,
  ⟨fnOK ok444 ft444,
  ⟨fnOK ok445 ft445,
  ⟨fnOK ok446 ft446,
  ⟨fnOK ok447 ft447,
  ⟨fnOK ok448 ft448,
  ⟨fnOK ok449 ft449,
  ⟨fnOK ok450 ft450,
  ⟨fnOK ok451 ft451,
  ⟨fnOK ok452 ft452,
  ⟨fnOK ok453 ft453,
  ⟨fnOK ok454 ft454,
  ⟨fnOK ok455 ft455,
  ⟨fnOK ok456 ft456,
  ⟨fnOK ok457 ft457,
  ⟨fnOK ok458 ft458,
  ⟨fnOK ok459 ft459,
  ⟨fnOK ok460 ft460,
  ⟨fnOK ok462 ft462,
  ⟨fnOK ok463 ft463,
  ⟨fnOK ok466 ft466,
  ⟨fnOK ok467 ft467,
  ⟨fnOK ok468 ft468,
  ⟨fnOK ok469 ft469,
  ⟨fnOK ok470 ft470,
  ⟨fnOK ok471 ft471,
  ⟨fnOK ok472 ft472,
  ⟨fnOK ok473 ft473,
  ⟨fnOK ok474 ft474,
  ⟨fnOK ok475 ft475,
  ⟨fnOK ok476 ft476,
  ⟨fnOK ok477 ft477,
  ⟨fnOK ok478 ft478,
  ⟨fnOK ok479 ft479,
  ⟨fnOK ok480 ft480,
  ⟨fnOK ok482 ft482,
  ⟨fnOK ok483 ft483,
  ⟨fnOK ok484 ft484,
  ⟨fnOK ok485 ft485,
  ⟨fnOK ok486 ft486,
  ⟨fnOK ok487 ft487,
  ⟨fnOK ok488 ft488,
  ⟨fnOK ok489 ft489,
  ⟨fnOK ok490 ft490,
  ⟨fnOK ok491 ft491,
  ⟨fnOK ok492 ft492,
  ⟨fnOK ok493 ft493,
  ⟨fnOK ok494 ft494,
  ⟨fnOK ok495 ft495,
  ⟨fnOK ok496 ft496,
  ⟨fnOK ok497 ft497,
  ⟨fnOK ok498 ft498,
  ⟨fnOK ok499 ft499,
  ⟨fnOK ok500 ft500,
  ⟨fnOK ok501 ft501,
  ⟨fnOK ok502 ft502,
  ⟨fnOK ok503 ft503,
  ⟨fnOK ok504 ft504,
  ⟨fnOK ok505 ft505,
  ⟨fnOK ok506 ft506,
  ⟨fnOK ok507 ft507,
  ⟨fnOK ok508 ft508,
  ⟨fnOK ok509 ft509,
  ⟨fnOK ok510 ft510,
  ⟨fnOK ok511 ft511,
  ⟨fnOK ok512 ft512,
  ⟨fnOK ok513 ft513,
  ⟨fnOK ok546 ft546,
  ⟨fnOK ok550 ft550,
  trivial⟩⟩⟩⟩⟩⟩⟩⟩⟩⟩⟩⟩⟩⟩⟩⟩⟩⟩⟩⟩⟩⟩⟩⟩⟩⟩⟩⟩⟩⟩⟩⟩⟩⟩⟩⟩⟩⟩⟩⟩⟩⟩⟩⟩⟩⟩⟩⟩⟩⟩⟩⟩⟩⟩⟩⟩⟩⟩⟩⟩⟩⟩⟩⟩⟩⟩⟩⟩⟩⟩⟩⟩⟩⟩⟩⟩⟩⟩⟩⟩⟩⟩⟩⟩⟩⟩⟩⟩⟩⟩⟩⟩⟩⟩⟩⟩⟩⟩⟩⟩⟩⟩⟩⟩⟩⟩⟩⟩⟩⟩⟩⟩⟩⟩⟩⟩⟩⟩⟩⟩⟩⟩⟩⟩⟩⟩⟩⟩⟩⟩⟩⟩⟩⟩⟩⟩⟩⟩⟩⟩⟩⟩⟩⟩⟩⟩⟩⟩⟩⟩⟩⟩⟩⟩⟩⟩⟩⟩⟩⟩⟩⟩⟩⟩⟩⟩⟩⟩⟩⟩⟩⟩⟩⟩⟩⟩⟩⟩⟩⟩⟩⟩⟩⟩⟩⟩⟩⟩⟩⟩⟩⟩⟩⟩⟩⟩⟩⟩⟩⟩⟩⟩⟩⟩⟩⟩⟩⟩⟩⟩⟩⟩⟩⟩⟩⟩⟩⟩⟩⟩⟩⟩⟩⟩⟩⟩⟩⟩⟩⟩⟩⟩⟩⟩⟩⟩⟩⟩⟩⟩⟩⟩⟩⟩⟩⟩⟩⟩⟩⟩⟩⟩⟩⟩⟩⟩⟩⟩⟩⟩⟩⟩⟩⟩⟩⟩⟩⟩⟩⟩⟩⟩⟩⟩⟩⟩⟩⟩⟩⟩⟩⟩⟩⟩⟩⟩⟩⟩⟩⟩⟩⟩⟩⟩⟩⟩⟩⟩⟩⟩⟩⟩⟩⟩⟩⟩⟩⟩⟩⟩⟩⟩⟩⟩⟩⟩⟩⟩⟩⟩⟩⟩⟩⟩⟩⟩⟩⟩⟩⟩⟩⟩⟩⟩⟩⟩⟩⟩⟩⟩⟩⟩⟩⟩⟩⟩⟩⟩⟩⟩⟩⟩⟩⟩⟩⟩⟩⟩⟩⟩⟩⟩⟩⟩⟩⟩⟩⟩⟩⟩⟩⟩⟩⟩⟩⟩⟩⟩⟩⟩⟩⟩⟩⟩⟩⟩⟩⟩⟩⟩⟩⟩⟩⟩⟩⟩⟩⟩⟩⟩⟩⟩⟩⟩⟩⟩⟩⟩⟩⟩⟩⟩⟩⟩⟩⟩⟩⟩⟩⟩⟩⟩⟩⟩⟩⟩⟩⟩⟩⟩⟩⟩⟩⟩⟩⟩⟩⟩⟩⟩⟩⟩⟩⟩⟩⟩⟩⟩⟩⟩⟩⟩⟩⟩⟩⟩⟩⟩⟩⟩⟩⟩⟩⟩⟩⟩⟩⟩⟩⟩⟩
end Go.Proofs.Z
end
section
namespace Go.Proofs.Z
open Go Go.Proofs
inductive BT (α : Type) where
  | leaf
  | node (k : Nat) (v : α) (l r : BT α)
def BT.get {α : Type} : BT α → Nat → Option α
  | .leaf, _ => none
  | .node k v l r, n => match Nat.beq n k with | true => some v | false => match Nat.blt n k with | true => l.get n | false => r.get n
def BT.toL {α : Type} : BT α → List (Nat × α)
  | .leaf => []
  | .node k v l r => l.toL ++ (k, v) :: r.toL
theorem BT.get_mem {α : Type} {n : Nat} {v : α} : ∀ {t : BT α}, t.get n = some v → (n, v) ∈ t.toL
  | .leaf, h => by cases h
  | .node k x l r, h => by
    simp only [BT.get] at h
    simp only [BT.toL, List.mem_append, List.mem_cons]
    split at h
    · rename_i hk
      cases h
      exact .inr (.inl (by rw [Nat.eq_of_beq_eq_true hk]))
    · split at h
      · exact .inl (BT.get_mem h)
      · exact .inr (.inr (BT.get_mem h))
noncomputable def ft : BT CFun := (.node 257 c257 (.node 128 c128 (.node 65 c65 (.node 32 c32 (.node 16 c16 (.node 9 c9 (.node 5 c5 (.node 3 c3 (.node 2 c2 .leaf .leaf) (.node 4 c4 .leaf .leaf)) (.node 7 c7 (.node 6 c6 .leaf .leaf) (.node 8 c8 .leaf .leaf))) (.node 13 c13 (.node 11 c11 (.node 10 c10 .leaf .leaf) (.node 12 c12 .leaf .leaf)) (.node 15 c15 (.node 14 c14 .leaf .leaf) .leaf))) (.node 25 c25 (.node 21 c21 (.node 18 c18 (.node 17 c17 .leaf .leaf) (.node 19 c19 .leaf .leaf)) (.node 23 c23 (.node 22 c22 .leaf .leaf) (.node 24 c24 .leaf .leaf))) (.node 29 c29 (.node 27 c27 (.node 26 c26 .leaf .leaf) (.node 28 c28 .leaf .leaf)) (.node 31 c31 (.node 30 c30 .leaf .leaf) .leaf)))) (.node 51 c51 (.node 40 c40 (.node 36 c36 (.node 34 c34 (.node 33 c33 .leaf .leaf) (.node 35 c35 .leaf .leaf)) (.node 38 c38 (.node 37 c37 .leaf .leaf) (.node 39 c39 .leaf .leaf))) (.node 48 c48 (.node 46 c46 (.node 41 c41 .leaf .leaf) (.node 47 c47 .leaf .leaf)) (.node 50 c50 (.node 49 c49 .leaf .leaf) .leaf))) (.node 58 c58 (.node 55 c55 (.node 53 c53 (.node 52 c52 .leaf .leaf) (.node 54 c54 .leaf .leaf)) (.node 57 c57 (.node 56 c56 .leaf .leaf) .leaf)) (.node 62 c62 (.node 60 c60 (.node 59 c59 .leaf .leaf) (.node 61 c61 .leaf .leaf)) (.node 64 c64 (.node 63 c63 .leaf .leaf) .leaf))))) (.node 98 c98 (.node 83 c83 (.node 73 c73 (.node 69 c69 (.node 67 c67 (.node 66 c66 .leaf .leaf) (.node 68 c68 .leaf .leaf)) (.node 71 c71 (.node 70 c70 .leaf .leaf) (.node 72 c72 .leaf .leaf))) (.node 77 c77 (.node 75 c75 (.node 74 c74 .leaf .leaf) (.node 76 c76 .leaf .leaf)) (.node 82 c82 (.node 78 c78 .leaf .leaf) .leaf))) (.node 91 c91 (.node 87 c87 (.node 85 c85 (.node 84 c84 .leaf .leaf) (.node 86 c86 .leaf .leaf)) (.node 89 c89 (.node 88 c88 .leaf .leaf) (.node 90 c90 .leaf .leaf))) (.node 95 c95 (.node 93 c93 (.node 92 c92 .leaf .leaf) (.node 94 c94 .leaf .leaf)) (.node 97 c97 (.node 96 c96 .leaf .leaf) .leaf)))) (.node 113 c113 (.node 106 c106 (.node 102 c102 (.node 100 c100 (.node 99 c99 .leaf .leaf) (.node 101 c101 .leaf .leaf)) (.node 104 c104 (.node 103 c103 .leaf .leaf) (.node 105 c105 .leaf .leaf))) (.node 110 c110 (.node 108 c108 (.node 107 c107 .leaf .leaf) (.node 109 c109 .leaf .leaf)) (.node 112 c112 (.node 111 c111 .leaf .leaf) .leaf))) (.node 120 c120 (.node 117 c117 (.node 115 c115 (.node 114 c114 .leaf .leaf) (.node 116 c116 .leaf .leaf)) (.node 119 c119 (.node 118 c118 .leaf .leaf) .leaf)) (.node 124 c124 (.node 122 c122 (.node 121 c121 .leaf .leaf) (.node 123 c123 .leaf .leaf)) (.node 126 c126 (.node 125 c125 .leaf .leaf) .leaf)))))) (.node 189 c189 (.node 160 c160 (.node 145 c145 (.node 138 c138 (.node 132 c132 (.node 130 c130 (.node 129 c129 .leaf .leaf) (.node 131 c131 .leaf .leaf)) (.node 135 c135 (.node 133 c133 .leaf .leaf) (.node 137 c137 .leaf .leaf))) (.node 142 c142 (.node 140 c140 (.node 139 c139 .leaf .leaf) (.node 141 c141 .leaf .leaf)) (.node 144 c144 (.node 143 c143 .leaf .leaf) .leaf))) (.node 153 c153 (.node 149 c149 (.node 147 c147 (.node 146 c146 .leaf .leaf) (.node 148 c148 .leaf .leaf)) (.node 151 c151 (.node 150 c150 .leaf .leaf) (.node 152 c152 .leaf .leaf))) (.node 157 c157 (.node 155 c155 (.node 154 c154 .leaf .leaf) (.node 156 c156 .leaf .leaf)) (.node 159 c159 (.node 158 c158 .leaf .leaf) .leaf)))) (.node 175 c175 (.node 168 c168 (.node 164 c164 (.node 162 c162 (.node 161 c161 .leaf .leaf) (.node 163 c163 .leaf .leaf)) (.node 166 c166 (.node 165 c165 .leaf .leaf) (.node 167 c167 .leaf .leaf))) (.node 172 c172 (.node 170 c170 (.node 169 c169 .leaf .leaf) (.node 171 c171 .leaf .leaf)) (.node 174 c174 (.node 173 c173 .leaf .leaf) .leaf))) (.node 182 c182 (.node 179 c179 (.node 177 c177 (.node 176 c176 .leaf .leaf) (.node 178 c178 .leaf .leaf)) (.node 181 c181 (.node 180 c180 .leaf .leaf) .leaf)) (.node 186 c186 (.node 184 c184 (.node 183 c183 .leaf .leaf) (.node 185 c185 .leaf .leaf)) (.node 188 c188 (.node 187 c187 .leaf .leaf) .leaf))))) (.node 228 c228 (.node 209 c209 (.node 202 c202 (.node 198 c198 (.node 192 c192 (.node 190 c190 .leaf .leaf) (.node 197 c197 .leaf .leaf)) (.node 200 c200 (.node 199 c199 .leaf .leaf) (.node 201 c201 .leaf .leaf))) (.node 206 c206 (.node 204 c204 (.node 203 c203 .leaf .leaf) (.node 205 c205 .leaf .leaf)) (.node 208 c208 (.node 207 c207 .leaf .leaf) .leaf))) (.node 221 c221 (.node 217 c217 (.node 213 c213 (.node 210 c210 .leaf .leaf) (.node 215 c215 .leaf .leaf)) (.node 219 c219 (.node 218 c218 .leaf .leaf) (.node 220 c220 .leaf .leaf))) (.node 225 c225 (.node 223 c223 (.node 222 c222 .leaf .leaf) (.node 224 c224 .leaf .leaf)) (.node 227 c227 (.node 226 c226 .leaf .leaf) .leaf)))) (.node 243 c243 (.node 236 c236 (.node 232 c232 (.node 230 c230 (.node 229 c229 .leaf .leaf) (.node 231 c231 .leaf .leaf)) (.node 234 c234 (.node 233 c233 .leaf .leaf) (.node 235 c235 .leaf .leaf))) (.node 240 c240 (.node 238 c238 (.node 237 c237 .leaf .leaf) (.node 239 c239 .leaf .leaf)) (.node 242 c242 (.node 241 c241 .leaf .leaf) .leaf))) (.node 250 c250 (.node 247 c247 (.node 245 c245 (.node 244 c244 .leaf .leaf) (.node 246 c246 .leaf .leaf)) (.node 249 c249 (.node 248 c248 .leaf .leaf) .leaf)) (.node 254 c254 (.node 252 c252 (.node 251 c251 .leaf .leaf) (.node 253 c253 .leaf .leaf)) (.node 256 c256 (.node 255 c255 .leaf .leaf) .leaf))))))) (.node 393 c393 (.node 324 c324 (.node 292 c292 (.node 274 c274 (.node 265 c265 (.node 261 c261 (.node 259 c259 (.node 258 c258 .leaf .leaf) (.node 260 c260 .leaf .leaf)) (.node 263 c263 (.node 262 c262 .leaf .leaf) (.node 264 c264 .leaf .leaf))) (.node 269 c269 (.node 267 c267 (.node 266 c266 .leaf .leaf) (.node 268 c268 .leaf .leaf)) (.node 272 c272 (.node 270 c270 .leaf .leaf) .leaf))) (.node 285 c285 (.node 281 c281 (.node 279 c279 (.node 275 c275 .leaf .leaf) (.node 280 c280 .leaf .leaf)) (.node 283 c283 (.node 282 c282 .leaf .leaf) (.node 284 c284 .leaf .leaf))) (.node 289 c289 (.node 287 c287 (.node 286 c286 .leaf .leaf) (.node 288 c288 .leaf .leaf)) (.node 291 c291 (.node 290 c290 .leaf .leaf) .leaf)))) (.node 309 c309 (.node 302 c302 (.node 298 c298 (.node 294 c294 (.node 293 c293 .leaf .leaf) (.node 295 c295 .leaf .leaf)) (.node 300 c300 (.node 299 c299 .leaf .leaf) (.node 301 c301 .leaf .leaf))) (.node 306 c306 (.node 304 c304 (.node 303 c303 .leaf .leaf) (.node 305 c305 .leaf .leaf)) (.node 308 c308 (.node 307 c307 .leaf .leaf) .leaf))) (.node 316 c316 (.node 313 c313 (.node 311 c311 (.node 310 c310 .leaf .leaf) (.node 312 c312 .leaf .leaf)) (.node 315 c315 (.node 314 c314 .leaf .leaf) .leaf)) (.node 321 c321 (.node 319 c319 (.node 317 c317 .leaf .leaf) (.node 320 c320 .leaf .leaf)) (.node 323 c323 (.node 322 c322 .leaf .leaf) .leaf))))) (.node 361 c361 (.node 343 c343 (.node 332 c332 (.node 328 c328 (.node 326 c326 (.node 325 c325 .leaf .leaf) (.node 327 c327 .leaf .leaf)) (.node 330 c330 (.node 329 c329 .leaf .leaf) (.node 331 c331 .leaf .leaf))) (.node 339 c339 (.node 335 c335 (.node 333 c333 .leaf .leaf) (.node 338 c338 .leaf .leaf)) (.node 342 c342 (.node 341 c341 .leaf .leaf) .leaf))) (.node 351 c351 (.node 347 c347 (.node 345 c345 (.node 344 c344 .leaf .leaf) (.node 346 c346 .leaf .leaf)) (.node 349 c349 (.node 348 c348 .leaf .leaf) (.node 350 c350 .leaf .leaf))) (.node 355 c355 (.node 353 c353 (.node 352 c352 .leaf .leaf) (.node 354 c354 .leaf .leaf)) (.node 360 c360 (.node 358 c358 .leaf .leaf) .leaf)))) (.node 379 c379 (.node 372 c372 (.node 367 c367 (.node 363 c363 (.node 362 c362 .leaf .leaf) (.node 364 c364 .leaf .leaf)) (.node 369 c369 (.node 368 c368 .leaf .leaf) (.node 370 c370 .leaf .leaf))) (.node 376 c376 (.node 374 c374 (.node 373 c373 .leaf .leaf) (.node 375 c375 .leaf .leaf)) (.node 378 c378 (.node 377 c377 .leaf .leaf) .leaf))) (.node 386 c386 (.node 383 c383 (.node 381 c381 (.node 380 c380 .leaf .leaf) (.node 382 c382 .leaf .leaf)) (.node 385 c385 (.node 384 c384 .leaf .leaf) .leaf)) (.node 390 c390 (.node 388 c388 (.node 387 c387 .leaf .leaf) (.node 389 c389 .leaf .leaf)) (.node 392 c392 (.node 391 c391 .leaf .leaf) .leaf)))))) (.node 453 c453 (.node 424 c424 (.node 408 c408 (.node 401 c401 (.node 397 c397 (.node 395 c395 (.node 394 c394 .leaf .leaf) (.node 396 c396 .leaf .leaf)) (.node 399 c399 (.node 398 c398 .leaf .leaf) (.node 400 c400 .leaf .leaf))) (.node 405 c405 (.node 403 c403 (.node 402 c402 .leaf .leaf) (.node 404 c404 .leaf .leaf)) (.node 407 c407 (.node 406 c406 .leaf .leaf) .leaf))) (.node 416 c416 (.node 412 c412 (.node 410 c410 (.node 409 c409 .leaf .leaf) (.node 411 c411 .leaf .leaf)) (.node 414 c414 (.node 413 c413 .leaf .leaf) (.node 415 c415 .leaf .leaf))) (.node 421 c421 (.node 418 c418 (.node 417 c417 .leaf .leaf) (.node 420 c420 .leaf .leaf)) (.node 423 c423 (.node 422 c422 .leaf .leaf) .leaf)))) (.node 439 c439 (.node 432 c432 (.node 428 c428 (.node 426 c426 (.node 425 c425 .leaf .leaf) (.node 427 c427 .leaf .leaf)) (.node 430 c430 (.node 429 c429 .leaf .leaf) (.node 431 c431 .leaf .leaf))) (.node 436 c436 (.node 434 c434 (.node 433 c433 .leaf .leaf) (.node 435 c435 .leaf .leaf)) (.node 438 c438 (.node 437 c437 .leaf .leaf) .leaf))) (.node 446 c446 (.node 443 c443 (.node 441 c441 (.node 440 c440 .leaf .leaf) (.node 442 c442 .leaf .leaf)) (.node 445 c445 (.node 444 c444 .leaf .leaf) .leaf)) (.node 450 c450 (.node 448 c448 (.node 447 c447 .leaf .leaf) (.node 449 c449 .leaf .leaf)) (.node 452 c452 (.node 451 c451 .leaf .leaf) .leaf))))) (.node 487 c487 (.node 471 c471 (.node 462 c462 (.node 457 c457 (.node 455 c455 (.node 454 c454 .leaf .leaf) (.node 456 c456 .leaf .leaf)) (.node 459 c459 (.node 458 c458 .leaf .leaf) (.node 460 c460 .leaf .leaf))) (.node 468 c468 (.node 466 c466 (.node 463 c463 .leaf .leaf) (.node 467 c467 .leaf .leaf)) (.node 470 c470 (.node 469 c469 .leaf .leaf) .leaf))) (.node 479 c479 (.node 475 c475 (.node 473 c473 (.node 472 c472 .leaf .leaf) (.node 474 c474 .leaf .leaf)) (.node 477 c477 (.node 476 c476 .leaf .leaf) (.node 478 c478 .leaf .leaf))) (.node 484 c484 (.node 482 c482 (.node 480 c480 .leaf .leaf) (.node 483 c483 .leaf .leaf)) (.node 486 c486 (.node 485 c485 .leaf .leaf) .leaf)))) (.node 502 c502 (.node 495 c495 (.node 491 c491 (.node 489 c489 (.node 488 c488 .leaf .leaf) (.node 490 c490 .leaf .leaf)) (.node 493 c493 (.node 492 c492 .leaf .leaf) (.node 494 c494 .leaf .leaf))) (.node 499 c499 (.node 497 c497 (.node 496 c496 .leaf .leaf) (.node 498 c498 .leaf .leaf)) (.node 501 c501 (.node 500 c500 .leaf .leaf) .leaf))) (.node 509 c509 (.node 506 c506 (.node 504 c504 (.node 503 c503 .leaf .leaf) (.node 505 c505 .leaf .leaf)) (.node 508 c508 (.node 507 c507 .leaf .leaf) .leaf)) (.node 513 c513 (.node 511 c511 (.node 510 c510 .leaf .leaf) (.node 512 c512 .leaf .leaf)) (.node 550 c550 (.node 546 c546 .leaf .leaf) .leaf))))))))
set_option maxRecDepth 100000 in
theorem ft_tbl : ft.toL = tbl := by kernel_rfl
theorem ft_ok {f : Nat} {c : CFun} (h : ft.get f = some c) : FnOK theP.P f c := tbl_all.mem f c (ft_tbl ▸ BT.get_mem h)
end Go.Proofs.Z
end
section
namespace Go.Proofs.Z
open Go Go.RowKit Go.Proofs
set_option maxHeartbeats 1000000 in
set_option maxRecDepth 100000 in
theorem copy_used (b : Nat) (w : World) (h0 : w.cell? ⟨b, 0, none⟩ = some (.pointer (some ⟨b, 0, none⟩))) :
    Calls Tryz.prog 211 #[.pointer (some ⟨b, 0, none⟩)] w fun e w' => e = .returned (.tuple #[]) ∧ w' = w := by
  obtain ⟨j, hj⟩ : ∃ j, Tryz.prog.info? 221 = some j := ⟨_, rfl⟩
  go_enter Tryz.func211, Tryz.ntmps211
  go_wp2
  rw [Lib.run_neq_ptr_same w _ Tryz.underlying219 hj]
  go_wp2
  go_end0
  exact ⟨rfl, rfl⟩
set_option maxHeartbeats 1000000 in
set_option maxRecDepth 100000 in
theorem copy_fresh (b T : Nat) (hT : T = 223) (w : World) (h0 : w.cell? ⟨b, 0, none⟩ = some (.pointer none)) (hsh : w.shape? b = some (T, 2)) (hfz : w.frozen? ⟨b, 0, none⟩ = false) :
    Calls Tryz.prog 211 #[.pointer (some ⟨b, 0, none⟩)] w fun e w' => e = .returned (.tuple #[]) ∧ w' = w.setCell ⟨b, 0, none⟩ (.pointer (some ⟨b, 0, none⟩)) := by
  subst hT
  obtain ⟨j, hj, hjs⟩ : ∃ j, Tryz.prog.info? 221 = some j ∧ (j.size == 0) = false := ⟨_, rfl, by kernel_rfl⟩
  have hl : liesAt Tryz.prog Tryz.prog.depth 223 (2 / Tryz.prog.cellsOf 223) 0 221 1 = true := by kernel_rfl
  go_enter Tryz.func211, Tryz.ntmps211
  go_wp2
  rw [Lib.run_to_unsafe w ⟨b, 0, none⟩ Tryz.underlying219 Tryz.underlying102 hj (by simpa using hjs) hsh (Nat.zero_lt_succ 1)]
  simp only [Result.andThen]
  rw [Oper.upon_value]
  go_wp2
  rw [run_callFunc_extern Tryz.func296 (by kernel_rfl) (by kernel_rfl) (by kernel_rfl) (e := Extern.AbiNoEscape.same) (by kernel_rfl)]
  rw [Lib.run_noEscape]
  simp only [Result.andThen]
  rw [Oper.upon_value]
  go_wp2
  rw [Lib.run_from_unsafe w ⟨b, 0, none⟩ Tryz.underlying102 Tryz.underlying219 hj hsh hl]
  simp only [Result.andThen]
  rw [Oper.upon_value]
  go_wp2
  go_end0
  exact ⟨rfl, rfl⟩
end Go.Proofs.Z
end
section
namespace Go.Proofs.Z
open Go Go.RowKit Go.Proofs
set_option maxHeartbeats 1000000 in
set_option maxRecDepth 100000 in
theorem string_hit (b g cap T : Nat) (p : Value) (cur : Array Value) (l : List UInt8) (w : World) (hb : w.heap[b]? = some (.cells #[p, .slice (some ⟨g, 0, none⟩) l.length cap] T (0, 0)))
    (hg : w.heap[g]? = some (.cells cur 5 (0, 0))) (h0 : l ≠ []) (hcap : l.length ≤ cap) (hsz : l.length ≤ cur.size) (hlen : l.length ≤ 1099511627776) (hc : ∀ (j : Nat) x, l[j]? = some x → cur[j]? = some (.int .u8 x.toNat)) :
    Calls Tryz.prog 127 #[.pointer (some ⟨b, 0, none⟩)] w fun e w' => e = .returned (.string ⟨l.toArray⟩) ∧ w' = w.drew.freeze ⟨g, 0, none⟩ l.length := by
  have hl0 : l.length ≠ 0 := by simpa using h0
  have c1 : w.drew.cell? ⟨b, 1, none⟩ = some (.slice (some ⟨g, 0, none⟩) l.length cap) := by
    have : w.drew.heap[b]? = some (.cells #[p, .slice (some ⟨g, 0, none⟩) l.length cap] T (0, 0)) := hb
    rw [Lib.cell_of_heap this]; rfl
  have hSD : (Builtin.unsafeSliceData_ #[95] 301 #[.slice (some ⟨g, 0, none⟩) l.length cap]).run Tryz.prog w.drew = .ok (.pointer (some ⟨g, 0, none⟩)) w.drew :=
    Lib.run_unsafeSliceData_row _ _ _ _ _ _ (by omega)
  have hUS : (Builtin.unsafeString_ #[301, 3] 9 #[.pointer (some ⟨g, 0, none⟩), .int .i64 l.length]).run Tryz.prog w.drew = .ok (.string ⟨l.toArray⟩) (w.drew.freeze ⟨g, 0, none⟩ l.length) := by
    refine Lib.run_unsafeString_row w.drew 301 3 9 5 Tryz.underlying301 (by kernel_rfl) g cur.size (by have hg' : w.drew.heap[g]? = some (.cells cur 5 (0, 0)) := hg; simp [World.shape?, hg']) l h0 (by omega) (by omega) ?_
    intro j x hx
    have hg' : w.drew.heap[g]? = some (.cells cur 5 (0, 0)) := hg
    have e : (⟨g, 0, none⟩ : Addr).add j = ⟨g, j, none⟩ := by
      by_cases h : j = 0 <;> simp [Addr.add, h]
    rw [e]
    simp [World.cell?, hg', hc j x hx]
  go_enter Tryz.func127, Tryz.ntmps127
  go_wp2
  go_region
  all_goals (go_wp2; go_ret; exact ⟨rfl, rfl⟩)
theorem string_nil (b T : Nat) (p : Value) (w : World) (hb : w.heap[b]? = some (.cells #[p, .slice none 0 0] T (0, 0))) :
    Calls Tryz.prog 127 #[.pointer (some ⟨b, 0, none⟩)] w fun e w' => e = .returned (.string ⟨#[]⟩) ∧ w' = w.drew := by
  have c1 : w.drew.cell? ⟨b, 1, none⟩ = some (.slice none 0 0) := by
    have : w.drew.heap[b]? = some (.cells #[p, .slice none 0 0] T (0, 0)) := hb
    rw [Lib.cell_of_heap this]; rfl
  have hSD : (Builtin.unsafeSliceData_ #[95] 301 #[.slice none 0 0]).run Tryz.prog w.drew = .ok (.pointer none) w.drew := rfl
  have hUS : (Builtin.unsafeString_ #[301, 3] 9 #[.pointer none, .int .i64 0]).run Tryz.prog w.drew = .ok (.string ⟨#[]⟩) w.drew := by kernel_rfl
  go_enter Tryz.func127, Tryz.ntmps127
  go_wp2
  go_region
  all_goals (go_wp2; go_ret; exact ⟨rfl, rfl⟩)
end Go.Proofs.Z
end
section
namespace Go.Proofs.Z
open Go Go.RowKit
variable [hP : HasP]
section
variable {m : Mem} {μ : Mu} {G : Heap} {w w' : World}
theorem Inv.sz (hI : Inv m μ G w) {id : Nat} {loc : Loc} (hl : μ id = some loc) : loc.blk < w.heap.size := hI.lt hl
theorem below_step (hI : Inv m μ G w) (h : Below w.heap.size w w') : Inv m μ G w' ∧ Stp m μ G w m μ G w' := by
  have hfr : Fr m μ w m μ w' := ⟨h.os, h.tape, h.output, h.size, fun b hb _ => h.block b hb, fun _ _ _ h => .inl h, fun id loc h => .inr ⟨id, loc, h, rfl⟩⟩
  refine ⟨⟨fun b o v hm => ?_, hI.inj, fun id o ho loc hl => (hI.obj id o ho loc hl).move (.refl _ _ _) (h.block _ (hI.lt hl)) (fun _ h => h), hI.dom, hI.glob.step hfr⟩, ⟨.refl _ _ _, hfr, .refl _ _⟩⟩
  have h1 := hI.known b o v hm
  have h2 := World.block_lt_of_cell? w _ h1
  dsimp only at h2
  unfold World.cell? at h1 ⊢
  dsimp only at h1 ⊢
  rw [h.block b h2]
  exact h1
theorem fresh_step (hI : Inv m μ G w) {N : Nat} {cs : Array Value} {T : TypeId} {fz : Nat × Nat} (hN : w.heap.size ≤ N) (hat : w'.heap[N]? = some (.cells cs T fz)) (h : Below w.heap.size w w') :
    ∃ m', Inv m' μ G w' ∧ Stp m μ G w m' μ G w' ∧ (∀ b o v, m b o = some v → m' b o = some v) ∧ ∀ (o : Nat) v, cs[o]? = some v → m' N o = some v := by
  obtain ⟨i1, i2⟩ := below_step hI h
  let m' : Mem := fun b o => if b = N then cs[o]? else m b o
  have hnN : ∀ b o v, m b o = some v → b ≠ N := fun b o v hm e => by
    have h1 := hI.known b o v hm
    have h2 := World.block_lt_of_cell? w _ h1
    dsimp only at h2
    omega
  have hmem : ∀ b o v, m b o = some v → m' b o = some v := fun b o v hm => by
    show (if b = N then cs[o]? else m b o) = some v
    rw [if_neg (hnN b o v hm)]; exact hm
  have hext : Ext m μ G m' μ G := ⟨hmem, fun _ _ h h' => ⟨h, h'⟩, fun id loc g sz h h' => ⟨loc, g, h, h', Nat.le_refl _, fun _ => rfl⟩⟩
  have hfr : Fr m μ w m' μ w' := ⟨h.os, h.tape, h.output, h.size, fun b hb _ => h.block b hb, fun b o v hm => by
    change (if b = N then cs[o]? else m b o) = some v at hm
    split at hm
    · rename_i e; exact .inr (.inl (by omega))
    · exact .inl hm, fun id loc h => .inr ⟨id, loc, h, rfl⟩⟩
  refine ⟨m', ⟨fun b o v hm => ?_, hI.inj, fun id o ho loc hl => (hI.obj id o ho loc hl).move hext (h.block _ (hI.lt hl)) (fun o hn => ?_), hI.dom, hI.glob.step hfr⟩, ⟨hext, hfr, .refl _ _⟩, hmem, fun o v hv => by show (if N = N then cs[o]? else m N o) = some v; rw [if_pos rfl]; exact hv⟩
  · change (if b = N then cs[o]? else m b o) = some v at hm
    split at hm
    · rename_i e; subst e; simp [World.cell?, hat, hm]
    · exact i1.known b o v hm
  · show (if loc.blk = N then cs[o]? else m loc.blk o) = none
    rw [if_neg (by have := hI.lt hl; omega)]; exact hn
theorem Stp.id (hI : Inv m μ G w) : Stp m μ G w m μ G w := .refl _ _ _ _
theorem pure_orc {f : Nat} {vs : Array Value} {v : Value} {a : AV} (hI : Inv m μ G w) (hr : R m μ (inf G) v a) (hc : Calls hP.P f vs w fun e w' => e = .returned v ∧ Below w.heap.size w w') : CallsIn (Fn none) 0 hP.P f vs w (Back m μ G w G (.ret a)) := by
  have h1 := (callsIn_wide (n := 0)).2 hc
  refine CallsIn.mono h1 fun e w' h => ?_
  obtain ⟨rfl, hb⟩ := h
  obtain ⟨i1, i2⟩ := below_step hI hb
  exact ⟨m, μ, i1, i2, hr⟩
end
end Go.Proofs.Z
end
