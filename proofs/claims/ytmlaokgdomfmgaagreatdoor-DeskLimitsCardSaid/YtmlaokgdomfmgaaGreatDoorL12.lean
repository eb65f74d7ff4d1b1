/- A part of the proof. -/
import Derived.Test.YtmlaokgdomfmgaaGreatDoorL10
import Derived.Test.YtmlaokgdomfmgaaGreatDoorProg
set_option linter.all false
section
namespace Go.Proofs.Z
open Go Go.Proofs
set_option maxRecDepth 100000
set_option maxHeartbeats 1000000
noncomputable section
def r222 := w (qFunc Tryz.prog 222)
def a222 := w (an r222)
def c222l0 : CCode := wf (ml a222 [])
def c222 : CFun := (wf fun x0 => mk a222 false false [x0]) c222l0
theorem ok222 : comp Tryz.prog 222 c222.md = some (erase c222.body, c222.res) := by kernel_rfl
theorem ft222 : c222.fit = true := by kernel_rfl
def r223 := w (qFunc Tryz.prog 223)
def a223 := w (an r223)
def c223 : CFun := wf (mk a223 false false [])
theorem ok223 : comp Tryz.prog 223 c223.md = some (erase c223.body, c223.res) := by kernel_rfl
theorem ft223 : c223.fit = true := by kernel_rfl
def r224 := w (qFunc Tryz.prog 224)
def a224 := w (an r224)
def c224l0 : CCode := wf (ml a224 [])
def c224 : CFun := (wf fun x0 => mk a224 false false [x0]) c224l0
theorem ok224 : comp Tryz.prog 224 c224.md = some (erase c224.body, c224.res) := by kernel_rfl
theorem ft224 : c224.fit = true := by kernel_rfl
def r225 := w (qFunc Tryz.prog 225)
def a225 := w (an r225)
def c225l0 : CCode := wf (ml a225 [])
def c225 : CFun := (wf fun x0 => mk a225 false false [x0]) c225l0
theorem ok225 : comp Tryz.prog 225 c225.md = some (erase c225.body, c225.res) := by kernel_rfl
theorem ft225 : c225.fit = true := by kernel_rfl
def r226 := w (qFunc Tryz.prog 226)
def a226 := w (an r226)
def c226 : CFun := wf (mk a226 false false [])
theorem ok226 : comp Tryz.prog 226 c226.md = some (erase c226.body, c226.res) := by kernel_rfl
theorem ft226 : c226.fit = true := by kernel_rfl
def r227 := w (qFunc Tryz.prog 227)
def a227 := w (an r227)
def c227 : CFun := wf (mk a227 false false [])
theorem ok227 : comp Tryz.prog 227 c227.md = some (erase c227.body, c227.res) := by kernel_rfl
theorem ft227 : c227.fit = true := by kernel_rfl
def r228 := w (qFunc Tryz.prog 228)
def a228 := w (an r228)
def c228 : CFun := wf (mk a228 false false [])
theorem ok228 : comp Tryz.prog 228 c228.md = some (erase c228.body, c228.res) := by kernel_rfl
theorem ft228 : c228.fit = true := by kernel_rfl
def r229 := w (qFunc Tryz.prog 229)
def a229 := w (an r229)
def c229 : CFun := wf (mk a229 false false [])
theorem ok229 : comp Tryz.prog 229 c229.md = some (erase c229.body, c229.res) := by kernel_rfl
theorem ft229 : c229.fit = true := by kernel_rfl
def r230 := w (qFunc Tryz.prog 230)
def a230 := w (an r230)
def c230l0 : CCode := wf (ml a230 [])
def c230 : CFun := (wf fun x0 => mk a230 false false [x0]) c230l0
theorem ok230 : comp Tryz.prog 230 c230.md = some (erase c230.body, c230.res) := by kernel_rfl
theorem ft230 : c230.fit = true := by kernel_rfl
def r231 := w (qFunc Tryz.prog 231)
def a231 := w (an r231)
def c231 : CFun := wf (mk a231 false false [])
theorem ok231 : comp Tryz.prog 231 c231.md = some (erase c231.body, c231.res) := by kernel_rfl
theorem ft231 : c231.fit = true := by kernel_rfl
def r232 := w (qFunc Tryz.prog 232)
def a232 := w (an r232)
def c232 : CFun := wf (mk a232 false false [])
theorem ok232 : comp Tryz.prog 232 c232.md = some (erase c232.body, c232.res) := by kernel_rfl
theorem ft232 : c232.fit = true := by kernel_rfl
def r233 := w (qFunc Tryz.prog 233)
def a233 := w (an r233)
def c233 : CFun := wf (mk a233 false false [])
theorem ok233 : comp Tryz.prog 233 c233.md = some (erase c233.body, c233.res) := by kernel_rfl
theorem ft233 : c233.fit = true := by kernel_rfl
def r234 := w (qFunc Tryz.prog 234)
def a234 := w (an r234)
def c234l0 : CCode := wf (ml a234 [])
def c234 : CFun := (wf fun x0 => mk a234 false false [x0]) c234l0
theorem ok234 : comp Tryz.prog 234 c234.md = some (erase c234.body, c234.res) := by kernel_rfl
theorem ft234 : c234.fit = true := by kernel_rfl
def r235 := w (qFunc Tryz.prog 235)
def a235 := w (an r235)
def c235l0 : CCode := wf (ml a235 [])
def c235 : CFun := (wf fun x0 => mk a235 false false [x0]) c235l0
theorem ok235 : comp Tryz.prog 235 c235.md = some (erase c235.body, c235.res) := by kernel_rfl
theorem ft235 : c235.fit = true := by kernel_rfl
def r236 := w (qFunc Tryz.prog 236)
def a236 := w (an r236)
def c236l0 : CCode := wf (ml a236 [])
def c236 : CFun := (wf fun x0 => mk a236 false false [x0]) c236l0
theorem ok236 : comp Tryz.prog 236 c236.md = some (erase c236.body, c236.res) := by kernel_rfl
theorem ft236 : c236.fit = true := by kernel_rfl
def r237 := w (qFunc Tryz.prog 237)
def a237 := w (an r237)
def c237l0 : CCode := wf (ml a237 [])
def c237 : CFun := (wf fun x0 => mk a237 false false [x0]) c237l0
theorem ok237 : comp Tryz.prog 237 c237.md = some (erase c237.body, c237.res) := by kernel_rfl
theorem ft237 : c237.fit = true := by kernel_rfl
def r238 := w (qFunc Tryz.prog 238)
def a238 := w (an r238)
def c238 : CFun := wf (mk a238 false false [])
theorem ok238 : comp Tryz.prog 238 c238.md = some (erase c238.body, c238.res) := by kernel_rfl
theorem ft238 : c238.fit = true := by kernel_rfl
def r239 := w (qFunc Tryz.prog 239)
def a239 := w (an r239)
def c239l0 : CCode := wf (ml a239 [])
def c239 : CFun := (wf fun x0 => mk a239 false false [x0]) c239l0
theorem ok239 : comp Tryz.prog 239 c239.md = some (erase c239.body, c239.res) := by kernel_rfl
theorem ft239 : c239.fit = true := by kernel_rfl
def r240 := w (qFunc Tryz.prog 240)
def a240 := w (an r240)
def c240 : CFun := wf (mk a240 false false [])
theorem ok240 : comp Tryz.prog 240 c240.md = some (erase c240.body, c240.res) := by kernel_rfl
theorem ft240 : c240.fit = true := by kernel_rfl
def r241 := w (qFunc Tryz.prog 241)
def a241 := w (an r241)
def c241l0 : CCode := wf (ml a241 [])
def c241l1 : CCode := (wf fun x0 => ml a241 [x0]) c241l0
def c241l2 : CCode := (wf fun x0 x1 => ml a241 [x0, x1]) c241l0 c241l1
def c241 : CFun := (wf fun x0 x1 x2 => mk a241 false false [x0, x1, x2]) c241l0 c241l1 c241l2
theorem ok241 : comp Tryz.prog 241 c241.md = some (erase c241.body, c241.res) := by kernel_rfl
theorem ft241 : c241.fit = true := by kernel_rfl
def r242 := w (qFunc Tryz.prog 242)
def a242 := w (an r242)
def c242 : CFun := wf (mk a242 false false [])
theorem ok242 : comp Tryz.prog 242 c242.md = some (erase c242.body, c242.res) := by kernel_rfl
theorem ft242 : c242.fit = true := by kernel_rfl
def r243 := w (qFunc Tryz.prog 243)
def a243 := w (an r243)
def c243 : CFun := wf (mk a243 false false [])
theorem ok243 : comp Tryz.prog 243 c243.md = some (erase c243.body, c243.res) := by kernel_rfl
theorem ft243 : c243.fit = true := by kernel_rfl
def r244 := w (qFunc Tryz.prog 244)
def a244 := w (an r244)
def c244 : CFun := wf (mk a244 false false [])
theorem ok244 : comp Tryz.prog 244 c244.md = some (erase c244.body, c244.res) := by kernel_rfl
theorem ft244 : c244.fit = true := by kernel_rfl
def r245 := w (qFunc Tryz.prog 245)
def a245 := w (an r245)
def c245l0 : CCode := wf (ml a245 [])
def c245 : CFun := (wf fun x0 => mk a245 false false [x0]) c245l0
theorem ok245 : comp Tryz.prog 245 c245.md = some (erase c245.body, c245.res) := by kernel_rfl
theorem ft245 : c245.fit = true := by kernel_rfl
def r246 := w (qFunc Tryz.prog 246)
def a246 := w (an r246)
def c246 : CFun := wf (mk a246 false false [])
theorem ok246 : comp Tryz.prog 246 c246.md = some (erase c246.body, c246.res) := by kernel_rfl
theorem ft246 : c246.fit = true := by kernel_rfl
def r247 := w (qFunc Tryz.prog 247)
def a247 := w (an r247)
def c247l0 : CCode := wf (ml a247 [])
def c247 : CFun := (wf fun x0 => mk a247 false false [x0]) c247l0
theorem ok247 : comp Tryz.prog 247 c247.md = some (erase c247.body, c247.res) := by kernel_rfl
theorem ft247 : c247.fit = true := by kernel_rfl
def r248 := w (qFunc Tryz.prog 248)
def a248 := w (an r248)
def c248l0 : CCode := wf (ml a248 [])
def c248 : CFun := (wf fun x0 => mk a248 false false [x0]) c248l0
theorem ok248 : comp Tryz.prog 248 c248.md = some (erase c248.body, c248.res) := by kernel_rfl
theorem ft248 : c248.fit = true := by kernel_rfl
def r249 := w (qFunc Tryz.prog 249)
def a249 := w (an r249)
def c249l0 : CCode := wf (ml a249 [])
def c249 : CFun := (wf fun x0 => mk a249 false false [x0]) c249l0
theorem ok249 : comp Tryz.prog 249 c249.md = some (erase c249.body, c249.res) := by kernel_rfl
theorem ft249 : c249.fit = true := by kernel_rfl
def r250 := w (qFunc Tryz.prog 250)
def a250 := w (an r250)
def c250l0 : CCode := wf (ml a250 [])
def c250 : CFun := (wf fun x0 => mk a250 false false [x0]) c250l0
theorem ok250 : comp Tryz.prog 250 c250.md = some (erase c250.body, c250.res) := by kernel_rfl
theorem ft250 : c250.fit = true := by kernel_rfl
def r251 := w (qFunc Tryz.prog 251)
def a251 := w (an r251)
def c251 : CFun := wf (mk a251 false false [])
theorem ok251 : comp Tryz.prog 251 c251.md = some (erase c251.body, c251.res) := by kernel_rfl
theorem ft251 : c251.fit = true := by kernel_rfl
def r252 := w (qFunc Tryz.prog 252)
def a252 := w (an r252)
def c252 : CFun := wf (mk a252 false false [])
theorem ok252 : comp Tryz.prog 252 c252.md = some (erase c252.body, c252.res) := by kernel_rfl
theorem ft252 : c252.fit = true := by kernel_rfl
def r253 := w (qFunc Tryz.prog 253)
def a253 := w (an r253)
def c253 : CFun := wf (mk a253 false false [])
theorem ok253 : comp Tryz.prog 253 c253.md = some (erase c253.body, c253.res) := by kernel_rfl
theorem ft253 : c253.fit = true := by kernel_rfl
def r254 := w (qFunc Tryz.prog 254)
def a254 := w (an r254)
def c254 : CFun := wf (mk a254 false false [])
theorem ok254 : comp Tryz.prog 254 c254.md = some (erase c254.body, c254.res) := by kernel_rfl
theorem ft254 : c254.fit = true := by kernel_rfl
def r255 := w (qFunc Tryz.prog 255)
def a255 := w (an r255)
def c255 : CFun := wf (mk a255 false false [])
theorem ok255 : comp Tryz.prog 255 c255.md = some (erase c255.body, c255.res) := by kernel_rfl
theorem ft255 : c255.fit = true := by kernel_rfl
def r256 := w (qFunc Tryz.prog 256)
def a256 := w (an r256)
def c256 : CFun := wf (mk a256 false false [])
theorem ok256 : comp Tryz.prog 256 c256.md = some (erase c256.body, c256.res) := by kernel_rfl
theorem ft256 : c256.fit = true := by kernel_rfl
def r257 := w (qFunc Tryz.prog 257)
def a257 := w (an r257)
def c257 : CFun := wf (mk a257 false false [])
theorem ok257 : comp Tryz.prog 257 c257.md = some (erase c257.body, c257.res) := by kernel_rfl
theorem ft257 : c257.fit = true := by kernel_rfl
def r258 := w (qFunc Tryz.prog 258)
def a258 := w (an r258)
def c258 : CFun := wf (mk a258 false false [])
theorem ok258 : comp Tryz.prog 258 c258.md = some (erase c258.body, c258.res) := by kernel_rfl
theorem ft258 : c258.fit = true := by kernel_rfl
def r259 := w (qFunc Tryz.prog 259)
def a259 := w (an r259)
def c259 : CFun := wf (mk a259 false false [])
theorem ok259 : comp Tryz.prog 259 c259.md = some (erase c259.body, c259.res) := by kernel_rfl
theorem ft259 : c259.fit = true := by kernel_rfl
def r260 := w (qFunc Tryz.prog 260)
def a260 := w (an r260)
def c260l0 : CCode := wf (ml a260 [])
def c260 : CFun := (wf fun x0 => mk a260 false false [x0]) c260l0
theorem ok260 : comp Tryz.prog 260 c260.md = some (erase c260.body, c260.res) := by kernel_rfl
theorem ft260 : c260.fit = true := by kernel_rfl
def r261 := w (qFunc Tryz.prog 261)
def a261 := w (an r261)
def c261 : CFun := wf (mk a261 false false [])
theorem ok261 : comp Tryz.prog 261 c261.md = some (erase c261.body, c261.res) := by kernel_rfl
theorem ft261 : c261.fit = true := by kernel_rfl
end
end Go.Proofs.Z
end
section
namespace Go.Proofs.Z
open Go Go.Proofs
set_option maxRecDepth 100000
set_option maxHeartbeats 1000000
noncomputable section
def r262 := w (qFunc Tryz.prog 262)
def a262 := w (an r262)
def c262 : CFun := wf (mk a262 false false [])
theorem ok262 : comp Tryz.prog 262 c262.md = some (erase c262.body, c262.res) := by kernel_rfl
theorem ft262 : c262.fit = true := by kernel_rfl
def r263 := w (qFunc Tryz.prog 263)
def a263 := w (an r263)
def c263 : CFun := wf (mk a263 false false [])
theorem ok263 : comp Tryz.prog 263 c263.md = some (erase c263.body, c263.res) := by kernel_rfl
theorem ft263 : c263.fit = true := by kernel_rfl
def r264 := w (qFunc Tryz.prog 264)
def a264 := w (an r264)
def c264 : CFun := wf (mk a264 false false [])
theorem ok264 : comp Tryz.prog 264 c264.md = some (erase c264.body, c264.res) := by kernel_rfl
theorem ft264 : c264.fit = true := by kernel_rfl
def r265 := w (qFunc Tryz.prog 265)
def a265 := w (an r265)
def c265 : CFun := wf (mk a265 false false [])
theorem ok265 : comp Tryz.prog 265 c265.md = some (erase c265.body, c265.res) := by kernel_rfl
theorem ft265 : c265.fit = true := by kernel_rfl
def r266 := w (qFunc Tryz.prog 266)
def a266 := w (an r266)
def c266 : CFun := wf (mk a266 false false [])
theorem ok266 : comp Tryz.prog 266 c266.md = some (erase c266.body, c266.res) := by kernel_rfl
theorem ft266 : c266.fit = true := by kernel_rfl
def r267 := w (qFunc Tryz.prog 267)
def a267 := w (an r267)
def c267 : CFun := wf (mk a267 false false [])
theorem ok267 : comp Tryz.prog 267 c267.md = some (erase c267.body, c267.res) := by kernel_rfl
theorem ft267 : c267.fit = true := by kernel_rfl
def r268 := w (qFunc Tryz.prog 268)
def a268 := w (an r268)
def c268 : CFun := wf (mk a268 false false [])
theorem ok268 : comp Tryz.prog 268 c268.md = some (erase c268.body, c268.res) := by kernel_rfl
theorem ft268 : c268.fit = true := by kernel_rfl
def r269 := w (qFunc Tryz.prog 269)
def a269 := w (an r269)
def c269l0 : CCode := wf (ml a269 [])
def c269 : CFun := (wf fun x0 => mk a269 false false [x0]) c269l0
theorem ok269 : comp Tryz.prog 269 c269.md = some (erase c269.body, c269.res) := by kernel_rfl
theorem ft269 : c269.fit = true := by kernel_rfl
def r270 := w (qFunc Tryz.prog 270)
def a270 := w (an r270)
def c270 : CFun := wf (mk a270 false false [])
theorem ok270 : comp Tryz.prog 270 c270.md = some (erase c270.body, c270.res) := by kernel_rfl
theorem ft270 : c270.fit = true := by kernel_rfl
def r272 := w (qFunc Tryz.prog 272)
def a272 := w (an r272)
def c272 : CFun := wf (mk a272 false false [])
theorem ok272 : comp Tryz.prog 272 c272.md = some (erase c272.body, c272.res) := by kernel_rfl
theorem ft272 : c272.fit = true := by kernel_rfl
def r274 := w (qFunc Tryz.prog 274)
def a274 := w (an r274)
def c274 : CFun := wf (mk a274 false false [])
theorem ok274 : comp Tryz.prog 274 c274.md = some (erase c274.body, c274.res) := by kernel_rfl
theorem ft274 : c274.fit = true := by kernel_rfl
def r275 := w (qFunc Tryz.prog 275)
def a275 := w (an r275)
def c275l0 : CCode := wf (ml a275 [])
def c275l1 : CCode := (wf fun x0 => ml a275 [x0]) c275l0
def c275 : CFun := (wf fun x0 x1 => mk a275 false false [x0, x1]) c275l0 c275l1
theorem ok275 : comp Tryz.prog 275 c275.md = some (erase c275.body, c275.res) := by kernel_rfl
theorem ft275 : c275.fit = true := by kernel_rfl
def r279 := w (qFunc Tryz.prog 279)
def a279 := w (an r279)
def c279 : CFun := wf (mk a279 false false [])
theorem ok279 : comp Tryz.prog 279 c279.md = some (erase c279.body, c279.res) := by kernel_rfl
theorem ft279 : c279.fit = true := by kernel_rfl
def r280 := w (qFunc Tryz.prog 280)
def a280 := w (an r280)
def c280 : CFun := wf (mk a280 false false [])
theorem ok280 : comp Tryz.prog 280 c280.md = some (erase c280.body, c280.res) := by kernel_rfl
theorem ft280 : c280.fit = true := by kernel_rfl
def r281 := w (qFunc Tryz.prog 281)
def a281 := w (an r281)
def c281 : CFun := wf (mk a281 false true [])
theorem ok281 : comp Tryz.prog 281 c281.md = some (erase c281.body, c281.res) := by kernel_rfl
theorem ft281 : c281.fit = true := by kernel_rfl
def r282 := w (qFunc Tryz.prog 282)
def a282 := w (an r282)
def c282 : CFun := wf (mk a282 false false [])
theorem ok282 : comp Tryz.prog 282 c282.md = some (erase c282.body, c282.res) := by kernel_rfl
theorem ft282 : c282.fit = true := by kernel_rfl
def r283 := w (qFunc Tryz.prog 283)
def a283 := w (an r283)
def c283 : CFun := wf (mk a283 false false [])
theorem ok283 : comp Tryz.prog 283 c283.md = some (erase c283.body, c283.res) := by kernel_rfl
theorem ft283 : c283.fit = true := by kernel_rfl
def r284 := w (qFunc Tryz.prog 284)
def a284 := w (an r284)
def c284 : CFun := wf (mk a284 false false [])
theorem ok284 : comp Tryz.prog 284 c284.md = some (erase c284.body, c284.res) := by kernel_rfl
theorem ft284 : c284.fit = true := by kernel_rfl
def r285 := w (qFunc Tryz.prog 285)
def a285 := w (an r285)
def c285 : CFun := wf (mk a285 false false [])
theorem ok285 : comp Tryz.prog 285 c285.md = some (erase c285.body, c285.res) := by kernel_rfl
theorem ft285 : c285.fit = true := by kernel_rfl
def r286 := w (qFunc Tryz.prog 286)
def a286 := w (an r286)
def c286 : CFun := wf (mk a286 false false [])
theorem ok286 : comp Tryz.prog 286 c286.md = some (erase c286.body, c286.res) := by kernel_rfl
theorem ft286 : c286.fit = true := by kernel_rfl
def r287 := w (qFunc Tryz.prog 287)
def a287 := w (an r287)
def c287 : CFun := wf (mk a287 false false [])
theorem ok287 : comp Tryz.prog 287 c287.md = some (erase c287.body, c287.res) := by kernel_rfl
theorem ft287 : c287.fit = true := by kernel_rfl
def r288 := w (qFunc Tryz.prog 288)
def a288 := w (an r288)
def c288 : CFun := wf (mk a288 false false [])
theorem ok288 : comp Tryz.prog 288 c288.md = some (erase c288.body, c288.res) := by kernel_rfl
theorem ft288 : c288.fit = true := by kernel_rfl
def r289 := w (qFunc Tryz.prog 289)
def a289 := w (an r289)
def c289 : CFun := wf (mk a289 false false [])
theorem ok289 : comp Tryz.prog 289 c289.md = some (erase c289.body, c289.res) := by kernel_rfl
theorem ft289 : c289.fit = true := by kernel_rfl
def r290 := w (qFunc Tryz.prog 290)
def a290 := w (an r290)
def c290 : CFun := wf (mk a290 false false [])
theorem ok290 : comp Tryz.prog 290 c290.md = some (erase c290.body, c290.res) := by kernel_rfl
theorem ft290 : c290.fit = true := by kernel_rfl
def r291 := w (qFunc Tryz.prog 291)
def a291 := w (an r291)
def c291 : CFun := wf (mk a291 false false [])
theorem ok291 : comp Tryz.prog 291 c291.md = some (erase c291.body, c291.res) := by kernel_rfl
theorem ft291 : c291.fit = true := by kernel_rfl
def r292 := w (qFunc Tryz.prog 292)
def a292 := w (an r292)
def c292 : CFun := wf (mk a292 false false [])
theorem ok292 : comp Tryz.prog 292 c292.md = some (erase c292.body, c292.res) := by kernel_rfl
theorem ft292 : c292.fit = true := by kernel_rfl
def r293 := w (qFunc Tryz.prog 293)
def a293 := w (an r293)
def c293 : CFun := wf (mk a293 false false [])
theorem ok293 : comp Tryz.prog 293 c293.md = some (erase c293.body, c293.res) := by kernel_rfl
theorem ft293 : c293.fit = true := by kernel_rfl
def r294 := w (qFunc Tryz.prog 294)
def a294 := w (an r294)
def c294l0 : CCode := wf (ml a294 [])
def c294 : CFun := (wf fun x0 => mk a294 false false [x0]) c294l0
theorem ok294 : comp Tryz.prog 294 c294.md = some (erase c294.body, c294.res) := by kernel_rfl
theorem ft294 : c294.fit = true := by kernel_rfl
def r295 := w (qFunc Tryz.prog 295)
def a295 := w (an r295)
def c295l0 : CCode := wf (ml a295 [])
def c295 : CFun := (wf fun x0 => mk a295 false false [x0]) c295l0
theorem ok295 : comp Tryz.prog 295 c295.md = some (erase c295.body, c295.res) := by kernel_rfl
theorem ft295 : c295.fit = true := by kernel_rfl
def r298 := w (qFunc Tryz.prog 298)
def a298 := w (an r298)
def c298 : CFun := wf (mk a298 false false [])
theorem ok298 : comp Tryz.prog 298 c298.md = some (erase c298.body, c298.res) := by kernel_rfl
theorem ft298 : c298.fit = true := by kernel_rfl
def r299 := w (qFunc Tryz.prog 299)
def a299 := w (an r299)
def c299 : CFun := wf (mk a299 false false [])
theorem ok299 : comp Tryz.prog 299 c299.md = some (erase c299.body, c299.res) := by kernel_rfl
theorem ft299 : c299.fit = true := by kernel_rfl
def r300 := w (qFunc Tryz.prog 300)
def a300 := w (an r300)
def c300 : CFun := wf (mk a300 false false [])
theorem ok300 : comp Tryz.prog 300 c300.md = some (erase c300.body, c300.res) := by kernel_rfl
theorem ft300 : c300.fit = true := by kernel_rfl
def r301 := w (qFunc Tryz.prog 301)
def a301 := w (an r301)
def c301 : CFun := wf (mk a301 false false [])
theorem ok301 : comp Tryz.prog 301 c301.md = some (erase c301.body, c301.res) := by kernel_rfl
theorem ft301 : c301.fit = true := by kernel_rfl
def r302 := w (qFunc Tryz.prog 302)
def a302 := w (an r302)
def c302 : CFun := wf (mk a302 false false [])
theorem ok302 : comp Tryz.prog 302 c302.md = some (erase c302.body, c302.res) := by kernel_rfl
theorem ft302 : c302.fit = true := by kernel_rfl
def r303 := w (qFunc Tryz.prog 303)
def a303 := w (an r303)
def c303 : CFun := wf (mk a303 false false [])
theorem ok303 : comp Tryz.prog 303 c303.md = some (erase c303.body, c303.res) := by kernel_rfl
theorem ft303 : c303.fit = true := by kernel_rfl
def r304 := w (qFunc Tryz.prog 304)
def a304 := w (an r304)
def c304 : CFun := wf (mk a304 false false [])
theorem ok304 : comp Tryz.prog 304 c304.md = some (erase c304.body, c304.res) := by kernel_rfl
theorem ft304 : c304.fit = true := by kernel_rfl
def r305 := w (qFunc Tryz.prog 305)
def a305 := w (an r305)
def c305 : CFun := wf (mk a305 false false [])
theorem ok305 : comp Tryz.prog 305 c305.md = some (erase c305.body, c305.res) := by kernel_rfl
theorem ft305 : c305.fit = true := by kernel_rfl
def r306 := w (qFunc Tryz.prog 306)
def a306 := w (an r306)
def c306 : CFun := wf (mk a306 false false [])
theorem ok306 : comp Tryz.prog 306 c306.md = some (erase c306.body, c306.res) := by kernel_rfl
theorem ft306 : c306.fit = true := by kernel_rfl
def r307 := w (qFunc Tryz.prog 307)
def a307 := w (an r307)
def c307 : CFun := wf (mk a307 false false [])
theorem ok307 : comp Tryz.prog 307 c307.md = some (erase c307.body, c307.res) := by kernel_rfl
theorem ft307 : c307.fit = true := by kernel_rfl
def r308 := w (qFunc Tryz.prog 308)
def a308 := w (an r308)
def c308l0 : CCode := wf (ml a308 [])
def c308 : CFun := (wf fun x0 => mk a308 false false [x0]) c308l0
theorem ok308 : comp Tryz.prog 308 c308.md = some (erase c308.body, c308.res) := by kernel_rfl
theorem ft308 : c308.fit = true := by kernel_rfl
end
end Go.Proofs.Z
end
section
namespace Go.Proofs.Z
open Go Go.Proofs
set_option maxRecDepth 100000
set_option maxHeartbeats 1000000
noncomputable section
def r309 := w (qFunc Tryz.prog 309)
def a309 := w (an r309)
def c309 : CFun := wf (mk a309 false false [])
theorem ok309 : comp Tryz.prog 309 c309.md = some (erase c309.body, c309.res) := by kernel_rfl
theorem ft309 : c309.fit = true := by kernel_rfl
def r310 := w (qFunc Tryz.prog 310)
def a310 := w (an r310)
def c310 : CFun := wf (mk a310 false false [])
theorem ok310 : comp Tryz.prog 310 c310.md = some (erase c310.body, c310.res) := by kernel_rfl
theorem ft310 : c310.fit = true := by kernel_rfl
def r311 := w (qFunc Tryz.prog 311)
def a311 := w (an r311)
def c311 : CFun := wf (mk a311 false false [])
theorem ok311 : comp Tryz.prog 311 c311.md = some (erase c311.body, c311.res) := by kernel_rfl
theorem ft311 : c311.fit = true := by kernel_rfl
def r312 := w (qFunc Tryz.prog 312)
def a312 := w (an r312)
def c312 : CFun := wf (mk a312 false false [])
theorem ok312 : comp Tryz.prog 312 c312.md = some (erase c312.body, c312.res) := by kernel_rfl
theorem ft312 : c312.fit = true := by kernel_rfl
def r313 := w (qFunc Tryz.prog 313)
def a313 := w (an r313)
def c313l0 : CCode := wf (ml a313 [])
def c313 : CFun := (wf fun x0 => mk a313 false false [x0]) c313l0
theorem ok313 : comp Tryz.prog 313 c313.md = some (erase c313.body, c313.res) := by kernel_rfl
theorem ft313 : c313.fit = true := by kernel_rfl
def r314 := w (qFunc Tryz.prog 314)
def a314 := w (an r314)
def c314l0 : CCode := wf (ml a314 [])
def c314 : CFun := (wf fun x0 => mk a314 false false [x0]) c314l0
theorem ok314 : comp Tryz.prog 314 c314.md = some (erase c314.body, c314.res) := by kernel_rfl
theorem ft314 : c314.fit = true := by kernel_rfl
def r315 := w (qFunc Tryz.prog 315)
def a315 := w (an r315)
def c315 : CFun := wf (mk a315 false false [])
theorem ok315 : comp Tryz.prog 315 c315.md = some (erase c315.body, c315.res) := by kernel_rfl
theorem ft315 : c315.fit = true := by kernel_rfl
def r316 := w (qFunc Tryz.prog 316)
def a316 := w (an r316)
def c316 : CFun := wf (mk a316 false false [])
theorem ok316 : comp Tryz.prog 316 c316.md = some (erase c316.body, c316.res) := by kernel_rfl
theorem ft316 : c316.fit = true := by kernel_rfl
def r317 := w (qFunc Tryz.prog 317)
def a317 := w (an r317)
def c317 : CFun := wf (mk a317 false false [])
theorem ok317 : comp Tryz.prog 317 c317.md = some (erase c317.body, c317.res) := by kernel_rfl
theorem ft317 : c317.fit = true := by kernel_rfl
def r319 := w (qFunc Tryz.prog 319)
def a319 := w (an r319)
def c319 : CFun := wf (mk a319 false false [])
theorem ok319 : comp Tryz.prog 319 c319.md = some (erase c319.body, c319.res) := by kernel_rfl
theorem ft319 : c319.fit = true := by kernel_rfl
def r320 := w (qFunc Tryz.prog 320)
def a320 := w (an r320)
def c320 : CFun := wf (mk a320 false false [])
theorem ok320 : comp Tryz.prog 320 c320.md = some (erase c320.body, c320.res) := by kernel_rfl
theorem ft320 : c320.fit = true := by kernel_rfl
def r321 := w (qFunc Tryz.prog 321)
def a321 := w (an r321)
def c321 : CFun := wf (mk a321 false false [])
theorem ok321 : comp Tryz.prog 321 c321.md = some (erase c321.body, c321.res) := by kernel_rfl
theorem ft321 : c321.fit = true := by kernel_rfl
def r322 := w (qFunc Tryz.prog 322)
def a322 := w (an r322)
def c322 : CFun := wf (mk a322 false false [])
theorem ok322 : comp Tryz.prog 322 c322.md = some (erase c322.body, c322.res) := by kernel_rfl
theorem ft322 : c322.fit = true := by kernel_rfl
def r323 := w (qFunc Tryz.prog 323)
def a323 := w (an r323)
def c323 : CFun := wf (mk a323 false false [])
theorem ok323 : comp Tryz.prog 323 c323.md = some (erase c323.body, c323.res) := by kernel_rfl
theorem ft323 : c323.fit = true := by kernel_rfl
def r324 := w (qFunc Tryz.prog 324)
def a324 := w (an r324)
def c324 : CFun := wf (mk a324 false false [])
theorem ok324 : comp Tryz.prog 324 c324.md = some (erase c324.body, c324.res) := by kernel_rfl
theorem ft324 : c324.fit = true := by kernel_rfl
def r325 := w (qFunc Tryz.prog 325)
def a325 := w (an r325)
def c325 : CFun := wf (mk a325 false false [])
theorem ok325 : comp Tryz.prog 325 c325.md = some (erase c325.body, c325.res) := by kernel_rfl
theorem ft325 : c325.fit = true := by kernel_rfl
def r326 := w (qFunc Tryz.prog 326)
def a326 := w (an r326)
def c326 : CFun := wf (mk a326 false false [])
theorem ok326 : comp Tryz.prog 326 c326.md = some (erase c326.body, c326.res) := by kernel_rfl
theorem ft326 : c326.fit = true := by kernel_rfl
def r327 := w (qFunc Tryz.prog 327)
def a327 := w (an r327)
def c327 : CFun := wf (mk a327 false false [])
theorem ok327 : comp Tryz.prog 327 c327.md = some (erase c327.body, c327.res) := by kernel_rfl
theorem ft327 : c327.fit = true := by kernel_rfl
def r328 := w (qFunc Tryz.prog 328)
def a328 := w (an r328)
def c328l0 : CCode := wf (ml a328 [])
def c328 : CFun := (wf fun x0 => mk a328 false false [x0]) c328l0
theorem ok328 : comp Tryz.prog 328 c328.md = some (erase c328.body, c328.res) := by kernel_rfl
theorem ft328 : c328.fit = true := by kernel_rfl
def r329 := w (qFunc Tryz.prog 329)
def a329 := w (an r329)
def c329l0 : CCode := wf (ml a329 [])
def c329 : CFun := (wf fun x0 => mk a329 false false [x0]) c329l0
theorem ok329 : comp Tryz.prog 329 c329.md = some (erase c329.body, c329.res) := by kernel_rfl
theorem ft329 : c329.fit = true := by kernel_rfl
def r330 := w (qFunc Tryz.prog 330)
def a330 := w (an r330)
def c330 : CFun := wf (mk a330 false false [])
theorem ok330 : comp Tryz.prog 330 c330.md = some (erase c330.body, c330.res) := by kernel_rfl
theorem ft330 : c330.fit = true := by kernel_rfl
def r331 := w (qFunc Tryz.prog 331)
def a331 := w (an r331)
def c331 : CFun := wf (mk a331 false true [])
theorem ok331 : comp Tryz.prog 331 c331.md = some (erase c331.body, c331.res) := by kernel_rfl
theorem ft331 : c331.fit = true := by kernel_rfl
def r332 := w (qFunc Tryz.prog 332)
def a332 := w (an r332)
def c332l0 : CCode := wf (ml a332 [])
def c332 : CFun := (wf fun x0 => mk a332 false false [x0]) c332l0
theorem ok332 : comp Tryz.prog 332 c332.md = some (erase c332.body, c332.res) := by kernel_rfl
theorem ft332 : c332.fit = true := by kernel_rfl
def r333 := w (qFunc Tryz.prog 333)
def a333 := w (an r333)
def c333l0 : CCode := wf (ml a333 [])
def c333 : CFun := (wf fun x0 => mk a333 false false [x0]) c333l0
theorem ok333 : comp Tryz.prog 333 c333.md = some (erase c333.body, c333.res) := by kernel_rfl
theorem ft333 : c333.fit = true := by kernel_rfl
def r335 := w (qFunc Tryz.prog 335)
def a335 := w (an r335)
def c335l0 : CCode := wf (ml a335 [])
def c335l1 : CCode := (wf fun x0 => ml a335 [x0]) c335l0
def c335 : CFun := (wf fun x0 x1 => mk a335 false false [x0, x1]) c335l0 c335l1
theorem ok335 : comp Tryz.prog 335 c335.md = some (erase c335.body, c335.res) := by kernel_rfl
theorem ft335 : c335.fit = true := by kernel_rfl
def r338 := w (qFunc Tryz.prog 338)
def a338 := w (an r338)
def c338 : CFun := wf (mk a338 false false [])
theorem ok338 : comp Tryz.prog 338 c338.md = some (erase c338.body, c338.res) := by kernel_rfl
theorem ft338 : c338.fit = true := by kernel_rfl
def r339 := w (qFunc Tryz.prog 339)
def a339 := w (an r339)
def c339 : CFun := wf (mk a339 false false [])
theorem ok339 : comp Tryz.prog 339 c339.md = some (erase c339.body, c339.res) := by kernel_rfl
theorem ft339 : c339.fit = true := by kernel_rfl
def r341 := w (qFunc Tryz.prog 341)
def a341 := w (an r341)
def c341 : CFun := wf (mk a341 false false [])
theorem ok341 : comp Tryz.prog 341 c341.md = some (erase c341.body, c341.res) := by kernel_rfl
theorem ft341 : c341.fit = true := by kernel_rfl
def r342 := w (qFunc Tryz.prog 342)
def a342 := w (an r342)
def c342 : CFun := wf (mk a342 false false [])
theorem ok342 : comp Tryz.prog 342 c342.md = some (erase c342.body, c342.res) := by kernel_rfl
theorem ft342 : c342.fit = true := by kernel_rfl
def r343 := w (qFunc Tryz.prog 343)
def a343 := w (an r343)
def c343 : CFun := wf (mk a343 false false [])
theorem ok343 : comp Tryz.prog 343 c343.md = some (erase c343.body, c343.res) := by kernel_rfl
theorem ft343 : c343.fit = true := by kernel_rfl
def r344 := w (qFunc Tryz.prog 344)
def a344 := w (an r344)
def c344 : CFun := wf (mk a344 false false [])
theorem ok344 : comp Tryz.prog 344 c344.md = some (erase c344.body, c344.res) := by kernel_rfl
theorem ft344 : c344.fit = true := by kernel_rfl
def r345 := w (qFunc Tryz.prog 345)
def a345 := w (an r345)
def c345 : CFun := wf (mk a345 false false [])
theorem ok345 : comp Tryz.prog 345 c345.md = some (erase c345.body, c345.res) := by kernel_rfl
theorem ft345 : c345.fit = true := by kernel_rfl
def r346 := w (qFunc Tryz.prog 346)
def a346 := w (an r346)
def c346l0 : CCode := wf (ml a346 [])
def c346 : CFun := (wf fun x0 => mk a346 false false [x0]) c346l0
theorem ok346 : comp Tryz.prog 346 c346.md = some (erase c346.body, c346.res) := by kernel_rfl
theorem ft346 : c346.fit = true := by kernel_rfl
def r347 := w (qFunc Tryz.prog 347)
def a347 := w (an r347)
def c347 : CFun := wf (mk a347 false false [])
theorem ok347 : comp Tryz.prog 347 c347.md = some (erase c347.body, c347.res) := by kernel_rfl
theorem ft347 : c347.fit = true := by kernel_rfl
def r348 := w (qFunc Tryz.prog 348)
def a348 := w (an r348)
def c348 : CFun := wf (mk a348 false true [])
theorem ok348 : comp Tryz.prog 348 c348.md = some (erase c348.body, c348.res) := by kernel_rfl
theorem ft348 : c348.fit = true := by kernel_rfl
def r349 := w (qFunc Tryz.prog 349)
def a349 := w (an r349)
def c349 : CFun := wf (mk a349 false false [])
theorem ok349 : comp Tryz.prog 349 c349.md = some (erase c349.body, c349.res) := by kernel_rfl
theorem ft349 : c349.fit = true := by kernel_rfl
def r350 := w (qFunc Tryz.prog 350)
def a350 := w (an r350)
def c350 : CFun := wf (mk a350 false false [])
theorem ok350 : comp Tryz.prog 350 c350.md = some (erase c350.body, c350.res) := by kernel_rfl
theorem ft350 : c350.fit = true := by kernel_rfl
def r351 := w (qFunc Tryz.prog 351)
def a351 := w (an r351)
def c351 : CFun := wf (mk a351 false false [])
theorem ok351 : comp Tryz.prog 351 c351.md = some (erase c351.body, c351.res) := by kernel_rfl
theorem ft351 : c351.fit = true := by kernel_rfl
def r352 := w (qFunc Tryz.prog 352)
def a352 := w (an r352)
def c352 : CFun := wf (mk a352 false false [])
theorem ok352 : comp Tryz.prog 352 c352.md = some (erase c352.body, c352.res) := by kernel_rfl
theorem ft352 : c352.fit = true := by kernel_rfl
def r353 := w (qFunc Tryz.prog 353)
def a353 := w (an r353)
def c353l0 : CCode := wf (ml a353 [])
def c353 : CFun := (wf fun x0 => mk a353 false false [x0]) c353l0
theorem ok353 : comp Tryz.prog 353 c353.md = some (erase c353.body, c353.res) := by kernel_rfl
theorem ft353 : c353.fit = true := by kernel_rfl
end
end Go.Proofs.Z
end
section
namespace Go.Proofs.Z
open Go Go.Proofs
set_option maxRecDepth 100000
set_option maxHeartbeats 1000000
noncomputable section
def r354 := w (qFunc Tryz.prog 354)
def a354 := w (an r354)
def c354l0 : CCode := wf (ml a354 [])
def c354 : CFun := (wf fun x0 => mk a354 false false [x0]) c354l0
theorem ok354 : comp Tryz.prog 354 c354.md = some (erase c354.body, c354.res) := by kernel_rfl
theorem ft354 : c354.fit = true := by kernel_rfl
def r355 := w (qFunc Tryz.prog 355)
def a355 := w (an r355)
def c355l0 : CCode := wf (ml a355 [])
def c355 : CFun := (wf fun x0 => mk a355 false false [x0]) c355l0
theorem ok355 : comp Tryz.prog 355 c355.md = some (erase c355.body, c355.res) := by kernel_rfl
theorem ft355 : c355.fit = true := by kernel_rfl
def r358 := w (qFunc Tryz.prog 358)
def a358 := w (an r358)
def c358 : CFun := wf (mk a358 false false [])
theorem ok358 : comp Tryz.prog 358 c358.md = some (erase c358.body, c358.res) := by kernel_rfl
theorem ft358 : c358.fit = true := by kernel_rfl
def r360 := w (qFunc Tryz.prog 360)
def a360 := w (an r360)
def c360l0 : CCode := wf (ml a360 [])
def c360 : CFun := (wf fun x0 => mk a360 false false [x0]) c360l0
theorem ok360 : comp Tryz.prog 360 c360.md = some (erase c360.body, c360.res) := by kernel_rfl
theorem ft360 : c360.fit = true := by kernel_rfl
def r361 := w (qFunc Tryz.prog 361)
def a361 := w (an r361)
def c361l0 : CCode := wf (ml a361 [])
def c361l1 : CCode := (wf fun x0 => ml a361 [x0]) c361l0
def c361 : CFun := (wf fun x0 x1 => mk a361 false false [x0, x1]) c361l0 c361l1
theorem ok361 : comp Tryz.prog 361 c361.md = some (erase c361.body, c361.res) := by kernel_rfl
theorem ft361 : c361.fit = true := by kernel_rfl
def r362 := w (qFunc Tryz.prog 362)
def a362 := w (an r362)
def c362 : CFun := wf (mk a362 false false [])
theorem ok362 : comp Tryz.prog 362 c362.md = some (erase c362.body, c362.res) := by kernel_rfl
theorem ft362 : c362.fit = true := by kernel_rfl
def r363 := w (qFunc Tryz.prog 363)
def a363 := w (an r363)
def c363 : CFun := wf (mk a363 false false [])
theorem ok363 : comp Tryz.prog 363 c363.md = some (erase c363.body, c363.res) := by kernel_rfl
theorem ft363 : c363.fit = true := by kernel_rfl
def r364 := w (qFunc Tryz.prog 364)
def a364 := w (an r364)
def c364l0 : CCode := wf (ml a364 [])
def c364 : CFun := (wf fun x0 => mk a364 false false [x0]) c364l0
theorem ok364 : comp Tryz.prog 364 c364.md = some (erase c364.body, c364.res) := by kernel_rfl
theorem ft364 : c364.fit = true := by kernel_rfl
def r367 := w (qFunc Tryz.prog 367)
def a367 := w (an r367)
def c367 : CFun := wf (mk a367 false false [])
theorem ok367 : comp Tryz.prog 367 c367.md = some (erase c367.body, c367.res) := by kernel_rfl
theorem ft367 : c367.fit = true := by kernel_rfl
def r368 := w (qFunc Tryz.prog 368)
def a368 := w (an r368)
def c368 : CFun := wf (mk a368 false false [])
theorem ok368 : comp Tryz.prog 368 c368.md = some (erase c368.body, c368.res) := by kernel_rfl
theorem ft368 : c368.fit = true := by kernel_rfl
def r369 := w (qFunc Tryz.prog 369)
def a369 := w (an r369)
def c369 : CFun := wf (mk a369 false false [])
theorem ok369 : comp Tryz.prog 369 c369.md = some (erase c369.body, c369.res) := by kernel_rfl
theorem ft369 : c369.fit = true := by kernel_rfl
def r370 := w (qFunc Tryz.prog 370)
def a370 := w (an r370)
def c370 : CFun := wf (mk a370 false true [])
theorem ok370 : comp Tryz.prog 370 c370.md = some (erase c370.body, c370.res) := by kernel_rfl
theorem ft370 : c370.fit = true := by kernel_rfl
def r372 := w (qFunc Tryz.prog 372)
def a372 := w (an r372)
def c372l0 : CCode := wf (ml a372 [])
def c372 : CFun := (wf fun x0 => mk a372 false true [x0]) c372l0
theorem ok372 : comp Tryz.prog 372 c372.md = some (erase c372.body, c372.res) := by kernel_rfl
theorem ft372 : c372.fit = true := by kernel_rfl
def r373 := w (qFunc Tryz.prog 373)
def a373 := w (an r373)
def c373 : CFun := wf (mk a373 false true [])
theorem ok373 : comp Tryz.prog 373 c373.md = some (erase c373.body, c373.res) := by kernel_rfl
theorem ft373 : c373.fit = true := by kernel_rfl
def r374 := w (qFunc Tryz.prog 374)
def a374 := w (an r374)
def c374 : CFun := wf (mk a374 false false [])
theorem ok374 : comp Tryz.prog 374 c374.md = some (erase c374.body, c374.res) := by kernel_rfl
theorem ft374 : c374.fit = true := by kernel_rfl
def r375 := w (qFunc Tryz.prog 375)
def a375 := w (an r375)
def c375l0 : CCode := wf (ml a375 [])
def c375 : CFun := (wf fun x0 => mk a375 false false [x0]) c375l0
theorem ok375 : comp Tryz.prog 375 c375.md = some (erase c375.body, c375.res) := by kernel_rfl
theorem ft375 : c375.fit = true := by kernel_rfl
def r376 := w (qFunc Tryz.prog 376)
def a376 := w (an r376)
def c376 : CFun := wf (mk a376 false false [])
theorem ok376 : comp Tryz.prog 376 c376.md = some (erase c376.body, c376.res) := by kernel_rfl
theorem ft376 : c376.fit = true := by kernel_rfl
def r377 := w (qFunc Tryz.prog 377)
def a377 := w (an r377)
def c377 : CFun := wf (mk a377 false false [])
theorem ok377 : comp Tryz.prog 377 c377.md = some (erase c377.body, c377.res) := by kernel_rfl
theorem ft377 : c377.fit = true := by kernel_rfl
def r378 := w (qFunc Tryz.prog 378)
def a378 := w (an r378)
def c378 : CFun := wf (mk a378 false false [])
theorem ok378 : comp Tryz.prog 378 c378.md = some (erase c378.body, c378.res) := by kernel_rfl
theorem ft378 : c378.fit = true := by kernel_rfl
def r379 := w (qFunc Tryz.prog 379)
def a379 := w (an r379)
def c379 : CFun := wf (mk a379 false true [])
theorem ok379 : comp Tryz.prog 379 c379.md = some (erase c379.body, c379.res) := by kernel_rfl
theorem ft379 : c379.fit = true := by kernel_rfl
def r380 := w (qFunc Tryz.prog 380)
def a380 := w (an r380)
def c380 : CFun := wf (mk a380 false false [])
theorem ok380 : comp Tryz.prog 380 c380.md = some (erase c380.body, c380.res) := by kernel_rfl
theorem ft380 : c380.fit = true := by kernel_rfl
def r381 := w (qFunc Tryz.prog 381)
def a381 := w (an r381)
def c381 : CFun := wf (mk a381 false false [])
theorem ok381 : comp Tryz.prog 381 c381.md = some (erase c381.body, c381.res) := by kernel_rfl
theorem ft381 : c381.fit = true := by kernel_rfl
def r382 := w (qFunc Tryz.prog 382)
def a382 := w (an r382)
def c382l0 : CCode := wf (ml a382 [])
def c382 : CFun := (wf fun x0 => mk a382 false false [x0]) c382l0
theorem ok382 : comp Tryz.prog 382 c382.md = some (erase c382.body, c382.res) := by kernel_rfl
theorem ft382 : c382.fit = true := by kernel_rfl
def r383 := w (qFunc Tryz.prog 383)
def a383 := w (an r383)
def c383 : CFun := wf (mk a383 false false [])
theorem ok383 : comp Tryz.prog 383 c383.md = some (erase c383.body, c383.res) := by kernel_rfl
theorem ft383 : c383.fit = true := by kernel_rfl
def r384 := w (qFunc Tryz.prog 384)
def a384 := w (an r384)
def c384l0 : CCode := wf (ml a384 [])
def c384 : CFun := (wf fun x0 => mk a384 false false [x0]) c384l0
theorem ok384 : comp Tryz.prog 384 c384.md = some (erase c384.body, c384.res) := by kernel_rfl
theorem ft384 : c384.fit = true := by kernel_rfl
def r385 := w (qFunc Tryz.prog 385)
def a385 := w (an r385)
def c385 : CFun := wf (mk a385 false false [])
theorem ok385 : comp Tryz.prog 385 c385.md = some (erase c385.body, c385.res) := by kernel_rfl
theorem ft385 : c385.fit = true := by kernel_rfl
def r386 := w (qFunc Tryz.prog 386)
def a386 := w (an r386)
def c386 : CFun := wf (mk a386 false false [])
theorem ok386 : comp Tryz.prog 386 c386.md = some (erase c386.body, c386.res) := by kernel_rfl
theorem ft386 : c386.fit = true := by kernel_rfl
def r387 := w (qFunc Tryz.prog 387)
def a387 := w (an r387)
def c387 : CFun := wf (mk a387 false false [])
theorem ok387 : comp Tryz.prog 387 c387.md = some (erase c387.body, c387.res) := by kernel_rfl
theorem ft387 : c387.fit = true := by kernel_rfl
def r388 := w (qFunc Tryz.prog 388)
def a388 := w (an r388)
def c388 : CFun := wf (mk a388 false false [])
theorem ok388 : comp Tryz.prog 388 c388.md = some (erase c388.body, c388.res) := by kernel_rfl
theorem ft388 : c388.fit = true := by kernel_rfl
def r389 := w (qFunc Tryz.prog 389)
def a389 := w (an r389)
def c389l0 : CCode := wf (ml a389 [])
def c389 : CFun := (wf fun x0 => mk a389 false false [x0]) c389l0
theorem ok389 : comp Tryz.prog 389 c389.md = some (erase c389.body, c389.res) := by kernel_rfl
theorem ft389 : c389.fit = true := by kernel_rfl
def r390 := w (qFunc Tryz.prog 390)
def a390 := w (an r390)
def c390 : CFun := wf (mk a390 false false [])
theorem ok390 : comp Tryz.prog 390 c390.md = some (erase c390.body, c390.res) := by kernel_rfl
theorem ft390 : c390.fit = true := by kernel_rfl
def r391 := w (qFunc Tryz.prog 391)
def a391 := w (an r391)
def c391l0 : CCode := wf (ml a391 [])
def c391 : CFun := (wf fun x0 => mk a391 false false [x0]) c391l0
theorem ok391 : comp Tryz.prog 391 c391.md = some (erase c391.body, c391.res) := by kernel_rfl
theorem ft391 : c391.fit = true := by kernel_rfl
def r392 := w (qFunc Tryz.prog 392)
def a392 := w (an r392)
def c392 : CFun := wf (mk a392 true true [])
theorem ok392 : comp Tryz.prog 392 c392.md = some (erase c392.body, c392.res) := by kernel_rfl
theorem ft392 : c392.fit = true := by kernel_rfl
def r393 := w (qFunc Tryz.prog 393)
def a393 := w (an r393)
def c393 : CFun := wf (mk a393 false false [])
theorem ok393 : comp Tryz.prog 393 c393.md = some (erase c393.body, c393.res) := by kernel_rfl
theorem ft393 : c393.fit = true := by kernel_rfl
def r394 := w (qFunc Tryz.prog 394)
def a394 := w (an r394)
def c394 : CFun := wf (mk a394 false false [])
theorem ok394 : comp Tryz.prog 394 c394.md = some (erase c394.body, c394.res) := by kernel_rfl
theorem ft394 : c394.fit = true := by kernel_rfl
def r395 := w (qFunc Tryz.prog 395)
def a395 := w (an r395)
def c395l0 : CCode := wf (ml a395 [])
def c395 : CFun := (wf fun x0 => mk a395 false false [x0]) c395l0
theorem ok395 : comp Tryz.prog 395 c395.md = some (erase c395.body, c395.res) := by kernel_rfl
theorem ft395 : c395.fit = true := by kernel_rfl
def r396 := w (qFunc Tryz.prog 396)
def a396 := w (an r396)
def c396 : CFun := wf (mk a396 false false [])
theorem ok396 : comp Tryz.prog 396 c396.md = some (erase c396.body, c396.res) := by kernel_rfl
theorem ft396 : c396.fit = true := by kernel_rfl
def r397 := w (qFunc Tryz.prog 397)
def a397 := w (an r397)
def c397 : CFun := wf (mk a397 false false [])
theorem ok397 : comp Tryz.prog 397 c397.md = some (erase c397.body, c397.res) := by kernel_rfl
theorem ft397 : c397.fit = true := by kernel_rfl
def r398 := w (qFunc Tryz.prog 398)
def a398 := w (an r398)
def c398l0 : CCode := wf (ml a398 [])
def c398 : CFun := (wf fun x0 => mk a398 false true [x0]) c398l0
theorem ok398 : comp Tryz.prog 398 c398.md = some (erase c398.body, c398.res) := by kernel_rfl
theorem ft398 : c398.fit = true := by kernel_rfl
def r399 := w (qFunc Tryz.prog 399)
def a399 := w (an r399)
def c399l0 : CCode := wf (ml a399 [])
def c399l1 : CCode := (wf fun x0 => ml a399 [x0]) c399l0
def c399 : CFun := (wf fun x0 x1 => mk a399 false false [x0, x1]) c399l0 c399l1
theorem ok399 : comp Tryz.prog 399 c399.md = some (erase c399.body, c399.res) := by kernel_rfl
theorem ft399 : c399.fit = true := by kernel_rfl
end
end Go.Proofs.Z
end
section
namespace Go.Proofs.Z
open Go Go.Proofs
set_option maxRecDepth 100000
set_option maxHeartbeats 1000000
noncomputable section
def r400 := w (qFunc Tryz.prog 400)
def a400 := w (an r400)
def c400 : CFun := wf (mk a400 false false [])
theorem ok400 : comp Tryz.prog 400 c400.md = some (erase c400.body, c400.res) := by kernel_rfl
theorem ft400 : c400.fit = true := by kernel_rfl
def r401 := w (qFunc Tryz.prog 401)
def a401 := w (an r401)
def c401 : CFun := wf (mk a401 false false [])
theorem ok401 : comp Tryz.prog 401 c401.md = some (erase c401.body, c401.res) := by kernel_rfl
theorem ft401 : c401.fit = true := by kernel_rfl
def r402 := w (qFunc Tryz.prog 402)
def a402 := w (an r402)
def c402 : CFun := wf (mk a402 false false [])
theorem ok402 : comp Tryz.prog 402 c402.md = some (erase c402.body, c402.res) := by kernel_rfl
theorem ft402 : c402.fit = true := by kernel_rfl
def r403 := w (qFunc Tryz.prog 403)
def a403 := w (an r403)
def c403l0 : CCode := wf (ml a403 [])
def c403 : CFun := (wf fun x0 => mk a403 false false [x0]) c403l0
theorem ok403 : comp Tryz.prog 403 c403.md = some (erase c403.body, c403.res) := by kernel_rfl
theorem ft403 : c403.fit = true := by kernel_rfl
def r404 := w (qFunc Tryz.prog 404)
def a404 := w (an r404)
def c404 : CFun := wf (mk a404 false false [])
theorem ok404 : comp Tryz.prog 404 c404.md = some (erase c404.body, c404.res) := by kernel_rfl
theorem ft404 : c404.fit = true := by kernel_rfl
def r405 := w (qFunc Tryz.prog 405)
def a405 := w (an r405)
def c405l0 : CCode := wf (ml a405 [])
def c405 : CFun := (wf fun x0 => mk a405 false false [x0]) c405l0
theorem ok405 : comp Tryz.prog 405 c405.md = some (erase c405.body, c405.res) := by kernel_rfl
theorem ft405 : c405.fit = true := by kernel_rfl
def r406 := w (qFunc Tryz.prog 406)
def a406 := w (an r406)
def c406 : CFun := wf (mk a406 false false [])
theorem ok406 : comp Tryz.prog 406 c406.md = some (erase c406.body, c406.res) := by kernel_rfl
theorem ft406 : c406.fit = true := by kernel_rfl
def r407 := w (qFunc Tryz.prog 407)
def a407 := w (an r407)
def c407l0 : CCode := wf (ml a407 [])
def c407 : CFun := (wf fun x0 => mk a407 false false [x0]) c407l0
theorem ok407 : comp Tryz.prog 407 c407.md = some (erase c407.body, c407.res) := by kernel_rfl
theorem ft407 : c407.fit = true := by kernel_rfl
def r408 := w (qFunc Tryz.prog 408)
def a408 := w (an r408)
def c408l0 : CCode := wf (ml a408 [])
def c408 : CFun := (wf fun x0 => mk a408 false false [x0]) c408l0
theorem ok408 : comp Tryz.prog 408 c408.md = some (erase c408.body, c408.res) := by kernel_rfl
theorem ft408 : c408.fit = true := by kernel_rfl
def r409 := w (qFunc Tryz.prog 409)
def a409 := w (an r409)
def c409 : CFun := wf (mk a409 false false [])
theorem ok409 : comp Tryz.prog 409 c409.md = some (erase c409.body, c409.res) := by kernel_rfl
theorem ft409 : c409.fit = true := by kernel_rfl
def r410 := w (qFunc Tryz.prog 410)
def a410 := w (an r410)
def c410 : CFun := wf (mk a410 false false [])
theorem ok410 : comp Tryz.prog 410 c410.md = some (erase c410.body, c410.res) := by kernel_rfl
theorem ft410 : c410.fit = true := by kernel_rfl
def r411 := w (qFunc Tryz.prog 411)
def a411 := w (an r411)
def c411l0 : CCode := wf (ml a411 [])
def c411 : CFun := (wf fun x0 => mk a411 false false [x0]) c411l0
theorem ok411 : comp Tryz.prog 411 c411.md = some (erase c411.body, c411.res) := by kernel_rfl
theorem ft411 : c411.fit = true := by kernel_rfl
def r412 := w (qFunc Tryz.prog 412)
def a412 := w (an r412)
def c412 : CFun := wf (mk a412 false true [])
theorem ok412 : comp Tryz.prog 412 c412.md = some (erase c412.body, c412.res) := by kernel_rfl
theorem ft412 : c412.fit = true := by kernel_rfl
def r413 := w (qFunc Tryz.prog 413)
def a413 := w (an r413)
def c413 : CFun := wf (mk a413 false false [])
theorem ok413 : comp Tryz.prog 413 c413.md = some (erase c413.body, c413.res) := by kernel_rfl
theorem ft413 : c413.fit = true := by kernel_rfl
def r414 := w (qFunc Tryz.prog 414)
def a414 := w (an r414)
def c414l0 : CCode := wf (ml a414 [])
def c414l1 : CCode := (wf fun x0 => ml a414 [x0]) c414l0
def c414 : CFun := (wf fun x0 x1 => mk a414 false false [x0, x1]) c414l0 c414l1
theorem ok414 : comp Tryz.prog 414 c414.md = some (erase c414.body, c414.res) := by kernel_rfl
theorem ft414 : c414.fit = true := by kernel_rfl
def r415 := w (qFunc Tryz.prog 415)
def a415 := w (an r415)
def c415l0 : CCode := wf (ml a415 [])
def c415l1 : CCode := (wf fun x0 => ml a415 [x0]) c415l0
def c415 : CFun := (wf fun x0 x1 => mk a415 false false [x0, x1]) c415l0 c415l1
theorem ok415 : comp Tryz.prog 415 c415.md = some (erase c415.body, c415.res) := by kernel_rfl
theorem ft415 : c415.fit = true := by kernel_rfl
def r416 := w (qFunc Tryz.prog 416)
def a416 := w (an r416)
def c416 : CFun := wf (mk a416 false false [])
theorem ok416 : comp Tryz.prog 416 c416.md = some (erase c416.body, c416.res) := by kernel_rfl
theorem ft416 : c416.fit = true := by kernel_rfl
def r417 := w (qFunc Tryz.prog 417)
def a417 := w (an r417)
def c417 : CFun := wf (mk a417 false true [])
theorem ok417 : comp Tryz.prog 417 c417.md = some (erase c417.body, c417.res) := by kernel_rfl
theorem ft417 : c417.fit = true := by kernel_rfl
def r418 := w (qFunc Tryz.prog 418)
def a418 := w (an r418)
def c418 : CFun := wf (mk a418 false false [])
theorem ok418 : comp Tryz.prog 418 c418.md = some (erase c418.body, c418.res) := by kernel_rfl
theorem ft418 : c418.fit = true := by kernel_rfl
def r420 := w (qFunc Tryz.prog 420)
def a420 := w (an r420)
def c420l0 : CCode := wf (ml a420 [])
def c420 : CFun := (wf fun x0 => mk a420 true false [x0]) c420l0
theorem ok420 : comp Tryz.prog 420 c420.md = some (erase c420.body, c420.res) := by kernel_rfl
theorem ft420 : c420.fit = true := by kernel_rfl
def r421 := w (qFunc Tryz.prog 421)
def a421 := w (an r421)
def c421 : CFun := wf (mk a421 false false [])
theorem ok421 : comp Tryz.prog 421 c421.md = some (erase c421.body, c421.res) := by kernel_rfl
theorem ft421 : c421.fit = true := by kernel_rfl
def r422 := w (qFunc Tryz.prog 422)
def a422 := w (an r422)
def c422 : CFun := wf (mk a422 false false [])
theorem ok422 : comp Tryz.prog 422 c422.md = some (erase c422.body, c422.res) := by kernel_rfl
theorem ft422 : c422.fit = true := by kernel_rfl
def r423 := w (qFunc Tryz.prog 423)
def a423 := w (an r423)
def c423 : CFun := wf (mk a423 false false [])
theorem ok423 : comp Tryz.prog 423 c423.md = some (erase c423.body, c423.res) := by kernel_rfl
theorem ft423 : c423.fit = true := by kernel_rfl
def r424 := w (qFunc Tryz.prog 424)
def a424 := w (an r424)
def c424 : CFun := wf (mk a424 false true [])
theorem ok424 : comp Tryz.prog 424 c424.md = some (erase c424.body, c424.res) := by kernel_rfl
theorem ft424 : c424.fit = true := by kernel_rfl
def r425 := w (qFunc Tryz.prog 425)
def a425 := w (an r425)
def c425 : CFun := wf (mk a425 false false [])
theorem ok425 : comp Tryz.prog 425 c425.md = some (erase c425.body, c425.res) := by kernel_rfl
theorem ft425 : c425.fit = true := by kernel_rfl
def r426 := w (qFunc Tryz.prog 426)
def a426 := w (an r426)
def c426 : CFun := wf (mk a426 false false [])
theorem ok426 : comp Tryz.prog 426 c426.md = some (erase c426.body, c426.res) := by kernel_rfl
theorem ft426 : c426.fit = true := by kernel_rfl
def r427 := w (qFunc Tryz.prog 427)
def a427 := w (an r427)
def c427 : CFun := wf (mk a427 false false [])
theorem ok427 : comp Tryz.prog 427 c427.md = some (erase c427.body, c427.res) := by kernel_rfl
theorem ft427 : c427.fit = true := by kernel_rfl
def r428 := w (qFunc Tryz.prog 428)
def a428 := w (an r428)
def c428 : CFun := wf (mk a428 false false [])
theorem ok428 : comp Tryz.prog 428 c428.md = some (erase c428.body, c428.res) := by kernel_rfl
theorem ft428 : c428.fit = true := by kernel_rfl
def r429 := w (qFunc Tryz.prog 429)
def a429 := w (an r429)
def c429 : CFun := wf (mk a429 false false [])
theorem ok429 : comp Tryz.prog 429 c429.md = some (erase c429.body, c429.res) := by kernel_rfl
theorem ft429 : c429.fit = true := by kernel_rfl
def r430 := w (qFunc Tryz.prog 430)
def a430 := w (an r430)
def c430 : CFun := wf (mk a430 false false [])
theorem ok430 : comp Tryz.prog 430 c430.md = some (erase c430.body, c430.res) := by kernel_rfl
theorem ft430 : c430.fit = true := by kernel_rfl
def r431 := w (qFunc Tryz.prog 431)
def a431 := w (an r431)
def c431 : CFun := wf (mk a431 false false [])
theorem ok431 : comp Tryz.prog 431 c431.md = some (erase c431.body, c431.res) := by kernel_rfl
theorem ft431 : c431.fit = true := by kernel_rfl
def r432 := w (qFunc Tryz.prog 432)
def a432 := w (an r432)
def c432 : CFun := wf (mk a432 false false [])
theorem ok432 : comp Tryz.prog 432 c432.md = some (erase c432.body, c432.res) := by kernel_rfl
theorem ft432 : c432.fit = true := by kernel_rfl
def r433 := w (qFunc Tryz.prog 433)
def a433 := w (an r433)
def c433 : CFun := wf (mk a433 false false [])
theorem ok433 : comp Tryz.prog 433 c433.md = some (erase c433.body, c433.res) := by kernel_rfl
theorem ft433 : c433.fit = true := by kernel_rfl
def r434 := w (qFunc Tryz.prog 434)
def a434 := w (an r434)
def c434 : CFun := wf (mk a434 false false [])
theorem ok434 : comp Tryz.prog 434 c434.md = some (erase c434.body, c434.res) := by kernel_rfl
theorem ft434 : c434.fit = true := by kernel_rfl
def r435 := w (qFunc Tryz.prog 435)
def a435 := w (an r435)
def c435 : CFun := wf (mk a435 false false [])
theorem ok435 : comp Tryz.prog 435 c435.md = some (erase c435.body, c435.res) := by kernel_rfl
theorem ft435 : c435.fit = true := by kernel_rfl
def r436 := w (qFunc Tryz.prog 436)
def a436 := w (an r436)
def c436 : CFun := wf (mk a436 false false [])
theorem ok436 : comp Tryz.prog 436 c436.md = some (erase c436.body, c436.res) := by kernel_rfl
theorem ft436 : c436.fit = true := by kernel_rfl
def r437 := w (qFunc Tryz.prog 437)
def a437 := w (an r437)
def c437 : CFun := wf (mk a437 false false [])
theorem ok437 : comp Tryz.prog 437 c437.md = some (erase c437.body, c437.res) := by kernel_rfl
theorem ft437 : c437.fit = true := by kernel_rfl
def r438 := w (qFunc Tryz.prog 438)
def a438 := w (an r438)
def c438 : CFun := wf (mk a438 false false [])
theorem ok438 : comp Tryz.prog 438 c438.md = some (erase c438.body, c438.res) := by kernel_rfl
theorem ft438 : c438.fit = true := by kernel_rfl
def r439 := w (qFunc Tryz.prog 439)
def a439 := w (an r439)
def c439l0 : CCode := wf (ml a439 [])
def c439 : CFun := (wf fun x0 => mk a439 false false [x0]) c439l0
theorem ok439 : comp Tryz.prog 439 c439.md = some (erase c439.body, c439.res) := by kernel_rfl
theorem ft439 : c439.fit = true := by kernel_rfl
def r440 := w (qFunc Tryz.prog 440)
def a440 := w (an r440)
def c440l0 : CCode := wf (ml a440 [])
def c440l1 : CCode := (wf fun x0 => ml a440 [x0]) c440l0
def c440 : CFun := (wf fun x0 x1 => mk a440 false false [x0, x1]) c440l0 c440l1
theorem ok440 : comp Tryz.prog 440 c440.md = some (erase c440.body, c440.res) := by kernel_rfl
theorem ft440 : c440.fit = true := by kernel_rfl
end
end Go.Proofs.Z
end
