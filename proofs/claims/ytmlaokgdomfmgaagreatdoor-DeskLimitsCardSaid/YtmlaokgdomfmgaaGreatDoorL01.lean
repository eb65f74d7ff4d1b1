/- A part of the proof. -/
import Derived.Test.YtmlaokgdomfmgaaGreatDoorL00
import Derived.Deep.AppendSrc
import Derived.Deep.MidRow
import Derived.OrdersIn
import Derived.RecoverIn
import Derived.LoopNIn
import Derived.RangeFuncRecord
set_option linter.all false
section
namespace Go.Proofs.Z
open Go
mutual
def ofVal : Value → Option AV
  | .bool x => some (.p (.b x))
  | .int k n => some (.p (.i k n))
  | .string s => some (.p (.s s.data.toList))
  | .pointer none => some (.p .pn)
  | .slice none 0 0 => some .nils
  | .map none => some .nmap
  | .nilFunc => some (.p .fnil)
  | .nilIface => some (.p .inil)
  | .agg ⟨cs⟩ => match ofVals cs with
    | some l => some (.ag l)
    | none => none
  | _ => none
def ofVals : List Value → Option (List AV)
  | [] => some []
  | v :: r => match ofVal v with
    | none => none
    | some a => match ofVals r with
      | none => none
      | some l => some (a :: l)
end
def zeroP : AV → Option PV
  | .p x => some x
  | .nils => some (.sl [])
  | _ => none
def zerosP : List AV → Option (List PV)
  | [] => some []
  | v :: r => match zeroP v with
    | none => none
    | some a => match zerosP r with
      | none => none
      | some l => some (a :: l)
def cOpd : Operand → Option Opd
  | .tmp t => if Nat.blt t 1048576 = true then some (.t t) else none
  | .const v => (ofVal v).map .k
  | .func f => some (.k (.fn f [] []))
  | .global _ => none
def cOpds : List Operand → Option (List Opd)
  | [] => some []
  | x :: r => match cOpd x with
    | none => none
    | some a => match cOpds r with
      | none => none
      | some l => some (a :: l)
variable (P : Program)
def cAgg (t : TypeId) : Option Bool := match P.underlying t with
  | some (.struct _) | some (.array _ _) => some true
  | some _ => some false
  | none => none
def cSize (t : TypeId) : Option Nat := (P.info? t).map (·.size)
def cBytes (t : TypeId) : Option Nat := (P.info? t).map (·.bytes)
def cZero (t : TypeId) : Option (List AV) := match (P.info? t).bind (·.zero) with
  | some v => match ofVal v with
    | some a => some a.cells
    | none => none
  | none => none
def leafOffs : Nat → TypeId → Nat → Option (List (Nat × Nat))
  | 0, _, _ => none
  | d + 1, t, base => match P.underlying t with
    | some .bool => if cSize P t = some 1 then some [(base, 0)] else none
    | some (.int _) => if cSize P t = some 1 then some [(base, 1)] else none
    | some .string => if cSize P t = some 1 then some [(base, 2)] else none
    | some (.struct fs) => if P.stoodInHeld t = true then none else match cSize P t with
      | some sz => (fs.toList.mapM fun (f : Field) => match cSize P f.type with
        | some n => if f.name ≠ "_" ∧ f.offset + n ≤ sz ∧ 1 ≤ n then leafOffs d f.type (base + f.offset) else none
        | none => none).map List.flatten
      | none => none
    | some (.array len e) => match cSize P t, cSize P e with
      | some sz, some n => if len * n ≤ sz ∧ 1 ≤ n then ((List.range len).mapM fun i => leafOffs d e (base + i * n)).map List.flatten else none
      | _, _ => none
    | _ => none
def isNil : Operand → Bool
  | .const .nilIface => true
  | _ => false
def cClass (op : BinOp) (t : TypeId) (x y : Operand) : Option BClass := match P.underlying t with
  | some (.int _) => some .int
  | some .string => some .str
  | some .bool => some .bool
  | some (.pointer _) => some .ptr
  | some (.func _ _ _) => some .fn
  | some (.interface _) => if isNil x || isNil y then some .ifc else none
  | some (.struct _) | some (.array _ _) => match op with
    | .eql | .neq => match cSize P t, leafOffs P 8 t 0 with
      | some n, some l => if P.eqGuardType P.depth t = true then none else some (.leaves n l)
      | _, _ => none
    | _ => none
  | _ => none
def cParts (ps : List (Nat × Operand)) : Option (List (Nat × Opd)) := match ps with
  | [] => some []
  | (i, x) :: r => match cOpd x, cParts r with
    | some a, some l => some ((i, a) :: l)
    | _, _ => none
def cBuild (places : Nat → Option (Nat × Nat)) (ps : List (Nat × Operand)) : Option (List (Nat × Nat × Opd)) := match ps with
  | [] => some []
  | (i, x) :: r => match places i, cOpd x, cBuild places r with
    | some (o, n), some a, some l => some ((o, n, a) :: l)
    | _, _, _ => none
def zeroOK (sz : Nat) (e : TypeId) : Bool := match cZero P e with
  | some zs => zs.length == sz && zs.all AV.flat
  | none => false
def cOpt : Option Operand → Option (Option Opd)
  | none => some none
  | some x => (cOpd x).map some
def mapOK (t : TypeId) : Bool := match P.underlying t with
  | some (.map k _) => match P.underlying k with
    | some (.int _) | some .string => true
    | _ => false
  | _ => false
def keyStr (t : TypeId) : Bool := match P.underlying t with
  | some (.map k _) => match P.underlying k with
    | some .string => true
    | _ => false
  | _ => false
def zeroOf (t : TypeId) : Option AV := match (P.info? t).bind (·.zero) with
  | some v => ofVal v
  | none => none
def cOp (o : Op) : Option COp := match o with
  | .move x | .assign x => (cOpd x).map .mov
  | .pick c a b => match cOpd c, cOpd a, cOpd b with
    | some c, some a, some b => some (.pick c a b)
    | _, _, _ => none
  | .alloc e => (cZero P e).map (.new e)
  | .box t x => (cOpd x).map (.box t)
  | .build t ps => match P.underlying t, cZero P t with
    | some (.struct fs), some z => if z.all AV.flat = true ∧ fs.toList.all (fun f => (cSize P f.type).isSome) = true then (cBuild (fun i => match fs[i]? with | some f => (cSize P f.type).map fun n => (f.offset, n) | none => none) ps.toList).map (.build z) else none
    | some (.array _ e), some z => match cSize P e with
      | some n => if z.all AV.flat = true then (cBuild (fun i => some (i * n, n)) ps.toList).map (.build z) else none
      | none => none
    | _, _ => none
  | .buildSlice t n ps => match P.underlying t with
    | some (.slice e) => match cSize P e, (cZero P e).bind zerosP, cParts ps.toList with
      | some sz, some z, some l => if n * sz ≤ 2 ^ 20 && 1 ≤ sz && z.length == sz then some (.bslice e sz z n l) else none
      | _, _, _ => none
    | _ => none
  | .load t a => match cSize P t, cAgg P t, cOpd a with
    | some n, some g, some a => some (.load n g a)
    | _, _, _ => none
  | .store t a x => match cSize P t, cOpd a, cOpd x with
    | some n, some a, some x => some (.store n a x)
    | _, _, _ => none
  | .nilCheck x => (cOpd x).map .nilck
  | .binOp op t x y _ => match cClass P op t x y, cOpd x, cOpd y with
    | some c, some x, some y => some (.bin op c x y)
    | _, _, _ => none
  | .unOp .not _ x => (cOpd x).map .not
  | .unOp .neg _ x => (cOpd x).map .neg
  | .convert src dst x => match P.underlying src, P.underlying dst with
    | some (.int _), some (.int k) => (cOpd x).map (.conv k)
    | some .string, some .string => (cOpd x).map .movs
    | some (.slice e), some .string => match P.underlying e with
      | some (.int .u8) => (cOpd x).map .tostr
      | _ => none
    | _, _ => none
  | .makeInterface t x => match P.underlying t with
    | some (.interface _) => none
    | some _ => (cOpd x).map (.mkif t)
    | none => none
  | .makeFunc (.func f) a b => match cOpds a.toList, cOpds b.toList with
    | some a, some b => some (.mkfn f a b)
    | _, _ => none
  | .makeSlice t l c => match P.underlying t with
    | some (.slice e) => match cSize P e, cBytes P e, (cZero P e).bind zerosP, cOpd l, cOpd c with
      | some sz, some by_, some z, some l, some c => if 1 ≤ sz && z.length == sz then some (.mkslice e sz by_ z l c) else none
      | _, _, _, _, _ => none
    | _ => none
  | .slice t x none (some h) (some m) => match P.underlying t with
    | some (.slice e) => match cSize P e, cOpd x, cOpd h, cOpd m with
      | some _, some x, some h, some m => some (.clip x h m)
      | _, _, _, _ => none
    | _ => none
  | .slice t x lo hi none => match P.underlying t with
    | some .string => match cOpd x, cOpt lo, cOpt hi with
      | some x, some lo, some hi => some (.subs true 1 x lo hi)
      | _, _, _ => none
    | some (.slice e) => match cSize P e, cOpd x, cOpt lo, cOpt hi with
      | some sz, some x, some lo, some hi => some (.subs false sz x lo hi)
      | _, _, _, _ => none
    | _ => none
  | .fieldAddr t x i => match P.underlying t with
    | some (.struct fs) => match fs[i]? with
      | some f => match cSize P f.type, cOpd x with
        | some n, some x => if n = 0 then none else some (.faddr f.offset x)
        | _, _ => none
      | none => none
    | _ => none
  | .field t x i => match P.underlying t with
    | some (.struct fs) => match fs[i]? with
      | some f => match cSize P f.type, cAgg P f.type, cOpd x with
        | some n, some g, some x => some (.field f.offset n g x)
        | _, _, _ => none
      | none => none
    | _ => none
  | .indexAddr t x i => match P.underlying t with
    | some (.array n e) => match cSize P e, cOpd x, cOpd i with
      | some sz, some x, some i => some (.iaddr sz (some n) x i)
      | _, _, _ => none
    | some (.slice e) => match cSize P e, cOpd x, cOpd i with
      | some sz, some x, some i => some (.iaddr sz none x i)
      | _, _, _ => none
    | _ => none
  | .index t x i => match P.underlying t with
    | some (.array n e) => match cSize P e, cAgg P e, cOpd x, cOpd i with
      | some sz, some g, some x, some i => some (.index (some (n, sz, g)) x i)
      | _, _, _, _ => none
    | some .string => match cOpd x, cOpd i with
      | some x, some i => some (.index none x i)
      | _, _ => none
    | _ => none
  | .extract x i => (cOpd x).map (.extract · i)
  | .call c => match c.callee, cOpds c.args.toList with
    | .value (.func f), some a => if okF f = true then some (.call f a) else none
    | .value x, some a => (cOpd x).map (.callv · a)
    | .builtin .len, some [x] => match (c.argTypes[0]?).bind P.underlying with
      | some .string => some (.len true x)
      | some (.slice _) => some (.len false x)
      | some (.array n _) => some (.mov (.k (.p (.i .i64 n))))
      | _ => none
    | .builtin .append, some [x, y] => match (c.argTypes[0]?).bind P.underlying, (c.argTypes[1]?).bind P.underlying with
      | some (.slice e), some u => match cSize P e, cBytes P e, u with
        | some sz, some by_, .slice _ => if 1 ≤ sz && zeroOK P sz e && c.argTypes.size == 2 then some (.app false e sz by_ x y) else none
        | some sz, some by_, .string => if sz == 1 && zeroOK P sz e && c.argTypes.size == 2 then some (.app true e sz by_ x y) else none
        | _, _, _ => none
      | _, _ => none
    | .builtin .max, some [x, y] => some (.max [x, y])
    | .builtin .min, some [x, y] => some (.min [x, y])
    | _, _ => none
  | .panic x => (cOpd x).map .panic
  | .makeMap t none => match P.underlying t with
    | some (.map _ _) => some .mkmap
    | _ => none
  | .insert t m k v | .mapUpdate t m k v => if mapOK P t = true then match cOpd m, cOpd k, cOpd v with
      | some m, some k, some v => some (.mput (keyStr P t) m k v)
      | _, _, _ => none
    else none
  | .lookup t m k ok => match P.underlying t with
    | some (.map _ e) => if mapOK P t = true then match zeroOf P e, cOpd m, cOpd k with
        | some z, some m, some k => some (.mget (keyStr P t) z ok m k)
        | _, _, _ => none
      else none
    | _ => none
  | .typeAssert x _ t true => match P.underlying t with
    | some (.interface _) => none
    | some _ => match zeroOf P t, cOpd x with
      | some z, some x => some (.tassert t z x)
      | _, _ => none
    | none => none
  | .defer c => match c.callee, c.args.toList with
    | .value x, [] => (cOpd x).map .dfr
    | _, _ => none
  | _ => none
def dstOK (N : Nat) : Option Nat → Bool
  | none => true
  | some d => Nat.blt d N
def _root_.Go.Oper.isDfr (o : Oper) : Bool := match o.op with | .defer _ => true | _ => false
def cOper (N : Nat) (ops : Array Oper) (o : Oper) : Option CI := match cOp P o.op with
  | none => none
  | some c => if dstOK N o.dst = true ∧ (o.isDfr = true → o.dst = none ∧ o.guard = none) then match o.guard with
    | none => some ⟨match o.op with | .defer _ => some dK | _ => o.dst, c, none⟩
    | some (j, w) => match (ops[j]?).bind (·.dst) with
      | some d => some ⟨o.dst, c, some (d, w)⟩
      | none => none
    else none
def cOpers (N : Nat) (ops : Array Oper) : List Oper → Option (List CI)
  | [] => some []
  | o :: r => match cOper P N ops o with
    | none => none
    | some c => match cOpers N ops r with
      | none => none
      | some l => some (c :: l)
def kindOf : COp → Nat
  | .mov _ | .movs _ | .pick _ _ _ | .build _ _ | .nilck _ | .bin _ _ _ _ | .not _ | .neg _ | .conv _ _ | .mkif _ _ | .mkfn _ _ _ | .faddr _ _ | .field _ _ _ _ | .index _ _ _ | .extract _ _ | .max _ | .min _ | .tassert _ _ _ | .pcall _ _ => 0
  | .load _ _ _ | .len _ _ | .iaddr _ _ _ _ | .tostr _ | .mget _ _ _ _ _ => 1
  | .new _ _ | .mkmap | .mkslice _ _ _ _ _ _ => 2
  | _ => 3
def kOf (l : List CI) (i : Nat) : Nat := match l[i]? with | some c => kindOf c.o | none => 9
def binding (o : Oper) : List Nat := (o.after.toList.filter fun e => Region.binds .any e).map (·.on)
def ancs : List (List Nat) → List (List Nat) → List (List Nat)
  | acc, [] => acc
  | acc, a :: r => ancs (acc ++ [(a ++ a.flatMap fun j => acc.getD j []).eraseDups]) r
def isAnc (T : List (List Nat)) (j i : Nat) : Bool := (T.getD i []).contains j
def isEff (l : List CI) (pre : List Nat) (i : Nat) : Bool := Nat.ble 2 (kOf l i) && !pre.contains i
def preOf (l : List CI) (T : List (List Nat)) : List Nat :=
  let n := l.length
  let fl := (List.range n).filter fun i => Nat.beq (kOf l i) 2 && ((List.range n).any fun j => Nat.ble 2 (kOf l j) && !Nat.beq i j && !isAnc T i j && !isAnc T j i)
  (List.range n).filter fun i => fl.contains i || fl.any fun k => isAnc T i k
def mayAt (l : List CI) (T : List (List Nat)) (pre : List Nat) (i : Nat) (done : List Nat) : Bool :=
  (List.range l.length).all fun e => !isEff l pre e || (if done.contains e then !isAnc T i e else !isAnc T e i)
def drawOK (l : List CI) (af T : List (List Nat)) (pre rest : List Nat) : Bool :=
  Nat.beq l.length af.length && Nat.beq T.length l.length && (List.range l.length).all fun k => match l[k]? with
    | none => false
    | some c => !(match c.o with | .dfr _ | .panic _ => true | _ => false) && (pre.contains k != rest.contains k) && (!pre.contains k || Nat.blt (kindOf c.o) 3) &&
      (af.getD k []).all (fun e => Nat.blt e k) &&
      (T.getD k []).all (fun x => Nat.blt x k && ((af.getD k []).contains x || (af.getD k []).any fun m => (T.getD m []).contains x)) &&
      (List.range l.length).all fun j => match l[j]? with
        | none => false
        | some cj => (Nat.beq j k || match cj.d with
          | none => true
          | some d => match c.d with | none => true | some d' => !Nat.beq d d') &&
          (match cj.d with
          | none => true
          | some d => !(ciReads c).contains d || (isAnc T j k && (!pre.contains k || pre.contains j)) || (isAnc T k j && (!pre.contains j || pre.contains k))) &&
          (!(isEff l pre k && isEff l pre j) || Nat.beq j k || isAnc T j k || isAnc T k j)
def pickL {α : Type} (l : List α) (is : List Nat) : List α := is.filterMap (l[·]?)
def chksOf (l : List CI) (T : List (List Nat)) (pre rest : List Nat) : List (Nat × Nat) :=
  let o := pre ++ rest
  let eff := (List.range o.length).filter fun k => match o[k]? with | some i => isEff l pre i | none => false
  let places := pre.length :: eff.map (· + 1)
  (List.range o.length).flatMap fun k => match o[k]? with
    | none => []
    | some i => if Nat.beq (kOf l i) 1 = true then (places.filter fun q => mayAt l T pre i ((o.take q).filter fun e => isEff l pre e) && !(Nat.ble pre.length k && Nat.ble q k && (places.all fun q' => Nat.ble q' q || Nat.blt k q'))).map fun q => (k, q) else []
def CI.pc (c : CI) : CI := match c.o with | .call f a => ⟨c.d, .pcall f a, c.g⟩ | _ => c
def pcAt (pre : List Nat) : Nat → List CI → List CI
  | _, [] => []
  | k, c :: r => (if pre.contains k then c.pc else c) :: pcAt pre (k + 1) r
def cDraw (l : List CI) (af : List (List Nat)) : Option (List CI × List CI × List (Nat × Nat)) :=
  let T := ancs [] af
  let pre := preOf l T
  let l := pcAt pre 0 l
  let rest := (List.range l.length).filter fun i => !pre.contains i
  if drawOK l af T pre rest = true then some (pickL l pre, pickL l rest, chksOf l T pre rest) else none
def erase : CCode → CCode
  | .skip => .skip
  | .seq a b => .seq (erase a) (erase b)
  | .ops _ l => .ops [] l
  | .draw _ n r k => .draw [] n r k
  | .cond c a b => .cond c (erase a) (erase b)
  | .block id a => .block id (erase a)
  | .loop _ a => .loop [] (erase a)
  | .exit id => .exit id
  | .ret => .ret
  | .rangeF _ _ ps x a b => .rangeF [] [] ps x (erase a) (erase b)
def noDfr (l : List CI) : Bool := l.all fun c => match c.o with | .dfr _ => false | _ => true
def cCode (N : Nat) (md : Nat) : Code → Option CCode
  | .skip => some .skip
  | .ret => some .ret
  | .exit id => some (.exit id)
  | .seq a b => match cCode N md a, cCode N md b with
    | some a, some b => some (.seq a b)
    | _, _ => none
  | .region _ ops false => match cOpers P N ops ops.toList with
    | some l => if Nat.beq md 1 || noDfr l then some (.ops [] l) else none
    | none => none
  | .region _ ops true => match cOpers P N ops ops.toList with
    | none => none
    | some l => match cDraw l (ops.toList.map binding) with
      | some (pre, rest, chk) => some (.draw [] pre rest chk)
      | none => none
  | .cond c a b => match cOpd c, cCode N md a, cCode N md b with
    | some c, some a, some b => some (.cond c a b)
    | _, _, _ => none
  | .block id a => (cCode N md a).map (.block id)
  | .loop a => (cCode N md a).map (.loop [])
  | .rangeFunc x ps a b => if Nat.beq md 0 = false then none else match cOpd x, cCode N 2 a, cCode N 2 b with
    | some x, some a, some b => if ps.toList.all (fun p => Nat.blt p N) then some (.rangeF [] [] ps.toList x a b) else none
    | _, _, _ => none
  | _ => none
def okLive (md : Nat) (live : List Nat) : Bool := !Nat.beq md 1 || live.contains dK
def liveOK (md : Nat) : CCode → Bool
  | .seq a b | .cond _ a b => liveOK md a && liveOK md b
  | .ops live _ | .draw live _ _ _ => okLive md live
  | .block _ a => liveOK md a
  | .loop live a => (live.all (fun k => Nat.ble k dK) && okLive md live) && liveOK md a
  | .rangeF live _ _ _ a b => okLive md live && (liveOK 2 a && liveOK 2 b)
  | _ => true
structure Comp (N md : Nat) (code : Code) (c : CCode) : Prop where
  code : cCode P N md code = some (erase c)
  live : liveOK md c = true
def cRcv (N : Nat) (ops : Array Oper) : Option CCode := match ops.toList with
  | [o, o'] => match o.op, o.dst, o.guard, o'.op, o'.dst, o'.guard with
    | .call ⟨.builtin .recover, args, _⟩, some d, none, .assign (.tmp d'), some e, none => if args.isEmpty && Nat.beq d d' && Nat.blt d N && Nat.blt e N then some (.ops [] [⟨some d, .mov (.t rK), none⟩, ⟨some e, .mov (.t d), none⟩]) else none
    | _, _, _, _, _, _ => none
  | _ => none
def cDef (N : Nat) : Code → Option CCode
  | .seq a b => match cDef N a, cCode P N 2 b with
    | some a, some b => some (.seq a b)
    | _, _ => match a with
      | .region _ _ _ => match cCode P N 2 a, cDef N b with
        | some a, some b => some (.seq a b)
        | _, _ => none
      | _ => none
  | .region _ ops false => cRcv N ops
  | _ => none
def cRes (r : List ResultVar) : Option (List CRes) := match r with
  | [] => some []
  | .tmp t :: r => (cRes r).map (.t t :: ·)
  | .cell a t :: r => match cSize P t, cAgg P t, cRes r with
    | some n, some g, some l => some (.cell a n g :: l)
    | _, _, _ => none
def cFunc (f : Func) (md : Nat) : Option (CCode × List CRes) := match f.body with
  | none => none
  | some b => match (if Nat.blt md 2 = true then cCode P f.ntmps md b else cDef P f.ntmps b), cRes P f.results.toList with
    | some c, some r => if Nat.ble f.ntmps 1048576 = true then some (c, r) else none
    | _, _ => none
end Go.Proofs.Z
end
section
namespace Go.Proofs.Z
open Go
class HasP where
  P : Program
  gl : Nat → Option (Array Value → Prop) := fun _ => none
structure Loc where
  blk : Nat
  cap : Nat
abbrev Mem := Nat → Nat → Option Value
abbrev Mu := Nat → Option Loc
abbrev Inf := Nat → Option (Option (Nat × Nat))
def infO : AObj → Option (Nat × Nat)
  | .box _ _ => none
  | .arr _ sz _ g _ => some (g, sz)
  | .dead g sz => some (g, sz)
  | _ => none
def inf (G : Heap) : Inf := fun id => (G[id]?).map infO
inductive RP (m : Mem) : Value → PV → Prop
  | b (x) : RP m (.bool x) (.b x)
  | i (k n) : RP m (.int k n) (.i k n)
  | s (l : List UInt8) : RP m (.string ⟨l.toArray⟩) (.s l)
  | sl (a : Option Addr) (cap : Nat) (rows : List (List PV)) (sz : Nat) (f : Nat → Nat → Value)
      (hcap : rows.length ≤ cap) (hs : okRows sz rows = true)
      (ha : rows ≠ [] → ∃ b o, a = some ⟨b, o, none⟩ ∧ ∀ (i j : Nat) (r : List PV) (c : PV), rows[i]? = some r → r[j]? = some c → m b (o + i * sz + j) = some (f i j))
      (hf : ∀ (i j : Nat) (r : List PV) (c : PV), rows[i]? = some r → r[j]? = some c → RP m (f i j) c) : RP m (.slice a rows.length cap) (.sl rows)
  | pn : RP m (.pointer none) .pn
  | fnil : RP m .nilFunc .fnil
  | inil : RP m .nilIface .inil
  | ag (cs : Array Value) (l : List PV) (h : cs.size = l.length) (hr : ∀ (j : Nat) (v : Value) (c : PV), cs[j]? = some v → l[j]? = some c → RP m v c) : RP m (.agg cs) (.ag l)
  | ifc (t v x) : RP m v x → RP m (.iface t v) (.ifc t x)
  | opq (t v) : RP m (.iface t v) .opq
inductive R (m : Mem) (μ : Mu) (inf : Inf) : Value → AV → Prop
  | p (v x) : RP m v x → R m μ inf v (.p x)
  | nils : R m μ inf (.slice none 0 0) .nils
  | undef : R m μ inf Go.undef .undef
  | ptr (id off loc) : μ id = some loc → inf id = some none → R m μ inf (.pointer (some ⟨loc.blk, off, none⟩)) (.ptr id off)
  | arr (id len gen a n c loc g sz) : μ id = some loc → inf id = some (some (g, sz)) → gen ≤ g →
      (gen = g → a = some ⟨loc.blk, 0, none⟩ ∧ n = len ∧ c = loc.cap) → R m μ inf (.slice a n c) (.arr id len gen)
  | eptr (id idx off gen a loc g sz) : μ id = some loc → inf id = some (some (g, sz)) → gen ≤ g →
      (gen = g → a = ⟨loc.blk, idx * sz + off, none⟩) → R m μ inf (.pointer (some a)) (.eptr id idx off gen)
  | rp (b o cells) (f : Nat → Value) : (∀ (j : Nat) (c : PV), cells[j]? = some c → m b (o + j) = some (f j) ∧ RP m (f j) c) → R m μ inf (.pointer (some ⟨b, o, none⟩)) (.rp cells)
  | ag (cs : Array Value) (l : List AV) (h : cs.size = l.length) (hr : ∀ (j : Nat) (v : Value) (c : AV), cs[j]? = some v → l[j]? = some c → R m μ inf v c) : R m μ inf (.agg cs) (.ag l)
  | tup (cs : Array Value) (l : List AV) (h : cs.size = l.length) (hr : ∀ (j : Nat) (v : Value) (c : AV), cs[j]? = some v → l[j]? = some c → R m μ inf v c) : R m μ inf (.tuple cs) (.tup l)
  | fn (f) (a : Array Value) (a' : List AV) (b : Array Value) (b' : List AV) (ha : a.size = a'.length) (hb : b.size = b'.length)
      (hra : ∀ (j : Nat) (v : Value) (c : AV), a[j]? = some v → a'[j]? = some c → R m μ inf v c) (hrb : ∀ (j : Nat) (v : Value) (c : AV), b[j]? = some v → b'[j]? = some c → R m μ inf v c) : R m μ inf (.func (.func f) a b) (.fn f a' b')
  | ifc (t v x) : R m μ inf v x → R m μ inf (.iface t v) (.ifc t x)
  | map (id loc) : μ id = some loc → inf id = some none → R m μ inf (.map (some loc.blk)) (.map id)
  | nmap : R m μ inf (.map none) .nmap
  | yld (id loc) : μ id = some loc → inf id = some none → R m μ inf (.func (.yield loc.blk) #[] #[]) (.yld id)
  | clip (a rows) : RP m (.slice a rows.length rows.length) (.sl rows) → R m μ inf (.slice a rows.length rows.length) (.clip rows)
def RL (m : Mem) (μ : Mu) (inf : Inf) (vs : List Value) (l : List AV) : Prop :=
  vs.length = l.length ∧ ∀ (j : Nat) (v : Value) (c : AV), vs[j]? = some v → l[j]? = some c → R m μ inf v c
def MapR (m : Mem) (es : Array MapEntry) (ents : List (PV × PV)) : Prop := ∃ l : List (PV × PV), l.Perm ents ∧ l.length = es.size ∧ ∀ (i : Nat) (e : MapEntry) (p : PV × PV), es[i]? = some e → l[i]? = some p → RP m e.key p.1 ∧ RP m e.val p.2
def stOf : Nat → LoopState
  | 0 => .ready
  | 1 => .busy
  | 2 => .done
  | _ => .exhausted
def pendOf : Option (Option Nat) → Option Code
  | none => none
  | some none => some .ret
  | some (some k) => some (.exit k)
variable [hP : HasP]
def ObjR (m : Mem) (μ : Mu) (inf : Inf) (w : World) (loc : Loc) : AObj → Prop
  | .box ty cells => ∃ cs T, w.heap[loc.blk]? = some (.cells cs T (0, 0)) ∧ cs.size = cells.length ∧ (∀ (j : Nat) (v : Value) (a : AV), cs[j]? = some v → cells[j]? = some a → R m μ inf v a) ∧
      cells.all AV.flat = true ∧ (∀ o, m loc.blk o = none) ∧ T = ty
  | .arr ty sz rows g sl => ∃ cs T, w.heap[loc.blk]? = some (.cells cs T (0, 0)) ∧ cs.size = loc.cap * sz ∧ rows.length ≤ loc.cap ∧ 1 ≤ sz ∧ okRows sz rows = true ∧
      (∀ (i j : Nat) (r : List PV) (c : PV), rows[i]? = some r → r[j]? = some c → ∃ v, cs[i * sz + j]? = some v ∧ RP m v c) ∧ (∀ o, sl * sz ≤ o → m loc.blk o = none) ∧ T = ty
  | .map ents => ∃ es, w.heap[loc.blk]? = some (.map es es.size) ∧ MapR m es ents ∧ (∀ (i : Nat) (e : MapEntry), es[i]? = some e → e.born = i) ∧ ents.Pairwise (fun a b => eqK a.1 b.1 = false) ∧ (∀ o, m loc.blk o = none)
  | .dead _ _ => ∃ x, w.heap[loc.blk]? = some x
  | .frm ps asg body env st pend => ∃ (r : Loop) (N : Nat), w.heap[loc.blk]? = some (.loop r) ∧ r.params.toList = ps ∧ Comp hP.P N 2 r.assign asg ∧ Comp hP.P N 2 r.body body ∧ (∀ p, p ∈ ps → p < N) ∧ N ≤ dK ∧
      N ≤ r.tmps.size ∧ (∀ p, p ∈ env → R m μ inf (r.tmps.getD p.1 undef) p.2) ∧ r.state = stOf st ∧ r.pending = pendOf pend ∧ (∀ o, m loc.blk o = none)
def Glob (μ : Mu) (w : World) : Prop := ∀ g p, hP.gl g = some p → (∃ cs T f, w.heap[g]? = some (.cells cs T f) ∧ p cs) ∧ ∀ id loc, μ id = some loc → loc.blk ≠ g
structure Inv (m : Mem) (μ : Mu) (G : Heap) (w : World) : Prop where
  known : ∀ b o v, m b o = some v → w.cell? ⟨b, o, none⟩ = some v
  inj : ∀ i j l l', μ i = some l → μ j = some l' → l.blk = l'.blk → i = j
  obj : ∀ id o, G[id]? = some o → ∀ loc, μ id = some loc → ObjR m μ (inf G) w loc o
  dom : ∀ id loc, μ id = some loc → id < G.length
  glob : Glob μ w
structure ExtI (m : Mem) (μ : Mu) (i : Inf) (m' : Mem) (μ' : Mu) (i' : Inf) : Prop where
  mem : ∀ b o v, m b o = some v → m' b o = some v
  box : ∀ id loc, μ id = some loc → i id = some none → μ' id = some loc ∧ i' id = some none
  arr : ∀ id loc g sz, μ id = some loc → i id = some (some (g, sz)) → ∃ loc' g', μ' id = some loc' ∧ i' id = some (some (g', sz)) ∧ g ≤ g' ∧ (g' = g → loc' = loc)
abbrev Ext (m : Mem) (μ : Mu) (G : Heap) (m' : Mem) (μ' : Mu) (G' : Heap) : Prop := ExtI m μ (inf G) m' μ' (inf G')
structure Fr (m : Mem) (μ : Mu) (w : World) (m' : Mem) (μ' : Mu) (w' : World) : Prop where
  os : w'.os = w.os
  tape : w'.tape = w.tape
  output : w'.output = w.output
  size : w.heap.size ≤ w'.heap.size
  blk : ∀ b, b < w.heap.size → (∀ id loc, μ id = some loc → loc.blk ≠ b) → w'.heap[b]? = w.heap[b]?
  mem : ∀ b o v, m' b o = some v → m b o = some v ∨ w.heap.size ≤ b ∨ ∃ id loc, μ id = some loc ∧ loc.blk = b
  loc : ∀ id loc', μ' id = some loc' → w.heap.size ≤ loc'.blk ∨ ∃ id loc, μ id = some loc ∧ loc.blk = loc'.blk
theorem Glob.step {m m' : Mem} {μ μ' : Mu} {w w' : World} (h : Glob μ w) (hf : Fr m μ w m' μ' w') : Glob μ' w' := fun g p hg => by
  obtain ⟨⟨cs, T, f, h1, h2⟩, h3⟩ := h g p hg
  have hlt : g < w.heap.size := (Array.getElem?_eq_some_iff.1 h1).1
  refine ⟨⟨cs, T, f, (hf.blk g hlt h3).trans h1, h2⟩, fun id loc hl e => ?_⟩
  rcases hf.loc id loc hl with h4 | ⟨id', l', a, b⟩
  · omega
  · exact h3 id' l' a (b.trans e)
theorem Glob.sub {μ μ' : Mu} {w : World} (h : Glob μ w) (hs : ∀ id loc, μ' id = some loc → ∃ id', μ id' = some loc) : Glob μ' w := fun g p hg => ⟨(h g p hg).1, fun id loc hl => let ⟨id', h'⟩ := hs id loc hl; (h g p hg).2 id' loc h'⟩
structure Tot (μ : Mu) (G : Heap) (μ' : Mu) (G' : Heap) : Prop where
  tot : ∀ id, id < G'.length → (id < G.length → ∃ l, μ id = some l) → ∃ l, μ' id = some l
  keep : ∀ id, id < G.length → μ id = none → μ' id = none ∧ G'[id]? = G[id]?
structure Stp (m : Mem) (μ : Mu) (G : Heap) (w : World) (m' : Mem) (μ' : Mu) (G' : Heap) (w' : World) : Prop where
  ext : Ext m μ G m' μ' G'
  fr : Fr m μ w m' μ' w'
  tot : Tot μ G μ' G'
theorem RP.mono {m m' : Mem} (h : ∀ b o v, m b o = some v → m' b o = some v) {v : Value} {x : PV} (hr : RP m v x) : RP m' v x := by
  induction hr with
  | b x => exact .b x
  | i k n => exact .i k n
  | s l => exact .s l
  | sl a cap rows sz f hcap hs ha hf ih =>
    exact .sl a cap rows sz f hcap hs (fun hne => let ⟨bb, oo, e, hc⟩ := ha hne; ⟨bb, oo, e, fun i j r c h1 h2 => h _ _ _ (hc i j r c h1 h2)⟩) ih
  | pn => exact .pn
  | fnil => exact .fnil
  | inil => exact .inil
  | ag cs l hl hr ih => exact .ag cs l hl ih
  | ifc t v x _ ih => exact .ifc t v x ih
  | opq t v => exact .opq t v
theorem R.monoI {m m' : Mem} {μ μ' : Mu} {i i' : Inf} (h : ExtI m μ i m' μ' i') {v : Value} {x : AV} (hr : R m μ i v x) : R m' μ' i' v x := by
  induction hr with
  | p v x hp => exact .p v x (hp.mono h.mem)
  | nils => exact .nils
  | undef => exact .undef
  | ptr id off loc h1 h2 => obtain ⟨a, b⟩ := h.box id loc h1 h2; exact .ptr id off loc a b
  | arr id len gen a n c loc g sz h1 h2 h3 h4 =>
    obtain ⟨loc', g', a1, a2, a3, a4⟩ := h.arr id loc g sz h1 h2
    refine .arr id len gen a n c loc' g' sz a1 a2 (by omega) (fun e => ?_)
    have hg : g' = g := by omega
    rw [a4 hg]
    exact h4 (by omega)
  | eptr id idx off gen a loc g sz h1 h2 h3 h4 =>
    obtain ⟨loc', g', a1, a2, a3, a4⟩ := h.arr id loc g sz h1 h2
    refine .eptr id idx off gen a loc' g' sz a1 a2 (by omega) (fun e => ?_)
    have hg : g' = g := by omega
    rw [a4 hg]
    exact h4 (by omega)
  | rp b o cells f hc => exact .rp b o cells f fun j c hj => ⟨h.mem _ _ _ (hc j c hj).1, (hc j c hj).2.mono h.mem⟩
  | ag cs l hl hr ih => exact .ag cs l hl ih
  | tup cs l hl hr ih => exact .tup cs l hl ih
  | fn f a a' b b' ha hb hra hrb iha ihb => exact .fn f a a' b b' ha hb iha ihb
  | ifc t v x _ ih => exact .ifc t v x ih
  | map id loc h1 h2 => obtain ⟨a, b⟩ := h.box id loc h1 h2; exact .map id loc a b
  | nmap => exact .nmap
  | yld id loc h1 h2 => obtain ⟨a, b⟩ := h.box id loc h1 h2; exact .yld id loc a b
  | clip a rows hp => exact .clip a rows (hp.mono h.mem)
theorem R.mono {m m' : Mem} {μ μ' : Mu} {G G' : Heap} (h : Ext m μ G m' μ' G') {v : Value} {x : AV} (hr : R m μ (inf G) v x) : R m' μ' (inf G') v x := hr.monoI h
theorem Ext.refl (m : Mem) (μ : Mu) (G : Heap) : Ext m μ G m μ G :=
  ⟨fun _ _ _ h => h, fun _ _ h h' => ⟨h, h'⟩, fun _ loc g _ h h' => ⟨loc, g, h, h', Nat.le_refl _, fun _ => rfl⟩⟩
theorem Ext.trans {m m' m'' : Mem} {μ μ' μ'' : Mu} {G G' G'' : Heap} (h : Ext m μ G m' μ' G') (h' : Ext m' μ' G' m'' μ'' G'') : Ext m μ G m'' μ'' G'' := by
  refine ⟨fun b o v hm => h'.mem _ _ _ (h.mem _ _ _ hm), fun id loc h1 h2 => ?_, fun id loc g sz h1 h2 => ?_⟩
  · obtain ⟨a, b⟩ := h.box id loc h1 h2
    exact h'.box id loc a b
  · obtain ⟨l1, g1, a1, a2, a3, a4⟩ := h.arr id loc g sz h1 h2
    obtain ⟨l2, g2, b1, b2, b3, b4⟩ := h'.arr id l1 g1 sz a1 a2
    exact ⟨l2, g2, b1, b2, by omega, fun e => by rw [b4 (by omega), a4 (by omega)]⟩
theorem Fr.refl (m : Mem) (μ : Mu) (w : World) : Fr m μ w m μ w :=
  ⟨rfl, rfl, rfl, Nat.le_refl _, fun _ _ _ => rfl, fun _ _ _ h => .inl h, fun id loc h => .inr ⟨id, loc, h, rfl⟩⟩
theorem Fr.trans {m m' m'' : Mem} {μ μ' μ'' : Mu} {w w' w'' : World} (h : Fr m μ w m' μ' w') (h' : Fr m' μ' w' m'' μ'' w'') : Fr m μ w m'' μ'' w'' := by
  refine ⟨h'.os.trans h.os, h'.tape.trans h.tape, h'.output.trans h.output, Nat.le_trans h.size h'.size, fun b hb hn => ?_, fun b o v hm => ?_, fun id l hl => ?_⟩
  · rw [h'.blk b (Nat.lt_of_lt_of_le hb h.size) (fun id l hl e => ?_), h.blk b hb hn]
    rcases h.loc id l hl with h1 | ⟨id', l', h1, h2⟩
    · omega
    · exact hn id' l' h1 (h2.trans e)
  · rcases h'.mem b o v hm with h1 | h1 | ⟨id, l, h1, h2⟩
    · exact h.mem b o v h1
    · exact .inr (.inl (Nat.le_trans h.size h1))
    · rcases h.loc id l h1 with h3 | ⟨id', l', h3, h4⟩
      · exact .inr (.inl (by omega))
      · exact .inr (.inr ⟨id', l', h3, h4.trans h2⟩)
  · rcases h'.loc id l hl with h1 | ⟨id', l', h1, h2⟩
    · exact .inl (Nat.le_trans h.size h1)
    · rcases h.loc id' l' h1 with h3 | ⟨id2, l2, h3, h4⟩
      · exact .inl (by omega)
      · exact .inr ⟨id2, l2, h3, h4.trans h2⟩
theorem Tot.refl (μ : Mu) (G : Heap) : Tot μ G μ G := ⟨fun id h t => t h, fun id h t => ⟨t, rfl⟩⟩
theorem Tot.trans {μ μ' μ'' : Mu} {G G' G'' : Heap} (h : Tot μ G μ' G') (h' : Tot μ' G' μ'' G'') : Tot μ G μ'' G'' := by
  refine ⟨fun id hid t => h'.tot id hid fun hid' => h.tot id hid' t, fun id hid t => ?_⟩
  obtain ⟨a1, a2⟩ := h.keep id hid t
  have hid' : id < G'.length := by rw [List.getElem?_eq_getElem hid] at a2; exact (List.getElem?_eq_some_iff.1 a2).1
  obtain ⟨b1, b2⟩ := h'.keep id hid' a1
  exact ⟨b1, b2.trans a2⟩
theorem Stp.total {m m' : Mem} {μ μ' : Mu} {G G' : Heap} {w w' : World} (h : Stp m μ G w m' μ' G' w') (t : ∀ id, id < G.length → ∃ l, μ id = some l) : ∀ id, id < G'.length → ∃ l, μ' id = some l :=
  fun id hid => h.tot.tot id hid (t id)
theorem Stp.refl (m : Mem) (μ : Mu) (G : Heap) (w : World) : Stp m μ G w m μ G w := ⟨.refl _ _ _, .refl _ _ _, .refl _ _⟩
theorem Stp.trans {m m' m'' : Mem} {μ μ' μ'' : Mu} {G G' G'' : Heap} {w w' w'' : World} (h : Stp m μ G w m' μ' G' w') (h' : Stp m' μ' G' w' m'' μ'' G'' w'') : Stp m μ G w m'' μ'' G'' w'' :=
  ⟨h.ext.trans h'.ext, h.fr.trans h'.fr, h.tot.trans h'.tot⟩
theorem RL.mono {m m' : Mem} {μ μ' : Mu} {G G' : Heap} (h : Ext m μ G m' μ' G') {vs : List Value} {l : List AV} (hr : RL m μ (inf G) vs l) : RL m' μ' (inf G') vs l :=
  ⟨hr.1, fun j v c h1 h2 => (hr.2 j v c h1 h2).mono h⟩
theorem RL.nil {m : Mem} {μ : Mu} {i : Inf} : RL m μ i [] [] := ⟨rfl, fun j v c h => by simp at h⟩
theorem RL.cons {m : Mem} {μ : Mu} {i : Inf} {v : Value} {a : AV} {vs : List Value} {l : List AV} (h : R m μ i v a) (hr : RL m μ i vs l) : RL m μ i (v :: vs) (a :: l) :=
  ⟨by simp [hr.1], fun j v' c h1 h2 => by
    cases j with
    | zero => simp at h1 h2; subst h1; subst h2; exact h
    | succ j => simp at h1 h2; exact hr.2 j v' c h1 h2⟩
theorem RL.inv_cons {m : Mem} {μ : Mu} {i : Inf} {a : AV} {vs : List Value} {l : List AV} (h : RL m μ i vs (a :: l)) : ∃ v vs', vs = v :: vs' ∧ R m μ i v a ∧ RL m μ i vs' l := by
  cases vs with
  | nil => have := h.1; simp at this
  | cons v vs' => exact ⟨v, vs', rfl, h.2 0 v a rfl rfl, by have := h.1; simpa using this, fun j v' c h1 h2 => h.2 (j + 1) v' c (by simpa using h1) (by simpa using h2)⟩
theorem RL.inv_nil {m : Mem} {μ : Mu} {i : Inf} {vs : List Value} (h : RL m μ i vs []) : vs = [] := by
  have := h.1
  exact List.eq_nil_of_length_eq_zero (by simpa using this)
theorem RL.app {m : Mem} {μ : Mu} {i : Inf} {vs vs' : List Value} {l l' : List AV} (h : RL m μ i vs l) (h' : RL m μ i vs' l') : RL m μ i (vs ++ vs') (l ++ l') := by
  induction l generalizing vs with
  | nil => rw [h.inv_nil]; exact h'
  | cons a l ih => obtain ⟨v, vs, rfl, hv, hr⟩ := h.inv_cons; exact .cons hv (ih hr)
theorem RL.cellsOf {m : Mem} {μ : Mu} {i : Inf} {v : Value} {a : AV} (h : R m μ i v a) (hf : a.cells.all AV.flat = true) : RL m μ i v.cells.toList a.cells := by
  cases h with
  | ag cs l hl hr => exact ⟨by simpa [Value.cells, AV.cells] using hl, fun j v c h1 h2 => hr j v c (by simpa [Value.cells] using h1) h2⟩
  | p v x hp =>
    cases hp with
    | ag cs l hl hr => simp [AV.cells, AV.flat, PV.flat] at hf
    | b => exact .cons (.p _ _ (.b _)) .nil
    | i => exact .cons (.p _ _ (.i _ _)) .nil
    | s => exact .cons (.p _ _ (.s _)) .nil
    | sl a cap rows sz f hcap hs ha hff => exact .cons (.p _ _ (.sl a cap rows sz f hcap hs ha hff)) .nil
    | pn => exact .cons (.p _ _ .pn) .nil
    | fnil => exact .cons (.p _ _ .fnil) .nil
    | inil => exact .cons (.p _ _ .inil) .nil
    | ifc t v x h => exact .cons (.p _ _ (.ifc t v x h)) .nil
    | opq t v => exact .cons (.p _ _ (.opq t v)) .nil
  | nils => exact .cons .nils .nil
  | undef => simp [AV.cells, AV.flat] at hf
  | ptr id off loc h1 h2 => exact .cons (.ptr id off loc h1 h2) .nil
  | arr id len gen a n c loc g sz h1 h2 h3 h4 => exact .cons (.arr id len gen a n c loc g sz h1 h2 h3 h4) .nil
  | eptr id idx off gen a loc g sz h1 h2 h3 h4 => exact .cons (.eptr id idx off gen a loc g sz h1 h2 h3 h4) .nil
  | rp b o cells f hc => exact .cons (.rp b o cells f hc) .nil
  | tup => simp [AV.cells, AV.flat] at hf
  | fn f a a' b b' ha hb hra hrb => exact .cons (.fn f a a' b b' ha hb hra hrb) .nil
  | ifc t v x h => exact .cons (.ifc t v x h) .nil
  | map id loc h1 h2 => exact .cons (.map id loc h1 h2) .nil
  | nmap => exact .cons .nmap .nil
  | yld id loc h1 h2 => exact .cons (.yld id loc h1 h2) .nil
  | clip a rows hp => exact .cons (.clip a rows hp) .nil
theorem RP.opq_inv {m : Mem} {z : Value} (h : RP m z .opq) : ∃ t v, z = .iface t v := by cases h with | opq t v => exact ⟨t, v, rfl⟩
theorem RP.sl_inv {m : Mem} {z : Value} {rows : List (List PV)} (h : RP m z (.sl rows)) : ∃ (a : Option Addr) (cap sz : Nat) (f : Nat → Nat → Value), z = .slice a rows.length cap ∧ rows.length ≤ cap ∧ okRows sz rows = true ∧
    (rows ≠ [] → ∃ bb oo, a = some ⟨bb, oo, none⟩ ∧ ∀ (i j : Nat) (r : List PV) (c : PV), rows[i]? = some r → r[j]? = some c → m bb (oo + i * sz + j) = some (f i j)) ∧
    (∀ (i j : Nat) (r : List PV) (c : PV), rows[i]? = some r → r[j]? = some c → RP m (f i j) c) := by
  cases h with | sl a cap _ sz f hcap hs ha hf => exact ⟨a, cap, sz, f, rfl, hcap, hs, ha, hf⟩
theorem R.one {m : Mem} {μ : Mu} {i : Inf} {v : Value} {a : AV} (h : R m μ i v a) (hf : a.flat = true) : v.oneCell' = true := by
  cases h with
  | p v x hp => cases hp <;> first | rfl | simp [AV.flat, PV.flat] at hf
  | _ => first | rfl | simp [AV.flat] at hf
theorem RP.one {m : Mem} {v : Value} {x : PV} (h : RP m v x) (hf : x.flat = true) : v.oneCell' = true := by
  cases h <;> first | rfl | simp [PV.flat] at hf
end Go.Proofs.Z
end
section
namespace Go.Proofs.Z
open Go
variable [hP : HasP]
abbrev Fn (ro : Option Nat) : Fence := { Fence.wide with round := ro }
theorem ofVal_R (m : Mem) (μ : Mu) (i : Inf) : ∀ (v : Value) (a : AV), ofVal v = some a → R m μ i v a := by
  intro v
  refine Value.rec (motive_1 := fun v => ∀ a, ofVal v = some a → R m μ i v a) (motive_2 := fun c => ∀ a, ofVals c.toList = some a → RL m μ i c.toList a)
    (motive_3 := fun l => ∀ a, ofVals l = some a → RL m μ i l a) ?_ ?_ ?_ ?_ ?_ ?_ ?_ ?_ ?_ ?_ ?_ ?_ ?_ ?_ ?_ ?_ ?_ ?_ v
  · intro b a h; simp [ofVal] at h; subst h; exact .p _ _ (.b _)
  · intro k n a h; simp [ofVal] at h; subst h; exact .p _ _ (.i _ _)
  · intro k n a h; simp [ofVal] at h
  · intro k n n' a h; simp [ofVal] at h
  · intro s a h
    simp [ofVal] at h
    subst h
    have : Value.string s = .string ⟨s.data.toList.toArray⟩ := by simp
    rw [this]
    exact .p _ _ (.s _)
  · intro p a h
    cases p with
    | none => simp [ofVal] at h; subst h; exact .p _ _ .pn
    | some p => simp [ofVal] at h
  · intro p n c a h
    cases p with
    | none => cases n with
      | zero => cases c with
        | zero => simp [ofVal] at h; subst h; exact .nils
        | succ c => simp [ofVal] at h
      | succ n => simp [ofVal] at h
    | some p => simp [ofVal] at h
  · intro r a h
    cases r with
    | none => simp [ofVal] at h; subst h; exact .nmap
    | some r => simp [ofVal] at h
  · intro r a h; simp [ofVal] at h
  · intro fn f c _ _ a h; simp [ofVal] at h
  · intro a h; simp [ofVal] at h; subst h; exact .p _ _ .fnil
  · intro t v _ a h; simp [ofVal] at h
  · intro a h; simp [ofVal] at h; subst h; exact .p _ _ .inil
  · intro cs ih a h
    rcases cs with ⟨cs⟩
    simp only [ofVal] at h
    split at h
    · rename_i l hl
      cases h
      have := ih l hl
      exact .ag _ _ (by simpa using this.1) (fun j v c h1 h2 => this.2 j v c (by simpa using h1) h2)
    · cases h
  · intro vs _ a h; simp [ofVal] at h
  · intro l ih a h; exact ih a h
  · intro a h; simp [ofVals] at h; subst h; exact .nil
  · intro v l ihv ihl a h
    simp only [ofVals] at h
    split at h
    · cases h
    · rename_i x hx
      split at h
      · cases h
      · rename_i l' hl
        cases h
        exact .cons (ihv _ hx) (ihl _ hl)
structure EnvR (m : Mem) (μ : Mu) (i : Inf) (N : Nat) (env : Env) (a : Act) : Prop where
  size : N ≤ a.tmps.size
  val : ∀ k x, lk env k = some x → k < dK → R m μ i (a.tmps.getD k undef) x
section
variable {m : Mem} {μ : Mu} {i : Inf} {N : Nat} {env : Env} {a : Act}
theorem EnvR.mono {m' : Mem} {μ' : Mu} {G G' : Heap} (h : EnvR m μ (inf G) N env a) (e : Ext m μ G m' μ' G') : EnvR m' μ' (inf G') N env a :=
  ⟨h.size, fun k x hk hd => (h.val k x hk hd).mono e⟩
theorem EnvR.put (h : EnvR m μ i N env a) {d : Option Nat} (hd : dstOK N d = true) {v : Value} {x : AV} (hv : R m μ i v x) : EnvR m μ i N (put env d x) (a.put d v) := by
  cases d with
  | none => exact h
  | some d =>
    have hd' : d < N := by simpa [dstOK, Nat.blt_eq] using hd
    refine ⟨by simpa [Act.put] using h.size, fun k y hk hkd => ?_⟩
    simp only [Z.put, lk] at hk
    by_cases e : d = k
    · subst e
      rw [if_pos rfl] at hk
      cases hk
      have : d < a.tmps.size := Nat.lt_of_lt_of_le hd' h.size
      simpa [Act.put, Array.getD_eq_getD_getElem?, this] using hv
    · rw [if_neg e] at hk
      have := h.val k y hk hkd
      simpa [Act.put, Array.getD_eq_getD_getElem?, Array.getElem?_setIfInBounds, e] using this
theorem EnvR.restr (h : EnvR m μ i N env a) : ∀ (l : List Nat), EnvR m μ i N (restr l env) a := by
  intro l
  refine ⟨h.size, ?_⟩
  induction l with
  | nil => intro k x hk hd; simp [Z.restr, lk] at hk
  | cons n l ih =>
    intro k x hk hd
    unfold Z.restr at hk
    split at hk
    · rename_i v hv
      simp only [lk] at hk
      split at hk
      · rename_i e
        subst e
        cases hk
        exact h.val _ _ hv hd
      · exact ih k x hk hd
    · exact ih k x hk hd
theorem opd_R (h : EnvR m μ i N env a) {x : Operand} {o : Opd} (hc : cOpd x = some o) {v : AV} (ho : opd env o = some v) : R m μ i (a.eval x) v := by
  cases x with
  | tmp t =>
    simp only [cOpd] at hc
    split at hc
    · rename_i hb; cases hc; exact h.val _ _ ho (Nat.blt_eq.mp hb)
    · cases hc
  | const c =>
    simp only [cOpd, Option.map_eq_some_iff] at hc
    obtain ⟨b, hb, rfl⟩ := hc
    simp [opd] at ho
    subst ho
    exact ofVal_R _ _ _ _ _ hb
  | global g => simp [cOpd] at hc
  | func f =>
    simp [cOpd] at hc
    subst hc
    simp [opd] at ho
    subst ho
    exact .fn f #[] [] #[] [] rfl rfl (fun j v c h => by simp at h) (fun j v c h => by simp at h)
theorem opds_R (h : EnvR m μ i N env a) : ∀ {xs : List Operand} {os : List Opd}, cOpds xs = some os → ∀ {vs : List AV}, opds env os = some vs → RL m μ i (xs.map a.eval) vs
  | [], os, hc, vs, ho => by
    simp [cOpds] at hc
    subst hc
    simp [opds] at ho
    subst ho
    exact .nil
  | x :: xs, os, hc, vs, ho => by
    simp only [cOpds] at hc
    split at hc
    · cases hc
    · rename_i b hb
      split at hc
      · cases hc
      · rename_i bs hbs
        cases hc
        simp only [opds] at ho
        split at ho
        · cases ho
        · rename_i v hv
          split at ho
          · cases ho
          · rename_i vs' hvs
            cases ho
            exact .cons (opd_R h hb hv) (opds_R h hbs hvs)
end
section
variable {P : Program} {o : Oper} {a : Act} {w w' : World} {next : Act → World → Prop} {Q : Exit → Act → World → Prop}
theorem sem_same {ro : Option Nat} {r : Result Next} (h : (execOp a.eval o).run P w = r) (hn : ∀ c, o.op ≠ .defer c) : (o.semAt ro a.eval).run P w = r := by rw [Oper.semAt_eq _ _ _ hn]; exact h
theorem not_dfr {x : Next} (h : (execOp a.eval o).run P w = .ok x w') (hx : ∀ d, x ≠ .defer d) : ∀ c, o.op ≠ .defer c := by
  intro c ho
  simp only [execOp, ho, Sem.run_bind] at h
  cases hr : (resolve a.eval c o.type).run P w with
  | ok d w1 => rw [hr] at h; simp [Result.andThen] at h; exact hx _ h.1.symm
  | halt e w1 => rw [hr] at h; simp [Result.andThen] at h
variable {ro : Option Nat}
theorem wp_of_val {v : Value} (h : (execOp a.eval o).run P w = .ok (.value v) w') (hn : next (a.put o.dst v) w') : o.wpIn (Fn ro) 0 P a w next Q := by
  unfold Oper.wpIn
  rw [sem_same h (not_dfr h (by simp))]
  exact ⟨fun _ _ => trivial, hn⟩
theorem wp_of_skip (h : (execOp a.eval o).run P w = .ok .skip w') (hn : next (a.put o.dst undef) w') : o.wpIn (Fn ro) 0 P a w next Q := by
  unfold Oper.wpIn
  rw [sem_same h (not_dfr h (by simp))]
  exact ⟨fun _ _ => trivial, hn⟩
theorem wp_of_pan {v : Value} (hd : ∀ c, o.op ≠ .defer c) (h : (execOp a.eval o).run P w = .halt (.panic v) w') (hn : Q (.panic [{ v, recovered := false }]) a w') : o.wpIn (Fn ro) 0 P a w next Q := by
  unfold Oper.wpIn
  rw [sem_same h hd]
  exact ⟨fun _ _ => trivial, hn⟩
end
end Go.Proofs.Z
end
section
namespace Go.Proofs.Z
open Go
variable [hP : HasP]
def Good (P : Program) (o : Oper) (a : Act) (m : Mem) (μ : Mu) (G : Heap) (w : World) (r : Res) : Prop :=
  ∀ (ro : Option Nat) (next : Act → World → Prop) (Q : Exit → Act → World → Prop),
    match r with
    | .val v G' => (∀ m' μ' w' val, Inv m' μ' G' w' → Stp m μ G w m' μ' G' w' → R m' μ' (inf G') val v → next (a.put o.dst val) w') → o.wpIn (Fn ro) 0 P a w next Q
    | .pan v G' => (∀ m' μ' w' val, Inv m' μ' G' w' → Stp m μ G w m' μ' G' w' → R m' μ' (inf G') val v → Q (.panic [{ v := val, recovered := false }]) a w') → o.wpIn (Fn ro) 0 P a w next Q
section
variable {P : Program} {o : Oper} {a : Act} {m : Mem} {μ : Mu} {G : Heap} {w : World}
theorem Good.same (hI : Inv m μ G w) {v : AV} {val : Value} (h : (execOp a.eval o).run P w = .ok (.value val) w) (hr : R m μ (inf G) val v) : Good P o a m μ G w (.val v G) :=
  fun ro next Q hn => wp_of_val h (hn m μ w val hI (.refl _ _ _ _) hr)
theorem Good.sameSkip (hI : Inv m μ G w) (h : (execOp a.eval o).run P w = .ok .skip w) : Good P o a m μ G w (.val .undef G) :=
  fun ro next Q hn => wp_of_skip h (hn m μ w undef hI (.refl _ _ _ _) .undef)
variable {i : Inf} {v : Value}
theorem R.bool_inv {x : Bool} (h : R m μ i v (.p (.b x))) : v = .bool x := by
  cases h with | p _ _ h => cases h; rfl
theorem R.int_inv {k : IntKind} {n : Int} (h : R m μ i v (.p (.i k n))) : v = .int k n := by
  cases h with | p _ _ h => cases h; rfl
theorem R.str_inv {l : List UInt8} (h : R m μ i v (.p (.s l))) : v = .string ⟨l.toArray⟩ := by
  cases h with | p _ _ h => cases h; rfl
theorem R.ag_inv {l : List AV} (h : R m μ i v (.ag l)) : ∃ cs, v = .agg cs ∧ cs.size = l.length ∧ ∀ (j : Nat) (v : Value) (c : AV), cs[j]? = some v → l[j]? = some c → R m μ i v c := by
  cases h with | ag cs l h hr => exact ⟨cs, rfl, h, hr⟩
theorem R.tup_inv {l : List AV} (h : R m μ i v (.tup l)) : ∃ cs, v = .tuple cs ∧ cs.size = l.length ∧ ∀ (j : Nat) (v : Value) (c : AV), cs[j]? = some v → l[j]? = some c → R m μ i v c := by
  cases h with | tup cs l h hr => exact ⟨cs, rfl, h, hr⟩
theorem R.bool (x : Bool) : R m μ i (.bool x) (.p (.b x)) := .p _ _ (.b _)
theorem R.int (k : IntKind) (n : Int) : R m μ i (.int k n) (.p (.i k n)) := .p _ _ (.i _ _)
theorem R.str (l : List UInt8) : R m μ i (.string ⟨l.toArray⟩) (.p (.s l)) := .p _ _ (.s _)
variable {N : Nat} {env : Env} (hI : Inv m μ G w) (he : EnvR m μ (inf G) N env a)
include hI he
theorem good_mov {x : Operand} {ox : Opd} (ho : o.op = .move x ∨ o.op = .assign x) (hx : cOpd x = some ox) {v : AV} (hv : opd env ox = some v) : Good P o a m μ G w (.val v G) :=
  .same hI (by rcases ho with ho | ho <;> simp [execOp, ho]) (opd_R he hx hv)
theorem good_pick {c x y : Operand} {oc ox oy : Opd} (ho : o.op = .pick c x y) (hc : cOpd c = some oc) (hx : cOpd x = some ox) (hy : cOpd y = some oy)
    {b : Bool} (hb : opd env oc = some (.p (.b b))) {v : AV} (hv : opd env (if b then ox else oy) = some v) : Good P o a m μ G w (.val v G) := by
  have hb' := (opd_R he hc hb).bool_inv
  cases b
  · exact .same hI (by simp [execOp, ho, hb', asBool]) (opd_R he hy (by simpa using hv))
  · exact .same hI (by simp [execOp, ho, hb', asBool]) (opd_R he hx (by simpa using hv))
theorem good_nilck {x : Operand} {ox : Opd} (ho : o.op = .nilCheck x) (hx : cOpd x = some ox) {v : AV} (hv : opd env ox = some v)
    (hk : (∃ id off, v = .ptr id off) ∨ (∃ id idx off gen, v = .eptr id idx off gen) ∨ (∃ cs, v = .rp cs) ∨ ∃ f a b, v = .fn f a b) : Good P o a m μ G w (.val v G) := by
  have hr := opd_R he hx hv
  refine .same hI (val := a.eval x) ?_ hr
  rcases hk with ⟨id, off, rfl⟩ | ⟨id, idx, off, gen, rfl⟩ | ⟨cs, rfl⟩ | ⟨f, b, c, rfl⟩
  · generalize hz : a.eval x = z at hr
    cases hr; simp [execOp, ho, hz]
  · generalize hz : a.eval x = z at hr
    cases hr; simp [execOp, ho, hz]
  · generalize hz : a.eval x = z at hr
    cases hr; simp [execOp, ho, hz]
  · generalize hz : a.eval x = z at hr
    cases hr; simp [execOp, ho, hz]
theorem good_not {x : Operand} {ox : Opd} {t : TypeId} (ho : o.op = .unOp .not t x) (hx : cOpd x = some ox) {b : Bool} (hv : opd env ox = some (.p (.b b))) : Good P o a m μ G w (.val (.p (.b (!b))) G) := by
  have hb' := (opd_R he hx hv).bool_inv
  exact .same hI (by simp [execOp, ho, hb', Op.unary]) (.bool _)
theorem good_neg {x : Operand} {ox : Opd} {t : TypeId} (ho : o.op = .unOp .neg t x) (hx : cOpd x = some ox) {k : IntKind} {n : Int} (hv : opd env ox = some (.p (.i k n))) : Good P o a m μ G w (.val (.p (.i k (k.wrap (0 - n)))) G) := by
  have hb' := (opd_R he hx hv).int_inv
  exact .same hI (by simp [execOp, ho, hb', Op.unary, Op.intArith]) (.int _ _)
theorem good_conv {x : Operand} {ox : Opd} {s d : TypeId} {ks k : IntKind} (ho : o.op = .convert s d x) (hs : P.underlying s = some (.int ks)) (hd : P.underlying d = some (.int k)) (hx : cOpd x = some ox) {k' : IntKind} {n : Int} (hv : opd env ox = some (.p (.i k' n))) : Good P o a m μ G w (.val (.p (.i k (k.wrap n))) G) := by
  have hb' := (opd_R he hx hv).int_inv
  exact .same hI (by simp [execOp, ho, hb', convert, run_underlying hs, run_underlying hd, Conv.intToInt]) (.int _ _)
theorem good_mkif {x : Operand} {ox : Opd} {t : TypeId} (ho : o.op = .makeInterface t x) {d : TypeDesc} (ht : P.underlying t = some d) (hd : ∀ ms, d ≠ .interface ms) (hx : cOpd x = some ox) {v : AV} (hv : opd env ox = some v) : Good P o a m μ G w (.val (.ifc t v) G) := by
  refine .same hI (val := .iface t (a.eval x)) ?_ (.ifc _ _ _ (opd_R he hx hv))
  simp only [execOp, ho, Instr.makeInterface, Sem.run_bind, run_underlying ht, Result.andThen_ok]
  cases d <;> first | rfl | exact absurd rfl (hd _)
theorem good_mkfn {f : Nat} {x y : Array Operand} {ox oy : List Opd} (ho : o.op = .makeFunc (.func f) x y) (hx : cOpds x.toList = some ox) (hy : cOpds y.toList = some oy) {vs us : List AV} (hv : opds env ox = some vs) (hu : opds env oy = some us) : Good P o a m μ G w (.val (.fn f vs us) G) := by
  have h1 := opds_R he hx hv
  have h2 := opds_R he hy hu
  refine .same hI (val := .func (.func f) (x.map a.eval) (y.map a.eval)) (by simp [execOp, ho, Instr.makeFunc]) (.fn _ _ _ _ _ (by simpa using h1.1) (by simpa using h2.1) ?_ ?_)
  · intro j v c g1 g2; exact h1.2 j v c (by simpa using g1) g2
  · intro j v c g1 g2; exact h2.2 j v c (by simpa using g1) g2
theorem good_extract {x : Operand} {ox : Opd} {k : Nat} (ho : o.op = .extract x k) (hx : cOpd x = some ox) {vs : List AV} (hv : opd env ox = some (.tup vs)) {v : AV} (hk : vs[k]? = some v) : Good P o a m μ G w (.val v G) := by
  obtain ⟨cs, e, hs, hr⟩ := (opd_R he hx hv).tup_inv
  have hlt : k < cs.size := by rw [hs]; exact (List.getElem?_eq_some_iff.1 hk).1
  exact .same hI (val := cs[k]) (by simp [execOp, ho, e, Instr.extract, Array.getElem?_eq_getElem hlt]) (hr k _ v (Array.getElem?_eq_getElem hlt) hk)
theorem good_max {args : Array Operand} {ts : Array TypeId} {x y : Operand} {ox oy : Opd} (ho : o.op = .call ⟨.builtin .max, args, ts⟩) (ha : args.toList = [x, y]) (hx : cOpd x = some ox) (hy : cOpd y = some oy) {k k' : IntKind} {n n' : Int}
    (hv : opd env ox = some (.p (.i k n))) (hu : opd env oy = some (.p (.i k' n'))) : Good P o a m μ G w (.val (.p (.i k (maxI n n'))) G) := by
  have h1 := (opd_R he hx hv).int_inv
  have h2 := (opd_R he hy hu).int_inv
  have ha' : args = #[x, y] := by apply Array.ext'; simpa using ha
  refine .same hI (val := .int k (maxI n n')) ?_ (.int _ _)
  simp [execOp, ho, ha', resolve, invoke, builtin, h1, h2, Builtin.max_, Builtin.max2, maxI]
theorem good_min {args : Array Operand} {ts : Array TypeId} {x y : Operand} {ox oy : Opd} (ho : o.op = .call ⟨.builtin .min, args, ts⟩) (ha : args.toList = [x, y]) (hx : cOpd x = some ox) (hy : cOpd y = some oy) {k k' : IntKind} {n n' : Int}
    (hv : opd env ox = some (.p (.i k n))) (hu : opd env oy = some (.p (.i k' n'))) : Good P o a m μ G w (.val (.p (.i k (minI n n'))) G) := by
  have h1 := (opd_R he hx hv).int_inv
  have h2 := (opd_R he hy hu).int_inv
  have ha' : args = #[x, y] := by apply Array.ext'; simpa using ha
  refine .same hI (val := .int k (minI n n')) ?_ (.int _ _)
  simp [execOp, ho, ha', resolve, invoke, builtin, h1, h2, Builtin.min_, Builtin.min2, minI]
end
end Go.Proofs.Z
end
