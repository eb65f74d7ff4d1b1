/- A part of the proof. -/
import Derived.Calls
set_option linter.all false
section
namespace Go.Proofs.Z
open Go
inductive PV where
  | b (x : Bool)
  | i (k : IntKind) (n : Int)
  | s (x : List UInt8)
  | sl (rows : List (List PV))
  | pn
  | fnil
  | inil
  | ag (cells : List PV)
  | ifc (t : Nat) (v : PV)
  | opq
  deriving Inhabited
inductive AV where
  | p (x : PV)
  | nils
  | undef
  | ptr (id off : Nat)
  | arr (id len gen : Nat)
  | eptr (id idx off gen : Nat)
  | rp (cells : List PV)
  | ag (cells : List AV)
  | tup (vs : List AV)
  | fn (f : Nat) (first captured : List AV)
  | ifc (t : Nat) (v : AV)
  | map (id : Nat)
  | nmap
  | yld (id : Nat)
  | clip (rows : List (List PV))
  deriving Inhabited
abbrev Env := List (Nat × AV)
inductive Opd where
  | t (n : Nat)
  | k (a : AV)
inductive BClass where
  | int | str | bool | ptr | fn | ifc
  | leaves (n : Nat) (offs : List (Nat × Nat))
  deriving DecidableEq
inductive COp where
  | mov (x : Opd)
  | movs (x : Opd)
  | pick (c a b : Opd)
  | box (ty : Nat) (x : Opd)
  | new (ty : Nat) (cells : List AV)
  | build (zero : List AV) (parts : List (Nat × Nat × Opd))
  | bslice (ty sz : Nat) (zero : List PV) (n : Nat) (parts : List (Nat × Opd))
  | load (n : Nat) (ag : Bool) (x : Opd)
  | store (n : Nat) (a x : Opd)
  | nilck (x : Opd)
  | bin (op : BinOp) (c : BClass) (x y : Opd)
  | not (x : Opd)
  | neg (x : Opd)
  | conv (k : IntKind) (x : Opd)
  | tostr (x : Opd)
  | mkif (t : Nat) (x : Opd)
  | mkfn (f : Nat) (first captured : List Opd)
  | mkslice (ty sz bytes : Nat) (zero : List PV) (l c : Opd)
  | subs (str : Bool) (sz : Nat) (x : Opd) (lo hi : Option Opd)
  | faddr (off : Nat) (x : Opd)
  | field (off n : Nat) (ag : Bool) (x : Opd)
  | iaddr (sz : Nat) (alen : Option Nat) (x i : Opd)
  | index (arr : Option (Nat × Nat × Bool)) (x i : Opd)
  | extract (x : Opd) (i : Nat)
  | call (f : Nat) (args : List Opd)
  | callv (x : Opd) (args : List Opd)
  | len (str : Bool) (x : Opd)
  | app (str : Bool) (ty sz bytes : Nat) (x y : Opd)
  | max (args : List Opd)
  | min (args : List Opd)
  | panic (x : Opd)
  | mkmap
  | mput (s : Bool) (m k v : Opd)
  | mget (s : Bool) (zero : AV) (ok : Bool) (m k : Opd)
  | tassert (t : Nat) (zero : AV) (x : Opd)
  | dfr (x : Opd)
  | clip (x h m : Opd)
  | pcall (f : Nat) (args : List Opd)
structure CI where
  d : Option Nat
  o : COp
  g : Option (Nat × Bool)
inductive CCode where
  | skip
  | seq (a b : CCode)
  | ops (live : List Nat) (l : List CI)
  | draw (live : List Nat) (pre rest : List CI) (chk : List (Nat × Nat))
  | cond (c : Opd) (a b : CCode)
  | block (id : Nat) (a : CCode)
  | loop (live : List Nat) (a : CCode)
  | exit (id : Nat)
  | ret
  | rangeF (live lin ps : List Nat) (x : Opd) (asg body : CCode)
inductive CRes where
  | t (n : Nat)
  | cell (a n : Nat) (ag : Bool)
structure CFun where
  body : CCode
  res : List CRes
  keepArgs : Bool
  keepRes : Bool
  md : Nat
inductive AObj where
  | box (ty : Nat) (cells : List AV)
  | arr (ty sz : Nat) (rows : List (List PV)) (gen seald : Nat)
  | map (ents : List (PV × PV))
  | dead (g sz : Nat)
  | frm (ps : List Nat) (asg body : CCode) (env : Env) (st : Nat) (pend : Option (Option Nat))
abbrev Heap := List AObj
inductive Out where
  | ret (v : AV)
  | pan (v : AV)
inductive Ex where
  | normal | exit (id : Nat) | ret | pan (v : AV)
def Ex.isExit : Ex → Bool
  | .exit _ => true
  | _ => false
def Ex.pv : Ex → AV
  | .pan v => v
  | _ => .p .inil
def AV.isIfc : AV → Bool
  | .p (.ifc _ _) | .p .opq | .ifc _ _ => true
  | _ => false
def Ex.okPv : Ex → Bool
  | .pan v => v.isIfc
  | .exit _ => false
  | _ => true
def Ex.jump : Ex → Option (Option (Option Nat))
  | .normal => some none
  | .ret => some (some none)
  | .exit k => some (some (some k))
  | .pan _ => none
mutual
def PV.eq : PV → PV → Bool
  | .b x, .b y => x == y
  | .i k n, .i k' n' => decide (k = k') && decide (n = n')
  | .s x, .s y => decide (x = y)
  | .sl x, .sl y => PV.eqLL x y
  | .pn, .pn | .fnil, .fnil | .inil, .inil | .opq, .opq => true
  | .ag x, .ag y => PV.eqL x y
  | .ifc t v, .ifc t' v' => Nat.beq t t' && PV.eq v v'
  | _, _ => false
def PV.eqL : List PV → List PV → Bool
  | [], [] => true
  | x :: r, y :: r2 => PV.eq x y && PV.eqL r r2
  | _, _ => false
def PV.eqLL : List (List PV) → List (List PV) → Bool
  | [], [] => true
  | x :: r, y :: r2 => PV.eqL x y && PV.eqLL r r2
  | _, _ => false
end
mutual
def AV.eq : AV → AV → Bool
  | .p x, .p y => x.eq y
  | .nils, .nils | .undef, .undef | .nmap, .nmap => true
  | .ptr a b, .ptr c d => Nat.beq a c && Nat.beq b d
  | .arr a b c, .arr d e f => Nat.beq a d && (Nat.beq b e && Nat.beq c f)
  | .eptr a b c d, .eptr e f g h => Nat.beq a e && (Nat.beq b f && (Nat.beq c g && Nat.beq d h))
  | .rp x, .rp y => PV.eqL x y
  | .ag x, .ag y | .tup x, .tup y => AV.eqL x y
  | .fn f a b, .fn g c d => Nat.beq f g && (AV.eqL a c && AV.eqL b d)
  | .ifc t v, .ifc t' v' => Nat.beq t t' && AV.eq v v'
  | .map a, .map b | .yld a, .yld b => Nat.beq a b
  | .clip x, .clip y => PV.eqLL x y
  | _, _ => false
def AV.eqL : List AV → List AV → Bool
  | [], [] => true
  | a :: r, b :: s => AV.eq a b && AV.eqL r s
  | _, _ => false
end
def lk : Env → Nat → Option AV
  | [], _ => none
  | (k, v) :: r, n => if k = n then some v else lk r n
def put (env : Env) (d : Option Nat) (v : AV) : Env := match d with | some d => (d, v) :: env | none => env
def restr : List Nat → Env → Env
  | [], _ => []
  | k :: r, env => match lk env k with
    | some v => (k, v) :: restr r env
    | none => restr r env
def opd (env : Env) : Opd → Option AV
  | .t n => lk env n
  | .k a => some a
def opds (env : Env) : List Opd → Option (List AV)
  | [] => some []
  | x :: r => match opd env x with
    | none => none
    | some v => match opds env r with
      | none => none
      | some vs => some (v :: vs)
def AV.cells : AV → List AV
  | .ag cs => cs
  | v => [v]
def PV.flat : PV → Bool
  | .ag _ => false
  | _ => true
def AV.flat : AV → Bool
  | .ag _ | .tup _ | .undef => false
  | .p x => x.flat
  | _ => true
def okRow (sz : Nat) (r : List PV) : Bool := r.length == sz && r.all PV.flat
def okRows (sz : Nat) (rows : List (List PV)) : Bool := rows.all (okRow sz)
def pcs (l : List PV) : List AV := l.map .p
def splice {α : Type} (l : List α) (off : Nat) (vs : List α) : List α := l.take off ++ vs ++ l.drop (off + vs.length)
def PV.av : PV → AV
  | .ag cs => .ag (pcs cs)
  | x => .p x
mutual
def norm (G : Heap) : AV → Option (AV × Heap)
  | .p x => some (.p x, G)
  | .nils => some (.p (.sl []), G)
  | .arr id len gen => match G[id]? with
    | some (.arr ty sz rows g sl) => if g = gen ∧ len ≤ rows.length then some (.p (.sl (rows.take len)), G.set id (.arr ty sz rows g (Nat.max sl len))) else none
    | _ => none
  | .ag cs => match normL G cs with
    | some (vs, G) => some (.ag vs, G)
    | none => none
  | .tup cs => match normL G cs with
    | some (vs, G) => some (.tup vs, G)
    | none => none
  | .ifc t v => match norm G v with
    | some (v, G) => some (.ifc t v, G)
    | none => some (.p .opq, G)
  | .clip rows => some (.p (.sl rows), G)
  | _ => none
def normL (G : Heap) : List AV → Option (List AV × Heap)
  | [] => some ([], G)
  | a :: r => match norm G a with
    | none => none
    | some (v, G) => match normL G r with
      | none => none
      | some (vs, G) => some (v :: vs, G)
end
mutual
def toP : AV → Option PV
  | .p x => some x
  | .ag cs => match toPL cs with
    | some l => some (.ag l)
    | none => none
  | .ifc t v => match toP v with
    | some v => some (.ifc t v)
    | none => none
  | _ => none
def toPL : List AV → Option (List PV)
  | [] => some []
  | a :: r => match toP a with
    | none => none
    | some v => match toPL r with
      | none => none
      | some vs => some (v :: vs)
end
def normP (G : Heap) (a : AV) : Option (List PV × Heap) :=
  match normL G a.cells with
  | none => none
  | some (vs, G) => match toPL vs with
    | none => none
    | some l => some (l, G)
def evLoad (n : Nat) (ag : Bool) (G : Heap) : AV → Option AV
  | .ptr id off => match G[id]? with
    | some (.box _ cs) => if ag then (if off + n ≤ cs.length then some (.ag ((cs.drop off).take n)) else none) else cs[off]?
    | _ => none
  | .rp cs => if ag then (if n ≤ cs.length then some (.ag (pcs (cs.take n))) else none) else (cs[0]?).map .p
  | .eptr id idx off gen => match G[id]? with
    | some (.arr ty sz rows g _) => if g = gen then match rows[idx]? with
        | some row => if ag then (if off + n ≤ row.length then some (.ag (pcs ((row.drop off).take n))) else none) else (row[off]?).map .p
        | none => none
      else none
    | _ => none
  | _ => none
def evStore (n : Nat) (G : Heap) (a x : AV) : Option Heap :=
  if x.cells.length = n then
    match a with
    | .ptr id off => match G[id]? with
      | some (.box ty cs) => if off + n ≤ cs.length ∧ x.cells.all AV.flat = true then some (G.set id (.box ty (splice cs off x.cells))) else none
      | _ => none
    | .eptr id idx off gen => match normP G x with
      | none => none
      | some (l, G) => match G[id]? with
        | some (.arr ty sz rows g sl) => if g = gen ∧ sl ≤ idx ∧ l.length = n ∧ l.all PV.flat = true then match rows[idx]? with
            | some row => if off + n ≤ row.length then some (G.set id (.arr ty sz (rows.set idx (splice row off l)) g sl)) else none
            | none => none
          else none
        | _ => none
    | _ => none
  else none
def evLen (str : Bool) (G : Heap) : AV → Option Int
  | .p (.sl rows) => if str then none else some rows.length
  | .p (.s l) => if str then some l.length else none
  | .nils => if str then none else some 0
  | .arr id len gen => if str then none else match G[id]? with
    | some (.arr _ _ _ g _) => if g = gen then some len else none
    | _ => none
  | _ => none
def isStr : AV → Bool
  | .p (.s _) => true
  | _ => false
def rowsOf (G : Heap) : AV → Option (List (List PV))
  | .p (.sl rows) => some rows
  | .p (.s l) => some (l.map fun c => [.i .u8 c.toNat])
  | .nils => some []
  | .arr id len gen => match G[id]? with
    | some (.arr ty sz rows g sl) => if g = gen ∧ len ≤ rows.length then some (rows.take len) else none
    | _ => none
  | _ => none
def bytesOf : List (List PV) → Option (List UInt8)
  | [] => some []
  | [.i .u8 n] :: r => match bytesOf r with
    | some l => some (UInt8.ofNat n.toNat :: l)
    | none => none
  | _ => none
def roomy (n bytes : Nat) : Bool := n * bytes ≤ 2 ^ 40 && n ≤ 2 ^ 40
def evApp (str : Bool) (ty sz bytes : Nat) (G : Heap) (x y : AV) : Option (AV × Heap) :=
  match (if isStr y == str then rowsOf G y else none) with
  | none => none
  | some new => if okRows sz new = true then match x with
    | .nils => match new with
      | [] => some (.nils, G)
      | _ :: _ => if roomy new.length bytes then some (.arr G.length new.length 0, G ++ [.arr ty sz new 0 0]) else none
    | .arr id len gen => match G[id]? with
      | some (.arr ty' sz' rows g sl) =>
        if g = gen ∧ sl ≤ len ∧ len ≤ rows.length ∧ (sz' = sz ∧ ty' = ty) ∧ roomy (len + new.length) bytes then
          some (.arr id (len + new.length) (g + 1), G.set id (.arr ty sz (rows.take len ++ new) (g + 1) sl))
        else none
      | _ => none
    | .clip old => match new with
      | [] => none
      | _ :: _ => if okRows sz old && roomy (old.length + new.length) bytes then some (.arr G.length (old.length + new.length) 0, G ++ [.arr ty sz (old ++ new) 0 0]) else none
    | _ => none
    else none
def evBin (op : BinOp) (c : BClass) (x y : AV) : Option AV :=
  match c, x, y with
  | .int, .p (.i k a), .p (.i k' b) => if k = k' then
      match op with
      | .add => some (.p (.i k (k.wrap (a + b))))
      | .sub => some (.p (.i k (k.wrap (a - b))))
      | .mul => some (.p (.i k (k.wrap (a * b))))
      | .quo => if b = 0 then none else some (.p (.i k (k.wrap (a.tdiv b))))
      | .rem => if b = 0 then none else some (.p (.i k (a.tmod b)))
      | .eql => some (.p (.b (decide (a = b))))
      | .neq => some (.p (.b (!decide (a = b))))
      | .lss => some (.p (.b (decide (a < b))))
      | .leq => some (.p (.b (decide (a ≤ b))))
      | .gtr => some (.p (.b (decide (b < a))))
      | .geq => some (.p (.b (decide (b ≤ a))))
      | _ => none
    else none
  | .str, .p (.s a), .p (.s b) => match op with
      | .add => if roomy (a.length + b.length) 1 then some (.p (.s (a ++ b))) else none
      | .eql => some (.p (.b (decide (a = b))))
      | .neq => some (.p (.b (!decide (a = b))))
      | .lss => some (.p (.b (Op.bytesLess a b)))
      | .leq => some (.p (.b (Op.bytesLess a b || decide (a = b))))
      | .gtr => some (.p (.b (!(Op.bytesLess a b || decide (a = b)))))
      | .geq => some (.p (.b (!Op.bytesLess a b)))
      | _ => none
  | .bool, .p (.b a), .p (.b b) => match op with
      | .eql => some (.p (.b (a == b)))
      | .neq => some (.p (.b (!(a == b))))
      | _ => none
  | _, _, _ => none
def leafEq : Nat → PV → PV → Option Bool
  | 0, .b x, .b y => some (x == y)
  | 1, .i k x, .i k' y => if k = k' then some (decide (x = y)) else none
  | 2, .s x, .s y => some (decide (x = y))
  | _, _, _ => none
def leavesEq : List (Nat × Nat) → List AV → List AV → Option Bool
  | [], _, _ => some true
  | (o, k) :: r, xs, ys => match xs[o]?, ys[o]? with
    | some (.p x), some (.p y) => match leafEq k x y with
      | none => none
      | some e => match leavesEq r xs ys with
        | none => none
        | some e' => some (e && e')
    | _, _ => none
def evNilEq : BClass → AV → AV → Option Bool
  | .ifc, .p .inil, .p .inil => some true
  | .ifc, .p .inil, .ifc _ _ | .ifc, .ifc _ _, .p .inil | .ifc, .p .inil, .p (.ifc _ _) | .ifc, .p (.ifc _ _), .p .inil | .ifc, .p .inil, .p .opq | .ifc, .p .opq, .p .inil => some false
  | .ptr, .p .pn, .p .pn => some true
  | .ptr, .p .pn, .ptr _ _ | .ptr, .ptr _ _, .p .pn => some false
  | .fn, .p .fnil, .p .fnil => some true
  | .fn, .p .fnil, .fn _ _ _ | .fn, .fn _ _ _, .p .fnil => some false
  | _, _, _ => none
def evCmp (op : BinOp) (r : Option Bool) : Option AV :=
  match r with
  | none => none
  | some e => match op with
    | .eql => some (.p (.b e))
    | .neq => some (.p (.b (!e)))
    | _ => none
def fillAt (zero : List AV) : List (Nat × Nat × AV) → Option (List AV)
  | [] => some zero
  | (off, n, v) :: r => if v.cells.length = n ∧ off + n ≤ zero.length ∧ v.cells.all AV.flat = true then fillAt (splice zero off v.cells) r else none
def evSub (sz : Nat) (G : Heap) (x : AV) (lo hi : Option Int) : Option (AV × Heap) :=
  match x with
  | .p (.s l) => let h := hi.getD l.length; let o := lo.getD 0
    if 0 ≤ o ∧ o ≤ h ∧ h ≤ l.length then some (.p (.s ((l.take h.toNat).drop o.toNat)), G) else none
  | .p (.sl l) => let h := hi.getD l.length; let o := lo.getD 0
    if 0 ≤ o ∧ o ≤ h ∧ h ≤ l.length ∧ okRows sz l = true then some (.p (.sl ((l.take h.toNat).drop o.toNat)), G) else none
  | .nils => let h := hi.getD 0; let o := lo.getD 0
    if o = 0 ∧ h = 0 then some (.nils, G) else none
  | .arr id len gen => match G[id]? with
    | some (.arr ty' sz' rows g sl) => let h := hi.getD len; let o := lo.getD 0
      if g = gen ∧ sz' = sz ∧ 0 ≤ o ∧ o ≤ h ∧ h ≤ len ∧ len ≤ rows.length then
        if o = 0 then some (.arr id h.toNat gen, G)
        else some (.p (.sl ((rows.take h.toNat).drop o.toNat)), G.set id (.arr ty' sz' rows g (Nat.max sl len)))
      else none
    | _ => none
  | _ => none
def asInt : AV → Option Int
  | .p (.i _ n) => some n
  | _ => none
def idxOf (ids : List Nat) (id : Nat) : Option Nat :=
  match ids with
  | [] => none
  | x :: r => if x = id then some 0 else (idxOf r id).map (· + 1)
structure Exp where
  ids : List Nat
  G : Heap
def Exp.id (e : Exp) (id : Nat) : Nat × Exp := match idxOf e.ids id with
  | some k => (k, e)
  | none => (e.ids.length, { e with ids := e.ids ++ [id] })
mutual
def exp (keep : Bool) (e : Exp) : AV → Option (AV × Exp)
  | .p x => some (.p x, e)
  | .nils => if keep then some (.nils, e) else some (.p (.sl []), e)
  | .undef => some (.undef, e)
  | .rp cs => some (.rp cs, e)
  | .arr id len gen => if keep then let (k, e) := e.id id; some (.arr k len gen, e) else match norm e.G (.arr id len gen) with
    | some (v, G) => some (v, { e with G := G })
    | none => none
  | .ptr id off => let (k, e) := e.id id; some (.ptr k off, e)
  | .eptr id idx off gen => let (k, e) := e.id id; some (.eptr k idx off gen, e)
  | .ag cs => match expL keep e cs with
    | some (vs, e) => some (.ag vs, e)
    | none => none
  | .tup cs => match expL keep e cs with
    | some (vs, e) => some (.tup vs, e)
    | none => none
  | .fn f first cap => match expL true e first with
    | none => none
    | some (first, e) => match expL true e cap with
      | none => none
      | some (cap, e) => some (.fn f first cap, e)
  | .ifc t v => match exp keep e v with
    | some (v, e) => some (.ifc t v, e)
    | none => none
  | .map id => let (k, e) := e.id id; some (.map k, e)
  | .nmap => some (.nmap, e)
  | .yld id => let (k, e) := e.id id; some (.yld k, e)
  | .clip rows => some (if keep then .clip rows else .p (.sl rows), e)
def expL (keep : Bool) (e : Exp) : List AV → Option (List AV × Exp)
  | [] => some ([], e)
  | a :: r => match exp keep e a with
    | none => none
    | some (v, e) => match expL keep e r with
      | none => none
      | some (vs, e) => some (v :: vs, e)
end
def expObjs : Nat → Exp → Nat → Option (Heap × Exp)
  | 0, e, k => if k < e.ids.length then none else some ([], e)
  | fuel + 1, e, k => match e.ids[k]? with
    | none => some ([], e)
    | some id => match e.G[id]? with
      | none => none
      | some (.arr ty sz rows g sl) => match expObjs fuel e (k + 1) with
        | none => none
        | some (os, e) => some (.arr ty sz rows g sl :: os, e)
      | some (.box ty cs) => match expL true e cs with
        | none => none
        | some (cs, e) => match expObjs fuel e (k + 1) with
          | none => none
          | some (os, e) => some (.box ty cs :: os, e)
      | some (.map ents) => match expObjs fuel e (k + 1) with
        | none => none
        | some (os, e) => some (.map ents :: os, e)
      | some (.dead g sz) => match expObjs fuel e (k + 1) with
        | none => none
        | some (os, e) => some (.dead g sz :: os, e)
      | some (.frm ps a b env st pend) => match expL true e (env.map (·.2)) with
        | none => none
        | some (vs, e) => match expObjs fuel e (k + 1) with
          | none => none
          | some (os, e) => some (.frm ps a b ((env.map (·.1)).zip vs) st pend :: os, e)
def backId (ids : List Nat) (base : Nat) (id : Nat) : Nat := (ids[id]?).getD (base + (id - ids.length))
mutual
def back (ids : List Nat) (base : Nat) : AV → AV
  | .arr id len gen => .arr (backId ids base id) len gen
  | .ptr id off => .ptr (backId ids base id) off
  | .eptr id idx off gen => .eptr (backId ids base id) idx off gen
  | .ag cs => .ag (backL ids base cs)
  | .tup cs => .tup (backL ids base cs)
  | .fn f a b => .fn f (backL ids base a) (backL ids base b)
  | .ifc t v => .ifc t (back ids base v)
  | .map id => .map (backId ids base id)
  | .yld id => .yld (backId ids base id)
  | a => a
def backL (ids : List Nat) (base : Nat) : List AV → List AV
  | [] => []
  | a :: r => back ids base a :: backL ids base r
end
mutual
def below (n : Nat) : AV → Bool
  | .arr id _ _ | .ptr id _ | .eptr id _ _ _ | .map id | .yld id => Nat.blt id n
  | .ag cs => belowL n cs
  | .tup cs => belowL n cs
  | .fn _ a b => belowL n a && belowL n b
  | .ifc _ v => below n v
  | _ => true
def belowL (n : Nat) : List AV → Bool
  | [] => true
  | a :: r => below n a && belowL n r
end
def backObj (ids : List Nat) (base : Nat) : AObj → AObj
  | .box ty cs => .box ty (backL ids base cs)
  | .frm ps a b env st pend => .frm ps a b ((env.map (·.1)).zip (backL ids base (env.map (·.2)))) st pend
  | o => o
def belowObj (n : Nat) : AObj → Bool
  | .box _ cs => belowL n cs
  | .frm _ _ _ env _ _ => belowL n (env.map (·.2))
  | _ => true
def setAll (ids : List Nat) (base : Nat) : Heap → List Nat → Heap → Heap
  | G, id :: r, o :: os => setAll ids base (G.set id (backObj ids base o)) r os
  | G, _, _ => G
def Out.back (ids : List Nat) (base : Nat) : Out → Out
  | .ret v => .ret (Z.back ids base v)
  | .pan v => .pan (Z.back ids base v)
def Out.below (n : Nat) : Out → Bool
  | .ret v => Z.below n v
  | .pan v => Z.below n v
abbrev CallF := Nat → List AV → Heap → Option (Out × Heap)
abbrev LoopF := Nat → List Nat → CCode → Env → Heap → Option (Ex × Env × Heap)
structure Prg where
  code : Nat → Option CFun
  orc : Nat → Option (List AV → Heap → Option (Out × Heap))
def keepA (pg : Prg) (f : Nat) : Bool := match pg.code f with
  | some c => c.keepArgs
  | none => false
def evCallAt (pg : Prg) (call : CallF) (f : Nat) (args : List AV) (G : Heap) : Option (Out × Heap) :=
  match expL (keepA pg f) ⟨[], G⟩ args with
  | none => none
  | some (args, e) => match expObjs (G.length + 1) e 0 with
    | none => none
    | some (os, e) => match call f args os with
      | none => none
      | some (out, os') => some (out.back e.ids e.G.length, setAll e.ids e.G.length e.G e.ids os' ++ (os'.drop e.ids.length).map (backObj e.ids e.G.length))
def yF : Nat := 0
def dF : Nat := 1048576
def dK : Nat := 1048576
def rK : Nat := 1048577
def okF (f : Nat) : Bool := Nat.blt 0 f && Nat.blt f dF
def PV.key (s : Bool) : PV → Bool
  | .i _ _ => !s
  | .s _ => s
  | _ => false
def sameK : PV → PV → Bool
  | .i k _, .i k' _ => decide (k = k')
  | .s _, .s _ => true
  | _, _ => false
def eqK : PV → PV → Bool
  | .i _ a, .i _ b => decide (a = b)
  | .s a, .s b => decide (a = b)
  | _, _ => false
def ltK : PV → PV → Bool
  | .i _ a, .i _ b => decide (a < b)
  | _, _ => false
def mins (k v : PV) : List (PV × PV) → List (PV × PV)
  | [] => [(k, v)]
  | e :: r => if ltK k e.1 = true then (k, v) :: e :: r else e :: mins k v r
def mput (k v : PV) (l : List (PV × PV)) : List (PV × PV) := if l.any (fun e => eqK k e.1) = true then l.map fun e => if eqK k e.1 = true then (k, v) else e else mins k v l
def mfind (k : PV) : List (PV × PV) → Option PV
  | [] => none
  | e :: r => if eqK k e.1 = true then some e.2 else mfind k r
inductive Res where
  | val (v : AV) (G : Heap)
  | pan (v : AV) (G : Heap)
def Res.of : Option (Out × Heap) → Option Res
  | some (.ret v, G) => some (.val v G)
  | some (.pan v, G) => some (.pan v G)
  | none => none
def one (G : Heap) : Option AV → Option Res
  | some v => some (.val v G)
  | none => none
def maxI (a b : Int) : Int := if b > a then b else a
def minI (a b : Int) : Int := if b < a then b else a
def evOp (pg : Prg) (call : CallF) (o : COp) (env : Env) (G : Heap) : Option Res :=
  match o with
  | .mov x => one G (opd env x)
  | .movs x => match opd env x with
    | some (.p (.s l)) => some (.val (.p (.s l)) G)
    | _ => none
  | .pick c a b => match opd env c with
    | some (.p (.b c)) => if c then one G (opd env a) else one G (opd env b)
    | _ => none
  | .box ty x => match opd env x with
    | some v => if v.cells.all AV.flat = true then some (.val (.ptr G.length 0) (G ++ [.box ty v.cells])) else none
    | none => none
  | .new ty cs => if cs.all AV.flat = true then some (.val (.ptr G.length 0) (G ++ [.box ty cs])) else none
  | .build zero parts => match opds env (parts.map (·.2.2)) with
    | none => none
    | some vs => match fillAt zero ((parts.zip vs).map fun (p, v) => (p.1, p.2.1, v)) with
      | none => none
      | some cs => some (.val (.ag cs) G)
  | .bslice ty sz zero n parts => if okRow sz zero = true ∧ 1 ≤ sz then match opds env (parts.map (·.2)) with
    | none => none
    | some vs => match fillRows sz (List.replicate n zero) G ((parts.zip vs).map fun (p, v) => (p.1, v)) with
      | none => none
      | some (rows, G) => some (.val (.arr G.length n 0) (G ++ [.arr ty sz rows 0 0]))
    else none
  | .load n ag x => match opd env x with
    | some a => one G (evLoad n ag G a)
    | none => none
  | .store n a x => match opd env a, opd env x with
    | some a, some x => match evStore n G a x with
      | some G => some (.val .undef G)
      | none => none
    | _, _ => none
  | .nilck x => match opd env x with
    | some (.ptr id off) => some (.val (.ptr id off) G)
    | some (.eptr id idx off gen) => some (.val (.eptr id idx off gen) G)
    | some (.rp cs) => some (.val (.rp cs) G)
    | some (.fn f a b) => some (.val (.fn f a b) G)
    | _ => none
  | .bin op c x y => match opd env x, opd env y with
    | some x, some y => match c with
      | .ptr => one G (evCmp op (evNilEq .ptr x y))
      | .fn => one G (evCmp op (evNilEq .fn x y))
      | .ifc => one G (evCmp op (evNilEq .ifc x y))
      | .leaves n offs => match x, y with
        | .ag x, .ag y => if x.length = n ∧ y.length = n then one G (evCmp op (leavesEq offs x y)) else none
        | _, _ => none
      | c => one G (evBin op c x y)
    | _, _ => none
  | .not x => match opd env x with
    | some (.p (.b x)) => some (.val (.p (.b (!x))) G)
    | _ => none
  | .neg x => match opd env x with
    | some (.p (.i k n)) => some (.val (.p (.i k (k.wrap (0 - n)))) G)
    | _ => none
  | .conv k x => match opd env x with
    | some (.p (.i _ n)) => some (.val (.p (.i k (k.wrap n))) G)
    | _ => none
  | .tostr x => match opd env x with
    | some x => match (if isStr x then none else (rowsOf G x).bind bytesOf) with
      | some l => some (.val (.p (.s l)) G)
      | none => none
    | none => none
  | .mkif t x => match opd env x with
    | some v => some (.val (.ifc t v) G)
    | none => none
  | .mkfn f a b => match opds env a, opds env b with
    | some a, some b => some (.val (.fn f a b) G)
    | _, _ => none
  | .mkslice ty sz bytes zero l c => match opd env l, opd env c with
    | some (.p (.i .i64 l)), some (.p (.i .i64 c)) => if 0 ≤ l ∧ l ≤ c ∧ roomy c.toNat bytes ∧ okRow sz zero = true ∧ 1 ≤ sz then
        some (.val (.arr G.length l.toNat 0) (G ++ [.arr ty sz (List.replicate l.toNat zero) 0 0])) else none
    | _, _ => none
  | .subs str sz x lo hi => match opd env x with
    | none => none
    | some x => if isStr x == str then match (match lo with | none => some none | some o => ((opd env o).bind asInt).map some), (match hi with | none => some none | some o => ((opd env o).bind asInt).map some) with
      | some lo, some hi => match evSub sz G x lo hi with
        | some (v, G) => some (.val v G)
        | none => none
      | _, _ => none
      else none
  | .faddr off x => match opd env x with
    | some (.ptr id o) => some (.val (.ptr id (o + off)) G)
    | some (.eptr id idx o gen) => some (.val (.eptr id idx (o + off) gen) G)
    | some (.rp cs) => some (.val (.rp (cs.drop off)) G)
    | _ => none
  | .field off n ag x => match opd env x with
    | some (.ag cs) => if ag then (if off + n ≤ cs.length then some (.val (.ag ((cs.drop off).take n)) G) else none) else one G cs[off]?
    | _ => none
  | .iaddr sz alen x i => match opd env x, opd env i with
    | some x, some (.p (.i _ i)) => match alen with
      | some n => match x with
        | .ptr id o => if 0 ≤ i ∧ i < n then some (.val (.ptr id (o + i.toNat * sz)) G) else none
        | .rp cs => if 0 ≤ i ∧ i < n then some (.val (.rp (cs.drop (i.toNat * sz))) G) else none
        | _ => none
      | none => match x with
        | .p (.sl rows) => if 0 ≤ i then match rows[i.toNat]? with
            | some row => if okRow sz row = true then some (.val (.rp row) G) else none
            | none => none
          else none
        | .arr id len gen => match G[id]? with
          | some (.arr ty' sz' rows g _) => if 0 ≤ i ∧ i < len ∧ g = gen ∧ sz' = sz ∧ len ≤ rows.length then some (.val (.eptr id i.toNat 0 gen) G) else none
          | _ => none
        | _ => none
    | _, _ => none
  | .index arr x i => match opd env x, opd env i with
    | some x, some (.p (.i _ i)) => match arr, x with
      | some (len, n, ag), .ag cs => if 0 ≤ i ∧ i < len then
          (if ag then (if i.toNat * n + n ≤ cs.length then some (.val (.ag ((cs.drop (i.toNat * n)).take n)) G) else none) else one G cs[i.toNat * n]?) else none
      | none, .p (.s l) => if 0 ≤ i then match l[i.toNat]? with
          | some c => some (.val (.p (.i .u8 c.toNat)) G)
          | none => none
        else none
      | _, _ => none
    | _, _ => none
  | .extract x i => match opd env x with
    | some (.tup vs) => one G vs[i]?
    | _ => none
  | .call f args => match opds env args with
    | some args => Res.of (evCallAt pg call f args G)
    | none => none
  | .pcall f args => match opds env args with
    | some args => if args.all (fun a => (toP a).isSome) = true then match call f args [] with
        | some (.ret (.p v), []) => some (.val (.p v) G)
        | _ => none
      else none
    | none => none
  | .callv x args => match opd env x, opds env args with
    | some (.fn f first cap), some args => if okF f = true then Res.of (evCallAt pg call f (first ++ args ++ cap) G) else none
    | some (.yld id), some args => Res.of (evCallAt pg call yF (.yld id :: args) G)
    | _, _ => none
  | .len str x => match opd env x with
    | some x => match evLen str G x with
      | some n => some (.val (.p (.i .i64 n)) G)
      | none => none
    | none => none
  | .app str ty sz bytes x y => match opd env x, opd env y with
    | some x, some y => match evApp str ty sz bytes G x y with
      | some (v, G) => some (.val v G)
      | none => none
    | _, _ => none
  | .max args => match opds env args with
    | some [.p (.i k a), .p (.i _ b)] => some (.val (.p (.i k (maxI a b))) G)
    | _ => none
  | .min args => match opds env args with
    | some [.p (.i k a), .p (.i _ b)] => some (.val (.p (.i k (minI a b))) G)
    | _ => none
  | .panic x => match opd env x with
    | some (.ifc t v) => match norm G (.ifc t v) with
      | some (v, G) => some (.pan v G)
      | none => none
    | some (.p (.ifc t v)) => some (.pan (.p (.ifc t v)) G)
    | _ => none
  | .mkmap => some (.val (.map G.length) (G ++ [.map []]))
  | .mput s m k v => match opd env m, opd env k, (opd env v).bind toP with
    | some (.map id), some (.p k), some v => match G[id]? with
      | some (.map ents) => if k.key s = true ∧ ents.all (fun e => sameK k e.1) = true then some (.val .undef (G.set id (.map (mput k v ents)))) else none
      | _ => none
    | _, _, _ => none
  | .mget s z ok m k => match opd env m, opd env k with
    | some (.map id), some (.p k) => match G[id]? with
      | some (.map ents) => if k.key s = true ∧ ents.all (fun e => sameK k e.1) = true then match mfind k ents with
          | some v => some (.val (if ok then .tup [v.av, .p (.b true)] else v.av) G)
          | none => some (.val (if ok then .tup [z, .p (.b false)] else z) G)
        else none
      | _ => none
    | _, _ => none
  | .tassert t z x => match opd env x with
    | some (.ifc t' v) => if t' = t then some (.val (.tup [v, .p (.b true)]) G) else some (.val (.tup [z, .p (.b false)]) G)
    | some (.p (.ifc t' v)) => if t' = t then some (.val (.tup [v.av, .p (.b true)]) G) else some (.val (.tup [z, .p (.b false)]) G)
    | _ => none
  | .clip x h m => match opd env x, opd env h, opd env m with
    | some (.p (.sl rows)), some (.p (.i .i64 h)), some (.p (.i .i64 m)) => if h = rows.length ∧ m = rows.length then some (.val (.clip rows) G) else none
    | _, _, _ => none
  | .dfr x => match opd env x, lk env dK with
    | some (.fn f [] cap), none => if okF f = true then some (.val (.fn f [] cap) G) else none
    | _, _ => none
where
  fillRows (sz : Nat) (rows : List (List PV)) (G : Heap) : List (Nat × AV) → Option (List (List PV) × Heap)
    | [] => some (rows, G)
    | (i, v) :: r => match normP G v with
      | none => none
      | some (l, G) => if okRow sz l = true ∧ i < rows.length then fillRows sz (rows.set i l) G r else none
def gcEnv (e : Exp) : Env → Option (Env × Exp)
  | [] => some ([], e)
  | (k, a) :: r => match exp true e a with
    | none => none
    | some (a, e) => match gcEnv e r with
      | none => none
      | some (env, e) => some ((k, a) :: env, e)
def gc (base : Nat) (live : List Nat) (env : Env) (G : Heap) : Option (Env × Heap) :=
  match gcEnv ⟨List.range base, G⟩ (restr live env) with
  | none => none
  | some (env, e) => match expObjs (G.length + 1) e 0 with
    | none => none
    | some (os, _) => some (env, os)
def guardOK (env : Env) : Option (Nat × Bool) → Option Bool
  | none => some true
  | some (t, want) => match lk env t with
    | some (.p (.b b)) => some (b == want)
    | some _ => some false
    | none => none
def evOps (pg : Prg) (call : CallF) : List CI → Env → Heap → Option (Ex × Env × Heap)
  | [], env, G => some (.normal, env, G)
  | i :: r, env, G => match guardOK env i.g with
    | none => none
    | some false => evOps pg call r (put env i.d .undef) G
    | some true => match evOp pg call i.o env G with
      | none => none
      | some (.val v G) => evOps pg call r (put env i.d v) G
      | some (.pan v G) => some (.pan v, env, G)
def evCI (pg : Prg) (call : CallF) (i : CI) (env : Env) (G : Heap) : Option (AV × Heap) := match guardOK env i.g with
  | none => none
  | some false => some (.undef, G)
  | some true => match evOp pg call i.o env G with
    | some (.val v G) => some (v, G)
    | _ => none
def oT : Opd → List Nat | .t n => [n] | .k _ => []
def oTs (l : List Opd) : List Nat := l.flatMap oT
def oO : Option Opd → List Nat | some x => oT x | none => []
def reads : COp → List Nat
  | .mov x | .movs x | .box _ x | .load _ _ x | .nilck x | .not x | .neg x | .conv _ x | .tostr x | .mkif _ x | .faddr _ x | .field _ _ _ x | .extract x _ | .len _ x | .panic x | .tassert _ _ x | .dfr x => oT x
  | .pick a b c | .mput _ a b c | .clip a b c => oT a ++ (oT b ++ oT c)
  | .new _ _ | .mkmap => []
  | .build _ ps => oTs (ps.map (·.2.2))
  | .bslice _ _ _ _ ps => oTs (ps.map (·.2))
  | .store _ a x | .bin _ _ a x | .mkslice _ _ _ _ a x | .iaddr _ _ a x | .index _ a x | .app _ _ _ _ a x | .mget _ _ _ a x => oT a ++ oT x
  | .mkfn _ a b => oTs a ++ oTs b
  | .subs _ _ x a b => oT x ++ (oO a ++ oO b)
  | .call _ a | .pcall _ a | .max a | .min a => oTs a
  | .callv x a => oT x ++ oTs a
def ciReads (c : CI) : List Nat := (match c.g with | some (t, _) => [t] | none => []) ++ reads c.o
def evSnap (pg : Prg) (call : CallF) : List CI → Env → Heap → Option (List (Env × Heap))
  | [], env, G => some [(env, G)]
  | c :: r, env, G => match evCI pg call c (restr (ciReads c) env) G with
    | none => none
    | some (v, G') => match evSnap pg call r (put env c.d v) G' with
      | none => none
      | some l => some ((env, G) :: l)
def drawChk (pg : Prg) (L : List CI) (l : List (Env × Heap)) (chk : List (Nat × Nat)) : Bool := chk.all fun p =>
  match L[p.1]?, l[p.1]?, l[p.1 + 1]?, l[p.2]? with
  | some c, some e, some e', some h => match evCI pg (fun _ _ _ => none) c (restr (ciReads c) e.1) h.2 with
    | some (v, _) => match c.d with
      | some d => match lk e'.1 d with
        | some v' => v.eq v'
        | none => false
      | none => true
    | none => false
  | _, _, _, _ => false
def evCode (pg : Prg) (call : CallF) (loop : LoopF) (base : Nat) : CCode → Env → Heap → Option (Ex × Env × Heap)
  | .skip, env, G => some (.normal, env, G)
  | .ret, env, G => some (.ret, env, G)
  | .exit id, env, G => some (.exit id, env, G)
  | .seq a b, env, G => match evCode pg call loop base a env G with
    | some (.normal, env, G) => evCode pg call loop base b env G
    | r => r
  | .ops live l, env, G => match evOps pg call l env G with
    | some (.normal, env, G) => some (.normal, restr live env, G)
    | r => r
  | .draw live pre rest chk, env, G => match evSnap pg call (pre ++ rest) env G with
    | some l => if drawChk pg (pre ++ rest) l chk = true then match l.getLast? with
        | some (env, G) => some (.normal, restr live env, G)
        | none => none
      else none
    | none => none
  | .rangeF live lin ps x asg body, env, G => match opd env x with
    | some (.fn f first cap) => if (lin.all (fun k => Nat.blt k dK) && okF f) = false then none else match evCallAt pg call f (first ++ [.yld G.length] ++ cap) (G ++ [.frm ps asg body (restr lin env) 0 none]) with
      | some (.ret _, G') => match G'[G.length]? with
        | some (.frm ps asg body env' st pend) => if st = 1 then none else
          some (match pend with | none => .normal | some none => .ret | some (some k) => .exit k, match pend with | none => restr live env | some _ => env, G'.set G.length (.frm ps asg body env' 3 pend))
        | _ => none
      | some (.pan v, G') => some (.pan v, env, G')
      | none => none
    | _ => none
  | .cond c a b, env, G => match opd env c with
    | some (.p (.b x)) => if x then evCode pg call loop base a env G else evCode pg call loop base b env G
    | _ => none
  | .block id a, env, G => match evCode pg call loop base a env G with
    | some (.exit id', env, G) => if id' = id then some (.normal, env, G) else some (.exit id', env, G)
    | r => r
  | .loop live a, env, G => match gc base live env G with
    | some (env, G) => loop base live a env G
    | none => none
def initEnv (k : Nat) : List AV → Env
  | [] => []
  | a :: r => (k, a) :: initEnv (k + 1) r
def evRes (env : Env) (G : Heap) : List CRes → Option (List AV)
  | [] => some []
  | .t n :: r => match lk env n with
    | none => none
    | some v => match evRes env G r with
      | none => none
      | some vs => some (v :: vs)
  | .cell a n ag :: r => match lk env a with
    | none => none
    | some p => match evLoad n ag G p with
      | none => none
      | some v => match evRes env G r with
        | none => none
        | some vs => some (v :: vs)
def whole : List AV → AV
  | [v] => v
  | vs => .tup vs
def leave (base : Nat) (o : Out) (G : Heap) : Option (Out × Heap) :=
  if o.below base && (G.take base).all (belowObj base) then some (o, G.take base) else none
def evEnd (c : CFun) (base : Nat) (env : Env) (G : Heap) : Option (Out × Heap) :=
  match evRes env G c.res with
  | none => none
  | some vs => if c.keepRes then some (.ret (whole vs), G) else match norm G (whole vs) with
    | some (v, G) => leave base (.ret v) G
    | none => none
def evFun (pg : Prg) (call : CallF) (loop : LoopF) (c : CFun) (env : Env) (G : Heap) : Option (Out × Heap) :=
  match evCode pg call loop G.length c.body env G with
  | none => none
  | some (e, env, G') => match lk env dK with
    | some (.fn f _ cap) => if (e.okPv && Nat.beq c.md 1) = false then none else match evCallAt pg call (f + dF) (e.pv :: cap) G' with
      | some (.ret _, G') => evEnd c G.length env G'
      | _ => none
    | some _ => none
    | none => match e with
      | .pan v => leave G.length (.pan v) G'
      | .exit _ => none
      | _ => evEnd c G.length env G'
def evYld (pg : Prg) (call : CallF) (loop : LoopF) (args : List AV) (G : Heap) : Option (Out × Heap) :=
  match args with
  | .yld id :: args => match G[id]? with
    | some (.frm ps asg body env 0 none) => if ps.length = args.length ∧ (lk ((ps.zip args).reverse ++ env) dK).isNone = true then
        match evCode pg call loop G.length asg ((ps.zip args).reverse ++ env) G with
        | some (.normal, env1, G1) => match G1[id]? with
          | some (.frm ps1 as1 bo1 en1 0 none) => match evCode pg call loop G.length body env1 (G1.set id (.frm ps1 as1 bo1 en1 1 none)) with
            | some (e, _, G2) => match G2[id]?, e.jump with
              | some (.frm ps2 as2 bo2 en2 1 none), some j => some (.ret (.p (.b j.isNone)), G2.set id (.frm ps2 as2 bo2 en2 (if j.isNone then 0 else 2) j))
              | _, _ => none
            | none => none
          | _ => none
        | _ => none
      else none
    | _ => none
  | _ => none
mutual
def evCall (pg : Prg) : Nat → CallF
  | 0, _, _, _ => none
  | n + 1, f, args, G => if f = yF then evYld pg (evCall pg n) (evLoop pg n) args G else if f < dF then
      match pg.orc f with
      | some F => F args G
      | none => match pg.code f with
        | some c => if (Nat.blt c.md 2 && Nat.blt args.length dK) = true then evFun pg (evCall pg n) (evLoop pg n) c (initEnv 0 args) G else none
        | none => none
    else match args with
      | v :: args => match pg.code (f - dF) with
        | some c => if (Nat.beq c.md 2 && Nat.blt args.length dK) = true then match evFun pg (evCall pg n) (evLoop pg n) c ((rK, v) :: initEnv 0 args) G with
          | some (.ret v, G) => some (.ret v, G)
          | _ => none
        else none
        | none => none
      | [] => none
def evLoop (pg : Prg) : Nat → LoopF
  | 0, _, _, _, _, _ => none
  | n + 1, base, live, a, env, G => match evCode pg (evCall pg n) (evLoop pg n) base a env G with
    | some (.normal, env, G) => match gc base live env G with
      | some (env, G) => evLoop pg n base live a env G
      | none => none
    | r => r
end
end Go.Proofs.Z
end
