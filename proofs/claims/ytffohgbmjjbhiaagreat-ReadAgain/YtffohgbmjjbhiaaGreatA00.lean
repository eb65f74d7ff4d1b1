/- A part of the proof. -/
import Derived.Calls
set_option linter.all false
section
namespace Go.Proofs.Z
open Go
universe u
theorem gE {α:Type u}{l:List α}{i:Nat}{a:α}(h:l[i]?=some a):∃ h:i<l.length,l[i]=a:=List.getElem?_eq_some_iff.1 h
theorem gG {α:Type u}{l:List α}{i:Nat}(h:i<l.length):l[i]?=some l[i]:=List.getElem?_eq_getElem h
inductive PV where
 |b (x:Bool)
 |i (k:IntKind) (n:Int)
 |s (x:List UInt8)
 |sl (rows:List (List PV))
 |pn
 |fnil
 |inil
 |ag (cells:List PV)
 |ifc (t:Nat) (v:PV)
 deriving Inhabited
inductive AV where
 |p (x:PV)
 |nils
 |undef
 |ptr (id off:Nat)
 |arr (id len gen:Nat)
 |eptr (id idx off gen:Nat)
 |rp (cells:List PV)
 |ag (cells:List AV)
 |tup (vs:List AV)
 |fn (f:Nat) (first captured:List AV)
 |ifc (t:Nat) (v:AV)
 deriving Inhabited
inductive AObj where
 |box (cells:List AV)
 |arr (sz:Nat) (rows:List (List PV)) (gen seald:Nat)
 deriving Inhabited
abbrev Env:=List (Nat×AV)
abbrev Heap:=List AObj
inductive Opd where
 |t (n:Nat)
 |k (a:AV)
inductive BClass where
 |int|str|bool|ptr|fn|ifc
 |leaves (n:Nat) (offs:List (Nat×Nat))
 deriving DecidableEq
inductive COp where
 |mov (x:Opd)
 |movs (x:Opd)
 |pick (c a b:Opd)
 |box (x:Opd)
 |new (cells:List AV)
 |build (zero:List AV) (parts:List (Nat×Nat×Opd))
 |bslice (sz:Nat) (zero:List PV) (n:Nat) (parts:List (Nat×Opd))
 |load (n:Nat) (ag:Bool) (x:Opd)
 |store (n:Nat) (a x:Opd)
 |nilck (x:Opd)
 |bin (op:BinOp) (c:BClass) (x y:Opd)
 |not (x:Opd)
 |neg (x:Opd)
 |conv (k:IntKind) (x:Opd)
 |tostr (x:Opd)
 |mkif (t:Nat) (x:Opd)
 |mkfn (f:Nat) (first captured:List Opd)
 |mkslice (sz bytes:Nat) (zero:List PV) (l c:Opd)
 |subs (str:Bool) (sz:Nat) (x:Opd) (lo hi:Option Opd)
 |faddr (off:Nat) (x:Opd)
 |field (off n:Nat) (ag:Bool) (x:Opd)
 |iaddr (sz:Nat) (alen:Option Nat) (x i:Opd)
 |index (arr:Option (Nat×Nat×Bool)) (x i:Opd)
 |extract (x:Opd) (i:Nat)
 |call (f:Nat) (args:List Opd)
 |callv (x:Opd) (args:List Opd)
 |len (str:Bool) (x:Opd)
 |app (str:Bool) (sz bytes:Nat) (x y:Opd)
 |max (args:List Opd)
 |min (args:List Opd)
 |panic (x:Opd)
structure CI where
 d:Option Nat
 o:COp
 g:Option (Nat×Bool)
inductive Chk where
 |low (t:Nat)
 |apart (t u:Nat)
 |closed (f:Nat) (ts:List Nat)
 |quiet (f:Nat) (ts:List Nat)
 deriving DecidableEq
inductive CCode where
 |skip
 |seq (a b:CCode)
 |ops (live:List Nat) (l:List CI)
 |draw (live:List Nat) (news rest:List CI) (chk:List Chk)
 |cond (c:Opd) (a b:CCode)
 |block (id:Nat) (a:CCode)
 |loop (live:List Nat) (a:CCode)
 |exit (id:Nat)
 |ret
inductive CRes where
 |t (n:Nat)
 |cell (a n:Nat) (ag:Bool)
structure CFun where
 body:CCode
 res:List CRes
 keepArgs:Bool
 keepRes:Bool
inductive Out where
 |ret (v:AV)
 |pan (v:AV)
inductive Ex where
 |normal|exit (id:Nat)|ret|pan (v:AV)
def lk:Env→Nat→Option AV
 |[],_=>none
 |(k,v)::r,n=>if k=n then some v else lk r n
def put (env:Env)(d:Option Nat)(v:AV):Env:=match d with|some d=>(d,v)::env|none=>env
def restr:List Nat→Env→Env
 |[],_=>[]
 |k::r,env=>match lk env k with
  |some v=>(k,v)::restr r env
  |none=>restr r env
def opd (env:Env):Opd→Option AV
 |.t n=>lk env n
 |.k a=>some a
def opds (env:Env):List Opd→Option (List AV)
 |[]=>some []
 |x::r=>match opd env x with
  |none=>none
  |some v=>match opds env r with
   |none=>none
   |some vs=>some (v::vs)
def AV.cells:AV→List AV
 |.ag cs=>cs
 |v=>[v]
def PV.flat:PV→Bool
 |.ag _=>false
 |_=>true
def AV.flat:AV→Bool
 |.ag _|.tup _|.undef=>false
 |.p x=>x.flat
 |_=>true
def okRow (sz:Nat)(r:List PV):Bool:=r.length == sz && r.all PV.flat
def okRows (sz:Nat)(rows:List (List PV)):Bool:=rows.all (okRow sz)
def pcs (l:List PV):List AV:=l.map .p
def splice {α:Type}(l:List α)(off:Nat)(vs:List α):List α:=l.take off++vs++l.drop (off+vs.length)
mutual
def norm (G:Heap):AV→Option (AV×Heap)
 |.p x=>some (.p x,G)
 |.nils=>some (.p (.sl []),G)
 |.arr id len gen=>match G[id]? with
  |some (.arr sz rows g sl)=>if g=gen∧len≤rows.length then some (.p (.sl (rows.take len)),G.set id (.arr sz rows g (Nat.max sl len))) else none
  |_=>none
 |.ag cs=>match normL G cs with
  |some (vs,G)=>some (.ag vs,G)
  |none=>none
 |.tup cs=>match normL G cs with
  |some (vs,G)=>some (.tup vs,G)
  |none=>none
 |.ifc t v=>match norm G v with
  |some (v,G)=>some (.ifc t v,G)
  |none=>none
 |_=>none
def normL (G:Heap):List AV→Option (List AV×Heap)
 |[]=>some ([],G)
 |a::r=>match norm G a with
  |none=>none
  |some (v,G)=>match normL G r with
   |none=>none
   |some (vs,G)=>some (v::vs,G)
end
mutual
def toP:AV→Option PV
 |.p x=>some x
 |.ag cs=>match toPL cs with
  |some l=>some (.ag l)
  |none=>none
 |.ifc t v=>match toP v with
  |some v=>some (.ifc t v)
  |none=>none
 |_=>none
def toPL:List AV→Option (List PV)
 |[]=>some []
 |a::r=>match toP a with
  |none=>none
  |some v=>match toPL r with
   |none=>none
   |some vs=>some (v::vs)
end
def normP (G:Heap)(a:AV):Option (List PV×Heap) :=
 match normL G a.cells with
 |none=>none
 |some (vs,G)=>match toPL vs with
  |none=>none
  |some l=>some (l,G)
def evLoad (n:Nat)(ag:Bool)(G:Heap):AV→Option AV
 |.ptr id off=>match G[id]? with
  |some (.box cs)=>if ag then (if off+n≤cs.length then some (.ag ((cs.drop off).take n)) else none) else cs[off]?
  |_=>none
 |.rp cs=>if ag then (if n≤cs.length then some (.ag (pcs (cs.take n))) else none) else (cs[0]?).map .p
 |.eptr id idx off gen=>match G[id]? with
  |some (.arr sz rows g _)=>if g=gen then match rows[idx]? with
    |some row=>if ag then (if off+n≤row.length then some (.ag (pcs ((row.drop off).take n))) else none) else (row[off]?).map .p
    |none=>none
   else none
  |_=>none
 |_=>none
def evStore (n:Nat)(G:Heap)(a x:AV):Option Heap :=
 if x.cells.length=n then
  match a with
  |.ptr id off=>match G[id]? with
   |some (.box cs)=>if off+n≤cs.length∧x.cells.all AV.flat=true then some (G.set id (.box (splice cs off x.cells))) else none
   |_=>none
  |.eptr id idx off gen=>match normP G x with
   |none=>none
   |some (l,G)=>match G[id]? with
    |some (.arr sz rows g sl)=>if g=gen∧sl≤idx∧l.length=n∧l.all PV.flat=true then match rows[idx]? with
      |some row=>if off+n≤row.length then some (G.set id (.arr sz (rows.set idx (splice row off l)) g sl)) else none
      |none=>none
     else none
    |_=>none
  |_=>none
 else none
def evLen (str:Bool)(G:Heap):AV→Option Int
 |.p (.sl rows)=>if str then none else some rows.length
 |.p (.s l)=>if str then some l.length else none
 |.nils=>if str then none else some 0
 |.arr id len gen=>if str then none else match G[id]? with
  |some (.arr _ _ g _)=>if g=gen then some len else none
  |_=>none
 |_=>none
def isStr:AV→Bool
 |.p (.s _)=>true
 |_=>false
def rowsOf (G:Heap):AV→Option (List (List PV))
 |.p (.sl rows)=>some rows
 |.p (.s l)=>some (l.map fun c=>[.i .u8 c.toNat])
 |.nils=>some []
 |.arr id len gen=>match G[id]? with
  |some (.arr sz rows g sl)=>if g=gen∧len≤rows.length then some (rows.take len) else none
  |_=>none
 |_=>none
def bytesOf:List (List PV)→Option (List UInt8)
 |[]=>some []
 |[.i .u8 n]::r=>match bytesOf r with
  |some l=>some (UInt8.ofNat n.toNat::l)
  |none=>none
 |_=>none
def roomy (n bytes:Nat):Bool:=n * bytes≤2 ^ 40 && n≤2 ^ 40
def evApp (str:Bool)(sz bytes:Nat)(G:Heap)(x y:AV):Option (AV×Heap) :=
 match (if isStr y == str then rowsOf G y else none) with
 |none=>none
 |some new=>if okRows sz new=true then match x with
  |.nils=>match new with
   |[]=>some (.nils,G)
   |_::_=>if roomy new.length bytes then some (.arr G.length new.length 0,G++[.arr sz new 0 0]) else none
  |.arr id len gen=>match G[id]? with
   |some (.arr sz' rows g sl) =>
    if g=gen∧sl≤len∧len≤rows.length∧sz'=sz∧roomy (len+new.length) bytes then
     some (.arr id (len+new.length) (g+1),G.set id (.arr sz (rows.take len++new) (g+1) sl))
    else none
   |_=>none
  |_=>none
  else none
def evBin (op:BinOp)(c:BClass)(x y:AV):Option AV :=
 match c,x,y with
 |.int,.p (.i k a),.p (.i k' b)=>if k=k' then
   match op with
   |.add=>some (.p (.i k (k.wrap (a+b))))
   |.sub=>some (.p (.i k (k.wrap (a-b))))
   |.mul=>some (.p (.i k (k.wrap (a * b))))
   |.quo=>if b=0 then none else some (.p (.i k (k.wrap (a.tdiv b))))
   |.rem=>if b=0 then none else some (.p (.i k (a.tmod b)))
   |.eql=>some (.p (.b (decide (a=b))))
   |.neq=>some (.p (.b (!decide (a=b))))
   |.lss=>some (.p (.b (decide (a<b))))
   |.leq=>some (.p (.b (decide (a≤b))))
   |.gtr=>some (.p (.b (decide (b<a))))
   |.geq=>some (.p (.b (decide (b≤a))))
   |_=>none
  else none
 |.str,.p (.s a),.p (.s b)=>match op with
   |.add=>if roomy (a.length+b.length) 1 then some (.p (.s (a++b))) else none
   |.eql=>some (.p (.b (decide (a=b))))
   |.neq=>some (.p (.b (!decide (a=b))))
   |.lss=>some (.p (.b (Op.bytesLess a b)))
   |.leq=>some (.p (.b (Op.bytesLess a b || decide (a=b))))
   |.gtr=>some (.p (.b (!(Op.bytesLess a b || decide (a=b)))))
   |.geq=>some (.p (.b (!Op.bytesLess a b)))
   |_=>none
 |.bool,.p (.b a),.p (.b b)=>match op with
   |.eql=>some (.p (.b (a == b)))
   |.neq=>some (.p (.b (!(a == b))))
   |_=>none
 |_,_,_=>none
def leafEq:Nat→PV→PV→Option Bool
 |0,.b x,.b y=>some (x == y)
 |1,.i k x,.i k' y=>if k=k' then some (decide (x=y)) else none
 |2,.s x,.s y=>some (decide (x=y))
 |_,_,_=>none
def lvE:List (Nat×Nat)→List AV→List AV→Option Bool
 |[],_,_=>some true
 |(o,k)::r,xs,ys=>match xs[o]?,ys[o]? with
  |some (.p x),some (.p y)=>match leafEq k x y with
   |none=>none
   |some e=>match lvE r xs ys with
    |none=>none
    |some e'=>some (e && e')
  |_,_=>none
def evNilEq:BClass→AV→AV→Option Bool
 |.ifc,.p .inil,.p .inil=>some true
 |.ifc,.p .inil,.ifc _ _|.ifc,.ifc _ _,.p .inil|.ifc,.p .inil,.p (.ifc _ _)|.ifc,.p (.ifc _ _),.p .inil=>some false
 |.ptr,.p .pn,.p .pn=>some true
 |.ptr,.p .pn,.ptr _ _|.ptr,.ptr _ _,.p .pn=>some false
 |.fn,.p .fnil,.p .fnil=>some true
 |.fn,.p .fnil,.fn _ _ _|.fn,.fn _ _ _,.p .fnil=>some false
 |_,_,_=>none
def evCmp (op:BinOp)(r:Option Bool):Option AV :=
 match r with
 |none=>none
 |some e=>match op with
  |.eql=>some (.p (.b e))
  |.neq=>some (.p (.b (!e)))
  |_=>none
def fillAt (zero:List AV):List (Nat×Nat×AV)→Option (List AV)
 |[]=>some zero
 |(off,n,v)::r=>if v.cells.length=n∧off+n≤zero.length∧v.cells.all AV.flat=true then fillAt (splice zero off v.cells) r else none
def evSub (sz:Nat)(G:Heap)(x:AV)(lo hi:Option Int):Option (AV×Heap) :=
 match x with
 |.p (.s l)=>let h:=hi.getD l.length;let o:=lo.getD 0
  if 0≤o∧o≤h∧h≤l.length then some (.p (.s ((l.take h.toNat).drop o.toNat)),G) else none
 |.p (.sl l)=>let h:=hi.getD l.length;let o:=lo.getD 0
  if 0≤o∧o≤h∧h≤l.length∧okRows sz l=true then some (.p (.sl ((l.take h.toNat).drop o.toNat)),G) else none
 |.nils=>let h:=hi.getD 0;let o:=lo.getD 0
  if o=0∧h=0 then some (.nils,G) else none
 |.arr id len gen=>match G[id]? with
  |some (.arr sz' rows g sl)=>let h:=hi.getD len;let o:=lo.getD 0
   if g=gen∧sz'=sz∧0≤o∧o≤h∧h≤len∧len≤rows.length then
    if o=0 then some (.arr id h.toNat gen,G)
    else some (.p (.sl ((rows.take h.toNat).drop o.toNat)),G.set id (.arr sz' rows g (Nat.max sl len)))
   else none
  |_=>none
 |_=>none
def asInt:AV→Option Int
 |.p (.i _ n)=>some n
 |_=>none
def idxOf (ids:List Nat)(id:Nat):Option Nat :=
 match ids with
 |[]=>none
 |x::r=>if x=id then some 0 else (idxOf r id).map (·+1)
structure Exp where
 ids:List Nat
 G:Heap
def Exp.id (e:Exp)(id:Nat):Nat×Exp:=match idxOf e.ids id with
 |some k=>(k,e)
 |none=>(e.ids.length,{ e with ids:=e.ids++[id] })
mutual
def exp (keep:Bool)(e:Exp):AV→Option (AV×Exp)
 |.p x=>some (.p x,e)
 |.nils=>if keep then some (.nils,e) else some (.p (.sl []),e)
 |.undef=>some (.undef,e)
 |.rp cs=>some (.rp cs,e)
 |.arr id len gen=>if keep then let (k,e):=e.id id;some (.arr k len gen,e) else match norm e.G (.arr id len gen) with
  |some (v,G)=>some (v,{ e with G:=G })
  |none=>none
 |.ptr id off=>let (k,e):=e.id id;some (.ptr k off,e)
 |.eptr id idx off gen=>let (k,e):=e.id id;some (.eptr k idx off gen,e)
 |.ag cs=>match expL keep e cs with
  |some (vs,e)=>some (.ag vs,e)
  |none=>none
 |.tup cs=>match expL keep e cs with
  |some (vs,e)=>some (.tup vs,e)
  |none=>none
 |.fn f first cap=>match expL true e first with
  |none=>none
  |some (first,e)=>match expL true e cap with
   |none=>none
   |some (cap,e)=>some (.fn f first cap,e)
 |.ifc t v=>match exp keep e v with
  |some (v,e)=>some (.ifc t v,e)
  |none=>none
def expL (keep:Bool)(e:Exp):List AV→Option (List AV×Exp)
 |[]=>some ([],e)
 |a::r=>match exp keep e a with
  |none=>none
  |some (v,e)=>match expL keep e r with
   |none=>none
   |some (vs,e)=>some (v::vs,e)
end
def eOs:Nat→Exp→Nat→Option (Heap×Exp)
 |0,e,k=>if k<e.ids.length then none else some ([],e)
 |fuel+1,e,k=>match e.ids[k]? with
  |none=>some ([],e)
  |some id=>match e.G[id]? with
   |none=>none
   |some (.arr sz rows g sl)=>match eOs fuel e (k+1) with
    |none=>none
    |some (os,e)=>some (.arr sz rows g sl::os,e)
   |some (.box cs)=>match expL true e cs with
    |none=>none
    |some (cs,e)=>match eOs fuel e (k+1) with
     |none=>none
     |some (os,e)=>some (.box cs::os,e)
def backId (ids:List Nat)(base:Nat)(id:Nat):Nat:=(ids[id]?).getD (base+(id-ids.length))
mutual
def back (ids:List Nat)(base:Nat):AV→AV
 |.arr id len gen=>.arr (backId ids base id) len gen
 |.ptr id off=>.ptr (backId ids base id) off
 |.eptr id idx off gen=>.eptr (backId ids base id) idx off gen
 |.ag cs=>.ag (backL ids base cs)
 |.tup cs=>.tup (backL ids base cs)
 |.fn f a b=>.fn f (backL ids base a) (backL ids base b)
 |.ifc t v=>.ifc t (back ids base v)
 |a=>a
def backL (ids:List Nat)(base:Nat):List AV→List AV
 |[]=>[]
 |a::r=>back ids base a::backL ids base r
end
mutual
def below (n:Nat):AV→Bool
 |.arr id _ _|.ptr id _|.eptr id _ _ _=>Nat.blt id n
 |.ag cs=>belowL n cs
 |.tup cs=>belowL n cs
 |.fn _ a b=>belowL n a && belowL n b
 |.ifc _ v=>below n v
 |_=>true
def belowL (n:Nat):List AV→Bool
 |[]=>true
 |a::r=>below n a && belowL n r
end
def backObj (ids:List Nat)(base:Nat):AObj→AObj
 |.box cs=>.box (backL ids base cs)
 |.arr sz rows g sl=>.arr sz rows g sl
def bOb (n:Nat):AObj→Bool
 |.box cs=>belowL n cs
 |.arr _ _ _ _=>true
def setAll (ids:List Nat)(base:Nat):Heap→List Nat→Heap→Heap
 |G,id::r,o::os=>setAll ids base (G.set id (backObj ids base o)) r os
 |G,_,_=>G
def Out.back (ids:List Nat)(base:Nat):Out→Out
 |.ret v=>.ret (Z.back ids base v)
 |.pan v=>.pan (Z.back ids base v)
def Out.below (n:Nat):Out→Bool
 |.ret v=>Z.below n v
 |.pan v=>Z.below n v
abbrev CallF:=Nat→List AV→Heap→Option (Out×Heap)
abbrev LoopF:=Nat→List Nat→CCode→Env→Heap→Option (Ex×Env×Heap)
structure Prg where
 code:Nat→Option CFun
 orc:Nat→Option (List AV→Option (Out×Heap))
 quiet:Nat→Bool
def keepA (pg:Prg)(f:Nat):Bool:=match pg.code f with
 |some c=>c.keepArgs
 |none=>false
def eCA (pg:Prg)(call:CallF)(f:Nat)(args:List AV)(G:Heap):Option (Out×Heap) :=
 match expL (keepA pg f) ⟨[],G⟩ args with
 |none=>none
 |some (args,e)=>match eOs (G.length+1) e 0 with
  |none=>none
  |some (os,e)=>match call f args os with
   |none=>none
   |some (out,os')=>some (out.back e.ids e.G.length,setAll e.ids e.G.length e.G e.ids os'++(os'.drop e.ids.length).map (backObj e.ids e.G.length))
inductive Res where
 |val (v:AV) (G:Heap)
 |pan (v:AV) (G:Heap)
def Res.of:Option (Out×Heap)→Option Res
 |some (.ret v,G)=>some (.val v G)
 |some (.pan v,G)=>some (.pan v G)
 |none=>none
def one (G:Heap):Option AV→Option Res
 |some v=>some (.val v G)
 |none=>none
def maxI (a b:Int):Int:=if b > a then b else a
def minI (a b:Int):Int:=if b<a then b else a
def evOp (pg:Prg)(call:CallF)(o:COp)(env:Env)(G:Heap):Option Res :=
 match o with
 |.mov x=>one G (opd env x)
 |.movs x=>match opd env x with
  |some (.p (.s l))=>some (.val (.p (.s l)) G)
  |_=>none
 |.pick c a b=>match opd env c with
  |some (.p (.b c))=>if c then one G (opd env a) else one G (opd env b)
  |_=>none
 |.box x=>match opd env x with
  |some v=>if v.cells.all AV.flat=true then some (.val (.ptr G.length 0) (G++[.box v.cells])) else none
  |none=>none
 |.new cs=>if cs.all AV.flat=true then some (.val (.ptr G.length 0) (G++[.box cs])) else none
 |.build zero parts=>match opds env (parts.map (·.2.2)) with
  |none=>none
  |some vs=>match fillAt zero ((parts.zip vs).map fun (p,v)=>(p.1,p.2.1,v)) with
   |none=>none
   |some cs=>some (.val (.ag cs) G)
 |.bslice sz zero n parts=>if okRow sz zero=true∧1≤sz then match opds env (parts.map (·.2)) with
  |none=>none
  |some vs=>match fillRows sz (List.replicate n zero) G ((parts.zip vs).map fun (p,v)=>(p.1,v)) with
   |none=>none
   |some (rows,G)=>some (.val (.arr G.length n 0) (G++[.arr sz rows 0 0]))
  else none
 |.load n ag x=>match opd env x with
  |some a=>one G (evLoad n ag G a)
  |none=>none
 |.store n a x=>match opd env a,opd env x with
  |some a,some x=>match evStore n G a x with
   |some G=>some (.val .undef G)
   |none=>none
  |_,_=>none
 |.nilck x=>match opd env x with
  |some (.ptr id off)=>some (.val (.ptr id off) G)
  |some (.eptr id idx off gen)=>some (.val (.eptr id idx off gen) G)
  |some (.rp cs)=>some (.val (.rp cs) G)
  |some (.fn f a b)=>some (.val (.fn f a b) G)
  |_=>none
 |.bin op c x y=>match opd env x,opd env y with
  |some x,some y=>match c with
   |.ptr=>one G (evCmp op (evNilEq .ptr x y))
   |.fn=>one G (evCmp op (evNilEq .fn x y))
   |.ifc=>one G (evCmp op (evNilEq .ifc x y))
   |.leaves n offs=>match x,y with
    |.ag x,.ag y=>if x.length=n∧y.length=n then one G (evCmp op (lvE offs x y)) else none
    |_,_=>none
   |c=>one G (evBin op c x y)
  |_,_=>none
 |.not x=>match opd env x with
  |some (.p (.b x))=>some (.val (.p (.b (!x))) G)
  |_=>none
 |.neg x=>match opd env x with
  |some (.p (.i k n))=>some (.val (.p (.i k (k.wrap (0-n)))) G)
  |_=>none
 |.conv k x=>match opd env x with
  |some (.p (.i _ n))=>some (.val (.p (.i k (k.wrap n))) G)
  |_=>none
 |.tostr x=>match opd env x with
  |some x=>match (if isStr x then none else (rowsOf G x).bind bytesOf) with
   |some l=>some (.val (.p (.s l)) G)
   |none=>none
  |none=>none
 |.mkif t x=>match opd env x with
  |some v=>some (.val (.ifc t v) G)
  |none=>none
 |.mkfn f a b=>match opds env a,opds env b with
  |some a,some b=>some (.val (.fn f a b) G)
  |_,_=>none
 |.mkslice sz bytes zero l c=>match opd env l,opd env c with
  |some (.p (.i .i64 l)),some (.p (.i .i64 c))=>if 0≤l∧l≤c∧roomy c.toNat bytes∧okRow sz zero=true∧1≤sz then
    some (.val (.arr G.length l.toNat 0) (G++[.arr sz (List.replicate l.toNat zero) 0 0])) else none
  |_,_=>none
 |.subs str sz x lo hi=>match opd env x with
  |none=>none
  |some x=>if isStr x == str then match (match lo with|none=>some none|some o=>((opd env o).bind asInt).map some),(match hi with|none=>some none|some o=>((opd env o).bind asInt).map some) with
   |some lo,some hi=>match evSub sz G x lo hi with
    |some (v,G)=>some (.val v G)
    |none=>none
   |_,_=>none
   else none
 |.faddr off x=>match opd env x with
  |some (.ptr id o)=>some (.val (.ptr id (o+off)) G)
  |some (.eptr id idx o gen)=>some (.val (.eptr id idx (o+off) gen) G)
  |some (.rp cs)=>some (.val (.rp (cs.drop off)) G)
  |_=>none
 |.field off n ag x=>match opd env x with
  |some (.ag cs)=>if ag then (if off+n≤cs.length then some (.val (.ag ((cs.drop off).take n)) G) else none) else one G cs[off]?
  |_=>none
 |.iaddr sz alen x i=>match opd env x,opd env i with
  |some x,some (.p (.i _ i))=>match alen with
   |some n=>match x with
    |.ptr id o=>if 0≤i∧i<n then some (.val (.ptr id (o+i.toNat * sz)) G) else none
    |.rp cs=>if 0≤i∧i<n then some (.val (.rp (cs.drop (i.toNat * sz))) G) else none
    |_=>none
   |none=>match x with
    |.p (.sl rows)=>if 0≤i then match rows[i.toNat]? with
      |some row=>if okRow sz row=true then some (.val (.rp row) G) else none
      |none=>none
     else none
    |.arr id len gen=>match G[id]? with
     |some (.arr sz' rows g _)=>if 0≤i∧i<len∧g=gen∧sz'=sz∧len≤rows.length then some (.val (.eptr id i.toNat 0 gen) G) else none
     |_=>none
    |_=>none
  |_,_=>none
 |.index arr x i=>match opd env x,opd env i with
  |some x,some (.p (.i _ i))=>match arr,x with
   |some (len,n,ag),.ag cs=>if 0≤i∧i<len then
     (if ag then (if i.toNat * n+n≤cs.length then some (.val (.ag ((cs.drop (i.toNat * n)).take n)) G) else none) else one G cs[i.toNat * n]?) else none
   |none,.p (.s l)=>if 0≤i then match l[i.toNat]? with
     |some c=>some (.val (.p (.i .u8 c.toNat)) G)
     |none=>none
    else none
   |_,_=>none
  |_,_=>none
 |.extract x i=>match opd env x with
  |some (.tup vs)=>one G vs[i]?
  |_=>none
 |.call f args=>match opds env args with
  |some args=>Res.of (eCA pg call f args G)
  |none=>none
 |.callv x args=>match opd env x,opds env args with
  |some (.fn f first cap),some args=>Res.of (eCA pg call f (first++args++cap) G)
  |_,_=>none
 |.len str x=>match opd env x with
  |some x=>match evLen str G x with
   |some n=>some (.val (.p (.i .i64 n)) G)
   |none=>none
  |none=>none
 |.app str sz bytes x y=>match opd env x,opd env y with
  |some x,some y=>match evApp str sz bytes G x y with
   |some (v,G)=>some (.val v G)
   |none=>none
  |_,_=>none
 |.max args=>match opds env args with
  |some [.p (.i k a),.p (.i _ b)]=>some (.val (.p (.i k (maxI a b))) G)
  |_=>none
 |.min args=>match opds env args with
  |some [.p (.i k a),.p (.i _ b)]=>some (.val (.p (.i k (minI a b))) G)
  |_=>none
 |.panic x=>match opd env x with
  |some (.ifc t v)=>match norm G (.ifc t v) with
   |some (v,G)=>some (.pan v G)
   |none=>none
  |some (.p (.ifc t v))=>some (.pan (.p (.ifc t v)) G)
  |_=>none
where
 fillRows (sz:Nat) (rows:List (List PV)) (G:Heap):List (Nat×AV)→Option (List (List PV)×Heap)
  |[]=>some (rows,G)
  |(i,v)::r=>match normP G v with
   |none=>none
   |some (l,G)=>if okRow sz l=true∧i<rows.length then fillRows sz (rows.set i l) G r else none
def gcEnv (e:Exp):Env→Option (Env×Exp)
 |[]=>some ([],e)
 |(k,a)::r=>match exp true e a with
  |none=>none
  |some (a,e)=>match gcEnv e r with
   |none=>none
   |some (env,e)=>some ((k,a)::env,e)
def gc (base:Nat)(live:List Nat)(env:Env)(G:Heap):Option (Env×Heap) :=
 match gcEnv ⟨List.range base,G⟩ (restr live env) with
 |none=>none
 |some (env,e)=>match eOs (G.length+1) e 0 with
  |none=>none
  |some (os,_)=>some (env,os)
def gOK (env:Env):Option (Nat×Bool)→Option Bool
 |none=>some true
 |some (t,want)=>match lk env t with
  |some (.p (.b b))=>some (b == want)
  |some _=>some false
  |none=>none
def evOps (pg:Prg)(call:CallF):List CI→Env→Heap→Option (Ex×Env×Heap)
 |[],env,G=>some (.normal,env,G)
 |i::r,env,G=>match gOK env i.g with
  |none=>none
  |some false=>evOps pg call r (put env i.d .undef) G
  |some true=>match evOp pg call i.o env G with
   |none=>none
   |some (.val v G)=>evOps pg call r (put env i.d v) G
   |some (.pan v G)=>some (.pan v,env,G)
def tids:AV→List Nat
 |.ptr id _|.arr id _ _|.eptr id _ _ _=>[id]
 |_=>[]
mutual
def noId:AV→Bool
 |.ptr _ _|.eptr _ _ _ _=>false
 |.ag cs=>noIdL cs
 |.tup cs=>noIdL cs
 |.fn _ a b=>belowL 0 a && belowL 0 b
 |.ifc _ v=>noId v
 |_=>true
def noIdL:List AV→Bool
 |[]=>true
 |a::r=>noId a && noIdL r
end
def noIdAt (env:Env)(t:Nat):Bool:=match lk env t with
 |some v=>noId v
 |none=>true
def roOp:COp→Bool
 |.mov _|.movs _|.pick _ _ _|.build _ _|.nilck _|.bin _ _ _ _|.not _|.neg _|.conv _ _|.mkif _ _|.mkfn _ _ _|.faddr _ _|.field _ _ _ _|.index _ _ _|.extract _ _|.max _|.min _=>true
 |.load _ _ (.t _)|.len _ (.t _)|.iaddr _ _ (.t _) _|.tostr (.t _)=>true
 |.box _|.new _=>true
 |_=>false
def roStep (ok:Nat→Bool)(own:List Nat)(i:CI):Option (List Nat) :=
 match i.o,i.d with
 |.call f _,none=>if ok f then some own else none
 |.call f _,some d=>if ok f then some (own.filter fun x=>!Nat.beq x d) else none
 |.box _,some d=>some (d::own)
 |.new _,some d=>some (d::own)
 |.bslice _ _ _ _,some d=>some (d::own)
 |.app _ _ _ (.t x) _,some d=>if own.contains x then some (d::own) else none
 |.mov (.t x),some d=>if own.contains x then some (d::own) else some (own.filter fun x=>!Nat.beq x d)
 |.mov (.k a),some d=>if below 0 a then some (d::own) else some (own.filter fun x=>!Nat.beq x d)
 |.store _ (.t d) _,none=>if own.contains d then some own else none
 |o,none=>if roOp o then some own else none
 |o,some d=>if roOp o then some (own.filter fun x=>!Nat.beq x d) else none
def roOps (ok:Nat→Bool):List Nat→List CI→Option (List Nat)
 |own,[]=>some own
 |own,i::r=>match roStep ok own i with
  |none=>none
  |some own=>roOps ok own r
def noExit (id:Nat):CCode→Bool
 |.seq a b=>noExit id a && noExit id b
 |.cond _ a b=>noExit id a && noExit id b
 |.block _ a=>noExit id a
 |.loop _ a=>noExit id a
 |.exit j=>!Nat.beq j id
 |_=>true
def roCode (ok:Nat→Bool):List Nat→CCode→Option (List Nat)
 |own,.skip|own,.ret|own,.exit _=>some own
 |own,.seq a b=>match roCode ok own a with
  |none=>none
  |some own=>roCode ok own b
 |own,.cond _ a b=>match roCode ok own a,roCode ok own b with
  |some o1,some o2=>some (o1.filter fun x=>o2.contains x)
  |_,_=>none
 |own,.block id a=>match roCode ok own a with
  |some o=>if noExit id a then some o else some []
  |none=>none
 |own,.ops _ l=>roOps ok own l
 |own,.draw _ n r _=>match roOps ok own n with
  |none=>none
  |some own=>roOps ok own r
 |own,.loop _ a=>match roCode ok own a with
  |some o=>if own.all (fun x=>o.contains x) then some [] else none
  |none=>none
def roFnD (pg:Prg):Nat→Nat→Bool
 |0,_=>false
 |n+1,f=>match pg.orc f,pg.code f with
  |none,some c=>(roCode (roFnD pg n) [] c.body).isSome
  |_,_=>false
def roFn (pg:Prg)(f:Nat):Bool:=roFnD pg 3 f
def pureAt (env:Env)(t:Nat):Bool:=match lk env t with
 |some v=>below 0 v
 |none=>true
def quietFn (pg:Prg)(f:Nat):Bool:=match pg.orc f with
 |some _=>pg.quiet f
 |none=>match pg.code f with
  |some c=>!c.keepRes
  |none=>false
def chkOK (pg:Prg)(env:Env)(n:Nat):Chk→Bool
 |.low t=>match lk env t with
  |some v=>(tids v).all fun id=>Nat.blt id n
  |none=>true
 |.apart t u=>match lk env t,lk env u with
  |some v,some w=>(tids v).all fun i=>(tids w).all fun j=>!Nat.beq i j
  |_,_=>true
 |.closed f ts=>roFn pg f || (!keepA pg f && ts.all (noIdAt env))
 |.quiet f ts=>quietFn pg f && !keepA pg f && ts.all (pureAt env)
def evCode (pg:Prg)(call:CallF)(loop:LoopF)(base:Nat):CCode→Env→Heap→Option (Ex×Env×Heap)
 |.skip,env,G=>some (.normal,env,G)
 |.ret,env,G=>some (.ret,env,G)
 |.exit id,env,G=>some (.exit id,env,G)
 |.seq a b,env,G=>match evCode pg call loop base a env G with
  |some (.normal,env,G)=>evCode pg call loop base b env G
  |r=>r
 |.ops live l,env,G=>match evOps pg call l env G with
  |some (.normal,env,G)=>some (.normal,restr live env,G)
  |r=>r
 |.draw live news rest chk,env,G=>match evOps pg call news env G with
  |some (.normal,env,G)=>match evOps pg call rest env G with
   |some (.normal,env',G')=>if chk.all (chkOK pg env' G.length)=true then some (.normal,restr live env',G') else none
   |_=>none
  |_=>none
 |.cond c a b,env,G=>match opd env c with
  |some (.p (.b x))=>if x then evCode pg call loop base a env G else evCode pg call loop base b env G
  |_=>none
 |.block id a,env,G=>match evCode pg call loop base a env G with
  |some (.exit id',env,G)=>if id'=id then some (.normal,env,G) else some (.exit id',env,G)
  |r=>r
 |.loop live a,env,G=>match gc base live env G with
  |some (env,G)=>loop base live a env G
  |none=>none
def iEv (k:Nat):List AV→Env
 |[]=>[]
 |a::r=>(k,a)::iEv (k+1) r
def evRes (env:Env)(G:Heap):List CRes→Option (List AV)
 |[]=>some []
 |.t n::r=>match lk env n with
  |none=>none
  |some v=>match evRes env G r with
   |none=>none
   |some vs=>some (v::vs)
 |.cell a n ag::r=>match lk env a with
  |none=>none
  |some p=>match evLoad n ag G p with
   |none=>none
   |some v=>match evRes env G r with
    |none=>none
    |some vs=>some (v::vs)
def whole:List AV→AV
 |[v]=>v
 |vs=>.tup vs
def leave (base:Nat)(o:Out)(G:Heap):Option (Out×Heap) :=
 if o.below base && (G.take base).all (bOb base) then some (o,G.take base) else none
def evFun (pg:Prg)(call:CallF)(loop:LoopF)(c:CFun)(args:List AV)(G:Heap):Option (Out×Heap) :=
 match evCode pg call loop G.length c.body (iEv 0 args) G with
 |some (.pan v,_,G')=>leave G.length (.pan v) G'
 |some (.exit _,_,_)=>none
 |some (_,env,G')=>match evRes env G' c.res with
  |none=>none
  |some vs=>if c.keepRes then some (.ret (whole vs),G') else match norm G' (whole vs) with
   |some (v,G')=>leave G.length (.ret v) G'
   |none=>none
 |none=>none
mutual
def evCall (pg:Prg):Nat→CallF
 |0,_,_,_=>none
 |n+1,f,args,G=>match pg.orc f with
  |some F=>match G with
   |[]=>F args
   |_::_=>none
  |none=>match pg.code f with
   |some c=>evFun pg (evCall pg n) (evLoop pg n) c args G
   |none=>none
def evLoop (pg:Prg):Nat→LoopF
 |0,_,_,_,_,_=>none
 |n+1,base,live,a,env,G=>match evCode pg (evCall pg n) (evLoop pg n) base a env G with
  |some (.normal,env,G)=>match gc base live env G with
   |some (env,G)=>evLoop pg n base live a env G
   |none=>none
  |r=>r
end
end Go.Proofs.Z
end
section
namespace Go.Proofs.Z
open Go
mutual
def ofVal:Value→Option AV
 |.bool x=>some (.p (.b x))
 |.int k n=>some (.p (.i k n))
 |.string s=>some (.p (.s s.data.toList))
 |.pointer none=>some (.p .pn)
 |.slice none 0 0=>some .nils
 |.nilFunc=>some (.p .fnil)
 |.nilIface=>some (.p .inil)
 |.agg ⟨cs⟩=>match ofVals cs with
  |some l=>some (.ag l)
  |none=>none
 |_=>none
def ofVals:List Value→Option (List AV)
 |[]=>some []
 |v::r=>match ofVal v with
  |none=>none
  |some a=>match ofVals r with
   |none=>none
   |some l=>some (a::l)
end
def zeroP:AV→Option PV
 |.p x=>some x
 |.nils=>some (.sl [])
 |_=>none
def zerosP:List AV→Option (List PV)
 |[]=>some []
 |v::r=>match zeroP v with
  |none=>none
  |some a=>match zerosP r with
   |none=>none
   |some l=>some (a::l)
def cOpd:Operand→Option Opd
 |.tmp t=>some (.t t)
 |.const v=>(ofVal v).map .k
 |.func f=>some (.k (.fn f [] []))
 |.global _=>none
def cOpds:List Operand→Option (List Opd)
 |[]=>some []
 |x::r=>match cOpd x with
  |none=>none
  |some a=>match cOpds r with
   |none=>none
   |some l=>some (a::l)
variable (P:Program)
def cAgg (t:TypeId):Option Bool:=match P.underlying t with
 |some (.struct _)|some (.array _ _)=>some true
 |some _=>some false
 |none=>none
def cSize (t:TypeId):Option Nat:=(P.info? t).map (·.size)
def cBytes (t:TypeId):Option Nat:=(P.info? t).map (·.bytes)
def cZero (t:TypeId):Option (List AV):=match (P.info? t).bind (·.zero) with
 |some v=>match ofVal v with
  |some a=>some a.cells
  |none=>none
 |none=>none
def leafOffs:Nat→TypeId→Nat→Option (List (Nat×Nat))
 |0,_,_=>none
 |d+1,t,base=>match P.underlying t with
  |some .bool=>if cSize P t=some 1 then some [(base,0)] else none
  |some (.int _)=>if cSize P t=some 1 then some [(base,1)] else none
  |some .string=>if cSize P t=some 1 then some [(base,2)] else none
  |some (.struct fs)=>if P.stoodInHeld t=true then none else match cSize P t with
   |some sz=>(fs.toList.mapM fun (f:Field)=>match cSize P f.type with
    |some n=>if f.name≠ "_"∧f.offset+n≤sz∧1≤n then leafOffs d f.type (base+f.offset) else none
    |none=>none).map List.flatten
   |none=>none
  |some (.array len e)=>match cSize P t,cSize P e with
   |some sz,some n=>if len * n≤sz∧1≤n then ((List.range len).mapM fun i=>leafOffs d e (base+i * n)).map List.flatten else none
   |_,_=>none
  |_=>none
def isNil:Operand→Bool
 |.const .nilIface=>true
 |_=>false
def cClass (op:BinOp)(t:TypeId)(x y:Operand):Option BClass:=match P.underlying t with
 |some (.int _)=>some .int
 |some .string=>some .str
 |some .bool=>some .bool
 |some (.pointer _)=>some .ptr
 |some (.func _ _ _)=>some .fn
 |some (.interface _)=>if isNil x || isNil y then some .ifc else none
 |some (.struct _)|some (.array _ _)=>match op with
  |.eql|.neq=>match cSize P t,leafOffs P 8 t 0 with
   |some n,some l=>if P.eqGuardType P.depth t=true then none else some (.leaves n l)
   |_,_=>none
  |_=>none
 |_=>none
def cParts (ps:List (Nat×Operand)):Option (List (Nat×Opd)):=match ps with
 |[]=>some []
 |(i,x)::r=>match cOpd x,cParts r with
  |some a,some l=>some ((i,a)::l)
  |_,_=>none
def cBuild (places:Nat→Option (Nat×Nat))(ps:List (Nat×Operand)):Option (List (Nat×Nat×Opd)):=match ps with
 |[]=>some []
 |(i,x)::r=>match places i,cOpd x,cBuild places r with
  |some (o,n),some a,some l=>some ((o,n,a)::l)
  |_,_,_=>none
def zeroOK (sz:Nat)(e:TypeId):Bool:=match cZero P e with
 |some zs=>zs.length == sz && zs.all AV.flat
 |none=>false
def cOpt:Option Operand→Option (Option Opd)
 |none=>some none
 |some x=>(cOpd x).map some
def cOp (o:Op):Option COp:=match o with
 |.move x|.assign x=>(cOpd x).map .mov
 |.pick c a b=>match cOpd c,cOpd a,cOpd b with
  |some c,some a,some b=>some (.pick c a b)
  |_,_,_=>none
 |.alloc e=>(cZero P e).map .new
 |.box _ x=>(cOpd x).map .box
 |.build t ps=>match P.underlying t,cZero P t with
  |some (.struct fs),some z=>if z.all AV.flat=true∧fs.toList.all (fun f=>(cSize P f.type).isSome)=true then (cBuild (fun i=>match fs[i]? with|some f=>(cSize P f.type).map fun n=>(f.offset,n)|none=>none) ps.toList).map (.build z) else none
  |some (.array _ e),some z=>match cSize P e with
   |some n=>if z.all AV.flat=true then (cBuild (fun i=>some (i * n,n)) ps.toList).map (.build z) else none
   |none=>none
  |_,_=>none
 |.buildSlice t n ps=>match P.underlying t with
  |some (.slice e)=>match cSize P e,(cZero P e).bind zerosP,cParts ps.toList with
   |some sz,some z,some l=>if n * sz≤2 ^ 20 && 1≤sz && z.length == sz then some (.bslice sz z n l) else none
   |_,_,_=>none
  |_=>none
 |.load t a=>match cSize P t,cAgg P t,cOpd a with
  |some n,some g,some a=>some (.load n g a)
  |_,_,_=>none
 |.store t a x=>match cSize P t,cOpd a,cOpd x with
  |some n,some a,some x=>some (.store n a x)
  |_,_,_=>none
 |.nilCheck x=>(cOpd x).map .nilck
 |.binOp op t x y _=>match cClass P op t x y,cOpd x,cOpd y with
  |some c,some x,some y=>some (.bin op c x y)
  |_,_,_=>none
 |.unOp .not _ x=>(cOpd x).map .not
 |.unOp .neg _ x=>(cOpd x).map .neg
 |.convert src dst x=>match P.underlying src,P.underlying dst with
  |some (.int _),some (.int k)=>(cOpd x).map (.conv k)
  |some .string,some .string=>(cOpd x).map .movs
  |some (.slice e),some .string=>match P.underlying e with
   |some (.int .u8)=>(cOpd x).map .tostr
   |_=>none
  |_,_=>none
 |.makeInterface t x=>match P.underlying t with
  |some (.interface _)=>none
  |some _=>(cOpd x).map (.mkif t)
  |none=>none
 |.makeFunc (.func f) a b=>match cOpds a.toList,cOpds b.toList with
  |some a,some b=>some (.mkfn f a b)
  |_,_=>none
 |.makeSlice t l c=>match P.underlying t with
  |some (.slice e)=>match cSize P e,cBytes P e,(cZero P e).bind zerosP,cOpd l,cOpd c with
   |some sz,some by_,some z,some l,some c=>if 1≤sz && z.length == sz then some (.mkslice sz by_ z l c) else none
   |_,_,_,_,_=>none
  |_=>none
 |.slice t x lo hi none=>match P.underlying t with
  |some .string=>match cOpd x,cOpt lo,cOpt hi with
   |some x,some lo,some hi=>some (.subs true 1 x lo hi)
   |_,_,_=>none
  |some (.slice e)=>match cSize P e,cOpd x,cOpt lo,cOpt hi with
   |some sz,some x,some lo,some hi=>some (.subs false sz x lo hi)
   |_,_,_,_=>none
  |_=>none
 |.fieldAddr t x i=>match P.underlying t with
  |some (.struct fs)=>match fs[i]? with
   |some f=>match cSize P f.type,cOpd x with
    |some n,some x=>if n=0 then none else some (.faddr f.offset x)
    |_,_=>none
   |none=>none
  |_=>none
 |.field t x i=>match P.underlying t with
  |some (.struct fs)=>match fs[i]? with
   |some f=>match cSize P f.type,cAgg P f.type,cOpd x with
    |some n,some g,some x=>some (.field f.offset n g x)
    |_,_,_=>none
   |none=>none
  |_=>none
 |.indexAddr t x i=>match P.underlying t with
  |some (.array n e)=>match cSize P e,cOpd x,cOpd i with
   |some sz,some x,some i=>some (.iaddr sz (some n) x i)
   |_,_,_=>none
  |some (.slice e)=>match cSize P e,cOpd x,cOpd i with
   |some sz,some x,some i=>some (.iaddr sz none x i)
   |_,_,_=>none
  |_=>none
 |.index t x i=>match P.underlying t with
  |some (.array n e)=>match cSize P e,cAgg P e,cOpd x,cOpd i with
   |some sz,some g,some x,some i=>some (.index (some (n,sz,g)) x i)
   |_,_,_,_=>none
  |some .string=>match cOpd x,cOpd i with
   |some x,some i=>some (.index none x i)
   |_,_=>none
  |_=>none
 |.extract x i=>(cOpd x).map (.extract · i)
 |.call c=>match c.callee,cOpds c.args.toList with
  |.value (.func f),some a=>some (.call f a)
  |.value x,some a=>(cOpd x).map (.callv · a)
  |.builtin .len,some [x]=>match (c.argTypes[0]?).bind P.underlying with
   |some .string=>some (.len true x)
   |some (.slice _)=>some (.len false x)
   |some (.array n _)=>some (.mov (.k (.p (.i .i64 n))))
   |_=>none
  |.builtin .append,some [x,y]=>match (c.argTypes[0]?).bind P.underlying,(c.argTypes[1]?).bind P.underlying with
   |some (.slice e),some u=>match cSize P e,cBytes P e,u with
    |some sz,some by_,.slice _=>if 1≤sz && zeroOK P sz e && c.argTypes.size == 2 then some (.app false sz by_ x y) else none
    |some sz,some by_,.string=>if sz == 1 && zeroOK P sz e && c.argTypes.size == 2 then some (.app true sz by_ x y) else none
    |_,_,_=>none
   |_,_=>none
  |.builtin .max,some [x,y]=>some (.max [x,y])
  |.builtin .min,some [x,y]=>some (.min [x,y])
  |_,_=>none
 |.panic x=>(cOpd x).map .panic
 |_=>none
def dstOK (N:Nat):Option Nat→Bool
 |none=>true
 |some d=>Nat.blt d N
def cOper (N:Nat)(ops:Array Oper)(o:Oper):Option CI:=match cOp P o.op with
 |none=>none
 |some c=>if dstOK N o.dst=true then match o.guard with
  |none=>some ⟨o.dst,c,none⟩
  |some (j,w)=>match (ops[j]?).bind (·.dst) with
   |some d=>some ⟨o.dst,c,some (d,w)⟩
   |none=>none
  else none
def cOpers (N:Nat)(ops:Array Oper):List Oper→Option (List CI)
 |[]=>some []
 |o::r=>match cOper P N ops o with
  |none=>none
  |some c=>match cOpers N ops r with
   |none=>none
   |some l=>some (c::l)
def oT:Opd→List Nat|.t n=>[n]|.k _=>[]
def oTs (l:List Opd):List Nat:=l.flatMap oT
def oO:Option Opd→List Nat|some x=>oT x|none=>[]
def reads:COp→List Nat
 |.mov x|.movs x|.box x|.load _ _ x|.nilck x|.not x|.neg x|.conv _ x|.tostr x|.mkif _ x|.faddr _ x|.field _ _ _ x|.extract x _|.len _ x|.panic x=>oT x
 |.pick a b c=>oT a++(oT b++oT c)
 |.new _=>[]
 |.build _ ps=>oTs (ps.map (·.2.2))
 |.bslice _ _ _ ps=>oTs (ps.map (·.2))
 |.store _ a x|.bin _ _ a x|.mkslice _ _ _ a x|.iaddr _ _ a x|.index _ a x|.app _ _ _ a x=>oT a++oT x
 |.mkfn _ a b=>oTs a++oTs b
 |.subs _ _ x a b=>oT x++(oO a++oO b)
 |.call _ a|.max a|.min a=>oTs a
 |.callv x a=>oT x++oTs a
def ciReads (c:CI):List Nat:=(match c.g with|some (t,_)=>[t]|none=>[])++reads c.o
inductive Kind where
 |silent
 |reader (x:Nat)
 |writer (x:Option Nat)
 |call (f:Nat) (args:List Opd)
 |alloc
 |bad
def kindOf:COp→Kind
 |.mov _|.movs _|.pick _ _ _|.build _ _|.nilck _|.bin _ _ _ _|.not _|.neg _|.conv _ _|.mkif _ _|.mkfn _ _ _|.faddr _ _|.field _ _ _ _|.index _ _ _|.extract _ _|.max _|.min _=>.silent
 |.load _ _ (.t x)|.len _ (.t x)|.iaddr _ _ (.t x) _|.tostr (.t x)=>.reader x
 |.store _ (.t x) _|.app _ _ _ (.t x) _=>.writer (some x)
 |.bslice _ _ _ _|.box _=>.writer none
 |.mkslice _ _ _ _ _=>.alloc
 |.call f args=>if args.all (fun|.k a=>noId a && below 0 a|.t _=>true)=true then .call f args else .bad
 |_=>.bad
def isSilent:Kind→Bool
 |.silent=>true
 |_=>false
def needs (j i:Kind):Option (List Chk):=match j,i with
 |.silent,_=>some []
 |_,.silent=>some []
 |.reader _,.reader _=>some []
 |.reader x,.writer none=>some []
 |.reader x,.writer (some y)=>some [.apart x y]
 |.writer none,.reader x=>some [.low x]
 |.writer (some y),.reader x=>some [.low x,.apart x y]
 |.reader x,.call f args=>some [.closed f (oTs args)]
 |.call f args,.reader x=>some [.low x,.closed f (oTs args)]
 |.reader _,.alloc=>some []
 |.alloc,.reader x=>some [.low x]
 |.alloc,.call f args=>some [.quiet f (oTs args)]
 |.call f args,.alloc=>some [.quiet f (oTs args)]
 |_,_=>none
def isNew (c:CI):Bool:=match c.o,c.g,c.d with
 |.new _,none,some _=>true
 |_,_,_=>false
def binding (o:Oper):List Nat:=(o.after.toList.filter fun e=>Region.binds .any e).map (·.on)
def ancs:List (List Nat)→List (List Nat)→List (List Nat)
 |acc,[]=>acc
 |acc,a::r=>ancs (acc++[(a++a.flatMap fun j=>acc.getD j []).eraseDups]) r
def addChk:List Chk→List Chk→List Chk
 |[],acc=>acc
 |c::r,acc=>addChk r (if acc.contains c then acc else acc++[c])
def pairsChk (l:List CI)(T:List (List Nat)):List (Nat×Nat)→List Chk→Option (List Chk)
 |[],acc=>some acc
 |(j,i)::r,acc=>match l[j]?,l[i]? with
  |some cj,some ci=>if isNew cj || isNew ci || (T.getD i []).contains j then pairsChk l T r acc else match needs (kindOf cj.o) (kindOf ci.o) with
   |some c=>pairsChk l T r (addChk c acc)
   |none=>none
  |_,_=>none
def allPairs (n:Nat):List (Nat×Nat):=(List.range n).flatMap fun i=>(List.range i).map fun j=>(j,i)
def drawOK (l:List CI)(af T:List (List Nat)):Bool :=
 l.length == af.length && T.length == l.length &&
 (List.range l.length).all fun k=>match l[k]? with
  |none=>false
  |some c =>
   (af.getD k []).all (fun e=>Nat.blt e k) &&
   (T.getD k []).all (fun x=>(af.getD k []).contains x || (af.getD k []).any fun m=>(T.getD m []).contains x) &&
   (List.range l.length).all fun j=>match l[j]? with
    |none=>false
    |some cj=>match cj.d with
     |none=>true
     |some d=>(if j=k then true else match c.d with|none=>true|some d'=>!Nat.beq d d') &&
      (if (ciReads c).contains d=true then (Nat.blt j k && (af.getD k []).contains j) || (Nat.blt k j && (T.getD j []).contains k && isSilent (kindOf c.o) && !isNew cj) else true)
def cDraw (l:List CI)(af:List (List Nat)):Option (List CI×List CI×List Chk) :=
 let T:=ancs [] af
 if drawOK l af T=true then match pairsChk l T (allPairs l.length) [] with
  |some chk=>some (l.filter isNew,l.filter (fun c=>!isNew c),chk)
  |none=>none
 else none
def cCode (N:Nat):Code→Option CCode
 |.skip=>some .skip
 |.ret=>some .ret
 |.exit id=>some (.exit id)
 |.seq a b=>match cCode N a,cCode N b with
  |some a,some b=>some (.seq a b)
  |_,_=>none
 |.region _ ops false=>(cOpers P N ops ops.toList).map (.ops [])
 |.region _ ops true=>match cOpers P N ops ops.toList with
  |none=>none
  |some l=>match cDraw l (ops.toList.map binding) with
   |some (news,rest,chk)=>some (.draw [] news rest chk)
   |none=>none
 |.cond c a b=>match cOpd c,cCode N a,cCode N b with
  |some c,some a,some b=>some (.cond c a b)
  |_,_,_=>none
 |.block id a=>(cCode N a).map (.block id)
 |.loop a=>(cCode N a).map (.loop [])
 |_=>none
def cRes (r:List ResultVar):Option (List CRes):=match r with
 |[]=>some []
 |.tmp t::r=>(cRes r).map (.t t::·)
 |.cell a t::r=>match cSize P t,cAgg P t,cRes r with
  |some n,some g,some l=>some (.cell a n g::l)
  |_,_,_=>none
def cFunc (f:Func):Option (CCode×List CRes):=match f.body with
 |none=>none
 |some b=>match cCode P f.ntmps b,cRes P f.results.toList with
  |some c,some r=>some (c,r)
  |_,_=>none
end Go.Proofs.Z
end
section
namespace Go.Proofs.Z
open Go
section
variable {env env':Env}
theorem opd_reads {x:Opd}(h:∀ t,t∈oT x→lk env t=lk env' t):opd env x=opd env' x:=by
 cases x with
 |t n=>exact h n (by simp[oT])
 |k a=>rfl
theorem opds_reads:∀ {l:List Opd},(∀ t,t∈oTs l→lk env t=lk env' t)→opds env l=opds env' l
 |[],h=>rfl
 |x::r,h=>by
  simp only[opds]
  rw[opd_reads (x:=x) (fun t ht=>h t (by simp[oTs];exact .inl ht)),opds_reads (l:=r) (fun t ht=>h t (by simp[oTs]at ht ⊢;exact .inr ht))]
theorem evOp_reads {pg:Prg}{call:CallF}{o:COp}{G:Heap}(h:∀ t,t∈reads o→lk env t=lk env' t):evOp pg call o env G=evOp pg call o env' G:=by
 cases o with
 |new cs=>rfl
 |subs str sz x lo hi =>
  have h1:opd env x=opd env' x:=opd_reads fun t ht=>h t (by simp[reads,ht])
  have h2:∀ o,lo=some o→opd env o=opd env' o:=fun o e=>opd_reads fun t ht=>h t (by subst e;simp[reads,oO,ht])
  have h3:∀ o,hi=some o→opd env o=opd env' o:=fun o e=>opd_reads fun t ht=>h t (by subst e;simp[reads,oO,ht])
  simp only[evOp,h1]
  cases lo with
  |none=>cases hi with
   |none=>rfl
   |some b=>simp only[h3 b rfl]
  |some a=>cases hi with
   |none=>simp only[h2 a rfl]
   |some b=>simp only[h2 a rfl,h3 b rfl]
 |mov x=>simp only[evOp,opd_reads (x:=x) (fun t ht=>h t (by simp[reads,ht]))]
 |movs x=>simp only[evOp,opd_reads (x:=x) (fun t ht=>h t (by simp[reads,ht]))]
 |box x=>simp only[evOp,opd_reads (x:=x) (fun t ht=>h t (by simp[reads,ht]))]
 |load n g x=>simp only[evOp,opd_reads (x:=x) (fun t ht=>h t (by simp[reads,ht]))]
 |nilck x=>simp only[evOp,opd_reads (x:=x) (fun t ht=>h t (by simp[reads,ht]))]
 |not x=>simp only[evOp,opd_reads (x:=x) (fun t ht=>h t (by simp[reads,ht]))]
 |neg x=>simp only[evOp,opd_reads (x:=x) (fun t ht=>h t (by simp[reads,ht]))]
 |conv k x=>simp only[evOp,opd_reads (x:=x) (fun t ht=>h t (by simp[reads,ht]))]
 |tostr x=>simp only[evOp,opd_reads (x:=x) (fun t ht=>h t (by simp[reads,ht]))]
 |mkif k x=>simp only[evOp,opd_reads (x:=x) (fun t ht=>h t (by simp[reads,ht]))]
 |faddr k x=>simp only[evOp,opd_reads (x:=x) (fun t ht=>h t (by simp[reads,ht]))]
 |field a b c x=>simp only[evOp,opd_reads (x:=x) (fun t ht=>h t (by simp[reads,ht]))]
 |extract x k=>simp only[evOp,opd_reads (x:=x) (fun t ht=>h t (by simp[reads,ht]))]
 |len k x=>simp only[evOp,opd_reads (x:=x) (fun t ht=>h t (by simp[reads,ht]))]
 |panic x=>simp only[evOp,opd_reads (x:=x) (fun t ht=>h t (by simp[reads,ht]))]
 |pick x y z=>simp only[evOp,opd_reads (x:=x) (fun t ht=>h t (by simp[reads,ht])),opd_reads (x:=y) (fun t ht=>h t (by simp[reads,ht])),opd_reads (x:=z) (fun t ht=>h t (by simp[reads,ht]))]
 |build z ps=>simp only[evOp,opds_reads (l:=ps.map (·.2.2)) (fun t ht=>h t (by simpa [reads] using ht))]
 |bslice sz z n ps=>simp only[evOp,opds_reads (l:=ps.map (·.2)) (fun t ht=>h t (by simpa [reads] using ht))]
 |store n x y=>simp only[evOp,opd_reads (x:=x) (fun t ht=>h t (by simp[reads,ht])),opd_reads (x:=y) (fun t ht=>h t (by simp[reads,ht]))]
 |bin a b x y=>simp only[evOp,opd_reads (x:=x) (fun t ht=>h t (by simp[reads,ht])),opd_reads (x:=y) (fun t ht=>h t (by simp[reads,ht]))]
 |mkslice a b c x y=>simp only[evOp,opd_reads (x:=x) (fun t ht=>h t (by simp[reads,ht])),opd_reads (x:=y) (fun t ht=>h t (by simp[reads,ht]))]
 |iaddr a b x y=>simp only[evOp,opd_reads (x:=x) (fun t ht=>h t (by simp[reads,ht])),opd_reads (x:=y) (fun t ht=>h t (by simp[reads,ht]))]
 |index a x y=>simp only[evOp,opd_reads (x:=x) (fun t ht=>h t (by simp[reads,ht])),opd_reads (x:=y) (fun t ht=>h t (by simp[reads,ht]))]
 |app a b c x y=>simp only[evOp,opd_reads (x:=x) (fun t ht=>h t (by simp[reads,ht])),opd_reads (x:=y) (fun t ht=>h t (by simp[reads,ht]))]
 |mkfn f x y=>simp only[evOp,opds_reads (l:=x) (fun t ht=>h t (by simp[reads,ht])),opds_reads (l:=y) (fun t ht=>h t (by simp[reads,ht]))]
 |call f x=>simp only[evOp,opds_reads (l:=x) (fun t ht=>h t (by simpa [reads] using ht))]
 |max x=>simp only[evOp,opds_reads (l:=x) (fun t ht=>h t (by simpa [reads] using ht))]
 |min x=>simp only[evOp,opds_reads (l:=x) (fun t ht=>h t (by simpa [reads] using ht))]
 |callv x y=>simp only[evOp,opd_reads (x:=x) (fun t ht=>h t (by simp[reads,ht])),opds_reads (l:=y) (fun t ht=>h t (by simp[reads,ht]))]
end
def AEq (a b:Option AObj):Prop:=a=b∨∃ sz rows g s s',a=some (.arr sz rows g s)∧b=some (.arr sz rows g s')
theorem AEq.refl (o:Option AObj):AEq o o:=.inl rfl
theorem AEq.symm {a b:Option AObj}(h:AEq a b):AEq b a:=by
 rcases h with rfl|⟨sz,rows,g,s,s',rfl,rfl⟩
 ·exact .refl _
 ·exact .inr ⟨sz,rows,g,s',s,rfl,rfl⟩
theorem AEq.trans {a b c:Option AObj}(h:AEq a b)(h':AEq b c):AEq a c:=by
 rcases h with rfl|⟨sz,rows,g,s,s',rfl,rfl⟩
 ·exact h'
 ·rcases h' with rfl|⟨sz',rows',g',s1,s1',h1,rfl⟩
  ·exact .inr ⟨sz,rows,g,s,s',rfl,rfl⟩
  ·cases h1
   exact .inr ⟨sz,rows,g,s,s1',rfl,rfl⟩
mutual
theorem norm_aeq:∀ {a:AV} {G G':Heap} {v:AV},norm G a=some (v,G')→∀ id:Nat,AEq G'[id]? G[id]?
 |.p x,G,G',v,h,id=>by simp[norm]at h;obtain ⟨rfl,rfl⟩:=h;exact .refl _
 |.nils,G,G',v,h,id=>by simp[norm]at h;obtain ⟨rfl,rfl⟩:=h;exact .refl _
 |.arr k len gen,G,G',v,h,id=>by
  simp only[norm]at h
  split at h
  ·rename_i sz rows g sl hG
   split at h
   ·cases h
    rw[List.getElem?_set]
    split
    ·rename_i e
     subst e
     have:k<G.length:=(gE hG).1
     rw[if_pos this,hG]
     exact .inr ⟨_,_,_,_,_,rfl,rfl⟩
    ·exact .refl _
   ·cases h
  ·cases h
 |.ag cs,G,G',v,h,id=>by
  simp only[norm]at h
  split at h
  ·rename_i hn;cases h;exact normL_aeq hn id
  ·cases h
 |.tup cs,G,G',v,h,id=>by
  simp only[norm]at h
  split at h
  ·rename_i hn;cases h;exact normL_aeq hn id
  ·cases h
 |.ifc t x,G,G',v,h,id=>by
  simp only[norm]at h
  split at h
  ·rename_i hn;cases h;exact norm_aeq hn id
  ·cases h
 |.undef,G,G',v,h,id=>by simp[norm]at h
 |.ptr _ _,G,G',v,h,id=>by simp[norm]at h
 |.eptr _ _ _ _,G,G',v,h,id=>by simp[norm]at h
 |.rp _,G,G',v,h,id=>by simp[norm]at h
 |.fn _ _ _,G,G',v,h,id=>by simp[norm]at h
theorem normL_aeq:∀ {l:List AV} {G G':Heap} {vs:List AV},normL G l=some (vs,G')→∀ id:Nat,AEq G'[id]? G[id]?
 |[],G,G',vs,h,id=>by simp[normL]at h;obtain ⟨rfl,rfl⟩:=h;exact .refl _
 |a::r,G,G',vs,h,id=>by
  simp only[normL]at h
  split at h
  ·cases h
  ·rename_i v G1 hn
   split at h
   ·cases h
   ·rename_i vs' G2 hn2
    cases h
    exact (normL_aeq hn2 id).trans (norm_aeq hn id)
end
theorem normP_aeq {a:AV}{G G':Heap}{l:List PV}(h:normP G a=some (l,G'))(id:Nat):AEq G'[id]? G[id]?:=by
 unfold normP at h
 split at h
 ·cases h
 ·rename_i vs G1 hn
  split at h
  ·cases h
  ·cases h;exact normL_aeq hn id
theorem fillRows_aeq {sz:Nat}:∀ {ps:List (Nat×AV)} {rows rows':List (List PV)} {G G':Heap},evOp.fillRows sz rows G ps=some (rows',G')→∀ id:Nat,AEq G'[id]? G[id]?
 |[],rows,rows',G,G',h,id=>by simp[evOp.fillRows]at h;obtain ⟨_,rfl⟩:=h;exact .refl _
 |(i,v)::r,rows,rows',G,G',h,id=>by
  simp only[evOp.fillRows]at h
  split at h
  ·cases h
  ·rename_i l G1 hn
   split at h
   ·exact (fillRows_aeq h id).trans (normP_aeq hn id)
   ·cases h
mutual
theorem exp_below0 (keep:Bool):∀ {a a':AV} {e e':Exp},exp keep e a=some (a',e')→below 0 a=true→e'=e
 |.p x,a',e,e',h,hb=>by simp[exp]at h;exact h.2.symm
 |.nils,a',e,e',h,hb=>by simp only[exp]at h;split at h<;>(cases h;rfl)
 |.undef,a',e,e',h,hb=>by simp[exp]at h;exact h.2.symm
 |.rp cs,a',e,e',h,hb=>by simp[exp]at h;exact h.2.symm
 |.arr id len gen,a',e,e',h,hb=>by simp[below]at hb
 |.ptr id off,a',e,e',h,hb=>by simp[below]at hb
 |.eptr id idx off gen,a',e,e',h,hb=>by simp[below]at hb
 |.ag cs,a',e,e',h,hb=>by
  simp only[exp]at h
  split at h
  ·rename_i hn;cases h;exact expL_below0 keep hn (by simpa [below] using hb)
  ·cases h
 |.tup cs,a',e,e',h,hb=>by
  simp only[exp]at h
  split at h
  ·rename_i hn;cases h;exact expL_below0 keep hn (by simpa [below] using hb)
  ·cases h
 |.ifc t x,a',e,e',h,hb=>by
  simp only[exp]at h
  split at h
  ·rename_i hn;cases h;exact exp_below0 keep hn (by simpa [below] using hb)
  ·cases h
 |.fn f x y,a',e,e',h,hb=>by
  simp only[exp]at h
  simp only[below,Bool.and_eq_true]at hb
  split at h
  ·cases h
  ·rename_i hx
   split at h
   ·cases h
   ·rename_i hy
    cases h
    have h1:=expL_below0 true hx hb.1
    subst h1
    exact expL_below0 true hy hb.2
theorem expL_below0 (keep:Bool):∀ {l l':List AV} {e e':Exp},expL keep e l=some (l',e')→belowL 0 l=true→e'=e
 |[],l',e,e',h,hb=>by simp[expL]at h;exact h.2.symm
 |a::r,l',e,e',h,hb=>by
  simp only[expL]at h
  simp only[belowL,Bool.and_eq_true]at hb
  split at h
  ·cases h
  ·rename_i hn
   split at h
   ·cases h
   ·rename_i hn2
    cases h
    have h1:=exp_below0 keep hn hb.1
    subst h1
    exact expL_below0 keep hn2 hb.2
end
mutual
theorem exp_noId:∀ {a a':AV} {e e':Exp},exp false e a=some (a',e')→noId a=true→e'.ids=e.ids∧∀ id:Nat,AEq e'.G[id]? e.G[id]?
 |.p x,a',e,e',h,hb=>by simp[exp]at h;rw[← h.2];exact ⟨rfl,fun _=>.refl _⟩
 |.nils,a',e,e',h,hb=>by simp[exp]at h;rw[← h.2];exact ⟨rfl,fun _=>.refl _⟩
 |.undef,a',e,e',h,hb=>by simp[exp]at h;rw[← h.2];exact ⟨rfl,fun _=>.refl _⟩
 |.rp cs,a',e,e',h,hb=>by simp[exp]at h;rw[← h.2];exact ⟨rfl,fun _=>.refl _⟩
 |.arr id len gen,a',e,e',h,hb=>by
  simp only[exp,Bool.false_eq_true,if_false]at h
  split at h
  ·rename_i v G hn;cases h;exact ⟨rfl,norm_aeq hn⟩
  ·cases h
 |.ptr id off,a',e,e',h,hb=>by simp[noId]at hb
 |.eptr id idx off gen,a',e,e',h,hb=>by simp[noId]at hb
 |.ag cs,a',e,e',h,hb=>by
  simp only[exp]at h
  split at h
  ·rename_i hn;cases h;exact expL_noId hn (by simpa [noId] using hb)
  ·cases h
 |.tup cs,a',e,e',h,hb=>by
  simp only[exp]at h
  split at h
  ·rename_i hn;cases h;exact expL_noId hn (by simpa [noId] using hb)
  ·cases h
 |.ifc t x,a',e,e',h,hb=>by
  simp only[exp]at h
  split at h
  ·rename_i hn;cases h;exact exp_noId hn (by simpa [noId] using hb)
  ·cases h
 |.fn f x y,a',e,e',h,hb=>by
  have:below 0 (.fn f x y)=true:=by simpa [noId,below] using hb
  rw[exp_below0 false h this]
  exact ⟨rfl,fun _=>.refl _⟩
theorem expL_noId:∀ {l l':List AV} {e e':Exp},expL false e l=some (l',e')→noIdL l=true→e'.ids=e.ids∧∀ id:Nat,AEq e'.G[id]? e.G[id]?
 |[],l',e,e',h,hb=>by simp[expL]at h;rw[← h.2];exact ⟨rfl,fun _=>.refl _⟩
 |a::r,l',e,e',h,hb=>by
  simp only[expL]at h
  simp only[noIdL,Bool.and_eq_true]at hb
  split at h
  ·cases h
  ·rename_i hn
   split at h
   ·cases h
   ·rename_i hn2
    cases h
    obtain ⟨a1,a2⟩:=exp_noId hn hb.1
    obtain ⟨b1,b2⟩:=expL_noId hn2 hb.2
    exact ⟨b1.trans a1,fun id=>(b2 id).trans (a2 id)⟩
end
theorem AEq.none_iff {a b:Option AObj}(h:AEq a b):a=none↔b=none:=by
 rcases h with rfl|⟨sz,rows,g,s,s',rfl,rfl⟩
 ·exact Iff.rfl
 ·simp
theorem aeq_lt {G G':Heap}(h:∀ id:Nat,AEq G'[id]? G[id]?):G'.length=G.length:=by
 rcases Nat.lt_trichotomy G'.length G.length with h1|h1|h1
 ·have:=(h G'.length).none_iff
  rw[List.getElem?_eq_none (Nat.le_refl _),gG h1]at this
  simp at this
 ·exact h1
 ·have:=(h G.length).none_iff
  rw[List.getElem?_eq_none (Nat.le_refl _),gG h1]at this
  simp at this
theorem call_aeq {pg:Prg}{call:CallF}{f:Nat}{args:List AV}{G G':Heap}{out:Out}(hk:keepA pg f=false)(hn:noIdL args=true)(h:eCA pg call f args G=some (out,G')):∀ id:Nat,id<G.length→AEq G'[id]? G[id]?:=by
 unfold eCA at h
 rw[hk]at h
 split at h
 ·cases h
 ·rename_i args' e hx
  obtain ⟨h1,h2⟩:=expL_noId hx hn
  have hids:e.ids=[]:=h1
  split at h
  ·cases h
  ·rename_i os e' ho
   have:e'=e:=by
    simp[eOs,hids]at ho
    exact ho.2.symm
   subst this
   split at h
   ·cases h
   ·cases h
    intro id hid
    rw[hids]
    simp only[setAll]
    have hlen:e'.G.length=G.length:=aeq_lt h2
    rw[List.getElem?_append_left (by omega)]
    exact h2 id
theorem one_val {G:Heap}{x:Option AV}{r:Res}(h:one G x=some r):∃ v,r=.val v G∧∀ G',one G' x=some (.val v G'):=by
 cases x with
 |none=>simp[one]at h
 |some v=>simp[one]at h;exact ⟨v,h.symm,fun G'=>rfl⟩
section
variable {pg:Prg}{call:CallF}{env:Env}{G:Heap}{r:Res}
theorem silent_spec {o:COp}(hk:isSilent (kindOf o)=true)(h:evOp pg call o env G=some r):∃ v,r=.val v G∧∀ G',evOp pg call o env G'=some (.val v G'):=by
 cases o with
 |mov x=>exact one_val h
 |movs x =>
  simp only[evOp]at h ⊢
  split at h
  ·cases h;exact ⟨_,rfl,fun _=>rfl⟩
  ·cases h
 |pick c a b =>
  simp only[evOp]at h ⊢
  split at h
  ·rename_i cc hc
   cases cc
   ·simp only[Bool.false_eq_true,if_false]at h ⊢;exact one_val h
   ·simp only[if_true]at h ⊢;exact one_val h
  ·cases h
 |build z ps =>
  simp only[evOp]at h ⊢
  split at h
  ·cases h
  ·split at h
   ·cases h
   ·cases h;exact ⟨_,rfl,fun _=>rfl⟩
 |nilck x =>
  simp only[evOp]at h ⊢
  split at h<;>first|(cases h;exact ⟨_,rfl,fun _=>rfl⟩)|cases h
 |bin op c x y =>
  simp only[evOp]at h ⊢
  split at h
  ·cases c<;>first
    |exact one_val h
    |(dsimp only at h ⊢
      split at h
      ·split at h
       ·rename_i hl
        simp only[if_pos hl]
        exact one_val h
       ·cases h
      ·cases h)
  ·cases h
 |not x =>
  simp only[evOp]at h ⊢
  split at h
  ·cases h;exact ⟨_,rfl,fun _=>rfl⟩
  ·cases h
 |neg x =>
  simp only[evOp]at h ⊢
  split at h
  ·cases h;exact ⟨_,rfl,fun _=>rfl⟩
  ·cases h
 |conv k x =>
  simp only[evOp]at h ⊢
  split at h
  ·cases h;exact ⟨_,rfl,fun _=>rfl⟩
  ·cases h
 |mkif k x =>
  simp only[evOp]at h ⊢
  split at h
  ·cases h;exact ⟨_,rfl,fun _=>rfl⟩
  ·cases h
 |mkfn k x y =>
  simp only[evOp]at h ⊢
  split at h
  ·cases h;exact ⟨_,rfl,fun _=>rfl⟩
  ·cases h
 |faddr k x =>
  simp only[evOp]at h ⊢
  split at h<;>first|(cases h;exact ⟨_,rfl,fun _=>rfl⟩)|cases h
 |field o n ag x =>
  simp only[evOp]at h ⊢
  split at h
  ·cases ag
   ·simp only[Bool.false_eq_true,if_false]at h ⊢;exact one_val h
   ·simp only[if_true]at h ⊢
    split at h
    ·rename_i hl
     cases h
     exact ⟨_,rfl,fun _=>by rw[if_pos hl]⟩
    ·cases h
  ·cases h
 |index arr x i =>
  simp only[evOp]at h ⊢
  split at h
  ·split at h
   ·split at h
    ·rename_i hh
     simp only[if_pos hh]
     split at h
     ·rename_i hg
      simp only[if_pos hg]
      split at h
      ·rename_i hl
       cases h
       exact ⟨_,rfl,fun _=>by rw[if_pos hl]⟩
      ·cases h
     ·rename_i hg
      simp only[if_neg hg]
      exact one_val h
    ·cases h
   ·split at h
    ·rename_i hh
     simp only[if_pos hh]
     split at h
     ·cases h;exact ⟨_,rfl,fun _=>rfl⟩
     ·cases h
    ·cases h
   ·cases h
  ·cases h
 |extract x k =>
  simp only[evOp]at h ⊢
  split at h
  ·exact one_val h
  ·cases h
 |max x =>
  simp only[evOp]at h ⊢
  split at h
  ·cases h;exact ⟨_,rfl,fun _=>rfl⟩
  ·cases h
 |min x =>
  simp only[evOp]at h ⊢
  split at h
  ·cases h;exact ⟨_,rfl,fun _=>rfl⟩
  ·cases h
 |load n g x=>cases x<;>simp[kindOf,isSilent]at hk
 |len n x=>cases x<;>simp[kindOf,isSilent]at hk
 |iaddr n l x y=>cases x<;>simp[kindOf,isSilent]at hk
 |tostr x=>cases x<;>simp[kindOf,isSilent]at hk
 |store n x y=>cases x<;>simp[kindOf,isSilent]at hk
 |app a b c x y=>cases x<;>simp[kindOf,isSilent]at hk
 |call f args =>
  simp only[kindOf]at hk
  split at hk<;>simp[isSilent]at hk
 |box x=>simp[kindOf,isSilent]at hk
 |new x=>simp[kindOf,isSilent]at hk
 |bslice a b c d=>simp[kindOf,isSilent]at hk
 |mkslice a b c d e=>simp[kindOf,isSilent]at hk
 |subs a b c d e=>simp[kindOf,isSilent]at hk
 |callv a b=>simp[kindOf,isSilent]at hk
 |panic a=>simp[kindOf,isSilent]at hk
theorem rowsOf_aeq {G G':Heap}{v:AV}(h:∀ id:Nat,id∈tids v→AEq G'[id]? G[id]?):rowsOf G' v=rowsOf G v:=by
 cases v with
 |arr id len gen =>
  simp only[rowsOf]
  rcases h id (by simp[tids]) with e|⟨sz,rows,g,s,s',e1,e2⟩
  ·rw[e]
  ·rw[e1,e2]
 |p x=>cases x<;>rfl
 |_=>rfl
theorem evLoad_aeq {n:Nat}{ag:Bool}{G G':Heap}{v:AV}(h:∀ id:Nat,id∈tids v→AEq G'[id]? G[id]?):evLoad n ag G' v=evLoad n ag G v:=by
 cases v with
 |ptr id off =>
  simp only[evLoad]
  rcases h id (by simp[tids]) with e|⟨sz,rows,g,s,s',e1,e2⟩
  ·rw[e]
  ·rw[e1,e2]
 |eptr id idx off gen =>
  simp only[evLoad]
  rcases h id (by simp[tids]) with e|⟨sz,rows,g,s,s',e1,e2⟩
  ·rw[e]
  ·rw[e1,e2]
 |_=>rfl
theorem evLen_aeq {b:Bool}{G G':Heap}{v:AV}(h:∀ id:Nat,id∈tids v→AEq G'[id]? G[id]?):evLen b G' v=evLen b G v:=by
 cases v with
 |arr id len gen =>
  simp only[evLen]
  rcases h id (by simp[tids]) with e|⟨sz,rows,g,s,s',e1,e2⟩
  ·rw[e]
  ·rw[e1,e2]
 |p x=>cases x<;>rfl
 |_=>rfl
theorem evLoad_at {n:Nat}{ag:Bool}{G:Heap}{v u:AV}(h:evLoad n ag G v=some u):∀ id:Nat,id∈tids v→id<G.length:=by
 intro id hid
 cases v with
 |ptr k off =>
  simp only[tids,List.mem_singleton]at hid
  subst hid
  simp only[evLoad]at h
  split at h
  ·rename_i hG;exact (gE hG).1
  ·cases h
 |eptr k idx off gen =>
  simp only[tids,List.mem_singleton]at hid
  subst hid
  simp only[evLoad]at h
  split at h
  ·rename_i hG;exact (gE hG).1
  ·cases h
 |arr=>simp[evLoad]at h
 |_=>simp[tids]at hid
theorem reader_spec {o:COp}{x:Nat}(hk:kindOf o=.reader x)(h:evOp pg call o env G=some r):∃ v,r=.val v G ∧
  ∀ G':Heap,(∀ u,lk env x=some u→∀ id:Nat,id∈tids u→id<G.length→AEq G'[id]? G[id]?)→evOp pg call o env G'=some (.val v G'):=by
 cases o with
 |load n g y =>
  cases y with
  |k a=>simp[kindOf]at hk
  |t y =>
   simp only[kindOf,Kind.reader.injEq]at hk
   subst hk
   simp only[evOp,opd]at h ⊢
   split at h
   ·rename_i a ha
    cases hl:evLoad n g G a with
    |none=>rw[hl]at h;simp[one]at h
    |some u =>
     rw[hl]at h
     simp[one]at h
     refine ⟨u,h.symm,fun G' hG=>?_⟩
     rw[evLoad_aeq (G:=G) (fun id hid=>hG a ha id hid (evLoad_at hl id hid)),hl]
     rfl
   ·cases h
 |len b y =>
  cases y with
  |k a=>simp[kindOf]at hk
  |t y =>
   simp only[kindOf,Kind.reader.injEq]at hk
   subst hk
   simp only[evOp,opd]at h ⊢
   split at h
   ·rename_i a ha
    split at h
    ·rename_i n hn
     cases h
     refine ⟨_,rfl,fun G' hG=>?_⟩
     rw[evLen_aeq (G:=G) (fun id hid=>hG a ha id hid ?_),hn]
     cases a with
     |arr k len gen =>
      simp only[tids,List.mem_singleton]at hid
      subst hid
      simp only[evLen]at hn
      split at hn
      ·cases hn
      ·split at hn
       ·rename_i hG;exact (gE hG).1
       ·cases hn
     |ptr=>simp[evLen]at hn
     |eptr=>simp[evLen]at hn
     |_=>simp[tids]at hid
    ·cases h
   ·cases h
 |tostr y =>
  cases y with
  |k a=>simp[kindOf]at hk
  |t y =>
   simp only[kindOf,Kind.reader.injEq]at hk
   subst hk
   simp only[evOp,opd]at h ⊢
   split at h
   ·rename_i a ha
    split at h
    ·rename_i l hl
     cases h
     refine ⟨_,rfl,fun G' hG=>?_⟩
     rw[rowsOf_aeq (G:=G) (fun id hid=>hG a ha id hid ?_),hl]
     cases a with
     |arr k len gen =>
      simp only[tids,List.mem_singleton]at hid
      subst hid
      simp only[isStr,Bool.false_eq_true,if_false,rowsOf]at hl
      split at hl
      ·rename_i hG;exact (gE hG).1
      ·simp at hl
     |ptr=>simp[isStr,rowsOf]at hl
     |eptr=>simp[isStr,rowsOf]at hl
     |_=>simp[tids]at hid
    ·cases h
   ·cases h
 |iaddr sz alen y i =>
  cases y with
  |k a=>simp[kindOf]at hk
  |t y =>
   simp only[kindOf,Kind.reader.injEq]at hk
   subst hk
   simp only[evOp,opd]at h ⊢
   split at h
   ·rename_i a k i' ha hi
    split at h
    ·split at h
     ·split at h
      ·rename_i hh;cases h;exact ⟨_,rfl,fun _ _=>by rw[if_pos hh]⟩
      ·cases h
     ·split at h
      ·rename_i hh;cases h;exact ⟨_,rfl,fun _ _=>by rw[if_pos hh]⟩
      ·cases h
     ·cases h
    ·split at h
     ·split at h
      ·rename_i h0
       simp only[if_pos h0]
       split at h
       ·split at h
        ·rename_i hok;cases h;exact ⟨_,rfl,fun _ _=>by rw[if_pos hok]⟩
        ·cases h
       ·cases h
      ·cases h
     ·rename_i id len gen
      split at h
      ·rename_i hG
       split at h
       ·rename_i hh
        cases h
        refine ⟨_,rfl,fun G' hG'=>?_⟩
        rcases hG' _ ha id (by simp[tids]) (gE hG).1 with e|⟨sz,rows,g,s,s',e1,e2⟩
        ·rw[e,hG];dsimp only;rw[if_pos hh]
        ·rw[hG]at e2
         cases e2
         rw[e1];dsimp only;rw[if_pos hh]
       ·cases h
      ·cases h
     ·cases h
   ·cases h
 |call f args =>
  simp only[kindOf]at hk
  split at hk<;>cases hk
 |store n x y=>cases x<;>simp[kindOf]at hk
 |app a b c x y=>cases x<;>simp[kindOf]at hk
 |_=>simp[kindOf]at hk
theorem writer_spec {o:COp}{x:Option Nat}(hk:kindOf o=.writer x){v:AV}{G1:Heap}(h:evOp pg call o env G=some (.val v G1)) :
  ∀ id:Nat,id<G.length→(∀ t u,x=some t→lk env t=some u→id∉tids u)→AEq G1[id]? G[id]?:=by
 intro id hid hx
 cases o with
 |store n y z =>
  cases y with
  |k a=>simp[kindOf]at hk
  |t y =>
   simp only[kindOf,Kind.writer.injEq]at hk
   subst hk
   simp only[evOp,opd]at h
   split at h
   ·rename_i a b ha hb
    split at h
    ·rename_i G2 hs
     cases h
     have hni:=hx y a rfl ha
     unfold evStore at hs
     split at hs
     ·split at hs
      ·rename_i k off
       simp only[tids,List.mem_singleton]at hni
       split at hs
       ·split at hs
        ·cases hs
         rw[List.getElem?_set,if_neg (Ne.symm hni)]
         exact .refl _
        ·cases hs
       ·cases hs
      ·rename_i k idx off gen
       simp only[tids,List.mem_singleton]at hni
       split at hs
       ·cases hs
       ·rename_i l G3 hn
        split at hs
        ·split at hs
         ·split at hs
          ·split at hs
           ·cases hs
            rw[List.getElem?_set,if_neg (Ne.symm hni)]
            exact normP_aeq hn id
           ·cases hs
          ·cases hs
         ·cases hs
        ·cases hs
      ·cases hs
     ·cases hs
    ·cases h
   ·cases h
 |app a b c y z =>
  cases y with
  |k a=>simp[kindOf]at hk
  |t y =>
   simp only[kindOf,Kind.writer.injEq]at hk
   subst hk
   simp only[evOp,opd]at h
   split at h
   ·rename_i u w hu hw
    split at h
    ·rename_i r' G2 hs
     cases h
     have hni:=hx y u rfl hu
     unfold evApp at hs
     split at hs
     ·cases hs
     ·split at hs
      ·split at hs
       ·split at hs
        ·cases hs;exact .refl _
        ·split at hs
         ·cases hs;rw[List.getElem?_append_left hid];exact .refl _
         ·cases hs
       ·rename_i k len gen
        simp only[tids,List.mem_singleton]at hni
        split at hs
        ·split at hs
         ·cases hs
          rw[List.getElem?_set,if_neg (Ne.symm hni)]
          exact .refl _
         ·cases hs
        ·cases hs
       ·cases hs
      ·cases hs
    ·cases h
   ·cases h
 |box y =>
  simp only[evOp]at h
  split at h
  ·split at h
   ·cases h;rw[List.getElem?_append_left hid];exact .refl _
   ·cases h
  ·cases h
 |bslice sz z n ps =>
  simp only[evOp]at h
  split at h
  ·split at h
   ·cases h
   ·split at h
    ·cases h
    ·rename_i rows G2 hr
     cases h
     have:=aeq_lt (fillRows_aeq hr)
     rw[List.getElem?_append_left (by omega)]
     exact fillRows_aeq hr id
  ·cases h
 |mkslice sz by_ z l c =>
  simp only[evOp]at h
  split at h
  ·split at h
   ·cases h;rw[List.getElem?_append_left hid];exact .refl _
   ·cases h
  ·cases h
 |call f args =>
  simp only[kindOf]at hk
  split at hk<;>cases hk
 |load n g y=>cases y<;>simp[kindOf]at hk
 |len b y=>cases y<;>simp[kindOf]at hk
 |tostr y=>cases y<;>simp[kindOf]at hk
 |iaddr sz alen y i=>cases y<;>simp[kindOf]at hk
 |_=>simp[kindOf]at hk
theorem noIdL_of {args:List Opd}(hs:args.all (fun|.k a=>noId a && below 0 a|.t _=>true)=true){vs:List AV}(hv:opds env args=some vs)(ht:∀ t,t∈oTs args→∀ v,lk env t=some v→noId v=true):noIdL vs=true:=by
 induction args generalizing vs with
 |nil=>simp[opds]at hv;subst hv;rfl
 |cons x r ih =>
  simp only[opds]at hv
  split at hv
  ·cases hv
  ·rename_i v hx
   split at hv
   ·cases hv
   ·rename_i vs' hr
    cases hv
    simp only[List.all_cons,Bool.and_eq_true]at hs
    simp only[noIdL,Bool.and_eq_true]
    refine ⟨?_,ih hs.2 hr (fun t h=>ht t (by simp[oTs]at h ⊢;exact .inr h))⟩
    cases x with
    |k a=>simp[opd]at hx;subst hx;simp at hs;exact hs.1.1
    |t n=>exact ht n (by simp[oTs,oT]) v hx
theorem belowL_of {args:List Opd}(hs:args.all (fun|.k a=>noId a && below 0 a|.t _=>true)=true){vs:List AV}(hv:opds env args=some vs)(ht:∀ t,t∈oTs args→∀ v,lk env t=some v→below 0 v=true):belowL 0 vs=true:=by
 induction args generalizing vs with
 |nil=>simp[opds]at hv;subst hv;rfl
 |cons x r ih =>
  simp only[opds]at hv
  split at hv
  ·cases hv
  ·rename_i v hx
   split at hv
   ·cases hv
   ·rename_i vs' hr
    cases hv
    simp only[List.all_cons,Bool.and_eq_true]at hs
    simp only[belowL,Bool.and_eq_true]
    refine ⟨?_,ih hs.2 hr (fun t h=>ht t (by simp[oTs]at h ⊢;exact .inr h))⟩
    cases x with
    |k a=>simp[opd]at hx;subst hx;simp at hs;exact hs.1.2
    |t n=>exact ht n (by simp[oTs,oT]) v hx
mutual
theorem exp_pure (keep:Bool):∀ {a:AV},below 0 a=true→(∃ e a' e',exp keep e a=some (a',e'))→∃ a',∀ e,exp keep e a=some (a',e)
 |.p x,_,_=>⟨_,fun e=>by simp only[exp];rfl⟩
 |.nils,_,_=>by cases keep<;>exact ⟨_,fun e=>by simp only[exp];rfl⟩
 |.undef,_,_=>⟨_,fun e=>by simp only[exp];rfl⟩
 |.rp _,_,_=>⟨_,fun e=>by simp only[exp];rfl⟩
 |.arr _ _ _,h,_=>by simp[below]at h
 |.ptr _ _,h,_=>by simp[below]at h
 |.eptr _ _ _ _,h,_=>by simp[below]at h
 |.ag cs,h,⟨e,a',e',he⟩=>by
  simp only[exp]at he
  cases hx:expL keep e cs with
  |none=>rw[hx]at he;cases he
  |some y =>
   obtain ⟨cs',hc⟩:=expL_pure keep (l:=cs) (by simpa [below] using h) ⟨e,y.1,y.2,hx⟩
   exact ⟨.ag cs',fun e=>by simp only[exp];rw[hc e]⟩
 |.tup cs,h,⟨e,a',e',he⟩=>by
  simp only[exp]at he
  cases hx:expL keep e cs with
  |none=>rw[hx]at he;cases he
  |some y =>
   obtain ⟨cs',hc⟩:=expL_pure keep (l:=cs) (by simpa [below] using h) ⟨e,y.1,y.2,hx⟩
   exact ⟨.tup cs',fun e=>by simp only[exp];rw[hc e]⟩
 |.ifc t v,h,⟨e,a',e',he⟩=>by
  simp only[exp]at he
  cases hx:exp keep e v with
  |none=>rw[hx]at he;cases he
  |some y =>
   obtain ⟨v',hc⟩:=exp_pure keep (a:=v) (by simpa [below] using h) ⟨e,y.1,y.2,hx⟩
   exact ⟨.ifc t v',fun e=>by simp only[exp];rw[hc e]⟩
 |.fn f a b,h,⟨e,a',e',he⟩=>by
  simp only[below,Bool.and_eq_true]at h
  simp only[exp]at he
  cases hx:expL true e a with
  |none=>rw[hx]at he;cases he
  |some y =>
   rw[hx]at he
   dsimp only at he
   cases hx2:expL true y.2 b with
   |none=>rw[hx2]at he;cases he
   |some z =>
    obtain ⟨a2,ha⟩:=expL_pure true (l:=a) h.1 ⟨e,y.1,y.2,hx⟩
    obtain ⟨b2,hb⟩:=expL_pure true (l:=b) h.2 ⟨y.2,z.1,z.2,hx2⟩
    exact ⟨.fn f a2 b2,fun e=>by simp only[exp];rw[ha e];dsimp only;rw[hb e]⟩
theorem expL_pure (keep:Bool):∀ {l:List AV},belowL 0 l=true→(∃ e l' e',expL keep e l=some (l',e'))→∃ l',∀ e,expL keep e l=some (l',e)
 |[],_,_=>⟨[],fun e=>by simp only[expL]⟩
 |a::r,h,⟨e,l',e',he⟩=>by
  simp only[belowL,Bool.and_eq_true]at h
  simp only[expL]at he
  cases hx:exp keep e a with
  |none=>rw[hx]at he;cases he
  |some y =>
   rw[hx]at he
   dsimp only at he
   cases hx2:expL keep y.2 r with
   |none=>rw[hx2]at he;cases he
   |some z =>
    obtain ⟨a2,ha⟩:=exp_pure keep (a:=a) h.1 ⟨e,y.1,y.2,hx⟩
    obtain ⟨b2,hb⟩:=expL_pure keep (l:=r) h.2 ⟨y.2,z.1,z.2,hx2⟩
    exact ⟨a2::b2,fun e=>by simp only[expL];rw[ha e];dsimp only;rw[hb e]⟩
end
mutual
theorem back_below0 (base:Nat):∀ {a:AV},below 0 a=true→back [] base a=a
 |.p x,_=>by simp[back]
 |.nils,_=>by simp[back]
 |.undef,_=>by simp[back]
 |.rp _,_=>by simp[back]
 |.arr _ _ _,h=>by simp[below]at h
 |.ptr _ _,h=>by simp[below]at h
 |.eptr _ _ _ _,h=>by simp[below]at h
 |.ag cs,h=>by simp only[back];rw[backL_below0 base (by simpa [below] using h)]
 |.tup cs,h=>by simp only[back];rw[backL_below0 base (by simpa [below] using h)]
 |.ifc t v,h=>by simp only[back];rw[back_below0 base (by simpa [below] using h)]
 |.fn f a b,h=>by simp only[below,Bool.and_eq_true]at h;simp only[back];rw[backL_below0 base h.1,backL_below0 base h.2]
theorem backL_below0 (base:Nat):∀ {l:List AV},belowL 0 l=true→backL [] base l=l
 |[],_=>rfl
 |a::r,h=>by simp only[belowL,Bool.and_eq_true]at h;simp only[backL];rw[back_below0 base h.1,backL_below0 base h.2]
end
def QCall (pg:Prg)(call:CallF):Prop:=∀ f args out os',quietFn pg f=true→call f args []=some (out,os')→os'=[]∧out.below 0=true
theorem quiet_callAt (hQ:QCall pg call){f:Nat}(hf:quietFn pg f=true){args:List AV}(ha:belowL 0 args=true){G G':Heap}{out:Out}(h:eCA pg call f args G=some (out,G')) :
  G'=G∧∀ H:Heap,eCA pg call f args H=some (out,H):=by
 unfold eCA at h
 split at h
 ·cases h
 ·rename_i args' e hx
  obtain ⟨l',hl⟩:=expL_pure _ ha ⟨_,_,_,hx⟩
  rw[hl]at hx
  cases hx
  have ho:∀ H:Heap,eOs (H.length+1) ⟨[],H⟩ 0=some ([],⟨[],H⟩):=fun H=>by simp[eOs]
  rw[ho]at h
  dsimp only at h
  split at h
  ·cases h
  ·rename_i out' os' hc
   obtain ⟨rfl,hb⟩:=hQ f _ _ _ hf hc
   have hback:∀ n,out'.back [] n=out':=fun n=>by
    cases out' with
    |ret v=>simp only[Out.back];rw[back_below0 n (by simpa [Out.below] using hb)]
    |pan v=>simp only[Out.back];rw[back_below0 n (by simpa [Out.below] using hb)]
   simp only[hback,setAll,List.drop_nil,List.map_nil,List.append_nil]at h
   cases h
   refine ⟨rfl,fun H=>?_⟩
   unfold eCA
   rw[hl]
   dsimp only
   rw[ho]
   dsimp only
   rw[hc]
   simp[hback,setAll]
theorem quiet_op (hQ:QCall pg call){o:COp}{f:Nat}{args:List Opd}(hk:kindOf o=.call f args){v:AV}{G1:Heap}(h:evOp pg call o env G=some (.val v G1))
  (hf:quietFn pg f=true) (ht:∀ t,t∈oTs args→∀ v,lk env t=some v→below 0 v=true):G1=G∧∀ H:Heap,evOp pg call o env H=some (.val v H):=by
 cases o with
 |call f' args' =>
  simp only[kindOf]at hk
  split at hk
  ·rename_i hs
   cases hk
   simp only[evOp]at h ⊢
   split at h
   ·rename_i vs hv
    cases hc:eCA pg call f vs G with
    |none=>rw[hc]at h;simp[Res.of]at h
    |some y =>
     rcases y with ⟨out,G2⟩
     rw[hc]at h
     obtain ⟨q1,q2⟩:=quiet_callAt hQ hf (belowL_of hs hv ht) hc
     cases out with
     |ret u=>simp[Res.of]at h;obtain ⟨rfl,rfl⟩:=h;exact ⟨q1,fun H=>by rw[q2 H];rfl⟩
     |pan u=>simp[Res.of]at h
   ·cases h
  ·cases hk
 |store n x y=>cases x<;>simp[kindOf]at hk
 |app a b c x y=>cases x<;>simp[kindOf]at hk
 |load n g y=>cases y<;>simp[kindOf]at hk
 |len b y=>cases y<;>simp[kindOf]at hk
 |tostr y=>cases y<;>simp[kindOf]at hk
 |iaddr sz alen y i=>cases y<;>simp[kindOf]at hk
 |_=>simp[kindOf]at hk
theorem alloc_spec {o:COp}(hk:kindOf o=.alloc){v:AV}{G1:Heap}(h:evOp pg call o env G=some (.val v G1)):∃ ob,G1=G++[ob]:=by
 cases o with
 |mkslice sz b z x y =>
  simp only[evOp]at h
  split at h
  ·split at h
   ·cases h;exact ⟨_,rfl⟩
   ·cases h
  ·cases h
 |call f args=>simp only[kindOf]at hk;split at hk<;>cases hk
 |store n x y=>cases x<;>simp[kindOf]at hk
 |app a b c x y=>cases x<;>simp[kindOf]at hk
 |load n g y=>cases y<;>simp[kindOf]at hk
 |len b y=>cases y<;>simp[kindOf]at hk
 |tostr y=>cases y<;>simp[kindOf]at hk
 |iaddr sz alen y i=>cases y<;>simp[kindOf]at hk
 |_=>simp[kindOf]at hk
theorem callop_spec {o:COp}{f:Nat}{args:List Opd}(hk:kindOf o=.call f args){v:AV}{G1:Heap}(h:evOp pg call o env G=some (.val v G1))
  (hka:keepA pg f=false) (ht:∀ t,t∈oTs args→∀ v,lk env t=some v→noId v=true):∀ id:Nat,id<G.length→AEq G1[id]? G[id]?:=by
 cases o with
 |call f' args' =>
  simp only[kindOf]at hk
  split at hk
  ·rename_i hs
   cases hk
   simp only[evOp]at h
   split at h
   ·rename_i vs hv
    cases hc:eCA pg call f vs G with
    |none=>rw[hc]at h;simp[Res.of]at h
    |some y =>
     rcases y with ⟨out,G2⟩
     rw[hc]at h
     cases out with
     |ret u=>simp[Res.of]at h;obtain ⟨rfl,rfl⟩:=h;exact call_aeq hka (noIdL_of hs hv ht) hc
     |pan u=>simp[Res.of]at h
   ·cases h
  ·cases hk
 |store n x y=>cases x<;>simp[kindOf]at hk
 |app a b c x y=>cases x<;>simp[kindOf]at hk
 |load n g y=>cases y<;>simp[kindOf]at hk
 |len b y=>cases y<;>simp[kindOf]at hk
 |tostr y=>cases y<;>simp[kindOf]at hk
 |iaddr sz alen y i=>cases y<;>simp[kindOf]at hk
 |_=>simp[kindOf]at hk
end
end Go.Proofs.Z
end
