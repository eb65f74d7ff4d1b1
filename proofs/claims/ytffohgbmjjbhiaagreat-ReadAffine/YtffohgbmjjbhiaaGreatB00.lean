/- A part of the proof. -/
import Derived.Calls
set_option linter.all false
namespace Go.Proofs.Z
def az:=@eq_false
def Ur:=@eq_true
def ah:=@if_pos
def ab:=@Bool.and_eq_true
def aZ:=@Bool.false_eq_true
def j_:=@Nat.lt_trichotomy
def aB:=@Nat.le_refl
def aa:=@if_neg
def br:=@List.mem_singleton
def dJ:=@List.all_cons
def WU:=@List.drop_nil
def au:=@List.map_nil
def UD:=@List.append_nil
def aR:=@List.length_append
def cm:=@Nat.le_trans
def eW:=@Nat.lt_of_lt_of_le
def aW:=@List.eq_nil_of_length_eq_zero
def bJ:=@Nat.blt_eq
def bQ:=@Array.getD_eq_getD_getElem?
def aP:=@Option.map_eq_some_iff
def fH:=@Array.ext'
def bc:=@List.all_eq_true
def aE:=@List.mem_of_getElem?
def db:=@Nat.succ_mul
def bh:=@Nat.mul_le_mul_right
def dT:=@Option.map_some
def bG:=@Option.some.injEq
def eI:=@Nat.add_assoc
def gb:=@not_false_eq_true
def Wq:=@List.extract_eq_take_drop
def iJ:=@Nat.ne_of_lt
def dG:=@Nat.le_max_left
def dL:=@Nat.le_max_right
def U6:=@List.mem_of_mem_take
def gO:=@List.mem_of_mem_drop
def UF:=@List.mem_iff_getElem?
def fj:=@List.nodup_append
def Uz:=@List.mem_append
def pd:=@List.append_assoc
def U3:=@Nat.add_zero
def dv:=@Nat.zero_le
def bM:=@List.getElem_mem
def aA:=@List.mem_cons
def eX:=@not_or
def UB:=@List.nodup_cons
def U1:=@Nat.eq_zero_or_pos
def kz:=@List.pairwise_iff_getElem
def V7:=@List.nodup_range
def aG:=@Nat.zero_add
def dH:=@List.mem_filter
def a_:=@Bool.not_eq_true'
def dM:=@Option.isSome_iff_exists
def UP:=@Bool.or_eq_true
def aH:=@List.cons_append
def eF:=@Nat.min_eq_left
def jK:=@Array.foldl_toList
def jg:=@Array.toList_zipIdx
def ai:=@List.map_cons
def kT:=@Option.bind_some
def VG:=@List.mapM_cons
def mU:=@Array.mem_of_getElem?
def fw:=@List.mem_or_eq_of_mem_set
def Vz:=@Nat.mul_comm
def lI:=@Nat.mul_add_mod
def kU:=@Nat.mod_eq_of_lt
def jL:=@Nat.lt_or_gt_of_ne
def UI:=@Option.bind_eq_some_iff
def je:=@Array.eq_empty_of_size_eq_zero
def Uq:=@decide_eq_true_eq
def iw:=@List.length_replicate
def Vv:=@Int.toNat_of_nonneg
def nt:=@Bool.or_false
def jU:=@Bool.false_or
def dw:=@List.mem_iff_getElem
def cZ:=@beq_iff_eq
def dI:=@Classical.byContradiction
def aJ:=@List.length_nil
def aL:=@List.nil_append
def Wg:=@Array.size_append
def Wh:=@List.size_toArray
def cW:=@Nat.add_mul
def jM:=@Option.isSome_none
def eQ:=@List.take_take
def UJ:=@List.map_map
def mV:=@Array.extract_extract
def mD:=@Bool.and_assoc
def fL:=@Bool.and_true
def kc:=@List.flatten_cons
def cV:=@List.drop_eq_nil_of_le
def aM:=@List.drop_eq_getElem_cons
def cT:=@Option.some.inj
def cq:=@List.range'_succ
def bp:=@List.drop_zero
def dO:=@List.range_eq_range'
def av:=@List.length_cons
def mu:=@List.range_succ_eq_map
def mX:=@List.filter_filterMap
def mY:=@List.filterMap_filter
def fo:=@List.range'_append_1
def jN:=@List.filter_append
def ig:=@List.filter_cons
def gd:=@List.filter_congr
def VM:=@List.mem_range'_1
def fp:=@List.mem_range
def fC:=@List.any_eq_true
def e_:=@List.contains_iff_mem
def bj:=@List.mem_map
def V2:=@Bool.not_true
def jh:=@Bool.not_false
def U2:=@Nat.eq_of_beq_eq_true
def mv:=@List.filter_eq_nil_iff
def fZ:=@List.length_pos_of_mem
def iX:=@List.Pairwise.filter
def mw:=@List.pairwise_lt_range
def gq:=@List.length_filter_le
def bA:=@List.mem_cons_of_mem
def nW:=@dif_pos
def Xm:=@Option.ext
def kA:=@Array.mapM_eq_mapM_toList
def yi:=@UInt8.toNat_inj
def ye:=@UInt8.toNat_ofNat_of_lt'
def WA:=@Option.map_eq_none_iff
def UA:=@List.not_mem_nil
def dU:=@or_false
def da:=@List.map_take
def lf:=@Bool.eq_false_or_eq_true
def iR:=@Bool.eq_iff_iff
def oR:=@Nat.le_of_lt
def UX:=@Bool.true_and
def nu:=@Bool.and_self
def US:=@Bool.and_eq_false_imp
def oS:=@List.any_map
def V8:=@Bool.not_eq_true
def UC:=@of_decide_eq_true
def fq:=@Bool.or_eq_false_iff
def dj:=@List.getElem_of_mem
def cU:=@List.length_map
def VN:=@true_and
def gP:=@List.map_id
def cL:=@List.map_congr_left
def mE:=@Prod.ext
def lJ:=@List.countP_set
def jO:=@List.countP_append
def eK:=@Prod.mk.injEq
def ix:=@List.countP_eq_length
def gF:=@List.length_take
def cK:=@List.length_set
def dn:=@Int.natCast_inj
def cz:=@List.map_set
def aF:=@List.take_of_length_le
def mZ:=@List.set_getElem_self
def fG:=@List.drop_succ_cons
def eg:=@List.take_length
def cQ:=@Nat.add_sub_cancel
def fx:=@Nat.sub_self
def Va:=@List.singleton_append
def bB:=@List.map_append
def bF:=@List.set_cons_succ
def bT:=@List.set_cons_zero
def gH:=@List.drop_length
def lK:=@List.filter_cons_of_neg
def lL:=@List.filter_cons_of_pos
def VO:=@List.Pairwise.map
def gI:=@List.map_fst_zip
def gJ:=@List.map_snd_zip
def eG:=@List.of_mem_zip
def dk:=@List.tail_cons
def lM:=@List.length_eq_zero_iff
def gu:=@List.countP_le_length
def kd:=@List.countP_congr
def iy:=@List.length_eq_countP_add_countP
def jG:=@List.countP_eq_length_filter
def lg:=@List.contains_eq_any_beq
def lh:=@List.Nodup.mem_erase_iff
def lj:=@List.length_erase_of_mem
def fD:=@Nat.max_eq_right
def WE:=@List.eq_nil_or_concat
def WG:=@List.concat_eq_append
def Vb:=@List.countP_replicate
def Vw:=@List.foldl_cons
def jj:=@List.getD_cons_succ
def ib:=@List.zipWith_cons_cons
def dK:=@List.sum_cons
def my:=@List.zipWith_nil_right
def V_:=@List.sum_nil
def gf:=@not_true_eq_false
def kW:=@List.suffix_refl
def dV:=@List.cons.injEq
def jP:=@Bool.not_eq_false'
def jk:=@List.sum_append_nat
def Vm:=@List.take_append_drop
def bV:=@Int.natCast_add
def mF:=@List.take_zero
def lN:=@Array.toList_eq_nil_iff
def fT:=@List.map_inj_right
def VP:=@and_true
def iz:=@Classical.choose_spec
def ke:=@Int.toNat_natCast
def lO:=@Classical.axiomOfChoice
def cG:=@List.take_add_one
def Wa:=@Nat.min_self
def iA:=@List.set_append_right
def gK:=@List.getElem_map
def nX:=@and_false
def nY:=@false_and
def jl:=@List.drop_append_of_le_length
def kD:=@Nat.add_comm
def eR:=@List.length_pos_iff
def oU:=@Bool.not_and
def VQ:=@Classical.not_not
def ql:=@Nat.max_le
def Wx:=@List.append_inj
def Vj:=@List.take_append_of_le_length
def wQ:=@List.drop_of_length_le
def UH:=@List.mem_map_of_mem
def wL:=@List.eq_of_mem_replicate
def kX:=@List.ext_getElem
def eh:=@List.perm_middle
def kf:=@List.perm_append_singleton
def mz:=@List.getElem_cons_succ
def lQ:=@List.eraseIdx_cons_succ
def UY:=@List.perm_iff_count
def lR:=@List.count_cons
def U7:=@List.count_append
def kY:=@List.getElem_set
def yd:=@List.filter_eq_self
def wK:=@Nat.pos_of_ne_zero
def jq:=@Function.comp_apply
def iK:=@Int.add_zero
def ik:=@List.mem_reverse
def kZ:=@List.map_reverse
def gv:=@UInt8.le_iff_toNat_le
def VH:=@Bool.false_and
def kg:=@List.any_eq_false
def jm:=@List.take_succ_cons
def jn:=@List.length_reverse
def jo:=@Nat.mul_le_mul
def o7:=@Nat.mul_add
def eY:=@Nat.le_mul_self
def Wv:=@Nat.add_right_cancel_iff
def VA:=@Nat.mul_succ
theorem fW:((0:Nat):Int)=0:=rfl
theorem WW:((1:Nat):Int)=1:=rfl
theorem MM:((11:Nat):Int)=11:=rfl
theorem KL:((121:Nat):Int)=121:=rfl
theorem KM:((141:Nat):Int)=141:=rfl
theorem Eo:((150:Nat):Int)=150:=rfl
theorem zj:((2:Nat):Int)=2:=rfl
theorem Ue:((200:Nat):Int)=200:=rfl
theorem Pf:((3:Nat):Int)=3:=rfl
theorem Pg:((4:Nat):Int)=4:=rfl
theorem uC:((4000:Nat):Int)=4000:=rfl
theorem Ph:((5:Nat):Int)=5:=rfl
theorem IF:((5000:Nat):Int)=5000:=rfl
theorem Bn:((60:Nat):Int)=60:=rfl
theorem HX:((600:Nat):Int)=600:=rfl
theorem Ug:((80:Nat):Int)=80:=rfl
theorem MN:((90:Nat):Int)=90:=rfl
theorem cC {P:Prop}(h:¬P:=by omega):P=False:=az h
theorem mA {P:Prop}(h:P:=by omega):P=True:=Ur h
section
universe u
theorem gE {α:Type u}{l:List α}{i:Nat}{a:α}(h:l[i]?=some a):∃h:i<l.length,l[i]=a:=List.getElem?_eq_some_iff.1 h
theorem gG {α:Type u}{l:List α}{i:Nat}(h:i<l.length):l[i]?=some l[i]:=List.getElem?_eq_getElem h
inductive PV where
 |b (x:Bool)
 |i (k:IntKind) (n:Int)
 |s (x:List UInt8)
 |sl (ay:List (List PV))
 |pn
 |rF
 |lS
 |ag (cells:List PV)
 |eT (t:Nat) (v:PV)
 deriving Inhabited
inductive AV where
 |p (x:PV)
 |aC
 |undef
 |ptr (id off:Nat)
 |arr (id len gen:Nat)
 |ez (id idx off gen:Nat)
 |rp (cells:List PV)
 |ag (cells:List AV)
 |dF (vs:List AV)
 |fn (f:Nat) (first captured:List AV)
 |eT (t:Nat) (v:AV)
 deriving Inhabited
inductive fE where
 |box (cells:List AV)
 |arr (sz:Nat) (ay:List (List PV)) (gen OJ:Nat)
 deriving Inhabited
abbrev Env:=List (Nat×AV)
abbrev Heap:=List fE
inductive fe where
 |t (n:Nat)
 |k (a:AV)
inductive o8 where
 |int|str|bool|ptr|fn|eT
 |leaves (n:Nat) (ub:List (Nat×Nat))
 deriving DecidableEq
inductive qd where
 |Vo (x:fe)
 |Bo (x:fe)
 |pick (c a b:fe)
 |box (x:fe)
 |new (cells:List AV)
 |build (zero:List AV) (parts:List (Nat×Nat×fe))
 |Wy (sz:Nat) (zero:List PV) (n:Nat) (parts:List (Nat×fe))
 |load (n:Nat) (ag:Bool) (x:fe)
 |store (n:Nat) (a x:fe)
 |Xb (x:fe)
 |bin (op:BinOp) (c:o8) (x y:fe)
 |not (x:fe)
 |neg (x:fe)
 |conv (k:IntKind) (x:fe)
 |iY (x:fe)
 |YL (t:Nat) (x:fe)
 |rG (f:Nat) (first captured:List fe)
 |g7 (sz bytes:Nat) (zero:List PV) (l c:fe)
 |rH (str:Bool) (sz:Nat) (x:fe) (lo hi:Option fe)
 |Ve (off:Nat) (x:fe)
 |field (off n:Nat) (ag:Bool) (x:fe)
 |eC (sz:Nat) (YA:Option Nat) (x i:fe)
 |index (arr:Option (Nat×Nat×Bool)) (x i:fe)
 |extract (x:fe) (i:Nat)
 |call (f:Nat) (args:List fe)
 |callv (x:fe) (args:List fe)
 |len (str:Bool) (x:fe)
 |app (str:Bool) (sz bytes:Nat) (x y:fe)
 |max (args:List fe)
 |min (args:List fe)
 |panic (x:fe)
structure CI where
 d:Option Nat
 o:qd
 g:Option (Nat×Bool)
inductive qK where
 |low (t:Nat)
 |apart (t u:Nat)
 |closed (f:Nat) (ts:List Nat)
 |quiet (f:Nat) (ts:List Nat)
 deriving DecidableEq
inductive aU where
 |skip
 |seq (a b:aU)
 |ops (live:List Nat) (l:List CI)
 |draw (live:List Nat) (news rest:List CI) (chk:List qK)
 |cond (c:fe) (a b:aU)
 |block (id:Nat) (a:aU)
 |loop (live:List Nat) (a:aU)
 |exit (id:Nat)
 |ret
inductive sH where
 |t (n:Nat)
 |cell (a n:Nat) (ag:Bool)
structure bz where
 body:aU
 res:List sH
 zm:Bool
 nZ:Bool
inductive Out where
 |ret (v:AV)
 |iL (v:AV)
inductive Ex where
 |normal|exit (id:Nat)|ret|iL (v:AV)
def lk:Env->Nat->Option AV
 |[],_=>none
 |(k,v)::r,n=>if k=n then some v else lk r n
def put (aN:Env)(d:Option Nat)(v:AV):Env:=match d with|some d=>(d,v)::aN|none=>aN
def U9:List Nat->Env->Env
 |[],_=>[]
 |k::r,aN=>match lk aN k with
  |some v=>(k,v)::U9 r aN
  |none=>U9 r aN
def eH (aN:Env):fe->Option AV
 |.t n=>lk aN n
 |.k a=>some a
def gQ (aN:Env):List fe->Option (List AV)
 |[]=>some []
 |x::r=>match eH aN x with
  |none=>none
  |some v=>match gQ aN r with
   |none=>none
   |some vs=>some (v::vs)
def AV.cells:AV->List AV
 |.ag cs=>cs
 |v=>[v]
def PV.flat:PV->Bool
 |.ag _=>false
 |_=>true
def AV.flat:AV->Bool
 |.ag _|.dF _|.undef=>false
 |.p x=>x.flat
 |_=>true
def aS (sz:Nat)(r:List PV):Bool:=r.length == sz && r.all PV.flat
def bH (sz:Nat)(ay:List (List PV)):Bool:=ay.all (aS sz)
def bP (l:List PV):List AV:=l.map .p
def Vn {α:Type}(l:List α)(off:Nat)(vs:List α):List α:=l.take off++vs++l.drop (off+vs.length)
mutual
def norm (G:Heap):AV->Option (AV×Heap)
 |.p x=>some (.p x,G)
 |.aC=>some (.p (.sl []),G)
 |.arr id len gen=>match G[id]? with
  |some (.arr sz ay g sl)=>if g=gen/\len<=ay.length then some (.p (.sl (ay.take len)),G.set id (.arr sz ay g (Nat.max sl len))) else none
  |_=>none
 |.ag cs=>match Vu G cs with
  |some (vs,G)=>some (.ag vs,G)
  |none=>none
 |.dF cs=>match Vu G cs with
  |some (vs,G)=>some (.dF vs,G)
  |none=>none
 |.eT t v=>match norm G v with
  |some (v,G)=>some (.eT t v,G)
  |none=>none
 |_=>none
def Vu (G:Heap):List AV->Option (List AV×Heap)
 |[]=>some ([],G)
 |a::r=>match norm G a with
  |none=>none
  |some (v,G)=>match Vu G r with
   |none=>none
   |some (vs,G)=>some (v::vs,G)
end
mutual
def Vy:AV->Option PV
 |.p x=>some x
 |.ag cs=>match ee cs with
  |some l=>some (.ag l)
  |none=>none
 |.eT t v=>match Vy v with
  |some v=>some (.eT t v)
  |none=>none
 |_=>none
def ee:List AV->Option (List PV)
 |[]=>some []
 |a::r=>match Vy a with
  |none=>none
  |some v=>match ee r with
   |none=>none
   |some vs=>some (v::vs)
end
def cO (G:Heap)(a:AV):Option (List PV×Heap) :=
 match Vu G a.cells with
 |none=>none
 |some (vs,G)=>match ee vs with
  |none=>none
  |some l=>some (l,G)
def fN (n:Nat)(ag:Bool)(G:Heap):AV->Option AV
 |.ptr id off=>match G[id]? with
  |some (.box cs)=>if ag then (if off+n<=cs.length then some (.ag ((cs.drop off).take n)) else none) else cs[off]?
  |_=>none
 |.rp cs=>if ag then (if n<=cs.length then some (.ag (bP (cs.take n))) else none) else (cs[0]?).map .p
 |.ez id idx off gen=>match G[id]? with
  |some (.arr sz ay g _)=>if g=gen then match ay[idx]? with
    |some row=>if ag then (if off+n<=row.length then some (.ag (bP ((row.drop off).take n))) else none) else (row[off]?).map .p
    |none=>none
   else none
  |_=>none
 |_=>none
def iM (n:Nat)(G:Heap)(a x:AV):Option Heap :=
 if x.cells.length=n then
  match a with
  |.ptr id off=>match G[id]? with
   |some (.box cs)=>if off+n<=cs.length/\x.cells.all AV.flat=true then some (G.set id (.box (Vn cs off x.cells))) else none
   |_=>none
  |.ez id idx off gen=>match cO G x with
   |none=>none
   |some (l,G)=>match G[id]? with
    |some (.arr sz ay g sl)=>if g=gen/\sl<=idx/\l.length=n/\l.all PV.flat=true then match ay[idx]? with
      |some row=>if off+n<=row.length then some (G.set id (.arr sz (ay.set idx (Vn row off l)) g sl)) else none
      |none=>none
     else none
    |_=>none
  |_=>none
 else none
def iB (str:Bool)(G:Heap):AV->Option Int
 |.p (.sl ay)=>if str then none else some ay.length
 |.p (.s l)=>if str then some l.length else none
 |.aC=>if str then none else some 0
 |.arr id len gen=>if str then none else match G[id]? with
  |some (.arr _ _ g _)=>if g=gen then some len else none
  |_=>none
 |_=>none
def fO:AV->Bool
 |.p (.s _)=>true
 |_=>false
def UZ (G:Heap):AV->Option (List (List PV))
 |.p (.sl ay)=>some ay
 |.p (.s l)=>some (l.map λc=>[.i .u8 c.toNat])
 |.aC=>some []
 |.arr id len gen=>match G[id]? with
  |some (.arr sz ay g sl)=>if g=gen/\len<=ay.length then some (ay.take len) else none
  |_=>none
 |_=>none
def bytesOf:List (List PV)->Option (List UInt8)
 |[]=>some []
 |[.i .u8 n]::r=>match bytesOf r with
  |some l=>some (UInt8.ofNat n.toNat::l)
  |none=>none
 |_=>none
def bZ (n bytes:Nat):Bool:=n * bytes<=2 ^ 40 && n<=2 ^ 40
def cX (str:Bool)(sz bytes:Nat)(G:Heap)(x y:AV):Option (AV×Heap) :=
 match (if fO y == str then UZ G y else none) with
 |none=>none
 |some new=>if bH sz new=true then match x with
  |.aC=>match new with
   |[]=>some (.aC,G)
   |_::_=>if bZ new.length bytes then some (.arr G.length new.length 0,G++[.arr sz new 0 0]) else none
  |.arr id len gen=>match G[id]? with
   |some (.arr sz' ay g sl) =>
    if g=gen/\sl<=len/\len<=ay.length/\sz'=sz/\bZ (len+new.length) bytes then
     some (.arr id (len+new.length) (g+1),G.set id (.arr sz (ay.take len++new) (g+1) sl))
    else none
   |_=>none
  |_=>none
  else none
def oV (op:BinOp)(c:o8)(x y:AV):Option AV :=
 match c,x,y with
 |.int,.p (.i k a),.p (.i k' b)=>if k=k' then
   match op with
   |.add=>some (.p (.i k (k.wrap (a+b))))
   |.sub=>some (.p (.i k (k.wrap (a-b))))
   |.mul=>some (.p (.i k (k.wrap (a * b))))
   |.quo=>if b=0 then none else some (.p (.i k (k.wrap (a.tdiv b))))
   |.rem=>if b=0 then none else some (.p (.i k (a.tmod b)))
   |.eql=>some (.p (.b (decide (a=b))))
   |.neq=>some (.p (.b (!decide (a=b))))
   |.lss=>some (.p (.b (decide (a<b))))
   |.leq=>some (.p (.b (decide (a<=b))))
   |.gtr=>some (.p (.b (decide (b<a))))
   |.geq=>some (.p (.b (decide (b<=a))))
   |_=>none
  else none
 |.str,.p (.s a),.p (.s b)=>match op with
   |.add=>if bZ (a.length+b.length) 1 then some (.p (.s (a++b))) else none
   |.eql=>some (.p (.b (decide (a=b))))
   |.neq=>some (.p (.b (!decide (a=b))))
   |.lss=>some (.p (.b (Op.bytesLess a b)))
   |.leq=>some (.p (.b (Op.bytesLess a b || decide (a=b))))
   |.gtr=>some (.p (.b (!(Op.bytesLess a b || decide (a=b)))))
   |.geq=>some (.p (.b (!Op.bytesLess a b)))
   |_=>none
 |.bool,.p (.b a),.p (.b b)=>match op with
   |.eql=>some (.p (.b (a == b)))
   |.neq=>some (.p (.b (!(a == b))))
   |_=>none
 |_,_,_=>none
def jr:Nat->PV->PV->Option Bool
 |0,.b x,.b y=>some (x == y)
 |1,.i k x,.i k' y=>if k=k' then some (decide (x=y)) else none
 |2,.s x,.s y=>some (decide (x=y))
 |_,_,_=>none
def Ys:List (Nat×Nat)->List AV->List AV->Option Bool
 |[],_,_=>some true
 |(o,k)::r,xs,ys=>match xs[o]?,ys[o]? with
  |some (.p x),some (.p y)=>match jr k x y with
   |none=>none
   |some e=>match Ys r xs ys with
    |none=>none
    |some e'=>some (e && e')
  |_,_=>none
def mG:o8->AV->AV->Option Bool
 |.eT,.p .lS,.p .lS=>some true
 |.eT,.p .lS,.eT _ _|.eT,.eT _ _,.p .lS|.eT,.p .lS,.p (.eT _ _)|.eT,.p (.eT _ _),.p .lS=>some false
 |.ptr,.p .pn,.p .pn=>some true
 |.ptr,.p .pn,.ptr _ _|.ptr,.ptr _ _,.p .pn=>some false
 |.fn,.p .rF,.p .rF=>some true
 |.fn,.p .rF,.fn _ _ _|.fn,.fn _ _ _,.p .rF=>some false
 |_,_,_=>none
def Wr (op:BinOp)(r:Option Bool):Option AV :=
 match r with
 |none=>none
 |some e=>match op with
  |.eql=>some (.p (.b e))
  |.neq=>some (.p (.b (!e)))
  |_=>none
def lT (zero:List AV):List (Nat×Nat×AV)->Option (List AV)
 |[]=>some zero
 |(off,n,v)::r=>if v.cells.length=n/\off+n<=zero.length/\v.cells.all AV.flat=true then lT (Vn zero off v.cells) r else none
def jQ (sz:Nat)(G:Heap)(x:AV)(lo hi:Option Int):Option (AV×Heap) :=
 match x with
 |.p (.s l)=>let h:=hi.getD l.length;let o:=lo.getD 0
  if 0<=o/\o<=h/\h<=l.length then some (.p (.s ((l.take h.toNat).drop o.toNat)),G) else none
 |.p (.sl l)=>let h:=hi.getD l.length;let o:=lo.getD 0
  if 0<=o/\o<=h/\h<=l.length/\bH sz l=true then some (.p (.sl ((l.take h.toNat).drop o.toNat)),G) else none
 |.aC=>let h:=hi.getD 0;let o:=lo.getD 0
  if o=0/\h=0 then some (.aC,G) else none
 |.arr id len gen=>match G[id]? with
  |some (.arr sz' ay g sl)=>let h:=hi.getD len;let o:=lo.getD 0
   if g=gen/\sz'=sz/\0<=o/\o<=h/\h<=len/\len<=ay.length then
    if o=0 then some (.arr id h.toNat gen,G)
    else some (.p (.sl ((ay.take h.toNat).drop o.toNat)),G.set id (.arr sz' ay g (Nat.max sl len)))
   else none
  |_=>none
 |_=>none
def asInt:AV->Option Int
 |.p (.i _ n)=>some n
 |_=>none
def eP (ids:List Nat)(id:Nat):Option Nat :=
 match ids with
 |[]=>none
 |x::r=>if x=id then some 0 else (eP r id).map (·+1)
structure fI where
 ids:List Nat
 G:Heap
def fI.id (e:fI)(id:Nat):Nat×fI:=match eP e.ids id with
 |some k=>(k,e)
 |none=>(e.ids.length,{ e with ids:=e.ids++[id] })
mutual
def exp (bq:Bool)(e:fI):AV->Option (AV×fI)
 |.p x=>some (.p x,e)
 |.aC=>if bq then some (.aC,e) else some (.p (.sl []),e)
 |.undef=>some (.undef,e)
 |.rp cs=>some (.rp cs,e)
 |.arr id len gen=>if bq then let (k,e):=e.id id;some (.arr k len gen,e) else match norm e.G (.arr id len gen) with
  |some (v,G)=>some (v,{ e with G:=G })
  |none=>none
 |.ptr id off=>let (k,e):=e.id id;some (.ptr k off,e)
 |.ez id idx off gen=>let (k,e):=e.id id;some (.ez k idx off gen,e)
 |.ag cs=>match aQ bq e cs with
  |some (vs,e)=>some (.ag vs,e)
  |none=>none
 |.dF cs=>match aQ bq e cs with
  |some (vs,e)=>some (.dF vs,e)
  |none=>none
 |.fn f first aV=>match aQ true e first with
  |none=>none
  |some (first,e)=>match aQ true e aV with
   |none=>none
   |some (aV,e)=>some (.fn f first aV,e)
 |.eT t v=>match exp bq e v with
  |some (v,e)=>some (.eT t v,e)
  |none=>none
def aQ (bq:Bool)(e:fI):List AV->Option (List AV×fI)
 |[]=>some ([],e)
 |a::r=>match exp bq e a with
  |none=>none
  |some (v,e)=>match aQ bq e r with
   |none=>none
   |some (vs,e)=>some (v::vs,e)
end
def UG:Nat->fI->Nat->Option (Heap×fI)
 |0,e,k=>if k<e.ids.length then none else some ([],e)
 |fuel+1,e,k=>match e.ids[k]? with
  |none=>some ([],e)
  |some id=>match e.G[id]? with
   |none=>none
   |some (.arr sz ay g sl)=>match UG fuel e (k+1) with
    |none=>none
    |some (os,e)=>some (.arr sz ay g sl::os,e)
   |some (.box cs)=>match aQ true e cs with
    |none=>none
    |some (cs,e)=>match UG fuel e (k+1) with
     |none=>none
     |some (os,e)=>some (.box cs::os,e)
def UL (ids:List Nat)(aK:Nat)(id:Nat):Nat:=(ids[id]?).getD (aK+(id-ids.length))
mutual
def back (ids:List Nat)(aK:Nat):AV->AV
 |.arr id len gen=>.arr (UL ids aK id) len gen
 |.ptr id off=>.ptr (UL ids aK id) off
 |.ez id idx off gen=>.ez (UL ids aK id) idx off gen
 |.ag cs=>.ag (dh ids aK cs)
 |.dF cs=>.dF (dh ids aK cs)
 |.fn f a b=>.fn f (dh ids aK a) (dh ids aK b)
 |.eT t v=>.eT t (back ids aK v)
 |a=>a
def dh (ids:List Nat)(aK:Nat):List AV->List AV
 |[]=>[]
 |a::r=>back ids aK a::dh ids aK r
end
mutual
def bf (n:Nat):AV->Bool
 |.arr id _ _|.ptr id _|.ez id _ _ _=>Nat.blt id n
 |.ag cs=>cH n cs
 |.dF cs=>cH n cs
 |.fn _ a b=>cH n a && cH n b
 |.eT _ v=>bf n v
 |_=>true
def cH (n:Nat):List AV->Bool
 |[]=>true
 |a::r=>bf n a && cH n r
end
def bD (ids:List Nat)(aK:Nat):fE->fE
 |.box cs=>.box (dh ids aK cs)
 |.arr sz ay g sl=>.arr sz ay g sl
def ym (n:Nat):fE->Bool
 |.box cs=>cH n cs
 |.arr _ _ _ _=>true
def b_ (ids:List Nat)(aK:Nat):Heap->List Nat->Heap->Heap
 |G,id::r,o::os=>b_ ids aK (G.set id (bD ids aK o)) r os
 |G,_,_=>G
def Out.back (ids:List Nat)(aK:Nat):Out->Out
 |.ret v=>.ret (Z.back ids aK v)
 |.iL v=>.iL (Z.back ids aK v)
def Out.bf (n:Nat):Out->Bool
 |.ret v=>Z.bf n v
 |.iL v=>Z.bf n v
abbrev di:=Nat->List AV->Heap->Option (Out×Heap)
abbrev js:=Nat->List Nat->aU->Env->Heap->Option (Ex×Env×Heap)
structure fX where
 code:Nat->Option bz
 Xa:Nat->Option (List AV->Option (Out×Heap))
 quiet:Nat->Bool
def bC (pg:fX)(f:Nat):Bool:=match pg.code f with
 |some c=>c.zm
 |none=>false
def UM (pg:fX)(call:di)(f:Nat)(args:List AV)(G:Heap):Option (Out×Heap) :=
 match aQ (bC pg f) ⟨[],G⟩ args with
 |none=>none
 |some (args,e)=>match UG (G.length+1) e 0 with
  |none=>none
  |some (os,e)=>match call f args os with
   |none=>none
   |some (out,os')=>some (out.back e.ids e.G.length,b_ e.ids e.G.length e.G e.ids os'++(os'.drop e.ids.length).map (bD e.ids e.G.length))
inductive jV where
 |val (v:AV) (G:Heap)
 |iL (v:AV) (G:Heap)
def jV.of:Option (Out×Heap)->Option jV
 |some (.ret v,G)=>some (.val v G)
 |some (.iL v,G)=>some (.iL v G)
 |none=>none
def one (G:Heap):Option AV->Option jV
 |some v=>some (.val v G)
 |none=>none
def qL (a b:Int):Int:=if b > a then b else a
def Dn (a b:Int):Int:=if b<a then b else a
def Uu (pg:fX)(call:di)(o:qd)(aN:Env)(G:Heap):Option jV :=
 match o with
 |.Vo x=>one G (eH aN x)
 |.Bo x=>match eH aN x with
  |some (.p (.s l))=>some (.val (.p (.s l)) G)
  |_=>none
 |.pick c a b=>match eH aN c with
  |some (.p (.b c))=>if c then one G (eH aN a) else one G (eH aN b)
  |_=>none
 |.box x=>match eH aN x with
  |some v=>if v.cells.all AV.flat=true then some (.val (.ptr G.length 0) (G++[.box v.cells])) else none
  |none=>none
 |.new cs=>if cs.all AV.flat=true then some (.val (.ptr G.length 0) (G++[.box cs])) else none
 |.build zero parts=>match gQ aN (parts.map (·.2.2)) with
  |none=>none
  |some vs=>match lT zero ((parts.zip vs).map fun (p,v)=>(p.1,p.2.1,v)) with
   |none=>none
   |some cs=>some (.val (.ag cs) G)
 |.Wy sz zero n parts=>if aS sz zero=true/\1<=sz then match gQ aN (parts.map (·.2)) with
  |none=>none
  |some vs=>match Uv sz (List.replicate n zero) G ((parts.zip vs).map fun (p,v)=>(p.1,v)) with
   |none=>none
   |some (ay,G)=>some (.val (.arr G.length n 0) (G++[.arr sz ay 0 0]))
  else none
 |.load n ag x=>match eH aN x with
  |some a=>one G (fN n ag G a)
  |none=>none
 |.store n a x=>match eH aN a,eH aN x with
  |some a,some x=>match iM n G a x with
   |some G=>some (.val .undef G)
   |none=>none
  |_,_=>none
 |.Xb x=>match eH aN x with
  |some (.ptr id off)=>some (.val (.ptr id off) G)
  |some (.ez id idx off gen)=>some (.val (.ez id idx off gen) G)
  |some (.rp cs)=>some (.val (.rp cs) G)
  |some (.fn f a b)=>some (.val (.fn f a b) G)
  |_=>none
 |.bin op c x y=>match eH aN x,eH aN y with
  |some x,some y=>match c with
   |.ptr=>one G (Wr op (mG .ptr x y))
   |.fn=>one G (Wr op (mG .fn x y))
   |.eT=>one G (Wr op (mG .eT x y))
   |.leaves n ub=>match x,y with
    |.ag x,.ag y=>if x.length=n/\y.length=n then one G (Wr op (Ys ub x y)) else none
    |_,_=>none
   |c=>one G (oV op c x y)
  |_,_=>none
 |.not x=>match eH aN x with
  |some (.p (.b x))=>some (.val (.p (.b (!x))) G)
  |_=>none
 |.neg x=>match eH aN x with
  |some (.p (.i k n))=>some (.val (.p (.i k (k.wrap (0-n)))) G)
  |_=>none
 |.conv k x=>match eH aN x with
  |some (.p (.i _ n))=>some (.val (.p (.i k (k.wrap n))) G)
  |_=>none
 |.iY x=>match eH aN x with
  |some x=>match (if fO x then none else (UZ G x).bind bytesOf) with
   |some l=>some (.val (.p (.s l)) G)
   |none=>none
  |none=>none
 |.YL t x=>match eH aN x with
  |some v=>some (.val (.eT t v) G)
  |none=>none
 |.rG f a b=>match gQ aN a,gQ aN b with
  |some a,some b=>some (.val (.fn f a b) G)
  |_,_=>none
 |.g7 sz bytes zero l c=>match eH aN l,eH aN c with
  |some (.p (.i .i64 l)),some (.p (.i .i64 c))=>if 0<=l/\l<=c/\bZ c.toNat bytes/\aS sz zero=true/\1<=sz then
    some (.val (.arr G.length l.toNat 0) (G++[.arr sz (List.replicate l.toNat zero) 0 0])) else none
  |_,_=>none
 |.rH str sz x lo hi=>match eH aN x with
  |none=>none
  |some x=>if fO x == str then match (match lo with|none=>some none|some o=>((eH aN o).bind asInt).map some),(match hi with|none=>some none|some o=>((eH aN o).bind asInt).map some) with
   |some lo,some hi=>match jQ sz G x lo hi with
    |some (v,G)=>some (.val v G)
    |none=>none
   |_,_=>none
   else none
 |.Ve off x=>match eH aN x with
  |some (.ptr id o)=>some (.val (.ptr id (o+off)) G)
  |some (.ez id idx o gen)=>some (.val (.ez id idx (o+off) gen) G)
  |some (.rp cs)=>some (.val (.rp (cs.drop off)) G)
  |_=>none
 |.field off n ag x=>match eH aN x with
  |some (.ag cs)=>if ag then (if off+n<=cs.length then some (.val (.ag ((cs.drop off).take n)) G) else none) else one G cs[off]?
  |_=>none
 |.eC sz YA x i=>match eH aN x,eH aN i with
  |some x,some (.p (.i _ i))=>match YA with
   |some n=>match x with
    |.ptr id o=>if 0<=i/\i<n then some (.val (.ptr id (o+i.toNat * sz)) G) else none
    |.rp cs=>if 0<=i/\i<n then some (.val (.rp (cs.drop (i.toNat * sz))) G) else none
    |_=>none
   |none=>match x with
    |.p (.sl ay)=>if 0<=i then match ay[i.toNat]? with
      |some row=>if aS sz row=true then some (.val (.rp row) G) else none
      |none=>none
     else none
    |.arr id len gen=>match G[id]? with
     |some (.arr sz' ay g _)=>if 0<=i/\i<len/\g=gen/\sz'=sz/\len<=ay.length then some (.val (.ez id i.toNat 0 gen) G) else none
     |_=>none
    |_=>none
  |_,_=>none
 |.index arr x i=>match eH aN x,eH aN i with
  |some x,some (.p (.i _ i))=>match arr,x with
   |some (len,n,ag),.ag cs=>if 0<=i/\i<len then
     (if ag then (if i.toNat * n+n<=cs.length then some (.val (.ag ((cs.drop (i.toNat * n)).take n)) G) else none) else one G cs[i.toNat * n]?) else none
   |none,.p (.s l)=>if 0<=i then match l[i.toNat]? with
     |some c=>some (.val (.p (.i .u8 c.toNat)) G)
     |none=>none
    else none
   |_,_=>none
  |_,_=>none
 |.extract x i=>match eH aN x with
  |some (.dF vs)=>one G vs[i]?
  |_=>none
 |.call f args=>match gQ aN args with
  |some args=>jV.of (UM pg call f args G)
  |none=>none
 |.callv x args=>match eH aN x,gQ aN args with
  |some (.fn f first aV),some args=>jV.of (UM pg call f (first++args++aV) G)
  |_,_=>none
 |.len str x=>match eH aN x with
  |some x=>match iB str G x with
   |some n=>some (.val (.p (.i .i64 n)) G)
   |none=>none
  |none=>none
 |.app str sz bytes x y=>match eH aN x,eH aN y with
  |some x,some y=>match cX str sz bytes G x y with
   |some (v,G)=>some (.val v G)
   |none=>none
  |_,_=>none
 |.max args=>match gQ aN args with
  |some [.p (.i k a),.p (.i _ b)]=>some (.val (.p (.i k (qL a b))) G)
  |_=>none
 |.min args=>match gQ aN args with
  |some [.p (.i k a),.p (.i _ b)]=>some (.val (.p (.i k (Dn a b))) G)
  |_=>none
 |.panic x=>match eH aN x with
  |some (.eT t v)=>match norm G (.eT t v) with
   |some (v,G)=>some (.iL v G)
   |none=>none
  |some (.p (.eT t v))=>some (.iL (.p (.eT t v)) G)
  |_=>none
where
 Uv (sz:Nat) (ay:List (List PV)) (G:Heap):List (Nat×AV)->Option (List (List PV)×Heap)
  |[]=>some (ay,G)
  |(i,v)::r=>match cO G v with
   |none=>none
   |some (l,G)=>if aS sz l=true/\i<ay.length then Uv sz (ay.set i l) G r else none
def o9 (e:fI):Env->Option (Env×fI)
 |[]=>some ([],e)
 |(k,a)::r=>match exp true e a with
  |none=>none
  |some (a,e)=>match o9 e r with
   |none=>none
   |some (aN,e)=>some ((k,a)::aN,e)
def gc (aK:Nat)(live:List Nat)(aN:Env)(G:Heap):Option (Env×Heap) :=
 match o9 ⟨List.range aK,G⟩ (U9 live aN) with
 |none=>none
 |some (aN,e)=>match UG (G.length+1) e 0 with
  |none=>none
  |some (os,_)=>some (aN,os)
def tu (aN:Env):Option (Nat×Bool)->Option Bool
 |none=>some true
 |some (t,want)=>match lk aN t with
  |some (.p (.b b))=>some (b == want)
  |some _=>some false
  |none=>none
def dP (pg:fX)(call:di):List CI->Env->Heap->Option (Ex×Env×Heap)
 |[],aN,G=>some (.normal,aN,G)
 |i::r,aN,G=>match tu aN i.g with
  |none=>none
  |some false=>dP pg call r (put aN i.d .undef) G
  |some true=>match Uu pg call i.o aN G with
   |none=>none
   |some (.val v G)=>dP pg call r (put aN i.d v) G
   |some (.iL v G)=>some (.iL v,aN,G)
def Vc:AV->List Nat
 |.ptr id _|.arr id _ _|.ez id _ _ _=>[id]
 |_=>[]
mutual
def gC:AV->Bool
 |.ptr _ _|.ez _ _ _ _=>false
 |.ag cs=>eU cs
 |.dF cs=>eU cs
 |.fn _ a b=>cH 0 a && cH 0 b
 |.eT _ v=>gC v
 |_=>true
def eU:List AV->Bool
 |[]=>true
 |a::r=>gC a && eU r
end
def eu (aN:Env)(t:Nat):Bool:=match lk aN t with
 |some v=>gC v
 |none=>true
def uc:qd->Bool
 |.Vo _|.Bo _|.pick _ _ _|.build _ _|.Xb _|.bin _ _ _ _|.not _|.neg _|.conv _ _|.YL _ _|.rG _ _ _|.Ve _ _|.field _ _ _ _|.index _ _ _|.extract _ _|.max _|.min _=>true
 |.load _ _ (.t _)|.len _ (.t _)|.eC _ _ (.t _) _|.iY (.t _)=>true
 |.box _|.new _=>true
 |_=>false
def gR (ok:Nat->Bool)(own:List Nat)(i:CI):Option (List Nat) :=
 match i.o,i.d with
 |.call f _,none=>if ok f then some own else none
 |.call f _,some d=>if ok f then some (own.filter λx=>!Nat.beq x d) else none
 |.box _,some d=>some (d::own)
 |.new _,some d=>some (d::own)
 |.Wy _ _ _ _,some d=>some (d::own)
 |.app _ _ _ (.t x) _,some d=>if own.contains x then some (d::own) else none
 |.Vo (.t x),some d=>if own.contains x then some (d::own) else some (own.filter λx=>!Nat.beq x d)
 |.Vo (.k a),some d=>if bf 0 a then some (d::own) else some (own.filter λx=>!Nat.beq x d)
 |.store _ (.t d) _,none=>if own.contains d then some own else none
 |o,none=>if uc o then some own else none
 |o,some d=>if uc o then some (own.filter λx=>!Nat.beq x d) else none
def uD (ok:Nat->Bool):List Nat->List CI->Option (List Nat)
 |own,[]=>some own
 |own,i::r=>match gR ok own i with
  |none=>none
  |some own=>uD ok own r
def il (id:Nat):aU->Bool
 |.seq a b=>il id a && il id b
 |.cond _ a b=>il id a && il id b
 |.block _ a=>il id a
 |.loop _ a=>il id a
 |.exit j=>!Nat.beq j id
 |_=>true
def VR (ok:Nat->Bool):List Nat->aU->Option (List Nat)
 |own,.skip|own,.ret|own,.exit _=>some own
 |own,.seq a b=>match VR ok own a with
  |none=>none
  |some own=>VR ok own b
 |own,.cond _ a b=>match VR ok own a,VR ok own b with
  |some o1,some o2=>some (o1.filter λx=>o2.contains x)
  |_,_=>none
 |own,.block id a=>match VR ok own a with
  |some o=>if il id a then some o else some []
  |none=>none
 |own,.ops _ l=>uD ok own l
 |own,.draw _ n r _=>match uD ok own n with
  |none=>none
  |some own=>uD ok own r
 |own,.loop _ a=>match VR ok own a with
  |some o=>if own.all (λx=>o.contains x) then some [] else none
  |none=>none
def kh (pg:fX):Nat->Nat->Bool
 |0,_=>false
 |n+1,f=>match pg.Xa f,pg.code f with
  |none,some c=>(VR (kh pg n) [] c.body).isSome
  |_,_=>false
def qe (pg:fX)(f:Nat):Bool:=kh pg 3 f
def qM (aN:Env)(t:Nat):Bool:=match lk aN t with
 |some v=>bf 0 v
 |none=>true
def mI (pg:fX)(f:Nat):Bool:=match pg.Xa f with
 |some _=>pg.quiet f
 |none=>match pg.code f with
  |some c=>!c.nZ
  |none=>false
def VS (pg:fX)(aN:Env)(n:Nat):qK->Bool
 |.low t=>match lk aN t with
  |some v=>(Vc v).all λid=>Nat.blt id n
  |none=>true
 |.apart t u=>match lk aN t,lk aN u with
  |some v,some w=>(Vc v).all λi=>(Vc w).all λj=>!Nat.beq i j
  |_,_=>true
 |.closed f ts=>qe pg f || (!bC pg f && ts.all (eu aN))
 |.quiet f ts=>mI pg f && !bC pg f && ts.all (qM aN)
def bo (pg:fX)(call:di)(loop:js)(aK:Nat):aU->Env->Heap->Option (Ex×Env×Heap)
 |.skip,aN,G=>some (.normal,aN,G)
 |.ret,aN,G=>some (.ret,aN,G)
 |.exit id,aN,G=>some (.exit id,aN,G)
 |.seq a b,aN,G=>match bo pg call loop aK a aN G with
  |some (.normal,aN,G)=>bo pg call loop aK b aN G
  |r=>r
 |.ops live l,aN,G=>match dP pg call l aN G with
  |some (.normal,aN,G)=>some (.normal,U9 live aN,G)
  |r=>r
 |.draw live news rest chk,aN,G=>match dP pg call news aN G with
  |some (.normal,aN,G)=>match dP pg call rest aN G with
   |some (.normal,UO,G')=>if chk.all (VS pg UO G.length)=true then some (.normal,U9 live UO,G') else none
   |_=>none
  |_=>none
 |.cond c a b,aN,G=>match eH aN c with
  |some (.p (.b x))=>if x then bo pg call loop aK a aN G else bo pg call loop aK b aN G
  |_=>none
 |.block id a,aN,G=>match bo pg call loop aK a aN G with
  |some (.exit id',aN,G)=>if id'=id then some (.normal,aN,G) else some (.exit id',aN,G)
  |r=>r
 |.loop live a,aN,G=>match gc aK live aN G with
  |some (aN,G)=>loop aK live a aN G
  |none=>none
def sE (k:Nat):List AV->Env
 |[]=>[]
 |a::r=>(k,a)::sE (k+1) r
def VI (aN:Env)(G:Heap):List sH->Option (List AV)
 |[]=>some []
 |.t n::r=>match lk aN n with
  |none=>none
  |some v=>match VI aN G r with
   |none=>none
   |some vs=>some (v::vs)
 |.cell a n ag::r=>match lk aN a with
  |none=>none
  |some p=>match fN n ag G p with
   |none=>none
   |some v=>match VI aN G r with
    |none=>none
    |some vs=>some (v::vs)
def VT:List AV->AV
 |[v]=>v
 |vs=>.dF vs
def aj (aK:Nat)(o:Out)(G:Heap):Option (Out×Heap) :=
 if o.bf aK && (G.take aK).all (ym aK) then some (o,G.take aK) else none
def ic (pg:fX)(call:di)(loop:js)(c:bz)(args:List AV)(G:Heap):Option (Out×Heap) :=
 match bo pg call loop G.length c.body (sE 0 args) G with
 |some (.iL v,_,G')=>aj G.length (.iL v) G'
 |some (.exit _,_,_)=>none
 |some (_,aN,G')=>match VI aN G' c.res with
  |none=>none
  |some vs=>if c.nZ then some (.ret (VT vs),G') else match norm G' (VT vs) with
   |some (v,G')=>aj G.length (.ret v) G'
   |none=>none
 |none=>none
mutual
def dr (pg:fX):Nat->di
 |0,_,_,_=>none
 |n+1,f,args,G=>match pg.Xa f with
  |some F=>match G with
   |[]=>F args
   |_::_=>none
  |none=>match pg.code f with
   |some c=>ic pg (dr pg n) (ew pg n) c args G
   |none=>none
def ew (pg:fX):Nat->js
 |0,_,_,_,_,_=>none
 |n+1,aK,live,a,aN,G=>match bo pg (dr pg n) (ew pg n) aK a aN G with
  |some (.normal,aN,G)=>match gc aK live aN G with
   |some (aN,G)=>ew pg n aK live a aN G
   |none=>none
  |r=>r
end
end
section
mutual
def VJ:Value->Option AV
 |.bool x=>some (.p (.b x))
 |.int k n=>some (.p (.i k n))
 |.string s=>some (.p (.s s.data.toList))
 |.pointer none=>some (.p .pn)
 |.slice none 0 0=>some .aC
 |.nilFunc=>some (.p .rF)
 |.nilIface=>some (.p .lS)
 |.agg ⟨cs⟩=>match sI cs with
  |some l=>some (.ag l)
  |none=>none
 |_=>none
def sI:List Value->Option (List AV)
 |[]=>some []
 |v::r=>match VJ v with
  |none=>none
  |some a=>match sI r with
   |none=>none
   |some l=>some (a::l)
end
def Yj:AV->Option PV
 |.p x=>some x
 |.aC=>some (.sl [])
 |_=>none
def WH:List AV->Option (List PV)
 |[]=>some []
 |v::r=>match Yj v with
  |none=>none
  |some a=>match WH r with
   |none=>none
   |some l=>some (a::l)
def cY:Operand->Option fe
 |.tmp t=>some (.t t)
 |.const v=>(VJ v).map .k
 |.func f=>some (.k (.fn f [] []))
 |.global _=>none
def jR:List Operand->Option (List fe)
 |[]=>some []
 |x::r=>match cY x with
  |none=>none
  |some a=>match jR r with
   |none=>none
   |some l=>some (a::l)
variable (P:Program)
def Wi (t:TypeId):Option Bool:=match P.underlying t with
 |some (.struct _)|some (.array _ _)=>some true
 |some _=>some false
 |none=>none
def UR (t:TypeId):Option Nat:=(P.info? t).map (·.size)
def sJ (t:TypeId):Option Nat:=(P.info? t).map (·.bytes)
def Wj (t:TypeId):Option (List AV):=match (P.info? t).bind (·.zero) with
 |some v=>match VJ v with
  |some a=>some a.cells
  |none=>none
 |none=>none
def jt:Nat->TypeId->Nat->Option (List (Nat×Nat))
 |0,_,_=>none
 |d+1,t,aK=>match P.underlying t with
  |some .bool=>if UR P t=some 1 then some [(aK,0)] else none
  |some (.int _)=>if UR P t=some 1 then some [(aK,1)] else none
  |some .string=>if UR P t=some 1 then some [(aK,2)] else none
  |some (.struct fs)=>if P.stoodInHeld t=true then none else match UR P t with
   |some sz=>(fs.toList.mapM fun (f:Field)=>match UR P f.type with
    |some n=>if f.name≠ "_"/\f.offset+n<=sz/\1<=n then jt d f.type (aK+f.offset) else none
    |none=>none).map List.flatten
   |none=>none
  |some (.array len e)=>match UR P t,UR P e with
   |some sz,some n=>if len * n<=sz/\1<=n then ((List.range len).mapM λi=>jt d e (aK+i * n)).map List.flatten else none
   |_,_=>none
  |_=>none
def isNil:Operand->Bool
 |.const .nilIface=>true
 |_=>false
def Bp (op:BinOp)(t:TypeId)(x y:Operand):Option o8:=match P.underlying t with
 |some (.int _)=>some .int
 |some .string=>some .str
 |some .bool=>some .bool
 |some (.pointer _)=>some .ptr
 |some (.func _ _ _)=>some .fn
 |some (.interface _)=>if isNil x || isNil y then some .eT else none
 |some (.struct _)|some (.array _ _)=>match op with
  |.eql|.neq=>match UR P t,jt P 8 t 0 with
   |some n,some l=>if P.eqGuardType P.depth t=true then none else some (.leaves n l)
   |_,_=>none
  |_=>none
 |_=>none
def sK (ps:List (Nat×Operand)):Option (List (Nat×fe)):=match ps with
 |[]=>some []
 |(i,x)::r=>match cY x,sK r with
  |some a,some l=>some ((i,a)::l)
  |_,_=>none
def o_ (places:Nat->Option (Nat×Nat))(ps:List (Nat×Operand)):Option (List (Nat×Nat×fe)):=match ps with
 |[]=>some []
 |(i,x)::r=>match places i,cY x,o_ places r with
  |some (o,n),some a,some l=>some ((o,n,a)::l)
  |_,_,_=>none
def uE (sz:Nat)(e:TypeId):Bool:=match Wj P e with
 |some zs=>zs.length == sz && zs.all AV.flat
 |none=>false
def Yt:Option Operand->Option (Option fe)
 |none=>some none
 |some x=>(cY x).map some
def tv (o:Op):Option qd:=match o with
 |.move x|.assign x=>(cY x).map .Vo
 |.pick c a b=>match cY c,cY a,cY b with
  |some c,some a,some b=>some (.pick c a b)
  |_,_,_=>none
 |.alloc e=>(Wj P e).map .new
 |.box _ x=>(cY x).map .box
 |.build t ps=>match P.underlying t,Wj P t with
  |some (.struct fs),some z=>if z.all AV.flat=true/\fs.toList.all (λf=>(UR P f.type).isSome)=true then (o_ (λi=>match fs[i]? with|some f=>(UR P f.type).map λn=>(f.offset,n)|none=>none) ps.toList).map (.build z) else none
  |some (.array _ e),some z=>match UR P e with
   |some n=>if z.all AV.flat=true then (o_ (λi=>some (i * n,n)) ps.toList).map (.build z) else none
   |none=>none
  |_,_=>none
 |.buildSlice t n ps=>match P.underlying t with
  |some (.slice e)=>match UR P e,(Wj P e).bind WH,sK ps.toList with
   |some sz,some z,some l=>if n * sz<=2 ^ 20 && 1<=sz && z.length == sz then some (.Wy sz z n l) else none
   |_,_,_=>none
  |_=>none
 |.load t a=>match UR P t,Wi P t,cY a with
  |some n,some g,some a=>some (.load n g a)
  |_,_,_=>none
 |.store t a x=>match UR P t,cY a,cY x with
  |some n,some a,some x=>some (.store n a x)
  |_,_,_=>none
 |.nilCheck x=>(cY x).map .Xb
 |.binOp op t x y _=>match Bp P op t x y,cY x,cY y with
  |some c,some x,some y=>some (.bin op c x y)
  |_,_,_=>none
 |.unOp .not _ x=>(cY x).map .not
 |.unOp .neg _ x=>(cY x).map .neg
 |.convert src dst x=>match P.underlying src,P.underlying dst with
  |some (.int _),some (.int k)=>(cY x).map (.conv k)
  |some .string,some .string=>(cY x).map .Bo
  |some (.slice e),some .string=>match P.underlying e with
   |some (.int .u8)=>(cY x).map .iY
   |_=>none
  |_,_=>none
 |.makeInterface t x=>match P.underlying t with
  |some (.interface _)=>none
  |some _=>(cY x).map (.YL t)
  |none=>none
 |.makeFunc (.func f) a b=>match jR a.toList,jR b.toList with
  |some a,some b=>some (.rG f a b)
  |_,_=>none
 |.makeSlice t l c=>match P.underlying t with
  |some (.slice e)=>match UR P e,sJ P e,(Wj P e).bind WH,cY l,cY c with
   |some sz,some by_,some z,some l,some c=>if 1<=sz && z.length == sz then some (.g7 sz by_ z l c) else none
   |_,_,_,_,_=>none
  |_=>none
 |.slice t x lo hi none=>match P.underlying t with
  |some .string=>match cY x,Yt lo,Yt hi with
   |some x,some lo,some hi=>some (.rH true 1 x lo hi)
   |_,_,_=>none
  |some (.slice e)=>match UR P e,cY x,Yt lo,Yt hi with
   |some sz,some x,some lo,some hi=>some (.rH false sz x lo hi)
   |_,_,_,_=>none
  |_=>none
 |.fieldAddr t x i=>match P.underlying t with
  |some (.struct fs)=>match fs[i]? with
   |some f=>match UR P f.type,cY x with
    |some n,some x=>if n=0 then none else some (.Ve f.offset x)
    |_,_=>none
   |none=>none
  |_=>none
 |.field t x i=>match P.underlying t with
  |some (.struct fs)=>match fs[i]? with
   |some f=>match UR P f.type,Wi P f.type,cY x with
    |some n,some g,some x=>some (.field f.offset n g x)
    |_,_,_=>none
   |none=>none
  |_=>none
 |.indexAddr t x i=>match P.underlying t with
  |some (.array n e)=>match UR P e,cY x,cY i with
   |some sz,some x,some i=>some (.eC sz (some n) x i)
   |_,_,_=>none
  |some (.slice e)=>match UR P e,cY x,cY i with
   |some sz,some x,some i=>some (.eC sz none x i)
   |_,_,_=>none
  |_=>none
 |.index t x i=>match P.underlying t with
  |some (.array n e)=>match UR P e,Wi P e,cY x,cY i with
   |some sz,some g,some x,some i=>some (.index (some (n,sz,g)) x i)
   |_,_,_,_=>none
  |some .string=>match cY x,cY i with
   |some x,some i=>some (.index none x i)
   |_,_=>none
  |_=>none
 |.extract x i=>(cY x).map (.extract · i)
 |.call c=>match c.callee,jR c.args.toList with
  |.value (.func f),some a=>some (.call f a)
  |.value x,some a=>(cY x).map (.callv · a)
  |.builtin .len,some [x]=>match (c.argTypes[0]?).bind P.underlying with
   |some .string=>some (.len true x)
   |some (.slice _)=>some (.len false x)
   |some (.array n _)=>some (.Vo (.k (.p (.i .i64 n))))
   |_=>none
  |.builtin .append,some [x,y]=>match (c.argTypes[0]?).bind P.underlying,(c.argTypes[1]?).bind P.underlying with
   |some (.slice e),some u=>match UR P e,sJ P e,u with
    |some sz,some by_,.slice _=>if 1<=sz && uE P sz e && c.argTypes.size == 2 then some (.app false sz by_ x y) else none
    |some sz,some by_,.string=>if sz == 1 && uE P sz e && c.argTypes.size == 2 then some (.app true sz by_ x y) else none
    |_,_,_=>none
   |_,_=>none
  |.builtin .max,some [x,y]=>some (.max [x,y])
  |.builtin .min,some [x,y]=>some (.min [x,y])
  |_,_=>none
 |.panic x=>(cY x).map .panic
 |_=>none
def zn (N:Nat):Option Nat->Bool
 |none=>true
 |some d=>Nat.blt d N
def mJ (N:Nat)(ops:Array Oper)(o:Oper):Option CI:=match tv P o.op with
 |none=>none
 |some c=>if zn N o.dst=true then match o.guard with
  |none=>some ⟨o.dst,c,none⟩
  |some (j,w)=>match (ops[j]?).bind (·.dst) with
   |some d=>some ⟨o.dst,c,some (d,w)⟩
   |none=>none
  else none
def pc (N:Nat)(ops:Array Oper):List Oper->Option (List CI)
 |[]=>some []
 |o::r=>match mJ P N ops o with
  |none=>none
  |some c=>match pc N ops r with
   |none=>none
   |some l=>some (c::l)
def oT:fe->List Nat|.t n=>[n]|.k _=>[]
def sF (l:List fe):List Nat:=l.flatMap oT
def oO:Option fe->List Nat|some x=>oT x|none=>[]
def reads:qd->List Nat
 |.Vo x|.Bo x|.box x|.load _ _ x|.Xb x|.not x|.neg x|.conv _ x|.iY x|.YL _ x|.Ve _ x|.field _ _ _ x|.extract x _|.len _ x|.panic x=>oT x
 |.pick a b c=>oT a++(oT b++oT c)
 |.new _=>[]
 |.build _ ps=>sF (ps.map (·.2.2))
 |.Wy _ _ _ ps=>sF (ps.map (·.2))
 |.store _ a x|.bin _ _ a x|.g7 _ _ _ a x|.eC _ _ a x|.index _ a x|.app _ _ _ a x=>oT a++oT x
 |.rG _ a b=>sF a++sF b
 |.rH _ _ x a b=>oT x++(oO a++oO b)
 |.call _ a|.max a|.min a=>sF a
 |.callv x a=>oT x++sF a
def ej (c:CI):List Nat:=(match c.g with|some (t,_)=>[t]|none=>[])++reads c.o
inductive Kind where
 |im
 |reader (x:Nat)
 |writer (x:Option Nat)
 |call (f:Nat) (args:List fe)
 |alloc
 |bad
def bg:qd->Kind
 |.Vo _|.Bo _|.pick _ _ _|.build _ _|.Xb _|.bin _ _ _ _|.not _|.neg _|.conv _ _|.YL _ _|.rG _ _ _|.Ve _ _|.field _ _ _ _|.index _ _ _|.extract _ _|.max _|.min _=>.im
 |.load _ _ (.t x)|.len _ (.t x)|.eC _ _ (.t x) _|.iY (.t x)=>.reader x
 |.store _ (.t x) _|.app _ _ _ (.t x) _=>.writer (some x)
 |.Wy _ _ _ _|.box _=>.writer none
 |.g7 _ _ _ _ _=>.alloc
 |.call f args=>if args.all (fun|.k a=>gC a && bf 0 a|.t _=>true)=true then .call f args else .bad
 |_=>.bad
def cN:Kind->Bool
 |.im=>true
 |_=>false
def dC (j i:Kind):Option (List qK):=match j,i with
 |.im,_=>some []
 |_,.im=>some []
 |.reader _,.reader _=>some []
 |.reader x,.writer none=>some []
 |.reader x,.writer (some y)=>some [.apart x y]
 |.writer none,.reader x=>some [.low x]
 |.writer (some y),.reader x=>some [.low x,.apart x y]
 |.reader x,.call f args=>some [.closed f (sF args)]
 |.call f args,.reader x=>some [.low x,.closed f (sF args)]
 |.reader _,.alloc=>some []
 |.alloc,.reader x=>some [.low x]
 |.alloc,.call f args=>some [.quiet f (sF args)]
 |.call f args,.alloc=>some [.quiet f (sF args)]
 |_,_=>none
def dZ (c:CI):Bool:=match c.o,c.g,c.d with
 |.new _,none,some _=>true
 |_,_,_=>false
def WB (o:Oper):List Nat:=(o.after.toList.filter λe=>Region.binds .any e).map (·.on)
def Bq:List (List Nat)->List (List Nat)->List (List Nat)
 |acc,[]=>acc
 |acc,a::r=>Bq (acc++[(a++a.flatMap λj=>acc.getD j []).eraseDups]) r
def uF:List qK->List qK->List qK
 |[],acc=>acc
 |c::r,acc=>uF r (if acc.contains c then acc else acc++[c])
def nw (l:List CI)(T:List (List Nat)):List (Nat×Nat)->List qK->Option (List qK)
 |[],acc=>some acc
 |(j,i)::r,acc=>match l[j]?,l[i]? with
  |some cj,some ci=>if dZ cj || dZ ci || (T.getD i []).contains j then nw l T r acc else match dC (bg cj.o) (bg ci.o) with
   |some c=>nw l T r (uF c acc)
   |none=>none
  |_,_=>none
def zo (n:Nat):List (Nat×Nat):=(List.range n).flatMap λi=>(List.range i).map λj=>(j,i)
def Ep (l:List CI)(af T:List (List Nat)):Bool :=
 l.length == af.length && T.length == l.length &&
 (List.range l.length).all λk=>match l[k]? with
  |none=>false
  |some c =>
   (af.getD k []).all (λe=>Nat.blt e k) &&
   (T.getD k []).all (λx=>(af.getD k []).contains x || (af.getD k []).any λm=>(T.getD m []).contains x) &&
   (List.range l.length).all λj=>match l[j]? with
    |none=>false
    |some cj=>match cj.d with
     |none=>true
     |some d=>(if j=k then true else match c.d with|none=>true|some d'=>!Nat.beq d d') &&
      (if (ej c).contains d=true then (Nat.blt j k && (af.getD k []).contains j) || (Nat.blt k j && (T.getD j []).contains k && cN (bg c.o) && !dZ cj) else true)
def Cs (l:List CI)(af:List (List Nat)):Option (List CI×List CI×List qK) :=
 let T:=Bq [] af
 if Ep l af T=true then match nw l T (zo l.length) [] with
  |some chk=>some (l.filter dZ,l.filter (λc=>!dZ c),chk)
  |none=>none
 else none
def gy (N:Nat):Code->Option aU
 |.skip=>some .skip
 |.ret=>some .ret
 |.exit id=>some (.exit id)
 |.seq a b=>match gy N a,gy N b with
  |some a,some b=>some (.seq a b)
  |_,_=>none
 |.region _ ops false=>(pc P N ops ops.toList).map (.ops [])
 |.region _ ops true=>match pc P N ops ops.toList with
  |none=>none
  |some l=>match Cs l (ops.toList.map WB) with
   |some (news,rest,chk)=>some (.draw [] news rest chk)
   |none=>none
 |.cond c a b=>match cY c,gy N a,gy N b with
  |some c,some a,some b=>some (.cond c a b)
  |_,_,_=>none
 |.block id a=>(gy N a).map (.block id)
 |.loop a=>(gy N a).map (.loop [])
 |_=>none
def XX (r:List ResultVar):Option (List sH):=match r with
 |[]=>some []
 |.tmp t::r=>(XX r).map (.t t::·)
 |.cell a t::r=>match UR P t,Wi P t,XX r with
  |some n,some g,some l=>some (.cell a n g::l)
  |_,_,_=>none
def HY (f:Func):Option (aU×List sH):=match f.body with
 |none=>none
 |some b=>match gy P f.ntmps b,XX P f.results.toList with
  |some c,some r=>some (c,r)
  |_,_=>none
end
section
variable {aN UO:Env}
theorem cu {x:fe}(h:∀t,t∈oT x->lk aN t=lk UO t):eH aN x=eH UO x:=by
 cases x with
 |t n=>exact h n (by simp[oT])
 |k a=>rfl
theorem g8:∀{l:List fe},(∀t,t∈sF l->lk aN t=lk UO t)->gQ aN l=gQ UO l
 |[],h=>rfl
 |x::r,h=>by
  simp only[gQ];rw[cu (x:=x) (λt ht=>h t (by simp[sF];exact .inl ht)),g8 (l:=r) (λt ht=>h t (by simp[sF]at ht ⊢;exact .inr ht))]
theorem qN {pg:fX}{call:di}{o:qd}{G:Heap}(h:∀t,t∈reads o->lk aN t=lk UO t):Uu pg call o aN G=Uu pg call o UO G:=by
 cases o with
 |new cs=>rfl
 |rH str sz x lo hi =>
  have h1:eH aN x=eH UO x:=cu λt ht=>h t (by simp[reads,ht]);have h2:∀o,lo=some o->eH aN o=eH UO o:=λo e=>cu λt ht=>h t (by subst e;simp[reads,oO,ht]);have h3:∀o,hi=some o->eH aN o=eH UO o:=λo e=>cu λt ht=>h t (by subst e;simp[reads,oO,ht]);simp only[Uu,h1];cases lo with
  |none=>cases hi with
   |none=>rfl
   |some b=>simp only[h3 b rfl]
  |some a=>cases hi with
   |none=>simp only[h2 a rfl]
   |some b=>simp only[h2 a rfl,h3 b rfl]
 |Vo x=>simp only[Uu,cu (x:=x) (λt ht=>h t (by simp[reads,ht]))]
 |Bo x=>simp only[Uu,cu (x:=x) (λt ht=>h t (by simp[reads,ht]))]
 |box x=>simp only[Uu,cu (x:=x) (λt ht=>h t (by simp[reads,ht]))]
 |load n g x=>simp only[Uu,cu (x:=x) (λt ht=>h t (by simp[reads,ht]))]
 |Xb x=>simp only[Uu,cu (x:=x) (λt ht=>h t (by simp[reads,ht]))]
 |not x=>simp only[Uu,cu (x:=x) (λt ht=>h t (by simp[reads,ht]))]
 |neg x=>simp only[Uu,cu (x:=x) (λt ht=>h t (by simp[reads,ht]))]
 |conv k x=>simp only[Uu,cu (x:=x) (λt ht=>h t (by simp[reads,ht]))]
 |iY x=>simp only[Uu,cu (x:=x) (λt ht=>h t (by simp[reads,ht]))]
 |YL k x=>simp only[Uu,cu (x:=x) (λt ht=>h t (by simp[reads,ht]))]
 |Ve k x=>simp only[Uu,cu (x:=x) (λt ht=>h t (by simp[reads,ht]))]
 |field a b c x=>simp only[Uu,cu (x:=x) (λt ht=>h t (by simp[reads,ht]))]
 |extract x k=>simp only[Uu,cu (x:=x) (λt ht=>h t (by simp[reads,ht]))]
 |len k x=>simp only[Uu,cu (x:=x) (λt ht=>h t (by simp[reads,ht]))]
 |panic x=>simp only[Uu,cu (x:=x) (λt ht=>h t (by simp[reads,ht]))]
 |pick x y z=>simp only[Uu,cu (x:=x) (λt ht=>h t (by simp[reads,ht])),cu (x:=y) (λt ht=>h t (by simp[reads,ht])),cu (x:=z) (λt ht=>h t (by simp[reads,ht]))]
 |build z ps=>simp only[Uu,g8 (l:=ps.map (·.2.2)) (λt ht=>h t (by simpa [reads] using ht))]
 |Wy sz z n ps=>simp only[Uu,g8 (l:=ps.map (·.2)) (λt ht=>h t (by simpa [reads] using ht))]
 |store n x y=>simp only[Uu,cu (x:=x) (λt ht=>h t (by simp[reads,ht])),cu (x:=y) (λt ht=>h t (by simp[reads,ht]))]
 |bin a b x y=>simp only[Uu,cu (x:=x) (λt ht=>h t (by simp[reads,ht])),cu (x:=y) (λt ht=>h t (by simp[reads,ht]))]
 |g7 a b c x y=>simp only[Uu,cu (x:=x) (λt ht=>h t (by simp[reads,ht])),cu (x:=y) (λt ht=>h t (by simp[reads,ht]))]
 |eC a b x y=>simp only[Uu,cu (x:=x) (λt ht=>h t (by simp[reads,ht])),cu (x:=y) (λt ht=>h t (by simp[reads,ht]))]
 |index a x y=>simp only[Uu,cu (x:=x) (λt ht=>h t (by simp[reads,ht])),cu (x:=y) (λt ht=>h t (by simp[reads,ht]))]
 |app a b c x y=>simp only[Uu,cu (x:=x) (λt ht=>h t (by simp[reads,ht])),cu (x:=y) (λt ht=>h t (by simp[reads,ht]))]
 |rG f x y=>simp only[Uu,g8 (l:=x) (λt ht=>h t (by simp[reads,ht])),g8 (l:=y) (λt ht=>h t (by simp[reads,ht]))]
 |call f x=>simp only[Uu,g8 (l:=x) (λt ht=>h t (by simpa [reads] using ht))]
 |max x=>simp only[Uu,g8 (l:=x) (λt ht=>h t (by simpa [reads] using ht))]
 |min x=>simp only[Uu,g8 (l:=x) (λt ht=>h t (by simpa [reads] using ht))]
 |callv x y=>simp only[Uu,cu (x:=x) (λt ht=>h t (by simp[reads,ht])),g8 (l:=y) (λt ht=>h t (by simp[reads,ht]))]
end
def WX (a b:Option fE):Prop:=a=b\/∃sz ay g s s',a=some (.arr sz ay g s)/\b=some (.arr sz ay g s')
theorem WX.refl (o:Option fE):WX o o:=.inl rfl
theorem WX.symm {a b:Option fE}(h:WX a b):WX b a:=by
 rcases h with rfl|⟨sz,ay,g,s,s',rfl,rfl⟩
 ·exact .refl _
 ·exact .inr ⟨sz,ay,g,s',s,rfl,rfl⟩
theorem WX.trans {a b c:Option fE}(h:WX a b)(h':WX b c):WX a c:=by
 rcases h with rfl|⟨sz,ay,g,s,s',rfl,rfl⟩
 ·exact h'
 ·rcases h' with rfl|⟨sz',rows',g',s1,s1',h1,rfl⟩
  ·exact .inr ⟨sz,ay,g,s,s',rfl,rfl⟩
  ·cases h1;exact .inr ⟨sz,ay,g,s,s1',rfl,rfl⟩
mutual
theorem nx:∀{a:AV} {G G':Heap} {v:AV},norm G a=some (v,G')->∀id:Nat,WX G'[id]? G[id]?
 |.p x,G,G',v,h,id=>by simp[norm]at h;obtain⟨rfl,rfl⟩:=h;exact .refl _
 |.aC,G,G',v,h,id=>by simp[norm]at h;obtain⟨rfl,rfl⟩:=h;exact .refl _
 |.arr k len gen,G,G',v,h,id=>by
  simp only[norm]at h;split at h
  ·rename_i sz ay g sl hG;split at h
   ·cases h;rw[List.getElem?_set];split
    ·rename_i e;subst e;have:k<G.length:=(gE hG).1;rw[ah this,hG];exact .inr ⟨_,_,_,_,_,rfl,rfl⟩
    ·exact .refl _
   ·cases h
  ·cases h
 |.ag cs,G,G',v,h,id=>by
  simp only[norm]at h;split at h
  ·rename_i hn;cases h;exact pV hn id
  ·cases h
 |.dF cs,G,G',v,h,id=>by
  simp only[norm]at h;split at h
  ·rename_i hn;cases h;exact pV hn id
  ·cases h
 |.eT t x,G,G',v,h,id=>by
  simp only[norm]at h;split at h
  ·rename_i hn;cases h;exact nx hn id
  ·cases h
 |.undef,G,G',v,h,id=>by simp[norm]at h
 |.ptr _ _,G,G',v,h,id=>by simp[norm]at h
 |.ez _ _ _ _,G,G',v,h,id=>by simp[norm]at h
 |.rp _,G,G',v,h,id=>by simp[norm]at h
 |.fn _ _ _,G,G',v,h,id=>by simp[norm]at h
theorem pV:∀{l:List AV} {G G':Heap} {vs:List AV},Vu G l=some (vs,G')->∀id:Nat,WX G'[id]? G[id]?
 |[],G,G',vs,h,id=>by simp[Vu]at h;obtain⟨rfl,rfl⟩:=h;exact .refl _
 |a::r,G,G',vs,h,id=>by
  simp only[Vu]at h;split at h
  ·cases h
  ·rename_i v G1 hn;split at h
   ·cases h
   ·rename_i vs' G2 hn2;cases h;exact(pV hn2 id).trans (nx hn id)
end
theorem ny {a:AV}{G G':Heap}{l:List PV}(h:cO G a=some (l,G'))(id:Nat):WX G'[id]? G[id]?:=by
 unfold cO at h;split at h
 ·cases h
 ·rename_i vs G1 hn;split at h
  ·cases h
  ·cases h;exact pV hn id
theorem V3 {sz:Nat}:∀{ps:List (Nat×AV)} {ay rows':List (List PV)} {G G':Heap},Uu.Uv sz ay G ps=some (rows',G')->∀id:Nat,WX G'[id]? G[id]?
 |[],ay,rows',G,G',h,id=>by simp[Uu.Uv]at h;obtain⟨_,rfl⟩:=h;exact .refl _
 |(i,v)::r,ay,rows',G,G',h,id=>by
  simp only[Uu.Uv]at h;split at h
  ·cases h
  ·rename_i l G1 hn;split at h
   ·exact(V3 h id).trans (ny hn id)
   ·cases h
mutual
theorem qO (bq:Bool):∀{a a':AV} {e e':fI},exp bq e a=some (a',e')->bf 0 a=true->e'=e
 |.p x,a',e,e',h,hb=>by simp[exp]at h;exact h.2.symm
 |.aC,a',e,e',h,hb=>by simp only[exp]at h;split at h<;>(cases h;rfl)
 |.undef,a',e,e',h,hb=>by simp[exp]at h;exact h.2.symm
 |.rp cs,a',e,e',h,hb=>by simp[exp]at h;exact h.2.symm
 |.arr id len gen,a',e,e',h,hb=>by simp[bf]at hb
 |.ptr id off,a',e,e',h,hb=>by simp[bf]at hb
 |.ez id idx off gen,a',e,e',h,hb=>by simp[bf]at hb
 |.ag cs,a',e,e',h,hb=>by
  simp only[exp]at h;split at h
  ·rename_i hn;cases h;exact Wk bq hn (by simpa [bf] using hb)
  ·cases h
 |.dF cs,a',e,e',h,hb=>by
  simp only[exp]at h;split at h
  ·rename_i hn;cases h;exact Wk bq hn (by simpa [bf] using hb)
  ·cases h
 |.eT t x,a',e,e',h,hb=>by
  simp only[exp]at h;split at h
  ·rename_i hn;cases h;exact qO bq hn (by simpa [bf] using hb)
  ·cases h
 |.fn f x y,a',e,e',h,hb=>by
  simp only[exp]at h;simp only[bf,ab]at hb;split at h
  ·cases h
  ·rename_i hx;split at h
   ·cases h
   ·rename_i hy;cases h;have h1:=Wk true hx hb.1;subst h1;exact Wk true hy hb.2
theorem Wk (bq:Bool):∀{l l':List AV} {e e':fI},aQ bq e l=some (l',e')->cH 0 l=true->e'=e
 |[],l',e,e',h,hb=>by simp[aQ]at h;exact h.2.symm
 |a::r,l',e,e',h,hb=>by
  simp only[aQ]at h;simp only[cH,ab]at hb;split at h
  ·cases h
  ·rename_i hn;split at h
   ·cases h
   ·rename_i hn2;cases h;have h1:=qO bq hn hb.1;subst h1;exact Wk bq hn2 hb.2
end
mutual
theorem zp:∀{a a':AV} {e e':fI},exp false e a=some (a',e')->gC a=true->e'.ids=e.ids/\∀id:Nat,WX e'.G[id]? e.G[id]?
 |.p x,a',e,e',h,hb=>by simp[exp]at h;rw[<- h.2];exact⟨rfl,λ_=>.refl _⟩
 |.aC,a',e,e',h,hb=>by simp[exp]at h;rw[<- h.2];exact⟨rfl,λ_=>.refl _⟩
 |.undef,a',e,e',h,hb=>by simp[exp]at h;rw[<- h.2];exact⟨rfl,λ_=>.refl _⟩
 |.rp cs,a',e,e',h,hb=>by simp[exp]at h;rw[<- h.2];exact⟨rfl,λ_=>.refl _⟩
 |.arr id len gen,a',e,e',h,hb=>by
  simp only[exp,aZ,if_false]at h;split at h
  ·rename_i v G hn;cases h;exact⟨rfl,nx hn⟩
  ·cases h
 |.ptr id off,a',e,e',h,hb=>by simp[gC]at hb
 |.ez id idx off gen,a',e,e',h,hb=>by simp[gC]at hb
 |.ag cs,a',e,e',h,hb=>by
  simp only[exp]at h;split at h
  ·rename_i hn;cases h;exact pW hn (by simpa [gC] using hb)
  ·cases h
 |.dF cs,a',e,e',h,hb=>by
  simp only[exp]at h;split at h
  ·rename_i hn;cases h;exact pW hn (by simpa [gC] using hb)
  ·cases h
 |.eT t x,a',e,e',h,hb=>by
  simp only[exp]at h;split at h
  ·rename_i hn;cases h;exact zp hn (by simpa [gC] using hb)
  ·cases h
 |.fn f x y,a',e,e',h,hb=>by
  have:bf 0 (.fn f x y)=true:=by simpa [gC,bf] using hb
  rw[qO false h this];exact⟨rfl,λ_=>.refl _⟩
theorem pW:∀{l l':List AV} {e e':fI},aQ false e l=some (l',e')->eU l=true->e'.ids=e.ids/\∀id:Nat,WX e'.G[id]? e.G[id]?
 |[],l',e,e',h,hb=>by simp[aQ]at h;rw[<- h.2];exact⟨rfl,λ_=>.refl _⟩
 |a::r,l',e,e',h,hb=>by
  simp only[aQ]at h;simp only[eU,ab]at hb;split at h
  ·cases h
  ·rename_i hn;split at h
   ·cases h
   ·rename_i hn2;cases h;obtain⟨a1,a2⟩:=zp hn hb.1;obtain⟨b1,b2⟩:=pW hn2 hb.2;exact⟨b1.trans a1,λid=>(b2 id).trans (a2 id)⟩
end
theorem WX.zq {a b:Option fE}(h:WX a b):a=none↔b=none:=by
 rcases h with rfl|⟨sz,ay,g,s,s',rfl,rfl⟩
 ·exact Iff.rfl
 ·simp
theorem WY {G G':Heap}(h:∀id:Nat,WX G'[id]? G[id]?):G'.length=G.length:=by
 rcases j_ G'.length G.length with h1|h1|h1
 ·have:=(h G'.length).zq;rw[List.getElem?_eq_none (aB _),gG h1]at this;simp at this
 ·exact h1
 ·have:=(h G.length).zq;rw[List.getElem?_eq_none (aB _),gG h1]at this;simp at this
theorem Er {pg:fX}{call:di}{f:Nat}{args:List AV}{G G':Heap}{out:Out}(hk:bC pg f=false)(hn:eU args=true)(h:UM pg call f args G=some (out,G')):∀id:Nat,id<G.length->WX G'[id]? G[id]?:=by
 unfold UM at h;rw[hk]at h;split at h
 ·cases h
 ·rename_i args' e hx;obtain⟨h1,h2⟩:=pW hx hn;have hids:e.ids=[]:=h1;split at h
  ·cases h
  ·rename_i os e' ho;have:e'=e:=by
    simp[UG,hids]at ho;exact ho.2.symm
   subst this;split at h
   ·cases h
   ·cases h;intro id hid;rw[hids];simp only[b_];have hlen:e'.G.length=G.length:=WY h2;rw[List.getElem?_append_left (by omega)];exact h2 id
theorem ln {G:Heap}{x:Option AV}{r:jV}(h:one G x=some r):∃v,r=.val v G/\∀G',one G' x=some (.val v G'):=by
 cases x with
 |none=>simp[one]at h
 |some v=>simp[one]at h;exact⟨v,h.symm,λG'=>rfl⟩
section
variable {pg:fX}{call:di}{aN:Env}{G:Heap}{r:jV}
theorem pe {o:qd}(hk:cN (bg o)=true)(h:Uu pg call o aN G=some r):∃v,r=.val v G/\∀G',Uu pg call o aN G'=some (.val v G'):=by
 cases o with
 |Vo x=>exact ln h
 |Bo x =>
  simp only[Uu]at h ⊢;split at h
  ·cases h;exact⟨_,rfl,λ_=>rfl⟩
  ·cases h
 |pick c a b =>
  simp only[Uu]at h ⊢;split at h
  ·rename_i cc hc;cases cc
   ·simp only[aZ,if_false]at h ⊢;exact ln h
   ·simp only[if_true]at h ⊢;exact ln h
  ·cases h
 |build z ps =>
  simp only[Uu]at h ⊢;split at h
  ·cases h
  ·split at h
   ·cases h
   ·cases h;exact⟨_,rfl,λ_=>rfl⟩
 |Xb x =>
  simp only[Uu]at h ⊢;split at h<;>first|(cases h;exact⟨_,rfl,λ_=>rfl⟩)|cases h
 |bin op c x y =>
  simp only[Uu]at h ⊢;split at h
  ·cases c<;>first
    |exact ln h
    |(dsimp only at h ⊢
      split at h
      ·split at h
       ·rename_i hl;simp only[ah hl];exact ln h
       ·cases h
      ·cases h)
  ·cases h
 |not x =>
  simp only[Uu]at h ⊢;split at h
  ·cases h;exact⟨_,rfl,λ_=>rfl⟩
  ·cases h
 |neg x =>
  simp only[Uu]at h ⊢;split at h
  ·cases h;exact⟨_,rfl,λ_=>rfl⟩
  ·cases h
 |conv k x =>
  simp only[Uu]at h ⊢;split at h
  ·cases h;exact⟨_,rfl,λ_=>rfl⟩
  ·cases h
 |YL k x =>
  simp only[Uu]at h ⊢;split at h
  ·cases h;exact⟨_,rfl,λ_=>rfl⟩
  ·cases h
 |rG k x y =>
  simp only[Uu]at h ⊢;split at h
  ·cases h;exact⟨_,rfl,λ_=>rfl⟩
  ·cases h
 |Ve k x =>
  simp only[Uu]at h ⊢;split at h<;>first|(cases h;exact⟨_,rfl,λ_=>rfl⟩)|cases h
 |field o n ag x =>
  simp only[Uu]at h ⊢;split at h
  ·cases ag
   ·simp only[aZ,if_false]at h ⊢;exact ln h
   ·simp only[if_true]at h ⊢;split at h
    ·rename_i hl;cases h;exact⟨_,rfl,λ_=>by rw[ah hl]⟩
    ·cases h
  ·cases h
 |index arr x i =>
  simp only[Uu]at h ⊢;split at h
  ·split at h
   ·split at h
    ·rename_i hh;simp only[ah hh];split at h
     ·rename_i hg;simp only[ah hg];split at h
      ·rename_i hl;cases h;exact⟨_,rfl,λ_=>by rw[ah hl]⟩
      ·cases h
     ·rename_i hg;simp only[aa hg];exact ln h
    ·cases h
   ·split at h
    ·rename_i hh;simp only[ah hh];split at h
     ·cases h;exact⟨_,rfl,λ_=>rfl⟩
     ·cases h
    ·cases h
   ·cases h
  ·cases h
 |extract x k =>
  simp only[Uu]at h ⊢;split at h
  ·exact ln h
  ·cases h
 |max x =>
  simp only[Uu]at h ⊢;split at h
  ·cases h;exact⟨_,rfl,λ_=>rfl⟩
  ·cases h
 |min x =>
  simp only[Uu]at h ⊢;split at h
  ·cases h;exact⟨_,rfl,λ_=>rfl⟩
  ·cases h
 |load n g x=>cases x<;>simp[bg,cN]at hk
 |len n x=>cases x<;>simp[bg,cN]at hk
 |eC n l x y=>cases x<;>simp[bg,cN]at hk
 |iY x=>cases x<;>simp[bg,cN]at hk
 |store n x y=>cases x<;>simp[bg,cN]at hk
 |app a b c x y=>cases x<;>simp[bg,cN]at hk
 |call f args =>
  simp only[bg]at hk;split at hk<;>simp[cN]at hk
 |box x=>simp[bg,cN]at hk
 |new x=>simp[bg,cN]at hk
 |Wy a b c d=>simp[bg,cN]at hk
 |g7 a b c d e=>simp[bg,cN]at hk
 |rH a b c d e=>simp[bg,cN]at hk
 |callv a b=>simp[bg,cN]at hk
 |panic a=>simp[bg,cN]at hk
theorem Br {G G':Heap}{v:AV}(h:∀id:Nat,id∈Vc v->WX G'[id]? G[id]?):UZ G' v=UZ G v:=by
 cases v with
 |arr id len gen =>
  simp only[UZ];rcases h id (by simp[Vc]) with e|⟨sz,ay,g,s,s',e1,e2⟩
  ·rw[e]
  ·rw[e1,e2]
 |p x=>cases x<;>rfl
 |_=>rfl
theorem Bt {n:Nat}{ag:Bool}{G G':Heap}{v:AV}(h:∀id:Nat,id∈Vc v->WX G'[id]? G[id]?):fN n ag G' v=fN n ag G v:=by
 cases v with
 |ptr id off =>
  simp only[fN];rcases h id (by simp[Vc]) with e|⟨sz,ay,g,s,s',e1,e2⟩
  ·rw[e]
  ·rw[e1,e2]
 |ez id idx off gen =>
  simp only[fN];rcases h id (by simp[Vc]) with e|⟨sz,ay,g,s,s',e1,e2⟩
  ·rw[e]
  ·rw[e1,e2]
 |_=>rfl
theorem Dp {b:Bool}{G G':Heap}{v:AV}(h:∀id:Nat,id∈Vc v->WX G'[id]? G[id]?):iB b G' v=iB b G v:=by
 cases v with
 |arr id len gen =>
  simp only[iB];rcases h id (by simp[Vc]) with e|⟨sz,ay,g,s,s',e1,e2⟩
  ·rw[e]
  ·rw[e1,e2]
 |p x=>cases x<;>rfl
 |_=>rfl
theorem Dq {n:Nat}{ag:Bool}{G:Heap}{v u:AV}(h:fN n ag G v=some u):∀id:Nat,id∈Vc v->id<G.length:=by
 intro id hid;cases v with
 |ptr k off =>
  simp only[Vc,br]at hid;subst hid;simp only[fN]at h;split at h
  ·rename_i hG;exact(gE hG).1
  ·cases h
 |ez k idx off gen =>
  simp only[Vc,br]at hid;subst hid;simp only[fN]at h;split at h
  ·rename_i hG;exact(gE hG).1
  ·cases h
 |arr=>simp[fN]at h
 |_=>simp[Vc]at hid
theorem Wl {o:qd}{x:Nat}(hk:bg o=.reader x)(h:Uu pg call o aN G=some r):∃v,r=.val v G /\
  ∀G':Heap,(∀u,lk aN x=some u->∀id:Nat,id∈Vc u->id<G.length->WX G'[id]? G[id]?)->Uu pg call o aN G'=some (.val v G'):=by
 cases o with
 |load n g y =>
  cases y with
  |k a=>simp[bg]at hk
  |t y =>
   simp only[bg,Kind.reader.injEq]at hk;subst hk;simp only[Uu,eH]at h ⊢;split at h
   ·rename_i a ha;cases hl:fN n g G a with
    |none=>rw[hl]at h;simp[one]at h
    |some u =>
     rw[hl]at h;simp[one]at h;refine⟨u,h.symm,λG' hG=>?_⟩;rw[Bt (G:=G) (λid hid=>hG a ha id hid (Dq hl id hid)),hl];rfl
   ·cases h
 |len b y =>
  cases y with
  |k a=>simp[bg]at hk
  |t y =>
   simp only[bg,Kind.reader.injEq]at hk;subst hk;simp only[Uu,eH]at h ⊢;split at h
   ·rename_i a ha;split at h
    ·rename_i n hn;cases h;refine⟨_,rfl,λG' hG=>?_⟩;rw[Dp (G:=G) (λid hid=>hG a ha id hid ?_),hn];cases a with
     |arr k len gen =>
      simp only[Vc,br]at hid;subst hid;simp only[iB]at hn;split at hn
      ·cases hn
      ·split at hn
       ·rename_i hG;exact(gE hG).1
       ·cases hn
     |ptr=>simp[iB]at hn
     |ez=>simp[iB]at hn
     |_=>simp[Vc]at hid
    ·cases h
   ·cases h
 |iY y =>
  cases y with
  |k a=>simp[bg]at hk
  |t y =>
   simp only[bg,Kind.reader.injEq]at hk;subst hk;simp only[Uu,eH]at h ⊢;split at h
   ·rename_i a ha;split at h
    ·rename_i l hl;cases h;refine⟨_,rfl,λG' hG=>?_⟩;rw[Br (G:=G) (λid hid=>hG a ha id hid ?_),hl];cases a with
     |arr k len gen =>
      simp only[Vc,br]at hid;subst hid;simp only[fO,aZ,if_false,UZ]at hl;split at hl
      ·rename_i hG;exact(gE hG).1
      ·simp at hl
     |ptr=>simp[fO,UZ]at hl
     |ez=>simp[fO,UZ]at hl
     |_=>simp[Vc]at hid
    ·cases h
   ·cases h
 |eC sz YA y i =>
  cases y with
  |k a=>simp[bg]at hk
  |t y =>
   simp only[bg,Kind.reader.injEq]at hk;subst hk;simp only[Uu,eH]at h ⊢;split at h
   ·rename_i a k i' ha hi;split at h
    ·split at h
     ·split at h
      ·rename_i hh;cases h;exact⟨_,rfl,λ_ _=>by rw[ah hh]⟩
      ·cases h
     ·split at h
      ·rename_i hh;cases h;exact⟨_,rfl,λ_ _=>by rw[ah hh]⟩
      ·cases h
     ·cases h
    ·split at h
     ·split at h
      ·rename_i h0;simp only[ah h0];split at h
       ·split at h
        ·rename_i hok;cases h;exact⟨_,rfl,λ_ _=>by rw[ah hok]⟩
        ·cases h
       ·cases h
      ·cases h
     ·rename_i id len gen;split at h
      ·rename_i hG;split at h
       ·rename_i hh;cases h;refine⟨_,rfl,λG' hG'=>?_⟩;rcases hG' _ ha id (by simp[Vc]) (gE hG).1 with e|⟨sz,ay,g,s,s',e1,e2⟩
        ·rw[e,hG];dsimp only;rw[ah hh]
        ·rw[hG]at e2;cases e2;rw[e1];dsimp only;rw[ah hh]
       ·cases h
      ·cases h
     ·cases h
   ·cases h
 |call f args =>
  simp only[bg]at hk;split at hk<;>cases hk
 |store n x y=>cases x<;>simp[bg]at hk
 |app a b c x y=>cases x<;>simp[bg]at hk
 |_=>simp[bg]at hk
theorem tw {o:qd}{x:Option Nat}(hk:bg o=.writer x){v:AV}{G1:Heap}(h:Uu pg call o aN G=some (.val v G1)) :
  ∀id:Nat,id<G.length->(∀t u,x=some t->lk aN t=some u->id∉Vc u)->WX G1[id]? G[id]?:=by
 intro id hid hx;cases o with
 |store n y z =>
  cases y with
  |k a=>simp[bg]at hk
  |t y =>
   simp only[bg,Kind.writer.injEq]at hk;subst hk;simp only[Uu,eH]at h;split at h
   ·rename_i a b ha hb;split at h
    ·rename_i G2 hs;cases h;have hni:=hx y a rfl ha;unfold iM at hs;split at hs
     ·split at hs
      ·rename_i k off;simp only[Vc,br]at hni;split at hs
       ·split at hs
        ·cases hs;rw[List.getElem?_set,aa (Ne.symm hni)];exact .refl _
        ·cases hs
       ·cases hs
      ·rename_i k idx off gen;simp only[Vc,br]at hni;split at hs
       ·cases hs
       ·rename_i l G3 hn;split at hs
        ·split at hs
         ·split at hs
          ·split at hs
           ·cases hs;rw[List.getElem?_set,aa (Ne.symm hni)];exact ny hn id
           ·cases hs
          ·cases hs
         ·cases hs
        ·cases hs
      ·cases hs
     ·cases hs
    ·cases h
   ·cases h
 |app a b c y z =>
  cases y with
  |k a=>simp[bg]at hk
  |t y =>
   simp only[bg,Kind.writer.injEq]at hk;subst hk;simp only[Uu,eH]at h;split at h
   ·rename_i u w hu hw;split at h
    ·rename_i r' G2 hs;cases h;have hni:=hx y u rfl hu;unfold cX at hs;split at hs
     ·cases hs
     ·split at hs
      ·split at hs
       ·split at hs
        ·cases hs;exact .refl _
        ·split at hs
         ·cases hs;rw[List.getElem?_append_left hid];exact .refl _
         ·cases hs
       ·rename_i k len gen;simp only[Vc,br]at hni;split at hs
        ·split at hs
         ·cases hs;rw[List.getElem?_set,aa (Ne.symm hni)];exact .refl _
         ·cases hs
        ·cases hs
       ·cases hs
      ·cases hs
    ·cases h
   ·cases h
 |box y =>
  simp only[Uu]at h;split at h
  ·split at h
   ·cases h;rw[List.getElem?_append_left hid];exact .refl _
   ·cases h
  ·cases h
 |Wy sz z n ps =>
  simp only[Uu]at h;split at h
  ·split at h
   ·cases h
   ·split at h
    ·cases h
    ·rename_i ay G2 hr;cases h;have:=WY (V3 hr);rw[List.getElem?_append_left (by omega)];exact V3 hr id
  ·cases h
 |g7 sz by_ z l c =>
  simp only[Uu]at h;split at h
  ·split at h
   ·cases h;rw[List.getElem?_append_left hid];exact .refl _
   ·cases h
  ·cases h
 |call f args =>
  simp only[bg]at hk;split at hk<;>cases hk
 |load n g y=>cases y<;>simp[bg]at hk
 |len b y=>cases y<;>simp[bg]at hk
 |iY y=>cases y<;>simp[bg]at hk
 |eC sz YA y i=>cases y<;>simp[bg]at hk
 |_=>simp[bg]at hk
theorem Es {args:List fe}(hs:args.all (fun|.k a=>gC a && bf 0 a|.t _=>true)=true){vs:List AV}(hv:gQ aN args=some vs)(ht:∀t,t∈sF args->∀v,lk aN t=some v->gC v=true):eU vs=true:=by
 induction args generalizing vs with
 |nil=>simp[gQ]at hv;subst hv;rfl
 |cons x r ih =>
  simp only[gQ]at hv;split at hv
  ·cases hv
  ·rename_i v hx;split at hv
   ·cases hv
   ·rename_i vs' hr;cases hv;simp only[dJ,ab]at hs;simp only[eU,ab];refine⟨?_,ih hs.2 hr (λt h=>ht t (by simp[sF]at h ⊢;exact .inr h))⟩;cases x with
    |k a=>simp[eH]at hx;subst hx;simp at hs;exact hs.1.1
    |t n=>exact ht n (by simp[sF,oT]) v hx
theorem Dr {args:List fe}(hs:args.all (fun|.k a=>gC a && bf 0 a|.t _=>true)=true){vs:List AV}(hv:gQ aN args=some vs)(ht:∀t,t∈sF args->∀v,lk aN t=some v->bf 0 v=true):cH 0 vs=true:=by
 induction args generalizing vs with
 |nil=>simp[gQ]at hv;subst hv;rfl
 |cons x r ih =>
  simp only[gQ]at hv;split at hv
  ·cases hv
  ·rename_i v hx;split at hv
   ·cases hv
   ·rename_i vs' hr;cases hv;simp only[dJ,ab]at hs;simp only[cH,ab];refine⟨?_,ih hs.2 hr (λt h=>ht t (by simp[sF]at h ⊢;exact .inr h))⟩;cases x with
    |k a=>simp[eH]at hx;subst hx;simp at hs;exact hs.1.2
    |t n=>exact ht n (by simp[sF,oT]) v hx
mutual
theorem zr (bq:Bool):∀{a:AV},bf 0 a=true->(∃e a' e',exp bq e a=some (a',e'))->∃a',∀e,exp bq e a=some (a',e)
 |.p x,_,_=>⟨_,λe=>by simp only[exp];rfl⟩
 |.aC,_,_=>by cases bq<;>exact⟨_,λe=>by simp only[exp];rfl⟩
 |.undef,_,_=>⟨_,λe=>by simp only[exp];rfl⟩
 |.rp _,_,_=>⟨_,λe=>by simp only[exp];rfl⟩
 |.arr _ _ _,h,_=>by simp[bf]at h
 |.ptr _ _,h,_=>by simp[bf]at h
 |.ez _ _ _ _,h,_=>by simp[bf]at h
 |.ag cs,h,⟨e,a',e',he⟩=>by
  simp only[exp]at he;cases hx:aQ bq e cs with
  |none=>rw[hx]at he;cases he
  |some y =>
   obtain⟨cs',hc⟩:=lB bq (l:=cs) (by simpa [bf] using h) ⟨e,y.1,y.2,hx⟩;exact⟨.ag cs',λe=>by simp only[exp];rw[hc e]⟩
 |.dF cs,h,⟨e,a',e',he⟩=>by
  simp only[exp]at he;cases hx:aQ bq e cs with
  |none=>rw[hx]at he;cases he
  |some y =>
   obtain⟨cs',hc⟩:=lB bq (l:=cs) (by simpa [bf] using h) ⟨e,y.1,y.2,hx⟩;exact⟨.dF cs',λe=>by simp only[exp];rw[hc e]⟩
 |.eT t v,h,⟨e,a',e',he⟩=>by
  simp only[exp]at he;cases hx:exp bq e v with
  |none=>rw[hx]at he;cases he
  |some y =>
   obtain⟨v',hc⟩:=zr bq (a:=v) (by simpa [bf] using h) ⟨e,y.1,y.2,hx⟩;exact⟨.eT t v',λe=>by simp only[exp];rw[hc e]⟩
 |.fn f a b,h,⟨e,a',e',he⟩=>by
  simp only[bf,ab]at h;simp only[exp]at he;cases hx:aQ true e a with
  |none=>rw[hx]at he;cases he
  |some y =>
   rw[hx]at he;dsimp only at he;cases hx2:aQ true y.2 b with
   |none=>rw[hx2]at he;cases he
   |some z =>
    obtain⟨a2,ha⟩:=lB true (l:=a) h.1 ⟨e,y.1,y.2,hx⟩;obtain⟨b2,hb⟩:=lB true (l:=b) h.2 ⟨y.2,z.1,z.2,hx2⟩;exact⟨.fn f a2 b2,λe=>by simp only[exp];rw[ha e];dsimp only;rw[hb e]⟩
theorem lB (bq:Bool):∀{l:List AV},cH 0 l=true->(∃e l' e',aQ bq e l=some (l',e'))->∃l',∀e,aQ bq e l=some (l',e)
 |[],_,_=>⟨[],λe=>by simp only[aQ]⟩
 |a::r,h,⟨e,l',e',he⟩=>by
  simp only[cH,ab]at h;simp only[aQ]at he;cases hx:exp bq e a with
  |none=>rw[hx]at he;cases he
  |some y =>
   rw[hx]at he;dsimp only at he;cases hx2:aQ bq y.2 r with
   |none=>rw[hx2]at he;cases he
   |some z =>
    obtain⟨a2,ha⟩:=zr bq (a:=a) h.1 ⟨e,y.1,y.2,hx⟩;obtain⟨b2,hb⟩:=lB bq (l:=r) h.2 ⟨y.2,z.1,z.2,hx2⟩;exact⟨a2::b2,λe=>by simp only[aQ];rw[ha e];dsimp only;rw[hb e]⟩
end
mutual
theorem iZ (aK:Nat):∀{a:AV},bf 0 a=true->back [] aK a=a
 |.p x,_=>by simp[back]
 |.aC,_=>by simp[back]
 |.undef,_=>by simp[back]
 |.rp _,_=>by simp[back]
 |.arr _ _ _,h=>by simp[bf]at h
 |.ptr _ _,h=>by simp[bf]at h
 |.ez _ _ _ _,h=>by simp[bf]at h
 |.ag cs,h=>by simp only[back];rw[ju aK (by simpa [bf] using h)]
 |.dF cs,h=>by simp only[back];rw[ju aK (by simpa [bf] using h)]
 |.eT t v,h=>by simp only[back];rw[iZ aK (by simpa [bf] using h)]
 |.fn f a b,h=>by simp only[bf,ab]at h;simp only[back];rw[ju aK h.1,ju aK h.2]
theorem ju (aK:Nat):∀{l:List AV},cH 0 l=true->dh [] aK l=l
 |[],_=>rfl
 |a::r,h=>by simp only[cH,ab]at h;simp only[dh];rw[iZ aK h.1,ju aK h.2]
end
def Et (pg:fX)(call:di):Prop:=∀f args out os',mI pg f=true->call f args []=some (out,os')->os'=[]/\out.bf 0=true
theorem yo (hQ:Et pg call){f:Nat}(hf:mI pg f=true){args:List AV}(ha:cH 0 args=true){G G':Heap}{out:Out}(h:UM pg call f args G=some (out,G')) :
  G'=G/\∀H:Heap,UM pg call f args H=some (out,H):=by
 unfold UM at h;split at h
 ·cases h
 ·rename_i args' e hx;obtain⟨l',hl⟩:=lB _ ha ⟨_,_,_,hx⟩;rw[hl]at hx;cases hx;have ho:∀H:Heap,UG (H.length+1) ⟨[],H⟩ 0=some ([],⟨[],H⟩):=λH=>by simp[UG]
  rw[ho]at h;dsimp only at h;split at h
  ·cases h
  ·rename_i out' os' hc;obtain⟨rfl,hb⟩:=hQ f _ _ _ hf hc;have hback:∀n,out'.back [] n=out':=λn=>by
    cases out' with
    |ret v=>simp only[Out.back];rw[iZ n (by simpa [Out.bf] using hb)]
    |iL v=>simp only[Out.back];rw[iZ n (by simpa [Out.bf] using hb)]
   simp only[hback,b_,WU,au,UD]at h;cases h;refine⟨rfl,λH=>?_⟩;unfold UM;rw[hl];dsimp only;rw[ho];dsimp only;rw[hc];simp[hback,b_]
theorem YB (hQ:Et pg call){o:qd}{f:Nat}{args:List fe}(hk:bg o=.call f args){v:AV}{G1:Heap}(h:Uu pg call o aN G=some (.val v G1))
  (hf:mI pg f=true) (ht:∀t,t∈sF args->∀v,lk aN t=some v->bf 0 v=true):G1=G/\∀H:Heap,Uu pg call o aN H=some (.val v H):=by
 cases o with
 |call f' args' =>
  simp only[bg]at hk;split at hk
  ·rename_i hs;cases hk;simp only[Uu]at h ⊢;split at h
   ·rename_i vs hv;cases hc:UM pg call f vs G with
    |none=>rw[hc]at h;simp[jV.of]at h
    |some y =>
     rcases y with ⟨out,G2⟩
     rw[hc]at h;obtain⟨q1,q2⟩:=yo hQ hf (Dr hs hv ht) hc;cases out with
     |ret u=>simp[jV.of]at h;obtain⟨rfl,rfl⟩:=h;exact⟨q1,λH=>by rw[q2 H];rfl⟩
     |iL u=>simp[jV.of]at h
   ·cases h
  ·cases hk
 |store n x y=>cases x<;>simp[bg]at hk
 |app a b c x y=>cases x<;>simp[bg]at hk
 |load n g y=>cases y<;>simp[bg]at hk
 |len b y=>cases y<;>simp[bg]at hk
 |iY y=>cases y<;>simp[bg]at hk
 |eC sz YA y i=>cases y<;>simp[bg]at hk
 |_=>simp[bg]at hk
theorem uG {o:qd}(hk:bg o=.alloc){v:AV}{G1:Heap}(h:Uu pg call o aN G=some (.val v G1)):∃ob,G1=G++[ob]:=by
 cases o with
 |g7 sz b z x y =>
  simp only[Uu]at h;split at h
  ·split at h
   ·cases h;exact⟨_,rfl⟩
   ·cases h
  ·cases h
 |call f args=>simp only[bg]at hk;split at hk<;>cases hk
 |store n x y=>cases x<;>simp[bg]at hk
 |app a b c x y=>cases x<;>simp[bg]at hk
 |load n g y=>cases y<;>simp[bg]at hk
 |len b y=>cases y<;>simp[bg]at hk
 |iY y=>cases y<;>simp[bg]at hk
 |eC sz YA y i=>cases y<;>simp[bg]at hk
 |_=>simp[bg]at hk
theorem zt {o:qd}{f:Nat}{args:List fe}(hk:bg o=.call f args){v:AV}{G1:Heap}(h:Uu pg call o aN G=some (.val v G1))
  (hka:bC pg f=false) (ht:∀t,t∈sF args->∀v,lk aN t=some v->gC v=true):∀id:Nat,id<G.length->WX G1[id]? G[id]?:=by
 cases o with
 |call f' args' =>
  simp only[bg]at hk;split at hk
  ·rename_i hs;cases hk;simp only[Uu]at h;split at h
   ·rename_i vs hv;cases hc:UM pg call f vs G with
    |none=>rw[hc]at h;simp[jV.of]at h
    |some y =>
     rcases y with ⟨out,G2⟩
     rw[hc]at h;cases out with
     |ret u=>simp[jV.of]at h;obtain⟨rfl,rfl⟩:=h;exact Er hka (Es hs hv ht) hc
     |iL u=>simp[jV.of]at h
   ·cases h
  ·cases hk
 |store n x y=>cases x<;>simp[bg]at hk
 |app a b c x y=>cases x<;>simp[bg]at hk
 |load n g y=>cases y<;>simp[bg]at hk
 |len b y=>cases y<;>simp[bg]at hk
 |iY y=>cases y<;>simp[bg]at hk
 |eC sz YA y i=>cases y<;>simp[bg]at hk
 |_=>simp[bg]at hk
end
end Go.Proofs.Z
