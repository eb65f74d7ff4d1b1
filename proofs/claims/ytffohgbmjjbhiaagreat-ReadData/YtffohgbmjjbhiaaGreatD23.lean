/- A part of the proof. -/
import Derived.Test.YtffohgbmjjbhiaaGreatD22
import Derived.Test.YtffohgbmjjbhiaaGreatD16
import Derived.Test.YtffohgbmjjbhiaaGreatD18
import Derived.Test.YtffohgbmjjbhiaaGreatD12
set_option linter.all false
namespace Go.Proofs.Z
section
variable {pg:fX}{G:Heap}
def Yz:aU:=(.ops [1,2,3,7,8] [⟨some 13,.Ve 2 (.t 3),none⟩,⟨some 14,.load 1 false (.t 13),none⟩,⟨some 15,.bin .eql .str (.t 14) (.k (.p (.s [43]))),none⟩,⟨some 16,.Vo (.t 15),none⟩,⟨some 17,.Ve 2 (.t 3),some (16,false)⟩,⟨some 18,.load 1 false (.t 17),some (16,false)⟩,⟨some 19,.bin .eql .str (.t 18) (.k (.p (.s [45]))),some (16,false)⟩,⟨some 20,.pick (.t 16) (.k (.p (.b true))) (.t 19),none⟩,⟨some 21,.Vo (.t 20),none⟩,⟨some 22,.Ve 2 (.t 3),some (21,false)⟩,⟨some 23,.load 1 false (.t 22),some (21,false)⟩,⟨some 24,.bin .eql .str (.t 23) (.k (.p (.s [42]))),some (21,false)⟩,⟨some 25,.pick (.t 21) (.k (.p (.b true))) (.t 24),none⟩,⟨some 26,.Vo (.t 25),none⟩,⟨some 27,.Ve 2 (.t 3),some (26,false)⟩,⟨some 28,.load 1 false (.t 27),some (26,false)⟩,⟨some 29,.bin .eql .str (.t 28) (.k (.p (.s [47]))),some (26,false)⟩,⟨some 30,.pick (.t 26) (.k (.p (.b true))) (.t 29),none⟩,⟨some 31,.Vo (.t 30),none⟩,⟨some 32,.Ve 2 (.t 3),some (31,false)⟩,⟨some 33,.load 1 false (.t 32),some (31,false)⟩,⟨some 34,.bin .eql .str (.t 33) (.k (.p (.s [60]))),some (31,false)⟩,⟨some 35,.pick (.t 31) (.k (.p (.b true))) (.t 34),none⟩,⟨some 36,.Vo (.t 35),none⟩,⟨some 37,.Ve 2 (.t 3),some (36,false)⟩,⟨some 38,.load 1 false (.t 37),some (36,false)⟩,⟨some 39,.bin .eql .str (.t 38) (.k (.p (.s [61,61]))),some (36,false)⟩,⟨some 40,.pick (.t 36) (.k (.p (.b true))) (.t 39),none⟩,⟨some 8,.Vo (.t 40),none⟩])
theorem me:MX=⟨(.seq (.ops [1,2,3] [⟨some 3,.box (.t 0),none⟩,⟨some 6,.Vo (.k (.p (.b false))),none⟩]) (.seq (.ops [1,2,3,7] [⟨some 10,.Ve 3 (.t 3),none⟩,⟨some 11,.load 1 false (.t 10),none⟩,⟨some 12,.len false (.t 11),none⟩,⟨some 7,.Vo (.t 12),none⟩]) (.seq Yz (.seq (.ops [1,2,3,7,8,9] [⟨some 41,.Ve 2 (.t 3),none⟩,⟨some 42,.load 1 false (.t 41),none⟩,⟨some 43,.bin .eql .str (.t 42) (.k (.p (.s []))),none⟩,⟨some 44,.Vo (.t 43),none⟩,⟨some 45,.Ve 1 (.t 3),some (44,true)⟩,⟨some 46,.load 1 false (.t 45),some (44,true)⟩,⟨some 47,.bin .eql .int (.t 46) (.k (.p (.i .i64 0))),some (44,true)⟩,⟨some 48,.pick (.t 44) (.t 47) (.k (.p (.b false))),none⟩,⟨some 9,.Vo (.t 48),none⟩]) (.seq (.seq (.ops [1,3,7,8,9,49] [⟨some 49,.Vo (.t 2),none⟩]) (.cond (.t 49) (.seq (.ops [6] [⟨some 50,.Ve 0 (.t 3),none⟩,⟨some 51,.load 1 false (.t 50),none⟩,⟨some 52,.bin .eql .int (.t 51) (.k (.p (.i .i64 6))),none⟩,⟨some 53,.Vo (.t 52),none⟩,⟨some 54,.Ve 2 (.t 3),some (53,true)⟩,⟨some 55,.load 1 false (.t 54),some (53,true)⟩,⟨some 56,.call 67 [(.t 55)],some (53,true)⟩,⟨some 57,.pick (.t 53) (.t 56) (.k (.p (.b false))),none⟩,⟨some 58,.Vo (.t 57),none⟩,⟨some 59,.Ve 1 (.t 3),some (58,true)⟩,⟨some 60,.load 1 false (.t 59),some (58,true)⟩,⟨some 61,.bin .geq .int (.t 60) (.k (.p (.i .i64 0))),some (58,true)⟩,⟨some 62,.pick (.t 58) (.t 61) (.k (.p (.b false))),none⟩,⟨some 63,.Vo (.t 62),none⟩,⟨some 64,.Ve 1 (.t 3),some (63,true)⟩,⟨some 65,.load 1 false (.t 64),some (63,true)⟩,⟨some 66,.bin .leq .int (.t 65) (.k (.p (.i .i64 8))),some (63,true)⟩,⟨some 67,.pick (.t 63) (.t 66) (.k (.p (.b false))),none⟩,⟨some 68,.Vo (.t 67),none⟩,⟨some 69,.Vo (.t 7),some (68,true)⟩,⟨some 70,.bin .eql .int (.t 69) (.k (.p (.i .i64 1))),some (68,true)⟩,⟨some 71,.pick (.t 68) (.t 70) (.k (.p (.b false))),none⟩,⟨some 6,.Vo (.t 71),none⟩]) .ret) .skip)) (.seq (.seq (.ops [1,3,7,8,9,73] [⟨some 72,.Ve 0 (.t 3),none⟩,⟨some 73,.load 1 false (.t 72),none⟩]) (.block 0 (.seq (.ops [1,3,7,8,9,73,74] [⟨some 75,.bin .eql .int (.t 73) (.k (.p (.i .i64 1))),none⟩,⟨some 74,.Vo (.t 75),none⟩]) (.cond (.t 74) (.seq (.ops [6] [⟨some 76,.Ve 2 (.t 3),none⟩,⟨some 77,.load 1 false (.t 76),none⟩,⟨some 78,.bin .eql .str (.t 77) (.k (.p (.s []))),none⟩,⟨some 79,.Vo (.t 78),none⟩,⟨some 80,.Vo (.t 7),some (79,true)⟩,⟨some 81,.bin .eql .int (.t 80) (.k (.p (.i .i64 0))),some (79,true)⟩,⟨some 82,.pick (.t 79) (.t 81) (.k (.p (.b false))),none⟩,⟨some 83,.Vo (.t 82),none⟩,⟨some 84,.Ve 1 (.t 3),some (83,true)⟩,⟨some 85,.load 1 false (.t 84),some (83,true)⟩,⟨some 86,.bin .geq .int (.t 85) (.k (.p (.i .i64 0))),some (83,true)⟩,⟨some 87,.pick (.t 83) (.t 86) (.k (.p (.b false))),none⟩,⟨some 88,.Vo (.t 87),none⟩,⟨some 89,.Ve 1 (.t 3),some (88,true)⟩,⟨some 90,.load 1 false (.t 89),some (88,true)⟩,⟨some 91,.Vo (.t 1),some (88,true)⟩,⟨some 92,.bin .lss .int (.t 90) (.t 91),some (88,true)⟩,⟨some 93,.pick (.t 88) (.t 92) (.k (.p (.b false))),none⟩,⟨some 6,.Vo (.t 93),none⟩]) .ret) (.seq (.ops [3,7,8,9,73,94] [⟨some 95,.bin .eql .int (.t 73) (.k (.p (.i .i64 2))),none⟩,⟨some 94,.Vo (.t 95),none⟩]) (.cond (.t 94) (.seq (.ops [6] [⟨some 96,.Vo (.t 9),none⟩,⟨some 97,.Vo (.t 96),none⟩,⟨some 98,.Vo (.t 7),some (97,true)⟩,⟨some 99,.bin .eql .int (.t 98) (.k (.p (.i .i64 1))),some (97,true)⟩,⟨some 100,.pick (.t 97) (.t 99) (.k (.p (.b false))),none⟩,⟨some 6,.Vo (.t 100),none⟩]) .ret) (.seq (.ops [3,7,8,9,73,101] [⟨some 102,.bin .eql .int (.t 73) (.k (.p (.i .i64 3))),none⟩,⟨some 101,.Vo (.t 102),none⟩]) (.cond (.t 101) (.seq (.ops [6] [⟨some 103,.Vo (.t 9),none⟩,⟨some 104,.Vo (.t 103),none⟩,⟨some 105,.Vo (.t 7),some (104,true)⟩,⟨some 106,.bin .eql .int (.t 105) (.k (.p (.i .i64 2))),some (104,true)⟩,⟨some 107,.pick (.t 104) (.t 106) (.k (.p (.b false))),none⟩,⟨some 6,.Vo (.t 107),none⟩]) .ret) (.seq (.ops [3,7,8,9,73,108] [⟨some 109,.bin .eql .int (.t 73) (.k (.p (.i .i64 4))),none⟩,⟨some 108,.Vo (.t 109),none⟩]) (.cond (.t 108) (.seq (.ops [6] [⟨some 110,.Ve 2 (.t 3),none⟩,⟨some 111,.load 1 false (.t 110),none⟩,⟨some 112,.call 67 [(.t 111)],none⟩,⟨some 113,.Vo (.t 112),none⟩,⟨some 114,.Ve 1 (.t 3),some (113,true)⟩,⟨some 115,.load 1 false (.t 114),some (113,true)⟩,⟨some 116,.bin .eql .int (.t 115) (.k (.p (.i .i64 0))),some (113,true)⟩,⟨some 117,.pick (.t 113) (.t 116) (.k (.p (.b false))),none⟩,⟨some 118,.Vo (.t 117),none⟩,⟨some 119,.Vo (.t 7),some (118,true)⟩,⟨some 120,.bin .leq .int (.t 119) (.k (.p (.i .i64 8))),some (118,true)⟩,⟨some 121,.pick (.t 118) (.t 120) (.k (.p (.b false))),none⟩,⟨some 6,.Vo (.t 121),none⟩]) .ret) (.seq (.ops [3,7,8,9,73,122] [⟨some 123,.bin .eql .int (.t 73) (.k (.p (.i .i64 5))),none⟩,⟨some 122,.Vo (.t 123),none⟩]) (.cond (.t 122) (.seq (.ops [6] [⟨some 124,.Vo (.t 9),none⟩,⟨some 125,.Vo (.t 124),none⟩,⟨some 126,.Vo (.t 7),some (125,true)⟩,⟨some 127,.bin .geq .int (.t 126) (.k (.p (.i .i64 2))),some (125,true)⟩,⟨some 128,.pick (.t 125) (.t 127) (.k (.p (.b false))),none⟩,⟨some 129,.Vo (.t 128),none⟩,⟨some 130,.Vo (.t 7),some (129,true)⟩,⟨some 131,.bin .leq .int (.t 130) (.k (.p (.i .i64 9))),some (129,true)⟩,⟨some 132,.pick (.t 129) (.t 131) (.k (.p (.b false))),none⟩,⟨some 6,.Vo (.t 132),none⟩]) .ret) (.seq (.ops [3,7,8,9,73,133] [⟨some 134,.bin .eql .int (.t 73) (.k (.p (.i .i64 7))),none⟩,⟨some 133,.Vo (.t 134),none⟩]) (.cond (.t 133) (.seq (.ops [6] [⟨some 135,.Ve 2 (.t 3),none⟩,⟨some 136,.load 1 false (.t 135),none⟩,⟨some 137,.bin .eql .str (.t 136) (.k (.p (.s []))),none⟩,⟨some 138,.Vo (.t 137),none⟩,⟨some 139,.Vo (.t 7),some (138,true)⟩,⟨some 140,.bin .eql .int (.t 139) (.k (.p (.i .i64 0))),some (138,true)⟩,⟨some 141,.pick (.t 138) (.t 140) (.k (.p (.b false))),none⟩,⟨some 6,.Vo (.t 141),none⟩]) .ret) (.seq (.ops [3,7,8,9,73,142] [⟨some 143,.bin .eql .int (.t 73) (.k (.p (.i .i64 8))),none⟩,⟨some 142,.Vo (.t 143),none⟩]) (.cond (.t 142) (.seq (.ops [6] [⟨some 144,.Vo (.t 8),none⟩,⟨some 145,.Vo (.t 144),none⟩,⟨some 146,.Ve 1 (.t 3),some (145,true)⟩,⟨some 147,.load 1 false (.t 146),some (145,true)⟩,⟨some 148,.bin .eql .int (.t 147) (.k (.p (.i .i64 0))),some (145,true)⟩,⟨some 149,.pick (.t 145) (.t 148) (.k (.p (.b false))),none⟩,⟨some 150,.Vo (.t 149),none⟩,⟨some 151,.Vo (.t 7),some (150,true)⟩,⟨some 152,.bin .eql .int (.t 151) (.k (.p (.i .i64 2))),some (150,true)⟩,⟨some 153,.pick (.t 150) (.t 152) (.k (.p (.b false))),none⟩,⟨some 6,.Vo (.t 153),none⟩]) .ret) (.seq (.ops [7,9,154] [⟨some 155,.bin .eql .int (.t 73) (.k (.p (.i .i64 9))),none⟩,⟨some 154,.Vo (.t 155),none⟩]) (.cond (.t 154) (.seq (.ops [6] [⟨some 156,.Vo (.t 9),none⟩,⟨some 157,.Vo (.t 156),none⟩,⟨some 158,.Vo (.t 7),some (157,true)⟩,⟨some 159,.bin .eql .int (.t 158) (.k (.p (.i .i64 0))),some (157,true)⟩,⟨some 160,.pick (.t 157) (.t 159) (.k (.p (.b false))),none⟩,⟨some 6,.Vo (.t 160),none⟩]) .ret) .skip)))))))))))))))))) (.seq (.ops [6] [⟨some 6,.Vo (.k (.p (.b false))),none⟩]) .ret))))))),[.t 6],false,false⟩:=rfl
def yb (s:List UInt8):Bool:=s == [43] || s == [45] || s == [42] || s == [47] || s == [60] || s == [61,61]
theorem wD (k n:Int)(s:List UInt8)(L0:List (List PV))(f:Int)(b:Bool)(m:Int) :
  bo pg (E pg) (L pg) 0 Yz [(1,.p (.i .i64 f)),(2,.p (.b b)),(3,.ptr 0 0),(7,.p (.i .i64 m))] [.box [.p (iv k),.p (iv n),.p (.s s),.p (.sl L0)]] =
   some (.normal,[(1,.p (.i .i64 f)),(2,.p (.b b)),(3,.ptr 0 0),(7,.p (.i .i64 m)),(8,.p (.b (yb s)))],[.box [.p (iv k),.p (iv n),.p (.s s),.p (.sl L0)]]):=by
 unfold yb;by_cases a1:s=[43]
 ·simp[Yz,aj,a1]
 by_cases a2:s=[45]
 ·simp[Yz,aj,a2]
 by_cases a3:s=[42]
 ·simp[Yz,aj,a3]
 by_cases a4:s=[47]
 ·simp[Yz,aj,a4]
 by_cases a5:s=[60]
 ·simp[Yz,aj,a5]
 by_cases a6:s=[61,61]
 ·simp[Yz,aj,a6]
 ·simp[Yz,aj,a1,a2,a3,a4,a5,a6]
def sG (k n:Int)(s:List UInt8)(m:Nat)(free:Int)(alt:Bool):Bool :=
 if alt=true then decide (k=6) && Yy s && decide (0<=n) && decide (n<=8) && decide (m=1)
 else if k=1 then decide (s=[]) && decide (m=0) && decide (0<=n) && decide (n<free)
 else if k=2 then decide (s=[]) && decide (n=0) && decide (m=1)
 else if k=3 then decide (s=[]) && decide (n=0) && decide (m=2)
 else if k=4 then Yy s && decide (n=0) && decide (m<=8)
 else if k=5 then decide (s=[]) && decide (n=0) && decide (2<=m) && decide (m<=9)
 else if k=7 then decide (s=[]) && decide (m=0)
 else if k=8 then yb s && decide (n=0) && decide (m=2)
 else if k=9 then decide (s=[]) && decide (n=0) && decide (m=0)
 else false
set_option maxHeartbeats 8000000 in
theorem t48 (h:bY pg)(k n:Int)(s:List UInt8)(l:List Tm)(hs:s.length<2 ^ 63)(free:Int)(alt:Bool):UM pg (E pg) 48 [.ag (bP (Tm.mk k n s l).aw),.p (.i .i64 free),.p (.b alt)] G=some (.ret (.p (.b (sG k n s l.length free alt))),G):=by
 refine Ut ?_ (by simp only[Tm.aw];rfl) rfl;rw[h.run (x:=MX)];have Qd:=λG=>t67 (G:=G) h hs;have hL:(l.map Tm.aw).length=l.length:=by simp
 simp only[Tm.aw,bP,Tm.ba,ai,au];generalize l.map Tm.aw=L0 at hL ⊢;generalize l.length=m at hL ⊢;generalize hcs:Yy s=cb at Qd;have z:=gB (s=[]);have w:=gB (n=0);have m8:((m:Int)<=8)=(m<=8):=by rw[eq_iff_iff];omega
 have m9:((m:Int)<=9)=(m<=9):=by rw[eq_iff_iff];omega
 have m2:((2:Int)<=(m:Int))=(2<=m):=by rw[eq_iff_iff];omega
 have e0:((m:Int)=0)=(m=0):=by rw[eq_iff_iff];omega
 have e1:((m:Int)=1)=(m=1):=by rw[eq_iff_iff];omega
 have e2:((m:Int)=2)=(m=2):=by rw[eq_iff_iff];omega
 cases alt with
 |true =>
  rcases gB (k=6) with c1|c1
  ·rcases z with z|z<;>rcases w with w|w<;>cases cb<;>rcases gB (0<=n) with b1|b1<;>rcases gB (n<=8) with b2|b2<;>simp[me,aj,wD,sG,hL,Qd,hcs,z,w,c1,b1,b2,e1]
  ·rcases z with z|z<;>rcases w with w|w<;>simp[me,aj,wD,sG,hL,Qd,hcs,z,w,c1]
 |false =>
  rcases gB (k=1) with c1|c1
  ·rcases z with z|z<;>rcases w with w|w<;>rcases gB (m=0) with b0|b0<;>rcases gB (0<=n) with b1|b1<;>rcases gB (n<free) with b2|b2<;>simp[me,aj,wD,sG,hL,Qd,hcs,z,w,c1,b1,b2,e0,b0]
  rcases gB (k=2) with c2|c2
  ·rcases z with z|z<;>rcases w with w|w<;>simp[me,aj,wD,sG,hL,Qd,z,w,c1,c2,e1]
  rcases gB (k=3) with c3|c3
  ·rcases z with z|z<;>rcases w with w|w<;>simp[me,aj,wD,sG,hL,Qd,z,w,c1,c2,c3,e2]
  rcases gB (k=4) with c4|c4
  ·rcases z with z|z<;>rcases w with w|w<;>cases cb<;>simp[me,aj,wD,sG,hL,Qd,hcs,z,w,c1,c2,c3,c4,m8]
  rcases gB (k=5) with c5|c5
  ·rcases z with z|z<;>rcases w with w|w<;>rcases gB (2<=m) with b0|b0<;>simp[me,aj,wD,sG,hL,Qd,z,w,c1,c2,c3,c4,c5,m2,m9,b0]
  rcases gB (k=7) with c7|c7
  ·rcases z with z|z<;>rcases w with w|w<;>simp[me,aj,wD,sG,hL,Qd,z,w,c1,c2,c3,c4,c5,c7,e0]
  rcases gB (k=8) with c8|c8
  ·generalize ho:yb s=o;rcases z with z|z<;>rcases w with w|w<;>cases o<;>simp[me,aj,wD,sG,hL,Qd,ho,z,w,c1,c2,c3,c4,c5,c7,c8,e2]
  rcases gB (k=9) with c9|c9
  ·rcases z with z|z<;>rcases w with w|w<;>simp[me,aj,wD,sG,hL,Qd,z,w,c1,c2,c3,c4,c5,c7,c8,c9,e0]
  ·rcases z with z|z<;>rcases w with w|w<;>simp[me,aj,wD,sG,hL,Qd,z,w,c1,c2,c3,c4,c5,c7,c8,c9]
def Tm.name:Tm->List UInt8
 |.mk _ _ s _=>s
theorem HR (a b:Int)(c:List UInt8)(d:List (List PV)):aS 4 [iv a,iv b,.s c,.sl d]=true:=rfl
theorem Md (h:bY pg){body:aU}(hb:body=oX)(f n:Int)(s:List UInt8)(l:List Tm)(hl:l.length<2 ^ 63)(i:Nat)(a:Tm)(hx:l[i]?=some a)(h1:1<=i) :
  L pg 0 [1,3,7,8] body [(1,.p (.i .i64 f)),(3,.ptr 0 0),(7,.p (.i .i64 i)),(8,.p (.i .i64 1))] [.box [.p (iv 5),.p (iv n),.p (.s s),.p (.sl (l.map Tm.aw))]] =
   bif allI (λ_ b=>decide (¬ Tm.name b=a.name)) 1 ((l.take i).drop 1) then some (.exit 2,[(1,.p (.i .i64 f)),(3,.ptr 0 0),(7,.p (.i .i64 i)),(8,.p (.i .i64 i)),(59,.p (.b false))],[.box [.p (iv 5),.p (iv n),.p (.s s),.p (.sl (l.map Tm.aw))]])
   else some (.ret,[(6,.p (.b false))],[.box [.p (iv 5),.p (iv n),.p (.s s),.p (.sl (l.map Tm.aw))]]):=by
 have hil:i<l.length:=by
  have:=(gE hx).1;exact this
 have hlt:(l.take i).length=i:=by simp;omega
 obtain⟨ka,na,sa,la⟩:=a;have hxe:l[i]=.mk ka na sa la:=(gE hx).2;have:=BN (pg:=pg) (aK:=0) (live:=[1,3,7,8]) hb (λj=>[(1,.p (.i .i64 f)),(3,.ptr 0 0),(7,.p (.i .i64 i)),(8,.p (.i .i64 (j:Nat)))]) [.box [.p (iv 5),.p (iv n),.p (.s s),.p (.sl (l.map Tm.aw))]] [.box [.p (iv 5),.p (iv n),.p (.s s),.p (.sl (l.map Tm.aw))]]
  (l.take i) 2 (λ_ b=>decide (¬ Tm.name b=sa)) [(6,.p (.b false))] [(1,.p (.i .i64 f)),(3,.ptr 0 0),(7,.p (.i .i64 i)),(8,.p (.i .i64 i)),(59,.p (.b false))]
  (λj b hj hy hy' hp=>by
   have hji:j<i:=by omega
   have hjl:j<l.length:=by omega
   have hyl:l[j]?=some b:=by rw[List.getElem?_take]at hy;simpa [hji] using hy
   obtain⟨kb,nb,sb,lb⟩:=b;have hye:l[j]=.mk kb nb sb lb:=(gE hyl).2;have hp':¬ sb=sa:=UC hp;have w1:=cR ((j:Int)+1);have hji':(j:Int)<i:=by omega
   subst hb;simp[oX,aj,hji',hjl,hil,hyl,hye,hx,hxe,Tm.aw,HR,az hp',w1,gc,exp,aQ,UG])
  (λj b hj hy hy' hp=>by
   have hji:j<i:=by omega
   have hjl:j<l.length:=by omega
   have hyl:l[j]?=some b:=by rw[List.getElem?_take]at hy;simpa [hji] using hy
   obtain⟨kb,nb,sb,lb⟩:=b;have hye:l[j]=.mk kb nb sb lb:=(gE hyl).2;have hp':sb=sa:=VQ.1 (of_decide_eq_false hp);have hji':(j:Int)<i:=by omega
   subst hb;simp[oX,aj,hji',hjl,hil,hyl,hye,hx,hxe,Tm.aw,HR,Ur hp'])
  (by subst hb;simp[oX,aj,hlt]) (i-1) 1 (by omega)
 simp only[WW]at this;exact this
theorem Me (h:bY pg){body:aU}(hb:body=oX)(f k n:Int)(s:List UInt8)(L0:List (List PV))(i:Nat)(h1:i=0\/¬ k=5) :
  L pg 0 [1,3,7,8] body [(1,.p (.i .i64 f)),(3,.ptr 0 0),(7,.p (.i .i64 i)),(8,.p (.i .i64 1))] [.box [.p (iv k),.p (iv n),.p (.s s),.p (.sl L0)]] =
   some (.exit 2,[(1,.p (.i .i64 f)),(3,.ptr 0 0),(7,.p (.i .i64 i)),(8,.p (.i .i64 1)),(59,.p (.b false))],[.box [.p (iv k),.p (iv n),.p (.s s),.p (.sl L0)]]):=by
 subst hb;rw[dA rfl];by_cases c1:(1:Int)<i
 ·have c2:¬ k=5:=by omega
  simp[oX,aj,Ur c1,c2]
 ·simp[oX,aj,az c1]
mutual
def Tm.may:Tm->Int->Bool->Bool
 |.mk k n s l,free,alt=>!decide (free<0) && sG k n s l.length free alt && Tm.mf (decide (k=5)) [] l (if k=2 then free+1 else if k=6 then free+n else free)
def Tm.mf (c5:Bool):List Tm->List Tm->Int->Bool
 |_,[],_=>true
 |pre,a::r,f=>a.may f (c5 && decide (0<pre.length)) && (!c5 || allI (λ_ b=>decide (¬ Tm.name b=a.name)) 1 (pre.drop 1)) && Tm.mf c5 (pre++[a]) r f
end
def Ci (c5:Bool)(f:Int)(l:List Tm)(i:Nat)(a:Tm):Bool:=a.may f (c5 && decide (0<i)) && (!c5 || allI (λ_ b=>decide (¬ Tm.name b=a.name)) 1 ((l.take i).drop 1))
theorem yc (c5:Bool)(f:Int)(l:List Tm):∀(r pre:List Tm),l=pre++r->allI (Ci c5 f l) pre.length r=Tm.mf c5 pre r f
 |[],pre,h=>by simp[allI,Tm.mf]
 |a::r,pre,h=>by
  have ih:=yc c5 f l r (pre++[a]) (by simp[h]);have ht:l.take pre.length=pre:=by rw[h];simp
  simp only[allI,Tm.mf,Ci,ht];rw[<- ih];simp
mutual
def Tm.depth:Tm->Nat
 |.mk _ _ _ l=>Tm.dp l+1
def Tm.dp:List Tm->Nat
 |[]=>0
 |a::r=>max a.depth (Tm.dp r)
end
theorem Tm.VE:∀{l:List Tm} {a:Tm},a∈l->a.depth<=Tm.dp l
 |b::r,a,h=>by
  simp only[Tm.dp];rcases aA.1 h with rfl|h
  ·omega
  ·have:=Tm.VE h;omega
theorem OE (h:bY pg)(f k n:Int)(s:List UInt8)(l:List Tm)(hl:l.length<2 ^ 63)
  (ih:∀t∈l,∀(alt:Bool) (G:Heap),UM pg (E pg) 35 [.ag (bP t.aw),.p (.i .i64 f),.p (.b alt)] G=some (.ret (.p (.b (t.may f alt))),G)) :
  L pg 0 [1,3,7] pw [(1,.p (.i .i64 f)),(3,.ptr 0 0),(7,.p (.i .i64 0))] [.box [.p (iv k),.p (iv n),.p (.s s),.p (.sl (l.map Tm.aw))]] =
   bif Tm.mf (decide (k=5)) [] l f then some (.exit 0,[(1,.p (.i .i64 f)),(3,.ptr 0 0),(7,.p (.i .i64 l.length)),(34,.p (.b false))],[.box [.p (iv k),.p (iv n),.p (.s s),.p (.sl (l.map Tm.aw))]])
   else some (.ret,[(6,.p (.b false))],[.box [.p (iv k),.p (iv n),.p (.s s),.p (.sl (l.map Tm.aw))]]):=by
 have k35:bC pg 35=false:=h.bq (x:=H7) rfl;have e2:∀t:Tm,t.aw.length=4:=λt=>by cases t;rfl
 have e3:∀t:Tm,t.aw.take 4=t.aw:=λt=>by cases t;rfl
 have hL:=kI (pg:=pg) (aK:=0) (live:=[1,3,7]) (body:=pw) rfl (λi=>[(1,.p (.i .i64 f)),(3,.ptr 0 0),(7,.p (.i .i64 (i:Nat)))]) [.box [.p (iv k),.p (iv n),.p (.s s),.p (.sl (l.map Tm.aw))]]
  [.box [.p (iv k),.p (iv n),.p (.s s),.p (.sl (l.map Tm.aw))]] l 0 (Ci (decide (k=5)) f l) [(6,.p (.b false))] [(1,.p (.i .i64 f)),(3,.ptr 0 0),(7,.p (.i .i64 l.length)),(34,.p (.b false))]
  (λi a hi hx hx' hp=>by
   have w1:=cR ((i:Int)+1);simp only[Ci,ab]at hp;by_cases c1:k=5
   ·subst c1;by_cases c2:i=0
    ·subst c2;have e1:=λG=>ih a (aE hx) false G;have hp1:a.may f false=true:=by simpa using hp.1
     rw[hp1]at e1;simp only[bP]at e1;have hb:=Me h (body:=oX) rfl f 5 n s (l.map Tm.aw) 0 (.inl rfl);simp only[fW]at hb;simp[pw,aj,hi,hx,hx',Tm.aS,e1,e2,e3,k35,cR 1,gc,exp,aQ,UG,hb]
    ·have e1:=λG=>ih a (aE hx) true G;have c2':(0:Int)<i:=by omega
     have c2'':0<i:=by omega
     have hp1:a.may f true=true:=by simpa [c2''] using hp.1
     have hp2:allI (λ_ b=>decide (¬ Tm.name b=a.name)) 1 ((l.take i).drop 1)=true:=by simpa using hp.2
     rw[hp1]at e1;simp only[bP]at e1;have hb:=Md h (body:=oX) rfl f n s l hl i a hx (by omega);rw[hp2]at hb;simp only[cond_true]at hb;simp[pw,aj,hi,hx,hx',Tm.aS,e1,e2,e3,k35,Ur c2',Ur c2'',w1,gc,exp,aQ,UG,hb]
   ·have e1:=λG=>ih a (aE hx) false G;have hp1:a.may f false=true:=by simpa [c1] using hp.1
    rw[hp1]at e1;simp only[bP]at e1;have hb:=Me h (body:=oX) rfl f k n s (l.map Tm.aw) i (.inr c1);simp[pw,aj,hi,hx,hx',Tm.aS,e1,e2,e3,k35,c1,w1,gc,exp,aQ,UG,hb])
  (λi a hi hx hx' hp=>by
   by_cases c1:k=5
   ·subst c1;by_cases c2:i=0
    ·subst c2;have e1:=λG=>ih a (aE hx) false G;have hp1:a.may f false=false:=by simpa [Ci,allI] using hp
     rw[hp1]at e1;simp only[bP]at e1;simp[pw,aj,hi,hx,hx',Tm.aS,e1,e2,e3,k35]
    ·have e1:=λG=>ih a (aE hx) true G;have c2':(0:Int)<i:=by omega
     have c2'':0<i:=by omega
     simp only[bP]at e1;cases hp1:a.may f true with
     |false =>
      rw[hp1]at e1;simp[pw,aj,hi,hx,hx',Tm.aS,e1,e2,e3,k35,Ur c2',Ur c2'']
     |true =>
      rw[hp1]at e1;have hp2:allI (λ_ b=>decide (¬ Tm.name b=a.name)) 1 ((l.take i).drop 1)=false:=by simpa [Ci,c2'',hp1] using hp
      have hb:=Md h (body:=oX) rfl f n s l hl i a hx (by omega);rw[hp2]at hb;simp only[cond_false]at hb;simp[pw,aj,hi,hx,hx',Tm.aS,e1,e2,e3,k35,Ur c2',Ur c2'',gc,exp,aQ,UG,hb]
   ·have e1:=λG=>ih a (aE hx) false G;have hp1:a.may f false=false:=by simpa [Ci,c1] using hp
    rw[hp1]at e1;simp only[bP]at e1;simp[pw,aj,hi,hx,hx',Tm.aS,e1,e2,e3,k35,c1])
  (by simp[pw,aj])
 rw[<- yc (decide (k=5)) f l l [] rfl];exact hL
theorem t35 (h:bY pg):∀(t:Tm),t.wq->∀(free:Int) (alt:Bool) (G:Heap),free+9 * t.depth<=2 ^ 60->-2 ^ 60<=free ->
  UM pg (E pg) 35 [.ag (bP t.aw),.p (.i .i64 free),.p (.b alt)] G=some (.ret (.p (.b (t.may free alt))),G):=by
 refine Tm.ind λk n s l ih hf free alt G hb hb'=>?_;have hfl:l.length<2 ^ 63/\s.length<2 ^ 63/\∀t∈l,t.wq:=by cases hf with|mk h1 h2 h3=>exact⟨h1,h2,h3⟩
 have hd:∀t∈l,t.depth+1<=(Tm.mk k n s l).depth:=λt ht=>by
  have:=Tm.VE ht;simp only[Tm.depth];omega
 have QJ:=λG=>t48 (G:=G) h k n s l hfl.2.1 free alt;simp only[Tm.aw,Tm.ba,bP,ai,au]at QJ;refine Ut ?_ (by simp only[Tm.aw];rfl) rfl;rw[h.run (x:=H7)];simp only[Tm.may];by_cases c1:free<0
 ·simp[H7,aj,Tm.aw,bP,Tm.ba,c1]
 cases hh:sG k n s l.length free alt with
 |false =>
  rw[hh]at QJ;simp[H7,aj,Tm.aw,bP,Tm.ba,c1,QJ]
 |true =>
  rw[hh]at QJ;by_cases c2:k=2
  ·subst c2;have w1:=cR (free+1);have hL:=OE h (free+1) 2 n s l hfl.1 (λt ht alt G=>ih t ht (hfl.2.2 t ht) (free+1) alt G (by have:=hd t ht;omega) (by omega));simp[H7,aj,Tm.aw,bP,Tm.ba,c1,QJ,w1,gc,exp,aQ,UG];rw[hL];cases hz:Tm.mf (decide ((2:Int)=5)) [] l (free+1)<;>simp[aj]at hz ⊢<;>simp[hz]
  by_cases c3:k=6
  ·subst c3;have hn:0<=n/\n<=8:=by
    cases alt with
    |true=>simp[sG]at hh;omega
    |false=>simp[sG]at hh
   have w1:=cR (free+n);have hL:=OE h (free+n) 6 n s l hfl.1 (λt ht alt G=>ih t ht (hfl.2.2 t ht) (free+n) alt G (by have:=hd t ht;omega) (by omega));simp[H7,aj,Tm.aw,bP,Tm.ba,c1,QJ,w1,gc,exp,aQ,UG];rw[hL];cases hz:Tm.mf (decide ((6:Int)=5)) [] l (free+n)<;>simp[aj]at hz ⊢<;>simp[hz]
  ·have hL:=OE h free k n s l hfl.1 (λt ht alt G=>ih t ht (hfl.2.2 t ht) free alt G (by have:=hd t ht;omega) (by omega));simp[H7,aj,Tm.aw,bP,Tm.ba,c1,c2,c3,QJ,gc,exp,aQ,UG];rw[hL];cases hz:Tm.mf (decide (k=5)) [] l free<;>simp[aj]
theorem t18 (h:bY pg){t:Tm}(ht:t.wq)(hd:t.depth<=2 ^ 40):UM pg (E pg) 18 [.ag (bP t.aw),.p (.i .i64 0)] G=some (.ret (.p (.b (t.may 0 false))),G):=by
 have Ra:=λG=>t35 h t ht 0 false G (by omega) (by omega);obtain⟨k,n,s,l⟩:=t;refine Ut ?_ (by simp only[Tm.aw];rfl) rfl;rw[h.run (x:=MT)];simp only[Tm.aw,bP,ai,au]at Ra ⊢;simp[MT,aj,Ra]
end
mutual
theorem Tm.tj:∀(t:Tm) (a d v:Nat),t.te a d=some v->a<=60->t.qH/\t.Fit/\t.depth+v<=a
 |.mk k n s l,a,d,v,h,ha=>by
  unfold Tm.te at h;split at h
  ·cases h
  ·have:=Tm.wE l _ _ _ h (by omega);refine⟨.mk (by omega) (λt ht=>(this.1 t ht).1),.mk (by omega) (λt ht=>(this.1 t ht).2),?_⟩;simp only[Tm.depth];omega
theorem Tm.wE:∀(l:List Tm) (a d v:Nat),Tm.oL l a d=some v->a<=60->(∀t∈l,t.qH/\t.Fit)/\l.length+v<=a/\Tm.dp l+v<=a
 |[],a,d,v,h,ha=>by
  simp[Tm.oL]at h;subst h;simp[Tm.dp]
 |t::r,a,d,v,h,ha=>by
  unfold Tm.oL at h;split at h
  ·cases h
  ·rename_i w hw;have h1:=Tm.tj t _ _ _ hw ha;have h0:=Tm.zb t _ _ _ hw;have h2:=Tm.wE r _ _ _ h (by omega);refine⟨λu hu=>?_,by simp only[av];omega,by simp only[Tm.dp];omega⟩;rcases aA.1 hu with rfl|hu
   ·exact⟨h1.1,h1.2.1⟩
   ·exact h2.1 u hu
end
mutual
def Tm.ct:Tm->Ct
 |.mk k n s l=>if k=1 then .int n else if k=3 then .lam (.var 0) else if k=4 then .fail else .UW s (Tm.KK l)
def Tm.KK:List Tm->List Ct
 |[]=>[]
 |a::r=>a.ct::Tm.KK r
end
mutual
theorem Tm.IC:∀t:Tm,t.ct.tm=t.uA
 |.mk k n s l=>by
  simp only[Tm.ct,Tm.uA];split
  ·rfl
  ·split
   ·rfl
   ·split
    ·rfl
    ·simp only[Ct.tm,Tm.Gu l]
theorem Tm.Gu:∀l:List Tm,Ct.gp (Tm.KK l)=Tm.tg l
 |[]=>rfl
 |a::r=>by simp only[Tm.KK,Ct.gp,Tm.tg,Tm.IC a,Tm.Gu r]
end
inductive Zi (g:Gr):aq->aO->Prop
 |int {p:aq} {i:Nat} {x:Up}:g.pr p=⟨i,0⟩->g.nd i=some x->x.ao=10->Zi g p (.mk 1 x.n [] [])
 |lam {p:aq} {i:Nat} {x:Up}:g.pr p=⟨i,0⟩->g.nd i=some x->x.ao=2->Zi g p (.mk 3 0 [] [])
 |fail {p:aq} {i:Nat} {x:Up}:g.pr p=⟨i,0⟩->g.nd i=some x->x.ao=13->Zi g p (.mk 4 0 [] [])
 |UW {p:aq} {i:Nat} {x:Up} {l:List aO}:g.pr p=⟨i,0⟩->g.nd i=some x->x.ao=8->l.length=x.to.length-1->(∀(k:Nat) (s:aO),l[k]?=some s->Zi g ⟨i,k+1⟩ s)->Zi g p (.mk 2 0 x.name l)
theorem Zi.rd {n:aI}{p:aq}{s:aO}(h:Zi n.gr p s):Rd n p s:=by
 induction h with
 |int h1 h2 h3=>exact .int h1 h2 h3
 |lam h1 h2 h3=>exact .lam h1 h2 h3
 |fail h1 h2 h3=>exact .fail h1 h2 h3
 |UW h1 h2 h3 h4 _ ih=>exact .UW h1 h2 h3 h4 ih
def PD (f:aI->W)(s:aO):Prop:=∀(n:aI) (L:List aq),Bs n L->(f n).e=0 ->
 Bs (f n).n ((f n).out::L)/\x9 n L (f n).n ((f n).out::L)/\(f n).l=[]/\∀g,Dd g (f n).n ((f n).out::L)->∀p,g.pr p=(f n).out->Zi g p s
theorem PD.leaf {x:Up}{s:aO}(hk:x.ao=10\/x.ao=13)(hx:x.Us<=60->x.ok=true)(hs:(x.ao=10/\s=.mk 1 x.n [] [])\/(x.ao=13/\s=.mk 4 0 [] [])):PD (iH x 0 (λ_=>[])) s:=by
 intro n L hb he;have hp1:x.bO=1:=by
  unfold Up.bO;rcases hk with e|e<;>rw[e]<;>rfl
 obtain⟨a1,a2,a3,a4⟩:=hb.bK (by omega) hx (by omega) he;rw[hp1]at a2 a3;refine⟨a2,a3,rfl,λg hg p hp=>?_⟩;obtain⟨z,z1,z2,z3,z4,z5,z6,z7⟩:=hg.nd (i:=(n.bK x).2.1) (x:=x.d_) a4 (by show x.ao≠0;omega);rcases hs with ⟨e,rfl⟩|⟨e,rfl⟩
 ·rw[show x.n=z.n from z5.symm];exact .int hp z1 (z2.trans e)
 ·exact .fail hp z1 (z2.trans e)
theorem PD.box {Us:Nat}{f:aI->W}{s:aO}(h:PD f s):PD (λn=>jI Us (f n)) s:=by
 intro n L hb he;dsimp only at he ⊢;have hf:(f n).e=0:=by
  by_cases c:(f n).e=0
  ·exact c
  ·unfold jI at he;rw[aa c]at he;exact absurd he c
 obtain⟨a1,a2,a3,a4⟩:=h n L hb hf;have e1:jI Us (f n)=⟨(f n).n,(f n).out,[],0⟩:=by
  unfold jI;rw[ah hf,a3];rfl
 rw[e1];exact⟨a1,a2,rfl,a4⟩
inductive Zl:List (aI->W)->List aO->Prop
 |nil:Zl [] []
 |cons {f:aI->W} {s:aO} {fs:List (aI->W)} {sl:List aO}:PD f s->Zl fs sl->Zl (f::fs) (s::sl)
theorem Zl.parts {Us m:Nat}:∀{fs:List (aI->W)} {sl:List aO},Zl fs sl->∀(i:Nat) (n:aI) (L:List aq),Bs n (UQ m i fs.length++L)->(dg Us m fs (List.range' i fs.length) n []).e=0 ->
  Bs (dg Us m fs (List.range' i fs.length) n []).n L/\x9 n (UQ m i fs.length++L) (dg Us m fs (List.range' i fs.length) n []).n L/\(dg Us m fs (List.range' i fs.length) n []).l=[] /\
  ∀g,Dd g (dg Us m fs (List.range' i fs.length) n []).n L->∀(j:Nat) (s:aO),sl[j]?=some s->Zi g ⟨m,i+j⟩ s:=by
 intro fs sl h
 induction h with
 |nil =>
  intro i n L hb he;exact⟨hb,.refl _ _,rfl,λg hg j s hs=>by simp at hs⟩
 |@cons f s fs sl hf _ ih =>
  intro i n L hb he;rw[av,cq]at he ⊢;simp only[dg]at he ⊢;have e1:(f n).e=0:=by
   by_cases c:(f n).e=0
   ·exact c
   ·rw[aa c]at he;exact absurd he c
  rw[ah e1]at he ⊢;have hL:UQ m i (fs.length+1)++L=⟨m,i⟩::(UQ m (i+1) fs.length++L):=rfl;rw[av,hL]at hb;rw[hL];obtain⟨a1,a2,a3,a4⟩:=hf n _ hb e1;obtain⟨b1,b2,⟨b3,b4,b5⟩,b6,b7,b8⟩:=a1.link;have em:U5 Us ⟨(f n).n.bx (f n).out ⟨m,i⟩,(f n).out,(f n).l,0⟩ []=⟨(f n).n.bx (f n).out ⟨m,i⟩,(f n).out,[],0⟩:=by
   unfold U5;rw[a3];rfl
  rw[em]at he ⊢;rw[ah rfl]at he ⊢;dsimp only at he ⊢;obtain⟨c1,c2,c3,c4⟩:=ih (i+1) _ L b1 he;refine⟨c1,(a2.trans b2).trans c2,c3,λg hg j s' hs=>?_⟩;have hg1:=c2.Cd hg;cases j with
  |zero =>
   simp at hs;subst hs;refine a4 g (b2.Cd hg1) ⟨m,i⟩ ?_;rw[hg1.pr _ b6 b7,b8]
  |succ j =>
   have:=c4 g hg j s' (by simpa using hs);rwa [show i+1+j=i+(j+1) from by omega]at this
theorem PD.UW {Us:Nat}{nm:List UInt8}{fs:List (aI->W)}{sl:List aO}(h:Zl fs sl)(hl:sl.length=fs.length)(hn:nm≠[])(h8:fs.length<=8):PD (mS ⟨8,Us,0,nm,[],List.replicate (fs.length+1) ⟨0,0⟩⟩ fs (List.range' 1 fs.length) 0) (.mk 2 0 nm sl):=by
 intro n L hb he;unfold mS at he ⊢;by_cases hm:(n.bK ⟨8,Us,0,nm,[],List.replicate (fs.length+1) ⟨0,0⟩⟩).2.2=0
 ·rw[ah hm]at he ⊢;have hpt:(Up.mk 8 Us 0 nm [] (List.replicate (fs.length+1) ⟨0,0⟩)).bO=fs.length+1:=by simp[Up.bO]
  obtain⟨a1,a2,a3,a4⟩:=hb.bK (by show 2<=8;omega) (λhl=>YM hn h8 hl) (λ_=>by rw[hpt];simp) hm;rw[hpt]at a2 a3;generalize hM:(n.bK ⟨8,Us,0,nm,[],List.replicate (fs.length+1) ⟨0,0⟩⟩).1=n1 at *;generalize hS:(n.bK ⟨8,Us,0,nm,[],List.replicate (fs.length+1) ⟨0,0⟩⟩).2.1=m at *;dsimp only at he ⊢;have he':(dg Us m fs (List.range' 1 fs.length) n1 []).e=0:=by
   by_cases c:(dg Us m fs (List.range' 1 fs.length) n1 []).e=0
   ·exact c
   ·rw[aa c]at he;exact absurd he c
  rw[ah he']at he ⊢;have hperm:(UQ m 0 (fs.length+1)++L).Perm (UQ m 1 fs.length++(⟨m,0⟩::L)):=eh.symm;obtain⟨b1,b2,b3,b4⟩:=h.parts (Us:=Us) (m:=m) 1 n1 (⟨m,0⟩::L) (a2.perm hperm) he';generalize (dg Us m fs (List.range' 1 fs.length) n1 [])=w at *;dsimp only;refine⟨b1,(a3.perm (.refl _) hperm).trans b2,b3,λg hg p hp=>?_⟩;obtain⟨z,z1,z2,z3,z4,z5,z6,z7⟩:=(b2.Cd hg).nd (i:=m) a4 (by show 8≠0;omega);rw[show nm=z.name from z6.symm];refine .UW hp z1 z2 ?_ λk s hs=>?_
  ·rw[z7,wb,hpt,hl];omega
  ·have:=b4 g hg k s hs;rwa [kD]at this
 ·rw[aa hm]at he;exact absurd he hm
theorem Uf {n:aI}{p q:aq}{i:Nat}{x:Up}(h:n.ae[i]?=some x):∃x',(n.put p q).ae[i]?=some x'/\x'.bare=x.bare:=by
 rw[aI.sU];split
 ·rw[h];exact⟨_,rfl,Up.vC _ _ _⟩
 ·exact⟨x,h,rfl⟩
theorem T7 {n:aI}{p q:aq}{i:Nat}{x:Up}(h:n.ae[i]?=some x):∃x',(n.bx p q).ae[i]?=some x'/\x'.bare=x.bare:=by
 unfold aI.bx aI.link;split
 ·obtain⟨y,h1,h2⟩:=Uf (p:=p) (q:=q) h;obtain⟨z,h3,h4⟩:=Uf (p:=q) (q:=p) h1;exact⟨z,h3,h4.trans h2⟩
 ·exact⟨x,h,rfl⟩
theorem PD.fun {Us:Nat}:PD ((Ct.lam (.var 0)).cP Us) (.mk 3 0 [] []):=by
 intro n L hb he;have hu:(Ct.lam (.var 0)).cP Us n=iG Us (iH ⟨5,Us,0,[],[],[]⟩ 1 (λs=>[⟨0,⟨s,0⟩⟩])) 1 n:=rfl;rw[hu]at he ⊢;clear hu;unfold iG at he ⊢;by_cases hm:(n.bK (Wc Us)).2.2=0
 ·rw[ah hm]at he ⊢;obtain⟨b1,b2,b3,b4⟩:=hb.bK (x:=Wc Us) (by simp[Wc]) wg (by simp[Wc]) hm;rw[show(Wc Us).bO=3 from rfl]at b2 b3;generalize hM:(n.bK (Wc Us)).1=n1 at *;generalize hS:(n.bK (Wc Us)).2.1=s at *;have e0:(iG Us (iH ⟨5,Us,0,[],[],[]⟩ 1 (λs=>[⟨0,⟨s,0⟩⟩])) 0 n1).e=0:=by
   by_cases c:(iG Us (iH ⟨5,Us,0,[],[],[]⟩ 1 (λs=>[⟨0,⟨s,0⟩⟩])) 0 n1).e=0
   ·exact c
   ·rw[aa c]at he;exact absurd he c
  rw[ah e0]at he ⊢;unfold iG iH at he e0 ⊢;dsimp only at he e0 ⊢;obtain⟨c1,c2,c3,c4⟩:=b2.bK (x:=⟨5,Us,0,[],[],[]⟩) (by show 2<=5;omega) (λh=>iP (.inl rfl) 0 rfl h) (by simp) e0;rw[show(Up.mk 5 Us 0 [] [] []).bO=2 from rfl]at c2 c3;obtain⟨x1,d1,d2⟩:=c3.aD s _ b4 (by show 2≠0;omega);generalize hM2:(n1.bK ⟨5,Us,0,[],[],[]⟩).1=n2 at *;generalize hS2:(n1.bK ⟨5,Us,0,[],[],[]⟩).2.1=q at *;unfold Xc;rw[show jT [(⟨0,⟨q,0⟩⟩:bW)] 0=some 0 from rfl];dsimp only;have hperm:(UQ q 0 2++(UQ s 0 3++L)).Perm (⟨q,1⟩::⟨s,1⟩::⟨q,0⟩::⟨s,2⟩::⟨s,0⟩::L):=by
   show(⟨q,0⟩::⟨q,1⟩::⟨s,0⟩::⟨s,1⟩::⟨s,2⟩::L:List aq).Perm _
   refine(List.Perm.swap _ _ _).trans (.cons _ ?_);refine(List.Perm.cons _ ((List.Perm.swap _ _ _).trans (.cons _ (List.Perm.swap _ _ _)))).trans (List.Perm.swap _ _ _)
  obtain⟨f1,f2,-⟩:=(c2.perm hperm).link;obtain⟨g1,g2,-⟩:=f1.link;obtain⟨x2,d3,d4⟩:=T7 (p:=⟨q,1⟩) (q:=⟨s,1⟩) d1;obtain⟨x3,d5,d6⟩:=T7 (p:=⟨q,0⟩) (q:=⟨s,2⟩) d3;refine⟨g1,((b3.trans (c3.perm (.refl _) hperm)).trans f2).trans g2,rfl,λg hg p hp=>?_⟩;have k3:x3.ao=2:=by
   rw[(Up.eB d6).2.2.1,(Up.eB d4).2.2.1,(Up.eB d2).2.2.1];rfl
  obtain⟨z,z1,z2,z3,z4,z5,z6,z7⟩:=hg.nd d5 (by omega);exact .lam hp z1 (z2.trans k3)
 ·rw[aa hm]at he;exact absurd he hm
inductive Ug:aO->Ct->Prop
 |int {v:Int}:Ug (.mk 1 v [] []) (.int v)
 |abs:Ug (.mk 3 0 [] []) (.lam (.var 0))
 |fail:Ug (.mk 4 0 [] []) .fail
 |UW {nm:List UInt8} {sl:List aO} {l:List Ct}:sl.length=l.length->qF nm=true->l.length<=8->(∀(i:Nat) (s:aO) (c:Ct),sl[i]?=some s->l[i]?=some c->Ug s c)->Ug (.mk 2 0 nm sl) (.UW nm l)
theorem Ug.pd {s:aO}{c:Ct}(h:Ug s c):∀Us,PD (c.cP Us) s:=by
 induction h with
 |int=>intro Us;exact PD.leaf (x:=⟨10,Us,_,[],[],[]⟩) (.inl rfl) (λh=>tc _ h) (.inl ⟨rfl,rfl⟩)
 |abs=>intro Us;exact PD.fun
 |fail=>intro Us;exact PD.leaf (x:=⟨13,Us,0,[],[],[]⟩) (.inr rfl) (λh=>iP (.inr rfl) 0 rfl h) (.inr ⟨rfl,rfl⟩)
 |@UW nm sl l h1 h2 h3 hd ih =>
  intro Us;have hp:Zl (Ct.l9 l Us) sl:=by
   clear h2 h3 hd
   induction l generalizing sl with
   |nil =>
    have:=aW h1;subst this;exact .nil
   |cons a r ihr =>
    match sl,h1 with
    |s::sr,h1 =>
     exact .cons (PD.box (ih 0 s a rfl rfl (Us+1))) (ihr (by simpa using h1) (λi s' c' q1 q2=>ih (i+1) s' c' (by simpa using q1) (by simpa using q2)))
  have hlen:=rq l Us;have:=PD.UW (Us:=Us) (nm:=nm) hp (by rw[hlen,h1]) (XM h2) (by rw[hlen];exact h3);rw[hlen]at this;exact this
section
variable {pg:fX}{G:Heap}
theorem Pa (h:bY pg){body:aU}(hb:body=xy)(k n:Int)(s:List UInt8)(l:List Tm)(hl:l.length<2 ^ 63)(d:Nat)(hd:0<d/\d<=1000)
  (ih:∀t∈l,∀(a b:Nat) (G:Heap),a<=1000->b<=1000->UM pg (E pg) 34 [.ag (bP t.aw),.p (.i .i64 a),.p (.i .i64 b)] G=some (.ret (.p (.i .i64 (nR (t.te a b)))),G)) :
  ∀m i a,i+m=l.length->a<=1000 ->
  L pg 0 [1,2,3,7] body [(1,.p (.i .i64 (a:Nat))),(2,.p (.i .i64 (d:Nat))),(3,.ptr 0 0),(7,.p (.i .i64 (i:Nat)))] [.box [.p (iv k),.p (iv n),.p (.s s),.p (.sl (l.map Tm.aw))]] =
   (match Tm.oL (l.drop i) a (d-1) with
    |some v=>some (.exit 0,[(1,.p (.i .i64 (v:Nat))),(2,.p (.i .i64 (d:Nat))),(3,.ptr 0 0),(7,.p (.i .i64 l.length)),(20,.p (.b false))],[.box [.p (iv k),.p (iv n),.p (.s s),.p (.sl (l.map Tm.aw))]])
    |none=>some (.ret,[(6,.p (.i .i64 (-1)))],[.box [.p (iv k),.p (iv n),.p (.s s),.p (.sl (l.map Tm.aw))]]))
 |0,i,a,hi,ha=>by
  have:i=l.length:=by omega
  subst this;rw[dA hb];simp[xy,aj,Tm.oL]
 |m+1,i,a,hi,ha=>by
  have hlt:i<l.length:=by omega
  have hx:l[i]?=some l[i]:=gG hlt;have e1:=λG=>ih l[i] (aE hx) a (d-1) G ha (by omega);have e2:∀t:Tm,t.aw.length=4:=λt=>by cases t;rfl
  have e3:∀t:Tm,t.aw.take 4=t.aw:=λt=>by cases t;rfl
  have wd:=cR ((d:Int)-1);have w1:=cR ((i:Int)+1);rw[show((d-1:Nat):Int)=(d:Int)-1 from by omega]at e1;have hdr:l.drop i=l[i]::l.drop (i+1):=aM hlt;rw[dA hb,hdr];simp only[Tm.oL];cases hf:l[i].te a (d-1) with
  |none =>
   simp only[hf,nR,bP]at e1;simp[xy,aj,hlt,hx,Tm.aS,e1,e2,e3,wd,w1]
  |some v =>
   have hv:=Tm.zb _ _ _ _ hf;have ih':=Pa h hb k n s l hl d hd ih m (i+1) v (by omega) (by omega);rw[show((i+1:Nat):Int)=(i:Int)+1 from by omega]at ih';simp only[hf,nR,bP]at e1;have hv0:¬ (v:Int)<0:=by omega
   simp[xy,aj,hlt,hx,Tm.aS,e1,e2,e3,wd,w1,hv0,gc,exp,aQ,UG,ih']
theorem t34 (h:bY pg):∀(t:Tm),t.wq->∀(a b:Nat) (G:Heap),a<=1000->b<=1000->UM pg (E pg) 34 [.ag (bP t.aw),.p (.i .i64 a),.p (.i .i64 b)] G=some (.ret (.p (.i .i64 (nR (t.te a b)))),G):=by
 refine Tm.ind λk n s l ih hf a b G ha hb=>?_;have hfl:l.length<2 ^ 63/\∀t∈l,t.wq:=by cases hf with|mk h1 _ h2=>exact⟨h1,h2⟩
 refine Ut ?_ (by simp only[Tm.aw];rfl) rfl;rw[h.run (x:=Kw)];by_cases c1:(a:Int)<1
 ·have c1':a=0:=by omega
  subst c1';simp[Kw,aj,Tm.aw,bP,Tm.ba,Tm.te,nR]
 by_cases c2:(b:Int)<1
 ·have c2':b=0:=by omega
  subst c2';simp[Kw,aj,Tm.aw,bP,Tm.ba,Tm.te,nR,c1]
 ·have c3:¬ (a=0\/b=0):=by omega
  have hL:=Pa h (body:=xy) rfl k n s l hfl.1 b (by omega) (λt ht a b G h1 h2=>ih t ht (hfl.2 t ht) a b G h1 h2) l.length 0 (a-1) (by omega) (by omega);rw[show((a-1:Nat):Int)=(a:Int)-1 from by omega]at hL;simp only[bp,fW]at hL;have w1:=cR ((a:Int)-1);simp only[Tm.te,aa c3];cases hw:Tm.oL l (a-1) (b-1) with
  |none =>
   rw[hw]at hL;simp[Kw,aj,Tm.aw,bP,Tm.ba,nR,c1,c2,w1,gc,exp,aQ,UG,hL]
  |some v =>
   rw[hw]at hL;simp[Kw,aj,Tm.aw,bP,Tm.ba,nR,c1,c2,w1,gc,exp,aQ,UG,hL]
theorem t16 (h:bY pg)(t:Tm)(ht:t.wq):UM pg (E pg) 16 [.ag (bP t.aw),.p (.i .i64 60)] G=some (.ret (.p (.b (t.te 60 600).isSome)),G):=by
 have QI:=λG=>t34 h t ht 60 600 G (by omega) (by omega);simp only[Bn,HX]at QI;obtain⟨k,n,s,l⟩:=t;refine Ut ?_ (by simp only[Tm.aw];rfl) rfl;rw[h.run (x:=Mt)];cases hw:(Tm.mk k n s l).te 60 600 with
 |none =>
  rw[hw]at QI;simp only[Tm.aw,bP,ai,au,nR]at QI ⊢;simp[Mt,aj,QI]
 |some v =>
  rw[hw]at QI;simp only[Tm.aw,bP,ai,au,nR]at QI ⊢;simp[Mt,aj,QI]
theorem Tm.pS (t:Tm):t.aw.length=4:=by cases t;rfl
theorem Tm.ku (t:Tm):t.aw.take 4=t.aw:=by cases t;rfl
theorem Tm.Bb {l:List Tm}{i:Nat}(h:i<l.length):Tm.dp (l.drop i)=Nat.max l[i].depth (Tm.dp (l.drop (i+1))):=by
 rw[aM h];rfl
theorem Pb (h:bY pg){body:aU}(hb:body=zY)(k n:Int)(s:List UInt8)(l:List Tm)(hl:l.length<=60)(B:Nat)(hB:B<=2 ^ 50)
  (ih:∀t∈l,t.depth<=B/\∀(G:Heap),UM pg (E pg) 17 [.ag (bP t.aw)] G=some (.ret (.p (.i .i64 t.depth)),G)) :
  ∀m i (a:Nat),i+m=l.length->a<=B ->
  L pg 0 [1,3,4] body [(1,.ptr 0 0),(3,.p (.i .i64 (a:Nat))),(4,.p (.i .i64 (i:Nat)))] [.box [.p (iv k),.p (iv n),.p (.s s),.p (.sl (l.map Tm.aw))]] =
   some (.exit 0,[(1,.ptr 0 0),(3,.p (.i .i64 (Nat.max a (Tm.dp (l.drop i)):Nat))),(4,.p (.i .i64 l.length)),(9,.p (.b false))],[.box [.p (iv k),.p (iv n),.p (.s s),.p (.sl (l.map Tm.aw))]])
 |0,i,a,hi,ha=>by
  have:i=l.length:=by omega
  subst this;rw[dA hb];simp[zY,aj,Tm.dp]
 |m+1,i,a,hi,ha=>by
  have hlt:i<l.length:=by omega
  have hx:l[i]?=some l[i]:=gG hlt;obtain⟨hd,e1⟩:=ih l[i] (aE hx);have w1:=cR ((i:Int)+1);have hm:qL (a:Int) (l[i].depth:Int)=((Nat.max a l[i].depth:Nat):Int):=by
   unfold qL;simp only[Nat.max_def];split<;>split<;>omega
  have ih':=Pb h hb k n s l hl B hB ih m (i+1) (Nat.max a l[i].depth) (by omega) (ql.2 ⟨ha,hd⟩);rw[show((i+1:Nat):Int)=(i:Int)+1 from by omega]at ih';have hmm:Nat.max (Nat.max a l[i].depth) (Tm.dp (l.drop (i+1)))=Nat.max a (Tm.dp (l.drop i)):=by
   rw[Tm.Bb hlt];exact Nat.max_assoc _ _ _
  rw[hmm]at ih';simp only[bP]at e1;rw[dA hb];simp[zY,aj,hlt,hx,Tm.aS,e1,Tm.pS,Tm.ku,w1,hm,gc,exp,aQ,UG,ih']
theorem t17 (h:bY pg):∀(t:Tm),t.qH->t.depth<=2 ^ 40->∀(G:Heap),UM pg (E pg) 17 [.ag (bP t.aw)] G=some (.ret (.p (.i .i64 t.depth)),G):=by
 refine Tm.ind λk n s l ih hf hd G=>?_;have hfl:l.length<=60/\∀t∈l,t.qH:=by cases hf with|mk h1 h2=>exact⟨h1,h2⟩
 simp only[Tm.depth]at hd;have hdm:∀t∈l,t.depth<=Tm.dp l:=λt ht=>Tm.VE ht;refine Ut ?_ (by simp only[Tm.aw];rfl) rfl;have hL:=Pb h (body:=zY) rfl k n s l hfl.1 (Tm.dp l) (by omega) (λt ht=>⟨hdm t ht,λG=>ih t ht (hfl.2 t ht) (by have:=hdm t ht;omega) G⟩) l.length 0 0 (by omega) (by omega);simp only[bp,fW,show Nat.max 0 (Tm.dp l)=Tm.dp l from fD (dv _)]at hL;have w1:=cR ((Tm.dp l:Int)+1);rw[h.run (x:=MS)];simp[MS,aj,Tm.aw,bP,Tm.ba,Tm.depth,w1,gc,exp,aQ,UG,hL]
mutual
def Tm.size:Tm->Nat
 |.mk _ _ _ l=>Tm.dt l+1
def Tm.dt:List Tm->Nat
 |[]=>0
 |a::r=>a.size+Tm.dt r
end
theorem Tm.Cj {l:List Tm}{i:Nat}(h:i<l.length):Tm.dt (l.drop i)=l[i].size+Tm.dt (l.drop (i+1)):=by
 rw[aM h];rfl
theorem Tm.Gv {l:List Tm}{t:Tm}(h:t∈l):t.size<=Tm.dt l:=by
 induction l with
 |nil=>simp at h
 |cons a r ih =>
  simp only[Tm.dt];rcases aA.1 h with rfl|h
  ·omega
  ·have:=ih h;omega
theorem Pc (h:bY pg){body:aU}(hb:body=YE)(k n:Int)(s:List UInt8)(l:List Tm)(hl:l.length<=60)(hB:Tm.dt l<=2 ^ 50)
  (ih:∀t∈l,∀(G:Heap),UM pg (E pg) 54 [.ag (bP t.aw)] G=some (.ret (.p (.i .i64 t.size)),G)) :
  ∀m i (a:Nat),i+m=l.length->a+Tm.dt (l.drop i)<=2 ^ 50+1 ->
  L pg 0 [1,3,4] body [(1,.ptr 0 0),(3,.p (.i .i64 (a:Nat))),(4,.p (.i .i64 (i:Nat)))] [.box [.p (iv k),.p (iv n),.p (.s s),.p (.sl (l.map Tm.aw))]] =
   some (.exit 0,[(1,.ptr 0 0),(3,.p (.i .i64 (a+Tm.dt (l.drop i):Nat))),(4,.p (.i .i64 l.length)),(9,.p (.b false))],[.box [.p (iv k),.p (iv n),.p (.s s),.p (.sl (l.map Tm.aw))]])
 |0,i,a,hi,ha=>by
  have:i=l.length:=by omega
  subst this;rw[dA hb];simp[YE,aj,Tm.dt]
 |m+1,i,a,hi,ha=>by
  have hlt:i<l.length:=by omega
  have hx:l[i]?=some l[i]:=gG hlt;have e1:=ih l[i] (aE hx);have w1:=cR ((i:Int)+1);have hdr:=Tm.Cj hlt;have ih':=Pc h hb k n s l hl hB ih m (i+1) (a+l[i].size) (by omega) (by omega);rw[show((i+1:Nat):Int)=(i:Int)+1 from by omega,show a+l[i].size+Tm.dt (l.drop (i+1))=a+Tm.dt (l.drop i) from by omega,show((a+l[i].size:Nat):Int)=(a:Int)+l[i].size from by omega]at ih';have w2:=cR ((a:Int)+l[i].size);simp only[bP]at e1;rw[dA hb];simp[YE,aj,hlt,hx,Tm.aS,e1,Tm.pS,Tm.ku,w1,w2,gc,exp,aQ,UG,ih']
theorem t54 (h:bY pg):∀(t:Tm),t.qH->t.size<=2 ^ 50->∀(G:Heap),UM pg (E pg) 54 [.ag (bP t.aw)] G=some (.ret (.p (.i .i64 t.size)),G):=by
 refine Tm.ind λk n s l ih hf hd G=>?_;have hfl:l.length<=60/\∀t∈l,t.qH:=by cases hf with|mk h1 h2=>exact⟨h1,h2⟩
 simp only[Tm.size]at hd;refine Ut ?_ (by simp only[Tm.aw];rfl) rfl;have hL:=Pc h (body:=YE) rfl k n s l hfl.1 (by omega) (λt ht G=>ih t ht (hfl.2 t ht) (by have:=Tm.Gv ht;omega) G) l.length 0 1 (by omega) (by simp only[bp];omega);simp only[bp,fW,WW]at hL;rw[h.run (x:=MY)];have hs:((1+Tm.dt l:Nat):Int)=(Tm.dt l:Int)+1:=by omega
 simp[MY,aj,Tm.aw,bP,Tm.ba,Tm.size,gc,exp,aQ,UG,hL,hs]
def de (k n:Int):Int:=if k=2 then 1 else if k=6 then n else 0
theorem t68 (h:bY pg)(k n:Int)(s:List UInt8)(l:List (List PV)):UM pg (E pg) 68 [.ag [.p (iv k),.p (iv n),.p (.s s),.p (.sl l)]] G=some (.ret (.p (.i .i64 (de k n))),G):=by
 refine Ut ?_ rfl rfl;rw[h.run (x:=YP)];unfold de;by_cases c1:k=2
 ·simp[YP,aj,c1]
 ·by_cases c2:k=6
  ·simp[YP,aj,c1,c2]
  ·simp[YP,aj,c1,c2]
theorem t75 (h:bY pg)(k n:Int)(s:List UInt8)(l:List (List PV)):UM pg (E pg) 75 [.ag [.p (iv k),.p (iv n),.p (.s s),.p (.sl l)]] G=some (.ret (.p (.b (decide (k=2) || decide (k=4) || decide (k=7) || decide (k=9)))),G):=by
 refine Ut ?_ rfl rfl;rw[h.run (x:=IV)];by_cases c1:k=2
 ·simp[IV,aj,c1]
 by_cases c2:k=4
 ·simp[IV,aj,c2]
 by_cases c3:k=7
 ·simp[IV,aj,c3]
 by_cases c4:k=9
 ·simp[IV,aj,c4]
 simp[IV,aj,c1,c2,c3,c4]
theorem t79 (h:bY pg):UM pg (E pg) 79 [] G=some (.ret (.dF [.ag (bP (Tm.mk 9 0 [] []).aw),.p (.i .i64 4)]),G):=by
 refine Ut ?_ rfl rfl;rw[h.run (x:=M5)];simp[M5,aj,Tm.aw,Tm.df,bP]
theorem t101 (h:bY pg)(n:Int):UM pg (E pg) 101 [.p (.i .i64 n)] G=some (.ret (.dF [.ag (bP (Tm.mk 7 n [] []).aw),.p (.i .i64 3)]),G):=by
 refine Ut ?_ rfl rfl;rw[h.run (x:=IX)];simp[IX,aj,Tm.aw,Tm.df,bP]
def Eg (s:List UInt8)(a b:Int):Tm×Int :=
 if s=[43] then (.mk 7 (IntKind.i64.wrap (a+b)) [] [],3) else if s=[45] then (.mk 7 (IntKind.i64.wrap (a-b)) [] [],3)
 else if s=[42] then (.mk 7 (IntKind.i64.wrap (a * b)) [] [],3) else if s=[47] then (if b=0 then (.mk 9 0 [] [],4) else (.mk 7 (IntKind.i64.wrap (a.tdiv b)) [] [],3))
 else if (s=[60]/\a<b)\/(s=[61,61]/\a=b) then (.mk 4 0 [84,114,117,101] [],3) else (.mk 4 0 [70,97,108,115,101] [],3)
theorem t80 (h:bY pg)(s:List UInt8)(a b:Int):UM pg (E pg) 80 [.p (.s s),.p (.i .i64 a),.p (.i .i64 b)] G=some (.ret (.dF [.ag (bP (Eg s a b).1.aw),.p (.i .i64 (Eg s a b).2)]),G):=by
 have Qh:=λG=>t79 (G:=G) h;have Ko:=λn G=>t101 (G:=G) h n;simp only[Tm.aw,Tm.df,bP,ai,au]at Qh Ko;refine Ut ?_ rfl ?_
 ·rw[h.run (x:=DO)];unfold Eg;by_cases c1:s=[43]
  ·simp[DO,aj,c1,Ko,Tm.aw,Tm.df,bP]
  by_cases c2:s=[45]
  ·simp[DO,aj,c2,Ko,Tm.aw,Tm.df,bP]
  by_cases c3:s=[42]
  ·simp[DO,aj,c3,Ko,Tm.aw,Tm.df,bP]
  by_cases c4:s=[47]
  ·by_cases d1:b=0
   ·simp[DO,aj,c4,d1,Qh,Tm.aw,Tm.df,bP]
   ·by_cases d2:b=-1
    ·have e:a.tdiv (-1)=0-a:=by rw[Int.tdiv_neg,Int.tdiv_one];omega
     simp[DO,aj,c4,d2,Ko,Tm.aw,Tm.df,bP,e]
    ·simp[DO,aj,c4,d1,d2,Ko,Tm.aw,Tm.df,bP]
  by_cases c5:s=[60]
  ·by_cases d1:a<b
   ·simp[DO,aj,c5,d1,Tm.aw,Tm.df,bP]
   ·simp[DO,aj,c5,d1,Tm.aw,Tm.df,bP]
  by_cases c6:s=[61,61]
  ·by_cases d1:a=b
   ·simp[DO,aj,c6,d1,Tm.aw,Tm.df,bP]
   ·simp[DO,aj,c6,d1,Tm.aw,Tm.df,bP]
  simp[DO,aj,c1,c2,c3,c4,c5,c6,Tm.aw,Tm.df,bP]
 ·simp only[Out.bf,bf,cH,bE 0 (eZ _)];rfl
inductive Tm.Ck:Int->Tm->Prop
 |mk {f k n:Int} {s:List UInt8} {l:List Tm}:(k=1->0<=n/\n<f)->(k=6->0<=n/\n<=8)->l.length<=60->(∀t∈l,Tm.Ck (f+de k n) t)->Tm.Ck f (.mk k n s l)
theorem wG {k n:Int}(h:k=6->0<=n/\n<=8):0<=de k n/\de k n<=8:=by
 unfold de;split
 ·omega
 ·split
  ·exact h (by assumption)
  ·omega
theorem Tm.eS (k n:Int)(s:List UInt8)(l:List Tm):(Tm.mk k n s l).nv=.ag [.p (iv k),.p (iv n),.p (.s s),.p (.sl (l.map Tm.aw))]:=by
 simp only[Tm.nv,Tm.aw,Tm.ba];rfl
def Cm (k n:Int)(s:List UInt8)(l:List Tm)(f:Tm->Tm)(i:Nat):Heap :=
 [.box [.p (iv k),.p (iv n),.p (.s s),.p (.sl (l.map Tm.aw))],.box [.p (iv 0),.p (iv 0),.p (.s []),.aC],.box [.p (iv k),.p (iv n),.p (.s s),.arr 3 i (i-1)],.arr 4 ((l.take i).map λt=>(f t).aw) (i-1) 0]
theorem Mf (h:bY pg){body:aU}(hb:body=WQ){k n:Int}{s:List UInt8}{l:List Tm}(by' fr:Int)(hl:l.length<=60)(hf:-2 ^ 60<=fr/\fr<=2 ^ 60)(hm:0<=de k n/\de k n<=8)
  (ih:∀t∈l,∀G:Heap,UM pg (E pg) 119 [.ag (bP t.aw),.p (.i .i64 by'),.p (.i .i64 (fr+de k n))] G=some (.ret t.nv,G)):∀m i,1<=i->i+m=l.length ->
  L pg 0 [1,2,3,6,7,8] body [(1,.p (.i .i64 by')),(2,.p (.i .i64 fr)),(3,.ptr 0 0),(6,.ptr 1 0),(7,.ptr 2 0),(8,.p (.i .i64 (i:Nat)))] (Cm k n s l id i) =
   some (.exit 0,[(1,.p (.i .i64 by')),(2,.p (.i .i64 fr)),(3,.ptr 0 0),(6,.ptr 1 0),(7,.ptr 2 0),(8,.p (.i .i64 l.length)),(33,.p (.b false))],Cm k n s l id l.length)
 |0,i,h1,hi=>by
  have:i=l.length:=by omega
  subst this;rw[dA hb];simp[WQ,aj,Cm]
 |m+1,i,h1,hi=>by
  have hlt:i<l.length:=by omega
  have hx:l[i]?=some l[i]:=gG hlt;have e1:=λG=>ih l[i] (aE hx) G;have ih':=Mf h hb (k:=k) (n:=n) (s:=s) by' fr hl hf hm ih m (i+1) (by omega) (by omega)
  rw[show((i+1:Nat):Int)=(i:Int)+1 from by omega]at ih';have e5:List.take (i+1) l=List.take i l++[l[i]]:=by rw[cG,gG hlt];rfl
  have e6:i-1+1=i:=by omega
  have e7:bZ (i+1) 56=true:=by simp[bZ];omega
  have e9:i<=l.length:=by omega
  have w1:=cR ((i:Int)+1);have w2:=cR (fr+de k n);have k119:bC pg 119=false:=h.bq (x:=BJ) rfl;have k68:bC pg 68=false:=h.bq (x:=YP) rfl;have n0:eU (List.map AV.p l[i].aw)=true:=by cases l[i];rfl
  have e0:bH 4 [l[i].aw]=true:=by simp[bH,Tm.aS]
  have e8:∀l:List (List PV),List.take i (List.take i l)=List.take i l:=λl=>by rw[eQ,Wa]
  have e10:List.take l.length (List.map (λt=>t.aw) l)=List.map (λt=>t.aw) l:=aF (by simp);have t68':=λG=>t68 (G:=G) h k n s (l.map Tm.aw);simp only[bP]at e1;rw[dA hb];unfold Cm at ih' ⊢;simp only[show i+1-1=i from by omega,e5,bB,da,ai,au,id]at ih';simp[WQ,aj,hlt,hx,Tm.aS,e1,Tm.pS,Tm.ku,t68',bP,Uu.Uv,mT,cX,e6,e7,e8,e9,e10,e0,th,k119,k68,n0,w1,w2,gc,exp,aQ,UG,ih']
theorem Mg (h:bY pg){body:aU}(hb:body=WQ){k n:Int}{s:List UInt8}{l:List Tm}(by' fr:Int)(hl:l.length<=60)(h1:1<=l.length)(hf:-2 ^ 60<=fr/\fr<=2 ^ 60)(hm:0<=de k n/\de k n<=8)
  (ih:∀t∈l,∀G:Heap,UM pg (E pg) 119 [.ag (bP t.aw),.p (.i .i64 by'),.p (.i .i64 (fr+de k n))] G=some (.ret t.nv,G)) :
  L pg 0 [1,2,3,6,7,8] body [(1,.p (.i .i64 by')),(2,.p (.i .i64 fr)),(3,.ptr 0 0),(6,.ptr 1 0),(7,.ptr 2 0),(8,.p (.i .i64 0))]
   [.box [.p (iv k),.p (iv n),.p (.s s),.p (.sl (l.map Tm.aw))],.box [.p (iv 0),.p (iv 0),.p (.s []),.aC],.box [.p (iv k),.p (iv n),.p (.s s),.aC]] =
   some (.exit 0,[(1,.p (.i .i64 by')),(2,.p (.i .i64 fr)),(3,.ptr 0 0),(6,.ptr 1 0),(7,.ptr 2 0),(8,.p (.i .i64 l.length)),(33,.p (.b false))],Cm k n s l id l.length):=by
 have hL:=Mf h hb (k:=k) (n:=n) (s:=s) by' fr hl hf hm ih (l.length-1) 1 (by omega) (by omega)
 have hpos:(0:Int)<(l.length:Int):=by omega
 have hpos':0<l.length:=by omega
 have hx:l[0]?=some l[0]:=gG hpos';have e1:=λG=>ih l[0] (aE hx) G;have e5:List.take 1 l=[l[0]]:=by rw[cG,gG (by omega)];rfl
 have e7:bZ 1 56=true:=by rfl
 have w1:=cR 1;have w2:=cR (fr+de k n);have k119:bC pg 119=false:=h.bq (x:=BJ) rfl;have k68:bC pg 68=false:=h.bq (x:=YP) rfl;have n0:eU (List.map AV.p l[0].aw)=true:=by cases l[0];rfl
 have e0:bH 4 [l[0].aw]=true:=by simp[bH,Tm.aS]
 have t68':=λG=>t68 (G:=G) h k n s (l.map Tm.aw);unfold Cm at hL ⊢;simp only[e5,ai,au,WW,fx,id]at hL;simp only[bP]at e1;rw[dA hb];simp[WQ,aj,hpos,hpos',hx,Tm.aS,e1,Tm.pS,Tm.ku,t68',bP,Uu.Uv,mT,cX,e7,e0,th,k119,k68,n0,w1,w2,gc,exp,aQ,UG,hL]
theorem Mh (h:bY pg){body:aU}(hb:body=WQ){k n:Int}{s:List UInt8}(by' fr:Int) :
  L pg 0 [1,2,3,6,7,8] body [(1,.p (.i .i64 by')),(2,.p (.i .i64 fr)),(3,.ptr 0 0),(6,.ptr 1 0),(7,.ptr 2 0),(8,.p (.i .i64 0))]
   [.box [.p (iv k),.p (iv n),.p (.s s),.p (.sl [])],.box [.p (iv 0),.p (iv 0),.p (.s []),.aC],.box [.p (iv k),.p (iv n),.p (.s s),.aC]] =
   some (.exit 0,[(1,.p (.i .i64 by')),(2,.p (.i .i64 fr)),(3,.ptr 0 0),(6,.ptr 1 0),(7,.ptr 2 0),(8,.p (.i .i64 0)),(33,.p (.b false))],[.box [.p (iv k),.p (iv n),.p (.s s),.p (.sl [])],.box [.p (iv 0),.p (iv 0),.p (.s []),.aC],.box [.p (iv k),.p (iv n),.p (.s s),.aC]]):=by
 rw[dA hb];simp[WQ,aj]
theorem t119 (h:bY pg)(by':Int):∀(t:Tm) (fr:Int),t.Ck fr->0<=fr->fr+8 * t.depth<=2 ^ 60->∀(G:Heap),UM pg (E pg) 119 [.ag (bP t.aw),.p (.i .i64 by'),.p (.i .i64 fr)] G=some (.ret t.nv,G):=by
 refine Tm.ind λk n s l ih fr hc h0 hf G=>?_;have hfl:(k=1->0<=n/\n<fr)/\(k=6->0<=n/\n<=8)/\l.length<=60/\∀t∈l,t.Ck (fr+de k n):=by cases hc with|mk a b c d=>exact⟨a,b,c,d⟩
 obtain⟨q1,q2,q3,q4⟩:=hfl;have hm:=wG q2;simp only[Tm.depth]at hf;have ih':∀t∈l,∀G:Heap,UM pg (E pg) 119 [.ag (bP t.aw),.p (.i .i64 by'),.p (.i .i64 (fr+de k n))] G=some (.ret t.nv,G):=λt ht G=>by
  have:=Tm.VE ht;exact ih t ht _ (q4 t ht) (by omega) (by omega) G
 refine Ut ?_ (by simp only[Tm.aw];rfl) ?_
 ·rw[h.run (x:=BJ)];by_cases c1:k=1
  ·have hn:¬ fr<=n:=by have:=q1 c1;omega
   simp[BJ,aj,Tm.aw,bP,Tm.ba,Tm.nv,c1,hn]
  by_cases c4:l=[]
  ·subst c4;have hL:=Mh h (body:=WQ) rfl (k:=k) (n:=n) (s:=s) by' fr
   simp[BJ,aj,Tm.aw,bP,Tm.df,Tm.ba,Tm.nv,c1,gc,exp,aQ,UG];rw[hL];simp[aj]
  ·have hL:=Mg h (body:=WQ) rfl (k:=k) (n:=n) (s:=s) by' fr q3 (by have:=eR.2 c4;omega) ⟨by omega,by omega⟩ hm ih'
   simp[BJ,aj,Tm.aw,bP,Tm.ba,Tm.nv,c1,c4,gc,exp,aQ,UG];rw[hL];have e10:List.take l.length (List.map (λt=>t.aw) l)=List.map (λt=>t.aw) l:=aF (by simp);simp[Cm,aj,e10]
 ·simp only[Out.bf,Tm.nv,bf];exact bE 0 (eZ _)
def Kp:Tm:=.mk 9 0 [] []
mutual
def Tm.subst (us:List Tm):Int->Tm->Tm
 |b,.mk k n s l=>if k=1 then (if n<b then .mk k n s l else us.getD (n-b).toNat Kp) else .mk k n s (Tm.iW us (b+de k n) l)
def Tm.iW (us:List Tm):Int->List Tm->List Tm
 |_,[]=>[]
 |b,a::r=>a.subst us b::Tm.iW us b r
end
theorem Tm.rB (us:List Tm)(b:Int):∀l:List Tm,Tm.iW us b l=l.map (Tm.subst us b)
 |[]=>rfl
 |a::r=>by simp[Tm.iW,Tm.rB us b r]
def Cn (k n:Int)(s:List UInt8)(l:List Tm)(uk un:Int)(unm:List UInt8)(ul:List (List PV))(f:Tm->Tm)(i:Nat):Heap :=
 [.box [.p (iv k),.p (iv n),.p (.s s),.p (.sl (l.map Tm.aw))],.box [.p (iv uk),.p (iv un),.p (.s unm),.p (.sl ul)],.box [.p (iv 0),.p (iv 0),.p (.s []),.aC],.box [.p (iv k),.p (iv n),.p (.s s),.arr 4 i (i-1)],.arr 4 ((l.take i).map λt=>(f t).aw) (i-1) 0]
theorem Mi (h:bY pg){body:aU}(hb:body=m_){k n:Int}{s:List UInt8}{l:List Tm}(uk un:Int)(unm:List UInt8)(ul:List (List PV))(b:Int)(f:Tm->Tm)(hl:l.length<=60)(hf:0<=b/\b<=2 ^ 59)(hm:0<=de k n/\de k n<=8)
  (ih:∀t∈l,∀G:Heap,UM pg (E pg) 100 [.ag (bP t.aw),.p (.i .i64 0),.ag [.p (iv uk),.p (iv un),.p (.s unm),.p (.sl ul)],.p (.i .i64 (b+de k n))] G=some (.ret (f t).nv,G)):∀m i,1<=i->i+m=l.length ->
  L pg 0 [1,3,4,6,8,9,10] body [(1,.p (.i .i64 0)),(3,.p (.i .i64 b)),(4,.ptr 0 0),(6,.ptr 1 0),(8,.ptr 2 0),(9,.ptr 3 0),(10,.p (.i .i64 (i:Nat)))] (Cn k n s l uk un unm ul f i) =
   some (.exit 0,[(1,.p (.i .i64 0)),(3,.p (.i .i64 b)),(4,.ptr 0 0),(6,.ptr 1 0),(8,.ptr 2 0),(9,.ptr 3 0),(10,.p (.i .i64 l.length)),(45,.p (.b false))],Cn k n s l uk un unm ul f l.length)
 |0,i,h1,hi=>by
  have:i=l.length:=by omega
  subst this;rw[dA hb];simp[m_,aj,Cn]
 |m+1,i,h1,hi=>by
  have hlt:i<l.length:=by omega
  have hx:l[i]?=some l[i]:=gG hlt;have e1:=λG=>ih l[i] (aE hx) G;have ih':=Mi h hb (k:=k) (n:=n) (s:=s) uk un unm ul b f hl hf hm ih m (i+1) (by omega) (by omega);rw[show((i+1:Nat):Int)=(i:Int)+1 from by omega]at ih';have e5:List.take (i+1) l=List.take i l++[l[i]]:=by rw[cG,gG hlt];rfl
  have e6:i-1+1=i:=by omega
  have e7:bZ (i+1) 56=true:=by simp[bZ];omega
  have e9:i<=l.length:=by omega
  have w1:=cR ((i:Int)+1);have w2:=cR (b+de k n);have k100:bC pg 100=false:=h.bq (x:=z8) rfl;have k68:bC pg 68=false:=h.bq (x:=YP) rfl;have n0:eU (List.map AV.p l[i].aw)=true:=by cases l[i];rfl
  have e0:bH 4 [(f l[i]).aw]=true:=by simp[bH,Tm.aS]
  have e8:∀l:List (List PV),List.take i (List.take i l)=List.take i l:=λl=>by rw[eQ,Wa]
  have e10:List.take l.length (List.map (λt=>(f t).aw) l)=List.map (λt=>(f t).aw) l:=aF (by simp);have t68':=λG=>t68 (G:=G) h k n s (l.map Tm.aw);simp only[bP]at e1;rw[dA hb];unfold Cn at ih' ⊢;simp only[show i+1-1=i from by omega,e5,bB,da,ai,au]at ih';simp[m_,aj,hlt,hx,Tm.aS,e1,Tm.pS,Tm.ku,t68',bP,Uu.Uv,mT,cX,e6,e7,e8,e9,e10,e0,th,k100,k68,n0,w1,w2,gc,exp,aQ,UG,ih']
theorem Mj (h:bY pg){body:aU}(hb:body=m_){k n:Int}{s:List UInt8}{l:List Tm}(uk un:Int)(unm:List UInt8)(ul:List (List PV))(b:Int)(f:Tm->Tm)(hl:l.length<=60)(h1:1<=l.length)(hf:0<=b/\b<=2 ^ 59)(hm:0<=de k n/\de k n<=8)
  (ih:∀t∈l,∀G:Heap,UM pg (E pg) 100 [.ag (bP t.aw),.p (.i .i64 0),.ag [.p (iv uk),.p (iv un),.p (.s unm),.p (.sl ul)],.p (.i .i64 (b+de k n))] G=some (.ret (f t).nv,G)) :
  L pg 0 [1,3,4,6,8,9,10] body [(1,.p (.i .i64 0)),(3,.p (.i .i64 b)),(4,.ptr 0 0),(6,.ptr 1 0),(8,.ptr 2 0),(9,.ptr 3 0),(10,.p (.i .i64 0))]
   [.box [.p (iv k),.p (iv n),.p (.s s),.p (.sl (l.map Tm.aw))],.box [.p (iv uk),.p (iv un),.p (.s unm),.p (.sl ul)],.box [.p (iv 0),.p (iv 0),.p (.s []),.aC],.box [.p (iv k),.p (iv n),.p (.s s),.aC]] =
   some (.exit 0,[(1,.p (.i .i64 0)),(3,.p (.i .i64 b)),(4,.ptr 0 0),(6,.ptr 1 0),(8,.ptr 2 0),(9,.ptr 3 0),(10,.p (.i .i64 l.length)),(45,.p (.b false))],Cn k n s l uk un unm ul f l.length):=by
 have hL:=Mi h hb (k:=k) (n:=n) (s:=s) uk un unm ul b f hl hf hm ih (l.length-1) 1 (by omega) (by omega);have hpos:(0:Int)<(l.length:Int):=by omega
 have hpos':0<l.length:=by omega
 have hx:l[0]?=some l[0]:=gG hpos';have e1:=λG=>ih l[0] (aE hx) G;have e5:List.take 1 l=[l[0]]:=by rw[cG,gG (by omega)];rfl
 have e7:bZ 1 56=true:=by rfl
 have w1:=cR 1;have w2:=cR (b+de k n);have k100:bC pg 100=false:=h.bq (x:=z8) rfl;have k68:bC pg 68=false:=h.bq (x:=YP) rfl;have n0:eU (List.map AV.p l[0].aw)=true:=by cases l[0];rfl
 have e0:bH 4 [(f l[0]).aw]=true:=by simp[bH,Tm.aS]
 have t68':=λG=>t68 (G:=G) h k n s (l.map Tm.aw);unfold Cn at hL ⊢;simp only[e5,ai,au,WW,fx]at hL;simp only[bP]at e1;rw[dA hb];simp[m_,aj,hpos,hpos',hx,Tm.aS,e1,Tm.pS,Tm.ku,t68',bP,Uu.Uv,mT,cX,e7,e0,th,k100,k68,n0,w1,w2,gc,exp,aQ,UG,hL]
theorem Mk (h:bY pg){body:aU}(hb:body=m_){k n:Int}{s:List UInt8}(uk un:Int)(unm:List UInt8)(ul:List (List PV))(b:Int) :
  L pg 0 [1,3,4,6,8,9,10] body [(1,.p (.i .i64 0)),(3,.p (.i .i64 b)),(4,.ptr 0 0),(6,.ptr 1 0),(8,.ptr 2 0),(9,.ptr 3 0),(10,.p (.i .i64 0))]
   [.box [.p (iv k),.p (iv n),.p (.s s),.p (.sl [])],.box [.p (iv uk),.p (iv un),.p (.s unm),.p (.sl ul)],.box [.p (iv 0),.p (iv 0),.p (.s []),.aC],.box [.p (iv k),.p (iv n),.p (.s s),.aC]] =
   some (.exit 0,[(1,.p (.i .i64 0)),(3,.p (.i .i64 b)),(4,.ptr 0 0),(6,.ptr 1 0),(8,.ptr 2 0),(9,.ptr 3 0),(10,.p (.i .i64 0)),(45,.p (.b false))],[.box [.p (iv k),.p (iv n),.p (.s s),.p (.sl [])],.box [.p (iv uk),.p (iv un),.p (.s unm),.p (.sl ul)],.box [.p (iv 0),.p (iv 0),.p (.s []),.aC],.box [.p (iv k),.p (iv n),.p (.s s),.aC]]):=by
 rw[dA hb];simp[m_,aj]
def Co (k n:Int)(s:List UInt8)(l:List Tm)(f:Tm->Tm)(i:Nat):Heap :=
 [.box [.p (iv k),.p (iv n),.p (.s s),.p (.sl (l.map Tm.aw))],.box [.p (iv 0),.p (iv 0),.p (.s []),.aC],.box [.p (iv k),.p (iv n),.p (.s s),.arr 3 i (i-1)],.arr 4 ((l.take i).map λt=>(f t).aw) (i-1) 0]
theorem Ml (h:bY pg){body:aU}(hb:body=WO){k n:Int}{s:List UInt8}{l:List Tm}(us:List Tm)(b:Int)(f:Tm->Tm)(hl:l.length<=60)(hf:0<=b/\b<=2 ^ 59)(hm:0<=de k n/\de k n<=8)
  (ih:∀t∈l,∀G:Heap,UM pg (E pg) 118 [.ag (bP t.aw),.p (.sl ((us.map Tm.aw).reverse)),.p (.i .i64 (b+de k n))] G=some (.ret (f t).nv,G)):∀m i,1<=i->i+m=l.length ->
  L pg 0 [1,2,3,6,7,8] body [(1,.p (.sl ((us.map Tm.aw).reverse))),(2,.p (.i .i64 b)),(3,.ptr 0 0),(6,.ptr 1 0),(7,.ptr 2 0),(8,.p (.i .i64 (i:Nat)))] (Co k n s l f i) =
   some (.exit 0,[(1,.p (.sl ((us.map Tm.aw).reverse))),(2,.p (.i .i64 b)),(3,.ptr 0 0),(6,.ptr 1 0),(7,.ptr 2 0),(8,.p (.i .i64 l.length)),(55,.p (.b false))],Co k n s l f l.length)
 |0,i,h1,hi=>by
  have:i=l.length:=by omega
  subst this;rw[dA hb];simp[WO,aj,Co]
 |m+1,i,h1,hi=>by
  have hlt:i<l.length:=by omega
  have hx:l[i]?=some l[i]:=gG hlt;have e1:=λG=>ih l[i] (aE hx) G;have ih':=Ml h hb (k:=k) (n:=n) (s:=s) us b f hl hf hm ih m (i+1) (by omega) (by omega);rw[show((i+1:Nat):Int)=(i:Int)+1 from by omega]at ih';have e5:List.take (i+1) l=List.take i l++[l[i]]:=by rw[cG,gG hlt];rfl
  have e6:i-1+1=i:=by omega
  have e7:bZ (i+1) 56=true:=by simp[bZ];omega
  have e9:i<=l.length:=by omega
  have w1:=cR ((i:Int)+1);have w2:=cR (b+de k n);have k118:bC pg 118=false:=h.bq (x:=z_) rfl;have k68:bC pg 68=false:=h.bq (x:=YP) rfl;have n0:eU (List.map AV.p l[i].aw)=true:=by cases l[i];rfl
  have e0:bH 4 [(f l[i]).aw]=true:=by simp[bH,Tm.aS]
  have e8:∀l:List (List PV),List.take i (List.take i l)=List.take i l:=λl=>by rw[eQ,Wa]
  have e10:List.take l.length (List.map (λt=>(f t).aw) l)=List.map (λt=>(f t).aw) l:=aF (by simp);have t68':=λG=>t68 (G:=G) h k n s (l.map Tm.aw);simp only[bP]at e1;rw[dA hb];unfold Co at ih' ⊢;simp only[show i+1-1=i from by omega,e5,bB,da,ai,au]at ih';simp[WO,aj,hlt,hx,Tm.aS,e1,Tm.pS,Tm.ku,t68',bP,Uu.Uv,mT,cX,e6,e7,e8,e9,e10,e0,th,k118,k68,n0,w1,w2,gc,exp,aQ,UG,ih']
theorem Mm (h:bY pg){body:aU}(hb:body=WO){k n:Int}{s:List UInt8}{l:List Tm}(us:List Tm)(b:Int)(f:Tm->Tm)(hl:l.length<=60)(h1:1<=l.length)(hf:0<=b/\b<=2 ^ 59)(hm:0<=de k n/\de k n<=8)
  (ih:∀t∈l,∀G:Heap,UM pg (E pg) 118 [.ag (bP t.aw),.p (.sl ((us.map Tm.aw).reverse)),.p (.i .i64 (b+de k n))] G=some (.ret (f t).nv,G)) :
  L pg 0 [1,2,3,6,7,8] body [(1,.p (.sl ((us.map Tm.aw).reverse))),(2,.p (.i .i64 b)),(3,.ptr 0 0),(6,.ptr 1 0),(7,.ptr 2 0),(8,.p (.i .i64 0))]
   [.box [.p (iv k),.p (iv n),.p (.s s),.p (.sl (l.map Tm.aw))],.box [.p (iv 0),.p (iv 0),.p (.s []),.aC],.box [.p (iv k),.p (iv n),.p (.s s),.aC]] =
   some (.exit 0,[(1,.p (.sl ((us.map Tm.aw).reverse))),(2,.p (.i .i64 b)),(3,.ptr 0 0),(6,.ptr 1 0),(7,.ptr 2 0),(8,.p (.i .i64 l.length)),(55,.p (.b false))],Co k n s l f l.length):=by
 have hL:=Ml h hb (k:=k) (n:=n) (s:=s) us b f hl hf hm ih (l.length-1) 1 (by omega) (by omega);have hpos:(0:Int)<(l.length:Int):=by omega
 have hpos':0<l.length:=by omega
 have hx:l[0]?=some l[0]:=gG hpos';have e1:=λG=>ih l[0] (aE hx) G;have e5:List.take 1 l=[l[0]]:=by rw[cG,gG (by omega)];rfl
 have e7:bZ 1 56=true:=by rfl
 have w1:=cR 1;have w2:=cR (b+de k n);have k118:bC pg 118=false:=h.bq (x:=z_) rfl;have k68:bC pg 68=false:=h.bq (x:=YP) rfl;have n0:eU (List.map AV.p l[0].aw)=true:=by cases l[0];rfl
 have e0:bH 4 [(f l[0]).aw]=true:=by simp[bH,Tm.aS]
 have t68':=λG=>t68 (G:=G) h k n s (l.map Tm.aw);unfold Co at hL ⊢;simp only[e5,ai,au,WW,fx]at hL;simp only[bP]at e1;rw[dA hb];simp[WO,aj,hpos,hpos',hx,Tm.aS,e1,Tm.pS,Tm.ku,t68',bP,Uu.Uv,mT,cX,e7,e0,th,k118,k68,n0,w1,w2,gc,exp,aQ,UG,hL]
theorem Mn (h:bY pg){body:aU}(hb:body=WO){k n:Int}{s:List UInt8}(us:List Tm)(b:Int) :
  L pg 0 [1,2,3,6,7,8] body [(1,.p (.sl ((us.map Tm.aw).reverse))),(2,.p (.i .i64 b)),(3,.ptr 0 0),(6,.ptr 1 0),(7,.ptr 2 0),(8,.p (.i .i64 0))]
   [.box [.p (iv k),.p (iv n),.p (.s s),.p (.sl [])],.box [.p (iv 0),.p (iv 0),.p (.s []),.aC],.box [.p (iv k),.p (iv n),.p (.s s),.aC]] =
   some (.exit 0,[(1,.p (.sl ((us.map Tm.aw).reverse))),(2,.p (.i .i64 b)),(3,.ptr 0 0),(6,.ptr 1 0),(7,.ptr 2 0),(8,.p (.i .i64 0)),(55,.p (.b false))],[.box [.p (iv k),.p (iv n),.p (.s s),.p (.sl [])],.box [.p (iv 0),.p (iv 0),.p (.s []),.aC],.box [.p (iv k),.p (iv n),.p (.s s),.aC]]):=by
 rw[dA hb];simp[WO,aj]
theorem t100 (h:bY pg)(u:Tm)(hu:u.Ck 0)(hud:8 * u.depth<=2 ^ 60):∀(t:Tm) (b:Int),t.Ck (b+1)->0<=b->b+8 * t.depth<=2 ^ 59->∀(G:Heap),UM pg (E pg) 100 [.ag (bP t.aw),.p (.i .i64 0),.ag (bP u.aw),.p (.i .i64 b)] G=some (.ret (t.subst [u] b).nv,G):=by
 have Ks:=fun (b:Int) (G:Heap)=>t119 h b u 0 hu (by omega) (by omega) G;obtain⟨uk,un,unm,ul⟩:=u;simp only[Tm.aw,Tm.ba,bP,ai,au,Tm.eS]at Ks;refine Tm.ind λk n s l ih b hc h0 hf G=>?_;have hfl:(k=1->0<=n/\n<b+1)/\(k=6->0<=n/\n<=8)/\l.length<=60/\∀t∈l,t.Ck (b+1+de k n):=by cases hc with|mk a b c d=>exact⟨a,b,c,d⟩
 obtain⟨q1,q2,q3,q4⟩:=hfl;have hm:=wG q2;simp only[Tm.depth]at hf;have ih':∀t∈l,∀G:Heap,UM pg (E pg) 100 [.ag (bP t.aw),.p (.i .i64 0),.ag [.p (iv uk),.p (iv un),.p (.s unm),.p (.sl (ul.map Tm.aw))],.p (.i .i64 (b+de k n))] G=some (.ret (t.subst [.mk uk un unm ul] (b+de k n)).nv,G):=λt ht G=>by
  have:=Tm.VE ht;have:=ih t ht _ (by rw[show b+de k n+1=b+1+de k n from by omega];exact q4 t ht) (by omega) (by omega) G;simp only[Tm.aw,Tm.ba,bP,ai,au]at this;exact this
 simp only[Tm.aw,Tm.ba,bP,ai,au];refine Ut ?_ rfl ?_
 ·rw[h.run (x:=z8)];by_cases c1:k=1
  ·have hn:=q1 c1;have w0:=cR b;by_cases c2:n=b
   ·subst c2;simp[z8,aj,Tm.eS,c1,Tm.subst,w0,Ks]
   ·have c3:n<b:=by omega
    have c4:¬ b<n:=by omega
    simp[z8,aj,Tm.eS,c1,c2,c3,c4,Tm.subst,w0]
  by_cases c4:l=[]
  ·subst c4;have hL:=Mk h (body:=m_) rfl (k:=k) (n:=n) (s:=s) uk un unm (ul.map Tm.aw) b;simp[z8,aj,Tm.eS,c1,Tm.subst,Tm.iW,gc,exp,aQ,UG];rw[hL];simp[aj]
  ·have hL:=Mj h (body:=m_) rfl (k:=k) (n:=n) (s:=s) uk un unm (ul.map Tm.aw) b (Tm.subst [.mk uk un unm ul] (b+de k n)) q3 (by have:=eR.2 c4;omega) ⟨by omega,by omega⟩ hm ih';have e10:∀f:Tm->Tm,List.take l.length (List.map (λt=>(f t).aw) l)=List.map (λt=>(f t).aw) l:=λf=>aF (by simp);generalize hff:Tm.subst [.mk uk un unm ul] (b+de k n)=ff at *;have hsub:(Tm.mk k n s l).subst [.mk uk un unm ul] b=.mk k n s (l.map ff):=by rw[Tm.subst,aa c1,Tm.rB,hff]
   rw[hsub];unfold Cn at hL;simp[z8,aj,Tm.eS,c1,c4,gc,exp,aQ,UG];rw[hL];simp[aj,e10]
 ·simp only[Out.bf,Tm.nv,bf];exact bE 0 (eZ _)
theorem t78 (h:bY pg){u t:Tm}(hu:u.Ck 0)(hud:8 * u.depth<=2 ^ 60)(ht:t.Ck 1)(htd:8 * t.depth<=2 ^ 59):UM pg (E pg) 78 [.ag (bP t.aw),.p (.i .i64 0),.ag (bP u.aw)] G=some (.ret (t.subst [u] 0).nv,G):=by
 have Qs:=λG=>t100 h u hu hud t 0 ht (by omega) (by omega) G;generalize t.subst [u] 0=r at *;obtain⟨uk,un,unm,ul⟩:=u;obtain⟨tk,tn,tnm,tl⟩:=t;obtain⟨rk,rn,rnm,rl⟩:=r;simp only[Tm.aw,Tm.ba,bP,ai,au,Tm.eS]at Qs ⊢;refine Ut ?_ rfl rfl;rw[h.run (x:=M4)];simp[M4,aj,Qs]
theorem t118 (h:bY pg)(us:List Tm)(hu:∀u∈us,u.Ck 0/\8 * u.depth<=2 ^ 60)(hus:us.length<=60):∀(t:Tm) (b:Int),t.Ck (b+us.length)->0<=b->b+8 * t.depth<=2 ^ 59->∀(G:Heap),UM pg (E pg) 118 [.ag (bP t.aw),.p (.sl ((us.map Tm.aw).reverse)),.p (.i .i64 b)] G=some (.ret (t.subst us b).nv,G):=by
 refine Tm.ind λk n s l ih b hc h0 hf G=>?_;have hfl:(k=1->0<=n/\n<b+us.length)/\(k=6->0<=n/\n<=8)/\l.length<=60/\∀t∈l,t.Ck (b+us.length+de k n):=by cases hc with|mk a b c d=>exact⟨a,b,c,d⟩
 obtain⟨q1,q2,q3,q4⟩:=hfl;have hm:=wG q2;simp only[Tm.depth]at hf;have ih':∀t∈l,∀G:Heap,UM pg (E pg) 118 [.ag (bP t.aw),.p (.sl ((us.map Tm.aw).reverse)),.p (.i .i64 (b+de k n))] G=some (.ret (t.subst us (b+de k n)).nv,G):=λt ht G=>by
  have:=Tm.VE ht;exact ih t ht _ (by rw[show b+de k n+us.length=b+us.length+de k n from by omega];exact q4 t ht) (by omega) (by omega) G
 refine Ut ?_ (by simp only[Tm.aw];rfl) ?_
 ·rw[h.run (x:=z_)];by_cases c1:k=1
  ·have hn:=q1 c1;by_cases c2:n<b
   ·simp[z_,aj,Tm.aw,bP,Tm.ba,Tm.eS,c1,c2,Tm.subst]
   ·have hi:(n-b).toNat<us.length:=by omega
    obtain⟨v,hx⟩:∃v,us[(n-b).toNat]?=some v:=⟨_,gG hi⟩
    have hsub:(Tm.mk k n s l).subst us b=v:=by
     rw[Tm.subst,ah c1,aa c2,List.getD_eq_getElem?_getD,hx];rfl
    rw[hsub];obtain⟨hu1,hu2⟩:=hu _ (aE hx);have Ks:=fun (G:Heap)=>t119 h b v 0 hu1 (by omega) (by omega) G;have w1:=cR (b+us.length);have w2:=cR ((us.length:Int)-1);have w3:=cR (n-b);have w4:=cR ((us.length:Int)-1-(n-b));have c3:n<b+us.length:=hn.2;have hr:((us.map Tm.aw).reverse)[((us.length:Int)-1-(n-b)).toNat]?=some v.aw:=by
     rw[List.getElem?_reverse (by simp;omega)];simp only[cU,List.getElem?_map];rw[show us.length-1-((us.length:Int)-1-(n-b)).toNat=(n-b).toNat from by omega,hx];rfl
    have hge:0<=(us.length:Int)-1-(n-b):=by omega
    have hge2:n-b<=(us.length:Int)-1:=by omega
    have hge':¬ ((us.length:Int)-1-(n-b)<0):=by omega
    obtain⟨vk,vn,vnm,vl⟩:=v;simp only[Tm.aw,Tm.ba,bP,ai,au,Tm.eS]at Ks hr ⊢;have hRl:((us.map Tm.aw).reverse).length=us.length:=by simp
    have ok4:aS 4 [iv vk,iv vn,.s vnm,.sl (vl.map Tm.aw)]=true:=rfl;generalize ((us.map Tm.aw).reverse)=R at *;simp[z_,aj,c1,c2,c3,hRl,w1,w2,w3,w4,hge,hge2,hge',hr,ok4,Ks]
  by_cases c4:l=[]
  ·subst c4;have hL:=Mn h (body:=WO) rfl (k:=k) (n:=n) (s:=s) us b;simp[z_,aj,Tm.aw,bP,Tm.df,Tm.ba,Tm.nv,c1,Tm.subst,Tm.iW,gc,exp,aQ,UG];rw[hL];simp[aj]
  ·have hL:=Mm h (body:=WO) rfl (k:=k) (n:=n) (s:=s) us b (Tm.subst us (b+de k n)) q3 (by have:=eR.2 c4;omega) ⟨by omega,by omega⟩ hm ih';have e10:∀f:Tm->Tm,List.take l.length (List.map (λt=>(f t).aw) l)=List.map (λt=>(f t).aw) l:=λf=>aF (by simp);generalize hff:Tm.subst us (b+de k n)=ff at *;have hsub:(Tm.mk k n s l).subst us b=.mk k n s (l.map ff):=by rw[Tm.subst,aa c1,Tm.rB,hff]
   rw[hsub];unfold Co at hL;simp[z_,aj,Tm.aw,bP,Tm.ba,Tm.nv,c1,c4,gc,exp,aQ,UG];rw[hL];simp[aj,e10]
 ·simp only[Out.bf,Tm.nv,bf];exact bE 0 (eZ _)
mutual
def Ct.sub (us:List Ct):Nat->Ct->Ct
 |b,.var i=>if i<b then .var i else us.getD (i-b) .fail
 |b,.lam t=>.lam (t.sub us (b+1))
 |b,.app f a=>.app (f.sub us b) (a.sub us b)
 |b,.UW s l=>.UW s (Ct.Bc us b l)
 |b,.case h l=>.case (h.sub us b) (Ct.Bc us b l)
 |b,.alt s n t=>.alt s n (t.sub us (b+n))
 |_,.int v=>.int v
 |b,.op s x y=>.op s (x.sub us b) (y.sub us b)
 |_,.fail=>.fail
def Ct.Bc (us:List Ct):Nat->List Ct->List Ct
 |_,[]=>[]
 |b,a::r=>a.sub us b::Ct.Bc us b r
end
theorem Ct.Vh (us:List Ct)(b:Nat):∀l,Ct.Bc us b l=l.map (Ct.sub us b)
 |[]=>rfl
 |a::r=>by simp[Ct.Bc,Ct.Vh us b r]
mutual
theorem Ct.WT (us:List Ct):∀(t:Ct) (b:Nat),(t.sub us b).tm=t.tm.subst (us.map Ct.tm) b
 |.var i,b=>by
  simp only[Ct.sub,Ct.tm,Tm.subst];by_cases c:i<b
  ·rw[ah c,ah trivial,ah (by omega)];rfl
  ·rw[aa c,ah trivial,aa (by omega)];rw[List.getD_eq_getElem?_getD,List.getD_eq_getElem?_getD,List.getElem?_map,show((i:Int)-b).toNat=i-b from by omega];cases us[i-b]?<;>rfl
 |.lam t,b=>by
  have:=Ct.WT us t (b+1);simp only[Ct.sub,Ct.tm,Tm.subst,Tm.iW,aa (show ¬ (2:Int)=1 by omega),this];rfl
 |.app f a,b=>by
  have h1:=Ct.WT us f b;have h2:=Ct.WT us a b;simp only[Ct.sub,Ct.tm,Tm.subst,Tm.iW,aa (show ¬ (3:Int)=1 by omega),h1,h2,de,aa (show ¬ (3:Int)=2 by omega),aa (show ¬ (3:Int)=6 by omega),iK]
 |.UW s l,b=>by
  have:=Ct.zd us l b;simp only[Ct.sub,Ct.tm,Tm.subst,aa (show ¬ (4:Int)=1 by omega),this,de,aa (show ¬ (4:Int)=2 by omega),aa (show ¬ (4:Int)=6 by omega),iK]
 |.case h l,b=>by
  have h1:=Ct.WT us h b;have h2:=Ct.zd us l b;simp only[Ct.sub,Ct.tm,Tm.subst,Tm.iW,aa (show ¬ (5:Int)=1 by omega),h1,h2,de,aa (show ¬ (5:Int)=2 by omega),aa (show ¬ (5:Int)=6 by omega),iK]
 |.alt s n t,b=>by
  have:=Ct.WT us t (b+n);simp only[Ct.sub,Ct.tm,Tm.subst,Tm.iW,aa (show ¬ (6:Int)=1 by omega),this,de,aa (show ¬ (6:Int)=2 by omega),ah (show(6:Int)=6 by rfl)];rfl
 |.int v,b=>by simp[Ct.sub,Ct.tm,Tm.subst,Tm.iW]
 |.op s x y,b=>by
  have h1:=Ct.WT us x b;have h2:=Ct.WT us y b;simp only[Ct.sub,Ct.tm,Tm.subst,Tm.iW,aa (show ¬ (8:Int)=1 by omega),h1,h2,de,aa (show ¬ (8:Int)=2 by omega),aa (show ¬ (8:Int)=6 by omega),iK]
 |.fail,b=>by simp[Ct.sub,Ct.tm,Tm.subst,Tm.iW]
theorem Ct.zd (us:List Ct):∀(l:List Ct) (b:Nat),Ct.gp (Ct.Bc us b l)=Tm.iW (us.map Ct.tm) b (Ct.gp l)
 |[],b=>rfl
 |a::r,b=>by
  have h1:=Ct.WT us a b;have h2:=Ct.zd us r b;simp only[Ct.Bc,Ct.gp,Tm.iW,h1,h2]
end
theorem Ct.jJ:∀(N:Nat) (t:Ct) (f:Nat),t.size<=N->t.wf f=true->t.tm.Ck f
 |0,t,f,hs,hw=>by have:=size_pos t;omega
 |N+1,t,f,hs,hw=>by
  cases t with
  |var i =>
   simp only[Ct.wf,Uq]at hw;exact .mk (λ_=>by omega) (λe=>by omega) (by simp) (by simp)
  |lam b =>
   simp only[Ct.wf]at hw;simp only[Ct.size]at hs;refine .mk (λe=>by omega) (λe=>by omega) (by simp) (λt ht=>?_);simp only[br]at ht;subst ht;exact Ct.jJ N b (f+1) (by omega) hw
  |app x y =>
   simp only[Ct.wf,ab]at hw;simp only[Ct.size]at hs;refine .mk (λe=>by omega) (λe=>by omega) (by simp) (λt ht=>?_);simp only[aA,UA,dU]at ht;have e:(f:Int)+de 3 0=f:=by simp[de]
   rw[e];rcases ht with rfl|rfl
   ·exact Ct.jJ N x f (by omega) hw.1
   ·exact Ct.jJ N y f (by omega) hw.2
  |UW s l =>
   simp only[Ct.wf,ab,Uq]at hw;simp only[Ct.size]at hs;refine .mk (λe=>by omega) (λe=>by omega) (by rw[Ct.cM];simp;omega) (λt ht=>?_);have e:(f:Int)+de 4 0=f:=by simp[de]
   rw[e];rw[Ct.cM]at ht;obtain⟨t',h1,rfl⟩:=bj.1 ht;exact Ct.jJ N t' f (by have:=dm h1;omega) (Vi hw.2 t' h1)
  |case h l =>
   simp only[Ct.wf,ab,Uq]at hw;simp only[Ct.size]at hs;have e:(f:Int)+de 5 0=f:=by simp[de]
   refine .mk (λe=>by omega) (λe=>by omega) (by rw[Ct.cM];simp;omega) (λt ht=>?_);rw[e];rw[Ct.cM]at ht;rcases aA.1 ht with rfl|ht
   ·exact Ct.jJ N h f (by omega) hw.1.1.1
   ·obtain⟨t',h1,rfl⟩:=bj.1 ht;obtain⟨s,k,b,rfl,w1,w2⟩:=fV hw.2 t' h1;have hk8:k<=8:=h_ hw.1.2 (s,k) (bj.2 ⟨_,h1,rfl⟩);have hsz:=dm h1;simp only[Ct.size]at hsz;refine .mk (λe=>by omega) (λ_=>by omega) (by simp) (λt ht=>?_);simp only[br]at ht;subst ht;have:=Ct.jJ N b (f+k) (by omega) w2;rw[show(f:Int)+de 6 k=((f+k:Nat):Int) from by simp[de]];exact this
  |alt s n b=>simp[Ct.wf]at hw
  |int v=>exact .mk (λe=>by omega) (λe=>by omega) (by simp) (by simp)
  |op s x y =>
   simp only[Ct.wf,ab]at hw;simp only[Ct.size]at hs;refine .mk (λe=>by omega) (λe=>by omega) (by simp) (λt ht=>?_);simp only[aA,UA,dU]at ht;have e:(f:Int)+de 8 0=f:=by simp[de]
   rw[e];rcases ht with rfl|rfl
   ·exact Ct.jJ N x f (by omega) hw.1.2
   ·exact Ct.jJ N y f (by omega) hw.2
  |fail=>exact .mk (λe=>by omega) (λe=>by omega) (by simp) (by simp)
theorem Tm.Ck.short {f:Int}{t:Tm}(h:t.Ck f):t.qH:=by
 induction h with
 |mk a b c d ih=>exact .mk c ih
mutual
theorem Ct.iQ:∀t:Ct,t.tm.size=t.size
 |.var _|.int _|.fail=>rfl
 |.lam b|.alt _ _ b=>by have:=Ct.iQ b;simp only[Ct.tm,Tm.size,Tm.dt,Ct.size,this];try omega
 |.app a b|.op _ a b=>by have h1:=Ct.iQ a;have h2:=Ct.iQ b;simp only[Ct.tm,Tm.size,Tm.dt,Ct.size,h1,h2];omega
 |.UW _ l=>by have:=Ct.wH l;simp only[Ct.tm,Tm.size,Ct.size,this]
 |.case h l=>by have h1:=Ct.iQ h;have h2:=Ct.wH l;simp only[Ct.tm,Tm.size,Tm.dt,Ct.size,h1,h2]
theorem Ct.wH:∀l:List Ct,Tm.dt (Ct.gp l)=Ct.dt l
 |[]=>rfl
 |a::r=>by have h1:=Ct.iQ a;have h2:=Ct.wH r;simp only[Ct.gp,Tm.dt,Ct.dt,h1,h2]
end
mutual
theorem Tm.oM:∀t:Tm,t.depth<=t.size
 |.mk _ _ _ l=>by have:=Tm.tZ l;simp only[Tm.depth,Tm.size];omega
theorem Tm.tZ:∀l:List Tm,Tm.dp l<=Tm.dt l
 |[]=>aB _
 |a::r=>by
  have h1:=Tm.oM a;have h2:=Tm.tZ r;simp only[Tm.dp,Tm.dt];exact ql.2 ⟨by omega,by omega⟩
end
structure Ct.Cl (t:Ct):Prop where
 wf:t.wf 0=true
 sz:t.size<=2 ^ 50
theorem Ct.Cl.jJ {t:Ct}(h:t.Cl):t.tm.Ck 0:=Ct.jJ t.size t 0 (aB _) h.wf
theorem Ct.Cl.dep {t:Ct}(h:t.Cl):8 * t.tm.depth<=2 ^ 59:=by
 have:=Tm.oM t.tm;rw[Ct.iQ]at this;have:=h.sz;omega
def Ct.val:Ct->Bool
 |.lam _|.UW _ _|.int _|.fail=>true
 |_=>false
def ue (s:List UInt8)(a b:Int):Ct×Nat :=
 if s=[43] then (.int (IntKind.i64.wrap (a+b)),3) else if s=[45] then (.int (IntKind.i64.wrap (a-b)),3)
 else if s=[42] then (.int (IntKind.i64.wrap (a * b)),3) else if s=[47] then (if b=0 then (.fail,4) else (.int (IntKind.i64.wrap (a.tdiv b)),3))
 else if (s=[60]/\a<b)\/(s=[61,61]/\a=b) then (.UW [84,114,117,101] [],3) else (.UW [70,97,108,115,101] [],3)
theorem HT (s:List UInt8)(a b:Int):(Eg s a b).1=(ue s a b).1.tm/\(Eg s a b).2=(ue s a b).2:=by
 unfold Eg ue
 repeat' split
 all_goals exact⟨rfl,rfl⟩
def gm:Ct->Ct
 |.alt _ _ b=>b
 |t=>t
def qI (l:List Ct)(s:List UInt8)(n:Nat):Option Nat:=l.findIdx? λt=>decide (fQ t=(s,n))
def Ct.pick (h:Ct)(l:List Ct):Ct×Nat:=match h with
 |.UW s ls=>match qI l s ls.length with
  |some k=>((gm (l.getD k .fail)).sub ls.reverse 0,2)
  |none=>(.fail,4)
 |_=>(.fail,4)
def Ct.step:Ct->Ct×Nat
 |.app f a=>if f.val then (match f with
   |.lam b=>(b.sub [a] 0,1)
   |_=>(.fail,4)) else if f.step.2=0 then (.app f a,0) else (.app f.step.1 a,f.step.2)
 |.case h l=>if h.val then h.pick l else if h.step.2=0 then (.case h l,0) else (.case h.step.1 l,h.step.2)
 |.op s a b=>if a.val then (match a with
   |.int n=>if b.val then (match b with
    |.int m=>ue s n m
    |_=>(.fail,4)) else if b.step.2=0 then (.op s (.int n) b,0) else (.op s (.int n) b.step.1,b.step.2)
   |_=>(.fail,4)) else if a.step.2=0 then (.op s a b,0) else (.op s a.step.1 b,a.step.2)
 |t=>(t,0)
theorem Ct.iI (t:Ct):∃k n s l,t.tm=.mk k n s l/\(decide (k=2) || decide (k=4) || decide (k=7) || decide (k=9))=t.val:=by
 cases t<;>exact⟨_,_,_,_,rfl,rfl⟩
theorem Cp (h:bY pg)(t:Ct):UM pg (E pg) 75 [.ag (bP t.tm.aw)] G=some (.ret (.p (.b t.val)),G):=by
 obtain⟨k,n,s,l,e,e2⟩:=t.iI;rw[e,<- e2];simp only[Tm.aw,Tm.ba,bP,ai,au];exact t75 h k n s _
theorem t99 (h:bY pg)(us:List Tm)(hu:∀u∈us,u.Ck 0/\8 * u.depth<=2 ^ 60)(hus:us.length<=60){t:Tm}(ht:t.Ck us.length)(htd:8 * t.depth<=2 ^ 59):UM pg (E pg) 99 [.ag (bP t.aw),.p (.sl ((us.map Tm.aw).reverse))] G=some (.ret (t.subst us 0).nv,G):=by
 have Qt:=λG=>t118 h us hu hus t 0 (by rw[Int.zero_add];exact ht) (by omega) (by omega) G;generalize t.subst us 0=r at *;obtain⟨tk,tn,tnm,tl⟩:=t;obtain⟨rk,rn,rnm,rl⟩:=r;simp only[Tm.aw,Tm.ba,bP,ai,au,Tm.eS]at Qt ⊢;refine Ut ?_ rfl rfl;rw[h.run (x:=M8)];simp[M8,aj,Qt]
end
end Go.Proofs.Z
