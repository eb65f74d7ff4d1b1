/- A part of the proof. -/
import Derived.Test.YtffohgbmjjbhiaaGreatB07
import Derived.Test.YtffohgbmjjbhiaaGreatB06
set_option linter.all false
namespace Go.Proofs.Z
section
variable {pg:fX}{G:Heap}
def vx (all:List (List UInt8×Int))(i:Nat)(a:List UInt8×Int):Bool:=(!decide (a.1=[]) && !decide (a.2<0) && !decide (8<a.2)) && (all.take i).all λb=>!decide (b.1=a.1)
theorem PW (h:bY pg)(all:List (List UInt8×Int))(hl:all.length<2 ^ 60)(c:List AV)(hc:c[4]?=some (.p (.sl (all.map Ap))))(hf:bm c=true) :
  L pg 0 [1,3] qq [(1,.ptr 0 0),(3,.p (.i .i64 0))] [.box c]=bif allI (vx all) 0 all then some (.exit 0,[(1,.ptr 0 0),(3,.p (.i .i64 all.length)),(112,.p (.b false))],[.box c]) else some (.ret,[(2,.p (.b false))],[.box c]):=by
 have he:∀e,aQ true e c=some (c,e):=λe=>bS true e hf;refine kI rfl (λi=>[(1,.ptr 0 0),(3,.p (.i .i64 (i:Nat)))]) [.box c] [.box c] all 0 (vx all) _ _ ?_ ?_ ?_
 ·intro i a hi hx hx' hp;simp only[vx,ab,a_,decide_eq_false_iff_not]at hp;obtain⟨⟨⟨p1,p2⟩,p3⟩,p4⟩:=hp;have hin:=kI (pg:=pg) (aK:=0) (live:=[1,3,4]) (body:=rU) rfl (λk=>[(1,.ptr 0 0),(3,.p (.i .i64 (i:Nat))),(4,.p (.i .i64 (k:Nat)))]) [.box c] [.box c] (all.take i) 2 (λ_ b=>!decide (b.1=a.1)) [(2,.p (.b false))] [(1,.ptr 0 0),(3,.p (.i .i64 (i:Nat))),(4,.p (.i .i64 (i:Nat))),(142,.p (.b false))]
   (λk b hk hy hy' hq=>by
    simp at hq;have hk':k<i:=by simp at hk;omega
    have hy2:all[k]?=some b:=by rw[<- hy,List.getElem?_take,ah hk']
    have hka:k<all.length:=by omega
    have hy3:all[k]=b:=by rw[gG hka]at hy2;exact cT hy2
    simp[rU,aj,hk',hc,hka,hy2,hy3,hi,hx,hx',Ap,aS,az hq,cR ((k:Int)+1),gc,exp,aQ,UG,he])
   (λk b hk hy hy' hq=>by
    simp at hq;have hk':k<i:=by simp at hk;omega
    have hy2:all[k]?=some b:=by rw[<- hy,List.getElem?_take,ah hk']
    have hka:k<all.length:=by omega
    have hy3:all[k]=b:=by rw[gG hka]at hy2;exact cT hy2
    simp[rU,aj,hk',hc,hka,hy2,hy3,hi,hx,hx',Ap,aS,Ur hq])
   (by simp[rU,aj,eF (oR hi)])
  rw[pB,p4]at hin;simp only[fW]at hin;simp[qq,aj,hi,hc,hx,hx',Ap,aS,az p1,az p2,az p3,gc,exp,aQ,UG,he,hin,cR ((i:Int)+1)]
 ·intro i a hi hx hx' hp;by_cases p1:a.1=[]
  ·simp[qq,aj,hi,hc,hx,hx',Ap,aS,Ur p1]
  by_cases p2:a.2<0
  ·simp[qq,aj,hi,hc,hx,hx',Ap,aS,az p1,Ur p2]
  by_cases p3:8<a.2
  ·simp[qq,aj,hi,hc,hx,hx',Ap,aS,az p1,az p2,Ur p3]
  have p4:((all.take i).all λb=>!decide (b.1=a.1))=false:=by simpa only[vx,p1,p2,p3,decide_false,jh,UX,nu] using hp
  have hin:=kI (pg:=pg) (aK:=0) (live:=[1,3,4]) (body:=rU) rfl (λk=>[(1,.ptr 0 0),(3,.p (.i .i64 (i:Nat))),(4,.p (.i .i64 (k:Nat)))]) [.box c] [.box c] (all.take i) 2 (λ_ b=>!decide (b.1=a.1)) [(2,.p (.b false))] [(1,.ptr 0 0),(3,.p (.i .i64 (i:Nat))),(4,.p (.i .i64 (i:Nat))),(142,.p (.b false))]
   (λk b hk hy hy' hq=>by
    simp at hq;have hk':k<i:=by simp at hk;omega
    have hy2:all[k]?=some b:=by rw[<- hy,List.getElem?_take,ah hk']
    have hka:k<all.length:=by omega
    have hy3:all[k]=b:=by rw[gG hka]at hy2;exact cT hy2
    simp[rU,aj,hk',hc,hka,hy2,hy3,hi,hx,hx',Ap,aS,az hq,cR ((k:Int)+1),gc,exp,aQ,UG,he])
   (λk b hk hy hy' hq=>by
    simp at hq;have hk':k<i:=by simp at hk;omega
    have hy2:all[k]?=some b:=by rw[<- hy,List.getElem?_take,ah hk']
    have hka:k<all.length:=by omega
    have hy3:all[k]=b:=by rw[gG hka]at hy2;exact cT hy2
    simp[rU,aj,hk',hc,hka,hy2,hy3,hi,hx,hx',Ap,aS,Ur hq])
   (by simp[rU,aj,eF (oR hi)])
  rw[pB,p4]at hin;simp only[fW]at hin;simp[qq,aj,hi,hc,hx,hx',Ap,aS,az p1,az p2,az p3,gc,exp,aQ,UG,he,hin]
 ·simp[qq,aj,hc]
def qx (x:UK):Bool:=U_ x && allI (vx x.aY) 0 x.aY
theorem t28 (h:bY pg)(k l n:Int)(name:List UInt8)(aY:List (List UInt8×Int))(to:List (Int×Int))(hl:aY.length<2 ^ 60) :
  UM pg (E pg) 28 [.ag [.p (.i .i64 k),.p (.i .i64 l),.p (.i .i64 n),.p (.s name),.p (.sl (aY.map Ap)),.p (.sl (to.map Fw))]] G=some (.ret (.p (.b (qx ⟨k,l,n,name,aY,to⟩))),G):=by
 refine Ut ?_ rfl rfl;rw[PU h k l n name aY to _ (PW h aY hl _ rfl rfl)];unfold qx qw;cases U_ ⟨k,l,n,name,aY,to⟩<;>cases allI (vx aY) 0 aY<;>simp[aj]
def kJ (x:UK):Int:=if x.ao=8 then x.to.length else if x.ao=9 then 2+x.aY.length else if 0<=x.ao then (eL x.ao.toNat:Nat) else 0
theorem t29 (h:bY pg)(k l n:Int)(name:List UInt8)(aY:List (List UInt8×Int))(to:List (Int×Int))(hl:aY.length<2 ^ 60) :
  UM pg (E pg) 29 [.ag [.p (.i .i64 k),.p (.i .i64 l),.p (.i .i64 n),.p (.s name),.p (.sl (aY.map Ap)),.p (.sl (to.map Fw))]] G=some (.ret (.p (.i .i64 (kJ ⟨k,l,n,name,aY,to⟩))),G):=by
 refine Ut ?_ rfl rfl;rw[h.run (x:=Mx)];have hk:k=1\/k=7\/k=10\/k=13\/k=5\/k=6\/k=12\/k=2\/k=3\/k=4\/k=11\/k=8\/k=9\/(k≠1/\k≠7/\k≠10/\k≠13/\k≠5/\k≠6/\k≠12/\k≠2/\k≠3/\k≠4/\k≠11/\k≠8/\k≠9):=by omega
 rcases hk with rfl|rfl|rfl|rfl|rfl|rfl|rfl|rfl|rfl|rfl|rfl|rfl|rfl|⟨a1,a2,a3,a4,a5,a6,a7,a8,a9,Cq,a11,Bl,Cr⟩
 case inr.inr.inr.inr.inr.inr.inr.inr.inr.inr.inr.inr.inr =>
  have e0:kJ ⟨k,l,n,name,aY,to⟩=0:=by
   simp only[kJ,Bl,Cr,if_false];by_cases b:0<=k
   ·rw[ah b];by_cases c:k<14
    ·have:k=0:=by omega
     subst this;rfl
    ·rw[nf (by omega)];rfl
   ·rw[aa b]
  simp[Mx,aj,a1,a2,a3,a4,a5,a6,a7,a8,a9,Cq,a11,Bl,Cr,e0]
 all_goals simp[Mx,aj,kJ,eL,cR (2+(aY.length:Int))]
def r4 (l:List UK)(p:Int×Int):Bool:=decide (0<=p.1) && decide (p.1<l.length) && decide (0<=p.2) && match l[p.1.toNat]? with
 |some x=>decide (p.2<x.to.length)
 |none=>false
theorem t30 (h:bY pg)(l:List UK)(C a b:Int) :
  UM pg (E pg) 30 [.ag [.p (.sl (l.map UK.aw)),.p (.i .i64 C)],.ag [.p (.i .i64 a),.p (.i .i64 b)]] G=some (.ret (.p (.b (r4 l (a,b)))),G):=by
 refine Ut ?_ rfl rfl;rw[h.run (x:=Kv)];by_cases h1:0<=a
 ·by_cases h2:a<l.length
  ·have h3:a.toNat<l.length:=by omega
   have e1:=ot l[a.toNat];simp only[UK.aw]at e1;by_cases h4:0<=b
   ·simp[Kv,aj,r4,h1,h2,h3,h4,UK.aw,e1]
   ·simp[Kv,aj,r4,h1,h2,h3,h4]
  ·simp[Kv,aj,r4,h1,h2]
 ·simp[Kv,aj,r4,h1]
def bx (l:List UK)(i k:Nat)(q:Int×Int):Bool:=!decide (q=((i:Int),(k:Int))) && r4 l q && match l[q.1.toNat]? with
 |some y=>decide (y.to[q.2.toNat]?=some ((i:Int),(k:Int)))
 |none=>false
def Aq (l:List UK)(i:Nat)(x:UK):Bool:=qx x && decide ((x.to.length:Int)=kJ x) && (decide (i=0) == decide (x.ao=1)) && allI (bx l i) 0 x.to
def kK (l:List UK)(C:Int):Bool:=!decide (C<1) && !decide (4000<C) && !decide ((l.length:Int)<1) && !decide (C<l.length) && (match l[l.length-1]? with|some x=>!decide (x.ao=0)|none=>true) && allI (Aq l) 0 l
theorem okW (c1 c2 c3:Int)(s:List UInt8)(a b:List (List PV)):aS 6 [iv c1,iv c2,iv c3,.s s,.sl a,.sl b]=true:=rfl
theorem OM (h:bY pg){body:aU}(hb:body=XU)(l:List UK)(C:Int)(hl:l.length<2 ^ 60)(i:Nat)(x:UK)(hx:l[i]?=some x)(hxl:x.to.length<2 ^ 60) :
  ∃H,L pg 0 [1,3,4,5] body [(1,.ptr 0 0),(3,.p (.i .i64 i)),(4,.ptr 1 0),(5,.p (.i .i64 0))] [.box [.p (.sl (l.map UK.aw)),.p (.i .i64 C)],.box (bP x.aw)] =
   bif allI (bx l i) 0 x.to then some (.exit 2,[(1,.ptr 0 0),(3,.p (.i .i64 i)),(4,.ptr 1 0),(5,.p (.i .i64 x.to.length)),(77,.p (.b false))],[.box [.p (.sl (l.map UK.aw)),.p (.i .i64 C)],.box (bP x.aw)]) else some (.ret,[(2,.p (.i .i64 120))],H):=by
 refine CQ hb (λk=>[(1,.ptr 0 0),(3,.p (.i .i64 (i:Nat))),(4,.ptr 1 0),(5,.p (.i .i64 (k:Nat)))]) [.box [.p (.sl (l.map UK.aw)),.p (.i .i64 C)],.box (bP x.aw)] x.to 2 (bx l i) _ _ ?_ ?_ ?_
 ·rintro k ⟨a,b⟩ hk hy hy' hp;have e1:∀a b:Int,aS 2 [iv a,iv b]=true:=λ_ _=>rfl;simp only[bx,ab,a_,decide_eq_false_iff_not]at hp;obtain⟨⟨p1,p2⟩,p3⟩:=hp;have p4:=p2;simp only[r4,ab,Uq]at p4;obtain⟨⟨⟨p5,p6⟩,p7⟩,p8⟩:=p4;have h3:a.toNat<l.length:=by omega
  rw[gG h3]at p3 p8;simp only[Uq]at p3 p8;have h4:b.toNat<l[a.toNat].to.length:=by omega
  have h5:l[a.toNat].to[b.toNat]=((i:Int),(k:Int)):=by rw[gG h4]at p3;exact cT p3
  have e2:=ot l[a.toNat];simp only[UK.aw]at e2;have p1':(decide (a=(i:Int)) && decide (b=(k:Int)))=false:=by
   rw[US];intro e;simp only[Uq]at e;simp only[decide_eq_false_iff_not];exact λe'=>p1 (by rw[e,e'])
  simp[XU,aj,hk,hy,hy',UK.aw,Fw,bP,e1,e2,p1',t30 h,p2,h3,p5,p7,h4,h5,Ys,jr,cR ((k:Int)+1),gc,exp,aQ,UG,h.ro,show qe tL 30=true from rfl]
 ·rintro k ⟨a,b⟩ hk hy hy' hp;have e1:∀a b:Int,aS 2 [iv a,iv b]=true:=λ_ _=>rfl;by_cases p1:(a,b)=((i:Int),(k:Int))
  ·obtain⟨rfl,rfl⟩:=Prod.mk.inj p1;refine⟨[.box [.p (.sl (l.map UK.aw)),.p (.i .i64 C)],.box (bP x.aw),.box [.p (.i .i64 i),.p (.i .i64 k)],.box [.p (.i .i64 i),.p (.i .i64 k)]],?_⟩;simp[XU,aj,hk,hy,hy',UK.aw,Fw,bP,e1]
  have p1':(decide (a=(i:Int)) && decide (b=(k:Int)))=false:=by
   rw[US];intro e;simp only[Uq]at e;simp only[decide_eq_false_iff_not];exact λe'=>p1 (by rw[e,e'])
  cases p2:r4 l (a,b) with
  |false =>
   refine⟨[.box [.p (.sl (l.map UK.aw)),.p (.i .i64 C)],.box (bP x.aw),.box [.p (.i .i64 i),.p (.i .i64 k)],.box [.p (.i .i64 a),.p (.i .i64 b)]],?_⟩;simp[XU,aj,hk,hy,hy',UK.aw,Fw,bP,e1,p1',t30 h,p2,h.ro,show qe tL 30=true from rfl]
  |true =>
   have p4:=p2;simp only[r4,ab,Uq]at p4;obtain⟨⟨⟨p5,p6⟩,p7⟩,p8⟩:=p4;have h3:a.toNat<l.length:=by omega
   rw[gG h3]at p8;simp only[Uq]at p8;have h4:b.toNat<l[a.toNat].to.length:=by omega
   simp only[bx,p2,gG h3,gG h4,fL,US,a_,decide_eq_false_iff_not,bG]at hp;have h5:=hp p1;obtain⟨a',b',h6⟩:∃a' b',l[a.toNat].to[b.toNat]=(a',b'):=⟨_,_,rfl⟩
   rw[h6]at h5;have h5':(decide (a'=(i:Int)) && decide (b'=(k:Int)))=false:=by
    rw[US];intro e;simp only[Uq]at e;simp only[decide_eq_false_iff_not];exact λe'=>h5 (by rw[e,e'])
   have e2:=ot l[a.toNat];simp only[UK.aw]at e2;refine⟨[.box [.p (.sl (l.map UK.aw)),.p (.i .i64 C)],.box (bP x.aw),.box [.p (.i .i64 i),.p (.i .i64 k)],.box [.p (.i .i64 a),.p (.i .i64 b)]],?_⟩;simp[XU,aj,hk,hy,hy',UK.aw,Fw,bP,e1,e2,p1',t30 h,p2,h3,p5,p7,h4,h6,h5',h.ro,show qe tL 30=true from rfl]
 ·simp[XU,aj,UK.aw,bP]
theorem Ny (h:bY pg){body:aU}(hb:body=tK)(l:List UK)(C:Int)(hl:l.length<2 ^ 60)(hn:∀x∈l,x.to.length<2 ^ 60/\x.aY.length<2 ^ 60) :
  ∃H,L pg 0 [1,3] body [(1,.ptr 0 0),(3,.p (.i .i64 0))] [.box [.p (.sl (l.map UK.aw)),.p (.i .i64 C)]] =
   bif allI (Aq l) 0 l then some (.exit 0,[(1,.ptr 0 0),(3,.p (.i .i64 l.length)),(46,.p (.b false))],[.box [.p (.sl (l.map UK.aw)),.p (.i .i64 C)]]) else some (.ret,[(2,.p (.i .i64 120))],H):=by
 refine CQ hb (λi=>[(1,.ptr 0 0),(3,.p (.i .i64 (i:Nat)))]) [.box [.p (.sl (l.map UK.aw)),.p (.i .i64 C)]] l 0 (Aq l) _ _ ?_ ?_ ?_
 ·rintro i ⟨k,v,n,name,aY,to⟩ hi hx hx' hp;have hm:=hn _ (aE hx);have e1:=ot ⟨k,v,n,name,aY,to⟩;simp only[UK.aw]at e1;simp only[Aq,ab,Uq,cZ]at hp;obtain⟨⟨⟨p1,p2⟩,p3⟩,p4⟩:=hp;obtain⟨H,hin⟩:=OM h rfl l C hl i _ hx hm.1;rw[p4]at hin;simp only[UK.aw,bP,ai,au,cond_true]at hin;have p3':(decide (i=0) == decide (k=1))=true:=by simpa using p3
  simp[tK,aj,hi,hx,hx',UK.aw,e1,bP,t28 h k v n name aY to hm.2,t29 h k v n name aY to hm.2,p1,p2,p3',h.ro,show qe tL 29=true from rfl,gc,exp,aQ,UG,hin,cR ((i:Int)+1)]
 ·rintro i ⟨k,v,n,name,aY,to⟩ hi hx hx' hp;have hm:=hn _ (aE hx);have e1:=ot ⟨k,v,n,name,aY,to⟩;simp only[UK.aw]at e1;cases p1:qx ⟨k,v,n,name,aY,to⟩ with
  |false =>
   refine⟨[.box [.p (.sl (l.map UK.aw)),.p (.i .i64 C)],.box (bP (UK.mk k v n name aY to).aw)],?_⟩;simp[tK,aj,hi,hx,hx',UK.aw,e1,bP,t28 h k v n name aY to hm.2,p1,h.ro,show qe tL 29=true from rfl]
  |true =>
   by_cases p2:(to.length:Int)=kJ ⟨k,v,n,name,aY,to⟩
   ·cases p3':(decide (i=0) == decide (k=1)) with
    |false =>
     refine⟨[.box [.p (.sl (l.map UK.aw)),.p (.i .i64 C)],.box (bP (UK.mk k v n name aY to).aw)],?_⟩;simp[tK,aj,hi,hx,hx',UK.aw,e1,bP,t28 h k v n name aY to hm.2,t29 h k v n name aY to hm.2,p1,p2,p3',h.ro,show qe tL 29=true from rfl]
    |true =>
     have p4:allI (bx l i) 0 to=false:=by simpa [Aq,p1,p2,p3'] using hp
     obtain⟨H,hin⟩:=OM h rfl l C hl i _ hx hm.1;rw[p4]at hin;simp only[UK.aw,bP,ai,au,cond_false]at hin;refine⟨H,?_⟩;simp[tK,aj,hi,hx,hx',UK.aw,e1,bP,t28 h k v n name aY to hm.2,t29 h k v n name aY to hm.2,p1,p2,p3',h.ro,show qe tL 29=true from rfl,gc,exp,aQ,UG,hin]
   ·refine⟨[.box [.p (.sl (l.map UK.aw)),.p (.i .i64 C)],.box (bP (UK.mk k v n name aY to).aw)],?_⟩;simp[tK,aj,hi,hx,hx',UK.aw,e1,bP,t28 h k v n name aY to hm.2,t29 h k v n name aY to hm.2,p1,p2,h.ro,show qe tL 29=true from rfl]
 ·simp[tK,aj]
theorem t10 (h:bY pg)(l:List UK)(C:Int)(hl:l.length<2 ^ 60)(hn:∀x∈l,x.to.length<2 ^ 60/\x.aY.length<2 ^ 60) :
  UM pg (E pg) 10 [.ag [.p (.sl (l.map UK.aw)),.p (.i .i64 C)]] G=some (.ret (.p (.i .i64 (bif kK l C then 0 else 120))),G):=by
 refine Ut ?_ rfl rfl;rw[h.run (x:=H5)];unfold kK;by_cases c1:C<1
 ·simp[H5,aj,c1]
 by_cases c2:4000<C
 ·simp[H5,aj,c1,c2]
 by_cases c3:(l.length:Int)<1
 ·simp[H5,aj,c1,c2,c3]
 by_cases c4:C<l.length
 ·simp[H5,aj,c1,c2,c3,c4]
 have c5:l.length-1<l.length:=by omega
 have w1:IntKind.i64.wrap ((l.length:Int)-1)=((l.length-1:Nat):Int):=by rw[cR _];omega
 rw[gG c5];by_cases c6:l[l.length-1].ao=0
 ·simp[H5,aj,c1,c2,c3,c4,w1,c5,UK.aw,okW,c6]
 obtain⟨H,hL⟩:=Ny h rfl l C hl hn;simp[H5,aj,c1,c2,c3,c4,w1,c5,UK.aw,okW,c6,gc,exp,aQ,UG];rw[hL];cases allI (Aq l) 0 l<;>simp[aj]
end
def aq.raw (p:aq):Int×Int:=((p.aD:Int),(p.aT:Int))
def k_ (a:List UInt8×Nat):List UInt8×Int:=(a.1,(a.2:Int))
def Up.raw (x:Up):UK:=⟨x.ao,x.Us,x.n,x.name,x.aY.map k_,x.to.map aq.raw⟩
theorem Up.Hh (x:Up):x.raw.aw=x.aw:=by
 simp only[Up.raw,UK.aw,Up.aw,UJ];rfl
theorem sX (l:List Up):(l.map Up.raw).map UK.aw=l.map Up.aw:=by
 rw[UJ]
 congr 1
 funext x;exact x.Hh
def xE (p:Int×Int):aq:=⟨p.1.toNat,p.2.toNat⟩
def ou (a:List UInt8×Int):List UInt8×Nat:=(a.1,a.2.toNat)
def UK.r5 (x:UK):Up:=⟨x.ao.toNat,x.Us.toNat,x.n,x.name,x.aY.map ou,x.to.map xE⟩
theorem YK {α:Type}{q:Nat->α->Bool}:∀{l:List α} {k:Nat},allI q k l=true->∀i x,l[i]?=some x->q (k+i) x=true
 |[],k,h,i,x,hx=>by simp at hx
 |a::r,k,h,i,x,hx=>by
  simp only[allI,ab]at h;cases i with
  |zero=>simp only[List.getElem?_cons_zero,bG]at hx;subst hx;exact h.1
  |succ i =>
   simp only[List.getElem?_cons_succ]at hx;have:=YK h.2 i x hx;rwa [show k+1+i=k+(i+1) from by omega]at this
theorem Xf {α:Type}{q:Nat->α->Bool}{l:List α}(h:allI q 0 l=true)(i:Nat)(x:α)(hx:l[i]?=some x):q i x=true:=by
 have:=YK h i x hx;rwa [aG]at this
theorem r6 {α:Type}{q:Nat->α->Bool}:∀{l:List α} {k:Nat},(∀i x,l[i]?=some x->q (k+i) x=true)->allI q k l=true
 |[],k,h=>rfl
 |a::r,k,h=>by
  simp only[allI,ab];refine⟨h 0 a rfl,r6 λi x hx=>?_⟩;have:=h (i+1) x (by simpa using hx);rwa [show k+(i+1)=k+1+i from by omega]at this
theorem tM (all:List (List UInt8×Int)):∀(l:List (List UInt8×Int)) (i:Nat),(∀j a,l[j]?=some a->vx all (i+j) a=true)->eM (all.map ou) i (l.map ou)=true
 |[],i,h=>rfl
 |a::r,i,h=>by
  have h0:=h 0 a rfl;have ih:=tM all r (i+1) (λj b hb=>by
   have:=h (j+1) b (by simpa using hb);rwa [show i+(j+1)=i+1+j from by omega]at this)
  simp only[ai,eM,ab];simp only[vx,U3,ab,a_,decide_eq_false_iff_not]at h0;obtain⟨⟨⟨p1,p2⟩,p3⟩,p4⟩:=h0;refine⟨⟨⟨?_,?_⟩,?_⟩,ih⟩
  ·simp[ou,p1]
  ·simp[ou];omega
  ·rw[a_,<- da,oS,<- V8,fC];rintro⟨b,hb,hb2⟩;have:=bc.1 p4 b hb;simp[ou]at hb2;simp at this;exact this (UC hb2)
theorem Up.W9 {k l:Nat}{n:Int}{name:List UInt8}{aY:List (List UInt8×Nat)}{to:List aq}(h1:k<=13)(h2:(Up.mk k l n name aY to).fP=true)(h3:k<=1->l=0)(h4:l<=60)
  (h5:name=[]↔¬ (k=8\/k=11\/k=12)) (h6:n=0\/k=10\/k=12) (h7:k=8->1<=to.length/\to.length<=9):(Up.mk k l n name aY to).ok=true:=by
 unfold Up.ok;rw[h2];have a:decide (l<=if k<=1 then 0 else 60)=true:=by
  rw[decide_eq_true_iff];split
  ·have:=h3 (by assumption);omega
  ·exact h4
 have b:((!decide (name=[])) == decide (k=8\/k=11\/k=12))=true:=by
  by_cases e:k=8\/k=11\/k=12
  ·have:¬ name=[]:=λhh=>h5.1 hh e;simp[e,this]
  ·have:=h5.2 e;simp[e,this]
 have c:(decide (n=0) || decide (k=10\/k=12))=true:=by simpa using h6
 have d:(!decide (k=8) || decide (1<=to.length/\to.length<=9))=true:=by
  by_cases e:k=8
  ·simp[e,h7 e]
  ·simp[e]
 dsimp only;rw[a,b,c,d,decide_eq_true h1];rfl
theorem yS {x:UK}(h:qx x=true):x.r5.ok=true/\0<=x.ao/\0<=x.Us/\(∀a∈x.aY,0<=a.2):=by
 obtain⟨k,l,n,name,aY,to⟩:=x;simp only[qx,U_,ab,UP,a_,decide_eq_false_iff_not,Uq,cZ,US,fq]at h;obtain⟨⟨⟨⟨⟨⟨⟨⟨⟨⟨⟨p1,p2⟩,p3⟩,p4⟩,p5⟩,p6⟩,p7⟩,p8⟩,p9⟩,p10⟩,p11⟩,p12⟩:=h;have ha:∀a∈aY,0<=a.2:=by
  intro a ha;obtain⟨i,hi,rfl⟩:=dj ha;have:=Xf p12 i _ (gG hi);simp only[vx,ab,a_,decide_eq_false_iff_not]at this;omega
 refine⟨?_,by dsimp only;omega,by dsimp only;omega,ha⟩;have hm:(aY.map ou).length=aY.length:=by simp
 show(Up.mk k.toNat l.toNat n name (aY.map ou) (to.map xE)).ok=true
 refine Up.W9 (by omega) ?_ (λe=>?_) (by omega) ?_ ?_ ?_
 ·unfold Up.fP;simp only[hm];by_cases h9:k=9
  ·subst h9;rw[ah (by rfl)];simp only[ab,Uq];refine⟨tM aY aY 0 (λj a hj=>by have:=Xf p12 j a hj;simpa using this),?_⟩;have:=p9 rfl;omega
  ·rw[aa (by omega)];simp only[Uq];rcases p10 with h|h
   ·exact absurd h h9
   ·omega
 ·have:=p5 (by omega);omega
 ·have q:(name=[]↔¬ (k=8\/k=11\/k=12)):=by
   by_cases e:name=[]
   ·simp only[e,decide_true,V2]at p6;have p6:=p6.symm;simp at p6;simp[e,p6]
   ·simp only[e,decide_false,jh]at p6;have p6:=p6.symm;simp at p6;simp only[e,false_iff,Decidable.not_not];omega
  rw[q];refine not_congr ⟨λh=>by omega,λh=>by omega⟩
 ·rcases p7 with h|h
  ·exact .inl h
  ·right;omega
 ·intro e8;have:=p8 (by omega);simp only[cU];omega
theorem Fx {x:UK}(h:0<=x.ao/\0<=x.Us/\(∀a∈x.aY,0<=a.2))(ht:∀p∈x.to,0<=p.1/\0<=p.2):x.r5.raw=x:=by
 obtain⟨k,l,n,name,aY,to⟩:=x;obtain⟨h1,h2,h3⟩:=h;simp only[UK.r5,Up.raw,UJ,UK.mk.injEq,VN];dsimp only at h1 h2 h3 ht;refine⟨by omega,by omega,?_,?_⟩
 ·conv=>rhs;rw[<- gP aY]
  refine cL λa ha=>?_;have:=h3 a ha;simp only[Function.comp,k_,ou,id];exact mE rfl (by simp;omega)
 ·conv=>rhs;rw[<- gP to]
  refine cL λa ha=>?_;have:=ht a ha;simp only[Function.comp,aq.raw,xE,id];exact mE (by simp;omega) (by simp;omega)
theorem BO {x:UK}(h:0<=x.ao):((x.r5.bO:Nat):Int)=kJ x:=by
 obtain⟨k,l,n,name,aY,to⟩:=x;simp only[Up.bO,kJ,UK.r5,cU]at *;by_cases h8:k=8
 ·subst h8;rfl
 ·by_cases h9:k=9
  ·subst h9;simp
  ·rw[aa (by omega),aa (by omega),aa h8,aa h9,ah h]
theorem vy {l:List UK}{C:Int}(h:kK l C=true):∃n:aI,n.Ok/\n.ae.map Up.raw=l/\(n.aV:Int)=C:=by
 simp only[kK,ab,a_,decide_eq_false_iff_not]at h;obtain⟨⟨⟨⟨⟨p1,p2⟩,p3⟩,p4⟩,p5⟩,p6⟩:=h;have hone:∀(i:Nat) (x:UK),l[i]?=some x->qx x=true/\(x.to.length:Int)=kJ x/\(i=0↔x.ao=1)/\∀k q,x.to[k]?=some q->bx l i k q=true:=by
  intro i x hx;have:=Xf p6 i x hx;simp only[Aq,ab,Uq,cZ]at this;obtain⟨⟨⟨a1,a2⟩,a3⟩,a4⟩:=this;refine⟨a1,a2,?_,λk q hq=>Xf a4 k q hq⟩;rw[<- decide_eq_true_iff (p:=i=0),a3,decide_eq_true_iff]
 have hpos:∀(i:Nat) (x:UK),l[i]?=some x->∀p∈x.to,0<=p.1/\0<=p.2:=by
  intro i x hx p hp;obtain⟨k,hk,rfl⟩:=dj hp;have:=(hone i x hx).2.2.2 k _ (gG hk);simp only[bx,r4,ab,Uq]at this;omega
 have hraw:∀x∈l,x.r5.raw=x:=by
  intro x hx;obtain⟨i,hi,rfl⟩:=dj hx;have:=gG hi;exact Fx (yS (hone i _ this).1).2 (hpos i _ this)
 have hlen:(⟨l.map UK.r5,C.toNat⟩:aI).ae.length=l.length:=by simp
 refine⟨⟨l.map UK.r5,C.toNat⟩,?_,?_,by simp;omega⟩
 ·refine⟨by simp;omega,by simp;omega,?_,?_,?_⟩
  ·intro x hx;rw[hlen]at hx;simp only[List.getElem?_map,aP]at hx;obtain⟨y,hy,rfl⟩:=hx;rw[hy]at p5;simp only[a_,decide_eq_false_iff_not]at p5;have:=(yS (hone _ _ hy).1).2.1;simp only[UK.r5];omega
  ·intro i x hx;simp only[List.getElem?_map,aP]at hx;obtain⟨y,hy,rfl⟩:=hx;obtain⟨a1,a2,a3,a4⟩:=hone i y hy;have hk:=yS a1;refine⟨hk.1,?_,?_⟩
   ·have:=BO hk.2.1;rw[<- a2]at this;have e:y.r5.to.length=y.to.length:=by simp[UK.r5]
    omega
   ·rw[a3];simp only[UK.r5];omega
  ·intro i x k q hx hq;simp only[List.getElem?_map,aP]at hx;obtain⟨y,hy,rfl⟩:=hx;simp only[UK.r5,List.getElem?_map,aP]at hq;obtain⟨p,hp,rfl⟩:=hq;have:=(hone i y hy).2.2.2 k p hp;simp only[bx,r4,ab,Uq,a_,decide_eq_false_iff_not]at this;obtain⟨⟨b1,⟨⟨b2,b3⟩,b4⟩,b5⟩,b6⟩:=this;refine⟨?_,?_⟩
   ·intro e;simp only[xE,aq.mk.injEq]at e;exact b1 (mE (by simp;omega) (by simp;omega))
   ·unfold aI.peer;simp only[xE,List.getElem?_map];have hlt:p.1.toNat<l.length:=by omega
    rw[gG hlt]at b6 ⊢;simp only[Uq]at b6;simp only[dT,UK.r5,List.getElem?_map,b6];simp[xE]
 ·dsimp only;rw[UJ]
  conv=>rhs;rw[<- gP l]
  exact cL λx hx=>hraw x hx
def aI.used (n:aI):Nat:=n.ae.countP λx=>decide (x.ao≠0)
def iV (l:List Up):Nat->Nat
 |0=>0
 |k+1=>match l[k]? with
  |some x=>if x.ao=0 then iV l k else k+1
  |none=>k+1
theorem sY (l:List Up):∀k,iV l k<=k
 |0=>aB _
 |k+1=>by
  unfold iV;have:=sY l k;split
  ·split<;>omega
  ·omega
def aI.free (n:aI)(i:Nat):aI:={ n with ae:=(n.ae.set i .zero).take (iV (n.ae.set i .zero) n.ae.length) }
def Up.d_ (x:Up):Up:={ x with to:=List.replicate x.bO ⟨0,0⟩ }
def aI.cg (n:aI):Nat:=(n.ae.findIdx? λx=>decide (x.ao=0)).getD n.ae.length
def aI.make (n:aI)(x:Up):aI:={ n with ae:=if n.cg<n.ae.length then n.ae.set n.cg x.d_ else n.ae++[x.d_] }
structure cF where
 ao:Nat
 swap:Bool
 Us:Nat
 alt:Nat
 aD:Up
 deriving DecidableEq,Inhabited
def cF.plain (k:Nat):cF:=⟨k,false,0,0,.zero⟩
def cF.aw (p:cF):List PV:=[iv p.ao,.b p.swap,iv p.Us,iv p.alt,iv p.aD.ao,iv p.aD.Us,iv p.aD.n,.s p.aD.name,.sl (p.aD.aY.map Ux),.sl (p.aD.to.map aq.aw)]
def fY (k:Nat):Nat :=
 if k=3\/k=9\/k=11\/k=12 then 1 else if k=2\/k=8\/k=10\/k=13 then 2 else if k=4\/k=5\/k=6 then 3 else if k=7 then 4 else 0
def fU (r:cF×Nat):cF×Nat:=if r.2=0 then ({ r.1 with swap:=true },0) else r
def j7 (x y:Up):Nat:=if x.ao=5 then y.Us-1 else if x.ao=6 then y.Us+1 else y.Us
def dD (x y:Up):cF×Nat:=if y.Us<=x.Us then (.plain 0,140) else if 60<j7 x y then (.plain 0,141) else (⟨7,false,j7 x y,0,.zero⟩,0)
def ng (x y:Up):Option Nat:=x.aY.findIdx? λa=>decide (a.1=y.name) && decide (a.2+1=y.to.length)
def jx (x y:Up):cF×Nat:=if x.Us=y.Us then (match ng x y with
 |none=>(.plain 5,0)
 |some k=>(⟨2,false,0,k,.zero⟩,0)) else (.plain 0,140)
def qy (b:Bool):Up:=⟨8,0,0,if b then [84,114,117,101] else [70,97,108,115,101],[],[⟨0,0⟩]⟩
def fg (n:Int):Up:=⟨10,0,n,[],[],[]⟩
def Vf (x y:Up):Option Up :=
 if x.name=[43] then some (fg (IntKind.i64.wrap (x.n+y.n))) else if x.name=[45] then some (fg (IntKind.i64.wrap (x.n-y.n)))
 else if x.name=[42] then some (fg (IntKind.i64.wrap (x.n * y.n))) else if x.name=[47] then (if y.n=0 then none else some (fg (IntKind.i64.wrap (x.n.tdiv y.n))))
 else if x.name=[60] then some (qy (decide (x.n<y.n))) else if x.name=[61,61] then some (qy (decide (x.n=y.n))) else some (fg 0)
def VK (x y:Up):cF×Nat:=match Vf x y with
 |none=>(.plain 5,0)
 |some n=>(⟨4,false,0,0,{ n with Us:=x.Us }⟩,0)
def fi (x y:Up):cF×Nat :=
 if x.ao=3/\y.ao=2 then (if x.Us=y.Us then (.plain 1,0) else (.plain 0,140)) else if x.ao=9/\y.ao=8 then jx x y
 else if x.ao=11/\y.ao=10 then (.plain 3,0) else if x.ao=12/\y.ao=10 then VK x y else (.plain 5,0)
def aX (a b:Up):cF×Nat :=
 if fY a.ao=0\/fY b.ao=0 then (.plain 0,140) else if fY a.ao=4 then (.plain 8,0) else if fY b.ao=4 then fU (.plain 8,0)
 else if fY a.ao=3/\fY b.ao=3/\a.Us=b.Us/\a.ao=b.ao then (.plain 6,0)
 else if fY a.ao=3/\(fY b.ao≠3\/a.Us<=b.Us) then dD a b
 else if fY b.ao=3 then fU (dD b a) else if fY a.ao=1/\fY b.ao=2 then fi a b
 else if fY a.ao=2/\fY b.ao=1 then fU (fi b a) else (.plain 0,140)
def Up.others (x:Up):Nat:=x.to.length-1
def cF.VB (p:cF)(a b:Up):Nat :=
 let x:=if p.swap then b else a
 let y:=if p.swap then a else b
 if p.ao=2 then (match x.aY[p.alt]? with
  |some c=>c.2+x.aY.length-1
  |none=>0)
 else if p.ao=3\/p.ao=4 then 1 else if p.ao=5 then 1+(x.others-1)+y.others else if p.ao=7 then (if x.ao=4 then 2 else 1)+y.others
 else if p.ao=8 then y.others else 0
def aI.cI (n:aI)(x:Up):Nat->aI×List Nat
 |0=>(n,[])
 |k+1=>(((n.make x).cI x k).1,n.cg::((n.make x).cI x k).2)
theorem aI.nG (n:aI)(x:Up):(n.make x).aV=n.aV:=rfl
theorem aI.pC (n:aI)(x:Up):(n.make x).ae.length<=n.ae.length+1/\n.ae.length<=(n.make x).ae.length:=by
 unfold aI.make;dsimp only;split<;>simp
theorem aI.Au (n:aI):n.cg<=n.ae.length:=by
 unfold aI.cg;cases hf:n.ae.findIdx? (λx=>decide (x.ao=0)) with
 |none=>simp
 |some k =>
  obtain⟨h1,_,_⟩:=List.findIdx?_eq_some_iff_getElem.1 hf;simp;omega
theorem aI.ov {n:aI}(h:n.cg<n.ae.length):∃x,n.ae[n.cg]?=some x/\x.ao=0:=by
 unfold aI.cg at h ⊢;cases hf:n.ae.findIdx? (λx=>decide (x.ao=0)) with
 |none=>rw[hf]at h;simp at h
 |some k =>
  obtain⟨h1,h2,_⟩:=List.findIdx?_eq_some_iff_getElem.1 hf;refine⟨n.ae[k],?_,by simpa using h2⟩;simp[h1]
theorem aI.nH {n:aI}{x:Up}(hk:x.ao≠0):(n.make x).used=n.used+1:=by
 unfold aI.make;split
 ·rename_i h;obtain⟨y,h1,h2⟩:=aI.ov h;obtain⟨h3,h4⟩:=gE h1;unfold aI.used;dsimp only;rw[lJ (h:=h3)];have h5:n.ae[n.cg].ao=0:=by rw[h4];exact h2
  simp[h5,Up.d_,hk]
 ·unfold aI.used;dsimp only;rw[jO];simp[Up.d_,hk]
end Go.Proofs.Z
namespace Go.Proofs.Z
def aI.ft (n:aI):List (aq×aq)->aI
 |[]=>n
 |(p,q)::r=>(n.move p q).ft r
def dS (n:aI):List (aq×aq)->Prop
 |[]=>True
 |(p,q)::r=>(n.W3 p/\n.has q/\n.has (n.pr p)/\p≠q)/\dS (n.move p q) r
def aI.Vq (n:aI):List (aq×aq)->aI
 |[]=>n
 |(p,q)::r=>(n.join p q).Vq r
def ow (n:aI):List (aq×aq)->Prop
 |[]=>True
 |(p,q)::r=>(n.W3 p/\n.has q/\n.has (n.pr p)/\n.has (n.pr q)/\p≠q/\(n.pr p≠q->n.pr p≠n.pr q))/\ow (n.join p q) r
def aI.jy (n:aI):List (aq×aq)->aI
 |[]=>n
 |(p,q)::r=>(n.link p q).jy r
def W7 (n:aI):List (aq×aq)->Prop
 |[]=>True
 |(p,q)::r=>(n.W3 p/\n.has q/\p≠q)/\W7 (n.link p q) r
def ch (Us:Nat):Up:=⟨7,Us,0,[],[],[]⟩
theorem mP {Us:Nat}(h:Us<=60):(ch Us).ok=true/\(ch Us).bO=1:=by
 refine⟨?_,rfl⟩;simp[ch,Up.ok,Up.fP,h]
theorem aI.Av {n:aI}{p q:aq}:(n.link p q).aV=n.aV:=by
 unfold aI.link;rw[aI.j6,aI.j6]
theorem aI.vz {n:aI}{p q:aq}:(n.move p q).aV=n.aV:=by
 unfold aI.move;split
 ·rfl
 ·exact aI.Av
structure Uy where
 cd:List Bool
 waits:List Nat
def Uy.mark (m:Uy)(i:Nat):Uy:=if m.cd[i]?=some true then m else ⟨m.cd.set i true,m.waits++[i]⟩
def Uy.marks (m:Uy):List aq->Uy
 |[]=>m
 |p::r=>(m.mark p.aD).marks r
def yT (l:List Up)(i:Nat):List aq:=match l[i]? with
 |some x=>x.to
 |none=>[]
def Uy.all (l:List Up):Nat->Uy->Uy
 |0,m=>m
 |f+1,m=>match m.waits.getLast? with
  |none=>m
  |some i=>Uy.all l f (({ m with waits:=m.waits.dropLast }:Uy).marks (yT l i))
end Go.Proofs.Z
namespace Go.Proofs.Z
def Uy.left (m:Uy):Nat:=m.waits.length+m.cd.countP (λb=>!b)
theorem Uy.Wz (m:Uy)(i:Nat):(m.mark i).cd.length=m.cd.length:=by
 unfold Uy.mark;split
 ·rfl
 ·simp
theorem Uy.nI {m:Uy}{i:Nat}(h:i<m.cd.length):(m.mark i).left=m.left:=by
 unfold Uy.mark Uy.left;split
 ·rfl
 ·rename_i hn;have hf:m.cd[i]=false:=by
   rw[gG h]at hn;simpa using hn
  dsimp only;rw[lJ (h:=h)];have hpos:0<m.cd.countP (λb=>!b):=List.countP_pos_iff.2 ⟨m.cd[i],bM h,by simp[hf]⟩;simp[hf];omega
theorem Uy.Xg:∀(l:List aq) (m:Uy),(m.marks l).cd.length=m.cd.length
 |[],m=>rfl
 |p::r,m=>by simp only[Uy.marks];rw[Uy.Xg r,Uy.Wz]
theorem Uy.q8:∀(l:List aq) (m:Uy),(∀p,p∈l->p.aD<m.cd.length)->(m.marks l).left=m.left
 |[],m,_=>rfl
 |p::r,m,h=>by
  simp only[Uy.marks];rw[Uy.q8 r _ (λq hq=>by rw[Uy.Wz];exact h q (by simp[hq])),Uy.nI (h p (by simp))]
theorem Uy.Hi {m:Uy}{i:Nat}(h:i<m.cd.length)(hw:∀a,a∈m.waits->a<m.cd.length):∀a,a∈(m.mark i).waits->a<m.cd.length:=by
 unfold Uy.mark;split
 ·exact hw
 ·intro a ha;rcases Uz.1 ha with ha|ha
  ·exact hw a ha
  ·simp at ha;subst ha;exact h
theorem Uy.vA:∀(l:List aq) (m:Uy),(∀p,p∈l->p.aD<m.cd.length)->(∀a,a∈m.waits->a<m.cd.length)->∀a,a∈(m.marks l).waits->a<m.cd.length
 |[],m,_,hw=>hw
 |p::r,m,h,hw=>by
  simp only[Uy.marks];have:=Uy.vA r (m.mark p.aD) (λq hq=>by rw[Uy.Wz];exact h q (by simp[hq])) (by rw[Uy.Wz];exact Uy.Hi (h p (by simp)) hw);rwa [Uy.Wz]at this
end Go.Proofs.Z
namespace Go.Proofs.Z
theorem xF {l:List Up}{j:Nat}{x:Up}(hx:l[j]?=some x)(hk:x.ao≠0):∀k,j<k->j<iV l k
 |0,h=>by omega
 |k+1,h=>by
  unfold iV;by_cases hjk:j=k
  ·subst hjk;rw[hx];dsimp only;rw[aa hk];omega
  ·have:=xF hx hk k (by omega);split
   ·split<;>omega
   ·omega
theorem aI.jc {n:aI}{i j:Nat}{x:Up}(hx:n.ae[j]?=some x)(hk:x.ao≠0)(hij:i≠j):(n.free i).ae[j]?=some x:=by
 have hj:j<n.ae.length:=(gE hx).1;have hs:(n.ae.set i .zero)[j]?=some x:=by rw[List.getElem?_set,aa hij];exact hx
 unfold aI.free;dsimp only;rw[List.getElem?_take,ah (xF hs hk _ hj)];exact hs
def vB (l:List Up)(i:Nat):Bool:=match l[i]? with
 |some x=>decide (x.ao≠0)
 |none=>false
def VL (old:List Up)(cd:List Bool):Nat->aI->aI
 |0,n=>n
 |i+1,n=>VL old cd i (if (cd[i+1]?=some false/\vB old (i+1)=true) then n.free (i+1) else n)
theorem aq.ext' {p q:aq}(h1:p.aD=q.aD)(h2:p.aT=q.aT):p=q:=by cases p;cases q;simp_all
theorem aI.Fy {n:aI}{p q:aq}(hp:n.has p)(r:aq):(n.put p q).pr r=if r=p then q else n.pr r:=by
 obtain⟨x,hx,hs⟩:=hp;unfold aI.pr aI.peer;rw[aI.sU];by_cases hn:r.aD=p.aD
 ·rw[ah hn,hn,hx];simp only[dT,Up.oZ];by_cases hsl:r.aT=p.aT
  ·have:r=p:=aq.ext' hn hsl;subst this;simp[hs]
  ·have:r≠p:=λe=>hsl (by rw[e]);rw[aa this,List.getElem?_set,aa (λe=>hsl e.symm)]
 ·have:r≠p:=λe=>hn (by rw[e]);rw[aa hn,aa this]
theorem aI.ef {n:aI}{p q r:aq}:(n.link p q).has r↔n.has r:=by unfold aI.link;rw[aI.rY,aI.rY]
theorem aI.j8 {n:aI}{p q:aq}(hp:n.has p)(hq:n.has q)(hne:p≠q)(r:aq):(n.link p q).pr r=if r=p then q else if r=q then p else n.pr r:=by
 unfold aI.link;rw[aI.Fy (aI.rY.2 hq),aI.Fy hp];by_cases h1:r=q
 ·subst h1;rw[ah rfl,aa (λe=>hne e.symm),ah rfl]
 ·rw[aa h1];by_cases h2:r=p
  ·rw[ah h2,ah h2]
  ·rw[aa h2,aa h2,aa h1]
def Up.bare (x:Up):Nat×Nat×Int×List UInt8×List (List UInt8×Nat)×Nat:=(x.ao,x.Us,x.n,x.name,x.aY,x.to.length)
theorem Up.vC (x:Up)(k:Nat)(q:aq):(x.oZ k q).bare=x.bare:=by simp[Up.bare,Up.oZ]
theorem Up.eB {x y:Up}(h:x.bare=y.bare):x.ok=y.ok/\x.bO=y.bO/\x.ao=y.ao/\x.to.length=y.to.length/\x.Us=y.Us/\x.aY=y.aY/\x.n=y.n/\x.name=y.name:=by
 simp only[Up.bare,eK]at h;obtain⟨h1,h2,h3,h4,h5,h6⟩:=h;refine⟨?_,?_,h1,h6,h2,h5,h3,h4⟩
 ·unfold Up.ok Up.fP;rw[h1,h2,h3,h4,h5,h6]
 ·unfold Up.bO;rw[h1,h5,h6]
def UU (n m:aI):Prop:=n.aV=m.aV/\n.ae.length=m.ae.length/\∀i:Nat,(n.ae[i]?).map Up.bare=(m.ae[i]?).map Up.bare
theorem UU.refl (n:aI):UU n n:=⟨rfl,rfl,λ_=>rfl⟩
theorem UU.symm {n m:aI}(h:UU n m):UU m n:=⟨h.1.symm,h.2.1.symm,λi=>(h.2.2 i).symm⟩
theorem UU.trans {n m k:aI}(h:UU n m)(h':UU m k):UU n k:=⟨h.1.trans h'.1,h.2.1.trans h'.2.1,λi=>(h.2.2 i).trans (h'.2.2 i)⟩
theorem UU.put (n:aI)(p q:aq):UU (n.put p q) n:=by
 refine⟨aI.j6,aI.rZ,λi=>?_⟩;rw[aI.sU];split
 ·cases n.ae[i]? with
  |none=>rfl
  |some x=>simp[Up.vC]
 ·rfl
theorem UU.link (n:aI)(p q:aq):UU (n.link p q) n:=(UU.put _ _ _).trans (UU.put _ _ _)
theorem UU.move (n:aI)(p q:aq):UU (n.move p q) n:=by
 unfold aI.move;split
 ·exact .refl _
 ·exact .link _ _ _
theorem UU.join (n:aI)(p q:aq):UU (n.join p q) n:=by
 unfold aI.join;split
 ·exact .refl _
 ·exact .link _ _ _
theorem UU.at {n m:aI}(h:UU n m){i:Nat}{x:Up}(hx:m.ae[i]?=some x):∃y,n.ae[i]?=some y/\y.bare=x.bare:=by
 have:=h.2.2 i;rw[hx]at this;cases hy:n.ae[i]? with
 |none=>rw[hy]at this;simp at this
 |some y=>rw[hy]at this;exact⟨y,rfl,by simpa using this⟩
theorem UU.has {n m:aI}(h:UU n m){p:aq}:n.has p↔m.has p:=by
 constructor
 ·rintro⟨x,hx,hs⟩;obtain⟨y,hy,hb⟩:=h.symm.at hx;exact⟨y,hy,by rw[(Up.eB hb).2.2.2.1];exact hs⟩
 ·rintro⟨x,hx,hs⟩;obtain⟨y,hy,hb⟩:=h.at hx;exact⟨y,hy,by rw[(Up.eB hb).2.2.2.1];exact hs⟩
structure aI.Sk (n:aI):Prop where
 aV:1<=n.aV/\n.aV<=4000
 len:1<=n.ae.length/\n.ae.length<=n.aV
 last:∀x,n.ae[n.ae.length-1]?=some x->x.ao≠0
 aD:∀(i:Nat) (x:Up),n.ae[i]?=some x->x.ok=true/\x.to.length=x.bO/\(x.ao=1↔i=0)
theorem aI.Sk.bare {n m:aI}(h:m.Sk)(hb:UU n m):n.Sk:=by
 refine⟨by rw[hb.1];exact h.aV,by rw[hb.1,hb.2.1];exact h.len,λx hx=>?_,λi x hx=>?_⟩
 ·obtain⟨y,hy,hyb⟩:=hb.symm.at hx;rw[hb.2.1]at hy;rw[<- (Up.eB hyb).2.2.1];exact h.last y hy
 ·obtain⟨y,hy,hyb⟩:=hb.symm.at hx;obtain⟨a1,a2,a3⟩:=h.aD i y hy;obtain⟨b1,b2,b3,b4,_⟩:=Up.eB hyb;exact⟨by rw[<- b1];exact a1,by rw[<- b4,<- b2];exact a2,by rw[<- b3];exact a3⟩
def Lk (n:aI)(D:aq->Prop):Prop:=∀p,n.has p->¬ D p->n.has (n.pr p)/\¬ D (n.pr p)/\n.pr (n.pr p)=p/\n.pr p≠p
theorem aI.Ok.sk {n:aI}(h:n.Ok):n.Sk:=⟨h.aV,h.len,h.last,h.aD⟩
theorem aI.Ok.lk {n:aI}(h:n.Ok):Lk n (λ_=>False):=by
 intro p hp _;obtain⟨x,hx,hs⟩:=aI.qZ hp;obtain⟨a,b⟩:=h.link _ _ _ _ hx hs;have hh:n.has (n.pr p):=by
  unfold aI.peer at b;split at b
  ·rename_i y hy;exact⟨y,hy,(gE b).1⟩
  ·cases b
 refine⟨hh,id,?_,a⟩
 show(n.peer (n.pr p)).getD ⟨0,0⟩=p
 rw[b];rfl
theorem aI.Aw {n:aI}{p:aq}(h:n.has p):n.peer p=some (n.pr p):=by
 obtain⟨x,hx,hs⟩:=aI.qZ h;unfold aI.peer;rw[hx];exact hs
theorem aI.Sk.ok {n:aI}(h:n.Sk){D:aq->Prop}(hl:Lk n D)(hD:∀p,n.has p->¬ D p):n.Ok:=by
 refine⟨h.aV,h.len,h.last,h.aD,λi x k q hx hq=>?_⟩;have hp:n.has ⟨i,k⟩:=⟨x,hx,(gE hq).1⟩
 have hpr:n.pr ⟨i,k⟩=q:=by
  obtain⟨y,hy,hs⟩:=aI.qZ hp;rw[hx]at hy;cases hy;rw[hq]at hs;exact(cT hs).symm
 obtain⟨h1,h2,h3,h4⟩:=hl _ hp (hD _ hp);rw[hpr]at h1 h3 h4;exact⟨h4,by rw[aI.Aw h1,h3]⟩
theorem Lk.congr {n:aI}{D D':aq->Prop}(h:Lk n D)(hd:∀p,n.has p->(D' p↔D p)):Lk n D':=by
 intro p hp hD;obtain⟨a1,a2,a3,a4⟩:=h p hp (λe=>hD ((hd p hp).2 e));exact⟨a1,λe=>a2 ((hd _ a1).1 e),a3,a4⟩
theorem Lk.link {n:aI}{D:aq->Prop}(h:Lk n D){p q:aq}(hp:n.has p)(hq:n.has q)(hne:p≠q)(hpD:D p)(hqD:D q):Lk (n.link p q) (λr=>D r/\r≠p/\r≠q):=by
 intro r hr hD;rw[aI.ef]at hr;have hpr:=aI.j8 hp hq hne;by_cases h1:r=p
 ·subst h1;have e1:(n.link r q).pr r=q:=by rw[hpr,ah rfl]
  rw[e1];exact⟨aI.ef.2 hq,λe=>e.2.2 rfl,by rw[hpr,aa (λe=>hne e.symm),ah rfl],λe=>hne e.symm⟩
 ·by_cases h2:r=q
  ·subst h2;have e1:(n.link p r).pr r=p:=by rw[hpr,aa h1,ah rfl]
   rw[e1];exact⟨aI.ef.2 hp,λe=>e.2.1 rfl,by rw[hpr,ah rfl],hne⟩
  ·have hDr:¬ D r:=λe=>hD ⟨e,h1,h2⟩;obtain⟨a1,a2,a3,a4⟩:=h r hr hDr;have e1:(n.link p q).pr r=n.pr r:=by rw[hpr,aa h1,aa h2]
   have n1:n.pr r≠p:=λe=>a2 (e ▸ hpD);have n2:n.pr r≠q:=λe=>a2 (e ▸ hqD);rw[e1];exact⟨aI.ef.2 a1,λe=>a2 e.1,by rw[hpr,aa n1,aa n2];exact a3,a4⟩
theorem Lk.move {n:aI}{D:aq->Prop}(h:Lk n D){p q:aq}(hp:n.has p)(hq:n.has q)(hpD:¬ D p)(hqD:D q) :
  (n.has (n.pr p)/\p≠q)/\Lk (n.move p q) (λr=>(D r/\r≠q)\/r=p):=by
 obtain⟨a1,a2,a3,a4⟩:=h p hp hpD;have hne:p≠q:=λe=>hpD (e ▸ hqD);have hq1:n.pr p≠q:=λe=>a2 (e ▸ hqD);refine⟨⟨a1,hne⟩,?_⟩;unfold aI.move;rw[aa hq1];have hpr:=aI.j8 hq a1 (λe=>hq1 e.symm);intro r hr hD;rw[aI.ef]at hr;have hrp:r≠p:=λe=>hD (.inr e);by_cases h1:r=q
 ·subst h1;have e1:(n.link r (n.pr p)).pr r=n.pr p:=by rw[hpr,ah rfl]
  rw[e1];exact⟨aI.ef.2 a1,λe=>by rcases e with e|e;exact a2 e.1;exact a4 e,by rw[hpr,aa hq1,ah rfl],hq1⟩
 ·by_cases h2:r=n.pr p
  ·subst h2;have e1:(n.link q (n.pr p)).pr (n.pr p)=q:=by rw[hpr,aa h1,ah rfl]
   rw[e1];exact⟨aI.ef.2 hq,λe=>by rcases e with e|e;exact e.2 rfl;exact hne e.symm,by rw[hpr,ah rfl],λe=>h1 e.symm⟩
  ·have hDr:¬ D r:=λe=>hD (.inl ⟨e,h1⟩);obtain⟨b1,b2,b3,b4⟩:=h r hr hDr;have e1:(n.link q (n.pr p)).pr r=n.pr r:=by rw[hpr,aa h1,aa h2]
   have n1:n.pr r≠q:=λe=>b2 (e ▸ hqD);have n2:n.pr r≠n.pr p:=λe=>hrp (by rw[<- b3,e,a3]);have n3:n.pr r≠p:=λe=>h2 (by rw[<- b3,e]);rw[e1];exact⟨aI.ef.2 b1,λe=>by rcases e with e|e;exact b2 e.1;exact n3 e,by rw[hpr,aa n1,aa n2];exact b3,b4⟩
theorem Lk.join {n:aI}{D:aq->Prop}(h:Lk n D){p q:aq}(hp:n.has p)(hq:n.has q)(hne:p≠q)(hpD:¬ D p)(hqD:¬ D q) :
  (n.has (n.pr p)/\n.has (n.pr q)/\(n.pr p≠q->n.pr p≠n.pr q))/\Lk (n.join p q) (λr=>D r\/r=p\/r=q):=by
 obtain⟨a1,a2,a3,a4⟩:=h p hp hpD;obtain⟨b1,b2,b3,b4⟩:=h q hq hqD;have hpq:n.pr p≠n.pr q:=λe=>hne (by rw[<- a3,e,b3]);refine⟨⟨a1,b1,λ_=>hpq⟩,?_⟩;unfold aI.join;by_cases hm:n.pr p=q
 ·rw[ah hm];intro r hr hD;have hDr:¬ D r:=λe=>hD (.inl e);obtain⟨c1,c2,c3,c4⟩:=h r hr hDr;refine⟨c1,λe=>?_,c3,c4⟩;rcases e with e|e|e
  ·exact c2 e
  ·exact hD (.inr (.inr (by rw[<- c3,e];exact hm)))
  ·exact hD (.inr (.inl (by rw[<- c3,e,<- hm];exact a3)))
 ·rw[aa hm];have hpr:=aI.j8 a1 b1 hpq;have hqp:n.pr q≠p:=λe=>hm (by rw[<- e,b3]);intro r hr hD;rw[aI.ef]at hr;have hrp:r≠p:=λe=>hD (.inr (.inl e));have hrq:r≠q:=λe=>hD (.inr (.inr e));by_cases h1:r=n.pr p
  ·subst h1;have e1:(n.link (n.pr p) (n.pr q)).pr (n.pr p)=n.pr q:=by rw[hpr,ah rfl]
   rw[e1];refine⟨aI.ef.2 b1,λe=>?_,by rw[hpr,aa (λe=>hpq e.symm),ah rfl],λe=>hpq e.symm⟩;rcases e with e|e|e
   ·exact b2 e
   ·exact hqp e
   ·exact b4 e
  ·by_cases h2:r=n.pr q
   ·subst h2;have e1:(n.link (n.pr p) (n.pr q)).pr (n.pr q)=n.pr p:=by rw[hpr,aa h1,ah rfl]
    rw[e1];refine⟨aI.ef.2 a1,λe=>?_,by rw[hpr,ah rfl],hpq⟩;rcases e with e|e|e
    ·exact a2 e
    ·exact a4 e
    ·exact hm e
   ·have hDr:¬ D r:=λe=>hD (.inl e);obtain⟨c1,c2,c3,c4⟩:=h r hr hDr;have e1:(n.link (n.pr p) (n.pr q)).pr r=n.pr r:=by rw[hpr,aa h1,aa h2]
    have n1:n.pr r≠n.pr p:=λe=>hrp (by rw[<- c3,e,a3]);have n2:n.pr r≠n.pr q:=λe=>hrq (by rw[<- c3,e,b3]);have n3:n.pr r≠p:=λe=>h1 (by rw[<- c3,e]);have n4:n.pr r≠q:=λe=>h2 (by rw[<- c3,e]);rw[e1];refine⟨aI.ef.2 c1,λe=>?_,by rw[hpr,aa n1,aa n2];exact c3,c4⟩;rcases e with e|e|e
    ·exact c2 e
    ·exact n3 e
    ·exact n4 e
theorem aI.Sk.W8 {n:aI}(h:n.Sk){i:Nat}{x:Up}(hx:n.ae[i]?=some x)(hk:x.ao=0):x.to.length=0:=by
 obtain⟨_,h2,_⟩:=h.aD i x hx;rw[h2];unfold Up.bO;rw[hk];rfl
theorem aI.Sk.root {n:aI}(h:n.Sk):∃x,n.ae[0]?=some x/\x.ao=1:=by
 have hl:=h.len.1;refine⟨n.ae[0],gG (by omega),?_⟩;exact(h.aD 0 _ (gG (by omega))).2.2.2 rfl
theorem aI.Sk.Fz {n:aI}(h:n.Sk):n.cg≠0:=by
 intro e;obtain⟨x,hx,hk⟩:=h.root;have hl:=h.len.1;obtain⟨y,hy,hyk⟩:=aI.ov (n:=n) (by omega);rw[e,hx]at hy;cases hy;omega
theorem aI.oz {n:aI}{x:Up}(i:Nat):(n.make x).ae[i]?=if i=n.cg then some x.d_ else n.ae[i]?:=by
 have hp:=n.Au;unfold aI.make;dsimp only;by_cases h:n.cg<n.ae.length
 ·rw[ah h,List.getElem?_set];by_cases e:n.cg=i
  ·rw[ah e,ah e.symm,ah h]
  ·rw[aa e,aa (λe'=>e e'.symm)]
 ·rw[aa h];have e:n.cg=n.ae.length:=by omega
  rw[e];by_cases hi:i=n.ae.length
  ·subst hi;simp
  ·rw[aa hi];by_cases hlt:i<n.ae.length
   ·rw[List.getElem?_append_left hlt]
   ·rw[List.getElem?_eq_none (by simp;omega),List.getElem?_eq_none (by omega)]
theorem Up.q9 {x:Up}:x.d_.to.length=x.bO:=by simp[Up.d_]
theorem Up.Ax {x:Up}(h:x.ao=8->x.to.length=x.bO):x.d_.bO=x.bO:=by
 unfold Up.bO Up.d_;dsimp only;split
 ·rename_i hk;simp[Up.bO,hk]
 ·rfl
theorem Up.FA {x:Up}(h:x.ok=true):x.d_.ok=true:=by
 have:x.d_.ok=x.ok:=by
  unfold Up.ok Up.fP Up.d_;dsimp only;by_cases hk:x.ao=8
  ·simp[hk,Up.bO]
  ·simp[hk]
 rw[this];exact h
theorem aI.Sk.hZ {n:aI}(h:n.Sk){p:aq}(hp:n.has p):p.aD≠n.cg:=by
 intro e;obtain⟨x,hx,hs⟩:=hp;have hlt:p.aD<n.ae.length:=(gE hx).1;obtain⟨y,hy,hyk⟩:=aI.ov (n:=n) (by omega);rw[<- e,hx]at hy;cases hy;have:=h.W8 hx hyk;omega
theorem aI.VC {n:aI}(h:n.Sk){x:Up}{p:aq}:(n.make x).has p↔(p.aD=n.cg/\p.aT<x.bO)\/n.has p:=by
 unfold aI.has;rw[aI.oz];by_cases e:p.aD=n.cg
 ·rw[ah e];constructor
  ·rintro⟨y,hy,hs⟩;cases hy;exact .inl ⟨e,by rw[Up.q9]at hs;exact hs⟩
  ·rintro(⟨_,hs⟩|hp)
   ·exact⟨_,rfl,by rw[Up.q9];exact hs⟩
   ·exact absurd e (h.hZ hp)
 ·rw[aa e];constructor
  ·exact .inr
  ·rintro(⟨e',_⟩|hp)
   ·exact absurd e' e
   ·exact hp
theorem aI.r7 {n:aI}{x:Up}{p:aq}(h:p.aD≠n.cg):(n.make x).pr p=n.pr p:=by
 unfold aI.pr aI.peer;rw[aI.oz,aa h]
theorem aI.Xh {n:aI}(h:n.Sk){x y:Up}{i:Nat}(hy:n.ae[i]?=some y)(hk:y.ao≠0):(n.make x).ae[i]?=some y:=by
 rw[aI.oz,aa,hy];intro e;have hlt:i<n.ae.length:=(gE hy).1;obtain⟨z,hz,hzk⟩:=aI.ov (n:=n) (by omega);rw[<- e,hy]at hz;cases hz;exact hk hzk
theorem Lk.make {n:aI}{D:aq->Prop}(hs:n.Sk)(h:Lk n D)(x:Up):Lk (n.make x) (λr=>D r\/r.aD=n.cg):=by
 intro r hr hD;have h1:r.aD≠n.cg:=λe=>hD (.inr e);have h2:n.has r:=by
  rcases(aI.VC hs).1 hr with h|h
  ·exact absurd h.1 h1
  ·exact h
 obtain⟨a1,a2,a3,a4⟩:=h r h2 (λe=>hD (.inl e));rw[aI.r7 h1];have h3:=hs.hZ a1;exact⟨(aI.VC hs).2 (.inr a1),λe=>by rcases e with e|e;exact a2 e;exact h3 e,by rw[aI.r7 h3];exact a3,a4⟩
theorem aI.Sk.make {n:aI}(h:n.Sk){x:Up}(hk:2<=x.ao)(hx:x.ok=true)(hp:x.ao=8->x.to.length=x.bO)(hu:n.used<n.aV):(n.make x).Sk:=by
 have hl:=h.len;have hpl:=n.Au;have hlen:(n.make x).ae.length=if n.cg<n.ae.length then n.ae.length else n.ae.length+1:=by
  unfold aI.make;dsimp only;split<;>simp
 refine⟨h.aV,?_,λy hy=>?_,λi y hy=>?_⟩
 ·rw[hlen];split
  ·exact hl
  ·rename_i hn;have hall:n.used=n.ae.length:=by
    unfold aI.used;rw[ix];intro z hz;have:n.ae.findIdx? (λx=>decide (x.ao=0))=none:=by
     cases hf:n.ae.findIdx? (λx=>decide (x.ao=0)) with
     |none=>rfl
     |some k =>
      obtain⟨k1,_,_⟩:=List.findIdx?_eq_some_iff_getElem.1 hf;exfalso;apply hn;unfold aI.cg;rw[hf];exact k1
    rw[List.findIdx?_eq_none_iff]at this;have:=this z hz;simpa using this
   show 1<=n.ae.length+1/\n.ae.length+1<=n.aV
   omega
 ·rw[aI.oz]at hy;split at hy
  ·cases hy;show x.ao≠0;omega
  ·rename_i hne;rw[hlen]at hy hne;split at hy
   ·exact h.last y hy
   ·rename_i hn;rw[aa hn]at hne;omega
 ·rw[aI.oz]at hy;split at hy
  ·rename_i e;cases hy;refine⟨Up.FA hx,by rw[Up.q9,Up.Ax hp],?_⟩;have:=h.Fz
   show x.ao=1↔i=0
   omega
  ·exact h.aD i y hy
theorem tN {l:List Up}:∀(k t:Nat),iV l k=t+1->∀x,l[t]?=some x->x.ao≠0
 |0,t,h=>by simp[iV]at h
 |k+1,t,h=>by
  unfold iV at h;intro x hx;split at h
  ·rename_i y hy;split at h
   ·exact tN k t h x hx
   ·rename_i hk;have:t=k:=by omega
    subst this;rw[hy]at hx;cases hx;exact hk
  ·rename_i hn;have:t=k:=by omega
   subst this;rw[hn]at hx;cases hx
theorem aI.yU {n:aI}{i j:Nat}{x:Up}(h:(n.free i).ae[j]?=some x):(j=i/\x=.zero)\/(j≠i/\n.ae[j]?=some x):=by
 unfold aI.free at h;dsimp only at h;rw[List.getElem?_take]at h;split at h
 ·rw[List.getElem?_set]at h;split at h
  ·rename_i e;split at h
   ·cases h;exact .inl ⟨e.symm,rfl⟩
   ·cases h
  ·rename_i e;exact .inr ⟨λe'=>e e'.symm,h⟩
 ·cases h
theorem aI.Sk.Wb {n:aI}(h:n.Sk){i:Nat}{p:aq}:(n.free i).has p↔n.has p/\p.aD≠i:=by
 constructor
 ·rintro⟨x,hx,hs⟩;rcases aI.yU hx with ⟨_,e⟩|⟨e,hx'⟩
  ·subst e;simp[Up.zero]at hs
  ·exact⟨⟨x,hx',hs⟩,e⟩
 ·rintro⟨⟨x,hx,hs⟩,e⟩;refine⟨x,aI.jc hx ?_ (λe'=>e e'.symm),hs⟩;intro hk;have:=h.W8 hx hk;omega
theorem aI.Sk.uo {n:aI}(h:n.Sk){i:Nat}{p:aq}(hp:(n.free i).has p):(n.free i).pr p=n.pr p:=by
 obtain⟨x,hx,hs⟩:=hp;unfold aI.pr aI.peer;rw[hx];rcases aI.yU hx with ⟨_,e⟩|⟨e,hx'⟩
 ·subst e;simp[Up.zero]at hs
 ·rw[hx']
theorem Lk.free {n:aI}{D:aq->Prop}(hs:n.Sk)(h:Lk n D){i:Nat}(hi:∀p,n.has p->p.aD=i->D p):Lk (n.free i) D:=by
 intro r hr hD;have hr':=hs.Wb.1 hr;obtain⟨a1,a2,a3,a4⟩:=h r hr'.1 hD;rw[hs.uo hr];have h1:(n.free i).has (n.pr r):=hs.Wb.2 ⟨a1,λe=>a2 (hi _ a1 e)⟩;exact⟨h1,a2,by rw[hs.uo h1];exact a3,a4⟩
theorem Up.CR:Up.zero.ok=true/\Up.zero.to.length=Up.zero.bO:=⟨by decide,by decide⟩
theorem aI.Sk.free {n:aI}(h:n.Sk){i:Nat}(hi:i≠0):(n.free i).Sk:=by
 have hl:=h.len;obtain⟨r,hr,hrk⟩:=h.root;have hr':=aI.jc (i:=i) hr (by omega) hi;have hr0:0<(n.free i).ae.length:=(gE hr').1;refine⟨h.aV,⟨by omega,?_⟩,λx hx=>?_,λj x hx=>?_⟩
 ·have:(n.free i).ae.length<=n.ae.length:=by
   unfold aI.free;simp only[gF,cK];omega
  have hc:(n.free i).aV=n.aV:=rfl;omega
 ·have hlen:(n.free i).ae.length=iV (n.ae.set i .zero) n.ae.length:=by
   unfold aI.free;simp only[gF,cK];exact eF (sY _ _)
  have ht:iV (n.ae.set i .zero) n.ae.length=((n.free i).ae.length-1)+1:=by omega
  refine tN _ _ ht x ?_;unfold aI.free at hx;dsimp only at hx;rw[List.getElem?_take]at hx;split at hx
  ·unfold aI.free;exact hx
  ·cases hx
 ·rcases aI.yU hx with ⟨e,hz⟩|⟨e,hx'⟩
  ·subst hz;refine⟨Up.CR.1,Up.CR.2,?_⟩
   show(0:Nat)=1↔j=0
   omega
  ·exact h.aD j x hx'
theorem UU.nh {n m:aI}(h:UU n m)(ht:m.XB):n.XB:=by
 refine⟨by rw[h.2.1];exact ht.1,λi x hx=>?_⟩;obtain⟨y,hy,hb⟩:=h.symm.at hx;rw[<- (Up.eB hb).2.2.2.1];exact ht.2 i y hy
theorem aI.Sk.nh {n:aI}(h:n.Sk):n.XB:=by
 have h1:=h.len;have h2:=h.aV;refine⟨by omega,λi x hx=>?_⟩;have:=Up.gT (h.aD i x hx).1 (h.aD i x hx).2.1;omega
theorem Lk.FB {n:aI}{D:aq->Prop}(h:Lk n D){p q:aq}(hp:n.has p)(hq:n.has q)(hpD:¬ D p)(hqD:D q){R:aq->Prop}(hR:∀r,R r->n.has r/\¬ D r/\R (n.pr r))(hpR:¬ R p)(r:aq)(hr:R r):(n.move p q).pr r=n.pr r:=by
 obtain⟨a1,a2,a3,a4⟩:=h p hp hpD;obtain⟨b1,b2,b3⟩:=hR r hr;unfold aI.move;split
 ·rfl
 ·rename_i hne;rw[aI.j8 hq a1 (λe=>hne e.symm),aa (λe=>b2 (by rw[e];exact hqD)),aa (λe=>hpR (by rw[<- a3,<- e];exact b3))]
theorem Lk.FC {n:aI}{D:aq->Prop}(h:Lk n D){p q:aq}(hp:n.has p)(hq:n.has q)(hne:p≠q)(hpD:¬ D p)(hqD:¬ D q){R:aq->Prop}(hR:∀r,R r->n.has r/\¬ D r/\R (n.pr r))(hpR:¬ R p)(hqR:¬ R q)(r:aq)(hr:R r):(n.join p q).pr r=n.pr r:=by
 obtain⟨a1,a2,a3,a4⟩:=h p hp hpD;obtain⟨c1,c2,c3,c4⟩:=h q hq hqD;obtain⟨b1,b2,b3⟩:=hR r hr;unfold aI.join;split
 ·rfl
 ·rw[aI.j8 a1 c1 (λe=>hne (by rw[<- a3,e,c3])),aa (λe=>hpR (by rw[<- a3,<- e];exact b3)),aa (λe=>hqR (by rw[<- c3,<- e];exact b3))]
theorem Ay:∀(l:List (aq×aq)) {n:aI} {D:aq->Prop},Lk n D->n.XB->(∀pq,pq∈l->n.has pq.1/\n.has pq.2/\¬ D pq.1/\D pq.2)->(l.map (·.1)).Nodup->(l.map (·.2)).Nodup ->
  dS n l/\Lk (n.ft l) (λr=>(D r/\r∉l.map (·.2))\/r∈l.map (·.1))/\UU (n.ft l) n/\∀R:aq->Prop,(∀r,R r->n.has r/\¬ D r/\R (n.pr r))->(∀pq,pq∈l->¬ R pq.1)->∀r,R r->(n.ft l).pr r=n.pr r
 |[],n,D,h,_,_,_,_=>⟨trivial,h.congr (λp _=>by simp),.refl _,λ_ _ _ _ _=>rfl⟩
 |(p,q)::r,n,D,h,ht,hl,h1,h2=>by
  obtain⟨a1,a2,a3,a4⟩:=hl (p,q) (by simp);obtain⟨⟨b1,b2⟩,b3⟩:=h.move a1 a2 a3 a4;simp only[ai,UB]at h1 h2;have hb:=UU.move n p q;obtain⟨c1,c2,c3,c4⟩:=Ay r (n:=n.move p q) b3 (hb.nh ht) (λpq hpq=>by
   obtain⟨d1,d2,d3,d4⟩:=hl pq (by simp[hpq]);refine⟨hb.has.2 d1,hb.has.2 d2,λe=>?_,.inl ⟨d4,λe=>h2.1 (by rw[<- (show pq.2=q from e)];exact bj.2 ⟨pq,hpq,rfl⟩)⟩⟩;rcases e with e|e
   ·exact d3 e.1
   ·exact h1.1 (by rw[<- (show pq.1=p from e)];exact bj.2 ⟨pq,hpq,rfl⟩)) h1.2 h2.2
  refine⟨⟨⟨⟨a1,ht⟩,a2,b1,b2⟩,c1⟩,c2.congr (λx _=>?_),c3.trans hb,λR hR hl'=>?_⟩;rotate_left
  ·have hm:=h.FB a1 a2 a3 a4 hR (hl' (p,q) (by simp));intro x hx;refine(c4 R (λy hy=>⟨hb.has.2 (hR y hy).1,λe=>?_,by rw[hm y hy];exact(hR y hy).2.2⟩) (λpq hpq=>hl' pq (by simp[hpq])) x hx).trans (hm x hx);rcases e with e|e
   ·exact(hR y hy).2.1 e.1
   ·exact hl' (p,q) (by simp) (by rw[<- e];exact hy)
  simp only[ai,aA];have hpn:p∉r.map (·.2):=λe=>by
   obtain⟨pq,hpq,he⟩:=bj.1 e;have:=(hl pq (by simp[hpq])).2.2.2;rw[he]at this;exact a3 this
  constructor
  ·rintro(⟨d1,d2⟩|rfl|d1)
   ·exact .inl ⟨.inl ⟨d1,λe=>d2 (.inl e)⟩,λe=>d2 (.inr e)⟩
   ·exact .inl ⟨.inr rfl,hpn⟩
   ·exact .inr d1
  ·rintro(⟨d1|rfl,d2⟩|d1)
   ·exact .inl ⟨d1.1,λe=>by rcases e with e|e;exact d1.2 e;exact d2 e⟩
   ·exact .inr (.inl rfl)
   ·exact .inr (.inr d1)
theorem Az:∀(l:List (aq×aq)) {n:aI} {D:aq->Prop},Lk n D->n.XB->(∀pq,pq∈l->n.has pq.1/\n.has pq.2/\¬ D pq.1/\¬ D pq.2)->(l.map (·.1)).Nodup->(l.map (·.2)).Nodup->(∀a,a∈l.map (·.1)->a∉l.map (·.2)) ->
  ow n l/\Lk (n.Vq l) (λr=>D r\/r∈l.map (·.1)\/r∈l.map (·.2))/\UU (n.Vq l) n/\∀R:aq->Prop,(∀r,R r->n.has r/\¬ D r/\R (n.pr r))->(∀pq,pq∈l->¬ R pq.1/\¬ R pq.2)->∀r,R r->(n.Vq l).pr r=n.pr r
 |[],n,D,h,_,_,_,_,_=>⟨trivial,h.congr (λp _=>by simp),.refl _,λ_ _ _ _ _=>rfl⟩
 |(p,q)::r,n,D,h,ht,hl,h1,h2,h3=>by
  obtain⟨a1,a2,a3,a4⟩:=hl (p,q) (by simp);have hne:p≠q:=λe=>h3 p (by simp) (by simp[e]);obtain⟨⟨b1,b2,b3⟩,b4⟩:=h.join a1 a2 hne a3 a4;simp only[ai,UB]at h1 h2;have hb:=UU.join n p q;obtain⟨c1,c2,c3,c4⟩:=Az r (n:=n.join p q) b4 (hb.nh ht) (λpq hpq=>by
   obtain⟨d1,d2,d3,d4⟩:=hl pq (by simp[hpq]);have m1:pq.1∈r.map (·.1):=bj.2 ⟨pq,hpq,rfl⟩;have m2:pq.2∈r.map (·.2):=bj.2 ⟨pq,hpq,rfl⟩;refine⟨hb.has.2 d1,hb.has.2 d2,λe=>?_,λe=>?_⟩
   ·rcases e with e|e|e
    ·exact d3 e
    ·exact h1.1 (by rw[<- (show pq.1=p from e)];exact m1)
    ·exact h3 pq.1 (by simp[m1]) (by simp[e])
   ·rcases e with e|e|e
    ·exact d4 e
    ·exact h3 p (by simp) (by simp only[ai,aA];exact .inr (by rw[<- (show pq.2=p from e)];exact m2))
    ·exact h2.1 (by rw[<- (show pq.2=q from e)];exact m2)) h1.2 h2.2 (λa ha hb=>h3 a (by simp only[ai,aA];exact .inr ha) (by simp only[ai,aA];exact .inr hb))
  refine⟨⟨⟨⟨a1,ht⟩,a2,b1,b2,hne,b3⟩,c1⟩,c2.congr (λx _=>?_),c3.trans hb,λR hR hl'=>?_⟩;rotate_left
  ·obtain⟨g1,g2⟩:=hl' (p,q) (by simp);have hm:=h.FC a1 a2 hne a3 a4 hR g1 g2;intro x hx;refine(c4 R (λy hy=>⟨hb.has.2 (hR y hy).1,λe=>?_,by rw[hm y hy];exact(hR y hy).2.2⟩) (λpq hpq=>hl' pq (by simp[hpq])) x hx).trans (hm x hx);rcases e with e|e|e
   ·exact(hR y hy).2.1 e
   ·exact g1 (by rw[<- e];exact hy)
   ·exact g2 (by rw[<- e];exact hy)
  simp only[ai,aA];constructor
  ·rintro(d|(d|d)|(d|d))
   ·exact .inl (.inl d)
   ·exact .inl (.inr (.inl d))
   ·exact .inr (.inl d)
   ·exact .inl (.inr (.inr d))
   ·exact .inr (.inr d)
  ·rintro((d|d|d)|d|d)
   ·exact .inl d
   ·exact .inr (.inl (.inl d))
   ·exact .inr (.inr (.inl d))
   ·exact .inr (.inl (.inr d))
   ·exact .inr (.inr (.inr d))
theorem AA:∀(l:List (aq×aq)) {n:aI} {D:aq->Prop},Lk n D->n.XB->(∀pq,pq∈l->n.has pq.1/\n.has pq.2/\D pq.1/\D pq.2)->(l.map (·.1)).Nodup->(l.map (·.2)).Nodup->(∀a,a∈l.map (·.1)->a∉l.map (·.2)) ->
  W7 n l/\Lk (n.jy l) (λr=>D r/\r∉l.map (·.1)/\r∉l.map (·.2))/\UU (n.jy l) n/\∀R:aq->Prop,(∀r,R r->n.has r/\¬ D r/\R (n.pr r))->∀r,R r->(n.jy l).pr r=n.pr r
 |[],n,D,h,_,_,_,_,_=>⟨trivial,h.congr (λp _=>by simp),.refl _,λ_ _ _ _=>rfl⟩
 |(p,q)::r,n,D,h,ht,hl,h1,h2,h3=>by
  obtain⟨a1,a2,a3,a4⟩:=hl (p,q) (by simp);have hne:p≠q:=λe=>h3 p (by simp) (by simp[e]);have b4:=h.link a1 a2 hne a3 a4;simp only[ai,UB]at h1 h2;have hb:=UU.link n p q;obtain⟨c1,c2,c3,c4⟩:=AA r (n:=n.link p q) b4 (hb.nh ht) (λpq hpq=>by
   obtain⟨d1,d2,d3,d4⟩:=hl pq (by simp[hpq]);have m1:pq.1∈r.map (·.1):=bj.2 ⟨pq,hpq,rfl⟩;have m2:pq.2∈r.map (·.2):=bj.2 ⟨pq,hpq,rfl⟩;refine⟨hb.has.2 d1,hb.has.2 d2,⟨d3,λe=>h1.1 (by rw[<- (show pq.1=p from e)];exact m1),λe=>h3 pq.1 (by simp[m1]) (by simp[e])⟩,d4,λe=>h3 p (by simp) (by simp only[ai,aA];exact .inr (by rw[<- (show pq.2=p from e)];exact m2)),λe=>h2.1 (by rw[<- (show pq.2=q from e)];exact m2)⟩) h1.2 h2.2 (λa ha hb=>h3 a (by simp only[ai,aA];exact .inr ha) (by simp only[ai,aA];exact .inr hb))
  refine⟨⟨⟨⟨a1,ht⟩,a2,hne⟩,c1⟩,c2.congr (λx _=>?_),c3.trans hb,λR hR=>?_⟩;rotate_left
  ·have hp3:=(hl (p,q) (by simp)).2.2;have hm:∀y,R y->(n.link p q).pr y=n.pr y:=λy hy=>by
    rw[aI.j8 a1 a2 hne,aa (λe=>(hR y hy).2.1 (by rw[e];exact hp3.1)),aa (λe=>(hR y hy).2.1 (by rw[e];exact hp3.2))]
   intro x hx;exact(c4 R (λy hy=>⟨hb.has.2 (hR y hy).1,λe=>(hR y hy).2.1 e.1,by rw[hm y hy];exact(hR y hy).2.2⟩) x hx).trans (hm x hx)
  simp only[ai,aA];constructor
  ·rintro⟨d1,d2,d3⟩;exact⟨⟨d1,λe=>d2 (.inl e),λe=>d3 (.inl e)⟩,λe=>d2 (.inr e),λe=>d3 (.inr e)⟩
  ·rintro⟨⟨d1,d2,d3⟩,d4,d5⟩;exact⟨d1,λe=>by rcases e with e|e;exact d2 e;exact d4 e,λe=>by rcases e with e|e;exact d3 e;exact d5 e⟩
structure CS (n m:aI)(x:Up)(cs:List Nat):Prop where
 sk:m.Sk
 aV:m.aV=n.aV
 used:m.used=n.used+cs.length
 bq:∀(i:Nat) (y:Up),n.ae[i]?=some y->y.ao≠0->m.ae[i]?=some y
 new:∀c,c∈cs->m.ae[c]?=some x.d_
 d_:∀p,n.has p->p.aD∉cs
 nodup:cs.Nodup
 has:∀p,m.has p↔n.has p\/(p.aD∈cs/\p.aT<x.bO)
 lk:∀D,Lk n D->Lk m (λr=>D r\/r.aD∈cs)
 len:m.ae.length<=n.ae.length+cs.length
 pr:∀p,n.has p->m.pr p=n.pr p
theorem CS.nil {n:aI}(h:n.Sk)(x:Up):CS n n x [] :=
 ⟨h,rfl,rfl,λ_ _ h _=>h,by simp,by simp,by simp,by simp,λD h=>h.congr (λp _=>by simp),by simp,λ_ _=>rfl⟩
theorem vD {x:Up}(hk:2<=x.ao)(hx:x.ok=true)(hp:x.ao=8->x.to.length=x.bO)(hpos:0<x.bO):∀(k:Nat) {n:aI},n.Sk->n.used+k<=n.aV->CS n (n.cI x k).1 x (n.cI x k).2
 |0,n,h,hu=>.nil h x
 |k+1,n,h,hu=>by
  have h1:=h.make hk hx hp (by omega);have hmu:(n.make x).used=n.used+1:=by
   have:=@aI.nH n x (by omega);exact this
  have ih:=vD hk hx hp hpos k (n:=n.make x) h1 (by rw[hmu];show n.used+1+k<=n.aV;omega);simp only[aI.cI];have wR:(n.make x).ae[n.cg]?=some x.d_:=by rw[aI.oz,ah rfl]
  have hpl:n.cg∉((n.make x).cI x k).2:=by
   have:=ih.d_ ⟨n.cg,0⟩ ((aI.VC h).2 (.inl ⟨rfl,hpos⟩));exact this
  refine⟨ih.sk,ih.aV,by rw[ih.used,hmu];simp;omega,λi y hy hky=>ih.bq i y (aI.Xh h hy hky) hky,λc hc=>?_,λp hpn hc=>?_,UB.2 ⟨hpl,ih.nodup⟩,λp=>?_,λD hD=>?_,?_,λp hp=>(ih.pr p ((aI.VC h).2 (.inr hp))).trans (aI.r7 (h.hZ hp))⟩
  ·rcases aA.1 hc with rfl|hc
   ·exact ih.bq _ _ wR (by show x.ao≠0;omega)
   ·exact ih.new c hc
  ·rcases aA.1 hc with e|hc
   ·exact h.hZ hpn e
   ·exact ih.d_ p ((aI.VC h).2 (.inr hpn)) hc
  ·rw[ih.has,aI.VC h];simp only[aA];constructor
   ·rintro((⟨e,hs⟩|hh)|⟨e,hs⟩)
    ·exact .inr ⟨.inl e,hs⟩
    ·exact .inl hh
    ·exact .inr ⟨.inr e,hs⟩
   ·rintro(hh|⟨e|e,hs⟩)
    ·exact .inl (.inr hh)
    ·exact .inl (.inl ⟨e,hs⟩)
    ·exact .inr ⟨e,hs⟩
  ·refine(ih.lk _ (hD.make h x)).congr (λp _=>?_);simp only[aA];constructor
   ·rintro(d|d|d)
    ·exact .inl (.inl d)
    ·exact .inl (.inr d)
    ·exact .inr d
   ·rintro((d|d)|d)
    ·exact .inl d
    ·exact .inr (.inl d)
    ·exact .inr (.inr d)
  ·have:=ih.len;have:=aI.pC n x;simp;omega
section
variable {pg:fX}{G:Heap}
theorem t137 (h:bY pg){n:aI}{i k:Nat}{x y:Up}{q:aq}(hl:n.ae.length<2 ^ 40)(h1:n.ae[i]?=some x)(h2:x.to[k]?=some q)(hne:¬ (q.aD=i/\q.aT=k))(h3:n.ae[q.aD]?=some y)
  (hyl:y.to.length<2 ^ 40) (h4:y.to[q.aT]?=some ⟨i,k⟩) :
  UM pg (E pg) 137 [.ag [.p (.sl (n.ae.map Up.aw)),.p (.i .i64 n.aV)],.ag [.p (.i .i64 i),.p (.i .i64 k)]] G=some (.ret (.p (.b true)),G):=by
 refine Ut ?_ rfl rfl;rw[h.run (x:=Jc)];have a1:q.aD<n.ae.length:=(gE h3).1;have a2:q.aT<y.to.length:=(gE h4).1;have a3:(q.aD:Int)<=(n.ae.length:Int)-1:=by omega
 have a4:(q.aT:Int)<=(y.to.length:Int)-1:=by omega
 have a5:(q.aD=i/\q.aT=k)=False:=az hne;have a6:(decide (q.aD=i) && decide (q.aT=k))=false:=by simpa using hne
 have a7:(!decide (q.aD=i) || !decide (q.aT=k))=true:=by simp;omega
 simp[Jc,aj,dn,Up.aw,aq.aw,aS,h1,h2,h3,h4,t134 h,a3,a4,a5,a6,a7,cR ((n.ae.length:Int)-1),cR ((y.to.length:Int)-1)]
theorem aI.Ok.at {n:aI}(ho:n.Ok){i k:Nat}{x:Up}{q:aq}(h1:n.ae[i]?=some x)(h2:x.to[k]?=some q):¬ (q.aD=i/\q.aT=k)/\∃y,n.ae[q.aD]?=some y/\y.to[q.aT]?=some ⟨i,k⟩:=by
 obtain⟨a,b⟩:=ho.link i x k q h1 h2;refine⟨λe=>a (by cases q;simp_all),?_⟩;unfold aI.peer at b;split at b
 ·rename_i y hy;exact⟨y,hy,b⟩
 ·cases b
theorem H_ (h:bY pg){body:aU}(hb:body=yE){n:aI}(ho:n.Ok){i:Nat}{x:Up}(hx:n.ae[i]?=some x) :
  ∀(m k:Nat),k+m=x.to.length->L pg 0 [1,4,33,34,35,61,62] body [(1,.ptr 0 0),(4,.p (.i .i64 i)),(33,.p (.sl (n.ae.map Up.aw))),(34,.p (.i .i64 n.ae.length)),(35,.p (.i .i64 i)),(61,.p (.i .i64 x.to.length)),(62,.p (.i .i64 k))] [.box [.p (.sl (n.ae.map Up.aw)),.p (.i .i64 n.aV)]] =
   some (.exit 2,[(1,.ptr 0 0),(4,.p (.i .i64 i)),(33,.p (.sl (n.ae.map Up.aw))),(34,.p (.i .i64 n.ae.length)),(35,.p (.i .i64 i)),(61,.p (.i .i64 x.to.length)),(62,.p (.i .i64 x.to.length)),(63,.p (.b false))],[.box [.p (.sl (n.ae.map Up.aw)),.p (.i .i64 n.aV)]])
 |0,k,hk=>by
  have:k=x.to.length:=by omega
  subst this;rw[dA hb];simp[yE,aj]
 |m+1,k,hk=>by
  have hlt:k<x.to.length:=by omega
  have h2:x.to[k]?=some x.to[k]:=gG hlt;obtain⟨hne,y,h3,h4⟩:=ho.at hx h2;have hc:=ho.aV;have hl:=ho.len;obtain⟨y1,y2,_⟩:=ho.aD _ _ h3;have hyl:=Up.gT y1 y2;obtain⟨x1,x2,_⟩:=ho.aD _ _ hx;have hxl:=Up.gT x1 x2;have ht:=λG=>t137 (G:=G) h (by omega) hx h2 hne h3 (by omega) h4;have ih:=H_ h hb ho hx m (k+1) (by omega);rw[show((k+1:Nat):Int)=(k:Int)+1 from by omega]at ih;rw[dA hb];simp[yE,aj,hlt,ht,cR ((k:Int)+1),gc,exp,aQ,UG,ih]
theorem Lb (h:bY pg){body:aU}(hb:body=X7){n:aI}(ho:n.Ok) :
  ∀(m i:Nat),i+m=n.ae.length->L pg 0 [1,33,34,35] body [(1,.ptr 0 0),(33,.p (.sl (n.ae.map Up.aw))),(34,.p (.i .i64 n.ae.length)),(35,.p (.i .i64 i))] [.box [.p (.sl (n.ae.map Up.aw)),.p (.i .i64 n.aV)]] =
   some (.exit 0,[(1,.ptr 0 0),(33,.p (.sl (n.ae.map Up.aw))),(34,.p (.i .i64 n.ae.length)),(35,.p (.i .i64 n.ae.length)),(36,.p (.b false))],[.box [.p (.sl (n.ae.map Up.aw)),.p (.i .i64 n.aV)]])
 |0,i,hi=>by
  have:i=n.ae.length:=by omega
  subst this;rw[dA hb];simp[X7,aj]
 |m+1,i,hi=>by
  have hlt:i<n.ae.length:=by omega
  have hx:n.ae[i]?=some n.ae[i]:=gG hlt;have hc:=ho.aV;have hl:=ho.len;obtain⟨x1,x2,x3⟩:=ho.aD _ _ hx;have hxl:=Up.gT x1 x2;have hal:=Up.gS x1;have h5:=λG=>t135 (G:=G) h n.ae[i].ao n.ae[i].Us n.ae[i].n n.ae[i].name n.ae[i].aY n.ae[i].to (by omega);have h6:=λG=>t136 (G:=G) h n.ae[i].ao n.ae[i].Us n.ae[i].n n.ae[i].name n.ae[i].aY n.ae[i].to (by omega);rw[x1]at h5;rw[<- x2]at h6;have ha:=H_ h rfl ho hx n.ae[i].to.length 0 (by omega);have ih:=Lb h hb ho m (i+1) (by omega);rw[show((i+1:Nat):Int)=(i:Int)+1 from by omega]at ih;rw[fW]at ha;rw[dA hb];by_cases h0:i=0
  ·have hk:=x3.2 h0;have ek:((n.ae[i].ao:Int)=1)=True:=mA;have ei:((i:Int)=0)=True:=mA;simp[X7,aj,hlt,aS,Up.aw,h5,h6,(show bC pg 136=false from h.bq (x:=wX) rfl),ek,ei,Ur h0,gc,exp,aQ,UG,ha,cR ((i:Int)+1),ih]
  ·have hk:¬ n.ae[i].ao=1:=λe=>h0 (x3.1 e);have ek:((n.ae[i].ao:Int)=1)=False:=cC;have ei:((i:Int)=0)=False:=cC;simp[X7,aj,hlt,aS,Up.aw,h5,h6,(show bC pg 136=false from h.bq (x:=wX) rfl),ek,ei,h0,gc,exp,aQ,UG,ha,cR ((i:Int)+1),ih]
theorem t128 (h:bY pg){n:aI}(ho:n.Ok) :
  UM pg (E pg) 128 [.ag [.p (.sl (n.ae.map Up.aw)),.p (.i .i64 n.aV)]] G=some (.ret (.p (.i .i64 0)),G):=by
 refine Ut ?_ rfl rfl;rw[h.run (x:=I9)];have hc:=ho.aV;have hl:=ho.len;have hb:n.ae.length-1<n.ae.length:=by omega
 have e1:(((n.ae.length:Int)-1).toNat)=n.ae.length-1:=by omega
 have hla:=ho.last _ (gG hb);have e2:((n.ae[n.ae.length-1].ao:Int)=0)=False:=cC;have e3:(0:Int)<=(n.ae.length:Int)-1:=by omega
 have e4:(n.ae.length:Int)-1+1=n.ae.length:=by omega
 have e5:(1:Int)<=n.ae.length/\(n.ae.length:Int)<=n.aV:=by omega
 have e6:(1:Int)<=n.aV/\(n.aV:Int)<=4000:=by omega
 have hL:=Lb h rfl ho n.ae.length 0 (by omega);rw[fW]at hL;simp[I9,aj,t134 h,cR ((n.ae.length:Int)-1),cR (n.ae.length:Int),e1,e2,hla,e3,e4,e5.1,e5.2,e6.1,e6.2,hb,Up.aw,aS,gc,exp,aQ,UG,hL]
theorem Nz (h:bY pg){n:aI}{p:aq}(hp:n.has p) :
  E pg 151 [.ag [.p (.i .i64 p.aD),.p (.i .i64 p.aT)],.ptr 0 0] [.box [.p (.sl (n.ae.map Up.aw)),.p (.i .i64 n.aV)]]=some (.ret (.p (.b false)),[.box [.p (.sl (n.ae.map Up.aw)),.p (.i .i64 n.aV)]]):=by
 obtain⟨x,h1,h2⟩:=hp;have h3:p.aD<n.ae.length:=(gE h1).1;have e1:((p.aD:Int)<0)=False:=cC;have e2:((p.aT:Int)<0)=False:=cC;have e3:((n.ae.length:Int)<=p.aD)=False:=cC;have e4:((x.to.length:Int)<=p.aT)=False:=cC;have e5:(n.ae.length<=p.aD)=False:=cC;have e6:(x.to.length<=p.aT)=False:=cC;rw[h.run (x:=Jf)];simp[Jf,aj,e1,e2,e3,e4,e5,e6,h1,Up.aw,aS]
theorem NA (h:bY pg){n:aI}{l:List aq}(hl:l.length<2 ^ 40)(hp:∀p,p∈l->n.has p) :
  E pg 150 [.p (.sl (l.map aq.aw)),.fn 151 [] [.ptr 0 0]] [.box [.p (.sl (n.ae.map Up.aw)),.p (.i .i64 n.aV)]]=some (.ret (.p (.b false)),[.box [.p (.sl (n.ae.map Up.aw)),.p (.i .i64 n.aV)]]):=by
 have h1:=Nt (G:=[.box [.p (.sl (n.ae.map Up.aw)),.p (.i .i64 n.aV)]]) h (f:=151) (first:=[]) (aV:=[.ptr 0 0]) (ay:=l.map aq.aw) (q:=λ_=>false) (by simpa using hl) rfl rfl (oq vw l) (by
  intro row hr;obtain⟨p,hm,rfl⟩:=bj.1 hr;simp[aq.aw,UM,gc,exp,aQ,UG,bP,Nz h (hp p hm),Out.back,back,dh,UL,bD,b_])
 have h2:(l.map aq.aw).findIdx? (λ_=>false)=none:=by simp
 rw[h2]at h1;rw[h.run (x:=G4)];simp[G4,aj,UM,gc,exp,aQ,UG,h1,Out.back,back,dh,UL,bD,b_,(show bC pg 175=false from h.bq (x:=G_) rfl),dB]
theorem Lc (h:bY pg){n:aI}{l:List aq}(hl:l.length<2 ^ 40)(hp:∀p,p∈l->n.has p) :
  E pg 138 [.ag [.p (.sl (n.ae.map Up.aw)),.p (.i .i64 n.aV)],.p (.sl (l.map aq.aw))] []=some (.ret (.p (.b true)),[]):=by
 rw[h.run (x:=yF)];simp[yF,aj,UM,gc,exp,aQ,UG,NA h hl hp,Out.back,back,dh,UL,bD,b_,(show bC pg 150=false from h.bq (x:=G4) rfl)]
theorem FD (h:bY pg){n:aI}{p:aq}(hp:n.has p) :
  E pg 138 [.ag [.p (.sl (n.ae.map Up.aw)),.p (.i .i64 n.aV)],.p (.sl [[.i .i64 p.aD,.i .i64 p.aT]])] []=some (.ret (.p (.b true)),[]) :=
 Lc h (l:=[p]) (by simp) (by simpa using hp)
theorem vE (h:bY pg){n:aI}{p q:aq}(hp:n.has p)(hq:n.has q) :
  E pg 138 [.ag [.p (.sl (n.ae.map Up.aw)),.p (.i .i64 n.aV)],.p (.sl [[.i .i64 p.aD,.i .i64 p.aT],[.i .i64 q.aD,.i .i64 q.aT]])] []=some (.ret (.p (.b true)),[]) :=
 Lc h (l:=[p,q]) (by simp) (by simp[hp,hq])
theorem BP (h:bY pg){n:aI}{p:aq}(hp:n.has p) :
  E pg 139 [.ag [.p (.sl (n.ae.map Up.aw)),.p (.i .i64 n.aV)],.ag [.p (.i .i64 p.aD),.p (.i .i64 p.aT)]] []=some (.ret (.ag [.p (.i .i64 (n.pr p).aD),.p (.i .i64 (n.pr p).aT)]),[]):=by
 obtain⟨x,h1,h2⟩:=aI.qZ hp;rw[h.run (x:=Ab)];simp[Ab,aj,h1,h2,Up.aw,aq.aw,aS]
theorem NB (h:bY pg){n:aI}{p:aq}(hp:n.has p) :
  E pg 129 [.ag [.p (.sl (n.ae.map Up.aw)),.p (.i .i64 n.aV)],.ag [.p (.i .i64 p.aD),.p (.i .i64 p.aT)]] []=some (.ret (.dF [.ag [.p (.i .i64 (n.pr p).aD),.p (.i .i64 (n.pr p).aT)],.p (.i .i64 0)]),[]):=by
 rw[h.run (x:=I_)];simp[I_,aj,UM,Uu.Uv,cO,Vy,ee,aS,gc,exp,aQ,UG,FD h hp,BP h hp,Out.back,back,dh,UL,bD,b_,(show bC pg 138=false from h.bq (x:=yF) rfl),(show bC pg 139=false from h.bq (x:=Ab) rfl)]
theorem NC (h:bY pg){l:List aq}(hl:l≠[])(hs:l.length<2 ^ 20):E pg 196 [.p (.sl (l.map aq.aw))] []=some (.ret (.arr 0 l.length 1),[.arr 2 (l.map aq.aw) 1 0]):=by
 refine EX h.Hf _ ?_;cases l with
 |nil=>exact absurd rfl hl
 |cons a r =>
  have:=fA vw (a::r);have hro:bZ (a::r).length 16=true:=by simp only[bZ,ab,Uq];omega
  simp only[av]at hro;simp only[ai]at this;simp[pz,this,hro]
theorem ND (h:bY pg){l:List Up}(hl:l≠[])(hs:l.length<2 ^ 20):E pg 197 [.p (.sl (l.map Up.aw))] []=some (.ret (.arr 0 l.length 1),[.arr 6 (l.map Up.aw) 1 0]):=by
 refine EX h.Hg _ ?_;cases l with
 |nil=>exact absurd rfl hl
 |cons a r =>
  have:=fA sW (a::r);have hro:bZ (a::r).length 88=true:=by simp only[bZ,ab,Uq];omega
  simp only[av]at hro;simp only[ai]at this;simp[pz,this,hro]
theorem NF (h:bY pg){l:List (List UInt8×Nat)}(hl:l.length<2 ^ 20):E pg 193 [.p (.sl (l.map Ux))] []=some (.ret (.p (.sl (l.map Ux))),[]):=by
 refine EX h.BM _ ?_;have h1:=fA (sz:=2) (f:=Ux) (λa=>by simp[Ux,aS,PV.flat]) l;have h2:bZ (l.map Ux).length 24=true:=by simp only[bZ,ab,Uq,cU];omega
 simp only[sV,h1,h2,nu,if_true]
theorem bY.NG (h:bY pg):bC pg 196=false:=by
 unfold bC;rw[h.code];rfl
theorem bY.NH (h:bY pg):bC pg 197=false:=by
 unfold bC;rw[h.code];rfl
theorem bY.Ld (h:bY pg):bC pg 193=false:=by
 unfold bC;rw[h.code];rfl
theorem Le (h:bY pg){n:aI}{p q:aq}(hp:n.W3 p) :
  E pg 195 [.ag [.p (.sl (n.ae.map Up.aw)),.p (.i .i64 n.aV)],.ag [.p (.i .i64 p.aD),.p (.i .i64 p.aT)],.ag [.p (.i .i64 q.aD),.p (.i .i64 q.aT)]] []=some (.ret (.ag [.p (.sl ((n.put p q).ae.map Up.aw)),.p (.i .i64 (n.put p q).aV)]),[]):=by
 obtain⟨⟨x,h1,h2⟩,ht1,ht2⟩:=hp;have ht2:=ht2 _ x h1;have h3:p.aD<n.ae.length:=(gE h1).1;have hx:x.to≠[]:=by intro e;rw[e]at h2;simp at h2
 have hn:n.ae≠[]:=by intro e;rw[e]at h3;simp at h3
 have h5:n.ae[p.aD]=x:=(gE h1).2;have h4:x.to[p.aT]?=some x.to[p.aT]:=gG h2;rw[h.run (x:=He)];rw[aI.xB h1,aI.j6];simp[He,aj,h1,h2,h3,h4,h5,Up.aw,aq.aw,aS,UM,h.NG,h.NH,NC h hx ht2,ND h hn ht1,gc,exp,aQ,UG,Out.back,back,dh,UL,bD,b_,cO,Vy,ee,cz,Up.oZ];rw[aF (by simp),aF (by simp)]
theorem Ju (h:bY pg){n:aI}{p q:aq}(hp:n.W3 p)(hq:n.has q)(hne:p≠q) :
  E pg 192 [.ag [.p (.sl (n.ae.map Up.aw)),.p (.i .i64 n.aV)],.ag [.p (.i .i64 p.aD),.p (.i .i64 p.aT)],.ag [.p (.i .i64 q.aD),.p (.i .i64 q.aT)]] []=some (.ret (.dF [.ag [.p (.sl ((n.link p q).ae.map Up.aw)),.p (.i .i64 (n.link p q).aV)],.p (.i .i64 0)]),[]):=by
 have e1:(decide (p.aD=q.aD) && decide (p.aT=q.aT))=false:=by
  cases p;cases q;simpa using hne
 rw[h.run (x:=DS)];simp[DS,aj,dn,Uu.Uv,UM,gc,exp,aQ,UG,cO,Vy,ee,aS,vE h hp.1 hq,(show bC pg 138=false from h.bq (x:=yF) rfl),e1,Le h hp,Le h (⟨aI.rY.2 hq,hp.2.put p q⟩:(n.put p q).W3 q),(show bC pg 195=false from h.bq (x:=He) rfl),Out.back,back,dh,UL,bD,b_,aI.link]
theorem NI (h:bY pg){n:aI}{p q:aq}(hp:n.W3 p)(hq:n.has q)(hne:p≠q) :
  E pg 191 [.ag [.p (.sl (n.ae.map Up.aw)),.p (.i .i64 n.aV)],.ag [.p (.i .i64 p.aD),.p (.i .i64 p.aT)],.ag [.p (.i .i64 q.aD),.p (.i .i64 q.aT)]] []=some (.ret (.dF [.ag [.p (.sl ((n.link p q).ae.map Up.aw)),.p (.i .i64 (n.link p q).aV)],.p (.i .i64 0)]),[]):=by
 rw[h.run (x:=Jt)];simp[Jt,aj,UM,gc,exp,aQ,UG,Ju h hp hq hne,(show bC pg 192=false from h.bq (x:=DS) rfl),Out.back,back,dh,UL,bD,b_]
theorem NJ (h:bY pg){n:aI}{p q:aq}(hp:n.W3 p)(hq:n.has q)(hr:n.has (n.pr p))(hne:p≠q) :
  E pg 183 [.ag [.p (.sl (n.ae.map Up.aw)),.p (.i .i64 n.aV)],.ag [.p (.i .i64 p.aD),.p (.i .i64 p.aT)],.ag [.p (.i .i64 q.aD),.p (.i .i64 q.aT)]] []=some (.ret (.dF [.ag [.p (.sl ((n.move p q).ae.map Up.aw)),.p (.i .i64 (n.move p q).aV)],.p (.i .i64 0)]),[]):=by
 have e1:(decide (p.aD=q.aD) && decide (p.aT=q.aT))=false:=by
  cases p;cases q;simpa using hne
 rw[h.run (x:=Ha)];by_cases hpq:n.pr p=q
 ·subst hpq;simp[Ha,aj,dn,Uu.Uv,UM,gc,exp,aQ,UG,cO,Vy,ee,aS,vE h hp.1 hq,FD h hr,BP h hp.1,(show bC pg 138=false from h.bq (x:=yF) rfl),(show bC pg 139=false from h.bq (x:=Ab) rfl),e1,Out.back,back,dh,UL,bD,b_,aI.move]
 ·have e2:(decide ((n.pr p).aD=q.aD) && decide ((n.pr p).aT=q.aT))=false:=by
   revert hpq;cases n.pr p;cases q;simp
  simp[Ha,aj,dn,Uu.Uv,UM,gc,exp,aQ,UG,cO,Vy,ee,aS,vE h hp.1 hq,FD h hr,BP h hp.1,Ju h ⟨hq,hp.2⟩ hr (λe=>hpq e.symm),(show bC pg 138=false from h.bq (x:=yF) rfl),(show bC pg 139=false from h.bq (x:=Ab) rfl),(show bC pg 192=false from h.bq (x:=DS) rfl),e1,e2,Out.back,back,dh,UL,bD,b_,aI.move,hpq]
theorem NK (h:bY pg){n:aI}{p q:aq}(hp:n.W3 p)(hq:n.has q)(hr:n.has (n.pr p))(hs:n.has (n.pr q))(hne:p≠q)(hrs:n.pr p≠q->n.pr p≠n.pr q) :
  E pg 190 [.ag [.p (.sl (n.ae.map Up.aw)),.p (.i .i64 n.aV)],.ag [.p (.i .i64 p.aD),.p (.i .i64 p.aT)],.ag [.p (.i .i64 q.aD),.p (.i .i64 q.aT)]] []=some (.ret (.dF [.ag [.p (.sl ((n.join p q).ae.map Up.aw)),.p (.i .i64 (n.join p q).aV)],.p (.i .i64 0)]),[]):=by
 have e1:(decide (p.aD=q.aD) && decide (p.aT=q.aT))=false:=by
  cases p;cases q;simpa using hne
 rw[h.run (x:=Hc)];by_cases hpq:n.pr p=q
 ·subst hpq;simp[Hc,aj,dn,Uu.Uv,UM,gc,exp,aQ,UG,cO,Vy,ee,aS,vE h hp.1 hq,vE h hr hs,BP h hp.1,BP h hq,(show bC pg 138=false from h.bq (x:=yF) rfl),(show bC pg 139=false from h.bq (x:=Ab) rfl),e1,Out.back,back,dh,UL,bD,b_,aI.join]
 ·have e2:(decide ((n.pr p).aD=q.aD) && decide ((n.pr p).aT=q.aT))=false:=by
   revert hpq;cases n.pr p;cases q;simp
  simp[Hc,aj,dn,Uu.Uv,UM,gc,exp,aQ,UG,cO,Vy,ee,aS,vE h hp.1 hq,vE h hr hs,BP h hp.1,BP h hq,Ju h ⟨hr,hp.2⟩ hs (hrs hpq),(show bC pg 138=false from h.bq (x:=yF) rfl),(show bC pg 139=false from h.bq (x:=Ab) rfl),(show bC pg 192=false from h.bq (x:=DS) rfl),e1,e2,Out.back,back,dh,UL,bD,b_,aI.join,hpq]
theorem Jv (h:bY pg){body:aU}(hb:body=vd){l:List Up}(hl:l.length<2 ^ 40) :
  ∀(m i u:Nat),i+m=l.length->u<=i->L pg 0 [3,7,8,9] body [(3,.p (.i .i64 u)),(7,.p (.sl (l.map Up.aw))),(8,.p (.i .i64 l.length)),(9,.p (.i .i64 i))] [] =
   some (.exit 0,[(3,.p (.i .i64 (u+(l.drop i).countP λx=>decide (x.ao≠0):Nat))),(7,.p (.sl (l.map Up.aw))),(8,.p (.i .i64 l.length)),(9,.p (.i .i64 l.length)),(10,.p (.b false))],[])
 |0,i,u,hi,hu=>by
  have:i=l.length:=by omega
  subst this;rw[dA hb];simp[vd,aj]
 |m+1,i,u,hi,hu=>by
  have hlt:i<l.length:=by omega
  have hd:l.drop i=l[i]::l.drop (i+1):=aM hlt;rw[dA hb,hd,List.countP_cons];by_cases hk:l[i].ao=0
  ·have ih:=Jv h hb hl m (i+1) u (by omega) (by omega);rw[show((i+1:Nat):Int)=(i:Int)+1 from by omega]at ih;have e1:=λG=>t160 (G:=G) h l[i].ao l[i].Us l[i].n l[i].name (l[i].aY.map Ux) (l[i].to.map aq.aw);simp[vd,aj,hlt,aS,Up.aw,e1,Ur hk,cR ((i:Int)+1),gc,exp,aQ,UG];rw[ih];simp
  ·have ih:=Jv h hb hl m (i+1) (u+1) (by omega) (by omega);rw[show((i+1:Nat):Int)=(i:Int)+1 from by omega,show((u+1:Nat):Int)=(u:Int)+1 from by omega]at ih;have e1:=λG=>t160 (G:=G) h l[i].ao l[i].Us l[i].n l[i].name (l[i].aY.map Ux) (l[i].to.map aq.aw);simp[vd,aj,hlt,aS,Up.aw,e1,az hk,cR ((i:Int)+1),cR ((u:Int)+1),gc,exp,aQ,UG];rw[ih];simp;omega
theorem NL (h:bY pg){n:aI}(hl:n.ae.length<2 ^ 40) :
  E pg 143 [.ag [.p (.sl (n.ae.map Up.aw)),.p (.i .i64 n.aV)]] []=some (.ret (.p (.i .i64 n.used)),[]):=by
 have hL:=Jv h rfl hl n.ae.length 0 0 (by omega) (by omega);rw[fW]at hL;rw[h.run (x:=Ac)];simp[Ac,aj,gc,exp,aQ,UG,hL,aI.used]
theorem t143 (h:bY pg){n:aI}(hl:n.ae.length<2 ^ 40) :
  UM pg (E pg) 143 [.ag [.p (.sl (n.ae.map Up.aw)),.p (.i .i64 n.aV)]] G=some (.ret (.p (.i .i64 n.used)),G):=Ut (NL h hl) rfl rfl
theorem NM (h:bY pg){n:aI}(hl:n.ae.length<2 ^ 30) :
  E pg 172 [.ag [.p (.sl (n.ae.map Up.aw)),.p (.i .i64 n.aV)]] []=some (.ret (.ag [.arr 2 n.ae.length 1,.p (.i .i64 n.aV)]),[.box [.arr 2 n.ae.length 1,.p (.i .i64 n.aV)],.box [.arr 2 n.ae.length 1,.p (.i .i64 n.aV)],.arr 6 (n.ae.map Up.aw) 1 0]):=by
 have e1:bZ n.ae.length 88=true:=by simp[bZ];omega
 have e2:bZ (n.ae.length+1) 88=true:=by simp[bZ];omega
 have e3:(0:Int)<=(n.ae.length:Int)+1:=by omega
 rw[h.run (x:=Jm)];simp[Jm,aj,cR ((n.ae.length:Int)+1),e1,e2,e3,aS,cX,fA sW]
theorem Lf (h:bY pg){body:aU}(hb:body=Ya){l:List Up}{gen sl:Nat}(hl:l.length<2 ^ 40) :
  ∀(n i:Nat),i+n=l.length->L pg 1 [0,1,7,8] body [(0,.arr 0 l.length gen),(1,.fn 160 [] []),(7,.p (.i .i64 l.length)),(8,.p (.i .i64 i))] [.arr 6 (l.map Up.aw) gen sl] =
   some (match (l.drop i).findIdx? (λx=>decide (x.ao=0)) with
    |some k=>(.ret,[(4,.p (.i .i64 (i+k:Nat)))],[.arr 6 (l.map Up.aw) gen sl])
    |none=>(.exit 0,[(0,.arr 0 l.length gen),(1,.fn 160 [] []),(7,.p (.i .i64 l.length)),(8,.p (.i .i64 l.length)),(9,.p (.b false))],[.arr 6 (l.map Up.aw) gen sl]))
 |0,i,hi=>by
  have:i=l.length:=by omega
  subst this;rw[dA hb];simp[Ya,aj]
 |n+1,i,hi=>by
  have hlt:i<l.length:=by omega
  have hd:l.drop i=l[i]::l.drop (i+1):=aM hlt;have e1:=λG=>t160 (G:=G) h l[i].ao l[i].Us l[i].n l[i].name (l[i].aY.map Ux) (l[i].to.map aq.aw);rw[dA hb,hd,List.findIdx?_cons];by_cases hqv:l[i].ao=0
  ·simp[Ya,aj,hlt,Ur hqv,Up.aw,e1]
  ·have ih:=Lf (gen:=gen) (sl:=sl) h hb hl n (i+1) (by omega);rw[show((i+1:Nat):Int)=(i:Int)+1 from by omega]at ih;simp[Ya,aj,hlt,az hqv,Up.aw,e1,cR ((i:Int)+1),gc,exp,aQ,UG];rw[ih];cases (l.drop (i+1)).findIdx? (λx=>decide (x.ao=0)) with
   |none=>simp
   |some k=>simp;omega
theorem NN (h:bY pg){l:List Up}{gen sl:Nat}(hl:l.length<2 ^ 40) :
  E pg 194 [.arr 0 l.length gen,.fn 160 [] []] [.arr 6 (l.map Up.aw) gen sl]=some (.ret (.p (.i .i64 (dB (l.findIdx? λx=>decide (x.ao=0))))),[.arr 6 (l.map Up.aw) gen sl]):=by
 have hL:=Lf (gen:=gen) (sl:=sl) h rfl hl l.length 0 (by omega);rw[fW]at hL;rw[h.run (x:=Hd)];simp[Hd,aj,gc,exp,aQ,UG,hL];cases l.findIdx? (λx=>decide (x.ao=0)) with
 |none=>simp[aj,dB]
 |some k=>simp[aj,dB]
end
end Go.Proofs.Z
