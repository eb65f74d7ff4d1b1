/- A part of the proof. -/
import Derived.Test.YtffohgbmjjbhiaaGreatB08
set_option linter.all false
namespace Go.Proofs.Z
section
variable {pg:fX}{G:Heap}
theorem vF {call:di}{f:Nat}{args:List AV}{out:Out}{os:Heap}{G:Heap}(hc:call f args []=some (out,os))(ha:bm args=true) :
  UM pg call f args G=some (out.back [] G.length,G++os.map (bD [] G.length)):=by
 unfold UM;rw[bS _ _ ha];dsimp only;have:UG (G.length+1) ⟨[],G⟩ 0=some ([],⟨[],G⟩):=by simp[UG]
 rw[this];dsimp only;rw[hc];simp[b_]
theorem t172 (h:bY pg){n:aI}(hl:n.ae.length<2 ^ 30) :
  UM pg (E pg) 172 [.ag [.p (.sl (n.ae.map Up.aw)),.p (.i .i64 n.aV)]] G=some (.ret (.ag [.arr (G.length+2) n.ae.length 1,.p (.i .i64 n.aV)]),G++[.box [.arr (G.length+2) n.ae.length 1,.p (.i .i64 n.aV)],.box [.arr (G.length+2) n.ae.length 1,.p (.i .i64 n.aV)],.arr 6 (n.ae.map Up.aw) 1 0]):=by
 rw[vF (NM h hl) rfl];simp[Out.back,back,dh,UL,bD,b_]
theorem Lg (h:bY pg){body:aU}(hb:body=vf){l:List Up}{gen:Nat}{aV:Nat}(hl:l.length<2 ^ 40) :
  ∀k,k<=l.length->L pg 0 [2,4] body [(2,.ptr 0 0),(4,.ptr 1 0)] [.box [.arr 2 k gen,.p (.i .i64 aV)],.box [.aC,.p (.i .i64 0)],.arr 6 (l.map Up.aw) gen 0] =
   some (.exit 0,[(2,.ptr 0 0),(4,.ptr 1 0),(43,.p (.b false))],[.box [.arr 2 (iV l k) gen,.p (.i .i64 aV)],.box [.aC,.p (.i .i64 0)],.arr 6 (l.map Up.aw) gen 0])
 |0,hk=>by
  rw[dA hb];simp[vf,aj,iV]
 |k+1,hk=>by
  have hlt:k<l.length:=by omega
  have hx:l[k]?=some l[k]:=gG hlt;have e1:=λG=>t160 (G:=G) h l[k].ao l[k].Us l[k].n l[k].name (l[k].aY.map Ux) (l[k].to.map aq.aw);have e2:((k:Int)+1-1)=k:=by omega
  have e3:(0:Int)<(k:Int)+1:=by omega
  have e4:(k:Int)<=(k:Int)+1:=by omega
  have e5:(k:Int)<(k:Int)+1:=by omega
  rw[dA hb];by_cases hk0:l[k].ao=0
  ·have ih:=Lg (gen:=gen) (aV:=aV) h hb hl k (by omega);simp[vf,aj,iV,hx,Ur hk0,e1,e2,e3,e4,e5,hlt,hk,Up.aw,aS,cR (k:Int),jQ,gc,exp,aQ,UG,ih]
  ·simp[vf,aj,iV,hx,az hk0,e1,e2,e3,e4,e5,hlt,hk,Up.aw,aS,cR (k:Int)]
theorem NO (h:bY pg){n:aI}{i:Nat}{x:Up}(hl:n.ae.length<2 ^ 30)(hx:n.ae[i]?=some x)(hk:x.ao≠0) :
  E pg 147 [.ag [.p (.sl (n.ae.map Up.aw)),.p (.i .i64 n.aV)],.p (.i .i64 i)] []=some (.ret (.dF [.ag [.p (.sl ((n.free i).ae.map Up.aw)),.p (.i .i64 n.aV)],.p (.i .i64 0)]),[]):=by
 have h3:i<n.ae.length:=(gE hx).1;have h5:n.ae[i]=x:=(gE hx).2;have e1:=λG=>t160 (G:=G) h x.ao x.Us x.n x.name (x.aY.map Ux) (x.to.map aq.aw);have e2:(i:Int)<=(n.ae.length:Int)-1:=by omega
 have hL:=Lg (l:=n.ae.set i .zero) (gen:=1) (aV:=n.aV) h rfl (by simp;omega) n.ae.length (by simp);have hz:Up.zero.aw=[.i .i64 0,.i .i64 0,.i .i64 0,.s [],.sl [],.sl []]:=rfl;simp only[cz,hz]at hL;have e6:=sY (n.ae.set i .zero) n.ae.length;rw[h.run (x:=Je)];simp[Je,aj,t134 h,e1,e2,e6,h3,h5,hx,az hk,Up.aw,aS,cR ((n.ae.length:Int)-1),t172 h hl,cO,Vy,ee,gc,exp,aQ,UG,hL,aI.free,da,cz,show Up.zero.ao=0 from rfl,show Up.zero.Us=0 from rfl,show Up.zero.n=0 from rfl,show Up.zero.name=[] from rfl,show Up.zero.aY=[] from rfl,show Up.zero.to=[] from rfl]
theorem r9 {α:Type}{l:List α}{i:Nat}{a:α}(h:l[i]?=some a):l.set i a=l:=by
 obtain⟨h1,h2⟩:=gE h;subst h2;exact mZ h1
theorem t194 (h:bY pg){l:List Up}{id gen sl:Nat}(hl:l.length<2 ^ 40)(hG:G[id]?=some (.arr 6 (l.map Up.aw) gen sl)) :
  UM pg (E pg) 194 [.arr id l.length gen,.fn 160 [] []] G=some (.ret (.p (.i .i64 (dB (l.findIdx? λx=>decide (x.ao=0))))),G):=by
 have hlt:id<G.length:=(gE hG).1;have hk:bC pg 194=true:=h.bq (x:=Hd) rfl;unfold UM;rw[hk];simp only[aQ,exp,if_true,fI.id,eP,aL,aJ];have e2:UG (G.length+1) ⟨[id],G⟩ 0=some ([.arr 6 (l.map Up.aw) gen sl],⟨[id],G⟩):=by
  obtain⟨m,hm⟩:∃m,G.length=m+1:=⟨G.length-1,by omega⟩
  rw[hm];simp only[UG,List.getElem?_cons_zero,hG,aG,List.getElem?_cons_succ,List.getElem?_nil]
 rw[e2];dsimp only;rw[NN h hl];simp only[Out.back,back,b_,bD,av,aJ,fG,WU,au,UD,bp];rw[r9 hG]
theorem t193 (h:bY pg){l:List (List UInt8×Nat)}(hl:l.length<2 ^ 20):UM pg (E pg) 193 [.p (.sl (l.map Ux))] G=some (.ret (.p (.sl (l.map Ux))),G):=Ut (NF h hl) rfl rfl
theorem NP (h:bY pg){n:aI}{x:Up}(hl:n.ae.length<2 ^ 30)(hk:2<=x.ao)(hx:x.ok=true)(hp:x.bO<2 ^ 30)(hu:n.used<n.aV) :
  E pg 184 [.ag [.p (.sl (n.ae.map Up.aw)),.p (.i .i64 n.aV)],.ag [.p (.i .i64 x.ao),.p (.i .i64 x.Us),.p (.i .i64 x.n),.p (.s x.name),.p (.sl (x.aY.map Ux)),.p (.sl (x.to.map aq.aw))]] [] =
   some (.ret (.dF [.ag [.p (.sl ((n.make x).ae.map Up.aw)),.p (.i .i64 n.aV)],.p (.i .i64 n.cg),.p (.i .i64 0)]),[]):=by
 have hal:=Up.gS hx;have h5:=λG=>t135 (G:=G) h x.ao x.Us x.n x.name x.aY x.to (by omega);have h6:∀G,UM pg (E pg) 136 [.ag [.p (.i .i64 x.ao),.p (.i .i64 x.Us),.p (.i .i64 x.n),.p (.s x.name),.p (.sl (x.aY.map Ux)),.p (.sl (x.to.map aq.aw))]] G=some (.ret (.p (.i .i64 x.bO)),G):=λG=>t136 (G:=G) h x.ao x.Us x.n x.name x.aY x.to (by omega);have e0:((x.ao:Int)=0)=False:=cC;have e0':(x.ao=0)=False:=cC;have e1:((x.ao:Int)=1)=False:=cC;have e2:(n.aV<=n.used)=False:=cC;have e3:bZ x.bO 16=true:=by simp[bZ];omega
 have e4:bZ (n.ae.length+1) 88=true:=by simp[bZ];omega
 rw[h.run (x:=Hb)];have hpl:n.cg=(n.ae.findIdx? λx=>decide (x.ao=0)).getD n.ae.length:=rfl;cases hf:n.ae.findIdx? (λx=>decide (x.ao=0)) with
 |some k =>
  obtain⟨k1,_,_⟩:=List.findIdx?_eq_some_iff_getElem.1 hf;rw[hf]at hpl;have hpl':n.cg=k:=hpl;have e5:n.cg<n.ae.length:=by omega
  have e6:((k:Int)<0)=False:=cC;simp[Hb,aj,h5,h6,hx,e0,e0',e1,e2,e3,t143 h (show n.ae.length<2 ^ 40 by omega),(show bC pg 143=false from h.bq (x:=Ac) rfl),(show bC pg 136=false from h.bq (x:=wX) rfl),h.Ld,t172 h hl,t193 h (l:=x.aY) (by omega),aS,t194 h (show n.ae.length<2 ^ 40 by omega),hf,dB,mI,h.BM,h.quiet,qM,k1,e6,cO,Vy,ee,aI.make,e5,aq.aw,hpl',cz,Up.d_,Up.aw];rw[aF (by simp)]
 |none =>
  rw[hf]at hpl;have hpl':n.cg=n.ae.length:=hpl;have e7:¬ n.cg<n.ae.length:=by omega
  have e8:(-1:Int)<0:=by omega
  have e9:∀(a b c:Int) (s:List UInt8) (u v:List (List PV)),bH 6 [[.i .i64 a,.i .i64 b,.i .i64 c,.s s,.sl u,.sl v]]=true:=λ_ _ _ _ _ _=>rfl;have e11:(n.ae.length:Int)<(n.ae.length:Int)+1:=by omega
  have e10:(n.ae.map Up.aw).take n.ae.length=n.ae.map Up.aw:=aF (by simp);simp[Hb,aj,h5,h6,hx,e0,e0',e1,e2,e3,t143 h (show n.ae.length<2 ^ 40 by omega),(show bC pg 143=false from h.bq (x:=Ac) rfl),(show bC pg 136=false from h.bq (x:=wX) rfl),h.Ld,t172 h hl,t193 h (l:=x.aY) (by omega),aS,t194 h (show n.ae.length<2 ^ 40 by omega),hf,dB,mI,h.BM,h.quiet,qM,e8,e9,e10,e11,cX,Uu.Uv,e4,cO,Vy,ee,aI.make,aq.aw,hpl',cz,Up.d_,Up.aw];rw[aF (by simp)]
theorem NQ (h:bY pg)(k:Nat):E pg 154 [.p (.i .i64 k)] []=some (.ret (.p (.i .i64 (fY k))),[]):=by
 rw[h.run (x:=G5)];have hk:k=3\/k=9\/k=11\/k=12\/k=2\/k=8\/k=10\/k=13\/k=4\/k=5\/k=6\/k=7\/(k≠3/\k≠9/\k≠11/\k≠12/\k≠2/\k≠8/\k≠10/\k≠13/\k≠4/\k≠5/\k≠6/\k≠7):=by omega
 rcases hk with rfl|rfl|rfl|rfl|rfl|rfl|rfl|rfl|rfl|rfl|rfl|rfl|hk
 all_goals first
  |(simp[G5,aj,fY];done)
  |(obtain⟨a1,a2,a3,a4,a5,a6,a7,a8,a9,Cq,a11,Bl⟩:=hk
    have b1:¬ (k:Int)=3:=by omega
    have b2:¬ (k:Int)=9:=by omega
    have b3:¬ (k:Int)=11:=by omega
    have b4:¬ (k:Int)=12:=by omega
    have b5:¬ (k:Int)=2:=by omega
    have b6:¬ (k:Int)=8:=by omega
    have b7:¬ (k:Int)=10:=by omega
    have b8:¬ (k:Int)=13:=by omega
    have b9:¬ (k:Int)=4:=by omega
    have b10:¬ (k:Int)=5:=by omega
    have tO:¬ (k:Int)=6:=by omega
    have b12:¬ (k:Int)=7:=by omega
    simp[G5,aj,fY,a1,a2,a3,a4,a5,a6,a7,a8,a9,Cq,a11,Bl,b1,b2,b3,b4,b5,b6,b7,b8,b9,b10,tO,b12])
theorem t154 (h:bY pg)(k:Nat):UM pg (E pg) 154 [.p (.i .i64 k)] G=some (.ret (.p (.i .i64 (fY k))),G):=Ut (NQ h k) rfl rfl
theorem t156 (h:bY pg)(k:Nat)(K:Int)(hK:K=k):UM pg (E pg) 156 [.p (.i .i64 K)] G=some (.ret (.dF [.ag (bP (cF.plain k).aw),.p (.i .i64 0)]),G):=by
 subst hK;refine Ut ?_ rfl rfl;rw[h.run (x:=Jg)];simp[Jg,aj,cF.plain,cF.aw,Up.zero]
theorem t161 (h:bY pg)(x:Up)(hl:x.to.length<2 ^ 40):UM pg (E pg) 161 [.ag [.p (.i .i64 x.ao),.p (.i .i64 x.Us),.p (.i .i64 x.n),.p (.s x.name),.p (.sl (x.aY.map Ux)),.p (.sl (x.to.map aq.aw))]] G=some (.ret (.p (.i .i64 x.others)),G):=by
 refine Ut ?_ rfl rfl;rw[h.run (x:=nc)];simp[nc,aj,cR ((x.to.length:Int)-1),qL,Up.others];split<;>omega
theorem NR (h:bY pg)(u v:Nat)(U V:Int)(hU:U=u)(hV:V=v)(a b:Up):E pg 153 [.p (.i .i64 U),.p (.i .i64 V),.ptr 0 0,.ptr 1 0] [.box [.p (.i .i64 a.ao),.p (.i .i64 a.Us),.p (.i .i64 a.n),.p (.s a.name),.p (.sl (a.aY.map Ux)),.p (.sl (a.to.map aq.aw))],.box [.p (.i .i64 b.ao),.p (.i .i64 b.Us),.p (.i .i64 b.n),.p (.s b.name),.p (.sl (b.aY.map Ux)),.p (.sl (b.to.map aq.aw))]]=some (.ret (.p (.b (decide (fY a.ao=u) && decide (fY b.ao=v)))),[.box [.p (.i .i64 a.ao),.p (.i .i64 a.Us),.p (.i .i64 a.n),.p (.s a.name),.p (.sl (a.aY.map Ux)),.p (.sl (a.to.map aq.aw))],.box [.p (.i .i64 b.ao),.p (.i .i64 b.Us),.p (.i .i64 b.n),.p (.s b.name),.p (.sl (b.aY.map Ux)),.p (.sl (b.to.map aq.aw))]]):=by
 subst hU;subst hV;rw[h.run (x:=E3)];by_cases h1:fY a.ao=u
 ·simp[E3,aj,t154 h,dn,Ur h1]
 ·simp[E3,aj,t154 h,dn,az h1]
theorem NS (h:bY pg)(u:Nat)(U:Int)(hU:U=u)(a b:Up):E pg 155 [.p (.i .i64 U),.ptr 0 0,.ptr 1 0] [.box [.p (.i .i64 a.ao),.p (.i .i64 a.Us),.p (.i .i64 a.n),.p (.s a.name),.p (.sl (a.aY.map Ux)),.p (.sl (a.to.map aq.aw))],.box [.p (.i .i64 b.ao),.p (.i .i64 b.Us),.p (.i .i64 b.n),.p (.s b.name),.p (.sl (b.aY.map Ux)),.p (.sl (b.to.map aq.aw))]]=some (.ret (.p (.b (decide (fY a.ao=u) || decide (fY b.ao=u)))),[.box [.p (.i .i64 a.ao),.p (.i .i64 a.Us),.p (.i .i64 a.n),.p (.s a.name),.p (.sl (a.aY.map Ux)),.p (.sl (a.to.map aq.aw))],.box [.p (.i .i64 b.ao),.p (.i .i64 b.Us),.p (.i .i64 b.n),.p (.s b.name),.p (.sl (b.aY.map Ux)),.p (.sl (b.to.map aq.aw))]]):=by
 subst hU;rw[h.run (x:=E4)];by_cases h1:fY a.ao=u
 ·simp[E4,aj,t154 h,dn,Ur h1]
 ·simp[E4,aj,t154 h,dn,az h1]
theorem t158 (h:bY pg)(x y:Up)(hx:x.Us<=60)(hy:y.Us<=60):UM pg (E pg) 158 [.ag [.p (.i .i64 x.ao),.p (.i .i64 x.Us),.p (.i .i64 x.n),.p (.s x.name),.p (.sl (x.aY.map Ux)),.p (.sl (x.to.map aq.aw))],.ag [.p (.i .i64 y.ao),.p (.i .i64 y.Us),.p (.i .i64 y.n),.p (.s y.name),.p (.sl (y.aY.map Ux)),.p (.sl (y.to.map aq.aw))]] G=some (.ret (.dF [.ag (bP (dD x y).1.aw),.p (.i .i64 (dD x y).2)]),G):=by
 refine Ut ?_ rfl rfl;rw[h.run (x:=yI)];by_cases h1:y.Us<=x.Us
 ·by_cases h5:x.ao=5
  ·have a5:((x.ao:Int)=5)=True:=mA;simp[yI,aj,a5,h1,cR ((y.Us:Int)-1),dD,cF.plain,cF.aw,Up.zero]
  ·have a5:((x.ao:Int)=5)=False:=cC;by_cases h6:x.ao=6
   ·have a6:((x.ao:Int)=6)=True:=mA;simp[yI,aj,a5,a6,h1,cR ((y.Us:Int)+1),dD,cF.plain,cF.aw,Up.zero]
   ·have a6:((x.ao:Int)=6)=False:=cC;simp[yI,aj,a5,a6,h1,dD,cF.plain,cF.aw,Up.zero]
 ·by_cases h5:x.ao=5
  ·have a5:((x.ao:Int)=5)=True:=mA;have b1:¬ (60:Int)<(y.Us:Int)-1:=by omega
   have b2:¬ 60<y.Us-1:=by omega
   have b3:(y.Us:Int)-1=((y.Us-1:Nat):Int):=by omega
   simp[yI,aj,a5,Ur h5,h1,cR ((y.Us:Int)-1),b1,b2,dD,j7,cF.plain,cF.aw,Up.zero];omega
  ·have a5:((x.ao:Int)=5)=False:=cC;by_cases h6:x.ao=6
   ·have a6:((x.ao:Int)=6)=True:=mA;by_cases h7:60<y.Us+1
    ·have a7:(60:Int)<(y.Us:Int)+1:=by omega
     simp[yI,aj,a5,a6,az h5,Ur h6,h1,h7,a7,cR ((y.Us:Int)+1),dD,j7,cF.plain,cF.aw,Up.zero]
    ·have a7:¬ (60:Int)<(y.Us:Int)+1:=by omega
     simp[yI,aj,a5,a6,az h5,Ur h6,h1,h7,a7,cR ((y.Us:Int)+1),dD,j7,cF.plain,cF.aw,Up.zero]
   ·have a6:((x.ao:Int)=6)=False:=cC;have a7:¬ (60:Int)<(y.Us:Int):=by omega
    have a8:¬ 60<y.Us:=by omega
    simp[yI,aj,a5,a6,a7,a8,az h5,az h6,h1,dD,j7,cF.plain,cF.aw,Up.zero]
theorem t157 (h:bY pg)(p:cF)(e:Nat):UM pg (E pg) 157 [.ag [.p (.i .i64 p.ao),.p (.b p.swap),.p (.i .i64 p.Us),.p (.i .i64 p.alt),.p (.i .i64 p.aD.ao),.p (.i .i64 p.aD.Us),.p (.i .i64 p.aD.n),.p (.s p.aD.name),.p (.sl (p.aD.aY.map Ux)),.p (.sl (p.aD.to.map aq.aw))],.p (.i .i64 e)] G=some (.ret (.dF [.ag (bP (fU (p,e)).1.aw),.p (.i .i64 (fU (p,e)).2)]),G):=by
 refine Ut ?_ rfl rfl;rw[h.run (x:=G6)];by_cases h1:e=0
 ·subst h1;simp[G6,aj,fU,cF.aw]
 ·have h2:¬ (e:Int)=0:=by omega
  simp[G6,aj,fU,cF.aw,h1,h2]
theorem NT (h:bY pg)(c:List UInt8×Nat)(y:Up)(hl:y.to.length<2 ^ 40):E pg 188 [.ag [.p (.s c.1),.p (.i .i64 c.2)],.ptr 0 0] [.box [.p (.i .i64 y.ao),.p (.i .i64 y.Us),.p (.i .i64 y.n),.p (.s y.name),.p (.sl (y.aY.map Ux)),.p (.sl (y.to.map aq.aw))]]=some (.ret (.p (.b (decide (c.1=y.name) && decide (c.2+1=y.to.length)))),[.box [.p (.i .i64 y.ao),.p (.i .i64 y.Us),.p (.i .i64 y.n),.p (.s y.name),.p (.sl (y.aY.map Ux)),.p (.sl (y.to.map aq.aw))]]):=by
 rw[h.run (x:=E9)];by_cases h1:c.1=y.name
 ·by_cases h2:c.2+1=y.to.length
  ·have h3:(c.2:Int)=(y.to.length:Int)-1:=by omega
   simp[E9,aj,Ur h1,Ur h2,Ur h3,cR ((y.to.length:Int)-1)]
  ·have h3:¬ (c.2:Int)=(y.to.length:Int)-1:=by omega
   simp[E9,aj,Ur h1,h2,h3,cR ((y.to.length:Int)-1)]
 ·simp[E9,aj,h1]
theorem Lh (h:bY pg)(x y:Up)(hl:y.to.length<2 ^ 40)(ha:x.aY.length<2 ^ 40):E pg 187 [.p (.sl (x.aY.map Ux)),.fn 188 [] [.ptr 0 0]] [.box [.p (.i .i64 y.ao),.p (.i .i64 y.Us),.p (.i .i64 y.n),.p (.s y.name),.p (.sl (y.aY.map Ux)),.p (.sl (y.to.map aq.aw))]]=some (.ret (.p (.i .i64 (dB (ng x y)))),[.box [.p (.i .i64 y.ao),.p (.i .i64 y.Us),.p (.i .i64 y.n),.p (.s y.name),.p (.sl (y.aY.map Ux)),.p (.sl (y.to.map aq.aw))]]):=by
 have h1:=K8 (G:=[.box [.p (.i .i64 y.ao),.p (.i .i64 y.Us),.p (.i .i64 y.n),.p (.s y.name),.p (.sl (y.aY.map Ux)),.p (.sl (y.to.map aq.aw))]]) h (f:=188) (first:=[]) (aV:=[.ptr 0 0]) (ay:=x.aY.map Ux) (q:=λrow=>match row with|[.s a,.i _ m]=>decide (a=y.name) && decide (m+1=y.to.length)|_=>false) (by simpa using ha) rfl rfl (oq Fv x.aY) (by
  intro row hr;obtain⟨b,_,rfl⟩:=bj.1 hr;have e:decide ((b.2:Int)+1=y.to.length)=decide (b.2+1=y.to.length):=by
   rw[decide_eq_decide];omega
  simp[Ux,bP,UM,gc,exp,aQ,UG,NT h b y hl,Out.back,back,dh,UL,bD,b_,e])
 have h2:(x.aY.map Ux).findIdx? (λrow=>match row with|[.s a,.i _ m]=>decide (a=y.name) && decide (m+1=y.to.length)|_=>false)=ng x y:=by
  rw[List.findIdx?_map];unfold ng
  congr 1
  funext a;simp only[Function.comp,Ux]
  congr 1
  rw[decide_eq_decide];omega
 rw[h2]at h1;exact h1
theorem t176 (h:bY pg)(x y:Up)(hl:y.to.length<2 ^ 40)(ha:x.aY.length<2 ^ 40):UM pg (E pg) 176 [.ag [.p (.i .i64 x.ao),.p (.i .i64 x.Us),.p (.i .i64 x.n),.p (.s x.name),.p (.sl (x.aY.map Ux)),.p (.sl (x.to.map aq.aw))],.ag [.p (.i .i64 y.ao),.p (.i .i64 y.Us),.p (.i .i64 y.n),.p (.s y.name),.p (.sl (y.aY.map Ux)),.p (.sl (y.to.map aq.aw))]] G=some (.ret (.dF [.ag (bP (jx x y).1.aw),.p (.i .i64 (jx x y).2)]),G):=by
 refine Ut ?_ rfl rfl;rw[h.run (x:=E6)];have h1:=Lh h x y hl ha;have h2:=t156 (G:=[.box [.p (.i .i64 x.ao),.p (.i .i64 x.Us),.p (.i .i64 x.n),.p (.s x.name),.p (.sl (x.aY.map Ux)),.p (.sl (x.to.map aq.aw))],.box [.p (.i .i64 y.ao),.p (.i .i64 y.Us),.p (.i .i64 y.n),.p (.s y.name),.p (.sl (y.aY.map Ux)),.p (.sl (y.to.map aq.aw))],.box [.p (.i .i64 0),.p (.b false),.p (.i .i64 0),.p (.i .i64 0),.p (.i .i64 0),.p (.i .i64 0),.p (.i .i64 0),.p (.s []),.aC,.aC]]) h 5 5 rfl;by_cases h3:x.Us=y.Us
 ·have h4:(x.Us:Int)=y.Us:=by omega
  cases hp:ng x y with
  |none =>
   rw[hp]at h1;have h5:UM pg (E pg) 187 [.p (.sl (x.aY.map Ux)),.fn 188 [] [.ptr 1 0]] [.box [.p (.i .i64 x.ao),.p (.i .i64 x.Us),.p (.i .i64 x.n),.p (.s x.name),.p (.sl (x.aY.map Ux)),.p (.sl (x.to.map aq.aw))],.box [.p (.i .i64 y.ao),.p (.i .i64 y.Us),.p (.i .i64 y.n),.p (.s y.name),.p (.sl (y.aY.map Ux)),.p (.sl (y.to.map aq.aw))],.box [.p (.i .i64 0),.p (.b false),.p (.i .i64 0),.p (.i .i64 0),.p (.i .i64 0),.p (.i .i64 0),.p (.i .i64 0),.p (.s []),.aC,.aC]]=some (.ret (.p (.i .i64 (-1))),[.box [.p (.i .i64 x.ao),.p (.i .i64 x.Us),.p (.i .i64 x.n),.p (.s x.name),.p (.sl (x.aY.map Ux)),.p (.sl (x.to.map aq.aw))],.box [.p (.i .i64 y.ao),.p (.i .i64 y.Us),.p (.i .i64 y.n),.p (.s y.name),.p (.sl (y.aY.map Ux)),.p (.sl (y.to.map aq.aw))],.box [.p (.i .i64 0),.p (.b false),.p (.i .i64 0),.p (.i .i64 0),.p (.i .i64 0),.p (.i .i64 0),.p (.i .i64 0),.p (.s []),.aC,.aC]]):=by
    simp[UM,gc,exp,aQ,UG,h1,Out.back,back,dh,UL,bD,b_,(show bC pg 187=false from h.bq (x:=DR) rfl),dB]
   simp[E6,aj,Ur h3,Ur h4,h5,h2,cF.aw,jx,hp]
  |some k =>
   rw[hp]at h1;have h5:UM pg (E pg) 187 [.p (.sl (x.aY.map Ux)),.fn 188 [] [.ptr 1 0]] [.box [.p (.i .i64 x.ao),.p (.i .i64 x.Us),.p (.i .i64 x.n),.p (.s x.name),.p (.sl (x.aY.map Ux)),.p (.sl (x.to.map aq.aw))],.box [.p (.i .i64 y.ao),.p (.i .i64 y.Us),.p (.i .i64 y.n),.p (.s y.name),.p (.sl (y.aY.map Ux)),.p (.sl (y.to.map aq.aw))],.box [.p (.i .i64 0),.p (.b false),.p (.i .i64 0),.p (.i .i64 0),.p (.i .i64 0),.p (.i .i64 0),.p (.i .i64 0),.p (.s []),.aC,.aC]]=some (.ret (.p (.i .i64 k)),[.box [.p (.i .i64 x.ao),.p (.i .i64 x.Us),.p (.i .i64 x.n),.p (.s x.name),.p (.sl (x.aY.map Ux)),.p (.sl (x.to.map aq.aw))],.box [.p (.i .i64 y.ao),.p (.i .i64 y.Us),.p (.i .i64 y.n),.p (.s y.name),.p (.sl (y.aY.map Ux)),.p (.sl (y.to.map aq.aw))],.box [.p (.i .i64 0),.p (.b false),.p (.i .i64 0),.p (.i .i64 0),.p (.i .i64 0),.p (.i .i64 0),.p (.i .i64 0),.p (.s []),.aC,.aC]]):=by
    simp[UM,gc,exp,aQ,UG,h1,Out.back,back,dh,UL,bD,b_,(show bC pg 187=false from h.bq (x:=DR) rfl),dB]
   have h6:¬ (k:Int)<0:=by omega
   simp[E6,aj,Ur h3,Ur h4,h5,h6,cF.aw,jx,hp,Up.zero]
 ·have h4:¬ (x.Us:Int)=y.Us:=by omega
  simp[E6,aj,h3,h4,cF.aw,jx,cF.plain,Up.zero]
theorem t189 (h:bY pg)(b:Bool):UM pg (E pg) 189 [.p (.b b)] G=some (.ret (.ag (bP (qy b).aw)),G):=by
 refine Ut ?_ rfl rfl;rw[h.run (x:=Js)];cases b<;>simp[Js,aj,bZ,aS,qy,Up.aw,aq.aw,Ux]
theorem t177 (h:bY pg)(x y:Up)(hx:x.Us<=60):UM pg (E pg) 177 [.ag [.p (.i .i64 x.ao),.p (.i .i64 x.Us),.p (.i .i64 x.n),.p (.s x.name),.p (.sl (x.aY.map Ux)),.p (.sl (x.to.map aq.aw))],.ag [.p (.i .i64 y.ao),.p (.i .i64 y.Us),.p (.i .i64 y.n),.p (.s y.name),.p (.sl (y.aY.map Ux)),.p (.sl (y.to.map aq.aw))]] G=some (.ret (.dF [.ag (bP (VK x y).1.aw),.p (.i .i64 (VK x y).2)]),G):=by
 refine Ut ?_ rfl rfl;rw[h.run (x:=wY)];by_cases h1:x.name=[43]
 ·simp[wY,aj,h1,VK,Vf,fg,cF.aw]
 ·by_cases h2:x.name=[45]
  ·simp[wY,aj,h2,VK,Vf,fg,cF.aw]
  ·by_cases h3:x.name=[42]
   ·simp[wY,aj,h3,VK,Vf,fg,cF.aw]
   ·by_cases h4:x.name=[47]
    ·by_cases h7:y.n=0
     ·have h8:=λG=>t156 (G:=G) h 5 5 rfl;simp[wY,aj,h4,h7,h8,VK,Vf,fg,cF.aw]
     ·simp[wY,aj,h4,h7,VK,Vf,fg,cF.aw]
    ·by_cases h5:x.name=[60]
     ·simp[wY,aj,h5,t189 h,VK,Vf,fg,cF.aw,Up.aw]
     ·by_cases h6:x.name=[61,61]
      ·simp[wY,aj,h6,t189 h,VK,Vf,fg,cF.aw,Up.aw]
      ·simp[wY,aj,h1,h2,h3,h4,h5,h6,VK,Vf,fg,cF.aw]
theorem t159 (h:bY pg)(x y:Up)(hx:x.Us<=60)(hl:y.to.length<2 ^ 40)(ha:x.aY.length<2 ^ 40):UM pg (E pg) 159 [.ag [.p (.i .i64 x.ao),.p (.i .i64 x.Us),.p (.i .i64 x.n),.p (.s x.name),.p (.sl (x.aY.map Ux)),.p (.sl (x.to.map aq.aw))],.ag [.p (.i .i64 y.ao),.p (.i .i64 y.Us),.p (.i .i64 y.n),.p (.s y.name),.p (.sl (y.aY.map Ux)),.p (.sl (y.to.map aq.aw))]] G=some (.ret (.dF [.ag (bP (fi x y).1.aw),.p (.i .i64 (fi x y).2)]),G):=by
 refine Ut ?_ rfl rfl;rw[h.run (x:=Ad)];have p1:=λG=>t156 (G:=G) h 1 1 rfl;have p3:=λG=>t156 (G:=G) h 3 3 rfl;have p5:=λG=>t156 (G:=G) h 5 5 rfl;by_cases a0:x.ao=3/\y.ao=2
 ·have b0:(decide ((x.ao:Int)=3) && decide ((y.ao:Int)=2))=true:=by simp;omega
  by_cases c:x.Us=y.Us
  ·have c':(x.Us:Int)=y.Us:=by omega
   simp[Ad,aj,b0,Ur a0,Ur c,Ur c',p1,cF.aw,fi]
  ·have c':¬ (x.Us:Int)=y.Us:=by omega
   simp[Ad,aj,b0,Ur a0,c,c',cF.aw,cF.plain,Up.zero,fi]
 ·have b0:(decide ((x.ao:Int)=3) && decide ((y.ao:Int)=2))=false:=by simp;omega
  by_cases a1:x.ao=9/\y.ao=8
  ·have b1:(decide ((x.ao:Int)=9) && decide ((y.ao:Int)=8))=true:=by simp;omega
   simp[Ad,aj,b0,b1,Ur a1,az a0,t176 h x y hl ha,cF.aw,fi]
  ·have b1:(decide ((x.ao:Int)=9) && decide ((y.ao:Int)=8))=false:=by simp;omega
   by_cases a2:x.ao=11/\y.ao=10
   ·have b2:(decide ((x.ao:Int)=11) && decide ((y.ao:Int)=10))=true:=by simp;omega
    simp[Ad,aj,b0,b1,b2,Ur a2,az a0,az a1,p3,cF.aw,fi]
   ·have b2:(decide ((x.ao:Int)=11) && decide ((y.ao:Int)=10))=false:=by simp;omega
    by_cases a3:x.ao=12/\y.ao=10
    ·have b3:(decide ((x.ao:Int)=12) && decide ((y.ao:Int)=10))=true:=by simp;omega
     simp[Ad,aj,b0,b1,b2,b3,Ur a3,az a0,az a1,az a2,t177 h x y hx,cF.aw,fi]
    ·have b3:(decide ((x.ao:Int)=12) && decide ((y.ao:Int)=10))=false:=by simp;omega
     simp[Ad,aj,b0,b1,b2,b3,az a0,az a1,az a2,az a3,p5,cF.aw,fi]
theorem BQ (h:bY pg)(a b:Up)(R:fE):UM pg (E pg) 155 [.p (.i .i64 0),.ptr 0 0,.ptr 1 0] [.box [.p (.i .i64 a.ao),.p (.i .i64 a.Us),.p (.i .i64 a.n),.p (.s a.name),.p (.sl (a.aY.map Ux)),.p (.sl (a.to.map aq.aw))],.box [.p (.i .i64 b.ao),.p (.i .i64 b.Us),.p (.i .i64 b.n),.p (.s b.name),.p (.sl (b.aY.map Ux)),.p (.sl (b.to.map aq.aw))],R]=some (.ret (.p (.b (decide (fY a.ao=0) || decide (fY b.ao=0)))),[.box [.p (.i .i64 a.ao),.p (.i .i64 a.Us),.p (.i .i64 a.n),.p (.s a.name),.p (.sl (a.aY.map Ux)),.p (.sl (a.to.map aq.aw))],.box [.p (.i .i64 b.ao),.p (.i .i64 b.Us),.p (.i .i64 b.n),.p (.s b.name),.p (.sl (b.aY.map Ux)),.p (.sl (b.to.map aq.aw))],R]):=by
 simp[UM,gc,exp,aQ,UG,NS h 0 0 rfl,Out.back,back,dh,UL,bD,b_,(show bC pg 155=false from h.bq (x:=E4) rfl)]
theorem Jw (h:bY pg)(u v:Nat)(U V:Int)(hU:U=u)(hV:V=v)(a b:Up)(R:fE):UM pg (E pg) 153 [.p (.i .i64 U),.p (.i .i64 V),.ptr 0 0,.ptr 1 0] [.box [.p (.i .i64 a.ao),.p (.i .i64 a.Us),.p (.i .i64 a.n),.p (.s a.name),.p (.sl (a.aY.map Ux)),.p (.sl (a.to.map aq.aw))],.box [.p (.i .i64 b.ao),.p (.i .i64 b.Us),.p (.i .i64 b.n),.p (.s b.name),.p (.sl (b.aY.map Ux)),.p (.sl (b.to.map aq.aw))],R]=some (.ret (.p (.b (decide (fY a.ao=u) && decide (fY b.ao=v)))),[.box [.p (.i .i64 a.ao),.p (.i .i64 a.Us),.p (.i .i64 a.n),.p (.s a.name),.p (.sl (a.aY.map Ux)),.p (.sl (a.to.map aq.aw))],.box [.p (.i .i64 b.ao),.p (.i .i64 b.Us),.p (.i .i64 b.n),.p (.s b.name),.p (.sl (b.aY.map Ux)),.p (.sl (b.to.map aq.aw))],R]):=by
 simp[UM,gc,exp,aQ,UG,NR h u v U V hU hV,Out.back,back,dh,UL,bD,b_,(show bC pg 153=false from h.bq (x:=E3) rfl)]
theorem yV (k:Nat):fY k<=4:=by
 unfold fY;split
 ·omega
 ·split
  ·omega
  ·split
   ·omega
   ·split<;>omega
theorem Jx {k c:Nat}(h:fY k=c):((fY k=0)=(c=0)/\(fY k=1)=(c=1)/\(fY k=2)=(c=2)/\(fY k=3)=(c=3)/\(fY k=4)=(c=4))/\(((fY k:Int)=0)=(c=0)/\((fY k:Int)=1)=(c=1)/\((fY k:Int)=2)=(c=2)/\((fY k:Int)=3)=(c=3)/\((fY k:Int)=4)=(c=4)):=by
 subst h;refine⟨⟨rfl,rfl,rfl,rfl,rfl⟩,propext ?_,propext ?_,propext ?_,propext ?_,propext ?_⟩<;>omega
set_option maxHeartbeats 2000000 in
theorem t142 (h:bY pg)(a b:Up)(hxa:a.Us<=60)(hxb:b.Us<=60)(hla:a.to.length<2 ^ 40)(hlb:b.to.length<2 ^ 40)(haa:a.aY.length<2 ^ 40)(hab:b.aY.length<2 ^ 40) :
  UM pg (E pg) 142 [.ag [.p (.i .i64 a.ao),.p (.i .i64 a.Us),.p (.i .i64 a.n),.p (.s a.name),.p (.sl (a.aY.map Ux)),.p (.sl (a.to.map aq.aw))],.ag [.p (.i .i64 b.ao),.p (.i .i64 b.Us),.p (.i .i64 b.n),.p (.s b.name),.p (.sl (b.aY.map Ux)),.p (.sl (b.to.map aq.aw))]] G=some (.ret (.dF [.ag (bP (aX a b).1.aw),.p (.i .i64 (aX a b).2)]),G):=by
 refine Ut ?_ rfl rfl;rw[h.run (x:=yG)];have p8:=λG=>t156 (G:=G) h 8 8 rfl;have p6:=λG=>t156 (G:=G) h 6 6 rfl;have q33:=λR=>Jw h 3 3 3 3 rfl rfl a b R;have q12:=λR=>Jw h 1 2 1 2 rfl rfl a b R;have q21:=λR=>Jw h 2 1 2 1 rfl rfl a b R;have hca:=yV a.ao;have hcb:=yV b.ao;have w8:=λG=>t157 (G:=G) h (.plain 8) 0;have wab:=λG=>t157 (G:=G) h (dD a b).1 (dD a b).2;have wba:=λG=>t157 (G:=G) h (dD b a).1 (dD b a).2;have vba:=λG=>t157 (G:=G) h (fi b a).1 (fi b a).2;rw[fW]at w8;have hca':fY a.ao=0\/fY a.ao=1\/fY a.ao=2\/fY a.ao=3\/fY a.ao=4:=by omega
 have hcb':fY b.ao=0\/fY b.ao=1\/fY b.ao=2\/fY b.ao=3\/fY b.ao=4:=by omega
 have g1i:((a.Us:Int)=b.Us)=(a.Us=b.Us):=propext (by omega);have g2i:((a.Us:Int)<=b.Us)=(a.Us<=b.Us):=propext (by omega);have g3i:((a.ao:Int)=b.ao)=(a.ao=b.ao):=propext (by omega);rcases hca' with ha|ha|ha|ha|ha
 ·have fa:=Jx ha;simp[yG,aj,BQ h,t154 h,q33,q12,q21,p8,p6,w8,wba,vba,t158 h _ _ hxa hxb,t158 h _ _ hxb hxa,t159 h a b hxa hlb haa,t159 h b a hxb hla hab,cF.aw,aX,cF.plain,Up.zero,fa]
 all_goals
  have fa:=Jx ha;rcases hcb' with hb|hb|hb|hb|hb
  all_goals
   have fb:=Jx hb
   first
   |simp[yG,aj,BQ h,t154 h,q33,q12,q21,p8,p6,w8,wba,vba,t158 h _ _ hxa hxb,t158 h _ _ hxb hxa,t159 h a b hxa hlb haa,t159 h b a hxb hla hab,cF.aw,aX,fa,fb,cF.plain,Up.zero];done
   |simp[yG,aj,BQ h,t154 h,q33,q12,q21,p8,p6,w8,wba,vba,t158 h _ _ hxa hxb,t158 h _ _ hxb hxa,t159 h a b hxa hlb haa,t159 h b a hxb hla hab,cF.aw,aX,fa,fb];done
   |by_cases g1:a.Us=b.Us
    ·have g2:a.Us<=b.Us:=by omega
     by_cases g3:a.ao=b.ao
     ·simp[yG,aj,BQ h,t154 h,q33,q12,q21,p8,p6,w8,wba,vba,t158 h _ _ hxa hxb,t158 h _ _ hxb hxa,t159 h a b hxa hlb haa,t159 h b a hxb hla hab,cF.aw,aX,fa,fb,g1i,g2i,g3i,Ur g1,Ur g2,Ur g3]
     ·simp[yG,aj,BQ h,t154 h,q33,q12,q21,p8,p6,w8,wba,vba,t158 h _ _ hxa hxb,t158 h _ _ hxb hxa,t159 h a b hxa hlb haa,t159 h b a hxb hla hab,cF.aw,aX,fa,fb,g1i,g2i,g3i,Ur g1,Ur g2,g3]
    ·by_cases g2:a.Us<=b.Us
     ·simp[yG,aj,BQ h,t154 h,q33,q12,q21,p8,p6,w8,wba,vba,t158 h _ _ hxa hxb,t158 h _ _ hxb hxa,t159 h a b hxa hlb haa,t159 h b a hxb hla hab,cF.aw,aX,fa,fb,g1i,g2i,g1,Ur g2]
     ·simp[yG,aj,BQ h,t154 h,q33,q12,q21,p8,p6,w8,wba,vba,t158 h _ _ hxa hxb,t158 h _ _ hxb hxa,t159 h a b hxa hlb haa,t159 h b a hxb hla hab,cF.aw,aX,fa,fb,g1i,g2i,g1,g2]
theorem t144 (h:bY pg)(p:cF)(a b:Up)(hla:a.to.length<2 ^ 40)(hlb:b.to.length<2 ^ 40)(haa:a.aY.length<2 ^ 40)(hab:b.aY.length<2 ^ 40)(hca:∀c,c∈a.aY->c.2<2 ^ 40)(hcb:∀c,c∈b.aY->c.2<2 ^ 40) :
  UM pg (E pg) 144 [.ag [.p (.i .i64 p.ao),.p (.b p.swap),.p (.i .i64 p.Us),.p (.i .i64 p.alt),.p (.i .i64 p.aD.ao),.p (.i .i64 p.aD.Us),.p (.i .i64 p.aD.n),.p (.s p.aD.name),.p (.sl (p.aD.aY.map Ux)),.p (.sl (p.aD.to.map aq.aw))],.ag [.p (.i .i64 a.ao),.p (.i .i64 a.Us),.p (.i .i64 a.n),.p (.s a.name),.p (.sl (a.aY.map Ux)),.p (.sl (a.to.map aq.aw))],.ag [.p (.i .i64 b.ao),.p (.i .i64 b.Us),.p (.i .i64 b.n),.p (.s b.name),.p (.sl (b.aY.map Ux)),.p (.sl (b.to.map aq.aw))]] G=some (.ret (.p (.i .i64 (p.VB a b))),G):=by
 refine Ut ?_ rfl rfl;rw[h.run (x:=lZ)];have hk:p.ao=2\/p.ao=3\/p.ao=4\/p.ao=5\/p.ao=7\/p.ao=8\/(p.ao≠2/\p.ao≠3/\p.ao≠4/\p.ao≠5/\p.ao≠7/\p.ao≠8):=by omega
 cases hs:p.swap
 ·rcases hk with hk|hk|hk|hk|hk|hk|hk
  ·have f2:(p.ao=2)=True:=mA;have f2i:((p.ao:Int)=2)=True:=mA;have f3:(p.ao=3)=False:=cC;have f3i:((p.ao:Int)=3)=False:=cC;have f4:(p.ao=4)=False:=cC;have f4i:((p.ao:Int)=4)=False:=cC;have f5:(p.ao=5)=False:=cC;have f5i:((p.ao:Int)=5)=False:=cC;have f7:(p.ao=7)=False:=cC;have f7i:((p.ao:Int)=7)=False:=cC;have f8:(p.ao=8)=False:=cC;have f8i:((p.ao:Int)=8)=False:=cC;have g0:¬ (p.alt:Int)<0:=by omega
   cases hc:a.aY[p.alt]? with
   |none =>
    have g1:a.aY.length<=p.alt:=List.getElem?_eq_none_iff.1 hc;have g2:(a.aY.length:Int)<=p.alt:=by omega
    simp[lZ,aj,hs,t161 h a hla,t161 h b hlb,(show bC pg 161=false from h.bq (x:=nc) rfl),cF.VB,show Nat.beq 2 3=false from rfl,show Nat.beq 1 3=false from rfl,f2,f2i,f3,f3i,f4,f4i,f5,f5i,f7,f7i,f8,f8i,g0,Ur g1,Ur g2,hc]
   |some c =>
    have g1:¬ a.aY.length<=p.alt:=by have:=(gE hc).1;omega
    have g2:¬ (a.aY.length:Int)<=p.alt:=by omega
    have g3:=hca c (aE hc);simp[lZ,aj,hs,t161 h a hla,t161 h b hlb,(show bC pg 161=false from h.bq (x:=nc) rfl),cF.VB,show Nat.beq 2 3=false from rfl,show Nat.beq 1 3=false from rfl,f2,f2i,f3,f3i,f4,f4i,f5,f5i,f7,f7i,f8,f8i,g0,g1,g2,hc,Ux,aS,cR ((c.2:Int)+a.aY.length),cR ((c.2:Int)+a.aY.length-1)];omega
  ·have f2:(p.ao=2)=False:=cC;have f2i:((p.ao:Int)=2)=False:=cC;have f3:(p.ao=3)=True:=mA;have f3i:((p.ao:Int)=3)=True:=mA;have f4:(p.ao=4)=False:=cC;have f4i:((p.ao:Int)=4)=False:=cC;have f5:(p.ao=5)=False:=cC;have f5i:((p.ao:Int)=5)=False:=cC;have f7:(p.ao=7)=False:=cC;have f7i:((p.ao:Int)=7)=False:=cC;have f8:(p.ao=8)=False:=cC;have f8i:((p.ao:Int)=8)=False:=cC;simp[lZ,aj,hs,t161 h a hla,t161 h b hlb,(show bC pg 161=false from h.bq (x:=nc) rfl),cF.VB,show Nat.beq 2 3=false from rfl,show Nat.beq 1 3=false from rfl,f2,f2i,f3,f3i,f4,f4i,f5,f5i,f7,f7i,f8,f8i]
  ·have f2:(p.ao=2)=False:=cC;have f2i:((p.ao:Int)=2)=False:=cC;have f3:(p.ao=3)=False:=cC;have f3i:((p.ao:Int)=3)=False:=cC;have f4:(p.ao=4)=True:=mA;have f4i:((p.ao:Int)=4)=True:=mA;have f5:(p.ao=5)=False:=cC;have f5i:((p.ao:Int)=5)=False:=cC;have f7:(p.ao=7)=False:=cC;have f7i:((p.ao:Int)=7)=False:=cC;have f8:(p.ao=8)=False:=cC;have f8i:((p.ao:Int)=8)=False:=cC;simp[lZ,aj,hs,t161 h a hla,t161 h b hlb,(show bC pg 161=false from h.bq (x:=nc) rfl),cF.VB,show Nat.beq 2 3=false from rfl,show Nat.beq 1 3=false from rfl,f2,f2i,f3,f3i,f4,f4i,f5,f5i,f7,f7i,f8,f8i]
  ·have f2:(p.ao=2)=False:=cC;have f2i:((p.ao:Int)=2)=False:=cC;have f3:(p.ao=3)=False:=cC;have f3i:((p.ao:Int)=3)=False:=cC;have f4:(p.ao=4)=False:=cC;have f4i:((p.ao:Int)=4)=False:=cC;have f5:(p.ao=5)=True:=mA;have f5i:((p.ao:Int)=5)=True:=mA;have f7:(p.ao=7)=False:=cC;have f7i:((p.ao:Int)=7)=False:=cC;have f8:(p.ao=8)=False:=cC;have f8i:((p.ao:Int)=8)=False:=cC;have o1:a.others<2 ^ 40:=by unfold Up.others;omega
   have o2:b.others<2 ^ 40:=by unfold Up.others;omega
   have o3:qL ((a.others:Int)-1) 0=((a.others-1:Nat):Int):=by unfold qL;split<;>omega
   simp[lZ,aj,hs,t161 h a hla,t161 h b hlb,(show bC pg 161=false from h.bq (x:=nc) rfl),cF.VB,show Nat.beq 2 3=false from rfl,show Nat.beq 1 3=false from rfl,f2,f2i,f3,f3i,f4,f4i,f5,f5i,f7,f7i,f8,f8i,cR ((a.others:Int)-1),o3,cR (1+((a.others-1:Nat):Int)),cR (1+((a.others-1:Nat):Int)+b.others)]
  ·have f2:(p.ao=2)=False:=cC;have f2i:((p.ao:Int)=2)=False:=cC;have f3:(p.ao=3)=False:=cC;have f3i:((p.ao:Int)=3)=False:=cC;have f4:(p.ao=4)=False:=cC;have f4i:((p.ao:Int)=4)=False:=cC;have f5:(p.ao=5)=False:=cC;have f5i:((p.ao:Int)=5)=False:=cC;have f7:(p.ao=7)=True:=mA;have f7i:((p.ao:Int)=7)=True:=mA;have f8:(p.ao=8)=False:=cC;have f8i:((p.ao:Int)=8)=False:=cC;have o2:b.others<2 ^ 40:=by unfold Up.others;omega
   by_cases x4:a.ao=4
   ·have x4':(a.ao:Int)=4:=by omega
    simp[lZ,aj,hs,t161 h a hla,t161 h b hlb,(show bC pg 161=false from h.bq (x:=nc) rfl),cF.VB,show Nat.beq 2 3=false from rfl,show Nat.beq 1 3=false from rfl,f2,f2i,f3,f3i,f4,f4i,f5,f5i,f7,f7i,f8,f8i,Ur x4,Ur x4',cR (2+(b.others:Int))]
   ·have x4':¬ (a.ao:Int)=4:=by omega
    simp[lZ,aj,hs,t161 h a hla,t161 h b hlb,(show bC pg 161=false from h.bq (x:=nc) rfl),cF.VB,show Nat.beq 2 3=false from rfl,show Nat.beq 1 3=false from rfl,f2,f2i,f3,f3i,f4,f4i,f5,f5i,f7,f7i,f8,f8i,x4,x4',cR (1+(b.others:Int))]
  ·have f2:(p.ao=2)=False:=cC;have f2i:((p.ao:Int)=2)=False:=cC;have f3:(p.ao=3)=False:=cC;have f3i:((p.ao:Int)=3)=False:=cC;have f4:(p.ao=4)=False:=cC;have f4i:((p.ao:Int)=4)=False:=cC;have f5:(p.ao=5)=False:=cC;have f5i:((p.ao:Int)=5)=False:=cC;have f7:(p.ao=7)=False:=cC;have f7i:((p.ao:Int)=7)=False:=cC;have f8:(p.ao=8)=True:=mA;have f8i:((p.ao:Int)=8)=True:=mA;simp[lZ,aj,hs,t161 h a hla,t161 h b hlb,(show bC pg 161=false from h.bq (x:=nc) rfl),cF.VB,show Nat.beq 2 3=false from rfl,show Nat.beq 1 3=false from rfl,f2,f2i,f3,f3i,f4,f4i,f5,f5i,f7,f7i,f8,f8i]
  ·have f2:(p.ao=2)=False:=cC;have f2i:((p.ao:Int)=2)=False:=cC;have f3:(p.ao=3)=False:=cC;have f3i:((p.ao:Int)=3)=False:=cC;have f4:(p.ao=4)=False:=cC;have f4i:((p.ao:Int)=4)=False:=cC;have f5:(p.ao=5)=False:=cC;have f5i:((p.ao:Int)=5)=False:=cC;have f7:(p.ao=7)=False:=cC;have f7i:((p.ao:Int)=7)=False:=cC;have f8:(p.ao=8)=False:=cC;have f8i:((p.ao:Int)=8)=False:=cC;simp[lZ,aj,hs,t161 h a hla,t161 h b hlb,(show bC pg 161=false from h.bq (x:=nc) rfl),cF.VB,show Nat.beq 2 3=false from rfl,show Nat.beq 1 3=false from rfl,f2,f2i,f3,f3i,f4,f4i,f5,f5i,f7,f7i,f8,f8i]
 ·rcases hk with hk|hk|hk|hk|hk|hk|hk
  ·have f2:(p.ao=2)=True:=mA;have f2i:((p.ao:Int)=2)=True:=mA;have f3:(p.ao=3)=False:=cC;have f3i:((p.ao:Int)=3)=False:=cC;have f4:(p.ao=4)=False:=cC;have f4i:((p.ao:Int)=4)=False:=cC;have f5:(p.ao=5)=False:=cC;have f5i:((p.ao:Int)=5)=False:=cC;have f7:(p.ao=7)=False:=cC;have f7i:((p.ao:Int)=7)=False:=cC;have f8:(p.ao=8)=False:=cC;have f8i:((p.ao:Int)=8)=False:=cC;have g0:¬ (p.alt:Int)<0:=by omega
   cases hc:b.aY[p.alt]? with
   |none =>
    have g1:b.aY.length<=p.alt:=List.getElem?_eq_none_iff.1 hc;have g2:(b.aY.length:Int)<=p.alt:=by omega
    simp[lZ,aj,hs,t161 h a hla,t161 h b hlb,(show bC pg 161=false from h.bq (x:=nc) rfl),cF.VB,show Nat.beq 2 3=false from rfl,show Nat.beq 1 3=false from rfl,f2,f2i,f3,f3i,f4,f4i,f5,f5i,f7,f7i,f8,f8i,g0,Ur g1,Ur g2,hc]
   |some c =>
    have g1:¬ b.aY.length<=p.alt:=by have:=(gE hc).1;omega
    have g2:¬ (b.aY.length:Int)<=p.alt:=by omega
    have g3:=hcb c (aE hc);simp[lZ,aj,hs,t161 h a hla,t161 h b hlb,(show bC pg 161=false from h.bq (x:=nc) rfl),cF.VB,show Nat.beq 2 3=false from rfl,show Nat.beq 1 3=false from rfl,f2,f2i,f3,f3i,f4,f4i,f5,f5i,f7,f7i,f8,f8i,g0,g1,g2,hc,Ux,aS,cR ((c.2:Int)+b.aY.length),cR ((c.2:Int)+b.aY.length-1)];omega
  ·have f2:(p.ao=2)=False:=cC;have f2i:((p.ao:Int)=2)=False:=cC;have f3:(p.ao=3)=True:=mA;have f3i:((p.ao:Int)=3)=True:=mA;have f4:(p.ao=4)=False:=cC;have f4i:((p.ao:Int)=4)=False:=cC;have f5:(p.ao=5)=False:=cC;have f5i:((p.ao:Int)=5)=False:=cC;have f7:(p.ao=7)=False:=cC;have f7i:((p.ao:Int)=7)=False:=cC;have f8:(p.ao=8)=False:=cC;have f8i:((p.ao:Int)=8)=False:=cC;simp[lZ,aj,hs,t161 h a hla,t161 h b hlb,(show bC pg 161=false from h.bq (x:=nc) rfl),cF.VB,show Nat.beq 2 3=false from rfl,show Nat.beq 1 3=false from rfl,f2,f2i,f3,f3i,f4,f4i,f5,f5i,f7,f7i,f8,f8i]
  ·have f2:(p.ao=2)=False:=cC;have f2i:((p.ao:Int)=2)=False:=cC;have f3:(p.ao=3)=False:=cC;have f3i:((p.ao:Int)=3)=False:=cC;have f4:(p.ao=4)=True:=mA;have f4i:((p.ao:Int)=4)=True:=mA;have f5:(p.ao=5)=False:=cC;have f5i:((p.ao:Int)=5)=False:=cC;have f7:(p.ao=7)=False:=cC;have f7i:((p.ao:Int)=7)=False:=cC;have f8:(p.ao=8)=False:=cC;have f8i:((p.ao:Int)=8)=False:=cC;simp[lZ,aj,hs,t161 h a hla,t161 h b hlb,(show bC pg 161=false from h.bq (x:=nc) rfl),cF.VB,show Nat.beq 2 3=false from rfl,show Nat.beq 1 3=false from rfl,f2,f2i,f3,f3i,f4,f4i,f5,f5i,f7,f7i,f8,f8i]
  ·have f2:(p.ao=2)=False:=cC;have f2i:((p.ao:Int)=2)=False:=cC;have f3:(p.ao=3)=False:=cC;have f3i:((p.ao:Int)=3)=False:=cC;have f4:(p.ao=4)=False:=cC;have f4i:((p.ao:Int)=4)=False:=cC;have f5:(p.ao=5)=True:=mA;have f5i:((p.ao:Int)=5)=True:=mA;have f7:(p.ao=7)=False:=cC;have f7i:((p.ao:Int)=7)=False:=cC;have f8:(p.ao=8)=False:=cC;have f8i:((p.ao:Int)=8)=False:=cC;have o1:b.others<2 ^ 40:=by unfold Up.others;omega
   have o2:a.others<2 ^ 40:=by unfold Up.others;omega
   have o3:qL ((b.others:Int)-1) 0=((b.others-1:Nat):Int):=by unfold qL;split<;>omega
   simp[lZ,aj,hs,t161 h a hla,t161 h b hlb,(show bC pg 161=false from h.bq (x:=nc) rfl),cF.VB,show Nat.beq 2 3=false from rfl,show Nat.beq 1 3=false from rfl,f2,f2i,f3,f3i,f4,f4i,f5,f5i,f7,f7i,f8,f8i,cR ((b.others:Int)-1),o3,cR (1+((b.others-1:Nat):Int)),cR (1+((b.others-1:Nat):Int)+a.others)]
  ·have f2:(p.ao=2)=False:=cC;have f2i:((p.ao:Int)=2)=False:=cC;have f3:(p.ao=3)=False:=cC;have f3i:((p.ao:Int)=3)=False:=cC;have f4:(p.ao=4)=False:=cC;have f4i:((p.ao:Int)=4)=False:=cC;have f5:(p.ao=5)=False:=cC;have f5i:((p.ao:Int)=5)=False:=cC;have f7:(p.ao=7)=True:=mA;have f7i:((p.ao:Int)=7)=True:=mA;have f8:(p.ao=8)=False:=cC;have f8i:((p.ao:Int)=8)=False:=cC;have o2:a.others<2 ^ 40:=by unfold Up.others;omega
   by_cases x4:b.ao=4
   ·have x4':(b.ao:Int)=4:=by omega
    simp[lZ,aj,hs,t161 h a hla,t161 h b hlb,(show bC pg 161=false from h.bq (x:=nc) rfl),cF.VB,show Nat.beq 2 3=false from rfl,show Nat.beq 1 3=false from rfl,f2,f2i,f3,f3i,f4,f4i,f5,f5i,f7,f7i,f8,f8i,Ur x4,Ur x4',cR (2+(a.others:Int))]
   ·have x4':¬ (b.ao:Int)=4:=by omega
    simp[lZ,aj,hs,t161 h a hla,t161 h b hlb,(show bC pg 161=false from h.bq (x:=nc) rfl),cF.VB,show Nat.beq 2 3=false from rfl,show Nat.beq 1 3=false from rfl,f2,f2i,f3,f3i,f4,f4i,f5,f5i,f7,f7i,f8,f8i,x4,x4',cR (1+(a.others:Int))]
  ·have f2:(p.ao=2)=False:=cC;have f2i:((p.ao:Int)=2)=False:=cC;have f3:(p.ao=3)=False:=cC;have f3i:((p.ao:Int)=3)=False:=cC;have f4:(p.ao=4)=False:=cC;have f4i:((p.ao:Int)=4)=False:=cC;have f5:(p.ao=5)=False:=cC;have f5i:((p.ao:Int)=5)=False:=cC;have f7:(p.ao=7)=False:=cC;have f7i:((p.ao:Int)=7)=False:=cC;have f8:(p.ao=8)=True:=mA;have f8i:((p.ao:Int)=8)=True:=mA;simp[lZ,aj,hs,t161 h a hla,t161 h b hlb,(show bC pg 161=false from h.bq (x:=nc) rfl),cF.VB,show Nat.beq 2 3=false from rfl,show Nat.beq 1 3=false from rfl,f2,f2i,f3,f3i,f4,f4i,f5,f5i,f7,f7i,f8,f8i]
  ·have f2:(p.ao=2)=False:=cC;have f2i:((p.ao:Int)=2)=False:=cC;have f3:(p.ao=3)=False:=cC;have f3i:((p.ao:Int)=3)=False:=cC;have f4:(p.ao=4)=False:=cC;have f4i:((p.ao:Int)=4)=False:=cC;have f5:(p.ao=5)=False:=cC;have f5i:((p.ao:Int)=5)=False:=cC;have f7:(p.ao=7)=False:=cC;have f7i:((p.ao:Int)=7)=False:=cC;have f8:(p.ao=8)=False:=cC;have f8i:((p.ao:Int)=8)=False:=cC;simp[lZ,aj,hs,t161 h a hla,t161 h b hlb,(show bC pg 161=false from h.bq (x:=nc) rfl),cF.VB,show Nat.beq 2 3=false from rfl,show Nat.beq 1 3=false from rfl,f2,f2i,f3,f3i,f4,f4i,f5,f5i,f7,f7i,f8,f8i]
mutual
theorem AB (n:Nat):∀{a:AV},cE a=true->bf n a=true
 |.p x,_=>by simp[bf]
 |.undef,_=>by simp[bf]
 |.ag cs,h=>by simp only[bf];exact bE n (by simpa [cE] using h)
 |.aC,h=>by simp[cE]at h
 |.rp _,h=>by simp[cE]at h
 |.arr _ _ _,h=>by simp[cE]at h
 |.ptr _ _,h=>by simp[cE]at h
 |.ez _ _ _ _,h=>by simp[cE]at h
 |.dF cs,h=>by simp[cE]at h
 |.eT t v,h=>by simp[cE]at h
 |.fn f a b,h=>by simp[cE]at h
theorem bE (n:Nat):∀{l:List AV},bm l=true->cH n l=true
 |[],_=>rfl
 |a::r,h=>by
  simp only[bm,ab]at h;simp only[cH,ab];exact⟨AB n h.1,bE n h.2⟩
end
mutual
theorem BR (ids:List Nat)(aK:Nat):∀{a:AV},cE a=true->back ids aK a=a
 |.p x,_=>by simp[back]
 |.undef,_=>by simp[back]
 |.ag cs,h=>by simp only[back];rw[ko ids aK (by simpa [cE] using h)]
 |.aC,h=>by simp[cE]at h
 |.rp _,h=>by simp[cE]at h
 |.arr _ _ _,h=>by simp[cE]at h
 |.ptr _ _,h=>by simp[cE]at h
 |.ez _ _ _ _,h=>by simp[cE]at h
 |.dF cs,h=>by simp[cE]at h
 |.eT t v,h=>by simp[cE]at h
 |.fn f a b,h=>by simp[cE]at h
theorem ko (ids:List Nat)(aK:Nat):∀{l:List AV},bm l=true->dh ids aK l=l
 |[],_=>rfl
 |a::r,h=>by
  simp only[bm,ab]at h;simp only[dh];rw[BR ids aK h.1,ko ids aK h.2]
end
mutual
theorem lu (ids:List Nat)(aK:Nat):∀{a:AV},bf 0 a=true->back ids aK a=a
 |.p x,_=>by simp[back]
 |.aC,_=>by simp[back]
 |.undef,_=>by simp[back]
 |.rp _,_=>by simp[back]
 |.arr _ _ _,h=>by simp[bf]at h
 |.ptr _ _,h=>by simp[bf]at h
 |.ez _ _ _ _,h=>by simp[bf]at h
 |.ag cs,h=>by simp only[back];rw[iD ids aK (by simpa [bf] using h)]
 |.dF cs,h=>by simp only[back];rw[iD ids aK (by simpa [bf] using h)]
 |.eT t v,h=>by simp only[back];rw[lu ids aK (by simpa [bf] using h)]
 |.fn f a b,h=>by simp only[bf,ab]at h;simp only[back];rw[iD ids aK h.1,iD ids aK h.2]
theorem iD (ids:List Nat)(aK:Nat):∀{l:List AV},cH 0 l=true->dh ids aK l=l
 |[],_=>rfl
 |a::r,h=>by simp only[cH,ab]at h;simp only[dh];rw[lu ids aK h.1,iD ids aK h.2]
end
theorem sZ {call:di}{f k:Nat}{c c' args:List AV}{out:Out}(hcall:call f (.ptr 0 0::args) [.box c]=some (out,[.box c']))(hG:G[k]?=some (.box c))(ha:bm args=true)(hc:bm c=true)(hc':bm c'=true)(ho:out.bf 0=true) :
  UM pg call f (.ptr k 0::args) G=some (out,G.set k (.box c')):=by
 have hlt:k<G.length:=(gE hG).1;unfold UM;simp only[aQ,exp,fI.id,eP,aL,aJ];rw[bS _ _ ha];dsimp only;have e2:UG (G.length+1) ⟨[k],G⟩ 0=some ([.box c],⟨[k],G⟩):=by
  obtain⟨m,hm⟩:∃m,G.length=m+1:=⟨G.length-1,by omega⟩
  rw[hm];simp only[UG,List.getElem?_cons_zero,hG,bS true _ hc,aG,List.getElem?_cons_succ,List.getElem?_nil]
 rw[e2];dsimp only;rw[hcall];have hback:∀ids n,out.back ids n=out:=λids n=>by
  cases out with
  |ret v=>simp only[Out.back];rw[lu ids n (by simpa [Out.bf] using ho)]
  |iL v=>simp only[Out.back];rw[lu ids n (by simpa [Out.bf] using ho)]
 simp[hback,b_,bD,ko _ _ hc']
theorem iO {call:di}{f:Nat}{c c' args:List AV}{out:Out}{Gs:Heap}(hcall:call f (.ptr 0 0::args) [.box c]=some (out,[.box c']))(ha:bm args=true)(hc:bm c=true)(hc':bm c'=true)(ho:out.bf 0=true) :
  UM pg call f (.ptr 0 0::args) (.box c::Gs)=some (out,.box c'::Gs):=by
 rw[sZ hcall rfl ha hc hc' ho];rfl
theorem t152 (h:bY pg)(a b:Int):UM pg (E pg) 152 [.p (.i .i64 a),.p (.i .i64 b)] G=some (.ret (.ag [.p (.i .i64 a),.p (.i .i64 b)]),G):=by
 refine Ut ?_ rfl rfl;rw[h.run (x:=sT)];simp[sT,aj]
theorem NU (h:bY pg){n:aI}{r:List AV}{i:Nat}{x:Up}(hx:n.ae[i]?=some x)(hr:bm r=true) :
  E pg 179 [.ptr 0 0,.p (.i .i64 i)] [.box (.p (.sl (n.ae.map Up.aw))::.p (.i .i64 n.aV)::r)]=some (.ret (.ag [.p (.i .i64 x.ao),.p (.i .i64 x.Us),.p (.i .i64 x.n),.p (.s x.name),.p (.sl (x.aY.map Ux)),.p (.sl (x.to.map aq.aw))]),[.box (.p (.sl (n.ae.map Up.aw))::.p (.i .i64 n.aV)::r)]):=by
 have h5:n.ae[i]?=some x:=hx;have hb:=bE 1 hr;rw[h.run (x:=E7)];simp[E7,aj,h5,Up.aw,aS,hb]
theorem t179 (h:bY pg){n:aI}{r:List AV}{i:Nat}{x:Up}{Gs:Heap}(hx:n.ae[i]?=some x)(hr:bm r=true) :
  UM pg (E pg) 179 [.ptr 0 0,.p (.i .i64 i)] (.box (.p (.sl (n.ae.map Up.aw))::.p (.i .i64 n.aV)::r)::Gs)=some (.ret (.ag [.p (.i .i64 x.ao),.p (.i .i64 x.Us),.p (.i .i64 x.n),.p (.s x.name),.p (.sl (x.aY.map Ux)),.p (.sl (x.to.map aq.aw))]),.box (.p (.sl (n.ae.map Up.aw))::.p (.i .i64 n.aV)::r)::Gs) :=
 iO (NU h hx hr) rfl (by simpa [bm,cE] using hr) (by simpa [bm,cE] using hr) rfl
theorem NV (h:bY pg){n:aI}{r:List AV}{i:Nat}{x:Up}(hx:n.ae[i]?=some x)(hr:bm r=true)(h10:r[10]?=some (.p (.i .i64 i))) :
  E pg 181 [.ptr 0 0] [.box (.p (.sl (n.ae.map Up.aw))::.p (.i .i64 n.aV)::r)]=some (.ret (.p (.i .i64 x.Us)),[.box (.p (.sl (n.ae.map Up.aw))::.p (.i .i64 n.aV)::r)]):=by
 have hb:=bE 1 hr;rw[h.run (x:=Jp)];simp[Jp,aj,h10,t179 h hx hr,hb]
theorem t181 (h:bY pg){n:aI}{r:List AV}{i:Nat}{x:Up}{Gs:Heap}(hx:n.ae[i]?=some x)(hr:bm r=true)(h10:r[10]?=some (.p (.i .i64 i))) :
  UM pg (E pg) 181 [.ptr 0 0] (.box (.p (.sl (n.ae.map Up.aw))::.p (.i .i64 n.aV)::r)::Gs)=some (.ret (.p (.i .i64 x.Us)),.box (.p (.sl (n.ae.map Up.aw))::.p (.i .i64 n.aV)::r)::Gs) :=
 iO (NV h hx hr h10) rfl (by simpa [bm,cE] using hr) (by simpa [bm,cE] using hr) rfl
theorem t184 (h:bY pg){n:aI}{x:Up}(hl:n.ae.length<2 ^ 30)(hk:2<=x.ao)(hx:x.ok=true)(hp:x.bO<2 ^ 30)(hu:n.used<n.aV) :
  UM pg (E pg) 184 [.ag [.p (.sl (n.ae.map Up.aw)),.p (.i .i64 n.aV)],.ag [.p (.i .i64 x.ao),.p (.i .i64 x.Us),.p (.i .i64 x.n),.p (.s x.name),.p (.sl (x.aY.map Ux)),.p (.sl (x.to.map aq.aw))]] G=some (.ret (.dF [.ag [.p (.sl ((n.make x).ae.map Up.aw)),.p (.i .i64 n.aV)],.p (.i .i64 n.cg),.p (.i .i64 0)]),G):=Ut (NP h hl hk hx hp hu) rfl rfl
theorem NW (h:bY pg){n:aI}{r:List AV}{x:Up}(hl:n.ae.length<2 ^ 30)(hk:2<=x.ao)(hx:x.ok=true)(hp:x.bO<2 ^ 30)(hu:n.used<n.aV)(hr:bm r=true) :
  E pg 166 [.ptr 0 0,.ag [.p (.i .i64 x.ao),.p (.i .i64 x.Us),.p (.i .i64 x.n),.p (.s x.name),.p (.sl (x.aY.map Ux)),.p (.sl (x.to.map aq.aw))]] [.box (.p (.sl (n.ae.map Up.aw))::.p (.i .i64 n.aV)::r)]=some (.ret (.p (.i .i64 n.cg)),[.box (.p (.sl ((n.make x).ae.map Up.aw))::.p (.i .i64 (n.make x).aV)::r)]):=by
 have hb:=bE 1 hr;rw[h.run (x:=G8)];simp[G8,aj,t184 h hl hk hx hp hu,hb,show(n.make x).aV=n.aV from rfl]
theorem t166 (h:bY pg){n:aI}{r:List AV}{x:Up}{Gs:Heap}(hl:n.ae.length<2 ^ 30)(hk:2<=x.ao)(hx:x.ok=true)(hp:x.bO<2 ^ 30)(hu:n.used<n.aV)(hr:bm r=true) :
  UM pg (E pg) 166 [.ptr 0 0,.ag [.p (.i .i64 x.ao),.p (.i .i64 x.Us),.p (.i .i64 x.n),.p (.s x.name),.p (.sl (x.aY.map Ux)),.p (.sl (x.to.map aq.aw))]] (.box (.p (.sl (n.ae.map Up.aw))::.p (.i .i64 n.aV)::r)::Gs)=some (.ret (.p (.i .i64 n.cg)),.box (.p (.sl ((n.make x).ae.map Up.aw))::.p (.i .i64 (n.make x).aV)::r)::Gs) :=
 iO (NW h hl hk hx hp hu hr) rfl (by simpa [bm,cE] using hr) (by simpa [bm,cE] using hr) rfl
theorem t183 (h:bY pg){n:aI}{p q:aq}(hp:n.W3 p)(hq:n.has q)(hr:n.has (n.pr p))(hne:p≠q) :
  UM pg (E pg) 183 [.ag [.p (.sl (n.ae.map Up.aw)),.p (.i .i64 n.aV)],.ag [.p (.i .i64 p.aD),.p (.i .i64 p.aT)],.ag [.p (.i .i64 q.aD),.p (.i .i64 q.aT)]] G=some (.ret (.dF [.ag [.p (.sl ((n.move p q).ae.map Up.aw)),.p (.i .i64 (n.move p q).aV)],.p (.i .i64 0)]),G):=Ut (NJ h hp hq hr hne) rfl rfl
theorem Li (h:bY pg){n:aI}{r:List AV}{p q:aq}(hp:n.W3 p)(hq:n.has q)(hpr:n.has (n.pr p))(hne:p≠q)(hr:bm r=true) :
  E pg 165 [.ptr 0 0,.ag [.p (.i .i64 p.aD),.p (.i .i64 p.aT)],.ag [.p (.i .i64 q.aD),.p (.i .i64 q.aT)]] [.box (.p (.sl (n.ae.map Up.aw))::.p (.i .i64 n.aV)::r)]=some (.ret (.dF []),[.box (.p (.sl ((n.move p q).ae.map Up.aw))::.p (.i .i64 (n.move p q).aV)::r)]):=by
 have hb:=bE 1 hr;rw[h.run (x:=Jj)];simp[Jj,aj,t183 h hp hq hpr hne,hb]
theorem t165 (h:bY pg){n:aI}{r:List AV}{p q:aq}{Gs:Heap}(hp:n.W3 p)(hq:n.has q)(hpr:n.has (n.pr p))(hne:p≠q)(hr:bm r=true) :
  UM pg (E pg) 165 [.ptr 0 0,.ag [.p (.i .i64 p.aD),.p (.i .i64 p.aT)],.ag [.p (.i .i64 q.aD),.p (.i .i64 q.aT)]] (.box (.p (.sl (n.ae.map Up.aw))::.p (.i .i64 n.aV)::r)::Gs)=some (.ret (.dF []),.box (.p (.sl ((n.move p q).ae.map Up.aw))::.p (.i .i64 (n.move p q).aV)::r)::Gs) :=
 iO (Li h hp hq hpr hne hr) rfl (by simpa [bm,cE] using hr) (by simpa [bm,cE] using hr) rfl
theorem t190 (h:bY pg){n:aI}{p q:aq}(hp:n.W3 p)(hq:n.has q)(hr:n.has (n.pr p))(hs:n.has (n.pr q))(hne:p≠q)(hrs:n.pr p≠q->n.pr p≠n.pr q) :
  UM pg (E pg) 190 [.ag [.p (.sl (n.ae.map Up.aw)),.p (.i .i64 n.aV)],.ag [.p (.i .i64 p.aD),.p (.i .i64 p.aT)],.ag [.p (.i .i64 q.aD),.p (.i .i64 q.aT)]] G=some (.ret (.dF [.ag [.p (.sl ((n.join p q).ae.map Up.aw)),.p (.i .i64 (n.join p q).aV)],.p (.i .i64 0)]),G):=Ut (NK h hp hq hr hs hne hrs) rfl rfl
theorem NX (h:bY pg){n:aI}{r:List AV}{p q:aq}(hp:n.W3 p)(hq:n.has q)(hpr:n.has (n.pr p))(hqr:n.has (n.pr q))(hne:p≠q)(hrs:n.pr p≠q->n.pr p≠n.pr q)(hr:bm r=true) :
  E pg 178 [.ptr 0 0,.ag [.p (.i .i64 p.aD),.p (.i .i64 p.aT)],.ag [.p (.i .i64 q.aD),.p (.i .i64 q.aT)]] [.box (.p (.sl (n.ae.map Up.aw))::.p (.i .i64 n.aV)::r)]=some (.ret (.dF []),[.box (.p (.sl ((n.join p q).ae.map Up.aw))::.p (.i .i64 (n.join p q).aV)::r)]):=by
 have hb:=bE 1 hr;rw[h.run (x:=Jo)];simp[Jo,aj,t190 h hp hq hpr hqr hne hrs,hb]
theorem t178 (h:bY pg){n:aI}{r:List AV}{p q:aq}{Gs:Heap}(hp:n.W3 p)(hq:n.has q)(hpr:n.has (n.pr p))(hqr:n.has (n.pr q))(hne:p≠q)(hrs:n.pr p≠q->n.pr p≠n.pr q)(hr:bm r=true) :
  UM pg (E pg) 178 [.ptr 0 0,.ag [.p (.i .i64 p.aD),.p (.i .i64 p.aT)],.ag [.p (.i .i64 q.aD),.p (.i .i64 q.aT)]] (.box (.p (.sl (n.ae.map Up.aw))::.p (.i .i64 n.aV)::r)::Gs)=some (.ret (.dF []),.box (.p (.sl ((n.join p q).ae.map Up.aw))::.p (.i .i64 (n.join p q).aV)::r)::Gs) :=
 iO (NX h hp hq hpr hqr hne hrs hr) rfl (by simpa [bm,cE] using hr) (by simpa [bm,cE] using hr) rfl
theorem t191 (h:bY pg){n:aI}{p q:aq}(hp:n.W3 p)(hq:n.has q)(hne:p≠q) :
  UM pg (E pg) 191 [.ag [.p (.sl (n.ae.map Up.aw)),.p (.i .i64 n.aV)],.ag [.p (.i .i64 p.aD),.p (.i .i64 p.aT)],.ag [.p (.i .i64 q.aD),.p (.i .i64 q.aT)]] G=some (.ret (.dF [.ag [.p (.sl ((n.link p q).ae.map Up.aw)),.p (.i .i64 (n.link p q).aV)],.p (.i .i64 0)]),G):=Ut (NI h hp hq hne) rfl rfl
theorem NY (h:bY pg){n:aI}{r:List AV}{p q:aq}(hp:n.W3 p)(hq:n.has q)(hne:p≠q)(hr:bm r=true) :
  E pg 182 [.ptr 0 0,.ag [.p (.i .i64 p.aD),.p (.i .i64 p.aT)],.ag [.p (.i .i64 q.aD),.p (.i .i64 q.aT)]] [.box (.p (.sl (n.ae.map Up.aw))::.p (.i .i64 n.aV)::r)]=some (.ret (.dF []),[.box (.p (.sl ((n.link p q).ae.map Up.aw))::.p (.i .i64 (n.link p q).aV)::r)]):=by
 have hb:=bE 1 hr;rw[h.run (x:=Jq)];simp[Jq,aj,t191 h hp hq hne,hb]
theorem t182 (h:bY pg){n:aI}{r:List AV}{p q:aq}{Gs:Heap}(hp:n.W3 p)(hq:n.has q)(hne:p≠q)(hr:bm r=true) :
  UM pg (E pg) 182 [.ptr 0 0,.ag [.p (.i .i64 p.aD),.p (.i .i64 p.aT)],.ag [.p (.i .i64 q.aD),.p (.i .i64 q.aT)]] (.box (.p (.sl (n.ae.map Up.aw))::.p (.i .i64 n.aV)::r)::Gs)=some (.ret (.dF []),.box (.p (.sl ((n.link p q).ae.map Up.aw))::.p (.i .i64 (n.link p q).aV)::r)::Gs) :=
 iO (NY h hp hq hne hr) rfl (by simpa [bm,cE] using hr) (by simpa [bm,cE] using hr) rfl
def ints (l:List Nat):List (List PV):=l.map fun (i:Nat)=>[iv (i:Int)]
theorem Lj (h:bY pg){body:aU}(hb:body=qY){x:Up}{r:List AV}(hk:2<=x.ao)(hx:x.ok=true)(hp:x.bO<2 ^ 30)(hr:bm r=true){many:Nat} :
  ∀(m:Nat) (n:aI) (acc:List Nat),acc≠[]->acc.length+m=many->n.ae.length+m<2 ^ 30->many<2 ^ 30->n.used+m<=n.aV ->
   ∃G',L pg 1 [0,4,7,8,9] body [(0,.ptr 0 0),(4,.ptr 1 0),(7,.arr 2 acc.length (acc.length-1)),(8,.p (.i .i64 many)),(9,.p (.i .i64 acc.length))] [.box (.p (.sl (n.ae.map Up.aw))::.p (.i .i64 n.aV)::r),.box [.p (.i .i64 x.ao),.p (.i .i64 x.Us),.p (.i .i64 x.n),.p (.s x.name),.p (.sl (x.aY.map Ux)),.p (.sl (x.to.map aq.aw))],.arr 1 (ints acc) (acc.length-1) 0] =
   some (.exit 0,[(0,.ptr 0 0),(4,.ptr 1 0),(7,.arr 2 many (many-1)),(8,.p (.i .i64 many)),(9,.p (.i .i64 many)),(10,.p (.b false))],.box (.p (.sl ((n.cI x m).1.ae.map Up.aw))::.p (.i .i64 (n.cI x m).1.aV)::r)::.box [.p (.i .i64 x.ao),.p (.i .i64 x.Us),.p (.i .i64 x.n),.p (.s x.name),.p (.sl (x.aY.map Ux)),.p (.sl (x.to.map aq.aw))]::.arr 1 (ints (acc++(n.cI x m).2)) (many-1) 0::G')
 |0,n,acc,ha,hm,hl,hmm,hu=>by
  have hm':many=acc.length:=by omega
  subst hm';rw[dA hb];refine⟨[],?_⟩;simp[qY,aj,aI.cI]
 |m+1,n,acc,ha,hm,hl,hmm,hu=>by
  have he:∀e,aQ true e r=some (r,e):=λe=>bS true e hr;have hml:=aI.pC n x;have hmu:=aI.nH (n:=n) (x:=x) (by omega);have hmc:=aI.nG n x;obtain⟨G',ih⟩:=Lj h hb hk hx hp hr m (n.make x) (acc++[n.cg]) (by simp) (by simp;omega) (by omega) hmm (by omega);refine⟨G',?_⟩;have hal:0<acc.length:=by cases acc with|nil=>exact absurd rfl ha|cons=>simp
  have e1:acc.length<many:=by omega
  have e2:bZ (acc.length+1) 8=true:=by simp[bZ];omega
  have e3:acc.length-1+1=acc.length:=by omega
  have e5:(ints acc).length=acc.length:=by simp[ints]
  have e4:(ints acc).take acc.length=ints acc:=by rw[<- e5];exact eg
  have e6:∀v,bH 1 [[.i .i64 v]]=true:=λ_=>rfl;rw[pd]at ih;simp only[aR,av,aJ,aG,cQ,hmc]at ih;rw[show((acc.length+1:Nat):Int)=(acc.length:Int)+1 from by omega,show ints (acc++[n.cg])=ints acc++[[.i .i64 n.cg]] from by simp[ints]]at ih;rw[dA hb];simp[qY,aj,e1,t166 h (by omega:n.ae.length<2 ^ 30) hk hx hp (by omega) hr,Uu.Uv,cO,Vy,ee,aS,cX,e2,e3,e4,e5,e6,cR ((acc.length:Int)+1),gc,exp,aQ,UG,he,ih,aI.cI,hmc]
theorem NZ (h:bY pg){n:aI}{x:Up}{r:List AV}{k:Nat}(hk:2<=x.ao)(hx:x.ok=true)(hp:x.bO<2 ^ 30)(hr:bm r=true)(hl:n.ae.length+k<2 ^ 30)(hkk:k<2 ^ 30)(hu:n.used+k<=n.aV) :
  E pg 180 [.ptr 0 0,.ag [.p (.i .i64 x.ao),.p (.i .i64 x.Us),.p (.i .i64 x.n),.p (.s x.name),.p (.sl (x.aY.map Ux)),.p (.sl (x.to.map aq.aw))],.p (.i .i64 k)] [.box (.p (.sl (n.ae.map Up.aw))::.p (.i .i64 n.aV)::r)]=some (.ret (.p (.sl (ints (n.cI x k).2))),[.box (.p (.sl ((n.cI x k).1.ae.map Up.aw))::.p (.i .i64 (n.cI x k).1.aV)::r)]):=by
 have he:∀e,aQ true e r=some (r,e):=λe=>bS true e hr;have hb:=bE 1 hr;obtain⟨body,hbd⟩:∃body,body=qY:=⟨_,rfl⟩
 rw[h.run (x:=E8)];cases k with
 |zero =>
  have h1:L pg 1 [0,4,7,8,9] body [(0,.ptr 0 0),(4,.ptr 1 0),(7,.aC),(8,.p (.i .i64 0)),(9,.p (.i .i64 0))] [.box (.p (.sl (n.ae.map Up.aw))::.p (.i .i64 n.aV)::r),.box [.p (.i .i64 x.ao),.p (.i .i64 x.Us),.p (.i .i64 x.n),.p (.s x.name),.p (.sl (x.aY.map Ux)),.p (.sl (x.to.map aq.aw))]] =
    some (.exit 0,[(0,.ptr 0 0),(4,.ptr 1 0),(7,.aC),(8,.p (.i .i64 0)),(9,.p (.i .i64 0)),(10,.p (.b false))],[.box (.p (.sl (n.ae.map Up.aw))::.p (.i .i64 n.aV)::r),.box [.p (.i .i64 x.ao),.p (.i .i64 x.Us),.p (.i .i64 x.n),.p (.s x.name),.p (.sl (x.aY.map Ux)),.p (.sl (x.to.map aq.aw))]]):=by
   rw[dA hbd];simp[qY,aj]
  simp[E8,<- hbd,aj,gc,exp,aQ,UG,he,h1,hb,aI.cI,ints]
 |succ m =>
  have hml:=aI.pC n x;have hmu:=aI.nH (n:=n) (x:=x) (by omega);have hmc:=aI.nG n x;obtain⟨G',ih⟩:=Lj h hbd hk hx hp hr (many:=m+1) m (n.make x) [n.cg] (by simp) (by simp;omega) (by omega) hkk (by omega);have e1:(0:Int)<(m:Int)+1:=by omega
  have e6:∀v,bH 1 [[.i .i64 v]]=true:=λ_=>rfl;have e2:bZ 1 8=true:=rfl;have e7:(ints (n.cg::((n.make x).cI x m).2)).length=m+1:=by
   have:∀(m:Nat) (n:aI),(n.cI x m).2.length=m:=by
    intro m
    induction m with
    |zero=>intro n;rfl
    |succ m ih=>intro n;simp[aI.cI,ih]
   simp[ints,this]
  have e8:(ints (n.cg::((n.make x).cI x m).2)).take (m+1)=ints (n.cg::((n.make x).cI x m).2):=by rw[<- e7];exact eg
  have e9:m+1<=(ints (n.cg::((n.make x).cI x m).2)).length:=by omega
  simp only[av,aJ,aG,fx,hmc,Va,cQ]at ih;rw[show ints [n.cg]=[[.i .i64 n.cg]] from rfl,show((m+1:Nat):Int)=(m:Int)+1 from by omega,WW]at ih;have h1:L pg 1 [0,4,7,8,9] body [(0,.ptr 0 0),(4,.ptr 1 0),(7,.aC),(8,.p (.i .i64 ((m:Int)+1))),(9,.p (.i .i64 0))] [.box (.p (.sl (n.ae.map Up.aw))::.p (.i .i64 n.aV)::r),.box [.p (.i .i64 x.ao),.p (.i .i64 x.Us),.p (.i .i64 x.n),.p (.s x.name),.p (.sl (x.aY.map Ux)),.p (.sl (x.to.map aq.aw))]] =
    some (.exit 0,[(0,.ptr 0 0),(4,.ptr 1 0),(7,.arr 2 (m+1) m),(8,.p (.i .i64 ((m:Int)+1))),(9,.p (.i .i64 ((m:Int)+1))),(10,.p (.b false))],.box (.p (.sl (((n.make x).cI x m).1.ae.map Up.aw))::.p (.i .i64 ((n.make x).cI x m).1.aV)::r)::.box [.p (.i .i64 x.ao),.p (.i .i64 x.Us),.p (.i .i64 x.n),.p (.s x.name),.p (.sl (x.aY.map Ux)),.p (.sl (x.to.map aq.aw))]::.arr 1 (ints (n.cg::((n.make x).cI x m).2)) m 0::G'):=by
   rw[dA hbd];simp[qY,aj,e1,t166 h (by omega:n.ae.length<2 ^ 30) hk hx hp (by omega) hr,Uu.Uv,cO,Vy,ee,aS,cX,e2,e6,cR 1,gc,exp,aQ,UG,he,ih,hmc]
  simp[E8,<- hbd,aj,gc,exp,aQ,UG,he,h1,hb,aI.cI,e8,e9]
theorem t180 (h:bY pg){n:aI}{x:Up}{r:List AV}{k:Nat}{K:Int}{Gs:Heap}(hK:K=k)(hk:2<=x.ao)(hx:x.ok=true)(hp:x.bO<2 ^ 30)(hr:bm r=true)(hl:n.ae.length+k<2 ^ 30)(hkk:k<2 ^ 30)(hu:n.used+k<=n.aV) :
  UM pg (E pg) 180 [.ptr 0 0,.ag [.p (.i .i64 x.ao),.p (.i .i64 x.Us),.p (.i .i64 x.n),.p (.s x.name),.p (.sl (x.aY.map Ux)),.p (.sl (x.to.map aq.aw))],.p (.i .i64 K)] (.box (.p (.sl (n.ae.map Up.aw))::.p (.i .i64 n.aV)::r)::Gs)=some (.ret (.p (.sl (ints (n.cI x k).2))),.box (.p (.sl ((n.cI x k).1.ae.map Up.aw))::.p (.i .i64 (n.cI x k).1.aV)::r)::Gs):=by
 subst hK;exact iO (NZ h hk hx hp hr hl hkk hu) rfl (by simpa [bm,cE] using hr) (by simpa [bm,cE] using hr) rfl
theorem vG {call:di}{f:Nat}{c c' args:List AV}{out:Out}{Gs os:Heap}(hcall:call f (.ptr 0 0::args) [.box c]=some (out,.box c'::os))(ha:bm args=true)(hc:bm c=true)(hc':bm c'=true) :
  UM pg call f (.ptr 0 0::args) (.box c::Gs)=some (out.back [0] (Gs.length+1),.box c'::Gs++os.map (bD [0] (Gs.length+1))):=by
 unfold UM;simp only[aQ,exp,fI.id,eP,aL,aJ];rw[bS _ _ ha];dsimp only;have e2:UG ((fE.box c::Gs).length+1) ⟨[0],.box c::Gs⟩ 0=some ([.box c],⟨[0],.box c::Gs⟩):=by
  simp only[av,UG,List.getElem?_cons_zero,bS true _ hc,aG,List.getElem?_cons_succ,List.getElem?_nil]
 rw[e2];dsimp only;rw[hcall];simp[b_,bD,ko _ _ hc']
def UQ (i k m:Nat):List aq:=(List.range' k m).map λj=>⟨i,j⟩
theorem vH (i k m:Nat):UQ i k (m+1)=UQ i k m++[⟨i,k+m⟩]:=by
 unfold UQ;rw[List.range'_concat];simp
theorem bN (i k m:Nat):(UQ i k m).length=m:=by simp[UQ]
theorem Ll (h:bY pg){body:aU}(hb:body=py){n:aI}{x:Up}{r:List AV}{i k0:Nat}(hx:n.ae[i]?=some x)(hr:bm r=true)(hxl:x.to.length<2 ^ 30) :
  ∀(m j:Nat),0<j->k0+j+m=x.to.length ->
   L pg 1 [0,1,7,8] body [(0,.ptr 0 0),(1,.p (.i .i64 i)),(7,.arr 1 j (j-1)),(8,.p (.i .i64 (k0+j:Nat)))] [.box (.p (.sl (n.ae.map Up.aw))::.p (.i .i64 n.aV)::r),.arr 2 ((UQ i k0 j).map aq.aw) (j-1) 0] =
   some (.exit 0,[(0,.ptr 0 0),(1,.p (.i .i64 i)),(7,.arr 1 (j+m) (j+m-1)),(8,.p (.i .i64 x.to.length)),(16,.p (.b false))],[.box (.p (.sl (n.ae.map Up.aw))::.p (.i .i64 n.aV)::r),.arr 2 ((UQ i k0 (j+m)).map aq.aw) (j+m-1) 0])
 |0,j,hj,hm=>by
  rw[dA hb];have e1:¬ k0+j<x.to.length:=by omega
  have e2:¬ ((k0:Int)+j<x.to.length):=by omega
  simp[py,aj,t179 h hx hr,e1,e2];omega
 |m+1,j,hj,hm=>by
  have he:∀e,aQ true e r=some (r,e):=λe=>bS true e hr;have ih:=Ll (k0:=k0) h hb hx hr hxl m (j+1) (by omega) (by omega);have e1:k0+j<x.to.length:=by omega
  have e1':((k0:Int)+j<x.to.length):=by omega
  have e2:bZ (j+1) 16=true:=by simp[bZ];omega
  have e3:j-1+1=j:=by omega
  have e5:((UQ i k0 j).map aq.aw).length=j:=by simp[bN]
  have e4:((UQ i k0 j).map aq.aw).take j=(UQ i k0 j).map aq.aw:=by
   conv=>lhs;arg 1;rw[<- e5]
   exact eg
  have e6:∀u v,bH 2 [[.i .i64 u,.i .i64 v]]=true:=λ_ _=>rfl;have e7:(UQ i k0 j).length=j:=bN _ _ _;rw[vH,show j+1+m=j+(m+1) from by omega]at ih;simp only[bB,ai,au,cQ,aq.aw]at ih;rw[show((k0+(j+1):Nat):Int)=(k0:Int)+j+1 from by omega,show((k0+j:Nat):Int)=(k0:Int)+j from by omega]at ih;rw[dA hb];simp[py,aj,t179 h hx hr,t152 h,e1,e1',Uu.Uv,cO,Vy,ee,aS,cX,e2,e3,e4,e5,e6,e7,cR ((k0:Int)+j+1),gc,exp,aQ,UG,he,ih]
theorem Lm (h:bY pg){n:aI}{x:Up}{r:List AV}{i k0:Nat}{K:Int}(hK:K=k0)(hx:n.ae[i]?=some x)(hr:bm r=true)(hxl:x.to.length<2 ^ 30)(hm:x.to.length<=k0)(hk:k0<2 ^ 30) :
  E pg 170 [.ptr 0 0,.p (.i .i64 i),.p (.i .i64 K)] [.box (.p (.sl (n.ae.map Up.aw))::.p (.i .i64 n.aV)::r)]=some (.ret .aC,[.box (.p (.sl (n.ae.map Up.aw))::.p (.i .i64 n.aV)::r)]):=by
 subst hK;have he:∀e,aQ true e r=some (r,e):=λe=>bS true e hr;have e1:¬ k0<x.to.length:=by omega
 have e1':¬ ((k0:Int)<x.to.length):=by omega
 obtain⟨body,hbd⟩:∃body,body=py:=⟨_,rfl⟩
 have h1:L pg 1 [0,1,7,8] body [(0,.ptr 0 0),(1,.p (.i .i64 i)),(7,.aC),(8,.p (.i .i64 k0))] [.box (.p (.sl (n.ae.map Up.aw))::.p (.i .i64 n.aV)::r)] =
   some (.exit 0,[(0,.ptr 0 0),(1,.p (.i .i64 i)),(7,.aC),(8,.p (.i .i64 k0)),(16,.p (.b false))],[.box (.p (.sl (n.ae.map Up.aw))::.p (.i .i64 n.aV)::r)]):=by
  rw[dA hbd];simp[py,aj,t179 h hx hr,e1,e1']
 rw[h.run (x:=E5)];simp[E5,<- hbd,aj,gc,exp,aQ,UG,he,h1]
theorem N0 (h:bY pg){n:aI}{x:Up}{r:List AV}{i k0 m:Nat}{K:Int}(hK:K=k0)(hx:n.ae[i]?=some x)(hr:bm r=true)(hxl:x.to.length<2 ^ 30)(hm:k0+(m+1)=x.to.length) :
  E pg 170 [.ptr 0 0,.p (.i .i64 i),.p (.i .i64 K)] [.box (.p (.sl (n.ae.map Up.aw))::.p (.i .i64 n.aV)::r)]=some (.ret (.arr 1 (m+1) m),[.box (.p (.sl (n.ae.map Up.aw))::.p (.i .i64 n.aV)::r),.arr 2 ((UQ i k0 (m+1)).map aq.aw) m 0]):=by
 subst hK;have he:∀e,aQ true e r=some (r,e):=λe=>bS true e hr;have e1:k0<x.to.length:=by omega
 have e1':((k0:Int)<x.to.length):=by omega
 have e2:bZ 1 16=true:=rfl;have e6:∀u v,bH 2 [[.i .i64 u,.i .i64 v]]=true:=λ_ _=>rfl;obtain⟨body,hbd⟩:∃body,body=py:=⟨_,rfl⟩
 have ih:=Ll (k0:=k0) h hbd hx hr hxl m 1 (by omega) (by omega);rw[show((k0+1:Nat):Int)=(k0:Int)+1 from by omega,show UQ i k0 1=[⟨i,k0⟩] from rfl,show 1+m=m+1 from by omega]at ih;simp only[ai,au,aq.aw,fx,cQ]at ih;have h1:L pg 1 [0,1,7,8] body [(0,.ptr 0 0),(1,.p (.i .i64 i)),(7,.aC),(8,.p (.i .i64 k0))] [.box (.p (.sl (n.ae.map Up.aw))::.p (.i .i64 n.aV)::r)] =
   some (.exit 0,[(0,.ptr 0 0),(1,.p (.i .i64 i)),(7,.arr 1 (m+1) m),(8,.p (.i .i64 x.to.length)),(16,.p (.b false))],[.box (.p (.sl (n.ae.map Up.aw))::.p (.i .i64 n.aV)::r),.arr 2 ((UQ i k0 (m+1)).map aq.aw) m 0]):=by
  rw[dA hbd];simp[py,aj,t179 h hx hr,t152 h,e1,e1',Uu.Uv,cO,Vy,ee,aS,cX,e2,e6,cR ((k0:Int)+1),gc,exp,aQ,UG,he,ih]
 rw[h.run (x:=E5)];simp[E5,<- hbd,aj,gc,exp,aQ,UG,he,h1]
theorem AD (h:bY pg){n:aI}{x:Up}{r:List AV}{i k0:Nat}{K:Int}{Gs:Heap}(hK:K=k0)(hx:n.ae[i]?=some x)(hr:bm r=true)(hxl:x.to.length<2 ^ 30)(hm:x.to.length<=k0)(hk:k0<2 ^ 30) :
  UM pg (E pg) 170 [.ptr 0 0,.p (.i .i64 i),.p (.i .i64 K)] (.box (.p (.sl (n.ae.map Up.aw))::.p (.i .i64 n.aV)::r)::Gs)=some (.ret .aC,.box (.p (.sl (n.ae.map Up.aw))::.p (.i .i64 n.aV)::r)::Gs):=by
 rw[vG (Lm h hK hx hr hxl hm hk) rfl (by simpa [bm,cE] using hr) (by simpa [bm,cE] using hr)];simp[Out.back,back]
theorem t170 (h:bY pg){n:aI}{x:Up}{r:List AV}{i k0 m:Nat}{K:Int}{Gs:Heap}(hK:K=k0)(hx:n.ae[i]?=some x)(hr:bm r=true)(hxl:x.to.length<2 ^ 30)(hm:k0+(m+1)=x.to.length) :
  UM pg (E pg) 170 [.ptr 0 0,.p (.i .i64 i),.p (.i .i64 K)] (.box (.p (.sl (n.ae.map Up.aw))::.p (.i .i64 n.aV)::r)::Gs)=some (.ret (.arr (Gs.length+1) (m+1) m),.box (.p (.sl (n.ae.map Up.aw))::.p (.i .i64 n.aV)::r)::Gs++[.arr 2 ((UQ i k0 (m+1)).map aq.aw) m 0]):=by
 rw[vG (N0 h hK hx hr hxl hm) rfl (by simpa [bm,cE] using hr) (by simpa [bm,cE] using hr)];simp[Out.back,back,UL,bD]
theorem oA {call:di}{f:Nat}{args args':List AV}(h:∀e,aQ (bC pg f) e args=aQ (bC pg f) e args'):UM pg call f args G=UM pg call f args' G:=by
 unfold UM;rw[h]
theorem Ia (h:bY pg){n:aI}{Us ao:Nat}{K:Int}{r:List AV}{k:Nat}{Gs:Heap}{M:Int}(hM:M=k)(hK:K=ao)(hk:2<=ao)(hx:(Up.mk ao Us 0 [] [] []).ok=true)(hp:(Up.mk ao Us 0 [] [] []).bO<2 ^ 30)(hr:bm r=true)(hl:n.ae.length+k<2 ^ 30)(hkk:k<2 ^ 30)(hu:n.used+k<=n.aV) :
  UM pg (E pg) 180 [.ptr 0 0,.ag [.p (.i .i64 K),.p (.i .i64 Us),.p (.i .i64 0),.p (.s []),.aC,.aC],.p (.i .i64 M)] (.box (.p (.sl (n.ae.map Up.aw))::.p (.i .i64 n.aV)::r)::Gs)=some (.ret (.p (.sl (ints (n.cI ⟨ao,Us,0,[],[],[]⟩ k).2))),.box (.p (.sl ((n.cI ⟨ao,Us,0,[],[],[]⟩ k).1.ae.map Up.aw))::.p (.i .i64 (n.cI ⟨ao,Us,0,[],[],[]⟩ k).1.aV)::r)::Gs):=by
 subst hM;subst hK;rw[<- t180 (K:=k) h rfl hk hx hp hr hl hkk hu];refine oA λe=>?_;simp[(show bC pg 180=false from h.bq (x:=E8) rfl),exp,aQ,fI.id]
theorem N1 (h:bY pg){n:aI}{x:Up}{r:List AV}{i:Nat}{l:List aq}(hx:n.ae[i]?=some x)(hr:bm r=true)(h10:r[10]?=some (.p (.i .i64 i)))(hlev:x.Us<=60)(hl:n.ae.length+l.length<2 ^ 30)(hu:n.used+l.length<=n.aV) :
  E pg 169 [.ptr 0 0,.p (.sl (l.map aq.aw))] [.box (.p (.sl (n.ae.map Up.aw))::.p (.i .i64 n.aV)::r)]=some (.ret (.fn 185 [] [.ptr 2 0,.ptr 1 0,.ptr 3 0]),[.box (.p (.sl ((n.cI (ch x.Us) l.length).1.ae.map Up.aw))::.p (.i .i64 (n.cI (ch x.Us) l.length).1.aV)::r),.box [.ptr 0 0],.box [.p (.sl (l.map aq.aw))],.box [.p (.sl (ints (n.cI (ch x.Us) l.length).2))]]):=by
 obtain⟨d1,d2⟩:=mP hlev;have e1:=λGs=>Ia (Gs:=Gs) (ao:=7) (K:=7) (Us:=x.Us) (k:=l.length) h rfl rfl (by omega) d1 (by rw[show(Up.mk 7 x.Us 0 [] [] []).bO=1 from d2];omega) hr hl (by omega) hu;rw[h.run (x:=DP)];simp[DP,aj,t181 h hx hr h10,e1,h.ro,show qe tL 181=true from rfl,ch]
theorem Ln (h:bY pg){n:aI}{r:List AV}{p q:aq}{a b c:fE}{Gs:Heap}(hp:n.W3 p)(hq:n.has q)(hpr:n.has (n.pr p))(hne:p≠q)(hr:bm r=true) :
  UM pg (E pg) 165 [.ptr 3 0,.ag [.p (.i .i64 p.aD),.p (.i .i64 p.aT)],.ag [.p (.i .i64 q.aD),.p (.i .i64 q.aT)]] (a::b::c::.box (.p (.sl (n.ae.map Up.aw))::.p (.i .i64 n.aV)::r)::Gs)=some (.ret (.dF []),a::b::c::.box (.p (.sl ((n.move p q).ae.map Up.aw))::.p (.i .i64 (n.move p q).aV)::r)::Gs):=by
 rw[sZ (k:=3) (Li h hp hq hpr hne hr) rfl rfl (by simpa [bm,cE] using hr) (by simpa [bm,cE] using hr) rfl];rfl
theorem Lo (h:bY pg){body:aU}(hb:body=yQ){r:List AV}(hr:bm r=true){l:List aq}{ds:List Nat}(hll:l.length<2 ^ 30)(hds:ds.length=l.length) :
  ∀(m j:Nat) (n:aI),j+m=l.length->dS n ((l.zip (ds.map λd=>(⟨d,0⟩:aq))).drop j) ->
   L pg 4 [1,2,5,6,7] body [(1,.ptr 1 0),(2,.ptr 2 0),(5,.p (.sl (l.map aq.aw))),(6,.p (.i .i64 l.length)),(7,.p (.i .i64 j))] [.box [.p (.sl (l.map aq.aw))],.box [.ptr 3 0],.box [.p (.sl (ints ds))],.box (.p (.sl (n.ae.map Up.aw))::.p (.i .i64 n.aV)::r)] =
   some (.exit 0,[(1,.ptr 1 0),(2,.ptr 2 0),(5,.p (.sl (l.map aq.aw))),(6,.p (.i .i64 l.length)),(7,.p (.i .i64 l.length)),(8,.p (.b false))],[.box [.p (.sl (l.map aq.aw))],.box [.ptr 3 0],.box [.p (.sl (ints ds))],.box (.p (.sl ((n.ft ((l.zip (ds.map λd=>(⟨d,0⟩:aq))).drop j)).ae.map Up.aw))::.p (.i .i64 (n.ft ((l.zip (ds.map λd=>(⟨d,0⟩:aq))).drop j)).aV)::r)])
 |0,j,n,hm,hok=>by
  have:j=l.length:=by omega
  subst this;have e:(l.zip (ds.map λd=>(⟨d,0⟩:aq))).drop l.length=[]:=cV (by simp;omega);rw[dA hb,e];simp[yQ,aj,aI.ft]
 |m+1,j,n,hm,hok=>by
  have he:∀e,aQ true e r=some (r,e):=λe=>bS true e hr;have hlt:j<l.length:=by omega
  have hlt':j<ds.length:=by omega
  have hz:(l.zip (ds.map λd=>(⟨d,0⟩:aq))).drop j=(l[j],⟨ds[j],0⟩)::(l.zip (ds.map λd=>(⟨d,0⟩:aq))).drop (j+1):=by
   rw[aM (by simp;omega)];simp
  rw[hz]at hok;obtain⟨⟨a1,a2,a3,a4⟩,hok'⟩:=hok;have ih:=Lo h hb hr hll hds m (j+1) (n.move l[j] ⟨ds[j],0⟩) (by omega) hok';rw[show((j+1:Nat):Int)=(j:Int)+1 from by omega]at ih;have e1:=λGs a b c=>Ln (Gs:=Gs) (a:=a) (b:=b) (c:=c) (q:=⟨ds[j],0⟩) h a1 a2 a3 a4 hr;simp only[fW]at e1;have e2:(ints ds)[j]?=some [.i .i64 ds[j]]:=by simp[ints,hlt']
  have e3:(aI.move n l[j] ⟨ds[j],0⟩).aV=n.aV:=aI.vz;have e4:=(show bC pg 152=false from h.bq (x:=sT) rfl)
  rw[e3]at ih;rw[dA hb,hz];simp[yQ,aj,hlt,hlt',aS,aq.aw,t152 h,e1,e2,e3,e4,cR ((j:Int)+1),gc,exp,aQ,UG,he,ih,aI.ft]
theorem N2 (h:bY pg){n:aI}{r:List AV}(hr:bm r=true){l:List aq}{ds:List Nat}(hll:l.length<2 ^ 30)(hds:ds.length=l.length)(hok:dS n (l.zip (ds.map λd=>(⟨d,0⟩:aq)))) :
  E pg 185 [.ptr 0 0,.ptr 1 0,.ptr 2 0] [.box [.p (.sl (l.map aq.aw))],.box [.ptr 3 0],.box [.p (.sl (ints ds))],.box (.p (.sl (n.ae.map Up.aw))::.p (.i .i64 n.aV)::r)] =
   some (.ret (.dF []),[.box [.p (.sl (l.map aq.aw))],.box [.ptr 3 0],.box [.p (.sl (ints ds))],.box (.p (.sl ((n.ft (l.zip (ds.map λd=>(⟨d,0⟩:aq)))).ae.map Up.aw))::.p (.i .i64 (n.ft (l.zip (ds.map λd=>(⟨d,0⟩:aq)))).aV)::r)]):=by
 have he:∀e,aQ true e r=some (r,e):=λe=>bS true e hr;have hb:=bE 4 hr;have hL:=Lo h rfl hr hll hds l.length 0 n (by omega) (by simpa using hok);rw[fW,bp]at hL;rw[h.run (x:=Jr)];simp[Jr,aj,gc,exp,aQ,UG,he,hL,hb]
theorem yW (i k m j:Nat)(h:j<m):(UQ i k m)[j]'(by rw[bN];exact h)=⟨i,k+j⟩:=by
 simp[UQ]
theorem FE (a b k k' m j:Nat)(h:j<m):((UQ a k m).zip (UQ b k' m)).drop j=(⟨a,k+j⟩,⟨b,k'+j⟩)::((UQ a k m).zip (UQ b k' m)).drop (j+1):=by
 rw[aM (by simp[bN];exact h)];simp[UQ]
theorem Lp (h:bY pg){body:aU}(hb:body=yJ){r:List AV}{a b m0:Nat}(hr:bm r=true)(h10:r[10]?=some (.p (.i .i64 a)))(mq:r[11]?=some (.p (.i .i64 b)))(hm0:m0<2 ^ 30) :
  ∀(m j:Nat) (n:aI),j+m=m0->ow n (((UQ a 1 m0).zip (UQ b 1 m0)).drop j) ->
   L pg 1 [0,9,10] body [(0,.ptr 0 0),(9,.p (.i .i64 m0)),(10,.p (.i .i64 j))] [.box (.p (.sl (n.ae.map Up.aw))::.p (.i .i64 n.aV)::r)] =
   some (.exit 0,[(0,.ptr 0 0),(9,.p (.i .i64 m0)),(10,.p (.i .i64 m0)),(11,.p (.b false))],[.box (.p (.sl ((n.Vq (((UQ a 1 m0).zip (UQ b 1 m0)).drop j)).ae.map Up.aw))::.p (.i .i64 (n.Vq (((UQ a 1 m0).zip (UQ b 1 m0)).drop j)).aV)::r)])
 |0,j,n,hm,hok=>by
  have:j=m0:=by omega
  subst this;have e:((UQ a 1 j).zip (UQ b 1 j)).drop j=[]:=cV (by simp[bN]);rw[dA hb,e];simp[yJ,aj,aI.Vq]
 |m+1,j,n,hm,hok=>by
  have he:∀e,aQ true e r=some (r,e):=λe=>bS true e hr;have hlt:j<m0:=by omega
  have hz:=FE a b 1 1 m0 j hlt;rw[hz]at hok;obtain⟨⟨a1,a2,a3,a4,a5,a6⟩,hok'⟩:=hok;have ih:=Lp h hb hr h10 mq hm0 m (j+1) _ (by omega) hok';have e1:=λGs=>t178 (Gs:=Gs) h a1 a2 a3 a4 a5 a6 hr;simp only[show((1+j:Nat):Int)=(j:Int)+1 from by omega]at e1;rw[show((j+1:Nat):Int)=(j:Int)+1 from by omega]at ih;rw[dA hb,hz];simp[yJ,aj,hlt,h10,mq,t152 h,(show bC pg 152=false from h.bq (x:=sT) rfl),e1,cR ((j:Int)+1),gc,exp,aQ,UG,he,ih,aI.Vq]
theorem Lq (h:bY pg){n:aI}{x:Up}{r:List AV}{a b:Nat}(hx:n.ae[a]?=some x)(hr:bm r=true)(h10:r[10]?=some (.p (.i .i64 a)))(mq:r[11]?=some (.p (.i .i64 b)))(hxl:x.to.length<2 ^ 30)
  (hok:ow n ((UQ a 1 (x.to.length-1)).zip (UQ b 1 (x.to.length-1)))) :
  E pg 162 [.ptr 0 0] [.box (.p (.sl (n.ae.map Up.aw))::.p (.i .i64 n.aV)::r)]=some (.ret (.dF []),[.box (.p (.sl ((n.Vq ((UQ a 1 (x.to.length-1)).zip (UQ b 1 (x.to.length-1)))).ae.map Up.aw))::.p (.i .i64 (n.Vq ((UQ a 1 (x.to.length-1)).zip (UQ b 1 (x.to.length-1)))).aV)::r)]):=by
 have he:∀e,aQ true e r=some (r,e):=λe=>bS true e hr;have hb:=bE 1 hr;have hL:=Lp (m0:=x.to.length-1) h rfl hr h10 mq (by omega) (x.to.length-1) 0 n (by omega) (by simpa using hok);rw[fW,bp]at hL;rw[h.run (x:=G7)];cases hm:x.to.length-1 with
 |zero =>
  rw[hm]at hL;simp only[fW]at hL;have e1:=λGs=>AD (Gs:=Gs) (k0:=1) (K:=1) h rfl hx hr hxl (by omega) (by omega);simp[G7,aj,h10,e1,gc,exp,aQ,UG,he,hL,hb]
 |succ m =>
  rw[hm]at hL;have e1:=λGs=>t170 (Gs:=Gs) (k0:=1) (m:=m) (K:=1) h rfl hx hr hxl (by omega);rw[show((m+1:Nat):Int)=(m:Int)+1 from by omega]at hL;simp[G7,aj,h10,e1,gc,exp,aQ,UG,he,hL,hb]
theorem Ib (h:bY pg){n:aI}{Us ao:Nat}{K v:Int}{name:List UInt8}{r:List AV}{Gs:Heap}(hK:K=ao)(hl:n.ae.length<2 ^ 30)(hk:2<=ao)(hx:(Up.mk ao Us v name [] []).ok=true)(hp:(Up.mk ao Us v name [] []).bO<2 ^ 30)(hu:n.used<n.aV)(hr:bm r=true) :
  UM pg (E pg) 166 [.ptr 0 0,.ag [.p (.i .i64 K),.p (.i .i64 Us),.p (.i .i64 v),.p (.s name),.aC,.aC]] (.box (.p (.sl (n.ae.map Up.aw))::.p (.i .i64 n.aV)::r)::Gs)=some (.ret (.p (.i .i64 n.cg)),.box (.p (.sl ((n.make (Up.mk ao Us v name [] [])).ae.map Up.aw))::.p (.i .i64 (n.make (Up.mk ao Us v name [] [])).aV)::r)::Gs):=by
 subst hK;rw[<- t166 h hl hk hx hp hu hr];refine oA λe=>?_;simp[(show bC pg 166=false from h.bq (x:=G8) rfl),exp,aQ,fI.id]
def gU (x y:Up):Up:=⟨12,x.Us,y.n,x.name,[],[]⟩
def aI.half (n:aI)(a b:Nat)(x y:Up):aI:=((n.make (gU x y)).move ⟨a,2⟩ ⟨n.cg,0⟩).move ⟨a,1⟩ ⟨n.cg,1⟩
theorem N3 (h:bY pg){n:aI}{x y:Up}{r:List AV}{a b:Nat}(hx:n.ae[a]?=some x)(hy:n.ae[b]?=some y)(hr:bm r=true)(h10:r[10]?=some (.p (.i .i64 a)))(mq:r[11]?=some (.p (.i .i64 b)))
  (hl:n.ae.length<2 ^ 30) (hok:(gU x y).ok=true) (hu:n.used<n.aV)
  (hmv:dS (n.make (gU x y)) [(⟨a,2⟩,⟨n.cg,0⟩),(⟨a,1⟩,⟨n.cg,1⟩)]) :
  E pg 164 [.ptr 0 0] [.box (.p (.sl (n.ae.map Up.aw))::.p (.i .i64 n.aV)::r)]=some (.ret (.dF []),[.box (.p (.sl ((n.half a b x y).ae.map Up.aw))::.p (.i .i64 (n.half a b x y).aV)::r)]):=by
 have hb:=bE 1 hr;obtain⟨⟨a1,a2,a3,a4⟩,⟨b1,b2,b3,b4⟩,_⟩:=hmv;have e1:=λGs=>Ib (Gs:=Gs) (ao:=12) (K:=12) (Us:=x.Us) (v:=y.n) (name:=x.name) h rfl hl (by omega) hok (by rw[show(Up.mk 12 x.Us y.n x.name [] []).bO=2 from rfl];omega) hu hr;have e2:=λGs=>t165 (Gs:=Gs) h a1 a2 a3 a4 hr;have e3:=λGs=>t165 (Gs:=Gs) h b1 b2 b3 b4 hr;simp only[fW,WW,zj,gU]at e1 e2 e3;rw[h.run (x:=Ji)];simp[Ji,aj,h10,mq,t179 h hx hr,t179 h hy hr,(show bC pg 179=false from h.bq (x:=E7) rfl),h.ro,show qe tL 179=true from rfl,e1,e2,e3,t152 h,hb,aI.half,gU]
end
end Go.Proofs.Z
