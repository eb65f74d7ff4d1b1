/- A part of the proof. -/
import Derived.Test.YtffohgbmjjbhiaaGreatB11
set_option linter.all false
namespace Go.Proofs.Z
section
variable {pg:fX}{G:Heap}
def aI.kM (n:aI)(i:Nat):aI×cF×Nat:=match n.ae[i]?,n.ae[(n.pr ⟨i,0⟩).aD]? with
 |some x,some y=>(match qg n i (n.pr ⟨i,0⟩).aD x y with
  |some e=>(n,.plain 0,e)
  |none=>((n.gW (aX x y).1 (if (aX x y).1.swap then (n.pr ⟨i,0⟩).aD else i) (if (aX x y).1.swap then i else (n.pr ⟨i,0⟩).aD) (if (aX x y).1.swap then y else x) (if (aX x y).1.swap then x else y)).UT
    (if (aX x y).1.swap then (n.pr ⟨i,0⟩).aD else i) (if (aX x y).1.swap then i else (n.pr ⟨i,0⟩).aD),(aX x y).1,0))
 |_,_=>(n,.plain 0,140)
structure JB (n m:aI)(i j:Nat):Prop where
 ok:m.Ok
 aV:m.aV=n.aV
 fix:∀r,Fix n i j r->m.has r/\m.pr r=n.pr r
 bq:∀(k:Nat) (y:Up),k≠i->k≠j->n.ae[k]?=some y->y.ao≠0->∃y',m.ae[k]?=some y'/\y'.bare=y.bare
 i0:i≠0
 j0:j≠0
theorem Fix.swap {n:aI}{a b:Nat}{r:aq}(h:Fix n a b r):Fix n b a r:=⟨h.1,h.2.2.1,h.2.1,h.2.2.2.2,h.2.2.2.1⟩
theorem qf.two {n:aI}{i j:Nat}{x y:Up}(h:qf n i j x y):pE n i j x y:=by
 refine⟨h.ok,h.hx,h.hy,h.x1,?_,h.pr⟩;obtain⟨⟨z,hz,hs⟩,_⟩:=h.ok.lk ⟨i,0⟩ ⟨x,h.hx,h.x1⟩ id;rw[h.pr]at hz hs;dsimp only at hz hs;rw[h.hy]at hz;cases hz;omega
theorem jB.two {p:cF}{x y:Up}(h:jB p x y):2<=x.ao/\2<=y.ao/\p.ao<9:=by
 rcases h with ⟨k,c1,c2⟩|⟨k,c1,c2⟩|⟨k,c1,c2,c3⟩|⟨k,c1,c2⟩|⟨k,c1,c2,z,c3,c4⟩|⟨k,c1,c2⟩|⟨k,c1,c2,c3,c4⟩|⟨k,c1,c2⟩
 ·omega
 ·have:=FJ c2;omega
 ·omega
 ·omega
 ·omega
 ·have:=YW c1;have:=WC (k:=y.ao) (by omega);omega
 ·have:=FJ c1;omega
 ·omega
theorem qf.yX {n:aI}{i j:Nat}{x y:Up}(hm:qf n i j x y):n.kM i=match qg n i j x y with
  |some e=>(n,.plain 0,e)
  |none=>((n.gW (aX x y).1 (if (aX x y).1.swap then j else i) (if (aX x y).1.swap then i else j) (if (aX x y).1.swap then y else x) (if (aX x y).1.swap then x else y)).UT
    (if (aX x y).1.swap then j else i) (if (aX x y).1.swap then i else j),(aX x y).1,0):=by
 unfold aI.kM;rw[hm.pr];dsimp only;rw[hm.hx,hm.hy]
theorem AN {n:aI}{i j:Nat}{x y:Up}{e:Nat}(h:qg n i j x y=some e):e≠0:=by
 unfold qg at h;split at h
 ·cases h;assumption
 ·split at h
  ·cases h;omega
  ·cases h
theorem xI (h:bY pg){n:aI}{i j:Nat}{x y:Up}(hm:qf n i j x y) :
  E pg 132 [.ag [.p (.sl (n.ae.map Up.aw)),.p (.i .i64 n.aV)],.p (.i .i64 i)] []=some (.ret (.dF [.ag [.p (.sl ((n.kM i).1.ae.map Up.aw)),.p (.i .i64 (n.kM i).1.aV)],.ag (bP (n.kM i).2.1.aw),.p (.i .i64 (n.kM i).2.2)]),[])/\(n.kM i).2.1.ao<9/\((n.kM i).2.2=0->JB n (n.kM i).1 i j):=by
 rw[hm.yX];cases ha:qg n i j x y with
 |some e=>exact⟨Lu h hm ha,by show 0<9;omega,λe0=>absurd e0 (AN ha)⟩
 |none =>
  dsimp only;have hr:(aX x y).2=0:=by
   unfold qg at ha;split at ha
   ·cases ha
   ·omega
  have hu:n.used+vN (aX x y).1 (if (aX x y).1.swap then y else x) (if (aX x y).1.swap then x else y)<=n.aV:=by
   unfold qg at ha;rw[aa (by omega)]at ha;split at ha
   ·cases ha
   ·rw[CT]at *;omega
  have hp:=Hl hr;have ht:=hm.two;obtain⟨kx,ky,kp⟩:=hp.two;cases hs:(aX x y).1.swap with
  |false =>
   have hp':=hp;have hu':=hu;rw[hs]at hp' hu';obtain⟨d,hE⟩:=FK h ht hp' hu';have hd:=Lt h hm ha (m:=(n.gW (aX x y).1 i j x y).UT i j) (by rw[hs];simpa [hs] using hE);refine⟨hd,kp,λ_=>?_⟩;simp only[hs,aZ,if_false]at kx ky ⊢;refine⟨d.ok,d.aV,d.fix,d.bq,λe=>?_,λe=>?_⟩
   ·have:=(ht.ok.aD _ _ ht.hx).2.2.2 e;omega
   ·have:=(ht.ok.aD _ _ ht.hy).2.2.2 e;omega
  |true =>
   have hp':=hp;have hu':=hu;rw[hs]at hp' hu';obtain⟨d,hE⟩:=FK h ht.swap hp' hu';have hd:=Lt h hm ha (m:=(n.gW (aX x y).1 j i y x).UT j i) (by rw[hs];simpa [hs] using hE);refine⟨hd,kp,λ_=>?_⟩;simp only[hs,if_true]at kx ky ⊢;refine⟨d.ok,d.aV,λr hr=>d.fix r hr.swap,λk z h1 h2=>d.bq k z h2 h1,λe=>?_,λe=>?_⟩
   ·have:=(ht.ok.aD _ _ ht.hx).2.2.2 e;omega
   ·have:=(ht.ok.aD _ _ ht.hy).2.2.2 e;omega
inductive aI.Reach (n:aI):Nat->Prop
 |root:n.Reach 0
 |step {i:Nat} {x:Up} {p:aq}:n.Reach i->n.ae[i]?=some x->p∈x.to->n.Reach p.aD
def Uy.Inv (l:List Up)(m:Uy):Prop:=∀(i:Nat) (x:Up),m.cd[i]?=some true->l[i]?=some x->i∈m.waits\/∀p,p∈x.to->m.cd[p.aD]?=some true
theorem Uy.DY (m:Uy)(i j:Nat)(h:m.cd[j]?=some true):(m.mark i).cd[j]?=some true:=by
 unfold Uy.mark;split
 ·exact h
 ·dsimp only;rw[List.getElem?_set];split
  ·have:=(gE h).1;rename_i e;rw[ah (by omega)]
  ·exact h
theorem Uy.oE:∀(l:List aq) (m:Uy) (j:Nat),m.cd[j]?=some true->(m.marks l).cd[j]?=some true
 |[],m,j,h=>h
 |p::r,m,j,h=>Uy.oE r _ j (Uy.DY m _ j h)
theorem Uy.Hq {m:Uy}{i:Nat}(h:i<m.cd.length):(m.mark i).cd[i]?=some true:=by
 unfold Uy.mark;split
 ·assumption
 ·dsimp only;rw[List.getElem?_set,ah rfl,ah h]
theorem Uy.AO:∀(l:List aq) (m:Uy),(∀p,p∈l->p.aD<m.cd.length)->∀p,p∈l->(m.marks l).cd[p.aD]?=some true
 |[],m,_,p,hp=>absurd hp (by simp)
 |q::r,m,h,p,hp=>by
  rcases aA.1 hp with rfl|hp
  ·exact Uy.oE r _ _ (Uy.Hq (h _ (by simp)))
  ·exact Uy.AO r _ (λs hs=>by rw[Uy.Wz];exact h s (by simp[hs])) p hp
theorem Uy.BV {m:Uy}{i j:Nat}(h:(m.mark i).cd[j]?=some true):m.cd[j]?=some true\/j∈(m.mark i).waits:=by
 unfold Uy.mark at h ⊢;split at h
 ·exact .inl h
 ·rename_i c;rw[aa c];dsimp only at h ⊢;rw[List.getElem?_set]at h;split at h
  ·rename_i e;exact .inr (by simp[e])
  ·exact .inl h
theorem Uy.BW {m:Uy}{i j:Nat}(h:j∈m.waits):j∈(m.mark i).waits:=by
 unfold Uy.mark;split
 ·exact h
 ·simp[h]
theorem Uy.pI:∀(l:List aq) (m:Uy) (j:Nat),j∈m.waits->j∈(m.marks l).waits
 |[],m,j,h=>h
 |p::r,m,j,h=>Uy.pI r _ j (Uy.BW h)
theorem Uy.tR:∀(l:List aq) (m:Uy) (j:Nat),(m.marks l).cd[j]?=some true->m.cd[j]?=some true\/j∈(m.marks l).waits
 |[],m,j,h=>.inl h
 |p::r,m,j,h=>by
  rcases Uy.tR r _ j h with h|h
  ·rcases Uy.BV h with h|h
   ·exact .inl h
   ·exact .inr (Uy.pI r _ j h)
  ·exact .inr h
theorem Uy.vQ (l:List Up)(hl:∀(i:Nat) (x:Up),l[i]?=some x->∀p,p∈x.to->p.aD<l.length):∀(f:Nat) (m:Uy),m.left<f->m.cd.length=l.length->(∀a,a∈m.waits->a<m.cd.length)->m.Inv l ->
  (∀j:Nat,m.cd[j]?=some true->(Uy.all l f m).cd[j]?=some true)/\(Uy.all l f m).cd.length=l.length/\∀(i:Nat) (x:Up),(Uy.all l f m).cd[i]?=some true->l[i]?=some x->∀p,p∈x.to->(Uy.all l f m).cd[p.aD]?=some true
 |0,m,h,_,_,_=>by omega
 |f+1,m,h,hs,hw,hi=>by
  unfold Uy.all;cases hg:m.waits.getLast? with
  |none =>
   dsimp only;rw[List.getLast?_eq_none_iff]at hg;refine⟨λ_ h=>h,hs,λi x h1 h2=>?_⟩;rcases hi i x h1 h2 with h3|h3
   ·rw[hg]at h3;cases h3
   ·exact h3
  |some k =>
   dsimp only;obtain⟨ys,hys⟩:=List.getLast?_eq_some_iff.1 hg;have hkm:k∈m.waits:=by rw[hys];simp
   have hk:=hw k hkm;have hdl:m.waits.dropLast=ys:=by rw[hys];simp
   have hto:∀p,p∈yT l k->p.aD<m.cd.length:=by
    intro p hp;unfold yT at hp;split at hp
    ·rename_i x hx;rw[hs];exact hl k x hx p hp
    ·cases hp
   have hleft:(({ m with waits:=m.waits.dropLast }:Uy).marks (yT l k)).left=m.left-1:=by
    rw[Uy.q8 (yT l k) ({ m with waits:=m.waits.dropLast }:Uy) hto];unfold Uy.left;dsimp only;have:0<m.waits.length:=fZ hkm;rw[List.length_dropLast];omega
   have hpos:0<m.left:=by
    have:0<m.waits.length:=fZ hkm;unfold Uy.left;omega
   obtain⟨c1,c2,c3⟩:=Uy.vQ l hl f (({ m with waits:=m.waits.dropLast }:Uy).marks (yT l k)) (by rw[hleft];omega) (by rw[Uy.Xg];exact hs)
    (by rw[Uy.Xg];exact Uy.vA _ _ hto (λa ha=>hw a (List.dropLast_subset _ ha))) (λi x h1 h2=>by
     rcases Uy.tR _ _ i h1 with h3|h3
     ·rcases hi i x h3 h2 with h4|h4
      ·rw[hys]at h4;rcases Uz.1 h4 with h5|h5
       ·exact .inl (Uy.pI _ _ _ (by show i∈m.waits.dropLast;rw[hdl];exact h5))
       ·rw[br]at h5;subst h5;refine .inr (λp hp=>Uy.AO _ ({ m with waits:=m.waits.dropLast }:Uy) hto p ?_);unfold yT;rw[h2];exact hp
      ·exact .inr (λp hp=>Uy.oE _ _ _ (h4 p hp))
     ·exact .inl h3)
   exact⟨λj hj=>c1 j (Uy.oE _ _ _ hj),c2,c3⟩
theorem pJ {l:List Up}(h0:0<l.length)(hl:∀(i:Nat) (x:Up),l[i]?=some x->∀p,p∈x.to->p.aD<l.length) :
  (dR l)[0]?=some true/\(dR l).length=l.length/\∀(i:Nat) (x:Up),(dR l)[i]?=some true->l[i]?=some x->∀p,p∈x.to->(dR l)[p.aD]?=some true:=by
 have e:=gY h0;have hleft:(gX l).left=l.length:=by
  unfold gX;rw[Uy.nI (by simpa using h0)];simp[Uy.left,Vb]
 obtain⟨c1,c2,c3⟩:=Uy.vQ l hl (l.length+1) (gX l) (by rw[hleft];omega) (by rw[e];simp) (by rw[e];intro a ha;simp at ha;subst ha;simpa using h0) (λi x h1 h2=>by
  rw[e]at h1 ⊢;dsimp only at h1 ⊢;rw[List.getElem?_set]at h1;split at h1
  ·rename_i e0;exact .inl (by simp[e0])
  ·rw[List.getElem?_replicate]at h1;split at h1<;>cases h1)
 refine⟨c1 0 (by rw[e];simp[h0]),c2,c3⟩
theorem BX {n:aI}(ho:n.Ok){i:Nat}(h:n.Reach i):(dR n.ae)[i]?=some true:=by
 have hl:=ho.len;obtain⟨a1,a2,a3⟩:=pJ (l:=n.ae) (by omega) (λi x hx p hp=>(ho.CU i x hx).2 p hp)
 induction h with
 |root=>exact a1
 |step h1 h2 h3 ih=>exact a3 _ _ ih h2 _ h3
theorem rb {old:List Up}{cd:List Bool}(D:aq->Prop)(hD:∀p:aq,cd[p.aD]?≠some true->D p):∀(i:Nat) {n:aI},n.Sk->Lk n D ->
  (VL old cd i n).Sk/\Lk (VL old cd i n) D/\(∀p,(VL old cd i n).has p↔n.has p/\¬ (1<=p.aD/\p.aD<=i/\cd[p.aD]?=some false/\vB old p.aD=true)) /\
  (∀(j:Nat) (x:Up),cd[j]?=some true->n.ae[j]?=some x->x.ao≠0->(VL old cd i n).ae[j]?=some x)
 |0,n,h,hl=>⟨h,hl,λp=>by simp[VL];omega,λj x _ hx _=>hx⟩
 |i+1,n,h,hl=>by
  simp only[VL];split
  ·rename_i c;have h1:=h.free (i:=i+1) (by omega);have h2:=hl.free h (i:=i+1) (λp _ hp=>hD p (by rw[hp,c.1];simp));obtain⟨a1,a2,a3,a4⟩:=rb D hD i h1 h2;refine⟨a1,a2,λp=>?_,λj x hj hx hk=>a4 j x hj (aI.jc hx hk (λe=>by rw[<- e,c.1]at hj;cases hj)) hk⟩;rw[a3,h.Wb];constructor
   ·rintro⟨⟨b1,b2⟩,b3⟩;refine⟨b1,λe=>b3 ⟨e.1,by omega,e.2.2⟩⟩
   ·rintro⟨b1,b2⟩;refine⟨⟨b1,λe=>b2 ⟨by omega,by omega,by rw[e];exact c⟩⟩,λe=>b2 ⟨e.1,by omega,e.2.2⟩⟩
  ·rename_i c;obtain⟨a1,a2,a3,a4⟩:=rb D hD i h hl;refine⟨a1,a2,λp=>?_,a4⟩;rw[a3];constructor
   ·rintro⟨b1,b2⟩;refine⟨b1,λe=>?_⟩;by_cases e1:p.aD=i+1
    ·exact c (by rw[<- e1];exact e.2.2)
    ·exact b2 ⟨e.1,by omega,e.2.2⟩
   ·rintro⟨b1,b2⟩;exact⟨b1,λe=>b2 ⟨e.1,by omega,e.2.2⟩⟩
theorem vR {n:aI}(ho:n.Ok):n.VY.Ok/\n.VY.aV=n.aV/\∀(j:Nat) (x:Up),n.Reach j->n.ae[j]?=some x->x.ao≠0->n.VY.ae[j]?=some x:=by
 have hlen:=ho.len;obtain⟨r1,r2,r3⟩:=pJ (l:=n.ae) (by omega) (λi x hx p hp=>(ho.CU i x hx).2 p hp);obtain⟨a1,a2,a3,a4⟩:=rb (old:=n.ae) (cd:=dR n.ae) (λp=>(dR n.ae)[p.aD]?≠some true) (λp hp=>hp) (n.ae.length-1) (n:=n) ho.sk (λp hp hD=>by
  obtain⟨b1,b2,b3,b4⟩:=ho.lk p hp id;refine⟨b1,λe=>e ?_,b3,b4⟩;obtain⟨x,hx,hs⟩:=aI.qZ hp;exact r3 p.aD x (by simpa using hD) hx _ (aE hs))
 refine⟨a1.ok a2 (λp hp hD=>?_),pH _ _ _ _,λj x hj hx hk=>a4 j x (BX ho hj) hx hk⟩;obtain⟨c1,c2⟩:=(a3 p).1 hp;obtain⟨x,hx,hs⟩:=c1;have hlt:p.aD<n.ae.length:=(gE hx).1;have hk:x.ao≠0:=λe=>by have:=ho.sk.W8 hx e;omega
 have hne:p.aD≠0:=λe=>hD (by rw[e];exact r1);refine c2 ⟨by omega,by omega,?_,by unfold vB;rw[hx];simpa using hk⟩;have:p.aD<(dR n.ae).length:=by rw[r2];exact hlt
 rw[gG this]at hD ⊢;simp only[ne_eq,bG,V8]at hD;rw[hD]
theorem PZ (h:bY pg){body:aU}(hb:body=oY){a0 a1 a2 a3 a4 a5 a6 a7 a8 k0 k1 k2 k3 k4 k5 k6 k7 k8 d:Int}{N C X Y U V:AV}(hN:cE N=true)(hC:cE C=true)(hX:cE X=true)(hY:cE Y=true)(hU:cE U=true)(hV:cE V=true)(hb0:0<=a0/\a0<2 ^ 50/\0<=k0/\k0<2 ^ 50)(hb1:0<=a1/\a1<2 ^ 50/\0<=k1/\k1<2 ^ 50)(hb2:0<=a2/\a2<2 ^ 50/\0<=k2/\k2<2 ^ 50)(hb3:0<=a3/\a3<2 ^ 50/\0<=k3/\k3<2 ^ 50)(hb4:0<=a4/\a4<2 ^ 50/\0<=k4/\k4<2 ^ 50)(hb5:0<=a5/\a5<2 ^ 50/\0<=k5/\k5<2 ^ 50)(hb6:0<=a6/\a6<2 ^ 50/\0<=k6/\k6<2 ^ 50)(hb7:0<=a7/\a7<2 ^ 50/\0<=k7/\k7<2 ^ 50)(hb8:0<=a8/\a8<2 ^ 50/\0<=k8/\k8<2 ^ 50)(hd:0<=d/\d<2 ^ 50) :
  L pg 1 [0,6,8,35,36] body [(0,.ptr 0 0),(6,U),(8,V),(35,.ag [.p (.i .i64 k0),.p (.i .i64 k1),.p (.i .i64 k2),.p (.i .i64 k3),.p (.i .i64 k4),.p (.i .i64 k5),.p (.i .i64 k6),.p (.i .i64 k7),.p (.i .i64 k8)]),(36,.p (.i .i64 0))] [.box [N,C,.p (.i .i64 (a0)),.p (.i .i64 (a1)),.p (.i .i64 (a2)),.p (.i .i64 (a3)),.p (.i .i64 (a4)),.p (.i .i64 (a5)),.p (.i .i64 (a6)),.p (.i .i64 (a7)),.p (.i .i64 (a8)),.p (.i .i64 (d)),X,Y]]=some (.exit 0,[(0,.ptr 0 0),(6,U),(8,V),(35,.ag [.p (.i .i64 k0),.p (.i .i64 k1),.p (.i .i64 k2),.p (.i .i64 k3),.p (.i .i64 k4),.p (.i .i64 k5),.p (.i .i64 k6),.p (.i .i64 k7),.p (.i .i64 k8)]),(36,.p (.i .i64 9)),(37,.p (.b false))],[.box [N,C,.p (.i .i64 (a0+k0)),.p (.i .i64 (a1+k1)),.p (.i .i64 (a2+k2)),.p (.i .i64 (a3+k3)),.p (.i .i64 (a4+k4)),.p (.i .i64 (a5+k5)),.p (.i .i64 (a6+k6)),.p (.i .i64 (a7+k7)),.p (.i .i64 (a8+k8)),.p (.i .i64 (d+k0+k1+k2+k3+k4+k5+k6+k7+k8)),X,Y]]):=by
 have heN:∀e,exp true e N=some (N,e):=λe=>fM true e hN;have heC:∀e,exp true e C=some (C,e):=λe=>fM true e hC;have heX:∀e,exp true e X=some (X,e):=λe=>fM true e hX;have heY:∀e,exp true e Y=some (Y,e):=λe=>fM true e hY;have heU:∀e,exp true e U=some (U,e):=λe=>fM true e hU;have heV:∀e,exp true e V=some (V,e):=λe=>fM true e hV;have t9:L pg 1 [0,6,8,35,36] body [(0,.ptr 0 0),(6,U),(8,V),(35,.ag [.p (.i .i64 k0),.p (.i .i64 k1),.p (.i .i64 k2),.p (.i .i64 k3),.p (.i .i64 k4),.p (.i .i64 k5),.p (.i .i64 k6),.p (.i .i64 k7),.p (.i .i64 k8)]),(36,.p (.i .i64 9))] [.box [N,C,.p (.i .i64 (a0+k0)),.p (.i .i64 (a1+k1)),.p (.i .i64 (a2+k2)),.p (.i .i64 (a3+k3)),.p (.i .i64 (a4+k4)),.p (.i .i64 (a5+k5)),.p (.i .i64 (a6+k6)),.p (.i .i64 (a7+k7)),.p (.i .i64 (a8+k8)),.p (.i .i64 (d+k0+k1+k2+k3+k4+k5+k6+k7+k8)),X,Y]]=some (.exit 0,[(0,.ptr 0 0),(6,U),(8,V),(35,.ag [.p (.i .i64 k0),.p (.i .i64 k1),.p (.i .i64 k2),.p (.i .i64 k3),.p (.i .i64 k4),.p (.i .i64 k5),.p (.i .i64 k6),.p (.i .i64 k7),.p (.i .i64 k8)]),(36,.p (.i .i64 9)),(37,.p (.b false))],[.box [N,C,.p (.i .i64 (a0+k0)),.p (.i .i64 (a1+k1)),.p (.i .i64 (a2+k2)),.p (.i .i64 (a3+k3)),.p (.i .i64 (a4+k4)),.p (.i .i64 (a5+k5)),.p (.i .i64 (a6+k6)),.p (.i .i64 (a7+k7)),.p (.i .i64 (a8+k8)),.p (.i .i64 (d+k0+k1+k2+k3+k4+k5+k6+k7+k8)),X,Y]]):=by
  rw[dA hb];simp[oY,aj]
 have t8:L pg 1 [0,6,8,35,36] body [(0,.ptr 0 0),(6,U),(8,V),(35,.ag [.p (.i .i64 k0),.p (.i .i64 k1),.p (.i .i64 k2),.p (.i .i64 k3),.p (.i .i64 k4),.p (.i .i64 k5),.p (.i .i64 k6),.p (.i .i64 k7),.p (.i .i64 k8)]),(36,.p (.i .i64 8))] [.box [N,C,.p (.i .i64 (a0+k0)),.p (.i .i64 (a1+k1)),.p (.i .i64 (a2+k2)),.p (.i .i64 (a3+k3)),.p (.i .i64 (a4+k4)),.p (.i .i64 (a5+k5)),.p (.i .i64 (a6+k6)),.p (.i .i64 (a7+k7)),.p (.i .i64 (a8)),.p (.i .i64 (d+k0+k1+k2+k3+k4+k5+k6+k7)),X,Y]]=some (.exit 0,[(0,.ptr 0 0),(6,U),(8,V),(35,.ag [.p (.i .i64 k0),.p (.i .i64 k1),.p (.i .i64 k2),.p (.i .i64 k3),.p (.i .i64 k4),.p (.i .i64 k5),.p (.i .i64 k6),.p (.i .i64 k7),.p (.i .i64 k8)]),(36,.p (.i .i64 9)),(37,.p (.b false))],[.box [N,C,.p (.i .i64 (a0+k0)),.p (.i .i64 (a1+k1)),.p (.i .i64 (a2+k2)),.p (.i .i64 (a3+k3)),.p (.i .i64 (a4+k4)),.p (.i .i64 (a5+k5)),.p (.i .i64 (a6+k6)),.p (.i .i64 (a7+k7)),.p (.i .i64 (a8+k8)),.p (.i .i64 (d+k0+k1+k2+k3+k4+k5+k6+k7+k8)),X,Y]]):=by
  rw[dA hb];simp[oY,aj,cR (a8+k8),cR (d+k0+k1+k2+k3+k4+k5+k6+k7+k8),cR 9,gc,exp,aQ,UG,heN,heC,heX,heY,heU,heV,t9]
 have t7:L pg 1 [0,6,8,35,36] body [(0,.ptr 0 0),(6,U),(8,V),(35,.ag [.p (.i .i64 k0),.p (.i .i64 k1),.p (.i .i64 k2),.p (.i .i64 k3),.p (.i .i64 k4),.p (.i .i64 k5),.p (.i .i64 k6),.p (.i .i64 k7),.p (.i .i64 k8)]),(36,.p (.i .i64 7))] [.box [N,C,.p (.i .i64 (a0+k0)),.p (.i .i64 (a1+k1)),.p (.i .i64 (a2+k2)),.p (.i .i64 (a3+k3)),.p (.i .i64 (a4+k4)),.p (.i .i64 (a5+k5)),.p (.i .i64 (a6+k6)),.p (.i .i64 (a7)),.p (.i .i64 (a8)),.p (.i .i64 (d+k0+k1+k2+k3+k4+k5+k6)),X,Y]]=some (.exit 0,[(0,.ptr 0 0),(6,U),(8,V),(35,.ag [.p (.i .i64 k0),.p (.i .i64 k1),.p (.i .i64 k2),.p (.i .i64 k3),.p (.i .i64 k4),.p (.i .i64 k5),.p (.i .i64 k6),.p (.i .i64 k7),.p (.i .i64 k8)]),(36,.p (.i .i64 9)),(37,.p (.b false))],[.box [N,C,.p (.i .i64 (a0+k0)),.p (.i .i64 (a1+k1)),.p (.i .i64 (a2+k2)),.p (.i .i64 (a3+k3)),.p (.i .i64 (a4+k4)),.p (.i .i64 (a5+k5)),.p (.i .i64 (a6+k6)),.p (.i .i64 (a7+k7)),.p (.i .i64 (a8+k8)),.p (.i .i64 (d+k0+k1+k2+k3+k4+k5+k6+k7+k8)),X,Y]]):=by
  rw[dA hb];simp[oY,aj,cR (a7+k7),cR (d+k0+k1+k2+k3+k4+k5+k6+k7),cR 8,gc,exp,aQ,UG,heN,heC,heX,heY,heU,heV,t8]
 have t6:L pg 1 [0,6,8,35,36] body [(0,.ptr 0 0),(6,U),(8,V),(35,.ag [.p (.i .i64 k0),.p (.i .i64 k1),.p (.i .i64 k2),.p (.i .i64 k3),.p (.i .i64 k4),.p (.i .i64 k5),.p (.i .i64 k6),.p (.i .i64 k7),.p (.i .i64 k8)]),(36,.p (.i .i64 6))] [.box [N,C,.p (.i .i64 (a0+k0)),.p (.i .i64 (a1+k1)),.p (.i .i64 (a2+k2)),.p (.i .i64 (a3+k3)),.p (.i .i64 (a4+k4)),.p (.i .i64 (a5+k5)),.p (.i .i64 (a6)),.p (.i .i64 (a7)),.p (.i .i64 (a8)),.p (.i .i64 (d+k0+k1+k2+k3+k4+k5)),X,Y]]=some (.exit 0,[(0,.ptr 0 0),(6,U),(8,V),(35,.ag [.p (.i .i64 k0),.p (.i .i64 k1),.p (.i .i64 k2),.p (.i .i64 k3),.p (.i .i64 k4),.p (.i .i64 k5),.p (.i .i64 k6),.p (.i .i64 k7),.p (.i .i64 k8)]),(36,.p (.i .i64 9)),(37,.p (.b false))],[.box [N,C,.p (.i .i64 (a0+k0)),.p (.i .i64 (a1+k1)),.p (.i .i64 (a2+k2)),.p (.i .i64 (a3+k3)),.p (.i .i64 (a4+k4)),.p (.i .i64 (a5+k5)),.p (.i .i64 (a6+k6)),.p (.i .i64 (a7+k7)),.p (.i .i64 (a8+k8)),.p (.i .i64 (d+k0+k1+k2+k3+k4+k5+k6+k7+k8)),X,Y]]):=by
  rw[dA hb];simp[oY,aj,cR (a6+k6),cR (d+k0+k1+k2+k3+k4+k5+k6),cR 7,gc,exp,aQ,UG,heN,heC,heX,heY,heU,heV,t7]
 have t5:L pg 1 [0,6,8,35,36] body [(0,.ptr 0 0),(6,U),(8,V),(35,.ag [.p (.i .i64 k0),.p (.i .i64 k1),.p (.i .i64 k2),.p (.i .i64 k3),.p (.i .i64 k4),.p (.i .i64 k5),.p (.i .i64 k6),.p (.i .i64 k7),.p (.i .i64 k8)]),(36,.p (.i .i64 5))] [.box [N,C,.p (.i .i64 (a0+k0)),.p (.i .i64 (a1+k1)),.p (.i .i64 (a2+k2)),.p (.i .i64 (a3+k3)),.p (.i .i64 (a4+k4)),.p (.i .i64 (a5)),.p (.i .i64 (a6)),.p (.i .i64 (a7)),.p (.i .i64 (a8)),.p (.i .i64 (d+k0+k1+k2+k3+k4)),X,Y]]=some (.exit 0,[(0,.ptr 0 0),(6,U),(8,V),(35,.ag [.p (.i .i64 k0),.p (.i .i64 k1),.p (.i .i64 k2),.p (.i .i64 k3),.p (.i .i64 k4),.p (.i .i64 k5),.p (.i .i64 k6),.p (.i .i64 k7),.p (.i .i64 k8)]),(36,.p (.i .i64 9)),(37,.p (.b false))],[.box [N,C,.p (.i .i64 (a0+k0)),.p (.i .i64 (a1+k1)),.p (.i .i64 (a2+k2)),.p (.i .i64 (a3+k3)),.p (.i .i64 (a4+k4)),.p (.i .i64 (a5+k5)),.p (.i .i64 (a6+k6)),.p (.i .i64 (a7+k7)),.p (.i .i64 (a8+k8)),.p (.i .i64 (d+k0+k1+k2+k3+k4+k5+k6+k7+k8)),X,Y]]):=by
  rw[dA hb];simp[oY,aj,cR (a5+k5),cR (d+k0+k1+k2+k3+k4+k5),cR 6,gc,exp,aQ,UG,heN,heC,heX,heY,heU,heV,t6]
 have t4:L pg 1 [0,6,8,35,36] body [(0,.ptr 0 0),(6,U),(8,V),(35,.ag [.p (.i .i64 k0),.p (.i .i64 k1),.p (.i .i64 k2),.p (.i .i64 k3),.p (.i .i64 k4),.p (.i .i64 k5),.p (.i .i64 k6),.p (.i .i64 k7),.p (.i .i64 k8)]),(36,.p (.i .i64 4))] [.box [N,C,.p (.i .i64 (a0+k0)),.p (.i .i64 (a1+k1)),.p (.i .i64 (a2+k2)),.p (.i .i64 (a3+k3)),.p (.i .i64 (a4)),.p (.i .i64 (a5)),.p (.i .i64 (a6)),.p (.i .i64 (a7)),.p (.i .i64 (a8)),.p (.i .i64 (d+k0+k1+k2+k3)),X,Y]]=some (.exit 0,[(0,.ptr 0 0),(6,U),(8,V),(35,.ag [.p (.i .i64 k0),.p (.i .i64 k1),.p (.i .i64 k2),.p (.i .i64 k3),.p (.i .i64 k4),.p (.i .i64 k5),.p (.i .i64 k6),.p (.i .i64 k7),.p (.i .i64 k8)]),(36,.p (.i .i64 9)),(37,.p (.b false))],[.box [N,C,.p (.i .i64 (a0+k0)),.p (.i .i64 (a1+k1)),.p (.i .i64 (a2+k2)),.p (.i .i64 (a3+k3)),.p (.i .i64 (a4+k4)),.p (.i .i64 (a5+k5)),.p (.i .i64 (a6+k6)),.p (.i .i64 (a7+k7)),.p (.i .i64 (a8+k8)),.p (.i .i64 (d+k0+k1+k2+k3+k4+k5+k6+k7+k8)),X,Y]]):=by
  rw[dA hb];simp[oY,aj,cR (a4+k4),cR (d+k0+k1+k2+k3+k4),cR 5,gc,exp,aQ,UG,heN,heC,heX,heY,heU,heV,t5]
 have t3:L pg 1 [0,6,8,35,36] body [(0,.ptr 0 0),(6,U),(8,V),(35,.ag [.p (.i .i64 k0),.p (.i .i64 k1),.p (.i .i64 k2),.p (.i .i64 k3),.p (.i .i64 k4),.p (.i .i64 k5),.p (.i .i64 k6),.p (.i .i64 k7),.p (.i .i64 k8)]),(36,.p (.i .i64 3))] [.box [N,C,.p (.i .i64 (a0+k0)),.p (.i .i64 (a1+k1)),.p (.i .i64 (a2+k2)),.p (.i .i64 (a3)),.p (.i .i64 (a4)),.p (.i .i64 (a5)),.p (.i .i64 (a6)),.p (.i .i64 (a7)),.p (.i .i64 (a8)),.p (.i .i64 (d+k0+k1+k2)),X,Y]]=some (.exit 0,[(0,.ptr 0 0),(6,U),(8,V),(35,.ag [.p (.i .i64 k0),.p (.i .i64 k1),.p (.i .i64 k2),.p (.i .i64 k3),.p (.i .i64 k4),.p (.i .i64 k5),.p (.i .i64 k6),.p (.i .i64 k7),.p (.i .i64 k8)]),(36,.p (.i .i64 9)),(37,.p (.b false))],[.box [N,C,.p (.i .i64 (a0+k0)),.p (.i .i64 (a1+k1)),.p (.i .i64 (a2+k2)),.p (.i .i64 (a3+k3)),.p (.i .i64 (a4+k4)),.p (.i .i64 (a5+k5)),.p (.i .i64 (a6+k6)),.p (.i .i64 (a7+k7)),.p (.i .i64 (a8+k8)),.p (.i .i64 (d+k0+k1+k2+k3+k4+k5+k6+k7+k8)),X,Y]]):=by
  rw[dA hb];simp[oY,aj,cR (a3+k3),cR (d+k0+k1+k2+k3),cR 4,gc,exp,aQ,UG,heN,heC,heX,heY,heU,heV,t4]
 have t2:L pg 1 [0,6,8,35,36] body [(0,.ptr 0 0),(6,U),(8,V),(35,.ag [.p (.i .i64 k0),.p (.i .i64 k1),.p (.i .i64 k2),.p (.i .i64 k3),.p (.i .i64 k4),.p (.i .i64 k5),.p (.i .i64 k6),.p (.i .i64 k7),.p (.i .i64 k8)]),(36,.p (.i .i64 2))] [.box [N,C,.p (.i .i64 (a0+k0)),.p (.i .i64 (a1+k1)),.p (.i .i64 (a2)),.p (.i .i64 (a3)),.p (.i .i64 (a4)),.p (.i .i64 (a5)),.p (.i .i64 (a6)),.p (.i .i64 (a7)),.p (.i .i64 (a8)),.p (.i .i64 (d+k0+k1)),X,Y]]=some (.exit 0,[(0,.ptr 0 0),(6,U),(8,V),(35,.ag [.p (.i .i64 k0),.p (.i .i64 k1),.p (.i .i64 k2),.p (.i .i64 k3),.p (.i .i64 k4),.p (.i .i64 k5),.p (.i .i64 k6),.p (.i .i64 k7),.p (.i .i64 k8)]),(36,.p (.i .i64 9)),(37,.p (.b false))],[.box [N,C,.p (.i .i64 (a0+k0)),.p (.i .i64 (a1+k1)),.p (.i .i64 (a2+k2)),.p (.i .i64 (a3+k3)),.p (.i .i64 (a4+k4)),.p (.i .i64 (a5+k5)),.p (.i .i64 (a6+k6)),.p (.i .i64 (a7+k7)),.p (.i .i64 (a8+k8)),.p (.i .i64 (d+k0+k1+k2+k3+k4+k5+k6+k7+k8)),X,Y]]):=by
  rw[dA hb];simp[oY,aj,cR (a2+k2),cR (d+k0+k1+k2),cR 3,gc,exp,aQ,UG,heN,heC,heX,heY,heU,heV,t3]
 have t1:L pg 1 [0,6,8,35,36] body [(0,.ptr 0 0),(6,U),(8,V),(35,.ag [.p (.i .i64 k0),.p (.i .i64 k1),.p (.i .i64 k2),.p (.i .i64 k3),.p (.i .i64 k4),.p (.i .i64 k5),.p (.i .i64 k6),.p (.i .i64 k7),.p (.i .i64 k8)]),(36,.p (.i .i64 1))] [.box [N,C,.p (.i .i64 (a0+k0)),.p (.i .i64 (a1)),.p (.i .i64 (a2)),.p (.i .i64 (a3)),.p (.i .i64 (a4)),.p (.i .i64 (a5)),.p (.i .i64 (a6)),.p (.i .i64 (a7)),.p (.i .i64 (a8)),.p (.i .i64 (d+k0)),X,Y]]=some (.exit 0,[(0,.ptr 0 0),(6,U),(8,V),(35,.ag [.p (.i .i64 k0),.p (.i .i64 k1),.p (.i .i64 k2),.p (.i .i64 k3),.p (.i .i64 k4),.p (.i .i64 k5),.p (.i .i64 k6),.p (.i .i64 k7),.p (.i .i64 k8)]),(36,.p (.i .i64 9)),(37,.p (.b false))],[.box [N,C,.p (.i .i64 (a0+k0)),.p (.i .i64 (a1+k1)),.p (.i .i64 (a2+k2)),.p (.i .i64 (a3+k3)),.p (.i .i64 (a4+k4)),.p (.i .i64 (a5+k5)),.p (.i .i64 (a6+k6)),.p (.i .i64 (a7+k7)),.p (.i .i64 (a8+k8)),.p (.i .i64 (d+k0+k1+k2+k3+k4+k5+k6+k7+k8)),X,Y]]):=by
  rw[dA hb];simp[oY,aj,cR (a1+k1),cR (d+k0+k1),cR 2,gc,exp,aQ,UG,heN,heC,heX,heY,heU,heV,t2]
 have t0:L pg 1 [0,6,8,35,36] body [(0,.ptr 0 0),(6,U),(8,V),(35,.ag [.p (.i .i64 k0),.p (.i .i64 k1),.p (.i .i64 k2),.p (.i .i64 k3),.p (.i .i64 k4),.p (.i .i64 k5),.p (.i .i64 k6),.p (.i .i64 k7),.p (.i .i64 k8)]),(36,.p (.i .i64 0))] [.box [N,C,.p (.i .i64 (a0)),.p (.i .i64 (a1)),.p (.i .i64 (a2)),.p (.i .i64 (a3)),.p (.i .i64 (a4)),.p (.i .i64 (a5)),.p (.i .i64 (a6)),.p (.i .i64 (a7)),.p (.i .i64 (a8)),.p (.i .i64 (d)),X,Y]]=some (.exit 0,[(0,.ptr 0 0),(6,U),(8,V),(35,.ag [.p (.i .i64 k0),.p (.i .i64 k1),.p (.i .i64 k2),.p (.i .i64 k3),.p (.i .i64 k4),.p (.i .i64 k5),.p (.i .i64 k6),.p (.i .i64 k7),.p (.i .i64 k8)]),(36,.p (.i .i64 9)),(37,.p (.b false))],[.box [N,C,.p (.i .i64 (a0+k0)),.p (.i .i64 (a1+k1)),.p (.i .i64 (a2+k2)),.p (.i .i64 (a3+k3)),.p (.i .i64 (a4+k4)),.p (.i .i64 (a5+k5)),.p (.i .i64 (a6+k6)),.p (.i .i64 (a7+k7)),.p (.i .i64 (a8+k8)),.p (.i .i64 (d+k0+k1+k2+k3+k4+k5+k6+k7+k8)),X,Y]]):=by
  rw[dA hb];simp[oY,aj,cR (a0+k0),cR (d+k0),cR 1,gc,exp,aQ,UG,heN,heC,heX,heY,heU,heV,t1]
 exact t0
def DZ (n:aI)(T:List Nat)(d F:Nat)(D:Bool):List AV:=.p (.sl (n.ae.map Up.aw))::.p (.i .i64 n.aV)::(cJ T++[.p (.i .i64 d),.p (.i .i64 F),.p (.b D)])
theorem Qa (n:aI)(T:List Nat)(d F:Nat)(D:Bool):bm (DZ n T d F D)=true:=by
 simp[DZ,bm,cE,oC,l6]
def yY (T K:List Nat):List Nat:=List.zipWith (·+·) T K
theorem xJ:∀(T K:List Nat) (k:Nat),T.length=K.length->yY T (Vs K k)=Vs (yY T K) k
 |[],[],k,_=>by simp[yY,Vs]
 |[],_::_,k,h=>by simp at h
 |_::_,[],k,h=>by simp at h
 |a::T,b::K,0,h=>by simp[yY,Vs];omega
 |a::T,b::K,k+1,h=>by
  have:=xJ T K k (by simpa using h);simp only[yY,Vs,bF,jj,ib]at this ⊢;rw[this]
theorem xK:∀(ks T K:List Nat),T.length=K.length->yY T (ks.foldl Vs K)=ks.foldl Vs (yY T K)
 |[],T,K,h=>rfl
 |k::r,T,K,h=>by
  simp only[Vw];rw[xK r T (Vs K k) (by rw[XH];exact h),xJ T K k h]
theorem AP:∀(K:List Nat) (k:Nat),k<K.length->(Vs K k).sum=K.sum+1
 |[],k,h=>by simp at h
 |a::K,0,h=>by simp[Vs];omega
 |a::K,k+1,h=>by
  have:=AP K k (by simpa using h);simp only[Vs,bF,jj,dK]at this ⊢;omega
theorem vS:∀(ks K:List Nat),(∀k,k∈ks->k<K.length)->(ks.foldl Vs K).sum=K.sum+ks.length
 |[],K,h=>by simp
 |k::r,K,h=>by
  simp only[Vw,av];rw[vS r (Vs K k) (by rw[XH];exact λj hj=>h j (by simp[hj])),AP K k (h k (by simp))];omega
theorem yZ:∀(ks K:List Nat) {B:Nat},(∀a,a∈K->a<B)->0<B->∀a,a∈ks.foldl Vs K->a<B+ks.length
 |[],K,B,h,_=>by simpa using h
 |k::r,K,B,h,hB=>by
  intro a ha;have:=yZ r (Vs K k) (CV h hB) (by omega) a ha;simp only[av];omega
theorem WR {step:VZ}{p:aq}:∀(l:Nat) (n:aI),oD pg step l n p->(∀k,k∈(dc step l n p).2.1->k<9)/\(dc step l n p).2.1.length<=l
 |0,n,hok=>by
  unfold dc;split
  ·simp
  ·split<;>simp
 |l+1,n,hok=>by
  unfold dc;by_cases c1:(n.next p).2.2=0
  ·rw[aa (by simpa using c1)];cases c2:(n.next p).2.1 with
   |false=>simp
   |true =>
    obtain⟨_,_,hst⟩:=hok;obtain⟨⟨_,s2⟩,s3⟩:=hst c1 c2;simp only[Bool.true_eq_false,if_false];by_cases c3:(step n (n.next p).1).2.2=0
    ·rw[aa (by simpa using c3)];obtain⟨i1,i2⟩:=WR l _ (s3 c3);refine⟨λk hk=>?_,by simp;omega⟩;rcases aA.1 hk with rfl|hk
     ·exact s2
     ·exact i1 k hk
    ·rw[ah (by simpa using c3)];simp
  ·rw[ah (by simpa using c1)];simp
theorem t66 (h:bY pg){step:VZ}{n:aI}{p:aq}{F:Nat}(hF:F<=100000)(hok:oD pg step F n p) :
  UM pg (E pg) 66 [.ag [.p (.sl (n.ae.map Up.aw)),.p (.i .i64 n.aV)],.ag [.p (.i .i64 p.aD),.p (.i .i64 p.aT)],.p (.i .i64 F)] G=some (.ret (.dF [.ag [.p (.sl ((dc step F n p).1.ae.map Up.aw)),.p (.i .i64 (dc step F n p).1.aV)],.p (.i .i64 (dc step F n p).2.2.1),.ag (cJ ((dc step F n p).2.1.foldl Vs U4)),.p (.i .i64 (dc step F n p).2.2.2)]),G):=by
 have:=PY h hF hok;exact Ut this (by simp[bm,cE]) (by
  simp only[Out.bf,bf,cH,fL,UX];exact bE 0 (l6 _))
def CW (R:aI×List Nat×Nat×Nat)(T:List Nat)(d F:Nat)(D:Bool):Out×Heap :=
 (if R.2.2.2=0 then .ret (.p (.i .i64 R.2.2.1)) else .iL (.eT 70 (.ag [.p (.i .i64 R.2.2.2)])),[.box (DZ R.1 (R.2.1.foldl Vs T) (d+R.2.1.length) F D)])
theorem P0 (h:bY pg){step:VZ}{n:aI}{p:aq}{F d:Nat}{T:List Nat}{D:Bool}(hF:F<=100000)(hd:d<=F)(hT:T.length=9)(hTb:∀k,k∈T->k<2 ^ 40)(hok:oD pg step (F-d) n p) :
  E pg 46 [.ptr 0 0,.ag [.p (.i .i64 p.aD),.p (.i .i64 p.aT)]] [.box (DZ n T d F D)]=some (CW (dc step (F-d) n p) T d F D):=by
 have e1:=λG=>t66 (G:=G) h (by omega) hok;obtain⟨k1,k2⟩:=WR _ _ hok;unfold CW;generalize (dc step (F-d) n p)=R at *;rcases R with ⟨m,ks,nU,err⟩
 dsimp only at e1 k1 k2 ⊢;have hsum:=vS ks U4 k1;have hadd:=xK ks T U4 hT;have hKl:(ks.foldl Vs U4).length=9:=by rw[gZ];rfl
 have hKb:=yZ ks U4 (B:=1) (by simp[U4]) (by omega);have hT0:yY T U4=T:=by
  match T,hT with
  |[a0,a1,a2,a3,a4,a5,a6,a7,a8],_=>rfl
 rw[hT0]at hadd;rw[show U4.sum=0 from rfl,aG]at hsum;rw[<- hadd,<- hsum];generalize ks.foldl Vs U4=K at *;obtain⟨a0,a1,a2,a3,a4,a5,a6,a7,a8,rfl⟩:∃a0 a1 a2 a3 a4 a5 a6 a7 a8,T=[a0,a1,a2,a3,a4,a5,a6,a7,a8]:=by
  match T,hT with
  |[a0,a1,a2,a3,a4,a5,a6,a7,a8],_=>exact⟨a0,a1,a2,a3,a4,a5,a6,a7,a8,rfl⟩
 obtain⟨b0,b1,b2,b3,b4,b5,b6,b7,b8,rfl⟩:∃a0 a1 a2 a3 a4 a5 a6 a7 a8,K=[a0,a1,a2,a3,a4,a5,a6,a7,a8]:=by
  match K,hKl with
  |[a0,a1,a2,a3,a4,a5,a6,a7,a8],_=>exact⟨a0,a1,a2,a3,a4,a5,a6,a7,a8,rfl⟩
 simp at hTb hKb hsum;have hL:=PZ (pg:=pg) (N:=.p (.sl (m.ae.map Up.aw))) (C:=.p (.i .i64 m.aV)) (X:=.p (.i .i64 F)) (Y:=.p (.b D)) (U:=.p (.i .i64 nU)) (V:=.p (.i .i64 err)) (a0:=a0) (a1:=a1) (a2:=a2) (a3:=a3) (a4:=a4) (a5:=a5) (a6:=a6) (a7:=a7) (a8:=a8) (k0:=b0) (k1:=b1) (k2:=b2) (k3:=b3) (k4:=b4) (k5:=b5) (k6:=b6) (k7:=b7) (k8:=b8) (d:=d) h rfl rfl rfl rfl rfl rfl rfl (by omega) (by omega) (by omega) (by omega) (by omega) (by omega) (by omega) (by omega) (by omega) (by omega);have e2:(F:Int)-d=((F-d:Nat):Int):=by omega
 have e3:=cR ((F-d:Nat):Int);simp only[cJ,DZ,ai,au,aH,aL,yY,ib,my,dK,V_]at e1 hL ⊢;rw[h.run (x:=MB)];by_cases he:err=0
 ·rw[ah he];have he':(err:Int)=0:=by omega
  simp[MB,aj,e2,e3,e1,gc,exp,aQ,UG,hL,Ur he,Ur he']
  try omega
 ·rw[aa he];have he':¬ (err:Int)=0:=by omega
  simp[MB,aj,e2,e3,e1,gc,exp,aQ,UG,hL,he,he']
  try omega
inductive aO where
 |mk (ao:Nat) (n:Int) (name:List UInt8) (l:List aO)
 deriving Inhabited
mutual
def aO.aw:aO->List PV
 |.mk k n s l=>[iv k,iv n,.s s,.sl (aO.df l)]
def aO.df:List aO->List (List PV)
 |[]=>[]
 |a::r=>a.aw::aO.df r
end
theorem aO.ba:∀l,aO.df l=l.map aO.aw
 |[]=>rfl
 |a::r=>by simp[aO.df,aO.ba r]
theorem aO.JC (s:aO):aS 4 s.aw=true:=by
 cases s;simp[aO.aw,aS,PV.flat]
def aO.zero:aO:=.mk 0 0 [] []
def aO.lazy:aO:=.mk 5 0 [] []
structure RS where
 cS:aI
 T:List Nat
 d:Nat
def UN (R:aI×List Nat×Nat×Nat)(s:RS):RS:=⟨R.1,R.2.1.foldl Vs s.T,s.d+R.2.1.length⟩
def gA (D:Bool)(rd:RS->aq->RS×Nat×aO)(i:Nat):Nat->Nat->RS->RS×Nat×List aO
 |0,_,s=>(s,0,[])
 |c+1,k,s=>match D with
  |true=>if (rd s ⟨i,k⟩).2.1≠0 then ((rd s ⟨i,k⟩).1,(rd s ⟨i,k⟩).2.1,[]) else
    ((gA D rd i c (k+1) (rd s ⟨i,k⟩).1).1,(gA D rd i c (k+1) (rd s ⟨i,k⟩).1).2.1,(rd s ⟨i,k⟩).2.2::(gA D rd i c (k+1) (rd s ⟨i,k⟩).1).2.2)
  |false=>((gA D rd i c (k+1) s).1,(gA D rd i c (k+1) s).2.1,aO.lazy::(gA D rd i c (k+1) s).2.2)
def shapeOf (D:Bool)(rd:RS->aq->RS×Nat×aO)(s:RS)(i:Nat):RS×Nat×aO:=match s.cS.ae[i]? with
 |none=>(s,190,.zero)
 |some x=>if x.ao=10 then (s,0,.mk 1 x.n [] []) else if x.ao=2 then (s,0,.mk 3 0 [] []) else if x.ao=13 then (s,0,.mk 4 0 [] [])
  else if x.ao=8 then (if (gA D rd i (x.to.length-1) 1 s).2.1≠0 then ((gA D rd i (x.to.length-1) 1 s).1,(gA D rd i (x.to.length-1) 1 s).2.1,.zero) else
   ((gA D rd i (x.to.length-1) 1 s).1,0,.mk 2 0 x.name (gA D rd i (x.to.length-1) 1 s).2.2)) else (s,190,.zero)
def fF (step:VZ)(F:Nat)(D:Bool):Nat->RS->aq->RS×Nat×aO
 |0,s,_=>(s,999,.zero)
 |f+1,s,p=>if (dc step (F-s.d) s.cS p).2.2.2≠0 then (UN (dc step (F-s.d) s.cS p) s,(dc step (F-s.d) s.cS p).2.2.2,.zero) else
  shapeOf D (fF step F D f) (UN (dc step (F-s.d) s.cS p) s) (dc step (F-s.d) s.cS p).2.2.1
def Yf (F:Nat)(s:RS):Prop:=s.d<=F/\s.T.length=9/\∀k,k∈s.T->k<=s.d
def oF (D:Bool)(ok:RS->aq->Prop)(rd:RS->aq->RS×Nat×aO)(i:Nat):Nat->Nat->RS->Prop
 |0,_,_=>True
 |c+1,k,s=>match D with
  |true=>ok s ⟨i,k⟩/\((rd s ⟨i,k⟩).2.1=0->oF D ok rd i c (k+1) (rd s ⟨i,k⟩).1)
  |false=>True
def oG (pg:fX)(step:VZ)(F:Nat)(D:Bool):Nat->RS->aq->Prop
 |0,_,_=>False
 |f+1,s,p=>Yf F s/\oD pg step (F-s.d) s.cS p/\((dc step (F-s.d) s.cS p).2.2.2=0->∃x,(dc step (F-s.d) s.cS p).1.ae[(dc step (F-s.d) s.cS p).2.2.1]?=some x/\x.to.length<2 ^ 20 /\
   (x.ao=8->1<=x.to.length/\oF D (oG pg step F D f) (fF step F D f) (dc step (F-s.d) s.cS p).2.2.1 (x.to.length-1) 1 (UN (dc step (F-s.d) s.cS p) s)))
def RS.cells (s:RS)(F:Nat)(D:Bool):List AV:=DZ s.cS s.T s.d F D
def Wu (r:RS×Nat×aO)(F:Nat)(D:Bool):Out×Heap:=(if r.2.1=0 then .ret (.ag (bP r.2.2.aw)) else .iL (.eT 70 (.ag [.p (.i .i64 r.2.1)])),[.box (r.1.cells F D)])
theorem Ih {call:di}{f:Nat}{s:RS}{F:Nat}{D:Bool}{args:List AV}{r:RS×Nat×aO}{Gs:Heap}(hc:call f (.ptr 0 0::args) [.box (s.cells F D)]=some (Wu r F D))(ha:bm args=true) :
  UM pg call f (.ptr 0 0::args) (.box (s.cells F D)::Gs)=some (if r.2.1=0 then .ret (.ag (bP r.2.2.aw)) else .iL (.eT 70 (.ag [.p (.i .i64 r.2.1)])),.box (r.1.cells F D)::Gs):=by
 unfold Wu at hc;refine iO hc ha (Qa _ _ _ _ _) (Qa _ _ _ _ _) ?_;split
 ·simp only[Out.bf,bf];exact bE 0 (eZ _)
 ·rfl
def Yg (acc:List aO):AV:=match acc with
 |[]=>.aC
 |_::r=>.arr 4 (r.length+1) r.length
def Yh (acc:List aO):Heap:=match acc with
 |[]=>[]
 |c::r=>[.arr 4 (aO.df (c::r)) r.length 0]
theorem AQ {s:RS}{F:Nat}{D:Bool}(hT:s.T.length=9):(s.cells F D)[13]?=some (.p (.b D)):=by
 simp only[RS.cells,DZ,List.getElem?_cons_succ];rw[List.getElem?_append_right (by rw[nK];omega),nK,hT];rfl
theorem D0 {s:RS}{F:Nat}{D:Bool}(hT:s.T.length=9):∀hh,(s.cells F D)[13]'hh=.p (.b D):=λhh=>by
 have:=AQ (F:=F) (D:=D) hT;rw[gG hh]at this;exact cT this
def fm (name:List UInt8)(acc:List aO)(r:RS×Nat×List aO):RS×Nat×aO:=if r.2.1≠0 then (r.1,r.2.1,.zero) else (r.1,0,.mk 2 0 name (acc++r.2.2))
theorem nL (l:List aO):(aO.df l).length=l.length:=by rw[aO.ba];simp
theorem xL (l:List aO)(s:aO):aO.df (l++[s])=aO.df l++[s.aw]:=by simp[aO.ba]
theorem Ob (h:bY pg){body:aU}(hb:body=qt){x:Up}{F i:Nat}{D:Bool}{ok:RS->aq->Prop}{rd:RS->aq->RS×Nat×aO}
  (hrec:∀s p,ok s p->s.T.length=9/\(rd s p).1.T.length=9/\E pg 32 [.ptr 0 0,.ag [.p (.i .i64 p.aD),.p (.i .i64 p.aT)]] [.box (s.cells F D)]=some (Wu (rd s p) F D)) (hxl:x.to.length<2 ^ 20) :
  ∀(c k:Nat) (s:RS) (acc:List aO),k+c=x.to.length->acc.length<=k->s.T.length=9->oF D ok rd i c k s ->
   kF 1 [.cell 6 4 true] false (kS pg (E pg) (L pg) 1 (.seq (.ops [6] [⟨some 36,.load 4 true (.t 7),none⟩,⟨none,.store 4 (.t 6) (.t 36),none⟩]) .ret) (kB 0 (L pg 1 [0,1,5,6,7,8] body [(0,.ptr 0 0),(1,.p (.i .i64 i)),(5,.ptr 1 0),(6,.ptr 2 0),(7,.ptr 3 0),(8,.p (.i .i64 k))]
    (.box (s.cells F D)::.box [.p (.i .i64 x.ao),.p (.i .i64 x.Us),.p (.i .i64 x.n),.p (.s x.name),.p (.sl (x.aY.map Ux)),.p (.sl (x.to.map aq.aw))]::.box [.p (.i .i64 0),.p (.i .i64 0),.p (.s []),.aC]::.box [.p (.i .i64 2),.p (.i .i64 0),.p (.s x.name),Yg acc]::Yh acc))))=some (Wu (fm x.name acc (gA D rd i c k s)) F D)
 |0,k,s,acc,hk,ha,hT,hok=>by
  have hkx:k=x.to.length:=by omega
  subst hkx;have hfl:=bE 1 (Qa s.cS s.T s.d F D);have hf:fm x.name acc (gA D rd i 0 x.to.length s)=(s,0,.mk 2 0 x.name acc):=by simp[fm,gA]
  rw[hf,dA hb];unfold Wu;have hfl':cH 1 (s.cells F D)=true:=hfl;cases acc with
  |nil=>simp[qt,aj,Yg,Yh,aO.aw,aO.df,hfl']
  |cons a0 ar =>
   have e1:ar.length+1<=(aO.df (a0::ar)).length:=by rw[nL];simp
   have e2:(aO.df (a0::ar)).take (ar.length+1)=aO.df (a0::ar):=aF (by rw[nL];simp);simp only[Yg,Yh,aO.aw];generalize aO.df (a0::ar)=R at *;simp[qt,aj,e1,e2,hfl']
 |c+1,k,s,acc,hk,ha,hT,hok=>by
  have hlt:k<x.to.length:=by omega
  have hlt':(k:Int)<x.to.length:=by omega
  have h13:=AQ (F:=F) (D:=D) hT;have h13b:=D0 (F:=F) (D:=D) hT;have hfs:bm (s.cells F D)=true:=Qa _ _ _ _ _;have hes:∀e,aQ true e (s.cells F D)=some (s.cells F D,e):=λe=>bS true e hfs;have hokr:∀sh:aO,bH 4 [sh.aw]=true:=λsh=>by simp[bH,aO.JC]
  have e7:bZ (acc.length+1) 56=true:=by simp[bZ];omega
  cases D with
  |false =>
   have ih:=Ob (i:=i) h hb hrec hxl c (k+1) s (acc++[.lazy]) (by omega) (by simp;omega) hT (by cases c<;>trivial);have hf:fm x.name acc (gA false rd i (c+1) k s)=fm x.name (acc++[.lazy]) (gA false rd i c (k+1) s):=by
    simp only[fm,gA,pd,Va];rfl
   rw[hf];generalize fm x.name (acc++[.lazy]) (gA false rd i c (k+1) s)=W at *;rw[show((k+1:Nat):Int)=(k:Int)+1 from by omega]at ih;generalize s.cells F false=S at *;rw[dA hb];cases acc with
   |nil =>
    simp only[Yg,Yh,aL,aO.df,aO.lazy,aO.aw,aJ,aG,Ph]at ih ⊢;simp[qt,aj,hlt,hlt',h13,h13b,Uu.Uv,cO,Vy,ee,aS,cX,bH,show bZ 1 56=true from rfl,cR ((k:Int)+1),gc,exp,aQ,UG,hes,ih]
   |cons a0 ar =>
    have e2:(aO.df (a0::ar)).take (ar.length+1)=aO.df (a0::ar):=aF (by rw[nL];simp);have e1:ar.length+1<=(aO.df (a0::ar)).length:=by rw[nL];simp
    have e3:aO.df (a0::(ar++[.lazy]))=aO.df (a0::ar)++[[.i .i64 5,.i .i64 0,.s [],.sl []]]:=by
     have:=xL (a0::ar) .lazy;simpa [aO.lazy,aO.aw,aO.df] using this
    simp only[Yg,Yh,aH,aR,av,aJ,aG,e3]at ih e7 ⊢;generalize aO.df (a0::ar)=R at *;simp[qt,aj,hlt,hlt',h13,h13b,Uu.Uv,cO,Vy,ee,aS,cX,bH,e1,e2,e7,cR ((k:Int)+1),gc,exp,aQ,UG,hes,ih]
  |true =>
   obtain⟨hok1,hok2⟩:=hok;obtain⟨hT1,hT2,hE⟩:=hrec s ⟨i,k⟩ hok1;have e5:=λGs=>Ih (Gs:=Gs) (pg:=pg) hE rfl;dsimp only at e5;by_cases hz:(rd s ⟨i,k⟩).2.1=0
   ·have ih:=Ob (i:=i) h hb hrec hxl c (k+1) (rd s ⟨i,k⟩).1 (acc++[(rd s ⟨i,k⟩).2.2]) (by omega) (by simp;omega) hT2 (hok2 hz);have hf:fm x.name acc (gA true rd i (c+1) k s)=fm x.name (acc++[(rd s ⟨i,k⟩).2.2]) (gA true rd i c (k+1) (rd s ⟨i,k⟩).1):=by
     simp only[fm,gA,hz,ne_eq,gf,if_false,pd,Va]
    rw[hf];generalize fm x.name (acc++[(rd s ⟨i,k⟩).2.2]) (gA true rd i c (k+1) (rd s ⟨i,k⟩).1)=W at *;simp only[hz,if_true]at e5;have hfs2:bm ((rd s ⟨i,k⟩).1.cells F true)=true:=Qa _ _ _ _ _;have hes2:∀e,aQ true e ((rd s ⟨i,k⟩).1.cells F true)=some ((rd s ⟨i,k⟩).1.cells F true,e):=λe=>bS true e hfs2;rw[show((k+1:Nat):Int)=(k:Int)+1 from by omega]at ih;generalize (rd s ⟨i,k⟩).1.cells F true=S2 at *;generalize s.cells F true=S at *;generalize (rd s ⟨i,k⟩).2.2=sh at *;rcases sh with ⟨sk,sn,ss,sl⟩
    have hokr':=hokr (.mk sk sn ss sl);simp only[aO.aw,bP,ai,au]at e5 hokr';rw[dA hb];cases acc with
    |nil =>
     simp only[Yg,Yh,aL,aO.df,aO.aw,aJ,aG]at ih ⊢;simp[qt,aj,hlt,hlt',h13,h13b,e5,hokr',Uu.Uv,cO,Vy,ee,aS,cX,show bZ 1 56=true from rfl,cR ((k:Int)+1),gc,exp,aQ,UG,hes,hes2,ih]
    |cons a0 ar =>
     have e2:(aO.df (a0::ar)).take (ar.length+1)=aO.df (a0::ar):=aF (by rw[nL];simp);have e1:ar.length+1<=(aO.df (a0::ar)).length:=by rw[nL];simp
     have e3:aO.df (a0::(ar++[.mk sk sn ss sl]))=aO.df (a0::ar)++[[.i .i64 sk,.i .i64 sn,.s ss,.sl (aO.df sl)]]:=by
      have:=xL (a0::ar) (.mk sk sn ss sl);simpa [aO.aw,aO.df] using this
     simp only[Yg,Yh,aH,aR,av,aJ,aG,e3]at ih e7 ⊢;generalize aO.df (a0::ar)=R at *;generalize aO.df sl=SL at *;simp[qt,aj,hlt,hlt',h13,h13b,e5,hokr',Uu.Uv,cO,Vy,ee,aS,cX,e1,e2,e7,cR ((k:Int)+1),gc,exp,aQ,UG,hes,hes2,ih]
   ·have hf:fm x.name acc (gA true rd i (c+1) k s)=((rd s ⟨i,k⟩).1,(rd s ⟨i,k⟩).2.1,.zero):=by
     simp[fm,gA,hz]
    rw[hf];simp only[hz,if_false]at e5;unfold Wu;rw[aa hz];have hfs2:cH 1 ((rd s ⟨i,k⟩).1.cells F true)=true:=bE 1 (Qa _ _ _ _ _);generalize (rd s ⟨i,k⟩).1.cells F true=S2 at *;generalize s.cells F true=S at *;rw[dA hb];cases acc with
    |nil =>
     simp only[Yg,Yh]at ⊢;simp[qt,aj,hlt,hlt',h13,h13b,e5,gc,exp,aQ,UG,hes,hfs2]
    |cons a0 ar =>
     simp only[Yg,Yh]at ⊢;simp[qt,aj,hlt,hlt',h13,h13b,e5,gc,exp,aQ,UG,hes,hfs2]
theorem uu {D:Bool}{rd:RS->aq->RS×Nat×aO}(hrd:∀s p,s.T.length=9->(rd s p).1.T.length=9)(i:Nat):∀(c k:Nat) (s:RS),s.T.length=9->(gA D rd i c k s).1.T.length=9
 |0,k,s,h=>h
 |c+1,k,s,h=>by
  cases D with
  |false=>exact uu hrd i c (k+1) s h
  |true =>
   simp only[gA];split
   ·exact hrd s _ h
   ·exact uu hrd i c (k+1) _ (hrd s _ h)
theorem Yv (step:VZ)(F:Nat)(D:Bool):∀(f:Nat) (s:RS) (p:aq),s.T.length=9->(fF step F D f s p).1.T.length=9
 |0,s,p,h=>h
 |f+1,s,p,h=>by
  have h1:(UN (dc step (F-s.d) s.cS p) s).T.length=9:=by unfold UN;dsimp only;rw[gZ];exact h
  simp only[fF];split
  ·exact h1
  ·unfold shapeOf;split
   ·exact h1
   ·split
    ·exact h1
    ·split
     ·exact h1
     ·split
      ·exact h1
      ·split
       ·split
        ·exact uu (Yv step F D f) _ _ _ _ h1
        ·exact uu (Yv step F D f) _ _ _ _ h1
       ·exact h1
theorem P1 (h:bY pg){x:Up}{F i:Nat}{D:Bool}{s:RS}{ok:RS->aq->Prop}{rd:RS->aq->RS×Nat×aO}
  (hrec:∀s p,ok s p->s.T.length=9/\(rd s p).1.T.length=9/\E pg 32 [.ptr 0 0,.ag [.p (.i .i64 p.aD),.p (.i .i64 p.aT)]] [.box (s.cells F D)]=some (Wu (rd s p) F D)) (hxl:1<=x.to.length/\x.to.length<2 ^ 20) (hT:s.T.length=9) (hp:oF D ok rd i (x.to.length-1) 1 s) :
  E pg 47 [.ptr 0 0,.p (.i .i64 i),.ag [.p (.i .i64 x.ao),.p (.i .i64 x.Us),.p (.i .i64 x.n),.p (.s x.name),.p (.sl (x.aY.map Ux)),.p (.sl (x.to.map aq.aw))]] [.box (s.cells F D)]=some (Wu (fm x.name [] (gA D rd i (x.to.length-1) 1 s)) F D):=by
 have hL:=Ob (i:=i) h rfl hrec hxl.2 (x.to.length-1) 1 s [] (by omega) (by simp) hT hp;have hfs:bm (s.cells F D)=true:=Qa _ _ _ _ _;have hes:∀e,aQ true e (s.cells F D)=some (s.cells F D,e):=λe=>bS true e hfs;simp only[Yg,Yh,WW]at hL;rw[h.run (x:=MW)];simp[MW,aj,gc,exp,aQ,UG,hes,hL]
theorem OO (h:bY pg){step:VZ}{F:Nat}{D:Bool}(hF:F<=100000):∀(f:Nat) (s:RS) (p:aq),oG pg step F D f s p ->
  E pg 32 [.ptr 0 0,.ag [.p (.i .i64 p.aD),.p (.i .i64 p.aT)]] [.box (s.cells F D)]=some (Wu (fF step F D f s p) F D)
 |0,s,p,hok=>hok.elim
 |f+1,s,p,hok=>by
  obtain⟨⟨hd,hT,hTb⟩,hh,hx⟩:=hok;have h46:=P0 (T:=s.T) (D:=D) h hF hd hT (λk hk=>by have:=hTb k hk;omega) hh;have hfs2:bm ((UN (dc step (F-s.d) s.cS p) s).cells F D)=true:=Qa _ _ _ _ _;have hbl2:=bE 1 hfs2;by_cases he:(dc step (F-s.d) s.cS p).2.2.2=0
  ·obtain⟨x,hx1,hx2,hx3⟩:=hx he;have hr:fF step F D (f+1) s p=shapeOf D (fF step F D f) (UN (dc step (F-s.d) s.cS p) s) (dc step (F-s.d) s.cS p).2.2.1:=by
    simp only[fF];rw[aa (by simpa using he)]
   have e1:=λGs=>iO (pg:=pg) (call:=E pg) (Gs:=Gs) (f:=46) (args:=[.ag [.p (.i .i64 p.aD),.p (.i .i64 p.aT)]]) (c:=DZ s.cS s.T s.d F D) (c':=(UN (dc step (F-s.d) s.cS p) s).cells F D) (out:=.ret (.p (.i .i64 (dc step (F-s.d) s.cS p).2.2.1))) (by rw[h46];unfold CW;rw[ah he];rfl) rfl (Qa _ _ _ _ _) hfs2 rfl;have hT2:(UN (dc step (F-s.d) s.cS p) s).T.length=9:=by unfold UN;dsimp only;rw[gZ];exact hT
   have h47:=fun (hk8:x.ao=8) (hx1':1<=x.to.length)=>P1 (i:=(dc step (F-s.d) s.cS p).2.2.1) (s:=UN (dc step (F-s.d) s.cS p) s) (F:=F) (D:=D) h (λs' p' ho'=>⟨by
    cases f with
    |zero=>exact ho'.elim
    |succ f=>exact ho'.1.2.1,Yv step F D f s' p' (by
    cases f with
    |zero=>exact ho'.elim
    |succ f=>exact ho'.1.2.1),OO h hF f s' p' ho'⟩) ⟨hx1',hx2⟩ hT2 (hx3 hk8).2
   rw[hr];have hxn:(UN (dc step (F-s.d) s.cS p) s).cS.ae[(dc step (F-s.d) s.cS p).2.2.1]?=some x:=hx1;unfold shapeOf;rw[hxn];dsimp only;generalize hgi:(dc step (F-s.d) s.cS p).2.2.1=i at *;generalize hgs:UN (dc step (F-s.d) s.cS p) s=s2 at *;have h0:(s2.cells F D)[0]?=some (.p (.sl (s2.cS.ae.map Up.aw))):=rfl;have hil:i<s2.cS.ae.length:=(gE hxn).1;have hix:s2.cS.ae[i]=x:=(gE hxn).2;have h0':(s2.cells F D).head?=some (.p (.sl (s2.cS.ae.map Up.aw))):=rfl;rw[show DZ s.cS s.T s.d F D=s.cells F D from rfl]at e1;generalize s.cells F D=S at *;have hk:x.ao=10\/x.ao=2\/x.ao=13\/x.ao=8\/(x.ao≠10/\x.ao≠2/\x.ao≠13/\x.ao≠8):=by omega
   rcases hk with hk|hk|hk|hk|⟨n1,n2,n3,n4⟩
   ·have c1:(x.ao:Int)=10:=by omega
    rw[ah hk];unfold Wu;generalize s2.cells F D=S2 at *;rw[h.run (x:=CK)];simp[CK,aj,e1,h0,h0',hil,hix,aS,Up.aw,Ur c1,aO.aw,aO.df,hbl2]
   ·have c1:¬ (x.ao:Int)=10:=by omega
    have c2:(x.ao:Int)=2:=by omega
    rw[aa (by omega),ah hk];unfold Wu;generalize s2.cells F D=S2 at *;rw[h.run (x:=CK)];simp[CK,aj,e1,h0,h0',hil,hix,aS,Up.aw,c1,Ur c2,aO.aw,aO.df,hbl2]
   ·have c1:¬ (x.ao:Int)=10:=by omega
    have c2:¬ (x.ao:Int)=2:=by omega
    have c3:(x.ao:Int)=13:=by omega
    rw[aa (by omega),aa (by omega),ah hk];unfold Wu;generalize s2.cells F D=S2 at *;rw[h.run (x:=CK)];simp[CK,aj,e1,h0,h0',hil,hix,aS,Up.aw,c1,c2,Ur c3,aO.aw,aO.df,hbl2]
   ·have c1:¬ (x.ao:Int)=10:=by omega
    have c2:¬ (x.ao:Int)=2:=by omega
    have c3:¬ (x.ao:Int)=13:=by omega
    have c4:(x.ao:Int)=8:=by omega
    rw[aa (by omega),aa (by omega),aa (by omega),ah hk];have h47':=h47 hk (hx3 hk).1;have e2:=λGs=>Ih (Gs:=Gs) (pg:=pg) (s:=s2) h47' rfl;have hfin:(if (gA D (fF step F D f) i (x.to.length-1) 1 s2).2.1≠0 then ((gA D (fF step F D f) i (x.to.length-1) 1 s2).1,(gA D (fF step F D f) i (x.to.length-1) 1 s2).2.1,aO.zero) else ((gA D (fF step F D f) i (x.to.length-1) 1 s2).1,0,.mk 2 0 x.name (gA D (fF step F D f) i (x.to.length-1) 1 s2).2.2))=fm x.name [] (gA D (fF step F D f) i (x.to.length-1) 1 s2):=by
     simp[fm]
    rw[hfin];generalize fm x.name [] (gA D (fF step F D f) i (x.to.length-1) 1 s2)=W at *;have hblw:cH 1 (W.1.cells F D)=true:=bE 1 (Qa _ _ _ _ _);unfold Wu;generalize s2.cells F D=S2 at *;generalize W.1.cells F D=SW at *;rw[h.run (x:=CK)];by_cases hw:W.2.1=0
    ·simp only[hw,if_true]at e2 ⊢;generalize W.2.2=sh at *;rcases sh with ⟨sk,sn,ss,sl⟩
     simp only[aO.aw,bP,ai,au]at e2 ⊢;generalize aO.df sl=SL at *;simp[CK,aj,e1,h0,h0',hil,hix,aS,Up.aw,c1,c2,c3,Ur c4,e2,hblw]
    ·simp only[hw,if_false]at e2 ⊢;simp[CK,aj,e1,h0,h0',hil,hix,aS,Up.aw,c1,c2,c3,Ur c4,e2,hblw]
   ·have c1:¬ (x.ao:Int)=10:=by omega
    have c2:¬ (x.ao:Int)=2:=by omega
    have c3:¬ (x.ao:Int)=13:=by omega
    have c4:¬ (x.ao:Int)=8:=by omega
    rw[aa n1,aa n2,aa n3,aa n4];unfold Wu;generalize s2.cells F D=S2 at *;rw[h.run (x:=CK)];simp[CK,aj,e1,h0,h0',hil,hix,aS,Up.aw,c1,c2,c3,c4,hbl2]
  ·have hr:fF step F D (f+1) s p=(UN (dc step (F-s.d) s.cS p) s,(dc step (F-s.d) s.cS p).2.2.2,.zero):=by
    simp only[fF];rw[ah (by simpa using he)]
   have e1:=λGs=>iO (pg:=pg) (call:=E pg) (Gs:=Gs) (f:=46) (args:=[.ag [.p (.i .i64 p.aD),.p (.i .i64 p.aT)]]) (c:=DZ s.cS s.T s.d F D) (c':=(UN (dc step (F-s.d) s.cS p) s).cells F D) (out:=.iL (.eT 70 (.ag [.p (.i .i64 (dc step (F-s.d) s.cS p).2.2.2)]))) (by rw[h46];unfold CW;rw[aa he];rfl) rfl (Qa _ _ _ _ _) hfs2 rfl;rw[hr];unfold Wu;rw[aa he];rw[show DZ s.cS s.T s.d F D=s.cells F D from rfl]at e1;generalize (UN (dc step (F-s.d) s.cS p) s).cells F D=S2 at *;generalize (dc step (F-s.d) s.cS p).2.2.2=err at *;generalize s.cells F D=S at *;rw[h.run (x:=CK)];simp[CK,aj,e1,hbl2]
def bL (n:aI)(i:Nat):aI×cF×Nat:=if (n.kM i).2.2=121 then (if (n.VY.kM i).2.2=0 then n.VY.kM i else (n,.plain 0,121)) else n.kM i
inductive eV (n:aI):List Nat->aq->Prop
 |root:eV n [0] ⟨0,0⟩
 |UW {l:List Nat} {p:aq} {i k:Nat} {x:Up}:eV n l p->n.pr p=⟨i,0⟩->n.ae[i]?=some x->x.ao=8->1<=k->k<x.to.length->eV n (i::l) ⟨i,k⟩
theorem eV.has {n:aI}(ho:n.Ok){l:List Nat}{p:aq}(h:eV n l p):n.has p:=by
 cases h with
 |root =>
  obtain⟨x,hx,hk⟩:=ho.sk.root;exact⟨x,hx,by rw[ho.Vg hx hk (by omega) (by omega)];decide⟩
 |UW h1 h2 h3 h4 h5 h6=>exact⟨_,h3,h6⟩
theorem aI.Reach.pr {n:aI}{p:aq}(h:n.Reach p.aD)(hp:n.has p):n.Reach (n.pr p).aD:=by
 obtain⟨x,hx,hs⟩:=aI.qZ hp;exact .step h hx (aE hs)
theorem eV.reach {n:aI}(ho:n.Ok){l:List Nat}{p:aq}(h:eV n l p):n.Reach p.aD:=by
 induction h with
 |root=>exact .root
 |UW h1 h2 h3 h4 h5 h6 ih =>
  have:=ih.pr (h1.has ho);rw[h2]at this;exact this
theorem eV.off {n:aI}(ho:n.Ok){i j:Nat}(hi:i≠0)(hj:j≠0)(hij:n.pr ⟨i,0⟩=⟨j,0⟩)(hhi:n.has ⟨i,0⟩){l:List Nat}{p:aq}(h:eV n l p){c:Nat}(hc:n.pr p=⟨c,0⟩):c≠i/\c≠j:=by
 have hb:=ho.lk ⟨i,0⟩ hhi id;rw[hij]at hb;have hp:=ho.lk p (h.has ho) id;rw[hc]at hp;have key:p.aT=0->p.aD=0:=by
  cases h with
  |root=>intro _;rfl
  |UW h1 h2 h3 h4 h5 h6=>intro e;dsimp only at e;omega
 refine⟨λe=>?_,λe=>?_⟩
 ·subst e;rw[hij]at hp;have e1:=hp.2.2.1;have:=key (by rw[<- e1]);rw[<- e1]at this;exact hj this
 ·subst e;rw[hb.2.2.1]at hp;have e1:=hp.2.2.1;have:=key (by rw[<- e1]);rw[<- e1]at this;exact hi this
theorem eV.FO {n:aI}(ho:n.Ok){i j:Nat}(hi:i≠0)(hj:j≠0)(hij:n.pr ⟨i,0⟩=⟨j,0⟩)(hhi:n.has ⟨i,0⟩){l:List Nat}{p:aq}(h:eV n l p):p.aD≠i/\p.aD≠j:=by
 cases h with
 |root=>exact⟨λe=>hi e.symm,λe=>hj e.symm⟩
 |UW h1 h2 h3 h4 h5 h6=>exact h1.off ho hi hj hij hhi h2
structure Same (n m:aI):Prop where
 ok:m.Ok
 aV:m.aV=n.aV
 spine:∀l p,eV n l p->eV m l p
 pr:∀l p c,eV n l p->n.pr p=⟨c,0⟩->m.pr p=⟨c,0⟩/\∀y,n.ae[c]?=some y->y.ao≠0->∃y',m.ae[c]?=some y'/\y'.bare=y.bare
theorem Same.refl {n:aI}(h:n.Ok):Same n n:=⟨h,rfl,λ_ _ h=>h,λ_ _ _ _ h=>⟨h,λy hy _=>⟨y,hy,rfl⟩⟩⟩
theorem Same.trans {n m k:aI}(h:Same n m)(h':Same m k):Same n k:=by
 refine⟨h'.ok,h'.aV.trans h.aV,λl p hp=>h'.spine l p (h.spine l p hp),λl p c hp hc=>?_⟩;obtain⟨a1,a2⟩:=h.pr l p c hp hc;obtain⟨b1,b2⟩:=h'.pr l p c (h.spine l p hp) a1;refine⟨b1,λy hy hk=>?_⟩;obtain⟨y',c1,c2⟩:=a2 y hy hk;obtain⟨y'',d1,d2⟩:=b2 y' c1 (by rw[(Up.eB c2).2.2.1];exact hk);exact⟨y'',d1,d2.trans c2⟩
theorem JB.same {n m:aI}{i j:Nat}(ho:n.Ok)(h:JB n m i j)(hij:n.pr ⟨i,0⟩=⟨j,0⟩)(hhi:n.has ⟨i,0⟩):Same n m:=by
 have hfix:∀l p c,eV n l p->n.pr p=⟨c,0⟩->Fix n i j p:=λl p c hp hc=>by
  have h1:=hp.FO ho h.i0 h.j0 hij hhi;have h2:=hp.off ho h.i0 h.j0 hij hhi hc;exact⟨hp.has ho,h1.1,h1.2,by rw[hc];exact h2.1,by rw[hc];exact h2.2⟩
 have hpr:∀l p c,eV n l p->n.pr p=⟨c,0⟩->m.pr p=⟨c,0⟩/\∀y,n.ae[c]?=some y->y.ao≠0->∃y',m.ae[c]?=some y'/\y'.bare=y.bare:=λl p c hp hc=>by
  have h2:=hp.off ho h.i0 h.j0 hij hhi hc;exact⟨((h.fix p (hfix l p c hp hc)).2).trans hc,λy hy hk=>h.bq c y h2.1 h2.2 hy hk⟩
 refine⟨h.ok,h.aV,λl p hp=>?_,hpr⟩
 induction hp with
 |root=>exact .root
 |UW h1 h2 h3 h4 h5 h6 ih =>
  obtain⟨a1,a2⟩:=hpr _ _ _ h1 h2;obtain⟨y',b1,b2⟩:=a2 _ h3 (by omega);have b3:=Up.eB b2;exact .UW ih a1 b1 (by rw[b3.2.2.1];exact h4) h5 (by rw[b3.2.2.2.1];exact h6)
theorem aI.oH {n m:aI}{p:aq}{x:Up}(h1:n.ae[p.aD]?=some x)(h2:m.ae[p.aD]?=some x):m.pr p=n.pr p:=by
 unfold aI.pr aI.peer;rw[h1,h2]
theorem aI.pK {n:aI}(ho:n.Ok){p:aq}(h:n.has p):∃x,n.ae[p.aD]?=some x/\p.aT<x.to.length/\x.ao≠0:=by
 obtain⟨x,hx,hs⟩:=h;exact⟨x,hx,hs,λe=>by have:=ho.sk.W8 hx e;omega⟩
theorem BY {n:aI}(ho:n.Ok):Same n n.VY:=by
 obtain⟨a1,a2,a3⟩:=vR ho;have hpr:∀l p,eV n l p->n.VY.pr p=n.pr p:=λl p hp=>by
  obtain⟨x,hx,hs,hk⟩:=aI.pK ho (hp.has ho);exact aI.oH hx (a3 _ _ (hp.reach ho) hx hk)
 refine⟨a1,a2,λl p hp=>?_,λl p c hp hc=>?_⟩
 ·induction hp with
  |root=>exact .root
  |UW h1 h2 h3 h4 h5 h6 ih =>
   refine .UW ih (by rw[hpr _ _ h1];exact h2) (a3 _ _ ?_ h3 (by omega)) h4 h5 h6;exact(eV.UW h1 h2 h3 h4 h5 h6).reach ho
 ·refine⟨by rw[hpr _ _ hp];exact hc,λy hy hk=>⟨y,a3 c y ?_ hy hk,rfl⟩⟩;have:=(hp.reach ho).pr (hp.has ho);rw[hc]at this;exact this
theorem vT {n:aI}{i j:Nat}{x y:Up}(hm:qf n i j x y)(hr:n.Reach i):qf n.VY i j x y:=by
 obtain⟨ho,hx,hy,hx1,hpr⟩:=hm;obtain⟨a1,a2,a3⟩:=vR ho;obtain⟨x',hx',hs,hk⟩:=aI.pK ho (p:=⟨i,0⟩) ⟨x,hx,hx1⟩;rw[show(⟨i,0⟩:aq).aD=i from rfl,hx]at hx';cases hx';have hsx:=a3 i x hr hx hk;have hrj:n.Reach j:=by
  have:=aI.Reach.pr (p:=⟨i,0⟩) hr ⟨x,hx,hx1⟩;rw[hpr]at this;exact this
 have hjk:y.ao≠0:=by
  have:=(ho.lk ⟨i,0⟩ ⟨x,hx,hx1⟩ id).1;rw[hpr]at this;obtain⟨z,hz,_,hzk⟩:=aI.pK ho this;rw[show(⟨j,0⟩:aq).aD=j from rfl,hy]at hz;cases hz;exact hzk
 exact⟨a1,hsx,a3 j y hrj hy hjk,hx1,by rw[aI.oH (p:=⟨i,0⟩) hx hsx];exact hpr⟩
theorem vU (h:bY pg){n:aI}{i j:Nat}{x y:Up}(hm:qf n i j x y)(hr:n.Reach i):vP pg bL n i/\((bL n i).2.2=0->Same n (bL n i).1):=by
 have ho:=hm.ok;have hhi:n.has ⟨i,0⟩:=⟨x,hm.hx,hm.x1⟩
 obtain⟨e1,k1,s1⟩:=xI h hm;unfold vP bL;by_cases c1:(n.kM i).2.2=121
 ·rw[ah c1];have hm2:=vT hm hr;obtain⟨e2,k2,s2⟩:=xI h hm2;rw[c1]at e1;have e3:=λG=>YY (G:=G) h ho e1 e2;by_cases c2:(n.VY.kM i).2.2=0
  ·rw[ah c2];refine⟨⟨λG=>?_,k2⟩,λ_=>?_⟩
   ·rw[e3,ah c2,c2];rfl
   ·exact(BY ho).trans ((s2 c2).same hm2.ok hm2.pr ⟨x,hm2.hx,hm2.x1⟩)
  ·rw[aa c2];refine⟨⟨λG=>?_,by show 0<9;omega⟩,λe=>by cases e⟩;rw[e3,aa c2];rfl
 ·rw[aa c1];exact⟨⟨λG=>t126 h e1 c1,k1⟩,λe=>(s1 e).same ho hm.pr hhi⟩
theorem aI.JD {n:aI}{q:aq}(h:n.has q):n.has ⟨q.aD,0⟩:=by
 obtain⟨x,hx,hs⟩:=h;exact⟨x,hx,by show 0<_;omega⟩
theorem xM {n:aI}(ho:n.Ok):∀(f:Nat) (path:List Nat) (q:aq),n.has q->n.Reach q.aD->(n.walk f path q).2.2.1=true->(n.walk f path q).2.2.2=0->∃j x y,qf n (n.walk f path q).2.1 j x y/\n.Reach (n.walk f path q).2.1
 |0,path,q,hq,hr,h1,h2=>by simp[aI.walk]at h1
 |f+1,path,q,hq,hr,h1,h2=>by
  unfold aI.walk at h1 h2 ⊢;split
  ·rename_i c;rw[ah c]at h1;cases h1
  ·rename_i c;rw[aa c]at h1 h2;split
   ·rename_i c2;rw[ah c2]at h1;cases h1
   ·rename_i c2;rw[aa c2]at h1 h2;split
    ·rename_i c3;rw[ah c3]at h1;cases h1
    ·rename_i c3;rw[aa c3]at h1 h2;have h0:=aI.JD hq;obtain⟨a1,a2,a3,a4⟩:=ho.lk ⟨q.aD,0⟩ h0 id;split
     ·rename_i c4;obtain⟨x,hx,hs⟩:=hq;obtain⟨y,hy,hys⟩:=a1;refine⟨(n.pr ⟨q.aD,0⟩).aD,x,y,⟨ho,hx,hy,by omega,?_⟩,hr⟩;exact aq.ext' rfl c4
     ·rename_i c4;rw[aa c4]at h1 h2;exact xM ho f _ _ a1 (aI.Reach.pr (p:=⟨q.aD,0⟩) hr h0) h1 h2
theorem vV {n:aI}(ho:n.Ok):∀(f:Nat) (path:List Nat) (q:aq),n.has q->(n.walk f path q).2.2.1=false->(n.walk f path q).2.2.2=0->q.aT≠0->False
 |0,path,q,hq,h1,h2,_=>by simp[aI.walk]at h2
 |f+1,path,q,hq,h1,h2,hs=>by
  unfold aI.walk at h1 h2;split at h1
  ·rename_i c;rw[ah c]at h2;cases h2
  ·rename_i c;rw[aa c,aa hs]at h2;split at h1
   ·rename_i c3;rw[ah c3]at h2;cases h2
   ·rename_i c3;rw[aa c3]at h2;split at h1
    ·cases h1
    ·rename_i c4;rw[aa c4]at h2;exact vV ho f _ _ (ho.lk ⟨q.aD,0⟩ (aI.JD hq) id).1 h1 h2 c4
theorem xN {n:aI}(ho:n.Ok){p:aq}(hp:n.has p)(hr:n.Reach p.aD)(h1:(n.next p).2.1=true)(h2:(n.next p).2.2=0):∃j x y,qf n (n.next p).1 j x y/\n.Reach (n.next p).1 :=
 xM ho _ _ _ (ho.lk p hp id).1 (hr.pr hp) h1 h2
theorem re {n:aI}{p:aq}(h:(n.pr p).aT=0):n.next p=((n.pr p).aD,false,0):=by
 unfold aI.next aI.walk;rw[aa (by simp),ah h]
theorem vW {n:aI}(ho:n.Ok){p:aq}(hp:n.has p)(h1:(n.next p).2.1=false)(h2:(n.next p).2.2=0):n.pr p=⟨(n.next p).1,0⟩:=by
 by_cases hs:(n.pr p).aT=0
 ·rw[re hs];exact aq.ext' rfl hs
 ·exact(vV ho _ _ _ (ho.lk p hp id).1 h1 h2 hs).elim
theorem uv (h:bY pg):∀(l:Nat) {n:aI} {path:List Nat} {p:aq},n.Ok->eV n path p->oD pg bL l n p/\Same n (dc bL l n p).1/\((dc bL l n p).2.2.2=0->(dc bL l n p).1.pr p=⟨(dc bL l n p).2.2.1,0⟩)/\(dc bL l n p).2.1.length<=l
 |0,n,path,p,ho,hs=>by
  refine⟨⟨ho,hs.has ho⟩,?_,λhe=>?_,?_⟩
  ·unfold dc;split
   ·exact .refl ho
   ·split<;>exact .refl ho
  ·unfold dc at he ⊢;split at he
   ·rename_i c;exact absurd he c
   ·rename_i c;rw[aa c];split at he
    ·rename_i c2;rw[ah c2];exact vW ho (hs.has ho) c2 (by omega)
    ·cases he
  ·unfold dc;split
   ·simp
   ·split<;>simp
 |l+1,n,path,p,ho,hs=>by
  have hp:=hs.has ho;by_cases c1:(n.next p).2.2=0
  ·cases c2:(n.next p).2.1 with
   |false =>
    have hr:dc bL (l+1) n p=(n,[],(n.next p).1,0):=by simp[dc,c1,c2]
    rw[hr];exact⟨⟨ho,hp,λ_ e=>by rw[c2]at e;cases e⟩,.refl ho,λ_=>vW ho hp c2 c1,by simp⟩
   |true =>
    obtain⟨j,x,y,hm,hri⟩:=xN ho hp (hs.reach ho) c2 c1;obtain⟨st,sm⟩:=vU h hm hri;by_cases c3:(bL n (n.next p).1).2.2=0
    ·have hsm:=sm c3;obtain⟨b1,b2,b3,b4⟩:=uv h l hsm.ok (hsm.spine _ _ hs);have hr:dc bL (l+1) n p=((dc bL l (bL n (n.next p).1).1 p).1,(bL n (n.next p).1).2.1.ao::(dc bL l (bL n (n.next p).1).1 p).2.1,(dc bL l (bL n (n.next p).1).1 p).2.2):=by
      conv=>lhs;unfold dc
      rw[aa (by simpa using c1),aa (by rw[c2];simp),aa (by simpa using c3)]
     rw[hr];exact⟨⟨ho,hp,λ_ _=>⟨st,λ_=>b1⟩⟩,hsm.trans b2,b3,by simpa using b4⟩
    ·have hr:dc bL (l+1) n p=(n,[],0,(bL n (n.next p).1).2.2):=by
      conv=>lhs;unfold dc
      rw[aa (by simpa using c1),aa (by rw[c2];simp),ah (by simpa using c3)]
     rw[hr];exact⟨⟨ho,hp,λ_ _=>⟨st,λe=>absurd e c3⟩⟩,.refl ho,λe=>absurd e c3,by simp⟩
  ·have hr:dc bL (l+1) n p=(n,[],0,(n.next p).2.2):=by simp[dc,c1]
   rw[hr];exact⟨⟨ho,hp,λe=>absurd e c1⟩,.refl ho,λe=>absurd e c1,by simp⟩
theorem XP {step:VZ}:∀(l l':Nat) {n:aI} {p:aq},(dc step l n p).2.2.2=0->(dc step l n p).2.1.length<=l'->dc step l' n p=dc step l n p
 |l,l',n,p,he,hl=>by
  by_cases c1:(n.next p).2.2=0
  ·cases c2:(n.next p).2.1 with
   |false =>
    have hr:∀k,dc step k n p=(n,[],(n.next p).1,0):=λk=>by cases k<;>simp[dc,c1,c2]
    rw[hr,hr]
   |true =>
    cases l with
    |zero=>simp[dc,c1,c2]at he
    |succ l =>
     by_cases c3:(step n (n.next p).1).2.2=0
     ·have hr:∀k,dc step (k+1) n p=((dc step k (step n (n.next p).1).1 p).1,(step n (n.next p).1).2.1.ao::(dc step k (step n (n.next p).1).1 p).2.1,(dc step k (step n (n.next p).1).1 p).2.2):=λk=>by
       conv=>lhs;unfold dc
       rw[aa (by simpa using c1),aa (by rw[c2];simp),aa (by simpa using c3)]
      rw[hr]at he hl ⊢;cases l' with
      |zero=>simp at hl
      |succ l' =>
       rw[hr,XP l l' he (by simpa using hl)]
     ·have hr:dc step (l+1) n p=(n,[],0,(step n (n.next p).1).2.2):=by
       conv=>lhs;unfold dc
       rw[aa (by simpa using c1),aa (by rw[c2];simp),ah (by simpa using c3)]
      rw[hr]at he;exact absurd he c3
  ·have hr:dc step l n p=(n,[],0,(n.next p).2.2):=by cases l<;>simp[dc,c1]
   rw[hr]at he;exact absurd he c1
theorem xO {step:VZ}:∀(l l':Nat) {n:aI} {p:aq},(dc step l n p).2.2.2=0->l'<(dc step l n p).2.1.length->(dc step l' n p).2.2.2=90
 |l,l',n,p,he,hl=>by
  by_cases c1:(n.next p).2.2=0
  ·cases c2:(n.next p).2.1 with
   |false =>
    have hr:∀k,dc step k n p=(n,[],(n.next p).1,0):=λk=>by cases k<;>simp[dc,c1,c2]
    rw[hr]at hl;simp at hl
   |true =>
    cases l' with
    |zero=>simp[dc,c1,c2]
    |succ l' =>
     cases l with
     |zero=>simp[dc,c1,c2]at he
     |succ l =>
      by_cases c3:(step n (n.next p).1).2.2=0
      ·have hr:∀k,dc step (k+1) n p=((dc step k (step n (n.next p).1).1 p).1,(step n (n.next p).1).2.1.ao::(dc step k (step n (n.next p).1).1 p).2.1,(dc step k (step n (n.next p).1).1 p).2.2):=λk=>by
        conv=>lhs;unfold dc
        rw[aa (by simpa using c1),aa (by rw[c2];simp),aa (by simpa using c3)]
       rw[hr]at he hl ⊢;exact xO l l' he (by simpa using hl)
      ·have hr:dc step (l+1) n p=(n,[],0,(step n (n.next p).1).2.2):=by
        conv=>lhs;unfold dc
        rw[aa (by simpa using c1),aa (by rw[c2];simp),ah (by simpa using c3)]
       rw[hr]at he;exact absurd he c3
  ·have hr:dc step l n p=(n,[],0,(n.next p).2.2):=by cases l<;>simp[dc,c1]
   rw[hr]at he;exact absurd he c1
theorem eV.uniq {n:aI}(ho:n.Ok){l:List Nat}{p:aq}(h:eV n l p):∀{l':List Nat} {p':aq},eV n l' p'->p.aD=p'.aD->l=l':=by
 induction h with
 |root =>
  intro l' p' h' e;cases h' with
  |root=>rfl
  |UW h1 h2 h3 h4 h5 h6 =>
   exfalso;dsimp only at e;have:=(ho.aD _ _ h3).2.2.2 e.symm;omega
 |UW h1 h2 h3 h4 h5 h6 ih =>
  intro l' p' h' e;cases h' with
  |root =>
   exfalso;dsimp only at e;have:=(ho.aD _ _ h3).2.2.2 e;omega
  |UW g1 g2 g3 g4 g5 g6 =>
   dsimp only at e;subst e;have e1:=(ho.lk _ (h1.has ho) id).2.2.1;have e2:=(ho.lk _ (g1.has ho) id).2.2.1;rw[h2]at e1;rw[g2,e1]at e2;rw[ih g1 (by rw[e2])]
theorem eV.sub {n:aI}{l:List Nat}{p:aq}(h:eV n l p):∀c,c∈l->∃l' p',eV n l' p'/\p'.aD=c/\l' <:+ l:=by
 induction h with
 |root=>intro c hc;rw[br]at hc;subst hc;exact⟨_,_,.root,rfl,kW _⟩
 |UW h1 h2 h3 h4 h5 h6 ih =>
  intro c hc;rcases aA.1 hc with rfl|hc
  ·exact⟨_,_,.UW h1 h2 h3 h4 h5 h6,rfl,kW _⟩
  ·obtain⟨l',p',a1,a2,a3⟩:=ih c hc;exact⟨l',p',a1,a2,a3.trans (List.suffix_cons _ _)⟩
theorem eV.nodup {n:aI}(ho:n.Ok){l:List Nat}{p:aq}(h:eV n l p):l.Nodup/\∀c,c∈l->c<n.ae.length:=by
 induction h with
 |root=>exact⟨by simp,λc hc=>by rw[br]at hc;subst hc;exact ho.len.1⟩
 |UW h1 h2 h3 h4 h5 h6 ih =>
  refine⟨UB.2 ⟨λhm=>?_,ih.1⟩,λc hc=>?_⟩
  ·obtain⟨l',p',a1,a2,a3⟩:=h1.sub _ hm;have e:=(eV.UW h1 h2 h3 h4 h5 h6).uniq ho a1 a2.symm;have:=a3.length_le;rw[<- e]at this;simp at this;omega
  ·rcases aA.1 hc with rfl|hc
   ·exact(gE h3).1
   ·exact ih.2 c hc
theorem eV.short {n:aI}(ho:n.Ok){l:List Nat}{p:aq}(h:eV n l p):l.length<=4000:=by
 have h1:=h.nodup ho;have h2:=lG h1.1 h1.2;have:=ho.len;have:=ho.aV;omega
inductive Rd (n:aI):aq->aO->Prop
 |int {p:aq} {i:Nat} {x:Up}:n.pr p=⟨i,0⟩->n.ae[i]?=some x->x.ao=10->Rd n p (.mk 1 x.n [] [])
 |lam {p:aq} {i:Nat} {x:Up}:n.pr p=⟨i,0⟩->n.ae[i]?=some x->x.ao=2->Rd n p (.mk 3 0 [] [])
 |fail {p:aq} {i:Nat} {x:Up}:n.pr p=⟨i,0⟩->n.ae[i]?=some x->x.ao=13->Rd n p (.mk 4 0 [] [])
 |UW {p:aq} {i:Nat} {x:Up} {l:List aO}:n.pr p=⟨i,0⟩->n.ae[i]?=some x->x.ao=8->l.length=x.to.length-1->(∀(k:Nat) (s:aO),l[k]?=some s->Rd n ⟨i,k+1⟩ s)->Rd n p (.mk 2 0 x.name l)
theorem Rd.same {n m:aI}(hs:Same n m){p:aq}{s:aO}(h:Rd n p s):∀{l:List Nat},eV n l p->Rd m p s:=by
 induction h with
 |int h1 h2 h3 =>
  intro l hp;obtain⟨a1,a2⟩:=hs.pr _ _ _ hp h1;obtain⟨y,b1,b2⟩:=a2 _ h2 (by omega);have b3:=Up.eB b2;rw[<- b3.2.2.2.2.2.2.1];exact .int a1 b1 (by rw[b3.2.2.1];exact h3)
 |lam h1 h2 h3 =>
  intro l hp;obtain⟨a1,a2⟩:=hs.pr _ _ _ hp h1;obtain⟨y,b1,b2⟩:=a2 _ h2 (by omega);exact .lam a1 b1 (by rw[(Up.eB b2).2.2.1];exact h3)
 |fail h1 h2 h3 =>
  intro l hp;obtain⟨a1,a2⟩:=hs.pr _ _ _ hp h1;obtain⟨y,b1,b2⟩:=a2 _ h2 (by omega);exact .fail a1 b1 (by rw[(Up.eB b2).2.2.1];exact h3)
 |UW h1 h2 h3 h4 h5 ih =>
  intro l hp;obtain⟨a1,a2⟩:=hs.pr _ _ _ hp h1;obtain⟨y,b1,b2⟩:=a2 _ h2 (by omega);have b3:=Up.eB b2;rw[<- b3.2.2.2.2.2.2.2];refine .UW a1 b1 (by rw[b3.2.2.1];exact h3) (by rw[b3.2.2.2.1];exact h4) (λk s hk=>ih k s hk (.UW hp h1 h2 h3 (by omega) ?_));have:=(gE hk).1;omega
structure XI (F:Nat)(s t:RS):Prop where
 same:Same s.cS t.cS
 ok:Yf F t
 d:s.d<=t.d
 sum:s.T.sum=s.d->t.T.sum=t.d
theorem XI.trans {F:Nat}{s t u:RS}(h:XI F s t)(h':XI F t u):XI F s u:=⟨h.same.trans h'.same,h'.ok,cm h.d h'.d,λe=>h'.sum (h.sum e)⟩
theorem XI.refl {F:Nat}{s:RS}(ho:s.cS.Ok)(h:Yf F s):XI F s s:=⟨.refl ho,h,aB _,id⟩
theorem vX {F:Nat}{D:Bool}{i L:Nat}{path:List Nat}{f:Nat}
  (ih:∀{s:RS} {p:aq},s.cS.Ok->eV s.cS path p->Yf F s->oG pg bL F D f s p/\XI F s (fF bL F D f s p).1/\(D=true->(fF bL F D f s p).2.1=0->Rd (fF bL F D f s p).1.cS p (fF bL F D f s p).2.2)) :
  ∀(c k:Nat) {s:RS},s.cS.Ok->(∀j,1<=j->j<L->eV s.cS path ⟨i,j⟩)->1<=k->k+c=L->Yf F s ->
   oF D (oG pg bL F D f) (fF bL F D f) i c k s/\XI F s (gA D (fF bL F D f) i c k s).1/\((gA D (fF bL F D f) i c k s).2.1=0->(gA D (fF bL F D f) i c k s).2.2.length=c) /\
   (D=true->(gA D (fF bL F D f) i c k s).2.1=0->∀(j:Nat) (t:aO),(gA D (fF bL F D f) i c k s).2.2[j]?=some t->Rd (gA D (fF bL F D f) i c k s).1.cS ⟨i,k+j⟩ t)
 |0,k,s,ho,hsp,hk,hL,hr=>⟨trivial,.refl ho hr,λ_=>rfl,λ_ _ j t hj=>by simp[gA]at hj⟩
 |c+1,k,s,ho,hsp,hk,hL,hr=>by
  cases D with
  |false =>
   obtain⟨a1,a2,a3,a4⟩:=vX ih c (k+1) ho hsp (by omega) (by omega) hr;simp only[gA];exact⟨trivial,a2,λe=>by simp[a3 e],λe=>by cases e⟩
  |true =>
   obtain⟨b1,b2,b3⟩:=ih ho (hsp k hk (by omega)) hr;have ho2:=b2.same.ok;have hsp2:∀j,1<=j->j<L->eV (fF bL F true f s ⟨i,k⟩).1.cS path ⟨i,j⟩:=λj h1 h2=>b2.same.spine _ _ (hsp j h1 h2);obtain⟨a1,a2,a3,a4⟩:=vX ih c (k+1) ho2 hsp2 (by omega) (by omega) b2.ok;simp only[gA,oF];by_cases e:(fF bL F true f s ⟨i,k⟩).2.1=0
   ·rw[aa (by simpa using e)];refine⟨⟨b1,λ_=>a1⟩,b2.trans a2,λe2=>by simp[a3 e2],λ_ e2 j t hj=>?_⟩;cases j with
    |zero =>
     simp only[List.getElem?_cons_zero,bG]at hj;subst hj;exact(b3 rfl e).same a2.same (hsp2 k hk (by omega))
    |succ j =>
     simp only[List.getElem?_cons_succ]at hj;have:=a4 rfl e2 j t hj;rw[show k+(j+1)=k+1+j from by omega];exact this
   ·rw[ah (by simpa using e)];exact⟨⟨b1,λe'=>absurd e' e⟩,b2,λe2=>absurd e2 e,λ_ e2=>absurd e2 e⟩
theorem AR (h:bY pg){F:Nat}{s:RS}{path:List Nat}{p:aq}(ho:s.cS.Ok)(hs:eV s.cS path p)(hr:Yf F s):XI F s (UN (dc bL (F-s.d) s.cS p) s):=by
 obtain⟨h1,h2,h3,h4⟩:=uv h (F-s.d) ho hs;obtain⟨k1,k2⟩:=WR _ _ h1;obtain⟨r1,r2,r3⟩:=hr;refine⟨h2,⟨?_,?_,?_⟩,?_,λe=>?_⟩
 ·show s.d+_<=F;omega
 ·show(List.foldl Vs s.T _).length=9;rw[gZ];exact r2
 ·intro k hk;have:=yZ (dc bL (F-s.d) s.cS p).2.1 s.T (B:=s.d+1) (λa ha=>by have:=r3 a ha;omega) (by omega) k hk
  show k<=s.d+_;omega
 ·show s.d<=s.d+_;omega
 ·show(List.foldl Vs s.T _).sum=s.d+_
  rw[vS _ _ (λk hk=>by have:=k1 k hk;omega),e]
theorem AS (h:bY pg){F:Nat}{D:Bool}:∀(f:Nat) {s:RS} {path:List Nat} {p:aq},s.cS.Ok->eV s.cS path p->4000<path.length+f->Yf F s ->
  oG pg bL F D f s p/\XI F s (fF bL F D f s p).1/\(D=true->(fF bL F D f s p).2.1=0->Rd (fF bL F D f s p).1.cS p (fF bL F D f s p).2.2)
 |0,s,path,p,ho,hs,hl,hr=>by have:=hs.short ho;omega
 |f+1,s,path,p,ho,hs,hl,hr=>by
  obtain⟨h1,h2,h3,h4⟩:=uv h (F-s.d) ho hs;have ha:=AR h ho hs hr;by_cases he:(dc bL (F-s.d) s.cS p).2.2.2=0
  ·have hpr:=h3 he;have hpm:=(h2.ok.lk _ ((h2.spine _ _ hs).has h2.ok) id).1;rw[hpr]at hpm;obtain⟨x,hx,hx0,hxk⟩:=aI.pK h2.ok hpm;dsimp only at hx hx0;have hxl:=Up.gT (h2.ok.aD _ _ hx).1 (h2.ok.aD _ _ hx).2.1;have hrun:fF bL F D (f+1) s p=shapeOf D (fF bL F D f) (UN (dc bL (F-s.d) s.cS p) s) (dc bL (F-s.d) s.cS p).2.2.1:=by
    simp only[fF];rw[aa (by simpa using he)]
   have hpart:=fun (hk8:x.ao=8)=>vX (pg:=pg) (F:=F) (D:=D) (i:=(dc bL (F-s.d) s.cS p).2.2.1) (L:=x.to.length) (path:=(dc bL (F-s.d) s.cS p).2.2.1::path) (f:=f)
    (fun {s'} {p'} o1 o2 o3=>AS h f o1 o2 (by simp only[av];omega) o3) (x.to.length-1) 1 (s:=UN (dc bL (F-s.d) s.cS p) s) ha.same.ok
    (λj j1 j2=>.UW (h2.spine _ _ hs) hpr hx hk8 j1 j2) (by omega) (by omega) ha.ok
   rw[hrun];refine⟨⟨hr,h1,λ_=>⟨x,hx,by omega,λhk8=>⟨by omega,(hpart hk8).1⟩⟩⟩,?_⟩;have hxn:(UN (dc bL (F-s.d) s.cS p) s).cS.ae[(dc bL (F-s.d) s.cS p).2.2.1]?=some x:=hx;have hpr':(UN (dc bL (F-s.d) s.cS p) s).cS.pr p=⟨(dc bL (F-s.d) s.cS p).2.2.1,0⟩:=hpr;have hs':eV (UN (dc bL (F-s.d) s.cS p) s).cS path p:=h2.spine _ _ hs;clear h1 h2 h3 h4;generalize (dc bL (F-s.d) s.cS p).2.2.1=i at *;generalize (UN (dc bL (F-s.d) s.cS p) s)=s2 at *;unfold shapeOf;rw[hxn];dsimp only;split
   ·rename_i k;exact⟨ha,λ_ _=>.int hpr' hxn k⟩
   ·split
    ·rename_i k;exact⟨ha,λ_ _=>.lam hpr' hxn k⟩
    ·split
     ·rename_i k;exact⟨ha,λ_ _=>.fail hpr' hxn k⟩
     ·split
      ·rename_i k;obtain⟨a1,a2,a3,a4⟩:=hpart k;split
       ·rename_i e;exact⟨ha.trans a2,λ_ e'=>absurd e' e⟩
       ·rename_i e;have e:(gA D (fF bL F D f) i (x.to.length-1) 1 s2).2.1=0:=by omega
        refine⟨ha.trans a2,λhD _=>?_⟩;obtain⟨b1,b2⟩:=a2.same.pr _ _ _ hs' hpr';obtain⟨y,c1,c2⟩:=b2 _ hxn hxk;have c3:=Up.eB c2;rw[<- c3.2.2.2.2.2.2.2];refine .UW b1 c1 (by rw[c3.2.2.1];exact k) (by rw[c3.2.2.2.1];exact a3 e) (λj t hj=>?_);have:=a4 hD e j t hj;rw[show j+1=1+j from by omega];exact this
      ·exact⟨ha,λ_ e=>by cases e⟩
  ·have hrun:fF bL F D (f+1) s p=(UN (dc bL (F-s.d) s.cS p) s,(dc bL (F-s.d) s.cS p).2.2.2,.zero):=by
    simp only[fF];rw[ah (by simpa using he)]
   rw[hrun];exact⟨⟨hr,h1,λe=>absurd e he⟩,ha,λ_ e=>absurd e he⟩
end
end Go.Proofs.Z
