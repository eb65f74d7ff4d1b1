/- A part of the proof. -/
import Derived.Test.YtffohgbmjjbhiaaGreatB10
import Derived.Test.YtffohgbmjjbhiaaGreatB08
set_option linter.all false
namespace Go.Proofs.Z
theorem lF.FI {n m:aI}{a b:Nat}{H D:aq->Prop}(h:lF n a b m H D){p q:aq}(h1:H p/\D p)(h2:H q/\D q)(hne:p≠q) :
  W7 m [(p,q)]/\lF n a b (m.link p q) H (λr=>D r/\r≠p/\r≠q):=by
 obtain⟨a1,a2⟩:=h.vL (ps:=[p]) (qs:=[q]) rfl (by simpa using h1) (by simpa using h2) (by simp) (by simp) (by simpa using hne);exact⟨a1,a2.congr (λr _=>by simp)⟩
theorem lF.chain {n:aI}{a b:Nat}(hab:a≠b):∀(ms:List Nat) (i:Nat) {m:aI} {H D:aq->Prop},ms≠[]->lF n a b m H D->ms.Nodup->a∉ms->b∉ms ->
  (∀p:aq,p.aD∈ms->p.aT=1\/p.aT=2->H p/\D p) ->
  (∀p:aq,p.aD∈ms.tail->p.aT=0->H p/\D p) ->
  (∀p:aq,p.aD=b->i+1<=p.aT->p.aT<i+1+ms.length->H p/\¬ D p) ->
  (∀p:aq,p.aD=a->p.aT=1->H p/\¬ D p) ->
  sc m a b i ms/\lF n a b (m.chain a b i ms) H (λr=>(D r/\¬ (r.aD∈ms/\(r.aT=1\/r.aT=2))/\¬ (r.aD∈ms.tail/\r.aT=0))\/(r.aD=b/\i+1<=r.aT/\r.aT<i+1+ms.length)\/(r.aD=a/\r.aT=1))
 |[],i,m,H,D,h0,h,h1,h2,h3,h4,h5,h6,h7=>absurd rfl h0
 |[m0],i,m,H,D,h0,h,h1,h2,h3,h4,h5,h6,h7=>by
  simp only[aA,UA,dU,av,aJ,dk]at h2 h3 h4 h5 h6;obtain⟨a1,a2⟩:=h.FH (p:=⟨b,i+1⟩) (q:=⟨m0,2⟩) (p':=⟨a,1⟩) (q':=⟨m0,1⟩) (.inr rfl) (.inl rfl) (h6 _ rfl (by show i+1<=i+1;omega) (by show i+1<_;omega)) (h4 _ rfl (.inr rfl)) (h7 _ rfl rfl) (h4 _ rfl (.inl rfl))
   (by simp only[ne_eq,aq.eq_mk];omega) (by simp)
  refine⟨a1,a2.congr (λp hp=>?_)⟩;have g4:=h4 p;simp only[ne_eq,aq.eq_mk,aA,UA,dU,av,aJ,dk]
  grind
 |m0::m1::r,i,m,H,D,h0,h,h1,h2,h3,h4,h5,h6,h7=>by
  have h1':=UB.1 h1;have h2':a∉m1::r:=λe=>h2 (bA _ e);have h3':b∉m1::r:=λe=>h3 (bA _ e);have n1:a≠m0:=λe=>h2 (by simp[e]);have n2:b≠m0:=λe=>h3 (by simp[e]);have n3:m0≠m1:=λe=>h1'.1 (by simp[e]);have n4:m1∉r:=(UB.1 h1'.2).1;have hl:(m0::m1::r).length=(m1::r).length+1:=rfl;rw[hl]at h6;obtain⟨a1,a2⟩:=h.pF (p:=⟨b,i+1⟩) (q:=⟨m0,2⟩) (.inr rfl) (h6 _ rfl (by show i+1<=i+1;omega) (by show i+1<_;omega)) (h4 _ (by simp) (.inr rfl));obtain⟨a3,a4⟩:=a2.FI (p:=⟨m0,1⟩) (q:=⟨m1,0⟩) (by
   have:=h4 ⟨m0,1⟩ (by simp) (.inl rfl);refine⟨this.1,.inl ⟨this.2,by simp⟩⟩) (by
   have:=h5 ⟨m1,0⟩ (by simp) rfl;refine⟨this.1,.inl ⟨this.2,by simp⟩⟩) (by simp)
  obtain⟨c1,c2⟩:=lF.chain hab (m1::r) (i+1) (by simp) a4 h1'.2 h2' h3' (λp hp hs=>by
   have:=h4 p (bA _ hp) hs;simp only[ne_eq,aq.eq_mk]
   grind) (λp hp hs=>by
   have:=h5 p (by simp only[dk]at hp ⊢;exact bA _ hp) hs;simp only[ne_eq,aq.eq_mk]
   grind) (λp hp hs hs'=>by
   have:=h6 p hp (by omega) (by omega);simp only[ne_eq,aq.eq_mk]
   grind) (λp hp hs=>by
   have:=h7 p hp hs;simp only[ne_eq,aq.eq_mk]
   grind)
  refine⟨⟨a1,a3,c1⟩,c2.congr (λp hp=>?_)⟩;have g4:=h4 p;have g5:=h5 p;simp only[ne_eq,aq.eq_mk,dk,av,aA]at g4 g5 ⊢;clear a1 a2 a3 a4 c1 c2 h4 h5 h6 h7 h
  grind
theorem pE.pick {n:aI}{a b alt:Nat}{x y:Up}{cc:List UInt8×Nat}(h:pE n a b x y)(kx:x.ao=9)(ky:y.ao=8)(hcc:x.aY[alt]?=some cc)(hc:cc.2+1=y.to.length)
  (hu:n.used+cc.2+(c_ a alt x).length<=n.aV) {m:aI} (hm:m=n.pick a b alt x cc.2) :
  (n.Wm x cc.2).ae[a]?=some x/\oB n a alt x cc.2/\sc (n.kq a alt x cc.2) a b 0 (n.Wt x cc.2)/\dS (n.vK a b alt x cc.2) ((c_ a alt x).zip (eD (n.qB a alt x cc.2)))/\wZ n m a b:=by
 subst hm;have ha:=h.ha;have hb:=h.hb;have hne:=h.ne;obtain⟨x1,x2,x3⟩:=h.ok.aD _ _ h.hx;obtain⟨y1,y2,y3⟩:=h.ok.aD _ _ h.hy;have halt:alt<x.aY.length:=(gE hcc).1;have hxp:x.to.length=2+x.aY.length:=by rw[x2];unfold Up.bO;rw[aa (by omega),ah kx]
 have hlev:x.Us<=60:=by
  simp only[Up.ok,ab,Uq]at x1;have:=x1.1.1.1.2;split at this<;>omega
 obtain⟨d1,d2⟩:=mP hlev;have e1:(gN x.Us).ok=true:=by simp[gN,Up.ok,Up.fP,hlev]
 have e2:(gN x.Us).bO=3:=rfl;have hlk:=vD (x:=gN x.Us) (by show 2<=3;omega) e1 (λe=>by cases e) (by omega) cc.2 h.ok.sk (by omega);have hax:=hlk.bq a x h.hx (by omega);obtain⟨g1,g2,g3,g4,g5⟩:=h.st.cI (x:=gN x.Us) (k:=cc.2) (by show 2<=3;omega) e1 (λe=>by cases e) (by omega) (by omega);rw[e2]at g1;have gc:=g1.aV;refine⟨hax,?_⟩;clear hlk hax;unfold aI.pick aI.vK aI.kq aI.qB aI.mQ oB aI.mQ aI.Wm;have hA:n.Wt x cc.2=(n.cI (gN x.Us) cc.2).2:=rfl;rw[hA];generalize hA:(n.cI (gN x.Us) cc.2).2=A at *;generalize (n.cI (gN x.Us) cc.2).1=m1 at *;obtain⟨h1,h2,h3,h4,h5⟩:=g1.cI (x:=ch x.Us) (k:=(c_ a alt x).length) (by show 2<=7;omega) d1 (λe=>by cases e) (by omega) (by omega);rw[d2]at h1;generalize hC:(m1.cI (ch x.Us) (c_ a alt x).length).2=C at *;generalize (m1.cI (ch x.Us) (c_ a alt x).length).1=m at *;have fa:a∉A:=g3 ⟨a,0⟩ (h.pa (by omega));have fb:b∉A:=g3 ⟨b,0⟩ (h.pb (by omega));have fa':a∉C:=h3 ⟨a,0⟩ (.inl (h.pa (by omega)));have fb':b∉C:=h3 ⟨b,0⟩ (.inl (h.pb (by omega)));have fc:∀c,c∈A->c∉C:=λc hc=>h3 ⟨c,0⟩ (.inr ⟨hc,by show 0<3;omega⟩);have hrest:∀p,p∈c_ a alt x↔p.aD=a/\2<=p.aT/\p.aT<x.to.length/\p.aT≠alt+2:=by
  intro p;unfold c_;simp only[dH,bu,Uq,ne_eq,aq.eq_mk];omega
 have hnod:(c_ a alt x).Nodup:=(du _ _ _).filter _;have hzl:(c_ a alt x).length=(eD C).length:=by simp[eD,h5]
 have last:∀(m3:aI),lF n a b m3 (λp=>(n.has p\/(p.aD∈A/\p.aT<3))\/(p.aD∈C/\p.aT<1)) (λr=>((r=⟨a,0⟩\/r=⟨b,0⟩)\/r.aD∈C)\/(r.aD=b/\1<=r.aT)\/(r.aD=a/\(r.aT=1\/r.aT=alt+2))) ->
   dS m3 ((c_ a alt x).zip (eD C))/\wZ n (m3.ft ((c_ a alt x).zip (eD C))) a b:=by
  intro m3 hm3;obtain⟨k1,k2⟩:=hm3.nJ (ps:=c_ a alt x) (qs:=eD C) hzl (λp hp=>.inl ((hrest p).1 hp).1) (λp hp=>by
   rw[hrest]at hp;have ha:=ha p;simp only[aq.eq_mk]
   grind) (λq hq=>by
   rw[gV]at hq;exact⟨.inr ⟨hq.1,by omega⟩,.inl (.inr hq.1)⟩) hnod (mR h2)
  refine⟨k1,k2.finish hne h.hx h.hy (by omega) (by omega) (λp hp=>?_)⟩;have ha:=ha p;have hb:=hb p;have hf:=h3 p;have hf2:=g3 p;have hf3:=fc p.aD;simp only[hrest,gV,aq.eq_mk];clear k1 k2 hm3 h1 g1 hcc hu hA hC
  grind
 cases hAA:A with
 |nil =>
  subst hAA;have hc0:cc.2=0:=by simpa using g5.symm
  obtain⟨k1,k2⟩:=h1.AI (ps:=[⟨a,alt+2⟩]) (qs:=[⟨a,1⟩]) rfl (by simp) (by simp) (λp hp=>by
   have ha:=ha p;simp only[br,aq.eq_mk]at hp ⊢
   grind) (λp hp=>by
   have ha:=ha p;simp only[br,aq.eq_mk]at hp ⊢
   grind) (by simp) (by simp) (by simp)
  refine⟨k1,trivial,last _ (k2.congr (λp hp=>?_))⟩;have hb:=hb p;simp only[br,UA,aq.eq_mk]at hp ⊢
  grind
 |cons m0 r =>
  obtain⟨k1,k2⟩:=h1.pF (p:=⟨a,alt+2⟩) (q:=⟨m0,0⟩) (.inl rfl) (by
   have ha:=ha ⟨a,alt+2⟩ rfl;simp only[aq.eq_mk]at ha ⊢
   grind) (by
   simp only[aq.eq_mk,hAA];refine⟨.inl (.inr ⟨by simp,by omega⟩),.inl (.inr (by simp))⟩)
  have hlen:(m0::r).length=cc.2:=by rw[<- hAA];exact g5
  obtain⟨k3,k4⟩:=lF.chain hne (m0::r) 0 (by simp) k2 (by rw[<- hAA];exact g2) (by rw[<- hAA];exact fa) (by rw[<- hAA];exact fb) (λp hp hs=>by
   rw[<- hAA]at hp;simp only[ne_eq,aq.eq_mk]
   grind) (λp hp hs=>by
   have hp':p.aD∈A:=by rw[hAA];exact bA _ hp
   have hpm:p.aD≠m0:=λe=>by
    rw[hAA]at g2;exact(UB.1 g2).1 (by rw[<- e];exact hp)
   simp only[ne_eq,aq.eq_mk]
   grind) (λp hp hs hs'=>by
   have hb:=hb p;simp only[ne_eq,aq.eq_mk]
   grind) (λp hp hs=>by
   have ha:=ha p;simp only[ne_eq,aq.eq_mk]
   grind)
  refine⟨k1,k3,last _ (k4.congr (λp hp=>?_))⟩;have ha:=ha p;have hb:=hb p;have hf:=h3 p;have hf2:=g3 p;have hf3:=fc p.aD;have hmem:p.aD∈A↔p.aD=m0\/p.aD∈r:=by rw[hAA];exact aA
  simp only[ne_eq,aq.eq_mk,dk,aA];rw[hlen];clear k1 k2 k3 k4 h1 g1 hcc hu hA hC last
  grind
section
variable {pg:fX}{G:Heap}
theorem t129 (h:bY pg){n:aI}{p:aq}(hp:n.has p) :
  UM pg (E pg) 129 [.ag [.p (.sl (n.ae.map Up.aw)),.p (.i .i64 n.aV)],.ag [.p (.i .i64 p.aD),.p (.i .i64 p.aT)]] G=some (.ret (.dF [.ag [.p (.i .i64 (n.pr p).aD),.p (.i .i64 (n.pr p).aT)],.p (.i .i64 0)]),G):=Ut (NB h hp) rfl rfl
theorem t141 (h:bY pg){n:aI}{i:Nat}(hp:n.has ⟨i,0⟩) :
  UM pg (E pg) 141 [.ag [.p (.sl (n.ae.map Up.aw)),.p (.i .i64 n.aV)],.p (.i .i64 i)] G=some (.ret (.p (.i .i64 (if (n.pr ⟨i,0⟩).aT=0 then ((n.pr ⟨i,0⟩).aD:Int) else -1))),G):=by
 refine Ut ?_ rfl rfl;have e1:=λG=>t129 (G:=G) h hp;simp only[fW]at e1;rw[h.run (x:=GZ)];by_cases hs:(n.pr ⟨i,0⟩).aT=0
 ·have hs':((n.pr ⟨i,0⟩).aT:Int)=0:=by omega
  simp[GZ,aj,t152 h,(show bC pg 152=false from h.bq (x:=sT) rfl),e1,Ur hs,Ur hs']
 ·have hs':¬ ((n.pr ⟨i,0⟩).aT:Int)=0:=by omega
  simp[GZ,aj,t152 h,(show bC pg 152=false from h.bq (x:=sT) rfl),e1,hs,hs']
theorem Up.q_ {x:Up}(h:x.ok=true):x.Us<=60:=by
 simp only[Up.ok,ab,Uq]at h;have:=h.1.1.1.2;split at this<;>omega
theorem XV:∀{l all:List (List UInt8×Nat)} {i:Nat},eM all i l=true->∀c,c∈l->c.2<=8
 |[],_,_,_,c,hc=>by simp at hc
 |a::r,all,i,h,c,hc=>by
  simp only[eM,ab,Uq]at h;rcases aA.1 hc with rfl|hc
  ·exact h.1.1.2
  ·exact XV h.2 c hc
theorem Up.ur {x:Up}(h:x.ok=true):∀c,c∈x.aY->c.2<=8:=by
 simp only[Up.ok,ab,Uq]at h;have:=h.1.1.1.1.2;unfold Up.fP at this;split at this
 ·simp only[ab]at this;exact XV this.1
 ·simp only[Uq]at this;intro c hc;rw[lM.1 this]at hc;simp at hc
theorem Hj {p:cF}{a b:Up}(hla:a.to.length<2 ^ 30)(hlb:b.to.length<2 ^ 30)(haa:a.aY.length<2 ^ 30)(hab:b.aY.length<2 ^ 30)(hca:∀c,c∈a.aY->c.2<2 ^ 40)(hcb:∀c,c∈b.aY->c.2<2 ^ 40):p.VB a b<2 ^ 41:=by
 unfold cF.VB Up.others;dsimp only;cases p.swap<;>simp only[if_true,if_false,aZ]<;>(repeat' split)<;>first|omega|(rename_i c hc;have:=hca c (aE hc);omega)|(rename_i c hc;have:=hcb c (aE hc);omega)
structure qf (n:aI)(i j:Nat)(x y:Up):Prop where
 ok:n.Ok
 hx:n.ae[i]?=some x
 hy:n.ae[j]?=some y
 x1:1<=x.to.length
 pr:n.pr ⟨i,0⟩=⟨j,0⟩
def qg (n:aI)(i j:Nat)(x y:Up):Option Nat :=
 if (aX x y).2≠0 then some (aX x y).2 else if n.aV<n.used+(aX x y).1.VB x y then some 121 else none
theorem Lt (h:bY pg){n m:aI}{i j:Nat}{x y:Up}(hm:qf n i j x y)(ha:qg n i j x y=none)
  (hdo:E pg 145 [.ptr 0 0] [.box (.p (.sl (n.ae.map Up.aw))::.p (.i .i64 n.aV)::([.p (.i .i64 (aX x y).1.ao),.p (.b (aX x y).1.swap),.p (.i .i64 (aX x y).1.Us),.p (.i .i64 (aX x y).1.alt),.p (.i .i64 (aX x y).1.aD.ao),.p (.i .i64 (aX x y).1.aD.Us),.p (.i .i64 (aX x y).1.aD.n),.p (.s (aX x y).1.aD.name),.p (.sl ((aX x y).1.aD.aY.map Ux)),.p (.sl ((aX x y).1.aD.to.map aq.aw))]++[.p (.i .i64 (if (aX x y).1.swap then j else i:Nat)),.p (.i .i64 (if (aX x y).1.swap then i else j:Nat))]))]=some (.ret (.dF []),[.box (.p (.sl (m.ae.map Up.aw))::.p (.i .i64 m.aV)::([.p (.i .i64 (aX x y).1.ao),.p (.b (aX x y).1.swap),.p (.i .i64 (aX x y).1.Us),.p (.i .i64 (aX x y).1.alt),.p (.i .i64 (aX x y).1.aD.ao),.p (.i .i64 (aX x y).1.aD.Us),.p (.i .i64 (aX x y).1.aD.n),.p (.s (aX x y).1.aD.name),.p (.sl ((aX x y).1.aD.aY.map Ux)),.p (.sl ((aX x y).1.aD.to.map aq.aw))]++[.p (.i .i64 (if (aX x y).1.swap then j else i:Nat)),.p (.i .i64 (if (aX x y).1.swap then i else j:Nat))]))])) :
  E pg 132 [.ag [.p (.sl (n.ae.map Up.aw)),.p (.i .i64 n.aV)],.p (.i .i64 i)] []=some (.ret (.dF [.ag [.p (.sl (m.ae.map Up.aw)),.p (.i .i64 m.aV)],.ag [.p (.i .i64 (aX x y).1.ao),.p (.b (aX x y).1.swap),.p (.i .i64 (aX x y).1.Us),.p (.i .i64 (aX x y).1.alt),.p (.i .i64 (aX x y).1.aD.ao),.p (.i .i64 (aX x y).1.aD.Us),.p (.i .i64 (aX x y).1.aD.n),.p (.s (aX x y).1.aD.name),.p (.sl ((aX x y).1.aD.aY.map Ux)),.p (.sl ((aX x y).1.aD.to.map aq.aw))],.p (.i .i64 0)]),[]):=by
 obtain⟨ho,hx,hy,hx1,hpr⟩:=hm;have hl:=ho.len;have hcp:=ho.aV;obtain⟨x1,x2,x3⟩:=ho.aD _ _ hx;obtain⟨y1,y2,y3⟩:=ho.aD _ _ hy;have hxl:=Up.gT x1 x2;have hyl:=Up.gT y1 y2;have hxa:=Up.gS x1;have hya:=Up.gS y1;have hxb:∀c,c∈x.aY->c.2<2 ^ 40:=λc hc=>by have:=Up.ur x1 c hc;omega
 have hyb:∀c,c∈y.aY->c.2<2 ^ 40:=λc hc=>by have:=Up.ur y1 c hc;omega
 have e1:=λG=>t141 (G:=G) (n:=n) (i:=i) h ⟨x,hx,by dsimp only;omega⟩;rw[hpr]at e1;simp only[if_true]at e1;have e2:=λG=>t142 (G:=G) h x y (Up.q_ x1) (Up.q_ y1) (by omega) (by omega) (by omega) (by omega);have e3:=λG=>t144 (G:=G) h (aX x y).1 x y (by omega) (by omega) (by omega) (by omega) hxb hyb;have e4:=λG=>t143 (G:=G) (n:=n) h (by omega);unfold qg at ha;by_cases hr:(aX x y).2=0
 ·rw[aa (by simpa using hr)]at ha;by_cases hn:n.aV<n.used+(aX x y).1.VB x y
  ·rw[ah hn]at ha;cases ha
  ·have hn':¬ (n.aV:Int)<(n.used:Int)+(aX x y).1.VB x y:=by omega
   have hus:n.used<=n.ae.length:=gu;have hr':((aX x y).2:Int)=0:=by omega
   have hxi:i<n.ae.length:=(gE hx).1;have hyj:j<n.ae.length:=(gE hy).1;have hxi':n.ae[i]=x:=(gE hx).2;have hyj':n.ae[j]=y:=(gE hy).2;have e5:¬ (j:Int)<0:=by omega
   rw[hr']at e2;have hw:=cR ((n.used:Int)+(aX x y).1.VB x y);rw[h.run (x:=BL)];cases hsw:(aX x y).1.swap with
   |false =>
    rw[hsw]at hdo;simp only[hsw]at e3;simp only[aZ,if_false,aH,aL]at hdo;have e6:=sZ (pg:=pg) (k:=4) (G:=[.box [.p (.sl (n.ae.map Up.aw)),.p (.i .i64 n.aV)],.box [.aC,.p (.i .i64 0)],.box [.p (.i .i64 0),.p (.b false),.p (.i .i64 0),.p (.i .i64 0),.p (.i .i64 0),.p (.i .i64 0),.p (.i .i64 0),.p (.s []),.aC,.aC],.box ([.p (.i .i64 (aX x y).1.ao),.p (.b (aX x y).1.swap),.p (.i .i64 (aX x y).1.Us),.p (.i .i64 (aX x y).1.alt),.p (.i .i64 (aX x y).1.aD.ao),.p (.i .i64 (aX x y).1.aD.Us),.p (.i .i64 (aX x y).1.aD.n),.p (.s (aX x y).1.aD.name),.p (.sl ((aX x y).1.aD.aY.map Ux)),.p (.sl ((aX x y).1.aD.to.map aq.aw))]),.box (.p (.sl (n.ae.map Up.aw))::.p (.i .i64 n.aV)::([.p (.i .i64 (aX x y).1.ao),.p (.b (aX x y).1.swap),.p (.i .i64 (aX x y).1.Us),.p (.i .i64 (aX x y).1.alt),.p (.i .i64 (aX x y).1.aD.ao),.p (.i .i64 (aX x y).1.aD.Us),.p (.i .i64 (aX x y).1.aD.n),.p (.s (aX x y).1.aD.name),.p (.sl ((aX x y).1.aD.aY.map Ux)),.p (.sl ((aX x y).1.aD.to.map aq.aw))]++[.p (.i .i64 i),.p (.i .i64 j)]))]) hdo (by rw[hsw];rfl) rfl rfl rfl rfl;simp only[hsw,bF,bT,aH,aL]at e6;simp[BL,aj,Up.aw,aS,cF.aw,t128 h ho,e1,e2,e3,e4,e5,hn,hn',hw,hxi,hyj,hxi',hyj',hsw,(show bC pg 143=false from h.bq (x:=Ac) rfl),(show bC pg 144=false from h.bq (x:=lZ) rfl),e6,show Nat.beq 3 1=false from rfl]
   |true =>
    rw[hsw]at hdo;simp only[hsw]at e3;simp only[if_true,aH,aL]at hdo;have e6:=sZ (pg:=pg) (k:=4) (G:=[.box [.p (.sl (n.ae.map Up.aw)),.p (.i .i64 n.aV)],.box [.aC,.p (.i .i64 0)],.box [.p (.i .i64 0),.p (.b false),.p (.i .i64 0),.p (.i .i64 0),.p (.i .i64 0),.p (.i .i64 0),.p (.i .i64 0),.p (.s []),.aC,.aC],.box ([.p (.i .i64 (aX x y).1.ao),.p (.b (aX x y).1.swap),.p (.i .i64 (aX x y).1.Us),.p (.i .i64 (aX x y).1.alt),.p (.i .i64 (aX x y).1.aD.ao),.p (.i .i64 (aX x y).1.aD.Us),.p (.i .i64 (aX x y).1.aD.n),.p (.s (aX x y).1.aD.name),.p (.sl ((aX x y).1.aD.aY.map Ux)),.p (.sl ((aX x y).1.aD.to.map aq.aw))]),.box (.p (.sl (n.ae.map Up.aw))::.p (.i .i64 n.aV)::([.p (.i .i64 (aX x y).1.ao),.p (.b (aX x y).1.swap),.p (.i .i64 (aX x y).1.Us),.p (.i .i64 (aX x y).1.alt),.p (.i .i64 (aX x y).1.aD.ao),.p (.i .i64 (aX x y).1.aD.Us),.p (.i .i64 (aX x y).1.aD.n),.p (.s (aX x y).1.aD.name),.p (.sl ((aX x y).1.aD.aY.map Ux)),.p (.sl ((aX x y).1.aD.to.map aq.aw))]++[.p (.i .i64 j),.p (.i .i64 i)]))]) hdo (by rw[hsw];rfl) rfl rfl rfl rfl;simp only[hsw,bF,bT,aH,aL]at e6;simp[BL,aj,Up.aw,aS,cF.aw,t128 h ho,e1,e2,e3,e4,e5,hn,hn',hw,hxi,hyj,hxi',hyj',hsw,(show bC pg 143=false from h.bq (x:=Ac) rfl),(show bC pg 144=false from h.bq (x:=lZ) rfl),e6,show Nat.beq 3 1=false from rfl]
 ·rw[ah hr]at ha;cases ha
theorem Lu (h:bY pg){n:aI}{i j:Nat}{x y:Up}{e:Nat}(hm:qf n i j x y)(ha:qg n i j x y=some e) :
  E pg 132 [.ag [.p (.sl (n.ae.map Up.aw)),.p (.i .i64 n.aV)],.p (.i .i64 i)] []=some (.ret (.dF [.ag [.p (.sl (n.ae.map Up.aw)),.p (.i .i64 n.aV)],.ag (bP (cF.plain 0).aw),.p (.i .i64 e)]),[]):=by
 obtain⟨ho,hx,hy,hx1,hpr⟩:=hm;have hl:=ho.len;have hcp:=ho.aV;obtain⟨x1,x2,x3⟩:=ho.aD _ _ hx;obtain⟨y1,y2,y3⟩:=ho.aD _ _ hy;have hxl:=Up.gT x1 x2;have hyl:=Up.gT y1 y2;have hxa:=Up.gS x1;have hya:=Up.gS y1;have hxb:∀c,c∈x.aY->c.2<2 ^ 40:=λc hc=>by have:=Up.ur x1 c hc;omega
 have hyb:∀c,c∈y.aY->c.2<2 ^ 40:=λc hc=>by have:=Up.ur y1 c hc;omega
 have e1:=λG=>t141 (G:=G) (n:=n) (i:=i) h ⟨x,hx,by dsimp only;omega⟩;rw[hpr]at e1;simp only[if_true]at e1;have e2:=λG=>t142 (G:=G) h x y (Up.q_ x1) (Up.q_ y1) (by omega) (by omega) (by omega) (by omega);have e3:=λG=>t144 (G:=G) h (aX x y).1 x y (by omega) (by omega) (by omega) (by omega) hxb hyb;have e4:=λG=>t143 (G:=G) (n:=n) h (by omega);have hxi:i<n.ae.length:=(gE hx).1;have hyj:j<n.ae.length:=(gE hy).1;have hxi':n.ae[i]=x:=(gE hx).2;have hyj':n.ae[j]=y:=(gE hy).2;have e5:¬ (j:Int)<0:=by omega
 unfold qg at ha;rw[h.run (x:=BL)];by_cases hr:(aX x y).2=0
 ·rw[aa (by simpa using hr)]at ha;have hr':((aX x y).2:Int)=0:=by omega
  by_cases hn:n.aV<n.used+(aX x y).1.VB x y
  ·rw[ah hn]at ha;cases ha;have hn':(n.aV:Int)<(n.used:Int)+(aX x y).1.VB x y:=by omega
   have hus:n.used<=n.ae.length:=gu;rw[hr']at e2;have hnd:(aX x y).1.VB x y<2 ^ 41:=Hj (by omega) (by omega) (by omega) (by omega) hxb hyb;have hw:=cR ((n.used:Int)+(aX x y).1.VB x y);simp[BL,aj,Up.aw,aS,cF.aw,cF.plain,Up.zero,t128 h ho,e1,e2,e3,e4,e5,Ur hn,Ur hn',hw,hxi,hyj,hxi',hyj',(show bC pg 143=false from h.bq (x:=Ac) rfl),(show bC pg 144=false from h.bq (x:=lZ) rfl)]
  ·rw[aa hn]at ha;cases ha
 ·rw[ah hr]at ha;cases ha;have hr':¬ ((aX x y).2:Int)=0:=by omega
  simp[BL,aj,Up.aw,aS,cF.aw,cF.plain,Up.zero,t128 h ho,e1,e2,e5,hr,hr',hxi,hyj,hxi',hyj']
def jB (p:cF)(x y:Up):Prop :=
 (p.ao=1/\x.ao=3/\y.ao=2)\/(p.ao=6/\x.ao=y.ao/\fY x.ao=3) \/
 (p.ao=2/\x.ao=9/\y.ao=8/\ng x y=some p.alt)\/(p.ao=3/\x.ao=11/\y.ao=10) \/
 (p.ao=4/\x.ao=12/\y.ao=10/\∃z,Vf x y=some z/\p.aD={ z with Us:=x.Us }) \/
 (p.ao=5/\fY x.ao=1/\fY y.ao=2)\/(p.ao=7/\fY x.ao=3/\2<=y.ao/\p.Us=j7 x y/\j7 x y<=60)\/(p.ao=8/\x.ao=7/\2<=y.ao)
theorem WC {k:Nat}(h:fY k≠0):2<=k:=by
 unfold fY at h;split at h
 ·omega
 ·split at h
  ·omega
  ·split at h
   ·omega
   ·split at h
    ·omega
    ·exact absurd rfl h
theorem tQ {x y:Up}(h:(dD x y).2=0)(hx:fY x.ao=3)(hy:2<=y.ao):(dD x y).1.swap=false/\jB (dD x y).1 x y:=by
 unfold dD at h ⊢;split
 ·rename_i c;rw[ah c]at h;cases h
 ·rename_i c;rw[aa c]at h;split
  ·rename_i c2;rw[ah c2]at h;cases h
  ·rename_i c2;refine⟨rfl,?_⟩;unfold jB;exact .inr (.inr (.inr (.inr (.inr (.inr (.inl ⟨rfl,hx,hy,rfl,by omega⟩))))))
theorem vM {x y:Up}(h:(fi x y).2=0)(hx:fY x.ao=1)(hy:fY y.ao=2):(fi x y).1.swap=false/\jB (fi x y).1 x y:=by
 unfold fi at h ⊢;unfold jB;split
 ·rename_i c;rw[ah c]at h;split
  ·exact⟨rfl,.inl ⟨rfl,c⟩⟩
  ·rename_i c2;rw[aa c2]at h;cases h
 ·rename_i c;rw[aa c]at h;split
  ·rename_i c2;rw[ah c2]at h;unfold jx at h ⊢;split
   ·rename_i c3;rw[ah c3]at h;split
    ·exact⟨rfl,.inr (.inr (.inr (.inr (.inr (.inl ⟨rfl,hx,hy⟩)))))⟩
    ·rename_i k hk;exact⟨rfl,.inr (.inr (.inl ⟨rfl,c2.1,c2.2,hk⟩))⟩
   ·rename_i c3;rw[aa c3]at h;cases h
  ·rename_i c2;rw[aa c2]at h;split
   ·rename_i c3;exact⟨rfl,.inr (.inr (.inr (.inl ⟨rfl,c3⟩)))⟩
   ·split
    ·rename_i c4;unfold VK;split
     ·exact⟨rfl,.inr (.inr (.inr (.inr (.inr (.inl ⟨rfl,hx,hy⟩)))))⟩
     ·rename_i z hz;exact⟨rfl,.inr (.inr (.inr (.inr (.inl ⟨rfl,c4.1,c4.2,z,hz,rfl⟩))))⟩
    ·exact⟨rfl,.inr (.inr (.inr (.inr (.inr (.inl ⟨rfl,hx,hy⟩)))))⟩
theorem ra {r:cF×Nat}{x y:Up}(h:(fU r).2=0)(hr:r.2=0->jB r.1 x y):(fU r).1.swap=true/\jB (fU r).1 x y:=by
 unfold fU at h ⊢;by_cases c:r.2=0
 ·rw[ah c];exact⟨rfl,hr c⟩
 ·rw[aa c]at h;exact absurd h c
theorem Hk {k:Nat}(h:fY k=4):k=7:=by
 unfold fY at h;split at h
 ·omega
 ·split at h
  ·omega
  ·split at h
   ·omega
   ·split at h
    ·assumption
    ·omega
theorem Hl {x y:Up}(h:(aX x y).2=0):jB (aX x y).1 (if (aX x y).1.swap then y else x) (if (aX x y).1.swap then x else y):=by
 have ns:∀{p:cF},p.swap=false->jB p x y->jB p (if p.swap then y else x) (if p.swap then x else y):=by
  intro p hp ho;rw[hp];exact ho
 have ys:∀{p:cF},p.swap=true->jB p y x->jB p (if p.swap then y else x) (if p.swap then x else y):=by
  intro p hp ho;rw[hp];exact ho
 unfold aX at h ⊢;split
 ·rename_i c;rw[ah c]at h;cases h
 ·rename_i c0;rw[aa c0]at h;rw[eX]at c0;have kx:=WC c0.1;have ky:=WC c0.2;split
  ·rename_i c1;exact ns rfl (.inr (.inr (.inr (.inr (.inr (.inr (.inr ⟨rfl,Hk c1,ky⟩)))))))
  ·rename_i c1;rw[aa c1]at h;split
   ·rename_i c2;rw[ah c2]at h;have:=ra (x:=y) (y:=x) h (λ_=>.inr (.inr (.inr (.inr (.inr (.inr (.inr ⟨rfl,Hk c2,kx⟩)))))));exact ys this.1 this.2
   ·rename_i c2;rw[aa c2]at h;split
    ·rename_i c3;exact ns rfl (.inr (.inl ⟨rfl,c3.2.2.2,c3.1⟩))
    ·rename_i c3;rw[aa c3]at h;split
     ·rename_i c4;rw[ah c4]at h;have:=tQ h c4.1 ky;exact ns this.1 this.2
     ·rename_i c4;rw[aa c4]at h;split
      ·rename_i c5;rw[ah c5]at h;have:=ra (x:=y) (y:=x) h (λe=>(tQ e c5 kx).2);exact ys this.1 this.2
      ·rename_i c5;rw[aa c5]at h;split
       ·rename_i c6;rw[ah c6]at h;have:=vM h c6.1 c6.2;exact ns this.1 this.2
       ·rename_i c6;rw[aa c6]at h;split
        ·rename_i c7;rw[ah c7]at h;have:=ra (x:=y) (y:=x) h (λe=>(vM e c7.2 c7.1).2);exact ys this.1 this.2
        ·rename_i c7;rw[aa c7]at h;cases h
def aI.gW (n:aI)(p:cF)(a b:Nat)(x y:Up):aI :=
 if p.ao=1\/p.ao=6 then n.Vq ((UQ a 1 (x.to.length-1)).zip (UQ b 1 (x.to.length-1)))
 else if p.ao=2 then n.pick a b p.alt x ((x.aY[p.alt]?).getD ([],0)).2 else if p.ao=3 then n.half a b x y else if p.ao=4 then n.out a p.aD
 else if p.ao=5 then n.fail a b x y else if p.ao=7 then n.pass a b x y p.Us else n.jA b x.Us y
def vN (p:cF)(x y:Up):Nat :=
 if p.ao=2 then (match x.aY[p.alt]? with
  |some c=>c.2+x.aY.length-1
  |none=>0)
 else if p.ao=3\/p.ao=4 then 1 else if p.ao=5 then 1+(x.others-1)+y.others else if p.ao=7 then (if x.ao=4 then 2 else 1)+y.others
 else if p.ao=8 then y.others else 0
theorem CT (p:cF)(a b:Up):p.VB a b=vN p (if p.swap then b else a) (if p.swap then a else b):=rfl
theorem aI.Ok.Vg {n:aI}(h:n.Ok){i:Nat}{x:Up}(hx:n.ae[i]?=some x){k:Nat}(hk:x.ao=k)(h8:k≠8)(h9:k≠9):x.to.length=eL k:=by
 rw[(h.aD i x hx).2.1];unfold Up.bO;rw[hk,aa h8,aa h9]
theorem FJ {k:Nat}(h:fY k=3):k=4\/k=5\/k=6:=by
 unfold fY at h;split at h
 ·omega
 ·split at h
  ·omega
  ·split at h
   ·assumption
   ·split at h<;>omega
theorem YW {k:Nat}(h:fY k=1):k=3\/k=9\/k=11\/k=12:=by
 unfold fY at h;split at h
 ·assumption
 ·split at h
  ·omega
  ·split at h
   ·omega
   ·split at h<;>omega
theorem Up.AJ {y:Up}{Us:Nat}(hy:y.ok=true)(hk:2<=y.ao)(hl:Us<=60):({ y with Us:=Us }:Up).ok=true:=by
 simp only[Up.ok,ab]at hy ⊢;obtain⟨⟨⟨⟨⟨a1,a2⟩,a3⟩,a4⟩,a5⟩,a6⟩:=hy;refine⟨⟨⟨⟨⟨a1,a2⟩,?_⟩,a4⟩,a5⟩,a6⟩;rw[aa (by omega)];simpa using hl
theorem BU {x y z:Up}(h:Vf x y=some z):2<=z.ao/\z.ok=true/\(z.ao=8->z.to.length=z.bO)/\z.bO=1:=by
 have i1:∀v,(fg v).ok=true:=λv=>by simp[fg,Up.ok,Up.fP]
 have i2:∀b,2<=(qy b).ao/\(qy b).ok=true/\((qy b).ao=8->(qy b).to.length=(qy b).bO)/\(qy b).bO=1:=by
  intro b;cases b<;>exact⟨by decide,by decide,λ_=>rfl,rfl⟩
 have i3:∀v,2<=(fg v).ao/\(fg v).ok=true/\((fg v).ao=8->(fg v).to.length=(fg v).bO)/\(fg v).bO=1:=λv=>⟨by show 2<=10;omega,i1 v,λe=>(by cases e),rfl⟩
 unfold Vf at h;split at h
 ·cases h;exact i3 _
 ·split at h
  ·cases h;exact i3 _
  ·split at h
   ·cases h;exact i3 _
   ·split at h
    ·split at h
     ·cases h
     ·cases h;exact i3 _
    ·split at h
     ·cases h;exact i2 _
     ·split at h
      ·cases h;exact i2 _
      ·cases h;exact i3 _
theorem xH {x y:Up}{k:Nat}(h:ng x y=some k):∃cc,x.aY[k]?=some cc/\cc.2+1=y.to.length:=by
 unfold ng at h;obtain⟨h1,h2,_⟩:=List.findIdx?_eq_some_iff_getElem.1 h;refine⟨x.aY[k],gG h1,?_⟩;simp at h2;exact h2.2
theorem sg {a alt:Nat}{x:Up}(h:alt+2<x.to.length):(c_ a alt x).length=x.to.length-3:=by
 unfold c_;have:∀(m k:Nat),k<=alt+2->alt+2<k+m->((UQ a k m).filter λq=>decide (q≠⟨a,alt+2⟩)).length=m-1:=by
  intro m k h1 h2;have hc:(UQ a k m).countP (λq=>decide (q=⟨a,alt+2⟩))=1:=by
   have hmem:(⟨a,alt+2⟩:aq)∈UQ a k m:=bu.2 ⟨rfl,h1,h2⟩;have hnd:=du a k m;have:List.count (⟨a,alt+2⟩:aq) (UQ a k m)=1:=by rw[hnd.count,ah hmem]
   rw[List.count]at this;rw[<- this];apply kd;intro q _;simp
  have hs:=iy (l:=UQ a k m) (λq=>decide (q=(⟨a,alt+2⟩:aq)));rw[bN,hc]at hs;rw[<- jG];have e:(UQ a k m).countP (λq=>decide (q≠(⟨a,alt+2⟩:aq)))=(UQ a k m).countP (λq=>decide (¬ decide (q=(⟨a,alt+2⟩:aq))=true)):=by
   apply kd;intro q _;simp
  rw[e];omega
 rw[this (x.to.length-2) 2 (by omega) (by omega)];omega
theorem FK (h:bY pg){n:aI}{a b:Nat}{x y:Up}{p:cF}(ht:pE n a b x y)(hp:jB p x y)(hu:n.used+vN p x y<=n.aV) :
  wZ n (n.gW p a b x y) a b/\E pg 145 [.ptr 0 0] [.box (.p (.sl (n.ae.map Up.aw))::.p (.i .i64 n.aV)::([.p (.i .i64 p.ao),.p (.b p.swap),.p (.i .i64 p.Us),.p (.i .i64 p.alt),.p (.i .i64 p.aD.ao),.p (.i .i64 p.aD.Us),.p (.i .i64 p.aD.n),.p (.s p.aD.name),.p (.sl (p.aD.aY.map Ux)),.p (.sl (p.aD.to.map aq.aw))]++[.p (.i .i64 (a:Nat)),.p (.i .i64 (b:Nat))]))] =
   some (.ret (.dF []),[.box (.p (.sl (((n.gW p a b x y).UT a b).ae.map Up.aw))::.p (.i .i64 ((n.gW p a b x y).UT a b).aV)::([.p (.i .i64 p.ao),.p (.b p.swap),.p (.i .i64 p.Us),.p (.i .i64 p.alt),.p (.i .i64 p.aD.ao),.p (.i .i64 p.aD.Us),.p (.i .i64 p.aD.n),.p (.s p.aD.name),.p (.sl (p.aD.aY.map Ux)),.p (.sl (p.aD.to.map aq.aw))]++[.p (.i .i64 (a:Nat)),.p (.i .i64 (b:Nat))]))]):=by
 have hr:bm ([.p (.i .i64 p.ao),.p (.b p.swap),.p (.i .i64 p.Us),.p (.i .i64 p.alt),.p (.i .i64 p.aD.ao),.p (.i .i64 p.aD.Us),.p (.i .i64 p.aD.n),.p (.s p.aD.name),.p (.sl (p.aD.aY.map Ux)),.p (.sl (p.aD.to.map aq.aw))]++[.p (.i .i64 (a:Nat)),.p (.i .i64 (b:Nat))])=true:=by simp[bm,cE]
 have hlen:=ht.ok.len;have jH:=ht.ok.aV;have hx1:=ht.x1;have hy1:=ht.y1;obtain⟨x1,x2,x3⟩:=ht.ok.aD _ _ ht.hx;obtain⟨y1,y2,y3⟩:=ht.ok.aD _ _ ht.hy;have hxl:=Up.gT x1 x2;have hyl:=Up.gT y1 y2;have hlx:=Up.q_ x1;have hly:=Up.q_ y1;unfold vN Up.others at hu;rcases hp with ⟨k,c1,c2⟩|⟨k,c1,c2⟩|⟨k,c1,c2,c3⟩|⟨k,c1,c2⟩|⟨k,c1,c2,z,c3,c4⟩|⟨k,c1,c2⟩|⟨k,c1,c2,c3,c4⟩|⟨k,c1,c2⟩
 ·have hm:n.gW p a b x y=n.Vq ((UQ a 1 (x.to.length-1)).zip (UQ b 1 (x.to.length-1))):=by unfold aI.gW;rw[ah (.inl k)]
  have lx:=ht.ok.Vg ht.hx c1 (by omega) (by omega);have ly:=ht.ok.Vg ht.hy c2 (by omega) (by omega);obtain⟨d1,d2⟩:=ht.join (by omega) (by omega) (by rw[lx,ly];rfl) hm;refine⟨d2,?_⟩;exact DW (k:=p.ao) h hr rfl rfl rfl (by rw[k];rfl) (hm ▸ Lq h ht.hx hr rfl rfl (by omega) d1) d2.len d2.free
 ·have hm:n.gW p a b x y=n.Vq ((UQ a 1 (x.to.length-1)).zip (UQ b 1 (x.to.length-1))):=by unfold aI.gW;rw[ah (.inr k)]
  have c3:=FJ c2;have lx:=ht.ok.Vg ht.hx rfl (by omega) (by omega);have ly:=ht.ok.Vg ht.hy c1.symm (by omega) (by omega);obtain⟨d1,d2⟩:=ht.join (by omega) (by omega) (by rw[lx,ly]) hm;refine⟨d2,?_⟩;exact DW (k:=p.ao) h hr rfl rfl rfl (by rw[k];rfl) (hm ▸ Lq h ht.hx hr rfl rfl (by omega) d1) d2.len d2.free
 ·obtain⟨cc,e1,e2⟩:=xH c3;have halt:p.alt<x.aY.length:=(gE e1).1;have hal:=Up.gS x1;have hxp:x.to.length=2+x.aY.length:=by rw[x2];unfold Up.bO;rw[aa (by omega),ah c1]
  have hrl:=sg (a:=a) (alt:=p.alt) (x:=x) (by omega);have hm:n.gW p a b x y=n.pick a b p.alt x cc.2:=by unfold aI.gW;rw[aa (by omega),ah k,e1];rfl
  rw[ah k,e1]at hu;dsimp only at hu;obtain⟨d1,d2,d3,d4,d5⟩:=ht.pick c1 c2 e1 e2 (by omega) hm;refine⟨d5,?_⟩;exact DW (k:=p.ao) h hr rfl rfl rfl (by rw[k];rfl) (hm ▸ N6 h ht.hx d1 e1 hr rfl rfl rfl ⟨by omega,by omega⟩ (by omega) hlx (by omega) (by omega) (by omega) d2 d3 d4) d5.len d5.free
 ·have hm:n.gW p a b x y=n.half a b x y:=by unfold aI.gW;rw[aa (by omega),aa (by omega),ah k]
  have lx:=ht.ok.Vg ht.hx c1 (by omega) (by omega);have ly:=ht.ok.Vg ht.hy c2 (by omega) (by omega);rw[aa (by omega),ah (.inl k)]at hu;have hho:(gU x y).ok=true:=by
   simp only[Up.ok,Up.fP,gU,ab,cZ,UP,a_,Uq,decide_eq_false_iff_not]at x1 ⊢;obtain⟨⟨⟨⟨⟨a1,a2⟩,a3⟩,a4⟩,a5⟩,a6⟩:=x1;have:x.name≠[]:=by simpa [c1] using a4
   simp[this,hlx]
  obtain⟨d1,d2⟩:=ht.half (by omega) (by omega) (by rw[lx];rfl) (by rw[ly];rfl) hho (by omega) hm;refine⟨d2,?_⟩;exact DW (k:=p.ao) h hr rfl rfl rfl (by rw[k];rfl) (hm ▸ N3 h ht.hx ht.hy hr rfl rfl (by omega) hho (by omega) d1) d2.len d2.free
 ·have hm:n.gW p a b x y=n.out a p.aD:=by unfold aI.gW;rw[aa (by omega),aa (by omega),aa (by omega),ah k]
  have lx:=ht.ok.Vg ht.hx c1 (by omega) (by omega);have ly:=ht.ok.Vg ht.hy c2 (by omega) (by omega);rw[aa (by omega),ah (.inr k)]at hu;obtain⟨z1,z2,z3,z4⟩:=BU c3;have w1:2<=p.aD.ao:=by rw[c4];exact z1
  have w2:p.aD.ok=true:=by rw[c4];exact Up.AJ z2 z1 hlx
  have w3:p.aD.ao=8->p.aD.to.length=p.aD.bO:=by rw[c4];exact z3
  have w4:p.aD.bO=1:=by rw[c4];exact z4
  obtain⟨d1,d2⟩:=ht.out (z:=p.aD) (by omega) (by omega) (by rw[lx];rfl) (by rw[ly];rfl) w1 w2 w3 w4 (by omega) hm;refine⟨d2,?_⟩;rw[hm]at d2 ⊢;exact Lr h hr (by rw[k];rfl) rfl (by simp) rfl rfl (by omega) w1 w2 (by omega) (by omega) d1 d2.len d2.free
 ·have hm:n.gW p a b x y=n.fail a b x y:=by unfold aI.gW;rw[aa (by omega),aa (by omega),aa (by omega),aa (by omega),ah k]
  rw[aa (by omega),aa (by omega),ah k]at hu;have kx:=YW c1;have ky:=WC (k:=y.ao) (by omega);have hx2:2<=x.to.length:=by
   rw[x2];unfold Up.bO;have hal:x.ao=9->1<=x.aY.length:=λe=>by
    simp only[Up.ok,Up.fP,ab]at x1;have:=x1.1.1.1.1.2;rw[ah e]at this;simp at this;omega
   rcases kx with e|e|e|e
   ·rw[e];simp[eL]
   ·rw[e];simp
   ·rw[e];simp[eL]
   ·rw[e];simp[eL]
  have hfl:(bX a b x y).length=(x.to.length-2)+(y.to.length-1):=by unfold bX;rw[aR,bN,bN]
  obtain⟨d1,d2,d3⟩:=ht.fail (by omega) ky hx2 hlx (by omega) hm;refine⟨d3,?_⟩;have hk1:=aI.Xh ht.ok.sk (x:=UE x.Us) ht.hx (by omega);have hk2:=aI.Xh ht.ok.sk (x:=UE x.Us) ht.hy (by omega);exact DW (k:=p.ao) h hr rfl rfl rfl (by rw[k];rfl) (hm ▸ N4 h ht.hx hk1 hk2 hr rfl rfl (by omega) (by omega) hlx (by omega) (by omega) d1 d2) d3.len d3.free
 ·have hm:n.gW p a b x y=n.pass a b x y p.Us:=by unfold aI.gW;rw[aa (by omega),aa (by omega),aa (by omega),aa (by omega),aa (by omega),ah k]
  rw[aa (by omega),aa (by omega),aa (by omega),ah k]at hu;have kx:=FJ c1;have hxp:x.to.length-1=if x.ao=4 then 2 else 1:=by
   have:=ht.ok.Vg ht.hx rfl (by omega) (by omega);rw[this];rcases kx with e|e|e<;>rw[e]<;>rfl
  rw[<- hxp]at hu;have hoy:=Up.AJ (Us:=p.Us) y1 c2 (by omega);obtain⟨d1,d2,d3⟩:=ht.pass (Us:=p.Us) (by omega) c2 hoy (by omega) hm;refine⟨d3,?_⟩;exact DW (k:=p.ao) h hr rfl rfl rfl (by rw[k];rfl) (hm ▸ N5 h ht.hx ht.hy hr rfl rfl rfl (by omega) c2 x1 hoy ⟨by omega,by omega⟩ ⟨by omega,by omega⟩ (by omega) (by omega) (by omega) (by omega) d1 d2) d3.len d3.free
 ·have hm:n.gW p a b x y=n.jA b x.Us y:=by unfold aI.gW;rw[aa (by omega),aa (by omega),aa (by omega),aa (by omega),aa (by omega),aa (by omega)]
  rw[aa (by omega),aa (by omega),aa (by omega),aa (by omega),ah k]at hu;have lx:=ht.ok.Vg ht.hx c1 (by omega) (by omega);have hdl:(cw b y).length=y.to.length-1:=bN _ _ _;obtain⟨d1,d2⟩:=ht.drop (by omega) c2 (by rw[lx];rfl) hlx (by omega) hm;refine⟨d2,?_⟩;rw[hm]at d2 ⊢;exact Ls h ht.hx ht.hy hr (by rw[k];rfl) rfl rfl (by omega) hlx (by omega) (by omega) d1 d2.len d2.free
def WD (k aT:Nat):Bool:=if k=3\/k=9\/k=11\/k=12\/k=5\/k=6 then decide (aT=1) else if k=4 then decide (aT=1) || decide (aT=2) else false
def vO (n:aI)(i:Nat):Nat:=match n.ae[i]? with
 |some x=>x.ao
 |none=>0
def aI.walk (n:aI):Nat->List Nat->aq->List Nat×Nat×Bool×Nat
 |0,path,q=>(path,q.aD,false,191)
 |f+1,path,q=>if path.contains q.aD=true then (path,q.aD,false,191) else if q.aT=0 then (path++[q.aD],q.aD,false,0)
  else if WD (vO n q.aD) q.aT=false then (path++[q.aD],q.aD,false,190) else if (n.pr ⟨q.aD,0⟩).aT=0 then (path++[q.aD],q.aD,true,0) else n.walk f (path++[q.aD]) (n.pr ⟨q.aD,0⟩)
theorem t131 (h:bY pg)(k aT l:Nat)(n:Int)(name:List UInt8)(aY:List (List UInt8×Nat))(to:List aq) :
  UM pg (E pg) 131 [.ag [.p (.i .i64 k),.p (.i .i64 l),.p (.i .i64 n),.p (.s name),.p (.sl (aY.map Ux)),.p (.sl (to.map aq.aw))],.p (.i .i64 aT)] G=some (.ret (.p (.b (WD k aT))),G):=by
 refine Ut ?_ rfl rfl;rw[h.run (x:=Aa)];have hk:k=3\/k=9\/k=11\/k=12\/k=5\/k=6\/k=4\/(k≠3/\k≠9/\k≠11/\k≠12/\k≠5/\k≠6/\k≠4):=by omega
 by_cases h1:aT=1
 ·subst h1;rcases hk with rfl|rfl|rfl|rfl|rfl|rfl|rfl|⟨a1,a2,a3,a4,a5,a6,a7⟩
  all_goals first
   |(simp[Aa,aj,WD];done)
   |(have b1:¬ (k:Int)=3:=by omega
     have b2:¬ (k:Int)=9:=by omega
     have b3:¬ (k:Int)=11:=by omega
     have b4:¬ (k:Int)=12:=by omega
     have b5:¬ (k:Int)=5:=by omega
     have b6:¬ (k:Int)=6:=by omega
     have b7:¬ (k:Int)=4:=by omega
     simp[Aa,aj,WD,a1,a2,a3,a4,a5,a6,a7,b1,b2,b3,b4,b5,b6,b7])
 ·have h1':¬ (aT:Int)=1:=by omega
  by_cases h2:aT=2
  ·subst h2;rcases hk with rfl|rfl|rfl|rfl|rfl|rfl|rfl|⟨a1,a2,a3,a4,a5,a6,a7⟩
   all_goals first
    |(simp[Aa,aj,WD];done)
    |(have b1:¬ (k:Int)=3:=by omega
      have b2:¬ (k:Int)=9:=by omega
      have b3:¬ (k:Int)=11:=by omega
      have b4:¬ (k:Int)=12:=by omega
      have b5:¬ (k:Int)=5:=by omega
      have b6:¬ (k:Int)=6:=by omega
      have b7:¬ (k:Int)=4:=by omega
      simp[Aa,aj,WD,a1,a2,a3,a4,a5,a6,a7,b1,b2,b3,b4,b5,b6,b7])
  ·have h2':¬ (aT:Int)=2:=by omega
   rcases hk with rfl|rfl|rfl|rfl|rfl|rfl|rfl|⟨a1,a2,a3,a4,a5,a6,a7⟩
   all_goals first
    |(simp[Aa,aj,WD,h1,h1',h2,h2'];done)
    |(have b1:¬ (k:Int)=3:=by omega
      have b2:¬ (k:Int)=9:=by omega
      have b3:¬ (k:Int)=11:=by omega
      have b4:¬ (k:Int)=12:=by omega
      have b5:¬ (k:Int)=5:=by omega
      have b6:¬ (k:Int)=6:=by omega
      have b7:¬ (k:Int)=4:=by omega
      simp[Aa,aj,WD,a1,a2,a3,a4,a5,a6,a7,b1,b2,b3,b4,b5,b6,b7,h1,h1',h2,h2'])
theorem Lw (h:bY pg){l:List Nat}{v:Nat}(hl:l.length<2 ^ 40):UM pg (E pg) 130 [.p (.sl (ints l)),.p (.i .i64 v)] G=some (.ret (.p (.b (l.contains v))),G):=by
 have h1:=t130 (G:=G) h (l:=l.map fun (i:Nat)=>(i:Int)) (v:=v) (by simpa using hl);rw[show(l.map fun (i:Nat)=>(i:Int)).map (λx=>[PV.i .i64 x])=ints l from by simp[ints]]at h1;rw[h1]
 congr 4
 simp only[lg,oS];have e:((λx=>(v:Int) == x) ∘ fun (i:Nat)=>(i:Int))=λx=>v == x:=by
  funext a;simp only[Function.comp];rw[iR];simp;omega
 rw[e]
theorem Hm {call:di}{f id len gen:Nat}{sz:Nat}{ay:List (List PV)}{sl:Nat}{v:PV}(hk:bC pg f=false)(hG:G[id]?=some (.arr sz ay gen sl))(hl:len<=ay.length) :
  UM pg call f [.arr id len gen,.p v] G=UM pg call f [.p (.sl (ay.take len)),.p v] (G.set id (.arr sz ay gen (Nat.max sl len))):=by
 unfold UM;rw[hk];simp[aQ,exp,norm,hG,hl]
theorem XG {call:di}{f:Nat}{v:PV}(hk:bC pg f=false) :
  UM pg call f [.aC,.p v] G=UM pg call f [.p (.sl []),.p v] G:=by
 unfold UM;rw[hk];simp[aQ,exp]
def AK (path:List Nat):AV:=match path with
 |[]=>.aC
 |_::r=>.arr 3 (r.length+1) r.length
def AL (path:List Nat):Heap:=match path with
 |[]=>[]
 |c::r=>[.arr 1 (ints (c::r)) r.length r.length]
def l5 (w:List Nat×Nat×Bool×Nat):AV:=.ag [.p (.sl (ints w.1)),.p (.i .i64 w.2.1),.p (.b w.2.2.1),.p (.i .i64 w.2.2.2)]
theorem lG:∀{N:Nat} {l:List Nat},l.Nodup->(∀a,a∈l->a<N)->l.length<=N
 |0,[],_,_=>aB _
 |0,a::r,_,h=>absurd (h a (by simp)) (by omega)
 |N+1,l,hn,h=>by
  by_cases hm:N∈l
  ·have h1:=lG (N:=N) (l:=l.erase N) (hn.erase _) (λa ha=>by
    obtain⟨h2,h3⟩:=(lh hn).1 ha;have:=h a h3;omega)
   rw[lj hm]at h1;omega
  ·have h1:=lG (N:=N) (l:=l) hn (λa ha=>by
    have:=h a ha;have:a≠N:=λe=>hm (e ▸ ha);omega)
   omega
theorem aI.Ok.FL {n:aI}(ho:n.Ok){p:aq}(hp:n.has p):n.has (n.pr p)/\n.pr (n.pr p)=p:=by
 obtain⟨x,h1,h2⟩:=aI.qZ hp;obtain⟨a,b⟩:=ho.link _ _ _ _ h1 h2;have:n.has (n.pr p):=by
  unfold aI.peer at b;split at b
  ·rename_i y hy;exact⟨y,hy,(gE b).1⟩
  ·cases b
 refine⟨this,?_⟩
 show(n.peer (n.pr p)).getD ⟨0,0⟩=p
 rw[b];rfl
theorem aI.Ok.first {n:aI}(ho:n.Ok){p:aq}(hp:n.has p):n.has ⟨p.aD,0⟩:=by
 obtain⟨x,h1,h2⟩:=hp;exact⟨x,h1,by dsimp only;omega⟩
theorem JA (h:bY pg){body:aU}(hb:body=lY){n:aI}(ho:n.Ok) :
  ∀(f:Nat) (path:List Nat) (q:aq) (e0:Nat),path.length+f=n.ae.length+1->path.Nodup->(∀a,a∈path->a<n.ae.length)->n.has q ->
   kF 0 [.cell 4 4 true] false (kB 0 (L pg 0 [2,4,5] body [(2,.ptr 0 0),(4,.ptr 1 0),(5,.ptr 2 0)] (.box [.p (.sl (n.ae.map Up.aw)),.p (.i .i64 n.aV)]::.box [AK path,.p (.i .i64 e0),.p (.b false),.p (.i .i64 0)]::.box [.p (.i .i64 q.aD),.p (.i .i64 q.aT)]::AL path)))=some (.ret (l5 (n.walk f path q)),[])
 |0,path,q,e0,hl,hnd,hlt,hq=>by
  have:=lG hnd hlt;omega
 |f+1,path,q,e0,hl,hnd,hlt,hq=>by
  have k130:bC pg 130=false:=(show bC pg 130=false from h.bq (x:=GY) rfl)
  have hol:=ho.len;have hoc:=ho.aV;have hpl:=lG hnd hlt;obtain⟨x,hx,hxs⟩:=hq;obtain⟨x1,x2,x3⟩:=ho.aD _ _ hx;have hqi:q.aD<n.ae.length:=(gE hx).1;have hqi':n.ae[q.aD]=x:=(gE hx).2;have hka:vO n q.aD=x.ao:=by unfold vO;rw[hx]
  have hf0:n.has ⟨q.aD,0⟩:=⟨x,hx,by dsimp only;omega⟩
  have hprh:=(ho.FL hf0).1;have e1:=λG=>t129 (G:=G) h hf0;simp only[fW]at e1;have e2:=λG=>t131 (G:=G) h x.ao q.aT x.Us x.n x.name x.aY x.to;have e3:=λG (v:Nat)=>Lw (G:=G) h (l:=path) (v:=v) (by omega);have c0:q.aT=0\/q.aT≠0:=by omega
  rw[dA hb];cases path with
  |nil =>
   have ih:=JA h hb ho f [q.aD] (n.pr ⟨q.aD,0⟩) q.aD (by simp at hl ⊢;omega) (by simp) (by simp;exact hqi) hprh;simp only[AK,AL,ints,aJ,aG,ai,au]at ih e3 ⊢;rcases c0 with c0|c0
   ·have c0':(q.aT:Int)=0:=by omega
    simp[lY,aj,XG k130,e3,Uu.Uv,cO,Vy,ee,aS,cX,bH,show bZ 1 8=true from rfl,Ur c0,Ur c0',aI.walk,l5,ints]
   ·have c0':¬ (q.aT:Int)=0:=by omega
    cases ht:WD x.ao q.aT with
    |false =>
     simp[lY,aj,Up.aw,XG k130,e3,e2,ht,hqi,hqi',Uu.Uv,cO,Vy,ee,aS,cX,bH,show bZ 1 8=true from rfl,c0,c0',aI.walk,l5,ints,hka]
    |true =>
     have c1:(n.pr ⟨q.aD,0⟩).aT=0\/(n.pr ⟨q.aD,0⟩).aT≠0:=by omega
     rcases c1 with c1|c1
     ·have c1':((n.pr ⟨q.aD,0⟩).aT:Int)=0:=by omega
      simp[lY,aj,Up.aw,XG k130,e3,e2,e1,ht,hqi,hqi',Uu.Uv,cO,Vy,ee,aS,cX,bH,show bZ 1 8=true from rfl,c0,c0',Ur c1,Ur c1',aI.walk,l5,ints,hka]
     ·have c1':¬ ((n.pr ⟨q.aD,0⟩).aT:Int)=0:=by omega
      simp[lY,aj,Up.aw,XG k130,e3,e2,e1,ht,hqi,hqi',Uu.Uv,cO,Vy,ee,aS,cX,bH,show bZ 1 8=true from rfl,c0,c0',c1,c1',aI.walk,ints,hka,gc,exp,aQ,UG,ih]
  |cons p0 pr =>
   have e5:(ints (p0::pr)).length=pr.length+1:=by simp[ints]
   have e4:(ints (p0::pr)).take (pr.length+1)=ints (p0::pr):=by rw[<- e5];exact eg
   have e6:∀v,bH 1 [[.i .i64 v]]=true:=λ_=>rfl;have e7:bZ (pr.length+1+1) 8=true:=by simp at hl;simp[bZ];omega
   have e8:pr.length+1<=(ints (p0::pr)).length:=by omega
   have e9:ints (p0::pr)++[[.i .i64 q.aD]]=ints (p0::pr++[q.aD]):=by simp[ints]
   have g0:=λv=>Hm (pg:=pg) (call:=E pg) (f:=130) (id:=3) (len:=pr.length+1) (gen:=pr.length) (sz:=1) (ay:=ints (p0::pr)) (sl:=pr.length) (v:=v) (G:=(.box [.p (.sl (n.ae.map Up.aw)),.p (.i .i64 n.aV)]::.box [.arr 3 (pr.length+1) pr.length,.p (.i .i64 q.aD),.p (.b false),.p (.i .i64 0)]::.box [.p (.i .i64 q.aD),.p (.i .i64 q.aT)]::[.arr 1 (ints (p0::pr)) pr.length pr.length])) k130 rfl (by omega);rw[e4]at g0;have hmx:Nat.max pr.length (pr.length+1)=pr.length+1:=fD (by omega);rw[hmx]at g0;simp only[AK,AL];by_cases hm:(p0::pr).contains q.aD=true
   ·have hw:n.walk (f+1) (p0::pr) q=(p0::pr,q.aD,false,191):=by unfold aI.walk;rw[ah hm]
    have g1:=λv:Nat=>g0 (.i .i64 v);have g2:=g1 q.aD;rw[e3,hm]at g2;simp only[bF,bT]at g2;rw[hw];simp only[l5];generalize ints (p0::pr)=R at *;simp[lY,aj,g2,e4,e8]
   ·have hm':(p0::pr).contains q.aD=false:=by simpa using hm
    have g2:=g0 (.i .i64 q.aD);rw[e3,hm']at g2;simp only[bF,bT]at g2;have e10:(ints (p0::pr++[q.aD])).length=pr.length+1+1:=by simp[ints]
    have e11:(ints (p0::pr++[q.aD])).take (pr.length+1+1)=ints (p0::pr++[q.aD]):=by rw[<- e10];exact eg
    have e12:pr.length+1+1<=(ints (p0::pr++[q.aD])).length:=by omega
    rcases c0 with c0|c0
    ·have c0':(q.aT:Int)=0:=by omega
     have hw:n.walk (f+1) (p0::pr) q=(p0::pr++[q.aD],q.aD,false,0):=by unfold aI.walk;rw[aa hm,ah c0]
     rw[hw];simp only[l5];generalize ints (p0::pr)=R at *;generalize ints (p0::pr++[q.aD])=R' at *;simp[lY,aj,g2,Uu.Uv,cO,Vy,ee,aS,cX,e4,e5,e6,e7,e8,e9,e11,e12,Ur c0,Ur c0']
    ·have c0':¬ (q.aT:Int)=0:=by omega
     cases ht:WD x.ao q.aT with
     |false =>
      have hw:n.walk (f+1) (p0::pr) q=(p0::pr++[q.aD],q.aD,false,190):=by unfold aI.walk;rw[aa hm,aa c0,hka,ah ht]
      rw[hw];simp only[l5];generalize ints (p0::pr)=R at *;generalize ints (p0::pr++[q.aD])=R' at *;simp[lY,aj,Up.aw,g2,e2,ht,hqi,hqi',Uu.Uv,cO,Vy,ee,aS,cX,e4,e5,e6,e7,e8,e9,e11,e12,c0,c0']
     |true =>
      have ht':¬ WD x.ao q.aT=false:=by rw[ht];simp
      have c1:(n.pr ⟨q.aD,0⟩).aT=0\/(n.pr ⟨q.aD,0⟩).aT≠0:=by omega
      rcases c1 with c1|c1
      ·have c1':((n.pr ⟨q.aD,0⟩).aT:Int)=0:=by omega
       have hw:n.walk (f+1) (p0::pr) q=(p0::pr++[q.aD],q.aD,true,0):=by unfold aI.walk;rw[aa hm,aa c0,hka,aa ht',ah c1]
       rw[hw];simp only[l5];generalize ints (p0::pr)=R at *;generalize ints (p0::pr++[q.aD])=R' at *;simp[lY,aj,Up.aw,g2,e1,e2,ht,hqi,hqi',Uu.Uv,cO,Vy,ee,aS,cX,e4,e5,e6,e7,e8,e9,e11,e12,c0,c0',Ur c1,Ur c1']
      ·have c1':¬ ((n.pr ⟨q.aD,0⟩).aT:Int)=0:=by omega
       have hw:n.walk (f+1) (p0::pr) q=n.walk f (p0::pr++[q.aD]) (n.pr ⟨q.aD,0⟩):=by
        conv=>lhs;unfold aI.walk
        rw[aa hm,aa c0,hka,aa ht',aa c1]
       have ih:=JA h hb ho f (p0::pr++[q.aD]) (n.pr ⟨q.aD,0⟩) q.aD (by simp at hl ⊢;omega) (by
        rw[fj];refine⟨hnd,by simp,λa ha b hb'=>?_⟩;simp at hb';subst hb';intro e;subst e;exact hm (by simpa using ha)) (by
        intro a ha;rcases Uz.1 ha with ha|ha
        ·exact hlt a ha
        ·simp at ha;subst ha;exact hqi) hprh
       rw[hw];simp only[AK,AL,aH,aR,av,aJ,aG]at ih;rw[<- aH]at ih;generalize l5 (n.walk f (p0::pr++[q.aD]) (n.pr ⟨q.aD,0⟩))=W at *;generalize ints (p0::pr)=R at *;generalize ints (p0::pr++[q.aD])=R' at *;simp[lY,aj,Up.aw,g2,e1,e2,ht,hqi,hqi',Uu.Uv,cO,Vy,ee,aS,cX,e4,e5,e6,e7,e8,e9,e11,e12,c0,c0',c1,c1',gc,exp,aQ,UG,ih]
def aI.next (n:aI)(p:aq):Nat×Bool×Nat:=(n.walk (n.ae.length+1) [] (n.pr p)).2
theorem N7 (h:bY pg){n:aI}{p:aq}(ho:n.Ok)(hp:n.has p) :
  E pg 125 [.ag [.p (.sl (n.ae.map Up.aw)),.p (.i .i64 n.aV)],.ag [.p (.i .i64 p.aD),.p (.i .i64 p.aT)]] []=some (.ret (l5 (n.walk (n.ae.length+1) [] (n.pr p))),[]):=by
 have e1:=λG=>t129 (G:=G) h hp;have hL:=JA h rfl ho (n.ae.length+1) [] (n.pr p) 0 (by simp) (by simp) (by simp) (ho.FL hp).1;simp only[AK,AL,fW]at hL;rw[h.run (x:=I8)];simp[I8,aj,t128 h ho,e1,gc,exp,aQ,UG,hL]
theorem t116 (h:bY pg){n:aI}{p:aq}(ho:n.Ok)(hp:n.has p) :
  UM pg (E pg) 116 [.ag [.p (.sl (n.ae.map Up.aw)),.p (.i .i64 n.aV)],.ag [.p (.i .i64 p.aD),.p (.i .i64 p.aT)]] G=some (.ret (.dF [.p (.i .i64 (n.next p).1),.p (.b (n.next p).2.1),.p (.i .i64 (n.next p).2.2)]),G):=by
 refine Ut ?_ rfl rfl;have e1:=λG=>Ut (pg:=pg) (G:=G) (N7 h ho hp) rfl rfl;rw[h.run (x:=I7)];simp[I7,aj,e1,l5,aI.next]
def dX (l:List Bool):List (List PV):=l.map λb=>[.b b]
theorem Wn {cd:List Bool}{i:Nat}{b:Bool}(h:cd[i]?=some b):∀hh,(dX cd)[i]'hh=[.b b]:=λhh=>by
 obtain⟨h1,h2⟩:=gE h;simp[dX,h2]
theorem N8 (h:bY pg){N:List (List PV)}{L k g i:Nat}{cd:List Bool}{ay:List (List PV)}(hL:L=cd.length)(hi:i<cd.length)(hk:k<=ay.length)(hk2:k<2 ^ 30) :
  E pg 186 [.ptr 0 0,.p (.i .i64 i)] [.box [.p (.sl N),.arr 1 L 0,.arr 2 k g],.arr 1 (dX cd) 0 0,.arr 1 ay g 0] =
   some (if cd[i]?=some true then (.ret (.dF []),[.box [.p (.sl N),.arr 1 L 0,.arr 2 k g],.arr 1 (dX cd) 0 0,.arr 1 ay g 0]) else
    (.ret (.dF []),[.box [.p (.sl N),.arr 1 L 0,.arr 2 (k+1) (g+1)],.arr 1 (dX (cd.set i true)) 0 0,.arr 1 (ay.take k++[[.i .i64 i]]) (g+1) 0,.arr 1 [[.i .i64 i]] 0 0])):=by
 subst hL;have e1:(dX cd)[i]?=some [.b cd[i]]:=by simp[dX,hi]
 have e2:(dX cd).length=cd.length:=by simp[dX]
 have e3:∀v,bH 1 [[.i .i64 v]]=true:=λ_=>rfl;have e4:bZ (k+1) 8=true:=by simp[bZ];omega
 have e5:(dX cd).set i [.b true]=dX (cd.set i true):=by simp[dX]
 have e6:cd[i]?=some cd[i]:=gG hi;rw[h.run (x:=DQ)];cases hs:cd[i] with
 |true =>
  rw[hs]at e1 e6;simp[DQ,aj,hi,e1,Wn e6,e2,aS,hs]
 |false =>
  rw[hs]at e1 e6;simp[DQ,aj,hi,e1,Wn e6,e2,e3,e4,e5,aS,hs,hk,Uu.Uv,cO,Vy,ee,cX]
theorem Lx (h:bY pg){N:List (List PV)}{L i:Nat}{cd:List Bool}(hL:L=cd.length)(hi:i<cd.length)(hs:cd[i]?=some false) :
  E pg 186 [.ptr 0 0,.p (.i .i64 i)] [.box [.p (.sl N),.arr 1 L 0,.aC],.arr 1 (dX cd) 0 0] =
   some (.ret (.dF []),[.box [.p (.sl N),.arr 1 L 0,.arr 3 1 0],.arr 1 (dX (cd.set i true)) 0 0,.arr 1 [[.i .i64 i]] 0 0,.arr 1 [[.i .i64 i]] 0 0]):=by
 subst hL;have e6:cd[i]=false:=by simpa [gG hi] using hs
 have e1:(dX cd)[i]?=some [.b false]:=by simp[dX,hi,e6]
 have e2:(dX cd).length=cd.length:=by simp[dX]
 have e3:∀v,bH 1 [[.i .i64 v]]=true:=λ_=>rfl;have e5:(dX cd).set i [.b true]=dX (cd.set i true):=by simp[dX]
 rw[h.run (x:=DQ)];simp[DQ,aj,hi,e1,Wn hs,e2,e3,e5,aS,Uu.Uv,cO,Vy,ee,cX,show bZ 1 8=true from rfl]
theorem t186 (h:bY pg){N:List (List PV)}{L k g i:Nat}{cd:List Bool}{ay:List (List PV)}{X:Heap}(hL:L=cd.length)(hi:i<cd.length)(hk:k<=ay.length)(hk2:k<2 ^ 30) :
  UM pg (E pg) 186 [.ptr 0 0,.p (.i .i64 i)] (.box [.p (.sl N),.arr 1 L 0,.arr 2 k g]::.arr 1 (dX cd) 0 0::.arr 1 ay g 0::X) =
   some (if cd[i]?=some true then (.ret (.dF []),.box [.p (.sl N),.arr 1 L 0,.arr 2 k g]::.arr 1 (dX cd) 0 0::.arr 1 ay g 0::X) else
    (.ret (.dF []),.box [.p (.sl N),.arr 1 L 0,.arr 2 (k+1) (g+1)]::.arr 1 (dX (cd.set i true)) 0 0::.arr 1 (ay.take k++[[.i .i64 i]]) (g+1) 0::X++[.arr 1 [[.i .i64 i]] 0 0])):=by
 have hs:=N8 (N:=N) (g:=g) (ay:=ay) h hL hi hk hk2;unfold UM;simp only[av];by_cases ht:cd[i]?=some true
 ·rw[ah ht]at hs;simp[aQ,exp,fI.id,eP,UG,hs,ht,Out.back,back,dh,UL,bD,b_]
 ·rw[aa ht]at hs;simp[aQ,exp,fI.id,eP,UG,hs,ht,Out.back,back,dh,UL,bD,b_]
structure Hn (m:Uy)(ay:List (List PV)):Prop where
 take:ay.take m.waits.length=ints m.waits
 len:m.waits.length<=ay.length
def mH (N:List (List PV))(m:Uy)(ay:List (List PV))(g:Nat):Heap:=[.box [.p (.sl N),.arr 1 m.cd.length 0,.arr 2 m.waits.length g],.arr 1 (dX m.cd) 0 0,.arr 1 ay g 0]
theorem FM (h:bY pg){body:aU}(hb:body=vh){N:List (List PV)}{tos:List aq}(hl:tos.length<2 ^ 20) :
  ∀(cnt j:Nat) (m:Uy) (ay:List (List PV)) (g:Nat),j+cnt=tos.length->Hn m ay->(∀p,p∈tos->p.aD<m.cd.length)->m.waits.length+cnt<2 ^ 30 ->
   ∃rows' g',Hn (m.marks (tos.drop j)) rows'/\L pg 2 [0,46,47,48] body [(0,.ptr 0 0),(46,.p (.sl (tos.map aq.aw))),(47,.p (.i .i64 tos.length)),(48,.p (.i .i64 j))] (mH N m ay g) =
    some (.exit 2,[(0,.ptr 0 0),(46,.p (.sl (tos.map aq.aw))),(47,.p (.i .i64 tos.length)),(48,.p (.i .i64 tos.length)),(49,.p (.b false))],mH N (m.marks (tos.drop j)) rows' g')
 |0,j,m,ay,g,hj,hi,hp,hw=>by
  have:j=tos.length:=by omega
  subst this;rw[gH];refine⟨ay,g,hi,?_⟩;rw[dA hb];simp[vh,aj,Uy.marks]
 |cnt+1,j,m,ay,g,hj,hi,hp,hw=>by
  have hlt:j<tos.length:=by omega
  have hd:tos.drop j=tos[j]::tos.drop (j+1):=aM hlt;have hpj:=hp tos[j] (bM hlt);have hm:=t186 (pg:=pg) (N:=N) (L:=m.cd.length) (k:=m.waits.length) (g:=g) (i:=tos[j].aD) (cd:=m.cd) (ay:=ay) (X:=[.box [.p (.i .i64 tos[j].aD),.p (.i .i64 tos[j].aT)]]) h rfl hpj hi.len (by omega);rw[hd];simp only[Uy.marks];by_cases hs:m.cd[tos[j].aD]?=some true
  ·have hmk:m.mark tos[j].aD=m:=by unfold Uy.mark;rw[ah hs]
   rw[hmk];obtain⟨rows',g',i',ih⟩:=FM h hb (N:=N) hl cnt (j+1) m ay g (by omega) hi hp (by omega);refine⟨rows',g',i',?_⟩;rw[ah hs]at hm;rw[show((j+1:Nat):Int)=(j:Int)+1 from by omega]at ih;generalize mH N (m.marks (tos.drop (j+1))) rows' g'=R at *;simp only[mH]at ih ⊢;rw[dA hb];simp[vh,aj,hlt,aq.aw,aS,hm,cR ((j:Int)+1),gc,exp,aQ,UG,ih]
  ·have hmk:m.mark tos[j].aD=⟨m.cd.set tos[j].aD true,m.waits++[tos[j].aD]⟩:=by unfold Uy.mark;rw[aa hs]
   obtain⟨rows',g',i',ih⟩:=FM h hb (N:=N) hl cnt (j+1) (m.mark tos[j].aD) (ay.take m.waits.length++[[.i .i64 tos[j].aD]]) (g+1) (by omega) (by
    rw[hmk];constructor
    ·dsimp only;rw[aF (by simp;omega),hi.take];simp[ints]
    ·have:=hi.len;simp;omega) (by rw[Uy.Wz];exact hp) (by rw[hmk];simp;omega)
   refine⟨rows',g',i',?_⟩;rw[aa hs]at hm;rw[show((j+1:Nat):Int)=(j:Int)+1 from by omega]at ih;generalize mH N ((m.mark tos[j].aD).marks (tos.drop (j+1))) rows' g'=R at *;rw[hmk]at ih;simp only[mH,cK,aR,av,aJ,aG]at ih ⊢;generalize ay.take m.waits.length++[[.i .i64 tos[j].aD]]=rows2 at *;generalize dX (m.cd.set tos[j].aD true)=B at *;rw[dA hb];simp[vh,aj,hlt,aq.aw,aS,hm,cR ((j:Int)+1),gc,exp,aQ,UG,ih]
theorem Ho (h:bY pg){body:aU}(hb:body=yP){l:List Up}(hl:l.length<2 ^ 20)(hto:∀(i:Nat) (x:Up),l[i]?=some x->x.to.length<2 ^ 20/\∀p,p∈x.to->p.aD<l.length) :
  ∀(f:Nat) (m:Uy) (ay:List (List PV)) (g:Nat),Hn m ay->m.cd.length=l.length->(∀a,a∈m.waits->a<l.length)->m.left<f->f<2 ^ 22 ->
   ∃rows' g',L pg 2 [0] body [(0,.ptr 0 0)] (mH (l.map Up.aw) m ay g) =
    some (.exit 0,[(0,.ptr 0 0),(16,.p (.b false))],mH (l.map Up.aw) (Uy.all l f m) rows' g')/\(Uy.all l f m).cd.length=l.length
 |0,m,ay,g,hi,hs,hw,hf,hff=>by omega
 |f+1,m,ay,g,hi,hs,hw,hf,hff=>by
  rcases WE m.waits with hnil|⟨w0,i,hwc⟩
  ·have ha:Uy.all l (f+1) m=m:=by simp only[Uy.all];rw[hnil];rfl
   rw[ha];refine⟨ay,g,?_,hs⟩;rw[dA hb];simp only[mH,hnil,aJ];simp[yP,aj]
  ·rcases m with ⟨cd,waits⟩
   dsimp only at hwc hs hw;rw[WG]at hwc;subst hwc;have hil:=hw i (by simp);have hx:l[i]?=some l[i]:=gG hil;obtain⟨hxl,hxp⟩:=hto _ _ hx;have hta:yT l i=l[i].to:=by unfold yT;rw[hx]
   have ha:Uy.all l (f+1) ⟨cd,w0++[i]⟩=Uy.all l f (({ cd:=cd,waits:=w0 }:Uy).marks l[i].to):=by
    simp only[Uy.all];simp[hta]
   have hleft:(⟨cd,w0++[i]⟩:Uy).left=(⟨cd,w0⟩:Uy).left+1:=by unfold Uy.left;simp;omega
   have hi1:=hi.take;have hi2:=hi.len;simp only[aR,av,aJ,aG]at hi1 hi2;have hi':Hn ⟨cd,w0⟩ ay:=by
    constructor
    ·dsimp only;have:=congrArg (List.take w0.length) hi1;rw[eQ,show min w0.length (w0.length+1)=w0.length from by omega]at this;rw[this];simp[ints]
    ·dsimp only;omega
   have hrow:ay[w0.length]?=some [.i .i64 i]:=by
    have:(ay.take (w0.length+1))[w0.length]?=(ints (w0++[i]))[w0.length]?:=by rw[hi1]
    rw[List.getElem?_take,ah (by omega)]at this;rw[this];simp[ints]
   have hrow2:∀hh,ay[w0.length]'hh=[.i .i64 i]:=λhh=>by
    have:=hrow;rw[gG hh]at this;exact cT this
   have hw0:w0.length<2 ^ 22:=by unfold Uy.left at hleft hf;simp at hf;omega
   obtain⟨rows1,g1,i1,hin⟩:=FM h rfl (N:=l.map Up.aw) (tos:=l[i].to) hxl l[i].to.length 0 ⟨cd,w0⟩ ay g (by omega) hi' (by dsimp only;rw[hs];exact hxp) (by dsimp only;omega);rw[bp]at i1 hin;have hlen1:(({ cd:=cd,waits:=w0 }:Uy).marks l[i].to).cd.length=l.length:=by rw[Uy.Xg];exact hs
   have hleft1:(({ cd:=cd,waits:=w0 }:Uy).marks l[i].to).left=(⟨cd,w0⟩:Uy).left:=Uy.q8 _ _ (by dsimp only;rw[hs];exact hxp);obtain⟨rows',g',ih,ihl⟩:=Ho h hb hl hto f _ rows1 g1 i1 hlen1 (by
    have:=Uy.vA l[i].to ⟨cd,w0⟩ (by dsimp only;rw[hs];exact hxp) (by dsimp only;rw[hs];intro a ha;exact hw a (by simp[ha]));dsimp only at this;rw[hs]at this;exact this) (by omega) (by omega)
   rw[ha];refine⟨rows',g',?_,ihl⟩;generalize mH (l.map Up.aw) (Uy.all l f (({ cd:=cd,waits:=w0 }:Uy).marks l[i].to)) rows' g'=R at *;generalize ({ cd:=cd,waits:=w0 }:Uy).marks l[i].to=M at *;rw[fW]at hin;simp only[mH,aR,av,aJ,aG]at hin ih ⊢;have e1:(0:Int)<(w0.length:Int)+1:=by omega
   have e2:(w0.length:Int)+1-1=w0.length:=by omega
   have e3:(w0.length:Int)<(w0.length:Int)+1:=by omega
   have e4:(w0.length:Int)<=(w0.length:Int)+1:=by omega
   rw[dA hb];simp[yP,aj,Up.aw,aS,e1,e2,e3,e4,hi2,hrow,hrow2,hil,jQ,cR (w0.length:Int),gc,exp,aQ,UG,hin,ih]
def gX (l:List Up):Uy:=(⟨List.replicate l.length false,[]⟩:Uy).mark 0
def dR (l:List Up):List Bool:=(Uy.all l (l.length+1) (gX l)).cd
theorem gY {l:List Up}(h:0<l.length):gX l=⟨(List.replicate l.length false).set 0 true,[0]⟩:=by
 unfold gX Uy.mark;rw[aa (by simp[h])];rfl
theorem N9 (h:bY pg){l:List Up}(hl0:0<l.length)(hl:l.length<2 ^ 20)(hto:∀(i:Nat) (x:Up),l[i]?=some x->x.to.length<2 ^ 20/\∀p,p∈x.to->p.aD<l.length) :
  ∃rows' g',E pg 171 [.ptr 0 0,.p (.i .i64 0)] [.box [.p (.sl (l.map Up.aw)),.arr 1 l.length 0,.aC],.arr 1 (dX (List.replicate l.length false)) 0 0] =
   some (.ret (.dF []),mH (l.map Up.aw) (Uy.all l (l.length+1) (gX l)) rows' g'):=by
 have hm:=Lx (pg:=pg) (N:=l.map Up.aw) (L:=l.length) (i:=0) (cd:=List.replicate l.length false) h (by simp) (by simpa using hl0) (by simp[hl0]);rw[fW]at hm;have hleft:(gX l).left=l.length:=by
  unfold gX;rw[Uy.nI (by simpa using hl0)];simp[Uy.left,Vb]
 have hlen:(gX l).cd.length=l.length:=by rw[gY hl0];simp
 obtain⟨rows',g',hL,_⟩:=Ho h rfl hl hto (l.length+1) (gX l) [[.i .i64 0]] 0 (by rw[gY hl0];exact⟨rfl,by simp⟩) hlen (by rw[gY hl0];intro a ha;simp at ha;omega) (by omega) (by omega);refine⟨rows',g',?_⟩;generalize hR:mH (l.map Up.aw) (Uy.all l (l.length+1) (gX l)) rows' g'=R at *;rw[gY hl0]at hL;simp only[mH,cK,iw,av,aJ,aG]at hL;rw[h.run (x:=Jl)];simp only[Jl];rw[KE];generalize dX ((List.replicate l.length false).set 0 true)=B at *;have hcall:UM pg (E pg) 186 [.ptr 0 0,.p (.i .i64 0)] [.box [.p (.sl (l.map Up.aw)),.arr 1 l.length 0,.aC],.arr 1 (dX (List.replicate l.length false)) 0 0]=some (.ret (.dF []),[.box [.p (.sl (l.map Up.aw)),.arr 1 l.length 0,.arr 3 1 0],.arr 1 B 0 0,.arr 1 [[.i .i64 0]] 0 0,.arr 1 [[.i .i64 0]] 0 0]):=by
  simp[UM,aQ,exp,fI.id,eP,UG,hm,Out.back,back,dh,UL,bD,b_]
 simp[aj,hcall,gc,exp,aQ,UG,hL]
theorem N_ (h:bY pg){n:aI}(hl0:0<n.ae.length)(hl:n.ae.length<2 ^ 20)(hto:∀(i:Nat) (x:Up),n.ae[i]?=some x->x.to.length<2 ^ 20/\∀p,p∈x.to->p.aD<n.ae.length) :
  E pg 146 [.ag [.p (.sl (n.ae.map Up.aw)),.p (.i .i64 n.aV)]] []=some (.ret (.p (.sl (dX (dR n.ae)))),[]):=by
 obtain⟨rows',g',hs⟩:=N9 h hl0 hl hto;have hlr:(dR n.ae).length=n.ae.length:=by
  have hleft:(gX n.ae).left=n.ae.length:=by
   unfold gX;rw[Uy.nI (by simpa using hl0)];simp[Uy.left,Vb]
  obtain⟨_,_,_,hh⟩:=Ho (pg:=pg) h rfl hl hto (n.ae.length+1) (gX n.ae) [[.i .i64 0]] 0 (by rw[gY hl0];exact⟨rfl,by simp⟩) (by rw[gY hl0];simp) (by rw[gY hl0];intro a ha;simp at ha;omega) (by omega) (by omega);exact hh
 have e1:bZ n.ae.length 1=true:=by simp[bZ];omega
 have e2:List.replicate n.ae.length [PV.b false]=dX (List.replicate n.ae.length false):=by simp[dX]
 have e3:(dX (dR n.ae)).take n.ae.length=dX (dR n.ae):=aF (by simp[dX,hlr]);have e4:n.ae.length<=(dX (dR n.ae)).length:=by simp[dX,hlr]
 simp only[mH]at hs;rw[show(Uy.all n.ae (n.ae.length+1) (gX n.ae)).cd=dR n.ae from rfl,hlr]at hs;have hcall:UM pg (E pg) 171 [.ptr 2 0,.p (.i .i64 0)] [.box [.p (.sl (n.ae.map Up.aw)),.p (.i .i64 n.aV)],.arr 1 (dX (List.replicate n.ae.length false)) 0 0,.box [.p (.sl (n.ae.map Up.aw)),.arr 1 n.ae.length 0,.aC]]=some (.ret (.dF []),[.box [.p (.sl (n.ae.map Up.aw)),.p (.i .i64 n.aV)],.arr 1 (dX (dR n.ae)) 0 0,.box [.p (.sl (n.ae.map Up.aw)),.arr 1 n.ae.length 0,.arr 3 (Uy.all n.ae (n.ae.length+1) (gX n.ae)).waits.length g'],.arr 1 rows' g' 0]):=by
  simp[UM,aQ,exp,fI.id,eP,UG,hs,Out.back,back,dh,UL,bD,b_]
 rw[h.run (x:=YT)];simp[YT,aj,aS,e1,e2,hcall,e3,e4]
theorem AM (h:bY pg){n:aI}(hl0:0<n.ae.length)(hl:n.ae.length<2 ^ 20)(hto:∀(i:Nat) (x:Up),n.ae[i]?=some x->x.to.length<2 ^ 20/\∀p,p∈x.to->p.aD<n.ae.length):(dR n.ae).length=n.ae.length:=by
 have hleft:(gX n.ae).left=n.ae.length:=by
  unfold gX;rw[Uy.nI (by simpa using hl0)];simp[Uy.left,Vb]
 obtain⟨_,_,_,hh⟩:=Ho (pg:=pg) h rfl hl hto (n.ae.length+1) (gX n.ae) [[.i .i64 0]] 0 (by rw[gY hl0];exact⟨rfl,by simp⟩) (by rw[gY hl0];simp) (by rw[gY hl0];intro a ha;simp at ha;omega) (by omega) (by omega);exact hh
def aI.VY (n:aI):aI:=VL n.ae (dR n.ae) (n.ae.length-1) n
theorem Hp (h:bY pg){body:aU}(hb:body=sS){old:List Up}{cd:List Bool}{C:Nat}(hol:old.length<2 ^ 20)(hsl:cd.length=old.length) :
  ∀(i:Nat) (n:aI),i<old.length->n.aV=C->n.ae.length<2 ^ 20->(∀j x,j<=i->old[j]?=some x->x.ao≠0->n.ae[j]?=some x) ->
   L pg 0 [1,2,3,4,5] body [(1,.ptr 0 0),(2,.ptr 1 0),(3,.p (.sl (old.map Up.aw))),(4,.p (.sl (dX cd))),(5,.p (.i .i64 i))] [.box [.p (.sl (n.ae.map Up.aw)),.p (.i .i64 C)],.box [.aC,.p (.i .i64 0)]] =
   some (.exit 0,[(1,.ptr 0 0),(2,.ptr 1 0),(3,.p (.sl (old.map Up.aw))),(4,.p (.sl (dX cd))),(5,.p (.i .i64 0)),(18,.p (.b false))],[.box [.p (.sl ((VL old cd i n).ae.map Up.aw)),.p (.i .i64 C)],.box [.aC,.p (.i .i64 0)]])
 |0,n,hi,hc,hnl,hk=>by
  rw[dA hb];simp[sS,aj,VL]
 |i+1,n,hi,hc,hnl,hk=>by
  have hx:old[i+1]?=some old[i+1]:=gG hi;have hs:cd[i+1]?=some cd[i+1]:=gG (by omega);have e1:(0:Int)<(i:Int)+1:=by omega
  have e2:(i:Int)+1-1=i:=by omega
  have e3:(0:Int)<=(i:Int)+1:=by omega
  have e4:((i:Int)+1).toNat=i+1:=by omega
  have hbl:(dX cd).length=old.length:=by simp[dX,hsl]
  simp only[show((i+1:Nat):Int)=(i:Int)+1 from by omega];simp only[VL];cases hsv:cd[i+1] with
  |true =>
   rw[hsv]at hs;have ih:=Hp h hb hol hsl i n (by omega) hc hnl (λj x hj=>hk j x (by omega));rw[aa (by rw[hs];simp)];have hbx:(dX cd)[i+1]?=some [.b true]:=by rw[gG (by omega),Wn hs]
   rw[dA hb];simp[sS,aj,e1,e2,e3,e4,aS,hbx,Wn hs,cR (i:Int),gc,exp,aQ,UG,ih]
  |false =>
   rw[hsv]at hs;have hbx:(dX cd)[i+1]?=some [.b false]:=by rw[gG (by omega),Wn hs]
   by_cases hkx:old[i+1].ao=0
   ·have hkx':(old[i+1].ao:Int)=0:=by omega
    have ih:=Hp h hb hol hsl i n (by omega) hc hnl (λj x hj=>hk j x (by omega));rw[aa (by unfold vB;rw[hx];simp[hkx])];rw[dA hb];simp[sS,aj,e1,e2,e3,e4,aS,hbx,Wn hs,hx,hi,Up.aw,Ur hkx,Ur hkx',cR (i:Int),gc,exp,aQ,UG,ih]
   ·have hkx':¬ (old[i+1].ao:Int)=0:=by omega
    have hni:=hk (i+1) _ (aB _) hx hkx;have ih:=Hp h hb hol hsl i (n.free (i+1)) (by omega) (by exact hc) (by have:=aI.AH n (i+1);omega) (λj x hj hxj hkj=>aI.jc (hk j x (by omega) hxj hkj) hkj (by omega));have e5:=λG=>t147 (G:=G) h (by omega:n.ae.length<2 ^ 30) hni hkx;rw[hc]at e5;simp only[show((i+1:Nat):Int)=(i:Int)+1 from by omega]at e5;rw[ah ⟨hs,by unfold vB;rw[hx];simp[hkx]⟩];rw[dA hb];simp[sS,aj,e1,e2,e3,e4,aS,hbx,Wn hs,hx,hi,Up.aw,hkx,hkx',e5,cR (i:Int),gc,exp,aQ,UG,ih]
theorem pH (old:List Up)(cd:List Bool):∀(i:Nat) (n:aI),(VL old cd i n).aV=n.aV
 |0,n=>rfl
 |i+1,n=>by
  simp only[VL];rw[pH];split<;>rfl
theorem aI.Ok.CU {n:aI}(ho:n.Ok):∀(i:Nat) (x:Up),n.ae[i]?=some x->x.to.length<2 ^ 20/\∀p,p∈x.to->p.aD<n.ae.length:=by
 intro i x hx;obtain⟨x1,x2,_⟩:=ho.aD _ _ hx;have:=Up.gT x1 x2;refine⟨by omega,λp hp=>?_⟩;obtain⟨k,hk,rfl⟩:=dw.1 hp;obtain⟨_,y,hy,_⟩:=ho.at hx (gG hk);exact(gE hy).1
theorem t133 (h:bY pg){n:aI}(ho:n.Ok) :
  UM pg (E pg) 133 [.ag [.p (.sl (n.ae.map Up.aw)),.p (.i .i64 n.aV)]] G=some (.ret (.ag [.p (.sl (n.VY.ae.map Up.aw)),.p (.i .i64 n.VY.aV)]),G):=by
 refine Ut ?_ rfl rfl;have hl:=ho.len;have hc:=ho.aV;have hrl:=AM h (by omega) (by omega) ho.CU;have e1:=λG=>Ut (pg:=pg) (G:=G) (N_ h (by omega) (by omega) ho.CU) rfl rfl;have hL:=Hp h rfl (old:=n.ae) (cd:=dR n.ae) (C:=n.aV) (by omega) hrl (n.ae.length-1) n (by omega) rfl (by omega) (λj x _ hx _=>hx);rw[show VL n.ae (dR n.ae) (n.ae.length-1) n=n.VY from rfl,show((n.ae.length-1:Nat):Int)=(n.ae.length:Int)-1 from by omega]at hL;have hsc:n.VY.aV=n.aV:=pH _ _ _ _;have hbl:(dX (dR n.ae)).length=n.ae.length:=by simp[dX,hrl]
 rw[hsc,h.run (x:=Ja)];simp[Ja,aj,t128 h ho,e1,(show bC pg 146=false from h.bq (x:=YT) rfl),hbl,cR ((n.ae.length:Int)-1),gc,exp,aQ,UG,hL]
theorem t126 (h:bY pg){n m:aI}{p:cF}{i e:Nat}(h1:E pg 132 [.ag [.p (.sl (n.ae.map Up.aw)),.p (.i .i64 n.aV)],.p (.i .i64 i)] []=some (.ret (.dF [.ag [.p (.sl (m.ae.map Up.aw)),.p (.i .i64 m.aV)],.ag (bP p.aw),.p (.i .i64 e)]),[]))(he:e≠121) :
  UM pg (E pg) 126 [.ag [.p (.sl (n.ae.map Up.aw)),.p (.i .i64 n.aV)],.p (.i .i64 i)] G=some (.ret (.dF [.ag [.p (.sl (m.ae.map Up.aw)),.p (.i .i64 m.aV)],.ag (bP p.aw),.p (.i .i64 e)]),G):=by
 refine Ut ?_ rfl rfl;have e1:=λG=>Ut (pg:=pg) (G:=G) h1 rfl rfl;have he':¬ (e:Int)=121:=by omega
 simp only[cF.aw,bP,ai,au]at e1 ⊢;rw[h.run (x:=BK)];simp[BK,aj,e1,he,he',show Nat.beq 3 2=false from rfl,show Nat.beq 4 1=false from rfl,show Nat.beq 4 2=false from rfl]
theorem YY (h:bY pg){n m m':aI}{p p':cF}{i e:Nat}(ho:n.Ok)(h1:E pg 132 [.ag [.p (.sl (n.ae.map Up.aw)),.p (.i .i64 n.aV)],.p (.i .i64 i)] []=some (.ret (.dF [.ag [.p (.sl (m.ae.map Up.aw)),.p (.i .i64 m.aV)],.ag (bP p.aw),.p (.i .i64 121)]),[]))
  (h2:E pg 132 [.ag [.p (.sl (n.VY.ae.map Up.aw)),.p (.i .i64 n.VY.aV)],.p (.i .i64 i)] []=some (.ret (.dF [.ag [.p (.sl (m'.ae.map Up.aw)),.p (.i .i64 m'.aV)],.ag (bP p'.aw),.p (.i .i64 e)]),[])) :
  UM pg (E pg) 126 [.ag [.p (.sl (n.ae.map Up.aw)),.p (.i .i64 n.aV)],.p (.i .i64 i)] G=some (if e=0 then .ret (.dF [.ag [.p (.sl (m'.ae.map Up.aw)),.p (.i .i64 m'.aV)],.ag (bP p'.aw),.p (.i .i64 0)]) else .ret (.dF [.ag [.p (.sl (n.ae.map Up.aw)),.p (.i .i64 n.aV)],.ag (bP (cF.plain 0).aw),.p (.i .i64 121)]),G):=by
 have e1:=λG=>Ut (pg:=pg) (G:=G) h1 rfl rfl;have e2:=λG=>Ut (pg:=pg) (G:=G) h2 rfl rfl;have e3:=λG=>t133 (G:=G) h ho;by_cases he:e=0
 ·rw[ah he];subst he;refine Ut ?_ rfl rfl;simp only[cF.aw,bP,ai,au]at e1 e2 ⊢;rw[h.run (x:=BK)];simp[BK,aj,e1,e2,e3,show Nat.beq 3 2=false from rfl,show Nat.beq 4 1=false from rfl,show Nat.beq 4 2=false from rfl]
 ·rw[aa he];have he':¬ (e:Int)=0:=by omega
  refine Ut ?_ rfl rfl;simp only[cF.aw,bP,ai,au]at e1 e2 ⊢;rw[h.run (x:=BK)];simp[BK,aj,e1,e2,e3,he,he',cF.plain,Up.zero]
def cJ (T:List Nat):List AV:=T.map fun (k:Nat)=>AV.p (iv (k:Int))
def jf (n:aI)(T:List Nat)(d:Nat):List AV:=.p (.sl (n.ae.map Up.aw))::.p (.i .i64 n.aV)::(cJ T++[.p (.i .i64 d)])
theorem oC:∀(a b:List AV),bm (a++b)=(bm a && bm b)
 |[],b=>by simp[bm]
 |x::r,b=>by simp[bm,oC r b,mD]
theorem l6:∀T,bm (cJ T)=true
 |[]=>rfl
 |k::r=>by simpa [cJ,bm,cE] using l6 r
theorem We (n:aI)(T:List Nat)(d:Nat):bm (jf n T d)=true:=by
 simp[jf,bm,cE,oC,l6]
def Vs (T:List Nat)(k:Nat):List Nat:=T.set k (T.getD k 0+1)
theorem nK (T:List Nat):(cJ T).length=T.length:=by simp[cJ]
theorem Oa (h:bY pg){n m:aI}{p:cF}{i e d:Nat}{T:List Nat}(hT:T.length=9)(hTb:∀k,k∈T->k<2 ^ 40)(hd:d<2 ^ 40)(hk:p.ao<9)(h1:∀G,UM pg (E pg) 126 [.ag [.p (.sl (n.ae.map Up.aw)),.p (.i .i64 n.aV)],.p (.i .i64 i)] G=some (.ret (.dF [.ag [.p (.sl (m.ae.map Up.aw)),.p (.i .i64 m.aV)],.ag (bP p.aw),.p (.i .i64 e)]),G)) :
  E pg 117 [.ptr 0 0,.p (.i .i64 i)] [.box (jf n T d)]=some (.ret (.p (.i .i64 e)),[.box (if e=0 then jf m (Vs T p.ao) (d+1) else jf n T d)]):=by
 obtain⟨a0,a1,a2,a3,a4,a5,a6,a7,a8,rfl⟩:∃a0 a1 a2 a3 a4 a5 a6 a7 a8,T=[a0,a1,a2,a3,a4,a5,a6,a7,a8]:=by
  match T,hT with
  |[a0,a1,a2,a3,a4,a5,a6,a7,a8],_=>exact⟨a0,a1,a2,a3,a4,a5,a6,a7,a8,rfl⟩
 have hb:∀j:Nat,j<2 ^ 40->IntKind.i64.wrap ((j:Int)+1)=(j:Int)+1:=λj hj=>cR _;by_cases he:e=0
 ·rw[ah he];subst he;simp only[cF.aw,bP,ai,au,jf,cJ,aH,aL]at h1 ⊢;have hk':p.ao=0\/p.ao=1\/p.ao=2\/p.ao=3\/p.ao=4\/p.ao=5\/p.ao=6\/p.ao=7\/p.ao=8:=by omega
  simp at hTb;obtain⟨b0,b1,b2,b3,b4,b5,b6,b7,b8⟩:=hTb;rw[h.run (x:=E2)];rcases hk' with hk'|hk'|hk'|hk'|hk'|hk'|hk'|hk'|hk'
  all_goals
   rw[hk']at h1 ⊢;simp[E2,aj,h1,hb _ b0,hb _ b1,hb _ b2,hb _ b3,hb _ b4,hb _ b5,hb _ b6,hb _ b7,hb _ b8,hb _ hd,Vs]
 ·rw[aa he];have he':¬ (e:Int)=0:=by omega
  simp only[cF.aw,bP,ai,au,jf,cJ,aH,aL]at h1 ⊢;rw[h.run (x:=E2)];simp[E2,aj,h1,he,he']
abbrev VZ:=aI->Nat->aI×cF×Nat
def dc (step:VZ):Nat->aI->aq->aI×List Nat×Nat×Nat
 |0,n,p=>if (n.next p).2.2≠0 then (n,[],0,(n.next p).2.2) else if (n.next p).2.1=false then (n,[],(n.next p).1,0) else (n,[],0,90)
 |l+1,n,p=>if (n.next p).2.2≠0 then (n,[],0,(n.next p).2.2) else if (n.next p).2.1=false then (n,[],(n.next p).1,0) else
  if (step n (n.next p).1).2.2≠0 then (n,[],0,(step n (n.next p).1).2.2) else
   ((dc step l (step n (n.next p).1).1 p).1,(step n (n.next p).1).2.1.ao::(dc step l (step n (n.next p).1).1 p).2.1,(dc step l (step n (n.next p).1).1 p).2.2)
def vP (pg:fX)(step:VZ)(n:aI)(i:Nat):Prop:=(∀G,UM pg (E pg) 126 [.ag [.p (.sl (n.ae.map Up.aw)),.p (.i .i64 n.aV)],.p (.i .i64 i)] G=some (.ret (.dF [.ag [.p (.sl ((step n i).1.ae.map Up.aw)),.p (.i .i64 (step n i).1.aV)],.ag (bP (step n i).2.1.aw),.p (.i .i64 (step n i).2.2)]),G))/\(step n i).2.1.ao<9
def oD (pg:fX)(step:VZ):Nat->aI->aq->Prop
 |0,n,p=>n.Ok/\n.has p
 |l+1,n,p=>n.Ok/\n.has p/\((n.next p).2.2=0->(n.next p).2.1=true->vP pg step n (n.next p).1/\((step n (n.next p).1).2.2=0->oD pg step l (step n (n.next p).1).1 p))
theorem t117 (h:bY pg){n m:aI}{p:cF}{i e d:Nat}{T:List Nat}{Gs:Heap}(hT:T.length=9)(hTb:∀k,k∈T->k<2 ^ 40)(hd:d<2 ^ 40)(hk:p.ao<9)(h1:∀G,UM pg (E pg) 126 [.ag [.p (.sl (n.ae.map Up.aw)),.p (.i .i64 n.aV)],.p (.i .i64 i)] G=some (.ret (.dF [.ag [.p (.sl (m.ae.map Up.aw)),.p (.i .i64 m.aV)],.ag (bP p.aw),.p (.i .i64 e)]),G)) :
  UM pg (E pg) 117 [.ptr 0 0,.p (.i .i64 i)] (.box (jf n T d)::Gs)=some (.ret (.p (.i .i64 e)),.box (if e=0 then jf m (Vs T p.ao) (d+1) else jf n T d)::Gs) :=
 iO (Oa h hT hTb hd hk h1) rfl (We _ _ _) (by split<;>exact We _ _ _) rfl
theorem XH (T:List Nat)(k:Nat):(Vs T k).length=T.length:=by simp[Vs]
theorem CV {T:List Nat}{k B:Nat}(hT:∀a,a∈T->a<B)(hB:0<B):∀a,a∈Vs T k->a<B+1:=by
 intro a ha;unfold Vs at ha;rcases fw ha with ha|rfl
 ·have:=hT a ha;omega
 ·rw[List.getD_eq_getElem?_getD];cases hg:T[k]? with
  |none=>simp;omega
  |some b=>have:=hT b (aE hg);simp;omega
theorem DX {n:aI}{T:List Nat}{d:Nat}(hT:T.length=9):(jf n T d)[11]?=some (.p (.i .i64 d)):=by
 simp only[jf,List.getElem?_cons_succ];rw[List.getElem?_append_right (by rw[nK];omega),nK,hT];rfl
theorem FN {n:aI}{T:List Nat}{d:Nat}(hT:T.length=9):(jf n T d).length=12:=by
 simp[jf,nK,hT]
theorem ON (h:bY pg){body:aU}(hb:body=u_){step:VZ}{p:aq}{F:Nat}(hF:F<2 ^ 30) :
  ∀(l d:Nat) (n:aI) (T:List Nat),d+l=F->T.length=9->(∀k,k∈T->k<d+1)->oD pg step l n p ->
   kF 1 [.t 6,.t 7] false (kB 0 (L pg 1 [0,2,4] body [(0,.ptr 0 0),(2,.p (.i .i64 F)),(4,.ptr 1 0)] [.box (jf n T d),.box [.p (.i .i64 p.aD),.p (.i .i64 p.aT)]])) =
    some (.ret (.dF [.p (.i .i64 (dc step l n p).2.2.1),.p (.i .i64 (dc step l n p).2.2.2)]),[.box (jf (dc step l n p).1 ((dc step l n p).2.1.foldl Vs T) (d+(dc step l n p).2.1.length))])
 |l,d,n,T,hdl,hT,hTb,hok=>by
  have hon:n.Ok/\n.has p:=by cases l<;>exact⟨hok.1,by first|exact hok.2|exact hok.2.1⟩
  obtain⟨ho,hp⟩:=hon;have e1:=λG=>t116 (G:=G) h ho hp;have hm11:=DX (n:=n) (d:=d) hT;have hmf:=We n T d;have he:∀e,aQ true e (jf n T d)=some (jf n T d,e):=λe=>bS true e hmf;have hbl:=bE 1 hmf;have hm11b:∀hh,(jf n T d)[11]'hh=.p (.i .i64 d):=λhh=>by
   have:=hm11;rw[gG hh]at this;exact cT this
  have hml:=FN (n:=n) (d:=d) hT;have hmt:(jf n T d).take 2=[.p (.sl (n.ae.map Up.aw)),.p (.i .i64 n.aV)]:=by simp[jf]
  rw[dA hb];by_cases c1:(n.next p).2.2=0
  ·have c1':((n.next p).2.2:Int)=0:=by omega
   cases c2:(n.next p).2.1 with
   |false =>
    have hr:dc step l n p=(n,[],(n.next p).1,0):=by cases l<;>simp[dc,c1,c2]
    rw[hr];simp[u_,aj,hml,hmt,e1,Ur c1,Ur c1',c2,hbl]
   |true =>
    cases l with
    |zero =>
     have hr:dc step 0 n p=(n,[],0,90):=by simp[dc,c1,c2]
     have hdF:d=F:=by omega
     subst hdF;rw[hr];simp[u_,aj,hml,hmt,hm11,hm11b,e1,Ur c1,Ur c1',c2,hbl]
    |succ l =>
     obtain⟨_,_,hst⟩:=hok;obtain⟨⟨s1,s2⟩,s3⟩:=hst c1 c2;have hdF:¬ d=F:=by omega
     have hdF':¬ (d:Int)=F:=by omega
     have e2:=λGs=>t117 (Gs:=Gs) (T:=T) (d:=d) h hT (λk hk=>by have:=hTb k hk;omega) (by omega) s2 s1;by_cases c3:(step n (n.next p).1).2.2=0
     ·have c3':((step n (n.next p).1).2.2:Int)=0:=by omega
      have ih:=ON h hb hF l (d+1) (step n (n.next p).1).1 (Vs T (step n (n.next p).1).2.1.ao) (by omega) (by rw[XH];exact hT) (CV hTb (by omega)) (s3 c3);have hr:dc step (l+1) n p=((dc step l (step n (n.next p).1).1 p).1,(step n (n.next p).1).2.1.ao::(dc step l (step n (n.next p).1).1 p).2.1,(dc step l (step n (n.next p).1).1 p).2.2):=by
       conv=>lhs;unfold dc
       rw[aa (by simpa using c1),aa (by rw[c2];simp),aa (by simpa using c3)]
      have hmf2:=We (step n (n.next p).1).1 (Vs T (step n (n.next p).1).2.1.ao) (d+1);have he2:∀e,aQ true e (jf (step n (n.next p).1).1 (Vs T (step n (n.next p).1).2.1.ao) (d+1))=some (jf (step n (n.next p).1).1 (Vs T (step n (n.next p).1).2.1.ao) (d+1),e):=λe=>bS true e hmf2;rw[hr];simp only[Vw,av];rw[show d+((dc step l (step n (n.next p).1).1 p).2.1.length+1)=d+1+(dc step l (step n (n.next p).1).1 p).2.1.length from by omega];simp only[c3,if_true]at e2;generalize (dc step l (step n (n.next p).1).1 p)=R at *;generalize jf (step n (n.next p).1).1 (Vs T (step n (n.next p).1).2.1.ao) (d+1)=M2 at *;simp[u_,aj,hml,hmt,hm11,hm11b,e1,Ur c1,Ur c1',c2,hdF,hdF',e2,c3,gc,exp,aQ,UG,he2,ih]
     ·have c3':¬ ((step n (n.next p).1).2.2:Int)=0:=by omega
      have hr:dc step (l+1) n p=(n,[],0,(step n (n.next p).1).2.2):=by
       conv=>lhs;unfold dc
       rw[aa (by simpa using c1),aa (by rw[c2];simp),ah (by simpa using c3)]
      rw[hr];simp only[c3,if_false]at e2;simp[u_,aj,hml,hmt,hm11,hm11b,e1,Ur c1,Ur c1',c2,hdF,hdF',e2,c3,c3',hbl]
  ·have c1':¬ ((n.next p).2.2:Int)=0:=by omega
   have hr:dc step l n p=(n,[],0,(n.next p).2.2):=by cases l<;>simp[dc,c1]
   rw[hr];simp[u_,aj,hml,hmt,e1,c1,c1',hbl]
def U4:List Nat:=[0,0,0,0,0,0,0,0,0]
theorem gZ:∀(l T:List Nat),(l.foldl Vs T).length=T.length
 |[],T=>rfl
 |k::r,T=>by simp only[Vw];rw[gZ r,XH]
theorem PX (h:bY pg){step:VZ}{n:aI}{p:aq}{F:Nat}(hF:F<2 ^ 30)(hok:oD pg step F n p) :
  E pg 94 [.ptr 0 0,.ag [.p (.i .i64 p.aD),.p (.i .i64 p.aT)],.p (.i .i64 F)] [.box (jf n U4 0)]=some (.ret (.dF [.p (.i .i64 (dc step F n p).2.2.1),.p (.i .i64 (dc step F n p).2.2.2)]),[.box (jf (dc step F n p).1 ((dc step F n p).2.1.foldl Vs U4) ((dc step F n p).2.1.length))]):=by
 have hL:=ON h rfl hF F 0 n U4 (by omega) rfl (by simp[U4]) hok;rw[aG]at hL;have hmf:=We n U4 0;have he:∀e,aQ true e (jf n U4 0)=some (jf n U4 0,e):=λe=>bS true e hmf;rw[h.run (x:=M6)];simp[M6,aj,gc,exp,aQ,UG,he,hL]
theorem PY (h:bY pg){step:VZ}{n:aI}{p:aq}{F:Nat}(hF:F<=100000)(hok:oD pg step F n p) :
  E pg 66 [.ag [.p (.sl (n.ae.map Up.aw)),.p (.i .i64 n.aV)],.ag [.p (.i .i64 p.aD),.p (.i .i64 p.aT)],.p (.i .i64 F)] []=some (.ret (.dF [.ag [.p (.sl ((dc step F n p).1.ae.map Up.aw)),.p (.i .i64 (dc step F n p).1.aV)],.p (.i .i64 (dc step F n p).2.2.1),.ag (cJ ((dc step F n p).2.1.foldl Vs U4)),.p (.i .i64 (dc step F n p).2.2.2)]),[]):=by
 have hs:=PX h (by omega) hok;have hT:((dc step F n p).2.1.foldl Vs U4).length=9:=by rw[gZ];rfl
 have e1:=sZ (pg:=pg) (k:=4) (G:=[.box [.p (.sl (n.ae.map Up.aw)),.p (.i .i64 n.aV)],.box [.p (.i .i64 p.aD),.p (.i .i64 p.aT)],.box [.aC,.p (.i .i64 0)],.box [.p (.i .i64 0),.p (.i .i64 0),.p (.i .i64 0),.p (.i .i64 0),.p (.i .i64 0),.p (.i .i64 0),.p (.i .i64 0),.p (.i .i64 0),.p (.i .i64 0)],.box (jf n U4 0)]) hs rfl rfl (We _ _ _) (We _ _ _) rfl;generalize (dc step F n p)=R at *;rcases R with ⟨m,ks,nU,err⟩
 dsimp only at hT e1 ⊢;generalize ks.foldl Vs U4=T at *;obtain⟨a0,a1,a2,a3,a4,a5,a6,a7,a8,rfl⟩:∃a0 a1 a2 a3 a4 a5 a6 a7 a8,T=[a0,a1,a2,a3,a4,a5,a6,a7,a8]:=by
  match T,hT with
  |[a0,a1,a2,a3,a4,a5,a6,a7,a8],_=>exact⟨a0,a1,a2,a3,a4,a5,a6,a7,a8,rfl⟩
 simp only[jf,cJ,U4,ai,au,aH,aL,bF,bT,fW]at e1 ⊢;have hF1:¬ (F:Int)<0:=by omega
 have hF2:¬ (100000:Int)<F:=by omega
 have hF3:¬ 100000<F:=by omega
 rw[h.run (x:=M1)];simp[M1,aj,hF1,hF2,hF3,e1,show Nat.beq 4 2=false from rfl]
end
end Go.Proofs.Z
