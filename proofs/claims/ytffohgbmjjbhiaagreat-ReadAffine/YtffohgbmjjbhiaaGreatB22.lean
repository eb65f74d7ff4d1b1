/- A part of the proof. -/
import Derived.Test.YtffohgbmjjbhiaaGreatB21
import Derived.Test.YtffohgbmjjbhiaaGreatB13
set_option linter.all false
namespace Go.Proofs.Z
theorem wy {m k i c:Nat}{cs:List Nat}(h:cs[i]?=some c):((⟨m,i+1⟩:aq),(⟨c,k+1⟩:aq))∈dW m k cs:=by
 have hi:=(gE h).1;refine aE (i:=i) ?_;unfold dW UQ;rw[List.getElem?_zip_eq_some];simp[h,hi,kD];exact(gE h).2
theorem pR.V9 {n:aI}{a b:Nat}{cs:List Nat}(hcs:cs.Nodup)(hbc:b∉cs):∀(ms:List Nat) (k:Nat) {m:aI} {H D S:aq->Prop} {f σ:aq->aq},lF n a b m H D->pR f S m D σ->ms.Nodup->b∉ms->(∀c,c∈cs->c∉ms) ->
  (∀p:aq,p.aD∈ms->p.aT<1+cs.length->H p/\D p) ->
  (∀p:aq,p.aD∈cs->k+1<=p.aT->p.aT<k+1+ms.length->H p/\D p) ->
  (∀p:aq,p.aD=b->k+1<=p.aT->p.aT<k+1+ms.length->H p/\¬ D p) ->
  (∀p:aq,p.aD∈ms->¬ S p)->(∀p:aq,p.aD∈cs->k+1<=p.aT->¬ S p)->(∀p:aq,p.aD=b->k+1<=p.aT->p.aT<k+1+ms.length->S p/\σ p=p) ->
  ∃f' S' σ',pR f' S' (m.V9 b cs k ms) (λr=>(D r/\¬ (r.aD∈ms/\r.aT<1+cs.length)/\¬ (r.aD∈cs/\k+1<=r.aT/\r.aT<k+1+ms.length))\/(r.aD=b/\k+1<=r.aT/\r.aT<k+1+ms.length)) σ' /\
   (∀r,S r->S' r/\f' r=f r)/\(∀r:aq,¬ (r.aD=b/\k+1<=r.aT/\r.aT<k+1+ms.length)->σ' r=σ r) /\
   ∀(j m0:Nat),ms[j]?=some m0->σ' ⟨b,k+j+1⟩=⟨m0,0⟩/\∀(i c:Nat),cs[i]?=some c->S' ⟨m0,i+1⟩/\S' ⟨c,k+j+1⟩/\f' ⟨m0,i+1⟩=⟨c,k+j+1⟩/\f' ⟨c,k+j+1⟩=⟨m0,i+1⟩
 |[],k,m,H,D,S,f,σ,h,hT,h1,h2,h3,h4,h5,h6,s4,s5,s6=>by
  refine⟨f,S,σ,hT.congr (λp hp=>?_),λr hr=>⟨hr,rfl⟩,λ_ _=>rfl,λj m0 hj=>by simp at hj⟩;simp;omega
 |m0::r,k,m,H,D,S,f,σ,h,hT,h1,h2,h3,h4,h5,h6,s4,s5,s6=>by
  simp only[UB]at h1;simp only[aA,eX,av]at h2 h3 h4 h5 h6 s4 s6;have hm0:m0∉cs:=λe=>(h3 _ e).1 rfl;have p1:=h6 ⟨b,k+1⟩ rfl (by show k+1<=k+1;omega) (by show k+1<_;omega);have p2:=h4 ⟨m0,0⟩ (.inl rfl) (by show 0<_;omega);have p3:=s6 ⟨b,k+1⟩ rfl (by show k+1<=k+1;omega) (by show k+1<_;omega);obtain⟨a1,a2⟩:=h.pF (p:=⟨b,k+1⟩) (q:=⟨m0,0⟩) (.inr rfl) p1 p2;have t1:=hT.move (p:=⟨b,k+1⟩) (q:=⟨m0,0⟩) h.lk ((h.has _).2 p1.1) ((h.has _).2 p2.1) p1.2 p2.2 p3.1 p3.2;have hl:(UQ m0 1 cs.length).length=(cs.map λc=>(⟨c,k+1⟩:aq)).length:=by rw[bN];simp
  have c1:∀p:aq,p∈UQ m0 1 cs.length->H p/\((D p/\p≠⟨m0,0⟩)\/p=⟨b,k+1⟩):=λp hp=>by
   rw[bu]at hp;simp only[ne_eq,aq.eq_mk];have:=h4 p (.inl hp.1) (by omega)
   grind
  have c2:∀p:aq,p∈(cs.map λc=>(⟨c,k+1⟩:aq))->H p/\((D p/\p≠⟨m0,0⟩)\/p=⟨b,k+1⟩):=λp hp=>by
   rw[U8]at hp;simp only[ne_eq,aq.eq_mk];have:=h5 p hp.1 (by omega) (by omega)
   grind
  have c3:∀p,p∈UQ m0 1 cs.length->p∉(cs.map λc=>(⟨c,k+1⟩:aq)):=λp hp hq=>by
   rw[bu]at hp;rw[U8]at hq
   grind
  obtain⟨a3,a4⟩:=a2.vL (ps:=UQ m0 1 cs.length) (qs:=cs.map λc=>(⟨c,k+1⟩:aq)) hl c1 c2 (du _ _ _) (pG hcs) c3;have e1:(dW m0 k cs).map (·.1)=UQ m0 1 cs.length:=gI (by omega);have e2:(dW m0 k cs).map (·.2)=cs.map λc=>(⟨c,k+1⟩:aq):=gJ (by omega);obtain⟨f1,t2,t3,t4⟩:=t1.jy (dW m0 k cs) (λpq hpq=>by
   obtain⟨m1,m2⟩:=eG (show(pq.1,pq.2)∈(UQ m0 1 cs.length).zip (cs.map λc=>(⟨c,k+1⟩:aq)) from hpq);refine⟨(a2.has _).2 (c1 _ m1).1,(a2.has _).2 (c2 _ m2).1,(c1 _ m1).2,(c2 _ m2).2,?_,?_⟩
   ·rw[bu]at m1;exact s4 _ (.inl m1.1)
   ·rw[U8]at m2;exact s5 _ m2.1 (by omega)) (by rw[e1];exact du _ _ _) (by rw[e2];exact pG hcs) (by rw[e1,e2];exact c3)
  rw[e1,e2]at t2;obtain⟨f',S',σ',k1,k2,k3,k4⟩:=pR.V9 hcs hbc r (k+1) a4 t2 h1.2 (λe=>h2.2 e) (λc hc=>(h3 c hc).2) (λp hp hs=>by
   simp only[ne_eq,aq.eq_mk,bu,U8];have:=h4 p (.inr hp) hs
   grind) (λp hp hs hs'=>by
   simp only[ne_eq,aq.eq_mk,bu,U8];have:=h5 p hp (by omega) (by omega)
   grind) (λp hp hs hs'=>by
   simp only[ne_eq,aq.eq_mk,bu,U8];have:=h6 p hp (by omega) (by omega)
   grind) (λp hp=>by
   simp only[bu,U8];have:=s4 p (.inr hp)
   grind) (λp hp hs=>by
   simp only[bu,U8];have:=s5 p hp (by omega)
   grind) (λp hp hs hs'=>by
   obtain⟨d1,d2⟩:=s6 p hp (by omega) (by omega);refine⟨.inl d1,?_⟩;rw[aa (by simp only[aq.eq_mk];omega),d2])
  refine⟨f',S',σ',k1.congr (λp hp=>?_),λq hq=>⟨(k2 q (.inl hq)).1,(k2 q (.inl hq)).2.trans (t3 q hq)⟩,λq hq=>?_,λj m1 hj=>?_⟩
  ·have g3:=h3 p.aD;have g4:=h4 p;simp only[ne_eq,aq.eq_mk,bu,U8,aA,av]
   grind
  ·simp only[av]at hq;rw[k3 q (by omega),aa (by simp only[aq.eq_mk];omega)]
  ·cases j with
   |zero =>
    simp only[List.getElem?_cons_zero,bG]at hj;subst hj;refine⟨?_,λi c hc=>?_⟩
    ·rw[show k+0+1=k+1 from rfl,k3 _ (by show ¬ (b=b/\k+1+1<=k+1/\k+1<k+1+1+r.length);omega),ah rfl]
    ·have hm:=wy (m:=m0) (k:=k) hc;obtain⟨g1,g2⟩:=t4 _ hm;have i1:(⟨m0,i+1⟩:aq)∈UQ m0 1 cs.length:=by rw[<- e1];exact UH (f:=(·.1)) hm
     have i2:(⟨c,k+1⟩:aq)∈(cs.map λc=>(⟨c,k+1⟩:aq)):=by rw[<- e2];exact UH (f:=(·.2)) hm
     obtain⟨u1,u2⟩:=k2 ⟨m0,i+1⟩ (.inr (.inl i1));obtain⟨u3,u4⟩:=k2 ⟨c,k+1⟩ (.inr (.inr i2));exact⟨u1,u3,u2.trans g1,u4.trans g2⟩
   |succ j =>
    simp only[List.getElem?_cons_succ]at hj;rw[show k+(j+1)+1=k+1+j+1 from by omega];exact k4 j m1 hj
theorem pE.QB {n:aI}{a b Us:Nat}{x y:Up}(h:pE n a b x y)(kx:2<=x.ao)(ky:2<=y.ao)(hoy:({ y with Us:=Us }:Up).ok=true)(hu:n.used+(x.to.length-1)+(y.to.length-1)<=n.aV){m:aI}(hm:m=(n.pass a b x y Us).UT a b) :
  ∃(σ:aq->aq) (cs ms:List Nat),Fin n m a b [] σ/\cs.length=x.to.length-1/\ms.length=y.to.length-1 /\
   (∀(i c:Nat),cs[i]?=some c->KJ m c { y with Us:=Us }/\σ ⟨a,i+1⟩=⟨c,0⟩/\σ ⟨c,0⟩=⟨c,0⟩) /\
   ∀(k m0:Nat),ms[k]?=some m0->KJ m m0 x/\σ ⟨b,k+1⟩=⟨m0,0⟩/\∀(i c:Nat),cs[i]?=some c->m.pr ⟨m0,i+1⟩=⟨c,k+1⟩/\m.pr ⟨c,k+1⟩=⟨m0,i+1⟩:=by
 subst hm;have ha:=h.ha;have hb:=h.hb;have hne:=h.ne;have hx1:=h.x1;have hy1:=h.y1;obtain⟨x1,x2,x3⟩:=h.ok.aD _ _ h.hx;obtain⟨y1,y2,y3⟩:=h.ok.aD _ _ h.hy;have hyp:({ y with Us:=Us }:Up).bO=y.bO:=rfl;obtain⟨g1,g2,g3,g4,g5⟩:=h.st.cI (x:={ y with Us:=Us }) (k:=x.to.length-1) ky hoy (λ_=>y2) (by omega) (by omega);have L1:=vD (x:={ y with Us:=Us }) ky hoy (λ_=>y2) (by omega) (x.to.length-1) h.ok.sk (by omega);have t1:=h.QW.cI L1 (λ_ _=>rfl);rw[hyp,<- y2]at g1;have gc:=g1.aV;unfold aI.pass aI.Xo aI.Xn aI.qA aI.Ws aI.qz;generalize hC:(n.cI { y with Us:=Us } (x.to.length-1)).2=C at *;generalize (n.cI { y with Us:=Us } (x.to.length-1)).1=m1 at *;obtain⟨h1,h2,h3,h4,h5⟩:=g1.cI (x:=x) (k:=y.to.length-1) kx x1 (λ_=>x2) (by omega) (by omega);have L2:=vD (x:=x) kx x1 (λ_=>x2) (by omega) (y.to.length-1) g1.sk (by omega);have t2:=t1.cI L2 (λ_ _=>rfl);rw[<- x2]at h1;generalize hM:(m1.cI x (y.to.length-1)).2=M at *;generalize (m1.cI x (y.to.length-1)).1=m at *;have fa:a∉C:=g3 ⟨a,0⟩ (h.pa (by omega));have fb:b∉C:=g3 ⟨b,0⟩ (h.pb (by omega));have fa':a∉M:=h3 ⟨a,0⟩ (.inl (h.pa (by omega)));have fb':b∉M:=h3 ⟨b,0⟩ (.inl (h.pb (by omega)));have fc:∀c,c∈C->c∉M:=λc hc=>h3 ⟨c,0⟩ (.inr ⟨hc,by show 0<_;omega⟩);have c1:∀p,p∈UQ a 1 (x.to.length-1)->((n.has p\/p.aD∈C/\p.aT<y.to.length)\/p.aD∈M/\p.aT<x.to.length)/\¬ (((p=⟨a,0⟩\/p=⟨b,0⟩)\/p.aD∈C)\/p.aD∈M):=λp hp=>by
  have ha:=ha p;simp only[bu,aq.eq_mk]at hp ⊢
  grind
 have c2:∀q,q∈eD C->((n.has q\/q.aD∈C/\q.aT<y.to.length)\/q.aD∈M/\q.aT<x.to.length)/\(((q=⟨a,0⟩\/q=⟨b,0⟩)\/q.aD∈C)\/q.aD∈M):=λq hq=>by
  rw[gV]at hq;exact⟨.inl (.inr ⟨hq.1,by omega⟩),.inl (.inr hq.1)⟩
 have hz:(UQ a 1 (x.to.length-1)).length=(eD C).length:=by simp[eD,g5,bN]
 obtain⟨h6,h7⟩:=h1.nJ (ps:=UQ a 1 (x.to.length-1)) (qs:=eD C) hz (λp hp=>.inl (bu.1 hp).1) c1 c2 (du _ _ _) (mR g2);obtain⟨σ1,k1,k2,k3⟩:=t2.ft ((UQ a 1 (x.to.length-1)).zip (eD C)) h1.lk (λpq hpq=>by
  obtain⟨m1,m2⟩:=eG (show(pq.1,pq.2)∈(UQ a 1 (x.to.length-1)).zip (eD C) from hpq);exact⟨(h1.has _).2 (c1 _ m1).1,(h1.has _).2 (c2 _ m2).1,(c1 _ m1).2,(c2 _ m2).2⟩) (by rw[gI (by omega)];exact du _ _ _) (by rw[gJ (by omega)];exact mR g2) (λpq hpq=>by
  obtain⟨m1,m2⟩:=eG (show(pq.1,pq.2)∈(UQ a 1 (x.to.length-1)).zip (eD C) from hpq);have ha:=ha pq.1;simp only[bu]at m1;exact⟨⟨(ha m1.1).2 (by omega),by simp only[ne_eq,aq.eq_mk];omega,by simp only[ne_eq,aq.eq_mk];omega⟩,rfl⟩)
 rw[gI (by omega),gJ (by omega)]at k1;rw[gI (by omega)]at k3;have d4:∀p:aq,p.aD∈M->p.aT<1+C.length->((n.has p\/p.aD∈C/\p.aT<y.to.length)\/p.aD∈M/\p.aT<x.to.length)/\(((((p=⟨a,0⟩\/p=⟨b,0⟩)\/p.aD∈C)\/p.aD∈M)/\p∉eD C)\/p∈UQ a 1 (x.to.length-1)):=λp hp hs=>by
  simp only[bu,gV,aq.eq_mk]
  grind
 have d5:∀p:aq,p.aD∈C->0+1<=p.aT->p.aT<0+1+M.length->((n.has p\/p.aD∈C/\p.aT<y.to.length)\/p.aD∈M/\p.aT<x.to.length)/\(((((p=⟨a,0⟩\/p=⟨b,0⟩)\/p.aD∈C)\/p.aD∈M)/\p∉eD C)\/p∈UQ a 1 (x.to.length-1)):=λp hp hs hs'=>by
  have:=fc p.aD hp;simp only[bu,gV,aq.eq_mk]
  grind
 have d6:∀p:aq,p.aD=b->0+1<=p.aT->p.aT<0+1+M.length->((n.has p\/p.aD∈C/\p.aT<y.to.length)\/p.aD∈M/\p.aT<x.to.length)/\¬ (((((p=⟨a,0⟩\/p=⟨b,0⟩)\/p.aD∈C)\/p.aD∈M)/\p∉eD C)\/p∈UQ a 1 (x.to.length-1)):=λp hp hs hs'=>by
  have hb:=hb p;simp only[bu,gV,aq.eq_mk]
  grind
 obtain⟨h8,h9⟩:=lF.V9 (a:=a) (b:=b) g2 fb M 0 h7 h2 fb' fc d4 d5 d6;obtain⟨f',S',σ,u1,u2,u3,u4⟩:=pR.V9 (a:=a) (b:=b) g2 fb M 0 h7 k1 h2 fb' fc d4 d5 d6 (λp hp hS=>h3 p (.inl hS.1) hp) (λp hp _ hS=>g3 p hS.1 hp) (λp hp hs hs'=>by
  have hb:=hb p;refine⟨⟨(hb hp).2 (by omega),by simp only[ne_eq,aq.eq_mk];omega,by simp only[ne_eq,aq.eq_mk];omega⟩,?_⟩;rw[k3 p (by simp only[bu];omega)];rfl)
 obtain⟨f1,f2,f3⟩:=h9.Qx h kx ky (λp hp=>by
  have ha:=ha p;have hb:=hb p;have hf:=h3 p;have hf2:=g3 p;have hf3:=fc p.aD;simp only[bu,aq.eq_mk,gV]
  grind) u1 (λr hr=>u2 r hr) (λr e1 e2=>by
  rw[u3 r (by omega),k3 r (by simp only[bu];omega)];rfl)
 have bb:UU ((m.ft ((UQ a 1 (x.to.length-1)).zip (eD C))).V9 b C 0 M) m:=(UU.V9 _ _ _).trans (UU.ft _ _);refine⟨σ,C,M,f1,g5,h5,λi c hc=>?_,λk m0 hk=>?_⟩
 ·have hcC:c∈C:=aE hc;have ca:c≠a:=λe=>fa (by rw[<- e];exact hcC);have cb:c≠b:=λe=>fb (by rw[<- e];exact hcC);refine⟨?_,?_,?_⟩
  ·have n1:KJ m1 c ({ y with Us:=Us }:Up):=⟨_,L1.new c hcC,Up.Dh y2⟩
   have n2:=n1.bq (m':=m) (by show y.ao≠0;omega) L2.bq;exact(n2.bare bb).fin (by show y.ao≠0;omega) ca cb f3
  ·rw[u3 _ (by show ¬ (a=b/\_);omega)];have hi:=(gE hc).1;refine k2 (⟨a,i+1⟩,⟨c,0⟩) (aE (i:=i) ?_);unfold eD UQ;rw[List.getElem?_zip_eq_some];simp only[List.getElem?_map,hc];simp[List.getElem?_range' (show i<x.to.length-1 from by omega),kD]
  ·rw[u3 _ (by show ¬ (c=b/\_);omega),k3 _ (by simp only[bu];omega)];rfl
 ·have hmM:m0∈M:=aE hk;obtain⟨v1,v2⟩:=u4 k m0 hk;rw[aG]at v1;refine⟨?_,v1,λi c hc=>?_⟩
  ·have n1:KJ m m0 x:=⟨_,L2.new m0 hmM,Up.Dh x2⟩
   exact(n1.bare bb).fin (by omega) (λe=>fa' (by rw[<- e];exact hmM)) (λe=>fb' (by rw[<- e];exact hmM)) f3
  ·have hcC:c∈C:=aE hc;obtain⟨w1,w2,w3,w4⟩:=v2 i c hc;rw[aG]at w2 w3 w4;have e1:=f2 _ w1;have e2:=f2 _ w2;have s1:∀j,σ ⟨m0,j⟩=⟨m0,j⟩:=λj=>by
    rw[u3 _ (by show ¬ (m0=b/\_);rintro⟨e,_⟩;exact fb' (by rw[<- e];exact hmM)),k3 _ (by simp only[bu];rintro⟨e,_⟩;exact fa' (by rw[<- e];exact hmM))];rfl
   have s2:∀j,σ ⟨c,j⟩=⟨c,j⟩:=λj=>by
    rw[u3 _ (by show ¬ (c=b/\_);rintro⟨e,_⟩;exact fb (by rw[<- e];exact hcC)),k3 _ (by simp only[bu];rintro⟨e,_⟩;exact fa (by rw[<- e];exact hcC))];rfl
   rw[s1,w3,s2]at e1;rw[s2,w4,s1]at e2;exact⟨e1,e2⟩
theorem pR.chain {n:aI}{a b:Nat}(hab:a≠b):∀(ms:List Nat) (i:Nat) {m:aI} {H D S:aq->Prop} {f σ:aq->aq},ms≠[]->lF n a b m H D->pR f S m D σ->ms.Nodup->a∉ms->b∉ms ->
  (∀p:aq,p.aD∈ms->p.aT=1\/p.aT=2->H p/\D p) ->
  (∀p:aq,p.aD∈ms.tail->p.aT=0->H p/\D p) ->
  (∀p:aq,p.aD=b->i+1<=p.aT->p.aT<i+1+ms.length->H p/\¬ D p) ->
  (∀p:aq,p.aD=a->p.aT=1->H p/\¬ D p) ->
  (∀p:aq,p.aD∈ms->p.aT=1\/p.aT=2->¬ S p)->(∀p:aq,p.aD∈ms.tail->¬ S p) ->
  (∀p:aq,p.aD=b->i+1<=p.aT->p.aT<i+1+ms.length->S p/\σ p=p)->S ⟨a,1⟩/\σ ⟨a,1⟩=⟨a,1⟩ ->
  ∃f' S' σ',pR f' S' (m.chain a b i ms) (λr=>(D r/\¬ (r.aD∈ms/\(r.aT=1\/r.aT=2))/\¬ (r.aD∈ms.tail/\r.aT=0))\/(r.aD=b/\i+1<=r.aT/\r.aT<i+1+ms.length)\/(r.aD=a/\r.aT=1)) σ' /\
   (∀r,S r->S' r/\f' r=f r)/\(∀r:aq,¬ (r.aD=b/\i+1<=r.aT/\r.aT<i+1+ms.length)->¬ (r.aD=a/\r.aT=1)->σ' r=σ r) /\
   ∀(j m0:Nat),ms[j]?=some m0->σ' ⟨b,i+j+1⟩=⟨m0,2⟩/\(∀m1,ms[j+1]?=some m1->S' ⟨m0,1⟩/\S' ⟨m1,0⟩/\f' ⟨m0,1⟩=⟨m1,0⟩/\f' ⟨m1,0⟩=⟨m0,1⟩)/\(ms[j+1]?=none->σ' ⟨a,1⟩=⟨m0,1⟩)
 |[],i,m,H,D,S,f,σ,h0,h,hT,h1,h2,h3,h4,h5,h6,h7,s4,s5,s6,s7=>absurd rfl h0
 |[m0],i,m,H,D,S,f,σ,h0,h,hT,h1,h2,h3,h4,h5,h6,h7,s4,s5,s6,s7=>by
  simp only[aA,UA,dU,av,aJ,dk]at h2 h3 h4 h5 h6 s4 s5 s6;have p1:=h6 ⟨b,i+1⟩ rfl (by show i+1<=i+1;omega) (by show i+1<_;omega);have p2:=h4 ⟨m0,2⟩ rfl (.inr rfl);have p3:=h7 ⟨a,1⟩ rfl rfl;have p4:=h4 ⟨m0,1⟩ rfl (.inl rfl);obtain⟨a1,a2⟩:=h.pF (p:=⟨b,i+1⟩) (q:=⟨m0,2⟩) (.inr rfl) p1 p2;have t1:=hT.move (p:=⟨b,i+1⟩) (q:=⟨m0,2⟩) h.lk ((h.has _).2 p1.1) ((h.has _).2 p2.1) p1.2 p2.2 (s6 _ rfl (by show i+1<=i+1;omega) (by show i+1<_;omega)).1 (s6 _ rfl (by show i+1<=i+1;omega) (by show i+1<_;omega)).2;have t2:=t1.move (p:=⟨a,1⟩) (q:=⟨m0,1⟩) a2.lk ((a2.has _).2 p3.1) ((a2.has _).2 p4.1) (by
   simp only[ne_eq,aq.eq_mk];have:=p3.2
   grind) (.inl ⟨p4.2,by simp⟩) s7.1 (by rw[aa (by simp only[aq.eq_mk];omega)];exact s7.2)
  refine⟨f,S,_,t2.congr (λp hp=>?_),λr hr=>⟨hr,rfl⟩,λr e1 e2=>?_,λj mj hj=>?_⟩
  ·have g4:=h4 p;simp only[ne_eq,aq.eq_mk,aA,UA,dU,av,aJ,dk]
   grind
  ·simp only[av,aJ]at e1;rw[aa (by simp only[aq.eq_mk];omega),aa (by simp only[aq.eq_mk];omega)]
  ·cases j with
   |zero =>
    simp only[List.getElem?_cons_zero,bG]at hj;subst hj;refine⟨?_,λm1 hm1=>by simp at hm1,λ_=>ah rfl⟩
    show(if (⟨b,i+0+1⟩:aq)=⟨a,1⟩ then _ else _)=_
    rw[aa (by simp only[aq.eq_mk];omega)];exact ah rfl
   |succ j=>simp at hj
 |m0::m1::r,i,m,H,D,S,f,σ,h0,h,hT,h1,h2,h3,h4,h5,h6,h7,s4,s5,s6,s7=>by
  have h1':=UB.1 h1;have h2':a∉m1::r:=λe=>h2 (bA _ e);have h3':b∉m1::r:=λe=>h3 (bA _ e);have n1:a≠m0:=λe=>h2 (by simp[e]);have n2:b≠m0:=λe=>h3 (by simp[e]);have n3:m0≠m1:=λe=>h1'.1 (by simp[e]);have n4:m1∉r:=(UB.1 h1'.2).1;have hl:(m0::m1::r).length=(m1::r).length+1:=rfl;rw[hl]at h6 s6;have p1:=h6 ⟨b,i+1⟩ rfl (by show i+1<=i+1;omega) (by show i+1<_;omega);have p2:=h4 ⟨m0,2⟩ (by simp) (.inr rfl);have p3:=s6 ⟨b,i+1⟩ rfl (by show i+1<=i+1;omega) (by show i+1<_;omega);obtain⟨a1,a2⟩:=h.pF (p:=⟨b,i+1⟩) (q:=⟨m0,2⟩) (.inr rfl) p1 p2;have t1:=hT.move (p:=⟨b,i+1⟩) (q:=⟨m0,2⟩) h.lk ((h.has _).2 p1.1) ((h.has _).2 p2.1) p1.2 p2.2 p3.1 p3.2;have p4:H ⟨m0,1⟩/\((D ⟨m0,1⟩/\(⟨m0,1⟩:aq)≠⟨m0,2⟩)\/(⟨m0,1⟩:aq)=⟨b,i+1⟩):=by
   have:=h4 ⟨m0,1⟩ (by simp) (.inl rfl);exact⟨this.1,.inl ⟨this.2,by simp⟩⟩
  have p5:H ⟨m1,0⟩/\((D ⟨m1,0⟩/\(⟨m1,0⟩:aq)≠⟨m0,2⟩)\/(⟨m1,0⟩:aq)=⟨b,i+1⟩):=by
   have:=h5 ⟨m1,0⟩ (by simp) rfl;exact⟨this.1,.inl ⟨this.2,by simp⟩⟩
  obtain⟨a3,a4⟩:=a2.FI (p:=⟨m0,1⟩) (q:=⟨m1,0⟩) p4 p5 (by simp);have t2:=t1.link (p:=⟨m0,1⟩) (q:=⟨m1,0⟩) ((a2.has _).2 p4.1) ((a2.has _).2 p5.1) p4.2 p5.2 (by simp) (s4 _ (by simp) (.inl rfl)) (s5 _ (by simp));have hne:(⟨m1,0⟩:aq)≠⟨m0,1⟩:=by simp
  obtain⟨f',S',σ',k1,k2,k3,k4⟩:=pR.chain hab (m1::r) (i+1) (by simp) a4 t2 h1'.2 h2' h3' (λp hp hs=>by
   have:=h4 p (bA _ hp) hs;simp only[ne_eq,aq.eq_mk]
   grind) (λp hp hs=>by
   have:=h5 p (by simp only[dk]at hp ⊢;exact bA _ hp) hs;simp only[ne_eq,aq.eq_mk]
   grind) (λp hp hs hs'=>by
   have:=h6 p hp (by omega) (by omega);simp only[ne_eq,aq.eq_mk]
   grind) (λp hp hs=>by
   have:=h7 p hp hs;simp only[ne_eq,aq.eq_mk]
   grind) (λp hp hs=>by
   have:=s4 p (bA _ hp) hs;simp only[ne_eq,aq.eq_mk]
   grind) (λp hp=>by
   simp only[dk]at hp;have:=s5 p (by simp only[dk];exact bA _ hp);simp only[ne_eq,aq.eq_mk]
   grind) (λp hp hs hs'=>by
   obtain⟨d1,d2⟩:=s6 p hp (by omega) (by omega);refine⟨.inl d1,?_⟩;rw[aa (by simp only[aq.eq_mk];omega),d2]) ⟨.inl s7.1,by rw[aa (by simp only[aq.eq_mk];omega)];exact s7.2⟩
  refine⟨f',S',σ',k1.congr (λp hp=>?_),λq hq=>?_,λq e1 e2=>?_,λj mj hj=>?_⟩
  ·have g4:=h4 p;have g5:=h5 p;simp only[ne_eq,aq.eq_mk,dk,av,aA]at g4 g5 ⊢;clear a1 a2 a3 a4 h4 h5 h6 h7 h k1 k2 k3 k4 t1 t2 s4 s5 s6 s7 hT
   grind
  ·have:=k2 q (.inl hq);refine⟨this.1,?_⟩;rw[this.2,aa (λe=>s4 ⟨m0,1⟩ (by simp) (.inl rfl) (by rw[<- e];exact hq)),aa (λe=>s5 ⟨m1,0⟩ (by simp) (by rw[<- e];exact hq))]
  ·rw[hl]at e1;rw[k3 q (by omega) e2,aa (by simp only[aq.eq_mk];omega)]
  ·cases j with
   |zero =>
    simp only[List.getElem?_cons_zero,bG]at hj;subst hj;refine⟨?_,λmm hm=>?_,λhm=>by simp at hm⟩
    ·rw[show i+0+1=i+1 from rfl,k3 _ (by show ¬ (b=b/\i+1+1<=i+1/\_);omega) (by show ¬ (b=a/\_);omega),ah rfl]
    ·simp only[List.getElem?_cons_succ,List.getElem?_cons_zero,bG]at hm;subst hm;obtain⟨u1,u2⟩:=k2 ⟨m0,1⟩ (.inr (.inl rfl));obtain⟨u3,u4⟩:=k2 ⟨m1,0⟩ (.inr (.inr rfl));rw[ah rfl]at u2;rw[aa hne,ah rfl]at u4;exact⟨u1,u3,u2,u4⟩
   |succ j =>
    simp only[List.getElem?_cons_succ]at hj;rw[show i+(j+1)+1=i+1+j+1 from by omega];obtain⟨v1,v2,v3⟩:=k4 j mj hj;refine⟨v1,λmm hm=>v2 mm ?_,λhm=>v3 ?_⟩
    ·simpa using hm
    ·simpa using hm
theorem HO {a alt:Nat}{x:Up}(p:aq):p∈c_ a alt x↔p.aD=a/\2<=p.aT/\p.aT<x.to.length/\p.aT≠alt+2:=by
 unfold c_;simp only[dH,bu,Uq,ne_eq,aq.eq_mk];omega
theorem pE.QC {n:aI}{a b alt:Nat}{x y:Up}{cc:List UInt8×Nat}(h:pE n a b x y)(kx:x.ao=9)(ky:y.ao=8)(hcc:x.aY[alt]?=some cc)(hc:cc.2+1=y.to.length)
  (hu:n.used+cc.2+(c_ a alt x).length<=n.aV) {m:aI} (hm:m=(n.pick a b alt x cc.2).UT a b) :
  (cc.2=0/\∃σ,Fin n m a b [((⟨a,alt+2⟩:aq),(⟨a,1⟩:aq))] σ) \/
  (∃(σ:aq->aq) (ms:List Nat),Fin n m a b [] σ/\ms.length=cc.2/\ms≠[]/\(∀m0,ms[0]?=some m0->σ ⟨a,alt+2⟩=⟨m0,0⟩) /\
   ∀(j m0:Nat),ms[j]?=some m0->KJ m m0 (gN x.Us).d_/\σ ⟨b,j+1⟩=⟨m0,2⟩/\(∀m1,ms[j+1]?=some m1->m.pr ⟨m1,0⟩=⟨m0,1⟩)/\(ms[j+1]?=none->σ ⟨a,1⟩=⟨m0,1⟩)):=by
 subst hm;have ha:=h.ha;have hb:=h.hb;have hne:=h.ne;obtain⟨x1,x2,x3⟩:=h.ok.aD _ _ h.hx;obtain⟨y1,y2,y3⟩:=h.ok.aD _ _ h.hy;have halt:alt<x.aY.length:=(gE hcc).1;have hxp:x.to.length=2+x.aY.length:=by rw[x2];unfold Up.bO;rw[aa (by omega),ah kx]
 have hlev:x.Us<=60:=by
  simp only[Up.ok,ab,Uq]at x1;have:=x1.1.1.1.2;split at this<;>omega
 obtain⟨d1,d2⟩:=mP hlev;have e1:(gN x.Us).ok=true:=by simp[gN,Up.ok,Up.fP,hlev]
 have e2:(gN x.Us).bO=3:=rfl;have L1:=vD (x:=gN x.Us) (by show 2<=3;omega) e1 (λe=>by cases e) (by omega) cc.2 h.ok.sk (by omega);have t1:=h.QW.cI L1 (λ_ _=>rfl);obtain⟨g1,g2,g3,g4,g5⟩:=h.st.cI (x:=gN x.Us) (k:=cc.2) (by show 2<=3;omega) e1 (λe=>by cases e) (by omega) (by omega);rw[e2]at g1;have gc:=g1.aV;unfold aI.pick aI.vK aI.kq aI.qB aI.mQ aI.Wm;have hA:n.Wt x cc.2=(n.cI (gN x.Us) cc.2).2:=rfl;rw[hA];generalize hA:(n.cI (gN x.Us) cc.2).2=A at *;generalize (n.cI (gN x.Us) cc.2).1=m1 at *;obtain⟨h1,h2,h3,h4,h5⟩:=g1.cI (x:=ch x.Us) (k:=(c_ a alt x).length) (by show 2<=7;omega) d1 (λe=>by cases e) (by omega) (by omega);have L2:=vD (x:=ch x.Us) (by show 2<=7;omega) d1 (λe=>by cases e) (by omega) (c_ a alt x).length g1.sk (by omega);have t2:=t1.cI L2 (λ_ _=>rfl);rw[d2]at h1;generalize hC:(m1.cI (ch x.Us) (c_ a alt x).length).2=C at *;generalize (m1.cI (ch x.Us) (c_ a alt x).length).1=m at *;have fa:a∉A:=g3 ⟨a,0⟩ (h.pa (by omega));have fb:b∉A:=g3 ⟨b,0⟩ (h.pb (by omega));have fa':a∉C:=h3 ⟨a,0⟩ (.inl (h.pa (by omega)));have fb':b∉C:=h3 ⟨b,0⟩ (.inl (h.pb (by omega)));have fc:∀c,c∈A->c∉C:=λc hc=>h3 ⟨c,0⟩ (.inr ⟨hc,by show 0<3;omega⟩);have hrest:=HO (a:=a) (alt:=alt) (x:=x);have hnod:(c_ a alt x).Nodup:=(du _ _ _).filter _;have hzl:(c_ a alt x).length=(eD C).length:=by simp[eD,h5]
 have last:∀(m3:aI) (J:List (aq×aq)) (f:aq->aq) (S:aq->Prop) (σ1:aq->aq),lF n a b m3 (λp=>(n.has p\/(p.aD∈A/\p.aT<3))\/(p.aD∈C/\p.aT<1)) (λr=>((r=⟨a,0⟩\/r=⟨b,0⟩)\/r.aD∈C)\/(r.aD=b/\1<=r.aT)\/(r.aD=a/\(r.aT=1\/r.aT=alt+2))) ->
   pR f S m3 (λr=>((r=⟨a,0⟩\/r=⟨b,0⟩)\/r.aD∈C)\/(r.aD=b/\1<=r.aT)\/(r.aD=a/\(r.aT=1\/r.aT=alt+2))) σ1->(∀r,r∈c_ a alt x->S r/\σ1 r=r)->(∀r:aq,r.aD≠a->r.aD≠b->σ1 r=r) ->
   (∀r,S0 n a b r->(∀pq,pq∈J->r≠pq.1/\r≠pq.2)->S r/\∀q,sC n.pr J (n.pr r) q->f r=q)->(∀pq,pq∈J->(pq.1.aD=a\/pq.1.aD=b)/\(pq.2.aD=a\/pq.2.aD=b)) ->
   ∃σ,Fin n ((m3.ft ((c_ a alt x).zip (eD C))).UT a b) a b J σ/\(∀r,r∉c_ a alt x->σ r=σ1 r)/\(∀r,S r->((m3.ft ((c_ a alt x).zip (eD C))).UT a b).pr (σ r)=σ (f r)) /\
    ∀(i:Nat) (z:Up),i≠a->i≠b->(m3.ft ((c_ a alt x).zip (eD C))).ae[i]?=some z->z.ao≠0->((m3.ft ((c_ a alt x).zip (eD C))).UT a b).ae[i]?=some z:=by
  intro m3 J f S σ1 hm3 hT3 hS3 hσ3 hJ1 hJ2;have c1:∀p,p∈c_ a alt x->((n.has p\/(p.aD∈A/\p.aT<3))\/(p.aD∈C/\p.aT<1))/\¬ (((p=⟨a,0⟩\/p=⟨b,0⟩)\/p.aD∈C)\/(p.aD=b/\1<=p.aT)\/(p.aD=a/\(p.aT=1\/p.aT=alt+2))):=λp hp=>by
   rw[hrest]at hp;have ha:=ha p;simp only[aq.eq_mk]
   grind
  have c2:∀q,q∈eD C->((n.has q\/(q.aD∈A/\q.aT<3))\/(q.aD∈C/\q.aT<1))/\(((q=⟨a,0⟩\/q=⟨b,0⟩)\/q.aD∈C)\/(q.aD=b/\1<=q.aT)\/(q.aD=a/\(q.aT=1\/q.aT=alt+2))):=λq hq=>by
   rw[gV]at hq;exact⟨.inr ⟨hq.1,by omega⟩,.inl (.inr hq.1)⟩
  obtain⟨k1,k2⟩:=hm3.nJ (ps:=c_ a alt x) (qs:=eD C) hzl (λp hp=>.inl ((hrest p).1 hp).1) c1 c2 hnod (mR h2);obtain⟨σ,u1,u2,u3⟩:=hT3.ft ((c_ a alt x).zip (eD C)) hm3.lk (λpq hpq=>by
   obtain⟨m1,m2⟩:=eG (show(pq.1,pq.2)∈(c_ a alt x).zip (eD C) from hpq);exact⟨(hm3.has _).2 (c1 _ m1).1,(hm3.has _).2 (c2 _ m2).1,(c1 _ m1).2,(c2 _ m2).2⟩) (by rw[gI (by omega)];exact hnod) (by rw[gJ (by omega)];exact mR h2) (λpq hpq=>by
   obtain⟨m1,m2⟩:=eG (show(pq.1,pq.2)∈(c_ a alt x).zip (eD C) from hpq);exact hS3 _ m1)
  rw[gI (by omega),gJ (by omega)]at u1;rw[gI (by omega)]at u3;obtain⟨f1,f2,f3⟩:=k2.fin h (by omega) (by omega) (λp hp=>by
   have ha:=ha p;have hb:=hb p;have hf:=h3 p;have hf2:=g3 p;have hf3:=fc p.aD;simp only[hrest,gV,aq.eq_mk];clear k1 k2 hm3 h1 g1 hcc hu hA hC u1 u2 u3 hT3 t1 t2 L1 L2 hJ1 hJ2 hS3 hσ3
   grind) u1 hJ1 (λr n1 n2=>by rw[u3 r (by rw[hrest];omega)];exact hσ3 r n1 n2) hJ2
  exact⟨σ,f1,u3,f2,f3⟩
 cases hAA:A with
 |nil =>
  subst hAA;have hc0:cc.2=0:=by simpa using g5.symm
  have s1:S0 n a b ⟨a,alt+2⟩:=⟨h.pa (by omega),by simp,by simp⟩
  have s2:S0 n a b ⟨a,1⟩:=⟨h.pa (by omega),by simp,by simp⟩
  obtain⟨k1,k2⟩:=h1.AI (ps:=[⟨a,alt+2⟩]) (qs:=[⟨a,1⟩]) rfl (by simp) (by simp) (λp hp=>by
   have ha:=ha p;simp only[br,aq.eq_mk]at hp ⊢
   grind) (λp hp=>by
   have ha:=ha p;simp only[br,aq.eq_mk]at hp ⊢
   grind) (by simp) (by simp) (by simp)
  have t3:=t2.join h1.lk s1 s2 (by simp) rfl rfl;obtain⟨σ,f1,_⟩:=last _ [((⟨a,alt+2⟩:aq),(⟨a,1⟩:aq))] _ _ _ (k2.congr (λp hp=>by
   have hb:=hb p;simp only[br,UA,aq.eq_mk]at hp ⊢
   grind)) (t3.congr (λp hp=>by
   have hb:=hb p;have hp':=(h1.has p).1 ((UU.join _ _ _).has.1 hp);simp only[br,UA,aq.eq_mk]at hp' ⊢
   grind)) (λr hr=>by
   rw[hrest]at hr;refine⟨⟨⟨(ha r hr.1).2 hr.2.2.1,?_,?_⟩,?_,?_⟩,rfl⟩<;>simp only[ne_eq,aq.eq_mk]<;>omega) (λ_ _ _=>rfl) (λr hr hj=>by
   have hj:=hj _ (br.2 rfl);refine⟨⟨hr,hj.1,hj.2⟩,λq hq=>?_⟩;exact Gg (Ea (J:=[]) h.QW.cl s1 s2 (by simp) hq)) (by simp)
  exact .inl ⟨hc0,σ,f1⟩
 |cons m0 r =>
  have hm0A:m0∈A:=by rw[hAA];simp
  have p1:((n.has ⟨a,alt+2⟩\/((⟨a,alt+2⟩:aq).aD∈A/\(⟨a,alt+2⟩:aq).aT<3))\/((⟨a,alt+2⟩:aq).aD∈C/\(⟨a,alt+2⟩:aq).aT<1))/\¬ (((((⟨a,alt+2⟩:aq)=⟨a,0⟩\/(⟨a,alt+2⟩:aq)=⟨b,0⟩)\/(⟨a,alt+2⟩:aq).aD∈A))\/(⟨a,alt+2⟩:aq).aD∈C):=by
   have ha:=ha ⟨a,alt+2⟩;simp only[aq.eq_mk]at ha ⊢
   grind
  have p2:((n.has ⟨m0,0⟩\/((⟨m0,0⟩:aq).aD∈A/\(⟨m0,0⟩:aq).aT<3))\/((⟨m0,0⟩:aq).aD∈C/\(⟨m0,0⟩:aq).aT<1))/\(((((⟨m0,0⟩:aq)=⟨a,0⟩\/(⟨m0,0⟩:aq)=⟨b,0⟩)\/(⟨m0,0⟩:aq).aD∈A))\/(⟨m0,0⟩:aq).aD∈C):=by
   exact⟨.inl (.inr ⟨hm0A,by show 0<3;omega⟩),.inl (.inr hm0A)⟩
  obtain⟨k1,k2⟩:=h1.pF (p:=⟨a,alt+2⟩) (q:=⟨m0,0⟩) (.inl rfl) p1 p2;have t3:=t2.move (p:=⟨a,alt+2⟩) (q:=⟨m0,0⟩) h1.lk ((h1.has _).2 p1.1) ((h1.has _).2 p2.1) p1.2 p2.2 ⟨h.pa (by omega),by simp,by simp⟩ rfl;have hlen:(m0::r).length=cc.2:=by rw[<- hAA];exact g5
  have q4:∀p:aq,p.aD∈m0::r->p.aT=1\/p.aT=2->((n.has p\/(p.aD∈A/\p.aT<3))\/(p.aD∈C/\p.aT<1))/\(((((p=⟨a,0⟩\/p=⟨b,0⟩)\/p.aD∈A)\/p.aD∈C)/\p≠⟨m0,0⟩)\/p=⟨a,alt+2⟩):=λp hp hs=>by
   rw[<- hAA]at hp;simp only[ne_eq,aq.eq_mk]
   grind
  have q5:∀p:aq,p.aD∈(m0::r).tail->p.aT=0->((n.has p\/(p.aD∈A/\p.aT<3))\/(p.aD∈C/\p.aT<1))/\(((((p=⟨a,0⟩\/p=⟨b,0⟩)\/p.aD∈A)\/p.aD∈C)/\p≠⟨m0,0⟩)\/p=⟨a,alt+2⟩):=λp hp hs=>by
   have hp':p.aD∈A:=by rw[hAA];exact bA _ hp
   have hpm:p.aD≠m0:=λe=>by
    rw[hAA]at g2;exact(UB.1 g2).1 (by rw[<- e];exact hp)
   simp only[ne_eq,aq.eq_mk]
   grind
  have q6:∀p:aq,p.aD=b->0+1<=p.aT->p.aT<0+1+(m0::r).length->((n.has p\/(p.aD∈A/\p.aT<3))\/(p.aD∈C/\p.aT<1))/\¬ (((((p=⟨a,0⟩\/p=⟨b,0⟩)\/p.aD∈A)\/p.aD∈C)/\p≠⟨m0,0⟩)\/p=⟨a,alt+2⟩):=λp hp hs hs'=>by
   have hb:=hb p;simp only[ne_eq,aq.eq_mk]
   grind
  have q7:∀p:aq,p.aD=a->p.aT=1->((n.has p\/(p.aD∈A/\p.aT<3))\/(p.aD∈C/\p.aT<1))/\¬ (((((p=⟨a,0⟩\/p=⟨b,0⟩)\/p.aD∈A)\/p.aD∈C)/\p≠⟨m0,0⟩)\/p=⟨a,alt+2⟩):=λp hp hs=>by
   have ha:=ha p;simp only[ne_eq,aq.eq_mk]
   grind
  obtain⟨k3,k4⟩:=lF.chain hne (m0::r) 0 (by simp) k2 (by rw[<- hAA];exact g2) (by rw[<- hAA];exact fa) (by rw[<- hAA];exact fb) q4 q5 q6 q7;obtain⟨f',S',σ1,u1,u2,u3,u4⟩:=pR.chain hne (m0::r) 0 (by simp) k2 t3 (by rw[<- hAA];exact g2) (by rw[<- hAA];exact fa) (by rw[<- hAA];exact fb) q4 q5 q6 q7 (λp hp hs hS=>g3 p hS.1 (by rw[hAA];exact hp)) (λp hp hS=>g3 p hS.1 (by rw[hAA];exact bA _ hp)) (λp hp hs hs'=>by
   have hb:=hb p;refine⟨⟨(hb hp).2 (by omega),by simp only[ne_eq,aq.eq_mk];omega,by simp only[ne_eq,aq.eq_mk];omega⟩,?_⟩;rw[aa (by simp only[aq.eq_mk];omega)];rfl) ⟨⟨h.pa (by omega),by simp,by simp⟩,by rw[aa (by simp)];rfl⟩
  obtain⟨σ,f1,f2,f3,f4⟩:=last _ [] f' S' σ1 (k4.congr (λp hp=>by
   have ha:=ha p;have hb:=hb p;have hf:=h3 p;have hf2:=g3 p;have hf3:=fc p.aD;have hmem:p.aD∈A↔p.aD=m0\/p.aD∈r:=by rw[hAA];exact aA
   simp only[ne_eq,aq.eq_mk,dk,aA];rw[hlen];clear k1 k2 k3 k4 h1 g1 hcc hu hA hC last u1 u2 u3 u4 t1 t2 t3 L1 L2 q4 q5 q6 q7
   grind)) (u1.congr (λp hp=>by
   have hp:=(k4.has p).1 hp;have ha:=ha p;have hb:=hb p;have hf:=h3 p;have hf2:=g3 p;have hf3:=fc p.aD;have hmem:p.aD∈A↔p.aD=m0\/p.aD∈r:=by rw[hAA];exact aA
   simp only[ne_eq,aq.eq_mk,dk,aA];rw[hlen];clear k1 k2 k3 k4 h1 g1 hcc hu hA hC last u1 u2 u3 u4 t1 t2 t3 L1 L2 q4 q5 q6 q7
   grind)) (λq hq=>by
   rw[hrest]at hq;have s0:S0 n a b q:=⟨(ha q hq.1).2 hq.2.2.1,by simp only[ne_eq,aq.eq_mk];omega,by simp only[ne_eq,aq.eq_mk];omega⟩
   refine⟨(u2 q s0).1,?_⟩;rw[u3 q (by omega) (by omega),aa (by simp only[aq.eq_mk];omega)];rfl) (λq n1 n2=>by
   rw[u3 q (by omega) (by omega),aa (by simp only[aq.eq_mk];omega)];rfl) (λq hq _=>⟨(u2 q hq).1,λq' hq'=>(u2 q hq).2.trans (Gg hq')⟩) (by simp)
  have hnew:∀mj,mj∈A->∀k,σ ⟨mj,k⟩=⟨mj,k⟩:=λmj hj k=>f1.ext _ (λe=>fa (by rw[<- show mj=a from e];exact hj)) (λe=>fb (by rw[<- show mj=b from e];exact hj));refine .inr ⟨σ,m0::r,f1,hlen,by simp,λmm hm=>?_,λj mj hj=>?_⟩
  ·simp only[List.getElem?_cons_zero,bG]at hm;subst hm;rw[f2 _ (by rw[hrest];show ¬ (a=a/\2<=alt+2/\alt+2<_/\alt+2≠alt+2);omega),u3 _ (by show ¬ (a=b/\_);omega) (by show ¬ (a=a/\alt+2=1);omega),ah rfl]
  ·obtain⟨v1,v2,v3⟩:=u4 j mj hj;have hjA:mj∈A:=by rw[hAA];exact aE hj
   refine⟨?_,?_,λmk hk=>?_,λhk=>?_⟩
   ·have n1:KJ m1 mj (gN x.Us).d_:=⟨_,L1.new mj hjA,rfl⟩
    have n2:=n1.bq (m':=m) (by show(3:Nat)≠0;omega) L2.bq;exact(((n2.bare (UU.move _ _ _)).bare (UU.chain _ _ _)).bare (UU.ft _ _)).fin (by show(3:Nat)≠0;omega) (λe=>fa (by rw[<- e];exact hjA)) (λe=>fb (by rw[<- e];exact hjA)) f4
   ·rw[f2 _ (by rw[hrest];show ¬ (b=a/\_);omega)];rw[aG]at v1;exact v1
   ·obtain⟨w1,w2,w3,w4⟩:=v2 mk hk;have hkA:mk∈A:=by rw[hAA];exact aE hk
    have:=f3 _ w2;rw[w4,hnew mj hjA,hnew mk hkA]at this;exact this
   ·rw[f2 _ (by rw[hrest];show ¬ (a=a/\2<=1/\_);omega)];exact v3 hk
def PP (n m:aI)(J:List (aq×aq))(σ:aq->aq)(K:Bd->Bd->Prop)(Γ:Bd)(q:aq)(C:Cx)(t:T):Prop:=∀Γ',K Γ Γ'->∃q',sC n.pr J q q'/\At m.gr Γ' (σ q') C t
def SS (n m:aI)(J:List (aq×aq))(σ:aq->aq)(K:Bd->Bd->Prop)(a b:Nat)(SA SB:Bd->Cx->T->Prop)(Γ:Bd)(q:aq)(C:Cx)(t:T):Prop :=
 (q=⟨a,0⟩->SA Γ C t)/\(q=⟨b,0⟩->SB Γ C t)/\(q≠⟨a,0⟩->q≠⟨b,0⟩->PP n m J σ K Γ q C t)
theorem tW.ao {g:Gr}{S:Bd->aq->Cx->T->Prop}{Γ:Bd}{m:Nat}{x:Up}{k:Nat}{C:Cx}{t:T}(h:tW g S Γ m x k C t):x.ao≠0:=by
 cases h with
 |Em a _=>have:=a.aT;omega
 |out a _=>have:=a.aT;omega
 |_=>omega
theorem Fin.step {n m:aI}{a b:Nat}{x y:Up}{J:List (aq×aq)}{σ:aq->aq}{K:Bd->Bd->Prop}{SA SB:Bd->Cx->T->Prop}(hF:Fin n m a b J σ)(h2:pE n a b x y)
  (hK:∀Γ Γ' i C u,i≠a->i≠b->K Γ Γ'->K (Γ.add i C u) (Γ'.add i C u)) (hV:∀Γ Γ' i C v,i≠a->i≠b->K Γ Γ'->Γ i C v->Γ' i C v)
  (hA:∀Γ k C t,tW n.gr (SS n m J σ K a b SA SB) Γ a x k C t->(k=0->SA Γ C t)/\(k≠0->PP n m J σ K Γ ⟨a,k⟩ C t))
  (hB:∀Γ k C t,tW n.gr (SS n m J σ K a b SA SB) Γ b y k C t->(k=0->SB Γ C t)/\(k≠0->PP n m J σ K Γ ⟨b,k⟩ C t))
  {Γ:Bd} {q:aq} {C:Cx} {t:T} (h:At n.gr Γ q C t):SS n m J σ K a b SA SB Γ q C t:=by
 refine At.ind (S:=SS n m J σ K a b SA SB) (λΓ q z C t hz hl=>?_) h;have hl:=hl.mono (λ_ _ _ _ h=>h.2);obtain⟨i,k⟩:=q;dsimp only at hz hl;have hz':n.ae[i]?=some z:=hz;by_cases ea:i=a
 ·subst ea;rw[h2.hx]at hz';cases hz';obtain⟨r1,r2⟩:=hA Γ k C t hl;refine⟨λe=>r1 (by cases e;rfl),λe=>?_,λe1 e2=>r2 (λe=>e1 (by rw[e]))⟩;cases e;exact absurd rfl h2.ne
 ·by_cases eb:i=b
  ·subst eb;rw[h2.hy]at hz';cases hz';obtain⟨r1,r2⟩:=hB Γ k C t hl;refine⟨λe=>?_,λe=>r1 (by cases e;rfl),λe1 e2=>r2 (λe=>e2 (by rw[e]))⟩;cases e;exact absurd rfl h2.ne
  ·refine⟨λe=>absurd (by cases e;rfl) ea,λe=>absurd (by cases e;rfl) eb,λ_ _ Γ' hΓ=>?_⟩;obtain⟨z',hz1,hz2⟩:=hF.bq i z ea eb hz' hl.ao;have hJ:∀k,∀pq,pq∈J->(⟨i,k⟩:aq)≠pq.1/\(⟨i,k⟩:aq)≠pq.2:=λk pq hpq=>by
    obtain⟨o1,o2⟩:=hF.on pq hpq;refine⟨λe=>?_,λe=>?_⟩
    ·rw[<- e]at o1;exact o1.elim ea eb
    ·rw[<- e]at o2;exact o2.elim ea eb
   refine⟨⟨i,k⟩,.aK (hJ k),?_⟩;rw[hF.ext ⟨i,k⟩ ea eb];refine At.mk' (x:=z') hz1 ?_;refine tW.ext (K:=K) (S:=SS n m J σ K a b SA SB) hz2 (h2.ok.aD i z hz').2.1 (λΓ Γ' C u=>hK Γ Γ' i C u ea eb) (λΓ Γ' C v=>hV Γ Γ' i C v ea eb) (λj hj Γ1 Γ1' C1 t1 hk1 hs=>?_) hl hΓ;have hhas:n.has ⟨i,j⟩:=⟨z,hz',hj⟩
   have hlk:=h2.ok.lk ⟨i,j⟩ hhas id;have n1:n.pr ⟨i,j⟩≠⟨a,0⟩:=λe=>by
    have:=hlk.2.2.1;rw[e,h2.pr]at this;cases this;exact eb rfl
   have n2:n.pr ⟨i,j⟩≠⟨b,0⟩:=λe=>by
    have:=hlk.2.2.1;rw[e,h2.back]at this;cases this;exact ea rfl
   obtain⟨q',t1,t2⟩:=hs.2.2 n1 n2 Γ1' hk1;have:=hF.pr ⟨i,j⟩ ⟨hhas,λe=>by cases e;exact ea rfl,λe=>by cases e;exact eb rfl⟩ (hJ j) q' t1;rw[hF.ext ⟨i,j⟩ ea eb]at this
   show At m.gr Γ1' (m.pr ⟨i,j⟩) C1 _
   rw[this];exact t2
def sD:Bd:=λ_ _ _=>False
theorem Fin.root {n m:aI}{a b:Nat}{x y:Up}{J:List (aq×aq)}{σ:aq->aq}{K:Bd->Bd->Prop}{SA SB:Bd->Cx->T->Prop}(hF:Fin n m a b J σ)(h2:pE n a b x y)(kx:2<=x.ao)(ky:2<=y.ao)
  (hK0:K sD sD) (hs:∀{q:aq} {C:Cx} {t:T},At n.gr sD q C t->SS n m J σ K a b SA SB sD q C t) {t:T} (h:At n.gr sD (n.pr ⟨0,0⟩) [] t):At m.gr sD (m.pr ⟨0,0⟩) [] t:=by
 have ha0:0≠a:=λe=>by have:=(h2.ok.aD _ _ h2.hx).2.2.2 e.symm;omega
 have hb0:0≠b:=λe=>by have:=(h2.ok.aD _ _ h2.hy).2.2.2 e.symm;omega
 obtain⟨z,hz,hk⟩:=h2.ok.sk.root;have hhas:n.has ⟨0,0⟩:=⟨z,hz,by rw[h2.ok.Vg hz hk (by omega) (by omega)];decide⟩
 have hlk:=h2.ok.lk ⟨0,0⟩ hhas id;have n1:n.pr ⟨0,0⟩≠⟨a,0⟩:=λe=>by
  have:=hlk.2.2.1;rw[e,h2.pr]at this;cases this;exact hb0 rfl
 have n2:n.pr ⟨0,0⟩≠⟨b,0⟩:=λe=>by
  have:=hlk.2.2.1;rw[e,h2.back]at this;cases this;exact ha0 rfl
 obtain⟨q',t1,t2⟩:=(hs h).2.2 n1 n2 sD hK0;have hJ:∀pq,pq∈J->(⟨0,0⟩:aq)≠pq.1/\(⟨0,0⟩:aq)≠pq.2:=λpq hpq=>by
  obtain⟨o1,o2⟩:=hF.on pq hpq;refine⟨λe=>?_,λe=>?_⟩
  ·rw[<- e]at o1;exact o1.elim ha0 hb0
  ·rw[<- e]at o2;exact o2.elim ha0 hb0
 have:=hF.pr ⟨0,0⟩ ⟨hhas,λe=>by cases e;exact ha0 rfl,λe=>by cases e;exact hb0 rfl⟩ hJ q' t1;rw[hF.ext ⟨0,0⟩ ha0 hb0]at this;rw[this];exact t2
theorem pE.off {n:aI}{a b:Nat}{x y:Up}(h:pE n a b x y){k:Nat}(hk:k<x.to.length)(h0:k≠0):n.pr ⟨a,k⟩≠⟨a,0⟩/\n.pr ⟨a,k⟩≠⟨b,0⟩:=by
 have hlk:=h.ok.lk ⟨a,k⟩ (h.pa hk) id;refine⟨λe=>?_,λe=>?_⟩
 ·have:=hlk.2.2.1;rw[e,h.pr]at this;cases this;exact h0 rfl
 ·have:=hlk.2.2.1;rw[e,h.back]at this;cases this;exact h0 rfl
theorem pE.Gy {n:aI}{a b:Nat}{x y:Up}(h:pE n a b x y){k:Nat}(hk:x.ao=k)(h8:k≠8)(h9:k≠9):x.to.length=eL k:=h.ok.Vg h.hx hk h8 h9
def K1 (a b:Nat)(Γ Γ':Bd):Prop:=(∀i C v,i≠a->i≠b->Γ i C v->Γ' i C v)/\∀C v,¬ Γ b C v
theorem K1.add {a b:Nat}:∀Γ Γ' i C u,i≠a->i≠b->K1 a b Γ Γ'->K1 a b (Γ.add i C u) (Γ'.add i C u) :=
 λΓ Γ' i C u n1 n2 h=>⟨λi' C' v a1 a2 hv=>hv.elim (λe=>.inl (h.1 _ _ _ a1 a2 e)) .inr,λC' v hv=>hv.elim (h.2 _ _) (λe=>n2 e.1.symm)⟩
theorem K1.var {a b:Nat}:∀Γ Γ' i C v,i≠a->i≠b->K1 a b Γ Γ'->Γ i C v->Γ' i C v:=λΓ Γ' i C v n1 n2 h hv=>h.1 _ _ _ n1 n2 hv
theorem K1.sD {a b:Nat}:K1 a b sD sD:=⟨λ_ _ _ _ _ h=>h,λ_ _ h=>h⟩
theorem wC {k v j:Nat}{D C:Cx}(h:Cc k v j D C)(hk:fY k≠3):False:=by
 have:=h.aT.2.2;rcases this with rfl|rfl|rfl<;>exact hk (by decide)
theorem pE.QO {n:aI}{a b:Nat}{x y:Up}(h:pE n a b x y)(kx:x.ao=3)(ky:y.ao=2){m:aI}(hm:m=(n.Vq ((UQ a 1 (x.to.length-1)).zip (UQ b 1 (x.to.length-1)))).UT a b)
  {t:T} (ht:At n.gr sD (n.pr ⟨0,0⟩) [] t):At m.gr sD (m.pr ⟨0,0⟩) [] t:=by
 have lx:=h.Gy kx (by omega) (by omega);have ly:=h.swap.Gy ky (by omega) (by omega);have lx3:x.to.length=3:=lx;have ly3:y.to.length=3:=ly;have hF:=h.Mp (by omega) (by omega) (lx.trans ly.symm);rw[<- hm]at hF;have eJ:(UQ a 1 (x.to.length-1)).zip (UQ b 1 (x.to.length-1))=[((⟨a,1⟩:aq),(⟨b,1⟩:aq)),(⟨a,2⟩,⟨b,2⟩)]:=by rw[lx3];rfl
 rw[eJ]at hF;clear eJ hm
 let J:List (aq×aq):=[(⟨a,1⟩,⟨b,1⟩),(⟨a,2⟩,⟨b,2⟩)]
 let K:Bd->Bd->Prop:=λΓ Γ'=>(∀i C v,i≠a->i≠b->Γ i C v->Γ' i C v)/\∀C v,Γ b C v->∀s,∃q',sC n.pr J (n.pr ⟨a,2⟩) q'/\At m.gr Γ' q' (C++[s]) v
 let SB:Bd->Cx->T->Prop:=λΓ C t=>∃bd r,qG t (.jJ (.lam bd) r)/\∀u,PP n m J id K (Γ.add b C u) (n.pr ⟨b,1⟩) C (.jJ bd (u::r))
 refine hF.root (K:=K) (SA:=λ_ _ _=>True) (SB:=SB) h (by omega) (by omega) ⟨λ_ _ _ _ _ e=>e,λ_ _ e=>e.elim⟩ (λhq=>hF.step h ?_ ?_ ?_ ?_ hq) ht
 ·intro Γ Γ' i C u n1 n2 hk;refine⟨λi' C' v a1 a2 hv=>hv.elim (λe=>.inl (hk.1 _ _ _ a1 a2 e)) .inr,λC' v hv s=>?_⟩;rcases hv with hv|hv
  ·obtain⟨q',h1,h2⟩:=hk.2 C' v hv s;exact⟨q',h1,h2.RH (λ_ _ _ e=>.inl e)⟩
  ·exact absurd hv.1.symm n2
 ·intro Γ Γ' i C v n1 n2 hk hv;exact hk.1 _ _ _ n1 n2 hv
 ·intro Γ k C t hl;refine⟨λ_=>trivial,λhk=>?_⟩;cases hl with
  |app c1 c2 c3 c4 c5 =>
   rw[show n.gr.pr ⟨a,0⟩=⟨b,0⟩ from h.pr]at c4;obtain⟨bd,r,d1,d2⟩:=c4.2.1 rfl;intro Γ' hΓ;obtain⟨o1,o2⟩:=h.off (k:=2) (by omega) (by omega);have hk2:K (Γ.add b _ _) Γ':=⟨λi C' v a1 a2 hv=>hv.elim (λe=>hΓ.1 _ _ _ a1 a2 e) (λe=>absurd e.1 a2),λC' v hv s=>by
    rcases hv with hv|⟨_,rfl,rfl⟩
    ·exact hΓ.2 C' v hv s
    ·exact(c5 s).2.2 o1 o2 Γ' hΓ⟩
   obtain⟨q',e1,e2⟩:=d2 _ Γ' hk2;refine⟨q',.lr (p:=⟨a,1⟩) (q:=⟨b,1⟩) (by simp) e1,e2.back ?_⟩;exact c3.trans (d1.app.trans (.one (A_ rfl)))
  |Em c1 _=>exact(wC c1 (by rw[kx];decide)).elim
  |out c1 _=>exact(wC c1 (by rw[kx];decide)).elim
  |_=>omega
 ·intro Γ k C t hl;cases hl with
  |lam c1 c2 c3 c4 =>
   refine⟨λ_=>⟨_,_,c3,λu=>?_⟩,λhk=>absurd rfl hk⟩;obtain⟨o1,o2⟩:=h.swap.off (k:=1) (by omega) (by omega);exact(c4 u).2.2 o2 o1
  |var c1 c2 c3 c4 =>
   refine⟨λhk=>absurd hk (by omega),λ_ Γ' hΓ=>?_⟩;obtain⟨q',e1,e2⟩:=hΓ.2 _ _ c3 _;exact⟨q',.rl (p:=⟨a,2⟩) (q:=⟨b,2⟩) (by simp) e1,e2.back c4⟩
  |Em c1 _=>exact(wC c1 (by rw[ky];decide)).elim
  |out c1 _=>exact(wC c1 (by rw[ky];decide)).elim
  |_=>omega
theorem pE.QP {n:aI}{a b:Nat}{x y:Up}(h:pE n a b x y)(kx:fY x.ao=3)(ky:x.ao=y.ao)(kl:x.Us=y.Us){m:aI}(hm:m=(n.Vq ((UQ a 1 (x.to.length-1)).zip (UQ b 1 (x.to.length-1)))).UT a b)
  {t:T} (ht:At n.gr sD (n.pr ⟨0,0⟩) [] t):At m.gr sD (m.pr ⟨0,0⟩) [] t:=by
 have k3:=FJ kx;have lx:=h.Gy rfl (by omega) (by omega);have ly:=h.swap.Gy rfl (by omega) (by omega);have hF:=h.Mp (by omega) (by omega) (by rw[lx,ly,ky]);rw[<- hm]at hF;clear hm;have hJ:∀k,1<=k->k<x.to.length->((⟨a,k⟩:aq),(⟨b,k⟩:aq))∈(UQ a 1 (x.to.length-1)).zip (UQ b 1 (x.to.length-1)):=λk h1 h2=>by
  refine aE (i:=k-1) ?_;unfold UQ;rw[List.getElem?_zip_eq_some];simp[List.getElem?_range' (show k-1<x.to.length-1 from by omega)];omega
 generalize (UQ a 1 (x.to.length-1)).zip (UQ b 1 (x.to.length-1))=J at *
 let SA:Bd->Cx->T->Prop:=λΓ C t=>∃k D,Cc x.ao x.Us k D C/\PP n m J id (K1 a b) Γ (n.pr ⟨a,k⟩) D t
 let SB:Bd->Cx->T->Prop:=λΓ C t=>∃k D,Cc x.ao x.Us k D C/\PP n m J id (K1 a b) Γ (n.pr ⟨b,k⟩) D t
 refine hF.root (K:=K1 a b) (SA:=SA) (SB:=SB) h (by omega) (by omega) K1.sD (λhq=>hF.step h K1.add K1.var ?_ ?_ hq) ht
 ·intro Γ k C t hl;cases hl with
  |Em c1 c2 =>
   refine⟨λhk=>by have:=c1.aT;omega,λ_ Γ' hΓ=>?_⟩;rw[show n.gr.pr ⟨a,0⟩=⟨b,0⟩ from h.pr]at c2;obtain⟨k',D,d1,d2⟩:=c2.2.1 rfl;obtain⟨rfl,rfl⟩:=c1.inj d1;obtain⟨q',e1,e2⟩:=d2 Γ' hΓ;have hs:=c1.aT;exact⟨q',.lr (hJ _ hs.1 (by omega)) e1,e2⟩
  |out c1 c2 =>
   have hs:=c1.aT;obtain⟨o1,o2⟩:=h.off (k:=_) (show _<x.to.length by rw[lx];exact hs.2.1) (by omega);exact⟨λ_=>⟨_,_,c1,c2.2.2 o1 o2⟩,λhk=>absurd rfl hk⟩
  |_=>omega
 ·intro Γ k C t hl;cases hl with
  |Em c1 c2 =>
   rw[<- ky,<- kl]at c1;refine⟨λhk=>by have:=c1.aT;omega,λ_ Γ' hΓ=>?_⟩;rw[show n.gr.pr ⟨b,0⟩=⟨a,0⟩ from h.back]at c2;obtain⟨k',D,d1,d2⟩:=c2.1 rfl;obtain⟨rfl,rfl⟩:=c1.inj d1;obtain⟨q',e1,e2⟩:=d2 Γ' hΓ;have hs:=c1.aT;exact⟨q',.rl (hJ _ hs.1 (by omega)) e1,e2⟩
  |out c1 c2 =>
   have hs:=c1.aT;obtain⟨o1,o2⟩:=h.swap.off (k:=_) (show _<y.to.length by rw[ly];exact hs.2.1) (by omega);rw[<- ky,<- kl]at c1;exact⟨λ_=>⟨_,_,c1,c2.2.2 o2 o1⟩,λhk=>absurd rfl hk⟩
  |_=>omega
theorem At.put {n m:aI}{J:List (aq×aq)}{σ:aq->aq}{a b:Nat}(hF:Fin n m a b J σ){Γ:Bd}{q p:aq}{C:Cx}{t:T}{q':aq}(hS:S0 n a b p)(hj:∀pq,pq∈J->p≠pq.1/\p≠pq.2)(hp:n.pr p=q)(h1:sC n.pr J q q')(h2:At m.gr Γ (σ q') C t):At m.gr Γ (m.gr.pr (σ p)) C t:=by
 show At m.gr Γ (m.pr (σ p)) C t
 rw[hF.pr p hS hj q' (by rw[hp];exact h1)];exact h2
theorem A9 {m:aI}{c:Nat}{x:Up}(h:KJ m c x):∃z,m.gr.nd c=some z/\z.ao=x.ao/\z.Us=x.Us/\z.aY=x.aY/\z.n=x.n/\z.name=x.name/\z.to.length=x.to.length:=by
 obtain⟨z,h1,h2⟩:=h;obtain⟨b1,b2,b3,b4,b5,b6,b7,b8⟩:=Up.eB h2;exact⟨z,h1,b3,b5,b6,b7,b8,b4⟩
theorem pE.QQ {n:aI}{a b:Nat}{x y:Up}(h:pE n a b x y)(kx:x.ao=11)(ky:y.ao=10)(hok:(gU x y).ok=true)(hu:n.used<n.aV){m:aI}(hm:m=(n.half a b x y).UT a b)
  {t:T} (ht:At n.gr sD (n.pr ⟨0,0⟩) [] t):At m.gr sD (m.pr ⟨0,0⟩) [] t:=by
 have lx:x.to.length=3:=h.Gy kx (by omega) (by omega);have ly:y.to.length=1:=h.swap.Gy ky (by omega) (by omega);obtain⟨σ,c,hF,hn,ca,cb,s1,s2⟩:=h.Qy (by omega) (by omega) lx ly hok hu;rw[<- hm]at hF hn;clear hm;have hn':KJ m c (gU x y).d_:=by
  obtain⟨z,z1,z2⟩:=aP.1 hn;exact⟨z,z1,z2⟩
 obtain⟨z,z1,z2,z3,z4,z5,z6,z7⟩:=A9 hn'
 let SB:Bd->Cx->T->Prop:=λΓ C t=>qG t (.int y.n)
 refine hF.root (K:=K1 a b) (SA:=λ_ _ _=>True) (SB:=SB) h (by omega) (by omega) K1.sD (λhq=>hF.step h K1.add K1.var ?_ ?_ hq) ht
 ·intro Γ k C t hl;refine⟨λ_=>trivial,λhk=>?_⟩;cases hl with
  |op c1 c2 c3 c4 c5 =>
   rw[show n.gr.pr ⟨a,0⟩=⟨b,0⟩ from h.pr]at c4;have d1:=c4.2.1 rfl;intro Γ' hΓ;obtain⟨o1,o2⟩:=h.off (k:=2) (by omega) (by omega);obtain⟨q',e1,e2⟩:=c5.2.2 o1 o2 Γ' hΓ;refine⟨⟨a,1⟩,.aK (by simp),?_⟩;rw[s1];have d2:=c3.trans (qG.Q8 d1);rw[show x.name=z.name from z6.symm,show y.n=z.n from z5.symm]at d2;refine At.mk' z1 (.half z2 (z3.trans c2) d2 ?_)
   ·rw[<- s2];exact At.put hF ⟨h.pa (by omega),by simp,by simp⟩ (by simp) rfl e1 e2
  |Em c1 _=>exact(wC c1 (by rw[kx];decide)).elim
  |out c1 _=>exact(wC c1 (by rw[kx];decide)).elim
  |_=>omega
 ·intro Γ k C t hl;cases hl with
  |int c1 c2 c3=>exact⟨λ_=>c3,λhk=>absurd rfl hk⟩
  |Em c1 _=>exact(wC c1 (by rw[ky];decide)).elim
  |out c1 _=>exact(wC c1 (by rw[ky];decide)).elim
  |_=>omega
theorem Qi {x y z:Up}(h:Vf x y=some z):(∃v,z=fg v/\Ki x.name x.n y.n=.int v)\/∃b,z=qy b/\Ki x.name x.n y.n=Cb b:=by
 unfold Vf at h;unfold Ki;split at h
 ·rename_i c;rw[ah c];cases h;exact .inl ⟨_,rfl,rfl⟩
 ·rename_i c;rw[aa c];split at h
  ·rename_i c;rw[ah c];cases h;exact .inl ⟨_,rfl,rfl⟩
  ·rename_i c;rw[aa c];split at h
   ·rename_i c;rw[ah c];cases h;exact .inl ⟨_,rfl,rfl⟩
   ·rename_i c;rw[aa c];split at h
    ·rename_i c;rw[ah c];split at h
     ·cases h
     ·rename_i c;rw[aa c];cases h;exact .inl ⟨_,rfl,rfl⟩
    ·rename_i c;rw[aa c];split at h
     ·rename_i c;rw[ah c];cases h;exact .inr ⟨_,rfl,rfl⟩
     ·rename_i c;rw[aa c];split at h
      ·rename_i c;rw[ah c];cases h;exact .inr ⟨_,rfl,rfl⟩
      ·rename_i c;rw[aa c];cases h;exact .inl ⟨_,rfl,rfl⟩
theorem QD {x y:Up}(h:Vf x y=none):Ki x.name x.n y.n=.fail:=by
 unfold Vf at h;unfold Ki;split at h
 ·cases h
 ·rename_i c;rw[aa c];split at h
  ·cases h
  ·rename_i c;rw[aa c];split at h
   ·cases h
   ·rename_i c;rw[aa c];split at h
    ·rename_i c;rw[ah c];split at h
     ·rename_i c;rw[ah c]
     ·cases h
    ·split at h
     ·cases h
     ·split at h<;>cases h
theorem pE.Q_ {n:aI}{a b:Nat}{x y z:Up}(h:pE n a b x y)(kx:x.ao=12)(ky:y.ao=10)(hz:Vf x y=some z)(hl:x.Us<=60)(hu:n.used<n.aV){m:aI}(hm:m=(n.out a { z with Us:=x.Us }).UT a b)
  {t:T} (ht:At n.gr sD (n.pr ⟨0,0⟩) [] t):At m.gr sD (m.pr ⟨0,0⟩) [] t:=by
 have lx:x.to.length=2:=h.Gy kx (by omega) (by omega);have ly:y.to.length=1:=h.swap.Gy ky (by omega) (by omega);obtain⟨q1,q2,q3,q4⟩:=BU hz;obtain⟨σ,c,hF,hn,s1⟩:=h.QN (z:={ z with Us:=x.Us }) (by omega) (by omega) lx ly q1 (Up.AJ q2 q1 hl) q3 q4 hu;rw[<- hm]at hF hn;clear hm;obtain⟨w,z1,z2,z3,z4,z5,z6,z7⟩:=A9 hn
 let SB:Bd->Cx->T->Prop:=λΓ C t=>qG t (.int y.n)
 refine hF.root (K:=K1 a b) (SA:=λ_ _ _=>True) (SB:=SB) h (by omega) (by omega) K1.sD (λhq=>hF.step h K1.add K1.var ?_ ?_ hq) ht
 ·intro Γ k C t hl;refine⟨λ_=>trivial,λhk=>?_⟩;cases hl with
  |half c1 c2 c3 c4 =>
   rw[show n.gr.pr ⟨a,0⟩=⟨b,0⟩ from h.pr]at c4;have d1:=c4.2.1 rfl;intro Γ' hΓ;refine⟨⟨a,1⟩,.aK (by simp),?_⟩;rw[s1];have d2:qG t (Ki x.name x.n y.n):=c3.trans ((qG.RG d1).trans (.one (Kj rfl)));rcases Qi hz with ⟨v,rfl,e⟩|⟨v,rfl,e⟩
   ·rw[e]at d2;refine At.mk' z1 (.int z2 (z3.trans c2) ?_);rw[z5];exact d2
   ·rw[e]at d2;refine At.mk' z1 (.UW (l:=[]) z2 (z3.trans c2) ?_ (by rw[z7];rfl) (by simp));rw[z6];exact d2
  |Em c1 _=>exact(wC c1 (by rw[kx];decide)).elim
  |out c1 _=>exact(wC c1 (by rw[kx];decide)).elim
  |_=>omega
 ·intro Γ k C t hl;cases hl with
  |int c1 c2 c3=>exact⟨λ_=>c3,λhk=>absurd rfl hk⟩
  |Em c1 _=>exact(wC c1 (by rw[ky];decide)).elim
  |out c1 _=>exact(wC c1 (by rw[ky];decide)).elim
  |_=>omega
def IA (y:Up)(v:T):Prop:=(y.ao=2/\∃bd r,v=.jJ (.lam bd) r)\/(y.ao=8/\∃l,v=.UW y.name l/\l.length+1=y.to.length)\/(y.ao=10/\v=.int y.n)\/(y.ao=13/\v=.fail)
theorem IA.val {y:Up}{v:T}(h:IA y v):v.val=true:=by
 rcases h with ⟨_,_,_,rfl⟩|⟨_,_,rfl,_⟩|⟨_,rfl⟩|⟨_,rfl⟩<;>rfl
def Kk (x y:Up):Prop:=(x.ao=3->y.ao≠2)/\(x.ao=9->y.ao=8->ng x y=none)/\(x.ao=11->y.ao≠10)/\(x.ao=12->y.ao=10->Vf x y=none)
theorem GG {x y:Up}{k:Nat}(hk:k=y.to.length):Gd x.aY y.name k=ng x y:=by
 subst hk;rfl
theorem tW.told {g:Gr}{S:Bd->aq->Cx->T->Prop}{Γ:Bd}{m:Nat}{y:Up}{C:Cx}{t:T}(h:tW g S Γ m y 0 C t)(hc:fY y.ao=2):∃v,qG t v/\IA y v:=by
 generalize hk:(0:Nat)=k at h;cases h with
 |lam a b c d=>exact⟨_,c,.inl ⟨a,_,_,rfl⟩⟩
 |UW a b c d e=>exact⟨_,c,.inr (.inl ⟨a,_,rfl,d⟩)⟩
 |int a b c=>exact⟨_,c,.inr (.inr (.inl ⟨a,rfl⟩))⟩
 |fail a b c=>exact⟨_,c,.inr (.inr (.inr ⟨a,rfl⟩))⟩
 |Em a _=>exact(wC a (by omega)).elim
 |out a _=>exact(wC a (by omega)).elim
 |_=>omega
theorem pE.QR {n:aI}{a b:Nat}{x y:Up}(h:pE n a b x y)(kx:fY x.ao=1)(ky:fY y.ao=2)(hf:Kk x y)(hlev:x.Us<=60)(hu:n.used+1+(bX a b x y).length<=n.aV){m:aI}(hm:m=(n.fail a b x y).UT a b)
  {t:T} (ht:At n.gr sD (n.pr ⟨0,0⟩) [] t):At m.gr sD (m.pr ⟨0,0⟩) [] t:=by
 have k1:=YW kx;have k2:=WC (k:=y.ao) (by omega);have hl2:2<=x.to.length:=by
  rw[(h.ok.aD _ _ h.hx).2.1];unfold Up.bO;rcases k1 with e|e|e|e<;>rw[e]<;>simp[eL]
 obtain⟨σ,c,hF,hn,s1⟩:=h.QA (by omega) k2 hl2 hlev hu;rw[<- hm]at hF hn;clear hm;obtain⟨w,z1,z2,z3,z4,z5,z6,z7⟩:=A9 hn
 let SB:Bd->Cx->T->Prop:=λΓ C t=>∃v,qG t v/\IA y v
 refine hF.root (K:=K1 a b) (SA:=λ_ _ _=>True) (SB:=SB) h (by omega) k2 K1.sD (λhq=>hF.step h K1.add K1.var ?_ ?_ hq) ht
 ·intro Γ k C t hl;refine⟨λ_=>trivial,λhk=>?_⟩;have fin:∀{Us:Nat},x.Us=C.length->qG t .fail->k=1->PP n m [] σ (K1 a b) Γ ⟨a,k⟩ C t:=fun {Us} e1 e2 e3 Γ' hΓ=>by
   subst e3;refine⟨⟨a,1⟩,.aK (by simp),?_⟩;rw[s1];exact At.mk' z1 (.fail z2 (z3.trans e1) e2)
  obtain⟨f1,f2,f3,f4⟩:=hf;cases hl with
  |app c1 c2 c3 c4 c5 =>
   rw[show n.gr.pr ⟨a,0⟩=⟨b,0⟩ from h.pr]at c4;obtain⟨v,d1,d2⟩:=c4.2.1 rfl;refine fin (Us:=0) c2 (c3.trans (d1.app.trans ?_)) rfl;rcases d2 with ⟨e,_⟩|⟨_,_,rfl,_⟩|⟨_,rfl⟩|⟨_,rfl⟩
   ·exact absurd e (f1 c1)
   ·exact .one (A_ rfl)
   ·exact .one (A_ rfl)
   ·exact .one (A_ rfl)
  |case c1 c2 c3 c4 c5 c6 =>
   rw[show n.gr.pr ⟨a,0⟩=⟨b,0⟩ from h.pr]at c5;obtain⟨v,d1,d2⟩:=c5.2.1 rfl;refine fin (Us:=0) c2 (c3.trans (d1.case.trans ?_)) rfl;rcases d2 with ⟨_,_,_,rfl⟩|⟨e,l',rfl,hl'⟩|⟨_,rfl⟩|⟨_,rfl⟩
   ·exact .one (Gf rfl)
   ·refine .one ((Gf rfl).trans ?_);have:=f2 c1 e;rw[<- GG hl']at this;simp[Ge,this]
   ·exact .one (Gf rfl)
   ·exact .one (Gf rfl)
  |op c1 c2 c3 c4 c5 =>
   rw[show n.gr.pr ⟨a,0⟩=⟨b,0⟩ from h.pr]at c4;obtain⟨v,d1,d2⟩:=c4.2.1 rfl;refine fin (Us:=0) c2 (c3.trans (d1.Q8.trans ?_)) rfl;refine .one (Qv d2.val (λk e=>?_));rcases d2 with ⟨_,_,_,e'⟩|⟨_,_,e',_⟩|⟨e',_⟩|⟨_,e'⟩
   ·rw[e']at e;cases e
   ·rw[e']at e;cases e
   ·exact f3 c1 e'
   ·rw[e']at e;cases e
  |half c1 c2 c3 c4 =>
   rw[show n.gr.pr ⟨a,0⟩=⟨b,0⟩ from h.pr]at c4;obtain⟨v,d1,d2⟩:=c4.2.1 rfl;refine fin (Us:=0) c2 (c3.trans (d1.RG.trans ?_)) rfl;rcases d2 with ⟨_,_,_,rfl⟩|⟨_,_,rfl,_⟩|⟨e',rfl⟩|⟨_,rfl⟩
   ·exact .one (Kj rfl)
   ·exact .one (Kj rfl)
   ·refine .one ((Kj rfl).trans ?_);have:=QD (f4 c1 e');simp[O7,this]
   ·exact .one (Kj rfl)
  |Em c1 _=>exact(wC c1 (by omega)).elim
  |out c1 _=>exact(wC c1 (by omega)).elim
  |_=>omega
 ·intro Γ k C t hl;refine⟨λhk=>by subst hk;exact hl.told ky,λhk Γ' hΓ=>?_⟩;cases hl with
  |var c1 c2 c3 c4=>exact absurd c3 (hΓ.2 _ _)
  |Em c1 _=>exact(wC c1 (by omega)).elim
  |out c1 _=>exact(wC c1 (by omega)).elim
  |app c1=>rw[c1]at ky;exact absurd ky (by decide)
  |case c1=>rw[c1]at ky;exact absurd ky (by decide)
  |op c1=>rw[c1]at ky;exact absurd ky (by decide)
  |half c1=>rw[c1]at ky;exact absurd ky (by decide)
  |_=>exact absurd rfl hk
theorem pE.QS {n:aI}{a b:Nat}{x y:Up}(h:pE n a b x y)(kx:x.ao=7)(ky:2<=y.ao)(hlev:x.Us<=60)(hu:n.used+(y.to.length-1)<=n.aV){m:aI}(hm:m=(n.jA b x.Us y).UT a b)
  {t:T} (ht:At n.gr sD (n.pr ⟨0,0⟩) [] t):At m.gr sD (m.pr ⟨0,0⟩) [] t:=by
 have lx:x.to.length=1:=h.Gy kx (by omega) (by omega);obtain⟨σ,hF⟩:=h.Qz (by omega) ky lx hlev hu;rw[<- hm]at hF;clear hm;refine hF.root (K:=K1 a b) (SA:=λ_ _ _=>False) (SB:=λ_ _ _=>True) h (by omega) ky K1.sD (λhq=>hF.step h K1.add K1.var ?_ ?_ hq) ht
 ·intro Γ k C t hl;cases hl with
  |Em c1 _=>exact(wC c1 (by rw[kx];decide)).elim
  |out c1 _=>exact(wC c1 (by rw[kx];decide)).elim
  |_=>omega
 ·intro Γ k C t hl;refine⟨λ_=>trivial,λhk Γ' hΓ=>?_⟩;have no:∀{C:Cx} {t:T},SS n m [] σ (K1 a b) a b (λ_ _ _=>False) (λ_ _ _=>True) Γ (n.gr.pr ⟨b,0⟩) C t->False:=fun {C t} hs=>by
   rw[show n.gr.pr ⟨b,0⟩=⟨a,0⟩ from h.back]at hs;exact hs.1 rfl
  cases hl with
  |var c1 c2 c3 c4=>exact absurd c3 (hΓ.2 _ _)
  |Em c1 c2=>exact(no c2).elim
  |app c1 c2 c3 c4=>exact(no c4).elim
  |case c1 c2 c3 c4 c5=>exact(no c5).elim
  |op c1 c2 c3 c4=>exact(no c4).elim
  |half c1 c2 c3 c4=>exact(no c4).elim
  |_=>exact absurd rfl hk
theorem P8 {n:aI}(h:n.Ok){i:Nat}{x:Up}(hx:n.ae[i]?=some x){j:Nat}(hj:j<eL x.ao)(h8:x.ao≠8)(h9:x.ao≠9):j<x.to.length:=by
 rw[h.Vg hx rfl h8 h9];exact hj
theorem pE.QT {n:aI}{a b Us:Nat}{x y:Up}(h:pE n a b x y)(kx:fY x.ao=3)(ky:fY y.ao=1\/fY y.ao=2\/fY y.ao=3)(hxy:x.Us<y.Us)(hlev:Us=j7 x y)(hl60:Us<=60)(hu:n.used+(x.to.length-1)+(y.to.length-1)<=n.aV){m:aI}(hm:m=(n.pass a b x y Us).UT a b)
  {t:T} (ht:At n.gr sD (n.pr ⟨0,0⟩) [] t):At m.gr sD (m.pr ⟨0,0⟩) [] t:=by
 have k3:=FJ kx;have ky2:2<=y.ao:=WC (k:=y.ao) (by omega);have lx:x.to.length=eL x.ao:=h.Gy rfl (by omega) (by omega);obtain⟨y1,y2,y3⟩:=h.ok.aD _ _ h.hy;obtain⟨σ,cs,ms,hF,l1,l2,hC,hM⟩:=h.QB (Us:=Us) (by omega) ky2 (Up.AJ y1 ky2 hl60) hu hm;clear hm;have hy1:=h.y1;have hx1:=h.x1;have hcs:∀{k:Nat} {D C:Cx},Cc x.ao x.Us k D C->∃c z,cs[k-1]?=some c/\m.gr.nd c=some z/\z.ao=y.ao/\z.Us=Us/\z.aY=y.aY/\z.n=y.n/\z.name=y.name/\z.to.length=y.to.length/\σ ⟨a,k⟩=⟨c,0⟩/\1<=k/\k<x.to.length:=fun {k D C} hc=>by
  have hs:=hc.aT;have hk:k-1<cs.length:=by omega
  obtain⟨q1,q2,q3⟩:=hC (k-1) cs[k-1] (gG hk);obtain⟨z,z1,z2,z3,z4,z5,z6,z7⟩:=A9 q1;rw[show k-1+1=k from by omega]at q2;exact⟨cs[k-1],z,gG hk,z1,z2,z3,z4,z5,z6,z7,q2,hs.1,by omega⟩
 have hms:∀{j:Nat},1<=j->j<y.to.length->∃m0 z,ms[j-1]?=some m0/\m.gr.nd m0=some z/\z.ao=x.ao/\z.Us=x.Us/\σ ⟨b,j⟩=⟨m0,0⟩/\∀{k c:Nat},1<=k->cs[k-1]?=some c->m.pr ⟨m0,k⟩=⟨c,j⟩/\m.pr ⟨c,j⟩=⟨m0,k⟩:=fun {j} h1 h2=>by
  have hk:j-1<ms.length:=by omega
  obtain⟨q1,q2,q3⟩:=hM (j-1) ms[j-1] (gG hk);obtain⟨z,z1,z2,z3,z4,z5,z6,z7⟩:=A9 q1;rw[show j-1+1=j from by omega]at q2;refine⟨ms[j-1],z,gG hk,z1,z2,z3,q2,fun {k c} h3 h4=>?_⟩;have:=q3 (k-1) c h4;rw[show j-1+1=j from by omega,show k-1+1=k from by omega]at this;exact this
 have hlen:∀{k:Nat} {D C:Cx},Cc x.ao x.Us k D C->y.Us=C.length->Us=D.length:=fun {k D C} hc hy=>by
  have:=hc.len;rw[hlev];unfold j7;rcases this with ⟨e,e2⟩|⟨e,e2⟩|⟨e,e2⟩
  ·rw[aa (by omega),aa (by omega)];omega
  ·rw[ah e];omega
  ·rw[aa (by omega),ah e];omega
 have hcomm:∀{k r:Nat} {D C E:Cx},Cc x.ao x.Us k D C->Cc y.ao y.Us r E C->∃D',Cc x.ao x.Us k D' E/\Cc y.ao Us r D' D:=fun {k r D C E} hc hc'=>by
  refine hc.comm hc' hxy ?_;rw[hlev];unfold j7;rcases k3 with e|e|e
  ·rw[aa (by omega),aa (by omega)];exact .inl ⟨e,rfl⟩
  ·rw[ah e];exact .inr (.inl ⟨e,by omega⟩)
  ·rw[aa (by omega),ah e];exact .inr (.inr ⟨e,rfl⟩)
 let K:Bd->Bd->Prop:=λΓ Γ'=>(∀i C v,i≠a->i≠b->Γ i C v->Γ' i C v)/\∀C v,Γ b C v->∃k D c,Cc x.ao x.Us k D C/\cs[k-1]?=some c/\Γ' c D v
 let SA:Bd->Cx->T->Prop:=λΓ C t=>∃k D,Cc x.ao x.Us k D C/\PP n m [] σ K Γ (n.pr ⟨a,k⟩) D t
 let SB:Bd->Cx->T->Prop:=λΓ C t=>∀k D c,Cc x.ao x.Us k D C->cs[k-1]?=some c->∀Γ',K Γ Γ'->At m.gr Γ' ⟨c,0⟩ D t
 have hgo:∀{j:Nat},1<=j->j<y.to.length->∀{k:Nat} {D C:Cx} {c:Nat} {Γ Γ':Bd} {t:T},Cc x.ao x.Us k D C->cs[k-1]?=some c->K Γ Γ'->PP n m [] σ K Γ (n.pr ⟨b,j⟩) C t->At m.gr Γ' (m.gr.pr ⟨c,j⟩) D t:=fun {j} h1 h2 {k D C c Γ Γ' t} hc hcc hk hp=>by
  obtain⟨m0,z,v1,v2,v3,v4,v5,v6⟩:=hms h1 h2;have hs:=hc.aT;obtain⟨w1,w2⟩:=v6 hs.1 hcc
  show At m.gr Γ' (m.pr ⟨c,j⟩) D t
  rw[w2];refine At.mk' v2 (.Em (C':=C) (by rw[v3,v4];exact hc) ?_);obtain⟨q',e1,e2⟩:=hp Γ' hk;rw[<- v5];exact At.put hF ⟨h.pb h2,by simp only[ne_eq,aq.eq_mk];omega,by simp only[ne_eq,aq.eq_mk];omega⟩ (by simp) rfl e1 e2
 have hup:∀{k:Nat} {D C:Cx} {c:Nat} {Γ Γ':Bd} {t:T},Cc x.ao x.Us k D C->cs[k-1]?=some c->K Γ Γ'->PP n m [] σ K Γ (n.pr ⟨a,k⟩) D t->At m.gr Γ' (m.gr.pr ⟨c,0⟩) D t:=fun {k D C c Γ Γ' t} hc hcc hk hp=>by
  obtain⟨c',z,u1,u2,u3,u4,u5,u6,u7,u8,u9,u10,u11⟩:=hcs hc;rw[hcc]at u1;cases u1;obtain⟨q',e1,e2⟩:=hp Γ' hk;rw[<- u9];exact At.put hF ⟨h.pa u11,by simp only[ne_eq,aq.eq_mk];omega,by simp only[ne_eq,aq.eq_mk];omega⟩ (by simp) rfl e1 e2
 have hin:∀{j:Nat},1<=j->j<y.to.length->∀{k:Nat} {D C:Cx} {c:Nat} {Γ':Bd} {t:T},Cc x.ao x.Us k D C->cs[k-1]?=some c->At m.gr Γ' ⟨c,j⟩ D t->∃q',sC n.pr [] ⟨b,j⟩ q'/\At m.gr Γ' (σ q') C t:=fun {j} h1 h2 {k D C c Γ' t} hc hcc ha=>by
  obtain⟨m0,z,v1,v2,v3,v4,v5,v6⟩:=hms h1 h2;have hs:=hc.aT;obtain⟨w1,w2⟩:=v6 hs.1 hcc;refine⟨⟨b,j⟩,.aK (by simp),?_⟩;rw[v5];refine At.mk' v2 (.out (D:=D) (k:=k) (by rw[v3,v4];exact hc) ?_)
  show At m.gr Γ' (m.pr ⟨m0,k⟩) D t
  rw[w1];exact ha
 have hby:∀{j:Nat},j<y.to.length->j≠0->n.pr ⟨b,j⟩≠⟨a,0⟩/\n.pr ⟨b,j⟩≠⟨b,0⟩:=fun {j} h1 h2=>(h.swap.off h1 h2).symm;refine hF.root (K:=K) (SA:=SA) (SB:=SB) h (by omega) ky2 ⟨λ_ _ _ _ _ e=>e,λ_ _ e=>e.elim⟩ (λhq=>hF.step h ?_ ?_ ?_ ?_ hq) ht
 ·intro Γ Γ' i C u n1 n2 hk;refine⟨λi' C' v a1 a2 hv=>hv.elim (λe=>.inl (hk.1 _ _ _ a1 a2 e)) .inr,λC' v hv=>?_⟩;rcases hv with hv|hv
  ·obtain⟨k,D,c,h1,h2,h3⟩:=hk.2 C' v hv;exact⟨k,D,c,h1,h2,.inl h3⟩
  ·exact absurd hv.1.symm n2
 ·intro Γ Γ' i C v n1 n2 hk hv;exact hk.1 _ _ _ n1 n2 hv
 ·intro Γ k C t hl;cases hl with
  |Em c1 c2 =>
   refine⟨λhk=>by have:=c1.aT;omega,λ_ Γ' hΓ=>?_⟩;rw[show n.gr.pr ⟨a,0⟩=⟨b,0⟩ from h.pr]at c2;obtain⟨c,z,u1,u2,u3,u4,u5,u6,u7,u8,u9,u10,u11⟩:=hcs c1;refine⟨⟨a,k⟩,.aK (by simp),?_⟩;rw[u9];exact c2.2.1 rfl k C c c1 u1 Γ' hΓ
  |out c1 c2 =>
   obtain⟨c,z,u1,u2,u3,u4,u5,u6,u7,u8,u9,u10,u11⟩:=hcs c1;obtain⟨o1,o2⟩:=h.off u11 (by omega);exact⟨λ_=>⟨_,_,c1,c2.2.2 o1 o2⟩,λhk=>absurd rfl hk⟩
  |_=>omega
 ·intro Γ k C t hl;have hyl:∀{j:Nat},j<eL y.ao->y.ao≠8->y.ao≠9->j<y.to.length:=fun {j} hj h8 h9=>P8 h.ok h.hy hj h8 h9;cases hl with
  |lam c1 c2 c3 c4 =>
   refine⟨λ_ k D c hc hcc Γ' hΓ=>?_,λhk=>absurd rfl hk⟩;obtain⟨c',z,u1,u2,u3,u4,u5,u6,u7,u8,u9,u10,u11⟩:=hcs hc;rw[hcc]at u1;cases u1;refine At.mk' u2 (.lam (u3.trans c1) (u4.trans (hlen hc c2)) c3 (λu=>?_));obtain⟨o1,o2⟩:=hby (j:=1) (hyl (by rw[c1];decide) (by omega) (by omega)) (by omega);refine hgo (Γ:=Γ.add b C u) (j:=1) (by omega) (hyl (by rw[c1];decide) (by omega) (by omega)) hc hcc ⟨λi C' v a1 a2 hv=>hv.elim (λe=>.inl (hΓ.1 _ _ _ a1 a2 e)) (λe=>absurd e.1 a2),λC' v hv=>?_⟩ ((c4 u).2.2 o1 o2);rcases hv with hv|⟨_,rfl,rfl⟩
   ·obtain⟨k',D',c',h1,h2,h3⟩:=hΓ.2 C' v hv;exact⟨k',D',c',h1,h2,.inl h3⟩
   ·exact⟨k,D,c,hc,hcc,.inr ⟨rfl,rfl,rfl⟩⟩
  |var c1 c2 c3 c4 =>
   refine⟨λhk=>absurd hk (by omega),λ_ Γ' hΓ=>?_⟩;obtain⟨k',D',c',h1,h2,h3⟩:=hΓ.2 _ _ c3;obtain⟨c'',z,u1,u2,u3,u4,u5,u6,u7,u8,u9,u10,u11⟩:=hcs h1;rw[h2]at u1;cases u1;exact hin (by omega) (hyl (by rw[c1];decide) (by omega) (by omega)) (h1.app _) h2 (At.mk' u2 (.var (u3.trans c1) (u4.trans (hlen h1 c2)) h3 c4))
  |app c1 c2 c3 c4 c5 =>
   refine⟨λhk=>absurd hk (by omega),λ_ Γ' hΓ=>?_⟩;rw[show n.gr.pr ⟨b,0⟩=⟨a,0⟩ from h.back]at c4;obtain⟨k',D,d1,d2⟩:=c4.1 rfl;obtain⟨c,z,u1,u2,u3,u4,u5,u6,u7,u8,u9,u10,u11⟩:=hcs d1;refine hin (by omega) (hyl (by rw[c1];decide) (by omega) (by omega)) d1 u1 (At.mk' u2 (.app (u3.trans c1) (u4.trans (hlen d1 c2)) c3 (hup d1 u1 hΓ d2) (λs=>?_)));obtain⟨o1,o2⟩:=hby (j:=2) (hyl (by rw[c1];decide) (by omega) (by omega)) (by omega);exact hgo (by omega) (hyl (by rw[c1];decide) (by omega) (by omega)) (d1.app [s]) u1 hΓ ((c5 s).2.2 o1 o2)
  |UW c1 c2 c3 c4 c5 =>
   refine⟨λ_ k D c hc hcc Γ' hΓ=>?_,λhk=>absurd rfl hk⟩;obtain⟨c',z,u1,u2,u3,u4,u5,u6,u7,u8,u9,u10,u11⟩:=hcs hc;rw[hcc]at u1;cases u1;refine At.mk' u2 (.UW (u3.trans c1) (u4.trans (hlen hc c2)) (by rw[u7];exact c3) (by rw[u8];exact c4) (λi t' hi s=>?_));have hi':=(gE hi).1;obtain⟨o1,o2⟩:=hby (j:=i+1) (by omega) (by omega);exact hgo (by omega) (by omega) (hc.app [s]) hcc hΓ ((c5 i t' hi s).2.2 o1 o2)
  |case c1 c2 c3 c4 c5 c6 =>
   have hyc:y.to.length=2+y.aY.length:=by rw[y2];unfold Up.bO;rw[c1];rfl
   refine⟨λhk=>absurd hk (by omega),λ_ Γ' hΓ=>?_⟩;rw[show n.gr.pr ⟨b,0⟩=⟨a,0⟩ from h.back]at c5;obtain⟨k',D,d1,d2⟩:=c5.1 rfl;obtain⟨c,z,u1,u2,u3,u4,u5,u6,u7,u8,u9,u10,u11⟩:=hcs d1;refine hin (by omega) (by omega) d1 u1 (At.mk' u2 (.case (u3.trans c1) (u4.trans (hlen d1 c2)) (by rw[u5];exact c3) (by rw[u5];exact c4) (hup d1 u1 hΓ d2) (λi t' hi=>?_)));have hi':=(gE hi).1;obtain⟨o1,o2⟩:=hby (j:=i+2) (by omega) (by omega);exact hgo (by omega) (by omega) d1 u1 hΓ ((c6 i t' hi).2.2 o1 o2)
  |int c1 c2 c3 =>
   refine⟨λ_ k D c hc hcc Γ' hΓ=>?_,λhk=>absurd rfl hk⟩;obtain⟨c',z,u1,u2,u3,u4,u5,u6,u7,u8,u9,u10,u11⟩:=hcs hc;rw[hcc]at u1;cases u1;exact At.mk' u2 (.int (u3.trans c1) (u4.trans (hlen hc c2)) (by rw[u6];exact c3))
  |op c1 c2 c3 c4 c5 =>
   refine⟨λhk=>absurd hk (by omega),λ_ Γ' hΓ=>?_⟩;rw[show n.gr.pr ⟨b,0⟩=⟨a,0⟩ from h.back]at c4;obtain⟨k',D,d1,d2⟩:=c4.1 rfl;obtain⟨c,z,u1,u2,u3,u4,u5,u6,u7,u8,u9,u10,u11⟩:=hcs d1;obtain⟨o1,o2⟩:=hby (j:=2) (hyl (by rw[c1];decide) (by omega) (by omega)) (by omega);exact hin (by omega) (hyl (by rw[c1];decide) (by omega) (by omega)) d1 u1 (At.mk' u2 (.op (u3.trans c1) (u4.trans (hlen d1 c2)) (by rw[u7];exact c3) (hup d1 u1 hΓ d2)
    (hgo (by omega) (hyl (by rw[c1];decide) (by omega) (by omega)) d1 u1 hΓ (c5.2.2 o1 o2))))
  |half c1 c2 c3 c4 =>
   refine⟨λhk=>absurd hk (by omega),λ_ Γ' hΓ=>?_⟩;rw[show n.gr.pr ⟨b,0⟩=⟨a,0⟩ from h.back]at c4;obtain⟨k',D,d1,d2⟩:=c4.1 rfl;obtain⟨c,z,u1,u2,u3,u4,u5,u6,u7,u8,u9,u10,u11⟩:=hcs d1;exact hin (by omega) (hyl (by rw[c1];decide) (by omega) (by omega)) d1 u1 (At.mk' u2 (.half (u3.trans c1) (u4.trans (hlen d1 c2)) (by rw[u7,u6];exact c3) (hup d1 u1 hΓ d2)))
  |fail c1 c2 c3 =>
   refine⟨λ_ k D c hc hcc Γ' hΓ=>?_,λhk=>absurd rfl hk⟩;obtain⟨c',z,u1,u2,u3,u4,u5,u6,u7,u8,u9,u10,u11⟩:=hcs hc;rw[hcc]at u1;cases u1;exact At.mk' u2 (.fail (u3.trans c1) (u4.trans (hlen hc c2)) c3)
  |Em c1 c2 =>
   have hs:=c1.aT;refine⟨λhk=>by omega,λ_ Γ' hΓ=>?_⟩;rw[show n.gr.pr ⟨b,0⟩=⟨a,0⟩ from h.back]at c2;obtain⟨k',D,d1,d2⟩:=c2.1 rfl;obtain⟨c,z,u1,u2,u3,u4,u5,u6,u7,u8,u9,u10,u11⟩:=hcs d1;obtain⟨D',e1,e2⟩:=hcomm d1 c1;exact hin hs.1 (hyl hs.2.1 (by omega) (by omega)) e1 u1 (At.mk' u2 (.Em (by rw[u3,u4];exact e2) (hup d1 u1 hΓ d2)))
  |out c1 c2 =>
   have hs:=c1.aT;refine⟨λ_ k D c hc hcc Γ' hΓ=>?_,λhk=>absurd rfl hk⟩;obtain⟨c',z,u1,u2,u3,u4,u5,u6,u7,u8,u9,u10,u11⟩:=hcs hc;rw[hcc]at u1;cases u1;obtain⟨D',e1,e2⟩:=hcomm hc c1;obtain⟨o1,o2⟩:=hby (hyl hs.2.1 (by omega) (by omega)) (by omega);exact At.mk' u2 (.out (by rw[u3,u4];exact e2) (hgo hs.1 (hyl hs.2.1 (by omega) (by omega)) e1 hcc hΓ (c2.2.2 o1 o2)))
theorem Ch:∀(l:List T) (f a:T),apps f (l++[a])=.app (apps f l) a
 |[],f,a=>rfl
 |b::l,f,a=>by simp only[aH,apps];exact Ch l _ _
theorem pE.QU {n:aI}{a b alt:Nat}{x y:Up}{cc:List UInt8×Nat}(h:pE n a b x y)(kx:x.ao=9)(ky:y.ao=8)(hp:ng x y=some alt)(hcc:x.aY[alt]?=some cc)(hc:cc.2+1=y.to.length)
  (hu:n.used+cc.2+(c_ a alt x).length<=n.aV) {m:aI} (hm:m=(n.pick a b alt x cc.2).UT a b)
  {t:T} (ht:At n.gr sD (n.pr ⟨0,0⟩) [] t):At m.gr sD (m.pr ⟨0,0⟩) [] t:=by
 obtain⟨x1,x2,x3⟩:=h.ok.aD _ _ h.hx;have halt:alt<x.aY.length:=(gE hcc).1;have hxp:x.to.length=2+x.aY.length:=by rw[x2];unfold Up.bO;rw[aa (by omega),ah kx]
 have hstep:∀{t h:T} {l ls:List T} {b0:T},qG t (.case h x.aY l)->qG h (.UW y.name ls)->ls.length+1=y.to.length->l[alt]?=some b0->qG t (apps b0 ls):=fun {t h l ls b0} h1 h2 h3 h4=>by
  refine h1.trans (h2.case.trans (.one ((Gf rfl).trans ?_)));have:Gd x.aY y.name (ls.length+1)=some alt:=by rw[GG h3];exact hp
  simp[Ge,this,h4]
 rcases h.QC kx ky hcc hc hu hm with ⟨hc0,σ,hF⟩|⟨σ,ms,hF,l1,l0,hM0,hM⟩
 ·clear hm
  let SB:Bd->Cx->T->Prop:=λΓ C t=>qG t (.UW y.name [])
  refine hF.root (K:=K1 a b) (SA:=λ_ _ _=>True) (SB:=SB) h (by omega) (by omega) K1.sD (λhq=>hF.step h K1.add K1.var ?_ ?_ hq) ht
  ·intro Γ k C t hl;refine⟨λ_=>trivial,λhk=>?_⟩;cases hl with
   |case c1 c2 c3 c4 c5 c6 =>
    rename_i h0 l0;rw[show n.gr.pr ⟨a,0⟩=⟨b,0⟩ from h.pr]at c5;have d1:=c5.2.1 rfl;have hi:alt<l0.length:=by omega
    have d2:=hstep c3 d1 (by simp;omega) (gG hi);intro Γ' hΓ;obtain⟨o1,o2⟩:=h.off (k:=alt+2) (by omega) (by omega);obtain⟨q',e1,e2⟩:=(c6 alt _ (gG hi)).2.2 o1 o2 Γ' hΓ;exact⟨q',.rl (p:=⟨a,alt+2⟩) (q:=⟨a,1⟩) (by simp) e1,e2.back d2⟩
   |Em c1 _=>exact(wC c1 (by rw[kx];decide)).elim
   |out c1 _=>exact(wC c1 (by rw[kx];decide)).elim
   |_=>omega
  ·intro Γ k C t hl;cases hl with
   |UW c1 c2 c3 c4 c5 =>
    rename_i ls;have:ls=[]:=aW (by omega);subst this;exact⟨λ_=>c3,λhk=>absurd rfl hk⟩
   |Em c1 _=>exact(wC c1 (by rw[ky];decide)).elim
   |out c1 _=>exact(wC c1 (by rw[ky];decide)).elim
   |_=>omega
 ·clear hm
  let SB:Bd->Cx->T->Prop:=λΓ C t=>y.Us=C.length/\∃ls,qG t (.UW y.name ls)/\ls.length+1=y.to.length/\∀(i:Nat) (t':T),ls[i]?=some t'->∀s,PP n m [] σ (K1 a b) Γ (n.pr ⟨b,i+1⟩) (C++[s]) t'
  refine hF.root (K:=K1 a b) (SA:=λ_ _ _=>True) (SB:=SB) h (by omega) (by omega) K1.sD (λhq=>hF.step h K1.add K1.var ?_ ?_ hq) ht
  ·intro Γ k C t hl;refine⟨λ_=>trivial,λhk=>?_⟩;cases hl with
   |case c1 c2 c3 c4 c5 c6 =>
    rename_i h0 l0';rw[show n.gr.pr ⟨a,0⟩=⟨b,0⟩ from h.pr]at c5;obtain⟨d0,ls,d1,d2,d3⟩:=c5.2.1 rfl;have hi:alt<l0'.length:=by omega
    have d4:=hstep c3 d1 d2 (gG hi);intro Γ' hΓ;obtain⟨o1,o2⟩:=h.off (k:=alt+2) (by omega) (by omega);have hb:=(c6 alt _ (gG hi)).2.2 o1 o2 Γ' hΓ;have chain:∀(j m0:Nat),ms[j]?=some m0->At m.gr Γ' ⟨m0,1⟩ C (apps l0'[alt] (ls.take (j+1))):=by
     intro j
     induction j with
     |zero =>
      intro m0 hm0;obtain⟨v1,v2,v3,v4⟩:=hM 0 m0 hm0;obtain⟨z,z1,z2,z3,z4,z5,z6,z7⟩:=A9 v1;have hl0:0<ls.length:=by have:=(gE hm0).1;omega
      obtain⟨q',e1,e2⟩:=hb;have e3:ls.take (0+1)=[]++[ls[0]]:=by
       rw[cG,gG hl0];rfl
      rw[e3,Ch];refine At.mk' z1 (.app z2 (z3.trans c2) .refl ?_ (λs=>?_))
      ·rw[<- hM0 m0 hm0];exact At.put hF ⟨h.pa (by omega),by simp,by simp⟩ (by simp) rfl e1 e2
      ·rw[<- v2];obtain⟨q'',f1,f2⟩:=d3 0 _ (gG hl0) s Γ' hΓ;exact At.put hF ⟨h.pb (by omega),by simp,by simp⟩ (by simp) rfl f1 f2
     |succ j ih =>
      intro m1 hm1;have hj:=(gE hm1).1;have hj':j<ms.length:=by omega
      obtain⟨v1,v2,v3,v4⟩:=hM (j+1) m1 hm1;obtain⟨w1,w2,w3,w4⟩:=hM j ms[j] (gG hj');obtain⟨z,z1,z2,z3,z4,z5,z6,z7⟩:=A9 v1;have hl0:j+1<ls.length:=by omega
      rw[cG,gG hl0]
      show At m.gr Γ' ⟨m1,1⟩ C (apps l0'[alt] (ls.take (j+1)++[ls[j+1]]))
      rw[Ch];refine At.mk' z1 (.app z2 (z3.trans c2) .refl ?_ (λs=>?_))
      ·show At m.gr Γ' (m.pr ⟨m1,0⟩) C _
       rw[w3 m1 hm1];exact ih _ (gG hj')
      ·rw[<- v2];obtain⟨q'',f1,f2⟩:=d3 (j+1) _ (gG hl0) s Γ' hΓ;exact At.put hF ⟨h.pb (by omega),by simp,by simp⟩ (by simp) rfl f1 f2
    have hlp:0<ms.length:=by
     cases ms with
     |nil=>exact absurd rfl l0
     |cons _ _=>simp
    have hlast:=chain (ms.length-1) ms[ms.length-1] (gG (by omega));rw[aF (by omega)]at hlast;obtain⟨v1,v2,v3,v4⟩:=hM (ms.length-1) ms[ms.length-1] (gG (by omega));refine⟨⟨a,1⟩,.aK (by simp),?_⟩;rw[v4 (List.getElem?_eq_none (by omega))];exact hlast.back d4
   |Em c1 _=>exact(wC c1 (by rw[kx];decide)).elim
   |out c1 _=>exact(wC c1 (by rw[kx];decide)).elim
   |_=>omega
  ·intro Γ k C t hl;cases hl with
   |UW c1 c2 c3 c4 c5 =>
    refine⟨λ_=>⟨c2,_,c3,c4,λi t' hi s=>?_⟩,λhk=>absurd rfl hk⟩;have hi':=(gE hi).1;obtain⟨o1,o2⟩:=h.swap.off (k:=i+1) (by omega) (by omega);exact(c5 i t' hi s).2.2 o2 o1
   |Em c1 _=>exact(wC c1 (by rw[ky];decide)).elim
   |out c1 _=>exact(wC c1 (by rw[ky];decide)).elim
   |_=>omega
def W_ (p:cF)(x y:Up):Prop :=
 (p.ao=1/\x.ao=3/\y.ao=2)\/(p.ao=6/\x.ao=y.ao/\fY x.ao=3/\x.Us=y.Us) \/
 (p.ao=2/\x.ao=9/\y.ao=8/\ng x y=some p.alt)\/(p.ao=3/\x.ao=11/\y.ao=10) \/
 (p.ao=4/\x.ao=12/\y.ao=10/\∃z,Vf x y=some z/\p.aD={ z with Us:=x.Us }) \/
 (p.ao=5/\fY x.ao=1/\fY y.ao=2/\Kk x y)\/(p.ao=7/\fY x.ao=3/\(fY y.ao=1\/fY y.ao=2\/fY y.ao=3)/\p.Us=j7 x y/\j7 x y<=60/\x.Us<y.Us)\/(p.ao=8/\x.ao=7/\2<=y.ao)
theorem wz {x y:Up}(h:(dD x y).2=0)(hx:fY x.ao=3)(hy:fY y.ao=1\/fY y.ao=2\/fY y.ao=3):(dD x y).1.swap=false/\W_ (dD x y).1 x y:=by
 unfold dD at h ⊢;split
 ·rename_i c;rw[ah c]at h;cases h
 ·rename_i c;rw[aa c]at h;split
  ·rename_i c2;rw[ah c2]at h;cases h
  ·rename_i c2;refine⟨rfl,?_⟩;unfold W_;exact .inr (.inr (.inr (.inr (.inr (.inr (.inl ⟨rfl,hx,hy,rfl,by omega,by omega⟩))))))
theorem x7 {x y:Up}(h:(fi x y).2=0)(hx:fY x.ao=1)(hy:fY y.ao=2):(fi x y).1.swap=false/\W_ (fi x y).1 x y:=by
 unfold fi at h ⊢;unfold W_;split
 ·rename_i c;rw[ah c]at h;split
  ·exact⟨rfl,.inl ⟨rfl,c⟩⟩
  ·rename_i c2;rw[aa c2]at h;cases h
 ·rename_i c;rw[aa c]at h;split
  ·rename_i c2;rw[ah c2]at h;unfold jx at h ⊢;split
   ·rename_i c3;rw[ah c3]at h;split
    ·rename_i hn;exact⟨rfl,.inr (.inr (.inr (.inr (.inr (.inl ⟨rfl,hx,hy,λe=>by omega,λ_ _=>hn,λe=>by omega,λe=>by omega⟩)))))⟩
    ·rename_i k hk;exact⟨rfl,.inr (.inr (.inl ⟨rfl,c2.1,c2.2,hk⟩))⟩
   ·rename_i c3;rw[aa c3]at h;cases h
  ·rename_i c2;rw[aa c2]at h;split
   ·rename_i c3;exact⟨rfl,.inr (.inr (.inr (.inl ⟨rfl,c3⟩)))⟩
   ·rename_i c3;split
    ·rename_i c4;unfold VK;split
     ·rename_i hn;exact⟨rfl,.inr (.inr (.inr (.inr (.inr (.inl ⟨rfl,hx,hy,λe=>by omega,λe=>by omega,λe=>by omega,λ_ _=>hn⟩)))))⟩
     ·rename_i z hz;exact⟨rfl,.inr (.inr (.inr (.inr (.inl ⟨rfl,c4.1,c4.2,z,hz,rfl⟩))))⟩
    ·rename_i c4;exact⟨rfl,.inr (.inr (.inr (.inr (.inr (.inl ⟨rfl,hx,hy,λe e2=>c ⟨e,e2⟩,λe e2=>absurd ⟨e,e2⟩ c2,λe e2=>c3 ⟨e,e2⟩,λe e2=>absurd ⟨e,e2⟩ c4⟩)))))⟩
theorem tf {r:cF×Nat}{x y:Up}(h:(fU r).2=0)(hr:r.2=0->W_ r.1 x y):(fU r).1.swap=true/\W_ (fU r).1 x y:=by
 unfold fU at h ⊢;by_cases c:r.2=0
 ·rw[ah c];exact⟨rfl,hr c⟩
 ·rw[aa c]at h;exact absurd h c
theorem Kl {x y:Up}(h:(aX x y).2=0):W_ (aX x y).1 (if (aX x y).1.swap then y else x) (if (aX x y).1.swap then x else y):=by
 have ns:∀{p:cF},p.swap=false->W_ p x y->W_ p (if p.swap then y else x) (if p.swap then x else y):=by
  intro p hp ho;rw[hp];exact ho
 have ys:∀{p:cF},p.swap=true->W_ p y x->W_ p (if p.swap then y else x) (if p.swap then x else y):=by
  intro p hp ho;rw[hp];exact ho
 unfold aX at h ⊢;split
 ·rename_i c;rw[ah c]at h;cases h
 ·rename_i c0;rw[aa c0]at h;rw[eX]at c0;have kx:=WC c0.1;have ky:=WC c0.2;split
  ·rename_i c1;exact ns rfl (.inr (.inr (.inr (.inr (.inr (.inr (.inr ⟨rfl,Hk c1,ky⟩)))))))
  ·rename_i c1;rw[aa c1]at h;split
   ·rename_i c2;rw[ah c2]at h;have:=tf (x:=y) (y:=x) h (λ_=>.inr (.inr (.inr (.inr (.inr (.inr (.inr ⟨rfl,Hk c2,kx⟩)))))));exact ys this.1 this.2
   ·rename_i c2;rw[aa c2]at h;split
    ·rename_i c3;exact ns rfl (.inr (.inl ⟨rfl,c3.2.2.2,c3.1,c3.2.2.1⟩))
    ·rename_i c3;rw[aa c3]at h;split
     ·rename_i c4;rw[ah c4]at h;have:=wz h c4.1 (by have:=yV y.ao;omega);exact ns this.1 this.2
     ·rename_i c4;rw[aa c4]at h;split
      ·rename_i c5;rw[ah c5]at h;have:=tf (x:=y) (y:=x) h (λe=>(wz e c5 (by have:=yV x.ao;omega)).2);exact ys this.1 this.2
      ·rename_i c5;rw[aa c5]at h;split
       ·rename_i c6;rw[ah c6]at h;have:=x7 h c6.1 c6.2;exact ns this.1 this.2
       ·rename_i c6;rw[aa c6]at h;split
        ·rename_i c7;rw[ah c7]at h;have:=tf (x:=y) (y:=x) h (λe=>(x7 e c7.2 c7.1).2);exact ys this.1 this.2
        ·rename_i c7;rw[aa c7]at h;cases h
theorem Gh {n:aI}{a b:Nat}{x y:Up}{p:cF}(ht:pE n a b x y)(hp:W_ p x y)(hu:n.used+vN p x y<=n.aV){t:T}(h:At n.gr sD (n.pr ⟨0,0⟩) [] t):At ((n.gW p a b x y).UT a b).gr sD (((n.gW p a b x y).UT a b).pr ⟨0,0⟩) [] t:=by
 obtain⟨x1,x2,x3⟩:=ht.ok.aD _ _ ht.hx;obtain⟨y1,y2,y3⟩:=ht.ok.aD _ _ ht.hy;have hlx:=Up.q_ x1;have hx1:=ht.x1;have hy1:=ht.y1;unfold vN Up.others at hu;rcases hp with ⟨k,c1,c2⟩|⟨k,c1,c2,c3⟩|⟨k,c1,c2,c3⟩|⟨k,c1,c2⟩|⟨k,c1,c2,z,c3,c4⟩|⟨k,c1,c2,c3⟩|⟨k,c1,c2,c3,c4,c5⟩|⟨k,c1,c2⟩
 ·have hm:n.gW p a b x y=n.Vq ((UQ a 1 (x.to.length-1)).zip (UQ b 1 (x.to.length-1))):=by unfold aI.gW;rw[ah (.inl k)]
  exact ht.QO c1 c2 (by rw[hm]) h
 ·have hm:n.gW p a b x y=n.Vq ((UQ a 1 (x.to.length-1)).zip (UQ b 1 (x.to.length-1))):=by unfold aI.gW;rw[ah (.inr k)]
  exact ht.QP c2 c1 c3 (by rw[hm]) h
 ·obtain⟨cc,e1,e2⟩:=xH c3;have halt:p.alt<x.aY.length:=(gE e1).1;have hxp:x.to.length=2+x.aY.length:=by rw[x2];unfold Up.bO;rw[aa (by omega),ah c1]
  have hrl:=sg (a:=a) (alt:=p.alt) (x:=x) (by omega);have hm:n.gW p a b x y=n.pick a b p.alt x cc.2:=by unfold aI.gW;rw[aa (by omega),ah k,e1];rfl
  rw[ah k,e1]at hu;dsimp only at hu;exact ht.QU c1 c2 c3 e1 e2 (by omega) (by rw[hm]) h
 ·have hm:n.gW p a b x y=n.half a b x y:=by unfold aI.gW;rw[aa (by omega),aa (by omega),ah k]
  rw[aa (by omega),ah (.inl k)]at hu;have hho:(gU x y).ok=true:=by
   simp only[Up.ok,Up.fP,gU,ab,cZ,UP,a_,Uq,decide_eq_false_iff_not]at x1 ⊢;obtain⟨⟨⟨⟨⟨a1,a2⟩,a3⟩,a4⟩,a5⟩,a6⟩:=x1;have:x.name≠[]:=by simpa [c1] using a4
   simp[this,hlx]
  exact ht.QQ c1 c2 hho (by omega) (by rw[hm]) h
 ·have hm:n.gW p a b x y=n.out a p.aD:=by unfold aI.gW;rw[aa (by omega),aa (by omega),aa (by omega),ah k]
  rw[aa (by omega),ah (.inr k)]at hu;exact ht.Q_ c1 c2 c3 hlx (by omega) (by rw[hm,c4]) h
 ·have hm:n.gW p a b x y=n.fail a b x y:=by unfold aI.gW;rw[aa (by omega),aa (by omega),aa (by omega),aa (by omega),ah k]
  rw[aa (by omega),aa (by omega),ah k]at hu;have hfl:(bX a b x y).length=(x.to.length-2)+(y.to.length-1):=by unfold bX;rw[aR,bN,bN]
  exact ht.QR c1 c2 c3 hlx (by omega) (by rw[hm]) h
 ·have hm:n.gW p a b x y=n.pass a b x y p.Us:=by unfold aI.gW;rw[aa (by omega),aa (by omega),aa (by omega),aa (by omega),aa (by omega),ah k]
  rw[aa (by omega),aa (by omega),aa (by omega),ah k]at hu;have k3:=FJ c1;have lx:=ht.Gy rfl (by omega) (by omega);have hq:x.to.length-1=if x.ao=4 then 2-1+1 else 1:=by
   rw[lx];rcases k3 with e|e|e<;>rw[e]<;>rfl
  refine ht.QT c1 c2 c5 c3 (by omega) ?_ (by rw[hm]) h;split at hu<;>split at hq<;>omega
 ·have hm:n.gW p a b x y=n.jA b x.Us y:=by unfold aI.gW;rw[aa (by omega),aa (by omega),aa (by omega),aa (by omega),aa (by omega),aa (by omega)]
  rw[aa (by omega),aa (by omega),aa (by omega),aa (by omega),ah k]at hu;exact ht.QS c1 c2 hlx (by omega) (by rw[hm]) h
theorem Gi {n:aI}(ho:n.Ok){t:T}(h:At n.gr sD (n.pr ⟨0,0⟩) [] t):At n.VY.gr sD (n.VY.pr ⟨0,0⟩) [] t:=by
 obtain⟨a1,a2,a3⟩:=vR ho;obtain⟨z,hz,hk⟩:=ho.sk.root;have hhas:n.has ⟨0,0⟩:=⟨z,hz,by rw[ho.Vg hz hk (by omega) (by omega)];decide⟩
 have key:∀{Γ:Bd} {q:aq} {C:Cx} {t:T},At n.gr Γ q C t->n.Reach q.aD->At n.VY.gr Γ q C t:=fun {Γ q C t} h=>by
  refine At.ind (S:=λΓ q C t=>n.Reach q.aD->At n.VY.gr Γ q C t) (λΓ q x C t hx hl hr=>?_) h;have hl:=hl.mono (λ_ _ _ _ h=>h.2);have hx':n.ae[q.aD]?=some x:=hx;have hs:=a3 q.aD x hr hx' hl.ao;refine At.mk (x:=x) hs ?_;refine tW.ext (K:=λΓ Γ'=>Γ'=Γ) rfl (ho.aD _ _ hx').2.1 (λΓ Γ' C u e=>by rw[e]) (λΓ Γ' C v e hv=>by rw[e];exact hv) (λk hk Γ Γ' C t e hS=>?_) hl rfl;subst e;have hp:n.has ⟨q.aD,k⟩:=⟨x,hx',hk⟩
  show At n.VY.gr _ (n.VY.pr ⟨q.aD,k⟩) C t
  rw[aI.oH (p:=⟨q.aD,k⟩) hx' hs];exact hS (aI.Reach.pr (p:=⟨q.aD,k⟩) hr hp)
 have hs:=a3 0 z .root hz (by omega);rw[aI.oH (p:=⟨0,0⟩) hz hs];exact key h (aI.Reach.pr (p:=⟨0,0⟩) .root hhas)
theorem Da {n:aI}{i j:Nat}{x y:Up}(hm:qf n i j x y)(he:(n.kM i).2.2=0){t:T}(h:At n.gr sD (n.pr ⟨0,0⟩) [] t):At (n.kM i).1.gr sD ((n.kM i).1.pr ⟨0,0⟩) [] t:=by
 rw[hm.yX]at he ⊢;cases ha:qg n i j x y with
 |some e=>rw[ha]at he;exact absurd he (AN ha)
 |none =>
  dsimp only;have hr:(aX x y).2=0:=by
   unfold qg at ha;split at ha
   ·cases ha
   ·omega
  have hu:n.used+vN (aX x y).1 (if (aX x y).1.swap then y else x) (if (aX x y).1.swap then x else y)<=n.aV:=by
   unfold qg at ha;rw[aa (by omega)]at ha;split at ha
   ·cases ha
   ·rw[CT]at *;omega
  have hp:=Kl hr;have ht:=hm.two;cases hs:(aX x y).1.swap with
  |false =>
   rw[hs]at hp hu;simp only[aZ,if_false]at hp hu ⊢;exact Gh ht hp hu h
  |true =>
   rw[hs]at hp hu;simp only[if_true]at hp hu ⊢;exact Gh ht.swap hp hu h
theorem Gj {n:aI}{i j:Nat}{x y:Up}(hm:qf n i j x y)(hr:n.Reach i)(he:(bL n i).2.2=0){t:T}(h:At n.gr sD (n.pr ⟨0,0⟩) [] t):At (bL n i).1.gr sD ((bL n i).1.pr ⟨0,0⟩) [] t:=by
 unfold bL at he ⊢;by_cases c1:(n.kM i).2.2=121
 ·rw[ah c1]at he ⊢;by_cases c2:(n.VY.kM i).2.2=0
  ·rw[ah c2];exact Da (vT hm hr) c2 (Gi hm.ok h)
  ·rw[aa c2]at he;cases he
 ·rw[aa c1]at he ⊢;exact Da hm he h
theorem Eb {n:aI}{i j:Nat}{x y:Up}(hm:qf n i j x y):(bL n i).2.2=0\/(bL n i).2.2=121\/(bL n i).2.2=(aX x y).2:=by
 have e:(n.kM i).2.2=0\/(n.kM i).2.2=121\/(n.kM i).2.2=(aX x y).2:=by
  rw[hm.yX];cases ha:qg n i j x y with
  |none=>exact .inl rfl
  |some e =>
   dsimp only;unfold qg at ha;split at ha
   ·cases ha;exact .inr (.inr rfl)
   ·split at ha
    ·cases ha;exact .inr (.inl rfl)
    ·cases ha
 unfold bL;by_cases c1:(n.kM i).2.2=121
 ·rw[ah c1];by_cases c2:(n.VY.kM i).2.2=0
  ·rw[ah c2];exact .inl c2
  ·rw[aa c2];exact .inr (.inl rfl)
 ·rw[aa c1];exact e
end Go.Proofs.Z
