/- A part of the proof. -/
import Derived.Test.YtffohgbmjjbhiaaGreatB09
import Derived.Test.YtffohgbmjjbhiaaGreatB08
set_option linter.all false
namespace Go.Proofs.Z
section
variable {pg:fX}{G:Heap}
theorem t169 (h:bY pg){n:aI}{x:Up}{r:List AV}{i:Nat}{l:List aq}{Gs:Heap}(hx:n.ae[i]?=some x)(hr:bm r=true)(h10:r[10]?=some (.p (.i .i64 i)))(hlev:x.Us<=60)(hl:n.ae.length+l.length<2 ^ 30)(hu:n.used+l.length<=n.aV) :
  UM pg (E pg) 169 [.ptr 0 0,.p (.sl (l.map aq.aw))] (.box (.p (.sl (n.ae.map Up.aw))::.p (.i .i64 n.aV)::r)::Gs)=some (.ret (.fn 185 [] [.ptr (Gs.length+2) 0,.ptr (Gs.length+1) 0,.ptr (Gs.length+3) 0]),.box (.p (.sl ((n.cI (ch x.Us) l.length).1.ae.map Up.aw))::.p (.i .i64 (n.cI (ch x.Us) l.length).1.aV)::r)::Gs++[.box [.ptr 0 0],.box [.p (.sl (l.map aq.aw))],.box [.p (.sl (ints (n.cI (ch x.Us) l.length).2))]]):=by
 rw[vG (N1 h hx hr h10 hlev hl hu) rfl (by simpa [bm,cE] using hr) (by simpa [bm,cE] using hr)];simp[Out.back,back,dh,UL,bD]
theorem vI {call:di}{f id len gen:Nat}{sz:Nat}{ay:List (List PV)}{sl:Nat}{c:List AV}{Gs:Heap}(hk:bC pg f=false)(hG:Gs[id]?=some (.arr sz ay gen sl))(hl:len<=ay.length) :
  UM pg call f [.ptr 0 0,.arr (id+1) len gen] (.box c::Gs)=UM pg call f [.ptr 0 0,.p (.sl (ay.take len))] (.box c::Gs.set id (.arr sz ay gen (Nat.max sl len))):=by
 unfold UM;rw[hk];simp[aQ,exp,fI.id,eP,norm,hG,hl]
theorem uq {call:di}{f:Nat}{Gs:Heap}(hk:bC pg f=false) :
  UM pg call f [.ptr 0 0,.aC] Gs=UM pg call f [.ptr 0 0,.p (.sl [])] Gs:=by
 unfold UM;rw[hk];simp[aQ,exp,fI.id,eP]
theorem t185 (h:bY pg){n:aI}{r:List AV}{i j k:Nat}{l:List aq}{ds:List Nat}{Gs:Heap}(h1:Gs[i]?=some (.box [.ptr 0 0]))(h2:Gs[j]?=some (.box [.p (.sl (l.map aq.aw))]))(h3:Gs[k]?=some (.box [.p (.sl (ints ds))]))(hij:i≠j)(hjk:j≠k)(hik:i≠k)
  (hr:bm r=true) (hll:l.length<2 ^ 30) (hds:ds.length=l.length) (hok:dS n (l.zip (ds.map λd=>(⟨d,0⟩:aq)))) :
  UM pg (E pg) 185 [.ptr (j+1) 0,.ptr (i+1) 0,.ptr (k+1) 0] (.box (.p (.sl (n.ae.map Up.aw))::.p (.i .i64 n.aV)::r)::Gs)=some (.ret (.dF []),.box (.p (.sl ((n.ft (l.zip (ds.map λd=>(⟨d,0⟩:aq)))).ae.map Up.aw))::.p (.i .i64 (n.ft (l.zip (ds.map λd=>(⟨d,0⟩:aq)))).aV)::r)::Gs):=by
 have he:∀e,aQ true e r=some (r,e):=λe=>bS true e hr;have hbk:∀ids aK,dh ids aK r=r:=λids aK=>ko ids aK hr;have hs:=N2 h hr hll hds hok;have hlen:∃m,(.box (.p (.sl (n.ae.map Up.aw))::.p (.i .i64 n.aV)::r)::Gs).length=m+4:=by
  have a1:=(gE h1).1;have a2:=(gE h2).1;have a3:=(gE h3).1;exact⟨Gs.length-3,by simp;omega⟩
 obtain⟨m,hm⟩:=hlen;unfold UM;rw[hm];simp[aQ,exp,fI.id,eP,UG,h1,h2,h3,hij,hij.symm,hjk,hjk.symm,hik,hik.symm,he,hs,Out.back,back,dh,UL,bD,b_,hbk];rw[r9 h2,r9 h1,r9 h3]
def UE (Us:Nat):Up:=⟨13,Us,0,[],[],[]⟩
def eD (ds:List Nat):List aq:=ds.map λd=>(⟨d,0⟩:aq)
def bX (a b:Nat)(x y:Up):List aq:=UQ a 2 (x.to.length-2)++UQ b 1 (y.to.length-1)
def aI.fail (n:aI)(a b:Nat)(x y:Up):aI :=
 (((((n.make (UE x.Us)).cI (ch x.Us) (bX a b x y).length).1).move ⟨a,1⟩ ⟨n.cg,0⟩).ft ((bX a b x y).zip (eD ((n.make (UE x.Us)).cI (ch x.Us) (bX a b x y).length).2)))
theorem jz (x:Up):∀(m:Nat) (n:aI),(n.cI x m).2.length=m
 |0,n=>rfl
 |m+1,n=>by simp[aI.cI,jz x m]
theorem vJ {sz b:Nat}{G:Heap}{y:AV}{new:List (List PV)}(hr:UZ G y=some new)(hs:fO y=false)(hne:new≠[])(hok:bH sz new=true)(hro:bZ new.length b=true) :
  cX false sz b G .aC y=some (.arr G.length new.length 0,G++[.arr sz new 0 0]):=by
 unfold cX;cases new with
 |nil=>exact absurd rfl hne
 |cons c r=>simp[-fO,-UZ,hs,hr,hok];simpa using hro
theorem BS {sz b:Nat}{G:Heap}:cX false sz b G .aC .aC=some (.aC,G):=by
 simp[cX,fO,UZ,bH]
theorem xG {sz b id len gen:Nat}{G:Heap}{y:AV}{ay new:List (List PV)}(hr:UZ G y=some new)(hs:fO y=false)(hok:bH sz new=true)(hG:G[id]?=some (.arr sz ay gen 0))(hl:ay.length=len)(hro:bZ (len+new.length) b=true) :
  cX false sz b G (.arr id len gen) y=some (.arr id (len+new.length) (gen+1),G.set id (.arr sz (ay++new) (gen+1) 0)):=by
 unfold cX;subst hl;simp[-fO,-UZ,hs,hr,hok,hG,hro]
theorem N4 (h:bY pg){n:aI}{x y:Up}{r:List AV}{a b:Nat}(hx0:n.ae[a]?=some x)(hx:(n.make (UE x.Us)).ae[a]?=some x)(hy:(n.make (UE x.Us)).ae[b]?=some y)(hr:bm r=true)(h10:r[10]?=some (.p (.i .i64 a)))(mq:r[11]?=some (.p (.i .i64 b)))
  (hxl:x.to.length<2 ^ 20) (hyl:y.to.length<2 ^ 20) (hlev:x.Us<=60) (hl:n.ae.length<2 ^ 20) (hu:n.used+1+(bX a b x y).length<=n.aV)
  (hm:dS ((n.make (UE x.Us)).cI (ch x.Us) (bX a b x y).length).1 [(⟨a,1⟩,⟨n.cg,0⟩)])
  (hok:dS ((((n.make (UE x.Us)).cI (ch x.Us) (bX a b x y).length).1).move ⟨a,1⟩ ⟨n.cg,0⟩) ((bX a b x y).zip (eD ((n.make (UE x.Us)).cI (ch x.Us) (bX a b x y).length).2))) :
  E pg 167 [.ptr 0 0] [.box (.p (.sl (n.ae.map Up.aw))::.p (.i .i64 n.aV)::r)]=some (.ret (.dF []),[.box (.p (.sl ((n.fail a b x y).ae.map Up.aw))::.p (.i .i64 (n.fail a b x y).aV)::r)]):=by
 have hb:=bE 1 hr;have hfl:(bX a b x y).length=(x.to.length-2)+(y.to.length-1):=by simp[bX,bN]
 obtain⟨⟨a1,a2,a3,a4⟩,_⟩:=hm;have hml:=aI.pC n (UE x.Us);have hmu:=aI.nH (n:=n) (x:=UE x.Us) (by simp[UE]);have hmc:=aI.nG n (UE x.Us);have hfok:(UE x.Us).ok=true:=by simp[UE,Up.ok,Up.fP,hlev]
 have e1:=λGs=>Ib (Gs:=Gs) (ao:=13) (K:=13) (Us:=x.Us) (v:=0) (name:=[]) h rfl (by omega) (by omega) hfok (by rw[show(Up.mk 13 x.Us 0 [] [] []).bO=1 from rfl];omega) (by omega:n.used<n.aV) hr;have e2:=λGs=>t165 (Gs:=Gs) h a1 a2 a3 a4 hr;have e3:=λGs=>t169 (Gs:=Gs) (l:=bX a b x y) h hx hr h10 hlev (by omega) (by omega);have e4:=λGs i j k h1 h2 h3 hij hjk hik=>t185 (i:=i) (j:=j) (k:=k) (Gs:=Gs) h h1 h2 h3 hij hjk hik hr (by omega) (jz _ _ _) hok;have e5:∀u v,bH 2 ((UQ u v (y.to.length-1)).map aq.aw)=true:=λu v=>fA vw _;simp only[fW,WW]at e1 e2;rw[show(Up.mk 13 x.Us 0 [] [] [])=UE x.Us from rfl]at e1;have hP:∀i k m,bH 2 ((UQ i k m).map aq.aw)=true:=λi k m=>fA vw _;have tP:∀i k m,((UQ i k m).map aq.aw).take m=(UQ i k m).map aq.aw:=λi k m=>aF (by simp[bN]);have lP:∀i k m,((UQ i k m).map aq.aw).length=m:=λi k m=>by simp[bN]
 have nP:∀i k m,(UQ i k (m+1)).map aq.aw≠[]:=λi k m e=>by have:=lP i k (m+1);rw[e]at this;simp at this
 have rP:∀m,m<2 ^ 30->bZ m 16=true:=λm hm=>by simp[bZ];omega
 have hro:qe pg 170=true:=by rw[h.ro];rfl
 have k169:bC pg 169=false:=(show bC pg 169=false from h.bq (x:=DP) rfl)
 have hp0:∀i k,UQ i k 0=[]:=λ_ _=>rfl;by_cases hx2:x.to.length<=2
 ·have hx3:x.to.length-2=0:=by omega
  have f1:=λGs=>AD (Gs:=Gs) (k0:=2) (K:=2) h rfl hx hr (by omega) hx2 (by omega);by_cases hy2:y.to.length<=1
  ·have hy3:y.to.length-1=0:=by omega
   have hf:bX a b x y=[]:=by simp[bX,hx3,hy3,hp0]
   have f2:=λGs=>AD (Gs:=Gs) (k0:=1) (K:=1) h rfl hy hr (by omega) hy2 (by omega);unfold aI.fail;rw[hf]at e3 e4 e2 ⊢;have e6:=e4 [.box [.ptr 0 0],.box [.p (.sl [])],.box [.p (.sl (ints ((n.make (UE x.Us)).cI (ch x.Us) 0).2))]] 0 1 2 rfl rfl rfl (by omega) (by omega) (by omega);have e5:=e3 [];simp only[au,aJ,aG,Nat.reduceAdd]at e5 e2 e6;rw[h.run (x:=yL)];simp[yL,Ae,Af,vq,XE,pA,vr,Yb,Ag,E_,Fa,Fb,Fc,K2,Fe,Ff,Ai,Ah,K3,K4,Fg,Fh,K5,Fi,Fj,Fk,Fl,vu,Aj,Yc,K6,Fm,Ak,Am,An,Ao,KE,Fo,Fp,Fq,Fs,Ft,Fu,Uu,oV,tu,eH,gQ,lk,put,U9,sE,VI,VT,norm,Vu,one,aj,Out.bf,bf,cH,ym,iM,fN,iB,AV.cells,AV.flat,PV.flat,Vn,lT,bP,fO,UZ,jV.of,Wr,Ys,jr,asInt,eu,gC,eU,Vc,VS,h10,mq,t181 h hx0 hr h10,e1,f1,f2,BS,uq k169,hro,e5,t152 h,e2,e6,hb,eD]
  ·obtain⟨v,hv'⟩:∃v,y.to.length=1+(v+1):=⟨y.to.length-2,by omega⟩
   have hy3:y.to.length-1=v+1:=by omega
   have hf:bX a b x y=UQ b 1 (v+1):=by simp[bX,hx3,hy3,hp0]
   have f2:=λGs=>t170 (Gs:=Gs) (k0:=1) (K:=1) (m:=v) h rfl hy hr (by omega) (by omega);unfold aI.fail;rw[hf]at e3 e4 e2 ⊢;have g1:=vJ (sz:=2) (b:=16) (G:=[.box (.p (.sl ((n.make (UE x.Us)).ae.map Up.aw))::.p (.i .i64 (n.make (UE x.Us)).aV)::r),.arr 2 ((UQ b 1 (v+1)).map aq.aw) v 0]) (y:=.arr 1 (v+1) v) (new:=(UQ b 1 (v+1)).map aq.aw) (by simp[UZ,tP,lP,bN]) rfl (nP _ _ _) (hP _ _ _) (by rw[lP];exact rP _ (by omega));have g2:=vI (pg:=pg) (call:=E pg) (f:=169) (c:=(.p (.sl ((n.make (UE x.Us)).ae.map Up.aw))::.p (.i .i64 (n.make (UE x.Us)).aV)::r)) (id:=1) (len:=v+1) (gen:=0) (Gs:=[.arr 2 ((UQ b 1 (v+1)).map aq.aw) v 0,.arr 2 ((UQ b 1 (v+1)).map aq.aw) 0 0]) k169 rfl (by rw[lP];omega);have e5:=e3 [.arr 2 ((UQ b 1 (v+1)).map aq.aw) v 0,.arr 2 ((UQ b 1 (v+1)).map aq.aw) 0 (Nat.max 0 (v+1))];have e6:=e4 [.arr 2 ((UQ b 1 (v+1)).map aq.aw) v 0,.arr 2 ((UQ b 1 (v+1)).map aq.aw) 0 (v+1),.box [.ptr 0 0],.box [.p (.sl ((UQ b 1 (v+1)).map aq.aw))],.box [.p (.sl (ints ((n.make (UE x.Us)).cI (ch x.Us) (UQ b 1 (v+1)).length).2))]] 2 3 4 rfl rfl rfl (by omega) (by omega) (by omega);rw[tP]at g2;rw[show [fE.arr 2 ((UQ b 1 (v+1)).map aq.aw) v 0,.arr 2 ((UQ b 1 (v+1)).map aq.aw) 0 0].set 1 (.arr 2 ((UQ b 1 (v+1)).map aq.aw) 0 (Nat.max 0 (v+1)))=[.arr 2 ((UQ b 1 (v+1)).map aq.aw) v 0,.arr 2 ((UQ b 1 (v+1)).map aq.aw) 0 (Nat.max 0 (v+1))] from rfl,e5]at g2;rw[lP]at g1;simp only[av,aJ,aG,Nat.reduceAdd,aH,aL]at g1 g2 e6;rw[h.run (x:=yL)];simp[yL,Ae,Af,vq,XE,pA,vr,Yb,Ag,E_,Fa,Fb,Fc,K2,Fe,Ff,Ai,Ah,K3,K4,Fg,Fh,K5,Fi,Fj,Fk,Fl,vu,Aj,Yc,K6,Fm,Ak,Am,An,Ao,KE,Fo,Fp,Fq,Fs,Ft,Fu,Uu,oV,tu,eH,gQ,lk,put,U9,sE,VI,VT,norm,Vu,one,aj,Out.bf,bf,cH,ym,iM,fN,iB,AV.cells,AV.flat,PV.flat,Vn,lT,bP,fO,UZ,jV.of,Wr,Ys,jr,asInt,eu,gC,eU,Vc,VS,h10,mq,t181 h hx0 hr h10,e1,f1,f2,g1,g2,hro,t152 h,e2,e6,hb,eD]
 ·obtain⟨u,hu'⟩:∃u,x.to.length=2+(u+1):=⟨x.to.length-3,by omega⟩
  have hx3:x.to.length-2=u+1:=by omega
  have f1:=λGs=>t170 (Gs:=Gs) (k0:=2) (K:=2) (m:=u) h rfl hx hr (by omega) (by omega);by_cases hy2:y.to.length<=1
  ·have hy3:y.to.length-1=0:=by omega
   have hf:bX a b x y=UQ a 2 (u+1):=by simp[bX,hx3,hy3,hp0]
   have f2:=λGs=>AD (Gs:=Gs) (k0:=1) (K:=1) h rfl hy hr (by omega) hy2 (by omega);unfold aI.fail;rw[hf]at e3 e4 e2 ⊢;have g1:=xG (sz:=2) (b:=16) (id:=1) (len:=u+1) (gen:=u) (G:=[.box (.p (.sl ((n.make (UE x.Us)).ae.map Up.aw))::.p (.i .i64 (n.make (UE x.Us)).aV)::r),.arr 2 ((UQ a 2 (u+1)).map aq.aw) u 0]) (y:=.aC) (new:=[]) (ay:=(UQ a 2 (u+1)).map aq.aw) rfl rfl rfl rfl (lP _ _ _) (by exact rP _ (by simp;omega));have g2:=vI (pg:=pg) (call:=E pg) (f:=169) (c:=(.p (.sl ((n.make (UE x.Us)).ae.map Up.aw))::.p (.i .i64 (n.make (UE x.Us)).aV)::r)) (id:=0) (len:=u+1) (gen:=u+1) (Gs:=[.arr 2 ((UQ a 2 (u+1)).map aq.aw) (u+1) 0]) k169 rfl (by rw[lP];omega);have e5:=e3 [.arr 2 ((UQ a 2 (u+1)).map aq.aw) (u+1) (Nat.max 0 (u+1))];have e6:=e4 [.arr 2 ((UQ a 2 (u+1)).map aq.aw) (u+1) (u+1),.box [.ptr 0 0],.box [.p (.sl ((UQ a 2 (u+1)).map aq.aw))],.box [.p (.sl (ints ((n.make (UE x.Us)).cI (ch x.Us) (UQ a 2 (u+1)).length).2))]] 1 2 3 rfl rfl rfl (by omega) (by omega) (by omega);rw[tP]at g2;rw[show [fE.arr 2 ((UQ a 2 (u+1)).map aq.aw) (u+1) 0].set 0 (.arr 2 ((UQ a 2 (u+1)).map aq.aw) (u+1) (Nat.max 0 (u+1)))=[.arr 2 ((UQ a 2 (u+1)).map aq.aw) (u+1) (Nat.max 0 (u+1))] from rfl,e5]at g2;simp only[av,aJ,aG,U3,Nat.reduceAdd,aH,aL,UD,bF,bT]at g1 g2 e6;rw[h.run (x:=yL)];simp[yL,Ae,Af,vq,XE,pA,vr,Yb,Ag,E_,Fa,Fb,Fc,K2,Fe,Ff,Ai,Ah,K3,K4,Fg,Fh,K5,Fi,Fj,Fk,Fl,vu,Aj,Yc,K6,Fm,Ak,Am,An,Ao,KE,Fo,Fp,Fq,Fs,Ft,Fu,Uu,oV,tu,eH,gQ,lk,put,U9,sE,VI,VT,norm,Vu,one,aj,Out.bf,bf,cH,ym,iM,fN,iB,AV.cells,AV.flat,PV.flat,Vn,lT,bP,fO,UZ,jV.of,Wr,Ys,jr,asInt,eu,gC,eU,Vc,VS,h10,mq,t181 h hx0 hr h10,e1,f1,f2,g1,g2,hro,t152 h,e2,e6,hb,eD]
  ·obtain⟨v,hv'⟩:∃v,y.to.length=1+(v+1):=⟨y.to.length-2,by omega⟩
   have hy3:y.to.length-1=v+1:=by omega
   have hf:bX a b x y=UQ a 2 (u+1)++UQ b 1 (v+1):=by simp[bX,hx3,hy3]
   have hfm:(bX a b x y).map aq.aw=(UQ a 2 (u+1)).map aq.aw++(UQ b 1 (v+1)).map aq.aw:=by rw[hf,bB]
   have f2:=λGs=>t170 (Gs:=Gs) (k0:=1) (K:=1) (m:=v) h rfl hy hr (by omega) (by omega);unfold aI.fail;have hfl2:(bX a b x y).length=u+1+(v+1):=by omega
   have g1:=xG (sz:=2) (b:=16) (id:=1) (len:=u+1) (gen:=u) (G:=[.box (.p (.sl ((n.make (UE x.Us)).ae.map Up.aw))::.p (.i .i64 (n.make (UE x.Us)).aV)::r),.arr 2 ((UQ a 2 (u+1)).map aq.aw) u 0,.arr 2 ((UQ b 1 (v+1)).map aq.aw) v 0]) (y:=.arr 2 (v+1) v) (new:=(UQ b 1 (v+1)).map aq.aw) (ay:=(UQ a 2 (u+1)).map aq.aw) (by simp[UZ,tP,lP,bN]) rfl (hP _ _ _) rfl (lP _ _ _) (by rw[lP];exact rP _ (by omega));have g2:=vI (pg:=pg) (call:=E pg) (f:=169) (c:=(.p (.sl ((n.make (UE x.Us)).ae.map Up.aw))::.p (.i .i64 (n.make (UE x.Us)).aV)::r)) (id:=0) (len:=u+1+(v+1)) (gen:=u+1) (Gs:=[.arr 2 ((bX a b x y).map aq.aw) (u+1) 0,.arr 2 ((UQ b 1 (v+1)).map aq.aw) v 0]) k169 rfl (by simp;omega);have e5:=e3 [.arr 2 ((bX a b x y).map aq.aw) (u+1) (Nat.max 0 (u+1+(v+1))),.arr 2 ((UQ b 1 (v+1)).map aq.aw) v 0];have e6:=e4 [.arr 2 ((bX a b x y).map aq.aw) (u+1) (u+1+(v+1)),.arr 2 ((UQ b 1 (v+1)).map aq.aw) v 0,.box [.ptr 0 0],.box [.p (.sl ((bX a b x y).map aq.aw))],.box [.p (.sl (ints ((n.make (UE x.Us)).cI (ch x.Us) (bX a b x y).length).2))]] 2 3 4 rfl rfl rfl (by omega) (by omega) (by omega);rw[<- hfm,lP]at g1;rw[aF (by simp;omega)]at g2;rw[show [fE.arr 2 ((bX a b x y).map aq.aw) (u+1) 0,.arr 2 ((UQ b 1 (v+1)).map aq.aw) v 0].set 0 (.arr 2 ((bX a b x y).map aq.aw) (u+1) (Nat.max 0 (u+1+(v+1))))=[.arr 2 ((bX a b x y).map aq.aw) (u+1) (Nat.max 0 (u+1+(v+1))),.arr 2 ((UQ b 1 (v+1)).map aq.aw) v 0] from rfl,e5]at g2;simp only[av,aJ,aG,U3,Nat.reduceAdd,aH,aL,UD,bF,bT]at g1 g2 e6;rw[h.run (x:=yL)];simp[yL,Ae,Af,vq,XE,pA,vr,Yb,Ag,E_,Fa,Fb,Fc,K2,Fe,Ff,Ai,Ah,K3,K4,Fg,Fh,K5,Fi,Fj,Fk,Fl,vu,Aj,Yc,K6,Fm,Ak,Am,An,Ao,KE,Fo,Fp,Fq,Fs,Ft,Fu,Uu,oV,tu,eH,gQ,lk,put,U9,sE,VI,VT,norm,Vu,one,aj,Out.bf,bf,cH,ym,iM,fN,iB,AV.cells,AV.flat,PV.flat,Vn,lT,bP,fO,UZ,jV.of,Wr,Ys,jr,asInt,eu,gC,eU,Vc,VS,h10,mq,t181 h hx0 hr h10,e1,f1,f2,g1,g2,hro,t152 h,e2,e6,hb,eD]
def dW (m k:Nat)(cs:List Nat):List (aq×aq):=(UQ m 1 cs.length).zip (cs.map λc=>(⟨c,k+1⟩:aq))
def aI.V9 (n:aI)(b:Nat)(cs:List Nat):Nat->List Nat->aI
 |_,[]=>n
 |k,m::r=>(((n.move ⟨b,k+1⟩ ⟨m,0⟩).jy (dW m k cs)).V9 b cs (k+1) r)
def r_ (n:aI)(b:Nat)(cs:List Nat):Nat->List Nat->Prop
 |_,[]=>True
 |k,m::r=>dS n [(⟨b,k+1⟩,⟨m,0⟩)]/\W7 (n.move ⟨b,k+1⟩ ⟨m,0⟩) (dW m k cs)/\r_ ((n.move ⟨b,k+1⟩ ⟨m,0⟩).jy (dW m k cs)) b cs (k+1) r
def aI.qz (n:aI)(x y:Up)(Us:Nat):aI:=(n.cI { y with Us:=Us } (x.to.length-1)).1
def aI.Ws (n:aI)(x y:Up)(Us:Nat):List Nat:=(n.cI { y with Us:=Us } (x.to.length-1)).2
def aI.Xn (n:aI)(x y:Up)(Us:Nat):aI:=((n.qz x y Us).cI x (y.to.length-1)).1
def aI.qA (n:aI)(x y:Up)(Us:Nat):List Nat:=((n.qz x y Us).cI x (y.to.length-1)).2
def aI.Xo (n:aI)(a:Nat)(x y:Up)(Us:Nat):aI:=(n.Xn x y Us).ft ((UQ a 1 (x.to.length-1)).zip (eD (n.Ws x y Us)))
def aI.pass (n:aI)(a b:Nat)(x y:Up)(Us:Nat):aI:=(n.Xo a x y Us).V9 b (n.Ws x y Us) 0 (n.qA x y Us)
theorem aI.DU {l:List (aq×aq)}:∀{n:aI},(n.ft l).aV=n.aV:=by
 induction l with
 |nil=>intro n;rfl
 |cons p r ih=>intro n;obtain⟨p,q⟩:=p;simp only[aI.ft];rw[ih];exact aI.vz
theorem Ic (h:bY pg){body:aU}(hb:body=yM){r:List AV}{a:Nat}{M:AV}(hr:bm r=true)(hM:cE M=true)(h10:r[10]?=some (.p (.i .i64 a))){cs:List Nat}(hc:cs.length<2 ^ 30) :
  ∀(m j:Nat) (n:aI),j+m=cs.length->dS n (((UQ a 1 cs.length).zip (eD cs)).drop j) ->
   L pg 1 [0,4,5,44,45,46] body [(0,.ptr 0 0),(4,.p (.sl (ints cs))),(5,M),(44,.p (.sl (ints cs))),(45,.p (.i .i64 cs.length)),(46,.p (.i .i64 j))] [.box (.p (.sl (n.ae.map Up.aw))::.p (.i .i64 n.aV)::r)] =
   some (.exit 0,[(0,.ptr 0 0),(4,.p (.sl (ints cs))),(5,M),(44,.p (.sl (ints cs))),(45,.p (.i .i64 cs.length)),(46,.p (.i .i64 cs.length)),(47,.p (.b false))],[.box (.p (.sl ((n.ft (((UQ a 1 cs.length).zip (eD cs)).drop j)).ae.map Up.aw))::.p (.i .i64 (n.ft (((UQ a 1 cs.length).zip (eD cs)).drop j)).aV)::r)])
 |0,j,n,hm,hok=>by
  have:j=cs.length:=by omega
  subst this;have e:((UQ a 1 cs.length).zip (eD cs)).drop cs.length=[]:=cV (by simp[bN,eD]);rw[dA hb,e];simp[yM,aj,aI.ft]
 |m+1,j,n,hm,hok=>by
  have he:∀e,aQ true e r=some (r,e):=λe=>bS true e hr;have heM:∀e,exp true e M=some (M,e):=λe=>fM true e hM;have hlt:j<cs.length:=by omega
  have hz:((UQ a 1 cs.length).zip (eD cs)).drop j=(⟨a,1+j⟩,⟨cs[j],0⟩)::((UQ a 1 cs.length).zip (eD cs)).drop (j+1):=by
   rw[aM (by simp[bN,eD];exact hlt)];simp[UQ,eD]
  rw[hz]at hok;obtain⟨⟨a1,a2,a3,a4⟩,hok'⟩:=hok;have ih:=Ic h hb hr hM h10 hc m (j+1) _ (by omega) hok';rw[show((j+1:Nat):Int)=(j:Int)+1 from by omega]at ih;have e1:=λGs=>t165 (Gs:=Gs) h a1 a2 a3 a4 hr;simp only[fW,show((1+j:Nat):Int)=(j:Int)+1 from by omega]at e1;have e2:(ints cs)[j]?=some [.i .i64 cs[j]]:=by simp[ints,hlt]
  rw[dA hb,hz];simp[yM,aj,hlt,aS,h10,t152 h,e1,e2,cR ((j:Int)+1),gc,exp,aQ,UG,he,heM,ih,aI.ft]
theorem Ie (h:bY pg){body:aU}(hb:body=yN){r:List AV}{k mm:Nat}{M u v:AV}(hr:bm r=true)(hM:cE M=true)(hu:cE u=true)(hv:cE v=true)(hk:k<2 ^ 30){cs:List Nat}(hc:cs.length<2 ^ 30) :
  ∀(m j:Nat) (n:aI),j+m=cs.length->W7 n ((dW mm k cs).drop j) ->
   L pg 1 [0,4,8,9,63,64,65,81,82,83] body [(0,.ptr 0 0),(4,.p (.sl (ints cs))),(8,.p (.i .i64 k)),(9,.p (.i .i64 mm)),(63,M),(64,u),(65,v),(81,.p (.sl (ints cs))),(82,.p (.i .i64 cs.length)),(83,.p (.i .i64 j))] [.box (.p (.sl (n.ae.map Up.aw))::.p (.i .i64 n.aV)::r)] =
   some (.exit 4,[(0,.ptr 0 0),(4,.p (.sl (ints cs))),(8,.p (.i .i64 k)),(9,.p (.i .i64 mm)),(63,M),(64,u),(65,v),(81,.p (.sl (ints cs))),(82,.p (.i .i64 cs.length)),(83,.p (.i .i64 cs.length)),(84,.p (.b false))],[.box (.p (.sl ((n.jy ((dW mm k cs).drop j)).ae.map Up.aw))::.p (.i .i64 (n.jy ((dW mm k cs).drop j)).aV)::r)])
 |0,j,n,hm,hok=>by
  have:j=cs.length:=by omega
  subst this;have e:(dW mm k cs).drop cs.length=[]:=cV (by simp[dW,bN]);rw[dA hb,e];simp[yN,aj,aI.jy]
 |m+1,j,n,hm,hok=>by
  have he:∀e,aQ true e r=some (r,e):=λe=>bS true e hr;have heM:∀e,exp true e M=some (M,e):=λe=>fM true e hM;have heu:∀e,exp true e u=some (u,e):=λe=>fM true e hu;have hev:∀e,exp true e v=some (v,e):=λe=>fM true e hv;have hlt:j<cs.length:=by omega
  have hz:(dW mm k cs).drop j=(⟨mm,1+j⟩,⟨cs[j],k+1⟩)::(dW mm k cs).drop (j+1):=by
   rw[aM (by simp[dW,bN];exact hlt)];simp[dW,UQ]
  rw[hz]at hok;obtain⟨⟨a1,a2,a3⟩,hok'⟩:=hok;have ih:=Ie h hb hr hM hu hv hk hc m (j+1) _ (by omega) hok';rw[show((j+1:Nat):Int)=(j:Int)+1 from by omega]at ih;have e1:=λGs=>t182 (Gs:=Gs) h a1 a2 a3 hr;simp only[show((k+1:Nat):Int)=(k:Int)+1 from by omega,show((1+j:Nat):Int)=(j:Int)+1 from by omega]at e1;have e2:(ints cs)[j]?=some [.i .i64 cs[j]]:=by simp[ints,hlt]
  rw[dA hb,hz];simp[yN,aj,hlt,aS,t152 h,e1,e2,cR ((j:Int)+1),cR ((k:Int)+1),gc,exp,aQ,UG,he,heM,heu,hev,ih,aI.jy]
theorem Ig (h:bY pg){body:aU}(hb:body=yO){r:List AV}{b:Nat}(hr:bm r=true)(mq:r[11]?=some (.p (.i .i64 b))){cs ms:List Nat}(hc:cs.length<2 ^ 30)(hms:ms.length<2 ^ 30) :
  ∀(m j:Nat) (n:aI),j+m=ms.length->r_ n b cs j (ms.drop j) ->
   L pg 1 [0,4,63,64,65] body [(0,.ptr 0 0),(4,.p (.sl (ints cs))),(63,.p (.sl (ints ms))),(64,.p (.i .i64 ms.length)),(65,.p (.i .i64 j))] [.box (.p (.sl (n.ae.map Up.aw))::.p (.i .i64 n.aV)::r)] =
   some (.exit 2,[(0,.ptr 0 0),(4,.p (.sl (ints cs))),(63,.p (.sl (ints ms))),(64,.p (.i .i64 ms.length)),(65,.p (.i .i64 ms.length)),(66,.p (.b false))],[.box (.p (.sl ((n.V9 b cs j (ms.drop j)).ae.map Up.aw))::.p (.i .i64 (n.V9 b cs j (ms.drop j)).aV)::r)])
 |0,j,n,hm,hok=>by
  have:j=ms.length:=by omega
  subst this;rw[dA hb,gH];simp[yO,aj,aI.V9]
 |m+1,j,n,hm,hok=>by
  have he:∀e,aQ true e r=some (r,e):=λe=>bS true e hr;have hlt:j<ms.length:=by omega
  have hz:ms.drop j=ms[j]::ms.drop (j+1):=aM hlt;rw[hz]at hok;obtain⟨⟨⟨a1,a2,a3,a4⟩,_⟩,hlk,hok'⟩:=hok;have ih:=Ig h hb hr mq hc hms m (j+1) _ (by omega) hok';rw[show((j+1:Nat):Int)=(j:Int)+1 from by omega]at ih;have e1:=λGs=>t165 (Gs:=Gs) h a1 a2 a3 a4 hr;simp only[fW,show((j+1:Nat):Int)=(j:Int)+1 from by omega]at e1;have e2:(ints ms)[j]?=some [.i .i64 ms[j]]:=by simp[ints,hlt]
  have hL:=Ie h rfl hr (M:=.p (.sl (ints ms))) (u:=.p (.i .i64 ms.length)) (v:=.p (.i .i64 j)) rfl rfl rfl (k:=j) (mm:=ms[j]) (by omega) hc cs.length 0 (n.move ⟨b,j+1⟩ ⟨ms[j],0⟩) (by omega) (by simpa using hlk);rw[fW,bp]at hL;have e3:(ints cs).length=cs.length:=by simp[ints]
  rw[dA hb,hz];simp[yO,aj,hlt,aS,mq,t152 h,e1,e2,e3,hL,cR ((j:Int)+1),gc,exp,aQ,UG,he,ih,aI.V9]
theorem pD (x:Up):∀(m:Nat) (n:aI),(n.cI x m).1.aV=n.aV
 |0,n=>rfl
 |m+1,n=>by simp only[aI.cI];rw[pD x m];rfl
theorem XN (x:Up):∀(m:Nat) (n:aI),(n.cI x m).1.ae.length<=n.ae.length+m
 |0,n=>by simp[aI.cI]
 |m+1,n=>by
  simp only[aI.cI];have:=XN x m (n.make x);have:=aI.pC n x;omega
theorem XO {x:Up}(hk:x.ao≠0):∀(m:Nat) (n:aI),(n.cI x m).1.used=n.used+m
 |0,n=>rfl
 |m+1,n=>by
  simp only[aI.cI];rw[XO hk m,aI.nH hk];omega
theorem N5 (h:bY pg){n:aI}{x y:Up}{r:List AV}{a b Us:Nat}(hx:n.ae[a]?=some x)(hy:n.ae[b]?=some y)(hr:bm r=true)(h2:r[2]?=some (.p (.i .i64 Us)))(h10:r[10]?=some (.p (.i .i64 a)))(mq:r[11]?=some (.p (.i .i64 b)))
  (hkx:2<=x.ao) (hky:2<=y.ao) (hox:x.ok=true) (hoy:({ y with Us:=Us }:Up).ok=true) (hxl:1<=x.to.length/\x.to.length<2 ^ 20) (hyl:1<=y.to.length/\y.to.length<2 ^ 20) (hpx:x.bO<2 ^ 20) (hpy:y.bO<2 ^ 20)
  (hl:n.ae.length<2 ^ 20) (hu:n.used+(x.to.length-1)+(y.to.length-1)<=n.aV)
  (hm:dS (n.Xn x y Us) ((UQ a 1 (x.to.length-1)).zip (eD (n.Ws x y Us)))) (hcr:r_ (n.Xo a x y Us) b (n.Ws x y Us) 0 (n.qA x y Us)) :
  E pg 168 [.ptr 0 0] [.box (.p (.sl (n.ae.map Up.aw))::.p (.i .i64 n.aV)::r)]=some (.ret (.dF []),[.box (.p (.sl ((n.pass a b x y Us).ae.map Up.aw))::.p (.i .i64 (n.pass a b x y Us).aV)::r)]):=by
 have he:∀e,aQ true e r=some (r,e):=λe=>bS true e hr;have hb:=bE 1 hr;have hlC:(n.Ws x y Us).length=x.to.length-1:=jz _ _ _;have hlM:(n.qA x y Us).length=y.to.length-1:=jz _ _ _;have hn1:(n.qz x y Us).ae.length<=n.ae.length+(x.to.length-1):=XN _ _ _;have hn2:(n.qz x y Us).used=n.used+(x.to.length-1):=XO (by dsimp only;omega) _ _;have hn3:(n.qz x y Us).aV=n.aV:=pD _ _ _;have hn4:(n.Xn x y Us).aV=n.aV:=by unfold aI.Xn;rw[pD];exact hn3
 have hn5:(n.Xo a x y Us).aV=n.aV:=by unfold aI.Xo;rw[aI.DU];exact hn4
 have e1:=λGs=>t180 (Gs:=Gs) (n:=n) (x:={ y with Us:=Us }) (k:=x.to.length-1) (K:=(x.to.length:Int)-1) h (by omega) hky hoy (by simpa [Up.bO] using (show y.bO<2 ^ 30 by omega)) hr (by omega) (by omega) (by omega);have e2:=λGs=>t180 (Gs:=Gs) (n:=n.qz x y Us) (x:=x) (k:=y.to.length-1) (K:=(y.to.length:Int)-1) h (by omega) hkx hox (by omega) hr (by omega) (by omega) (by omega);have e3:=Ic h rfl hr (M:=.p (.sl (ints (n.qA x y Us)))) rfl h10 (cs:=n.Ws x y Us) (by omega) (n.Ws x y Us).length 0 (n.Xn x y Us) (by omega) (by rw[hlC];simpa using hm);have e4:=Ig h rfl hr mq (cs:=n.Ws x y Us) (ms:=n.qA x y Us) (by omega) (by omega) (n.qA x y Us).length 0 (n.Xo a x y Us) (by omega) (by simpa using hcr);rw[show(n.cI { y with Us:=Us } (x.to.length-1)).1=n.qz x y Us from rfl,show(n.cI { y with Us:=Us } (x.to.length-1)).2=n.Ws x y Us from rfl]at e1;rw[show((n.qz x y Us).cI x (y.to.length-1)).1=n.Xn x y Us from rfl,show((n.qz x y Us).cI x (y.to.length-1)).2=n.qA x y Us from rfl]at e2;simp only[fW,bp]at e3 e4;rw[show(n.Xn x y Us).ft ((UQ a 1 (n.Ws x y Us).length).zip (eD (n.Ws x y Us)))=n.Xo a x y Us from by rw[hlC];rfl]at e3;rw[show(n.Xo a x y Us).V9 b (n.Ws x y Us) 0 (n.qA x y Us)=n.pass a b x y Us from rfl]at e4;have e5:∀l:List Nat,(ints l).length=l.length:=λl=>by simp[ints]
 have k179:=(show bC pg 179=false from h.bq (x:=E7) rfl)
 have r179:qe pg 179=true:=by rw[h.ro];rfl
 rw[h.run (x:=Jk)];simp[Jk,aj,h10,mq,h2,t179 h hx hr,t179 h hy hr,r179,e1,e2,e3,e4,e5,cR ((x.to.length:Int)-1),cR ((y.to.length:Int)-1),gc,exp,aQ,UG,he,hb]
def AE (acc:List aq):AV:=match acc with
 |[]=>.aC
 |_::r=>.arr 2 (r.length+1) r.length
def AF (acc:List aq):Heap:=match acc with
 |[]=>[]
 |c::r=>[.arr 2 ((c::r).map aq.aw) r.length 0]
def AG (acc:List aq)(M:Nat):AV:=match acc with
 |[]=>.arr 2 (M+1) M
 |_::_=>.arr 3 (M+1) M
theorem FF (h:bY pg){body:aU}(hb:body=qX){n:aI}{r:List AV}{a s M:Nat}{C A:AV}(hr:bm r=true)(hC:cE C=true)(hA:cE A=true)(hM:M<2 ^ 20) :
  ∀(m j:Nat) (acc:List aq),j+m=M+1->acc.length<=j ->
   L pg 1 [0,2,3,4,5,48,49,50] body [(0,.ptr 0 0),(2,C),(3,.ptr 1 0),(4,A),(5,AE acc),(48,AG acc M),(49,.p (.i .i64 (M+1:Nat))),(50,.p (.i .i64 j))] (.box (.p (.sl (n.ae.map Up.aw))::.p (.i .i64 n.aV)::r)::.box [.p (.i .i64 a),.p (.i .i64 (s+2:Nat))]::AF acc++[.arr 2 ((UQ a 2 (M+1)).map aq.aw) M 0]) =
   some (.exit 0,[(0,.ptr 0 0),(2,C),(3,.ptr 1 0),(4,A),(5,AE (acc++((UQ a 2 (M+1)).drop j).filter λq=>decide (q≠⟨a,s+2⟩))),(48,AG (acc++((UQ a 2 (M+1)).drop j).filter λq=>decide (q≠⟨a,s+2⟩)) M),(49,.p (.i .i64 (M+1:Nat))),(50,.p (.i .i64 (M+1:Nat))),(51,.p (.b false))],
    .box (.p (.sl (n.ae.map Up.aw))::.p (.i .i64 n.aV)::r)::.box [.p (.i .i64 a),.p (.i .i64 (s+2:Nat))]::AF (acc++((UQ a 2 (M+1)).drop j).filter λq=>decide (q≠⟨a,s+2⟩))++[.arr 2 ((UQ a 2 (M+1)).map aq.aw) M 0])
 |0,j,acc,hm,hj=>by
  have:j=M+1:=by omega
  subst this;have e:(UQ a 2 (M+1)).drop (M+1)=[]:=cV (by simp[bN]);rw[dA hb,e];simp[qX,aj]
 |m+1,j,acc,hm,hj=>by
  have he:∀e,aQ true e r=some (r,e):=λe=>bS true e hr;have heC:∀e,exp true e C=some (C,e):=λe=>fM true e hC;have heA:∀e,exp true e A=some (A,e):=λe=>fM true e hA;have hlt:j<M+1:=by omega
  have hlt':(j:Int)<(M:Int)+1:=by omega
  have hz:(UQ a 2 (M+1)).drop j=⟨a,2+j⟩::(UQ a 2 (M+1)).drop (j+1):=by
   rw[aM (by simp[bN];exact hlt)];simp[UQ]
  have wR:(UQ a 2 (M+1))[j]?=some ⟨a,2+j⟩:=by
   rw[gG (by rw[bN];exact hlt)];simp[UQ]
  have hat2:∀hh,(UQ a 2 (M+1))[j]'hh=⟨a,2+j⟩:=λhh=>yW a 2 (M+1) j hlt;have hlen:M+1<=((UQ a 2 (M+1)).map aq.aw).length:=by simp[bN]
  have hlen':(UQ a 2 (M+1)).length=M+1:=bN _ _ _;have e6:∀u v,bH 2 [[.i .i64 u,.i .i64 v]]=true:=λ_ _=>rfl;rw[dA hb,hz];by_cases hs:j=s
  ·have ih:=FF h hb (n:=n) (a:=a) (s:=s) hr hC hA hM m (j+1) acc (by omega) (by omega);have hf:(⟨a,2+j⟩::(UQ a 2 (M+1)).drop (j+1)).filter (λq=>decide (q≠(⟨a,s+2⟩:aq)))=((UQ a 2 (M+1)).drop (j+1)).filter (λq=>decide (q≠(⟨a,s+2⟩:aq))):=by
    rw[lK];simp;omega
   rw[hf];generalize ((UQ a 2 (M+1)).drop (j+1)).filter (λq=>decide (q≠(⟨a,s+2⟩:aq)))=F at ih ⊢;have c1:(2+(j:Int)=(s:Int)+2)=True:=mA;simp only[show((j+1:Nat):Int)=(j:Int)+1 from by omega,show((M+1:Nat):Int)=(M:Int)+1 from by omega,show((s+2:Nat):Int)=(s:Int)+2 from by omega]at ih ⊢;cases acc with
   |nil =>
    simp only[AE,AF,AG,aL,aH]at ih ⊢;simp[qX,aj,hlt,hlt',wR,hat2,hlen,hlen',aS,aq.aw,c1,cR ((j:Int)+1),gc,exp,aQ,UG,he,heC,heA,ih]
   |cons q0 acc =>
    simp only[AE,AF,AG,aL,aH,ai,aq.aw]at ih ⊢;simp[qX,aj,hlt,hlt',wR,hat2,hlen,hlen',aS,aq.aw,c1,cR ((j:Int)+1),gc,exp,aQ,UG,he,heC,heA,ih]
  ·have ih:=FF h hb (n:=n) (a:=a) (s:=s) hr hC hA hM m (j+1) (acc++[⟨a,2+j⟩]) (by omega) (by simp;omega);have hf:(⟨a,2+j⟩::(UQ a 2 (M+1)).drop (j+1)).filter (λq=>decide (q≠(⟨a,s+2⟩:aq)))=⟨a,2+j⟩::((UQ a 2 (M+1)).drop (j+1)).filter (λq=>decide (q≠(⟨a,s+2⟩:aq))):=by
    rw[lL];simp;omega
   rw[hf];generalize ((UQ a 2 (M+1)).drop (j+1)).filter (λq=>decide (q≠(⟨a,s+2⟩:aq)))=F at ih ⊢;have c1:(2+(j:Int)=(s:Int)+2)=False:=cC;rw[pd,Va]at ih;simp only[show((j+1:Nat):Int)=(j:Int)+1 from by omega,show((M+1:Nat):Int)=(M:Int)+1 from by omega,show((s+2:Nat):Int)=(s:Int)+2 from by omega]at ih ⊢;cases acc with
   |nil =>
    simp only[AE,AF,AG,aL,aH,ai,au,aJ,av,aq.aw,aG,show((2+j:Nat):Int)=2+(j:Int) from by omega]at ih ⊢;simp[qX,aj,hlt,hlt',wR,hat2,hlen,hlen',aS,aq.aw,c1,Uu.Uv,cO,Vy,ee,cX,UZ,fO,e6,show bZ 1 16=true from rfl,cR ((j:Int)+1),gc,exp,aQ,UG,he,heC,heA,ih]
    done
   |cons q0 acc =>
    have e8:(acc.map aq.aw).take acc.length=acc.map aq.aw:=aF (by simp);have e7:bZ (acc.length+1+1) 16=true:=by simp at hj;simp[bZ];omega
    simp only[AE,AF,AG,aL,aH,ai,bB,au,aR,av,aJ,aq.aw,aG,show((2+j:Nat):Int)=2+(j:Int) from by omega]at ih ⊢;simp[qX,aj,hlt,hlt',wR,hat2,hlen,hlen',aS,aq.aw,c1,Uu.Uv,cO,Vy,ee,cX,UZ,fO,e6,e7,e8,cR ((j:Int)+1),gc,exp,aQ,UG,he,heC,heA,ih]
    done
def aI.chain (n:aI)(a b:Nat):Nat->List Nat->aI
 |_,[]=>n
 |i,m::r=>match r with
  |[]=>(n.move ⟨b,i+1⟩ ⟨m,2⟩).move ⟨a,1⟩ ⟨m,1⟩
  |m'::_=>((n.move ⟨b,i+1⟩ ⟨m,2⟩).link ⟨m,1⟩ ⟨m',0⟩).chain a b (i+1) r
def sc (n:aI)(a b:Nat):Nat->List Nat->Prop
 |_,[]=>True
 |i,m::r=>match r with
  |[]=>dS n [(⟨b,i+1⟩,⟨m,2⟩),(⟨a,1⟩,⟨m,1⟩)]
  |m'::_=>dS n [(⟨b,i+1⟩,⟨m,2⟩)]/\W7 (n.move ⟨b,i+1⟩ ⟨m,2⟩) [(⟨m,1⟩,⟨m',0⟩)]/\sc ((n.move ⟨b,i+1⟩ ⟨m,2⟩).link ⟨m,1⟩ ⟨m',0⟩) a b (i+1) r
theorem FG (h:bY pg){body:aU}(hb:body=vg){r:List AV}{a b i1 i2 i3:Nat}{Gs:Heap}(hr:bm r=true)(h10:r[10]?=some (.p (.i .i64 a)))(mq:r[11]?=some (.p (.i .i64 b))){apps:List Nat}(hc:apps.length<2 ^ 20){c1 c2 c3:List AV}(hc1:bm c1=true)(hc3:bm c3=true) :
  ∀(m j:Nat) (n:aI),j+m=apps.length->sc n a b j (apps.drop j) ->
   L pg 1 [0,2,4,8,82,83,84] body [(0,.ptr 0 0),(2,.p (.i .i64 apps.length)),(4,.p (.sl (ints apps))),(8,.fn 185 [] [.ptr 1 0,.ptr 2 0,.ptr 3 0]),(82,.p (.sl (ints apps))),(83,.p (.i .i64 apps.length)),(84,.p (.i .i64 j))] [.box (.p (.sl (n.ae.map Up.aw))::.p (.i .i64 n.aV)::r),.box c1,.box [.ptr 0 0],.box c3] =
   some (.exit 2,[(0,.ptr 0 0),(2,.p (.i .i64 apps.length)),(4,.p (.sl (ints apps))),(8,.fn 185 [] [.ptr 1 0,.ptr 2 0,.ptr 3 0]),(82,.p (.sl (ints apps))),(83,.p (.i .i64 apps.length)),(84,.p (.i .i64 apps.length)),(85,.p (.b false))],[.box (.p (.sl ((n.chain a b j (apps.drop j)).ae.map Up.aw))::.p (.i .i64 (n.chain a b j (apps.drop j)).aV)::r),.box c1,.box [.ptr 0 0],.box c3])
 |0,j,n,hm,hok=>by
  have:j=apps.length:=by omega
  subst this;rw[dA hb,gH];simp[vg,aj,aI.chain]
 |m+1,j,n,hm,hok=>by
  have he:∀e,aQ true e r=some (r,e):=λe=>bS true e hr;have he1:∀e,aQ true e c1=some (c1,e):=λe=>bS true e hc1;have he3:∀e,aQ true e c3=some (c3,e):=λe=>bS true e hc3;have hlt:j<apps.length:=by omega
  have hz:apps.drop j=apps[j]::apps.drop (j+1):=aM hlt;have e2:(ints apps)[j]?=some [.i .i64 apps[j]]:=by simp[ints,hlt]
  rw[hz]at hok;rw[dA hb,hz];by_cases hl:j+1<apps.length
  ·have hz2:apps.drop (j+1)=apps[j+1]::apps.drop (j+1+1):=aM hl;have hl':(j:Int)+1<apps.length:=by omega
   rw[hz2]at hok;obtain⟨⟨⟨a1,a2,a3,a4⟩,_⟩,⟨⟨b1,b2,b3⟩,_⟩,hok'⟩:=hok;rw[<- hz2]at hok';have ih:=FG h hb (Gs:=Gs) (i1:=i1) (i2:=i2) (i3:=i3) (c2:=c2) hr h10 mq hc hc1 hc3 m (j+1) _ (by omega) hok';rw[show((j+1:Nat):Int)=(j:Int)+1 from by omega]at ih;have e1:=λGs=>t165 (Gs:=Gs) h a1 a2 a3 a4 hr;have e3:=λGs=>t182 (Gs:=Gs) h b1 b2 b3 hr;simp only[fW,WW,zj,show((j+1:Nat):Int)=(j:Int)+1 from by omega]at e1 e3;have e4:(ints apps)[j+1]?=some [.i .i64 apps[j+1]]:=by simp[ints,hl]
   have e5:((j:Int)+1).toNat=j+1:=by omega
   have e6:(0:Int)<=(j:Int)+1:=by omega
   have hch:n.chain a b j (apps[j]::apps.drop (j+1))=((n.move ⟨b,j+1⟩ ⟨apps[j],2⟩).link ⟨apps[j],1⟩ ⟨apps[j+1],0⟩).chain a b (j+1) (apps.drop (j+1)):=by
    rw[hz2,aI.chain]
   rw[hch];simp[vg,aj,hlt,hl',aS,h10,mq,t152 h,(show bC pg 152=false from h.bq (x:=sT) rfl),e1,e2,e3,e4,e5,e6,cR ((j:Int)+1),gc,exp,aQ,UG,he,he1,he3,ih]
  ·have hl2:j+1=apps.length:=by omega
   have hz2:apps.drop (j+1)=[]:=cV (by omega);have hl':¬ (j:Int)+1<apps.length:=by omega
   rw[hz2]at hok;obtain⟨⟨a1,a2,a3,a4⟩,⟨b1,b2,b3,b4⟩,_⟩:=hok;have ih:=FG h hb (Gs:=Gs) (i1:=i1) (i2:=i2) (i3:=i3) (c2:=c2) hr h10 mq hc hc1 hc3 m (j+1) ((n.move ⟨b,j+1⟩ ⟨apps[j],2⟩).move ⟨a,1⟩ ⟨apps[j],1⟩) (by omega) (by rw[hz2];trivial);rw[show((j+1:Nat):Int)=(j:Int)+1 from by omega,hz2]at ih;have e1:=λGs=>t165 (Gs:=Gs) h a1 a2 a3 a4 hr;have e3:=λGs=>t165 (Gs:=Gs) h b1 b2 b3 b4 hr;simp only[fW,WW,zj,show((j+1:Nat):Int)=(j:Int)+1 from by omega]at e1 e3;have hch:n.chain a b j (apps[j]::[])=(n.move ⟨b,j+1⟩ ⟨apps[j],2⟩).move ⟨a,1⟩ ⟨apps[j],1⟩:=by rw[aI.chain]
   rw[hz2,hch];simp only[aI.chain]at ih;simp[vg,aj,hlt,hl',aS,h10,mq,t152 h,e1,e2,e3,cR ((j:Int)+1),gc,exp,aQ,UG,he,he1,he3,ih]
def gN (Us:Nat):Up:=⟨3,Us,0,[],[],[]⟩
def c_ (a alt:Nat)(x:Up):List aq:=(UQ a 2 (x.to.length-2)).filter λq=>decide (q≠⟨a,alt+2⟩)
def aI.Wm (n:aI)(x:Up)(c:Nat):aI:=(n.cI (gN x.Us) c).1
def aI.Wt (n:aI)(x:Up)(c:Nat):List Nat:=(n.cI (gN x.Us) c).2
def aI.mQ (n:aI)(a alt:Nat)(x:Up)(c:Nat):aI:=((n.Wm x c).cI (ch x.Us) (c_ a alt x).length).1
def aI.qB (n:aI)(a alt:Nat)(x:Up)(c:Nat):List Nat:=((n.Wm x c).cI (ch x.Us) (c_ a alt x).length).2
def aI.kq (n:aI)(a alt:Nat)(x:Up)(c:Nat):aI:=match n.Wt x c with
 |[]=>(n.mQ a alt x c).join ⟨a,alt+2⟩ ⟨a,1⟩
 |m::_=>(n.mQ a alt x c).move ⟨a,alt+2⟩ ⟨m,0⟩
def aI.vK (n:aI)(a b alt:Nat)(x:Up)(c:Nat):aI:=(n.kq a alt x c).chain a b 0 (n.Wt x c)
def aI.pick (n:aI)(a b alt:Nat)(x:Up)(c:Nat):aI:=(n.vK a b alt x c).ft ((c_ a alt x).zip (eD (n.qB a alt x c)))
def oB (n:aI)(a alt:Nat)(x:Up)(c:Nat):Prop:=match n.Wt x c with
 |[]=>ow (n.mQ a alt x c) [(⟨a,alt+2⟩,⟨a,1⟩)]
 |m::_=>dS (n.mQ a alt x c) [(⟨a,alt+2⟩,⟨m,0⟩)]
theorem aI.DV {n:aI}{a alt:Nat}{x:Up}{c:Nat}:(n.kq a alt x c).aV=(n.mQ a alt x c).aV:=by
 unfold aI.kq;split
 ·unfold aI.join;split
  ·rfl
  ·exact aI.Av
 ·exact aI.vz
theorem N6 (h:bY pg){n:aI}{x:Up}{cc:List UInt8×Nat}{r:List AV}{a b alt:Nat}(hx:n.ae[a]?=some x)(hx1:(n.Wm x cc.2).ae[a]?=some x)(hcc:x.aY[alt]?=some cc)(hr:bm r=true)(h3:r[3]?=some (.p (.i .i64 alt)))(h10:r[10]?=some (.p (.i .i64 a)))(mq:r[11]?=some (.p (.i .i64 b)))
  (hxl:3<=x.to.length/\x.to.length<2 ^ 20) (hal:alt<2 ^ 20) (hlev:x.Us<=60) (hc:cc.2<2 ^ 20) (hl:n.ae.length<2 ^ 20) (hu:n.used+cc.2+(c_ a alt x).length<=n.aV)
  (h3ok:oB n a alt x cc.2) (h4ok:sc (n.kq a alt x cc.2) a b 0 (n.Wt x cc.2)) (h5ok:dS (n.vK a b alt x cc.2) ((c_ a alt x).zip (eD (n.qB a alt x cc.2)))) :
  E pg 163 [.ptr 0 0] [.box (.p (.sl (n.ae.map Up.aw))::.p (.i .i64 n.aV)::r)]=some (.ret (.dF []),[.box (.p (.sl ((n.pick a b alt x cc.2).ae.map Up.aw))::.p (.i .i64 (n.pick a b alt x cc.2).aV)::r)]):=by
 have he:∀e,aQ true e r=some (r,e):=λe=>bS true e hr;have hb:=bE 1 hr;have hb0:=bE 4 hr;obtain⟨M,hM⟩:∃M,x.to.length=2+(M+1):=⟨x.to.length-3,by omega⟩
 have hM2:x.to.length-2=M+1:=by omega
 have hlA:(n.Wt x cc.2).length=cc.2:=jz _ _ _;have hlD:(n.qB a alt x cc.2).length=(c_ a alt x).length:=jz _ _ _;have hn1:(n.Wm x cc.2).ae.length<=n.ae.length+cc.2:=XN _ _ _;have hn2:(n.Wm x cc.2).used=n.used+cc.2:=XO (by simp[gN]) _ _;have hn3:(n.Wm x cc.2).aV=n.aV:=pD _ _ _;have hn4:(n.mQ a alt x cc.2).aV=n.aV:=by unfold aI.mQ;rw[pD];exact hn3
 have hn5:(n.kq a alt x cc.2).aV=n.aV:=by rw[aI.DV];exact hn4
 have hrl:(c_ a alt x).length<=M+1:=by
  unfold c_;have:=gq (λq=>decide (q≠(⟨a,alt+2⟩:aq))) (UQ a 2 (x.to.length-2));rw[bN]at this;omega
 have hao:(gN x.Us).ok=true:=by simp[gN,Up.ok,Up.fP,hlev]
 have k169:bC pg 169=false:=(show bC pg 169=false from h.bq (x:=DP) rfl)
 have r179:qe pg 179=true:=by rw[h.ro];rfl
 have hi:(ints (n.Wt x cc.2)).length=cc.2:=by simp[ints,hlA]
 have e1:=λGs=>Ia (Gs:=Gs) (n:=n) (ao:=3) (K:=3) (Us:=x.Us) (k:=cc.2) (M:=cc.2) h rfl rfl (by omega) hao (by rw[show(Up.mk 3 x.Us 0 [] [] []).bO=3 from rfl];omega) hr (by omega) (by omega) (by omega);rw[show Up.mk 3 x.Us 0 [] [] []=gN x.Us from rfl,show(n.cI (gN x.Us) cc.2).1=n.Wm x cc.2 from rfl,show(n.cI (gN x.Us) cc.2).2=n.Wt x cc.2 from rfl]at e1;have e2:=λGs=>t170 (Gs:=Gs) (n:=n.Wm x cc.2) (k0:=2) (K:=2) (m:=M) h rfl hx1 hr (by omega) (by omega);have e3:=FF (n:=n.Wm x cc.2) h rfl (a:=a) (s:=alt) (C:=.p (.i .i64 cc.2)) (A:=.p (.sl (ints (n.Wt x cc.2)))) hr rfl rfl (M:=M) (by omega) (M+1) 0 [] (by omega) (by simp);have hpr:(UQ a 2 (M+1)).filter (λq=>decide (q≠(⟨a,alt+2⟩:aq)))=c_ a alt x:=by unfold c_;rw[hM2]
 rw[bp,hpr,aL]at e3;have e4:=λGs=>t169 (Gs:=Gs) (n:=n.Wm x cc.2) (l:=c_ a alt x) h hx1 hr h10 hlev (by omega) (by omega);rw[show((n.Wm x cc.2).cI (ch x.Us) (c_ a alt x).length).1=n.mQ a alt x cc.2 from rfl,show((n.Wm x cc.2).cI (ch x.Us) (c_ a alt x).length).2=n.qB a alt x cc.2 from rfl]at e4;have e6:=FG (r:=r) h rfl hr h10 mq (apps:=n.Wt x cc.2) (by omega) (c1:=[.p (.sl ((c_ a alt x).map aq.aw))]) (c2:=[]) (c3:=[.p (.sl (ints (n.qB a alt x cc.2)))]) (i1:=0) (i2:=0) (i3:=0) (Gs:=[]) rfl rfl (n.Wt x cc.2).length 0 (n.kq a alt x cc.2) (by omega) (by simpa using h4ok);rw[bp,show(n.kq a alt x cc.2).chain a b 0 (n.Wt x cc.2)=n.vK a b alt x cc.2 from rfl,hlA]at e6;have e7:=t185 (pg:=pg) (n:=n.vK a b alt x cc.2) (r:=r) (l:=c_ a alt x) (ds:=n.qB a alt x cc.2) (i:=1) (j:=0) (k:=2) (Gs:=[.box [.p (.sl ((c_ a alt x).map aq.aw))],.box [.ptr 0 0],.box [.p (.sl (ints (n.qB a alt x cc.2)))]]) h rfl rfl rfl (by omega) (by omega) (by omega) hr (by omega) hlD h5ok;rw[show(n.vK a b alt x cc.2).ft ((c_ a alt x).zip ((n.qB a alt x cc.2).map λd=>(⟨d,0⟩:aq)))=n.pick a b alt x cc.2 from rfl]at e7;simp only[fW,Nat.reduceAdd,aG,show((alt+2:Nat):Int)=(alt:Int)+2 from by omega,show((M+1:Nat):Int)=(M:Int)+1 from by omega]at e3 e6 e7;cases hrs:c_ a alt x with
 |nil =>
  rw[hrs]at e3 e4 e6 e7;simp only[AE,AF,AG,au,aL,aH]at e3 e4 e6 e7;have g2:=e4 [.box [.p (.i .i64 a),.p (.i .i64 ((alt:Int)+2))],.arr 2 ((UQ a 2 (M+1)).map aq.aw) M 0];simp only[av,aJ,aG,Nat.reduceAdd,aH,aL]at g2;cases hA:n.Wt x cc.2 with
  |nil =>
   have hc0:cc.2=0:=by rw[hA]at hlA;simpa using hlA.symm
   have hp3:n.kq a alt x cc.2=(n.mQ a alt x cc.2).join ⟨a,alt+2⟩ ⟨a,1⟩:=by unfold aI.kq;rw[hA]
   unfold oB at h3ok;rw[hA]at h3ok;obtain⟨⟨a1,a2,a3,a4,a5,a6⟩,_⟩:=h3ok;have g3:=λGs=>t178 (Gs:=Gs) h a1 a2 a3 a4 a5 a6 hr;rw[<- hp3]at g3;simp only[WW,show((alt+2:Nat):Int)=(alt:Int)+2 from by omega]at g3;rw[hA]at e1 e3 e6 hi;rw[h.run (x:=yK)];simp[yK,aj,h3,h10,t179 h hx hr,r179,Ux,aS,hcc,t152 h,(show bC pg 152=false from h.bq (x:=sT) rfl),t181 h hx hr h10,e1,e2,e3,uq k169,g2,Ur hc0,hi,g3,e6,e7,cR ((alt:Int)+2),gc,exp,aQ,UG,he,hb]
  |cons m0 ms =>
   have hc0:cc.2≠0:=by rw[hA]at hlA;simp at hlA;omega
   have hp3:n.kq a alt x cc.2=(n.mQ a alt x cc.2).move ⟨a,alt+2⟩ ⟨m0,0⟩:=by unfold aI.kq;rw[hA]
   unfold oB at h3ok;rw[hA]at h3ok;obtain⟨⟨a1,a2,a3,a4⟩,_⟩:=h3ok;have g3:=λGs=>t165 (Gs:=Gs) h a1 a2 a3 a4 hr;rw[<- hp3]at g3;simp only[fW,show((alt+2:Nat):Int)=(alt:Int)+2 from by omega]at g3;rw[hA]at e1 e3 e6 hi;have g4:(ints (m0::ms))[0]?=some [.i .i64 m0]:=rfl;rw[h.run (x:=yK)];simp[yK,aj,h3,h10,t179 h hx hr,r179,Ux,aS,hcc,t152 h,(show bC pg 152=false from h.bq (x:=sT) rfl),t181 h hx hr h10,e1,e2,e3,uq k169,g2,az hc0,hi,g3,g4,e6,e7,cR ((alt:Int)+2),gc,exp,aQ,UG,he,hb]
 |cons q0 qs =>
  rw[hrs]at e3 e4 e6 e7;simp only[AE,AF,AG,aL,aH]at e3 e4 e6 e7;have g5:=e4 [.box [.p (.i .i64 a),.p (.i .i64 ((alt:Int)+2))],.arr 2 ((q0::qs).map aq.aw) qs.length (Nat.max 0 (qs.length+1)),.arr 2 ((UQ a 2 (M+1)).map aq.aw) M 0];have g2:=vI (pg:=pg) (call:=E pg) (f:=169) (c:=(.p (.sl ((n.Wm x cc.2).ae.map Up.aw))::.p (.i .i64 (n.Wm x cc.2).aV)::r)) (id:=1) (len:=qs.length+1) (gen:=qs.length) (Gs:=[.box [.p (.i .i64 a),.p (.i .i64 ((alt:Int)+2))],.arr 2 ((q0::qs).map aq.aw) qs.length 0,.arr 2 ((UQ a 2 (M+1)).map aq.aw) M 0]) k169 rfl (by simp);rw[aF (by simp)]at g2;simp only[bF,bT]at g2;rw[g5]at g2;simp only[av,aJ,aG,Nat.reduceAdd,aH,aL]at g2;clear e4 g5;generalize (q0::qs).map aq.aw=R at e3 e6 e7 g2;cases hA:n.Wt x cc.2 with
  |nil =>
   have hc0:cc.2=0:=by rw[hA]at hlA;simpa using hlA.symm
   have hp3:n.kq a alt x cc.2=(n.mQ a alt x cc.2).join ⟨a,alt+2⟩ ⟨a,1⟩:=by unfold aI.kq;rw[hA]
   unfold oB at h3ok;rw[hA]at h3ok;obtain⟨⟨a1,a2,a3,a4,a5,a6⟩,_⟩:=h3ok;have g3:=λGs=>t178 (Gs:=Gs) h a1 a2 a3 a4 a5 a6 hr;rw[<- hp3]at g3;simp only[WW,show((alt+2:Nat):Int)=(alt:Int)+2 from by omega]at g3;rw[hA]at e1 e3 e6 hi;rw[h.run (x:=yK)];simp[yK,aj,h3,h10,t179 h hx hr,r179,Ux,aS,hcc,t152 h,(show bC pg 152=false from h.bq (x:=sT) rfl),t181 h hx hr h10,e1,e2,e3,g2,Ur hc0,hi,g3,e6,e7,cR ((alt:Int)+2),gc,exp,aQ,UG,he,hb]
  |cons m0 ms =>
   have hc0:cc.2≠0:=by rw[hA]at hlA;simp at hlA;omega
   have hp3:n.kq a alt x cc.2=(n.mQ a alt x cc.2).move ⟨a,alt+2⟩ ⟨m0,0⟩:=by unfold aI.kq;rw[hA]
   unfold oB at h3ok;rw[hA]at h3ok;obtain⟨⟨a1,a2,a3,a4⟩,_⟩:=h3ok;have g3:=λGs=>t165 (Gs:=Gs) h a1 a2 a3 a4 hr;rw[<- hp3]at g3;simp only[fW,show((alt+2:Nat):Int)=(alt:Int)+2 from by omega]at g3;rw[hA]at e1 e3 e6 hi;have g4:(ints (m0::ms))[0]?=some [.i .i64 m0]:=rfl;rw[h.run (x:=yK)];simp[yK,aj,h3,h10,t179 h hx hr,r179,Ux,aS,hcc,t152 h,(show bC pg 152=false from h.bq (x:=sT) rfl),t181 h hx hr h10,e1,e2,e3,g2,az hc0,hi,g3,g4,e6,e7,cR ((alt:Int)+2),gc,exp,aQ,UG,he,hb]
def aI.UT (n:aI)(a b:Nat):aI:=(n.free (max a b)).free (min a b)
def XF (n:aI)(a b:Nat):Prop:=(∃x,n.ae[max a b]?=some x/\x.ao≠0)/\∃x,(n.free (max a b)).ae[min a b]?=some x/\x.ao≠0
theorem aI.AH (n:aI)(i:Nat):(n.free i).ae.length<=n.ae.length:=by
 unfold aI.free;simp only[gF,cK];omega
theorem t147 (h:bY pg){n:aI}{i:Nat}{x:Up}(hl:n.ae.length<2 ^ 30)(hx:n.ae[i]?=some x)(hk:x.ao≠0) :
  UM pg (E pg) 147 [.ag [.p (.sl (n.ae.map Up.aw)),.p (.i .i64 n.aV)],.p (.i .i64 i)] G=some (.ret (.dF [.ag [.p (.sl ((n.free i).ae.map Up.aw)),.p (.i .i64 n.aV)],.p (.i .i64 0)]),G):=Ut (NO h hl hx hk) rfl rfl
theorem se (a b:Nat):qL a b=((max a b:Nat):Int):=by unfold qL;split<;>omega
theorem sf (a b:Nat):Dn a b=((min a b:Nat):Int):=by unfold Dn;split<;>omega
theorem Jy (h:bY pg){body:aU}(hb:body=X8){m:aI}{r:List AV}{a b:Nat}(hr:bm r=true)(hl:m.ae.length<2 ^ 30)(hf:XF m a b) :
  ∃G',L pg 1 [0,76,77,78] body [(0,.ptr 0 0),(76,.arr 1 2 0),(77,.p (.i .i64 2)),(78,.p (.i .i64 0))] [.box (.p (.sl (m.ae.map Up.aw))::.p (.i .i64 m.aV)::r),.arr 1 [[.i .i64 (max a b:Nat)],[.i .i64 (min a b:Nat)]] 0 0]=some (.exit 1,[(0,.ptr 0 0),(76,.arr 1 2 0),(77,.p (.i .i64 2)),(78,.p (.i .i64 2)),(79,.p (.b false))],.box (.p (.sl ((m.UT a b).ae.map Up.aw))::.p (.i .i64 (m.UT a b).aV)::r)::G'):=by
 have he:∀e,aQ true e r=some (r,e):=λe=>bS true e hr;obtain⟨⟨x,hx,hxk⟩,y,hy,hyk⟩:=hf;have hl2:=aI.AH m (max a b);have e1:=λG=>t147 (G:=G) h hl hx hxk;have e2:=λG=>t147 (G:=G) h (by omega) hy hyk;have hc:(m.free (max a b)).aV=m.aV:=rfl;rw[hc]at e2;refine⟨[.arr 1 [[.i .i64 (max a b:Nat)],[.i .i64 (min a b:Nat)]] 0 0],?_⟩;have h3:L pg 1 [0,76,77,78] body [(0,.ptr 0 0),(76,.arr 1 2 0),(77,.p (.i .i64 2)),(78,.p (.i .i64 2))] [.box (.p (.sl ((m.UT a b).ae.map Up.aw))::.p (.i .i64 (m.UT a b).aV)::r),.arr 1 [[.i .i64 (max a b:Nat)],[.i .i64 (min a b:Nat)]] 0 0]=some (.exit 1,[(0,.ptr 0 0),(76,.arr 1 2 0),(77,.p (.i .i64 2)),(78,.p (.i .i64 2)),(79,.p (.b false))],.box (.p (.sl ((m.UT a b).ae.map Up.aw))::.p (.i .i64 (m.UT a b).aV)::r)::[.arr 1 [[.i .i64 (max a b:Nat)],[.i .i64 (min a b:Nat)]] 0 0]):=by
  rw[dA hb];simp[X8,aj]
 have hc2:(m.UT a b).aV=m.aV:=rfl;rw[hc2]at h3;have hm2:(m.free (max a b)).free (min a b)=m.UT a b:=rfl;rw[hm2]at e2;generalize max a b=hi at *;generalize min a b=lo at *;have h2:L pg 1 [0,76,77,78] body [(0,.ptr 0 0),(76,.arr 1 2 0),(77,.p (.i .i64 2)),(78,.p (.i .i64 1))] [.box (.p (.sl ((m.free hi).ae.map Up.aw))::.p (.i .i64 m.aV)::r),.arr 1 [[.i .i64 hi],[.i .i64 lo]] 0 0]=some (.exit 1,[(0,.ptr 0 0),(76,.arr 1 2 0),(77,.p (.i .i64 2)),(78,.p (.i .i64 2)),(79,.p (.b false))],.box (.p (.sl ((m.UT a b).ae.map Up.aw))::.p (.i .i64 (m.UT a b).aV)::r)::[.arr 1 [[.i .i64 hi],[.i .i64 lo]] 0 0]):=by
  rw[dA hb];simp[X8,aj,e2,cR 2,gc,exp,aQ,UG,he,h3,hc2]
 rw[hc2]at h2;rw[dA hb];simp[X8,aj,e1,cR 1,gc,exp,aQ,UG,he,h2,hc2]
theorem t162 (h:bY pg){n m:aI}{r:List AV}{f:Nat}{Gs:Heap}(hs:E pg f [.ptr 0 0] [.box (.p (.sl (n.ae.map Up.aw))::.p (.i .i64 n.aV)::r)]=some (.ret (.dF []),[.box (.p (.sl (m.ae.map Up.aw))::.p (.i .i64 m.aV)::r)]))(hr:bm r=true) :
  UM pg (E pg) f [.ptr 0 0] (.box (.p (.sl (n.ae.map Up.aw))::.p (.i .i64 n.aV)::r)::Gs)=some (.ret (.dF []),.box (.p (.sl (m.ae.map Up.aw))::.p (.i .i64 m.aV)::r)::Gs) :=
 iO hs rfl (by simpa [bm,cE] using hr) (by simpa [bm,cE] using hr) rfl
def Jz (k:Nat):Option Nat:=if k=1\/k=6 then some 162 else if k=2 then some 163 else if k=3 then some 164 else if k=5 then some 167 else if k=7 then some 168 else none
theorem DW (h:bY pg){n m:aI}{r:List AV}{a b k f:Nat}(hr:bm r=true)(h0:r[0]?=some (.p (.i .i64 k)))(h10:r[10]?=some (.p (.i .i64 a)))(mq:r[11]?=some (.p (.i .i64 b)))
  (hk:Jz k=some f) (hs:E pg f [.ptr 0 0] [.box (.p (.sl (n.ae.map Up.aw))::.p (.i .i64 n.aV)::r)]=some (.ret (.dF []),[.box (.p (.sl (m.ae.map Up.aw))::.p (.i .i64 m.aV)::r)])) (hl:m.ae.length<2 ^ 30) (hf:XF m a b) :
  E pg 145 [.ptr 0 0] [.box (.p (.sl (n.ae.map Up.aw))::.p (.i .i64 n.aV)::r)]=some (.ret (.dF []),[.box (.p (.sl ((m.UT a b).ae.map Up.aw))::.p (.i .i64 (m.UT a b).aV)::r)]):=by
 have he:∀e,aQ true e r=some (r,e):=λe=>bS true e hr;have hb:=bE 1 hr;have e1:=λGs=>t162 (Gs:=Gs) h hs hr;obtain⟨G',hL⟩:=Jy h rfl hr hl hf;have hk':k=1\/k=6\/k=2\/k=3\/k=5\/k=7:=by
  unfold Jz at hk;split at hk
  ·omega
  ·split at hk
   ·omega
   ·split at hk
    ·omega
    ·split at hk
     ·omega
     ·split at hk
      ·omega
      ·cases hk
 rw[h.run (x:=yH)];rcases hk' with rfl|rfl|rfl|rfl|rfl|rfl
 all_goals
  simp[Jz]at hk;subst hk;simp[yH,aj,h0,h10,mq,e1,Uu.Uv,cO,Vy,ee,aS,se,sf,gc,exp,aQ,UG,he,hL,hb]
def aI.out (n:aI)(a:Nat)(z:Up):aI:=(n.make z).move ⟨a,1⟩ ⟨n.cg,0⟩
theorem Lr (h:bY pg){n:aI}{r:List AV}{a b:Nat}{z:Up}(hr:bm r=true)(h0:r[0]?=some (.p (.i .i64 4)))(hz:(r.drop 4).take 6=[.p (.i .i64 z.ao),.p (.i .i64 z.Us),.p (.i .i64 z.n),.p (.s z.name),.p (.sl (z.aY.map Ux)),.p (.sl (z.to.map aq.aw))])(hrl:10<=r.length)(h10:r[10]?=some (.p (.i .i64 a)))(mq:r[11]?=some (.p (.i .i64 b)))
  (hln:n.ae.length<2 ^ 20) (hkz:2<=z.ao) (hzok:z.ok=true) (hzp:z.bO<2 ^ 30) (hu:n.used<n.aV) (hm:dS (n.make z) [(⟨a,1⟩,⟨n.cg,0⟩)]) (hl:(n.out a z).ae.length<2 ^ 30) (hf:XF (n.out a z) a b) :
  E pg 145 [.ptr 0 0] [.box (.p (.sl (n.ae.map Up.aw))::.p (.i .i64 n.aV)::r)]=some (.ret (.dF []),[.box (.p (.sl (((n.out a z).UT a b).ae.map Up.aw))::.p (.i .i64 ((n.out a z).UT a b).aV)::r)]):=by
 have he:∀e,aQ true e r=some (r,e):=λe=>bS true e hr;have hb:=bE 1 hr;obtain⟨⟨a1,a2,a3,a4⟩,_⟩:=hm;have e1:=λGs=>t166 (Gs:=Gs) h (by omega:n.ae.length<2 ^ 30) hkz hzok hzp hu hr;have e2:=λGs=>t165 (Gs:=Gs) h a1 a2 a3 a4 hr;simp only[fW,WW]at e2;rw[show(n.make z).move ⟨a,1⟩ ⟨n.cg,0⟩=n.out a z from rfl]at e2;obtain⟨G',hL⟩:=Jy h rfl hr hl hf;have hrl':6+6<=r.length+1+1:=by omega
 rw[h.run (x:=yH)];simp[yH,aj,h0,h10,mq,hz,hrl',t152 h,(show bC pg 152=false from h.bq (x:=sT) rfl),e1,e2,Uu.Uv,cO,Vy,ee,aS,se,sf,gc,exp,aQ,UG,he,hL,hb]
def cw (b:Nat)(y:Up):List aq:=UQ b 1 (y.to.length-1)
def aI.jA (n:aI)(b Us:Nat)(y:Up):aI:=((n.cI (ch Us) (cw b y).length).1).ft ((cw b y).zip (eD (n.cI (ch Us) (cw b y).length).2))
theorem Ls (h:bY pg){n:aI}{r:List AV}{a b:Nat}{x y:Up}(hx:n.ae[a]?=some x)(hy:n.ae[b]?=some y)(hr:bm r=true)(h0:r[0]?=some (.p (.i .i64 8)))(h10:r[10]?=some (.p (.i .i64 a)))(mq:r[11]?=some (.p (.i .i64 b)))
  (hyl:y.to.length<2 ^ 20) (hlev:x.Us<=60) (hln:n.ae.length<2 ^ 20) (hu:n.used+(cw b y).length<=n.aV)
  (hok:dS (n.cI (ch x.Us) (cw b y).length).1 ((cw b y).zip (eD (n.cI (ch x.Us) (cw b y).length).2))) (hl:(n.jA b x.Us y).ae.length<2 ^ 30) (hf:XF (n.jA b x.Us y) a b) :
  E pg 145 [.ptr 0 0] [.box (.p (.sl (n.ae.map Up.aw))::.p (.i .i64 n.aV)::r)]=some (.ret (.dF []),[.box (.p (.sl (((n.jA b x.Us y).UT a b).ae.map Up.aw))::.p (.i .i64 ((n.jA b x.Us y).UT a b).aV)::r)]):=by
 have he:∀e,aQ true e r=some (r,e):=λe=>bS true e hr;have hb:=bE 1 hr;obtain⟨G',hL⟩:=Jy h rfl hr hl hf;have hdl:(cw b y).length=y.to.length-1:=bN _ _ _;have k169:bC pg 169=false:=(show bC pg 169=false from h.bq (x:=DP) rfl)
 have e3:=λGs=>t169 (Gs:=Gs) (l:=cw b y) h hx hr h10 hlev (by omega) (by omega);have e4:=λGs i j k h1 h2 h3 hij hjk hik=>t185 (i:=i) (j:=j) (k:=k) (Gs:=Gs) h h1 h2 h3 hij hjk hik hr (by omega) (jz _ _ _) hok;by_cases hy2:y.to.length<=1
 ·have hf0:cw b y=[]:=by unfold cw;rw[show y.to.length-1=0 from by omega];rfl
  have f1:=λGs=>AD (Gs:=Gs) (k0:=1) (K:=1) h rfl hy hr (by omega) hy2 (by omega);unfold aI.jA at hL ⊢;rw[hf0]at e3 e4 hL ⊢;have e5:=e3 [];have e6:=e4 [.box [.ptr 0 0],.box [.p (.sl [])],.box [.p (.sl (ints (n.cI (ch x.Us) 0).2))]] 0 1 2 rfl rfl rfl (by omega) (by omega) (by omega);simp only[au,aJ,aG,Nat.reduceAdd,aL,aH,eD]at e5 e6 hL ⊢;rw[h.run (x:=yH)];simp[yH,aj,h0,h10,mq,f1,uq k169,e5,e6,Uu.Uv,cO,Vy,ee,aS,se,sf,gc,exp,aQ,UG,he,hb];simp at hL;rw[hL];simp[aj,hb]
 ·obtain⟨v,hv'⟩:∃v,y.to.length=1+(v+1):=⟨y.to.length-2,by omega⟩
  have f1:=λGs=>t170 (Gs:=Gs) (k0:=1) (K:=1) (m:=v) h rfl hy hr (by omega) (by omega);have hfp:UQ b 1 (v+1)=cw b y:=by unfold cw;rw[show y.to.length-1=v+1 from by omega]
  rw[hfp]at f1;have g2:=vI (pg:=pg) (call:=E pg) (f:=169) (c:=(.p (.sl (n.ae.map Up.aw))::.p (.i .i64 n.aV)::r)) (id:=0) (len:=v+1) (gen:=v) (Gs:=[.arr 2 ((cw b y).map aq.aw) v 0]) k169 rfl (by simp;omega);have e5:=e3 [.arr 2 ((cw b y).map aq.aw) v (Nat.max 0 (v+1))];have e6:=e4 [.arr 2 ((cw b y).map aq.aw) v (v+1),.box [.ptr 0 0],.box [.p (.sl ((cw b y).map aq.aw))],.box [.p (.sl (ints (n.cI (ch x.Us) (cw b y).length).2))]] 1 2 3 rfl rfl rfl (by omega) (by omega) (by omega);rw[aF (by simp;omega)]at g2;rw[show [fE.arr 2 ((cw b y).map aq.aw) v 0].set 0 (.arr 2 ((cw b y).map aq.aw) v (Nat.max 0 (v+1)))=[.arr 2 ((cw b y).map aq.aw) v (Nat.max 0 (v+1))] from rfl,e5]at g2;rw[show(n.cI (ch x.Us) (cw b y).length).1.ft ((cw b y).zip ((n.cI (ch x.Us) (cw b y).length).2.map λd=>(⟨d,0⟩:aq)))=n.jA b x.Us y from rfl]at e6;simp only[av,aJ,aG,Nat.reduceAdd,aH,aL]at g2 e6;rw[h.run (x:=yH)];simp[yH,aj,h0,h10,mq,f1,g2,e6,Uu.Uv,cO,Vy,ee,aS,se,sf,gc,exp,aQ,UG,he,hL,hb]
end
theorem aq.eq_mk {r:aq}{i k:Nat}:r=⟨i,k⟩↔r.aD=i/\r.aT=k:=by
 cases r;simp
theorem bu {p:aq}{i k m:Nat}:p∈UQ i k m↔p.aD=i/\k<=p.aT/\p.aT<k+m:=by
 unfold UQ;simp only[bj,VM];constructor
 ·rintro⟨j,hj,rfl⟩;exact⟨rfl,hj⟩
 ·rintro⟨rfl,h⟩;exact⟨p.aT,h,rfl⟩
theorem du (i k m:Nat):(UQ i k m).Nodup:=by
 unfold UQ;refine VO _ (λa b hab e=>hab ?_) (List.nodup_range' (step:=1));simpa using e
theorem gV {p:aq}{ds:List Nat}:p∈eD ds↔p.aD∈ds/\p.aT=0:=by
 unfold eD;simp only[bj];constructor
 ·rintro⟨d,hd,rfl⟩;exact⟨hd,rfl⟩
 ·rintro⟨h1,h2⟩;exact⟨p.aD,h1,by cases p;simp_all⟩
theorem mR {ds:List Nat}(h:ds.Nodup):(eD ds).Nodup:=by
 unfold eD;refine VO _ (λa b hab e=>hab ?_) h;simpa using e
def Fix (n:aI)(a b:Nat)(r:aq):Prop:=n.has r/\r.aD≠a/\r.aD≠b/\(n.pr r).aD≠a/\(n.pr r).aD≠b
structure lF (n:aI)(a b:Nat)(m:aI)(H D:aq->Prop):Prop where
 sk:m.Sk
 aV:m.aV=n.aV
 bq:∀(i:Nat) (y:Up),n.ae[i]?=some y->y.ao≠0->∃y',m.ae[i]?=some y'/\y'.bare=y.bare
 has:∀p,m.has p↔H p
 lk:Lk m D
 len:m.ae.length<=m.aV
 fh:∀r,Fix n a b r->H r/\¬ D r
 fr:∀r,Fix n a b r->m.pr r=n.pr r
 fc:∀r,Fix n a b r->Fix n a b (n.pr r)
theorem lF.congr {n m:aI}{a b:Nat}{H D D':aq->Prop}(h:lF n a b m H D)(hd:∀p,H p->(D' p↔D p)):lF n a b m H D' :=
 ⟨h.sk,h.aV,h.bq,h.has,h.lk.congr (λp hp=>hd p ((h.has p).1 hp)),h.len,λr hr=>⟨(h.fh r hr).1,λe=>(h.fh r hr).2 ((hd r (h.fh r hr).1).1 e)⟩,h.fr,h.fc⟩
theorem lF.bare {n m m':aI}{a b:Nat}{H D D':aq->Prop}(h:lF n a b m H D)(hb:UU m' m)(hl:Lk m' D')(hf:∀r,Fix n a b r->m'.pr r=m.pr r/\¬ D' r):lF n a b m' H D':=by
 refine⟨h.sk.bare hb,by rw[hb.1];exact h.aV,λi y hy hk=>?_,λp=>by rw[hb.has];exact h.has p,hl,by rw[hb.1,hb.2.1];exact h.len,λr hr=>⟨(h.fh r hr).1,(hf r hr).2⟩,λr hr=>(hf r hr).1.trans (h.fr r hr),h.fc⟩;obtain⟨y',h1,h2⟩:=h.bq i y hy hk;obtain⟨y'',h3,h4⟩:=hb.at h1;exact⟨y'',h3,h4.trans h2⟩
theorem lF.fix {n m:aI}{a b:Nat}{H D:aq->Prop}(h:lF n a b m H D)(r:aq)(hr:Fix n a b r):m.has r/\¬ D r/\Fix n a b (m.pr r):=by
 rw[h.fr r hr];exact⟨(h.has r).2 (h.fh r hr).1,(h.fh r hr).2,h.fc r hr⟩
theorem lF.nJ {n m:aI}{a b:Nat}{H D:aq->Prop}(h:lF n a b m H D){ps qs:List aq}(hl:ps.length=qs.length)(h0:∀p,p∈ps->p.aD=a\/p.aD=b)(h1:∀p,p∈ps->H p/\¬ D p)(h2:∀q,q∈qs->H q/\D q)(n1:ps.Nodup)(n2:qs.Nodup) :
  dS m (ps.zip qs)/\lF n a b (m.ft (ps.zip qs)) H (λr=>(D r/\r∉qs)\/r∈ps):=by
 have e1:(ps.zip qs).map (·.1)=ps:=gI (by omega);have e2:(ps.zip qs).map (·.2)=qs:=gJ (by omega);obtain⟨a1,a2,a3,a4⟩:=Ay (ps.zip qs) h.lk h.sk.nh (λpq hpq=>by
  obtain⟨m1,m2⟩:=eG (show(pq.1,pq.2)∈ps.zip qs from hpq);exact⟨(h.has _).2 (h1 _ m1).1,(h.has _).2 (h2 _ m2).1,(h1 _ m1).2,(h2 _ m2).2⟩) (by rw[e1];exact n1) (by rw[e2];exact n2)
 rw[e1,e2]at a2;have n0:∀p,p∈ps->¬ Fix n a b p:=λp hp hf=>by have:=h0 p hp;exact this.elim hf.2.1 hf.2.2.1
 refine⟨a1,h.bare a3 a2 (λr hr=>⟨a4 (Fix n a b) h.fix (λpq hpq=>n0 _ (eG (show(pq.1,pq.2)∈ps.zip qs from hpq)).1) r hr,λe=>?_⟩)⟩;rcases e with e|e
 ·exact(h.fh r hr).2 e.1
 ·exact n0 r e hr
theorem lF.AI {n m:aI}{a b:Nat}{H D:aq->Prop}(h:lF n a b m H D){ps qs:List aq}(hl:ps.length=qs.length)(h0:∀p,p∈ps->p.aD=a\/p.aD=b)(h0':∀p,p∈qs->p.aD=a\/p.aD=b)(h1:∀p,p∈ps->H p/\¬ D p)(h2:∀q,q∈qs->H q/\¬ D q)(n1:ps.Nodup)(n2:qs.Nodup)(h3:∀p,p∈ps->p∉qs) :
  ow m (ps.zip qs)/\lF n a b (m.Vq (ps.zip qs)) H (λr=>D r\/r∈ps\/r∈qs):=by
 have e1:(ps.zip qs).map (·.1)=ps:=gI (by omega);have e2:(ps.zip qs).map (·.2)=qs:=gJ (by omega);obtain⟨a1,a2,a3,a4⟩:=Az (ps.zip qs) h.lk h.sk.nh (λpq hpq=>by
  obtain⟨m1,m2⟩:=eG (show(pq.1,pq.2)∈ps.zip qs from hpq);exact⟨(h.has _).2 (h1 _ m1).1,(h.has _).2 (h2 _ m2).1,(h1 _ m1).2,(h2 _ m2).2⟩) (by rw[e1];exact n1) (by rw[e2];exact n2) (by rw[e1,e2];exact h3)
 rw[e1,e2]at a2;have n0:∀p,p∈ps->¬ Fix n a b p:=λp hp hf=>by have:=h0 p hp;exact this.elim hf.2.1 hf.2.2.1
 have n0':∀p,p∈qs->¬ Fix n a b p:=λp hp hf=>by have:=h0' p hp;exact this.elim hf.2.1 hf.2.2.1
 refine⟨a1,h.bare a3 a2 (λr hr=>⟨a4 (Fix n a b) h.fix (λpq hpq=>⟨n0 _ (eG (show(pq.1,pq.2)∈ps.zip qs from hpq)).1,n0' _ (eG (show(pq.1,pq.2)∈ps.zip qs from hpq)).2⟩) r hr,λe=>?_⟩)⟩;rcases e with e|e|e
 ·exact(h.fh r hr).2 e
 ·exact n0 r e hr
 ·exact n0' r e hr
theorem lF.vL {n m:aI}{a b:Nat}{H D:aq->Prop}(h:lF n a b m H D){ps qs:List aq}(hl:ps.length=qs.length)(h1:∀p,p∈ps->H p/\D p)(h2:∀q,q∈qs->H q/\D q)(n1:ps.Nodup)(n2:qs.Nodup)(h3:∀p,p∈ps->p∉qs) :
  W7 m (ps.zip qs)/\lF n a b (m.jy (ps.zip qs)) H (λr=>D r/\r∉ps/\r∉qs):=by
 have e1:(ps.zip qs).map (·.1)=ps:=gI (by omega);have e2:(ps.zip qs).map (·.2)=qs:=gJ (by omega);obtain⟨a1,a2,a3,a4⟩:=AA (ps.zip qs) h.lk h.sk.nh (λpq hpq=>by
  obtain⟨m1,m2⟩:=eG (show(pq.1,pq.2)∈ps.zip qs from hpq);exact⟨(h.has _).2 (h1 _ m1).1,(h.has _).2 (h2 _ m2).1,(h1 _ m1).2,(h2 _ m2).2⟩) (by rw[e1];exact n1) (by rw[e2];exact n2) (by rw[e1,e2];exact h3)
 rw[e1,e2]at a2;exact⟨a1,h.bare a3 a2 (λr hr=>⟨a4 (Fix n a b) h.fix r hr,λe=>(h.fh r hr).2 e.1⟩)⟩
theorem lF.cI {n m:aI}{a b:Nat}{H D:aq->Prop}(h:lF n a b m H D){x:Up}(hk:2<=x.ao)(hx:x.ok=true)(hp:x.ao=8->x.to.length=x.bO)(hpos:0<x.bO){k:Nat}(hu:m.used+k<=m.aV) :
  lF n a b (m.cI x k).1 (λp=>H p\/(p.aD∈(m.cI x k).2/\p.aT<x.bO)) (λr=>D r\/r.aD∈(m.cI x k).2)/\(m.cI x k).2.Nodup/\(∀p,H p->p.aD∉(m.cI x k).2)/\(m.cI x k).1.used=m.used+k/\(m.cI x k).2.length=k:=by
 have hL:=vD hk hx hp hpos k h.sk hu;refine⟨⟨hL.sk,by rw[hL.aV];exact h.aV,λi y hy hky=>?_,λp=>?_,hL.lk _ h.lk,hL.sk.len.2,λr hr=>⟨.inl (h.fh r hr).1,λe=>?_⟩,λr hr=>(hL.pr r ((h.has r).2 (h.fh r hr).1)).trans (h.fr r hr),h.fc⟩,hL.nodup,λp hp=>hL.d_ p ((h.has p).2 hp),by rw[hL.used,jz],jz _ _ _⟩
 ·obtain⟨y',h1,h2⟩:=h.bq i y hy hky;exact⟨y',hL.bq _ _ h1 (by rw[(Up.eB h2).2.2.1];exact hky),h2⟩
 ·rw[hL.has,h.has]
 ·rcases e with e|e
  ·exact(h.fh r hr).2 e
  ·exact hL.d_ r ((h.has r).2 (h.fh r hr).1) e
theorem lF.make {n m:aI}{a b:Nat}{H D:aq->Prop}(h:lF n a b m H D){x:Up}(hk:2<=x.ao)(hx:x.ok=true)(hp:x.ao=8->x.to.length=x.bO)(hpos:0<x.bO)(hu:m.used<m.aV) :
  lF n a b (m.make x) (λp=>H p\/(p.aD=m.cg/\p.aT<x.bO)) (λr=>D r\/r.aD=m.cg)/\(∀p,H p->p.aD≠m.cg)/\(m.make x).used=m.used+1:=by
 obtain⟨a1,a2,a3,a4,a5⟩:=h.cI hk hx hp hpos (k:=1) (by omega);simp only[aI.cI,br]at a1 a3 a4;exact⟨a1,a3,a4⟩
structure wZ (n m:aI)(a b:Nat):Prop where
 free:XF m a b
 ok:(m.UT a b).Ok
 len:m.ae.length<2 ^ 30
 aV:(m.UT a b).aV=n.aV
 fix:∀r,Fix n a b r->(m.UT a b).has r/\(m.UT a b).pr r=n.pr r
 bq:∀(i:Nat) (y:Up),i≠a->i≠b->n.ae[i]?=some y->y.ao≠0->∃y',(m.UT a b).ae[i]?=some y'/\y'.bare=y.bare
theorem lF.finish {n m:aI}{a b:Nat}{H D:aq->Prop}(h:lF n a b m H D)(hab:a≠b){x y:Up}(hx:n.ae[a]?=some x)(hy:n.ae[b]?=some y)(kx:2<=x.ao)(ky:2<=y.ao)(hD:∀p,H p->(D p↔p.aD=a\/p.aD=b)) :
  wZ n m a b:=by
 have h':=h.congr (D':=λp=>p.aD=a\/p.aD=b) (λp hp=>(hD p hp).symm);obtain⟨x',hx1,hx2⟩:=h.bq a x hx (by omega);obtain⟨y',hy1,hy2⟩:=h.bq b y hy (by omega);have kx':=(Up.eB hx2).2.2.1;have ky':=(Up.eB hy2).2.2.1;have ha0:a≠0:=λe=>by
  have:=(h.sk.aD a x' hx1).2.2.2 e;omega
 have hb0:b≠0:=λe=>by
  have:=(h.sk.aD b y' hy1).2.2.2 e;omega
 have hlen:=h.sk.len;have jH:=h.sk.aV;have s1:=h.sk.free (i:=max a b) (by omega);have s2:=s1.free (i:=min a b) (by omega);have l1:=h'.lk.free h.sk (i:=max a b) (λp _ hp=>by show p.aD=a\/p.aD=b;omega);have l2:=l1.free s1 (i:=min a b) (λp _ hp=>by show p.aD=a\/p.aD=b;omega);refine⟨?_,s2.ok l2 (λp hp=>?_),by omega,h.aV,λr hr=>?_,λi z hia hib hz hzk=>?_⟩
 ·by_cases hlt:a<b
  ·have e1:max a b=b:=by omega
   have e2:min a b=a:=by omega
   refine⟨?_,?_⟩
   ·rw[e1];exact⟨y',hy1,by omega⟩
   ·rw[e1,e2];exact⟨x',aI.jc hx1 (by omega) (by omega),by omega⟩
  ·have e1:max a b=a:=by omega
   have e2:min a b=b:=by omega
   refine⟨?_,?_⟩
   ·rw[e1];exact⟨x',hx1,by omega⟩
   ·rw[e1,e2];exact⟨y',aI.jc hy1 (by omega) (by omega),by omega⟩
 ·have h1:=s1.Wb.1 hp;have h2:=h.sk.Wb.1 h1.1
  show ¬ (p.aD=a\/p.aD=b)
  omega
 ·obtain⟨f1,f2,f3,f4,f5⟩:=hr;have q1:(m.free (max a b)).has r:=h.sk.Wb.2 ⟨(h.has r).2 (h.fh r ⟨f1,f2,f3,f4,f5⟩).1,by omega⟩;have q2:((m.free (max a b)).free (min a b)).has r:=s1.Wb.2 ⟨q1,by omega⟩;refine⟨q2,?_⟩
  show((m.free (max a b)).free (min a b)).pr r=n.pr r
  rw[s1.uo q2,h.sk.uo q1];exact h.fr r ⟨f1,f2,f3,f4,f5⟩
 ·obtain⟨z',hz1,hz2⟩:=h.bq i z hz hzk;have hzk':z'.ao≠0:=by rw[(Up.eB hz2).2.2.1];exact hzk
  exact⟨z',aI.jc (aI.jc hz1 hzk' (by omega)) hzk' (by omega),hz2⟩
structure pE (n:aI)(a b:Nat)(x y:Up):Prop where
 ok:n.Ok
 hx:n.ae[a]?=some x
 hy:n.ae[b]?=some y
 x1:1<=x.to.length
 y1:1<=y.to.length
 pr:n.pr ⟨a,0⟩=⟨b,0⟩
theorem pE.ne {n:aI}{a b:Nat}{x y:Up}(h:pE n a b x y):a≠b:=by
 have h1:=h.ok.lk ⟨a,0⟩ ⟨x,h.hx,h.x1⟩ id;intro e;rw[h.pr,e]at h1;exact h1.2.2.2 rfl
theorem pE.back {n:aI}{a b:Nat}{x y:Up}(h:pE n a b x y):n.pr ⟨b,0⟩=⟨a,0⟩:=by
 have h1:=h.ok.lk ⟨a,0⟩ ⟨x,h.hx,h.x1⟩ id;rw[h.pr]at h1;exact h1.2.2.1
theorem pE.swap {n:aI}{a b:Nat}{x y:Up}(h:pE n a b x y):pE n b a y x:=⟨h.ok,h.hy,h.hx,h.y1,h.x1,h.back⟩
theorem pE.st {n:aI}{a b:Nat}{x y:Up}(h:pE n a b x y):lF n a b n n.has (λr=>r=⟨a,0⟩\/r=⟨b,0⟩):=by
 refine⟨h.ok.sk,rfl,λi y hy _=>⟨y,hy,rfl⟩,λp=>.rfl,λp hp hD=>?_,h.ok.len.2,λr hr=>⟨hr.1,λe=>?_⟩,λr hr=>rfl,λr hr=>?_⟩
 ·obtain⟨a1,a2,a3,a4⟩:=h.ok.lk p hp id;refine⟨a1,λe=>hD ?_,a3,a4⟩;rcases e with e|e
  ·right;rw[<- a3,e];exact h.pr
  ·left;rw[<- a3,e];exact h.back
 ·rcases e with rfl|rfl
  ·exact hr.2.1 rfl
  ·exact hr.2.2.1 rfl
 ·obtain⟨a1,a2,a3,a4⟩:=h.ok.lk r hr.1 id;exact⟨a1,hr.2.2.2.1,hr.2.2.2.2,by rw[a3];exact hr.2.1,by rw[a3];exact hr.2.2.1⟩
theorem pE.ha {n:aI}{a b:Nat}{x y:Up}(h:pE n a b x y)(p:aq)(hp:p.aD=a):n.has p↔p.aT<x.to.length:=by
 constructor
 ·rintro⟨z,hz,hs⟩;rw[hp,h.hx]at hz;cases hz;exact hs
 ·intro hs;exact⟨x,by rw[hp];exact h.hx,hs⟩
theorem pE.hb {n:aI}{a b:Nat}{x y:Up}(h:pE n a b x y)(p:aq)(hp:p.aD=b):n.has p↔p.aT<y.to.length:=h.swap.ha p hp
theorem pE.join {n:aI}{a b:Nat}{x y:Up}(h:pE n a b x y)(kx:2<=x.ao)(ky:2<=y.ao)(hl:x.to.length=y.to.length){m:aI}(hm:m=n.Vq ((UQ a 1 (x.to.length-1)).zip (UQ b 1 (x.to.length-1)))) :
  ow n ((UQ a 1 (x.to.length-1)).zip (UQ b 1 (x.to.length-1)))/\wZ n m a b:=by
 subst hm;have ha:=h.ha;have hb:=h.hb;have hne:=h.ne;have hx1:=h.x1;obtain⟨h1,h2⟩:=h.st.AI (ps:=UQ a 1 (x.to.length-1)) (qs:=UQ b 1 (x.to.length-1)) (by rw[bN,bN]) (λp hp=>.inl (bu.1 hp).1) (λp hp=>.inr (bu.1 hp).1) (λp hp=>by
  rw[bu]at hp;simp only[aq.eq_mk];exact⟨(ha p hp.1).2 (by omega),by omega⟩) (λp hp=>by
  rw[bu]at hp;simp only[aq.eq_mk];exact⟨(hb p hp.1).2 (by omega),by omega⟩) (du _ _ _) (du _ _ _) (λp hp hq=>by
  rw[bu]at hp hq;omega)
 refine⟨h1,h2.finish hne h.hx h.hy kx ky (λp hp=>?_)⟩;have ha:=ha p;have hb:=hb p;simp only[bu,aq.eq_mk];constructor
 ·omega
 ·rintro(e|e)
  ·have:=(ha e).1 hp;omega
  ·have:=(hb e).1 hp;omega
theorem pE.pa {n:aI}{a b:Nat}{x y:Up}(h:pE n a b x y){k:Nat}(hk:k<x.to.length):n.has ⟨a,k⟩:=⟨x,h.hx,hk⟩
theorem pE.pb {n:aI}{a b:Nat}{x y:Up}(h:pE n a b x y){k:Nat}(hk:k<y.to.length):n.has ⟨b,k⟩:=⟨y,h.hy,hk⟩
theorem lF.FH {n m:aI}{a b:Nat}{H D:aq->Prop}(h:lF n a b m H D){p q p' q':aq}(h0:p.aD=a\/p.aD=b)(h0':p'.aD=a\/p'.aD=b)(h1:H p/\¬ D p)(h2:H q/\D q)(h3:H p'/\¬ D p')(h4:H q'/\D q')(hp:p≠p')(hq:q≠q') :
  dS m [(p,q),(p',q')]/\lF n a b (m.ft [(p,q),(p',q')]) H (λr=>(D r/\r∉[q,q'])\/r∈[p,p']) :=
 h.nJ (ps:=[p,p']) (qs:=[q,q']) rfl (by simp;exact⟨h0,h0'⟩) (by simp;exact⟨h1,h3⟩) (by simp;exact⟨h2,h4⟩) (by simpa using hp) (by simpa using hq)
theorem lF.pF {n m:aI}{a b:Nat}{H D:aq->Prop}(h:lF n a b m H D){p q:aq}(h0:p.aD=a\/p.aD=b)(h1:H p/\¬ D p)(h2:H q/\D q) :
  dS m [(p,q)]/\lF n a b (m.move p q) H (λr=>(D r/\r≠q)\/r=p):=by
 obtain⟨a1,a2⟩:=h.nJ (ps:=[p]) (qs:=[q]) rfl (by simpa using h0) (by simpa using h1) (by simpa using h2) (by simp) (by simp);exact⟨a1,a2.congr (λr _=>by simp)⟩
theorem pE.half {n:aI}{a b:Nat}{x y:Up}(h:pE n a b x y)(kx:2<=x.ao)(ky:2<=y.ao)(hl:x.to.length=3)(hl':y.to.length=1)(hok:(gU x y).ok=true)(hu:n.used<n.aV){m:aI}(hm:m=n.half a b x y) :
  dS (n.make (gU x y)) [(⟨a,2⟩,⟨n.cg,0⟩),(⟨a,1⟩,⟨n.cg,1⟩)]/\wZ n m a b:=by
 subst hm;have ha:=h.ha;have hb:=h.hb;have hne:=h.ne;obtain⟨h1,h2,h3⟩:=h.st.make (x:=gU x y) (by show 2<=12;omega) hok (λe=>by cases e) (by show 0<2;omega) hu;have hp2:(gU x y).bO=2:=rfl;rw[hp2]at h1;have fa:a≠n.cg:=h2 ⟨a,0⟩ (h.pa (by omega));have fb:b≠n.cg:=h2 ⟨b,0⟩ (h.pb (by omega));obtain⟨h4,h5⟩:=h1.FH (p:=⟨a,2⟩) (q:=⟨n.cg,0⟩) (p':=⟨a,1⟩) (q':=⟨n.cg,1⟩) (.inl rfl) (.inl rfl) (by simp only[aq.eq_mk];exact⟨.inl (h.pa (by omega)),by simp only[eX];omega⟩) (by simp)
  (by simp only[aq.eq_mk];exact⟨.inl (h.pa (by omega)),by simp only[eX];omega⟩) (by simp) (by simp) (by simp)
 refine⟨h4,h5.finish hne h.hx h.hy kx ky (λp hp=>?_)⟩;have ha:=ha p;have hb:=hb p;have hf:=h2 p;simp only[aA,UA,dU,aq.eq_mk]
 grind
theorem pE.out {n:aI}{a b:Nat}{x y z:Up}(h:pE n a b x y)(kx:2<=x.ao)(ky:2<=y.ao)(hl:x.to.length=2)(hl':y.to.length=1)(hk:2<=z.ao)(hok:z.ok=true)(hz:z.ao=8->z.to.length=z.bO)(hz1:z.bO=1)(hu:n.used<n.aV){m:aI}(hm:m=n.out a z) :
  dS (n.make z) [(⟨a,1⟩,⟨n.cg,0⟩)]/\wZ n m a b:=by
 subst hm;have ha:=h.ha;have hb:=h.hb;have hne:=h.ne;obtain⟨h1,h2,h3⟩:=h.st.make (x:=z) hk hok hz (by omega) hu;rw[hz1]at h1;have fa:a≠n.cg:=h2 ⟨a,0⟩ (h.pa (by omega));have fb:b≠n.cg:=h2 ⟨b,0⟩ (h.pb (by omega));obtain⟨h4,h5⟩:=h1.pF (p:=⟨a,1⟩) (q:=⟨n.cg,0⟩) (.inl rfl) (by simp only[aq.eq_mk];exact⟨.inl (h.pa (by omega)),by simp only[eX];omega⟩) (by simp);refine⟨h4,h5.finish hne h.hx h.hy kx ky (λp hp=>?_)⟩;have ha:=ha p;have hb:=hb p;have hf:=h2 p;simp only[ne_eq,aq.eq_mk]
 grind
theorem pE.drop {n:aI}{a b:Nat}{x y:Up}(h:pE n a b x y)(kx:2<=x.ao)(ky:2<=y.ao)(hl:x.to.length=1)(hlev:x.Us<=60)(hu:n.used+(y.to.length-1)<=n.aV){m:aI}(hm:m=n.jA b x.Us y) :
  dS (n.cI (ch x.Us) (cw b y).length).1 ((cw b y).zip (eD (n.cI (ch x.Us) (cw b y).length).2))/\wZ n m a b:=by
 subst hm;have ha:=h.ha;have hb:=h.hb;have hne:=h.ne;have hy1:=h.y1;obtain⟨d1,d2⟩:=mP hlev;have hlen:(cw b y).length=y.to.length-1:=bN _ _ _;obtain⟨h1,h2,h3,h4,h5⟩:=h.st.cI (x:=ch x.Us) (k:=(cw b y).length) (by show 2<=7;omega) d1 (λe=>by cases e) (by omega) (by omega);rw[d2]at h1;unfold aI.jA;generalize hC:(n.cI (ch x.Us) (cw b y).length).2=C at *;generalize (n.cI (ch x.Us) (cw b y).length).1=m at *;have fa:a∉C:=h3 ⟨a,0⟩ (h.pa (by omega));have fb:b∉C:=h3 ⟨b,0⟩ (h.pb (by omega));obtain⟨h6,h7⟩:=h1.nJ (ps:=cw b y) (qs:=eD C) (by simp[eD,h5]) (λp hp=>.inr (bu.1 hp).1) (λp hp=>by
  have hb:=hb p;simp only[cw,bu,aq.eq_mk]at hp ⊢
  grind) (λq hq=>by
  rw[gV]at hq;exact⟨.inr ⟨hq.1,by omega⟩,.inr hq.1⟩) (du _ _ _) (mR h2)
 refine⟨h6,h7.finish hne h.hx h.hy kx ky (λp hp=>?_)⟩;have ha:=ha p;have hb:=hb p;have hf:=h3 p;simp only[cw,bu,aq.eq_mk,gV]
 grind
theorem pE.fail {n:aI}{a b:Nat}{x y:Up}(h:pE n a b x y)(kx:2<=x.ao)(ky:2<=y.ao)(hl:2<=x.to.length)(hlev:x.Us<=60)(hu:n.used+1+(bX a b x y).length<=n.aV){m:aI}(hm:m=n.fail a b x y) :
  dS ((n.make (UE x.Us)).cI (ch x.Us) (bX a b x y).length).1 [(⟨a,1⟩,⟨n.cg,0⟩)] /\
  dS ((((n.make (UE x.Us)).cI (ch x.Us) (bX a b x y).length).1).move ⟨a,1⟩ ⟨n.cg,0⟩) ((bX a b x y).zip (eD ((n.make (UE x.Us)).cI (ch x.Us) (bX a b x y).length).2)) /\
  wZ n m a b:=by
 subst hm;have ha:=h.ha;have hb:=h.hb;have hne:=h.ne;have hy1:=h.y1;obtain⟨d1,d2⟩:=mP hlev;have hfo:(UE x.Us).ok=true:=by simp[UE,Up.ok,Up.fP,hlev]
 have hfp:(UE x.Us).bO=1:=rfl;obtain⟨g1,g2,g3⟩:=h.st.make (x:=UE x.Us) (by show 2<=13;omega) hfo (λe=>by cases e) (by omega) (by omega);rw[hfp]at g1;have gc:=g1.aV;obtain⟨h1,h2,h3,h4,h5⟩:=g1.cI (x:=ch x.Us) (k:=(bX a b x y).length) (by show 2<=7;omega) d1 (λe=>by cases e) (by omega) (by omega);rw[d2]at h1;unfold aI.fail;generalize hC:((n.make (UE x.Us)).cI (ch x.Us) (bX a b x y).length).2=C at *;generalize ((n.make (UE x.Us)).cI (ch x.Us) (bX a b x y).length).1=m at *;have fa':a≠n.cg:=g2 ⟨a,0⟩ (h.pa (by omega));have fb':b≠n.cg:=g2 ⟨b,0⟩ (h.pb (by omega));have fa:a∉C:=h3 ⟨a,0⟩ (.inl (h.pa (by omega)));have fb:b∉C:=h3 ⟨b,0⟩ (.inl (h.pb (by omega)));have fc:n.cg∉C:=h3 ⟨n.cg,0⟩ (.inr ⟨rfl,by show 0<1;omega⟩);have ha1:=ha ⟨a,1⟩ rfl;obtain⟨h6,h7⟩:=h1.pF (p:=⟨a,1⟩) (q:=⟨n.cg,0⟩) (.inl rfl) (by simp only[aq.eq_mk];grind) (by simp);obtain⟨h8,h9⟩:=h7.nJ (ps:=bX a b x y) (qs:=eD C) (by simp[eD,h5]) (λp hp=>by
  simp only[bX,Uz,bu]at hp;omega) (λp hp=>by
  have hb:=hb p;have ha:=ha p;simp only[bX,Uz,bu,aq.eq_mk,ne_eq]at hp ⊢
  grind) (λq hq=>by
  rw[gV]at hq;simp only[aq.eq_mk,ne_eq];refine⟨.inr ⟨hq.1,by omega⟩,.inl ⟨.inr hq.1,?_⟩⟩
  grind) (by
  unfold bX;rw[fj];refine⟨du _ _ _,du _ _ _,λp hp q hq=>?_⟩;rw[bu]at hp hq;rintro rfl;omega) (mR h2)
 refine⟨h6,h8,h9.finish hne h.hx h.hy kx ky (λp hp=>?_)⟩;have ha:=ha p;have hb:=hb p;have hf:=h3 p;have hf2:=g2 p;simp only[bX,Uz,bu,aq.eq_mk,gV,ne_eq]
 grind
theorem U8 {p:aq}{k:Nat}{ds:List Nat}:p∈ds.map (λc=>(⟨c,k⟩:aq))↔p.aD∈ds/\p.aT=k:=by
 simp only[bj];constructor
 ·rintro⟨d,hd,rfl⟩;exact⟨hd,rfl⟩
 ·rintro⟨h1,h2⟩;exact⟨p.aD,h1,by cases p;simp_all⟩
theorem pG {k:Nat}{ds:List Nat}(h:ds.Nodup):(ds.map (λc=>(⟨c,k⟩:aq))).Nodup:=by
 refine VO _ (λa b hab e=>hab ?_) h;simpa using e
theorem lF.V9 {n:aI}{a b:Nat}{cs:List Nat}(hcs:cs.Nodup)(hbc:b∉cs):∀(ms:List Nat) (k:Nat) {m:aI} {H D:aq->Prop},lF n a b m H D->ms.Nodup->b∉ms->(∀c,c∈cs->c∉ms) ->
  (∀p:aq,p.aD∈ms->p.aT<1+cs.length->H p/\D p) ->
  (∀p:aq,p.aD∈cs->k+1<=p.aT->p.aT<k+1+ms.length->H p/\D p) ->
  (∀p:aq,p.aD=b->k+1<=p.aT->p.aT<k+1+ms.length->H p/\¬ D p) ->
  r_ m b cs k ms/\lF n a b (m.V9 b cs k ms) H (λr=>(D r/\¬ (r.aD∈ms/\r.aT<1+cs.length)/\¬ (r.aD∈cs/\k+1<=r.aT/\r.aT<k+1+ms.length))\/(r.aD=b/\k+1<=r.aT/\r.aT<k+1+ms.length))
 |[],k,m,H,D,h,h1,h2,h3,h4,h5,h6=>by
  refine⟨trivial,h.congr (λp hp=>?_)⟩;simp;omega
 |m0::r,k,m,H,D,h,h1,h2,h3,h4,h5,h6=>by
  simp only[UB]at h1;simp only[aA,eX,av]at h2 h3 h4 h5 h6;have hm0:m0∉cs:=λe=>(h3 _ e).1 rfl;obtain⟨a1,a2⟩:=h.pF (p:=⟨b,k+1⟩) (q:=⟨m0,0⟩) (.inr rfl) (h6 _ rfl (by show k+1<=k+1;omega) (by show k+1<_;omega)) (h4 _ (.inl rfl) (by show 0<_;omega));have hl:(UQ m0 1 cs.length).length=(cs.map λc=>(⟨c,k+1⟩:aq)).length:=by rw[bN];simp
  obtain⟨a3,a4⟩:=a2.vL (ps:=UQ m0 1 cs.length) (qs:=cs.map λc=>(⟨c,k+1⟩:aq)) hl (λp hp=>by
   rw[bu]at hp;simp only[ne_eq,aq.eq_mk];have:=h4 p (.inl hp.1) (by omega)
   grind) (λp hp=>by
   rw[U8]at hp;simp only[ne_eq,aq.eq_mk];have:=h5 p hp.1 (by omega) (by omega)
   grind) (du _ _ _) (pG hcs) (λp hp hq=>by
   rw[bu]at hp;rw[U8]at hq
   grind)
  obtain⟨c1,c2⟩:=lF.V9 hcs hbc r (k+1) a4 h1.2 (λe=>h2.2 e) (λc hc=>(h3 c hc).2) (λp hp hs=>by
   simp only[ne_eq,aq.eq_mk,bu,U8];have:=h4 p (.inr hp) hs
   grind) (λp hp hs hs'=>by
   simp only[ne_eq,aq.eq_mk,bu,U8];have:=h5 p hp (by omega) (by omega)
   grind) (λp hp hs hs'=>by
   simp only[ne_eq,aq.eq_mk,bu,U8];have:=h6 p hp (by omega) (by omega)
   grind)
  refine⟨⟨a1,a3,c1⟩,c2.congr (λp hp=>?_)⟩;have g3:=h3 p.aD;have g4:=h4 p;simp only[ne_eq,aq.eq_mk,bu,U8,aA,av]
  grind
theorem pE.pass {n:aI}{a b Us:Nat}{x y:Up}(h:pE n a b x y)(kx:2<=x.ao)(ky:2<=y.ao)(hoy:({ y with Us:=Us }:Up).ok=true)(hu:n.used+(x.to.length-1)+(y.to.length-1)<=n.aV){m:aI}(hm:m=n.pass a b x y Us) :
  dS (n.Xn x y Us) ((UQ a 1 (x.to.length-1)).zip (eD (n.Ws x y Us)))/\r_ (n.Xo a x y Us) b (n.Ws x y Us) 0 (n.qA x y Us)/\wZ n m a b:=by
 subst hm;have ha:=h.ha;have hb:=h.hb;have hne:=h.ne;have hx1:=h.x1;have hy1:=h.y1;obtain⟨x1,x2,x3⟩:=h.ok.aD _ _ h.hx;obtain⟨y1,y2,y3⟩:=h.ok.aD _ _ h.hy;have hyp:({ y with Us:=Us }:Up).bO=y.bO:=rfl;obtain⟨g1,g2,g3,g4,g5⟩:=h.st.cI (x:={ y with Us:=Us }) (k:=x.to.length-1) ky hoy (λ_=>y2) (by omega) (by omega);rw[hyp,<- y2]at g1;have gc:=g1.aV;unfold aI.pass aI.Xo aI.Xn aI.qA aI.Ws aI.qz;generalize hC:(n.cI { y with Us:=Us } (x.to.length-1)).2=C at *;generalize (n.cI { y with Us:=Us } (x.to.length-1)).1=m1 at *;obtain⟨h1,h2,h3,h4,h5⟩:=g1.cI (x:=x) (k:=y.to.length-1) kx x1 (λ_=>x2) (by omega) (by omega);rw[<- x2]at h1;generalize hM:(m1.cI x (y.to.length-1)).2=M at *;generalize (m1.cI x (y.to.length-1)).1=m at *;have fa:a∉C:=g3 ⟨a,0⟩ (h.pa (by omega));have fb:b∉C:=g3 ⟨b,0⟩ (h.pb (by omega));have fa':a∉M:=h3 ⟨a,0⟩ (.inl (h.pa (by omega)));have fb':b∉M:=h3 ⟨b,0⟩ (.inl (h.pb (by omega)));have fc:∀c,c∈C->c∉M:=λc hc=>h3 ⟨c,0⟩ (.inr ⟨hc,by show 0<_;omega⟩);obtain⟨h6,h7⟩:=h1.nJ (ps:=UQ a 1 (x.to.length-1)) (qs:=eD C) (by simp[eD,g5,bN]) (λp hp=>.inl (bu.1 hp).1) (λp hp=>by
  have ha:=ha p;simp only[bu,aq.eq_mk]at hp ⊢
  grind) (λq hq=>by
  rw[gV]at hq;exact⟨.inl (.inr ⟨hq.1,by omega⟩),.inl (.inr hq.1)⟩) (du _ _ _) (mR g2)
 obtain⟨h8,h9⟩:=lF.V9 (a:=a) (b:=b) g2 fb M 0 h7 h2 fb' fc (λp hp hs=>by
  simp only[bu,gV,aq.eq_mk]
  grind) (λp hp hs hs'=>by
  have:=fc p.aD hp;simp only[bu,gV,aq.eq_mk]
  grind) (λp hp hs hs'=>by
  have hb:=hb p;simp only[bu,gV,aq.eq_mk]
  grind)
 refine⟨h6,h8,h9.finish hne h.hx h.hy kx ky (λp hp=>?_)⟩;have ha:=ha p;have hb:=hb p;have hf:=h3 p;have hf2:=g3 p;have hf3:=fc p.aD;simp only[bu,aq.eq_mk,gV]
 grind
end Go.Proofs.Z
