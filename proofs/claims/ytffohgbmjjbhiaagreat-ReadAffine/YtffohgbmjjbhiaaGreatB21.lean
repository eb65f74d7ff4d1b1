/- A part of the proof. -/
import Derived.Test.YtffohgbmjjbhiaaGreatB20
import Derived.Test.YtffohgbmjjbhiaaGreatB16
import Derived.Test.YtffohgbmjjbhiaaGreatB12
import Derived.Test.YtffohgbmjjbhiaaGreatB11
set_option linter.all false
namespace Go.Proofs.Z
section
variable {pg:fX}{G:Heap}
def Kp:Tm:=.mk 9 0 [] []
mutual
def Tm.subst (us:List Tm):Int->Tm->Tm
 |b,.mk k n s l=>if k=1 then (if n<b then .mk k n s l else us.getD (n-b).toNat Kp) else .mk k n s (Tm.iW us (b+de k n) l)
def Tm.iW (us:List Tm):Int->List Tm->List Tm
 |_,[]=>[]
 |b,a::r=>a.subst us b::Tm.iW us b r
end
theorem Tm.rB (us:List Tm)(b:Int):∀l:List Tm,Tm.iW us b l=l.map (Tm.subst us b)
 |[]=>rfl
 |a::r=>by simp[Tm.iW,Tm.rB us b r]
def Cn (k n:Int)(s:List UInt8)(l:List Tm)(uk un:Int)(unm:List UInt8)(ul:List (List PV))(f:Tm->Tm)(i:Nat):Heap :=
 [.box [.p (iv k),.p (iv n),.p (.s s),.p (.sl (l.map Tm.aw))],.box [.p (iv uk),.p (iv un),.p (.s unm),.p (.sl ul)],.box [.p (iv 0),.p (iv 0),.p (.s []),.aC],.box [.p (iv k),.p (iv n),.p (.s s),.arr 4 i (i-1)],.arr 4 ((l.take i).map λt=>(f t).aw) (i-1) 0]
theorem Mi (h:bY pg){body:aU}(hb:body=m_){k n:Int}{s:List UInt8}{l:List Tm}(uk un:Int)(unm:List UInt8)(ul:List (List PV))(b:Int)(f:Tm->Tm)(hl:l.length<=60)(hf:0<=b/\b<=2 ^ 59)(hm:0<=de k n/\de k n<=8)
  (ih:∀t∈l,∀G:Heap,UM pg (E pg) 100 [.ag (bP t.aw),.p (.i .i64 0),.ag [.p (iv uk),.p (iv un),.p (.s unm),.p (.sl ul)],.p (.i .i64 (b+de k n))] G=some (.ret (f t).nv,G)):∀m i,1<=i->i+m=l.length ->
  L pg 0 [1,3,4,6,8,9,10] body [(1,.p (.i .i64 0)),(3,.p (.i .i64 b)),(4,.ptr 0 0),(6,.ptr 1 0),(8,.ptr 2 0),(9,.ptr 3 0),(10,.p (.i .i64 (i:Nat)))] (Cn k n s l uk un unm ul f i) =
   some (.exit 0,[(1,.p (.i .i64 0)),(3,.p (.i .i64 b)),(4,.ptr 0 0),(6,.ptr 1 0),(8,.ptr 2 0),(9,.ptr 3 0),(10,.p (.i .i64 l.length)),(45,.p (.b false))],Cn k n s l uk un unm ul f l.length)
 |0,i,h1,hi=>by
  have:i=l.length:=by omega
  subst this;rw[dA hb];simp[m_,aj,Cn]
 |m+1,i,h1,hi=>by
  have hlt:i<l.length:=by omega
  have hx:l[i]?=some l[i]:=gG hlt;have e1:=λG=>ih l[i] (aE hx) G;have ih':=Mi h hb (k:=k) (n:=n) (s:=s) uk un unm ul b f hl hf hm ih m (i+1) (by omega) (by omega);rw[show((i+1:Nat):Int)=(i:Int)+1 from by omega]at ih';have e5:List.take (i+1) l=List.take i l++[l[i]]:=by rw[cG,gG hlt];rfl
  have e6:i-1+1=i:=by omega
  have e7:bZ (i+1) 56=true:=by simp[bZ];omega
  have e9:i<=l.length:=by omega
  have w1:=cR ((i:Int)+1);have w2:=cR (b+de k n);have k100:bC pg 100=false:=h.bq (x:=z8) rfl;have k68:bC pg 68=false:=h.bq (x:=YP) rfl;have n0:eU (List.map AV.p l[i].aw)=true:=by cases l[i];rfl
  have e0:bH 4 [(f l[i]).aw]=true:=by simp[bH,Tm.aS]
  have e8:∀l:List (List PV),List.take i (List.take i l)=List.take i l:=λl=>by rw[eQ,Wa]
  have e10:List.take l.length (List.map (λt=>(f t).aw) l)=List.map (λt=>(f t).aw) l:=aF (by simp);have t68':=λG=>t68 (G:=G) h k n s (l.map Tm.aw);simp only[bP]at e1;rw[dA hb];unfold Cn at ih' ⊢;simp only[show i+1-1=i from by omega,e5,bB,da,ai,au]at ih';simp[m_,aj,hlt,hx,Tm.aS,e1,Tm.pS,Tm.ku,t68',bP,Uu.Uv,mT,cX,e6,e7,e8,e9,e10,e0,th,k100,k68,n0,w1,w2,gc,exp,aQ,UG,ih']
theorem Mj (h:bY pg){body:aU}(hb:body=m_){k n:Int}{s:List UInt8}{l:List Tm}(uk un:Int)(unm:List UInt8)(ul:List (List PV))(b:Int)(f:Tm->Tm)(hl:l.length<=60)(h1:1<=l.length)(hf:0<=b/\b<=2 ^ 59)(hm:0<=de k n/\de k n<=8)
  (ih:∀t∈l,∀G:Heap,UM pg (E pg) 100 [.ag (bP t.aw),.p (.i .i64 0),.ag [.p (iv uk),.p (iv un),.p (.s unm),.p (.sl ul)],.p (.i .i64 (b+de k n))] G=some (.ret (f t).nv,G)) :
  L pg 0 [1,3,4,6,8,9,10] body [(1,.p (.i .i64 0)),(3,.p (.i .i64 b)),(4,.ptr 0 0),(6,.ptr 1 0),(8,.ptr 2 0),(9,.ptr 3 0),(10,.p (.i .i64 0))]
   [.box [.p (iv k),.p (iv n),.p (.s s),.p (.sl (l.map Tm.aw))],.box [.p (iv uk),.p (iv un),.p (.s unm),.p (.sl ul)],.box [.p (iv 0),.p (iv 0),.p (.s []),.aC],.box [.p (iv k),.p (iv n),.p (.s s),.aC]] =
   some (.exit 0,[(1,.p (.i .i64 0)),(3,.p (.i .i64 b)),(4,.ptr 0 0),(6,.ptr 1 0),(8,.ptr 2 0),(9,.ptr 3 0),(10,.p (.i .i64 l.length)),(45,.p (.b false))],Cn k n s l uk un unm ul f l.length):=by
 have hL:=Mi h hb (k:=k) (n:=n) (s:=s) uk un unm ul b f hl hf hm ih (l.length-1) 1 (by omega) (by omega);have hpos:(0:Int)<(l.length:Int):=by omega
 have hpos':0<l.length:=by omega
 have hx:l[0]?=some l[0]:=gG hpos';have e1:=λG=>ih l[0] (aE hx) G;have e5:List.take 1 l=[l[0]]:=by rw[cG,gG (by omega)];rfl
 have e7:bZ 1 56=true:=by rfl
 have w1:=cR 1;have w2:=cR (b+de k n);have k100:bC pg 100=false:=h.bq (x:=z8) rfl;have k68:bC pg 68=false:=h.bq (x:=YP) rfl;have n0:eU (List.map AV.p l[0].aw)=true:=by cases l[0];rfl
 have e0:bH 4 [(f l[0]).aw]=true:=by simp[bH,Tm.aS]
 have t68':=λG=>t68 (G:=G) h k n s (l.map Tm.aw);unfold Cn at hL ⊢;simp only[e5,ai,au,WW,fx]at hL;simp only[bP]at e1;rw[dA hb];simp[m_,aj,hpos,hpos',hx,Tm.aS,e1,Tm.pS,Tm.ku,t68',bP,Uu.Uv,mT,cX,e7,e0,th,k100,k68,n0,w1,w2,gc,exp,aQ,UG,hL]
theorem Mk (h:bY pg){body:aU}(hb:body=m_){k n:Int}{s:List UInt8}(uk un:Int)(unm:List UInt8)(ul:List (List PV))(b:Int) :
  L pg 0 [1,3,4,6,8,9,10] body [(1,.p (.i .i64 0)),(3,.p (.i .i64 b)),(4,.ptr 0 0),(6,.ptr 1 0),(8,.ptr 2 0),(9,.ptr 3 0),(10,.p (.i .i64 0))]
   [.box [.p (iv k),.p (iv n),.p (.s s),.p (.sl [])],.box [.p (iv uk),.p (iv un),.p (.s unm),.p (.sl ul)],.box [.p (iv 0),.p (iv 0),.p (.s []),.aC],.box [.p (iv k),.p (iv n),.p (.s s),.aC]] =
   some (.exit 0,[(1,.p (.i .i64 0)),(3,.p (.i .i64 b)),(4,.ptr 0 0),(6,.ptr 1 0),(8,.ptr 2 0),(9,.ptr 3 0),(10,.p (.i .i64 0)),(45,.p (.b false))],[.box [.p (iv k),.p (iv n),.p (.s s),.p (.sl [])],.box [.p (iv uk),.p (iv un),.p (.s unm),.p (.sl ul)],.box [.p (iv 0),.p (iv 0),.p (.s []),.aC],.box [.p (iv k),.p (iv n),.p (.s s),.aC]]):=by
 rw[dA hb];simp[m_,aj]
def Co (k n:Int)(s:List UInt8)(l:List Tm)(f:Tm->Tm)(i:Nat):Heap :=
 [.box [.p (iv k),.p (iv n),.p (.s s),.p (.sl (l.map Tm.aw))],.box [.p (iv 0),.p (iv 0),.p (.s []),.aC],.box [.p (iv k),.p (iv n),.p (.s s),.arr 3 i (i-1)],.arr 4 ((l.take i).map λt=>(f t).aw) (i-1) 0]
theorem Ml (h:bY pg){body:aU}(hb:body=WO){k n:Int}{s:List UInt8}{l:List Tm}(us:List Tm)(b:Int)(f:Tm->Tm)(hl:l.length<=60)(hf:0<=b/\b<=2 ^ 59)(hm:0<=de k n/\de k n<=8)
  (ih:∀t∈l,∀G:Heap,UM pg (E pg) 118 [.ag (bP t.aw),.p (.sl ((us.map Tm.aw).reverse)),.p (.i .i64 (b+de k n))] G=some (.ret (f t).nv,G)):∀m i,1<=i->i+m=l.length ->
  L pg 0 [1,2,3,6,7,8] body [(1,.p (.sl ((us.map Tm.aw).reverse))),(2,.p (.i .i64 b)),(3,.ptr 0 0),(6,.ptr 1 0),(7,.ptr 2 0),(8,.p (.i .i64 (i:Nat)))] (Co k n s l f i) =
   some (.exit 0,[(1,.p (.sl ((us.map Tm.aw).reverse))),(2,.p (.i .i64 b)),(3,.ptr 0 0),(6,.ptr 1 0),(7,.ptr 2 0),(8,.p (.i .i64 l.length)),(55,.p (.b false))],Co k n s l f l.length)
 |0,i,h1,hi=>by
  have:i=l.length:=by omega
  subst this;rw[dA hb];simp[WO,aj,Co]
 |m+1,i,h1,hi=>by
  have hlt:i<l.length:=by omega
  have hx:l[i]?=some l[i]:=gG hlt;have e1:=λG=>ih l[i] (aE hx) G;have ih':=Ml h hb (k:=k) (n:=n) (s:=s) us b f hl hf hm ih m (i+1) (by omega) (by omega);rw[show((i+1:Nat):Int)=(i:Int)+1 from by omega]at ih';have e5:List.take (i+1) l=List.take i l++[l[i]]:=by rw[cG,gG hlt];rfl
  have e6:i-1+1=i:=by omega
  have e7:bZ (i+1) 56=true:=by simp[bZ];omega
  have e9:i<=l.length:=by omega
  have w1:=cR ((i:Int)+1);have w2:=cR (b+de k n);have k118:bC pg 118=false:=h.bq (x:=z_) rfl;have k68:bC pg 68=false:=h.bq (x:=YP) rfl;have n0:eU (List.map AV.p l[i].aw)=true:=by cases l[i];rfl
  have e0:bH 4 [(f l[i]).aw]=true:=by simp[bH,Tm.aS]
  have e8:∀l:List (List PV),List.take i (List.take i l)=List.take i l:=λl=>by rw[eQ,Wa]
  have e10:List.take l.length (List.map (λt=>(f t).aw) l)=List.map (λt=>(f t).aw) l:=aF (by simp);have t68':=λG=>t68 (G:=G) h k n s (l.map Tm.aw);simp only[bP]at e1;rw[dA hb];unfold Co at ih' ⊢;simp only[show i+1-1=i from by omega,e5,bB,da,ai,au]at ih';simp[WO,aj,hlt,hx,Tm.aS,e1,Tm.pS,Tm.ku,t68',bP,Uu.Uv,mT,cX,e6,e7,e8,e9,e10,e0,th,k118,k68,n0,w1,w2,gc,exp,aQ,UG,ih']
theorem Mm (h:bY pg){body:aU}(hb:body=WO){k n:Int}{s:List UInt8}{l:List Tm}(us:List Tm)(b:Int)(f:Tm->Tm)(hl:l.length<=60)(h1:1<=l.length)(hf:0<=b/\b<=2 ^ 59)(hm:0<=de k n/\de k n<=8)
  (ih:∀t∈l,∀G:Heap,UM pg (E pg) 118 [.ag (bP t.aw),.p (.sl ((us.map Tm.aw).reverse)),.p (.i .i64 (b+de k n))] G=some (.ret (f t).nv,G)) :
  L pg 0 [1,2,3,6,7,8] body [(1,.p (.sl ((us.map Tm.aw).reverse))),(2,.p (.i .i64 b)),(3,.ptr 0 0),(6,.ptr 1 0),(7,.ptr 2 0),(8,.p (.i .i64 0))]
   [.box [.p (iv k),.p (iv n),.p (.s s),.p (.sl (l.map Tm.aw))],.box [.p (iv 0),.p (iv 0),.p (.s []),.aC],.box [.p (iv k),.p (iv n),.p (.s s),.aC]] =
   some (.exit 0,[(1,.p (.sl ((us.map Tm.aw).reverse))),(2,.p (.i .i64 b)),(3,.ptr 0 0),(6,.ptr 1 0),(7,.ptr 2 0),(8,.p (.i .i64 l.length)),(55,.p (.b false))],Co k n s l f l.length):=by
 have hL:=Ml h hb (k:=k) (n:=n) (s:=s) us b f hl hf hm ih (l.length-1) 1 (by omega) (by omega);have hpos:(0:Int)<(l.length:Int):=by omega
 have hpos':0<l.length:=by omega
 have hx:l[0]?=some l[0]:=gG hpos';have e1:=λG=>ih l[0] (aE hx) G;have e5:List.take 1 l=[l[0]]:=by rw[cG,gG (by omega)];rfl
 have e7:bZ 1 56=true:=by rfl
 have w1:=cR 1;have w2:=cR (b+de k n);have k118:bC pg 118=false:=h.bq (x:=z_) rfl;have k68:bC pg 68=false:=h.bq (x:=YP) rfl;have n0:eU (List.map AV.p l[0].aw)=true:=by cases l[0];rfl
 have e0:bH 4 [(f l[0]).aw]=true:=by simp[bH,Tm.aS]
 have t68':=λG=>t68 (G:=G) h k n s (l.map Tm.aw);unfold Co at hL ⊢;simp only[e5,ai,au,WW,fx]at hL;simp only[bP]at e1;rw[dA hb];simp[WO,aj,hpos,hpos',hx,Tm.aS,e1,Tm.pS,Tm.ku,t68',bP,Uu.Uv,mT,cX,e7,e0,th,k118,k68,n0,w1,w2,gc,exp,aQ,UG,hL]
theorem Mn (h:bY pg){body:aU}(hb:body=WO){k n:Int}{s:List UInt8}(us:List Tm)(b:Int) :
  L pg 0 [1,2,3,6,7,8] body [(1,.p (.sl ((us.map Tm.aw).reverse))),(2,.p (.i .i64 b)),(3,.ptr 0 0),(6,.ptr 1 0),(7,.ptr 2 0),(8,.p (.i .i64 0))]
   [.box [.p (iv k),.p (iv n),.p (.s s),.p (.sl [])],.box [.p (iv 0),.p (iv 0),.p (.s []),.aC],.box [.p (iv k),.p (iv n),.p (.s s),.aC]] =
   some (.exit 0,[(1,.p (.sl ((us.map Tm.aw).reverse))),(2,.p (.i .i64 b)),(3,.ptr 0 0),(6,.ptr 1 0),(7,.ptr 2 0),(8,.p (.i .i64 0)),(55,.p (.b false))],[.box [.p (iv k),.p (iv n),.p (.s s),.p (.sl [])],.box [.p (iv 0),.p (iv 0),.p (.s []),.aC],.box [.p (iv k),.p (iv n),.p (.s s),.aC]]):=by
 rw[dA hb];simp[WO,aj]
theorem t100 (h:bY pg)(u:Tm)(hu:u.Ck 0)(hud:8 * u.depth<=2 ^ 60):∀(t:Tm) (b:Int),t.Ck (b+1)->0<=b->b+8 * t.depth<=2 ^ 59->∀(G:Heap),UM pg (E pg) 100 [.ag (bP t.aw),.p (.i .i64 0),.ag (bP u.aw),.p (.i .i64 b)] G=some (.ret (t.subst [u] b).nv,G):=by
 have Ks:=fun (b:Int) (G:Heap)=>t119 h b u 0 hu (by omega) (by omega) G;obtain⟨uk,un,unm,ul⟩:=u;simp only[Tm.aw,Tm.ba,bP,ai,au,Tm.eS]at Ks;refine Tm.ind λk n s l ih b hc h0 hf G=>?_;have hfl:(k=1->0<=n/\n<b+1)/\(k=6->0<=n/\n<=8)/\l.length<=60/\∀t∈l,t.Ck (b+1+de k n):=by cases hc with|mk a b c d=>exact⟨a,b,c,d⟩
 obtain⟨q1,q2,q3,q4⟩:=hfl;have hm:=wG q2;simp only[Tm.depth]at hf;have ih':∀t∈l,∀G:Heap,UM pg (E pg) 100 [.ag (bP t.aw),.p (.i .i64 0),.ag [.p (iv uk),.p (iv un),.p (.s unm),.p (.sl (ul.map Tm.aw))],.p (.i .i64 (b+de k n))] G=some (.ret (t.subst [.mk uk un unm ul] (b+de k n)).nv,G):=λt ht G=>by
  have:=Tm.VE ht;have:=ih t ht _ (by rw[show b+de k n+1=b+1+de k n from by omega];exact q4 t ht) (by omega) (by omega) G;simp only[Tm.aw,Tm.ba,bP,ai,au]at this;exact this
 simp only[Tm.aw,Tm.ba,bP,ai,au];refine Ut ?_ rfl ?_
 ·rw[h.run (x:=z8)];by_cases c1:k=1
  ·have hn:=q1 c1;have w0:=cR b;by_cases c2:n=b
   ·subst c2;simp[z8,aj,Tm.eS,c1,Tm.subst,w0,Ks]
   ·have c3:n<b:=by omega
    have c4:¬ b<n:=by omega
    simp[z8,aj,Tm.eS,c1,c2,c3,c4,Tm.subst,w0]
  by_cases c4:l=[]
  ·subst c4;have hL:=Mk h (body:=m_) rfl (k:=k) (n:=n) (s:=s) uk un unm (ul.map Tm.aw) b;simp[z8,aj,Tm.eS,c1,Tm.subst,Tm.iW,gc,exp,aQ,UG];rw[hL];simp[aj]
  ·have hL:=Mj h (body:=m_) rfl (k:=k) (n:=n) (s:=s) uk un unm (ul.map Tm.aw) b (Tm.subst [.mk uk un unm ul] (b+de k n)) q3 (by have:=eR.2 c4;omega) ⟨by omega,by omega⟩ hm ih';have e10:∀f:Tm->Tm,List.take l.length (List.map (λt=>(f t).aw) l)=List.map (λt=>(f t).aw) l:=λf=>aF (by simp);generalize hff:Tm.subst [.mk uk un unm ul] (b+de k n)=ff at *;have hsub:(Tm.mk k n s l).subst [.mk uk un unm ul] b=.mk k n s (l.map ff):=by rw[Tm.subst,aa c1,Tm.rB,hff]
   rw[hsub];unfold Cn at hL;simp[z8,aj,Tm.eS,c1,c4,gc,exp,aQ,UG];rw[hL];simp[aj,e10]
 ·simp only[Out.bf,Tm.nv,bf];exact bE 0 (eZ _)
theorem t78 (h:bY pg){u t:Tm}(hu:u.Ck 0)(hud:8 * u.depth<=2 ^ 60)(ht:t.Ck 1)(htd:8 * t.depth<=2 ^ 59):UM pg (E pg) 78 [.ag (bP t.aw),.p (.i .i64 0),.ag (bP u.aw)] G=some (.ret (t.subst [u] 0).nv,G):=by
 have Qs:=λG=>t100 h u hu hud t 0 ht (by omega) (by omega) G;generalize t.subst [u] 0=r at *;obtain⟨uk,un,unm,ul⟩:=u;obtain⟨tk,tn,tnm,tl⟩:=t;obtain⟨rk,rn,rnm,rl⟩:=r;simp only[Tm.aw,Tm.ba,bP,ai,au,Tm.eS]at Qs ⊢;refine Ut ?_ rfl rfl;rw[h.run (x:=M4)];simp[M4,aj,Qs]
theorem t118 (h:bY pg)(us:List Tm)(hu:∀u∈us,u.Ck 0/\8 * u.depth<=2 ^ 60)(hus:us.length<=60):∀(t:Tm) (b:Int),t.Ck (b+us.length)->0<=b->b+8 * t.depth<=2 ^ 59->∀(G:Heap),UM pg (E pg) 118 [.ag (bP t.aw),.p (.sl ((us.map Tm.aw).reverse)),.p (.i .i64 b)] G=some (.ret (t.subst us b).nv,G):=by
 refine Tm.ind λk n s l ih b hc h0 hf G=>?_;have hfl:(k=1->0<=n/\n<b+us.length)/\(k=6->0<=n/\n<=8)/\l.length<=60/\∀t∈l,t.Ck (b+us.length+de k n):=by cases hc with|mk a b c d=>exact⟨a,b,c,d⟩
 obtain⟨q1,q2,q3,q4⟩:=hfl;have hm:=wG q2;simp only[Tm.depth]at hf;have ih':∀t∈l,∀G:Heap,UM pg (E pg) 118 [.ag (bP t.aw),.p (.sl ((us.map Tm.aw).reverse)),.p (.i .i64 (b+de k n))] G=some (.ret (t.subst us (b+de k n)).nv,G):=λt ht G=>by
  have:=Tm.VE ht;exact ih t ht _ (by rw[show b+de k n+us.length=b+us.length+de k n from by omega];exact q4 t ht) (by omega) (by omega) G
 refine Ut ?_ (by simp only[Tm.aw];rfl) ?_
 ·rw[h.run (x:=z_)];by_cases c1:k=1
  ·have hn:=q1 c1;by_cases c2:n<b
   ·simp[z_,aj,Tm.aw,bP,Tm.ba,Tm.eS,c1,c2,Tm.subst]
   ·have hi:(n-b).toNat<us.length:=by omega
    obtain⟨v,hx⟩:∃v,us[(n-b).toNat]?=some v:=⟨_,gG hi⟩
    have hsub:(Tm.mk k n s l).subst us b=v:=by
     rw[Tm.subst,ah c1,aa c2,List.getD_eq_getElem?_getD,hx];rfl
    rw[hsub];obtain⟨hu1,hu2⟩:=hu _ (aE hx);have Ks:=fun (G:Heap)=>t119 h b v 0 hu1 (by omega) (by omega) G;have w1:=cR (b+us.length);have w2:=cR ((us.length:Int)-1);have w3:=cR (n-b);have w4:=cR ((us.length:Int)-1-(n-b));have c3:n<b+us.length:=hn.2;have hr:((us.map Tm.aw).reverse)[((us.length:Int)-1-(n-b)).toNat]?=some v.aw:=by
     rw[List.getElem?_reverse (by simp;omega)];simp only[cU,List.getElem?_map];rw[show us.length-1-((us.length:Int)-1-(n-b)).toNat=(n-b).toNat from by omega,hx];rfl
    have hge:0<=(us.length:Int)-1-(n-b):=by omega
    have hge2:n-b<=(us.length:Int)-1:=by omega
    have hge':¬ ((us.length:Int)-1-(n-b)<0):=by omega
    obtain⟨vk,vn,vnm,vl⟩:=v;simp only[Tm.aw,Tm.ba,bP,ai,au,Tm.eS]at Ks hr ⊢;have hRl:((us.map Tm.aw).reverse).length=us.length:=by simp
    have ok4:aS 4 [iv vk,iv vn,.s vnm,.sl (vl.map Tm.aw)]=true:=rfl;generalize ((us.map Tm.aw).reverse)=R at *;simp[z_,aj,c1,c2,c3,hRl,w1,w2,w3,w4,hge,hge2,hge',hr,ok4,Ks]
  by_cases c4:l=[]
  ·subst c4;have hL:=Mn h (body:=WO) rfl (k:=k) (n:=n) (s:=s) us b;simp[z_,aj,Tm.aw,bP,Tm.df,Tm.ba,Tm.nv,c1,Tm.subst,Tm.iW,gc,exp,aQ,UG];rw[hL];simp[aj]
  ·have hL:=Mm h (body:=WO) rfl (k:=k) (n:=n) (s:=s) us b (Tm.subst us (b+de k n)) q3 (by have:=eR.2 c4;omega) ⟨by omega,by omega⟩ hm ih';have e10:∀f:Tm->Tm,List.take l.length (List.map (λt=>(f t).aw) l)=List.map (λt=>(f t).aw) l:=λf=>aF (by simp);generalize hff:Tm.subst us (b+de k n)=ff at *;have hsub:(Tm.mk k n s l).subst us b=.mk k n s (l.map ff):=by rw[Tm.subst,aa c1,Tm.rB,hff]
   rw[hsub];unfold Co at hL;simp[z_,aj,Tm.aw,bP,Tm.ba,Tm.nv,c1,c4,gc,exp,aQ,UG];rw[hL];simp[aj,e10]
 ·simp only[Out.bf,Tm.nv,bf];exact bE 0 (eZ _)
end
inductive T where
 |jJ (t:Ct) (r:List T)
 |app (f a:T)
 |UW (s:List UInt8) (l:List T)
 |case (h:T) (al:List (List UInt8×Nat)) (l:List T)
 |int (v:Int)
 |op (s:List UInt8) (a b:T)
 |fail
def Ct.wu:Nat->Ct->Ct
 |0,b=>b
 |k+1,b=>.lam (Ct.wu k b)
def wx:Ct->Ct
 |.alt _ n b=>.wu n b
 |t=>t
def T.val:T->Bool
 |.jJ (.lam _) _|.UW _ _|.int _|.fail=>true
 |_=>false
def apps:T->List T->T
 |f,[]=>f
 |f,a::r=>apps (.app f a) r
def Cb (b:Bool):T:=.UW (if b then [84,114,117,101] else [70,97,108,115,101]) []
def Ki (s:List UInt8)(a b:Int):T :=
 if s=[43] then .int (IntKind.i64.wrap (a+b)) else if s=[45] then .int (IntKind.i64.wrap (a-b))
 else if s=[42] then .int (IntKind.i64.wrap (a * b)) else if s=[47] then (if b=0 then .fail else .int (IntKind.i64.wrap (a.tdiv b)))
 else if s=[60] then Cb (decide (a<b)) else if s=[61,61] then Cb (decide (a=b)) else .int 0
def OB (f a:T):T:=match f with
 |.jJ (.lam b) r=>.jJ b (a::r)
 |_=>.fail
def Gd (al:List (List UInt8×Nat))(s:List UInt8)(k:Nat):Option Nat:=al.findIdx? λa=>decide (a.1=s) && decide (a.2+1=k)
def Ge (h:T)(al:List (List UInt8×Nat))(l:List T):T:=match h with
 |.UW s ls=>match Gd al s (ls.length+1) with
  |some k=>match l[k]? with
   |some b=>apps b ls
   |none=>.fail
  |none=>.fail
 |_=>.fail
def O7 (s:List UInt8)(n:Int)(b:T):T:=match b with
 |.int k=>Ki s n k
 |_=>.fail
def O8 (s:List UInt8)(a b:T)(r:Option T):Option T:=match a with
 |.int n=>if b.val then some (O7 s n b) else r.map (.op s a ·)
 |_=>some .fail
def C_ (t:Ct)(r:List T):Option T:=match t with
 |.var i=>r[i]?
 |.lam _=>none
 |.app f a=>some (.app (.jJ f r) (.jJ a r))
 |.UW s l=>some (.UW s (l.map λa=>.jJ a r))
 |.case h l=>some (.case (.jJ h r) (l.map fQ) (l.map λa=>.jJ (wx a) r))
 |.alt _ _ _=>none
 |.int v=>some (.int v)
 |.op s a b=>some (.op s (.jJ a r) (.jJ b r))
 |.fail=>some .fail
def T.hd:T->Option T
 |.jJ t r=>C_ t r
 |.app f a=>if f.val then some (OB f a) else f.hd.map (.app · a)
 |.UW _ _=>none
 |.case h al l=>if h.val then some (Ge h al l) else h.hd.map (.case · al l)
 |.int _=>none
 |.op s a b=>if a.val then O8 s a b b.hd else a.hd.map (.op s · b)
 |.fail=>none
inductive qG:T->T->Prop
 |refl {t:T}:qG t t
 |step {t u v:T}:t.hd=some u->qG u v->qG t v
theorem qG.trans {t u v:T}(h:qG t u)(h':qG u v):qG t v:=by
 induction h with
 |refl=>exact h'
 |step h1 _ ih=>exact .step h1 (ih h')
theorem qG.one {t u:T}(h:t.hd=some u):qG t u:=.step h .refl
theorem Ba {t:T}(h:t.val=true):t.hd=none:=by
 unfold T.val at h;split at h
 ·simp[T.hd,C_]
 ·simp[T.hd]
 ·simp[T.hd]
 ·simp[T.hd]
 ·cases h
theorem qG.O9 {t u v:T}(h:qG t u)(h':qG t v)(hv:v.hd=none):qG u v:=by
 induction h with
 |refl=>exact h'
 |step h1 _ ih =>
  cases h' with
  |refl=>rw[hv]at h1;cases h1
  |step h2 h3=>rw[h1]at h2;cases h2;exact ih h3
theorem qG.eq {t u v:T}(h:qG t u)(h':qG t v)(hu:u.hd=none)(hv:v.hd=none):u=v:=by
 cases h.O9 h' hv with
 |refl=>rfl
 |step h1 _=>rw[hu]at h1;cases h1
theorem Q5 {f f' a:T}(h:f.hd=some f'):(T.app f a).hd=some (.app f' a):=by
 have:f.val=false:=by
  cases hv:f.val with
  |false=>rfl
  |true=>rw[Ba hv]at h;cases h
 simp[T.hd,this,h]
theorem QM {f f':T}{al:List (List UInt8×Nat)}{l:List T}(h:f.hd=some f'):(T.case f al l).hd=some (.case f' al l):=by
 have:f.val=false:=by
  cases hv:f.val with
  |false=>rfl
  |true=>rw[Ba hv]at h;cases h
 simp[T.hd,this,h]
theorem Q6 {s:List UInt8}{f f' b:T}(h:f.hd=some f'):(T.op s f b).hd=some (.op s f' b):=by
 have:f.val=false:=by
  cases hv:f.val with
  |false=>rfl
  |true=>rw[Ba hv]at h;cases h
 simp[T.hd,this,h]
theorem Q7 {s:List UInt8}{n:Int}{f f':T}(h:f.hd=some f'):(T.op s (.int n) f).hd=some (.op s (.int n) f'):=by
 have:f.val=false:=by
  cases hv:f.val with
  |false=>rfl
  |true=>rw[Ba hv]at h;cases h
 have hi:(T.int n).val=true:=rfl;simp[T.hd,hi,O8,this,h]
theorem qG.app {f f' a:T}(h:qG f f'):qG (.app f a) (.app f' a):=by
 induction h with
 |refl=>exact .refl
 |step h1 _ ih=>exact .step (Q5 h1) ih
theorem qG.case {f f':T}{al:List (List UInt8×Nat)}{l:List T}(h:qG f f'):qG (.case f al l) (.case f' al l):=by
 induction h with
 |refl=>exact .refl
 |step h1 _ ih=>exact .step (QM h1) ih
theorem qG.Q8 {s:List UInt8}{f f' b:T}(h:qG f f'):qG (.op s f b) (.op s f' b):=by
 induction h with
 |refl=>exact .refl
 |step h1 _ ih=>exact .step (Q6 h1) ih
theorem qG.RG {s:List UInt8}{n:Int}{f f':T}(h:qG f f'):qG (.op s (.int n) f) (.op s (.int n) f'):=by
 induction h with
 |refl=>exact .refl
 |step h1 _ ih=>exact .step (Q7 h1) ih
theorem A_ {f a:T}(h:f.val=true):(T.app f a).hd=some (OB f a):=by simp[T.hd,h]
theorem Gf {f:T}{al:List (List UInt8×Nat)}{l:List T}(h:f.val=true):(T.case f al l).hd=some (Ge f al l):=by simp[T.hd,h]
theorem Kj {s:List UInt8}{n:Int}{b:T}(h:b.val=true):(T.op s (.int n) b).hd=some (O7 s n b):=by
 have hi:(T.int n).val=true:=rfl;simp[T.hd,hi,O8,h]
theorem Qv {s:List UInt8}{a b:T}(h:a.val=true)(hn:∀n,a≠.int n):(T.op s a b).hd=some .fail:=by
 simp only[T.hd,h,if_true];unfold O8;split
 ·exact absurd rfl (hn _)
 ·rfl
inductive Sg where
 |o
 |l (a:Sg)
 |r (a:Sg)
 |s (a b:Sg)
abbrev Cx:=List Sg
inductive Kn:Nat->Nat->Cx->Sg->Prop
 |l {e:Sg}:Kn 4 1 [e] (.l e)
 |r {e:Sg}:Kn 4 2 [e] (.r e)
 |o:Kn 5 1 [] .o
 |s {a b:Sg}:Kn 6 1 [a,b] (.s a b)
def Cc (k v j:Nat)(D C:Cx):Prop:=∃p q X c,p.length=v/\Kn k j X c/\D=p++X++q/\C=p++c::q
theorem Kn.inj {k j j':Nat}{X X':Cx}{c:Sg}(h:Kn k j X c)(h':Kn k j' X' c):j=j'/\X=X':=by
 cases h<;>cases h'<;>exact⟨rfl,rfl⟩
theorem Kn.len {k j:Nat}{X:Cx}{c:Sg}(h:Kn k j X c):(k=4/\X.length=1)\/(k=5/\X.length=0)\/(k=6/\X.length=2):=by
 cases h<;>simp
theorem Kn.aT {k j:Nat}{X:Cx}{c:Sg}(h:Kn k j X c):1<=j/\j<eL k/\(k=4\/k=5\/k=6):=by
 cases h<;>decide
theorem Cc.inj {k v j j':Nat}{D D' C:Cx}(h:Cc k v j D C)(h':Cc k v j' D' C):j=j'/\D=D':=by
 obtain⟨p,q,X,c,h1,h2,rfl,rfl⟩:=h;obtain⟨p',q',X',c',h1',h2',rfl,e⟩:=h';obtain⟨rfl,e2⟩:=Wx e (by omega);cases e2;obtain⟨rfl,rfl⟩:=h2.inj h2';exact⟨rfl,rfl⟩
theorem Cc.app {k v j:Nat}{D C:Cx}(h:Cc k v j D C)(E:Cx):Cc k v j (D++E) (C++E):=by
 obtain⟨p,q,X,c,h1,h2,rfl,rfl⟩:=h;exact⟨p,q++E,X,c,h1,h2,by simp,by simp⟩
theorem Cc.lt {k v j:Nat}{D C:Cx}(h:Cc k v j D C):v<C.length:=by
 obtain⟨p,q,X,c,h1,h2,rfl,rfl⟩:=h;simp;omega
theorem Cc.len {k v j:Nat}{D C:Cx}(h:Cc k v j D C):(k=4/\D.length=C.length)\/(k=5/\D.length+1=C.length)\/(k=6/\D.length=C.length+1):=by
 obtain⟨p,q,X,c,h1,h2,rfl,rfl⟩:=h;have:=h2.len;simp;omega
theorem Cc.aT {k v j:Nat}{D C:Cx}(h:Cc k v j D C):1<=j/\j<eL k/\(k=4\/k=5\/k=6):=by
 obtain⟨p,q,X,c,h1,h2,rfl,rfl⟩:=h;exact h2.aT
theorem Cc.comm {k i s l j r j':Nat}{D C E:Cx}(h:Cc k i s D C)(h':Cc l j r E C)(hij:i<j)(hj:(k=4/\j'=j)\/(k=5/\j'+1=j)\/(k=6/\j'=j+1)):∃D',Cc k i s D' E/\Cc l j' r D' D:=by
 obtain⟨p,q,X,c,h1,h2,rfl,rfl⟩:=h;obtain⟨p',q',X',c',h1',h2',rfl,e⟩:=h';have hp:p=p'.take i:=by
  have:=congrArg (List.take i) e;rw[Vj (by omega),Vj (by omega),aF (by omega)]at this;exact this
 have e2:c::q=p'.drop i++c'::q':=by
  have:=congrArg (List.drop i) e;rw[jl (by omega),jl (by omega),wQ (by omega)]at this;simpa using this
 cases hd:p'.drop i with
 |nil=>have:=congrArg List.length hd;simp at this;omega
 |cons d m =>
  rw[hd]at e2;simp only[aH,dV]at e2;obtain⟨rfl,rfl⟩:=e2;have hp':p'=p++c::m:=by rw[hp,<- hd,Vm]
  have hl:=h2.len;have hlen:p'.length=p.length+(m.length+1):=by rw[hp'];simp
  refine⟨p++X++(m++X'++q'),⟨p,m++X'++q',X,c,h1,h2,rfl,?_⟩,⟨p++X++m,q',X',c',?_,h2',?_,?_⟩⟩
  ·rw[hp'];simp
  ·simp;omega
  ·simp
  ·simp
structure Gr where
 nd:Nat->Option Up
 pr:aq->aq
def aI.gr (n:aI):Gr:=⟨λi=>n.ae[i]?,n.pr⟩
abbrev Bd:=Nat->Cx->T->Prop
def Bd.add (g:Bd)(m:Nat)(C:Cx)(u:T):Bd:=λm' C' u'=>g m' C' u'\/(m'=m/\C'=C/\u'=u)
inductive tW (g:Gr)(R:Bd->aq->Cx->T->Prop):Bd->Nat->Up->Nat->Cx->T->Prop
 |lam {Γ:Bd} {m:Nat} {x:Up} {C:Cx} {t:T} {b:Ct} {r:List T}:x.ao=2->x.Us=C.length->qG t (.jJ (.lam b) r)->(∀u,R (Γ.add m C u) (g.pr ⟨m,1⟩) C (.jJ b (u::r)))->tW g R Γ m x 0 C t
 |var {Γ:Bd} {m:Nat} {x:Up} {C:Cx} {s:Sg} {t v:T}:x.ao=2->x.Us=C.length->Γ m C v->qG t v->tW g R Γ m x 2 (C++[s]) t
 |app {Γ:Bd} {m:Nat} {x:Up} {C:Cx} {t f a:T}:x.ao=3->x.Us=C.length->qG t (.app f a)->R Γ (g.pr ⟨m,0⟩) C f->(∀s,R Γ (g.pr ⟨m,2⟩) (C++[s]) a)->tW g R Γ m x 1 C t
 |UW {Γ:Bd} {m:Nat} {x:Up} {C:Cx} {t:T} {l:List T}:x.ao=8->x.Us=C.length->qG t (.UW x.name l)->l.length+1=x.to.length->(∀(i:Nat) (t':T),l[i]?=some t'->∀s,R Γ (g.pr ⟨m,i+1⟩) (C++[s]) t')->tW g R Γ m x 0 C t
 |case {Γ:Bd} {m:Nat} {x:Up} {C:Cx} {t h:T} {l:List T}:x.ao=9->x.Us=C.length->qG t (.case h x.aY l)->l.length=x.aY.length->R Γ (g.pr ⟨m,0⟩) C h->(∀(i:Nat) (t':T),l[i]?=some t'->R Γ (g.pr ⟨m,i+2⟩) C t')->tW g R Γ m x 1 C t
 |int {Γ:Bd} {m:Nat} {x:Up} {C:Cx} {t:T}:x.ao=10->x.Us=C.length->qG t (.int x.n)->tW g R Γ m x 0 C t
 |op {Γ:Bd} {m:Nat} {x:Up} {C:Cx} {t a b:T}:x.ao=11->x.Us=C.length->qG t (.op x.name a b)->R Γ (g.pr ⟨m,0⟩) C a->R Γ (g.pr ⟨m,2⟩) C b->tW g R Γ m x 1 C t
 |half {Γ:Bd} {m:Nat} {x:Up} {C:Cx} {t b:T}:x.ao=12->x.Us=C.length->qG t (.op x.name (.int x.n) b)->R Γ (g.pr ⟨m,0⟩) C b->tW g R Γ m x 1 C t
 |fail {Γ:Bd} {m:Nat} {x:Up} {C:Cx} {t:T}:x.ao=13->x.Us=C.length->qG t .fail->tW g R Γ m x 0 C t
 |Em {Γ:Bd} {m:Nat} {x:Up} {k:Nat} {C C':Cx} {t:T}:Cc x.ao x.Us k C C'->R Γ (g.pr ⟨m,0⟩) C' t->tW g R Γ m x k C t
 |out {Γ:Bd} {m:Nat} {x:Up} {k:Nat} {C D:Cx} {t:T}:Cc x.ao x.Us k D C->R Γ (g.pr ⟨m,k⟩) D t->tW g R Γ m x 0 C t
def At (g:Gr)(Γ:Bd)(q:aq)(C:Cx)(t:T):Prop :=
 ∀S:Bd->aq->Cx->T->Prop,(∀Γ q x C t,g.nd q.aD=some x->tW g S Γ q.aD x q.aT C t->S Γ q C t)->S Γ q C t
theorem tW.mono {g:Gr}{R S:Bd->aq->Cx->T->Prop}(h:∀Γ q C t,R Γ q C t->S Γ q C t){Γ:Bd}{m:Nat}{x:Up}{k:Nat}{C:Cx}{t:T}(hl:tW g R Γ m x k C t):tW g S Γ m x k C t:=by
 cases hl with
 |lam a b c d=>exact .lam a b c (λu=>h _ _ _ _ (d u))
 |var a b c d=>exact .var a b c d
 |app a b c d e=>exact .app a b c (h _ _ _ _ d) (λs=>h _ _ _ _ (e s))
 |UW a b c d e=>exact .UW a b c d (λi t' hi s=>h _ _ _ _ (e i t' hi s))
 |case a b c d e f=>exact .case a b c d (h _ _ _ _ e) (λi t' hi=>h _ _ _ _ (f i t' hi))
 |int a b c=>exact .int a b c
 |op a b c d e=>exact .op a b c (h _ _ _ _ d) (h _ _ _ _ e)
 |half a b c d=>exact .half a b c (h _ _ _ _ d)
 |fail a b c=>exact .fail a b c
 |Em a b=>exact .Em a (h _ _ _ _ b)
 |out a b=>exact .out a (h _ _ _ _ b)
theorem At.mk {g:Gr}{Γ:Bd}{q:aq}{C:Cx}{t:T}{x:Up}(hx:g.nd q.aD=some x)(h:tW g (At g) Γ q.aD x q.aT C t):At g Γ q C t :=
 λS hS=>hS Γ q x C t hx (h.mono (λΓ q C t ha=>ha S hS))
theorem At.mk' {g:Gr}{Γ:Bd}{m k:Nat}{C:Cx}{t:T}{x:Up}(hx:g.nd m=some x)(h:tW g (At g) Γ m x k C t):At g Γ ⟨m,k⟩ C t:=At.mk (q:=⟨m,k⟩) hx h
theorem At.ind {g:Gr}{S:Bd->aq->Cx->T->Prop}(hS:∀Γ q x C t,g.nd q.aD=some x->tW g (λΓ q C t=>At g Γ q C t/\S Γ q C t) Γ q.aD x q.aT C t->S Γ q C t){Γ:Bd}{q:aq}{C:Cx}{t:T}(h:At g Γ q C t):S Γ q C t :=
 (h (λΓ q C t=>At g Γ q C t/\S Γ q C t) (λΓ q x C t hx hl=>⟨At.mk hx (hl.mono (λ_ _ _ _ h=>h.1)),hS Γ q x C t hx hl⟩)).2
theorem At.lay {g:Gr}{Γ:Bd}{q:aq}{C:Cx}{t:T}(h:At g Γ q C t):∃x,g.nd q.aD=some x/\tW g (At g) Γ q.aD x q.aT C t :=
 At.ind (S:=λΓ q C t=>∃x,g.nd q.aD=some x/\tW g (At g) Γ q.aD x q.aT C t) (λΓ q x C t hx hl=>⟨x,hx,hl.mono (λ_ _ _ _ h=>h.1)⟩) h
theorem At.Q9 {g:Gr}{Γ:Bd}{m k:Nat}{C:Cx}{t:T}{x:Up}(h:At g Γ ⟨m,k⟩ C t)(hx:g.nd m=some x):tW g (At g) Γ m x k C t:=by
 obtain⟨y,hy,hl⟩:=h.lay;rw[show(⟨m,k⟩:aq).aD=m from rfl,hx]at hy;cases hy;exact hl
theorem Bd.Qw {Γ Δ:Bd}(h:∀m C v,Γ m C v->Δ m C v)(m:Nat)(C:Cx)(u:T):∀m' C' v,Γ.add m C u m' C' v->Δ.add m C u m' C' v :=
 λm' C' v hv=>hv.elim (λh1=>.inl (h _ _ _ h1)) .inr
theorem At.RH {g:Gr}{Γ:Bd}{q:aq}{C:Cx}{t:T}(h:At g Γ q C t):∀{Δ:Bd},(∀m C v,Γ m C v->Δ m C v)->At g Δ q C t:=by
 refine At.ind (S:=λΓ q C t=>∀{Δ:Bd},(∀m C v,Γ m C v->Δ m C v)->At g Δ q C t) (λΓ q x C t hx hl Δ hΔ=>?_) h;refine At.mk hx ?_;generalize q.aT=k at *;cases hl with
 |lam a b c d=>exact .lam a b c (λu=>(d u).2 (Bd.Qw hΔ _ _ _))
 |var a b c d=>exact .var a b (hΔ _ _ _ c) d
 |app a b c d e=>exact .app a b c (d.2 hΔ) (λs=>(e s).2 hΔ)
 |UW a b c d e=>exact .UW a b c d (λi t' hi s=>(e i t' hi s).2 hΔ)
 |case a b c d e f=>exact .case a b c d (e.2 hΔ) (λi t' hi=>(f i t' hi).2 hΔ)
 |int a b c=>exact .int a b c
 |op a b c d e=>exact .op a b c (d.2 hΔ) (e.2 hΔ)
 |half a b c d=>exact .half a b c (d.2 hΔ)
 |fail a b c=>exact .fail a b c
 |Em a b=>exact .Em a (b.2 hΔ)
 |out a b=>exact .out a (b.2 hΔ)
theorem At.back {g:Gr}{Γ:Bd}{q:aq}{C:Cx}{t:T}(h:At g Γ q C t):∀{u:T},qG u t->At g Γ q C u:=by
 refine At.ind (S:=λΓ q C t=>∀{u:T},qG u t->At g Γ q C u) (λΓ q x C t hx hl u hu=>?_) h;refine At.mk hx ?_;generalize q.aT=k at *;cases hl with
 |lam a b c d=>exact .lam a b (hu.trans c) (λu=>(d u).1)
 |var a b c d=>exact .var a b c (hu.trans d)
 |app a b c d e=>exact .app a b (hu.trans c) d.1 (λs=>(e s).1)
 |UW a b c d e=>exact .UW a b (hu.trans c) d (λi t' hi s=>(e i t' hi s).1)
 |case a b c d e f=>exact .case a b (hu.trans c) d e.1 (λi t' hi=>(f i t' hi).1)
 |int a b c=>exact .int a b (hu.trans c)
 |op a b c d e=>exact .op a b (hu.trans c) d.1 e.1
 |half a b c d=>exact .half a b (hu.trans c) d.1
 |fail a b c=>exact .fail a b (hu.trans c)
 |Em a b=>exact .Em a (b.2 hu)
 |out a b=>exact .out a (b.2 hu)
theorem tW.ext {g g':Gr}{S:Bd->aq->Cx->T->Prop}{K:Bd->Bd->Prop}{m:Nat}{x x':Up}(hb:x'.bare=x.bare)(hlen:x.to.length=x.bO)
  (hK:∀Γ Γ' C u,K Γ Γ'->K (Γ.add m C u) (Γ'.add m C u)) (hV:∀Γ Γ' C v,K Γ Γ'->Γ m C v->Γ' m C v)
  (hS:∀k,k<x.to.length->∀Γ Γ' C t,K Γ Γ'->S Γ (g.pr ⟨m,k⟩) C t->At g' Γ' (g'.pr ⟨m,k⟩) C t)
  {Γ Γ':Bd} {k:Nat} {C:Cx} {t:T} (h:tW g S Γ m x k C t) (hΓ:K Γ Γ'):tW g' (At g') Γ' m x' k C t:=by
 obtain⟨b1,b2,b3,b4,b5,b6,b7,b8⟩:=Up.eB hb;have hp:∀j,x.ao=j->j≠8->j≠9->x.to.length=eL j:=λj hj h8 h9=>by
  rw[hlen];unfold Up.bO;rw[hj,aa h8,aa h9]
 have hc:∀{v j:Nat} {D E:Cx},Cc x.ao v j D E->0<x.to.length/\j<x.to.length:=fun {v j D E} h=>by
  have hs:=h.aT;have:=hp x.ao rfl (by omega) (by omega);omega
 cases h with
 |lam a b c d=>exact .lam (b3.trans a) (b5.trans b) c (λu=>hS 1 (by rw[hp 2 a (by omega) (by omega)];decide) _ _ _ _ (hK _ _ _ _ hΓ) (d u))
 |var a b c d=>exact .var (b3.trans a) (b5.trans b) (hV _ _ _ _ hΓ c) d
 |app a b c d e =>
  have:=hp 3 a (by omega) (by omega);exact .app (b3.trans a) (b5.trans b) c (hS 0 (by rw[this];decide) _ _ _ _ hΓ d) (λs=>hS 2 (by rw[this];decide) _ _ _ _ hΓ (e s))
 |UW a b c d e=>exact .UW (b3.trans a) (b5.trans b) (by rw[b8];exact c) (by rw[b4];exact d) (λi t' hi s=>hS (i+1) (by have:=(gE hi).1;omega) _ _ _ _ hΓ (e i t' hi s))
 |case a b c d e f =>
  have hl:x.to.length=2+x.aY.length:=by rw[hlen];unfold Up.bO;rw[a];rfl
  exact .case (b3.trans a) (b5.trans b) (by rw[b6];exact c) (by rw[b6];exact d) (hS 0 (by omega) _ _ _ _ hΓ e) (λi t' hi=>hS (i+2) (by have:=(gE hi).1;omega) _ _ _ _ hΓ (f i t' hi))
 |int a b c=>exact .int (b3.trans a) (b5.trans b) (by rw[b7];exact c)
 |op a b c d e =>
  have:=hp 11 a (by omega) (by omega);exact .op (b3.trans a) (b5.trans b) (by rw[b8];exact c) (hS 0 (by rw[this];decide) _ _ _ _ hΓ d) (hS 2 (by rw[this];decide) _ _ _ _ hΓ e)
 |half a b c d =>
  have:=hp 12 a (by omega) (by omega);exact .half (b3.trans a) (b5.trans b) (by rw[b8,b7];exact c) (hS 0 (by rw[this];decide) _ _ _ _ hΓ d)
 |fail a b c=>exact .fail (b3.trans a) (b5.trans b) c
 |Em a b=>exact .Em (by rw[b3,b5];exact a) (hS 0 (hc a).1 _ _ _ _ hΓ b)
 |out a b=>exact .out (by rw[b3,b5];exact a) (hS _ (hc a).2 _ _ _ _ hΓ b)
structure pR (f:aq->aq)(S:aq->Prop)(m:aI)(D:aq->Prop)(σ:aq->aq):Prop where
 cl:∀r,S r->S (f r)/\f (f r)=r/\f r≠r
 inj:∀r r',S r->S r'->σ r=σ r'->r=r'
 ok:∀r,S r->m.has (σ r)/\¬ D (σ r)/\m.pr (σ r)=σ (f r)
 new:∀r,m.has r->D r->¬ S r->σ r=r
theorem pR.congr {f:aq->aq}{S D D':aq->Prop}{m:aI}{σ:aq->aq}(h:pR f S m D σ)(hd:∀p,m.has p->(D' p↔D p)):pR f S m D' σ :=
 ⟨h.cl,h.inj,λr hr=>⟨(h.ok r hr).1,λe=>(h.ok r hr).2.1 ((hd _ (h.ok r hr).1).1 e),(h.ok r hr).2.2⟩,λr hr hD hS=>h.new r hr ((hd r hr).1 hD) hS⟩
theorem aI.HP {m:aI}{D:aq->Prop}(hl:Lk m D){p q:aq}(hp:m.has p)(hq:m.has q)(hpD:¬ D p)(hqD:D q)(r:aq):(m.move p q).pr r=if r=q then m.pr p else if r=m.pr p then q else m.pr r:=by
 obtain⟨a1,a2,a3,a4⟩:=hl p hp hpD;have hne:m.pr p≠q:=λe=>a2 (by rw[e];exact hqD);unfold aI.move;rw[aa hne,aI.j8 hq a1 (λe=>hne e.symm)]
theorem pR.move {f:aq->aq}{S D:aq->Prop}{m:aI}{σ:aq->aq}(h:pR f S m D σ)(hl:Lk m D){p q:aq}(hp:m.has p)(hq:m.has q)(hpD:¬ D p)(hqD:D q)(hS:S p)(hσ:σ p=p) :
  pR f S (m.move p q) (λr=>(D r/\r≠q)\/r=p) (λr=>if r=p then q else σ r):=by
 have hpq:p≠q:=λe=>hpD (by rw[e];exact hqD);have hpr:=aI.HP hl hp hq hpD hqD;have hmp:m.pr p=σ (f p):=by rw[<- (h.ok p hS).2.2,hσ]
 have hne:∀r,S r->σ r≠q:=λr hr e=>(h.ok r hr).2.1 (by rw[e];exact hqD);have hinj:∀r,S r->r≠p->σ r≠p:=λr hr e e2=>e (h.inj r p hr hS (by rw[e2,hσ]));refine⟨h.cl,λr r' hr hr' e=>?_,λr hr=>?_,λr hr hD hSr=>?_⟩
 ·by_cases e1:r=p
  ·by_cases e2:r'=p
   ·rw[e1,e2]
   ·rw[ah e1,aa e2]at e;exact absurd e.symm (hne r' hr')
  ·by_cases e2:r'=p
   ·rw[aa e1,ah e2]at e;exact absurd e (hne r hr)
   ·rw[aa e1,aa e2]at e;exact h.inj r r' hr hr' e
 ·obtain⟨c1,c2,c3⟩:=h.cl r hr;obtain⟨o1,o2,o3⟩:=h.ok r hr;have hb:∀x,(m.move p q).has x↔m.has x:=λx=>(UU.move m p q).has;by_cases e1:r=p
  ·subst e1;rw[ah rfl,aa c3,hpr,ah rfl,hmp];refine⟨(hb q).2 hq,?_,rfl⟩;rintro(e|e)
   ·exact e.2 rfl
   ·exact hpq e.symm
  ·rw[aa e1];refine⟨(hb _).2 o1,?_,?_⟩
   ·rintro(e|e)
    ·exact o2 e.1
    ·exact hinj r hr e1 e
   ·rw[hpr,aa (hne r hr)];by_cases e2:f r=p
    ·rw[ah e2,ah];rw[hmp,<- e2,c2]
    ·rw[aa e2,aa,o3];intro e3;rw[hmp]at e3;have:=h.inj r (f p) hr (h.cl p hS).1 e3;apply e2;rw[this,(h.cl p hS).2.1]
 ·have hr':m.has r:=(UU.move m p q).has.1 hr;have hrp:r≠p:=λe=>hSr (by rw[e];exact hS);rw[aa hrp];rcases hD with e|e
  ·exact h.new r hr' e.1 hSr
  ·exact absurd e hrp
theorem pR.ft {f:aq->aq}{S:aq->Prop}:∀(l:List (aq×aq)) {m:aI} {D:aq->Prop} {σ:aq->aq},pR f S m D σ->Lk m D->(∀pq,pq∈l->m.has pq.1/\m.has pq.2/\¬ D pq.1/\D pq.2)->(l.map (·.1)).Nodup->(l.map (·.2)).Nodup ->
  (∀pq,pq∈l->S pq.1/\σ pq.1=pq.1)->∃σ',pR f S (m.ft l) (λr=>(D r/\r∉l.map (·.2))\/r∈l.map (·.1)) σ'/\(∀pq,pq∈l->σ' pq.1=pq.2)/\∀r,r∉l.map (·.1)->σ' r=σ r
 |[],m,D,σ,h,hl,h1,h2,h3,h4=>⟨σ,h.congr (λp _=>by simp),by simp,λ_ _=>rfl⟩
 |(p,q)::l,m,D,σ,h,hl,h1,h2,h3,h4=>by
  obtain⟨a1,a2,a3,a4⟩:=h1 (p,q) (by simp);obtain⟨b1,b2⟩:=h4 (p,q) (by simp);simp only[ai,UB]at h2 h3;have hmem1:∀pq,pq∈l->pq.1≠p:=λpq hpq e=>h2.1 (by rw[<- e];exact UH hpq);have hmem2:∀pq,pq∈l->pq.2≠q:=λpq hpq e=>h3.1 (by rw[<- e];exact UH hpq);have ht:=h.move hl a1 a2 a3 a4 b1 b2;have hlk:=(hl.move a1 a2 a3 a4).2;obtain⟨σ',k1,k2,k3⟩:=pR.ft l ht hlk (λpq hpq=>by
   obtain⟨c1,c2,c3,c4⟩:=h1 pq (bA _ hpq);refine⟨(UU.move m p q).has.2 c1,(UU.move m p q).has.2 c2,?_,.inl ⟨c4,hmem2 pq hpq⟩⟩;rintro(e|e)
   ·exact c3 e.1
   ·exact hmem1 pq hpq e) h2.2 h3.2 (λpq hpq=>by
   obtain⟨c1,c2⟩:=h4 pq (bA _ hpq);refine⟨c1,?_⟩
   show(if pq.1=p then q else σ pq.1)=pq.1
   rw[aa (hmem1 pq hpq),c2])
  refine⟨σ',?_,λpq hpq=>?_,λr hr=>?_⟩
  ·refine k1.congr (λr _=>?_);simp only[ai,aA,eX];constructor
   ·rintro(⟨d1,d2,d3⟩|d|d)
    ·exact .inl ⟨.inl ⟨d1,d2⟩,d3⟩
    ·by_cases e:r∈l.map (·.1)
     ·exact .inr e
     ·refine .inl ⟨.inr d,λe2=>?_⟩;rw[bj]at e2;obtain⟨pq,e3,e4⟩:=e2;have:=(h1 pq (bA _ e3)).2.2.2;rw[e4,d]at this;exact a3 this
    ·exact .inr d
   ·rintro(⟨d1|d1,d2⟩|d)
    ·exact .inl ⟨d1.1,d1.2,d2⟩
    ·exact .inr (.inl d1)
    ·exact .inr (.inr d)
  ·rcases aA.1 hpq with rfl|hpq
   ·rw[k3 p h2.1]
    show(if p=p then q else σ p)=q
    rw[ah rfl]
   ·exact k2 pq hpq
  ·simp only[ai,aA,eX]at hr;rw[k3 r hr.2]
   show(if r=p then q else σ r)=σ r
   rw[aa hr.1]
theorem pR.link {f:aq->aq}{S D:aq->Prop}{m:aI}{σ:aq->aq}(h:pR f S m D σ){p q:aq}(hp:m.has p)(hq:m.has q)(hpD:D p)(hqD:D q)(hne:p≠q)(hpS:¬ S p)(hqS:¬ S q) :
  pR (λr=>if r=p then q else if r=q then p else f r) (λr=>S r\/r=p\/r=q) (m.link p q) (λr=>D r/\r≠p/\r≠q) σ:=by
 have sp:=h.new p hp hpD hpS;have sq:=h.new q hq hqD hqS;have n1:∀r,S r->r≠p:=λr hr e=>hpS (by rw[<- e];exact hr);have n2:∀r,S r->r≠q:=λr hr e=>hqS (by rw[<- e];exact hr);have i1:∀r,S r->σ r≠p:=λr hr e=>(h.ok r hr).2.1 (by rw[e];exact hpD);have i2:∀r,S r->σ r≠q:=λr hr e=>(h.ok r hr).2.1 (by rw[e];exact hqD);have hpr:=aI.j8 hp hq hne;refine⟨λr hr=>?_,λr r' hr hr' e=>?_,λr hr=>?_,λr hr hD hS=>?_⟩
 ·rcases hr with hr|rfl|rfl
  ·obtain⟨c1,c2,c3⟩:=h.cl r hr;simp only[aa (n1 r hr),aa (n2 r hr),aa (n1 _ c1),aa (n2 _ c1)];exact⟨.inl c1,c2,c3⟩
  ·simp only[if_true,aa (Ne.symm hne)];exact⟨.inr (.inr trivial),trivial,Ne.symm hne⟩
  ·simp only[if_true,aa (Ne.symm hne)];exact⟨.inr (.inl trivial),trivial,hne⟩
 ·rcases hr with hr|rfl|rfl
  ·rcases hr' with hr'|rfl|rfl
   ·exact h.inj r r' hr hr' e
   ·rw[sp]at e;exact absurd e (i1 r hr)
   ·rw[sq]at e;exact absurd e (i2 r hr)
  ·rcases hr' with hr'|rfl|rfl
   ·rw[sp]at e;exact absurd e.symm (i1 r' hr')
   ·rfl
   ·rw[sp,sq]at e;exact e
  ·rcases hr' with hr'|rfl|rfl
   ·rw[sq]at e;exact absurd e.symm (i2 r' hr')
   ·rw[sp,sq]at e;exact e
   ·rfl
 ·rcases hr with hr|rfl|rfl
  ·obtain⟨o1,o2,o3⟩:=h.ok r hr;rw[aa (n1 r hr),aa (n2 r hr),hpr,aa (i1 r hr),aa (i2 r hr)];exact⟨aI.ef.2 o1,λe=>o2 e.1,o3⟩
  ·simp only[if_true];rw[sp,sq,hpr,ah rfl];exact⟨aI.ef.2 hp,λe=>e.2.1 rfl,rfl⟩
  ·rw[aa (Ne.symm hne),ah rfl,sp,sq,hpr,aa (Ne.symm hne),ah rfl];exact⟨aI.ef.2 hq,λe=>e.2.2 rfl,rfl⟩
 ·exact h.new r (aI.ef.1 hr) hD.1 (λe=>hS (.inl e))
theorem pR.jy {σ:aq->aq}:∀(l:List (aq×aq)) {f:aq->aq} {S:aq->Prop} {m:aI} {D:aq->Prop},pR f S m D σ->(∀pq,pq∈l->m.has pq.1/\m.has pq.2/\D pq.1/\D pq.2/\¬ S pq.1/\¬ S pq.2)->(l.map (·.1)).Nodup->(l.map (·.2)).Nodup->(∀a,a∈l.map (·.1)->a∉l.map (·.2)) ->
  ∃f',pR f' (λr=>S r\/r∈l.map (·.1)\/r∈l.map (·.2)) (m.jy l) (λr=>D r/\r∉l.map (·.1)/\r∉l.map (·.2)) σ/\(∀r,S r->f' r=f r)/\∀pq,pq∈l->f' pq.1=pq.2/\f' pq.2=pq.1
 |[],f,S,m,D,h,h1,h2,h3,h4=>by
  refine⟨f,?_,λ_ _=>rfl,by simp⟩;have e:(λr=>S r\/r∈([]:List (aq×aq)).map (·.1)\/r∈([]:List (aq×aq)).map (·.2))=S:=by funext r;simp
  rw[e];exact h.congr (λp _=>by simp)
 |(p,q)::l,f,S,m,D,h,h1,h2,h3,h4=>by
  obtain⟨a1,a2,a3,a4,a5,a6⟩:=h1 (p,q) (by simp);simp only[ai,UB,aA]at h2 h3 h4;have hne:p≠q:=λe=>h4 p (.inl rfl) (.inl e);have hpr:∀pq,pq∈l->pq.1≠p/\pq.1≠q/\pq.2≠p/\pq.2≠q:=λpq hpq=>by
   have m1:=UH (f:=(·.1)) hpq;have m2:=UH (f:=(·.2)) hpq;refine⟨λe=>h2.1 (by rw[<- e];exact m1),λe=>h4 _ (.inr m1) (.inl e),λe=>h4 p (.inl rfl) (.inr (by rw[<- e];exact m2)),λe=>h3.1 (by rw[<- e];exact m2)⟩
  have ht:=h.link a1 a2 a3 a4 hne a5 a6;obtain⟨f',k1,k2,k3⟩:=pR.jy l ht (λpq hpq=>by
   obtain⟨c1,c2,c3,c4,c5,c6⟩:=h1 pq (bA _ hpq);obtain⟨d1,d2,d3,d4⟩:=hpr pq hpq;exact⟨aI.ef.2 c1,aI.ef.2 c2,⟨c3,d1,d2⟩,⟨c4,d3,d4⟩,λe=>e.elim c5 (λe=>e.elim d1 d2),λe=>e.elim c6 (λe=>e.elim d3 d4)⟩) h2.2 h3.2 (λa ha hb=>h4 a (.inr ha) (.inr hb))
  refine⟨f',?_,λr hr=>?_,λpq hpq=>?_⟩
  ·have e:(λr=>(S r\/r=p\/r=q)\/r∈l.map (·.1)\/r∈l.map (·.2))=(λr=>S r\/r∈((p,q)::l).map (·.1)\/r∈((p,q)::l).map (·.2)):=by
    funext r;simp only[ai,aA];apply propext;constructor
    ·rintro((e|e|e)|e|e)
     ·exact .inl e
     ·exact .inr (.inl (.inl e))
     ·exact .inr (.inr (.inl e))
     ·exact .inr (.inl (.inr e))
     ·exact .inr (.inr (.inr e))
    ·rintro(e|(e|e)|(e|e))
     ·exact .inl (.inl e)
     ·exact .inl (.inr (.inl e))
     ·exact .inr (.inl e)
     ·exact .inl (.inr (.inr e))
     ·exact .inr (.inr e)
   rw[<- e];refine k1.congr (λr _=>?_);simp only[ai,aA,eX];constructor
   ·rintro⟨d1,⟨d2,d3⟩,d4,d5⟩;exact⟨⟨d1,d2,d4⟩,d3,d5⟩
   ·rintro⟨⟨d1,d2,d4⟩,d3,d5⟩;exact⟨d1,⟨d2,d3⟩,d4,d5⟩
  ·rw[k2 r (.inl hr),aa (λe=>a5 (by rw[<- e];exact hr)),aa (λe=>a6 (by rw[<- e];exact hr))]
  ·rcases aA.1 hpq with rfl|hpq
   ·rw[k2 p (.inr (.inl rfl)),k2 q (.inr (.inr rfl)),ah rfl,aa (Ne.symm hne),ah rfl];exact⟨rfl,rfl⟩
   ·exact k3 pq hpq
theorem pR.grow {f:aq->aq}{S D D':aq->Prop}{m m':aI}{σ:aq->aq}(h:pR f S m D σ)(hh:∀p,m.has p->m'.has p/\m'.pr p=m.pr p/\(D' p↔D p))(hn:∀p,m'.has p->¬ m.has p->σ p=p):pR f S m' D' σ:=by
 refine⟨h.cl,h.inj,λr hr=>?_,λr hr hD hS=>?_⟩
 ·obtain⟨o1,o2,o3⟩:=h.ok r hr;obtain⟨h1,h2,h3⟩:=hh _ o1;exact⟨h1,λe=>o2 (h3.1 e),h2.trans o3⟩
 ·by_cases e:m.has r
  ·exact h.new r e ((hh r e).2.2.1 hD) hS
  ·exact hn r hr e
inductive sC (f:aq->aq)(J:List (aq×aq)):aq->aq->Prop
 |aK {q:aq}:(∀pq,pq∈J->q≠pq.1/\q≠pq.2)->sC f J q q
 |lr {p q x:aq}:(p,q)∈J->sC f J (f q) x->sC f J p x
 |rl {p q x:aq}:(p,q)∈J->sC f J (f p) x->sC f J q x
def ma (f:aq->aq)(p q r:aq):aq:=if f r=p then f q else if f r=q then f p else f r
theorem pR.join {f:aq->aq}{S D:aq->Prop}{m:aI}{σ:aq->aq}(h:pR f S m D σ)(hl:Lk m D){p q:aq}(hp:S p)(hq:S q)(hne:p≠q)(sp:σ p=p)(sq:σ q=q) :
  pR (ma f p q) (λr=>S r/\r≠p/\r≠q) (m.join p q) (λr=>D r\/r=p\/r=q) σ:=by
 obtain⟨cp1,cp2,cp3⟩:=h.cl p hp;obtain⟨cq1,cq2,cq3⟩:=h.cl q hq;obtain⟨op1,op2,op3⟩:=h.ok p hp;obtain⟨oq1,oq2,oq3⟩:=h.ok q hq;rw[sp]at op1 op2 op3;rw[sq]at oq1 oq2 oq3;have hcl:∀r,S r->r≠p->r≠q->S (ma f p q r)/\ma f p q r≠p/\ma f p q r≠q/\ma f p q (ma f p q r)=r/\ma f p q r≠r:=by
  intro r hr n1 n2;obtain⟨c1,c2,c3⟩:=h.cl r hr;have efp:∀{x y},S x->S y->f x=f y->x=y:=fun {x y} hx hy e=>by rw[<- (h.cl x hx).2.1,e,(h.cl y hy).2.1]
  unfold ma;by_cases e1:f r=p
  ·have er:r=f p:=by rw[<- e1,c2]
   rw[ah e1];refine⟨cq1,λe=>n2 ?_,cq3,?_,λe=>?_⟩
   ·rw[er,<- e,cq2]
   ·rw[cq2,aa (Ne.symm hne),ah rfl,er]
   ·exact hne (efp hp hq (by rw[<- er,e]))
  ·rw[aa e1];by_cases e2:f r=q
   ·have er:r=f q:=by rw[<- e2,c2]
    rw[ah e2];refine⟨cp1,cp3,λe=>n1 ?_,?_,λe=>?_⟩
    ·rw[er,<- e,cp2]
    ·rw[cp2,ah rfl,er]
    ·exact hne (efp hp hq (by rw[<- er,e]))
   ·rw[aa e2];refine⟨c1,e1,e2,?_,c3⟩;rw[c2,aa n1,aa n2]
 refine⟨λr hr=>?_,λr r' hr hr' e=>h.inj r r' hr.1 hr'.1 e,λr hr=>?_,λr hr hD hS=>?_⟩
 ·obtain⟨k1,k2,k3,k4,k5⟩:=hcl r hr.1 hr.2.1 hr.2.2;exact⟨⟨k1,k2,k3⟩,k4,k5⟩
 ·obtain⟨o1,o2,o3⟩:=h.ok r hr.1;have i1:σ r≠p:=λe=>hr.2.1 (h.inj r p hr.1 hp (by rw[e,sp]));have i2:σ r≠q:=λe=>hr.2.2 (h.inj r q hr.1 hq (by rw[e,sq]));have hb:=(UU.join m p q).has (p:=σ r);refine⟨hb.2 o1,?_,?_⟩
  ·rintro(e|e|e)
   ·exact o2 e
   ·exact i1 e
   ·exact i2 e
  ·unfold aI.join;obtain⟨c1,c2,c3⟩:=h.cl r hr.1;by_cases e0:m.pr p=q
   ·rw[ah e0,o3];have e1:f p=q:=h.inj _ _ cp1 hq (by rw[<- op3,e0,sq]);have e2:f q=p:=by rw[<- e1,cp2]
    unfold ma;rw[aa,aa]
    ·intro e;apply hr.2.1;rw[<- c2,e,e2]
    ·intro e;apply hr.2.2;rw[<- c2,e,e1]
   ·rw[aa e0];obtain⟨l1,l2,l3,l4⟩:=hl p op1 op2;obtain⟨m1,m2,m3,m4⟩:=hl q oq1 oq2;rw[aI.j8 l1 m1 (λe=>hne (by rw[<- l3,e,m3])),op3,oq3,o3];unfold ma;by_cases e1:f r=p
    ·have er:r=f p:=by rw[<- e1,c2]
     rw[ah e1,ah (by rw[er])]
    ·have er:¬ σ r=σ (f p):=λe=>e1 (by rw[h.inj _ _ hr.1 cp1 e,cp2]);rw[aa e1,aa er];by_cases e2:f r=q
     ·have er:r=f q:=by rw[<- e2,c2]
      rw[ah e2,ah (by rw[er])]
     ·have er:¬ σ r=σ (f q):=λe=>e2 (by rw[h.inj _ _ hr.1 cq1 e,cq2]);rw[aa e2,aa er]
 ·have hr':=(UU.join m p q).has.1 hr;by_cases e1:r=p
  ·rw[e1,sp]
  ·by_cases e2:r=q
   ·rw[e2,sq]
   ·refine h.new r hr' ?_ (λe=>hS ⟨e,e1,e2⟩);rcases hD with e|e|e
    ·exact e
    ·exact absurd e e1
    ·exact absurd e e2
theorem Ea {f:aq->aq}{S:aq->Prop}(hcl:∀r,S r->S (f r)/\f (f r)=r/\f r≠r){p q:aq}(hp:S p)(hq:S q){J:List (aq×aq)}(hJ:∀pq,pq∈J->(pq.1≠p/\pq.1≠q)/\pq.2≠p/\pq.2≠q){x y:aq}(h:sC f ((p,q)::J) x y) :
  sC (ma f p q) J (if x=p then f q else if x=q then f p else x) y:=by
 have step:∀z,sC (ma f p q) J (if z=p then f q else if z=q then f p else z) y->∀r,f r=z->r≠p->r≠q->sC (ma f p q) J (ma f p q r) y:=by
  intro z hz r hr n1 n2;unfold ma;rw[hr];exact hz
 induction h with
 |aK h0 =>
  have:=h0 (p,q) (by simp);rw[aa this.1,aa this.2];exact .aK (λpq hpq=>h0 pq (bA _ hpq))
 |@lr p' q' x hm ht ih =>
  rcases aA.1 hm with e|hm
  ·cases e;rw[ah rfl];have ih:=ih step;by_cases e1:f q=p
   ·rw[e1,ah rfl]at ih;rw[e1];exact ih
   ·rw[aa e1,aa (hcl q hq).2.2]at ih;exact ih
  ·obtain⟨⟨j1,j2⟩,j3,j4⟩:=hJ _ hm;rw[aa j1,aa j2];exact .lr hm (step _ (ih step) q' rfl j3 j4)
 |@rl p' q' x hm ht ih =>
  rcases aA.1 hm with e|hm
  ·cases e;have ih:=ih step;by_cases e0:q=p
   ·subst e0;rw[ah rfl];rw[aa (hcl q hq).2.2,aa (hcl q hq).2.2]at ih;exact ih
   ·rw[aa e0,ah rfl];by_cases e1:f p=q
    ·rw[e1,aa e0,ah rfl]at ih;rw[e1];exact ih
    ·rw[aa (hcl p hp).2.2,aa e1]at ih;exact ih
  ·obtain⟨⟨j1,j2⟩,j3,j4⟩:=hJ _ hm;rw[aa j3,aa j4];exact .rl hm (step _ (ih step) p' rfl j1 j2)
def S0 (n:aI)(a b:Nat)(r:aq):Prop:=n.has r/\r≠⟨a,0⟩/\r≠⟨b,0⟩
structure Fin (n m:aI)(a b:Nat)(J:List (aq×aq))(σ:aq->aq):Prop where
 ok:m.Ok
 bq:∀(i:Nat) (z:Up),i≠a->i≠b->n.ae[i]?=some z->z.ao≠0->∃z',m.ae[i]?=some z'/\z'.bare=z.bare
 ext:∀r:aq,r.aD≠a->r.aD≠b->σ r=r
 on:∀pq,pq∈J->(pq.1.aD=a\/pq.1.aD=b)/\(pq.2.aD=a\/pq.2.aD=b)
 pr:∀r,S0 n a b r->(∀pq,pq∈J->r≠pq.1/\r≠pq.2)->∀q,sC n.pr J (n.pr r) q->m.pr (σ r)=σ q
theorem pE.QW {n:aI}{a b:Nat}{x y:Up}(h:pE n a b x y):pR n.pr (S0 n a b) n (λr=>r=⟨a,0⟩\/r=⟨b,0⟩) id:=by
 refine⟨λr hr=>?_,λr r' _ _ e=>e,λr hr=>⟨hr.1,λe=>e.elim hr.2.1 hr.2.2,rfl⟩,λ_ _ _ _=>rfl⟩;obtain⟨a1,a2,a3,a4⟩:=h.ok.lk r hr.1 id;refine⟨⟨a1,λe=>hr.2.2 ?_,λe=>hr.2.1 ?_⟩,a3,a4⟩
 ·rw[<- a3,e];exact h.pr
 ·rw[<- a3,e];exact h.back
theorem lF.fin {n m:aI}{a b:Nat}{x y:Up}{H D S:aq->Prop}{f σ:aq->aq}{J:List (aq×aq)}(h:lF n a b m H D)(ht:pE n a b x y)(kx:2<=x.ao)(ky:2<=y.ao)(hD:∀p,H p->(D p↔p.aD=a\/p.aD=b))
  (hT:pR f S m D σ) (hS:∀r,S0 n a b r->(∀pq,pq∈J->r≠pq.1/\r≠pq.2)->S r/\∀q,sC n.pr J (n.pr r) q->f r=q) (hσ:∀r:aq,r.aD≠a->r.aD≠b->σ r=r)
  (hJ:∀pq,pq∈J->(pq.1.aD=a\/pq.1.aD=b)/\(pq.2.aD=a\/pq.2.aD=b)) :
  Fin n (m.UT a b) a b J σ/\(∀r,S r->(m.UT a b).pr (σ r)=σ (f r))/\∀(i:Nat) (z:Up),i≠a->i≠b->m.ae[i]?=some z->z.ao≠0->(m.UT a b).ae[i]?=some z:=by
 have hd:=h.finish ht.ne ht.hx ht.hy kx ky hD;have ha0:a≠0:=λe=>by have:=(ht.ok.aD _ _ ht.hx).2.2.2 e;omega
 have hb0:b≠0:=λe=>by have:=(ht.ok.aD _ _ ht.hy).2.2.2 e;omega
 have s1:=h.sk.free (i:=max a b) (by omega);have hpr:∀r,S r->(m.UT a b).pr (σ r)=σ (f r):=λr hr=>by
  obtain⟨o1,o2,o3⟩:=hT.ok r hr;have o4:¬ ((σ r).aD=a\/(σ r).aD=b):=λe=>o2 ((hD _ ((h.has _).1 o1)).2 e);have q1:(m.free (max a b)).has (σ r):=h.sk.Wb.2 ⟨o1,by omega⟩;have q2:((m.free (max a b)).free (min a b)).has (σ r):=s1.Wb.2 ⟨q1,by omega⟩
  show((m.free (max a b)).free (min a b)).pr (σ r)=_
  rw[s1.uo q2,h.sk.uo q1,o3]
 refine⟨⟨hd.ok,λi z h1 h2 h3 h4=>hd.bq i z h1 h2 h3 h4,hσ,hJ,λr hr hj q hq=>?_⟩,hpr,λi z h1 h2 h3 h4=>aI.jc (aI.jc h3 h4 (by omega)) h4 (by omega)⟩;obtain⟨k1,k2⟩:=hS r hr hj;rw[hpr r k1,k2 q hq]
theorem Gg {f:aq->aq}{p q:aq}(h:sC f [] p q):p=q:=by
 cases h with
 |aK _=>rfl
 |lr h _=>simp at h
 |rl h _=>simp at h
theorem lF.Qx {n m:aI}{a b:Nat}{x y:Up}{H D S:aq->Prop}{f σ:aq->aq}(h:lF n a b m H D)(ht:pE n a b x y)(kx:2<=x.ao)(ky:2<=y.ao)(hD:∀p,H p->(D p↔p.aD=a\/p.aD=b))
  (hT:pR f S m D σ) (hS:∀r,S0 n a b r->S r/\f r=n.pr r) (hσ:∀r:aq,r.aD≠a->r.aD≠b->σ r=r) :
  Fin n (m.UT a b) a b [] σ/\(∀r,S r->(m.UT a b).pr (σ r)=σ (f r))/\∀(i:Nat) (z:Up),i≠a->i≠b->m.ae[i]?=some z->z.ao≠0->(m.UT a b).ae[i]?=some z :=
 h.fin ht kx ky hD hT (λr hr _=>⟨(hS r hr).1,λq hq=>by rw[(hS r hr).2];exact Gg hq⟩) hσ (by simp)
theorem pR.make {f:aq->aq}{S D:aq->Prop}{m:aI}{σ:aq->aq}(h:pR f S m D σ)(hs:m.Sk)(x:Up)(hn:∀p:aq,p.aD=m.cg->σ p=p):pR f S (m.make x) (λr=>D r\/r.aD=m.cg) σ:=by
 refine h.grow (λp hp=>?_) (λp hp hp'=>?_)
 ·have:=hs.hZ hp;exact⟨(aI.VC hs).2 (.inr hp),aI.r7 this,⟨λe=>e.resolve_right this,.inl⟩⟩
 ·rcases(aI.VC hs).1 hp with e|e
  ·exact hn p e.1
  ·exact absurd e hp'
theorem pR.cI {f:aq->aq}{S D:aq->Prop}{m m':aI}{x:Up}{cs:List Nat}{σ:aq->aq}(h:pR f S m D σ)(hl:CS m m' x cs)(hn:∀p:aq,p.aD∈cs->σ p=p):pR f S m' (λr=>D r\/r.aD∈cs) σ:=by
 refine h.grow (λp hp=>?_) (λp hp hp'=>?_)
 ·have:=hl.d_ p hp;exact⟨(hl.has p).2 (.inl hp),hl.pr p hp,⟨λe=>e.resolve_right this,.inl⟩⟩
 ·rcases(hl.has p).1 hp with e|e
  ·exact absurd e hp'
  ·exact hn p e.1
def KJ (m:aI)(c:Nat)(x:Up):Prop:=∃z,m.ae[c]?=some z/\z.bare=x.bare
theorem KJ.bare {m m':aI}{c:Nat}{x:Up}(h:KJ m c x)(hb:UU m' m):KJ m' c x:=by
 obtain⟨z,h1,h2⟩:=h;obtain⟨z',h3,h4⟩:=hb.at h1;exact⟨z',h3,h4.trans h2⟩
theorem KJ.fin {m m':aI}{a b c:Nat}{x:Up}(h:KJ m c x)(hk:x.ao≠0)(ha:c≠a)(hb:c≠b)(hm:∀(i:Nat) (z:Up),i≠a->i≠b->m.ae[i]?=some z->z.ao≠0->m'.ae[i]?=some z):KJ m' c x:=by
 obtain⟨z,h1,h2⟩:=h;exact⟨z,hm c z ha hb h1 (by rw[(Up.eB h2).2.2.1];exact hk),h2⟩
theorem KJ.bq {m m':aI}{c:Nat}{x:Up}(h:KJ m c x)(hk:x.ao≠0)(hm:∀(i:Nat) (z:Up),m.ae[i]?=some z->z.ao≠0->m'.ae[i]?=some z):KJ m' c x:=by
 obtain⟨z,h1,h2⟩:=h;exact⟨z,hm c z h1 (by rw[(Up.eB h2).2.2.1];exact hk),h2⟩
theorem UU.ft:∀(l:List (aq×aq)) (n:aI),UU (n.ft l) n
 |[],n=>.refl n
 |(p,q)::r,n=>(UU.ft r _).trans (UU.move n p q)
theorem UU.Vq:∀(l:List (aq×aq)) (n:aI),UU (n.Vq l) n
 |[],n=>.refl n
 |(p,q)::r,n=>(UU.Vq r _).trans (UU.join n p q)
theorem UU.jy:∀(l:List (aq×aq)) (n:aI),UU (n.jy l) n
 |[],n=>.refl n
 |(p,q)::r,n=>(UU.jy r _).trans (UU.link n p q)
theorem UU.V9 {b:Nat}{cs:List Nat}:∀(ms:List Nat) (k:Nat) (n:aI),UU (n.V9 b cs k ms) n
 |[],k,n=>.refl n
 |m::r,k,n=>(UU.V9 r _ _).trans ((UU.jy _ _).trans (UU.move _ _ _))
theorem UU.chain {a b:Nat}:∀(ms:List Nat) (i:Nat) (n:aI),UU (n.chain a b i ms) n
 |[],i,n=>.refl n
 |[m],i,n=>(UU.move _ _ _).trans (UU.move _ _ _)
 |m::m'::r,i,n=>(UU.chain (m'::r) _ _).trans ((UU.link _ _ _).trans (UU.move _ _ _))
theorem Up.Dh {x:Up}(h:x.to.length=x.bO):x.d_.bare=x.bare:=by
 simp[Up.d_,Up.bare,h]
theorem pE.Qy {n:aI}{a b:Nat}{x y:Up}(h:pE n a b x y)(kx:2<=x.ao)(ky:2<=y.ao)(hl:x.to.length=3)(hl':y.to.length=1)(hok:(gU x y).ok=true)(hu:n.used<n.aV) :
  ∃σ c,Fin n ((n.half a b x y).UT a b) a b [] σ/\((n.half a b x y).UT a b).ae[c]?.map Up.bare=some (gU x y).d_.bare/\c≠a/\c≠b/\σ ⟨a,1⟩=⟨c,1⟩/\σ ⟨a,2⟩=⟨c,0⟩:=by
 have ha:=h.ha;have hb:=h.hb;have hne:=h.ne;obtain⟨h1,h2,h3⟩:=h.st.make (x:=gU x y) (by show 2<=12;omega) hok (λe=>by cases e) (by show 0<2;omega) hu;have hp2:(gU x y).bO=2:=rfl;rw[hp2]at h1;have fa:a≠n.cg:=h2 ⟨a,0⟩ (h.pa (by omega));have fb:b≠n.cg:=h2 ⟨b,0⟩ (h.pb (by omega));obtain⟨h4,h5⟩:=h1.FH (p:=⟨a,2⟩) (q:=⟨n.cg,0⟩) (p':=⟨a,1⟩) (q':=⟨n.cg,1⟩) (.inl rfl) (.inl rfl) (by simp only[aq.eq_mk];exact⟨.inl (h.pa (by omega)),by simp only[eX];omega⟩) (by simp)
  (by simp only[aq.eq_mk];exact⟨.inl (h.pa (by omega)),by simp only[eX];omega⟩) (by simp) (by simp) (by simp)
 have t1:=(h.QW).make h.ok.sk (gU x y) (λ_ _=>rfl);obtain⟨σ,t2,t3,t4⟩:=t1.ft [(⟨a,2⟩,⟨n.cg,0⟩),(⟨a,1⟩,⟨n.cg,1⟩)] h1.lk (λpq hpq=>by
  simp only[aA,UA,dU]at hpq;rcases hpq with rfl|rfl
  ·exact⟨(h1.has _).2 (.inl (h.pa (by omega))),(h1.has _).2 (.inr ⟨rfl,by show 0<2;omega⟩),by simp only[aq.eq_mk];omega,.inr rfl⟩
  ·exact⟨(h1.has _).2 (.inl (h.pa (by omega))),(h1.has _).2 (.inr ⟨rfl,by show 1<2;omega⟩),by simp only[aq.eq_mk];omega,.inr rfl⟩) (by simp) (by simp) (λpq hpq=>by
  simp only[aA,UA,dU]at hpq;rcases hpq with rfl|rfl
  ·exact⟨⟨h.pa (by omega),by simp only[ne_eq,aq.eq_mk];omega,by simp only[ne_eq,aq.eq_mk];omega⟩,rfl⟩
  ·exact⟨⟨h.pa (by omega),by simp only[ne_eq,aq.eq_mk];omega,by simp only[ne_eq,aq.eq_mk];omega⟩,rfl⟩)
 obtain⟨f1,f2,f3⟩:=h5.Qx h kx ky (λp hp=>by
  have ha:=ha p;have hb:=hb p;have hf:=h2 p;simp only[aA,UA,dU,aq.eq_mk]
  grind) t2 (λr hr=>⟨hr,rfl⟩) (λr h1 h2=>by
  rw[t4 r (by simp only[ai,au,aA,UA,dU,aq.eq_mk];omega)];rfl)
 refine⟨σ,n.cg,f1,?_,Ne.symm fa,Ne.symm fb,t3 (⟨a,1⟩,⟨n.cg,1⟩) (by simp),t3 (⟨a,2⟩,⟨n.cg,0⟩) (by simp)⟩;have hn:KJ (n.make (gU x y)) n.cg (gU x y).d_:=⟨_,by rw[aI.oz,ah rfl],rfl⟩
 obtain⟨z,z1,z2⟩:=(hn.bare (UU.ft [(⟨a,2⟩,⟨n.cg,0⟩),(⟨a,1⟩,⟨n.cg,1⟩)] _)).fin (by show(12:Nat)≠0;omega) (Ne.symm fa) (Ne.symm fb) f3
 show(((n.half a b x y).UT a b).ae[n.cg]?).map Up.bare=_
 unfold aI.half;simp only[aI.ft]at z1;rw[z1];simp[z2]
theorem pE.QN {n:aI}{a b:Nat}{x y z:Up}(h:pE n a b x y)(kx:2<=x.ao)(ky:2<=y.ao)(hl:x.to.length=2)(hl':y.to.length=1)(hk:2<=z.ao)(hok:z.ok=true)(hz:z.ao=8->z.to.length=z.bO)(hz1:z.bO=1)(hu:n.used<n.aV) :
  ∃σ c,Fin n ((n.out a z).UT a b) a b [] σ/\KJ ((n.out a z).UT a b) c z.d_/\σ ⟨a,1⟩=⟨c,0⟩:=by
 have ha:=h.ha;have hb:=h.hb;have hne:=h.ne;obtain⟨h1,h2,h3⟩:=h.st.make (x:=z) hk hok hz (by omega) hu;rw[hz1]at h1;have fa:a≠n.cg:=h2 ⟨a,0⟩ (h.pa (by omega));have fb:b≠n.cg:=h2 ⟨b,0⟩ (h.pb (by omega));obtain⟨h4,h5⟩:=h1.pF (p:=⟨a,1⟩) (q:=⟨n.cg,0⟩) (.inl rfl) (by simp only[aq.eq_mk];exact⟨.inl (h.pa (by omega)),by simp only[eX];omega⟩) (by simp);have t1:=(h.QW).make h.ok.sk z (λ_ _=>rfl);have t2:=t1.move (p:=⟨a,1⟩) (q:=⟨n.cg,0⟩) h1.lk ((h1.has _).2 (.inl (h.pa (by omega)))) ((h1.has _).2 (.inr ⟨rfl,by show 0<1;omega⟩)) (by simp only[aq.eq_mk];omega) (.inr rfl) ⟨h.pa (by omega),by simp only[ne_eq,aq.eq_mk];omega,by simp only[ne_eq,aq.eq_mk];omega⟩ rfl;obtain⟨f1,f2,f3⟩:=h5.Qx h kx ky (λp hp=>by
  have ha:=ha p;have hb:=hb p;have hf:=h2 p;simp only[ne_eq,aq.eq_mk]
  grind) (t2.congr (λp hp=>by simp)) (λr hr=>⟨hr,rfl⟩) (λr h1 h2=>by
  rw[aa (by simp only[aq.eq_mk];omega)];rfl)
 refine⟨_,n.cg,f1,?_,ah rfl⟩;have hn:KJ (n.make z) n.cg z.d_:=⟨_,by rw[aI.oz,ah rfl],rfl⟩
 exact(hn.bare (UU.move _ _ _)).fin (by show z.ao≠0;omega) (Ne.symm fa) (Ne.symm fb) f3
theorem pE.Qz {n:aI}{a b:Nat}{x y:Up}(h:pE n a b x y)(kx:2<=x.ao)(ky:2<=y.ao)(hl:x.to.length=1)(hlev:x.Us<=60)(hu:n.used+(y.to.length-1)<=n.aV) :
  ∃σ,Fin n ((n.jA b x.Us y).UT a b) a b [] σ:=by
 have ha:=h.ha;have hb:=h.hb;have hne:=h.ne;have hy1:=h.y1;obtain⟨d1,d2⟩:=mP hlev;have hlen:(cw b y).length=y.to.length-1:=bN _ _ _;obtain⟨h1,h2,h3,h4,h5⟩:=h.st.cI (x:=ch x.Us) (k:=(cw b y).length) (by show 2<=7;omega) d1 (λe=>by cases e) (by omega) (by omega);have hL:=vD (x:=ch x.Us) (by show 2<=7;omega) d1 (λe=>by cases e) (by omega) (cw b y).length h.ok.sk (by omega);have t1:=h.QW.cI hL (λ_ _=>rfl);rw[d2]at h1;unfold aI.jA;generalize hC:(n.cI (ch x.Us) (cw b y).length).2=C at *;generalize (n.cI (ch x.Us) (cw b y).length).1=m at *;have fa:a∉C:=h3 ⟨a,0⟩ (h.pa (by omega));have fb:b∉C:=h3 ⟨b,0⟩ (h.pb (by omega));have hz:(cw b y).length=(eD C).length:=by simp[eD,h5]
 have c1:∀p,p∈cw b y->(n.has p\/p.aD∈C/\p.aT<1)/\¬ ((p=⟨a,0⟩\/p=⟨b,0⟩)\/p.aD∈C):=λp hp=>by
  have hb:=hb p;simp only[cw,bu,aq.eq_mk]at hp ⊢
  grind
 have c2:∀q,q∈eD C->(n.has q\/q.aD∈C/\q.aT<1)/\((q=⟨a,0⟩\/q=⟨b,0⟩)\/q.aD∈C):=λq hq=>by
  rw[gV]at hq;exact⟨.inr ⟨hq.1,by omega⟩,.inr hq.1⟩
 obtain⟨h6,h7⟩:=h1.nJ (ps:=cw b y) (qs:=eD C) hz (λp hp=>.inr (bu.1 hp).1) c1 c2 (du _ _ _) (mR h2);obtain⟨σ,k1,k2,k3⟩:=t1.ft ((cw b y).zip (eD C)) h1.lk (λpq hpq=>by
  obtain⟨m1,m2⟩:=eG (show(pq.1,pq.2)∈(cw b y).zip (eD C) from hpq);exact⟨(h1.has _).2 (c1 _ m1).1,(h1.has _).2 (c2 _ m2).1,(c1 _ m1).2,(c2 _ m2).2⟩) (by rw[gI (by omega)];exact du _ _ _) (by rw[gJ (by omega)];exact mR h2) (λpq hpq=>by
  obtain⟨m1,m2⟩:=eG (show(pq.1,pq.2)∈(cw b y).zip (eD C) from hpq);have hb:=hb pq.1;simp only[cw,bu]at m1;exact⟨⟨(hb m1.1).2 (by omega),by simp only[ne_eq,aq.eq_mk];omega,by simp only[ne_eq,aq.eq_mk];omega⟩,rfl⟩)
 rw[gI (by omega),gJ (by omega)]at k1;rw[gI (by omega)]at k3;refine⟨σ,(h7.Qx h kx ky (λp hp=>?_) k1 (λr hr=>⟨hr,rfl⟩) (λr h1 h2=>?_)).1⟩
 ·have ha:=ha p;have hb:=hb p;have hf:=h3 p;simp only[cw,bu,aq.eq_mk,gV]
  grind
 ·rw[k3 r (by simp only[cw,bu];omega)];rfl
theorem pE.QA {n:aI}{a b:Nat}{x y:Up}(h:pE n a b x y)(kx:2<=x.ao)(ky:2<=y.ao)(hl:2<=x.to.length)(hlev:x.Us<=60)(hu:n.used+1+(bX a b x y).length<=n.aV) :
  ∃σ c,Fin n ((n.fail a b x y).UT a b) a b [] σ/\KJ ((n.fail a b x y).UT a b) c (UE x.Us).d_/\σ ⟨a,1⟩=⟨c,0⟩:=by
 have ha:=h.ha;have hb:=h.hb;have hne:=h.ne;have hy1:=h.y1;obtain⟨d1,d2⟩:=mP hlev;have hfo:(UE x.Us).ok=true:=by simp[UE,Up.ok,Up.fP,hlev]
 have hfp:(UE x.Us).bO=1:=rfl;obtain⟨g1,g2,g3⟩:=h.st.make (x:=UE x.Us) (by show 2<=13;omega) hfo (λe=>by cases e) (by omega) (by omega);rw[hfp]at g1;have gc:=g1.aV;have t1:=(h.QW).make h.ok.sk (UE x.Us) (λ_ _=>rfl);obtain⟨h1,h2,h3,h4,h5⟩:=g1.cI (x:=ch x.Us) (k:=(bX a b x y).length) (by show 2<=7;omega) d1 (λe=>by cases e) (by omega) (by omega);have hL:=vD (x:=ch x.Us) (by show 2<=7;omega) d1 (λe=>by cases e) (by omega) (bX a b x y).length g1.sk (by omega);have t2:=t1.cI hL (λ_ _=>rfl);have hn:KJ (n.make (UE x.Us)) n.cg (UE x.Us).d_:=⟨_,by rw[aI.oz,ah rfl],rfl⟩
 have hn2:=hn.bq (by show(13:Nat)≠0;omega) hL.bq;rw[d2]at h1;unfold aI.fail;generalize hC:((n.make (UE x.Us)).cI (ch x.Us) (bX a b x y).length).2=C at *;generalize ((n.make (UE x.Us)).cI (ch x.Us) (bX a b x y).length).1=m at *;have fa':a≠n.cg:=g2 ⟨a,0⟩ (h.pa (by omega));have fb':b≠n.cg:=g2 ⟨b,0⟩ (h.pb (by omega));have fa:a∉C:=h3 ⟨a,0⟩ (.inl (h.pa (by omega)));have fb:b∉C:=h3 ⟨b,0⟩ (.inl (h.pb (by omega)));have fc:n.cg∉C:=h3 ⟨n.cg,0⟩ (.inr ⟨rfl,by show 0<1;omega⟩);have ha1:=ha ⟨a,1⟩ rfl;have e1:(n.has ⟨a,1⟩\/(⟨a,1⟩:aq).aD=n.cg/\(⟨a,1⟩:aq).aT<1)\/(⟨a,1⟩:aq).aD∈C/\(⟨a,1⟩:aq).aT<1:=.inl (.inl (ha1.2 (by show 1<_;omega)));have e2:¬ ((((⟨a,1⟩:aq)=⟨a,0⟩\/(⟨a,1⟩:aq)=⟨b,0⟩)\/(⟨a,1⟩:aq).aD=n.cg)\/(⟨a,1⟩:aq).aD∈C):=by simp only[aq.eq_mk];grind
 obtain⟨h6,h7⟩:=h1.pF (p:=⟨a,1⟩) (q:=⟨n.cg,0⟩) (.inl rfl) ⟨e1,e2⟩ (by simp);have t3:=t2.move (p:=⟨a,1⟩) (q:=⟨n.cg,0⟩) h1.lk ((h1.has _).2 e1) ((h1.has _).2 (.inl (.inr ⟨rfl,by show 0<1;omega⟩))) e2 (.inl (.inr rfl)) ⟨ha1.2 (by show 1<_;omega),by simp only[ne_eq,aq.eq_mk];omega,by simp only[ne_eq,aq.eq_mk];omega⟩ rfl;have hnod:(bX a b x y).Nodup:=by
  unfold bX;rw[fj];refine⟨du _ _ _,du _ _ _,λp hp q hq=>?_⟩;rw[bu]at hp hq;rintro rfl;omega
 have hz:(bX a b x y).length=(eD C).length:=by simp[eD,h5]
 have c1:∀p,p∈bX a b x y->((n.has p\/p.aD=n.cg/\p.aT<1)\/p.aD∈C/\p.aT<1)/\¬ ((((p=⟨a,0⟩\/p=⟨b,0⟩)\/p.aD=n.cg)\/p.aD∈C)/\p≠⟨n.cg,0⟩\/p=⟨a,1⟩):=λp hp=>by
  have hb:=hb p;have ha:=ha p;simp only[bX,Uz,bu,aq.eq_mk,ne_eq]at hp ⊢
  grind
 have c2:∀q,q∈eD C->((n.has q\/q.aD=n.cg/\q.aT<1)\/q.aD∈C/\q.aT<1)/\((((q=⟨a,0⟩\/q=⟨b,0⟩)\/q.aD=n.cg)\/q.aD∈C)/\q≠⟨n.cg,0⟩\/q=⟨a,1⟩):=λq hq=>by
  rw[gV]at hq;simp only[aq.eq_mk,ne_eq];refine⟨.inr ⟨hq.1,by omega⟩,.inl ⟨.inr hq.1,?_⟩⟩
  grind
 obtain⟨h8,h9⟩:=h7.nJ (ps:=bX a b x y) (qs:=eD C) hz (λp hp=>by
  simp only[bX,Uz,bu]at hp;omega) c1 c2 hnod (mR h2)
 obtain⟨σ,k1,k2,k3⟩:=t3.ft ((bX a b x y).zip (eD C)) h7.lk (λpq hpq=>by
  obtain⟨m1,m2⟩:=eG (show(pq.1,pq.2)∈(bX a b x y).zip (eD C) from hpq);exact⟨(h7.has _).2 (c1 _ m1).1,(h7.has _).2 (c2 _ m2).1,(c1 _ m1).2,(c2 _ m2).2⟩) (by rw[gI (by omega)];exact hnod) (by rw[gJ (by omega)];exact mR h2) (λpq hpq=>by
  obtain⟨m1,m2⟩:=eG (show(pq.1,pq.2)∈(bX a b x y).zip (eD C) from hpq);have hb:=hb pq.1;have ha:=ha pq.1;simp only[bX,Uz,bu]at m1;refine⟨⟨?_,by simp only[ne_eq,aq.eq_mk];omega,by simp only[ne_eq,aq.eq_mk];omega⟩,?_⟩
  ·rcases m1 with m1|m1
   ·exact(ha m1.1).2 (by omega)
   ·exact(hb m1.1).2 (by omega)
  ·rw[aa (by simp only[aq.eq_mk];omega)];rfl)
 rw[gI (by omega),gJ (by omega)]at k1;rw[gI (by omega)]at k3;obtain⟨f1,f2,f3⟩:=h9.Qx h kx ky (λp hp=>by
  have ha:=ha p;have hb:=hb p;have hf:=h3 p;have hf2:=g2 p;simp only[bX,Uz,bu,aq.eq_mk,gV,ne_eq]
  grind) k1 (λr hr=>⟨hr,rfl⟩) (λr h1 h2=>by
  rw[k3 r (by simp only[bX,Uz,bu];omega),aa (by simp only[aq.eq_mk];omega)];rfl)
 refine⟨σ,n.cg,f1,?_,?_⟩
 ·exact((hn2.bare (UU.move _ _ _)).bare (UU.ft _ _)).fin (by show(13:Nat)≠0;omega) (Ne.symm fa') (Ne.symm fb') f3
 ·rw[k3 _ (by simp only[bX,Uz,bu];omega),ah rfl]
theorem pR.Vq {σ:aq->aq}:∀(l:List (aq×aq)) {f:aq->aq} {S D:aq->Prop} {m:aI},pR f S m D σ->Lk m D->m.XB->(∀pq,pq∈l->S pq.1/\S pq.2/\σ pq.1=pq.1/\σ pq.2=pq.2)->(l.map (·.1)).Nodup->(l.map (·.2)).Nodup->(∀a,a∈l.map (·.1)->a∉l.map (·.2)) ->
  ∃f',pR f' (λr=>S r/\r∉l.map (·.1)/\r∉l.map (·.2)) (m.Vq l) (λr=>D r\/r∈l.map (·.1)\/r∈l.map (·.2)) σ/\∀r,S r->r∉l.map (·.1)->r∉l.map (·.2)->∀q,sC f l (f r) q->f' r=q
 |[],f,S,D,m,h,hl,ht,h1,h2,h3,h4=>by
  refine⟨f,?_,λr _ _ _ q hq=>Gg hq⟩;have e:(λr=>S r/\r∉([]:List (aq×aq)).map (·.1)/\r∉([]:List (aq×aq)).map (·.2))=S:=by funext r;simp
  rw[e];exact h.congr (λp _=>by simp)
 |(p,q)::l,f,S,D,m,h,hl,ht,h1,h2,h3,h4=>by
  obtain⟨a1,a2,a3,a4⟩:=h1 (p,q) (by simp);simp only[ai,UB,aA]at h2 h3 h4;have hne:p≠q:=λe=>h4 p (.inl rfl) (.inl e);have hpr:∀pq,pq∈l->(pq.1≠p/\pq.1≠q)/\pq.2≠p/\pq.2≠q:=λpq hpq=>by
   have m1:=UH (f:=(·.1)) hpq;have m2:=UH (f:=(·.2)) hpq;refine⟨⟨λe=>h2.1 (by rw[<- e];exact m1),λe=>h4 _ (.inr m1) (.inl e)⟩,λe=>h4 p (.inl rfl) (.inr (by rw[<- e];exact m2)),λe=>h3.1 (by rw[<- e];exact m2)⟩
  have t1:=h.join hl a1 a2 hne a3 a4;obtain⟨o1,o2,o3⟩:=h.ok p a1;obtain⟨o4,o5,o6⟩:=h.ok q a2;rw[a3]at o1 o2;rw[a4]at o4 o5;have lk1:=(hl.join o1 o4 hne o2 o5).2;obtain⟨f',k1,k2⟩:=pR.Vq l t1 (lk1.congr (λr _=>by simp)) ((UU.join m p q).nh ht) (λpq hpq=>by
   obtain⟨c1,c2,c3,c4⟩:=h1 pq (bA _ hpq);obtain⟨⟨d1,d2⟩,d3,d4⟩:=hpr pq hpq;exact⟨⟨c1,d1,d2⟩,⟨c2,d3,d4⟩,c3,c4⟩) h2.2 h3.2 (λa ha hb=>h4 a (.inr ha) (.inr hb))
  refine⟨f',?_,λr hr n1 n2 z hz=>?_⟩
  ·have e:(λr=>(S r/\r≠p/\r≠q)/\r∉l.map (·.1)/\r∉l.map (·.2))=(λr=>S r/\r∉((p,q)::l).map (·.1)/\r∉((p,q)::l).map (·.2)):=by
    funext r;simp only[ai,aA,eX];apply propext;constructor
    ·rintro⟨⟨e1,e2,e3⟩,e4,e5⟩;exact⟨e1,⟨e2,e4⟩,e3,e5⟩
    ·rintro⟨e1,⟨e2,e4⟩,e3,e5⟩;exact⟨⟨e1,e2,e3⟩,e4,e5⟩
   rw[<- e];refine k1.congr (λr _=>?_);simp only[ai,aA];constructor
   ·rintro(e|(e|e)|(e|e))
    ·exact .inl (.inl e)
    ·exact .inl (.inr (.inl e))
    ·exact .inr (.inl e)
    ·exact .inl (.inr (.inr e))
    ·exact .inr (.inr e)
   ·rintro((e|e|e)|e|e)
    ·exact .inl e
    ·exact .inr (.inl (.inl e))
    ·exact .inr (.inr (.inl e))
    ·exact .inr (.inl (.inr e))
    ·exact .inr (.inr (.inr e))
  ·simp only[ai,aA,eX]at n1 n2;exact k2 r ⟨hr,n1.1,n2.1⟩ n1.2 n2.2 z (by
    have:=Ea h.cl a1 a2 hpr hz;exact this)
theorem pE.Mp {n:aI}{a b:Nat}{x y:Up}(h:pE n a b x y)(kx:2<=x.ao)(ky:2<=y.ao)(hl:x.to.length=y.to.length) :
  Fin n ((n.Vq ((UQ a 1 (x.to.length-1)).zip (UQ b 1 (x.to.length-1)))).UT a b) a b ((UQ a 1 (x.to.length-1)).zip (UQ b 1 (x.to.length-1))) id:=by
 have ha:=h.ha;have hb:=h.hb;have hne:=h.ne;have hx1:=h.x1;have hzz:(UQ a 1 (x.to.length-1)).length=(UQ b 1 (x.to.length-1)).length:=by rw[bN,bN]
 obtain⟨h1,h2⟩:=h.st.AI (ps:=UQ a 1 (x.to.length-1)) (qs:=UQ b 1 (x.to.length-1)) hzz (λp hp=>.inl (bu.1 hp).1) (λp hp=>.inr (bu.1 hp).1) (λp hp=>by
  rw[bu]at hp;simp only[aq.eq_mk];exact⟨(ha p hp.1).2 (by omega),by omega⟩) (λp hp=>by
  rw[bu]at hp;simp only[aq.eq_mk];exact⟨(hb p hp.1).2 (by omega),by omega⟩) (du _ _ _) (du _ _ _) (λp hp hq=>by
  rw[bu]at hp hq;omega)
 have hj:∀pq,pq∈(UQ a 1 (x.to.length-1)).zip (UQ b 1 (x.to.length-1))->pq.1.aD=a/\pq.2.aD=b/\S0 n a b pq.1/\S0 n a b pq.2:=λpq hpq=>by
  obtain⟨m1,m2⟩:=eG (show(pq.1,pq.2)∈(UQ a 1 (x.to.length-1)).zip (UQ b 1 (x.to.length-1)) from hpq);rw[bu]at m1 m2;refine⟨m1.1,m2.1,⟨(ha _ m1.1).2 (by omega),?_,?_⟩,(hb _ m2.1).2 (by omega),?_,?_⟩<;>simp only[ne_eq,aq.eq_mk]<;>omega
 have e1:((UQ a 1 (x.to.length-1)).zip (UQ b 1 (x.to.length-1))).map (·.1)=UQ a 1 (x.to.length-1):=gI (by omega);have e2:((UQ a 1 (x.to.length-1)).zip (UQ b 1 (x.to.length-1))).map (·.2)=UQ b 1 (x.to.length-1):=gJ (by omega);obtain⟨f',k1,k2⟩:=h.QW.Vq ((UQ a 1 (x.to.length-1)).zip (UQ b 1 (x.to.length-1))) h.st.lk h.ok.sk.nh (λpq hpq=>⟨(hj pq hpq).2.2.1,(hj pq hpq).2.2.2,rfl,rfl⟩) (by rw[e1];exact du _ _ _) (by rw[e2];exact du _ _ _) (λp hp hq=>by
  rw[e1,bu]at hp;rw[e2,bu]at hq;omega)
 have hmem:∀r,(r∈UQ a 1 (x.to.length-1)->∃s,(r,s)∈(UQ a 1 (x.to.length-1)).zip (UQ b 1 (x.to.length-1)))/\(r∈UQ b 1 (x.to.length-1)->∃s,(s,r)∈(UQ a 1 (x.to.length-1)).zip (UQ b 1 (x.to.length-1))):=λr=>by
  constructor
  ·intro hr;rw[<- e1,bj]at hr;obtain⟨⟨p,q⟩,hp,rfl⟩:=hr;exact⟨q,hp⟩
  ·intro hr;rw[<- e2,bj]at hr;obtain⟨⟨p,q⟩,hp,rfl⟩:=hr;exact⟨p,hp⟩
 rw[e1,e2]at k1 k2;refine(h2.fin h kx ky (λp hp=>?_) k1 (λr hr hj'=>?_) (λ_ _ _=>rfl) (λpq hpq=>⟨.inl (hj pq hpq).1,.inr (hj pq hpq).2.1⟩)).1
 ·have ha:=ha p;have hb:=hb p;simp only[bu,aq.eq_mk];constructor
  ·omega
  ·rintro(e|e)
   ·have:=(ha e).1 hp;omega
   ·have:=(hb e).1 hp;omega
 ·have n1:r∉UQ a 1 (x.to.length-1):=λe=>by
   obtain⟨s,hs⟩:=(hmem r).1 e;exact(hj' _ hs).1 rfl
  have n2:r∉UQ b 1 (x.to.length-1):=λe=>by
   obtain⟨s,hs⟩:=(hmem r).2 e;exact(hj' _ hs).2 rfl
  exact⟨⟨hr,n1,n2⟩,k2 r hr n1 n2⟩
end Go.Proofs.Z
