/- A part of the proof. -/
import Derived.Test.YtffohgbmjjbhiaaGreatB17
set_option linter.all false
namespace Go.Proofs.Z
section
variable {pg:fX}{G:Heap}
theorem MK (h:bY pg){tk tn:Int}{ts:List UInt8}{ay:List (List PV)}{x:Up}{fs:List (aI->W)}{ss cs:List Nat}{n:aI}(hrows:ay.length<2 ^ 17)(hn:WI n)(hk:2<=x.ao)(hx:x.Us<=60->x.ok=true)(hlen:fs.length=ay.length)
  (hp:eO pg tk tn ts ay x.Us 0 fs ss cs) (hs:cs.sum<2 ^ 17) :
  fB pg 52 [.ag [.p (.sl (n.ae.map Up.aw)),.p (.i .i64 n.aV)],.ag [.p (.i .i64 tk),.p (.i .i64 tn),.p (.s ts),.p (.sl ay)],.ag [.p (.i .i64 x.ao),.p (.i .i64 x.Us),.p (.i .i64 x.n),.p (.s x.name),.p (.sl (x.aY.map Ux)),.p (.sl (x.to.map aq.aw))]] (mS x fs ss (if tk=4 then 0 else 1) n):=by
 have e50:=λG=>t50 (G:=G) (x:=x) h (by have:=hn.len;omega) hn.len.1 hk hx;have hwm:=hn.bK (x:=x) hk hx;have hcm:=aI.V0 n x;unfold mS;generalize hR:n.bK x=R at *;obtain⟨m,s,err⟩:=R;dsimp only at hwm hcm ⊢;by_cases he:err=0
 ·subst he;rw[ah rfl];have hL:=OY (body:=rV) h rfl (m:=s) (xk:=x.ao) (xn:=x.n) (xs:=x.name) (xa:=x.aY.map Ux) (xt:=x.to.map aq.aw) hrows fs ss cs 0 m [] 0 0 .aC [] hp hwm (by omega) (by simpa using hs) (by simp) (.inl ⟨rfl,rfl⟩) (.inl rfl);have hpg:=pP (m:=s) fs ss cs 0 m [] 0 hp hwm (by simp) (by simp);generalize hP:dg x.Us s fs ss m []=P at *;simp only[zk,bP,dN,bU,ai,au,aH,aL,UD,fW,hcm]at hL;by_cases hPe:P.e=0
  ·rw[ah hPe]at hL ⊢;obtain⟨L',O',o1',o2',hL,hE⟩:=hL;have hfl:L'.flat=true:=by rcases hE with ⟨rfl,_⟩|⟨k,g,rfl,_⟩<;>rfl
   refine⟨dN P.n s (if tk=4 then 0 else 1:Nat) L' 0,.box [.p (.i .i64 tk),.p (.i .i64 tn),.p (.s ts),.p (.sl ay)]::.box (bP [iv x.ao,iv x.Us,iv x.n,.s x.name,.sl (x.aY.map Ux),.sl (x.to.map aq.aw)])::.box (dN P.n s (if tk=4 then 0 else 1:Nat) L' 0)::.box (dN P.n s (if tk=4 then 0 else 1:Nat) L' 0)::O',?_,⟨_,_,_,_,L',P.l,by rw[hPe];rfl,.inr ⟨_,rfl⟩,?_,λ_=>⟨rfl,rfl,rfl,rfl,rfl⟩⟩⟩
   ·rw[h.run (x:=GJ)];simp only[fv,hcm]at e50;rcases gB (tk=4) with ck|ck<;>rcases hE with ⟨rfl,_⟩|⟨k,g,rfl,_⟩
    all_goals
     simp only[ck,if_true,if_false,fW,WW,dN,bP,ai,au]at hL ⊢;simp[GJ,aj,e50,hcm,gc,exp,aQ,UG];rw[hL];simp[aj,t39 h,ck]
   ·rcases hE with ⟨rfl,hl0⟩|⟨k,g,rfl,hk⟩
    ·exact .inl ⟨rfl,hl0⟩
    ·exact .inr ⟨k+4,g,rfl,by simpa using hk⟩
  ·rw[aa hPe]at hL ⊢;obtain⟨b0,b1,T,hL⟩:=hL;refine⟨cB P.e,b0::b1::.box (cB P.e)::T,?_,⟨.aC,0,0,0,.aC,[],rfl,.inl rfl,.inl ⟨rfl,rfl⟩,λhh=>absurd hh hPe⟩⟩;rw[h.run (x:=GJ)];simp only[fv,hcm]at e50;simp only[cB]at hL ⊢;simp[GJ,aj,e50,hcm,gc,exp,aQ,UG];rw[hL];simp[aj]
 ·rw[aa he];have he':¬ (err:Int)=0:=by omega
  refine⟨cB err,[.box [.p (.sl (m.ae.map Up.aw)),.p (.i .i64 n.aV)],.box [.p (.i .i64 tk),.p (.i .i64 tn),.p (.s ts),.p (.sl ay)],.box (bP [iv x.ao,iv x.Us,iv x.n,.s x.name,.sl (x.aY.map Ux),.sl (x.to.map aq.aw)]),.box (cB err),.box (cB err)],?_,.bad 0 err _ he⟩;rw[h.run (x:=GJ)];simp only[fv,hcm]at e50;simp[GJ,aj,e50,he,he',t70 h,cB,bP]
def tV (c:UInt8):Bool:=decide (65<=c) && decide (c<=90)
def pQ (c:UInt8):Bool:=(decide (97<=c) && decide (c<=122)) || tV c || (decide (48<=c) && decide (c<=57))
def qF:List UInt8->Bool
 |[]=>false
 |c::r=>tV c && r.all pQ && decide (r.length<=15)
def A3 (s:List UInt8):Bool:=decide (s=[43]) || decide (s=[45]) || decide (s=[42]) || decide (s=[47]) || decide (s=[60]) || decide (s=[61,61])
mutual
def Ct.wf:Nat->Ct->Bool
 |f,.var i=>decide (i<f)
 |f,.lam b=>b.wf (f+1)
 |f,.app a b=>a.wf f && b.wf f
 |f,.UW s l=>qF s && decide (l.length<=8) && Ct.JW f l
 |f,.case h l=>h.wf f && decide (1<=l.length/\l.length<=8) && eM (l.map fQ) 0 (l.map fQ) && Ct.El f l
 |f,.alt _ _ _=>false
 |f,.int v=>true
 |f,.op s a b=>A3 s && a.wf f && b.wf f
 |f,.fail=>true
def Ct.JW:Nat->List Ct->Bool
 |_,[]=>true
 |f,a::r=>a.wf f && Ct.JW f r
def Ct.El:Nat->List Ct->Bool
 |_,[]=>true
 |f,.alt s n b::r=>qF s && b.wf (f+n) && Ct.El f r
 |_,_::_=>false
end
theorem Ct.cM:∀l:List Ct,Ct.gp l=l.map Ct.tm
 |[]=>rfl
 |a::r=>by simp[Ct.gp,Ct.cM r]
theorem XM {s:List UInt8}(h:qF s=true):s≠[]:=by
 rintro rfl;cases h
theorem y7 {s:List UInt8}(h:A3 s=true):s≠[]:=by
 rintro rfl;revert h;decide
theorem rq:∀(l:List Ct) (Us:Nat),(Ct.l9 l Us).length=l.length
 |[],_=>rfl
 |a::r,Us=>by simp[Ct.l9,rq r Us]
theorem wj:∀(l:List Ct) (Us:Nat),(Ct.nk l Us).length=l.length
 |[],_=>rfl
 |a::r,Us=>by cases a<;>simp[Ct.nk,wj r Us]
theorem jd.mono {c d:Nat}{w:W}(h:jd c w)(hcd:c<=d):jd d w:=λe=>⟨(h e).1,cm (h e).2.1 hcd,(h e).2.2⟩
theorem D8 (c e:Nat)(h:e≠0):jd c (pN e):=λhh=>absurd hh h
theorem oJ {tk tn:Int}{ts:List UInt8}{ay:List (List PV)}{x:Up}{fs:List (aI->W)}{ss cs:List Nat}{n:aI}{out:Nat}(hn:WI n)(hk:2<=x.ao)(hx:x.Us<=60->x.ok=true)(hp:eO pg tk tn ts ay x.Us 0 fs ss cs):jd cs.sum (mS x fs ss out n):=by
 have hwm:=hn.bK (x:=x) hk hx;unfold mS;split
 ·have:=pP (m:=(n.bK x).2.1) fs ss cs 0 (n.bK x).1 [] 0 hp hwm (by simp) (by simp);rw[aG]at this;split
  ·rename_i e;exact λ_=>this e
  ·exact this
 ·rename_i e;exact D8 _ _ e
theorem Xy {c:Nat}{x:Up}{out:Nat}{l:Nat->List bW}{n:aI}(hn:WI n)(hk:2<=x.ao)(hx:x.Us<=60->x.ok=true)(hl:∀s,(l s).length<=c/\∀e∈l s,e.v<2 ^ 40):jd c (iH x out l n):=λ_=>⟨hn.bK hk hx,(hl _).1,(hl _).2⟩
theorem iP {k Us:Nat}(hk:k=5\/k=13)(v:Int)(hv:v=0)(h:Us<=60):(Up.mk k Us v [] [] []).ok=true:=by
 rcases hk with rfl|rfl
 ·exact Up.W9 (by omega) rfl (by omega) h (by simp) (.inl hv) (by omega)
 ·exact Up.W9 (by omega) rfl (by omega) h (by simp) (.inl hv) (by omega)
theorem tc {Us:Nat}(v:Int)(h:Us<=60):(Up.mk 10 Us v [] [] []).ok=true:=Up.W9 (by omega) rfl (by omega) h (by simp) (by simp) (by omega)
theorem JX (h:bY pg){n:aI}{k Us:Nat}{K v:Int}(hK:K=k)(hw:WI n)(hk:2<=k)(hx:Us<=60->(Up.mk k Us v [] [] []).ok=true) :
  UM pg (E pg) 50 [.ag [.p (.sl (n.ae.map Up.aw)),.p (.i .i64 n.aV)],.ag [.p (.i .i64 K),.p (.i .i64 Us),.p (.i .i64 v),.p (.s []),.aC,.aC]] G=some (fv (n.bK ⟨k,Us,v,[],[],[]⟩),G):=by
 subst hK;have:=t50 (G:=G) (x:=⟨k,Us,v,[],[],[]⟩) h (by have:=hw.len;omega) hw.len.1 hk hx;rw[<- this];refine oA λe=>?_;simp[show bC pg 50=false from h.bq (x:=Ky) rfl,exp,aQ]
theorem Hz (h:bY pg){Us i:Nat}{n:aI}(hn:WI n):fB pg 37 [.ag [.p (.sl (n.ae.map Up.aw)),.p (.i .i64 n.aV)],.ag (bP (Ct.var i).tm.aw),.p (.i .i64 Us)] ((Ct.var i).cP Us n):=by
 have e50:=λG=>JX (G:=G) (k:=5) (K:=5) (Us:=Us) (v:=0) h rfl hn (by omega) (iP (.inl rfl) 0 rfl);have hcm:=aI.V0 n ⟨5,Us,0,[],[],[]⟩;unfold Ct.cP iH;generalize hR:n.bK ⟨5,Us,0,[],[],[]⟩=R at *;obtain⟨m,s,err⟩:=R;dsimp only at hcm ⊢;have okr:∀a b c:Int,aS 3 [iv a,iv b,iv c]=true:=λ_ _ _=>rfl;refine⟨dN m s 1 (.arr 5 1 0) err,[.box [.p (.sl (n.ae.map Up.aw)),.p (.i .i64 n.aV)],.box [.p (.i .i64 1),.p (.i .i64 i),.p (.s []),.p (.sl [])],.box (dN m s 1 (.arr 5 1 0) err),.box [.p (.i .i64 5),.p (.i .i64 Us),.p (.i .i64 0),.p (.s []),.aC,.aC],.box [.p (.sl (m.ae.map Up.aw)),.p (.i .i64 n.aV)],.arr 3 [[iv i,iv s,iv 0]] 0 0],?_,⟨_,_,_,_,_,[⟨i,⟨s,0⟩⟩],rfl,.inr ⟨_,rfl⟩,.inr ⟨5,0,rfl,rfl⟩,λ_=>⟨rfl,rfl,rfl,rfl,rfl⟩⟩⟩;rw[h.run (x:=Bm)];simp only[fv,hcm]at e50;simp[Bm,aj,Ct.tm,Tm.aw,Tm.df,bP,e50,hcm,dN,t39 h,Yq h,eu,gC,qh,Uu.Uv,cO,ee,Vy,okr]
theorem HA (h:bY pg){Us:Nat}{v:Int}{n:aI}(hn:WI n):fB pg 37 [.ag [.p (.sl (n.ae.map Up.aw)),.p (.i .i64 n.aV)],.ag (bP (Ct.int v).tm.aw),.p (.i .i64 Us)] ((Ct.int v).cP Us n):=by
 have e50:=λG=>JX (G:=G) (k:=10) (K:=10) (Us:=Us) (v:=v) h rfl hn (by omega) (tc v);have hcm:=aI.V0 n ⟨10,Us,v,[],[],[]⟩;unfold Ct.cP iH;generalize hR:n.bK ⟨10,Us,v,[],[],[]⟩=R at *;obtain⟨m,s,err⟩:=R;dsimp only at hcm ⊢;refine⟨dN m s 0 .aC err,[.box [.p (.sl (n.ae.map Up.aw)),.p (.i .i64 n.aV)],.box [.p (.i .i64 7),.p (.i .i64 v),.p (.s []),.p (.sl [])],.box (dN m s 0 .aC err),.box [.p (.i .i64 10),.p (.i .i64 Us),.p (.i .i64 v),.p (.s []),.aC,.aC],.box [.p (.sl (m.ae.map Up.aw)),.p (.i .i64 n.aV)]],?_,⟨_,_,_,_,_,[],rfl,.inr ⟨_,rfl⟩,.inl ⟨rfl,rfl⟩,λ_=>⟨rfl,rfl,rfl,rfl,rfl⟩⟩⟩;rw[h.run (x:=Bm)];simp only[fv,hcm]at e50;simp[Bm,aj,Ct.tm,Tm.aw,Tm.df,bP,e50,hcm,dN,t39 h,Yq h,eu,gC]
theorem F0 (h:bY pg){Us:Nat}{n:aI}(hn:WI n):fB pg 37 [.ag [.p (.sl (n.ae.map Up.aw)),.p (.i .i64 n.aV)],.ag (bP (Ct.fail).tm.aw),.p (.i .i64 Us)] ((Ct.fail).cP Us n):=by
 have e50:=λG=>JX (G:=G) (k:=13) (K:=13) (Us:=Us) (v:=0) h rfl hn (by omega) (iP (.inr rfl) 0 rfl);have hcm:=aI.V0 n ⟨13,Us,0,[],[],[]⟩;unfold Ct.cP iH;generalize hR:n.bK ⟨13,Us,0,[],[],[]⟩=R at *;obtain⟨m,s,err⟩:=R;dsimp only at hcm ⊢;refine⟨dN m s 0 .aC err,[.box [.p (.sl (n.ae.map Up.aw)),.p (.i .i64 n.aV)],.box [.p (.i .i64 9),.p (.i .i64 0),.p (.s []),.p (.sl [])],.box (dN m s 0 .aC err),.box [.p (.i .i64 13),.p (.i .i64 Us),.p (.i .i64 0),.p (.s []),.aC,.aC],.box [.p (.sl (m.ae.map Up.aw)),.p (.i .i64 n.aV)]],?_,⟨_,_,_,_,_,[],rfl,.inr ⟨_,rfl⟩,.inl ⟨rfl,rfl⟩,λ_=>⟨rfl,rfl,rfl,rfl,rfl⟩⟩⟩;rw[h.run (x:=Bm)];simp only[fv,hcm]at e50;simp[Bm,aj,Ct.tm,Tm.aw,Tm.df,bP,e50,hcm,dN,t39 h,Yq h,eu,gC]
theorem uy {call:di}{f:Nat}{args args':List AV}{G':Heap}(he:aQ (bC pg f) ⟨[],G⟩ args=some (args',⟨[],G'⟩))(hf:bm args'=true):UM pg call f args G=UM pg call f args' G':=by
 have h0:∀(k:Nat) (G:Heap),UG (k+1) ⟨[],G⟩ 0=some ([],⟨[],G⟩):=λk G=>by simp[UG]
 unfold UM;rw[he,bS _ _ hf];dsimp only;rw[h0,h0]
theorem Tm.jC (t:Tm):∃k n s l,t.aw=[iv k,iv n,.s s,.sl l]:=by cases t;exact⟨_,_,_,_,rfl⟩
theorem HB (h:bY pg){Us:Nat}{b:Ct}{n:aI}{w:W}(hp:fB pg 51 [.ag [.p (.sl (n.ae.map Up.aw)),.p (.i .i64 n.aV)],.ag (bP b.tm.aw),.p (.i .i64 1),.p (.i .i64 Us)] w):fB pg 37 [.ag [.p (.sl (n.ae.map Up.aw)),.p (.i .i64 n.aV)],.ag (bP (Ct.lam b).tm.aw),.p (.i .i64 Us)] w:=by
 obtain⟨bk,bn,bs,bl,hb⟩:=b.tm.jC;obtain⟨v,O,hc,hv⟩:=hp;rw[hb]at hc;simp only[bP,ai,au]at hc;obtain⟨v',O',h1,h2⟩:=we (pg:=pg) (G:=[.box [.p (.sl (n.ae.map Up.aw)),.p (.i .i64 n.aV)],.box [.p (.i .i64 2),.p (.i .i64 0),.p (.s []),.p (.sl [[iv bk,iv bn,.s bs,.sl bl]])],.box bU,.box [.p (.i .i64 0),.p (.i .i64 Us),.p (.i .i64 0),.p (.s []),.aC,.aC]]) hc hv rfl;obtain⟨a,x,y,z,L,l,rfl,q1,q2,q3⟩:=h2;simp only[bU]at h1;have hE:∀b1 b2 b3 b4:fE,EV 0 L (b1::b2::b3::b4::O') l:=by
  intro b1 b2 b3 b4;rcases q2 with ⟨rfl,rfl⟩|⟨k,g,rfl,hk⟩
  ·exact .inl ⟨rfl,rfl⟩
  ·exact .inr ⟨k+4,g,rfl,by simpa using hk⟩
 refine⟨iF a x y z L w.e,.box [.p (.sl (n.ae.map Up.aw)),.p (.i .i64 n.aV)]::.box [.p (.i .i64 2),.p (.i .i64 0),.p (.s []),.p (.sl [[iv bk,iv bn,.s bs,.sl bl]])]::.box (iF a x y z L w.e)::.box [.p (.i .i64 0),.p (.i .i64 Us),.p (.i .i64 0),.p (.s []),.aC,.aC]::O',?_,⟨a,x,y,z,L,l,rfl,q1,hE _ _ _ _,q3⟩⟩;have okr2:aS 4 [iv bk,iv bn,.s bs,.sl bl]=true:=rfl;rw[h.run (x:=Bm)];rcases q1 with rfl|⟨r,rfl⟩<;>rcases q2 with ⟨rfl,_⟩|⟨k,g,rfl,_⟩<;>simp only[iF]at h1 ⊢<;>simp[Bm,aj,Ct.tm,Tm.aw,Tm.df,hb,bP,okr2,h1]
theorem C4 (h:bY pg){Us ao:Nat}{tk:Int}{s:List UInt8}{ay:List (List PV)}{n:aI}{w:W}(ht:(tk=3/\ao=3/\s=[])\/(tk=8/\ao=11))
  (hp:fB pg 52 [.ag [.p (.sl (n.ae.map Up.aw)),.p (.i .i64 n.aV)],.ag [.p (.i .i64 tk),.p (.i .i64 0),.p (.s s),.p (.sl ay)],.ag [.p (.i .i64 ao),.p (.i .i64 Us),.p (.i .i64 0),.p (.s s),.p (.sl []),.p (.sl [])]] w) :
  fB pg 37 [.ag [.p (.sl (n.ae.map Up.aw)),.p (.i .i64 n.aV)],.ag [.p (.i .i64 tk),.p (.i .i64 0),.p (.s s),.p (.sl ay)],.p (.i .i64 Us)] w:=by
 obtain⟨v,O,hc,hv⟩:=hp;obtain⟨v',O',h1,h2⟩:=we (pg:=pg) (G:=[.box [.p (.sl (n.ae.map Up.aw)),.p (.i .i64 n.aV)],.box [.p (.i .i64 tk),.p (.i .i64 0),.p (.s s),.p (.sl ay)],.box bU,.box [.p (.i .i64 ao),.p (.i .i64 Us),.p (.i .i64 0),.p (.s s),.aC,.aC]]) hc hv rfl;rw[<- uy (args:=[.ag [.p (.sl (n.ae.map Up.aw)),.p (.i .i64 n.aV)],.ag [.p (.i .i64 tk),.p (.i .i64 0),.p (.s s),.p (.sl ay)],.ag [.p (.i .i64 ao),.p (.i .i64 Us),.p (.i .i64 0),.p (.s s),.aC,.aC]]) (G:=[.box [.p (.sl (n.ae.map Up.aw)),.p (.i .i64 n.aV)],.box [.p (.i .i64 tk),.p (.i .i64 0),.p (.s s),.p (.sl ay)],.box bU,.box [.p (.i .i64 ao),.p (.i .i64 Us),.p (.i .i64 0),.p (.s s),.aC,.aC]]) (by rw[show bC pg 52=false from h.bq (x:=GJ) rfl];simp[exp,aQ]) rfl]at h1;obtain⟨a,x,y,z,L,l,rfl,q1,q2,q3⟩:=h2;simp only[bU]at h1;have hE:∀b1 b2 b3 b4:fE,EV 0 L (b1::b2::b3::b4::O') l:=by
  intro b1 b2 b3 b4;rcases q2 with ⟨rfl,rfl⟩|⟨k,g,rfl,hk⟩
  ·exact .inl ⟨rfl,rfl⟩
  ·exact .inr ⟨k+4,g,rfl,by simpa using hk⟩
 refine⟨iF a x y z L w.e,.box [.p (.sl (n.ae.map Up.aw)),.p (.i .i64 n.aV)]::.box [.p (.i .i64 tk),.p (.i .i64 0),.p (.s s),.p (.sl ay)]::.box (iF a x y z L w.e)::.box [.p (.i .i64 ao),.p (.i .i64 Us),.p (.i .i64 0),.p (.s s),.aC,.aC]::O',?_,⟨a,x,y,z,L,l,rfl,q1,hE _ _ _ _,q3⟩⟩;rw[h.run (x:=Bm)];rcases ht with ⟨rfl,rfl,rfl⟩|⟨rfl,rfl⟩
 all_goals
  simp only[Pf,MM]at h1 ⊢;rcases q1 with rfl|⟨r,rfl⟩<;>rcases q2 with ⟨rfl,_⟩|⟨k,g,rfl,_⟩<;>simp only[iF]at h1 ⊢<;>simp[Bm,aj,h1]
theorem HC (h:bY pg){Us:Nat}{s:List UInt8}{ay:List (List PV)}{n:aI}{w:W}(hr:ay.length<=8)
  (hp:fB pg 52 [.ag [.p (.sl (n.ae.map Up.aw)),.p (.i .i64 n.aV)],.ag [.p (.i .i64 4),.p (.i .i64 0),.p (.s s),.p (.sl ay)],.ag [.p (.i .i64 8),.p (.i .i64 Us),.p (.i .i64 0),.p (.s s),.p (.sl []),.p (.sl (List.replicate (ay.length+1) [iv 0,iv 0]))]] w) :
  fB pg 37 [.ag [.p (.sl (n.ae.map Up.aw)),.p (.i .i64 n.aV)],.ag [.p (.i .i64 4),.p (.i .i64 0),.p (.s s),.p (.sl ay)],.p (.i .i64 Us)] w:=by
 obtain⟨v,O,hc,hv⟩:=hp;obtain⟨v',O',h1,h2⟩:=we (pg:=pg) (G:=[.box [.p (.sl (n.ae.map Up.aw)),.p (.i .i64 n.aV)],.box [.p (.i .i64 4),.p (.i .i64 0),.p (.s s),.p (.sl ay)],.box bU,.box [.p (.i .i64 8),.p (.i .i64 Us),.p (.i .i64 0),.p (.s s),.aC,.arr 4 (ay.length+1) 0],.arr 2 (List.replicate (ay.length+1) [iv 0,iv 0]) 0 (ay.length+1)]) hc hv rfl;rw[<- uy (args:=[.ag [.p (.sl (n.ae.map Up.aw)),.p (.i .i64 n.aV)],.ag [.p (.i .i64 4),.p (.i .i64 0),.p (.s s),.p (.sl ay)],.ag [.p (.i .i64 8),.p (.i .i64 Us),.p (.i .i64 0),.p (.s s),.aC,.arr 4 (ay.length+1) 0]]) (G:=[.box [.p (.sl (n.ae.map Up.aw)),.p (.i .i64 n.aV)],.box [.p (.i .i64 4),.p (.i .i64 0),.p (.s s),.p (.sl ay)],.box bU,.box [.p (.i .i64 8),.p (.i .i64 Us),.p (.i .i64 0),.p (.s s),.aC,.arr 4 (ay.length+1) 0],.arr 2 (List.replicate (ay.length+1) [iv 0,iv 0]) 0 0]) (by
  rw[show bC pg 52=false from h.bq (x:=GJ) rfl];have:Nat.max 0 (ay.length+1)=ay.length+1:=fD (dv _);simp[exp,aQ,norm,this]) rfl]at h1
 obtain⟨a,x,y,z,L,l,rfl,q1,q2,q3⟩:=h2;simp only[bU]at h1;have hE:∀b1 b2 b3 b4 b5:fE,EV 0 L (b1::b2::b3::b4::b5::O') l:=by
  intro b1 b2 b3 b4 b5;rcases q2 with ⟨rfl,rfl⟩|⟨k,g,rfl,hk⟩
  ·exact .inl ⟨rfl,rfl⟩
  ·exact .inr ⟨k+5,g,rfl,by simpa using hk⟩
 refine⟨iF a x y z L w.e,.box [.p (.sl (n.ae.map Up.aw)),.p (.i .i64 n.aV)]::.box [.p (.i .i64 4),.p (.i .i64 0),.p (.s s),.p (.sl ay)]::.box (iF a x y z L w.e)::.box [.p (.i .i64 8),.p (.i .i64 Us),.p (.i .i64 0),.p (.s s),.aC,.arr 4 (ay.length+1) 0]::.arr 2 (List.replicate (ay.length+1) [iv 0,iv 0]) 0 (ay.length+1)::O',?_,⟨a,x,y,z,L,l,rfl,q1,hE _ _ _ _ _,q3⟩⟩;have r1:bZ (ay.length+1) 16=true:=by simp[bZ];omega
 have hw:IntKind.i64.wrap ((ay.length:Int)+1)=(ay.length:Int)+1:=cR _;have h0:(0:Int)<=(ay.length:Int)+1:=by omega
 have ht:((ay.length:Int)+1).toNat=ay.length+1:=by omega
 rw[h.run (x:=Bm)];rcases q1 with rfl|⟨r,rfl⟩<;>rcases q2 with ⟨rfl,_⟩|⟨k,g,rfl,_⟩<;>simp only[iF]at h1 ⊢<;>simp[Bm,aj,FW,r1,hw,h0,ht,h1]
def VF (r:List PV):List PV:=match r with
 |[_,.i .i64 n,.s s,_]=>[.s s,iv n]
 |_=>[]
def ru (n:aI)(Us:Nat)(ay:List (List PV))(i g:Nat):Heap:=[.box [.p (.sl (n.ae.map Up.aw)),.p (.i .i64 n.aV)],.box [.p (.i .i64 5),.p (.i .i64 0),.p (.s []),.p (.sl ay)],.box bU,.box [.p (.i .i64 9),.p (.i .i64 Us),.p (.i .i64 0),.p (.s []),.arr 4 (i-1) g,.aC],.arr 2 (((ay.take i).drop 1).map VF) g 0]
theorem OZ (h:bY pg){body:aU}(hb:body=X4){n:aI}{Us:Nat}{ay:List (List PV)}(hr:ay.length<=9)(hrow:∀r∈ay,∃k m s l,r=[iv k,iv m,.s s,.sl l]):∀m i,2<=i->i+m=ay.length ->
  L pg 0 [3,4,6,7,11] body [(3,.ptr 0 0),(4,.ptr 1 0),(6,.ptr 2 0),(7,.ptr 3 0),(11,.p (.i .i64 (i:Nat)))] (ru n Us ay i (i-2)) =
   some (.exit 1,[(3,.ptr 0 0),(4,.ptr 1 0),(6,.ptr 2 0),(7,.ptr 3 0),(11,.p (.i .i64 ay.length)),(89,.p (.b false))],ru n Us ay ay.length (ay.length-2))
 |0,i,h1,hi=>by
  have:i=ay.length:=by omega
  subst this;rw[dA hb];simp[X4,aj,ru]
 |m+1,i,h1,hi=>by
  have hlt:i<ay.length:=by omega
  obtain⟨k,nn,s,l,hk⟩:=hrow ay[i] (bM hlt);have ih:=OZ h hb (n:=n) (Us:=Us) hr hrow m (i+1) (by omega) (by omega);rw[show((i+1:Nat):Int)=(i:Int)+1 from by omega]at ih;have okr:aS 4 [iv k,iv nn,.s s,.sl l]=true:=rfl;have okr2:aS 2 [.s s,iv nn]=true:=rfl;have e1:(ay.take (i+1)).drop 1=(ay.take i).drop 1++[ay[i]]:=by
   rw[cG,gG hlt,jl (by simp;omega)];rfl
  have e2:i-1+1=i:=by omega
  have e3:i-2+1=i-1:=by omega
  have e4:i+1-1=i:=by omega
  have e5:i+1-2=i-1:=by omega
  have r1:bZ i 24=true:=by simp[bZ];omega
  have hlen:(((ay.take i).drop 1).map VF).length=i-1:=by simp;omega
  have t1:List.take (i-1) (((ay.take i).drop 1).map VF)=((ay.take i).drop 1).map VF:=aF (by omega);have hgi:ay[i]?=some [iv k,iv nn,.s s,.sl l]:=by rw[gG hlt,hk]
  have har:VF ay[i]=[.s s,iv nn]:=by rw[hk];rfl
  unfold ru at ih ⊢;rw[e1,e4,e5,bB,ai,au,har]at ih;generalize hA:((ay.take i).drop 1).map VF=A at *;have hle:i-1<=A.length:=by omega
  rw[dA hb];simp[X4,aj,hlt,hgi,hk,okr,okr2,JM,Uu.Uv,cX,cO,ee,Vy,bH,e2,e3,r1,t1,hle,cR ((i:Int)+1),bU,gc,exp,aQ,UG];simp only[bU]at ih;rw[ih];simp
theorem Y8 (h:bY pg){body:aU}(hb:body=X4){n:aI}{Us:Nat}{ay:List (List PV)}(h2:2<=ay.length)(hr:ay.length<=9)(hrow:∀r∈ay,∃k m s l,r=[iv k,iv m,.s s,.sl l]) :
  L pg 0 [3,4,6,7,11] body [(3,.ptr 0 0),(4,.ptr 1 0),(6,.ptr 2 0),(7,.ptr 3 0),(11,.p (.i .i64 1))] [.box [.p (.sl (n.ae.map Up.aw)),.p (.i .i64 n.aV)],.box [.p (.i .i64 5),.p (.i .i64 0),.p (.s []),.p (.sl ay)],.box bU,.box [.p (.i .i64 9),.p (.i .i64 Us),.p (.i .i64 0),.p (.s []),.aC,.aC]] =
   some (.exit 1,[(3,.ptr 0 0),(4,.ptr 1 0),(6,.ptr 2 0),(7,.ptr 3 0),(11,.p (.i .i64 ay.length)),(89,.p (.b false))],ru n Us ay ay.length (ay.length-2)):=by
 have hlt:1<ay.length:=by omega
 have hlt':(1:Int)<(ay.length:Int):=by omega
 obtain⟨k,nn,s,l,hk⟩:=hrow ay[1] (bM hlt);have ih:=OZ h hb (n:=n) (Us:=Us) hr hrow (ay.length-2) 2 (by omega) (by omega);have okr:aS 4 [iv k,iv nn,.s s,.sl l]=true:=rfl;have okr2:aS 2 [.s s,iv nn]=true:=rfl;have e1:(ay.take 2).drop 1=[ay[1]]:=by
  match ay,hlt with
  |a::b::r,_=>rfl
 have r1:bZ 1 24=true:=by rfl
 have hgi:ay[1]?=some [iv k,iv nn,.s s,.sl l]:=by rw[gG hlt,hk]
 have har:VF ay[1]=[.s s,iv nn]:=by rw[hk];rfl
 unfold ru at ih ⊢;rw[e1,ai,au,har]at ih;simp only[zj,bU,show 2-1=1 from rfl,show 2-2=0 from rfl]at ih ⊢;rw[dA hb];simp[X4,aj,hlt,hlt',hgi,hk,okr,okr2,JM,Uu.Uv,cX,cO,ee,Vy,bH,r1,cR 2,bU,gc,exp,aQ,UG];rw[ih];simp
theorem YR (h:bY pg){Us:Nat}{ay:List (List PV)}{n:aI}{w:W}(h2:2<=ay.length)(hr:ay.length<=9)(hrow:∀r∈ay,∃k m s l,r=[iv k,iv m,.s s,.sl l])
  (hp:fB pg 52 [.ag [.p (.sl (n.ae.map Up.aw)),.p (.i .i64 n.aV)],.ag [.p (.i .i64 5),.p (.i .i64 0),.p (.s []),.p (.sl ay)],.ag [.p (.i .i64 9),.p (.i .i64 Us),.p (.i .i64 0),.p (.s []),.p (.sl ((ay.drop 1).map VF)),.p (.sl [])]] w) :
  fB pg 37 [.ag [.p (.sl (n.ae.map Up.aw)),.p (.i .i64 n.aV)],.ag [.p (.i .i64 5),.p (.i .i64 0),.p (.s []),.p (.sl ay)],.p (.i .i64 Us)] w:=by
 obtain⟨v,O,hc,hv⟩:=hp;have hlen:((ay.drop 1).map VF).length=ay.length-1:=by simp
 obtain⟨v',O',h1,h3⟩:=we (pg:=pg) (G:=[.box [.p (.sl (n.ae.map Up.aw)),.p (.i .i64 n.aV)],.box [.p (.i .i64 5),.p (.i .i64 0),.p (.s []),.p (.sl ay)],.box bU,.box [.p (.i .i64 9),.p (.i .i64 Us),.p (.i .i64 0),.p (.s []),.arr 4 (ay.length-1) (ay.length-2),.aC],.arr 2 ((ay.drop 1).map VF) (ay.length-2) (ay.length-1)]) hc hv rfl;rw[<- uy (args:=[.ag [.p (.sl (n.ae.map Up.aw)),.p (.i .i64 n.aV)],.ag [.p (.i .i64 5),.p (.i .i64 0),.p (.s []),.p (.sl ay)],.ag [.p (.i .i64 9),.p (.i .i64 Us),.p (.i .i64 0),.p (.s []),.arr 4 (ay.length-1) (ay.length-2),.aC]]) (G:=[.box [.p (.sl (n.ae.map Up.aw)),.p (.i .i64 n.aV)],.box [.p (.i .i64 5),.p (.i .i64 0),.p (.s []),.p (.sl ay)],.box bU,.box [.p (.i .i64 9),.p (.i .i64 Us),.p (.i .i64 0),.p (.s []),.arr 4 (ay.length-1) (ay.length-2),.aC],.arr 2 ((ay.drop 1).map VF) (ay.length-2) 0]) (by
  rw[show bC pg 52=false from h.bq (x:=GJ) rfl];have hm:Nat.max 0 (ay.length-1)=ay.length-1:=fD (dv _);have ht:List.take (ay.length-1) ((ay.drop 1).map VF)=(ay.drop 1).map VF:=aF (by omega);generalize (ay.drop 1).map VF=A at *;simp[exp,aQ,norm,hm,hlen,ht]) rfl]at h1
 obtain⟨a,x,y,z,L,l,rfl,q1,q2,q3⟩:=h3;simp only[bU]at h1;have hE:∀b1 b2 b3 b4 b5:fE,EV 0 L (b1::b2::b3::b4::b5::O') l:=by
  intro b1 b2 b3 b4 b5;rcases q2 with ⟨rfl,rfl⟩|⟨k,g,rfl,hk⟩
  ·exact .inl ⟨rfl,rfl⟩
  ·exact .inr ⟨k+5,g,rfl,by simpa using hk⟩
 have hL:=Y8 (body:=X4) h rfl (n:=n) (Us:=Us) h2 hr hrow;simp only[ru,eg,bU]at hL;generalize hA:(ay.drop 1).map VF=A at *;refine⟨iF a x y z L w.e,.box [.p (.sl (n.ae.map Up.aw)),.p (.i .i64 n.aV)]::.box [.p (.i .i64 5),.p (.i .i64 0),.p (.s []),.p (.sl ay)]::.box (iF a x y z L w.e)::.box [.p (.i .i64 9),.p (.i .i64 Us),.p (.i .i64 0),.p (.s []),.arr 4 (ay.length-1) (ay.length-2),.aC]::.arr 2 A (ay.length-2) (ay.length-1)::O',?_,⟨a,x,y,z,L,l,rfl,q1,hE _ _ _ _ _,q3⟩⟩;rw[h.run (x:=Bm)];rcases q1 with rfl|⟨r,rfl⟩<;>rcases q2 with ⟨rfl,_⟩|⟨k,g,rfl,_⟩<;>simp only[iF]at h1 ⊢<;>simp[Bm,aj,gc,exp,aQ,UG]<;>rw[hL]<;>simp[aj,h1]
theorem YM {Us:Nat}{s:List UInt8}{k:Nat}(hs:s≠[])(hk:k<=8)(h:Us<=60):(Up.mk 8 Us 0 s [] (List.replicate (k+1) ⟨0,0⟩)).ok=true :=
 Up.W9 (by omega) rfl (by omega) h (by simp[hs]) (.inl rfl) (λ_=>by simp;omega)
theorem y8 {Us:Nat}(h:Us<=60):(Up.mk 3 Us 0 [] [] []).ok=true:=Up.W9 (by omega) rfl (by omega) h (by simp) (.inl rfl) (by omega)
theorem C5 {Us:Nat}{s:List UInt8}(hs:s≠[])(h:Us<=60):(Up.mk 11 Us 0 s [] []).ok=true:=Up.W9 (by omega) rfl (by omega) h (by simp[hs]) (.inl rfl) (by omega)
theorem y9 {Us:Nat}{l:List (List UInt8×Nat)}(hl:1<=l.length/\l.length<=8)(ha:eM l 0 l=true)(h:Us<=60):(Up.mk 9 Us 0 [] l []).ok=true :=
 Up.W9 (by omega) (by simp[Up.fP,ha,hl]) (by omega) h (by simp) (.inl rfl) (by omega)
structure Fits (t:Ct)(f Us:Nat):Prop where
 wf:t.wf f=true
 bd:f+8 * t.size<2 ^ 30
 lv:Us+t.size<2 ^ 30
 sz:t.size<2 ^ 14
def oK (pg:fX)(t:Ct):Prop:=∀(f Us:Nat) (n:aI),Fits t f Us->WI n->fB pg 37 [.ag [.p (.sl (n.ae.map Up.aw)),.p (.i .i64 n.aV)],.ag (bP t.tm.aw),.p (.i .i64 Us)] (t.cP Us n)/\jd t.size (t.cP Us n)
theorem L6 (h:bY pg){s:List UInt8}{ay:List (List PV)}{f Us:Nat}:∀(l:List Ct) (i:Nat),(∀t∈l,oK pg t/\Fits t f (Us+1))->(∀j t,l[j]?=some t->ay[i+j]?=some t.tm.aw)->i+l.length=ay.length->Us<2 ^ 30 ->
  eO pg 4 0 s ay Us i (Ct.l9 l Us) (List.range' (i+1) l.length) (l.map Ct.size)
 |[],i,hp,hr,hi,hlev=>by simpa [eO,Ct.l9] using hi
 |a::r,i,hp,hr,hi,hlev=>by
  obtain⟨ha,hf⟩:=hp a (by simp);have hx:=hr 0 a rfl;obtain⟨k,m,nm,ll,hen⟩:=a.tm.jC;simp only[Ct.l9,av,cq,ai];refine⟨λn hn=>?_,λn hn=>Yr (ha f (Us+1) n hf hn).2,by simp,L6 h r (i+1) (λt ht=>hp t (by simp[ht])) (λj t hj=>?_) (by simp at hi;omega) hlev⟩
  ·obtain⟨h1,h2⟩:=ha f (Us+1) n hf hn;rw[hen]at h1 hx;exact L5 h (by simpa using hx) (.inl rfl) (by omega) h2 (by have:=hf.sz;omega) h1
  ·have:=hr (j+1) t (by simpa using hj);rwa [show i+1+j=i+(j+1) from by omega]
theorem L7 (h:bY pg){ay:List (List PV)}{f Us:Nat}:∀(l:List Ct) (i:Nat),0<i->(∀t∈l,∃s k b,t=.alt s k b/\k<=8/\oK pg b/\Fits b (f+k) Us)->(∀j t,l[j]?=some t->ay[i+j]?=some t.tm.aw)->i+l.length=ay.length ->
  eO pg 5 0 [] ay Us i (Ct.nk l Us) (List.range' (i+1) l.length) (l.map Ct.size)
 |[],i,h0,hp,hr,hi=>by simpa [eO,Ct.nk] using hi
 |a::r,i,h0,hp,hr,hi=>by
  obtain⟨s,k,b,rfl,hk,hb,hf⟩:=hp a (by simp);have hx:=hr 0 _ rfl;obtain⟨k',m,nm,ll,hen⟩:=b.tm.jC;simp only[Ct.nk,av,cq,ai];have hg:∀n,WI n->jd b.size (b.cP Us n):=λn hn=>(hb (f+k) Us n hf hn).2;refine⟨λn hn=>?_,λn hn=>(oI hg k n hn).mono (by simp[Ct.size]),by simp[show i≠0 from by omega],L7 h r (i+1) (by omega) (λt ht=>hp t (by simp[ht])) (λj t hj=>?_) (by simp at hi;omega)⟩
  ·simp only[Ct.tm,Tm.aw,Tm.df,hen]at hx;refine Ou h (rest:=[]) (by simpa using hx) h0 rfl ?_;refine Ot h (c:=b.size) (by have:=hf.sz;omega) hg (λn hn=>?_) k n (by omega) hn;have:=(hb (f+k) Us n hf hn).1;rw[hen]at this;exact this
  ·have:=hr (j+1) t (by simpa using hj);rwa [show i+1+j=i+(j+1) from by omega]
theorem nQ:∀l:List Ct,Ct.dt l=(l.map Ct.size).sum
 |[]=>rfl
 |a::r=>by simp[Ct.dt,nQ r]
theorem Vi {f:Nat}:∀{l:List Ct},Ct.JW f l=true->∀t∈l,t.wf f=true
 |[],h,t,ht=>by simp at ht
 |a::r,h,t,ht=>by
  simp only[Ct.JW,ab]at h;rcases aA.1 ht with rfl|ht
  ·exact h.1
  ·exact Vi h.2 t ht
theorem fV {f:Nat}:∀{l:List Ct},Ct.El f l=true->∀t∈l,∃s k b,t=.alt s k b/\qF s=true/\b.wf (f+k)=true
 |[],h,t,ht=>by simp at ht
 |a::r,h,t,ht=>by
  cases a with
  |alt s k b =>
   simp only[Ct.El,ab]at h;rcases aA.1 ht with rfl|ht
   ·exact⟨s,k,b,rfl,h.1.1,h.1.2⟩
   ·exact fV h.2 t ht
  |_=>simp[Ct.El]at h
theorem dm {l:List Ct}{t:Ct}(h:t∈l):t.size<=Ct.dt l:=by
 induction l with
 |nil=>simp at h
 |cons a r ih =>
  simp only[Ct.dt];rcases aA.1 h with rfl|h
  ·omega
  ·have:=ih h;omega
theorem h_ {all:List (List UInt8×Nat)}:∀{l:List (List UInt8×Nat)} {i:Nat},eM all i l=true->∀a∈l,a.2<=8
 |[],i,h,a,ha=>by simp at ha
 |x::r,i,h,a,ha=>by
  simp only[eM,ab,Uq]at h;rcases aA.1 ha with rfl|ha
  ·exact h.1.1.2
  ·exact h_ h.2 a ha
theorem L8 (h:bY pg){tk:Int}{s:List UInt8}{a b:Ct}{f Us la:Nat}(ha:oK pg a/\Fits a f Us)(hb:oK pg b/\Fits b f la)(hk:(tk=3/\la=Us+1)\/(tk=8/\la=Us))(hlev:Us<2 ^ 30) :
  eO pg tk 0 s [a.tm.aw,b.tm.aw] Us 0 [a.cP Us,if tk=3 then (λn=>jI Us (b.cP la n)) else b.cP la] [0,2] [a.size,b.size]:=by
 obtain⟨k,m,nm,ll,hen⟩:=a.tm.jC;obtain⟨k',m',nm',ll',hen'⟩:=b.tm.jC;have h4:tk≠4:=by omega
 refine⟨λn hn=>?_,λn hn=>(ha.1 f Us n ha.2 hn).2,by simp[h4],λn hn=>?_,λn hn=>?_,by simp,by simp[eO]⟩
 ·have:=(ha.1 f Us n ha.2 hn).1;rw[hen]at this;exact JV h (by rw[hen];rfl) h4 (by omega) (by omega) this
 ·obtain⟨h1,h2⟩:=hb.1 f la n hb.2 hn;rw[hen']at h1;rcases hk with ⟨rfl,rfl⟩|⟨rfl,rfl⟩
  ·rw[ah rfl];exact L5 h (by rw[hen'];rfl) (.inr ⟨rfl,rfl⟩) (by omega) h2 (by have:=hb.2.sz;omega) h1
  ·rw[aa (by decide)];exact JV h (by rw[hen'];rfl) h4 (by omega) (by omega) h1
 ·have h2:=(hb.1 f la n hb.2 hn).2;split
  ·exact Yr h2
  ·exact h2
theorem Ct.B_ {l:List Ct}{f:Nat}(hw:Ct.El f l=true):((Ct.gp l).map Tm.aw).map VF=(l.map fQ).map Ux:=by
 rw[Ct.cM,UJ,UJ,UJ];refine cL λt ht=>?_;obtain⟨s,k,b,rfl,_,_⟩:=fV hw t ht;simp[Ct.tm,Tm.aw,VF,fQ,Ux]
theorem size_pos (t:Ct):1<=t.size:=by cases t<;>simp[Ct.size]
theorem ia (h:bY pg):∀(k:Nat) (t:Ct),t.size<=k->oK pg t
 |0,t,hk=>by have:=size_pos t;omega
 |k+1,t,hk=>by
  intro f Us n hF hn;have hwf:=hF.wf;have hbd:=hF.bd;have hlv:=hF.lv;have hsz:=hF.sz;cases t with
  |var i =>
   refine⟨Hz h hn,?_⟩;simp only[Ct.wf,Uq]at hwf;unfold Ct.cP;exact Xy hn (by simp) (iP (.inl rfl) 0 rfl) (λs=>⟨by simp[Ct.size],by intro e he;simp at he;subst he;dsimp only;omega⟩)
  |int v =>
   refine⟨HA h hn,?_⟩;unfold Ct.cP;exact Xy hn (by simp) (tc v) (λs=>⟨by simp,by simp⟩)
  |fail =>
   refine⟨F0 h hn,?_⟩;unfold Ct.cP;exact Xy hn (by simp) (iP (.inr rfl) 0 rfl) (λs=>⟨by simp,by simp⟩)
  |alt s m b=>simp[Ct.wf]at hwf
  |lam b =>
   simp only[Ct.wf]at hwf;simp only[Ct.size]at hbd hlv hsz hk;have ihb:=ia h k b (by omega);have hfb:Fits b (f+1) Us:=⟨hwf,by omega,by omega,by omega⟩
   have hg:∀n,WI n->jd b.size (b.cP Us n):=λn hn=>(ihb (f+1) Us n hfb hn).2;unfold Ct.cP;refine⟨HB h ?_,(oI hg 1 n hn).mono (by simp[Ct.size])⟩;obtain⟨k',m,nm,ll,hen⟩:=b.tm.jC;have:=Ot h (c:=b.size) (by omega) hg (tk:=k') (tn:=m) (ts:=nm) (tl:=ll) (Us:=Us) (λn hn=>by
    have:=(ihb (f+1) Us n hfb hn).1;rw[hen]at this;exact this) 1 n (by omega) hn
   rw[hen];exact this
  |app a b =>
   simp only[Ct.wf,ab]at hwf;simp only[Ct.size]at hbd hlv hsz hk;have hfa:Fits a f Us:=⟨hwf.1,by omega,by omega,by omega⟩
   have hfb:Fits b f (Us+1):=⟨hwf.2,by omega,by omega,by omega⟩
   have hP:=L8 (tk:=3) (s:=[]) h ⟨ia h k a (by omega),hfa⟩ ⟨ia h k b (by omega),hfb⟩ (.inl ⟨rfl,rfl⟩) (by omega);rw[ah rfl]at hP;unfold Ct.cP;refine⟨C4 h (ao:=3) (.inl ⟨rfl,rfl,rfl⟩) ?_,?_⟩
   ·exact MK h (x:=⟨3,Us,0,[],[],[]⟩) (by simp[Tm.df]) hn (by simp) y8 rfl hP (by simp;omega)
   ·exact(oJ (x:=⟨3,Us,0,[],[],[]⟩) hn (by simp) y8 hP).mono (by simp[Ct.size])
  |op s a b =>
   simp only[Ct.wf,ab]at hwf;simp only[Ct.size]at hbd hlv hsz hk;have hfa:Fits a f Us:=⟨hwf.1.2,by omega,by omega,by omega⟩
   have hfb:Fits b f Us:=⟨hwf.2,by omega,by omega,by omega⟩
   have hP:=L8 (tk:=8) (s:=s) h ⟨ia h k a (by omega),hfa⟩ ⟨ia h k b (by omega),hfb⟩ (.inr ⟨rfl,rfl⟩) (by omega);rw[aa (by decide)]at hP;have hne:=y7 hwf.1.1;unfold Ct.cP;refine⟨C4 h (ao:=11) (.inr ⟨rfl,rfl⟩) ?_,?_⟩
   ·exact MK h (x:=⟨11,Us,0,s,[],[]⟩) (by simp[Tm.df]) hn (by simp) (C5 hne) rfl hP (by simp;omega)
   ·exact(oJ (x:=⟨11,Us,0,s,[],[]⟩) hn (by simp) (C5 hne) hP).mono (by simp[Ct.size])
  |UW s l =>
   simp only[Ct.wf,ab,Uq]at hwf;obtain⟨⟨w1,w2⟩,w3⟩:=hwf;simp only[Ct.size]at hbd hlv hsz hk;have hrl:((Ct.gp l).map Tm.aw).length=l.length:=by rw[Ct.cM];simp
   have hmem:∀t∈l,oK pg t/\Fits t f (Us+1):=λt ht=>by
    have:=dm ht;exact⟨ia h k t (by omega),⟨Vi w3 t ht,by omega,by omega,by omega⟩⟩
   have hP:=L6 h (s:=s) (ay:=(Ct.gp l).map Tm.aw) (f:=f) (Us:=Us) l 0 hmem (λj t hj=>by
    rw[Ct.cM,UJ,aG,List.getElem?_map,hj];rfl) (by omega) (by omega)
   have hne:=XM w1;have hok:Us<=60->(Up.mk 8 Us 0 s [] (List.replicate (l.length+1) ⟨0,0⟩)).ok=true:=YM hne w2;have hto:(List.replicate (l.length+1) (⟨0,0⟩:aq)).map aq.aw=List.replicate (l.length+1) [iv 0,iv 0]:=by
    rw[List.map_replicate];rfl
   unfold Ct.cP;refine⟨?_,?_⟩
   ·have:=MK h (x:=⟨8,Us,0,s,[],List.replicate (l.length+1) ⟨0,0⟩⟩) (by omega) hn (by simp) hok (by rw[rq,hrl]) hP (by rw[<- nQ];omega);rw[ah rfl]at this;simp only[hto]at this;have h3:=HC h (by omega) (Us:=Us) (s:=s) (ay:=(Ct.gp l).map Tm.aw) (n:=n) (by rw[hrl];exact this);simp only[Ct.tm,Tm.aw,Tm.ba,bP,ai,au];exact h3
   ·exact(oJ (x:=⟨8,Us,0,s,[],List.replicate (l.length+1) ⟨0,0⟩⟩) hn (by simp) hok hP).mono (by rw[<- nQ];simp[Ct.size])
  |case a l =>
   simp only[Ct.wf,ab,Uq]at hwf;obtain⟨⟨⟨w1,w2⟩,w3⟩,w4⟩:=hwf;simp only[Ct.size]at hbd hlv hsz hk;have hrl:((a.tm::Ct.gp l).map Tm.aw).length=l.length+1:=by rw[Ct.cM];simp
   have ha:=ia h k a (by omega);have hfa:Fits a f Us:=⟨w1,by omega,by omega,by omega⟩
   have hmem:∀t∈l,∃s k b,t=.alt s k b/\k<=8/\oK pg b/\Fits b (f+k) Us:=λt ht=>by
    have hs:=dm ht;obtain⟨s,m,b,rfl,c1,c2⟩:=fV w4 t ht;have h8:=h_ w3 (s,m) (bj.2 ⟨_,ht,rfl⟩);simp only[Ct.size]at hs;exact⟨s,m,b,rfl,h8,ia h k b (by omega),⟨c2,by omega,by omega,by omega⟩⟩
   have hPA:=L7 h (ay:=(a.tm::Ct.gp l).map Tm.aw) (f:=f) (Us:=Us) l 1 (by omega) hmem (λj t hj=>by
    rw[kD,ai,List.getElem?_cons_succ,Ct.cM,UJ,List.getElem?_map,hj];rfl) (by omega)
   obtain⟨k',m,nm,ll,hen⟩:=a.tm.jC;have hP:eO pg 5 0 [] ((a.tm::Ct.gp l).map Tm.aw) Us 0 (a.cP Us::Ct.nk l Us) (0::List.range' 2 l.length) (a.size::l.map Ct.size):=by
    refine⟨λn hn=>?_,λn hn=>(ha f Us n hfa hn).2,by simp,hPA⟩;have:=(ha f Us n hfa hn).1;rw[hen]at this;exact JV h (by rw[ai,hen];rfl) (by decide) (by omega) (by omega) this
   have hok:Us<=60->(Up.mk 9 Us 0 [] (l.map fQ) []).ok=true:=y9 (by simpa using w2) w3;unfold Ct.cP;refine⟨?_,?_⟩
   ·have:=MK h (x:=⟨9,Us,0,[],l.map fQ,[]⟩) (by omega) hn (by simp) hok (by simp[wj,Ct.cM]) hP (by rw[dK,<- nQ];omega);rw[aa (by decide)]at this;have hdrop:(((a.tm::Ct.gp l).map Tm.aw).drop 1).map VF=(l.map fQ).map Ux:=by
     rw[ai,fG,bp];exact Ct.B_ w4
    have h3:=YR h (Us:=Us) (ay:=(a.tm::Ct.gp l).map Tm.aw) (n:=n) (by omega) (by omega) (λr hr=>by
     obtain⟨t,_,rfl⟩:=bj.1 hr;exact t.jC) (by rw[hdrop];exact this)
    simp only[Ct.tm,Tm.aw,Tm.ba,bP,ai,au]at h3 ⊢;exact h3
   ·exact(oJ (x:=⟨9,Us,0,[],l.map fQ,[]⟩) hn (by simp) hok hP).mono (by rw[dK,<- nQ];simp[Ct.size])
theorem y_ {most:Nat}(h:2<=most/\most<=4000):WI (kP most):=by
 refine⟨by simp[kP];omega,λi x hx=>?_⟩;have hm:=aE hx;simp only[kP,aA,UA,dU]at hm;subst hm;simp
theorem P4 (h:bY pg){most:Nat}{tk tn:Int}{ts:List UInt8}{tl:List (List PV)}{w:W}(hm:2<=most/\most<=4000)(hmay:∀G,UM pg (E pg) 18 [.ag [.p (.i .i64 tk),.p (.i .i64 tn),.p (.s ts),.p (.sl tl)],.p (.i .i64 0)] G=some (.ret (.p (.b true)),G))
  (hw:w.e=0->WI w.n) (hp:fB pg 37 [.ag [.p (.sl ((kP most).ae.map Up.aw)),.p (.i .i64 (kP most).aV)],.ag [.p (.i .i64 tk),.p (.i .i64 tn),.p (.s ts),.p (.sl tl)],.p (.i .i64 (0:Nat))] w) :
  E pg 20 [.ag [.p (.i .i64 tk),.p (.i .i64 tn),.p (.s ts),.p (.sl tl)],.p (.i .i64 most)] [] =
   some (.ret (.dF [if w.e=0 then .ag [.p (.sl ((w.n.bx w.out ⟨0,0⟩).ae.map Up.aw)),.p (.i .i64 (w.n.bx w.out ⟨0,0⟩).aV)] else .ag [.p (.sl []),.p (.i .i64 0)],.p (.i .i64 w.e)]),[]):=by
 obtain⟨v,O,hc,hv⟩:=hp;have hnode:(kP most).ae.map Up.aw=[[iv 1,iv 0,iv 0,.s [],.sl [],.sl [[iv 0,iv 0]]]]:=rfl;have jH:(kP most).aV=most:=rfl;rw[hnode,jH]at hc;simp only[fW]at hc;obtain⟨v',O',h1,h2⟩:=we (pg:=pg) (G:=[.box [.p (.i .i64 tk),.p (.i .i64 tn),.p (.s ts),.p (.sl tl)],.box [.aC,.p (.i .i64 0)],.arr 2 [[iv 0,iv 0]] 0 1,.arr 6 [[iv 1,iv 0,iv 0,.s [],.sl [],.sl [[iv 0,iv 0]]]] 0 1]) hc hv rfl;rw[<- uy (args:=[.ag [.arr 3 1 0,.p (.i .i64 most)],.ag [.p (.i .i64 tk),.p (.i .i64 tn),.p (.s ts),.p (.sl tl)],.p (.i .i64 0)]) (G:=[.box [.p (.i .i64 tk),.p (.i .i64 tn),.p (.s ts),.p (.sl tl)],.box [.aC,.p (.i .i64 0)],.arr 2 [[iv 0,iv 0]] 0 1,.arr 6 [[iv 1,iv 0,iv 0,.s [],.sl [],.sl [[iv 0,iv 0]]]] 0 0]) (by
  rw[show bC pg 37=false from h.bq (x:=Bm) rfl];simp[exp,aQ,norm,Nat.max]) rfl]at h1
 obtain⟨a,x,y,z,L,l,rfl,q1,q2,q3⟩:=h2;have c1:¬ (most:Int)<2:=by omega
 have c2:¬ (4000:Int)<most:=by omega
 have c1':¬ most<2:=by omega
 have c2':¬ 4000<most:=by omega
 rw[h.run (x:=Mv)];by_cases he:w.e=0
 ·obtain⟨rfl,rfl,rfl,rfl,rfl⟩:=q3 he;have e38:=λG=>t38 (G:=G) (p:=w.out) (q:=⟨0,0⟩) h (hw he).nh;have hcl:=aI.dq w.n w.out ⟨0,0⟩;simp only[hcl,fW]at e38;rw[ah he,hcl];generalize w.n.bx w.out ⟨0,0⟩=n1 at *;rw[he]at h1 ⊢;rcases q2 with ⟨rfl,_⟩|⟨k,g,rfl,_⟩<;>simp only[iF,fW]at h1 ⊢<;>simp[Mv,aj,hmay,c1,c2,c1',c2',FW,D2,okW,Uu.Uv,cO,ee,Vy,Nat.max,h1,D4,D5,t39 h,Yq h,e38]
 ·have he':¬ (w.e:Int)=0:=by omega
  have hbq:(O'.length+1+1+1+1).beq 1=false:=rfl;rw[aa he];rcases q1 with rfl|⟨r,rfl⟩<;>rcases q2 with ⟨rfl,_⟩|⟨k,g,rfl,_⟩<;>simp only[iF]at h1 ⊢<;>simp[Mv,aj,hmay,c1,c2,c1',c2',FW,D2,okW,Uu.Uv,cO,ee,Vy,Nat.max,h1,D4,D5,he,he',hbq]
theorem t20 (h:bY pg){most:Nat}{t:Ct}(hm:2<=most/\most<=4000)(hf:Fits t 0 0)(hmay:∀G,UM pg (E pg) 18 [.ag (bP t.tm.aw),.p (.i .i64 0)] G=some (.ret (.p (.b true)),G)) :
  UM pg (E pg) 20 [.ag (bP t.tm.aw),.p (.i .i64 most)] G=some (.ret (.dF [.ag [.p (.sl (((t.cS most).1).ae.map Up.aw)),.p (.i .i64 ((t.cS most).1).aV)],.p (.i .i64 (t.cS most).2)]),G):=by
 obtain⟨h1,h2⟩:=ia h t.size t (aB _) 0 0 (kP most) hf (y_ hm);obtain⟨k,n,s,l,he⟩:=t.tm.jC;rw[he]at h1 hmay ⊢;have:=P4 h hm hmay (λe=>(h2 e).1) h1;refine Ut ?_ (by rfl) (by rfl);simp only[bP,ai,au];rw[this];unfold Ct.cS;by_cases e:(t.cP 0 (kP most)).e=0
 ·rw[ah e,ah e,e]
 ·rw[aa e,aa e];rfl
end
def ML:List UInt8:=[67,111,110,115,32,40,49,32,43,32,49,41,32,78,105,108]
def O0:List AV:=[
.p (.i .i64 6),.p (.s [67,111,110,115]),.p (.i .i64 0),.p (.i .i64 0),.p (.sl [[.i .i64 10,.s [43],.i .i64 0,.i .i64 6,.sl [[.i .i64 9,.s [],.i .i64 1,.i .i64 6,.sl []],[.i .i64 9,.s [],.i .i64 1,.i .i64 10,.sl []]]],[.i .i64 6,.s [78,105,108],.i .i64 0,.i .i64 13,.sl []]])]
def JY:Ct:=(.UW [67,111,110,115] [(.op [43] (.int 1) (.int 1)),(.UW [78,105,108] [])])
def Ow:List UInt8:=[108,101,116,32,120,32,61,32,50,32,42,32,51,32,105,110,32,67,111,110,115,32,120,32,40,67,111,110,115,32,120,32,120,41]
def Zb:List AV:=[
.p (.i .i64 4),.p (.s [120]),.p (.i .i64 0),.p (.i .i64 0),.p (.sl [[.i .i64 10,.s [42],.i .i64 0,.i .i64 8,.sl [[.i .i64 9,.s [],.i .i64 2,.i .i64 8,.sl []],[.i .i64 9,.s [],.i .i64 3,.i .i64 12,.sl []]]],[.i .i64 6,.s [67,111,110,115],.i .i64 0,.i .i64 17,.sl [[.i .i64 1,.s [120],.i .i64 0,.i .i64 22,.sl []],[.i .i64 6,.s [67,111,110,115],.i .i64 0,.i .i64 25,.sl [[.i .i64 1,.s [120],.i .i64 0,.i .i64 30,.sl []],[.i .i64 1,.s [120],.i .i64 0,.i .i64 32,.sl []]]]]]])]
def KG:Ct:=(.app (.lam (.UW [67,111,110,115] [(.var 0),(.UW [67,111,110,115] [(.var 0),(.var 0)])])) (.op [42] (.int 2) (.int 3)))
def Ox:List UInt8:=[92,120,46,32,120]
def Zc:List AV:=[
.p (.i .i64 2),.p (.s [120]),.p (.i .i64 0),.p (.i .i64 0),.p (.sl [[.i .i64 1,.s [120],.i .i64 0,.i .i64 4,.sl []]])]
def KH:Ct:=(.lam (.var 0))
def Oy:List UInt8:=[108,101,116,114,101,99,32,117,32,61,32,92,110,46,32,99,97,115,101,32,110,32,60,32,49,32,111,102,32,123,32,84,114,117,101,32,45,62,32,78,105,108,32,124,32,70,97,108,115,101,32,45,62,32,67,111,110,115,32,110,32,40,117,32,40,110,32,45,32,49,41,41,32,125,32,105,110,32,117,32,48]
def Zd:List AV:=[
.p (.i .i64 5),.p (.s [117]),.p (.i .i64 0),.p (.i .i64 0),.p (.sl [[.i .i64 2,.s [110],.i .i64 0,.i .i64 11,.sl [[.i .i64 7,.s [],.i .i64 0,.i .i64 15,.sl [[.i .i64 10,.s [60],.i .i64 0,.i .i64 20,.sl [[.i .i64 1,.s [110],.i .i64 0,.i .i64 20,.sl []],[.i .i64 9,.s [],.i .i64 1,.i .i64 24,.sl []]]],[.i .i64 8,.s [84,114,117,101],.i .i64 0,.i .i64 31,.sl [[.i .i64 6,.s [78,105,108],.i .i64 0,.i .i64 39,.sl []]]],[.i .i64 8,.s [70,97,108,115,101],.i .i64 0,.i .i64 45,.sl [[.i .i64 6,.s [67,111,110,115],.i .i64 0,.i .i64 54,.sl [[.i .i64 1,.s [110],.i .i64 0,.i .i64 59,.sl []],[.i .i64 3,.s [],.i .i64 0,.i .i64 62,.sl [[.i .i64 1,.s [117],.i .i64 0,.i .i64 62,.sl []],[.i .i64 10,.s [45],.i .i64 0,.i .i64 65,.sl [[.i .i64 1,.s [110],.i .i64 0,.i .i64 65,.sl []],[.i .i64 9,.s [],.i .i64 1,.i .i64 69,.sl []]]]]]]]]]]]]],[.i .i64 3,.s [],.i .i64 0,.i .i64 78,.sl [[.i .i64 1,.s [117],.i .i64 0,.i .i64 78,.sl []],[.i .i64 9,.s [],.i .i64 0,.i .i64 80,.sl []]]]])]
def KI:Ct:=(.app (.lam (.app (.var 0) (.int 0))) (.app (.lam (.app (.lam (.app (.var 1) (.app (.var 0) (.var 0)))) (.lam (.app (.var 1) (.app (.var 0) (.var 0)))))) (.lam (.lam (.case (.op [60] (.var 0) (.int 1)) [(.alt [84,114,117,101] 0 (.UW [78,105,108] [])),(.alt [70,97,108,115,101] 0 (.UW [67,111,110,115] [(.var 0),(.app (.var 1) (.op [45] (.var 0) (.int 1)))]))])))))
end Go.Proofs.Z
