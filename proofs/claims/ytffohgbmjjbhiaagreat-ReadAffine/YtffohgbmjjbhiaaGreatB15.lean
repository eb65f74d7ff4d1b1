/- A part of the proof. -/
import Derived.Test.YtffohgbmjjbhiaaGreatB14
set_option linter.all false
namespace Go.Proofs.Z
section
variable {pg:fX}{G:Heap}
theorem YN {call:di}{f sz id len g s:Nat}{ay:List (List PV)}{r:List AV}{out:Out}{os:Heap}(hk:bC pg f=false)(hG:G[id]?=some (.arr sz ay g s))(hl:len=ay.length)(hr:bm r=true)(hc:call f (.p (.sl ay)::r) []=some (out,os)) :
  UM pg call f (.arr id len g::r) G=some (out.back [] G.length,G.set id (.arr sz ay g (Nat.max s len))++os.map (bD [] G.length)):=by
 subst hl;unfold UM;rw[hk];simp only[aQ,exp,norm,hG,aZ,if_false,aB,and_self,if_true,eg];rw[bS _ _ hr];dsimp only;have:∀(k:Nat) (G':Heap),UG (k+1) ⟨[],G'⟩ 0=some ([],⟨[],G'⟩):=λk G'=>by simp[UG]
 rw[this];dsimp only;rw[hc];simp[b_]
theorem B9 (h:bY pg){id g s v:Nat}{l:List bW}(hl:l.length<2 ^ 40)(hG:G[id]?=some (.arr 3 (l.map bW.aw) g s)) :
  UM pg (E pg) 71 [.arr id l.length g,.p (.i .i64 v)] G=some (.ret (.p (.i .i64 (dB (jT l v)))),G.set id (.arr 3 (l.map bW.aw) g (Nat.max s l.length))):=by
 rw[YN (h.bq (x:=KV) rfl) hG (by simp) rfl (OV h hl)];simp[Out.back,Z.back]
theorem Y0 (h:bY pg){v:Nat}:UM pg (E pg) 71 [.aC,.p (.i .i64 v)] G=some (.ret (.p (.i .i64 (-1))),G):=by
 have:=Ut (pg:=pg) (G:=G) (OV (l:=[]) (v:=v) h (by simp)) rfl rfl;have e:dB (jT [] v)=-1:=rfl;rw[e]at this;rw[<- this];refine oA λe=>?_;simp[show bC pg 71=false from h.bq (x:=KV) rfl,exp,aQ]
theorem JO (h:bY pg){id g s:Nat}{l:List bW}{x:bW}(hl:l.length<2 ^ 20)(hG:G[id]?=some (.arr 3 (l.map bW.aw) g s)):∃(g':Nat) (tl:Heap),
  UM pg (E pg) 98 [.arr id l.length g,.ag (U0 x)] G=some (.ret (.arr (G.length+1) (Vr l x).length g'),G.set id (.arr 3 (l.map bW.aw) g (Nat.max s l.length))++.box (U0 x)::.arr 3 ((Vr l x).map bW.aw) g' 0::tl):=by
 obtain⟨g',tl,hs⟩:=OW (x:=x) h hl;refine⟨g',tl.map (bD [] G.length),?_⟩;rw[YN (h.bq (x:=KB) rfl) hG (by simp) rfl hs];simp[Out.back,back,dh,UL,bD,b_,U0]
theorem Oo (h:bY pg){x:bW}:∃(g':Nat) (tl:Heap),UM pg (E pg) 98 [.aC,.ag (U0 x)] G=some (.ret (.arr (G.length+1) 1 g'),G++.box (U0 x)::.arr 3 [x.aw] g' 0::tl):=by
 obtain⟨g',tl,hs⟩:=t98 (l:=[]) (x:=x) h (by simp);refine⟨g',tl G.length,?_⟩;rw[show Vr [] x=[x] from rfl]at hs;rw[show UM pg (E pg) 98 [.aC,.ag (U0 x)] G=UM pg (E pg) 98 [.p (.sl ([].map bW.aw)),.ag (U0 x)] G from oA λe=>by simp[show bC pg 98=false from h.bq (x:=KB) rfl,exp,aQ,U0],hs G];rfl
def dY (Us:Nat):Up:=⟨4,Us,0,[],[],[]⟩
theorem WS {Us:Nat}(h:Us<=60):(dY Us).ok=true:=Up.W9 (by omega) rfl (by omega) h (by simp) (by simp) (by omega)
def Uw (Us:Nat):aI->List bW->List bW->aI×List bW×Nat
 |n,l,[]=>(n,l,0)
 |n,l,x::r=>match jT l x.v with
  |none=>Uw Us n (Vr l x) r
  |some k=>if (n.bK (dY Us)).2.2=0 then
    Uw Us (((n.bK (dY Us)).1.bx ⟨(n.bK (dY Us)).2.1,1⟩ (l.getD k default).p).bx ⟨(n.bK (dY Us)).2.1,2⟩ x.p) (l.set k ⟨(l.getD k default).v,⟨(n.bK (dY Us)).2.1,0⟩⟩) r
   else (((n.bK (dY Us)).1.bx ⟨(n.bK (dY Us)).2.1,1⟩ (l.getD k default).p).bx ⟨(n.bK (dY Us)).2.1,2⟩ x.p,l.set k ⟨(l.getD k default).v,⟨(n.bK (dY Us)).2.1,0⟩⟩,(n.bK (dY Us)).2.2)
theorem rm {Us:Nat}:∀(r:List bW) {n:aI} {l:List bW},WI n->WI (Uw Us n l r).1
 |[],n,l,h=>h
 |x::r,n,l,h=>by
  unfold Uw;split
  ·exact rm r h
  ·split
   ·exact rm r (((h.bK (by simp[dY]) WS).bx _ _).bx _ _)
   ·exact((h.bK (by simp[dY]) WS).bx _ _).bx _ _
theorem pO {Us:Nat}:∀(r:List bW) (n:aI) (l:List bW),(Uw Us n l r).2.1.length<=l.length+r.length
 |[],n,l=>by simp[Uw]
 |x::r,n,l=>by
  unfold Uw;split
  ·have:=pO (Us:=Us) r n (Vr l x);have h2:=nO l x;simp;omega
  ·split
   ·refine cm (pO r _ _) ?_;simp
   ·simp
theorem FX (h:bY pg){body:aU}(hb:body=Vl){Us:Nat}{o1 o2:Int}{gw:Nat}:∀(rest pre l:List bW) (n:aI) (g:Nat),WI n->(pre++rest).length<2 ^ 18->l.length+rest.length<2 ^ 18 ->
  ∃(j:Int) (g':Nat),L pg 1 [1,2,3,6,7] body [(1,.arr 1 l.length g),(2,.p (.i .i64 Us)),(3,.ptr 2 0),(6,.ptr 3 0),(7,.p (.i .i64 pre.length))] ([.arr 3 ((pre++rest).map bW.aw) gw 0]++[.arr 3 (l.map bW.aw) g 0,.box (dN n o1 o2 (.arr 0 (pre++rest).length gw) 0),.box bU]) =
   some (.exit 0,[(1,.arr 1 (Uw Us n l rest).2.1.length g'),(2,.p (.i .i64 Us)),(3,.ptr 2 0),(6,.ptr 3 0),(7,.p (.i .i64 j)),(21,.p (.b false))],[.arr 3 ((pre++rest).map bW.aw) gw 0]++[.arr 3 ((Uw Us n l rest).2.1.map bW.aw) g' 0,.box (dN (Uw Us n l rest).1 o1 o2 (.arr 0 (pre++rest).length gw) (Uw Us n l rest).2.2),.box bU])
 |[],pre,l,n,g,hw,hl,hl2=>by
  refine⟨pre.length,g,?_⟩;rw[dA hb];simp[Vl,aj,Uw,dN,bU]
 |x::r,pre,l,n,g,hw,hl,hl2=>by
  have hlp:pre.length<2 ^ 18:=by simp at hl;omega
  have hl0:l.length<2 ^ 18:=by omega
  have hg:∀X:List PV,(List.map bW.aw pre++X::List.map bW.aw r)[pre.length]?=some X:=λX=>by simp
  have hlt:pre.length<(pre++x::r).length:=by simp
  have hlt':(pre.length:Int)<((pre++x::r).length:Nat):=by omega
  simp only[aR,av,bV,WW]at hlt hlt';cases hf:jT l x.v with
  |none =>
   have hm:Uw Us n l (x::r)=Uw Us n (Vr l x) r:=by rw[Uw];simp only[hf]
   have hwl:=nO l x;rw[hm];have e71:=B9 (G:=[.arr 3 ((pre++x::r).map bW.aw) gw 0]++[.arr 3 (l.map bW.aw) g 0,.box (dN n o1 o2 (.arr 0 (pre++x::r).length gw) 0),.box bU]) (id:=1) (g:=g) (s:=0) (v:=x.v) (l:=l) h (by omega) rfl;rw[hf]at e71;obtain⟨g1,tl,e98⟩:=JO (G:=[.arr 3 ((pre++x::r).map bW.aw) gw 0]++[.arr 3 (l.map bW.aw) g l.length,.box (dN n o1 o2 (.arr 0 (pre++x::r).length gw) 0),.box bU]) (id:=1) (g:=g) (s:=l.length) (l:=l) (x:=x) h (by omega) rfl;obtain⟨j,g',ih⟩:=FX h hb (Us:=Us) (o1:=o1) (o2:=o2) (gw:=gw) r (pre++[x]) (Vr l x) n g1 hw (by simpa using hl) (by simp at hl2;omega);refine⟨j,g',?_⟩;rw[dA hb];simp only[dN,bU,U0,show dB none=-1 from rfl,pd,aH,aL,aR,av,aJ,aG,bV,zj,WW,fW,bB,ai,bW.aw,bF,bT]at ih e71 e98 ⊢;simp[Vl,aj,hlt,hlt',hg,e71,e98,cR ((pre.length:Int)+1),gc,exp,aQ,UG,ih]
  |some k =>
   obtain⟨hk,hkv,_⟩:=List.findIdx?_eq_some_iff_getElem.1 hf;have hkv:l[k].v=x.v:=by simpa using hkv
   have hgd:l.getD k default=l[k]:=by rw[List.getD_eq_getElem?_getD,gG hk];rfl
   have hmg:Uw Us n l (x::r)=if (n.bK (dY Us)).2.2=0 then
    Uw Us (((n.bK (dY Us)).1.bx ⟨(n.bK (dY Us)).2.1,1⟩ l[k].p).bx ⟨(n.bK (dY Us)).2.1,2⟩ x.p) (l.set k ⟨l[k].v,⟨(n.bK (dY Us)).2.1,0⟩⟩) r
    else (((n.bK (dY Us)).1.bx ⟨(n.bK (dY Us)).2.1,1⟩ l[k].p).bx ⟨(n.bK (dY Us)).2.1,2⟩ x.p,l.set k ⟨l[k].v,⟨(n.bK (dY Us)).2.1,0⟩⟩,(n.bK (dY Us)).2.2):=by
    rw[Uw];simp only[hf,hgd]
   rw[hmg];have e71:=B9 (G:=[.arr 3 ((pre++x::r).map bW.aw) gw 0]++[.arr 3 (l.map bW.aw) g 0,.box (dN n o1 o2 (.arr 0 (pre++x::r).length gw) 0),.box bU]) (id:=1) (g:=g) (s:=0) (v:=x.v) (l:=l) h (by omega) rfl;rw[hf]at e71;have e50:=λG=>D3 (G:=G) (k:=4) (K:=4) (Us:=Us) h rfl hw (by omega) WS;have hwm:=hw.bK (x:=dY Us) (by simp[dY]) WS;have hcm:=aI.V0 n (dY Us);have hsh:(⟨4,Us,0,[],[],[]⟩:Up)=dY Us:=rfl;rw[hsh]at e50;generalize hR:n.bK (dY Us)=R at *;obtain⟨m,f,err⟩:=R;dsimp only at hwm hcm ⊢;have e38:=λG=>t38 (G:=G) (p:=⟨f,1⟩) (q:=l[k].p) h hwm.nh;have hcl:=aI.dq m ⟨f,1⟩ l[k].p;have hw1:=hwm.bx ⟨f,1⟩ l[k].p;generalize hm1:m.bx ⟨f,1⟩ l[k].p=m1 at *;have e38':=λG=>t38 (G:=G) (p:=⟨f,2⟩) (q:=x.p) h hw1.nh;have hcl':=aI.dq m1 ⟨f,2⟩ x.p;have hw2:=hw1.bx ⟨f,2⟩ x.p;generalize hm2:m1.bx ⟨f,2⟩ x.p=m2 at *;rw[hcm]at hcl;rw[hcl]at hcl';simp only[hcm,hcl,hcl']at e38 e38';have hgl:(List.map bW.aw l)[k]?=some [iv l[k].v,iv l[k].p.aD,iv l[k].p.aT]:=by rw[List.getElem?_map,gG hk];rfl
   have hgl':∀hh:k<(List.map bW.aw l).length,(List.map bW.aw l)[k]=[iv l[k].v,iv l[k].p.aD,iv l[k].p.aT]:=λhh=>by rw[gK];rfl
   have r1:bZ l.length 24=true:=by simp[bZ];omega
   have ok1:=fA A0 l;have t1:List.take l.length (List.map bW.aw l)=List.map bW.aw l:=aF (by simp);have hset:(List.map bW.aw l).set k [iv l[k].v,iv f,iv 0]=List.map bW.aw (l.set k ⟨l[k].v,⟨f,0⟩⟩):=by rw[cz];rfl
   have hk2:(k:Int)<l.length:=by omega
   have hk3:¬ (k:Int)<0:=by omega
   by_cases he:err=0
   ·subst he;obtain⟨j,g',ih⟩:=FX h hb (Us:=Us) (o1:=o1) (o2:=o2) (gw:=gw) r (pre++[x]) (l.set k ⟨l[k].v,⟨f,0⟩⟩) m2 1 hw2 (by simpa using hl) (by simp at hl2 ⊢;omega);refine⟨j,g',?_⟩;rw[dA hb,ah rfl];simp only[fv,dN,bU,U0,hcl',dB,pd,aH,aL,aR,av,aJ,cK,aG,bV,zj,WW,fW,bB,ai,bW.aw,bF,bT,cz]at ih e71 e50 e38 e38' ⊢;simp[Vl,aj,hlt,hlt',hg,e71,e50,e38,e38',hcl',t39 h,Yq h,KF h,eu,gC,eU,h.ro,hk,hk2,hk3,hgl,hgl',qh,Uu.Uv,cX,ok1,r1,t1,cO,ee,Vy,hcl,hcm,cR ((pre.length:Int)+1),gc,exp,aQ,UG,ih]
    done
   ·refine⟨pre.length+1,1,?_⟩;rw[dA hb,aa he];have he':¬ (err:Int)=0:=by omega
    simp only[fv,dN,bU,U0,hcl',dB,pd,aH,aL,aR,av,aJ,cK,aG,bV,zj,WW,fW,bB,ai,bW.aw,bF,bT,cz]at e71 e50 e38 e38' ⊢;simp[Vl,aj,hlt,hlt',hg,e71,e50,e38,e38',hcl',t39 h,Yq h,KF h,eu,gC,eU,h.ro,hk,hk2,hk3,hgl,hgl',qh,Uu.Uv,cX,ok1,r1,t1,cO,ee,Vy,hcl,hcm,cR ((pre.length:Int)+1),gc,exp,aQ,UG];rw[dA hb];rcases U1 r.length with h0|h0
    ·simp[Vl,aj,he,he',h0]
    ·have h0':(1:Int)<r.length+1:=by omega
     simp[Vl,aj,he,he',h0,h0']
theorem C2 (h:bY pg){body:aU}(hb:body=Vl){Us:Nat}{o1 o2:Int}{gw:Nat}{xa xc xd:Nat}{xb:List (List PV)}:∀(rest pre l:List bW) (n:aI) (g:Nat),WI n->(pre++rest).length<2 ^ 18->l.length+rest.length<2 ^ 18 ->
  ∃(j:Int) (g':Nat),L pg 2 [1,2,3,6,7] body [(1,.arr 2 l.length g),(2,.p (.i .i64 Us)),(3,.ptr 3 0),(6,.ptr 4 0),(7,.p (.i .i64 pre.length))] ([.arr 3 ((pre++rest).map bW.aw) gw 0,.arr xa xb xc xd]++[.arr 3 (l.map bW.aw) g 0,.box (dN n o1 o2 (.arr 0 (pre++rest).length gw) 0),.box bU]) =
   some (.exit 0,[(1,.arr 2 (Uw Us n l rest).2.1.length g'),(2,.p (.i .i64 Us)),(3,.ptr 3 0),(6,.ptr 4 0),(7,.p (.i .i64 j)),(21,.p (.b false))],[.arr 3 ((pre++rest).map bW.aw) gw 0,.arr xa xb xc xd]++[.arr 3 ((Uw Us n l rest).2.1.map bW.aw) g' 0,.box (dN (Uw Us n l rest).1 o1 o2 (.arr 0 (pre++rest).length gw) (Uw Us n l rest).2.2),.box bU])
 |[],pre,l,n,g,hw,hl,hl2=>by
  refine⟨pre.length,g,?_⟩;rw[dA hb];simp[Vl,aj,Uw,dN,bU]
 |x::r,pre,l,n,g,hw,hl,hl2=>by
  have hlp:pre.length<2 ^ 18:=by simp at hl;omega
  have hl0:l.length<2 ^ 18:=by omega
  have hg:∀X:List PV,(List.map bW.aw pre++X::List.map bW.aw r)[pre.length]?=some X:=λX=>by simp
  have hlt:pre.length<(pre++x::r).length:=by simp
  have hlt':(pre.length:Int)<((pre++x::r).length:Nat):=by omega
  simp only[aR,av,bV,WW]at hlt hlt';cases hf:jT l x.v with
  |none =>
   have hm:Uw Us n l (x::r)=Uw Us n (Vr l x) r:=by rw[Uw];simp only[hf]
   have hwl:=nO l x;rw[hm];have e71:=B9 (G:=[.arr 3 ((pre++x::r).map bW.aw) gw 0,.arr xa xb xc xd]++[.arr 3 (l.map bW.aw) g 0,.box (dN n o1 o2 (.arr 0 (pre++x::r).length gw) 0),.box bU]) (id:=2) (g:=g) (s:=0) (v:=x.v) (l:=l) h (by omega) rfl;rw[hf]at e71;obtain⟨g1,tl,e98⟩:=JO (G:=[.arr 3 ((pre++x::r).map bW.aw) gw 0,.arr xa xb xc xd]++[.arr 3 (l.map bW.aw) g l.length,.box (dN n o1 o2 (.arr 0 (pre++x::r).length gw) 0),.box bU]) (id:=2) (g:=g) (s:=l.length) (l:=l) (x:=x) h (by omega) rfl;obtain⟨j,g',ih⟩:=C2 h hb (Us:=Us) (o1:=o1) (o2:=o2) (gw:=gw) (xa:=xa) (xb:=xb) (xc:=xc) (xd:=xd) r (pre++[x]) (Vr l x) n g1 hw (by simpa using hl) (by simp at hl2;omega);refine⟨j,g',?_⟩;rw[dA hb];simp only[dN,bU,U0,show dB none=-1 from rfl,pd,aH,aL,aR,av,aJ,aG,bV,zj,WW,fW,bB,ai,bW.aw,bF,bT]at ih e71 e98 ⊢;simp[Vl,aj,hlt,hlt',hg,e71,e98,cR ((pre.length:Int)+1),gc,exp,aQ,UG,ih]
  |some k =>
   obtain⟨hk,hkv,_⟩:=List.findIdx?_eq_some_iff_getElem.1 hf;have hkv:l[k].v=x.v:=by simpa using hkv
   have hgd:l.getD k default=l[k]:=by rw[List.getD_eq_getElem?_getD,gG hk];rfl
   have hmg:Uw Us n l (x::r)=if (n.bK (dY Us)).2.2=0 then
    Uw Us (((n.bK (dY Us)).1.bx ⟨(n.bK (dY Us)).2.1,1⟩ l[k].p).bx ⟨(n.bK (dY Us)).2.1,2⟩ x.p) (l.set k ⟨l[k].v,⟨(n.bK (dY Us)).2.1,0⟩⟩) r
    else (((n.bK (dY Us)).1.bx ⟨(n.bK (dY Us)).2.1,1⟩ l[k].p).bx ⟨(n.bK (dY Us)).2.1,2⟩ x.p,l.set k ⟨l[k].v,⟨(n.bK (dY Us)).2.1,0⟩⟩,(n.bK (dY Us)).2.2):=by
    rw[Uw];simp only[hf,hgd]
   rw[hmg];have e71:=B9 (G:=[.arr 3 ((pre++x::r).map bW.aw) gw 0,.arr xa xb xc xd]++[.arr 3 (l.map bW.aw) g 0,.box (dN n o1 o2 (.arr 0 (pre++x::r).length gw) 0),.box bU]) (id:=2) (g:=g) (s:=0) (v:=x.v) (l:=l) h (by omega) rfl;rw[hf]at e71;have e50:=λG=>D3 (G:=G) (k:=4) (K:=4) (Us:=Us) h rfl hw (by omega) WS;have hwm:=hw.bK (x:=dY Us) (by simp[dY]) WS;have hcm:=aI.V0 n (dY Us);have hsh:(⟨4,Us,0,[],[],[]⟩:Up)=dY Us:=rfl;rw[hsh]at e50;generalize hR:n.bK (dY Us)=R at *;obtain⟨m,f,err⟩:=R;dsimp only at hwm hcm ⊢;have e38:=λG=>t38 (G:=G) (p:=⟨f,1⟩) (q:=l[k].p) h hwm.nh;have hcl:=aI.dq m ⟨f,1⟩ l[k].p;have hw1:=hwm.bx ⟨f,1⟩ l[k].p;generalize hm1:m.bx ⟨f,1⟩ l[k].p=m1 at *;have e38':=λG=>t38 (G:=G) (p:=⟨f,2⟩) (q:=x.p) h hw1.nh;have hcl':=aI.dq m1 ⟨f,2⟩ x.p;have hw2:=hw1.bx ⟨f,2⟩ x.p;generalize hm2:m1.bx ⟨f,2⟩ x.p=m2 at *;rw[hcm]at hcl;rw[hcl]at hcl';simp only[hcm,hcl,hcl']at e38 e38';have hgl:(List.map bW.aw l)[k]?=some [iv l[k].v,iv l[k].p.aD,iv l[k].p.aT]:=by rw[List.getElem?_map,gG hk];rfl
   have hgl':∀hh:k<(List.map bW.aw l).length,(List.map bW.aw l)[k]=[iv l[k].v,iv l[k].p.aD,iv l[k].p.aT]:=λhh=>by rw[gK];rfl
   have r1:bZ l.length 24=true:=by simp[bZ];omega
   have ok1:=fA A0 l;have t1:List.take l.length (List.map bW.aw l)=List.map bW.aw l:=aF (by simp);have hset:(List.map bW.aw l).set k [iv l[k].v,iv f,iv 0]=List.map bW.aw (l.set k ⟨l[k].v,⟨f,0⟩⟩):=by rw[cz];rfl
   have hk2:(k:Int)<l.length:=by omega
   have hk3:¬ (k:Int)<0:=by omega
   by_cases he:err=0
   ·subst he;obtain⟨j,g',ih⟩:=C2 h hb (Us:=Us) (o1:=o1) (o2:=o2) (gw:=gw) (xa:=xa) (xb:=xb) (xc:=xc) (xd:=xd) r (pre++[x]) (l.set k ⟨l[k].v,⟨f,0⟩⟩) m2 1 hw2 (by simpa using hl) (by simp at hl2 ⊢;omega);refine⟨j,g',?_⟩;rw[dA hb,ah rfl];simp only[fv,dN,bU,U0,hcl',dB,pd,aH,aL,aR,av,aJ,cK,aG,bV,zj,WW,fW,bB,ai,bW.aw,bF,bT,cz]at ih e71 e50 e38 e38' ⊢;simp[Vl,aj,hlt,hlt',hg,e71,e50,e38,e38',hcl',t39 h,Yq h,KF h,eu,gC,eU,h.ro,hk,hk2,hk3,hgl,hgl',qh,Uu.Uv,cX,ok1,r1,t1,cO,ee,Vy,hcl,hcm,cR ((pre.length:Int)+1),gc,exp,aQ,UG,ih]
    done
   ·refine⟨pre.length+1,1,?_⟩;rw[dA hb,aa he];have he':¬ (err:Int)=0:=by omega
    simp only[fv,dN,bU,U0,hcl',dB,pd,aH,aL,aR,av,aJ,cK,aG,bV,zj,WW,fW,bB,ai,bW.aw,bF,bT,cz]at e71 e50 e38 e38' ⊢;simp[Vl,aj,hlt,hlt',hg,e71,e50,e38,e38',hcl',t39 h,Yq h,KF h,eu,gC,eU,h.ro,hk,hk2,hk3,hgl,hgl',qh,Uu.Uv,cX,ok1,r1,t1,cO,ee,Vy,hcl,hcm,cR ((pre.length:Int)+1),gc,exp,aQ,UG];rw[dA hb];rcases U1 r.length with h0|h0
    ·simp[Vl,aj,he,he',h0]
    ·have h0':(1:Int)<r.length+1:=by omega
     simp[Vl,aj,he,he',h0,h0']
theorem f73 (h:bY pg){body:aU}(hb:body=Vl){Us:Nat}{o1 o2:Int}{gw:Nat}(x:bW)(r pre l:List bW)(n:aI)(g:Nat)(hw:WI n)(hl:(pre++x::r).length<2 ^ 18)(hl2:l.length+(x::r).length<2 ^ 18) :
  ∃(j:Int) (g':Nat),L pg 2 [1,2,3,6,7] body [(1,.arr 1 l.length g),(2,.p (.i .i64 Us)),(3,.ptr 2 0),(6,.ptr 3 0),(7,.p (.i .i64 pre.length))] [.arr 3 ((pre++x::r).map bW.aw) gw 0,.arr 3 (l.map bW.aw) g 0,.box (dN n o1 o2 (.arr 0 (pre++x::r).length gw) 0),.box bU] =
   some (.exit 0,[(1,.arr 2 (Uw Us n l (x::r)).2.1.length g'),(2,.p (.i .i64 Us)),(3,.ptr 3 0),(6,.ptr 4 0),(7,.p (.i .i64 j)),(21,.p (.b false))],[.arr 3 ((pre++x::r).map bW.aw) gw 0,.arr 3 (l.map bW.aw) g l.length,.arr 3 ((Uw Us n l (x::r)).2.1.map bW.aw) g' 0,.box (dN (Uw Us n l (x::r)).1 o1 o2 (.arr 0 (pre++x::r).length gw) (Uw Us n l (x::r)).2.2),.box bU]):=by
 have hlp:pre.length<2 ^ 18:=by simp at hl;omega
 have hl0:l.length<2 ^ 18:=by omega
 have hg:∀X:List PV,(List.map bW.aw pre++X::List.map bW.aw r)[pre.length]?=some X:=λX=>by simp
 have hlt:pre.length<(pre++x::r).length:=by simp
 have hlt':(pre.length:Int)<((pre++x::r).length:Nat):=by omega
 simp only[aR,av,bV,WW]at hlt hlt';cases hf:jT l x.v with
 |none =>
  have hm:Uw Us n l (x::r)=Uw Us n (Vr l x) r:=by rw[Uw];simp only[hf]
  have hwl:=nO l x;rw[hm];have e71:=B9 (G:=[.arr 3 ((pre++x::r).map bW.aw) gw 0,.arr 3 (l.map bW.aw) g 0,.box (dN n o1 o2 (.arr 0 (pre++x::r).length gw) 0),.box bU]) (id:=1) (g:=g) (s:=0) (v:=x.v) (l:=l) h (by omega) rfl;rw[hf]at e71;obtain⟨g1,tl,e98⟩:=JO (G:=[.arr 3 ((pre++x::r).map bW.aw) gw 0,.arr 3 (l.map bW.aw) g l.length,.box (dN n o1 o2 (.arr 0 (pre++x::r).length gw) 0),.box bU]) (id:=1) (g:=g) (s:=l.length) (l:=l) (x:=x) h (by omega) rfl;obtain⟨j,g',ih⟩:=C2 h hb (Us:=Us) (o1:=o1) (o2:=o2) (gw:=gw) (xa:=3) (xb:=l.map bW.aw) (xc:=g) (xd:=l.length) r (pre++[x]) (Vr l x) n g1 hw (by simpa using hl) (by simp at hl2;omega);refine⟨j,g',?_⟩;rw[dA hb];simp only[dN,bU,U0,show dB none=-1 from rfl,pd,aH,aL,aR,av,aJ,aG,bV,zj,WW,fW,bB,ai,bW.aw,bF,bT]at ih e71 e98 ⊢;simp[Vl,aj,hlt,hlt',hg,e71,e98,cR ((pre.length:Int)+1),gc,exp,aQ,UG,ih]
 |some k =>
  obtain⟨hk,hkv,_⟩:=List.findIdx?_eq_some_iff_getElem.1 hf;have hkv:l[k].v=x.v:=by simpa using hkv
  have hgd:l.getD k default=l[k]:=by rw[List.getD_eq_getElem?_getD,gG hk];rfl
  have hmg:Uw Us n l (x::r)=if (n.bK (dY Us)).2.2=0 then
   Uw Us (((n.bK (dY Us)).1.bx ⟨(n.bK (dY Us)).2.1,1⟩ l[k].p).bx ⟨(n.bK (dY Us)).2.1,2⟩ x.p) (l.set k ⟨l[k].v,⟨(n.bK (dY Us)).2.1,0⟩⟩) r
   else (((n.bK (dY Us)).1.bx ⟨(n.bK (dY Us)).2.1,1⟩ l[k].p).bx ⟨(n.bK (dY Us)).2.1,2⟩ x.p,l.set k ⟨l[k].v,⟨(n.bK (dY Us)).2.1,0⟩⟩,(n.bK (dY Us)).2.2):=by
   rw[Uw];simp only[hf,hgd]
  rw[hmg];have e71:=B9 (G:=[.arr 3 ((pre++x::r).map bW.aw) gw 0,.arr 3 (l.map bW.aw) g 0,.box (dN n o1 o2 (.arr 0 (pre++x::r).length gw) 0),.box bU]) (id:=1) (g:=g) (s:=0) (v:=x.v) (l:=l) h (by omega) rfl;rw[hf]at e71;have e50:=λG=>D3 (G:=G) (k:=4) (K:=4) (Us:=Us) h rfl hw (by omega) WS;have hwm:=hw.bK (x:=dY Us) (by simp[dY]) WS;have hcm:=aI.V0 n (dY Us);have hsh:(⟨4,Us,0,[],[],[]⟩:Up)=dY Us:=rfl;rw[hsh]at e50;generalize hR:n.bK (dY Us)=R at *;obtain⟨m,f,err⟩:=R;dsimp only at hwm hcm ⊢;have e38:=λG=>t38 (G:=G) (p:=⟨f,1⟩) (q:=l[k].p) h hwm.nh;have hcl:=aI.dq m ⟨f,1⟩ l[k].p;have hw1:=hwm.bx ⟨f,1⟩ l[k].p;generalize hm1:m.bx ⟨f,1⟩ l[k].p=m1 at *;have e38':=λG=>t38 (G:=G) (p:=⟨f,2⟩) (q:=x.p) h hw1.nh;have hcl':=aI.dq m1 ⟨f,2⟩ x.p;have hw2:=hw1.bx ⟨f,2⟩ x.p;generalize hm2:m1.bx ⟨f,2⟩ x.p=m2 at *;rw[hcm]at hcl;rw[hcl]at hcl';simp only[hcm,hcl,hcl']at e38 e38';have hgl:(List.map bW.aw l)[k]?=some [iv l[k].v,iv l[k].p.aD,iv l[k].p.aT]:=by rw[List.getElem?_map,gG hk];rfl
  have hgl':∀hh:k<(List.map bW.aw l).length,(List.map bW.aw l)[k]=[iv l[k].v,iv l[k].p.aD,iv l[k].p.aT]:=λhh=>by rw[gK];rfl
  have r1:bZ l.length 24=true:=by simp[bZ];omega
  have ok1:=fA A0 l;have t1:List.take l.length (List.map bW.aw l)=List.map bW.aw l:=aF (by simp);have hset:(List.map bW.aw l).set k [iv l[k].v,iv f,iv 0]=List.map bW.aw (l.set k ⟨l[k].v,⟨f,0⟩⟩):=by rw[cz];rfl
  have hk2:(k:Int)<l.length:=by omega
  have hk3:¬ (k:Int)<0:=by omega
  by_cases he:err=0
  ·subst he;obtain⟨j,g',ih⟩:=C2 h hb (Us:=Us) (o1:=o1) (o2:=o2) (gw:=gw) (xa:=3) (xb:=l.map bW.aw) (xc:=g) (xd:=l.length) r (pre++[x]) (l.set k ⟨l[k].v,⟨f,0⟩⟩) m2 1 hw2 (by simpa using hl) (by simp at hl2 ⊢;omega);refine⟨j,g',?_⟩;rw[dA hb,ah rfl];simp only[fv,dN,bU,U0,hcl',dB,pd,aH,aL,aR,av,aJ,cK,aG,bV,zj,WW,fW,bB,ai,bW.aw,bF,bT,cz]at ih e71 e50 e38 e38' ⊢;simp[Vl,aj,hlt,hlt',hg,e71,e50,e38,e38',hcl',t39 h,Yq h,KF h,eu,gC,eU,h.ro,hk,hk2,hk3,hgl,hgl',qh,Uu.Uv,cX,ok1,r1,t1,cO,ee,Vy,hcl,hcm,cR ((pre.length:Int)+1),gc,exp,aQ,UG,ih]
   done
  ·refine⟨pre.length+1,1,?_⟩;rw[dA hb,aa he];have he':¬ (err:Int)=0:=by omega
   simp only[fv,dN,bU,U0,hcl',dB,pd,aH,aL,aR,av,aJ,cK,aG,bV,zj,WW,fW,bB,ai,bW.aw,bF,bT,cz]at e71 e50 e38 e38' ⊢;simp[Vl,aj,hlt,hlt',hg,e71,e50,e38,e38',hcl',t39 h,Yq h,KF h,eu,gC,eU,h.ro,hk,hk2,hk3,hgl,hgl',qh,Uu.Uv,cX,ok1,r1,t1,cO,ee,Vy,hcl,hcm,cR ((pre.length:Int)+1),gc,exp,aQ,UG];rw[dA hb];rcases U1 r.length with h0|h0
   ·simp[Vl,aj,he,he',h0]
   ·have h0':(1:Int)<r.length+1:=by omega
    simp[Vl,aj,he,he',h0,h0']
theorem P3 (h:bY pg){body:aU}(hb:body=Vl){Us:Nat}{o1 o2:Int}{gw:Nat}(x:bW)(r:List bW)(n:aI)(hw:WI n)(hl:(x::r).length<2 ^ 17) :
  ∃(j:Int) (g':Nat),L pg 1 [1,2,3,6,7] body [(1,.aC),(2,.p (.i .i64 Us)),(3,.ptr 1 0),(6,.ptr 2 0),(7,.p (.i .i64 0))] [.arr 3 ((x::r).map bW.aw) gw 0,.box (dN n o1 o2 (.arr 0 (x::r).length gw) 0),.box bU] =
   some (.exit 0,[(1,.arr 1 (Uw Us n [] (x::r)).2.1.length g'),(2,.p (.i .i64 Us)),(3,.ptr 2 0),(6,.ptr 3 0),(7,.p (.i .i64 j)),(21,.p (.b false))],[.arr 3 ((x::r).map bW.aw) gw 0,.arr 3 ((Uw Us n [] (x::r)).2.1.map bW.aw) g' 0,.box (dN (Uw Us n [] (x::r)).1 o1 o2 (.arr 0 (x::r).length gw) (Uw Us n [] (x::r)).2.2),.box bU]):=by
 have hm:Uw Us n [] (x::r)=Uw Us n [x] r:=by rw[Uw];rfl
 rw[hm];obtain⟨g1,tl,e98⟩:=Oo (G:=[.arr 3 ((x::r).map bW.aw) gw 0,.box (dN n o1 o2 (.arr 0 (x::r).length gw) 0),.box bU]) (x:=x) h;obtain⟨j,g',ih⟩:=FX h hb (Us:=Us) (o1:=o1) (o2:=o2) (gw:=gw) r [x] [x] n g1 hw (by simp at hl ⊢;omega) (by simp at hl ⊢;omega);refine⟨j,g',?_⟩;rw[dA hb];have hlt:(0:Int)<(r.length:Int)+1:=by omega
 simp only[dN,bU,U0,pd,aH,aL,aR,av,aJ,aG,bV,WW,fW,bB,ai,au,bW.aw]at ih e98 ⊢;simp[Vl,aj,hlt,Y0 h,e98,cR 1,gc,exp,aQ,UG,ih]
end
end Go.Proofs.Z
