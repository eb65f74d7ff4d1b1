/- A part of the proof. -/
import Derived.Test.YtffohgbmjjbhiaaGreatB16
set_option linter.all false
namespace Go.Proofs.Z
section
variable {pg:fX}{G:Heap}
theorem wh (x:bW)(P:Nat->Prop)(hx:P x.v):∀(b:Bool) (r:List bW),(∀e∈r,P e.v)->∀e∈(dy x b r).1,P e.v
 |b,[],h,e,he=>by simp[dy]at he
 |true,y::r,h,e,he=>by rw[fK]at he;exact h e he
 |false,y::r,h,e,he=>by
  simp only[dy]at he;split at he
  ·rw[fK]at he;simp only[aA]at he;rcases he with rfl|rfl|he
   ·exact hx
   ·exact h _ (by simp)
   ·exact h e (by simp[he])
  ·simp only[aA]at he;rcases he with rfl|he
   ·exact h _ (by simp)
   ·exact wh x P hx false r (λe he=>h e (by simp[he])) e he
theorem Hy (x:bW)(P:Nat->Prop)(hx:P x.v)(l:List bW)(h:∀e∈l,P e.v):∀e∈Vr l x,P e.v:=by
 intro e he;unfold Vr at he;split at he
 ·exact wh x P hx false l h e he
 ·rcases Uz.1 he with he|he
  ·exact wh x P hx false l h e he
  ·simp only[aA,UA,dU]at he;rw[he];exact hx
theorem qa {Us:Nat}(P:Nat->Prop):∀(r:List bW) (n:aI) (l:List bW),(∀e∈r,P e.v)->(∀e∈l,P e.v)->∀e∈(Uw Us n l r).2.1,P e.v
 |[],n,l,hr,hl=>hl
 |x::r,n,l,hr,hl=>by
  have hset:∀k f,jT l x.v=some k->∀e∈l.set k ⟨(l.getD k default).v,f⟩,P e.v:=by
   intro k f hf e he;obtain⟨hk,_,_⟩:=List.findIdx?_eq_some_iff_getElem.1 hf;have hgd:l.getD k default=l[k]:=by rw[List.getD_eq_getElem?_getD,gG hk];rfl
   rcases fw he with he|rfl
   ·exact hl e he
   ·rw[hgd];exact hl l[k] (bM hk)
  unfold Uw;cases hf:jT l x.v with
  |none=>exact qa P r n _ (λe he=>hr e (by simp[he])) (Hy x P (hr x (by simp)) l hl)
  |some k =>
   dsimp only;split
   ·exact qa P r _ _ (λe he=>hr e (by simp[he])) (hset k _ hf)
   ·exact hset k _ hf
def eO (pg:fX)(tk tn:Int)(ts:List UInt8)(ay:List (List PV))(Us:Nat):Nat->List (aI->W)->List Nat->List Nat->Prop
 |i,f::r,s::ss,c::cs=>(∀n,WI n->fB pg 72 [.ag [.p (.sl (n.ae.map Up.aw)),.p (.i .i64 n.aV)],.ag [.p (.i .i64 tk),.p (.i .i64 tn),.p (.s ts),.p (.sl ay)],.p (.i .i64 i),.p (.i .i64 Us)] (f n))/\(∀n,WI n->jd c (f n))/\s=(if i=0/\tk≠4 then 0 else i+1)/\eO pg tk tn ts ay Us (i+1) r ss cs
 |i,[],[],[]=>i=ay.length
 |_,_,_,_=>False
theorem tU {Us c d:Nat}{n:aI}{out:aq}{l l2:List bW}(hn:WI n)(hl:l.length<=c/\∀e∈l,e.v<2 ^ 40)(hl2:l2.length<=d/\∀e∈l2,e.v<2 ^ 40):jd (d+c) (U5 Us ⟨n,out,l,0⟩ l2):=by
 intro _;refine⟨rm _ hn,?_,qa (λv=>v<2 ^ 40) _ _ _ hl.2 hl2.2⟩;have:=pO (Us:=Us) l n l2
 show(Uw Us n l2 l).2.1.length<=d+c
 omega
theorem pP {tk tn:Int}{ts:List UInt8}{ay:List (List PV)}{Us m:Nat}:∀(fs:List (aI->W)) (ss cs:List Nat) (i:Nat) (n:aI) (l:List bW) (d:Nat),eO pg tk tn ts ay Us i fs ss cs->WI n->l.length<=d->(∀e∈l,e.v<2 ^ 40)->jd (d+cs.sum) (dg Us m fs ss n l)
 |[],[],[],i,n,l,d,h,hn,hl,hv=>λ_=>⟨hn,by simpa [dg] using hl,hv⟩
 |f::r,s::ss,c::cs,i,n,l,d,h,hn,hl,hv=>by
  obtain⟨h1,h2,h3,h4⟩:=h;unfold dg;by_cases he:(f n).e=0
  ·rw[ah he];obtain⟨g1,g2,g3⟩:=h2 n hn he;have hg:=tU (Us:=Us) (out:=(f n).out) (g1.bx (f n).out ⟨m,s⟩) ⟨g2,g3⟩ ⟨hl,hv⟩;by_cases hm:(U5 Us ⟨(f n).n.bx (f n).out ⟨m,s⟩,(f n).out,(f n).l,0⟩ l).e=0
   ·rw[ah hm];obtain⟨k1,k2,k3⟩:=hg hm;have:=pP (m:=m) r ss cs (i+1) _ _ (d+c) h4 k1 k2 k3;rw[dK,<- eI];exact this
   ·rw[aa hm];exact λhb=>absurd hb hm
  ·rw[aa he];exact λhb=>absurd hb he
 |[],_::_,_,i,n,l,d,h,_,_,_=>by simp[eO]at h
 |[],[],_::_,i,n,l,d,h,_,_,_=>by simp[eO]at h
 |_::_,[],_,i,n,l,d,h,_,_,_=>by simp[eO]at h
 |_::_,_::_,[],i,n,l,d,h,_,_,_=>by simp[eO]at h
def zk (tk tn:Int)(ts:List UInt8)(ay:List (List PV))(xr:List PV)(n:aI)(o1 o2:Int)(L:AV)(e:Int):Heap :=
 [.box [.p (.i .i64 tk),.p (.i .i64 tn),.p (.s ts),.p (.sl ay)],.box (bP xr),.box bU,.box (dN n o1 o2 L e)]
set_option maxHeartbeats 0 in
theorem OY (h:bY pg){body:aU}(hb:body=rV){tk tn:Int}{ts:List UInt8}{ay:List (List PV)}{Us m:Nat}{xk xn:Int}{xs:List UInt8}{xa xt:List (List PV)}(hrows:ay.length<2 ^ 17) :
  ∀(fs:List (aI->W)) (ss cs:List Nat) (i:Nat) (n:aI) (l:List bW) (o1 o2:Int) (Lv:AV) (O:Heap),eO pg tk tn ts ay Us i fs ss cs->WI n->i+fs.length=ay.length->l.length+cs.sum<2 ^ 17->(∀e∈l,e.v<2 ^ 40)->EV 4 Lv O l ->
   (O=[]\/∃rr g,O=[.arr 3 rr g 0]) ->
   if (dg Us m fs ss n l).e=0 then ∃Lv' O' o1' o2',L pg 0 [4,5,6,7,9,10] body [(4,.ptr 0 0),(5,.ptr 1 0),(6,.ptr 2 0),(7,.p (.i .i64 m)),(9,.ptr 3 0),(10,.p (.i .i64 i))] (zk tk tn ts ay [iv xk,iv Us,iv xn,.s xs,.sl xa,.sl xt] n o1 o2 Lv 0++O) =
     some (.exit 0,[(4,.ptr 0 0),(5,.ptr 1 0),(6,.ptr 2 0),(7,.p (.i .i64 m)),(9,.ptr 3 0),(10,.p (.i .i64 ay.length)),(30,.p (.b false))],zk tk tn ts ay [iv xk,iv Us,iv xn,.s xs,.sl xa,.sl xt] (dg Us m fs ss n l).n o1' o2' Lv' 0++O')/\EV 4 Lv' O' (dg Us m fs ss n l).l
   else ∃b0 b1 T,L pg 0 [4,5,6,7,9,10] body [(4,.ptr 0 0),(5,.ptr 1 0),(6,.ptr 2 0),(7,.p (.i .i64 m)),(9,.ptr 3 0),(10,.p (.i .i64 i))] (zk tk tn ts ay [iv xk,iv Us,iv xn,.s xs,.sl xa,.sl xt] n o1 o2 Lv 0++O) =
     some (.ret,[(6,.ptr 2 0)],b0::b1::.box (cB (dg Us m fs ss n l).e)::T)
 |[],[],[],i,n,l,o1,o2,Lv,O,hp,hn,hi,hl,hv,hE,hO=>by
  have:i=ay.length:=by simpa using hi
  subst this;have e0:dg Us m [] [] n l=⟨n,⟨0,0⟩,l,0⟩:=by simp[dg]
  rw[e0,ah rfl];refine⟨Lv,O,o1,o2,?_,hE⟩;rw[dA hb];simp[rV,aj,zk,bP,dN]
 |f::r,s::ss,c::cs,i,n,l,o1,o2,Lv,O,hp,hn,hi,hl,hv,hE,hO=>by
  obtain⟨p1,p2,p3,p4⟩:=hp;have hlt:i<ay.length:=by simp at hi;omega
  have hlt':(i:Int)<ay.length:=by omega
  obtain⟨v,Ov,hc,hvv⟩:=p1 n hn;have hgf:=p2 n hn;obtain⟨v1,O2,h1,h2⟩:=we (pg:=pg) (G:=zk tk tn ts ay [iv xk,iv Us,iv xn,.s xs,.sl xa,.sl xt] n o1 o2 Lv 0++O) hc hvv rfl;simp only[dK]at hl;have hpw:dg Us m (f::r) (s::ss) n l=if (f n).e=0 then
   (if (U5 Us ⟨(f n).n.bx (f n).out ⟨m,s⟩,(f n).out,(f n).l,0⟩ l).e=0 then
    dg Us m r ss (U5 Us ⟨(f n).n.bx (f n).out ⟨m,s⟩,(f n).out,(f n).l,0⟩ l).n (U5 Us ⟨(f n).n.bx (f n).out ⟨m,s⟩,(f n).out,(f n).l,0⟩ l).l
   else pN (U5 Us ⟨(f n).n.bx (f n).out ⟨m,s⟩,(f n).out,(f n).l,0⟩ l).e)
   else pN (f n).e:=rfl
  rw[hpw];generalize f n=y at *;obtain⟨a,x,z1,z2,Ly,ly,rfl,q1,q2,q3⟩:=h2;by_cases hy:y.e=0
  ·obtain⟨rfl,rfl,rfl,rfl,rfl⟩:=q3 hy;obtain⟨g1,g2,g3⟩:=hgf hy;rw[ah hy];have e38:=λG=>t38 (G:=G) (p:=y.out) (q:=⟨m,s⟩) h g1.nh;have hcl:=aI.dq y.n y.out ⟨m,s⟩;have hw1:=g1.bx y.out ⟨m,s⟩;simp only[hcl]at e38;generalize hn1:y.n.bx y.out ⟨m,s⟩=n1 at *;have hgm:=tU (Us:=Us) (out:=y.out) hw1 ⟨g2,g3⟩ ⟨aB l.length,hv⟩;have hWV:WV (zk tk tn ts ay [iv xk,iv Us,iv xn,.s xs,.sl xa,.sl xt] n o1 o2 Lv 0++O).length ⟨n1,y.out,y.l,0⟩ (dN n1 y.out.aD y.out.aT Ly 0) (O2++[.box (dN n1 y.out.aD y.out.aT Ly 0)]):=by
    refine⟨_,_,_,_,_,y.l,rfl,.inr ⟨_,rfl⟩,?_,λ_=>⟨rfl,rfl,rfl,rfl,rfl⟩⟩;rcases q2 with ⟨rfl,hl0⟩|⟨k,g,rfl,hk⟩
    ·exact .inl ⟨rfl,hl0⟩
    ·exact .inr ⟨k,g,rfl,by rw[List.getElem?_append_left (gE hk).1,hk]⟩
   obtain⟨v2,O3,h3,h4⟩:=t73 h (Us:=Us) hWV (B:=zk tk tn ts ay [iv xk,iv Us,iv xn,.s xs,.sl xa,.sl xt] n o1 o2 Lv 0) hE rfl hw1 (by show y.l.length<_;omega) (by omega);obtain⟨a3,x3,y3,z3,L3,l3,rfl,r1,r2,r3⟩:=h4;generalize hM:U5 Us ⟨n1,y.out,y.l,0⟩ l=M at *;have hy0:(y.e:Int)=0:=by omega
   by_cases hm:M.e=0
   ·rw[ah hm];obtain⟨rfl,rfl,rfl,rfl,rfl⟩:=r3 hm;obtain⟨m1,m2,m3⟩:=hgm hm;have key:∀(L4:AV) (O4:Heap),EV 4 L4 O4 M.l->(O4=[]\/∃rr g,O4=[.arr 3 rr g 0])->L pg 0 [4,5,6,7,9,10] body [(4,.ptr 0 0),(5,.ptr 1 0),(6,.ptr 2 0),(7,.p (.i .i64 m)),(9,.ptr 3 0),(10,.p (.i .i64 i))] (zk tk tn ts ay [iv xk,iv Us,iv xn,.s xs,.sl xa,.sl xt] n o1 o2 Lv 0++O) =
      L pg 0 [4,5,6,7,9,10] body [(4,.ptr 0 0),(5,.ptr 1 0),(6,.ptr 2 0),(7,.p (.i .i64 m)),(9,.ptr 3 0),(10,.p (.i .i64 (i+1:Nat)))] (zk tk tn ts ay [iv xk,iv Us,iv xn,.s xs,.sl xa,.sl xt] M.n M.out.aD M.out.aT L4 0++O4) ->
      if (dg Us m r ss M.n M.l).e=0 then ∃L' O' o1' o2',L pg 0 [4,5,6,7,9,10] body [(4,.ptr 0 0),(5,.ptr 1 0),(6,.ptr 2 0),(7,.p (.i .i64 m)),(9,.ptr 3 0),(10,.p (.i .i64 i))] (zk tk tn ts ay [iv xk,iv Us,iv xn,.s xs,.sl xa,.sl xt] n o1 o2 Lv 0++O) =
       some (.exit 0,[(4,.ptr 0 0),(5,.ptr 1 0),(6,.ptr 2 0),(7,.p (.i .i64 m)),(9,.ptr 3 0),(10,.p (.i .i64 ay.length)),(30,.p (.b false))],zk tk tn ts ay [iv xk,iv Us,iv xn,.s xs,.sl xa,.sl xt] (dg Us m r ss M.n M.l).n o1' o2' L' 0++O')/\EV 4 L' O' (dg Us m r ss M.n M.l).l
      else ∃b0 b1 T,L pg 0 [4,5,6,7,9,10] body [(4,.ptr 0 0),(5,.ptr 1 0),(6,.ptr 2 0),(7,.p (.i .i64 m)),(9,.ptr 3 0),(10,.p (.i .i64 i))] (zk tk tn ts ay [iv xk,iv Us,iv xn,.s xs,.sl xa,.sl xt] n o1 o2 Lv 0++O) =
       some (.ret,[(6,.ptr 2 0)],b0::b1::.box (cB (dg Us m r ss M.n M.l).e)::T):=by
     intro L4 O4 e1 e2 e3;rw[e3];exact OY h hb hrows r ss cs (i+1) M.n M.l _ _ L4 O4 p4 m1 (by simp at hi ⊢;omega) (by omega) m3 e1 e2
    rcases r2 with ⟨rfl,hl0⟩|⟨k3,g3',rfl,hk3⟩
    ·refine key .aC [] (.inl ⟨rfl,hl0⟩) (.inl rfl) ?_;rw[dA hb];rcases gB (i=0) with ci|ci<;>rcases gB (tk=4) with ck|ck
     all_goals
      have hs:(s:Int)=(if (i=0/\¬ tk=4) then 0 else (i:Int)+1):=by rw[p3];split<;>simp
      simp only[ci,ck,gf,gb,VP,nX,VN,nY,if_true,if_false]at hs;rcases hO with rfl|⟨rr,gg,rfl⟩<;>rcases q2 with ⟨rfl,_⟩|⟨k,g,rfl,_⟩
      all_goals
       simp only[zk,bP,dN,bU,iF,cB,hs,hcl,ai,au,aH,aL,UD,pd,av,aJ,aG,bV,WW,fW]at h1 h3 e38 ⊢;simp[rV,aj,hlt,hlt',h1,D4,D5,hy,hy0,e38,hcl,t39 h,Yq h,eu,gC,eU,h3,ci,ck,cR ((i:Int)+1),hm,show(M.e:Int)=0 from by omega,gc,exp,aQ,UG]
    ·refine key (.arr 4 M.l.length g3') [.arr 3 (M.l.map bW.aw) g3' 0] (.inr ⟨0,g3',rfl,rfl⟩) (.inr ⟨_,_,rfl⟩) ?_;obtain⟨q,hq⟩:∃q,O3.length=q+1:=⟨O3.length-1,by have:=(gE hk3).1;omega⟩
     rw[dA hb];rcases gB (i=0) with ci|ci<;>rcases gB (tk=4) with ck|ck
     all_goals
      have hs:(s:Int)=(if (i=0/\¬ tk=4) then 0 else (i:Int)+1):=by rw[p3];split<;>simp
      simp only[ci,ck,gf,gb,VP,nX,VN,nY,if_true,if_false]at hs;rcases hO with rfl|⟨rr,gg,rfl⟩<;>rcases q2 with ⟨rfl,_⟩|⟨k,g,rfl,_⟩
      all_goals
       simp only[zk,bP,dN,bU,iF,cB,hs,hcl,ai,au,aH,aL,UD,pd,av,aJ,aG,bV,WW,fW]at h1 h3 e38 ⊢;simp[rV,aj,hlt,hlt',h1,D4,D5,hy,hy0,e38,hcl,t39 h,Yq h,eu,gC,eU,h3,ci,ck,cR ((i:Int)+1),hm,show(M.e:Int)=0 from by omega,hk3,hq,gc,exp,aQ,UG]
   ·rw[aa hm];rw[aa (show ¬ (pN M.e).e=0 from hm)];have hbe:(pN M.e).e=M.e:=rfl;rw[hbe];have hm':¬ (M.e:Int)=0:=by omega
    refine⟨.box [.p (.i .i64 tk),.p (.i .i64 tn),.p (.s ts),.p (.sl ay)],.box (bP [iv xk,iv Us,iv xn,.s xs,.sl xa,.sl xt]),.box (iF a3 x3 y3 z3 L3 M.e)::(O3++[.box (cB M.e)]),?_⟩;rw[dA hb];rcases r1 with rfl|⟨rr1,rfl⟩<;>rcases r2 with ⟨rfl,_⟩|⟨k3,g3',rfl,_⟩
    all_goals
     rcases gB (i=0) with ci|ci<;>rcases gB (tk=4) with ck|ck
     all_goals
      have hs:(s:Int)=(if (i=0/\¬ tk=4) then 0 else (i:Int)+1):=by rw[p3];split<;>simp
      simp only[ci,ck,gf,gb,VP,nX,VN,nY,if_true,if_false]at hs;rcases hO with rfl|⟨rr,gg,rfl⟩<;>rcases q2 with ⟨rfl,_⟩|⟨k,g,rfl,_⟩
      all_goals
       simp only[zk,bP,dN,bU,iF,cB,hs,hcl,ai,au,aH,aL,UD,pd,av,aJ,aG,bV,WW,fW]at h1 h3 e38 ⊢;simp[rV,aj,hlt,hlt',h1,D4,D5,hy,hy0,e38,hcl,t39 h,Yq h,eu,gC,eU,h3,ci,ck,cR ((i:Int)+1),hm,hm',t70 h,cB]
  ·rw[aa hy];rw[aa (show ¬ (pN y.e).e=0 from hy)];have hy':¬ (y.e:Int)=0:=by omega
   have hbe:(pN y.e).e=y.e:=rfl;rw[hbe];refine⟨.box [.p (.i .i64 tk),.p (.i .i64 tn),.p (.s ts),.p (.sl ay)],.box (bP [iv xk,iv Us,iv xn,.s xs,.sl xa,.sl xt]),.box (dN n o1 o2 Lv 0)::(O++O2++[.box (iF a x z1 z2 Ly y.e),.box (cB y.e)]),?_⟩;rw[dA hb];rcases hO with rfl|⟨rr,gg,rfl⟩
   ·simp only[zk,bP,dN,bU,iF,cB,ai,au,aH,aL,UD,av,aJ,aG]at h1 ⊢;rcases q1 with rfl|⟨r1,rfl⟩<;>rcases q2 with ⟨rfl,_⟩|⟨k,g,rfl,_⟩<;>simp[rV,aj,hlt,hlt',h1,D4,D5,hy,hy',t70 h,cB]
   ·simp only[zk,bP,dN,bU,iF,cB,ai,au,aH,aL,UD,av,aJ,aG]at h1 ⊢;rcases q1 with rfl|⟨r1,rfl⟩<;>rcases q2 with ⟨rfl,_⟩|⟨k,g,rfl,_⟩<;>simp[rV,aj,hlt,hlt',h1,D4,D5,hy,hy',t70 h,cB]
 |[],_::_,_,i,n,l,o1,o2,Lv,O,h,_,_,_,_,_,_=>by simp[eO]at h
 |[],[],_::_,i,n,l,o1,o2,Lv,O,h,_,_,_,_,_,_=>by simp[eO]at h
 |_::_,[],_,i,n,l,o1,o2,Lv,O,h,_,_,_,_,_,_=>by simp[eO]at h
 |_::_,_::_,[],i,n,l,o1,o2,Lv,O,h,_,_,_,_,_,_=>by simp[eO]at h
end
end Go.Proofs.Z
