/- A part of the proof. -/
import Derived.Test.YtffohgbmjjbhiaaGreatB12
import Derived.Test.YtffohgbmjjbhiaaGreatB08
import Derived.Test.YtffohgbmjjbhiaaGreatB05
import Derived.Test.YtffohgbmjjbhiaaGreatB06
import Derived.Lib.SliceRun
import Derived.Recover
import Derived.KernelRfl
set_option linter.all false
namespace Go.Proofs.Z
section
variable {pg:fX}{G:Heap}
theorem xP {step:VZ}{n:aI}{p:aq}{i:Nat}(h:n.pr p=⟨i,0⟩)(l:Nat):dc step l n p=(n,[],i,0):=by
 have hn:=re (n:=n) (p:=p) (by rw[h]);rw[h]at hn;cases l<;>simp[dc,hn]
theorem tS {step:VZ}{F f i:Nat}{s:RS}:∀(l:List aO) (k:Nat),(∀(j:Nat) (t:aO),l[j]?=some t->fF step F true f s ⟨i,k+j⟩=(s,0,t))->gA true (fF step F true f) i l.length k s=(s,0,l)
 |[],k,h=>rfl
 |a::r,k,h=>by
  have h0:=h 0 a rfl;have ih:=tS (step:=step) (F:=F) (f:=f) (i:=i) (s:=s) r (k+1) (λj t hj=>by
   have:=h (j+1) t hj;rw[show k+1+j=k+(j+1) from by omega];exact this)
  simp only[av,gA];rw[show k+0=k from rfl]at h0;rw[h0];simp[ih]
theorem Rd.again {step:VZ}{F:Nat}{s:RS}(ho:s.cS.Ok){p:aq}{t:aO}(h:Rd s.cS p t):∀{path:List Nat} {f:Nat},eV s.cS path p->4000<path.length+f->fF step F true f s p=(s,0,t):=by
 have key:∀{p:aq} {i f:Nat},s.cS.pr p=⟨i,0⟩->fF step F true (f+1) s p=shapeOf true (fF step F true f) s i:=by
  intro p i f hp;simp only[fF];rw[xP hp];rw[aa (by simp)];rfl
 induction h with
 |int h1 h2 h3 =>
  intro path f hs hl;cases f with
  |zero=>have:=hs.short ho;omega
  |succ f=>rw[key h1];unfold shapeOf;rw[h2];dsimp only;rw[ah h3]
 |lam h1 h2 h3 =>
  intro path f hs hl;cases f with
  |zero=>have:=hs.short ho;omega
  |succ f=>rw[key h1];unfold shapeOf;rw[h2];dsimp only;rw[aa (by omega),ah h3]
 |fail h1 h2 h3 =>
  intro path f hs hl;cases f with
  |zero=>have:=hs.short ho;omega
  |succ f=>rw[key h1];unfold shapeOf;rw[h2];dsimp only;rw[aa (by omega),aa (by omega),ah h3]
 |UW h1 h2 h3 h4 h5 ih =>
  intro path f hs hl;cases f with
  |zero=>have:=hs.short ho;omega
  |succ f =>
   rw[key h1];unfold shapeOf;rw[h2];dsimp only;rw[aa (by omega),aa (by omega),aa (by omega),ah h3,<- h4];have hp:=tS (step:=step) (F:=F) (f:=f) (i:=_) (s:=s) _ 1 (λj t hj=>by
    rw[show 1+j=j+1 from by omega];exact ih j t hj (.UW hs h1 h2 h3 (by omega) (by have:=(gE hj).1;omega)) (by simp only[av];omega))
   rw[hp];simp
mutual
def aO.rf:aO->Bool
 |.mk k _ _ l=>aO.Xi l || decide (k=5)
def aO.Xi:List aO->Bool
 |[]=>false
 |a::r=>a.rf || aO.Xi r
end
theorem qC:∀(l:List aO),(∀(k:Nat) (s:aO),l[k]?=some s->s.rf=false)->aO.Xi l=false
 |[],h=>rfl
 |a::r,h=>by
  unfold aO.Xi;rw[h 0 a rfl,qC r (λk s hk=>h (k+1) s hk)];rfl
theorem Rd.lazy {n:aI}{p:aq}{t:aO}(h:Rd n p t):t.rf=false:=by
 induction h with
 |int h1 h2 h3=>rfl
 |lam h1 h2 h3=>rfl
 |fail h1 h2 h3=>rfl
 |UW h1 h2 h3 h4 h5 ih=>unfold aO.rf;rw[qC _ ih];rfl
theorem XJ {D:Bool}{rd:RS->aq->RS×Nat×aO}(hrd:∀s p,s.d<=(rd s p).1.d)(i:Nat):∀(c k:Nat) (s:RS),s.d<=(gA D rd i c k s).1.d
 |0,k,s=>aB _
 |c+1,k,s=>by
  cases D with
  |false=>exact XJ hrd i c (k+1) s
  |true =>
   simp only[gA];split
   ·exact hrd s _
   ·exact cm (hrd s _) (XJ hrd i c (k+1) _)
theorem Yw {R:aI×List Nat×Nat×Nat}{s:RS}:(UN R s).d=s.d+R.2.1.length:=rfl
theorem XQ {D:Bool}{rd:RS->aq->RS×Nat×aO}(hrd:∀s p,s.d<=(rd s p).1.d)(s:RS)(i:Nat):s.d<=(shapeOf D rd s i).1.d:=by
 unfold shapeOf;split
 ·exact aB _
 ·split
  ·exact aB _
  ·split
   ·exact aB _
   ·split
    ·exact aB _
    ·split
     ·split
      ·exact XJ hrd _ _ _ _
      ·exact XJ hrd _ _ _ _
     ·exact aB _
theorem uw {step:VZ}{F:Nat}{D:Bool}:∀(f:Nat) (s:RS) (p:aq),s.d<=(fF step F D f s p).1.d
 |0,s,p=>aB _
 |f+1,s,p=>by
  have h0:s.d<=(UN (dc step (F-s.d) s.cS p) s).d:=by rw[Yw];omega
  simp only[fF];split
  ·exact h0
  ·exact cm h0 (XQ (λs p=>uw f s p) _ _)
theorem rh {D:Bool}{rd rd':RS->aq->RS×Nat×aO}(hd:∀s p,s.d<=(rd s p).1.d){F' i:Nat}(hrd:∀s p,(rd s p).2.1=0->(rd s p).1.d<=F'->rd' s p=rd s p):∀(c k:Nat) (s:RS),(gA D rd i c k s).2.1=0->(gA D rd i c k s).1.d<=F'->gA D rd' i c k s=gA D rd i c k s
 |0,k,s,_,_=>rfl
 |c+1,k,s,he,hF=>by
  cases D with
  |false =>
   simp only[gA]at he hF ⊢;rw[rh hd hrd c (k+1) s he hF]
  |true =>
   simp only[gA]at he hF ⊢;by_cases e:(rd s ⟨i,k⟩).2.1=0
   ·rw[aa (by simpa using e)]at he hF;dsimp only at he hF;have h1:=XJ (D:=true) hd i c (k+1) (rd s ⟨i,k⟩).1;have h2:=hrd s ⟨i,k⟩ e (by omega);rw[h2,aa (by simpa using e),aa (by simpa using e),rh hd hrd c (k+1) _ he hF]
   ·rw[ah (by simpa using e)]at he;exact absurd he e
theorem ri {step:VZ}{F F':Nat}{D:Bool}:∀(f:Nat) (s:RS) (p:aq),(fF step F D f s p).2.1=0->(fF step F D f s p).1.d<=F'->fF step F' D f s p=fF step F D f s p
 |0,s,p,he,hF=>by simp[fF]at he
 |f+1,s,p,he,hF=>by
  simp only[fF]at he hF ⊢;by_cases e:(dc step (F-s.d) s.cS p).2.2.2=0
  ·rw[aa (by simpa using e)]at he hF;have h1:=XQ (D:=D) (λs p=>uw (step:=step) (F:=F) (D:=D) f s p) (UN (dc step (F-s.d) s.cS p) s) (dc step (F-s.d) s.cS p).2.2.1;rw[Yw]at h1;have h2:=XP (step:=step) (F-s.d) (F'-s.d) e (by omega);rw[h2,aa (by simpa using e),aa (by simpa using e)];generalize (dc step (F-s.d) s.cS p).2.2.1=i at *;generalize (UN (dc step (F-s.d) s.cS p) s)=s2 at *;unfold shapeOf at he hF ⊢;split
   ·rfl
   ·rename_i x hx;rw[hx]at he hF;dsimp only at he hF ⊢;split
    ·rfl
    ·rename_i c1;rw[aa c1]at he hF;split
     ·rfl
     ·rename_i c2;rw[aa c2]at he hF;split
      ·rfl
      ·rename_i c3;rw[aa c3]at he hF;by_cases c4:x.ao=8
       ·rw[ah c4]at he hF;rw[ah c4,ah c4];by_cases e2:(gA D (fF step F D f) i (x.to.length-1) 1 s2).2.1=0
        ·rw[aa (by simpa using e2)]at hF;rw[rh (λs p=>uw f s p) (λs p h1 h2=>ri f s p h1 h2) _ _ _ e2 hF]
        ·rw[ah (by simpa using e2)]at he;exact absurd he e2
       ·rw[aa c4,aa c4]
  ·rw[ah (by simpa using e)]at he;exact absurd he e
theorem vY {rd rd':RS->aq->RS×Nat×aO}{F' i:Nat}(hrd:∀s p,(rd s p).2.1=0->(rd s p).1.d<=F'->rd' s p=rd s p)(hrl:∀s p,(rd s p).2.1=0->s.d<=F'->F'<(rd s p).1.d->(rd' s p).2.1=90) :
  ∀(c k:Nat) (s:RS),(gA true rd i c k s).2.1=0->s.d<=F'->F'<(gA true rd i c k s).1.d->(gA true rd' i c k s).2.1=90
 |0,k,s,_,h1,h2=>by simp only[gA]at h2;omega
 |c+1,k,s,he,h1,h2=>by
  simp only[gA]at he h2 ⊢;by_cases e:(rd s ⟨i,k⟩).2.1=0
  ·rw[aa (by simpa using e)]at he h2;dsimp only at he h2;by_cases hF:(rd s ⟨i,k⟩).1.d<=F'
   ·rw[hrd s ⟨i,k⟩ e hF,aa (by simpa using e)];exact vY hrd hrl c (k+1) _ he hF h2
   ·have:=hrl s ⟨i,k⟩ e h1 (by omega);rw[ah (by omega)];exact this
  ·rw[ah (by simpa using e)]at he;exact absurd he e
theorem l7 {rd:RS->aq->RS×Nat×aO}{i:Nat}:∀(c k:Nat) (s:RS),gA false rd i c k s=(s,0,List.replicate c .lazy)
 |0,k,s=>rfl
 |c+1,k,s=>by simp only[gA];rw[l7 c (k+1) s];rfl
theorem vZ {step:VZ}{F F':Nat}{D:Bool}:∀(f:Nat) (s:RS) (p:aq),(fF step F D f s p).2.1=0->s.d<=F'->F'<(fF step F D f s p).1.d->(fF step F' D f s p).2.1=90
 |0,s,p,he,h1,h2=>by simp[fF]at he
 |f+1,s,p,he,h1,h2=>by
  simp only[fF]at he h2 ⊢;by_cases e:(dc step (F-s.d) s.cS p).2.2.2=0
  ·rw[aa (by simpa using e)]at he h2;by_cases hF:(dc step (F-s.d) s.cS p).2.1.length<=F'-s.d
   ·rw[XP (step:=step) (F-s.d) (F'-s.d) e hF,aa (by simpa using e)];have h3:(UN (dc step (F-s.d) s.cS p) s).d<=F':=by rw[Yw];omega
    generalize (dc step (F-s.d) s.cS p).2.2.1=i at *;generalize (UN (dc step (F-s.d) s.cS p) s)=s2 at *;unfold shapeOf at he h2 ⊢;split
    ·rename_i hx;rw[hx]at he;cases he
    ·rename_i x hx;rw[hx]at he h2;dsimp only at he h2 ⊢;split
     ·rename_i c1;rw[ah c1]at h2;dsimp only at h2;omega
     ·rename_i c1;rw[aa c1]at he h2;split
      ·rename_i c2;rw[ah c2]at h2;dsimp only at h2;omega
      ·rename_i c2;rw[aa c2]at he h2;split
       ·rename_i c3;rw[ah c3]at h2;dsimp only at h2;omega
       ·rename_i c3;rw[aa c3]at he h2;by_cases c4:x.ao=8
        ·rw[ah c4]at he h2;rw[ah c4];by_cases e2:(gA D (fF step F D f) i (x.to.length-1) 1 s2).2.1=0
         ·rw[aa (by simpa using e2)]at h2;dsimp only at h2;cases D with
          |false=>rw[l7]at h2;dsimp only at h2;omega
          |true =>
           have:(gA true (fF step F' true f) i (x.to.length-1) 1 s2).2.1=90:=vY (λs p a1 a2=>ri f s p a1 a2) (λs p a1 a2 a3=>vZ f s p a1 a2 a3) _ _ _ e2 h3 h2;rw[ah (by omega)];exact this
         ·rw[ah (by simpa using e2)]at he;exact absurd he e2
        ·rw[aa c4]at h2;dsimp only at h2;omega
   ·have:=xO (step:=step) (F-s.d) (F'-s.d) e (by omega);rw[ah (by omega)];exact this
  ·rw[ah (by simpa using e)]at he;exact absurd he e
def tT (n:aI):RS:=⟨n,U4,0⟩
def bI (n:aI)(D:Bool)(F:Nat):RS×Nat×aO:=fF bL F D 4001 (tT n) ⟨0,0⟩
theorem VD (h:bY pg){n:aI}(ho:n.Ok)(D:Bool)(F:Nat):oG pg bL F D 4001 (tT n) ⟨0,0⟩/\XI F (tT n) (bI n D F).1/\(D=true->(bI n D F).2.1=0->Rd (bI n D F).1.cS ⟨0,0⟩ (bI n D F).2.2) :=
 AS h 4001 (s:=tT n) (p:=⟨0,0⟩) ho .root (by simp) ⟨dv _,rfl,by simp[tT,U4]⟩
theorem XR (h:bY pg){n:aI}(ho:n.Ok)(D:Bool)(F:Nat):(bI n D F).1.T.sum=(bI n D F).1.d/\(bI n D F).1.d<=F:=by
 obtain⟨_,h2,_⟩:=VD h ho D F;exact⟨h2.sum rfl,h2.ok.1⟩
theorem BZ {n:aI}{D:Bool}{F F':Nat}(he:(bI n D F).2.1=0)(hF:(bI n D F).1.d<=F'):bI n D F'=bI n D F:=ri _ _ _ he hF
theorem B0 {n:aI}{D:Bool}{F F':Nat}(he:(bI n D F).2.1=0)(hF:F'<(bI n D F).1.d):(bI n D F').2.1=90:=vZ _ _ _ he (dv _) hF
theorem AT (h:bY pg){n:aI}(ho:n.Ok){F:Nat}(he:(bI n true F).2.1=0):bI (bI n true F).1.cS true 0=(tT (bI n true F).1.cS,0,(bI n true F).2.2)/\(bI n true F).2.2.rf=false:=by
 obtain⟨_,h2,h3⟩:=VD h ho true F;have hr:=h3 rfl he;exact⟨Rd.again (s:=tT (bI n true F).1.cS) h2.same.ok hr .root (by simp),hr.lazy⟩
def aO.ao:aO->Nat
 |.mk k _ _ _=>k
def aO.n:aO->Int
 |.mk _ n _ _=>n
def aO.name:aO->List UInt8
 |.mk _ _ s _=>s
def aO.parts:aO->List aO
 |.mk _ _ _ l=>l
theorem so {rd:RS->aq->RS×Nat×aO}{i:Nat}:∀(c k:Nat) (s:RS),(gA true rd i c k s).2.1=0->(gA true rd i c k s).2.2.length=c
 |0,k,s,_=>rfl
 |c+1,k,s,h=>by
  simp only[gA]at h ⊢;split at h
  ·rename_i e;exact absurd h e
  ·rename_i e;rw[aa e];simp only[av];rw[so c (k+1) _ h]
theorem qD (step:VZ)(F:Nat)(D:Bool)(f:Nat)(s:RS)(p:aq):fF step F D (f+1) s p=if (dc step (F-s.d) s.cS p).2.2.2≠0 then (UN (dc step (F-s.d) s.cS p) s,(dc step (F-s.d) s.cS p).2.2.2,.zero) else
  shapeOf D (fF step F D f) (UN (dc step (F-s.d) s.cS p) s) (dc step (F-s.d) s.cS p).2.2.1:=rfl
theorem B1 {n:aI}{F:Nat}:(bI n false F).1.d<=(bI n true F).1.d/\((bI n true F).2.1=0->(bI n false F).2.1=0/\(bI n true F).2.2.ao=(bI n false F).2.2.ao/\(bI n true F).2.2.name=(bI n false F).2.2.name/\(bI n true F).2.2.n=(bI n false F).2.2.n/\(bI n true F).2.2.parts.length=(bI n false F).2.2.parts.length):=by
 unfold bI;rw[show(4001:Nat)=4000+1 from rfl,qD,qD];by_cases e:(dc bL (F-(tT n).d) (tT n).cS ⟨0,0⟩).2.2.2=0
 ·rw[aa (by simpa using e),aa (by simpa using e)];generalize (dc bL (F-(tT n).d) (tT n).cS ⟨0,0⟩).2.2.1=i at *;generalize (UN (dc bL (F-(tT n).d) (tT n).cS ⟨0,0⟩) (tT n))=s2 at *;have hd:=XQ (D:=true) (λs p=>uw (step:=bL) (F:=F) (D:=true) 4000 s p) s2 i;have hd2:(shapeOf false (fF bL F false 4000) s2 i).1=s2:=by
   unfold shapeOf;split
   ·rfl
   ·simp only[l7];split
    ·rfl
    ·split
     ·rfl
     ·split
      ·rfl
      ·split
       ·simp
       ·rfl
  refine⟨by rw[hd2];exact hd,λhe=>?_⟩;unfold shapeOf at he ⊢;split
  ·rename_i hx;rw[hx]at he;cases he
  ·rename_i x hx;rw[hx]at he;dsimp only at he ⊢;simp only[l7];split
   ·exact⟨rfl,rfl,rfl,rfl,rfl⟩
   ·rename_i c1;rw[aa c1]at he;split
    ·exact⟨rfl,rfl,rfl,rfl,rfl⟩
    ·rename_i c2;rw[aa c2]at he;split
     ·exact⟨rfl,rfl,rfl,rfl,rfl⟩
     ·rename_i c3;rw[aa c3]at he;split
      ·rename_i c4;rw[ah c4]at he;by_cases e2:(gA true (fF bL F true 4000) i (x.to.length-1) 1 s2).2.1=0
       ·simp[aO.ao,aO.name,aO.n,aO.parts,e2,so _ _ _ e2]
       ·rw[ah (by simpa using e2)]at he;exact absurd he e2
      ·rename_i c4;rw[aa c4]at he;cases he
 ·rw[ah (by simpa using e),ah (by simpa using e)];exact⟨aB _,λhe=>absurd he e⟩
inductive Tm where
 |mk (k n:Int) (name:List UInt8) (l:List Tm)
 deriving Inhabited
mutual
def Tm.aw:Tm->List PV
 |.mk k n s l=>[iv k,iv n,.s s,.sl (Tm.df l)]
def Tm.df:List Tm->List (List PV)
 |[]=>[]
 |a::r=>a.aw::Tm.df r
end
theorem Tm.ba:∀l:List Tm,Tm.df l=l.map Tm.aw
 |[]=>rfl
 |a::r=>by simp[Tm.df,Tm.ba r]
theorem Tm.ind {P:Tm->Prop}(h:∀k n s l,(∀t∈l,P t)->P (.mk k n s l)):∀t,P t
 |.mk k n s l=>h k n s l (λt ht=>Tm.ind h t)
theorem Tm.aS (t:Tm):aS 4 t.aw=true:=by
 cases t;simp[Tm.aw,Z.aS,PV.flat]
theorem Tm.bH (l:List Tm):bH 4 (l.map Tm.aw)=true:=fA Tm.aS l
inductive Tm.Fit:Tm->Prop
 |mk {k n s l}:l.length<2 ^ 60->(∀t∈l,Tm.Fit t)->Tm.Fit (.mk k n s l)
mutual
def Tm.same:Tm->Tm->Bool
 |.mk k n s l,.mk k' n' s' l'=>decide (k=k') && decide (n=n') && decide (s=s') && decide (l.length=l'.length) && Tm.XK l l'
def Tm.XK:List Tm->List Tm->Bool
 |a::r,b::r'=>a.same b && Tm.XK r r'
 |_,_=>true
end
mutual
theorem Tm.pL:∀{a b:Tm},a.same b=true↔a=b
 |.mk k n s l,.mk k' n' s' l'=>by
  simp only[Tm.same,ab,Uq,Tm.mk.injEq];constructor
  ·rintro⟨⟨⟨⟨h1,h2⟩,h3⟩,h4⟩,h5⟩;exact⟨h1,h2,h3,(Tm.s8 h4).1 h5⟩
  ·rintro⟨h1,h2,h3,h4⟩;have:l.length=l'.length:=by rw[h4]
   exact⟨⟨⟨⟨h1,h2⟩,h3⟩,this⟩,(Tm.s8 this).2 h4⟩
theorem Tm.s8:∀{a b:List Tm},a.length=b.length->(Tm.XK a b=true↔a=b)
 |[],[],h=>by simp[Tm.XK]
 |a::r,b::r',h=>by
  simp only[Tm.XK,ab,dV];rw[Tm.pL,Tm.s8 (by simpa using h)]
 |[],_::_,h=>by simp at h
 |_::_,[],h=>by simp at h
end
theorem Yd (l':List Tm):∀(l:List Tm) (i:Nat),i+l.length=l'.length->allI (λi a=>match l'[i]? with|some b=>Tm.same a b|none=>true) i l=Tm.XK l (l'.drop i)
 |[],i,h=>by simp[allI,Tm.XK]
 |a::r,i,h=>by
  have hi:i<l'.length:=by simp at h;omega
  rw[aM hi];simp only[allI,Tm.XK,gG hi];rw[Yd l' r (i+1) (by simp at h;omega)]
theorem t13 (h:bY pg):∀(a:Tm),a.Fit->∀(b:Tm) (G:Heap),UM pg (E pg) 13 [.ag (bP a.aw),.ag (bP b.aw)] G=some (.ret (.p (.b (a.same b))),G):=by
 refine Tm.ind λk n s l ih hf b G=>?_;obtain⟨k',n',s',l'⟩:=b;have hfl:l.length<2 ^ 60/\∀t∈l,t.Fit:=by cases hf with|mk h1 h2=>exact⟨h1,h2⟩
 refine Ut ?_ (by simp only[Tm.aw];rfl) rfl;rw[h.run (x:=H6)];by_cases c1:k=k';rotate_left
 ·simp[H6,aj,Tm.aw,bP,Tm.same,c1]
 by_cases c2:n=n';rotate_left
 ·simp[H6,aj,Tm.aw,bP,Tm.same,c1,c2]
 by_cases c3:s=s';rotate_left
 ·simp[H6,aj,Tm.aw,bP,Tm.same,c1,c2,c3]
 by_cases c4:l.length=l'.length;rotate_left
 ·have c4':¬ (l.length:Int)=l'.length:=by omega
  simp[H6,aj,Tm.aw,bP,Tm.same,c1,c2,c3,c4,c4',Tm.ba]
 subst c1 c2 c3;have hL:=kI (pg:=pg) (aK:=0) (live:=[2,3,5]) (body:=zW) rfl (λi=>[(2,.ptr 0 0),(3,.ptr 1 0),(5,.p (.i .i64 (i:Nat)))]) [.box [.p (iv k),.p (iv n),.p (.s s),.p (.sl (l.map Tm.aw))],.box [.p (iv k),.p (iv n),.p (.s s),.p (.sl (l'.map Tm.aw))]]
  [.box [.p (iv k),.p (iv n),.p (.s s),.p (.sl (l.map Tm.aw))],.box [.p (iv k),.p (iv n),.p (.s s),.p (.sl (l'.map Tm.aw))]] l 0 (λi a=>match l'[i]? with|some b=>Tm.same a b|none=>true) [(4,.p (.b false))] [(2,.ptr 0 0),(3,.ptr 1 0),(5,.p (.i .i64 l.length)),(38,.p (.b false))]
  (λi a hi hx hx' hp=>by
   have hi':i<l'.length:=by omega
   rw[gG hi']at hp;dsimp only at hp;have e1:=λG=>ih a (aE hx) (hfl.2 a (aE hx)) l'[i] G;have e2:∀t:Tm,t.aw.length=4:=λt=>by cases t;rfl
   have e3:∀t:Tm,t.aw.take 4=t.aw:=λt=>by cases t;rfl
   simp only[hp,bP]at e1;simp[zW,aj,hi,hx,hx',hi',Tm.aS,e1,e2,e3,cR ((i:Int)+1),gc,exp,aQ,UG])
  (λi a hi hx hx' hp=>by
   have hi':i<l'.length:=by omega
   rw[gG hi']at hp;dsimp only at hp;have e1:=λG=>ih a (aE hx) (hfl.2 a (aE hx)) l'[i] G;have e2:∀t:Tm,t.aw.length=4:=λt=>by cases t;rfl
   have e3:∀t:Tm,t.aw.take 4=t.aw:=λt=>by cases t;rfl
   simp only[hp,bP]at e1;simp[zW,aj,hi,hx,hx',hi',Tm.aS,e1,e2,e3])
  (by simp[zW,aj])
 rw[Yd l' l 0 (by omega)]at hL;simp only[fW,bp]at hL;simp[H6,aj,Tm.aw,bP,Tm.same,c4,Tm.ba,gc,exp,aQ,UG];rw[hL];cases Tm.XK l l'<;>simp[aj]
mutual
def Tm.lazy:Tm->Bool
 |.mk k n s l=>Tm.sr l || decide (k=5)
def Tm.sr:List Tm->Bool
 |[]=>false
 |a::r=>a.lazy || Tm.sr r
end
theorem Ye:∀(l:List Tm) (i:Nat),allI (λ_ a=>!Tm.lazy a) i l=!Tm.sr l
 |[],i=>rfl
 |a::r,i=>by simp[allI,Tm.sr,Ye r (i+1)]
theorem t15 (h:bY pg):∀(a:Tm),a.Fit->∀(G:Heap),UM pg (E pg) 15 [.ag (bP a.aw)] G=some (.ret (.p (.b a.lazy)),G):=by
 refine Tm.ind λk n s l ih hf G=>?_;have hfl:l.length<2 ^ 60/\∀t∈l,t.Fit:=by cases hf with|mk h1 h2=>exact⟨h1,h2⟩
 refine Ut ?_ (by simp only[Tm.aw];rfl) rfl;rw[h.run (x:=MR)];have hL:=kI (pg:=pg) (aK:=0) (live:=[1,3]) (body:=zX) rfl (λi=>[(1,.ptr 0 0),(3,.p (.i .i64 (i:Nat)))]) [.box [.p (iv k),.p (iv n),.p (.s s),.p (.sl (l.map Tm.aw))]]
  [.box [.p (iv k),.p (iv n),.p (.s s),.p (.sl (l.map Tm.aw))]] l 0 (λ_ a=>!Tm.lazy a) [(2,.p (.b true))] [(1,.ptr 0 0),(3,.p (.i .i64 l.length)),(8,.p (.b false))]
  (λi a hi hx hx' hp=>by
   have e1:=λG=>ih a (aE hx) (hfl.2 a (aE hx)) G;have e2:∀t:Tm,t.aw.length=4:=λt=>by cases t;rfl
   have e3:∀t:Tm,t.aw.take 4=t.aw:=λt=>by cases t;rfl
   simp only[a_]at hp;simp only[hp,bP]at e1;simp[zX,aj,hi,hx,hx',Tm.aS,e1,e2,e3,cR ((i:Int)+1),gc,exp,aQ,UG])
  (λi a hi hx hx' hp=>by
   have e1:=λG=>ih a (aE hx) (hfl.2 a (aE hx)) G;have e2:∀t:Tm,t.aw.length=4:=λt=>by cases t;rfl
   have e3:∀t:Tm,t.aw.take 4=t.aw:=λt=>by cases t;rfl
   simp only[jP]at hp;simp only[hp,bP]at e1;simp[zX,aj,hi,hx,hx',Tm.aS,e1,e2,e3])
  (by simp[zX,aj])
 rw[Ye l 0]at hL;simp only[fW]at hL;simp[MR,aj,Tm.aw,bP,Tm.ba,gc,exp,aQ,UG];rw[hL];cases hz:Tm.sr l<;>simp[aj,Tm.lazy,hz]
mutual
def aO.tm:aO->Tm
 |.mk k n s l=>.mk k n s (aO.gp l)
def aO.gp:List aO->List Tm
 |[]=>[]
 |a::r=>a.tm::aO.gp r
end
mutual
theorem aO.v7:∀s:aO,s.tm.aw=s.aw
 |.mk k n s l=>by simp only[aO.tm,Tm.aw,aO.aw,aO.CX l]
theorem aO.CX:∀l:List aO,Tm.df (aO.gp l)=aO.df l
 |[]=>rfl
 |a::r=>by simp only[aO.gp,Tm.df,aO.df,aO.v7 a,aO.CX r]
end
mutual
theorem aO.CY:∀s:aO,s.tm.lazy=s.rf
 |.mk k n s l=>by
  simp only[aO.tm,Tm.lazy,aO.rf,aO.AU l]
  congr 1
  rw[decide_eq_decide];omega
theorem aO.AU:∀l:List aO,Tm.sr (aO.gp l)=aO.Xi l
 |[]=>rfl
 |a::r=>by simp only[aO.gp,Tm.sr,aO.Xi,aO.CY a,aO.AU r]
end
theorem OP (h:bY pg){body:aU}(hb:body=CH){T:List Nat}(hT:T.length=9)(hs:T.sum<2 ^ 60) :
  ∀m i,i+m=9->L pg 0 [1,3,4] body [(1,.ptr 0 0),(3,.p (.i .i64 ((T.take i).sum:Nat))),(4,.p (.i .i64 (i:Nat)))] [.box (cJ T)]=some (.exit 0,[(1,.ptr 0 0),(3,.p (.i .i64 (T.sum:Nat))),(4,.p (.i .i64 9)),(6,.p (.b false))],[.box (cJ T)])
 |0,i,hi=>by
  have:i=9:=by omega
  subst this;have e:T.take 9=T:=aF (by omega);rw[dA hb,e];simp[CH,aj]
 |m+1,i,hi=>by
  have hlt:i<T.length:=by omega
  have h9:i<9:=by omega
  have ih:=OP h hb hT hs m (i+1) (by omega);have hsum:(T.take (i+1)).sum=(T.take i).sum+T[i]:=by
   rw[List.take_succ,gG hlt,jk];simp
  have hd:T.take i++(T[i]::T.drop (i+1))=T:=by rw[<- aM hlt,Vm]
  have hle:(T.take i).sum+T[i]<=T.sum:=by
   conv=>rhs;rw[<- hd,jk,dK]
   omega
  have hg:(cJ T)[i]?=some (.p (.i .i64 (T[i]:Nat))):=by
   unfold cJ;rw[List.getElem?_map,gG hlt];rfl
  have hflat:bm (cJ T)=true:=by
   unfold cJ;clear hg hle hd hsum ih hs hT hlt
   induction T with
   |nil=>rfl
   |cons a r ih=>simpa [bm,cE] using ih
  have he:∀e,aQ true e (cJ T)=some (cJ T,e):=λe=>bS true e hflat;rw[dA hb];rw[show((i+1:Nat):Int)=(i:Int)+1 from by omega,hsum]at ih;simp only[bV]at ih;simp[CH,aj,h9,Ur (show(i:Int)<9 from by omega),hg,cR ((i:Int)+1),cR (((T.take i).sum:Nat)+(T[i]:Int)),gc,exp,aQ,UG,he,ih]
theorem t12 (h:bY pg){T:List Nat}(hT:T.length=9)(hs:T.sum<2 ^ 60):UM pg (E pg) 12 [.ag (cJ T)] G=some (.ret (.p (.i .i64 (T.sum:Nat))),G):=by
 have hflat:bm (cJ T)=true:=by
  unfold cJ;clear hs hT
  induction T with
  |nil=>rfl
  |cons a r ih=>simpa [bm,cE] using ih
 have he:∀e,aQ true e (cJ T)=some (cJ T,e):=λe=>bS true e hflat;refine Ut ?_ (by simpa [bm,cE] using hflat) rfl;rw[h.run (x:=Ms)];have hL:=OP h rfl hT hs 9 0 (by omega);simp only[mF,V_,fW]at hL;obtain⟨t0,t1,t2,t3,t4,t5,t6,t7,t8,rfl⟩:∃t0 t1 t2 t3 t4 t5 t6 t7 t8,T=[t0,t1,t2,t3,t4,t5,t6,t7,t8]:=by
  match T,hT with
  |[t0,t1,t2,t3,t4,t5,t6,t7,t8],_=>exact⟨t0,t1,t2,t3,t4,t5,t6,t7,t8,rfl⟩
 generalize hS:[t0,t1,t2,t3,t4,t5,t6,t7,t8].sum=S at *;simp only[cJ,ai,au]at hL ⊢;simp[Ms,aj,gc,exp,aQ,UG];rw[hL];simp[aj]
theorem t33 (h:bY pg)(x:Up)(hx:x.to.length<2 ^ 60/\x.aY.length<2 ^ 60):UM pg (E pg) 33 [.ag (bP x.aw),.ag (bP x.aw)] G=some (.ret (.p (.b true)),G):=by
 obtain⟨k,l,n,name,aY,to⟩:=x;obtain⟨hx1,hx2⟩:=hx;dsimp only at hx1 hx2;refine Ut ?_ (by simp only[Up.aw];rfl) rfl;rw[h.run (x:=MV)];have h1:=kI (pg:=pg) (aK:=0) (live:=[2,3,5]) (body:=CL) rfl (λi=>[(2,.ptr 0 0),(3,.ptr 1 0),(5,.p (.i .i64 (i:Nat)))]) [.box [.p (iv k),.p (iv l),.p (iv n),.p (.s name),.p (.sl (aY.map Ux)),.p (.sl (to.map aq.aw))],.box [.p (iv k),.p (iv l),.p (iv n),.p (.s name),.p (.sl (aY.map Ux)),.p (.sl (to.map aq.aw))]]
  [] aY 0 (λ_ _=>true) [] [(2,.ptr 0 0),(3,.ptr 1 0),(5,.p (.i .i64 aY.length)),(55,.p (.b false))]
  (λi a hi hy hy' hp=>by
   simp[CL,aj,hi,hy,hy',Ux,aS,cR ((i:Int)+1),gc,exp,aQ,UG])
  (λi a hi hy hy' hp=>by cases hp)
  (by simp[CL,aj])
 have h2:=kI (pg:=pg) (aK:=0) (live:=[2,3,6]) (body:=CM) rfl (λi=>[(2,.ptr 0 0),(3,.ptr 1 0),(6,.p (.i .i64 (i:Nat)))]) [.box [.p (iv k),.p (iv l),.p (iv n),.p (.s name),.p (.sl (aY.map Ux)),.p (.sl (to.map aq.aw))],.box [.p (iv k),.p (iv l),.p (iv n),.p (.s name),.p (.sl (aY.map Ux)),.p (.sl (to.map aq.aw))]]
  [] to 2 (λ_ _=>true) [] [(2,.ptr 0 0),(3,.ptr 1 0),(6,.p (.i .i64 to.length)),(73,.p (.b false))]
  (λi a hi hy hy' hp=>by
   simp[CM,aj,hi,hy,hy',aq.aw,aS,cR ((i:Int)+1),gc,exp,aQ,UG])
  (λi a hi hy hy' hp=>by cases hp)
  (by simp[CM,aj])
 have ht:∀{α:Type} (l:List α) (i:Nat),allI (λ_ _=>true) i l=true:=λl i=>r6 λ_ _ _=>rfl;simp only[fW,ht,cond_true]at h1 h2;simp[MV,aj,Up.aw,bP,gc,exp,aQ,UG];rw[h1];simp[aj,gc,exp,aQ,UG];rw[h2];simp[aj]
theorem t14 (h:bY pg)(n:aI)(hn:n.ae.length<2 ^ 60/\∀x∈n.ae,x.to.length<2 ^ 60/\x.aY.length<2 ^ 60):UM pg (E pg) 14 [.ag [.p (.sl (n.ae.map Up.aw)),.p (.i .i64 n.aV)],.ag [.p (.sl (n.ae.map Up.aw)),.p (.i .i64 n.aV)]] G=some (.ret (.p (.b true)),G):=by
 refine Ut ?_ rfl rfl;rw[h.run (x:=MQ)];have h1:=kI (pg:=pg) (aK:=0) (live:=[2,3,5]) (body:=CJ) rfl (λi=>[(2,.ptr 0 0),(3,.ptr 1 0),(5,.p (.i .i64 (i:Nat)))]) [.box [.p (.sl (n.ae.map Up.aw)),.p (.i .i64 n.aV)],.box [.p (.sl (n.ae.map Up.aw)),.p (.i .i64 n.aV)]]
  [] n.ae 0 (λ_ _=>true) [] [(2,.ptr 0 0),(3,.ptr 1 0),(5,.p (.i .i64 n.ae.length)),(24,.p (.b false))]
  (λi a hi hy hy' hp=>by
   have e1:=λG=>t33 (G:=G) h a (hn.2 a (aE hy));have e2:∀t:Up,t.aw.length=6:=λt=>by cases t;rfl
   have e3:∀t:Up,t.aw.take 6=t.aw:=λt=>by cases t;rfl
   simp only[bP]at e1;simp[CJ,aj,hi,hy,hy',sW,e1,e2,e3,cR ((i:Int)+1),gc,exp,aQ,UG])
  (λi a hi hy hy' hp=>by cases hp)
  (by simp[CJ,aj])
 have ht:∀{α:Type} (l:List α) (i:Nat),allI (λ_ _=>true) i l=true:=λl i=>r6 λ_ _ _=>rfl;simp only[fW,ht,cond_true]at h1;simp[MQ,aj,gc,exp,aQ,UG];rw[h1];simp[aj]
end
section
variable {P:Program}{pg:fX}{call:di}{loop:js}
theorem B2 (hm:P.follows .mixedOrders=true)(hR:ir pg call)(hC:f_ P call)(hE:fy P call){k:Nat}(hL:Xe P loop k){fn:Func}{code:Code}{c:bz}
  (h4:gy P fn.ntmps code=some (erase c.body)) (h5:XX P fn.results.toList=some c.res) {args:List AV} {G G':Heap} {out:Out} (h:ic pg call loop c args G=some (out,G'))
  {m:Mem} {μ:Mu} {w:World} {a:Act} (hp:Pt fn.ntmps ⟨m,μ,G,w,[]⟩ G (sE 0 args) a w m μ) (ht:∀id,id<G.length->∃l,μ id=some l) :
  code.wp P (bodyPost P fn λe w'=>∃m' cA,Inv m' cA G' w'/\lC m μ G w m' cA G' w'/\WL m' cA (inf G') out e) a w:=by
 let E:zR:=⟨m,μ,G,w,[]⟩
 have hI:=hp.inv;unfold ic at h;have hbody:∀{e:Ex} {UO:Env} {G1:Heap},bo pg call loop G.length c.body (sE 0 args) G=some (e,UO,G1)->Ends fn.ntmps E (bodyPost P fn λe w'=>∃m' cA,Inv m' cA G' w'/\lC m μ G w m' cA G' w'/\WL m' cA (inf G') out e) e UO G1->code.wp P (bodyPost P fn λe w'=>∃m' cA,Inv m' cA G' w'/\lC m μ G w m' cA G' w'/\WL m' cA (inf G') out e) a w :=
  λhev hq=>fz (E:=E) hm hR hC hE hL ht (λid l hl=>hI.ph id l hl) code c.body h4 hev hp hq
 have hret:∀{UO:Env} {G1:Heap},(match VI UO G1 c.res with
    |none=>none
    |some vs=>if c.nZ then some (Out.ret (VT vs),G1) else match norm G1 (VT vs) with
     |some (v,G')=>aj G.length (.ret v) G'
     |none=>none)=some (out,G')->∀a' w' m' cA,Pt fn.ntmps E G1 UO a' w' m' cA->a'.defers=[]/\∃v,(results fn a'.tmps).run P w'=.ok v w'/\∃m'' μ'',Inv m'' μ'' G' w'/\lC m μ G w m'' μ'' G' w'/\WL m'' μ'' (inf G') out (.returned v):=by
  intro UO G1 hres a' w' m' cA hp';refine⟨hp'.tG,?_⟩;split at hres
  ·cases hres
  ·rename_i vs hvs;obtain⟨vals,k1,k2⟩:=nF hp' fn.results.toList h5 hvs;refine⟨og vals,jb k1,?_⟩;have hw:=yC k2;split at hres
   ·cases hres;refine⟨m',cA,hp'.inv,⟨hp'.ext,hp'.fr,⟨λid hid _=>hp'.pX id hid,λid hid hn=>?_⟩⟩,hw⟩;obtain⟨l,hl⟩:=ht id hid;rw[hl]at hn;cases hn
   ·split at hres
    ·rename_i v G2 hn;obtain⟨m2,i1,i2,i3⟩:=jW _ hp'.inv hn hw;obtain⟨μ3,j1,j2,j3⟩:=kn (out:=.ret v) i1 (hp'.ext.trans i2.ext) (hp'.fr.trans i2.fr) ht (λid l hl=>hI.ph id l hl) hres (e:=.returned (og vals)) i3;exact⟨m2,μ3,j1,j2,j3⟩
    ·cases hres
 cases hev:bo pg call loop G.length c.body (sE 0 args) G with
 |none=>rw[hev]at h;cases h
 |some r =>
  rcases r with ⟨e,UO,G1⟩
  rw[hev]at h;refine hbody hev λa' w' m' cA hp'=>?_;cases e with
  |normal=>exact hret h a' w' m' cA hp'
  |ret=>exact hret h a' w' m' cA hp'
  |exit id=>cases h
  |iL v =>
   intro val hv;dsimp only at h;obtain⟨μ3,j1,j2,j3⟩:=kn (out:=.iL v) hp'.inv hp'.ext hp'.fr ht (λid l hl=>hI.ph id l hl) h (e:=.panicked [{ v:=val,recovered:=false }]) ⟨val,rfl,hv⟩;exact⟨hp'.tG,m',μ3,j1,j2,j3⟩
end
def MG:fX:=⟨λ_=>none,λ_=>none,λ_=>false⟩
theorem JE {P:Program}(hm:P.follows .mixedOrders=true):tJ P MG :=
 { mixed:=hm,code:=λ_ _ _ h=>(nomatch h),quiet:=λ_ _ _ _ _ h=>(nomatch h),Xa:=λ_ _ h=>(nomatch h) }
section
variable {P:Program}
theorem xQ {ops:Array Oper}{Q:Exit->Act->World->Prop}{i:Nat}{rest:List Nat}{a:Act}{w w':World}{o:Oper}{v:Value}(ho:ops[i]?=some o)(hw:Region.wanted o (yielded ops a.tmps)=true)(hr:(execOp a.eval o).run P w=.ok (.value v) w')(h:wpOps P ops Q rest (a.put o.dst v) w'):wpOps P ops Q (i::rest) a w:=by
 rw[wpOps_cons];unfold wpOp;rw[ho];dsimp only;rw[hw];simp only[if_true];refine .inl ?_;unfold Oper.wp;rw[hr];exact h
theorem XL {ops:Array Oper}{Q:Exit->Act->World->Prop}{i:Nat}{rest:List Nat}{a a':Act}{w w':World}{o:Oper}{v:Value}(ho:ops[i]?=some o)(hw:Region.wanted o (yielded ops a.tmps)=true)(hr:(execOp a.eval o).run P w=.ok (.value v) w')(ha:a.put o.dst v=a')(h:wpOps P ops Q rest a' w'):wpOps P ops Q (i::rest) a w :=
 xQ ho hw hr (by rw[ha];exact h)
def JF (t:TypeId):Array Oper:=#[{ dst:=some 2,op:=.assign (.const (.slice none 0 0)),type:=t,pos:= "slices.go:355",after:=#[],guard:=none }]
def FP (t:TypeId):Array Oper:=#[{ dst:=some 3,op:=.move (.tmp 0),type:=t,pos:= "slices.go:357",after:=#[],guard:=none },
 { dst:=some 4,op:=.binOp .eql t (.tmp 3) (.const (.slice none 0 0)) t,type:=4,pos:= "slices.go:357",after:=#[{ on:=0,ground:=.data }],guard:=none }]
def Lz (t:TypeId):Array Oper:=#[{ dst:=some 2,op:=.assign (.const (.slice none 0 0)),type:=t,pos:= "slices.go:358",after:=#[],guard:=none }]
def FQ (t:TypeId):Code:=.seq (.region 3 #[{ dst:=some 5,op:=.buildSlice t 0 #[],type:=t,pos:= "slices.go:362",after:=#[],guard:=none },
 { dst:=some 6,op:=.move (.tmp 0),type:=t,pos:= "slices.go:362",after:=#[],guard:=none },
 { dst:=some 7,op:=.call { callee:=.builtin .append,args:=#[.tmp 5,.tmp 6],argTypes:=#[t,t] },type:=t,pos:= "slices.go:362",after:=#[{ on:=0,ground:=.data },{ on:=1,ground:=.data }],guard:=none },
 { dst:=some 2,op:=.assign (.tmp 7),type:=t,pos:= "slices.go:362",after:=#[{ on:=2,ground:=.data },{ on:=2,ground:=.chain },{ on:=0,ground:=.phase },{ on:=1,ground:=.phase },{ on:=2,ground:=.phase }],guard:=none }] false) .ret
def JG (t:TypeId):Code:=.seq (.region 0 (JF t) false) (.seq (.seq (.region 1 (FP t) false) (.cond (.tmp 4) (.seq (.region 2 (Lz t) false) .ret) .skip)) (FQ t))
def LA (sz bytes:Nat)(zero:List PV)(k:Bool):bz:=⟨.seq (.ops [2] [⟨some 5,.Wy sz zero 0 [],none⟩,⟨some 6,.Vo (.t 0),none⟩,⟨some 7,.app false sz bytes (.t 5) (.t 6),none⟩,⟨some 2,.Vo (.t 7),none⟩]) .ret,[.t 2],false,k⟩
structure B3 (P:Program)(f t:Nat)(sz bytes:Nat)(zero:List PV):Prop where
 fn:∃(fn:Func) (e:TypeId),P.funcs[f]?=some fn/\fn.body=some (JG t)/\fn.ntmps=8/\fn.results=#[.tmp 2]/\P.underlying t=some (.slice e)/\(fn.name == "runtime.NumGoroutine")=false
 tail:gy P 8 (FQ t)=some (erase (LA sz bytes zero false).body)
 zero:aS sz zero=true/\1<=sz
theorem LB (k:Bool){sz bytes:Nat}{zero:List PV}(hz:aS sz zero=true/\1<=sz){ay:List (List PV)}(h1:bH sz ay=true)(h2:bZ ay.length bytes=true) :
  ic MG (dr MG 0) (ew MG 0) (LA sz bytes zero k) [.p (.sl ay)] []=if k=true then some (.ret (.arr 0 ay.length 1),[.arr sz ay 1 0]) else some (.ret (.p (.sl ay)),[]):=by
 cases k
 ·simp[ic,bo,dP,LA,Uu,eH,gQ,lk,put,U9,sE,tu,hz,Uu.Uv,cX,fO,UZ,h1,h2,VI,VT,norm,aj,Out.bf,bf,one]
 ·simp[ic,bo,dP,LA,Uu,eH,gQ,lk,put,U9,sE,tu,hz,Uu.Uv,cX,fO,UZ,h1,h2,VI,VT,norm,aj,Out.bf,bf,one]
theorem v8 (hm:P.follows .mixedOrders=true){f t sz bytes:Nat}{zero:List PV}(hc:B3 P f t sz bytes zero){ay:List (List PV)}{out:Out}{G':Heap}{k:Bool}(h1:bH sz ay=true)(h2:bZ ay.length bytes=true)
  (hk:k=true->ay≠[]) (ho:(if k=true then some (Out.ret (.arr 0 ay.length 1),[fE.arr sz ay 1 0]) else some (Out.ret (.p (.sl ay)),[]))=some (out,G')) {m:Mem} {w:World} {vargs:List Value} (hI:Inv m (λ_=>none) [] w) (hr:RL m (λ_=>none) (inf []) vargs [.p (.sl ay)]) :
  Calls P f vargs.toArray w λe w'=>∃m' cA,Inv m' cA G' w'/\lC m (λ_=>none) [] w m' cA G' w'/\WL m' cA (inf G') out e:=by
 obtain⟨fn,e,e1,e2,e3,e4,e5,e6⟩:=hc.fn;obtain⟨v,vs,rfl,hv,hvs⟩:=hr.iC;rw[hvs.mK];have hv':RP m v (.sl ay):=by cases hv with|p _ _ h=>exact h
 obtain⟨a,aV,rfl,ha⟩:∃a aV,v=.slice a ay.length aV/\(ay≠[]->a≠none):=by
  generalize hrr:ay=rr at hv';cases hv' with
  |sl a aV rows' sz f jH hs ha hf =>
   subst hrr;exact⟨a,aV,rfl,λhne=>by obtain⟨b,o,h,_⟩:=ha hne;rw[h];simp⟩
 refine calls_of_wp e1 e2 ?_;rw[e3,show(#[Value.slice a ay.length aV]++Array.replicate (8-#[Value.slice a ay.length aV].size) undef:Array Value)=#[.slice a ay.length aV,undef,undef,undef,undef,undef,undef,undef] from rfl];refine wp_seq (wp_region ?_);refine XL (a':=⟨#[.slice a ay.length aV,undef,.slice none 0 0,undef,undef,undef,undef,undef],[]⟩) (v:=.slice none 0 0) rfl rfl rfl rfl ?_;refine wp_seq (wp_seq (wp_region ?_));refine XL (a':=⟨#[.slice a ay.length aV,undef,.slice none 0 0,.slice a ay.length aV,undef,undef,undef,undef],[]⟩) (v:=.slice a ay.length aV) rfl rfl rfl rfl ?_;refine XL (a':=⟨#[.slice a ay.length aV,undef,.slice none 0 0,.slice a ay.length aV,.bool a.isNone,undef,undef,undef],[]⟩) (w':=w) (v:=.bool a.isNone) rfl rfl ?_ rfl ?_
 ·have:=Go.Lib.run_eql_slice_nil w t e a ay.length aV 0 0 e5;simp[execOp,Act.eval,go_sem,this,FP]
 show Code.wp _ _ _ _ _
 refine wp_cond (t:=a.isNone) rfl ?_;cases a with
 |none =>
  have hrn:ay=[]:=dI λhne=>ha hne rfl;subst hrn;have hkf:k=false:=by cases k;rfl;exact absurd rfl (hk rfl)
  subst hkf;simp only[aZ,if_false,bG,eK]at ho;obtain⟨rfl,rfl⟩:=ho;refine wp_seq (wp_region ?_);refine XL (a':=⟨#[.slice none 0 aV,undef,.slice none 0 0,.slice none 0 aV,.bool true,undef,undef,undef],[]⟩) (v:=.slice none 0 0) rfl rfl rfl rfl ?_;refine wp_ret ?_;refine⟨rfl,.slice none 0 0,?_,m,λ_=>none,hI,.refl _ _ _ _,?_⟩
  ·refine jb (vals:=[.slice none 0 0]) ?_;rw[e4];simp[xx]
  ·exact .p _ _ (.sl none 0 [] 1 (λ_ _=>undef) (by simp) rfl (λh=>absurd rfl h) (λi j r c h=>by simp at h))
 |some a =>
  refine wp_skip ?_;have hp:Pt 8 ⟨m,λ_=>none,[],w,[]⟩ [] (sE 0 [.p (.sl ay)]) { tmps:=#[.slice (some a) ay.length aV,undef,.slice none 0 0,.slice (some a) ay.length aV,.bool false,undef,undef,undef],defers:=[] } w m (λ_=>none) :=
   ⟨hI,⟨aB 8,λk' x hk'=>by
    obtain⟨_,hx⟩:=XW [.p (.sl ay)] 0 k' x hk';cases k' with
    |zero=>simp at hx;subst hx;exact hv
    |succ k'=>simp at hx⟩,rfl,λid hid=>by simp at hid,.refl _ _ _,.refl _ _ _⟩
  have hs:=lE (JE (P:=P) hm) 0;have:=B2 (fn:={ fn with ntmps:=8,results:=#[.tmp 2] }) (c:=LA sz bytes zero k) hm hs.2.2.1 hs.1 hs.2.1 hs.2.2.2.1 (by cases k<;>exact hc.tail) rfl ((LB k hc.zero h1 h2).trans ho) hp (λid hid=>by simp at hid);rw[show({ fn with ntmps:=8,results:=#[ResultVar.tmp 2] }:Func)=fn by cases fn;simp_all]at this;exact this
end
section
variable {pg:fX}{G:Heap}
def Hr:aU:=.ops [1,2,3,6,7,8,9] [⟨some 3,.box (.t 0),none⟩,⟨some 6,.new [.aC,(.p (.i .i64 0))],none⟩,⟨some 7,.new [(.p (.i .i64 0)),(.p (.i .i64 0)),(.p (.s [])),.aC],none⟩,⟨some 8,.new [(.p (.i .i64 0)),(.p (.i .i64 0)),(.p (.i .i64 0)),(.p (.i .i64 0)),(.p (.i .i64 0)),(.p (.i .i64 0)),(.p (.i .i64 0)),(.p (.i .i64 0)),(.p (.i .i64 0))],none⟩,⟨some 9,.new [(.p (.i .i64 0))],none⟩]
def Hs:aU:=.ops [1,2,6,7,8,9,10] [⟨some 12,.load 2 true (.t 3),none⟩,⟨some 13,.Vo (.t 2),none⟩,⟨some 14,.Vo (.t 1),none⟩,⟨some 15,.build [.aC,(.p (.i .i64 0)),(.p (.i .i64 0)),(.p (.i .i64 0)),(.p (.i .i64 0)),(.p (.i .i64 0)),(.p (.i .i64 0)),(.p (.i .i64 0)),(.p (.i .i64 0)),(.p (.i .i64 0)),(.p (.i .i64 0)),(.p (.i .i64 0)),(.p (.i .i64 0)),(.p (.b false))] [(0,2,(.t 12)),(12,1,(.t 13)),(13,1,(.t 14))],none⟩,⟨some 16,.box (.t 15),none⟩,⟨some 10,.new [(.p .pn)],none⟩,⟨none,.store 1 (.t 10) (.t 16),none⟩]
def LC:CI:=⟨some 17,.rG 31 [] [(.t 10),(.t 6),(.t 8),(.t 7),(.t 9)],none⟩
def B4:aU:=(.seq (.ops [6,7,8,9,10,11] [⟨some 18,.load 1 false (.t 10),none⟩,⟨some 19,.build [(.p (.i .i64 0)),(.p (.i .i64 0))] [],none⟩,⟨some 20,.call 32 [(.t 18),(.t 19)],none⟩,⟨some 11,.new [(.p (.i .i64 0)),(.p (.i .i64 0)),(.p (.s [])),.aC],none⟩,⟨none,.store 4 (.t 11) (.t 20),none⟩])
 (.seq (.draw [6,7,8,9] [] [⟨some 21,.load 1 false (.t 10),none⟩,⟨some 22,.Xb (.t 21),none⟩,⟨some 23,.Ve 0 (.t 22),none⟩,⟨some 24,.load 2 true (.t 23),none⟩,⟨some 25,.load 4 true (.t 11),none⟩,⟨some 26,.load 1 false (.t 10),none⟩,⟨some 27,.Xb (.t 26),none⟩,⟨some 28,.Ve 2 (.t 27),none⟩,⟨some 29,.load 9 true (.t 28),none⟩,⟨none,.store 2 (.t 6) (.t 24),none⟩,⟨none,.store 4 (.t 7) (.t 25),none⟩,⟨none,.store 9 (.t 8) (.t 29),none⟩,⟨none,.store 1 (.t 9) (.k (.p (.i .i64 0))),none⟩] [.apart 11 6,.apart 10 6,.apart 28 6,.apart 10 7,.apart 28 7])
 .ret))
def FR:aU:=(.draw [3,4] [] [⟨some 8,.load 1 false (.t 0),none⟩,⟨some 9,.Xb (.t 8),none⟩,⟨some 10,.Ve 0 (.t 9),none⟩,⟨some 11,.load 2 true (.t 10),none⟩,⟨some 12,.load 1 false (.t 0),none⟩,⟨some 13,.Xb (.t 12),none⟩,⟨some 14,.Ve 2 (.t 13),none⟩,⟨some 15,.load 9 true (.t 14),none⟩,⟨none,.store 2 (.t 1) (.t 11),none⟩,⟨none,.store 9 (.t 2) (.t 15),none⟩] [])
def B5:aU:=(.ops [3,4,5,18] [⟨some 17,.Vo (.t 5),none⟩,⟨some 18,.bin .neq .eT (.t 17) (.k (.p .lS)),none⟩])
def Ii:CI:=⟨some 20,.Vo (.t 5),none⟩
def Ht:List CI:=[⟨some 19,.Vo (.t 21),none⟩,⟨some 22,.extract (.t 19) 0,none⟩,⟨some 23,.extract (.t 19) 1,none⟩,⟨some 6,.new [(.p (.i .i64 0))],none⟩,⟨none,.store 1 (.t 6) (.t 22),none⟩,⟨some 7,.Vo (.t 23),none⟩]
def Hu:aU:=(.seq (.seq (.ops [3,4,5,6,25] [⟨some 24,.Vo (.t 7),none⟩,⟨some 25,.not (.t 24),none⟩])
 (.cond (.t 25) (.ops [3,4,6] [⟨some 26,.Vo (.t 5),none⟩,⟨none,.panic (.t 26),none⟩])
  .skip))
 (.draw [] [] [⟨some 27,.build [(.p (.i .i64 0)),(.p (.i .i64 0)),(.p (.s [])),.aC] [],none⟩,⟨some 28,.Ve 0 (.t 6),none⟩,⟨some 29,.load 1 false (.t 28),none⟩,⟨none,.store 4 (.t 3) (.t 27),none⟩,⟨none,.store 1 (.t 4) (.t 29),none⟩] [.apart 28 3]))
variable {call:di}{loop:js}{aK:Nat}
def z9:List AV:=[.p (.i .i64 0),.p (.i .i64 0),.p (.i .i64 0),.p (.i .i64 0),.p (.i .i64 0),.p (.i .i64 0),.p (.i .i64 0),.p (.i .i64 0),.p (.i .i64 0)]
def Vt:List AV:=[.p (.i .i64 0),.p (.i .i64 0),.p (.s []),.aC]
theorem LD {ay:List (List PV)}{C F:Int}{D:Bool}:bo pg call loop aK Hr (sE 0 [.ag [.p (.sl ay),.p (.i .i64 C)],.p (.b D),.p (.i .i64 F)]) [] =
  some (.normal,[(1,.p (.b D)),(2,.p (.i .i64 F)),(3,.ptr 0 0),(6,.ptr 1 0),(7,.ptr 2 0),(8,.ptr 3 0),(9,.ptr 4 0)],[.box [.p (.sl ay),.p (.i .i64 C)],.box [.aC,.p (.i .i64 0)],.box Vt,.box z9,.box [.p (.i .i64 0)]]):=by
 simp[Hr,aj,Vt,z9]
def qE (F:Int)(D:Bool):Env:=[(1,.p (.b D)),(2,.p (.i .i64 F)),(6,.ptr 1 0),(7,.ptr 2 0),(8,.ptr 3 0),(9,.ptr 4 0),(10,.ptr 6 0)]
def Wo (ay:List (List PV))(C:Int)(t:List Int)(d F:Int)(D:Bool):List AV:=.p (.sl ay)::.p (.i .i64 C)::(t.map λi=>AV.p (.i .i64 i))++[.p (.i .i64 d),.p (.i .i64 F),.p (.b D)]
def mq (ay:List (List PV))(C:Int)(c:List AV):Heap:=[.box [.p (.sl ay),.p (.i .i64 C)],.box [.aC,.p (.i .i64 0)],.box Vt,.box z9,.box [.p (.i .i64 0)],.box c,.box [.ptr 5 0]]
def Yx:List Int:=[0,0,0,0,0,0,0,0,0]
theorem LF {ay:List (List PV)}{C F:Int}{D:Bool}:bo pg call loop aK Hs [(1,.p (.b D)),(2,.p (.i .i64 F)),(3,.ptr 0 0),(6,.ptr 1 0),(7,.ptr 2 0),(8,.ptr 3 0),(9,.ptr 4 0)] [.box [.p (.sl ay),.p (.i .i64 C)],.box [.aC,.p (.i .i64 0)],.box Vt,.box z9,.box [.p (.i .i64 0)]] =
  some (.normal,qE F D,mq ay C (Wo ay C Yx 0 F D)):=by
 simp[Hs,aj,Vt,z9,qE,mq,Wo,Yx]
def GK (k n:Int)(s:List UInt8)(l:List (List PV)):List AV:=[.p (.i .i64 k),.p (.i .i64 n),.p (.s s),.p (.sl l)]
def ti (t:List Int):List AV:=t.map λi=>AV.p (.i .i64 i)
def LG (call:di)(ay:List (List PV))(C F:Int)(D:Bool)(o:Out)(rows':List (List PV))(C':Int)(t:List Int)(d F':Int)(D':Bool):Prop :=
 UM pg call 32 [.ptr 5 0,.ag [.p (.i .i64 0),.p (.i .i64 0)]] (mq ay C (Wo ay C Yx 0 F D))=some (o,mq ay C (Wo rows' C' t d F' D'))
def LH (ay:List (List PV))(C:Int)(rows':List (List PV))(C':Int)(t:List Int)(d F':Int)(D':Bool)(sh:List AV)(e:Int)(sh':List AV):Heap:=[.box [.p (.sl ay),.p (.i .i64 C)],.box [.p (.sl rows'),.p (.i .i64 C')],.box sh,.box (ti t),.box [.p (.i .i64 e)],.box (Wo rows' C' t d F' D'),.box [.ptr 5 0],.box sh']
theorem LI {ay rows' l:List (List PV)}{C C' F F' d k n:Int}{D D':Bool}{t:List Int}{s:List UInt8}{v:AV}(ht:t.length=9)(hs:LG (pg:=pg) call ay C F D (.ret (.ag (GK k n s l))) rows' C' t d F' D') :
  bo pg call loop aK B4 ((17,v)::qE F D) (mq ay C (Wo ay C Yx 0 F D))=some (.ret,[(6,.ptr 1 0),(7,.ptr 2 0),(8,.ptr 3 0),(9,.ptr 4 0)],LH ay C rows' C' t d F' D' (GK k n s l) 0 (GK k n s l)):=by
 obtain⟨t0,t1,t2,t3,t4,t5,t6,t7,t8,rfl⟩:∃t0 t1 t2 t3 t4 t5 t6 t7 t8,t=[t0,t1,t2,t3,t4,t5,t6,t7,t8]:=by
  match t,ht with
  |[t0,t1,t2,t3,t4,t5,t6,t7,t8],_=>exact⟨t0,t1,t2,t3,t4,t5,t6,t7,t8,rfl⟩
 unfold LG at hs;generalize hG:mq ay C (Wo ay C Yx 0 F D)=G0 at *;have h6:G0[6]?=some (.box [.ptr 5 0]):=by rw[<- hG];rfl
 simp[B4,aj,qE,h6,hs];simp[mq,GK,Wo,Vt,z9,LH,ti,aj];rw[ah ⟨rfl,rfl,rfl,rfl,rfl⟩];rfl
theorem LJ {ay rows':List (List PV)}{C C' F F' d:Int}{D D':Bool}{t:List Int}{w v:AV}(hs:LG (pg:=pg) call ay C F D (.iL w) rows' C' t d F' D') :
  bo pg call loop aK B4 ((17,v)::qE F D) (mq ay C (Wo ay C Yx 0 F D))=some (.iL w,(19,.ag [.p (.i .i64 0),.p (.i .i64 0)])::(18,.ptr 5 0)::(17,v)::qE F D,mq ay C (Wo rows' C' t d F' D')):=by
 unfold LG at hs;generalize hG:mq ay C (Wo ay C Yx 0 F D)=G0 at *;have h6:G0[6]?=some (.box [.ptr 5 0]):=by rw[<- hG];rfl
 simp[B4,aj,qE,h6,hs]
def hg (ay:List (List PV))(C:Int)(a1 a2 a3 a4 c5:List AV)(tl:Heap):Heap:=.box [.p (.sl ay),.p (.i .i64 C)]::.box a1::.box a2::.box a3::.box a4::.box c5::.box [.ptr 5 0]::tl
def mC (ay:List (List PV))(C:Int):List AV:=[.p (.sl ay),.p (.i .i64 C)]
def Ij:Env:=sE 0 [.ptr 6 0,.ptr 1 0,.ptr 3 0,.ptr 2 0,.ptr 4 0]
theorem Ik {ay rows':List (List PV)}{C C' F' d:Int}{D':Bool}{t:List Int}{x1 x2:AV}{a2 a3 a4:List AV}{tl:Heap}(ht:t.length=9)(h3:a3.length=9)(hx:x1.flat=true/\x2.flat=true)(ha:a3.all AV.flat=true) :
  bo pg call loop aK FR Ij (hg ay C [x1,x2] a2 a3 a4 (Wo rows' C' t d F' D') tl)=some (.normal,[(3,.ptr 2 0),(4,.ptr 4 0)],hg ay C (mC rows' C') a2 (ti t) a4 (Wo rows' C' t d F' D') tl):=by
 obtain⟨t0,t1,t2,t3,t4,t5,t6,t7,t8,rfl⟩:∃t0 t1 t2 t3 t4 t5 t6 t7 t8,t=[t0,t1,t2,t3,t4,t5,t6,t7,t8]:=by
  match t,ht with
  |[t0,t1,t2,t3,t4,t5,t6,t7,t8],_=>exact⟨t0,t1,t2,t3,t4,t5,t6,t7,t8,rfl⟩
 obtain⟨u0,u1,u2,u3,u4,u5,u6,u7,u8,rfl⟩:∃t0 t1 t2 t3 t4 t5 t6 t7 t8,a3=[t0,t1,t2,t3,t4,t5,t6,t7,t8]:=by
  match a3,h3 with
  |[t0,t1,t2,t3,t4,t5,t6,t7,t8],_=>exact⟨t0,t1,t2,t3,t4,t5,t6,t7,t8,rfl⟩
 simp[FR,Ij,hg,Wo,mC,ti,aj]
theorem JH {G:Heap}:bo pg call loop aK B5 [(5,.p .lS),(16,.p .lS),(3,.ptr 2 0),(4,.ptr 4 0)] G=some (.normal,[(3,.ptr 2 0),(4,.ptr 4 0),(5,.p .lS),(18,.p (.b false))],G):=by
 simp[B5,aj,mG]
theorem JI {G:Heap}{v:AV}:bo pg call loop aK B5 [(5,.eT 70 v),(16,.eT 70 v),(3,.ptr 2 0),(4,.ptr 4 0)] G=some (.normal,[(3,.ptr 2 0),(4,.ptr 4 0),(5,.eT 70 v),(18,.p (.b true))],G):=by
 simp[B5,aj,mG]
theorem LK {v:AV}{e:Int}{G:Heap}:dP pg call Ht [(21,.dF [.ag [.p (.i .i64 e)],.p (.b true)]),(20,.eT 70 v),(3,.ptr 2 0),(4,.ptr 4 0),(5,.eT 70 v),(18,.p (.b true))] G =
  some (.normal,[(7,.p (.b true)),(6,.ptr G.length 0),(23,.p (.b true)),(22,.ag [.p (.i .i64 e)]),(19,.dF [.ag [.p (.i .i64 e)],.p (.b true)]),(21,.dF [.ag [.p (.i .i64 e)],.p (.b true)]),(20,.eT 70 v),(3,.ptr 2 0),(4,.ptr 4 0),(5,.eT 70 v),(18,.p (.b true))],G++[.box [.p (.i .i64 e)]]):=by
 simp[Ht,aj]
theorem LL {v:AV}{e:Int}{ay:List (List PV)}{C:Int}{a1 a3 c5:List AV}:bo pg call loop aK Hu [(7,.p (.b true)),(6,.ptr 7 0),(23,.p (.b true)),(22,.ag [.p (.i .i64 e)]),(19,.dF [.ag [.p (.i .i64 e)],.p (.b true)]),(21,.dF [.ag [.p (.i .i64 e)],.p (.b true)]),(20,.eT 70 v),(3,.ptr 2 0),(4,.ptr 4 0),(5,.eT 70 v),(18,.p (.b true))] (hg ay C a1 Vt a3 [.p (.i .i64 0)] c5 [.box [.p (.i .i64 e)]]) =
  some (.normal,[],hg ay C a1 Vt a3 [.p (.i .i64 e)] c5 [.box [.p (.i .i64 e)]]):=by
 simp[Hu,aj,hg,Vt]
end
section
variable {pg:fX}{G:Heap}
noncomputable def Ek:Code×Code×Array Oper×Code:=match Tryz.f11.body with
 |some (.seq r0 (.seq r1 (.seq (.region _ ops _) tl)))=>(r0,r1,ops,tl)
 |_=>(.skip,.skip,#[],.skip)
theorem tO:Tryz.f11.body=some (.seq Ek.1 (.seq Ek.2.1 (.seq (.region 2 Ek.2.2.1 false) Ek.2.2.2))):=by kernel_rfl
theorem LM:gy Tryz.prog 30 Ek.1=some (erase Hr):=by kernel_rfl
theorem LN:gy Tryz.prog 30 Ek.2.1=some (erase Hs):=by kernel_rfl
theorem Il:gy Tryz.prog 30 Ek.2.2.2=some (erase B4):=by kernel_rfl
noncomputable def LO:Oper:=Ek.2.2.1.getD 0 default
def FT:Oper:={ dst:=none,op:=.defer { callee:=.value (.tmp 17),args:=#[],argTypes:=#[] },type:=0,pos:= "read.go:66",after:=#[{ on:=0,ground:=.data }],guard:=none }
theorem LP:Ek.2.2.1[0]?=some LO:=by kernel_rfl
theorem LQ:Ek.2.2.1[1]?=some FT:=by kernel_rfl
theorem LR:List.range Ek.2.2.1.size=[0,1]:=by kernel_rfl
theorem LS:mJ Tryz.prog 30 Ek.2.2.1 LO=some LC:=by kernel_rfl
noncomputable def y4:Code×Array Oper×Code×Array Oper×Code:=match Tryz.f31.body with
 |some (.seq r0 (.seq (.region _ o1 _) (.seq r2 (.cond _ (.seq (.region _ o3 _) x) _))))=>(r0,o1,r2,o3,x)
 |_=>(.skip,#[],.skip,#[],.skip)
theorem OQ:Tryz.f31.body=some (.seq y4.1 (.seq (.region 1 y4.2.1 false) (.seq y4.2.2.1 (.cond (.tmp 18) (.seq (.region 3 y4.2.2.2.1 false) y4.2.2.2.2) .skip)))):=by kernel_rfl
theorem Im:gy Tryz.prog 30 y4.1=some (erase FR):=by kernel_rfl
theorem Io:gy Tryz.prog 30 y4.2.2.1=some (erase B5):=by kernel_rfl
theorem LU:gy Tryz.prog 30 y4.2.2.2.2=some (erase Hu):=by kernel_rfl
def Oc:Oper:={ dst:=some 16,op:=.call { callee:=.builtin .recover,args:=#[],argTypes:=#[] },type:=20,pos:= "read.go:68",after:=#[],guard:=none }
def Od:Oper:={ dst:=some 5,op:=.assign (.tmp 16),type:=20,pos:= "read.go:68",after:=#[{ on:=0,ground:=.data },{ on:=0,ground:=.chain },{ on:=0,ground:=.phase }],guard:=none }
def JJ:Oper:={ dst:=some 21,op:=.typeAssert (.tmp 20) 20 70 true,type:=71,pos:= "read.go:69",after:=#[{ on:=0,ground:=.data }],guard:=none }
theorem Ip:List.range y4.2.1.size=[0,1]:=by kernel_rfl
theorem Iq:y4.2.1[0]?=some Oc:=by kernel_rfl
theorem Ir:y4.2.1[1]?=some Od:=by kernel_rfl
noncomputable def MH (k:Nat):Oper:=y4.2.2.2.1.getD k default
theorem LV:List.range y4.2.2.2.1.size=[0,1,2,3,4,5,6,7]:=by kernel_rfl
theorem LW:y4.2.2.2.1[0]?=some (MH 0):=by kernel_rfl
theorem LX:y4.2.2.2.1[1]?=some JJ:=by kernel_rfl
theorem LY:mJ Tryz.prog 30 y4.2.2.2.1 (MH 0)=some Ii:=by kernel_rfl
theorem LZ:∀k,k<6->y4.2.2.2.1[k+2]?=some (MH (k+2))/\mJ Tryz.prog 30 y4.2.2.2.1 (MH (k+2))=Ht[k]?:=by
 intro k hk
 match k,hk with
 |0,_=>exact⟨by kernel_rfl,by kernel_rfl⟩
 |1,_=>exact⟨by kernel_rfl,by kernel_rfl⟩
 |2,_=>exact⟨by kernel_rfl,by kernel_rfl⟩
 |3,_=>exact⟨by kernel_rfl,by kernel_rfl⟩
 |4,_=>exact⟨by kernel_rfl,by kernel_rfl⟩
 |5,_=>exact⟨by kernel_rfl,by kernel_rfl⟩
theorem Oe:Al Tryz.prog 30 y4.2.2.2.1 [2,3,4,5,6,7] Ht:=by
 have h:=LZ;exact .cons (h 0 (by omega)).1 (h 0 (by omega)).2 (.cons (h 1 (by omega)).1 (h 1 (by omega)).2 (.cons (h 2 (by omega)).1 (h 2 (by omega)).2 (.cons (h 3 (by omega)).1 (h 3 (by omega)).2 (.cons (h 4 (by omega)).1 (h 4 (by omega)).2 (.cons (h 5 (by omega)).1 (h 5 (by omega)).2 .nil)))))
theorem YZ:XX Tryz.prog Tryz.f11.results.toList=some [.cell 6 2 true,.cell 7 4 true,.cell 8 9 true,.cell 9 1 false]:=by kernel_rfl
section
variable {P:Program}{call:di}{N:Nat}{ops:Array Oper}
theorem AW (hC:f_ P call)(hE:fy P call){E:zR}{Q:Exit->Act->World->Prop}{k:Nat}{is:List Nat}{o:Oper}{ci:CI}(ho:ops[k]?=some o)(hc:mJ P N ops o=some ci){aN F:Env}{G G1:Heap}(hev:kE pg call ci aN G=some (F,G1)){m:Mem}{μ:Mu}{a:Act}{w:World}
  (hp:Pt N E G aN a w m μ) (h:∀m' cA a' w',Pt N E G1 F a' w' m' cA->wpOps P ops Q is a' w'):wpOps P ops Q (k::is) a w:=by
 rw[wpOps_cons];unfold wpOp;rw[ho];dsimp only;have:=XY hC hE hc hev hp.inv hp.aN (next:=wpOps P ops Q is) (Q:=Q) (λm' cA w' val hI hS he=>h m' cA (a.put o.dst val) w' (hp.step hI hS he (by rw[Act.j5];exact hp.tG)));split
 ·rename_i hw;rw[ah hw]at this;exact .inl this
 ·rename_i hw;rw[aa hw]at this;exact this
end
section
variable {P:Program}{Q:Exit->Act->List Frame->World->Prop}{ops:Array Oper}{i:Nat}{rest:List Nat}{a:Act}{cs:List Frame}{w w':World}{o:Oper}
theorem AX (ho:ops[i]?=some o)(hw:Region.wanted o (yielded ops a.tmps)=true)(hr:(execOp a.eval o).run P w=.ok .recover w')(hc:recoverD cs=none)(h:wpOpsS P ops Q rest (a.put o.dst .nilIface) cs w'):wpOpsS P ops Q (i::rest) a cs w:=by
 unfold wpOpsS;rw[ho];dsimp only;rw[ah hw,hr];dsimp only;rw[hc];exact h
theorem AY {v:Value}{cs':List Frame}(ho:ops[i]?=some o)(hw:Region.wanted o (yielded ops a.tmps)=true)(hr:(execOp a.eval o).run P w=.ok .recover w')(hc:recoverD cs=some (v,cs'))(h:wpOpsS P ops Q rest (a.put o.dst v) cs' w'):wpOpsS P ops Q (i::rest) a cs w:=by
 unfold wpOpsS;rw[ho];dsimp only;rw[ah hw,hr];dsimp only;rw[hc];exact h
theorem v9 {v:Value}(ho:ops[i]?=some o)(hw:Region.wanted o (yielded ops a.tmps)=true)(hr:(execOp a.eval o).run P w=.ok (.value v) w')(h:wpOpsS P ops Q rest (a.put o.dst v) cs w'):wpOpsS P ops Q (i::rest) a cs w:=by
 unfold wpOpsS;rw[ho];dsimp only;rw[ah hw,hr];exact h
end
theorem B6 {m:Mem}{μ:Mu}{G:Heap}{w:World}(hI:Inv m μ G w)(ht:∀id,id<G.length->∃l,μ id=some l){vs:List Value}{args:List AV}(hr:RL m μ (inf G) vs args)(hl:args.length<=30) :
  Pt 30 ⟨m,μ,G,w,[]⟩ G (sE 0 args) { tmps:=vs.toArray++Array.replicate (30-vs.toArray.size) undef,defers:=[] } w m μ:=by
 refine⟨hI,⟨by simp;omega,λk x hk=>?_⟩,rfl,ht,.refl _ _ _,.refl _ _ _⟩;obtain⟨_,hx⟩:=XW args 0 k x hk;simp at hx;have hlt:k<vs.length:=by rw[hr.1];exact(gE hx).1
 have:=hr.2 k vs[k] x (gG hlt) hx;simpa [bQ,Array.getElem?_append,hlt] using this
theorem R.xR {m:Mem}{μ:Mu}{i:Wp}{v:Value}{b:Bool}(h:R m μ i v (.p (.b b))):v=.bool b:=by
 cases h with|p _ _ h=>cases h;rfl
theorem R.FU {m:Mem}{μ:Mu}{i:Wp}{v:Value}{t:Nat}{x:AV}(h:R m μ i v (.eT t x)):∃z,v=.iface t z/\R m μ i z x:=by
 cases h with|eT _ z _ h=>exact⟨z,rfl,h⟩
theorem Of (hok:tJ Tryz.prog pg){n:Nat}{ay rows':List (List PV)}{C C' d F':Int}{D':Bool}{t:List Int}{x1 x2:AV}{a2 a3 a4:List AV}{tl:Heap}(ht:t.length=9)(h3:a3.length=9)(hx:x1.flat=true/\x2.flat=true)(ha:a3.all AV.flat=true)
  {m:Mem} {μ:Mu} {w:World} (hI:Inv m μ (hg ay C [x1,x2] a2 a3 a4 (Wo rows' C' t d F' D') tl) w) (htot:∀id,id<(hg ay C [x1,x2] a2 a3 a4 (Wo rows' C' t d F' D') tl).length->∃l,μ id=some l) {vs:List Value}
  (hr:RL m μ (inf (hg ay C [x1,x2] a2 a3 a4 (Wo rows' C' t d F' D') tl)) vs [.ptr 6 0,.ptr 1 0,.ptr 3 0,.ptr 2 0,.ptr 4 0]) :
  CallsD Tryz.prog 31 vs.toArray .returning w λe u' w'=>(∃v,e=.returned v)/\u'=.returning/\∃m' cA,Inv m' cA (hg ay C (mC rows' C') a2 (ti t) a4 (Wo rows' C' t d F' D') tl) w' /\
   lC m μ (hg ay C [x1,x2] a2 a3 a4 (Wo rows' C' t d F' D') tl) w m' cA (hg ay C (mC rows' C') a2 (ti t) a4 (Wo rows' C' t d F' D') tl) w':=by
 obtain⟨hC,hE,hR,hL,hRL⟩:=lE hok n;have hm:=hok.mixed;refine callsD_of_wpS Tryz.func31 OQ λc₀ cs hu=>?_;have hp:=B6 hI htot hr (by simp);generalize hG3:hg ay C [x1,x2] a2 a3 a4 (Wo rows' C' t d F' D') tl=G3 at *
 let E:zR:=⟨m,μ,G3,w,[]⟩
 have hdom:∀id l,E.μ id=some l->id<E.G.length:=λid l hl=>hI.ph id l hl;refine wpS_seq (wpS_of_wp ?_);refine fz (E:=E) hm hR hC hE hL htot hdom _ FR Im (by rw[<- hG3];exact Ik ht h3 hx ha) hp (λa1 w1 m1 μ1 hp1=>?_)
 show Code.wpS _ _ _ _ _ _
 refine wpS_seq (wpS_region ?_);rw[Ip];have hrec:recoverD (c₀::cs)=none:=by unfold recoverD;simp[hu]
 refine AX Iq rfl rfl hrec ?_;have hq1:Pt 30 E (hg ay C (mC rows' C') a2 (ti t) a4 (Wo rows' C' t d F' D') tl) ((16,.p .lS)::[(3,.ptr 2 0),(4,.ptr 4 0)]) (a1.put (some 16) .nilIface) w1 m1 μ1 :=
  ⟨hp1.inv,hp1.aN.put (d:=some 16) rfl (.p _ _ .lS),by rw[Act.j5];exact hp1.tG,hp1.pX,hp1.ext,hp1.fr⟩
 have hv16:=hq1.aN.val 16 _ rfl;refine v9 (v:=(a1.put (some 16) .nilIface).tmps.getD 16 undef) Ir rfl rfl ?_;have hq2:Pt 30 E (hg ay C (mC rows' C') a2 (ti t) a4 (Wo rows' C' t d F' D') tl) ((5,.p .lS)::(16,.p .lS)::[(3,.ptr 2 0),(4,.ptr 4 0)]) ((a1.put (some 16) .nilIface).put (some 5) ((a1.put (some 16) .nilIface).tmps.getD 16 undef)) w1 m1 μ1 :=
  ⟨hq1.inv,hq1.aN.put (d:=some 5) rfl hv16,by rw[Act.j5];exact hq1.tG,hq1.pX,hq1.ext,hq1.fr⟩
 show Code.wpS _ _ _ _ _ _
 refine wpS_of_wp (wp_seq ?_);refine fz (E:=E) hm hR hC hE hL htot hdom _ B5 Io JH hq2 (λa3' w3 m3 μ3 hp3=>?_);have h18:a3'.eval (.tmp 18)=.bool false:=R.xR (hp3.aN.val 18 _ rfl)
 show Code.wp _ _ _ _ _
 refine wp_cond_false h18 (wp_skip ?_);refine⟨hp3.tG,c₀.mode,?_,.tuple #[],?_,⟨_,rfl⟩,hu,m3,μ3,hp3.inv,⟨hp3.ext,hp3.fr,⟨λid hid _=>hp3.pX id hid,λid hid hn=>?_⟩⟩⟩
 ·rfl
 ·exact jb (fn:=Tryz.f31) (vals:=[]) (by rw[show Tryz.f31.results=#[] from Tryz.results31];rfl)
 ·obtain⟨l,hl⟩:=htot id hid;rw[hl]at hn;cases hn
theorem JK (a:Act)(z:Value)(w:World)(h20:a.tmps.getD 20 undef=.iface 70 z):(execOp a.eval JJ).run Tryz.prog w=.ok (.value (.tuple #[z,.bool true])) w:=by
 have h1:(Instr.typeAssert (.iface 70 z) 20 70 true).run Tryz.prog w=.ok (.tuple #[z,.bool true]) w:=by
  simp[Instr.typeAssert,Tryz.runUnderlying70]
 have h2:execOp a.eval JJ=(do let v <- Instr.typeAssert (a.tmps.getD 20 undef) 20 70 true;pure (Next.value v)):=rfl;rw[h2,h20,Sem.run_bind,h1];rfl
theorem Og (hok:tJ Tryz.prog pg){n:Nat}{ay rows':List (List PV)}{C C' d F' e0:Int}{D':Bool}{t:List Int}{x1 x2:AV}{a3:List AV}(ht:t.length=9)(h3:a3.length=9)(hx:x1.flat=true/\x2.flat=true)(ha:a3.all AV.flat=true)
  {m:Mem} {μ:Mu} {w:World} (hI:Inv m μ (hg ay C [x1,x2] Vt a3 [.p (.i .i64 0)] (Wo rows' C' t d F' D') []) w) (htot:∀id,id<(hg ay C [x1,x2] Vt a3 [.p (.i .i64 0)] (Wo rows' C' t d F' D') []).length->∃l,μ id=some l) {vs:List Value}
  (hr:RL m μ (inf (hg ay C [x1,x2] Vt a3 [.p (.i .i64 0)] (Wo rows' C' t d F' D') [])) vs [.ptr 6 0,.ptr 1 0,.ptr 3 0,.ptr 2 0,.ptr 4 0]) {val:Value} (hval:R m μ (inf (hg ay C [x1,x2] Vt a3 [.p (.i .i64 0)] (Wo rows' C' t d F' D') [])) val (.eT 70 (.ag [.p (.i .i64 e0)]))) :
  CallsD Tryz.prog 31 vs.toArray (.panicking [{ v:=val,recovered:=false }]) w λe u' w'=>(∃v,e=.returned v)/\u'=.panicking [{ v:=val,recovered:=true }]/\∃m' cA,Inv m' cA (hg ay C (mC rows' C') Vt (ti t) [.p (.i .i64 e0)] (Wo rows' C' t d F' D') [.box [.p (.i .i64 e0)]]) w' /\
   lC m μ (hg ay C [x1,x2] Vt a3 [.p (.i .i64 0)] (Wo rows' C' t d F' D') []) w m' cA (hg ay C (mC rows' C') Vt (ti t) [.p (.i .i64 e0)] (Wo rows' C' t d F' D') [.box [.p (.i .i64 e0)]]) w':=by
 obtain⟨hC,hE,hR,hL,hRL⟩:=lE hok n;have hm:=hok.mixed;refine callsD_of_wpS Tryz.func31 OQ λc₀ cs hu=>?_;have hp:=B6 hI htot hr (by simp);generalize hG3:hg ay C [x1,x2] Vt a3 [.p (.i .i64 0)] (Wo rows' C' t d F' D') []=G3 at *
 let E:zR:=⟨m,μ,G3,w,[]⟩
 have hdom:∀id l,E.μ id=some l->id<E.G.length:=λid l hl=>hI.ph id l hl;refine wpS_seq (wpS_of_wp ?_);refine fz (E:=E) hm hR hC hE hL htot hdom _ FR Im (by rw[<- hG3];exact Ik ht h3 hx ha) hp (λa1 w1 m1 μ1 hp1=>?_)
 show Code.wpS _ _ _ _ _ _
 refine wpS_seq (wpS_region ?_);rw[Ip];have hrec:recoverD (c₀::cs)=some (val,{ c₀ with mode:=.panicking [{ v:=val,recovered:=true }] }::cs):=by unfold recoverD;simp[hu]
 refine AY Iq rfl rfl hrec ?_;have hq1:Pt 30 E (hg ay C (mC rows' C') Vt (ti t) [.p (.i .i64 0)] (Wo rows' C' t d F' D') []) ((16,.eT 70 (.ag [.p (.i .i64 e0)]))::[(3,.ptr 2 0),(4,.ptr 4 0)]) (a1.put (some 16) val) w1 m1 μ1 :=
  ⟨hp1.inv,hp1.aN.put (d:=some 16) rfl (hval.mono hp1.ext),by rw[Act.j5];exact hp1.tG,hp1.pX,hp1.ext,hp1.fr⟩
 have hv16:=hq1.aN.val 16 _ rfl;refine v9 (v:=(a1.put (some 16) val).tmps.getD 16 undef) Ir rfl rfl ?_;have hq2:Pt 30 E (hg ay C (mC rows' C') Vt (ti t) [.p (.i .i64 0)] (Wo rows' C' t d F' D') []) ((5,.eT 70 (.ag [.p (.i .i64 e0)]))::(16,.eT 70 (.ag [.p (.i .i64 e0)]))::[(3,.ptr 2 0),(4,.ptr 4 0)]) ((a1.put (some 16) val).put (some 5) ((a1.put (some 16) val).tmps.getD 16 undef)) w1 m1 μ1 :=
  ⟨hq1.inv,hq1.aN.put (d:=some 5) rfl hv16,by rw[Act.j5];exact hq1.tG,hq1.pX,hq1.ext,hq1.fr⟩
 show Code.wpS _ _ _ _ _ _
 refine wpS_of_wp (wp_seq ?_);refine fz (E:=E) hm hR hC hE hL htot hdom _ B5 Io JI hq2 (λa4 w4 m4 μ4 hp4=>?_);have h18:a4.eval (.tmp 18)=.bool true:=R.xR (hp4.aN.val 18 _ rfl)
 show Code.wp _ _ _ _ _
 refine wp_cond_true h18 (wp_seq (wp_region ?_));rw[LV];refine AW (pg:=pg) (F:=[(20,.eT 70 (.ag [.p (.i .i64 e0)])),(3,.ptr 2 0),(4,.ptr 4 0),(5,.eT 70 (.ag [.p (.i .i64 e0)])),(18,.p (.b true))]) (G1:=hg ay C (mC rows' C') Vt (ti t) [.p (.i .i64 0)] (Wo rows' C' t d F' D') []) hC hE LW LY (by simp[kE,Ii,tu,Uu,eH,lk,put,one]) hp4 (λm5 μ5 a5 w5 hp5=>?_);obtain⟨z,hz,hzr⟩:=R.FU (hp5.aN.val 20 _ rfl);have hta:=JK a5 z w5 hz;refine xQ LX rfl hta ?_;have hq5:Pt 30 E (hg ay C (mC rows' C') Vt (ti t) [.p (.i .i64 0)] (Wo rows' C' t d F' D') []) ((21,.dF [.ag [.p (.i .i64 e0)],.p (.b true)])::[(20,.eT 70 (.ag [.p (.i .i64 e0)])),(3,.ptr 2 0),(4,.ptr 4 0),(5,.eT 70 (.ag [.p (.i .i64 e0)])),(18,.p (.b true))]) (a5.put (some 21) (.tuple #[z,.bool true])) w5 m5 μ5 :=
  ⟨hp5.inv,hp5.aN.put (d:=some 21) rfl (.uP (cs:=#[z,.bool true]) (.cons hzr (.cons (.p _ _ (.b true)) .nil))),by rw[Act.j5];exact hp5.tG,hp5.pX,hp5.ext,hp5.fr⟩
 refine xv (pg:=pg) hC hE Oe LK hq5 (λa6 w6 m6 μ6 hp6=>?_)
 show Code.wp _ _ _ _ _
 refine fz (E:=E) hm hR hC hE hL htot hdom _ Hu LU LL hp6 (λa7 w7 m7 μ7 hp7=>?_);refine⟨hp7.tG,.panicking [{ v:=val,recovered:=true }],rfl,.tuple #[],?_,⟨_,rfl⟩,rfl,m7,μ7,hp7.inv,⟨hp7.ext,hp7.fr,⟨λid hid _=>hp7.pX id hid,λid hid hn=>?_⟩⟩⟩
 ·exact jb (fn:=Tryz.f31) (vals:=[]) (by rw[show Tryz.f31.results=#[] from Tryz.results31];rfl)
 ·obtain⟨l,hl⟩:=htot id hid;rw[hl]at hn;cases hn
def nM (ay:List (List PV))(C:Int)(sh:List AV)(t:List Int)(e:Int):Out:=.ret (.dF [.ag (mC ay C),.ag sh,.ag (ti t),.p (.i .i64 e)])
theorem CZ:∀t:List Int,bm (ti t)=true
 |[]=>rfl
 |a::r=>by
  have:=CZ r;simpa [ti,bm,cE] using this
theorem Is {m0 m:Mem}{μ0 μ:Mu}{w0 w:World}{E:zR}{aN:Env}{a:Act}{m1:Mem}{μ1:Mu}{w1:World}{G1:Heap}(hp:Pt 30 E G1 aN a w1 m1 μ1)(h0:Ext m0 μ0 [] m1 μ1 G1)(f0:Fr m0 μ0 w0 m1 μ1 w1)(hμ0:μ0=λ_=>none)
  (hn6:lk aN 6=some (.ptr 1 0)) (hn7:lk aN 7=some (.ptr 2 0)) (hn8:lk aN 8=some (.ptr 3 0)) (hn9:lk aN 9=some (.ptr 4 0))
  {ay rows':List (List PV)} {C C' e:Int} {sh c5:List AV} {t:List Int} {tl:Heap} (ht:t.length=9) (hsh:sh.length=4/\cH 0 sh=true) (hS:lC m1 μ1 G1 w1 m μ (hg ay C (mC rows' C') sh (ti t) [.p (.i .i64 e)] c5 tl) w) (hI:Inv m μ (hg ay C (mC rows' C') sh (ti t) [.p (.i .i64 e)] c5 tl) w) :
  ∃v,(results Tryz.f11 a.tmps).run Tryz.prog w=.ok v w/\∃m' cA,Inv m' cA [] w/\lC m0 μ0 [] w0 m' cA [] w/\WL m' cA (inf []) (nM rows' C' sh t e) (.returned v):=by
 have hp':Pt 30 ⟨m,μ,hg ay C (mC rows' C') sh (ti t) [.p (.i .i64 e)] c5 tl,w,a.defers⟩ (hg ay C (mC rows' C') sh (ti t) [.p (.i .i64 e)] c5 tl) aN a w m μ :=
  ⟨hI,hp.aN.mono hS.ext,rfl,hS.total hp.pX,.refl _ _ _,.refl _ _ _⟩
 have htl:(ti t).length=9:=by simp[ti,ht]
 have hev:VI aN (hg ay C (mC rows' C') sh (ti t) [.p (.i .i64 e)] c5 tl) [.cell 6 2 true,.cell 7 4 true,.cell 8 9 true,.cell 9 1 false]=some [.ag (mC rows' C'),.ag sh,.ag (ti t),.p (.i .i64 e)]:=by
  obtain⟨s0,s1,s2,s3,rfl⟩:∃s0 s1 s2 s3,sh=[s0,s1,s2,s3]:=by
   match sh,hsh.1 with
   |[s0,s1,s2,s3],_=>exact⟨s0,s1,s2,s3,rfl⟩
  obtain⟨t0,t1,t2,t3,t4,t5,t6,t7,t8,rfl⟩:∃t0 t1 t2 t3 t4 t5 t6 t7 t8,t=[t0,t1,t2,t3,t4,t5,t6,t7,t8]:=by
   match t,ht with
   |[t0,t1,t2,t3,t4,t5,t6,t7,t8],_=>exact⟨t0,t1,t2,t3,t4,t5,t6,t7,t8,rfl⟩
  simp[VI,hn6,hn7,hn8,hn9,fN,hg,mC,ti]
 obtain⟨vals,k1,k2⟩:=nF hp' Tryz.f11.results.toList YZ hev;refine⟨og vals,jb k1,?_⟩;have hw:=yC k2;have hbel:(nM rows' C' sh t e).bf 0=true:=by
  have h1:cH 0 sh=true:=hsh.2;have h2:cH 0 (ti t)=true:=bE 0 (CZ t);simp[nM,Out.bf,bf,cH,mC,h1,h2]
 obtain⟨μ3,j1,j2,j3⟩:=kn (out:=nM rows' C' sh t e) (out':=nM rows' C' sh t e) (G':=[]) hI (h0.trans hS.ext) (f0.trans hS.fr) (λid hid=>by simp at hid) (λid l hl=>by rw[hμ0]at hl;cases hl) (by unfold aj;rw[show([]:Heap).length=0 from rfl,hbel];simp) (e:=.returned (og vals)) hw;exact⟨m,μ3,j1,j2,j3⟩
theorem AZ (hok:tJ Tryz.prog pg){n:Nat}{ay rows':List (List PV)}{C C' F F' d:Int}{D D':Bool}{t:List Int}(ht:t.length=9){o res:Out}
  (hs:dr pg n 32 [.ptr 0 0,.ag [.p (.i .i64 0),.p (.i .i64 0)]] [.box (Wo ay C Yx 0 F D)]=some (o,[.box (Wo rows' C' t d F' D')]))
  (ho:(∃k nn s l,o=.ret (.ag (GK k nn s l))/\res=nM rows' C' (GK k nn s l) t 0)\/∃e,o=.iL (.eT 70 (.ag [.p (.i .i64 e)]))/\res=nM rows' C' Vt t e)
  {m:Mem} {w:World} {vargs:List Value} (hI:Inv m (λ_=>none) [] w) (hr:RL m (λ_=>none) (inf []) vargs [.ag [.p (.sl ay),.p (.i .i64 C)],.p (.b D),.p (.i .i64 F)]) :
  Calls Tryz.prog 11 vargs.toArray w λe w'=>∃m' cA,Inv m' cA [] w'/\lC m (λ_=>none) [] w m' cA [] w'/\WL m' cA (inf []) res e:=by
 have hflat:∀ay C t d F D,bm (Wo ay C t d F D)=true:=by
  intro ay C t d F D;unfold Wo;simp only[aH,bm,cE,UX,oC,fL]
  induction t with
  |nil=>rfl
  |cons a r ih=>simpa [bm,cE] using ih
 obtain⟨hC,hE,hR,hL,hRL⟩:=lE hok n;have hm:=hok.mixed;have hob:o.bf 0=true:=by
  rcases ho with ⟨k,nn,s,l,rfl,_⟩|⟨e,rfl,_⟩<;>rfl
 have hShp:LG (pg:=pg) (dr pg n) ay C F D o rows' C' t d F' D' :=
  sZ (pg:=pg) (k:=5) (G:=mq ay C (Wo ay C Yx 0 F D)) hs rfl rfl (hflat _ _ _ _ _ _) (hflat _ _ _ _ _ _) hob
 refine calls_of_wp_defers Tryz.func11 tO ?_;have hp:=B6 hI (λid hid=>by simp at hid) hr (by simp)
 let E:zR:=⟨m,λ_=>none,[],w,[]⟩
 have ht0:∀id,id<E.G.length->∃l,E.μ id=some l:=λid hid=>by simp[E]at hid
 have hd0:∀id l,E.μ id=some l->id<E.G.length:=λid l hl=>by cases hl
 refine wp_seq ?_;refine fz (E:=E) hm hR hC hE hL ht0 hd0 _ Hr LM LD hp (λa1 w1 m1 μ1 hp1=>?_)
 show Code.wp _ _ _ _ _
 refine wp_seq ?_;refine fz (E:=E) hm hR hC hE hL ht0 hd0 _ Hs LN LF hp1 (λa2 w2 m2 μ2 hp2=>?_)
 show Code.wp _ _ _ _ _
 refine wp_seq (wp_region ?_);rw[LR];refine AW (pg:=pg) (F:=(17,.fn 31 [] [.ptr 6 0,.ptr 1 0,.ptr 3 0,.ptr 2 0,.ptr 4 0])::qE F D) (G1:=mq ay C (Wo ay C Yx 0 F D)) hC hE LP LS (by simp[kE,LC,tu,Uu,gQ,eH,lk,put,one,qE]) hp2 (λm3 μ3 a3 w3 hp3=>?_);obtain⟨x,y,hxy,hx,hy⟩:=R.zI (hp3.aN.val 17 _ rfl);have hx0:x=#[]:=by
  have:=hx.mK;exact lN.1 this
 subst hx0;have h17:a3.tmps[17]?.getD undef=.func (.func 31) #[] y:=by simpa [bQ] using hxy
 have hdef:(execOp a3.eval FT).run Tryz.prog w3=.ok (.defer { target:=.fn (.func 31) y,args:=#[] }) w3:=by
  simp[execOp,FT,h17,go_sem]
 rw[wpOps_cons];unfold wpOp;rw[LQ];dsimp only;rw[ah (show Region.wanted FT (yielded _ a3.tmps)=true from rfl)];refine .inl ?_;unfold Oper.wp;rw[hdef,Oper.upon_defer]
 show Code.wp _ _ _ _ _
 let E1:zR:=⟨m3,μ3,mq ay C (Wo ay C Yx 0 F D),w3,[{ target:=.fn (.func 31) y,args:=#[] }]⟩
 have hp4:Pt 30 E1 (mq ay C (Wo ay C Yx 0 F D)) ((17,.fn 31 [] [.ptr 6 0,.ptr 1 0,.ptr 3 0,.ptr 2 0,.ptr 4 0])::qE F D) ({ a3 with defers:={ target:=.fn (.func 31) y,args:=#[] }::a3.defers }.put FT.dst undef) w3 m3 μ3 :=
  ⟨hp3.inv,⟨hp3.aN.size,hp3.aN.val⟩,by show _::a3.defers=_;rw[hp3.tG],hp3.pX,.refl _ _ _,.refl _ _ _⟩
 have hinv:∀w5,(invoke (.fn (.func 31) y) #[]).run Tryz.prog w5=.ok (.enter 31 y.toList.toArray) w5:=λw5=>by
  simp[invoke,Tryz.call31,go_sem]
 have hdom1:∀id l,E1.μ id=some l->id<E1.G.length:=λid l hl=>hp3.inv.ph id l hl;rcases ho with ⟨k,nn,s,l,rfl,rfl⟩|⟨e,rfl,rfl⟩
 ·refine fz (E:=E1) hm hR hC hE hL hp3.pX hdom1 _ B4 Il (LI ht hShp) hp4 (λa5 w5 m5 μ5 hp5=>?_)
  show Leaves _ _ _ _ _ _ _
  rw[hp5.tG];refine leaves_cons (by simp) (hinv w5) ?_;refine(Of hok (n:=n) (ay:=ay) (C:=C) (x1:=.p (.sl rows')) (x2:=.p (.i .i64 C')) (a2:=GK k nn s l) (a3:=ti t) (a4:=[.p (.i .i64 0)]) (d:=d) (F':=F') (D':=D') (tl:=[.box (GK k nn s l)]) ht (by simp[ti,ht]) ⟨rfl,rfl⟩ (by simp[ti,AV.flat,PV.flat]) hp5.inv hp5.pX (hy.mono hp5.ext)).mono ?_;rintro e u' w' ⟨⟨v,rfl⟩,rfl,m6,μ6,hI6,hS6⟩;exact Is hp5 (hp3.ext.trans hp5.ext) (hp3.fr.trans hp5.fr) rfl rfl rfl rfl rfl ht ⟨rfl,rfl⟩ hS6 hI6
 ·refine fz (E:=E1) hm hR hC hE hL hp3.pX hdom1 _ B4 Il (LJ hShp) hp4 (λa5 w5 m5 μ5 hp5 val hval=>?_)
  show Leaves _ _ _ _ _ _ _
  rw[hp5.tG];refine leaves_cons (by simp) (hinv w5) ?_;refine(Og hok (n:=n) (ay:=ay) (C:=C) (x1:=.aC) (x2:=.p (.i .i64 0)) (a3:=z9) (d:=d) (F':=F') (D':=D') (e0:=e) ht rfl ⟨rfl,rfl⟩ rfl hp5.inv hp5.pX (hy.mono hp5.ext) hval).mono ?_;rintro e' u' w' ⟨⟨v,rfl⟩,rfl,m6,μ6,hI6,hS6⟩;exact Is hp5 (hp3.ext.trans hp5.ext) (hp3.fr.trans hp5.fr) rfl rfl rfl rfl rfl ht ⟨rfl,rfl⟩ hS6 hI6
end
theorem mixed:Tryz.prog.follows .mixedOrders=true:=by kernel_rfl
theorem It:B3 Tryz.prog 193 57 2 24 [.s [],.i .i64 0] :=
 ⟨⟨Tryz.f193,_,Tryz.func193,by kernel_rfl,by kernel_rfl,by kernel_rfl,Tryz.underlying57,by kernel_rfl⟩,by kernel_rfl,by kernel_rfl,by omega⟩
theorem Iu:B3 Tryz.prog 196 58 2 16 [.i .i64 0,.i .i64 0] :=
 ⟨⟨Tryz.f196,_,Tryz.func196,by kernel_rfl,by kernel_rfl,by kernel_rfl,Tryz.underlying58,by kernel_rfl⟩,by kernel_rfl,by kernel_rfl,by omega⟩
theorem Iv:B3 Tryz.prog 197 22 6 88 [.i .i64 0,.i .i64 0,.i .i64 0,.s [],.sl [],.sl []] :=
 ⟨⟨Tryz.f197,_,Tryz.func197,by kernel_rfl,by kernel_rfl,by kernel_rfl,Tryz.underlying22,by kernel_rfl⟩,by kernel_rfl,by kernel_rfl,by omega⟩
theorem B3.y5 {P:Program}{f t sz bytes:Nat}{zero:List PV}(h:B3 P f t sz bytes zero):od P f:=by
 obtain⟨fn,e,e1,e2,e3,e4,e5,e6⟩:=h.fn;exact⟨fn,e1,e6,by rw[e2];rfl⟩
theorem su {P:Program}(hm:P.follows .mixedOrders=true){f t sz bytes:Nat}{zero:List PV}(hc:B3 P f t sz bytes zero){args:List AV}{out:Out}{G':Heap}(h:pz sz bytes args=some (out,G')){m:Mem}{w:World}{vargs:List Value}
  (hI:Inv m (λ_=>none) [] w) (hr:RL m (λ_=>none) (inf []) vargs args):Calls P f vargs.toArray w λe w'=>∃m' cA,Inv m' cA G' w'/\lC m (λ_=>none) [] w m' cA G' w'/\WL m' cA (inf G') out e:=by
 unfold pz at h;split at h
 ·exact v8 hm hc (k:=false) (ay:=[]) rfl (by simp[bZ]) (λe=>by cases e) (by simpa using h) hI hr
 ·rename_i ay hne;split at h
  ·rename_i hb;simp only[ab]at hb;exact v8 hm hc (k:=true) hb.1 hb.2 (λ_ e=>by subst e;exact hne rfl) (by simpa using h) hI hr
  ·cases h
 ·cases h
theorem B7:tJ Tryz.prog tL:=by
 refine⟨mixed,λf c _ h=>CO.mem f c (X3 h),?_,?_⟩
 ·intro f F args out G' h1 h2 h3;have hf:f=193:=by
   simp only[tL,X2,List.contains_cons,List.contains_nil,nt,cZ]at h2;exact h2
  subst hf;have hF:F=sV:=by
   have:=eA.BM;rw[h1]at this;exact cT this
  subst hF;unfold sV at h3;split at h3
  ·split at h3
   ·cases h3;exact⟨rfl,rfl⟩
   ·cases h3
  ·cases h3
 ·intro f F h;have:=DM h;simp only[aA,eK,UA,dU]at this;rcases this with ⟨rfl,rfl⟩|⟨rfl,rfl⟩|⟨rfl,rfl⟩
  ·refine⟨It.y5,λargs out G' h m w vargs hI hr=>?_⟩;unfold sV at h;split at h
   ·split at h
    ·rename_i hb;simp only[ab]at hb;exact v8 mixed It (k:=false) hb.1 hb.2 (λe=>by cases e) (by simpa using h) hI hr
    ·cases h
   ·cases h
  ·exact⟨Iu.y5,λargs out G' h m w vargs hI hr=>su mixed Iu h hI hr⟩
  ·exact⟨Iv.y5,λargs out G' h m w vargs hI hr=>su mixed Iv h hI hr⟩
section
variable {pg:fX}{G:Heap}
def l8 (args:List AV)(r:Out):Prop:=∃ay C D F o rows' C' t d F' D',args=[.ag [.p (.sl ay),.p (.i .i64 C)],.p (.b D),.p (.i .i64 F)]/\t.length=9 /\
 E tL 32 [.ptr 0 0,.ag [.p (.i .i64 0),.p (.i .i64 0)]] [.box (Wo ay C Yx 0 F D)]=some (o,[.box (Wo rows' C' t d F' D')]) /\
 ((∃k nn s l,o=.ret (.ag (GK k nn s l))/\r=nM rows' C' (GK k nn s l) t 0)\/∃e,o=.iL (.eT 70 (.ag [.p (.i .i64 e)]))/\r=nM rows' C' Vt t e)
open Classical in
noncomputable def s9 (args:List AV):Option (Out×Heap):=if h:∃r,l8 args r then some (Classical.choose h,[]) else none
theorem Hv {ay rows':List (List PV)}{C C':Int}{t t':List Int}{d d' F F':Int}{D D':Bool}(ht:t.length=9)(ht':t'.length=9)(h:Wo ay C t d F D=Wo rows' C' t' d' F' D'):ay=rows'/\C=C'/\t=t':=by
 simp only[Wo,aH,dV,AV.p.injEq,PV.sl.injEq,PV.i.injEq,VN]at h;obtain⟨h1,h2,h3⟩:=h;have:=List.append_inj_left h3 (by simp[ht,ht']);refine⟨h1,h2,?_⟩;have hinj:Function.Injective (λi:Int=>AV.p (.i .i64 i)):=λa b e=>by simpa using e
 exact(fT (λa b e=>hinj e)).1 this
theorem l8.uniq {args:List AV}{r r':Out}(h:l8 args r)(h':l8 args r'):r=r':=by
 obtain⟨ay,C,D,F,o,rows1,C1,t,d,F1,D1,rfl,ht,he,hr⟩:=h;obtain⟨rows',C',D',F',o',rows1',C1',t',d',F1',D1',e,ht',he',hr'⟩:=h';simp only[dV,AV.ag.injEq,AV.p.injEq,PV.sl.injEq,PV.i.injEq,PV.b.injEq,VN,VP]at e;obtain⟨⟨rfl,rfl⟩,rfl,rfl⟩:=e;rw[he]at he';simp only[bG,eK,dV,fE.box.injEq,VP]at he';obtain⟨rfl,hb⟩:=he';obtain⟨rfl,rfl,rfl⟩:=Hv ht ht' hb;rcases hr with ⟨k,nn,s,l,rfl,rfl⟩|⟨x,rfl,rfl⟩
 ·rcases hr' with ⟨k',nn',s',l',e,rfl⟩|⟨x',e,rfl⟩
  ·simp only[Out.ret.injEq,AV.ag.injEq]at e;rw[e]
  ·cases e
 ·rcases hr' with ⟨k',nn',s',l',e,rfl⟩|⟨x',e,rfl⟩
  ·cases e
  ·simp only[Out.iL.injEq,AV.eT.injEq,AV.ag.injEq,dV,AV.p.injEq,PV.i.injEq,VN,VP]at e;rw[e]
theorem xS {args:List AV}{r:Out}(h:l8 args r):s9 args=some (r,[]):=by
 have hx:∃r,l8 args r:=⟨r,h⟩
 unfold s9;rw[nW hx];rw[(iz hx).uniq h]
noncomputable def iE:fX:=⟨tL.code,λf=>if f=11 then some s9 else tL.Xa f,tL.quiet⟩
theorem Xj:bY iE :=
 ⟨rfl,λf h1 h2 h3 h4=>by simp only[iE,aa h4];exact eA.Xa f h1 h2 h3 h4,eA.BM,eA.Hf,eA.Hg,rfl⟩
theorem YO:od Tryz.prog 11:=⟨Tryz.f11,Tryz.func11,by kernel_rfl,by kernel_rfl⟩
theorem Hw {f:Nat}{c:bz}(h:tL.code f=some c):(f,c)∈EY:=X3 h
theorem JL:tJ Tryz.prog iE:=by
 refine⟨mixed,λf c ho h=>CO.mem f c (Hw h),λf F args out G' h1 h2 h3=>?_,λf F h=>?_⟩
 ·simp only[iE]at h1;split at h1
  ·rename_i e;subst e;have:tL.quiet 11=false:=by rfl
   have h2':tL.quiet 11=true:=h2;rw[this]at h2';cases h2'
  ·exact B7.quiet f F args out G' h1 h2 h3
 ·simp only[iE]at h;split at h
  ·rename_i e;subst e;cases h;refine⟨YO,λargs out G' h m w vargs hI hr=>?_⟩;unfold s9 at h;split at h
   ·rename_i hx;cases h;obtain⟨ay,C,D,F,o,rows1,C1,t,d,F1,D1,e,ht,he,ho⟩:=iz hx;generalize Classical.choose hx=r at *;subst e;obtain⟨n,hn⟩:=gh.1 he;exact AZ B7 ht hn ho hI hr
   ·cases h
  ·exact B7.Xa f F h
def fu (r:RS×Nat×aO):Out:=.ret (.dF [.ag [.p (.sl (r.1.cS.ae.map Up.aw)),.p (.i .i64 r.1.cS.aV)],if r.2.1=0 then .ag (bP r.2.2.aw) else .ag Vt,.ag (cJ r.1.T),.p (.i .i64 r.2.1)])
theorem t11 {n:aI}(ho:n.Ok)(D:Bool){F:Nat}(hF:F<=100000):UM iE (E iE) 11 [.ag [.p (.sl (n.ae.map Up.aw)),.p (.i .i64 n.aV)],.p (.b D),.p (.i .i64 F)] G=some (fu (bI n D F),G):=by
 obtain⟨h1,h2,_⟩:=VD eA ho D F;have h3:=OO eA hF 4001 (tT n) ⟨0,0⟩ h1;have hT:(bI n D F).1.T.length=9:=h2.ok.2.1;have hs:l8 [.ag [.p (.sl (n.ae.map Up.aw)),.p (.i .i64 n.aV)],.p (.b D),.p (.i .i64 F)] (fu (bI n D F)):=by
  have hc:∀(m:aI) (T:List Nat) (d:Nat),DZ m T d F D=Wo (m.ae.map Up.aw) m.aV (T.map fun (k:Nat)=>(k:Int)) d F D:=by
   intro m T d;simp only[DZ,Wo,cJ,UJ,aH];rfl
  refine⟨_,_,_,_,(Wu (bI n D F) F D).1,(bI n D F).1.cS.ae.map Up.aw,(bI n D F).1.cS.aV,(bI n D F).1.T.map fun (k:Nat)=>(k:Int),(bI n D F).1.d,F,D,rfl,by simp[hT],?_,?_⟩
  ·have e:Wo (n.ae.map Up.aw) n.aV Yx 0 F D=(tT n).cells F D:=by
    simp only[RS.cells,tT];rw[hc];rfl
   rw[e,<- hc];exact h3
  ·have et:ti ((bI n D F).1.T.map fun (k:Nat)=>(k:Int))=cJ (bI n D F).1.T:=by
    simp only[ti,cJ,UJ];rfl
   show(_\/_)
   by_cases e0:(bI n D F).2.1=0
   ·left;obtain⟨k,nn,s,l,hsh⟩:∃k nn s l,(bI n D F).2.2=aO.mk k nn s l:=by cases (bI n D F).2.2;exact⟨_,_,_,_,rfl⟩
    refine⟨k,nn,s,aO.df l,?_,?_⟩
    ·show(if (bI n D F).2.1=0 then _ else _)=_
     rw[ah e0,show(bI n D F).2.2.aw=(aO.mk k nn s l).aw by rw[hsh]];rfl
    ·unfold fu nM;rw[ah e0,e0,hsh,et];rfl
   ·right;refine⟨(bI n D F).2.1,?_,?_⟩
    ·show(if (bI n D F).2.1=0 then _ else _)=_
     rw[aa e0]
    ·unfold fu nM;rw[aa e0,et];rfl
 have hE:E iE 11 [.ag [.p (.sl (n.ae.map Up.aw)),.p (.i .i64 n.aV)],.p (.b D),.p (.i .i64 F)] []=some (fu (bI n D F),[]):=by
  refine gh.2 ⟨1,?_⟩;simp only[dr];rw[show iE.Xa 11=some s9 by simp[iE]];exact xS hs
 refine Ut hE rfl ?_;unfold fu;simp only[Out.bf,bf,cH,fL,UX];have a:=bE 0 (l6 (bI n D F).1.T);have b:bf 0 (if (bI n D F).2.1=0 then AV.ag (bP (bI n D F).2.2.aw) else .ag Vt)=true:=by
  split
  ·simp only[bf];exact bE 0 (eZ _)
  ·rfl
 rw[a,b];rfl
end
section
variable {pg:fX}{G:Heap}
theorem v_:∀l:List aO,(aO.gp l).length=l.length
 |[]=>rfl
 |a::r=>by simp[aO.gp,v_ r]
theorem C0:∀{l:List aO} {t:Tm},t∈aO.gp l->∃s∈l,t=s.tm
 |[],t,h=>by simp[aO.gp]at h
 |a::r,t,h=>by
  simp only[aO.gp,aA]at h;rcases h with rfl|h
  ·exact⟨a,by simp,rfl⟩
  ·obtain⟨s,hs,e⟩:=C0 h;exact⟨s,by simp[hs],e⟩
theorem s_ {D:Bool}{rd:RS->aq->RS×Nat×aO}{i:Nat}{ok:RS->aq->Prop}(hrd:∀s p,ok s p->(rd s p).2.2.tm.Fit):∀(c k:Nat) (s:RS),oF D ok rd i c k s->(∀t∈(gA D rd i c k s).2.2,t.tm.Fit)/\(gA D rd i c k s).2.2.length<=c
 |0,k,s,h=>by simp[gA]
 |c+1,k,s,h=>by
  cases D with
  |false =>
   simp only[gA];have:=s_ (D:=false) (i:=i) (ok:=ok) hrd c (k+1) s (by cases c<;>trivial);refine⟨λt ht=>?_,by simp only[av];omega⟩;rcases aA.1 ht with rfl|ht
   ·exact .mk (by simp[aO.gp]) (by simp[aO.gp])
   ·exact this.1 t ht
  |true =>
   obtain⟨h1,h2⟩:=h;simp only[gA];split
   ·simp
   ·rename_i e;have e:(rd s ⟨i,k⟩).2.1=0:=by simpa using e
    have:=s_ (D:=true) hrd c (k+1) _ (h2 e);refine⟨λt ht=>?_,by simp only[av];omega⟩;rcases aA.1 ht with rfl|ht
    ·exact hrd _ _ h1
    ·exact this.1 t ht
theorem B8 (k n:Int)(s:List UInt8):(Tm.mk k n s []).Fit:=.mk (by simp) (by simp)
theorem xT {step:VZ}{F:Nat}{D:Bool}:∀(f:Nat) (s:RS) (p:aq),oG pg step F D f s p->(fF step F D f s p).2.2.tm.Fit
 |0,s,p,h=>h.elim
 |f+1,s,p,h=>by
  obtain⟨h1,h2,h3⟩:=h;simp only[fF];split
  ·exact B8 _ _ _
  ·rename_i e;have e:(dc step (F-s.d) s.cS p).2.2.2=0:=by simpa using e
   obtain⟨x,hx,hxl,h8⟩:=h3 e;have hx':(UN (dc step (F-s.d) s.cS p) s).cS.ae[(dc step (F-s.d) s.cS p).2.2.1]?=some x:=hx;unfold shapeOf;rw[hx'];dsimp only;split
   ·exact B8 _ _ _
   ·split
    ·exact B8 _ _ _
    ·split
     ·exact B8 _ _ _
     ·split
      ·rename_i hk;have:=s_ (rd:=fF step F D f) (λs p hp=>xT f s p hp) _ _ _ (h8 hk).2;split
       ·exact B8 _ _ _
       ·refine .mk (by rw[v_];omega) (λt ht=>?_);obtain⟨u,hu,rfl⟩:=C0 ht;exact this.1 u hu
      ·exact B8 _ _ _
theorem ta {n:aI}(ho:n.Ok)(D:Bool)(F:Nat):(bI n D F).2.2.tm.Fit:=xT _ _ _ (VD eA ho D F).1
theorem aI.Ok.bounds {n:aI}(ho:n.Ok):n.ae.length<2 ^ 60/\∀x∈n.ae,x.to.length<2 ^ 60/\x.aY.length<2 ^ 60:=by
 refine⟨by have:=ho.len;have:=ho.aV;omega,λx hx=>?_⟩;obtain⟨i,hi,rfl⟩:=dj hx;have h1:=ho.aD i _ (gG hi);have h2:=Up.gT h1.1 h1.2.1;have h3:=Up.gS h1.1;omega
theorem xU {l:List UK}{C:Int}(h1:Xw l 120=true)(h2:kK l C=true):∃n:aI,n.Ok/\l.map UK.aw=n.ae.map Up.aw/\C=n.aV:=by
 obtain⟨n,h3,h4,h5⟩:=vy h2;exact⟨n,h3,by rw[<- h4,sX],h5.symm⟩
structure y6 (l:List UK):Prop where
 len:l.length<2 ^ 60
 aD:∀x∈l,x.to.length<2 ^ 60/\x.aY.length<2 ^ 60
theorem y6.of {l:List UK}(h:Xw l 120=true):y6 l:=by
 simp only[Xw,ab,bc,Uq]at h;exact⟨by omega,λx hx=>by have:=h.1 x hx;omega⟩
theorem aO.sv (s:aO):∃k n nm l,s.aw=[iv k,iv n,.s nm,.sl l]:=by cases s;exact⟨_,_,_,_,rfl⟩
end
end Go.Proofs.Z
