/- gossamerlaw21.ReadData: whatever the input, the law returns true, and the arguments read afterwards as they did before. No condition. -/
import Derived.Test.YtffohgbmjjbhiaaGreatD24
import Derived.Test.YtffohgbmjjbhiaaGreatD14
import Derived.Test.YtffohgbmjjbhiaaGreatD22
import Derived.Test.YtffohgbmjjbhiaaGreatD20
import Derived.WalkKit
import Derived.ProofKit
import Derived.OpenShut
import Derived.ShutString
import Derived.ChangeOld
import Derived.Below
set_option linter.all false
namespace Go.Proofs.Z
section
variable {pg:fX}{G:Heap}
def tt:Tm:=.mk 5 0 [] []
def fR (ev:Nat->Ct->Tm×Nat×Nat)(D:Bool)(F:Nat):List Ct->Nat->List Tm×Nat×Nat
 |[],n=>([],n,0)
 |t::r,n=>if D=true then (if (ev (F-n) t).2.2≠0 then ([],n+(ev (F-n) t).2.1,(ev (F-n) t).2.2) else ((ev (F-n) t).1::(fR ev D F r (n+(ev (F-n) t).2.1)).1,(fR ev D F r (n+(ev (F-n) t).2.1)).2))
  else (tt::(fR ev D F r n).1,(fR ev D F r n).2)
def fS:Nat->Bool->Nat->Ct->Tm×Nat×Nat
 |0,_,_,_=>(kQ,0,999)
 |g+1,D,F,t=>if (dz F t).2.2≠0 then (kQ,(dz F t).2.1,(dz F t).2.2) else match (dz F t).1 with
  |.int v=>(.mk 1 v [] [],(dz F t).2.1,0)
  |.lam _=>(.mk 3 0 [] [],(dz F t).2.1,0)
  |.fail=>(.mk 4 0 [] [],(dz F t).2.1,0)
  |.UW s l=>if (fR (fS g true) D F l (dz F t).2.1).2.2≠0 then (kQ,(fR (fS g true) D F l (dz F t).2.1).2) else (.mk 2 0 s (fR (fS g true) D F l (dz F t).2.1).1,(fR (fS g true) D F l (dz F t).2.1).2.1,0)
  |_=>(kQ,0,998)
theorem wM {ev:Nat->Ct->Tm×Nat×Nat}{D:Bool}{F:Nat}(h:∀F' t,F'<=F->(ev F' t).2.1<=F'):∀(l:List Ct) (n:Nat),n<=F->(fR ev D F l n).2.1<=F/\n<=(fR ev D F l n).2.1
 |[],n,hn=>⟨hn,aB _⟩
 |t::r,n,hn=>by
  have h1:=h (F-n) t (by omega);unfold fR;split
  ·split
   ·dsimp only;omega
   ·have:=wM (D:=D) h r (n+(ev (F-n) t).2.1) (by omega);dsimp only;omega
  ·exact wM h r n hn
theorem Bi:∀(g:Nat) (D:Bool) (F:Nat) (t:Ct),(fS g D F t).2.1<=F
 |0,D,F,t=>dv _
 |g+1,D,F,t=>by
  have h1:=zi F t;unfold fS;split
  ·exact h1
  ·split
   ·exact h1
   ·exact h1
   ·exact h1
   ·have:=wM (ev:=fS g true) (D:=D) (F:=F) (λF' t _=>Bi g true F' t) (l:=by assumption) (dz F t).2.1 h1;split
    ·exact this.1
    ·exact this.1
   ·exact dv _
def Dl (acc:List Tm):AV:=match acc with
 |[]=>.aC
 |_::r=>.arr 3 (r.length+1) r.length
def Dm (acc:List Tm):Heap:=match acc with
 |[]=>[]
 |a::r=>[.arr 4 ((a::r).map Tm.aw) r.length 0]
def qj:fE:=.box [.p (iv 0),.p (iv 0),.p (.s []),.aC]
theorem Mq:bH 4 [[PV.i .i64 5,.i .i64 0,.s [],.sl []]]=true:=rfl
theorem IE:aS 4 [PV.i .i64 5,.i .i64 0,.s [],.sl []]=true:=rfl
theorem OH (a b:Int)(c:List UInt8)(d:List (List PV)):bH 4 [[iv a,iv b,.s c,.sl d]]=true:=rfl
theorem OI (h:bY pg){body:aU}(hb:body=qo){D:Bool}{F:Nat}(hF:F<=2 ^ 40){vk vn:Int}{nm:List UInt8}{l:List Ct}(hl:l.length<=60){ev:Nat->Ct->Tm×Nat×Nat}(hle:∀F' t,F'<=F->(ev F' t).2.1<=F')
  {n0:Nat} (e21:∀t∈l,∀n,n0<=n->n<=F->∀G,D=true->UM pg (E pg) 21 [.ag (bP t.tm.aw),.p (.b true),.p (.i .i64 (F-n:Nat))] G=some (.ret (.dF [(ev (F-n) t).1.nv,.p (.i .i64 (ev (F-n) t).2.1),.p (.i .i64 (ev (F-n) t).2.2)]),G)) :
  ∀m i n (acc:List Tm),i+m=l.length->acc.length=i->n0<=n->n<=F ->
  ((fR ev D F (l.drop i) n).2.2=0->L pg 0 [1,2,6,9,10,12,13] body [(1,.p (.b D)),(2,.p (.i .i64 F)),(6,.ptr 0 0),(9,.ptr 1 0),(10,.p (.i .i64 n)),(12,.ptr 2 0),(13,.p (.i .i64 i))] (qj::.box [.p (iv vk),.p (iv vn),.p (.s nm),.p (.sl ((Ct.gp l).map Tm.aw))]::.box [.p (iv 2),.p (iv 0),.p (.s nm),Dl acc]::Dm acc) =
   some (.exit 1,[(1,.p (.b D)),(2,.p (.i .i64 F)),(6,.ptr 0 0),(9,.ptr 1 0),(10,.p (.i .i64 (fR ev D F (l.drop i) n).2.1)),(12,.ptr 2 0),(13,.p (.i .i64 l.length)),(52,.p (.b false))],qj::.box [.p (iv vk),.p (iv vn),.p (.s nm),.p (.sl ((Ct.gp l).map Tm.aw))]::.box [.p (iv 2),.p (iv 0),.p (.s nm),Dl (acc++(fR ev D F (l.drop i) n).1)]::Dm (acc++(fR ev D F (l.drop i) n).1))) /\
  ((fR ev D F (l.drop i) n).2.2≠0->∃H,L pg 0 [1,2,6,9,10,12,13] body [(1,.p (.b D)),(2,.p (.i .i64 F)),(6,.ptr 0 0),(9,.ptr 1 0),(10,.p (.i .i64 n)),(12,.ptr 2 0),(13,.p (.i .i64 i))] (qj::.box [.p (iv vk),.p (iv vn),.p (.s nm),.p (.sl ((Ct.gp l).map Tm.aw))]::.box [.p (iv 2),.p (iv 0),.p (.s nm),Dl acc]::Dm acc) =
   some (.ret,[(6,.ptr 0 0),(7,.p (.i .i64 (fR ev D F (l.drop i) n).2.1)),(8,.p (.i .i64 (fR ev D F (l.drop i) n).2.2))],qj::H))
 |0,i,n,acc,hi,ha,hn0,hn=>by
  have:i=l.length:=by omega
  subst this;have hrl:((Ct.gp l).map Tm.aw).length=l.length:=by rw[Ct.cM];simp
  rw[gH];refine⟨λ_=>?_,λe=>absurd rfl e⟩;rw[dA hb];simp[qo,aj,hrl,fR,qj]
 |m+1,i,n,acc,hi,ha,hn0,hn=>by
  have hlt:i<l.length:=by omega
  have hd:l.drop i=l[i]::l.drop (i+1):=aM hlt;have hrl:((Ct.gp l).map Tm.aw).length=l.length:=by rw[Ct.cM];simp
  have hx:((Ct.gp l).map Tm.aw)[i]?=some l[i].tm.aw:=by rw[Ct.cM];simp[hlt]
  have hx2:i<((Ct.gp l).map Tm.aw).length:=by omega
  have hxg:((Ct.gp l).map Tm.aw)[i]'hx2=l[i].tm.aw:=(gE hx).2;have w1:=cR ((i:Int)+1);have hlt':(i:Int)<(l.length:Int):=by omega
  have ok1:=Tm.aS l[i].tm;have t4:=Tm.ku l[i].tm;have t4':=Tm.pS l[i].tm;have e7:bZ (acc.length+1) 56=true:=by simp[bZ];omega
  have e71:bZ 1 56=true:=rfl;have k21:bC pg 21=false:=h.bq (x:=GI) rfl;rw[hd];cases D with
  |false =>
   obtain⟨ih1,ih2⟩:=OI h hb (D:=false) hF hl (vk:=vk) (vn:=vn) (nm:=nm) hle e21 m (i+1) n (acc++[tt]) (by omega) (by simp[ha]) hn0 hn;rw[show((i+1:Nat):Int)=(i:Int)+1 from by omega]at ih1 ih2;simp only[fR,aZ,if_false];have step:L pg 0 [1,2,6,9,10,12,13] body [(1,.p (.b false)),(2,.p (.i .i64 F)),(6,.ptr 0 0),(9,.ptr 1 0),(10,.p (.i .i64 n)),(12,.ptr 2 0),(13,.p (.i .i64 i))] (qj::.box [.p (iv vk),.p (iv vn),.p (.s nm),.p (.sl ((Ct.gp l).map Tm.aw))]::.box [.p (iv 2),.p (iv 0),.p (.s nm),Dl acc]::Dm acc) =
     L pg 0 [1,2,6,9,10,12,13] body [(1,.p (.b false)),(2,.p (.i .i64 F)),(6,.ptr 0 0),(9,.ptr 1 0),(10,.p (.i .i64 n)),(12,.ptr 2 0),(13,.p (.i .i64 ((i:Int)+1)))] (qj::.box [.p (iv vk),.p (iv vn),.p (.s nm),.p (.sl ((Ct.gp l).map Tm.aw))]::.box [.p (iv 2),.p (iv 0),.p (.s nm),Dl (acc++[tt])]::Dm (acc++[tt])):=by
    rw[dA hb];cases acc with
    |nil=>simp[qo,aj,qj,Dl,Dm,hrl,hlt,hlt',Mq,IE,th,cX,e71,Uu.Uv,cO,Vy,ee,w1,tt,Tm.aw,Tm.df,gc,exp,aQ,UG]
    |cons a0 r0 =>
     have hr0:r0.length+1=i:=by simpa using ha
     have e77:bZ (r0.length+1+1) 56=true:=by simpa using e7
     have tk0:List.take r0.length (r0.map Tm.aw)=r0.map Tm.aw:=aF (by simp);simp[qo,aj,qj,Dl,Dm,hrl,hlt,hlt',Mq,IE,th,cX,e77,tk0,Uu.Uv,cO,Vy,ee,w1,tt,Tm.aw,Tm.df,gc,exp,aQ,UG]
   rw[step];rw[OC]at ih1;exact⟨ih1,ih2⟩
  |true =>
   have e:=λG=>e21 l[i] (bM hlt) n hn0 hn G rfl;have h1:=hle (F-n) l[i] (by omega);have wF:=cR ((F:Int)-n);have wS:=cR ((n:Int)+(ev (F-n) l[i]).2.1);rw[show((F-n:Nat):Int)=(F:Int)-n from by omega]at e;simp only[fR,if_true];obtain⟨ih1,ih2⟩:=OI h hb (D:=true) hF hl (vk:=vk) (vn:=vn) (nm:=nm) hle e21 m (i+1) (n+(ev (F-n) l[i]).2.1) (acc++[(ev (F-n) l[i]).1]) (by omega) (by simp[ha]) (by omega) (by omega);rw[show((i+1:Nat):Int)=(i:Int)+1 from by omega,show((n+(ev (F-n) l[i]).2.1:Nat):Int)=(n:Int)+(ev (F-n) l[i]).2.1 from by omega]at ih1 ih2;generalize hE:ev (F-n) l[i]=E0 at *;obtain⟨r,st,er⟩:=E0;obtain⟨rk,rn,rnm,rl⟩:=r;obtain⟨tk,tn,tnm,tl,ht,-⟩:=l[i].iI;rw[ht]at e hxg hx ok1;dsimp only at e ih1 ih2 wS ⊢;simp only[Tm.aw,Tm.ba,bP,ai,au,Tm.eS]at e hxg hx ok1;have okr:=OH rk rn rnm (rl.map Tm.aw);by_cases he:er=0
   ·subst he;have step:L pg 0 [1,2,6,9,10,12,13] body [(1,.p (.b true)),(2,.p (.i .i64 F)),(6,.ptr 0 0),(9,.ptr 1 0),(10,.p (.i .i64 n)),(12,.ptr 2 0),(13,.p (.i .i64 i))] (qj::.box [.p (iv vk),.p (iv vn),.p (.s nm),.p (.sl ((Ct.gp l).map Tm.aw))]::.box [.p (iv 2),.p (iv 0),.p (.s nm),Dl acc]::Dm acc) =
      L pg 0 [1,2,6,9,10,12,13] body [(1,.p (.b true)),(2,.p (.i .i64 F)),(6,.ptr 0 0),(9,.ptr 1 0),(10,.p (.i .i64 ((n:Int)+st))),(12,.ptr 2 0),(13,.p (.i .i64 ((i:Int)+1)))] (qj::.box [.p (iv vk),.p (iv vn),.p (.s nm),.p (.sl ((Ct.gp l).map Tm.aw))]::.box [.p (iv 2),.p (iv 0),.p (.s nm),Dl (acc++[.mk rk rn rnm rl])]::Dm (acc++[.mk rk rn rnm rl])):=by
     rw[dA hb];generalize (Ct.gp l).map Tm.aw=R at *;cases acc with
     |nil=>simp[qo,aj,qj,Dl,Dm,hrl,hx,hxg,hlt,hlt',ok1,okr,th,HR,e,k21,cX,e71,Uu.Uv,cO,Vy,ee,w1,wF,wS,Tm.aw,Tm.ba,gc,exp,aQ,UG]
     |cons a0 r0 =>
      have hr0:r0.length+1=i:=by simpa using ha
      have e77:bZ (r0.length+1+1) 56=true:=by simpa using e7
      have tk0:List.take r0.length (r0.map Tm.aw)=r0.map Tm.aw:=aF (by simp);simp[qo,aj,qj,Dl,Dm,hrl,hx,hxg,hlt,hlt',ok1,okr,th,HR,e,k21,cX,e77,tk0,Uu.Uv,cO,Vy,ee,w1,wF,wS,Tm.aw,Tm.ba,gc,exp,aQ,UG]
    rw[aa (by simp),step];rw[OC]at ih1;exact⟨ih1,ih2⟩
   ·have he':¬ (er:Int)=0:=by omega
    rw[ah he];refine⟨λe0=>absurd e0 he,λ_=>?_⟩;rw[dA hb];generalize (Ct.gp l).map Tm.aw=R at *;cases acc with
    |nil=>exact⟨_,by
      simp[qo,aj,qj,Dl,Dm,hrl,hx,hxg,hlt,hlt',ok1,okr,e,k21,he,he',wF,wS,Tm.aw,Tm.ba];rfl⟩
    |cons a0 r0=>exact⟨_,by
      simp[qo,aj,qj,Dl,Dm,hrl,hx,hxg,hlt,hlt',ok1,okr,e,k21,he,he',wF,wS,Tm.aw,Tm.ba];rfl⟩
theorem lH:∀(t:Ct),t.wf 0=true->t.step.2=0->t.val=true
 |.var i,h,_=>by simp[Ct.wf]at h
 |.alt s n b,h,_=>by simp[Ct.wf]at h
 |.int v,_,_=>rfl
 |.fail,_,_=>rfl
 |.lam b,_,_=>rfl
 |.UW s l,_,_=>rfl
 |.app f a,h,hs=>by
  simp only[Ct.wf,ab]at h;have ih:=lH f h.1;simp only[Ct.step]at hs;split at hs
  ·split at hs<;>cases hs
  ·rename_i hv;split at hs
   ·rename_i e;exact absurd (ih e) hv
   ·rename_i e;exact absurd hs e
 |.case x l,h,hs=>by
  simp only[Ct.wf,ab]at h;have ih:=lH x h.1.1.1;simp only[Ct.step]at hs;split at hs
  ·unfold Ct.pick at hs;split at hs
   ·split at hs<;>cases hs
   ·cases hs
  ·rename_i hv;split at hs
   ·rename_i e;exact absurd (ih e) hv
   ·rename_i e;exact absurd hs e
 |.op s a b,h,hs=>by
  simp only[Ct.wf,ab]at h;have iha:=lH a h.1.2;have ihb:=lH b h.2;simp only[Ct.step]at hs;split at hs
  ·split at hs
   ·split at hs
    ·split at hs
     ·unfold ue at hs
      repeat' split at hs
      all_goals cases hs
     ·cases hs
    ·rename_i hv;split at hs
     ·rename_i e;exact absurd (ihb e) hv
     ·rename_i e;exact absurd hs e
   ·cases hs
  ·rename_i hv;split at hs
   ·rename_i e;exact absurd (iha e) hv
   ·rename_i e;exact absurd hs e
theorem uB:∀(m:Nat) (t:Ct),t.wf 0=true->(dz m t).2.2=0->(dz m t).1.wf 0=true/\(dz m t).1.val=true/\(dz m t).1.size<=5000/\((dz m t).2.1=0->(dz m t).1=t)
 |0,t,hw,he=>by
  unfold dz at he ⊢;split at he
  ·cases he
  ·rename_i c;rw[aa c];split at he
   ·rename_i c2;rw[ah c2];exact⟨hw,lH t hw c2,by show t.size<=5000;omega,λ_=>rfl⟩
   ·cases he
 |m+1,t,hw,he=>by
  unfold dz at he ⊢;split at he
  ·cases he
  ·rename_i c;rw[aa c];split at he
   ·rename_i c2;rw[ah c2];exact⟨hw,lH t hw c2,by show t.size<=5000;omega,λ_=>rfl⟩
   ·rename_i c2;rw[aa c2];obtain⟨h1,h2,h3,_⟩:=uB m t.step.1 (oQ t hw) he;exact⟨h1,h2,h3,λe=>by simp at e⟩
def wN (g F:Nat)(t:Ct):Prop:=if 5000<t.size then 1<=g else F * 5001+t.size<g
set_option maxRecDepth 20000 in
theorem GA {g F:Nat}{t:Ct}{s:List UInt8}{l:List Ct}(hg:wN (g+1) F t)(hw:t.wf 0=true)(he:(dz F t).2.2=0)(hr:(dz F t).1=.UW s l){c:Ct}(hc:c∈l){n:Nat}(hn:(dz F t).2.1<=n/\n<=F):wN g (F-n) c/\c.wf 0=true/\c.size<=5000:=by
 obtain⟨h1,h2,h3,h4⟩:=uB F t hw he;rw[hr]at h1 h3 h4;simp only[Ct.wf,ab]at h1;simp only[Ct.size]at h3;have hcs:=dm hc;have hts:¬ 5000<t.size:=by
  intro e;have:(dz F t).2.2=91:=by cases F<;>simp[dz,e]
  omega
 unfold wN at hg;rw[aa hts]at hg;refine⟨?_,Vi h1.2 c hc,by omega⟩;unfold wN;rw[aa (by omega)];by_cases hz:(dz F t).2.1=0
 ·have:=h4 hz;have hsz:t.size=Ct.dt l+1:=by rw[<- this];rfl
  have h5:(F-n) * 5001<=F * 5001:=bh _ (by omega);generalize (F-n) * 5001=a at *;generalize F * 5001=b at *;clear h4 h1 hr hw he hz hn;omega
 ·have h5:(F-n+1) * 5001<=F * 5001:=bh _ (by omega);rw[db]at h5;generalize (F-n) * 5001=a at *;generalize F * 5001=b at *;clear h4 h1 hr hw he hz hn;omega
theorem t21 (h:bY pg):∀(g:Nat) (D:Bool) (F:Nat) (t:Ct),wN g F t->F<=100000->t.wf 0=true->t.size<=2 ^ 40->∀(G:Heap),
  UM pg (E pg) 21 [.ag (bP t.tm.aw),.p (.b D),.p (.i .i64 F)] G=some (.ret (.dF [(fS g D F t).1.nv,.p (.i .i64 (fS g D F t).2.1),.p (.i .i64 (fS g D F t).2.2)]),G)
 |0,D,F,t,hg,hF,hw,hs,G=>by
  unfold wN at hg;split at hg<;>omega
 |g+1,D,F,t,hg,hF,hw,hs,G=>by
  have e40:=λG=>t40 (G:=G) h hF hw hs;obtain⟨tk,tn,tnm,tl,ht,-⟩:=t.iI;have hbl:Out.bf 0 (.ret (.dF [(fS (g+1) D F t).1.nv,.p (.i .i64 (fS (g+1) D F t).2.1),.p (.i .i64 (fS (g+1) D F t).2.2)]))=true:=by
   simp only[Out.bf,bf,cH,Tm.nv,bE 0 (eZ _)];rfl
  rw[ht]at e40 ⊢;simp only[Tm.aw,Tm.ba,bP,ai,au]at e40 ⊢;refine Ut ?_ rfl hbl;rw[h.run (x:=GI)];clear hbl;by_cases he:(dz F t).2.2=0
  ·obtain⟨h1,h2,h3,h4⟩:=uB F t hw he;have hres:Dk (dz F t)=(dz F t).1.tm:=ah he;rw[hres]at e40;have hev:fS (g+1) D F t=match (dz F t).1 with
    |.int v=>(.mk 1 v [] [],(dz F t).2.1,0)
    |.lam _=>(.mk 3 0 [] [],(dz F t).2.1,0)
    |.fail=>(.mk 4 0 [] [],(dz F t).2.1,0)
    |.UW s l=>if (fR (fS g true) D F l (dz F t).2.1).2.2≠0 then (kQ,(fR (fS g true) D F l (dz F t).2.1).2) else (.mk 2 0 s (fR (fS g true) D F l (dz F t).2.1).1,(fR (fS g true) D F l (dz F t).2.1).2.1,0)
    |_=>(kQ,0,998):=by
    rw[fS,aa (by simpa using he)]
   rw[he,fW]at e40;rw[hev];have hle:=zi F t;cases hr:(dz F t).1 with
   |int v =>
    rw[hr]at e40;simp only[Ct.tm,Tm.eS]at e40;simp[GI,aj,e40,Tm.eS]
   |lam b =>
    rw[hr]at e40;simp only[Ct.tm,Tm.eS]at e40;simp[GI,aj,e40,Tm.eS]
   |fail =>
    rw[hr]at e40;simp only[Ct.tm,Tm.eS]at e40;simp[GI,aj,e40,Tm.eS]
   |UW s l =>
    rw[hr]at e40 h1;simp only[Ct.tm,Tm.eS]at e40;simp only[Ct.wf,ab,Uq]at h1;have hL:=OI h (body:=qo) rfl (D:=D) (F:=F) (by omega) (vk:=4) (vn:=0) (nm:=s) (l:=l) (by omega) (ev:=fS g true) (λF' t _=>Bi g true F' t) (n0:=(dz F t).2.1) (λc hc n hn0 hn G _=>by
     obtain⟨p1,p2,p3⟩:=GA hg hw he hr hc ⟨hn0,hn⟩;exact t21 h g true (F-n) c p1 (by omega) p2 (by omega) G) l.length 0 (dz F t).2.1 [] (by omega) rfl (aB _) hle
    simp only[bp,aL,fW,Dl,Dm,qj]at hL;dsimp only;by_cases hq:(fR (fS g true) D F l (dz F t).2.1).2.2=0
    ·have hL1:=hL.1 hq;rw[aa (by simpa using hq)];generalize (fR (fS g true) D F l (dz F t).2.1).1=out at *;generalize (fR (fS g true) D F l (dz F t).2.1).2.1=st at *;cases out with
     |nil =>
      simp only at hL1;simp[GI,aj,e40,Tm.eS,gc,exp,aQ,UG,hL1,Tm.ba]
     |cons a0 r0 =>
      simp only at hL1;have tk0:List.take r0.length (r0.map Tm.aw)=r0.map Tm.aw:=aF (by simp);simp[GI,aj,e40,Tm.eS,gc,exp,aQ,UG,hL1,Tm.ba,tk0]
    ·obtain⟨H,hL1⟩:=hL.2 hq;rw[ah hq];simp[GI,aj,e40,Tm.eS,gc,exp,aQ,UG,hL1,kQ]
   |_=>rw[hr]at h2;simp[Ct.val]at h2
  ·have hres:Dk (dz F t)=kQ:=aa he;have hev:fS (g+1) D F t=(kQ,(dz F t).2.1,(dz F t).2.2):=by rw[fS,ah he]
   rw[hres]at e40;rw[hev];have he':¬ ((dz F t).2.2:Int)=0:=by omega
   simp only[kQ,Tm.eS,au]at e40 ⊢;simp[GI,aj,e40,he,he']
end
theorem mn (us:List Ct):∀(N:Nat) (t:Ct) (b:Nat),t.size<=N->t.wf b=true->t.sub us b=t
 |0,t,b,hs,hw=>by have:=size_pos t;omega
 |N+1,t,b,hs,hw=>by
  cases t with
  |var i=>simp only[Ct.wf,Uq]at hw;simp only[Ct.sub];rw[ah hw]
  |int v=>rfl
  |fail=>rfl
  |alt s n x=>simp[Ct.wf]at hw
  |lam x =>
   simp only[Ct.wf]at hw;simp only[Ct.size]at hs;simp only[Ct.sub,mn us N x (b+1) (by omega) hw]
  |app x y =>
   simp only[Ct.wf,ab]at hw;simp only[Ct.size]at hs;simp only[Ct.sub,mn us N x b (by omega) hw.1,mn us N y b (by omega) hw.2]
  |op s x y =>
   simp only[Ct.wf,ab]at hw;simp only[Ct.size]at hs;simp only[Ct.sub,mn us N x b (by omega) hw.1.2,mn us N y b (by omega) hw.2]
  |UW s l =>
   simp only[Ct.wf,ab]at hw;simp only[Ct.size]at hs;simp only[Ct.sub,Ct.Vh];rw[show l.map (Ct.sub us b)=l from by
    conv=>rhs;rw[<- gP l]
    exact cL λt ht=>mn us N t b (by have:=dm ht;omega) (Vi hw.2 t ht)]
  |case x l =>
   simp only[Ct.wf,ab]at hw;simp only[Ct.size]at hs;simp only[Ct.sub,Ct.Vh,mn us N x b (by omega) hw.1.1.1];rw[show l.map (Ct.sub us b)=l from by
    conv=>rhs;rw[<- gP l]
    refine cL λt ht=>?_;obtain⟨s,n,y,rfl,w1,w2⟩:=fV hw.2 t ht;have hsz:=dm ht;simp only[Ct.size]at hsz;simp only[Ct.sub,mn us N y (b+n) (by omega) w2,id]]
theorem lA (us ws:List Ct)(hw:∀w∈ws,w.wf 0=true):∀(N:Nat) (t:Ct) (b:Nat),t.size<=N->t.wf (b+us.length+ws.length)=true->(t.sub ws (b+us.length)).sub us b=t.sub (us++ws) b
 |0,t,b,hs,_=>by have:=size_pos t;omega
 |N+1,t,b,hs,hwf=>by
  cases t with
  |var i =>
   simp only[Ct.wf,Uq]at hwf;simp only[Ct.sub];by_cases c1:i<b+us.length
   ·rw[ah c1];simp only[Ct.sub];by_cases c2:i<b
    ·rw[ah c2,ah c2]
    ·rw[aa c2,aa c2,List.getD_eq_getElem?_getD,List.getD_eq_getElem?_getD,List.getElem?_append_left (by omega)]
   ·rw[aa c1,aa (show ¬ i<b by omega),List.getD_eq_getElem?_getD,List.getD_eq_getElem?_getD,List.getElem?_append_right (by omega)];rw[show i-b-us.length=i-(b+us.length) from by omega];have hi:i-(b+us.length)<ws.length:=by omega
    rw[gG hi];have hc:=hw _ (bM hi);exact mn us _ _ b (aB _) (j9 _ _ 0 b (aB _) (by omega) hc)
  |int v=>rfl
  |fail=>rfl
  |alt s n x=>simp[Ct.wf]at hwf
  |lam x =>
   simp only[Ct.wf]at hwf;simp only[Ct.size]at hs;have:=lA us ws hw N x (b+1) (by omega) (by rw[show b+1+us.length+ws.length=b+us.length+ws.length+1 from by omega];exact hwf);simp only[Ct.sub,show b+us.length+1=b+1+us.length from by omega,this]
  |app x y =>
   simp only[Ct.wf,ab]at hwf;simp only[Ct.size]at hs;simp only[Ct.sub,lA us ws hw N x b (by omega) hwf.1,lA us ws hw N y b (by omega) hwf.2]
  |op s x y =>
   simp only[Ct.wf,ab]at hwf;simp only[Ct.size]at hs;simp only[Ct.sub,lA us ws hw N x b (by omega) hwf.1.2,lA us ws hw N y b (by omega) hwf.2]
  |UW s l =>
   simp only[Ct.wf,ab]at hwf;simp only[Ct.size]at hs;simp only[Ct.sub,Ct.Vh,UJ];rw[show l.map (Ct.sub us b ∘ Ct.sub ws (b+us.length))=l.map (Ct.sub (us++ws) b) from
    cL λt ht=>lA us ws hw N t b (by have:=dm ht;omega) (Vi hwf.2 t ht)]
  |case x l =>
   simp only[Ct.wf,ab]at hwf;simp only[Ct.size]at hs;simp only[Ct.sub,Ct.Vh,UJ,lA us ws hw N x b (by omega) hwf.1.1.1];rw[show l.map (Ct.sub us b ∘ Ct.sub ws (b+us.length))=l.map (Ct.sub (us++ws) b) from
    cL λt ht=>by
     obtain⟨s,n,y,rfl,w1,w2⟩:=fV hwf.2 t ht;have hsz:=dm ht;simp only[Ct.size]at hsz;have:=lA us ws hw N y (b+n) (by omega) (by rw[show b+n+us.length+ws.length=b+us.length+ws.length+n from by omega];exact w2);simp only[jq,Ct.sub,show b+us.length+n=b+n+us.length from by omega,this]]
inductive ld:T->Ct->Prop
 |jJ {t:Ct} {ρ:List T} {cs:List Ct}:ρ.length=cs.length->(∀(i:Nat) (X:T) (c:Ct),ρ[i]?=some X->cs[i]?=some c->ld X c)->(∀c,c∈cs->c.wf 0=true)->t.wf cs.length=true->ld (.jJ t ρ) (t.sub cs 0)
 |app {A B:T} {a b:Ct}:ld A a->ld B b->ld (.app A B) (.app a b)
 |UW {s:List UInt8} {l:List T} {cl:List Ct}:l.length=cl.length->(∀(i:Nat) (X:T) (c:Ct),l[i]?=some X->cl[i]?=some c->ld X c)->ld (.UW s l) (.UW s cl)
 |case {A:T} {x:Ct} {l:List T} {cl:List Ct}:ld A x->l.length=cl.length->(∀(i:Nat) (X:T) (c:Ct),l[i]?=some X->cl[i]?=some c->ld X (wx c))->ld (.case A (cl.map fQ) l) (.case x cl)
 |int {v:Int}:ld (.int v) (.int v)
 |op {s:List UInt8} {A B:T} {a b:Ct}:ld A a->ld B b->ld (.op s A B) (.op s a b)
 |fail:ld .fail .fail
structure HW (ρ:List T)(cs:List Ct):Prop where
 len:ρ.length=cs.length
 rep:∀(i:Nat) (X:T) (c:Ct),ρ[i]?=some X->cs[i]?=some c->ld X c
 wf:∀c,c∈cs->c.wf 0=true
theorem HW.jJ {ρ:List T}{cs:List Ct}(h:HW ρ cs){t:Ct}(hw:t.wf cs.length=true):ld (.jJ t ρ) (t.sub cs 0):=.jJ h.len h.rep h.wf hw
theorem HW.cons {ρ:List T}{cs:List Ct}(h:HW ρ cs){A:T}{a:Ct}(ha:ld A a)(hw:a.wf 0=true):HW (A::ρ) (a::cs):=by
 refine⟨by simp[h.len],λi X c h1 h2=>?_,λc hc=>?_⟩
 ·cases i with
  |zero=>simp at h1 h2;subst h1 h2;exact ha
  |succ i=>exact h.rep i X c (by simpa using h1) (by simpa using h2)
 ·rcases aA.1 hc with rfl|hc
  ·exact hw
  ·exact h.wf c hc
def Mr (X:T):Ct->Prop
 |.app a b=>∃A B,X=.app A B/\ld A a/\ld B b
 |.lam b'=>∃b ρ cs,X=.jJ (.lam b) ρ/\b'=b.sub cs 1/\HW ρ cs/\b.wf (cs.length+1)=true
 |.UW s cl=>∃l,X=.UW s l/\l.length=cl.length/\∀(i:Nat) (Y:T) (c:Ct),l[i]?=some Y->cl[i]?=some c->ld Y c
 |.case x cl=>∃A l,X=.case A (cl.map fQ) l/\ld A x/\l.length=cl.length/\∀(i:Nat) (Y:T) (c:Ct),l[i]?=some Y->cl[i]?=some c->ld Y (wx c)
 |.int v=>X=.int v
 |.op s a b=>∃A B,X=.op s A B/\ld A a/\ld B b
 |.fail=>X=.fail
 |_=>False
theorem Qf:∀(n:Nat) (b:Ct) (f:Nat),(Ct.wu n b).wf f=b.wf (f+n)
 |0,b,f=>rfl
 |n+1,b,f=>by
  simp only[Ct.wu,Ct.wf,Qf n b (f+1)];rw[show f+1+n=f+(n+1) from by omega]
theorem Bj (us:List Ct):∀(n:Nat) (b:Ct) (f:Nat),(Ct.wu n b).sub us f=Ct.wu n (b.sub us (f+n))
 |0,b,f=>rfl
 |n+1,b,f=>by
  simp only[Ct.wu,Ct.sub,Bj us n b (f+1)];rw[show f+1+n=f+(n+1) from by omega]
theorem ld.HS {X:T}{c:Ct}(h:ld X c):∃X',qG X X'/\Mr X' c:=by
 induction h with
 |@jJ t ρ cs h1 h2 h3 h4 ih =>
  have he:HW ρ cs:=⟨h1,h2,h3⟩
  cases t with
  |var i =>
   simp only[Ct.wf,Uq]at h4;have hi:i<ρ.length:=by omega
   obtain⟨X',e1,e2⟩:=ih i ρ[i] cs[i] (gG hi) (gG h4);have hs:Ct.sub cs 0 (.var i)=cs[i]:=by
    simp only[Ct.sub];rw[aa (by omega),List.getD_eq_getElem?_getD,Nat.sub_zero,gG h4];rfl
   rw[hs];exact⟨X',.step (by simp[T.hd,C_,hi]) e1,e2⟩
  |lam b =>
   simp only[Ct.wf]at h4;exact⟨_,.refl,b,ρ,cs,rfl,rfl,he,h4⟩
  |app a b =>
   simp only[Ct.wf,ab]at h4;exact⟨_,.one rfl,_,_,rfl,he.jJ h4.1,he.jJ h4.2⟩
  |op s a b =>
   simp only[Ct.wf,ab]at h4;exact⟨_,.one rfl,_,_,rfl,he.jJ h4.1.2,he.jJ h4.2⟩
  |int v=>exact⟨_,.one rfl,rfl⟩
  |fail=>exact⟨_,.one rfl,rfl⟩
  |alt s n b=>simp[Ct.wf]at h4
  |UW s l =>
   simp only[Ct.wf,ab]at h4;refine⟨_,.one rfl,l.map (λa=>.jJ a ρ),rfl,by simp[Ct.Vh],λi Y c e1 e2=>?_⟩;rw[List.getElem?_map]at e1;obtain⟨a,e3,rfl⟩:=aP.1 e1;rw[Ct.Vh,List.getElem?_map,e3]at e2;cases e2;exact he.jJ (Vi h4.2 a (aE e3))
  |case x l =>
   simp only[Ct.wf,ab]at h4;have ha:=Eh cs 0 h4.2;refine⟨_,.one rfl,.jJ x ρ,l.map (λa=>.jJ (wx a) ρ),by rw[ha],he.jJ h4.1.1.1,by simp[Ct.Vh],λi Y c e1 e2=>?_⟩;rw[List.getElem?_map]at e1;obtain⟨a,e3,rfl⟩:=aP.1 e1;rw[Ct.Vh,List.getElem?_map,e3]at e2;cases e2;obtain⟨s,n,b,rfl,w1,w2⟩:=fV h4.2 a (aE e3);have:wx (Ct.sub cs 0 (.alt s n b))=(wx (.alt s n b)).sub cs 0:=by
    simp only[Ct.sub,wx,Bj]
   rw[this];exact he.jJ (by simp only[wx,Qf];exact w2)
 |app h1 h2 _ _=>exact⟨_,.refl,_,_,rfl,h1,h2⟩
 |UW h1 h2 _=>exact⟨_,.refl,_,rfl,h1,h2⟩
 |case h1 h2 h3 _ _=>exact⟨_,.refl,_,_,rfl,h1,h2,h3⟩
 |int=>exact⟨_,.refl,rfl⟩
 |op h1 h2 _ _=>exact⟨_,.refl,_,_,rfl,h1,h2⟩
 |fail=>exact⟨_,.refl,rfl⟩
theorem Mr.val {X:T}{c:Ct}(h:Mr X c)(hv:c.val=true):X.val=true:=by
 cases c with
 |lam b=>obtain⟨_,_,_,rfl,_⟩:=h;rfl
 |UW s l=>obtain⟨_,rfl,_⟩:=h;rfl
 |int v=>rw[show X=_ from h];rfl
 |fail=>rw[show X=_ from h];rfl
 |_=>simp[Ct.val]at hv
theorem qG.apps {F F':T}(h:qG F F'):∀l:List T,qG (apps F l) (apps F' l):=by
 intro l
 induction l generalizing F F' with
 |nil=>exact h
 |cons a r ih=>exact ih h.app
theorem ld.beta {A B:T}{b' b:Ct}(hA:ld A (.lam b'))(hB:ld B b)(hb:b.wf 0=true):∃X,qG (.app A B) X/\ld X (b'.sub [b] 0):=by
 obtain⟨X',e1,bd,ρ,cs,rfl,rfl,he,hw⟩:=hA.HS;refine⟨.jJ bd (B::ρ),e1.app.trans (.one (A_ rfl)),?_⟩;have:=(he.cons hB hb).jJ (t:=bd) hw;rw[show(bd.sub cs 1).sub [b] 0=bd.sub (b::cs) 0 from by
  have:=lA [b] cs he.wf bd.size bd 0 (aB _) (by simpa [kD] using hw);simpa using this]
 exact this
theorem ld.apps:∀(n:Nat) {F:T} {b':Ct} {As:List T} {as':List Ct},ld F (.wu n b')->b'.wf n=true->As.length=n->as'.length=n->(∀(i:Nat) (X:T) (c:Ct),As[i]?=some X->as'[i]?=some c->ld X c)->(∀c,c∈as'->c.wf 0=true) ->
  ∃X,qG (Z.apps F As) X/\ld X (b'.sub as'.reverse 0)
 |0,F,b',As,as',hF,hb,h1,h2,h3,h4=>by
  have e1:=aW h1;have e2:=aW h2;subst e1 e2;refine⟨F,.refl,?_⟩;rw[List.reverse_nil,mn [] b'.size b' 0 (aB _) hb];exact hF
 |n+1,F,b',As,as',hF,hb,h1,h2,h3,h4=>by
  match As,as',h1,h2 with
  |A::Ar,a::ar,h1,h2 =>
   have ha:=h4 a (by simp);obtain⟨Y,e1,e2⟩:=hF.beta (h3 0 A a rfl rfl) ha;rw[Bj,aG]at e2;have hb2:(b'.sub [a] n).wf n=true:=yj [a] (by simpa using ha) b'.size b' n (aB _) hb;simp only[av]at h1 h2;obtain⟨X,e3,e4⟩:=ld.apps n (As:=Ar) (as':=ar) e2 hb2 (by omega) (by omega) (λi X c q1 q2=>h3 (i+1) X c (by simpa using q1) (by simpa using q2)) (λc hc=>h4 c (by simp[hc]));refine⟨X,(e1.apps Ar).trans e3,?_⟩;rw[List.reverse_cons,<- lA ar.reverse [a] (by simpa using ha) b'.size b' 0 (aB _) (by simp;rw[show ar.length+1=n+1 from by omega];exact hb)];rw[aG,jn,show ar.length=n from by omega];exact e4
theorem Bk (cl:List Ct)(s:List UInt8)(n:Nat):Gd (cl.map fQ) s (n+1)=qI cl s n:=by
 unfold Gd qI;rw[List.findIdx?_map]
 congr 1
 funext t;simp only[jq];rcases fQ t with ⟨a,k⟩
 by_cases h1:a=s<;>by_cases h2:k=n<;>simp[h1,h2]
theorem GB (s:List UInt8)(hs:A3 s=true)(a b:Int):ld (Ki s a b) (ue s a b).1:=by
 have tr:∀x:Bool,ld (Cb x) (.UW (if x then [84,114,117,101] else [70,97,108,115,101]) []):=λx=>.UW rfl (by simp);unfold A3 at hs;simp only[UP,Uq]at hs;unfold Ki ue;rcases hs with ((((h|h)|h)|h)|h)|h<;>subst h
 ·exact .int
 ·exact .int
 ·exact .int
 ·simp only[dV,reduceCtorEq];by_cases hb:b=0
  ·simp[hb];exact .fail
  ·simp[hb];exact .int
 ·by_cases hb:a<b
  ·have:=tr true;simp[hb]at this ⊢;exact this
  ·have:=tr false;simp[hb]at this ⊢;exact this
 ·by_cases hb:a=b
  ·have:=tr true;simp[hb]at this ⊢;exact this
  ·have:=tr false;simp[hb]at this ⊢;exact this
theorem Mr.QF {A B:T}{a:Ct}(h:Mr A a)(hv:a.val=true)(hn:∀b,a≠.lam b):(T.app A B).hd=some .fail:=by
 have e:=A_ (a:=B) (h.val hv);cases a with
 |lam b=>exact absurd rfl (hn b)
 |UW s l=>obtain⟨_,rfl,_⟩:=h;exact e
 |int v=>rw[show A=_ from h]at e ⊢;exact e
 |fail=>rw[show A=_ from h]at e ⊢;exact e
 |_=>simp[Ct.val]at hv
theorem Mr.Qm {A:T}{al:List (List UInt8×Nat)}{l:List T}{a:Ct}(h:Mr A a)(hv:a.val=true)(hn:∀s b,a≠.UW s b):(T.case A al l).hd=some .fail:=by
 have e:=Gf (al:=al) (l:=l) (h.val hv);cases a with
 |UW s b=>exact absurd rfl (hn s b)
 |lam b=>obtain⟨_,_,_,rfl,_⟩:=h;exact e
 |int v=>rw[show A=_ from h]at e ⊢;exact e
 |fail=>rw[show A=_ from h]at e ⊢;exact e
 |_=>simp[Ct.val]at hv
theorem Mr.QG {A B:T}{s:List UInt8}{a:Ct}(h:Mr A a)(hv:a.val=true)(hn:∀n,a≠.int n):(T.op s A B).hd=some .fail:=by
 refine Qv (h.val hv) λn e=>?_;subst e;cases a with
 |int v=>exact absurd rfl (hn v)
 |lam b=>obtain⟨_,_,_,h,_⟩:=h;cases h
 |UW s l=>obtain⟨_,h,_⟩:=h;cases h
 |fail=>exact absurd (show T.int n=_ from h) (by simp)
 |_=>simp[Ct.val]at hv
theorem Mr.QH {B:T}{s:List UInt8}{n:Int}{b:Ct}(h:Mr B b)(hv:b.val=true)(hn:∀m,b≠.int m):(T.op s (.int n) B).hd=some .fail:=by
 have e:=Kj (s:=s) (n:=n) (h.val hv);cases b with
 |int v=>exact absurd rfl (hn v)
 |lam b=>obtain⟨_,_,_,rfl,_⟩:=h;exact e
 |UW s l=>obtain⟨_,rfl,_⟩:=h;exact e
 |fail=>rw[show B=_ from h]at e ⊢;exact e
 |_=>simp[Ct.val]at hv
theorem ld.step:∀(c:Ct) {X:T},ld X c->c.wf 0=true->c.step.2≠0->∃X',qG X X'/\ld X' c.step.1
 |.var i,X,_,h,_=>by simp[Ct.wf]at h
 |.alt s n b,X,_,h,_=>by simp[Ct.wf]at h
 |.int v,X,_,_,h=>absurd rfl h
 |.fail,X,_,_,h=>absurd rfl h
 |.lam b,X,_,_,h=>absurd rfl h
 |.UW s l,X,_,_,h=>absurd rfl h
 |.app f a,X,hR,hw,hs=>by
  simp only[Ct.wf,ab]at hw;obtain⟨X',e1,A,B,rfl,hA,hB⟩:=hR.HS;simp only[Ct.step]at hs ⊢;split
  ·rename_i hv;split
   ·obtain⟨Y,e2,e3⟩:=hA.beta hB hw.2;exact⟨Y,e1.trans e2,e3⟩
   ·rename_i hn;obtain⟨A',e2,e3⟩:=hA.HS;exact⟨.fail,(e1.trans e2.app).trans (.one (e3.QF hv λb e=>hn b e)),.fail⟩
  ·rename_i hv;rw[aa hv]at hs;split
   ·rename_i c;rw[ah c]at hs;exact absurd rfl hs
   ·rename_i c;obtain⟨A',e2,e3⟩:=ld.step f hA hw.1 c;exact⟨_,e1.trans e2.app,.app e3 hB⟩
 |.case x l,X,hR,hw,hs=>by
  simp only[Ct.wf,ab]at hw;obtain⟨X',e1,A,ls,rfl,hA,hl,hB⟩:=hR.HS;simp only[Ct.step]at hs ⊢;split
  ·rename_i hv;obtain⟨A',e2,e3⟩:=hA.HS;unfold Ct.pick;split
   ·rename_i s cl;obtain⟨As,rfl,hc1,hc2⟩:=e3;have hx:=hw.1.1.1;simp only[Ct.wf,ab]at hx;have e4:(T.case (.UW s As) (l.map fQ) ls).hd=_:=Gf rfl;simp only[Ge,Bk,hc1]at e4;split
    ·rename_i k hk;obtain⟨a,h1,h2⟩:=rE hk;obtain⟨s',n,b,rfl,w1,w2⟩:=fV hw.2 a (aE h1);simp only[fQ,eK]at h2;obtain⟨rfl,rfl⟩:=h2;have hk2:k<ls.length:=by rw[hl];exact(gE h1).1
     rw[hk]at e4;simp only[gG hk2]at e4;have hb:=hB k _ _ (gG hk2) h1;obtain⟨Y,e5,e6⟩:=ld.apps cl.length (As:=As) (as':=cl) (b':=b) hb (by simpa using w2) hc1 rfl hc2 (λc hc=>Vi hx.2 c hc);refine⟨Y,((e1.trans e2.case).trans (.one e4)).trans e5,?_⟩;rw[List.getD_eq_getElem?_getD,h1];exact e6
    ·rename_i hk;rw[hk]at e4;exact⟨.fail,(e1.trans e2.case).trans (.one e4),.fail⟩
   ·rename_i hn;exact⟨.fail,(e1.trans e2.case).trans (.one (e3.Qm hv λs b e=>hn s b e)),.fail⟩
  ·rename_i hv;rw[aa hv]at hs;split
   ·rename_i c;rw[ah c]at hs;exact absurd rfl hs
   ·rename_i c;obtain⟨A',e2,e3⟩:=ld.step x hA hw.1.1.1 c;exact⟨_,e1.trans e2.case,.case e3 hl hB⟩
 |.op s a b,X,hR,hw,hs=>by
  simp only[Ct.wf,ab]at hw;obtain⟨X',e1,A,B,rfl,hA,hB⟩:=hR.HS;simp only[Ct.step]at hs ⊢;split
  ·rename_i hv;rw[ah hv]at hs;obtain⟨A',e2,e3⟩:=hA.HS;split
   ·rename_i n;have:A'=.int n:=e3;subst this;dsimp only at hs;split
    ·rename_i hvb;obtain⟨B',e4,e5⟩:=hB.HS;split
     ·rename_i m;have:B'=.int m:=e5;subst this;have e6:(T.op s (.int n) (.int m)).hd=_:=Kj rfl;exact⟨_,((e1.trans e2.Q8).trans e4.RG).trans (.one e6),GB s hw.1.1 n m⟩
     ·rename_i hn;exact⟨.fail,((e1.trans e2.Q8).trans e4.RG).trans (.one (e5.QH hvb λm e=>hn m e)),.fail⟩
    ·rename_i hvb;rw[aa hvb]at hs;split
     ·rename_i c;rw[ah c]at hs;exact absurd rfl hs
     ·rename_i c;obtain⟨B',e4,e5⟩:=ld.step b hB hw.2 c;exact⟨_,(e1.trans e2.Q8).trans e4.RG,.op .int e5⟩
   ·rename_i hn;exact⟨.fail,(e1.trans e2.Q8).trans (.one (e3.QG hv λn e=>hn n e)),.fail⟩
  ·rename_i hv;rw[aa hv]at hs;split
   ·rename_i c;rw[ah c]at hs;exact absurd rfl hs
   ·rename_i c;obtain⟨A',e2,e3⟩:=ld.step a hA hw.1.2 c;exact⟨_,e1.trans e2.Q8,.op e3 hB⟩
theorem ld.run:∀(m:Nat) {c:Ct} {X:T},ld X c->c.wf 0=true->(dz m c).2.2=0->∃X',qG X X'/\ld X' (dz m c).1
 |0,c,X,hR,hw,he=>by
  unfold dz at he ⊢;split at he
  ·cases he
  ·rename_i c1;rw[aa c1];split at he
   ·rename_i c2;rw[ah c2];exact⟨X,.refl,hR⟩
   ·cases he
 |m+1,c,X,hR,hw,he=>by
  unfold dz at he ⊢;split at he
  ·cases he
  ·rename_i c1;rw[aa c1];split at he
   ·rename_i c2;rw[ah c2];exact⟨X,.refl,hR⟩
   ·rename_i c2;rw[aa c2];obtain⟨X',e1,e2⟩:=hR.step c hw c2;obtain⟨X'',e3,e4⟩:=ld.run m e2 (oQ c hw) he;exact⟨X'',e1.trans e3,e4⟩
theorem pU {ev:Nat->Ct->Tm×Nat×Nat}{D:Bool}{F:Nat}(ih:∀F t X,ld X t->t.wf 0=true->(ev F t).2.2=0->∃s:aO,s.tm=(ev F t).1/\Comes true X s) :
  ∀(l:List Ct) (As:List T) (n:Nat),As.length=l.length->(∀(i:Nat) (Y:T) (c:Ct),As[i]?=some Y->l[i]?=some c->ld Y c)->(∀c,c∈l->c.wf 0=true)->(fR ev D F l n).2.2=0 ->
  ∃sl:List aO,aO.gp sl=(fR ev D F l n).1/\sl.length=l.length/\(D=true->∀(i:Nat) (t':T) (s':aO),As[i]?=some t'->sl[i]?=some s'->Comes true t' s')/\(D=false->sl=List.replicate l.length .lazy)
 |[],As,n,h1,_,_,_=>by
  refine⟨[],rfl,rfl,λ_ i t' s' _ h=>by simp at h,λ_=>rfl⟩
 |t::r,As,n,h1,h2,h3,he=>by
  match As,h1 with
  |A::Ar,h1 =>
   have hr:∀(i:Nat) (Y:T) (c:Ct),Ar[i]?=some Y->r[i]?=some c->ld Y c:=λi Y c q1 q2=>h2 (i+1) Y c (by simpa using q1) (by simpa using q2);have hwr:∀c,c∈r->c.wf 0=true:=λc hc=>h3 c (by simp[hc]);simp only[av,Wv]at h1;unfold fR at he ⊢;split at he
   ·rename_i cD;rw[ah cD];split at he
    ·rename_i c;exact absurd he c
    ·rename_i c;rw[aa c];obtain⟨s,q1,q2⟩:=ih (F-n) t A (h2 0 A t rfl rfl) (h3 t (by simp)) (VQ.1 c);obtain⟨sl,p1,p2,p3,p4⟩:=pU ih r Ar _ h1 hr hwr he;refine⟨s::sl,by simp only[aO.gp,q1,p1],by simp[p2],λ_ i t' s' w1 w2=>?_,λc=>by rw[cD]at c;cases c⟩;cases i with
     |zero=>simp at w1 w2;subst w1 w2;exact q2
     |succ i=>exact p3 cD i t' s' (by simpa using w1) (by simpa using w2)
   ·rename_i cD;rw[aa cD];obtain⟨sl,p1,p2,p3,p4⟩:=pU ih r Ar _ h1 hr hwr he;refine⟨.lazy::sl,by simp only[aO.gp,p1];rfl,by simp[p2],λc=>absurd c cD,λc=>by rw[p4 c];rfl⟩
theorem wO:∀(g:Nat) (D:Bool) (F:Nat) (c:Ct) (X:T),ld X c->c.wf 0=true->(fS g D F c).2.2=0->∃s:aO,s.tm=(fS g D F c).1/\Comes D X s
 |0,D,F,c,X,hR,hw,he=>by cases he
 |g+1,D,F,c,X,hR,hw,he=>by
  have hk:=uB F c hw;have hrun:=ld.run F hR hw;unfold fS at he ⊢;split at he
  ·rename_i c1;exact absurd he c1
  ·rename_i c1;rw[aa c1];have c0:(dz F c).2.2=0:=by omega
   obtain⟨X',e1,e2⟩:=hrun c0;obtain⟨X'',e3,e4⟩:=e2.HS;have e5:=e1.trans e3;obtain⟨k1,k2,-,-⟩:=hk c0;generalize hr:(dz F c).1=r at he e4 k1 k2;cases r with
   |int v=>exact⟨.mk 1 v [] [],rfl,.int (by rw[show X''=_ from e4]at e5;exact e5)⟩
   |lam b =>
    obtain⟨b0,ρ,cs,rfl,-⟩:=e4;exact⟨.mk 3 0 [] [],rfl,.lam e5⟩
   |fail=>exact⟨.mk 4 0 [] [],rfl,.fail (by rw[show X''=_ from e4]at e5;exact e5)⟩
   |UW s l =>
    obtain⟨As,rfl,h1,h2⟩:=e4;simp only[Ct.wf,ab]at k1;dsimp only at he ⊢;split at he
    ·rename_i c2;exact absurd he c2
    ·rename_i c2;rw[aa c2];obtain⟨sl,p1,p2,p3,p4⟩:=pU (D:=D) (λF t X a b c=>wO g true F t X a b c) (F:=F) l As (dz F c).2.1 h1 h2 (λc hc=>Vi k1.2 c hc) (VQ.1 c2);exact⟨.mk 2 0 s sl,by simp only[aO.tm,p1];rfl,.UW e5 (by omega) (λhD=>by subst hD;exact p3 rfl) (λhD=>by rw[h1];exact p4 hD)⟩
   |_=>simp[Ct.val]at k2
theorem GC {t:Ct}(hw:t.wf 0=true):ld (.jJ t []) t:=by
 have:ld (.jJ t []) (t.sub [] 0):=.jJ (ρ:=[]) (cs:=[]) rfl (λi X c h=>by simp at h) (by simp) hw;rwa [mn [] t.size t 0 (aB _) hw]at this
section
variable {G:Heap}
mutual
theorem Tm.wP:∀(t:Tm) (a d v:Nat),t.te a d=some v->t.size+v=a
 |.mk _ _ _ l,a,d,v,h=>by
  unfold Tm.te at h;split at h
  ·cases h
  ·have:=Tm.yh l _ _ _ h;simp only[Tm.size];omega
theorem Tm.yh:∀(l:List Tm) (a d v:Nat),Tm.oL l a d=some v->Tm.dt l+v=a
 |[],a,d,v,h=>by
  simp only[Tm.oL,bG]at h;simp only[Tm.dt];omega
 |x::r,a,d,v,h=>by
  simp only[Tm.oL]at h;cases hx:x.te a d with
  |none=>rw[hx]at h;cases h
  |some u =>
   rw[hx]at h;have h1:=Tm.wP x a d u hx;have h2:=Tm.yh r u d v h;simp only[Tm.dt];omega
end
theorem Ei {c:Ct}(hw:c.wf 0=true)(hs:c.size<=60)(hd:c.tm.depth<=30)(D:Bool)(F g F':Nat) :
  x8 (bI (c.cS 4000).1 D F).2.1/\((bI (c.cS 4000).1 D F).2.1=0->(fS g D F' c).2.2=0->(bI (c.cS 4000).1 D F).2.2.tm=(fS g D F' c).1):=by
 obtain⟨h1,h2⟩:=Ef eA (by omega) hw (V1 hw hs hd) D F;refine⟨h1,λe1 e2=>?_⟩;obtain⟨s,q1,q2⟩:=wO g D F' c _ (GC hw) hw e2;rw[(h2 e1).O9 q2,q1]
theorem GD {t:Tm}(hf:(t.te 60 600).isSome=true)(hm:t.may 0 false=true):∃c:Ct,c.tm=t/\c.wf 0=true/\c.size<=60:=by
 obtain⟨v,hv⟩:=dM.1 hf;have h1:=Tm.wP t 60 600 v hv;obtain⟨c,rfl,hw⟩:=(Kr t 0).1 hm;exact⟨c,rfl,hw,by rw[<- Ct.iQ];omega⟩
set_option maxHeartbeats 1000000 in
theorem t5 (h8:sw)(t:Tm)(ht:t.wq)(D:Bool):E iE 5 [.ag (bP t.aw),.p (.b D)] []=some (.ret (.p (.b true)),[]):=by
 have h:=Xj;unfold sw at h8;have GH:=λG=>t16 (G:=G) h t ht;obtain⟨tk,tn,ts,tl,hte⟩:=t.jC;rw[h.run (x:=c5)];cases c1:(t.te 60 600).isSome with
 |false =>
  rw[hte,c1]at GH;rw[hte];simp only[bP,ai,au]at GH;simp[c5,aj,h8,GH]
 |true =>
  obtain⟨v,hv⟩:=dM.1 c1;obtain⟨f1,f2,f3⟩:=Tm.tj t 60 600 v hv (by omega);have OD:=λG=>t17 h t f1 (by omega) G;by_cases c2:30<t.depth
  ·have c2':(30:Int)<(t.depth:Nat):=by omega
   rw[hte,c1]at GH;rw[hte]at OD;rw[hte];simp only[bP,ai,au]at GH OD;simp[c5,aj,h8,GH,OD,c2,c2']
  ·have c2':¬ (30:Int)<(t.depth:Nat):=by omega
   have P_:=λG=>t18 (G:=G) h ht (by omega);cases c3:t.may 0 false with
   |false =>
    rw[hte,c1]at GH;rw[hte]at OD;rw[hte,c3]at P_;rw[hte];simp only[bP,ai,au]at GH OD P_;simp[c5,aj,h8,GH,OD,P_,c2,c2']
   |true =>
    obtain⟨c,rfl,hw,hs⟩:=GD c1 c3;rw[c1]at GH;rw[c3]at P_;have Qg:=λG=>t20 (G:=G) h (most:=4000) (by omega) ⟨hw,by omega,by omega,by omega⟩ P_;have hn:=Gt (most:=4000) (by omega) hw (V1 hw hs (by omega));have he:=V1 hw hs (by omega);have a11:=λG=>t11 (G:=G) hn.1 D (F:=150) (by omega);have Qb:=λG=>t21 h (60 * 5001+c.size+1) D 60 c (by unfold wN;split<;>omega) (by omega) hw (by omega) G;obtain⟨k1,k2⟩:=Ei hw hs (by omega) D 150 (60 * 5001+c.size+1) 60;have hfit:=ta hn.1 D 150;have hT:=(VD eA hn.1 D 150).2.1.ok.2.1;obtain⟨t0,t1,t2,t3,t4,t5,t6,t7,t8,hTe⟩:∃t0 t1 t2 t3 t4 t5 t6 t7 t8,(bI (c.cS 4000).1 D 150).1.T=[t0,t1,t2,t3,t4,t5,t6,t7,t8]:=by
     match (bI (c.cS 4000).1 D 150).1.T,hT with
     |[t0,t1,t2,t3,t4,t5,t6,t7,t8],_=>exact⟨t0,t1,t2,t3,t4,t5,t6,t7,t8,rfl⟩
    rw[he]at Qg;have Cr:=fun (b:Tm) G=>t13 h _ hfit b G;rw[aO.v7]at Cr;generalize hE:fS (60 * 5001+c.size+1) D 60 c=ev at *;obtain⟨vt,vn,ve⟩:=ev;obtain⟨vk,vn',vs,vl,hve⟩:=vt.jC;generalize hR:bI (c.cS 4000).1 D 150=R at *;obtain⟨RS,Re,Rs⟩:=R;obtain⟨sk,sn,snm,sl,hsh⟩:=Rs.sv;rw[hte]at GH OD P_ Qg Qb;rw[hte];dsimp only at *;by_cases c4:Re=0
    ·by_cases c5':ve=0
     ·have a13':=Cr vt;rw[show Rs.tm.same vt=true from Tm.pL.2 (k2 c4 c5')]at a13';rw[hve,hsh]at a13';simp only[Tm.nv,hve,bP,ai,au]at GH OD P_ Qg Qb a13';simp only[fu,ah c4,Vt,cJ,hTe,hsh,ai,au,bP]at a11;rw[c4]at a11;rw[c5']at Qb;simp only[fW,uC,Eo,Bn]at a11 Qg Qb;simp[c5,aj,h8,GH,OD,P_,c2,c2',Qg,a11,Qb,a13']
     ·have c5'':¬ (ve:Int)=0:=by omega
      simp only[Tm.nv,hve,bP,ai,au]at GH OD P_ Qg Qb;simp only[fu,ah c4,Vt,cJ,hTe,hsh,ai,au,bP]at a11;rw[c4]at a11;simp only[fW,uC,Eo,Bn]at a11 Qg Qb;simp[c5,aj,h8,GH,OD,P_,c2,c2',Qg,a11,Qb,c5',c5'']
    ·have c4':¬ (Re:Int)=0:=by omega
     simp only[Tm.nv,hve,bP,ai,au]at GH OD P_ Qg Qb;simp only[fu,aa c4,Vt,cJ,hTe,ai,au,bP]at a11;simp only[fW,uC,Eo,Bn]at a11 Qg Qb;rcases k1 with e|e|e|e
     ·exact absurd e c4
     all_goals
      subst e;simp only[MN,KL,KM]at a11;simp[c5,aj,h8,GH,OD,P_,c2,c2',Qg,a11,Qb]
mutual
theorem Uc:∀t:Tm,t.uA.depth<=t.depth+1
 |.mk k n s l=>by
  have:=T_ l;simp only[Tm.uA];split
  ·simp only[Tm.depth,Tm.dp];omega
  ·split
   ·simp only[Tm.depth,Tm.dp];omega
   ·split
    ·simp only[Tm.depth,Tm.dp];omega
    ·simp only[Tm.depth];omega
theorem T_:∀l:List Tm,Tm.dp (Tm.tg l)<=Tm.dp l+1
 |[]=>by simp[Tm.tg,Tm.dp]
 |a::r=>by
  have h1:=Uc a;have h2:=T_ r;simp only[Tm.tg,Tm.dp];omega
end
mutual
theorem Uh:∀t:Tm,t.uA.size<=2 * t.size
 |.mk k n s l=>by
  have:=Ud l;simp only[Tm.uA];split
  ·simp only[Tm.size,Tm.dt];omega
  ·split
   ·simp only[Tm.size,Tm.dt];omega
   ·split
    ·simp only[Tm.size,Tm.dt];omega
    ·simp only[Tm.size];omega
theorem Ud:∀l:List Tm,Tm.dt (Tm.tg l)<=2 * Tm.dt l
 |[]=>by simp[Tm.tg,Tm.dt]
 |a::r=>by
  have h1:=Uh a;have h2:=Ud r;simp only[Tm.tg,Tm.dt];omega
end
set_option maxHeartbeats 1000000 in
theorem t7 (h8:sw)(t:Tm)(ht:t.wq)(D:Bool):E iE 7 [.ag (bP t.aw),.p (.b D)] []=some (.ret (.p (.b true)),[]):=by
 have h:=Xj;unfold sw at h8;have Tw:=λG=>t22 (G:=G) h t ht;have S4:=λG=>t23 h t ht G;obtain⟨tk,tn,ts,tl,hte⟩:=t.jC;rw[h.run (x:=c7)];cases c1:(t.te 60 600).isSome with
 |false =>
  rw[hte,c1]at Tw;rw[hte];simp only[bP,ai,au]at Tw;simp[c7,aj,h8,Tw]
 |true =>
  obtain⟨v,hv⟩:=dM.1 c1;obtain⟨f1,f2,f3⟩:=Tm.tj t 60 600 v hv (by omega);have f4:=Tm.wP t 60 600 v hv;have Q0:=λG=>t15 h t f2 G;cases c2:t.nS with
  |false =>
   rw[hte,c1]at Tw;rw[hte,c2]at S4;rw[hte];simp only[bP,ai,au]at Tw S4;simp[c7,aj,h8,Tw,S4]
  |true =>
   cases c3:t.lazy with
   |true =>
    rw[hte,c1]at Tw;rw[hte,c2]at S4;rw[hte,c3]at Q0;rw[hte];simp only[bP,ai,au]at Tw S4 Q0;simp[c7,aj,h8,Tw,S4,Q0]
   |false =>
    obtain⟨hst,hdt⟩:=Zm t c2 c3;have hctm:=Tm.IC t;have hd1:=Uc t;have hs1:=Uh t;rw[<- hctm]at hd1 hs1;rw[Ct.iQ]at hs1;obtain⟨r1,r2,r3,t',r4,r5,r6⟩:=hdt.read (by omega) (by omega);have hw:=hdt.wf 0;have S5:=λG=>t24 h t f1 G;rw[<- hctm]at S5;have P_:=λG=>t18 (G:=G) h (Ct.En t.ct.size t.ct 0 (aB _) hw) (by omega);rw[show t.ct.tm.may 0 false=true from np t.ct.size t.ct 0 (aB _) hw]at P_;have Qg:=λG=>t20 (G:=G) h (most:=4000) (by omega) ⟨hw,by omega,by omega,by omega⟩ P_;rw[r1]at Qg;have a11:=λG=>t11 (G:=G) r2 true (F:=0) (by omega);rw[r3]at a11;have hD:∃u:aO,bI (t.ct.cS 4000).1 D 0=(tT (t.ct.cS 4000).1,0,u)/\u.ao=t.Um.ao/\u.name=t.Um.name:=by
     cases D with
     |true=>exact⟨t.Um,r3,rfl,rfl⟩
     |false=>exact⟨t',r4,r5,r6⟩
    obtain⟨u,u1,u2,u3⟩:=hD;have tO:=λG=>t11 (G:=G) r2 D (F:=0) (by omega);rw[u1]at tO;have Qr:=λG=>t14 (G:=G) h (t.ct.cS 4000).1 r2.bounds;have Cr:=λG=>t13 h _ f2 t G;rw[show(t.same t)=true from Tm.pL.2 rfl]at Cr;have z12:=λG=>t12 (G:=G) (T:=U4) h rfl (by simp[U4]);have hse:t.Um.aw=t.aw:=by rw[<- aO.v7,hst]
    rw[hte,c1]at Tw;rw[hte,c2]at S4;rw[hte,c3]at Q0;rw[hte]at S5 Cr;rw[hte];obtain⟨dk,dn,ds,dl,hde⟩:=t.ct.tm.jC;obtain⟨uk,un,us,ul⟩:=u;have hk:((uk:Nat):Int)=tk/\us=ts:=by
     rw[hte]at hse;generalize t.Um=sh at *;obtain⟨k',n',s',l'⟩:=sh;simp only[aO.ao,aO.name]at u2 u3;simp only[aO.aw,dV]at hse;obtain⟨q1,q2,q3,_⟩:=hse;subst u2 u3;exact⟨by simpa using q1,by simpa using q3⟩
    obtain⟨hk1,hk2⟩:=hk;subst hk1 hk2;simp only[Tm.nv,hde,bP,ai,au]at Tw S4 Q0 S5 Cr Qg;simp only[fu,if_true,tT,cJ,U4,bP,ai,au,hse,hte,aO.aw,dK,V_,fW,uC]at a11 tO z12 Qg;simp[c7,aj,h8,Tw,S4,Q0,S5,Qg,a11,tO,Qr,Cr,z12]
end
end Go.Proofs.Z
section
namespace Go.Proofs.YtffohgbmjjbhiaaGreat
open Go.ChangeShapes Go.WideShapes Go.ChangeAt Go.RowKit Go.Proofs.Z
theorem Tryz.own:ownKnob Tryz.prog.godebug=none:=by kernel_rfl
theorem Tryz.laidOut:laidOutB Tryz.prog=true:=by kernel_rfl
theorem told {f:Nat}{args:List AV}{G:Heap}(he:E iE f args []=some (.ret (.p (.b true)),G)){w:World}{vargs:List Value}(hr:RL (mW w) (λ_=>none) (inf []) vargs args) :
  Calls Tryz.prog f vargs.toArray w λe w'=>e=.returned (.bool true)/\Below w.heap.size w w':=by
 refine(GV JL he (m:=mW w) (w:=w) ⟨λb o v h=>h,λi j l l' h=>(by cases h),λid o h=>(by simp at h),λid loc h=>(by cases h)⟩ hr).mono λe w' h=>?_;obtain⟨m',cA,hI,hS,hO⟩:=h;refine⟨?_,⟨hS.fr.os,hS.fr.tape,hS.fr.output,hS.fr.size,λk hk=>hS.fr.gD k hk (λid loc h=>(by cases h))⟩⟩;cases e with
 |returned v =>
  have h:R m' cA (inf G) v (.p (.b true)):=hO;cases h with
  |p v x hp=>cases hp;rfl
 |_=>exact hO.elim
section
variable {H:Type}{aw:TypeId×Value->H}{W:World}{aK:Nat}{spare:Nat->Bool}{held:Bool}
set_option maxRecDepth 100000 in
theorem Uk {r:Reach}{b0:Nat}{v:Value}{d:DataW H}{p:List MemPlace}(hv:Value.okWide Tryz.prog W r b0 31 v)(h:DataW.Trod aw Tryz.prog W aK spare held 31 v d p) :
  ∃t:Tm,t.wq/\R (mW W) (λ_=>none) (inf []) v (.ag (bP t.aw)):=by
 obtain⟨v0,v1,v2,v3,y0,y1,y2,y3,n,rfl,_,_,h0,h1,h2,h3⟩:=Go.Joins.open_agg4 Tryz.underlying31 (by kernel_rfl) Zh hv h;obtain⟨k0,e0,_⟩:=uz h0;obtain⟨k1,e1,_⟩:=uz h1;obtain⟨k2,e2,n2⟩:=C8 h2;obtain⟨a,c,l,e,rr,hq,hn⟩:=xW Tm.aw Tm.wq Tryz.underlying29 Zh (by omega) Tm.aS h3 (λn' _ _ _ g _=>Uo n' g);cases e0;cases e1;cases e2;cases e;have hM:=x6;refine⟨.mk k0 k1 k2 l,.mk (by omega) (by omega) hq,?_⟩;refine .ag _ _ (by simp only[Tm.aw];rfl) λj v c h1 h2=>?_;simp only[Tm.aw,Tm.ba,bP,ai,au]at h2
 match j with
 |0=>simp at h1 h2;subst h1 h2;exact .p _ _ (.i _ _)
 |1=>simp at h1 h2;subst h1 h2;exact .p _ _ (.i _ _)
 |2=>simp at h1 h2;subst h1 h2;exact .p _ _ (.s _)
 |3=>simp at h1 h2;subst h1 h2;exact .p _ _ rr
 |j+4=>simp at h1
end
theorem Zg {t:Tm}{D:Bool}(ht:t.wq){w:World}{v:Value}(hv:R (mW w) (λ_=>none) (inf []) v (.ag (bP t.aw))) :
  Calls Tryz.prog 7 #[v,.bool D] w λe w'=>e=.returned (.bool true)/\Below w.heap.size w w':=by
 refine told (vargs:=[v,.bool D]) (t7 Ca t ht D) ⟨rfl,λj v' c h1 h2=>?_⟩
 match j with
 |0=>simp at h1 h2;subst h1 h2;exact hv
 |1=>simp at h1 h2;subst h1 h2;exact .p _ _ (.b _)
 |j+2=>simp at h1
set_option maxRecDepth 100000 in
theorem Ul (os:Os)(started:os.Started)(H:Type)(aw:TypeId×Value->H) :
  ReturnsInHanded {} Tryz.checked os 7 .any (Rows.readDataSpec.pre6 aw Tryz.prog Tryz.f7 Rows.readDataRow.domain false) (Rows.readDataSpec.post aw Tryz.prog Tryz.f7 false true false false):=by
 refine returnsInHanded_of_change (C:=Tryz.checked) Tryz.own started (by kernel_rfl) Tryz.func7
  (ChangeSpec.witness6 (enc:=aw) (C:=Tryz.checked) false ⟨#[],#[.agg #[.int .i64 0,.int .i64 0,.string ⟨#[]⟩,.slice none 0 0],.bool false],[]⟩ 8 (by kernel_rfl) (by kernel_rfl) (by kernel_rfl) (by kernel_rfl)) ?_
 intro W aK args ds gs before hval0 hW hcnd _;have hval:∀(j:Nat) t v,Tryz.f7.params[j]?=some t->args[j]?=some v->Value.okWide Tryz.prog W .any aK t v:=hval0;have hW':=hW;obtain⟨p,q,hA0,hV,rfl,hfz,hnd⟩:=hW;have hA:DataW.TrodAll aw Tryz.prog W 0 (λ_=>true) true Tryz.f7.params.toList args.toList ds p:=hA0;rw[Tryz.params7]at hA hval;obtain⟨v0,vs0,d0,ds0,p0,q0,hargs,rfl,rfl,h0,r0⟩:=trodAll_cons hA;obtain⟨v1,vs1,d1,ds1,p1,q1,rfl,rfl,rfl,h1,r1⟩:=trodAll_cons r0;obtain⟨rfl,rfl,rfl⟩:=trodAll_nil r1;obtain rfl:args=#[v0,v1]:=by cases args;simp_all
 obtain⟨rfl,rfl⟩:=trodVars_none hV;have k0:=h0;have lt0:∀x∈p0,x.block<W.heap.size:=by obtain⟨m,hm⟩:=k0;exact DataW.trod_lt m _ _ _ hm
 obtain⟨t,ht,hv⟩:=Uk (hval 0 31 v0 rfl rfl) h0;obtain⟨D,rfl,rfl,rfl⟩:=open_bool Tryz.underlying4 (hval 1 4 v1 rfl rfl) h1;clear hA0 hval0;refine(Zg (D:=D) ht hv).mono λe W' ⟨he,bel⟩=>?_;subst he;exact⟨_,rfl,_,_,_,[],_,[],hW',trodAll_mk1 (shut_bool Tryz.underlying4 _),(trodAll_cons_mk (Below.trod Tryz.laidOut (by kernel_rfl) (UC (by kernel_rfl)) k0 bel lt0) (trodAll_cons_mk (shut_bool Tryz.underlying4 _) trodAll_mk0)),rfl,bel.frame _,λh=>by cases h⟩
theorem readData_holds:Rows.ReadDataSaid :=
 OpenClaim.holds_of_wide 7 Tryz.f7 rfl rfl rfl rfl rfl rfl rfl ⟨rfl,rfl,rfl,rfl,rfl⟩ rfl rfl rfl rfl rfl (by kernel_rfl) Tryz.func7 (by kernel_rfl)
  (UC (by kernel_rfl)) (by unfold Func.isWrapper;rw[aa (of_decide_eq_false (by kernel_rfl))];exact⟨rfl,rfl⟩)
  (λos started H aw _=>Ul os started H aw)
end Go.Proofs.YtffohgbmjjbhiaaGreat
end
