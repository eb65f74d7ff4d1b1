/- A part of the proof. -/
import Derived.Test.YtffohgbmjjbhiaaGreatD23
import Derived.Test.YtffohgbmjjbhiaaGreatD18
import Derived.Test.YtffohgbmjjbhiaaGreatD13
set_option linter.all false
namespace Go.Proofs.Z
section
variable {pg:fX}{G:Heap}
theorem t76 (h:bY pg){k n:Int}{s:List UInt8}{l:List Tm}{i:Nat}{c x:Tm}{w:Nat}(hi:l[i]?=some c)(hl:l.length<=60)(e:∀G,UM pg (E pg) 55 [.ag (bP c.aw)] G=some (.ret (.dF [x.nv,.p (.i .i64 w)]),G)) :
  UM pg (E pg) 76 [.ag (bP (Tm.mk k n s l).aw),.p (.i .i64 i)] G=some (.ret (.dF [if w=0 then (Tm.mk k n s l).nv else (Tm.mk k n s (l.set i x)).nv,.p (.i .i64 w)]),G):=by
 have hlt:i<l.length:=(gE hi).1;have hci:l[i]=c:=(gE hi).2;have hne:l≠[]:=λe=>by rw[e]at hlt;simp at hlt
 have e7:bZ l.length 56=true:=by simp[bZ];omega
 have ok1:bH 4 (l.map Tm.aw)=true:=by
  unfold bH;rw[bc];intro r hr;obtain⟨t,_,rfl⟩:=bj.1 hr;exact Tm.aS t
 have hc4:aS 4 c.aw=true:=Tm.aS c;have hx4:=Tm.pS x;have hxf:x.aw.all PV.flat=true:=by cases x;rfl
 have tk:List.take l.length (l.map Tm.aw)=l.map Tm.aw:=aF (by simp);have c4:=Tm.ku c;have c4':=Tm.pS c;simp only[Tm.aw,Tm.ba,bP,ai,au]at e ⊢;refine Ut ?_ rfl ?_
 ·rw[h.run (x:=ME)];by_cases hw:w=0
  ·obtain⟨xk,xn,xnm,xl⟩:=x;obtain⟨ck,cn,cnm,cl⟩:=c;simp only[Tm.aw,Tm.ba,bP,ai,au,Tm.eS]at e ⊢;have hrow:(l.map Tm.aw)[i]?=some [iv ck,iv cn,.s cnm,.sl (cl.map Tm.aw)]:=by rw[List.getElem?_map,hi];simp[Tm.aw,Tm.ba]
   have okc:aS 4 [iv ck,iv cn,.s cnm,.sl (cl.map Tm.aw)]=true:=rfl;simp[ME,aj,hi,hw,e,okc,Tm.aw,Tm.ba]
  ·obtain⟨xk,xn,xnm,xl⟩:=x;obtain⟨ck,cn,cnm,cl⟩:=c;simp only[Tm.aw,Tm.ba,bP,ai,au,Tm.eS]at e ⊢;have okc:aS 4 [iv ck,iv cn,.s cnm,.sl (cl.map Tm.aw)]=true:=rfl;have hset:(l.map Tm.aw).set i [iv xk,iv xn,.s xnm,.sl (xl.map Tm.aw)]=(l.set i (.mk xk xn xnm xl)).map Tm.aw:=by rw[cz];simp[Tm.aw,Tm.ba]
   have hrow:(l.map Tm.aw)[i]?=some [iv ck,iv cn,.s cnm,.sl (cl.map Tm.aw)]:=by rw[List.getElem?_map,hi];simp[Tm.aw,Tm.ba]
   have dc:l.map Tm.aw≠[]:=by simpa using hne
   have hRl:(l.map Tm.aw).length=l.length:=by simp
   rw[<- hset];clear hset;generalize l.map Tm.aw=R at *;have hi3:i<R.length:=by omega
   have hrow':R[i]'hi3=[iv ck,iv cn,.s cnm,.sl (cl.map Tm.aw)]:=(gE hrow).2;have e5:=λG=>vJ (sz:=4) (b:=56) (G:=G) (y:=.p (.sl R)) (new:=R) rfl rfl dc ok1 (by rw[hRl];exact e7);have hi2:(i:Int)<(l.length:Int):=by omega
   simp[ME,aj,hrow,hrow',hRl,hw,e,okc,e5,hi2,hi3,hlt,cO,Vy,ee,Vn,PV.flat];exact aF (by simp;omega)
 ·simp only[Out.bf,bf,cH];split<;>simp only[Tm.nv,bf,bE 0 (eZ _)]<;>rfl
def t_ (a:Ct):Tm:=.mk 6 (fQ a).2 (fQ a).1 [(gm a).tm]
theorem Df {f:Nat}:∀{l:List Ct},Ct.El f l=true->Ct.gp l=l.map t_
 |[],_=>rfl
 |a::r,h=>by
  cases a with
  |alt s n b =>
   simp only[Ct.El,ab]at h;simp only[Ct.gp,ai,Df h.2];rfl
  |_=>simp[Ct.El]at h
theorem Pd (h:bY pg){body:aU}(hb:body=qv){ay:List (List PV)}{al:List Ct}{sn:List UInt8}{ls:List Ct}{a0:List PV}(hrows:ay=a0::al.map (λa=>(t_ a).aw))(hal:al.length<=60)(hls:ls.length<=60){k n:Int}{s:List UInt8}
  (e99:∀a,a∈al->(fQ a).2=ls.length->∀G,UM pg (E pg) 99 [.ag (bP (gm a).tm.aw),.p (.sl ((Ct.gp ls).map Tm.aw))] G=some (.ret ((gm a).sub ls.reverse 0).tm.nv,G)):∀m i,i+m=al.length ->
  L pg 0 [1,2,4,5] body [(1,.ptr 0 0),(2,.ptr 1 0),(4,.ptr 2 0),(5,.p (.i .i64 ((i:Nat)+1)))]
   [.box [.p (iv k),.p (iv n),.p (.s s),.p (.sl ay)],.box [.p (iv 0),.p (iv 0),.p (.s []),.aC],.box [.p (iv 4),.p (iv 0),.p (.s sn),.p (.sl ((Ct.gp ls).map Tm.aw))]] =
  (match qI (al.drop i) sn ls.length with
   |some j=>some (.ret,[(2,.ptr 1 0),(3,.p (.i .i64 2))],[.box [.p (iv k),.p (iv n),.p (.s s),.p (.sl ay)],.box (bP ((gm ((al.drop i).getD j .fail)).sub ls.reverse 0).tm.aw),.box [.p (iv 4),.p (iv 0),.p (.s sn),.p (.sl ((Ct.gp ls).map Tm.aw))]])
   |none=>some (.exit 0,[(1,.ptr 0 0),(2,.ptr 1 0),(4,.ptr 2 0),(5,.p (.i .i64 (al.length+1))),(19,.p (.b false))],[.box [.p (iv k),.p (iv n),.p (.s s),.p (.sl ay)],.box [.p (iv 0),.p (iv 0),.p (.s []),.aC],.box [.p (iv 4),.p (iv 0),.p (.s sn),.p (.sl ((Ct.gp ls).map Tm.aw))]]))
 |0,i,hi=>by
  have:i=al.length:=by omega
  subst this;have hrl:ay.length=al.length+1:=by rw[hrows];simp
  rw[dA hb];simp[qv,aj,hrl,qI]
 |m+1,i,hi=>by
  have hlt:i<al.length:=by omega
  have hrl:ay.length=al.length+1:=by rw[hrows];simp
  have hx:ay[i+1]?=some (t_ al[i]).aw:=by rw[hrows];simp[hlt]
  have hx':ay[(((i:Int)+1).toNat)]?=some (t_ al[i]).aw:=by rw[show((i:Int)+1).toNat=i+1 from by omega];exact hx
  have hll:((Ct.gp ls).map Tm.aw).length=ls.length:=by rw[Ct.cM];simp
  have ih':=Pd h hb (sn:=sn) hrows hal hls (k:=k) (n:=n) (s:=s) e99 m (i+1) (by omega);rw[show(((i+1:Nat):Int))+1=(i:Int)+1+1 from by omega]at ih';have w1:=cR ((i:Int)+1+1);have hd:al.drop i=al[i]::al.drop (i+1):=aM hlt;have e99':=e99 al[i] (bM hlt);have hge:0<=(i:Int)+1:=by omega
  have hlt':(i:Int)<(al.length:Int):=by omega
  have hok:aS 4 (t_ al[i]).aw=true:=Tm.aS _;rw[hd];unfold qI at ih' ⊢;rw[List.findIdx?_cons];generalize hA:al[i]=a at *;unfold t_ at hx hx' hok;generalize hP:fQ a=p at *;obtain⟨an,ak⟩:=p;have hB:=Tm.ku (gm a).tm;have hB2:aS 4 (gm a).tm.aw=true:=Tm.aS _;have hB3:=Tm.pS (gm a).tm;simp only[Tm.aw,Tm.df,ai,au]at hx hx' hok;have hlt2:i+1<ay.length:=by omega
  have hxg:ay[i+1]'hlt2=[iv 6,iv ak,.s an,.sl [(gm a).tm.aw]]:=(gE hx).2;have hpl:((an,ak)=(sn,ls.length))↔(an=sn/\ak=ls.length):=by simp
  simp only[hpl];by_cases c1:an=sn
  ·subst c1;by_cases c2:ak=ls.length
   ·have c2':(ak:Int)=(ls.length:Int):=by omega
    rw[c2']at hok hx hx' hxg;have e9:=e99' c2;generalize hr:((gm a).sub ls.reverse 0).tm=r at *;obtain⟨rk,rn,rnm,rl⟩:=r;simp only[bP,Tm.eS]at e9;have e9':=e9;rw[dA hb];simp[qv,aj,hrl,hx,hx',hxg,hok,hll,hlt,hlt',hge,c2,c2',hB,hB2,hB3,e9',w1];rw[hr];simp[Tm.aw,Tm.ba]
   ·have c2':¬ (ak:Int)=(ls.length:Int):=by omega
    rw[dA hb];simp[qv,aj,hrl,hx,hx',hxg,hok,hll,hlt,hlt',hge,c2,c2',w1,gc,exp,aQ,UG,ih'];cases List.findIdx? (λt=>decide (fQ t=(an,ls.length))) (List.drop (i+1) al)<;>simp
  ·rw[dA hb];simp[qv,aj,hrl,hx,hx',hxg,hok,hll,hlt,hlt',hge,c1,w1,gc,exp,aQ,UG,ih'];cases List.findIdx? (λt=>decide (fQ t=(sn,ls.length))) (List.drop (i+1) al)<;>simp
theorem OF (h:bY pg){body:aU}(hb:body=qv){ay:List (List PV)}{k n k4 n4:Int}{s s4:List UInt8}{l4:List (List PV)}(hk:k4≠4)(hr:1<ay.length) :
  L pg 0 [1,2,4,5] body [(1,.ptr 0 0),(2,.ptr 1 0),(4,.ptr 2 0),(5,.p (.i .i64 1))]
   [.box [.p (iv k),.p (iv n),.p (.s s),.p (.sl ay)],.box [.p (iv 0),.p (iv 0),.p (.s []),.aC],.box [.p (iv k4),.p (iv n4),.p (.s s4),.p (.sl l4)]] =
  some (.exit 0,[(1,.ptr 0 0),(2,.ptr 1 0),(4,.ptr 2 0),(5,.p (.i .i64 1)),(19,.p (.b false))],[.box [.p (iv k),.p (iv n),.p (.s s),.p (.sl ay)],.box [.p (iv 0),.p (iv 0),.p (.s []),.aC],.box [.p (iv k4),.p (iv n4),.p (.s s4),.p (.sl l4)]]):=by
 have hr':(1:Int)<(ay.length:Int):=by omega
 rw[dA hb];simp[qv,aj,hr,hr',hk]
theorem ze:∀a:Ct,(gm a).size<=a.size:=by
 intro a;cases a with
 |alt s n b=>simp only[gm,Ct.size];omega
 |_=>exact aB _
theorem t77 (h:bY pg){x:Ct}{al:List Ct}(hc:(Ct.case x al).Cl)(hv:x.val=true):UM pg (E pg) 77 [.ag (bP (Ct.case x al).tm.aw)] G=some (.ret (.dF [(x.pick al).1.tm.nv,.p (.i .i64 (x.pick al).2)]),G):=by
 have hw:=hc.wf;simp only[Ct.wf,ab,Uq]at hw;have hsz:=hc.sz;simp only[Ct.size]at hsz;have hrow:(Ct.gp al).map Tm.aw=al.map (λa=>(t_ a).aw):=by rw[Df hw.2,UJ];rfl
 have Qh:=λG=>t79 (G:=G) h;simp only[Tm.aw,Tm.df,bP,ai,au]at Qh;have hlen:al.length<=8/\1<=al.length:=⟨hw.1.1.2.2,hw.1.1.2.1⟩
 have hA:((Ct.gp al).map Tm.aw).length=al.length:=by rw[Ct.cM];simp
 have ok1:=Tm.aS x.tm;have e4:=Tm.ku x.tm;have e4':=Tm.pS x.tm;have other:∀(k4 n4:Int) (s4:List UInt8) (l4:List Tm),x.tm=.mk k4 n4 s4 l4->k4≠4->UM pg (E pg) 77 [.ag (bP (Ct.case x al).tm.aw)] G=some (.ret (.dF [Ct.fail.tm.nv,.p (.i .i64 4)]),G):=by
  intro k4 n4 s4 l4 hx hk;simp only[Ct.tm,hx,Tm.aw,Tm.df,Tm.ba,bP,ai,au,Tm.eS];refine Ut ?_ rfl rfl;have hL:=OF h (body:=qv) rfl (ay:=[iv k4,iv n4,.s s4,.sl (l4.map Tm.aw)]::(Ct.gp al).map Tm.aw) (k:=5) (n:=0) (s:=[]) (k4:=k4) (n4:=n4) (s4:=s4) (l4:=l4.map Tm.aw) hk (by simp only[av,hA];omega);rw[h.run (x:=IW)];simp[IW,aj,aS,PV.flat,gc,exp,aQ,UG,hL,Qh]
 cases x with
 |UW sn ls =>
  have hls:ls.length<=8:=by
   have:=hw.1.1.1;simp only[Ct.wf,ab,Uq]at this;exact this.1.2
  have hwl:Ct.JW 0 ls=true:=by
   have:=hw.1.1.1;simp only[Ct.wf,ab,Uq]at this;exact this.2
  have hL:=Pd h (body:=qv) rfl (ay:=(Ct.UW sn ls).tm.aw::al.map (λa=>(t_ a).aw)) (al:=al) (sn:=sn) (ls:=ls) (a0:=(Ct.UW sn ls).tm.aw) rfl (by omega) (by omega) (k:=5) (n:=0) (s:=[]) (λa ha hn G=>by
   obtain⟨s',k',b,rfl,w1,w2⟩:=fV hw.2 a ha;simp only[fQ]at hn;subst hn;have hsa:=dm ha;simp only[Ct.size]at hsa;have hb:=Ct.jJ b.size b (0+ls.length) (aB _) w2;rw[aG]at hb;have hls':Ct.dt ls<=2 ^ 50:=by simp only[Ct.size]at hsz;omega
   have:=t99 (G:=G) h ((ls.map Ct.tm).reverse) (λu hu=>by
    rw[ik]at hu;obtain⟨c,h1,rfl⟩:=bj.1 hu;have hcl:c.Cl:=⟨Vi hwl c h1,by have:=dm h1;omega⟩
    exact⟨hcl.jJ,by have:=hcl.dep;omega⟩) (by simp;omega) (t:=b.tm) (by simpa using hb) (by
    have h1:=Tm.oM b.tm;rw[Ct.iQ]at h1;omega)
   have e1:((ls.map Ct.tm).reverse.map Tm.aw).reverse=(Ct.gp ls).map Tm.aw:=by rw[kZ,List.reverse_reverse,Ct.cM]
   rw[e1]at this;have e2:(Ct.sub ls.reverse 0 b).tm=b.tm.subst ((ls.map Ct.tm).reverse) 0:=by
    have:=Ct.WT ls.reverse b 0;rw[kZ]at this;exact this
   show UM pg (E pg) 99 [.ag (bP b.tm.aw),_] G=_
   rw[this];simp only[gm,e2]) al.length 0 (by omega)
  simp only[bp,show((0:Nat):Int)+1=1 from rfl]at hL;have hpick:(Ct.UW sn ls).pick al=(match qI al sn ls.length with
   |some k=>((gm (al.getD k .fail)).sub ls.reverse 0,2)
   |none=>(.fail,4)):=rfl
  rw[hpick];clear hpick other;have hr2:((Ct.gp ls).map Tm.aw)=(Ct.gp ls).map Tm.aw:=rfl;cases hk:qI al sn ls.length with
  |some j =>
   rw[hk]at hL;dsimp only at hL ⊢;generalize ((gm (al.getD j .fail)).sub ls.reverse 0).tm=r at *;obtain⟨rk,rn,rnm,rl⟩:=r;simp only[Ct.tm,Tm.aw,Tm.df,Tm.ba,bP,ai,au,Tm.eS,hrow]at hL ⊢;refine Ut ?_ rfl rfl;rw[h.run (x:=IW)];simp[IW,aj,aS,PV.flat,gc,exp,aQ,UG,hL]
  |none =>
   rw[hk]at hL;dsimp only at hL ⊢;simp only[Ct.tm,Tm.aw,Tm.df,Tm.ba,bP,ai,au,Tm.eS,hrow]at hL ⊢;refine Ut ?_ rfl rfl;rw[h.run (x:=IW)];simp[IW,aj,aS,PV.flat,gc,exp,aQ,UG,hL,Qh]
 |lam b=>exact other _ _ _ _ rfl (by omega)
 |int v=>exact other _ _ _ _ rfl (by omega)
 |fail=>exact other _ _ _ _ rfl (by omega)
 |_=>simp[Ct.val]at hv
theorem Ct.Cl.app {f a:Ct}(h:(Ct.app f a).Cl):f.Cl/\a.Cl:=by
 have hw:=h.wf;simp only[Ct.wf,ab]at hw;have hs:=h.sz;simp only[Ct.size]at hs;exact⟨⟨hw.1,by omega⟩,hw.2,by omega⟩
theorem Ct.Cl.op {s:List UInt8}{f a:Ct}(h:(Ct.op s f a).Cl):f.Cl/\a.Cl:=by
 have hw:=h.wf;simp only[Ct.wf,ab]at hw;have hs:=h.sz;simp only[Ct.size]at hs;exact⟨⟨hw.1.2,by omega⟩,hw.2,by omega⟩
theorem Ct.Cl.case {f:Ct}{l:List Ct}(h:(Ct.case f l).Cl):f.Cl/\l.length<=8:=by
 have hw:=h.wf;simp only[Ct.wf,ab,Uq]at hw;have hs:=h.sz;simp only[Ct.size]at hs;exact⟨⟨hw.1.1.1,by omega⟩,hw.1.1.2.2⟩
theorem Kq (h:bY pg){k n:Int}{s:List UInt8}{l:List Tm}{c:Ct}{r:List Tm}(hl:l=c.tm::r)(hk:k=3\/k=5\/k=8)(hv:c.val=false)(hlen:l.length<=60)
  (e:∀G,UM pg (E pg) 55 [.ag (bP c.tm.aw)] G=some (.ret (.dF [c.step.1.tm.nv,.p (.i .i64 c.step.2)]),G)) :
  UM pg (E pg) 55 [.ag (bP (Tm.mk k n s l).aw)] G=some (.ret (.dF [if c.step.2=0 then (Tm.mk k n s l).nv else (Tm.mk k n s (l.set 0 c.step.1.tm)).nv,.p (.i .i64 c.step.2)]),G):=by
 have e76:=λG=>t76 (G:=G) h (k:=k) (n:=n) (s:=s) (l:=l) (i:=0) (c:=c.tm) (x:=c.step.1.tm) (w:=c.step.2) (by rw[hl];rfl) hlen e;have e75:=λG=>Cp (G:=G) h c;rw[hv]at e75;have hbl:Out.bf 0 (.ret (.dF [if c.step.2=0 then (Tm.mk k n s l).nv else (Tm.mk k n s (l.set 0 c.step.1.tm)).nv,.p (.i .i64 c.step.2)]))=true:=by
  simp only[Out.bf,bf,cH];split<;>simp only[Tm.nv,bf,bE 0 (eZ _)]<;>rfl
 have hcell:∃a1 a2 a3 a4,(if c.step.2=0 then (Tm.mk k n s l).nv else (Tm.mk k n s (l.set 0 c.step.1.tm)).nv)=.ag [.p a1,.p a2,.p a3,.p a4]/\a1.flat=true/\a2.flat=true/\a3.flat=true/\a4.flat=true:=by
  split<;>simp only[Tm.eS]<;>exact⟨_,_,_,_,rfl,rfl,rfl,rfl,rfl⟩
 have ok1:=Tm.aS c.tm;have e4:=Tm.ku c.tm;have e4':=Tm.pS c.tm;obtain⟨ck,cn,cnm,cl,hc,-⟩:=c.iI;generalize (if c.step.2=0 then (Tm.mk k n s l).nv else (Tm.mk k n s (l.set 0 c.step.1.tm)).nv)=R at *;obtain⟨a1,a2,a3,a4,rfl,f1,f2,f3,f4⟩:=hcell;generalize c.step.2=w at *;subst hl;clear e hlen;rw[hc]at e75 ok1 e4 e4' ⊢;simp only[hc]at e76;simp only[Tm.aw,Tm.df,Tm.ba,bP,ai,au,fW]at e76 e75 ok1 e4 ⊢;unfold PV.flat at f1 f2 f3 f4;have okc:aS 4 [iv ck,iv cn,.s cnm,.sl (cl.map Tm.aw)]=true:=rfl;refine Ut ?_ rfl hbl;rw[h.run (x:=yD)];rcases hk with rfl|rfl|rfl<;>simp[yD,aj,okc,e75,e76,f1,f2,f3,f4]
theorem OG (h:bY pg){v:Int}{s:List UInt8}{c:Ct}(hv:c.val=false)
  (e:∀G,UM pg (E pg) 55 [.ag (bP c.tm.aw)] G=some (.ret (.dF [c.step.1.tm.nv,.p (.i .i64 c.step.2)]),G)) :
  UM pg (E pg) 55 [.ag (bP (Ct.op s (.int v) c).tm.aw)] G=some (.ret (.dF [if c.step.2=0 then (Ct.op s (.int v) c).tm.nv else (Ct.op s (.int v) c.step.1).tm.nv,.p (.i .i64 c.step.2)]),G):=by
 have e76:=λG=>t76 (G:=G) h (k:=8) (n:=0) (s:=s) (l:=[(Ct.int v).tm,c.tm]) (i:=1) (c:=c.tm) (x:=c.step.1.tm) (w:=c.step.2) rfl (by simp) e;have e75:=λG=>Cp (G:=G) h c;have e75i:=λG=>Cp (G:=G) h (.int v);rw[hv]at e75;have hbl:Out.bf 0 (.ret (.dF [if c.step.2=0 then (Tm.mk 8 0 s [(Ct.int v).tm,c.tm]).nv else (Tm.mk 8 0 s ([(Ct.int v).tm,c.tm].set 1 c.step.1.tm)).nv,.p (.i .i64 c.step.2)]))=true:=by
  simp only[Out.bf,bf,cH];split<;>simp only[Tm.nv,bf,bE 0 (eZ _)]<;>rfl
 have hcell:∃a1 a2 a3 a4,(if c.step.2=0 then (Tm.mk 8 0 s [(Ct.int v).tm,c.tm]).nv else (Tm.mk 8 0 s ([(Ct.int v).tm,c.tm].set 1 c.step.1.tm)).nv)=.ag [.p a1,.p a2,.p a3,.p a4]/\a1.flat=true/\a2.flat=true/\a3.flat=true/\a4.flat=true:=by
  split<;>simp only[Tm.eS]<;>exact⟨_,_,_,_,rfl,rfl,rfl,rfl,rfl⟩
 have ok1:=Tm.aS c.tm;have e4:=Tm.ku c.tm;have e4':=Tm.pS c.tm;obtain⟨ck,cn,cnm,cl,hc,-⟩:=c.iI
 show UM pg (E pg) 55 [.ag (bP (Ct.op s (.int v) c).tm.aw)] G=some (.ret (.dF [if c.step.2=0 then (Tm.mk 8 0 s [(Ct.int v).tm,c.tm]).nv else (Tm.mk 8 0 s ([(Ct.int v).tm,c.tm].set 1 c.step.1.tm)).nv,.p (.i .i64 c.step.2)]),G)
 generalize (if c.step.2=0 then (Tm.mk 8 0 s [(Ct.int v).tm,c.tm]).nv else (Tm.mk 8 0 s ([(Ct.int v).tm,c.tm].set 1 c.step.1.tm)).nv)=R at *;obtain⟨a1,a2,a3,a4,rfl,f1,f2,f3,f4⟩:=hcell;generalize c.step.2=w at *;clear e;simp only[Ct.tm,hc]at e76 e75 e75i ok1 e4 e4' ⊢;simp only[Tm.aw,Tm.df,Tm.ba,bP,ai,au,WW,Ct.val]at e76 e75 e75i ok1 e4 ⊢;unfold PV.flat at f1 f2 f3 f4;have okc:aS 4 [iv ck,iv cn,.s cnm,.sl (cl.map Tm.aw)]=true:=rfl;have oki:aS 4 [iv 7,iv v,.s [],.sl []]=true:=rfl;refine Ut ?_ rfl hbl;rw[h.run (x:=yD)];simp[yD,aj,okc,oki,e75,e75i,e76,f1,f2,f3,f4]
theorem t55 (h:bY pg):∀(N:Nat) (c:Ct),c.size<=N->c.Cl->∀(G:Heap),UM pg (E pg) 55 [.ag (bP c.tm.aw)] G=some (.ret (.dF [c.step.1.tm.nv,.p (.i .i64 c.step.2)]),G)
 |0,c,hs,hc,G=>by have:=size_pos c;omega
 |N+1,c,hs,hc,G=>by
  have Qh:=λG=>t79 (G:=G) h;simp only[Tm.aw,Tm.df,bP,ai,au]at Qh;have vals:∀(k n:Int) (s:List UInt8) (l:List Tm),k≠3->k≠5->k≠8->UM pg (E pg) 55 [.ag (bP (Tm.mk k n s l).aw)] G=some (.ret (.dF [(Tm.mk k n s l).nv,.p (.i .i64 0)]),G):=by
   intro k n s l h3 h5 h8;simp only[Tm.aw,Tm.ba,bP,ai,au,Tm.eS];refine Ut ?_ rfl rfl;rw[h.run (x:=yD)];simp[yD,aj,h3,h5,h8]
  cases c with
  |var i=>have:=hc.wf;simp[Ct.wf]at this
  |alt s n b=>have:=hc.wf;simp[Ct.wf]at this
  |lam b=>exact vals _ _ _ _ (by omega) (by omega) (by omega)
  |UW s l=>exact vals _ _ _ _ (by omega) (by omega) (by omega)
  |int v=>exact vals _ _ _ _ (by omega) (by omega) (by omega)
  |fail=>exact vals _ _ _ _ (by omega) (by omega) (by omega)
  |app f a =>
   obtain⟨hf,ha⟩:=hc.app;simp only[Ct.size]at hs;cases hv:f.val with
   |false =>
    have e:=Kq (G:=G) h (k:=3) (n:=0) (s:=[]) (l:=[f.tm,a.tm]) (c:=f) (r:=[a.tm]) rfl (.inl rfl) hv (by simp) (λG=>t55 h N f (by omega) hf G);simp only[Ct.step,hv,aZ,if_false];by_cases hw:f.step.2=0
    ·rw[ah hw]at e ⊢;rw[hw]at e;exact e
    ·rw[aa hw]at e ⊢;exact e
   |true =>
    have e75:=λG=>Cp (G:=G) h f;rw[hv]at e75;have oa:=Tm.aS a.tm;have e4:=Tm.ku a.tm;have e4':=Tm.pS a.tm;simp only[Ct.step,hv,if_true];have other:∀(k n:Int) (s:List UInt8) (l:List Tm),f.tm=.mk k n s l->k≠2->UM pg (E pg) 55 [.ag (bP (Ct.app f a).tm.aw)] G=some (.ret (.dF [Ct.fail.tm.nv,.p (.i .i64 4)]),G):=by
     intro k n s l hx hk;simp only[Ct.tm,hx,Tm.aw,Tm.df,Tm.ba,bP,ai,au,Tm.eS]at e75 ⊢;refine Ut ?_ rfl rfl;rw[h.run (x:=yD)];simp[yD,aj,aS,PV.flat,e75,hk,Qh]
    cases f with
    |lam b =>
     have hb:b.wf 1=true:=by have:=hf.wf;simpa [Ct.wf] using this
     have hbs:=hf.sz;simp only[Ct.size]at hbs;have hbc:=Ct.jJ b.size b 1 (aB _) hb;have e78:=λG=>t78 (G:=G) h (u:=a.tm) (t:=b.tm) ha.jJ (by have:=ha.dep;omega) hbc (by
      have h1:=Tm.oM b.tm;rw[Ct.iQ]at h1;omega)
     have e2:(Ct.sub [a] 0 b).tm=b.tm.subst [a.tm] 0:=Ct.WT [a] b 0;rw[<- e2]at e78;dsimp only;have ob:=Tm.aS b.tm;have b4:=Tm.ku b.tm;simp only[Ct.tm]at e75 ⊢;generalize (Ct.sub [a] 0 b).tm=r at *;generalize a.tm=nU at *;generalize b.tm=bt at *;obtain⟨rk,rn,rnm,rl⟩:=r;obtain⟨ak,an,anm,al⟩:=nU;obtain⟨bk,bn,bnm,bl⟩:=bt;simp only[Ct.tm,Tm.aw,Tm.df,Tm.ba,bP,ai,au,Tm.eS]at e75 e78 ⊢;refine Ut ?_ rfl rfl;rw[h.run (x:=yD)];simp[yD,aj,aS,PV.flat,e75,e78]
    |UW s l=>exact other _ _ _ _ rfl (by omega)
    |int v=>exact other _ _ _ _ rfl (by omega)
    |fail=>exact other _ _ _ _ rfl (by omega)
    |_=>simp[Ct.val]at hv
  |case x l =>
   obtain⟨hf,hl⟩:=hc.case;simp only[Ct.size]at hs;cases hv:x.val with
   |false =>
    have e:=Kq (G:=G) h (k:=5) (n:=0) (s:=[]) (l:=x.tm::Ct.gp l) (c:=x) (r:=Ct.gp l) rfl (.inr (.inl rfl)) hv (by rw[Ct.cM];simp;omega) (λG=>t55 h N x (by omega) hf G);simp only[Ct.step,hv,aZ,if_false];by_cases hw:x.step.2=0
    ·rw[ah hw]at e ⊢;rw[hw]at e;exact e
    ·rw[aa hw]at e ⊢;exact e
   |true =>
    have e75:=λG=>Cp (G:=G) h x;rw[hv]at e75;have e77:=λG=>t77 (G:=G) h hc hv;simp only[Ct.step,hv,if_true];obtain⟨xk,xn,xnm,xl,hx,-⟩:=x.iI;generalize (x.pick l).2=w at *;generalize (x.pick l).1.tm=r at *;obtain⟨rk,rn,rnm,rl⟩:=r;simp only[Ct.tm,hx,Tm.aw,Tm.df,Tm.ba,bP,ai,au,Tm.eS]at e75 e77 ⊢;refine Ut ?_ rfl rfl;rw[h.run (x:=yD)];simp[yD,aj,aS,PV.flat,e75,e77]
  |op s a b =>
   obtain⟨hf,hb⟩:=hc.op;simp only[Ct.size]at hs;cases hv:a.val with
   |false =>
    have e:=Kq (G:=G) h (k:=8) (n:=0) (s:=s) (l:=[a.tm,b.tm]) (c:=a) (r:=[b.tm]) rfl (.inr (.inr rfl)) hv (by simp) (λG=>t55 h N a (by omega) hf G);simp only[Ct.step,hv,aZ,if_false];by_cases hw:a.step.2=0
    ·rw[ah hw]at e ⊢;rw[hw]at e;exact e
    ·rw[aa hw]at e ⊢;exact e
   |true =>
    have e75:=λG=>Cp (G:=G) h a;rw[hv]at e75;simp only[Ct.step,hv,if_true];have ob:=Tm.aS b.tm;have b4:=Tm.ku b.tm;have b4':=Tm.pS b.tm;have other:∀(k n:Int) (s':List UInt8) (l:List Tm),a.tm=.mk k n s' l->k≠7->UM pg (E pg) 55 [.ag (bP (Ct.op s a b).tm.aw)] G=some (.ret (.dF [Ct.fail.tm.nv,.p (.i .i64 4)]),G):=by
     intro k n s' l hx hk;obtain⟨bk,bn,bnm,bl,hbx,-⟩:=b.iI;simp only[Ct.tm,hx,hbx,Tm.aw,Tm.df,Tm.ba,bP,ai,au,Tm.eS]at e75 ⊢;refine Ut ?_ rfl rfl;rw[h.run (x:=yD)];simp[yD,aj,aS,PV.flat,e75,hk,Qh]
    cases a with
    |int v =>
     dsimp only;cases hvb:b.val with
     |false =>
      have e:=OG (G:=G) h (v:=v) (s:=s) hvb (λG=>t55 h N b (by omega) hb G);simp only[aZ,if_false];by_cases hw:b.step.2=0
      ·rw[ah hw]at e ⊢;rw[hw]at e;exact e
      ·rw[aa hw]at e ⊢;exact e
     |true =>
      have e75b:=λG=>Cp (G:=G) h b;rw[hvb]at e75b;simp only[if_true];have otherb:∀(k n:Int) (s':List UInt8) (l:List Tm),b.tm=.mk k n s' l->k≠7->UM pg (E pg) 55 [.ag (bP (Ct.op s (.int v) b).tm.aw)] G=some (.ret (.dF [Ct.fail.tm.nv,.p (.i .i64 4)]),G):=by
       intro k n s' l hx hk;simp only[Ct.tm,hx,Tm.aw,Tm.df,Tm.ba,bP,ai,au,Tm.eS]at e75 e75b ⊢;refine Ut ?_ rfl rfl;rw[h.run (x:=yD)];simp[yD,aj,aS,PV.flat,e75,e75b,hk,Qh]
      cases b with
      |int m =>
       dsimp only;have e80:=λG=>t80 (G:=G) h s v m;obtain⟨o1,o2⟩:=HT s v m;rw[o1,o2]at e80;generalize (ue s v m).1.tm=r at *;generalize (ue s v m).2=w at *;obtain⟨rk,rn,rnm,rl⟩:=r;simp only[Ct.tm,Tm.aw,Tm.df,Tm.ba,bP,ai,au,Tm.eS]at e75 e75b e80 ⊢;refine Ut ?_ rfl rfl;rw[h.run (x:=yD)];simp[yD,aj,aS,PV.flat,e75,e75b,e80]
      |lam x=>exact otherb _ _ _ _ rfl (by omega)
      |UW s' l=>exact otherb _ _ _ _ rfl (by omega)
      |fail=>exact otherb _ _ _ _ rfl (by omega)
      |_=>simp[Ct.val]at hvb
    |lam x=>exact other _ _ _ _ rfl (by omega)
    |UW s' l=>exact other _ _ _ _ rfl (by omega)
    |fail=>exact other _ _ _ _ rfl (by omega)
    |_=>simp[Ct.val]at hv
theorem HU (c:UInt8):mr c.toNat=2↔tV c=true:=by
 unfold mr tV;simp only[ab,Uq,gv];have h65:(65:UInt8).toNat=65:=rfl;have h90:(90:UInt8).toNat=90:=rfl;rw[h65,h90];split
 ·omega
 ·split
  ·omega
  ·split
   ·omega
   ·split<;>omega
theorem zf (c:UInt8):(1<=mr c.toNat/\mr c.toNat<=3)↔pQ c=true:=by
 unfold mr pQ tV;simp only[UP,ab,Uq,gv];have h65:(65:UInt8).toNat=65:=rfl;have h90:(90:UInt8).toNat=90:=rfl;have h97:(97:UInt8).toNat=97:=rfl;have h122:(122:UInt8).toNat=122:=rfl;have h48:(48:UInt8).toNat=48:=rfl;have h57:(57:UInt8).toNat=57:=rfl;rw[h65,h90,h97,h122,h48,h57];split
 ·omega
 ·split
  ·omega
  ·split
   ·omega
   ·split<;>omega
theorem Be:∀(s:List UInt8) (n:Nat) (b:Bool),(l_ s n b).1<=n+s.length/\((l_ s n b).1=n+s.length↔s.all pQ=true)/\n<=(l_ s n b).1
 |[],n,b=>by simp[l_]
 |c::r,n,b=>by
  unfold l_;by_cases h:1<=mr c.toNat/\mr c.toNat<=3
  ·rw[ah h];obtain⟨h1,h2,h3⟩:=Be r (n+1) (b || decide (mr c.toNat<3));have hc:=(zf c).1 h;simp only[av,dJ,hc,UX];refine⟨by omega,?_,by omega⟩;rw[<- h2];omega
  ·rw[aa h];have hc:pQ c=false:=by
    cases e:pQ c with
    |false=>rfl
    |true=>exact absurd ((zf c).2 e) h
   simp only[av,dJ,hc,VH];refine⟨by omega,?_,by omega⟩;constructor
   ·intro e;omega
   ·intro e;cases e
theorem mg (s:List UInt8):Yy s=qF s:=by
 cases s with
 |nil=>rfl
 |cons c r =>
  obtain⟨h1,h2,h3⟩:=Be (c::r) 0 false;simp only[aG,av]at h1 h2;have hone:za (c::r)=Gc c (c::r) (l_ (c::r) 0 false).1 (l_ (c::r) 0 false).2.1 (Iz (c::r)):=rfl;unfold Yy;rw[hone];generalize (l_ (c::r) 0 false).1=n at *;generalize (l_ (c::r) 0 false).2.1=b at *;generalize Iz (c::r)=k at *;have hT:((c::r).take n=c::r)↔n=r.length+1:=by
   constructor
   ·intro e;have:=congrArg List.length e;simp at this;omega
   ·intro e;rw[e];exact aF (by simp)
  have jH:=HU c;have haln:=zf c;unfold qF;by_cases hC:tV c=true
  ·have c2:=jH.2 hC;have hal:pQ c=true:=haln.1 (by omega);simp only[dJ,hal,UX]at h2;have hrw:wo ((c::r).take n)=false:=by
    by_cases hn:n=0
    ·subst hn;rfl
    ·have:(c::r).take n=c::r.take (n-1):=by
      cases n with
      |zero=>exact absurd rfl hn
      |succ n=>rfl
     rw[this];unfold wo;have hcc:c.toNat<=90:=by
      unfold tV at hC;simp only[ab,Uq,gv]at hC;exact hC.2
     have hne:∀d:UInt8,90<d.toNat->c≠d:=λd hd e=>by rw[e]at hcc;omega
     simp[hne 108 (by decide),hne 105 (by decide),hne 99 (by decide),hne 111 (by decide)]
   unfold Gc;rw[c2];by_cases hn0:n=0
   ·rw[ah hn0];have hall:r.all pQ=false:=by
     cases e:r.all pQ with
     |false=>rfl
     |true=>have:=h2.2 e;omega
    simp only[hC,hall,UX,Bool.and_false,VH];by_cases hk:k=0
    ·rw[ah hk];simp
    ·rw[aa hk];simp
   ·rw[aa hn0,aa (by omega)];by_cases h16:16<n
    ·rw[ah h16];have hl:decide (r.length<=15)=false:=by simp;omega
     simp[hl]
    ·rw[aa h16];have e1:((c::r).take n == [])=false:=by cases n with
      |zero=>exact absurd rfl hn0
      |succ n=>rfl
     simp only[hrw,aZ,if_false,hC,UX];by_cases hfull:n=r.length+1
     ·have:=h2.1 hfull;rw[hT.2 hfull,this];simp;omega
     ·have hall:r.all pQ=false:=by
       cases e:r.all pQ with
       |false=>rfl
       |true=>exact absurd (h2.2 e) hfull
      have:¬ (c::r).take n=c::r:=λe=>hfull (hT.1 e);simp[this,hall]
  ·have c2:¬ mr c.toNat=2:=λe=>hC (jH.1 e);have hcf:tV c=false:=by simpa using hC
   simp only[hcf,VH];unfold Gc;by_cases hn0:n=0
   ·rw[ah hn0];by_cases hk:k=0
    ·rw[ah hk];simp
    ·rw[aa hk];simp
   ·rw[aa hn0];by_cases h3':mr c.toNat=3
    ·rw[ah h3'];by_cases hb:b=true
     ·rw[ah hb];simp
     ·rw[aa hb];split<;>simp
    ·rw[aa h3'];by_cases h16:16<n
     ·rw[ah h16];simp
     ·rw[aa h16];dsimp only;by_cases hw:wo ((c::r).take n)=true
      ·rw[ah hw];simp
      ·rw[aa hw];have:¬ ((mr c.toNat:Nat):Int)=2:=by omega
       simp[this]
theorem wI (s:List UInt8):yb s=A3 s:=by
 unfold yb A3;by_cases a1:s=[43]<;>by_cases a2:s=[45]<;>by_cases a3:s=[42]<;>by_cases a4:s=[47]<;>by_cases a5:s=[60]<;>by_cases a6:s=[61,61]<;>simp[a1,a2,a3,a4,a5,a6]
theorem oN (all:List (List UInt8×Nat)):∀(l:List (List UInt8×Nat)) (i:Nat),eM all i l=true↔∀(j:Nat) (a:List UInt8×Nat),l[j]?=some a->a.1≠[]/\a.2<=8/\∀b,b∈all.take (i+j)->b.1≠a.1
 |[],i=>by simp[eM]
 |x::r,i=>by
  simp only[eM,ab,a_,Uq,decide_eq_false_iff_not,oN all r (i+1)];constructor
  ·rintro⟨⟨⟨h1,h2⟩,h3⟩,h4⟩ j a hj;cases j with
   |zero =>
    simp only[List.getElem?_cons_zero,bG]at hj;subst hj;refine⟨h1,h2,λb hb e=>?_⟩;have:=kg.1 h3 b hb;simp[e]at this
   |succ j =>
    simp only[List.getElem?_cons_succ]at hj;have:=h4 j a hj;rw[show i+1+j=i+(j+1) from by omega]at this;exact this
  ·intro h;obtain⟨h1,h2,h3⟩:=h 0 x rfl;refine⟨⟨⟨h1,h2⟩,kg.2 (λb hb=>?_)⟩,λj a hj=>?_⟩
   ·simpa using h3 b hb
   ·have:=h (j+1) a (by simpa using hj);rw[show i+(j+1)=i+1+j from by omega]at this;exact this
theorem pT (c5:Bool)(f:Int):∀(l pre:List Tm),Tm.mf c5 pre l f=true↔∀(j:Nat) (a:Tm),l[j]?=some a->a.may f (c5 && decide (0<pre.length+j))=true/\(c5=true->∀b,b∈(pre++l.take j).drop 1->b.name≠a.name)
 |[],pre=>by simp[Tm.mf]
 |x::r,pre=>by
  simp only[Tm.mf,ab,pB,pT c5 f r (pre++[x])];constructor
  ·rintro⟨⟨h1,h2⟩,h3⟩ j a hj;cases j with
   |zero =>
    simp only[List.getElem?_cons_zero,bG]at hj;subst hj;refine⟨by simpa using h1,λhc b hb=>?_⟩;rw[hc]at h2;simp only[V2,jU,bc,Uq]at h2;exact h2 b (by simpa using hb)
   |succ j =>
    simp only[List.getElem?_cons_succ]at hj;obtain⟨k1,k2⟩:=h3 j a hj;refine⟨?_,λhc b hb=>k2 hc b ?_⟩
    ·rw[show pre.length+(j+1)=(pre++[x]).length+j from by simp;omega];exact k1
    ·simpa using hb
  ·intro h;obtain⟨h1,h2⟩:=h 0 x rfl;refine⟨⟨by simpa using h1,?_⟩,λj a hj=>?_⟩
   ·cases hc:c5 with
    |false=>rfl
    |true =>
     simp only[V2,jU,bc,Uq];intro b hb;exact h2 hc b (by simpa using hb)
   ·obtain⟨k1,k2⟩:=h (j+1) a (by simpa using hj);refine⟨?_,λhc b hb=>k2 hc b ?_⟩
    ·rw[show pre.length+(j+1)=(pre++[x]).length+j from by simp;omega]at k1;exact k1
    ·simpa using hb
theorem np:∀(N:Nat) (t:Ct) (f:Nat),t.size<=N->t.wf f=true->t.tm.may f false=true
 |0,t,f,hs,hw=>by have:=size_pos t;omega
 |N+1,t,f,hs,hw=>by
  have hf:decide ((f:Int)<0)=false:=by simp
  have one:∀(c5:Bool) (fr:Int) (a:Tm),c5=false->a.may fr false=true->Tm.mf c5 [] [a] fr=true:=by
   intro c5 fr a h1 h2;subst h1;simp[Tm.mf,h2]
  have two:∀(fr:Int) (a b:Tm),a.may fr false=true->b.may fr false=true->Tm.mf false [] [a,b] fr=true:=by
   intro fr a b h1 h2;simp[Tm.mf,h1,h2]
  cases t with
  |var i =>
   simp only[Ct.wf,Uq]at hw;simp[Ct.tm,Tm.may,sG,Tm.mf];omega
  |int v=>simp[Ct.tm,Tm.may,sG,Tm.mf]
  |fail=>simp[Ct.tm,Tm.may,sG,Tm.mf]
  |alt s n b=>simp[Ct.wf]at hw
  |lam b =>
   simp only[Ct.wf]at hw;simp only[Ct.size]at hs;have:=np N b (f+1) (by omega) hw;rw[show((f+1:Nat):Int)=(f:Int)+1 from by omega]at this;simp[Ct.tm,Tm.may,sG,hf,one false _ _ rfl this]
  |app a b =>
   simp only[Ct.wf,ab]at hw;simp only[Ct.size]at hs;have h1:=np N a f (by omega) hw.1;have h2:=np N b f (by omega) hw.2;simp[Ct.tm,Tm.may,sG,hf,two _ _ _ h1 h2]
  |op s a b =>
   simp only[Ct.wf,ab]at hw;simp only[Ct.size]at hs;have h1:=np N a f (by omega) hw.1.2;have h2:=np N b f (by omega) hw.2;simp[Ct.tm,Tm.may,sG,hf,two _ _ _ h1 h2,wI,hw.1.1]
  |UW s l =>
   simp only[Ct.wf,ab,Uq]at hw;simp only[Ct.size]at hs;have hl:(Ct.gp l).length=l.length:=by rw[Ct.cM];simp
   have hm:Tm.mf false [] (Ct.gp l) f=true:=by
    rw[pT];intro j a hj;rw[Ct.cM,List.getElem?_map]at hj;obtain⟨c,h1,rfl⟩:=aP.1 hj;have hmem:=aE h1;refine⟨?_,λe=>by cases e⟩;simpa using np N c f (by have:=dm hmem;omega) (Vi hw.2 c hmem)
   simp[Ct.tm,Tm.may,sG,hf,hm,mg,hw.1.1,hl,hw.1.2]
  |case x l =>
   simp only[Ct.wf,ab,Uq]at hw;simp only[Ct.size]at hs;have hl:(Ct.gp l).length=l.length:=by rw[Ct.cM];simp
   have h1:=np N x f (by omega) hw.1.1.1;have hal:=(oN _ _ _).1 hw.1.2;have hm:Tm.mf true [] (x.tm::Ct.gp l) f=true:=by
    rw[pT];intro j a hj;cases j with
    |zero =>
     simp only[List.getElem?_cons_zero,bG]at hj;subst hj;exact⟨by simpa using h1,λ_ b hb=>by simp at hb⟩
    |succ j =>
     simp only[List.getElem?_cons_succ]at hj;rw[Ct.cM,List.getElem?_map]at hj;obtain⟨c,h2,rfl⟩:=aP.1 hj;have hmem:=aE h2;obtain⟨s,k,b,rfl,w1,w2⟩:=fV hw.2 c hmem;have hsz:=dm hmem;simp only[Ct.size]at hsz;have hb:=np N b (f+k) (by omega) w2;obtain⟨q1,q2,q3⟩:=hal j (s,k) (by rw[List.getElem?_map,h2];rfl);rw[show((f+k:Nat):Int)=(f:Int)+k from by omega]at hb;refine⟨?_,λ_ b' hb'=>?_⟩
     ·simp[Ct.tm,Tm.may,sG,hf,mg,w1,one false _ _ rfl hb];omega
     ·simp only[aL,jm,fG,bp]at hb';rw[Ct.cM,<- da]at hb';obtain⟨c',h3,rfl⟩:=bj.1 hb';obtain⟨s',k',b'',rfl,w1',w2'⟩:=fV hw.2 c' (U6 h3);have:=q3 (s',k') (by
       rw[aG,<- da];exact bj.2 ⟨_,h3,rfl⟩)
      exact this
   simp[Ct.tm,Tm.may,sG,hf,hm,hl];omega
theorem rC {P:Ct->Prop}:∀{l:List Tm},(∀t∈l,∃c:Ct,c.tm=t/\P c)->∃cl:List Ct,Ct.gp cl=l/\∀c∈cl,P c
 |[],_=>⟨[],rfl,by simp⟩
 |a::r,h=>by
  obtain⟨c,h1,h2⟩:=h a (by simp);obtain⟨cl,h3,h4⟩:=rC (P:=P) (l:=r) (λt ht=>h t (by simp[ht]));refine⟨c::cl,by simp[Ct.gp,h1,h3],λc' hc=>?_⟩;rcases aA.1 hc with rfl|hc
  ·exact h2
  ·exact h4 c' hc
theorem wJ {f:Nat}:∀{l:List Ct},(∀t∈l,t.wf f=true)->Ct.JW f l=true
 |[],_=>rfl
 |a::r,h=>by simp[Ct.JW,h a (by simp),wJ (l:=r) (λt ht=>h t (by simp[ht]))]
def Gw (f:Nat)(c:Ct):Prop:=∃s n b,c=.alt s n b/\qF s=true/\n<=8/\Ct.wf (f+n) b=true
theorem zg {f:Nat}:∀{l:List Ct},(∀t∈l,Gw f t)->Ct.El f l=true
 |[],_=>rfl
 |a::r,h=>by
  obtain⟨s,n,b,rfl,h1,h2,h3⟩:=h a (by simp);simp[Ct.El,h1,h3,zg (l:=r) (λt ht=>h t (by simp[ht]))]
theorem Kr:∀(t:Tm) (f:Nat),(t.may f false=true->∃c:Ct,c.tm=t/\c.wf f=true)/\(t.may f true=true->∃c:Ct,c.tm=t/\Gw f c):=by
 refine Tm.ind λk n s l ih f=>?_;have hsplit:∀alt,(Tm.mk k n s l).may f alt=true->sG k n s l.length f alt=true/\Tm.mf (decide (k=5)) [] l (if k=2 then (f:Int)+1 else if k=6 then (f:Int)+n else f)=true:=by
  intro alt h;simp only[Tm.may,ab]at h;exact⟨h.1.2,h.2⟩
 have plain:∀(fr:Nat) (alt:Bool),Tm.mf false [] l fr=true->∀t∈l,∃c:Ct,c.tm=t/\c.wf fr=true:=by
  intro fr alt h t ht;obtain⟨j,hj⟩:=List.getElem?_of_mem ht;have:=((pT _ _ _ _).1 h j t hj).1;simp only[VH]at this;exact(ih t ht fr).1 this
 constructor
 ·intro h;obtain⟨h1,h2⟩:=hsplit false h;unfold sG at h1;rw[aa (by simp)]at h1;by_cases k1:k=1
  ·subst k1;simp only[if_true,ab,Uq]at h1;obtain⟨⟨⟨rfl,h3⟩,h4⟩,h5⟩:=h1;have:l=[]:=aW (by omega);subst this;refine⟨.var n.toNat,by simp only[Ct.tm];rw[Vv h4],by simp only[Ct.wf,Uq];omega⟩
  rw[aa k1]at h1;by_cases k2:k=2
  ·subst k2;simp only[if_true,ab,Uq]at h1;obtain⟨⟨rfl,rfl⟩,h4⟩:=h1;obtain⟨cl,e1,e2⟩:=rC (plain (f+1) false (by
    rw[ah rfl]at h2;rw[show((f+1:Nat):Int)=(f:Int)+1 from by omega];exact h2))
   subst e1;cases cl with
   |nil=>simp[Ct.gp]at h4
   |cons b r =>
    have:r=[]:=by
     rw[Ct.cM]at h4;exact aW (by simpa using h4)
    subst this;exact⟨.lam b,rfl,e2 b (by simp)⟩
  rw[aa k2]at h1;rw[aa k2]at h2;by_cases k3:k=3
  ·subst k3;simp only[if_true,ab,Uq]at h1;obtain⟨⟨rfl,rfl⟩,h4⟩:=h1;obtain⟨cl,e1,e2⟩:=rC (plain f false (by rw[aa (by omega)]at h2;exact h2));subst e1
   match cl,h4 with
   |[a,b],_=>exact⟨.app a b,rfl,by simp[Ct.wf,e2 a,e2 b]⟩
   |[],h4=>simp[Ct.gp]at h4
   |[_],h4=>simp[Ct.gp]at h4
   |_::_::_::_,h4=>rw[Ct.cM]at h4;simp at h4
  rw[aa k3]at h1;by_cases k4:k=4
  ·subst k4;simp only[if_true,ab,Uq]at h1;obtain⟨⟨h3,rfl⟩,h4⟩:=h1;obtain⟨cl,e1,e2⟩:=rC (plain f false (by rw[aa (by omega)]at h2;exact h2));subst e1;rw[Ct.cM,cU]at h4;exact⟨.UW s cl,rfl,by simp[Ct.wf,<- mg,h3,h4,wJ e2]⟩
  rw[aa k4]at h1;by_cases k5:k=5
  ·subst k5;simp only[if_true,ab,Uq]at h1;obtain⟨⟨⟨rfl,rfl⟩,h4⟩,h5⟩:=h1;rw[aa (by omega)]at h2;have h6:=(pT _ _ _ _).1 h2;cases l with
   |nil=>simp at h4
   |cons x r =>
    obtain⟨cx,x1,x2⟩:=(ih x (by simp) f).1 (by
     have:=(h6 0 x rfl).1;simpa using this)
    obtain⟨cl,e1,e2⟩:=rC (P:=Gw f) (l:=r) (λt ht=>by
     obtain⟨j,hj⟩:=List.getElem?_of_mem ht;have:=(h6 (j+1) t (by simpa using hj)).1;exact(ih t (by simp[ht]) f).2 (by simpa using this))
    subst x1 e1;simp only[av]at h4 h5;have hl:(Ct.gp cl).length=cl.length:=by rw[Ct.cM];simp
    refine⟨.case cx cl,rfl,?_⟩;simp only[Ct.wf,ab,Uq];refine⟨⟨⟨x2,by omega,by omega⟩,(oN _ _ _).2 (λj a hj=>?_)⟩,zg e2⟩;rw[List.getElem?_map]at hj;obtain⟨c,h7,rfl⟩:=aP.1 hj;obtain⟨s,n,b,rfl,w1,w2,w3⟩:=e2 c (aE h7);refine⟨XM w1,w2,λb' hb'=>?_⟩;rw[aG,<- da]at hb';obtain⟨c',h8,rfl⟩:=bj.1 hb';obtain⟨s',n',b'',rfl,w1',w2',w3'⟩:=e2 c' (U6 h8);have:=(h6 (j+1) (Ct.alt s n b).tm (by
     simp only[List.getElem?_cons_succ];rw[Ct.cM,List.getElem?_map,h7];rfl)).2 (by decide) (Ct.alt s' n' b'').tm (by
     simp only[aL,jm,fG,bp];rw[Ct.cM,<- da];exact bj.2 ⟨_,h8,rfl⟩)
    exact this
  rw[aa k5]at h1;by_cases k7:k=7
  ·subst k7;simp only[if_true,ab,Uq]at h1;obtain⟨rfl,h3⟩:=h1;have:l=[]:=aW (by omega);subst this;exact⟨.int n,rfl,rfl⟩
  rw[aa k7]at h1;by_cases k8:k=8
  ·subst k8;simp only[if_true,ab,Uq]at h1;obtain⟨⟨h3,rfl⟩,h4⟩:=h1;obtain⟨cl,e1,e2⟩:=rC (plain f false (by rw[aa (by omega)]at h2;exact h2));subst e1
   match cl,h4 with
   |[a,b],_=>exact⟨.op s a b,rfl,by simp[Ct.wf,e2 a,e2 b,<- wI,h3]⟩
   |[],h4=>simp[Ct.gp]at h4
   |[_],h4=>simp[Ct.gp]at h4
   |_::_::_::_,h4=>rw[Ct.cM]at h4;simp at h4
  rw[aa k8]at h1;by_cases k9:k=9
  ·subst k9;simp only[if_true,ab,Uq]at h1;obtain⟨⟨rfl,rfl⟩,h3⟩:=h1;have:l=[]:=aW (by omega);subst this;exact⟨.fail,rfl,rfl⟩
  ·rw[aa k9]at h1;cases h1
 ·intro h;obtain⟨h1,h2⟩:=hsplit true h;unfold sG at h1;rw[ah rfl]at h1;simp only[ab,Uq]at h1;obtain⟨⟨⟨⟨rfl,h3⟩,h4⟩,h5⟩,h6⟩:=h1;rw[aa (by omega),ah rfl]at h2;obtain⟨cl,e1,e2⟩:=rC (plain (f+n.toNat) false (by
   rw[show((f+n.toNat:Nat):Int)=(f:Int)+n from by omega];exact h2))
  subst e1;cases cl with
  |nil=>simp[Ct.gp]at h6
  |cons b r =>
   have:r=[]:=by
    rw[Ct.cM]at h6;exact aW (by simpa using h6)
   subst this;refine⟨.alt s n.toNat b,?_,s,n.toNat,b,rfl,by rw[<- mg];exact h3,by omega,e2 b (by simp)⟩;simp only[Ct.tm,Ct.gp];rw[Vv h4]
end
mutual
def Ct.qJ:Ct->Nat
 |.var _=>1
 |.int _=>0
 |.fail=>0
 |.lam b=>b.qJ
 |.app f a=>f.qJ+a.qJ
 |.UW _ l=>Ct.Yi l
 |.case h l=>h.qJ+Ct.Yi l
 |.alt _ _ b=>b.qJ
 |.op _ a b=>a.qJ+b.qJ
def Ct.Yi:List Ct->Nat
 |[]=>0
 |a::r=>a.qJ+Ct.Yi r
end
mutual
def Ct.cost:Ct->Nat
 |.var _=>2
 |.int _=>1
 |.fail=>1
 |.lam b=>b.cost+2
 |.app f a=>f.cost+(a.cost+a.qJ)+1
 |.UW _ l=>Ct.Dg l+1
 |.case h l=>h.cost+Ct.Bf l+1
 |.alt _ _ b=>b.cost
 |.op _ a b=>a.cost+b.cost+1
def Ct.Dg:List Ct->Nat
 |[]=>0
 |a::r=>a.cost+a.qJ+Ct.Dg r
def Ct.Bf:List Ct->Nat
 |[]=>0
 |.alt _ k b::r=>b.cost+2 * k+Ct.Bf r
 |_::r=>Ct.Bf r
end
theorem qc {n:aI}{x:Up}(h:WI n)(hk:2<=x.ao)(hl:x.Us<=60)(hx:x.ok=true)(hr:n.ae.length<n.aV) :
  (n.bK x).2.2=0/\WI (n.bK x).1/\(n.bK x).1.ae.length=n.ae.length+1/\(n.bK x).1.aV=n.aV:=by
 refine⟨?_,h.bK hk λ_=>hx,?_,aI.V0 n x⟩
 ·unfold aI.bK aI.nN;rw[aa (by omega),ah (by rw[h.used];exact hr)]
 ·unfold aI.bK aI.nN;rw[aa (by omega),ah (by rw[h.used];exact hr)];dsimp only;rw[h.Xx];simp
theorem ga (n:aI)(p q:aq):(n.bx p q).ae.length=n.ae.length:=by
 unfold aI.bx aI.link;split
 ·rw[aI.rZ,aI.rZ]
 ·rfl
structure Mo (c s:Nat)(n:aI)(w:W):Prop where
 e:w.e=0
 wi:WI w.n
 aV:w.n.aV=n.aV
 ID:w.n.ae.length+w.l.length<=n.ae.length+c
 ends:w.l.length<=s
def mh (c s:Nat)(f:aI->W):Prop:=∀n,WI n->n.ae.length+c<=n.aV->Mo c s n (f n)
inductive rD:List (aI->W)->Nat->Nat->Prop
 |nil:rD [] 0 0
 |cons {f:aI->W} {fs:List (aI->W)} {c s C S:Nat}:mh c s f->rD fs C S->rD (f::fs) (c+C) (s+S)
theorem Xz {x:Up}{out:Nat}{l:Nat->List bW}{s:Nat}(hk:2<=x.ao)(hl:x.Us<=60)(hx:x.ok=true)(hs:∀k,(l k).length<=s):mh (1+s) s (iH x out l):=by
 intro n hn hr;obtain⟨a1,a2,a3,a4⟩:=qc hn hk hl hx (by omega);have:=hs (n.bK x).2.1;exact⟨a1,a2,a4,by show _+(l _).length<=_;rw[show(iH x out l n).n=(n.bK x).1 from rfl];omega,this⟩
theorem Bg {Us m c s:Nat}{n:aI}{w:W}(hl:Us<=60)(h:Mo c s n w)(hr:n.ae.length+(c+1)<=n.aV):Mo (c+1) s n (Xc Us m w):=by
 have h1:=h.ID;have h2:=h.aV;have h3:=h.ends;have h4:=tb w.l;unfold Xc;split
 ·exact⟨rfl,(h.wi.bx _ _).bx _ _,by simp only[aI.dq];exact h.aV,by simp only[ga];omega,by dsimp only;omega⟩
 ·obtain⟨a1,a2,a3,a4⟩:=qc (x:=kt Us) (h.wi.bx w.out ⟨m,1⟩) (by simp[kt]) hl (ux hl) (by rw[ga,aI.dq];omega);rw[ah a1];rw[ga]at a3;rw[aI.dq]at a4;exact⟨rfl,a2.bx _ _,by simp only[aI.dq];omega,by simp only[ga];omega,by dsimp only;omega⟩
theorem oP {Us c s:Nat}{f:aI->W}(hl:Us<=60)(h:mh c s f):∀k,mh (c+2 * k) s (iG Us f k)
 |0=>h
 |k+1=>by
  intro n hn hr;obtain⟨a1,a2,a3,a4⟩:=qc (x:=Wc Us) hn (by simp[Wc]) hl (wg hl) (by omega);have ih:=oP hl h k _ a2 (by omega);unfold iG;rw[ah a1,ah ih.e];have:=Bg (m:=(n.bK (Wc Us)).2.1) hl ih (by omega);exact⟨this.e,this.wi,by rw[this.aV,a4],by have:=this.ID;omega,this.ends⟩
theorem ua {Us:Nat}(hl:Us<=60):∀(l:List bW) (n:aI),WI n->n.ae.length+l.length<=n.aV->(dE Us n l).2.2=0/\WI (dE Us n l).1/\(dE Us n l).1.aV=n.aV/\(dE Us n l).1.ae.length=n.ae.length+l.length
 |[],n,hn,hr=>⟨rfl,hn,rfl,rfl⟩
 |x::r,n,hn,hr=>by
  simp only[av]at hr;obtain⟨a1,a2,a3,a4⟩:=qc (x:=eE Us) hn (by simp[eE]) hl (Xk hl) (by omega);obtain⟨b1,b2,b3,b4⟩:=ua hl r ((n.bK (eE Us)).1.bx ⟨(n.bK (eE Us)).2.1,1⟩ x.p) (a2.bx _ _) (by rw[ga,aI.dq];omega);rw[ga]at b4;rw[aI.dq]at b3;unfold dE;rw[ah a1];exact⟨b1,b2,by dsimp only;omega,by dsimp only;rw[b4,a3,av];omega⟩
theorem tp {Us c s:Nat}{f:aI->W}(hl:Us<=60)(h:mh c s f):mh (c+s) s (λn=>jI Us (f n)):=by
 intro n hn hr;have hf:=h n hn (by omega);have h1:=hf.ID;have h2:=hf.aV;have h3:=hf.ends;obtain⟨b1,b2,b3,b4⟩:=ua hl (f n).l (f n).n hf.wi (by omega);have h5:=Xl Us (f n).l (f n).n
 show Mo _ _ n (jI Us (f n))
 unfold jI;rw[ah hf.e];exact⟨b1,b2,by dsimp only;omega,by dsimp only;omega,by dsimp only;omega⟩
theorem nq {Us:Nat}(hl:Us<=60):∀(r:List bW) (n:aI) (l:List bW),WI n->n.ae.length+r.length<=n.aV ->
  (Uw Us n l r).2.2=0/\WI (Uw Us n l r).1/\(Uw Us n l r).1.aV=n.aV/\(Uw Us n l r).1.ae.length+(Uw Us n l r).2.1.length<=n.ae.length+l.length+r.length/\(Uw Us n l r).2.1.length<=l.length+r.length
 |[],n,l,hn,hr=>⟨rfl,hn,rfl,aB _,aB _⟩
 |x::r,n,l,hn,hr=>by
  simp only[av]at hr ⊢;unfold Uw;split
  ·obtain⟨b1,b2,b3,b4,b5⟩:=nq hl r n (Vr l x) hn (by omega);have hwl:=nO l x;exact⟨b1,b2,b3,by omega,by omega⟩
  ·rename_i k _;obtain⟨a1,a2,a3,a4⟩:=qc (x:=dY Us) hn (by simp[dY]) hl (WS hl) (by omega);rw[ah a1];obtain⟨b1,b2,b3,b4,b5⟩:=nq hl r (((n.bK (dY Us)).1.bx ⟨(n.bK (dY Us)).2.1,1⟩ (l.getD k default).p).bx ⟨(n.bK (dY Us)).2.1,2⟩ x.p) (l.set k ⟨(l.getD k default).v,⟨(n.bK (dY Us)).2.1,0⟩⟩) ((a2.bx _ _).bx _ _) (by rw[ga,ga,aI.dq,aI.dq];omega);rw[ga,ga,cK]at b4;rw[cK]at b5;rw[aI.dq,aI.dq]at b3;exact⟨b1,b2,by omega,by omega,by omega⟩
theorem Bh {Us m:Nat}(hl:Us<=60):∀{fs:List (aI->W)} {C S:Nat},rD fs C S->∀(ss:List Nat) (n:aI) (l:List bW),WI n->n.ae.length+l.length+C<=n.aV ->
  Mo (l.length+C) (l.length+S) n (dg Us m fs ss n l):=by
 intro fs C S h
 induction h with
 |nil=>intro ss n l hn hr;exact⟨rfl,hn,rfl,aB _,aB _⟩
 |@cons f fs c s C S hf _ ih =>
  intro ss n l hn hr;cases ss with
  |nil=>exact⟨rfl,hn,rfl,by show n.ae.length+l.length<=_;omega,by show l.length<=_;omega⟩
  |cons s0 ss =>
   have h1:=hf n hn (by omega);have p1:=h1.ID;have p2:=h1.aV;have p3:=h1.ends;obtain⟨b1,b2,b3,b4,b5⟩:=nq (Us:=Us) hl (f n).l ((f n).n.bx (f n).out ⟨m,s0⟩) l (h1.wi.bx _ _) (by rw[ga,aI.dq];omega);rw[ga]at b4;rw[aI.dq]at b3;have key:=ih ss (U5 Us ⟨(f n).n.bx (f n).out ⟨m,s0⟩,(f n).out,(f n).l,0⟩ l).n (U5 Us ⟨(f n).n.bx (f n).out ⟨m,s0⟩,(f n).out,(f n).l,0⟩ l).l b2 (by simp only[U5];omega);unfold dg;rw[ah h1.e,ah (show(U5 Us ⟨(f n).n.bx (f n).out ⟨m,s0⟩,(f n).out,(f n).l,0⟩ l).e=0 from b1)];have k1:=key.aV;have k2:=key.ID;have k3:=key.ends;simp only[U5]at k1 k2 k3 key ⊢;exact⟨key.e,key.wi,by omega,by omega,by omega⟩
theorem mi {x:Up}{fs:List (aI->W)}{ss:List Nat}{out C S:Nat}(hk:2<=x.ao)(hl:x.Us<=60)(hx:x.ok=true)(h:rD fs C S):mh (C+1) S (mS x fs ss out):=by
 intro n hn hr;obtain⟨a1,a2,a3,a4⟩:=qc hn hk hl hx (by omega);have hp:=Bh (m:=(n.bK x).2.1) hl h ss (n.bK x).1 [] a2 (by simp;omega);simp only[aJ,aG]at hp;unfold mS;rw[ah a1,ah hp.e];exact⟨hp.e,hp.wi,by dsimp only;rw[hp.aV,a4],by have:=hp.ID;dsimp only;omega,hp.ends⟩
theorem gn:∀(N:Nat) (t:Ct) (f Us:Nat),t.size<=N->t.wf f=true->Us+t.tm.depth<=61->mh t.cost t.qJ (t.cP Us)
 |0,t,f,Us,hs,_,_=>by have:=size_pos t;omega
 |N+1,t,f,Us,hs,hw,hd=>by
  cases t with
  |var i =>
   simp only[Ct.tm,Tm.depth,Tm.dp]at hd;exact Xz (x:=⟨5,Us,0,[],[],[]⟩) (s:=1) (by show 2<=5;omega) (by show Us<=60;omega) (iP (.inl rfl) 0 rfl (by omega)) (λk=>aB _)
  |int v =>
   simp only[Ct.tm,Tm.depth,Tm.dp]at hd;exact Xz (x:=⟨10,Us,v,[],[],[]⟩) (s:=0) (by show 2<=10;omega) (by show Us<=60;omega) (tc v (by omega)) (λk=>aB _)
  |fail =>
   simp only[Ct.tm,Tm.depth,Tm.dp]at hd;exact Xz (x:=⟨13,Us,0,[],[],[]⟩) (s:=0) (by show 2<=13;omega) (by show Us<=60;omega) (iP (.inr rfl) 0 rfl (by omega)) (λk=>aB _)
  |lam b =>
   simp only[Ct.wf]at hw;simp only[Ct.size]at hs;simp only[Ct.tm,Tm.depth,Tm.dp]at hd;exact oP (by omega) (gn N b (f+1) Us (by omega) hw (by omega)) 1
  |app x y =>
   simp only[Ct.wf,ab]at hw;simp only[Ct.size]at hs;simp only[Ct.tm,Tm.depth,Tm.dp]at hd;exact mi (x:=⟨3,Us,0,[],[],[]⟩) (by show 2<=3;omega) (by show Us<=60;omega) (y8 (by omega)) (.cons (gn N x f Us (by omega) hw.1 (by omega)) (.cons (tp (by omega) (gn N y f (Us+1) (by omega) hw.2 (by omega))) .nil))
  |op s x y =>
   simp only[Ct.wf,ab]at hw;simp only[Ct.size]at hs;simp only[Ct.tm,Tm.depth,Tm.dp]at hd;exact mi (x:=⟨11,Us,0,s,[],[]⟩) (by show 2<=11;omega) (by show Us<=60;omega) (C5 (y7 hw.1.1) (by omega)) (.cons (gn N x f Us (by omega) hw.1.2 (by omega)) (.cons (gn N y f Us (by omega) hw.2 (by omega)) .nil))
  |alt s n b=>simp[Ct.wf]at hw
  |UW s l =>
   simp only[Ct.wf,ab,Uq]at hw;simp only[Ct.size]at hs;simp only[Ct.tm,Tm.depth]at hd;refine mi (x:=⟨8,Us,0,s,[],List.replicate (l.length+1) ⟨0,0⟩⟩) (by show 2<=8;omega) (by show Us<=60;omega) (YM (XM hw.1.1) hw.1.2 (by omega)) ?_;have hall:∀t,t∈l->mh t.cost t.qJ (t.cP (Us+1)):=λt ht=>gn N t f (Us+1) (by have:=dm ht;omega) (Vi hw.2 t ht) (by
    have:=Tm.VE (show t.tm∈Ct.gp l by rw[Ct.cM];exact UH ht);omega)
   have hl:Us<=60:=by omega
   clear hs hd hw
   induction l with
   |nil=>exact .nil
   |cons a r ih=>exact .cons (tp hl (hall a (by simp))) (ih λt ht=>hall t (by simp[ht]))
  |case x l =>
   simp only[Ct.wf,ab,Uq]at hw;simp only[Ct.size]at hs;simp only[Ct.tm,Tm.depth,Tm.dp]at hd;refine mi (x:=⟨9,Us,0,[],l.map fQ,[]⟩) (by show 2<=9;omega) (by show Us<=60;omega) (y9 (by simpa using hw.1.1.2) hw.1.2 (by omega)) (.cons (gn N x f Us (by omega) hw.1.1.1 (by omega)) ?_);have hall:∀t,t∈l->∃s k b,t=.alt s k b/\mh b.cost b.qJ (b.cP Us):=λt ht=>by
    obtain⟨s,k,b,rfl,w1,w2⟩:=fV hw.2 t ht;refine⟨s,k,b,rfl,gn N b (f+k) Us (by have:=dm ht;simp only[Ct.size]at this;omega) w2 ?_⟩;have:=Tm.VE (show(Ct.alt s k b).tm∈Ct.gp l by rw[Ct.cM];exact UH ht);simp only[Ct.tm,Tm.depth,Tm.dp]at this;omega
   have hl:Us<=60:=by omega
   clear hs hd hw
   induction l with
   |nil=>exact .nil
   |cons a r ih =>
    obtain⟨s,k,b,rfl,w⟩:=hall a (by simp);exact .cons (oP hl w k) (ih λt ht=>hall t (by simp[ht]))
mutual
theorem jF:∀(t:Ct),t.qJ<=t.size
 |.var i=>by simp[Ct.qJ,Ct.size]
 |.int v=>by simp[Ct.qJ,Ct.size]
 |.fail=>by simp[Ct.qJ,Ct.size]
 |.lam b=>by have:=jF b;simp only[Ct.qJ,Ct.size];omega
 |.app f a=>by have:=jF f;have:=jF a;simp only[Ct.qJ,Ct.size];omega
 |.UW s l=>by have:=tq l;simp only[Ct.qJ,Ct.size];omega
 |.case h l=>by have:=tq l;have:=jF h;simp only[Ct.qJ,Ct.size];omega
 |.alt s n b=>by have:=jF b;simp only[Ct.qJ,Ct.size];omega
 |.op s a b=>by have:=jF a;have:=jF b;simp only[Ct.qJ,Ct.size];omega
theorem tq:∀(l:List Ct),Ct.Yi l<=Ct.dt l
 |[]=>aB _
 |a::r=>by have:=jF a;have:=tq r;simp only[Ct.Yi,Ct.dt];omega
end
theorem lz:∀(N:Nat) (t:Ct) (f D:Nat),t.size<=N->t.wf f=true->t.tm.depth<=D->t.cost<=17 * t.size+t.qJ * D
 |0,t,f,D,hs,_,_=>by have:=size_pos t;omega
 |N+1,t,f,0,hs,hw,hd=>by cases t<;>simp[Ct.tm,Tm.depth]at hd
 |N+1,t,f,D+1,hs,hw,hd=>by
  cases t with
  |var i=>simp only[Ct.cost,Ct.size];omega
  |int v=>simp only[Ct.cost,Ct.size];omega
  |fail=>simp only[Ct.cost,Ct.size];omega
  |lam b =>
   simp only[Ct.wf]at hw;simp only[Ct.size]at hs;simp only[Ct.tm,Tm.depth,Tm.dp]at hd;have:=lz N b (f+1) D (by omega) hw (by omega);simp only[Ct.cost,Ct.size,Ct.qJ,VA];omega
  |app x y =>
   simp only[Ct.wf,ab]at hw;simp only[Ct.size]at hs;simp only[Ct.tm,Tm.depth,Tm.dp]at hd;have h1:=lz N x f D (by omega) hw.1 (by omega);have h2:=lz N y f D (by omega) hw.2 (by omega);simp only[Ct.cost,Ct.size,Ct.qJ,VA,cW];omega
  |op s x y =>
   simp only[Ct.wf,ab]at hw;simp only[Ct.size]at hs;simp only[Ct.tm,Tm.depth,Tm.dp]at hd;have h1:=lz N x f D (by omega) hw.1.2 (by omega);have h2:=lz N y f D (by omega) hw.2 (by omega);simp only[Ct.cost,Ct.size,Ct.qJ,VA,cW];omega
  |alt s n b=>simp[Ct.wf]at hw
  |UW s l =>
   simp only[Ct.wf,ab,Uq]at hw;simp only[Ct.size]at hs;simp only[Ct.tm,Tm.depth]at hd;have hall:∀t,t∈l->t.cost<=17 * t.size+t.qJ * D:=λt ht=>lz N t f D (by have:=dm ht;omega) (Vi hw.2 t ht) (by
    have:=Tm.VE (show t.tm∈Ct.gp l by rw[Ct.cM];exact UH ht);omega)
   have:Ct.Dg l<=17 * Ct.dt l+Ct.Yi l * D+Ct.Yi l:=by
    clear hs hd hw
    induction l with
    |nil=>exact dv _
    |cons a r ih =>
     have h1:=hall a (by simp);have h2:=ih λt ht=>hall t (by simp[ht]);simp only[Ct.Dg,Ct.dt,Ct.Yi,cW];omega
   simp only[Ct.cost,Ct.size,Ct.qJ,VA];omega
  |case x l =>
   simp only[Ct.wf,ab,Uq]at hw;simp only[Ct.size]at hs;simp only[Ct.tm,Tm.depth,Tm.dp]at hd;have h8:=h_ hw.1.2;have h1:=lz N x f D (by omega) hw.1.1.1 (by omega);have hall:∀t,t∈l->∃s k b,t=.alt s k b/\k<=8/\b.cost<=17 * b.size+b.qJ * D:=λt ht=>by
    obtain⟨s,k,b,rfl,w1,w2⟩:=fV hw.2 t ht;refine⟨s,k,b,rfl,h8 (s,k) (bj.2 ⟨_,ht,rfl⟩),lz N b (f+k) D (by have:=dm ht;simp only[Ct.size]at this;omega) w2 ?_⟩;have:=Tm.VE (show(Ct.alt s k b).tm∈Ct.gp l by rw[Ct.cM];exact UH ht);simp only[Ct.tm,Tm.depth,Tm.dp]at this;omega
   have:Ct.Bf l<=17 * Ct.dt l+Ct.Yi l * D:=by
    clear hs hd hw h8
    induction l with
    |nil=>exact dv _
    |cons a r ih =>
     obtain⟨s,k,b,rfl,w1,w2⟩:=hall a (by simp);have h2:=ih λt ht=>hall t (by simp[ht]);simp only[Ct.Bf,Ct.dt,Ct.Yi,Ct.size,Ct.qJ,cW];omega
   simp only[Ct.cost,Ct.size,Ct.qJ,VA,cW];omega
theorem Gx {t:Ct}{most:Nat}(hm:2<=most/\most<=4000)(hw:t.wf 0=true)(hd:t.tm.depth<=61)(hc:t.cost+1<=most):(t.cS most).2=0:=by
 have h:=gn t.size t 0 0 (aB _) hw (by omega) (kP most) (y_ hm) (by show 1+t.cost<=most;omega);unfold Ct.cS;rw[ah h.e]
theorem V1 {t:Ct}(hw:t.wf 0=true)(hs:t.size<=60)(hd:t.tm.depth<=30):(t.cS 4000).2=0:=by
 refine Gx (by omega) hw (by omega) ?_;have h1:=lz t.size t 0 30 (aB _) hw hd;have h2:=jF t;omega
theorem mh.mono {c c' s:Nat}{f:aI->W}(h:mh c s f)(hc:c<=c'):mh c' s f:=λn hn hr=>by
 have:=h n hn (by omega);exact⟨this.e,this.wi,this.aV,by have:=this.ID;omega,this.ends⟩
theorem Y9 {Us:Nat}{n:aI}(he:((Ct.lam (.var 0)).cP Us n).e=0):((Ct.lam (.var 0)).cP Us n).l=[]:=by
 have hu:(Ct.lam (.var 0)).cP Us n=iG Us (iH ⟨5,Us,0,[],[],[]⟩ 1 (λs=>[⟨0,⟨s,0⟩⟩])) 1 n:=rfl;rw[hu]at he ⊢;unfold iG at he ⊢;split
 ·rename_i h1;rw[ah h1]at he;split
  ·rfl
  ·rename_i h2;rw[aa h2]at he;exact absurd he h2
 ·rfl
theorem Ug.wf {s:aO}{c:Ct}(h:Ug s c):∀f,c.wf f=true:=by
 induction h with
 |int=>intro f;rfl
 |abs=>intro f;simp[Ct.wf]
 |fail=>intro f;rfl
 |@UW nm sl l h1 h2 h3 hd ih =>
  intro f;simp only[Ct.wf,ab,Uq];refine⟨⟨h2,h3⟩,wJ λt ht=>?_⟩;obtain⟨i,hi,rfl⟩:=dj ht;exact ih i sl[i] l[i] (gG (by omega)) (gG hi) f
theorem Ug.Zn {s:aO}{c:Ct}(h:Ug s c):∀Us,Us+c.tm.depth<=61->mh (4 * c.size) 0 (c.cP Us):=by
 induction h with
 |@int v =>
  intro Us hd;simp only[Ct.tm,Tm.depth,Tm.dp]at hd;exact(Xz (x:=⟨10,Us,v,[],[],[]⟩) (s:=0) (by show 2<=10;omega) (by show Us<=60;omega) (tc v (by omega)) (λk=>aB _)).mono (by simp[Ct.size])
 |abs =>
  intro Us hd;simp only[Ct.tm,Tm.depth,Tm.dp]at hd;intro n hn hr;simp only[Ct.size]at hr ⊢;have h1:=oP (Us:=Us) (by omega) (Xz (x:=⟨5,Us,0,[],[],[]⟩) (out:=1) (l:=λs=>[⟨0,⟨s,0⟩⟩]) (s:=1) (by show 2<=5;omega) (by show Us<=60;omega) (iP (.inl rfl) 0 rfl (by omega)) (λk=>aB _)) 1 n hn (by omega);have hl:=Y9 (Us:=Us) (n:=n) h1.e;have hp:=h1.ID;exact⟨h1.e,h1.wi,h1.aV,by show((Ct.lam (.var 0)).cP Us n).n.ae.length+((Ct.lam (.var 0)).cP Us n).l.length<=_;exact cm hp (by omega),by rw[hl];exact aB _⟩
 |fail =>
  intro Us hd;simp only[Ct.tm,Tm.depth,Tm.dp]at hd;exact(Xz (x:=⟨13,Us,0,[],[],[]⟩) (s:=0) (by show 2<=13;omega) (by show Us<=60;omega) (iP (.inr rfl) 0 rfl (by omega)) (λk=>aB _)).mono (by simp[Ct.size])
 |@UW nm sl l h1 h2 h3 hd0 ih =>
  intro Us hd;simp only[Ct.tm,Tm.depth]at hd;have hl:Us<=60:=by omega
  have hall:∀t,t∈l->mh (4 * t.size) 0 (t.cP (Us+1)):=λt ht=>by
   have hdm:=Tm.VE (show t.tm∈Ct.gp l by rw[Ct.cM];exact UH ht);obtain⟨i,hi,rfl⟩:=dj ht;exact ih i sl[i] l[i] (gG (by omega)) (gG hi) (Us+1) (by omega)
  have hp:∃C,C<=4 * Ct.dt l/\rD (Ct.l9 l Us) C 0:=by
   clear h1 h2 h3 hd0 ih hd
   induction l with
   |nil=>exact⟨0,by simp,.nil⟩
   |cons a r ihr =>
    obtain⟨C,q1,q2⟩:=ihr λt ht=>hall t (by simp[ht]);refine⟨4 * a.size+0+C,by simp only[Ct.dt];omega,?_⟩;exact rD.cons (c:=4 * a.size+0) (s:=0) (tp (Us:=Us) hl (hall a (by simp))) q2
  obtain⟨C,q1,q2⟩:=hp;exact(mi (x:=⟨8,Us,0,nm,[],List.replicate (l.length+1) ⟨0,0⟩⟩) (by show 2<=8;omega) hl (YM (XM h2) h3 hl) q2).mono (by simp only[Ct.size];omega)
theorem Ug.cS {s:aO}{c:Ct}(h:Ug s c)(hd:c.tm.depth<=61)(hs:c.size<=900):(c.cS 4000).2=0/\(c.cS 4000).1.Ok/\Rd (c.cS 4000).1 ⟨0,0⟩ s:=by
 have hc:=h.Zn 0 (by omega) (kP 4000) (y_ (by omega)) (by show 1+_<=4000;omega);have he:(c.cS 4000).2=0:=by unfold Ct.cS;rw[ah hc.e]
 obtain⟨a1,a2,a3,a4⟩:=h.pd 0 (kP 4000) _ (De (by omega)) hc.e;obtain⟨b1,b2,⟨b3,b4,b5⟩,b6,b7,b8⟩:=a1.link;have hn:(c.cS 4000).1=(c.cP 0 (kP 4000)).n.bx (c.cP 0 (kP 4000)).out ⟨0,0⟩:=by unfold Ct.cS;rw[ah hc.e]
 refine⟨he,?_,?_⟩
 ·rw[hn];exact b1.sk.ok (D:=λ_=>False) (b1.lk.congr (λp _=>by simp)) (λ_ _ h=>h)
 ·rw[hn];exact(a4 _ (b2.Cd ⟨λi x hx _=>⟨x,hx,rfl⟩,λp _ _=>rfl⟩) ⟨0,0⟩ b8).rd
theorem T8 {rd:RS->aq->RS×Nat×aO}{i:Nat}:∀(c k:Nat) (s:RS),gA false rd i c k s=(s,0,List.replicate c .lazy)
 |0,k,s=>rfl
 |c+1,k,s=>by simp only[gA,T8 c (k+1) s,List.replicate_succ]
theorem Rd.flat {step:VZ}{F f:Nat}{s:RS}{p:aq}{t:aO}(h:Rd s.cS p t):∃t':aO,fF step F false (f+1) s p=(s,0,t')/\t'.ao=t.ao/\t'.name=t.name:=by
 have key:∀{p:aq} {i:Nat},s.cS.pr p=⟨i,0⟩->fF step F false (f+1) s p=shapeOf false (fF step F false f) s i:=by
  intro p i hp;simp only[fF];rw[xP hp];rw[aa (by simp)];rfl
 cases h with
 |int h1 h2 h3=>exact⟨_,by rw[key h1];unfold shapeOf;rw[h2];dsimp only;rw[ah h3],rfl,rfl⟩
 |lam h1 h2 h3=>exact⟨_,by rw[key h1];unfold shapeOf;rw[h2];dsimp only;rw[aa (by omega),ah h3],rfl,rfl⟩
 |fail h1 h2 h3=>exact⟨_,by rw[key h1];unfold shapeOf;rw[h2];dsimp only;rw[aa (by omega),aa (by omega),ah h3],rfl,rfl⟩
 |@UW _ i x l h1 h2 h3 h4 h5 =>
  refine⟨.mk 2 0 x.name (List.replicate (x.to.length-1) .lazy),?_,rfl,rfl⟩;rw[key h1];unfold shapeOf;rw[h2];dsimp only;rw[aa (by omega),aa (by omega),aa (by omega),ah h3,T8,aa (by simp)]
theorem Ug.read {s:aO}{c:Ct}(h:Ug s c)(hd:c.tm.depth<=61)(hs:c.size<=900) :
  (c.cS 4000).2=0/\(c.cS 4000).1.Ok/\bI (c.cS 4000).1 true 0=(tT (c.cS 4000).1,0,s)/\∃t':aO,bI (c.cS 4000).1 false 0=(tT (c.cS 4000).1,0,t')/\t'.ao=s.ao/\t'.name=s.name:=by
 obtain⟨h1,h2,h3⟩:=h.cS hd hs;exact⟨h1,h2,Rd.again (s:=tT (c.cS 4000).1) h2 h3 .root (by simp),Rd.flat (s:=tT (c.cS 4000).1) h3⟩
mutual
def Tm.Um:Tm->aO
 |.mk k n s l=>.mk k.toNat n s (Tm.Zj l)
def Tm.Zj:List Tm->List aO
 |[]=>[]
 |a::r=>a.Um::Tm.Zj r
end
theorem Tm.T9:∀l:List Tm,Tm.Zj l=l.map Tm.Um
 |[]=>rfl
 |a::r=>by simp[Tm.Zj,Tm.T9 r]
theorem aO.cM:∀l:List aO,aO.gp l=l.map aO.tm
 |[]=>rfl
 |a::r=>by simp[aO.gp,aO.cM r]
theorem Tm.Un:∀l:List Tm,Tm.KK l=l.map Tm.ct
 |[]=>rfl
 |a::r=>by simp[Tm.KK,Tm.Un r]
theorem Ua:∀{l:List Tm},Tm.wB l=true->∀t∈l,t.nS=true
 |a::r,h,t,ht=>by
  simp only[Tm.wB,ab]at h;rcases aA.1 ht with rfl|ht
  ·exact h.1
  ·exact Ua h.2 t ht
theorem Ub:∀{l:List Tm},Tm.T5 l=false->∀t∈l,t.lazy=false
 |a::r,h,t,ht=>by
  simp only[Tm.T5,fq]at h;rcases aA.1 ht with rfl|ht
  ·exact h.1
  ·exact Ub h.2 t ht
theorem Zm:∀t:Tm,t.nS=true->t.lazy=false->t.Um.tm=t/\Ug t.Um t.ct:=by
 refine Tm.ind λk n s l ih hm hz=>?_;simp only[Tm.lazy,fq,decide_eq_false_iff_not]at hz;simp only[Tm.nS]at hm;by_cases k1:k=1
 ·rw[ah k1]at hm;simp only[ab,Uq]at hm;obtain⟨rfl,hl⟩:=hm;have:=aW hl;subst this k1;exact⟨rfl,.int⟩
 rw[aa k1]at hm;by_cases k2:n≠0\/k<2\/5<k
 ·rw[ah k2]at hm;cases hm
 rw[aa k2]at hm;have hn:n=0:=by
  by_cases c:n=0
  ·exact c
  ·exact absurd (.inl c) k2
 have hk:2<=k/\k<=5:=by
  constructor
  ·by_cases c:k<2
   ·exact absurd (.inr (.inl c)) k2
   ·omega
  ·by_cases c:5<k
   ·exact absurd (.inr (.inr c)) k2
   ·omega
 subst hn;by_cases k3:k=2
 ·subst k3;rw[aa (by simp)]at hm;by_cases k4:s=[]\/8<l.length
  ·rw[ah k4]at hm;cases hm
  rw[aa k4]at hm;simp only[ab]at hm;have h8:l.length<=8:=by
   by_cases c:8<l.length
   ·exact absurd (.inr c) k4
   ·omega
  have hall:∀t∈l,t.Um.tm=t/\Ug t.Um t.ct:=λt ht=>ih t ht (Ua hm.2 t ht) (Ub hz.1 t ht);constructor
  ·simp only[Tm.Um,aO.tm,Tm.T9,aO.cM,UJ];rw[show l.map (aO.tm ∘ Tm.Um)=l from by
    conv=>rhs;rw[<- gP l]
    exact cL λt ht=>(hall t ht).1]
   rfl
  ·simp only[Tm.Um,Tm.ct,Tm.T9,Tm.Un];rw[aa (by omega),aa (by omega),aa (by omega)];refine .UW (by simp) (by rw[<- mg];exact hm.1) (by simpa using h8) λi s' c' q1 q2=>?_;rw[List.getElem?_map]at q1 q2;obtain⟨t,e1,rfl⟩:=aP.1 q1;rw[e1]at q2;cases q2;exact(hall t (aE e1)).2
 ·rw[ah k3]at hm;simp only[ab,Uq]at hm;obtain⟨rfl,hl⟩:=hm;have:=aW hl;subst this;have k5:k=3\/k=4:=by omega
  rcases k5 with rfl|rfl
  ·exact⟨rfl,.abs⟩
  ·exact⟨rfl,.fail⟩
section
variable {pg:fX}{G:Heap}
theorem j9:∀(N:Nat) (t:Ct) (f g:Nat),t.size<=N->f<=g->t.wf f=true->t.wf g=true
 |0,t,f,g,hs,hg,hw=>by have:=size_pos t;omega
 |N+1,t,f,g,hs,hg,hw=>by
  cases t with
  |var i=>simp only[Ct.wf,Uq]at hw ⊢;omega
  |int v=>rfl
  |fail=>rfl
  |alt s n b=>simp[Ct.wf]at hw
  |lam b =>
   simp only[Ct.wf]at hw ⊢;simp only[Ct.size]at hs;exact j9 N b _ _ (by omega) (by omega) hw
  |app a b =>
   simp only[Ct.wf,ab]at hw ⊢;simp only[Ct.size]at hs;exact⟨j9 N a _ _ (by omega) hg hw.1,j9 N b _ _ (by omega) hg hw.2⟩
  |op s a b =>
   simp only[Ct.wf,ab]at hw ⊢;simp only[Ct.size]at hs;exact⟨⟨hw.1.1,j9 N a _ _ (by omega) hg hw.1.2⟩,j9 N b _ _ (by omega) hg hw.2⟩
  |UW s l =>
   simp only[Ct.wf,ab]at hw ⊢;simp only[Ct.size]at hs;exact⟨hw.1,wJ (λt ht=>j9 N t _ _ (by have:=dm ht;omega) hg (Vi hw.2 t ht))⟩
  |case x l =>
   simp only[Ct.wf,ab]at hw ⊢;simp only[Ct.size]at hs;refine⟨⟨⟨j9 N x _ _ (by omega) hg hw.1.1.1,hw.1.1.2⟩,hw.1.2⟩,zg (λt ht=>?_)⟩;obtain⟨s,n,b,rfl,w1,w2⟩:=fV hw.2 t ht;have hsz:=dm ht;simp only[Ct.size]at hsz;exact⟨s,n,b,rfl,w1,h_ hw.1.2 (s,n) (bj.2 ⟨_,ht,rfl⟩),j9 N b _ _ (by omega) (by omega) w2⟩
theorem Eh (us:List Ct)(b:Nat){f:Nat}{l:List Ct}(h:Ct.El f l=true):(Ct.Bc us b l).map fQ=l.map fQ:=by
 rw[Ct.Vh,UJ];refine cL λt ht=>?_;obtain⟨s,n,b,rfl,_,_⟩:=fV h t ht;rfl
theorem yj (us:List Ct)(hu:∀u∈us,u.wf 0=true):∀(N:Nat) (t:Ct) (b:Nat),t.size<=N->t.wf (b+us.length)=true->(t.sub us b).wf b=true
 |0,t,b,hs,hw=>by have:=size_pos t;omega
 |N+1,t,b,hs,hw=>by
  cases t with
  |var i =>
   simp only[Ct.wf,Uq]at hw;simp only[Ct.sub];by_cases c:i<b
   ·rw[ah c];simpa [Ct.wf] using c
   ·rw[aa c];have hi:i-b<us.length:=by omega
    rw[List.getD_eq_getElem?_getD,gG hi];exact j9 _ _ 0 b (aB _) (by omega) (hu _ (bM hi))
  |int v=>rfl
  |fail=>rfl
  |alt s n b=>simp[Ct.wf]at hw
  |lam x =>
   simp only[Ct.wf,Ct.sub]at hw ⊢;simp only[Ct.size]at hs;exact yj us hu N x (b+1) (by omega) (by rw[show b+1+us.length=b+us.length+1 from by omega];exact hw)
  |app x y =>
   simp only[Ct.wf,Ct.sub,ab]at hw ⊢;simp only[Ct.size]at hs;exact⟨yj us hu N x b (by omega) hw.1,yj us hu N y b (by omega) hw.2⟩
  |op s x y =>
   simp only[Ct.wf,Ct.sub,ab]at hw ⊢;simp only[Ct.size]at hs;exact⟨⟨hw.1.1,yj us hu N x b (by omega) hw.1.2⟩,yj us hu N y b (by omega) hw.2⟩
  |UW s l =>
   simp only[Ct.wf,Ct.sub,ab,Ct.Vh,cU]at hw ⊢;simp only[Ct.size]at hs;refine⟨hw.1,wJ (λt ht=>?_)⟩;obtain⟨t',h1,rfl⟩:=bj.1 ht;exact yj us hu N t' b (by have:=dm h1;omega) (Vi hw.2 t' h1)
  |case x l =>
   simp only[Ct.wf,ab]at hw;simp only[Ct.size]at hs;have ha:=Eh us b hw.2;simp only[Ct.sub,Ct.wf,ha,ab];refine⟨⟨⟨yj us hu N x b (by omega) hw.1.1.1,by rw[Ct.Vh,cU];exact hw.1.1.2⟩,hw.1.2⟩,zg (λt ht=>?_)⟩;rw[Ct.Vh]at ht;obtain⟨t',h1,rfl⟩:=bj.1 ht;obtain⟨s,n,y,rfl,w1,w2⟩:=fV hw.2 t' h1;have hsz:=dm h1;simp only[Ct.size]at hsz;exact⟨s,n,_,rfl,w1,h_ hw.1.2 (s,n) (bj.2 ⟨_,h1,rfl⟩),yj us hu N y (b+n) (by omega) (by rw[show b+n+us.length=b+us.length+n from by omega];exact w2)⟩
theorem Dj (s:List UInt8)(a b:Int):(ue s a b).1.wf 0=true/\(ue s a b).1.size=1:=by
 unfold ue
 repeat' split
 all_goals exact⟨by first|rfl|decide,rfl⟩
theorem rE {l:List Ct}{s:List UInt8}{n k:Nat}(h:qI l s n=some k):∃a,l[k]?=some a/\fQ a=(s,n):=by
 unfold qI at h;obtain⟨h1,h2,_⟩:=List.findIdx?_eq_some_iff_getElem.1 h;exact⟨l[k],gG h1,by simpa using h2⟩
theorem oQ:∀(t:Ct),t.wf 0=true->t.step.1.wf 0=true
 |.var i,h=>h
 |.int v,h=>h
 |.fail,h=>h
 |.lam b,h=>h
 |.UW s l,h=>h
 |.alt s n b,h=>h
 |.app f a,h=>by
  have hw:=h;simp only[Ct.wf,ab]at hw;simp only[Ct.step];split
  ·split
   ·rename_i b _;have hb:b.wf 1=true:=by simpa [Ct.wf] using hw.1
    exact yj [a] (by simpa using hw.2) b.size b 0 (aB _) hb
   ·rfl
  ·split
   ·exact h
   ·simp[Ct.wf,oQ f hw.1,hw.2]
 |.case x l,h=>by
  have hw:=h;simp only[Ct.wf,ab]at hw;simp only[Ct.step];split
  ·unfold Ct.pick;split
   ·rename_i s ls _;have hx:=hw.1.1.1;simp only[Ct.wf,ab]at hx;split
    ·rename_i k hk;obtain⟨a,h1,h2⟩:=rE hk;obtain⟨s',n,b,rfl,w1,w2⟩:=fV hw.2 a (aE h1);simp only[fQ,eK]at h2;obtain⟨rfl,rfl⟩:=h2;rw[List.getD_eq_getElem?_getD,h1];exact yj ls.reverse (λu hu=>Vi hx.2 u (ik.1 hu)) b.size b 0 (aB _) (by rw[jn];exact w2)
    ·rfl
   ·rfl
  ·split
   ·exact h
   ·simp only[Ct.wf,ab];exact⟨⟨⟨oQ x hw.1.1.1,hw.1.1.2⟩,hw.1.2⟩,hw.2⟩
 |.op s a b,h=>by
  have hw:=h;simp only[Ct.wf,ab]at hw;simp only[Ct.step];split
  ·split
   ·split
    ·split
     ·exact(Dj _ _ _).1
     ·rfl
    ·split
     ·exact h
     ·simp only[Ct.wf,ab];exact⟨⟨hw.1.1,by first|rfl|trivial⟩,oQ b hw.2⟩
   ·rfl
  ·split
   ·exact h
   ·simp only[Ct.wf,ab];exact⟨⟨hw.1.1,oQ a hw.1.2⟩,hw.2⟩
theorem XS {f:Ct->Ct}{S:Nat}:∀{l:List Ct},(∀t∈l,(f t).size<=t.size * S)->Ct.dt (l.map f)<=Ct.dt l * S
 |[],_=>by simp[Ct.dt]
 |a::r,h=>by
  have h1:=h a (by simp);have h2:=XS (l:=r) (λt ht=>h t (by simp[ht]));simp only[ai,Ct.dt,cW];omega
theorem kv (us:List Ct){S:Nat}(h1:1<=S)(hu:∀u∈us,u.size<=S):∀(N:Nat) (t:Ct) (b:Nat),t.size<=N->(t.sub us b).size<=t.size * S
 |0,t,b,hs=>by have:=size_pos t;omega
 |N+1,t,b,hs=>by
  cases t with
  |var i =>
   simp only[Ct.sub,Ct.size,Nat.one_mul];split
   ·simpa [Ct.size] using h1
   ·rw[List.getD_eq_getElem?_getD];cases hg:us[i-b]? with
    |none=>simpa [Ct.size] using h1
    |some u=>exact hu u (aE hg)
  |int v=>simpa [Ct.sub,Ct.size] using h1
  |fail=>simpa [Ct.sub,Ct.size] using h1
  |alt s n x|lam x =>
   simp only[Ct.size]at hs;have:=kv us h1 hu N x;simp only[Ct.sub,Ct.size,cW]
   first|(have:=this (b+n) (by omega);omega)|(have:=this (b+1) (by omega);omega)
  |app x y|op s x y =>
   simp only[Ct.size]at hs;have e1:=kv us h1 hu N x b (by omega);have e2:=kv us h1 hu N y b (by omega);simp only[Ct.sub,Ct.size,cW];omega
  |UW s l =>
   simp only[Ct.size]at hs;have:=XS (f:=Ct.sub us b) (S:=S) (l:=l) (λt ht=>kv us h1 hu N t b (by have:=dm ht;omega));simp only[Ct.sub,Ct.size,Ct.Vh,cW];omega
  |case x l =>
   simp only[Ct.size]at hs;have e1:=kv us h1 hu N x b (by omega);have:=XS (f:=Ct.sub us b) (S:=S) (l:=l) (λt ht=>kv us h1 hu N t b (by have:=dm ht;omega));simp only[Ct.sub,Ct.size,Ct.Vh,cW];omega
theorem yf {a b c:Nat}(h1:a<=c)(h2:b<=c):a * b<=c * c:=jo h1 h2
theorem zh {a x c:Nat}(h:a+x<=c)(ha:1<=a):a * a+x<=c * c:=by
 have h1:a * a+x<=(a+x) * (a+x):=by
  have:(a+x) * (a+x)=a * a+(a * x+x * a+x * x):=by rw[cW,o7,o7];omega
  have h2:x<=a * x:=by
   have:=bh x ha;omega
  omega
 exact cm h1 (jo h h)
theorem nT:∀(t:Ct),t.step.1.size<=t.size * t.size
 |.var i=>by simp[Ct.step,Ct.size]
 |.int v=>by simp[Ct.step,Ct.size]
 |.fail=>by simp[Ct.step,Ct.size]
 |.lam b=>by simp only[Ct.step];exact eY _
 |.UW s l=>by simp only[Ct.step];exact eY _
 |.alt s n b=>by simp only[Ct.step];exact eY _
 |.app f a=>by
  have hp:=size_pos a;have hf:=size_pos f;have hself:=eY (Ct.app f a).size;have one:1<=(Ct.app f a).size * (Ct.app f a).size:=by have:=size_pos (Ct.app f a);omega
  simp only[Ct.step];split
  ·split
   ·rename_i b _;have:=kv [a] (S:=a.size) hp (by simp) b.size b 0 (aB _);refine cm this (yf ?_ ?_)<;>simp only[Ct.size]<;>omega
   ·exact one
  ·split
   ·exact hself
   ·have:=nT f;have h3:=zh (a:=f.size) (x:=a.size+1) (c:=(Ct.app f a).size) (by simp only[Ct.size];omega) hf;simp only[Ct.size]at h3 ⊢;omega
 |.case x l=>by
  have hx:=size_pos x;have hself:=eY (Ct.case x l).size;have one:1<=(Ct.case x l).size * (Ct.case x l).size:=by have:=size_pos (Ct.case x l);omega
  simp only[Ct.step];split
  ·unfold Ct.pick;split
   ·rename_i s ls _;split
    ·rename_i k hk;obtain⟨a,h1,h2⟩:=rE hk;rw[List.getD_eq_getElem?_getD,h1];have ha:=dm (aE h1);have hb:=ze a;have:=kv ls.reverse (S:=(Ct.UW s ls).size) hx (λu hu=>by
      have:=dm (ik.1 hu);simp only[Ct.size];omega) (gm a).size (gm a) 0 (aB _)
     refine cm this (yf ?_ ?_)<;>simp only[Ct.size]<;>omega
    ·exact one
   ·exact one
  ·split
   ·exact hself
   ·have:=nT x;have h3:=zh (a:=x.size) (x:=Ct.dt l+1) (c:=(Ct.case x l).size) (by simp only[Ct.size];omega) hx;simp only[Ct.size]at h3 ⊢;omega
 |.op s a b=>by
  have ha:=size_pos a;have hb:=size_pos b;have hself:=eY (Ct.op s a b).size;have one:1<=(Ct.op s a b).size * (Ct.op s a b).size:=by have:=size_pos (Ct.op s a b);omega
  simp only[Ct.step];split
  ·split
   ·split
    ·split
     ·rw[(Dj _ _ _).2];exact one
     ·exact one
    ·split
     ·exact hself
     ·have:=nT b;have h3:=zh (a:=b.size) (x:=(Ct.int 0).size+1) (c:=(Ct.op s (.int 0) b).size) (by simp only[Ct.size];omega) hb;simp only[Ct.size]at h3 ⊢;omega
   ·exact one
  ·split
   ·exact hself
   ·have:=nT a;have h3:=zh (a:=a.size) (x:=b.size+1) (c:=(Ct.op s a b).size) (by simp only[Ct.size];omega) ha;simp only[Ct.size]at h3 ⊢;omega
def dz:Nat->Ct->Ct×Nat×Nat
 |0,t=>if 5000<t.size then (.fail,0,91) else if t.step.2=0 then (t,0,0) else (.fail,0,90)
 |m+1,t=>if 5000<t.size then (.fail,0,91) else if t.step.2=0 then (t,0,0) else ((dz m t.step.1).1,(dz m t.step.1).2.1+1,(dz m t.step.1).2.2)
def kQ:Tm:=.mk 0 0 [] []
def Dk (r:Ct×Nat×Nat):Tm:=if r.2.2=0 then r.1.tm else kQ
theorem zi:∀(m:Nat) (t:Ct),(dz m t).2.1<=m
 |0,t=>by unfold dz;split<;>(try split)<;>simp
 |m+1,t=>by
  have:=zi m t.step.1;unfold dz;split
  ·simp
  ·split
   ·simp
   ·dsimp only;omega
theorem Pe (h:bY pg){body:aU}(hb:body=X5)(F:Nat)(hF:F<=2 ^ 40):∀(m n:Nat) (t:Ct),n+m=F->t.wf 0=true->t.size<=2 ^ 50 ->
  ∃cells tl,L pg 0 [1,2,4,7] body [(1,.p (.i .i64 F)),(2,.ptr 0 0),(4,.ptr 1 0),(7,.p (.i .i64 n))] [.box (bP t.tm.aw),.box [.p (iv 0),.p (iv 0),.p (.s []),.aC]] =
   some (.ret,[(4,.ptr 1 0),(5,.p (.i .i64 (n+(dz m t).2.1:Nat))),(6,.p (.i .i64 (dz m t).2.2))],(.box cells::.box (if (dz m t).2.2=0 then bP (dz m t).1.tm.aw else [.p (iv 0),.p (iv 0),.p (.s []),.aC])::tl))
 |m,n,t,hm,hw,hs=>by
  have hc:t.Cl:=⟨hw,hs⟩
  have e54:=λG=>t54 h t.tm hc.jJ.short (by rw[Ct.iQ];exact hs) G;have e55:=λG=>t55 h t.size t (aB _) hc G;rw[Ct.iQ]at e54;obtain⟨tk,tn,tnm,tl,ht,-⟩:=t.iI;obtain⟨sk,sn,snm,sl,hst,-⟩:=t.step.1.iI;simp only[hst,Tm.eS]at e55;rw[ht]at e54 e55;simp only[Tm.aw,Tm.ba,bP,ai,au]at e54 e55;by_cases c1:5000<t.size
  ·have c1':(5000:Int)<(t.size:Int):=by omega
   have hr:dz m t=(.fail,0,91):=by cases m<;>simp[dz,c1]
   rw[hr];dsimp only;rw[ht];refine⟨[.p (iv tk),.p (iv tn),.p (.s tnm),.p (.sl (tl.map Tm.aw))],[],?_⟩;rw[dA hb];simp only[Tm.aw,Tm.ba,bP,ai,au];simp[X5,aj,e54,c1,c1']
  ·have c1':¬ (5000:Int)<(t.size:Int):=by omega
   by_cases c2:t.step.2=0
   ·have hr:dz m t=(t,0,0):=by cases m<;>simp[dz,c1,c2]
    rw[hr];dsimp only;rw[ht];refine⟨[.p (iv tk),.p (iv tn),.p (.s tnm),.p (.sl (tl.map Tm.aw))],[.box [.p (iv sk),.p (iv sn),.p (.s snm),.p (.sl (sl.map Tm.aw))]],?_⟩;rw[dA hb];simp only[Tm.aw,Tm.ba,bP,ai,au];simp[X5,aj,e54,e55,c1,c1',c2]
   ·have c2':¬ (t.step.2:Int)=0:=by omega
    cases m with
    |zero =>
     have hr:dz 0 t=(.fail,0,90):=by simp[dz,c1,c2]
     have hnF:n=F:=by omega
     rw[hr];dsimp only;rw[ht];refine⟨[.p (iv tk),.p (iv tn),.p (.s tnm),.p (.sl (tl.map Tm.aw))],[.box [.p (iv sk),.p (iv sn),.p (.s snm),.p (.sl (sl.map Tm.aw))]],?_⟩;rw[dA hb];simp only[Tm.aw,Tm.ba,bP,ai,au];simp[X5,aj,e54,e55,c1,c1',c2,c2',hnF]
    |succ m =>
     have hr:dz (m+1) t=((dz m t.step.1).1,(dz m t.step.1).2.1+1,(dz m t.step.1).2.2):=by simp[dz,c1,c2]
     have hnF:¬ n=F:=by omega
     have hnF':¬ (n:Int)=(F:Int):=by omega
     have hsz:=nT t;have hsz2:t.size * t.size<=5000 * 5000:=jo (by omega) (by omega);obtain⟨cells,tl',ih⟩:=Pe h hb F hF m (n+1) t.step.1 (by omega) (oQ t hw) (by omega);rw[hr];dsimp only;rw[ht];refine⟨cells,tl',?_⟩;rw[hst,show((n+1:Nat):Int)=(n:Int)+1 from by omega,show n+1+(dz m t.step.1).2.1=n+((dz m t.step.1).2.1+1) from by omega]at ih;simp only[Tm.aw,Tm.ba,bP,ai,au]at ih ⊢;have w1:=cR ((n:Int)+1);rw[dA hb];simp[X5,aj,e54,e55,c1,c1',c2,c2',hnF,hnF',w1,gc,exp,aQ,UG,ih]
theorem yg {s:List UInt8}(h:qF s=true):s.length<=16:=by
 cases s with
 |nil=>simp
 |cons c r =>
  unfold qF at h;simp only[ab,Uq]at h;simp only[av];omega
theorem Gz {s:List UInt8}(h:A3 s=true):s.length<=2:=by
 unfold A3 at h;simp only[UP,Uq]at h;rcases h with ((((h|h)|h)|h)|h)|h<;>rw[h]<;>decide
theorem Ct.En:∀(N:Nat) (t:Ct) (f:Nat),t.size<=N->t.wf f=true->t.tm.wq
 |0,t,f,hs,hw=>by have:=size_pos t;omega
 |N+1,t,f,hs,hw=>by
  have one:∀{k n:Int} {a:Tm},a.wq->(Tm.mk k n [] [a]).wq:=fun {k n a} h=>.mk (by simp) (by simp) (λt ht=>by simp only[br]at ht;subst ht;exact h);cases t with
  |var i=>exact .mk (by simp) (by simp) (by simp)
  |int v=>exact .mk (by simp) (by simp) (by simp)
  |fail=>exact .mk (by simp) (by simp) (by simp)
  |alt s n b=>simp[Ct.wf]at hw
  |lam b =>
   simp only[Ct.wf]at hw;simp only[Ct.size]at hs;exact one (Ct.En N b _ (by omega) hw)
  |app a b =>
   simp only[Ct.wf,ab]at hw;simp only[Ct.size]at hs;refine .mk (by simp) (by simp) (λt ht=>?_);simp only[aA,UA,dU]at ht;rcases ht with rfl|rfl
   ·exact Ct.En N a _ (by omega) hw.1
   ·exact Ct.En N b _ (by omega) hw.2
  |op s a b =>
   simp only[Ct.wf,ab]at hw;simp only[Ct.size]at hs;have:=Gz hw.1.1;refine .mk (by simp) (by omega) (λt ht=>?_);simp only[aA,UA,dU]at ht;rcases ht with rfl|rfl
   ·exact Ct.En N a _ (by omega) hw.1.2
   ·exact Ct.En N b _ (by omega) hw.2
  |UW s l =>
   simp only[Ct.wf,ab,Uq]at hw;simp only[Ct.size]at hs;have:=yg hw.1.1;refine .mk (by rw[Ct.cM,cU];omega) (by omega) (λt ht=>?_);rw[Ct.cM]at ht;obtain⟨c,h1,rfl⟩:=bj.1 ht;exact Ct.En N c _ (by have:=dm h1;omega) (Vi hw.2 c h1)
  |case x l =>
   simp only[Ct.wf,ab,Uq]at hw;simp only[Ct.size]at hs;refine .mk (by rw[Ct.cM];simp only[av,cU];omega) (by simp) (λt ht=>?_);rw[Ct.cM]at ht;rcases aA.1 ht with rfl|ht
   ·exact Ct.En N x _ (by omega) hw.1.1.1
   ·obtain⟨c,h1,rfl⟩:=bj.1 ht;obtain⟨s,n,b,rfl,w1,w2⟩:=fV hw.2 c h1;have hsz:=dm h1;simp only[Ct.size]at hsz;have:=yg w1;exact .mk (by simp) (by omega) (λt ht=>by simp only[br]at ht;subst ht;exact Ct.En N b _ (by omega) w2)
theorem t40 (h:bY pg){F:Nat}(hF:F<=100000){t:Ct}(hw:t.wf 0=true)(hs:t.size<=2 ^ 40) :
  UM pg (E pg) 40 [.ag (bP t.tm.aw),.p (.i .i64 F)] G=some (.ret (.dF [(Dk (dz F t)).nv,.p (.i .i64 (dz F t).2.1),.p (.i .i64 (dz F t).2.2)]),G):=by
 have hc:t.Cl:=⟨hw,by omega⟩
 have hmay:=np t.size t 0 (aB _) hw;have En:=Ct.En t.size t 0 (aB _) hw;have hd:t.tm.depth<=2 ^ 40:=by have:=Tm.oM t.tm;rw[Ct.iQ]at this;omega
 have e18:=λG=>t18 (G:=G) h En hd;rw[fW]at hmay;rw[hmay]at e18;obtain⟨cells,tl',hL⟩:=Pe h (body:=X5) rfl F (by omega) F 0 t (by omega) hw (by omega);rw[aG]at hL;obtain⟨tk,tn,tnm,tl,ht,-⟩:=t.iI;rw[ht]at e18 hL ⊢;simp only[Tm.aw,Tm.ba,bP,ai,au,fW]at e18 hL ⊢;have c1:¬ (F:Int)<0:=by omega
 have c2:¬ (100000:Int)<(F:Int):=by omega
 have c2':¬ 100000<F:=by omega
 refine Ut ?_ rfl ?_
 ·rw[h.run (x:=MA)];unfold Dk;by_cases he:(dz F t).2.2=0
  ·rw[ah he]at hL ⊢;obtain⟨rk,rn,rnm,rl,hr,-⟩:=(dz F t).1.iI;rw[hr]at hL ⊢;simp only[Tm.aw,Tm.ba,bP,ai,au,Tm.eS]at hL ⊢;simp[MA,aj,e18,c1,c2,c2',gc,exp,aQ,UG,hL]
  ·rw[aa he]at hL ⊢;simp[MA,aj,e18,c1,c2,c2',gc,exp,aQ,UG,hL,kQ,Tm.eS]
 ·simp only[Out.bf,bf,cH,Tm.nv,bE 0 (eZ _)];rfl
end
end Go.Proofs.Z
