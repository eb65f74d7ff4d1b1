/- A part of the proof. -/
import Derived.Test.YtffohgbmjjbhiaaGreatB23
set_option linter.all false
namespace Go.Proofs.Z
section
variable {pg:fX}{G:Heap}
theorem Ct.Cl.app {f a:Ct}(h:(Ct.app f a).Cl):f.Cl/\a.Cl:=by
 have hw:=h.wf;simp only[Ct.wf,ab]at hw;have hs:=h.sz;simp only[Ct.size]at hs;exact⟨⟨hw.1,by omega⟩,hw.2,by omega⟩
theorem Ct.Cl.op {s:List UInt8}{f a:Ct}(h:(Ct.op s f a).Cl):f.Cl/\a.Cl:=by
 have hw:=h.wf;simp only[Ct.wf,ab]at hw;have hs:=h.sz;simp only[Ct.size]at hs;exact⟨⟨hw.1.2,by omega⟩,hw.2,by omega⟩
theorem Ct.Cl.case {f:Ct}{l:List Ct}(h:(Ct.case f l).Cl):f.Cl/\l.length<=8:=by
 have hw:=h.wf;simp only[Ct.wf,ab,Uq]at hw;have hs:=h.sz;simp only[Ct.size]at hs;exact⟨⟨hw.1.1.1,by omega⟩,hw.1.1.2.2⟩
theorem Kq (h:bY pg){k n:Int}{s:List UInt8}{l:List Tm}{c:Ct}{r:List Tm}(hl:l=c.tm::r)(hk:k=3\/k=5\/k=8)(hv:c.val=false)(hlen:l.length<=60)
  (e:∀G,UM pg (E pg) 55 [.ag (bP c.tm.aw)] G=some (.ret (.dF [c.step.1.tm.nv,.p (.i .i64 c.step.2)]),G)) :
  UM pg (E pg) 55 [.ag (bP (Tm.mk k n s l).aw)] G=some (.ret (.dF [if c.step.2=0 then (Tm.mk k n s l).nv else (Tm.mk k n s (l.set 0 c.step.1.tm)).nv,.p (.i .i64 c.step.2)]),G):=by
 have e76:=λG=>t76 (G:=G) h (k:=k) (n:=n) (s:=s) (l:=l) (i:=0) (c:=c.tm) (x:=c.step.1.tm) (w:=c.step.2) (by rw[hl];rfl) hlen e;have e75:=λG=>Cp (G:=G) h c;rw[hv]at e75;have hbl:Out.bf 0 (.ret (.dF [if c.step.2=0 then (Tm.mk k n s l).nv else (Tm.mk k n s (l.set 0 c.step.1.tm)).nv,.p (.i .i64 c.step.2)]))=true:=by
  simp only[Out.bf,bf,cH];split<;>simp only[Tm.nv,bf,bE 0 (eZ _)]<;>rfl
 have hcell:∃a1 a2 a3 a4,(if c.step.2=0 then (Tm.mk k n s l).nv else (Tm.mk k n s (l.set 0 c.step.1.tm)).nv)=.ag [.p a1,.p a2,.p a3,.p a4]/\a1.flat=true/\a2.flat=true/\a3.flat=true/\a4.flat=true:=by
  split<;>simp only[Tm.eS]<;>exact⟨_,_,_,_,rfl,rfl,rfl,rfl,rfl⟩
 have ok1:=Tm.aS c.tm;have e4:=Tm.ku c.tm;have e4':=Tm.pS c.tm;obtain⟨ck,cn,cnm,cl,hc,-⟩:=c.iI;generalize (if c.step.2=0 then (Tm.mk k n s l).nv else (Tm.mk k n s (l.set 0 c.step.1.tm)).nv)=R at *;obtain⟨a1,a2,a3,a4,rfl,f1,f2,f3,f4⟩:=hcell;generalize c.step.2=w at *;subst hl;clear e hlen;rw[hc]at e75 ok1 e4 e4' ⊢;simp only[hc]at e76;simp only[Tm.aw,Tm.df,Tm.ba,bP,ai,au,fW]at e76 e75 ok1 e4 ⊢;unfold PV.flat at f1 f2 f3 f4;have okc:aS 4 [iv ck,iv cn,.s cnm,.sl (cl.map Tm.aw)]=true:=rfl;refine Ut ?_ rfl hbl;rw[h.run (x:=yD)];rcases hk with rfl|rfl|rfl<;>simp[yD,aj,okc,e75,e76,f1,f2,f3,f4]
theorem OG (h:bY pg){v:Int}{s:List UInt8}{c:Ct}(hv:c.val=false)
  (e:∀G,UM pg (E pg) 55 [.ag (bP c.tm.aw)] G=some (.ret (.dF [c.step.1.tm.nv,.p (.i .i64 c.step.2)]),G)) :
  UM pg (E pg) 55 [.ag (bP (Ct.op s (.int v) c).tm.aw)] G=some (.ret (.dF [if c.step.2=0 then (Ct.op s (.int v) c).tm.nv else (Ct.op s (.int v) c.step.1).tm.nv,.p (.i .i64 c.step.2)]),G):=by
 have e76:=λG=>t76 (G:=G) h (k:=8) (n:=0) (s:=s) (l:=[(Ct.int v).tm,c.tm]) (i:=1) (c:=c.tm) (x:=c.step.1.tm) (w:=c.step.2) rfl (by simp) e;have e75:=λG=>Cp (G:=G) h c;have e75i:=λG=>Cp (G:=G) h (.int v);rw[hv]at e75;have hbl:Out.bf 0 (.ret (.dF [if c.step.2=0 then (Tm.mk 8 0 s [(Ct.int v).tm,c.tm]).nv else (Tm.mk 8 0 s ([(Ct.int v).tm,c.tm].set 1 c.step.1.tm)).nv,.p (.i .i64 c.step.2)]))=true:=by
  simp only[Out.bf,bf,cH];split<;>simp only[Tm.nv,bf,bE 0 (eZ _)]<;>rfl
 have hcell:∃a1 a2 a3 a4,(if c.step.2=0 then (Tm.mk 8 0 s [(Ct.int v).tm,c.tm]).nv else (Tm.mk 8 0 s ([(Ct.int v).tm,c.tm].set 1 c.step.1.tm)).nv)=.ag [.p a1,.p a2,.p a3,.p a4]/\a1.flat=true/\a2.flat=true/\a3.flat=true/\a4.flat=true:=by
  split<;>simp only[Tm.eS]<;>exact⟨_,_,_,_,rfl,rfl,rfl,rfl,rfl⟩
 have ok1:=Tm.aS c.tm;have e4:=Tm.ku c.tm;have e4':=Tm.pS c.tm;obtain⟨ck,cn,cnm,cl,hc,-⟩:=c.iI
 show UM pg (E pg) 55 [.ag (bP (Ct.op s (.int v) c).tm.aw)] G=some (.ret (.dF [if c.step.2=0 then (Tm.mk 8 0 s [(Ct.int v).tm,c.tm]).nv else (Tm.mk 8 0 s ([(Ct.int v).tm,c.tm].set 1 c.step.1.tm)).nv,.p (.i .i64 c.step.2)]),G)
 generalize (if c.step.2=0 then (Tm.mk 8 0 s [(Ct.int v).tm,c.tm]).nv else (Tm.mk 8 0 s ([(Ct.int v).tm,c.tm].set 1 c.step.1.tm)).nv)=R at *;obtain⟨a1,a2,a3,a4,rfl,f1,f2,f3,f4⟩:=hcell;generalize c.step.2=w at *;clear e;simp only[Ct.tm,hc]at e76 e75 e75i ok1 e4 e4' ⊢;simp only[Tm.aw,Tm.df,Tm.ba,bP,ai,au,WW,Ct.val]at e76 e75 e75i ok1 e4 ⊢;unfold PV.flat at f1 f2 f3 f4;have okc:aS 4 [iv ck,iv cn,.s cnm,.sl (cl.map Tm.aw)]=true:=rfl;have oki:aS 4 [iv 7,iv v,.s [],.sl []]=true:=rfl;refine Ut ?_ rfl hbl;rw[h.run (x:=yD)];simp[yD,aj,okc,oki,e75,e75i,e76,f1,f2,f3,f4]
theorem t55 (h:bY pg):∀(N:Nat) (c:Ct),c.size<=N->c.Cl->∀(G:Heap),UM pg (E pg) 55 [.ag (bP c.tm.aw)] G=some (.ret (.dF [c.step.1.tm.nv,.p (.i .i64 c.step.2)]),G)
 |0,c,hs,hc,G=>by have:=size_pos c;omega
 |N+1,c,hs,hc,G=>by
  have Qh:=λG=>t79 (G:=G) h;simp only[Tm.aw,Tm.df,bP,ai,au]at Qh;have vals:∀(k n:Int) (s:List UInt8) (l:List Tm),k≠3->k≠5->k≠8->UM pg (E pg) 55 [.ag (bP (Tm.mk k n s l).aw)] G=some (.ret (.dF [(Tm.mk k n s l).nv,.p (.i .i64 0)]),G):=by
   intro k n s l h3 h5 h8;simp only[Tm.aw,Tm.ba,bP,ai,au,Tm.eS];refine Ut ?_ rfl rfl;rw[h.run (x:=yD)];simp[yD,aj,h3,h5,h8]
  cases c with
  |var i=>have:=hc.wf;simp[Ct.wf]at this
  |alt s n b=>have:=hc.wf;simp[Ct.wf]at this
  |lam b=>exact vals _ _ _ _ (by omega) (by omega) (by omega)
  |UW s l=>exact vals _ _ _ _ (by omega) (by omega) (by omega)
  |int v=>exact vals _ _ _ _ (by omega) (by omega) (by omega)
  |fail=>exact vals _ _ _ _ (by omega) (by omega) (by omega)
  |app f a =>
   obtain⟨hf,ha⟩:=hc.app;simp only[Ct.size]at hs;cases hv:f.val with
   |false =>
    have e:=Kq (G:=G) h (k:=3) (n:=0) (s:=[]) (l:=[f.tm,a.tm]) (c:=f) (r:=[a.tm]) rfl (.inl rfl) hv (by simp) (λG=>t55 h N f (by omega) hf G);simp only[Ct.step,hv,aZ,if_false];by_cases hw:f.step.2=0
    ·rw[ah hw]at e ⊢;rw[hw]at e;exact e
    ·rw[aa hw]at e ⊢;exact e
   |true =>
    have e75:=λG=>Cp (G:=G) h f;rw[hv]at e75;have oa:=Tm.aS a.tm;have e4:=Tm.ku a.tm;have e4':=Tm.pS a.tm;simp only[Ct.step,hv,if_true];have other:∀(k n:Int) (s:List UInt8) (l:List Tm),f.tm=.mk k n s l->k≠2->UM pg (E pg) 55 [.ag (bP (Ct.app f a).tm.aw)] G=some (.ret (.dF [Ct.fail.tm.nv,.p (.i .i64 4)]),G):=by
     intro k n s l hx hk;simp only[Ct.tm,hx,Tm.aw,Tm.df,Tm.ba,bP,ai,au,Tm.eS]at e75 ⊢;refine Ut ?_ rfl rfl;rw[h.run (x:=yD)];simp[yD,aj,aS,PV.flat,e75,hk,Qh]
    cases f with
    |lam b =>
     have hb:b.wf 1=true:=by have:=hf.wf;simpa [Ct.wf] using this
     have hbs:=hf.sz;simp only[Ct.size]at hbs;have hbc:=Ct.jJ b.size b 1 (aB _) hb;have e78:=λG=>t78 (G:=G) h (u:=a.tm) (t:=b.tm) ha.jJ (by have:=ha.dep;omega) hbc (by
      have h1:=Tm.oM b.tm;rw[Ct.iQ]at h1;omega)
     have e2:(Ct.sub [a] 0 b).tm=b.tm.subst [a.tm] 0:=Ct.WT [a] b 0;rw[<- e2]at e78;dsimp only;have ob:=Tm.aS b.tm;have b4:=Tm.ku b.tm;simp only[Ct.tm]at e75 ⊢;generalize (Ct.sub [a] 0 b).tm=r at *;generalize a.tm=nU at *;generalize b.tm=bt at *;obtain⟨rk,rn,rnm,rl⟩:=r;obtain⟨ak,an,anm,al⟩:=nU;obtain⟨bk,bn,bnm,bl⟩:=bt;simp only[Ct.tm,Tm.aw,Tm.df,Tm.ba,bP,ai,au,Tm.eS]at e75 e78 ⊢;refine Ut ?_ rfl rfl;rw[h.run (x:=yD)];simp[yD,aj,aS,PV.flat,e75,e78]
    |UW s l=>exact other _ _ _ _ rfl (by omega)
    |int v=>exact other _ _ _ _ rfl (by omega)
    |fail=>exact other _ _ _ _ rfl (by omega)
    |_=>simp[Ct.val]at hv
  |case x l =>
   obtain⟨hf,hl⟩:=hc.case;simp only[Ct.size]at hs;cases hv:x.val with
   |false =>
    have e:=Kq (G:=G) h (k:=5) (n:=0) (s:=[]) (l:=x.tm::Ct.gp l) (c:=x) (r:=Ct.gp l) rfl (.inr (.inl rfl)) hv (by rw[Ct.cM];simp;omega) (λG=>t55 h N x (by omega) hf G);simp only[Ct.step,hv,aZ,if_false];by_cases hw:x.step.2=0
    ·rw[ah hw]at e ⊢;rw[hw]at e;exact e
    ·rw[aa hw]at e ⊢;exact e
   |true =>
    have e75:=λG=>Cp (G:=G) h x;rw[hv]at e75;have e77:=λG=>t77 (G:=G) h hc hv;simp only[Ct.step,hv,if_true];obtain⟨xk,xn,xnm,xl,hx,-⟩:=x.iI;generalize (x.pick l).2=w at *;generalize (x.pick l).1.tm=r at *;obtain⟨rk,rn,rnm,rl⟩:=r;simp only[Ct.tm,hx,Tm.aw,Tm.df,Tm.ba,bP,ai,au,Tm.eS]at e75 e77 ⊢;refine Ut ?_ rfl rfl;rw[h.run (x:=yD)];simp[yD,aj,aS,PV.flat,e75,e77]
  |op s a b =>
   obtain⟨hf,hb⟩:=hc.op;simp only[Ct.size]at hs;cases hv:a.val with
   |false =>
    have e:=Kq (G:=G) h (k:=8) (n:=0) (s:=s) (l:=[a.tm,b.tm]) (c:=a) (r:=[b.tm]) rfl (.inr (.inr rfl)) hv (by simp) (λG=>t55 h N a (by omega) hf G);simp only[Ct.step,hv,aZ,if_false];by_cases hw:a.step.2=0
    ·rw[ah hw]at e ⊢;rw[hw]at e;exact e
    ·rw[aa hw]at e ⊢;exact e
   |true =>
    have e75:=λG=>Cp (G:=G) h a;rw[hv]at e75;simp only[Ct.step,hv,if_true];have ob:=Tm.aS b.tm;have b4:=Tm.ku b.tm;have b4':=Tm.pS b.tm;have other:∀(k n:Int) (s':List UInt8) (l:List Tm),a.tm=.mk k n s' l->k≠7->UM pg (E pg) 55 [.ag (bP (Ct.op s a b).tm.aw)] G=some (.ret (.dF [Ct.fail.tm.nv,.p (.i .i64 4)]),G):=by
     intro k n s' l hx hk;obtain⟨bk,bn,bnm,bl,hbx,-⟩:=b.iI;simp only[Ct.tm,hx,hbx,Tm.aw,Tm.df,Tm.ba,bP,ai,au,Tm.eS]at e75 ⊢;refine Ut ?_ rfl rfl;rw[h.run (x:=yD)];simp[yD,aj,aS,PV.flat,e75,hk,Qh]
    cases a with
    |int v =>
     dsimp only;cases hvb:b.val with
     |false =>
      have e:=OG (G:=G) h (v:=v) (s:=s) hvb (λG=>t55 h N b (by omega) hb G);simp only[aZ,if_false];by_cases hw:b.step.2=0
      ·rw[ah hw]at e ⊢;rw[hw]at e;exact e
      ·rw[aa hw]at e ⊢;exact e
     |true =>
      have e75b:=λG=>Cp (G:=G) h b;rw[hvb]at e75b;simp only[if_true];have otherb:∀(k n:Int) (s':List UInt8) (l:List Tm),b.tm=.mk k n s' l->k≠7->UM pg (E pg) 55 [.ag (bP (Ct.op s (.int v) b).tm.aw)] G=some (.ret (.dF [Ct.fail.tm.nv,.p (.i .i64 4)]),G):=by
       intro k n s' l hx hk;simp only[Ct.tm,hx,Tm.aw,Tm.df,Tm.ba,bP,ai,au,Tm.eS]at e75 e75b ⊢;refine Ut ?_ rfl rfl;rw[h.run (x:=yD)];simp[yD,aj,aS,PV.flat,e75,e75b,hk,Qh]
      cases b with
      |int m =>
       dsimp only;have e80:=λG=>t80 (G:=G) h s v m;obtain⟨o1,o2⟩:=HT s v m;rw[o1,o2]at e80;generalize (ue s v m).1.tm=r at *;generalize (ue s v m).2=w at *;obtain⟨rk,rn,rnm,rl⟩:=r;simp only[Ct.tm,Tm.aw,Tm.df,Tm.ba,bP,ai,au,Tm.eS]at e75 e75b e80 ⊢;refine Ut ?_ rfl rfl;rw[h.run (x:=yD)];simp[yD,aj,aS,PV.flat,e75,e75b,e80]
      |lam x=>exact otherb _ _ _ _ rfl (by omega)
      |UW s' l=>exact otherb _ _ _ _ rfl (by omega)
      |fail=>exact otherb _ _ _ _ rfl (by omega)
      |_=>simp[Ct.val]at hvb
    |lam x=>exact other _ _ _ _ rfl (by omega)
    |UW s' l=>exact other _ _ _ _ rfl (by omega)
    |fail=>exact other _ _ _ _ rfl (by omega)
    |_=>simp[Ct.val]at hv
theorem HU (c:UInt8):mr c.toNat=2↔tV c=true:=by
 unfold mr tV;simp only[ab,Uq,gv];have h65:(65:UInt8).toNat=65:=rfl;have h90:(90:UInt8).toNat=90:=rfl;rw[h65,h90];split
 ·omega
 ·split
  ·omega
  ·split
   ·omega
   ·split<;>omega
theorem zf (c:UInt8):(1<=mr c.toNat/\mr c.toNat<=3)↔pQ c=true:=by
 unfold mr pQ tV;simp only[UP,ab,Uq,gv];have h65:(65:UInt8).toNat=65:=rfl;have h90:(90:UInt8).toNat=90:=rfl;have h97:(97:UInt8).toNat=97:=rfl;have h122:(122:UInt8).toNat=122:=rfl;have h48:(48:UInt8).toNat=48:=rfl;have h57:(57:UInt8).toNat=57:=rfl;rw[h65,h90,h97,h122,h48,h57];split
 ·omega
 ·split
  ·omega
  ·split
   ·omega
   ·split<;>omega
theorem Be:∀(s:List UInt8) (n:Nat) (b:Bool),(l_ s n b).1<=n+s.length/\((l_ s n b).1=n+s.length↔s.all pQ=true)/\n<=(l_ s n b).1
 |[],n,b=>by simp[l_]
 |c::r,n,b=>by
  unfold l_;by_cases h:1<=mr c.toNat/\mr c.toNat<=3
  ·rw[ah h];obtain⟨h1,h2,h3⟩:=Be r (n+1) (b || decide (mr c.toNat<3));have hc:=(zf c).1 h;simp only[av,dJ,hc,UX];refine⟨by omega,?_,by omega⟩;rw[<- h2];omega
  ·rw[aa h];have hc:pQ c=false:=by
    cases e:pQ c with
    |false=>rfl
    |true=>exact absurd ((zf c).2 e) h
   simp only[av,dJ,hc,VH];refine⟨by omega,?_,by omega⟩;constructor
   ·intro e;omega
   ·intro e;cases e
theorem mg (s:List UInt8):Yy s=qF s:=by
 cases s with
 |nil=>rfl
 |cons c r =>
  obtain⟨h1,h2,h3⟩:=Be (c::r) 0 false;simp only[aG,av]at h1 h2;have hone:za (c::r)=Gc c (c::r) (l_ (c::r) 0 false).1 (l_ (c::r) 0 false).2.1 (Iz (c::r)):=rfl;unfold Yy;rw[hone];generalize (l_ (c::r) 0 false).1=n at *;generalize (l_ (c::r) 0 false).2.1=b at *;generalize Iz (c::r)=k at *;have hT:((c::r).take n=c::r)↔n=r.length+1:=by
   constructor
   ·intro e;have:=congrArg List.length e;simp at this;omega
   ·intro e;rw[e];exact aF (by simp)
  have jH:=HU c;have haln:=zf c;unfold qF;by_cases hC:tV c=true
  ·have c2:=jH.2 hC;have hal:pQ c=true:=haln.1 (by omega);simp only[dJ,hal,UX]at h2;have hrw:wo ((c::r).take n)=false:=by
    by_cases hn:n=0
    ·subst hn;rfl
    ·have:(c::r).take n=c::r.take (n-1):=by
      cases n with
      |zero=>exact absurd rfl hn
      |succ n=>rfl
     rw[this];unfold wo;have hcc:c.toNat<=90:=by
      unfold tV at hC;simp only[ab,Uq,gv]at hC;exact hC.2
     have hne:∀d:UInt8,90<d.toNat->c≠d:=λd hd e=>by rw[e]at hcc;omega
     simp[hne 108 (by decide),hne 105 (by decide),hne 99 (by decide),hne 111 (by decide)]
   unfold Gc;rw[c2];by_cases hn0:n=0
   ·rw[ah hn0];have hall:r.all pQ=false:=by
     cases e:r.all pQ with
     |false=>rfl
     |true=>have:=h2.2 e;omega
    simp only[hC,hall,UX,Bool.and_false,VH];by_cases hk:k=0
    ·rw[ah hk];simp
    ·rw[aa hk];simp
   ·rw[aa hn0,aa (by omega)];by_cases h16:16<n
    ·rw[ah h16];have hl:decide (r.length<=15)=false:=by simp;omega
     simp[hl]
    ·rw[aa h16];have e1:((c::r).take n == [])=false:=by cases n with
      |zero=>exact absurd rfl hn0
      |succ n=>rfl
     simp only[hrw,aZ,if_false,hC,UX];by_cases hfull:n=r.length+1
     ·have:=h2.1 hfull;rw[hT.2 hfull,this];simp;omega
     ·have hall:r.all pQ=false:=by
       cases e:r.all pQ with
       |false=>rfl
       |true=>exact absurd (h2.2 e) hfull
      have:¬ (c::r).take n=c::r:=λe=>hfull (hT.1 e);simp[this,hall]
  ·have c2:¬ mr c.toNat=2:=λe=>hC (jH.1 e);have hcf:tV c=false:=by simpa using hC
   simp only[hcf,VH];unfold Gc;by_cases hn0:n=0
   ·rw[ah hn0];by_cases hk:k=0
    ·rw[ah hk];simp
    ·rw[aa hk];simp
   ·rw[aa hn0];by_cases h3':mr c.toNat=3
    ·rw[ah h3'];by_cases hb:b=true
     ·rw[ah hb];simp
     ·rw[aa hb];split<;>simp
    ·rw[aa h3'];by_cases h16:16<n
     ·rw[ah h16];simp
     ·rw[aa h16];dsimp only;by_cases hw:wo ((c::r).take n)=true
      ·rw[ah hw];simp
      ·rw[aa hw];have:¬ ((mr c.toNat:Nat):Int)=2:=by omega
       simp[this]
theorem wI (s:List UInt8):yb s=A3 s:=by
 unfold yb A3;by_cases a1:s=[43]<;>by_cases a2:s=[45]<;>by_cases a3:s=[42]<;>by_cases a4:s=[47]<;>by_cases a5:s=[60]<;>by_cases a6:s=[61,61]<;>simp[a1,a2,a3,a4,a5,a6]
theorem oN (all:List (List UInt8×Nat)):∀(l:List (List UInt8×Nat)) (i:Nat),eM all i l=true↔∀(j:Nat) (a:List UInt8×Nat),l[j]?=some a->a.1≠[]/\a.2<=8/\∀b,b∈all.take (i+j)->b.1≠a.1
 |[],i=>by simp[eM]
 |x::r,i=>by
  simp only[eM,ab,a_,Uq,decide_eq_false_iff_not,oN all r (i+1)];constructor
  ·rintro⟨⟨⟨h1,h2⟩,h3⟩,h4⟩ j a hj;cases j with
   |zero =>
    simp only[List.getElem?_cons_zero,bG]at hj;subst hj;refine⟨h1,h2,λb hb e=>?_⟩;have:=kg.1 h3 b hb;simp[e]at this
   |succ j =>
    simp only[List.getElem?_cons_succ]at hj;have:=h4 j a hj;rw[show i+1+j=i+(j+1) from by omega]at this;exact this
  ·intro h;obtain⟨h1,h2,h3⟩:=h 0 x rfl;refine⟨⟨⟨h1,h2⟩,kg.2 (λb hb=>?_)⟩,λj a hj=>?_⟩
   ·simpa using h3 b hb
   ·have:=h (j+1) a (by simpa using hj);rw[show i+(j+1)=i+1+j from by omega]at this;exact this
theorem pT (c5:Bool)(f:Int):∀(l pre:List Tm),Tm.mf c5 pre l f=true↔∀(j:Nat) (a:Tm),l[j]?=some a->a.may f (c5 && decide (0<pre.length+j))=true/\(c5=true->∀b,b∈(pre++l.take j).drop 1->b.name≠a.name)
 |[],pre=>by simp[Tm.mf]
 |x::r,pre=>by
  simp only[Tm.mf,ab,pB,pT c5 f r (pre++[x])];constructor
  ·rintro⟨⟨h1,h2⟩,h3⟩ j a hj;cases j with
   |zero =>
    simp only[List.getElem?_cons_zero,bG]at hj;subst hj;refine⟨by simpa using h1,λhc b hb=>?_⟩;rw[hc]at h2;simp only[V2,jU,bc,Uq]at h2;exact h2 b (by simpa using hb)
   |succ j =>
    simp only[List.getElem?_cons_succ]at hj;obtain⟨k1,k2⟩:=h3 j a hj;refine⟨?_,λhc b hb=>k2 hc b ?_⟩
    ·rw[show pre.length+(j+1)=(pre++[x]).length+j from by simp;omega];exact k1
    ·simpa using hb
  ·intro h;obtain⟨h1,h2⟩:=h 0 x rfl;refine⟨⟨by simpa using h1,?_⟩,λj a hj=>?_⟩
   ·cases hc:c5 with
    |false=>rfl
    |true =>
     simp only[V2,jU,bc,Uq];intro b hb;exact h2 hc b (by simpa using hb)
   ·obtain⟨k1,k2⟩:=h (j+1) a (by simpa using hj);refine⟨?_,λhc b hb=>k2 hc b ?_⟩
    ·rw[show pre.length+(j+1)=(pre++[x]).length+j from by simp;omega]at k1;exact k1
    ·simpa using hb
theorem np:∀(N:Nat) (t:Ct) (f:Nat),t.size<=N->t.wf f=true->t.tm.may f false=true
 |0,t,f,hs,hw=>by have:=size_pos t;omega
 |N+1,t,f,hs,hw=>by
  have hf:decide ((f:Int)<0)=false:=by simp
  have one:∀(c5:Bool) (fr:Int) (a:Tm),c5=false->a.may fr false=true->Tm.mf c5 [] [a] fr=true:=by
   intro c5 fr a h1 h2;subst h1;simp[Tm.mf,h2]
  have two:∀(fr:Int) (a b:Tm),a.may fr false=true->b.may fr false=true->Tm.mf false [] [a,b] fr=true:=by
   intro fr a b h1 h2;simp[Tm.mf,h1,h2]
  cases t with
  |var i =>
   simp only[Ct.wf,Uq]at hw;simp[Ct.tm,Tm.may,sG,Tm.mf];omega
  |int v=>simp[Ct.tm,Tm.may,sG,Tm.mf]
  |fail=>simp[Ct.tm,Tm.may,sG,Tm.mf]
  |alt s n b=>simp[Ct.wf]at hw
  |lam b =>
   simp only[Ct.wf]at hw;simp only[Ct.size]at hs;have:=np N b (f+1) (by omega) hw;rw[show((f+1:Nat):Int)=(f:Int)+1 from by omega]at this;simp[Ct.tm,Tm.may,sG,hf,one false _ _ rfl this]
  |app a b =>
   simp only[Ct.wf,ab]at hw;simp only[Ct.size]at hs;have h1:=np N a f (by omega) hw.1;have h2:=np N b f (by omega) hw.2;simp[Ct.tm,Tm.may,sG,hf,two _ _ _ h1 h2]
  |op s a b =>
   simp only[Ct.wf,ab]at hw;simp only[Ct.size]at hs;have h1:=np N a f (by omega) hw.1.2;have h2:=np N b f (by omega) hw.2;simp[Ct.tm,Tm.may,sG,hf,two _ _ _ h1 h2,wI,hw.1.1]
  |UW s l =>
   simp only[Ct.wf,ab,Uq]at hw;simp only[Ct.size]at hs;have hl:(Ct.gp l).length=l.length:=by rw[Ct.cM];simp
   have hm:Tm.mf false [] (Ct.gp l) f=true:=by
    rw[pT];intro j a hj;rw[Ct.cM,List.getElem?_map]at hj;obtain⟨c,h1,rfl⟩:=aP.1 hj;have hmem:=aE h1;refine⟨?_,λe=>by cases e⟩;simpa using np N c f (by have:=dm hmem;omega) (Vi hw.2 c hmem)
   simp[Ct.tm,Tm.may,sG,hf,hm,mg,hw.1.1,hl,hw.1.2]
  |case x l =>
   simp only[Ct.wf,ab,Uq]at hw;simp only[Ct.size]at hs;have hl:(Ct.gp l).length=l.length:=by rw[Ct.cM];simp
   have h1:=np N x f (by omega) hw.1.1.1;have hal:=(oN _ _ _).1 hw.1.2;have hm:Tm.mf true [] (x.tm::Ct.gp l) f=true:=by
    rw[pT];intro j a hj;cases j with
    |zero =>
     simp only[List.getElem?_cons_zero,bG]at hj;subst hj;exact⟨by simpa using h1,λ_ b hb=>by simp at hb⟩
    |succ j =>
     simp only[List.getElem?_cons_succ]at hj;rw[Ct.cM,List.getElem?_map]at hj;obtain⟨c,h2,rfl⟩:=aP.1 hj;have hmem:=aE h2;obtain⟨s,k,b,rfl,w1,w2⟩:=fV hw.2 c hmem;have hsz:=dm hmem;simp only[Ct.size]at hsz;have hb:=np N b (f+k) (by omega) w2;obtain⟨q1,q2,q3⟩:=hal j (s,k) (by rw[List.getElem?_map,h2];rfl);rw[show((f+k:Nat):Int)=(f:Int)+k from by omega]at hb;refine⟨?_,λ_ b' hb'=>?_⟩
     ·simp[Ct.tm,Tm.may,sG,hf,mg,w1,one false _ _ rfl hb];omega
     ·simp only[aL,jm,fG,bp]at hb';rw[Ct.cM,<- da]at hb';obtain⟨c',h3,rfl⟩:=bj.1 hb';obtain⟨s',k',b'',rfl,w1',w2'⟩:=fV hw.2 c' (U6 h3);have:=q3 (s',k') (by
       rw[aG,<- da];exact bj.2 ⟨_,h3,rfl⟩)
      exact this
   simp[Ct.tm,Tm.may,sG,hf,hm,hl];omega
theorem rC {P:Ct->Prop}:∀{l:List Tm},(∀t∈l,∃c:Ct,c.tm=t/\P c)->∃cl:List Ct,Ct.gp cl=l/\∀c∈cl,P c
 |[],_=>⟨[],rfl,by simp⟩
 |a::r,h=>by
  obtain⟨c,h1,h2⟩:=h a (by simp);obtain⟨cl,h3,h4⟩:=rC (P:=P) (l:=r) (λt ht=>h t (by simp[ht]));refine⟨c::cl,by simp[Ct.gp,h1,h3],λc' hc=>?_⟩;rcases aA.1 hc with rfl|hc
  ·exact h2
  ·exact h4 c' hc
theorem wJ {f:Nat}:∀{l:List Ct},(∀t∈l,t.wf f=true)->Ct.JW f l=true
 |[],_=>rfl
 |a::r,h=>by simp[Ct.JW,h a (by simp),wJ (l:=r) (λt ht=>h t (by simp[ht]))]
def Gw (f:Nat)(c:Ct):Prop:=∃s n b,c=.alt s n b/\qF s=true/\n<=8/\Ct.wf (f+n) b=true
theorem zg {f:Nat}:∀{l:List Ct},(∀t∈l,Gw f t)->Ct.El f l=true
 |[],_=>rfl
 |a::r,h=>by
  obtain⟨s,n,b,rfl,h1,h2,h3⟩:=h a (by simp);simp[Ct.El,h1,h3,zg (l:=r) (λt ht=>h t (by simp[ht]))]
theorem Kr:∀(t:Tm) (f:Nat),(t.may f false=true->∃c:Ct,c.tm=t/\c.wf f=true)/\(t.may f true=true->∃c:Ct,c.tm=t/\Gw f c):=by
 refine Tm.ind λk n s l ih f=>?_;have hsplit:∀alt,(Tm.mk k n s l).may f alt=true->sG k n s l.length f alt=true/\Tm.mf (decide (k=5)) [] l (if k=2 then (f:Int)+1 else if k=6 then (f:Int)+n else f)=true:=by
  intro alt h;simp only[Tm.may,ab]at h;exact⟨h.1.2,h.2⟩
 have plain:∀(fr:Nat) (alt:Bool),Tm.mf false [] l fr=true->∀t∈l,∃c:Ct,c.tm=t/\c.wf fr=true:=by
  intro fr alt h t ht;obtain⟨j,hj⟩:=List.getElem?_of_mem ht;have:=((pT _ _ _ _).1 h j t hj).1;simp only[VH]at this;exact(ih t ht fr).1 this
 constructor
 ·intro h;obtain⟨h1,h2⟩:=hsplit false h;unfold sG at h1;rw[aa (by simp)]at h1;by_cases k1:k=1
  ·subst k1;simp only[if_true,ab,Uq]at h1;obtain⟨⟨⟨rfl,h3⟩,h4⟩,h5⟩:=h1;have:l=[]:=aW (by omega);subst this;refine⟨.var n.toNat,by simp only[Ct.tm];rw[Vv h4],by simp only[Ct.wf,Uq];omega⟩
  rw[aa k1]at h1;by_cases k2:k=2
  ·subst k2;simp only[if_true,ab,Uq]at h1;obtain⟨⟨rfl,rfl⟩,h4⟩:=h1;obtain⟨cl,e1,e2⟩:=rC (plain (f+1) false (by
    rw[ah rfl]at h2;rw[show((f+1:Nat):Int)=(f:Int)+1 from by omega];exact h2))
   subst e1;cases cl with
   |nil=>simp[Ct.gp]at h4
   |cons b r =>
    have:r=[]:=by
     rw[Ct.cM]at h4;exact aW (by simpa using h4)
    subst this;exact⟨.lam b,rfl,e2 b (by simp)⟩
  rw[aa k2]at h1;rw[aa k2]at h2;by_cases k3:k=3
  ·subst k3;simp only[if_true,ab,Uq]at h1;obtain⟨⟨rfl,rfl⟩,h4⟩:=h1;obtain⟨cl,e1,e2⟩:=rC (plain f false (by rw[aa (by omega)]at h2;exact h2));subst e1
   match cl,h4 with
   |[a,b],_=>exact⟨.app a b,rfl,by simp[Ct.wf,e2 a,e2 b]⟩
   |[],h4=>simp[Ct.gp]at h4
   |[_],h4=>simp[Ct.gp]at h4
   |_::_::_::_,h4=>rw[Ct.cM]at h4;simp at h4
  rw[aa k3]at h1;by_cases k4:k=4
  ·subst k4;simp only[if_true,ab,Uq]at h1;obtain⟨⟨h3,rfl⟩,h4⟩:=h1;obtain⟨cl,e1,e2⟩:=rC (plain f false (by rw[aa (by omega)]at h2;exact h2));subst e1;rw[Ct.cM,cU]at h4;exact⟨.UW s cl,rfl,by simp[Ct.wf,<- mg,h3,h4,wJ e2]⟩
  rw[aa k4]at h1;by_cases k5:k=5
  ·subst k5;simp only[if_true,ab,Uq]at h1;obtain⟨⟨⟨rfl,rfl⟩,h4⟩,h5⟩:=h1;rw[aa (by omega)]at h2;have h6:=(pT _ _ _ _).1 h2;cases l with
   |nil=>simp at h4
   |cons x r =>
    obtain⟨cx,x1,x2⟩:=(ih x (by simp) f).1 (by
     have:=(h6 0 x rfl).1;simpa using this)
    obtain⟨cl,e1,e2⟩:=rC (P:=Gw f) (l:=r) (λt ht=>by
     obtain⟨j,hj⟩:=List.getElem?_of_mem ht;have:=(h6 (j+1) t (by simpa using hj)).1;exact(ih t (by simp[ht]) f).2 (by simpa using this))
    subst x1 e1;simp only[av]at h4 h5;have hl:(Ct.gp cl).length=cl.length:=by rw[Ct.cM];simp
    refine⟨.case cx cl,rfl,?_⟩;simp only[Ct.wf,ab,Uq];refine⟨⟨⟨x2,by omega,by omega⟩,(oN _ _ _).2 (λj a hj=>?_)⟩,zg e2⟩;rw[List.getElem?_map]at hj;obtain⟨c,h7,rfl⟩:=aP.1 hj;obtain⟨s,n,b,rfl,w1,w2,w3⟩:=e2 c (aE h7);refine⟨XM w1,w2,λb' hb'=>?_⟩;rw[aG,<- da]at hb';obtain⟨c',h8,rfl⟩:=bj.1 hb';obtain⟨s',n',b'',rfl,w1',w2',w3'⟩:=e2 c' (U6 h8);have:=(h6 (j+1) (Ct.alt s n b).tm (by
     simp only[List.getElem?_cons_succ];rw[Ct.cM,List.getElem?_map,h7];rfl)).2 (by decide) (Ct.alt s' n' b'').tm (by
     simp only[aL,jm,fG,bp];rw[Ct.cM,<- da];exact bj.2 ⟨_,h8,rfl⟩)
    exact this
  rw[aa k5]at h1;by_cases k7:k=7
  ·subst k7;simp only[if_true,ab,Uq]at h1;obtain⟨rfl,h3⟩:=h1;have:l=[]:=aW (by omega);subst this;exact⟨.int n,rfl,rfl⟩
  rw[aa k7]at h1;by_cases k8:k=8
  ·subst k8;simp only[if_true,ab,Uq]at h1;obtain⟨⟨h3,rfl⟩,h4⟩:=h1;obtain⟨cl,e1,e2⟩:=rC (plain f false (by rw[aa (by omega)]at h2;exact h2));subst e1
   match cl,h4 with
   |[a,b],_=>exact⟨.op s a b,rfl,by simp[Ct.wf,e2 a,e2 b,<- wI,h3]⟩
   |[],h4=>simp[Ct.gp]at h4
   |[_],h4=>simp[Ct.gp]at h4
   |_::_::_::_,h4=>rw[Ct.cM]at h4;simp at h4
  rw[aa k8]at h1;by_cases k9:k=9
  ·subst k9;simp only[if_true,ab,Uq]at h1;obtain⟨⟨rfl,rfl⟩,h3⟩:=h1;have:l=[]:=aW (by omega);subst this;exact⟨.fail,rfl,rfl⟩
  ·rw[aa k9]at h1;cases h1
 ·intro h;obtain⟨h1,h2⟩:=hsplit true h;unfold sG at h1;rw[ah rfl]at h1;simp only[ab,Uq]at h1;obtain⟨⟨⟨⟨rfl,h3⟩,h4⟩,h5⟩,h6⟩:=h1;rw[aa (by omega),ah rfl]at h2;obtain⟨cl,e1,e2⟩:=rC (plain (f+n.toNat) false (by
   rw[show((f+n.toNat:Nat):Int)=(f:Int)+n from by omega];exact h2))
  subst e1;cases cl with
  |nil=>simp[Ct.gp]at h6
  |cons b r =>
   have:r=[]:=by
    rw[Ct.cM]at h6;exact aW (by simpa using h6)
   subst this;refine⟨.alt s n.toNat b,?_,s,n.toNat,b,rfl,by rw[<- mg];exact h3,by omega,e2 b (by simp)⟩;simp only[Ct.tm,Ct.gp];rw[Vv h4]
theorem j9:∀(N:Nat) (t:Ct) (f g:Nat),t.size<=N->f<=g->t.wf f=true->t.wf g=true
 |0,t,f,g,hs,hg,hw=>by have:=size_pos t;omega
 |N+1,t,f,g,hs,hg,hw=>by
  cases t with
  |var i=>simp only[Ct.wf,Uq]at hw ⊢;omega
  |int v=>rfl
  |fail=>rfl
  |alt s n b=>simp[Ct.wf]at hw
  |lam b =>
   simp only[Ct.wf]at hw ⊢;simp only[Ct.size]at hs;exact j9 N b _ _ (by omega) (by omega) hw
  |app a b =>
   simp only[Ct.wf,ab]at hw ⊢;simp only[Ct.size]at hs;exact⟨j9 N a _ _ (by omega) hg hw.1,j9 N b _ _ (by omega) hg hw.2⟩
  |op s a b =>
   simp only[Ct.wf,ab]at hw ⊢;simp only[Ct.size]at hs;exact⟨⟨hw.1.1,j9 N a _ _ (by omega) hg hw.1.2⟩,j9 N b _ _ (by omega) hg hw.2⟩
  |UW s l =>
   simp only[Ct.wf,ab]at hw ⊢;simp only[Ct.size]at hs;exact⟨hw.1,wJ (λt ht=>j9 N t _ _ (by have:=dm ht;omega) hg (Vi hw.2 t ht))⟩
  |case x l =>
   simp only[Ct.wf,ab]at hw ⊢;simp only[Ct.size]at hs;refine⟨⟨⟨j9 N x _ _ (by omega) hg hw.1.1.1,hw.1.1.2⟩,hw.1.2⟩,zg (λt ht=>?_)⟩;obtain⟨s,n,b,rfl,w1,w2⟩:=fV hw.2 t ht;have hsz:=dm ht;simp only[Ct.size]at hsz;exact⟨s,n,b,rfl,w1,h_ hw.1.2 (s,n) (bj.2 ⟨_,ht,rfl⟩),j9 N b _ _ (by omega) (by omega) w2⟩
theorem Eh (us:List Ct)(b:Nat){f:Nat}{l:List Ct}(h:Ct.El f l=true):(Ct.Bc us b l).map fQ=l.map fQ:=by
 rw[Ct.Vh,UJ];refine cL λt ht=>?_;obtain⟨s,n,b,rfl,_,_⟩:=fV h t ht;rfl
theorem yj (us:List Ct)(hu:∀u∈us,u.wf 0=true):∀(N:Nat) (t:Ct) (b:Nat),t.size<=N->t.wf (b+us.length)=true->(t.sub us b).wf b=true
 |0,t,b,hs,hw=>by have:=size_pos t;omega
 |N+1,t,b,hs,hw=>by
  cases t with
  |var i =>
   simp only[Ct.wf,Uq]at hw;simp only[Ct.sub];by_cases c:i<b
   ·rw[ah c];simpa [Ct.wf] using c
   ·rw[aa c];have hi:i-b<us.length:=by omega
    rw[List.getD_eq_getElem?_getD,gG hi];exact j9 _ _ 0 b (aB _) (by omega) (hu _ (bM hi))
  |int v=>rfl
  |fail=>rfl
  |alt s n b=>simp[Ct.wf]at hw
  |lam x =>
   simp only[Ct.wf,Ct.sub]at hw ⊢;simp only[Ct.size]at hs;exact yj us hu N x (b+1) (by omega) (by rw[show b+1+us.length=b+us.length+1 from by omega];exact hw)
  |app x y =>
   simp only[Ct.wf,Ct.sub,ab]at hw ⊢;simp only[Ct.size]at hs;exact⟨yj us hu N x b (by omega) hw.1,yj us hu N y b (by omega) hw.2⟩
  |op s x y =>
   simp only[Ct.wf,Ct.sub,ab]at hw ⊢;simp only[Ct.size]at hs;exact⟨⟨hw.1.1,yj us hu N x b (by omega) hw.1.2⟩,yj us hu N y b (by omega) hw.2⟩
  |UW s l =>
   simp only[Ct.wf,Ct.sub,ab,Ct.Vh,cU]at hw ⊢;simp only[Ct.size]at hs;refine⟨hw.1,wJ (λt ht=>?_)⟩;obtain⟨t',h1,rfl⟩:=bj.1 ht;exact yj us hu N t' b (by have:=dm h1;omega) (Vi hw.2 t' h1)
  |case x l =>
   simp only[Ct.wf,ab]at hw;simp only[Ct.size]at hs;have ha:=Eh us b hw.2;simp only[Ct.sub,Ct.wf,ha,ab];refine⟨⟨⟨yj us hu N x b (by omega) hw.1.1.1,by rw[Ct.Vh,cU];exact hw.1.1.2⟩,hw.1.2⟩,zg (λt ht=>?_)⟩;rw[Ct.Vh]at ht;obtain⟨t',h1,rfl⟩:=bj.1 ht;obtain⟨s,n,y,rfl,w1,w2⟩:=fV hw.2 t' h1;have hsz:=dm h1;simp only[Ct.size]at hsz;exact⟨s,n,_,rfl,w1,h_ hw.1.2 (s,n) (bj.2 ⟨_,h1,rfl⟩),yj us hu N y (b+n) (by omega) (by rw[show b+n+us.length=b+us.length+n from by omega];exact w2)⟩
theorem Dj (s:List UInt8)(a b:Int):(ue s a b).1.wf 0=true/\(ue s a b).1.size=1:=by
 unfold ue
 repeat' split
 all_goals exact⟨by first|rfl|decide,rfl⟩
theorem rE {l:List Ct}{s:List UInt8}{n k:Nat}(h:qI l s n=some k):∃a,l[k]?=some a/\fQ a=(s,n):=by
 unfold qI at h;obtain⟨h1,h2,_⟩:=List.findIdx?_eq_some_iff_getElem.1 h;exact⟨l[k],gG h1,by simpa using h2⟩
theorem oQ:∀(t:Ct),t.wf 0=true->t.step.1.wf 0=true
 |.var i,h=>h
 |.int v,h=>h
 |.fail,h=>h
 |.lam b,h=>h
 |.UW s l,h=>h
 |.alt s n b,h=>h
 |.app f a,h=>by
  have hw:=h;simp only[Ct.wf,ab]at hw;simp only[Ct.step];split
  ·split
   ·rename_i b _;have hb:b.wf 1=true:=by simpa [Ct.wf] using hw.1
    exact yj [a] (by simpa using hw.2) b.size b 0 (aB _) hb
   ·rfl
  ·split
   ·exact h
   ·simp[Ct.wf,oQ f hw.1,hw.2]
 |.case x l,h=>by
  have hw:=h;simp only[Ct.wf,ab]at hw;simp only[Ct.step];split
  ·unfold Ct.pick;split
   ·rename_i s ls _;have hx:=hw.1.1.1;simp only[Ct.wf,ab]at hx;split
    ·rename_i k hk;obtain⟨a,h1,h2⟩:=rE hk;obtain⟨s',n,b,rfl,w1,w2⟩:=fV hw.2 a (aE h1);simp only[fQ,eK]at h2;obtain⟨rfl,rfl⟩:=h2;rw[List.getD_eq_getElem?_getD,h1];exact yj ls.reverse (λu hu=>Vi hx.2 u (ik.1 hu)) b.size b 0 (aB _) (by rw[jn];exact w2)
    ·rfl
   ·rfl
  ·split
   ·exact h
   ·simp only[Ct.wf,ab];exact⟨⟨⟨oQ x hw.1.1.1,hw.1.1.2⟩,hw.1.2⟩,hw.2⟩
 |.op s a b,h=>by
  have hw:=h;simp only[Ct.wf,ab]at hw;simp only[Ct.step];split
  ·split
   ·split
    ·split
     ·exact(Dj _ _ _).1
     ·rfl
    ·split
     ·exact h
     ·simp only[Ct.wf,ab];exact⟨⟨hw.1.1,by first|rfl|trivial⟩,oQ b hw.2⟩
   ·rfl
  ·split
   ·exact h
   ·simp only[Ct.wf,ab];exact⟨⟨hw.1.1,oQ a hw.1.2⟩,hw.2⟩
theorem XS {f:Ct->Ct}{S:Nat}:∀{l:List Ct},(∀t∈l,(f t).size<=t.size * S)->Ct.dt (l.map f)<=Ct.dt l * S
 |[],_=>by simp[Ct.dt]
 |a::r,h=>by
  have h1:=h a (by simp);have h2:=XS (l:=r) (λt ht=>h t (by simp[ht]));simp only[ai,Ct.dt,cW];omega
theorem kv (us:List Ct){S:Nat}(h1:1<=S)(hu:∀u∈us,u.size<=S):∀(N:Nat) (t:Ct) (b:Nat),t.size<=N->(t.sub us b).size<=t.size * S
 |0,t,b,hs=>by have:=size_pos t;omega
 |N+1,t,b,hs=>by
  cases t with
  |var i =>
   simp only[Ct.sub,Ct.size,Nat.one_mul];split
   ·simpa [Ct.size] using h1
   ·rw[List.getD_eq_getElem?_getD];cases hg:us[i-b]? with
    |none=>simpa [Ct.size] using h1
    |some u=>exact hu u (aE hg)
  |int v=>simpa [Ct.sub,Ct.size] using h1
  |fail=>simpa [Ct.sub,Ct.size] using h1
  |alt s n x|lam x =>
   simp only[Ct.size]at hs;have:=kv us h1 hu N x;simp only[Ct.sub,Ct.size,cW]
   first|(have:=this (b+n) (by omega);omega)|(have:=this (b+1) (by omega);omega)
  |app x y|op s x y =>
   simp only[Ct.size]at hs;have e1:=kv us h1 hu N x b (by omega);have e2:=kv us h1 hu N y b (by omega);simp only[Ct.sub,Ct.size,cW];omega
  |UW s l =>
   simp only[Ct.size]at hs;have:=XS (f:=Ct.sub us b) (S:=S) (l:=l) (λt ht=>kv us h1 hu N t b (by have:=dm ht;omega));simp only[Ct.sub,Ct.size,Ct.Vh,cW];omega
  |case x l =>
   simp only[Ct.size]at hs;have e1:=kv us h1 hu N x b (by omega);have:=XS (f:=Ct.sub us b) (S:=S) (l:=l) (λt ht=>kv us h1 hu N t b (by have:=dm ht;omega));simp only[Ct.sub,Ct.size,Ct.Vh,cW];omega
theorem yf {a b c:Nat}(h1:a<=c)(h2:b<=c):a * b<=c * c:=jo h1 h2
theorem zh {a x c:Nat}(h:a+x<=c)(ha:1<=a):a * a+x<=c * c:=by
 have h1:a * a+x<=(a+x) * (a+x):=by
  have:(a+x) * (a+x)=a * a+(a * x+x * a+x * x):=by rw[cW,o7,o7];omega
  have h2:x<=a * x:=by
   have:=bh x ha;omega
  omega
 exact cm h1 (jo h h)
theorem nT:∀(t:Ct),t.step.1.size<=t.size * t.size
 |.var i=>by simp[Ct.step,Ct.size]
 |.int v=>by simp[Ct.step,Ct.size]
 |.fail=>by simp[Ct.step,Ct.size]
 |.lam b=>by simp only[Ct.step];exact eY _
 |.UW s l=>by simp only[Ct.step];exact eY _
 |.alt s n b=>by simp only[Ct.step];exact eY _
 |.app f a=>by
  have hp:=size_pos a;have hf:=size_pos f;have hself:=eY (Ct.app f a).size;have one:1<=(Ct.app f a).size * (Ct.app f a).size:=by have:=size_pos (Ct.app f a);omega
  simp only[Ct.step];split
  ·split
   ·rename_i b _;have:=kv [a] (S:=a.size) hp (by simp) b.size b 0 (aB _);refine cm this (yf ?_ ?_)<;>simp only[Ct.size]<;>omega
   ·exact one
  ·split
   ·exact hself
   ·have:=nT f;have h3:=zh (a:=f.size) (x:=a.size+1) (c:=(Ct.app f a).size) (by simp only[Ct.size];omega) hf;simp only[Ct.size]at h3 ⊢;omega
 |.case x l=>by
  have hx:=size_pos x;have hself:=eY (Ct.case x l).size;have one:1<=(Ct.case x l).size * (Ct.case x l).size:=by have:=size_pos (Ct.case x l);omega
  simp only[Ct.step];split
  ·unfold Ct.pick;split
   ·rename_i s ls _;split
    ·rename_i k hk;obtain⟨a,h1,h2⟩:=rE hk;rw[List.getD_eq_getElem?_getD,h1];have ha:=dm (aE h1);have hb:=ze a;have:=kv ls.reverse (S:=(Ct.UW s ls).size) hx (λu hu=>by
      have:=dm (ik.1 hu);simp only[Ct.size];omega) (gm a).size (gm a) 0 (aB _)
     refine cm this (yf ?_ ?_)<;>simp only[Ct.size]<;>omega
    ·exact one
   ·exact one
  ·split
   ·exact hself
   ·have:=nT x;have h3:=zh (a:=x.size) (x:=Ct.dt l+1) (c:=(Ct.case x l).size) (by simp only[Ct.size];omega) hx;simp only[Ct.size]at h3 ⊢;omega
 |.op s a b=>by
  have ha:=size_pos a;have hb:=size_pos b;have hself:=eY (Ct.op s a b).size;have one:1<=(Ct.op s a b).size * (Ct.op s a b).size:=by have:=size_pos (Ct.op s a b);omega
  simp only[Ct.step];split
  ·split
   ·split
    ·split
     ·rw[(Dj _ _ _).2];exact one
     ·exact one
    ·split
     ·exact hself
     ·have:=nT b;have h3:=zh (a:=b.size) (x:=(Ct.int 0).size+1) (c:=(Ct.op s (.int 0) b).size) (by simp only[Ct.size];omega) hb;simp only[Ct.size]at h3 ⊢;omega
   ·exact one
  ·split
   ·exact hself
   ·have:=nT a;have h3:=zh (a:=a.size) (x:=b.size+1) (c:=(Ct.op s a b).size) (by simp only[Ct.size];omega) ha;simp only[Ct.size]at h3 ⊢;omega
def dz:Nat->Ct->Ct×Nat×Nat
 |0,t=>if 5000<t.size then (.fail,0,91) else if t.step.2=0 then (t,0,0) else (.fail,0,90)
 |m+1,t=>if 5000<t.size then (.fail,0,91) else if t.step.2=0 then (t,0,0) else ((dz m t.step.1).1,(dz m t.step.1).2.1+1,(dz m t.step.1).2.2)
def kQ:Tm:=.mk 0 0 [] []
def Dk (r:Ct×Nat×Nat):Tm:=if r.2.2=0 then r.1.tm else kQ
theorem zi:∀(m:Nat) (t:Ct),(dz m t).2.1<=m
 |0,t=>by unfold dz;split<;>(try split)<;>simp
 |m+1,t=>by
  have:=zi m t.step.1;unfold dz;split
  ·simp
  ·split
   ·simp
   ·dsimp only;omega
theorem Pe (h:bY pg){body:aU}(hb:body=X5)(F:Nat)(hF:F<=2 ^ 40):∀(m n:Nat) (t:Ct),n+m=F->t.wf 0=true->t.size<=2 ^ 50 ->
  ∃cells tl,L pg 0 [1,2,4,7] body [(1,.p (.i .i64 F)),(2,.ptr 0 0),(4,.ptr 1 0),(7,.p (.i .i64 n))] [.box (bP t.tm.aw),.box [.p (iv 0),.p (iv 0),.p (.s []),.aC]] =
   some (.ret,[(4,.ptr 1 0),(5,.p (.i .i64 (n+(dz m t).2.1:Nat))),(6,.p (.i .i64 (dz m t).2.2))],(.box cells::.box (if (dz m t).2.2=0 then bP (dz m t).1.tm.aw else [.p (iv 0),.p (iv 0),.p (.s []),.aC])::tl))
 |m,n,t,hm,hw,hs=>by
  have hc:t.Cl:=⟨hw,hs⟩
  have e54:=λG=>t54 h t.tm hc.jJ.short (by rw[Ct.iQ];exact hs) G;have e55:=λG=>t55 h t.size t (aB _) hc G;rw[Ct.iQ]at e54;obtain⟨tk,tn,tnm,tl,ht,-⟩:=t.iI;obtain⟨sk,sn,snm,sl,hst,-⟩:=t.step.1.iI;simp only[hst,Tm.eS]at e55;rw[ht]at e54 e55;simp only[Tm.aw,Tm.ba,bP,ai,au]at e54 e55;by_cases c1:5000<t.size
  ·have c1':(5000:Int)<(t.size:Int):=by omega
   have hr:dz m t=(.fail,0,91):=by cases m<;>simp[dz,c1]
   rw[hr];dsimp only;rw[ht];refine⟨[.p (iv tk),.p (iv tn),.p (.s tnm),.p (.sl (tl.map Tm.aw))],[],?_⟩;rw[dA hb];simp only[Tm.aw,Tm.ba,bP,ai,au];simp[X5,aj,e54,c1,c1']
  ·have c1':¬ (5000:Int)<(t.size:Int):=by omega
   by_cases c2:t.step.2=0
   ·have hr:dz m t=(t,0,0):=by cases m<;>simp[dz,c1,c2]
    rw[hr];dsimp only;rw[ht];refine⟨[.p (iv tk),.p (iv tn),.p (.s tnm),.p (.sl (tl.map Tm.aw))],[.box [.p (iv sk),.p (iv sn),.p (.s snm),.p (.sl (sl.map Tm.aw))]],?_⟩;rw[dA hb];simp only[Tm.aw,Tm.ba,bP,ai,au];simp[X5,aj,e54,e55,c1,c1',c2]
   ·have c2':¬ (t.step.2:Int)=0:=by omega
    cases m with
    |zero =>
     have hr:dz 0 t=(.fail,0,90):=by simp[dz,c1,c2]
     have hnF:n=F:=by omega
     rw[hr];dsimp only;rw[ht];refine⟨[.p (iv tk),.p (iv tn),.p (.s tnm),.p (.sl (tl.map Tm.aw))],[.box [.p (iv sk),.p (iv sn),.p (.s snm),.p (.sl (sl.map Tm.aw))]],?_⟩;rw[dA hb];simp only[Tm.aw,Tm.ba,bP,ai,au];simp[X5,aj,e54,e55,c1,c1',c2,c2',hnF]
    |succ m =>
     have hr:dz (m+1) t=((dz m t.step.1).1,(dz m t.step.1).2.1+1,(dz m t.step.1).2.2):=by simp[dz,c1,c2]
     have hnF:¬ n=F:=by omega
     have hnF':¬ (n:Int)=(F:Int):=by omega
     have hsz:=nT t;have hsz2:t.size * t.size<=5000 * 5000:=jo (by omega) (by omega);obtain⟨cells,tl',ih⟩:=Pe h hb F hF m (n+1) t.step.1 (by omega) (oQ t hw) (by omega);rw[hr];dsimp only;rw[ht];refine⟨cells,tl',?_⟩;rw[hst,show((n+1:Nat):Int)=(n:Int)+1 from by omega,show n+1+(dz m t.step.1).2.1=n+((dz m t.step.1).2.1+1) from by omega]at ih;simp only[Tm.aw,Tm.ba,bP,ai,au]at ih ⊢;have w1:=cR ((n:Int)+1);rw[dA hb];simp[X5,aj,e54,e55,c1,c1',c2,c2',hnF,hnF',w1,gc,exp,aQ,UG,ih]
theorem yg {s:List UInt8}(h:qF s=true):s.length<=16:=by
 cases s with
 |nil=>simp
 |cons c r =>
  unfold qF at h;simp only[ab,Uq]at h;simp only[av];omega
theorem Gz {s:List UInt8}(h:A3 s=true):s.length<=2:=by
 unfold A3 at h;simp only[UP,Uq]at h;rcases h with ((((h|h)|h)|h)|h)|h<;>rw[h]<;>decide
theorem Ct.En:∀(N:Nat) (t:Ct) (f:Nat),t.size<=N->t.wf f=true->t.tm.wq
 |0,t,f,hs,hw=>by have:=size_pos t;omega
 |N+1,t,f,hs,hw=>by
  have one:∀{k n:Int} {a:Tm},a.wq->(Tm.mk k n [] [a]).wq:=fun {k n a} h=>.mk (by simp) (by simp) (λt ht=>by simp only[br]at ht;subst ht;exact h);cases t with
  |var i=>exact .mk (by simp) (by simp) (by simp)
  |int v=>exact .mk (by simp) (by simp) (by simp)
  |fail=>exact .mk (by simp) (by simp) (by simp)
  |alt s n b=>simp[Ct.wf]at hw
  |lam b =>
   simp only[Ct.wf]at hw;simp only[Ct.size]at hs;exact one (Ct.En N b _ (by omega) hw)
  |app a b =>
   simp only[Ct.wf,ab]at hw;simp only[Ct.size]at hs;refine .mk (by simp) (by simp) (λt ht=>?_);simp only[aA,UA,dU]at ht;rcases ht with rfl|rfl
   ·exact Ct.En N a _ (by omega) hw.1
   ·exact Ct.En N b _ (by omega) hw.2
  |op s a b =>
   simp only[Ct.wf,ab]at hw;simp only[Ct.size]at hs;have:=Gz hw.1.1;refine .mk (by simp) (by omega) (λt ht=>?_);simp only[aA,UA,dU]at ht;rcases ht with rfl|rfl
   ·exact Ct.En N a _ (by omega) hw.1.2
   ·exact Ct.En N b _ (by omega) hw.2
  |UW s l =>
   simp only[Ct.wf,ab,Uq]at hw;simp only[Ct.size]at hs;have:=yg hw.1.1;refine .mk (by rw[Ct.cM,cU];omega) (by omega) (λt ht=>?_);rw[Ct.cM]at ht;obtain⟨c,h1,rfl⟩:=bj.1 ht;exact Ct.En N c _ (by have:=dm h1;omega) (Vi hw.2 c h1)
  |case x l =>
   simp only[Ct.wf,ab,Uq]at hw;simp only[Ct.size]at hs;refine .mk (by rw[Ct.cM];simp only[av,cU];omega) (by simp) (λt ht=>?_);rw[Ct.cM]at ht;rcases aA.1 ht with rfl|ht
   ·exact Ct.En N x _ (by omega) hw.1.1.1
   ·obtain⟨c,h1,rfl⟩:=bj.1 ht;obtain⟨s,n,b,rfl,w1,w2⟩:=fV hw.2 c h1;have hsz:=dm h1;simp only[Ct.size]at hsz;have:=yg w1;exact .mk (by simp) (by omega) (λt ht=>by simp only[br]at ht;subst ht;exact Ct.En N b _ (by omega) w2)
theorem t40 (h:bY pg){F:Nat}(hF:F<=100000){t:Ct}(hw:t.wf 0=true)(hs:t.size<=2 ^ 40) :
  UM pg (E pg) 40 [.ag (bP t.tm.aw),.p (.i .i64 F)] G=some (.ret (.dF [(Dk (dz F t)).nv,.p (.i .i64 (dz F t).2.1),.p (.i .i64 (dz F t).2.2)]),G):=by
 have hc:t.Cl:=⟨hw,by omega⟩
 have hmay:=np t.size t 0 (aB _) hw;have En:=Ct.En t.size t 0 (aB _) hw;have hd:t.tm.depth<=2 ^ 40:=by have:=Tm.oM t.tm;rw[Ct.iQ]at this;omega
 have e18:=λG=>t18 (G:=G) h En hd;rw[fW]at hmay;rw[hmay]at e18;obtain⟨cells,tl',hL⟩:=Pe h (body:=X5) rfl F (by omega) F 0 t (by omega) hw (by omega);rw[aG]at hL;obtain⟨tk,tn,tnm,tl,ht,-⟩:=t.iI;rw[ht]at e18 hL ⊢;simp only[Tm.aw,Tm.ba,bP,ai,au,fW]at e18 hL ⊢;have c1:¬ (F:Int)<0:=by omega
 have c2:¬ (100000:Int)<(F:Int):=by omega
 have c2':¬ 100000<F:=by omega
 refine Ut ?_ rfl ?_
 ·rw[h.run (x:=MA)];unfold Dk;by_cases he:(dz F t).2.2=0
  ·rw[ah he]at hL ⊢;obtain⟨rk,rn,rnm,rl,hr,-⟩:=(dz F t).1.iI;rw[hr]at hL ⊢;simp only[Tm.aw,Tm.ba,bP,ai,au,Tm.eS]at hL ⊢;simp[MA,aj,e18,c1,c2,c2',gc,exp,aQ,UG,hL]
  ·rw[aa he]at hL ⊢;simp[MA,aj,e18,c1,c2,c2',gc,exp,aQ,UG,hL,kQ,Tm.eS]
 ·simp only[Out.bf,bf,cH,Tm.nv,bE 0 (eZ _)];rfl
def tt:Tm:=.mk 5 0 [] []
def fR (ev:Nat->Ct->Tm×Nat×Nat)(D:Bool)(F:Nat):List Ct->Nat->List Tm×Nat×Nat
 |[],n=>([],n,0)
 |t::r,n=>if D=true then (if (ev (F-n) t).2.2≠0 then ([],n+(ev (F-n) t).2.1,(ev (F-n) t).2.2) else ((ev (F-n) t).1::(fR ev D F r (n+(ev (F-n) t).2.1)).1,(fR ev D F r (n+(ev (F-n) t).2.1)).2))
  else (tt::(fR ev D F r n).1,(fR ev D F r n).2)
def fS:Nat->Bool->Nat->Ct->Tm×Nat×Nat
 |0,_,_,_=>(kQ,0,999)
 |g+1,D,F,t=>if (dz F t).2.2≠0 then (kQ,(dz F t).2.1,(dz F t).2.2) else match (dz F t).1 with
  |.int v=>(.mk 1 v [] [],(dz F t).2.1,0)
  |.lam _=>(.mk 3 0 [] [],(dz F t).2.1,0)
  |.fail=>(.mk 4 0 [] [],(dz F t).2.1,0)
  |.UW s l=>if (fR (fS g true) D F l (dz F t).2.1).2.2≠0 then (kQ,(fR (fS g true) D F l (dz F t).2.1).2) else (.mk 2 0 s (fR (fS g true) D F l (dz F t).2.1).1,(fR (fS g true) D F l (dz F t).2.1).2.1,0)
  |_=>(kQ,0,998)
theorem wM {ev:Nat->Ct->Tm×Nat×Nat}{D:Bool}{F:Nat}(h:∀F' t,F'<=F->(ev F' t).2.1<=F'):∀(l:List Ct) (n:Nat),n<=F->(fR ev D F l n).2.1<=F/\n<=(fR ev D F l n).2.1
 |[],n,hn=>⟨hn,aB _⟩
 |t::r,n,hn=>by
  have h1:=h (F-n) t (by omega);unfold fR;split
  ·split
   ·dsimp only;omega
   ·have:=wM (D:=D) h r (n+(ev (F-n) t).2.1) (by omega);dsimp only;omega
  ·exact wM h r n hn
theorem Bi:∀(g:Nat) (D:Bool) (F:Nat) (t:Ct),(fS g D F t).2.1<=F
 |0,D,F,t=>dv _
 |g+1,D,F,t=>by
  have h1:=zi F t;unfold fS;split
  ·exact h1
  ·split
   ·exact h1
   ·exact h1
   ·exact h1
   ·have:=wM (ev:=fS g true) (D:=D) (F:=F) (λF' t _=>Bi g true F' t) (l:=by assumption) (dz F t).2.1 h1;split
    ·exact this.1
    ·exact this.1
   ·exact dv _
def Dl (acc:List Tm):AV:=match acc with
 |[]=>.aC
 |_::r=>.arr 3 (r.length+1) r.length
def Dm (acc:List Tm):Heap:=match acc with
 |[]=>[]
 |a::r=>[.arr 4 ((a::r).map Tm.aw) r.length 0]
def qj:fE:=.box [.p (iv 0),.p (iv 0),.p (.s []),.aC]
theorem Mq:bH 4 [[PV.i .i64 5,.i .i64 0,.s [],.sl []]]=true:=rfl
theorem IE:aS 4 [PV.i .i64 5,.i .i64 0,.s [],.sl []]=true:=rfl
theorem OH (a b:Int)(c:List UInt8)(d:List (List PV)):bH 4 [[iv a,iv b,.s c,.sl d]]=true:=rfl
theorem OI (h:bY pg){body:aU}(hb:body=qo){D:Bool}{F:Nat}(hF:F<=2 ^ 40){vk vn:Int}{nm:List UInt8}{l:List Ct}(hl:l.length<=60){ev:Nat->Ct->Tm×Nat×Nat}(hle:∀F' t,F'<=F->(ev F' t).2.1<=F')
  {n0:Nat} (e21:∀t∈l,∀n,n0<=n->n<=F->∀G,D=true->UM pg (E pg) 21 [.ag (bP t.tm.aw),.p (.b true),.p (.i .i64 (F-n:Nat))] G=some (.ret (.dF [(ev (F-n) t).1.nv,.p (.i .i64 (ev (F-n) t).2.1),.p (.i .i64 (ev (F-n) t).2.2)]),G)) :
  ∀m i n (acc:List Tm),i+m=l.length->acc.length=i->n0<=n->n<=F ->
  ((fR ev D F (l.drop i) n).2.2=0->L pg 0 [1,2,6,9,10,12,13] body [(1,.p (.b D)),(2,.p (.i .i64 F)),(6,.ptr 0 0),(9,.ptr 1 0),(10,.p (.i .i64 n)),(12,.ptr 2 0),(13,.p (.i .i64 i))] (qj::.box [.p (iv vk),.p (iv vn),.p (.s nm),.p (.sl ((Ct.gp l).map Tm.aw))]::.box [.p (iv 2),.p (iv 0),.p (.s nm),Dl acc]::Dm acc) =
   some (.exit 1,[(1,.p (.b D)),(2,.p (.i .i64 F)),(6,.ptr 0 0),(9,.ptr 1 0),(10,.p (.i .i64 (fR ev D F (l.drop i) n).2.1)),(12,.ptr 2 0),(13,.p (.i .i64 l.length)),(52,.p (.b false))],qj::.box [.p (iv vk),.p (iv vn),.p (.s nm),.p (.sl ((Ct.gp l).map Tm.aw))]::.box [.p (iv 2),.p (iv 0),.p (.s nm),Dl (acc++(fR ev D F (l.drop i) n).1)]::Dm (acc++(fR ev D F (l.drop i) n).1))) /\
  ((fR ev D F (l.drop i) n).2.2≠0->∃H,L pg 0 [1,2,6,9,10,12,13] body [(1,.p (.b D)),(2,.p (.i .i64 F)),(6,.ptr 0 0),(9,.ptr 1 0),(10,.p (.i .i64 n)),(12,.ptr 2 0),(13,.p (.i .i64 i))] (qj::.box [.p (iv vk),.p (iv vn),.p (.s nm),.p (.sl ((Ct.gp l).map Tm.aw))]::.box [.p (iv 2),.p (iv 0),.p (.s nm),Dl acc]::Dm acc) =
   some (.ret,[(6,.ptr 0 0),(7,.p (.i .i64 (fR ev D F (l.drop i) n).2.1)),(8,.p (.i .i64 (fR ev D F (l.drop i) n).2.2))],qj::H))
 |0,i,n,acc,hi,ha,hn0,hn=>by
  have:i=l.length:=by omega
  subst this;have hrl:((Ct.gp l).map Tm.aw).length=l.length:=by rw[Ct.cM];simp
  rw[gH];refine⟨λ_=>?_,λe=>absurd rfl e⟩;rw[dA hb];simp[qo,aj,hrl,fR,qj]
 |m+1,i,n,acc,hi,ha,hn0,hn=>by
  have hlt:i<l.length:=by omega
  have hd:l.drop i=l[i]::l.drop (i+1):=aM hlt;have hrl:((Ct.gp l).map Tm.aw).length=l.length:=by rw[Ct.cM];simp
  have hx:((Ct.gp l).map Tm.aw)[i]?=some l[i].tm.aw:=by rw[Ct.cM];simp[hlt]
  have hx2:i<((Ct.gp l).map Tm.aw).length:=by omega
  have hxg:((Ct.gp l).map Tm.aw)[i]'hx2=l[i].tm.aw:=(gE hx).2;have w1:=cR ((i:Int)+1);have hlt':(i:Int)<(l.length:Int):=by omega
  have ok1:=Tm.aS l[i].tm;have t4:=Tm.ku l[i].tm;have t4':=Tm.pS l[i].tm;have e7:bZ (acc.length+1) 56=true:=by simp[bZ];omega
  have e71:bZ 1 56=true:=rfl;have k21:bC pg 21=false:=h.bq (x:=GI) rfl;rw[hd];cases D with
  |false =>
   obtain⟨ih1,ih2⟩:=OI h hb (D:=false) hF hl (vk:=vk) (vn:=vn) (nm:=nm) hle e21 m (i+1) n (acc++[tt]) (by omega) (by simp[ha]) hn0 hn;rw[show((i+1:Nat):Int)=(i:Int)+1 from by omega]at ih1 ih2;simp only[fR,aZ,if_false];have step:L pg 0 [1,2,6,9,10,12,13] body [(1,.p (.b false)),(2,.p (.i .i64 F)),(6,.ptr 0 0),(9,.ptr 1 0),(10,.p (.i .i64 n)),(12,.ptr 2 0),(13,.p (.i .i64 i))] (qj::.box [.p (iv vk),.p (iv vn),.p (.s nm),.p (.sl ((Ct.gp l).map Tm.aw))]::.box [.p (iv 2),.p (iv 0),.p (.s nm),Dl acc]::Dm acc) =
     L pg 0 [1,2,6,9,10,12,13] body [(1,.p (.b false)),(2,.p (.i .i64 F)),(6,.ptr 0 0),(9,.ptr 1 0),(10,.p (.i .i64 n)),(12,.ptr 2 0),(13,.p (.i .i64 ((i:Int)+1)))] (qj::.box [.p (iv vk),.p (iv vn),.p (.s nm),.p (.sl ((Ct.gp l).map Tm.aw))]::.box [.p (iv 2),.p (iv 0),.p (.s nm),Dl (acc++[tt])]::Dm (acc++[tt])):=by
    rw[dA hb];cases acc with
    |nil=>simp[qo,aj,qj,Dl,Dm,hrl,hlt,hlt',Mq,IE,th,cX,e71,Uu.Uv,cO,Vy,ee,w1,tt,Tm.aw,Tm.df,gc,exp,aQ,UG]
    |cons a0 r0 =>
     have hr0:r0.length+1=i:=by simpa using ha
     have e77:bZ (r0.length+1+1) 56=true:=by simpa using e7
     have tk0:List.take r0.length (r0.map Tm.aw)=r0.map Tm.aw:=aF (by simp);simp[qo,aj,qj,Dl,Dm,hrl,hlt,hlt',Mq,IE,th,cX,e77,tk0,Uu.Uv,cO,Vy,ee,w1,tt,Tm.aw,Tm.df,gc,exp,aQ,UG]
   rw[step];rw[pd]at ih1;exact⟨ih1,ih2⟩
  |true =>
   have e:=λG=>e21 l[i] (bM hlt) n hn0 hn G rfl;have h1:=hle (F-n) l[i] (by omega);have wF:=cR ((F:Int)-n);have wS:=cR ((n:Int)+(ev (F-n) l[i]).2.1);rw[show((F-n:Nat):Int)=(F:Int)-n from by omega]at e;simp only[fR,if_true];obtain⟨ih1,ih2⟩:=OI h hb (D:=true) hF hl (vk:=vk) (vn:=vn) (nm:=nm) hle e21 m (i+1) (n+(ev (F-n) l[i]).2.1) (acc++[(ev (F-n) l[i]).1]) (by omega) (by simp[ha]) (by omega) (by omega);rw[show((i+1:Nat):Int)=(i:Int)+1 from by omega,show((n+(ev (F-n) l[i]).2.1:Nat):Int)=(n:Int)+(ev (F-n) l[i]).2.1 from by omega]at ih1 ih2;generalize hE:ev (F-n) l[i]=E0 at *;obtain⟨r,st,er⟩:=E0;obtain⟨rk,rn,rnm,rl⟩:=r;obtain⟨tk,tn,tnm,tl,ht,-⟩:=l[i].iI;rw[ht]at e hxg hx ok1;dsimp only at e ih1 ih2 wS ⊢;simp only[Tm.aw,Tm.ba,bP,ai,au,Tm.eS]at e hxg hx ok1;have okr:=OH rk rn rnm (rl.map Tm.aw);by_cases he:er=0
   ·subst he;have step:L pg 0 [1,2,6,9,10,12,13] body [(1,.p (.b true)),(2,.p (.i .i64 F)),(6,.ptr 0 0),(9,.ptr 1 0),(10,.p (.i .i64 n)),(12,.ptr 2 0),(13,.p (.i .i64 i))] (qj::.box [.p (iv vk),.p (iv vn),.p (.s nm),.p (.sl ((Ct.gp l).map Tm.aw))]::.box [.p (iv 2),.p (iv 0),.p (.s nm),Dl acc]::Dm acc) =
      L pg 0 [1,2,6,9,10,12,13] body [(1,.p (.b true)),(2,.p (.i .i64 F)),(6,.ptr 0 0),(9,.ptr 1 0),(10,.p (.i .i64 ((n:Int)+st))),(12,.ptr 2 0),(13,.p (.i .i64 ((i:Int)+1)))] (qj::.box [.p (iv vk),.p (iv vn),.p (.s nm),.p (.sl ((Ct.gp l).map Tm.aw))]::.box [.p (iv 2),.p (iv 0),.p (.s nm),Dl (acc++[.mk rk rn rnm rl])]::Dm (acc++[.mk rk rn rnm rl])):=by
     rw[dA hb];generalize (Ct.gp l).map Tm.aw=R at *;cases acc with
     |nil=>simp[qo,aj,qj,Dl,Dm,hrl,hx,hxg,hlt,hlt',ok1,okr,th,HR,e,k21,cX,e71,Uu.Uv,cO,Vy,ee,w1,wF,wS,Tm.aw,Tm.ba,gc,exp,aQ,UG]
     |cons a0 r0 =>
      have hr0:r0.length+1=i:=by simpa using ha
      have e77:bZ (r0.length+1+1) 56=true:=by simpa using e7
      have tk0:List.take r0.length (r0.map Tm.aw)=r0.map Tm.aw:=aF (by simp);simp[qo,aj,qj,Dl,Dm,hrl,hx,hxg,hlt,hlt',ok1,okr,th,HR,e,k21,cX,e77,tk0,Uu.Uv,cO,Vy,ee,w1,wF,wS,Tm.aw,Tm.ba,gc,exp,aQ,UG]
    rw[aa (by simp),step];rw[pd]at ih1;exact⟨ih1,ih2⟩
   ·have he':¬ (er:Int)=0:=by omega
    rw[ah he];refine⟨λe0=>absurd e0 he,λ_=>?_⟩;rw[dA hb];generalize (Ct.gp l).map Tm.aw=R at *;cases acc with
    |nil=>exact⟨_,by
      simp[qo,aj,qj,Dl,Dm,hrl,hx,hxg,hlt,hlt',ok1,okr,e,k21,he,he',wF,wS,Tm.aw,Tm.ba];rfl⟩
    |cons a0 r0=>exact⟨_,by
      simp[qo,aj,qj,Dl,Dm,hrl,hx,hxg,hlt,hlt',ok1,okr,e,k21,he,he',wF,wS,Tm.aw,Tm.ba];rfl⟩
theorem lH:∀(t:Ct),t.wf 0=true->t.step.2=0->t.val=true
 |.var i,h,_=>by simp[Ct.wf]at h
 |.alt s n b,h,_=>by simp[Ct.wf]at h
 |.int v,_,_=>rfl
 |.fail,_,_=>rfl
 |.lam b,_,_=>rfl
 |.UW s l,_,_=>rfl
 |.app f a,h,hs=>by
  simp only[Ct.wf,ab]at h;have ih:=lH f h.1;simp only[Ct.step]at hs;split at hs
  ·split at hs<;>cases hs
  ·rename_i hv;split at hs
   ·rename_i e;exact absurd (ih e) hv
   ·rename_i e;exact absurd hs e
 |.case x l,h,hs=>by
  simp only[Ct.wf,ab]at h;have ih:=lH x h.1.1.1;simp only[Ct.step]at hs;split at hs
  ·unfold Ct.pick at hs;split at hs
   ·split at hs<;>cases hs
   ·cases hs
  ·rename_i hv;split at hs
   ·rename_i e;exact absurd (ih e) hv
   ·rename_i e;exact absurd hs e
 |.op s a b,h,hs=>by
  simp only[Ct.wf,ab]at h;have iha:=lH a h.1.2;have ihb:=lH b h.2;simp only[Ct.step]at hs;split at hs
  ·split at hs
   ·split at hs
    ·split at hs
     ·unfold ue at hs
      repeat' split at hs
      all_goals cases hs
     ·cases hs
    ·rename_i hv;split at hs
     ·rename_i e;exact absurd (ihb e) hv
     ·rename_i e;exact absurd hs e
   ·cases hs
  ·rename_i hv;split at hs
   ·rename_i e;exact absurd (iha e) hv
   ·rename_i e;exact absurd hs e
theorem uB:∀(m:Nat) (t:Ct),t.wf 0=true->(dz m t).2.2=0->(dz m t).1.wf 0=true/\(dz m t).1.val=true/\(dz m t).1.size<=5000/\((dz m t).2.1=0->(dz m t).1=t)
 |0,t,hw,he=>by
  unfold dz at he ⊢;split at he
  ·cases he
  ·rename_i c;rw[aa c];split at he
   ·rename_i c2;rw[ah c2];exact⟨hw,lH t hw c2,by show t.size<=5000;omega,λ_=>rfl⟩
   ·cases he
 |m+1,t,hw,he=>by
  unfold dz at he ⊢;split at he
  ·cases he
  ·rename_i c;rw[aa c];split at he
   ·rename_i c2;rw[ah c2];exact⟨hw,lH t hw c2,by show t.size<=5000;omega,λ_=>rfl⟩
   ·rename_i c2;rw[aa c2];obtain⟨h1,h2,h3,_⟩:=uB m t.step.1 (oQ t hw) he;exact⟨h1,h2,h3,λe=>by simp at e⟩
def wN (g F:Nat)(t:Ct):Prop:=if 5000<t.size then 1<=g else F * 5001+t.size<g
set_option maxRecDepth 20000 in
theorem GA {g F:Nat}{t:Ct}{s:List UInt8}{l:List Ct}(hg:wN (g+1) F t)(hw:t.wf 0=true)(he:(dz F t).2.2=0)(hr:(dz F t).1=.UW s l){c:Ct}(hc:c∈l){n:Nat}(hn:(dz F t).2.1<=n/\n<=F):wN g (F-n) c/\c.wf 0=true/\c.size<=5000:=by
 obtain⟨h1,h2,h3,h4⟩:=uB F t hw he;rw[hr]at h1 h3 h4;simp only[Ct.wf,ab]at h1;simp only[Ct.size]at h3;have hcs:=dm hc;have hts:¬ 5000<t.size:=by
  intro e;have:(dz F t).2.2=91:=by cases F<;>simp[dz,e]
  omega
 unfold wN at hg;rw[aa hts]at hg;refine⟨?_,Vi h1.2 c hc,by omega⟩;unfold wN;rw[aa (by omega)];by_cases hz:(dz F t).2.1=0
 ·have:=h4 hz;have hsz:t.size=Ct.dt l+1:=by rw[<- this];rfl
  have h5:(F-n) * 5001<=F * 5001:=bh _ (by omega);generalize (F-n) * 5001=a at *;generalize F * 5001=b at *;clear h4 h1 hr hw he hz hn;omega
 ·have h5:(F-n+1) * 5001<=F * 5001:=bh _ (by omega);rw[db]at h5;generalize (F-n) * 5001=a at *;generalize F * 5001=b at *;clear h4 h1 hr hw he hz hn;omega
theorem t21 (h:bY pg):∀(g:Nat) (D:Bool) (F:Nat) (t:Ct),wN g F t->F<=100000->t.wf 0=true->t.size<=2 ^ 40->∀(G:Heap),
  UM pg (E pg) 21 [.ag (bP t.tm.aw),.p (.b D),.p (.i .i64 F)] G=some (.ret (.dF [(fS g D F t).1.nv,.p (.i .i64 (fS g D F t).2.1),.p (.i .i64 (fS g D F t).2.2)]),G)
 |0,D,F,t,hg,hF,hw,hs,G=>by
  unfold wN at hg;split at hg<;>omega
 |g+1,D,F,t,hg,hF,hw,hs,G=>by
  have e40:=λG=>t40 (G:=G) h hF hw hs;obtain⟨tk,tn,tnm,tl,ht,-⟩:=t.iI;have hbl:Out.bf 0 (.ret (.dF [(fS (g+1) D F t).1.nv,.p (.i .i64 (fS (g+1) D F t).2.1),.p (.i .i64 (fS (g+1) D F t).2.2)]))=true:=by
   simp only[Out.bf,bf,cH,Tm.nv,bE 0 (eZ _)];rfl
  rw[ht]at e40 ⊢;simp only[Tm.aw,Tm.ba,bP,ai,au]at e40 ⊢;refine Ut ?_ rfl hbl;rw[h.run (x:=GI)];clear hbl;by_cases he:(dz F t).2.2=0
  ·obtain⟨h1,h2,h3,h4⟩:=uB F t hw he;have hres:Dk (dz F t)=(dz F t).1.tm:=ah he;rw[hres]at e40;have hev:fS (g+1) D F t=match (dz F t).1 with
    |.int v=>(.mk 1 v [] [],(dz F t).2.1,0)
    |.lam _=>(.mk 3 0 [] [],(dz F t).2.1,0)
    |.fail=>(.mk 4 0 [] [],(dz F t).2.1,0)
    |.UW s l=>if (fR (fS g true) D F l (dz F t).2.1).2.2≠0 then (kQ,(fR (fS g true) D F l (dz F t).2.1).2) else (.mk 2 0 s (fR (fS g true) D F l (dz F t).2.1).1,(fR (fS g true) D F l (dz F t).2.1).2.1,0)
    |_=>(kQ,0,998):=by
    rw[fS,aa (by simpa using he)]
   rw[he,fW]at e40;rw[hev];have hle:=zi F t;cases hr:(dz F t).1 with
   |int v =>
    rw[hr]at e40;simp only[Ct.tm,Tm.eS]at e40;simp[GI,aj,e40,Tm.eS]
   |lam b =>
    rw[hr]at e40;simp only[Ct.tm,Tm.eS]at e40;simp[GI,aj,e40,Tm.eS]
   |fail =>
    rw[hr]at e40;simp only[Ct.tm,Tm.eS]at e40;simp[GI,aj,e40,Tm.eS]
   |UW s l =>
    rw[hr]at e40 h1;simp only[Ct.tm,Tm.eS]at e40;simp only[Ct.wf,ab,Uq]at h1;have hL:=OI h (body:=qo) rfl (D:=D) (F:=F) (by omega) (vk:=4) (vn:=0) (nm:=s) (l:=l) (by omega) (ev:=fS g true) (λF' t _=>Bi g true F' t) (n0:=(dz F t).2.1) (λc hc n hn0 hn G _=>by
     obtain⟨p1,p2,p3⟩:=GA hg hw he hr hc ⟨hn0,hn⟩;exact t21 h g true (F-n) c p1 (by omega) p2 (by omega) G) l.length 0 (dz F t).2.1 [] (by omega) rfl (aB _) hle
    simp only[bp,aL,fW,Dl,Dm,qj]at hL;dsimp only;by_cases hq:(fR (fS g true) D F l (dz F t).2.1).2.2=0
    ·have hL1:=hL.1 hq;rw[aa (by simpa using hq)];generalize (fR (fS g true) D F l (dz F t).2.1).1=out at *;generalize (fR (fS g true) D F l (dz F t).2.1).2.1=st at *;cases out with
     |nil =>
      simp only at hL1;simp[GI,aj,e40,Tm.eS,gc,exp,aQ,UG,hL1,Tm.ba]
     |cons a0 r0 =>
      simp only at hL1;have tk0:List.take r0.length (r0.map Tm.aw)=r0.map Tm.aw:=aF (by simp);simp[GI,aj,e40,Tm.eS,gc,exp,aQ,UG,hL1,Tm.ba,tk0]
    ·obtain⟨H,hL1⟩:=hL.2 hq;rw[ah hq];simp[GI,aj,e40,Tm.eS,gc,exp,aQ,UG,hL1,kQ]
   |_=>rw[hr]at h2;simp[Ct.val]at h2
  ·have hres:Dk (dz F t)=kQ:=aa he;have hev:fS (g+1) D F t=(kQ,(dz F t).2.1,(dz F t).2.2):=by rw[fS,ah he]
   rw[hres]at e40;rw[hev];have he':¬ ((dz F t).2.2:Int)=0:=by omega
   simp only[kQ,Tm.eS,au]at e40 ⊢;simp[GI,aj,e40,he,he']
end
end Go.Proofs.Z
