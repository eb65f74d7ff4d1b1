/- A part of the proof. -/
import Derived.Test.YtffohgbmjjbhiaaGreatB13
import Derived.ProofKit
import Derived.Test.YtffohgbmjjbhiaaGreatRows
set_option linter.all false
namespace Go.Proofs.Z
section
variable {G:Heap}
def sw:Prop:=∀G,UM iE (E iE) 8 [] G=some (.ret (.p (.b true)),G)
set_option maxHeartbeats 1000000 in
theorem t6 (h8:sw)(l:List UK)(hl:l.length<2 ^ 63)(C less:Int)(D:Bool)(hless:less<=9223372036854775807) :
  E iE 6 [.ag [.p (.sl (l.map UK.aw)),.p (.i .i64 C)],.p (.b D),.p (.i .i64 less)] []=some (.ret (.p (.b true)),[]):=by
 have h:=Xj;unfold sw at h8;rw[h.run (x:=c6)];cases c1:Xw l 120 with
 |false=>simp[c6,aj,h8,t9 h l C 120 hl,c1]
 |true =>
  have hr:=y6.of c1;cases c2:kK l C with
  |false=>simp[c6,aj,h8,t9 h l C 120 hl,c1,t10 h l C hr.len hr.aD,c2]
  |true =>
   by_cases c3:less<0
   ·simp[c6,aj,h8,t9 h l C 120 hl,c1,t10 h l C hr.len hr.aD,c2,c3]
   obtain⟨n,ho,e1,rfl⟩:=xU c1 c2;have a9:=λG=>t9 (G:=G) h l n.aV 120 hl;have Cq:=λG=>t10 (G:=G) h l n.aV hr.len hr.aD;rw[c1]at a9;rw[c2]at Cq;rw[e1]at a9 Cq ⊢;have a11:=λG=>t11 (G:=G) ho D (F:=60) (by omega);have hsum:=XR eA ho D 60;have hinv:=(VD eA ho D 60).2.1;have hfit:=ta ho D 60;obtain⟨sk,sn,snm,sl,hsh⟩:=(bI n D 60).2.2.sv;by_cases c4:(bI n D 60).2.1=0
   ·have hT:(bI n D 60).1.T.length=9:=hinv.ok.2.1;obtain⟨t0,t1,t2,t3,t4,t5,t6,t7,t8,hTe⟩:∃t0 t1 t2 t3 t4 t5 t6 t7 t8,(bI n D 60).1.T=[t0,t1,t2,t3,t4,t5,t6,t7,t8]:=by
     match (bI n D 60).1.T,hT with
     |[t0,t1,t2,t3,t4,t5,t6,t7,t8],_=>exact⟨t0,t1,t2,t3,t4,t5,t6,t7,t8,rfl⟩
    have Bl:=λG=>t12 (G:=G) h hT (by omega);have tO:=λG=>t11 (G:=G) ho D (F:=(bI n D 60).1.d) (by omega);rw[BZ c4 (aB _)]at tO;have d11:=λG=>t11 (G:=G) ho D (F:=(bI n D 60).1.d-1-less.toNat) (by omega);have hless:0<(bI n D 60).1.d->(bI n D ((bI n D 60).1.d-1-less.toNat)).2.1=90:=λhd=>B0 c4 (by omega);have Qr:=λG=>t14 (G:=G) h (bI n D 60).1.cS hinv.same.ok.bounds;have Cr:=λG=>t13 h _ hfit (bI n D 60).2.2.tm G;rw[show((bI n D 60).2.2.tm.same (bI n D 60).2.2.tm)=true from Tm.pL.2 rfl]at Cr;rw[aO.v7,hsh]at Cr;have hw:qL (IntKind.i64.wrap (IntKind.i64.wrap ((bI n D 60).1.d-1)-less)) 0=((bI n D 60).1.d-1-less.toNat:Nat):=by
     have hd:=hsum.2;rw[cR ((bI n D 60).1.d-1:Int),cR _];unfold qL;split<;>omega
    rw[hsum.1]at Bl;generalize hR3:bI n D ((bI n D 60).1.d-1-less.toNat)=R3 at *;obtain⟨u0,u1,u2,u3,u4,u5,u6,u7,u8,hTe3⟩:∃t0 t1 t2 t3 t4 t5 t6 t7 t8,R3.1.T=[t0,t1,t2,t3,t4,t5,t6,t7,t8]:=by
     have hT3:R3.1.T.length=9:=by rw[<- hR3];exact(VD eA ho D _).2.1.ok.2.1
     match R3.1.T,hT3 with
     |[t0,t1,t2,t3,t4,t5,t6,t7,t8],_=>exact⟨t0,t1,t2,t3,t4,t5,t6,t7,t8,rfl⟩
    simp only[fu,ah c4,Vt,cJ,hTe,hsh,ai,au,c4,bP]at a11 tO Bl Cr;simp only[fu,cJ,hTe3,ai,au]at d11;simp only[Bn,fW,cond_true]at a11 tO Cq;generalize hd:(bI n D 60).1.d=d at *;obtain⟨q0,q1,q2,q3,hq,f3⟩:∃(q0 q1:Int) (q2:List UInt8) (q3:AV),(if R3.2.1=0 then AV.ag (List.map AV.p R3.2.2.aw) else AV.ag [.p (.i .i64 0),.p (.i .i64 0),.p (.s []),.aC])=AV.ag [.p (.i .i64 q0),.p (.i .i64 q1),.p (.s q2),q3]/\(q3=.aC\/∃l,q3=.p (.sl l)):=by
     obtain⟨k',n',m',l',e⟩:=R3.2.2.sv;split
     ·rw[e];exact⟨_,_,_,_,rfl,.inr ⟨_,rfl⟩⟩
     ·exact⟨_,_,_,_,rfl,.inl rfl⟩
    simp only[bP,Vt]at d11;rw[hq]at d11;have hk8:d=0\/R3.2.1=90:=by omega
    rcases hk8 with e|e<;>rcases f3 with rfl|⟨l3,rfl⟩
    ·simp[c6,aj,h8,a9,Cq,c3,a11,c4,Bl,tO,hw,d11,Cr,Qr,Ur e]
    ·simp[c6,aj,h8,a9,Cq,c3,a11,c4,Bl,tO,hw,d11,Cr,Qr,Ur e]
    ·by_cases e':d=0
     ·simp[c6,aj,h8,a9,Cq,c3,a11,c4,Bl,tO,hw,d11,Cr,Qr,Ur e']
     ·simp[c6,aj,h8,a9,Cq,c3,a11,c4,Bl,tO,hw,d11,Cr,Qr,Ur e,Ur (show((R3.2.1:Nat):Int)=90 from by omega),az e']
    ·by_cases e':d=0
     ·simp[c6,aj,h8,a9,Cq,c3,a11,c4,Bl,tO,hw,d11,Cr,Qr,Ur e']
     ·simp[c6,aj,h8,a9,Cq,c3,a11,c4,Bl,tO,hw,d11,Cr,Qr,Ur e,Ur (show((R3.2.1:Nat):Int)=90 from by omega),az e']
   ·have hT:(bI n D 60).1.T.length=9:=hinv.ok.2.1;obtain⟨t0,t1,t2,t3,t4,t5,t6,t7,t8,hTe⟩:∃t0 t1 t2 t3 t4 t5 t6 t7 t8,(bI n D 60).1.T=[t0,t1,t2,t3,t4,t5,t6,t7,t8]:=by
     match (bI n D 60).1.T,hT with
     |[t0,t1,t2,t3,t4,t5,t6,t7,t8],_=>exact⟨t0,t1,t2,t3,t4,t5,t6,t7,t8,rfl⟩
    have Bl:=λG=>t12 (G:=G) h hT (by omega);have c5:(((bI n D 60).1.T.sum:Nat):Int)<=60:=by omega
    rw[hTe]at Bl c5;simp only[fu,aa c4,Vt,cJ,hTe,ai,au]at a11 Bl;simp only[Bn,cond_true]at a11 Cq;generalize hS:[t0,t1,t2,t3,t4,t5,t6,t7,t8].sum=S at *;have c4':¬ ((bI n D 60).2.1:Int)=0:=by omega
    simp[c6,aj,h8,a9,Cq,c3,a11,c4,c4',Bl,c5]
theorem sx (all:List (List UInt8×Nat)):∀(l:List (List UInt8×Nat)) (i:Nat),eM all i l=true->allI (vx (all.map k_)) i (l.map k_)=true
 |[],i,h=>rfl
 |a::r,i,h=>by
  simp only[eM,ab,a_,decide_eq_false_iff_not,Uq]at h;obtain⟨⟨⟨p1,p2⟩,p3⟩,p4⟩:=h;simp only[ai,allI,ab];refine⟨?_,sx all r (i+1) p4⟩;have q:((all.map k_).take i).all (λb=>!decide (b.1=(k_ a).1))=true:=by
   rw[<- da,List.all_map,bc];intro b hb;rw[<- V8,fC]at p3;have:¬ b.1=a.1:=λe=>p3 ⟨b,hb,by simp[e]⟩;simp[Function.comp,k_,this]
  unfold vx;rw[q];have e1:(k_ a).1=a.1:=rfl;have e2:(k_ a).2=(a.2:Int):=rfl;rw[e1,e2];simp only[fL,ab,a_,decide_eq_false_iff_not];refine⟨⟨p1,by omega⟩,by omega⟩
theorem Up.FV {x:Up}(h:x.ok=true):qx x.raw=true:=by
 obtain⟨k,l,n,name,aY,to⟩:=x;simp only[Up.ok,ab,UP,a_,Uq,decide_eq_false_iff_not,cZ]at h;obtain⟨⟨⟨⟨⟨p1,p2⟩,p3⟩,p4⟩,p5⟩,p6⟩:=h;have ha:(k=9->eM aY 0 aY=true/\1<=aY.length/\aY.length<=8)/\(k≠9->aY.length=0):=by
  unfold Up.fP at p2;dsimp only at p2;constructor
  ·intro e;rw[ah e]at p2;simpa using p2
  ·intro e;rw[aa e]at p2;simpa using p2
 have hl:(k<=1->l=0)/\l<=60:=by
  split at p3<;>omega
 have hn:(!decide (name=[]))=(decide ((k:Int)=8) || decide ((k:Int)=11) || decide ((k:Int)=12)):=by
  rw[p4];rw[iR];simp only[Uq,UP];omega
 have hlen:(aY.map k_).length=aY.length:=by simp
 have hlt:(to.map aq.raw).length=to.length:=by simp
 show qx ⟨(k:Int),(l:Int),n,name,aY.map k_,to.map aq.raw⟩=true
 simp only[qx,U_,hlen,hlt,ab,UP,a_,decide_eq_false_iff_not,Uq,US,fq,cZ];refine⟨⟨⟨⟨⟨⟨⟨⟨⟨⟨⟨by omega,by omega⟩,by omega⟩,by omega⟩,λe=>by omega⟩,hn⟩,?_⟩,λe=>?_⟩,λe=>?_⟩,?_⟩,?_⟩,?_⟩
 ·rcases p5 with h|h
  ·exact .inl h
  ·right;omega
 ·rcases p6 with h|h
  ·omega
  ·omega
 ·have:=ha.1 (by omega);omega
 ·by_cases e:k=9
  ·left;omega
  ·right;have:=ha.2 e;omega
 ·by_cases e:k=9
  ·have:=ha.1 e;omega
  ·have:=ha.2 e;omega
 ·by_cases e:k=9
  ·exact sx aY aY 0 (ha.1 e).1
  ·have:=ha.2 e;have:aY=[]:=aW this;subst this;rfl
theorem xV (x:Up):kJ x.raw=(x.bO:Nat):=by
 obtain⟨k,l,n,name,aY,to⟩:=x
 show kJ ⟨(k:Int),(l:Int),n,name,aY.map k_,to.map aq.raw⟩=_
 simp only[kJ,Up.bO,cU];by_cases h8:k=8
 ·subst h8;rfl
 ·by_cases h9:k=9
  ·subst h9;simp
  ·rw[aa (by omega),aa (by omega),aa h8,aa h9,ah (by omega)];simp
theorem aI.Ok.kK {n:aI}(h:n.Ok):kK (n.ae.map Up.raw) n.aV=true:=by
 have hlen:(n.ae.map Up.raw).length=n.ae.length:=by simp
 have h1:=h.aV;have h2:=h.len;simp only[Z.kK,hlen,ab,a_,decide_eq_false_iff_not];refine⟨⟨⟨⟨⟨by omega,by omega⟩,by omega⟩,by omega⟩,?_⟩,?_⟩
 ·rw[List.getElem?_map];cases e:n.ae[n.ae.length-1]? with
  |none=>rfl
  |some x =>
   have:=h.last x e;simp only[dT,Up.raw,a_,decide_eq_false_iff_not];omega
 ·refine r6 λi x hx=>?_;rw[List.getElem?_map]at hx;obtain⟨y,hy,rfl⟩:=aP.1 hx;obtain⟨a1,a2,a3⟩:=h.aD i y hy;rw[aG];unfold Aq;rw[Up.FV a1,xV];have e1:y.raw.to.length=y.to.length:=by simp[Up.raw]
  have e2:(decide (i=0) == decide (y.raw.ao=1))=true:=by
   rw[cZ,decide_eq_decide,<- a3];simp only[Up.raw];omega
  rw[e1,a2,e2];simp only[decide_true,UX];refine r6 λk q hq=>?_;rw[aG];simp only[Up.raw,List.getElem?_map]at hq;obtain⟨p,hp,rfl⟩:=aP.1 hq;obtain⟨b1,b2⟩:=h.link i y k p hy hp;unfold aI.peer at b2;cases e:n.ae[p.aD]? with
  |none=>rw[e]at b2;cases b2
  |some z =>
   rw[e]at b2;dsimp only at b2;have c1:p.aD<n.ae.length:=(gE e).1;have c2:p.aT<z.to.length:=(gE b2).1;have hz:(n.ae.map Up.raw)[p.aD]?=some z.raw:=by rw[List.getElem?_map,e];rfl
   have hzt:z.raw.to[p.aT]?=some ((i:Int),(k:Int)):=by simp only[Up.raw,List.getElem?_map,b2];rfl
   have d1:p.raw.1=(p.aD:Int):=rfl;have d2:p.raw.2=(p.aT:Int):=rfl;simp only[bx,r4,d1,d2,ke,hz,hlen,hzt,ab,a_,Uq,decide_eq_false_iff_not];have e3:z.raw.to.length=z.to.length:=by simp[Up.raw]
   refine⟨⟨λe=>b1 ?_,⟨⟨by omega,by omega⟩,by omega⟩,by rw[e3];omega⟩,trivial⟩;have e1:=congrArg Prod.fst e;have e2:=congrArg Prod.snd e;simp only[d1,d2]at e1 e2;have hp1:p.aD=i:=by omega
   have hp2:p.aT=k:=by omega
   rw[<- hp1,<- hp2]
theorem Iw {pg:fX}(h:bY pg){n:aI}(ho:n.Ok):UM pg (E pg) 10 [.ag [.p (.sl (n.ae.map Up.aw)),.p (.i .i64 n.aV)]] G=some (.ret (.p (.i .i64 0)),G):=by
 have hb:=ho.bounds;have:=t10 (G:=G) h (n.ae.map Up.raw) n.aV (by simpa using hb.1) (λx hx=>by
  obtain⟨y,hy,rfl⟩:=bj.1 hx;have:=hb.2 y hy;simpa [Up.raw] using this)
 rw[ho.kK,sX]at this;exact this
theorem pM:∀l:List aO,(aO.df l).length=l.length
 |[]=>rfl
 |a::r=>by simp[aO.df,pM r]
set_option maxHeartbeats 1000000 in
theorem t3 (h8:sw)(l:List UK)(hl:l.length<2 ^ 63)(C fuel:Int) :
  E iE 3 [.ag [.p (.sl (l.map UK.aw)),.p (.i .i64 C)],.p (.i .i64 fuel)] []=some (.ret (.p (.b true)),[]):=by
 have h:=Xj;unfold sw at h8;rw[h.run (x:=c3)];cases c1:Xw l 120 with
 |false=>simp[c3,aj,h8,t9 h l C 120 hl,c1]
 |true =>
  have hr:=y6.of c1;cases c2:kK l C with
  |false=>simp[c3,aj,h8,t9 h l C 120 hl,c1,t10 h l C hr.len hr.aD,c2]
  |true =>
   by_cases c3':fuel<0
   ·simp[c3,aj,h8,t9 h l C 120 hl,c1,t10 h l C hr.len hr.aD,c2,c3']
   by_cases c4':60<fuel
   ·simp[c3,aj,h8,t9 h l C 120 hl,c1,t10 h l C hr.len hr.aD,c2,c3',c4']
   obtain⟨n,ho,e1,rfl⟩:=xU c1 c2;obtain⟨F,rfl⟩:∃F:Nat,fuel=F:=⟨fuel.toNat,by omega⟩
   have a9:=λG=>t9 (G:=G) h l n.aV 120 hl;have Cq:=λG=>t10 (G:=G) h l n.aV hr.len hr.aD;rw[c1]at a9;rw[c2]at Cq;rw[e1]at a9 Cq ⊢;simp only[cond_true]at Cq;have a11:=λG=>t11 (G:=G) ho true (F:=F) (by omega);have tO:=λG=>t11 (G:=G) ho false (F:=F) (by omega);have hsum:=XR eA ho true F;have hsum2:=XR eA ho false F;have hinv:=(VD eA ho true F).2.1;have hinv2:=(VD eA ho false F).2.1;have hfit:=ta ho true F;have hflat:=B1 (n:=n) (F:=F);have d10:=λG=>Iw (G:=G) h hinv.same.ok;have e10:=λG=>Iw (G:=G) h hinv2.same.ok;have hT:=hinv.ok.2.1;have hT2:=hinv2.ok.2.1;have Bl:=λG=>t12 (G:=G) h hT (by omega);have b12:=λG=>t12 (G:=G) h hT2 (by omega);obtain⟨t0,t1,t2,t3,t4,t5,t6,t7,t8,hTe⟩:∃t0 t1 t2 t3 t4 t5 t6 t7 t8,(bI n true F).1.T=[t0,t1,t2,t3,t4,t5,t6,t7,t8]:=by
    match (bI n true F).1.T,hT with
    |[t0,t1,t2,t3,t4,t5,t6,t7,t8],_=>exact⟨t0,t1,t2,t3,t4,t5,t6,t7,t8,rfl⟩
   obtain⟨u0,u1,u2,u3,u4,u5,u6,u7,u8,hTe2⟩:∃t0 t1 t2 t3 t4 t5 t6 t7 t8,(bI n false F).1.T=[t0,t1,t2,t3,t4,t5,t6,t7,t8]:=by
    match (bI n false F).1.T,hT2 with
    |[t0,t1,t2,t3,t4,t5,t6,t7,t8],_=>exact⟨t0,t1,t2,t3,t4,t5,t6,t7,t8,rfl⟩
   have c5:¬ (F:Int)<((bI n true F).1.d:Nat):=by omega
   have c5':¬ F<(bI n true F).1.d:=by omega
   have c6:¬ ((bI n true F).1.d:Int)<((bI n false F).1.d:Nat):=by omega
   have c6':¬ (bI n true F).1.d<(bI n false F).1.d:=by omega
   rw[hsum.1]at Bl;rw[hsum2.1]at b12;have k12:bC iE 12=false:=h.bq (x:=Ms) rfl;have k13:bC iE 13=false:=h.bq (x:=H6) rfl;by_cases c7:(bI n true F).2.1=0
   ·obtain⟨hag,hlz⟩:=AT eA ho c7;obtain⟨g1,g2,g3,g4,g5⟩:=hflat.2 c7;have g11:=λG=>t11 (G:=G) hinv.same.ok true (F:=0) (by omega);rw[hag]at g11;have Qr:=λG=>t14 (G:=G) h (bI n true F).1.cS hinv.same.ok.bounds;have Cr:=λG=>t13 h _ hfit (bI n true F).2.2.tm G;rw[show((bI n true F).2.2.tm.same (bI n true F).2.2.tm)=true from Tm.pL.2 rfl]at Cr;have Q0:=λG=>t15 h _ hfit G;rw[aO.CY,hlz]at Q0;rw[aO.v7]at Cr Q0;have z12:=λG=>t12 (G:=G) (T:=U4) h rfl (by simp[U4]);generalize hS1:(bI n true F).2.2=S1 at *;generalize hS2:(bI n false F).2.2=S2 at *;obtain⟨k1,n1,m1,l1⟩:=S1;obtain⟨k2,n2,m2,l2⟩:=S2;simp only[aO.ao,aO.n,aO.name,aO.parts]at g2 g3 g4 g5;subst g2 g3 g4;have g6:(aO.df l1).length=(aO.df l2).length:=by rw[pM,pM,g5]
    simp only[fu,ah c7,hS1,Vt,cJ,hTe,ai,au,aO.aw,bP]at a11 Bl;simp only[fu,ah g1,hS2,Vt,bP,cJ,hTe2,ai,au,aO.aw]at tO b12;simp only[fu,if_true,tT,cJ,U4,bP,ai,au,aO.aw,dK,V_,fW]at g11 z12;simp only[aO.aw,bP,ai,au]at Cr Q0;rw[c7]at a11;rw[g1]at tO;simp only[fW]at a11 tO;simp[c3,aj,h8,a9,Cq,c3',c4',a11,tO,d10,e10,Bl,b12,c5,c5',c6,c6',k12,eu,gC,eU,g11,g6,Qr,Cr,z12,Q0]
   ·obtain⟨q0,q1,q2,q3,hq,f3⟩:∃(q0 q1:Int) (q2:List UInt8) (q3:AV),(if (bI n false F).2.1=0 then AV.ag (List.map AV.p (bI n false F).2.2.aw) else AV.ag [.p (.i .i64 0),.p (.i .i64 0),.p (.s []),.aC])=AV.ag [.p (.i .i64 q0),.p (.i .i64 q1),.p (.s q2),q3]/\(q3=.aC\/∃l,q3=.p (.sl l)):=by
     obtain⟨k',n',m',l',e⟩:=(bI n false F).2.2.sv;split
     ·rw[e];exact⟨_,_,_,_,rfl,.inr ⟨_,rfl⟩⟩
     ·exact⟨_,_,_,_,rfl,.inl rfl⟩
    have c7':¬ ((bI n true F).2.1:Int)=0:=by omega
    simp only[fu,aa c7,Vt,cJ,hTe,ai,au]at a11 Bl;simp only[fu,Vt,bP,cJ,hTe2,ai,au]at tO b12;rw[hq]at tO;have Cr:∀G,UM iE (E iE) 13 [.ag [.p (.i .i64 0),.p (.i .i64 0),.p (.s []),.aC],.ag [.p (.i .i64 0),.p (.i .i64 0),.p (.s []),.aC]] G=some (.ret (.p (.b true)),G):=by
     intro G;have:=t13 h (.mk 0 0 [] []) (B8 _ _ _) (.mk 0 0 [] []) G;rw[show(Tm.mk 0 0 [] []).same (.mk 0 0 [] [])=true from rfl]at this;rw[<- this];refine oA λe=>?_;simp[k13,exp,aQ,Tm.aw,Tm.df,bP]
    rcases f3 with rfl|⟨l3,rfl⟩
    ·simp[c3,aj,h8,a9,Cq,c3',c4',a11,tO,d10,e10,Bl,b12,c5,c5',c6,c6',c7,c7',k12,eu,gC,eU,Cr]
    ·simp[c3,aj,h8,a9,Cq,c3',c4',a11,tO,d10,e10,Bl,b12,c5,c5',c6,c6',c7,c7',k12,eu,gC,eU,Cr]
end
def mW (W:World):Mem:=λb o=>W.cell? ⟨b,o,none⟩
def Cw (m:Mem)(cs:List Value)(ps:List PV):Prop:=cs.length=ps.length/\∀(j:Nat) (v:Value) (c:PV),cs[j]?=some v->ps[j]?=some c->RP m v c
theorem Cw.nil {m:Mem}:Cw m [] []:=⟨rfl,λj v c h=>by simp at h⟩
theorem Cw.cons {m:Mem}{v:Value}{c:PV}{cs:List Value}{ps:List PV}(h:RP m v c)(k:Cw m cs ps):Cw m (v::cs) (c::ps):=by
 refine⟨by simp[k.1],λj v' c' h1 h2=>?_⟩;cases j with
 |zero=>simp at h1 h2;subst h1 h2;exact h
 |succ j=>simp at h1 h2;exact k.2 j v' c' h1 h2
section
variable {H:Type}{aw:TypeId×Value->H}{P:Program}{W:World}{aK:Nat}{spare:Nat->Bool}{held:Bool}
theorem xW {α:Type}{t e:TypeId}{fuel:Nat}{cs:List Value}{x:DataW H×List MemPlace}{sz:Nat}(f:α->List PV)(Q:α->Prop)(ht:P.underlying t=some (.slice e))(hsz:P.cellsOf e=sz)(h0:0<sz)
  (hf:∀r,aS sz (f r)=true) (h:DataW.trod aw P W aK spare held fuel t cs=some x)
  (hE:∀n cs' y,fuel=n+1->DataW.trod aw P W aK spare held n e cs'=some y->cs'.length=sz->∃r:α,Q r/\Cw (mW W) cs' (f r)) :
  ∃a aV,∃l:List α,cs=[.slice a l.length aV]/\RP (mW W) (.slice a l.length aV) (.sl (l.map f))/\(∀r∈l,Q r)/\l.length<=maxLen:=by
 have hlen:∀r,(f r).length=sz:=λr=>by
  have:=hf r;simp only[aS,ab,cZ]at this;exact this.1
 rcases DataW.trod_slice ht h with ⟨rfl,_⟩|⟨a,len,aV,elems,rest,n,hn,rfl,_,hb,hl,hm,hel,hrow,_,_⟩
 ·refine⟨none,0,[],rfl,?_,by simp,by simp⟩;have:=RP.sl (m:=mW W) none 0 ([]:List (List PV)) sz (λ_ _=>.bool false) (by simp) (by simp[bH]) (by simp) (by simp);simpa using this
 ·have key:∀i:Fin len,∃r:α,Q r/\∀(j:Nat) (c:PV),(f r)[j]?=some c->a.spot=none/\∃v,W.cell? ⟨a.block,a.off+i * sz+j,none⟩=some v/\RP (mW W) v c:=by
   intro i;have hil:=i.2;have hi:=hrow i.1 i.2;rw[gG (by rw[hel];exact i.2),hsz]at hi;obtain⟨cs',h1,h2⟩:=UI.1 hi;obtain⟨_,h4,h5⟩:=World.cells?_some h1;obtain⟨r,hQ,hc,hr⟩:=hE n cs' _ hn h2 h4;have hsp:a.spot=none:=by
    have e:=h5 0 h0;rw[gG (by omega)]at e;have:=World.cell?_spot e;by_cases hi0:i.1 * sz=0
    ·simpa [Addr.add,hi0] using this
    ·have:=h5 0 h0;have e0:=hrow 0 (by omega);rw[gG (by omega),hsz]at e0;obtain⟨cs0,g1,_⟩:=UI.1 e0;obtain⟨_,g4,g5⟩:=World.cells?_some g1;have e:=g5 0 h0;rw[gG (by omega)]at e;have:=World.cell?_spot e;simpa [Addr.add] using this
   refine⟨r,hQ,λj c hj=>⟨hsp,?_⟩⟩;have hj':j<sz:=by
    have:=(gE hj).1;rw[hlen]at this;exact this
   have e:=h5 j hj';rw[gG (by omega)]at e;refine⟨_,?_,hr j _ c (gG (by omega)) hj⟩;rw[<- e]
   congr 1
   obtain⟨b,o,s⟩:=a;subst hsp;simp only[Addr.add]
   repeat' split
   all_goals (simp_all<;>omega)
  obtain⟨F,hF⟩:=lO key;refine⟨some a,aV,List.ofFn F,by simp,?_,?_,by simp;omega⟩
  ·have hget:∀(i:Nat) (r:List PV),((List.ofFn F).map f)[i]?=some r->∃hi:i<len,r=f (F ⟨i,hi⟩):=by
    intro i r hr;by_cases hi:i<len
    ·rw[List.getElem?_map,List.getElem?_ofFn,nW hi]at hr;exact⟨hi,(cT hr).symm⟩
    ·rw[List.getElem?_map,List.getElem?_ofFn,dif_neg hi]at hr;cases hr
   have:=RP.sl (m:=mW W) (some a) aV ((List.ofFn F).map f) sz (λi j=>(W.cell? ⟨a.block,a.off+i * sz+j,none⟩).getD undef) (by simp;omega)
    (by simp only[bH,bc];intro r hr;obtain⟨q,_,rfl⟩:=bj.1 hr;exact hf q)
    (λhne=>?_) (λi j r c h1 h2=>?_)
   ·simpa using this
   ·have hpos:0<len:=by
     cases len with
     |zero=>simp at hne
     |succ k=>omega
    have hs:a.spot=none:=by
     have hk:0<(f (F ⟨0,hpos⟩)).length:=by rw[hlen];exact h0
     exact((hF ⟨0,hpos⟩).2 0 _ (gG hk)).1
    refine⟨a.block,a.off,by obtain⟨b,o,s⟩:=a;cases hs;rfl,λi j r c h1 h2=>?_⟩;obtain⟨hi,rfl⟩:=hget i r h1;obtain⟨_,v,hv,_⟩:=(hF ⟨i,hi⟩).2 j c h2;simp only[mW];rw[hv];rfl
   ·obtain⟨hi,rfl⟩:=hget i r h1;obtain⟨_,v,hv,hr⟩:=(hF ⟨i,hi⟩).2 j c h2;simp only[hv,Option.getD_some];exact hr
  ·intro r hr;obtain⟨i,rfl⟩:=List.mem_ofFn.1 hr;exact(hF i).1
end
section
variable {pg:fX}{G:Heap}
theorem D2:aS 6 [iv 0,iv 0,iv 0,.s [],.sl [],.sl []]=true:=rfl
theorem qh:aS 3 [iv 0,iv 0,iv 0]=true:=rfl
theorem FW:aS 2 [iv 0,iv 0]=true:=rfl
theorem JM:aS 2 [.s [],iv 0]=true:=rfl
def wa (n:aI)(i:Nat):Heap:=[.box [.p (.sl (n.ae.map Up.aw)),.p (.i .i64 n.aV)],.box [.aC,.p (.i .i64 0)],.box [.arr 3 i (i-1),.p (.i .i64 n.aV)],.arr 6 ((n.ae.take i).map Up.aw) (i-1) 0]
theorem OR (h:bY pg){body:aU}(hb:body=X6){n:aI}(hl:n.ae.length<2 ^ 30):∀m i,1<=i->i+m=n.ae.length ->
  L pg 0 [1,2,3,4] body [(1,.ptr 0 0),(2,.ptr 1 0),(3,.ptr 2 0),(4,.p (.i .i64 (i:Nat)))] (wa n i)=some (.exit 0,[(1,.ptr 0 0),(2,.ptr 1 0),(3,.ptr 2 0),(4,.p (.i .i64 n.ae.length)),(12,.p (.b false))],wa n n.ae.length)
 |0,i,h1,hi=>by
  have:i=n.ae.length:=by omega
  subst this;rw[dA hb];simp[X6,aj,wa]
 |m+1,i,h1,hi=>by
  have hlt:i<n.ae.length:=by omega
  have ih:=OR h hb hl m (i+1) (by omega) (by omega);rw[show((i+1:Nat):Int)=(i:Int)+1 from by omega]at ih;have e0:=sW n.ae[i];have e2:n.ae[i].aw.length=6:=by cases n.ae[i];rfl
  have e3:n.ae[i].aw.take 6=n.ae[i].aw:=by cases n.ae[i];rfl
  have e4:∀G,cO G (.ag (List.map AV.p n.ae[i].aw))=some (n.ae[i].aw,G):=by
   intro G;cases n.ae[i];rfl
  have e5:List.take (i+1) n.ae=List.take i n.ae++[n.ae[i]]:=by rw[cG,gG hlt];rfl
  have e6:i-1+1=i:=by omega
  have e7:bZ (i+1) 88=true:=by simp[bZ];omega
  have e8:∀l:List (List PV),List.take i (List.take i l)=List.take i l:=λl=>by rw[eQ,Wa]
  have e9:i<=n.ae.length:=by omega
  have e10:List.take n.ae.length (List.map Up.aw n.ae)=List.map Up.aw n.ae:=aF (by simp);rw[dA hb];unfold wa at ih ⊢;simp only[show i+1-1=i from by omega,e5,bB,da,ai,au]at ih;simp[X6,aj,hlt,e0,e2,e3,bP,Uu.Uv,e4,cX,e6,e7,e8,e9,bH,D2,cR ((i:Int)+1),gc,exp,aQ,UG,ih,e10]
theorem Oh (h:bY pg){body:aU}(hb:body=X6){n:aI}(hl:n.ae.length<2 ^ 30)(h1:1<=n.ae.length) :
  L pg 0 [1,2,3,4] body [(1,.ptr 0 0),(2,.ptr 1 0),(3,.ptr 2 0),(4,.p (.i .i64 0))] [.box [.p (.sl (n.ae.map Up.aw)),.p (.i .i64 n.aV)],.box [.aC,.p (.i .i64 0)],.box [.aC,.p (.i .i64 n.aV)]]=some (.exit 0,[(1,.ptr 0 0),(2,.ptr 1 0),(3,.ptr 2 0),(4,.p (.i .i64 n.ae.length)),(12,.p (.b false))],wa n n.ae.length):=by
 have hL:=OR h hb hl (n.ae.length-1) 1 (by omega) (by omega);have hpos:(0:Int)<(n.ae.length:Int):=by omega
 have hpos':0<n.ae.length:=by omega
 have e0:=sW n.ae[0];have e2:n.ae[0].aw.length=6:=by cases n.ae[0];rfl
 have e3:n.ae[0].aw.take 6=n.ae[0].aw:=by cases n.ae[0];rfl
 have e4:∀G,cO G (.ag (List.map AV.p n.ae[0].aw))=some (n.ae[0].aw,G):=by
  intro G;cases n.ae[0];rfl
 have e5:List.take 1 n.ae=[n.ae[0]]:=by rw[cG,gG (by omega)];rfl
 have e7:bZ 1 88=true:=by rfl
 unfold wa at hL ⊢;simp only[e5,ai,au,WW,fx]at hL;rw[dA hb];simp[X6,aj,hpos,hpos',e0,e2,e3,bP,Uu.Uv,e4,cX,e7,bH,D2,cR 1,gc,exp,aQ,UG,hL]
theorem P2 (h:bY pg){n:aI}(hl:n.ae.length<2 ^ 30)(h1:1<=n.ae.length) :
  E pg 96 [.ag [.p (.sl (n.ae.map Up.aw)),.p (.i .i64 n.aV)]] []=some (.ret (.ag [.arr 3 n.ae.length (n.ae.length-1),.p (.i .i64 n.aV)]),[.box [.p (.sl (n.ae.map Up.aw)),.p (.i .i64 n.aV)],.box [.arr 3 n.ae.length (n.ae.length-1),.p (.i .i64 n.aV)],.box [.arr 3 n.ae.length (n.ae.length-1),.p (.i .i64 n.aV)],.arr 6 (n.ae.map Up.aw) (n.ae.length-1) 0]):=by
 have hL:=Oh (body:=X6) h rfl hl h1;rw[h.run (x:=M7)];simp[M7,aj,gc,exp,aQ,UG];rw[hL];simp[wa,aj]
theorem t96 (h:bY pg){n:aI}(hl:n.ae.length<2 ^ 30)(h1:1<=n.ae.length) :
  UM pg (E pg) 96 [.ag [.p (.sl (n.ae.map Up.aw)),.p (.i .i64 n.aV)]] G=some (.ret (.ag [.arr (G.length+3) n.ae.length (n.ae.length-1),.p (.i .i64 n.aV)]),G++[.box [.p (.sl (n.ae.map Up.aw)),.p (.i .i64 n.aV)],.box [.arr (G.length+3) n.ae.length (n.ae.length-1),.p (.i .i64 n.aV)],.box [.arr (G.length+3) n.ae.length (n.ae.length-1),.p (.i .i64 n.aV)],.arr 6 (n.ae.map Up.aw) (n.ae.length-1) 0]):=by
 rw[vF (P2 h hl h1) rfl];simp[Out.back,back,dh,UL,bD,b_]
theorem OS (h:bY pg){body:aU}(hb:body=YJ){n:aI}(hl:n.ae.length<2 ^ 40):∀m i,i+m=n.ae.length ->
  L pg 0 [1,3,4] body [(1,.ptr 0 0),(3,.p (.i .i64 ((n.ae.take i).countP λx=>decide (x.ao≠0)))),(4,.p (.i .i64 (i:Nat)))] [.box [.p (.sl (n.ae.map Up.aw)),.p (.i .i64 n.aV)]]=some (.exit 0,[(1,.ptr 0 0),(3,.p (.i .i64 n.used)),(4,.p (.i .i64 n.ae.length)),(9,.p (.b false))],[.box [.p (.sl (n.ae.map Up.aw)),.p (.i .i64 n.aV)]])
 |0,i,hi=>by
  have:i=n.ae.length:=by omega
  subst this;rw[dA hb];simp[YJ,aj,aI.used]
 |m+1,i,hi=>by
  have hlt:i<n.ae.length:=by omega
  have ih:=OS h hb hl m (i+1) (by omega);rw[show((i+1:Nat):Int)=(i:Int)+1 from by omega]at ih;have e0:=sW n.ae[i];have e5:List.take (i+1) n.ae=List.take i n.ae++[n.ae[i]]:=by rw[cG,gG hlt];rfl
  have hc:(n.ae.take i).countP (λx=>decide (x.ao≠0))<=i:=cm gu (by simp;omega);rw[e5,jO]at ih;rw[dA hb];generalize hcc:(n.ae.take i).countP (λx=>decide (x.ao≠0))=cc at *;simp only[Up.aw]at e0;by_cases hz:n.ae[i].ao=0
  ·have hz':(n.ae[i].ao:Int)=0:=by omega
   simp[hz]at ih;simp[YJ,aj,hlt,Up.aw,e0,hz,hz',cR ((i:Int)+1),D2,okW,gc,exp,aQ,UG];exact ih
  ·have hz':¬ (n.ae[i].ao:Int)=0:=by omega
   simp[hz]at ih;simp[YJ,aj,hlt,Up.aw,e0,hz,hz',cR ((i:Int)+1),cR ((cc:Int)+1),gc,exp,aQ,UG];exact ih
theorem t95 (h:bY pg){n:aI}(hl:n.ae.length<2 ^ 40):UM pg (E pg) 95 [.ag [.p (.sl (n.ae.map Up.aw)),.p (.i .i64 n.aV)]] G=some (.ret (.p (.i .i64 n.used)),G):=by
 refine Ut ?_ rfl rfl;have hL:=OS h rfl hl n.ae.length 0 (by omega);simp only[mF,List.countP_nil,fW]at hL;rw[h.run (x:=MF)];simp[MF,aj,gc,exp,aQ,UG,hL]
theorem xX (l:List (List UInt8×Nat)):(l.map k_).map Ap=l.map Ux:=by rw[UJ];rfl
theorem xY (l:List aq):(l.map aq.raw).map Fw=l.map aq.aw:=by rw[UJ];rfl
theorem Oi (h:bY pg){k l:Nat}{n:Int}{name:List UInt8}{aY:List (List UInt8×Nat)}{to:List aq}(hx:(Up.mk k l n name aY to).ok=true) :
  UM pg (E pg) 28 [.ag [.p (.i .i64 k),.p (.i .i64 l),.p (.i .i64 n),.p (.s name),.p (.sl (aY.map Ux)),.p (.sl (to.map aq.aw))]] G=some (.ret (.p (.b true)),G):=by
 have:=t28 (G:=G) h k l n name (aY.map k_) (to.map aq.raw) (by have:=Up.gS hx;dsimp only at this;simp;omega);rw[xX,xY]at this;have e:=Up.FV hx;simp only[Up.raw]at e;rw[this,e]
theorem Oj (h:bY pg){k l:Nat}{n:Int}{name:List UInt8}{aY:List (List UInt8×Nat)}{to:List aq}(hx:(Up.mk k l n name aY to).ok=true) :
  UM pg (E pg) 29 [.ag [.p (.i .i64 k),.p (.i .i64 l),.p (.i .i64 n),.p (.s name),.p (.sl (aY.map Ux)),.p (.sl (to.map aq.aw))]] G=some (.ret (.p (.i .i64 ((Up.mk k l n name aY to).bO:Nat))),G):=by
 have:=t29 (G:=G) h k l n name (aY.map k_) (to.map aq.raw) (by have:=Up.gS hx;dsimp only at this;simp;omega);rw[xX,xY]at this;have e:=xV ⟨k,l,n,name,aY,to⟩;simp only[Up.raw]at e;rw[this,e]
def JN (n:aI)(x:Up)(r:AV)(rc:Int)(ay:List (List PV))(sa sb:Nat):Heap :=
 [.box [.p (.i .i64 x.ao),.p (.i .i64 x.Us),.p (.i .i64 x.n),.p (.s x.name),.arr 3 x.aY.length 1,.arr 4 x.bO 0],.box [r,.p (.i .i64 rc)],.box [.arr 5 n.ae.length (n.ae.length-1),.p (.i .i64 n.aV)],.arr 2 (x.aY.map Ux) 1 sa,.arr 2 (List.replicate x.bO [iv 0,iv 0]) 0 sb,.arr 6 ay (n.ae.length-1) 0]
theorem xZ (x:Up):x.d_.aw=[iv x.ao,iv x.Us,iv x.n,.s x.name,.sl (x.aY.map Ux),.sl (List.replicate x.bO [iv 0,iv 0])]:=by
 unfold Up.aw Up.d_;simp[aq.aw]
theorem OT (h:bY pg){body:aU}(hb:body=YH){n:aI}{x:Up}(hl:n.ae.length<2 ^ 30):∀m i,i+m=n.ae.length ->
  L pg 0 [3,4,7,8] body [(3,.ptr 0 0),(4,.ptr 1 0),(7,.ptr 2 0),(8,.p (.i .i64 (i:Nat)))] (JN n x .aC 0 (n.ae.map Up.aw) 0 0) =
   some (match (n.ae.drop i).findIdx? (λx=>decide (x.ao=0)) with
    |some k=>(.ret,[(4,.ptr 1 0),(5,.p (.i .i64 (i+k:Nat))),(6,.p (.i .i64 0))],JN n x (.arr 5 n.ae.length (n.ae.length-1)) n.aV ((n.ae.map Up.aw).set (i+k) x.d_.aw) x.aY.length x.bO)
    |none=>(.exit 0,[(3,.ptr 0 0),(4,.ptr 1 0),(7,.ptr 2 0),(8,.p (.i .i64 n.ae.length)),(39,.p (.b false))],JN n x .aC 0 (n.ae.map Up.aw) 0 0))
 |0,i,hi=>by
  have:i=n.ae.length:=by omega
  subst this;rw[dA hb];simp[YH,aj,JN]
 |m+1,i,hi=>by
  have hlt:i<n.ae.length:=by omega
  have hd:n.ae.drop i=n.ae[i]::n.ae.drop (i+1):=aM hlt;have ih:=OT (x:=x) h hb hl m (i+1) (by omega);rw[show((i+1:Nat):Int)=(i:Int)+1 from by omega]at ih;have hge:(n.ae.map Up.aw)[i]?=some n.ae[i].aw:=by rw[List.getElem?_map,gG hlt];rfl
  rw[dA hb,hd,List.findIdx?_cons];by_cases hz:n.ae[i].ao=0
  ·have hz':(n.ae[i].ao:Int)=0:=by omega
   have hr:x.d_.aw=[iv x.ao,iv x.Us,iv x.n,.s x.name,.sl (x.aY.map Ux),.sl (List.replicate x.bO [iv 0,iv 0])]:=xZ x;have t1:List.take x.aY.length (List.map Ux x.aY)=List.map Ux x.aY:=aF (by simp);have t2:List.take x.bO (List.replicate x.bO [iv 0,iv 0])=List.replicate x.bO [iv 0,iv 0]:=aF (by simp);have e2:n.ae[i].aw.length=6:=by cases n.ae[i];rfl
   have e5:n.ae[i].aw.drop 6=[]:=by cases n.ae[i];rfl
   have e3:n.ae[i].aw[0]?=some (iv n.ae[i].ao):=rfl;have e4:n.ae[i].aw[0]=iv n.ae[i].ao:=rfl;simp[YH,aj,JN,hlt,hz,hz',hge,e2,e3,e4,cO,ee,Vy,t1,t2,hr,e5]
  ·have hz':¬ (n.ae[i].ao:Int)=0:=by omega
   have e2:n.ae[i].aw.length=6:=by cases n.ae[i];rfl
   have e5:n.ae[i].aw.drop 6=[]:=by cases n.ae[i];rfl
   have e3:n.ae[i].aw[0]?=some (iv n.ae[i].ao):=rfl;have e4:n.ae[i].aw[0]=iv n.ae[i].ao:=rfl;unfold JN at ih ⊢;simp[YH,aj,hlt,hz,hz',hge,e2,e3,e4,cR ((i:Int)+1),gc,exp,aQ,UG,ih];cases (n.ae.drop (i+1)).findIdx? (λx=>decide (x.ao=0)) with
   |none=>simp
   |some k=>simp[show i+1+k=i+(k+1) from by omega];omega
theorem Yp {x:Up}(hx:x.ok=true)(hl:x.ao=8->x.to.length<=9):x.bO<=10:=by
 have h1:=Up.gS hx;have h2:=rX x.ao;unfold Up.bO;split
 ·have:=hl (by assumption);omega
 ·split<;>omega
theorem Ix {x:Up}(hx:x.ok=true):x.ao=8->x.to.length<=9:=by
 intro e;simp only[Up.ok,ab,UP,a_,Uq,decide_eq_false_iff_not]at hx;rcases hx.2 with h|h
 ·exact absurd e h
 ·exact h.2
def aI.nN (n:aI)(x:Up):aI×Nat×Nat:=if n.used<n.aV then (n.make x,n.cg,0) else (n,0,121)
def fv (r:aI×Nat×Nat):Out:=.ret (.dF [.ag [.p (.sl (r.1.ae.map Up.aw)),.p (.i .i64 r.1.aV)],.p (.i .i64 r.2.1),.p (.i .i64 r.2.2)])
theorem t69 (h:bY pg){n:aI}{x:Up}(hl:n.ae.length<2 ^ 30)(h1:1<=n.ae.length)(hk:2<=x.ao)(hx:x.ok=true) :
  UM pg (E pg) 69 [.ag [.p (.sl (n.ae.map Up.aw)),.p (.i .i64 n.aV)],.ag [.p (.i .i64 x.ao),.p (.i .i64 x.Us),.p (.i .i64 x.n),.p (.s x.name),.p (.sl (x.aY.map Ux)),.p (.sl (x.to.map aq.aw))]] G=some (fv (n.nN x),G):=by
 have hb:(fv (n.nN x)).bf 0=true:=by unfold fv;rfl
 refine Ut ?_ rfl hb;have e28:=λG=>Oi (G:=G) (k:=x.ao) (l:=x.Us) (n:=x.n) (name:=x.name) (aY:=x.aY) (to:=x.to) h hx;have e29:=λG=>Oj (G:=G) (k:=x.ao) (l:=x.Us) (n:=x.n) (name:=x.name) (aY:=x.aY) (to:=x.to) h hx;have hkk:¬ (x.ao:Int)<2:=by omega
 have hkn:¬ x.ao<2:=by omega
 have hp:=Yp hx (Ix hx);have ha:=Up.gS hx;have r1:bZ x.bO 16=true:=by simp[bZ];omega
 have r2:bZ x.aY.length 24=true:=by simp[bZ];omega
 have r3:bZ (n.ae.length+1) 88=true:=by simp[bZ];omega
 have k95:bC pg 95=false:=h.bq (x:=MF) rfl;have ok1:=fA Fv x.aY;rw[h.run (x:=MC)];unfold aI.nN;by_cases hu:n.used<n.aV
 ·have hu1:¬ (n.aV:Int)<=n.used:=by omega
  have hu2:¬ n.aV<=n.used:=by omega
  have hL:=OT (x:=x) h rfl hl n.ae.length 0 (by omega);simp only[JN,fW,bp,aG]at hL;rw[ah hu];simp[MC,aj,e28,e29,hkk,hkn,t95 (n:=n) h (by omega),k95,hu1,hu2,t96 h hl h1,r1,r2,FW,JM,Uu.Uv,cX,ok1,gc,exp,aQ,UG];rw[show(⟨x.ao,x.Us,x.n,x.name,x.aY,x.to⟩:Up)=x from rfl,hL];have hfr:=xZ x;cases hf:n.ae.findIdx? (λx=>decide (x.ao=0)) with
  |some k =>
   obtain⟨k1,_,_⟩:=List.findIdx?_eq_some_iff_getElem.1 hf;have hpl:n.cg=k:=by unfold aI.cg;rw[hf];rfl
   have hmk:(n.make x).ae.map Up.aw=(n.ae.map Up.aw).set k x.d_.aw:=by
    unfold aI.make;rw[hpl,ah k1];simp[cz]
   have t3:List.take n.ae.length ((n.ae.map Up.aw).set k x.d_.aw)=(n.ae.map Up.aw).set k x.d_.aw:=aF (by simp);simp[aj,fv,hmk,hpl,t3,aI.nG]
  |none =>
   have hpl:n.cg=n.ae.length:=by unfold aI.cg;rw[hf];rfl
   have hmk:(n.make x).ae.map Up.aw=n.ae.map Up.aw++[x.d_.aw]:=by
    unfold aI.make;rw[hpl,aa (by omega)];simp
   have t1:List.take x.aY.length (List.map Ux x.aY)=List.map Ux x.aY:=aF (by simp);have t2:List.take x.bO (List.replicate x.bO [iv 0,iv 0])=List.replicate x.bO [iv 0,iv 0]:=aF (by simp);have t3:List.take n.ae.length (n.ae.map Up.aw)=n.ae.map Up.aw:=aF (by simp);simp[aj,fv,hmk,hpl,t1,t2,t3,Uu.Uv,D2,cO,ee,Vy,cX,hfr,bH,okW,r3,cR (n.ae.length:Int),Nat.beq,aI.nG];exact aF (by simp)
 ·have hu1:(n.aV:Int)<=n.used:=by omega
  have hu2:n.aV<=n.used:=by omega
  rw[aa hu];simp[MC,aj,e28,hkk,hkn,t95 (n:=n) h (by omega),k95,hu1,hu2,fv]
theorem t39 (h:bY pg)(a b:Int):UM pg (E pg) 39 [.p (.i .i64 a),.p (.i .i64 b)] G=some (.ret (.ag [.p (.i .i64 a),.p (.i .i64 b)]),G):=by
 refine Ut ?_ rfl rfl;rw[h.run (x:=Mz)];simp[Mz,aj]
theorem Yq (h:bY pg):bC pg 39=false:=h.bq (x:=Mz) rfl
def aI.hasB (n:aI)(p:aq):Bool:=match n.ae[p.aD]? with
 |some x=>decide (p.aT<x.to.length)
 |none=>false
theorem aI.sy {n:aI}{p:aq}:n.hasB p=true↔n.has p:=by
 unfold aI.hasB aI.has;cases n.ae[p.aD]? with
 |none=>simp
 |some x=>simp
theorem Hx (h:bY pg)(n:aI)(p:aq):UM pg (E pg) 30 [.ag [.p (.sl (n.ae.map Up.aw)),.p (.i .i64 n.aV)],.ag [.p (.i .i64 p.aD),.p (.i .i64 p.aT)]] G=some (.ret (.p (.b (n.hasB p))),G):=by
 have:=t30 (G:=G) h (n.ae.map Up.raw) n.aV p.aD p.aT;rw[sX]at this;rw[this];have e:r4 (n.ae.map Up.raw) ((p.aD:Int),(p.aT:Int))=n.hasB p:=by
  unfold r4 aI.hasB;simp only[ke,List.getElem?_map,cU];cases e:n.ae[p.aD]? with
  |none=>simp
  |some x =>
   have:=(gE e).1;simp[Up.raw];omega
 rw[e]
def aI.bx (n:aI)(p q:aq):aI:=if n.hasB p && n.hasB q && !decide (p=q) then n.link p q else n
theorem t74 (h:bY pg){n:aI}{p q:aq}(hl:n.ae.length<2 ^ 30){x:Up}(hx:n.ae[p.aD]?=some x)(hxl:p.aT<x.to.length)(hxs:x.to.length<2 ^ 20) :
  UM pg (E pg) 74 [.ag [.p (.sl (n.ae.map Up.aw)),.p (.i .i64 n.aV)],.ag [.p (.i .i64 p.aD),.p (.i .i64 p.aT)],.ag [.p (.i .i64 q.aD),.p (.i .i64 q.aT)]] G=some (.ret (.ag [.p (.sl ((n.put p q).ae.map Up.aw)),.p (.i .i64 (n.put p q).aV)]),G):=by
 refine Ut ?_ rfl rfl;have hi:p.aD<n.ae.length:=(gE hx).1;have hi':n.ae[p.aD]=x:=(gE hx).2;have r1:bZ x.to.length 16=true:=by simp[bZ];omega
 have ok1:=fA vw x.to;have t1:List.take n.ae.length (n.ae.map Up.aw)=n.ae.map Up.aw:=aF (by simp);have hE:x.aw=[iv x.ao,iv x.Us,iv x.n,.s x.name,.sl (x.aY.map Ux),.sl (x.to.map aq.aw)]:=rfl;have hpe:(x.to[p.aT]).aw=[iv x.to[p.aT].aD,iv x.to[p.aT].aT]:=rfl;have hs:(n.put p q).ae.map Up.aw=(n.ae.map Up.aw).set p.aD [iv x.ao,iv x.Us,iv x.n,.s x.name,.sl (x.aY.map Ux),.sl ((x.to.map aq.aw).set p.aT [iv q.aD,iv q.aT])]:=by
  rw[aI.xB hx,cz]
  congr 1
  simp[Up.aw,Up.oZ,cz,aq.aw]
 have t2:List.take x.to.length ((x.to.map aq.aw).set p.aT [iv q.aD,iv q.aT])=(x.to.map aq.aw).set p.aT [iv q.aD,iv q.aT]:=aF (by simp);have t3:∀r,List.take n.ae.length ((n.ae.map Up.aw).set p.aD r)=(n.ae.map Up.aw).set p.aD r:=λr=>aF (by simp);rw[h.run (x:=MD)];simp[MD,aj,t96 h hl (by omega),hi,hx,hi',hE,hxl,hpe,t1,t2,t3,FW,r1,ok1,Uu.Uv,cX,cO,ee,Vy,hs,aI.j6]
theorem aI.dq (n:aI)(p q:aq):(n.bx p q).aV=n.aV:=by
 unfold aI.bx aI.link;split
 ·rw[aI.j6,aI.j6]
 ·rfl
theorem t53 (h:bY pg){n:aI}{p q:aq}(hT:n.XB) :
  UM pg (E pg) 53 [.ag [.p (.sl (n.ae.map Up.aw)),.p (.i .i64 n.aV)],.ag [.p (.i .i64 p.aD),.p (.i .i64 p.aT)],.ag [.p (.i .i64 q.aD),.p (.i .i64 q.aT)]] G=some (.ret (.dF [.ag [.p (.sl ((n.bx p q).ae.map Up.aw)),.p (.i .i64 (n.bx p q).aV)],.p (.i .i64 (if n.hasB p && n.hasB q && !decide (p=q) then 0 else 130))]),G):=by
 refine Ut ?_ rfl rfl;have k74:bC pg 74=false:=h.bq (x:=MD) rfl;rw[h.run (x:=Kz)];unfold aI.bx;cases c1:n.hasB p with
 |false=>simp[Kz,aj,Hx h,c1]
 |true =>
  cases c2:n.hasB q with
  |false=>simp[Kz,aj,Hx h,c1,c2]
  |true =>
   by_cases c3:p=q
   ·subst c3;simp[Kz,aj,Hx h,c1]
   ·obtain⟨x,hx,hxl⟩:=aI.sy.1 c1;obtain⟨y,hy,hyl⟩:=(aI.rY (p:=p) (q:=q)).2 (aI.sy.1 c2);have hT2:=hT.put p q;have a1:=λG=>t74 (G:=G) (q:=q) h (by have:=hT.1;omega) hx hxl (hT.2 _ _ hx);have a2:=λG=>t74 (G:=G) (q:=p) h (by have:=hT2.1;omega) hy hyl (hT2.2 _ _ hy);rw[aI.j6]at a2;have c4:(decide ((p.aD:Int)=q.aD) && decide ((p.aT:Int)=q.aT))=false:=by
     rw[US];intro e;simp only[Uq]at e;simp only[decide_eq_false_iff_not];exact λe'=>c3 (by cases p;cases q;simp at e e' ⊢;omega)
    have c4':(decide (p.aD=q.aD) && decide (p.aT=q.aT))=false:=by
     rw[US];intro e;simp only[Uq]at e;simp only[decide_eq_false_iff_not];exact λe'=>c3 (by cases p;cases q;simp at e e' ⊢;omega)
    simp[Kz,aj,Hx h,c1,c2,c3,c4,c4',a1,a2,k74,aI.link,aI.j6]
theorem t38 (h:bY pg){n:aI}{p q:aq}(hT:n.XB) :
  UM pg (E pg) 38 [.ag [.p (.sl (n.ae.map Up.aw)),.p (.i .i64 n.aV)],.ag [.p (.i .i64 p.aD),.p (.i .i64 p.aT)],.ag [.p (.i .i64 q.aD),.p (.i .i64 q.aT)]] G=some (.ret (.ag [.p (.sl ((n.bx p q).ae.map Up.aw)),.p (.i .i64 (n.bx p q).aV)]),G):=by
 refine Ut ?_ rfl rfl;rw[h.run (x:=My)];simp[My,aj,t53 h hT]
theorem KF (h:bY pg):bC pg 38=false:=h.bq (x:=My) rfl
def aI.bK (n:aI)(x:Up):aI×Nat×Nat:=if 60<x.Us then (n,0,141) else n.nN x
theorem t50 (h:bY pg){n:aI}{x:Up}(hl:n.ae.length<2 ^ 30)(h1:1<=n.ae.length)(hk:2<=x.ao)(hx:x.Us<=60->x.ok=true) :
  UM pg (E pg) 50 [.ag [.p (.sl (n.ae.map Up.aw)),.p (.i .i64 n.aV)],.ag [.p (.i .i64 x.ao),.p (.i .i64 x.Us),.p (.i .i64 x.n),.p (.s x.name),.p (.sl (x.aY.map Ux)),.p (.sl (x.to.map aq.aw))]] G=some (fv (n.bK x),G):=by
 have hb:(fv (n.bK x)).bf 0=true:=by unfold fv;rfl
 refine Ut ?_ rfl hb;rw[h.run (x:=Ky)];unfold aI.bK;by_cases c:60<x.Us
 ·have c':(60:Int)<x.Us:=by omega
  rw[ah c];simp[Ky,aj,c,c',fv]
 ·have c':¬ (60:Int)<x.Us:=by omega
  have Ri:=λG=>t69 (G:=G) h hl h1 hk (hx (by omega));rw[aa c];generalize hr:n.nN x=r at *;obtain⟨m,i,e⟩:=r;simp only[fv]at Ri;simp[Ky,aj,c,c',Ri,fv]
def cB (e:Int):List AV:=[.aC,.p (.i .i64 0),.p (.i .i64 0),.p (.i .i64 0),.aC,.p (.i .i64 e)]
theorem t70 (h:bY pg)(e:Int):UM pg (E pg) 70 [.p (.i .i64 e)] G=some (.ret (.ag (cB e)),G++[.box (cB e)]):=by
 have hs:E pg 70 [.p (.i .i64 e)] []=some (.ret (.ag (cB e)),[.box (cB e)]):=by
  rw[h.run (x:=M3)];simp[M3,aj,cB]
 rw[vF hs rfl];simp[Out.back,back,dh,UL,bD,b_,cB]
structure bW where
 v:Nat
 p:aq
 deriving DecidableEq,Inhabited
def bW.aw (e:bW):List PV:=[iv e.v,iv e.p.aD,iv e.p.aT]
theorem A0 (a:bW):aS 3 a.aw=true:=by simp[bW.aw,aS,PV.flat]
def jT (l:List bW)(v:Nat):Option Nat:=l.findIdx? λx=>decide (x.v=v)
theorem OU (h:bY pg){body:aU}(hb:body=YI){l:List bW}{v:Nat}(hl:l.length<2 ^ 40):∀m i,i+m=l.length ->
  L pg 0 [0,1,5] body [(0,.p (.sl (l.map bW.aw))),(1,.p (.i .i64 v)),(5,.p (.i .i64 (i:Nat)))] [] =
   some (match (l.drop i).findIdx? (λx=>decide (x.v=v)) with
    |some k=>(.ret,[(4,.p (.i .i64 (i+k:Nat)))],[])
    |none=>(.exit 0,[(0,.p (.sl (l.map bW.aw))),(1,.p (.i .i64 v)),(5,.p (.i .i64 l.length)),(9,.p (.b false))],[]))
 |0,i,hi=>by
  have:i=l.length:=by omega
  subst this;rw[dA hb];simp[YI,aj]
 |m+1,i,hi=>by
  have hlt:i<l.length:=by omega
  have hd:l.drop i=l[i]::l.drop (i+1):=aM hlt;have ih:=OU (v:=v) h hb hl m (i+1) (by omega);rw[show((i+1:Nat):Int)=(i:Int)+1 from by omega]at ih;have e0:=A0 l[i];simp only[bW.aw]at e0;rw[dA hb,hd,List.findIdx?_cons];by_cases hz:l[i].v=v
  ·have hz':(l[i].v:Int)=v:=by omega
   simp[YI,aj,hlt,bW.aw,e0,Ur hz,Ur hz']
  ·have hz':¬ (l[i].v:Int)=v:=by omega
   simp[YI,aj,hlt,bW.aw,e0,az hz,az hz',cR ((i:Int)+1),gc,exp,aQ,UG];rw[ih];cases (l.drop (i+1)).findIdx? (λx=>decide (x.v=v)) with
   |none=>simp
   |some k=>simp[show i+1+k=i+(k+1) from by omega]
theorem OV (h:bY pg){l:List bW}{v:Nat}(hl:l.length<2 ^ 40):E pg 71 [.p (.sl (l.map bW.aw)),.p (.i .i64 v)] []=some (.ret (.p (.i .i64 (dB (jT l v)))),[]):=by
 have hL:=OU (v:=v) h rfl hl l.length 0 (by omega);simp only[fW,bp,aG]at hL;rw[h.run (x:=KV)];unfold jT;simp[KV,aj,gc,exp,aQ,UG];rw[hL];cases l.findIdx? (λx=>decide (x.v=v)) with
 |none=>simp[aj,dB]
 |some k=>simp[aj,dB]
def dy (x:bW):Bool->List bW->List bW×Bool
 |b,[]=>([],b)
 |true,y::r=>(y::(dy x true r).1,true)
 |false,y::r=>if x.v<y.v then (x::y::(dy x true r).1,true) else (y::(dy x false r).1,(dy x false r).2)
def Vr (l:List bW)(x:bW):List bW:=if (dy x false l).2 then (dy x false l).1 else (dy x false l).1++[x]
def U0 (x:bW):List AV:=[.p (.i .i64 x.v),.p (.i .i64 x.p.aD),.p (.i .i64 x.p.aT)]
theorem fK (x:bW):∀r,dy x true r=(r,true)
 |[]=>rfl
 |y::r=>by simp[dy,fK x r]
theorem rj (x:bW):∀(b:Bool) (r:List bW),(dy x b r).1.length<=r.length+1
 |b,[]=>by simp[dy]
 |true,y::r=>by rw[fK];simp
 |false,y::r=>by
  simp only[dy];split
  ·rw[fK];simp
  ·have:=rj x false r;simp;omega
theorem MI (h:bY pg){body:aU}(hb:body=xA){l:List bW}{x:bW}(hl:l.length<2 ^ 20):∀m i acc (laid:Bool) g,i+m=l.length->acc.length<=i+laid.toNat ->
  L pg 0 [0,3,5,6,7] body [(0,.p (.sl (l.map bW.aw))),(3,.ptr 0 0),(5,.arr 1 acc.length g),(6,.p (.b laid)),(7,.p (.i .i64 (i:Nat)))] [.box (U0 x),.arr 3 (acc.map bW.aw) g 0] =
   some (.exit 0,[(0,.p (.sl (l.map bW.aw))),(3,.ptr 0 0),(5,.arr 1 (acc++(dy x laid (l.drop i)).1).length (g+(dy x laid (l.drop i)).1.length)),(6,.p (.b (dy x laid (l.drop i)).2)),(7,.p (.i .i64 l.length)),(12,.p (.b false))],
    [.box (U0 x),.arr 3 ((acc++(dy x laid (l.drop i)).1).map bW.aw) (g+(dy x laid (l.drop i)).1.length) 0])
 |0,i,acc,laid,g,hi,ha=>by
  have:i=l.length:=by omega
  subst this;rw[dA hb];cases laid<;>simp[xA,aj,dy]
 |m+1,i,acc,laid,g,hi,ha=>by
  have hlt:i<l.length:=by omega
  have hd:l.drop i=l[i]::l.drop (i+1):=aM hlt;have e0:=A0 l[i];have hE:l[i].aw=[iv l[i].v,iv l[i].p.aD,iv l[i].p.aT]:=rfl;rw[hE]at e0;have hlb:laid.toNat<=1:=by cases laid<;>simp
  have r1:bZ (acc.length+1) 24=true:=by simp[bZ];omega
  have r2:bZ (acc.length+1+1) 24=true:=by simp[bZ];omega
  have t1:List.take acc.length (acc.map bW.aw)=acc.map bW.aw:=aF (by simp);have t2:∀r,List.take (acc.length+1) (acc.map bW.aw++[r])=acc.map bW.aw++[r]:=λr=>aF (by simp);have okr:∀a b c:Int,aS 3 [iv a,iv b,iv c]=true:=λ_ _ _=>rfl;rw[dA hb,hd];cases laid with
  |true =>
   have ih:=MI (x:=x) h hb hl m (i+1) (acc++[l[i]]) true (g+1) (by omega) (by simp at ha ⊢;omega);rw[show((i+1:Nat):Int)=(i:Int)+1 from by omega,fK]at ih;simp only[bB,ai,au,aR,av,aJ,aG,hE,U0]at ih;simp[xA,aj,U0,hlt,hE,e0,qh,Uu.Uv,cX,cO,ee,Vy,bH,okr,r1,t1,cR ((i:Int)+1),gc,exp,aQ,UG,ih,dy,fK];refine⟨⟨by omega,by omega⟩,?_,by omega⟩;rw[aM (show i<(l.map bW.aw).length by simpa using hlt)];simp[hE]
  |false =>
   by_cases hc:x.v<l[i].v
   ·have hc':(x.v:Int)<l[i].v:=by omega
    have ih:=MI (x:=x) h hb hl m (i+1) (acc++[x]++[l[i]]) true (g+1+1) (by omega) (by simp at ha ⊢;omega);rw[show((i+1:Nat):Int)=(i:Int)+1 from by omega,fK]at ih;simp only[bB,ai,au,aR,av,aJ,aG,hE,U0]at ih;have hxE:x.aw=[iv x.v,iv x.p.aD,iv x.p.aT]:=rfl;simp only[hxE,pd,aH,aL]at ih;simp[xA,aj,U0,hlt,hE,e0,qh,Uu.Uv,cX,cO,ee,Vy,bH,okr,r1,r2,t1,t2,Ur hc,Ur hc',cR ((i:Int)+1),gc,exp,aQ,UG,ih,dy,fK,hxE];refine⟨⟨by omega,by omega⟩,?_,by omega⟩;rw[aM (show i<(l.map bW.aw).length by simpa using hlt)];simp[hE]
   ·have hc':¬ (x.v:Int)<l[i].v:=by omega
    have ih:=MI (x:=x) h hb hl m (i+1) (acc++[l[i]]) false (g+1) (by omega) (by simp at ha ⊢;omega);rw[show((i+1:Nat):Int)=(i:Int)+1 from by omega]at ih;simp only[bB,ai,au,aR,av,aJ,aG,hE,U0]at ih;simp[xA,aj,U0,hlt,hE,e0,qh,Uu.Uv,cX,cO,ee,Vy,bH,okr,r1,t1,az hc,az hc',cR ((i:Int)+1),gc,exp,aQ,UG,ih,dy];omega
theorem nO (l:List bW)(x:bW):(Vr l x).length<=l.length+1:=by
 have:∀r,(dy x false r).2=false->(dy x false r).1=r:=by
  intro r
  induction r with
  |nil=>intro _;rfl
  |cons y r ih =>
   simp only[dy];split
   ·intro h;cases h
   ·intro h;rw[ih h]
 unfold Vr;split
 ·exact rj x false l
 ·rename_i h;rw[this l (by simpa using h)];simp
theorem OW (h:bY pg){l:List bW}{x:bW}(hl:l.length<2 ^ 20):∃g tl,E pg 98 [.p (.sl (l.map bW.aw)),.ag (U0 x)] []=some (.ret (.arr 1 (Vr l x).length g),.box (U0 x)::.arr 3 ((Vr l x).map bW.aw) g 0::tl):=by
 have hL:=MI (x:=x) h rfl hl l.length 0 [] false 0 (by omega) (by simp);simp only[bp,aL,aJ,au,fW,aG,U0]at hL;have okr:∀a b c:Int,aS 3 [iv a,iv b,iv c]=true:=λ_ _ _=>rfl;rw[h.run (x:=KB)];unfold Vr;cases hb:(dy x false l).2 with
 |true =>
  refine⟨(dy x false l).1.length,[],?_⟩;rw[hb]at hL;simp[KB,aj,U0,qh,Uu.Uv,gc,exp,aQ,UG,hL]
 |false =>
  have hlen:=rj x false l;have r1:bZ ((dy x false l).1.length+1) 24=true:=by simp[bZ];omega
  have t1:List.take (dy x false l).1.length ((dy x false l).1.map bW.aw)=(dy x false l).1.map bW.aw:=aF (by simp);refine⟨(dy x false l).1.length+1,[.arr 3 [[iv x.v,iv x.p.aD,iv x.p.aT]] 0 0],?_⟩;rw[hb]at hL;simp[KB,aj,U0,qh,Uu.Uv,gc,exp,aQ,UG,hL,cX,cO,ee,Vy,bH,okr,r1,t1,bW.aw]
theorem t98 (h:bY pg){l:List bW}{x:bW}(hl:l.length<2 ^ 20):∃(g:Nat) (tl:Nat->Heap),∀G,UM pg (E pg) 98 [.p (.sl (l.map bW.aw)),.ag (U0 x)] G=some (.ret (.arr (G.length+1) (Vr l x).length g),G++.box (U0 x)::.arr 3 ((Vr l x).map bW.aw) g 0::tl G.length):=by
 obtain⟨g,tl,hs⟩:=OW (x:=x) h hl;refine⟨g,λb=>tl.map (bD [] b),λG=>?_⟩;rw[vF hs rfl];simp[Out.back,back,dh,UL,bD,b_,U0]
structure WI (n:aI):Prop where
 len:1<=n.ae.length/\n.ae.length<=n.aV/\n.aV<=4000
 aD:∀(i:Nat) (x:Up),n.ae[i]?=some x->x.ao≠0/\x.to.length<=10
theorem WI.nh {n:aI}(h:WI n):n.XB:=⟨by have:=h.len;omega,λi x hx=>by have:=(h.aD i x hx).2;omega⟩
theorem WI.used {n:aI}(h:WI n):n.used=n.ae.length:=by
 unfold aI.used;rw[ix];intro x hx;obtain⟨i,hi,rfl⟩:=dj hx;simpa using (h.aD i _ (gG hi)).1
theorem WI.cg {n:aI}(h:WI n):n.cg=n.ae.length:=by
 unfold aI.cg;have:n.ae.findIdx? (λx=>decide (x.ao=0))=none:=by
  rw[List.findIdx?_eq_none_iff];intro x hx;obtain⟨i,hi,rfl⟩:=dj hx;simpa using (h.aD i _ (gG hi)).1
 rw[this];rfl
theorem WI.Xx {n:aI}(h:WI n)(x:Up):(n.make x).ae=n.ae++[x.d_]:=by
 unfold aI.make;rw[h.cg,aa (by omega)]
theorem wb (x:Up):x.d_.to.length=x.bO:=by simp[Up.d_]
theorem WI.nN {n:aI}(h:WI n){x:Up}(hk:2<=x.ao)(hx:x.ok=true):WI (n.nN x).1:=by
 unfold aI.nN;split
 ·rename_i hu;rw[h.used]at hu;dsimp only;refine⟨?_,λi y hy=>?_⟩
  ·rw[h.Xx,aI.nG];have:=h.len;simp only[aR,av,aJ];omega
  ·rw[h.Xx,List.getElem?_append]at hy;split at hy
   ·exact h.aD i y hy
   ·have:y=x.d_:=by
     have hm:=aE hy;simpa using hm
    subst this;refine⟨by simp only[Up.d_];omega,?_⟩;rw[wb];exact Yp hx (Ix hx)
 ·exact h
theorem WI.bK {n:aI}(h:WI n){x:Up}(hk:2<=x.ao)(hx:x.Us<=60->x.ok=true):WI (n.bK x).1:=by
 unfold aI.bK;split
 ·exact h
 ·exact h.nN hk (hx (by omega))
theorem WI.put {n:aI}(h:WI n)(p q:aq):WI (n.put p q):=by
 refine⟨by rw[aI.rZ,aI.j6];exact h.len,λi x hx=>?_⟩;rw[aI.sU]at hx;split at hx
 ·obtain⟨y,hy,rfl⟩:=aP.1 hx;have:=h.aD i y hy;exact⟨this.1,by simpa [Up.oZ] using this.2⟩
 ·exact h.aD i x hx
theorem WI.bx {n:aI}(h:WI n)(p q:aq):WI (n.bx p q):=by
 unfold aI.bx aI.link;split
 ·exact(h.put p q).put q p
 ·exact h
theorem aI.V0 (n:aI)(x:Up):(n.bK x).1.aV=n.aV:=by
 unfold aI.bK aI.nN;split
 ·rfl
 ·split<;>rfl
def eE (Us:Nat):Up:=⟨6,Us,0,[],[],[]⟩
def dE (Us:Nat):aI->List bW->aI×List bW×Nat
 |n,[]=>(n,[],0)
 |n,e::r=>if (n.bK (eE Us)).2.2=0 then
   ((dE Us ((n.bK (eE Us)).1.bx ⟨(n.bK (eE Us)).2.1,1⟩ e.p) r).1,⟨e.v,⟨(n.bK (eE Us)).2.1,0⟩⟩::(dE Us ((n.bK (eE Us)).1.bx ⟨(n.bK (eE Us)).2.1,1⟩ e.p) r).2.1,(dE Us ((n.bK (eE Us)).1.bx ⟨(n.bK (eE Us)).2.1,1⟩ e.p) r).2.2)
  else ((n.bK (eE Us)).1.bx ⟨(n.bK (eE Us)).2.1,1⟩ e.p,⟨e.v,⟨(n.bK (eE Us)).2.1,0⟩⟩::r,(n.bK (eE Us)).2.2)
theorem Xk {Us:Nat}(h:Us<=60):(eE Us).ok=true:=Up.W9 (by omega) rfl (by omega) h (by simp) (by simp) (by omega)
theorem Xl (Us:Nat):∀(l:List bW) (n:aI),(dE Us n l).2.1.length=l.length
 |[],n=>rfl
 |e::r,n=>by
  unfold dE;split
  ·simp[Xl Us r]
  ·simp
theorem A1 {Us:Nat}:∀(l:List bW) {n:aI},WI n->WI (dE Us n l).1
 |[],n,h=>h
 |e::r,n,h=>by
  unfold dE;split
  ·exact A1 r ((h.bK (by simp[eE]) Xk).bx _ _)
  ·exact(h.bK (by simp[eE]) Xk).bx _ _
def dN (n:aI)(o1 o2:Int)(L:AV)(e:Int):List AV:=[.p (.sl (n.ae.map Up.aw)),.p (.i .i64 n.aV),.p (.i .i64 o1),.p (.i .i64 o2),L,.p (.i .i64 e)]
def bU:List AV:=[.aC,.p (.i .i64 0),.p (.i .i64 0),.p (.i .i64 0),.aC,.p (.i .i64 0)]
theorem D3 (h:bY pg){n:aI}{k Us:Nat}{K:Int}(hK:K=k)(hw:WI n)(hk:2<=k)(hx:Us<=60->(Up.mk k Us 0 [] [] []).ok=true) :
  UM pg (E pg) 50 [.ag [.p (.sl (n.ae.map Up.aw)),.p (.i .i64 n.aV)],.ag [.p (.i .i64 K),.p (.i .i64 Us),.p (.i .i64 0),.p (.s []),.aC,.aC]] G=some (fv (n.bK ⟨k,Us,0,[],[],[]⟩),G):=by
 subst hK;have:=t50 (G:=G) (x:=⟨k,Us,0,[],[],[]⟩) h (by have:=hw.len;omega) hw.len.1 hk hx;rw[<- this];refine oA λe=>?_;simp[show bC pg 50=false from h.bq (x:=Ky) rfl,exp,aQ]
theorem OX (h:bY pg){body:aU}(hb:body=px){Us:Nat}{o1 o2:Int}{gen:Nat}:∀(rest pre:List bW) (n:aI),WI n->(pre++rest).length<2 ^ 20 ->
  ∃j:Int,L pg 1 [1,2,4,5] body [(1,.p (.i .i64 Us)),(2,.ptr 1 0),(4,.ptr 2 0),(5,.p (.i .i64 pre.length))] [.arr 3 ((pre++rest).map bW.aw) gen 0,.box (dN n o1 o2 (.arr 0 (pre++rest).length gen) 0),.box bU] =
   some (.exit 0,[(1,.p (.i .i64 Us)),(2,.ptr 1 0),(4,.ptr 2 0),(5,.p (.i .i64 j)),(18,.p (.b false))],[.arr 3 ((pre++(dE Us n rest).2.1).map bW.aw) gen 0,.box (dN (dE Us n rest).1 o1 o2 (.arr 0 (pre++rest).length gen) (dE Us n rest).2.2),.box bU])
 |[],pre,n,hw,hl=>by
  refine⟨pre.length,?_⟩;rw[dA hb];simp[px,aj,dE,dN,bU]
 |e::r,pre,n,hw,hl=>by
  have e50:=λG=>D3 (G:=G) (k:=6) (K:=6) (Us:=Us) h rfl hw (by omega) Xk;have hwm:=hw.bK (x:=eE Us) (by simp[eE]) Xk;have hcm:=aI.V0 n (eE Us);have hbg:dE Us n (e::r)=if (n.bK (eE Us)).2.2=0 then
   ((dE Us ((n.bK (eE Us)).1.bx ⟨(n.bK (eE Us)).2.1,1⟩ e.p) r).1,⟨e.v,⟨(n.bK (eE Us)).2.1,0⟩⟩::(dE Us ((n.bK (eE Us)).1.bx ⟨(n.bK (eE Us)).2.1,1⟩ e.p) r).2.1,(dE Us ((n.bK (eE Us)).1.bx ⟨(n.bK (eE Us)).2.1,1⟩ e.p) r).2.2)
   else ((n.bK (eE Us)).1.bx ⟨(n.bK (eE Us)).2.1,1⟩ e.p,⟨e.v,⟨(n.bK (eE Us)).2.1,0⟩⟩::r,(n.bK (eE Us)).2.2):=rfl
  rw[hbg];have hsh:(⟨6,Us,0,[],[],[]⟩:Up)=eE Us:=rfl;rw[hsh]at e50;generalize hr:n.bK (eE Us)=R at *;obtain⟨m,s,err⟩:=R;dsimp only at hwm hcm ⊢;have hl2:pre.length<2 ^ 20:=by simp at hl;omega
  have e38:=λG=>t38 (G:=G) (p:=⟨s,1⟩) (q:=e.p) h hwm.nh;have hcl:=aI.dq m ⟨s,1⟩ e.p;have hg:∀X:List PV,(List.map bW.aw pre++X::List.map bW.aw r)[pre.length]?=some X:=λX=>by simp
  have hset:∀X Y:List PV,(List.map bW.aw pre++X::List.map bW.aw r).set pre.length Y=List.map bW.aw pre++Y::List.map bW.aw r:=λX Y=>by simp
  have hlt:pre.length<(pre++e::r).length:=by simp
  have hlt':(pre.length:Int)<((pre++e::r).length:Nat):=by omega
  simp only[fv]at e50;generalize hl1:m.bx ⟨s,1⟩ e.p=m1 at *;rw[hcm]at hcl;simp only[hcm,hcl]at e38;by_cases he:err=0
  ·subst he;obtain⟨j,ih⟩:=OX h hb (Us:=Us) (o1:=o1) (o2:=o2) (gen:=gen) r (pre++[⟨e.v,⟨s,0⟩⟩]) m1 (by rw[<- hl1];exact hwm.bx _ _) (by simpa using hl);refine⟨j,?_⟩;simp only[dN,hcl]at ih;rw[dA hb,ah rfl];simp only[dN,bU,pd,aH,aL,aR,av,aJ,aG,bV,WW,fW,bB,ai,bW.aw]at ih e50 e38 hlt hlt' ⊢;simp[px,aj,hlt,hlt',hg,hset,e50,t39 h,Yq h,eu,gC,e38,h.ro,hcl,hcm,cO,ee,Vy,cR ((pre.length:Int)+1),gc,exp,aQ,UG,ih]
  ·refine⟨pre.length+1,?_⟩;rw[dA hb,aa he];have he':¬ (err:Int)=0:=by omega
   simp only[dN,bU,aR,av,aJ,aG,bV,WW,fW,bB,ai,bW.aw]at e50 e38 hlt hlt' ⊢;simp[px,aj,hlt,hlt',hg,hset,e50,t39 h,Yq h,eu,gC,e38,h.ro,hcl,hcm,cO,ee,Vy,cR ((pre.length:Int)+1),gc,exp,aQ,UG];rw[dA hb];rcases U1 r.length with h0|h0
   ·simp[px,aj,he,he',h0]
   ·have h0':(1:Int)<r.length+1:=by omega
    simp[px,aj,he,he',h0,h0']
def EV (b:Nat)(L:AV)(O:Heap)(l:List bW):Prop:=(L=.aC/\l=[])\/∃k g,L=.arr (k+b) l.length g/\O[k]?=some (.arr 3 (l.map bW.aw) g 0)
def wc (a:AV):Prop:=a=.aC\/∃r,a=.p (.sl r)
def iF (a:AV)(b c d:Int)(L:AV)(e:Int):List AV:=[a,.p (.i .i64 b),.p (.i .i64 c),.p (.i .i64 d),L,.p (.i .i64 e)]
theorem Ol (h:bY pg){Us:Nat}{a:AV}{b c d e:Int}(ha:wc a):∃tl,E pg 97 [.ag (iF a b c d .aC e),.p (.i .i64 Us)] []=some (.ret (.ag (iF a b c d .aC e)),tl):=by
 refine⟨[.box (iF a b c d .aC e),.box (iF a b c d .aC e)],?_⟩;rw[h.run (x:=GX)];rcases ha with rfl|⟨r,rfl⟩
 ·simp[GX,aj,iF,gc,exp,aQ,UG];rw[dA rfl];simp[px,aj]
 ·simp[GX,aj,iF,gc,exp,aQ,UG];rw[dA rfl];simp[px,aj]
theorem Om (h:bY pg){Us:Nat}{a:AV}{b c d e:Int}{l:List bW}{g:Nat}(ha:wc a)(he:e≠0):∃tl,E pg 97 [.ag (iF a b c d (.arr 0 l.length g) e),.p (.i .i64 Us)] [.arr 3 (l.map bW.aw) g 0]=some (.ret (.ag (iF a b c d (.arr 0 l.length g) e)),.arr 3 (l.map bW.aw) g 0::tl):=by
 refine⟨[.box (iF a b c d (.arr 0 l.length g) e),.box (iF a b c d (.arr 0 l.length g) e)],?_⟩;rw[h.run (x:=GX)];have hl:l.length=0\/0<l.length:=by omega
 rcases ha with rfl|⟨r,rfl⟩<;>rcases hl with hl|hl
 all_goals
  simp[GX,aj,iF,gc,exp,aQ,UG];rw[dA rfl];simp[px,aj,hl,he]
theorem On (h:bY pg){Us:Nat}{n:aI}{o1 o2:Int}{l:List bW}{g:Nat}(hw:WI n)(hl:l.length<2 ^ 20):∃tl,E pg 97 [.ag (dN n o1 o2 (.arr 0 l.length g) 0),.p (.i .i64 Us)] [.arr 3 (l.map bW.aw) g 0] =
  some (.ret (.ag (dN (dE Us n l).1 o1 o2 (.arr 0 l.length g) (dE Us n l).2.2)),.arr 3 ((dE Us n l).2.1.map bW.aw) g 0::tl):=by
 obtain⟨j,hL⟩:=OX (body:=px) h rfl (Us:=Us) (o1:=o1) (o2:=o2) (gen:=g) l [] n hw (by simpa using hl);refine⟨[.box (dN (dE Us n l).1 o1 o2 (.arr 0 l.length g) (dE Us n l).2.2),.box (dN (dE Us n l).1 o1 o2 (.arr 0 l.length g) (dE Us n l).2.2)],?_⟩;simp only[aL,aJ,fW,dN,bU]at hL ⊢;rw[h.run (x:=GX)];simp[GX,aj,gc,exp,aQ,UG];rw[hL];simp[aj]
structure W where
 n:aI
 out:aq
 l:List bW
 e:Nat
def pN (e:Nat):W:=⟨⟨[],0⟩,⟨0,0⟩,[],e⟩
structure WV (b:Nat)(w:W)(v:List AV)(O:Heap):Prop where
 ex:∃(a:AV) (x y z:Int) (L:AV) (l:List bW),v=iF a x y z L w.e/\wc a/\EV b L O l/\(w.e=0->a=.p (.sl (w.n.ae.map Up.aw))/\x=w.n.aV/\y=w.out.aD/\z=w.out.aT/\l=w.l)
theorem EV.back {L:AV}{O:Heap}{l:List bW}(h:EV 0 L O l)(b:Nat):EV b (back [] b L) (O.map (bD [] b)) l:=by
 rcases h with ⟨rfl,rfl⟩|⟨k,g,rfl,hk⟩
 ·left;exact⟨rfl,rfl⟩
 ·right;refine⟨k,g,?_,?_⟩
  ·simp[Z.back,UL];omega
  ·rw[List.getElem?_map,hk];rfl
theorem wc.back {a:AV}(h:wc a)(ids:List Nat)(b:Nat):Z.back ids b a=a:=by
 rcases h with rfl|⟨r,rfl⟩<;>rfl
theorem we {call:di}{f:Nat}{args:List AV}{w:W}{v:List AV}{O:Heap}(hc:call f args []=some (.ret (.ag v),O))(hv:WV 0 w v O)(ha:bm args=true) :
  ∃v' O',UM pg call f args G=some (.ret (.ag v'),G++O')/\WV G.length w v' O':=by
 obtain⟨a,x,y,z,L,l,rfl,h1,h2,h3⟩:=hv;refine⟨iF a x y z (back [] G.length L) w.e,O.map (bD [] G.length),?_,⟨a,x,y,z,_,l,rfl,h1,h2.back _,h3⟩⟩;rw[vF hc ha];simp only[Out.back,Z.back,iF,dh,h1.back]
def jI (Us:Nat)(w:W):W:=if w.e=0 then ⟨(dE Us w.n w.l).1,w.out,(dE Us w.n w.l).2.1,(dE Us w.n w.l).2.2⟩ else w
theorem t97 (h:bY pg){Us:Nat}{w:W}{v:List AV}{B O:Heap}(hv:WV B.length w v O)(hw:w.e=0->WI w.n)(hl:w.e=0->w.l.length<2 ^ 20) :
  ∃v' O',UM pg (E pg) 97 [.ag v,.p (.i .i64 Us)] (B++O)=some (.ret (.ag v'),B++O')/\WV B.length (jI Us w) v' O':=by
 obtain⟨a,x,y,z,L,l,rfl,h1,h2,h3⟩:=hv;have k97:bC pg 97=true:=h.bq (x:=GX) rfl;rcases h2 with ⟨rfl,rfl⟩|⟨k,g,rfl,hk⟩
 ·obtain⟨tl,hs⟩:=Ol (Us:=Us) (b:=x) (c:=y) (d:=z) (e:=w.e) h h1;refine⟨iF a x y z .aC w.e,O++tl.map (bD [] (B++O).length),?_,⟨?_⟩⟩
  ·unfold UM;rw[k97];rcases h1 with rfl|⟨r,rfl⟩
   ·simp[exp,aQ,iF,UG]at hs ⊢;rw[hs];simp[Out.back,back,dh,UL,bD,b_]
   ·simp[exp,aQ,iF,UG]at hs ⊢;rw[hs];simp[Out.back,back,dh,UL,bD,b_]
  ·refine⟨a,x,y,z,.aC,[],?_,h1,.inl ⟨rfl,rfl⟩,?_⟩
   ·unfold jI;split
    ·rename_i e;obtain⟨_,_,_,_,hl5⟩:=h3 e;rw[<- hl5];simp[dE,e]
    ·rfl
   ·unfold jI;split
    ·rename_i e;obtain⟨q1,q2,q3,q4,q5⟩:=h3 e;rw[<- q5];intro _;exact⟨q1,q2,q3,q4,rfl⟩
    ·exact h3
 ·have hgk:(B++O)[k+B.length]?=some (.arr 3 (l.map bW.aw) g 0):=by
   rw[List.getElem?_append_right (by omega),cQ,hk]
  have hkl:k<O.length:=(gE hk).1;have hob:UG ((B++O).length+1) ⟨[k+B.length],B++O⟩ 0=some ([.arr 3 (l.map bW.aw) g 0],⟨[k+B.length],B++O⟩):=by
   obtain⟨m,hm⟩:∃m,(B++O).length=m+1:=⟨(B++O).length-1,by simp;omega⟩
   rw[hm];simp only[UG,List.getElem?_cons_zero];rw[hgk];simp
  have hset:∀o,(B++O).set (k+B.length) o=B++O.set k o:=λo=>by
   rw[iA _ _ (by omega),cQ]
  by_cases e0:w.e=0
  ·obtain⟨q1,q2,q3,q4,q5⟩:=h3 e0;subst q1 q2 q3 q4 q5;obtain⟨tl,hs⟩:=On (Us:=Us) (o1:=w.out.aD) (o2:=w.out.aT) (g:=g) h (hw e0) (hl e0);have hW:jI Us w=⟨(dE Us w.n w.l).1,w.out,(dE Us w.n w.l).2.1,(dE Us w.n w.l).2.2⟩:=by unfold jI;rw[ah e0]
   refine⟨dN (dE Us w.n w.l).1 w.out.aD w.out.aT (.arr (k+B.length) w.l.length g) (dE Us w.n w.l).2.2,O.set k (.arr 3 ((dE Us w.n w.l).2.1.map bW.aw) g 0)++tl.map (bD [k+B.length] (B++O).length),?_,⟨?_⟩⟩
   ·unfold UM;rw[k97,e0];simp[exp,aQ,iF,fI.id,eP];simp only[aR]at hob;rw[hob];simp only[dN]at hs;simp only[fW]at hs ⊢;rw[hs];simp[Out.back,back,dh,UL,bD,b_,dN,hset]
   ·rw[hW];refine⟨.p (.sl ((dE Us w.n w.l).1.ae.map Up.aw)),(dE Us w.n w.l).1.aV,w.out.aD,w.out.aT,.arr (k+B.length) w.l.length g,(dE Us w.n w.l).2.1,rfl,.inr ⟨_,rfl⟩,.inr ⟨k,g,?_,?_⟩,λ_=>⟨rfl,rfl,rfl,rfl,rfl⟩⟩
    ·rw[Xl]
    ·rw[List.getElem?_append_left (by simpa using hkl),List.getElem?_set_self (by simpa using hkl)]
  ·obtain⟨tl,hs⟩:=Om (Us:=Us) (b:=x) (c:=y) (d:=z) (e:=w.e) (l:=l) (g:=g) h h1 (by omega);have hW:jI Us w=w:=by unfold jI;rw[aa e0]
   refine⟨iF a x y z (.arr (k+B.length) l.length g) w.e,O.set k (.arr 3 (l.map bW.aw) g 0)++tl.map (bD [k+B.length] (B++O).length),?_,⟨a,x,y,z,_,l,?_,h1,.inr ⟨k,g,rfl,?_⟩,?_⟩⟩
   ·unfold UM;rw[k97];simp only[aR]at hob;rcases h1 with rfl|⟨r,rfl⟩
    ·simp[exp,aQ,iF,fI.id,eP]at hs ⊢;rw[hob];dsimp only;rw[hs];simp[Out.back,back,dh,UL,bD,b_,hset]
    ·simp[exp,aQ,iF,fI.id,eP]at hs ⊢;rw[hob];dsimp only;rw[hs];simp[Out.back,back,dh,UL,bD,b_,hset]
   ·rw[hW]
   ·rw[List.getElem?_append_left (by simpa using hkl),List.getElem?_set_self (by simpa using hkl)]
   ·rw[hW];exact h3
end
end Go.Proofs.Z
