/- A part of the proof. -/
import Derived.Test.YtffohgbmjjbhiaaGreatB19
import Derived.Test.YtffohgbmjjbhiaaGreatB14
import Derived.Lib.SmallJoins
import Derived.Test.YtffohgbmjjbhiaaGreatB16
import Derived.Test.YtffohgbmjjbhiaaGreatB18
set_option linter.all false
namespace Go.Proofs.Z
section
variable {G:Heap}
theorem sA {D:Bool}{text out:List UInt8}{t0 t2 t3:Int}{t1:List UInt8}{t4:List (List PV)}{c:Ct}{s:aO}(h44:E iE 44 [.p (.s text),.p (.i .i64 150)] []=some (.ret (.dF [.ag [.p (.i .i64 t0),.p (.s t1),.p (.i .i64 t2),.p (.i .i64 t3),.p (.sl t4)],.p (.i .i64 0),.p (.i .i64 0)]),[]))
  (h45:E iE 45 [.ag [.p (.i .i64 t0),.p (.s t1),.p (.i .i64 t2),.p (.i .i64 t3),.p (.sl t4)]] []=some (.ret (.dF [.ag (bP c.tm.aw),.p (.i .i64 0),.p (.i .i64 0)]),[]))
  (h18:E iE 18 [.ag (bP c.tm.aw),.p (.i .i64 0)] []=some (.ret (.p (.b true)),[])) (hf:Fits c 0 0) (hn:(c.cS 4000).2=0) (ho:(c.cS 4000).1.Ok) (hr:(bI (c.cS 4000).1 D 5000).2=(0,s))
  (h26:E iE 26 [.ag (bP s.aw)] []=some (.ret (.p (.s out)),[])):UM iE (E iE) 27 [.p (.s text),.p (.b D)] G=some (.ret (.p (.s out)),G):=by
 refine Ut ?_ rfl rfl;have h:=Xj;obtain⟨k,n,nm,l,hc⟩:=c.tm.jC;obtain⟨k',n',nm',l',hs⟩:=s.sv;have e20:=λG=>t20 (G:=G) h (most:=4000) (by omega) hf (λG=>Ut h18 (by rw[hc];rfl) rfl);have e11:=λG=>t11 (G:=G) ho D (F:=5000) (by omega);have hinv:=(VD eA ho D 5000).2.1;have e44:=λG=>Ut (pg:=iE) (G:=G) h44 rfl (by rfl);have e45:=λG=>Ut (pg:=iE) (G:=G) h45 rfl (by rw[hc];rfl);have e26:=λG=>Ut (pg:=iE) (G:=G) h26 (by rw[hs];rfl) rfl;rw[hn]at e20;generalize hR:bI (c.cS 4000).1 D 5000=R at *;have hR1:R.2.1=0:=by rw[hr]
 have hR2:R.2.2=s:=by rw[hr]
 have hT:R.1.T.length=9:=by rw[<- hR];exact(VD eA ho D 5000).2.1.ok.2.1
 obtain⟨u0,u1,u2,u3,u4,u5,u6,u7,u8,hTe⟩:∃t0 t1 t2 t3 t4 t5 t6 t7 t8,R.1.T=[t0,t1,t2,t3,t4,t5,t6,t7,t8]:=by
  match R.1.T,hT with
  |[t0,t1,t2,t3,t4,t5,t6,t7,t8],_=>exact⟨t0,t1,t2,t3,t4,t5,t6,t7,t8,rfl⟩
 simp only[fu,ah hR1,hR2,hs,hTe,cJ,bP,ai,au,hR1,IF,fW]at e11;simp only[hc,hs,bP,ai,au,uC,fW]at e20 e45 e26;rw[h.run (x:=MU)];simp[MU,aj,e44,e45,e20,e11,e26]
theorem L9:UM iE (E iE) 27 [.p (.s ML),.p (.b true)] G=some (.ret (.p (.s [40,67,111,110,115,32,50,32,78,105,108,41])),G):=sA YS F3 F4 C6 C7 F5 F6 Ka
theorem L_:UM iE (E iE) 27 [.p (.s ML),.p (.b false)] G=some (.ret (.p (.s [40,67,111,110,115,32,63,32,63,41])),G):=sA YS F3 F4 C6 C7 F5 F7 Kb
theorem Ma:UM iE (E iE) 27 [.p (.s Ow),.p (.b true)] G=some (.ret (.p (.s [40,67,111,110,115,32,54,32,40,67,111,110,115,32,54,32,54,41,41])),G):=sA JZ J0 J1 HE HF J2 F8 Kc
theorem Mb:UM iE (E iE) 27 [.p (.s Ox),.p (.b true)] G=some (.ret (.p (.s [102,117,110])),G):=sA J3 J4 J5 HG HH J6 F9 Kd
theorem Mc:UM iE (E iE) 27 [.p (.s Oy),.p (.b true)] G=some (.ret (.p (.s [78,105,108])),G):=sA J7 J8 J9 HI HJ J_ F_ Ke
def sB:aI:=⟨[⟨1,0,0,[],[],[⟨1,0⟩]⟩,⟨13,0,0,[],[],[⟨0,0⟩]⟩],5⟩
theorem Oz:E iE 25 [.p (.i .i64 5)] []=some (.ret (.dF [.ag [.p (.sl (sB.ae.map Up.aw)),.p (.i .i64 sB.aV)],.p (.i .i64 0)]),[]):=gh.2 ⟨60,by kernel_rfl⟩
theorem HK:sB.Ok:=jD (by kernel_rfl)
theorem x5:(bI sB true 0).2=(0,.mk 4 0 [] []):=by kernel_rfl
theorem Kf:(bI sB true 0).1.T=U4:=by kernel_rfl
theorem HL:E iE 26 [.ag (bP (aO.aw (.mk 4 0 [] [])))] []=some (.ret (.p (.s [102,97,105,108])),[]):=gh.2 ⟨60,by kernel_rfl⟩
theorem HM:E tL 32 [.ptr 0 0,.ag [.p (.i .i64 0),.p (.i .i64 0)]] [.box (Wo (sB.ae.map Up.aw) 5 Yx 0 (-1) true)]=some (.iL (.eT 70 (.ag [.p (.i .i64 1)])),[.box (Wo (sB.ae.map Up.aw) 5 Yx 0 (-1) true)]):=gh.2 ⟨60,by kernel_rfl⟩
theorem HN:E iE 11 [.ag [.p (.sl (sB.ae.map Up.aw)),.p (.i .i64 sB.aV)],.p (.b true),.p (.i .i64 (-1))] []=some (nM (sB.ae.map Up.aw) 5 Vt Yx 1,[]):=by
 refine gh.2 ⟨1,?_⟩;simp only[dr];rw[show iE.Xa 11=some s9 by simp[iE]];exact xS ⟨_,_,_,_,_,_,_,Yx,0,-1,true,rfl,rfl,HM,.inr ⟨1,rfl,rfl⟩⟩
theorem Ca:sw:=by
 intro G;refine Ut ?_ rfl rfl;have h:=Xj;have e25:=λG=>Ut (pg:=iE) (G:=G) Oz rfl rfl;have e11:=λG=>t11 (G:=G) HK true (F:=0) (by omega);have l11:=λG=>Ut (pg:=iE) (G:=G) HN rfl rfl;have e26:=λG=>Ut (pg:=iE) (G:=G) HL rfl rfl;have z12:=λG=>t12 (G:=G) (T:=U4) h rfl (by simp[U4]);have a0:=λG=>L9 (G:=G);have a1:=λG=>L_ (G:=G);have a2:=λG=>Ma (G:=G);have a3:=λG=>Mb (G:=G);have a4:=λG=>Mc (G:=G);have hR1:(bI sB true 0).2.1=0:=by rw[x5]
 have hR2:(bI sB true 0).2.2=.mk 4 0 [] []:=by rw[x5]
 simp only[fu,ah hR1,hR1,hR2,Kf,cJ,U4,bP,ai,au,aO.aw,aO.df,dK,V_,Pg,fW]at e11 z12 e26;simp only[nM,mC,Vt,ti,Yx,ai,au]at l11;simp only[show(sB.aV:Int)=5 from rfl]at e11 e25 l11;simp only[ML,Ow,Ox,Oy]at a0 a1 a2 a3 a4;rw[h.run (x:=c8)];simp[c8,aj,e25,e11,show(sB.aV:Int)=5 from rfl,l11,e26,z12,a0,a1,a2,a3,a4]
end
section
set_option maxRecDepth 100000
section
variable {H:Type}{aw:TypeId×Value->H}{W:World}{aK:Nat}{spare:Nat->Bool}{held:Bool}{n:Nat}{cs:List Value}{y:DataW H×List MemPlace}
theorem P5:Tryz.prog.cellsOf 3=1:=by kernel_rfl
theorem P6:Tryz.prog.cellsOf 9=1:=by kernel_rfl
theorem Y9:Tryz.prog.cellsOf 40=1:=by kernel_rfl
theorem QL:Tryz.prog.cellsOf 42=4:=by kernel_rfl
theorem uz (h:DataW.trod aw Tryz.prog W aK spare held n 3 cs=some y):∃k:Int,cs=[.int .i64 k]/\(Lit.int .i64 k).wf=true:=by
 obtain⟨k,rfl,_,w⟩:=DataW.trod_int Tryz.underlying3 h;exact⟨k,rfl,w⟩
theorem C8 (h:DataW.trod aw Tryz.prog W aK spare held n 9 cs=some y):∃s:List UInt8,cs=[.string ⟨s.toArray⟩]/\s.length<=maxLen:=by
 obtain⟨k,rfl,_,w⟩:=DataW.trod_string Tryz.underlying9 h;exact⟨k.data.toList,by simp,by simpa using w⟩
theorem x6:maxLen<2 ^ 63:=by decide
end
end
section
variable {pg:fX}{G:Heap}
def mr (c:Nat):Nat:=if 97<=c/\c<=122 then 1 else if 65<=c/\c<=90 then 2 else if 48<=c/\c<=57 then 3 else if c=32\/c=10\/c=9 then 4 else 0
theorem t58 (h:bY pg)(c:Nat):UM pg (E pg) 58 [.p (.i .u8 (c:Nat))] G=some (.ret (.p (.i .i64 (mr c:Nat))),G):=by
 refine Ut ?_ rfl rfl;rw[h.run (x:=Ej)];have d1:(97<=c)\/¬ (97<=c):=by omega
 by_cases a1:(97:Int)<=c
 ·by_cases a2:(c:Int)<=122
  ·have e:mr c=1:=by unfold mr;rw[ah (by omega)]
   simp[Ej,aj,Ur a1,Ur a2,e]
  ·have e:mr c=0:=by unfold mr;repeat rw[aa (by omega)]
   simp[Ej,aj,Ur a1,az a2,e,Ur (show(65:Int)<=c by omega),az (show ¬ (c:Int)<=90 by omega),Ur (show(48:Int)<=c by omega),az (show ¬ (c:Int)<=57 by omega),az (show ¬ (c:Int)=32 by omega),az (show ¬ (c:Int)=10 by omega),az (show ¬ (c:Int)=9 by omega)]
 by_cases a3:(65:Int)<=c
 ·by_cases a4:(c:Int)<=90
  ·have e:mr c=2:=by unfold mr;rw[aa (by omega),ah (by omega)]
   simp[Ej,aj,az a1,Ur a3,Ur a4,e]
  ·have e:mr c=0:=by unfold mr;repeat rw[aa (by omega)]
   simp[Ej,aj,az a1,Ur a3,az a4,e,Ur (show(48:Int)<=c by omega),az (show ¬ (c:Int)<=57 by omega),az (show ¬ (c:Int)=32 by omega),az (show ¬ (c:Int)=10 by omega),az (show ¬ (c:Int)=9 by omega)]
 by_cases a5:(48:Int)<=c
 ·by_cases a6:(c:Int)<=57
  ·have e:mr c=3:=by unfold mr;rw[aa (by omega),aa (by omega),ah (by omega)]
   simp[Ej,aj,az a1,az a3,Ur a5,Ur a6,e]
  ·have e:mr c=0:=by unfold mr;repeat rw[aa (by omega)]
   simp[Ej,aj,az a1,az a3,Ur a5,az a6,e,az (show ¬ (c:Int)=32 by omega),az (show ¬ (c:Int)=10 by omega),az (show ¬ (c:Int)=9 by omega)]
 by_cases b1:(c:Int)=32
 ·have e:mr c=4:=by unfold mr;rw[aa (by omega),aa (by omega),aa (by omega),ah (by omega)]
  simp[Ej,aj,az a1,az a3,az a5,Ur b1,e]
 by_cases b2:(c:Int)=10
 ·have e:mr c=4:=by unfold mr;rw[aa (by omega),aa (by omega),aa (by omega),ah (by omega)]
  simp[Ej,aj,az a1,az a3,az a5,az b1,Ur b2,e]
 by_cases b3:(c:Int)=9
 ·have e:mr c=4:=by unfold mr;rw[aa (by omega),aa (by omega),aa (by omega),ah (by omega)]
  simp[Ej,aj,az a1,az a3,az a5,az b1,az b2,Ur b3,e]
 ·have e:mr c=0:=by unfold mr;repeat rw[aa (by omega)]
  simp[Ej,aj,az a1,az a3,az a5,az b1,az b2,az b3,e]
theorem Kg (c:Nat):mr c<=4:=by unfold mr;(repeat' split)<;>omega
def l_:List UInt8->Nat->Bool->Nat×Bool×Bool
 |[],n,b=>(n,b,true)
 |c::r,n,b=>if 1<=mr c.toNat/\mr c.toNat<=3 then l_ r (n+1) (b || decide (mr c.toNat<3)) else (n,b,false)
def Ga (s:List UInt8)(r:Nat×Bool×Bool):Option (Ex×Env×Heap) :=
 match r with
 |(n,b,true)=>some (.exit 0,[(0,.p (.s s)),(1,.p (.i .i64 0)),(6,.p (.i .i64 n)),(7,.p (.b b)),(14,.p (.b false))],[])
 |(n,b,false)=>some (.ret,[(4,.p (.i .i64 n)),(5,.p (.b b))],[])
theorem Ze (h:bY pg){body:aU}(hb:body=rW){s:List UInt8}(hs:s.length<2 ^ 63):∀m i b,i+m=s.length ->
  L pg 0 [0,1,6,7] body [(0,.p (.s s)),(1,.p (.i .i64 0)),(6,.p (.i .i64 (i:Nat))),(7,.p (.b b))] []=Ga s (l_ (s.drop i) i b)
 |0,i,b,hi=>by
  have:i=s.length:=by omega
  subst this;rw[dA hb];have w0:=cR (s.length:Int);simp[rW,aj,l_,Ga,w0]
 |m+1,i,b,hi=>by
  have hlt:i<s.length:=by omega
  have ih:=λb=>Ze h hb hs m (i+1) b (by omega);have w0:=cR (i:Int);have w1:=cR ((i:Int)+1);have hd:s.drop i=s[i]::s.drop (i+1):=aM hlt;have hx:s[i]?=some s[i]:=gG hlt;have O6:=λG=>t58 (G:=G) h s[i].toNat;have hle:=Kg s[i].toNat;rw[dA hb,hd];simp only[l_];rw[show((i+1:Nat):Int)=(i:Int)+1 from by omega]at ih;have hk:mr s[i].toNat=0\/mr s[i].toNat=1\/mr s[i].toNat=2\/mr s[i].toNat=3\/mr s[i].toNat=4:=by omega
  rcases hk with e|e|e|e|e
  ·simp[rW,aj,w0,hlt,hx,O6,e,Ga]
  ·cases b<;>simp[rW,aj,w0,w1,hlt,hx,O6,e,ih,gc,exp,aQ,UG]
  ·cases b<;>simp[rW,aj,w0,w1,hlt,hx,O6,e,ih,gc,exp,aQ,UG]
  ·cases b<;>simp[rW,aj,w0,w1,hlt,hx,O6,e,ih,gc,exp,aQ,UG]
  ·simp[rW,aj,w0,hlt,hx,O6,e,Ga]
theorem t56 (h:bY pg){s:List UInt8}(hs:s.length<2 ^ 63):UM pg (E pg) 56 [.p (.s s),.p (.i .i64 0)] G=some (.ret (.dF [.p (.i .i64 ((l_ s 0 false).1:Nat)),.p (.b (l_ s 0 false).2.1)]),G):=by
 refine Ut ?_ rfl rfl;rw[h.run (x:=MZ)];have hL:=Ze h (body:=rW) rfl hs s.length 0 false (by omega);simp only[bp,fW]at hL;generalize l_ s 0 false=R at hL ⊢;rcases R with ⟨n,b,e⟩
 cases e<;>simp[MZ,aj,hL,Ga,gc,exp,aQ,UG]
theorem Gb:∀(s:List UInt8) (n:Nat) (b:Bool),n<=(l_ s n b).1/\(l_ s n b).1<=n+s.length
 |[],n,b=>by simp[l_]
 |c::r,n,b=>by
  unfold l_;split
  ·have:=Gb r (n+1) (b || decide (mr c.toNat<3));simp only[av];omega
  ·simp
theorem rv {sz:Nat}{G:Heap}{s:List UInt8}{k:Nat}(h:k<=s.length):jQ sz G (.p (.s s)) (some 0) (some (k:Int))=some (.p (.s (s.take k)),G):=by
 simp[jQ];omega
theorem qb {sz:Nat}{G:Heap}{c d:UInt8}{r:List UInt8}:jQ sz G (.p (.s (c::d::r))) (some 0) (some 2)=some (.p (.s [c,d]),G):=by
 have:=@rv sz G (c::d::r) 2 (by simp);simpa using this
def wm:List UInt8:=[92,46,40,41,61,123,125,124,43,45,42,47,60]
def Iz (s:List UInt8):Nat:=if 1<s.length/\(s.take 2=[45,62]\/s.take 2=[61,61]) then 2 else if allI (λ_ x=>!(x == s[0]!)) 0 wm then 0 else 1
theorem Kh {s:List UInt8}(h:s≠[]):Iz s<=s.length:=by
 have:0<s.length:=eR.2 h;unfold Iz;split
 ·omega
 ·split<;>omega
theorem t57 (h:bY pg){c:UInt8}{r:List UInt8}(hs:(c::r).length<2 ^ 63):UM pg (E pg) 57 [.p (.s (c::r)),.p (.i .i64 0)] G=some (.ret (.p (.i .i64 (Iz (c::r):Nat))),G):=by
 refine Ut ?_ rfl rfl;rw[h.run (x:=KA)];have hL:=kI (pg:=pg) (aK:=0) (live:=[0,1,5]) (body:=YF) rfl (λi=>[(0,.p (.s (c::r))),(1,.p (.i .i64 0)),(5,.p (.i .i64 (i:Nat)))]) [] [] wm 0 (λ_ x=>!(x == c)) [(4,.p (.i .i64 1))] [(0,.p (.s (c::r))),(1,.p (.i .i64 0)),(5,.p (.i .i64 13)),(28,.p (.b false))]
  (λi a hi hx hx' hp=>by
   have hi':(i:Int)<13:=by exact Int.ofNat_lt.2 hi
   simp only[a_,beq_eq_false_iff_ne,ne_eq]at hp;have hne:¬ (a.toNat:Int)=(c.toNat:Int):=λe=>hp (yi.1 (by omega));simp only[wm]at hx;simp[YF,aj,hi',hx,az hne,cR ((i:Int)+1),gc,exp,aQ,UG])
  (λi a hi hx hx' hp=>by
   have hi':(i:Int)<13:=by exact Int.ofNat_lt.2 hi
   simp only[jP,cZ]at hp;subst hp;simp only[wm]at hx;simp[YF,aj,hi',hx])
  (by simp[YF,aj,wm])
 simp only[fW]at hL;have e0:(c::r)[0]! = c:=rfl;have w1:=cR 1;have w2:=cR 2;unfold Iz;rw[e0];cases r with
 |nil =>
  simp[KA,aj,w1,w2,qb,gc,exp,aQ,UG,hL];cases allI (λ_ x=>!(x == c)) 0 wm<;>simp[aj]
 |cons d r' =>
  have a2:(1:Int)<(r'.length:Int)+1+1:=by omega
  have a3:1<(c::d::r').length:=by simp
  by_cases b1:[c,d]=[45,62]
  ·simp at b1;obtain⟨rfl,rfl⟩:=b1;simp[KA,aj,w1,w2,qb,a2]
  ·by_cases b2:[c,d]=[61,61]
   ·simp at b2;obtain⟨rfl,rfl⟩:=b2;simp[KA,aj,w1,w2,qb,a2]
   ·simp only[dV,VP]at b1 b2;have f1:(decide (c=45) && decide (d=62))=false:=by simpa using b1
    have f2:(decide (c=61) && decide (d=61))=false:=by simpa using b2
    have g1:(!decide (c=45) || !decide (d=62))=true:=by rw[<- oU,f1];rfl
    have g2:(!decide (c=61) || !decide (d=61))=true:=by rw[<- oU,f2];rfl
    simp[KA,aj,w1,w2,qb,f1,f2,g1,g2,az b1,az b2,a2,gc,exp,aQ,UG,hL];cases allI (λ_ x=>!(x == c)) 0 wm<;>simp[aj]
def wo (s:List UInt8):Bool:=s == [108,101,116] || s == [108,101,116,114,101,99] || s == [105,110] || s == [99,97,115,101] || s == [111,102]
theorem t60 (h:bY pg)(s:List UInt8):UM pg (E pg) 60 [.p (.s s)] G=some (.ret (.p (.b (wo s))),G):=by
 refine Ut ?_ rfl rfl;rw[h.run (x:=H8)];unfold wo;by_cases a1:s=[108,101,116]
 ·simp[H8,aj,a1]
 by_cases a2:s=[108,101,116,114,101,99]
 ·simp[H8,aj,a2]
 by_cases a3:s=[105,110]
 ·simp[H8,aj,a3]
 by_cases a4:s=[99,97,115,101]
 ·simp[H8,aj,a4]
 by_cases a5:s=[111,102]
 ·simp[H8,aj,a5]
 ·simp[H8,aj,a1,a2,a3,a4,a5]
def D9:List UInt8->Int->Int
 |[],n=>n
 |c::r,n=>D9 r (IntKind.i64.wrap (IntKind.i64.wrap (IntKind.i64.wrap (10 * n)+IntKind.i64.wrap c.toNat)-48))
theorem O5 (h:bY pg){body:aU}(hb:body=YG){s:List UInt8}(hs:s.length<2 ^ 63):∀m i n,i+m=s.length ->
  L pg 0 [0,3,4] body [(0,.p (.s s)),(3,.p (.i .i64 n)),(4,.p (.i .i64 (i:Nat)))] []=some (.exit 0,[(0,.p (.s s)),(3,.p (.i .i64 (D9 (s.drop i) n))),(4,.p (.i .i64 s.length)),(8,.p (.b false))],[])
 |0,i,n,hi=>by
  have:i=s.length:=by omega
  subst this;rw[dA hb];simp[YG,aj,D9]
 |m+1,i,n,hi=>by
  have hlt:i<s.length:=by omega
  have ih:=λn=>O5 h hb hs m (i+1) n (by omega);have w1:=cR ((i:Int)+1);have hd:s.drop i=s[i]::s.drop (i+1):=aM hlt;rw[show((i+1:Nat):Int)=(i:Int)+1 from by omega]at ih;rw[dA hb,hd];simp only[D9];simp[YG,aj,w1,hlt,ih,gc,exp,aQ,UG]
theorem t59 (h:bY pg){s:List UInt8}(hs:s.length<2 ^ 63):UM pg (E pg) 59 [.p (.s s)] G=some (.ret (.p (.i .i64 (D9 s 0))),G):=by
 refine Ut ?_ rfl rfl;rw[h.run (x:=M0)];have hL:=O5 h (body:=YG) rfl hs s.length 0 0 (by omega);simp only[bp,fW]at hL;simp[M0,aj,hL,gc,exp,aQ,UG]
structure qi where
 ao:Int
 text:List UInt8
 n:Int
def qi.aw (x:qi):List PV:=[iv x.ao,.s x.text,iv x.n,iv 0]
def td:qi:=⟨0,[],0⟩
def Gc (c:UInt8)(s:List UInt8)(n:Nat)(b:Bool)(k:Nat):qi×Int :=
 if n=0 then (if k=0 then (td,10) else (⟨5,s.take k,0⟩,0))
 else if mr c.toNat=3 then
  (if b=true then (td,10)
   else if 18<n\/(1<n/\c.toNat=48) then (td,11)
   else (⟨3,s.take n,D9 (s.take n) 0⟩,0))
 else if 16<n then (td,11)
 else (⟨if wo (s.take n)=true then 4 else mr c.toNat,s.take n,0⟩,0)
def za (s:List UInt8):qi×Int :=
 match s with
 |[]=>(td,10)
 |c::r=>Gc c (c::r) (l_ (c::r) 0 false).1 (l_ (c::r) 0 false).2.1 (Iz (c::r))
theorem t42 (h:bY pg){c:UInt8}{r:List UInt8}(hs:(c::r).length<2 ^ 63) :
  UM pg (E pg) 42 [.p (.s (c::r)),.p (.i .i64 0)] G=some (.ret (.dF [.ag (bP (za (c::r)).1.aw),.p (.i .i64 (za (c::r)).2)]),G):=by
 refine Ut ?_ rfl rfl;rw[h.run (x:=YQ)];have Qc:=λG=>t56 (G:=G) h hs;have Rb:=λG=>t57 (G:=G) h hs;have O6:=λG=>t58 (G:=G) h c.toNat;have hn:=(Gb (c::r) 0 false).2;have hk:=Kh (s:=c::r) (by simp);simp only[za];generalize hR:l_ (c::r) 0 false=R at Qc hn ⊢;obtain⟨n,b,e⟩:=R;dsimp only at Qc hn ⊢;unfold Gc;by_cases c1:n=0
 ·subst c1;generalize Iz (c::r)=k at Rb hk ⊢;have wk:=cR (k:Int);by_cases c2:k=0
  ·subst c2;simp[YQ,aj,Qc,Rb,qi.aw,td]
  ·have es:∀G,jQ 1 G (.p (.s (c::r))) (some 0) (some (k:Int))=some (.p (.s ((c::r).take k)),G):=λG=>rv hk;simp[YQ,aj,Qc,Rb,wk,es,c2,qi.aw]
 ·have wn:=cR (n:Int);have es:∀G,jQ 1 G (.p (.s (c::r))) (some 0) (some (n:Int))=some (.p (.s ((c::r).take n)),G):=λG=>rv (by omega);have Rc:=λG=>t59 (G:=G) h (s:=(c::r).take n) (by rw[gF];omega);have RI:=λG=>t60 (G:=G) h ((c::r).take n);generalize (c::r).take n=tx at es Rc RI ⊢;generalize mr c.toNat=k at O6 ⊢;by_cases c2:k=3
  ·subst c2;cases b with
   |true=>simp[YQ,aj,Qc,O6,wn,es,c1,qi.aw,td]
   |false =>
    by_cases c3:(18:Int)<n
    ·have c3':18<n:=by omega
     simp[YQ,aj,Qc,O6,wn,es,c1,Ur c3,Ur c3',qi.aw,td]
    ·have c3':¬ 18<n:=by omega
     by_cases c4:(1:Int)<n
     ·have c4':1<n:=by omega
      by_cases c5:(c.toNat:Int)=48
      ·have c5':c.toNat=48:=by omega
       simp[YQ,aj,Qc,O6,wn,es,c1,az c3,az c3',Ur c4,Ur c4',Ur c5,Ur c5',qi.aw,td]
      ·have c5':¬ c.toNat=48:=by omega
       simp[YQ,aj,Qc,O6,Rc,wn,es,c1,az c3,az c3',Ur c4,Ur c4',az c5,az c5',qi.aw,td]
     ·have c4':¬ 1<n:=by omega
      simp[YQ,aj,Qc,O6,Rc,wn,es,c1,az c3,az c3',az c4,az c4',qi.aw,td]
  ·have c2':¬ (k:Int)=3:=by omega
   by_cases c3:(16:Int)<n
   ·have c3':16<n:=by omega
    simp[YQ,aj,Qc,O6,wn,es,c1,az c2,az c2',Ur c3,Ur c3',qi.aw,td]
   ·have c3':¬ 16<n:=by omega
    cases hw:wo tx<;>simp[YQ,aj,Qc,O6,RI,hw,wn,es,c1,az c2,az c2',az c3,az c3',qi.aw,td]
inductive Tm.wq:Tm->Prop
 |mk {k n s l}:l.length<2 ^ 63->s.length<2 ^ 63->(∀t∈l,Tm.wq t)->Tm.wq (.mk k n s l)
mutual
def Tm.te:Tm->Nat->Nat->Option Nat
 |.mk _ _ _ l,left,deep=>if left=0\/deep=0 then none else Tm.oL l (left-1) (deep-1)
def Tm.oL:List Tm->Nat->Nat->Option Nat
 |[],left,_=>some left
 |a::r,left,d=>match a.te left d with
  |none=>none
  |some v=>Tm.oL r v d
end
mutual
theorem Tm.zb:∀(t:Tm) (a d v:Nat),t.te a d=some v->v<a
 |.mk _ _ _ l,a,d,v,h=>by
  unfold Tm.te at h;split at h
  ·cases h
  ·have:=Tm.C9 l _ _ _ h;omega
theorem Tm.C9:∀(l:List Tm) (a d v:Nat),Tm.oL l a d=some v->v<=a
 |[],a,d,v,h=>by simp[Tm.oL]at h;omega
 |t::r,a,d,v,h=>by
  unfold Tm.oL at h;split at h
  ·cases h
  ·rename_i w hw;have h1:=Tm.zb t _ _ _ hw;have h2:=Tm.C9 r _ _ _ h;omega
end
def nR:Option Nat->Int
 |none=>-1
 |some n=>n
end
section
set_option maxRecDepth 100000
section
variable {H:Type}{aw:TypeId×Value->H}{W:World}{aK:Nat}{spare:Nat->Bool}{held:Bool}
theorem Qu:∀(n:Nat) {cs:List Value} {y:DataW H×List MemPlace},DataW.trod aw Tryz.prog W aK spare held n 42 cs=some y->∃t:Tm,t.wq/\Cw (mW W) cs t.aw:=by
 intro n
 induction n using Nat.strongRecOn with
 |_ n ih =>
  intro cs y h;obtain⟨xs,m,hm,_,hl,hxs,hf⟩:=DataW.trod_struct Tryz.underlying42 h;rw[QL]at hl
  match cs,hl with
  |[c0,c1,c2,c3],_ =>
   match xs,hxs with
   |[x0,x1,x2,x3],_ =>
    have f0:=hf 0 _ rfl;have f1:=hf 1 _ rfl;have f2:=hf 2 _ rfl;have f3:=hf 3 _ rfl;simp[P5,P6,Y9]at f0 f1 f2 f3;obtain⟨k0,e0,_⟩:=uz f0;obtain⟨k1,e1,_⟩:=uz f1;obtain⟨k2,e2,n2⟩:=C8 f2;obtain⟨a3,c3',l3,e3,r3,q3,n3⟩:=xW Tm.aw Tm.wq Tryz.underlying40 QL (by omega) Tm.aS f3 (λn' cs' y' hn g _=>ih n' (by omega) g);cases e0;cases e1;cases e2;cases e3;have hM:=x6;refine⟨.mk k0 k1 k2 l3,.mk (by omega) (by omega) q3,?_⟩;simp only[Tm.aw,Tm.ba];exact .cons (.i _ _) (.cons (.i _ _) (.cons (.s _) (.cons r3 .nil)))
end
end
section
variable {pg:fX}{G:Heap}
def Yy (s:List UInt8):Bool:=!(s == []) && decide ((za s).2=0) && decide ((za s).1.ao=2) && decide ((za s).1.text=s)
theorem t67 (h:bY pg){s:List UInt8}(hs:s.length<2 ^ 63):UM pg (E pg) 67 [.p (.s s)] G=some (.ret (.p (.b (Yy s))),G):=by
 refine Ut ?_ rfl rfl;rw[h.run (x:=IU)];cases s with
 |nil=>simp[IU,aj,Yy]
 |cons c r =>
  have QV:=λG=>t42 (G:=G) h hs;unfold Yy;have e0:(!(c::r == []))=true:=rfl;rw[e0];generalize za (c::r)=o at QV ⊢;obtain⟨⟨k,tx,n⟩,e⟩:=o;simp only[qi.aw,bP,ai,au]at QV;dsimp only;by_cases c1:e=0
  ·by_cases c2:k=2
   ·by_cases c3:tx=c::r
    ·simp[IU,aj,QV,c1,c2,c3]
    ·simp[IU,aj,QV,c1,c2,c3]
   ·simp[IU,aj,QV,c1,c2]
  ·simp[IU,aj,QV,c1]
mutual
def Tm.nS:Tm->Bool
 |.mk k n s l =>
  if k=1 then decide (s=[]) && decide (l.length=0)
  else if n≠0\/k<2\/5<k then false
  else if k≠2 then decide (s=[]) && decide (l.length=0)
  else if s=[]\/8<l.length then false
  else Yy s && Tm.wB l
def Tm.wB:List Tm->Bool
 |[]=>true
 |a::r=>a.nS && Tm.wB r
end
mutual
def Tm.uA:Tm->Tm
 |.mk k n s l=>if k=1 then .mk 7 n [] [] else if k=3 then .mk 2 0 [] [.mk 1 0 [] []] else if k=4 then .mk 9 0 [] [] else .mk 4 0 s (Tm.tg l)
def Tm.tg:List Tm->List Tm
 |[]=>[]
 |a::r=>a.uA::Tm.tg r
end
def Tm.nv (t:Tm):AV:=.ag (bP t.aw)
inductive Tm.qH:Tm->Prop
 |mk {k n s l}:l.length<=60->(∀t∈l,Tm.qH t)->Tm.qH (.mk k n s l)
theorem mT (t:Tm)(G:Heap):cO G t.nv=some (t.aw,G):=by
 obtain⟨k,n,s,l⟩:=t;simp only[Tm.nv,Tm.aw];rfl
theorem th:aS 4 [PV.i .i64 0,PV.i .i64 0,PV.s [],PV.sl []]=true:=rfl
def Yz:aU:=(.ops [1,2,3,7,8] [⟨some 13,.Ve 2 (.t 3),none⟩,⟨some 14,.load 1 false (.t 13),none⟩,⟨some 15,.bin .eql .str (.t 14) (.k (.p (.s [43]))),none⟩,⟨some 16,.Vo (.t 15),none⟩,⟨some 17,.Ve 2 (.t 3),some (16,false)⟩,⟨some 18,.load 1 false (.t 17),some (16,false)⟩,⟨some 19,.bin .eql .str (.t 18) (.k (.p (.s [45]))),some (16,false)⟩,⟨some 20,.pick (.t 16) (.k (.p (.b true))) (.t 19),none⟩,⟨some 21,.Vo (.t 20),none⟩,⟨some 22,.Ve 2 (.t 3),some (21,false)⟩,⟨some 23,.load 1 false (.t 22),some (21,false)⟩,⟨some 24,.bin .eql .str (.t 23) (.k (.p (.s [42]))),some (21,false)⟩,⟨some 25,.pick (.t 21) (.k (.p (.b true))) (.t 24),none⟩,⟨some 26,.Vo (.t 25),none⟩,⟨some 27,.Ve 2 (.t 3),some (26,false)⟩,⟨some 28,.load 1 false (.t 27),some (26,false)⟩,⟨some 29,.bin .eql .str (.t 28) (.k (.p (.s [47]))),some (26,false)⟩,⟨some 30,.pick (.t 26) (.k (.p (.b true))) (.t 29),none⟩,⟨some 31,.Vo (.t 30),none⟩,⟨some 32,.Ve 2 (.t 3),some (31,false)⟩,⟨some 33,.load 1 false (.t 32),some (31,false)⟩,⟨some 34,.bin .eql .str (.t 33) (.k (.p (.s [60]))),some (31,false)⟩,⟨some 35,.pick (.t 31) (.k (.p (.b true))) (.t 34),none⟩,⟨some 36,.Vo (.t 35),none⟩,⟨some 37,.Ve 2 (.t 3),some (36,false)⟩,⟨some 38,.load 1 false (.t 37),some (36,false)⟩,⟨some 39,.bin .eql .str (.t 38) (.k (.p (.s [61,61]))),some (36,false)⟩,⟨some 40,.pick (.t 36) (.k (.p (.b true))) (.t 39),none⟩,⟨some 8,.Vo (.t 40),none⟩])
theorem me:MX=⟨(.seq (.ops [1,2,3] [⟨some 3,.box (.t 0),none⟩,⟨some 6,.Vo (.k (.p (.b false))),none⟩]) (.seq (.ops [1,2,3,7] [⟨some 10,.Ve 3 (.t 3),none⟩,⟨some 11,.load 1 false (.t 10),none⟩,⟨some 12,.len false (.t 11),none⟩,⟨some 7,.Vo (.t 12),none⟩]) (.seq Yz (.seq (.ops [1,2,3,7,8,9] [⟨some 41,.Ve 2 (.t 3),none⟩,⟨some 42,.load 1 false (.t 41),none⟩,⟨some 43,.bin .eql .str (.t 42) (.k (.p (.s []))),none⟩,⟨some 44,.Vo (.t 43),none⟩,⟨some 45,.Ve 1 (.t 3),some (44,true)⟩,⟨some 46,.load 1 false (.t 45),some (44,true)⟩,⟨some 47,.bin .eql .int (.t 46) (.k (.p (.i .i64 0))),some (44,true)⟩,⟨some 48,.pick (.t 44) (.t 47) (.k (.p (.b false))),none⟩,⟨some 9,.Vo (.t 48),none⟩]) (.seq (.seq (.ops [1,3,7,8,9,49] [⟨some 49,.Vo (.t 2),none⟩]) (.cond (.t 49) (.seq (.ops [6] [⟨some 50,.Ve 0 (.t 3),none⟩,⟨some 51,.load 1 false (.t 50),none⟩,⟨some 52,.bin .eql .int (.t 51) (.k (.p (.i .i64 6))),none⟩,⟨some 53,.Vo (.t 52),none⟩,⟨some 54,.Ve 2 (.t 3),some (53,true)⟩,⟨some 55,.load 1 false (.t 54),some (53,true)⟩,⟨some 56,.call 67 [(.t 55)],some (53,true)⟩,⟨some 57,.pick (.t 53) (.t 56) (.k (.p (.b false))),none⟩,⟨some 58,.Vo (.t 57),none⟩,⟨some 59,.Ve 1 (.t 3),some (58,true)⟩,⟨some 60,.load 1 false (.t 59),some (58,true)⟩,⟨some 61,.bin .geq .int (.t 60) (.k (.p (.i .i64 0))),some (58,true)⟩,⟨some 62,.pick (.t 58) (.t 61) (.k (.p (.b false))),none⟩,⟨some 63,.Vo (.t 62),none⟩,⟨some 64,.Ve 1 (.t 3),some (63,true)⟩,⟨some 65,.load 1 false (.t 64),some (63,true)⟩,⟨some 66,.bin .leq .int (.t 65) (.k (.p (.i .i64 8))),some (63,true)⟩,⟨some 67,.pick (.t 63) (.t 66) (.k (.p (.b false))),none⟩,⟨some 68,.Vo (.t 67),none⟩,⟨some 69,.Vo (.t 7),some (68,true)⟩,⟨some 70,.bin .eql .int (.t 69) (.k (.p (.i .i64 1))),some (68,true)⟩,⟨some 71,.pick (.t 68) (.t 70) (.k (.p (.b false))),none⟩,⟨some 6,.Vo (.t 71),none⟩]) .ret) .skip)) (.seq (.seq (.ops [1,3,7,8,9,73] [⟨some 72,.Ve 0 (.t 3),none⟩,⟨some 73,.load 1 false (.t 72),none⟩]) (.block 0 (.seq (.ops [1,3,7,8,9,73,74] [⟨some 75,.bin .eql .int (.t 73) (.k (.p (.i .i64 1))),none⟩,⟨some 74,.Vo (.t 75),none⟩]) (.cond (.t 74) (.seq (.ops [6] [⟨some 76,.Ve 2 (.t 3),none⟩,⟨some 77,.load 1 false (.t 76),none⟩,⟨some 78,.bin .eql .str (.t 77) (.k (.p (.s []))),none⟩,⟨some 79,.Vo (.t 78),none⟩,⟨some 80,.Vo (.t 7),some (79,true)⟩,⟨some 81,.bin .eql .int (.t 80) (.k (.p (.i .i64 0))),some (79,true)⟩,⟨some 82,.pick (.t 79) (.t 81) (.k (.p (.b false))),none⟩,⟨some 83,.Vo (.t 82),none⟩,⟨some 84,.Ve 1 (.t 3),some (83,true)⟩,⟨some 85,.load 1 false (.t 84),some (83,true)⟩,⟨some 86,.bin .geq .int (.t 85) (.k (.p (.i .i64 0))),some (83,true)⟩,⟨some 87,.pick (.t 83) (.t 86) (.k (.p (.b false))),none⟩,⟨some 88,.Vo (.t 87),none⟩,⟨some 89,.Ve 1 (.t 3),some (88,true)⟩,⟨some 90,.load 1 false (.t 89),some (88,true)⟩,⟨some 91,.Vo (.t 1),some (88,true)⟩,⟨some 92,.bin .lss .int (.t 90) (.t 91),some (88,true)⟩,⟨some 93,.pick (.t 88) (.t 92) (.k (.p (.b false))),none⟩,⟨some 6,.Vo (.t 93),none⟩]) .ret) (.seq (.ops [3,7,8,9,73,94] [⟨some 95,.bin .eql .int (.t 73) (.k (.p (.i .i64 2))),none⟩,⟨some 94,.Vo (.t 95),none⟩]) (.cond (.t 94) (.seq (.ops [6] [⟨some 96,.Vo (.t 9),none⟩,⟨some 97,.Vo (.t 96),none⟩,⟨some 98,.Vo (.t 7),some (97,true)⟩,⟨some 99,.bin .eql .int (.t 98) (.k (.p (.i .i64 1))),some (97,true)⟩,⟨some 100,.pick (.t 97) (.t 99) (.k (.p (.b false))),none⟩,⟨some 6,.Vo (.t 100),none⟩]) .ret) (.seq (.ops [3,7,8,9,73,101] [⟨some 102,.bin .eql .int (.t 73) (.k (.p (.i .i64 3))),none⟩,⟨some 101,.Vo (.t 102),none⟩]) (.cond (.t 101) (.seq (.ops [6] [⟨some 103,.Vo (.t 9),none⟩,⟨some 104,.Vo (.t 103),none⟩,⟨some 105,.Vo (.t 7),some (104,true)⟩,⟨some 106,.bin .eql .int (.t 105) (.k (.p (.i .i64 2))),some (104,true)⟩,⟨some 107,.pick (.t 104) (.t 106) (.k (.p (.b false))),none⟩,⟨some 6,.Vo (.t 107),none⟩]) .ret) (.seq (.ops [3,7,8,9,73,108] [⟨some 109,.bin .eql .int (.t 73) (.k (.p (.i .i64 4))),none⟩,⟨some 108,.Vo (.t 109),none⟩]) (.cond (.t 108) (.seq (.ops [6] [⟨some 110,.Ve 2 (.t 3),none⟩,⟨some 111,.load 1 false (.t 110),none⟩,⟨some 112,.call 67 [(.t 111)],none⟩,⟨some 113,.Vo (.t 112),none⟩,⟨some 114,.Ve 1 (.t 3),some (113,true)⟩,⟨some 115,.load 1 false (.t 114),some (113,true)⟩,⟨some 116,.bin .eql .int (.t 115) (.k (.p (.i .i64 0))),some (113,true)⟩,⟨some 117,.pick (.t 113) (.t 116) (.k (.p (.b false))),none⟩,⟨some 118,.Vo (.t 117),none⟩,⟨some 119,.Vo (.t 7),some (118,true)⟩,⟨some 120,.bin .leq .int (.t 119) (.k (.p (.i .i64 8))),some (118,true)⟩,⟨some 121,.pick (.t 118) (.t 120) (.k (.p (.b false))),none⟩,⟨some 6,.Vo (.t 121),none⟩]) .ret) (.seq (.ops [3,7,8,9,73,122] [⟨some 123,.bin .eql .int (.t 73) (.k (.p (.i .i64 5))),none⟩,⟨some 122,.Vo (.t 123),none⟩]) (.cond (.t 122) (.seq (.ops [6] [⟨some 124,.Vo (.t 9),none⟩,⟨some 125,.Vo (.t 124),none⟩,⟨some 126,.Vo (.t 7),some (125,true)⟩,⟨some 127,.bin .geq .int (.t 126) (.k (.p (.i .i64 2))),some (125,true)⟩,⟨some 128,.pick (.t 125) (.t 127) (.k (.p (.b false))),none⟩,⟨some 129,.Vo (.t 128),none⟩,⟨some 130,.Vo (.t 7),some (129,true)⟩,⟨some 131,.bin .leq .int (.t 130) (.k (.p (.i .i64 9))),some (129,true)⟩,⟨some 132,.pick (.t 129) (.t 131) (.k (.p (.b false))),none⟩,⟨some 6,.Vo (.t 132),none⟩]) .ret) (.seq (.ops [3,7,8,9,73,133] [⟨some 134,.bin .eql .int (.t 73) (.k (.p (.i .i64 7))),none⟩,⟨some 133,.Vo (.t 134),none⟩]) (.cond (.t 133) (.seq (.ops [6] [⟨some 135,.Ve 2 (.t 3),none⟩,⟨some 136,.load 1 false (.t 135),none⟩,⟨some 137,.bin .eql .str (.t 136) (.k (.p (.s []))),none⟩,⟨some 138,.Vo (.t 137),none⟩,⟨some 139,.Vo (.t 7),some (138,true)⟩,⟨some 140,.bin .eql .int (.t 139) (.k (.p (.i .i64 0))),some (138,true)⟩,⟨some 141,.pick (.t 138) (.t 140) (.k (.p (.b false))),none⟩,⟨some 6,.Vo (.t 141),none⟩]) .ret) (.seq (.ops [3,7,8,9,73,142] [⟨some 143,.bin .eql .int (.t 73) (.k (.p (.i .i64 8))),none⟩,⟨some 142,.Vo (.t 143),none⟩]) (.cond (.t 142) (.seq (.ops [6] [⟨some 144,.Vo (.t 8),none⟩,⟨some 145,.Vo (.t 144),none⟩,⟨some 146,.Ve 1 (.t 3),some (145,true)⟩,⟨some 147,.load 1 false (.t 146),some (145,true)⟩,⟨some 148,.bin .eql .int (.t 147) (.k (.p (.i .i64 0))),some (145,true)⟩,⟨some 149,.pick (.t 145) (.t 148) (.k (.p (.b false))),none⟩,⟨some 150,.Vo (.t 149),none⟩,⟨some 151,.Vo (.t 7),some (150,true)⟩,⟨some 152,.bin .eql .int (.t 151) (.k (.p (.i .i64 2))),some (150,true)⟩,⟨some 153,.pick (.t 150) (.t 152) (.k (.p (.b false))),none⟩,⟨some 6,.Vo (.t 153),none⟩]) .ret) (.seq (.ops [7,9,154] [⟨some 155,.bin .eql .int (.t 73) (.k (.p (.i .i64 9))),none⟩,⟨some 154,.Vo (.t 155),none⟩]) (.cond (.t 154) (.seq (.ops [6] [⟨some 156,.Vo (.t 9),none⟩,⟨some 157,.Vo (.t 156),none⟩,⟨some 158,.Vo (.t 7),some (157,true)⟩,⟨some 159,.bin .eql .int (.t 158) (.k (.p (.i .i64 0))),some (157,true)⟩,⟨some 160,.pick (.t 157) (.t 159) (.k (.p (.b false))),none⟩,⟨some 6,.Vo (.t 160),none⟩]) .ret) .skip)))))))))))))))))) (.seq (.ops [6] [⟨some 6,.Vo (.k (.p (.b false))),none⟩]) .ret))))))),[.t 6],false,false⟩:=rfl
def yb (s:List UInt8):Bool:=s == [43] || s == [45] || s == [42] || s == [47] || s == [60] || s == [61,61]
theorem wD (k n:Int)(s:List UInt8)(L0:List (List PV))(f:Int)(b:Bool)(m:Int) :
  bo pg (E pg) (L pg) 0 Yz [(1,.p (.i .i64 f)),(2,.p (.b b)),(3,.ptr 0 0),(7,.p (.i .i64 m))] [.box [.p (iv k),.p (iv n),.p (.s s),.p (.sl L0)]] =
   some (.normal,[(1,.p (.i .i64 f)),(2,.p (.b b)),(3,.ptr 0 0),(7,.p (.i .i64 m)),(8,.p (.b (yb s)))],[.box [.p (iv k),.p (iv n),.p (.s s),.p (.sl L0)]]):=by
 unfold yb;by_cases a1:s=[43]
 ·simp[Yz,aj,a1]
 by_cases a2:s=[45]
 ·simp[Yz,aj,a2]
 by_cases a3:s=[42]
 ·simp[Yz,aj,a3]
 by_cases a4:s=[47]
 ·simp[Yz,aj,a4]
 by_cases a5:s=[60]
 ·simp[Yz,aj,a5]
 by_cases a6:s=[61,61]
 ·simp[Yz,aj,a6]
 ·simp[Yz,aj,a1,a2,a3,a4,a5,a6]
def sG (k n:Int)(s:List UInt8)(m:Nat)(free:Int)(alt:Bool):Bool :=
 if alt=true then decide (k=6) && Yy s && decide (0<=n) && decide (n<=8) && decide (m=1)
 else if k=1 then decide (s=[]) && decide (m=0) && decide (0<=n) && decide (n<free)
 else if k=2 then decide (s=[]) && decide (n=0) && decide (m=1)
 else if k=3 then decide (s=[]) && decide (n=0) && decide (m=2)
 else if k=4 then Yy s && decide (n=0) && decide (m<=8)
 else if k=5 then decide (s=[]) && decide (n=0) && decide (2<=m) && decide (m<=9)
 else if k=7 then decide (s=[]) && decide (m=0)
 else if k=8 then yb s && decide (n=0) && decide (m=2)
 else if k=9 then decide (s=[]) && decide (n=0) && decide (m=0)
 else false
set_option maxHeartbeats 8000000 in
theorem t48 (h:bY pg)(k n:Int)(s:List UInt8)(l:List Tm)(hs:s.length<2 ^ 63)(free:Int)(alt:Bool):UM pg (E pg) 48 [.ag (bP (Tm.mk k n s l).aw),.p (.i .i64 free),.p (.b alt)] G=some (.ret (.p (.b (sG k n s l.length free alt))),G):=by
 refine Ut ?_ (by simp only[Tm.aw];rfl) rfl;rw[h.run (x:=MX)];have Qd:=λG=>t67 (G:=G) h hs;have hL:(l.map Tm.aw).length=l.length:=by simp
 simp only[Tm.aw,bP,Tm.ba,ai,au];generalize l.map Tm.aw=L0 at hL ⊢;generalize l.length=m at hL ⊢;generalize hcs:Yy s=cb at Qd;have z:=gB (s=[]);have w:=gB (n=0);have m8:((m:Int)<=8)=(m<=8):=by rw[eq_iff_iff];omega
 have m9:((m:Int)<=9)=(m<=9):=by rw[eq_iff_iff];omega
 have m2:((2:Int)<=(m:Int))=(2<=m):=by rw[eq_iff_iff];omega
 have e0:((m:Int)=0)=(m=0):=by rw[eq_iff_iff];omega
 have e1:((m:Int)=1)=(m=1):=by rw[eq_iff_iff];omega
 have e2:((m:Int)=2)=(m=2):=by rw[eq_iff_iff];omega
 cases alt with
 |true =>
  rcases gB (k=6) with c1|c1
  ·rcases z with z|z<;>rcases w with w|w<;>cases cb<;>rcases gB (0<=n) with b1|b1<;>rcases gB (n<=8) with b2|b2<;>simp[me,aj,wD,sG,hL,Qd,hcs,z,w,c1,b1,b2,e1]
  ·rcases z with z|z<;>rcases w with w|w<;>simp[me,aj,wD,sG,hL,Qd,hcs,z,w,c1]
 |false =>
  rcases gB (k=1) with c1|c1
  ·rcases z with z|z<;>rcases w with w|w<;>rcases gB (m=0) with b0|b0<;>rcases gB (0<=n) with b1|b1<;>rcases gB (n<free) with b2|b2<;>simp[me,aj,wD,sG,hL,Qd,hcs,z,w,c1,b1,b2,e0,b0]
  rcases gB (k=2) with c2|c2
  ·rcases z with z|z<;>rcases w with w|w<;>simp[me,aj,wD,sG,hL,Qd,z,w,c1,c2,e1]
  rcases gB (k=3) with c3|c3
  ·rcases z with z|z<;>rcases w with w|w<;>simp[me,aj,wD,sG,hL,Qd,z,w,c1,c2,c3,e2]
  rcases gB (k=4) with c4|c4
  ·rcases z with z|z<;>rcases w with w|w<;>cases cb<;>simp[me,aj,wD,sG,hL,Qd,hcs,z,w,c1,c2,c3,c4,m8]
  rcases gB (k=5) with c5|c5
  ·rcases z with z|z<;>rcases w with w|w<;>rcases gB (2<=m) with b0|b0<;>simp[me,aj,wD,sG,hL,Qd,z,w,c1,c2,c3,c4,c5,m2,m9,b0]
  rcases gB (k=7) with c7|c7
  ·rcases z with z|z<;>rcases w with w|w<;>simp[me,aj,wD,sG,hL,Qd,z,w,c1,c2,c3,c4,c5,c7,e0]
  rcases gB (k=8) with c8|c8
  ·generalize ho:yb s=o;rcases z with z|z<;>rcases w with w|w<;>cases o<;>simp[me,aj,wD,sG,hL,Qd,ho,z,w,c1,c2,c3,c4,c5,c7,c8,e2]
  rcases gB (k=9) with c9|c9
  ·rcases z with z|z<;>rcases w with w|w<;>simp[me,aj,wD,sG,hL,Qd,z,w,c1,c2,c3,c4,c5,c7,c8,c9,e0]
  ·rcases z with z|z<;>rcases w with w|w<;>simp[me,aj,wD,sG,hL,Qd,z,w,c1,c2,c3,c4,c5,c7,c8,c9]
def Tm.name:Tm->List UInt8
 |.mk _ _ s _=>s
theorem HR (a b:Int)(c:List UInt8)(d:List (List PV)):aS 4 [iv a,iv b,.s c,.sl d]=true:=rfl
theorem Md (h:bY pg){body:aU}(hb:body=oX)(f n:Int)(s:List UInt8)(l:List Tm)(hl:l.length<2 ^ 63)(i:Nat)(a:Tm)(hx:l[i]?=some a)(h1:1<=i) :
  L pg 0 [1,3,7,8] body [(1,.p (.i .i64 f)),(3,.ptr 0 0),(7,.p (.i .i64 i)),(8,.p (.i .i64 1))] [.box [.p (iv 5),.p (iv n),.p (.s s),.p (.sl (l.map Tm.aw))]] =
   bif allI (λ_ b=>decide (¬ Tm.name b=a.name)) 1 ((l.take i).drop 1) then some (.exit 2,[(1,.p (.i .i64 f)),(3,.ptr 0 0),(7,.p (.i .i64 i)),(8,.p (.i .i64 i)),(59,.p (.b false))],[.box [.p (iv 5),.p (iv n),.p (.s s),.p (.sl (l.map Tm.aw))]])
   else some (.ret,[(6,.p (.b false))],[.box [.p (iv 5),.p (iv n),.p (.s s),.p (.sl (l.map Tm.aw))]]):=by
 have hil:i<l.length:=by
  have:=(gE hx).1;exact this
 have hlt:(l.take i).length=i:=by simp;omega
 obtain⟨ka,na,sa,la⟩:=a;have hxe:l[i]=.mk ka na sa la:=(gE hx).2;have:=BN (pg:=pg) (aK:=0) (live:=[1,3,7,8]) hb (λj=>[(1,.p (.i .i64 f)),(3,.ptr 0 0),(7,.p (.i .i64 i)),(8,.p (.i .i64 (j:Nat)))]) [.box [.p (iv 5),.p (iv n),.p (.s s),.p (.sl (l.map Tm.aw))]] [.box [.p (iv 5),.p (iv n),.p (.s s),.p (.sl (l.map Tm.aw))]]
  (l.take i) 2 (λ_ b=>decide (¬ Tm.name b=sa)) [(6,.p (.b false))] [(1,.p (.i .i64 f)),(3,.ptr 0 0),(7,.p (.i .i64 i)),(8,.p (.i .i64 i)),(59,.p (.b false))]
  (λj b hj hy hy' hp=>by
   have hji:j<i:=by omega
   have hjl:j<l.length:=by omega
   have hyl:l[j]?=some b:=by rw[List.getElem?_take]at hy;simpa [hji] using hy
   obtain⟨kb,nb,sb,lb⟩:=b;have hye:l[j]=.mk kb nb sb lb:=(gE hyl).2;have hp':¬ sb=sa:=UC hp;have w1:=cR ((j:Int)+1);have hji':(j:Int)<i:=by omega
   subst hb;simp[oX,aj,hji',hjl,hil,hyl,hye,hx,hxe,Tm.aw,HR,az hp',w1,gc,exp,aQ,UG])
  (λj b hj hy hy' hp=>by
   have hji:j<i:=by omega
   have hjl:j<l.length:=by omega
   have hyl:l[j]?=some b:=by rw[List.getElem?_take]at hy;simpa [hji] using hy
   obtain⟨kb,nb,sb,lb⟩:=b;have hye:l[j]=.mk kb nb sb lb:=(gE hyl).2;have hp':sb=sa:=VQ.1 (of_decide_eq_false hp);have hji':(j:Int)<i:=by omega
   subst hb;simp[oX,aj,hji',hjl,hil,hyl,hye,hx,hxe,Tm.aw,HR,Ur hp'])
  (by subst hb;simp[oX,aj,hlt]) (i-1) 1 (by omega)
 simp only[WW]at this;exact this
theorem Me (h:bY pg){body:aU}(hb:body=oX)(f k n:Int)(s:List UInt8)(L0:List (List PV))(i:Nat)(h1:i=0\/¬ k=5) :
  L pg 0 [1,3,7,8] body [(1,.p (.i .i64 f)),(3,.ptr 0 0),(7,.p (.i .i64 i)),(8,.p (.i .i64 1))] [.box [.p (iv k),.p (iv n),.p (.s s),.p (.sl L0)]] =
   some (.exit 2,[(1,.p (.i .i64 f)),(3,.ptr 0 0),(7,.p (.i .i64 i)),(8,.p (.i .i64 1)),(59,.p (.b false))],[.box [.p (iv k),.p (iv n),.p (.s s),.p (.sl L0)]]):=by
 subst hb;rw[dA rfl];by_cases c1:(1:Int)<i
 ·have c2:¬ k=5:=by omega
  simp[oX,aj,Ur c1,c2]
 ·simp[oX,aj,az c1]
mutual
def Tm.may:Tm->Int->Bool->Bool
 |.mk k n s l,free,alt=>!decide (free<0) && sG k n s l.length free alt && Tm.mf (decide (k=5)) [] l (if k=2 then free+1 else if k=6 then free+n else free)
def Tm.mf (c5:Bool):List Tm->List Tm->Int->Bool
 |_,[],_=>true
 |pre,a::r,f=>a.may f (c5 && decide (0<pre.length)) && (!c5 || allI (λ_ b=>decide (¬ Tm.name b=a.name)) 1 (pre.drop 1)) && Tm.mf c5 (pre++[a]) r f
end
def Ci (c5:Bool)(f:Int)(l:List Tm)(i:Nat)(a:Tm):Bool:=a.may f (c5 && decide (0<i)) && (!c5 || allI (λ_ b=>decide (¬ Tm.name b=a.name)) 1 ((l.take i).drop 1))
theorem yc (c5:Bool)(f:Int)(l:List Tm):∀(r pre:List Tm),l=pre++r->allI (Ci c5 f l) pre.length r=Tm.mf c5 pre r f
 |[],pre,h=>by simp[allI,Tm.mf]
 |a::r,pre,h=>by
  have ih:=yc c5 f l r (pre++[a]) (by simp[h]);have ht:l.take pre.length=pre:=by rw[h];simp
  simp only[allI,Tm.mf,Ci,ht];rw[<- ih];simp
mutual
def Tm.depth:Tm->Nat
 |.mk _ _ _ l=>Tm.dp l+1
def Tm.dp:List Tm->Nat
 |[]=>0
 |a::r=>max a.depth (Tm.dp r)
end
theorem Tm.VE:∀{l:List Tm} {a:Tm},a∈l->a.depth<=Tm.dp l
 |b::r,a,h=>by
  simp only[Tm.dp];rcases aA.1 h with rfl|h
  ·omega
  ·have:=Tm.VE h;omega
theorem OE (h:bY pg)(f k n:Int)(s:List UInt8)(l:List Tm)(hl:l.length<2 ^ 63)
  (ih:∀t∈l,∀(alt:Bool) (G:Heap),UM pg (E pg) 35 [.ag (bP t.aw),.p (.i .i64 f),.p (.b alt)] G=some (.ret (.p (.b (t.may f alt))),G)) :
  L pg 0 [1,3,7] pw [(1,.p (.i .i64 f)),(3,.ptr 0 0),(7,.p (.i .i64 0))] [.box [.p (iv k),.p (iv n),.p (.s s),.p (.sl (l.map Tm.aw))]] =
   bif Tm.mf (decide (k=5)) [] l f then some (.exit 0,[(1,.p (.i .i64 f)),(3,.ptr 0 0),(7,.p (.i .i64 l.length)),(34,.p (.b false))],[.box [.p (iv k),.p (iv n),.p (.s s),.p (.sl (l.map Tm.aw))]])
   else some (.ret,[(6,.p (.b false))],[.box [.p (iv k),.p (iv n),.p (.s s),.p (.sl (l.map Tm.aw))]]):=by
 have k35:bC pg 35=false:=h.bq (x:=H7) rfl;have e2:∀t:Tm,t.aw.length=4:=λt=>by cases t;rfl
 have e3:∀t:Tm,t.aw.take 4=t.aw:=λt=>by cases t;rfl
 have hL:=kI (pg:=pg) (aK:=0) (live:=[1,3,7]) (body:=pw) rfl (λi=>[(1,.p (.i .i64 f)),(3,.ptr 0 0),(7,.p (.i .i64 (i:Nat)))]) [.box [.p (iv k),.p (iv n),.p (.s s),.p (.sl (l.map Tm.aw))]]
  [.box [.p (iv k),.p (iv n),.p (.s s),.p (.sl (l.map Tm.aw))]] l 0 (Ci (decide (k=5)) f l) [(6,.p (.b false))] [(1,.p (.i .i64 f)),(3,.ptr 0 0),(7,.p (.i .i64 l.length)),(34,.p (.b false))]
  (λi a hi hx hx' hp=>by
   have w1:=cR ((i:Int)+1);simp only[Ci,ab]at hp;by_cases c1:k=5
   ·subst c1;by_cases c2:i=0
    ·subst c2;have e1:=λG=>ih a (aE hx) false G;have hp1:a.may f false=true:=by simpa using hp.1
     rw[hp1]at e1;simp only[bP]at e1;have hb:=Me h (body:=oX) rfl f 5 n s (l.map Tm.aw) 0 (.inl rfl);simp only[fW]at hb;simp[pw,aj,hi,hx,hx',Tm.aS,e1,e2,e3,k35,cR 1,gc,exp,aQ,UG,hb]
    ·have e1:=λG=>ih a (aE hx) true G;have c2':(0:Int)<i:=by omega
     have c2'':0<i:=by omega
     have hp1:a.may f true=true:=by simpa [c2''] using hp.1
     have hp2:allI (λ_ b=>decide (¬ Tm.name b=a.name)) 1 ((l.take i).drop 1)=true:=by simpa using hp.2
     rw[hp1]at e1;simp only[bP]at e1;have hb:=Md h (body:=oX) rfl f n s l hl i a hx (by omega);rw[hp2]at hb;simp only[cond_true]at hb;simp[pw,aj,hi,hx,hx',Tm.aS,e1,e2,e3,k35,Ur c2',Ur c2'',w1,gc,exp,aQ,UG,hb]
   ·have e1:=λG=>ih a (aE hx) false G;have hp1:a.may f false=true:=by simpa [c1] using hp.1
    rw[hp1]at e1;simp only[bP]at e1;have hb:=Me h (body:=oX) rfl f k n s (l.map Tm.aw) i (.inr c1);simp[pw,aj,hi,hx,hx',Tm.aS,e1,e2,e3,k35,c1,w1,gc,exp,aQ,UG,hb])
  (λi a hi hx hx' hp=>by
   by_cases c1:k=5
   ·subst c1;by_cases c2:i=0
    ·subst c2;have e1:=λG=>ih a (aE hx) false G;have hp1:a.may f false=false:=by simpa [Ci,allI] using hp
     rw[hp1]at e1;simp only[bP]at e1;simp[pw,aj,hi,hx,hx',Tm.aS,e1,e2,e3,k35]
    ·have e1:=λG=>ih a (aE hx) true G;have c2':(0:Int)<i:=by omega
     have c2'':0<i:=by omega
     simp only[bP]at e1;cases hp1:a.may f true with
     |false =>
      rw[hp1]at e1;simp[pw,aj,hi,hx,hx',Tm.aS,e1,e2,e3,k35,Ur c2',Ur c2'']
     |true =>
      rw[hp1]at e1;have hp2:allI (λ_ b=>decide (¬ Tm.name b=a.name)) 1 ((l.take i).drop 1)=false:=by simpa [Ci,c2'',hp1] using hp
      have hb:=Md h (body:=oX) rfl f n s l hl i a hx (by omega);rw[hp2]at hb;simp only[cond_false]at hb;simp[pw,aj,hi,hx,hx',Tm.aS,e1,e2,e3,k35,Ur c2',Ur c2'',gc,exp,aQ,UG,hb]
   ·have e1:=λG=>ih a (aE hx) false G;have hp1:a.may f false=false:=by simpa [Ci,c1] using hp
    rw[hp1]at e1;simp only[bP]at e1;simp[pw,aj,hi,hx,hx',Tm.aS,e1,e2,e3,k35,c1])
  (by simp[pw,aj])
 rw[<- yc (decide (k=5)) f l l [] rfl];exact hL
theorem t35 (h:bY pg):∀(t:Tm),t.wq->∀(free:Int) (alt:Bool) (G:Heap),free+9 * t.depth<=2 ^ 60->-2 ^ 60<=free ->
  UM pg (E pg) 35 [.ag (bP t.aw),.p (.i .i64 free),.p (.b alt)] G=some (.ret (.p (.b (t.may free alt))),G):=by
 refine Tm.ind λk n s l ih hf free alt G hb hb'=>?_;have hfl:l.length<2 ^ 63/\s.length<2 ^ 63/\∀t∈l,t.wq:=by cases hf with|mk h1 h2 h3=>exact⟨h1,h2,h3⟩
 have hd:∀t∈l,t.depth+1<=(Tm.mk k n s l).depth:=λt ht=>by
  have:=Tm.VE ht;simp only[Tm.depth];omega
 have QJ:=λG=>t48 (G:=G) h k n s l hfl.2.1 free alt;simp only[Tm.aw,Tm.ba,bP,ai,au]at QJ;refine Ut ?_ (by simp only[Tm.aw];rfl) rfl;rw[h.run (x:=H7)];simp only[Tm.may];by_cases c1:free<0
 ·simp[H7,aj,Tm.aw,bP,Tm.ba,c1]
 cases hh:sG k n s l.length free alt with
 |false =>
  rw[hh]at QJ;simp[H7,aj,Tm.aw,bP,Tm.ba,c1,QJ]
 |true =>
  rw[hh]at QJ;by_cases c2:k=2
  ·subst c2;have w1:=cR (free+1);have hL:=OE h (free+1) 2 n s l hfl.1 (λt ht alt G=>ih t ht (hfl.2.2 t ht) (free+1) alt G (by have:=hd t ht;omega) (by omega));simp[H7,aj,Tm.aw,bP,Tm.ba,c1,QJ,w1,gc,exp,aQ,UG];rw[hL];cases hz:Tm.mf (decide ((2:Int)=5)) [] l (free+1)<;>simp[aj]at hz ⊢<;>simp[hz]
  by_cases c3:k=6
  ·subst c3;have hn:0<=n/\n<=8:=by
    cases alt with
    |true=>simp[sG]at hh;omega
    |false=>simp[sG]at hh
   have w1:=cR (free+n);have hL:=OE h (free+n) 6 n s l hfl.1 (λt ht alt G=>ih t ht (hfl.2.2 t ht) (free+n) alt G (by have:=hd t ht;omega) (by omega));simp[H7,aj,Tm.aw,bP,Tm.ba,c1,QJ,w1,gc,exp,aQ,UG];rw[hL];cases hz:Tm.mf (decide ((6:Int)=5)) [] l (free+n)<;>simp[aj]at hz ⊢<;>simp[hz]
  ·have hL:=OE h free k n s l hfl.1 (λt ht alt G=>ih t ht (hfl.2.2 t ht) free alt G (by have:=hd t ht;omega) (by omega));simp[H7,aj,Tm.aw,bP,Tm.ba,c1,c2,c3,QJ,gc,exp,aQ,UG];rw[hL];cases hz:Tm.mf (decide (k=5)) [] l free<;>simp[aj]
theorem t18 (h:bY pg){t:Tm}(ht:t.wq)(hd:t.depth<=2 ^ 40):UM pg (E pg) 18 [.ag (bP t.aw),.p (.i .i64 0)] G=some (.ret (.p (.b (t.may 0 false))),G):=by
 have Ra:=λG=>t35 h t ht 0 false G (by omega) (by omega);obtain⟨k,n,s,l⟩:=t;refine Ut ?_ (by simp only[Tm.aw];rfl) rfl;rw[h.run (x:=MT)];simp only[Tm.aw,bP,ai,au]at Ra ⊢;simp[MT,aj,Ra]
end
mutual
theorem Tm.tj:∀(t:Tm) (a d v:Nat),t.te a d=some v->a<=60->t.qH/\t.Fit/\t.depth+v<=a
 |.mk k n s l,a,d,v,h,ha=>by
  unfold Tm.te at h;split at h
  ·cases h
  ·have:=Tm.wE l _ _ _ h (by omega);refine⟨.mk (by omega) (λt ht=>(this.1 t ht).1),.mk (by omega) (λt ht=>(this.1 t ht).2),?_⟩;simp only[Tm.depth];omega
theorem Tm.wE:∀(l:List Tm) (a d v:Nat),Tm.oL l a d=some v->a<=60->(∀t∈l,t.qH/\t.Fit)/\l.length+v<=a/\Tm.dp l+v<=a
 |[],a,d,v,h,ha=>by
  simp[Tm.oL]at h;subst h;simp[Tm.dp]
 |t::r,a,d,v,h,ha=>by
  unfold Tm.oL at h;split at h
  ·cases h
  ·rename_i w hw;have h1:=Tm.tj t _ _ _ hw ha;have h0:=Tm.zb t _ _ _ hw;have h2:=Tm.wE r _ _ _ h (by omega);refine⟨λu hu=>?_,by simp only[av];omega,by simp only[Tm.dp];omega⟩;rcases aA.1 hu with rfl|hu
   ·exact⟨h1.1,h1.2.1⟩
   ·exact h2.1 u hu
end
mutual
def Tm.ct:Tm->Ct
 |.mk k n s l=>if k=1 then .int n else if k=3 then .lam (.var 0) else if k=4 then .fail else .UW s (Tm.KK l)
def Tm.KK:List Tm->List Ct
 |[]=>[]
 |a::r=>a.ct::Tm.KK r
end
mutual
theorem Tm.IC:∀t:Tm,t.ct.tm=t.uA
 |.mk k n s l=>by
  simp only[Tm.ct,Tm.uA];split
  ·rfl
  ·split
   ·rfl
   ·split
    ·rfl
    ·simp only[Ct.tm,Tm.Gu l]
theorem Tm.Gu:∀l:List Tm,Ct.gp (Tm.KK l)=Tm.tg l
 |[]=>rfl
 |a::r=>by simp only[Tm.KK,Ct.gp,Tm.tg,Tm.IC a,Tm.Gu r]
end
section
variable {pg:fX}{G:Heap}
theorem Pa (h:bY pg){body:aU}(hb:body=xy)(k n:Int)(s:List UInt8)(l:List Tm)(hl:l.length<2 ^ 63)(d:Nat)(hd:0<d/\d<=1000)
  (ih:∀t∈l,∀(a b:Nat) (G:Heap),a<=1000->b<=1000->UM pg (E pg) 34 [.ag (bP t.aw),.p (.i .i64 a),.p (.i .i64 b)] G=some (.ret (.p (.i .i64 (nR (t.te a b)))),G)) :
  ∀m i a,i+m=l.length->a<=1000 ->
  L pg 0 [1,2,3,7] body [(1,.p (.i .i64 (a:Nat))),(2,.p (.i .i64 (d:Nat))),(3,.ptr 0 0),(7,.p (.i .i64 (i:Nat)))] [.box [.p (iv k),.p (iv n),.p (.s s),.p (.sl (l.map Tm.aw))]] =
   (match Tm.oL (l.drop i) a (d-1) with
    |some v=>some (.exit 0,[(1,.p (.i .i64 (v:Nat))),(2,.p (.i .i64 (d:Nat))),(3,.ptr 0 0),(7,.p (.i .i64 l.length)),(20,.p (.b false))],[.box [.p (iv k),.p (iv n),.p (.s s),.p (.sl (l.map Tm.aw))]])
    |none=>some (.ret,[(6,.p (.i .i64 (-1)))],[.box [.p (iv k),.p (iv n),.p (.s s),.p (.sl (l.map Tm.aw))]]))
 |0,i,a,hi,ha=>by
  have:i=l.length:=by omega
  subst this;rw[dA hb];simp[xy,aj,Tm.oL]
 |m+1,i,a,hi,ha=>by
  have hlt:i<l.length:=by omega
  have hx:l[i]?=some l[i]:=gG hlt;have e1:=λG=>ih l[i] (aE hx) a (d-1) G ha (by omega);have e2:∀t:Tm,t.aw.length=4:=λt=>by cases t;rfl
  have e3:∀t:Tm,t.aw.take 4=t.aw:=λt=>by cases t;rfl
  have wd:=cR ((d:Int)-1);have w1:=cR ((i:Int)+1);rw[show((d-1:Nat):Int)=(d:Int)-1 from by omega]at e1;have hdr:l.drop i=l[i]::l.drop (i+1):=aM hlt;rw[dA hb,hdr];simp only[Tm.oL];cases hf:l[i].te a (d-1) with
  |none =>
   simp only[hf,nR,bP]at e1;simp[xy,aj,hlt,hx,Tm.aS,e1,e2,e3,wd,w1]
  |some v =>
   have hv:=Tm.zb _ _ _ _ hf;have ih':=Pa h hb k n s l hl d hd ih m (i+1) v (by omega) (by omega);rw[show((i+1:Nat):Int)=(i:Int)+1 from by omega]at ih';simp only[hf,nR,bP]at e1;have hv0:¬ (v:Int)<0:=by omega
   simp[xy,aj,hlt,hx,Tm.aS,e1,e2,e3,wd,w1,hv0,gc,exp,aQ,UG,ih']
theorem t34 (h:bY pg):∀(t:Tm),t.wq->∀(a b:Nat) (G:Heap),a<=1000->b<=1000->UM pg (E pg) 34 [.ag (bP t.aw),.p (.i .i64 a),.p (.i .i64 b)] G=some (.ret (.p (.i .i64 (nR (t.te a b)))),G):=by
 refine Tm.ind λk n s l ih hf a b G ha hb=>?_;have hfl:l.length<2 ^ 63/\∀t∈l,t.wq:=by cases hf with|mk h1 _ h2=>exact⟨h1,h2⟩
 refine Ut ?_ (by simp only[Tm.aw];rfl) rfl;rw[h.run (x:=Kw)];by_cases c1:(a:Int)<1
 ·have c1':a=0:=by omega
  subst c1';simp[Kw,aj,Tm.aw,bP,Tm.ba,Tm.te,nR]
 by_cases c2:(b:Int)<1
 ·have c2':b=0:=by omega
  subst c2';simp[Kw,aj,Tm.aw,bP,Tm.ba,Tm.te,nR,c1]
 ·have c3:¬ (a=0\/b=0):=by omega
  have hL:=Pa h (body:=xy) rfl k n s l hfl.1 b (by omega) (λt ht a b G h1 h2=>ih t ht (hfl.2 t ht) a b G h1 h2) l.length 0 (a-1) (by omega) (by omega);rw[show((a-1:Nat):Int)=(a:Int)-1 from by omega]at hL;simp only[bp,fW]at hL;have w1:=cR ((a:Int)-1);simp only[Tm.te,aa c3];cases hw:Tm.oL l (a-1) (b-1) with
  |none =>
   rw[hw]at hL;simp[Kw,aj,Tm.aw,bP,Tm.ba,nR,c1,c2,w1,gc,exp,aQ,UG,hL]
  |some v =>
   rw[hw]at hL;simp[Kw,aj,Tm.aw,bP,Tm.ba,nR,c1,c2,w1,gc,exp,aQ,UG,hL]
theorem t16 (h:bY pg)(t:Tm)(ht:t.wq):UM pg (E pg) 16 [.ag (bP t.aw),.p (.i .i64 60)] G=some (.ret (.p (.b (t.te 60 600).isSome)),G):=by
 have QI:=λG=>t34 h t ht 60 600 G (by omega) (by omega);simp only[Bn,HX]at QI;obtain⟨k,n,s,l⟩:=t;refine Ut ?_ (by simp only[Tm.aw];rfl) rfl;rw[h.run (x:=Mt)];cases hw:(Tm.mk k n s l).te 60 600 with
 |none =>
  rw[hw]at QI;simp only[Tm.aw,bP,ai,au,nR]at QI ⊢;simp[Mt,aj,QI]
 |some v =>
  rw[hw]at QI;simp only[Tm.aw,bP,ai,au,nR]at QI ⊢;simp[Mt,aj,QI]
theorem Tm.pS (t:Tm):t.aw.length=4:=by cases t;rfl
theorem Tm.ku (t:Tm):t.aw.take 4=t.aw:=by cases t;rfl
theorem Tm.Bb {l:List Tm}{i:Nat}(h:i<l.length):Tm.dp (l.drop i)=Nat.max l[i].depth (Tm.dp (l.drop (i+1))):=by
 rw[aM h];rfl
theorem Pb (h:bY pg){body:aU}(hb:body=zY)(k n:Int)(s:List UInt8)(l:List Tm)(hl:l.length<=60)(B:Nat)(hB:B<=2 ^ 50)
  (ih:∀t∈l,t.depth<=B/\∀(G:Heap),UM pg (E pg) 17 [.ag (bP t.aw)] G=some (.ret (.p (.i .i64 t.depth)),G)) :
  ∀m i (a:Nat),i+m=l.length->a<=B ->
  L pg 0 [1,3,4] body [(1,.ptr 0 0),(3,.p (.i .i64 (a:Nat))),(4,.p (.i .i64 (i:Nat)))] [.box [.p (iv k),.p (iv n),.p (.s s),.p (.sl (l.map Tm.aw))]] =
   some (.exit 0,[(1,.ptr 0 0),(3,.p (.i .i64 (Nat.max a (Tm.dp (l.drop i)):Nat))),(4,.p (.i .i64 l.length)),(9,.p (.b false))],[.box [.p (iv k),.p (iv n),.p (.s s),.p (.sl (l.map Tm.aw))]])
 |0,i,a,hi,ha=>by
  have:i=l.length:=by omega
  subst this;rw[dA hb];simp[zY,aj,Tm.dp]
 |m+1,i,a,hi,ha=>by
  have hlt:i<l.length:=by omega
  have hx:l[i]?=some l[i]:=gG hlt;obtain⟨hd,e1⟩:=ih l[i] (aE hx);have w1:=cR ((i:Int)+1);have hm:qL (a:Int) (l[i].depth:Int)=((Nat.max a l[i].depth:Nat):Int):=by
   unfold qL;simp only[Nat.max_def];split<;>split<;>omega
  have ih':=Pb h hb k n s l hl B hB ih m (i+1) (Nat.max a l[i].depth) (by omega) (ql.2 ⟨ha,hd⟩);rw[show((i+1:Nat):Int)=(i:Int)+1 from by omega]at ih';have hmm:Nat.max (Nat.max a l[i].depth) (Tm.dp (l.drop (i+1)))=Nat.max a (Tm.dp (l.drop i)):=by
   rw[Tm.Bb hlt];exact Nat.max_assoc _ _ _
  rw[hmm]at ih';simp only[bP]at e1;rw[dA hb];simp[zY,aj,hlt,hx,Tm.aS,e1,Tm.pS,Tm.ku,w1,hm,gc,exp,aQ,UG,ih']
theorem t17 (h:bY pg):∀(t:Tm),t.qH->t.depth<=2 ^ 40->∀(G:Heap),UM pg (E pg) 17 [.ag (bP t.aw)] G=some (.ret (.p (.i .i64 t.depth)),G):=by
 refine Tm.ind λk n s l ih hf hd G=>?_;have hfl:l.length<=60/\∀t∈l,t.qH:=by cases hf with|mk h1 h2=>exact⟨h1,h2⟩
 simp only[Tm.depth]at hd;have hdm:∀t∈l,t.depth<=Tm.dp l:=λt ht=>Tm.VE ht;refine Ut ?_ (by simp only[Tm.aw];rfl) rfl;have hL:=Pb h (body:=zY) rfl k n s l hfl.1 (Tm.dp l) (by omega) (λt ht=>⟨hdm t ht,λG=>ih t ht (hfl.2 t ht) (by have:=hdm t ht;omega) G⟩) l.length 0 0 (by omega) (by omega);simp only[bp,fW,show Nat.max 0 (Tm.dp l)=Tm.dp l from fD (dv _)]at hL;have w1:=cR ((Tm.dp l:Int)+1);rw[h.run (x:=MS)];simp[MS,aj,Tm.aw,bP,Tm.ba,Tm.depth,w1,gc,exp,aQ,UG,hL]
mutual
def Tm.size:Tm->Nat
 |.mk _ _ _ l=>Tm.dt l+1
def Tm.dt:List Tm->Nat
 |[]=>0
 |a::r=>a.size+Tm.dt r
end
theorem Tm.Cj {l:List Tm}{i:Nat}(h:i<l.length):Tm.dt (l.drop i)=l[i].size+Tm.dt (l.drop (i+1)):=by
 rw[aM h];rfl
theorem Tm.Gv {l:List Tm}{t:Tm}(h:t∈l):t.size<=Tm.dt l:=by
 induction l with
 |nil=>simp at h
 |cons a r ih =>
  simp only[Tm.dt];rcases aA.1 h with rfl|h
  ·omega
  ·have:=ih h;omega
theorem Pc (h:bY pg){body:aU}(hb:body=YE)(k n:Int)(s:List UInt8)(l:List Tm)(hl:l.length<=60)(hB:Tm.dt l<=2 ^ 50)
  (ih:∀t∈l,∀(G:Heap),UM pg (E pg) 54 [.ag (bP t.aw)] G=some (.ret (.p (.i .i64 t.size)),G)) :
  ∀m i (a:Nat),i+m=l.length->a+Tm.dt (l.drop i)<=2 ^ 50+1 ->
  L pg 0 [1,3,4] body [(1,.ptr 0 0),(3,.p (.i .i64 (a:Nat))),(4,.p (.i .i64 (i:Nat)))] [.box [.p (iv k),.p (iv n),.p (.s s),.p (.sl (l.map Tm.aw))]] =
   some (.exit 0,[(1,.ptr 0 0),(3,.p (.i .i64 (a+Tm.dt (l.drop i):Nat))),(4,.p (.i .i64 l.length)),(9,.p (.b false))],[.box [.p (iv k),.p (iv n),.p (.s s),.p (.sl (l.map Tm.aw))]])
 |0,i,a,hi,ha=>by
  have:i=l.length:=by omega
  subst this;rw[dA hb];simp[YE,aj,Tm.dt]
 |m+1,i,a,hi,ha=>by
  have hlt:i<l.length:=by omega
  have hx:l[i]?=some l[i]:=gG hlt;have e1:=ih l[i] (aE hx);have w1:=cR ((i:Int)+1);have hdr:=Tm.Cj hlt;have ih':=Pc h hb k n s l hl hB ih m (i+1) (a+l[i].size) (by omega) (by omega);rw[show((i+1:Nat):Int)=(i:Int)+1 from by omega,show a+l[i].size+Tm.dt (l.drop (i+1))=a+Tm.dt (l.drop i) from by omega,show((a+l[i].size:Nat):Int)=(a:Int)+l[i].size from by omega]at ih';have w2:=cR ((a:Int)+l[i].size);simp only[bP]at e1;rw[dA hb];simp[YE,aj,hlt,hx,Tm.aS,e1,Tm.pS,Tm.ku,w1,w2,gc,exp,aQ,UG,ih']
theorem t54 (h:bY pg):∀(t:Tm),t.qH->t.size<=2 ^ 50->∀(G:Heap),UM pg (E pg) 54 [.ag (bP t.aw)] G=some (.ret (.p (.i .i64 t.size)),G):=by
 refine Tm.ind λk n s l ih hf hd G=>?_;have hfl:l.length<=60/\∀t∈l,t.qH:=by cases hf with|mk h1 h2=>exact⟨h1,h2⟩
 simp only[Tm.size]at hd;refine Ut ?_ (by simp only[Tm.aw];rfl) rfl;have hL:=Pc h (body:=YE) rfl k n s l hfl.1 (by omega) (λt ht G=>ih t ht (hfl.2 t ht) (by have:=Tm.Gv ht;omega) G) l.length 0 1 (by omega) (by simp only[bp];omega);simp only[bp,fW,WW]at hL;rw[h.run (x:=MY)];have hs:((1+Tm.dt l:Nat):Int)=(Tm.dt l:Int)+1:=by omega
 simp[MY,aj,Tm.aw,bP,Tm.ba,Tm.size,gc,exp,aQ,UG,hL,hs]
def de (k n:Int):Int:=if k=2 then 1 else if k=6 then n else 0
theorem t68 (h:bY pg)(k n:Int)(s:List UInt8)(l:List (List PV)):UM pg (E pg) 68 [.ag [.p (iv k),.p (iv n),.p (.s s),.p (.sl l)]] G=some (.ret (.p (.i .i64 (de k n))),G):=by
 refine Ut ?_ rfl rfl;rw[h.run (x:=YP)];unfold de;by_cases c1:k=2
 ·simp[YP,aj,c1]
 ·by_cases c2:k=6
  ·simp[YP,aj,c1,c2]
  ·simp[YP,aj,c1,c2]
theorem t75 (h:bY pg)(k n:Int)(s:List UInt8)(l:List (List PV)):UM pg (E pg) 75 [.ag [.p (iv k),.p (iv n),.p (.s s),.p (.sl l)]] G=some (.ret (.p (.b (decide (k=2) || decide (k=4) || decide (k=7) || decide (k=9)))),G):=by
 refine Ut ?_ rfl rfl;rw[h.run (x:=IV)];by_cases c1:k=2
 ·simp[IV,aj,c1]
 by_cases c2:k=4
 ·simp[IV,aj,c2]
 by_cases c3:k=7
 ·simp[IV,aj,c3]
 by_cases c4:k=9
 ·simp[IV,aj,c4]
 simp[IV,aj,c1,c2,c3,c4]
theorem t79 (h:bY pg):UM pg (E pg) 79 [] G=some (.ret (.dF [.ag (bP (Tm.mk 9 0 [] []).aw),.p (.i .i64 4)]),G):=by
 refine Ut ?_ rfl rfl;rw[h.run (x:=M5)];simp[M5,aj,Tm.aw,Tm.df,bP]
theorem t101 (h:bY pg)(n:Int):UM pg (E pg) 101 [.p (.i .i64 n)] G=some (.ret (.dF [.ag (bP (Tm.mk 7 n [] []).aw),.p (.i .i64 3)]),G):=by
 refine Ut ?_ rfl rfl;rw[h.run (x:=IX)];simp[IX,aj,Tm.aw,Tm.df,bP]
def Eg (s:List UInt8)(a b:Int):Tm×Int :=
 if s=[43] then (.mk 7 (IntKind.i64.wrap (a+b)) [] [],3) else if s=[45] then (.mk 7 (IntKind.i64.wrap (a-b)) [] [],3)
 else if s=[42] then (.mk 7 (IntKind.i64.wrap (a * b)) [] [],3) else if s=[47] then (if b=0 then (.mk 9 0 [] [],4) else (.mk 7 (IntKind.i64.wrap (a.tdiv b)) [] [],3))
 else if (s=[60]/\a<b)\/(s=[61,61]/\a=b) then (.mk 4 0 [84,114,117,101] [],3) else (.mk 4 0 [70,97,108,115,101] [],3)
theorem t80 (h:bY pg)(s:List UInt8)(a b:Int):UM pg (E pg) 80 [.p (.s s),.p (.i .i64 a),.p (.i .i64 b)] G=some (.ret (.dF [.ag (bP (Eg s a b).1.aw),.p (.i .i64 (Eg s a b).2)]),G):=by
 have Qh:=λG=>t79 (G:=G) h;have Ko:=λn G=>t101 (G:=G) h n;simp only[Tm.aw,Tm.df,bP,ai,au]at Qh Ko;refine Ut ?_ rfl ?_
 ·rw[h.run (x:=DO)];unfold Eg;by_cases c1:s=[43]
  ·simp[DO,aj,c1,Ko,Tm.aw,Tm.df,bP]
  by_cases c2:s=[45]
  ·simp[DO,aj,c2,Ko,Tm.aw,Tm.df,bP]
  by_cases c3:s=[42]
  ·simp[DO,aj,c3,Ko,Tm.aw,Tm.df,bP]
  by_cases c4:s=[47]
  ·by_cases d1:b=0
   ·simp[DO,aj,c4,d1,Qh,Tm.aw,Tm.df,bP]
   ·by_cases d2:b=-1
    ·have e:a.tdiv (-1)=0-a:=by rw[Int.tdiv_neg,Int.tdiv_one];omega
     simp[DO,aj,c4,d2,Ko,Tm.aw,Tm.df,bP,e]
    ·simp[DO,aj,c4,d1,d2,Ko,Tm.aw,Tm.df,bP]
  by_cases c5:s=[60]
  ·by_cases d1:a<b
   ·simp[DO,aj,c5,d1,Tm.aw,Tm.df,bP]
   ·simp[DO,aj,c5,d1,Tm.aw,Tm.df,bP]
  by_cases c6:s=[61,61]
  ·by_cases d1:a=b
   ·simp[DO,aj,c6,d1,Tm.aw,Tm.df,bP]
   ·simp[DO,aj,c6,d1,Tm.aw,Tm.df,bP]
  simp[DO,aj,c1,c2,c3,c4,c5,c6,Tm.aw,Tm.df,bP]
 ·simp only[Out.bf,bf,cH,bE 0 (eZ _)];rfl
inductive Tm.Ck:Int->Tm->Prop
 |mk {f k n:Int} {s:List UInt8} {l:List Tm}:(k=1->0<=n/\n<f)->(k=6->0<=n/\n<=8)->l.length<=60->(∀t∈l,Tm.Ck (f+de k n) t)->Tm.Ck f (.mk k n s l)
theorem wG {k n:Int}(h:k=6->0<=n/\n<=8):0<=de k n/\de k n<=8:=by
 unfold de;split
 ·omega
 ·split
  ·exact h (by assumption)
  ·omega
theorem Tm.eS (k n:Int)(s:List UInt8)(l:List Tm):(Tm.mk k n s l).nv=.ag [.p (iv k),.p (iv n),.p (.s s),.p (.sl (l.map Tm.aw))]:=by
 simp only[Tm.nv,Tm.aw,Tm.ba];rfl
def Cm (k n:Int)(s:List UInt8)(l:List Tm)(f:Tm->Tm)(i:Nat):Heap :=
 [.box [.p (iv k),.p (iv n),.p (.s s),.p (.sl (l.map Tm.aw))],.box [.p (iv 0),.p (iv 0),.p (.s []),.aC],.box [.p (iv k),.p (iv n),.p (.s s),.arr 3 i (i-1)],.arr 4 ((l.take i).map λt=>(f t).aw) (i-1) 0]
theorem Mf (h:bY pg){body:aU}(hb:body=WQ){k n:Int}{s:List UInt8}{l:List Tm}(by' fr:Int)(hl:l.length<=60)(hf:-2 ^ 60<=fr/\fr<=2 ^ 60)(hm:0<=de k n/\de k n<=8)
  (ih:∀t∈l,∀G:Heap,UM pg (E pg) 119 [.ag (bP t.aw),.p (.i .i64 by'),.p (.i .i64 (fr+de k n))] G=some (.ret t.nv,G)):∀m i,1<=i->i+m=l.length ->
  L pg 0 [1,2,3,6,7,8] body [(1,.p (.i .i64 by')),(2,.p (.i .i64 fr)),(3,.ptr 0 0),(6,.ptr 1 0),(7,.ptr 2 0),(8,.p (.i .i64 (i:Nat)))] (Cm k n s l id i) =
   some (.exit 0,[(1,.p (.i .i64 by')),(2,.p (.i .i64 fr)),(3,.ptr 0 0),(6,.ptr 1 0),(7,.ptr 2 0),(8,.p (.i .i64 l.length)),(33,.p (.b false))],Cm k n s l id l.length)
 |0,i,h1,hi=>by
  have:i=l.length:=by omega
  subst this;rw[dA hb];simp[WQ,aj,Cm]
 |m+1,i,h1,hi=>by
  have hlt:i<l.length:=by omega
  have hx:l[i]?=some l[i]:=gG hlt;have e1:=λG=>ih l[i] (aE hx) G;have ih':=Mf h hb (k:=k) (n:=n) (s:=s) by' fr hl hf hm ih m (i+1) (by omega) (by omega)
  rw[show((i+1:Nat):Int)=(i:Int)+1 from by omega]at ih';have e5:List.take (i+1) l=List.take i l++[l[i]]:=by rw[cG,gG hlt];rfl
  have e6:i-1+1=i:=by omega
  have e7:bZ (i+1) 56=true:=by simp[bZ];omega
  have e9:i<=l.length:=by omega
  have w1:=cR ((i:Int)+1);have w2:=cR (fr+de k n);have k119:bC pg 119=false:=h.bq (x:=BJ) rfl;have k68:bC pg 68=false:=h.bq (x:=YP) rfl;have n0:eU (List.map AV.p l[i].aw)=true:=by cases l[i];rfl
  have e0:bH 4 [l[i].aw]=true:=by simp[bH,Tm.aS]
  have e8:∀l:List (List PV),List.take i (List.take i l)=List.take i l:=λl=>by rw[eQ,Wa]
  have e10:List.take l.length (List.map (λt=>t.aw) l)=List.map (λt=>t.aw) l:=aF (by simp);have t68':=λG=>t68 (G:=G) h k n s (l.map Tm.aw);simp only[bP]at e1;rw[dA hb];unfold Cm at ih' ⊢;simp only[show i+1-1=i from by omega,e5,bB,da,ai,au,id]at ih';simp[WQ,aj,hlt,hx,Tm.aS,e1,Tm.pS,Tm.ku,t68',bP,Uu.Uv,mT,cX,e6,e7,e8,e9,e10,e0,th,k119,k68,n0,w1,w2,gc,exp,aQ,UG,ih']
theorem Mg (h:bY pg){body:aU}(hb:body=WQ){k n:Int}{s:List UInt8}{l:List Tm}(by' fr:Int)(hl:l.length<=60)(h1:1<=l.length)(hf:-2 ^ 60<=fr/\fr<=2 ^ 60)(hm:0<=de k n/\de k n<=8)
  (ih:∀t∈l,∀G:Heap,UM pg (E pg) 119 [.ag (bP t.aw),.p (.i .i64 by'),.p (.i .i64 (fr+de k n))] G=some (.ret t.nv,G)) :
  L pg 0 [1,2,3,6,7,8] body [(1,.p (.i .i64 by')),(2,.p (.i .i64 fr)),(3,.ptr 0 0),(6,.ptr 1 0),(7,.ptr 2 0),(8,.p (.i .i64 0))]
   [.box [.p (iv k),.p (iv n),.p (.s s),.p (.sl (l.map Tm.aw))],.box [.p (iv 0),.p (iv 0),.p (.s []),.aC],.box [.p (iv k),.p (iv n),.p (.s s),.aC]] =
   some (.exit 0,[(1,.p (.i .i64 by')),(2,.p (.i .i64 fr)),(3,.ptr 0 0),(6,.ptr 1 0),(7,.ptr 2 0),(8,.p (.i .i64 l.length)),(33,.p (.b false))],Cm k n s l id l.length):=by
 have hL:=Mf h hb (k:=k) (n:=n) (s:=s) by' fr hl hf hm ih (l.length-1) 1 (by omega) (by omega)
 have hpos:(0:Int)<(l.length:Int):=by omega
 have hpos':0<l.length:=by omega
 have hx:l[0]?=some l[0]:=gG hpos';have e1:=λG=>ih l[0] (aE hx) G;have e5:List.take 1 l=[l[0]]:=by rw[cG,gG (by omega)];rfl
 have e7:bZ 1 56=true:=by rfl
 have w1:=cR 1;have w2:=cR (fr+de k n);have k119:bC pg 119=false:=h.bq (x:=BJ) rfl;have k68:bC pg 68=false:=h.bq (x:=YP) rfl;have n0:eU (List.map AV.p l[0].aw)=true:=by cases l[0];rfl
 have e0:bH 4 [l[0].aw]=true:=by simp[bH,Tm.aS]
 have t68':=λG=>t68 (G:=G) h k n s (l.map Tm.aw);unfold Cm at hL ⊢;simp only[e5,ai,au,WW,fx,id]at hL;simp only[bP]at e1;rw[dA hb];simp[WQ,aj,hpos,hpos',hx,Tm.aS,e1,Tm.pS,Tm.ku,t68',bP,Uu.Uv,mT,cX,e7,e0,th,k119,k68,n0,w1,w2,gc,exp,aQ,UG,hL]
theorem Mh (h:bY pg){body:aU}(hb:body=WQ){k n:Int}{s:List UInt8}(by' fr:Int) :
  L pg 0 [1,2,3,6,7,8] body [(1,.p (.i .i64 by')),(2,.p (.i .i64 fr)),(3,.ptr 0 0),(6,.ptr 1 0),(7,.ptr 2 0),(8,.p (.i .i64 0))]
   [.box [.p (iv k),.p (iv n),.p (.s s),.p (.sl [])],.box [.p (iv 0),.p (iv 0),.p (.s []),.aC],.box [.p (iv k),.p (iv n),.p (.s s),.aC]] =
   some (.exit 0,[(1,.p (.i .i64 by')),(2,.p (.i .i64 fr)),(3,.ptr 0 0),(6,.ptr 1 0),(7,.ptr 2 0),(8,.p (.i .i64 0)),(33,.p (.b false))],[.box [.p (iv k),.p (iv n),.p (.s s),.p (.sl [])],.box [.p (iv 0),.p (iv 0),.p (.s []),.aC],.box [.p (iv k),.p (iv n),.p (.s s),.aC]]):=by
 rw[dA hb];simp[WQ,aj]
theorem t119 (h:bY pg)(by':Int):∀(t:Tm) (fr:Int),t.Ck fr->0<=fr->fr+8 * t.depth<=2 ^ 60->∀(G:Heap),UM pg (E pg) 119 [.ag (bP t.aw),.p (.i .i64 by'),.p (.i .i64 fr)] G=some (.ret t.nv,G):=by
 refine Tm.ind λk n s l ih fr hc h0 hf G=>?_;have hfl:(k=1->0<=n/\n<fr)/\(k=6->0<=n/\n<=8)/\l.length<=60/\∀t∈l,t.Ck (fr+de k n):=by cases hc with|mk a b c d=>exact⟨a,b,c,d⟩
 obtain⟨q1,q2,q3,q4⟩:=hfl;have hm:=wG q2;simp only[Tm.depth]at hf;have ih':∀t∈l,∀G:Heap,UM pg (E pg) 119 [.ag (bP t.aw),.p (.i .i64 by'),.p (.i .i64 (fr+de k n))] G=some (.ret t.nv,G):=λt ht G=>by
  have:=Tm.VE ht;exact ih t ht _ (q4 t ht) (by omega) (by omega) G
 refine Ut ?_ (by simp only[Tm.aw];rfl) ?_
 ·rw[h.run (x:=BJ)];by_cases c1:k=1
  ·have hn:¬ fr<=n:=by have:=q1 c1;omega
   simp[BJ,aj,Tm.aw,bP,Tm.ba,Tm.nv,c1,hn]
  by_cases c4:l=[]
  ·subst c4;have hL:=Mh h (body:=WQ) rfl (k:=k) (n:=n) (s:=s) by' fr
   simp[BJ,aj,Tm.aw,bP,Tm.df,Tm.ba,Tm.nv,c1,gc,exp,aQ,UG];rw[hL];simp[aj]
  ·have hL:=Mg h (body:=WQ) rfl (k:=k) (n:=n) (s:=s) by' fr q3 (by have:=eR.2 c4;omega) ⟨by omega,by omega⟩ hm ih'
   simp[BJ,aj,Tm.aw,bP,Tm.ba,Tm.nv,c1,c4,gc,exp,aQ,UG];rw[hL];have e10:List.take l.length (List.map (λt=>t.aw) l)=List.map (λt=>t.aw) l:=aF (by simp);simp[Cm,aj,e10]
 ·simp only[Out.bf,Tm.nv,bf];exact bE 0 (eZ _)
end
end Go.Proofs.Z
