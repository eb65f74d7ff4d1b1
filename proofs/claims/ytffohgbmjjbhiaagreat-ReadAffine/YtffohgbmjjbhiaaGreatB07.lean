/- A part of the proof. -/
import Derived.Test.YtffohgbmjjbhiaaGreatB06
set_option linter.all false
namespace Go.Proofs.Z
section
variable {pg:fX}{G:Heap}
def U_ (x:UK):Bool :=
 !decide (x.ao<0) && !decide (13<x.ao) && !decide (x.Us<0) && !decide (60<x.Us) && !(decide (x.ao<2) && decide (0<x.Us)) && ((!decide (x.name=[])) == (decide (x.ao=8) || decide (x.ao=11) || decide (x.ao=12))) &&
 (decide (x.n=0) || (decide (x.ao=10) || decide (x.ao=12))) && !(decide (x.ao=8) && (decide ((x.to.length:Int)<1) || decide (9<(x.to.length:Int)))) && !(decide (x.ao=9) && decide ((x.aY.length:Int)<1)) && (decide (x.ao=9) || !decide (0<x.aY.length)) && !decide (8<(x.aY.length:Int))
def qw {α:Type}(b:Bool)(x y:α):α:=bif b then x else y
attribute [local congr] ite_congr
set_option maxHeartbeats 0 in
theorem PU (h:bY pg)(k l n:Int)(name:List UInt8)(aY:List (List UInt8×Int))(to:List (Int×Int))(X:Rs)
  (hX:L pg 0 [1,3] qq [(1,.ptr 0 0),(3,.p (.i .i64 0))] [.box [.p (.i .i64 k),.p (.i .i64 l),.p (.i .i64 n),.p (.s name),.p (.sl (aY.map Ap)),.p (.sl (to.map Fw))]]=X) :
  E pg 28 [.ag [.p (.i .i64 k),.p (.i .i64 l),.p (.i .i64 n),.p (.s name),.p (.sl (aY.map Ap)),.p (.sl (to.map Fw))]] [] =
   qw (U_ ⟨k,l,n,name,aY,to⟩) (kF 0 [sH.t 2] false (kS pg (E pg) (L pg) 0 ((aU.ops [2] [{ d:=some 2,o:=qd.Vo (fe.k (AV.p (PV.b true))),g:=none }]).seq aU.ret) (kB 0 X))) (some (.ret (.p (.b false)),[])):=by
 rw[h.run (x:=EZ)];obtain⟨b,hb⟩:∃b,b=U_ ⟨k,l,n,name,aY,to⟩:=⟨_,rfl⟩
 rw[<- hb];have hX':∀(n':Int) (name':List UInt8),n'=n->name'=name->L pg 0 [1,3] qq [(1,.ptr 0 0),(3,.p (.i .i64 0))] [.box [.p (.i .i64 k),.p (.i .i64 l),.p (.i .i64 n'),.p (.s name'),.p (.sl (aY.map Ap)),.p (.sl (to.map Fw))]]=X:=by rintro _ _ rfl rfl;exact hX
 clear hX;by_cases k0:k<0
 ·simp[EZ,aj,gc,exp,aQ,UG,hb,qw,U_,Ur k0]
 by_cases k14:13<k
 ·simp[EZ,aj,gc,exp,aQ,UG,hb,qw,U_,az k0,Ur k14]
 generalize hm:aY.length=m at *;generalize hj:to.length=j at *;have hk:(k<2/\k≠8/\k≠9/\k≠10/\k≠11/\k≠12)\/k=8\/k=9\/k=10\/k=11\/k=12\/(¬ k<2/\k≠8/\k≠9/\k≠10/\k≠11/\k≠12):=by omega
 rcases hk with ⟨c1,c2,c3,c4,c5,c6⟩|rfl|rfl|rfl|rfl|rfl|⟨c1,c2,c3,c4,c5,c6⟩
 ·simp (config:={contextual:=true,maxSteps:=10000000}) [EZ,aj,Xp,W4,Xq,W5,Xr,Xs,om,Xt,Xu,W6,Xv,gc,exp,aQ,UG,hX',hm,hj,az k0,az k14,Ur c1,az c2,az c3,az c4,az c5,az c6];rw[hb];by_cases a0:l<0
  ·simp[qw,U_,hm,hj,a0,k0,k14,c1,c2,c3,c4,c5,c6]
  by_cases a1:60<l
  ·simp[qw,U_,hm,hj,a0,a1,k0,k14,c1,c2,c3,c4,c5,c6]
  by_cases a2:0<l
  ·simp[qw,U_,hm,hj,a0,a1,a2,k0,k14,c1,c2,c3,c4,c5,c6]
  by_cases a3:name=[]
  rotate_left
  ·simp[qw,U_,hm,hj,a0,a1,a2,a3,k0,k14,c1,c2,c3,c4,c5,c6]
  by_cases a4:n=0;rotate_left
  ·simp[qw,U_,hm,hj,a0,a1,a2,a3,a4,k0,k14,c1,c2,c3,c4,c5,c6]
  by_cases a5:0<m
  ·simp[qw,U_,hm,hj,a0,a1,a2,a3,a4,a5,k0,k14,c1,c2,c3,c4,c5,c6]
  by_cases a6:8<(m:Int)
  ·simp[qw,U_,hm,hj,a0,a1,a2,a3,a4,a5,a6,k0,k14,c1,c2,c3,c4,c5,c6]
  simp[qw,U_,hm,hj,a0,a1,a2,a3,a4,a5,a6,k0,k14,c1,c2,c3,c4,c5,c6]
 ·simp (config:={contextual:=true,maxSteps:=10000000}) [EZ,aj,Xp,W4,Xq,W5,Xr,Xs,om,Xt,Xu,W6,Xv,gc,exp,aQ,UG,hX',hm,hj];rw[hb];by_cases a0:l<0
  ·simp[qw,U_,hm,hj,a0]
  by_cases a1:60<l
  ·simp[qw,U_,hm,hj,a0,a1]
  by_cases a2:name=[]
  ·simp[qw,U_,hm,hj,a0,a1,a2]
  by_cases a3:n=0;rotate_left
  ·simp[qw,U_,hm,hj,a0,a1,a2,a3]
  by_cases a4:(j:Int)<1
  ·simp[qw,U_,hm,hj,a0,a1,a2,a3,a4]
  by_cases a5:9<(j:Int)
  ·simp[qw,U_,hm,hj,a0,a1,a2,a3,a4,a5]
  by_cases a6:0<m
  ·simp[qw,U_,hm,hj,a0,a1,a2,a3,a4,a5,a6]
  by_cases a7:8<(m:Int)
  ·simp[qw,U_,hm,hj,a0,a1,a2,a3,a4,a5,a6,a7]
  simp[qw,U_,hm,hj,a0,a1,a2,a3,a4,a5,a6,a7]
 ·simp (config:={contextual:=true,maxSteps:=10000000}) [EZ,aj,Xp,W4,Xq,W5,Xr,Xs,om,Xt,Xu,W6,Xv,gc,exp,aQ,UG,hX',hm,hj];rw[hb];by_cases a0:l<0
  ·simp[qw,U_,hm,hj,a0]
  by_cases a1:60<l
  ·simp[qw,U_,hm,hj,a0,a1]
  by_cases a2:name=[]
  rotate_left
  ·simp[qw,U_,hm,hj,a0,a1,a2]
  by_cases a3:n=0;rotate_left
  ·simp[qw,U_,hm,hj,a0,a1,a2,a3]
  by_cases a4:(m:Int)<1
  ·simp[qw,U_,hm,hj,a0,a1,a2,a3,a4]
  by_cases a5:8<(m:Int)
  ·simp[qw,U_,hm,hj,a0,a1,a2,a3,a4,a5]
  simp[qw,U_,hm,hj,a0,a1,a2,a3,a4,a5]
 ·simp (config:={contextual:=true,maxSteps:=10000000}) [EZ,aj,Xp,W4,Xq,W5,Xr,Xs,om,Xt,Xu,W6,Xv,gc,exp,aQ,UG,hX',hm,hj]
  all_goals repeat' split
  all_goals first|(rw[hb];simp[qw,U_,hm,hj, *];done)
 ·simp (config:={contextual:=true,maxSteps:=10000000}) [EZ,aj,Xp,W4,Xq,W5,Xr,Xs,om,Xt,Xu,W6,Xv,gc,exp,aQ,UG,hX',hm,hj]
  all_goals repeat' split
  all_goals first|(rw[hb];simp[qw,U_,hm,hj, *];done)
 ·simp (config:={contextual:=true,maxSteps:=10000000}) [EZ,aj,Xp,W4,Xq,W5,Xr,Xs,om,Xt,Xu,W6,Xv,gc,exp,aQ,UG,hX',hm,hj]
  all_goals repeat' split
  all_goals first|(rw[hb];simp[qw,U_,hm,hj, *];done)
 ·simp (config:={contextual:=true,maxSteps:=10000000}) [EZ,aj,Xp,W4,Xq,W5,Xr,Xs,om,Xt,Xu,W6,Xv,gc,exp,aQ,UG,hX',hm,hj,az k0,az k14,az c1,az c2,az c3,az c4,az c5,az c6]
  all_goals repeat' split
  all_goals first|(rw[hb];simp[qw,U_,hm,hj, *];done)
end
end Go.Proofs.Z
