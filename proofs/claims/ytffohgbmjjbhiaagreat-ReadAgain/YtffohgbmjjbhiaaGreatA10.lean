/- A part of the proof. -/
import Derived.Test.YtffohgbmjjbhiaaGreatA09
set_option linter.all false
section
namespace Go.Proofs.Z
open Go Go.Proofs
attribute [local simp] k_nil k_ops k_opsg kG_true kG_false kO_val kO_pan k_seq kS_n kS_r kS_e kS_p k_o kR_n kR_p kD2_n kD1_n k_d k_c kC_t kC_f k_b kB_n kB_r kB_p kB_e k_skip k_ret k_exit k_l kL_s kLp_n kLp_r kLp_e kLp_p k_f kF_n kF_r kF_p kV_f kV_t kN_s evOp evBin gOK opd opds lk put restr iEv evRes whole norm normL one Out.below below belowL bOb evStore evLoad evLen AV.cells AV.flat PV.flat splice fillAt pcs isStr rowsOf Res.of evCmp lvE leafEq asInt noIdAt noId noIdL tids chkOK
variable {pg:Prg}{G:Heap}
def rhead (x:RNode):Bool :=
 !decide (x.kind<0) && !decide (13<x.kind) && !decide (x.lev<0) && !decide (60<x.lev) && !(decide (x.kind<2) && decide (0<x.lev)) && ((!decide (x.name=[])) == (decide (x.kind=8) || decide (x.kind=11) || decide (x.kind=12))) &&
 (decide (x.n=0) || (decide (x.kind=10) || decide (x.kind=12))) && !(decide (x.kind=8) && (decide ((x.to.length:Int)<1) || decide (9<(x.to.length:Int)))) && !(decide (x.kind=9) && decide ((x.alts.length:Int)<1)) && (decide (x.kind=9) || !decide (0<x.alts.length)) && !decide (8<(x.alts.length:Int))
def sel {α:Type}(b:Bool)(x y:α):α:=bif b then x else y
attribute [local congr] ite_congr
set_option maxHeartbeats 0 in
theorem u28 (h:Std pg)(k l n:Int)(name:List UInt8)(alts:List (List UInt8×Int))(to:List (Int×Int))(X:Rs)
  (hX:L pg 0 [1,3] c28l1 [(1,.ptr 0 0),(3,.p (.i .i64 0))] [.box [.p (.i .i64 k),.p (.i .i64 l),.p (.i .i64 n),.p (.s name),.p (.sl (alts.map rAr)),.p (.sl (to.map rPt))]]=X) :
  E pg 28 [.ag [.p (.i .i64 k),.p (.i .i64 l),.p (.i .i64 n),.p (.s name),.p (.sl (alts.map rAr)),.p (.sl (to.map rPt))]] [] =
   sel (rhead ⟨k,l,n,name,alts,to⟩) (kF 0 [CRes.t 2] false (kS pg (E pg) (L pg) 0 ((CCode.ops [2] [{ d:=some 2,o:=COp.mov (Opd.k (AV.p (PV.b true))),g:=none }]).seq CCode.ret) (kB 0 X))) (some (.ret (.p (.b false)),[])):=by
 rw[h.run (x:=c28) rfl (by decide) (by decide) (by decide) (by decide)]
 obtain ⟨b,hb⟩:∃ b,b=rhead ⟨k,l,n,name,alts,to⟩:=⟨_,rfl⟩
 rw[← hb]
 have hX':∀ (n':Int) (name':List UInt8),n'=n→name'=name→L pg 0 [1,3] c28l1 [(1,.ptr 0 0),(3,.p (.i .i64 0))] [.box [.p (.i .i64 k),.p (.i .i64 l),.p (.i .i64 n'),.p (.s name'),.p (.sl (alts.map rAr)),.p (.sl (to.map rPt))]]=X:=by rintro _ _ rfl rfl;exact hX
 clear hX
 by_cases k0:k<0
 ·simp[c28,leave,gc,gcEnv,exp,expL,eOs,Exp.id,idxOf,List.range,List.range.loop,hb,sel,rhead,eq_true k0]
 by_cases k14:13<k
 ·simp[c28,leave,gc,gcEnv,exp,expL,eOs,Exp.id,idxOf,List.range,List.range.loop,hb,sel,rhead,eq_false k0,eq_true k14]
 generalize hm:alts.length=m at *
 generalize hj:to.length=j at *
 have hk:(k<2∧k≠8∧k≠9∧k≠10∧k≠11∧k≠12)∨k=8∨k=9∨k=10∨k=11∨k=12∨(¬ k<2∧k≠8∧k≠9∧k≠10∧k≠11∧k≠12):=by omega
 rcases hk with ⟨c1,c2,c3,c4,c5,c6⟩|rfl|rfl|rfl|rfl|rfl|⟨c1,c2,c3,c4,c5,c6⟩
 ·simp (config:={contextual:=true,maxSteps:=10000000}) [c28,leave,kG_dec,kG_ndec,kC_dec,kC_ndec,kS_ite,kR_ite,kD2_ite,kB_ite,kF_ite,kLp_ite,kO_ite,gc,gcEnv,exp,expL,eOs,Exp.id,idxOf,List.range,List.range.loop,hX',hm,hj,eq_false k0,eq_false k14,eq_true c1,eq_false c2,eq_false c3,eq_false c4,eq_false c5,eq_false c6]
  rw[hb]
  by_cases a0:l<0
  ·simp[sel,rhead,hm,hj,a0,k0,k14,c1,c2,c3,c4,c5,c6]
  by_cases a1:60<l
  ·simp[sel,rhead,hm,hj,a0,a1,k0,k14,c1,c2,c3,c4,c5,c6]
  by_cases a2:0<l
  ·simp[sel,rhead,hm,hj,a0,a1,a2,k0,k14,c1,c2,c3,c4,c5,c6]
  by_cases a3:name=[]
  rotate_left
  ·simp[sel,rhead,hm,hj,a0,a1,a2,a3,k0,k14,c1,c2,c3,c4,c5,c6]
  by_cases a4:n=0
  rotate_left
  ·simp[sel,rhead,hm,hj,a0,a1,a2,a3,a4,k0,k14,c1,c2,c3,c4,c5,c6]
  by_cases a5:0<m
  ·simp[sel,rhead,hm,hj,a0,a1,a2,a3,a4,a5,k0,k14,c1,c2,c3,c4,c5,c6]
  by_cases a6:8<(m:Int)
  ·simp[sel,rhead,hm,hj,a0,a1,a2,a3,a4,a5,a6,k0,k14,c1,c2,c3,c4,c5,c6]
  simp[sel,rhead,hm,hj,a0,a1,a2,a3,a4,a5,a6,k0,k14,c1,c2,c3,c4,c5,c6]
 ·simp (config:={contextual:=true,maxSteps:=10000000}) [c28,leave,kG_dec,kG_ndec,kC_dec,kC_ndec,kS_ite,kR_ite,kD2_ite,kB_ite,kF_ite,kLp_ite,kO_ite,gc,gcEnv,exp,expL,eOs,Exp.id,idxOf,List.range,List.range.loop,hX',hm,hj]
  rw[hb]
  by_cases a0:l<0
  ·simp[sel,rhead,hm,hj,a0]
  by_cases a1:60<l
  ·simp[sel,rhead,hm,hj,a0,a1]
  by_cases a2:name=[]
  ·simp[sel,rhead,hm,hj,a0,a1,a2]
  by_cases a3:n=0
  rotate_left
  ·simp[sel,rhead,hm,hj,a0,a1,a2,a3]
  by_cases a4:(j:Int)<1
  ·simp[sel,rhead,hm,hj,a0,a1,a2,a3,a4]
  by_cases a5:9<(j:Int)
  ·simp[sel,rhead,hm,hj,a0,a1,a2,a3,a4,a5]
  by_cases a6:0<m
  ·simp[sel,rhead,hm,hj,a0,a1,a2,a3,a4,a5,a6]
  by_cases a7:8<(m:Int)
  ·simp[sel,rhead,hm,hj,a0,a1,a2,a3,a4,a5,a6,a7]
  simp[sel,rhead,hm,hj,a0,a1,a2,a3,a4,a5,a6,a7]
 ·simp (config:={contextual:=true,maxSteps:=10000000}) [c28,leave,kG_dec,kG_ndec,kC_dec,kC_ndec,kS_ite,kR_ite,kD2_ite,kB_ite,kF_ite,kLp_ite,kO_ite,gc,gcEnv,exp,expL,eOs,Exp.id,idxOf,List.range,List.range.loop,hX',hm,hj]
  rw[hb]
  by_cases a0:l<0
  ·simp[sel,rhead,hm,hj,a0]
  by_cases a1:60<l
  ·simp[sel,rhead,hm,hj,a0,a1]
  by_cases a2:name=[]
  rotate_left
  ·simp[sel,rhead,hm,hj,a0,a1,a2]
  by_cases a3:n=0
  rotate_left
  ·simp[sel,rhead,hm,hj,a0,a1,a2,a3]
  by_cases a4:(m:Int)<1
  ·simp[sel,rhead,hm,hj,a0,a1,a2,a3,a4]
  by_cases a5:8<(m:Int)
  ·simp[sel,rhead,hm,hj,a0,a1,a2,a3,a4,a5]
  simp[sel,rhead,hm,hj,a0,a1,a2,a3,a4,a5]
 ·simp (config:={contextual:=true,maxSteps:=10000000}) [c28,leave,kG_dec,kG_ndec,kC_dec,kC_ndec,kS_ite,kR_ite,kD2_ite,kB_ite,kF_ite,kLp_ite,kO_ite,gc,gcEnv,exp,expL,eOs,Exp.id,idxOf,List.range,List.range.loop,hX',hm,hj]
  all_goals repeat' split
  all_goals first|(rw[hb];simp[sel,rhead,hm,hj, *];done)
 ·simp (config:={contextual:=true,maxSteps:=10000000}) [c28,leave,kG_dec,kG_ndec,kC_dec,kC_ndec,kS_ite,kR_ite,kD2_ite,kB_ite,kF_ite,kLp_ite,kO_ite,gc,gcEnv,exp,expL,eOs,Exp.id,idxOf,List.range,List.range.loop,hX',hm,hj]
  all_goals repeat' split
  all_goals first|(rw[hb];simp[sel,rhead,hm,hj, *];done)
 ·simp (config:={contextual:=true,maxSteps:=10000000}) [c28,leave,kG_dec,kG_ndec,kC_dec,kC_ndec,kS_ite,kR_ite,kD2_ite,kB_ite,kF_ite,kLp_ite,kO_ite,gc,gcEnv,exp,expL,eOs,Exp.id,idxOf,List.range,List.range.loop,hX',hm,hj]
  all_goals repeat' split
  all_goals first|(rw[hb];simp[sel,rhead,hm,hj, *];done)
 ·simp (config:={contextual:=true,maxSteps:=10000000}) [c28,leave,kG_dec,kG_ndec,kC_dec,kC_ndec,kS_ite,kR_ite,kD2_ite,kB_ite,kF_ite,kLp_ite,kO_ite,gc,gcEnv,exp,expL,eOs,Exp.id,idxOf,List.range,List.range.loop,hX',hm,hj,eq_false k0,eq_false k14,eq_false c1,eq_false c2,eq_false c3,eq_false c4,eq_false c5,eq_false c6]
  all_goals repeat' split
  all_goals first|(rw[hb];simp[sel,rhead,hm,hj, *];done)
end Go.Proofs.Z
end
