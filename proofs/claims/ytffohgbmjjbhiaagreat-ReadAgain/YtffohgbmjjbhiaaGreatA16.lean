/- A part of the proof. -/
import Derived.Test.YtffohgbmjjbhiaaGreatA15
import Derived.Test.YtffohgbmjjbhiaaGreatA11
set_option linter.all false
section
namespace Go.Proofs.Z
open Go Go.Proofs
attribute [local simp] k_nil k_ops k_opsg kG_true kG_false kO_val kO_pan k_seq kS_n kS_r kS_e kS_p k_o kR_n kR_p kD2_n kD1_n k_d k_c kC_t kC_f k_b kB_n kB_r kB_p kB_e k_skip k_ret k_exit k_l kL_s kLp_n kLp_r kLp_e kLp_p k_f kF_n kF_r kF_p kV_f kV_t kN_s evOp evBin gOK opd opds lk put restr iEv evRes whole norm normL one Out.below below belowL bOb evStore evLoad evLen AV.cells AV.flat PV.flat splice fillAt pcs isStr rowsOf Res.of evCmp lvE leafEq asInt noIdAt noId noIdL tids chkOK
variable {pg:Prg}{G:Heap}
theorem l46 (h:Std pg){body:CCode}(hb:body=c46l0){a0 a1 a2 a3 a4 a5 a6 a7 a8 k0 k1 k2 k3 k4 k5 k6 k7 k8 d:Int}{N C X Y U V:AV}(hN:flatA N=true)(hC:flatA C=true)(hX:flatA X=true)(hY:flatA Y=true)(hU:flatA U=true)(hV:flatA V=true)(hb0:0≤a0∧a0<2 ^ 50∧0≤k0∧k0<2 ^ 50)(hb1:0≤a1∧a1<2 ^ 50∧0≤k1∧k1<2 ^ 50)(hb2:0≤a2∧a2<2 ^ 50∧0≤k2∧k2<2 ^ 50)(hb3:0≤a3∧a3<2 ^ 50∧0≤k3∧k3<2 ^ 50)(hb4:0≤a4∧a4<2 ^ 50∧0≤k4∧k4<2 ^ 50)(hb5:0≤a5∧a5<2 ^ 50∧0≤k5∧k5<2 ^ 50)(hb6:0≤a6∧a6<2 ^ 50∧0≤k6∧k6<2 ^ 50)(hb7:0≤a7∧a7<2 ^ 50∧0≤k7∧k7<2 ^ 50)(hb8:0≤a8∧a8<2 ^ 50∧0≤k8∧k8<2 ^ 50)(hd:0≤d∧d<2 ^ 50) :
  L pg 1 [0,6,8,35,36] body [(0,.ptr 0 0),(6,U),(8,V),(35,.ag [.p (.i .i64 k0),.p (.i .i64 k1),.p (.i .i64 k2),.p (.i .i64 k3),.p (.i .i64 k4),.p (.i .i64 k5),.p (.i .i64 k6),.p (.i .i64 k7),.p (.i .i64 k8)]),(36,.p (.i .i64 0))] [.box [N,C,.p (.i .i64 (a0)),.p (.i .i64 (a1)),.p (.i .i64 (a2)),.p (.i .i64 (a3)),.p (.i .i64 (a4)),.p (.i .i64 (a5)),.p (.i .i64 (a6)),.p (.i .i64 (a7)),.p (.i .i64 (a8)),.p (.i .i64 (d)),X,Y]]=some (.exit 0,[(0,.ptr 0 0),(6,U),(8,V),(35,.ag [.p (.i .i64 k0),.p (.i .i64 k1),.p (.i .i64 k2),.p (.i .i64 k3),.p (.i .i64 k4),.p (.i .i64 k5),.p (.i .i64 k6),.p (.i .i64 k7),.p (.i .i64 k8)]),(36,.p (.i .i64 9)),(37,.p (.b false))],[.box [N,C,.p (.i .i64 (a0+k0)),.p (.i .i64 (a1+k1)),.p (.i .i64 (a2+k2)),.p (.i .i64 (a3+k3)),.p (.i .i64 (a4+k4)),.p (.i .i64 (a5+k5)),.p (.i .i64 (a6+k6)),.p (.i .i64 (a7+k7)),.p (.i .i64 (a8+k8)),.p (.i .i64 (d+k0+k1+k2+k3+k4+k5+k6+k7+k8)),X,Y]]):=by
 have heN:∀ e,exp true e N=some (N,e):=fun e=>flatA_exp true e hN
 have heC:∀ e,exp true e C=some (C,e):=fun e=>flatA_exp true e hC
 have heX:∀ e,exp true e X=some (X,e):=fun e=>flatA_exp true e hX
 have heY:∀ e,exp true e Y=some (Y,e):=fun e=>flatA_exp true e hY
 have heU:∀ e,exp true e U=some (U,e):=fun e=>flatA_exp true e hU
 have heV:∀ e,exp true e V=some (V,e):=fun e=>flatA_exp true e hV
 have t9:L pg 1 [0,6,8,35,36] body [(0,.ptr 0 0),(6,U),(8,V),(35,.ag [.p (.i .i64 k0),.p (.i .i64 k1),.p (.i .i64 k2),.p (.i .i64 k3),.p (.i .i64 k4),.p (.i .i64 k5),.p (.i .i64 k6),.p (.i .i64 k7),.p (.i .i64 k8)]),(36,.p (.i .i64 9))] [.box [N,C,.p (.i .i64 (a0+k0)),.p (.i .i64 (a1+k1)),.p (.i .i64 (a2+k2)),.p (.i .i64 (a3+k3)),.p (.i .i64 (a4+k4)),.p (.i .i64 (a5+k5)),.p (.i .i64 (a6+k6)),.p (.i .i64 (a7+k7)),.p (.i .i64 (a8+k8)),.p (.i .i64 (d+k0+k1+k2+k3+k4+k5+k6+k7+k8)),X,Y]]=some (.exit 0,[(0,.ptr 0 0),(6,U),(8,V),(35,.ag [.p (.i .i64 k0),.p (.i .i64 k1),.p (.i .i64 k2),.p (.i .i64 k3),.p (.i .i64 k4),.p (.i .i64 k5),.p (.i .i64 k6),.p (.i .i64 k7),.p (.i .i64 k8)]),(36,.p (.i .i64 9)),(37,.p (.b false))],[.box [N,C,.p (.i .i64 (a0+k0)),.p (.i .i64 (a1+k1)),.p (.i .i64 (a2+k2)),.p (.i .i64 (a3+k3)),.p (.i .i64 (a4+k4)),.p (.i .i64 (a5+k5)),.p (.i .i64 (a6+k6)),.p (.i .i64 (a7+k7)),.p (.i .i64 (a8+k8)),.p (.i .i64 (d+k0+k1+k2+k3+k4+k5+k6+k7+k8)),X,Y]]):=by
  rw[k_L hb]
  simp[c46l0,leave]
 have t8:L pg 1 [0,6,8,35,36] body [(0,.ptr 0 0),(6,U),(8,V),(35,.ag [.p (.i .i64 k0),.p (.i .i64 k1),.p (.i .i64 k2),.p (.i .i64 k3),.p (.i .i64 k4),.p (.i .i64 k5),.p (.i .i64 k6),.p (.i .i64 k7),.p (.i .i64 k8)]),(36,.p (.i .i64 8))] [.box [N,C,.p (.i .i64 (a0+k0)),.p (.i .i64 (a1+k1)),.p (.i .i64 (a2+k2)),.p (.i .i64 (a3+k3)),.p (.i .i64 (a4+k4)),.p (.i .i64 (a5+k5)),.p (.i .i64 (a6+k6)),.p (.i .i64 (a7+k7)),.p (.i .i64 (a8)),.p (.i .i64 (d+k0+k1+k2+k3+k4+k5+k6+k7)),X,Y]]=some (.exit 0,[(0,.ptr 0 0),(6,U),(8,V),(35,.ag [.p (.i .i64 k0),.p (.i .i64 k1),.p (.i .i64 k2),.p (.i .i64 k3),.p (.i .i64 k4),.p (.i .i64 k5),.p (.i .i64 k6),.p (.i .i64 k7),.p (.i .i64 k8)]),(36,.p (.i .i64 9)),(37,.p (.b false))],[.box [N,C,.p (.i .i64 (a0+k0)),.p (.i .i64 (a1+k1)),.p (.i .i64 (a2+k2)),.p (.i .i64 (a3+k3)),.p (.i .i64 (a4+k4)),.p (.i .i64 (a5+k5)),.p (.i .i64 (a6+k6)),.p (.i .i64 (a7+k7)),.p (.i .i64 (a8+k8)),.p (.i .i64 (d+k0+k1+k2+k3+k4+k5+k6+k7+k8)),X,Y]]):=by
  rw[k_L hb]
  simp[c46l0,leave,w64 (a8+k8) (by omega) (by omega),w64 (d+k0+k1+k2+k3+k4+k5+k6+k7+k8) (by omega) (by omega),w64 9 (by omega) (by omega),gc,gcEnv,exp,expL,eOs,Exp.id,idxOf,List.range,List.range.loop,heN,heC,heX,heY,heU,heV,t9]
 have t7:L pg 1 [0,6,8,35,36] body [(0,.ptr 0 0),(6,U),(8,V),(35,.ag [.p (.i .i64 k0),.p (.i .i64 k1),.p (.i .i64 k2),.p (.i .i64 k3),.p (.i .i64 k4),.p (.i .i64 k5),.p (.i .i64 k6),.p (.i .i64 k7),.p (.i .i64 k8)]),(36,.p (.i .i64 7))] [.box [N,C,.p (.i .i64 (a0+k0)),.p (.i .i64 (a1+k1)),.p (.i .i64 (a2+k2)),.p (.i .i64 (a3+k3)),.p (.i .i64 (a4+k4)),.p (.i .i64 (a5+k5)),.p (.i .i64 (a6+k6)),.p (.i .i64 (a7)),.p (.i .i64 (a8)),.p (.i .i64 (d+k0+k1+k2+k3+k4+k5+k6)),X,Y]]=some (.exit 0,[(0,.ptr 0 0),(6,U),(8,V),(35,.ag [.p (.i .i64 k0),.p (.i .i64 k1),.p (.i .i64 k2),.p (.i .i64 k3),.p (.i .i64 k4),.p (.i .i64 k5),.p (.i .i64 k6),.p (.i .i64 k7),.p (.i .i64 k8)]),(36,.p (.i .i64 9)),(37,.p (.b false))],[.box [N,C,.p (.i .i64 (a0+k0)),.p (.i .i64 (a1+k1)),.p (.i .i64 (a2+k2)),.p (.i .i64 (a3+k3)),.p (.i .i64 (a4+k4)),.p (.i .i64 (a5+k5)),.p (.i .i64 (a6+k6)),.p (.i .i64 (a7+k7)),.p (.i .i64 (a8+k8)),.p (.i .i64 (d+k0+k1+k2+k3+k4+k5+k6+k7+k8)),X,Y]]):=by
  rw[k_L hb]
  simp[c46l0,leave,w64 (a7+k7) (by omega) (by omega),w64 (d+k0+k1+k2+k3+k4+k5+k6+k7) (by omega) (by omega),w64 8 (by omega) (by omega),gc,gcEnv,exp,expL,eOs,Exp.id,idxOf,List.range,List.range.loop,heN,heC,heX,heY,heU,heV,t8]
 have t6:L pg 1 [0,6,8,35,36] body [(0,.ptr 0 0),(6,U),(8,V),(35,.ag [.p (.i .i64 k0),.p (.i .i64 k1),.p (.i .i64 k2),.p (.i .i64 k3),.p (.i .i64 k4),.p (.i .i64 k5),.p (.i .i64 k6),.p (.i .i64 k7),.p (.i .i64 k8)]),(36,.p (.i .i64 6))] [.box [N,C,.p (.i .i64 (a0+k0)),.p (.i .i64 (a1+k1)),.p (.i .i64 (a2+k2)),.p (.i .i64 (a3+k3)),.p (.i .i64 (a4+k4)),.p (.i .i64 (a5+k5)),.p (.i .i64 (a6)),.p (.i .i64 (a7)),.p (.i .i64 (a8)),.p (.i .i64 (d+k0+k1+k2+k3+k4+k5)),X,Y]]=some (.exit 0,[(0,.ptr 0 0),(6,U),(8,V),(35,.ag [.p (.i .i64 k0),.p (.i .i64 k1),.p (.i .i64 k2),.p (.i .i64 k3),.p (.i .i64 k4),.p (.i .i64 k5),.p (.i .i64 k6),.p (.i .i64 k7),.p (.i .i64 k8)]),(36,.p (.i .i64 9)),(37,.p (.b false))],[.box [N,C,.p (.i .i64 (a0+k0)),.p (.i .i64 (a1+k1)),.p (.i .i64 (a2+k2)),.p (.i .i64 (a3+k3)),.p (.i .i64 (a4+k4)),.p (.i .i64 (a5+k5)),.p (.i .i64 (a6+k6)),.p (.i .i64 (a7+k7)),.p (.i .i64 (a8+k8)),.p (.i .i64 (d+k0+k1+k2+k3+k4+k5+k6+k7+k8)),X,Y]]):=by
  rw[k_L hb]
  simp[c46l0,leave,w64 (a6+k6) (by omega) (by omega),w64 (d+k0+k1+k2+k3+k4+k5+k6) (by omega) (by omega),w64 7 (by omega) (by omega),gc,gcEnv,exp,expL,eOs,Exp.id,idxOf,List.range,List.range.loop,heN,heC,heX,heY,heU,heV,t7]
 have t5:L pg 1 [0,6,8,35,36] body [(0,.ptr 0 0),(6,U),(8,V),(35,.ag [.p (.i .i64 k0),.p (.i .i64 k1),.p (.i .i64 k2),.p (.i .i64 k3),.p (.i .i64 k4),.p (.i .i64 k5),.p (.i .i64 k6),.p (.i .i64 k7),.p (.i .i64 k8)]),(36,.p (.i .i64 5))] [.box [N,C,.p (.i .i64 (a0+k0)),.p (.i .i64 (a1+k1)),.p (.i .i64 (a2+k2)),.p (.i .i64 (a3+k3)),.p (.i .i64 (a4+k4)),.p (.i .i64 (a5)),.p (.i .i64 (a6)),.p (.i .i64 (a7)),.p (.i .i64 (a8)),.p (.i .i64 (d+k0+k1+k2+k3+k4)),X,Y]]=some (.exit 0,[(0,.ptr 0 0),(6,U),(8,V),(35,.ag [.p (.i .i64 k0),.p (.i .i64 k1),.p (.i .i64 k2),.p (.i .i64 k3),.p (.i .i64 k4),.p (.i .i64 k5),.p (.i .i64 k6),.p (.i .i64 k7),.p (.i .i64 k8)]),(36,.p (.i .i64 9)),(37,.p (.b false))],[.box [N,C,.p (.i .i64 (a0+k0)),.p (.i .i64 (a1+k1)),.p (.i .i64 (a2+k2)),.p (.i .i64 (a3+k3)),.p (.i .i64 (a4+k4)),.p (.i .i64 (a5+k5)),.p (.i .i64 (a6+k6)),.p (.i .i64 (a7+k7)),.p (.i .i64 (a8+k8)),.p (.i .i64 (d+k0+k1+k2+k3+k4+k5+k6+k7+k8)),X,Y]]):=by
  rw[k_L hb]
  simp[c46l0,leave,w64 (a5+k5) (by omega) (by omega),w64 (d+k0+k1+k2+k3+k4+k5) (by omega) (by omega),w64 6 (by omega) (by omega),gc,gcEnv,exp,expL,eOs,Exp.id,idxOf,List.range,List.range.loop,heN,heC,heX,heY,heU,heV,t6]
 have t4:L pg 1 [0,6,8,35,36] body [(0,.ptr 0 0),(6,U),(8,V),(35,.ag [.p (.i .i64 k0),.p (.i .i64 k1),.p (.i .i64 k2),.p (.i .i64 k3),.p (.i .i64 k4),.p (.i .i64 k5),.p (.i .i64 k6),.p (.i .i64 k7),.p (.i .i64 k8)]),(36,.p (.i .i64 4))] [.box [N,C,.p (.i .i64 (a0+k0)),.p (.i .i64 (a1+k1)),.p (.i .i64 (a2+k2)),.p (.i .i64 (a3+k3)),.p (.i .i64 (a4)),.p (.i .i64 (a5)),.p (.i .i64 (a6)),.p (.i .i64 (a7)),.p (.i .i64 (a8)),.p (.i .i64 (d+k0+k1+k2+k3)),X,Y]]=some (.exit 0,[(0,.ptr 0 0),(6,U),(8,V),(35,.ag [.p (.i .i64 k0),.p (.i .i64 k1),.p (.i .i64 k2),.p (.i .i64 k3),.p (.i .i64 k4),.p (.i .i64 k5),.p (.i .i64 k6),.p (.i .i64 k7),.p (.i .i64 k8)]),(36,.p (.i .i64 9)),(37,.p (.b false))],[.box [N,C,.p (.i .i64 (a0+k0)),.p (.i .i64 (a1+k1)),.p (.i .i64 (a2+k2)),.p (.i .i64 (a3+k3)),.p (.i .i64 (a4+k4)),.p (.i .i64 (a5+k5)),.p (.i .i64 (a6+k6)),.p (.i .i64 (a7+k7)),.p (.i .i64 (a8+k8)),.p (.i .i64 (d+k0+k1+k2+k3+k4+k5+k6+k7+k8)),X,Y]]):=by
  rw[k_L hb]
  simp[c46l0,leave,w64 (a4+k4) (by omega) (by omega),w64 (d+k0+k1+k2+k3+k4) (by omega) (by omega),w64 5 (by omega) (by omega),gc,gcEnv,exp,expL,eOs,Exp.id,idxOf,List.range,List.range.loop,heN,heC,heX,heY,heU,heV,t5]
 have t3:L pg 1 [0,6,8,35,36] body [(0,.ptr 0 0),(6,U),(8,V),(35,.ag [.p (.i .i64 k0),.p (.i .i64 k1),.p (.i .i64 k2),.p (.i .i64 k3),.p (.i .i64 k4),.p (.i .i64 k5),.p (.i .i64 k6),.p (.i .i64 k7),.p (.i .i64 k8)]),(36,.p (.i .i64 3))] [.box [N,C,.p (.i .i64 (a0+k0)),.p (.i .i64 (a1+k1)),.p (.i .i64 (a2+k2)),.p (.i .i64 (a3)),.p (.i .i64 (a4)),.p (.i .i64 (a5)),.p (.i .i64 (a6)),.p (.i .i64 (a7)),.p (.i .i64 (a8)),.p (.i .i64 (d+k0+k1+k2)),X,Y]]=some (.exit 0,[(0,.ptr 0 0),(6,U),(8,V),(35,.ag [.p (.i .i64 k0),.p (.i .i64 k1),.p (.i .i64 k2),.p (.i .i64 k3),.p (.i .i64 k4),.p (.i .i64 k5),.p (.i .i64 k6),.p (.i .i64 k7),.p (.i .i64 k8)]),(36,.p (.i .i64 9)),(37,.p (.b false))],[.box [N,C,.p (.i .i64 (a0+k0)),.p (.i .i64 (a1+k1)),.p (.i .i64 (a2+k2)),.p (.i .i64 (a3+k3)),.p (.i .i64 (a4+k4)),.p (.i .i64 (a5+k5)),.p (.i .i64 (a6+k6)),.p (.i .i64 (a7+k7)),.p (.i .i64 (a8+k8)),.p (.i .i64 (d+k0+k1+k2+k3+k4+k5+k6+k7+k8)),X,Y]]):=by
  rw[k_L hb]
  simp[c46l0,leave,w64 (a3+k3) (by omega) (by omega),w64 (d+k0+k1+k2+k3) (by omega) (by omega),w64 4 (by omega) (by omega),gc,gcEnv,exp,expL,eOs,Exp.id,idxOf,List.range,List.range.loop,heN,heC,heX,heY,heU,heV,t4]
 have t2:L pg 1 [0,6,8,35,36] body [(0,.ptr 0 0),(6,U),(8,V),(35,.ag [.p (.i .i64 k0),.p (.i .i64 k1),.p (.i .i64 k2),.p (.i .i64 k3),.p (.i .i64 k4),.p (.i .i64 k5),.p (.i .i64 k6),.p (.i .i64 k7),.p (.i .i64 k8)]),(36,.p (.i .i64 2))] [.box [N,C,.p (.i .i64 (a0+k0)),.p (.i .i64 (a1+k1)),.p (.i .i64 (a2)),.p (.i .i64 (a3)),.p (.i .i64 (a4)),.p (.i .i64 (a5)),.p (.i .i64 (a6)),.p (.i .i64 (a7)),.p (.i .i64 (a8)),.p (.i .i64 (d+k0+k1)),X,Y]]=some (.exit 0,[(0,.ptr 0 0),(6,U),(8,V),(35,.ag [.p (.i .i64 k0),.p (.i .i64 k1),.p (.i .i64 k2),.p (.i .i64 k3),.p (.i .i64 k4),.p (.i .i64 k5),.p (.i .i64 k6),.p (.i .i64 k7),.p (.i .i64 k8)]),(36,.p (.i .i64 9)),(37,.p (.b false))],[.box [N,C,.p (.i .i64 (a0+k0)),.p (.i .i64 (a1+k1)),.p (.i .i64 (a2+k2)),.p (.i .i64 (a3+k3)),.p (.i .i64 (a4+k4)),.p (.i .i64 (a5+k5)),.p (.i .i64 (a6+k6)),.p (.i .i64 (a7+k7)),.p (.i .i64 (a8+k8)),.p (.i .i64 (d+k0+k1+k2+k3+k4+k5+k6+k7+k8)),X,Y]]):=by
  rw[k_L hb]
  simp[c46l0,leave,w64 (a2+k2) (by omega) (by omega),w64 (d+k0+k1+k2) (by omega) (by omega),w64 3 (by omega) (by omega),gc,gcEnv,exp,expL,eOs,Exp.id,idxOf,List.range,List.range.loop,heN,heC,heX,heY,heU,heV,t3]
 have t1:L pg 1 [0,6,8,35,36] body [(0,.ptr 0 0),(6,U),(8,V),(35,.ag [.p (.i .i64 k0),.p (.i .i64 k1),.p (.i .i64 k2),.p (.i .i64 k3),.p (.i .i64 k4),.p (.i .i64 k5),.p (.i .i64 k6),.p (.i .i64 k7),.p (.i .i64 k8)]),(36,.p (.i .i64 1))] [.box [N,C,.p (.i .i64 (a0+k0)),.p (.i .i64 (a1)),.p (.i .i64 (a2)),.p (.i .i64 (a3)),.p (.i .i64 (a4)),.p (.i .i64 (a5)),.p (.i .i64 (a6)),.p (.i .i64 (a7)),.p (.i .i64 (a8)),.p (.i .i64 (d+k0)),X,Y]]=some (.exit 0,[(0,.ptr 0 0),(6,U),(8,V),(35,.ag [.p (.i .i64 k0),.p (.i .i64 k1),.p (.i .i64 k2),.p (.i .i64 k3),.p (.i .i64 k4),.p (.i .i64 k5),.p (.i .i64 k6),.p (.i .i64 k7),.p (.i .i64 k8)]),(36,.p (.i .i64 9)),(37,.p (.b false))],[.box [N,C,.p (.i .i64 (a0+k0)),.p (.i .i64 (a1+k1)),.p (.i .i64 (a2+k2)),.p (.i .i64 (a3+k3)),.p (.i .i64 (a4+k4)),.p (.i .i64 (a5+k5)),.p (.i .i64 (a6+k6)),.p (.i .i64 (a7+k7)),.p (.i .i64 (a8+k8)),.p (.i .i64 (d+k0+k1+k2+k3+k4+k5+k6+k7+k8)),X,Y]]):=by
  rw[k_L hb]
  simp[c46l0,leave,w64 (a1+k1) (by omega) (by omega),w64 (d+k0+k1) (by omega) (by omega),w64 2 (by omega) (by omega),gc,gcEnv,exp,expL,eOs,Exp.id,idxOf,List.range,List.range.loop,heN,heC,heX,heY,heU,heV,t2]
 have t0:L pg 1 [0,6,8,35,36] body [(0,.ptr 0 0),(6,U),(8,V),(35,.ag [.p (.i .i64 k0),.p (.i .i64 k1),.p (.i .i64 k2),.p (.i .i64 k3),.p (.i .i64 k4),.p (.i .i64 k5),.p (.i .i64 k6),.p (.i .i64 k7),.p (.i .i64 k8)]),(36,.p (.i .i64 0))] [.box [N,C,.p (.i .i64 (a0)),.p (.i .i64 (a1)),.p (.i .i64 (a2)),.p (.i .i64 (a3)),.p (.i .i64 (a4)),.p (.i .i64 (a5)),.p (.i .i64 (a6)),.p (.i .i64 (a7)),.p (.i .i64 (a8)),.p (.i .i64 (d)),X,Y]]=some (.exit 0,[(0,.ptr 0 0),(6,U),(8,V),(35,.ag [.p (.i .i64 k0),.p (.i .i64 k1),.p (.i .i64 k2),.p (.i .i64 k3),.p (.i .i64 k4),.p (.i .i64 k5),.p (.i .i64 k6),.p (.i .i64 k7),.p (.i .i64 k8)]),(36,.p (.i .i64 9)),(37,.p (.b false))],[.box [N,C,.p (.i .i64 (a0+k0)),.p (.i .i64 (a1+k1)),.p (.i .i64 (a2+k2)),.p (.i .i64 (a3+k3)),.p (.i .i64 (a4+k4)),.p (.i .i64 (a5+k5)),.p (.i .i64 (a6+k6)),.p (.i .i64 (a7+k7)),.p (.i .i64 (a8+k8)),.p (.i .i64 (d+k0+k1+k2+k3+k4+k5+k6+k7+k8)),X,Y]]):=by
  rw[k_L hb]
  simp[c46l0,leave,w64 (a0+k0) (by omega) (by omega),w64 (d+k0) (by omega) (by omega),w64 1 (by omega) (by omega),gc,gcEnv,exp,expL,eOs,Exp.id,idxOf,List.range,List.range.loop,heN,heC,heX,heY,heU,heV,t1]
 exact t0
def rdr (n:Net)(T:List Nat)(d F:Nat)(D:Bool):List AV:=.p (.sl (n.nodes.map Node.enc))::.p (.i .i64 n.cap)::(tallyAV T++[.p (.i .i64 d),.p (.i .i64 F),.p (.b D)])
theorem rdr_flat (n:Net)(T:List Nat)(d F:Nat)(D:Bool):flatAL (rdr n T d F D)=true:=by
 simp[rdr,flatAL,flatA,flatAL_app,tally_flat]
def addT (T K:List Nat):List Nat:=List.zipWith (·+·) T K
theorem addT_bump:∀ (T K:List Nat) (k:Nat),T.length=K.length→addT T (bump K k)=bump (addT T K) k
 |[],[],k,_=>by simp[addT,bump]
 |[],_::_,k,h=>by simp at h
 |_::_,[],k,h=>by simp at h
 |a::T,b::K,0,h=>by simp[addT,bump];omega
 |a::T,b::K,k+1,h=>by
  have:=addT_bump T K k (by simpa using h)
  simp only[addT,bump,List.set_cons_succ,List.getD_cons_succ,List.zipWith_cons_cons]at this ⊢
  rw[this]
theorem addT_fold:∀ (ks T K:List Nat),T.length=K.length→addT T (ks.foldl bump K)=ks.foldl bump (addT T K)
 |[],T,K,h=>rfl
 |k::r,T,K,h=>by
  simp only[List.foldl_cons]
  rw[addT_fold r T (bump K k) (by rw[bump_len];exact h),addT_bump T K k h]
theorem bump_sum:∀ (K:List Nat) (k:Nat),k<K.length→(bump K k).sum=K.sum+1
 |[],k,h=>by simp at h
 |a::K,0,h=>by simp[bump];omega
 |a::K,k+1,h=>by
  have:=bump_sum K k (by simpa using h)
  simp only[bump,List.set_cons_succ,List.getD_cons_succ,List.sum_cons]at this ⊢
  omega
theorem fold_sum:∀ (ks K:List Nat),(∀ k,k∈ks→k<K.length)→(ks.foldl bump K).sum=K.sum+ks.length
 |[],K,h=>by simp
 |k::r,K,h=>by
  simp only[List.foldl_cons,List.length_cons]
  rw[fold_sum r (bump K k) (by rw[bump_len];exact fun j hj=>h j (by simp[hj])),bump_sum K k (h k (by simp))]
  omega
theorem fold_le:∀ (ks K:List Nat) {B:Nat},(∀ a,a∈K→a<B)→0<B→∀ a,a∈ks.foldl bump K→a<B+ks.length
 |[],K,B,h,_=>by simpa using h
 |k::r,K,B,h,hB=>by
  intro a ha
  have:=fold_le r (bump K k) (bump_le h hB) (by omega) a ha
  simp only[List.length_cons]
  omega
theorem headRun_kinds {step:StepF}{p:Port}:∀ (l:Nat) (n:Net),HeadOK pg step l n p→(∀ k,k∈(hRn step l n p).2.1→k<9)∧(hRn step l n p).2.1.length≤l
 |0,n,hok=>by
  unfold hRn
  split
  ·simp
  ·split<;>simp
 |l+1,n,hok=>by
  unfold hRn
  by_cases c1:(n.next p).2.2=0
  ·rw[if_neg (by simpa using c1)]
   cases c2:(n.next p).2.1 with
   |false=>simp
   |true =>
    obtain ⟨_,_,hst⟩:=hok
    obtain ⟨⟨_,s2⟩,s3⟩:=hst c1 c2
    simp only[Bool.true_eq_false,if_false]
    by_cases c3:(step n (n.next p).1).2.2=0
    ·rw[if_neg (by simpa using c3)]
     obtain ⟨i1,i2⟩:=headRun_kinds l _ (s3 c3)
     refine ⟨fun k hk=>?_,by simp;omega⟩
     rcases List.mem_cons.1 hk with rfl|hk
     ·exact s2
     ·exact i1 k hk
    ·rw[if_pos (by simpa using c3)];simp
  ·rw[if_pos (by simpa using c1)];simp
theorem t66 (h:Std pg){step:StepF}{n:Net}{p:Port}{F:Nat}(hF:F≤100000)(hok:HeadOK pg step F n p) :
  eCA pg (E pg) 66 [.ag [.p (.sl (n.nodes.map Node.enc)),.p (.i .i64 n.cap)],.ag [.p (.i .i64 p.node),.p (.i .i64 p.slot)],.p (.i .i64 F)] G=some (.ret (.tup [.ag [.p (.sl ((hRn step F n p).1.nodes.map Node.enc)),.p (.i .i64 (hRn step F n p).1.cap)],.p (.i .i64 (hRn step F n p).2.2.1),.ag (tallyAV ((hRn step F n p).2.1.foldl bump tally0)),.p (.i .i64 (hRn step F n p).2.2.2)]),G):=by
 have:=s66 h hF hok
 exact at_pure this (by simp[flatAL,flatA]) (by
  simp only[Out.below,below,belowL,Bool.and_true,Bool.true_and]
  exact flatAL_below 0 (tally_flat _))
def rdOut (R:Net×List Nat×Nat×Nat)(T:List Nat)(d F:Nat)(D:Bool):Out×Heap :=
 (if R.2.2.2=0 then .ret (.p (.i .i64 R.2.2.1)) else .pan (.ifc 70 (.ag [.p (.i .i64 R.2.2.2)])),[.box (rdr R.1 (R.2.1.foldl bump T) (d+R.2.1.length) F D)])
theorem s46 (h:Std pg){step:StepF}{n:Net}{p:Port}{F d:Nat}{T:List Nat}{D:Bool}(hF:F≤100000)(hd:d≤F)(hT:T.length=9)(hTb:∀ k,k∈T→k<2 ^ 40)(hok:HeadOK pg step (F-d) n p) :
  E pg 46 [.ptr 0 0,.ag [.p (.i .i64 p.node),.p (.i .i64 p.slot)]] [.box (rdr n T d F D)]=some (rdOut (hRn step (F-d) n p) T d F D):=by
 have e1:=fun G=>t66 (G:=G) h (by omega) hok
 obtain ⟨k1,k2⟩:=headRun_kinds _ _ hok
 unfold rdOut
 generalize (hRn step (F-d) n p)=R at *
 rcases R with ⟨m,ks,at',err⟩
 dsimp only at e1 k1 k2 ⊢
 have hsum:=fold_sum ks tally0 k1
 have hadd:=addT_fold ks T tally0 hT
 have hKl:(ks.foldl bump tally0).length=9:=by rw[foldl_bump_len];rfl
 have hKb:=fold_le ks tally0 (B:=1) (by simp[tally0]) (by omega)
 have hT0:addT T tally0=T:=by
  match T,hT with
  |[a0,a1,a2,a3,a4,a5,a6,a7,a8],_=>rfl
 rw[hT0]at hadd
 rw[show tally0.sum=0 from rfl,Nat.zero_add]at hsum
 rw[← hadd,← hsum]
 generalize ks.foldl bump tally0=K at *
 obtain ⟨a0,a1,a2,a3,a4,a5,a6,a7,a8,rfl⟩:∃ a0 a1 a2 a3 a4 a5 a6 a7 a8,T=[a0,a1,a2,a3,a4,a5,a6,a7,a8]:=by
  match T,hT with
  |[a0,a1,a2,a3,a4,a5,a6,a7,a8],_=>exact ⟨a0,a1,a2,a3,a4,a5,a6,a7,a8,rfl⟩
 obtain ⟨b0,b1,b2,b3,b4,b5,b6,b7,b8,rfl⟩:∃ a0 a1 a2 a3 a4 a5 a6 a7 a8,K=[a0,a1,a2,a3,a4,a5,a6,a7,a8]:=by
  match K,hKl with
  |[a0,a1,a2,a3,a4,a5,a6,a7,a8],_=>exact ⟨a0,a1,a2,a3,a4,a5,a6,a7,a8,rfl⟩
 simp at hTb hKb hsum
 have hL:=l46 (pg:=pg) (N:=.p (.sl (m.nodes.map Node.enc))) (C:=.p (.i .i64 m.cap)) (X:=.p (.i .i64 F)) (Y:=.p (.b D)) (U:=.p (.i .i64 at')) (V:=.p (.i .i64 err)) (a0:=a0) (a1:=a1) (a2:=a2) (a3:=a3) (a4:=a4) (a5:=a5) (a6:=a6) (a7:=a7) (a8:=a8) (k0:=b0) (k1:=b1) (k2:=b2) (k3:=b3) (k4:=b4) (k5:=b5) (k6:=b6) (k7:=b7) (k8:=b8) (d:=d) h rfl rfl rfl rfl rfl rfl rfl (by omega) (by omega) (by omega) (by omega) (by omega) (by omega) (by omega) (by omega) (by omega) (by omega)
 have e2:(F:Int)-d=((F-d:Nat):Int):=by omega
 have e3:=w64 ((F-d:Nat):Int) (by omega) (by omega)
 simp only[tallyAV,rdr,List.map_cons,List.map_nil,List.cons_append,List.nil_append,addT,List.zipWith_cons_cons,List.zipWith_nil_right,List.sum_cons,List.sum_nil]at e1 hL ⊢
 rw[h.run (x:=c46) rfl (by decide) (by decide) (by decide) (by decide)]
 by_cases he:err=0
 ·rw[if_pos he]
  have he':(err:Int)=0:=by omega
  simp[c46,leave,e2,e3,e1,gc,gcEnv,exp,expL,eOs,Exp.id,idxOf,List.range,List.range.loop,hL,eq_true he,eq_true he']
  try omega
 ·rw[if_neg he]
  have he':¬ (err:Int)=0:=by omega
  simp[c46,leave,e2,e3,e1,gc,gcEnv,exp,expL,eOs,Exp.id,idxOf,List.range,List.range.loop,hL,he,he']
  try omega
inductive Shape where
 |mk (kind:Nat) (n:Int) (name:List UInt8) (l:List Shape)
 deriving Inhabited
mutual
def Shape.enc:Shape→List PV
 |.mk k n s l=>[iv k,iv n,.s s,.sl (Shape.encL l)]
def Shape.encL:List Shape→List (List PV)
 |[]=>[]
 |a::r=>a.enc::Shape.encL r
end
theorem Shape.encL_map:∀ l,Shape.encL l=l.map Shape.enc
 |[]=>rfl
 |a::r=>by simp[Shape.encL,Shape.encL_map r]
theorem Shape.enc_ok (s:Shape):okRow 4 s.enc=true:=by
 cases s;simp[Shape.enc,okRow,PV.flat]
def Shape.zero:Shape:=.mk 0 0 [] []
def Shape.lazy:Shape:=.mk 5 0 [] []
structure RS where
 net:Net
 T:List Nat
 d:Nat
def afterHead (R:Net×List Nat×Nat×Nat)(s:RS):RS:=⟨R.1,R.2.1.foldl bump s.T,s.d+R.2.1.length⟩
def pRn (D:Bool)(rd:RS→Port→RS×Nat×Shape)(i:Nat):Nat→Nat→RS→RS×Nat×List Shape
 |0,_,s=>(s,0,[])
 |c+1,k,s=>match D with
  |true=>if (rd s ⟨i,k⟩).2.1≠0 then ((rd s ⟨i,k⟩).1,(rd s ⟨i,k⟩).2.1,[]) else
    ((pRn D rd i c (k+1) (rd s ⟨i,k⟩).1).1,(pRn D rd i c (k+1) (rd s ⟨i,k⟩).1).2.1,(rd s ⟨i,k⟩).2.2::(pRn D rd i c (k+1) (rd s ⟨i,k⟩).1).2.2)
  |false=>((pRn D rd i c (k+1) s).1,(pRn D rd i c (k+1) s).2.1,Shape.lazy::(pRn D rd i c (k+1) s).2.2)
def shapeOf (D:Bool)(rd:RS→Port→RS×Nat×Shape)(s:RS)(i:Nat):RS×Nat×Shape:=match s.net.nodes[i]? with
 |none=>(s,190,.zero)
 |some x=>if x.kind=10 then (s,0,.mk 1 x.n [] []) else if x.kind=2 then (s,0,.mk 3 0 [] []) else if x.kind=13 then (s,0,.mk 4 0 [] [])
  else if x.kind=8 then (if (pRn D rd i (x.to.length-1) 1 s).2.1≠0 then ((pRn D rd i (x.to.length-1) 1 s).1,(pRn D rd i (x.to.length-1) 1 s).2.1,.zero) else
   ((pRn D rd i (x.to.length-1) 1 s).1,0,.mk 2 0 x.name (pRn D rd i (x.to.length-1) 1 s).2.2)) else (s,190,.zero)
def sRn (step:StepF)(F:Nat)(D:Bool):Nat→RS→Port→RS×Nat×Shape
 |0,s,_=>(s,999,.zero)
 |f+1,s,p=>if (hRn step (F-s.d) s.net p).2.2.2≠0 then (afterHead (hRn step (F-s.d) s.net p) s,(hRn step (F-s.d) s.net p).2.2.2,.zero) else
  shapeOf D (sRn step F D f) (afterHead (hRn step (F-s.d) s.net p) s) (hRn step (F-s.d) s.net p).2.2.1
def RSok (F:Nat)(s:RS):Prop:=s.d≤F∧s.T.length=9∧∀ k,k∈s.T→k≤s.d
def PartsOK (D:Bool)(ok:RS→Port→Prop)(rd:RS→Port→RS×Nat×Shape)(i:Nat):Nat→Nat→RS→Prop
 |0,_,_=>True
 |c+1,k,s=>match D with
  |true=>ok s ⟨i,k⟩∧((rd s ⟨i,k⟩).2.1=0→PartsOK D ok rd i c (k+1) (rd s ⟨i,k⟩).1)
  |false=>True
def ShapeOK (pg:Prg)(step:StepF)(F:Nat)(D:Bool):Nat→RS→Port→Prop
 |0,_,_=>False
 |f+1,s,p=>RSok F s∧HeadOK pg step (F-s.d) s.net p∧((hRn step (F-s.d) s.net p).2.2.2=0→∃ x,(hRn step (F-s.d) s.net p).1.nodes[(hRn step (F-s.d) s.net p).2.2.1]?=some x∧x.to.length<2 ^ 20 ∧
   (x.kind=8→1≤x.to.length∧PartsOK D (ShapeOK pg step F D f) (sRn step F D f) (hRn step (F-s.d) s.net p).2.2.1 (x.to.length-1) 1 (afterHead (hRn step (F-s.d) s.net p) s)))
def RS.cells (s:RS)(F:Nat)(D:Bool):List AV:=rdr s.net s.T s.d F D
def rdEnd (r:RS×Nat×Shape)(F:Nat)(D:Bool):Out×Heap:=(if r.2.1=0 then .ret (.ag (pcs r.2.2.enc)) else .pan (.ifc 70 (.ag [.p (.i .i64 r.2.1)])),[.box (r.1.cells F D)])
theorem at_rd {call:CallF}{f:Nat}{s:RS}{F:Nat}{D:Bool}{args:List AV}{r:RS×Nat×Shape}{Gs:Heap}(hc:call f (.ptr 0 0::args) [.box (s.cells F D)]=some (rdEnd r F D))(ha:flatAL args=true) :
  eCA pg call f (.ptr 0 0::args) (.box (s.cells F D)::Gs)=some (if r.2.1=0 then .ret (.ag (pcs r.2.2.enc)) else .pan (.ifc 70 (.ag [.p (.i .i64 r.2.1)])),.box (r.1.cells F D)::Gs):=by
 unfold rdEnd at hc
 refine at_box0 hc ha (rdr_flat _ _ _ _ _) (rdr_flat _ _ _ _ _) ?_
 split
 ·simp only[Out.below,below];exact flatAL_below 0 (flatAL_pcs _)
 ·rfl
def shpV (acc:List Shape):AV:=match acc with
 |[]=>.nils
 |_::r=>.arr 4 (r.length+1) r.length
def shpH (acc:List Shape):Heap:=match acc with
 |[]=>[]
 |c::r=>[.arr 4 (Shape.encL (c::r)) r.length 0]
theorem rdr_at13 {s:RS}{F:Nat}{D:Bool}(hT:s.T.length=9):(s.cells F D)[13]?=some (.p (.b D)):=by
 simp only[RS.cells,rdr,List.getElem?_cons_succ]
 rw[List.getElem?_append_right (by rw[tally_len];omega),tally_len,hT]
 rfl
theorem rdr_at13b {s:RS}{F:Nat}{D:Bool}(hT:s.T.length=9):∀ hh,(s.cells F D)[13]'hh=.p (.b D):=fun hh=>by
 have:=rdr_at13 (F:=F) (D:=D) hT
 rw[gG hh]at this
 exact Option.some.inj this
def finParts (name:List UInt8)(acc:List Shape)(r:RS×Nat×List Shape):RS×Nat×Shape:=if r.2.1≠0 then (r.1,r.2.1,.zero) else (r.1,0,.mk 2 0 name (acc++r.2.2))
theorem encL_len (l:List Shape):(Shape.encL l).length=l.length:=by rw[Shape.encL_map];simp
theorem encL_snoc (l:List Shape)(s:Shape):Shape.encL (l++[s])=Shape.encL l++[s.enc]:=by simp[Shape.encL_map]
theorem l47 (h:Std pg){body:CCode}(hb:body=c47l0){x:Node}{F i:Nat}{D:Bool}{ok:RS→Port→Prop}{rd:RS→Port→RS×Nat×Shape}
  (hrec:∀ s p,ok s p→s.T.length=9∧(rd s p).1.T.length=9∧E pg 32 [.ptr 0 0,.ag [.p (.i .i64 p.node),.p (.i .i64 p.slot)]] [.box (s.cells F D)]=some (rdEnd (rd s p) F D)) (hxl:x.to.length<2 ^ 20) :
  ∀ (c k:Nat) (s:RS) (acc:List Shape),k+c=x.to.length→acc.length≤k→s.T.length=9→PartsOK D ok rd i c k s →
   kF 1 [.cell 6 4 true] false (kS pg (E pg) (L pg) 1 (.seq (.ops [6] [⟨some 36,.load 4 true (.t 7),none⟩,⟨none,.store 4 (.t 6) (.t 36),none⟩]) .ret) (kB 0 (L pg 1 [0,1,5,6,7,8] body [(0,.ptr 0 0),(1,.p (.i .i64 i)),(5,.ptr 1 0),(6,.ptr 2 0),(7,.ptr 3 0),(8,.p (.i .i64 k))]
    (.box (s.cells F D)::.box [.p (.i .i64 x.kind),.p (.i .i64 x.lev),.p (.i .i64 x.n),.p (.s x.name),.p (.sl (x.alts.map encAr)),.p (.sl (x.to.map Port.enc))]::.box [.p (.i .i64 0),.p (.i .i64 0),.p (.s []),.nils]::.box [.p (.i .i64 2),.p (.i .i64 0),.p (.s x.name),shpV acc]::shpH acc))))=some (rdEnd (finParts x.name acc (pRn D rd i c k s)) F D)
 |0,k,s,acc,hk,ha,hT,hok=>by
  have hkx:k=x.to.length:=by omega
  subst hkx
  have hfl:=flatAL_below 1 (rdr_flat s.net s.T s.d F D)
  have hf:finParts x.name acc (pRn D rd i 0 x.to.length s)=(s,0,.mk 2 0 x.name acc):=by simp[finParts,pRn]
  rw[hf,k_L hb]
  unfold rdEnd
  have hfl':belowL 1 (s.cells F D)=true:=hfl
  cases acc with
  |nil=>simp[c47l0,leave,shpV,shpH,Shape.enc,Shape.encL,hfl']
  |cons a0 ar =>
   have e1:ar.length+1≤(Shape.encL (a0::ar)).length:=by rw[encL_len];simp
   have e2:(Shape.encL (a0::ar)).take (ar.length+1)=Shape.encL (a0::ar):=List.take_of_length_le (by rw[encL_len];simp)
   simp only[shpV,shpH,Shape.enc]
   generalize Shape.encL (a0::ar)=R at *
   simp[c47l0,leave,e1,e2,hfl']
 |c+1,k,s,acc,hk,ha,hT,hok=>by
  have hlt:k<x.to.length:=by omega
  have hlt':(k:Int)<x.to.length:=by omega
  have h13:=rdr_at13 (F:=F) (D:=D) hT
  have h13b:=rdr_at13b (F:=F) (D:=D) hT
  have hfs:flatAL (s.cells F D)=true:=rdr_flat _ _ _ _ _
  have hes:∀ e,expL true e (s.cells F D)=some (s.cells F D,e):=fun e=>flatAL_exp true e hfs
  have hokr:∀ sh:Shape,okRows 4 [sh.enc]=true:=fun sh=>by simp[okRows,Shape.enc_ok]
  have e7:roomy (acc.length+1) 56=true:=by simp[roomy];omega
  cases D with
  |false =>
   have ih:=l47 (i:=i) h hb hrec hxl c (k+1) s (acc++[.lazy]) (by omega) (by simp;omega) hT (by cases c<;>trivial)
   have hf:finParts x.name acc (pRn false rd i (c+1) k s)=finParts x.name (acc++[.lazy]) (pRn false rd i c (k+1) s):=by
    simp only[finParts,pRn,List.append_assoc,List.singleton_append]
    rfl
   rw[hf]
   generalize finParts x.name (acc++[.lazy]) (pRn false rd i c (k+1) s)=W at *
   rw[show ((k+1:Nat):Int)=(k:Int)+1 from by omega]at ih
   generalize s.cells F false=S at *
   rw[k_L hb]
   cases acc with
   |nil =>
    simp only[shpV,shpH,List.nil_append,Shape.encL,Shape.lazy,Shape.enc,List.length_nil,Nat.zero_add,show ((5:Nat):Int)=5 from rfl]at ih ⊢
    simp[c47l0,leave,hlt,hlt',h13,h13b,evOp.fillRows,normP,toP,toPL,okRow,evApp,okRows,show roomy 1 56=true from rfl,w64 ((k:Int)+1) (by omega) (by omega),gc,gcEnv,exp,expL,eOs,Exp.id,idxOf,List.range,List.range.loop,hes,ih]
   |cons a0 ar =>
    have e2:(Shape.encL (a0::ar)).take (ar.length+1)=Shape.encL (a0::ar):=List.take_of_length_le (by rw[encL_len];simp)
    have e1:ar.length+1≤(Shape.encL (a0::ar)).length:=by rw[encL_len];simp
    have e3:Shape.encL (a0::(ar++[.lazy]))=Shape.encL (a0::ar)++[[.i .i64 5,.i .i64 0,.s [],.sl []]]:=by
     have:=encL_snoc (a0::ar) .lazy
     simpa [Shape.lazy,Shape.enc,Shape.encL] using this
    simp only[shpV,shpH,List.cons_append,List.length_append,List.length_cons,List.length_nil,Nat.zero_add,e3]at ih e7 ⊢
    generalize Shape.encL (a0::ar)=R at *
    simp[c47l0,leave,hlt,hlt',h13,h13b,evOp.fillRows,normP,toP,toPL,okRow,evApp,okRows,e1,e2,e7,w64 ((k:Int)+1) (by omega) (by omega),gc,gcEnv,exp,expL,eOs,Exp.id,idxOf,List.range,List.range.loop,hes,ih]
  |true =>
   obtain ⟨hok1,hok2⟩:=hok
   obtain ⟨hT1,hT2,hE⟩:=hrec s ⟨i,k⟩ hok1
   have e5:=fun Gs=>at_rd (Gs:=Gs) (pg:=pg) hE rfl
   dsimp only at e5
   by_cases hz:(rd s ⟨i,k⟩).2.1=0
   ·have ih:=l47 (i:=i) h hb hrec hxl c (k+1) (rd s ⟨i,k⟩).1 (acc++[(rd s ⟨i,k⟩).2.2]) (by omega) (by simp;omega) hT2 (hok2 hz)
    have hf:finParts x.name acc (pRn true rd i (c+1) k s)=finParts x.name (acc++[(rd s ⟨i,k⟩).2.2]) (pRn true rd i c (k+1) (rd s ⟨i,k⟩).1):=by
     simp only[finParts,pRn,hz,ne_eq,not_true_eq_false,if_false,List.append_assoc,List.singleton_append]
    rw[hf]
    generalize finParts x.name (acc++[(rd s ⟨i,k⟩).2.2]) (pRn true rd i c (k+1) (rd s ⟨i,k⟩).1)=W at *
    simp only[hz,if_true]at e5
    have hfs2:flatAL ((rd s ⟨i,k⟩).1.cells F true)=true:=rdr_flat _ _ _ _ _
    have hes2:∀ e,expL true e ((rd s ⟨i,k⟩).1.cells F true)=some ((rd s ⟨i,k⟩).1.cells F true,e):=fun e=>flatAL_exp true e hfs2
    rw[show ((k+1:Nat):Int)=(k:Int)+1 from by omega]at ih
    generalize (rd s ⟨i,k⟩).1.cells F true=S2 at *
    generalize s.cells F true=S at *
    generalize (rd s ⟨i,k⟩).2.2=sh at *
    rcases sh with ⟨sk,sn,ss,sl⟩
    have hokr':=hokr (.mk sk sn ss sl)
    simp only[Shape.enc,pcs,List.map_cons,List.map_nil]at e5 hokr'
    rw[k_L hb]
    cases acc with
    |nil =>
     simp only[shpV,shpH,List.nil_append,Shape.encL,Shape.enc,List.length_nil,Nat.zero_add]at ih ⊢
     simp[c47l0,leave,hlt,hlt',h13,h13b,e5,hokr',evOp.fillRows,normP,toP,toPL,okRow,evApp,show roomy 1 56=true from rfl,w64 ((k:Int)+1) (by omega) (by omega),gc,gcEnv,exp,expL,eOs,Exp.id,idxOf,List.range,List.range.loop,hes,hes2,ih]
    |cons a0 ar =>
     have e2:(Shape.encL (a0::ar)).take (ar.length+1)=Shape.encL (a0::ar):=List.take_of_length_le (by rw[encL_len];simp)
     have e1:ar.length+1≤(Shape.encL (a0::ar)).length:=by rw[encL_len];simp
     have e3:Shape.encL (a0::(ar++[.mk sk sn ss sl]))=Shape.encL (a0::ar)++[[.i .i64 sk,.i .i64 sn,.s ss,.sl (Shape.encL sl)]]:=by
      have:=encL_snoc (a0::ar) (.mk sk sn ss sl)
      simpa [Shape.enc,Shape.encL] using this
     simp only[shpV,shpH,List.cons_append,List.length_append,List.length_cons,List.length_nil,Nat.zero_add,e3]at ih e7 ⊢
     generalize Shape.encL (a0::ar)=R at *
     generalize Shape.encL sl=SL at *
     simp[c47l0,leave,hlt,hlt',h13,h13b,e5,hokr',evOp.fillRows,normP,toP,toPL,okRow,evApp,e1,e2,e7,w64 ((k:Int)+1) (by omega) (by omega),gc,gcEnv,exp,expL,eOs,Exp.id,idxOf,List.range,List.range.loop,hes,hes2,ih]
   ·have hf:finParts x.name acc (pRn true rd i (c+1) k s)=((rd s ⟨i,k⟩).1,(rd s ⟨i,k⟩).2.1,.zero):=by
     simp[finParts,pRn,hz]
    rw[hf]
    simp only[hz,if_false]at e5
    unfold rdEnd
    rw[if_neg hz]
    have hfs2:belowL 1 ((rd s ⟨i,k⟩).1.cells F true)=true:=flatAL_below 1 (rdr_flat _ _ _ _ _)
    generalize (rd s ⟨i,k⟩).1.cells F true=S2 at *
    generalize s.cells F true=S at *
    rw[k_L hb]
    cases acc with
    |nil =>
     simp only[shpV,shpH]at ⊢
     simp[c47l0,leave,hlt,hlt',h13,h13b,e5,gc,gcEnv,exp,expL,eOs,Exp.id,idxOf,List.range,List.range.loop,hes,hfs2]
    |cons a0 ar =>
     simp only[shpV,shpH]at ⊢
     simp[c47l0,leave,hlt,hlt',h13,h13b,e5,gc,gcEnv,exp,expL,eOs,Exp.id,idxOf,List.range,List.range.loop,hes,hfs2]
theorem parts_T {D:Bool}{rd:RS→Port→RS×Nat×Shape}(hrd:∀ s p,s.T.length=9→(rd s p).1.T.length=9)(i:Nat):∀ (c k:Nat) (s:RS),s.T.length=9→(pRn D rd i c k s).1.T.length=9
 |0,k,s,h=>h
 |c+1,k,s,h=>by
  cases D with
  |false=>exact parts_T hrd i c (k+1) s h
  |true =>
   simp only[pRn]
   split
   ·exact hrd s _ h
   ·exact parts_T hrd i c (k+1) _ (hrd s _ h)
theorem shape_T (step:StepF)(F:Nat)(D:Bool):∀ (f:Nat) (s:RS) (p:Port),s.T.length=9→(sRn step F D f s p).1.T.length=9
 |0,s,p,h=>h
 |f+1,s,p,h=>by
  have h1:(afterHead (hRn step (F-s.d) s.net p) s).T.length=9:=by unfold afterHead;dsimp only;rw[foldl_bump_len];exact h
  simp only[sRn]
  split
  ·exact h1
  ·unfold shapeOf
   split
   ·exact h1
   ·split
    ·exact h1
    ·split
     ·exact h1
     ·split
      ·exact h1
      ·split
       ·split
        ·exact parts_T (shape_T step F D f) _ _ _ _ h1
        ·exact parts_T (shape_T step F D f) _ _ _ _ h1
       ·exact h1
theorem s47 (h:Std pg){x:Node}{F i:Nat}{D:Bool}{s:RS}{ok:RS→Port→Prop}{rd:RS→Port→RS×Nat×Shape}
  (hrec:∀ s p,ok s p→s.T.length=9∧(rd s p).1.T.length=9∧E pg 32 [.ptr 0 0,.ag [.p (.i .i64 p.node),.p (.i .i64 p.slot)]] [.box (s.cells F D)]=some (rdEnd (rd s p) F D)) (hxl:1≤x.to.length∧x.to.length<2 ^ 20) (hT:s.T.length=9) (hp:PartsOK D ok rd i (x.to.length-1) 1 s) :
  E pg 47 [.ptr 0 0,.p (.i .i64 i),.ag [.p (.i .i64 x.kind),.p (.i .i64 x.lev),.p (.i .i64 x.n),.p (.s x.name),.p (.sl (x.alts.map encAr)),.p (.sl (x.to.map Port.enc))]] [.box (s.cells F D)]=some (rdEnd (finParts x.name [] (pRn D rd i (x.to.length-1) 1 s)) F D):=by
 have hL:=l47 (i:=i) h rfl hrec hxl.2 (x.to.length-1) 1 s [] (by omega) (by simp) hT hp
 have hfs:flatAL (s.cells F D)=true:=rdr_flat _ _ _ _ _
 have hes:∀ e,expL true e (s.cells F D)=some (s.cells F D,e):=fun e=>flatAL_exp true e hfs
 simp only[shpV,shpH,show ((1:Nat):Int)=1 from rfl]at hL
 rw[h.run (x:=c47) rfl (by decide) (by decide) (by decide) (by decide)]
 simp[c47,leave,gc,gcEnv,exp,expL,eOs,Exp.id,idxOf,List.range,List.range.loop,hes,hL]
theorem s32 (h:Std pg){step:StepF}{F:Nat}{D:Bool}(hF:F≤100000):∀ (f:Nat) (s:RS) (p:Port),ShapeOK pg step F D f s p →
  E pg 32 [.ptr 0 0,.ag [.p (.i .i64 p.node),.p (.i .i64 p.slot)]] [.box (s.cells F D)]=some (rdEnd (sRn step F D f s p) F D)
 |0,s,p,hok=>hok.elim
 |f+1,s,p,hok=>by
  obtain ⟨⟨hd,hT,hTb⟩,hh,hx⟩:=hok
  have h46:=s46 (T:=s.T) (D:=D) h hF hd hT (fun k hk=>by have:=hTb k hk;omega) hh
  have hfs2:flatAL ((afterHead (hRn step (F-s.d) s.net p) s).cells F D)=true:=rdr_flat _ _ _ _ _
  have hbl2:=flatAL_below 1 hfs2
  by_cases he:(hRn step (F-s.d) s.net p).2.2.2=0
  ·obtain ⟨x,hx1,hx2,hx3⟩:=hx he
   have hr:sRn step F D (f+1) s p=shapeOf D (sRn step F D f) (afterHead (hRn step (F-s.d) s.net p) s) (hRn step (F-s.d) s.net p).2.2.1:=by
    simp only[sRn];rw[if_neg (by simpa using he)]
   have e1:=fun Gs=>at_box0 (pg:=pg) (call:=E pg) (Gs:=Gs) (f:=46) (args:=[.ag [.p (.i .i64 p.node),.p (.i .i64 p.slot)]]) (c:=rdr s.net s.T s.d F D) (c':=(afterHead (hRn step (F-s.d) s.net p) s).cells F D) (out:=.ret (.p (.i .i64 (hRn step (F-s.d) s.net p).2.2.1))) (by rw[h46];unfold rdOut;rw[if_pos he];rfl) rfl (rdr_flat _ _ _ _ _) hfs2 rfl
   have hT2:(afterHead (hRn step (F-s.d) s.net p) s).T.length=9:=by unfold afterHead;dsimp only;rw[foldl_bump_len];exact hT
   have h47:=fun (hk8:x.kind=8) (hx1':1≤x.to.length)=>s47 (i:=(hRn step (F-s.d) s.net p).2.2.1) (s:=afterHead (hRn step (F-s.d) s.net p) s) (F:=F) (D:=D) h (fun s' p' ho'=>⟨by
    cases f with
    |zero=>exact ho'.elim
    |succ f=>exact ho'.1.2.1,shape_T step F D f s' p' (by
    cases f with
    |zero=>exact ho'.elim
    |succ f=>exact ho'.1.2.1),s32 h hF f s' p' ho'⟩) ⟨hx1',hx2⟩ hT2 (hx3 hk8).2
   rw[hr]
   have hxn:(afterHead (hRn step (F-s.d) s.net p) s).net.nodes[(hRn step (F-s.d) s.net p).2.2.1]?=some x:=hx1
   unfold shapeOf
   rw[hxn]
   dsimp only
   generalize hgi:(hRn step (F-s.d) s.net p).2.2.1=i at *
   generalize hgs:afterHead (hRn step (F-s.d) s.net p) s=s2 at *
   have h0:(s2.cells F D)[0]?=some (.p (.sl (s2.net.nodes.map Node.enc))):=rfl
   have hil:i<s2.net.nodes.length:=(gE hxn).1
   have hix:s2.net.nodes[i]=x:=(gE hxn).2
   have h0':(s2.cells F D).head?=some (.p (.sl (s2.net.nodes.map Node.enc))):=rfl
   rw[show rdr s.net s.T s.d F D=s.cells F D from rfl]at e1
   generalize s.cells F D=S at *
   have hk:x.kind=10∨x.kind=2∨x.kind=13∨x.kind=8∨(x.kind≠10∧x.kind≠2∧x.kind≠13∧x.kind≠8):=by omega
   rcases hk with hk|hk|hk|hk|⟨n1,n2,n3,n4⟩
   ·have c1:(x.kind:Int)=10:=by omega
    rw[if_pos hk]
    unfold rdEnd
    generalize s2.cells F D=S2 at *
    rw[h.run (x:=c32) rfl (by decide) (by decide) (by decide) (by decide)]
    simp[c32,leave,e1,h0,h0',hil,hix,okRow,Node.enc,eq_true c1,Shape.enc,Shape.encL,hbl2]
   ·have c1:¬ (x.kind:Int)=10:=by omega
    have c2:(x.kind:Int)=2:=by omega
    rw[if_neg (by omega),if_pos hk]
    unfold rdEnd
    generalize s2.cells F D=S2 at *
    rw[h.run (x:=c32) rfl (by decide) (by decide) (by decide) (by decide)]
    simp[c32,leave,e1,h0,h0',hil,hix,okRow,Node.enc,c1,eq_true c2,Shape.enc,Shape.encL,hbl2]
   ·have c1:¬ (x.kind:Int)=10:=by omega
    have c2:¬ (x.kind:Int)=2:=by omega
    have c3:(x.kind:Int)=13:=by omega
    rw[if_neg (by omega),if_neg (by omega),if_pos hk]
    unfold rdEnd
    generalize s2.cells F D=S2 at *
    rw[h.run (x:=c32) rfl (by decide) (by decide) (by decide) (by decide)]
    simp[c32,leave,e1,h0,h0',hil,hix,okRow,Node.enc,c1,c2,eq_true c3,Shape.enc,Shape.encL,hbl2]
   ·have c1:¬ (x.kind:Int)=10:=by omega
    have c2:¬ (x.kind:Int)=2:=by omega
    have c3:¬ (x.kind:Int)=13:=by omega
    have c4:(x.kind:Int)=8:=by omega
    rw[if_neg (by omega),if_neg (by omega),if_neg (by omega),if_pos hk]
    have h47':=h47 hk (hx3 hk).1
    have e2:=fun Gs=>at_rd (Gs:=Gs) (pg:=pg) (s:=s2) h47' rfl
    have hfin:(if (pRn D (sRn step F D f) i (x.to.length-1) 1 s2).2.1≠0 then ((pRn D (sRn step F D f) i (x.to.length-1) 1 s2).1,(pRn D (sRn step F D f) i (x.to.length-1) 1 s2).2.1,Shape.zero) else ((pRn D (sRn step F D f) i (x.to.length-1) 1 s2).1,0,.mk 2 0 x.name (pRn D (sRn step F D f) i (x.to.length-1) 1 s2).2.2))=finParts x.name [] (pRn D (sRn step F D f) i (x.to.length-1) 1 s2):=by
     simp[finParts]
    rw[hfin]
    generalize finParts x.name [] (pRn D (sRn step F D f) i (x.to.length-1) 1 s2)=W at *
    have hblw:belowL 1 (W.1.cells F D)=true:=flatAL_below 1 (rdr_flat _ _ _ _ _)
    unfold rdEnd
    generalize s2.cells F D=S2 at *
    generalize W.1.cells F D=SW at *
    rw[h.run (x:=c32) rfl (by decide) (by decide) (by decide) (by decide)]
    by_cases hw:W.2.1=0
    ·simp only[hw,if_true]at e2 ⊢
     generalize W.2.2=sh at *
     rcases sh with ⟨sk,sn,ss,sl⟩
     simp only[Shape.enc,pcs,List.map_cons,List.map_nil]at e2 ⊢
     generalize Shape.encL sl=SL at *
     simp[c32,leave,e1,h0,h0',hil,hix,okRow,Node.enc,c1,c2,c3,eq_true c4,e2,hblw]
    ·simp only[hw,if_false]at e2 ⊢
     simp[c32,leave,e1,h0,h0',hil,hix,okRow,Node.enc,c1,c2,c3,eq_true c4,e2,hblw]
   ·have c1:¬ (x.kind:Int)=10:=by omega
    have c2:¬ (x.kind:Int)=2:=by omega
    have c3:¬ (x.kind:Int)=13:=by omega
    have c4:¬ (x.kind:Int)=8:=by omega
    rw[if_neg n1,if_neg n2,if_neg n3,if_neg n4]
    unfold rdEnd
    generalize s2.cells F D=S2 at *
    rw[h.run (x:=c32) rfl (by decide) (by decide) (by decide) (by decide)]
    simp[c32,leave,e1,h0,h0',hil,hix,okRow,Node.enc,c1,c2,c3,c4,hbl2]
  ·have hr:sRn step F D (f+1) s p=(afterHead (hRn step (F-s.d) s.net p) s,(hRn step (F-s.d) s.net p).2.2.2,.zero):=by
    simp only[sRn];rw[if_pos (by simpa using he)]
   have e1:=fun Gs=>at_box0 (pg:=pg) (call:=E pg) (Gs:=Gs) (f:=46) (args:=[.ag [.p (.i .i64 p.node),.p (.i .i64 p.slot)]]) (c:=rdr s.net s.T s.d F D) (c':=(afterHead (hRn step (F-s.d) s.net p) s).cells F D) (out:=.pan (.ifc 70 (.ag [.p (.i .i64 (hRn step (F-s.d) s.net p).2.2.2)]))) (by rw[h46];unfold rdOut;rw[if_neg he];rfl) rfl (rdr_flat _ _ _ _ _) hfs2 rfl
   rw[hr]
   unfold rdEnd
   rw[if_neg he]
   rw[show rdr s.net s.T s.d F D=s.cells F D from rfl]at e1
   generalize (afterHead (hRn step (F-s.d) s.net p) s).cells F D=S2 at *
   generalize (hRn step (F-s.d) s.net p).2.2.2=err at *
   generalize s.cells F D=S at *
   rw[h.run (x:=c32) rfl (by decide) (by decide) (by decide) (by decide)]
   simp[c32,leave,e1,hbl2]
def stepN (n:Net)(i:Nat):Net×Plan×Nat:=if (n.actR i).2.2=121 then (if (n.sweep.actR i).2.2=0 then n.sweep.actR i else (n,.plain 0,121)) else n.actR i
inductive Spine (n:Net):List Nat→Port→Prop
 |root:Spine n [0] ⟨0,0⟩
 |con {l:List Nat} {p:Port} {i k:Nat} {x:Node}:Spine n l p→n.pr p=⟨i,0⟩→n.nodes[i]?=some x→x.kind=8→1≤k→k<x.to.length→Spine n (i::l) ⟨i,k⟩
theorem Spine.has {n:Net}(ho:n.Ok){l:List Nat}{p:Port}(h:Spine n l p):n.has p:=by
 cases h with
 |root =>
  obtain ⟨x,hx,hk⟩:=ho.sk.root
  exact ⟨x,hx,by rw[ho.ports_of hx hk (by omega) (by omega)];decide⟩
 |con h1 h2 h3 h4 h5 h6=>exact ⟨_,h3,h6⟩
theorem Net.Reach.pr {n:Net}{p:Port}(h:n.Reach p.node)(hp:n.has p):n.Reach (n.pr p).node:=by
 obtain ⟨x,hx,hs⟩:=Net.has_pr hp
 exact .step h hx (List.mem_of_getElem? hs)
theorem Spine.reach {n:Net}(ho:n.Ok){l:List Nat}{p:Port}(h:Spine n l p):n.Reach p.node:=by
 induction h with
 |root=>exact .root
 |con h1 h2 h3 h4 h5 h6 ih =>
  have:=ih.pr (h1.has ho)
  rw[h2]at this
  exact this
theorem Spine.off {n:Net}(ho:n.Ok){i j:Nat}(hi:i≠0)(hj:j≠0)(hij:n.pr ⟨i,0⟩=⟨j,0⟩)(hhi:n.has ⟨i,0⟩){l:List Nat}{p:Port}(h:Spine n l p){c:Nat}(hc:n.pr p=⟨c,0⟩):c≠i∧c≠j:=by
 have hb:=ho.lk ⟨i,0⟩ hhi id
 rw[hij]at hb
 have hp:=ho.lk p (h.has ho) id
 rw[hc]at hp
 have key:p.slot=0→p.node=0:=by
  cases h with
  |root=>intro _;rfl
  |con h1 h2 h3 h4 h5 h6=>intro e;dsimp only at e;omega
 refine ⟨fun e=>?_,fun e=>?_⟩
 ·subst e
  rw[hij]at hp
  have e1:=hp.2.2.1
  have:=key (by rw[← e1])
  rw[← e1]at this
  exact hj this
 ·subst e
  rw[hb.2.2.1]at hp
  have e1:=hp.2.2.1
  have:=key (by rw[← e1])
  rw[← e1]at this
  exact hi this
theorem Spine.node_off {n:Net}(ho:n.Ok){i j:Nat}(hi:i≠0)(hj:j≠0)(hij:n.pr ⟨i,0⟩=⟨j,0⟩)(hhi:n.has ⟨i,0⟩){l:List Nat}{p:Port}(h:Spine n l p):p.node≠i∧p.node≠j:=by
 cases h with
 |root=>exact ⟨fun e=>hi e.symm,fun e=>hj e.symm⟩
 |con h1 h2 h3 h4 h5 h6=>exact h1.off ho hi hj hij hhi h2
structure Same (n m:Net):Prop where
 ok:m.Ok
 cap:m.cap=n.cap
 spine:∀ l p,Spine n l p→Spine m l p
 pr:∀ l p c,Spine n l p→n.pr p=⟨c,0⟩→m.pr p=⟨c,0⟩∧∀ y,n.nodes[c]?=some y→y.kind≠0→∃ y',m.nodes[c]?=some y'∧y'.bare=y.bare
theorem Same.refl {n:Net}(h:n.Ok):Same n n:=⟨h,rfl,fun _ _ h=>h,fun _ _ _ _ h=>⟨h,fun y hy _=>⟨y,hy,rfl⟩⟩⟩
theorem Same.trans {n m k:Net}(h:Same n m)(h':Same m k):Same n k:=by
 refine ⟨h'.ok,h'.cap.trans h.cap,fun l p hp=>h'.spine l p (h.spine l p hp),fun l p c hp hc=>?_⟩
 obtain ⟨a1,a2⟩:=h.pr l p c hp hc
 obtain ⟨b1,b2⟩:=h'.pr l p c (h.spine l p hp) a1
 refine ⟨b1,fun y hy hk=>?_⟩
 obtain ⟨y',c1,c2⟩:=a2 y hy hk
 obtain ⟨y'',d1,d2⟩:=b2 y' c1 (by rw[(Node.bare_ok c2).2.2.1];exact hk)
 exact ⟨y'',d1,d2.trans c2⟩
theorem Stay.same {n m:Net}{i j:Nat}(ho:n.Ok)(h:Stay n m i j)(hij:n.pr ⟨i,0⟩=⟨j,0⟩)(hhi:n.has ⟨i,0⟩):Same n m:=by
 have hfix:∀ l p c,Spine n l p→n.pr p=⟨c,0⟩→Fix n i j p:=fun l p c hp hc=>by
  have h1:=hp.node_off ho h.i0 h.j0 hij hhi
  have h2:=hp.off ho h.i0 h.j0 hij hhi hc
  exact ⟨hp.has ho,h1.1,h1.2,by rw[hc];exact h2.1,by rw[hc];exact h2.2⟩
 have hpr:∀ l p c,Spine n l p→n.pr p=⟨c,0⟩→m.pr p=⟨c,0⟩∧∀ y,n.nodes[c]?=some y→y.kind≠0→∃ y',m.nodes[c]?=some y'∧y'.bare=y.bare:=fun l p c hp hc=>by
  have h2:=hp.off ho h.i0 h.j0 hij hhi hc
  exact ⟨((h.fix p (hfix l p c hp hc)).2).trans hc,fun y hy hk=>h.keep c y h2.1 h2.2 hy hk⟩
 refine ⟨h.ok,h.cap,fun l p hp=>?_,hpr⟩
 induction hp with
 |root=>exact .root
 |con h1 h2 h3 h4 h5 h6 ih =>
  obtain ⟨a1,a2⟩:=hpr _ _ _ h1 h2
  obtain ⟨y',b1,b2⟩:=a2 _ h3 (by omega)
  have b3:=Node.bare_ok b2
  exact .con ih a1 b1 (by rw[b3.2.2.1];exact h4) h5 (by rw[b3.2.2.2.1];exact h6)
theorem Net.pr_of_node {n m:Net}{p:Port}{x:Node}(h1:n.nodes[p.node]?=some x)(h2:m.nodes[p.node]?=some x):m.pr p=n.pr p:=by
 unfold Net.pr Net.peer
 rw[h1,h2]
theorem Net.has_kind {n:Net}(ho:n.Ok){p:Port}(h:n.has p):∃ x,n.nodes[p.node]?=some x∧p.slot<x.to.length∧x.kind≠0:=by
 obtain ⟨x,hx,hs⟩:=h
 exact ⟨x,hx,hs,fun e=>by have:=ho.sk.free_ports hx e;omega⟩
theorem sweep_same {n:Net}(ho:n.Ok):Same n n.sweep:=by
 obtain ⟨a1,a2,a3⟩:=sweep_ok ho
 have hpr:∀ l p,Spine n l p→n.sweep.pr p=n.pr p:=fun l p hp=>by
  obtain ⟨x,hx,hs,hk⟩:=Net.has_kind ho (hp.has ho)
  exact Net.pr_of_node hx (a3 _ _ (hp.reach ho) hx hk)
 refine ⟨a1,a2,fun l p hp=>?_,fun l p c hp hc=>?_⟩
 ·induction hp with
  |root=>exact .root
  |con h1 h2 h3 h4 h5 h6 ih =>
   refine .con ih (by rw[hpr _ _ h1];exact h2) (a3 _ _ ?_ h3 (by omega)) h4 h5 h6
   exact (Spine.con h1 h2 h3 h4 h5 h6).reach ho
 ·refine ⟨by rw[hpr _ _ hp];exact hc,fun y hy hk=>⟨y,a3 c y ?_ hy hk,rfl⟩⟩
  have:=(hp.reach ho).pr (hp.has ho)
  rw[hc]at this
  exact this
theorem sweep_meet {n:Net}{i j:Nat}{x y:Node}(hm:Meet n i j x y)(hr:n.Reach i):Meet n.sweep i j x y:=by
 obtain ⟨ho,hx,hy,hx1,hpr⟩:=hm
 obtain ⟨a1,a2,a3⟩:=sweep_ok ho
 obtain ⟨x',hx',hs,hk⟩:=Net.has_kind ho (p:=⟨i,0⟩) ⟨x,hx,hx1⟩
 rw[show (⟨i,0⟩:Port).node=i from rfl,hx]at hx'
 cases hx'
 have hsx:=a3 i x hr hx hk
 have hrj:n.Reach j:=by
  have:=Net.Reach.pr (p:=⟨i,0⟩) hr ⟨x,hx,hx1⟩
  rw[hpr]at this
  exact this
 have hjk:y.kind≠0:=by
  have:=(ho.lk ⟨i,0⟩ ⟨x,hx,hx1⟩ id).1
  rw[hpr]at this
  obtain ⟨z,hz,_,hzk⟩:=Net.has_kind ho this
  rw[show (⟨j,0⟩:Port).node=j from rfl,hy]at hz
  cases hz
  exact hzk
 exact ⟨a1,hsx,a3 j y hrj hy hjk,hx1,by rw[Net.pr_of_node (p:=⟨i,0⟩) hx hsx];exact hpr⟩
theorem stepN_spec (h:Std pg){n:Net}{i j:Nat}{x y:Node}(hm:Meet n i j x y)(hr:n.Reach i):StepSpec pg stepN n i∧((stepN n i).2.2=0→Same n (stepN n i).1):=by
 have ho:=hm.ok
 have hhi:n.has ⟨i,0⟩:=⟨x,hm.hx,hm.x1⟩
 obtain ⟨e1,k1,s1⟩:=actR_spec h hm
 unfold StepSpec stepN
 by_cases c1:(n.actR i).2.2=121
 ·rw[if_pos c1]
  have hm2:=sweep_meet hm hr
  obtain ⟨e2,k2,s2⟩:=actR_spec h hm2
  rw[c1]at e1
  have e3:=fun G=>t126s (G:=G) h ho e1 e2
  by_cases c2:(n.sweep.actR i).2.2=0
  ·rw[if_pos c2]
   refine ⟨⟨fun G=>?_,k2⟩,fun _=>?_⟩
   ·rw[e3,if_pos c2,c2];rfl
   ·exact (sweep_same ho).trans ((s2 c2).same hm2.ok hm2.pr ⟨x,hm2.hx,hm2.x1⟩)
  ·rw[if_neg c2]
   refine ⟨⟨fun G=>?_,by show 0<9;omega⟩,fun e=>by cases e⟩
   rw[e3,if_neg c2];rfl
 ·rw[if_neg c1]
  exact ⟨⟨fun G=>t126 h e1 c1,k1⟩,fun e=>(s1 e).same ho hm.pr hhi⟩
end Go.Proofs.Z
end
section
namespace Go.Proofs.Z
open Go Go.Proofs
variable {pg:Prg}{G:Heap}
theorem Net.has0 {n:Net}{q:Port}(h:n.has q):n.has ⟨q.node,0⟩:=by
 obtain ⟨x,hx,hs⟩:=h
 exact ⟨x,hx,by show 0<_;omega⟩
theorem walk_true {n:Net}(ho:n.Ok):∀ (f:Nat) (path:List Nat) (q:Port),n.has q→n.Reach q.node→(n.walk f path q).2.2.1=true→(n.walk f path q).2.2.2=0→∃ j x y,Meet n (n.walk f path q).2.1 j x y∧n.Reach (n.walk f path q).2.1
 |0,path,q,hq,hr,h1,h2=>by simp[Net.walk]at h1
 |f+1,path,q,hq,hr,h1,h2=>by
  unfold Net.walk at h1 h2 ⊢
  split
  ·rename_i c;rw[if_pos c]at h1;cases h1
  ·rename_i c
   rw[if_neg c]at h1 h2
   split
   ·rename_i c2;rw[if_pos c2]at h1;cases h1
   ·rename_i c2
    rw[if_neg c2]at h1 h2
    split
    ·rename_i c3;rw[if_pos c3]at h1;cases h1
    ·rename_i c3
     rw[if_neg c3]at h1 h2
     have h0:=Net.has0 hq
     obtain ⟨a1,a2,a3,a4⟩:=ho.lk ⟨q.node,0⟩ h0 id
     split
     ·rename_i c4
      obtain ⟨x,hx,hs⟩:=hq
      obtain ⟨y,hy,hys⟩:=a1
      refine ⟨(n.pr ⟨q.node,0⟩).node,x,y,⟨ho,hx,hy,by omega,?_⟩,hr⟩
      exact Port.ext' rfl c4
     ·rename_i c4
      rw[if_neg c4]at h1 h2
      exact walk_true ho f _ _ a1 (Net.Reach.pr (p:=⟨q.node,0⟩) hr h0) h1 h2
theorem walk_false {n:Net}(ho:n.Ok):∀ (f:Nat) (path:List Nat) (q:Port),n.has q→(n.walk f path q).2.2.1=false→(n.walk f path q).2.2.2=0→q.slot≠0→False
 |0,path,q,hq,h1,h2,_=>by simp[Net.walk]at h2
 |f+1,path,q,hq,h1,h2,hs=>by
  unfold Net.walk at h1 h2
  split at h1
  ·rename_i c;rw[if_pos c]at h2;cases h2
  ·rename_i c
   rw[if_neg c,if_neg hs]at h2
   split at h1
   ·rename_i c3;rw[if_pos c3]at h2;cases h2
   ·rename_i c3
    rw[if_neg c3]at h2
    split at h1
    ·cases h1
    ·rename_i c4
     rw[if_neg c4]at h2
     exact walk_false ho f _ _ (ho.lk ⟨q.node,0⟩ (Net.has0 hq) id).1 h1 h2 c4
theorem next_true {n:Net}(ho:n.Ok){p:Port}(hp:n.has p)(hr:n.Reach p.node)(h1:(n.next p).2.1=true)(h2:(n.next p).2.2=0):∃ j x y,Meet n (n.next p).1 j x y∧n.Reach (n.next p).1 :=
 walk_true ho _ _ _ (ho.lk p hp id).1 (hr.pr hp) h1 h2
theorem next_slot0 {n:Net}{p:Port}(h:(n.pr p).slot=0):n.next p=((n.pr p).node,false,0):=by
 unfold Net.next Net.walk
 rw[if_neg (by simp),if_pos h]
theorem next_false {n:Net}(ho:n.Ok){p:Port}(hp:n.has p)(h1:(n.next p).2.1=false)(h2:(n.next p).2.2=0):n.pr p=⟨(n.next p).1,0⟩:=by
 by_cases hs:(n.pr p).slot=0
 ·rw[next_slot0 hs]
  exact Port.ext' rfl hs
 ·exact (walk_false ho _ _ _ (ho.lk p hp id).1 h1 h2 hs).elim
theorem head_ok (h:Std pg):∀ (l:Nat) {n:Net} {path:List Nat} {p:Port},n.Ok→Spine n path p→HeadOK pg stepN l n p∧Same n (hRn stepN l n p).1∧((hRn stepN l n p).2.2.2=0→(hRn stepN l n p).1.pr p=⟨(hRn stepN l n p).2.2.1,0⟩)∧(hRn stepN l n p).2.1.length≤l
 |0,n,path,p,ho,hs=>by
  refine ⟨⟨ho,hs.has ho⟩,?_,fun he=>?_,?_⟩
  ·unfold hRn
   split
   ·exact .refl ho
   ·split<;>exact .refl ho
  ·unfold hRn at he ⊢
   split at he
   ·rename_i c;exact absurd he c
   ·rename_i c
    rw[if_neg c]
    split at he
    ·rename_i c2
     rw[if_pos c2]
     exact next_false ho (hs.has ho) c2 (by omega)
    ·cases he
  ·unfold hRn
   split
   ·simp
   ·split<;>simp
 |l+1,n,path,p,ho,hs=>by
  have hp:=hs.has ho
  by_cases c1:(n.next p).2.2=0
  ·cases c2:(n.next p).2.1 with
   |false =>
    have hr:hRn stepN (l+1) n p=(n,[],(n.next p).1,0):=by simp[hRn,c1,c2]
    rw[hr]
    exact ⟨⟨ho,hp,fun _ e=>by rw[c2]at e;cases e⟩,.refl ho,fun _=>next_false ho hp c2 c1,by simp⟩
   |true =>
    obtain ⟨j,x,y,hm,hri⟩:=next_true ho hp (hs.reach ho) c2 c1
    obtain ⟨st,sm⟩:=stepN_spec h hm hri
    by_cases c3:(stepN n (n.next p).1).2.2=0
    ·have hsm:=sm c3
     obtain ⟨b1,b2,b3,b4⟩:=head_ok h l hsm.ok (hsm.spine _ _ hs)
     have hr:hRn stepN (l+1) n p=((hRn stepN l (stepN n (n.next p).1).1 p).1,(stepN n (n.next p).1).2.1.kind::(hRn stepN l (stepN n (n.next p).1).1 p).2.1,(hRn stepN l (stepN n (n.next p).1).1 p).2.2):=by
      conv=>lhs;unfold hRn
      rw[if_neg (by simpa using c1),if_neg (by rw[c2];simp),if_neg (by simpa using c3)]
     rw[hr]
     exact ⟨⟨ho,hp,fun _ _=>⟨st,fun _=>b1⟩⟩,hsm.trans b2,b3,by simpa using b4⟩
    ·have hr:hRn stepN (l+1) n p=(n,[],0,(stepN n (n.next p).1).2.2):=by
      conv=>lhs;unfold hRn
      rw[if_neg (by simpa using c1),if_neg (by rw[c2];simp),if_pos (by simpa using c3)]
     rw[hr]
     exact ⟨⟨ho,hp,fun _ _=>⟨st,fun e=>absurd e c3⟩⟩,.refl ho,fun e=>absurd e c3,by simp⟩
  ·have hr:hRn stepN (l+1) n p=(n,[],0,(n.next p).2.2):=by simp[hRn,c1]
   rw[hr]
   exact ⟨⟨ho,hp,fun e=>absurd e c1⟩,.refl ho,fun e=>absurd e c1,by simp⟩
theorem head_more {step:StepF}:∀ (l l':Nat) {n:Net} {p:Port},(hRn step l n p).2.2.2=0→(hRn step l n p).2.1.length≤l'→hRn step l' n p=hRn step l n p
 |l,l',n,p,he,hl=>by
  by_cases c1:(n.next p).2.2=0
  ·cases c2:(n.next p).2.1 with
   |false =>
    have hr:∀ k,hRn step k n p=(n,[],(n.next p).1,0):=fun k=>by cases k<;>simp[hRn,c1,c2]
    rw[hr,hr]
   |true =>
    cases l with
    |zero=>simp[hRn,c1,c2]at he
    |succ l =>
     by_cases c3:(step n (n.next p).1).2.2=0
     ·have hr:∀ k,hRn step (k+1) n p=((hRn step k (step n (n.next p).1).1 p).1,(step n (n.next p).1).2.1.kind::(hRn step k (step n (n.next p).1).1 p).2.1,(hRn step k (step n (n.next p).1).1 p).2.2):=fun k=>by
       conv=>lhs;unfold hRn
       rw[if_neg (by simpa using c1),if_neg (by rw[c2];simp),if_neg (by simpa using c3)]
      rw[hr]at he hl ⊢
      cases l' with
      |zero=>simp at hl
      |succ l' =>
       rw[hr,head_more l l' he (by simpa using hl)]
     ·have hr:hRn step (l+1) n p=(n,[],0,(step n (n.next p).1).2.2):=by
       conv=>lhs;unfold hRn
       rw[if_neg (by simpa using c1),if_neg (by rw[c2];simp),if_pos (by simpa using c3)]
      rw[hr]at he
      exact absurd he c3
  ·have hr:hRn step l n p=(n,[],0,(n.next p).2.2):=by cases l<;>simp[hRn,c1]
   rw[hr]at he
   exact absurd he c1
theorem head_less {step:StepF}:∀ (l l':Nat) {n:Net} {p:Port},(hRn step l n p).2.2.2=0→l'<(hRn step l n p).2.1.length→(hRn step l' n p).2.2.2=90
 |l,l',n,p,he,hl=>by
  by_cases c1:(n.next p).2.2=0
  ·cases c2:(n.next p).2.1 with
   |false =>
    have hr:∀ k,hRn step k n p=(n,[],(n.next p).1,0):=fun k=>by cases k<;>simp[hRn,c1,c2]
    rw[hr]at hl
    simp at hl
   |true =>
    cases l' with
    |zero=>simp[hRn,c1,c2]
    |succ l' =>
     cases l with
     |zero=>simp[hRn,c1,c2]at he
     |succ l =>
      by_cases c3:(step n (n.next p).1).2.2=0
      ·have hr:∀ k,hRn step (k+1) n p=((hRn step k (step n (n.next p).1).1 p).1,(step n (n.next p).1).2.1.kind::(hRn step k (step n (n.next p).1).1 p).2.1,(hRn step k (step n (n.next p).1).1 p).2.2):=fun k=>by
        conv=>lhs;unfold hRn
        rw[if_neg (by simpa using c1),if_neg (by rw[c2];simp),if_neg (by simpa using c3)]
       rw[hr]at he hl ⊢
       exact head_less l l' he (by simpa using hl)
      ·have hr:hRn step (l+1) n p=(n,[],0,(step n (n.next p).1).2.2):=by
        conv=>lhs;unfold hRn
        rw[if_neg (by simpa using c1),if_neg (by rw[c2];simp),if_pos (by simpa using c3)]
       rw[hr]at he
       exact absurd he c3
  ·have hr:hRn step l n p=(n,[],0,(n.next p).2.2):=by cases l<;>simp[hRn,c1]
   rw[hr]at he
   exact absurd he c1
theorem Spine.uniq {n:Net}(ho:n.Ok){l:List Nat}{p:Port}(h:Spine n l p):∀ {l':List Nat} {p':Port},Spine n l' p'→p.node=p'.node→l=l':=by
 induction h with
 |root =>
  intro l' p' h' e
  cases h' with
  |root=>rfl
  |con h1 h2 h3 h4 h5 h6 =>
   exfalso
   dsimp only at e
   have:=(ho.node _ _ h3).2.2.2 e.symm
   omega
 |con h1 h2 h3 h4 h5 h6 ih =>
  intro l' p' h' e
  cases h' with
  |root =>
   exfalso
   dsimp only at e
   have:=(ho.node _ _ h3).2.2.2 e
   omega
  |con g1 g2 g3 g4 g5 g6 =>
   dsimp only at e
   subst e
   have e1:=(ho.lk _ (h1.has ho) id).2.2.1
   have e2:=(ho.lk _ (g1.has ho) id).2.2.1
   rw[h2]at e1
   rw[g2,e1]at e2
   rw[ih g1 (by rw[e2])]
theorem Spine.sub {n:Net}{l:List Nat}{p:Port}(h:Spine n l p):∀ c,c∈l→∃ l' p',Spine n l' p'∧p'.node=c∧l' <:+ l:=by
 induction h with
 |root=>intro c hc;rw[List.mem_singleton]at hc;subst hc;exact ⟨_,_,.root,rfl,List.suffix_refl _⟩
 |con h1 h2 h3 h4 h5 h6 ih =>
  intro c hc
  rcases List.mem_cons.1 hc with rfl|hc
  ·exact ⟨_,_,.con h1 h2 h3 h4 h5 h6,rfl,List.suffix_refl _⟩
  ·obtain ⟨l',p',a1,a2,a3⟩:=ih c hc
   exact ⟨l',p',a1,a2,a3.trans (List.suffix_cons _ _)⟩
theorem Spine.nodup {n:Net}(ho:n.Ok){l:List Nat}{p:Port}(h:Spine n l p):l.Nodup∧∀ c,c∈l→c<n.nodes.length:=by
 induction h with
 |root=>exact ⟨by simp,fun c hc=>by rw[List.mem_singleton]at hc;subst hc;exact ho.len.1⟩
 |con h1 h2 h3 h4 h5 h6 ih =>
  refine ⟨List.nodup_cons.2 ⟨fun hm=>?_,ih.1⟩,fun c hc=>?_⟩
  ·obtain ⟨l',p',a1,a2,a3⟩:=h1.sub _ hm
   have e:=(Spine.con h1 h2 h3 h4 h5 h6).uniq ho a1 a2.symm
   have:=a3.length_le
   rw[← e]at this
   simp at this
   omega
  ·rcases List.mem_cons.1 hc with rfl|hc
   ·exact (gE h3).1
   ·exact ih.2 c hc
theorem Spine.short {n:Net}(ho:n.Ok){l:List Nat}{p:Port}(h:Spine n l p):l.length≤4000:=by
 have h1:=h.nodup ho
 have h2:=nodup_len h1.1 h1.2
 have:=ho.len
 have:=ho.cap
 omega
inductive Rd (n:Net):Port→Shape→Prop
 |int {p:Port} {i:Nat} {x:Node}:n.pr p=⟨i,0⟩→n.nodes[i]?=some x→x.kind=10→Rd n p (.mk 1 x.n [] [])
 |lam {p:Port} {i:Nat} {x:Node}:n.pr p=⟨i,0⟩→n.nodes[i]?=some x→x.kind=2→Rd n p (.mk 3 0 [] [])
 |fail {p:Port} {i:Nat} {x:Node}:n.pr p=⟨i,0⟩→n.nodes[i]?=some x→x.kind=13→Rd n p (.mk 4 0 [] [])
 |con {p:Port} {i:Nat} {x:Node} {l:List Shape}:n.pr p=⟨i,0⟩→n.nodes[i]?=some x→x.kind=8→l.length=x.to.length-1→(∀ (k:Nat) (s:Shape),l[k]?=some s→Rd n ⟨i,k+1⟩ s)→Rd n p (.mk 2 0 x.name l)
theorem Rd.same {n m:Net}(hs:Same n m){p:Port}{s:Shape}(h:Rd n p s):∀ {l:List Nat},Spine n l p→Rd m p s:=by
 induction h with
 |int h1 h2 h3 =>
  intro l hp
  obtain ⟨a1,a2⟩:=hs.pr _ _ _ hp h1
  obtain ⟨y,b1,b2⟩:=a2 _ h2 (by omega)
  have b3:=Node.bare_ok b2
  rw[← b3.2.2.2.2.2.2.1]
  exact .int a1 b1 (by rw[b3.2.2.1];exact h3)
 |lam h1 h2 h3 =>
  intro l hp
  obtain ⟨a1,a2⟩:=hs.pr _ _ _ hp h1
  obtain ⟨y,b1,b2⟩:=a2 _ h2 (by omega)
  exact .lam a1 b1 (by rw[(Node.bare_ok b2).2.2.1];exact h3)
 |fail h1 h2 h3 =>
  intro l hp
  obtain ⟨a1,a2⟩:=hs.pr _ _ _ hp h1
  obtain ⟨y,b1,b2⟩:=a2 _ h2 (by omega)
  exact .fail a1 b1 (by rw[(Node.bare_ok b2).2.2.1];exact h3)
 |con h1 h2 h3 h4 h5 ih =>
  intro l hp
  obtain ⟨a1,a2⟩:=hs.pr _ _ _ hp h1
  obtain ⟨y,b1,b2⟩:=a2 _ h2 (by omega)
  have b3:=Node.bare_ok b2
  rw[← b3.2.2.2.2.2.2.2]
  refine .con a1 b1 (by rw[b3.2.2.1];exact h3) (by rw[b3.2.2.2.1];exact h4) (fun k s hk=>ih k s hk (.con hp h1 h2 h3 (by omega) ?_))
  have:=(gE hk).1
  omega
structure RInv (F:Nat)(s t:RS):Prop where
 same:Same s.net t.net
 ok:RSok F t
 d:s.d≤t.d
 sum:s.T.sum=s.d→t.T.sum=t.d
theorem RInv.trans {F:Nat}{s t u:RS}(h:RInv F s t)(h':RInv F t u):RInv F s u:=⟨h.same.trans h'.same,h'.ok,Nat.le_trans h.d h'.d,fun e=>h'.sum (h.sum e)⟩
theorem RInv.refl {F:Nat}{s:RS}(ho:s.net.Ok)(h:RSok F s):RInv F s s:=⟨.refl ho,h,Nat.le_refl _,id⟩
theorem parts_ok {F:Nat}{D:Bool}{i L:Nat}{path:List Nat}{f:Nat}
  (ih:∀ {s:RS} {p:Port},s.net.Ok→Spine s.net path p→RSok F s→ShapeOK pg stepN F D f s p∧RInv F s (sRn stepN F D f s p).1∧(D=true→(sRn stepN F D f s p).2.1=0→Rd (sRn stepN F D f s p).1.net p (sRn stepN F D f s p).2.2)) :
  ∀ (c k:Nat) {s:RS},s.net.Ok→(∀ j,1≤j→j<L→Spine s.net path ⟨i,j⟩)→1≤k→k+c=L→RSok F s →
   PartsOK D (ShapeOK pg stepN F D f) (sRn stepN F D f) i c k s∧RInv F s (pRn D (sRn stepN F D f) i c k s).1∧((pRn D (sRn stepN F D f) i c k s).2.1=0→(pRn D (sRn stepN F D f) i c k s).2.2.length=c) ∧
   (D=true→(pRn D (sRn stepN F D f) i c k s).2.1=0→∀ (j:Nat) (t:Shape),(pRn D (sRn stepN F D f) i c k s).2.2[j]?=some t→Rd (pRn D (sRn stepN F D f) i c k s).1.net ⟨i,k+j⟩ t)
 |0,k,s,ho,hsp,hk,hL,hr=>⟨trivial,.refl ho hr,fun _=>rfl,fun _ _ j t hj=>by simp[pRn]at hj⟩
 |c+1,k,s,ho,hsp,hk,hL,hr=>by
  cases D with
  |false =>
   obtain ⟨a1,a2,a3,a4⟩:=parts_ok ih c (k+1) ho hsp (by omega) (by omega) hr
   simp only[pRn]
   exact ⟨trivial,a2,fun e=>by simp[a3 e],fun e=>by cases e⟩
  |true =>
   obtain ⟨b1,b2,b3⟩:=ih ho (hsp k hk (by omega)) hr
   have ho2:=b2.same.ok
   have hsp2:∀ j,1≤j→j<L→Spine (sRn stepN F true f s ⟨i,k⟩).1.net path ⟨i,j⟩:=fun j h1 h2=>b2.same.spine _ _ (hsp j h1 h2)
   obtain ⟨a1,a2,a3,a4⟩:=parts_ok ih c (k+1) ho2 hsp2 (by omega) (by omega) b2.ok
   simp only[pRn,PartsOK]
   by_cases e:(sRn stepN F true f s ⟨i,k⟩).2.1=0
   ·rw[if_neg (by simpa using e)]
    refine ⟨⟨b1,fun _=>a1⟩,b2.trans a2,fun e2=>by simp[a3 e2],fun _ e2 j t hj=>?_⟩
    cases j with
    |zero =>
     simp only[List.getElem?_cons_zero,Option.some.injEq]at hj
     subst hj
     exact (b3 rfl e).same a2.same (hsp2 k hk (by omega))
    |succ j =>
     simp only[List.getElem?_cons_succ]at hj
     have:=a4 rfl e2 j t hj
     rw[show k+(j+1)=k+1+j from by omega]
     exact this
   ·rw[if_pos (by simpa using e)]
    exact ⟨⟨b1,fun e'=>absurd e' e⟩,b2,fun e2=>absurd e2 e,fun _ e2=>absurd e2 e⟩
theorem after_ok (h:Std pg){F:Nat}{s:RS}{path:List Nat}{p:Port}(ho:s.net.Ok)(hs:Spine s.net path p)(hr:RSok F s):RInv F s (afterHead (hRn stepN (F-s.d) s.net p) s):=by
 obtain ⟨h1,h2,h3,h4⟩:=head_ok h (F-s.d) ho hs
 obtain ⟨k1,k2⟩:=headRun_kinds _ _ h1
 obtain ⟨r1,r2,r3⟩:=hr
 refine ⟨h2,⟨?_,?_,?_⟩,?_,fun e=>?_⟩
 ·show s.d+_≤F;omega
 ·show (List.foldl bump s.T _).length=9;rw[foldl_bump_len];exact r2
 ·intro k hk
  have:=fold_le (hRn stepN (F-s.d) s.net p).2.1 s.T (B:=s.d+1) (fun a ha=>by have:=r3 a ha;omega) (by omega) k hk
  show k≤s.d+_;omega
 ·show s.d≤s.d+_;omega
 ·show (List.foldl bump s.T _).sum=s.d+_
  rw[fold_sum _ _ (fun k hk=>by have:=k1 k hk;omega),e]
theorem shape_ok (h:Std pg){F:Nat}{D:Bool}:∀ (f:Nat) {s:RS} {path:List Nat} {p:Port},s.net.Ok→Spine s.net path p→4000<path.length+f→RSok F s →
  ShapeOK pg stepN F D f s p∧RInv F s (sRn stepN F D f s p).1∧(D=true→(sRn stepN F D f s p).2.1=0→Rd (sRn stepN F D f s p).1.net p (sRn stepN F D f s p).2.2)
 |0,s,path,p,ho,hs,hl,hr=>by have:=hs.short ho;omega
 |f+1,s,path,p,ho,hs,hl,hr=>by
  obtain ⟨h1,h2,h3,h4⟩:=head_ok h (F-s.d) ho hs
  have ha:=after_ok h ho hs hr
  by_cases he:(hRn stepN (F-s.d) s.net p).2.2.2=0
  ·have hpr:=h3 he
   have hpm:=(h2.ok.lk _ ((h2.spine _ _ hs).has h2.ok) id).1
   rw[hpr]at hpm
   obtain ⟨x,hx,hx0,hxk⟩:=Net.has_kind h2.ok hpm
   dsimp only at hx hx0
   have hxl:=Node.ports_le (h2.ok.node _ _ hx).1 (h2.ok.node _ _ hx).2.1
   have hrun:sRn stepN F D (f+1) s p=shapeOf D (sRn stepN F D f) (afterHead (hRn stepN (F-s.d) s.net p) s) (hRn stepN (F-s.d) s.net p).2.2.1:=by
    simp only[sRn];rw[if_neg (by simpa using he)]
   have hpart:=fun (hk8:x.kind=8)=>parts_ok (pg:=pg) (F:=F) (D:=D) (i:=(hRn stepN (F-s.d) s.net p).2.2.1) (L:=x.to.length) (path:=(hRn stepN (F-s.d) s.net p).2.2.1::path) (f:=f)
    (fun {s'} {p'} o1 o2 o3=>shape_ok h f o1 o2 (by simp only[List.length_cons];omega) o3) (x.to.length-1) 1 (s:=afterHead (hRn stepN (F-s.d) s.net p) s) ha.same.ok
    (fun j j1 j2=>.con (h2.spine _ _ hs) hpr hx hk8 j1 j2) (by omega) (by omega) ha.ok
   rw[hrun]
   refine ⟨⟨hr,h1,fun _=>⟨x,hx,by omega,fun hk8=>⟨by omega,(hpart hk8).1⟩⟩⟩,?_⟩
   have hxn:(afterHead (hRn stepN (F-s.d) s.net p) s).net.nodes[(hRn stepN (F-s.d) s.net p).2.2.1]?=some x:=hx
   have hpr':(afterHead (hRn stepN (F-s.d) s.net p) s).net.pr p=⟨(hRn stepN (F-s.d) s.net p).2.2.1,0⟩:=hpr
   have hs':Spine (afterHead (hRn stepN (F-s.d) s.net p) s).net path p:=h2.spine _ _ hs
   clear h1 h2 h3 h4
   generalize (hRn stepN (F-s.d) s.net p).2.2.1=i at *
   generalize (afterHead (hRn stepN (F-s.d) s.net p) s)=s2 at *
   unfold shapeOf
   rw[hxn]
   dsimp only
   split
   ·rename_i k;exact ⟨ha,fun _ _=>.int hpr' hxn k⟩
   ·split
    ·rename_i k;exact ⟨ha,fun _ _=>.lam hpr' hxn k⟩
    ·split
     ·rename_i k;exact ⟨ha,fun _ _=>.fail hpr' hxn k⟩
     ·split
      ·rename_i k
       obtain ⟨a1,a2,a3,a4⟩:=hpart k
       split
       ·rename_i e
        exact ⟨ha.trans a2,fun _ e'=>absurd e' e⟩
       ·rename_i e
        have e:(pRn D (sRn stepN F D f) i (x.to.length-1) 1 s2).2.1=0:=by omega
        refine ⟨ha.trans a2,fun hD _=>?_⟩
        obtain ⟨b1,b2⟩:=a2.same.pr _ _ _ hs' hpr'
        obtain ⟨y,c1,c2⟩:=b2 _ hxn hxk
        have c3:=Node.bare_ok c2
        rw[← c3.2.2.2.2.2.2.2]
        refine .con b1 c1 (by rw[c3.2.2.1];exact k) (by rw[c3.2.2.2.1];exact a3 e) (fun j t hj=>?_)
        have:=a4 hD e j t hj
        rw[show j+1=1+j from by omega]
        exact this
      ·exact ⟨ha,fun _ e=>by cases e⟩
  ·have hrun:sRn stepN F D (f+1) s p=(afterHead (hRn stepN (F-s.d) s.net p) s,(hRn stepN (F-s.d) s.net p).2.2.2,.zero):=by
    simp only[sRn];rw[if_pos (by simpa using he)]
   rw[hrun]
   exact ⟨⟨hr,h1,fun e=>absurd e he⟩,ha,fun _ e=>absurd e he⟩
theorem head_done {step:StepF}{n:Net}{p:Port}{i:Nat}(h:n.pr p=⟨i,0⟩)(l:Nat):hRn step l n p=(n,[],i,0):=by
 have hn:=next_slot0 (n:=n) (p:=p) (by rw[h])
 rw[h]at hn
 cases l<;>simp[hRn,hn]
theorem parts_again {step:StepF}{F f i:Nat}{s:RS}:∀ (l:List Shape) (k:Nat),(∀ (j:Nat) (t:Shape),l[j]?=some t→sRn step F true f s ⟨i,k+j⟩=(s,0,t))→pRn true (sRn step F true f) i l.length k s=(s,0,l)
 |[],k,h=>rfl
 |a::r,k,h=>by
  have h0:=h 0 a rfl
  have ih:=parts_again (step:=step) (F:=F) (f:=f) (i:=i) (s:=s) r (k+1) (fun j t hj=>by
   have:=h (j+1) t hj
   rw[show k+1+j=k+(j+1) from by omega]
   exact this)
  simp only[List.length_cons,pRn]
  rw[show k+0=k from rfl]at h0
  rw[h0]
  simp[ih]
theorem Rd.again {step:StepF}{F:Nat}{s:RS}(ho:s.net.Ok){p:Port}{t:Shape}(h:Rd s.net p t):∀ {path:List Nat} {f:Nat},Spine s.net path p→4000<path.length+f→sRn step F true f s p=(s,0,t):=by
 have key:∀ {p:Port} {i f:Nat},s.net.pr p=⟨i,0⟩→sRn step F true (f+1) s p=shapeOf true (sRn step F true f) s i:=by
  intro p i f hp
  simp only[sRn]
  rw[head_done hp]
  rw[if_neg (by simp)]
  rfl
 induction h with
 |int h1 h2 h3 =>
  intro path f hs hl
  cases f with
  |zero=>have:=hs.short ho;omega
  |succ f=>rw[key h1];unfold shapeOf;rw[h2];dsimp only;rw[if_pos h3]
 |lam h1 h2 h3 =>
  intro path f hs hl
  cases f with
  |zero=>have:=hs.short ho;omega
  |succ f=>rw[key h1];unfold shapeOf;rw[h2];dsimp only;rw[if_neg (by omega),if_pos h3]
 |fail h1 h2 h3 =>
  intro path f hs hl
  cases f with
  |zero=>have:=hs.short ho;omega
  |succ f=>rw[key h1];unfold shapeOf;rw[h2];dsimp only;rw[if_neg (by omega),if_neg (by omega),if_pos h3]
 |con h1 h2 h3 h4 h5 ih =>
  intro path f hs hl
  cases f with
  |zero=>have:=hs.short ho;omega
  |succ f =>
   rw[key h1]
   unfold shapeOf
   rw[h2]
   dsimp only
   rw[if_neg (by omega),if_neg (by omega),if_neg (by omega),if_pos h3,← h4]
   have hp:=parts_again (step:=step) (F:=F) (f:=f) (i:=_) (s:=s) _ 1 (fun j t hj=>by
    rw[show 1+j=j+1 from by omega]
    exact ih j t hj (.con hs h1 h2 h3 (by omega) (by have:=(gE hj).1;omega)) (by simp only[List.length_cons];omega))
   rw[hp]
   simp
mutual
def Shape.isLazy:Shape→Bool
 |.mk k _ _ l=>Shape.anyLazy l || decide (k=5)
def Shape.anyLazy:List Shape→Bool
 |[]=>false
 |a::r=>a.isLazy || Shape.anyLazy r
end
theorem anyLazy_false:∀ (l:List Shape),(∀ (k:Nat) (s:Shape),l[k]?=some s→s.isLazy=false)→Shape.anyLazy l=false
 |[],h=>rfl
 |a::r,h=>by
  unfold Shape.anyLazy
  rw[h 0 a rfl,anyLazy_false r (fun k s hk=>h (k+1) s hk)]
  rfl
theorem Rd.lazy {n:Net}{p:Port}{t:Shape}(h:Rd n p t):t.isLazy=false:=by
 induction h with
 |int h1 h2 h3=>rfl
 |lam h1 h2 h3=>rfl
 |fail h1 h2 h3=>rfl
 |con h1 h2 h3 h4 h5 ih=>unfold Shape.isLazy;rw[anyLazy_false _ ih];rfl
theorem parts_d {D:Bool}{rd:RS→Port→RS×Nat×Shape}(hrd:∀ s p,s.d≤(rd s p).1.d)(i:Nat):∀ (c k:Nat) (s:RS),s.d≤(pRn D rd i c k s).1.d
 |0,k,s=>Nat.le_refl _
 |c+1,k,s=>by
  cases D with
  |false=>exact parts_d hrd i c (k+1) s
  |true =>
   simp only[pRn]
   split
   ·exact hrd s _
   ·exact Nat.le_trans (hrd s _) (parts_d hrd i c (k+1) _)
theorem after_d {R:Net×List Nat×Nat×Nat}{s:RS}:(afterHead R s).d=s.d+R.2.1.length:=rfl
theorem shapeOf_d {D:Bool}{rd:RS→Port→RS×Nat×Shape}(hrd:∀ s p,s.d≤(rd s p).1.d)(s:RS)(i:Nat):s.d≤(shapeOf D rd s i).1.d:=by
 unfold shapeOf
 split
 ·exact Nat.le_refl _
 ·split
  ·exact Nat.le_refl _
  ·split
   ·exact Nat.le_refl _
   ·split
    ·exact Nat.le_refl _
    ·split
     ·split
      ·exact parts_d hrd _ _ _ _
      ·exact parts_d hrd _ _ _ _
     ·exact Nat.le_refl _
theorem shape_d {step:StepF}{F:Nat}{D:Bool}:∀ (f:Nat) (s:RS) (p:Port),s.d≤(sRn step F D f s p).1.d
 |0,s,p=>Nat.le_refl _
 |f+1,s,p=>by
  have h0:s.d≤(afterHead (hRn step (F-s.d) s.net p) s).d:=by rw[after_d];omega
  simp only[sRn]
  split
  ·exact h0
  ·exact Nat.le_trans h0 (shapeOf_d (fun s p=>shape_d f s p) _ _)
theorem parts_more {D:Bool}{rd rd':RS→Port→RS×Nat×Shape}(hd:∀ s p,s.d≤(rd s p).1.d){F' i:Nat}(hrd:∀ s p,(rd s p).2.1=0→(rd s p).1.d≤F'→rd' s p=rd s p):∀ (c k:Nat) (s:RS),(pRn D rd i c k s).2.1=0→(pRn D rd i c k s).1.d≤F'→pRn D rd' i c k s=pRn D rd i c k s
 |0,k,s,_,_=>rfl
 |c+1,k,s,he,hF=>by
  cases D with
  |false =>
   simp only[pRn]at he hF ⊢
   rw[parts_more hd hrd c (k+1) s he hF]
  |true =>
   simp only[pRn]at he hF ⊢
   by_cases e:(rd s ⟨i,k⟩).2.1=0
   ·rw[if_neg (by simpa using e)]at he hF
    dsimp only at he hF
    have h1:=parts_d (D:=true) hd i c (k+1) (rd s ⟨i,k⟩).1
    have h2:=hrd s ⟨i,k⟩ e (by omega)
    rw[h2,if_neg (by simpa using e),if_neg (by simpa using e),parts_more hd hrd c (k+1) _ he hF]
   ·rw[if_pos (by simpa using e)]at he
    exact absurd he e
theorem shape_more {step:StepF}{F F':Nat}{D:Bool}:∀ (f:Nat) (s:RS) (p:Port),(sRn step F D f s p).2.1=0→(sRn step F D f s p).1.d≤F'→sRn step F' D f s p=sRn step F D f s p
 |0,s,p,he,hF=>by simp[sRn]at he
 |f+1,s,p,he,hF=>by
  simp only[sRn]at he hF ⊢
  by_cases e:(hRn step (F-s.d) s.net p).2.2.2=0
  ·rw[if_neg (by simpa using e)]at he hF
   have h1:=shapeOf_d (D:=D) (fun s p=>shape_d (step:=step) (F:=F) (D:=D) f s p) (afterHead (hRn step (F-s.d) s.net p) s) (hRn step (F-s.d) s.net p).2.2.1
   rw[after_d]at h1
   have h2:=head_more (step:=step) (F-s.d) (F'-s.d) e (by omega)
   rw[h2,if_neg (by simpa using e),if_neg (by simpa using e)]
   generalize (hRn step (F-s.d) s.net p).2.2.1=i at *
   generalize (afterHead (hRn step (F-s.d) s.net p) s)=s2 at *
   unfold shapeOf at he hF ⊢
   split
   ·rfl
   ·rename_i x hx
    rw[hx]at he hF
    dsimp only at he hF ⊢
    split
    ·rfl
    ·rename_i c1
     rw[if_neg c1]at he hF
     split
     ·rfl
     ·rename_i c2
      rw[if_neg c2]at he hF
      split
      ·rfl
      ·rename_i c3
       rw[if_neg c3]at he hF
       by_cases c4:x.kind=8
       ·rw[if_pos c4]at he hF
        rw[if_pos c4,if_pos c4]
        by_cases e2:(pRn D (sRn step F D f) i (x.to.length-1) 1 s2).2.1=0
        ·rw[if_neg (by simpa using e2)]at hF
         rw[parts_more (fun s p=>shape_d f s p) (fun s p h1 h2=>shape_more f s p h1 h2) _ _ _ e2 hF]
        ·rw[if_pos (by simpa using e2)]at he
         exact absurd he e2
       ·rw[if_neg c4,if_neg c4]
  ·rw[if_pos (by simpa using e)]at he
   exact absurd he e
theorem parts_less {rd rd':RS→Port→RS×Nat×Shape}{F' i:Nat}(hrd:∀ s p,(rd s p).2.1=0→(rd s p).1.d≤F'→rd' s p=rd s p)(hrl:∀ s p,(rd s p).2.1=0→s.d≤F'→F'<(rd s p).1.d→(rd' s p).2.1=90) :
  ∀ (c k:Nat) (s:RS),(pRn true rd i c k s).2.1=0→s.d≤F'→F'<(pRn true rd i c k s).1.d→(pRn true rd' i c k s).2.1=90
 |0,k,s,_,h1,h2=>by simp only[pRn]at h2;omega
 |c+1,k,s,he,h1,h2=>by
  simp only[pRn]at he h2 ⊢
  by_cases e:(rd s ⟨i,k⟩).2.1=0
  ·rw[if_neg (by simpa using e)]at he h2
   dsimp only at he h2
   by_cases hF:(rd s ⟨i,k⟩).1.d≤F'
   ·rw[hrd s ⟨i,k⟩ e hF,if_neg (by simpa using e)]
    exact parts_less hrd hrl c (k+1) _ he hF h2
   ·have:=hrl s ⟨i,k⟩ e h1 (by omega)
    rw[if_pos (by omega)]
    exact this
  ·rw[if_pos (by simpa using e)]at he
   exact absurd he e
theorem parts_flat {rd:RS→Port→RS×Nat×Shape}{i:Nat}:∀ (c k:Nat) (s:RS),pRn false rd i c k s=(s,0,List.replicate c .lazy)
 |0,k,s=>rfl
 |c+1,k,s=>by simp only[pRn];rw[parts_flat c (k+1) s];rfl
theorem shape_less {step:StepF}{F F':Nat}{D:Bool}:∀ (f:Nat) (s:RS) (p:Port),(sRn step F D f s p).2.1=0→s.d≤F'→F'<(sRn step F D f s p).1.d→(sRn step F' D f s p).2.1=90
 |0,s,p,he,h1,h2=>by simp[sRn]at he
 |f+1,s,p,he,h1,h2=>by
  simp only[sRn]at he h2 ⊢
  by_cases e:(hRn step (F-s.d) s.net p).2.2.2=0
  ·rw[if_neg (by simpa using e)]at he h2
   by_cases hF:(hRn step (F-s.d) s.net p).2.1.length≤F'-s.d
   ·rw[head_more (step:=step) (F-s.d) (F'-s.d) e hF,if_neg (by simpa using e)]
    have h3:(afterHead (hRn step (F-s.d) s.net p) s).d≤F':=by rw[after_d];omega
    generalize (hRn step (F-s.d) s.net p).2.2.1=i at *
    generalize (afterHead (hRn step (F-s.d) s.net p) s)=s2 at *
    unfold shapeOf at he h2 ⊢
    split
    ·rename_i hx;rw[hx]at he;cases he
    ·rename_i x hx
     rw[hx]at he h2
     dsimp only at he h2 ⊢
     split
     ·rename_i c1;rw[if_pos c1]at h2;dsimp only at h2;omega
     ·rename_i c1
      rw[if_neg c1]at he h2
      split
      ·rename_i c2;rw[if_pos c2]at h2;dsimp only at h2;omega
      ·rename_i c2
       rw[if_neg c2]at he h2
       split
       ·rename_i c3;rw[if_pos c3]at h2;dsimp only at h2;omega
       ·rename_i c3
        rw[if_neg c3]at he h2
        by_cases c4:x.kind=8
        ·rw[if_pos c4]at he h2
         rw[if_pos c4]
         by_cases e2:(pRn D (sRn step F D f) i (x.to.length-1) 1 s2).2.1=0
         ·rw[if_neg (by simpa using e2)]at h2
          dsimp only at h2
          cases D with
          |false=>rw[parts_flat]at h2;dsimp only at h2;omega
          |true =>
           have:(pRn true (sRn step F' true f) i (x.to.length-1) 1 s2).2.1=90:=parts_less (fun s p a1 a2=>shape_more f s p a1 a2) (fun s p a1 a2 a3=>shape_less f s p a1 a2 a3) _ _ _ e2 h3 h2
           rw[if_pos (by omega)]
           exact this
         ·rw[if_pos (by simpa using e2)]at he
          exact absurd he e2
        ·rw[if_neg c4]at h2;dsimp only at h2;omega
   ·have:=head_less (step:=step) (F-s.d) (F'-s.d) e (by omega)
    rw[if_pos (by omega)]
    exact this
  ·rw[if_pos (by simpa using e)]at he
   exact absurd he e
def rs0 (n:Net):RS:=⟨n,tally0,0⟩
def readN (n:Net)(D:Bool)(F:Nat):RS×Nat×Shape:=sRn stepN F D 4001 (rs0 n) ⟨0,0⟩
theorem readN_ok (h:Std pg){n:Net}(ho:n.Ok)(D:Bool)(F:Nat):ShapeOK pg stepN F D 4001 (rs0 n) ⟨0,0⟩∧RInv F (rs0 n) (readN n D F).1∧(D=true→(readN n D F).2.1=0→Rd (readN n D F).1.net ⟨0,0⟩ (readN n D F).2.2) :=
 shape_ok h 4001 (s:=rs0 n) (p:=⟨0,0⟩) ho .root (by simp) ⟨Nat.zero_le _,rfl,by simp[rs0,tally0]⟩
theorem readN_sum (h:Std pg){n:Net}(ho:n.Ok)(D:Bool)(F:Nat):(readN n D F).1.T.sum=(readN n D F).1.d∧(readN n D F).1.d≤F:=by
 obtain ⟨_,h2,_⟩:=readN_ok h ho D F
 exact ⟨h2.sum rfl,h2.ok.1⟩
theorem readN_more {n:Net}{D:Bool}{F F':Nat}(he:(readN n D F).2.1=0)(hF:(readN n D F).1.d≤F'):readN n D F'=readN n D F:=shape_more _ _ _ he hF
theorem readN_less {n:Net}{D:Bool}{F F':Nat}(he:(readN n D F).2.1=0)(hF:F'<(readN n D F).1.d):(readN n D F').2.1=90:=shape_less _ _ _ he (Nat.zero_le _) hF
theorem readN_again (h:Std pg){n:Net}(ho:n.Ok){F:Nat}(he:(readN n true F).2.1=0):readN (readN n true F).1.net true 0=(rs0 (readN n true F).1.net,0,(readN n true F).2.2)∧(readN n true F).2.2.isLazy=false:=by
 obtain ⟨_,h2,h3⟩:=readN_ok h ho true F
 have hr:=h3 rfl he
 exact ⟨Rd.again (s:=rs0 (readN n true F).1.net) h2.same.ok hr .root (by simp),hr.lazy⟩
def Shape.kind:Shape→Nat
 |.mk k _ _ _=>k
def Shape.n:Shape→Int
 |.mk _ n _ _=>n
def Shape.name:Shape→List UInt8
 |.mk _ _ s _=>s
def Shape.parts:Shape→List Shape
 |.mk _ _ _ l=>l
theorem parts_length {rd:RS→Port→RS×Nat×Shape}{i:Nat}:∀ (c k:Nat) (s:RS),(pRn true rd i c k s).2.1=0→(pRn true rd i c k s).2.2.length=c
 |0,k,s,_=>rfl
 |c+1,k,s,h=>by
  simp only[pRn]at h ⊢
  split at h
  ·rename_i e;exact absurd h e
  ·rename_i e
   rw[if_neg e]
   simp only[List.length_cons]
   rw[parts_length c (k+1) _ h]
theorem shapeRun_succ (step:StepF)(F:Nat)(D:Bool)(f:Nat)(s:RS)(p:Port):sRn step F D (f+1) s p=if (hRn step (F-s.d) s.net p).2.2.2≠0 then (afterHead (hRn step (F-s.d) s.net p) s,(hRn step (F-s.d) s.net p).2.2.2,.zero) else
  shapeOf D (sRn step F D f) (afterHead (hRn step (F-s.d) s.net p) s) (hRn step (F-s.d) s.net p).2.2.1:=rfl
theorem readN_flat {n:Net}{F:Nat}:(readN n false F).1.d≤(readN n true F).1.d∧((readN n true F).2.1=0→(readN n false F).2.1=0∧(readN n true F).2.2.kind=(readN n false F).2.2.kind∧(readN n true F).2.2.name=(readN n false F).2.2.name∧(readN n true F).2.2.n=(readN n false F).2.2.n∧(readN n true F).2.2.parts.length=(readN n false F).2.2.parts.length):=by
 unfold readN
 rw[show (4001:Nat)=4000+1 from rfl,shapeRun_succ,shapeRun_succ]
 by_cases e:(hRn stepN (F-(rs0 n).d) (rs0 n).net ⟨0,0⟩).2.2.2=0
 ·rw[if_neg (by simpa using e),if_neg (by simpa using e)]
  generalize (hRn stepN (F-(rs0 n).d) (rs0 n).net ⟨0,0⟩).2.2.1=i at *
  generalize (afterHead (hRn stepN (F-(rs0 n).d) (rs0 n).net ⟨0,0⟩) (rs0 n))=s2 at *
  have hd:=shapeOf_d (D:=true) (fun s p=>shape_d (step:=stepN) (F:=F) (D:=true) 4000 s p) s2 i
  have hd2:(shapeOf false (sRn stepN F false 4000) s2 i).1=s2:=by
   unfold shapeOf
   split
   ·rfl
   ·simp only[parts_flat]
    split
    ·rfl
    ·split
     ·rfl
     ·split
      ·rfl
      ·split
       ·simp
       ·rfl
  refine ⟨by rw[hd2];exact hd,fun he=>?_⟩
  unfold shapeOf at he ⊢
  split
  ·rename_i hx;rw[hx]at he;cases he
  ·rename_i x hx
   rw[hx]at he
   dsimp only at he ⊢
   simp only[parts_flat]
   split
   ·exact ⟨rfl,rfl,rfl,rfl,rfl⟩
   ·rename_i c1
    rw[if_neg c1]at he
    split
    ·exact ⟨rfl,rfl,rfl,rfl,rfl⟩
    ·rename_i c2
     rw[if_neg c2]at he
     split
     ·exact ⟨rfl,rfl,rfl,rfl,rfl⟩
     ·rename_i c3
      rw[if_neg c3]at he
      split
      ·rename_i c4
       rw[if_pos c4]at he
       by_cases e2:(pRn true (sRn stepN F true 4000) i (x.to.length-1) 1 s2).2.1=0
       ·simp[Shape.kind,Shape.name,Shape.n,Shape.parts,e2,parts_length _ _ _ e2]
       ·rw[if_pos (by simpa using e2)]at he
        exact absurd he e2
      ·rename_i c4
       rw[if_neg c4]at he
       cases he
 ·rw[if_pos (by simpa using e),if_pos (by simpa using e)]
  exact ⟨Nat.le_refl _,fun he=>absurd he e⟩
end Go.Proofs.Z
end
section
namespace Go.Proofs.Z
open Go Go.Proofs
attribute [local simp] k_nil k_ops k_opsg kG_true kG_false kO_val kO_pan k_seq kS_n kS_r kS_e kS_p k_o kR_n kR_p kD2_n kD1_n k_d k_c kC_t kC_f k_b kB_n kB_r kB_p kB_e k_skip k_ret k_exit k_l kL_s kLp_n kLp_r kLp_e kLp_p k_f kF_n kF_r kF_p kV_f kV_t kN_s evOp evBin gOK opd opds lk put restr iEv evRes whole norm normL one Out.below below belowL bOb evStore evLoad evLen AV.cells AV.flat PV.flat splice fillAt pcs isStr rowsOf Res.of evCmp lvE leafEq asInt noIdAt noId noIdL tids chkOK
variable {pg:Prg}{G:Heap}
inductive Tm where
 |mk (k n:Int) (name:List UInt8) (l:List Tm)
 deriving Inhabited
mutual
def Tm.enc:Tm→List PV
 |.mk k n s l=>[iv k,iv n,.s s,.sl (Tm.encL l)]
def Tm.encL:List Tm→List (List PV)
 |[]=>[]
 |a::r=>a.enc::Tm.encL r
end
theorem Tm.encL_map:∀ l:List Tm,Tm.encL l=l.map Tm.enc
 |[]=>rfl
 |a::r=>by simp[Tm.encL,Tm.encL_map r]
theorem Tm.ind {P:Tm→Prop}(h:∀ k n s l,(∀ t∈l,P t)→P (.mk k n s l)):∀ t,P t
 |.mk k n s l=>h k n s l (fun t ht=>Tm.ind h t)
theorem Tm.okRow (t:Tm):okRow 4 t.enc=true:=by
 cases t;simp[Tm.enc,Z.okRow,PV.flat]
theorem Tm.okRows (l:List Tm):okRows 4 (l.map Tm.enc)=true:=okRows_enc Tm.okRow l
inductive Tm.Fit:Tm→Prop
 |mk {k n s l}:l.length<2 ^ 60→(∀ t∈l,Tm.Fit t)→Tm.Fit (.mk k n s l)
mutual
def Tm.same:Tm→Tm→Bool
 |.mk k n s l,.mk k' n' s' l'=>decide (k=k') && decide (n=n') && decide (s=s') && decide (l.length=l'.length) && Tm.sameL l l'
def Tm.sameL:List Tm→List Tm→Bool
 |a::r,b::r'=>a.same b && Tm.sameL r r'
 |_,_=>true
end
mutual
theorem Tm.same_iff:∀ {a b:Tm},a.same b=true↔a=b
 |.mk k n s l,.mk k' n' s' l'=>by
  simp only[Tm.same,Bool.and_eq_true,decide_eq_true_eq,Tm.mk.injEq]
  constructor
  ·rintro ⟨⟨⟨⟨h1,h2⟩,h3⟩,h4⟩,h5⟩
   exact ⟨h1,h2,h3,(Tm.sameL_iff h4).1 h5⟩
  ·rintro ⟨h1,h2,h3,h4⟩
   have:l.length=l'.length:=by rw[h4]
   exact ⟨⟨⟨⟨h1,h2⟩,h3⟩,this⟩,(Tm.sameL_iff this).2 h4⟩
theorem Tm.sameL_iff:∀ {a b:List Tm},a.length=b.length→(Tm.sameL a b=true↔a=b)
 |[],[],h=>by simp[Tm.sameL]
 |a::r,b::r',h=>by
  simp only[Tm.sameL,Bool.and_eq_true,List.cons.injEq]
  rw[Tm.same_iff,Tm.sameL_iff (by simpa using h)]
 |[],_::_,h=>by simp at h
 |_::_,[],h=>by simp at h
end
theorem sameL_allI (l':List Tm):∀ (l:List Tm) (i:Nat),i+l.length=l'.length→allI (fun i a=>match l'[i]? with|some b=>Tm.same a b|none=>true) i l=Tm.sameL l (l'.drop i)
 |[],i,h=>by simp[allI,Tm.sameL]
 |a::r,i,h=>by
  have hi:i<l'.length:=by simp at h;omega
  rw[List.drop_eq_getElem_cons hi]
  simp only[allI,Tm.sameL,gG hi]
  rw[sameL_allI l' r (i+1) (by simp at h;omega)]
theorem t13 (h:Std pg):∀ (a:Tm),a.Fit→∀ (b:Tm) (G:Heap),eCA pg (E pg) 13 [.ag (pcs a.enc),.ag (pcs b.enc)] G=some (.ret (.p (.b (a.same b))),G):=by
 refine Tm.ind fun k n s l ih hf b G=>?_
 obtain ⟨k',n',s',l'⟩:=b
 have hfl:l.length<2 ^ 60∧∀ t∈l,t.Fit:=by cases hf with|mk h1 h2=>exact ⟨h1,h2⟩
 refine at_pure ?_ (by simp only[Tm.enc];rfl) rfl
 rw[h.run (x:=c13) rfl (by decide) (by decide) (by decide) (by decide)]
 by_cases c1:k=k'
 rotate_left
 ·simp[c13,leave,Tm.enc,pcs,Tm.same,c1]
 by_cases c2:n=n'
 rotate_left
 ·simp[c13,leave,Tm.enc,pcs,Tm.same,c1,c2]
 by_cases c3:s=s'
 rotate_left
 ·simp[c13,leave,Tm.enc,pcs,Tm.same,c1,c2,c3]
 by_cases c4:l.length=l'.length
 rotate_left
 ·have c4':¬ (l.length:Int)=l'.length:=by omega
  simp[c13,leave,Tm.enc,pcs,Tm.same,c1,c2,c3,c4,c4',Tm.encL_map]
 subst c1 c2 c3
 have hL:=L_list (pg:=pg) (base:=0) (live:=[2,3,5]) (body:=c13l0) rfl (fun i=>[(2,.ptr 0 0),(3,.ptr 1 0),(5,.p (.i .i64 (i:Nat)))]) [.box [.p (iv k),.p (iv n),.p (.s s),.p (.sl (l.map Tm.enc))],.box [.p (iv k),.p (iv n),.p (.s s),.p (.sl (l'.map Tm.enc))]]
  [.box [.p (iv k),.p (iv n),.p (.s s),.p (.sl (l.map Tm.enc))],.box [.p (iv k),.p (iv n),.p (.s s),.p (.sl (l'.map Tm.enc))]] l 0 (fun i a=>match l'[i]? with|some b=>Tm.same a b|none=>true) [(4,.p (.b false))] [(2,.ptr 0 0),(3,.ptr 1 0),(5,.p (.i .i64 l.length)),(38,.p (.b false))]
  (fun i a hi hx hx' hp=>by
   have hi':i<l'.length:=by omega
   rw[gG hi']at hp
   dsimp only at hp
   have e1:=fun G=>ih a (List.mem_of_getElem? hx) (hfl.2 a (List.mem_of_getElem? hx)) l'[i] G
   have e2:∀ t:Tm,t.enc.length=4:=fun t=>by cases t;rfl
   have e3:∀ t:Tm,t.enc.take 4=t.enc:=fun t=>by cases t;rfl
   simp only[hp,pcs]at e1
   simp[c13l0,leave,hi,hx,hx',hi',Tm.okRow,e1,e2,e3,w64 ((i:Int)+1) (by omega) (by omega),gc,gcEnv,exp,expL,eOs,Exp.id,idxOf,List.range,List.range.loop])
  (fun i a hi hx hx' hp=>by
   have hi':i<l'.length:=by omega
   rw[gG hi']at hp
   dsimp only at hp
   have e1:=fun G=>ih a (List.mem_of_getElem? hx) (hfl.2 a (List.mem_of_getElem? hx)) l'[i] G
   have e2:∀ t:Tm,t.enc.length=4:=fun t=>by cases t;rfl
   have e3:∀ t:Tm,t.enc.take 4=t.enc:=fun t=>by cases t;rfl
   simp only[hp,pcs]at e1
   simp[c13l0,leave,hi,hx,hx',hi',Tm.okRow,e1,e2,e3])
  (by simp[c13l0,leave])
 rw[sameL_allI l' l 0 (by omega)]at hL
 simp only[show ((0:Nat):Int)=0 from rfl,List.drop_zero]at hL
 simp[c13,leave,Tm.enc,pcs,Tm.same,c4,Tm.encL_map,gc,gcEnv,exp,expL,eOs,Exp.id,idxOf,List.range,List.range.loop]
 rw[hL]
 cases Tm.sameL l l'<;>simp[leave]
mutual
def Tm.lazy:Tm→Bool
 |.mk k n s l=>Tm.lazyL l || decide (k=5)
def Tm.lazyL:List Tm→Bool
 |[]=>false
 |a::r=>a.lazy || Tm.lazyL r
end
theorem lazyL_allI:∀ (l:List Tm) (i:Nat),allI (fun _ a=>!Tm.lazy a) i l=!Tm.lazyL l
 |[],i=>rfl
 |a::r,i=>by simp[allI,Tm.lazyL,lazyL_allI r (i+1)]
theorem t15 (h:Std pg):∀ (a:Tm),a.Fit→∀ (G:Heap),eCA pg (E pg) 15 [.ag (pcs a.enc)] G=some (.ret (.p (.b a.lazy)),G):=by
 refine Tm.ind fun k n s l ih hf G=>?_
 have hfl:l.length<2 ^ 60∧∀ t∈l,t.Fit:=by cases hf with|mk h1 h2=>exact ⟨h1,h2⟩
 refine at_pure ?_ (by simp only[Tm.enc];rfl) rfl
 rw[h.run (x:=c15) rfl (by decide) (by decide) (by decide) (by decide)]
 have hL:=L_list (pg:=pg) (base:=0) (live:=[1,3]) (body:=c15l0) rfl (fun i=>[(1,.ptr 0 0),(3,.p (.i .i64 (i:Nat)))]) [.box [.p (iv k),.p (iv n),.p (.s s),.p (.sl (l.map Tm.enc))]]
  [.box [.p (iv k),.p (iv n),.p (.s s),.p (.sl (l.map Tm.enc))]] l 0 (fun _ a=>!Tm.lazy a) [(2,.p (.b true))] [(1,.ptr 0 0),(3,.p (.i .i64 l.length)),(8,.p (.b false))]
  (fun i a hi hx hx' hp=>by
   have e1:=fun G=>ih a (List.mem_of_getElem? hx) (hfl.2 a (List.mem_of_getElem? hx)) G
   have e2:∀ t:Tm,t.enc.length=4:=fun t=>by cases t;rfl
   have e3:∀ t:Tm,t.enc.take 4=t.enc:=fun t=>by cases t;rfl
   simp only[Bool.not_eq_true']at hp
   simp only[hp,pcs]at e1
   simp[c15l0,leave,hi,hx,hx',Tm.okRow,e1,e2,e3,w64 ((i:Int)+1) (by omega) (by omega),gc,gcEnv,exp,expL,eOs,Exp.id,idxOf,List.range,List.range.loop])
  (fun i a hi hx hx' hp=>by
   have e1:=fun G=>ih a (List.mem_of_getElem? hx) (hfl.2 a (List.mem_of_getElem? hx)) G
   have e2:∀ t:Tm,t.enc.length=4:=fun t=>by cases t;rfl
   have e3:∀ t:Tm,t.enc.take 4=t.enc:=fun t=>by cases t;rfl
   simp only[Bool.not_eq_false']at hp
   simp only[hp,pcs]at e1
   simp[c15l0,leave,hi,hx,hx',Tm.okRow,e1,e2,e3])
  (by simp[c15l0,leave])
 rw[lazyL_allI l 0]at hL
 simp only[show ((0:Nat):Int)=0 from rfl]at hL
 simp[c15,leave,Tm.enc,pcs,Tm.encL_map,gc,gcEnv,exp,expL,eOs,Exp.id,idxOf,List.range,List.range.loop]
 rw[hL]
 cases hz:Tm.lazyL l<;>simp[leave,Tm.lazy,hz]
mutual
def Shape.tm:Shape→Tm
 |.mk k n s l=>.mk k n s (Shape.tmL l)
def Shape.tmL:List Shape→List Tm
 |[]=>[]
 |a::r=>a.tm::Shape.tmL r
end
mutual
theorem Shape.tm_enc:∀ s:Shape,s.tm.enc=s.enc
 |.mk k n s l=>by simp only[Shape.tm,Tm.enc,Shape.enc,Shape.tmL_enc l]
theorem Shape.tmL_enc:∀ l:List Shape,Tm.encL (Shape.tmL l)=Shape.encL l
 |[]=>rfl
 |a::r=>by simp only[Shape.tmL,Tm.encL,Shape.encL,Shape.tm_enc a,Shape.tmL_enc r]
end
mutual
theorem Shape.tm_lazy:∀ s:Shape,s.tm.lazy=s.isLazy
 |.mk k n s l=>by
  simp only[Shape.tm,Tm.lazy,Shape.isLazy,Shape.tmL_lazy l]
  congr 1
  rw[decide_eq_decide]
  omega
theorem Shape.tmL_lazy:∀ l:List Shape,Tm.lazyL (Shape.tmL l)=Shape.anyLazy l
 |[]=>rfl
 |a::r=>by simp only[Shape.tmL,Tm.lazyL,Shape.anyLazy,Shape.tm_lazy a,Shape.tmL_lazy r]
end
end Go.Proofs.Z
end
