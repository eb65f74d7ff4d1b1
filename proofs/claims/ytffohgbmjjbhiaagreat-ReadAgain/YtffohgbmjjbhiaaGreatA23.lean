/- A part of the proof. -/
import Derived.Test.YtffohgbmjjbhiaaGreatA22
set_option linter.all false
section
namespace Go.Proofs.Z
open Go Go.Proofs
attribute [local simp] k_nil k_ops k_opsg kG_true kG_false kO_val kO_pan k_seq kS_n kS_r kS_e kS_p k_o kR_n kR_p kD2_n kD1_n k_d k_c kC_t kC_f k_b kB_n kB_r kB_p kB_e k_skip k_ret k_exit k_l kL_s kLp_n kLp_r kLp_e kLp_p k_f kF_n kF_r kF_p kV_f kV_t kN_s evOp evBin gOK opd opds lk put restr iEv evRes whole norm normL one Out.below below belowL bOb evStore evLoad evLen AV.cells AV.flat PV.flat splice fillAt pcs isStr rowsOf Res.of evCmp lvE leafEq asInt noIdAt noId noIdL tids chkOK
variable {G:Heap}
set_option maxRecDepth 100000
theorem raw_inj {x y:Node}(h:x.raw=y.raw):x=y:=by
 obtain ⟨k,l,n,s,a,t⟩:=x
 obtain ⟨k',l',n',s',a',t'⟩:=y
 simp only[Node.raw,RNode.mk.injEq]at h
 obtain ⟨h1,h2,h3,h4,h5,h6⟩:=h
 have ha:a=a':=(List.map_inj_right (fun p q e=>by
  simp only[rawAr,Prod.mk.injEq]at e
  exact Prod.ext e.1 (by omega))).1 h5
 have ht:t=t':=(List.map_inj_right (fun p q e=>by
  simp only[Port.raw,Prod.mk.injEq]at e
  cases p;cases q
  simp only[Port.mk.injEq]at e ⊢
  omega)).1 h6
 subst h3 h4 ha ht
 have:k=k':=by omega
 have:l=l':=by omega
 subst_vars
 rfl
theorem ok_of_rcheck {n:Net}(h:rcheck (n.nodes.map Node.raw) n.cap=true):n.Ok:=by
 obtain ⟨m,h1,h2,h3⟩:=rcheck_net h
 have e1:m.nodes=n.nodes:=(List.map_inj_right (fun x y e=>raw_inj e)).1 h2
 have e2:m.cap=n.cap:=by omega
 have:m=n:=by cases m;cases n;simp only[Net.mk.injEq];exact ⟨e1,e2⟩
 rw[← this];exact h1
theorem fx0_44:E pgF 44 [.p (.s fx0),.p (.i .i64 150)] []=some (.ret (.tup [.ag ft0,.p (.i .i64 0),.p (.i .i64 0)]),[]):=E_iff.2 ⟨200,by kernel_rfl⟩
theorem fx0_45:E pgF 45 [.ag ft0] []=some (.ret (.tup [.ag (pcs fc0.tm.enc),.p (.i .i64 0),.p (.i .i64 0)]),[]):=E_iff.2 ⟨200,by kernel_rfl⟩
theorem fx0_18:E pgF 18 [.ag (pcs fc0.tm.enc),.p (.i .i64 0)] []=some (.ret (.p (.b true)),[]):=E_iff.2 ⟨200,by kernel_rfl⟩
theorem fx0_fit:Fits fc0 0 0:=⟨by kernel_rfl,of_decide_eq_true (by kernel_rfl),of_decide_eq_true (by kernel_rfl),of_decide_eq_true (by kernel_rfl)⟩
theorem fx0_net:(fc0.net 4000).2=0:=by kernel_rfl
theorem fx0_ok:(fc0.net 4000).1.Ok:=ok_of_rcheck (by kernel_rfl)
theorem fx1_44:E pgF 44 [.p (.s fx1),.p (.i .i64 150)] []=some (.ret (.tup [.ag ft1,.p (.i .i64 0),.p (.i .i64 0)]),[]):=E_iff.2 ⟨200,by kernel_rfl⟩
theorem fx1_45:E pgF 45 [.ag ft1] []=some (.ret (.tup [.ag (pcs fc1.tm.enc),.p (.i .i64 0),.p (.i .i64 0)]),[]):=E_iff.2 ⟨200,by kernel_rfl⟩
theorem fx1_18:E pgF 18 [.ag (pcs fc1.tm.enc),.p (.i .i64 0)] []=some (.ret (.p (.b true)),[]):=E_iff.2 ⟨200,by kernel_rfl⟩
theorem fx1_fit:Fits fc1 0 0:=⟨by kernel_rfl,of_decide_eq_true (by kernel_rfl),of_decide_eq_true (by kernel_rfl),of_decide_eq_true (by kernel_rfl)⟩
theorem fx1_net:(fc1.net 4000).2=0:=by kernel_rfl
theorem fx1_ok:(fc1.net 4000).1.Ok:=ok_of_rcheck (by kernel_rfl)
theorem fx2_44:E pgF 44 [.p (.s fx2),.p (.i .i64 150)] []=some (.ret (.tup [.ag ft2,.p (.i .i64 0),.p (.i .i64 0)]),[]):=E_iff.2 ⟨200,by kernel_rfl⟩
theorem fx2_45:E pgF 45 [.ag ft2] []=some (.ret (.tup [.ag (pcs fc2.tm.enc),.p (.i .i64 0),.p (.i .i64 0)]),[]):=E_iff.2 ⟨200,by kernel_rfl⟩
theorem fx2_18:E pgF 18 [.ag (pcs fc2.tm.enc),.p (.i .i64 0)] []=some (.ret (.p (.b true)),[]):=E_iff.2 ⟨200,by kernel_rfl⟩
theorem fx2_fit:Fits fc2 0 0:=⟨by kernel_rfl,of_decide_eq_true (by kernel_rfl),of_decide_eq_true (by kernel_rfl),of_decide_eq_true (by kernel_rfl)⟩
theorem fx2_net:(fc2.net 4000).2=0:=by kernel_rfl
theorem fx2_ok:(fc2.net 4000).1.Ok:=ok_of_rcheck (by kernel_rfl)
theorem fx3_44:E pgF 44 [.p (.s fx3),.p (.i .i64 150)] []=some (.ret (.tup [.ag ft3,.p (.i .i64 0),.p (.i .i64 0)]),[]):=E_iff.2 ⟨200,by kernel_rfl⟩
theorem fx3_45:E pgF 45 [.ag ft3] []=some (.ret (.tup [.ag (pcs fc3.tm.enc),.p (.i .i64 0),.p (.i .i64 0)]),[]):=E_iff.2 ⟨200,by kernel_rfl⟩
theorem fx3_18:E pgF 18 [.ag (pcs fc3.tm.enc),.p (.i .i64 0)] []=some (.ret (.p (.b true)),[]):=E_iff.2 ⟨200,by kernel_rfl⟩
theorem fx3_fit:Fits fc3 0 0:=⟨by kernel_rfl,of_decide_eq_true (by kernel_rfl),of_decide_eq_true (by kernel_rfl),of_decide_eq_true (by kernel_rfl)⟩
theorem fx3_net:(fc3.net 4000).2=0:=by kernel_rfl
theorem fx3_ok:(fc3.net 4000).1.Ok:=ok_of_rcheck (by kernel_rfl)
theorem fy0_read:(readN (fc0.net 4000).1 true 5000).2=(0,.mk 2 0 [67,111,110,115] [.mk 1 2 [] [],.mk 2 0 [78,105,108] []]):=by kernel_rfl
theorem fy0_26:E pgF 26 [.ag (pcs (Shape.enc (.mk 2 0 [67,111,110,115] [.mk 1 2 [] [],.mk 2 0 [78,105,108] []])))] []=some (.ret (.p (.s [40,67,111,110,115,32,50,32,78,105,108,41])),[]):=E_iff.2 ⟨200,by kernel_rfl⟩
theorem fy1_read:(readN (fc0.net 4000).1 false 5000).2=(0,.mk 2 0 [67,111,110,115] [.mk 5 0 [] [],.mk 5 0 [] []]):=by kernel_rfl
theorem fy1_26:E pgF 26 [.ag (pcs (Shape.enc (.mk 2 0 [67,111,110,115] [.mk 5 0 [] [],.mk 5 0 [] []])))] []=some (.ret (.p (.s [40,67,111,110,115,32,63,32,63,41])),[]):=E_iff.2 ⟨200,by kernel_rfl⟩
theorem fy2_read:(readN (fc1.net 4000).1 true 5000).2=(0,.mk 2 0 [67,111,110,115] [.mk 1 6 [] [],.mk 2 0 [67,111,110,115] [.mk 1 6 [] [],.mk 1 6 [] []]]):=by kernel_rfl
theorem fy2_26:E pgF 26 [.ag (pcs (Shape.enc (.mk 2 0 [67,111,110,115] [.mk 1 6 [] [],.mk 2 0 [67,111,110,115] [.mk 1 6 [] [],.mk 1 6 [] []]])))] []=some (.ret (.p (.s [40,67,111,110,115,32,54,32,40,67,111,110,115,32,54,32,54,41,41])),[]):=E_iff.2 ⟨200,by kernel_rfl⟩
theorem fy3_read:(readN (fc2.net 4000).1 true 5000).2=(0,.mk 3 0 [] []):=by kernel_rfl
theorem fy3_26:E pgF 26 [.ag (pcs (Shape.enc (.mk 3 0 [] [])))] []=some (.ret (.p (.s [102,117,110])),[]):=E_iff.2 ⟨200,by kernel_rfl⟩
theorem fy4_read:(readN (fc3.net 4000).1 true 5000).2=(0,.mk 2 0 [78,105,108] []):=by kernel_rfl
theorem fy4_26:E pgF 26 [.ag (pcs (Shape.enc (.mk 2 0 [78,105,108] [])))] []=some (.ret (.p (.s [78,105,108])),[]):=E_iff.2 ⟨200,by kernel_rfl⟩
end Go.Proofs.Z
end
