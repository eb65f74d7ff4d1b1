/- A part of the proof. -/
import Derived.Test.YtffohgbmjjbhiaaGreatA23
import Derived.Test.YtffohgbmjjbhiaaGreatA17
import Derived.Lib.SmallJoins
set_option linter.all false
section
namespace Go.Proofs.Z
open Go Go.Proofs
attribute [local simp] k_nil k_ops k_opsg kG_true kG_false kO_val kO_pan k_seq kS_n kS_r kS_e kS_p k_o kR_n kR_p kD2_n kD1_n k_d k_c kC_t kC_f k_b kB_n kB_r kB_p kB_e k_skip k_ret k_exit k_l kL_s kLp_n kLp_r kLp_e kLp_p k_f kF_n kF_r kF_p kV_f kV_t kN_s evOp evBin gOK opd opds lk put restr iEv evRes whole norm normL one Out.below below belowL bOb evStore evLoad evLen AV.cells AV.flat PV.flat splice fillAt pcs isStr rowsOf Res.of evCmp lvE leafEq asInt noIdAt noId noIdL tids chkOK
variable {G:Heap}
theorem told_ok {D:Bool}{text out:List UInt8}{t0 t2 t3:Int}{t1:List UInt8}{t4:List (List PV)}{c:Ct}{s:Shape}(h44:E pgF 44 [.p (.s text),.p (.i .i64 150)] []=some (.ret (.tup [.ag [.p (.i .i64 t0),.p (.s t1),.p (.i .i64 t2),.p (.i .i64 t3),.p (.sl t4)],.p (.i .i64 0),.p (.i .i64 0)]),[]))
  (h45:E pgF 45 [.ag [.p (.i .i64 t0),.p (.s t1),.p (.i .i64 t2),.p (.i .i64 t3),.p (.sl t4)]] []=some (.ret (.tup [.ag (pcs c.tm.enc),.p (.i .i64 0),.p (.i .i64 0)]),[]))
  (h18:E pgF 18 [.ag (pcs c.tm.enc),.p (.i .i64 0)] []=some (.ret (.p (.b true)),[])) (hf:Fits c 0 0) (hn:(c.net 4000).2=0) (ho:(c.net 4000).1.Ok) (hr:(readN (c.net 4000).1 D 5000).2=(0,s))
  (h26:E pgF 26 [.ag (pcs s.enc)] []=some (.ret (.p (.s out)),[])):eCA pgF (E pgF) 27 [.p (.s text),.p (.b D)] G=some (.ret (.p (.s out)),G):=by
 refine at_pure ?_ rfl rfl
 have h:=pgF_std
 obtain ⟨k,n,nm,l,hc⟩:=c.tm.enc_ex
 obtain ⟨k',n',nm',l',hs⟩:=s.pcs_enc
 have e20:=fun G=>t20 (G:=G) h (most:=4000) (by omega) hf (fun G=>at_pure h18 (by rw[hc];rfl) rfl)
 have e11:=fun G=>t11 (G:=G) ho D (F:=5000) (by omega)
 have hinv:=(readN_ok pg0_std ho D 5000).2.1
 have e44:=fun G=>at_pure (pg:=pgF) (G:=G) h44 rfl (by rfl)
 have e45:=fun G=>at_pure (pg:=pgF) (G:=G) h45 rfl (by rw[hc];rfl)
 have e26:=fun G=>at_pure (pg:=pgF) (G:=G) h26 (by rw[hs];rfl) rfl
 rw[hn]at e20
 generalize hR:readN (c.net 4000).1 D 5000=R at *
 have hR1:R.2.1=0:=by rw[hr]
 have hR2:R.2.2=s:=by rw[hr]
 have hT:R.1.T.length=9:=by rw[← hR];exact (readN_ok pg0_std ho D 5000).2.1.ok.2.1
 obtain ⟨u0,u1,u2,u3,u4,u5,u6,u7,u8,hTe⟩:∃ t0 t1 t2 t3 t4 t5 t6 t7 t8,R.1.T=[t0,t1,t2,t3,t4,t5,t6,t7,t8]:=by
  match R.1.T,hT with
  |[t0,t1,t2,t3,t4,t5,t6,t7,t8],_=>exact ⟨t0,t1,t2,t3,t4,t5,t6,t7,t8,rfl⟩
 simp only[rdOut11,if_pos hR1,hR2,hs,hTe,tallyAV,pcs,List.map_cons,List.map_nil,hR1,show ((5000:Nat):Int)=5000 from rfl,show ((0:Nat):Int)=0 from rfl]at e11
 simp only[hc,hs,pcs,List.map_cons,List.map_nil,show ((4000:Nat):Int)=4000 from rfl,show ((0:Nat):Int)=0 from rfl]at e20 e45 e26
 rw[h.run (x:=c27) rfl (by decide) (by decide) (by decide) (by decide)]
 simp[c27,leave,e44,e45,e20,e11,e26]
theorem told0:eCA pgF (E pgF) 27 [.p (.s fx0),.p (.b true)] G=some (.ret (.p (.s [40,67,111,110,115,32,50,32,78,105,108,41])),G):=told_ok fx0_44 fx0_45 fx0_18 fx0_fit fx0_net fx0_ok fy0_read fy0_26
theorem told1:eCA pgF (E pgF) 27 [.p (.s fx0),.p (.b false)] G=some (.ret (.p (.s [40,67,111,110,115,32,63,32,63,41])),G):=told_ok fx0_44 fx0_45 fx0_18 fx0_fit fx0_net fx0_ok fy1_read fy1_26
theorem told2:eCA pgF (E pgF) 27 [.p (.s fx1),.p (.b true)] G=some (.ret (.p (.s [40,67,111,110,115,32,54,32,40,67,111,110,115,32,54,32,54,41,41])),G):=told_ok fx1_44 fx1_45 fx1_18 fx1_fit fx1_net fx1_ok fy2_read fy2_26
theorem told3:eCA pgF (E pgF) 27 [.p (.s fx2),.p (.b true)] G=some (.ret (.p (.s [102,117,110])),G):=told_ok fx2_44 fx2_45 fx2_18 fx2_fit fx2_net fx2_ok fy3_read fy3_26
theorem told4:eCA pgF (E pgF) 27 [.p (.s fx3),.p (.b true)] G=some (.ret (.p (.s [78,105,108])),G):=told_ok fx3_44 fx3_45 fx3_18 fx3_fit fx3_net fx3_ok fy4_read fy4_26
def net5:Net:=⟨[⟨1,0,0,[],[],[⟨1,0⟩]⟩,⟨13,0,0,[],[],[⟨0,0⟩]⟩],5⟩
theorem new5:E pgF 25 [.p (.i .i64 5)] []=some (.ret (.tup [.ag [.p (.sl (net5.nodes.map Node.enc)),.p (.i .i64 net5.cap)],.p (.i .i64 0)]),[]):=E_iff.2 ⟨60,by kernel_rfl⟩
theorem net5_ok:net5.Ok:=ok_of_rcheck (by kernel_rfl)
theorem net5_read:(readN net5 true 0).2=(0,.mk 4 0 [] []):=by kernel_rfl
theorem net5_T:(readN net5 true 0).1.T=tally0:=by kernel_rfl
theorem fail_26:E pgF 26 [.ag (pcs (Shape.enc (.mk 4 0 [] [])))] []=some (.ret (.p (.s [102,97,105,108])),[]):=E_iff.2 ⟨60,by kernel_rfl⟩
theorem less_32:E pg0 32 [.ptr 0 0,.ag [.p (.i .i64 0),.p (.i .i64 0)]] [.box (rdc (net5.nodes.map Node.enc) 5 z9i 0 (-1) true)]=some (.pan (.ifc 70 (.ag [.p (.i .i64 1)])),[.box (rdc (net5.nodes.map Node.enc) 5 z9i 0 (-1) true)]):=E_iff.2 ⟨60,by kernel_rfl⟩
theorem less_11:E pgF 11 [.ag [.p (.sl (net5.nodes.map Node.enc)),.p (.i .i64 net5.cap)],.p (.b true),.p (.i .i64 (-1))] []=some (shOut (net5.nodes.map Node.enc) 5 shp0 z9i 1,[]):=by
 refine E_iff.2 ⟨1,?_⟩
 simp only[evCall]
 rw[show pgF.orc 11=some shapeO by simp[pgF]]
 exact shapeO_of ⟨_,_,_,_,_,_,_,z9i,0,-1,true,rfl,rfl,less_32,.inr ⟨1,rfl,rfl⟩⟩
theorem fixed_true:Fixed:=by
 intro G
 refine at_pure ?_ rfl rfl
 have h:=pgF_std
 have e25:=fun G=>at_pure (pg:=pgF) (G:=G) new5 rfl rfl
 have e11:=fun G=>t11 (G:=G) net5_ok true (F:=0) (by omega)
 have l11:=fun G=>at_pure (pg:=pgF) (G:=G) less_11 rfl rfl
 have e26:=fun G=>at_pure (pg:=pgF) (G:=G) fail_26 rfl rfl
 have z12:=fun G=>t12 (G:=G) (T:=tally0) h rfl (by simp[tally0])
 have a0:=fun G=>told0 (G:=G)
 have a1:=fun G=>told1 (G:=G)
 have a2:=fun G=>told2 (G:=G)
 have a3:=fun G=>told3 (G:=G)
 have a4:=fun G=>told4 (G:=G)
 have hR1:(readN net5 true 0).2.1=0:=by rw[net5_read]
 have hR2:(readN net5 true 0).2.2=.mk 4 0 [] []:=by rw[net5_read]
 simp only[rdOut11,if_pos hR1,hR1,hR2,net5_T,tallyAV,tally0,pcs,List.map_cons,List.map_nil,Shape.enc,Shape.encL,List.sum_cons,List.sum_nil,show ((4:Nat):Int)=4 from rfl,show ((0:Nat):Int)=0 from rfl]at e11 z12 e26
 simp only[shOut,net2,shp0,ti,z9i,List.map_cons,List.map_nil]at l11
 simp only[show (net5.cap:Int)=5 from rfl]at e11 e25 l11
 simp only[fx0,fx1,fx2,fx3]at a0 a1 a2 a3 a4
 rw[h.run (x:=c8) rfl (by decide) (by decide) (by decide) (by decide)]
 simp[c8,leave,e25,e11,show (net5.cap:Int)=5 from rfl,l11,e26,z12,a0,a1,a2,a3,a4]
end Go.Proofs.Z
end
section
namespace Go.Proofs.Z
open Go Go.Proofs
set_option maxRecDepth 100000
section
variable {H:Type}{enc:TypeId×Value→H}{W:World}{base:Nat}{spare:Nat→Bool}{held:Bool}{n:Nat}{cs:List Value}{y:DataW H×List MemPlace}
theorem co3:Tryz.prog.cellsOf 3=1:=by kernel_rfl
theorem co9:Tryz.prog.cellsOf 9=1:=by kernel_rfl
theorem co57:Tryz.prog.cellsOf 57=1:=by kernel_rfl
theorem co58:Tryz.prog.cellsOf 58=1:=by kernel_rfl
theorem co64:Tryz.prog.cellsOf 64=2:=by kernel_rfl
theorem co99:Tryz.prog.cellsOf 99=2:=by kernel_rfl
theorem co60:Tryz.prog.cellsOf 60=6:=by kernel_rfl
theorem co24:Tryz.prog.cellsOf 24=2:=by kernel_rfl
theorem one_int (h:DataW.trod enc Tryz.prog W base spare held n 3 cs=some y):∃ k:Int,cs=[.int .i64 k]∧(Lit.int .i64 k).wf=true:=by
 obtain ⟨k,rfl,_,w⟩:=DataW.trod_int Tryz.underlying3 h
 exact ⟨k,rfl,w⟩
theorem one_str (h:DataW.trod enc Tryz.prog W base spare held n 9 cs=some y):∃ s:List UInt8,cs=[.string ⟨s.toArray⟩]∧s.length≤maxLen:=by
 obtain ⟨k,rfl,_,w⟩:=DataW.trod_string Tryz.underlying9 h
 exact ⟨k.data.toList,by simp,by simpa using w⟩
theorem one_port (h:DataW.trod enc Tryz.prog W base spare held n 64 cs=some y):∃ r:Int×Int,True∧Cw (mW W) cs (rPt r):=by
 obtain ⟨xs,m,_,_,hl,hxs,hf⟩:=DataW.trod_struct Tryz.underlying64 h
 rw[co64]at hl
 match cs,hl with
 |[c0,c1],_ =>
  match xs,hxs with
  |[x0,x1],_ =>
   have f0:=hf 0 _ rfl
   have f1:=hf 1 _ rfl
   simp[co3]at f0 f1
   obtain ⟨k0,e0,_⟩:=one_int f0
   obtain ⟨k1,e1,_⟩:=one_int f1
   cases e0;cases e1
   exact ⟨(k0,k1),trivial,.cons (.i _ _) (.cons (.i _ _) .nil)⟩
theorem one_alt (h:DataW.trod enc Tryz.prog W base spare held n 99 cs=some y):∃ r:List UInt8×Int,True∧Cw (mW W) cs (rAr r):=by
 obtain ⟨xs,m,_,_,hl,hxs,hf⟩:=DataW.trod_struct Tryz.underlying99 h
 rw[co99]at hl
 match cs,hl with
 |[c0,c1],_ =>
  match xs,hxs with
  |[x0,x1],_ =>
   have f0:=hf 0 _ rfl
   have f1:=hf 1 _ rfl
   simp[co3,co9]at f0 f1
   obtain ⟨k0,e0,_⟩:=one_str f0
   obtain ⟨k1,e1,_⟩:=one_int f1
   cases e0;cases e1
   exact ⟨(k0,k1),trivial,.cons (.s _) (.cons (.i _ _) .nil)⟩
theorem one_node (h:DataW.trod enc Tryz.prog W base spare held n 60 cs=some y):∃ r:RNode,(r.to.length≤maxLen∧r.alts.length≤maxLen)∧Cw (mW W) cs r.enc:=by
 obtain ⟨xs,m,_,_,hl,hxs,hf⟩:=DataW.trod_struct Tryz.underlying60 h
 rw[co60]at hl
 match cs,hl with
 |[c0,c1,c2,c3,c4,c5],_ =>
  match xs,hxs with
  |[x0,x1,x2,x3,x4,x5],_ =>
   have f0:=hf 0 _ rfl
   have f1:=hf 1 _ rfl
   have f2:=hf 2 _ rfl
   have f3:=hf 3 _ rfl
   have f4:=hf 4 _ rfl
   have f5:=hf 5 _ rfl
   simp[co3,co9,co57,co58]at f0 f1 f2 f3 f4 f5
   obtain ⟨k0,e0,_⟩:=one_int f0
   obtain ⟨k1,e1,_⟩:=one_int f1
   obtain ⟨k2,e2,_⟩:=one_int f2
   obtain ⟨k3,e3,_⟩:=one_str f3
   obtain ⟨a4,c4,l4,e4,r4,_,n4⟩:=open_rows rAr (fun _=>True) Tryz.underlying57 co99 (by omega) okRAr f4 (fun _ _ _ _ g _=>one_alt g)
   obtain ⟨a5,c5,l5,e5,r5,_,n5⟩:=open_rows rPt (fun _=>True) Tryz.underlying58 co64 (by omega) okRPt f5 (fun _ _ _ _ g _=>one_port g)
   cases e0;cases e1;cases e2;cases e3;cases e4;cases e5
   exact ⟨⟨k0,k1,k2,k3,l4,l5⟩,⟨n5,n4⟩,.cons (.i _ _) (.cons (.i _ _) (.cons (.i _ _) (.cons (.s _) (.cons r4 (.cons r5 .nil)))))⟩
theorem maxLen_le:maxLen<2 ^ 63:=by decide
theorem open_net {r:Reach}{b0:Nat}{v:Value}{d:DataW H}{p:List MemPlace}(hv:Value.okWide Tryz.prog W r b0 24 v)(h:DataW.Trod enc Tryz.prog W base spare held 24 v d p) :
  ∃ (l:List RNode) (C:Int),l.length<2 ^ 63∧R (mW W) (fun _=>none) (inf []) v (.ag [.p (.sl (l.map RNode.enc)),.p (.i .i64 C)]):=by
 obtain ⟨v0,v1,y0,y1,n,rfl,_,_,h0,h1⟩:=Go.Joins.open_agg2 Tryz.underlying24 (by kernel_rfl) co24 hv h
 obtain ⟨a,c,l,e,rr,hq,hn⟩:=open_rows RNode.enc (fun r=>r.to.length≤maxLen∧r.alts.length≤maxLen) Tryz.underlying22 co60 (by omega) okRNode h0 (fun _ _ _ _ g _=>one_node g)
 obtain ⟨C,e1,_⟩:=one_int h1
 cases e;cases e1
 have hM:=maxLen_le
 refine ⟨l,C,by omega,?_⟩
 ·refine .ag _ _ rfl fun j v c h1 h2=>?_
  match j with
  |0=>simp at h1 h2;subst h1 h2;exact .p _ _ rr
  |1=>simp at h1 h2;subst h1 h2;exact .p _ _ (.i _ _)
  |j+2=>simp at h1
end
end Go.Proofs.Z
end
