/- A part of the proof. -/
import Derived.Test.YtffohgbmjjbhiaaGreatA20
set_option linter.all false
section
namespace Go.Proofs.Z
open Go Go.Proofs
attribute [local simp] k_nil k_ops k_opsg kG_true kG_false kO_val kO_pan k_seq kS_n kS_r kS_e kS_p k_o kR_n kR_p kD2_n kD1_n k_d k_c kC_t kC_f k_b kB_n kB_r kB_p kB_e k_skip k_ret k_exit k_l kL_s kLp_n kLp_r kLp_e kLp_p k_f kF_n kF_r kF_p kV_f kV_t kN_s evOp evBin gOK opd opds lk put restr iEv evRes whole norm normL one Out.below below belowL bOb evStore evLoad evLen AV.cells AV.flat PV.flat splice fillAt pcs isStr rowsOf Res.of evCmp lvE leafEq asInt noIdAt noId noIdL tids chkOK
variable {pg:Prg}{G:Heap}
theorem withGo_v (x:End)(P:Nat→Prop)(hx:P x.v):∀ (b:Bool) (r:List End),(∀ e∈r,P e.v)→∀ e∈(withGo x b r).1,P e.v
 |b,[],h,e,he=>by simp[withGo]at he
 |true,y::r,h,e,he=>by rw[withGo_true]at he;exact h e he
 |false,y::r,h,e,he=>by
  simp only[withGo]at he
  split at he
  ·rw[withGo_true]at he
   simp only[List.mem_cons]at he
   rcases he with rfl|rfl|he
   ·exact hx
   ·exact h _ (by simp)
   ·exact h e (by simp[he])
  ·simp only[List.mem_cons]at he
   rcases he with rfl|he
   ·exact h _ (by simp)
   ·exact withGo_v x P hx false r (fun e he=>h e (by simp[he])) e he
theorem withE_v (x:End)(P:Nat→Prop)(hx:P x.v)(l:List End)(h:∀ e∈l,P e.v):∀ e∈withE l x,P e.v:=by
 intro e he
 unfold withE at he
 split at he
 ·exact withGo_v x P hx false l h e he
 ·rcases List.mem_append.1 he with he|he
  ·exact withGo_v x P hx false l h e he
  ·simp only[List.mem_cons,List.not_mem_nil,or_false]at he
   rw[he];exact hx
theorem mergeGo_v {lev:Nat}(P:Nat→Prop):∀ (r:List End) (n:Net) (l:List End),(∀ e∈r,P e.v)→(∀ e∈l,P e.v)→∀ e∈(mergeGo lev n l r).2.1,P e.v
 |[],n,l,hr,hl=>hl
 |x::r,n,l,hr,hl=>by
  have hset:∀ k f,findE l x.v=some k→∀ e∈l.set k ⟨(l.getD k default).v,f⟩,P e.v:=by
   intro k f hf e he
   obtain ⟨hk,_,_⟩:=List.findIdx?_eq_some_iff_getElem.1 hf
   have hgd:l.getD k default=l[k]:=by rw[List.getD_eq_getElem?_getD,gG hk];rfl
   rcases List.mem_or_eq_of_mem_set he with he|rfl
   ·exact hl e he
   ·rw[hgd];exact hl l[k] (List.getElem_mem hk)
  unfold mergeGo
  cases hf:findE l x.v with
  |none=>exact mergeGo_v P r n _ (fun e he=>hr e (by simp[he])) (withE_v x P (hr x (by simp)) l hl)
  |some k =>
   dsimp only
   split
   ·exact mergeGo_v P r _ _ (fun e he=>hr e (by simp[he])) (hset k _ hf)
   ·exact hset k _ hf
def PartsHyp (pg:Prg)(tk tn:Int)(ts:List UInt8)(rows:List (List PV))(lev:Nat):Nat→List (Net→W)→List Nat→List Nat→Prop
 |i,f::r,s::ss,c::cs=>(∀ n,WI n→Weaves pg 72 [.ag [.p (.sl (n.nodes.map Node.enc)),.p (.i .i64 n.cap)],.ag [.p (.i .i64 tk),.p (.i .i64 tn),.p (.s ts),.p (.sl rows)],.p (.i .i64 i),.p (.i .i64 lev)] (f n))∧(∀ n,WI n→GoodW c (f n))∧s=(if i=0∧tk≠4 then 0 else i+1)∧PartsHyp pg tk tn ts rows lev (i+1) r ss cs
 |i,[],[],[]=>i=rows.length
 |_,_,_,_=>False
theorem mergeW_good {lev c d:Nat}{n:Net}{out:Port}{l l2:List End}(hn:WI n)(hl:l.length≤c∧∀ e∈l,e.v<2 ^ 40)(hl2:l2.length≤d∧∀ e∈l2,e.v<2 ^ 40):GoodW (d+c) (mergeW lev ⟨n,out,l,0⟩ l2):=by
 intro _
 refine ⟨mergeGo_wi _ hn,?_,mergeGo_v (fun v=>v<2 ^ 40) _ _ _ hl.2 hl2.2⟩
 have:=mergeGo_len (lev:=lev) l n l2
 show (mergeGo lev n l2 l).2.1.length≤d+c
 omega
theorem partsW_good {tk tn:Int}{ts:List UInt8}{rows:List (List PV)}{lev m:Nat}:∀ (fs:List (Net→W)) (ss cs:List Nat) (i:Nat) (n:Net) (l:List End) (d:Nat),PartsHyp pg tk tn ts rows lev i fs ss cs→WI n→l.length≤d→(∀ e∈l,e.v<2 ^ 40)→GoodW (d+cs.sum) (partsW lev m fs ss n l)
 |[],[],[],i,n,l,d,h,hn,hl,hv=>fun _=>⟨hn,by simpa [partsW] using hl,hv⟩
 |f::r,s::ss,c::cs,i,n,l,d,h,hn,hl,hv=>by
  obtain ⟨h1,h2,h3,h4⟩:=h
  unfold partsW
  by_cases he:(f n).e=0
  ·rw[if_pos he]
   obtain ⟨g1,g2,g3⟩:=h2 n hn he
   have hg:=mergeW_good (lev:=lev) (out:=(f n).out) (g1.rlink (f n).out ⟨m,s⟩) ⟨g2,g3⟩ ⟨hl,hv⟩
   by_cases hm:(mergeW lev ⟨(f n).n.rlink (f n).out ⟨m,s⟩,(f n).out,(f n).l,0⟩ l).e=0
   ·rw[if_pos hm]
    obtain ⟨k1,k2,k3⟩:=hg hm
    have:=partsW_good (m:=m) r ss cs (i+1) _ _ (d+c) h4 k1 k2 k3
    rw[List.sum_cons,← Nat.add_assoc]
    exact this
   ·rw[if_neg hm]
    exact fun hb=>absurd hb hm
  ·rw[if_neg he]
   exact fun hb=>absurd hb he
 |[],_::_,_,i,n,l,d,h,_,_,_=>by simp[PartsHyp]at h
 |[],[],_::_,i,n,l,d,h,_,_,_=>by simp[PartsHyp]at h
 |_::_,[],_,i,n,l,d,h,_,_,_=>by simp[PartsHyp]at h
 |_::_,_::_,[],i,n,l,d,h,_,_,_=>by simp[PartsHyp]at h
def ptB (tk tn:Int)(ts:List UInt8)(rows:List (List PV))(xr:List PV)(n:Net)(o1 o2:Int)(L:AV)(e:Int):Heap :=
 [.box [.p (.i .i64 tk),.p (.i .i64 tn),.p (.s ts),.p (.sl rows)],.box (pcs xr),.box zCells,.box (wCs n o1 o2 L e)]
set_option maxHeartbeats 0 in
theorem l52 (h:Std pg){body:CCode}(hb:body=c52l0){tk tn:Int}{ts:List UInt8}{rows:List (List PV)}{lev m:Nat}{xk xn:Int}{xs:List UInt8}{xa xt:List (List PV)}(hrows:rows.length<2 ^ 17) :
  ∀ (fs:List (Net→W)) (ss cs:List Nat) (i:Nat) (n:Net) (l:List End) (o1 o2:Int) (Lv:AV) (O:Heap),PartsHyp pg tk tn ts rows lev i fs ss cs→WI n→i+fs.length=rows.length→l.length+cs.sum<2 ^ 17→(∀ e∈l,e.v<2 ^ 40)→EV 4 Lv O l →
   (O=[]∨∃ rr g,O=[.arr 3 rr g 0]) →
   if (partsW lev m fs ss n l).e=0 then ∃ Lv' O' o1' o2',L pg 0 [4,5,6,7,9,10] body [(4,.ptr 0 0),(5,.ptr 1 0),(6,.ptr 2 0),(7,.p (.i .i64 m)),(9,.ptr 3 0),(10,.p (.i .i64 i))] (ptB tk tn ts rows [iv xk,iv lev,iv xn,.s xs,.sl xa,.sl xt] n o1 o2 Lv 0++O) =
     some (.exit 0,[(4,.ptr 0 0),(5,.ptr 1 0),(6,.ptr 2 0),(7,.p (.i .i64 m)),(9,.ptr 3 0),(10,.p (.i .i64 rows.length)),(30,.p (.b false))],ptB tk tn ts rows [iv xk,iv lev,iv xn,.s xs,.sl xa,.sl xt] (partsW lev m fs ss n l).n o1' o2' Lv' 0++O')∧EV 4 Lv' O' (partsW lev m fs ss n l).l
   else ∃ b0 b1 T,L pg 0 [4,5,6,7,9,10] body [(4,.ptr 0 0),(5,.ptr 1 0),(6,.ptr 2 0),(7,.p (.i .i64 m)),(9,.ptr 3 0),(10,.p (.i .i64 i))] (ptB tk tn ts rows [iv xk,iv lev,iv xn,.s xs,.sl xa,.sl xt] n o1 o2 Lv 0++O) =
     some (.ret,[(6,.ptr 2 0)],b0::b1::.box (badCells (partsW lev m fs ss n l).e)::T)
 |[],[],[],i,n,l,o1,o2,Lv,O,hp,hn,hi,hl,hv,hE,hO=>by
  have:i=rows.length:=by simpa using hi
  subst this
  have e0:partsW lev m [] [] n l=⟨n,⟨0,0⟩,l,0⟩:=by simp[partsW]
  rw[e0,if_pos rfl]
  refine ⟨Lv,O,o1,o2,?_,hE⟩
  rw[k_L hb]
  simp[c52l0,leave,ptB,pcs,wCs]
 |f::r,s::ss,c::cs,i,n,l,o1,o2,Lv,O,hp,hn,hi,hl,hv,hE,hO=>by
  obtain ⟨p1,p2,p3,p4⟩:=hp
  have hlt:i<rows.length:=by simp at hi;omega
  have hlt':(i:Int)<rows.length:=by omega
  obtain ⟨v,Ov,hc,hvv⟩:=p1 n hn
  have hgf:=p2 n hn
  obtain ⟨v1,O2,h1,h2⟩:=at_W (pg:=pg) (G:=ptB tk tn ts rows [iv xk,iv lev,iv xn,.s xs,.sl xa,.sl xt] n o1 o2 Lv 0++O) hc hvv rfl
  simp only[List.sum_cons]at hl
  have hpw:partsW lev m (f::r) (s::ss) n l=if (f n).e=0 then
   (if (mergeW lev ⟨(f n).n.rlink (f n).out ⟨m,s⟩,(f n).out,(f n).l,0⟩ l).e=0 then
    partsW lev m r ss (mergeW lev ⟨(f n).n.rlink (f n).out ⟨m,s⟩,(f n).out,(f n).l,0⟩ l).n (mergeW lev ⟨(f n).n.rlink (f n).out ⟨m,s⟩,(f n).out,(f n).l,0⟩ l).l
   else badW (mergeW lev ⟨(f n).n.rlink (f n).out ⟨m,s⟩,(f n).out,(f n).l,0⟩ l).e)
   else badW (f n).e:=rfl
  rw[hpw]
  generalize f n=y at *
  obtain ⟨a,x,z1,z2,Ly,ly,rfl,q1,q2,q3⟩:=h2
  by_cases hy:y.e=0
  ·obtain ⟨rfl,rfl,rfl,rfl,rfl⟩:=q3 hy
   obtain ⟨g1,g2,g3⟩:=hgf hy
   rw[if_pos hy]
   have e38:=fun G=>t38 (G:=G) (p:=y.out) (q:=⟨m,s⟩) h g1.tiny
   have hcl:=Net.rlink_cap y.n y.out ⟨m,s⟩
   have hw1:=g1.rlink y.out ⟨m,s⟩
   simp only[hcl]at e38
   generalize hn1:y.n.rlink y.out ⟨m,s⟩=n1 at *
   have hgm:=mergeW_good (lev:=lev) (out:=y.out) hw1 ⟨g2,g3⟩ ⟨Nat.le_refl l.length,hv⟩
   have hWV:WV (ptB tk tn ts rows [iv xk,iv lev,iv xn,.s xs,.sl xa,.sl xt] n o1 o2 Lv 0++O).length ⟨n1,y.out,y.l,0⟩ (wCs n1 y.out.node y.out.slot Ly 0) (O2++[.box (wCs n1 y.out.node y.out.slot Ly 0)]):=by
    refine ⟨_,_,_,_,_,y.l,rfl,.inr ⟨_,rfl⟩,?_,fun _=>⟨rfl,rfl,rfl,rfl,rfl⟩⟩
    rcases q2 with ⟨rfl,hl0⟩|⟨k,g,rfl,hk⟩
    ·exact .inl ⟨rfl,hl0⟩
    ·exact .inr ⟨k,g,rfl,by rw[List.getElem?_append_left (gE hk).1,hk]⟩
   obtain ⟨v2,O3,h3,h4⟩:=t73 h (lev:=lev) hWV (B:=ptB tk tn ts rows [iv xk,iv lev,iv xn,.s xs,.sl xa,.sl xt] n o1 o2 Lv 0) hE rfl hw1 (by show y.l.length<_;omega) (by omega)
   obtain ⟨a3,x3,y3,z3,L3,l3,rfl,r1,r2,r3⟩:=h4
   generalize hM:mergeW lev ⟨n1,y.out,y.l,0⟩ l=M at *
   have hy0:(y.e:Int)=0:=by omega
   by_cases hm:M.e=0
   ·rw[if_pos hm]
    obtain ⟨rfl,rfl,rfl,rfl,rfl⟩:=r3 hm
    obtain ⟨m1,m2,m3⟩:=hgm hm
    have key:∀ (L4:AV) (O4:Heap),EV 4 L4 O4 M.l→(O4=[]∨∃ rr g,O4=[.arr 3 rr g 0])→L pg 0 [4,5,6,7,9,10] body [(4,.ptr 0 0),(5,.ptr 1 0),(6,.ptr 2 0),(7,.p (.i .i64 m)),(9,.ptr 3 0),(10,.p (.i .i64 i))] (ptB tk tn ts rows [iv xk,iv lev,iv xn,.s xs,.sl xa,.sl xt] n o1 o2 Lv 0++O) =
      L pg 0 [4,5,6,7,9,10] body [(4,.ptr 0 0),(5,.ptr 1 0),(6,.ptr 2 0),(7,.p (.i .i64 m)),(9,.ptr 3 0),(10,.p (.i .i64 (i+1:Nat)))] (ptB tk tn ts rows [iv xk,iv lev,iv xn,.s xs,.sl xa,.sl xt] M.n M.out.node M.out.slot L4 0++O4) →
      if (partsW lev m r ss M.n M.l).e=0 then ∃ L' O' o1' o2',L pg 0 [4,5,6,7,9,10] body [(4,.ptr 0 0),(5,.ptr 1 0),(6,.ptr 2 0),(7,.p (.i .i64 m)),(9,.ptr 3 0),(10,.p (.i .i64 i))] (ptB tk tn ts rows [iv xk,iv lev,iv xn,.s xs,.sl xa,.sl xt] n o1 o2 Lv 0++O) =
       some (.exit 0,[(4,.ptr 0 0),(5,.ptr 1 0),(6,.ptr 2 0),(7,.p (.i .i64 m)),(9,.ptr 3 0),(10,.p (.i .i64 rows.length)),(30,.p (.b false))],ptB tk tn ts rows [iv xk,iv lev,iv xn,.s xs,.sl xa,.sl xt] (partsW lev m r ss M.n M.l).n o1' o2' L' 0++O')∧EV 4 L' O' (partsW lev m r ss M.n M.l).l
      else ∃ b0 b1 T,L pg 0 [4,5,6,7,9,10] body [(4,.ptr 0 0),(5,.ptr 1 0),(6,.ptr 2 0),(7,.p (.i .i64 m)),(9,.ptr 3 0),(10,.p (.i .i64 i))] (ptB tk tn ts rows [iv xk,iv lev,iv xn,.s xs,.sl xa,.sl xt] n o1 o2 Lv 0++O) =
       some (.ret,[(6,.ptr 2 0)],b0::b1::.box (badCells (partsW lev m r ss M.n M.l).e)::T):=by
     intro L4 O4 e1 e2 e3
     rw[e3]
     exact l52 h hb hrows r ss cs (i+1) M.n M.l _ _ L4 O4 p4 m1 (by simp at hi ⊢;omega) (by omega) m3 e1 e2
    rcases r2 with ⟨rfl,hl0⟩|⟨k3,g3',rfl,hk3⟩
    ·refine key .nils [] (.inl ⟨rfl,hl0⟩) (.inl rfl) ?_
     rw[k_L hb]
     rcases em_eq (i=0) with ci|ci<;>rcases em_eq (tk=4) with ck|ck
     all_goals
      have hs:(s:Int)=(if (i=0∧¬ tk=4) then 0 else (i:Int)+1):=by rw[p3];split<;>simp
      simp only[ci,ck,not_true_eq_false,not_false_eq_true,and_true,and_false,true_and,false_and,if_true,if_false]at hs
      rcases hO with rfl|⟨rr,gg,rfl⟩<;>rcases q2 with ⟨rfl,_⟩|⟨k,g,rfl,_⟩
      all_goals
       simp only[ptB,pcs,wCs,zCells,wv,badCells,hs,hcl,List.map_cons,List.map_nil,List.cons_append,List.nil_append,List.append_nil,List.append_assoc,List.length_cons,List.length_nil,Nat.zero_add,Int.natCast_add,show ((1:Nat):Int)=1 from rfl,show ((0:Nat):Int)=0 from rfl]at h1 h3 e38 ⊢
       simp[c52l0,leave,hlt,hlt',h1,ge0,gs0,hy,hy0,e38,hcl,t39 h,k39 h,noIdAt,noId,noIdL,h3,ci,ck,w64 ((i:Int)+1) (by omega) (by omega),hm,show (M.e:Int)=0 from by omega,gc,gcEnv,exp,expL,eOs,Exp.id,idxOf,List.range,List.range.loop]
    ·refine key (.arr 4 M.l.length g3') [.arr 3 (M.l.map End.enc) g3' 0] (.inr ⟨0,g3',rfl,rfl⟩) (.inr ⟨_,_,rfl⟩) ?_
     obtain ⟨q,hq⟩:∃ q,O3.length=q+1:=⟨O3.length-1,by have:=(gE hk3).1;omega⟩
     rw[k_L hb]
     rcases em_eq (i=0) with ci|ci<;>rcases em_eq (tk=4) with ck|ck
     all_goals
      have hs:(s:Int)=(if (i=0∧¬ tk=4) then 0 else (i:Int)+1):=by rw[p3];split<;>simp
      simp only[ci,ck,not_true_eq_false,not_false_eq_true,and_true,and_false,true_and,false_and,if_true,if_false]at hs
      rcases hO with rfl|⟨rr,gg,rfl⟩<;>rcases q2 with ⟨rfl,_⟩|⟨k,g,rfl,_⟩
      all_goals
       simp only[ptB,pcs,wCs,zCells,wv,badCells,hs,hcl,List.map_cons,List.map_nil,List.cons_append,List.nil_append,List.append_nil,List.append_assoc,List.length_cons,List.length_nil,Nat.zero_add,Int.natCast_add,show ((1:Nat):Int)=1 from rfl,show ((0:Nat):Int)=0 from rfl]at h1 h3 e38 ⊢
       simp[c52l0,leave,hlt,hlt',h1,ge0,gs0,hy,hy0,e38,hcl,t39 h,k39 h,noIdAt,noId,noIdL,h3,ci,ck,w64 ((i:Int)+1) (by omega) (by omega),hm,show (M.e:Int)=0 from by omega,hk3,hq,gc,gcEnv,exp,expL,eOs,Exp.id,idxOf,List.range,List.range.loop]
   ·rw[if_neg hm]
    rw[if_neg (show ¬ (badW M.e).e=0 from hm)]
    have hbe:(badW M.e).e=M.e:=rfl
    rw[hbe]
    have hm':¬ (M.e:Int)=0:=by omega
    refine ⟨.box [.p (.i .i64 tk),.p (.i .i64 tn),.p (.s ts),.p (.sl rows)],.box (pcs [iv xk,iv lev,iv xn,.s xs,.sl xa,.sl xt]),.box (wv a3 x3 y3 z3 L3 M.e)::(O3++[.box (badCells M.e)]),?_⟩
    rw[k_L hb]
    rcases r1 with rfl|⟨rr1,rfl⟩<;>rcases r2 with ⟨rfl,_⟩|⟨k3,g3',rfl,_⟩
    all_goals
     rcases em_eq (i=0) with ci|ci<;>rcases em_eq (tk=4) with ck|ck
     all_goals
      have hs:(s:Int)=(if (i=0∧¬ tk=4) then 0 else (i:Int)+1):=by rw[p3];split<;>simp
      simp only[ci,ck,not_true_eq_false,not_false_eq_true,and_true,and_false,true_and,false_and,if_true,if_false]at hs
      rcases hO with rfl|⟨rr,gg,rfl⟩<;>rcases q2 with ⟨rfl,_⟩|⟨k,g,rfl,_⟩
      all_goals
       simp only[ptB,pcs,wCs,zCells,wv,badCells,hs,hcl,List.map_cons,List.map_nil,List.cons_append,List.nil_append,List.append_nil,List.append_assoc,List.length_cons,List.length_nil,Nat.zero_add,Int.natCast_add,show ((1:Nat):Int)=1 from rfl,show ((0:Nat):Int)=0 from rfl]at h1 h3 e38 ⊢
       simp[c52l0,leave,hlt,hlt',h1,ge0,gs0,hy,hy0,e38,hcl,t39 h,k39 h,noIdAt,noId,noIdL,h3,ci,ck,w64 ((i:Int)+1) (by omega) (by omega),hm,hm',t70 h,badCells]
  ·rw[if_neg hy]
   rw[if_neg (show ¬ (badW y.e).e=0 from hy)]
   have hy':¬ (y.e:Int)=0:=by omega
   have hbe:(badW y.e).e=y.e:=rfl
   rw[hbe]
   refine ⟨.box [.p (.i .i64 tk),.p (.i .i64 tn),.p (.s ts),.p (.sl rows)],.box (pcs [iv xk,iv lev,iv xn,.s xs,.sl xa,.sl xt]),.box (wCs n o1 o2 Lv 0)::(O++O2++[.box (wv a x z1 z2 Ly y.e),.box (badCells y.e)]),?_⟩
   rw[k_L hb]
   rcases hO with rfl|⟨rr,gg,rfl⟩
   ·simp only[ptB,pcs,wCs,zCells,wv,badCells,List.map_cons,List.map_nil,List.cons_append,List.nil_append,List.append_nil,List.length_cons,List.length_nil,Nat.zero_add]at h1 ⊢
    rcases q1 with rfl|⟨r1,rfl⟩<;>rcases q2 with ⟨rfl,_⟩|⟨k,g,rfl,_⟩<;>simp[c52l0,leave,hlt,hlt',h1,ge0,gs0,hy,hy',t70 h,badCells]
   ·simp only[ptB,pcs,wCs,zCells,wv,badCells,List.map_cons,List.map_nil,List.cons_append,List.nil_append,List.append_nil,List.length_cons,List.length_nil,Nat.zero_add]at h1 ⊢
    rcases q1 with rfl|⟨r1,rfl⟩<;>rcases q2 with ⟨rfl,_⟩|⟨k,g,rfl,_⟩<;>simp[c52l0,leave,hlt,hlt',h1,ge0,gs0,hy,hy',t70 h,badCells]
 |[],_::_,_,i,n,l,o1,o2,Lv,O,h,_,_,_,_,_,_=>by simp[PartsHyp]at h
 |[],[],_::_,i,n,l,o1,o2,Lv,O,h,_,_,_,_,_,_=>by simp[PartsHyp]at h
 |_::_,[],_,i,n,l,o1,o2,Lv,O,h,_,_,_,_,_,_=>by simp[PartsHyp]at h
 |_::_,_::_,[],i,n,l,o1,o2,Lv,O,h,_,_,_,_,_,_=>by simp[PartsHyp]at h
end Go.Proofs.Z
end
