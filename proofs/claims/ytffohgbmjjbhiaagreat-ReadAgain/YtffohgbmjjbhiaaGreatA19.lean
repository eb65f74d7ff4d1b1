/- A part of the proof. -/
import Derived.Test.YtffohgbmjjbhiaaGreatA18
set_option linter.all false
section
namespace Go.Proofs.Z
open Go Go.Proofs
attribute [local simp] k_nil k_ops k_opsg kG_true kG_false kO_val kO_pan k_seq kS_n kS_r kS_e kS_p k_o kR_n kR_p kD2_n kD1_n k_d k_c kC_t kC_f k_b kB_n kB_r kB_p kB_e k_skip k_ret k_exit k_l kL_s kLp_n kLp_r kLp_e kLp_p k_f kF_n kF_r kF_p kV_f kV_t kN_s evOp evBin gOK opd opds lk put restr iEv evRes whole norm normL one Out.below below belowL bOb evStore evLoad evLen AV.cells AV.flat PV.flat splice fillAt pcs isStr rowsOf Res.of evCmp lvE leafEq asInt noIdAt noId noIdL tids chkOK
variable {pg:Prg}{G:Heap}
theorem at_arrN {call:CallF}{f sz id len g s:Nat}{rows:List (List PV)}{r:List AV}{out:Out}{os:Heap}(hk:keepA pg f=false)(hG:G[id]?=some (.arr sz rows g s))(hl:len=rows.length)(hr:flatAL r=true)(hc:call f (.p (.sl rows)::r) []=some (out,os)) :
  eCA pg call f (.arr id len g::r) G=some (out.back [] G.length,G.set id (.arr sz rows g (Nat.max s len))++os.map (backObj [] G.length)):=by
 subst hl
 unfold eCA
 rw[hk]
 simp only[expL,exp,norm,hG,Bool.false_eq_true,if_false,Nat.le_refl,and_self,if_true,List.take_length]
 rw[flatAL_exp _ _ hr]
 dsimp only
 have:∀ (k:Nat) (G':Heap),eOs (k+1) ⟨[],G'⟩ 0=some ([],⟨[],G'⟩):=fun k G'=>by simp[eOs]
 rw[this]
 dsimp only
 rw[hc]
 simp[setAll]
theorem t71a (h:Std pg){id g s v:Nat}{l:List End}(hl:l.length<2 ^ 40)(hG:G[id]?=some (.arr 3 (l.map End.enc) g s)) :
  eCA pg (E pg) 71 [.arr id l.length g,.p (.i .i64 v)] G=some (.ret (.p (.i .i64 (idxInt (findE l v)))),G.set id (.arr 3 (l.map End.enc) g (Nat.max s l.length))):=by
 rw[at_arrN (h.keep (x:=c71) rfl) hG (by simp) rfl (s71 h hl)]
 simp[Out.back,Z.back]
theorem t71n (h:Std pg){v:Nat}:eCA pg (E pg) 71 [.nils,.p (.i .i64 v)] G=some (.ret (.p (.i .i64 (-1))),G):=by
 have:=at_pure (pg:=pg) (G:=G) (s71 (l:=[]) (v:=v) h (by simp)) rfl rfl
 have e:idxInt (findE [] v)=-1:=rfl
 rw[e]at this
 rw[← this]
 refine at_norm fun e=>?_
 simp[show keepA pg 71=false from h.keep (x:=c71) rfl,exp,expL]
theorem t98a (h:Std pg){id g s:Nat}{l:List End}{x:End}(hl:l.length<2 ^ 20)(hG:G[id]?=some (.arr 3 (l.map End.enc) g s)):∃ (g':Nat) (tl:Heap),
  eCA pg (E pg) 98 [.arr id l.length g,.ag (xCells x)] G=some (.ret (.arr (G.length+1) (withE l x).length g'),G.set id (.arr 3 (l.map End.enc) g (Nat.max s l.length))++.box (xCells x)::.arr 3 ((withE l x).map End.enc) g' 0::tl):=by
 obtain ⟨g',tl,hs⟩:=s98 (x:=x) h hl
 refine ⟨g',tl.map (backObj [] G.length),?_⟩
 rw[at_arrN (h.keep (x:=c98) rfl) hG (by simp) rfl hs]
 simp[Out.back,back,backL,backId,backObj,setAll,xCells]
theorem t98n (h:Std pg){x:End}:∃ (g':Nat) (tl:Heap),eCA pg (E pg) 98 [.nils,.ag (xCells x)] G=some (.ret (.arr (G.length+1) 1 g'),G++.box (xCells x)::.arr 3 [x.enc] g' 0::tl):=by
 obtain ⟨g',tl,hs⟩:=t98 (l:=[]) (x:=x) h (by simp)
 refine ⟨g',tl G.length,?_⟩
 rw[show withE [] x=[x] from rfl]at hs
 rw[show eCA pg (E pg) 98 [.nils,.ag (xCells x)] G=eCA pg (E pg) 98 [.p (.sl ([].map End.enc)),.ag (xCells x)] G from at_norm fun e=>by simp[show keepA pg 98=false from h.keep (x:=c98) rfl,exp,expL,xCells],hs G]
 rfl
def fanN (lev:Nat):Node:=⟨4,lev,0,[],[],[]⟩
theorem fan_ok {lev:Nat}(h:lev≤60):(fanN lev).ok=true:=Node.ok_mk (by omega) rfl (by omega) h (by simp) (by simp) (by omega)
def mergeGo (lev:Nat):Net→List End→List End→Net×List End×Nat
 |n,l,[]=>(n,l,0)
 |n,l,x::r=>match findE l x.v with
  |none=>mergeGo lev n (withE l x) r
  |some k=>if (n.made (fanN lev)).2.2=0 then
    mergeGo lev (((n.made (fanN lev)).1.rlink ⟨(n.made (fanN lev)).2.1,1⟩ (l.getD k default).p).rlink ⟨(n.made (fanN lev)).2.1,2⟩ x.p) (l.set k ⟨(l.getD k default).v,⟨(n.made (fanN lev)).2.1,0⟩⟩) r
   else (((n.made (fanN lev)).1.rlink ⟨(n.made (fanN lev)).2.1,1⟩ (l.getD k default).p).rlink ⟨(n.made (fanN lev)).2.1,2⟩ x.p,l.set k ⟨(l.getD k default).v,⟨(n.made (fanN lev)).2.1,0⟩⟩,(n.made (fanN lev)).2.2)
theorem mergeGo_wi {lev:Nat}:∀ (r:List End) {n:Net} {l:List End},WI n→WI (mergeGo lev n l r).1
 |[],n,l,h=>h
 |x::r,n,l,h=>by
  unfold mergeGo
  split
  ·exact mergeGo_wi r h
  ·split
   ·exact mergeGo_wi r (((h.made (by simp[fanN]) fan_ok).rlink _ _).rlink _ _)
   ·exact ((h.made (by simp[fanN]) fan_ok).rlink _ _).rlink _ _
theorem mergeGo_len {lev:Nat}:∀ (r:List End) (n:Net) (l:List End),(mergeGo lev n l r).2.1.length≤l.length+r.length
 |[],n,l=>by simp[mergeGo]
 |x::r,n,l=>by
  unfold mergeGo
  split
  ·have:=mergeGo_len (lev:=lev) r n (withE l x)
   have h2:=withE_len l x
   simp;omega
  ·split
   ·refine Nat.le_trans (mergeGo_len r _ _) ?_
    simp
   ·simp
theorem l73_1 (h:Std pg){body:CCode}(hb:body=c73l0){lev:Nat}{o1 o2:Int}{gw:Nat}:∀ (rest pre l:List End) (n:Net) (g:Nat),WI n→(pre++rest).length<2 ^ 18→l.length+rest.length<2 ^ 18 →
  ∃ (j:Int) (g':Nat),L pg 1 [1,2,3,6,7] body [(1,.arr 1 l.length g),(2,.p (.i .i64 lev)),(3,.ptr 2 0),(6,.ptr 3 0),(7,.p (.i .i64 pre.length))] ([.arr 3 ((pre++rest).map End.enc) gw 0]++[.arr 3 (l.map End.enc) g 0,.box (wCs n o1 o2 (.arr 0 (pre++rest).length gw) 0),.box zCells]) =
   some (.exit 0,[(1,.arr 1 (mergeGo lev n l rest).2.1.length g'),(2,.p (.i .i64 lev)),(3,.ptr 2 0),(6,.ptr 3 0),(7,.p (.i .i64 j)),(21,.p (.b false))],[.arr 3 ((pre++rest).map End.enc) gw 0]++[.arr 3 ((mergeGo lev n l rest).2.1.map End.enc) g' 0,.box (wCs (mergeGo lev n l rest).1 o1 o2 (.arr 0 (pre++rest).length gw) (mergeGo lev n l rest).2.2),.box zCells])
 |[],pre,l,n,g,hw,hl,hl2=>by
  refine ⟨pre.length,g,?_⟩
  rw[k_L hb]
  simp[c73l0,leave,mergeGo,wCs,zCells]
 |x::r,pre,l,n,g,hw,hl,hl2=>by
  have hlp:pre.length<2 ^ 18:=by simp at hl;omega
  have hl0:l.length<2 ^ 18:=by omega
  have hg:∀ X:List PV,(List.map End.enc pre++X::List.map End.enc r)[pre.length]?=some X:=fun X=>by simp
  have hlt:pre.length<(pre++x::r).length:=by simp
  have hlt':(pre.length:Int)<((pre++x::r).length:Nat):=by omega
  simp only[List.length_append,List.length_cons,Int.natCast_add,show ((1:Nat):Int)=1 from rfl]at hlt hlt'
  cases hf:findE l x.v with
  |none =>
   have hm:mergeGo lev n l (x::r)=mergeGo lev n (withE l x) r:=by rw[mergeGo];simp only[hf]
   have hwl:=withE_len l x
   rw[hm]
   have e71:=t71a (G:=[.arr 3 ((pre++x::r).map End.enc) gw 0]++[.arr 3 (l.map End.enc) g 0,.box (wCs n o1 o2 (.arr 0 (pre++x::r).length gw) 0),.box zCells]) (id:=1) (g:=g) (s:=0) (v:=x.v) (l:=l) h (by omega) rfl
   rw[hf]at e71
   obtain ⟨g1,tl,e98⟩:=t98a (G:=[.arr 3 ((pre++x::r).map End.enc) gw 0]++[.arr 3 (l.map End.enc) g l.length,.box (wCs n o1 o2 (.arr 0 (pre++x::r).length gw) 0),.box zCells]) (id:=1) (g:=g) (s:=l.length) (l:=l) (x:=x) h (by omega) rfl
   obtain ⟨j,g',ih⟩:=l73_1 h hb (lev:=lev) (o1:=o1) (o2:=o2) (gw:=gw) r (pre++[x]) (withE l x) n g1 hw (by simpa using hl) (by simp at hl2;omega)
   refine ⟨j,g',?_⟩
   rw[k_L hb]
   simp only[wCs,zCells,xCells,show idxInt none=-1 from rfl,List.append_assoc,List.cons_append,List.nil_append,List.length_append,List.length_cons,List.length_nil,Nat.zero_add,Int.natCast_add,show ((2:Nat):Int)=2 from rfl,show ((1:Nat):Int)=1 from rfl,show ((0:Nat):Int)=0 from rfl,List.map_append,List.map_cons,End.enc,List.set_cons_succ,List.set_cons_zero]at ih e71 e98 ⊢
   simp[c73l0,leave,hlt,hlt',hg,e71,e98,w64 ((pre.length:Int)+1) (by omega) (by omega),gc,gcEnv,exp,expL,eOs,Exp.id,idxOf,List.range,List.range.loop,ih]
  |some k =>
   obtain ⟨hk,hkv,_⟩:=List.findIdx?_eq_some_iff_getElem.1 hf
   have hkv:l[k].v=x.v:=by simpa using hkv
   have hgd:l.getD k default=l[k]:=by rw[List.getD_eq_getElem?_getD,gG hk];rfl
   have hmg:mergeGo lev n l (x::r)=if (n.made (fanN lev)).2.2=0 then
    mergeGo lev (((n.made (fanN lev)).1.rlink ⟨(n.made (fanN lev)).2.1,1⟩ l[k].p).rlink ⟨(n.made (fanN lev)).2.1,2⟩ x.p) (l.set k ⟨l[k].v,⟨(n.made (fanN lev)).2.1,0⟩⟩) r
    else (((n.made (fanN lev)).1.rlink ⟨(n.made (fanN lev)).2.1,1⟩ l[k].p).rlink ⟨(n.made (fanN lev)).2.1,2⟩ x.p,l.set k ⟨l[k].v,⟨(n.made (fanN lev)).2.1,0⟩⟩,(n.made (fanN lev)).2.2):=by
    rw[mergeGo];simp only[hf,hgd]
   rw[hmg]
   have e71:=t71a (G:=[.arr 3 ((pre++x::r).map End.enc) gw 0]++[.arr 3 (l.map End.enc) g 0,.box (wCs n o1 o2 (.arr 0 (pre++x::r).length gw) 0),.box zCells]) (id:=1) (g:=g) (s:=0) (v:=x.v) (l:=l) h (by omega) rfl
   rw[hf]at e71
   have e50:=fun G=>t50s (G:=G) (k:=4) (K:=4) (lev:=lev) h rfl hw (by omega) fan_ok
   have hwm:=hw.made (x:=fanN lev) (by simp[fanN]) fan_ok
   have hcm:=Net.made_cap n (fanN lev)
   have hsh:(⟨4,lev,0,[],[],[]⟩:Node)=fanN lev:=rfl
   rw[hsh]at e50
   generalize hR:n.made (fanN lev)=R at *
   obtain ⟨m,f,err⟩:=R
   dsimp only at hwm hcm ⊢
   have e38:=fun G=>t38 (G:=G) (p:=⟨f,1⟩) (q:=l[k].p) h hwm.tiny
   have hcl:=Net.rlink_cap m ⟨f,1⟩ l[k].p
   have hw1:=hwm.rlink ⟨f,1⟩ l[k].p
   generalize hm1:m.rlink ⟨f,1⟩ l[k].p=m1 at *
   have e38':=fun G=>t38 (G:=G) (p:=⟨f,2⟩) (q:=x.p) h hw1.tiny
   have hcl':=Net.rlink_cap m1 ⟨f,2⟩ x.p
   have hw2:=hw1.rlink ⟨f,2⟩ x.p
   generalize hm2:m1.rlink ⟨f,2⟩ x.p=m2 at *
   rw[hcm]at hcl
   rw[hcl]at hcl'
   simp only[hcm,hcl,hcl']at e38 e38'
   have hgl:(List.map End.enc l)[k]?=some [iv l[k].v,iv l[k].p.node,iv l[k].p.slot]:=by rw[List.getElem?_map,gG hk];rfl
   have hgl':∀ hh:k<(List.map End.enc l).length,(List.map End.enc l)[k]=[iv l[k].v,iv l[k].p.node,iv l[k].p.slot]:=fun hh=>by rw[List.getElem_map];rfl
   have r1:roomy l.length 24=true:=by simp[roomy];omega
   have ok1:=okRows_enc okEnd l
   have t1:List.take l.length (List.map End.enc l)=List.map End.enc l:=List.take_of_length_le (by simp)
   have hset:(List.map End.enc l).set k [iv l[k].v,iv f,iv 0]=List.map End.enc (l.set k ⟨l[k].v,⟨f,0⟩⟩):=by rw[List.map_set];rfl
   have hk2:(k:Int)<l.length:=by omega
   have hk3:¬ (k:Int)<0:=by omega
   by_cases he:err=0
   ·subst he
    obtain ⟨j,g',ih⟩:=l73_1 h hb (lev:=lev) (o1:=o1) (o2:=o2) (gw:=gw) r (pre++[x]) (l.set k ⟨l[k].v,⟨f,0⟩⟩) m2 1 hw2 (by simpa using hl) (by simp at hl2 ⊢;omega)
    refine ⟨j,g',?_⟩
    rw[k_L hb,if_pos rfl]
    simp only[mkOut,wCs,zCells,xCells,hcl',idxInt,List.append_assoc,List.cons_append,List.nil_append,List.length_append,List.length_cons,List.length_nil,List.length_set,Nat.zero_add,Int.natCast_add,show ((2:Nat):Int)=2 from rfl,show ((1:Nat):Int)=1 from rfl,show ((0:Nat):Int)=0 from rfl,List.map_append,List.map_cons,End.enc,List.set_cons_succ,List.set_cons_zero,List.map_set]at ih e71 e50 e38 e38' ⊢
    simp[c73l0,leave,hlt,hlt',hg,e71,e50,e38,e38',hcl',t39 h,k39 h,k38 h,noIdAt,noId,noIdL,h.ro,hk,hk2,hk3,hgl,hgl',okZ3,evOp.fillRows,evApp,ok1,r1,t1,normP,toPL,toP,hcl,hcm,w64 ((pre.length:Int)+1) (by omega) (by omega),gc,gcEnv,exp,expL,eOs,Exp.id,idxOf,List.range,List.range.loop,ih]
    done
   ·refine ⟨pre.length+1,1,?_⟩
    rw[k_L hb,if_neg he]
    have he':¬ (err:Int)=0:=by omega
    simp only[mkOut,wCs,zCells,xCells,hcl',idxInt,List.append_assoc,List.cons_append,List.nil_append,List.length_append,List.length_cons,List.length_nil,List.length_set,Nat.zero_add,Int.natCast_add,show ((2:Nat):Int)=2 from rfl,show ((1:Nat):Int)=1 from rfl,show ((0:Nat):Int)=0 from rfl,List.map_append,List.map_cons,End.enc,List.set_cons_succ,List.set_cons_zero,List.map_set]at e71 e50 e38 e38' ⊢
    simp[c73l0,leave,hlt,hlt',hg,e71,e50,e38,e38',hcl',t39 h,k39 h,k38 h,noIdAt,noId,noIdL,h.ro,hk,hk2,hk3,hgl,hgl',okZ3,evOp.fillRows,evApp,ok1,r1,t1,normP,toPL,toP,hcl,hcm,w64 ((pre.length:Int)+1) (by omega) (by omega),gc,gcEnv,exp,expL,eOs,Exp.id,idxOf,List.range,List.range.loop]
    rw[k_L hb]
    rcases Nat.eq_zero_or_pos r.length with h0|h0
    ·simp[c73l0,leave,he,he',h0]
    ·have h0':(1:Int)<r.length+1:=by omega
     simp[c73l0,leave,he,he',h0,h0']
theorem l73_2 (h:Std pg){body:CCode}(hb:body=c73l0){lev:Nat}{o1 o2:Int}{gw:Nat}{xa xc xd:Nat}{xb:List (List PV)}:∀ (rest pre l:List End) (n:Net) (g:Nat),WI n→(pre++rest).length<2 ^ 18→l.length+rest.length<2 ^ 18 →
  ∃ (j:Int) (g':Nat),L pg 2 [1,2,3,6,7] body [(1,.arr 2 l.length g),(2,.p (.i .i64 lev)),(3,.ptr 3 0),(6,.ptr 4 0),(7,.p (.i .i64 pre.length))] ([.arr 3 ((pre++rest).map End.enc) gw 0,.arr xa xb xc xd]++[.arr 3 (l.map End.enc) g 0,.box (wCs n o1 o2 (.arr 0 (pre++rest).length gw) 0),.box zCells]) =
   some (.exit 0,[(1,.arr 2 (mergeGo lev n l rest).2.1.length g'),(2,.p (.i .i64 lev)),(3,.ptr 3 0),(6,.ptr 4 0),(7,.p (.i .i64 j)),(21,.p (.b false))],[.arr 3 ((pre++rest).map End.enc) gw 0,.arr xa xb xc xd]++[.arr 3 ((mergeGo lev n l rest).2.1.map End.enc) g' 0,.box (wCs (mergeGo lev n l rest).1 o1 o2 (.arr 0 (pre++rest).length gw) (mergeGo lev n l rest).2.2),.box zCells])
 |[],pre,l,n,g,hw,hl,hl2=>by
  refine ⟨pre.length,g,?_⟩
  rw[k_L hb]
  simp[c73l0,leave,mergeGo,wCs,zCells]
 |x::r,pre,l,n,g,hw,hl,hl2=>by
  have hlp:pre.length<2 ^ 18:=by simp at hl;omega
  have hl0:l.length<2 ^ 18:=by omega
  have hg:∀ X:List PV,(List.map End.enc pre++X::List.map End.enc r)[pre.length]?=some X:=fun X=>by simp
  have hlt:pre.length<(pre++x::r).length:=by simp
  have hlt':(pre.length:Int)<((pre++x::r).length:Nat):=by omega
  simp only[List.length_append,List.length_cons,Int.natCast_add,show ((1:Nat):Int)=1 from rfl]at hlt hlt'
  cases hf:findE l x.v with
  |none =>
   have hm:mergeGo lev n l (x::r)=mergeGo lev n (withE l x) r:=by rw[mergeGo];simp only[hf]
   have hwl:=withE_len l x
   rw[hm]
   have e71:=t71a (G:=[.arr 3 ((pre++x::r).map End.enc) gw 0,.arr xa xb xc xd]++[.arr 3 (l.map End.enc) g 0,.box (wCs n o1 o2 (.arr 0 (pre++x::r).length gw) 0),.box zCells]) (id:=2) (g:=g) (s:=0) (v:=x.v) (l:=l) h (by omega) rfl
   rw[hf]at e71
   obtain ⟨g1,tl,e98⟩:=t98a (G:=[.arr 3 ((pre++x::r).map End.enc) gw 0,.arr xa xb xc xd]++[.arr 3 (l.map End.enc) g l.length,.box (wCs n o1 o2 (.arr 0 (pre++x::r).length gw) 0),.box zCells]) (id:=2) (g:=g) (s:=l.length) (l:=l) (x:=x) h (by omega) rfl
   obtain ⟨j,g',ih⟩:=l73_2 h hb (lev:=lev) (o1:=o1) (o2:=o2) (gw:=gw) (xa:=xa) (xb:=xb) (xc:=xc) (xd:=xd) r (pre++[x]) (withE l x) n g1 hw (by simpa using hl) (by simp at hl2;omega)
   refine ⟨j,g',?_⟩
   rw[k_L hb]
   simp only[wCs,zCells,xCells,show idxInt none=-1 from rfl,List.append_assoc,List.cons_append,List.nil_append,List.length_append,List.length_cons,List.length_nil,Nat.zero_add,Int.natCast_add,show ((2:Nat):Int)=2 from rfl,show ((1:Nat):Int)=1 from rfl,show ((0:Nat):Int)=0 from rfl,List.map_append,List.map_cons,End.enc,List.set_cons_succ,List.set_cons_zero]at ih e71 e98 ⊢
   simp[c73l0,leave,hlt,hlt',hg,e71,e98,w64 ((pre.length:Int)+1) (by omega) (by omega),gc,gcEnv,exp,expL,eOs,Exp.id,idxOf,List.range,List.range.loop,ih]
  |some k =>
   obtain ⟨hk,hkv,_⟩:=List.findIdx?_eq_some_iff_getElem.1 hf
   have hkv:l[k].v=x.v:=by simpa using hkv
   have hgd:l.getD k default=l[k]:=by rw[List.getD_eq_getElem?_getD,gG hk];rfl
   have hmg:mergeGo lev n l (x::r)=if (n.made (fanN lev)).2.2=0 then
    mergeGo lev (((n.made (fanN lev)).1.rlink ⟨(n.made (fanN lev)).2.1,1⟩ l[k].p).rlink ⟨(n.made (fanN lev)).2.1,2⟩ x.p) (l.set k ⟨l[k].v,⟨(n.made (fanN lev)).2.1,0⟩⟩) r
    else (((n.made (fanN lev)).1.rlink ⟨(n.made (fanN lev)).2.1,1⟩ l[k].p).rlink ⟨(n.made (fanN lev)).2.1,2⟩ x.p,l.set k ⟨l[k].v,⟨(n.made (fanN lev)).2.1,0⟩⟩,(n.made (fanN lev)).2.2):=by
    rw[mergeGo];simp only[hf,hgd]
   rw[hmg]
   have e71:=t71a (G:=[.arr 3 ((pre++x::r).map End.enc) gw 0,.arr xa xb xc xd]++[.arr 3 (l.map End.enc) g 0,.box (wCs n o1 o2 (.arr 0 (pre++x::r).length gw) 0),.box zCells]) (id:=2) (g:=g) (s:=0) (v:=x.v) (l:=l) h (by omega) rfl
   rw[hf]at e71
   have e50:=fun G=>t50s (G:=G) (k:=4) (K:=4) (lev:=lev) h rfl hw (by omega) fan_ok
   have hwm:=hw.made (x:=fanN lev) (by simp[fanN]) fan_ok
   have hcm:=Net.made_cap n (fanN lev)
   have hsh:(⟨4,lev,0,[],[],[]⟩:Node)=fanN lev:=rfl
   rw[hsh]at e50
   generalize hR:n.made (fanN lev)=R at *
   obtain ⟨m,f,err⟩:=R
   dsimp only at hwm hcm ⊢
   have e38:=fun G=>t38 (G:=G) (p:=⟨f,1⟩) (q:=l[k].p) h hwm.tiny
   have hcl:=Net.rlink_cap m ⟨f,1⟩ l[k].p
   have hw1:=hwm.rlink ⟨f,1⟩ l[k].p
   generalize hm1:m.rlink ⟨f,1⟩ l[k].p=m1 at *
   have e38':=fun G=>t38 (G:=G) (p:=⟨f,2⟩) (q:=x.p) h hw1.tiny
   have hcl':=Net.rlink_cap m1 ⟨f,2⟩ x.p
   have hw2:=hw1.rlink ⟨f,2⟩ x.p
   generalize hm2:m1.rlink ⟨f,2⟩ x.p=m2 at *
   rw[hcm]at hcl
   rw[hcl]at hcl'
   simp only[hcm,hcl,hcl']at e38 e38'
   have hgl:(List.map End.enc l)[k]?=some [iv l[k].v,iv l[k].p.node,iv l[k].p.slot]:=by rw[List.getElem?_map,gG hk];rfl
   have hgl':∀ hh:k<(List.map End.enc l).length,(List.map End.enc l)[k]=[iv l[k].v,iv l[k].p.node,iv l[k].p.slot]:=fun hh=>by rw[List.getElem_map];rfl
   have r1:roomy l.length 24=true:=by simp[roomy];omega
   have ok1:=okRows_enc okEnd l
   have t1:List.take l.length (List.map End.enc l)=List.map End.enc l:=List.take_of_length_le (by simp)
   have hset:(List.map End.enc l).set k [iv l[k].v,iv f,iv 0]=List.map End.enc (l.set k ⟨l[k].v,⟨f,0⟩⟩):=by rw[List.map_set];rfl
   have hk2:(k:Int)<l.length:=by omega
   have hk3:¬ (k:Int)<0:=by omega
   by_cases he:err=0
   ·subst he
    obtain ⟨j,g',ih⟩:=l73_2 h hb (lev:=lev) (o1:=o1) (o2:=o2) (gw:=gw) (xa:=xa) (xb:=xb) (xc:=xc) (xd:=xd) r (pre++[x]) (l.set k ⟨l[k].v,⟨f,0⟩⟩) m2 1 hw2 (by simpa using hl) (by simp at hl2 ⊢;omega)
    refine ⟨j,g',?_⟩
    rw[k_L hb,if_pos rfl]
    simp only[mkOut,wCs,zCells,xCells,hcl',idxInt,List.append_assoc,List.cons_append,List.nil_append,List.length_append,List.length_cons,List.length_nil,List.length_set,Nat.zero_add,Int.natCast_add,show ((2:Nat):Int)=2 from rfl,show ((1:Nat):Int)=1 from rfl,show ((0:Nat):Int)=0 from rfl,List.map_append,List.map_cons,End.enc,List.set_cons_succ,List.set_cons_zero,List.map_set]at ih e71 e50 e38 e38' ⊢
    simp[c73l0,leave,hlt,hlt',hg,e71,e50,e38,e38',hcl',t39 h,k39 h,k38 h,noIdAt,noId,noIdL,h.ro,hk,hk2,hk3,hgl,hgl',okZ3,evOp.fillRows,evApp,ok1,r1,t1,normP,toPL,toP,hcl,hcm,w64 ((pre.length:Int)+1) (by omega) (by omega),gc,gcEnv,exp,expL,eOs,Exp.id,idxOf,List.range,List.range.loop,ih]
    done
   ·refine ⟨pre.length+1,1,?_⟩
    rw[k_L hb,if_neg he]
    have he':¬ (err:Int)=0:=by omega
    simp only[mkOut,wCs,zCells,xCells,hcl',idxInt,List.append_assoc,List.cons_append,List.nil_append,List.length_append,List.length_cons,List.length_nil,List.length_set,Nat.zero_add,Int.natCast_add,show ((2:Nat):Int)=2 from rfl,show ((1:Nat):Int)=1 from rfl,show ((0:Nat):Int)=0 from rfl,List.map_append,List.map_cons,End.enc,List.set_cons_succ,List.set_cons_zero,List.map_set]at e71 e50 e38 e38' ⊢
    simp[c73l0,leave,hlt,hlt',hg,e71,e50,e38,e38',hcl',t39 h,k39 h,k38 h,noIdAt,noId,noIdL,h.ro,hk,hk2,hk3,hgl,hgl',okZ3,evOp.fillRows,evApp,ok1,r1,t1,normP,toPL,toP,hcl,hcm,w64 ((pre.length:Int)+1) (by omega) (by omega),gc,gcEnv,exp,expL,eOs,Exp.id,idxOf,List.range,List.range.loop]
    rw[k_L hb]
    rcases Nat.eq_zero_or_pos r.length with h0|h0
    ·simp[c73l0,leave,he,he',h0]
    ·have h0':(1:Int)<r.length+1:=by omega
     simp[c73l0,leave,he,he',h0,h0']
theorem f73 (h:Std pg){body:CCode}(hb:body=c73l0){lev:Nat}{o1 o2:Int}{gw:Nat}(x:End)(r pre l:List End)(n:Net)(g:Nat)(hw:WI n)(hl:(pre++x::r).length<2 ^ 18)(hl2:l.length+(x::r).length<2 ^ 18) :
  ∃ (j:Int) (g':Nat),L pg 2 [1,2,3,6,7] body [(1,.arr 1 l.length g),(2,.p (.i .i64 lev)),(3,.ptr 2 0),(6,.ptr 3 0),(7,.p (.i .i64 pre.length))] [.arr 3 ((pre++x::r).map End.enc) gw 0,.arr 3 (l.map End.enc) g 0,.box (wCs n o1 o2 (.arr 0 (pre++x::r).length gw) 0),.box zCells] =
   some (.exit 0,[(1,.arr 2 (mergeGo lev n l (x::r)).2.1.length g'),(2,.p (.i .i64 lev)),(3,.ptr 3 0),(6,.ptr 4 0),(7,.p (.i .i64 j)),(21,.p (.b false))],[.arr 3 ((pre++x::r).map End.enc) gw 0,.arr 3 (l.map End.enc) g l.length,.arr 3 ((mergeGo lev n l (x::r)).2.1.map End.enc) g' 0,.box (wCs (mergeGo lev n l (x::r)).1 o1 o2 (.arr 0 (pre++x::r).length gw) (mergeGo lev n l (x::r)).2.2),.box zCells]):=by
 have hlp:pre.length<2 ^ 18:=by simp at hl;omega
 have hl0:l.length<2 ^ 18:=by omega
 have hg:∀ X:List PV,(List.map End.enc pre++X::List.map End.enc r)[pre.length]?=some X:=fun X=>by simp
 have hlt:pre.length<(pre++x::r).length:=by simp
 have hlt':(pre.length:Int)<((pre++x::r).length:Nat):=by omega
 simp only[List.length_append,List.length_cons,Int.natCast_add,show ((1:Nat):Int)=1 from rfl]at hlt hlt'
 cases hf:findE l x.v with
 |none =>
  have hm:mergeGo lev n l (x::r)=mergeGo lev n (withE l x) r:=by rw[mergeGo];simp only[hf]
  have hwl:=withE_len l x
  rw[hm]
  have e71:=t71a (G:=[.arr 3 ((pre++x::r).map End.enc) gw 0,.arr 3 (l.map End.enc) g 0,.box (wCs n o1 o2 (.arr 0 (pre++x::r).length gw) 0),.box zCells]) (id:=1) (g:=g) (s:=0) (v:=x.v) (l:=l) h (by omega) rfl
  rw[hf]at e71
  obtain ⟨g1,tl,e98⟩:=t98a (G:=[.arr 3 ((pre++x::r).map End.enc) gw 0,.arr 3 (l.map End.enc) g l.length,.box (wCs n o1 o2 (.arr 0 (pre++x::r).length gw) 0),.box zCells]) (id:=1) (g:=g) (s:=l.length) (l:=l) (x:=x) h (by omega) rfl
  obtain ⟨j,g',ih⟩:=l73_2 h hb (lev:=lev) (o1:=o1) (o2:=o2) (gw:=gw) (xa:=3) (xb:=l.map End.enc) (xc:=g) (xd:=l.length) r (pre++[x]) (withE l x) n g1 hw (by simpa using hl) (by simp at hl2;omega)
  refine ⟨j,g',?_⟩
  rw[k_L hb]
  simp only[wCs,zCells,xCells,show idxInt none=-1 from rfl,List.append_assoc,List.cons_append,List.nil_append,List.length_append,List.length_cons,List.length_nil,Nat.zero_add,Int.natCast_add,show ((2:Nat):Int)=2 from rfl,show ((1:Nat):Int)=1 from rfl,show ((0:Nat):Int)=0 from rfl,List.map_append,List.map_cons,End.enc,List.set_cons_succ,List.set_cons_zero]at ih e71 e98 ⊢
  simp[c73l0,leave,hlt,hlt',hg,e71,e98,w64 ((pre.length:Int)+1) (by omega) (by omega),gc,gcEnv,exp,expL,eOs,Exp.id,idxOf,List.range,List.range.loop,ih]
 |some k =>
  obtain ⟨hk,hkv,_⟩:=List.findIdx?_eq_some_iff_getElem.1 hf
  have hkv:l[k].v=x.v:=by simpa using hkv
  have hgd:l.getD k default=l[k]:=by rw[List.getD_eq_getElem?_getD,gG hk];rfl
  have hmg:mergeGo lev n l (x::r)=if (n.made (fanN lev)).2.2=0 then
   mergeGo lev (((n.made (fanN lev)).1.rlink ⟨(n.made (fanN lev)).2.1,1⟩ l[k].p).rlink ⟨(n.made (fanN lev)).2.1,2⟩ x.p) (l.set k ⟨l[k].v,⟨(n.made (fanN lev)).2.1,0⟩⟩) r
   else (((n.made (fanN lev)).1.rlink ⟨(n.made (fanN lev)).2.1,1⟩ l[k].p).rlink ⟨(n.made (fanN lev)).2.1,2⟩ x.p,l.set k ⟨l[k].v,⟨(n.made (fanN lev)).2.1,0⟩⟩,(n.made (fanN lev)).2.2):=by
   rw[mergeGo];simp only[hf,hgd]
  rw[hmg]
  have e71:=t71a (G:=[.arr 3 ((pre++x::r).map End.enc) gw 0,.arr 3 (l.map End.enc) g 0,.box (wCs n o1 o2 (.arr 0 (pre++x::r).length gw) 0),.box zCells]) (id:=1) (g:=g) (s:=0) (v:=x.v) (l:=l) h (by omega) rfl
  rw[hf]at e71
  have e50:=fun G=>t50s (G:=G) (k:=4) (K:=4) (lev:=lev) h rfl hw (by omega) fan_ok
  have hwm:=hw.made (x:=fanN lev) (by simp[fanN]) fan_ok
  have hcm:=Net.made_cap n (fanN lev)
  have hsh:(⟨4,lev,0,[],[],[]⟩:Node)=fanN lev:=rfl
  rw[hsh]at e50
  generalize hR:n.made (fanN lev)=R at *
  obtain ⟨m,f,err⟩:=R
  dsimp only at hwm hcm ⊢
  have e38:=fun G=>t38 (G:=G) (p:=⟨f,1⟩) (q:=l[k].p) h hwm.tiny
  have hcl:=Net.rlink_cap m ⟨f,1⟩ l[k].p
  have hw1:=hwm.rlink ⟨f,1⟩ l[k].p
  generalize hm1:m.rlink ⟨f,1⟩ l[k].p=m1 at *
  have e38':=fun G=>t38 (G:=G) (p:=⟨f,2⟩) (q:=x.p) h hw1.tiny
  have hcl':=Net.rlink_cap m1 ⟨f,2⟩ x.p
  have hw2:=hw1.rlink ⟨f,2⟩ x.p
  generalize hm2:m1.rlink ⟨f,2⟩ x.p=m2 at *
  rw[hcm]at hcl
  rw[hcl]at hcl'
  simp only[hcm,hcl,hcl']at e38 e38'
  have hgl:(List.map End.enc l)[k]?=some [iv l[k].v,iv l[k].p.node,iv l[k].p.slot]:=by rw[List.getElem?_map,gG hk];rfl
  have hgl':∀ hh:k<(List.map End.enc l).length,(List.map End.enc l)[k]=[iv l[k].v,iv l[k].p.node,iv l[k].p.slot]:=fun hh=>by rw[List.getElem_map];rfl
  have r1:roomy l.length 24=true:=by simp[roomy];omega
  have ok1:=okRows_enc okEnd l
  have t1:List.take l.length (List.map End.enc l)=List.map End.enc l:=List.take_of_length_le (by simp)
  have hset:(List.map End.enc l).set k [iv l[k].v,iv f,iv 0]=List.map End.enc (l.set k ⟨l[k].v,⟨f,0⟩⟩):=by rw[List.map_set];rfl
  have hk2:(k:Int)<l.length:=by omega
  have hk3:¬ (k:Int)<0:=by omega
  by_cases he:err=0
  ·subst he
   obtain ⟨j,g',ih⟩:=l73_2 h hb (lev:=lev) (o1:=o1) (o2:=o2) (gw:=gw) (xa:=3) (xb:=l.map End.enc) (xc:=g) (xd:=l.length) r (pre++[x]) (l.set k ⟨l[k].v,⟨f,0⟩⟩) m2 1 hw2 (by simpa using hl) (by simp at hl2 ⊢;omega)
   refine ⟨j,g',?_⟩
   rw[k_L hb,if_pos rfl]
   simp only[mkOut,wCs,zCells,xCells,hcl',idxInt,List.append_assoc,List.cons_append,List.nil_append,List.length_append,List.length_cons,List.length_nil,List.length_set,Nat.zero_add,Int.natCast_add,show ((2:Nat):Int)=2 from rfl,show ((1:Nat):Int)=1 from rfl,show ((0:Nat):Int)=0 from rfl,List.map_append,List.map_cons,End.enc,List.set_cons_succ,List.set_cons_zero,List.map_set]at ih e71 e50 e38 e38' ⊢
   simp[c73l0,leave,hlt,hlt',hg,e71,e50,e38,e38',hcl',t39 h,k39 h,k38 h,noIdAt,noId,noIdL,h.ro,hk,hk2,hk3,hgl,hgl',okZ3,evOp.fillRows,evApp,ok1,r1,t1,normP,toPL,toP,hcl,hcm,w64 ((pre.length:Int)+1) (by omega) (by omega),gc,gcEnv,exp,expL,eOs,Exp.id,idxOf,List.range,List.range.loop,ih]
   done
  ·refine ⟨pre.length+1,1,?_⟩
   rw[k_L hb,if_neg he]
   have he':¬ (err:Int)=0:=by omega
   simp only[mkOut,wCs,zCells,xCells,hcl',idxInt,List.append_assoc,List.cons_append,List.nil_append,List.length_append,List.length_cons,List.length_nil,List.length_set,Nat.zero_add,Int.natCast_add,show ((2:Nat):Int)=2 from rfl,show ((1:Nat):Int)=1 from rfl,show ((0:Nat):Int)=0 from rfl,List.map_append,List.map_cons,End.enc,List.set_cons_succ,List.set_cons_zero,List.map_set]at e71 e50 e38 e38' ⊢
   simp[c73l0,leave,hlt,hlt',hg,e71,e50,e38,e38',hcl',t39 h,k39 h,k38 h,noIdAt,noId,noIdL,h.ro,hk,hk2,hk3,hgl,hgl',okZ3,evOp.fillRows,evApp,ok1,r1,t1,normP,toPL,toP,hcl,hcm,w64 ((pre.length:Int)+1) (by omega) (by omega),gc,gcEnv,exp,expL,eOs,Exp.id,idxOf,List.range,List.range.loop]
   rw[k_L hb]
   rcases Nat.eq_zero_or_pos r.length with h0|h0
   ·simp[c73l0,leave,he,he',h0]
   ·have h0':(1:Int)<r.length+1:=by omega
    simp[c73l0,leave,he,he',h0,h0']
theorem n73 (h:Std pg){body:CCode}(hb:body=c73l0){lev:Nat}{o1 o2:Int}{gw:Nat}(x:End)(r:List End)(n:Net)(hw:WI n)(hl:(x::r).length<2 ^ 17) :
  ∃ (j:Int) (g':Nat),L pg 1 [1,2,3,6,7] body [(1,.nils),(2,.p (.i .i64 lev)),(3,.ptr 1 0),(6,.ptr 2 0),(7,.p (.i .i64 0))] [.arr 3 ((x::r).map End.enc) gw 0,.box (wCs n o1 o2 (.arr 0 (x::r).length gw) 0),.box zCells] =
   some (.exit 0,[(1,.arr 1 (mergeGo lev n [] (x::r)).2.1.length g'),(2,.p (.i .i64 lev)),(3,.ptr 2 0),(6,.ptr 3 0),(7,.p (.i .i64 j)),(21,.p (.b false))],[.arr 3 ((x::r).map End.enc) gw 0,.arr 3 ((mergeGo lev n [] (x::r)).2.1.map End.enc) g' 0,.box (wCs (mergeGo lev n [] (x::r)).1 o1 o2 (.arr 0 (x::r).length gw) (mergeGo lev n [] (x::r)).2.2),.box zCells]):=by
 have hm:mergeGo lev n [] (x::r)=mergeGo lev n [x] r:=by rw[mergeGo];rfl
 rw[hm]
 obtain ⟨g1,tl,e98⟩:=t98n (G:=[.arr 3 ((x::r).map End.enc) gw 0,.box (wCs n o1 o2 (.arr 0 (x::r).length gw) 0),.box zCells]) (x:=x) h
 obtain ⟨j,g',ih⟩:=l73_1 h hb (lev:=lev) (o1:=o1) (o2:=o2) (gw:=gw) r [x] [x] n g1 hw (by simp at hl ⊢;omega) (by simp at hl ⊢;omega)
 refine ⟨j,g',?_⟩
 rw[k_L hb]
 have hlt:(0:Int)<(r.length:Int)+1:=by omega
 simp only[wCs,zCells,xCells,List.append_assoc,List.cons_append,List.nil_append,List.length_append,List.length_cons,List.length_nil,Nat.zero_add,Int.natCast_add,show ((1:Nat):Int)=1 from rfl,show ((0:Nat):Int)=0 from rfl,List.map_append,List.map_cons,List.map_nil,End.enc]at ih e98 ⊢
 simp[c73l0,leave,hlt,t71n h,e98,w64 1 (by omega) (by omega),gc,gcEnv,exp,expL,eOs,Exp.id,idxOf,List.range,List.range.loop,ih]
end Go.Proofs.Z
end
