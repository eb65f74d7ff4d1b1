/- A part of the proof. -/
import Derived.Test.YtffohgbmjjbhiaaGreatA13
import Derived.Test.YtffohgbmjjbhiaaGreatA11
set_option linter.all false
section
namespace Go.Proofs.Z
open Go Go.Proofs
attribute [local simp] k_nil k_ops k_opsg kG_true kG_false kO_val kO_pan k_seq kS_n kS_r kS_e kS_p k_o kR_n kR_p kD2_n kD1_n k_d k_c kC_t kC_f k_b kB_n kB_r kB_p kB_e k_skip k_ret k_exit k_l kL_s kLp_n kLp_r kLp_e kLp_p k_f kF_n kF_r kF_p kV_f kV_t kN_s evOp evBin gOK opd opds lk put restr iEv evRes whole norm normL one Out.below below belowL bOb evStore evLoad evLen AV.cells AV.flat PV.flat splice fillAt pcs isStr rowsOf Res.of evCmp lvE leafEq asInt noIdAt noId noIdL tids chkOK
variable {pg:Prg}{G:Heap}
def Net.chain (n:Net)(a b:Nat):Nat→List Nat→Net
 |_,[]=>n
 |i,m::r=>match r with
  |[]=>(n.move ⟨b,i+1⟩ ⟨m,2⟩).move ⟨a,1⟩ ⟨m,1⟩
  |m'::_=>((n.move ⟨b,i+1⟩ ⟨m,2⟩).link ⟨m,1⟩ ⟨m',0⟩).chain a b (i+1) r
def ChainOK (n:Net)(a b:Nat):Nat→List Nat→Prop
 |_,[]=>True
 |i,m::r=>match r with
  |[]=>MovesOK n [(⟨b,i+1⟩,⟨m,2⟩),(⟨a,1⟩,⟨m,1⟩)]
  |m'::_=>MovesOK n [(⟨b,i+1⟩,⟨m,2⟩)]∧LinksOK (n.move ⟨b,i+1⟩ ⟨m,2⟩) [(⟨m,1⟩,⟨m',0⟩)]∧ChainOK ((n.move ⟨b,i+1⟩ ⟨m,2⟩).link ⟨m,1⟩ ⟨m',0⟩) a b (i+1) r
theorem l163b (h:Std pg){body:CCode}(hb:body=c163l1){r:List AV}{a b i1 i2 i3:Nat}{Gs:Heap}(hr:flatAL r=true)(h10:r[10]?=some (.p (.i .i64 a)))(h11:r[11]?=some (.p (.i .i64 b))){apps:List Nat}(hc:apps.length<2 ^ 20){c1 c2 c3:List AV}(hc1:flatAL c1=true)(hc3:flatAL c3=true) :
  ∀ (m j:Nat) (n:Net),j+m=apps.length→ChainOK n a b j (apps.drop j) →
   L pg 1 [0,2,4,8,82,83,84] body [(0,.ptr 0 0),(2,.p (.i .i64 apps.length)),(4,.p (.sl (ints apps))),(8,.fn 185 [] [.ptr 1 0,.ptr 2 0,.ptr 3 0]),(82,.p (.sl (ints apps))),(83,.p (.i .i64 apps.length)),(84,.p (.i .i64 j))] [.box (.p (.sl (n.nodes.map Node.enc))::.p (.i .i64 n.cap)::r),.box c1,.box [.ptr 0 0],.box c3] =
   some (.exit 2,[(0,.ptr 0 0),(2,.p (.i .i64 apps.length)),(4,.p (.sl (ints apps))),(8,.fn 185 [] [.ptr 1 0,.ptr 2 0,.ptr 3 0]),(82,.p (.sl (ints apps))),(83,.p (.i .i64 apps.length)),(84,.p (.i .i64 apps.length)),(85,.p (.b false))],[.box (.p (.sl ((n.chain a b j (apps.drop j)).nodes.map Node.enc))::.p (.i .i64 (n.chain a b j (apps.drop j)).cap)::r),.box c1,.box [.ptr 0 0],.box c3])
 |0,j,n,hm,hok=>by
  have:j=apps.length:=by omega
  subst this
  rw[k_L hb,List.drop_length]
  simp[c163l1,leave,Net.chain]
 |m+1,j,n,hm,hok=>by
  have he:∀ e,expL true e r=some (r,e):=fun e=>flatAL_exp true e hr
  have he1:∀ e,expL true e c1=some (c1,e):=fun e=>flatAL_exp true e hc1
  have he3:∀ e,expL true e c3=some (c3,e):=fun e=>flatAL_exp true e hc3
  have hlt:j<apps.length:=by omega
  have hz:apps.drop j=apps[j]::apps.drop (j+1):=List.drop_eq_getElem_cons hlt
  have e2:(ints apps)[j]?=some [.i .i64 apps[j]]:=by simp[ints,hlt]
  rw[hz]at hok
  rw[k_L hb,hz]
  by_cases hl:j+1<apps.length
  ·have hz2:apps.drop (j+1)=apps[j+1]::apps.drop (j+1+1):=List.drop_eq_getElem_cons hl
   have hl':(j:Int)+1<apps.length:=by omega
   rw[hz2]at hok
   obtain ⟨⟨⟨a1,a2,a3,a4⟩,_⟩,⟨⟨b1,b2,b3⟩,_⟩,hok'⟩:=hok
   rw[← hz2]at hok'
   have ih:=l163b h hb (Gs:=Gs) (i1:=i1) (i2:=i2) (i3:=i3) (c2:=c2) hr h10 h11 hc hc1 hc3 m (j+1) _ (by omega) hok'
   rw[show ((j+1:Nat):Int)=(j:Int)+1 from by omega]at ih
   have e1:=fun Gs=>t165 (Gs:=Gs) h a1 a2 a3 a4 hr
   have e3:=fun Gs=>t182 (Gs:=Gs) h b1 b2 b3 hr
   simp only[show ((0:Nat):Int)=0 from rfl,show ((1:Nat):Int)=1 from rfl,show ((2:Nat):Int)=2 from rfl,show ((j+1:Nat):Int)=(j:Int)+1 from by omega]at e1 e3
   have e4:(ints apps)[j+1]?=some [.i .i64 apps[j+1]]:=by simp[ints,hl]
   have e5:((j:Int)+1).toNat=j+1:=by omega
   have e6:(0:Int)≤(j:Int)+1:=by omega
   have hch:n.chain a b j (apps[j]::apps.drop (j+1))=((n.move ⟨b,j+1⟩ ⟨apps[j],2⟩).link ⟨apps[j],1⟩ ⟨apps[j+1],0⟩).chain a b (j+1) (apps.drop (j+1)):=by
    rw[hz2,Net.chain]
   rw[hch]
   simp[c163l1,leave,hlt,hl',okRow,h10,h11,t152 h,(show keepA pg 152=false from h.keep (x:=c152) rfl),e1,e2,e3,e4,e5,e6,w64 ((j:Int)+1) (by omega) (by omega),gc,gcEnv,exp,expL,eOs,Exp.id,idxOf,List.range,List.range.loop,he,he1,he3,ih]
  ·have hl2:j+1=apps.length:=by omega
   have hz2:apps.drop (j+1)=[]:=List.drop_eq_nil_of_le (by omega)
   have hl':¬ (j:Int)+1<apps.length:=by omega
   rw[hz2]at hok
   obtain ⟨⟨a1,a2,a3,a4⟩,⟨b1,b2,b3,b4⟩,_⟩:=hok
   have ih:=l163b h hb (Gs:=Gs) (i1:=i1) (i2:=i2) (i3:=i3) (c2:=c2) hr h10 h11 hc hc1 hc3 m (j+1) ((n.move ⟨b,j+1⟩ ⟨apps[j],2⟩).move ⟨a,1⟩ ⟨apps[j],1⟩) (by omega) (by rw[hz2];trivial)
   rw[show ((j+1:Nat):Int)=(j:Int)+1 from by omega,hz2]at ih
   have e1:=fun Gs=>t165 (Gs:=Gs) h a1 a2 a3 a4 hr
   have e3:=fun Gs=>t165 (Gs:=Gs) h b1 b2 b3 b4 hr
   simp only[show ((0:Nat):Int)=0 from rfl,show ((1:Nat):Int)=1 from rfl,show ((2:Nat):Int)=2 from rfl,show ((j+1:Nat):Int)=(j:Int)+1 from by omega]at e1 e3
   have hch:n.chain a b j (apps[j]::[])=(n.move ⟨b,j+1⟩ ⟨apps[j],2⟩).move ⟨a,1⟩ ⟨apps[j],1⟩:=by rw[Net.chain]
   rw[hz2,hch]
   simp only[Net.chain]at ih
   simp[c163l1,leave,hlt,hl',okRow,h10,h11,t152 h,e1,e2,e3,w64 ((j:Int)+1) (by omega) (by omega),gc,gcEnv,exp,expL,eOs,Exp.id,idxOf,List.range,List.range.loop,he,he1,he3,ih]
def appNode (lev:Nat):Node:=⟨3,lev,0,[],[],[]⟩
def pickRest (a alt:Nat)(x:Node):List Port:=(psF a 2 (x.to.length-2)).filter fun q=>decide (q≠⟨a,alt+2⟩)
def Net.pick1 (n:Net)(x:Node)(c:Nat):Net:=(n.like (appNode x.lev) c).1
def Net.pickA (n:Net)(x:Node)(c:Nat):List Nat:=(n.like (appNode x.lev) c).2
def Net.pick2 (n:Net)(a alt:Nat)(x:Node)(c:Nat):Net:=((n.pick1 x c).like (dropNode x.lev) (pickRest a alt x).length).1
def Net.pickD (n:Net)(a alt:Nat)(x:Node)(c:Nat):List Nat:=((n.pick1 x c).like (dropNode x.lev) (pickRest a alt x).length).2
def Net.pick3 (n:Net)(a alt:Nat)(x:Node)(c:Nat):Net:=match n.pickA x c with
 |[]=>(n.pick2 a alt x c).join ⟨a,alt+2⟩ ⟨a,1⟩
 |m::_=>(n.pick2 a alt x c).move ⟨a,alt+2⟩ ⟨m,0⟩
def Net.pick4 (n:Net)(a b alt:Nat)(x:Node)(c:Nat):Net:=(n.pick3 a alt x c).chain a b 0 (n.pickA x c)
def Net.pick (n:Net)(a b alt:Nat)(x:Node)(c:Nat):Net:=(n.pick4 a b alt x c).moves ((pickRest a alt x).zip (zero0 (n.pickD a alt x c)))
def Pick3OK (n:Net)(a alt:Nat)(x:Node)(c:Nat):Prop:=match n.pickA x c with
 |[]=>JoinsOK (n.pick2 a alt x c) [(⟨a,alt+2⟩,⟨a,1⟩)]
 |m::_=>MovesOK (n.pick2 a alt x c) [(⟨a,alt+2⟩,⟨m,0⟩)]
theorem Net.pick3_cap {n:Net}{a alt:Nat}{x:Node}{c:Nat}:(n.pick3 a alt x c).cap=(n.pick2 a alt x c).cap:=by
 unfold Net.pick3
 split
 ·unfold Net.join
  split
  ·rfl
  ·exact Net.link_cap
 ·exact Net.move_cap
theorem s163 (h:Std pg){n:Net}{x:Node}{cc:List UInt8×Nat}{r:List AV}{a b alt:Nat}(hx:n.nodes[a]?=some x)(hx1:(n.pick1 x cc.2).nodes[a]?=some x)(hcc:x.alts[alt]?=some cc)(hr:flatAL r=true)(h3:r[3]?=some (.p (.i .i64 alt)))(h10:r[10]?=some (.p (.i .i64 a)))(h11:r[11]?=some (.p (.i .i64 b)))
  (hxl:3≤x.to.length∧x.to.length<2 ^ 20) (hal:alt<2 ^ 20) (hlev:x.lev≤60) (hc:cc.2<2 ^ 20) (hl:n.nodes.length<2 ^ 20) (hu:n.used+cc.2+(pickRest a alt x).length≤n.cap)
  (h3ok:Pick3OK n a alt x cc.2) (h4ok:ChainOK (n.pick3 a alt x cc.2) a b 0 (n.pickA x cc.2)) (h5ok:MovesOK (n.pick4 a b alt x cc.2) ((pickRest a alt x).zip (zero0 (n.pickD a alt x cc.2)))) :
  E pg 163 [.ptr 0 0] [.box (.p (.sl (n.nodes.map Node.enc))::.p (.i .i64 n.cap)::r)]=some (.ret (.tup []),[.box (.p (.sl ((n.pick a b alt x cc.2).nodes.map Node.enc))::.p (.i .i64 (n.pick a b alt x cc.2).cap)::r)]):=by
 have he:∀ e,expL true e r=some (r,e):=fun e=>flatAL_exp true e hr
 have hb:=flatAL_below 1 hr
 have hb0:=flatAL_below 4 hr
 obtain ⟨M,hM⟩:∃ M,x.to.length=2+(M+1):=⟨x.to.length-3,by omega⟩
 have hM2:x.to.length-2=M+1:=by omega
 have hlA:(n.pickA x cc.2).length=cc.2:=like_len _ _ _
 have hlD:(n.pickD a alt x cc.2).length=(pickRest a alt x).length:=like_len _ _ _
 have hn1:(n.pick1 x cc.2).nodes.length≤n.nodes.length+cc.2:=like_lens _ _ _
 have hn2:(n.pick1 x cc.2).used=n.used+cc.2:=like_used (by simp[appNode]) _ _
 have hn3:(n.pick1 x cc.2).cap=n.cap:=like_cap _ _ _
 have hn4:(n.pick2 a alt x cc.2).cap=n.cap:=by unfold Net.pick2;rw[like_cap];exact hn3
 have hn5:(n.pick3 a alt x cc.2).cap=n.cap:=by rw[Net.pick3_cap];exact hn4
 have hrl:(pickRest a alt x).length≤M+1:=by
  unfold pickRest
  have:=List.length_filter_le (fun q=>decide (q≠(⟨a,alt+2⟩:Port))) (psF a 2 (x.to.length-2))
  rw[portsFrom_len]at this
  omega
 have hao:(appNode x.lev).ok=true:=by simp[appNode,Node.ok,Node.altsOK,hlev]
 have k169:keepA pg 169=false:=(show keepA pg 169=false from h.keep (x:=c169) rfl)
 have r179:roFn pg 179=true:=by rw[h.ro];rfl
 have hi:(ints (n.pickA x cc.2)).length=cc.2:=by simp[ints,hlA]
 have e1:=fun Gs=>t180n (Gs:=Gs) (n:=n) (kind:=3) (K:=3) (lev:=x.lev) (k:=cc.2) (M:=cc.2) h rfl rfl (by omega) hao (by rw[show (Node.mk 3 x.lev 0 [] [] []).ports=3 from rfl];omega) hr (by omega) (by omega) (by omega)
 rw[show Node.mk 3 x.lev 0 [] [] []=appNode x.lev from rfl,show (n.like (appNode x.lev) cc.2).1=n.pick1 x cc.2 from rfl,show (n.like (appNode x.lev) cc.2).2=n.pickA x cc.2 from rfl]at e1
 have e2:=fun Gs=>t170 (Gs:=Gs) (n:=n.pick1 x cc.2) (k0:=2) (K:=2) (m:=M) h rfl hx1 hr (by omega) (by omega)
 have e3:=l163a (n:=n.pick1 x cc.2) h rfl (a:=a) (s:=alt) (C:=.p (.i .i64 cc.2)) (A:=.p (.sl (ints (n.pickA x cc.2)))) hr rfl rfl (M:=M) (by omega) (M+1) 0 [] (by omega) (by simp)
 have hpr:(psF a 2 (M+1)).filter (fun q=>decide (q≠(⟨a,alt+2⟩:Port)))=pickRest a alt x:=by unfold pickRest;rw[hM2]
 rw[List.drop_zero,hpr,List.nil_append]at e3
 have e4:=fun Gs=>t169 (Gs:=Gs) (n:=n.pick1 x cc.2) (l:=pickRest a alt x) h hx1 hr h10 hlev (by omega) (by omega)
 rw[show ((n.pick1 x cc.2).like (dropNode x.lev) (pickRest a alt x).length).1=n.pick2 a alt x cc.2 from rfl,show ((n.pick1 x cc.2).like (dropNode x.lev) (pickRest a alt x).length).2=n.pickD a alt x cc.2 from rfl]at e4
 have e6:=l163b (r:=r) h rfl hr h10 h11 (apps:=n.pickA x cc.2) (by omega) (c1:=[.p (.sl ((pickRest a alt x).map Port.enc))]) (c2:=[]) (c3:=[.p (.sl (ints (n.pickD a alt x cc.2)))]) (i1:=0) (i2:=0) (i3:=0) (Gs:=[]) rfl rfl (n.pickA x cc.2).length 0 (n.pick3 a alt x cc.2) (by omega) (by simpa using h4ok)
 rw[List.drop_zero,show (n.pick3 a alt x cc.2).chain a b 0 (n.pickA x cc.2)=n.pick4 a b alt x cc.2 from rfl,hlA]at e6
 have e7:=t185 (pg:=pg) (n:=n.pick4 a b alt x cc.2) (r:=r) (l:=pickRest a alt x) (ds:=n.pickD a alt x cc.2) (i:=1) (j:=0) (k:=2) (Gs:=[.box [.p (.sl ((pickRest a alt x).map Port.enc))],.box [.ptr 0 0],.box [.p (.sl (ints (n.pickD a alt x cc.2)))]]) h rfl rfl rfl (by omega) (by omega) (by omega) hr (by omega) hlD h5ok
 rw[show (n.pick4 a b alt x cc.2).moves ((pickRest a alt x).zip ((n.pickD a alt x cc.2).map fun d=>(⟨d,0⟩:Port)))=n.pick a b alt x cc.2 from rfl]at e7
 simp only[show ((0:Nat):Int)=0 from rfl,Nat.reduceAdd,Nat.zero_add,show ((alt+2:Nat):Int)=(alt:Int)+2 from by omega,show ((M+1:Nat):Int)=(M:Int)+1 from by omega]at e3 e6 e7
 cases hrs:pickRest a alt x with
 |nil =>
  rw[hrs]at e3 e4 e6 e7
  simp only[accV,accH,othV,List.map_nil,List.nil_append,List.cons_append]at e3 e4 e6 e7
  have g2:=e4 [.box [.p (.i .i64 a),.p (.i .i64 ((alt:Int)+2))],.arr 2 ((psF a 2 (M+1)).map Port.enc) M 0]
  simp only[List.length_cons,List.length_nil,Nat.zero_add,Nat.reduceAdd,List.cons_append,List.nil_append]at g2
  cases hA:n.pickA x cc.2 with
  |nil =>
   have hc0:cc.2=0:=by rw[hA]at hlA;simpa using hlA.symm
   have hp3:n.pick3 a alt x cc.2=(n.pick2 a alt x cc.2).join ⟨a,alt+2⟩ ⟨a,1⟩:=by unfold Net.pick3;rw[hA]
   unfold Pick3OK at h3ok
   rw[hA]at h3ok
   obtain ⟨⟨a1,a2,a3,a4,a5,a6⟩,_⟩:=h3ok
   have g3:=fun Gs=>t178 (Gs:=Gs) h a1 a2 a3 a4 a5 a6 hr
   rw[← hp3]at g3
   simp only[show ((1:Nat):Int)=1 from rfl,show ((alt+2:Nat):Int)=(alt:Int)+2 from by omega]at g3
   rw[hA]at e1 e3 e6 hi
   rw[h.run (x:=c163) rfl (by decide) (by decide) (by decide) (by decide)]
   simp[c163,leave,h3,h10,t179 h hx hr,r179,encAr,okRow,hcc,t152 h,(show keepA pg 152=false from h.keep (x:=c152) rfl),t181 h hx hr h10,e1,e2,e3,at_nils k169,g2,eq_true hc0,hi,g3,e6,e7,w64 ((alt:Int)+2) (by omega) (by omega),gc,gcEnv,exp,expL,eOs,Exp.id,idxOf,List.range,List.range.loop,he,hb]
  |cons m0 ms =>
   have hc0:cc.2≠0:=by rw[hA]at hlA;simp at hlA;omega
   have hp3:n.pick3 a alt x cc.2=(n.pick2 a alt x cc.2).move ⟨a,alt+2⟩ ⟨m0,0⟩:=by unfold Net.pick3;rw[hA]
   unfold Pick3OK at h3ok
   rw[hA]at h3ok
   obtain ⟨⟨a1,a2,a3,a4⟩,_⟩:=h3ok
   have g3:=fun Gs=>t165 (Gs:=Gs) h a1 a2 a3 a4 hr
   rw[← hp3]at g3
   simp only[show ((0:Nat):Int)=0 from rfl,show ((alt+2:Nat):Int)=(alt:Int)+2 from by omega]at g3
   rw[hA]at e1 e3 e6 hi
   have g4:(ints (m0::ms))[0]?=some [.i .i64 m0]:=rfl
   rw[h.run (x:=c163) rfl (by decide) (by decide) (by decide) (by decide)]
   simp[c163,leave,h3,h10,t179 h hx hr,r179,encAr,okRow,hcc,t152 h,(show keepA pg 152=false from h.keep (x:=c152) rfl),t181 h hx hr h10,e1,e2,e3,at_nils k169,g2,eq_false hc0,hi,g3,g4,e6,e7,w64 ((alt:Int)+2) (by omega) (by omega),gc,gcEnv,exp,expL,eOs,Exp.id,idxOf,List.range,List.range.loop,he,hb]
 |cons q0 qs =>
  rw[hrs]at e3 e4 e6 e7
  simp only[accV,accH,othV,List.nil_append,List.cons_append]at e3 e4 e6 e7
  have g5:=e4 [.box [.p (.i .i64 a),.p (.i .i64 ((alt:Int)+2))],.arr 2 ((q0::qs).map Port.enc) qs.length (Nat.max 0 (qs.length+1)),.arr 2 ((psF a 2 (M+1)).map Port.enc) M 0]
  have g2:=at_arr (pg:=pg) (call:=E pg) (f:=169) (c:=(.p (.sl ((n.pick1 x cc.2).nodes.map Node.enc))::.p (.i .i64 (n.pick1 x cc.2).cap)::r)) (id:=1) (len:=qs.length+1) (gen:=qs.length) (Gs:=[.box [.p (.i .i64 a),.p (.i .i64 ((alt:Int)+2))],.arr 2 ((q0::qs).map Port.enc) qs.length 0,.arr 2 ((psF a 2 (M+1)).map Port.enc) M 0]) k169 rfl (by simp)
  rw[List.take_of_length_le (by simp)]at g2
  simp only[List.set_cons_succ,List.set_cons_zero]at g2
  rw[g5]at g2
  simp only[List.length_cons,List.length_nil,Nat.zero_add,Nat.reduceAdd,List.cons_append,List.nil_append]at g2
  clear e4 g5
  generalize (q0::qs).map Port.enc=R at e3 e6 e7 g2
  cases hA:n.pickA x cc.2 with
  |nil =>
   have hc0:cc.2=0:=by rw[hA]at hlA;simpa using hlA.symm
   have hp3:n.pick3 a alt x cc.2=(n.pick2 a alt x cc.2).join ⟨a,alt+2⟩ ⟨a,1⟩:=by unfold Net.pick3;rw[hA]
   unfold Pick3OK at h3ok
   rw[hA]at h3ok
   obtain ⟨⟨a1,a2,a3,a4,a5,a6⟩,_⟩:=h3ok
   have g3:=fun Gs=>t178 (Gs:=Gs) h a1 a2 a3 a4 a5 a6 hr
   rw[← hp3]at g3
   simp only[show ((1:Nat):Int)=1 from rfl,show ((alt+2:Nat):Int)=(alt:Int)+2 from by omega]at g3
   rw[hA]at e1 e3 e6 hi
   rw[h.run (x:=c163) rfl (by decide) (by decide) (by decide) (by decide)]
   simp[c163,leave,h3,h10,t179 h hx hr,r179,encAr,okRow,hcc,t152 h,(show keepA pg 152=false from h.keep (x:=c152) rfl),t181 h hx hr h10,e1,e2,e3,g2,eq_true hc0,hi,g3,e6,e7,w64 ((alt:Int)+2) (by omega) (by omega),gc,gcEnv,exp,expL,eOs,Exp.id,idxOf,List.range,List.range.loop,he,hb]
  |cons m0 ms =>
   have hc0:cc.2≠0:=by rw[hA]at hlA;simp at hlA;omega
   have hp3:n.pick3 a alt x cc.2=(n.pick2 a alt x cc.2).move ⟨a,alt+2⟩ ⟨m0,0⟩:=by unfold Net.pick3;rw[hA]
   unfold Pick3OK at h3ok
   rw[hA]at h3ok
   obtain ⟨⟨a1,a2,a3,a4⟩,_⟩:=h3ok
   have g3:=fun Gs=>t165 (Gs:=Gs) h a1 a2 a3 a4 hr
   rw[← hp3]at g3
   simp only[show ((0:Nat):Int)=0 from rfl,show ((alt+2:Nat):Int)=(alt:Int)+2 from by omega]at g3
   rw[hA]at e1 e3 e6 hi
   have g4:(ints (m0::ms))[0]?=some [.i .i64 m0]:=rfl
   rw[h.run (x:=c163) rfl (by decide) (by decide) (by decide) (by decide)]
   simp[c163,leave,h3,h10,t179 h hx hr,r179,encAr,okRow,hcc,t152 h,(show keepA pg 152=false from h.keep (x:=c152) rfl),t181 h hx hr h10,e1,e2,e3,g2,eq_false hc0,hi,g3,g4,e6,e7,w64 ((alt:Int)+2) (by omega) (by omega),gc,gcEnv,exp,expL,eOs,Exp.id,idxOf,List.range,List.range.loop,he,hb]
def Net.free2 (n:Net)(a b:Nat):Net:=(n.free (max a b)).free (min a b)
def Free2OK (n:Net)(a b:Nat):Prop:=(∃ x,n.nodes[max a b]?=some x∧x.kind≠0)∧∃ x,(n.free (max a b)).nodes[min a b]?=some x∧x.kind≠0
theorem Net.free_len (n:Net)(i:Nat):(n.free i).nodes.length≤n.nodes.length:=by
 unfold Net.free
 simp only[List.length_take,List.length_set]
 omega
theorem t147 (h:Std pg){n:Net}{i:Nat}{x:Node}(hl:n.nodes.length<2 ^ 30)(hx:n.nodes[i]?=some x)(hk:x.kind≠0) :
  eCA pg (E pg) 147 [.ag [.p (.sl (n.nodes.map Node.enc)),.p (.i .i64 n.cap)],.p (.i .i64 i)] G=some (.ret (.tup [.ag [.p (.sl ((n.free i).nodes.map Node.enc)),.p (.i .i64 n.cap)],.p (.i .i64 0)]),G):=at_pure (s147 h hl hx hk) rfl rfl
theorem maxI_nat (a b:Nat):maxI a b=((max a b:Nat):Int):=by unfold maxI;split<;>omega
theorem minI_nat (a b:Nat):minI a b=((min a b:Nat):Int):=by unfold minI;split<;>omega
theorem l145 (h:Std pg){body:CCode}(hb:body=c145l0){m:Net}{r:List AV}{a b:Nat}(hr:flatAL r=true)(hl:m.nodes.length<2 ^ 30)(hf:Free2OK m a b) :
  ∃ G',L pg 1 [0,76,77,78] body [(0,.ptr 0 0),(76,.arr 1 2 0),(77,.p (.i .i64 2)),(78,.p (.i .i64 0))] [.box (.p (.sl (m.nodes.map Node.enc))::.p (.i .i64 m.cap)::r),.arr 1 [[.i .i64 (max a b:Nat)],[.i .i64 (min a b:Nat)]] 0 0]=some (.exit 1,[(0,.ptr 0 0),(76,.arr 1 2 0),(77,.p (.i .i64 2)),(78,.p (.i .i64 2)),(79,.p (.b false))],.box (.p (.sl ((m.free2 a b).nodes.map Node.enc))::.p (.i .i64 (m.free2 a b).cap)::r)::G'):=by
 have he:∀ e,expL true e r=some (r,e):=fun e=>flatAL_exp true e hr
 obtain ⟨⟨x,hx,hxk⟩,y,hy,hyk⟩:=hf
 have hl2:=Net.free_len m (max a b)
 have e1:=fun G=>t147 (G:=G) h hl hx hxk
 have e2:=fun G=>t147 (G:=G) h (by omega) hy hyk
 have hc:(m.free (max a b)).cap=m.cap:=rfl
 rw[hc]at e2
 refine ⟨[.arr 1 [[.i .i64 (max a b:Nat)],[.i .i64 (min a b:Nat)]] 0 0],?_⟩
 have h3:L pg 1 [0,76,77,78] body [(0,.ptr 0 0),(76,.arr 1 2 0),(77,.p (.i .i64 2)),(78,.p (.i .i64 2))] [.box (.p (.sl ((m.free2 a b).nodes.map Node.enc))::.p (.i .i64 (m.free2 a b).cap)::r),.arr 1 [[.i .i64 (max a b:Nat)],[.i .i64 (min a b:Nat)]] 0 0]=some (.exit 1,[(0,.ptr 0 0),(76,.arr 1 2 0),(77,.p (.i .i64 2)),(78,.p (.i .i64 2)),(79,.p (.b false))],.box (.p (.sl ((m.free2 a b).nodes.map Node.enc))::.p (.i .i64 (m.free2 a b).cap)::r)::[.arr 1 [[.i .i64 (max a b:Nat)],[.i .i64 (min a b:Nat)]] 0 0]):=by
  rw[k_L hb]
  simp[c145l0,leave]
 have hc2:(m.free2 a b).cap=m.cap:=rfl
 rw[hc2]at h3
 have hm2:(m.free (max a b)).free (min a b)=m.free2 a b:=rfl
 rw[hm2]at e2
 generalize max a b=hi at *
 generalize min a b=lo at *
 have h2:L pg 1 [0,76,77,78] body [(0,.ptr 0 0),(76,.arr 1 2 0),(77,.p (.i .i64 2)),(78,.p (.i .i64 1))] [.box (.p (.sl ((m.free hi).nodes.map Node.enc))::.p (.i .i64 m.cap)::r),.arr 1 [[.i .i64 hi],[.i .i64 lo]] 0 0]=some (.exit 1,[(0,.ptr 0 0),(76,.arr 1 2 0),(77,.p (.i .i64 2)),(78,.p (.i .i64 2)),(79,.p (.b false))],.box (.p (.sl ((m.free2 a b).nodes.map Node.enc))::.p (.i .i64 (m.free2 a b).cap)::r)::[.arr 1 [[.i .i64 hi],[.i .i64 lo]] 0 0]):=by
  rw[k_L hb]
  simp[c145l0,leave,e2,w64 2 (by omega) (by omega),gc,gcEnv,exp,expL,eOs,Exp.id,idxOf,List.range,List.range.loop,he,h3,hc2]
 rw[hc2]at h2
 rw[k_L hb]
 simp[c145l0,leave,e1,w64 1 (by omega) (by omega),gc,gcEnv,exp,expL,eOs,Exp.id,idxOf,List.range,List.range.loop,he,h2,hc2]
theorem t162 (h:Std pg){n m:Net}{r:List AV}{f:Nat}{Gs:Heap}(hs:E pg f [.ptr 0 0] [.box (.p (.sl (n.nodes.map Node.enc))::.p (.i .i64 n.cap)::r)]=some (.ret (.tup []),[.box (.p (.sl (m.nodes.map Node.enc))::.p (.i .i64 m.cap)::r)]))(hr:flatAL r=true) :
  eCA pg (E pg) f [.ptr 0 0] (.box (.p (.sl (n.nodes.map Node.enc))::.p (.i .i64 n.cap)::r)::Gs)=some (.ret (.tup []),.box (.p (.sl (m.nodes.map Node.enc))::.p (.i .i64 m.cap)::r)::Gs) :=
 at_box0 hs rfl (by simpa [flatAL,flatA] using hr) (by simpa [flatAL,flatA] using hr) rfl
def opFn (k:Nat):Option Nat:=if k=1∨k=6 then some 162 else if k=2 then some 163 else if k=3 then some 164 else if k=5 then some 167 else if k=7 then some 168 else none
theorem s145 (h:Std pg){n m:Net}{r:List AV}{a b k f:Nat}(hr:flatAL r=true)(h0:r[0]?=some (.p (.i .i64 k)))(h10:r[10]?=some (.p (.i .i64 a)))(h11:r[11]?=some (.p (.i .i64 b)))
  (hk:opFn k=some f) (hs:E pg f [.ptr 0 0] [.box (.p (.sl (n.nodes.map Node.enc))::.p (.i .i64 n.cap)::r)]=some (.ret (.tup []),[.box (.p (.sl (m.nodes.map Node.enc))::.p (.i .i64 m.cap)::r)])) (hl:m.nodes.length<2 ^ 30) (hf:Free2OK m a b) :
  E pg 145 [.ptr 0 0] [.box (.p (.sl (n.nodes.map Node.enc))::.p (.i .i64 n.cap)::r)]=some (.ret (.tup []),[.box (.p (.sl ((m.free2 a b).nodes.map Node.enc))::.p (.i .i64 (m.free2 a b).cap)::r)]):=by
 have he:∀ e,expL true e r=some (r,e):=fun e=>flatAL_exp true e hr
 have hb:=flatAL_below 1 hr
 have e1:=fun Gs=>t162 (Gs:=Gs) h hs hr
 obtain ⟨G',hL⟩:=l145 h rfl hr hl hf
 have hk':k=1∨k=6∨k=2∨k=3∨k=5∨k=7:=by
  unfold opFn at hk
  split at hk
  ·omega
  ·split at hk
   ·omega
   ·split at hk
    ·omega
    ·split at hk
     ·omega
     ·split at hk
      ·omega
      ·cases hk
 rw[h.run (x:=c145) rfl (by decide) (by decide) (by decide) (by decide)]
 rcases hk' with rfl|rfl|rfl|rfl|rfl|rfl
 all_goals
  simp[opFn]at hk
  subst hk
  simp[c145,leave,h0,h10,h11,e1,evOp.fillRows,normP,toP,toPL,okRow,maxI_nat,minI_nat,gc,gcEnv,exp,expL,eOs,Exp.id,idxOf,List.range,List.range.loop,he,hL,hb]
def Net.out (n:Net)(a:Nat)(z:Node):Net:=(n.make z).move ⟨a,1⟩ ⟨n.place,0⟩
theorem s145o (h:Std pg){n:Net}{r:List AV}{a b:Nat}{z:Node}(hr:flatAL r=true)(h0:r[0]?=some (.p (.i .i64 4)))(hz:(r.drop 4).take 6=[.p (.i .i64 z.kind),.p (.i .i64 z.lev),.p (.i .i64 z.n),.p (.s z.name),.p (.sl (z.alts.map encAr)),.p (.sl (z.to.map Port.enc))])(hrl:10≤r.length)(h10:r[10]?=some (.p (.i .i64 a)))(h11:r[11]?=some (.p (.i .i64 b)))
  (hln:n.nodes.length<2 ^ 20) (hkz:2≤z.kind) (hzok:z.ok=true) (hzp:z.ports<2 ^ 30) (hu:n.used<n.cap) (hm:MovesOK (n.make z) [(⟨a,1⟩,⟨n.place,0⟩)]) (hl:(n.out a z).nodes.length<2 ^ 30) (hf:Free2OK (n.out a z) a b) :
  E pg 145 [.ptr 0 0] [.box (.p (.sl (n.nodes.map Node.enc))::.p (.i .i64 n.cap)::r)]=some (.ret (.tup []),[.box (.p (.sl (((n.out a z).free2 a b).nodes.map Node.enc))::.p (.i .i64 ((n.out a z).free2 a b).cap)::r)]):=by
 have he:∀ e,expL true e r=some (r,e):=fun e=>flatAL_exp true e hr
 have hb:=flatAL_below 1 hr
 obtain ⟨⟨a1,a2,a3,a4⟩,_⟩:=hm
 have e1:=fun Gs=>t166 (Gs:=Gs) h (by omega:n.nodes.length<2 ^ 30) hkz hzok hzp hu hr
 have e2:=fun Gs=>t165 (Gs:=Gs) h a1 a2 a3 a4 hr
 simp only[show ((0:Nat):Int)=0 from rfl,show ((1:Nat):Int)=1 from rfl]at e2
 rw[show (n.make z).move ⟨a,1⟩ ⟨n.place,0⟩=n.out a z from rfl]at e2
 obtain ⟨G',hL⟩:=l145 h rfl hr hl hf
 have hrl':6+6≤r.length+1+1:=by omega
 rw[h.run (x:=c145) rfl (by decide) (by decide) (by decide) (by decide)]
 simp[c145,leave,h0,h10,h11,hz,hrl',t152 h,(show keepA pg 152=false from h.keep (x:=c152) rfl),e1,e2,evOp.fillRows,normP,toP,toPL,okRow,maxI_nat,minI_nat,gc,gcEnv,exp,expL,eOs,Exp.id,idxOf,List.range,List.range.loop,he,hL,hb]
def dropPorts (b:Nat)(y:Node):List Port:=psF b 1 (y.to.length-1)
def Net.dropAll (n:Net)(b lev:Nat)(y:Node):Net:=((n.like (dropNode lev) (dropPorts b y).length).1).moves ((dropPorts b y).zip (zero0 (n.like (dropNode lev) (dropPorts b y).length).2))
theorem s145d (h:Std pg){n:Net}{r:List AV}{a b:Nat}{x y:Node}(hx:n.nodes[a]?=some x)(hy:n.nodes[b]?=some y)(hr:flatAL r=true)(h0:r[0]?=some (.p (.i .i64 8)))(h10:r[10]?=some (.p (.i .i64 a)))(h11:r[11]?=some (.p (.i .i64 b)))
  (hyl:y.to.length<2 ^ 20) (hlev:x.lev≤60) (hln:n.nodes.length<2 ^ 20) (hu:n.used+(dropPorts b y).length≤n.cap)
  (hok:MovesOK (n.like (dropNode x.lev) (dropPorts b y).length).1 ((dropPorts b y).zip (zero0 (n.like (dropNode x.lev) (dropPorts b y).length).2))) (hl:(n.dropAll b x.lev y).nodes.length<2 ^ 30) (hf:Free2OK (n.dropAll b x.lev y) a b) :
  E pg 145 [.ptr 0 0] [.box (.p (.sl (n.nodes.map Node.enc))::.p (.i .i64 n.cap)::r)]=some (.ret (.tup []),[.box (.p (.sl (((n.dropAll b x.lev y).free2 a b).nodes.map Node.enc))::.p (.i .i64 ((n.dropAll b x.lev y).free2 a b).cap)::r)]):=by
 have he:∀ e,expL true e r=some (r,e):=fun e=>flatAL_exp true e hr
 have hb:=flatAL_below 1 hr
 obtain ⟨G',hL⟩:=l145 h rfl hr hl hf
 have hdl:(dropPorts b y).length=y.to.length-1:=portsFrom_len _ _ _
 have k169:keepA pg 169=false:=(show keepA pg 169=false from h.keep (x:=c169) rfl)
 have e3:=fun Gs=>t169 (Gs:=Gs) (l:=dropPorts b y) h hx hr h10 hlev (by omega) (by omega)
 have e4:=fun Gs i j k h1 h2 h3 hij hjk hik=>t185 (i:=i) (j:=j) (k:=k) (Gs:=Gs) h h1 h2 h3 hij hjk hik hr (by omega) (like_len _ _ _) hok
 by_cases hy2:y.to.length≤1
 ·have hf0:dropPorts b y=[]:=by unfold dropPorts;rw[show y.to.length-1=0 from by omega];rfl
  have f1:=fun Gs=>t170n (Gs:=Gs) (k0:=1) (K:=1) h rfl hy hr (by omega) hy2 (by omega)
  unfold Net.dropAll at hL ⊢
  rw[hf0]at e3 e4 hL ⊢
  have e5:=e3 []
  have e6:=e4 [.box [.ptr 0 0],.box [.p (.sl [])],.box [.p (.sl (ints (n.like (dropNode x.lev) 0).2))]] 0 1 2 rfl rfl rfl (by omega) (by omega) (by omega)
  simp only[List.map_nil,List.length_nil,Nat.zero_add,Nat.reduceAdd,List.nil_append,List.cons_append,zero0]at e5 e6 hL ⊢
  rw[h.run (x:=c145) rfl (by decide) (by decide) (by decide) (by decide)]
  simp[c145,leave,h0,h10,h11,f1,at_nils k169,e5,e6,evOp.fillRows,normP,toP,toPL,okRow,maxI_nat,minI_nat,gc,gcEnv,exp,expL,eOs,Exp.id,idxOf,List.range,List.range.loop,he,hb]
  simp at hL
  rw[hL]
  simp[leave,hb]
 ·obtain ⟨v,hv'⟩:∃ v,y.to.length=1+(v+1):=⟨y.to.length-2,by omega⟩
  have f1:=fun Gs=>t170 (Gs:=Gs) (k0:=1) (K:=1) (m:=v) h rfl hy hr (by omega) (by omega)
  have hfp:psF b 1 (v+1)=dropPorts b y:=by unfold dropPorts;rw[show y.to.length-1=v+1 from by omega]
  rw[hfp]at f1
  have g2:=at_arr (pg:=pg) (call:=E pg) (f:=169) (c:=(.p (.sl (n.nodes.map Node.enc))::.p (.i .i64 n.cap)::r)) (id:=0) (len:=v+1) (gen:=v) (Gs:=[.arr 2 ((dropPorts b y).map Port.enc) v 0]) k169 rfl (by simp;omega)
  have e5:=e3 [.arr 2 ((dropPorts b y).map Port.enc) v (Nat.max 0 (v+1))]
  have e6:=e4 [.arr 2 ((dropPorts b y).map Port.enc) v (v+1),.box [.ptr 0 0],.box [.p (.sl ((dropPorts b y).map Port.enc))],.box [.p (.sl (ints (n.like (dropNode x.lev) (dropPorts b y).length).2))]] 1 2 3 rfl rfl rfl (by omega) (by omega) (by omega)
  rw[List.take_of_length_le (by simp;omega)]at g2
  rw[show [AObj.arr 2 ((dropPorts b y).map Port.enc) v 0].set 0 (.arr 2 ((dropPorts b y).map Port.enc) v (Nat.max 0 (v+1)))=[.arr 2 ((dropPorts b y).map Port.enc) v (Nat.max 0 (v+1))] from rfl,e5]at g2
  rw[show (n.like (dropNode x.lev) (dropPorts b y).length).1.moves ((dropPorts b y).zip ((n.like (dropNode x.lev) (dropPorts b y).length).2.map fun d=>(⟨d,0⟩:Port)))=n.dropAll b x.lev y from rfl]at e6
  simp only[List.length_cons,List.length_nil,Nat.zero_add,Nat.reduceAdd,List.cons_append,List.nil_append]at g2 e6
  rw[h.run (x:=c145) rfl (by decide) (by decide) (by decide) (by decide)]
  simp[c145,leave,h0,h10,h11,f1,g2,e6,evOp.fillRows,normP,toP,toPL,okRow,maxI_nat,minI_nat,gc,gcEnv,exp,expL,eOs,Exp.id,idxOf,List.range,List.range.loop,he,hL,hb]
end Go.Proofs.Z
end
section
namespace Go.Proofs.Z
theorem Port.eq_mk {r:Port}{i k:Nat}:r=⟨i,k⟩↔r.node=i∧r.slot=k:=by
 cases r;simp
theorem mem_portsFrom {p:Port}{i k m:Nat}:p∈psF i k m↔p.node=i∧k≤p.slot∧p.slot<k+m:=by
 unfold psF
 simp only[List.mem_map,List.mem_range'_1]
 constructor
 ·rintro ⟨j,hj,rfl⟩;exact ⟨rfl,hj⟩
 ·rintro ⟨rfl,h⟩;exact ⟨p.slot,h,rfl⟩
theorem portsFrom_nodup (i k m:Nat):(psF i k m).Nodup:=by
 unfold psF
 refine List.Pairwise.map _ (fun a b hab e=>hab ?_) (List.nodup_range' (step:=1))
 simpa using e
theorem mem_zero0 {p:Port}{ds:List Nat}:p∈zero0 ds↔p.node∈ds∧p.slot=0:=by
 unfold zero0
 simp only[List.mem_map]
 constructor
 ·rintro ⟨d,hd,rfl⟩;exact ⟨hd,rfl⟩
 ·rintro ⟨h1,h2⟩;exact ⟨p.node,h1,by cases p;simp_all⟩
theorem zero0_nodup {ds:List Nat}(h:ds.Nodup):(zero0 ds).Nodup:=by
 unfold zero0
 refine List.Pairwise.map _ (fun a b hab e=>hab ?_) h
 simpa using e
def Fix (n:Net)(a b:Nat)(r:Port):Prop:=n.has r∧r.node≠a∧r.node≠b∧(n.pr r).node≠a∧(n.pr r).node≠b
structure Mid (n:Net)(a b:Nat)(m:Net)(H D:Port→Prop):Prop where
 sk:m.Sk
 cap:m.cap=n.cap
 keep:∀ (i:Nat) (y:Node),n.nodes[i]?=some y→y.kind≠0→∃ y',m.nodes[i]?=some y'∧y'.bare=y.bare
 has:∀ p,m.has p↔H p
 lk:Lk m D
 len:m.nodes.length≤m.cap
 fh:∀ r,Fix n a b r→H r∧¬ D r
 fr:∀ r,Fix n a b r→m.pr r=n.pr r
 fc:∀ r,Fix n a b r→Fix n a b (n.pr r)
theorem Mid.congr {n m:Net}{a b:Nat}{H D D':Port→Prop}(h:Mid n a b m H D)(hd:∀ p,H p→(D' p↔D p)):Mid n a b m H D' :=
 ⟨h.sk,h.cap,h.keep,h.has,h.lk.congr (fun p hp=>hd p ((h.has p).1 hp)),h.len,fun r hr=>⟨(h.fh r hr).1,fun e=>(h.fh r hr).2 ((hd r (h.fh r hr).1).1 e)⟩,h.fr,h.fc⟩
theorem Mid.bare {n m m':Net}{a b:Nat}{H D D':Port→Prop}(h:Mid n a b m H D)(hb:Bare m' m)(hl:Lk m' D')(hf:∀ r,Fix n a b r→m'.pr r=m.pr r∧¬ D' r):Mid n a b m' H D':=by
 refine ⟨h.sk.bare hb,by rw[hb.1];exact h.cap,fun i y hy hk=>?_,fun p=>by rw[hb.has];exact h.has p,hl,by rw[hb.1,hb.2.1];exact h.len,fun r hr=>⟨(h.fh r hr).1,(hf r hr).2⟩,fun r hr=>(hf r hr).1.trans (h.fr r hr),h.fc⟩
 obtain ⟨y',h1,h2⟩:=h.keep i y hy hk
 obtain ⟨y'',h3,h4⟩:=hb.at h1
 exact ⟨y'',h3,h4.trans h2⟩
theorem Mid.fix {n m:Net}{a b:Nat}{H D:Port→Prop}(h:Mid n a b m H D)(r:Port)(hr:Fix n a b r):m.has r∧¬ D r∧Fix n a b (m.pr r):=by
 rw[h.fr r hr]
 exact ⟨(h.has r).2 (h.fh r hr).1,(h.fh r hr).2,h.fc r hr⟩
theorem Mid.movesZip {n m:Net}{a b:Nat}{H D:Port→Prop}(h:Mid n a b m H D){ps qs:List Port}(hl:ps.length=qs.length)(h0:∀ p,p∈ps→p.node=a∨p.node=b)(h1:∀ p,p∈ps→H p∧¬ D p)(h2:∀ q,q∈qs→H q∧D q)(n1:ps.Nodup)(n2:qs.Nodup) :
  MovesOK m (ps.zip qs)∧Mid n a b (m.moves (ps.zip qs)) H (fun r=>(D r∧r∉qs)∨r∈ps):=by
 have e1:(ps.zip qs).map (·.1)=ps:=List.map_fst_zip (by omega)
 have e2:(ps.zip qs).map (·.2)=qs:=List.map_snd_zip (by omega)
 obtain ⟨a1,a2,a3,a4⟩:=moves_ok (ps.zip qs) h.lk h.sk.tiny (fun pq hpq=>by
  obtain ⟨m1,m2⟩:=List.of_mem_zip (show (pq.1,pq.2)∈ps.zip qs from hpq)
  exact ⟨(h.has _).2 (h1 _ m1).1,(h.has _).2 (h2 _ m2).1,(h1 _ m1).2,(h2 _ m2).2⟩) (by rw[e1];exact n1) (by rw[e2];exact n2)
 rw[e1,e2]at a2
 have n0:∀ p,p∈ps→¬ Fix n a b p:=fun p hp hf=>by have:=h0 p hp;exact this.elim hf.2.1 hf.2.2.1
 refine ⟨a1,h.bare a3 a2 (fun r hr=>⟨a4 (Fix n a b) h.fix (fun pq hpq=>n0 _ (List.of_mem_zip (show (pq.1,pq.2)∈ps.zip qs from hpq)).1) r hr,fun e=>?_⟩)⟩
 rcases e with e|e
 ·exact (h.fh r hr).2 e.1
 ·exact n0 r e hr
theorem Mid.joinsZip {n m:Net}{a b:Nat}{H D:Port→Prop}(h:Mid n a b m H D){ps qs:List Port}(hl:ps.length=qs.length)(h0:∀ p,p∈ps→p.node=a∨p.node=b)(h0':∀ p,p∈qs→p.node=a∨p.node=b)(h1:∀ p,p∈ps→H p∧¬ D p)(h2:∀ q,q∈qs→H q∧¬ D q)(n1:ps.Nodup)(n2:qs.Nodup)(h3:∀ p,p∈ps→p∉qs) :
  JoinsOK m (ps.zip qs)∧Mid n a b (m.joins (ps.zip qs)) H (fun r=>D r∨r∈ps∨r∈qs):=by
 have e1:(ps.zip qs).map (·.1)=ps:=List.map_fst_zip (by omega)
 have e2:(ps.zip qs).map (·.2)=qs:=List.map_snd_zip (by omega)
 obtain ⟨a1,a2,a3,a4⟩:=joins_ok (ps.zip qs) h.lk h.sk.tiny (fun pq hpq=>by
  obtain ⟨m1,m2⟩:=List.of_mem_zip (show (pq.1,pq.2)∈ps.zip qs from hpq)
  exact ⟨(h.has _).2 (h1 _ m1).1,(h.has _).2 (h2 _ m2).1,(h1 _ m1).2,(h2 _ m2).2⟩) (by rw[e1];exact n1) (by rw[e2];exact n2) (by rw[e1,e2];exact h3)
 rw[e1,e2]at a2
 have n0:∀ p,p∈ps→¬ Fix n a b p:=fun p hp hf=>by have:=h0 p hp;exact this.elim hf.2.1 hf.2.2.1
 have n0':∀ p,p∈qs→¬ Fix n a b p:=fun p hp hf=>by have:=h0' p hp;exact this.elim hf.2.1 hf.2.2.1
 refine ⟨a1,h.bare a3 a2 (fun r hr=>⟨a4 (Fix n a b) h.fix (fun pq hpq=>⟨n0 _ (List.of_mem_zip (show (pq.1,pq.2)∈ps.zip qs from hpq)).1,n0' _ (List.of_mem_zip (show (pq.1,pq.2)∈ps.zip qs from hpq)).2⟩) r hr,fun e=>?_⟩)⟩
 rcases e with e|e|e
 ·exact (h.fh r hr).2 e
 ·exact n0 r e hr
 ·exact n0' r e hr
theorem Mid.linksZip {n m:Net}{a b:Nat}{H D:Port→Prop}(h:Mid n a b m H D){ps qs:List Port}(hl:ps.length=qs.length)(h1:∀ p,p∈ps→H p∧D p)(h2:∀ q,q∈qs→H q∧D q)(n1:ps.Nodup)(n2:qs.Nodup)(h3:∀ p,p∈ps→p∉qs) :
  LinksOK m (ps.zip qs)∧Mid n a b (m.links (ps.zip qs)) H (fun r=>D r∧r∉ps∧r∉qs):=by
 have e1:(ps.zip qs).map (·.1)=ps:=List.map_fst_zip (by omega)
 have e2:(ps.zip qs).map (·.2)=qs:=List.map_snd_zip (by omega)
 obtain ⟨a1,a2,a3,a4⟩:=links_ok (ps.zip qs) h.lk h.sk.tiny (fun pq hpq=>by
  obtain ⟨m1,m2⟩:=List.of_mem_zip (show (pq.1,pq.2)∈ps.zip qs from hpq)
  exact ⟨(h.has _).2 (h1 _ m1).1,(h.has _).2 (h2 _ m2).1,(h1 _ m1).2,(h2 _ m2).2⟩) (by rw[e1];exact n1) (by rw[e2];exact n2) (by rw[e1,e2];exact h3)
 rw[e1,e2]at a2
 exact ⟨a1,h.bare a3 a2 (fun r hr=>⟨a4 (Fix n a b) h.fix r hr,fun e=>(h.fh r hr).2 e.1⟩)⟩
theorem Mid.like {n m:Net}{a b:Nat}{H D:Port→Prop}(h:Mid n a b m H D){x:Node}(hk:2≤x.kind)(hx:x.ok=true)(hp:x.kind=8→x.to.length=x.ports)(hpos:0<x.ports){k:Nat}(hu:m.used+k≤m.cap) :
  Mid n a b (m.like x k).1 (fun p=>H p∨(p.node∈(m.like x k).2∧p.slot<x.ports)) (fun r=>D r∨r.node∈(m.like x k).2)∧(m.like x k).2.Nodup∧(∀ p,H p→p.node∉(m.like x k).2)∧(m.like x k).1.used=m.used+k∧(m.like x k).2.length=k:=by
 have hL:=likes_ok hk hx hp hpos k h.sk hu
 refine ⟨⟨hL.sk,by rw[hL.cap];exact h.cap,fun i y hy hky=>?_,fun p=>?_,hL.lk _ h.lk,hL.sk.len.2,fun r hr=>⟨.inl (h.fh r hr).1,fun e=>?_⟩,fun r hr=>(hL.pr r ((h.has r).2 (h.fh r hr).1)).trans (h.fr r hr),h.fc⟩,hL.nodup,fun p hp=>hL.fresh p ((h.has p).2 hp),by rw[hL.used,like_len],like_len _ _ _⟩
 ·obtain ⟨y',h1,h2⟩:=h.keep i y hy hky
  exact ⟨y',hL.keep _ _ h1 (by rw[(Node.bare_ok h2).2.2.1];exact hky),h2⟩
 ·rw[hL.has,h.has]
 ·rcases e with e|e
  ·exact (h.fh r hr).2 e
  ·exact hL.fresh r ((h.has r).2 (h.fh r hr).1) e
theorem Mid.make {n m:Net}{a b:Nat}{H D:Port→Prop}(h:Mid n a b m H D){x:Node}(hk:2≤x.kind)(hx:x.ok=true)(hp:x.kind=8→x.to.length=x.ports)(hpos:0<x.ports)(hu:m.used<m.cap) :
  Mid n a b (m.make x) (fun p=>H p∨(p.node=m.place∧p.slot<x.ports)) (fun r=>D r∨r.node=m.place)∧(∀ p,H p→p.node≠m.place)∧(m.make x).used=m.used+1:=by
 obtain ⟨a1,a2,a3,a4,a5⟩:=h.like hk hx hp hpos (k:=1) (by omega)
 simp only[Net.like,List.mem_singleton]at a1 a3 a4
 exact ⟨a1,a3,a4⟩
structure Done (n m:Net)(a b:Nat):Prop where
 free:Free2OK m a b
 ok:(m.free2 a b).Ok
 len:m.nodes.length<2 ^ 30
 cap:(m.free2 a b).cap=n.cap
 fix:∀ r,Fix n a b r→(m.free2 a b).has r∧(m.free2 a b).pr r=n.pr r
 keep:∀ (i:Nat) (y:Node),i≠a→i≠b→n.nodes[i]?=some y→y.kind≠0→∃ y',(m.free2 a b).nodes[i]?=some y'∧y'.bare=y.bare
theorem Mid.finish {n m:Net}{a b:Nat}{H D:Port→Prop}(h:Mid n a b m H D)(hab:a≠b){x y:Node}(hx:n.nodes[a]?=some x)(hy:n.nodes[b]?=some y)(kx:2≤x.kind)(ky:2≤y.kind)(hD:∀ p,H p→(D p↔p.node=a∨p.node=b)) :
  Done n m a b:=by
 have h':=h.congr (D':=fun p=>p.node=a∨p.node=b) (fun p hp=>(hD p hp).symm)
 obtain ⟨x',hx1,hx2⟩:=h.keep a x hx (by omega)
 obtain ⟨y',hy1,hy2⟩:=h.keep b y hy (by omega)
 have kx':=(Node.bare_ok hx2).2.2.1
 have ky':=(Node.bare_ok hy2).2.2.1
 have ha0:a≠0:=fun e=>by
  have:=(h.sk.node a x' hx1).2.2.2 e
  omega
 have hb0:b≠0:=fun e=>by
  have:=(h.sk.node b y' hy1).2.2.2 e
  omega
 have hlen:=h.sk.len
 have hcap:=h.sk.cap
 have s1:=h.sk.free (i:=max a b) (by omega)
 have s2:=s1.free (i:=min a b) (by omega)
 have l1:=h'.lk.free h.sk (i:=max a b) (fun p _ hp=>by show p.node=a∨p.node=b;omega)
 have l2:=l1.free s1 (i:=min a b) (fun p _ hp=>by show p.node=a∨p.node=b;omega)
 refine ⟨?_,s2.ok l2 (fun p hp=>?_),by omega,h.cap,fun r hr=>?_,fun i z hia hib hz hzk=>?_⟩
 ·by_cases hlt:a<b
  ·have e1:max a b=b:=by omega
   have e2:min a b=a:=by omega
   refine ⟨?_,?_⟩
   ·rw[e1];exact ⟨y',hy1,by omega⟩
   ·rw[e1,e2];exact ⟨x',Net.free_keep hx1 (by omega) (by omega),by omega⟩
  ·have e1:max a b=a:=by omega
   have e2:min a b=b:=by omega
   refine ⟨?_,?_⟩
   ·rw[e1];exact ⟨x',hx1,by omega⟩
   ·rw[e1,e2];exact ⟨y',Net.free_keep hy1 (by omega) (by omega),by omega⟩
 ·have h1:=s1.free_has.1 hp
  have h2:=h.sk.free_has.1 h1.1
  show ¬ (p.node=a∨p.node=b)
  omega
 ·obtain ⟨f1,f2,f3,f4,f5⟩:=hr
  have q1:(m.free (max a b)).has r:=h.sk.free_has.2 ⟨(h.has r).2 (h.fh r ⟨f1,f2,f3,f4,f5⟩).1,by omega⟩
  have q2:((m.free (max a b)).free (min a b)).has r:=s1.free_has.2 ⟨q1,by omega⟩
  refine ⟨q2,?_⟩
  show ((m.free (max a b)).free (min a b)).pr r=n.pr r
  rw[s1.free_pr q2,h.sk.free_pr q1]
  exact h.fr r ⟨f1,f2,f3,f4,f5⟩
 ·obtain ⟨z',hz1,hz2⟩:=h.keep i z hz hzk
  have hzk':z'.kind≠0:=by rw[(Node.bare_ok hz2).2.2.1];exact hzk
  exact ⟨z',Net.free_keep (Net.free_keep hz1 hzk' (by omega)) hzk' (by omega),hz2⟩
structure Two (n:Net)(a b:Nat)(x y:Node):Prop where
 ok:n.Ok
 hx:n.nodes[a]?=some x
 hy:n.nodes[b]?=some y
 x1:1≤x.to.length
 y1:1≤y.to.length
 pr:n.pr ⟨a,0⟩=⟨b,0⟩
theorem Two.ne {n:Net}{a b:Nat}{x y:Node}(h:Two n a b x y):a≠b:=by
 have h1:=h.ok.lk ⟨a,0⟩ ⟨x,h.hx,h.x1⟩ id
 intro e
 rw[h.pr,e]at h1
 exact h1.2.2.2 rfl
theorem Two.back {n:Net}{a b:Nat}{x y:Node}(h:Two n a b x y):n.pr ⟨b,0⟩=⟨a,0⟩:=by
 have h1:=h.ok.lk ⟨a,0⟩ ⟨x,h.hx,h.x1⟩ id
 rw[h.pr]at h1
 exact h1.2.2.1
theorem Two.swap {n:Net}{a b:Nat}{x y:Node}(h:Two n a b x y):Two n b a y x:=⟨h.ok,h.hy,h.hx,h.y1,h.x1,h.back⟩
theorem Two.st {n:Net}{a b:Nat}{x y:Node}(h:Two n a b x y):Mid n a b n n.has (fun r=>r=⟨a,0⟩∨r=⟨b,0⟩):=by
 refine ⟨h.ok.sk,rfl,fun i y hy _=>⟨y,hy,rfl⟩,fun p=>.rfl,fun p hp hD=>?_,h.ok.len.2,fun r hr=>⟨hr.1,fun e=>?_⟩,fun r hr=>rfl,fun r hr=>?_⟩
 ·obtain ⟨a1,a2,a3,a4⟩:=h.ok.lk p hp id
  refine ⟨a1,fun e=>hD ?_,a3,a4⟩
  rcases e with e|e
  ·right;rw[← a3,e];exact h.pr
  ·left;rw[← a3,e];exact h.back
 ·rcases e with rfl|rfl
  ·exact hr.2.1 rfl
  ·exact hr.2.2.1 rfl
 ·obtain ⟨a1,a2,a3,a4⟩:=h.ok.lk r hr.1 id
  exact ⟨a1,hr.2.2.2.1,hr.2.2.2.2,by rw[a3];exact hr.2.1,by rw[a3];exact hr.2.2.1⟩
theorem Two.ha {n:Net}{a b:Nat}{x y:Node}(h:Two n a b x y)(p:Port)(hp:p.node=a):n.has p↔p.slot<x.to.length:=by
 constructor
 ·rintro ⟨z,hz,hs⟩
  rw[hp,h.hx]at hz
  cases hz
  exact hs
 ·intro hs
  exact ⟨x,by rw[hp];exact h.hx,hs⟩
theorem Two.hb {n:Net}{a b:Nat}{x y:Node}(h:Two n a b x y)(p:Port)(hp:p.node=b):n.has p↔p.slot<y.to.length:=h.swap.ha p hp
theorem Two.join {n:Net}{a b:Nat}{x y:Node}(h:Two n a b x y)(kx:2≤x.kind)(ky:2≤y.kind)(hl:x.to.length=y.to.length){m:Net}(hm:m=n.joins ((psF a 1 (x.to.length-1)).zip (psF b 1 (x.to.length-1)))) :
  JoinsOK n ((psF a 1 (x.to.length-1)).zip (psF b 1 (x.to.length-1)))∧Done n m a b:=by
 subst hm
 have ha:=h.ha
 have hb:=h.hb
 have hne:=h.ne
 have hx1:=h.x1
 obtain ⟨h1,h2⟩:=h.st.joinsZip (ps:=psF a 1 (x.to.length-1)) (qs:=psF b 1 (x.to.length-1)) (by rw[portsFrom_len,portsFrom_len]) (fun p hp=>.inl (mem_portsFrom.1 hp).1) (fun p hp=>.inr (mem_portsFrom.1 hp).1) (fun p hp=>by
  rw[mem_portsFrom]at hp
  simp only[Port.eq_mk]
  exact ⟨(ha p hp.1).2 (by omega),by omega⟩) (fun p hp=>by
  rw[mem_portsFrom]at hp
  simp only[Port.eq_mk]
  exact ⟨(hb p hp.1).2 (by omega),by omega⟩) (portsFrom_nodup _ _ _) (portsFrom_nodup _ _ _) (fun p hp hq=>by
  rw[mem_portsFrom]at hp hq
  omega)
 refine ⟨h1,h2.finish hne h.hx h.hy kx ky (fun p hp=>?_)⟩
 have ha:=ha p
 have hb:=hb p
 simp only[mem_portsFrom,Port.eq_mk]
 constructor
 ·omega
 ·rintro (e|e)
  ·have:=(ha e).1 hp;omega
  ·have:=(hb e).1 hp;omega
theorem Two.pa {n:Net}{a b:Nat}{x y:Node}(h:Two n a b x y){k:Nat}(hk:k<x.to.length):n.has ⟨a,k⟩:=⟨x,h.hx,hk⟩
theorem Two.pb {n:Net}{a b:Nat}{x y:Node}(h:Two n a b x y){k:Nat}(hk:k<y.to.length):n.has ⟨b,k⟩:=⟨y,h.hy,hk⟩
theorem Mid.moves2 {n m:Net}{a b:Nat}{H D:Port→Prop}(h:Mid n a b m H D){p q p' q':Port}(h0:p.node=a∨p.node=b)(h0':p'.node=a∨p'.node=b)(h1:H p∧¬ D p)(h2:H q∧D q)(h3:H p'∧¬ D p')(h4:H q'∧D q')(hp:p≠p')(hq:q≠q') :
  MovesOK m [(p,q),(p',q')]∧Mid n a b (m.moves [(p,q),(p',q')]) H (fun r=>(D r∧r∉[q,q'])∨r∈[p,p']) :=
 h.movesZip (ps:=[p,p']) (qs:=[q,q']) rfl (by simp;exact ⟨h0,h0'⟩) (by simp;exact ⟨h1,h3⟩) (by simp;exact ⟨h2,h4⟩) (by simpa using hp) (by simpa using hq)
theorem Mid.moves1 {n m:Net}{a b:Nat}{H D:Port→Prop}(h:Mid n a b m H D){p q:Port}(h0:p.node=a∨p.node=b)(h1:H p∧¬ D p)(h2:H q∧D q) :
  MovesOK m [(p,q)]∧Mid n a b (m.move p q) H (fun r=>(D r∧r≠q)∨r=p):=by
 obtain ⟨a1,a2⟩:=h.movesZip (ps:=[p]) (qs:=[q]) rfl (by simpa using h0) (by simpa using h1) (by simpa using h2) (by simp) (by simp)
 exact ⟨a1,a2.congr (fun r _=>by simp)⟩
theorem Two.half {n:Net}{a b:Nat}{x y:Node}(h:Two n a b x y)(kx:2≤x.kind)(ky:2≤y.kind)(hl:x.to.length=3)(hl':y.to.length=1)(hok:(halfNode x y).ok=true)(hu:n.used<n.cap){m:Net}(hm:m=n.half a b x y) :
  MovesOK (n.make (halfNode x y)) [(⟨a,2⟩,⟨n.place,0⟩),(⟨a,1⟩,⟨n.place,1⟩)]∧Done n m a b:=by
 subst hm
 have ha:=h.ha
 have hb:=h.hb
 have hne:=h.ne
 obtain ⟨h1,h2,h3⟩:=h.st.make (x:=halfNode x y) (by show 2≤12;omega) hok (fun e=>by cases e) (by show 0<2;omega) hu
 have hp2:(halfNode x y).ports=2:=rfl
 rw[hp2]at h1
 have fa:a≠n.place:=h2 ⟨a,0⟩ (h.pa (by omega))
 have fb:b≠n.place:=h2 ⟨b,0⟩ (h.pb (by omega))
 obtain ⟨h4,h5⟩:=h1.moves2 (p:=⟨a,2⟩) (q:=⟨n.place,0⟩) (p':=⟨a,1⟩) (q':=⟨n.place,1⟩) (.inl rfl) (.inl rfl) (by simp only[Port.eq_mk];exact ⟨.inl (h.pa (by omega)),by simp only[not_or];omega⟩) (by simp)
  (by simp only[Port.eq_mk];exact ⟨.inl (h.pa (by omega)),by simp only[not_or];omega⟩) (by simp) (by simp) (by simp)
 refine ⟨h4,h5.finish hne h.hx h.hy kx ky (fun p hp=>?_)⟩
 have ha:=ha p
 have hb:=hb p
 have hf:=h2 p
 simp only[List.mem_cons,List.not_mem_nil,or_false,Port.eq_mk]
 grind
theorem Two.out {n:Net}{a b:Nat}{x y z:Node}(h:Two n a b x y)(kx:2≤x.kind)(ky:2≤y.kind)(hl:x.to.length=2)(hl':y.to.length=1)(hk:2≤z.kind)(hok:z.ok=true)(hz:z.kind=8→z.to.length=z.ports)(hz1:z.ports=1)(hu:n.used<n.cap){m:Net}(hm:m=n.out a z) :
  MovesOK (n.make z) [(⟨a,1⟩,⟨n.place,0⟩)]∧Done n m a b:=by
 subst hm
 have ha:=h.ha
 have hb:=h.hb
 have hne:=h.ne
 obtain ⟨h1,h2,h3⟩:=h.st.make (x:=z) hk hok hz (by omega) hu
 rw[hz1]at h1
 have fa:a≠n.place:=h2 ⟨a,0⟩ (h.pa (by omega))
 have fb:b≠n.place:=h2 ⟨b,0⟩ (h.pb (by omega))
 obtain ⟨h4,h5⟩:=h1.moves1 (p:=⟨a,1⟩) (q:=⟨n.place,0⟩) (.inl rfl) (by simp only[Port.eq_mk];exact ⟨.inl (h.pa (by omega)),by simp only[not_or];omega⟩) (by simp)
 refine ⟨h4,h5.finish hne h.hx h.hy kx ky (fun p hp=>?_)⟩
 have ha:=ha p
 have hb:=hb p
 have hf:=h2 p
 simp only[ne_eq,Port.eq_mk]
 grind
theorem Two.drop {n:Net}{a b:Nat}{x y:Node}(h:Two n a b x y)(kx:2≤x.kind)(ky:2≤y.kind)(hl:x.to.length=1)(hlev:x.lev≤60)(hu:n.used+(y.to.length-1)≤n.cap){m:Net}(hm:m=n.dropAll b x.lev y) :
  MovesOK (n.like (dropNode x.lev) (dropPorts b y).length).1 ((dropPorts b y).zip (zero0 (n.like (dropNode x.lev) (dropPorts b y).length).2))∧Done n m a b:=by
 subst hm
 have ha:=h.ha
 have hb:=h.hb
 have hne:=h.ne
 have hy1:=h.y1
 obtain ⟨d1,d2⟩:=dropNode_ok hlev
 have hlen:(dropPorts b y).length=y.to.length-1:=portsFrom_len _ _ _
 obtain ⟨h1,h2,h3,h4,h5⟩:=h.st.like (x:=dropNode x.lev) (k:=(dropPorts b y).length) (by show 2≤7;omega) d1 (fun e=>by cases e) (by omega) (by omega)
 rw[d2]at h1
 unfold Net.dropAll
 generalize hC:(n.like (dropNode x.lev) (dropPorts b y).length).2=C at *
 generalize (n.like (dropNode x.lev) (dropPorts b y).length).1=m at *
 have fa:a∉C:=h3 ⟨a,0⟩ (h.pa (by omega))
 have fb:b∉C:=h3 ⟨b,0⟩ (h.pb (by omega))
 obtain ⟨h6,h7⟩:=h1.movesZip (ps:=dropPorts b y) (qs:=zero0 C) (by simp[zero0,h5]) (fun p hp=>.inr (mem_portsFrom.1 hp).1) (fun p hp=>by
  have hb:=hb p
  simp only[dropPorts,mem_portsFrom,Port.eq_mk]at hp ⊢
  grind) (fun q hq=>by
  rw[mem_zero0]at hq
  exact ⟨.inr ⟨hq.1,by omega⟩,.inr hq.1⟩) (portsFrom_nodup _ _ _) (zero0_nodup h2)
 refine ⟨h6,h7.finish hne h.hx h.hy kx ky (fun p hp=>?_)⟩
 have ha:=ha p
 have hb:=hb p
 have hf:=h3 p
 simp only[dropPorts,mem_portsFrom,Port.eq_mk,mem_zero0]
 grind
theorem Two.fail {n:Net}{a b:Nat}{x y:Node}(h:Two n a b x y)(kx:2≤x.kind)(ky:2≤y.kind)(hl:2≤x.to.length)(hlev:x.lev≤60)(hu:n.used+1+(failPorts a b x y).length≤n.cap){m:Net}(hm:m=n.fail a b x y) :
  MovesOK ((n.make (failNode x.lev)).like (dropNode x.lev) (failPorts a b x y).length).1 [(⟨a,1⟩,⟨n.place,0⟩)] ∧
  MovesOK ((((n.make (failNode x.lev)).like (dropNode x.lev) (failPorts a b x y).length).1).move ⟨a,1⟩ ⟨n.place,0⟩) ((failPorts a b x y).zip (zero0 ((n.make (failNode x.lev)).like (dropNode x.lev) (failPorts a b x y).length).2)) ∧
  Done n m a b:=by
 subst hm
 have ha:=h.ha
 have hb:=h.hb
 have hne:=h.ne
 have hy1:=h.y1
 obtain ⟨d1,d2⟩:=dropNode_ok hlev
 have hfo:(failNode x.lev).ok=true:=by simp[failNode,Node.ok,Node.altsOK,hlev]
 have hfp:(failNode x.lev).ports=1:=rfl
 obtain ⟨g1,g2,g3⟩:=h.st.make (x:=failNode x.lev) (by show 2≤13;omega) hfo (fun e=>by cases e) (by omega) (by omega)
 rw[hfp]at g1
 have gc:=g1.cap
 obtain ⟨h1,h2,h3,h4,h5⟩:=g1.like (x:=dropNode x.lev) (k:=(failPorts a b x y).length) (by show 2≤7;omega) d1 (fun e=>by cases e) (by omega) (by omega)
 rw[d2]at h1
 unfold Net.fail
 generalize hC:((n.make (failNode x.lev)).like (dropNode x.lev) (failPorts a b x y).length).2=C at *
 generalize ((n.make (failNode x.lev)).like (dropNode x.lev) (failPorts a b x y).length).1=m at *
 have fa':a≠n.place:=g2 ⟨a,0⟩ (h.pa (by omega))
 have fb':b≠n.place:=g2 ⟨b,0⟩ (h.pb (by omega))
 have fa:a∉C:=h3 ⟨a,0⟩ (.inl (h.pa (by omega)))
 have fb:b∉C:=h3 ⟨b,0⟩ (.inl (h.pb (by omega)))
 have fc:n.place∉C:=h3 ⟨n.place,0⟩ (.inr ⟨rfl,by show 0<1;omega⟩)
 have ha1:=ha ⟨a,1⟩ rfl
 obtain ⟨h6,h7⟩:=h1.moves1 (p:=⟨a,1⟩) (q:=⟨n.place,0⟩) (.inl rfl) (by simp only[Port.eq_mk];grind) (by simp)
 obtain ⟨h8,h9⟩:=h7.movesZip (ps:=failPorts a b x y) (qs:=zero0 C) (by simp[zero0,h5]) (fun p hp=>by
  simp only[failPorts,List.mem_append,mem_portsFrom]at hp
  omega) (fun p hp=>by
  have hb:=hb p
  have ha:=ha p
  simp only[failPorts,List.mem_append,mem_portsFrom,Port.eq_mk,ne_eq]at hp ⊢
  grind) (fun q hq=>by
  rw[mem_zero0]at hq
  simp only[Port.eq_mk,ne_eq]
  refine ⟨.inr ⟨hq.1,by omega⟩,.inl ⟨.inr hq.1,?_⟩⟩
  grind) (by
  unfold failPorts
  rw[List.nodup_append]
  refine ⟨portsFrom_nodup _ _ _,portsFrom_nodup _ _ _,fun p hp q hq=>?_⟩
  rw[mem_portsFrom]at hp hq
  rintro rfl
  omega) (zero0_nodup h2)
 refine ⟨h6,h8,h9.finish hne h.hx h.hy kx ky (fun p hp=>?_)⟩
 have ha:=ha p
 have hb:=hb p
 have hf:=h3 p
 have hf2:=g2 p
 simp only[failPorts,List.mem_append,mem_portsFrom,Port.eq_mk,mem_zero0,ne_eq]
 grind
theorem mem_slotk {p:Port}{k:Nat}{ds:List Nat}:p∈ds.map (fun c=>(⟨c,k⟩:Port))↔p.node∈ds∧p.slot=k:=by
 simp only[List.mem_map]
 constructor
 ·rintro ⟨d,hd,rfl⟩;exact ⟨hd,rfl⟩
 ·rintro ⟨h1,h2⟩;exact ⟨p.node,h1,by cases p;simp_all⟩
theorem slotk_nodup {k:Nat}{ds:List Nat}(h:ds.Nodup):(ds.map (fun c=>(⟨c,k⟩:Port))).Nodup:=by
 refine List.Pairwise.map _ (fun a b hab e=>hab ?_) h
 simpa using e
theorem Mid.cross {n:Net}{a b:Nat}{cs:List Nat}(hcs:cs.Nodup)(hbc:b∉cs):∀ (ms:List Nat) (k:Nat) {m:Net} {H D:Port→Prop},Mid n a b m H D→ms.Nodup→b∉ms→(∀ c,c∈cs→c∉ms) →
  (∀ p:Port,p.node∈ms→p.slot<1+cs.length→H p∧D p) →
  (∀ p:Port,p.node∈cs→k+1≤p.slot→p.slot<k+1+ms.length→H p∧D p) →
  (∀ p:Port,p.node=b→k+1≤p.slot→p.slot<k+1+ms.length→H p∧¬ D p) →
  CrossOK m b cs k ms∧Mid n a b (m.cross b cs k ms) H (fun r=>(D r∧¬ (r.node∈ms∧r.slot<1+cs.length)∧¬ (r.node∈cs∧k+1≤r.slot∧r.slot<k+1+ms.length))∨(r.node=b∧k+1≤r.slot∧r.slot<k+1+ms.length))
 |[],k,m,H,D,h,h1,h2,h3,h4,h5,h6=>by
  refine ⟨trivial,h.congr (fun p hp=>?_)⟩
  simp
  omega
 |m0::r,k,m,H,D,h,h1,h2,h3,h4,h5,h6=>by
  simp only[List.nodup_cons]at h1
  simp only[List.mem_cons,not_or,List.length_cons]at h2 h3 h4 h5 h6
  have hm0:m0∉cs:=fun e=>(h3 _ e).1 rfl
  obtain ⟨a1,a2⟩:=h.moves1 (p:=⟨b,k+1⟩) (q:=⟨m0,0⟩) (.inr rfl) (h6 _ rfl (by show k+1≤k+1;omega) (by show k+1<_;omega)) (h4 _ (.inl rfl) (by show 0<_;omega))
  have hl:(psF m0 1 cs.length).length=(cs.map fun c=>(⟨c,k+1⟩:Port)).length:=by rw[portsFrom_len];simp
  obtain ⟨a3,a4⟩:=a2.linksZip (ps:=psF m0 1 cs.length) (qs:=cs.map fun c=>(⟨c,k+1⟩:Port)) hl (fun p hp=>by
   rw[mem_portsFrom]at hp
   simp only[ne_eq,Port.eq_mk]
   have:=h4 p (.inl hp.1) (by omega)
   grind) (fun p hp=>by
   rw[mem_slotk]at hp
   simp only[ne_eq,Port.eq_mk]
   have:=h5 p hp.1 (by omega) (by omega)
   grind) (portsFrom_nodup _ _ _) (slotk_nodup hcs) (fun p hp hq=>by
   rw[mem_portsFrom]at hp
   rw[mem_slotk]at hq
   grind)
  obtain ⟨c1,c2⟩:=Mid.cross hcs hbc r (k+1) a4 h1.2 (fun e=>h2.2 e) (fun c hc=>(h3 c hc).2) (fun p hp hs=>by
   simp only[ne_eq,Port.eq_mk,mem_portsFrom,mem_slotk]
   have:=h4 p (.inr hp) hs
   grind) (fun p hp hs hs'=>by
   simp only[ne_eq,Port.eq_mk,mem_portsFrom,mem_slotk]
   have:=h5 p hp (by omega) (by omega)
   grind) (fun p hp hs hs'=>by
   simp only[ne_eq,Port.eq_mk,mem_portsFrom,mem_slotk]
   have:=h6 p hp (by omega) (by omega)
   grind)
  refine ⟨⟨a1,a3,c1⟩,c2.congr (fun p hp=>?_)⟩
  have g3:=h3 p.node
  have g4:=h4 p
  simp only[ne_eq,Port.eq_mk,mem_portsFrom,mem_slotk,List.mem_cons,List.length_cons]
  grind
theorem Two.pass {n:Net}{a b lev:Nat}{x y:Node}(h:Two n a b x y)(kx:2≤x.kind)(ky:2≤y.kind)(hoy:({ y with lev:=lev }:Node).ok=true)(hu:n.used+(x.to.length-1)+(y.to.length-1)≤n.cap){m:Net}(hm:m=n.pass a b x y lev) :
  MovesOK (n.pass2 x y lev) ((psF a 1 (x.to.length-1)).zip (zero0 (n.passC x y lev)))∧CrossOK (n.pass3 a x y lev) b (n.passC x y lev) 0 (n.passM x y lev)∧Done n m a b:=by
 subst hm
 have ha:=h.ha
 have hb:=h.hb
 have hne:=h.ne
 have hx1:=h.x1
 have hy1:=h.y1
 obtain ⟨x1,x2,x3⟩:=h.ok.node _ _ h.hx
 obtain ⟨y1,y2,y3⟩:=h.ok.node _ _ h.hy
 have hyp:({ y with lev:=lev }:Node).ports=y.ports:=rfl
 obtain ⟨g1,g2,g3,g4,g5⟩:=h.st.like (x:={ y with lev:=lev }) (k:=x.to.length-1) ky hoy (fun _=>y2) (by omega) (by omega)
 rw[hyp,← y2]at g1
 have gc:=g1.cap
 unfold Net.pass Net.pass3 Net.pass2 Net.passM Net.passC Net.pass1
 generalize hC:(n.like { y with lev:=lev } (x.to.length-1)).2=C at *
 generalize (n.like { y with lev:=lev } (x.to.length-1)).1=m1 at *
 obtain ⟨h1,h2,h3,h4,h5⟩:=g1.like (x:=x) (k:=y.to.length-1) kx x1 (fun _=>x2) (by omega) (by omega)
 rw[← x2]at h1
 generalize hM:(m1.like x (y.to.length-1)).2=M at *
 generalize (m1.like x (y.to.length-1)).1=m at *
 have fa:a∉C:=g3 ⟨a,0⟩ (h.pa (by omega))
 have fb:b∉C:=g3 ⟨b,0⟩ (h.pb (by omega))
 have fa':a∉M:=h3 ⟨a,0⟩ (.inl (h.pa (by omega)))
 have fb':b∉M:=h3 ⟨b,0⟩ (.inl (h.pb (by omega)))
 have fc:∀ c,c∈C→c∉M:=fun c hc=>h3 ⟨c,0⟩ (.inr ⟨hc,by show 0<_;omega⟩)
 obtain ⟨h6,h7⟩:=h1.movesZip (ps:=psF a 1 (x.to.length-1)) (qs:=zero0 C) (by simp[zero0,g5,portsFrom_len]) (fun p hp=>.inl (mem_portsFrom.1 hp).1) (fun p hp=>by
  have ha:=ha p
  simp only[mem_portsFrom,Port.eq_mk]at hp ⊢
  grind) (fun q hq=>by
  rw[mem_zero0]at hq
  exact ⟨.inl (.inr ⟨hq.1,by omega⟩),.inl (.inr hq.1)⟩) (portsFrom_nodup _ _ _) (zero0_nodup g2)
 obtain ⟨h8,h9⟩:=Mid.cross (a:=a) (b:=b) g2 fb M 0 h7 h2 fb' fc (fun p hp hs=>by
  simp only[mem_portsFrom,mem_zero0,Port.eq_mk]
  grind) (fun p hp hs hs'=>by
  have:=fc p.node hp
  simp only[mem_portsFrom,mem_zero0,Port.eq_mk]
  grind) (fun p hp hs hs'=>by
  have hb:=hb p
  simp only[mem_portsFrom,mem_zero0,Port.eq_mk]
  grind)
 refine ⟨h6,h8,h9.finish hne h.hx h.hy kx ky (fun p hp=>?_)⟩
 have ha:=ha p
 have hb:=hb p
 have hf:=h3 p
 have hf2:=g3 p
 have hf3:=fc p.node
 simp only[mem_portsFrom,Port.eq_mk,mem_zero0]
 grind
theorem Mid.links1 {n m:Net}{a b:Nat}{H D:Port→Prop}(h:Mid n a b m H D){p q:Port}(h1:H p∧D p)(h2:H q∧D q)(hne:p≠q) :
  LinksOK m [(p,q)]∧Mid n a b (m.link p q) H (fun r=>D r∧r≠p∧r≠q):=by
 obtain ⟨a1,a2⟩:=h.linksZip (ps:=[p]) (qs:=[q]) rfl (by simpa using h1) (by simpa using h2) (by simp) (by simp) (by simpa using hne)
 exact ⟨a1,a2.congr (fun r _=>by simp)⟩
theorem Mid.chain {n:Net}{a b:Nat}(hab:a≠b):∀ (ms:List Nat) (i:Nat) {m:Net} {H D:Port→Prop},ms≠[]→Mid n a b m H D→ms.Nodup→a∉ms→b∉ms →
  (∀ p:Port,p.node∈ms→p.slot=1∨p.slot=2→H p∧D p) →
  (∀ p:Port,p.node∈ms.tail→p.slot=0→H p∧D p) →
  (∀ p:Port,p.node=b→i+1≤p.slot→p.slot<i+1+ms.length→H p∧¬ D p) →
  (∀ p:Port,p.node=a→p.slot=1→H p∧¬ D p) →
  ChainOK m a b i ms∧Mid n a b (m.chain a b i ms) H (fun r=>(D r∧¬ (r.node∈ms∧(r.slot=1∨r.slot=2))∧¬ (r.node∈ms.tail∧r.slot=0))∨(r.node=b∧i+1≤r.slot∧r.slot<i+1+ms.length)∨(r.node=a∧r.slot=1))
 |[],i,m,H,D,h0,h,h1,h2,h3,h4,h5,h6,h7=>absurd rfl h0
 |[m0],i,m,H,D,h0,h,h1,h2,h3,h4,h5,h6,h7=>by
  simp only[List.mem_cons,List.not_mem_nil,or_false,List.length_cons,List.length_nil,List.tail_cons]at h2 h3 h4 h5 h6
  obtain ⟨a1,a2⟩:=h.moves2 (p:=⟨b,i+1⟩) (q:=⟨m0,2⟩) (p':=⟨a,1⟩) (q':=⟨m0,1⟩) (.inr rfl) (.inl rfl) (h6 _ rfl (by show i+1≤i+1;omega) (by show i+1<_;omega)) (h4 _ rfl (.inr rfl)) (h7 _ rfl rfl) (h4 _ rfl (.inl rfl))
   (by simp only[ne_eq,Port.eq_mk];omega) (by simp)
  refine ⟨a1,a2.congr (fun p hp=>?_)⟩
  have g4:=h4 p
  simp only[ne_eq,Port.eq_mk,List.mem_cons,List.not_mem_nil,or_false,List.length_cons,List.length_nil,List.tail_cons]
  grind
 |m0::m1::r,i,m,H,D,h0,h,h1,h2,h3,h4,h5,h6,h7=>by
  have h1':=List.nodup_cons.1 h1
  have h2':a∉m1::r:=fun e=>h2 (List.mem_cons_of_mem _ e)
  have h3':b∉m1::r:=fun e=>h3 (List.mem_cons_of_mem _ e)
  have n1:a≠m0:=fun e=>h2 (by simp[e])
  have n2:b≠m0:=fun e=>h3 (by simp[e])
  have n3:m0≠m1:=fun e=>h1'.1 (by simp[e])
  have n4:m1∉r:=(List.nodup_cons.1 h1'.2).1
  have hl:(m0::m1::r).length=(m1::r).length+1:=rfl
  rw[hl]at h6
  obtain ⟨a1,a2⟩:=h.moves1 (p:=⟨b,i+1⟩) (q:=⟨m0,2⟩) (.inr rfl) (h6 _ rfl (by show i+1≤i+1;omega) (by show i+1<_;omega)) (h4 _ (by simp) (.inr rfl))
  obtain ⟨a3,a4⟩:=a2.links1 (p:=⟨m0,1⟩) (q:=⟨m1,0⟩) (by
   have:=h4 ⟨m0,1⟩ (by simp) (.inl rfl)
   refine ⟨this.1,.inl ⟨this.2,by simp⟩⟩) (by
   have:=h5 ⟨m1,0⟩ (by simp) rfl
   refine ⟨this.1,.inl ⟨this.2,by simp⟩⟩) (by simp)
  obtain ⟨c1,c2⟩:=Mid.chain hab (m1::r) (i+1) (by simp) a4 h1'.2 h2' h3' (fun p hp hs=>by
   have:=h4 p (List.mem_cons_of_mem _ hp) hs
   simp only[ne_eq,Port.eq_mk]
   grind) (fun p hp hs=>by
   have:=h5 p (by simp only[List.tail_cons]at hp ⊢;exact List.mem_cons_of_mem _ hp) hs
   simp only[ne_eq,Port.eq_mk]
   grind) (fun p hp hs hs'=>by
   have:=h6 p hp (by omega) (by omega)
   simp only[ne_eq,Port.eq_mk]
   grind) (fun p hp hs=>by
   have:=h7 p hp hs
   simp only[ne_eq,Port.eq_mk]
   grind)
  refine ⟨⟨a1,a3,c1⟩,c2.congr (fun p hp=>?_)⟩
  have g4:=h4 p
  have g5:=h5 p
  simp only[ne_eq,Port.eq_mk,List.tail_cons,List.length_cons,List.mem_cons]at g4 g5 ⊢
  clear a1 a2 a3 a4 c1 c2 h4 h5 h6 h7 h
  grind
theorem Two.pick {n:Net}{a b alt:Nat}{x y:Node}{cc:List UInt8×Nat}(h:Two n a b x y)(kx:x.kind=9)(ky:y.kind=8)(hcc:x.alts[alt]?=some cc)(hc:cc.2+1=y.to.length)
  (hu:n.used+cc.2+(pickRest a alt x).length≤n.cap) {m:Net} (hm:m=n.pick a b alt x cc.2) :
  (n.pick1 x cc.2).nodes[a]?=some x∧Pick3OK n a alt x cc.2∧ChainOK (n.pick3 a alt x cc.2) a b 0 (n.pickA x cc.2)∧MovesOK (n.pick4 a b alt x cc.2) ((pickRest a alt x).zip (zero0 (n.pickD a alt x cc.2)))∧Done n m a b:=by
 subst hm
 have ha:=h.ha
 have hb:=h.hb
 have hne:=h.ne
 obtain ⟨x1,x2,x3⟩:=h.ok.node _ _ h.hx
 obtain ⟨y1,y2,y3⟩:=h.ok.node _ _ h.hy
 have halt:alt<x.alts.length:=(gE hcc).1
 have hxp:x.to.length=2+x.alts.length:=by rw[x2];unfold Node.ports;rw[if_neg (by omega),if_pos kx]
 have hlev:x.lev≤60:=by
  simp only[Node.ok,Bool.and_eq_true,decide_eq_true_eq]at x1
  have:=x1.1.1.1.2
  split at this<;>omega
 obtain ⟨d1,d2⟩:=dropNode_ok hlev
 have e1:(appNode x.lev).ok=true:=by simp[appNode,Node.ok,Node.altsOK,hlev]
 have e2:(appNode x.lev).ports=3:=rfl
 have hlk:=likes_ok (x:=appNode x.lev) (by show 2≤3;omega) e1 (fun e=>by cases e) (by omega) cc.2 h.ok.sk (by omega)
 have hax:=hlk.keep a x h.hx (by omega)
 obtain ⟨g1,g2,g3,g4,g5⟩:=h.st.like (x:=appNode x.lev) (k:=cc.2) (by show 2≤3;omega) e1 (fun e=>by cases e) (by omega) (by omega)
 rw[e2]at g1
 have gc:=g1.cap
 refine ⟨hax,?_⟩
 clear hlk hax
 unfold Net.pick Net.pick4 Net.pick3 Net.pickD Net.pick2 Pick3OK Net.pick2 Net.pick1
 have hA:n.pickA x cc.2=(n.like (appNode x.lev) cc.2).2:=rfl
 rw[hA]
 generalize hA:(n.like (appNode x.lev) cc.2).2=A at *
 generalize (n.like (appNode x.lev) cc.2).1=m1 at *
 obtain ⟨h1,h2,h3,h4,h5⟩:=g1.like (x:=dropNode x.lev) (k:=(pickRest a alt x).length) (by show 2≤7;omega) d1 (fun e=>by cases e) (by omega) (by omega)
 rw[d2]at h1
 generalize hC:(m1.like (dropNode x.lev) (pickRest a alt x).length).2=C at *
 generalize (m1.like (dropNode x.lev) (pickRest a alt x).length).1=m at *
 have fa:a∉A:=g3 ⟨a,0⟩ (h.pa (by omega))
 have fb:b∉A:=g3 ⟨b,0⟩ (h.pb (by omega))
 have fa':a∉C:=h3 ⟨a,0⟩ (.inl (h.pa (by omega)))
 have fb':b∉C:=h3 ⟨b,0⟩ (.inl (h.pb (by omega)))
 have fc:∀ c,c∈A→c∉C:=fun c hc=>h3 ⟨c,0⟩ (.inr ⟨hc,by show 0<3;omega⟩)
 have hrest:∀ p,p∈pickRest a alt x↔p.node=a∧2≤p.slot∧p.slot<x.to.length∧p.slot≠alt+2:=by
  intro p
  unfold pickRest
  simp only[List.mem_filter,mem_portsFrom,decide_eq_true_eq,ne_eq,Port.eq_mk]
  omega
 have hnod:(pickRest a alt x).Nodup:=(portsFrom_nodup _ _ _).filter _
 have hzl:(pickRest a alt x).length=(zero0 C).length:=by simp[zero0,h5]
 have last:∀ (m3:Net),Mid n a b m3 (fun p=>(n.has p∨(p.node∈A∧p.slot<3))∨(p.node∈C∧p.slot<1)) (fun r=>((r=⟨a,0⟩∨r=⟨b,0⟩)∨r.node∈C)∨(r.node=b∧1≤r.slot)∨(r.node=a∧(r.slot=1∨r.slot=alt+2))) →
   MovesOK m3 ((pickRest a alt x).zip (zero0 C))∧Done n (m3.moves ((pickRest a alt x).zip (zero0 C))) a b:=by
  intro m3 hm3
  obtain ⟨k1,k2⟩:=hm3.movesZip (ps:=pickRest a alt x) (qs:=zero0 C) hzl (fun p hp=>.inl ((hrest p).1 hp).1) (fun p hp=>by
   rw[hrest]at hp
   have ha:=ha p
   simp only[Port.eq_mk]
   grind) (fun q hq=>by
   rw[mem_zero0]at hq
   exact ⟨.inr ⟨hq.1,by omega⟩,.inl (.inr hq.1)⟩) hnod (zero0_nodup h2)
  refine ⟨k1,k2.finish hne h.hx h.hy (by omega) (by omega) (fun p hp=>?_)⟩
  have ha:=ha p
  have hb:=hb p
  have hf:=h3 p
  have hf2:=g3 p
  have hf3:=fc p.node
  simp only[hrest,mem_zero0,Port.eq_mk]
  clear k1 k2 hm3 h1 g1 hcc hu hA hC
  grind
 cases hAA:A with
 |nil =>
  subst hAA
  have hc0:cc.2=0:=by simpa using g5.symm
  obtain ⟨k1,k2⟩:=h1.joinsZip (ps:=[⟨a,alt+2⟩]) (qs:=[⟨a,1⟩]) rfl (by simp) (by simp) (fun p hp=>by
   have ha:=ha p
   simp only[List.mem_singleton,Port.eq_mk]at hp ⊢
   grind) (fun p hp=>by
   have ha:=ha p
   simp only[List.mem_singleton,Port.eq_mk]at hp ⊢
   grind) (by simp) (by simp) (by simp)
  refine ⟨k1,trivial,last _ (k2.congr (fun p hp=>?_))⟩
  have hb:=hb p
  simp only[List.mem_singleton,List.not_mem_nil,Port.eq_mk]at hp ⊢
  grind
 |cons m0 r =>
  obtain ⟨k1,k2⟩:=h1.moves1 (p:=⟨a,alt+2⟩) (q:=⟨m0,0⟩) (.inl rfl) (by
   have ha:=ha ⟨a,alt+2⟩ rfl
   simp only[Port.eq_mk]at ha ⊢
   grind) (by
   simp only[Port.eq_mk,hAA]
   refine ⟨.inl (.inr ⟨by simp,by omega⟩),.inl (.inr (by simp))⟩)
  have hlen:(m0::r).length=cc.2:=by rw[← hAA];exact g5
  obtain ⟨k3,k4⟩:=Mid.chain hne (m0::r) 0 (by simp) k2 (by rw[← hAA];exact g2) (by rw[← hAA];exact fa) (by rw[← hAA];exact fb) (fun p hp hs=>by
   rw[← hAA]at hp
   simp only[ne_eq,Port.eq_mk]
   grind) (fun p hp hs=>by
   have hp':p.node∈A:=by rw[hAA];exact List.mem_cons_of_mem _ hp
   have hpm:p.node≠m0:=fun e=>by
    rw[hAA]at g2
    exact (List.nodup_cons.1 g2).1 (by rw[← e];exact hp)
   simp only[ne_eq,Port.eq_mk]
   grind) (fun p hp hs hs'=>by
   have hb:=hb p
   simp only[ne_eq,Port.eq_mk]
   grind) (fun p hp hs=>by
   have ha:=ha p
   simp only[ne_eq,Port.eq_mk]
   grind)
  refine ⟨k1,k3,last _ (k4.congr (fun p hp=>?_))⟩
  have ha:=ha p
  have hb:=hb p
  have hf:=h3 p
  have hf2:=g3 p
  have hf3:=fc p.node
  have hmem:p.node∈A↔p.node=m0∨p.node∈r:=by rw[hAA];exact List.mem_cons
  simp only[ne_eq,Port.eq_mk,List.tail_cons,List.mem_cons]
  rw[hlen]
  clear k1 k2 k3 k4 h1 g1 hcc hu hA hC last
  grind
end Go.Proofs.Z
end
section
namespace Go.Proofs.Z
open Go Go.Proofs
attribute [local simp] k_nil k_ops k_opsg kG_true kG_false kO_val kO_pan k_seq kS_n kS_r kS_e kS_p k_o kR_n kR_p kD2_n kD1_n k_d k_c kC_t kC_f k_b kB_n kB_r kB_p kB_e k_skip k_ret k_exit k_l kL_s kLp_n kLp_r kLp_e kLp_p k_f kF_n kF_r kF_p kV_f kV_t kN_s evOp evBin gOK opd opds lk put restr iEv evRes whole norm normL one Out.below below belowL bOb evStore evLoad evLen AV.cells AV.flat PV.flat splice fillAt pcs isStr rowsOf Res.of evCmp lvE leafEq asInt noIdAt noId noIdL tids chkOK
variable {pg:Prg}{G:Heap}
theorem t129 (h:Std pg){n:Net}{p:Port}(hp:n.has p) :
  eCA pg (E pg) 129 [.ag [.p (.sl (n.nodes.map Node.enc)),.p (.i .i64 n.cap)],.ag [.p (.i .i64 p.node),.p (.i .i64 p.slot)]] G=some (.ret (.tup [.ag [.p (.i .i64 (n.pr p).node),.p (.i .i64 (n.pr p).slot)],.p (.i .i64 0)]),G):=at_pure (s129 h hp) rfl rfl
theorem t141 (h:Std pg){n:Net}{i:Nat}(hp:n.has ⟨i,0⟩) :
  eCA pg (E pg) 141 [.ag [.p (.sl (n.nodes.map Node.enc)),.p (.i .i64 n.cap)],.p (.i .i64 i)] G=some (.ret (.p (.i .i64 (if (n.pr ⟨i,0⟩).slot=0 then ((n.pr ⟨i,0⟩).node:Int) else -1))),G):=by
 refine at_pure ?_ rfl rfl
 have e1:=fun G=>t129 (G:=G) h hp
 simp only[show ((0:Nat):Int)=0 from rfl]at e1
 rw[h.run (x:=c141) rfl (by decide) (by decide) (by decide) (by decide)]
 by_cases hs:(n.pr ⟨i,0⟩).slot=0
 ·have hs':((n.pr ⟨i,0⟩).slot:Int)=0:=by omega
  simp[c141,leave,t152 h,(show keepA pg 152=false from h.keep (x:=c152) rfl),e1,eq_true hs,eq_true hs']
 ·have hs':¬ ((n.pr ⟨i,0⟩).slot:Int)=0:=by omega
  simp[c141,leave,t152 h,(show keepA pg 152=false from h.keep (x:=c152) rfl),e1,hs,hs']
theorem Node.lev_le {x:Node}(h:x.ok=true):x.lev≤60:=by
 simp only[Node.ok,Bool.and_eq_true,decide_eq_true_eq]at h
 have:=h.1.1.1.2
 split at this<;>omega
theorem altsFrom_le:∀ {l all:List (List UInt8×Nat)} {i:Nat},altsFrom all i l=true→∀ c,c∈l→c.2≤8
 |[],_,_,_,c,hc=>by simp at hc
 |a::r,all,i,h,c,hc=>by
  simp only[altsFrom,Bool.and_eq_true,decide_eq_true_eq]at h
  rcases List.mem_cons.1 hc with rfl|hc
  ·exact h.1.1.2
  ·exact altsFrom_le h.2 c hc
theorem Node.alts_le {x:Node}(h:x.ok=true):∀ c,c∈x.alts→c.2≤8:=by
 simp only[Node.ok,Bool.and_eq_true,decide_eq_true_eq]at h
 have:=h.1.1.1.1.2
 unfold Node.altsOK at this
 split at this
 ·simp only[Bool.and_eq_true]at this;exact altsFrom_le this.1
 ·simp only[decide_eq_true_eq]at this
  intro c hc
  rw[List.length_eq_zero_iff.1 this]at hc
  simp at hc
theorem need_lt {p:Plan}{a b:Node}(hla:a.to.length<2 ^ 30)(hlb:b.to.length<2 ^ 30)(haa:a.alts.length<2 ^ 30)(hab:b.alts.length<2 ^ 30)(hca:∀ c,c∈a.alts→c.2<2 ^ 40)(hcb:∀ c,c∈b.alts→c.2<2 ^ 40):p.need a b<2 ^ 41:=by
 unfold Plan.need Node.others
 dsimp only
 cases p.swap<;>simp only[if_true,if_false,Bool.false_eq_true]<;>(repeat' split)<;>first|omega|(rename_i c hc;have:=hca c (List.mem_of_getElem? hc);omega)|(rename_i c hc;have:=hcb c (List.mem_of_getElem? hc);omega)
structure Meet (n:Net)(i j:Nat)(x y:Node):Prop where
 ok:n.Ok
 hx:n.nodes[i]?=some x
 hy:n.nodes[j]?=some y
 x1:1≤x.to.length
 pr:n.pr ⟨i,0⟩=⟨j,0⟩
def act0 (n:Net)(i j:Nat)(x y:Node):Option Nat :=
 if (ruleOf x y).2≠0 then some (ruleOf x y).2 else if n.cap<n.used+(ruleOf x y).1.need x y then some 121 else none
theorem s132 (h:Std pg){n m:Net}{i j:Nat}{x y:Node}(hm:Meet n i j x y)(ha:act0 n i j x y=none)
  (hdo:E pg 145 [.ptr 0 0] [.box (.p (.sl (n.nodes.map Node.enc))::.p (.i .i64 n.cap)::([.p (.i .i64 (ruleOf x y).1.kind),.p (.b (ruleOf x y).1.swap),.p (.i .i64 (ruleOf x y).1.lev),.p (.i .i64 (ruleOf x y).1.alt),.p (.i .i64 (ruleOf x y).1.node.kind),.p (.i .i64 (ruleOf x y).1.node.lev),.p (.i .i64 (ruleOf x y).1.node.n),.p (.s (ruleOf x y).1.node.name),.p (.sl ((ruleOf x y).1.node.alts.map encAr)),.p (.sl ((ruleOf x y).1.node.to.map Port.enc))]++[.p (.i .i64 (if (ruleOf x y).1.swap then j else i:Nat)),.p (.i .i64 (if (ruleOf x y).1.swap then i else j:Nat))]))]=some (.ret (.tup []),[.box (.p (.sl (m.nodes.map Node.enc))::.p (.i .i64 m.cap)::([.p (.i .i64 (ruleOf x y).1.kind),.p (.b (ruleOf x y).1.swap),.p (.i .i64 (ruleOf x y).1.lev),.p (.i .i64 (ruleOf x y).1.alt),.p (.i .i64 (ruleOf x y).1.node.kind),.p (.i .i64 (ruleOf x y).1.node.lev),.p (.i .i64 (ruleOf x y).1.node.n),.p (.s (ruleOf x y).1.node.name),.p (.sl ((ruleOf x y).1.node.alts.map encAr)),.p (.sl ((ruleOf x y).1.node.to.map Port.enc))]++[.p (.i .i64 (if (ruleOf x y).1.swap then j else i:Nat)),.p (.i .i64 (if (ruleOf x y).1.swap then i else j:Nat))]))])) :
  E pg 132 [.ag [.p (.sl (n.nodes.map Node.enc)),.p (.i .i64 n.cap)],.p (.i .i64 i)] []=some (.ret (.tup [.ag [.p (.sl (m.nodes.map Node.enc)),.p (.i .i64 m.cap)],.ag [.p (.i .i64 (ruleOf x y).1.kind),.p (.b (ruleOf x y).1.swap),.p (.i .i64 (ruleOf x y).1.lev),.p (.i .i64 (ruleOf x y).1.alt),.p (.i .i64 (ruleOf x y).1.node.kind),.p (.i .i64 (ruleOf x y).1.node.lev),.p (.i .i64 (ruleOf x y).1.node.n),.p (.s (ruleOf x y).1.node.name),.p (.sl ((ruleOf x y).1.node.alts.map encAr)),.p (.sl ((ruleOf x y).1.node.to.map Port.enc))],.p (.i .i64 0)]),[]):=by
 obtain ⟨ho,hx,hy,hx1,hpr⟩:=hm
 have hl:=ho.len
 have hcp:=ho.cap
 obtain ⟨x1,x2,x3⟩:=ho.node _ _ hx
 obtain ⟨y1,y2,y3⟩:=ho.node _ _ hy
 have hxl:=Node.ports_le x1 x2
 have hyl:=Node.ports_le y1 y2
 have hxa:=Node.alts_len x1
 have hya:=Node.alts_len y1
 have hxb:∀ c,c∈x.alts→c.2<2 ^ 40:=fun c hc=>by have:=Node.alts_le x1 c hc;omega
 have hyb:∀ c,c∈y.alts→c.2<2 ^ 40:=fun c hc=>by have:=Node.alts_le y1 c hc;omega
 have e1:=fun G=>t141 (G:=G) (n:=n) (i:=i) h ⟨x,hx,by dsimp only;omega⟩
 rw[hpr]at e1
 simp only[if_true]at e1
 have e2:=fun G=>t142 (G:=G) h x y (Node.lev_le x1) (Node.lev_le y1) (by omega) (by omega) (by omega) (by omega)
 have e3:=fun G=>t144 (G:=G) h (ruleOf x y).1 x y (by omega) (by omega) (by omega) (by omega) hxb hyb
 have e4:=fun G=>t143 (G:=G) (n:=n) h (by omega)
 unfold act0 at ha
 by_cases hr:(ruleOf x y).2=0
 ·rw[if_neg (by simpa using hr)]at ha
  by_cases hn:n.cap<n.used+(ruleOf x y).1.need x y
  ·rw[if_pos hn]at ha;cases ha
  ·have hn':¬ (n.cap:Int)<(n.used:Int)+(ruleOf x y).1.need x y:=by omega
   have hus:n.used≤n.nodes.length:=List.countP_le_length
   have hr':((ruleOf x y).2:Int)=0:=by omega
   have hxi:i<n.nodes.length:=(gE hx).1
   have hyj:j<n.nodes.length:=(gE hy).1
   have hxi':n.nodes[i]=x:=(gE hx).2
   have hyj':n.nodes[j]=y:=(gE hy).2
   have e5:¬ (j:Int)<0:=by omega
   rw[hr']at e2
   have hw:=w64 ((n.used:Int)+(ruleOf x y).1.need x y) (by omega) (by omega)
   rw[h.run (x:=c132) rfl (by decide) (by decide) (by decide) (by decide)]
   cases hsw:(ruleOf x y).1.swap with
   |false =>
    rw[hsw]at hdo
    simp only[hsw]at e3
    simp only[Bool.false_eq_true,if_false,List.cons_append,List.nil_append]at hdo
    have e6:=at_box (pg:=pg) (k:=4) (G:=[.box [.p (.sl (n.nodes.map Node.enc)),.p (.i .i64 n.cap)],.box [.nils,.p (.i .i64 0)],.box [.p (.i .i64 0),.p (.b false),.p (.i .i64 0),.p (.i .i64 0),.p (.i .i64 0),.p (.i .i64 0),.p (.i .i64 0),.p (.s []),.nils,.nils],.box ([.p (.i .i64 (ruleOf x y).1.kind),.p (.b (ruleOf x y).1.swap),.p (.i .i64 (ruleOf x y).1.lev),.p (.i .i64 (ruleOf x y).1.alt),.p (.i .i64 (ruleOf x y).1.node.kind),.p (.i .i64 (ruleOf x y).1.node.lev),.p (.i .i64 (ruleOf x y).1.node.n),.p (.s (ruleOf x y).1.node.name),.p (.sl ((ruleOf x y).1.node.alts.map encAr)),.p (.sl ((ruleOf x y).1.node.to.map Port.enc))]),.box (.p (.sl (n.nodes.map Node.enc))::.p (.i .i64 n.cap)::([.p (.i .i64 (ruleOf x y).1.kind),.p (.b (ruleOf x y).1.swap),.p (.i .i64 (ruleOf x y).1.lev),.p (.i .i64 (ruleOf x y).1.alt),.p (.i .i64 (ruleOf x y).1.node.kind),.p (.i .i64 (ruleOf x y).1.node.lev),.p (.i .i64 (ruleOf x y).1.node.n),.p (.s (ruleOf x y).1.node.name),.p (.sl ((ruleOf x y).1.node.alts.map encAr)),.p (.sl ((ruleOf x y).1.node.to.map Port.enc))]++[.p (.i .i64 i),.p (.i .i64 j)]))]) hdo (by rw[hsw];rfl) rfl rfl rfl rfl
    simp only[hsw,List.set_cons_succ,List.set_cons_zero,List.cons_append,List.nil_append]at e6
    simp[c132,leave,Node.enc,okRow,Plan.enc,t128 h ho,e1,e2,e3,e4,e5,hn,hn',hw,hxi,hyj,hxi',hyj',hsw,(show keepA pg 143=false from h.keep (x:=c143) rfl),(show keepA pg 144=false from h.keep (x:=c144) rfl),e6,show Nat.beq 3 1=false from rfl]
   |true =>
    rw[hsw]at hdo
    simp only[hsw]at e3
    simp only[if_true,List.cons_append,List.nil_append]at hdo
    have e6:=at_box (pg:=pg) (k:=4) (G:=[.box [.p (.sl (n.nodes.map Node.enc)),.p (.i .i64 n.cap)],.box [.nils,.p (.i .i64 0)],.box [.p (.i .i64 0),.p (.b false),.p (.i .i64 0),.p (.i .i64 0),.p (.i .i64 0),.p (.i .i64 0),.p (.i .i64 0),.p (.s []),.nils,.nils],.box ([.p (.i .i64 (ruleOf x y).1.kind),.p (.b (ruleOf x y).1.swap),.p (.i .i64 (ruleOf x y).1.lev),.p (.i .i64 (ruleOf x y).1.alt),.p (.i .i64 (ruleOf x y).1.node.kind),.p (.i .i64 (ruleOf x y).1.node.lev),.p (.i .i64 (ruleOf x y).1.node.n),.p (.s (ruleOf x y).1.node.name),.p (.sl ((ruleOf x y).1.node.alts.map encAr)),.p (.sl ((ruleOf x y).1.node.to.map Port.enc))]),.box (.p (.sl (n.nodes.map Node.enc))::.p (.i .i64 n.cap)::([.p (.i .i64 (ruleOf x y).1.kind),.p (.b (ruleOf x y).1.swap),.p (.i .i64 (ruleOf x y).1.lev),.p (.i .i64 (ruleOf x y).1.alt),.p (.i .i64 (ruleOf x y).1.node.kind),.p (.i .i64 (ruleOf x y).1.node.lev),.p (.i .i64 (ruleOf x y).1.node.n),.p (.s (ruleOf x y).1.node.name),.p (.sl ((ruleOf x y).1.node.alts.map encAr)),.p (.sl ((ruleOf x y).1.node.to.map Port.enc))]++[.p (.i .i64 j),.p (.i .i64 i)]))]) hdo (by rw[hsw];rfl) rfl rfl rfl rfl
    simp only[hsw,List.set_cons_succ,List.set_cons_zero,List.cons_append,List.nil_append]at e6
    simp[c132,leave,Node.enc,okRow,Plan.enc,t128 h ho,e1,e2,e3,e4,e5,hn,hn',hw,hxi,hyj,hxi',hyj',hsw,(show keepA pg 143=false from h.keep (x:=c143) rfl),(show keepA pg 144=false from h.keep (x:=c144) rfl),e6,show Nat.beq 3 1=false from rfl]
 ·rw[if_pos hr]at ha;cases ha
theorem s132e (h:Std pg){n:Net}{i j:Nat}{x y:Node}{e:Nat}(hm:Meet n i j x y)(ha:act0 n i j x y=some e) :
  E pg 132 [.ag [.p (.sl (n.nodes.map Node.enc)),.p (.i .i64 n.cap)],.p (.i .i64 i)] []=some (.ret (.tup [.ag [.p (.sl (n.nodes.map Node.enc)),.p (.i .i64 n.cap)],.ag (pcs (Plan.plain 0).enc),.p (.i .i64 e)]),[]):=by
 obtain ⟨ho,hx,hy,hx1,hpr⟩:=hm
 have hl:=ho.len
 have hcp:=ho.cap
 obtain ⟨x1,x2,x3⟩:=ho.node _ _ hx
 obtain ⟨y1,y2,y3⟩:=ho.node _ _ hy
 have hxl:=Node.ports_le x1 x2
 have hyl:=Node.ports_le y1 y2
 have hxa:=Node.alts_len x1
 have hya:=Node.alts_len y1
 have hxb:∀ c,c∈x.alts→c.2<2 ^ 40:=fun c hc=>by have:=Node.alts_le x1 c hc;omega
 have hyb:∀ c,c∈y.alts→c.2<2 ^ 40:=fun c hc=>by have:=Node.alts_le y1 c hc;omega
 have e1:=fun G=>t141 (G:=G) (n:=n) (i:=i) h ⟨x,hx,by dsimp only;omega⟩
 rw[hpr]at e1
 simp only[if_true]at e1
 have e2:=fun G=>t142 (G:=G) h x y (Node.lev_le x1) (Node.lev_le y1) (by omega) (by omega) (by omega) (by omega)
 have e3:=fun G=>t144 (G:=G) h (ruleOf x y).1 x y (by omega) (by omega) (by omega) (by omega) hxb hyb
 have e4:=fun G=>t143 (G:=G) (n:=n) h (by omega)
 have hxi:i<n.nodes.length:=(gE hx).1
 have hyj:j<n.nodes.length:=(gE hy).1
 have hxi':n.nodes[i]=x:=(gE hx).2
 have hyj':n.nodes[j]=y:=(gE hy).2
 have e5:¬ (j:Int)<0:=by omega
 unfold act0 at ha
 rw[h.run (x:=c132) rfl (by decide) (by decide) (by decide) (by decide)]
 by_cases hr:(ruleOf x y).2=0
 ·rw[if_neg (by simpa using hr)]at ha
  have hr':((ruleOf x y).2:Int)=0:=by omega
  by_cases hn:n.cap<n.used+(ruleOf x y).1.need x y
  ·rw[if_pos hn]at ha
   cases ha
   have hn':(n.cap:Int)<(n.used:Int)+(ruleOf x y).1.need x y:=by omega
   have hus:n.used≤n.nodes.length:=List.countP_le_length
   rw[hr']at e2
   have hnd:(ruleOf x y).1.need x y<2 ^ 41:=need_lt (by omega) (by omega) (by omega) (by omega) hxb hyb
   have hw:=w64 ((n.used:Int)+(ruleOf x y).1.need x y) (by omega) (by omega)
   simp[c132,leave,Node.enc,okRow,Plan.enc,Plan.plain,Node.zero,t128 h ho,e1,e2,e3,e4,e5,eq_true hn,eq_true hn',hw,hxi,hyj,hxi',hyj',(show keepA pg 143=false from h.keep (x:=c143) rfl),(show keepA pg 144=false from h.keep (x:=c144) rfl)]
  ·rw[if_neg hn]at ha;cases ha
 ·rw[if_pos hr]at ha
  cases ha
  have hr':¬ ((ruleOf x y).2:Int)=0:=by omega
  simp[c132,leave,Node.enc,okRow,Plan.enc,Plan.plain,Node.zero,t128 h ho,e1,e2,e5,hr,hr',hxi,hyj,hxi',hyj']
end Go.Proofs.Z
end
