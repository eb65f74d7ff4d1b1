/- A part of the proof. -/
import Derived.Test.YtffohgbmjjbhiaaGreatA11
set_option linter.all false
section
namespace Go.Proofs.Z
open Go Go.Proofs
attribute [local simp] k_nil k_ops k_opsg kG_true kG_false kO_val kO_pan k_seq kS_n kS_r kS_e kS_p k_o kR_n kR_p kD2_n kD1_n k_d k_c kC_t kC_f k_b kB_n kB_r kB_p kB_e k_skip k_ret k_exit k_l kL_s kLp_n kLp_r kLp_e kLp_p k_f kF_n kF_r kF_p kV_f kV_t kN_s evOp evBin gOK opd opds lk put restr iEv evRes whole norm normL one Out.below below belowL bOb evStore evLoad evLen AV.cells AV.flat PV.flat splice fillAt pcs isStr rowsOf Res.of evCmp lvE leafEq asInt noIdAt noId noIdL tids chkOK
variable {pg:Prg}{G:Heap}
theorem l143 (h:Std pg){body:CCode}(hb:body=c143l0){l:List Node}(hl:l.length<2 ^ 40) :
  ∀ (m i u:Nat),i+m=l.length→u≤i→L pg 0 [3,7,8,9] body [(3,.p (.i .i64 u)),(7,.p (.sl (l.map Node.enc))),(8,.p (.i .i64 l.length)),(9,.p (.i .i64 i))] [] =
   some (.exit 0,[(3,.p (.i .i64 (u+(l.drop i).countP fun x=>decide (x.kind≠0):Nat))),(7,.p (.sl (l.map Node.enc))),(8,.p (.i .i64 l.length)),(9,.p (.i .i64 l.length)),(10,.p (.b false))],[])
 |0,i,u,hi,hu=>by
  have:i=l.length:=by omega
  subst this
  rw[k_L hb]
  simp[c143l0,leave]
 |m+1,i,u,hi,hu=>by
  have hlt:i<l.length:=by omega
  have hd:l.drop i=l[i]::l.drop (i+1):=List.drop_eq_getElem_cons hlt
  rw[k_L hb,hd,List.countP_cons]
  by_cases hk:l[i].kind=0
  ·have ih:=l143 h hb hl m (i+1) u (by omega) (by omega)
   rw[show ((i+1:Nat):Int)=(i:Int)+1 from by omega]at ih
   have e1:=fun G=>t160 (G:=G) h l[i].kind l[i].lev l[i].n l[i].name (l[i].alts.map encAr) (l[i].to.map Port.enc)
   simp[c143l0,leave,hlt,okRow,Node.enc,e1,eq_true hk,w64 ((i:Int)+1) (by omega) (by omega),gc,gcEnv,exp,expL,eOs,Exp.id,idxOf,List.range,List.range.loop]
   rw[ih]
   simp
  ·have ih:=l143 h hb hl m (i+1) (u+1) (by omega) (by omega)
   rw[show ((i+1:Nat):Int)=(i:Int)+1 from by omega,show ((u+1:Nat):Int)=(u:Int)+1 from by omega]at ih
   have e1:=fun G=>t160 (G:=G) h l[i].kind l[i].lev l[i].n l[i].name (l[i].alts.map encAr) (l[i].to.map Port.enc)
   simp[c143l0,leave,hlt,okRow,Node.enc,e1,eq_false hk,w64 ((i:Int)+1) (by omega) (by omega),w64 ((u:Int)+1) (by omega) (by omega),gc,gcEnv,exp,expL,eOs,Exp.id,idxOf,List.range,List.range.loop]
   rw[ih]
   simp
   omega
theorem s143 (h:Std pg){n:Net}(hl:n.nodes.length<2 ^ 40) :
  E pg 143 [.ag [.p (.sl (n.nodes.map Node.enc)),.p (.i .i64 n.cap)]] []=some (.ret (.p (.i .i64 n.used)),[]):=by
 have hL:=l143 h rfl hl n.nodes.length 0 0 (by omega) (by omega)
 rw[show ((0:Nat):Int)=0 from rfl]at hL
 rw[h.run (x:=c143) rfl (by decide) (by decide) (by decide) (by decide)]
 simp[c143,leave,gc,gcEnv,exp,expL,eOs,Exp.id,idxOf,List.range,List.range.loop,hL,Net.used]
theorem t143 (h:Std pg){n:Net}(hl:n.nodes.length<2 ^ 40) :
  eCA pg (E pg) 143 [.ag [.p (.sl (n.nodes.map Node.enc)),.p (.i .i64 n.cap)]] G=some (.ret (.p (.i .i64 n.used)),G):=at_pure (s143 h hl) rfl rfl
theorem s172 (h:Std pg){n:Net}(hl:n.nodes.length<2 ^ 30) :
  E pg 172 [.ag [.p (.sl (n.nodes.map Node.enc)),.p (.i .i64 n.cap)]] []=some (.ret (.ag [.arr 2 n.nodes.length 1,.p (.i .i64 n.cap)]),[.box [.arr 2 n.nodes.length 1,.p (.i .i64 n.cap)],.box [.arr 2 n.nodes.length 1,.p (.i .i64 n.cap)],.arr 6 (n.nodes.map Node.enc) 1 0]):=by
 have e1:roomy n.nodes.length 88=true:=by simp[roomy];omega
 have e2:roomy (n.nodes.length+1) 88=true:=by simp[roomy];omega
 have e3:(0:Int)≤(n.nodes.length:Int)+1:=by omega
 rw[h.run (x:=c172) rfl (by decide) (by decide) (by decide) (by decide)]
 simp[c172,leave,w64 ((n.nodes.length:Int)+1) (by omega) (by omega),e1,e2,e3,okRow,evApp,okRows_enc okNode]
theorem l194 (h:Std pg){body:CCode}(hb:body=c194l0){l:List Node}{gen sl:Nat}(hl:l.length<2 ^ 40) :
  ∀ (n i:Nat),i+n=l.length→L pg 1 [0,1,7,8] body [(0,.arr 0 l.length gen),(1,.fn 160 [] []),(7,.p (.i .i64 l.length)),(8,.p (.i .i64 i))] [.arr 6 (l.map Node.enc) gen sl] =
   some (match (l.drop i).findIdx? (fun x=>decide (x.kind=0)) with
    |some k=>(.ret,[(4,.p (.i .i64 (i+k:Nat)))],[.arr 6 (l.map Node.enc) gen sl])
    |none=>(.exit 0,[(0,.arr 0 l.length gen),(1,.fn 160 [] []),(7,.p (.i .i64 l.length)),(8,.p (.i .i64 l.length)),(9,.p (.b false))],[.arr 6 (l.map Node.enc) gen sl]))
 |0,i,hi=>by
  have:i=l.length:=by omega
  subst this
  rw[k_L hb]
  simp[c194l0,leave]
 |n+1,i,hi=>by
  have hlt:i<l.length:=by omega
  have hd:l.drop i=l[i]::l.drop (i+1):=List.drop_eq_getElem_cons hlt
  have e1:=fun G=>t160 (G:=G) h l[i].kind l[i].lev l[i].n l[i].name (l[i].alts.map encAr) (l[i].to.map Port.enc)
  rw[k_L hb,hd,List.findIdx?_cons]
  by_cases hqv:l[i].kind=0
  ·simp[c194l0,leave,hlt,eq_true hqv,Node.enc,e1]
  ·have ih:=l194 (gen:=gen) (sl:=sl) h hb hl n (i+1) (by omega)
   rw[show ((i+1:Nat):Int)=(i:Int)+1 from by omega]at ih
   simp[c194l0,leave,hlt,eq_false hqv,Node.enc,e1,w64 ((i:Int)+1) (by omega) (by omega),gc,gcEnv,exp,expL,eOs,Exp.id,idxOf,List.range,List.range.loop]
   rw[ih]
   cases (l.drop (i+1)).findIdx? (fun x=>decide (x.kind=0)) with
   |none=>simp
   |some k=>simp;omega
theorem s194 (h:Std pg){l:List Node}{gen sl:Nat}(hl:l.length<2 ^ 40) :
  E pg 194 [.arr 0 l.length gen,.fn 160 [] []] [.arr 6 (l.map Node.enc) gen sl]=some (.ret (.p (.i .i64 (idxInt (l.findIdx? fun x=>decide (x.kind=0))))),[.arr 6 (l.map Node.enc) gen sl]):=by
 have hL:=l194 (gen:=gen) (sl:=sl) h rfl hl l.length 0 (by omega)
 rw[show ((0:Nat):Int)=0 from rfl]at hL
 rw[h.run (x:=c194) rfl (by decide) (by decide) (by decide) (by decide)]
 simp[c194,leave,gc,gcEnv,exp,expL,eOs,Exp.id,idxOf,List.range,List.range.loop,hL]
 cases l.findIdx? (fun x=>decide (x.kind=0)) with
 |none=>simp[leave,idxInt]
 |some k=>simp[leave,idxInt]
theorem at_gen {call:CallF}{f:Nat}{args:List AV}{out:Out}{os:Heap}{G:Heap}(hc:call f args []=some (out,os))(ha:flatAL args=true) :
  eCA pg call f args G=some (out.back [] G.length,G++os.map (backObj [] G.length)):=by
 unfold eCA
 rw[flatAL_exp _ _ ha]
 dsimp only
 have:eOs (G.length+1) ⟨[],G⟩ 0=some ([],⟨[],G⟩):=by simp[eOs]
 rw[this]
 dsimp only
 rw[hc]
 simp[setAll]
theorem t172 (h:Std pg){n:Net}(hl:n.nodes.length<2 ^ 30) :
  eCA pg (E pg) 172 [.ag [.p (.sl (n.nodes.map Node.enc)),.p (.i .i64 n.cap)]] G=some (.ret (.ag [.arr (G.length+2) n.nodes.length 1,.p (.i .i64 n.cap)]),G++[.box [.arr (G.length+2) n.nodes.length 1,.p (.i .i64 n.cap)],.box [.arr (G.length+2) n.nodes.length 1,.p (.i .i64 n.cap)],.arr 6 (n.nodes.map Node.enc) 1 0]):=by
 rw[at_gen (s172 h hl) rfl]
 simp[Out.back,back,backL,backId,backObj,setAll]
theorem l147 (h:Std pg){body:CCode}(hb:body=c147l0){l:List Node}{gen:Nat}{cap:Nat}(hl:l.length<2 ^ 40) :
  ∀ k,k≤l.length→L pg 0 [2,4] body [(2,.ptr 0 0),(4,.ptr 1 0)] [.box [.arr 2 k gen,.p (.i .i64 cap)],.box [.nils,.p (.i .i64 0)],.arr 6 (l.map Node.enc) gen 0] =
   some (.exit 0,[(2,.ptr 0 0),(4,.ptr 1 0),(43,.p (.b false))],[.box [.arr 2 (trimTo l k) gen,.p (.i .i64 cap)],.box [.nils,.p (.i .i64 0)],.arr 6 (l.map Node.enc) gen 0])
 |0,hk=>by
  rw[k_L hb]
  simp[c147l0,leave,trimTo]
 |k+1,hk=>by
  have hlt:k<l.length:=by omega
  have hx:l[k]?=some l[k]:=gG hlt
  have e1:=fun G=>t160 (G:=G) h l[k].kind l[k].lev l[k].n l[k].name (l[k].alts.map encAr) (l[k].to.map Port.enc)
  have e2:((k:Int)+1-1)=k:=by omega
  have e3:(0:Int)<(k:Int)+1:=by omega
  have e4:(k:Int)≤(k:Int)+1:=by omega
  have e5:(k:Int)<(k:Int)+1:=by omega
  rw[k_L hb]
  by_cases hk0:l[k].kind=0
  ·have ih:=l147 (gen:=gen) (cap:=cap) h hb hl k (by omega)
   simp[c147l0,leave,trimTo,hx,eq_true hk0,e1,e2,e3,e4,e5,hlt,hk,Node.enc,okRow,w64 (k:Int) (by omega) (by omega),evSub,gc,gcEnv,exp,expL,eOs,Exp.id,idxOf,List.range,List.range.loop,ih]
  ·simp[c147l0,leave,trimTo,hx,eq_false hk0,e1,e2,e3,e4,e5,hlt,hk,Node.enc,okRow,w64 (k:Int) (by omega) (by omega)]
theorem s147 (h:Std pg){n:Net}{i:Nat}{x:Node}(hl:n.nodes.length<2 ^ 30)(hx:n.nodes[i]?=some x)(hk:x.kind≠0) :
  E pg 147 [.ag [.p (.sl (n.nodes.map Node.enc)),.p (.i .i64 n.cap)],.p (.i .i64 i)] []=some (.ret (.tup [.ag [.p (.sl ((n.free i).nodes.map Node.enc)),.p (.i .i64 n.cap)],.p (.i .i64 0)]),[]):=by
 have h3:i<n.nodes.length:=(gE hx).1
 have h5:n.nodes[i]=x:=(gE hx).2
 have e1:=fun G=>t160 (G:=G) h x.kind x.lev x.n x.name (x.alts.map encAr) (x.to.map Port.enc)
 have e2:(i:Int)≤(n.nodes.length:Int)-1:=by omega
 have hL:=l147 (l:=n.nodes.set i .zero) (gen:=1) (cap:=n.cap) h rfl (by simp;omega) n.nodes.length (by simp)
 have hz:Node.zero.enc=[.i .i64 0,.i .i64 0,.i .i64 0,.s [],.sl [],.sl []]:=rfl
 simp only[List.map_set,hz]at hL
 have e6:=trimTo_le (n.nodes.set i .zero) n.nodes.length
 rw[h.run (x:=c147) rfl (by decide) (by decide) (by decide) (by decide)]
 simp[c147,leave,t134 h,e1,e2,e6,h3,h5,hx,eq_false hk,Node.enc,okRow,w64 ((n.nodes.length:Int)-1) (by omega) (by omega),t172 h hl,normP,toP,toPL,gc,gcEnv,exp,expL,eOs,Exp.id,idxOf,List.range,List.range.loop,hL,Net.free,List.map_take,List.map_set,show Node.zero.kind=0 from rfl,show Node.zero.lev=0 from rfl,show Node.zero.n=0 from rfl,show Node.zero.name=[] from rfl,show Node.zero.alts=[] from rfl,show Node.zero.to=[] from rfl]
theorem set_same {α:Type}{l:List α}{i:Nat}{a:α}(h:l[i]?=some a):l.set i a=l:=by
 obtain ⟨h1,h2⟩:=gE h
 subst h2
 exact List.set_getElem_self h1
theorem t194 (h:Std pg){l:List Node}{id gen sl:Nat}(hl:l.length<2 ^ 40)(hG:G[id]?=some (.arr 6 (l.map Node.enc) gen sl)) :
  eCA pg (E pg) 194 [.arr id l.length gen,.fn 160 [] []] G=some (.ret (.p (.i .i64 (idxInt (l.findIdx? fun x=>decide (x.kind=0))))),G):=by
 have hlt:id<G.length:=(gE hG).1
 have hk:keepA pg 194=true:=h.keep (x:=c194) rfl
 unfold eCA
 rw[hk]
 simp only[expL,exp,if_true,Exp.id,idxOf,List.nil_append,List.length_nil]
 have e2:eOs (G.length+1) ⟨[id],G⟩ 0=some ([.arr 6 (l.map Node.enc) gen sl],⟨[id],G⟩):=by
  obtain ⟨m,hm⟩:∃ m,G.length=m+1:=⟨G.length-1,by omega⟩
  rw[hm]
  simp only[eOs,List.getElem?_cons_zero,hG,Nat.zero_add,List.getElem?_cons_succ,List.getElem?_nil]
 rw[e2]
 dsimp only
 rw[s194 h hl]
 simp only[Out.back,back,setAll,backObj,List.length_cons,List.length_nil,List.drop_succ_cons,List.drop_nil,List.map_nil,List.append_nil,List.drop_zero]
 rw[set_same hG]
theorem t193 (h:Std pg){l:List (List UInt8×Nat)}(hl:l.length<2 ^ 20):eCA pg (E pg) 193 [.p (.sl (l.map encAr))] G=some (.ret (.p (.sl (l.map encAr))),G):=at_pure (e193 h hl) rfl rfl
theorem s184 (h:Std pg){n:Net}{x:Node}(hl:n.nodes.length<2 ^ 30)(hk:2≤x.kind)(hx:x.ok=true)(hp:x.ports<2 ^ 30)(hu:n.used<n.cap) :
  E pg 184 [.ag [.p (.sl (n.nodes.map Node.enc)),.p (.i .i64 n.cap)],.ag [.p (.i .i64 x.kind),.p (.i .i64 x.lev),.p (.i .i64 x.n),.p (.s x.name),.p (.sl (x.alts.map encAr)),.p (.sl (x.to.map Port.enc))]] [] =
   some (.ret (.tup [.ag [.p (.sl ((n.make x).nodes.map Node.enc)),.p (.i .i64 n.cap)],.p (.i .i64 n.place),.p (.i .i64 0)]),[]):=by
 have hal:=Node.alts_len hx
 have h5:=fun G=>t135 (G:=G) h x.kind x.lev x.n x.name x.alts x.to (by omega)
 have h6:∀ G,eCA pg (E pg) 136 [.ag [.p (.i .i64 x.kind),.p (.i .i64 x.lev),.p (.i .i64 x.n),.p (.s x.name),.p (.sl (x.alts.map encAr)),.p (.sl (x.to.map Port.enc))]] G=some (.ret (.p (.i .i64 x.ports)),G):=fun G=>t136 (G:=G) h x.kind x.lev x.n x.name x.alts x.to (by omega)
 have e0:((x.kind:Int)=0)=False:=eq_false (by omega)
 have e0':(x.kind=0)=False:=eq_false (by omega)
 have e1:((x.kind:Int)=1)=False:=eq_false (by omega)
 have e2:(n.cap≤n.used)=False:=eq_false (by omega)
 have e3:roomy x.ports 16=true:=by simp[roomy];omega
 have e4:roomy (n.nodes.length+1) 88=true:=by simp[roomy];omega
 rw[h.run (x:=c184) rfl (by decide) (by decide) (by decide) (by decide)]
 have hpl:n.place=(n.nodes.findIdx? fun x=>decide (x.kind=0)).getD n.nodes.length:=rfl
 cases hf:n.nodes.findIdx? (fun x=>decide (x.kind=0)) with
 |some k =>
  obtain ⟨k1,_,_⟩:=List.findIdx?_eq_some_iff_getElem.1 hf
  rw[hf]at hpl
  have hpl':n.place=k:=hpl
  have e5:n.place<n.nodes.length:=by omega
  have e6:((k:Int)<0)=False:=eq_false (by omega)
  simp[c184,leave,h5,h6,hx,e0,e0',e1,e2,e3,t143 h (show n.nodes.length<2 ^ 40 by omega),(show keepA pg 143=false from h.keep (x:=c143) rfl),(show keepA pg 136=false from h.keep (x:=c136) rfl),h.k193,t172 h hl,t193 h (l:=x.alts) (by omega),okRow,t194 h (show n.nodes.length<2 ^ 40 by omega),hf,idxInt,quietFn,h.o193,h.quiet,pureAt,k1,e6,normP,toP,toPL,Net.make,e5,Port.enc,hpl',List.map_set,Node.fresh,Node.enc]
  rw[List.take_of_length_le (by simp)]
 |none =>
  rw[hf]at hpl
  have hpl':n.place=n.nodes.length:=hpl
  have e7:¬ n.place<n.nodes.length:=by omega
  have e8:(-1:Int)<0:=by omega
  have e9:∀ (a b c:Int) (s:List UInt8) (u v:List (List PV)),okRows 6 [[.i .i64 a,.i .i64 b,.i .i64 c,.s s,.sl u,.sl v]]=true:=fun _ _ _ _ _ _=>rfl
  have e11:(n.nodes.length:Int)<(n.nodes.length:Int)+1:=by omega
  have e10:(n.nodes.map Node.enc).take n.nodes.length=n.nodes.map Node.enc:=List.take_of_length_le (by simp)
  simp[c184,leave,h5,h6,hx,e0,e0',e1,e2,e3,t143 h (show n.nodes.length<2 ^ 40 by omega),(show keepA pg 143=false from h.keep (x:=c143) rfl),(show keepA pg 136=false from h.keep (x:=c136) rfl),h.k193,t172 h hl,t193 h (l:=x.alts) (by omega),okRow,t194 h (show n.nodes.length<2 ^ 40 by omega),hf,idxInt,quietFn,h.o193,h.quiet,pureAt,e8,e9,e10,e11,evApp,evOp.fillRows,e4,normP,toP,toPL,Net.make,Port.enc,hpl',List.map_set,Node.fresh,Node.enc]
  rw[List.take_of_length_le (by simp)]
theorem s154 (h:Std pg)(k:Nat):E pg 154 [.p (.i .i64 k)] []=some (.ret (.p (.i .i64 (cls k))),[]):=by
 rw[h.run (x:=c154) rfl (by decide) (by decide) (by decide) (by decide)]
 have hk:k=3∨k=9∨k=11∨k=12∨k=2∨k=8∨k=10∨k=13∨k=4∨k=5∨k=6∨k=7∨(k≠3∧k≠9∧k≠11∧k≠12∧k≠2∧k≠8∧k≠10∧k≠13∧k≠4∧k≠5∧k≠6∧k≠7):=by omega
 rcases hk with rfl|rfl|rfl|rfl|rfl|rfl|rfl|rfl|rfl|rfl|rfl|rfl|hk
 all_goals first
  |(simp[c154,leave,cls];done)
  |(obtain ⟨a1,a2,a3,a4,a5,a6,a7,a8,a9,a10,a11,a12⟩:=hk
    have b1:¬ (k:Int)=3:=by omega
    have b2:¬ (k:Int)=9:=by omega
    have b3:¬ (k:Int)=11:=by omega
    have b4:¬ (k:Int)=12:=by omega
    have b5:¬ (k:Int)=2:=by omega
    have b6:¬ (k:Int)=8:=by omega
    have b7:¬ (k:Int)=10:=by omega
    have b8:¬ (k:Int)=13:=by omega
    have b9:¬ (k:Int)=4:=by omega
    have b10:¬ (k:Int)=5:=by omega
    have b11:¬ (k:Int)=6:=by omega
    have b12:¬ (k:Int)=7:=by omega
    simp[c154,leave,cls,a1,a2,a3,a4,a5,a6,a7,a8,a9,a10,a11,a12,b1,b2,b3,b4,b5,b6,b7,b8,b9,b10,b11,b12])
theorem t154 (h:Std pg)(k:Nat):eCA pg (E pg) 154 [.p (.i .i64 k)] G=some (.ret (.p (.i .i64 (cls k))),G):=at_pure (s154 h k) rfl rfl
theorem t156 (h:Std pg)(k:Nat)(K:Int)(hK:K=k):eCA pg (E pg) 156 [.p (.i .i64 K)] G=some (.ret (.tup [.ag (pcs (Plan.plain k).enc),.p (.i .i64 0)]),G):=by
 subst hK
 refine at_pure ?_ rfl rfl
 rw[h.run (x:=c156) rfl (by decide) (by decide) (by decide) (by decide)]
 simp[c156,leave,Plan.plain,Plan.enc,Node.zero]
theorem t161 (h:Std pg)(x:Node)(hl:x.to.length<2 ^ 40):eCA pg (E pg) 161 [.ag [.p (.i .i64 x.kind),.p (.i .i64 x.lev),.p (.i .i64 x.n),.p (.s x.name),.p (.sl (x.alts.map encAr)),.p (.sl (x.to.map Port.enc))]] G=some (.ret (.p (.i .i64 x.others)),G):=by
 refine at_pure ?_ rfl rfl
 rw[h.run (x:=c161) rfl (by decide) (by decide) (by decide) (by decide)]
 simp[c161,leave,w64 ((x.to.length:Int)-1) (by omega) (by omega),maxI,Node.others]
 split<;>omega
theorem s153 (h:Std pg)(u v:Nat)(U V:Int)(hU:U=u)(hV:V=v)(a b:Node):E pg 153 [.p (.i .i64 U),.p (.i .i64 V),.ptr 0 0,.ptr 1 0] [.box [.p (.i .i64 a.kind),.p (.i .i64 a.lev),.p (.i .i64 a.n),.p (.s a.name),.p (.sl (a.alts.map encAr)),.p (.sl (a.to.map Port.enc))],.box [.p (.i .i64 b.kind),.p (.i .i64 b.lev),.p (.i .i64 b.n),.p (.s b.name),.p (.sl (b.alts.map encAr)),.p (.sl (b.to.map Port.enc))]]=some (.ret (.p (.b (decide (cls a.kind=u) && decide (cls b.kind=v)))),[.box [.p (.i .i64 a.kind),.p (.i .i64 a.lev),.p (.i .i64 a.n),.p (.s a.name),.p (.sl (a.alts.map encAr)),.p (.sl (a.to.map Port.enc))],.box [.p (.i .i64 b.kind),.p (.i .i64 b.lev),.p (.i .i64 b.n),.p (.s b.name),.p (.sl (b.alts.map encAr)),.p (.sl (b.to.map Port.enc))]]):=by
 subst hU;subst hV
 rw[h.run (x:=c153) rfl (by decide) (by decide) (by decide) (by decide)]
 by_cases h1:cls a.kind=u
 ·simp[c153,leave,t154 h,Int.natCast_inj,eq_true h1]
 ·simp[c153,leave,t154 h,Int.natCast_inj,eq_false h1]
theorem s155 (h:Std pg)(u:Nat)(U:Int)(hU:U=u)(a b:Node):E pg 155 [.p (.i .i64 U),.ptr 0 0,.ptr 1 0] [.box [.p (.i .i64 a.kind),.p (.i .i64 a.lev),.p (.i .i64 a.n),.p (.s a.name),.p (.sl (a.alts.map encAr)),.p (.sl (a.to.map Port.enc))],.box [.p (.i .i64 b.kind),.p (.i .i64 b.lev),.p (.i .i64 b.n),.p (.s b.name),.p (.sl (b.alts.map encAr)),.p (.sl (b.to.map Port.enc))]]=some (.ret (.p (.b (decide (cls a.kind=u) || decide (cls b.kind=u)))),[.box [.p (.i .i64 a.kind),.p (.i .i64 a.lev),.p (.i .i64 a.n),.p (.s a.name),.p (.sl (a.alts.map encAr)),.p (.sl (a.to.map Port.enc))],.box [.p (.i .i64 b.kind),.p (.i .i64 b.lev),.p (.i .i64 b.n),.p (.s b.name),.p (.sl (b.alts.map encAr)),.p (.sl (b.to.map Port.enc))]]):=by
 subst hU
 rw[h.run (x:=c155) rfl (by decide) (by decide) (by decide) (by decide)]
 by_cases h1:cls a.kind=u
 ·simp[c155,leave,t154 h,Int.natCast_inj,eq_true h1]
 ·simp[c155,leave,t154 h,Int.natCast_inj,eq_false h1]
theorem t158 (h:Std pg)(x y:Node)(hx:x.lev≤60)(hy:y.lev≤60):eCA pg (E pg) 158 [.ag [.p (.i .i64 x.kind),.p (.i .i64 x.lev),.p (.i .i64 x.n),.p (.s x.name),.p (.sl (x.alts.map encAr)),.p (.sl (x.to.map Port.enc))],.ag [.p (.i .i64 y.kind),.p (.i .i64 y.lev),.p (.i .i64 y.n),.p (.s y.name),.p (.sl (y.alts.map encAr)),.p (.sl (y.to.map Port.enc))]] G=some (.ret (.tup [.ag (pcs (rulePass x y).1.enc),.p (.i .i64 (rulePass x y).2)]),G):=by
 refine at_pure ?_ rfl rfl
 rw[h.run (x:=c158) rfl (by decide) (by decide) (by decide) (by decide)]
 by_cases h1:y.lev≤x.lev
 ·by_cases h5:x.kind=5
  ·have a5:((x.kind:Int)=5)=True:=eq_true (by omega)
   simp[c158,leave,a5,h1,w64 ((y.lev:Int)-1) (by omega) (by omega),rulePass,Plan.plain,Plan.enc,Node.zero]
  ·have a5:((x.kind:Int)=5)=False:=eq_false (by omega)
   by_cases h6:x.kind=6
   ·have a6:((x.kind:Int)=6)=True:=eq_true (by omega)
    simp[c158,leave,a5,a6,h1,w64 ((y.lev:Int)+1) (by omega) (by omega),rulePass,Plan.plain,Plan.enc,Node.zero]
   ·have a6:((x.kind:Int)=6)=False:=eq_false (by omega)
    simp[c158,leave,a5,a6,h1,rulePass,Plan.plain,Plan.enc,Node.zero]
 ·by_cases h5:x.kind=5
  ·have a5:((x.kind:Int)=5)=True:=eq_true (by omega)
   have b1:¬ (60:Int)<(y.lev:Int)-1:=by omega
   have b2:¬ 60<y.lev-1:=by omega
   have b3:(y.lev:Int)-1=((y.lev-1:Nat):Int):=by omega
   simp[c158,leave,a5,eq_true h5,h1,w64 ((y.lev:Int)-1) (by omega) (by omega),b1,b2,rulePass,passLev,Plan.plain,Plan.enc,Node.zero]
   omega
  ·have a5:((x.kind:Int)=5)=False:=eq_false (by omega)
   by_cases h6:x.kind=6
   ·have a6:((x.kind:Int)=6)=True:=eq_true (by omega)
    by_cases h7:60<y.lev+1
    ·have a7:(60:Int)<(y.lev:Int)+1:=by omega
     simp[c158,leave,a5,a6,eq_false h5,eq_true h6,h1,h7,a7,w64 ((y.lev:Int)+1) (by omega) (by omega),rulePass,passLev,Plan.plain,Plan.enc,Node.zero]
    ·have a7:¬ (60:Int)<(y.lev:Int)+1:=by omega
     simp[c158,leave,a5,a6,eq_false h5,eq_true h6,h1,h7,a7,w64 ((y.lev:Int)+1) (by omega) (by omega),rulePass,passLev,Plan.plain,Plan.enc,Node.zero]
   ·have a6:((x.kind:Int)=6)=False:=eq_false (by omega)
    have a7:¬ (60:Int)<(y.lev:Int):=by omega
    have a8:¬ 60<y.lev:=by omega
    simp[c158,leave,a5,a6,a7,a8,eq_false h5,eq_false h6,h1,rulePass,passLev,Plan.plain,Plan.enc,Node.zero]
theorem t157 (h:Std pg)(p:Plan)(e:Nat):eCA pg (E pg) 157 [.ag [.p (.i .i64 p.kind),.p (.b p.swap),.p (.i .i64 p.lev),.p (.i .i64 p.alt),.p (.i .i64 p.node.kind),.p (.i .i64 p.node.lev),.p (.i .i64 p.node.n),.p (.s p.node.name),.p (.sl (p.node.alts.map encAr)),.p (.sl (p.node.to.map Port.enc))],.p (.i .i64 e)] G=some (.ret (.tup [.ag (pcs (swapped (p,e)).1.enc),.p (.i .i64 (swapped (p,e)).2)]),G):=by
 refine at_pure ?_ rfl rfl
 rw[h.run (x:=c157) rfl (by decide) (by decide) (by decide) (by decide)]
 by_cases h1:e=0
 ·subst h1
  simp[c157,leave,swapped,Plan.enc]
 ·have h2:¬ (e:Int)=0:=by omega
  simp[c157,leave,swapped,Plan.enc,h1,h2]
theorem s188 (h:Std pg)(c:List UInt8×Nat)(y:Node)(hl:y.to.length<2 ^ 40):E pg 188 [.ag [.p (.s c.1),.p (.i .i64 c.2)],.ptr 0 0] [.box [.p (.i .i64 y.kind),.p (.i .i64 y.lev),.p (.i .i64 y.n),.p (.s y.name),.p (.sl (y.alts.map encAr)),.p (.sl (y.to.map Port.enc))]]=some (.ret (.p (.b (decide (c.1=y.name) && decide (c.2+1=y.to.length)))),[.box [.p (.i .i64 y.kind),.p (.i .i64 y.lev),.p (.i .i64 y.n),.p (.s y.name),.p (.sl (y.alts.map encAr)),.p (.sl (y.to.map Port.enc))]]):=by
 rw[h.run (x:=c188) rfl (by decide) (by decide) (by decide) (by decide)]
 by_cases h1:c.1=y.name
 ·by_cases h2:c.2+1=y.to.length
  ·have h3:(c.2:Int)=(y.to.length:Int)-1:=by omega
   simp[c188,leave,eq_true h1,eq_true h2,eq_true h3,w64 ((y.to.length:Int)-1) (by omega) (by omega)]
  ·have h3:¬ (c.2:Int)=(y.to.length:Int)-1:=by omega
   simp[c188,leave,eq_true h1,h2,h3,w64 ((y.to.length:Int)-1) (by omega) (by omega)]
 ·simp[c188,leave,h1]
theorem s187p (h:Std pg)(x y:Node)(hl:y.to.length<2 ^ 40)(ha:x.alts.length<2 ^ 40):E pg 187 [.p (.sl (x.alts.map encAr)),.fn 188 [] [.ptr 0 0]] [.box [.p (.i .i64 y.kind),.p (.i .i64 y.lev),.p (.i .i64 y.n),.p (.s y.name),.p (.sl (y.alts.map encAr)),.p (.sl (y.to.map Port.enc))]]=some (.ret (.p (.i .i64 (idxInt (pickAt x y)))),[.box [.p (.i .i64 y.kind),.p (.i .i64 y.lev),.p (.i .i64 y.n),.p (.s y.name),.p (.sl (y.alts.map encAr)),.p (.sl (y.to.map Port.enc))]]):=by
 have h1:=s187 (G:=[.box [.p (.i .i64 y.kind),.p (.i .i64 y.lev),.p (.i .i64 y.n),.p (.s y.name),.p (.sl (y.alts.map encAr)),.p (.sl (y.to.map Port.enc))]]) h (f:=188) (first:=[]) (cap:=[.ptr 0 0]) (rows:=x.alts.map encAr) (q:=fun row=>match row with|[.s a,.i _ m]=>decide (a=y.name) && decide (m+1=y.to.length)|_=>false) (by simpa using ha) rfl rfl (okRows_map okAr x.alts) (by
  intro row hr
  obtain ⟨b,_,rfl⟩:=List.mem_map.1 hr
  have e:decide ((b.2:Int)+1=y.to.length)=decide (b.2+1=y.to.length):=by
   rw[decide_eq_decide];omega
  simp[encAr,pcs,eCA,gc,gcEnv,exp,expL,eOs,Exp.id,idxOf,List.range,List.range.loop,s188 h b y hl,Out.back,back,backL,backId,backObj,setAll,e])
 have h2:(x.alts.map encAr).findIdx? (fun row=>match row with|[.s a,.i _ m]=>decide (a=y.name) && decide (m+1=y.to.length)|_=>false)=pickAt x y:=by
  rw[List.findIdx?_map]
  unfold pickAt
  congr 1
  funext a
  simp only[Function.comp,encAr]
  congr 1
  rw[decide_eq_decide];omega
 rw[h2]at h1
 exact h1
theorem t176 (h:Std pg)(x y:Node)(hl:y.to.length<2 ^ 40)(ha:x.alts.length<2 ^ 40):eCA pg (E pg) 176 [.ag [.p (.i .i64 x.kind),.p (.i .i64 x.lev),.p (.i .i64 x.n),.p (.s x.name),.p (.sl (x.alts.map encAr)),.p (.sl (x.to.map Port.enc))],.ag [.p (.i .i64 y.kind),.p (.i .i64 y.lev),.p (.i .i64 y.n),.p (.s y.name),.p (.sl (y.alts.map encAr)),.p (.sl (y.to.map Port.enc))]] G=some (.ret (.tup [.ag (pcs (rulePick x y).1.enc),.p (.i .i64 (rulePick x y).2)]),G):=by
 refine at_pure ?_ rfl rfl
 rw[h.run (x:=c176) rfl (by decide) (by decide) (by decide) (by decide)]
 have h1:=s187p h x y hl ha
 have h2:=t156 (G:=[.box [.p (.i .i64 x.kind),.p (.i .i64 x.lev),.p (.i .i64 x.n),.p (.s x.name),.p (.sl (x.alts.map encAr)),.p (.sl (x.to.map Port.enc))],.box [.p (.i .i64 y.kind),.p (.i .i64 y.lev),.p (.i .i64 y.n),.p (.s y.name),.p (.sl (y.alts.map encAr)),.p (.sl (y.to.map Port.enc))],.box [.p (.i .i64 0),.p (.b false),.p (.i .i64 0),.p (.i .i64 0),.p (.i .i64 0),.p (.i .i64 0),.p (.i .i64 0),.p (.s []),.nils,.nils]]) h 5 5 rfl
 by_cases h3:x.lev=y.lev
 ·have h4:(x.lev:Int)=y.lev:=by omega
  cases hp:pickAt x y with
  |none =>
   rw[hp]at h1
   have h5:eCA pg (E pg) 187 [.p (.sl (x.alts.map encAr)),.fn 188 [] [.ptr 1 0]] [.box [.p (.i .i64 x.kind),.p (.i .i64 x.lev),.p (.i .i64 x.n),.p (.s x.name),.p (.sl (x.alts.map encAr)),.p (.sl (x.to.map Port.enc))],.box [.p (.i .i64 y.kind),.p (.i .i64 y.lev),.p (.i .i64 y.n),.p (.s y.name),.p (.sl (y.alts.map encAr)),.p (.sl (y.to.map Port.enc))],.box [.p (.i .i64 0),.p (.b false),.p (.i .i64 0),.p (.i .i64 0),.p (.i .i64 0),.p (.i .i64 0),.p (.i .i64 0),.p (.s []),.nils,.nils]]=some (.ret (.p (.i .i64 (-1))),[.box [.p (.i .i64 x.kind),.p (.i .i64 x.lev),.p (.i .i64 x.n),.p (.s x.name),.p (.sl (x.alts.map encAr)),.p (.sl (x.to.map Port.enc))],.box [.p (.i .i64 y.kind),.p (.i .i64 y.lev),.p (.i .i64 y.n),.p (.s y.name),.p (.sl (y.alts.map encAr)),.p (.sl (y.to.map Port.enc))],.box [.p (.i .i64 0),.p (.b false),.p (.i .i64 0),.p (.i .i64 0),.p (.i .i64 0),.p (.i .i64 0),.p (.i .i64 0),.p (.s []),.nils,.nils]]):=by
    simp[eCA,gc,gcEnv,exp,expL,eOs,Exp.id,idxOf,List.range,List.range.loop,h1,Out.back,back,backL,backId,backObj,setAll,(show keepA pg 187=false from h.keep (x:=c187) rfl),idxInt]
   simp[c176,leave,eq_true h3,eq_true h4,h5,h2,Plan.enc,rulePick,hp]
  |some k =>
   rw[hp]at h1
   have h5:eCA pg (E pg) 187 [.p (.sl (x.alts.map encAr)),.fn 188 [] [.ptr 1 0]] [.box [.p (.i .i64 x.kind),.p (.i .i64 x.lev),.p (.i .i64 x.n),.p (.s x.name),.p (.sl (x.alts.map encAr)),.p (.sl (x.to.map Port.enc))],.box [.p (.i .i64 y.kind),.p (.i .i64 y.lev),.p (.i .i64 y.n),.p (.s y.name),.p (.sl (y.alts.map encAr)),.p (.sl (y.to.map Port.enc))],.box [.p (.i .i64 0),.p (.b false),.p (.i .i64 0),.p (.i .i64 0),.p (.i .i64 0),.p (.i .i64 0),.p (.i .i64 0),.p (.s []),.nils,.nils]]=some (.ret (.p (.i .i64 k)),[.box [.p (.i .i64 x.kind),.p (.i .i64 x.lev),.p (.i .i64 x.n),.p (.s x.name),.p (.sl (x.alts.map encAr)),.p (.sl (x.to.map Port.enc))],.box [.p (.i .i64 y.kind),.p (.i .i64 y.lev),.p (.i .i64 y.n),.p (.s y.name),.p (.sl (y.alts.map encAr)),.p (.sl (y.to.map Port.enc))],.box [.p (.i .i64 0),.p (.b false),.p (.i .i64 0),.p (.i .i64 0),.p (.i .i64 0),.p (.i .i64 0),.p (.i .i64 0),.p (.s []),.nils,.nils]]):=by
    simp[eCA,gc,gcEnv,exp,expL,eOs,Exp.id,idxOf,List.range,List.range.loop,h1,Out.back,back,backL,backId,backObj,setAll,(show keepA pg 187=false from h.keep (x:=c187) rfl),idxInt]
   have h6:¬ (k:Int)<0:=by omega
   simp[c176,leave,eq_true h3,eq_true h4,h5,h6,Plan.enc,rulePick,hp,Node.zero]
 ·have h4:¬ (x.lev:Int)=y.lev:=by omega
  simp[c176,leave,h3,h4,Plan.enc,rulePick,Plan.plain,Node.zero]
theorem t189 (h:Std pg)(b:Bool):eCA pg (E pg) 189 [.p (.b b)] G=some (.ret (.ag (pcs (truth b).enc)),G):=by
 refine at_pure ?_ rfl rfl
 rw[h.run (x:=c189) rfl (by decide) (by decide) (by decide) (by decide)]
 cases b<;>simp[c189,leave,roomy,okRow,truth,Node.enc,Port.enc,encAr]
theorem t177 (h:Std pg)(x y:Node)(hx:x.lev≤60):eCA pg (E pg) 177 [.ag [.p (.i .i64 x.kind),.p (.i .i64 x.lev),.p (.i .i64 x.n),.p (.s x.name),.p (.sl (x.alts.map encAr)),.p (.sl (x.to.map Port.enc))],.ag [.p (.i .i64 y.kind),.p (.i .i64 y.lev),.p (.i .i64 y.n),.p (.s y.name),.p (.sl (y.alts.map encAr)),.p (.sl (y.to.map Port.enc))]] G=some (.ret (.tup [.ag (pcs (ruleOut x y).1.enc),.p (.i .i64 (ruleOut x y).2)]),G):=by
 refine at_pure ?_ rfl rfl
 rw[h.run (x:=c177) rfl (by decide) (by decide) (by decide) (by decide)]
 by_cases h1:x.name=[43]
 ·simp[c177,leave,h1,ruleOut,outNode,intNode,Plan.enc]
 ·by_cases h2:x.name=[45]
  ·simp[c177,leave,h2,ruleOut,outNode,intNode,Plan.enc]
  ·by_cases h3:x.name=[42]
   ·simp[c177,leave,h3,ruleOut,outNode,intNode,Plan.enc]
   ·by_cases h4:x.name=[47]
    ·by_cases h7:y.n=0
     ·have h8:=fun G=>t156 (G:=G) h 5 5 rfl
      simp[c177,leave,h4,h7,h8,ruleOut,outNode,intNode,Plan.enc]
     ·simp[c177,leave,h4,h7,ruleOut,outNode,intNode,Plan.enc]
    ·by_cases h5:x.name=[60]
     ·simp[c177,leave,h5,t189 h,ruleOut,outNode,intNode,Plan.enc,Node.enc]
     ·by_cases h6:x.name=[61,61]
      ·simp[c177,leave,h6,t189 h,ruleOut,outNode,intNode,Plan.enc,Node.enc]
      ·simp[c177,leave,h1,h2,h3,h4,h5,h6,ruleOut,outNode,intNode,Plan.enc]
theorem t159 (h:Std pg)(x y:Node)(hx:x.lev≤60)(hl:y.to.length<2 ^ 40)(ha:x.alts.length<2 ^ 40):eCA pg (E pg) 159 [.ag [.p (.i .i64 x.kind),.p (.i .i64 x.lev),.p (.i .i64 x.n),.p (.s x.name),.p (.sl (x.alts.map encAr)),.p (.sl (x.to.map Port.enc))],.ag [.p (.i .i64 y.kind),.p (.i .i64 y.lev),.p (.i .i64 y.n),.p (.s y.name),.p (.sl (y.alts.map encAr)),.p (.sl (y.to.map Port.enc))]] G=some (.ret (.tup [.ag (pcs (ruleAsk x y).1.enc),.p (.i .i64 (ruleAsk x y).2)]),G):=by
 refine at_pure ?_ rfl rfl
 rw[h.run (x:=c159) rfl (by decide) (by decide) (by decide) (by decide)]
 have p1:=fun G=>t156 (G:=G) h 1 1 rfl
 have p3:=fun G=>t156 (G:=G) h 3 3 rfl
 have p5:=fun G=>t156 (G:=G) h 5 5 rfl
 by_cases a0:x.kind=3∧y.kind=2
 ·have b0:(decide ((x.kind:Int)=3) && decide ((y.kind:Int)=2))=true:=by simp;omega
  by_cases c:x.lev=y.lev
  ·have c':(x.lev:Int)=y.lev:=by omega
   simp[c159,leave,b0,eq_true a0,eq_true c,eq_true c',p1,Plan.enc,ruleAsk]
  ·have c':¬ (x.lev:Int)=y.lev:=by omega
   simp[c159,leave,b0,eq_true a0,c,c',Plan.enc,Plan.plain,Node.zero,ruleAsk]
 ·have b0:(decide ((x.kind:Int)=3) && decide ((y.kind:Int)=2))=false:=by simp;omega
  by_cases a1:x.kind=9∧y.kind=8
  ·have b1:(decide ((x.kind:Int)=9) && decide ((y.kind:Int)=8))=true:=by simp;omega
   simp[c159,leave,b0,b1,eq_true a1,eq_false a0,t176 h x y hl ha,Plan.enc,ruleAsk]
  ·have b1:(decide ((x.kind:Int)=9) && decide ((y.kind:Int)=8))=false:=by simp;omega
   by_cases a2:x.kind=11∧y.kind=10
   ·have b2:(decide ((x.kind:Int)=11) && decide ((y.kind:Int)=10))=true:=by simp;omega
    simp[c159,leave,b0,b1,b2,eq_true a2,eq_false a0,eq_false a1,p3,Plan.enc,ruleAsk]
   ·have b2:(decide ((x.kind:Int)=11) && decide ((y.kind:Int)=10))=false:=by simp;omega
    by_cases a3:x.kind=12∧y.kind=10
    ·have b3:(decide ((x.kind:Int)=12) && decide ((y.kind:Int)=10))=true:=by simp;omega
     simp[c159,leave,b0,b1,b2,b3,eq_true a3,eq_false a0,eq_false a1,eq_false a2,t177 h x y hx,Plan.enc,ruleAsk]
    ·have b3:(decide ((x.kind:Int)=12) && decide ((y.kind:Int)=10))=false:=by simp;omega
     simp[c159,leave,b0,b1,b2,b3,eq_false a0,eq_false a1,eq_false a2,eq_false a3,p5,Plan.enc,ruleAsk]
theorem u155 (h:Std pg)(a b:Node)(R:AObj):eCA pg (E pg) 155 [.p (.i .i64 0),.ptr 0 0,.ptr 1 0] [.box [.p (.i .i64 a.kind),.p (.i .i64 a.lev),.p (.i .i64 a.n),.p (.s a.name),.p (.sl (a.alts.map encAr)),.p (.sl (a.to.map Port.enc))],.box [.p (.i .i64 b.kind),.p (.i .i64 b.lev),.p (.i .i64 b.n),.p (.s b.name),.p (.sl (b.alts.map encAr)),.p (.sl (b.to.map Port.enc))],R]=some (.ret (.p (.b (decide (cls a.kind=0) || decide (cls b.kind=0)))),[.box [.p (.i .i64 a.kind),.p (.i .i64 a.lev),.p (.i .i64 a.n),.p (.s a.name),.p (.sl (a.alts.map encAr)),.p (.sl (a.to.map Port.enc))],.box [.p (.i .i64 b.kind),.p (.i .i64 b.lev),.p (.i .i64 b.n),.p (.s b.name),.p (.sl (b.alts.map encAr)),.p (.sl (b.to.map Port.enc))],R]):=by
 simp[eCA,gc,gcEnv,exp,expL,eOs,Exp.id,idxOf,List.range,List.range.loop,s155 h 0 0 rfl,Out.back,back,backL,backId,backObj,setAll,(show keepA pg 155=false from h.keep (x:=c155) rfl)]
theorem u153 (h:Std pg)(u v:Nat)(U V:Int)(hU:U=u)(hV:V=v)(a b:Node)(R:AObj):eCA pg (E pg) 153 [.p (.i .i64 U),.p (.i .i64 V),.ptr 0 0,.ptr 1 0] [.box [.p (.i .i64 a.kind),.p (.i .i64 a.lev),.p (.i .i64 a.n),.p (.s a.name),.p (.sl (a.alts.map encAr)),.p (.sl (a.to.map Port.enc))],.box [.p (.i .i64 b.kind),.p (.i .i64 b.lev),.p (.i .i64 b.n),.p (.s b.name),.p (.sl (b.alts.map encAr)),.p (.sl (b.to.map Port.enc))],R]=some (.ret (.p (.b (decide (cls a.kind=u) && decide (cls b.kind=v)))),[.box [.p (.i .i64 a.kind),.p (.i .i64 a.lev),.p (.i .i64 a.n),.p (.s a.name),.p (.sl (a.alts.map encAr)),.p (.sl (a.to.map Port.enc))],.box [.p (.i .i64 b.kind),.p (.i .i64 b.lev),.p (.i .i64 b.n),.p (.s b.name),.p (.sl (b.alts.map encAr)),.p (.sl (b.to.map Port.enc))],R]):=by
 simp[eCA,gc,gcEnv,exp,expL,eOs,Exp.id,idxOf,List.range,List.range.loop,s153 h u v U V hU hV,Out.back,back,backL,backId,backObj,setAll,(show keepA pg 153=false from h.keep (x:=c153) rfl)]
theorem cls_le (k:Nat):cls k≤4:=by
 unfold cls
 split
 ·omega
 ·split
  ·omega
  ·split
   ·omega
   ·split<;>omega
theorem t142 (h:Std pg)(a b:Node)(hxa:a.lev≤60)(hxb:b.lev≤60)(hla:a.to.length<2 ^ 40)(hlb:b.to.length<2 ^ 40)(haa:a.alts.length<2 ^ 40)(hab:b.alts.length<2 ^ 40) :
  eCA pg (E pg) 142 [.ag [.p (.i .i64 a.kind),.p (.i .i64 a.lev),.p (.i .i64 a.n),.p (.s a.name),.p (.sl (a.alts.map encAr)),.p (.sl (a.to.map Port.enc))],.ag [.p (.i .i64 b.kind),.p (.i .i64 b.lev),.p (.i .i64 b.n),.p (.s b.name),.p (.sl (b.alts.map encAr)),.p (.sl (b.to.map Port.enc))]] G=some (.ret (.tup [.ag (pcs (ruleOf a b).1.enc),.p (.i .i64 (ruleOf a b).2)]),G):=by
 refine at_pure ?_ rfl rfl
 rw[h.run (x:=c142) rfl (by decide) (by decide) (by decide) (by decide)]
 have p8:=fun G=>t156 (G:=G) h 8 8 rfl
 have p6:=fun G=>t156 (G:=G) h 6 6 rfl
 have q33:=fun R=>u153 h 3 3 3 3 rfl rfl a b R
 have q12:=fun R=>u153 h 1 2 1 2 rfl rfl a b R
 have q21:=fun R=>u153 h 2 1 2 1 rfl rfl a b R
 have hca:=cls_le a.kind
 have hcb:=cls_le b.kind
 have w8:=fun G=>t157 (G:=G) h (.plain 8) 0
 have wab:=fun G=>t157 (G:=G) h (rulePass a b).1 (rulePass a b).2
 have wba:=fun G=>t157 (G:=G) h (rulePass b a).1 (rulePass b a).2
 have vba:=fun G=>t157 (G:=G) h (ruleAsk b a).1 (ruleAsk b a).2
 rw[show ((0:Nat):Int)=0 from rfl]at w8
 have hca':cls a.kind=0∨cls a.kind=1∨cls a.kind=2∨cls a.kind=3∨cls a.kind=4:=by omega
 have hcb':cls b.kind=0∨cls b.kind=1∨cls b.kind=2∨cls b.kind=3∨cls b.kind=4:=by omega
 rcases hca' with ha|ha|ha|ha|ha
 ·have fa0:(cls a.kind=0)=True:=eq_true (by omega)
  have fa0i:((cls a.kind:Int)=0)=True:=eq_true (by omega)
  have fa1:(cls a.kind=1)=False:=eq_false (by omega)
  have fa1i:((cls a.kind:Int)=1)=False:=eq_false (by omega)
  have fa2:(cls a.kind=2)=False:=eq_false (by omega)
  have fa2i:((cls a.kind:Int)=2)=False:=eq_false (by omega)
  have fa3:(cls a.kind=3)=False:=eq_false (by omega)
  have fa3i:((cls a.kind:Int)=3)=False:=eq_false (by omega)
  have fa4:(cls a.kind=4)=False:=eq_false (by omega)
  have fa4i:((cls a.kind:Int)=4)=False:=eq_false (by omega)
  simp[c142,leave,u155 h,t154 h,q33,q12,q21,p8,p6,w8,wba,vba,t158 h _ _ hxa hxb,t158 h _ _ hxb hxa,t159 h a b hxa hlb haa,t159 h b a hxb hla hab,Plan.enc,ruleOf,fa0,fa0i,fa1,fa1i,fa2,fa2i,fa3,fa3i,fa4,fa4i,Plan.plain,Node.zero]
 ·rcases hcb' with hb|hb|hb|hb|hb
  ·have fa0:(cls a.kind=0)=False:=eq_false (by omega)
   have fa0i:((cls a.kind:Int)=0)=False:=eq_false (by omega)
   have fa1:(cls a.kind=1)=True:=eq_true (by omega)
   have fa1i:((cls a.kind:Int)=1)=True:=eq_true (by omega)
   have fa2:(cls a.kind=2)=False:=eq_false (by omega)
   have fa2i:((cls a.kind:Int)=2)=False:=eq_false (by omega)
   have fa3:(cls a.kind=3)=False:=eq_false (by omega)
   have fa3i:((cls a.kind:Int)=3)=False:=eq_false (by omega)
   have fa4:(cls a.kind=4)=False:=eq_false (by omega)
   have fa4i:((cls a.kind:Int)=4)=False:=eq_false (by omega)
   have fb0:(cls b.kind=0)=True:=eq_true (by omega)
   have fb0i:((cls b.kind:Int)=0)=True:=eq_true (by omega)
   have fb1:(cls b.kind=1)=False:=eq_false (by omega)
   have fb1i:((cls b.kind:Int)=1)=False:=eq_false (by omega)
   have fb2:(cls b.kind=2)=False:=eq_false (by omega)
   have fb2i:((cls b.kind:Int)=2)=False:=eq_false (by omega)
   have fb3:(cls b.kind=3)=False:=eq_false (by omega)
   have fb3i:((cls b.kind:Int)=3)=False:=eq_false (by omega)
   have fb4:(cls b.kind=4)=False:=eq_false (by omega)
   have fb4i:((cls b.kind:Int)=4)=False:=eq_false (by omega)
   simp[c142,leave,u155 h,t154 h,q33,q12,q21,p8,p6,w8,wba,vba,t158 h _ _ hxa hxb,t158 h _ _ hxb hxa,t159 h a b hxa hlb haa,t159 h b a hxb hla hab,Plan.enc,ruleOf,fa0,fa0i,fa1,fa1i,fa2,fa2i,fa3,fa3i,fa4,fa4i,fb0,fb0i,fb1,fb1i,fb2,fb2i,fb3,fb3i,fb4,fb4i,Plan.plain,Node.zero]
  ·have fa0:(cls a.kind=0)=False:=eq_false (by omega)
   have fa0i:((cls a.kind:Int)=0)=False:=eq_false (by omega)
   have fa1:(cls a.kind=1)=True:=eq_true (by omega)
   have fa1i:((cls a.kind:Int)=1)=True:=eq_true (by omega)
   have fa2:(cls a.kind=2)=False:=eq_false (by omega)
   have fa2i:((cls a.kind:Int)=2)=False:=eq_false (by omega)
   have fa3:(cls a.kind=3)=False:=eq_false (by omega)
   have fa3i:((cls a.kind:Int)=3)=False:=eq_false (by omega)
   have fa4:(cls a.kind=4)=False:=eq_false (by omega)
   have fa4i:((cls a.kind:Int)=4)=False:=eq_false (by omega)
   have fb0:(cls b.kind=0)=False:=eq_false (by omega)
   have fb0i:((cls b.kind:Int)=0)=False:=eq_false (by omega)
   have fb1:(cls b.kind=1)=True:=eq_true (by omega)
   have fb1i:((cls b.kind:Int)=1)=True:=eq_true (by omega)
   have fb2:(cls b.kind=2)=False:=eq_false (by omega)
   have fb2i:((cls b.kind:Int)=2)=False:=eq_false (by omega)
   have fb3:(cls b.kind=3)=False:=eq_false (by omega)
   have fb3i:((cls b.kind:Int)=3)=False:=eq_false (by omega)
   have fb4:(cls b.kind=4)=False:=eq_false (by omega)
   have fb4i:((cls b.kind:Int)=4)=False:=eq_false (by omega)
   simp[c142,leave,u155 h,t154 h,q33,q12,q21,p8,p6,w8,wba,vba,t158 h _ _ hxa hxb,t158 h _ _ hxb hxa,t159 h a b hxa hlb haa,t159 h b a hxb hla hab,Plan.enc,ruleOf,fa0,fa0i,fa1,fa1i,fa2,fa2i,fa3,fa3i,fa4,fa4i,fb0,fb0i,fb1,fb1i,fb2,fb2i,fb3,fb3i,fb4,fb4i,Plan.plain,Node.zero]
  ·have fa0:(cls a.kind=0)=False:=eq_false (by omega)
   have fa0i:((cls a.kind:Int)=0)=False:=eq_false (by omega)
   have fa1:(cls a.kind=1)=True:=eq_true (by omega)
   have fa1i:((cls a.kind:Int)=1)=True:=eq_true (by omega)
   have fa2:(cls a.kind=2)=False:=eq_false (by omega)
   have fa2i:((cls a.kind:Int)=2)=False:=eq_false (by omega)
   have fa3:(cls a.kind=3)=False:=eq_false (by omega)
   have fa3i:((cls a.kind:Int)=3)=False:=eq_false (by omega)
   have fa4:(cls a.kind=4)=False:=eq_false (by omega)
   have fa4i:((cls a.kind:Int)=4)=False:=eq_false (by omega)
   have fb0:(cls b.kind=0)=False:=eq_false (by omega)
   have fb0i:((cls b.kind:Int)=0)=False:=eq_false (by omega)
   have fb1:(cls b.kind=1)=False:=eq_false (by omega)
   have fb1i:((cls b.kind:Int)=1)=False:=eq_false (by omega)
   have fb2:(cls b.kind=2)=True:=eq_true (by omega)
   have fb2i:((cls b.kind:Int)=2)=True:=eq_true (by omega)
   have fb3:(cls b.kind=3)=False:=eq_false (by omega)
   have fb3i:((cls b.kind:Int)=3)=False:=eq_false (by omega)
   have fb4:(cls b.kind=4)=False:=eq_false (by omega)
   have fb4i:((cls b.kind:Int)=4)=False:=eq_false (by omega)
   simp[c142,leave,u155 h,t154 h,q33,q12,q21,p8,p6,w8,wba,vba,t158 h _ _ hxa hxb,t158 h _ _ hxb hxa,t159 h a b hxa hlb haa,t159 h b a hxb hla hab,Plan.enc,ruleOf,fa0,fa0i,fa1,fa1i,fa2,fa2i,fa3,fa3i,fa4,fa4i,fb0,fb0i,fb1,fb1i,fb2,fb2i,fb3,fb3i,fb4,fb4i]
  ·have fa0:(cls a.kind=0)=False:=eq_false (by omega)
   have fa0i:((cls a.kind:Int)=0)=False:=eq_false (by omega)
   have fa1:(cls a.kind=1)=True:=eq_true (by omega)
   have fa1i:((cls a.kind:Int)=1)=True:=eq_true (by omega)
   have fa2:(cls a.kind=2)=False:=eq_false (by omega)
   have fa2i:((cls a.kind:Int)=2)=False:=eq_false (by omega)
   have fa3:(cls a.kind=3)=False:=eq_false (by omega)
   have fa3i:((cls a.kind:Int)=3)=False:=eq_false (by omega)
   have fa4:(cls a.kind=4)=False:=eq_false (by omega)
   have fa4i:((cls a.kind:Int)=4)=False:=eq_false (by omega)
   have fb0:(cls b.kind=0)=False:=eq_false (by omega)
   have fb0i:((cls b.kind:Int)=0)=False:=eq_false (by omega)
   have fb1:(cls b.kind=1)=False:=eq_false (by omega)
   have fb1i:((cls b.kind:Int)=1)=False:=eq_false (by omega)
   have fb2:(cls b.kind=2)=False:=eq_false (by omega)
   have fb2i:((cls b.kind:Int)=2)=False:=eq_false (by omega)
   have fb3:(cls b.kind=3)=True:=eq_true (by omega)
   have fb3i:((cls b.kind:Int)=3)=True:=eq_true (by omega)
   have fb4:(cls b.kind=4)=False:=eq_false (by omega)
   have fb4i:((cls b.kind:Int)=4)=False:=eq_false (by omega)
   simp[c142,leave,u155 h,t154 h,q33,q12,q21,p8,p6,w8,wba,vba,t158 h _ _ hxa hxb,t158 h _ _ hxb hxa,t159 h a b hxa hlb haa,t159 h b a hxb hla hab,Plan.enc,ruleOf,fa0,fa0i,fa1,fa1i,fa2,fa2i,fa3,fa3i,fa4,fa4i,fb0,fb0i,fb1,fb1i,fb2,fb2i,fb3,fb3i,fb4,fb4i]
  ·have fa0:(cls a.kind=0)=False:=eq_false (by omega)
   have fa0i:((cls a.kind:Int)=0)=False:=eq_false (by omega)
   have fa1:(cls a.kind=1)=True:=eq_true (by omega)
   have fa1i:((cls a.kind:Int)=1)=True:=eq_true (by omega)
   have fa2:(cls a.kind=2)=False:=eq_false (by omega)
   have fa2i:((cls a.kind:Int)=2)=False:=eq_false (by omega)
   have fa3:(cls a.kind=3)=False:=eq_false (by omega)
   have fa3i:((cls a.kind:Int)=3)=False:=eq_false (by omega)
   have fa4:(cls a.kind=4)=False:=eq_false (by omega)
   have fa4i:((cls a.kind:Int)=4)=False:=eq_false (by omega)
   have fb0:(cls b.kind=0)=False:=eq_false (by omega)
   have fb0i:((cls b.kind:Int)=0)=False:=eq_false (by omega)
   have fb1:(cls b.kind=1)=False:=eq_false (by omega)
   have fb1i:((cls b.kind:Int)=1)=False:=eq_false (by omega)
   have fb2:(cls b.kind=2)=False:=eq_false (by omega)
   have fb2i:((cls b.kind:Int)=2)=False:=eq_false (by omega)
   have fb3:(cls b.kind=3)=False:=eq_false (by omega)
   have fb3i:((cls b.kind:Int)=3)=False:=eq_false (by omega)
   have fb4:(cls b.kind=4)=True:=eq_true (by omega)
   have fb4i:((cls b.kind:Int)=4)=True:=eq_true (by omega)
   simp[c142,leave,u155 h,t154 h,q33,q12,q21,p8,p6,w8,wba,vba,t158 h _ _ hxa hxb,t158 h _ _ hxb hxa,t159 h a b hxa hlb haa,t159 h b a hxb hla hab,Plan.enc,ruleOf,fa0,fa0i,fa1,fa1i,fa2,fa2i,fa3,fa3i,fa4,fa4i,fb0,fb0i,fb1,fb1i,fb2,fb2i,fb3,fb3i,fb4,fb4i]
 ·rcases hcb' with hb|hb|hb|hb|hb
  ·have fa0:(cls a.kind=0)=False:=eq_false (by omega)
   have fa0i:((cls a.kind:Int)=0)=False:=eq_false (by omega)
   have fa1:(cls a.kind=1)=False:=eq_false (by omega)
   have fa1i:((cls a.kind:Int)=1)=False:=eq_false (by omega)
   have fa2:(cls a.kind=2)=True:=eq_true (by omega)
   have fa2i:((cls a.kind:Int)=2)=True:=eq_true (by omega)
   have fa3:(cls a.kind=3)=False:=eq_false (by omega)
   have fa3i:((cls a.kind:Int)=3)=False:=eq_false (by omega)
   have fa4:(cls a.kind=4)=False:=eq_false (by omega)
   have fa4i:((cls a.kind:Int)=4)=False:=eq_false (by omega)
   have fb0:(cls b.kind=0)=True:=eq_true (by omega)
   have fb0i:((cls b.kind:Int)=0)=True:=eq_true (by omega)
   have fb1:(cls b.kind=1)=False:=eq_false (by omega)
   have fb1i:((cls b.kind:Int)=1)=False:=eq_false (by omega)
   have fb2:(cls b.kind=2)=False:=eq_false (by omega)
   have fb2i:((cls b.kind:Int)=2)=False:=eq_false (by omega)
   have fb3:(cls b.kind=3)=False:=eq_false (by omega)
   have fb3i:((cls b.kind:Int)=3)=False:=eq_false (by omega)
   have fb4:(cls b.kind=4)=False:=eq_false (by omega)
   have fb4i:((cls b.kind:Int)=4)=False:=eq_false (by omega)
   simp[c142,leave,u155 h,t154 h,q33,q12,q21,p8,p6,w8,wba,vba,t158 h _ _ hxa hxb,t158 h _ _ hxb hxa,t159 h a b hxa hlb haa,t159 h b a hxb hla hab,Plan.enc,ruleOf,fa0,fa0i,fa1,fa1i,fa2,fa2i,fa3,fa3i,fa4,fa4i,fb0,fb0i,fb1,fb1i,fb2,fb2i,fb3,fb3i,fb4,fb4i,Plan.plain,Node.zero]
  ·have fa0:(cls a.kind=0)=False:=eq_false (by omega)
   have fa0i:((cls a.kind:Int)=0)=False:=eq_false (by omega)
   have fa1:(cls a.kind=1)=False:=eq_false (by omega)
   have fa1i:((cls a.kind:Int)=1)=False:=eq_false (by omega)
   have fa2:(cls a.kind=2)=True:=eq_true (by omega)
   have fa2i:((cls a.kind:Int)=2)=True:=eq_true (by omega)
   have fa3:(cls a.kind=3)=False:=eq_false (by omega)
   have fa3i:((cls a.kind:Int)=3)=False:=eq_false (by omega)
   have fa4:(cls a.kind=4)=False:=eq_false (by omega)
   have fa4i:((cls a.kind:Int)=4)=False:=eq_false (by omega)
   have fb0:(cls b.kind=0)=False:=eq_false (by omega)
   have fb0i:((cls b.kind:Int)=0)=False:=eq_false (by omega)
   have fb1:(cls b.kind=1)=True:=eq_true (by omega)
   have fb1i:((cls b.kind:Int)=1)=True:=eq_true (by omega)
   have fb2:(cls b.kind=2)=False:=eq_false (by omega)
   have fb2i:((cls b.kind:Int)=2)=False:=eq_false (by omega)
   have fb3:(cls b.kind=3)=False:=eq_false (by omega)
   have fb3i:((cls b.kind:Int)=3)=False:=eq_false (by omega)
   have fb4:(cls b.kind=4)=False:=eq_false (by omega)
   have fb4i:((cls b.kind:Int)=4)=False:=eq_false (by omega)
   simp[c142,leave,u155 h,t154 h,q33,q12,q21,p8,p6,w8,wba,vba,t158 h _ _ hxa hxb,t158 h _ _ hxb hxa,t159 h a b hxa hlb haa,t159 h b a hxb hla hab,Plan.enc,ruleOf,fa0,fa0i,fa1,fa1i,fa2,fa2i,fa3,fa3i,fa4,fa4i,fb0,fb0i,fb1,fb1i,fb2,fb2i,fb3,fb3i,fb4,fb4i]
  ·have fa0:(cls a.kind=0)=False:=eq_false (by omega)
   have fa0i:((cls a.kind:Int)=0)=False:=eq_false (by omega)
   have fa1:(cls a.kind=1)=False:=eq_false (by omega)
   have fa1i:((cls a.kind:Int)=1)=False:=eq_false (by omega)
   have fa2:(cls a.kind=2)=True:=eq_true (by omega)
   have fa2i:((cls a.kind:Int)=2)=True:=eq_true (by omega)
   have fa3:(cls a.kind=3)=False:=eq_false (by omega)
   have fa3i:((cls a.kind:Int)=3)=False:=eq_false (by omega)
   have fa4:(cls a.kind=4)=False:=eq_false (by omega)
   have fa4i:((cls a.kind:Int)=4)=False:=eq_false (by omega)
   have fb0:(cls b.kind=0)=False:=eq_false (by omega)
   have fb0i:((cls b.kind:Int)=0)=False:=eq_false (by omega)
   have fb1:(cls b.kind=1)=False:=eq_false (by omega)
   have fb1i:((cls b.kind:Int)=1)=False:=eq_false (by omega)
   have fb2:(cls b.kind=2)=True:=eq_true (by omega)
   have fb2i:((cls b.kind:Int)=2)=True:=eq_true (by omega)
   have fb3:(cls b.kind=3)=False:=eq_false (by omega)
   have fb3i:((cls b.kind:Int)=3)=False:=eq_false (by omega)
   have fb4:(cls b.kind=4)=False:=eq_false (by omega)
   have fb4i:((cls b.kind:Int)=4)=False:=eq_false (by omega)
   simp[c142,leave,u155 h,t154 h,q33,q12,q21,p8,p6,w8,wba,vba,t158 h _ _ hxa hxb,t158 h _ _ hxb hxa,t159 h a b hxa hlb haa,t159 h b a hxb hla hab,Plan.enc,ruleOf,fa0,fa0i,fa1,fa1i,fa2,fa2i,fa3,fa3i,fa4,fa4i,fb0,fb0i,fb1,fb1i,fb2,fb2i,fb3,fb3i,fb4,fb4i,Plan.plain,Node.zero]
  ·have fa0:(cls a.kind=0)=False:=eq_false (by omega)
   have fa0i:((cls a.kind:Int)=0)=False:=eq_false (by omega)
   have fa1:(cls a.kind=1)=False:=eq_false (by omega)
   have fa1i:((cls a.kind:Int)=1)=False:=eq_false (by omega)
   have fa2:(cls a.kind=2)=True:=eq_true (by omega)
   have fa2i:((cls a.kind:Int)=2)=True:=eq_true (by omega)
   have fa3:(cls a.kind=3)=False:=eq_false (by omega)
   have fa3i:((cls a.kind:Int)=3)=False:=eq_false (by omega)
   have fa4:(cls a.kind=4)=False:=eq_false (by omega)
   have fa4i:((cls a.kind:Int)=4)=False:=eq_false (by omega)
   have fb0:(cls b.kind=0)=False:=eq_false (by omega)
   have fb0i:((cls b.kind:Int)=0)=False:=eq_false (by omega)
   have fb1:(cls b.kind=1)=False:=eq_false (by omega)
   have fb1i:((cls b.kind:Int)=1)=False:=eq_false (by omega)
   have fb2:(cls b.kind=2)=False:=eq_false (by omega)
   have fb2i:((cls b.kind:Int)=2)=False:=eq_false (by omega)
   have fb3:(cls b.kind=3)=True:=eq_true (by omega)
   have fb3i:((cls b.kind:Int)=3)=True:=eq_true (by omega)
   have fb4:(cls b.kind=4)=False:=eq_false (by omega)
   have fb4i:((cls b.kind:Int)=4)=False:=eq_false (by omega)
   simp[c142,leave,u155 h,t154 h,q33,q12,q21,p8,p6,w8,wba,vba,t158 h _ _ hxa hxb,t158 h _ _ hxb hxa,t159 h a b hxa hlb haa,t159 h b a hxb hla hab,Plan.enc,ruleOf,fa0,fa0i,fa1,fa1i,fa2,fa2i,fa3,fa3i,fa4,fa4i,fb0,fb0i,fb1,fb1i,fb2,fb2i,fb3,fb3i,fb4,fb4i]
  ·have fa0:(cls a.kind=0)=False:=eq_false (by omega)
   have fa0i:((cls a.kind:Int)=0)=False:=eq_false (by omega)
   have fa1:(cls a.kind=1)=False:=eq_false (by omega)
   have fa1i:((cls a.kind:Int)=1)=False:=eq_false (by omega)
   have fa2:(cls a.kind=2)=True:=eq_true (by omega)
   have fa2i:((cls a.kind:Int)=2)=True:=eq_true (by omega)
   have fa3:(cls a.kind=3)=False:=eq_false (by omega)
   have fa3i:((cls a.kind:Int)=3)=False:=eq_false (by omega)
   have fa4:(cls a.kind=4)=False:=eq_false (by omega)
   have fa4i:((cls a.kind:Int)=4)=False:=eq_false (by omega)
   have fb0:(cls b.kind=0)=False:=eq_false (by omega)
   have fb0i:((cls b.kind:Int)=0)=False:=eq_false (by omega)
   have fb1:(cls b.kind=1)=False:=eq_false (by omega)
   have fb1i:((cls b.kind:Int)=1)=False:=eq_false (by omega)
   have fb2:(cls b.kind=2)=False:=eq_false (by omega)
   have fb2i:((cls b.kind:Int)=2)=False:=eq_false (by omega)
   have fb3:(cls b.kind=3)=False:=eq_false (by omega)
   have fb3i:((cls b.kind:Int)=3)=False:=eq_false (by omega)
   have fb4:(cls b.kind=4)=True:=eq_true (by omega)
   have fb4i:((cls b.kind:Int)=4)=True:=eq_true (by omega)
   simp[c142,leave,u155 h,t154 h,q33,q12,q21,p8,p6,w8,wba,vba,t158 h _ _ hxa hxb,t158 h _ _ hxb hxa,t159 h a b hxa hlb haa,t159 h b a hxb hla hab,Plan.enc,ruleOf,fa0,fa0i,fa1,fa1i,fa2,fa2i,fa3,fa3i,fa4,fa4i,fb0,fb0i,fb1,fb1i,fb2,fb2i,fb3,fb3i,fb4,fb4i]
 ·rcases hcb' with hb|hb|hb|hb|hb
  ·have fa0:(cls a.kind=0)=False:=eq_false (by omega)
   have fa0i:((cls a.kind:Int)=0)=False:=eq_false (by omega)
   have fa1:(cls a.kind=1)=False:=eq_false (by omega)
   have fa1i:((cls a.kind:Int)=1)=False:=eq_false (by omega)
   have fa2:(cls a.kind=2)=False:=eq_false (by omega)
   have fa2i:((cls a.kind:Int)=2)=False:=eq_false (by omega)
   have fa3:(cls a.kind=3)=True:=eq_true (by omega)
   have fa3i:((cls a.kind:Int)=3)=True:=eq_true (by omega)
   have fa4:(cls a.kind=4)=False:=eq_false (by omega)
   have fa4i:((cls a.kind:Int)=4)=False:=eq_false (by omega)
   have fb0:(cls b.kind=0)=True:=eq_true (by omega)
   have fb0i:((cls b.kind:Int)=0)=True:=eq_true (by omega)
   have fb1:(cls b.kind=1)=False:=eq_false (by omega)
   have fb1i:((cls b.kind:Int)=1)=False:=eq_false (by omega)
   have fb2:(cls b.kind=2)=False:=eq_false (by omega)
   have fb2i:((cls b.kind:Int)=2)=False:=eq_false (by omega)
   have fb3:(cls b.kind=3)=False:=eq_false (by omega)
   have fb3i:((cls b.kind:Int)=3)=False:=eq_false (by omega)
   have fb4:(cls b.kind=4)=False:=eq_false (by omega)
   have fb4i:((cls b.kind:Int)=4)=False:=eq_false (by omega)
   simp[c142,leave,u155 h,t154 h,q33,q12,q21,p8,p6,w8,wba,vba,t158 h _ _ hxa hxb,t158 h _ _ hxb hxa,t159 h a b hxa hlb haa,t159 h b a hxb hla hab,Plan.enc,ruleOf,fa0,fa0i,fa1,fa1i,fa2,fa2i,fa3,fa3i,fa4,fa4i,fb0,fb0i,fb1,fb1i,fb2,fb2i,fb3,fb3i,fb4,fb4i,Plan.plain,Node.zero]
  ·have fa0:(cls a.kind=0)=False:=eq_false (by omega)
   have fa0i:((cls a.kind:Int)=0)=False:=eq_false (by omega)
   have fa1:(cls a.kind=1)=False:=eq_false (by omega)
   have fa1i:((cls a.kind:Int)=1)=False:=eq_false (by omega)
   have fa2:(cls a.kind=2)=False:=eq_false (by omega)
   have fa2i:((cls a.kind:Int)=2)=False:=eq_false (by omega)
   have fa3:(cls a.kind=3)=True:=eq_true (by omega)
   have fa3i:((cls a.kind:Int)=3)=True:=eq_true (by omega)
   have fa4:(cls a.kind=4)=False:=eq_false (by omega)
   have fa4i:((cls a.kind:Int)=4)=False:=eq_false (by omega)
   have fb0:(cls b.kind=0)=False:=eq_false (by omega)
   have fb0i:((cls b.kind:Int)=0)=False:=eq_false (by omega)
   have fb1:(cls b.kind=1)=True:=eq_true (by omega)
   have fb1i:((cls b.kind:Int)=1)=True:=eq_true (by omega)
   have fb2:(cls b.kind=2)=False:=eq_false (by omega)
   have fb2i:((cls b.kind:Int)=2)=False:=eq_false (by omega)
   have fb3:(cls b.kind=3)=False:=eq_false (by omega)
   have fb3i:((cls b.kind:Int)=3)=False:=eq_false (by omega)
   have fb4:(cls b.kind=4)=False:=eq_false (by omega)
   have fb4i:((cls b.kind:Int)=4)=False:=eq_false (by omega)
   simp[c142,leave,u155 h,t154 h,q33,q12,q21,p8,p6,w8,wba,vba,t158 h _ _ hxa hxb,t158 h _ _ hxb hxa,t159 h a b hxa hlb haa,t159 h b a hxb hla hab,Plan.enc,ruleOf,fa0,fa0i,fa1,fa1i,fa2,fa2i,fa3,fa3i,fa4,fa4i,fb0,fb0i,fb1,fb1i,fb2,fb2i,fb3,fb3i,fb4,fb4i]
  ·have fa0:(cls a.kind=0)=False:=eq_false (by omega)
   have fa0i:((cls a.kind:Int)=0)=False:=eq_false (by omega)
   have fa1:(cls a.kind=1)=False:=eq_false (by omega)
   have fa1i:((cls a.kind:Int)=1)=False:=eq_false (by omega)
   have fa2:(cls a.kind=2)=False:=eq_false (by omega)
   have fa2i:((cls a.kind:Int)=2)=False:=eq_false (by omega)
   have fa3:(cls a.kind=3)=True:=eq_true (by omega)
   have fa3i:((cls a.kind:Int)=3)=True:=eq_true (by omega)
   have fa4:(cls a.kind=4)=False:=eq_false (by omega)
   have fa4i:((cls a.kind:Int)=4)=False:=eq_false (by omega)
   have fb0:(cls b.kind=0)=False:=eq_false (by omega)
   have fb0i:((cls b.kind:Int)=0)=False:=eq_false (by omega)
   have fb1:(cls b.kind=1)=False:=eq_false (by omega)
   have fb1i:((cls b.kind:Int)=1)=False:=eq_false (by omega)
   have fb2:(cls b.kind=2)=True:=eq_true (by omega)
   have fb2i:((cls b.kind:Int)=2)=True:=eq_true (by omega)
   have fb3:(cls b.kind=3)=False:=eq_false (by omega)
   have fb3i:((cls b.kind:Int)=3)=False:=eq_false (by omega)
   have fb4:(cls b.kind=4)=False:=eq_false (by omega)
   have fb4i:((cls b.kind:Int)=4)=False:=eq_false (by omega)
   simp[c142,leave,u155 h,t154 h,q33,q12,q21,p8,p6,w8,wba,vba,t158 h _ _ hxa hxb,t158 h _ _ hxb hxa,t159 h a b hxa hlb haa,t159 h b a hxb hla hab,Plan.enc,ruleOf,fa0,fa0i,fa1,fa1i,fa2,fa2i,fa3,fa3i,fa4,fa4i,fb0,fb0i,fb1,fb1i,fb2,fb2i,fb3,fb3i,fb4,fb4i]
  ·have fa0:(cls a.kind=0)=False:=eq_false (by omega)
   have fa0i:((cls a.kind:Int)=0)=False:=eq_false (by omega)
   have fa1:(cls a.kind=1)=False:=eq_false (by omega)
   have fa1i:((cls a.kind:Int)=1)=False:=eq_false (by omega)
   have fa2:(cls a.kind=2)=False:=eq_false (by omega)
   have fa2i:((cls a.kind:Int)=2)=False:=eq_false (by omega)
   have fa3:(cls a.kind=3)=True:=eq_true (by omega)
   have fa3i:((cls a.kind:Int)=3)=True:=eq_true (by omega)
   have fa4:(cls a.kind=4)=False:=eq_false (by omega)
   have fa4i:((cls a.kind:Int)=4)=False:=eq_false (by omega)
   have fb0:(cls b.kind=0)=False:=eq_false (by omega)
   have fb0i:((cls b.kind:Int)=0)=False:=eq_false (by omega)
   have fb1:(cls b.kind=1)=False:=eq_false (by omega)
   have fb1i:((cls b.kind:Int)=1)=False:=eq_false (by omega)
   have fb2:(cls b.kind=2)=False:=eq_false (by omega)
   have fb2i:((cls b.kind:Int)=2)=False:=eq_false (by omega)
   have fb3:(cls b.kind=3)=True:=eq_true (by omega)
   have fb3i:((cls b.kind:Int)=3)=True:=eq_true (by omega)
   have fb4:(cls b.kind=4)=False:=eq_false (by omega)
   have fb4i:((cls b.kind:Int)=4)=False:=eq_false (by omega)
   by_cases g1:a.lev=b.lev
   ·have g1':(a.lev:Int)=b.lev:=by omega
    have g2:a.lev≤b.lev:=by omega
    have g2':(a.lev:Int)≤b.lev:=by omega
    by_cases g3:a.kind=b.kind
    ·have g3':(a.kind:Int)=b.kind:=by omega
     simp[c142,leave,u155 h,t154 h,q33,q12,q21,p8,p6,w8,wba,vba,t158 h _ _ hxa hxb,t158 h _ _ hxb hxa,t159 h a b hxa hlb haa,t159 h b a hxb hla hab,Plan.enc,ruleOf,fa0,fa0i,fa1,fa1i,fa2,fa2i,fa3,fa3i,fa4,fa4i,fb0,fb0i,fb1,fb1i,fb2,fb2i,fb3,fb3i,fb4,fb4i,eq_true g1,eq_true g1',eq_true g3,eq_true g3']
    ·have g3':¬ (a.kind:Int)=b.kind:=by omega
     simp[c142,leave,u155 h,t154 h,q33,q12,q21,p8,p6,w8,wba,vba,t158 h _ _ hxa hxb,t158 h _ _ hxb hxa,t159 h a b hxa hlb haa,t159 h b a hxb hla hab,Plan.enc,ruleOf,fa0,fa0i,fa1,fa1i,fa2,fa2i,fa3,fa3i,fa4,fa4i,fb0,fb0i,fb1,fb1i,fb2,fb2i,fb3,fb3i,fb4,fb4i,eq_true g1,eq_true g1',eq_true g2,eq_true g2',g3,g3']
   ·have g1':¬ (a.lev:Int)=b.lev:=by omega
    by_cases g2:a.lev≤b.lev
    ·have g2':(a.lev:Int)≤b.lev:=by omega
     simp[c142,leave,u155 h,t154 h,q33,q12,q21,p8,p6,w8,wba,vba,t158 h _ _ hxa hxb,t158 h _ _ hxb hxa,t159 h a b hxa hlb haa,t159 h b a hxb hla hab,Plan.enc,ruleOf,fa0,fa0i,fa1,fa1i,fa2,fa2i,fa3,fa3i,fa4,fa4i,fb0,fb0i,fb1,fb1i,fb2,fb2i,fb3,fb3i,fb4,fb4i,g1,g1',eq_true g2,eq_true g2']
    ·have g2':¬ (a.lev:Int)≤b.lev:=by omega
     simp[c142,leave,u155 h,t154 h,q33,q12,q21,p8,p6,w8,wba,vba,t158 h _ _ hxa hxb,t158 h _ _ hxb hxa,t159 h a b hxa hlb haa,t159 h b a hxb hla hab,Plan.enc,ruleOf,fa0,fa0i,fa1,fa1i,fa2,fa2i,fa3,fa3i,fa4,fa4i,fb0,fb0i,fb1,fb1i,fb2,fb2i,fb3,fb3i,fb4,fb4i,g1,g1',g2,g2']
  ·have fa0:(cls a.kind=0)=False:=eq_false (by omega)
   have fa0i:((cls a.kind:Int)=0)=False:=eq_false (by omega)
   have fa1:(cls a.kind=1)=False:=eq_false (by omega)
   have fa1i:((cls a.kind:Int)=1)=False:=eq_false (by omega)
   have fa2:(cls a.kind=2)=False:=eq_false (by omega)
   have fa2i:((cls a.kind:Int)=2)=False:=eq_false (by omega)
   have fa3:(cls a.kind=3)=True:=eq_true (by omega)
   have fa3i:((cls a.kind:Int)=3)=True:=eq_true (by omega)
   have fa4:(cls a.kind=4)=False:=eq_false (by omega)
   have fa4i:((cls a.kind:Int)=4)=False:=eq_false (by omega)
   have fb0:(cls b.kind=0)=False:=eq_false (by omega)
   have fb0i:((cls b.kind:Int)=0)=False:=eq_false (by omega)
   have fb1:(cls b.kind=1)=False:=eq_false (by omega)
   have fb1i:((cls b.kind:Int)=1)=False:=eq_false (by omega)
   have fb2:(cls b.kind=2)=False:=eq_false (by omega)
   have fb2i:((cls b.kind:Int)=2)=False:=eq_false (by omega)
   have fb3:(cls b.kind=3)=False:=eq_false (by omega)
   have fb3i:((cls b.kind:Int)=3)=False:=eq_false (by omega)
   have fb4:(cls b.kind=4)=True:=eq_true (by omega)
   have fb4i:((cls b.kind:Int)=4)=True:=eq_true (by omega)
   simp[c142,leave,u155 h,t154 h,q33,q12,q21,p8,p6,w8,wba,vba,t158 h _ _ hxa hxb,t158 h _ _ hxb hxa,t159 h a b hxa hlb haa,t159 h b a hxb hla hab,Plan.enc,ruleOf,fa0,fa0i,fa1,fa1i,fa2,fa2i,fa3,fa3i,fa4,fa4i,fb0,fb0i,fb1,fb1i,fb2,fb2i,fb3,fb3i,fb4,fb4i]
 ·rcases hcb' with hb|hb|hb|hb|hb
  ·have fa0:(cls a.kind=0)=False:=eq_false (by omega)
   have fa0i:((cls a.kind:Int)=0)=False:=eq_false (by omega)
   have fa1:(cls a.kind=1)=False:=eq_false (by omega)
   have fa1i:((cls a.kind:Int)=1)=False:=eq_false (by omega)
   have fa2:(cls a.kind=2)=False:=eq_false (by omega)
   have fa2i:((cls a.kind:Int)=2)=False:=eq_false (by omega)
   have fa3:(cls a.kind=3)=False:=eq_false (by omega)
   have fa3i:((cls a.kind:Int)=3)=False:=eq_false (by omega)
   have fa4:(cls a.kind=4)=True:=eq_true (by omega)
   have fa4i:((cls a.kind:Int)=4)=True:=eq_true (by omega)
   have fb0:(cls b.kind=0)=True:=eq_true (by omega)
   have fb0i:((cls b.kind:Int)=0)=True:=eq_true (by omega)
   have fb1:(cls b.kind=1)=False:=eq_false (by omega)
   have fb1i:((cls b.kind:Int)=1)=False:=eq_false (by omega)
   have fb2:(cls b.kind=2)=False:=eq_false (by omega)
   have fb2i:((cls b.kind:Int)=2)=False:=eq_false (by omega)
   have fb3:(cls b.kind=3)=False:=eq_false (by omega)
   have fb3i:((cls b.kind:Int)=3)=False:=eq_false (by omega)
   have fb4:(cls b.kind=4)=False:=eq_false (by omega)
   have fb4i:((cls b.kind:Int)=4)=False:=eq_false (by omega)
   simp[c142,leave,u155 h,t154 h,q33,q12,q21,p8,p6,w8,wba,vba,t158 h _ _ hxa hxb,t158 h _ _ hxb hxa,t159 h a b hxa hlb haa,t159 h b a hxb hla hab,Plan.enc,ruleOf,fa0,fa0i,fa1,fa1i,fa2,fa2i,fa3,fa3i,fa4,fa4i,fb0,fb0i,fb1,fb1i,fb2,fb2i,fb3,fb3i,fb4,fb4i,Plan.plain,Node.zero]
  ·have fa0:(cls a.kind=0)=False:=eq_false (by omega)
   have fa0i:((cls a.kind:Int)=0)=False:=eq_false (by omega)
   have fa1:(cls a.kind=1)=False:=eq_false (by omega)
   have fa1i:((cls a.kind:Int)=1)=False:=eq_false (by omega)
   have fa2:(cls a.kind=2)=False:=eq_false (by omega)
   have fa2i:((cls a.kind:Int)=2)=False:=eq_false (by omega)
   have fa3:(cls a.kind=3)=False:=eq_false (by omega)
   have fa3i:((cls a.kind:Int)=3)=False:=eq_false (by omega)
   have fa4:(cls a.kind=4)=True:=eq_true (by omega)
   have fa4i:((cls a.kind:Int)=4)=True:=eq_true (by omega)
   have fb0:(cls b.kind=0)=False:=eq_false (by omega)
   have fb0i:((cls b.kind:Int)=0)=False:=eq_false (by omega)
   have fb1:(cls b.kind=1)=True:=eq_true (by omega)
   have fb1i:((cls b.kind:Int)=1)=True:=eq_true (by omega)
   have fb2:(cls b.kind=2)=False:=eq_false (by omega)
   have fb2i:((cls b.kind:Int)=2)=False:=eq_false (by omega)
   have fb3:(cls b.kind=3)=False:=eq_false (by omega)
   have fb3i:((cls b.kind:Int)=3)=False:=eq_false (by omega)
   have fb4:(cls b.kind=4)=False:=eq_false (by omega)
   have fb4i:((cls b.kind:Int)=4)=False:=eq_false (by omega)
   simp[c142,leave,u155 h,t154 h,q33,q12,q21,p8,p6,w8,wba,vba,t158 h _ _ hxa hxb,t158 h _ _ hxb hxa,t159 h a b hxa hlb haa,t159 h b a hxb hla hab,Plan.enc,ruleOf,fa0,fa0i,fa1,fa1i,fa2,fa2i,fa3,fa3i,fa4,fa4i,fb0,fb0i,fb1,fb1i,fb2,fb2i,fb3,fb3i,fb4,fb4i]
  ·have fa0:(cls a.kind=0)=False:=eq_false (by omega)
   have fa0i:((cls a.kind:Int)=0)=False:=eq_false (by omega)
   have fa1:(cls a.kind=1)=False:=eq_false (by omega)
   have fa1i:((cls a.kind:Int)=1)=False:=eq_false (by omega)
   have fa2:(cls a.kind=2)=False:=eq_false (by omega)
   have fa2i:((cls a.kind:Int)=2)=False:=eq_false (by omega)
   have fa3:(cls a.kind=3)=False:=eq_false (by omega)
   have fa3i:((cls a.kind:Int)=3)=False:=eq_false (by omega)
   have fa4:(cls a.kind=4)=True:=eq_true (by omega)
   have fa4i:((cls a.kind:Int)=4)=True:=eq_true (by omega)
   have fb0:(cls b.kind=0)=False:=eq_false (by omega)
   have fb0i:((cls b.kind:Int)=0)=False:=eq_false (by omega)
   have fb1:(cls b.kind=1)=False:=eq_false (by omega)
   have fb1i:((cls b.kind:Int)=1)=False:=eq_false (by omega)
   have fb2:(cls b.kind=2)=True:=eq_true (by omega)
   have fb2i:((cls b.kind:Int)=2)=True:=eq_true (by omega)
   have fb3:(cls b.kind=3)=False:=eq_false (by omega)
   have fb3i:((cls b.kind:Int)=3)=False:=eq_false (by omega)
   have fb4:(cls b.kind=4)=False:=eq_false (by omega)
   have fb4i:((cls b.kind:Int)=4)=False:=eq_false (by omega)
   simp[c142,leave,u155 h,t154 h,q33,q12,q21,p8,p6,w8,wba,vba,t158 h _ _ hxa hxb,t158 h _ _ hxb hxa,t159 h a b hxa hlb haa,t159 h b a hxb hla hab,Plan.enc,ruleOf,fa0,fa0i,fa1,fa1i,fa2,fa2i,fa3,fa3i,fa4,fa4i,fb0,fb0i,fb1,fb1i,fb2,fb2i,fb3,fb3i,fb4,fb4i]
  ·have fa0:(cls a.kind=0)=False:=eq_false (by omega)
   have fa0i:((cls a.kind:Int)=0)=False:=eq_false (by omega)
   have fa1:(cls a.kind=1)=False:=eq_false (by omega)
   have fa1i:((cls a.kind:Int)=1)=False:=eq_false (by omega)
   have fa2:(cls a.kind=2)=False:=eq_false (by omega)
   have fa2i:((cls a.kind:Int)=2)=False:=eq_false (by omega)
   have fa3:(cls a.kind=3)=False:=eq_false (by omega)
   have fa3i:((cls a.kind:Int)=3)=False:=eq_false (by omega)
   have fa4:(cls a.kind=4)=True:=eq_true (by omega)
   have fa4i:((cls a.kind:Int)=4)=True:=eq_true (by omega)
   have fb0:(cls b.kind=0)=False:=eq_false (by omega)
   have fb0i:((cls b.kind:Int)=0)=False:=eq_false (by omega)
   have fb1:(cls b.kind=1)=False:=eq_false (by omega)
   have fb1i:((cls b.kind:Int)=1)=False:=eq_false (by omega)
   have fb2:(cls b.kind=2)=False:=eq_false (by omega)
   have fb2i:((cls b.kind:Int)=2)=False:=eq_false (by omega)
   have fb3:(cls b.kind=3)=True:=eq_true (by omega)
   have fb3i:((cls b.kind:Int)=3)=True:=eq_true (by omega)
   have fb4:(cls b.kind=4)=False:=eq_false (by omega)
   have fb4i:((cls b.kind:Int)=4)=False:=eq_false (by omega)
   simp[c142,leave,u155 h,t154 h,q33,q12,q21,p8,p6,w8,wba,vba,t158 h _ _ hxa hxb,t158 h _ _ hxb hxa,t159 h a b hxa hlb haa,t159 h b a hxb hla hab,Plan.enc,ruleOf,fa0,fa0i,fa1,fa1i,fa2,fa2i,fa3,fa3i,fa4,fa4i,fb0,fb0i,fb1,fb1i,fb2,fb2i,fb3,fb3i,fb4,fb4i]
  ·have fa0:(cls a.kind=0)=False:=eq_false (by omega)
   have fa0i:((cls a.kind:Int)=0)=False:=eq_false (by omega)
   have fa1:(cls a.kind=1)=False:=eq_false (by omega)
   have fa1i:((cls a.kind:Int)=1)=False:=eq_false (by omega)
   have fa2:(cls a.kind=2)=False:=eq_false (by omega)
   have fa2i:((cls a.kind:Int)=2)=False:=eq_false (by omega)
   have fa3:(cls a.kind=3)=False:=eq_false (by omega)
   have fa3i:((cls a.kind:Int)=3)=False:=eq_false (by omega)
   have fa4:(cls a.kind=4)=True:=eq_true (by omega)
   have fa4i:((cls a.kind:Int)=4)=True:=eq_true (by omega)
   have fb0:(cls b.kind=0)=False:=eq_false (by omega)
   have fb0i:((cls b.kind:Int)=0)=False:=eq_false (by omega)
   have fb1:(cls b.kind=1)=False:=eq_false (by omega)
   have fb1i:((cls b.kind:Int)=1)=False:=eq_false (by omega)
   have fb2:(cls b.kind=2)=False:=eq_false (by omega)
   have fb2i:((cls b.kind:Int)=2)=False:=eq_false (by omega)
   have fb3:(cls b.kind=3)=False:=eq_false (by omega)
   have fb3i:((cls b.kind:Int)=3)=False:=eq_false (by omega)
   have fb4:(cls b.kind=4)=True:=eq_true (by omega)
   have fb4i:((cls b.kind:Int)=4)=True:=eq_true (by omega)
   simp[c142,leave,u155 h,t154 h,q33,q12,q21,p8,p6,w8,wba,vba,t158 h _ _ hxa hxb,t158 h _ _ hxb hxa,t159 h a b hxa hlb haa,t159 h b a hxb hla hab,Plan.enc,ruleOf,fa0,fa0i,fa1,fa1i,fa2,fa2i,fa3,fa3i,fa4,fa4i,fb0,fb0i,fb1,fb1i,fb2,fb2i,fb3,fb3i,fb4,fb4i]
theorem t144 (h:Std pg)(p:Plan)(a b:Node)(hla:a.to.length<2 ^ 40)(hlb:b.to.length<2 ^ 40)(haa:a.alts.length<2 ^ 40)(hab:b.alts.length<2 ^ 40)(hca:∀ c,c∈a.alts→c.2<2 ^ 40)(hcb:∀ c,c∈b.alts→c.2<2 ^ 40) :
  eCA pg (E pg) 144 [.ag [.p (.i .i64 p.kind),.p (.b p.swap),.p (.i .i64 p.lev),.p (.i .i64 p.alt),.p (.i .i64 p.node.kind),.p (.i .i64 p.node.lev),.p (.i .i64 p.node.n),.p (.s p.node.name),.p (.sl (p.node.alts.map encAr)),.p (.sl (p.node.to.map Port.enc))],.ag [.p (.i .i64 a.kind),.p (.i .i64 a.lev),.p (.i .i64 a.n),.p (.s a.name),.p (.sl (a.alts.map encAr)),.p (.sl (a.to.map Port.enc))],.ag [.p (.i .i64 b.kind),.p (.i .i64 b.lev),.p (.i .i64 b.n),.p (.s b.name),.p (.sl (b.alts.map encAr)),.p (.sl (b.to.map Port.enc))]] G=some (.ret (.p (.i .i64 (p.need a b))),G):=by
 refine at_pure ?_ rfl rfl
 rw[h.run (x:=c144) rfl (by decide) (by decide) (by decide) (by decide)]
 have hk:p.kind=2∨p.kind=3∨p.kind=4∨p.kind=5∨p.kind=7∨p.kind=8∨(p.kind≠2∧p.kind≠3∧p.kind≠4∧p.kind≠5∧p.kind≠7∧p.kind≠8):=by omega
 cases hs:p.swap
 ·rcases hk with hk|hk|hk|hk|hk|hk|hk
  ·have f2:(p.kind=2)=True:=eq_true (by omega)
   have f2i:((p.kind:Int)=2)=True:=eq_true (by omega)
   have f3:(p.kind=3)=False:=eq_false (by omega)
   have f3i:((p.kind:Int)=3)=False:=eq_false (by omega)
   have f4:(p.kind=4)=False:=eq_false (by omega)
   have f4i:((p.kind:Int)=4)=False:=eq_false (by omega)
   have f5:(p.kind=5)=False:=eq_false (by omega)
   have f5i:((p.kind:Int)=5)=False:=eq_false (by omega)
   have f7:(p.kind=7)=False:=eq_false (by omega)
   have f7i:((p.kind:Int)=7)=False:=eq_false (by omega)
   have f8:(p.kind=8)=False:=eq_false (by omega)
   have f8i:((p.kind:Int)=8)=False:=eq_false (by omega)
   have g0:¬ (p.alt:Int)<0:=by omega
   cases hc:a.alts[p.alt]? with
   |none =>
    have g1:a.alts.length≤p.alt:=List.getElem?_eq_none_iff.1 hc
    have g2:(a.alts.length:Int)≤p.alt:=by omega
    simp[c144,leave,hs,t161 h a hla,t161 h b hlb,(show keepA pg 161=false from h.keep (x:=c161) rfl),Plan.need,show Nat.beq 2 3=false from rfl,show Nat.beq 1 3=false from rfl,f2,f2i,f3,f3i,f4,f4i,f5,f5i,f7,f7i,f8,f8i,g0,eq_true g1,eq_true g2,hc]
   |some c =>
    have g1:¬ a.alts.length≤p.alt:=by have:=(gE hc).1;omega
    have g2:¬ (a.alts.length:Int)≤p.alt:=by omega
    have g3:=hca c (List.mem_of_getElem? hc)
    simp[c144,leave,hs,t161 h a hla,t161 h b hlb,(show keepA pg 161=false from h.keep (x:=c161) rfl),Plan.need,show Nat.beq 2 3=false from rfl,show Nat.beq 1 3=false from rfl,f2,f2i,f3,f3i,f4,f4i,f5,f5i,f7,f7i,f8,f8i,g0,g1,g2,hc,encAr,okRow,w64 ((c.2:Int)+a.alts.length) (by omega) (by omega),w64 ((c.2:Int)+a.alts.length-1) (by omega) (by omega)]
    omega
  ·have f2:(p.kind=2)=False:=eq_false (by omega)
   have f2i:((p.kind:Int)=2)=False:=eq_false (by omega)
   have f3:(p.kind=3)=True:=eq_true (by omega)
   have f3i:((p.kind:Int)=3)=True:=eq_true (by omega)
   have f4:(p.kind=4)=False:=eq_false (by omega)
   have f4i:((p.kind:Int)=4)=False:=eq_false (by omega)
   have f5:(p.kind=5)=False:=eq_false (by omega)
   have f5i:((p.kind:Int)=5)=False:=eq_false (by omega)
   have f7:(p.kind=7)=False:=eq_false (by omega)
   have f7i:((p.kind:Int)=7)=False:=eq_false (by omega)
   have f8:(p.kind=8)=False:=eq_false (by omega)
   have f8i:((p.kind:Int)=8)=False:=eq_false (by omega)
   simp[c144,leave,hs,t161 h a hla,t161 h b hlb,(show keepA pg 161=false from h.keep (x:=c161) rfl),Plan.need,show Nat.beq 2 3=false from rfl,show Nat.beq 1 3=false from rfl,f2,f2i,f3,f3i,f4,f4i,f5,f5i,f7,f7i,f8,f8i]
  ·have f2:(p.kind=2)=False:=eq_false (by omega)
   have f2i:((p.kind:Int)=2)=False:=eq_false (by omega)
   have f3:(p.kind=3)=False:=eq_false (by omega)
   have f3i:((p.kind:Int)=3)=False:=eq_false (by omega)
   have f4:(p.kind=4)=True:=eq_true (by omega)
   have f4i:((p.kind:Int)=4)=True:=eq_true (by omega)
   have f5:(p.kind=5)=False:=eq_false (by omega)
   have f5i:((p.kind:Int)=5)=False:=eq_false (by omega)
   have f7:(p.kind=7)=False:=eq_false (by omega)
   have f7i:((p.kind:Int)=7)=False:=eq_false (by omega)
   have f8:(p.kind=8)=False:=eq_false (by omega)
   have f8i:((p.kind:Int)=8)=False:=eq_false (by omega)
   simp[c144,leave,hs,t161 h a hla,t161 h b hlb,(show keepA pg 161=false from h.keep (x:=c161) rfl),Plan.need,show Nat.beq 2 3=false from rfl,show Nat.beq 1 3=false from rfl,f2,f2i,f3,f3i,f4,f4i,f5,f5i,f7,f7i,f8,f8i]
  ·have f2:(p.kind=2)=False:=eq_false (by omega)
   have f2i:((p.kind:Int)=2)=False:=eq_false (by omega)
   have f3:(p.kind=3)=False:=eq_false (by omega)
   have f3i:((p.kind:Int)=3)=False:=eq_false (by omega)
   have f4:(p.kind=4)=False:=eq_false (by omega)
   have f4i:((p.kind:Int)=4)=False:=eq_false (by omega)
   have f5:(p.kind=5)=True:=eq_true (by omega)
   have f5i:((p.kind:Int)=5)=True:=eq_true (by omega)
   have f7:(p.kind=7)=False:=eq_false (by omega)
   have f7i:((p.kind:Int)=7)=False:=eq_false (by omega)
   have f8:(p.kind=8)=False:=eq_false (by omega)
   have f8i:((p.kind:Int)=8)=False:=eq_false (by omega)
   have o1:a.others<2 ^ 40:=by unfold Node.others;omega
   have o2:b.others<2 ^ 40:=by unfold Node.others;omega
   have o3:maxI ((a.others:Int)-1) 0=((a.others-1:Nat):Int):=by unfold maxI;split<;>omega
   simp[c144,leave,hs,t161 h a hla,t161 h b hlb,(show keepA pg 161=false from h.keep (x:=c161) rfl),Plan.need,show Nat.beq 2 3=false from rfl,show Nat.beq 1 3=false from rfl,f2,f2i,f3,f3i,f4,f4i,f5,f5i,f7,f7i,f8,f8i,w64 ((a.others:Int)-1) (by omega) (by omega),o3,w64 (1+((a.others-1:Nat):Int)) (by omega) (by omega),w64 (1+((a.others-1:Nat):Int)+b.others) (by omega) (by omega)]
  ·have f2:(p.kind=2)=False:=eq_false (by omega)
   have f2i:((p.kind:Int)=2)=False:=eq_false (by omega)
   have f3:(p.kind=3)=False:=eq_false (by omega)
   have f3i:((p.kind:Int)=3)=False:=eq_false (by omega)
   have f4:(p.kind=4)=False:=eq_false (by omega)
   have f4i:((p.kind:Int)=4)=False:=eq_false (by omega)
   have f5:(p.kind=5)=False:=eq_false (by omega)
   have f5i:((p.kind:Int)=5)=False:=eq_false (by omega)
   have f7:(p.kind=7)=True:=eq_true (by omega)
   have f7i:((p.kind:Int)=7)=True:=eq_true (by omega)
   have f8:(p.kind=8)=False:=eq_false (by omega)
   have f8i:((p.kind:Int)=8)=False:=eq_false (by omega)
   have o2:b.others<2 ^ 40:=by unfold Node.others;omega
   by_cases x4:a.kind=4
   ·have x4':(a.kind:Int)=4:=by omega
    simp[c144,leave,hs,t161 h a hla,t161 h b hlb,(show keepA pg 161=false from h.keep (x:=c161) rfl),Plan.need,show Nat.beq 2 3=false from rfl,show Nat.beq 1 3=false from rfl,f2,f2i,f3,f3i,f4,f4i,f5,f5i,f7,f7i,f8,f8i,eq_true x4,eq_true x4',w64 (2+(b.others:Int)) (by omega) (by omega)]
   ·have x4':¬ (a.kind:Int)=4:=by omega
    simp[c144,leave,hs,t161 h a hla,t161 h b hlb,(show keepA pg 161=false from h.keep (x:=c161) rfl),Plan.need,show Nat.beq 2 3=false from rfl,show Nat.beq 1 3=false from rfl,f2,f2i,f3,f3i,f4,f4i,f5,f5i,f7,f7i,f8,f8i,x4,x4',w64 (1+(b.others:Int)) (by omega) (by omega)]
  ·have f2:(p.kind=2)=False:=eq_false (by omega)
   have f2i:((p.kind:Int)=2)=False:=eq_false (by omega)
   have f3:(p.kind=3)=False:=eq_false (by omega)
   have f3i:((p.kind:Int)=3)=False:=eq_false (by omega)
   have f4:(p.kind=4)=False:=eq_false (by omega)
   have f4i:((p.kind:Int)=4)=False:=eq_false (by omega)
   have f5:(p.kind=5)=False:=eq_false (by omega)
   have f5i:((p.kind:Int)=5)=False:=eq_false (by omega)
   have f7:(p.kind=7)=False:=eq_false (by omega)
   have f7i:((p.kind:Int)=7)=False:=eq_false (by omega)
   have f8:(p.kind=8)=True:=eq_true (by omega)
   have f8i:((p.kind:Int)=8)=True:=eq_true (by omega)
   simp[c144,leave,hs,t161 h a hla,t161 h b hlb,(show keepA pg 161=false from h.keep (x:=c161) rfl),Plan.need,show Nat.beq 2 3=false from rfl,show Nat.beq 1 3=false from rfl,f2,f2i,f3,f3i,f4,f4i,f5,f5i,f7,f7i,f8,f8i]
  ·have f2:(p.kind=2)=False:=eq_false (by omega)
   have f2i:((p.kind:Int)=2)=False:=eq_false (by omega)
   have f3:(p.kind=3)=False:=eq_false (by omega)
   have f3i:((p.kind:Int)=3)=False:=eq_false (by omega)
   have f4:(p.kind=4)=False:=eq_false (by omega)
   have f4i:((p.kind:Int)=4)=False:=eq_false (by omega)
   have f5:(p.kind=5)=False:=eq_false (by omega)
   have f5i:((p.kind:Int)=5)=False:=eq_false (by omega)
   have f7:(p.kind=7)=False:=eq_false (by omega)
   have f7i:((p.kind:Int)=7)=False:=eq_false (by omega)
   have f8:(p.kind=8)=False:=eq_false (by omega)
   have f8i:((p.kind:Int)=8)=False:=eq_false (by omega)
   simp[c144,leave,hs,t161 h a hla,t161 h b hlb,(show keepA pg 161=false from h.keep (x:=c161) rfl),Plan.need,show Nat.beq 2 3=false from rfl,show Nat.beq 1 3=false from rfl,f2,f2i,f3,f3i,f4,f4i,f5,f5i,f7,f7i,f8,f8i]
 ·rcases hk with hk|hk|hk|hk|hk|hk|hk
  ·have f2:(p.kind=2)=True:=eq_true (by omega)
   have f2i:((p.kind:Int)=2)=True:=eq_true (by omega)
   have f3:(p.kind=3)=False:=eq_false (by omega)
   have f3i:((p.kind:Int)=3)=False:=eq_false (by omega)
   have f4:(p.kind=4)=False:=eq_false (by omega)
   have f4i:((p.kind:Int)=4)=False:=eq_false (by omega)
   have f5:(p.kind=5)=False:=eq_false (by omega)
   have f5i:((p.kind:Int)=5)=False:=eq_false (by omega)
   have f7:(p.kind=7)=False:=eq_false (by omega)
   have f7i:((p.kind:Int)=7)=False:=eq_false (by omega)
   have f8:(p.kind=8)=False:=eq_false (by omega)
   have f8i:((p.kind:Int)=8)=False:=eq_false (by omega)
   have g0:¬ (p.alt:Int)<0:=by omega
   cases hc:b.alts[p.alt]? with
   |none =>
    have g1:b.alts.length≤p.alt:=List.getElem?_eq_none_iff.1 hc
    have g2:(b.alts.length:Int)≤p.alt:=by omega
    simp[c144,leave,hs,t161 h a hla,t161 h b hlb,(show keepA pg 161=false from h.keep (x:=c161) rfl),Plan.need,show Nat.beq 2 3=false from rfl,show Nat.beq 1 3=false from rfl,f2,f2i,f3,f3i,f4,f4i,f5,f5i,f7,f7i,f8,f8i,g0,eq_true g1,eq_true g2,hc]
   |some c =>
    have g1:¬ b.alts.length≤p.alt:=by have:=(gE hc).1;omega
    have g2:¬ (b.alts.length:Int)≤p.alt:=by omega
    have g3:=hcb c (List.mem_of_getElem? hc)
    simp[c144,leave,hs,t161 h a hla,t161 h b hlb,(show keepA pg 161=false from h.keep (x:=c161) rfl),Plan.need,show Nat.beq 2 3=false from rfl,show Nat.beq 1 3=false from rfl,f2,f2i,f3,f3i,f4,f4i,f5,f5i,f7,f7i,f8,f8i,g0,g1,g2,hc,encAr,okRow,w64 ((c.2:Int)+b.alts.length) (by omega) (by omega),w64 ((c.2:Int)+b.alts.length-1) (by omega) (by omega)]
    omega
  ·have f2:(p.kind=2)=False:=eq_false (by omega)
   have f2i:((p.kind:Int)=2)=False:=eq_false (by omega)
   have f3:(p.kind=3)=True:=eq_true (by omega)
   have f3i:((p.kind:Int)=3)=True:=eq_true (by omega)
   have f4:(p.kind=4)=False:=eq_false (by omega)
   have f4i:((p.kind:Int)=4)=False:=eq_false (by omega)
   have f5:(p.kind=5)=False:=eq_false (by omega)
   have f5i:((p.kind:Int)=5)=False:=eq_false (by omega)
   have f7:(p.kind=7)=False:=eq_false (by omega)
   have f7i:((p.kind:Int)=7)=False:=eq_false (by omega)
   have f8:(p.kind=8)=False:=eq_false (by omega)
   have f8i:((p.kind:Int)=8)=False:=eq_false (by omega)
   simp[c144,leave,hs,t161 h a hla,t161 h b hlb,(show keepA pg 161=false from h.keep (x:=c161) rfl),Plan.need,show Nat.beq 2 3=false from rfl,show Nat.beq 1 3=false from rfl,f2,f2i,f3,f3i,f4,f4i,f5,f5i,f7,f7i,f8,f8i]
  ·have f2:(p.kind=2)=False:=eq_false (by omega)
   have f2i:((p.kind:Int)=2)=False:=eq_false (by omega)
   have f3:(p.kind=3)=False:=eq_false (by omega)
   have f3i:((p.kind:Int)=3)=False:=eq_false (by omega)
   have f4:(p.kind=4)=True:=eq_true (by omega)
   have f4i:((p.kind:Int)=4)=True:=eq_true (by omega)
   have f5:(p.kind=5)=False:=eq_false (by omega)
   have f5i:((p.kind:Int)=5)=False:=eq_false (by omega)
   have f7:(p.kind=7)=False:=eq_false (by omega)
   have f7i:((p.kind:Int)=7)=False:=eq_false (by omega)
   have f8:(p.kind=8)=False:=eq_false (by omega)
   have f8i:((p.kind:Int)=8)=False:=eq_false (by omega)
   simp[c144,leave,hs,t161 h a hla,t161 h b hlb,(show keepA pg 161=false from h.keep (x:=c161) rfl),Plan.need,show Nat.beq 2 3=false from rfl,show Nat.beq 1 3=false from rfl,f2,f2i,f3,f3i,f4,f4i,f5,f5i,f7,f7i,f8,f8i]
  ·have f2:(p.kind=2)=False:=eq_false (by omega)
   have f2i:((p.kind:Int)=2)=False:=eq_false (by omega)
   have f3:(p.kind=3)=False:=eq_false (by omega)
   have f3i:((p.kind:Int)=3)=False:=eq_false (by omega)
   have f4:(p.kind=4)=False:=eq_false (by omega)
   have f4i:((p.kind:Int)=4)=False:=eq_false (by omega)
   have f5:(p.kind=5)=True:=eq_true (by omega)
   have f5i:((p.kind:Int)=5)=True:=eq_true (by omega)
   have f7:(p.kind=7)=False:=eq_false (by omega)
   have f7i:((p.kind:Int)=7)=False:=eq_false (by omega)
   have f8:(p.kind=8)=False:=eq_false (by omega)
   have f8i:((p.kind:Int)=8)=False:=eq_false (by omega)
   have o1:b.others<2 ^ 40:=by unfold Node.others;omega
   have o2:a.others<2 ^ 40:=by unfold Node.others;omega
   have o3:maxI ((b.others:Int)-1) 0=((b.others-1:Nat):Int):=by unfold maxI;split<;>omega
   simp[c144,leave,hs,t161 h a hla,t161 h b hlb,(show keepA pg 161=false from h.keep (x:=c161) rfl),Plan.need,show Nat.beq 2 3=false from rfl,show Nat.beq 1 3=false from rfl,f2,f2i,f3,f3i,f4,f4i,f5,f5i,f7,f7i,f8,f8i,w64 ((b.others:Int)-1) (by omega) (by omega),o3,w64 (1+((b.others-1:Nat):Int)) (by omega) (by omega),w64 (1+((b.others-1:Nat):Int)+a.others) (by omega) (by omega)]
  ·have f2:(p.kind=2)=False:=eq_false (by omega)
   have f2i:((p.kind:Int)=2)=False:=eq_false (by omega)
   have f3:(p.kind=3)=False:=eq_false (by omega)
   have f3i:((p.kind:Int)=3)=False:=eq_false (by omega)
   have f4:(p.kind=4)=False:=eq_false (by omega)
   have f4i:((p.kind:Int)=4)=False:=eq_false (by omega)
   have f5:(p.kind=5)=False:=eq_false (by omega)
   have f5i:((p.kind:Int)=5)=False:=eq_false (by omega)
   have f7:(p.kind=7)=True:=eq_true (by omega)
   have f7i:((p.kind:Int)=7)=True:=eq_true (by omega)
   have f8:(p.kind=8)=False:=eq_false (by omega)
   have f8i:((p.kind:Int)=8)=False:=eq_false (by omega)
   have o2:a.others<2 ^ 40:=by unfold Node.others;omega
   by_cases x4:b.kind=4
   ·have x4':(b.kind:Int)=4:=by omega
    simp[c144,leave,hs,t161 h a hla,t161 h b hlb,(show keepA pg 161=false from h.keep (x:=c161) rfl),Plan.need,show Nat.beq 2 3=false from rfl,show Nat.beq 1 3=false from rfl,f2,f2i,f3,f3i,f4,f4i,f5,f5i,f7,f7i,f8,f8i,eq_true x4,eq_true x4',w64 (2+(a.others:Int)) (by omega) (by omega)]
   ·have x4':¬ (b.kind:Int)=4:=by omega
    simp[c144,leave,hs,t161 h a hla,t161 h b hlb,(show keepA pg 161=false from h.keep (x:=c161) rfl),Plan.need,show Nat.beq 2 3=false from rfl,show Nat.beq 1 3=false from rfl,f2,f2i,f3,f3i,f4,f4i,f5,f5i,f7,f7i,f8,f8i,x4,x4',w64 (1+(a.others:Int)) (by omega) (by omega)]
  ·have f2:(p.kind=2)=False:=eq_false (by omega)
   have f2i:((p.kind:Int)=2)=False:=eq_false (by omega)
   have f3:(p.kind=3)=False:=eq_false (by omega)
   have f3i:((p.kind:Int)=3)=False:=eq_false (by omega)
   have f4:(p.kind=4)=False:=eq_false (by omega)
   have f4i:((p.kind:Int)=4)=False:=eq_false (by omega)
   have f5:(p.kind=5)=False:=eq_false (by omega)
   have f5i:((p.kind:Int)=5)=False:=eq_false (by omega)
   have f7:(p.kind=7)=False:=eq_false (by omega)
   have f7i:((p.kind:Int)=7)=False:=eq_false (by omega)
   have f8:(p.kind=8)=True:=eq_true (by omega)
   have f8i:((p.kind:Int)=8)=True:=eq_true (by omega)
   simp[c144,leave,hs,t161 h a hla,t161 h b hlb,(show keepA pg 161=false from h.keep (x:=c161) rfl),Plan.need,show Nat.beq 2 3=false from rfl,show Nat.beq 1 3=false from rfl,f2,f2i,f3,f3i,f4,f4i,f5,f5i,f7,f7i,f8,f8i]
  ·have f2:(p.kind=2)=False:=eq_false (by omega)
   have f2i:((p.kind:Int)=2)=False:=eq_false (by omega)
   have f3:(p.kind=3)=False:=eq_false (by omega)
   have f3i:((p.kind:Int)=3)=False:=eq_false (by omega)
   have f4:(p.kind=4)=False:=eq_false (by omega)
   have f4i:((p.kind:Int)=4)=False:=eq_false (by omega)
   have f5:(p.kind=5)=False:=eq_false (by omega)
   have f5i:((p.kind:Int)=5)=False:=eq_false (by omega)
   have f7:(p.kind=7)=False:=eq_false (by omega)
   have f7i:((p.kind:Int)=7)=False:=eq_false (by omega)
   have f8:(p.kind=8)=False:=eq_false (by omega)
   have f8i:((p.kind:Int)=8)=False:=eq_false (by omega)
   simp[c144,leave,hs,t161 h a hla,t161 h b hlb,(show keepA pg 161=false from h.keep (x:=c161) rfl),Plan.need,show Nat.beq 2 3=false from rfl,show Nat.beq 1 3=false from rfl,f2,f2i,f3,f3i,f4,f4i,f5,f5i,f7,f7i,f8,f8i]
end Go.Proofs.Z
end
