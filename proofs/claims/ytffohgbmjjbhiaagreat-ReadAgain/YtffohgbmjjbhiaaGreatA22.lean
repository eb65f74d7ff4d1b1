/- A part of the proof. -/
import Derived.Test.YtffohgbmjjbhiaaGreatA21
set_option linter.all false
section
namespace Go.Proofs.Z
open Go Go.Proofs
attribute [local simp] k_nil k_ops k_opsg kG_true kG_false kO_val kO_pan k_seq kS_n kS_r kS_e kS_p k_o kR_n kR_p kD2_n kD1_n k_d k_c kC_t kC_f k_b kB_n kB_r kB_p kB_e k_skip k_ret k_exit k_l kL_s kLp_n kLp_r kLp_e kLp_p k_f kF_n kF_r kF_p kV_f kV_t kN_s evOp evBin gOK opd opds lk put restr iEv evRes whole norm normL one Out.below below belowL bOb evStore evLoad evLen AV.cells AV.flat PV.flat splice fillAt pcs isStr rowsOf Res.of evCmp lvE leafEq asInt noIdAt noId noIdL tids chkOK
variable {pg:Prg}{G:Heap}
theorem s52 (h:Std pg){tk tn:Int}{ts:List UInt8}{rows:List (List PV)}{x:Node}{fs:List (Net→W)}{ss cs:List Nat}{n:Net}(hrows:rows.length<2 ^ 17)(hn:WI n)(hk:2≤x.kind)(hx:x.lev≤60→x.ok=true)(hlen:fs.length=rows.length)
  (hp:PartsHyp pg tk tn ts rows x.lev 0 fs ss cs) (hs:cs.sum<2 ^ 17) :
  Weaves pg 52 [.ag [.p (.sl (n.nodes.map Node.enc)),.p (.i .i64 n.cap)],.ag [.p (.i .i64 tk),.p (.i .i64 tn),.p (.s ts),.p (.sl rows)],.ag [.p (.i .i64 x.kind),.p (.i .i64 x.lev),.p (.i .i64 x.n),.p (.s x.name),.p (.sl (x.alts.map encAr)),.p (.sl (x.to.map Port.enc))]] (nodeW x fs ss (if tk=4 then 0 else 1) n):=by
 have e50:=fun G=>t50 (G:=G) (x:=x) h (by have:=hn.len;omega) hn.len.1 hk hx
 have hwm:=hn.made (x:=x) hk hx
 have hcm:=Net.made_cap n x
 unfold nodeW
 generalize hR:n.made x=R at *
 obtain ⟨m,s,err⟩:=R
 dsimp only at hwm hcm ⊢
 by_cases he:err=0
 ·subst he
  rw[if_pos rfl]
  have hL:=l52 (body:=c52l0) h rfl (m:=s) (xk:=x.kind) (xn:=x.n) (xs:=x.name) (xa:=x.alts.map encAr) (xt:=x.to.map Port.enc) hrows fs ss cs 0 m [] 0 0 .nils [] hp hwm (by omega) (by simpa using hs) (by simp) (.inl ⟨rfl,rfl⟩) (.inl rfl)
  have hpg:=partsW_good (m:=s) fs ss cs 0 m [] 0 hp hwm (by simp) (by simp)
  generalize hP:partsW x.lev s fs ss m []=P at *
  simp only[ptB,pcs,wCs,zCells,List.map_cons,List.map_nil,List.cons_append,List.nil_append,List.append_nil,show ((0:Nat):Int)=0 from rfl,hcm]at hL
  by_cases hPe:P.e=0
  ·rw[if_pos hPe]at hL ⊢
   obtain ⟨L',O',o1',o2',hL,hE⟩:=hL
   have hfl:L'.flat=true:=by rcases hE with ⟨rfl,_⟩|⟨k,g,rfl,_⟩<;>rfl
   refine ⟨wCs P.n s (if tk=4 then 0 else 1:Nat) L' 0,.box [.p (.i .i64 tk),.p (.i .i64 tn),.p (.s ts),.p (.sl rows)]::.box (pcs [iv x.kind,iv x.lev,iv x.n,.s x.name,.sl (x.alts.map encAr),.sl (x.to.map Port.enc)])::.box (wCs P.n s (if tk=4 then 0 else 1:Nat) L' 0)::.box (wCs P.n s (if tk=4 then 0 else 1:Nat) L' 0)::O',?_,⟨_,_,_,_,L',P.l,by rw[hPe];rfl,.inr ⟨_,rfl⟩,?_,fun _=>⟨rfl,rfl,rfl,rfl,rfl⟩⟩⟩
   ·rw[h.run (x:=c52) rfl (by decide) (by decide) (by decide) (by decide)]
    simp only[mkOut,hcm]at e50
    rcases em_eq (tk=4) with ck|ck<;>rcases hE with ⟨rfl,_⟩|⟨k,g,rfl,_⟩
    all_goals
     simp only[ck,if_true,if_false,show ((0:Nat):Int)=0 from rfl,show ((1:Nat):Int)=1 from rfl,wCs,pcs,List.map_cons,List.map_nil]at hL ⊢
     simp[c52,leave,e50,hcm,gc,gcEnv,exp,expL,eOs,Exp.id,idxOf,List.range,List.range.loop]
     rw[hL]
     simp[leave,t39 h,ck]
   ·rcases hE with ⟨rfl,hl0⟩|⟨k,g,rfl,hk⟩
    ·exact .inl ⟨rfl,hl0⟩
    ·exact .inr ⟨k+4,g,rfl,by simpa using hk⟩
  ·rw[if_neg hPe]at hL ⊢
   obtain ⟨b0,b1,T,hL⟩:=hL
   refine ⟨badCells P.e,b0::b1::.box (badCells P.e)::T,?_,⟨.nils,0,0,0,.nils,[],rfl,.inl rfl,.inl ⟨rfl,rfl⟩,fun hh=>absurd hh hPe⟩⟩
   rw[h.run (x:=c52) rfl (by decide) (by decide) (by decide) (by decide)]
   simp only[mkOut,hcm]at e50
   simp only[badCells]at hL ⊢
   simp[c52,leave,e50,hcm,gc,gcEnv,exp,expL,eOs,Exp.id,idxOf,List.range,List.range.loop]
   rw[hL]
   simp[leave]
 ·rw[if_neg he]
  have he':¬ (err:Int)=0:=by omega
  refine ⟨badCells err,[.box [.p (.sl (m.nodes.map Node.enc)),.p (.i .i64 n.cap)],.box [.p (.i .i64 tk),.p (.i .i64 tn),.p (.s ts),.p (.sl rows)],.box (pcs [iv x.kind,iv x.lev,iv x.n,.s x.name,.sl (x.alts.map encAr),.sl (x.to.map Port.enc)]),.box (badCells err),.box (badCells err)],?_,.bad 0 err _ he⟩
  rw[h.run (x:=c52) rfl (by decide) (by decide) (by decide) (by decide)]
  simp only[mkOut,hcm]at e50
  simp[c52,leave,e50,he,he',t70 h,badCells,pcs]
def isCap (c:UInt8):Bool:=decide (65≤c) && decide (c≤90)
def isAln (c:UInt8):Bool:=(decide (97≤c) && decide (c≤122)) || isCap c || (decide (48≤c) && decide (c≤57))
def isCon:List UInt8→Bool
 |[]=>false
 |c::r=>isCap c && r.all isAln && decide (r.length≤15)
def isOp (s:List UInt8):Bool:=decide (s=[43]) || decide (s=[45]) || decide (s=[42]) || decide (s=[47]) || decide (s=[60]) || decide (s=[61,61])
mutual
def Ct.wf:Nat→Ct→Bool
 |f,.var i=>decide (i<f)
 |f,.lam b=>b.wf (f+1)
 |f,.app a b=>a.wf f && b.wf f
 |f,.con s l=>isCon s && decide (l.length≤8) && Ct.wfL f l
 |f,.case h l=>h.wf f && decide (1≤l.length∧l.length≤8) && altsFrom (l.map altOf) 0 (l.map altOf) && Ct.wfA f l
 |f,.alt _ _ _=>false
 |f,.int v=>decide (-9223372036854775808≤v∧v≤9223372036854775807)
 |f,.op s a b=>isOp s && a.wf f && b.wf f
 |f,.fail=>true
def Ct.wfL:Nat→List Ct→Bool
 |_,[]=>true
 |f,a::r=>a.wf f && Ct.wfL f r
def Ct.wfA:Nat→List Ct→Bool
 |_,[]=>true
 |f,.alt s n b::r=>isCon s && b.wf (f+n) && Ct.wfA f r
 |_,_::_=>false
end
theorem Ct.tmL_map:∀ l:List Ct,Ct.tmL l=l.map Ct.tm
 |[]=>rfl
 |a::r=>by simp[Ct.tmL,Ct.tmL_map r]
theorem isCon_ne {s:List UInt8}(h:isCon s=true):s≠[]:=by
 rintro rfl;cases h
theorem isOp_ne {s:List UInt8}(h:isOp s=true):s≠[]:=by
 rintro rfl;revert h;decide
theorem weaveB_len:∀ (l:List Ct) (lev:Nat),(Ct.weaveB l lev).length=l.length
 |[],_=>rfl
 |a::r,lev=>by simp[Ct.weaveB,weaveB_len r lev]
theorem weaveA_len:∀ (l:List Ct) (lev:Nat),(Ct.weaveA l lev).length=l.length
 |[],_=>rfl
 |a::r,lev=>by cases a<;>simp[Ct.weaveA,weaveA_len r lev]
theorem GoodW.mono {c d:Nat}{w:W}(h:GoodW c w)(hcd:c≤d):GoodW d w:=fun e=>⟨(h e).1,Nat.le_trans (h e).2.1 hcd,(h e).2.2⟩
theorem badW_good (c e:Nat)(h:e≠0):GoodW c (badW e):=fun hh=>absurd hh h
theorem nodeW_good {tk tn:Int}{ts:List UInt8}{rows:List (List PV)}{x:Node}{fs:List (Net→W)}{ss cs:List Nat}{n:Net}{out:Nat}(hn:WI n)(hk:2≤x.kind)(hx:x.lev≤60→x.ok=true)(hp:PartsHyp pg tk tn ts rows x.lev 0 fs ss cs):GoodW cs.sum (nodeW x fs ss out n):=by
 have hwm:=hn.made (x:=x) hk hx
 unfold nodeW
 split
 ·have:=partsW_good (m:=(n.made x).2.1) fs ss cs 0 (n.made x).1 [] 0 hp hwm (by simp) (by simp)
  rw[Nat.zero_add]at this
  split
  ·rename_i e
   exact fun _=>this e
  ·exact this
 ·rename_i e
  exact badW_good _ _ e
theorem leafW_good {c:Nat}{x:Node}{out:Nat}{l:Nat→List End}{n:Net}(hn:WI n)(hk:2≤x.kind)(hx:x.lev≤60→x.ok=true)(hl:∀ s,(l s).length≤c∧∀ e∈l s,e.v<2 ^ 40):GoodW c (leafW x out l n):=fun _=>⟨hn.made hk hx,(hl _).1,(hl _).2⟩
theorem leaf_ok {k lev:Nat}(hk:k=5∨k=13)(v:Int)(hv:v=0)(h:lev≤60):(Node.mk k lev v [] [] []).ok=true:=by
 rcases hk with rfl|rfl
 ·exact Node.ok_mk (by omega) rfl (by omega) h (by simp) (.inl hv) (by omega)
 ·exact Node.ok_mk (by omega) rfl (by omega) h (by simp) (.inl hv) (by omega)
theorem int_ok {lev:Nat}(v:Int)(h:lev≤60):(Node.mk 10 lev v [] [] []).ok=true:=Node.ok_mk (by omega) rfl (by omega) h (by simp) (by simp) (by omega)
theorem t50v (h:Std pg){n:Net}{k lev:Nat}{K v:Int}(hK:K=k)(hw:WI n)(hk:2≤k)(hx:lev≤60→(Node.mk k lev v [] [] []).ok=true) :
  eCA pg (E pg) 50 [.ag [.p (.sl (n.nodes.map Node.enc)),.p (.i .i64 n.cap)],.ag [.p (.i .i64 K),.p (.i .i64 lev),.p (.i .i64 v),.p (.s []),.nils,.nils]] G=some (mkOut (n.made ⟨k,lev,v,[],[],[]⟩),G):=by
 subst hK
 have:=t50 (G:=G) (x:=⟨k,lev,v,[],[],[]⟩) h (by have:=hw.len;omega) hw.len.1 hk hx
 rw[← this]
 refine at_norm fun e=>?_
 simp[show keepA pg 50=false from h.keep (x:=c50) rfl,exp,expL]
theorem s37_var (h:Std pg){lev i:Nat}{n:Net}(hn:WI n):Weaves pg 37 [.ag [.p (.sl (n.nodes.map Node.enc)),.p (.i .i64 n.cap)],.ag (pcs (Ct.var i).tm.enc),.p (.i .i64 lev)] ((Ct.var i).weave lev n):=by
 have e50:=fun G=>t50v (G:=G) (k:=5) (K:=5) (lev:=lev) (v:=0) h rfl hn (by omega) (leaf_ok (.inl rfl) 0 rfl)
 have hcm:=Net.made_cap n ⟨5,lev,0,[],[],[]⟩
 unfold Ct.weave leafW
 generalize hR:n.made ⟨5,lev,0,[],[],[]⟩=R at *
 obtain ⟨m,s,err⟩:=R
 dsimp only at hcm ⊢
 have okr:∀ a b c:Int,okRow 3 [iv a,iv b,iv c]=true:=fun _ _ _=>rfl
 refine ⟨wCs m s 1 (.arr 5 1 0) err,[.box [.p (.sl (n.nodes.map Node.enc)),.p (.i .i64 n.cap)],.box [.p (.i .i64 1),.p (.i .i64 i),.p (.s []),.p (.sl [])],.box (wCs m s 1 (.arr 5 1 0) err),.box [.p (.i .i64 5),.p (.i .i64 lev),.p (.i .i64 0),.p (.s []),.nils,.nils],.box [.p (.sl (m.nodes.map Node.enc)),.p (.i .i64 n.cap)],.arr 3 [[iv i,iv s,iv 0]] 0 0],?_,⟨_,_,_,_,_,[⟨i,⟨s,0⟩⟩],rfl,.inr ⟨_,rfl⟩,.inr ⟨5,0,rfl,rfl⟩,fun _=>⟨rfl,rfl,rfl,rfl,rfl⟩⟩⟩
 rw[h.run (x:=c37) rfl (by decide) (by decide) (by decide) (by decide)]
 simp only[mkOut,hcm]at e50
 simp[c37,leave,Ct.tm,Tm.enc,Tm.encL,pcs,e50,hcm,wCs,t39 h,k39 h,noIdAt,noId,okZ3,evOp.fillRows,normP,toPL,toP,okr]
theorem s37_int (h:Std pg){lev:Nat}{v:Int}{n:Net}(hn:WI n):Weaves pg 37 [.ag [.p (.sl (n.nodes.map Node.enc)),.p (.i .i64 n.cap)],.ag (pcs (Ct.int v).tm.enc),.p (.i .i64 lev)] ((Ct.int v).weave lev n):=by
 have e50:=fun G=>t50v (G:=G) (k:=10) (K:=10) (lev:=lev) (v:=v) h rfl hn (by omega) (int_ok v)
 have hcm:=Net.made_cap n ⟨10,lev,v,[],[],[]⟩
 unfold Ct.weave leafW
 generalize hR:n.made ⟨10,lev,v,[],[],[]⟩=R at *
 obtain ⟨m,s,err⟩:=R
 dsimp only at hcm ⊢
 refine ⟨wCs m s 0 .nils err,[.box [.p (.sl (n.nodes.map Node.enc)),.p (.i .i64 n.cap)],.box [.p (.i .i64 7),.p (.i .i64 v),.p (.s []),.p (.sl [])],.box (wCs m s 0 .nils err),.box [.p (.i .i64 10),.p (.i .i64 lev),.p (.i .i64 v),.p (.s []),.nils,.nils],.box [.p (.sl (m.nodes.map Node.enc)),.p (.i .i64 n.cap)]],?_,⟨_,_,_,_,_,[],rfl,.inr ⟨_,rfl⟩,.inl ⟨rfl,rfl⟩,fun _=>⟨rfl,rfl,rfl,rfl,rfl⟩⟩⟩
 rw[h.run (x:=c37) rfl (by decide) (by decide) (by decide) (by decide)]
 simp only[mkOut,hcm]at e50
 simp[c37,leave,Ct.tm,Tm.enc,Tm.encL,pcs,e50,hcm,wCs,t39 h,k39 h,noIdAt,noId]
theorem s37_fail (h:Std pg){lev:Nat}{n:Net}(hn:WI n):Weaves pg 37 [.ag [.p (.sl (n.nodes.map Node.enc)),.p (.i .i64 n.cap)],.ag (pcs (Ct.fail).tm.enc),.p (.i .i64 lev)] ((Ct.fail).weave lev n):=by
 have e50:=fun G=>t50v (G:=G) (k:=13) (K:=13) (lev:=lev) (v:=0) h rfl hn (by omega) (leaf_ok (.inr rfl) 0 rfl)
 have hcm:=Net.made_cap n ⟨13,lev,0,[],[],[]⟩
 unfold Ct.weave leafW
 generalize hR:n.made ⟨13,lev,0,[],[],[]⟩=R at *
 obtain ⟨m,s,err⟩:=R
 dsimp only at hcm ⊢
 refine ⟨wCs m s 0 .nils err,[.box [.p (.sl (n.nodes.map Node.enc)),.p (.i .i64 n.cap)],.box [.p (.i .i64 9),.p (.i .i64 0),.p (.s []),.p (.sl [])],.box (wCs m s 0 .nils err),.box [.p (.i .i64 13),.p (.i .i64 lev),.p (.i .i64 0),.p (.s []),.nils,.nils],.box [.p (.sl (m.nodes.map Node.enc)),.p (.i .i64 n.cap)]],?_,⟨_,_,_,_,_,[],rfl,.inr ⟨_,rfl⟩,.inl ⟨rfl,rfl⟩,fun _=>⟨rfl,rfl,rfl,rfl,rfl⟩⟩⟩
 rw[h.run (x:=c37) rfl (by decide) (by decide) (by decide) (by decide)]
 simp only[mkOut,hcm]at e50
 simp[c37,leave,Ct.tm,Tm.enc,Tm.encL,pcs,e50,hcm,wCs,t39 h,k39 h,noIdAt,noId]
theorem at_seal {call:CallF}{f:Nat}{args args':List AV}{G':Heap}(he:expL (keepA pg f) ⟨[],G⟩ args=some (args',⟨[],G'⟩))(hf:flatAL args'=true):eCA pg call f args G=eCA pg call f args' G':=by
 have h0:∀ (k:Nat) (G:Heap),eOs (k+1) ⟨[],G⟩ 0=some ([],⟨[],G⟩):=fun k G=>by simp[eOs]
 unfold eCA
 rw[he,flatAL_exp _ _ hf]
 dsimp only
 rw[h0,h0]
theorem Tm.enc_ex (t:Tm):∃ k n s l,t.enc=[iv k,iv n,.s s,.sl l]:=by cases t;exact ⟨_,_,_,_,rfl⟩
theorem s37_lam (h:Std pg){lev:Nat}{b:Ct}{n:Net}{w:W}(hp:Weaves pg 51 [.ag [.p (.sl (n.nodes.map Node.enc)),.p (.i .i64 n.cap)],.ag (pcs b.tm.enc),.p (.i .i64 1),.p (.i .i64 lev)] w):Weaves pg 37 [.ag [.p (.sl (n.nodes.map Node.enc)),.p (.i .i64 n.cap)],.ag (pcs (Ct.lam b).tm.enc),.p (.i .i64 lev)] w:=by
 obtain ⟨bk,bn,bs,bl,hb⟩:=b.tm.enc_ex
 obtain ⟨v,O,hc,hv⟩:=hp
 rw[hb]at hc
 simp only[pcs,List.map_cons,List.map_nil]at hc
 obtain ⟨v',O',h1,h2⟩:=at_W (pg:=pg) (G:=[.box [.p (.sl (n.nodes.map Node.enc)),.p (.i .i64 n.cap)],.box [.p (.i .i64 2),.p (.i .i64 0),.p (.s []),.p (.sl [[iv bk,iv bn,.s bs,.sl bl]])],.box zCells,.box [.p (.i .i64 0),.p (.i .i64 lev),.p (.i .i64 0),.p (.s []),.nils,.nils]]) hc hv rfl
 obtain ⟨a,x,y,z,L,l,rfl,q1,q2,q3⟩:=h2
 simp only[zCells]at h1
 have hE:∀ b1 b2 b3 b4:AObj,EV 0 L (b1::b2::b3::b4::O') l:=by
  intro b1 b2 b3 b4
  rcases q2 with ⟨rfl,rfl⟩|⟨k,g,rfl,hk⟩
  ·exact .inl ⟨rfl,rfl⟩
  ·exact .inr ⟨k+4,g,rfl,by simpa using hk⟩
 refine ⟨wv a x y z L w.e,.box [.p (.sl (n.nodes.map Node.enc)),.p (.i .i64 n.cap)]::.box [.p (.i .i64 2),.p (.i .i64 0),.p (.s []),.p (.sl [[iv bk,iv bn,.s bs,.sl bl]])]::.box (wv a x y z L w.e)::.box [.p (.i .i64 0),.p (.i .i64 lev),.p (.i .i64 0),.p (.s []),.nils,.nils]::O',?_,⟨a,x,y,z,L,l,rfl,q1,hE _ _ _ _,q3⟩⟩
 have okr2:okRow 4 [iv bk,iv bn,.s bs,.sl bl]=true:=rfl
 rw[h.run (x:=c37) rfl (by decide) (by decide) (by decide) (by decide)]
 rcases q1 with rfl|⟨r,rfl⟩<;>rcases q2 with ⟨rfl,_⟩|⟨k,g,rfl,_⟩<;>simp only[wv]at h1 ⊢<;>simp[c37,leave,Ct.tm,Tm.enc,Tm.encL,hb,pcs,okr2,h1]
theorem s37_two (h:Std pg){lev kind:Nat}{tk:Int}{s:List UInt8}{rows:List (List PV)}{n:Net}{w:W}(ht:(tk=3∧kind=3∧s=[])∨(tk=8∧kind=11))
  (hp:Weaves pg 52 [.ag [.p (.sl (n.nodes.map Node.enc)),.p (.i .i64 n.cap)],.ag [.p (.i .i64 tk),.p (.i .i64 0),.p (.s s),.p (.sl rows)],.ag [.p (.i .i64 kind),.p (.i .i64 lev),.p (.i .i64 0),.p (.s s),.p (.sl []),.p (.sl [])]] w) :
  Weaves pg 37 [.ag [.p (.sl (n.nodes.map Node.enc)),.p (.i .i64 n.cap)],.ag [.p (.i .i64 tk),.p (.i .i64 0),.p (.s s),.p (.sl rows)],.p (.i .i64 lev)] w:=by
 obtain ⟨v,O,hc,hv⟩:=hp
 obtain ⟨v',O',h1,h2⟩:=at_W (pg:=pg) (G:=[.box [.p (.sl (n.nodes.map Node.enc)),.p (.i .i64 n.cap)],.box [.p (.i .i64 tk),.p (.i .i64 0),.p (.s s),.p (.sl rows)],.box zCells,.box [.p (.i .i64 kind),.p (.i .i64 lev),.p (.i .i64 0),.p (.s s),.nils,.nils]]) hc hv rfl
 rw[← at_seal (args:=[.ag [.p (.sl (n.nodes.map Node.enc)),.p (.i .i64 n.cap)],.ag [.p (.i .i64 tk),.p (.i .i64 0),.p (.s s),.p (.sl rows)],.ag [.p (.i .i64 kind),.p (.i .i64 lev),.p (.i .i64 0),.p (.s s),.nils,.nils]]) (G:=[.box [.p (.sl (n.nodes.map Node.enc)),.p (.i .i64 n.cap)],.box [.p (.i .i64 tk),.p (.i .i64 0),.p (.s s),.p (.sl rows)],.box zCells,.box [.p (.i .i64 kind),.p (.i .i64 lev),.p (.i .i64 0),.p (.s s),.nils,.nils]]) (by rw[show keepA pg 52=false from h.keep (x:=c52) rfl];simp[exp,expL]) rfl]at h1
 obtain ⟨a,x,y,z,L,l,rfl,q1,q2,q3⟩:=h2
 simp only[zCells]at h1
 have hE:∀ b1 b2 b3 b4:AObj,EV 0 L (b1::b2::b3::b4::O') l:=by
  intro b1 b2 b3 b4
  rcases q2 with ⟨rfl,rfl⟩|⟨k,g,rfl,hk⟩
  ·exact .inl ⟨rfl,rfl⟩
  ·exact .inr ⟨k+4,g,rfl,by simpa using hk⟩
 refine ⟨wv a x y z L w.e,.box [.p (.sl (n.nodes.map Node.enc)),.p (.i .i64 n.cap)]::.box [.p (.i .i64 tk),.p (.i .i64 0),.p (.s s),.p (.sl rows)]::.box (wv a x y z L w.e)::.box [.p (.i .i64 kind),.p (.i .i64 lev),.p (.i .i64 0),.p (.s s),.nils,.nils]::O',?_,⟨a,x,y,z,L,l,rfl,q1,hE _ _ _ _,q3⟩⟩
 rw[h.run (x:=c37) rfl (by decide) (by decide) (by decide) (by decide)]
 rcases ht with ⟨rfl,rfl,rfl⟩|⟨rfl,rfl⟩
 all_goals
  simp only[show ((3:Nat):Int)=3 from rfl,show ((11:Nat):Int)=11 from rfl]at h1 ⊢
  rcases q1 with rfl|⟨r,rfl⟩<;>rcases q2 with ⟨rfl,_⟩|⟨k,g,rfl,_⟩<;>simp only[wv]at h1 ⊢<;>simp[c37,leave,h1]
theorem s37_con (h:Std pg){lev:Nat}{s:List UInt8}{rows:List (List PV)}{n:Net}{w:W}(hr:rows.length≤8)
  (hp:Weaves pg 52 [.ag [.p (.sl (n.nodes.map Node.enc)),.p (.i .i64 n.cap)],.ag [.p (.i .i64 4),.p (.i .i64 0),.p (.s s),.p (.sl rows)],.ag [.p (.i .i64 8),.p (.i .i64 lev),.p (.i .i64 0),.p (.s s),.p (.sl []),.p (.sl (List.replicate (rows.length+1) [iv 0,iv 0]))]] w) :
  Weaves pg 37 [.ag [.p (.sl (n.nodes.map Node.enc)),.p (.i .i64 n.cap)],.ag [.p (.i .i64 4),.p (.i .i64 0),.p (.s s),.p (.sl rows)],.p (.i .i64 lev)] w:=by
 obtain ⟨v,O,hc,hv⟩:=hp
 obtain ⟨v',O',h1,h2⟩:=at_W (pg:=pg) (G:=[.box [.p (.sl (n.nodes.map Node.enc)),.p (.i .i64 n.cap)],.box [.p (.i .i64 4),.p (.i .i64 0),.p (.s s),.p (.sl rows)],.box zCells,.box [.p (.i .i64 8),.p (.i .i64 lev),.p (.i .i64 0),.p (.s s),.nils,.arr 4 (rows.length+1) 0],.arr 2 (List.replicate (rows.length+1) [iv 0,iv 0]) 0 (rows.length+1)]) hc hv rfl
 rw[← at_seal (args:=[.ag [.p (.sl (n.nodes.map Node.enc)),.p (.i .i64 n.cap)],.ag [.p (.i .i64 4),.p (.i .i64 0),.p (.s s),.p (.sl rows)],.ag [.p (.i .i64 8),.p (.i .i64 lev),.p (.i .i64 0),.p (.s s),.nils,.arr 4 (rows.length+1) 0]]) (G:=[.box [.p (.sl (n.nodes.map Node.enc)),.p (.i .i64 n.cap)],.box [.p (.i .i64 4),.p (.i .i64 0),.p (.s s),.p (.sl rows)],.box zCells,.box [.p (.i .i64 8),.p (.i .i64 lev),.p (.i .i64 0),.p (.s s),.nils,.arr 4 (rows.length+1) 0],.arr 2 (List.replicate (rows.length+1) [iv 0,iv 0]) 0 0]) (by
  rw[show keepA pg 52=false from h.keep (x:=c52) rfl]
  have:Nat.max 0 (rows.length+1)=rows.length+1:=Nat.max_eq_right (Nat.zero_le _)
  simp[exp,expL,norm,this]) rfl]at h1
 obtain ⟨a,x,y,z,L,l,rfl,q1,q2,q3⟩:=h2
 simp only[zCells]at h1
 have hE:∀ b1 b2 b3 b4 b5:AObj,EV 0 L (b1::b2::b3::b4::b5::O') l:=by
  intro b1 b2 b3 b4 b5
  rcases q2 with ⟨rfl,rfl⟩|⟨k,g,rfl,hk⟩
  ·exact .inl ⟨rfl,rfl⟩
  ·exact .inr ⟨k+5,g,rfl,by simpa using hk⟩
 refine ⟨wv a x y z L w.e,.box [.p (.sl (n.nodes.map Node.enc)),.p (.i .i64 n.cap)]::.box [.p (.i .i64 4),.p (.i .i64 0),.p (.s s),.p (.sl rows)]::.box (wv a x y z L w.e)::.box [.p (.i .i64 8),.p (.i .i64 lev),.p (.i .i64 0),.p (.s s),.nils,.arr 4 (rows.length+1) 0]::.arr 2 (List.replicate (rows.length+1) [iv 0,iv 0]) 0 (rows.length+1)::O',?_,⟨a,x,y,z,L,l,rfl,q1,hE _ _ _ _ _,q3⟩⟩
 have r1:roomy (rows.length+1) 16=true:=by simp[roomy];omega
 have hw:IntKind.i64.wrap ((rows.length:Int)+1)=(rows.length:Int)+1:=w64 _ (by omega) (by omega)
 have h0:(0:Int)≤(rows.length:Int)+1:=by omega
 have ht:((rows.length:Int)+1).toNat=rows.length+1:=by omega
 rw[h.run (x:=c37) rfl (by decide) (by decide) (by decide) (by decide)]
 rcases q1 with rfl|⟨r,rfl⟩<;>rcases q2 with ⟨rfl,_⟩|⟨k,g,rfl,_⟩<;>simp only[wv]at h1 ⊢<;>simp[c37,leave,okZ2,r1,hw,h0,ht,h1]
def altRow (r:List PV):List PV:=match r with
 |[_,.i .i64 n,.s s,_]=>[.s s,iv n]
 |_=>[]
def c5Heap (n:Net)(lev:Nat)(rows:List (List PV))(i g:Nat):Heap:=[.box [.p (.sl (n.nodes.map Node.enc)),.p (.i .i64 n.cap)],.box [.p (.i .i64 5),.p (.i .i64 0),.p (.s []),.p (.sl rows)],.box zCells,.box [.p (.i .i64 9),.p (.i .i64 lev),.p (.i .i64 0),.p (.s []),.arr 4 (i-1) g,.nils],.arr 2 (((rows.take i).drop 1).map altRow) g 0]
theorem l37 (h:Std pg){body:CCode}(hb:body=c37l0){n:Net}{lev:Nat}{rows:List (List PV)}(hr:rows.length≤9)(hrow:∀ r∈rows,∃ k m s l,r=[iv k,iv m,.s s,.sl l]):∀ m i,2≤i→i+m=rows.length →
  L pg 0 [3,4,6,7,11] body [(3,.ptr 0 0),(4,.ptr 1 0),(6,.ptr 2 0),(7,.ptr 3 0),(11,.p (.i .i64 (i:Nat)))] (c5Heap n lev rows i (i-2)) =
   some (.exit 1,[(3,.ptr 0 0),(4,.ptr 1 0),(6,.ptr 2 0),(7,.ptr 3 0),(11,.p (.i .i64 rows.length)),(89,.p (.b false))],c5Heap n lev rows rows.length (rows.length-2))
 |0,i,h1,hi=>by
  have:i=rows.length:=by omega
  subst this
  rw[k_L hb]
  simp[c37l0,leave,c5Heap]
 |m+1,i,h1,hi=>by
  have hlt:i<rows.length:=by omega
  obtain ⟨k,nn,s,l,hk⟩:=hrow rows[i] (List.getElem_mem hlt)
  have ih:=l37 h hb (n:=n) (lev:=lev) hr hrow m (i+1) (by omega) (by omega)
  rw[show ((i+1:Nat):Int)=(i:Int)+1 from by omega]at ih
  have okr:okRow 4 [iv k,iv nn,.s s,.sl l]=true:=rfl
  have okr2:okRow 2 [.s s,iv nn]=true:=rfl
  have e1:(rows.take (i+1)).drop 1=(rows.take i).drop 1++[rows[i]]:=by
   rw[List.take_add_one,gG hlt,List.drop_append_of_le_length (by simp;omega)]
   rfl
  have e2:i-1+1=i:=by omega
  have e3:i-2+1=i-1:=by omega
  have e4:i+1-1=i:=by omega
  have e5:i+1-2=i-1:=by omega
  have r1:roomy i 24=true:=by simp[roomy];omega
  have hlen:(((rows.take i).drop 1).map altRow).length=i-1:=by simp;omega
  have t1:List.take (i-1) (((rows.take i).drop 1).map altRow)=((rows.take i).drop 1).map altRow:=List.take_of_length_le (by omega)
  have hgi:rows[i]?=some [iv k,iv nn,.s s,.sl l]:=by rw[gG hlt,hk]
  have har:altRow rows[i]=[.s s,iv nn]:=by rw[hk];rfl
  unfold c5Heap at ih ⊢
  rw[e1,e4,e5,List.map_append,List.map_cons,List.map_nil,har]at ih
  generalize hA:((rows.take i).drop 1).map altRow=A at *
  have hle:i-1≤A.length:=by omega
  rw[k_L hb]
  simp[c37l0,leave,hlt,hgi,hk,okr,okr2,okA2,evOp.fillRows,evApp,normP,toPL,toP,okRows,e2,e3,r1,t1,hle,w64 ((i:Int)+1) (by omega) (by omega),zCells,gc,gcEnv,exp,expL,eOs,Exp.id,idxOf,List.range,List.range.loop]
  simp only[zCells]at ih
  rw[ih]
  simp
theorem l37z (h:Std pg){body:CCode}(hb:body=c37l0){n:Net}{lev:Nat}{rows:List (List PV)}(h2:2≤rows.length)(hr:rows.length≤9)(hrow:∀ r∈rows,∃ k m s l,r=[iv k,iv m,.s s,.sl l]) :
  L pg 0 [3,4,6,7,11] body [(3,.ptr 0 0),(4,.ptr 1 0),(6,.ptr 2 0),(7,.ptr 3 0),(11,.p (.i .i64 1))] [.box [.p (.sl (n.nodes.map Node.enc)),.p (.i .i64 n.cap)],.box [.p (.i .i64 5),.p (.i .i64 0),.p (.s []),.p (.sl rows)],.box zCells,.box [.p (.i .i64 9),.p (.i .i64 lev),.p (.i .i64 0),.p (.s []),.nils,.nils]] =
   some (.exit 1,[(3,.ptr 0 0),(4,.ptr 1 0),(6,.ptr 2 0),(7,.ptr 3 0),(11,.p (.i .i64 rows.length)),(89,.p (.b false))],c5Heap n lev rows rows.length (rows.length-2)):=by
 have hlt:1<rows.length:=by omega
 have hlt':(1:Int)<(rows.length:Int):=by omega
 obtain ⟨k,nn,s,l,hk⟩:=hrow rows[1] (List.getElem_mem hlt)
 have ih:=l37 h hb (n:=n) (lev:=lev) hr hrow (rows.length-2) 2 (by omega) (by omega)
 have okr:okRow 4 [iv k,iv nn,.s s,.sl l]=true:=rfl
 have okr2:okRow 2 [.s s,iv nn]=true:=rfl
 have e1:(rows.take 2).drop 1=[rows[1]]:=by
  match rows,hlt with
  |a::b::r,_=>rfl
 have r1:roomy 1 24=true:=by rfl
 have hgi:rows[1]?=some [iv k,iv nn,.s s,.sl l]:=by rw[gG hlt,hk]
 have har:altRow rows[1]=[.s s,iv nn]:=by rw[hk];rfl
 unfold c5Heap at ih ⊢
 rw[e1,List.map_cons,List.map_nil,har]at ih
 simp only[show ((2:Nat):Int)=2 from rfl,zCells,show 2-1=1 from rfl,show 2-2=0 from rfl]at ih ⊢
 rw[k_L hb]
 simp[c37l0,leave,hlt,hlt',hgi,hk,okr,okr2,okA2,evOp.fillRows,evApp,normP,toPL,toP,okRows,r1,w64 2 (by omega) (by omega),zCells,gc,gcEnv,exp,expL,eOs,Exp.id,idxOf,List.range,List.range.loop]
 rw[ih]
 simp
theorem s37_case (h:Std pg){lev:Nat}{rows:List (List PV)}{n:Net}{w:W}(h2:2≤rows.length)(hr:rows.length≤9)(hrow:∀ r∈rows,∃ k m s l,r=[iv k,iv m,.s s,.sl l])
  (hp:Weaves pg 52 [.ag [.p (.sl (n.nodes.map Node.enc)),.p (.i .i64 n.cap)],.ag [.p (.i .i64 5),.p (.i .i64 0),.p (.s []),.p (.sl rows)],.ag [.p (.i .i64 9),.p (.i .i64 lev),.p (.i .i64 0),.p (.s []),.p (.sl ((rows.drop 1).map altRow)),.p (.sl [])]] w) :
  Weaves pg 37 [.ag [.p (.sl (n.nodes.map Node.enc)),.p (.i .i64 n.cap)],.ag [.p (.i .i64 5),.p (.i .i64 0),.p (.s []),.p (.sl rows)],.p (.i .i64 lev)] w:=by
 obtain ⟨v,O,hc,hv⟩:=hp
 have hlen:((rows.drop 1).map altRow).length=rows.length-1:=by simp
 obtain ⟨v',O',h1,h3⟩:=at_W (pg:=pg) (G:=[.box [.p (.sl (n.nodes.map Node.enc)),.p (.i .i64 n.cap)],.box [.p (.i .i64 5),.p (.i .i64 0),.p (.s []),.p (.sl rows)],.box zCells,.box [.p (.i .i64 9),.p (.i .i64 lev),.p (.i .i64 0),.p (.s []),.arr 4 (rows.length-1) (rows.length-2),.nils],.arr 2 ((rows.drop 1).map altRow) (rows.length-2) (rows.length-1)]) hc hv rfl
 rw[← at_seal (args:=[.ag [.p (.sl (n.nodes.map Node.enc)),.p (.i .i64 n.cap)],.ag [.p (.i .i64 5),.p (.i .i64 0),.p (.s []),.p (.sl rows)],.ag [.p (.i .i64 9),.p (.i .i64 lev),.p (.i .i64 0),.p (.s []),.arr 4 (rows.length-1) (rows.length-2),.nils]]) (G:=[.box [.p (.sl (n.nodes.map Node.enc)),.p (.i .i64 n.cap)],.box [.p (.i .i64 5),.p (.i .i64 0),.p (.s []),.p (.sl rows)],.box zCells,.box [.p (.i .i64 9),.p (.i .i64 lev),.p (.i .i64 0),.p (.s []),.arr 4 (rows.length-1) (rows.length-2),.nils],.arr 2 ((rows.drop 1).map altRow) (rows.length-2) 0]) (by
  rw[show keepA pg 52=false from h.keep (x:=c52) rfl]
  have hm:Nat.max 0 (rows.length-1)=rows.length-1:=Nat.max_eq_right (Nat.zero_le _)
  have ht:List.take (rows.length-1) ((rows.drop 1).map altRow)=(rows.drop 1).map altRow:=List.take_of_length_le (by omega)
  generalize (rows.drop 1).map altRow=A at *
  simp[exp,expL,norm,hm,hlen,ht]) rfl]at h1
 obtain ⟨a,x,y,z,L,l,rfl,q1,q2,q3⟩:=h3
 simp only[zCells]at h1
 have hE:∀ b1 b2 b3 b4 b5:AObj,EV 0 L (b1::b2::b3::b4::b5::O') l:=by
  intro b1 b2 b3 b4 b5
  rcases q2 with ⟨rfl,rfl⟩|⟨k,g,rfl,hk⟩
  ·exact .inl ⟨rfl,rfl⟩
  ·exact .inr ⟨k+5,g,rfl,by simpa using hk⟩
 have hL:=l37z (body:=c37l0) h rfl (n:=n) (lev:=lev) h2 hr hrow
 simp only[c5Heap,List.take_length,zCells]at hL
 generalize hA:(rows.drop 1).map altRow=A at *
 refine ⟨wv a x y z L w.e,.box [.p (.sl (n.nodes.map Node.enc)),.p (.i .i64 n.cap)]::.box [.p (.i .i64 5),.p (.i .i64 0),.p (.s []),.p (.sl rows)]::.box (wv a x y z L w.e)::.box [.p (.i .i64 9),.p (.i .i64 lev),.p (.i .i64 0),.p (.s []),.arr 4 (rows.length-1) (rows.length-2),.nils]::.arr 2 A (rows.length-2) (rows.length-1)::O',?_,⟨a,x,y,z,L,l,rfl,q1,hE _ _ _ _ _,q3⟩⟩
 rw[h.run (x:=c37) rfl (by decide) (by decide) (by decide) (by decide)]
 rcases q1 with rfl|⟨r,rfl⟩<;>rcases q2 with ⟨rfl,_⟩|⟨k,g,rfl,_⟩<;>simp only[wv]at h1 ⊢<;>simp[c37,leave,gc,gcEnv,exp,expL,eOs,Exp.id,idxOf,List.range,List.range.loop]<;>rw[hL]<;>simp[leave,h1]
theorem con_ok {lev:Nat}{s:List UInt8}{k:Nat}(hs:s≠[])(hk:k≤8)(h:lev≤60):(Node.mk 8 lev 0 s [] (List.replicate (k+1) ⟨0,0⟩)).ok=true :=
 Node.ok_mk (by omega) rfl (by omega) h (by simp[hs]) (.inl rfl) (fun _=>by simp;omega)
theorem app_ok {lev:Nat}(h:lev≤60):(Node.mk 3 lev 0 [] [] []).ok=true:=Node.ok_mk (by omega) rfl (by omega) h (by simp) (.inl rfl) (by omega)
theorem op_ok {lev:Nat}{s:List UInt8}(hs:s≠[])(h:lev≤60):(Node.mk 11 lev 0 s [] []).ok=true:=Node.ok_mk (by omega) rfl (by omega) h (by simp[hs]) (.inl rfl) (by omega)
theorem case_ok {lev:Nat}{l:List (List UInt8×Nat)}(hl:1≤l.length∧l.length≤8)(ha:altsFrom l 0 l=true)(h:lev≤60):(Node.mk 9 lev 0 [] l []).ok=true :=
 Node.ok_mk (by omega) (by simp[Node.altsOK,ha,hl]) (by omega) h (by simp) (.inl rfl) (by omega)
structure Fits (t:Ct)(f lev:Nat):Prop where
 wf:t.wf f=true
 bd:f+8 * t.size<2 ^ 30
 lv:lev+t.size<2 ^ 30
 sz:t.size<2 ^ 14
def WeaveOK (pg:Prg)(t:Ct):Prop:=∀ (f lev:Nat) (n:Net),Fits t f lev→WI n→Weaves pg 37 [.ag [.p (.sl (n.nodes.map Node.enc)),.p (.i .i64 n.cap)],.ag (pcs t.tm.enc),.p (.i .i64 lev)] (t.weave lev n)∧GoodW t.size (t.weave lev n)
theorem hypB (h:Std pg){s:List UInt8}{rows:List (List PV)}{f lev:Nat}:∀ (l:List Ct) (i:Nat),(∀ t∈l,WeaveOK pg t∧Fits t f (lev+1))→(∀ j t,l[j]?=some t→rows[i+j]?=some t.tm.enc)→i+l.length=rows.length→lev<2 ^ 30 →
  PartsHyp pg 4 0 s rows lev i (Ct.weaveB l lev) (List.range' (i+1) l.length) (l.map Ct.size)
 |[],i,hp,hr,hi,hlev=>by simpa [PartsHyp,Ct.weaveB] using hi
 |a::r,i,hp,hr,hi,hlev=>by
  obtain ⟨ha,hf⟩:=hp a (by simp)
  have hx:=hr 0 a rfl
  obtain ⟨k,m,nm,ll,hen⟩:=a.tm.enc_ex
  simp only[Ct.weaveB,List.length_cons,List.range'_succ,List.map_cons]
  refine ⟨fun n hn=>?_,fun n hn=>boxW_good (ha f (lev+1) n hf hn).2,by simp,hypB h r (i+1) (fun t ht=>hp t (by simp[ht])) (fun j t hj=>?_) (by simp at hi;omega) hlev⟩
  ·obtain ⟨h1,h2⟩:=ha f (lev+1) n hf hn
   rw[hen]at h1 hx
   exact s72b h (by simpa using hx) (.inl rfl) (by omega) h2 (by have:=hf.sz;omega) h1
  ·have:=hr (j+1) t (by simpa using hj)
   rwa [show i+1+j=i+(j+1) from by omega]
theorem hypA (h:Std pg){rows:List (List PV)}{f lev:Nat}:∀ (l:List Ct) (i:Nat),0<i→(∀ t∈l,∃ s k b,t=.alt s k b∧k≤8∧WeaveOK pg b∧Fits b (f+k) lev)→(∀ j t,l[j]?=some t→rows[i+j]?=some t.tm.enc)→i+l.length=rows.length →
  PartsHyp pg 5 0 [] rows lev i (Ct.weaveA l lev) (List.range' (i+1) l.length) (l.map Ct.size)
 |[],i,h0,hp,hr,hi=>by simpa [PartsHyp,Ct.weaveA] using hi
 |a::r,i,h0,hp,hr,hi=>by
  obtain ⟨s,k,b,rfl,hk,hb,hf⟩:=hp a (by simp)
  have hx:=hr 0 _ rfl
  obtain ⟨k',m,nm,ll,hen⟩:=b.tm.enc_ex
  simp only[Ct.weaveA,List.length_cons,List.range'_succ,List.map_cons]
  have hg:∀ n,WI n→GoodW b.size (b.weave lev n):=fun n hn=>(hb (f+k) lev n hf hn).2
  refine ⟨fun n hn=>?_,fun n hn=>(lamsW_good hg k n hn).mono (by simp[Ct.size]),by simp[show i≠0 from by omega],hypA h r (i+1) (by omega) (fun t ht=>hp t (by simp[ht])) (fun j t hj=>?_) (by simp at hi;omega)⟩
  ·simp only[Ct.tm,Tm.enc,Tm.encL,hen]at hx
   refine s72l h (rest:=[]) (by simpa using hx) h0 rfl ?_
   refine s51 h (c:=b.size) (by have:=hf.sz;omega) hg (fun n hn=>?_) k n (by omega) hn
   have:=(hb (f+k) lev n hf hn).1
   rw[hen]at this
   exact this
  ·have:=hr (j+1) t (by simpa using hj)
   rwa [show i+1+j=i+(j+1) from by omega]
theorem sizeL_sum:∀ l:List Ct,Ct.sizeL l=(l.map Ct.size).sum
 |[]=>rfl
 |a::r=>by simp[Ct.sizeL,sizeL_sum r]
theorem wfL_mem {f:Nat}:∀ {l:List Ct},Ct.wfL f l=true→∀ t∈l,t.wf f=true
 |[],h,t,ht=>by simp at ht
 |a::r,h,t,ht=>by
  simp only[Ct.wfL,Bool.and_eq_true]at h
  rcases List.mem_cons.1 ht with rfl|ht
  ·exact h.1
  ·exact wfL_mem h.2 t ht
theorem wfA_mem {f:Nat}:∀ {l:List Ct},Ct.wfA f l=true→∀ t∈l,∃ s k b,t=.alt s k b∧isCon s=true∧b.wf (f+k)=true
 |[],h,t,ht=>by simp at ht
 |a::r,h,t,ht=>by
  cases a with
  |alt s k b =>
   simp only[Ct.wfA,Bool.and_eq_true]at h
   rcases List.mem_cons.1 ht with rfl|ht
   ·exact ⟨s,k,b,rfl,h.1.1,h.1.2⟩
   ·exact wfA_mem h.2 t ht
  |_=>simp[Ct.wfA]at h
theorem mem_size {l:List Ct}{t:Ct}(h:t∈l):t.size≤Ct.sizeL l:=by
 induction l with
 |nil=>simp at h
 |cons a r ih =>
  simp only[Ct.sizeL]
  rcases List.mem_cons.1 h with rfl|h
  ·omega
  ·have:=ih h;omega
theorem altsFrom_le8 {all:List (List UInt8×Nat)}:∀ {l:List (List UInt8×Nat)} {i:Nat},altsFrom all i l=true→∀ a∈l,a.2≤8
 |[],i,h,a,ha=>by simp at ha
 |x::r,i,h,a,ha=>by
  simp only[altsFrom,Bool.and_eq_true,decide_eq_true_eq]at h
  rcases List.mem_cons.1 ha with rfl|ha
  ·exact h.1.1.2
  ·exact altsFrom_le8 h.2 a ha
theorem hyp2 (h:Std pg){tk:Int}{s:List UInt8}{a b:Ct}{f lev la:Nat}(ha:WeaveOK pg a∧Fits a f lev)(hb:WeaveOK pg b∧Fits b f la)(hk:(tk=3∧la=lev+1)∨(tk=8∧la=lev))(hlev:lev<2 ^ 30) :
  PartsHyp pg tk 0 s [a.tm.enc,b.tm.enc] lev 0 [a.weave lev,if tk=3 then (fun n=>boxW lev (b.weave la n)) else b.weave la] [0,2] [a.size,b.size]:=by
 obtain ⟨k,m,nm,ll,hen⟩:=a.tm.enc_ex
 obtain ⟨k',m',nm',ll',hen'⟩:=b.tm.enc_ex
 have h4:tk≠4:=by omega
 refine ⟨fun n hn=>?_,fun n hn=>(ha.1 f lev n ha.2 hn).2,by simp[h4],fun n hn=>?_,fun n hn=>?_,by simp,by simp[PartsHyp]⟩
 ·have:=(ha.1 f lev n ha.2 hn).1
  rw[hen]at this
  exact s72p h (by rw[hen];rfl) h4 (by omega) (by omega) this
 ·obtain ⟨h1,h2⟩:=hb.1 f la n hb.2 hn
  rw[hen']at h1
  rcases hk with ⟨rfl,rfl⟩|⟨rfl,rfl⟩
  ·rw[if_pos rfl]
   exact s72b h (by rw[hen'];rfl) (.inr ⟨rfl,rfl⟩) (by omega) h2 (by have:=hb.2.sz;omega) h1
  ·rw[if_neg (by decide)]
   exact s72p h (by rw[hen'];rfl) h4 (by omega) (by omega) h1
 ·have h2:=(hb.1 f la n hb.2 hn).2
  split
  ·exact boxW_good h2
  ·exact h2
theorem Ct.altRow_enc {l:List Ct}{f:Nat}(hw:Ct.wfA f l=true):((Ct.tmL l).map Tm.enc).map altRow=(l.map altOf).map encAr:=by
 rw[Ct.tmL_map,List.map_map,List.map_map,List.map_map]
 refine List.map_congr_left fun t ht=>?_
 obtain ⟨s,k,b,rfl,_,_⟩:=wfA_mem hw t ht
 simp[Ct.tm,Tm.enc,altRow,altOf,encAr]
theorem size_pos (t:Ct):1≤t.size:=by cases t<;>simp[Ct.size]
theorem weaves_le (h:Std pg):∀ (k:Nat) (t:Ct),t.size≤k→WeaveOK pg t
 |0,t,hk=>by have:=size_pos t;omega
 |k+1,t,hk=>by
  intro f lev n hF hn
  have hwf:=hF.wf
  have hbd:=hF.bd
  have hlv:=hF.lv
  have hsz:=hF.sz
  cases t with
  |var i =>
   refine ⟨s37_var h hn,?_⟩
   simp only[Ct.wf,decide_eq_true_eq]at hwf
   unfold Ct.weave
   exact leafW_good hn (by simp) (leaf_ok (.inl rfl) 0 rfl) (fun s=>⟨by simp[Ct.size],by intro e he;simp at he;subst he;dsimp only;omega⟩)
  |int v =>
   refine ⟨s37_int h hn,?_⟩
   unfold Ct.weave
   exact leafW_good hn (by simp) (int_ok v) (fun s=>⟨by simp,by simp⟩)
  |fail =>
   refine ⟨s37_fail h hn,?_⟩
   unfold Ct.weave
   exact leafW_good hn (by simp) (leaf_ok (.inr rfl) 0 rfl) (fun s=>⟨by simp,by simp⟩)
  |alt s m b=>simp[Ct.wf]at hwf
  |lam b =>
   simp only[Ct.wf]at hwf
   simp only[Ct.size]at hbd hlv hsz hk
   have ihb:=weaves_le h k b (by omega)
   have hfb:Fits b (f+1) lev:=⟨hwf,by omega,by omega,by omega⟩
   have hg:∀ n,WI n→GoodW b.size (b.weave lev n):=fun n hn=>(ihb (f+1) lev n hfb hn).2
   unfold Ct.weave
   refine ⟨s37_lam h ?_,(lamsW_good hg 1 n hn).mono (by simp[Ct.size])⟩
   obtain ⟨k',m,nm,ll,hen⟩:=b.tm.enc_ex
   have:=s51 h (c:=b.size) (by omega) hg (tk:=k') (tn:=m) (ts:=nm) (tl:=ll) (lev:=lev) (fun n hn=>by
    have:=(ihb (f+1) lev n hfb hn).1
    rw[hen]at this
    exact this) 1 n (by omega) hn
   rw[hen]
   exact this
  |app a b =>
   simp only[Ct.wf,Bool.and_eq_true]at hwf
   simp only[Ct.size]at hbd hlv hsz hk
   have hfa:Fits a f lev:=⟨hwf.1,by omega,by omega,by omega⟩
   have hfb:Fits b f (lev+1):=⟨hwf.2,by omega,by omega,by omega⟩
   have hP:=hyp2 (tk:=3) (s:=[]) h ⟨weaves_le h k a (by omega),hfa⟩ ⟨weaves_le h k b (by omega),hfb⟩ (.inl ⟨rfl,rfl⟩) (by omega)
   rw[if_pos rfl]at hP
   unfold Ct.weave
   refine ⟨s37_two h (kind:=3) (.inl ⟨rfl,rfl,rfl⟩) ?_,?_⟩
   ·exact s52 h (x:=⟨3,lev,0,[],[],[]⟩) (by simp[Tm.encL]) hn (by simp) app_ok rfl hP (by simp;omega)
   ·exact (nodeW_good (x:=⟨3,lev,0,[],[],[]⟩) hn (by simp) app_ok hP).mono (by simp[Ct.size])
  |op s a b =>
   simp only[Ct.wf,Bool.and_eq_true]at hwf
   simp only[Ct.size]at hbd hlv hsz hk
   have hfa:Fits a f lev:=⟨hwf.1.2,by omega,by omega,by omega⟩
   have hfb:Fits b f lev:=⟨hwf.2,by omega,by omega,by omega⟩
   have hP:=hyp2 (tk:=8) (s:=s) h ⟨weaves_le h k a (by omega),hfa⟩ ⟨weaves_le h k b (by omega),hfb⟩ (.inr ⟨rfl,rfl⟩) (by omega)
   rw[if_neg (by decide)]at hP
   have hne:=isOp_ne hwf.1.1
   unfold Ct.weave
   refine ⟨s37_two h (kind:=11) (.inr ⟨rfl,rfl⟩) ?_,?_⟩
   ·exact s52 h (x:=⟨11,lev,0,s,[],[]⟩) (by simp[Tm.encL]) hn (by simp) (op_ok hne) rfl hP (by simp;omega)
   ·exact (nodeW_good (x:=⟨11,lev,0,s,[],[]⟩) hn (by simp) (op_ok hne) hP).mono (by simp[Ct.size])
  |con s l =>
   simp only[Ct.wf,Bool.and_eq_true,decide_eq_true_eq]at hwf
   obtain ⟨⟨w1,w2⟩,w3⟩:=hwf
   simp only[Ct.size]at hbd hlv hsz hk
   have hrl:((Ct.tmL l).map Tm.enc).length=l.length:=by rw[Ct.tmL_map];simp
   have hmem:∀ t∈l,WeaveOK pg t∧Fits t f (lev+1):=fun t ht=>by
    have:=mem_size ht
    exact ⟨weaves_le h k t (by omega),⟨wfL_mem w3 t ht,by omega,by omega,by omega⟩⟩
   have hP:=hypB h (s:=s) (rows:=(Ct.tmL l).map Tm.enc) (f:=f) (lev:=lev) l 0 hmem (fun j t hj=>by
    rw[Ct.tmL_map,List.map_map,Nat.zero_add,List.getElem?_map,hj];rfl) (by omega) (by omega)
   have hne:=isCon_ne w1
   have hok:lev≤60→(Node.mk 8 lev 0 s [] (List.replicate (l.length+1) ⟨0,0⟩)).ok=true:=con_ok hne w2
   have hto:(List.replicate (l.length+1) (⟨0,0⟩:Port)).map Port.enc=List.replicate (l.length+1) [iv 0,iv 0]:=by
    rw[List.map_replicate];rfl
   unfold Ct.weave
   refine ⟨?_,?_⟩
   ·have:=s52 h (x:=⟨8,lev,0,s,[],List.replicate (l.length+1) ⟨0,0⟩⟩) (by omega) hn (by simp) hok (by rw[weaveB_len,hrl]) hP (by rw[← sizeL_sum];omega)
    rw[if_pos rfl]at this
    simp only[hto]at this
    have h3:=s37_con h (by omega) (lev:=lev) (s:=s) (rows:=(Ct.tmL l).map Tm.enc) (n:=n) (by rw[hrl];exact this)
    simp only[Ct.tm,Tm.enc,Tm.encL_map,pcs,List.map_cons,List.map_nil]
    exact h3
   ·exact (nodeW_good (x:=⟨8,lev,0,s,[],List.replicate (l.length+1) ⟨0,0⟩⟩) hn (by simp) hok hP).mono (by rw[← sizeL_sum];simp[Ct.size])
  |case a l =>
   simp only[Ct.wf,Bool.and_eq_true,decide_eq_true_eq]at hwf
   obtain ⟨⟨⟨w1,w2⟩,w3⟩,w4⟩:=hwf
   simp only[Ct.size]at hbd hlv hsz hk
   have hrl:((a.tm::Ct.tmL l).map Tm.enc).length=l.length+1:=by rw[Ct.tmL_map];simp
   have ha:=weaves_le h k a (by omega)
   have hfa:Fits a f lev:=⟨w1,by omega,by omega,by omega⟩
   have hmem:∀ t∈l,∃ s k b,t=.alt s k b∧k≤8∧WeaveOK pg b∧Fits b (f+k) lev:=fun t ht=>by
    have hs:=mem_size ht
    obtain ⟨s,m,b,rfl,c1,c2⟩:=wfA_mem w4 t ht
    have h8:=altsFrom_le8 w3 (s,m) (List.mem_map.2 ⟨_,ht,rfl⟩)
    simp only[Ct.size]at hs
    exact ⟨s,m,b,rfl,h8,weaves_le h k b (by omega),⟨c2,by omega,by omega,by omega⟩⟩
   have hPA:=hypA h (rows:=(a.tm::Ct.tmL l).map Tm.enc) (f:=f) (lev:=lev) l 1 (by omega) hmem (fun j t hj=>by
    rw[Nat.add_comm,List.map_cons,List.getElem?_cons_succ,Ct.tmL_map,List.map_map,List.getElem?_map,hj];rfl) (by omega)
   obtain ⟨k',m,nm,ll,hen⟩:=a.tm.enc_ex
   have hP:PartsHyp pg 5 0 [] ((a.tm::Ct.tmL l).map Tm.enc) lev 0 (a.weave lev::Ct.weaveA l lev) (0::List.range' 2 l.length) (a.size::l.map Ct.size):=by
    refine ⟨fun n hn=>?_,fun n hn=>(ha f lev n hfa hn).2,by simp,hPA⟩
    have:=(ha f lev n hfa hn).1
    rw[hen]at this
    exact s72p h (by rw[List.map_cons,hen];rfl) (by decide) (by omega) (by omega) this
   have hok:lev≤60→(Node.mk 9 lev 0 [] (l.map altOf) []).ok=true:=case_ok (by simpa using w2) w3
   unfold Ct.weave
   refine ⟨?_,?_⟩
   ·have:=s52 h (x:=⟨9,lev,0,[],l.map altOf,[]⟩) (by omega) hn (by simp) hok (by simp[weaveA_len,Ct.tmL_map]) hP (by rw[List.sum_cons,← sizeL_sum];omega)
    rw[if_neg (by decide)]at this
    have hdrop:(((a.tm::Ct.tmL l).map Tm.enc).drop 1).map altRow=(l.map altOf).map encAr:=by
     rw[List.map_cons,List.drop_succ_cons,List.drop_zero]
     exact Ct.altRow_enc w4
    have h3:=s37_case h (lev:=lev) (rows:=(a.tm::Ct.tmL l).map Tm.enc) (n:=n) (by omega) (by omega) (fun r hr=>by
     obtain ⟨t,_,rfl⟩:=List.mem_map.1 hr
     exact t.enc_ex) (by rw[hdrop];exact this)
    simp only[Ct.tm,Tm.enc,Tm.encL_map,pcs,List.map_cons,List.map_nil]at h3 ⊢
    exact h3
   ·exact (nodeW_good (x:=⟨9,lev,0,[],l.map altOf,[]⟩) hn (by simp) hok hP).mono (by rw[List.sum_cons,← sizeL_sum];simp[Ct.size])
theorem net0_wi {most:Nat}(h:2≤most∧most≤4000):WI (net0 most):=by
 refine ⟨by simp[net0];omega,fun i x hx=>?_⟩
 have hm:=List.mem_of_getElem? hx
 simp only[net0,List.mem_cons,List.not_mem_nil,or_false]at hm
 subst hm
 simp
theorem s20 (h:Std pg){most:Nat}{tk tn:Int}{ts:List UInt8}{tl:List (List PV)}{w:W}(hm:2≤most∧most≤4000)(hmay:∀ G,eCA pg (E pg) 18 [.ag [.p (.i .i64 tk),.p (.i .i64 tn),.p (.s ts),.p (.sl tl)],.p (.i .i64 0)] G=some (.ret (.p (.b true)),G))
  (hw:w.e=0→WI w.n) (hp:Weaves pg 37 [.ag [.p (.sl ((net0 most).nodes.map Node.enc)),.p (.i .i64 (net0 most).cap)],.ag [.p (.i .i64 tk),.p (.i .i64 tn),.p (.s ts),.p (.sl tl)],.p (.i .i64 (0:Nat))] w) :
  E pg 20 [.ag [.p (.i .i64 tk),.p (.i .i64 tn),.p (.s ts),.p (.sl tl)],.p (.i .i64 most)] [] =
   some (.ret (.tup [if w.e=0 then .ag [.p (.sl ((w.n.rlink w.out ⟨0,0⟩).nodes.map Node.enc)),.p (.i .i64 (w.n.rlink w.out ⟨0,0⟩).cap)] else .ag [.p (.sl []),.p (.i .i64 0)],.p (.i .i64 w.e)]),[]):=by
 obtain ⟨v,O,hc,hv⟩:=hp
 have hnode:(net0 most).nodes.map Node.enc=[[iv 1,iv 0,iv 0,.s [],.sl [],.sl [[iv 0,iv 0]]]]:=rfl
 have hcap:(net0 most).cap=most:=rfl
 rw[hnode,hcap]at hc
 simp only[show ((0:Nat):Int)=0 from rfl]at hc
 obtain ⟨v',O',h1,h2⟩:=at_W (pg:=pg) (G:=[.box [.p (.i .i64 tk),.p (.i .i64 tn),.p (.s ts),.p (.sl tl)],.box [.nils,.p (.i .i64 0)],.arr 2 [[iv 0,iv 0]] 0 1,.arr 6 [[iv 1,iv 0,iv 0,.s [],.sl [],.sl [[iv 0,iv 0]]]] 0 1]) hc hv rfl
 rw[← at_seal (args:=[.ag [.arr 3 1 0,.p (.i .i64 most)],.ag [.p (.i .i64 tk),.p (.i .i64 tn),.p (.s ts),.p (.sl tl)],.p (.i .i64 0)]) (G:=[.box [.p (.i .i64 tk),.p (.i .i64 tn),.p (.s ts),.p (.sl tl)],.box [.nils,.p (.i .i64 0)],.arr 2 [[iv 0,iv 0]] 0 1,.arr 6 [[iv 1,iv 0,iv 0,.s [],.sl [],.sl [[iv 0,iv 0]]]] 0 0]) (by
  rw[show keepA pg 37=false from h.keep (x:=c37) rfl]
  simp[exp,expL,norm,Nat.max]) rfl]at h1
 obtain ⟨a,x,y,z,L,l,rfl,q1,q2,q3⟩:=h2
 have c1:¬ (most:Int)<2:=by omega
 have c2:¬ (4000:Int)<most:=by omega
 have c1':¬ most<2:=by omega
 have c2':¬ 4000<most:=by omega
 rw[h.run (x:=c20) rfl (by decide) (by decide) (by decide) (by decide)]
 by_cases he:w.e=0
 ·obtain ⟨rfl,rfl,rfl,rfl,rfl⟩:=q3 he
  have e38:=fun G=>t38 (G:=G) (p:=w.out) (q:=⟨0,0⟩) h (hw he).tiny
  have hcl:=Net.rlink_cap w.n w.out ⟨0,0⟩
  simp only[hcl,show ((0:Nat):Int)=0 from rfl]at e38
  rw[if_pos he,hcl]
  generalize w.n.rlink w.out ⟨0,0⟩=n1 at *
  rw[he]at h1 ⊢
  rcases q2 with ⟨rfl,_⟩|⟨k,g,rfl,_⟩<;>simp only[wv,show ((0:Nat):Int)=0 from rfl]at h1 ⊢<;>simp[c20,leave,hmay,c1,c2,c1',c2',okZ2,okZ6,okW,evOp.fillRows,normP,toPL,toP,Nat.max,h1,ge0,gs0,t39 h,k39 h,e38]
 ·have he':¬ (w.e:Int)=0:=by omega
  have hbq:(O'.length+1+1+1+1).beq 1=false:=rfl
  rw[if_neg he]
  rcases q1 with rfl|⟨r,rfl⟩<;>rcases q2 with ⟨rfl,_⟩|⟨k,g,rfl,_⟩<;>simp only[wv]at h1 ⊢<;>simp[c20,leave,hmay,c1,c2,c1',c2',okZ2,okZ6,okW,evOp.fillRows,normP,toPL,toP,Nat.max,h1,ge0,gs0,he,he',hbq]
theorem t20 (h:Std pg){most:Nat}{t:Ct}(hm:2≤most∧most≤4000)(hf:Fits t 0 0)(hmay:∀ G,eCA pg (E pg) 18 [.ag (pcs t.tm.enc),.p (.i .i64 0)] G=some (.ret (.p (.b true)),G)) :
  eCA pg (E pg) 20 [.ag (pcs t.tm.enc),.p (.i .i64 most)] G=some (.ret (.tup [.ag [.p (.sl (((t.net most).1).nodes.map Node.enc)),.p (.i .i64 ((t.net most).1).cap)],.p (.i .i64 (t.net most).2)]),G):=by
 obtain ⟨h1,h2⟩:=weaves_le h t.size t (Nat.le_refl _) 0 0 (net0 most) hf (net0_wi hm)
 obtain ⟨k,n,s,l,he⟩:=t.tm.enc_ex
 rw[he]at h1 hmay ⊢
 have:=s20 h hm hmay (fun e=>(h2 e).1) h1
 refine at_pure ?_ (by rfl) (by rfl)
 simp only[pcs,List.map_cons,List.map_nil]
 rw[this]
 unfold Ct.net
 by_cases e:(t.weave 0 (net0 most)).e=0
 ·rw[if_pos e,if_pos e,e]
 ·rw[if_neg e,if_neg e]
  rfl
end Go.Proofs.Z
end
section
namespace Go.Proofs.Z
open Go Go.Proofs
def fx0:List UInt8:=[67,111,110,115,32,40,49,32,43,32,49,41,32,78,105,108]
def ft0:List AV:=[
.p (.i .i64 6),.p (.s [67,111,110,115]),.p (.i .i64 0),.p (.i .i64 0),.p (.sl [[.i .i64 10,.s [43],.i .i64 0,.i .i64 6,.sl [[.i .i64 9,.s [],.i .i64 1,.i .i64 6,.sl []],[.i .i64 9,.s [],.i .i64 1,.i .i64 10,.sl []]]],[.i .i64 6,.s [78,105,108],.i .i64 0,.i .i64 13,.sl []]])]
def fc0:Ct:=(.con [67,111,110,115] [(.op [43] (.int 1) (.int 1)),(.con [78,105,108] [])])
def fx1:List UInt8:=[108,101,116,32,120,32,61,32,50,32,42,32,51,32,105,110,32,67,111,110,115,32,120,32,40,67,111,110,115,32,120,32,120,41]
def ft1:List AV:=[
.p (.i .i64 4),.p (.s [120]),.p (.i .i64 0),.p (.i .i64 0),.p (.sl [[.i .i64 10,.s [42],.i .i64 0,.i .i64 8,.sl [[.i .i64 9,.s [],.i .i64 2,.i .i64 8,.sl []],[.i .i64 9,.s [],.i .i64 3,.i .i64 12,.sl []]]],[.i .i64 6,.s [67,111,110,115],.i .i64 0,.i .i64 17,.sl [[.i .i64 1,.s [120],.i .i64 0,.i .i64 22,.sl []],[.i .i64 6,.s [67,111,110,115],.i .i64 0,.i .i64 25,.sl [[.i .i64 1,.s [120],.i .i64 0,.i .i64 30,.sl []],[.i .i64 1,.s [120],.i .i64 0,.i .i64 32,.sl []]]]]]])]
def fc1:Ct:=(.app (.lam (.con [67,111,110,115] [(.var 0),(.con [67,111,110,115] [(.var 0),(.var 0)])])) (.op [42] (.int 2) (.int 3)))
def fx2:List UInt8:=[92,120,46,32,120]
def ft2:List AV:=[
.p (.i .i64 2),.p (.s [120]),.p (.i .i64 0),.p (.i .i64 0),.p (.sl [[.i .i64 1,.s [120],.i .i64 0,.i .i64 4,.sl []]])]
def fc2:Ct:=(.lam (.var 0))
def fx3:List UInt8:=[108,101,116,114,101,99,32,117,32,61,32,92,110,46,32,99,97,115,101,32,110,32,60,32,49,32,111,102,32,123,32,84,114,117,101,32,45,62,32,78,105,108,32,124,32,70,97,108,115,101,32,45,62,32,67,111,110,115,32,110,32,40,117,32,40,110,32,45,32,49,41,41,32,125,32,105,110,32,117,32,48]
def ft3:List AV:=[
.p (.i .i64 5),.p (.s [117]),.p (.i .i64 0),.p (.i .i64 0),.p (.sl [[.i .i64 2,.s [110],.i .i64 0,.i .i64 11,.sl [[.i .i64 7,.s [],.i .i64 0,.i .i64 15,.sl [[.i .i64 10,.s [60],.i .i64 0,.i .i64 20,.sl [[.i .i64 1,.s [110],.i .i64 0,.i .i64 20,.sl []],[.i .i64 9,.s [],.i .i64 1,.i .i64 24,.sl []]]],[.i .i64 8,.s [84,114,117,101],.i .i64 0,.i .i64 31,.sl [[.i .i64 6,.s [78,105,108],.i .i64 0,.i .i64 39,.sl []]]],[.i .i64 8,.s [70,97,108,115,101],.i .i64 0,.i .i64 45,.sl [[.i .i64 6,.s [67,111,110,115],.i .i64 0,.i .i64 54,.sl [[.i .i64 1,.s [110],.i .i64 0,.i .i64 59,.sl []],[.i .i64 3,.s [],.i .i64 0,.i .i64 62,.sl [[.i .i64 1,.s [117],.i .i64 0,.i .i64 62,.sl []],[.i .i64 10,.s [45],.i .i64 0,.i .i64 65,.sl [[.i .i64 1,.s [110],.i .i64 0,.i .i64 65,.sl []],[.i .i64 9,.s [],.i .i64 1,.i .i64 69,.sl []]]]]]]]]]]]]],[.i .i64 3,.s [],.i .i64 0,.i .i64 78,.sl [[.i .i64 1,.s [117],.i .i64 0,.i .i64 78,.sl []],[.i .i64 9,.s [],.i .i64 0,.i .i64 80,.sl []]]]])]
def fc3:Ct:=(.app (.lam (.app (.var 0) (.int 0))) (.app (.lam (.app (.lam (.app (.var 1) (.app (.var 0) (.var 0)))) (.lam (.app (.var 1) (.app (.var 0) (.var 0)))))) (.lam (.lam (.case (.op [60] (.var 0) (.int 1)) [(.alt [84,114,117,101] 0 (.con [78,105,108] [])),(.alt [70,97,108,115,101] 0 (.con [67,111,110,115] [(.var 0),(.app (.var 1) (.op [45] (.var 0) (.int 1)))]))])))))
end Go.Proofs.Z
end
