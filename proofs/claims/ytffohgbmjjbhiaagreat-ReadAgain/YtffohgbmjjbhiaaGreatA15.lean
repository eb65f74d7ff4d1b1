/- A part of the proof. -/
import Derived.Test.YtffohgbmjjbhiaaGreatA14
import Derived.Test.YtffohgbmjjbhiaaGreatA11
set_option linter.all false
section
namespace Go.Proofs.Z
open Go Go.Proofs
attribute [local simp] k_nil k_ops k_opsg kG_true kG_false kO_val kO_pan k_seq kS_n kS_r kS_e kS_p k_o kR_n kR_p kD2_n kD1_n k_d k_c kC_t kC_f k_b kB_n kB_r kB_p kB_e k_skip k_ret k_exit k_l kL_s kLp_n kLp_r kLp_e kLp_p k_f kF_n kF_r kF_p kV_f kV_t kN_s evOp evBin gOK opd opds lk put restr iEv evRes whole norm normL one Out.below below belowL bOb evStore evLoad evLen AV.cells AV.flat PV.flat splice fillAt pcs isStr rowsOf Res.of evCmp lvE leafEq asInt noIdAt noId noIdL tids chkOK
variable {pg:Prg}{G:Heap}
def PlanOK (p:Plan)(x y:Node):Prop :=
 (p.kind=1∧x.kind=3∧y.kind=2)∨(p.kind=6∧x.kind=y.kind∧cls x.kind=3) ∨
 (p.kind=2∧x.kind=9∧y.kind=8∧pickAt x y=some p.alt)∨(p.kind=3∧x.kind=11∧y.kind=10) ∨
 (p.kind=4∧x.kind=12∧y.kind=10∧∃ z,outNode x y=some z∧p.node={ z with lev:=x.lev }) ∨
 (p.kind=5∧cls x.kind=1∧cls y.kind=2)∨(p.kind=7∧cls x.kind=3∧2≤y.kind∧p.lev=passLev x y∧passLev x y≤60)∨(p.kind=8∧x.kind=7∧2≤y.kind)
theorem cls_two {k:Nat}(h:cls k≠0):2≤k:=by
 unfold cls at h
 split at h
 ·omega
 ·split at h
  ·omega
  ·split at h
   ·omega
   ·split at h
    ·omega
    ·exact absurd rfl h
theorem rulePass_ok {x y:Node}(h:(rulePass x y).2=0)(hx:cls x.kind=3)(hy:2≤y.kind):(rulePass x y).1.swap=false∧PlanOK (rulePass x y).1 x y:=by
 unfold rulePass at h ⊢
 split
 ·rename_i c;rw[if_pos c]at h;cases h
 ·rename_i c
  rw[if_neg c]at h
  split
  ·rename_i c2;rw[if_pos c2]at h;cases h
  ·rename_i c2
   refine ⟨rfl,?_⟩
   unfold PlanOK
   exact .inr (.inr (.inr (.inr (.inr (.inr (.inl ⟨rfl,hx,hy,rfl,by omega⟩))))))
theorem ruleAsk_ok {x y:Node}(h:(ruleAsk x y).2=0)(hx:cls x.kind=1)(hy:cls y.kind=2):(ruleAsk x y).1.swap=false∧PlanOK (ruleAsk x y).1 x y:=by
 unfold ruleAsk at h ⊢
 unfold PlanOK
 split
 ·rename_i c
  rw[if_pos c]at h
  split
  ·exact ⟨rfl,.inl ⟨rfl,c⟩⟩
  ·rename_i c2;rw[if_neg c2]at h;cases h
 ·rename_i c
  rw[if_neg c]at h
  split
  ·rename_i c2
   rw[if_pos c2]at h
   unfold rulePick at h ⊢
   split
   ·rename_i c3
    rw[if_pos c3]at h
    split
    ·exact ⟨rfl,.inr (.inr (.inr (.inr (.inr (.inl ⟨rfl,hx,hy⟩)))))⟩
    ·rename_i k hk
     exact ⟨rfl,.inr (.inr (.inl ⟨rfl,c2.1,c2.2,hk⟩))⟩
   ·rename_i c3;rw[if_neg c3]at h;cases h
  ·rename_i c2
   rw[if_neg c2]at h
   split
   ·rename_i c3
    exact ⟨rfl,.inr (.inr (.inr (.inl ⟨rfl,c3⟩)))⟩
   ·split
    ·rename_i c4
     unfold ruleOut
     split
     ·exact ⟨rfl,.inr (.inr (.inr (.inr (.inr (.inl ⟨rfl,hx,hy⟩)))))⟩
     ·rename_i z hz
      exact ⟨rfl,.inr (.inr (.inr (.inr (.inl ⟨rfl,c4.1,c4.2,z,hz,rfl⟩))))⟩
    ·exact ⟨rfl,.inr (.inr (.inr (.inr (.inr (.inl ⟨rfl,hx,hy⟩)))))⟩
theorem swapped_ok {r:Plan×Nat}{x y:Node}(h:(swapped r).2=0)(hr:r.2=0→PlanOK r.1 x y):(swapped r).1.swap=true∧PlanOK (swapped r).1 x y:=by
 unfold swapped at h ⊢
 by_cases c:r.2=0
 ·rw[if_pos c]
  exact ⟨rfl,hr c⟩
 ·rw[if_neg c]at h
  exact absurd h c
theorem cls4 {k:Nat}(h:cls k=4):k=7:=by
 unfold cls at h
 split at h
 ·omega
 ·split at h
  ·omega
  ·split at h
   ·omega
   ·split at h
    ·assumption
    ·omega
theorem plan_ok {x y:Node}(h:(ruleOf x y).2=0):PlanOK (ruleOf x y).1 (if (ruleOf x y).1.swap then y else x) (if (ruleOf x y).1.swap then x else y):=by
 have ns:∀ {p:Plan},p.swap=false→PlanOK p x y→PlanOK p (if p.swap then y else x) (if p.swap then x else y):=by
  intro p hp ho;rw[hp];exact ho
 have ys:∀ {p:Plan},p.swap=true→PlanOK p y x→PlanOK p (if p.swap then y else x) (if p.swap then x else y):=by
  intro p hp ho;rw[hp];exact ho
 unfold ruleOf at h ⊢
 split
 ·rename_i c;rw[if_pos c]at h;cases h
 ·rename_i c0
  rw[if_neg c0]at h
  rw[not_or]at c0
  have kx:=cls_two c0.1
  have ky:=cls_two c0.2
  split
  ·rename_i c1
   exact ns rfl (.inr (.inr (.inr (.inr (.inr (.inr (.inr ⟨rfl,cls4 c1,ky⟩)))))))
  ·rename_i c1
   rw[if_neg c1]at h
   split
   ·rename_i c2
    rw[if_pos c2]at h
    have:=swapped_ok (x:=y) (y:=x) h (fun _=>.inr (.inr (.inr (.inr (.inr (.inr (.inr ⟨rfl,cls4 c2,kx⟩)))))))
    exact ys this.1 this.2
   ·rename_i c2
    rw[if_neg c2]at h
    split
    ·rename_i c3
     exact ns rfl (.inr (.inl ⟨rfl,c3.2.2.2,c3.1⟩))
    ·rename_i c3
     rw[if_neg c3]at h
     split
     ·rename_i c4
      rw[if_pos c4]at h
      have:=rulePass_ok h c4.1 ky
      exact ns this.1 this.2
     ·rename_i c4
      rw[if_neg c4]at h
      split
      ·rename_i c5
       rw[if_pos c5]at h
       have:=swapped_ok (x:=y) (y:=x) h (fun e=>(rulePass_ok e c5 kx).2)
       exact ys this.1 this.2
      ·rename_i c5
       rw[if_neg c5]at h
       split
       ·rename_i c6
        rw[if_pos c6]at h
        have:=ruleAsk_ok h c6.1 c6.2
        exact ns this.1 this.2
       ·rename_i c6
        rw[if_neg c6]at h
        split
        ·rename_i c7
         rw[if_pos c7]at h
         have:=swapped_ok (x:=y) (y:=x) h (fun e=>(ruleAsk_ok e c7.2 c7.1).2)
         exact ys this.1 this.2
        ·rename_i c7
         rw[if_neg c7]at h
         cases h
def Net.actD (n:Net)(p:Plan)(a b:Nat)(x y:Node):Net :=
 if p.kind=1∨p.kind=6 then n.joins ((psF a 1 (x.to.length-1)).zip (psF b 1 (x.to.length-1)))
 else if p.kind=2 then n.pick a b p.alt x ((x.alts[p.alt]?).getD ([],0)).2 else if p.kind=3 then n.half a b x y else if p.kind=4 then n.out a p.node
 else if p.kind=5 then n.fail a b x y else if p.kind=7 then n.pass a b x y p.lev else n.dropAll b x.lev y
def need2 (p:Plan)(x y:Node):Nat :=
 if p.kind=2 then (match x.alts[p.alt]? with
  |some c=>c.2+x.alts.length-1
  |none=>0)
 else if p.kind=3∨p.kind=4 then 1 else if p.kind=5 then 1+(x.others-1)+y.others else if p.kind=7 then (if x.kind=4 then 2 else 1)+y.others
 else if p.kind=8 then y.others else 0
theorem need_eq (p:Plan)(a b:Node):p.need a b=need2 p (if p.swap then b else a) (if p.swap then a else b):=rfl
theorem Net.Ok.ports_of {n:Net}(h:n.Ok){i:Nat}{x:Node}(hx:n.nodes[i]?=some x){k:Nat}(hk:x.kind=k)(h8:k≠8)(h9:k≠9):x.to.length=kindPorts k:=by
 rw[(h.node i x hx).2.1]
 unfold Node.ports
 rw[hk,if_neg h8,if_neg h9]
theorem cls3 {k:Nat}(h:cls k=3):k=4∨k=5∨k=6:=by
 unfold cls at h
 split at h
 ·omega
 ·split at h
  ·omega
  ·split at h
   ·assumption
   ·split at h<;>omega
theorem cls1 {k:Nat}(h:cls k=1):k=3∨k=9∨k=11∨k=12:=by
 unfold cls at h
 split at h
 ·assumption
 ·split at h
  ·omega
  ·split at h
   ·omega
   ·split at h<;>omega
theorem Node.with_lev {y:Node}{lev:Nat}(hy:y.ok=true)(hk:2≤y.kind)(hl:lev≤60):({ y with lev:=lev }:Node).ok=true:=by
 simp only[Node.ok,Bool.and_eq_true]at hy ⊢
 obtain ⟨⟨⟨⟨⟨a1,a2⟩,a3⟩,a4⟩,a5⟩,a6⟩:=hy
 refine ⟨⟨⟨⟨⟨a1,a2⟩,?_⟩,a4⟩,a5⟩,a6⟩
 rw[if_neg (by omega)]
 simpa using hl
theorem outNode_ok {x y z:Node}(h:outNode x y=some z):2≤z.kind∧z.ok=true∧(z.kind=8→z.to.length=z.ports)∧z.ports=1:=by
 have i1:∀ v,(intNode v).ok=true:=fun v=>by simp[intNode,Node.ok,Node.altsOK]
 have i2:∀ b,2≤(truth b).kind∧(truth b).ok=true∧((truth b).kind=8→(truth b).to.length=(truth b).ports)∧(truth b).ports=1:=by
  intro b;cases b<;>exact ⟨by decide,by decide,fun _=>rfl,rfl⟩
 have i3:∀ v,2≤(intNode v).kind∧(intNode v).ok=true∧((intNode v).kind=8→(intNode v).to.length=(intNode v).ports)∧(intNode v).ports=1:=fun v=>⟨by show 2≤10;omega,i1 v,fun e=>(by cases e),rfl⟩
 unfold outNode at h
 split at h
 ·cases h;exact i3 _
 ·split at h
  ·cases h;exact i3 _
  ·split at h
   ·cases h;exact i3 _
   ·split at h
    ·split at h
     ·cases h
     ·cases h;exact i3 _
    ·split at h
     ·cases h;exact i2 _
     ·split at h
      ·cases h;exact i2 _
      ·cases h;exact i3 _
theorem pickAt_ok {x y:Node}{k:Nat}(h:pickAt x y=some k):∃ cc,x.alts[k]?=some cc∧cc.2+1=y.to.length:=by
 unfold pickAt at h
 obtain ⟨h1,h2,_⟩:=List.findIdx?_eq_some_iff_getElem.1 h
 refine ⟨x.alts[k],gG h1,?_⟩
 simp at h2
 exact h2.2
theorem pickRest_len {a alt:Nat}{x:Node}(h:alt+2<x.to.length):(pickRest a alt x).length=x.to.length-3:=by
 unfold pickRest
 have:∀ (m k:Nat),k≤alt+2→alt+2<k+m→((psF a k m).filter fun q=>decide (q≠⟨a,alt+2⟩)).length=m-1:=by
  intro m k h1 h2
  have hc:(psF a k m).countP (fun q=>decide (q=⟨a,alt+2⟩))=1:=by
   have hmem:(⟨a,alt+2⟩:Port)∈psF a k m:=mem_portsFrom.2 ⟨rfl,h1,h2⟩
   have hnd:=portsFrom_nodup a k m
   have:List.count (⟨a,alt+2⟩:Port) (psF a k m)=1:=by rw[hnd.count,if_pos hmem]
   rw[List.count]at this
   rw[← this]
   apply List.countP_congr
   intro q _
   simp
  have hs:=List.length_eq_countP_add_countP (l:=psF a k m) (fun q=>decide (q=(⟨a,alt+2⟩:Port)))
  rw[portsFrom_len,hc]at hs
  rw[← List.countP_eq_length_filter]
  have e:(psF a k m).countP (fun q=>decide (q≠(⟨a,alt+2⟩:Port)))=(psF a k m).countP (fun q=>decide (¬ decide (q=(⟨a,alt+2⟩:Port))=true)):=by
   apply List.countP_congr
   intro q _
   simp
  rw[e]
  omega
 rw[this (x.to.length-2) 2 (by omega) (by omega)]
 omega
theorem act_ok (h:Std pg){n:Net}{a b:Nat}{x y:Node}{p:Plan}(ht:Two n a b x y)(hp:PlanOK p x y)(hu:n.used+need2 p x y≤n.cap) :
  Done n (n.actD p a b x y) a b∧E pg 145 [.ptr 0 0] [.box (.p (.sl (n.nodes.map Node.enc))::.p (.i .i64 n.cap)::([.p (.i .i64 p.kind),.p (.b p.swap),.p (.i .i64 p.lev),.p (.i .i64 p.alt),.p (.i .i64 p.node.kind),.p (.i .i64 p.node.lev),.p (.i .i64 p.node.n),.p (.s p.node.name),.p (.sl (p.node.alts.map encAr)),.p (.sl (p.node.to.map Port.enc))]++[.p (.i .i64 (a:Nat)),.p (.i .i64 (b:Nat))]))] =
   some (.ret (.tup []),[.box (.p (.sl (((n.actD p a b x y).free2 a b).nodes.map Node.enc))::.p (.i .i64 ((n.actD p a b x y).free2 a b).cap)::([.p (.i .i64 p.kind),.p (.b p.swap),.p (.i .i64 p.lev),.p (.i .i64 p.alt),.p (.i .i64 p.node.kind),.p (.i .i64 p.node.lev),.p (.i .i64 p.node.n),.p (.s p.node.name),.p (.sl (p.node.alts.map encAr)),.p (.sl (p.node.to.map Port.enc))]++[.p (.i .i64 (a:Nat)),.p (.i .i64 (b:Nat))]))]):=by
 have hr:flatAL ([.p (.i .i64 p.kind),.p (.b p.swap),.p (.i .i64 p.lev),.p (.i .i64 p.alt),.p (.i .i64 p.node.kind),.p (.i .i64 p.node.lev),.p (.i .i64 p.node.n),.p (.s p.node.name),.p (.sl (p.node.alts.map encAr)),.p (.sl (p.node.to.map Port.enc))]++[.p (.i .i64 (a:Nat)),.p (.i .i64 (b:Nat))])=true:=by simp[flatAL,flatA]
 have hlen:=ht.ok.len
 have hcap:=ht.ok.cap
 have hx1:=ht.x1
 have hy1:=ht.y1
 obtain ⟨x1,x2,x3⟩:=ht.ok.node _ _ ht.hx
 obtain ⟨y1,y2,y3⟩:=ht.ok.node _ _ ht.hy
 have hxl:=Node.ports_le x1 x2
 have hyl:=Node.ports_le y1 y2
 have hlx:=Node.lev_le x1
 have hly:=Node.lev_le y1
 unfold need2 Node.others at hu
 rcases hp with ⟨k,c1,c2⟩|⟨k,c1,c2⟩|⟨k,c1,c2,c3⟩|⟨k,c1,c2⟩|⟨k,c1,c2,z,c3,c4⟩|⟨k,c1,c2⟩|⟨k,c1,c2,c3,c4⟩|⟨k,c1,c2⟩
 ·have hm:n.actD p a b x y=n.joins ((psF a 1 (x.to.length-1)).zip (psF b 1 (x.to.length-1))):=by unfold Net.actD;rw[if_pos (.inl k)]
  have lx:=ht.ok.ports_of ht.hx c1 (by omega) (by omega)
  have ly:=ht.ok.ports_of ht.hy c2 (by omega) (by omega)
  obtain ⟨d1,d2⟩:=ht.join (by omega) (by omega) (by rw[lx,ly];rfl) hm
  refine ⟨d2,?_⟩
  exact s145 (k:=p.kind) h hr rfl rfl rfl (by rw[k];rfl) (hm ▸ s162 h ht.hx hr rfl rfl (by omega) d1) d2.len d2.free
 ·have hm:n.actD p a b x y=n.joins ((psF a 1 (x.to.length-1)).zip (psF b 1 (x.to.length-1))):=by unfold Net.actD;rw[if_pos (.inr k)]
  have c3:=cls3 c2
  have lx:=ht.ok.ports_of ht.hx rfl (by omega) (by omega)
  have ly:=ht.ok.ports_of ht.hy c1.symm (by omega) (by omega)
  obtain ⟨d1,d2⟩:=ht.join (by omega) (by omega) (by rw[lx,ly]) hm
  refine ⟨d2,?_⟩
  exact s145 (k:=p.kind) h hr rfl rfl rfl (by rw[k];rfl) (hm ▸ s162 h ht.hx hr rfl rfl (by omega) d1) d2.len d2.free
 ·obtain ⟨cc,e1,e2⟩:=pickAt_ok c3
  have halt:p.alt<x.alts.length:=(gE e1).1
  have hal:=Node.alts_len x1
  have hxp:x.to.length=2+x.alts.length:=by rw[x2];unfold Node.ports;rw[if_neg (by omega),if_pos c1]
  have hrl:=pickRest_len (a:=a) (alt:=p.alt) (x:=x) (by omega)
  have hm:n.actD p a b x y=n.pick a b p.alt x cc.2:=by unfold Net.actD;rw[if_neg (by omega),if_pos k,e1];rfl
  rw[if_pos k,e1]at hu
  dsimp only at hu
  obtain ⟨d1,d2,d3,d4,d5⟩:=ht.pick c1 c2 e1 e2 (by omega) hm
  refine ⟨d5,?_⟩
  exact s145 (k:=p.kind) h hr rfl rfl rfl (by rw[k];rfl) (hm ▸ s163 h ht.hx d1 e1 hr rfl rfl rfl ⟨by omega,by omega⟩ (by omega) hlx (by omega) (by omega) (by omega) d2 d3 d4) d5.len d5.free
 ·have hm:n.actD p a b x y=n.half a b x y:=by unfold Net.actD;rw[if_neg (by omega),if_neg (by omega),if_pos k]
  have lx:=ht.ok.ports_of ht.hx c1 (by omega) (by omega)
  have ly:=ht.ok.ports_of ht.hy c2 (by omega) (by omega)
  rw[if_neg (by omega),if_pos (.inl k)]at hu
  have hho:(halfNode x y).ok=true:=by
   simp only[Node.ok,Node.altsOK,halfNode,Bool.and_eq_true,beq_iff_eq,Bool.or_eq_true,Bool.not_eq_true',decide_eq_true_eq,decide_eq_false_iff_not]at x1 ⊢
   obtain ⟨⟨⟨⟨⟨a1,a2⟩,a3⟩,a4⟩,a5⟩,a6⟩:=x1
   have:x.name≠[]:=by simpa [c1] using a4
   simp[this,hlx]
  obtain ⟨d1,d2⟩:=ht.half (by omega) (by omega) (by rw[lx];rfl) (by rw[ly];rfl) hho (by omega) hm
  refine ⟨d2,?_⟩
  exact s145 (k:=p.kind) h hr rfl rfl rfl (by rw[k];rfl) (hm ▸ s164 h ht.hx ht.hy hr rfl rfl (by omega) hho (by omega) d1) d2.len d2.free
 ·have hm:n.actD p a b x y=n.out a p.node:=by unfold Net.actD;rw[if_neg (by omega),if_neg (by omega),if_neg (by omega),if_pos k]
  have lx:=ht.ok.ports_of ht.hx c1 (by omega) (by omega)
  have ly:=ht.ok.ports_of ht.hy c2 (by omega) (by omega)
  rw[if_neg (by omega),if_pos (.inr k)]at hu
  obtain ⟨z1,z2,z3,z4⟩:=outNode_ok c3
  have w1:2≤p.node.kind:=by rw[c4];exact z1
  have w2:p.node.ok=true:=by rw[c4];exact Node.with_lev z2 z1 hlx
  have w3:p.node.kind=8→p.node.to.length=p.node.ports:=by rw[c4];exact z3
  have w4:p.node.ports=1:=by rw[c4];exact z4
  obtain ⟨d1,d2⟩:=ht.out (z:=p.node) (by omega) (by omega) (by rw[lx];rfl) (by rw[ly];rfl) w1 w2 w3 w4 (by omega) hm
  refine ⟨d2,?_⟩
  rw[hm]at d2 ⊢
  exact s145o h hr (by rw[k];rfl) rfl (by simp) rfl rfl (by omega) w1 w2 (by omega) (by omega) d1 d2.len d2.free
 ·have hm:n.actD p a b x y=n.fail a b x y:=by unfold Net.actD;rw[if_neg (by omega),if_neg (by omega),if_neg (by omega),if_neg (by omega),if_pos k]
  rw[if_neg (by omega),if_neg (by omega),if_pos k]at hu
  have kx:=cls1 c1
  have ky:=cls_two (k:=y.kind) (by omega)
  have hx2:2≤x.to.length:=by
   rw[x2]
   unfold Node.ports
   have hal:x.kind=9→1≤x.alts.length:=fun e=>by
    simp only[Node.ok,Node.altsOK,Bool.and_eq_true]at x1
    have:=x1.1.1.1.1.2
    rw[if_pos e]at this
    simp at this
    omega
   rcases kx with e|e|e|e
   ·rw[e];simp[kindPorts]
   ·rw[e];simp
   ·rw[e];simp[kindPorts]
   ·rw[e];simp[kindPorts]
  have hfl:(failPorts a b x y).length=(x.to.length-2)+(y.to.length-1):=by unfold failPorts;rw[List.length_append,portsFrom_len,portsFrom_len]
  obtain ⟨d1,d2,d3⟩:=ht.fail (by omega) ky hx2 hlx (by omega) hm
  refine ⟨d3,?_⟩
  have hk1:=Net.make_keep ht.ok.sk (x:=failNode x.lev) ht.hx (by omega)
  have hk2:=Net.make_keep ht.ok.sk (x:=failNode x.lev) ht.hy (by omega)
  exact s145 (k:=p.kind) h hr rfl rfl rfl (by rw[k];rfl) (hm ▸ s167 h ht.hx hk1 hk2 hr rfl rfl (by omega) (by omega) hlx (by omega) (by omega) d1 d2) d3.len d3.free
 ·have hm:n.actD p a b x y=n.pass a b x y p.lev:=by unfold Net.actD;rw[if_neg (by omega),if_neg (by omega),if_neg (by omega),if_neg (by omega),if_neg (by omega),if_pos k]
  rw[if_neg (by omega),if_neg (by omega),if_neg (by omega),if_pos k]at hu
  have kx:=cls3 c1
  have hxp:x.to.length-1=if x.kind=4 then 2 else 1:=by
   have:=ht.ok.ports_of ht.hx rfl (by omega) (by omega)
   rw[this]
   rcases kx with e|e|e<;>rw[e]<;>rfl
  rw[← hxp]at hu
  have hoy:=Node.with_lev (lev:=p.lev) y1 c2 (by omega)
  obtain ⟨d1,d2,d3⟩:=ht.pass (lev:=p.lev) (by omega) c2 hoy (by omega) hm
  refine ⟨d3,?_⟩
  exact s145 (k:=p.kind) h hr rfl rfl rfl (by rw[k];rfl) (hm ▸ s168 h ht.hx ht.hy hr rfl rfl rfl (by omega) c2 x1 hoy ⟨by omega,by omega⟩ ⟨by omega,by omega⟩ (by omega) (by omega) (by omega) (by omega) d1 d2) d3.len d3.free
 ·have hm:n.actD p a b x y=n.dropAll b x.lev y:=by unfold Net.actD;rw[if_neg (by omega),if_neg (by omega),if_neg (by omega),if_neg (by omega),if_neg (by omega),if_neg (by omega)]
  rw[if_neg (by omega),if_neg (by omega),if_neg (by omega),if_neg (by omega),if_pos k]at hu
  have lx:=ht.ok.ports_of ht.hx c1 (by omega) (by omega)
  have hdl:(dropPorts b y).length=y.to.length-1:=portsFrom_len _ _ _
  obtain ⟨d1,d2⟩:=ht.drop (by omega) c2 (by rw[lx];rfl) hlx (by omega) hm
  refine ⟨d2,?_⟩
  rw[hm]at d2 ⊢
  exact s145d h ht.hx ht.hy hr (by rw[k];rfl) rfl rfl (by omega) hlx (by omega) (by omega) d1 d2.len d2.free
def tells (k slot:Nat):Bool:=if k=3∨k=9∨k=11∨k=12∨k=5∨k=6 then decide (slot=1) else if k=4 then decide (slot=1) || decide (slot=2) else false
def kindAt (n:Net)(i:Nat):Nat:=match n.nodes[i]? with
 |some x=>x.kind
 |none=>0
def Net.walk (n:Net):Nat→List Nat→Port→List Nat×Nat×Bool×Nat
 |0,path,q=>(path,q.node,false,191)
 |f+1,path,q=>if path.contains q.node=true then (path,q.node,false,191) else if q.slot=0 then (path++[q.node],q.node,false,0)
  else if tells (kindAt n q.node) q.slot=false then (path++[q.node],q.node,false,190) else if (n.pr ⟨q.node,0⟩).slot=0 then (path++[q.node],q.node,true,0) else n.walk f (path++[q.node]) (n.pr ⟨q.node,0⟩)
theorem t131 (h:Std pg)(k slot l:Nat)(n:Int)(name:List UInt8)(alts:List (List UInt8×Nat))(to:List Port) :
  eCA pg (E pg) 131 [.ag [.p (.i .i64 k),.p (.i .i64 l),.p (.i .i64 n),.p (.s name),.p (.sl (alts.map encAr)),.p (.sl (to.map Port.enc))],.p (.i .i64 slot)] G=some (.ret (.p (.b (tells k slot))),G):=by
 refine at_pure ?_ rfl rfl
 rw[h.run (x:=c131) rfl (by decide) (by decide) (by decide) (by decide)]
 have hk:k=3∨k=9∨k=11∨k=12∨k=5∨k=6∨k=4∨(k≠3∧k≠9∧k≠11∧k≠12∧k≠5∧k≠6∧k≠4):=by omega
 by_cases h1:slot=1
 ·subst h1
  rcases hk with rfl|rfl|rfl|rfl|rfl|rfl|rfl|⟨a1,a2,a3,a4,a5,a6,a7⟩
  all_goals first
   |(simp[c131,leave,tells];done)
   |(have b1:¬ (k:Int)=3:=by omega
     have b2:¬ (k:Int)=9:=by omega
     have b3:¬ (k:Int)=11:=by omega
     have b4:¬ (k:Int)=12:=by omega
     have b5:¬ (k:Int)=5:=by omega
     have b6:¬ (k:Int)=6:=by omega
     have b7:¬ (k:Int)=4:=by omega
     simp[c131,leave,tells,a1,a2,a3,a4,a5,a6,a7,b1,b2,b3,b4,b5,b6,b7])
 ·have h1':¬ (slot:Int)=1:=by omega
  by_cases h2:slot=2
  ·subst h2
   rcases hk with rfl|rfl|rfl|rfl|rfl|rfl|rfl|⟨a1,a2,a3,a4,a5,a6,a7⟩
   all_goals first
    |(simp[c131,leave,tells];done)
    |(have b1:¬ (k:Int)=3:=by omega
      have b2:¬ (k:Int)=9:=by omega
      have b3:¬ (k:Int)=11:=by omega
      have b4:¬ (k:Int)=12:=by omega
      have b5:¬ (k:Int)=5:=by omega
      have b6:¬ (k:Int)=6:=by omega
      have b7:¬ (k:Int)=4:=by omega
      simp[c131,leave,tells,a1,a2,a3,a4,a5,a6,a7,b1,b2,b3,b4,b5,b6,b7])
  ·have h2':¬ (slot:Int)=2:=by omega
   rcases hk with rfl|rfl|rfl|rfl|rfl|rfl|rfl|⟨a1,a2,a3,a4,a5,a6,a7⟩
   all_goals first
    |(simp[c131,leave,tells,h1,h1',h2,h2'];done)
    |(have b1:¬ (k:Int)=3:=by omega
      have b2:¬ (k:Int)=9:=by omega
      have b3:¬ (k:Int)=11:=by omega
      have b4:¬ (k:Int)=12:=by omega
      have b5:¬ (k:Int)=5:=by omega
      have b6:¬ (k:Int)=6:=by omega
      have b7:¬ (k:Int)=4:=by omega
      simp[c131,leave,tells,a1,a2,a3,a4,a5,a6,a7,b1,b2,b3,b4,b5,b6,b7,h1,h1',h2,h2'])
theorem t130n (h:Std pg){l:List Nat}{v:Nat}(hl:l.length<2 ^ 40):eCA pg (E pg) 130 [.p (.sl (ints l)),.p (.i .i64 v)] G=some (.ret (.p (.b (l.contains v))),G):=by
 have h1:=t130 (G:=G) h (l:=l.map fun (i:Nat)=>(i:Int)) (v:=v) (by simpa using hl)
 rw[show (l.map fun (i:Nat)=>(i:Int)).map (fun x=>[PV.i .i64 x])=ints l from by simp[ints]]at h1
 rw[h1]
 congr 4
 simp only[List.contains_eq_any_beq,List.any_map]
 have e:((fun x=>(v:Int) == x) ∘ fun (i:Nat)=>(i:Int))=fun x=>v == x:=by
  funext a
  simp only[Function.comp]
  rw[Bool.eq_iff_iff]
  simp
  omega
 rw[e]
theorem at_arr1 {call:CallF}{f id len gen:Nat}{sz:Nat}{rows:List (List PV)}{sl:Nat}{v:PV}(hk:keepA pg f=false)(hG:G[id]?=some (.arr sz rows gen sl))(hl:len≤rows.length) :
  eCA pg call f [.arr id len gen,.p v] G=eCA pg call f [.p (.sl (rows.take len)),.p v] (G.set id (.arr sz rows gen (Nat.max sl len))):=by
 unfold eCA
 rw[hk]
 simp[expL,exp,norm,hG,hl]
theorem at_nils1 {call:CallF}{f:Nat}{v:PV}(hk:keepA pg f=false) :
  eCA pg call f [.nils,.p v] G=eCA pg call f [.p (.sl []),.p v] G:=by
 unfold eCA
 rw[hk]
 simp[expL,exp]
def pathV (path:List Nat):AV:=match path with
 |[]=>.nils
 |_::r=>.arr 3 (r.length+1) r.length
def pathH (path:List Nat):Heap:=match path with
 |[]=>[]
 |c::r=>[.arr 1 (ints (c::r)) r.length r.length]
def walkAV (w:List Nat×Nat×Bool×Nat):AV:=.ag [.p (.sl (ints w.1)),.p (.i .i64 w.2.1),.p (.b w.2.2.1),.p (.i .i64 w.2.2.2)]
theorem nodup_len:∀ {N:Nat} {l:List Nat},l.Nodup→(∀ a,a∈l→a<N)→l.length≤N
 |0,[],_,_=>Nat.le_refl _
 |0,a::r,_,h=>absurd (h a (by simp)) (by omega)
 |N+1,l,hn,h=>by
  by_cases hm:N∈l
  ·have h1:=nodup_len (N:=N) (l:=l.erase N) (hn.erase _) (fun a ha=>by
    obtain ⟨h2,h3⟩:=(List.Nodup.mem_erase_iff hn).1 ha
    have:=h a h3
    omega)
   rw[List.length_erase_of_mem hm]at h1
   omega
  ·have h1:=nodup_len (N:=N) (l:=l) hn (fun a ha=>by
    have:=h a ha
    have:a≠N:=fun e=>hm (e ▸ ha)
    omega)
   omega
theorem Net.Ok.pr_has {n:Net}(ho:n.Ok){p:Port}(hp:n.has p):n.has (n.pr p)∧n.pr (n.pr p)=p:=by
 obtain ⟨x,h1,h2⟩:=Net.has_pr hp
 obtain ⟨a,b⟩:=ho.link _ _ _ _ h1 h2
 have:n.has (n.pr p):=by
  unfold Net.peer at b
  split at b
  ·rename_i y hy;exact ⟨y,hy,(gE b).1⟩
  ·cases b
 refine ⟨this,?_⟩
 show (n.peer (n.pr p)).getD ⟨0,0⟩=p
 rw[b]
 rfl
theorem Net.Ok.first {n:Net}(ho:n.Ok){p:Port}(hp:n.has p):n.has ⟨p.node,0⟩:=by
 obtain ⟨x,h1,h2⟩:=hp
 exact ⟨x,h1,by dsimp only;omega⟩
theorem l125 (h:Std pg){body:CCode}(hb:body=c125l0){n:Net}(ho:n.Ok) :
  ∀ (f:Nat) (path:List Nat) (q:Port) (e0:Nat),path.length+f=n.nodes.length+1→path.Nodup→(∀ a,a∈path→a<n.nodes.length)→n.has q →
   kF 0 [.cell 4 4 true] false (kB 0 (L pg 0 [2,4,5] body [(2,.ptr 0 0),(4,.ptr 1 0),(5,.ptr 2 0)] (.box [.p (.sl (n.nodes.map Node.enc)),.p (.i .i64 n.cap)]::.box [pathV path,.p (.i .i64 e0),.p (.b false),.p (.i .i64 0)]::.box [.p (.i .i64 q.node),.p (.i .i64 q.slot)]::pathH path)))=some (.ret (walkAV (n.walk f path q)),[])
 |0,path,q,e0,hl,hnd,hlt,hq=>by
  have:=nodup_len hnd hlt
  omega
 |f+1,path,q,e0,hl,hnd,hlt,hq=>by
  have k130:keepA pg 130=false:=(show keepA pg 130=false from h.keep (x:=c130) rfl)
  have hol:=ho.len
  have hoc:=ho.cap
  have hpl:=nodup_len hnd hlt
  obtain ⟨x,hx,hxs⟩:=hq
  obtain ⟨x1,x2,x3⟩:=ho.node _ _ hx
  have hqi:q.node<n.nodes.length:=(gE hx).1
  have hqi':n.nodes[q.node]=x:=(gE hx).2
  have hka:kindAt n q.node=x.kind:=by unfold kindAt;rw[hx]
  have hf0:n.has ⟨q.node,0⟩:=⟨x,hx,by dsimp only;omega⟩
  have hprh:=(ho.pr_has hf0).1
  have e1:=fun G=>t129 (G:=G) h hf0
  simp only[show ((0:Nat):Int)=0 from rfl]at e1
  have e2:=fun G=>t131 (G:=G) h x.kind q.slot x.lev x.n x.name x.alts x.to
  have e3:=fun G (v:Nat)=>t130n (G:=G) h (l:=path) (v:=v) (by omega)
  have c0:q.slot=0∨q.slot≠0:=by omega
  rw[k_L hb]
  cases path with
  |nil =>
   have ih:=l125 h hb ho f [q.node] (n.pr ⟨q.node,0⟩) q.node (by simp at hl ⊢;omega) (by simp) (by simp;exact hqi) hprh
   simp only[pathV,pathH,ints,List.length_nil,Nat.zero_add,List.map_cons,List.map_nil]at ih e3 ⊢
   rcases c0 with c0|c0
   ·have c0':(q.slot:Int)=0:=by omega
    simp[c125l0,leave,at_nils1 k130,e3,evOp.fillRows,normP,toP,toPL,okRow,evApp,okRows,show roomy 1 8=true from rfl,eq_true c0,eq_true c0',Net.walk,walkAV,ints]
   ·have c0':¬ (q.slot:Int)=0:=by omega
    cases ht:tells x.kind q.slot with
    |false =>
     simp[c125l0,leave,Node.enc,at_nils1 k130,e3,e2,ht,hqi,hqi',evOp.fillRows,normP,toP,toPL,okRow,evApp,okRows,show roomy 1 8=true from rfl,c0,c0',Net.walk,walkAV,ints,hka]
    |true =>
     have c1:(n.pr ⟨q.node,0⟩).slot=0∨(n.pr ⟨q.node,0⟩).slot≠0:=by omega
     rcases c1 with c1|c1
     ·have c1':((n.pr ⟨q.node,0⟩).slot:Int)=0:=by omega
      simp[c125l0,leave,Node.enc,at_nils1 k130,e3,e2,e1,ht,hqi,hqi',evOp.fillRows,normP,toP,toPL,okRow,evApp,okRows,show roomy 1 8=true from rfl,c0,c0',eq_true c1,eq_true c1',Net.walk,walkAV,ints,hka]
     ·have c1':¬ ((n.pr ⟨q.node,0⟩).slot:Int)=0:=by omega
      simp[c125l0,leave,Node.enc,at_nils1 k130,e3,e2,e1,ht,hqi,hqi',evOp.fillRows,normP,toP,toPL,okRow,evApp,okRows,show roomy 1 8=true from rfl,c0,c0',c1,c1',Net.walk,ints,hka,gc,gcEnv,exp,expL,eOs,Exp.id,idxOf,List.range,List.range.loop,ih]
  |cons p0 pr =>
   have e5:(ints (p0::pr)).length=pr.length+1:=by simp[ints]
   have e4:(ints (p0::pr)).take (pr.length+1)=ints (p0::pr):=by rw[← e5];exact List.take_length
   have e6:∀ v,okRows 1 [[.i .i64 v]]=true:=fun _=>rfl
   have e7:roomy (pr.length+1+1) 8=true:=by simp at hl;simp[roomy];omega
   have e8:pr.length+1≤(ints (p0::pr)).length:=by omega
   have e9:ints (p0::pr)++[[.i .i64 q.node]]=ints (p0::pr++[q.node]):=by simp[ints]
   have g0:=fun v=>at_arr1 (pg:=pg) (call:=E pg) (f:=130) (id:=3) (len:=pr.length+1) (gen:=pr.length) (sz:=1) (rows:=ints (p0::pr)) (sl:=pr.length) (v:=v) (G:=(.box [.p (.sl (n.nodes.map Node.enc)),.p (.i .i64 n.cap)]::.box [.arr 3 (pr.length+1) pr.length,.p (.i .i64 q.node),.p (.b false),.p (.i .i64 0)]::.box [.p (.i .i64 q.node),.p (.i .i64 q.slot)]::[.arr 1 (ints (p0::pr)) pr.length pr.length])) k130 rfl (by omega)
   rw[e4]at g0
   have hmx:Nat.max pr.length (pr.length+1)=pr.length+1:=Nat.max_eq_right (by omega)
   rw[hmx]at g0
   simp only[pathV,pathH]
   by_cases hm:(p0::pr).contains q.node=true
   ·have hw:n.walk (f+1) (p0::pr) q=(p0::pr,q.node,false,191):=by unfold Net.walk;rw[if_pos hm]
    have g1:=fun v:Nat=>g0 (.i .i64 v)
    have g2:=g1 q.node
    rw[e3,hm]at g2
    simp only[List.set_cons_succ,List.set_cons_zero]at g2
    rw[hw]
    simp only[walkAV]
    generalize ints (p0::pr)=R at *
    simp[c125l0,leave,g2,e4,e8]
   ·have hm':(p0::pr).contains q.node=false:=by simpa using hm
    have g2:=g0 (.i .i64 q.node)
    rw[e3,hm']at g2
    simp only[List.set_cons_succ,List.set_cons_zero]at g2
    have e10:(ints (p0::pr++[q.node])).length=pr.length+1+1:=by simp[ints]
    have e11:(ints (p0::pr++[q.node])).take (pr.length+1+1)=ints (p0::pr++[q.node]):=by rw[← e10];exact List.take_length
    have e12:pr.length+1+1≤(ints (p0::pr++[q.node])).length:=by omega
    rcases c0 with c0|c0
    ·have c0':(q.slot:Int)=0:=by omega
     have hw:n.walk (f+1) (p0::pr) q=(p0::pr++[q.node],q.node,false,0):=by unfold Net.walk;rw[if_neg hm,if_pos c0]
     rw[hw]
     simp only[walkAV]
     generalize ints (p0::pr)=R at *
     generalize ints (p0::pr++[q.node])=R' at *
     simp[c125l0,leave,g2,evOp.fillRows,normP,toP,toPL,okRow,evApp,e4,e5,e6,e7,e8,e9,e11,e12,eq_true c0,eq_true c0']
    ·have c0':¬ (q.slot:Int)=0:=by omega
     cases ht:tells x.kind q.slot with
     |false =>
      have hw:n.walk (f+1) (p0::pr) q=(p0::pr++[q.node],q.node,false,190):=by unfold Net.walk;rw[if_neg hm,if_neg c0,hka,if_pos ht]
      rw[hw]
      simp only[walkAV]
      generalize ints (p0::pr)=R at *
      generalize ints (p0::pr++[q.node])=R' at *
      simp[c125l0,leave,Node.enc,g2,e2,ht,hqi,hqi',evOp.fillRows,normP,toP,toPL,okRow,evApp,e4,e5,e6,e7,e8,e9,e11,e12,c0,c0']
     |true =>
      have ht':¬ tells x.kind q.slot=false:=by rw[ht];simp
      have c1:(n.pr ⟨q.node,0⟩).slot=0∨(n.pr ⟨q.node,0⟩).slot≠0:=by omega
      rcases c1 with c1|c1
      ·have c1':((n.pr ⟨q.node,0⟩).slot:Int)=0:=by omega
       have hw:n.walk (f+1) (p0::pr) q=(p0::pr++[q.node],q.node,true,0):=by unfold Net.walk;rw[if_neg hm,if_neg c0,hka,if_neg ht',if_pos c1]
       rw[hw]
       simp only[walkAV]
       generalize ints (p0::pr)=R at *
       generalize ints (p0::pr++[q.node])=R' at *
       simp[c125l0,leave,Node.enc,g2,e1,e2,ht,hqi,hqi',evOp.fillRows,normP,toP,toPL,okRow,evApp,e4,e5,e6,e7,e8,e9,e11,e12,c0,c0',eq_true c1,eq_true c1']
      ·have c1':¬ ((n.pr ⟨q.node,0⟩).slot:Int)=0:=by omega
       have hw:n.walk (f+1) (p0::pr) q=n.walk f (p0::pr++[q.node]) (n.pr ⟨q.node,0⟩):=by
        conv=>lhs;unfold Net.walk
        rw[if_neg hm,if_neg c0,hka,if_neg ht',if_neg c1]
       have ih:=l125 h hb ho f (p0::pr++[q.node]) (n.pr ⟨q.node,0⟩) q.node (by simp at hl ⊢;omega) (by
        rw[List.nodup_append]
        refine ⟨hnd,by simp,fun a ha b hb'=>?_⟩
        simp at hb'
        subst hb'
        intro e
        subst e
        exact hm (by simpa using ha)) (by
        intro a ha
        rcases List.mem_append.1 ha with ha|ha
        ·exact hlt a ha
        ·simp at ha;subst ha;exact hqi) hprh
       rw[hw]
       simp only[pathV,pathH,List.cons_append,List.length_append,List.length_cons,List.length_nil,Nat.zero_add]at ih
       rw[← List.cons_append]at ih
       generalize walkAV (n.walk f (p0::pr++[q.node]) (n.pr ⟨q.node,0⟩))=W at *
       generalize ints (p0::pr)=R at *
       generalize ints (p0::pr++[q.node])=R' at *
       simp[c125l0,leave,Node.enc,g2,e1,e2,ht,hqi,hqi',evOp.fillRows,normP,toP,toPL,okRow,evApp,e4,e5,e6,e7,e8,e9,e11,e12,c0,c0',c1,c1',gc,gcEnv,exp,expL,eOs,Exp.id,idxOf,List.range,List.range.loop,ih]
def Net.next (n:Net)(p:Port):Nat×Bool×Nat:=(n.walk (n.nodes.length+1) [] (n.pr p)).2
theorem s125 (h:Std pg){n:Net}{p:Port}(ho:n.Ok)(hp:n.has p) :
  E pg 125 [.ag [.p (.sl (n.nodes.map Node.enc)),.p (.i .i64 n.cap)],.ag [.p (.i .i64 p.node),.p (.i .i64 p.slot)]] []=some (.ret (walkAV (n.walk (n.nodes.length+1) [] (n.pr p))),[]):=by
 have e1:=fun G=>t129 (G:=G) h hp
 have hL:=l125 h rfl ho (n.nodes.length+1) [] (n.pr p) 0 (by simp) (by simp) (by simp) (ho.pr_has hp).1
 simp only[pathV,pathH,show ((0:Nat):Int)=0 from rfl]at hL
 rw[h.run (x:=c125) rfl (by decide) (by decide) (by decide) (by decide)]
 simp[c125,leave,t128 h ho,e1,gc,gcEnv,exp,expL,eOs,Exp.id,idxOf,List.range,List.range.loop,hL]
theorem t116 (h:Std pg){n:Net}{p:Port}(ho:n.Ok)(hp:n.has p) :
  eCA pg (E pg) 116 [.ag [.p (.sl (n.nodes.map Node.enc)),.p (.i .i64 n.cap)],.ag [.p (.i .i64 p.node),.p (.i .i64 p.slot)]] G=some (.ret (.tup [.p (.i .i64 (n.next p).1),.p (.b (n.next p).2.1),.p (.i .i64 (n.next p).2.2)]),G):=by
 refine at_pure ?_ rfl rfl
 have e1:=fun G=>at_pure (pg:=pg) (G:=G) (s125 h ho hp) rfl rfl
 rw[h.run (x:=c116) rfl (by decide) (by decide) (by decide) (by decide)]
 simp[c116,leave,e1,walkAV,Net.next]
def bools (l:List Bool):List (List PV):=l.map fun b=>[.b b]
theorem bools_at {seen:List Bool}{i:Nat}{b:Bool}(h:seen[i]?=some b):∀ hh,(bools seen)[i]'hh=[.b b]:=fun hh=>by
 obtain ⟨h1,h2⟩:=gE h
 simp[bools,h2]
theorem s186 (h:Std pg){N:List (List PV)}{L k g i:Nat}{seen:List Bool}{rows:List (List PV)}(hL:L=seen.length)(hi:i<seen.length)(hk:k≤rows.length)(hk2:k<2 ^ 30) :
  E pg 186 [.ptr 0 0,.p (.i .i64 i)] [.box [.p (.sl N),.arr 1 L 0,.arr 2 k g],.arr 1 (bools seen) 0 0,.arr 1 rows g 0] =
   some (if seen[i]?=some true then (.ret (.tup []),[.box [.p (.sl N),.arr 1 L 0,.arr 2 k g],.arr 1 (bools seen) 0 0,.arr 1 rows g 0]) else
    (.ret (.tup []),[.box [.p (.sl N),.arr 1 L 0,.arr 2 (k+1) (g+1)],.arr 1 (bools (seen.set i true)) 0 0,.arr 1 (rows.take k++[[.i .i64 i]]) (g+1) 0,.arr 1 [[.i .i64 i]] 0 0])):=by
 subst hL
 have e1:(bools seen)[i]?=some [.b seen[i]]:=by simp[bools,hi]
 have e2:(bools seen).length=seen.length:=by simp[bools]
 have e3:∀ v,okRows 1 [[.i .i64 v]]=true:=fun _=>rfl
 have e4:roomy (k+1) 8=true:=by simp[roomy];omega
 have e5:(bools seen).set i [.b true]=bools (seen.set i true):=by simp[bools]
 have e6:seen[i]?=some seen[i]:=gG hi
 rw[h.run (x:=c186) rfl (by decide) (by decide) (by decide) (by decide)]
 cases hs:seen[i] with
 |true =>
  rw[hs]at e1 e6
  simp[c186,leave,hi,e1,bools_at e6,e2,okRow,hs]
 |false =>
  rw[hs]at e1 e6
  simp[c186,leave,hi,e1,bools_at e6,e2,e3,e4,e5,okRow,hs,hk,evOp.fillRows,normP,toP,toPL,evApp]
theorem s186n (h:Std pg){N:List (List PV)}{L i:Nat}{seen:List Bool}(hL:L=seen.length)(hi:i<seen.length)(hs:seen[i]?=some false) :
  E pg 186 [.ptr 0 0,.p (.i .i64 i)] [.box [.p (.sl N),.arr 1 L 0,.nils],.arr 1 (bools seen) 0 0] =
   some (.ret (.tup []),[.box [.p (.sl N),.arr 1 L 0,.arr 3 1 0],.arr 1 (bools (seen.set i true)) 0 0,.arr 1 [[.i .i64 i]] 0 0,.arr 1 [[.i .i64 i]] 0 0]):=by
 subst hL
 have e6:seen[i]=false:=by simpa [gG hi] using hs
 have e1:(bools seen)[i]?=some [.b false]:=by simp[bools,hi,e6]
 have e2:(bools seen).length=seen.length:=by simp[bools]
 have e3:∀ v,okRows 1 [[.i .i64 v]]=true:=fun _=>rfl
 have e5:(bools seen).set i [.b true]=bools (seen.set i true):=by simp[bools]
 rw[h.run (x:=c186) rfl (by decide) (by decide) (by decide) (by decide)]
 simp[c186,leave,hi,e1,bools_at hs,e2,e3,e5,okRow,evOp.fillRows,normP,toP,toPL,evApp,show roomy 1 8=true from rfl]
theorem t186 (h:Std pg){N:List (List PV)}{L k g i:Nat}{seen:List Bool}{rows:List (List PV)}{X:Heap}(hL:L=seen.length)(hi:i<seen.length)(hk:k≤rows.length)(hk2:k<2 ^ 30) :
  eCA pg (E pg) 186 [.ptr 0 0,.p (.i .i64 i)] (.box [.p (.sl N),.arr 1 L 0,.arr 2 k g]::.arr 1 (bools seen) 0 0::.arr 1 rows g 0::X) =
   some (if seen[i]?=some true then (.ret (.tup []),.box [.p (.sl N),.arr 1 L 0,.arr 2 k g]::.arr 1 (bools seen) 0 0::.arr 1 rows g 0::X) else
    (.ret (.tup []),.box [.p (.sl N),.arr 1 L 0,.arr 2 (k+1) (g+1)]::.arr 1 (bools (seen.set i true)) 0 0::.arr 1 (rows.take k++[[.i .i64 i]]) (g+1) 0::X++[.arr 1 [[.i .i64 i]] 0 0])):=by
 have hs:=s186 (N:=N) (g:=g) (rows:=rows) h hL hi hk hk2
 unfold eCA
 simp only[List.length_cons]
 by_cases ht:seen[i]?=some true
 ·rw[if_pos ht]at hs
  simp[expL,exp,Exp.id,idxOf,eOs,hs,ht,Out.back,back,backL,backId,backObj,setAll]
 ·rw[if_neg ht]at hs
  simp[expL,exp,Exp.id,idxOf,eOs,hs,ht,Out.back,back,backL,backId,backObj,setAll]
structure WInv (m:Marks)(rows:List (List PV)):Prop where
 take:rows.take m.waits.length=ints m.waits
 len:m.waits.length≤rows.length
def mH (N:List (List PV))(m:Marks)(rows:List (List PV))(g:Nat):Heap:=[.box [.p (.sl N),.arr 1 m.seen.length 0,.arr 2 m.waits.length g],.arr 1 (bools m.seen) 0 0,.arr 1 rows g 0]
theorem l171a (h:Std pg){body:CCode}(hb:body=c171l0){N:List (List PV)}{tos:List Port}(hl:tos.length<2 ^ 20) :
  ∀ (cnt j:Nat) (m:Marks) (rows:List (List PV)) (g:Nat),j+cnt=tos.length→WInv m rows→(∀ p,p∈tos→p.node<m.seen.length)→m.waits.length+cnt<2 ^ 30 →
   ∃ rows' g',WInv (m.marks (tos.drop j)) rows'∧L pg 2 [0,46,47,48] body [(0,.ptr 0 0),(46,.p (.sl (tos.map Port.enc))),(47,.p (.i .i64 tos.length)),(48,.p (.i .i64 j))] (mH N m rows g) =
    some (.exit 2,[(0,.ptr 0 0),(46,.p (.sl (tos.map Port.enc))),(47,.p (.i .i64 tos.length)),(48,.p (.i .i64 tos.length)),(49,.p (.b false))],mH N (m.marks (tos.drop j)) rows' g')
 |0,j,m,rows,g,hj,hi,hp,hw=>by
  have:j=tos.length:=by omega
  subst this
  rw[List.drop_length]
  refine ⟨rows,g,hi,?_⟩
  rw[k_L hb]
  simp[c171l0,leave,Marks.marks]
 |cnt+1,j,m,rows,g,hj,hi,hp,hw=>by
  have hlt:j<tos.length:=by omega
  have hd:tos.drop j=tos[j]::tos.drop (j+1):=List.drop_eq_getElem_cons hlt
  have hpj:=hp tos[j] (List.getElem_mem hlt)
  have hm:=t186 (pg:=pg) (N:=N) (L:=m.seen.length) (k:=m.waits.length) (g:=g) (i:=tos[j].node) (seen:=m.seen) (rows:=rows) (X:=[.box [.p (.i .i64 tos[j].node),.p (.i .i64 tos[j].slot)]]) h rfl hpj hi.len (by omega)
  rw[hd]
  simp only[Marks.marks]
  by_cases hs:m.seen[tos[j].node]?=some true
  ·have hmk:m.mark tos[j].node=m:=by unfold Marks.mark;rw[if_pos hs]
   rw[hmk]
   obtain ⟨rows',g',i',ih⟩:=l171a h hb (N:=N) hl cnt (j+1) m rows g (by omega) hi hp (by omega)
   refine ⟨rows',g',i',?_⟩
   rw[if_pos hs]at hm
   rw[show ((j+1:Nat):Int)=(j:Int)+1 from by omega]at ih
   generalize mH N (m.marks (tos.drop (j+1))) rows' g'=R at *
   simp only[mH]at ih ⊢
   rw[k_L hb]
   simp[c171l0,leave,hlt,Port.enc,okRow,hm,w64 ((j:Int)+1) (by omega) (by omega),gc,gcEnv,exp,expL,eOs,Exp.id,idxOf,List.range,List.range.loop,ih]
  ·have hmk:m.mark tos[j].node=⟨m.seen.set tos[j].node true,m.waits++[tos[j].node]⟩:=by unfold Marks.mark;rw[if_neg hs]
   obtain ⟨rows',g',i',ih⟩:=l171a h hb (N:=N) hl cnt (j+1) (m.mark tos[j].node) (rows.take m.waits.length++[[.i .i64 tos[j].node]]) (g+1) (by omega) (by
    rw[hmk]
    constructor
    ·dsimp only
     rw[List.take_of_length_le (by simp;omega),hi.take]
     simp[ints]
    ·have:=hi.len;simp;omega) (by rw[Marks.mark_len];exact hp) (by rw[hmk];simp;omega)
   refine ⟨rows',g',i',?_⟩
   rw[if_neg hs]at hm
   rw[show ((j+1:Nat):Int)=(j:Int)+1 from by omega]at ih
   generalize mH N ((m.mark tos[j].node).marks (tos.drop (j+1))) rows' g'=R at *
   rw[hmk]at ih
   simp only[mH,List.length_set,List.length_append,List.length_cons,List.length_nil,Nat.zero_add]at ih ⊢
   generalize rows.take m.waits.length++[[.i .i64 tos[j].node]]=rows2 at *
   generalize bools (m.seen.set tos[j].node true)=B at *
   rw[k_L hb]
   simp[c171l0,leave,hlt,Port.enc,okRow,hm,w64 ((j:Int)+1) (by omega) (by omega),gc,gcEnv,exp,expL,eOs,Exp.id,idxOf,List.range,List.range.loop,ih]
theorem l171 (h:Std pg){body:CCode}(hb:body=c171l1){l:List Node}(hl:l.length<2 ^ 20)(hto:∀ (i:Nat) (x:Node),l[i]?=some x→x.to.length<2 ^ 20∧∀ p,p∈x.to→p.node<l.length) :
  ∀ (f:Nat) (m:Marks) (rows:List (List PV)) (g:Nat),WInv m rows→m.seen.length=l.length→(∀ a,a∈m.waits→a<l.length)→m.left<f→f<2 ^ 22 →
   ∃ rows' g',L pg 2 [0] body [(0,.ptr 0 0)] (mH (l.map Node.enc) m rows g) =
    some (.exit 0,[(0,.ptr 0 0),(16,.p (.b false))],mH (l.map Node.enc) (Marks.all l f m) rows' g')∧(Marks.all l f m).seen.length=l.length
 |0,m,rows,g,hi,hs,hw,hf,hff=>by omega
 |f+1,m,rows,g,hi,hs,hw,hf,hff=>by
  rcases List.eq_nil_or_concat m.waits with hnil|⟨w0,i,hwc⟩
  ·have ha:Marks.all l (f+1) m=m:=by simp only[Marks.all];rw[hnil];rfl
   rw[ha]
   refine ⟨rows,g,?_,hs⟩
   rw[k_L hb]
   simp only[mH,hnil,List.length_nil]
   simp[c171l1,leave]
  ·rcases m with ⟨seen,waits⟩
   dsimp only at hwc hs hw
   rw[List.concat_eq_append]at hwc
   subst hwc
   have hil:=hw i (by simp)
   have hx:l[i]?=some l[i]:=gG hil
   obtain ⟨hxl,hxp⟩:=hto _ _ hx
   have hta:toAt l i=l[i].to:=by unfold toAt;rw[hx]
   have ha:Marks.all l (f+1) ⟨seen,w0++[i]⟩=Marks.all l f (({ seen:=seen,waits:=w0 }:Marks).marks l[i].to):=by
    simp only[Marks.all]
    simp[hta]
   have hleft:(⟨seen,w0++[i]⟩:Marks).left=(⟨seen,w0⟩:Marks).left+1:=by unfold Marks.left;simp;omega
   have hi1:=hi.take
   have hi2:=hi.len
   simp only[List.length_append,List.length_cons,List.length_nil,Nat.zero_add]at hi1 hi2
   have hi':WInv ⟨seen,w0⟩ rows:=by
    constructor
    ·dsimp only
     have:=congrArg (List.take w0.length) hi1
     rw[List.take_take,show min w0.length (w0.length+1)=w0.length from by omega]at this
     rw[this]
     simp[ints]
    ·dsimp only;omega
   have hrow:rows[w0.length]?=some [.i .i64 i]:=by
    have:(rows.take (w0.length+1))[w0.length]?=(ints (w0++[i]))[w0.length]?:=by rw[hi1]
    rw[List.getElem?_take,if_pos (by omega)]at this
    rw[this]
    simp[ints]
   have hrow2:∀ hh,rows[w0.length]'hh=[.i .i64 i]:=fun hh=>by
    have:=hrow
    rw[gG hh]at this
    exact Option.some.inj this
   have hw0:w0.length<2 ^ 22:=by unfold Marks.left at hleft hf;simp at hf;omega
   obtain ⟨rows1,g1,i1,hin⟩:=l171a h rfl (N:=l.map Node.enc) (tos:=l[i].to) hxl l[i].to.length 0 ⟨seen,w0⟩ rows g (by omega) hi' (by dsimp only;rw[hs];exact hxp) (by dsimp only;omega)
   rw[List.drop_zero]at i1 hin
   have hlen1:(({ seen:=seen,waits:=w0 }:Marks).marks l[i].to).seen.length=l.length:=by rw[Marks.marks_len];exact hs
   have hleft1:(({ seen:=seen,waits:=w0 }:Marks).marks l[i].to).left=(⟨seen,w0⟩:Marks).left:=Marks.marks_left _ _ (by dsimp only;rw[hs];exact hxp)
   obtain ⟨rows',g',ih,ihl⟩:=l171 h hb hl hto f _ rows1 g1 i1 hlen1 (by
    have:=Marks.marks_in l[i].to ⟨seen,w0⟩ (by dsimp only;rw[hs];exact hxp) (by dsimp only;rw[hs];intro a ha;exact hw a (by simp[ha]))
    dsimp only at this
    rw[hs]at this
    exact this) (by omega) (by omega)
   rw[ha]
   refine ⟨rows',g',?_,ihl⟩
   generalize mH (l.map Node.enc) (Marks.all l f (({ seen:=seen,waits:=w0 }:Marks).marks l[i].to)) rows' g'=R at *
   generalize ({ seen:=seen,waits:=w0 }:Marks).marks l[i].to=M at *
   rw[show ((0:Nat):Int)=0 from rfl]at hin
   simp only[mH,List.length_append,List.length_cons,List.length_nil,Nat.zero_add]at hin ih ⊢
   have e1:(0:Int)<(w0.length:Int)+1:=by omega
   have e2:(w0.length:Int)+1-1=w0.length:=by omega
   have e3:(w0.length:Int)<(w0.length:Int)+1:=by omega
   have e4:(w0.length:Int)≤(w0.length:Int)+1:=by omega
   rw[k_L hb]
   simp[c171l1,leave,Node.enc,okRow,e1,e2,e3,e4,hi2,hrow,hrow2,hil,evSub,w64 (w0.length:Int) (by omega) (by omega),gc,gcEnv,exp,expL,eOs,Exp.id,idxOf,List.range,List.range.loop,hin,ih]
def marks0 (l:List Node):Marks:=(⟨List.replicate l.length false,[]⟩:Marks).mark 0
def reachedOf (l:List Node):List Bool:=(Marks.all l (l.length+1) (marks0 l)).seen
theorem marks0_eq {l:List Node}(h:0<l.length):marks0 l=⟨(List.replicate l.length false).set 0 true,[0]⟩:=by
 unfold marks0 Marks.mark
 rw[if_neg (by simp[h])]
 rfl
theorem s171 (h:Std pg){l:List Node}(hl0:0<l.length)(hl:l.length<2 ^ 20)(hto:∀ (i:Nat) (x:Node),l[i]?=some x→x.to.length<2 ^ 20∧∀ p,p∈x.to→p.node<l.length) :
  ∃ rows' g',E pg 171 [.ptr 0 0,.p (.i .i64 0)] [.box [.p (.sl (l.map Node.enc)),.arr 1 l.length 0,.nils],.arr 1 (bools (List.replicate l.length false)) 0 0] =
   some (.ret (.tup []),mH (l.map Node.enc) (Marks.all l (l.length+1) (marks0 l)) rows' g'):=by
 have hm:=s186n (pg:=pg) (N:=l.map Node.enc) (L:=l.length) (i:=0) (seen:=List.replicate l.length false) h (by simp) (by simpa using hl0) (by simp[hl0])
 rw[show ((0:Nat):Int)=0 from rfl]at hm
 have hleft:(marks0 l).left=l.length:=by
  unfold marks0
  rw[Marks.mark_left (by simpa using hl0)]
  simp[Marks.left,List.countP_replicate]
 have hlen:(marks0 l).seen.length=l.length:=by rw[marks0_eq hl0];simp
 obtain ⟨rows',g',hL,_⟩:=l171 h rfl hl hto (l.length+1) (marks0 l) [[.i .i64 0]] 0 (by rw[marks0_eq hl0];exact ⟨rfl,by simp⟩) hlen (by rw[marks0_eq hl0];intro a ha;simp at ha;omega) (by omega) (by omega)
 refine ⟨rows',g',?_⟩
 generalize hR:mH (l.map Node.enc) (Marks.all l (l.length+1) (marks0 l)) rows' g'=R at *
 rw[marks0_eq hl0]at hL
 simp only[mH,List.length_set,List.length_replicate,List.length_cons,List.length_nil,Nat.zero_add]at hL
 rw[h.run (x:=c171) rfl (by decide) (by decide) (by decide) (by decide)]
 simp only[c171]
 rw[k_f]
 generalize bools ((List.replicate l.length false).set 0 true)=B at *
 have hcall:eCA pg (E pg) 186 [.ptr 0 0,.p (.i .i64 0)] [.box [.p (.sl (l.map Node.enc)),.arr 1 l.length 0,.nils],.arr 1 (bools (List.replicate l.length false)) 0 0]=some (.ret (.tup []),[.box [.p (.sl (l.map Node.enc)),.arr 1 l.length 0,.arr 3 1 0],.arr 1 B 0 0,.arr 1 [[.i .i64 0]] 0 0,.arr 1 [[.i .i64 0]] 0 0]):=by
  simp[eCA,expL,exp,Exp.id,idxOf,eOs,hm,Out.back,back,backL,backId,backObj,setAll]
 simp[leave,hcall,gc,gcEnv,exp,expL,eOs,Exp.id,idxOf,List.range,List.range.loop,hL]
theorem s146 (h:Std pg){n:Net}(hl0:0<n.nodes.length)(hl:n.nodes.length<2 ^ 20)(hto:∀ (i:Nat) (x:Node),n.nodes[i]?=some x→x.to.length<2 ^ 20∧∀ p,p∈x.to→p.node<n.nodes.length) :
  E pg 146 [.ag [.p (.sl (n.nodes.map Node.enc)),.p (.i .i64 n.cap)]] []=some (.ret (.p (.sl (bools (reachedOf n.nodes)))),[]):=by
 obtain ⟨rows',g',hs⟩:=s171 h hl0 hl hto
 have hlr:(reachedOf n.nodes).length=n.nodes.length:=by
  have hleft:(marks0 n.nodes).left=n.nodes.length:=by
   unfold marks0
   rw[Marks.mark_left (by simpa using hl0)]
   simp[Marks.left,List.countP_replicate]
  obtain ⟨_,_,_,hh⟩:=l171 (pg:=pg) h rfl hl hto (n.nodes.length+1) (marks0 n.nodes) [[.i .i64 0]] 0 (by rw[marks0_eq hl0];exact ⟨rfl,by simp⟩) (by rw[marks0_eq hl0];simp) (by rw[marks0_eq hl0];intro a ha;simp at ha;omega) (by omega) (by omega)
  exact hh
 have e1:roomy n.nodes.length 1=true:=by simp[roomy];omega
 have e2:List.replicate n.nodes.length [PV.b false]=bools (List.replicate n.nodes.length false):=by simp[bools]
 have e3:(bools (reachedOf n.nodes)).take n.nodes.length=bools (reachedOf n.nodes):=List.take_of_length_le (by simp[bools,hlr])
 have e4:n.nodes.length≤(bools (reachedOf n.nodes)).length:=by simp[bools,hlr]
 simp only[mH]at hs
 rw[show (Marks.all n.nodes (n.nodes.length+1) (marks0 n.nodes)).seen=reachedOf n.nodes from rfl,hlr]at hs
 have hcall:eCA pg (E pg) 171 [.ptr 2 0,.p (.i .i64 0)] [.box [.p (.sl (n.nodes.map Node.enc)),.p (.i .i64 n.cap)],.arr 1 (bools (List.replicate n.nodes.length false)) 0 0,.box [.p (.sl (n.nodes.map Node.enc)),.arr 1 n.nodes.length 0,.nils]]=some (.ret (.tup []),[.box [.p (.sl (n.nodes.map Node.enc)),.p (.i .i64 n.cap)],.arr 1 (bools (reachedOf n.nodes)) 0 0,.box [.p (.sl (n.nodes.map Node.enc)),.arr 1 n.nodes.length 0,.arr 3 (Marks.all n.nodes (n.nodes.length+1) (marks0 n.nodes)).waits.length g'],.arr 1 rows' g' 0]):=by
  simp[eCA,expL,exp,Exp.id,idxOf,eOs,hs,Out.back,back,backL,backId,backObj,setAll]
 rw[h.run (x:=c146) rfl (by decide) (by decide) (by decide) (by decide)]
 simp[c146,leave,okRow,e1,e2,hcall,e3,e4]
theorem reached_len (h:Std pg){n:Net}(hl0:0<n.nodes.length)(hl:n.nodes.length<2 ^ 20)(hto:∀ (i:Nat) (x:Node),n.nodes[i]?=some x→x.to.length<2 ^ 20∧∀ p,p∈x.to→p.node<n.nodes.length):(reachedOf n.nodes).length=n.nodes.length:=by
 have hleft:(marks0 n.nodes).left=n.nodes.length:=by
  unfold marks0
  rw[Marks.mark_left (by simpa using hl0)]
  simp[Marks.left,List.countP_replicate]
 obtain ⟨_,_,_,hh⟩:=l171 (pg:=pg) h rfl hl hto (n.nodes.length+1) (marks0 n.nodes) [[.i .i64 0]] 0 (by rw[marks0_eq hl0];exact ⟨rfl,by simp⟩) (by rw[marks0_eq hl0];simp) (by rw[marks0_eq hl0];intro a ha;simp at ha;omega) (by omega) (by omega)
 exact hh
def Net.sweep (n:Net):Net:=sweepTo n.nodes (reachedOf n.nodes) (n.nodes.length-1) n
theorem l133 (h:Std pg){body:CCode}(hb:body=c133l0){old:List Node}{seen:List Bool}{C:Nat}(hol:old.length<2 ^ 20)(hsl:seen.length=old.length) :
  ∀ (i:Nat) (n:Net),i<old.length→n.cap=C→n.nodes.length<2 ^ 20→(∀ j x,j≤i→old[j]?=some x→x.kind≠0→n.nodes[j]?=some x) →
   L pg 0 [1,2,3,4,5] body [(1,.ptr 0 0),(2,.ptr 1 0),(3,.p (.sl (old.map Node.enc))),(4,.p (.sl (bools seen))),(5,.p (.i .i64 i))] [.box [.p (.sl (n.nodes.map Node.enc)),.p (.i .i64 C)],.box [.nils,.p (.i .i64 0)]] =
   some (.exit 0,[(1,.ptr 0 0),(2,.ptr 1 0),(3,.p (.sl (old.map Node.enc))),(4,.p (.sl (bools seen))),(5,.p (.i .i64 0)),(18,.p (.b false))],[.box [.p (.sl ((sweepTo old seen i n).nodes.map Node.enc)),.p (.i .i64 C)],.box [.nils,.p (.i .i64 0)]])
 |0,n,hi,hc,hnl,hk=>by
  rw[k_L hb]
  simp[c133l0,leave,sweepTo]
 |i+1,n,hi,hc,hnl,hk=>by
  have hx:old[i+1]?=some old[i+1]:=gG hi
  have hs:seen[i+1]?=some seen[i+1]:=gG (by omega)
  have e1:(0:Int)<(i:Int)+1:=by omega
  have e2:(i:Int)+1-1=i:=by omega
  have e3:(0:Int)≤(i:Int)+1:=by omega
  have e4:((i:Int)+1).toNat=i+1:=by omega
  have hbl:(bools seen).length=old.length:=by simp[bools,hsl]
  simp only[show ((i+1:Nat):Int)=(i:Int)+1 from by omega]
  simp only[sweepTo]
  cases hsv:seen[i+1] with
  |true =>
   rw[hsv]at hs
   have ih:=l133 h hb hol hsl i n (by omega) hc hnl (fun j x hj=>hk j x (by omega))
   rw[if_neg (by rw[hs];simp)]
   have hbx:(bools seen)[i+1]?=some [.b true]:=by rw[gG (by omega),bools_at hs]
   rw[k_L hb]
   simp[c133l0,leave,e1,e2,e3,e4,okRow,hbx,bools_at hs,w64 (i:Int) (by omega) (by omega),gc,gcEnv,exp,expL,eOs,Exp.id,idxOf,List.range,List.range.loop,ih]
  |false =>
   rw[hsv]at hs
   have hbx:(bools seen)[i+1]?=some [.b false]:=by rw[gG (by omega),bools_at hs]
   by_cases hkx:old[i+1].kind=0
   ·have hkx':(old[i+1].kind:Int)=0:=by omega
    have ih:=l133 h hb hol hsl i n (by omega) hc hnl (fun j x hj=>hk j x (by omega))
    rw[if_neg (by unfold busyAt;rw[hx];simp[hkx])]
    rw[k_L hb]
    simp[c133l0,leave,e1,e2,e3,e4,okRow,hbx,bools_at hs,hx,hi,Node.enc,eq_true hkx,eq_true hkx',w64 (i:Int) (by omega) (by omega),gc,gcEnv,exp,expL,eOs,Exp.id,idxOf,List.range,List.range.loop,ih]
   ·have hkx':¬ (old[i+1].kind:Int)=0:=by omega
    have hni:=hk (i+1) _ (Nat.le_refl _) hx hkx
    have ih:=l133 h hb hol hsl i (n.free (i+1)) (by omega) (by exact hc) (by have:=Net.free_len n (i+1);omega) (fun j x hj hxj hkj=>Net.free_keep (hk j x (by omega) hxj hkj) hkj (by omega))
    have e5:=fun G=>t147 (G:=G) h (by omega:n.nodes.length<2 ^ 30) hni hkx
    rw[hc]at e5
    simp only[show ((i+1:Nat):Int)=(i:Int)+1 from by omega]at e5
    rw[if_pos ⟨hs,by unfold busyAt;rw[hx];simp[hkx]⟩]
    rw[k_L hb]
    simp[c133l0,leave,e1,e2,e3,e4,okRow,hbx,bools_at hs,hx,hi,Node.enc,hkx,hkx',e5,w64 (i:Int) (by omega) (by omega),gc,gcEnv,exp,expL,eOs,Exp.id,idxOf,List.range,List.range.loop,ih]
theorem sweepTo_cap (old:List Node)(seen:List Bool):∀ (i:Nat) (n:Net),(sweepTo old seen i n).cap=n.cap
 |0,n=>rfl
 |i+1,n=>by
  simp only[sweepTo]
  rw[sweepTo_cap]
  split<;>rfl
theorem Net.Ok.to_lt {n:Net}(ho:n.Ok):∀ (i:Nat) (x:Node),n.nodes[i]?=some x→x.to.length<2 ^ 20∧∀ p,p∈x.to→p.node<n.nodes.length:=by
 intro i x hx
 obtain ⟨x1,x2,_⟩:=ho.node _ _ hx
 have:=Node.ports_le x1 x2
 refine ⟨by omega,fun p hp=>?_⟩
 obtain ⟨k,hk,rfl⟩:=List.mem_iff_getElem.1 hp
 obtain ⟨_,y,hy,_⟩:=ho.at hx (gG hk)
 exact (gE hy).1
theorem t133 (h:Std pg){n:Net}(ho:n.Ok) :
  eCA pg (E pg) 133 [.ag [.p (.sl (n.nodes.map Node.enc)),.p (.i .i64 n.cap)]] G=some (.ret (.ag [.p (.sl (n.sweep.nodes.map Node.enc)),.p (.i .i64 n.sweep.cap)]),G):=by
 refine at_pure ?_ rfl rfl
 have hl:=ho.len
 have hc:=ho.cap
 have hrl:=reached_len h (by omega) (by omega) ho.to_lt
 have e1:=fun G=>at_pure (pg:=pg) (G:=G) (s146 h (by omega) (by omega) ho.to_lt) rfl rfl
 have hL:=l133 h rfl (old:=n.nodes) (seen:=reachedOf n.nodes) (C:=n.cap) (by omega) hrl (n.nodes.length-1) n (by omega) rfl (by omega) (fun j x _ hx _=>hx)
 rw[show sweepTo n.nodes (reachedOf n.nodes) (n.nodes.length-1) n=n.sweep from rfl,show ((n.nodes.length-1:Nat):Int)=(n.nodes.length:Int)-1 from by omega]at hL
 have hsc:n.sweep.cap=n.cap:=sweepTo_cap _ _ _ _
 have hbl:(bools (reachedOf n.nodes)).length=n.nodes.length:=by simp[bools,hrl]
 rw[hsc,h.run (x:=c133) rfl (by decide) (by decide) (by decide) (by decide)]
 simp[c133,leave,t128 h ho,e1,(show keepA pg 146=false from h.keep (x:=c146) rfl),hbl,w64 ((n.nodes.length:Int)-1) (by omega) (by omega),gc,gcEnv,exp,expL,eOs,Exp.id,idxOf,List.range,List.range.loop,hL]
theorem t126 (h:Std pg){n m:Net}{p:Plan}{i e:Nat}(h1:E pg 132 [.ag [.p (.sl (n.nodes.map Node.enc)),.p (.i .i64 n.cap)],.p (.i .i64 i)] []=some (.ret (.tup [.ag [.p (.sl (m.nodes.map Node.enc)),.p (.i .i64 m.cap)],.ag (pcs p.enc),.p (.i .i64 e)]),[]))(he:e≠121) :
  eCA pg (E pg) 126 [.ag [.p (.sl (n.nodes.map Node.enc)),.p (.i .i64 n.cap)],.p (.i .i64 i)] G=some (.ret (.tup [.ag [.p (.sl (m.nodes.map Node.enc)),.p (.i .i64 m.cap)],.ag (pcs p.enc),.p (.i .i64 e)]),G):=by
 refine at_pure ?_ rfl rfl
 have e1:=fun G=>at_pure (pg:=pg) (G:=G) h1 rfl rfl
 have he':¬ (e:Int)=121:=by omega
 simp only[Plan.enc,pcs,List.map_cons,List.map_nil]at e1 ⊢
 rw[h.run (x:=c126) rfl (by decide) (by decide) (by decide) (by decide)]
 simp[c126,leave,e1,he,he',show Nat.beq 3 2=false from rfl,show Nat.beq 4 1=false from rfl,show Nat.beq 4 2=false from rfl]
theorem t126s (h:Std pg){n m m':Net}{p p':Plan}{i e:Nat}(ho:n.Ok)(h1:E pg 132 [.ag [.p (.sl (n.nodes.map Node.enc)),.p (.i .i64 n.cap)],.p (.i .i64 i)] []=some (.ret (.tup [.ag [.p (.sl (m.nodes.map Node.enc)),.p (.i .i64 m.cap)],.ag (pcs p.enc),.p (.i .i64 121)]),[]))
  (h2:E pg 132 [.ag [.p (.sl (n.sweep.nodes.map Node.enc)),.p (.i .i64 n.sweep.cap)],.p (.i .i64 i)] []=some (.ret (.tup [.ag [.p (.sl (m'.nodes.map Node.enc)),.p (.i .i64 m'.cap)],.ag (pcs p'.enc),.p (.i .i64 e)]),[])) :
  eCA pg (E pg) 126 [.ag [.p (.sl (n.nodes.map Node.enc)),.p (.i .i64 n.cap)],.p (.i .i64 i)] G=some (if e=0 then .ret (.tup [.ag [.p (.sl (m'.nodes.map Node.enc)),.p (.i .i64 m'.cap)],.ag (pcs p'.enc),.p (.i .i64 0)]) else .ret (.tup [.ag [.p (.sl (n.nodes.map Node.enc)),.p (.i .i64 n.cap)],.ag (pcs (Plan.plain 0).enc),.p (.i .i64 121)]),G):=by
 have e1:=fun G=>at_pure (pg:=pg) (G:=G) h1 rfl rfl
 have e2:=fun G=>at_pure (pg:=pg) (G:=G) h2 rfl rfl
 have e3:=fun G=>t133 (G:=G) h ho
 by_cases he:e=0
 ·rw[if_pos he]
  subst he
  refine at_pure ?_ rfl rfl
  simp only[Plan.enc,pcs,List.map_cons,List.map_nil]at e1 e2 ⊢
  rw[h.run (x:=c126) rfl (by decide) (by decide) (by decide) (by decide)]
  simp[c126,leave,e1,e2,e3,show Nat.beq 3 2=false from rfl,show Nat.beq 4 1=false from rfl,show Nat.beq 4 2=false from rfl]
 ·rw[if_neg he]
  have he':¬ (e:Int)=0:=by omega
  refine at_pure ?_ rfl rfl
  simp only[Plan.enc,pcs,List.map_cons,List.map_nil]at e1 e2 ⊢
  rw[h.run (x:=c126) rfl (by decide) (by decide) (by decide) (by decide)]
  simp[c126,leave,e1,e2,e3,he,he',Plan.plain,Node.zero]
def tallyAV (T:List Nat):List AV:=T.map fun (k:Nat)=>AV.p (iv (k:Int))
def mach (n:Net)(T:List Nat)(d:Nat):List AV:=.p (.sl (n.nodes.map Node.enc))::.p (.i .i64 n.cap)::(tallyAV T++[.p (.i .i64 d)])
theorem flatAL_app:∀ (a b:List AV),flatAL (a++b)=(flatAL a && flatAL b)
 |[],b=>by simp[flatAL]
 |x::r,b=>by simp[flatAL,flatAL_app r b,Bool.and_assoc]
theorem tally_flat:∀ T,flatAL (tallyAV T)=true
 |[]=>rfl
 |k::r=>by simpa [tallyAV,flatAL,flatA] using tally_flat r
theorem mach_flat (n:Net)(T:List Nat)(d:Nat):flatAL (mach n T d)=true:=by
 simp[mach,flatAL,flatA,flatAL_app,tally_flat]
def bump (T:List Nat)(k:Nat):List Nat:=T.set k (T.getD k 0+1)
theorem tally_len (T:List Nat):(tallyAV T).length=T.length:=by simp[tallyAV]
theorem s117 (h:Std pg){n m:Net}{p:Plan}{i e d:Nat}{T:List Nat}(hT:T.length=9)(hTb:∀ k,k∈T→k<2 ^ 40)(hd:d<2 ^ 40)(hk:p.kind<9)(h1:∀ G,eCA pg (E pg) 126 [.ag [.p (.sl (n.nodes.map Node.enc)),.p (.i .i64 n.cap)],.p (.i .i64 i)] G=some (.ret (.tup [.ag [.p (.sl (m.nodes.map Node.enc)),.p (.i .i64 m.cap)],.ag (pcs p.enc),.p (.i .i64 e)]),G)) :
  E pg 117 [.ptr 0 0,.p (.i .i64 i)] [.box (mach n T d)]=some (.ret (.p (.i .i64 e)),[.box (if e=0 then mach m (bump T p.kind) (d+1) else mach n T d)]):=by
 obtain ⟨a0,a1,a2,a3,a4,a5,a6,a7,a8,rfl⟩:∃ a0 a1 a2 a3 a4 a5 a6 a7 a8,T=[a0,a1,a2,a3,a4,a5,a6,a7,a8]:=by
  match T,hT with
  |[a0,a1,a2,a3,a4,a5,a6,a7,a8],_=>exact ⟨a0,a1,a2,a3,a4,a5,a6,a7,a8,rfl⟩
 have hb:∀ j:Nat,j<2 ^ 40→IntKind.i64.wrap ((j:Int)+1)=(j:Int)+1:=fun j hj=>w64 _ (by omega) (by omega)
 by_cases he:e=0
 ·rw[if_pos he]
  subst he
  simp only[Plan.enc,pcs,List.map_cons,List.map_nil,mach,tallyAV,List.cons_append,List.nil_append]at h1 ⊢
  have hk':p.kind=0∨p.kind=1∨p.kind=2∨p.kind=3∨p.kind=4∨p.kind=5∨p.kind=6∨p.kind=7∨p.kind=8:=by omega
  simp at hTb
  obtain ⟨b0,b1,b2,b3,b4,b5,b6,b7,b8⟩:=hTb
  rw[h.run (x:=c117) rfl (by decide) (by decide) (by decide) (by decide)]
  rcases hk' with hk'|hk'|hk'|hk'|hk'|hk'|hk'|hk'|hk'
  all_goals
   rw[hk']at h1 ⊢
   simp[c117,leave,h1,hb _ b0,hb _ b1,hb _ b2,hb _ b3,hb _ b4,hb _ b5,hb _ b6,hb _ b7,hb _ b8,hb _ hd,bump]
 ·rw[if_neg he]
  have he':¬ (e:Int)=0:=by omega
  simp only[Plan.enc,pcs,List.map_cons,List.map_nil,mach,tallyAV,List.cons_append,List.nil_append]at h1 ⊢
  rw[h.run (x:=c117) rfl (by decide) (by decide) (by decide) (by decide)]
  simp[c117,leave,h1,he,he']
abbrev StepF:=Net→Nat→Net×Plan×Nat
def hRn (step:StepF):Nat→Net→Port→Net×List Nat×Nat×Nat
 |0,n,p=>if (n.next p).2.2≠0 then (n,[],0,(n.next p).2.2) else if (n.next p).2.1=false then (n,[],(n.next p).1,0) else (n,[],0,90)
 |l+1,n,p=>if (n.next p).2.2≠0 then (n,[],0,(n.next p).2.2) else if (n.next p).2.1=false then (n,[],(n.next p).1,0) else
  if (step n (n.next p).1).2.2≠0 then (n,[],0,(step n (n.next p).1).2.2) else
   ((hRn step l (step n (n.next p).1).1 p).1,(step n (n.next p).1).2.1.kind::(hRn step l (step n (n.next p).1).1 p).2.1,(hRn step l (step n (n.next p).1).1 p).2.2)
def StepSpec (pg:Prg)(step:StepF)(n:Net)(i:Nat):Prop:=(∀ G,eCA pg (E pg) 126 [.ag [.p (.sl (n.nodes.map Node.enc)),.p (.i .i64 n.cap)],.p (.i .i64 i)] G=some (.ret (.tup [.ag [.p (.sl ((step n i).1.nodes.map Node.enc)),.p (.i .i64 (step n i).1.cap)],.ag (pcs (step n i).2.1.enc),.p (.i .i64 (step n i).2.2)]),G))∧(step n i).2.1.kind<9
def HeadOK (pg:Prg)(step:StepF):Nat→Net→Port→Prop
 |0,n,p=>n.Ok∧n.has p
 |l+1,n,p=>n.Ok∧n.has p∧((n.next p).2.2=0→(n.next p).2.1=true→StepSpec pg step n (n.next p).1∧((step n (n.next p).1).2.2=0→HeadOK pg step l (step n (n.next p).1).1 p))
theorem t117 (h:Std pg){n m:Net}{p:Plan}{i e d:Nat}{T:List Nat}{Gs:Heap}(hT:T.length=9)(hTb:∀ k,k∈T→k<2 ^ 40)(hd:d<2 ^ 40)(hk:p.kind<9)(h1:∀ G,eCA pg (E pg) 126 [.ag [.p (.sl (n.nodes.map Node.enc)),.p (.i .i64 n.cap)],.p (.i .i64 i)] G=some (.ret (.tup [.ag [.p (.sl (m.nodes.map Node.enc)),.p (.i .i64 m.cap)],.ag (pcs p.enc),.p (.i .i64 e)]),G)) :
  eCA pg (E pg) 117 [.ptr 0 0,.p (.i .i64 i)] (.box (mach n T d)::Gs)=some (.ret (.p (.i .i64 e)),.box (if e=0 then mach m (bump T p.kind) (d+1) else mach n T d)::Gs) :=
 at_box0 (s117 h hT hTb hd hk h1) rfl (mach_flat _ _ _) (by split<;>exact mach_flat _ _ _) rfl
theorem bump_len (T:List Nat)(k:Nat):(bump T k).length=T.length:=by simp[bump]
theorem bump_le {T:List Nat}{k B:Nat}(hT:∀ a,a∈T→a<B)(hB:0<B):∀ a,a∈bump T k→a<B+1:=by
 intro a ha
 unfold bump at ha
 rcases List.mem_or_eq_of_mem_set ha with ha|rfl
 ·have:=hT a ha;omega
 ·rw[List.getD_eq_getElem?_getD]
  cases hg:T[k]? with
  |none=>simp;omega
  |some b=>have:=hT b (List.mem_of_getElem? hg);simp;omega
theorem mach_at11 {n:Net}{T:List Nat}{d:Nat}(hT:T.length=9):(mach n T d)[11]?=some (.p (.i .i64 d)):=by
 simp only[mach,List.getElem?_cons_succ]
 rw[List.getElem?_append_right (by rw[tally_len];omega),tally_len,hT]
 rfl
theorem mach_len {n:Net}{T:List Nat}{d:Nat}(hT:T.length=9):(mach n T d).length=12:=by
 simp[mach,tally_len,hT]
theorem l94 (h:Std pg){body:CCode}(hb:body=c94l0){step:StepF}{p:Port}{F:Nat}(hF:F<2 ^ 30) :
  ∀ (l d:Nat) (n:Net) (T:List Nat),d+l=F→T.length=9→(∀ k,k∈T→k<d+1)→HeadOK pg step l n p →
   kF 1 [.t 6,.t 7] false (kB 0 (L pg 1 [0,2,4] body [(0,.ptr 0 0),(2,.p (.i .i64 F)),(4,.ptr 1 0)] [.box (mach n T d),.box [.p (.i .i64 p.node),.p (.i .i64 p.slot)]])) =
    some (.ret (.tup [.p (.i .i64 (hRn step l n p).2.2.1),.p (.i .i64 (hRn step l n p).2.2.2)]),[.box (mach (hRn step l n p).1 ((hRn step l n p).2.1.foldl bump T) (d+(hRn step l n p).2.1.length))])
 |l,d,n,T,hdl,hT,hTb,hok=>by
  have hon:n.Ok∧n.has p:=by cases l<;>exact ⟨hok.1,by first|exact hok.2|exact hok.2.1⟩
  obtain ⟨ho,hp⟩:=hon
  have e1:=fun G=>t116 (G:=G) h ho hp
  have hm11:=mach_at11 (n:=n) (d:=d) hT
  have hmf:=mach_flat n T d
  have he:∀ e,expL true e (mach n T d)=some (mach n T d,e):=fun e=>flatAL_exp true e hmf
  have hbl:=flatAL_below 1 hmf
  have hm11b:∀ hh,(mach n T d)[11]'hh=.p (.i .i64 d):=fun hh=>by
   have:=hm11
   rw[gG hh]at this
   exact Option.some.inj this
  have hml:=mach_len (n:=n) (d:=d) hT
  have hmt:(mach n T d).take 2=[.p (.sl (n.nodes.map Node.enc)),.p (.i .i64 n.cap)]:=by simp[mach]
  rw[k_L hb]
  by_cases c1:(n.next p).2.2=0
  ·have c1':((n.next p).2.2:Int)=0:=by omega
   cases c2:(n.next p).2.1 with
   |false =>
    have hr:hRn step l n p=(n,[],(n.next p).1,0):=by cases l<;>simp[hRn,c1,c2]
    rw[hr]
    simp[c94l0,leave,hml,hmt,e1,eq_true c1,eq_true c1',c2,hbl]
   |true =>
    cases l with
    |zero =>
     have hr:hRn step 0 n p=(n,[],0,90):=by simp[hRn,c1,c2]
     have hdF:d=F:=by omega
     subst hdF
     rw[hr]
     simp[c94l0,leave,hml,hmt,hm11,hm11b,e1,eq_true c1,eq_true c1',c2,hbl]
    |succ l =>
     obtain ⟨_,_,hst⟩:=hok
     obtain ⟨⟨s1,s2⟩,s3⟩:=hst c1 c2
     have hdF:¬ d=F:=by omega
     have hdF':¬ (d:Int)=F:=by omega
     have e2:=fun Gs=>t117 (Gs:=Gs) (T:=T) (d:=d) h hT (fun k hk=>by have:=hTb k hk;omega) (by omega) s2 s1
     by_cases c3:(step n (n.next p).1).2.2=0
     ·have c3':((step n (n.next p).1).2.2:Int)=0:=by omega
      have ih:=l94 h hb hF l (d+1) (step n (n.next p).1).1 (bump T (step n (n.next p).1).2.1.kind) (by omega) (by rw[bump_len];exact hT) (bump_le hTb (by omega)) (s3 c3)
      have hr:hRn step (l+1) n p=((hRn step l (step n (n.next p).1).1 p).1,(step n (n.next p).1).2.1.kind::(hRn step l (step n (n.next p).1).1 p).2.1,(hRn step l (step n (n.next p).1).1 p).2.2):=by
       conv=>lhs;unfold hRn
       rw[if_neg (by simpa using c1),if_neg (by rw[c2];simp),if_neg (by simpa using c3)]
      have hmf2:=mach_flat (step n (n.next p).1).1 (bump T (step n (n.next p).1).2.1.kind) (d+1)
      have he2:∀ e,expL true e (mach (step n (n.next p).1).1 (bump T (step n (n.next p).1).2.1.kind) (d+1))=some (mach (step n (n.next p).1).1 (bump T (step n (n.next p).1).2.1.kind) (d+1),e):=fun e=>flatAL_exp true e hmf2
      rw[hr]
      simp only[List.foldl_cons,List.length_cons]
      rw[show d+((hRn step l (step n (n.next p).1).1 p).2.1.length+1)=d+1+(hRn step l (step n (n.next p).1).1 p).2.1.length from by omega]
      simp only[c3,if_true]at e2
      generalize (hRn step l (step n (n.next p).1).1 p)=R at *
      generalize mach (step n (n.next p).1).1 (bump T (step n (n.next p).1).2.1.kind) (d+1)=M2 at *
      simp[c94l0,leave,hml,hmt,hm11,hm11b,e1,eq_true c1,eq_true c1',c2,hdF,hdF',e2,c3,gc,gcEnv,exp,expL,eOs,Exp.id,idxOf,List.range,List.range.loop,he2,ih]
     ·have c3':¬ ((step n (n.next p).1).2.2:Int)=0:=by omega
      have hr:hRn step (l+1) n p=(n,[],0,(step n (n.next p).1).2.2):=by
       conv=>lhs;unfold hRn
       rw[if_neg (by simpa using c1),if_neg (by rw[c2];simp),if_pos (by simpa using c3)]
      rw[hr]
      simp only[c3,if_false]at e2
      simp[c94l0,leave,hml,hmt,hm11,hm11b,e1,eq_true c1,eq_true c1',c2,hdF,hdF',e2,c3,c3',hbl]
  ·have c1':¬ ((n.next p).2.2:Int)=0:=by omega
   have hr:hRn step l n p=(n,[],0,(n.next p).2.2):=by cases l<;>simp[hRn,c1]
   rw[hr]
   simp[c94l0,leave,hml,hmt,e1,c1,c1',hbl]
def tally0:List Nat:=[0,0,0,0,0,0,0,0,0]
theorem foldl_bump_len:∀ (l T:List Nat),(l.foldl bump T).length=T.length
 |[],T=>rfl
 |k::r,T=>by simp only[List.foldl_cons];rw[foldl_bump_len r,bump_len]
theorem s94 (h:Std pg){step:StepF}{n:Net}{p:Port}{F:Nat}(hF:F<2 ^ 30)(hok:HeadOK pg step F n p) :
  E pg 94 [.ptr 0 0,.ag [.p (.i .i64 p.node),.p (.i .i64 p.slot)],.p (.i .i64 F)] [.box (mach n tally0 0)]=some (.ret (.tup [.p (.i .i64 (hRn step F n p).2.2.1),.p (.i .i64 (hRn step F n p).2.2.2)]),[.box (mach (hRn step F n p).1 ((hRn step F n p).2.1.foldl bump tally0) ((hRn step F n p).2.1.length))]):=by
 have hL:=l94 h rfl hF F 0 n tally0 (by omega) rfl (by simp[tally0]) hok
 rw[Nat.zero_add]at hL
 have hmf:=mach_flat n tally0 0
 have he:∀ e,expL true e (mach n tally0 0)=some (mach n tally0 0,e):=fun e=>flatAL_exp true e hmf
 rw[h.run (x:=c94) rfl (by decide) (by decide) (by decide) (by decide)]
 simp[c94,leave,gc,gcEnv,exp,expL,eOs,Exp.id,idxOf,List.range,List.range.loop,he,hL]
theorem s66 (h:Std pg){step:StepF}{n:Net}{p:Port}{F:Nat}(hF:F≤100000)(hok:HeadOK pg step F n p) :
  E pg 66 [.ag [.p (.sl (n.nodes.map Node.enc)),.p (.i .i64 n.cap)],.ag [.p (.i .i64 p.node),.p (.i .i64 p.slot)],.p (.i .i64 F)] []=some (.ret (.tup [.ag [.p (.sl ((hRn step F n p).1.nodes.map Node.enc)),.p (.i .i64 (hRn step F n p).1.cap)],.p (.i .i64 (hRn step F n p).2.2.1),.ag (tallyAV ((hRn step F n p).2.1.foldl bump tally0)),.p (.i .i64 (hRn step F n p).2.2.2)]),[]):=by
 have hs:=s94 h (by omega) hok
 have hT:((hRn step F n p).2.1.foldl bump tally0).length=9:=by rw[foldl_bump_len];rfl
 have e1:=at_box (pg:=pg) (k:=4) (G:=[.box [.p (.sl (n.nodes.map Node.enc)),.p (.i .i64 n.cap)],.box [.p (.i .i64 p.node),.p (.i .i64 p.slot)],.box [.nils,.p (.i .i64 0)],.box [.p (.i .i64 0),.p (.i .i64 0),.p (.i .i64 0),.p (.i .i64 0),.p (.i .i64 0),.p (.i .i64 0),.p (.i .i64 0),.p (.i .i64 0),.p (.i .i64 0)],.box (mach n tally0 0)]) hs rfl rfl (mach_flat _ _ _) (mach_flat _ _ _) rfl
 generalize (hRn step F n p)=R at *
 rcases R with ⟨m,ks,at',err⟩
 dsimp only at hT e1 ⊢
 generalize ks.foldl bump tally0=T at *
 obtain ⟨a0,a1,a2,a3,a4,a5,a6,a7,a8,rfl⟩:∃ a0 a1 a2 a3 a4 a5 a6 a7 a8,T=[a0,a1,a2,a3,a4,a5,a6,a7,a8]:=by
  match T,hT with
  |[a0,a1,a2,a3,a4,a5,a6,a7,a8],_=>exact ⟨a0,a1,a2,a3,a4,a5,a6,a7,a8,rfl⟩
 simp only[mach,tallyAV,tally0,List.map_cons,List.map_nil,List.cons_append,List.nil_append,List.set_cons_succ,List.set_cons_zero,show ((0:Nat):Int)=0 from rfl]at e1 ⊢
 have hF1:¬ (F:Int)<0:=by omega
 have hF2:¬ (100000:Int)<F:=by omega
 have hF3:¬ 100000<F:=by omega
 rw[h.run (x:=c66) rfl (by decide) (by decide) (by decide) (by decide)]
 simp[c66,leave,hF1,hF2,hF3,e1,show Nat.beq 4 2=false from rfl]
def Net.actR (n:Net)(i:Nat):Net×Plan×Nat:=match n.nodes[i]?,n.nodes[(n.pr ⟨i,0⟩).node]? with
 |some x,some y=>(match act0 n i (n.pr ⟨i,0⟩).node x y with
  |some e=>(n,.plain 0,e)
  |none=>((n.actD (ruleOf x y).1 (if (ruleOf x y).1.swap then (n.pr ⟨i,0⟩).node else i) (if (ruleOf x y).1.swap then i else (n.pr ⟨i,0⟩).node) (if (ruleOf x y).1.swap then y else x) (if (ruleOf x y).1.swap then x else y)).free2
    (if (ruleOf x y).1.swap then (n.pr ⟨i,0⟩).node else i) (if (ruleOf x y).1.swap then i else (n.pr ⟨i,0⟩).node),(ruleOf x y).1,0))
 |_,_=>(n,.plain 0,140)
structure Stay (n m:Net)(i j:Nat):Prop where
 ok:m.Ok
 cap:m.cap=n.cap
 fix:∀ r,Fix n i j r→m.has r∧m.pr r=n.pr r
 keep:∀ (k:Nat) (y:Node),k≠i→k≠j→n.nodes[k]?=some y→y.kind≠0→∃ y',m.nodes[k]?=some y'∧y'.bare=y.bare
 i0:i≠0
 j0:j≠0
theorem Fix.swap {n:Net}{a b:Nat}{r:Port}(h:Fix n a b r):Fix n b a r:=⟨h.1,h.2.2.1,h.2.1,h.2.2.2.2,h.2.2.2.1⟩
theorem Meet.two {n:Net}{i j:Nat}{x y:Node}(h:Meet n i j x y):Two n i j x y:=by
 refine ⟨h.ok,h.hx,h.hy,h.x1,?_,h.pr⟩
 obtain ⟨⟨z,hz,hs⟩,_⟩:=h.ok.lk ⟨i,0⟩ ⟨x,h.hx,h.x1⟩ id
 rw[h.pr]at hz hs
 dsimp only at hz hs
 rw[h.hy]at hz
 cases hz
 omega
theorem PlanOK.two {p:Plan}{x y:Node}(h:PlanOK p x y):2≤x.kind∧2≤y.kind∧p.kind<9:=by
 rcases h with ⟨k,c1,c2⟩|⟨k,c1,c2⟩|⟨k,c1,c2,c3⟩|⟨k,c1,c2⟩|⟨k,c1,c2,z,c3,c4⟩|⟨k,c1,c2⟩|⟨k,c1,c2,c3,c4⟩|⟨k,c1,c2⟩
 ·omega
 ·have:=cls3 c2;omega
 ·omega
 ·omega
 ·omega
 ·have:=cls1 c1;have:=cls_two (k:=y.kind) (by omega);omega
 ·have:=cls3 c1;omega
 ·omega
theorem Meet.actR_eq {n:Net}{i j:Nat}{x y:Node}(hm:Meet n i j x y):n.actR i=match act0 n i j x y with
  |some e=>(n,.plain 0,e)
  |none=>((n.actD (ruleOf x y).1 (if (ruleOf x y).1.swap then j else i) (if (ruleOf x y).1.swap then i else j) (if (ruleOf x y).1.swap then y else x) (if (ruleOf x y).1.swap then x else y)).free2
    (if (ruleOf x y).1.swap then j else i) (if (ruleOf x y).1.swap then i else j),(ruleOf x y).1,0):=by
 unfold Net.actR
 rw[hm.pr]
 dsimp only
 rw[hm.hx,hm.hy]
theorem act0_err {n:Net}{i j:Nat}{x y:Node}{e:Nat}(h:act0 n i j x y=some e):e≠0:=by
 unfold act0 at h
 split at h
 ·cases h;assumption
 ·split at h
  ·cases h;omega
  ·cases h
theorem actR_spec (h:Std pg){n:Net}{i j:Nat}{x y:Node}(hm:Meet n i j x y) :
  E pg 132 [.ag [.p (.sl (n.nodes.map Node.enc)),.p (.i .i64 n.cap)],.p (.i .i64 i)] []=some (.ret (.tup [.ag [.p (.sl ((n.actR i).1.nodes.map Node.enc)),.p (.i .i64 (n.actR i).1.cap)],.ag (pcs (n.actR i).2.1.enc),.p (.i .i64 (n.actR i).2.2)]),[])∧(n.actR i).2.1.kind<9∧((n.actR i).2.2=0→Stay n (n.actR i).1 i j):=by
 rw[hm.actR_eq]
 cases ha:act0 n i j x y with
 |some e=>exact ⟨s132e h hm ha,by show 0<9;omega,fun e0=>absurd e0 (act0_err ha)⟩
 |none =>
  dsimp only
  have hr:(ruleOf x y).2=0:=by
   unfold act0 at ha
   split at ha
   ·cases ha
   ·omega
  have hu:n.used+need2 (ruleOf x y).1 (if (ruleOf x y).1.swap then y else x) (if (ruleOf x y).1.swap then x else y)≤n.cap:=by
   unfold act0 at ha
   rw[if_neg (by omega)]at ha
   split at ha
   ·cases ha
   ·rw[need_eq]at *
    omega
  have hp:=plan_ok hr
  have ht:=hm.two
  obtain ⟨kx,ky,kp⟩:=hp.two
  cases hs:(ruleOf x y).1.swap with
  |false =>
   have hp':=hp
   have hu':=hu
   rw[hs]at hp' hu'
   obtain ⟨d,hE⟩:=act_ok h ht hp' hu'
   have hd:=s132 h hm ha (m:=(n.actD (ruleOf x y).1 i j x y).free2 i j) (by rw[hs];simpa [hs] using hE)
   refine ⟨hd,kp,fun _=>?_⟩
   simp only[hs,Bool.false_eq_true,if_false]at kx ky ⊢
   refine ⟨d.ok,d.cap,d.fix,d.keep,fun e=>?_,fun e=>?_⟩
   ·have:=(ht.ok.node _ _ ht.hx).2.2.2 e;omega
   ·have:=(ht.ok.node _ _ ht.hy).2.2.2 e;omega
  |true =>
   have hp':=hp
   have hu':=hu
   rw[hs]at hp' hu'
   obtain ⟨d,hE⟩:=act_ok h ht.swap hp' hu'
   have hd:=s132 h hm ha (m:=(n.actD (ruleOf x y).1 j i y x).free2 j i) (by rw[hs];simpa [hs] using hE)
   refine ⟨hd,kp,fun _=>?_⟩
   simp only[hs,if_true]at kx ky ⊢
   refine ⟨d.ok,d.cap,fun r hr=>d.fix r hr.swap,fun k z h1 h2=>d.keep k z h2 h1,fun e=>?_,fun e=>?_⟩
   ·have:=(ht.ok.node _ _ ht.hx).2.2.2 e;omega
   ·have:=(ht.ok.node _ _ ht.hy).2.2.2 e;omega
end Go.Proofs.Z
end
section
namespace Go.Proofs.Z
open Go Go.Proofs
variable {pg:Prg}{G:Heap}
inductive Net.Reach (n:Net):Nat→Prop
 |root:n.Reach 0
 |step {i:Nat} {x:Node} {p:Port}:n.Reach i→n.nodes[i]?=some x→p∈x.to→n.Reach p.node
def Marks.Inv (l:List Node)(m:Marks):Prop:=∀ (i:Nat) (x:Node),m.seen[i]?=some true→l[i]?=some x→i∈m.waits∨∀ p,p∈x.to→m.seen[p.node]?=some true
theorem Marks.mark_mono (m:Marks)(i j:Nat)(h:m.seen[j]?=some true):(m.mark i).seen[j]?=some true:=by
 unfold Marks.mark
 split
 ·exact h
 ·dsimp only
  rw[List.getElem?_set]
  split
  ·have:=(gE h).1
   rename_i e
   rw[if_pos (by omega)]
  ·exact h
theorem Marks.marks_mono:∀ (l:List Port) (m:Marks) (j:Nat),m.seen[j]?=some true→(m.marks l).seen[j]?=some true
 |[],m,j,h=>h
 |p::r,m,j,h=>Marks.marks_mono r _ j (Marks.mark_mono m _ j h)
theorem Marks.mark_at {m:Marks}{i:Nat}(h:i<m.seen.length):(m.mark i).seen[i]?=some true:=by
 unfold Marks.mark
 split
 ·assumption
 ·dsimp only
  rw[List.getElem?_set,if_pos rfl,if_pos h]
theorem Marks.marks_at:∀ (l:List Port) (m:Marks),(∀ p,p∈l→p.node<m.seen.length)→∀ p,p∈l→(m.marks l).seen[p.node]?=some true
 |[],m,_,p,hp=>absurd hp (by simp)
 |q::r,m,h,p,hp=>by
  rcases List.mem_cons.1 hp with rfl|hp
  ·exact Marks.marks_mono r _ _ (Marks.mark_at (h _ (by simp)))
  ·exact Marks.marks_at r _ (fun s hs=>by rw[Marks.mark_len];exact h s (by simp[hs])) p hp
theorem Marks.mark_waits {m:Marks}{i j:Nat}(h:(m.mark i).seen[j]?=some true):m.seen[j]?=some true∨j∈(m.mark i).waits:=by
 unfold Marks.mark at h ⊢
 split at h
 ·exact .inl h
 ·rename_i c
  rw[if_neg c]
  dsimp only at h ⊢
  rw[List.getElem?_set]at h
  split at h
  ·rename_i e
   exact .inr (by simp[e])
  ·exact .inl h
theorem Marks.mark_keepw {m:Marks}{i j:Nat}(h:j∈m.waits):j∈(m.mark i).waits:=by
 unfold Marks.mark
 split
 ·exact h
 ·simp[h]
theorem Marks.marks_keepw:∀ (l:List Port) (m:Marks) (j:Nat),j∈m.waits→j∈(m.marks l).waits
 |[],m,j,h=>h
 |p::r,m,j,h=>Marks.marks_keepw r _ j (Marks.mark_keepw h)
theorem Marks.marks_waits:∀ (l:List Port) (m:Marks) (j:Nat),(m.marks l).seen[j]?=some true→m.seen[j]?=some true∨j∈(m.marks l).waits
 |[],m,j,h=>.inl h
 |p::r,m,j,h=>by
  rcases Marks.marks_waits r _ j h with h|h
  ·rcases Marks.mark_waits h with h|h
   ·exact .inl h
   ·exact .inr (Marks.marks_keepw r _ j h)
  ·exact .inr h
theorem Marks.all_closed (l:List Node)(hl:∀ (i:Nat) (x:Node),l[i]?=some x→∀ p,p∈x.to→p.node<l.length):∀ (f:Nat) (m:Marks),m.left<f→m.seen.length=l.length→(∀ a,a∈m.waits→a<m.seen.length)→m.Inv l →
  (∀ j:Nat,m.seen[j]?=some true→(Marks.all l f m).seen[j]?=some true)∧(Marks.all l f m).seen.length=l.length∧∀ (i:Nat) (x:Node),(Marks.all l f m).seen[i]?=some true→l[i]?=some x→∀ p,p∈x.to→(Marks.all l f m).seen[p.node]?=some true
 |0,m,h,_,_,_=>by omega
 |f+1,m,h,hs,hw,hi=>by
  unfold Marks.all
  cases hg:m.waits.getLast? with
  |none =>
   dsimp only
   rw[List.getLast?_eq_none_iff]at hg
   refine ⟨fun _ h=>h,hs,fun i x h1 h2=>?_⟩
   rcases hi i x h1 h2 with h3|h3
   ·rw[hg]at h3;cases h3
   ·exact h3
  |some k =>
   dsimp only
   obtain ⟨ys,hys⟩:=List.getLast?_eq_some_iff.1 hg
   have hkm:k∈m.waits:=by rw[hys];simp
   have hk:=hw k hkm
   have hdl:m.waits.dropLast=ys:=by rw[hys];simp
   have hto:∀ p,p∈toAt l k→p.node<m.seen.length:=by
    intro p hp
    unfold toAt at hp
    split at hp
    ·rename_i x hx;rw[hs];exact hl k x hx p hp
    ·cases hp
   have hleft:(({ m with waits:=m.waits.dropLast }:Marks).marks (toAt l k)).left=m.left-1:=by
    rw[Marks.marks_left (toAt l k) ({ m with waits:=m.waits.dropLast }:Marks) hto]
    unfold Marks.left
    dsimp only
    have:0<m.waits.length:=List.length_pos_of_mem hkm
    rw[List.length_dropLast]
    omega
   have hpos:0<m.left:=by
    have:0<m.waits.length:=List.length_pos_of_mem hkm
    unfold Marks.left;omega
   obtain ⟨c1,c2,c3⟩:=Marks.all_closed l hl f (({ m with waits:=m.waits.dropLast }:Marks).marks (toAt l k)) (by rw[hleft];omega) (by rw[Marks.marks_len];exact hs)
    (by rw[Marks.marks_len];exact Marks.marks_in _ _ hto (fun a ha=>hw a (List.dropLast_subset _ ha))) (fun i x h1 h2=>by
     rcases Marks.marks_waits _ _ i h1 with h3|h3
     ·rcases hi i x h3 h2 with h4|h4
      ·rw[hys]at h4
       rcases List.mem_append.1 h4 with h5|h5
       ·exact .inl (Marks.marks_keepw _ _ _ (by show i∈m.waits.dropLast;rw[hdl];exact h5))
       ·rw[List.mem_singleton]at h5
        subst h5
        refine .inr (fun p hp=>Marks.marks_at _ ({ m with waits:=m.waits.dropLast }:Marks) hto p ?_)
        unfold toAt
        rw[h2]
        exact hp
      ·exact .inr (fun p hp=>Marks.marks_mono _ _ _ (h4 p hp))
     ·exact .inl h3)
   exact ⟨fun j hj=>c1 j (Marks.marks_mono _ _ _ hj),c2,c3⟩
theorem reached_closed {l:List Node}(h0:0<l.length)(hl:∀ (i:Nat) (x:Node),l[i]?=some x→∀ p,p∈x.to→p.node<l.length) :
  (reachedOf l)[0]?=some true∧(reachedOf l).length=l.length∧∀ (i:Nat) (x:Node),(reachedOf l)[i]?=some true→l[i]?=some x→∀ p,p∈x.to→(reachedOf l)[p.node]?=some true:=by
 have e:=marks0_eq h0
 have hleft:(marks0 l).left=l.length:=by
  unfold marks0
  rw[Marks.mark_left (by simpa using h0)]
  simp[Marks.left,List.countP_replicate]
 obtain ⟨c1,c2,c3⟩:=Marks.all_closed l hl (l.length+1) (marks0 l) (by rw[hleft];omega) (by rw[e];simp) (by rw[e];intro a ha;simp at ha;subst ha;simpa using h0) (fun i x h1 h2=>by
  rw[e]at h1 ⊢
  dsimp only at h1 ⊢
  rw[List.getElem?_set]at h1
  split at h1
  ·rename_i e0;exact .inl (by simp[e0])
  ·rw[List.getElem?_replicate]at h1
   split at h1<;>cases h1)
 refine ⟨c1 0 (by rw[e];simp[h0]),c2,c3⟩
theorem reach_seen {n:Net}(ho:n.Ok){i:Nat}(h:n.Reach i):(reachedOf n.nodes)[i]?=some true:=by
 have hl:=ho.len
 obtain ⟨a1,a2,a3⟩:=reached_closed (l:=n.nodes) (by omega) (fun i x hx p hp=>(ho.to_lt i x hx).2 p hp)
 induction h with
 |root=>exact a1
 |step h1 h2 h3 ih=>exact a3 _ _ ih h2 _ h3
theorem sweepTo_sk {old:List Node}{seen:List Bool}(D:Port→Prop)(hD:∀ p:Port,seen[p.node]?≠some true→D p):∀ (i:Nat) {n:Net},n.Sk→Lk n D →
  (sweepTo old seen i n).Sk∧Lk (sweepTo old seen i n) D∧(∀ p,(sweepTo old seen i n).has p↔n.has p∧¬ (1≤p.node∧p.node≤i∧seen[p.node]?=some false∧busyAt old p.node=true)) ∧
  (∀ (j:Nat) (x:Node),seen[j]?=some true→n.nodes[j]?=some x→x.kind≠0→(sweepTo old seen i n).nodes[j]?=some x)
 |0,n,h,hl=>⟨h,hl,fun p=>by simp[sweepTo];omega,fun j x _ hx _=>hx⟩
 |i+1,n,h,hl=>by
  simp only[sweepTo]
  split
  ·rename_i c
   have h1:=h.free (i:=i+1) (by omega)
   have h2:=hl.free h (i:=i+1) (fun p _ hp=>hD p (by rw[hp,c.1];simp))
   obtain ⟨a1,a2,a3,a4⟩:=sweepTo_sk D hD i h1 h2
   refine ⟨a1,a2,fun p=>?_,fun j x hj hx hk=>a4 j x hj (Net.free_keep hx hk (fun e=>by rw[← e,c.1]at hj;cases hj)) hk⟩
   rw[a3,h.free_has]
   constructor
   ·rintro ⟨⟨b1,b2⟩,b3⟩
    refine ⟨b1,fun e=>b3 ⟨e.1,by omega,e.2.2⟩⟩
   ·rintro ⟨b1,b2⟩
    refine ⟨⟨b1,fun e=>b2 ⟨by omega,by omega,by rw[e];exact c⟩⟩,fun e=>b2 ⟨e.1,by omega,e.2.2⟩⟩
  ·rename_i c
   obtain ⟨a1,a2,a3,a4⟩:=sweepTo_sk D hD i h hl
   refine ⟨a1,a2,fun p=>?_,a4⟩
   rw[a3]
   constructor
   ·rintro ⟨b1,b2⟩
    refine ⟨b1,fun e=>?_⟩
    by_cases e1:p.node=i+1
    ·exact c (by rw[← e1];exact e.2.2)
    ·exact b2 ⟨e.1,by omega,e.2.2⟩
   ·rintro ⟨b1,b2⟩
    exact ⟨b1,fun e=>b2 ⟨e.1,by omega,e.2.2⟩⟩
theorem sweep_ok {n:Net}(ho:n.Ok):n.sweep.Ok∧n.sweep.cap=n.cap∧∀ (j:Nat) (x:Node),n.Reach j→n.nodes[j]?=some x→x.kind≠0→n.sweep.nodes[j]?=some x:=by
 have hlen:=ho.len
 obtain ⟨r1,r2,r3⟩:=reached_closed (l:=n.nodes) (by omega) (fun i x hx p hp=>(ho.to_lt i x hx).2 p hp)
 obtain ⟨a1,a2,a3,a4⟩:=sweepTo_sk (old:=n.nodes) (seen:=reachedOf n.nodes) (fun p=>(reachedOf n.nodes)[p.node]?≠some true) (fun p hp=>hp) (n.nodes.length-1) (n:=n) ho.sk (fun p hp hD=>by
  obtain ⟨b1,b2,b3,b4⟩:=ho.lk p hp id
  refine ⟨b1,fun e=>e ?_,b3,b4⟩
  obtain ⟨x,hx,hs⟩:=Net.has_pr hp
  exact r3 p.node x (by simpa using hD) hx _ (List.mem_of_getElem? hs))
 refine ⟨a1.ok a2 (fun p hp hD=>?_),sweepTo_cap _ _ _ _,fun j x hj hx hk=>a4 j x (reach_seen ho hj) hx hk⟩
 obtain ⟨c1,c2⟩:=(a3 p).1 hp
 obtain ⟨x,hx,hs⟩:=c1
 have hlt:p.node<n.nodes.length:=(gE hx).1
 have hk:x.kind≠0:=fun e=>by have:=ho.sk.free_ports hx e;omega
 have hne:p.node≠0:=fun e=>hD (by rw[e];exact r1)
 refine c2 ⟨by omega,by omega,?_,by unfold busyAt;rw[hx];simpa using hk⟩
 have:p.node<(reachedOf n.nodes).length:=by rw[r2];exact hlt
 rw[gG this]at hD ⊢
 simp only[ne_eq,Option.some.injEq,Bool.not_eq_true]at hD
 rw[hD]
end Go.Proofs.Z
end
