/- A part of the proof. -/
import Derived.Test.YtffohgbmjjbhiaaGreatA17
set_option linter.all false
section
namespace Go.Proofs.Z
open Go Go.Proofs
attribute [local simp] k_nil k_ops k_opsg kG_true kG_false kO_val kO_pan k_seq kS_n kS_r kS_e kS_p k_o kR_n kR_p kD2_n kD1_n k_d k_c kC_t kC_f k_b kB_n kB_r kB_p kB_e k_skip k_ret k_exit k_l kL_s kLp_n kLp_r kLp_e kLp_p k_f kF_n kF_r kF_p kV_f kV_t kN_s evOp evBin gOK opd opds lk put restr iEv evRes whole norm normL one Out.below below belowL bOb evStore evLoad evLen AV.cells AV.flat PV.flat splice fillAt pcs isStr rowsOf Res.of evCmp lvE leafEq asInt noIdAt noId noIdL tids chkOK
variable {G:Heap}
theorem altsFrom_raw (all:List (List UInt8×Nat)):∀ (l:List (List UInt8×Nat)) (i:Nat),altsFrom all i l=true→allI (ralt (all.map rawAr)) i (l.map rawAr)=true
 |[],i,h=>rfl
 |a::r,i,h=>by
  simp only[altsFrom,Bool.and_eq_true,Bool.not_eq_true',decide_eq_false_iff_not,decide_eq_true_eq]at h
  obtain ⟨⟨⟨p1,p2⟩,p3⟩,p4⟩:=h
  simp only[List.map_cons,allI,Bool.and_eq_true]
  refine ⟨?_,altsFrom_raw all r (i+1) p4⟩
  have q:((all.map rawAr).take i).all (fun b=>!decide (b.1=(rawAr a).1))=true:=by
   rw[← List.map_take,List.all_map,List.all_eq_true]
   intro b hb
   rw[← Bool.not_eq_true,List.any_eq_true]at p3
   have:¬ b.1=a.1:=fun e=>p3 ⟨b,hb,by simp[e]⟩
   simp[Function.comp,rawAr,this]
  unfold ralt
  rw[q]
  have e1:(rawAr a).1=a.1:=rfl
  have e2:(rawAr a).2=(a.2:Int):=rfl
  rw[e1,e2]
  simp only[Bool.and_true,Bool.and_eq_true,Bool.not_eq_true',decide_eq_false_iff_not]
  refine ⟨⟨p1,by omega⟩,by omega⟩
theorem Node.ok_raw {x:Node}(h:x.ok=true):rnode x.raw=true:=by
 obtain ⟨k,l,n,name,alts,to⟩:=x
 simp only[Node.ok,Bool.and_eq_true,Bool.or_eq_true,Bool.not_eq_true',decide_eq_true_eq,decide_eq_false_iff_not,beq_iff_eq]at h
 obtain ⟨⟨⟨⟨⟨p1,p2⟩,p3⟩,p4⟩,p5⟩,p6⟩:=h
 have ha:(k=9→altsFrom alts 0 alts=true∧1≤alts.length∧alts.length≤8)∧(k≠9→alts.length=0):=by
  unfold Node.altsOK at p2
  dsimp only at p2
  constructor
  ·intro e
   rw[if_pos e]at p2
   simpa using p2
  ·intro e
   rw[if_neg e]at p2
   simpa using p2
 have hl:(k≤1→l=0)∧l≤60:=by
  split at p3<;>omega
 have hn:(!decide (name=[]))=(decide ((k:Int)=8) || decide ((k:Int)=11) || decide ((k:Int)=12)):=by
  rw[p4]
  rw[Bool.eq_iff_iff]
  simp only[decide_eq_true_eq,Bool.or_eq_true]
  omega
 have hlen:(alts.map rawAr).length=alts.length:=by simp
 have hlt:(to.map Port.raw).length=to.length:=by simp
 show rnode ⟨(k:Int),(l:Int),n,name,alts.map rawAr,to.map Port.raw⟩=true
 simp only[rnode,rhead,hlen,hlt,Bool.and_eq_true,Bool.or_eq_true,Bool.not_eq_true',decide_eq_false_iff_not,decide_eq_true_eq,Bool.and_eq_false_imp,Bool.or_eq_false_iff,beq_iff_eq]
 refine ⟨⟨⟨⟨⟨⟨⟨⟨⟨⟨⟨by omega,by omega⟩,by omega⟩,by omega⟩,fun e=>by omega⟩,hn⟩,?_⟩,fun e=>?_⟩,fun e=>?_⟩,?_⟩,?_⟩,?_⟩
 ·rcases p5 with h|h
  ·exact .inl h
  ·right;omega
 ·rcases p6 with h|h
  ·omega
  ·omega
 ·have:=ha.1 (by omega);omega
 ·by_cases e:k=9
  ·left;omega
  ·right;have:=ha.2 e;omega
 ·by_cases e:k=9
  ·have:=ha.1 e;omega
  ·have:=ha.2 e;omega
 ·by_cases e:k=9
  ·exact altsFrom_raw alts alts 0 (ha.1 e).1
  ·have:=ha.2 e
   have:alts=[]:=List.eq_nil_of_length_eq_zero this
   subst this
   rfl
theorem raw_ports (x:Node):rports x.raw=(x.ports:Nat):=by
 obtain ⟨k,l,n,name,alts,to⟩:=x
 show rports ⟨(k:Int),(l:Int),n,name,alts.map rawAr,to.map Port.raw⟩=_
 simp only[rports,Node.ports,List.length_map]
 by_cases h8:k=8
 ·subst h8;rfl
 ·by_cases h9:k=9
  ·subst h9;simp
  ·rw[if_neg (by omega),if_neg (by omega),if_neg h8,if_neg h9,if_pos (by omega)]
   simp
theorem Net.Ok.rcheck {n:Net}(h:n.Ok):rcheck (n.nodes.map Node.raw) n.cap=true:=by
 have hlen:(n.nodes.map Node.raw).length=n.nodes.length:=by simp
 have h1:=h.cap
 have h2:=h.len
 simp only[Z.rcheck,hlen,Bool.and_eq_true,Bool.not_eq_true',decide_eq_false_iff_not]
 refine ⟨⟨⟨⟨⟨by omega,by omega⟩,by omega⟩,by omega⟩,?_⟩,?_⟩
 ·rw[List.getElem?_map]
  cases e:n.nodes[n.nodes.length-1]? with
  |none=>rfl
  |some x =>
   have:=h.last x e
   simp only[Option.map_some,Node.raw,Bool.not_eq_true',decide_eq_false_iff_not]
   omega
 ·refine allI_mk fun i x hx=>?_
  rw[List.getElem?_map]at hx
  obtain ⟨y,hy,rfl⟩:=Option.map_eq_some_iff.1 hx
  obtain ⟨a1,a2,a3⟩:=h.node i y hy
  rw[Nat.zero_add]
  unfold rone
  rw[Node.ok_raw a1,raw_ports]
  have e1:y.raw.to.length=y.to.length:=by simp[Node.raw]
  have e2:(decide (i=0) == decide (y.raw.kind=1))=true:=by
   rw[beq_iff_eq,decide_eq_decide,← a3]
   simp only[Node.raw]
   omega
  rw[e1,a2,e2]
  simp only[decide_true,Bool.true_and]
  refine allI_mk fun k q hq=>?_
  rw[Nat.zero_add]
  simp only[Node.raw,List.getElem?_map]at hq
  obtain ⟨p,hp,rfl⟩:=Option.map_eq_some_iff.1 hq
  obtain ⟨b1,b2⟩:=h.link i y k p hy hp
  unfold Net.peer at b2
  cases e:n.nodes[p.node]? with
  |none=>rw[e]at b2;cases b2
  |some z =>
   rw[e]at b2
   dsimp only at b2
   have c1:p.node<n.nodes.length:=(gE e).1
   have c2:p.slot<z.to.length:=(gE b2).1
   have hz:(n.nodes.map Node.raw)[p.node]?=some z.raw:=by rw[List.getElem?_map,e];rfl
   have hzt:z.raw.to[p.slot]?=some ((i:Int),(k:Int)):=by simp only[Node.raw,List.getElem?_map,b2];rfl
   have d1:p.raw.1=(p.node:Int):=rfl
   have d2:p.raw.2=(p.slot:Int):=rfl
   simp only[rlink,rhas,d1,d2,Int.toNat_natCast,hz,hlen,hzt,Bool.and_eq_true,Bool.not_eq_true',decide_eq_true_eq,decide_eq_false_iff_not]
   have e3:z.raw.to.length=z.to.length:=by simp[Node.raw]
   refine ⟨⟨fun e=>b1 ?_,⟨⟨by omega,by omega⟩,by omega⟩,by rw[e3];omega⟩,trivial⟩
   have e1:=congrArg Prod.fst e
   have e2:=congrArg Prod.snd e
   simp only[d1,d2]at e1 e2
   have hp1:p.node=i:=by omega
   have hp2:p.slot=k:=by omega
   rw[← hp1,← hp2]
theorem t10ok {pg:Prg}(h:Std pg){n:Net}(ho:n.Ok):eCA pg (E pg) 10 [.ag [.p (.sl (n.nodes.map Node.enc)),.p (.i .i64 n.cap)]] G=some (.ret (.p (.i .i64 0)),G):=by
 have hb:=ho.bounds
 have:=t10 (G:=G) h (n.nodes.map Node.raw) n.cap (by simpa using hb.1) (fun x hx=>by
  obtain ⟨y,hy,rfl⟩:=List.mem_map.1 hx
  have:=hb.2 y hy
  simpa [Node.raw] using this)
 rw[ho.rcheck,raw_nodes]at this
 exact this
theorem encL_length:∀ l:List Shape,(Shape.encL l).length=l.length
 |[]=>rfl
 |a::r=>by simp[Shape.encL,encL_length r]
set_option maxHeartbeats 1000000 in
theorem t3 (h8:Fixed)(l:List RNode)(hl:l.length<2 ^ 63)(C fuel:Int) :
  E pgF 3 [.ag [.p (.sl (l.map RNode.enc)),.p (.i .i64 C)],.p (.i .i64 fuel)] []=some (.ret (.p (.b true)),[]):=by
 have h:=pgF_std
 unfold Fixed at h8
 rw[h.run (x:=c3) rfl (by decide) (by decide) (by decide) (by decide)]
 cases c1:rsmall l 120 with
 |false=>simp[c3,leave,h8,t9 h l C 120 hl,c1]
 |true =>
  have hr:=RawFit.of c1
  cases c2:rcheck l C with
  |false=>simp[c3,leave,h8,t9 h l C 120 hl,c1,t10 h l C hr.len hr.node,c2]
  |true =>
   by_cases c3':fuel<0
   ·simp[c3,leave,h8,t9 h l C 120 hl,c1,t10 h l C hr.len hr.node,c2,c3']
   by_cases c4':60<fuel
   ·simp[c3,leave,h8,t9 h l C 120 hl,c1,t10 h l C hr.len hr.node,c2,c3',c4']
   obtain ⟨n,ho,e1,rfl⟩:=guard_net c1 c2
   obtain ⟨F,rfl⟩:∃ F:Nat,fuel=F:=⟨fuel.toNat,by omega⟩
   have a9:=fun G=>t9 (G:=G) h l n.cap 120 hl
   have a10:=fun G=>t10 (G:=G) h l n.cap hr.len hr.node
   rw[c1]at a9
   rw[c2]at a10
   rw[e1]at a9 a10 ⊢
   simp only[cond_true]at a10
   have a11:=fun G=>t11 (G:=G) ho true (F:=F) (by omega)
   have b11:=fun G=>t11 (G:=G) ho false (F:=F) (by omega)
   have hsum:=readN_sum pg0_std ho true F
   have hsum2:=readN_sum pg0_std ho false F
   have hinv:=(readN_ok pg0_std ho true F).2.1
   have hinv2:=(readN_ok pg0_std ho false F).2.1
   have hfit:=readN_fit ho true F
   have hflat:=readN_flat (n:=n) (F:=F)
   have d10:=fun G=>t10ok (G:=G) h hinv.same.ok
   have e10:=fun G=>t10ok (G:=G) h hinv2.same.ok
   have hT:=hinv.ok.2.1
   have hT2:=hinv2.ok.2.1
   have a12:=fun G=>t12 (G:=G) h hT (by omega)
   have b12:=fun G=>t12 (G:=G) h hT2 (by omega)
   obtain ⟨t0,t1,t2,t3,t4,t5,t6,t7,t8,hTe⟩:∃ t0 t1 t2 t3 t4 t5 t6 t7 t8,(readN n true F).1.T=[t0,t1,t2,t3,t4,t5,t6,t7,t8]:=by
    match (readN n true F).1.T,hT with
    |[t0,t1,t2,t3,t4,t5,t6,t7,t8],_=>exact ⟨t0,t1,t2,t3,t4,t5,t6,t7,t8,rfl⟩
   obtain ⟨u0,u1,u2,u3,u4,u5,u6,u7,u8,hTe2⟩:∃ t0 t1 t2 t3 t4 t5 t6 t7 t8,(readN n false F).1.T=[t0,t1,t2,t3,t4,t5,t6,t7,t8]:=by
    match (readN n false F).1.T,hT2 with
    |[t0,t1,t2,t3,t4,t5,t6,t7,t8],_=>exact ⟨t0,t1,t2,t3,t4,t5,t6,t7,t8,rfl⟩
   have c5:¬ (F:Int)<((readN n true F).1.d:Nat):=by omega
   have c5':¬ F<(readN n true F).1.d:=by omega
   have c6:¬ ((readN n true F).1.d:Int)<((readN n false F).1.d:Nat):=by omega
   have c6':¬ (readN n true F).1.d<(readN n false F).1.d:=by omega
   rw[hsum.1]at a12
   rw[hsum2.1]at b12
   have k12:keepA pgF 12=false:=h.keep (x:=c12) rfl
   have k13:keepA pgF 13=false:=h.keep (x:=c13) rfl
   by_cases c7:(readN n true F).2.1=0
   ·obtain ⟨hag,hlz⟩:=readN_again pg0_std ho c7
    obtain ⟨g1,g2,g3,g4,g5⟩:=hflat.2 c7
    have g11:=fun G=>t11 (G:=G) hinv.same.ok true (F:=0) (by omega)
    rw[hag]at g11
    have a14:=fun G=>t14 (G:=G) h (readN n true F).1.net hinv.same.ok.bounds
    have a13:=fun G=>t13 h _ hfit (readN n true F).2.2.tm G
    rw[show ((readN n true F).2.2.tm.same (readN n true F).2.2.tm)=true from Tm.same_iff.2 rfl]at a13
    have a15:=fun G=>t15 h _ hfit G
    rw[Shape.tm_lazy,hlz]at a15
    rw[Shape.tm_enc]at a13 a15
    have z12:=fun G=>t12 (G:=G) (T:=tally0) h rfl (by simp[tally0])
    generalize hS1:(readN n true F).2.2=S1 at *
    generalize hS2:(readN n false F).2.2=S2 at *
    obtain ⟨k1,n1,m1,l1⟩:=S1
    obtain ⟨k2,n2,m2,l2⟩:=S2
    simp only[Shape.kind,Shape.n,Shape.name,Shape.parts]at g2 g3 g4 g5
    subst g2 g3 g4
    have g6:(Shape.encL l1).length=(Shape.encL l2).length:=by rw[encL_length,encL_length,g5]
    simp only[rdOut11,if_pos c7,hS1,shp0,tallyAV,hTe,List.map_cons,List.map_nil,Shape.enc,pcs]at a11 a12
    simp only[rdOut11,if_pos g1,hS2,shp0,pcs,tallyAV,hTe2,List.map_cons,List.map_nil,Shape.enc]at b11 b12
    simp only[rdOut11,if_true,rs0,tallyAV,tally0,pcs,List.map_cons,List.map_nil,Shape.enc,List.sum_cons,List.sum_nil,show ((0:Nat):Int)=0 from rfl]at g11 z12
    simp only[Shape.enc,pcs,List.map_cons,List.map_nil]at a13 a15
    rw[c7]at a11
    rw[g1]at b11
    simp only[show ((0:Nat):Int)=0 from rfl]at a11 b11
    simp[c3,leave,h8,a9,a10,c3',c4',a11,b11,d10,e10,a12,b12,c5,c5',c6,c6',k12,noIdAt,noId,noIdL,g11,g6,a14,a13,z12,a15]
   ·obtain ⟨q0,q1,q2,q3,hq,f3⟩:∃ (q0 q1:Int) (q2:List UInt8) (q3:AV),(if (readN n false F).2.1=0 then AV.ag (List.map AV.p (readN n false F).2.2.enc) else AV.ag [.p (.i .i64 0),.p (.i .i64 0),.p (.s []),.nils])=AV.ag [.p (.i .i64 q0),.p (.i .i64 q1),.p (.s q2),q3]∧(q3=.nils∨∃ l,q3=.p (.sl l)):=by
     obtain ⟨k',n',m',l',e⟩:=(readN n false F).2.2.pcs_enc
     split
     ·rw[e];exact ⟨_,_,_,_,rfl,.inr ⟨_,rfl⟩⟩
     ·exact ⟨_,_,_,_,rfl,.inl rfl⟩
    have c7':¬ ((readN n true F).2.1:Int)=0:=by omega
    simp only[rdOut11,if_neg c7,shp0,tallyAV,hTe,List.map_cons,List.map_nil]at a11 a12
    simp only[rdOut11,shp0,pcs,tallyAV,hTe2,List.map_cons,List.map_nil]at b11 b12
    rw[hq]at b11
    have a13:∀ G,eCA pgF (E pgF) 13 [.ag [.p (.i .i64 0),.p (.i .i64 0),.p (.s []),.nils],.ag [.p (.i .i64 0),.p (.i .i64 0),.p (.s []),.nils]] G=some (.ret (.p (.b true)),G):=by
     intro G
     have:=t13 h (.mk 0 0 [] []) (fit0 _ _ _) (.mk 0 0 [] []) G
     rw[show (Tm.mk 0 0 [] []).same (.mk 0 0 [] [])=true from rfl]at this
     rw[← this]
     refine at_norm fun e=>?_
     simp[k13,exp,expL,Tm.enc,Tm.encL,pcs]
    rcases f3 with rfl|⟨l3,rfl⟩
    ·simp[c3,leave,h8,a9,a10,c3',c4',a11,b11,d10,e10,a12,b12,c5,c5',c6,c6',c7,c7',k12,noIdAt,noId,noIdL,a13]
    ·simp[c3,leave,h8,a9,a10,c3',c4',a11,b11,d10,e10,a12,b12,c5,c5',c6,c6',c7,c7',k12,noIdAt,noId,noIdL,a13]
end Go.Proofs.Z
end
section
namespace Go.Proofs.Z
open Go Go.Proofs
attribute [local simp] k_nil k_ops k_opsg kG_true kG_false kO_val kO_pan k_seq kS_n kS_r kS_e kS_p k_o kR_n kR_p kD2_n kD1_n k_d k_c kC_t kC_f k_b kB_n kB_r kB_p kB_e k_skip k_ret k_exit k_l kL_s kLp_n kLp_r kLp_e kLp_p k_f kF_n kF_r kF_p kV_f kV_t kN_s evOp evBin gOK opd opds lk put restr iEv evRes whole norm normL one Out.below below belowL bOb evStore evLoad evLen AV.cells AV.flat PV.flat splice fillAt pcs isStr rowsOf Res.of evCmp lvE leafEq asInt noIdAt noId noIdL tids chkOK
variable {pg:Prg}{G:Heap}
theorem encAr_raw (l:List (List UInt8×Nat)):(l.map rawAr).map rAr=l.map encAr:=by rw[List.map_map];rfl
theorem encPt_raw (l:List Port):(l.map Port.raw).map rPt=l.map Port.enc:=by rw[List.map_map];rfl
theorem t28n (h:Std pg){k l:Nat}{n:Int}{name:List UInt8}{alts:List (List UInt8×Nat)}{to:List Port}(hx:(Node.mk k l n name alts to).ok=true) :
  eCA pg (E pg) 28 [.ag [.p (.i .i64 k),.p (.i .i64 l),.p (.i .i64 n),.p (.s name),.p (.sl (alts.map encAr)),.p (.sl (to.map Port.enc))]] G=some (.ret (.p (.b true)),G):=by
 have:=t28 (G:=G) h k l n name (alts.map rawAr) (to.map Port.raw) (by have:=Node.alts_len hx;dsimp only at this;simp;omega)
 rw[encAr_raw,encPt_raw]at this
 have e:=Node.ok_raw hx
 simp only[Node.raw]at e
 rw[this,e]
theorem t29n (h:Std pg){k l:Nat}{n:Int}{name:List UInt8}{alts:List (List UInt8×Nat)}{to:List Port}(hx:(Node.mk k l n name alts to).ok=true) :
  eCA pg (E pg) 29 [.ag [.p (.i .i64 k),.p (.i .i64 l),.p (.i .i64 n),.p (.s name),.p (.sl (alts.map encAr)),.p (.sl (to.map Port.enc))]] G=some (.ret (.p (.i .i64 ((Node.mk k l n name alts to).ports:Nat))),G):=by
 have:=t29 (G:=G) h k l n name (alts.map rawAr) (to.map Port.raw) (by have:=Node.alts_len hx;dsimp only at this;simp;omega)
 rw[encAr_raw,encPt_raw]at this
 have e:=raw_ports ⟨k,l,n,name,alts,to⟩
 simp only[Node.raw]at e
 rw[this,e]
def hMk (n:Net)(x:Node)(r:AV)(rc:Int)(rows:List (List PV))(sa sb:Nat):Heap :=
 [.box [.p (.i .i64 x.kind),.p (.i .i64 x.lev),.p (.i .i64 x.n),.p (.s x.name),.arr 3 x.alts.length 1,.arr 4 x.ports 0],.box [r,.p (.i .i64 rc)],.box [.arr 5 n.nodes.length (n.nodes.length-1),.p (.i .i64 n.cap)],.arr 2 (x.alts.map encAr) 1 sa,.arr 2 (List.replicate x.ports [iv 0,iv 0]) 0 sb,.arr 6 rows (n.nodes.length-1) 0]
theorem fresh_enc (x:Node):x.fresh.enc=[iv x.kind,iv x.lev,iv x.n,.s x.name,.sl (x.alts.map encAr),.sl (List.replicate x.ports [iv 0,iv 0])]:=by
 unfold Node.enc Node.fresh
 simp[Port.enc]
theorem l69 (h:Std pg){body:CCode}(hb:body=c69l0){n:Net}{x:Node}(hl:n.nodes.length<2 ^ 30):∀ m i,i+m=n.nodes.length →
  L pg 0 [3,4,7,8] body [(3,.ptr 0 0),(4,.ptr 1 0),(7,.ptr 2 0),(8,.p (.i .i64 (i:Nat)))] (hMk n x .nils 0 (n.nodes.map Node.enc) 0 0) =
   some (match (n.nodes.drop i).findIdx? (fun x=>decide (x.kind=0)) with
    |some k=>(.ret,[(4,.ptr 1 0),(5,.p (.i .i64 (i+k:Nat))),(6,.p (.i .i64 0))],hMk n x (.arr 5 n.nodes.length (n.nodes.length-1)) n.cap ((n.nodes.map Node.enc).set (i+k) x.fresh.enc) x.alts.length x.ports)
    |none=>(.exit 0,[(3,.ptr 0 0),(4,.ptr 1 0),(7,.ptr 2 0),(8,.p (.i .i64 n.nodes.length)),(39,.p (.b false))],hMk n x .nils 0 (n.nodes.map Node.enc) 0 0))
 |0,i,hi=>by
  have:i=n.nodes.length:=by omega
  subst this
  rw[k_L hb]
  simp[c69l0,leave,hMk]
 |m+1,i,hi=>by
  have hlt:i<n.nodes.length:=by omega
  have hd:n.nodes.drop i=n.nodes[i]::n.nodes.drop (i+1):=List.drop_eq_getElem_cons hlt
  have ih:=l69 (x:=x) h hb hl m (i+1) (by omega)
  rw[show ((i+1:Nat):Int)=(i:Int)+1 from by omega]at ih
  have hge:(n.nodes.map Node.enc)[i]?=some n.nodes[i].enc:=by rw[List.getElem?_map,gG hlt];rfl
  rw[k_L hb,hd,List.findIdx?_cons]
  by_cases hz:n.nodes[i].kind=0
  ·have hz':(n.nodes[i].kind:Int)=0:=by omega
   have hr:x.fresh.enc=[iv x.kind,iv x.lev,iv x.n,.s x.name,.sl (x.alts.map encAr),.sl (List.replicate x.ports [iv 0,iv 0])]:=fresh_enc x
   have t1:List.take x.alts.length (List.map encAr x.alts)=List.map encAr x.alts:=List.take_of_length_le (by simp)
   have t2:List.take x.ports (List.replicate x.ports [iv 0,iv 0])=List.replicate x.ports [iv 0,iv 0]:=List.take_of_length_le (by simp)
   have e2:n.nodes[i].enc.length=6:=by cases n.nodes[i];rfl
   have e5:n.nodes[i].enc.drop 6=[]:=by cases n.nodes[i];rfl
   have e3:n.nodes[i].enc[0]?=some (iv n.nodes[i].kind):=rfl
   have e4:n.nodes[i].enc[0]=iv n.nodes[i].kind:=rfl
   simp[c69l0,leave,hMk,hlt,hz,hz',hge,e2,e3,e4,normP,toPL,toP,t1,t2,hr,e5]
  ·have hz':¬ (n.nodes[i].kind:Int)=0:=by omega
   have e2:n.nodes[i].enc.length=6:=by cases n.nodes[i];rfl
   have e5:n.nodes[i].enc.drop 6=[]:=by cases n.nodes[i];rfl
   have e3:n.nodes[i].enc[0]?=some (iv n.nodes[i].kind):=rfl
   have e4:n.nodes[i].enc[0]=iv n.nodes[i].kind:=rfl
   unfold hMk at ih ⊢
   simp[c69l0,leave,hlt,hz,hz',hge,e2,e3,e4,w64 ((i:Int)+1) (by omega) (by omega),gc,gcEnv,exp,expL,eOs,Exp.id,idxOf,List.range,List.range.loop,ih]
   cases (n.nodes.drop (i+1)).findIdx? (fun x=>decide (x.kind=0)) with
   |none=>simp
   |some k=>simp[show i+1+k=i+(k+1) from by omega];omega
theorem ports_big {x:Node}(hx:x.ok=true)(hl:x.kind=8→x.to.length≤9):x.ports≤10:=by
 have h1:=Node.alts_len hx
 have h2:=kindPorts_le x.kind
 unfold Node.ports
 split
 ·have:=hl (by assumption);omega
 ·split<;>omega
theorem ok_to {x:Node}(hx:x.ok=true):x.kind=8→x.to.length≤9:=by
 intro e
 simp only[Node.ok,Bool.and_eq_true,Bool.or_eq_true,Bool.not_eq_true',decide_eq_true_eq,decide_eq_false_iff_not]at hx
 rcases hx.2 with h|h
 ·exact absurd e h
 ·exact h.2
def Net.rmake (n:Net)(x:Node):Net×Nat×Nat:=if n.used<n.cap then (n.make x,n.place,0) else (n,0,121)
def mkOut (r:Net×Nat×Nat):Out:=.ret (.tup [.ag [.p (.sl (r.1.nodes.map Node.enc)),.p (.i .i64 r.1.cap)],.p (.i .i64 r.2.1),.p (.i .i64 r.2.2)])
theorem t69 (h:Std pg){n:Net}{x:Node}(hl:n.nodes.length<2 ^ 30)(h1:1≤n.nodes.length)(hk:2≤x.kind)(hx:x.ok=true) :
  eCA pg (E pg) 69 [.ag [.p (.sl (n.nodes.map Node.enc)),.p (.i .i64 n.cap)],.ag [.p (.i .i64 x.kind),.p (.i .i64 x.lev),.p (.i .i64 x.n),.p (.s x.name),.p (.sl (x.alts.map encAr)),.p (.sl (x.to.map Port.enc))]] G=some (mkOut (n.rmake x),G):=by
 have hb:(mkOut (n.rmake x)).below 0=true:=by unfold mkOut;rfl
 refine at_pure ?_ rfl hb
 have e28:=fun G=>t28n (G:=G) (k:=x.kind) (l:=x.lev) (n:=x.n) (name:=x.name) (alts:=x.alts) (to:=x.to) h hx
 have e29:=fun G=>t29n (G:=G) (k:=x.kind) (l:=x.lev) (n:=x.n) (name:=x.name) (alts:=x.alts) (to:=x.to) h hx
 have hkk:¬ (x.kind:Int)<2:=by omega
 have hkn:¬ x.kind<2:=by omega
 have hp:=ports_big hx (ok_to hx)
 have ha:=Node.alts_len hx
 have r1:roomy x.ports 16=true:=by simp[roomy];omega
 have r2:roomy x.alts.length 24=true:=by simp[roomy];omega
 have r3:roomy (n.nodes.length+1) 88=true:=by simp[roomy];omega
 have k95:keepA pg 95=false:=h.keep (x:=c95) rfl
 have ok1:=okRows_enc okAr x.alts
 rw[h.run (x:=c69) rfl (by decide) (by decide) (by decide) (by decide)]
 unfold Net.rmake
 by_cases hu:n.used<n.cap
 ·have hu1:¬ (n.cap:Int)≤n.used:=by omega
  have hu2:¬ n.cap≤n.used:=by omega
  have hL:=l69 (x:=x) h rfl hl n.nodes.length 0 (by omega)
  simp only[hMk,show ((0:Nat):Int)=0 from rfl,List.drop_zero,Nat.zero_add]at hL
  rw[if_pos hu]
  simp[c69,leave,e28,e29,hkk,hkn,t95 (n:=n) h (by omega),k95,hu1,hu2,t96 h hl h1,r1,r2,okZ2,okA2,evOp.fillRows,evApp,ok1,gc,gcEnv,exp,expL,eOs,Exp.id,idxOf,List.range,List.range.loop]
  rw[show (⟨x.kind,x.lev,x.n,x.name,x.alts,x.to⟩:Node)=x from rfl,hL]
  have hfr:=fresh_enc x
  cases hf:n.nodes.findIdx? (fun x=>decide (x.kind=0)) with
  |some k =>
   obtain ⟨k1,_,_⟩:=List.findIdx?_eq_some_iff_getElem.1 hf
   have hpl:n.place=k:=by unfold Net.place;rw[hf];rfl
   have hmk:(n.make x).nodes.map Node.enc=(n.nodes.map Node.enc).set k x.fresh.enc:=by
    unfold Net.make;rw[hpl,if_pos k1];simp[List.map_set]
   have t3:List.take n.nodes.length ((n.nodes.map Node.enc).set k x.fresh.enc)=(n.nodes.map Node.enc).set k x.fresh.enc:=List.take_of_length_le (by simp)
   simp[leave,mkOut,hmk,hpl,t3,Net.make_cap]
  |none =>
   have hpl:n.place=n.nodes.length:=by unfold Net.place;rw[hf];rfl
   have hmk:(n.make x).nodes.map Node.enc=n.nodes.map Node.enc++[x.fresh.enc]:=by
    unfold Net.make;rw[hpl,if_neg (by omega)];simp
   have t1:List.take x.alts.length (List.map encAr x.alts)=List.map encAr x.alts:=List.take_of_length_le (by simp)
   have t2:List.take x.ports (List.replicate x.ports [iv 0,iv 0])=List.replicate x.ports [iv 0,iv 0]:=List.take_of_length_le (by simp)
   have t3:List.take n.nodes.length (n.nodes.map Node.enc)=n.nodes.map Node.enc:=List.take_of_length_le (by simp)
   simp[leave,mkOut,hmk,hpl,t1,t2,t3,evOp.fillRows,okZ6,normP,toPL,toP,evApp,hfr,okRows,okW,r3,w64 (n.nodes.length:Int) (by omega) (by omega),Nat.beq,Net.make_cap]
   exact List.take_of_length_le (by simp)
 ·have hu1:(n.cap:Int)≤n.used:=by omega
  have hu2:n.cap≤n.used:=by omega
  rw[if_neg hu]
  simp[c69,leave,e28,hkk,hkn,t95 (n:=n) h (by omega),k95,hu1,hu2,mkOut]
theorem t39 (h:Std pg)(a b:Int):eCA pg (E pg) 39 [.p (.i .i64 a),.p (.i .i64 b)] G=some (.ret (.ag [.p (.i .i64 a),.p (.i .i64 b)]),G):=by
 refine at_pure ?_ rfl rfl
 rw[h.run (x:=c39) rfl (by decide) (by decide) (by decide) (by decide)]
 simp[c39,leave]
theorem k39 (h:Std pg):keepA pg 39=false:=h.keep (x:=c39) rfl
def Net.hasB (n:Net)(p:Port):Bool:=match n.nodes[p.node]? with
 |some x=>decide (p.slot<x.to.length)
 |none=>false
theorem Net.hasB_iff {n:Net}{p:Port}:n.hasB p=true↔n.has p:=by
 unfold Net.hasB Net.has
 cases n.nodes[p.node]? with
 |none=>simp
 |some x=>simp
theorem t30n (h:Std pg)(n:Net)(p:Port):eCA pg (E pg) 30 [.ag [.p (.sl (n.nodes.map Node.enc)),.p (.i .i64 n.cap)],.ag [.p (.i .i64 p.node),.p (.i .i64 p.slot)]] G=some (.ret (.p (.b (n.hasB p))),G):=by
 have:=t30 (G:=G) h (n.nodes.map Node.raw) n.cap p.node p.slot
 rw[raw_nodes]at this
 rw[this]
 have e:rhas (n.nodes.map Node.raw) ((p.node:Int),(p.slot:Int))=n.hasB p:=by
  unfold rhas Net.hasB
  simp only[Int.toNat_natCast,List.getElem?_map,List.length_map]
  cases e:n.nodes[p.node]? with
  |none=>simp
  |some x =>
   have:=(gE e).1
   simp[Node.raw]
   omega
 rw[e]
def Net.rlink (n:Net)(p q:Port):Net:=if n.hasB p && n.hasB q && !decide (p=q) then n.link p q else n
theorem t74 (h:Std pg){n:Net}{p q:Port}(hl:n.nodes.length<2 ^ 30){x:Node}(hx:n.nodes[p.node]?=some x)(hxl:p.slot<x.to.length)(hxs:x.to.length<2 ^ 20) :
  eCA pg (E pg) 74 [.ag [.p (.sl (n.nodes.map Node.enc)),.p (.i .i64 n.cap)],.ag [.p (.i .i64 p.node),.p (.i .i64 p.slot)],.ag [.p (.i .i64 q.node),.p (.i .i64 q.slot)]] G=some (.ret (.ag [.p (.sl ((n.put p q).nodes.map Node.enc)),.p (.i .i64 (n.put p q).cap)]),G):=by
 refine at_pure ?_ rfl rfl
 have hi:p.node<n.nodes.length:=(gE hx).1
 have hi':n.nodes[p.node]=x:=(gE hx).2
 have r1:roomy x.to.length 16=true:=by simp[roomy];omega
 have ok1:=okRows_enc okPort x.to
 have t1:List.take n.nodes.length (n.nodes.map Node.enc)=n.nodes.map Node.enc:=List.take_of_length_le (by simp)
 have hE:x.enc=[iv x.kind,iv x.lev,iv x.n,.s x.name,.sl (x.alts.map encAr),.sl (x.to.map Port.enc)]:=rfl
 have hpe:(x.to[p.slot]).enc=[iv x.to[p.slot].node,iv x.to[p.slot].slot]:=rfl
 have hs:(n.put p q).nodes.map Node.enc=(n.nodes.map Node.enc).set p.node [iv x.kind,iv x.lev,iv x.n,.s x.name,.sl (x.alts.map encAr),.sl ((x.to.map Port.enc).set p.slot [iv q.node,iv q.slot])]:=by
  rw[Net.put_nodes hx,List.map_set]
  congr 1
  simp[Node.enc,Node.setTo,List.map_set,Port.enc]
 have t2:List.take x.to.length ((x.to.map Port.enc).set p.slot [iv q.node,iv q.slot])=(x.to.map Port.enc).set p.slot [iv q.node,iv q.slot]:=List.take_of_length_le (by simp)
 have t3:∀ r,List.take n.nodes.length ((n.nodes.map Node.enc).set p.node r)=(n.nodes.map Node.enc).set p.node r:=fun r=>List.take_of_length_le (by simp)
 rw[h.run (x:=c74) rfl (by decide) (by decide) (by decide) (by decide)]
 simp[c74,leave,t96 h hl (by omega),hi,hx,hi',hE,hxl,hpe,t1,t2,t3,okZ2,r1,ok1,evOp.fillRows,evApp,normP,toPL,toP,hs,Net.put_cap]
theorem Net.rlink_cap (n:Net)(p q:Port):(n.rlink p q).cap=n.cap:=by
 unfold Net.rlink Net.link
 split
 ·rw[Net.put_cap,Net.put_cap]
 ·rfl
theorem t53 (h:Std pg){n:Net}{p q:Port}(hT:n.Tiny) :
  eCA pg (E pg) 53 [.ag [.p (.sl (n.nodes.map Node.enc)),.p (.i .i64 n.cap)],.ag [.p (.i .i64 p.node),.p (.i .i64 p.slot)],.ag [.p (.i .i64 q.node),.p (.i .i64 q.slot)]] G=some (.ret (.tup [.ag [.p (.sl ((n.rlink p q).nodes.map Node.enc)),.p (.i .i64 (n.rlink p q).cap)],.p (.i .i64 (if n.hasB p && n.hasB q && !decide (p=q) then 0 else 130))]),G):=by
 refine at_pure ?_ rfl rfl
 have k74:keepA pg 74=false:=h.keep (x:=c74) rfl
 rw[h.run (x:=c53) rfl (by decide) (by decide) (by decide) (by decide)]
 unfold Net.rlink
 cases c1:n.hasB p with
 |false=>simp[c53,leave,t30n h,c1]
 |true =>
  cases c2:n.hasB q with
  |false=>simp[c53,leave,t30n h,c1,c2]
  |true =>
   by_cases c3:p=q
   ·subst c3;simp[c53,leave,t30n h,c1]
   ·obtain ⟨x,hx,hxl⟩:=Net.hasB_iff.1 c1
    obtain ⟨y,hy,hyl⟩:=(Net.put_has (p:=p) (q:=q)).2 (Net.hasB_iff.1 c2)
    have hT2:=hT.put p q
    have a1:=fun G=>t74 (G:=G) (q:=q) h (by have:=hT.1;omega) hx hxl (hT.2 _ _ hx)
    have a2:=fun G=>t74 (G:=G) (q:=p) h (by have:=hT2.1;omega) hy hyl (hT2.2 _ _ hy)
    rw[Net.put_cap]at a2
    have c4:(decide ((p.node:Int)=q.node) && decide ((p.slot:Int)=q.slot))=false:=by
     rw[Bool.and_eq_false_imp]
     intro e
     simp only[decide_eq_true_eq]at e
     simp only[decide_eq_false_iff_not]
     exact fun e'=>c3 (by cases p;cases q;simp at e e' ⊢;omega)
    have c4':(decide (p.node=q.node) && decide (p.slot=q.slot))=false:=by
     rw[Bool.and_eq_false_imp]
     intro e
     simp only[decide_eq_true_eq]at e
     simp only[decide_eq_false_iff_not]
     exact fun e'=>c3 (by cases p;cases q;simp at e e' ⊢;omega)
    simp[c53,leave,t30n h,c1,c2,c3,c4,c4',a1,a2,k74,Net.link,Net.put_cap]
theorem t38 (h:Std pg){n:Net}{p q:Port}(hT:n.Tiny) :
  eCA pg (E pg) 38 [.ag [.p (.sl (n.nodes.map Node.enc)),.p (.i .i64 n.cap)],.ag [.p (.i .i64 p.node),.p (.i .i64 p.slot)],.ag [.p (.i .i64 q.node),.p (.i .i64 q.slot)]] G=some (.ret (.ag [.p (.sl ((n.rlink p q).nodes.map Node.enc)),.p (.i .i64 (n.rlink p q).cap)]),G):=by
 refine at_pure ?_ rfl rfl
 rw[h.run (x:=c38) rfl (by decide) (by decide) (by decide) (by decide)]
 simp[c38,leave,t53 h hT]
theorem k38 (h:Std pg):keepA pg 38=false:=h.keep (x:=c38) rfl
def Net.made (n:Net)(x:Node):Net×Nat×Nat:=if 60<x.lev then (n,0,141) else n.rmake x
theorem t50 (h:Std pg){n:Net}{x:Node}(hl:n.nodes.length<2 ^ 30)(h1:1≤n.nodes.length)(hk:2≤x.kind)(hx:x.lev≤60→x.ok=true) :
  eCA pg (E pg) 50 [.ag [.p (.sl (n.nodes.map Node.enc)),.p (.i .i64 n.cap)],.ag [.p (.i .i64 x.kind),.p (.i .i64 x.lev),.p (.i .i64 x.n),.p (.s x.name),.p (.sl (x.alts.map encAr)),.p (.sl (x.to.map Port.enc))]] G=some (mkOut (n.made x),G):=by
 have hb:(mkOut (n.made x)).below 0=true:=by unfold mkOut;rfl
 refine at_pure ?_ rfl hb
 rw[h.run (x:=c50) rfl (by decide) (by decide) (by decide) (by decide)]
 unfold Net.made
 by_cases c:60<x.lev
 ·have c':(60:Int)<x.lev:=by omega
  rw[if_pos c]
  simp[c50,leave,c,c',mkOut]
 ·have c':¬ (60:Int)<x.lev:=by omega
  have a69:=fun G=>t69 (G:=G) h hl h1 hk (hx (by omega))
  rw[if_neg c]
  generalize hr:n.rmake x=r at *
  obtain ⟨m,i,e⟩:=r
  simp only[mkOut]at a69
  simp[c50,leave,c,c',a69,mkOut]
def badCells (e:Int):List AV:=[.nils,.p (.i .i64 0),.p (.i .i64 0),.p (.i .i64 0),.nils,.p (.i .i64 e)]
theorem t70 (h:Std pg)(e:Int):eCA pg (E pg) 70 [.p (.i .i64 e)] G=some (.ret (.ag (badCells e)),G++[.box (badCells e)]):=by
 have hs:E pg 70 [.p (.i .i64 e)] []=some (.ret (.ag (badCells e)),[.box (badCells e)]):=by
  rw[h.run (x:=c70) rfl (by decide) (by decide) (by decide) (by decide)]
  simp[c70,leave,badCells]
 rw[at_gen hs rfl]
 simp[Out.back,back,backL,backId,backObj,setAll,badCells]
structure End where
 v:Nat
 p:Port
 deriving DecidableEq,Inhabited
def End.enc (e:End):List PV:=[iv e.v,iv e.p.node,iv e.p.slot]
theorem okEnd (a:End):okRow 3 a.enc=true:=by simp[End.enc,okRow,PV.flat]
def findE (l:List End)(v:Nat):Option Nat:=l.findIdx? fun x=>decide (x.v=v)
theorem l71 (h:Std pg){body:CCode}(hb:body=c71l0){l:List End}{v:Nat}(hl:l.length<2 ^ 40):∀ m i,i+m=l.length →
  L pg 0 [0,1,5] body [(0,.p (.sl (l.map End.enc))),(1,.p (.i .i64 v)),(5,.p (.i .i64 (i:Nat)))] [] =
   some (match (l.drop i).findIdx? (fun x=>decide (x.v=v)) with
    |some k=>(.ret,[(4,.p (.i .i64 (i+k:Nat)))],[])
    |none=>(.exit 0,[(0,.p (.sl (l.map End.enc))),(1,.p (.i .i64 v)),(5,.p (.i .i64 l.length)),(9,.p (.b false))],[]))
 |0,i,hi=>by
  have:i=l.length:=by omega
  subst this
  rw[k_L hb]
  simp[c71l0,leave]
 |m+1,i,hi=>by
  have hlt:i<l.length:=by omega
  have hd:l.drop i=l[i]::l.drop (i+1):=List.drop_eq_getElem_cons hlt
  have ih:=l71 (v:=v) h hb hl m (i+1) (by omega)
  rw[show ((i+1:Nat):Int)=(i:Int)+1 from by omega]at ih
  have e0:=okEnd l[i]
  simp only[End.enc]at e0
  rw[k_L hb,hd,List.findIdx?_cons]
  by_cases hz:l[i].v=v
  ·have hz':(l[i].v:Int)=v:=by omega
   simp[c71l0,leave,hlt,End.enc,e0,eq_true hz,eq_true hz']
  ·have hz':¬ (l[i].v:Int)=v:=by omega
   simp[c71l0,leave,hlt,End.enc,e0,eq_false hz,eq_false hz',w64 ((i:Int)+1) (by omega) (by omega),gc,gcEnv,exp,expL,eOs,Exp.id,idxOf,List.range,List.range.loop]
   rw[ih]
   cases (l.drop (i+1)).findIdx? (fun x=>decide (x.v=v)) with
   |none=>simp
   |some k=>simp[show i+1+k=i+(k+1) from by omega]
theorem s71 (h:Std pg){l:List End}{v:Nat}(hl:l.length<2 ^ 40):E pg 71 [.p (.sl (l.map End.enc)),.p (.i .i64 v)] []=some (.ret (.p (.i .i64 (idxInt (findE l v)))),[]):=by
 have hL:=l71 (v:=v) h rfl hl l.length 0 (by omega)
 simp only[show ((0:Nat):Int)=0 from rfl,List.drop_zero,Nat.zero_add]at hL
 rw[h.run (x:=c71) rfl (by decide) (by decide) (by decide) (by decide)]
 unfold findE
 simp[c71,leave,gc,gcEnv,exp,expL,eOs,Exp.id,idxOf,List.range,List.range.loop]
 rw[hL]
 cases l.findIdx? (fun x=>decide (x.v=v)) with
 |none=>simp[leave,idxInt]
 |some k=>simp[leave,idxInt]
def withGo (x:End):Bool→List End→List End×Bool
 |b,[]=>([],b)
 |true,y::r=>(y::(withGo x true r).1,true)
 |false,y::r=>if x.v<y.v then (x::y::(withGo x true r).1,true) else (y::(withGo x false r).1,(withGo x false r).2)
def withE (l:List End)(x:End):List End:=if (withGo x false l).2 then (withGo x false l).1 else (withGo x false l).1++[x]
def xCells (x:End):List AV:=[.p (.i .i64 x.v),.p (.i .i64 x.p.node),.p (.i .i64 x.p.slot)]
theorem withGo_true (x:End):∀ r,withGo x true r=(r,true)
 |[]=>rfl
 |y::r=>by simp[withGo,withGo_true x r]
theorem withGo_len (x:End):∀ (b:Bool) (r:List End),(withGo x b r).1.length≤r.length+1
 |b,[]=>by simp[withGo]
 |true,y::r=>by rw[withGo_true];simp
 |false,y::r=>by
  simp only[withGo]
  split
  ·rw[withGo_true];simp
  ·have:=withGo_len x false r;simp;omega
theorem l98 (h:Std pg){body:CCode}(hb:body=c98l0){l:List End}{x:End}(hl:l.length<2 ^ 20):∀ m i acc (laid:Bool) g,i+m=l.length→acc.length≤i+laid.toNat →
  L pg 0 [0,3,5,6,7] body [(0,.p (.sl (l.map End.enc))),(3,.ptr 0 0),(5,.arr 1 acc.length g),(6,.p (.b laid)),(7,.p (.i .i64 (i:Nat)))] [.box (xCells x),.arr 3 (acc.map End.enc) g 0] =
   some (.exit 0,[(0,.p (.sl (l.map End.enc))),(3,.ptr 0 0),(5,.arr 1 (acc++(withGo x laid (l.drop i)).1).length (g+(withGo x laid (l.drop i)).1.length)),(6,.p (.b (withGo x laid (l.drop i)).2)),(7,.p (.i .i64 l.length)),(12,.p (.b false))],
    [.box (xCells x),.arr 3 ((acc++(withGo x laid (l.drop i)).1).map End.enc) (g+(withGo x laid (l.drop i)).1.length) 0])
 |0,i,acc,laid,g,hi,ha=>by
  have:i=l.length:=by omega
  subst this
  rw[k_L hb]
  cases laid<;>simp[c98l0,leave,withGo]
 |m+1,i,acc,laid,g,hi,ha=>by
  have hlt:i<l.length:=by omega
  have hd:l.drop i=l[i]::l.drop (i+1):=List.drop_eq_getElem_cons hlt
  have e0:=okEnd l[i]
  have hE:l[i].enc=[iv l[i].v,iv l[i].p.node,iv l[i].p.slot]:=rfl
  rw[hE]at e0
  have hlb:laid.toNat≤1:=by cases laid<;>simp
  have r1:roomy (acc.length+1) 24=true:=by simp[roomy];omega
  have r2:roomy (acc.length+1+1) 24=true:=by simp[roomy];omega
  have t1:List.take acc.length (acc.map End.enc)=acc.map End.enc:=List.take_of_length_le (by simp)
  have t2:∀ r,List.take (acc.length+1) (acc.map End.enc++[r])=acc.map End.enc++[r]:=fun r=>List.take_of_length_le (by simp)
  have okr:∀ a b c:Int,okRow 3 [iv a,iv b,iv c]=true:=fun _ _ _=>rfl
  rw[k_L hb,hd]
  cases laid with
  |true =>
   have ih:=l98 (x:=x) h hb hl m (i+1) (acc++[l[i]]) true (g+1) (by omega) (by simp at ha ⊢;omega)
   rw[show ((i+1:Nat):Int)=(i:Int)+1 from by omega,withGo_true]at ih
   simp only[List.map_append,List.map_cons,List.map_nil,List.length_append,List.length_cons,List.length_nil,Nat.zero_add,hE,xCells]at ih
   simp[c98l0,leave,xCells,hlt,hE,e0,okZ3,evOp.fillRows,evApp,normP,toPL,toP,okRows,okr,r1,t1,w64 ((i:Int)+1) (by omega) (by omega),gc,gcEnv,exp,expL,eOs,Exp.id,idxOf,List.range,List.range.loop,ih,withGo,withGo_true]
   refine ⟨⟨by omega,by omega⟩,?_,by omega⟩
   rw[List.drop_eq_getElem_cons (show i<(l.map End.enc).length by simpa using hlt)]
   simp[hE]
  |false =>
   by_cases hc:x.v<l[i].v
   ·have hc':(x.v:Int)<l[i].v:=by omega
    have ih:=l98 (x:=x) h hb hl m (i+1) (acc++[x]++[l[i]]) true (g+1+1) (by omega) (by simp at ha ⊢;omega)
    rw[show ((i+1:Nat):Int)=(i:Int)+1 from by omega,withGo_true]at ih
    simp only[List.map_append,List.map_cons,List.map_nil,List.length_append,List.length_cons,List.length_nil,Nat.zero_add,hE,xCells]at ih
    have hxE:x.enc=[iv x.v,iv x.p.node,iv x.p.slot]:=rfl
    simp only[hxE,List.append_assoc,List.cons_append,List.nil_append]at ih
    simp[c98l0,leave,xCells,hlt,hE,e0,okZ3,evOp.fillRows,evApp,normP,toPL,toP,okRows,okr,r1,r2,t1,t2,eq_true hc,eq_true hc',w64 ((i:Int)+1) (by omega) (by omega),gc,gcEnv,exp,expL,eOs,Exp.id,idxOf,List.range,List.range.loop,ih,withGo,withGo_true,hxE]
    refine ⟨⟨by omega,by omega⟩,?_,by omega⟩
    rw[List.drop_eq_getElem_cons (show i<(l.map End.enc).length by simpa using hlt)]
    simp[hE]
   ·have hc':¬ (x.v:Int)<l[i].v:=by omega
    have ih:=l98 (x:=x) h hb hl m (i+1) (acc++[l[i]]) false (g+1) (by omega) (by simp at ha ⊢;omega)
    rw[show ((i+1:Nat):Int)=(i:Int)+1 from by omega]at ih
    simp only[List.map_append,List.map_cons,List.map_nil,List.length_append,List.length_cons,List.length_nil,Nat.zero_add,hE,xCells]at ih
    simp[c98l0,leave,xCells,hlt,hE,e0,okZ3,evOp.fillRows,evApp,normP,toPL,toP,okRows,okr,r1,t1,eq_false hc,eq_false hc',w64 ((i:Int)+1) (by omega) (by omega),gc,gcEnv,exp,expL,eOs,Exp.id,idxOf,List.range,List.range.loop,ih,withGo]
    omega
theorem withE_len (l:List End)(x:End):(withE l x).length≤l.length+1:=by
 have:∀ r,(withGo x false r).2=false→(withGo x false r).1=r:=by
  intro r
  induction r with
  |nil=>intro _;rfl
  |cons y r ih =>
   simp only[withGo]
   split
   ·intro h;cases h
   ·intro h;rw[ih h]
 unfold withE
 split
 ·exact withGo_len x false l
 ·rename_i h
  rw[this l (by simpa using h)]
  simp
theorem s98 (h:Std pg){l:List End}{x:End}(hl:l.length<2 ^ 20):∃ g tl,E pg 98 [.p (.sl (l.map End.enc)),.ag (xCells x)] []=some (.ret (.arr 1 (withE l x).length g),.box (xCells x)::.arr 3 ((withE l x).map End.enc) g 0::tl):=by
 have hL:=l98 (x:=x) h rfl hl l.length 0 [] false 0 (by omega) (by simp)
 simp only[List.drop_zero,List.nil_append,List.length_nil,List.map_nil,show ((0:Nat):Int)=0 from rfl,Nat.zero_add,xCells]at hL
 have okr:∀ a b c:Int,okRow 3 [iv a,iv b,iv c]=true:=fun _ _ _=>rfl
 rw[h.run (x:=c98) rfl (by decide) (by decide) (by decide) (by decide)]
 unfold withE
 cases hb:(withGo x false l).2 with
 |true =>
  refine ⟨(withGo x false l).1.length,[],?_⟩
  rw[hb]at hL
  simp[c98,leave,xCells,okZ3,evOp.fillRows,gc,gcEnv,exp,expL,eOs,Exp.id,idxOf,List.range,List.range.loop,hL]
 |false =>
  have hlen:=withGo_len x false l
  have r1:roomy ((withGo x false l).1.length+1) 24=true:=by simp[roomy];omega
  have t1:List.take (withGo x false l).1.length ((withGo x false l).1.map End.enc)=(withGo x false l).1.map End.enc:=List.take_of_length_le (by simp)
  refine ⟨(withGo x false l).1.length+1,[.arr 3 [[iv x.v,iv x.p.node,iv x.p.slot]] 0 0],?_⟩
  rw[hb]at hL
  simp[c98,leave,xCells,okZ3,evOp.fillRows,gc,gcEnv,exp,expL,eOs,Exp.id,idxOf,List.range,List.range.loop,hL,evApp,normP,toPL,toP,okRows,okr,r1,t1,End.enc]
theorem t98 (h:Std pg){l:List End}{x:End}(hl:l.length<2 ^ 20):∃ (g:Nat) (tl:Nat→Heap),∀ G,eCA pg (E pg) 98 [.p (.sl (l.map End.enc)),.ag (xCells x)] G=some (.ret (.arr (G.length+1) (withE l x).length g),G++.box (xCells x)::.arr 3 ((withE l x).map End.enc) g 0::tl G.length):=by
 obtain ⟨g,tl,hs⟩:=s98 (x:=x) h hl
 refine ⟨g,fun b=>tl.map (backObj [] b),fun G=>?_⟩
 rw[at_gen hs rfl]
 simp[Out.back,back,backL,backId,backObj,setAll,xCells]
structure WI (n:Net):Prop where
 len:1≤n.nodes.length∧n.nodes.length≤n.cap∧n.cap≤4000
 node:∀ (i:Nat) (x:Node),n.nodes[i]?=some x→x.kind≠0∧x.to.length≤10
theorem WI.tiny {n:Net}(h:WI n):n.Tiny:=⟨by have:=h.len;omega,fun i x hx=>by have:=(h.node i x hx).2;omega⟩
theorem WI.used {n:Net}(h:WI n):n.used=n.nodes.length:=by
 unfold Net.used
 rw[List.countP_eq_length]
 intro x hx
 obtain ⟨i,hi,rfl⟩:=List.getElem_of_mem hx
 simpa using (h.node i _ (gG hi)).1
theorem WI.place {n:Net}(h:WI n):n.place=n.nodes.length:=by
 unfold Net.place
 have:n.nodes.findIdx? (fun x=>decide (x.kind=0))=none:=by
  rw[List.findIdx?_eq_none_iff]
  intro x hx
  obtain ⟨i,hi,rfl⟩:=List.getElem_of_mem hx
  simpa using (h.node i _ (gG hi)).1
 rw[this]
 rfl
theorem WI.make_nodes {n:Net}(h:WI n)(x:Node):(n.make x).nodes=n.nodes++[x.fresh]:=by
 unfold Net.make
 rw[h.place,if_neg (by omega)]
theorem fresh_to (x:Node):x.fresh.to.length=x.ports:=by simp[Node.fresh]
theorem WI.rmake {n:Net}(h:WI n){x:Node}(hk:2≤x.kind)(hx:x.ok=true):WI (n.rmake x).1:=by
 unfold Net.rmake
 split
 ·rename_i hu
  rw[h.used]at hu
  dsimp only
  refine ⟨?_,fun i y hy=>?_⟩
  ·rw[h.make_nodes,Net.make_cap]
   have:=h.len
   simp only[List.length_append,List.length_cons,List.length_nil]
   omega
  ·rw[h.make_nodes,List.getElem?_append]at hy
   split at hy
   ·exact h.node i y hy
   ·have:y=x.fresh:=by
     have hm:=List.mem_of_getElem? hy
     simpa using hm
    subst this
    refine ⟨by simp only[Node.fresh];omega,?_⟩
    rw[fresh_to]
    exact ports_big hx (ok_to hx)
 ·exact h
theorem WI.made {n:Net}(h:WI n){x:Node}(hk:2≤x.kind)(hx:x.lev≤60→x.ok=true):WI (n.made x).1:=by
 unfold Net.made
 split
 ·exact h
 ·exact h.rmake hk (hx (by omega))
theorem WI.put {n:Net}(h:WI n)(p q:Port):WI (n.put p q):=by
 refine ⟨by rw[Net.put_len,Net.put_cap];exact h.len,fun i x hx=>?_⟩
 rw[Net.put_at]at hx
 split at hx
 ·obtain ⟨y,hy,rfl⟩:=Option.map_eq_some_iff.1 hx
  have:=h.node i y hy
  exact ⟨this.1,by simpa [Node.setTo] using this.2⟩
 ·exact h.node i x hx
theorem WI.rlink {n:Net}(h:WI n)(p q:Port):WI (n.rlink p q):=by
 unfold Net.rlink Net.link
 split
 ·exact (h.put p q).put q p
 ·exact h
theorem Net.made_cap (n:Net)(x:Node):(n.made x).1.cap=n.cap:=by
 unfold Net.made Net.rmake
 split
 ·rfl
 ·split<;>rfl
def shutN (lev:Nat):Node:=⟨6,lev,0,[],[],[]⟩
def boxGo (lev:Nat):Net→List End→Net×List End×Nat
 |n,[]=>(n,[],0)
 |n,e::r=>if (n.made (shutN lev)).2.2=0 then
   ((boxGo lev ((n.made (shutN lev)).1.rlink ⟨(n.made (shutN lev)).2.1,1⟩ e.p) r).1,⟨e.v,⟨(n.made (shutN lev)).2.1,0⟩⟩::(boxGo lev ((n.made (shutN lev)).1.rlink ⟨(n.made (shutN lev)).2.1,1⟩ e.p) r).2.1,(boxGo lev ((n.made (shutN lev)).1.rlink ⟨(n.made (shutN lev)).2.1,1⟩ e.p) r).2.2)
  else ((n.made (shutN lev)).1.rlink ⟨(n.made (shutN lev)).2.1,1⟩ e.p,⟨e.v,⟨(n.made (shutN lev)).2.1,0⟩⟩::r,(n.made (shutN lev)).2.2)
theorem shut_ok {lev:Nat}(h:lev≤60):(shutN lev).ok=true:=Node.ok_mk (by omega) rfl (by omega) h (by simp) (by simp) (by omega)
theorem boxGo_len (lev:Nat):∀ (l:List End) (n:Net),(boxGo lev n l).2.1.length=l.length
 |[],n=>rfl
 |e::r,n=>by
  unfold boxGo
  split
  ·simp[boxGo_len lev r]
  ·simp
theorem boxGo_wi {lev:Nat}:∀ (l:List End) {n:Net},WI n→WI (boxGo lev n l).1
 |[],n,h=>h
 |e::r,n,h=>by
  unfold boxGo
  split
  ·exact boxGo_wi r ((h.made (by simp[shutN]) shut_ok).rlink _ _)
  ·exact (h.made (by simp[shutN]) shut_ok).rlink _ _
def wCs (n:Net)(o1 o2:Int)(L:AV)(e:Int):List AV:=[.p (.sl (n.nodes.map Node.enc)),.p (.i .i64 n.cap),.p (.i .i64 o1),.p (.i .i64 o2),L,.p (.i .i64 e)]
def zCells:List AV:=[.nils,.p (.i .i64 0),.p (.i .i64 0),.p (.i .i64 0),.nils,.p (.i .i64 0)]
theorem t50s (h:Std pg){n:Net}{k lev:Nat}{K:Int}(hK:K=k)(hw:WI n)(hk:2≤k)(hx:lev≤60→(Node.mk k lev 0 [] [] []).ok=true) :
  eCA pg (E pg) 50 [.ag [.p (.sl (n.nodes.map Node.enc)),.p (.i .i64 n.cap)],.ag [.p (.i .i64 K),.p (.i .i64 lev),.p (.i .i64 0),.p (.s []),.nils,.nils]] G=some (mkOut (n.made ⟨k,lev,0,[],[],[]⟩),G):=by
 subst hK
 have:=t50 (G:=G) (x:=⟨k,lev,0,[],[],[]⟩) h (by have:=hw.len;omega) hw.len.1 hk hx
 rw[← this]
 refine at_norm fun e=>?_
 simp[show keepA pg 50=false from h.keep (x:=c50) rfl,exp,expL]
theorem l97 (h:Std pg){body:CCode}(hb:body=c97l0){lev:Nat}{o1 o2:Int}{gen:Nat}:∀ (rest pre:List End) (n:Net),WI n→(pre++rest).length<2 ^ 20 →
  ∃ j:Int,L pg 1 [1,2,4,5] body [(1,.p (.i .i64 lev)),(2,.ptr 1 0),(4,.ptr 2 0),(5,.p (.i .i64 pre.length))] [.arr 3 ((pre++rest).map End.enc) gen 0,.box (wCs n o1 o2 (.arr 0 (pre++rest).length gen) 0),.box zCells] =
   some (.exit 0,[(1,.p (.i .i64 lev)),(2,.ptr 1 0),(4,.ptr 2 0),(5,.p (.i .i64 j)),(18,.p (.b false))],[.arr 3 ((pre++(boxGo lev n rest).2.1).map End.enc) gen 0,.box (wCs (boxGo lev n rest).1 o1 o2 (.arr 0 (pre++rest).length gen) (boxGo lev n rest).2.2),.box zCells])
 |[],pre,n,hw,hl=>by
  refine ⟨pre.length,?_⟩
  rw[k_L hb]
  simp[c97l0,leave,boxGo,wCs,zCells]
 |e::r,pre,n,hw,hl=>by
  have e50:=fun G=>t50s (G:=G) (k:=6) (K:=6) (lev:=lev) h rfl hw (by omega) shut_ok
  have hwm:=hw.made (x:=shutN lev) (by simp[shutN]) shut_ok
  have hcm:=Net.made_cap n (shutN lev)
  have hbg:boxGo lev n (e::r)=if (n.made (shutN lev)).2.2=0 then
   ((boxGo lev ((n.made (shutN lev)).1.rlink ⟨(n.made (shutN lev)).2.1,1⟩ e.p) r).1,⟨e.v,⟨(n.made (shutN lev)).2.1,0⟩⟩::(boxGo lev ((n.made (shutN lev)).1.rlink ⟨(n.made (shutN lev)).2.1,1⟩ e.p) r).2.1,(boxGo lev ((n.made (shutN lev)).1.rlink ⟨(n.made (shutN lev)).2.1,1⟩ e.p) r).2.2)
   else ((n.made (shutN lev)).1.rlink ⟨(n.made (shutN lev)).2.1,1⟩ e.p,⟨e.v,⟨(n.made (shutN lev)).2.1,0⟩⟩::r,(n.made (shutN lev)).2.2):=rfl
  rw[hbg]
  have hsh:(⟨6,lev,0,[],[],[]⟩:Node)=shutN lev:=rfl
  rw[hsh]at e50
  generalize hr:n.made (shutN lev)=R at *
  obtain ⟨m,s,err⟩:=R
  dsimp only at hwm hcm ⊢
  have hl2:pre.length<2 ^ 20:=by simp at hl;omega
  have e38:=fun G=>t38 (G:=G) (p:=⟨s,1⟩) (q:=e.p) h hwm.tiny
  have hcl:=Net.rlink_cap m ⟨s,1⟩ e.p
  have hg:∀ X:List PV,(List.map End.enc pre++X::List.map End.enc r)[pre.length]?=some X:=fun X=>by simp
  have hset:∀ X Y:List PV,(List.map End.enc pre++X::List.map End.enc r).set pre.length Y=List.map End.enc pre++Y::List.map End.enc r:=fun X Y=>by simp
  have hlt:pre.length<(pre++e::r).length:=by simp
  have hlt':(pre.length:Int)<((pre++e::r).length:Nat):=by omega
  simp only[mkOut]at e50
  generalize hl1:m.rlink ⟨s,1⟩ e.p=m1 at *
  rw[hcm]at hcl
  simp only[hcm,hcl]at e38
  by_cases he:err=0
  ·subst he
   obtain ⟨j,ih⟩:=l97 h hb (lev:=lev) (o1:=o1) (o2:=o2) (gen:=gen) r (pre++[⟨e.v,⟨s,0⟩⟩]) m1 (by rw[← hl1];exact hwm.rlink _ _) (by simpa using hl)
   refine ⟨j,?_⟩
   simp only[wCs,hcl]at ih
   rw[k_L hb,if_pos rfl]
   simp only[wCs,zCells,List.append_assoc,List.cons_append,List.nil_append,List.length_append,List.length_cons,List.length_nil,Nat.zero_add,Int.natCast_add,show ((1:Nat):Int)=1 from rfl,show ((0:Nat):Int)=0 from rfl,List.map_append,List.map_cons,End.enc]at ih e50 e38 hlt hlt' ⊢
   simp[c97l0,leave,hlt,hlt',hg,hset,e50,t39 h,k39 h,noIdAt,noId,e38,h.ro,hcl,hcm,normP,toPL,toP,w64 ((pre.length:Int)+1) (by omega) (by omega),gc,gcEnv,exp,expL,eOs,Exp.id,idxOf,List.range,List.range.loop,ih]
  ·refine ⟨pre.length+1,?_⟩
   rw[k_L hb,if_neg he]
   have he':¬ (err:Int)=0:=by omega
   simp only[wCs,zCells,List.length_append,List.length_cons,List.length_nil,Nat.zero_add,Int.natCast_add,show ((1:Nat):Int)=1 from rfl,show ((0:Nat):Int)=0 from rfl,List.map_append,List.map_cons,End.enc]at e50 e38 hlt hlt' ⊢
   simp[c97l0,leave,hlt,hlt',hg,hset,e50,t39 h,k39 h,noIdAt,noId,e38,h.ro,hcl,hcm,normP,toPL,toP,w64 ((pre.length:Int)+1) (by omega) (by omega),gc,gcEnv,exp,expL,eOs,Exp.id,idxOf,List.range,List.range.loop]
   rw[k_L hb]
   rcases Nat.eq_zero_or_pos r.length with h0|h0
   ·simp[c97l0,leave,he,he',h0]
   ·have h0':(1:Int)<r.length+1:=by omega
    simp[c97l0,leave,he,he',h0,h0']
def EV (b:Nat)(L:AV)(O:Heap)(l:List End):Prop:=(L=.nils∧l=[])∨∃ k g,L=.arr (k+b) l.length g∧O[k]?=some (.arr 3 (l.map End.enc) g 0)
def nodesV (a:AV):Prop:=a=.nils∨∃ r,a=.p (.sl r)
def wv (a:AV)(b c d:Int)(L:AV)(e:Int):List AV:=[a,.p (.i .i64 b),.p (.i .i64 c),.p (.i .i64 d),L,.p (.i .i64 e)]
theorem s97n (h:Std pg){lev:Nat}{a:AV}{b c d e:Int}(ha:nodesV a):∃ tl,E pg 97 [.ag (wv a b c d .nils e),.p (.i .i64 lev)] []=some (.ret (.ag (wv a b c d .nils e)),tl):=by
 refine ⟨[.box (wv a b c d .nils e),.box (wv a b c d .nils e)],?_⟩
 rw[h.run (x:=c97) rfl (by decide) (by decide) (by decide) (by decide)]
 rcases ha with rfl|⟨r,rfl⟩
 ·simp[c97,leave,wv,gc,gcEnv,exp,expL,eOs,Exp.id,idxOf,List.range,List.range.loop]
  rw[k_L rfl]
  simp[c97l0,leave]
 ·simp[c97,leave,wv,gc,gcEnv,exp,expL,eOs,Exp.id,idxOf,List.range,List.range.loop]
  rw[k_L rfl]
  simp[c97l0,leave]
theorem s97e (h:Std pg){lev:Nat}{a:AV}{b c d e:Int}{l:List End}{g:Nat}(ha:nodesV a)(he:e≠0):∃ tl,E pg 97 [.ag (wv a b c d (.arr 0 l.length g) e),.p (.i .i64 lev)] [.arr 3 (l.map End.enc) g 0]=some (.ret (.ag (wv a b c d (.arr 0 l.length g) e)),.arr 3 (l.map End.enc) g 0::tl):=by
 refine ⟨[.box (wv a b c d (.arr 0 l.length g) e),.box (wv a b c d (.arr 0 l.length g) e)],?_⟩
 rw[h.run (x:=c97) rfl (by decide) (by decide) (by decide) (by decide)]
 have hl:l.length=0∨0<l.length:=by omega
 rcases ha with rfl|⟨r,rfl⟩<;>rcases hl with hl|hl
 all_goals
  simp[c97,leave,wv,gc,gcEnv,exp,expL,eOs,Exp.id,idxOf,List.range,List.range.loop]
  rw[k_L rfl]
  simp[c97l0,leave,hl,he]
theorem s97o (h:Std pg){lev:Nat}{n:Net}{o1 o2:Int}{l:List End}{g:Nat}(hw:WI n)(hl:l.length<2 ^ 20):∃ tl,E pg 97 [.ag (wCs n o1 o2 (.arr 0 l.length g) 0),.p (.i .i64 lev)] [.arr 3 (l.map End.enc) g 0] =
  some (.ret (.ag (wCs (boxGo lev n l).1 o1 o2 (.arr 0 l.length g) (boxGo lev n l).2.2)),.arr 3 ((boxGo lev n l).2.1.map End.enc) g 0::tl):=by
 obtain ⟨j,hL⟩:=l97 (body:=c97l0) h rfl (lev:=lev) (o1:=o1) (o2:=o2) (gen:=g) l [] n hw (by simpa using hl)
 refine ⟨[.box (wCs (boxGo lev n l).1 o1 o2 (.arr 0 l.length g) (boxGo lev n l).2.2),.box (wCs (boxGo lev n l).1 o1 o2 (.arr 0 l.length g) (boxGo lev n l).2.2)],?_⟩
 simp only[List.nil_append,List.length_nil,show ((0:Nat):Int)=0 from rfl,wCs,zCells]at hL ⊢
 rw[h.run (x:=c97) rfl (by decide) (by decide) (by decide) (by decide)]
 simp[c97,leave,gc,gcEnv,exp,expL,eOs,Exp.id,idxOf,List.range,List.range.loop]
 rw[hL]
 simp[leave]
structure W where
 n:Net
 out:Port
 l:List End
 e:Nat
def badW (e:Nat):W:=⟨⟨[],0⟩,⟨0,0⟩,[],e⟩
structure WV (b:Nat)(w:W)(v:List AV)(O:Heap):Prop where
 ex:∃ (a:AV) (x y z:Int) (L:AV) (l:List End),v=wv a x y z L w.e∧nodesV a∧EV b L O l∧(w.e=0→a=.p (.sl (w.n.nodes.map Node.enc))∧x=w.n.cap∧y=w.out.node∧z=w.out.slot∧l=w.l)
theorem EV.back {L:AV}{O:Heap}{l:List End}(h:EV 0 L O l)(b:Nat):EV b (back [] b L) (O.map (backObj [] b)) l:=by
 rcases h with ⟨rfl,rfl⟩|⟨k,g,rfl,hk⟩
 ·left;exact ⟨rfl,rfl⟩
 ·right
  refine ⟨k,g,?_,?_⟩
  ·simp[Z.back,backId];omega
  ·rw[List.getElem?_map,hk];rfl
theorem nodesV.back {a:AV}(h:nodesV a)(ids:List Nat)(b:Nat):Z.back ids b a=a:=by
 rcases h with rfl|⟨r,rfl⟩<;>rfl
theorem at_W {call:CallF}{f:Nat}{args:List AV}{w:W}{v:List AV}{O:Heap}(hc:call f args []=some (.ret (.ag v),O))(hv:WV 0 w v O)(ha:flatAL args=true) :
  ∃ v' O',eCA pg call f args G=some (.ret (.ag v'),G++O')∧WV G.length w v' O':=by
 obtain ⟨a,x,y,z,L,l,rfl,h1,h2,h3⟩:=hv
 refine ⟨wv a x y z (back [] G.length L) w.e,O.map (backObj [] G.length),?_,⟨a,x,y,z,_,l,rfl,h1,h2.back _,h3⟩⟩
 rw[at_gen hc ha]
 simp only[Out.back,Z.back,wv,backL,h1.back]
def boxW (lev:Nat)(w:W):W:=if w.e=0 then ⟨(boxGo lev w.n w.l).1,w.out,(boxGo lev w.n w.l).2.1,(boxGo lev w.n w.l).2.2⟩ else w
theorem t97 (h:Std pg){lev:Nat}{w:W}{v:List AV}{B O:Heap}(hv:WV B.length w v O)(hw:w.e=0→WI w.n)(hl:w.e=0→w.l.length<2 ^ 20) :
  ∃ v' O',eCA pg (E pg) 97 [.ag v,.p (.i .i64 lev)] (B++O)=some (.ret (.ag v'),B++O')∧WV B.length (boxW lev w) v' O':=by
 obtain ⟨a,x,y,z,L,l,rfl,h1,h2,h3⟩:=hv
 have k97:keepA pg 97=true:=h.keep (x:=c97) rfl
 rcases h2 with ⟨rfl,rfl⟩|⟨k,g,rfl,hk⟩
 ·obtain ⟨tl,hs⟩:=s97n (lev:=lev) (b:=x) (c:=y) (d:=z) (e:=w.e) h h1
  refine ⟨wv a x y z .nils w.e,O++tl.map (backObj [] (B++O).length),?_,⟨?_⟩⟩
  ·unfold eCA
   rw[k97]
   rcases h1 with rfl|⟨r,rfl⟩
   ·simp[exp,expL,wv,eOs]at hs ⊢
    rw[hs]
    simp[Out.back,back,backL,backId,backObj,setAll]
   ·simp[exp,expL,wv,eOs]at hs ⊢
    rw[hs]
    simp[Out.back,back,backL,backId,backObj,setAll]
  ·refine ⟨a,x,y,z,.nils,[],?_,h1,.inl ⟨rfl,rfl⟩,?_⟩
   ·unfold boxW
    split
    ·rename_i e
     obtain ⟨_,_,_,_,hl5⟩:=h3 e
     rw[← hl5]
     simp[boxGo,e]
    ·rfl
   ·unfold boxW
    split
    ·rename_i e
     obtain ⟨q1,q2,q3,q4,q5⟩:=h3 e
     rw[← q5]
     intro _
     exact ⟨q1,q2,q3,q4,rfl⟩
    ·exact h3
 ·have hgk:(B++O)[k+B.length]?=some (.arr 3 (l.map End.enc) g 0):=by
   rw[List.getElem?_append_right (by omega),Nat.add_sub_cancel,hk]
  have hkl:k<O.length:=(gE hk).1
  have hob:eOs ((B++O).length+1) ⟨[k+B.length],B++O⟩ 0=some ([.arr 3 (l.map End.enc) g 0],⟨[k+B.length],B++O⟩):=by
   obtain ⟨m,hm⟩:∃ m,(B++O).length=m+1:=⟨(B++O).length-1,by simp;omega⟩
   rw[hm]
   simp only[eOs,List.getElem?_cons_zero]
   rw[hgk]
   simp
  have hset:∀ o,(B++O).set (k+B.length) o=B++O.set k o:=fun o=>by
   rw[List.set_append_right _ _ (by omega),Nat.add_sub_cancel]
  by_cases e0:w.e=0
  ·obtain ⟨q1,q2,q3,q4,q5⟩:=h3 e0
   subst q1 q2 q3 q4 q5
   obtain ⟨tl,hs⟩:=s97o (lev:=lev) (o1:=w.out.node) (o2:=w.out.slot) (g:=g) h (hw e0) (hl e0)
   have hW:boxW lev w=⟨(boxGo lev w.n w.l).1,w.out,(boxGo lev w.n w.l).2.1,(boxGo lev w.n w.l).2.2⟩:=by unfold boxW;rw[if_pos e0]
   refine ⟨wCs (boxGo lev w.n w.l).1 w.out.node w.out.slot (.arr (k+B.length) w.l.length g) (boxGo lev w.n w.l).2.2,O.set k (.arr 3 ((boxGo lev w.n w.l).2.1.map End.enc) g 0)++tl.map (backObj [k+B.length] (B++O).length),?_,⟨?_⟩⟩
   ·unfold eCA
    rw[k97,e0]
    simp[exp,expL,wv,Exp.id,idxOf]
    simp only[List.length_append]at hob
    rw[hob]
    simp only[wCs]at hs
    simp only[show ((0:Nat):Int)=0 from rfl]at hs ⊢
    rw[hs]
    simp[Out.back,back,backL,backId,backObj,setAll,wCs,hset]
   ·rw[hW]
    refine ⟨.p (.sl ((boxGo lev w.n w.l).1.nodes.map Node.enc)),(boxGo lev w.n w.l).1.cap,w.out.node,w.out.slot,.arr (k+B.length) w.l.length g,(boxGo lev w.n w.l).2.1,rfl,.inr ⟨_,rfl⟩,.inr ⟨k,g,?_,?_⟩,fun _=>⟨rfl,rfl,rfl,rfl,rfl⟩⟩
    ·rw[boxGo_len]
    ·rw[List.getElem?_append_left (by simpa using hkl),List.getElem?_set_self (by simpa using hkl)]
  ·obtain ⟨tl,hs⟩:=s97e (lev:=lev) (b:=x) (c:=y) (d:=z) (e:=w.e) (l:=l) (g:=g) h h1 (by omega)
   have hW:boxW lev w=w:=by unfold boxW;rw[if_neg e0]
   refine ⟨wv a x y z (.arr (k+B.length) l.length g) w.e,O.set k (.arr 3 (l.map End.enc) g 0)++tl.map (backObj [k+B.length] (B++O).length),?_,⟨a,x,y,z,_,l,?_,h1,.inr ⟨k,g,rfl,?_⟩,?_⟩⟩
   ·unfold eCA
    rw[k97]
    simp only[List.length_append]at hob
    rcases h1 with rfl|⟨r,rfl⟩
    ·simp[exp,expL,wv,Exp.id,idxOf]at hs ⊢
     rw[hob]
     dsimp only
     rw[hs]
     simp[Out.back,back,backL,backId,backObj,setAll,hset]
    ·simp[exp,expL,wv,Exp.id,idxOf]at hs ⊢
     rw[hob]
     dsimp only
     rw[hs]
     simp[Out.back,back,backL,backId,backObj,setAll,hset]
   ·rw[hW]
   ·rw[List.getElem?_append_left (by simpa using hkl),List.getElem?_set_self (by simpa using hkl)]
   ·rw[hW];exact h3
end Go.Proofs.Z
end
