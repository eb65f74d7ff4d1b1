/- A part of the proof. -/
import Derived.Test.YtffohgbmjjbhiaaGreatA10
import Derived.Test.YtffohgbmjjbhiaaGreatA08
set_option linter.all false
section
namespace Go.Proofs.Z
open Go Go.Proofs
attribute [local simp] k_nil k_ops k_opsg kG_true kG_false kO_val kO_pan k_seq kS_n kS_r kS_e kS_p k_o kR_n kR_p kD2_n kD1_n k_d k_c kC_t kC_f k_b kB_n kB_r kB_p kB_e k_skip k_ret k_exit k_l kL_s kLp_n kLp_r kLp_e kLp_p k_f kF_n kF_r kF_p kV_f kV_t kN_s evOp evBin gOK opd opds lk put restr iEv evRes whole norm normL one Out.below below belowL bOb evStore evLoad evLen AV.cells AV.flat PV.flat splice fillAt pcs isStr rowsOf Res.of evCmp lvE leafEq asInt noIdAt noId noIdL tids chkOK
variable {pg:Prg}{G:Heap}
def ralt (all:List (List UInt8×Int))(i:Nat)(a:List UInt8×Int):Bool:=(!decide (a.1=[]) && !decide (a.2<0) && !decide (8<a.2)) && (all.take i).all fun b=>!decide (b.1=a.1)
theorem l28 (h:Std pg)(all:List (List UInt8×Int))(hl:all.length<2 ^ 60)(c:List AV)(hc:c[4]?=some (.p (.sl (all.map rAr))))(hf:flatAL c=true) :
  L pg 0 [1,3] c28l1 [(1,.ptr 0 0),(3,.p (.i .i64 0))] [.box c]=bif allI (ralt all) 0 all then some (.exit 0,[(1,.ptr 0 0),(3,.p (.i .i64 all.length)),(112,.p (.b false))],[.box c]) else some (.ret,[(2,.p (.b false))],[.box c]):=by
 have he:∀ e,expL true e c=some (c,e):=fun e=>flatAL_exp true e hf
 refine L_list rfl (fun i=>[(1,.ptr 0 0),(3,.p (.i .i64 (i:Nat)))]) [.box c] [.box c] all 0 (ralt all) _ _ ?_ ?_ ?_
 ·intro i a hi hx hx' hp
  simp only[ralt,Bool.and_eq_true,Bool.not_eq_true',decide_eq_false_iff_not]at hp
  obtain ⟨⟨⟨p1,p2⟩,p3⟩,p4⟩:=hp
  have hin:=L_list (pg:=pg) (base:=0) (live:=[1,3,4]) (body:=c28l0) rfl (fun k=>[(1,.ptr 0 0),(3,.p (.i .i64 (i:Nat))),(4,.p (.i .i64 (k:Nat)))]) [.box c] [.box c] (all.take i) 2 (fun _ b=>!decide (b.1=a.1)) [(2,.p (.b false))] [(1,.ptr 0 0),(3,.p (.i .i64 (i:Nat))),(4,.p (.i .i64 (i:Nat))),(142,.p (.b false))]
   (fun k b hk hy hy' hq=>by
    simp at hq
    have hk':k<i:=by simp at hk;omega
    have hy2:all[k]?=some b:=by rw[← hy,List.getElem?_take,if_pos hk']
    have hka:k<all.length:=by omega
    have hy3:all[k]=b:=by rw[gG hka]at hy2;exact Option.some.inj hy2
    simp[c28l0,leave,hk',hc,hka,hy2,hy3,hi,hx,hx',rAr,okRow,eq_false hq,w64 ((k:Int)+1) (by omega) (by omega),gc,gcEnv,exp,expL,eOs,Exp.id,idxOf,List.range,List.range.loop,he])
   (fun k b hk hy hy' hq=>by
    simp at hq
    have hk':k<i:=by simp at hk;omega
    have hy2:all[k]?=some b:=by rw[← hy,List.getElem?_take,if_pos hk']
    have hka:k<all.length:=by omega
    have hy3:all[k]=b:=by rw[gG hka]at hy2;exact Option.some.inj hy2
    simp[c28l0,leave,hk',hc,hka,hy2,hy3,hi,hx,hx',rAr,okRow,eq_true hq])
   (by simp[c28l0,leave,Nat.min_eq_left (Nat.le_of_lt hi)])
  rw[allI_all,p4]at hin
  simp only[show ((0:Nat):Int)=0 from rfl]at hin
  simp[c28l1,leave,hi,hc,hx,hx',rAr,okRow,eq_false p1,eq_false p2,eq_false p3,gc,gcEnv,exp,expL,eOs,Exp.id,idxOf,List.range,List.range.loop,he,hin,w64 ((i:Int)+1) (by omega) (by omega)]
 ·intro i a hi hx hx' hp
  by_cases p1:a.1=[]
  ·simp[c28l1,leave,hi,hc,hx,hx',rAr,okRow,eq_true p1]
  by_cases p2:a.2<0
  ·simp[c28l1,leave,hi,hc,hx,hx',rAr,okRow,eq_false p1,eq_true p2]
  by_cases p3:8<a.2
  ·simp[c28l1,leave,hi,hc,hx,hx',rAr,okRow,eq_false p1,eq_false p2,eq_true p3]
  have p4:((all.take i).all fun b=>!decide (b.1=a.1))=false:=by simpa only[ralt,p1,p2,p3,decide_false,Bool.not_false,Bool.true_and,Bool.and_self] using hp
  have hin:=L_list (pg:=pg) (base:=0) (live:=[1,3,4]) (body:=c28l0) rfl (fun k=>[(1,.ptr 0 0),(3,.p (.i .i64 (i:Nat))),(4,.p (.i .i64 (k:Nat)))]) [.box c] [.box c] (all.take i) 2 (fun _ b=>!decide (b.1=a.1)) [(2,.p (.b false))] [(1,.ptr 0 0),(3,.p (.i .i64 (i:Nat))),(4,.p (.i .i64 (i:Nat))),(142,.p (.b false))]
   (fun k b hk hy hy' hq=>by
    simp at hq
    have hk':k<i:=by simp at hk;omega
    have hy2:all[k]?=some b:=by rw[← hy,List.getElem?_take,if_pos hk']
    have hka:k<all.length:=by omega
    have hy3:all[k]=b:=by rw[gG hka]at hy2;exact Option.some.inj hy2
    simp[c28l0,leave,hk',hc,hka,hy2,hy3,hi,hx,hx',rAr,okRow,eq_false hq,w64 ((k:Int)+1) (by omega) (by omega),gc,gcEnv,exp,expL,eOs,Exp.id,idxOf,List.range,List.range.loop,he])
   (fun k b hk hy hy' hq=>by
    simp at hq
    have hk':k<i:=by simp at hk;omega
    have hy2:all[k]?=some b:=by rw[← hy,List.getElem?_take,if_pos hk']
    have hka:k<all.length:=by omega
    have hy3:all[k]=b:=by rw[gG hka]at hy2;exact Option.some.inj hy2
    simp[c28l0,leave,hk',hc,hka,hy2,hy3,hi,hx,hx',rAr,okRow,eq_true hq])
   (by simp[c28l0,leave,Nat.min_eq_left (Nat.le_of_lt hi)])
  rw[allI_all,p4]at hin
  simp only[show ((0:Nat):Int)=0 from rfl]at hin
  simp[c28l1,leave,hi,hc,hx,hx',rAr,okRow,eq_false p1,eq_false p2,eq_false p3,gc,gcEnv,exp,expL,eOs,Exp.id,idxOf,List.range,List.range.loop,he,hin]
 ·simp[c28l1,leave,hc]
def rnode (x:RNode):Bool:=rhead x && allI (ralt x.alts) 0 x.alts
theorem t28 (h:Std pg)(k l n:Int)(name:List UInt8)(alts:List (List UInt8×Int))(to:List (Int×Int))(hl:alts.length<2 ^ 60) :
  eCA pg (E pg) 28 [.ag [.p (.i .i64 k),.p (.i .i64 l),.p (.i .i64 n),.p (.s name),.p (.sl (alts.map rAr)),.p (.sl (to.map rPt))]] G=some (.ret (.p (.b (rnode ⟨k,l,n,name,alts,to⟩))),G):=by
 refine at_pure ?_ rfl rfl
 rw[u28 h k l n name alts to _ (l28 h alts hl _ rfl rfl)]
 unfold rnode sel
 cases rhead ⟨k,l,n,name,alts,to⟩<;>cases allI (ralt alts) 0 alts<;>simp[leave]
def rports (x:RNode):Int:=if x.kind=8 then x.to.length else if x.kind=9 then 2+x.alts.length else if 0≤x.kind then (kindPorts x.kind.toNat:Nat) else 0
theorem t29 (h:Std pg)(k l n:Int)(name:List UInt8)(alts:List (List UInt8×Int))(to:List (Int×Int))(hl:alts.length<2 ^ 60) :
  eCA pg (E pg) 29 [.ag [.p (.i .i64 k),.p (.i .i64 l),.p (.i .i64 n),.p (.s name),.p (.sl (alts.map rAr)),.p (.sl (to.map rPt))]] G=some (.ret (.p (.i .i64 (rports ⟨k,l,n,name,alts,to⟩))),G):=by
 refine at_pure ?_ rfl rfl
 rw[h.run (x:=c29) rfl (by decide) (by decide) (by decide) (by decide)]
 have hk:k=1∨k=7∨k=10∨k=13∨k=5∨k=6∨k=12∨k=2∨k=3∨k=4∨k=11∨k=8∨k=9∨(k≠1∧k≠7∧k≠10∧k≠13∧k≠5∧k≠6∧k≠12∧k≠2∧k≠3∧k≠4∧k≠11∧k≠8∧k≠9):=by omega
 rcases hk with rfl|rfl|rfl|rfl|rfl|rfl|rfl|rfl|rfl|rfl|rfl|rfl|rfl|⟨a1,a2,a3,a4,a5,a6,a7,a8,a9,a10,a11,a12,a13⟩
 case inr.inr.inr.inr.inr.inr.inr.inr.inr.inr.inr.inr.inr =>
  have e0:rports ⟨k,l,n,name,alts,to⟩=0:=by
   simp only[rports,a12,a13,if_false]
   by_cases b:0≤k
   ·rw[if_pos b]
    by_cases c:k<14
    ·have:k=0:=by omega
     subst this
     rfl
    ·rw[kindPorts_big (by omega)];rfl
   ·rw[if_neg b]
  simp[c29,leave,a1,a2,a3,a4,a5,a6,a7,a8,a9,a10,a11,a12,a13,e0]
 all_goals simp[c29,leave,rports,kindPorts,w64 (2+(alts.length:Int)) (by omega) (by omega)]
def rhas (l:List RNode)(p:Int×Int):Bool:=decide (0≤p.1) && decide (p.1<l.length) && decide (0≤p.2) && match l[p.1.toNat]? with
 |some x=>decide (p.2<x.to.length)
 |none=>false
theorem t30 (h:Std pg)(l:List RNode)(C a b:Int) :
  eCA pg (E pg) 30 [.ag [.p (.sl (l.map RNode.enc)),.p (.i .i64 C)],.ag [.p (.i .i64 a),.p (.i .i64 b)]] G=some (.ret (.p (.b (rhas l (a,b)))),G):=by
 refine at_pure ?_ rfl rfl
 rw[h.run (x:=c30) rfl (by decide) (by decide) (by decide) (by decide)]
 by_cases h1:0≤a
 ·by_cases h2:a<l.length
  ·have h3:a.toNat<l.length:=by omega
   have e1:=okRNode l[a.toNat]
   simp only[RNode.enc]at e1
   by_cases h4:0≤b
   ·simp[c30,leave,rhas,h1,h2,h3,h4,RNode.enc,e1]
   ·simp[c30,leave,rhas,h1,h2,h3,h4]
  ·simp[c30,leave,rhas,h1,h2]
 ·simp[c30,leave,rhas,h1]
def rlink (l:List RNode)(i k:Nat)(q:Int×Int):Bool:=!decide (q=((i:Int),(k:Int))) && rhas l q && match l[q.1.toNat]? with
 |some y=>decide (y.to[q.2.toNat]?=some ((i:Int),(k:Int)))
 |none=>false
def rone (l:List RNode)(i:Nat)(x:RNode):Bool:=rnode x && decide ((x.to.length:Int)=rports x) && (decide (i=0) == decide (x.kind=1)) && allI (rlink l i) 0 x.to
def rcheck (l:List RNode)(C:Int):Bool:=!decide (C<1) && !decide (4000<C) && !decide ((l.length:Int)<1) && !decide (C<l.length) && (match l[l.length-1]? with|some x=>!decide (x.kind=0)|none=>true) && allI (rone l) 0 l
theorem okW (c1 c2 c3:Int)(s:List UInt8)(a b:List (List PV)):okRow 6 [iv c1,iv c2,iv c3,.s s,.sl a,.sl b]=true:=rfl
theorem l10 (h:Std pg){body:CCode}(hb:body=c10l0)(l:List RNode)(C:Int)(hl:l.length<2 ^ 60)(i:Nat)(x:RNode)(hx:l[i]?=some x)(hxl:x.to.length<2 ^ 60) :
  ∃ H,L pg 0 [1,3,4,5] body [(1,.ptr 0 0),(3,.p (.i .i64 i)),(4,.ptr 1 0),(5,.p (.i .i64 0))] [.box [.p (.sl (l.map RNode.enc)),.p (.i .i64 C)],.box (pcs x.enc)] =
   bif allI (rlink l i) 0 x.to then some (.exit 2,[(1,.ptr 0 0),(3,.p (.i .i64 i)),(4,.ptr 1 0),(5,.p (.i .i64 x.to.length)),(77,.p (.b false))],[.box [.p (.sl (l.map RNode.enc)),.p (.i .i64 C)],.box (pcs x.enc)]) else some (.ret,[(2,.p (.i .i64 120))],H):=by
 refine L_listE hb (fun k=>[(1,.ptr 0 0),(3,.p (.i .i64 (i:Nat))),(4,.ptr 1 0),(5,.p (.i .i64 (k:Nat)))]) [.box [.p (.sl (l.map RNode.enc)),.p (.i .i64 C)],.box (pcs x.enc)] x.to 2 (rlink l i) _ _ ?_ ?_ ?_
 ·rintro k ⟨a,b⟩ hk hy hy' hp
  have e1:∀ a b:Int,okRow 2 [iv a,iv b]=true:=fun _ _=>rfl
  simp only[rlink,Bool.and_eq_true,Bool.not_eq_true',decide_eq_false_iff_not]at hp
  obtain ⟨⟨p1,p2⟩,p3⟩:=hp
  have p4:=p2
  simp only[rhas,Bool.and_eq_true,decide_eq_true_eq]at p4
  obtain ⟨⟨⟨p5,p6⟩,p7⟩,p8⟩:=p4
  have h3:a.toNat<l.length:=by omega
  rw[gG h3]at p3 p8
  simp only[decide_eq_true_eq]at p3 p8
  have h4:b.toNat<l[a.toNat].to.length:=by omega
  have h5:l[a.toNat].to[b.toNat]=((i:Int),(k:Int)):=by rw[gG h4]at p3;exact Option.some.inj p3
  have e2:=okRNode l[a.toNat]
  simp only[RNode.enc]at e2
  have p1':(decide (a=(i:Int)) && decide (b=(k:Int)))=false:=by
   rw[Bool.and_eq_false_imp]
   intro e
   simp only[decide_eq_true_eq]at e
   simp only[decide_eq_false_iff_not]
   exact fun e'=>p1 (by rw[e,e'])
  simp[c10l0,leave,hk,hy,hy',RNode.enc,rPt,pcs,e1,e2,p1',t30 h,p2,h3,p5,p7,h4,h5,lvE,leafEq,w64 ((k:Int)+1) (by omega) (by omega),gc,gcEnv,exp,expL,eOs,Exp.id,idxOf,List.range,List.range.loop,h.ro,show roFn pg0 30=true from rfl]
 ·rintro k ⟨a,b⟩ hk hy hy' hp
  have e1:∀ a b:Int,okRow 2 [iv a,iv b]=true:=fun _ _=>rfl
  by_cases p1:(a,b)=((i:Int),(k:Int))
  ·obtain ⟨rfl,rfl⟩:=Prod.mk.inj p1
   refine ⟨[.box [.p (.sl (l.map RNode.enc)),.p (.i .i64 C)],.box (pcs x.enc),.box [.p (.i .i64 i),.p (.i .i64 k)],.box [.p (.i .i64 i),.p (.i .i64 k)]],?_⟩
   simp[c10l0,leave,hk,hy,hy',RNode.enc,rPt,pcs,e1]
  have p1':(decide (a=(i:Int)) && decide (b=(k:Int)))=false:=by
   rw[Bool.and_eq_false_imp]
   intro e
   simp only[decide_eq_true_eq]at e
   simp only[decide_eq_false_iff_not]
   exact fun e'=>p1 (by rw[e,e'])
  cases p2:rhas l (a,b) with
  |false =>
   refine ⟨[.box [.p (.sl (l.map RNode.enc)),.p (.i .i64 C)],.box (pcs x.enc),.box [.p (.i .i64 i),.p (.i .i64 k)],.box [.p (.i .i64 a),.p (.i .i64 b)]],?_⟩
   simp[c10l0,leave,hk,hy,hy',RNode.enc,rPt,pcs,e1,p1',t30 h,p2,h.ro,show roFn pg0 30=true from rfl]
  |true =>
   have p4:=p2
   simp only[rhas,Bool.and_eq_true,decide_eq_true_eq]at p4
   obtain ⟨⟨⟨p5,p6⟩,p7⟩,p8⟩:=p4
   have h3:a.toNat<l.length:=by omega
   rw[gG h3]at p8
   simp only[decide_eq_true_eq]at p8
   have h4:b.toNat<l[a.toNat].to.length:=by omega
   simp only[rlink,p2,gG h3,gG h4,Bool.and_true,Bool.and_eq_false_imp,Bool.not_eq_true',decide_eq_false_iff_not,Option.some.injEq]at hp
   have h5:=hp p1
   obtain ⟨a',b',h6⟩:∃ a' b',l[a.toNat].to[b.toNat]=(a',b'):=⟨_,_,rfl⟩
   rw[h6]at h5
   have h5':(decide (a'=(i:Int)) && decide (b'=(k:Int)))=false:=by
    rw[Bool.and_eq_false_imp]
    intro e
    simp only[decide_eq_true_eq]at e
    simp only[decide_eq_false_iff_not]
    exact fun e'=>h5 (by rw[e,e'])
   have e2:=okRNode l[a.toNat]
   simp only[RNode.enc]at e2
   refine ⟨[.box [.p (.sl (l.map RNode.enc)),.p (.i .i64 C)],.box (pcs x.enc),.box [.p (.i .i64 i),.p (.i .i64 k)],.box [.p (.i .i64 a),.p (.i .i64 b)]],?_⟩
   simp[c10l0,leave,hk,hy,hy',RNode.enc,rPt,pcs,e1,e2,p1',t30 h,p2,h3,p5,p7,h4,h6,h5',h.ro,show roFn pg0 30=true from rfl]
 ·simp[c10l0,leave,RNode.enc,pcs]
theorem l10o (h:Std pg){body:CCode}(hb:body=c10l1)(l:List RNode)(C:Int)(hl:l.length<2 ^ 60)(hn:∀ x∈l,x.to.length<2 ^ 60∧x.alts.length<2 ^ 60) :
  ∃ H,L pg 0 [1,3] body [(1,.ptr 0 0),(3,.p (.i .i64 0))] [.box [.p (.sl (l.map RNode.enc)),.p (.i .i64 C)]] =
   bif allI (rone l) 0 l then some (.exit 0,[(1,.ptr 0 0),(3,.p (.i .i64 l.length)),(46,.p (.b false))],[.box [.p (.sl (l.map RNode.enc)),.p (.i .i64 C)]]) else some (.ret,[(2,.p (.i .i64 120))],H):=by
 refine L_listE hb (fun i=>[(1,.ptr 0 0),(3,.p (.i .i64 (i:Nat)))]) [.box [.p (.sl (l.map RNode.enc)),.p (.i .i64 C)]] l 0 (rone l) _ _ ?_ ?_ ?_
 ·rintro i ⟨k,v,n,name,alts,to⟩ hi hx hx' hp
  have hm:=hn _ (List.mem_of_getElem? hx)
  have e1:=okRNode ⟨k,v,n,name,alts,to⟩
  simp only[RNode.enc]at e1
  simp only[rone,Bool.and_eq_true,decide_eq_true_eq,beq_iff_eq]at hp
  obtain ⟨⟨⟨p1,p2⟩,p3⟩,p4⟩:=hp
  obtain ⟨H,hin⟩:=l10 h rfl l C hl i _ hx hm.1
  rw[p4]at hin
  simp only[RNode.enc,pcs,List.map_cons,List.map_nil,cond_true]at hin
  have p3':(decide (i=0) == decide (k=1))=true:=by simpa using p3
  simp[c10l1,leave,hi,hx,hx',RNode.enc,e1,pcs,t28 h k v n name alts to hm.2,t29 h k v n name alts to hm.2,p1,p2,p3',h.ro,show roFn pg0 29=true from rfl,gc,gcEnv,exp,expL,eOs,Exp.id,idxOf,List.range,List.range.loop,hin,w64 ((i:Int)+1) (by omega) (by omega)]
 ·rintro i ⟨k,v,n,name,alts,to⟩ hi hx hx' hp
  have hm:=hn _ (List.mem_of_getElem? hx)
  have e1:=okRNode ⟨k,v,n,name,alts,to⟩
  simp only[RNode.enc]at e1
  cases p1:rnode ⟨k,v,n,name,alts,to⟩ with
  |false =>
   refine ⟨[.box [.p (.sl (l.map RNode.enc)),.p (.i .i64 C)],.box (pcs (RNode.mk k v n name alts to).enc)],?_⟩
   simp[c10l1,leave,hi,hx,hx',RNode.enc,e1,pcs,t28 h k v n name alts to hm.2,p1,h.ro,show roFn pg0 29=true from rfl]
  |true =>
   by_cases p2:(to.length:Int)=rports ⟨k,v,n,name,alts,to⟩
   ·cases p3':(decide (i=0) == decide (k=1)) with
    |false =>
     refine ⟨[.box [.p (.sl (l.map RNode.enc)),.p (.i .i64 C)],.box (pcs (RNode.mk k v n name alts to).enc)],?_⟩
     simp[c10l1,leave,hi,hx,hx',RNode.enc,e1,pcs,t28 h k v n name alts to hm.2,t29 h k v n name alts to hm.2,p1,p2,p3',h.ro,show roFn pg0 29=true from rfl]
    |true =>
     have p4:allI (rlink l i) 0 to=false:=by simpa [rone,p1,p2,p3'] using hp
     obtain ⟨H,hin⟩:=l10 h rfl l C hl i _ hx hm.1
     rw[p4]at hin
     simp only[RNode.enc,pcs,List.map_cons,List.map_nil,cond_false]at hin
     refine ⟨H,?_⟩
     simp[c10l1,leave,hi,hx,hx',RNode.enc,e1,pcs,t28 h k v n name alts to hm.2,t29 h k v n name alts to hm.2,p1,p2,p3',h.ro,show roFn pg0 29=true from rfl,gc,gcEnv,exp,expL,eOs,Exp.id,idxOf,List.range,List.range.loop,hin]
   ·refine ⟨[.box [.p (.sl (l.map RNode.enc)),.p (.i .i64 C)],.box (pcs (RNode.mk k v n name alts to).enc)],?_⟩
    simp[c10l1,leave,hi,hx,hx',RNode.enc,e1,pcs,t28 h k v n name alts to hm.2,t29 h k v n name alts to hm.2,p1,p2,h.ro,show roFn pg0 29=true from rfl]
 ·simp[c10l1,leave]
theorem t10 (h:Std pg)(l:List RNode)(C:Int)(hl:l.length<2 ^ 60)(hn:∀ x∈l,x.to.length<2 ^ 60∧x.alts.length<2 ^ 60) :
  eCA pg (E pg) 10 [.ag [.p (.sl (l.map RNode.enc)),.p (.i .i64 C)]] G=some (.ret (.p (.i .i64 (bif rcheck l C then 0 else 120))),G):=by
 refine at_pure ?_ rfl rfl
 rw[h.run (x:=c10) rfl (by decide) (by decide) (by decide) (by decide)]
 unfold rcheck
 by_cases c1:C<1
 ·simp[c10,leave,c1]
 by_cases c2:4000<C
 ·simp[c10,leave,c1,c2]
 by_cases c3:(l.length:Int)<1
 ·simp[c10,leave,c1,c2,c3]
 by_cases c4:C<l.length
 ·simp[c10,leave,c1,c2,c3,c4]
 have c5:l.length-1<l.length:=by omega
 have w1:IntKind.i64.wrap ((l.length:Int)-1)=((l.length-1:Nat):Int):=by rw[w64 _ (by omega) (by omega)];omega
 rw[gG c5]
 by_cases c6:l[l.length-1].kind=0
 ·simp[c10,leave,c1,c2,c3,c4,w1,c5,RNode.enc,okW,c6]
 obtain ⟨H,hL⟩:=l10o h rfl l C hl hn
 simp[c10,leave,c1,c2,c3,c4,w1,c5,RNode.enc,okW,c6,gc,gcEnv,exp,expL,eOs,Exp.id,idxOf,List.range,List.range.loop]
 rw[hL]
 cases allI (rone l) 0 l<;>simp[leave]
end Go.Proofs.Z
end
section
namespace Go.Proofs.Z
open Go Go.Proofs
def Port.raw (p:Port):Int×Int:=((p.node:Int),(p.slot:Int))
def rawAr (a:List UInt8×Nat):List UInt8×Int:=(a.1,(a.2:Int))
def Node.raw (x:Node):RNode:=⟨x.kind,x.lev,x.n,x.name,x.alts.map rawAr,x.to.map Port.raw⟩
theorem Node.raw_enc (x:Node):x.raw.enc=x.enc:=by
 simp only[Node.raw,RNode.enc,Node.enc,List.map_map]
 rfl
theorem raw_nodes (l:List Node):(l.map Node.raw).map RNode.enc=l.map Node.enc:=by
 rw[List.map_map]
 congr 1
 funext x
 exact x.raw_enc
def cookP (p:Int×Int):Port:=⟨p.1.toNat,p.2.toNat⟩
def cookAr (a:List UInt8×Int):List UInt8×Nat:=(a.1,a.2.toNat)
def RNode.cook (x:RNode):Node:=⟨x.kind.toNat,x.lev.toNat,x.n,x.name,x.alts.map cookAr,x.to.map cookP⟩
theorem allI_get {α:Type}{q:Nat→α→Bool}:∀ {l:List α} {k:Nat},allI q k l=true→∀ i x,l[i]?=some x→q (k+i) x=true
 |[],k,h,i,x,hx=>by simp at hx
 |a::r,k,h,i,x,hx=>by
  simp only[allI,Bool.and_eq_true]at h
  cases i with
  |zero=>simp only[List.getElem?_cons_zero,Option.some.injEq]at hx;subst hx;exact h.1
  |succ i =>
   simp only[List.getElem?_cons_succ]at hx
   have:=allI_get h.2 i x hx
   rwa [show k+1+i=k+(i+1) from by omega]at this
theorem allI_get0 {α:Type}{q:Nat→α→Bool}{l:List α}(h:allI q 0 l=true)(i:Nat)(x:α)(hx:l[i]?=some x):q i x=true:=by
 have:=allI_get h i x hx
 rwa [Nat.zero_add]at this
theorem allI_mk {α:Type}{q:Nat→α→Bool}:∀ {l:List α} {k:Nat},(∀ i x,l[i]?=some x→q (k+i) x=true)→allI q k l=true
 |[],k,h=>rfl
 |a::r,k,h=>by
  simp only[allI,Bool.and_eq_true]
  refine ⟨h 0 a rfl,allI_mk fun i x hx=>?_⟩
  have:=h (i+1) x (by simpa using hx)
  rwa [show k+(i+1)=k+1+i from by omega]at this
theorem altsFrom_of (all:List (List UInt8×Int)):∀ (l:List (List UInt8×Int)) (i:Nat),(∀ j a,l[j]?=some a→ralt all (i+j) a=true)→altsFrom (all.map cookAr) i (l.map cookAr)=true
 |[],i,h=>rfl
 |a::r,i,h=>by
  have h0:=h 0 a rfl
  have ih:=altsFrom_of all r (i+1) (fun j b hb=>by
   have:=h (j+1) b (by simpa using hb)
   rwa [show i+(j+1)=i+1+j from by omega]at this)
  simp only[List.map_cons,altsFrom,Bool.and_eq_true]
  simp only[ralt,Nat.add_zero,Bool.and_eq_true,Bool.not_eq_true',decide_eq_false_iff_not]at h0
  obtain ⟨⟨⟨p1,p2⟩,p3⟩,p4⟩:=h0
  refine ⟨⟨⟨?_,?_⟩,?_⟩,ih⟩
  ·simp[cookAr,p1]
  ·simp[cookAr];omega
  ·rw[Bool.not_eq_true',← List.map_take,List.any_map,← Bool.not_eq_true,List.any_eq_true]
   rintro ⟨b,hb,hb2⟩
   have:=List.all_eq_true.1 p4 b hb
   simp[cookAr]at hb2
   simp at this
   exact this (of_decide_eq_true hb2)
theorem Node.ok_mk {k l:Nat}{n:Int}{name:List UInt8}{alts:List (List UInt8×Nat)}{to:List Port}(h1:k≤13)(h2:(Node.mk k l n name alts to).altsOK=true)(h3:k≤1→l=0)(h4:l≤60)
  (h5:name=[]↔¬ (k=8∨k=11∨k=12)) (h6:n=0∨k=10∨k=12) (h7:k=8→1≤to.length∧to.length≤9):(Node.mk k l n name alts to).ok=true:=by
 unfold Node.ok
 rw[h2]
 have a:decide (l≤if k≤1 then 0 else 60)=true:=by
  rw[decide_eq_true_iff]
  split
  ·have:=h3 (by assumption);omega
  ·exact h4
 have b:((!decide (name=[])) == decide (k=8∨k=11∨k=12))=true:=by
  by_cases e:k=8∨k=11∨k=12
  ·have:¬ name=[]:=fun hh=>h5.1 hh e
   simp[e,this]
  ·have:=h5.2 e
   simp[e,this]
 have c:(decide (n=0) || decide (k=10∨k=12))=true:=by simpa using h6
 have d:(!decide (k=8) || decide (1≤to.length∧to.length≤9))=true:=by
  by_cases e:k=8
  ·simp[e,h7 e]
  ·simp[e]
 dsimp only
 rw[a,b,c,d,decide_eq_true h1]
 rfl
theorem cook_ok {x:RNode}(h:rnode x=true):x.cook.ok=true∧0≤x.kind∧0≤x.lev∧(∀ a∈x.alts,0≤a.2):=by
 obtain ⟨k,l,n,name,alts,to⟩:=x
 simp only[rnode,rhead,Bool.and_eq_true,Bool.or_eq_true,Bool.not_eq_true',decide_eq_false_iff_not,decide_eq_true_eq,beq_iff_eq,Bool.and_eq_false_imp,Bool.or_eq_false_iff]at h
 obtain ⟨⟨⟨⟨⟨⟨⟨⟨⟨⟨⟨p1,p2⟩,p3⟩,p4⟩,p5⟩,p6⟩,p7⟩,p8⟩,p9⟩,p10⟩,p11⟩,p12⟩:=h
 have ha:∀ a∈alts,0≤a.2:=by
  intro a ha
  obtain ⟨i,hi,rfl⟩:=List.getElem_of_mem ha
  have:=allI_get0 p12 i _ (gG hi)
  simp only[ralt,Bool.and_eq_true,Bool.not_eq_true',decide_eq_false_iff_not]at this
  omega
 refine ⟨?_,by dsimp only;omega,by dsimp only;omega,ha⟩
 have hm:(alts.map cookAr).length=alts.length:=by simp
 show (Node.mk k.toNat l.toNat n name (alts.map cookAr) (to.map cookP)).ok=true
 refine Node.ok_mk (by omega) ?_ (fun e=>?_) (by omega) ?_ ?_ ?_
 ·unfold Node.altsOK
  simp only[hm]
  by_cases h9:k=9
  ·subst h9
   rw[if_pos (by rfl)]
   simp only[Bool.and_eq_true,decide_eq_true_eq]
   refine ⟨altsFrom_of alts alts 0 (fun j a hj=>by have:=allI_get0 p12 j a hj;simpa using this),?_⟩
   have:=p9 rfl
   omega
  ·rw[if_neg (by omega)]
   simp only[decide_eq_true_eq]
   rcases p10 with h|h
   ·exact absurd h h9
   ·omega
 ·have:=p5 (by omega);omega
 ·have q:(name=[]↔¬ (k=8∨k=11∨k=12)):=by
   by_cases e:name=[]
   ·simp only[e,decide_true,Bool.not_true]at p6
    have p6:=p6.symm
    simp at p6
    simp[e,p6]
   ·simp only[e,decide_false,Bool.not_false]at p6
    have p6:=p6.symm
    simp at p6
    simp only[e,false_iff,Decidable.not_not]
    omega
  rw[q]
  refine not_congr ⟨fun h=>by omega,fun h=>by omega⟩
 ·rcases p7 with h|h
  ·exact .inl h
  ·right;omega
 ·intro e8
  have:=p8 (by omega)
  simp only[List.length_map]
  omega
theorem cook_raw {x:RNode}(h:0≤x.kind∧0≤x.lev∧(∀ a∈x.alts,0≤a.2))(ht:∀ p∈x.to,0≤p.1∧0≤p.2):x.cook.raw=x:=by
 obtain ⟨k,l,n,name,alts,to⟩:=x
 obtain ⟨h1,h2,h3⟩:=h
 simp only[RNode.cook,Node.raw,List.map_map,RNode.mk.injEq,true_and]
 dsimp only at h1 h2 h3 ht
 refine ⟨by omega,by omega,?_,?_⟩
 ·conv=>rhs;rw[← List.map_id alts]
  refine List.map_congr_left fun a ha=>?_
  have:=h3 a ha
  simp only[Function.comp,rawAr,cookAr,id]
  exact Prod.ext rfl (by simp;omega)
 ·conv=>rhs;rw[← List.map_id to]
  refine List.map_congr_left fun a ha=>?_
  have:=ht a ha
  simp only[Function.comp,Port.raw,cookP,id]
  exact Prod.ext (by simp;omega) (by simp;omega)
theorem cook_ports {x:RNode}(h:0≤x.kind):((x.cook.ports:Nat):Int)=rports x:=by
 obtain ⟨k,l,n,name,alts,to⟩:=x
 simp only[Node.ports,rports,RNode.cook,List.length_map]at *
 by_cases h8:k=8
 ·subst h8;rfl
 ·by_cases h9:k=9
  ·subst h9;simp
  ·rw[if_neg (by omega),if_neg (by omega),if_neg h8,if_neg h9,if_pos h]
theorem rcheck_net {l:List RNode}{C:Int}(h:rcheck l C=true):∃ n:Net,n.Ok∧n.nodes.map Node.raw=l∧(n.cap:Int)=C:=by
 simp only[rcheck,Bool.and_eq_true,Bool.not_eq_true',decide_eq_false_iff_not]at h
 obtain ⟨⟨⟨⟨⟨p1,p2⟩,p3⟩,p4⟩,p5⟩,p6⟩:=h
 have hone:∀ (i:Nat) (x:RNode),l[i]?=some x→rnode x=true∧(x.to.length:Int)=rports x∧(i=0↔x.kind=1)∧∀ k q,x.to[k]?=some q→rlink l i k q=true:=by
  intro i x hx
  have:=allI_get0 p6 i x hx
  simp only[rone,Bool.and_eq_true,decide_eq_true_eq,beq_iff_eq]at this
  obtain ⟨⟨⟨a1,a2⟩,a3⟩,a4⟩:=this
  refine ⟨a1,a2,?_,fun k q hq=>allI_get0 a4 k q hq⟩
  rw[← decide_eq_true_iff (p:=i=0),a3,decide_eq_true_iff]
 have hpos:∀ (i:Nat) (x:RNode),l[i]?=some x→∀ p∈x.to,0≤p.1∧0≤p.2:=by
  intro i x hx p hp
  obtain ⟨k,hk,rfl⟩:=List.getElem_of_mem hp
  have:=(hone i x hx).2.2.2 k _ (gG hk)
  simp only[rlink,rhas,Bool.and_eq_true,decide_eq_true_eq]at this
  omega
 have hraw:∀ x∈l,x.cook.raw=x:=by
  intro x hx
  obtain ⟨i,hi,rfl⟩:=List.getElem_of_mem hx
  have:=gG hi
  exact cook_raw (cook_ok (hone i _ this).1).2 (hpos i _ this)
 have hlen:(⟨l.map RNode.cook,C.toNat⟩:Net).nodes.length=l.length:=by simp
 refine ⟨⟨l.map RNode.cook,C.toNat⟩,?_,?_,by simp;omega⟩
 ·refine ⟨by simp;omega,by simp;omega,?_,?_,?_⟩
  ·intro x hx
   rw[hlen]at hx
   simp only[List.getElem?_map,Option.map_eq_some_iff]at hx
   obtain ⟨y,hy,rfl⟩:=hx
   rw[hy]at p5
   simp only[Bool.not_eq_true',decide_eq_false_iff_not]at p5
   have:=(cook_ok (hone _ _ hy).1).2.1
   simp only[RNode.cook]
   omega
  ·intro i x hx
   simp only[List.getElem?_map,Option.map_eq_some_iff]at hx
   obtain ⟨y,hy,rfl⟩:=hx
   obtain ⟨a1,a2,a3,a4⟩:=hone i y hy
   have hk:=cook_ok a1
   refine ⟨hk.1,?_,?_⟩
   ·have:=cook_ports hk.2.1
    rw[← a2]at this
    have e:y.cook.to.length=y.to.length:=by simp[RNode.cook]
    omega
   ·rw[a3]
    simp only[RNode.cook]
    omega
  ·intro i x k q hx hq
   simp only[List.getElem?_map,Option.map_eq_some_iff]at hx
   obtain ⟨y,hy,rfl⟩:=hx
   simp only[RNode.cook,List.getElem?_map,Option.map_eq_some_iff]at hq
   obtain ⟨p,hp,rfl⟩:=hq
   have:=(hone i y hy).2.2.2 k p hp
   simp only[rlink,rhas,Bool.and_eq_true,decide_eq_true_eq,Bool.not_eq_true',decide_eq_false_iff_not]at this
   obtain ⟨⟨b1,⟨⟨b2,b3⟩,b4⟩,b5⟩,b6⟩:=this
   refine ⟨?_,?_⟩
   ·intro e
    simp only[cookP,Port.mk.injEq]at e
    exact b1 (Prod.ext (by simp;omega) (by simp;omega))
   ·unfold Net.peer
    simp only[cookP,List.getElem?_map]
    have hlt:p.1.toNat<l.length:=by omega
    rw[gG hlt]at b6 ⊢
    simp only[decide_eq_true_eq]at b6
    simp only[Option.map_some,RNode.cook,List.getElem?_map,b6]
    simp[cookP]
 ·dsimp only
  rw[List.map_map]
  conv=>rhs;rw[← List.map_id l]
  exact List.map_congr_left fun x hx=>hraw x hx
end Go.Proofs.Z
end
section
namespace Go.Proofs.Z
def Net.used (n:Net):Nat:=n.nodes.countP fun x=>decide (x.kind≠0)
def trimTo (l:List Node):Nat→Nat
 |0=>0
 |k+1=>match l[k]? with
  |some x=>if x.kind=0 then trimTo l k else k+1
  |none=>k+1
theorem trimTo_le (l:List Node):∀ k,trimTo l k≤k
 |0=>Nat.le_refl _
 |k+1=>by
  unfold trimTo
  have:=trimTo_le l k
  split
  ·split<;>omega
  ·omega
def Net.free (n:Net)(i:Nat):Net:={ n with nodes:=(n.nodes.set i .zero).take (trimTo (n.nodes.set i .zero) n.nodes.length) }
def Node.fresh (x:Node):Node:={ x with to:=List.replicate x.ports ⟨0,0⟩ }
def Net.place (n:Net):Nat:=(n.nodes.findIdx? fun x=>decide (x.kind=0)).getD n.nodes.length
def Net.make (n:Net)(x:Node):Net:={ n with nodes:=if n.place<n.nodes.length then n.nodes.set n.place x.fresh else n.nodes++[x.fresh] }
end Go.Proofs.Z
end
section
namespace Go.Proofs.Z
open Go
structure Plan where
 kind:Nat
 swap:Bool
 lev:Nat
 alt:Nat
 node:Node
 deriving DecidableEq,Inhabited
def Plan.plain (k:Nat):Plan:=⟨k,false,0,0,.zero⟩
def Plan.enc (p:Plan):List PV:=[iv p.kind,.b p.swap,iv p.lev,iv p.alt,iv p.node.kind,iv p.node.lev,iv p.node.n,.s p.node.name,.sl (p.node.alts.map encAr),.sl (p.node.to.map Port.enc)]
def cls (k:Nat):Nat :=
 if k=3∨k=9∨k=11∨k=12 then 1 else if k=2∨k=8∨k=10∨k=13 then 2 else if k=4∨k=5∨k=6 then 3 else if k=7 then 4 else 0
def swapped (r:Plan×Nat):Plan×Nat:=if r.2=0 then ({ r.1 with swap:=true },0) else r
def passLev (x y:Node):Nat:=if x.kind=5 then y.lev-1 else if x.kind=6 then y.lev+1 else y.lev
def rulePass (x y:Node):Plan×Nat:=if y.lev≤x.lev then (.plain 0,140) else if 60<passLev x y then (.plain 0,141) else (⟨7,false,passLev x y,0,.zero⟩,0)
def pickAt (x y:Node):Option Nat:=x.alts.findIdx? fun a=>decide (a.1=y.name) && decide (a.2+1=y.to.length)
def rulePick (x y:Node):Plan×Nat:=if x.lev=y.lev then (match pickAt x y with
 |none=>(.plain 5,0)
 |some k=>(⟨2,false,0,k,.zero⟩,0)) else (.plain 0,140)
def truth (b:Bool):Node:=⟨8,0,0,if b then [84,114,117,101] else [70,97,108,115,101],[],[⟨0,0⟩]⟩
def intNode (n:Int):Node:=⟨10,0,n,[],[],[]⟩
def outNode (x y:Node):Option Node :=
 if x.name=[43] then some (intNode (IntKind.i64.wrap (x.n+y.n))) else if x.name=[45] then some (intNode (IntKind.i64.wrap (x.n-y.n)))
 else if x.name=[42] then some (intNode (IntKind.i64.wrap (x.n * y.n))) else if x.name=[47] then (if y.n=0 then none else some (intNode (IntKind.i64.wrap (x.n.tdiv y.n))))
 else if x.name=[60] then some (truth (decide (x.n<y.n))) else if x.name=[61,61] then some (truth (decide (x.n=y.n))) else some (intNode 0)
def ruleOut (x y:Node):Plan×Nat:=match outNode x y with
 |none=>(.plain 5,0)
 |some n=>(⟨4,false,0,0,{ n with lev:=x.lev }⟩,0)
def ruleAsk (x y:Node):Plan×Nat :=
 if x.kind=3∧y.kind=2 then (if x.lev=y.lev then (.plain 1,0) else (.plain 0,140)) else if x.kind=9∧y.kind=8 then rulePick x y
 else if x.kind=11∧y.kind=10 then (.plain 3,0) else if x.kind=12∧y.kind=10 then ruleOut x y else (.plain 5,0)
def ruleOf (a b:Node):Plan×Nat :=
 if cls a.kind=0∨cls b.kind=0 then (.plain 0,140) else if cls a.kind=4 then (.plain 8,0) else if cls b.kind=4 then swapped (.plain 8,0)
 else if cls a.kind=3∧cls b.kind=3∧a.lev=b.lev∧a.kind=b.kind then (.plain 6,0)
 else if cls a.kind=3∧(cls b.kind≠3∨a.lev≤b.lev) then rulePass a b
 else if cls b.kind=3 then swapped (rulePass b a) else if cls a.kind=1∧cls b.kind=2 then ruleAsk a b
 else if cls a.kind=2∧cls b.kind=1 then swapped (ruleAsk b a) else (.plain 0,140)
def Node.others (x:Node):Nat:=x.to.length-1
def Plan.need (p:Plan)(a b:Node):Nat :=
 let x:=if p.swap then b else a
 let y:=if p.swap then a else b
 if p.kind=2 then (match x.alts[p.alt]? with
  |some c=>c.2+x.alts.length-1
  |none=>0)
 else if p.kind=3∨p.kind=4 then 1 else if p.kind=5 then 1+(x.others-1)+y.others else if p.kind=7 then (if x.kind=4 then 2 else 1)+y.others
 else if p.kind=8 then y.others else 0
end Go.Proofs.Z
end
section
namespace Go.Proofs.Z
def Net.like (n:Net)(x:Node):Nat→Net×List Nat
 |0=>(n,[])
 |k+1=>(((n.make x).like x k).1,n.place::((n.make x).like x k).2)
theorem Net.make_cap (n:Net)(x:Node):(n.make x).cap=n.cap:=rfl
theorem Net.make_len (n:Net)(x:Node):(n.make x).nodes.length≤n.nodes.length+1∧n.nodes.length≤(n.make x).nodes.length:=by
 unfold Net.make
 dsimp only
 split<;>simp
theorem Net.place_le (n:Net):n.place≤n.nodes.length:=by
 unfold Net.place
 cases hf:n.nodes.findIdx? (fun x=>decide (x.kind=0)) with
 |none=>simp
 |some k =>
  obtain ⟨h1,_,_⟩:=List.findIdx?_eq_some_iff_getElem.1 hf
  simp;omega
theorem Net.place_free {n:Net}(h:n.place<n.nodes.length):∃ x,n.nodes[n.place]?=some x∧x.kind=0:=by
 unfold Net.place at h ⊢
 cases hf:n.nodes.findIdx? (fun x=>decide (x.kind=0)) with
 |none=>rw[hf]at h;simp at h
 |some k =>
  obtain ⟨h1,h2,_⟩:=List.findIdx?_eq_some_iff_getElem.1 hf
  refine ⟨n.nodes[k],?_,by simpa using h2⟩
  simp[h1]
theorem Net.make_used {n:Net}{x:Node}(hk:x.kind≠0):(n.make x).used=n.used+1:=by
 unfold Net.make
 split
 ·rename_i h
  obtain ⟨y,h1,h2⟩:=Net.place_free h
  obtain ⟨h3,h4⟩:=gE h1
  unfold Net.used
  dsimp only
  rw[List.countP_set (h:=h3)]
  have h5:n.nodes[n.place].kind=0:=by rw[h4];exact h2
  simp[h5,Node.fresh,hk]
 ·unfold Net.used
  dsimp only
  rw[List.countP_append]
  simp[Node.fresh,hk]
end Go.Proofs.Z
namespace Go.Proofs.Z
def Net.moves (n:Net):List (Port×Port)→Net
 |[]=>n
 |(p,q)::r=>(n.move p q).moves r
def MovesOK (n:Net):List (Port×Port)→Prop
 |[]=>True
 |(p,q)::r=>(n.hasT p∧n.has q∧n.has (n.pr p)∧p≠q)∧MovesOK (n.move p q) r
def Net.joins (n:Net):List (Port×Port)→Net
 |[]=>n
 |(p,q)::r=>(n.join p q).joins r
def JoinsOK (n:Net):List (Port×Port)→Prop
 |[]=>True
 |(p,q)::r=>(n.hasT p∧n.has q∧n.has (n.pr p)∧n.has (n.pr q)∧p≠q∧(n.pr p≠q→n.pr p≠n.pr q))∧JoinsOK (n.join p q) r
def Net.links (n:Net):List (Port×Port)→Net
 |[]=>n
 |(p,q)::r=>(n.link p q).links r
def LinksOK (n:Net):List (Port×Port)→Prop
 |[]=>True
 |(p,q)::r=>(n.hasT p∧n.has q∧p≠q)∧LinksOK (n.link p q) r
def dropNode (lev:Nat):Node:=⟨7,lev,0,[],[],[]⟩
theorem dropNode_ok {lev:Nat}(h:lev≤60):(dropNode lev).ok=true∧(dropNode lev).ports=1:=by
 refine ⟨?_,rfl⟩
 simp[dropNode,Node.ok,Node.altsOK,h]
theorem Net.link_cap {n:Net}{p q:Port}:(n.link p q).cap=n.cap:=by
 unfold Net.link
 rw[Net.put_cap,Net.put_cap]
theorem Net.move_cap {n:Net}{p q:Port}:(n.move p q).cap=n.cap:=by
 unfold Net.move
 split
 ·rfl
 ·exact Net.link_cap
structure Marks where
 seen:List Bool
 waits:List Nat
def Marks.mark (m:Marks)(i:Nat):Marks:=if m.seen[i]?=some true then m else ⟨m.seen.set i true,m.waits++[i]⟩
def Marks.marks (m:Marks):List Port→Marks
 |[]=>m
 |p::r=>(m.mark p.node).marks r
def toAt (l:List Node)(i:Nat):List Port:=match l[i]? with
 |some x=>x.to
 |none=>[]
def Marks.all (l:List Node):Nat→Marks→Marks
 |0,m=>m
 |f+1,m=>match m.waits.getLast? with
  |none=>m
  |some i=>Marks.all l f (({ m with waits:=m.waits.dropLast }:Marks).marks (toAt l i))
end Go.Proofs.Z
namespace Go.Proofs.Z
def Marks.left (m:Marks):Nat:=m.waits.length+m.seen.countP (fun b=>!b)
theorem Marks.mark_len (m:Marks)(i:Nat):(m.mark i).seen.length=m.seen.length:=by
 unfold Marks.mark
 split
 ·rfl
 ·simp
theorem Marks.mark_left {m:Marks}{i:Nat}(h:i<m.seen.length):(m.mark i).left=m.left:=by
 unfold Marks.mark Marks.left
 split
 ·rfl
 ·rename_i hn
  have hf:m.seen[i]=false:=by
   rw[gG h]at hn
   simpa using hn
  dsimp only
  rw[List.countP_set (h:=h)]
  have hpos:0<m.seen.countP (fun b=>!b):=List.countP_pos_iff.2 ⟨m.seen[i],List.getElem_mem h,by simp[hf]⟩
  simp[hf]
  omega
theorem Marks.marks_len:∀ (l:List Port) (m:Marks),(m.marks l).seen.length=m.seen.length
 |[],m=>rfl
 |p::r,m=>by simp only[Marks.marks];rw[Marks.marks_len r,Marks.mark_len]
theorem Marks.marks_left:∀ (l:List Port) (m:Marks),(∀ p,p∈l→p.node<m.seen.length)→(m.marks l).left=m.left
 |[],m,_=>rfl
 |p::r,m,h=>by
  simp only[Marks.marks]
  rw[Marks.marks_left r _ (fun q hq=>by rw[Marks.mark_len];exact h q (by simp[hq])),Marks.mark_left (h p (by simp))]
theorem Marks.mark_in {m:Marks}{i:Nat}(h:i<m.seen.length)(hw:∀ a,a∈m.waits→a<m.seen.length):∀ a,a∈(m.mark i).waits→a<m.seen.length:=by
 unfold Marks.mark
 split
 ·exact hw
 ·intro a ha
  rcases List.mem_append.1 ha with ha|ha
  ·exact hw a ha
  ·simp at ha;subst ha;exact h
theorem Marks.marks_in:∀ (l:List Port) (m:Marks),(∀ p,p∈l→p.node<m.seen.length)→(∀ a,a∈m.waits→a<m.seen.length)→∀ a,a∈(m.marks l).waits→a<m.seen.length
 |[],m,_,hw=>hw
 |p::r,m,h,hw=>by
  simp only[Marks.marks]
  have:=Marks.marks_in r (m.mark p.node) (fun q hq=>by rw[Marks.mark_len];exact h q (by simp[hq])) (by rw[Marks.mark_len];exact Marks.mark_in (h p (by simp)) hw)
  rwa [Marks.mark_len]at this
end Go.Proofs.Z
namespace Go.Proofs.Z
theorem trimTo_ge {l:List Node}{j:Nat}{x:Node}(hx:l[j]?=some x)(hk:x.kind≠0):∀ k,j<k→j<trimTo l k
 |0,h=>by omega
 |k+1,h=>by
  unfold trimTo
  by_cases hjk:j=k
  ·subst hjk
   rw[hx]
   dsimp only
   rw[if_neg hk]
   omega
  ·have:=trimTo_ge hx hk k (by omega)
   split
   ·split<;>omega
   ·omega
theorem Net.free_keep {n:Net}{i j:Nat}{x:Node}(hx:n.nodes[j]?=some x)(hk:x.kind≠0)(hij:i≠j):(n.free i).nodes[j]?=some x:=by
 have hj:j<n.nodes.length:=(gE hx).1
 have hs:(n.nodes.set i .zero)[j]?=some x:=by rw[List.getElem?_set,if_neg hij];exact hx
 unfold Net.free
 dsimp only
 rw[List.getElem?_take,if_pos (trimTo_ge hs hk _ hj)]
 exact hs
def busyAt (l:List Node)(i:Nat):Bool:=match l[i]? with
 |some x=>decide (x.kind≠0)
 |none=>false
def sweepTo (old:List Node)(seen:List Bool):Nat→Net→Net
 |0,n=>n
 |i+1,n=>sweepTo old seen i (if (seen[i+1]?=some false∧busyAt old (i+1)=true) then n.free (i+1) else n)
theorem Port.ext' {p q:Port}(h1:p.node=q.node)(h2:p.slot=q.slot):p=q:=by cases p;cases q;simp_all
theorem Net.put_pr {n:Net}{p q:Port}(hp:n.has p)(r:Port):(n.put p q).pr r=if r=p then q else n.pr r:=by
 obtain ⟨x,hx,hs⟩:=hp
 unfold Net.pr Net.peer
 rw[Net.put_at]
 by_cases hn:r.node=p.node
 ·rw[if_pos hn,hn,hx]
  simp only[Option.map_some,Node.setTo]
  by_cases hsl:r.slot=p.slot
  ·have:r=p:=Port.ext' hn hsl
   subst this
   simp[hs]
  ·have:r≠p:=fun e=>hsl (by rw[e])
   rw[if_neg this,List.getElem?_set,if_neg (fun e=>hsl e.symm)]
 ·have:r≠p:=fun e=>hn (by rw[e])
  rw[if_neg hn,if_neg this]
theorem Net.link_has {n:Net}{p q r:Port}:(n.link p q).has r↔n.has r:=by unfold Net.link;rw[Net.put_has,Net.put_has]
theorem Net.link_pr {n:Net}{p q:Port}(hp:n.has p)(hq:n.has q)(hne:p≠q)(r:Port):(n.link p q).pr r=if r=p then q else if r=q then p else n.pr r:=by
 unfold Net.link
 rw[Net.put_pr (Net.put_has.2 hq),Net.put_pr hp]
 by_cases h1:r=q
 ·subst h1
  rw[if_pos rfl,if_neg (fun e=>hne e.symm),if_pos rfl]
 ·rw[if_neg h1]
  by_cases h2:r=p
  ·rw[if_pos h2,if_pos h2]
  ·rw[if_neg h2,if_neg h2,if_neg h1]
def Node.bare (x:Node):Nat×Nat×Int×List UInt8×List (List UInt8×Nat)×Nat:=(x.kind,x.lev,x.n,x.name,x.alts,x.to.length)
theorem Node.setTo_bare (x:Node)(k:Nat)(q:Port):(x.setTo k q).bare=x.bare:=by simp[Node.bare,Node.setTo]
theorem Node.bare_ok {x y:Node}(h:x.bare=y.bare):x.ok=y.ok∧x.ports=y.ports∧x.kind=y.kind∧x.to.length=y.to.length∧x.lev=y.lev∧x.alts=y.alts∧x.n=y.n∧x.name=y.name:=by
 simp only[Node.bare,Prod.mk.injEq]at h
 obtain ⟨h1,h2,h3,h4,h5,h6⟩:=h
 refine ⟨?_,?_,h1,h6,h2,h5,h3,h4⟩
 ·unfold Node.ok Node.altsOK
  rw[h1,h2,h3,h4,h5,h6]
 ·unfold Node.ports
  rw[h1,h5,h6]
def Bare (n m:Net):Prop:=n.cap=m.cap∧n.nodes.length=m.nodes.length∧∀ i:Nat,(n.nodes[i]?).map Node.bare=(m.nodes[i]?).map Node.bare
theorem Bare.refl (n:Net):Bare n n:=⟨rfl,rfl,fun _=>rfl⟩
theorem Bare.symm {n m:Net}(h:Bare n m):Bare m n:=⟨h.1.symm,h.2.1.symm,fun i=>(h.2.2 i).symm⟩
theorem Bare.trans {n m k:Net}(h:Bare n m)(h':Bare m k):Bare n k:=⟨h.1.trans h'.1,h.2.1.trans h'.2.1,fun i=>(h.2.2 i).trans (h'.2.2 i)⟩
theorem Bare.put (n:Net)(p q:Port):Bare (n.put p q) n:=by
 refine ⟨Net.put_cap,Net.put_len,fun i=>?_⟩
 rw[Net.put_at]
 split
 ·cases n.nodes[i]? with
  |none=>rfl
  |some x=>simp[Node.setTo_bare]
 ·rfl
theorem Bare.link (n:Net)(p q:Port):Bare (n.link p q) n:=(Bare.put _ _ _).trans (Bare.put _ _ _)
theorem Bare.move (n:Net)(p q:Port):Bare (n.move p q) n:=by
 unfold Net.move
 split
 ·exact .refl _
 ·exact .link _ _ _
theorem Bare.join (n:Net)(p q:Port):Bare (n.join p q) n:=by
 unfold Net.join
 split
 ·exact .refl _
 ·exact .link _ _ _
theorem Bare.at {n m:Net}(h:Bare n m){i:Nat}{x:Node}(hx:m.nodes[i]?=some x):∃ y,n.nodes[i]?=some y∧y.bare=x.bare:=by
 have:=h.2.2 i
 rw[hx]at this
 cases hy:n.nodes[i]? with
 |none=>rw[hy]at this;simp at this
 |some y=>rw[hy]at this;exact ⟨y,rfl,by simpa using this⟩
theorem Bare.has {n m:Net}(h:Bare n m){p:Port}:n.has p↔m.has p:=by
 constructor
 ·rintro ⟨x,hx,hs⟩
  obtain ⟨y,hy,hb⟩:=h.symm.at hx
  exact ⟨y,hy,by rw[(Node.bare_ok hb).2.2.2.1];exact hs⟩
 ·rintro ⟨x,hx,hs⟩
  obtain ⟨y,hy,hb⟩:=h.at hx
  exact ⟨y,hy,by rw[(Node.bare_ok hb).2.2.2.1];exact hs⟩
structure Net.Sk (n:Net):Prop where
 cap:1≤n.cap∧n.cap≤4000
 len:1≤n.nodes.length∧n.nodes.length≤n.cap
 last:∀ x,n.nodes[n.nodes.length-1]?=some x→x.kind≠0
 node:∀ (i:Nat) (x:Node),n.nodes[i]?=some x→x.ok=true∧x.to.length=x.ports∧(x.kind=1↔i=0)
theorem Net.Sk.bare {n m:Net}(h:m.Sk)(hb:Bare n m):n.Sk:=by
 refine ⟨by rw[hb.1];exact h.cap,by rw[hb.1,hb.2.1];exact h.len,fun x hx=>?_,fun i x hx=>?_⟩
 ·obtain ⟨y,hy,hyb⟩:=hb.symm.at hx
  rw[hb.2.1]at hy
  rw[← (Node.bare_ok hyb).2.2.1]
  exact h.last y hy
 ·obtain ⟨y,hy,hyb⟩:=hb.symm.at hx
  obtain ⟨a1,a2,a3⟩:=h.node i y hy
  obtain ⟨b1,b2,b3,b4,_⟩:=Node.bare_ok hyb
  exact ⟨by rw[← b1];exact a1,by rw[← b4,← b2];exact a2,by rw[← b3];exact a3⟩
def Lk (n:Net)(D:Port→Prop):Prop:=∀ p,n.has p→¬ D p→n.has (n.pr p)∧¬ D (n.pr p)∧n.pr (n.pr p)=p∧n.pr p≠p
theorem Net.Ok.sk {n:Net}(h:n.Ok):n.Sk:=⟨h.cap,h.len,h.last,h.node⟩
theorem Net.Ok.lk {n:Net}(h:n.Ok):Lk n (fun _=>False):=by
 intro p hp _
 obtain ⟨x,hx,hs⟩:=Net.has_pr hp
 obtain ⟨a,b⟩:=h.link _ _ _ _ hx hs
 have hh:n.has (n.pr p):=by
  unfold Net.peer at b
  split at b
  ·rename_i y hy;exact ⟨y,hy,(gE b).1⟩
  ·cases b
 refine ⟨hh,id,?_,a⟩
 show (n.peer (n.pr p)).getD ⟨0,0⟩=p
 rw[b];rfl
theorem Net.peer_of_has {n:Net}{p:Port}(h:n.has p):n.peer p=some (n.pr p):=by
 obtain ⟨x,hx,hs⟩:=Net.has_pr h
 unfold Net.peer
 rw[hx]
 exact hs
theorem Net.Sk.ok {n:Net}(h:n.Sk){D:Port→Prop}(hl:Lk n D)(hD:∀ p,n.has p→¬ D p):n.Ok:=by
 refine ⟨h.cap,h.len,h.last,h.node,fun i x k q hx hq=>?_⟩
 have hp:n.has ⟨i,k⟩:=⟨x,hx,(gE hq).1⟩
 have hpr:n.pr ⟨i,k⟩=q:=by
  obtain ⟨y,hy,hs⟩:=Net.has_pr hp
  rw[hx]at hy
  cases hy
  rw[hq]at hs
  exact (Option.some.inj hs).symm
 obtain ⟨h1,h2,h3,h4⟩:=hl _ hp (hD _ hp)
 rw[hpr]at h1 h3 h4
 exact ⟨h4,by rw[Net.peer_of_has h1,h3]⟩
theorem Lk.congr {n:Net}{D D':Port→Prop}(h:Lk n D)(hd:∀ p,n.has p→(D' p↔D p)):Lk n D':=by
 intro p hp hD
 obtain ⟨a1,a2,a3,a4⟩:=h p hp (fun e=>hD ((hd p hp).2 e))
 exact ⟨a1,fun e=>a2 ((hd _ a1).1 e),a3,a4⟩
theorem Lk.link {n:Net}{D:Port→Prop}(h:Lk n D){p q:Port}(hp:n.has p)(hq:n.has q)(hne:p≠q)(hpD:D p)(hqD:D q):Lk (n.link p q) (fun r=>D r∧r≠p∧r≠q):=by
 intro r hr hD
 rw[Net.link_has]at hr
 have hpr:=Net.link_pr hp hq hne
 by_cases h1:r=p
 ·subst h1
  have e1:(n.link r q).pr r=q:=by rw[hpr,if_pos rfl]
  rw[e1]
  exact ⟨Net.link_has.2 hq,fun e=>e.2.2 rfl,by rw[hpr,if_neg (fun e=>hne e.symm),if_pos rfl],fun e=>hne e.symm⟩
 ·by_cases h2:r=q
  ·subst h2
   have e1:(n.link p r).pr r=p:=by rw[hpr,if_neg h1,if_pos rfl]
   rw[e1]
   exact ⟨Net.link_has.2 hp,fun e=>e.2.1 rfl,by rw[hpr,if_pos rfl],hne⟩
  ·have hDr:¬ D r:=fun e=>hD ⟨e,h1,h2⟩
   obtain ⟨a1,a2,a3,a4⟩:=h r hr hDr
   have e1:(n.link p q).pr r=n.pr r:=by rw[hpr,if_neg h1,if_neg h2]
   have n1:n.pr r≠p:=fun e=>a2 (e ▸ hpD)
   have n2:n.pr r≠q:=fun e=>a2 (e ▸ hqD)
   rw[e1]
   exact ⟨Net.link_has.2 a1,fun e=>a2 e.1,by rw[hpr,if_neg n1,if_neg n2];exact a3,a4⟩
theorem Lk.move {n:Net}{D:Port→Prop}(h:Lk n D){p q:Port}(hp:n.has p)(hq:n.has q)(hpD:¬ D p)(hqD:D q) :
  (n.has (n.pr p)∧p≠q)∧Lk (n.move p q) (fun r=>(D r∧r≠q)∨r=p):=by
 obtain ⟨a1,a2,a3,a4⟩:=h p hp hpD
 have hne:p≠q:=fun e=>hpD (e ▸ hqD)
 have hq1:n.pr p≠q:=fun e=>a2 (e ▸ hqD)
 refine ⟨⟨a1,hne⟩,?_⟩
 unfold Net.move
 rw[if_neg hq1]
 have hpr:=Net.link_pr hq a1 (fun e=>hq1 e.symm)
 intro r hr hD
 rw[Net.link_has]at hr
 have hrp:r≠p:=fun e=>hD (.inr e)
 by_cases h1:r=q
 ·subst h1
  have e1:(n.link r (n.pr p)).pr r=n.pr p:=by rw[hpr,if_pos rfl]
  rw[e1]
  exact ⟨Net.link_has.2 a1,fun e=>by rcases e with e|e;exact a2 e.1;exact a4 e,by rw[hpr,if_neg hq1,if_pos rfl],hq1⟩
 ·by_cases h2:r=n.pr p
  ·subst h2
   have e1:(n.link q (n.pr p)).pr (n.pr p)=q:=by rw[hpr,if_neg h1,if_pos rfl]
   rw[e1]
   exact ⟨Net.link_has.2 hq,fun e=>by rcases e with e|e;exact e.2 rfl;exact hne e.symm,by rw[hpr,if_pos rfl],fun e=>h1 e.symm⟩
  ·have hDr:¬ D r:=fun e=>hD (.inl ⟨e,h1⟩)
   obtain ⟨b1,b2,b3,b4⟩:=h r hr hDr
   have e1:(n.link q (n.pr p)).pr r=n.pr r:=by rw[hpr,if_neg h1,if_neg h2]
   have n1:n.pr r≠q:=fun e=>b2 (e ▸ hqD)
   have n2:n.pr r≠n.pr p:=fun e=>hrp (by rw[← b3,e,a3])
   have n3:n.pr r≠p:=fun e=>h2 (by rw[← b3,e])
   rw[e1]
   exact ⟨Net.link_has.2 b1,fun e=>by rcases e with e|e;exact b2 e.1;exact n3 e,by rw[hpr,if_neg n1,if_neg n2];exact b3,b4⟩
theorem Lk.join {n:Net}{D:Port→Prop}(h:Lk n D){p q:Port}(hp:n.has p)(hq:n.has q)(hne:p≠q)(hpD:¬ D p)(hqD:¬ D q) :
  (n.has (n.pr p)∧n.has (n.pr q)∧(n.pr p≠q→n.pr p≠n.pr q))∧Lk (n.join p q) (fun r=>D r∨r=p∨r=q):=by
 obtain ⟨a1,a2,a3,a4⟩:=h p hp hpD
 obtain ⟨b1,b2,b3,b4⟩:=h q hq hqD
 have hpq:n.pr p≠n.pr q:=fun e=>hne (by rw[← a3,e,b3])
 refine ⟨⟨a1,b1,fun _=>hpq⟩,?_⟩
 unfold Net.join
 by_cases hm:n.pr p=q
 ·rw[if_pos hm]
  intro r hr hD
  have hDr:¬ D r:=fun e=>hD (.inl e)
  obtain ⟨c1,c2,c3,c4⟩:=h r hr hDr
  refine ⟨c1,fun e=>?_,c3,c4⟩
  rcases e with e|e|e
  ·exact c2 e
  ·exact hD (.inr (.inr (by rw[← c3,e];exact hm)))
  ·exact hD (.inr (.inl (by rw[← c3,e,← hm];exact a3)))
 ·rw[if_neg hm]
  have hpr:=Net.link_pr a1 b1 hpq
  have hqp:n.pr q≠p:=fun e=>hm (by rw[← e,b3])
  intro r hr hD
  rw[Net.link_has]at hr
  have hrp:r≠p:=fun e=>hD (.inr (.inl e))
  have hrq:r≠q:=fun e=>hD (.inr (.inr e))
  by_cases h1:r=n.pr p
  ·subst h1
   have e1:(n.link (n.pr p) (n.pr q)).pr (n.pr p)=n.pr q:=by rw[hpr,if_pos rfl]
   rw[e1]
   refine ⟨Net.link_has.2 b1,fun e=>?_,by rw[hpr,if_neg (fun e=>hpq e.symm),if_pos rfl],fun e=>hpq e.symm⟩
   rcases e with e|e|e
   ·exact b2 e
   ·exact hqp e
   ·exact b4 e
  ·by_cases h2:r=n.pr q
   ·subst h2
    have e1:(n.link (n.pr p) (n.pr q)).pr (n.pr q)=n.pr p:=by rw[hpr,if_neg h1,if_pos rfl]
    rw[e1]
    refine ⟨Net.link_has.2 a1,fun e=>?_,by rw[hpr,if_pos rfl],hpq⟩
    rcases e with e|e|e
    ·exact a2 e
    ·exact a4 e
    ·exact hm e
   ·have hDr:¬ D r:=fun e=>hD (.inl e)
    obtain ⟨c1,c2,c3,c4⟩:=h r hr hDr
    have e1:(n.link (n.pr p) (n.pr q)).pr r=n.pr r:=by rw[hpr,if_neg h1,if_neg h2]
    have n1:n.pr r≠n.pr p:=fun e=>hrp (by rw[← c3,e,a3])
    have n2:n.pr r≠n.pr q:=fun e=>hrq (by rw[← c3,e,b3])
    have n3:n.pr r≠p:=fun e=>h1 (by rw[← c3,e])
    have n4:n.pr r≠q:=fun e=>h2 (by rw[← c3,e])
    rw[e1]
    refine ⟨Net.link_has.2 c1,fun e=>?_,by rw[hpr,if_neg n1,if_neg n2];exact c3,c4⟩
    rcases e with e|e|e
    ·exact c2 e
    ·exact n3 e
    ·exact n4 e
theorem Net.Sk.free_ports {n:Net}(h:n.Sk){i:Nat}{x:Node}(hx:n.nodes[i]?=some x)(hk:x.kind=0):x.to.length=0:=by
 obtain ⟨_,h2,_⟩:=h.node i x hx
 rw[h2]
 unfold Node.ports
 rw[hk]
 rfl
theorem Net.Sk.root {n:Net}(h:n.Sk):∃ x,n.nodes[0]?=some x∧x.kind=1:=by
 have hl:=h.len.1
 refine ⟨n.nodes[0],gG (by omega),?_⟩
 exact (h.node 0 _ (gG (by omega))).2.2.2 rfl
theorem Net.Sk.place_ne {n:Net}(h:n.Sk):n.place≠0:=by
 intro e
 obtain ⟨x,hx,hk⟩:=h.root
 have hl:=h.len.1
 obtain ⟨y,hy,hyk⟩:=Net.place_free (n:=n) (by omega)
 rw[e,hx]at hy
 cases hy
 omega
theorem Net.make_at {n:Net}{x:Node}(i:Nat):(n.make x).nodes[i]?=if i=n.place then some x.fresh else n.nodes[i]?:=by
 have hp:=n.place_le
 unfold Net.make
 dsimp only
 by_cases h:n.place<n.nodes.length
 ·rw[if_pos h,List.getElem?_set]
  by_cases e:n.place=i
  ·rw[if_pos e,if_pos e.symm,if_pos h]
  ·rw[if_neg e,if_neg (fun e'=>e e'.symm)]
 ·rw[if_neg h]
  have e:n.place=n.nodes.length:=by omega
  rw[e]
  by_cases hi:i=n.nodes.length
  ·subst hi;simp
  ·rw[if_neg hi]
   by_cases hlt:i<n.nodes.length
   ·rw[List.getElem?_append_left hlt]
   ·rw[List.getElem?_eq_none (by simp;omega),List.getElem?_eq_none (by omega)]
theorem Node.fresh_bare {x:Node}:x.fresh.to.length=x.ports:=by simp[Node.fresh]
theorem Node.fresh_ports {x:Node}(h:x.kind=8→x.to.length=x.ports):x.fresh.ports=x.ports:=by
 unfold Node.ports Node.fresh
 dsimp only
 split
 ·rename_i hk
  simp[Node.ports,hk]
 ·rfl
theorem Node.fresh_ok {x:Node}(h:x.ok=true):x.fresh.ok=true:=by
 have:x.fresh.ok=x.ok:=by
  unfold Node.ok Node.altsOK Node.fresh
  dsimp only
  by_cases hk:x.kind=8
  ·simp[hk,Node.ports]
  ·simp[hk]
 rw[this];exact h
theorem Net.Sk.place_none {n:Net}(h:n.Sk){p:Port}(hp:n.has p):p.node≠n.place:=by
 intro e
 obtain ⟨x,hx,hs⟩:=hp
 have hlt:p.node<n.nodes.length:=(gE hx).1
 obtain ⟨y,hy,hyk⟩:=Net.place_free (n:=n) (by omega)
 rw[← e,hx]at hy
 cases hy
 have:=h.free_ports hx hyk
 omega
theorem Net.make_has {n:Net}(h:n.Sk){x:Node}{p:Port}:(n.make x).has p↔(p.node=n.place∧p.slot<x.ports)∨n.has p:=by
 unfold Net.has
 rw[Net.make_at]
 by_cases e:p.node=n.place
 ·rw[if_pos e]
  constructor
  ·rintro ⟨y,hy,hs⟩
   cases hy
   exact .inl ⟨e,by rw[Node.fresh_bare]at hs;exact hs⟩
  ·rintro (⟨_,hs⟩|hp)
   ·exact ⟨_,rfl,by rw[Node.fresh_bare];exact hs⟩
   ·exact absurd e (h.place_none hp)
 ·rw[if_neg e]
  constructor
  ·exact .inr
  ·rintro (⟨e',_⟩|hp)
   ·exact absurd e' e
   ·exact hp
theorem Net.make_pr {n:Net}{x:Node}{p:Port}(h:p.node≠n.place):(n.make x).pr p=n.pr p:=by
 unfold Net.pr Net.peer
 rw[Net.make_at,if_neg h]
theorem Net.make_keep {n:Net}(h:n.Sk){x y:Node}{i:Nat}(hy:n.nodes[i]?=some y)(hk:y.kind≠0):(n.make x).nodes[i]?=some y:=by
 rw[Net.make_at,if_neg,hy]
 intro e
 have hlt:i<n.nodes.length:=(gE hy).1
 obtain ⟨z,hz,hzk⟩:=Net.place_free (n:=n) (by omega)
 rw[← e,hy]at hz
 cases hz
 exact hk hzk
theorem Lk.make {n:Net}{D:Port→Prop}(hs:n.Sk)(h:Lk n D)(x:Node):Lk (n.make x) (fun r=>D r∨r.node=n.place):=by
 intro r hr hD
 have h1:r.node≠n.place:=fun e=>hD (.inr e)
 have h2:n.has r:=by
  rcases (Net.make_has hs).1 hr with h|h
  ·exact absurd h.1 h1
  ·exact h
 obtain ⟨a1,a2,a3,a4⟩:=h r h2 (fun e=>hD (.inl e))
 rw[Net.make_pr h1]
 have h3:=hs.place_none a1
 exact ⟨(Net.make_has hs).2 (.inr a1),fun e=>by rcases e with e|e;exact a2 e;exact h3 e,by rw[Net.make_pr h3];exact a3,a4⟩
theorem Net.Sk.make {n:Net}(h:n.Sk){x:Node}(hk:2≤x.kind)(hx:x.ok=true)(hp:x.kind=8→x.to.length=x.ports)(hu:n.used<n.cap):(n.make x).Sk:=by
 have hl:=h.len
 have hpl:=n.place_le
 have hlen:(n.make x).nodes.length=if n.place<n.nodes.length then n.nodes.length else n.nodes.length+1:=by
  unfold Net.make
  dsimp only
  split<;>simp
 refine ⟨h.cap,?_,fun y hy=>?_,fun i y hy=>?_⟩
 ·rw[hlen]
  split
  ·exact hl
  ·rename_i hn
   have hall:n.used=n.nodes.length:=by
    unfold Net.used
    rw[List.countP_eq_length]
    intro z hz
    have:n.nodes.findIdx? (fun x=>decide (x.kind=0))=none:=by
     cases hf:n.nodes.findIdx? (fun x=>decide (x.kind=0)) with
     |none=>rfl
     |some k =>
      obtain ⟨k1,_,_⟩:=List.findIdx?_eq_some_iff_getElem.1 hf
      exfalso
      apply hn
      unfold Net.place
      rw[hf]
      exact k1
    rw[List.findIdx?_eq_none_iff]at this
    have:=this z hz
    simpa using this
   show 1≤n.nodes.length+1∧n.nodes.length+1≤n.cap
   omega
 ·rw[Net.make_at]at hy
  split at hy
  ·cases hy;show x.kind≠0;omega
  ·rename_i hne
   rw[hlen]at hy hne
   split at hy
   ·exact h.last y hy
   ·rename_i hn
    rw[if_neg hn]at hne
    omega
 ·rw[Net.make_at]at hy
  split at hy
  ·rename_i e
   cases hy
   refine ⟨Node.fresh_ok hx,by rw[Node.fresh_bare,Node.fresh_ports hp],?_⟩
   have:=h.place_ne
   show x.kind=1↔i=0
   omega
  ·exact h.node i y hy
theorem trimTo_last {l:List Node}:∀ (k t:Nat),trimTo l k=t+1→∀ x,l[t]?=some x→x.kind≠0
 |0,t,h=>by simp[trimTo]at h
 |k+1,t,h=>by
  unfold trimTo at h
  intro x hx
  split at h
  ·rename_i y hy
   split at h
   ·exact trimTo_last k t h x hx
   ·rename_i hk
    have:t=k:=by omega
    subst this
    rw[hy]at hx
    cases hx
    exact hk
  ·rename_i hn
   have:t=k:=by omega
   subst this
   rw[hn]at hx
   cases hx
theorem Net.free_at {n:Net}{i j:Nat}{x:Node}(h:(n.free i).nodes[j]?=some x):(j=i∧x=.zero)∨(j≠i∧n.nodes[j]?=some x):=by
 unfold Net.free at h
 dsimp only at h
 rw[List.getElem?_take]at h
 split at h
 ·rw[List.getElem?_set]at h
  split at h
  ·rename_i e
   split at h
   ·cases h;exact .inl ⟨e.symm,rfl⟩
   ·cases h
  ·rename_i e;exact .inr ⟨fun e'=>e e'.symm,h⟩
 ·cases h
theorem Net.Sk.free_has {n:Net}(h:n.Sk){i:Nat}{p:Port}:(n.free i).has p↔n.has p∧p.node≠i:=by
 constructor
 ·rintro ⟨x,hx,hs⟩
  rcases Net.free_at hx with ⟨_,e⟩|⟨e,hx'⟩
  ·subst e;simp[Node.zero]at hs
  ·exact ⟨⟨x,hx',hs⟩,e⟩
 ·rintro ⟨⟨x,hx,hs⟩,e⟩
  refine ⟨x,Net.free_keep hx ?_ (fun e'=>e e'.symm),hs⟩
  intro hk
  have:=h.free_ports hx hk
  omega
theorem Net.Sk.free_pr {n:Net}(h:n.Sk){i:Nat}{p:Port}(hp:(n.free i).has p):(n.free i).pr p=n.pr p:=by
 obtain ⟨x,hx,hs⟩:=hp
 unfold Net.pr Net.peer
 rw[hx]
 rcases Net.free_at hx with ⟨_,e⟩|⟨e,hx'⟩
 ·subst e;simp[Node.zero]at hs
 ·rw[hx']
theorem Lk.free {n:Net}{D:Port→Prop}(hs:n.Sk)(h:Lk n D){i:Nat}(hi:∀ p,n.has p→p.node=i→D p):Lk (n.free i) D:=by
 intro r hr hD
 have hr':=hs.free_has.1 hr
 obtain ⟨a1,a2,a3,a4⟩:=h r hr'.1 hD
 rw[hs.free_pr hr]
 have h1:(n.free i).has (n.pr r):=hs.free_has.2 ⟨a1,fun e=>a2 (hi _ a1 e)⟩
 exact ⟨h1,a2,by rw[hs.free_pr h1];exact a3,a4⟩
theorem Node.zero_ok:Node.zero.ok=true∧Node.zero.to.length=Node.zero.ports:=⟨by decide,by decide⟩
theorem Net.Sk.free {n:Net}(h:n.Sk){i:Nat}(hi:i≠0):(n.free i).Sk:=by
 have hl:=h.len
 obtain ⟨r,hr,hrk⟩:=h.root
 have hr':=Net.free_keep (i:=i) hr (by omega) hi
 have hr0:0<(n.free i).nodes.length:=(gE hr').1
 refine ⟨h.cap,⟨by omega,?_⟩,fun x hx=>?_,fun j x hx=>?_⟩
 ·have:(n.free i).nodes.length≤n.nodes.length:=by
   unfold Net.free
   simp only[List.length_take,List.length_set]
   omega
  have hc:(n.free i).cap=n.cap:=rfl
  omega
 ·have hlen:(n.free i).nodes.length=trimTo (n.nodes.set i .zero) n.nodes.length:=by
   unfold Net.free
   simp only[List.length_take,List.length_set]
   exact Nat.min_eq_left (trimTo_le _ _)
  have ht:trimTo (n.nodes.set i .zero) n.nodes.length=((n.free i).nodes.length-1)+1:=by omega
  refine trimTo_last _ _ ht x ?_
  unfold Net.free at hx
  dsimp only at hx
  rw[List.getElem?_take]at hx
  split at hx
  ·unfold Net.free;exact hx
  ·cases hx
 ·rcases Net.free_at hx with ⟨e,hz⟩|⟨e,hx'⟩
  ·subst hz
   refine ⟨Node.zero_ok.1,Node.zero_ok.2,?_⟩
   show (0:Nat)=1↔j=0
   omega
  ·exact h.node j x hx'
theorem Bare.tiny {n m:Net}(h:Bare n m)(ht:m.Tiny):n.Tiny:=by
 refine ⟨by rw[h.2.1];exact ht.1,fun i x hx=>?_⟩
 obtain ⟨y,hy,hb⟩:=h.symm.at hx
 rw[← (Node.bare_ok hb).2.2.2.1]
 exact ht.2 i y hy
theorem Net.Sk.tiny {n:Net}(h:n.Sk):n.Tiny:=by
 have h1:=h.len
 have h2:=h.cap
 refine ⟨by omega,fun i x hx=>?_⟩
 have:=Node.ports_le (h.node i x hx).1 (h.node i x hx).2.1
 omega
theorem Lk.move_fix {n:Net}{D:Port→Prop}(h:Lk n D){p q:Port}(hp:n.has p)(hq:n.has q)(hpD:¬ D p)(hqD:D q){R:Port→Prop}(hR:∀ r,R r→n.has r∧¬ D r∧R (n.pr r))(hpR:¬ R p)(r:Port)(hr:R r):(n.move p q).pr r=n.pr r:=by
 obtain ⟨a1,a2,a3,a4⟩:=h p hp hpD
 obtain ⟨b1,b2,b3⟩:=hR r hr
 unfold Net.move
 split
 ·rfl
 ·rename_i hne
  rw[Net.link_pr hq a1 (fun e=>hne e.symm),if_neg (fun e=>b2 (by rw[e];exact hqD)),if_neg (fun e=>hpR (by rw[← a3,← e];exact b3))]
theorem Lk.join_fix {n:Net}{D:Port→Prop}(h:Lk n D){p q:Port}(hp:n.has p)(hq:n.has q)(hne:p≠q)(hpD:¬ D p)(hqD:¬ D q){R:Port→Prop}(hR:∀ r,R r→n.has r∧¬ D r∧R (n.pr r))(hpR:¬ R p)(hqR:¬ R q)(r:Port)(hr:R r):(n.join p q).pr r=n.pr r:=by
 obtain ⟨a1,a2,a3,a4⟩:=h p hp hpD
 obtain ⟨c1,c2,c3,c4⟩:=h q hq hqD
 obtain ⟨b1,b2,b3⟩:=hR r hr
 unfold Net.join
 split
 ·rfl
 ·rw[Net.link_pr a1 c1 (fun e=>hne (by rw[← a3,e,c3])),if_neg (fun e=>hpR (by rw[← a3,← e];exact b3)),if_neg (fun e=>hqR (by rw[← c3,← e];exact b3))]
theorem moves_ok:∀ (l:List (Port×Port)) {n:Net} {D:Port→Prop},Lk n D→n.Tiny→(∀ pq,pq∈l→n.has pq.1∧n.has pq.2∧¬ D pq.1∧D pq.2)→(l.map (·.1)).Nodup→(l.map (·.2)).Nodup →
  MovesOK n l∧Lk (n.moves l) (fun r=>(D r∧r∉l.map (·.2))∨r∈l.map (·.1))∧Bare (n.moves l) n∧∀ R:Port→Prop,(∀ r,R r→n.has r∧¬ D r∧R (n.pr r))→(∀ pq,pq∈l→¬ R pq.1)→∀ r,R r→(n.moves l).pr r=n.pr r
 |[],n,D,h,_,_,_,_=>⟨trivial,h.congr (fun p _=>by simp),.refl _,fun _ _ _ _ _=>rfl⟩
 |(p,q)::r,n,D,h,ht,hl,h1,h2=>by
  obtain ⟨a1,a2,a3,a4⟩:=hl (p,q) (by simp)
  obtain ⟨⟨b1,b2⟩,b3⟩:=h.move a1 a2 a3 a4
  simp only[List.map_cons,List.nodup_cons]at h1 h2
  have hb:=Bare.move n p q
  obtain ⟨c1,c2,c3,c4⟩:=moves_ok r (n:=n.move p q) b3 (hb.tiny ht) (fun pq hpq=>by
   obtain ⟨d1,d2,d3,d4⟩:=hl pq (by simp[hpq])
   refine ⟨hb.has.2 d1,hb.has.2 d2,fun e=>?_,.inl ⟨d4,fun e=>h2.1 (by rw[← (show pq.2=q from e)];exact List.mem_map.2 ⟨pq,hpq,rfl⟩)⟩⟩
   rcases e with e|e
   ·exact d3 e.1
   ·exact h1.1 (by rw[← (show pq.1=p from e)];exact List.mem_map.2 ⟨pq,hpq,rfl⟩)) h1.2 h2.2
  refine ⟨⟨⟨⟨a1,ht⟩,a2,b1,b2⟩,c1⟩,c2.congr (fun x _=>?_),c3.trans hb,fun R hR hl'=>?_⟩
  rotate_left
  ·have hm:=h.move_fix a1 a2 a3 a4 hR (hl' (p,q) (by simp))
   intro x hx
   refine (c4 R (fun y hy=>⟨hb.has.2 (hR y hy).1,fun e=>?_,by rw[hm y hy];exact (hR y hy).2.2⟩) (fun pq hpq=>hl' pq (by simp[hpq])) x hx).trans (hm x hx)
   rcases e with e|e
   ·exact (hR y hy).2.1 e.1
   ·exact hl' (p,q) (by simp) (by rw[← e];exact hy)
  simp only[List.map_cons,List.mem_cons]
  have hpn:p∉r.map (·.2):=fun e=>by
   obtain ⟨pq,hpq,he⟩:=List.mem_map.1 e
   have:=(hl pq (by simp[hpq])).2.2.2
   rw[he]at this
   exact a3 this
  constructor
  ·rintro (⟨d1,d2⟩|rfl|d1)
   ·exact .inl ⟨.inl ⟨d1,fun e=>d2 (.inl e)⟩,fun e=>d2 (.inr e)⟩
   ·exact .inl ⟨.inr rfl,hpn⟩
   ·exact .inr d1
  ·rintro (⟨d1|rfl,d2⟩|d1)
   ·exact .inl ⟨d1.1,fun e=>by rcases e with e|e;exact d1.2 e;exact d2 e⟩
   ·exact .inr (.inl rfl)
   ·exact .inr (.inr d1)
theorem joins_ok:∀ (l:List (Port×Port)) {n:Net} {D:Port→Prop},Lk n D→n.Tiny→(∀ pq,pq∈l→n.has pq.1∧n.has pq.2∧¬ D pq.1∧¬ D pq.2)→(l.map (·.1)).Nodup→(l.map (·.2)).Nodup→(∀ a,a∈l.map (·.1)→a∉l.map (·.2)) →
  JoinsOK n l∧Lk (n.joins l) (fun r=>D r∨r∈l.map (·.1)∨r∈l.map (·.2))∧Bare (n.joins l) n∧∀ R:Port→Prop,(∀ r,R r→n.has r∧¬ D r∧R (n.pr r))→(∀ pq,pq∈l→¬ R pq.1∧¬ R pq.2)→∀ r,R r→(n.joins l).pr r=n.pr r
 |[],n,D,h,_,_,_,_,_=>⟨trivial,h.congr (fun p _=>by simp),.refl _,fun _ _ _ _ _=>rfl⟩
 |(p,q)::r,n,D,h,ht,hl,h1,h2,h3=>by
  obtain ⟨a1,a2,a3,a4⟩:=hl (p,q) (by simp)
  have hne:p≠q:=fun e=>h3 p (by simp) (by simp[e])
  obtain ⟨⟨b1,b2,b3⟩,b4⟩:=h.join a1 a2 hne a3 a4
  simp only[List.map_cons,List.nodup_cons]at h1 h2
  have hb:=Bare.join n p q
  obtain ⟨c1,c2,c3,c4⟩:=joins_ok r (n:=n.join p q) b4 (hb.tiny ht) (fun pq hpq=>by
   obtain ⟨d1,d2,d3,d4⟩:=hl pq (by simp[hpq])
   have m1:pq.1∈r.map (·.1):=List.mem_map.2 ⟨pq,hpq,rfl⟩
   have m2:pq.2∈r.map (·.2):=List.mem_map.2 ⟨pq,hpq,rfl⟩
   refine ⟨hb.has.2 d1,hb.has.2 d2,fun e=>?_,fun e=>?_⟩
   ·rcases e with e|e|e
    ·exact d3 e
    ·exact h1.1 (by rw[← (show pq.1=p from e)];exact m1)
    ·exact h3 pq.1 (by simp[m1]) (by simp[e])
   ·rcases e with e|e|e
    ·exact d4 e
    ·exact h3 p (by simp) (by simp only[List.map_cons,List.mem_cons];exact .inr (by rw[← (show pq.2=p from e)];exact m2))
    ·exact h2.1 (by rw[← (show pq.2=q from e)];exact m2)) h1.2 h2.2 (fun a ha hb=>h3 a (by simp only[List.map_cons,List.mem_cons];exact .inr ha) (by simp only[List.map_cons,List.mem_cons];exact .inr hb))
  refine ⟨⟨⟨⟨a1,ht⟩,a2,b1,b2,hne,b3⟩,c1⟩,c2.congr (fun x _=>?_),c3.trans hb,fun R hR hl'=>?_⟩
  rotate_left
  ·obtain ⟨g1,g2⟩:=hl' (p,q) (by simp)
   have hm:=h.join_fix a1 a2 hne a3 a4 hR g1 g2
   intro x hx
   refine (c4 R (fun y hy=>⟨hb.has.2 (hR y hy).1,fun e=>?_,by rw[hm y hy];exact (hR y hy).2.2⟩) (fun pq hpq=>hl' pq (by simp[hpq])) x hx).trans (hm x hx)
   rcases e with e|e|e
   ·exact (hR y hy).2.1 e
   ·exact g1 (by rw[← e];exact hy)
   ·exact g2 (by rw[← e];exact hy)
  simp only[List.map_cons,List.mem_cons]
  constructor
  ·rintro (d|(d|d)|(d|d))
   ·exact .inl (.inl d)
   ·exact .inl (.inr (.inl d))
   ·exact .inr (.inl d)
   ·exact .inl (.inr (.inr d))
   ·exact .inr (.inr d)
  ·rintro ((d|d|d)|d|d)
   ·exact .inl d
   ·exact .inr (.inl (.inl d))
   ·exact .inr (.inr (.inl d))
   ·exact .inr (.inl (.inr d))
   ·exact .inr (.inr (.inr d))
theorem links_ok:∀ (l:List (Port×Port)) {n:Net} {D:Port→Prop},Lk n D→n.Tiny→(∀ pq,pq∈l→n.has pq.1∧n.has pq.2∧D pq.1∧D pq.2)→(l.map (·.1)).Nodup→(l.map (·.2)).Nodup→(∀ a,a∈l.map (·.1)→a∉l.map (·.2)) →
  LinksOK n l∧Lk (n.links l) (fun r=>D r∧r∉l.map (·.1)∧r∉l.map (·.2))∧Bare (n.links l) n∧∀ R:Port→Prop,(∀ r,R r→n.has r∧¬ D r∧R (n.pr r))→∀ r,R r→(n.links l).pr r=n.pr r
 |[],n,D,h,_,_,_,_,_=>⟨trivial,h.congr (fun p _=>by simp),.refl _,fun _ _ _ _=>rfl⟩
 |(p,q)::r,n,D,h,ht,hl,h1,h2,h3=>by
  obtain ⟨a1,a2,a3,a4⟩:=hl (p,q) (by simp)
  have hne:p≠q:=fun e=>h3 p (by simp) (by simp[e])
  have b4:=h.link a1 a2 hne a3 a4
  simp only[List.map_cons,List.nodup_cons]at h1 h2
  have hb:=Bare.link n p q
  obtain ⟨c1,c2,c3,c4⟩:=links_ok r (n:=n.link p q) b4 (hb.tiny ht) (fun pq hpq=>by
   obtain ⟨d1,d2,d3,d4⟩:=hl pq (by simp[hpq])
   have m1:pq.1∈r.map (·.1):=List.mem_map.2 ⟨pq,hpq,rfl⟩
   have m2:pq.2∈r.map (·.2):=List.mem_map.2 ⟨pq,hpq,rfl⟩
   refine ⟨hb.has.2 d1,hb.has.2 d2,⟨d3,fun e=>h1.1 (by rw[← (show pq.1=p from e)];exact m1),fun e=>h3 pq.1 (by simp[m1]) (by simp[e])⟩,d4,fun e=>h3 p (by simp) (by simp only[List.map_cons,List.mem_cons];exact .inr (by rw[← (show pq.2=p from e)];exact m2)),fun e=>h2.1 (by rw[← (show pq.2=q from e)];exact m2)⟩) h1.2 h2.2 (fun a ha hb=>h3 a (by simp only[List.map_cons,List.mem_cons];exact .inr ha) (by simp only[List.map_cons,List.mem_cons];exact .inr hb))
  refine ⟨⟨⟨⟨a1,ht⟩,a2,hne⟩,c1⟩,c2.congr (fun x _=>?_),c3.trans hb,fun R hR=>?_⟩
  rotate_left
  ·have hp3:=(hl (p,q) (by simp)).2.2
   have hm:∀ y,R y→(n.link p q).pr y=n.pr y:=fun y hy=>by
    rw[Net.link_pr a1 a2 hne,if_neg (fun e=>(hR y hy).2.1 (by rw[e];exact hp3.1)),if_neg (fun e=>(hR y hy).2.1 (by rw[e];exact hp3.2))]
   intro x hx
   exact (c4 R (fun y hy=>⟨hb.has.2 (hR y hy).1,fun e=>(hR y hy).2.1 e.1,by rw[hm y hy];exact (hR y hy).2.2⟩) x hx).trans (hm x hx)
  simp only[List.map_cons,List.mem_cons]
  constructor
  ·rintro ⟨d1,d2,d3⟩
   exact ⟨⟨d1,fun e=>d2 (.inl e),fun e=>d3 (.inl e)⟩,fun e=>d2 (.inr e),fun e=>d3 (.inr e)⟩
  ·rintro ⟨⟨d1,d2,d3⟩,d4,d5⟩
   exact ⟨d1,fun e=>by rcases e with e|e;exact d2 e;exact d4 e,fun e=>by rcases e with e|e;exact d3 e;exact d5 e⟩
structure Likes (n m:Net)(x:Node)(cs:List Nat):Prop where
 sk:m.Sk
 cap:m.cap=n.cap
 used:m.used=n.used+cs.length
 keep:∀ (i:Nat) (y:Node),n.nodes[i]?=some y→y.kind≠0→m.nodes[i]?=some y
 new:∀ c,c∈cs→m.nodes[c]?=some x.fresh
 fresh:∀ p,n.has p→p.node∉cs
 nodup:cs.Nodup
 has:∀ p,m.has p↔n.has p∨(p.node∈cs∧p.slot<x.ports)
 lk:∀ D,Lk n D→Lk m (fun r=>D r∨r.node∈cs)
 len:m.nodes.length≤n.nodes.length+cs.length
 pr:∀ p,n.has p→m.pr p=n.pr p
theorem Likes.nil {n:Net}(h:n.Sk)(x:Node):Likes n n x [] :=
 ⟨h,rfl,rfl,fun _ _ h _=>h,by simp,by simp,by simp,by simp,fun D h=>h.congr (fun p _=>by simp),by simp,fun _ _=>rfl⟩
theorem likes_ok {x:Node}(hk:2≤x.kind)(hx:x.ok=true)(hp:x.kind=8→x.to.length=x.ports)(hpos:0<x.ports):∀ (k:Nat) {n:Net},n.Sk→n.used+k≤n.cap→Likes n (n.like x k).1 x (n.like x k).2
 |0,n,h,hu=>.nil h x
 |k+1,n,h,hu=>by
  have h1:=h.make hk hx hp (by omega)
  have hmu:(n.make x).used=n.used+1:=by
   have:=@Net.make_used n x (by omega)
   exact this
  have ih:=likes_ok hk hx hp hpos k (n:=n.make x) h1 (by rw[hmu];show n.used+1+k≤n.cap;omega)
  simp only[Net.like]
  have hat:(n.make x).nodes[n.place]?=some x.fresh:=by rw[Net.make_at,if_pos rfl]
  have hpl:n.place∉((n.make x).like x k).2:=by
   have:=ih.fresh ⟨n.place,0⟩ ((Net.make_has h).2 (.inl ⟨rfl,hpos⟩))
   exact this
  refine ⟨ih.sk,ih.cap,by rw[ih.used,hmu];simp;omega,fun i y hy hky=>ih.keep i y (Net.make_keep h hy hky) hky,fun c hc=>?_,fun p hpn hc=>?_,List.nodup_cons.2 ⟨hpl,ih.nodup⟩,fun p=>?_,fun D hD=>?_,?_,fun p hp=>(ih.pr p ((Net.make_has h).2 (.inr hp))).trans (Net.make_pr (h.place_none hp))⟩
  ·rcases List.mem_cons.1 hc with rfl|hc
   ·exact ih.keep _ _ hat (by show x.kind≠0;omega)
   ·exact ih.new c hc
  ·rcases List.mem_cons.1 hc with e|hc
   ·exact h.place_none hpn e
   ·exact ih.fresh p ((Net.make_has h).2 (.inr hpn)) hc
  ·rw[ih.has,Net.make_has h]
   simp only[List.mem_cons]
   constructor
   ·rintro ((⟨e,hs⟩|hh)|⟨e,hs⟩)
    ·exact .inr ⟨.inl e,hs⟩
    ·exact .inl hh
    ·exact .inr ⟨.inr e,hs⟩
   ·rintro (hh|⟨e|e,hs⟩)
    ·exact .inl (.inr hh)
    ·exact .inl (.inl ⟨e,hs⟩)
    ·exact .inr ⟨e,hs⟩
  ·refine (ih.lk _ (hD.make h x)).congr (fun p _=>?_)
   simp only[List.mem_cons]
   constructor
   ·rintro (d|d|d)
    ·exact .inl (.inl d)
    ·exact .inl (.inr d)
    ·exact .inr d
   ·rintro ((d|d)|d)
    ·exact .inl d
    ·exact .inr (.inl d)
    ·exact .inr (.inr d)
  ·have:=ih.len
   have:=Net.make_len n x
   simp
   omega
end Go.Proofs.Z
end
section
namespace Go.Proofs.Z
open Go Go.Proofs
attribute [local simp] k_nil k_ops k_opsg kG_true kG_false kO_val kO_pan k_seq kS_n kS_r kS_e kS_p k_o kR_n kR_p kD2_n kD1_n k_d k_c kC_t kC_f k_b kB_n kB_r kB_p kB_e k_skip k_ret k_exit k_l kL_s kLp_n kLp_r kLp_e kLp_p k_f kF_n kF_r kF_p kV_f kV_t kN_s evOp evBin gOK opd opds lk put restr iEv evRes whole norm normL one Out.below below belowL bOb evStore evLoad evLen AV.cells AV.flat PV.flat splice fillAt pcs isStr rowsOf Res.of evCmp lvE leafEq asInt noIdAt noId noIdL tids chkOK
variable {pg:Prg}{G:Heap}
theorem t137 (h:Std pg){n:Net}{i k:Nat}{x y:Node}{q:Port}(hl:n.nodes.length<2 ^ 40)(h1:n.nodes[i]?=some x)(h2:x.to[k]?=some q)(hne:¬ (q.node=i∧q.slot=k))(h3:n.nodes[q.node]?=some y)
  (hyl:y.to.length<2 ^ 40) (h4:y.to[q.slot]?=some ⟨i,k⟩) :
  eCA pg (E pg) 137 [.ag [.p (.sl (n.nodes.map Node.enc)),.p (.i .i64 n.cap)],.ag [.p (.i .i64 i),.p (.i .i64 k)]] G=some (.ret (.p (.b true)),G):=by
 refine at_pure ?_ rfl rfl
 rw[h.run (x:=c137) rfl (by decide) (by decide) (by decide) (by decide)]
 have a1:q.node<n.nodes.length:=(gE h3).1
 have a2:q.slot<y.to.length:=(gE h4).1
 have a3:(q.node:Int)≤(n.nodes.length:Int)-1:=by omega
 have a4:(q.slot:Int)≤(y.to.length:Int)-1:=by omega
 have a5:(q.node=i∧q.slot=k)=False:=eq_false hne
 have a6:(decide (q.node=i) && decide (q.slot=k))=false:=by simpa using hne
 have a7:(!decide (q.node=i) || !decide (q.slot=k))=true:=by simp;omega
 simp[c137,leave,Int.natCast_inj,Node.enc,Port.enc,okRow,h1,h2,h3,h4,t134 h,a3,a4,a5,a6,a7,w64 ((n.nodes.length:Int)-1) (by omega) (by omega),w64 ((y.to.length:Int)-1) (by omega) (by omega)]
theorem Net.Ok.at {n:Net}(ho:n.Ok){i k:Nat}{x:Node}{q:Port}(h1:n.nodes[i]?=some x)(h2:x.to[k]?=some q):¬ (q.node=i∧q.slot=k)∧∃ y,n.nodes[q.node]?=some y∧y.to[q.slot]?=some ⟨i,k⟩:=by
 obtain ⟨a,b⟩:=ho.link i x k q h1 h2
 refine ⟨fun e=>a (by cases q;simp_all),?_⟩
 unfold Net.peer at b
 split at b
 ·rename_i y hy;exact ⟨y,hy,b⟩
 ·cases b
theorem l128a (h:Std pg){body:CCode}(hb:body=c128l0){n:Net}(ho:n.Ok){i:Nat}{x:Node}(hx:n.nodes[i]?=some x) :
  ∀ (m k:Nat),k+m=x.to.length→L pg 0 [1,4,33,34,35,61,62] body [(1,.ptr 0 0),(4,.p (.i .i64 i)),(33,.p (.sl (n.nodes.map Node.enc))),(34,.p (.i .i64 n.nodes.length)),(35,.p (.i .i64 i)),(61,.p (.i .i64 x.to.length)),(62,.p (.i .i64 k))] [.box [.p (.sl (n.nodes.map Node.enc)),.p (.i .i64 n.cap)]] =
   some (.exit 2,[(1,.ptr 0 0),(4,.p (.i .i64 i)),(33,.p (.sl (n.nodes.map Node.enc))),(34,.p (.i .i64 n.nodes.length)),(35,.p (.i .i64 i)),(61,.p (.i .i64 x.to.length)),(62,.p (.i .i64 x.to.length)),(63,.p (.b false))],[.box [.p (.sl (n.nodes.map Node.enc)),.p (.i .i64 n.cap)]])
 |0,k,hk=>by
  have:k=x.to.length:=by omega
  subst this
  rw[k_L hb]
  simp[c128l0,leave]
 |m+1,k,hk=>by
  have hlt:k<x.to.length:=by omega
  have h2:x.to[k]?=some x.to[k]:=gG hlt
  obtain ⟨hne,y,h3,h4⟩:=ho.at hx h2
  have hc:=ho.cap
  have hl:=ho.len
  obtain ⟨y1,y2,_⟩:=ho.node _ _ h3
  have hyl:=Node.ports_le y1 y2
  obtain ⟨x1,x2,_⟩:=ho.node _ _ hx
  have hxl:=Node.ports_le x1 x2
  have ht:=fun G=>t137 (G:=G) h (by omega) hx h2 hne h3 (by omega) h4
  have ih:=l128a h hb ho hx m (k+1) (by omega)
  rw[show ((k+1:Nat):Int)=(k:Int)+1 from by omega]at ih
  rw[k_L hb]
  simp[c128l0,leave,hlt,ht,w64 ((k:Int)+1) (by omega) (by omega),gc,gcEnv,exp,expL,eOs,Exp.id,idxOf,List.range,List.range.loop,ih]
theorem l128 (h:Std pg){body:CCode}(hb:body=c128l1){n:Net}(ho:n.Ok) :
  ∀ (m i:Nat),i+m=n.nodes.length→L pg 0 [1,33,34,35] body [(1,.ptr 0 0),(33,.p (.sl (n.nodes.map Node.enc))),(34,.p (.i .i64 n.nodes.length)),(35,.p (.i .i64 i))] [.box [.p (.sl (n.nodes.map Node.enc)),.p (.i .i64 n.cap)]] =
   some (.exit 0,[(1,.ptr 0 0),(33,.p (.sl (n.nodes.map Node.enc))),(34,.p (.i .i64 n.nodes.length)),(35,.p (.i .i64 n.nodes.length)),(36,.p (.b false))],[.box [.p (.sl (n.nodes.map Node.enc)),.p (.i .i64 n.cap)]])
 |0,i,hi=>by
  have:i=n.nodes.length:=by omega
  subst this
  rw[k_L hb]
  simp[c128l1,leave]
 |m+1,i,hi=>by
  have hlt:i<n.nodes.length:=by omega
  have hx:n.nodes[i]?=some n.nodes[i]:=gG hlt
  have hc:=ho.cap
  have hl:=ho.len
  obtain ⟨x1,x2,x3⟩:=ho.node _ _ hx
  have hxl:=Node.ports_le x1 x2
  have hal:=Node.alts_len x1
  have h5:=fun G=>t135 (G:=G) h n.nodes[i].kind n.nodes[i].lev n.nodes[i].n n.nodes[i].name n.nodes[i].alts n.nodes[i].to (by omega)
  have h6:=fun G=>t136 (G:=G) h n.nodes[i].kind n.nodes[i].lev n.nodes[i].n n.nodes[i].name n.nodes[i].alts n.nodes[i].to (by omega)
  rw[x1]at h5
  rw[← x2]at h6
  have ha:=l128a h rfl ho hx n.nodes[i].to.length 0 (by omega)
  have ih:=l128 h hb ho m (i+1) (by omega)
  rw[show ((i+1:Nat):Int)=(i:Int)+1 from by omega]at ih
  rw[show ((0:Nat):Int)=0 from rfl]at ha
  rw[k_L hb]
  by_cases h0:i=0
  ·have hk:=x3.2 h0
   have ek:((n.nodes[i].kind:Int)=1)=True:=eq_true (by omega)
   have ei:((i:Int)=0)=True:=eq_true (by omega)
   simp[c128l1,leave,hlt,okRow,Node.enc,h5,h6,(show keepA pg 136=false from h.keep (x:=c136) rfl),ek,ei,eq_true h0,gc,gcEnv,exp,expL,eOs,Exp.id,idxOf,List.range,List.range.loop,ha,w64 ((i:Int)+1) (by omega) (by omega),ih]
  ·have hk:¬ n.nodes[i].kind=1:=fun e=>h0 (x3.1 e)
   have ek:((n.nodes[i].kind:Int)=1)=False:=eq_false (by omega)
   have ei:((i:Int)=0)=False:=eq_false (by omega)
   simp[c128l1,leave,hlt,okRow,Node.enc,h5,h6,(show keepA pg 136=false from h.keep (x:=c136) rfl),ek,ei,h0,gc,gcEnv,exp,expL,eOs,Exp.id,idxOf,List.range,List.range.loop,ha,w64 ((i:Int)+1) (by omega) (by omega),ih]
theorem t128 (h:Std pg){n:Net}(ho:n.Ok) :
  eCA pg (E pg) 128 [.ag [.p (.sl (n.nodes.map Node.enc)),.p (.i .i64 n.cap)]] G=some (.ret (.p (.i .i64 0)),G):=by
 refine at_pure ?_ rfl rfl
 rw[h.run (x:=c128) rfl (by decide) (by decide) (by decide) (by decide)]
 have hc:=ho.cap
 have hl:=ho.len
 have hb:n.nodes.length-1<n.nodes.length:=by omega
 have e1:(((n.nodes.length:Int)-1).toNat)=n.nodes.length-1:=by omega
 have hla:=ho.last _ (gG hb)
 have e2:((n.nodes[n.nodes.length-1].kind:Int)=0)=False:=eq_false (by omega)
 have e3:(0:Int)≤(n.nodes.length:Int)-1:=by omega
 have e4:(n.nodes.length:Int)-1+1=n.nodes.length:=by omega
 have e5:(1:Int)≤n.nodes.length∧(n.nodes.length:Int)≤n.cap:=by omega
 have e6:(1:Int)≤n.cap∧(n.cap:Int)≤4000:=by omega
 have hL:=l128 h rfl ho n.nodes.length 0 (by omega)
 rw[show ((0:Nat):Int)=0 from rfl]at hL
 simp[c128,leave,t134 h,w64 ((n.nodes.length:Int)-1) (by omega) (by omega),w64 (n.nodes.length:Int) (by omega) (by omega),e1,e2,hla,e3,e4,e5.1,e5.2,e6.1,e6.2,hb,Node.enc,okRow,gc,gcEnv,exp,expL,eOs,Exp.id,idxOf,List.range,List.range.loop,hL]
theorem s151 (h:Std pg){n:Net}{p:Port}(hp:n.has p) :
  E pg 151 [.ag [.p (.i .i64 p.node),.p (.i .i64 p.slot)],.ptr 0 0] [.box [.p (.sl (n.nodes.map Node.enc)),.p (.i .i64 n.cap)]]=some (.ret (.p (.b false)),[.box [.p (.sl (n.nodes.map Node.enc)),.p (.i .i64 n.cap)]]):=by
 obtain ⟨x,h1,h2⟩:=hp
 have h3:p.node<n.nodes.length:=(gE h1).1
 have e1:((p.node:Int)<0)=False:=eq_false (by omega)
 have e2:((p.slot:Int)<0)=False:=eq_false (by omega)
 have e3:((n.nodes.length:Int)≤p.node)=False:=eq_false (by omega)
 have e4:((x.to.length:Int)≤p.slot)=False:=eq_false (by omega)
 have e5:(n.nodes.length≤p.node)=False:=eq_false (by omega)
 have e6:(x.to.length≤p.slot)=False:=eq_false (by omega)
 rw[h.run (x:=c151) rfl (by decide) (by decide) (by decide) (by decide)]
 simp[c151,leave,e1,e2,e3,e4,e5,e6,h1,Node.enc,okRow]
theorem s150 (h:Std pg){n:Net}{l:List Port}(hl:l.length<2 ^ 40)(hp:∀ p,p∈l→n.has p) :
  E pg 150 [.p (.sl (l.map Port.enc)),.fn 151 [] [.ptr 0 0]] [.box [.p (.sl (n.nodes.map Node.enc)),.p (.i .i64 n.cap)]]=some (.ret (.p (.b false)),[.box [.p (.sl (n.nodes.map Node.enc)),.p (.i .i64 n.cap)]]):=by
 have h1:=s175 (G:=[.box [.p (.sl (n.nodes.map Node.enc)),.p (.i .i64 n.cap)]]) h (f:=151) (first:=[]) (cap:=[.ptr 0 0]) (rows:=l.map Port.enc) (q:=fun _=>false) (by simpa using hl) rfl rfl (okRows_map okPort l) (by
  intro row hr
  obtain ⟨p,hm,rfl⟩:=List.mem_map.1 hr
  simp[Port.enc,eCA,gc,gcEnv,exp,expL,eOs,Exp.id,idxOf,List.range,List.range.loop,pcs,s151 h (hp p hm),Out.back,back,backL,backId,backObj,setAll])
 have h2:(l.map Port.enc).findIdx? (fun _=>false)=none:=by simp
 rw[h2]at h1
 rw[h.run (x:=c150) rfl (by decide) (by decide) (by decide) (by decide)]
 simp[c150,leave,eCA,gc,gcEnv,exp,expL,eOs,Exp.id,idxOf,List.range,List.range.loop,h1,Out.back,back,backL,backId,backObj,setAll,(show keepA pg 175=false from h.keep (x:=c175) rfl),idxInt]
theorem s138 (h:Std pg){n:Net}{l:List Port}(hl:l.length<2 ^ 40)(hp:∀ p,p∈l→n.has p) :
  E pg 138 [.ag [.p (.sl (n.nodes.map Node.enc)),.p (.i .i64 n.cap)],.p (.sl (l.map Port.enc))] []=some (.ret (.p (.b true)),[]):=by
 rw[h.run (x:=c138) rfl (by decide) (by decide) (by decide) (by decide)]
 simp[c138,leave,eCA,gc,gcEnv,exp,expL,eOs,Exp.id,idxOf,List.range,List.range.loop,s150 h hl hp,Out.back,back,backL,backId,backObj,setAll,(show keepA pg 150=false from h.keep (x:=c150) rfl)]
theorem s138a (h:Std pg){n:Net}{p:Port}(hp:n.has p) :
  E pg 138 [.ag [.p (.sl (n.nodes.map Node.enc)),.p (.i .i64 n.cap)],.p (.sl [[.i .i64 p.node,.i .i64 p.slot]])] []=some (.ret (.p (.b true)),[]) :=
 s138 h (l:=[p]) (by simp) (by simpa using hp)
theorem s138b (h:Std pg){n:Net}{p q:Port}(hp:n.has p)(hq:n.has q) :
  E pg 138 [.ag [.p (.sl (n.nodes.map Node.enc)),.p (.i .i64 n.cap)],.p (.sl [[.i .i64 p.node,.i .i64 p.slot],[.i .i64 q.node,.i .i64 q.slot]])] []=some (.ret (.p (.b true)),[]) :=
 s138 h (l:=[p,q]) (by simp) (by simp[hp,hq])
theorem s139 (h:Std pg){n:Net}{p:Port}(hp:n.has p) :
  E pg 139 [.ag [.p (.sl (n.nodes.map Node.enc)),.p (.i .i64 n.cap)],.ag [.p (.i .i64 p.node),.p (.i .i64 p.slot)]] []=some (.ret (.ag [.p (.i .i64 (n.pr p).node),.p (.i .i64 (n.pr p).slot)]),[]):=by
 obtain ⟨x,h1,h2⟩:=Net.has_pr hp
 rw[h.run (x:=c139) rfl (by decide) (by decide) (by decide) (by decide)]
 simp[c139,leave,h1,h2,Node.enc,Port.enc,okRow]
theorem s129 (h:Std pg){n:Net}{p:Port}(hp:n.has p) :
  E pg 129 [.ag [.p (.sl (n.nodes.map Node.enc)),.p (.i .i64 n.cap)],.ag [.p (.i .i64 p.node),.p (.i .i64 p.slot)]] []=some (.ret (.tup [.ag [.p (.i .i64 (n.pr p).node),.p (.i .i64 (n.pr p).slot)],.p (.i .i64 0)]),[]):=by
 rw[h.run (x:=c129) rfl (by decide) (by decide) (by decide) (by decide)]
 simp[c129,leave,eCA,evOp.fillRows,normP,toP,toPL,okRow,gc,gcEnv,exp,expL,eOs,Exp.id,idxOf,List.range,List.range.loop,s138a h hp,s139 h hp,Out.back,back,backL,backId,backObj,setAll,(show keepA pg 138=false from h.keep (x:=c138) rfl),(show keepA pg 139=false from h.keep (x:=c139) rfl)]
theorem e196 (h:Std pg){l:List Port}(hl:l≠[])(hs:l.length<2 ^ 20):E pg 196 [.p (.sl (l.map Port.enc))] []=some (.ret (.arr 0 l.length 1),[.arr 2 (l.map Port.enc) 1 0]):=by
 refine E_orc h.o196 _ ?_
 cases l with
 |nil=>exact absurd rfl hl
 |cons a r =>
  have:=okRows_enc okPort (a::r)
  have hro:roomy (a::r).length 16=true:=by simp only[roomy,Bool.and_eq_true,decide_eq_true_eq];omega
  simp only[List.length_cons]at hro
  simp only[List.map_cons]at this
  simp[cloneO,this,hro]
theorem e197 (h:Std pg){l:List Node}(hl:l≠[])(hs:l.length<2 ^ 20):E pg 197 [.p (.sl (l.map Node.enc))] []=some (.ret (.arr 0 l.length 1),[.arr 6 (l.map Node.enc) 1 0]):=by
 refine E_orc h.o197 _ ?_
 cases l with
 |nil=>exact absurd rfl hl
 |cons a r =>
  have:=okRows_enc okNode (a::r)
  have hro:roomy (a::r).length 88=true:=by simp only[roomy,Bool.and_eq_true,decide_eq_true_eq];omega
  simp only[List.length_cons]at hro
  simp only[List.map_cons]at this
  simp[cloneO,this,hro]
theorem e193 (h:Std pg){l:List (List UInt8×Nat)}(hl:l.length<2 ^ 20):E pg 193 [.p (.sl (l.map encAr))] []=some (.ret (.p (.sl (l.map encAr))),[]):=by
 refine E_orc h.o193 _ ?_
 have h1:=okRows_enc (sz:=2) (f:=encAr) (fun a=>by simp[encAr,okRow,PV.flat]) l
 have h2:roomy (l.map encAr).length 24=true:=by simp only[roomy,Bool.and_eq_true,decide_eq_true_eq,List.length_map];omega
 simp only[cloneP,h1,h2,Bool.and_self,if_true]
theorem Std.k196 (h:Std pg):keepA pg 196=false:=by
 unfold keepA;rw[h.code];rfl
theorem Std.k197 (h:Std pg):keepA pg 197=false:=by
 unfold keepA;rw[h.code];rfl
theorem Std.k193 (h:Std pg):keepA pg 193=false:=by
 unfold keepA;rw[h.code];rfl
theorem s195 (h:Std pg){n:Net}{p q:Port}(hp:n.hasT p) :
  E pg 195 [.ag [.p (.sl (n.nodes.map Node.enc)),.p (.i .i64 n.cap)],.ag [.p (.i .i64 p.node),.p (.i .i64 p.slot)],.ag [.p (.i .i64 q.node),.p (.i .i64 q.slot)]] []=some (.ret (.ag [.p (.sl ((n.put p q).nodes.map Node.enc)),.p (.i .i64 (n.put p q).cap)]),[]):=by
 obtain ⟨⟨x,h1,h2⟩,ht1,ht2⟩:=hp
 have ht2:=ht2 _ x h1
 have h3:p.node<n.nodes.length:=(gE h1).1
 have hx:x.to≠[]:=by intro e;rw[e]at h2;simp at h2
 have hn:n.nodes≠[]:=by intro e;rw[e]at h3;simp at h3
 have h5:n.nodes[p.node]=x:=(gE h1).2
 have h4:x.to[p.slot]?=some x.to[p.slot]:=gG h2
 rw[h.run (x:=c195) rfl (by decide) (by decide) (by decide) (by decide)]
 rw[Net.put_nodes h1,Net.put_cap]
 simp[c195,leave,h1,h2,h3,h4,h5,Node.enc,Port.enc,okRow,eCA,h.k196,h.k197,e196 h hx ht2,e197 h hn ht1,gc,gcEnv,exp,expL,eOs,Exp.id,idxOf,List.range,List.range.loop,Out.back,back,backL,backId,backObj,setAll,normP,toP,toPL,List.map_set,Node.setTo]
 rw[List.take_of_length_le (by simp),List.take_of_length_le (by simp)]
theorem s192 (h:Std pg){n:Net}{p q:Port}(hp:n.hasT p)(hq:n.has q)(hne:p≠q) :
  E pg 192 [.ag [.p (.sl (n.nodes.map Node.enc)),.p (.i .i64 n.cap)],.ag [.p (.i .i64 p.node),.p (.i .i64 p.slot)],.ag [.p (.i .i64 q.node),.p (.i .i64 q.slot)]] []=some (.ret (.tup [.ag [.p (.sl ((n.link p q).nodes.map Node.enc)),.p (.i .i64 (n.link p q).cap)],.p (.i .i64 0)]),[]):=by
 have e1:(decide (p.node=q.node) && decide (p.slot=q.slot))=false:=by
  cases p;cases q;simpa using hne
 rw[h.run (x:=c192) rfl (by decide) (by decide) (by decide) (by decide)]
 simp[c192,leave,Int.natCast_inj,evOp.fillRows,eCA,gc,gcEnv,exp,expL,eOs,Exp.id,idxOf,List.range,List.range.loop,normP,toP,toPL,okRow,s138b h hp.1 hq,(show keepA pg 138=false from h.keep (x:=c138) rfl),e1,s195 h hp,s195 h (⟨Net.put_has.2 hq,hp.2.put p q⟩:(n.put p q).hasT q),(show keepA pg 195=false from h.keep (x:=c195) rfl),Out.back,back,backL,backId,backObj,setAll,Net.link]
theorem s191 (h:Std pg){n:Net}{p q:Port}(hp:n.hasT p)(hq:n.has q)(hne:p≠q) :
  E pg 191 [.ag [.p (.sl (n.nodes.map Node.enc)),.p (.i .i64 n.cap)],.ag [.p (.i .i64 p.node),.p (.i .i64 p.slot)],.ag [.p (.i .i64 q.node),.p (.i .i64 q.slot)]] []=some (.ret (.tup [.ag [.p (.sl ((n.link p q).nodes.map Node.enc)),.p (.i .i64 (n.link p q).cap)],.p (.i .i64 0)]),[]):=by
 rw[h.run (x:=c191) rfl (by decide) (by decide) (by decide) (by decide)]
 simp[c191,leave,eCA,gc,gcEnv,exp,expL,eOs,Exp.id,idxOf,List.range,List.range.loop,s192 h hp hq hne,(show keepA pg 192=false from h.keep (x:=c192) rfl),Out.back,back,backL,backId,backObj,setAll]
theorem s183 (h:Std pg){n:Net}{p q:Port}(hp:n.hasT p)(hq:n.has q)(hr:n.has (n.pr p))(hne:p≠q) :
  E pg 183 [.ag [.p (.sl (n.nodes.map Node.enc)),.p (.i .i64 n.cap)],.ag [.p (.i .i64 p.node),.p (.i .i64 p.slot)],.ag [.p (.i .i64 q.node),.p (.i .i64 q.slot)]] []=some (.ret (.tup [.ag [.p (.sl ((n.move p q).nodes.map Node.enc)),.p (.i .i64 (n.move p q).cap)],.p (.i .i64 0)]),[]):=by
 have e1:(decide (p.node=q.node) && decide (p.slot=q.slot))=false:=by
  cases p;cases q;simpa using hne
 rw[h.run (x:=c183) rfl (by decide) (by decide) (by decide) (by decide)]
 by_cases hpq:n.pr p=q
 ·subst hpq
  simp[c183,leave,Int.natCast_inj,evOp.fillRows,eCA,gc,gcEnv,exp,expL,eOs,Exp.id,idxOf,List.range,List.range.loop,normP,toP,toPL,okRow,s138b h hp.1 hq,s138a h hr,s139 h hp.1,(show keepA pg 138=false from h.keep (x:=c138) rfl),(show keepA pg 139=false from h.keep (x:=c139) rfl),e1,Out.back,back,backL,backId,backObj,setAll,Net.move]
 ·have e2:(decide ((n.pr p).node=q.node) && decide ((n.pr p).slot=q.slot))=false:=by
   revert hpq
   cases n.pr p;cases q;simp
  simp[c183,leave,Int.natCast_inj,evOp.fillRows,eCA,gc,gcEnv,exp,expL,eOs,Exp.id,idxOf,List.range,List.range.loop,normP,toP,toPL,okRow,s138b h hp.1 hq,s138a h hr,s139 h hp.1,s192 h ⟨hq,hp.2⟩ hr (fun e=>hpq e.symm),(show keepA pg 138=false from h.keep (x:=c138) rfl),(show keepA pg 139=false from h.keep (x:=c139) rfl),(show keepA pg 192=false from h.keep (x:=c192) rfl),e1,e2,Out.back,back,backL,backId,backObj,setAll,Net.move,hpq]
theorem s190 (h:Std pg){n:Net}{p q:Port}(hp:n.hasT p)(hq:n.has q)(hr:n.has (n.pr p))(hs:n.has (n.pr q))(hne:p≠q)(hrs:n.pr p≠q→n.pr p≠n.pr q) :
  E pg 190 [.ag [.p (.sl (n.nodes.map Node.enc)),.p (.i .i64 n.cap)],.ag [.p (.i .i64 p.node),.p (.i .i64 p.slot)],.ag [.p (.i .i64 q.node),.p (.i .i64 q.slot)]] []=some (.ret (.tup [.ag [.p (.sl ((n.join p q).nodes.map Node.enc)),.p (.i .i64 (n.join p q).cap)],.p (.i .i64 0)]),[]):=by
 have e1:(decide (p.node=q.node) && decide (p.slot=q.slot))=false:=by
  cases p;cases q;simpa using hne
 rw[h.run (x:=c190) rfl (by decide) (by decide) (by decide) (by decide)]
 by_cases hpq:n.pr p=q
 ·subst hpq
  simp[c190,leave,Int.natCast_inj,evOp.fillRows,eCA,gc,gcEnv,exp,expL,eOs,Exp.id,idxOf,List.range,List.range.loop,normP,toP,toPL,okRow,s138b h hp.1 hq,s138b h hr hs,s139 h hp.1,s139 h hq,(show keepA pg 138=false from h.keep (x:=c138) rfl),(show keepA pg 139=false from h.keep (x:=c139) rfl),e1,Out.back,back,backL,backId,backObj,setAll,Net.join]
 ·have e2:(decide ((n.pr p).node=q.node) && decide ((n.pr p).slot=q.slot))=false:=by
   revert hpq
   cases n.pr p;cases q;simp
  simp[c190,leave,Int.natCast_inj,evOp.fillRows,eCA,gc,gcEnv,exp,expL,eOs,Exp.id,idxOf,List.range,List.range.loop,normP,toP,toPL,okRow,s138b h hp.1 hq,s138b h hr hs,s139 h hp.1,s139 h hq,s192 h ⟨hr,hp.2⟩ hs (hrs hpq),(show keepA pg 138=false from h.keep (x:=c138) rfl),(show keepA pg 139=false from h.keep (x:=c139) rfl),(show keepA pg 192=false from h.keep (x:=c192) rfl),e1,e2,Out.back,back,backL,backId,backObj,setAll,Net.join,hpq]
end Go.Proofs.Z
end
