/- A part of the proof. -/
import Derived.Test.YtffohgbmjjbhiaaGreatA08
set_option linter.all false
section
namespace Go.Proofs.Z
open Go Go.Proofs
attribute [local simp] k_nil k_ops k_opsg kG_true kG_false kO_val kO_pan k_seq kS_n kS_r kS_e kS_p k_o kR_n kR_p kD2_n kD1_n k_d k_c kC_t kC_f k_b kB_n kB_r kB_p kB_e k_skip k_ret k_exit k_l kL_s kLp_n kLp_r kLp_e kLp_p k_f kF_n kF_r kF_p kV_f kV_t kN_s evOp evBin gOK opd opds lk put restr iEv evRes whole norm normL one Out.below below belowL bOb evStore evLoad evLen AV.cells AV.flat PV.flat splice fillAt pcs isStr rowsOf Res.of evCmp lvE leafEq asInt noIdAt noId noIdL tids chkOK
variable {pg:Prg}{G:Heap}
def allI {α:Type}(q:Nat→α→Bool):Nat→List α→Bool
 |_,[]=>true
 |i,x::r=>q i x && allI q (i+1) r
theorem allI_all {α:Type}(q:α→Bool):∀ (l:List α) (i:Nat),allI (fun _ x=>q x) i l=l.all q
 |[],i=>rfl
 |x::r,i=>by simp[allI,allI_all q r (i+1)]
theorem L_from {α:Type}{base:Nat}{live:List Nat}{body c:CCode}(hb:body=c)(e:Nat→Env)(H H':Heap)(l:List α)(k:Nat)(q:Nat→α→Bool)(r x:Env)
  (h1:∀ (i:Nat) (a:α) (hi:i<l.length),l[i]?=some a→l[i]=a→q i a=true→kLp pg base live body (evCode pg (E pg) (L pg) base c (e i) H)=L pg base live body (e (i+1)) H)
  (h2:∀ (i:Nat) (a:α) (hi:i<l.length),l[i]?=some a→l[i]=a→q i a=false→kLp pg base live body (evCode pg (E pg) (L pg) base c (e i) H)=some (.ret,r,H'))
  (h3:kLp pg base live body (evCode pg (E pg) (L pg) base c (e l.length) H)=some (.exit k,x,H)) :
  ∀ m i,i+m=l.length→L pg base live body (e i) H=bif allI q i (l.drop i) then some (.exit k,x,H) else some (.ret,r,H')
 |0,i,hi=>by
  have:i=l.length:=by omega
  subst this
  rw[k_L hb,h3]
  simp[allI]
 |m+1,i,hi=>by
  have hlt:i<l.length:=by omega
  have hd:l.drop i=l[i]::l.drop (i+1):=List.drop_eq_getElem_cons hlt
  rw[k_L hb,hd]
  simp only[allI]
  cases hp:q i l[i] with
  |true =>
   rw[h1 i l[i] hlt (gG hlt) rfl hp,L_from hb e H H' l k q r x h1 h2 h3 m (i+1) (by omega)]
   rfl
  |false =>
   rw[h2 i l[i] hlt (gG hlt) rfl hp]
   rfl
theorem L_list {α:Type}{base:Nat}{live:List Nat}{body c:CCode}(hb:body=c)(e:Nat→Env)(H H':Heap)(l:List α)(k:Nat)(q:Nat→α→Bool)(r x:Env)
  (h1:∀ (i:Nat) (a:α) (hi:i<l.length),l[i]?=some a→l[i]=a→q i a=true→kLp pg base live body (evCode pg (E pg) (L pg) base c (e i) H)=L pg base live body (e (i+1)) H)
  (h2:∀ (i:Nat) (a:α) (hi:i<l.length),l[i]?=some a→l[i]=a→q i a=false→kLp pg base live body (evCode pg (E pg) (L pg) base c (e i) H)=some (.ret,r,H'))
  (h3:kLp pg base live body (evCode pg (E pg) (L pg) base c (e l.length) H)=some (.exit k,x,H)) :
  L pg base live body (e 0) H=bif allI q 0 l then some (.exit k,x,H) else some (.ret,r,H') :=
 L_from hb e H H' l k q r x h1 h2 h3 l.length 0 (by omega)
theorem L_fromE {α:Type}{base:Nat}{live:List Nat}{body c:CCode}(hb:body=c)(e:Nat→Env)(H:Heap)(l:List α)(k:Nat)(q:Nat→α→Bool)(r x:Env)
  (h1:∀ (i:Nat) (a:α) (hi:i<l.length),l[i]?=some a→l[i]=a→q i a=true→kLp pg base live body (evCode pg (E pg) (L pg) base c (e i) H)=L pg base live body (e (i+1)) H)
  (h2:∀ (i:Nat) (a:α) (hi:i<l.length),l[i]?=some a→l[i]=a→q i a=false→∃ H',kLp pg base live body (evCode pg (E pg) (L pg) base c (e i) H)=some (.ret,r,H'))
  (h3:kLp pg base live body (evCode pg (E pg) (L pg) base c (e l.length) H)=some (.exit k,x,H)) :
  ∀ m i,i+m=l.length→∃ H',L pg base live body (e i) H=bif allI q i (l.drop i) then some (.exit k,x,H) else some (.ret,r,H')
 |0,i,hi=>by
  have:i=l.length:=by omega
  subst this
  rw[k_L hb,h3]
  exact ⟨[],by simp[allI]⟩
 |m+1,i,hi=>by
  have hlt:i<l.length:=by omega
  have hd:l.drop i=l[i]::l.drop (i+1):=List.drop_eq_getElem_cons hlt
  rw[k_L hb,hd]
  simp only[allI]
  cases hp:q i l[i] with
  |true =>
   rw[h1 i l[i] hlt (gG hlt) rfl hp]
   exact L_fromE hb e H l k q r x h1 h2 h3 m (i+1) (by omega)
  |false =>
   obtain ⟨H',hH⟩:=h2 i l[i] hlt (gG hlt) rfl hp
   exact ⟨H',by rw[hH];rfl⟩
theorem L_listE {α:Type}{base:Nat}{live:List Nat}{body c:CCode}(hb:body=c)(e:Nat→Env)(H:Heap)(l:List α)(k:Nat)(q:Nat→α→Bool)(r x:Env)
  (h1:∀ (i:Nat) (a:α) (hi:i<l.length),l[i]?=some a→l[i]=a→q i a=true→kLp pg base live body (evCode pg (E pg) (L pg) base c (e i) H)=L pg base live body (e (i+1)) H)
  (h2:∀ (i:Nat) (a:α) (hi:i<l.length),l[i]?=some a→l[i]=a→q i a=false→∃ H',kLp pg base live body (evCode pg (E pg) (L pg) base c (e i) H)=some (.ret,r,H'))
  (h3:kLp pg base live body (evCode pg (E pg) (L pg) base c (e l.length) H)=some (.exit k,x,H)) :
  ∃ H',L pg base live body (e 0) H=bif allI q 0 l then some (.exit k,x,H) else some (.ret,r,H') :=
 L_fromE hb e H l k q r x h1 h2 h3 l.length 0 (by omega)
structure RNode where
 kind:Int
 lev:Int
 n:Int
 name:List UInt8
 alts:List (List UInt8×Int)
 to:List (Int×Int)
def rAr (a:List UInt8×Int):List PV:=[.s a.1,iv a.2]
def rPt (p:Int×Int):List PV:=[iv p.1,iv p.2]
def RNode.enc (x:RNode):List PV:=[iv x.kind,iv x.lev,iv x.n,.s x.name,.sl (x.alts.map rAr),.sl (x.to.map rPt)]
theorem okRAr (a:List UInt8×Int):okRow 2 (rAr a)=true:=by simp[rAr,okRow,PV.flat]
theorem okRPt (a:Int×Int):okRow 2 (rPt a)=true:=by simp[rPt,okRow,PV.flat]
theorem okRNode (a:RNode):okRow 6 a.enc=true:=by simp[RNode.enc,okRow,PV.flat]
def rsmall (l:List RNode)(most:Int):Bool:=(l.all fun x=>decide (x.to.length≤12∧x.alts.length≤12)) && decide ((l.length:Int)≤most)
theorem t9 (h:Std pg)(l:List RNode)(C most:Int)(hl:l.length<2 ^ 63) :
  eCA pg (E pg) 9 [.ag [.p (.sl (l.map RNode.enc)),.p (.i .i64 C)],.p (.i .i64 most)] G=some (.ret (.p (.b (rsmall l most))),G):=by
 refine at_pure ?_ rfl rfl
 rw[h.run (x:=c9) rfl (by decide) (by decide) (by decide) (by decide)]
 have hL:=L_list (pg:=pg) (base:=0) (live:=[1,2,5]) (body:=c9l0) rfl (fun i=>[(1,.p (.i .i64 most)),(2,.ptr 0 0),(5,.p (.i .i64 (i:Nat)))]) [.box [.p (.sl (l.map RNode.enc)),.p (.i .i64 C)]] [.box [.p (.sl (l.map RNode.enc)),.p (.i .i64 C)]]
  l 0 (fun _ x=>decide (x.to.length≤12∧x.alts.length≤12)) [(4,.p (.b false))] [(1,.p (.i .i64 most)),(2,.ptr 0 0),(5,.p (.i .i64 l.length)),(10,.p (.b false))]
  (fun i a hi hx hx' hp=>by
   simp only[decide_eq_true_eq]at hp
   have a1:¬ (12:Int)<(a.to.length:Int):=by omega
   have a2:¬ (12:Int)<(a.alts.length:Int):=by omega
   have e1:=okRNode a
   simp only[RNode.enc]at e1
   simp[c9l0,leave,hi,hx,hx',RNode.enc,e1,eq_false a1,eq_false a2,w64 ((i:Int)+1) (by omega) (by omega),gc,gcEnv,exp,expL,eOs,Exp.id,idxOf,List.range,List.range.loop])
  (fun i a hi hx hx' hp=>by
   simp only[decide_eq_false_iff_not]at hp
   have e1:=okRNode a
   simp only[RNode.enc]at e1
   by_cases a1:(12:Int)<(a.to.length:Int)
   ·simp[c9l0,leave,hi,hx,hx',RNode.enc,e1,eq_true a1]
   ·have a2:(12:Int)<(a.alts.length:Int):=by omega
    simp[c9l0,leave,hi,hx,hx',RNode.enc,e1,eq_false a1,eq_true a2])
  (by simp[c9l0,leave])
 simp only[show ((0:Nat):Int)=0 from rfl,allI_all]at hL
 simp[c9,leave,gc,gcEnv,exp,expL,eOs,Exp.id,idxOf,List.range,List.range.loop]
 rw[hL]
 unfold rsmall
 cases l.all fun x=>decide (x.to.length≤12∧x.alts.length≤12)<;>simp[leave]
end Go.Proofs.Z
end
