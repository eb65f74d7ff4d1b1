/- A part of the proof. -/
import Derived.Test.YtffohgbmjjbhiaaGreatA04
import Derived.LoopN
import Derived.Test.YtffohgbmjjbhiaaGreatA00
import Derived.Laws.Sem
import Derived.KernelRfl
set_option linter.all false
section
namespace Go.Proofs.Z
open Go
def filt (pend:Nat→Bool)(env:Env):Env:=env.filter fun p=>!pend p.1
theorem lk_filt (pend:Nat→Bool):∀ (env:Env) (t:Nat),lk (filt pend env) t=if pend t=true then none else lk env t
 |[],t=>by simp[filt,lk]
 |(k,v)::r,t=>by
  have ih:=lk_filt pend r t
  unfold filt at ih ⊢
  rw[List.filter_cons]
  by_cases hp:pend k=true
  ·simp only[hp,Bool.not_true,Bool.false_eq_true,if_false]
   rw[ih]
   simp only[lk]
   by_cases e:k=t
   ·subst e;simp[hp]
   ·simp[e]
  ·simp only[hp,Bool.not_false,if_true,lk]
   by_cases e:k=t
   ·subst e;simp[hp]
   ·simp only[e,if_false];exact ih
section
variable {P:Program}{pg:Prg}{call:CallF}{N:Nat}{ops:Array Oper}{E:Ent}{l:List CI}{T:List (List Nat)}{chk:List Chk}
def unl (listed:Array Bool)(n k:Nat):Bool:=Nat.blt k n && !listed.getD k true
def remR (l:List CI)(listed:Array Bool):List Nat:=(List.range l.length).filter fun k=>unl listed l.length k && !at' l isNew k
def isPend (l:List CI)(listed:Array Bool)(t:Nat):Prop:=∃ q d cells,unl listed l.length q=true∧l[q]?=some ⟨some d,.new cells,none⟩∧t=d
structure St (pg:Prg)(call:CallF)(N:Nat)(ops:Array Oper)(E:Ent)(l:List CI)(af:List (List Nat))(L:Nat)(pid:Nat→Nat)(F:Env)(GF:Heap)(listed:Array Bool)(a:Act)(w:World)
  (env:Env) (G:Heap) (m:Mem) (μ:Mu):Prop where
 size:listed.size=l.length
 down:∀ k,k<l.length→listed.getD k true=true→∀ e,e∈af.getD k []→listed.getD e true=true
 ev:∃ F',evN pg call (pickL l (remR l listed)) env G=some (F',GF)∧LkEq F' F
 inv:Inv m μ G w
 tmps:N≤a.tmps.size
 val:∀ t x,lk env t=some x→¬ isPend l listed t→R m μ (inf G) (a.tmps.getD t undef) x
 dfr:a.defers=E.ds
 pend:∀ q d cells,unl listed l.length q=true→l[q]?=some ⟨some d,.new cells,none⟩→lk env d=some (.ptr (pid q) 0)∧μ (pid q)=none∧G[pid q]?=some (.box cells)∧cells.all AV.flat=true
 named:∀ id,id<G.length→μ id=none→∃ q,unl listed l.length q=true∧at' l isNew q=true∧pid q=id
 ext:Ext E.m E.μ E.G m μ G
 fr:Fr E.m E.μ E.w m μ w
 low:L≤G.length
theorem unl_set {listed:Array Bool}{n i k:Nat}(hs:listed.size=n)(hi:i<n):unl (listed.setIfInBounds i true) n k=(unl listed n k && !Nat.beq k i):=by
 unfold unl
 by_cases e:k=i
 ·subst e
  have:k<listed.size:=by omega
  simp[this]
 ·rw[getD_set_ne true (Ne.symm e)]
  have:Nat.beq k i=false:=by
   cases h:Nat.beq k i with
   |false=>rfl
   |true=>exact absurd (Nat.eq_of_beq_eq_true h) e
  simp[this]
theorem St.done {af:List (List Nat)}{L:Nat}{pid:Nat→Nat}{F:Env}{GF:Heap}{listed:Array Bool}{a:Act}{w:World}{env:Env}{G:Heap}{m:Mem}{μ:Mu}(h:St pg call N ops E l af L pid F GF listed a w env G m μ)
  (hall:∀ k,unl listed l.length k=false):Pt N E GF F a w m μ:=by
 have hr:remR l listed=[]:=by
  unfold remR
  rw[List.filter_eq_nil_iff]
  intro k hk
  simp[hall k]
 obtain ⟨F',h1,h2⟩:=h.ev
 rw[hr]at h1
 simp[pickL,evN]at h1
 obtain ⟨rfl,rfl⟩:=h1
 have hnp:∀ t,¬ isPend l listed t:=by
  rintro t ⟨q,d,cells,hq,_⟩
  rw[hall q]at hq
  cases hq
 refine ⟨h.inv,⟨h.tmps,fun k x hk=>h.val k x (by rw[h2 k];exact hk) (hnp k)⟩,h.dfr,fun id hid=>?_,h.ext,h.fr⟩
 cases hμ:μ id with
 |some loc=>exact ⟨loc,rfl⟩
 |none =>
  obtain ⟨q,hq,_⟩:=h.named id hid hμ
  rw[hall q]at hq
  cases hq
theorem least {p:Nat→Bool}:∀ (n:Nat),(∃ k,k<n∧p k=true)→∃ k,k<n∧p k=true∧∀ j,j<k→p j=false
 |0,⟨k,h,_⟩=>by omega
 |n+1,⟨k,h,hp⟩=>by
  by_cases hx:∃ k,k<n∧p k=true
  ·obtain ⟨k,h1,h2,h3⟩:=least n hx
   exact ⟨k,by omega,h2,h3⟩
  ·have hk:k=n:=by
    by_cases e:k=n
    ·exact e
    ·exact absurd ⟨k,by omega,hp⟩ hx
   subst hk
   refine ⟨k,h,hp,fun j hj=>?_⟩
   cases hpj:p j with
   |false=>rfl
   |true=>exact absurd ⟨j,hj,hpj⟩ hx
variable (hlen:l.length=ops.size)(hat:∀ (k:Nat) (o:Oper),ops[k]?=some o→∃ c,l[k]?=some c∧cOper P N ops o=some c)
variable {af:List (List Nat)}(haf:af=ops.toList.map binding)(hfacts:Facts l af T chk)
include hlen hat haf hfacts
theorem af_at {k:Nat}{o:Oper}(ho:ops[k]?=some o):af.getD k []=binding o:=by
 subst haf
 simp[List.getD_eq_getElem?_getD,ho]
theorem ready_af {listed:Array Bool}(hs:listed.size=l.length){i:Nat}:i∈Region.ready .any ops listed↔unl listed l.length i=true∧∀ e,e∈af.getD i []→listed.getD e true=true:=by
 rw[mem_ready]
 constructor
 ·rintro ⟨h0,o,ho,h⟩
  have hi:i<l.length:=by rw[hlen];exact (Array.getElem?_eq_some_iff.1 ho).1
  refine ⟨by simp[unl,h0,hi],fun e he=>?_⟩
  rw[af_at hlen hat haf hfacts ho]at he
  simp only[binding,List.mem_map,List.mem_filter]at he
  obtain ⟨ed,⟨h1,h2⟩,rfl⟩:=he
  have:=h ed (by simpa using h1) h2
  by_cases hlt:ed.on<listed.size
  ·simpa [Array.getD_eq_getD_getElem?,hlt] using this
  ·simp[Array.getD_eq_getD_getElem?,hlt]at this
 ·rintro ⟨h0,h⟩
  simp only[unl,Bool.and_eq_true,Nat.blt_eq,Bool.not_eq_true']at h0
  obtain ⟨hi,h0⟩:=h0
  have ho:=Array.getElem?_eq_getElem (xs:=ops) (i:=i) (by omega)
  refine ⟨h0,_,ho,fun ed hed hb=>?_⟩
  have hm:ed.on∈af.getD i []:=by
   rw[af_at hlen hat haf hfacts ho]
   simp only[binding,List.mem_map,List.mem_filter]
   exact ⟨ed,⟨by simpa using hed,hb⟩,rfl⟩
  have h1:=h _ hm
  have h2:=hfacts.e1 i hi _ hm
  have hlt:ed.on<listed.size:=by omega
  simpa [Array.getD_eq_getD_getElem?,hlt] using h1
theorem before_done {listed:Array Bool}(hdown:∀ k,k<l.length→listed.getD k true=true→∀ e,e∈af.getD k []→listed.getD e true=true) :
  ∀ (i:Nat),i<l.length→(∀ e,e∈af.getD i []→listed.getD e true=true)→∀ x,x∈T.getD i []→listed.getD x true=true:=by
 intro i
 induction i using Nat.strongRecOn with
 |_ i ih =>
  intro hi hall x hx
  rcases hfacts.e2 i hi x hx with h|⟨m,hm,hx'⟩
  ·exact hall x h
  ·have hmi:=hfacts.e1 i hi m hm
   exact ih m hmi (by omega) (hdown m (by omega) (hall m hm)) x hx'
theorem any_sound (hR:RoCall pg call)(hC:CallSound P call)(hE:CallEnters P call){Q:Exit→Act→World→Prop}{L:Nat}{pid:Nat→Nat}{F:Env}{GF:Heap}
  (hpid:∀ q q',at' l isNew q=true→at' l isNew q'=true→pid q=pid q'→q=q')
  (hchk:∀ c,c∈chk→chkOK pg F L c=true)
  (hq:∀ a w m μ,Pt N E GF F a w m μ→Q .normal a w):∀ (fuel:Nat) {listed:Array Bool} {a:Act} {w:World} {env:Env} {G:Heap} {m:Mem} {μ:Mu},St pg call N ops E l af L pid F GF listed a w env G m μ →
   ((List.range l.length).filter (unl listed l.length)).length≤fuel→wpAny P .any ops Q fuel listed a w:=by
 intro fuel
 induction fuel with
 |zero =>
  intro listed a w env G m μ hst hfuel
  have hall:∀ k,unl listed l.length k=false:=by
   intro k
   cases hk:unl listed l.length k with
   |false=>rfl
   |true =>
    have hlt:k<l.length:=by simp only[unl,Bool.and_eq_true,Nat.blt_eq]at hk;exact hk.1
    have:k∈(List.range l.length).filter (unl listed l.length):=by simp[hlt,hk]
    have:=List.length_pos_of_mem this
    omega
  refine ⟨?_,hq a w m μ (hst.done hall)⟩
  cases hr:Region.ready .any ops listed with
  |nil=>rfl
  |cons i r =>
   have:i∈Region.ready .any ops listed:=by rw[hr];simp
   rw[ready_af hlen hat haf hfacts hst.size,hall i]at this
   cases this.1
 |succ fuel ih =>
  intro listed a w env G m μ hst hfuel
  refine ⟨fun hr=>?_,fun i hi=>?_⟩
  ·
   refine hq a w m μ (hst.done fun k=>?_)
   cases hk:unl listed l.length k with
   |false=>rfl
   |true =>
    have hlt:k<l.length:=by simp only[unl,Bool.and_eq_true,Nat.blt_eq]at hk;exact hk.1
    obtain ⟨j,h1,h2,h3⟩:=least (p:=unl listed l.length) l.length ⟨k,hlt,hk⟩
    have:j∈Region.ready .any ops listed:=by
     rw[ready_af hlen hat haf hfacts hst.size]
     refine ⟨h2,fun e he=>?_⟩
     have hej:=hfacts.e1 j h1 e he
     have:=h3 e hej
     have hel:e<l.length:=by omega
     cases hx:listed.getD e true with
     |true=>rfl
     |false =>
      have hb:Nat.blt e l.length=true:=Nat.blt_eq.mpr hel
      simp[unl,hb,hx]at this
    rw[hr]at this
    cases this
  ·rw[ready_af hlen hat haf hfacts hst.size]at hi
   obtain ⟨hiu,hia⟩:=hi
   have hilt:i<l.length:=by simp only[unl,Bool.and_eq_true,Nat.blt_eq]at hiu;exact hiu.1
   have hdone:=before_done hlen hat haf hfacts hst.down i hilt hia
   have hout:∀ k,unl listed l.length k=true→k∉af.getD i []∧k∉T.getD i []:=by
    intro k hk
    have hk':listed.getD k true=false:=by simp only[unl,Bool.and_eq_true,Bool.not_eq_true']at hk;exact hk.2
    refine ⟨fun h=>?_,fun h=>?_⟩
    ·rw[hia k h]at hk';cases hk'
    ·rw[hdone k h]at hk';cases hk'
   have ho:=Array.getElem?_eq_getElem (xs:=ops) (i:=i) (by omega)
   obtain ⟨ci,hci,hcoi⟩:=hat i _ ho
   have hsize':(listed.setIfInBounds i true).size=l.length:=by simpa using hst.size
   have hunl':∀ k,unl (listed.setIfInBounds i true) l.length k=(unl listed l.length k && !Nat.beq k i):=fun k=>unl_set hst.size hilt
   have hbeq:∀ k,k≠i→Nat.beq k i=false:=fun k hk=>by
    cases h:Nat.beq k i with
    |false=>rfl
    |true=>exact absurd (Nat.eq_of_beq_eq_true h) hk
   have hbeqi:Nat.beq i i=true:=Nat.beq_refl i
   have hunlt:∀ k,unl (listed.setIfInBounds i true) l.length k=true→unl listed l.length k=true∧k≠i:=fun k hk=>by
    rw[hunl' k]at hk
    simp only[Bool.and_eq_true,Bool.not_eq_true']at hk
    exact ⟨hk.1,fun e=>by subst e;rw[hbeqi]at hk;cases hk.2⟩
   have hunlf:∀ k,unl listed l.length k=true→k≠i→unl (listed.setIfInBounds i true) l.length k=true:=fun k hk hne=>by
    rw[hunl' k,hk,hbeq k hne];rfl
   have hdown':∀ k,k<l.length→(listed.setIfInBounds i true).getD k true=true→∀ e,e∈af.getD k []→(listed.setIfInBounds i true).getD e true=true:=by
    intro k hk hkl e he
    have hmono:∀ x,listed.getD x true=true→(listed.setIfInBounds i true).getD x true=true:=fun x hx=>by
     by_cases ex:i=x
     ·subst ex
      have:i<listed.size:=by rw[hst.size];exact hilt
      simp[this]
     ·rw[getD_set_ne true ex];exact hx
    by_cases ek:k=i
    ·subst ek
     exact hmono e (hia e he)
    ·rw[getD_set_ne true (Ne.symm ek)]at hkl
     exact hmono e (hst.down k hk hkl e he)
   have hfuel':((List.range l.length).filter (unl (listed.setIfInBounds i true) l.length)).length≤fuel:=by
    rw[range_split hilt _ hiu]at hfuel
    rw[range_split_off hilt (unl listed l.length) (unl (listed.setIfInBounds i true) l.length) (by rw[hunl',hbeqi];simp) (fun k hk=>by rw[hunl',hbeq k hk];simp)]
    simp only[List.length_append,List.length_cons]at hfuel ⊢
    omega
   unfold wpOp
   rw[ho]
   dsimp only
   by_cases hnew:isNew ci=true
   ·
    obtain ⟨d,cells,rfl⟩:=isNew_inv hnew
    obtain ⟨c1,c2,c3,c4⟩:=cOper_inv hcoi
    dsimp only at c1 c2 c4
    obtain ⟨TT,hT,hz⟩:=cOp_new c1
    obtain ⟨p1,p2,p3,p4⟩:=hst.pend i d cells hiu hci
    have hw:Region.wanted ops[i] (yielded ops a.tmps)=true:=by
     rcases c4 with ⟨g1,_⟩|⟨j,w',d',_,_,g3⟩
     ·simp[Region.wanted,g1]
     ·cases g3
    rw[hw]
    simp only[if_true]
    left
    obtain ⟨vs,hvs,hrun⟩:=alloc_run (P:=P) (a:=a) hT hz p4 w
    refine wp_of_val hrun ?_
    obtain ⟨n1,n2,n3,n4⟩:=newAt hst.inv p3 p2 TT hvs p4
    refine ih (env:=env) (G:=G) (m:=m) (μ:=fun k=>if k=pid i then some ⟨w.heap.size,0⟩ else μ k) ⟨hsize',hdown',?_,n1,?_,?_,?_,?_,?_,?_,?_,hst.low⟩ hfuel'
    ·have:remR l (listed.setIfInBounds i true)=remR l listed:=by
      unfold remR
      refine List.filter_congr fun k hk=>?_
      by_cases e:k=i
      ·subst e
       have:at' l isNew k=true:=by simp[at',hci,hnew]
       simp[this]
      ·rw[hunl',hbeq k e];simp
     rw[this]
     exact hst.ev
    ·rw[← c2];simp[Act.put];exact hst.tmps
    ·intro t x hx hnp
     rw[← c2]
     by_cases e:t=d
     ·subst e
      rw[p1]at hx
      cases hx
      have hd':t<N:=by rw[← c2]at c3;simpa [dstOK,Nat.blt_eq] using c3
      have hts:t<a.tmps.size:=Nat.lt_of_lt_of_le hd' hst.tmps
      simpa [Act.put,hts] using n4
     ·have hold:¬ isPend l listed t:=by
       rintro ⟨q,d',cells',hqu,hql,rfl⟩
       by_cases eq:q=i
       ·subst eq
        rw[hci]at hql
        cases hql
        exact e rfl
       ·exact hnp ⟨q,t,cells',hunlf q hqu eq,hql,rfl⟩
      have hr:=(hst.val t x hx hold).mono n2
      simpa [Act.put,Array.getD_eq_getD_getElem?,Array.getElem?_setIfInBounds,Ne.symm e] using hr
    ·rw[Act.put_dfr];exact hst.dfr
    ·intro q d' cells' hqu hql
     obtain ⟨hqu',hne⟩:=hunlt q hqu
     obtain ⟨b1,b2,b3,b4⟩:=hst.pend q d' cells' hqu' hql
     refine ⟨b1,?_,b3,b4⟩
     have:pid q≠pid i:=fun e=>hne (hpid q i (by simp[at',hql,isNew]) (by simp[at',hci,hnew]) e)
     simp[this,b2]
    ·intro id hid hn
     split at hn
     ·cases hn
     ·rename_i hne
      obtain ⟨q,b1,b2,b3⟩:=hst.named id hid hn
      refine ⟨q,hunlf q b1 (fun e=>?_),b2,b3⟩
      subst e
      exact hne b3.symm
    ·exact hst.ext.trans n2
    ·exact hst.fr.trans n3
   ·
    have hnew':isNew ci=false:=by simpa using hnew
    have hfi:(fun k=>unl listed l.length k && !at' l isNew k) i=true:=by simp[hiu,at',hci,hnew']
    have hsplit:remR l listed=(List.range i).filter (fun k=>unl listed l.length k && !at' l isNew k)++i::(List.range' (i+1) (l.length-i-1)).filter (fun k=>unl listed l.length k && !at' l isNew k):=range_split hilt _ hfi
    have hoff:remR l (listed.setIfInBounds i true)=(List.range i).filter (fun k=>unl listed l.length k && !at' l isNew k)++(List.range' (i+1) (l.length-i-1)).filter (fun k=>unl listed l.length k && !at' l isNew k) :=
     range_split_off hilt _ _ (by rw[hunl',hbeqi];simp) (fun k hk=>by rw[hunl',hbeq k hk];simp)
    generalize hp:(List.range i).filter (fun k=>unl listed l.length k && !at' l isNew k)=p at hsplit hoff
    generalize hqq:(List.range' (i+1) (l.length-i-1)).filter (fun k=>unl listed l.length k && !at' l isNew k)=q at hsplit hoff
    have hpm:∀ j,j∈p→j<i∧unl listed l.length j=true∧at' l isNew j=false:=by
     intro j hj
     rw[← hp]at hj
     simp at hj
     exact hj
    have hqm:∀ j,j∈q→i<j∧unl listed l.length j=true∧at' l isNew j=false:=by
     intro j hj
     rw[← hqq]at hj
     simp[List.mem_range'_1]at hj
     obtain ⟨⟨h1,h2⟩,h3⟩:=hj
     exact ⟨by omega,h3⟩
    have hps:p.Pairwise (·<·):=by rw[← hp];exact List.Pairwise.filter _ List.pairwise_lt_range
    have hnat:∀ {k:Nat} {c:CI},l[k]?=some c→at' l isNew k=isNew c:=fun h=>by simp[at',h]
    obtain ⟨F',hev,hF⟩:=hst.ev
    rw[hsplit,pickL_append,pickL_cons hci]at hev
    have hreads:isSilent (kindOf ci.o)=false→∀ t,t∈ciReads ci→∀ k ck,unl listed l.length k=true→l[k]?=some ck→ck.d≠some t:=by
     intro hs t ht k ck hk hck e
     rcases hfacts.e4 i k ci ck t hci hck e ht with ⟨_,h2⟩|⟨_,_,h3,_⟩
     ·exact (hout k hk).1 h2
     ·rw[hs]at h3;cases h3
    have hstab:Stable ci (pickL l p++ci::pickL l q):=by
     intro hs t ht c' hc'
     simp only[List.mem_append,List.mem_cons]at hc'
     rcases hc' with h|rfl|h
     ·obtain ⟨k,hk,hck⟩:=mem_pickL h
      exact hreads hs t ht k c' (hpm k hk).2.1 hck
     ·exact hreads hs t ht i c' hiu hci
     ·obtain ⟨k,hk,hck⟩:=mem_pickL h
      exact hreads hs t ht k c' (hqm k hk).2.1 hck
    have hfree:∀ j,j∈pickL l p→Free pg F' L j ci:=by
     intro cj hj
     obtain ⟨j,hjp,hcj⟩:=mem_pickL hj
     obtain ⟨hji,hju,hjn⟩:=hpm j hjp
     refine ⟨fun d hd=>hfacts.e3 i j ci cj d (by omega) hci hcj hd,fun d hd hr=>?_,fun d hd hr=>?_,?_⟩
     ·rcases hfacts.e4 i j ci cj d hci hcj hd hr with ⟨_,h2⟩|⟨h1,_⟩
      ·exact (hout j hju).1 h2
      ·omega
     ·rcases hfacts.e4 j i cj ci d hcj hci hd hr with ⟨h1,_⟩|⟨_,h2,_⟩
      ·omega
      ·exact (hout j hju).2 h2
     ·rcases hfacts.e5 j i cj ci hji hcj hci (by rw[← hnat hcj];exact hjn) hnew' with h|⟨cs,h1,h2⟩
      ·exact absurd h (hout j hju).2
      ·exact ⟨cs,h1,fun c hc=>by rw[chkOK_congr (F:=F) (fun t _=>hF t)];exact hchk c (h2 c hc)⟩
    have hstabp:∀ a' j b,pickL l p=a'++j::b→Stable j (j::b++ci::pickL l q):=by
     intro a' cj b hab hs t ht c' hc' e
     have hsplitp:∃ p1 j p2,p=p1++j::p2∧l[j]?=some cj∧pickL l p2=b:=by
      clear hsplit hoff hev hstab hfree hp hps
      revert a' p
      intro p
      induction p with
      |nil=>intro _ a' h;simp[pickL]at h
      |cons x p ihp =>
       intro hpm' a' h
       cases hx:l[x]? with
       |none =>
        have:pickL l (x::p)=pickL l p:=by simp[pickL,hx]
        rw[this]at h
        obtain ⟨p1,j,p2,rfl,h2,h3⟩:=ihp (fun j hj=>hpm' j (by simp[hj])) a' h
        exact ⟨x::p1,j,p2,rfl,h2,h3⟩
       |some cx =>
        rw[pickL_cons hx]at h
        cases a' with
        |nil =>
         simp at h
         exact ⟨[],x,p,rfl,by rw[hx,h.1],h.2⟩
        |cons y a' =>
         simp at h
         obtain ⟨p1,j,p2,rfl,h2,h3⟩:=ihp (fun j hj=>hpm' j (by simp[hj])) a' h.2
         exact ⟨x::p1,j,p2,rfl,h2,h3⟩
     obtain ⟨p1,j,p2,hpp,hcj,hb⟩:=hsplitp
     have hji:j<i:=(hpm j (by rw[hpp];simp)).1
     have hkey:∀ k ck,j≤k→l[k]?=some ck→ck.d≠some t:=by
      intro k ck hjk hck e
      rcases hfacts.e4 j k cj ck t hcj hck e ht with ⟨h1,_⟩|⟨_,_,h3,_⟩
      ·omega
      ·rw[hs]at h3;cases h3
     simp only[List.cons_append,List.mem_cons,List.mem_append]at hc'
     rcases hc' with rfl|h|rfl|h
     ·exact hkey j c' (Nat.le_refl _) hcj e
     ·rw[← hb]at h
      obtain ⟨k,hk,hck⟩:=mem_pickL h
      rw[hpp,List.pairwise_append]at hps
      have:=(List.pairwise_cons.1 hps.2.1).1 k hk
      exact hkey k c' (by omega) hck e
     ·exact hkey i c' (by omega) hci e
     ·obtain ⟨k,hk,hck⟩:=mem_pickL h
      exact hkey k c' (by have:=(hqm k hk).1;omega) hck e
    obtain ⟨F1,hev1,hF1⟩:=bubble hR (pickL l p) hst.low hev hstab hstabp hfree
    simp only[List.cons_append,evN]at hev1
    split at hev1
    ·cases hev1
    ·rename_i e1 G1 hstep
     obtain ⟨v,rfl,hst2,_⟩:=evCI_inv hstep
     have hpendr:∀ t,t∈ciReads ci→¬ isPend l listed t:=by
      rintro t ht ⟨qk,d,cells,hqu,hql,rfl⟩
      rcases hfacts.e4 i qk ci _ t hci hql rfl ht with ⟨_,h2⟩|⟨_,_,_,h4⟩
      ·exact (hout qk hqu).1 h2
      ·simp[isNew]at h4
     let pb:Nat→Bool:=fun t=>(List.range l.length).any fun q=>unl listed l.length q && at' l (fun c=>isNew c && (match c.d with|some d=>Nat.beq d t|none=>false)) q
     have hpb:∀ t,pb t=true↔isPend l listed t:=by
      intro t
      constructor
      ·intro h
       simp only[pb,List.any_eq_true,Bool.and_eq_true]at h
       obtain ⟨qk,_,h1,h2⟩:=h
       unfold at' at h2
       split at h2
       ·rename_i c hc
        simp only[Bool.and_eq_true]at h2
        obtain ⟨d,cells,rfl⟩:=isNew_inv h2.1
        exact ⟨qk,d,cells,h1,hc,(Nat.eq_of_beq_eq_true h2.2).symm⟩
       ·cases h2
      ·rintro ⟨qk,d,cells,h1,h2,rfl⟩
       simp only[pb,List.any_eq_true,Bool.and_eq_true]
       refine ⟨qk,?_,h1,?_⟩
       ·simp only[unl,Bool.and_eq_true,Nat.blt_eq]at h1;simp[h1.1]
       ·simp[at',h2,isNew]
     have henvS:EnvR m μ (inf G) N (filt pb env) a:=by
      refine ⟨hst.tmps,fun k x hk=>?_⟩
      rw[lk_filt]at hk
      split at hk
      ·cases hk
      ·rename_i hn
       exact hst.val k x hk (fun h=>hn ((hpb k).2 h))
     have hstepS:=hst2 (filt pb env) (fun t ht=>by
      rw[lk_filt,if_neg]
      intro h
      exact hpendr t ht ((hpb t).1 h))
     obtain ⟨c1,c2,c3,c4⟩:=cOper_inv hcoi
     have hfinal:=step_sound (P:=P) (ops:=ops) (N:=N) hC hE hcoi hstepS hst.inv henvS (a:=a) (w:=w) (next:=wpAny P .any ops Q fuel (listed.setIfInBounds i true)) (Q:=Q) ?_
     ·split
      ·rename_i hw
       rw[if_pos hw]at hfinal
       exact .inl hfinal
      ·rename_i hw
       rw[if_neg hw]at hfinal
       exact hfinal
     ·intro m' μ' w' val hI' hS hE'
      refine ih (env:=put env ci.d v) (G:=G1) (m:=m') (μ:=μ') ⟨hsize',hdown',?_,hI',?_,?_,?_,?_,?_,?_,?_,?_⟩ hfuel'
      ·rw[hoff,pickL_append]
       exact ⟨F1,hev1,fun t=>(hF1 t).trans (hF t)⟩
      ·have:=hE'.size;exact this
      ·intro t x hx hnp
       refine hE'.val t x ?_
       rw[lk_put]at hx ⊢
       by_cases e:ci.d=some t
       ·rw[if_pos e]at hx ⊢;exact hx
       ·rw[if_neg e]at hx ⊢
        rw[lk_filt,if_neg]
        ·exact hx
        ·intro h
         obtain ⟨qk,d,cells,h1,h2,rfl⟩:=(hpb t).1 h
         refine hnp ⟨qk,t,cells,hunlf qk h1 (fun e'=>?_),h2,rfl⟩
         subst e'
         rw[hci]at h2
         cases h2
         simp[isNew]at hnew'
      ·rw[Act.put_dfr];exact hst.dfr
      ·intro qk d cells hqu hql
       obtain ⟨hqu',hne⟩:=hunlt qk hqu
       obtain ⟨b1,b2,b3,b4⟩:=hst.pend qk d cells hqu' hql
       obtain ⟨k1,k2⟩:=hS.tot.keep (pid qk) (gE b3).1 b2
       refine ⟨?_,k1,k2.trans b3,b4⟩
       rw[lk_put,if_neg]
       ·exact b1
       ·exact hfacts.e3 i qk ci _ d hne hci hql rfl
      ·intro id hid hn
       by_cases hlt:id<G.length
       ·cases hμ:μ id with
        |some loc =>
         obtain ⟨l',hl'⟩:=hS.tot.tot id hid (fun _=>⟨loc,hμ⟩)
         rw[hl']at hn;cases hn
        |none =>
         obtain ⟨qk,b1,b2,b3⟩:=hst.named id hlt hμ
         refine ⟨qk,hunlf qk b1 (fun e=>?_),b2,b3⟩
         subst e
         rw[hnat hci,hnew']at b2
         cases b2
       ·obtain ⟨l',hl'⟩:=hS.tot.tot id hid (fun h=>absurd h hlt)
        rw[hl']at hn;cases hn
      ·exact hst.ext.trans hS.ext
      ·exact hst.fr.trans hS.fr
      ·exact Nat.le_trans hst.low (evCI_len hstep)
end
theorem Inv.drawn {m:Mem}{μ:Mu}{G:Heap}{w:World}(h:Inv m μ G w)(k:Nat):Inv m μ G { w with drawn:=k }:=by
 refine ⟨h.known,h.inj,fun id o ho loc hl=>?_,h.dom⟩
 have:=h.obj id o ho loc hl
 cases o<;>exact this
section
variable {P:Program}{pg:Prg}{call:CallF}{N:Nat}{ops:Array Oper}{E:Ent}
theorem draw_sound (hm:P.follows .mixedOrders=true)(hR:RoCall pg call)(hC:CallSound P call)(hE:CallEnters P call){Q:Exit→Act→World→Prop}{id:Nat}{l:List CI}(hl:cOpers P N ops ops.toList=some l){news rest:List CI}{chk:List Chk}(hd:cDraw l (ops.toList.map binding)=some (news,rest,chk))
  {env:Env} {G:Heap} {a:Act} {w:World} {m:Mem} {μ:Mu} {env1:Env} {G1:Heap} {F:Env} {G2:Heap} (h1:evOps pg call news env G=some (.normal,env1,G1)) (h2:evOps pg call rest env1 G1=some (.normal,F,G2))
  (hchk:chk.all (chkOK pg F G1.length)=true) (hp:Pt N E G env a w m μ) (hq:∀ a w m μ,Pt N E G2 F a w m μ→Q .normal a w):(Code.region id ops true).wp P Q a w:=by
 obtain ⟨hlen',hat'⟩:=cOpers_at hl
 have hlen:l.length=ops.size:=by simpa using hlen'
 have hat:∀ (k:Nat) (o:Oper),ops[k]?=some o→∃ c,l[k]?=some c∧cOper P N ops o=some c:=fun k o ho=>hat' k o (by simpa using ho)
 obtain ⟨rfl,rfl,hf⟩:=facts_of hd
 have h1':=evOps_normal h1
 have h2':=evOps_normal h2
 rw[pickL_filter]at h1' h2'
 have hnew:∀ q,q∈(List.range l.length).filter (at' l isNew)→∃ d cells,l[q]?=some ⟨some d,.new cells,none⟩:=by
  intro q hq
  simp only[List.mem_filter,List.mem_range]at hq
  have hc:=gG hq.1
  have:isNew l[q]=true:=by simpa [at',hc] using hq.2
  obtain ⟨d,cells,e⟩:=isNew_inv this
  exact ⟨d,cells,by rw[hc,e]⟩
 obtain ⟨g1,g2,pid,g3,g4,g5⟩:=news_run ((List.range l.length).filter (at' l isNew)) hnew (List.Pairwise.filter _ (List.nodup_range)) (fun q q' d c c' _ _ hne hq hq'=>by
  have:=hf.e3 q' q _ _ d hne hq' hq rfl
  exact this rfl) h1'
 have hnat:∀ {q:Nat} {d:Nat} {cells:List AV},l[q]?=some ⟨some d,.new cells,none⟩→q∈(List.range l.length).filter (at' l isNew):=by
  intro q d cells hq
  simp only[List.mem_filter,List.mem_range]
  exact ⟨(gE hq).1,by simp[at',hq,isNew]⟩
 have hin:∀ id,id<G.length→inf G1 id=inf G id:=fun id hid=>by unfold inf;rw[g2 id hid]
 have hext:Ext m μ G m μ G1:=⟨fun _ _ _ h=>h,fun k loc h h'=>⟨h,by rw[hin k (hp.inv.dom k loc h)];exact h'⟩,fun k loc g sz h h'=>⟨loc,g,h,by rw[hin k (hp.inv.dom k loc h)];exact h',Nat.le_refl _,fun _=>rfl⟩⟩
 have hinv:Inv m μ G1 w:=by
  refine ⟨hp.inv.known,hp.inv.inj,fun k o ho loc hl=>?_,fun k loc h=>Nat.lt_of_lt_of_le (hp.inv.dom k loc h) g1⟩
  rw[g2 k (hp.inv.dom k loc hl)]at ho
  exact (hp.inv.obj k o ho loc hl).move hext rfl (fun _ h=>h)
 have hunl:∀ k,unl (Array.replicate ops.size false) l.length k=Nat.blt k l.length:=by
  intro k
  unfold unl
  cases hk:Nat.blt k l.length with
  |false=>rfl
  |true =>
   have:k<ops.size:=by rw[← hlen];exact Nat.blt_eq.mp hk
   simp[this]
 refine wp_region_any hm (any_sound (T:=ancs [] (ops.toList.map binding)) (chk:=chk) (E:=E) hlen hat rfl hf hR hC hE (L:=G1.length) (pid:=pid) (F:=F) (GF:=G2) ?_ (fun c hc=>by simpa using List.all_eq_true.1 hchk c hc) hq ops.size (env:=env1) (G:=G1) (m:=m) (μ:=μ) ⟨?_,?_,?_,hinv.drawn _,hp.env.size,?_,hp.dfr,?_,?_,hp.ext.trans hext,?_,Nat.le_refl _⟩ ?_)
 ·intro q q' hq hq'
  have hmem:∀ q,at' l isNew q=true→q∈(List.range l.length).filter (at' l isNew):=by
   intro q hq
   simp only[List.mem_filter,List.mem_range]
   refine ⟨?_,hq⟩
   unfold at' at hq
   split at hq
   ·rename_i hc;exact (gE hc).1
   ·cases hq
  exact g4 q q' (hmem q hq) (hmem q' hq')
 ·simp[hlen]
 ·intro k hk hkl
  have:k<ops.size:=by omega
  simp[this]at hkl
 ·refine ⟨F,?_,fun _=>rfl⟩
  have:remR l (Array.replicate ops.size false)=(List.range l.length).filter (at' l fun c=>!isNew c):=by
   unfold remR
   refine List.filter_congr fun k hk=>?_
   simp at hk
   rw[hunl,Nat.blt_eq.mpr hk]
   simp[at',gG hk]
  rw[this]
  exact h2'
 ·intro t x hx hnp
  have:lk env1 t=lk env t:=by
   refine evN_lk h1' t fun c hc e=>?_
   obtain ⟨k,hk,hck⟩:=mem_pickL hc
   obtain ⟨d,cells,hk'⟩:=hnew k hk
   rw[hk']at hck
   cases hck
   cases e
   refine hnp ⟨k,t,cells,?_,hk',rfl⟩
   rw[hunl]
   exact Nat.blt_eq.mpr (gE hk').1
  rw[this]at hx
  exact (hp.env.val t x hx).mono hext
 ·intro q d cells hq hql
  obtain ⟨b1,b2,b3,b4⟩:=g3 q d cells (hnat hql) hql
  refine ⟨b2,?_,b3,b4⟩
  cases hμ:μ (pid q) with
  |none=>rfl
  |some loc=>have:=hp.inv.dom _ _ hμ;omega
 ·intro k hk hn
  have hge:G.length≤k:=by
   rcases Nat.lt_or_ge k G.length with h|h
   ·obtain ⟨loc,hl⟩:=hp.tot k h
    rw[hl]at hn;cases hn
   ·exact h
  obtain ⟨q,b1,b2⟩:=g5 k hge hk
  simp only[List.mem_filter,List.mem_range]at b1
  exact ⟨q,by rw[hunl];exact Nat.blt_eq.mpr b1.1,b1.2,b2⟩
 ·exact ⟨hp.fr.os,hp.fr.tape,hp.fr.output,hp.fr.size,hp.fr.blk,hp.fr.mem,hp.fr.loc⟩
 ·refine Nat.le_trans (List.length_filter_le _ _) ?_
  simp[hlen]
end
theorem mem_restr {env:Env}:∀ {live:List Nat} {p:Nat×AV},p∈restr live env→lk env p.1=some p.2
 |[],p,h=>by simp[restr]at h
 |k::r,p,h=>by
  simp only[restr]at h
  split at h
  ·rename_i v hv
   rcases List.mem_cons.1 h with rfl|h
   ·exact hv
   ·exact mem_restr h
  ·exact mem_restr h
theorem lk_mem:∀ {env:Env} {k:Nat} {x:AV},lk env k=some x→(k,x)∈env
 |[],k,x,h=>by simp[lk]at h
 |(k',v)::r,k,x,h=>by
  simp only[lk]at h
  split at h
  ·rename_i e;cases h;subst e;simp
  ·exact List.mem_cons_of_mem _ (lk_mem h)
section
variable {m:Mem}{μ:Mu}{w:World}
theorem gcEnv_sound {a:Act}:∀ (env:Env) {e e':Exp} {env':Env},Inv m μ e.G w→IdsOK μ e.ids→gcEnv e env=some (env',e')→(∀ p,p∈env→R m μ (inf e.G) (a.tmps.getD p.1 undef) p.2) →
  ExpOK μ w m e m e'∧e'.G=e.G∧∀ p,p∈env'→R m (sub e'.ids μ) (sub e'.ids (inf e'.G)) (a.tmps.getD p.1 undef) p.2
 |[],e,e',env',hI,hk,h,hr=>by
  simp[gcEnv]at h
  obtain ⟨rfl,rfl⟩:=h
  exact ⟨.refl hI hk,rfl,fun p hp=>by simp at hp⟩
 |(k,x)::r,e,e',env',hI,hk,h,hr=>by
  simp only[gcEnv]at h
  split at h
  ·cases h
  ·rename_i x' e1 hx
   split at h
   ·cases h
   ·rename_i r' e2 hr2
    cases h
    obtain ⟨m1,hx1,hxr,hkk⟩:=exp_sound true x hI hk hx (hr (k,x) (by simp))
    obtain ⟨hG,hmm⟩:=hkk rfl
    rw[hmm]at hx1 hxr
    obtain ⟨h1,h2,h3⟩:=gcEnv_sound r hx1.inv hx1.ok hr2 (fun p hp=>by rw[hG];exact hr p (by simp[hp]))
    refine ⟨hx1.trans h1,h2.trans hG,fun p hp=>?_⟩
    rcases List.mem_cons.1 hp with rfl|hp
    ·exact hxr.monoI h1.ext
    ·exact h3 p hp
variable {N:Nat}{E:Ent}
theorem gc_sound {live:List Nat}{env env':Env}{G G':Heap}{a:Act}(hE:∀ id,id<E.G.length→∃ l,E.μ id=some l)(hd:∀ id l,E.μ id=some l→id<E.G.length)(h:gc E.G.length live env G=some (env',G'))(hp:Pt N E G env a w m μ):∃ μ',Pt N E G' env' a w m μ':=by
 unfold gc at h
 split at h
 ·cases h
 ·rename_i env1 e hg
  split at h
  ·cases h
  ·rename_i os e' ho
   cases h
   have hold:∀ id,id<E.G.length→∃ l,μ id=some l:=by
    intro id hid
    obtain ⟨l,hl⟩:=hE id hid
    have hi:inf E.G id=some (infO E.G[id]):=by simp[inf,gG hid]
    cases hio:infO E.G[id] with
    |none=>rw[hio]at hi;exact ⟨_,(hp.ext.box id l hl hi).1⟩
    |some p =>
     rcases p with ⟨g,sz⟩
     rw[hio]at hi
     obtain ⟨l',_,h1,_⟩:=hp.ext.arr id l g sz hl hi
     exact ⟨l',h1⟩
   have hids:IdsOK μ (List.range E.G.length):=⟨List.nodup_range,fun id h=>hold id (by simpa using h)⟩
   obtain ⟨h1,h2,h3⟩:=gcEnv_sound (a:=a) (restr live env) (e:=⟨List.range E.G.length,G⟩) hp.inv hids hg (fun p hpm=>hp.env.val p.1 p.2 (mem_restr hpm))
   obtain ⟨i1,i2,i3,i4,⟨l2,i5⟩,i6,i7⟩:=expObjs_inv h1.inv h1.ok ho
   obtain ⟨l1,hl1⟩:=h1.ids
   have hpre:∀ id,id<E.G.length→e'.ids[id]?=some id:=by
    intro id hid
    rw[i5,hl1]
    dsimp only
    rw[List.append_assoc,List.getElem?_append_left (by simpa using hid)]
    simp[hid]
   have hGG:e.G=G:=h2
   refine ⟨sub e'.ids μ,i1,⟨hp.env.size,fun k x hk=>?_⟩,hp.dfr,i2,?_,⟨hp.fr.os,hp.fr.tape,hp.fr.output,hp.fr.size,hp.fr.blk,hp.fr.mem,?_⟩⟩
   ·have:=(h3 (k,x) (lk_mem hk)).monoI (sub_ext l2 (.refl _ _ _))
    rw[← i5]at this
    rw[i3]
    exact this
   ·refine ⟨hp.ext.mem,fun id loc g1 g2=>?_,fun id loc g sz g1 g2=>?_⟩
    ·obtain ⟨a1,a2⟩:=hp.ext.box id loc g1 g2
     have hid:=hpre id (hd id loc g1)
     rw[i3,hGG]
     exact ⟨by simp[sub,hid,a1],by simp[sub,hid,a2]⟩
    ·obtain ⟨l',g',a1,a2,a3,a4⟩:=hp.ext.arr id loc g sz g1 g2
     have hid:=hpre id (hd id loc g1)
     rw[i3,hGG]
     exact ⟨l',g',by simp[sub,hid,a1],by simp[sub,hid,a2],a3,a4⟩
   ·intro id loc' hl
    unfold sub at hl
    cases hi:e'.ids[id]? with
    |none=>rw[hi]at hl;cases hl
    |some x=>rw[hi]at hl;exact hp.fr.loc x loc' hl
end
def erase:CCode→CCode
 |.skip=>.skip
 |.seq a b=>.seq (erase a) (erase b)
 |.ops _ l=>.ops [] l
 |.draw _ n r k=>.draw [] n r k
 |.cond c a b=>.cond c (erase a) (erase b)
 |.block id a=>.block id (erase a)
 |.loop _ a=>.loop [] (erase a)
 |.exit id=>.exit id
 |.ret=>.ret
section
variable {P:Program}{pg:Prg}{call:CallF}{loop:LoopF}
def LoopSound (P:Program)(loop:LoopF)(k:Nat):Prop:=∀ (N:Nat) (E:Ent),(∀ id,id<E.G.length→∃ l,E.μ id=some l)→(∀ id l,E.μ id=some l→id<E.G.length)→∀ {live:List Nat} {c:CCode} {code:Code} {env:Env} {G:Heap} {e:Ex} {env':Env} {G':Heap} {a:Act} {w:World} {m:Mem} {μ:Mu} {Q:Exit→Act→World→Prop},
 cCode P N code=some (erase c)→loop E.G.length live c env G=some (e,env',G')→Pt N E G env a w m μ→Ends N E Q e env' G'→Code.rounds P code Q k a w
theorem ends_then {N:Nat}{E:Ent}{Q:Exit→Act→World→Prop}{K:Act→World→Prop}{e:Ex}{env:Env}{G:Heap}(hne:e≠.normal)(h:Ends N E Q e env G):Ends N E (Exit.then K Q) e env G:=by
 intro a w m μ hp
 have:=h a w m μ hp
 cases e with
 |normal=>exact absurd rfl hne
 |_=>exact this
theorem code_sound (hm:P.follows .mixedOrders=true)(hR:RoCall pg call)(hC:CallSound P call)(hE:CallEnters P call){k:Nat}(hL:LoopSound P loop k){N:Nat}{E:Ent}(hE0:∀ id,id<E.G.length→∃ l,E.μ id=some l)(hE1:∀ id l,E.μ id=some l→id<E.G.length) :
  ∀ (code:Code) (c:CCode) {env:Env} {G:Heap} {e:Ex} {env':Env} {G':Heap} {a:Act} {w:World} {m:Mem} {μ:Mu} {Q:Exit→Act→World→Prop},
   cCode P N code=some (erase c)→evCode pg call loop E.G.length c env G=some (e,env',G')→Pt N E G env a w m μ→Ends N E Q e env' G'→code.wp P Q a w:=by
 intro code
 induction code with
 |skip =>
  intro c env G e env' G' a w m μ Q hc hev hp hq
  cases c<;>simp[cCode,erase]at hc
  simp[evCode]at hev
  obtain ⟨rfl,rfl,rfl⟩:=hev
  exact wp_skip (hq a w m μ hp)
 |ret =>
  intro c env G e env' G' a w m μ Q hc hev hp hq
  cases c<;>simp[cCode,erase]at hc
  simp[evCode]at hev
  obtain ⟨rfl,rfl,rfl⟩:=hev
  exact wp_ret (hq a w m μ hp)
 |exit id =>
  intro c env G e env' G' a w m μ Q hc hev hp hq
  cases c<;>simp[cCode,erase]at hc
  subst hc
  simp[evCode]at hev
  obtain ⟨rfl,rfl,rfl⟩:=hev
  exact wp_exit (hq a w m μ hp)
 |seq x y ihx ihy =>
  intro c env G e env' G' a w m μ Q hc hev hp hq
  simp only[cCode]at hc
  split at hc
  ·rename_i cx cy hx hy
   cases c<;>simp[erase]at hc
   rename_i c1 c2
   obtain ⟨rfl,rfl⟩:=hc
   simp only[evCode]at hev
   refine wp_seq ?_
   cases h1:evCode pg call loop E.G.length c1 env G with
   |none=>rw[h1]at hev;cases hev
   |some r1 =>
    rcases r1 with ⟨e1,env1,G1⟩
    rw[h1]at hev
    cases e1 with
    |normal =>
     refine ihx c1 hx h1 hp ?_
     intro a' w' m' μ' hp'
     exact ihy c2 hy hev hp' hq
    |exit id=>cases hev;exact ihx c1 hx h1 hp (ends_then (by simp) hq)
    |ret=>cases hev;exact ihx c1 hx h1 hp (ends_then (by simp) hq)
    |pan v=>cases hev;exact ihx c1 hx h1 hp (ends_then (by simp) hq)
  ·cases hc
 |cond x t f iht ihf =>
  intro c env G e env' G' a w m μ Q hc hev hp hq
  simp only[cCode]at hc
  split at hc
  ·rename_i cx ct cf hx ht hf
   cases c<;>simp[erase]at hc
   rename_i ox c1 c2
   obtain ⟨rfl,rfl,rfl⟩:=hc
   simp only[evCode]at hev
   split at hev
   ·rename_i b hb
    have hv:=(opd_R hp.env hx hb).bool_inv
    refine wp_cond (t:=b) hv ?_
    cases b with
    |true=>simp only[if_true]at hev ⊢;exact iht c1 ht hev hp hq
    |false=>simp only[Bool.false_eq_true,if_false]at hev ⊢;exact ihf c2 hf hev hp hq
   ·cases hev
  ·cases hc
 |block id x ih =>
  intro c env G e env' G' a w m μ Q hc hev hp hq
  simp only[cCode,Option.map_eq_some_iff]at hc
  obtain ⟨cx,hx,he⟩:=hc
  cases c<;>simp[erase]at he
  rename_i id' c1
  obtain ⟨rfl,rfl⟩:=he
  simp only[evCode]at hev
  refine wp_block ?_
  cases h1:evCode pg call loop E.G.length c1 env G with
  |none=>rw[h1]at hev;cases hev
  |some r1 =>
   rcases r1 with ⟨e1,env1,G1⟩
   rw[h1]at hev
   cases e1 with
   |normal=>cases hev;exact ih c1 hx h1 hp (fun a' w' m' μ' hp'=>hq a' w' m' μ' hp')
   |ret=>cases hev;exact ih c1 hx h1 hp (fun a' w' m' μ' hp'=>hq a' w' m' μ' hp')
   |pan v=>cases hev;exact ih c1 hx h1 hp (fun a' w' m' μ' hp' val hv=>hq a' w' m' μ' hp' val hv)
   |exit id2 =>
    dsimp only at hev
    refine ih c1 hx h1 hp (fun a' w' m' μ' hp'=>?_)
    show Exit.inBlock id Q (.exit id2) a' w'
    simp only[Exit.inBlock]
    split at hev
    ·rename_i e2
     cases hev
     rw[if_pos e2]
     exact hq a' w' m' μ' hp'
    ·rename_i e2
     cases hev
     rw[if_neg e2]
     exact hq a' w' m' μ' hp'
 |loop x ih =>
  intro c env G e env' G' a w m μ Q hc hev hp hq
  simp only[cCode,Option.map_eq_some_iff]at hc
  obtain ⟨cx,hx,he⟩:=hc
  cases c<;>simp[erase]at he
  rename_i live c1
  subst he
  simp only[evCode]at hev
  split at hev
  ·rename_i env1 G1 hg
   obtain ⟨μ',hp'⟩:=gc_sound hE0 hE1 hg hp
   exact wp_loop_rounds k (hL N E hE0 hE1 hx hev hp' hq)
  ·cases hev
 |region id ops draw =>
  intro c env G e env' G' a w m μ Q hc hev hp hq
  cases draw with
  |false =>
   simp only[cCode,Option.map_eq_some_iff]at hc
   obtain ⟨l,hl,he⟩:=hc
   cases c<;>simp[erase]at he
   rename_i live l'
   subst he
   simp only[evCode]at hev
   cases h1:evOps pg call l env G with
   |none=>rw[h1]at hev;cases hev
   |some r1 =>
    rcases r1 with ⟨e1,env1,G1⟩
    rw[h1]at hev
    refine region_sound hC hE hl h1 hp ?_
    cases e1 with
    |normal=>cases hev;exact fun a' w' m' μ' hp'=>hq a' w' m' μ' ⟨hp'.inv,hp'.env.restr live,hp'.dfr,hp'.tot,hp'.ext,hp'.fr⟩
    |exit id=>cases hev;exact hq
    |ret=>cases hev;exact hq
    |pan v=>cases hev;exact hq
  |true =>
   simp only[cCode]at hc
   split at hc
   ·cases hc
   ·rename_i l hl
    split at hc
    ·rename_i news rest chk hd
     cases c<;>simp[erase]at hc
     rename_i live n r k
     obtain ⟨rfl,rfl,rfl⟩:=hc
     simp only[evCode]at hev
     split at hev
     ·rename_i env1 G1 h1
      split at hev
      ·rename_i F G2 h2
       split at hev
       ·rename_i hchk
        cases hev
        exact draw_sound hm hR hC hE hl hd h1 h2 hchk hp (fun a' w' m' μ' hp'=>hq a' w' m' μ' ⟨hp'.inv,hp'.env.restr live,hp'.dfr,hp'.tot,hp'.ext,hp'.fr⟩)
       ·cases hev
      ·cases hev
     ·cases hev
    ·cases hc
 |_=>intro c env G e env' G' a w m μ Q hc;simp[cCode]at hc
end
def CLe (c c':CallF):Prop:=∀ f a G o,c f a G=some o→c' f a G=some o
def LLe (l l':LoopF):Prop:=∀ b v a env G o,l b v a env G=some o→l' b v a env G=some o
theorem CLe.rfl' {c:CallF}:CLe c c:=fun _ _ _ _ h=>h
theorem LLe.rfl' {c:LoopF}:LLe c c:=fun _ _ _ _ _ _ h=>h
variable {pg:Prg}{c c':CallF}{l l':LoopF}
theorem evCallAt_mono (h:CLe c c'){f:Nat}{args:List AV}{G:Heap}{o:Out×Heap}
  (hr:eCA pg c f args G=some o):eCA pg c' f args G=some o:=by
 unfold eCA at hr ⊢
 split at hr
 ·cases hr
 ·split at hr
  ·cases hr
  ·split at hr
   ·cases hr
   ·rename_i hc
    rw[h _ _ _ _ hc]
    exact hr
theorem evOp_mono (h:CLe c c'){o:COp}{env:Env}{G:Heap}{r:Res}
  (hr:evOp pg c o env G=some r):evOp pg c' o env G=some r:=by
 cases o
 case call f args =>
  unfold evOp at hr ⊢
  dsimp only at hr ⊢
  split at hr
  ·revert hr
   cases hc:eCA pg c f _ G with
   |none=>intro hr;simp[Res.of]at hr
   |some o=>rw[evCallAt_mono h hc];exact id
  ·cases hr
 case callv x args =>
  unfold evOp at hr ⊢
  dsimp only at hr ⊢
  split at hr
  ·revert hr
   cases hc:eCA pg c _ _ G with
   |none=>intro hr;simp[Res.of]at hr
   |some o=>rw[evCallAt_mono h hc];exact id
  ·cases hr
 all_goals exact hr
theorem evOps_mono (h:CLe c c'):∀ (ops:List CI) {env:Env} {G:Heap} {r:Ex×Env×Heap},
  evOps pg c ops env G=some r→evOps pg c' ops env G=some r
 |[],_,_,_,hr=>hr
 |i::ops,env,G,r,hr=>by
  unfold evOps at hr ⊢
  split at hr
  ·cases hr
  ·exact evOps_mono h ops hr
  ·split at hr
   ·cases hr
   ·rename_i he
    rw[evOp_mono h he]
    exact evOps_mono h ops hr
   ·rename_i he
    rw[evOp_mono h he]
    exact hr
theorem evCode_mono (h:CLe c c')(hl:LLe l l')(base:Nat):∀ (a:CCode) {env:Env} {G:Heap} {r:Ex×Env×Heap},
  evCode pg c l base a env G=some r→evCode pg c' l' base a env G=some r
 |.skip,_,_,_,hr=>hr
 |.ret,_,_,_,hr=>hr
 |.exit _,_,_,_,hr=>hr
 |.seq a b,env,G,r,hr=>by
  unfold evCode at hr ⊢
  cases ha:evCode pg c l base a env G with
  |none=>rw[ha]at hr;cases hr
  |some x =>
   rw[evCode_mono h hl base a ha]
   rw[ha]at hr
   rcases x with ⟨e,env',G'⟩
   cases e with
   |normal=>exact evCode_mono h hl base b hr
   |_=>exact hr
 |.ops live ops,env,G,r,hr=>by
  unfold evCode at hr ⊢
  cases ha:evOps pg c ops env G with
  |none=>rw[ha]at hr;cases hr
  |some x=>rw[evOps_mono h ops ha];rw[ha]at hr;exact hr
 |.draw live news rest chk,env,G,r,hr=>by
  unfold evCode at hr ⊢
  cases ha:evOps pg c news env G with
  |none=>rw[ha]at hr;cases hr
  |some x =>
   rw[evOps_mono h news ha]
   rw[ha]at hr
   rcases x with ⟨e,env',G'⟩
   cases e with
   |normal =>
    dsimp only at hr ⊢
    cases hb:evOps pg c rest env' G' with
    |none=>rw[hb]at hr;cases hr
    |some y=>rw[evOps_mono h rest hb];rw[hb]at hr;exact hr
   |_=>exact hr
 |.cond x a b,env,G,r,hr=>by
  unfold evCode at hr ⊢
  split at hr
  ·rename_i hx
   split at hr
   ·rename_i hb;rw[if_pos hb];exact evCode_mono h hl base a hr
   ·rename_i hb;rw[if_neg hb];exact evCode_mono h hl base b hr
  ·cases hr
 |.block id a,env,G,r,hr=>by
  unfold evCode at hr ⊢
  cases ha:evCode pg c l base a env G with
  |none=>rw[ha]at hr;cases hr
  |some x=>rw[evCode_mono h hl base a ha];rw[ha]at hr;exact hr
 |.loop live a,env,G,r,hr=>by
  unfold evCode at hr ⊢
  split at hr
  ·exact hl _ _ _ _ _ _ hr
  ·cases hr
theorem evFun_mono (h:CLe c c')(hl:LLe l l'){x:CFun}{args:List AV}{G:Heap}{r:Out×Heap}
  (hr:evFun pg c l x args G=some r):evFun pg c' l' x args G=some r:=by
 unfold evFun at hr ⊢
 cases ha:evCode pg c l G.length x.body (iEv 0 args) G with
 |none=>rw[ha]at hr;cases hr
 |some y=>rw[evCode_mono h hl _ _ ha];rw[ha]at hr;exact hr
theorem ev_mono_succ:∀ n,CLe (evCall pg n) (evCall pg (n+1))∧LLe (evLoop pg n) (evLoop pg (n+1))
 |0=>⟨fun _ _ _ _ h=>by simp[evCall]at h,fun _ _ _ _ _ _ h=>by simp[evLoop]at h⟩
 |n+1=>by
  obtain ⟨hc,hl⟩:=ev_mono_succ n
  constructor
  ·intro f a G o h
   unfold evCall at h ⊢
   split at h
   ·exact h
   ·split at h
    ·exact evFun_mono hc hl h
    ·cases h
  ·intro b v a env G o h
   unfold evLoop at h ⊢
   cases ha:evCode pg (evCall pg n) (evLoop pg n) b a env G with
   |none=>rw[ha]at h;cases h
   |some x =>
    rw[evCode_mono hc hl _ _ ha]
    rw[ha]at h
    rcases x with ⟨e,env',G'⟩
    cases e with
    |normal =>
     dsimp only at h ⊢
     split at h
     ·exact hl _ _ _ _ _ _ h
     ·cases h
    |_=>exact h
theorem ev_mono {n m:Nat}(hnm:n≤m):CLe (evCall pg n) (evCall pg m)∧LLe (evLoop pg n) (evLoop pg m):=by
 induction hnm with
 |refl=>exact ⟨CLe.rfl',LLe.rfl'⟩
 |step _ ih=>exact ⟨fun _ _ _ _ h=>(ev_mono_succ _).1 _ _ _ _ (ih.1 _ _ _ _ h),fun _ _ _ _ _ _ h=>(ev_mono_succ _).2 _ _ _ _ _ _ (ih.2 _ _ _ _ _ _ h)⟩
open Classical in
noncomputable def E (pg:Prg):CallF:=fun f a G=>if h:∃ o,∃ n,evCall pg n f a G=some o then some h.choose else none
open Classical in
noncomputable def L (pg:Prg):LoopF:=fun b v a env G=>if h:∃ o,∃ n,evLoop pg n b v a env G=some o then some h.choose else none
theorem E_iff {f:Nat}{a:List AV}{G:Heap}{o:Out×Heap}:E pg f a G=some o↔∃ n,evCall pg n f a G=some o:=by
 unfold E
 constructor
 ·intro h
  split at h
  ·rename_i hx
   obtain ⟨n,hn⟩:=hx.choose_spec
   cases h
   exact ⟨n,hn⟩
  ·cases h
 ·rintro ⟨n,hn⟩
  have hx:∃ o,∃ n,evCall pg n f a G=some o:=⟨o,n,hn⟩
  rw[dif_pos hx]
  obtain ⟨m,hm⟩:=hx.choose_spec
  have h1:=(ev_mono (pg:=pg) (Nat.le_max_left n m)).1 _ _ _ _ hn
  have h2:=(ev_mono (pg:=pg) (Nat.le_max_right n m)).1 _ _ _ _ hm
  rw[h1]at h2
  exact h2.symm
theorem L_iff {b:Nat}{v:List Nat}{a:CCode}{env:Env}{G:Heap}{o:Ex×Env×Heap}:L pg b v a env G=some o↔∃ n,evLoop pg n b v a env G=some o:=by
 unfold L
 constructor
 ·intro h
  split at h
  ·rename_i hx
   obtain ⟨n,hn⟩:=hx.choose_spec
   cases h
   exact ⟨n,hn⟩
  ·cases h
 ·rintro ⟨n,hn⟩
  have hx:∃ o,∃ n,evLoop pg n b v a env G=some o:=⟨o,n,hn⟩
  rw[dif_pos hx]
  obtain ⟨m,hm⟩:=hx.choose_spec
  have h1:=(ev_mono (pg:=pg) (Nat.le_max_left n m)).2 _ _ _ _ _ _ hn
  have h2:=(ev_mono (pg:=pg) (Nat.le_max_right n m)).2 _ _ _ _ _ _ hm
  rw[h1]at h2
  exact h2.symm
theorem le_E (n:Nat):CLe (evCall pg n) (E pg):=fun _ _ _ _ h=>E_iff.2 ⟨n,h⟩
theorem le_L (n:Nat):LLe (evLoop pg n) (L pg):=fun _ _ _ _ _ _ h=>L_iff.2 ⟨n,h⟩
theorem evCallAt_fin {f:Nat}{args:List AV}{G:Heap}{o:Out×Heap}
  (hr:eCA pg (E pg) f args G=some o):∃ n,eCA pg (evCall pg n) f args G=some o:=by
 unfold eCA at hr ⊢
 split at hr
 ·cases hr
 ·split at hr
  ·cases hr
  ·split at hr
   ·cases hr
   ·rename_i hc
    obtain ⟨n,hn⟩:=E_iff.1 hc
    refine ⟨n,?_⟩
    rw[hn]
    exact hr
theorem evOp_fin {o:COp}{env:Env}{G:Heap}{r:Res}
  (hr:evOp pg (E pg) o env G=some r):∃ n,evOp pg (evCall pg n) o env G=some r:=by
 cases o
 case call f args =>
  unfold evOp at hr ⊢
  dsimp only at hr ⊢
  split at hr
  ·revert hr
   cases hc:eCA pg (E pg) f _ G with
   |none=>intro hr;simp[Res.of]at hr
   |some o=>intro hr;obtain ⟨n,hn⟩:=evCallAt_fin hc;exact ⟨n,by rw[hn];exact hr⟩
  ·cases hr
 case callv x args =>
  unfold evOp at hr ⊢
  dsimp only at hr ⊢
  split at hr
  ·revert hr
   cases hc:eCA pg (E pg) _ _ G with
   |none=>intro hr;simp[Res.of]at hr
   |some o=>intro hr;obtain ⟨n,hn⟩:=evCallAt_fin hc;exact ⟨n,by rw[hn];exact hr⟩
  ·cases hr
 all_goals exact ⟨0,hr⟩
theorem evOps_fin:∀ (ops:List CI) {env:Env} {G:Heap} {r:Ex×Env×Heap},
  evOps pg (E pg) ops env G=some r→∃ n,evOps pg (evCall pg n) ops env G=some r
 |[],_,_,_,hr=>⟨0,hr⟩
 |i::ops,env,G,r,hr=>by
  unfold evOps at hr ⊢
  split at hr
  ·cases hr
  ·exact evOps_fin ops hr
  ·split at hr
   ·cases hr
   ·rename_i he
    obtain ⟨n,hn⟩:=evOp_fin he
    obtain ⟨m,hm⟩:=evOps_fin ops hr
    refine ⟨Nat.max n m,?_⟩
    rw[evOp_mono (ev_mono (Nat.le_max_left n m)).1 hn]
    exact evOps_mono (ev_mono (Nat.le_max_right n m)).1 ops hm
   ·rename_i he
    obtain ⟨n,hn⟩:=evOp_fin he
    exact ⟨n,by rw[hn];exact hr⟩
theorem evCode_fin (base:Nat):∀ (a:CCode) {env:Env} {G:Heap} {r:Ex×Env×Heap},
  evCode pg (E pg) (L pg) base a env G=some r→∃ n,evCode pg (evCall pg n) (evLoop pg n) base a env G=some r
 |.skip,_,_,_,hr=>⟨0,hr⟩
 |.ret,_,_,_,hr=>⟨0,hr⟩
 |.exit _,_,_,_,hr=>⟨0,hr⟩
 |.seq a b,env,G,r,hr=>by
  unfold evCode at hr ⊢
  cases ha:evCode pg (E pg) (L pg) base a env G with
  |none=>rw[ha]at hr;cases hr
  |some x =>
   obtain ⟨n,hn⟩:=evCode_fin base a ha
   rw[ha]at hr
   rcases x with ⟨e,env',G'⟩
   cases e with
   |normal =>
    obtain ⟨m,hm⟩:=evCode_fin base b hr
    refine ⟨Nat.max n m,?_⟩
    rw[evCode_mono (ev_mono (Nat.le_max_left n m)).1 (ev_mono (Nat.le_max_left n m)).2 base a hn]
    exact evCode_mono (ev_mono (Nat.le_max_right n m)).1 (ev_mono (Nat.le_max_right n m)).2 base b hm
   |_=>exact ⟨n,by rw[hn];exact hr⟩
 |.ops live ops,env,G,r,hr=>by
  unfold evCode at hr ⊢
  cases ha:evOps pg (E pg) ops env G with
  |none=>rw[ha]at hr;cases hr
  |some x=>obtain ⟨n,hn⟩:=evOps_fin ops ha;rw[ha]at hr;exact ⟨n,by rw[hn];exact hr⟩
 |.draw live news rest chk,env,G,r,hr=>by
  unfold evCode at hr ⊢
  cases ha:evOps pg (E pg) news env G with
  |none=>rw[ha]at hr;cases hr
  |some x =>
   obtain ⟨n,hn⟩:=evOps_fin news ha
   rw[ha]at hr
   rcases x with ⟨e,env',G'⟩
   cases e with
   |normal =>
    dsimp only at hr
    cases hb:evOps pg (E pg) rest env' G' with
    |none=>rw[hb]at hr;cases hr
    |some y =>
     obtain ⟨m,hm⟩:=evOps_fin rest hb
     rw[hb]at hr
     refine ⟨Nat.max n m,?_⟩
     rw[evOps_mono (ev_mono (Nat.le_max_left n m)).1 news hn]
     dsimp only
     rw[evOps_mono (ev_mono (Nat.le_max_right n m)).1 rest hm]
     exact hr
   |_=>cases hr
 |.cond x a b,env,G,r,hr=>by
  unfold evCode at hr ⊢
  split at hr
  ·rename_i hx
   split at hr
   ·rename_i hb;simp only[if_pos hb];exact evCode_fin base a hr
   ·rename_i hb;simp only[if_neg hb];exact evCode_fin base b hr
  ·cases hr
 |.block id a,env,G,r,hr=>by
  unfold evCode at hr ⊢
  cases ha:evCode pg (E pg) (L pg) base a env G with
  |none=>rw[ha]at hr;cases hr
  |some x=>obtain ⟨n,hn⟩:=evCode_fin base a ha;rw[ha]at hr;exact ⟨n,by rw[hn];exact hr⟩
 |.loop live a,env,G,r,hr=>by
  unfold evCode at hr ⊢
  split at hr
  ·exact L_iff.1 hr
  ·cases hr
theorem evFun_fin {x:CFun}{args:List AV}{G:Heap}{r:Out×Heap}
  (hr:evFun pg (E pg) (L pg) x args G=some r):∃ n,evFun pg (evCall pg n) (evLoop pg n) x args G=some r:=by
 unfold evFun at hr ⊢
 cases ha:evCode pg (E pg) (L pg) G.length x.body (iEv 0 args) G with
 |none=>rw[ha]at hr;cases hr
 |some y=>obtain ⟨n,hn⟩:=evCode_fin _ _ ha;rw[ha]at hr;exact ⟨n,by rw[hn];exact hr⟩
theorem E_code {f:Nat}{x:CFun}(ho:pg.orc f=none)(hc:pg.code f=some x)(a:List AV)(G:Heap) :
  E pg f a G=evFun pg (E pg) (L pg) x a G:=by
 apply Option.ext
 intro r
 constructor
 ·intro h
  obtain ⟨n,hn⟩:=E_iff.1 h
  cases n with
  |zero=>simp[evCall]at hn
  |succ n =>
   unfold evCall at hn
   rw[ho,hc]at hn
   exact evFun_mono (le_E n) (le_L n) hn
 ·intro h
  obtain ⟨n,hn⟩:=evFun_fin h
  refine E_iff.2 ⟨n+1,?_⟩
  unfold evCall
  rw[ho,hc]
  exact hn
theorem E_orc {f:Nat}{F:List AV→Option (Out×Heap)}(ho:pg.orc f=some F)(a:List AV){o:Out×Heap}(h:F a=some o) :
  E pg f a []=some o:=by
 refine E_iff.2 ⟨1,?_⟩
 unfold evCall
 rw[ho]
 exact h
theorem L_eq (b:Nat)(v:List Nat)(a:CCode)(env:Env)(G:Heap) :
  L pg b v a env G=match evCode pg (E pg) (L pg) b a env G with
   |some (.normal,env,G)=>match gc b v env G with
    |some (env,G)=>L pg b v a env G
    |none=>none
   |r=>r:=by
 apply Option.ext
 intro r
 constructor
 ·intro h
  obtain ⟨n,hn⟩:=L_iff.1 h
  cases n with
  |zero=>simp[evLoop]at hn
  |succ n =>
   unfold evLoop at hn
   cases ha:evCode pg (evCall pg n) (evLoop pg n) b a env G with
   |none=>rw[ha]at hn;cases hn
   |some x =>
    rw[evCode_mono (le_E n) (le_L n) _ _ ha]
    rw[ha]at hn
    rcases x with ⟨e,env',G'⟩
    cases e with
    |normal =>
     dsimp only at hn ⊢
     split at hn
     ·rename_i hg
      rw[hg]
      exact le_L n _ _ _ _ _ _ hn
     ·cases hn
    |_=>exact hn
 ·intro h
  cases ha:evCode pg (E pg) (L pg) b a env G with
  |none=>rw[ha]at h;cases h
  |some x =>
   obtain ⟨n,hn⟩:=evCode_fin b a ha
   rw[ha]at h
   rcases x with ⟨e,env',G'⟩
   cases e with
   |normal =>
    dsimp only at h
    split at h
    ·rename_i env₂ G₂ hg
     obtain ⟨m,hm⟩:=L_iff.1 h
     refine L_iff.2 ⟨Nat.max n m+1,?_⟩
     unfold evLoop
     rw[evCode_mono (ev_mono (Nat.le_max_left n m)).1 (ev_mono (Nat.le_max_left n m)).2 b a hn]
     dsimp only
     rw[hg]
     exact (ev_mono (Nat.le_max_right n m)).2 _ _ _ _ _ _ hm
    ·cases h
   |_ =>
    refine L_iff.2 ⟨n+1,?_⟩
    unfold evLoop
    rw[hn]
    exact h
end Go.Proofs.Z
end
section
namespace Go.Proofs.Z
open Go
section
variable {P:Program}{pg:Prg}{call:CallF}{loop:LoopF}
theorem loadAt_var {t:TypeId}{v val:Value}{w:World}(h:(Instr.loadAt t v).run P w=.ok val w):(do loadVar t (← asAddr v):Sem Value).run P w=.ok val w:=by
 cases v with
 |pointer p=>cases p with
  |some a=>simpa [Instr.loadAt,Instr.sureAddr,asAddr] using h
  |none=>simp[Instr.loadAt,Instr.sureAddr,go_sem]at h
 |_=>simp[Instr.loadAt,Instr.sureAddr,go_sem]at h
def resOf (tmps:Array Value):ResultVar→Sem Value
 |.tmp t=>pure (tmps.getD t undef)
 |.cell a t=>do loadVar t (← asAddr (tmps.getD a undef))
theorem res_sound {N:Nat}{E:Ent}{env:Env}{G:Heap}{a:Act}{w:World}{m:Mem}{μ:Mu}(hp:Pt N E G env a w m μ):∀ (rs:List ResultVar) {crs:List CRes} {vs:List AV},cRes P rs=some crs→evRes env G crs=some vs →
  ∃ vals,(rs.mapM (resOf a.tmps)).run P w=.ok vals w∧RL m μ (inf G) vals vs
 |[],crs,vs,hc,hv=>by
  simp[cRes]at hc
  subst hc
  simp[evRes]at hv
  subst hv
  exact ⟨[],by simp,.nil⟩
 |.tmp t::r,crs,vs,hc,hv=>by
  simp only[cRes,Option.map_eq_some_iff]at hc
  obtain ⟨crs',hr,rfl⟩:=hc
  simp only[evRes]at hv
  split at hv
  ·cases hv
  ·rename_i v hvt
   split at hv
   ·cases hv
   ·rename_i vs' hvs
    cases hv
    obtain ⟨vals,h1,h2⟩:=res_sound hp r hr hvs
    exact ⟨_::vals,by simp[resOf,h1],.cons (hp.env.val t v hvt) h2⟩
 |.cell x t::r,crs,vs,hc,hv=>by
  simp only[cRes]at hc
  split at hc
  ·rename_i n g crs' hn hg hr
   cases hc
   simp only[evRes]at hv
   split at hv
   ·cases hv
   ·rename_i p hpt
    split at hv
    ·cases hv
    ·rename_i v hl
     split at hv
     ·cases hv
     ·rename_i vs' hvs
      cases hv
      obtain ⟨vals,h1,h2⟩:=res_sound hp r hr hvs
      obtain ⟨val,k1,k2⟩:=loadAt_R hp.inv hn hg (hp.env.val x p hpt) hl
      have k3:=loadAt_var k1
      refine ⟨val::vals,?_,.cons k2 h2⟩
      rw[List.mapM_cons]
      simp only[Sem.run_bind]
      rw[show resOf a.tmps (.cell x t)=(do loadVar t (← asAddr (a.tmps.getD x undef)):Sem Value) from rfl,k3]
      simp[h1]
  ·cases hc
def wholeV (vals:List Value):Value:=if h:vals.toArray.size=1 then vals.toArray[0] else .tuple vals.toArray
theorem whole_R {m:Mem}{μ:Mu}{i:Inf}{vals:List Value}{vs:List AV}(h:RL m μ i vals vs):R m μ i (wholeV vals) (whole vs):=by
 cases vs with
 |nil=>rw[h.inv_nil];exact .tupOf (cs:=#[]) .nil
 |cons a r =>
  obtain ⟨v,vals',rfl,h1,h2⟩:=h.inv_cons
  cases r with
  |nil=>rw[h2.inv_nil];exact h1
  |cons b r =>
   obtain ⟨v',vals'',rfl,h3,h4⟩:=h2.inv_cons
   exact .tupOf (cs:=#[v,v']++vals''.toArray |> fun _=>(v::v'::vals'').toArray) h
theorem results_run {fn:Func}{tmps:Array Value}{vals:List Value}{w:World}(h:(fn.results.toList.mapM (resOf tmps)).run P w=.ok vals w):(results fn tmps).run P w=.ok (wholeV vals) w:=by
 have e:results fn tmps=(do let vs ← fn.results.mapM (resOf tmps);pure (if h:vs.size=1 then vs[0] else .tuple vs)):=rfl
 rw[e,Array.mapM_eq_mapM_toList]
 simp[h,wholeV]
mutual
theorem below_sound {m:Mem}{μ μ':Mu}{i i':Inf}{n:Nat}(h:∀ id,id<n→μ' id=μ id∧i' id=i id):∀ (a:AV) {z:Value},below n a=true→R m μ i z a→R m μ' i' z a
 |.p x,z,hb,hr=>by cases hr with|p _ _ hp=>exact .p _ _ hp
 |.nils,z,hb,hr=>by cases hr;exact .nils
 |.undef,z,hb,hr=>by cases hr;exact .undef
 |.rp cs,z,hb,hr=>by cases hr with|rp b o cells f hc=>exact .rp b o cs f hc
 |.arr id len gen,z,hb,hr=>by
  cases hr with|arr _ _ _ ad n c loc g sz h1 h2 h3 h4 =>
  obtain ⟨a1,a2⟩:=h id (Nat.blt_eq.mp hb)
  exact .arr _ len gen ad n c loc g sz (a1.trans h1) (a2.trans h2) h3 h4
 |.ptr id off,z,hb,hr=>by
  cases hr with|ptr _ _ loc h1 h2 =>
  obtain ⟨a1,a2⟩:=h id (Nat.blt_eq.mp hb)
  exact .ptr _ off loc (a1.trans h1) (a2.trans h2)
 |.eptr id idx off gen,z,hb,hr=>by
  cases hr with|eptr _ _ _ _ ad loc g sz h1 h2 h3 h4 =>
  obtain ⟨a1,a2⟩:=h id (Nat.blt_eq.mp hb)
  exact .eptr _ idx off gen ad loc g sz (a1.trans h1) (a2.trans h2) h3 h4
 |.ag cs,z,hb,hr=>by
  obtain ⟨ca,rfl,h1,h2⟩:=hr.ag_inv
  exact .agOf (belowL_sound h cs (by simpa [below] using hb) (RL.ofArr h1 h2))
 |.tup cs,z,hb,hr=>by
  obtain ⟨ca,rfl,h1,h2⟩:=hr.tup_inv
  exact .tupOf (belowL_sound h cs (by simpa [below] using hb) (RL.ofArr h1 h2))
 |.ifc t x,z,hb,hr=>by
  cases hr with|ifc _ z' _ hr=>exact .ifc _ _ _ (below_sound h x (by simpa [below] using hb) hr)
 |.fn f x y,z,hb,hr=>by
  obtain ⟨a,b,rfl,ha,hb'⟩:=hr.fnInv
  simp only[below,Bool.and_eq_true]at hb
  exact .fnOf (belowL_sound h x hb.1 ha) (belowL_sound h y hb.2 hb')
theorem belowL_sound {m:Mem}{μ μ':Mu}{i i':Inf}{n:Nat}(h:∀ id,id<n→μ' id=μ id∧i' id=i id):∀ (l:List AV) {zs:List Value},belowL n l=true→RL m μ i zs l→RL m μ' i' zs l
 |[],zs,hb,hr=>by rw[hr.inv_nil];exact .nil
 |a::r,zs,hb,hr=>by
  obtain ⟨z,zs,rfl,hz,hr⟩:=hr.inv_cons
  simp only[belowL,Bool.and_eq_true]at hb
  exact .cons (below_sound h a hb.1 hz) (belowL_sound h r hb.2 hr)
end
theorem leave_sound {m0 m:Mem}{μ0 μ:Mu}{G0 G G':Heap}{w0 w:World}{out out':Out}(hI:Inv m μ G w)(hext:Ext m0 μ0 G0 m μ G)(hfr:Fr m0 μ0 w0 m μ w)(ht:∀ id,id<G0.length→∃ l,μ0 id=some l)(hd:∀ id l,μ0 id=some l→id<G0.length)
  (h:leave G0.length out G=some (out',G')) {e:Ending} (ho:OutR m μ (inf G) out e):∃ μ',Inv m μ' G' w∧Stp m0 μ0 G0 w0 m μ' G' w∧OutR m μ' (inf G') out' e:=by
 unfold leave at h
 split at h
 ·rename_i hb
  cases h
  simp only[Bool.and_eq_true,List.all_eq_true]at hb
  let μ':Mu:=fun id=>if id<G0.length then μ id else none
  have hin:∀ id,id<G0.length→μ' id=μ id∧inf (G.take G0.length) id=inf G id:=fun id hid=>by
   refine ⟨by simp[μ',hid],?_⟩
   unfold inf
   rw[List.getElem?_take,if_pos hid]
  have hinv:∀ id loc,μ' id=some loc→id<G0.length∧μ id=some loc:=fun id loc hl=>by
   simp only[μ']at hl
   split at hl
   ·exact ⟨by assumption,hl⟩
   ·cases hl
  have hmap:∀ id,id<G0.length→∃ l,μ id=some l:=by
   intro id hid
   obtain ⟨l,hl⟩:=ht id hid
   have hi:inf G0 id=some (infO G0[id]):=by simp[inf,gG hid]
   cases hio:infO G0[id] with
   |none=>rw[hio]at hi;exact ⟨_,(hext.box id l hl hi).1⟩
   |some p =>
    rcases p with ⟨g,sz⟩
    rw[hio]at hi
    obtain ⟨l',_,h1,_⟩:=hext.arr id l g sz hl hi
    exact ⟨l',h1⟩
  refine ⟨μ',⟨hI.known,?_,?_,?_⟩,⟨⟨hext.mem,?_,?_⟩,⟨hfr.os,hfr.tape,hfr.output,hfr.size,hfr.blk,hfr.mem,fun id loc hl=>hfr.loc id loc (hinv id loc hl).2⟩,⟨?_,?_⟩⟩,?_⟩
  ·intro i j l l' h1 h2 he
   exact hI.inj i j l l' (hinv i l h1).2 (hinv j l' h2).2 he
  ·intro id o ho' loc hl
   obtain ⟨hid,hl'⟩:=hinv id loc hl
   rw[List.getElem?_take,if_pos hid]at ho'
   have hob:=hI.obj id o ho' loc hl'
   cases o with
   |arr sz rows g sl=>exact hob
   |box cells =>
    obtain ⟨cs,T,k1,k2,k3,k4,k5⟩:=hob
    have hbel:belowL G0.length cells=true:=by
     have:=hb.2 (.box cells) (by
      rw[List.mem_iff_getElem?]
      exact ⟨id,by rw[List.getElem?_take,if_pos hid];exact ho'⟩)
     exact this
    have:=belowL_sound (m:=m) (i':=inf (G.take G0.length)) hin cells hbel (RL.ofArr k2 k3)
    exact ⟨cs,T,k1,k2,fun j v a g1 g2=>this.2 j v a (by simpa using g1) g2,k4,k5⟩
  ·intro id loc hl
   obtain ⟨hid,hl'⟩:=hinv id loc hl
   have:=hI.dom id loc hl'
   simp
   omega
  ·intro id loc h1 h2
   obtain ⟨a1,a2⟩:=hext.box id loc h1 h2
   obtain ⟨b1,b2⟩:=hin id (hd id loc h1)
   exact ⟨b1.trans a1,b2.trans a2⟩
  ·intro id loc g sz h1 h2
   obtain ⟨l',g',a1,a2,a3,a4⟩:=hext.arr id loc g sz h1 h2
   obtain ⟨b1,b2⟩:=hin id (hd id loc h1)
   exact ⟨l',g',b1.trans a1,b2.trans a2,a3,a4⟩
  ·intro id hid _
   simp at hid
   obtain ⟨l,hl⟩:=hmap id (by omega)
   exact ⟨l,(hin id (by omega)).1.trans hl⟩
  ·intro id hid hn
   obtain ⟨l,hl⟩:=ht id hid
   rw[hl]at hn;cases hn
  ·cases out with
   |ret v=>cases e<;>first|exact ho.elim|exact below_sound hin v hb.1 ho
   |pan v=>cases e<;>first|exact ho.elim|(obtain ⟨z,h1,h2⟩:=ho;exact ⟨z,h1,below_sound hin v hb.1 h2⟩)
 ·cases h
structure FnOK (P:Program)(f:Nat)(c:CFun):Prop where
 ok:∃ fn code,P.funcs[f]?=some fn∧fn.body=some code∧(fn.name == "runtime.NumGoroutine")=false∧cCode P fn.ntmps code=some (erase c.body)∧cRes P fn.results.toList=some c.res
theorem init_lk:∀ (args:List AV) (k:Nat) (j:Nat) (x:AV),lk (iEv k args) j=some x→k≤j∧args[j-k]?=some x
 |[],k,j,x,h=>by simp[iEv,lk]at h
 |a::r,k,j,x,h=>by
  simp only[iEv,lk]at h
  split at h
  ·rename_i e;cases h;subst e;simp
  ·rename_i e
   obtain ⟨h1,h2⟩:=init_lk r (k+1) j x h
   refine ⟨by omega,?_⟩
   rw[show j-k=(j-(k+1))+1 by omega]
   simpa using h2
theorem fun_sound (hm:P.follows .mixedOrders=true)(hR:RoCall pg call)(hC:CallSound P call)(hE:CallEnters P call){k:Nat}(hL:LoopSound P loop k){f:Nat}{c:CFun}(hf:FnOK P f c){args:List AV}{G G':Heap}{out:Out}(h:evFun pg call loop c args G=some (out,G'))
  {m:Mem} {μ:Mu} {w:World} {vargs:List Value} (hI:Inv m μ G w) (ht:∀ id,id<G.length→∃ l,μ id=some l) (hr:RL m μ (inf G) vargs args) :
  Calls P f vargs.toArray w fun e w'=>∃ m' μ',Inv m' μ' G' w'∧Stp m μ G w m' μ' G' w'∧OutR m' μ' (inf G') out e:=by
 obtain ⟨fn,code,h1,h2,h3,h4,h5⟩:=hf.ok
 refine calls_of_wp h1 h2 ?_
 let E:Ent:=⟨m,μ,G,w,[]⟩
 have hp:Pt fn.ntmps E G (iEv 0 args) { tmps:=vargs.toArray++Array.replicate (fn.ntmps-vargs.toArray.size) undef,defers:=[] } w m μ:=by
  refine ⟨hI,⟨by simp;omega,fun k x hk=>?_⟩,rfl,ht,.refl _ _ _,.refl _ _ _⟩
  obtain ⟨_,hx⟩:=init_lk args 0 k x hk
  simp at hx
  have hlt:k<vargs.length:=by rw[hr.1];exact (gE hx).1
  have:=hr.2 k vargs[k] x (gG hlt) hx
  simpa [Array.getD_eq_getD_getElem?,Array.getElem?_append,hlt] using this
 unfold evFun at h
 have hbody:∀ {e:Ex} {env':Env} {G1:Heap},evCode pg call loop G.length c.body (iEv 0 args) G=some (e,env',G1)→Ends fn.ntmps E (bodyPost P fn fun e w'=>∃ m' μ',Inv m' μ' G' w'∧Stp m μ G w m' μ' G' w'∧OutR m' μ' (inf G') out e) e env' G1→code.wp P (bodyPost P fn fun e w'=>∃ m' μ',Inv m' μ' G' w'∧Stp m μ G w m' μ' G' w'∧OutR m' μ' (inf G') out e) { tmps:=vargs.toArray++Array.replicate (fn.ntmps-vargs.toArray.size) undef,defers:=[] } w :=
  fun hev hq=>code_sound (E:=E) hm hR hC hE hL ht (fun id l hl=>hI.dom id l hl) code c.body h4 hev hp hq
 have hret:∀ {env':Env} {G1:Heap},(match evRes env' G1 c.res with
    |none=>none
    |some vs=>if c.keepRes then some (Out.ret (whole vs),G1) else match norm G1 (whole vs) with
     |some (v,G')=>leave G.length (.ret v) G'
     |none=>none)=some (out,G')→∀ a' w' m' μ',Pt fn.ntmps E G1 env' a' w' m' μ'→a'.defers=[]∧∃ v,(results fn a'.tmps).run P w'=.ok v w'∧∃ m'' μ'',Inv m'' μ'' G' w'∧Stp m μ G w m'' μ'' G' w'∧OutR m'' μ'' (inf G') out (.returned v):=by
  intro env' G1 hres a' w' m' μ' hp'
  refine ⟨hp'.dfr,?_⟩
  split at hres
  ·cases hres
  ·rename_i vs hvs
   obtain ⟨vals,k1,k2⟩:=res_sound hp' fn.results.toList h5 hvs
   refine ⟨wholeV vals,results_run k1,?_⟩
   have hw:=whole_R k2
   split at hres
   ·cases hres
    refine ⟨m',μ',hp'.inv,⟨hp'.ext,hp'.fr,⟨fun id hid _=>hp'.tot id hid,fun id hid hn=>?_⟩⟩,hw⟩
    obtain ⟨l,hl⟩:=ht id hid
    rw[hl]at hn;cases hn
   ·split at hres
    ·rename_i v G2 hn
     obtain ⟨m2,i1,i2,i3⟩:=norm_sound _ hp'.inv hn hw
     obtain ⟨μ3,j1,j2,j3⟩:=leave_sound (out:=.ret v) i1 (hp'.ext.trans i2.ext) (hp'.fr.trans i2.fr) ht (fun id l hl=>hI.dom id l hl) hres (e:=.returned (wholeV vals)) i3
     exact ⟨m2,μ3,j1,j2,j3⟩
    ·cases hres
 cases hev:evCode pg call loop G.length c.body (iEv 0 args) G with
 |none=>rw[hev]at h;cases h
 |some r =>
  rcases r with ⟨e,env',G1⟩
  rw[hev]at h
  refine hbody hev fun a' w' m' μ' hp'=>?_
  cases e with
  |normal=>exact hret h a' w' m' μ' hp'
  |ret=>exact hret h a' w' m' μ' hp'
  |exit id=>cases h
  |pan v =>
   intro val hv
   dsimp only at h
   obtain ⟨μ3,j1,j2,j3⟩:=leave_sound (out:=.pan v) hp'.inv hp'.ext hp'.fr ht (fun id l hl=>hI.dom id l hl) h (e:=.panicked [{ v:=val,recovered:=false }]) ⟨val,rfl,hv⟩
   exact ⟨hp'.dfr,m',μ3,j1,j2,j3⟩
theorem quiet_fun {c:CFun}(hk:c.keepRes=false){args:List AV}{out:Out}{os':Heap}(h:evFun pg call loop c args []=some (out,os')):os'=[]∧out.below 0=true:=by
 have hl:∀ {o o':Out} {G G':Heap},leave 0 o G=some (o',G')→G'=[]∧o'.below 0=true:=by
  intro o o' G G' h
  unfold leave at h
  split at h
  ·rename_i hb
   cases h
   simp only[Bool.and_eq_true]at hb
   exact ⟨by simp,hb.1⟩
  ·cases h
 unfold evFun at h
 cases hev:evCode pg call loop ([]:Heap).length c.body (iEv 0 args) [] with
 |none=>rw[hev]at h;cases h
 |some r =>
  rcases r with ⟨e,env',G1⟩
  rw[hev]at h
  have hret:(match evRes env' G1 c.res with
    |none=>none
    |some vs=>if c.keepRes then some (Out.ret (whole vs),G1) else match norm G1 (whole vs) with
     |some (v,G')=>leave ([]:Heap).length (.ret v) G'
     |none=>none)=some (out,os')→os'=[]∧out.below 0=true:=by
   intro h
   split at h
   ·cases h
   ·rw[hk]at h
    simp only[Bool.false_eq_true,if_false]at h
    split at h
    ·exact hl h
    ·cases h
  cases e with
  |normal=>exact hret h
  |ret=>exact hret h
  |exit id'=>cases h
  |pan v=>exact hl h
structure PrgOK (P:Program)(pg:Prg):Prop where
 mixed:P.follows .mixedOrders=true
 code:∀ f c,pg.orc f=none→pg.code f=some c→FnOK P f c
 quiet:∀ f F args out G',pg.orc f=some F→pg.quiet f=true→F args=some (out,G')→G'=[]∧out.below 0=true
 orc:∀ f F,pg.orc f=some F→Entered P f∧∀ args out G',F args=some (out,G')→∀ m w vargs,Inv m (fun _=>none) [] w→RL m (fun _=>none) (inf []) vargs args →
  Calls P f vargs.toArray w fun e w'=>∃ m' μ',Inv m' μ' G' w'∧Stp m (fun _=>none) [] w m' μ' G' w'∧OutR m' μ' (inf G') out e
theorem sound_all (h:PrgOK P pg):∀ n,CallSound P (evCall pg n)∧CallEnters P (evCall pg n)∧RoCall pg (evCall pg n)∧LoopSound P (evLoop pg n) n∧RoLoop pg (evLoop pg n)
 |0=>⟨fun f args G out G' hc=>by simp[evCall]at hc,fun f args G r hc=>by simp[evCall]at hc,⟨fun f args out os' _ hc=>by simp[evCall]at hc,fun k f args os out os' _ _ hc=>by simp[evCall]at hc⟩,fun N E _ _ live c code env G e env' G' a w m μ Q _ hl=>by simp[evLoop]at hl,fun k b live a env G e F G' own own' _ _ _ _ _ h=>by simp[evLoop]at h⟩
 |n+1=>by
  obtain ⟨hC,hE,hR,hL,hRL⟩:=sound_all h n
  refine ⟨?_,?_,?_,?_,ro_loop n hR hRL⟩
  ·intro f args G out G' hc m μ w vargs hI ht hr
   unfold evCall at hc
   split at hc
   ·rename_i F ho
    split at hc
    ··have hμ:μ=fun _=>none:=by
       funext id
       cases hm:μ id with
       |none=>rfl
       |some l=>have:=hI.dom id l hm;simp at this
      subst hμ
      exact (h.orc f F ho).2 args out G' hc m w vargs hI hr
    ·cases hc
   ·rename_i ho
    split at hc
    ·rename_i c hcode
     exact fun_sound h.mixed hR hC hE hL (h.code f c ho hcode) hc hI ht hr
    ·cases hc
  ·intro f args G r hc
   unfold evCall at hc
   split at hc
   ·rename_i F ho
    exact (h.orc f F ho).1
   ·rename_i ho
    split at hc
    ·rename_i c hcode
     obtain ⟨fn,code,h1,h2,h3,_⟩:=(h.code f c ho hcode).ok
     exact ⟨fn,h1,h3,by rw[h2];rfl⟩
    ·cases hc
  ·refine ⟨fun f args out os' hf hc=>?_,?_⟩
   ·unfold evCall at hc
    unfold quietFn at hf
    cases ho:pg.orc f with
    |some F =>
     rw[ho]at hc hf
     exact h.quiet f F args out os' ho hf hc
    |none =>
     rw[ho]at hc hf
     dsimp only at hc hf
     cases hcode:pg.code f with
     |none=>rw[hcode]at hc;cases hc
     |some c =>
      rw[hcode]at hc hf
      simp only[Bool.not_eq_true']at hf
      exact quiet_fun hf hc
   intro k f args os out os' hf hcl hc
   cases k with
   |zero=>simp[roFnD]at hf
   |succ k =>
   unfold roFnD at hf
   split at hf
   ·rename_i c ho hcode
    unfold evCall at hc
    rw[ho,hcode]at hc
    exact ro_fun hR hRL hf hcl hc
   ·cases hf
  ·intro N E hE0 hE1 live c code env G e env' G' a w m μ Q hcc hl hp hq
   unfold evLoop at hl
   cases hev:evCode pg (evCall pg n) (evLoop pg n) E.G.length c env G with
   |none=>rw[hev]at hl;cases hl
   |some r =>
    rcases r with ⟨e1,env1,G1⟩
    rw[hev]at hl
    rw[rounds_succ]
    refine code_sound (k:=n) h.mixed hR hC hE hL hE0 hE1 code c hcc hev hp ?_
    cases e1 with
    |normal =>
     intro a' w' m' μ' hp'
     dsimp only at hl
     split at hl
     ·rename_i env2 G2 hg
      obtain ⟨μ2,hp2⟩:=gc_sound hE0 hE1 hg hp'
      exact hL N E hE0 hE1 hcc hl hp2 hq
     ·cases hl
    |exit id=>cases hl;exact ends_then (by simp) hq
    |ret=>cases hl;exact ends_then (by simp) hq
    |pan v=>cases hl;exact ends_then (by simp) hq
theorem E_sound (h:PrgOK P pg){f:Nat}{args:List AV}{out:Out}{G':Heap}(he:E pg f args []=some (out,G')){m:Mem}{w:World}{vargs:List Value}(hI:Inv m (fun _=>none) [] w)(hr:RL m (fun _=>none) (inf []) vargs args) :
  Calls P f vargs.toArray w fun e w'=>∃ m' μ',Inv m' μ' G' w'∧Stp m (fun _=>none) [] w m' μ' G' w'∧OutR m' μ' (inf G') out e:=by
 obtain ⟨n,hn⟩:=E_iff.1 he
 exact (sound_all h n).1 f args [] out G' hn m _ w vargs hI (fun id h=>by simp at h) hr
end
def comp (P:Program)(f:Nat):Option (CCode×List CRes):=match P.funcs[f]? with
 |some fn=>if (fn.name == "runtime.NumGoroutine")=true then none else cFunc P fn
 |none=>none
theorem fnOK {P:Program}{f:Nat}{c:CFun}(h:comp P f=some (erase c.body,c.res)):FnOK P f c:=by
 unfold comp at h
 split at h
 ·rename_i fn hf
  split at h
  ·cases h
  ·rename_i hn
   unfold cFunc at h
   split at h
   ·cases h
   ·rename_i code hb
    split at h
    ·rename_i b r h1 h2
     cases h
     exact ⟨fn,code,hf,hb,by simpa using hn,h1,h2⟩
    ·cases h
 ·cases h
def AllOK (P:Program):List (Nat×CFun)→Prop
 |[]=>True
 |p::r=>FnOK P p.1 p.2∧AllOK P r
theorem AllOK.mem {P:Program}:∀ {l:List (Nat×CFun)},AllOK P l→∀ f c,(f,c)∈l→FnOK P f c
 |[],_,f,c,h=>by simp at h
 |p::r,hl,f,c,h=>by
  rcases List.mem_cons.1 h with rfl|h
  ·exact hl.1
  ·exact hl.2.mem f c h
def mkPrg (tbl:List (Nat×CFun))(orc:List (Nat×(List AV→Option (Out×Heap))))(quiet:List Nat):Prg :=
 ⟨fun f=>(tbl.find? (fun p=>Nat.beq p.1 f)).map (·.2),fun f=>(orc.find? (fun p=>Nat.beq p.1 f)).map (·.2),fun f=>quiet.contains f⟩
theorem mkPrg_code {tbl:List (Nat×CFun)}{orc:List (Nat×(List AV→Option (Out×Heap)))}{q:List Nat}{f:Nat}{c:CFun}(h:(mkPrg tbl orc q).code f=some c):(f,c)∈tbl:=by
 simp only[mkPrg,Option.map_eq_some_iff]at h
 obtain ⟨p,h1,rfl⟩:=h
 have:=List.find?_some h1
 have e:p.1=f:=Nat.eq_of_beq_eq_true this
 subst e
 exact List.mem_of_find?_eq_some h1
theorem mkPrg_orc {tbl:List (Nat×CFun)}{orc:List (Nat×(List AV→Option (Out×Heap)))}{q:List Nat}{f:Nat}{F:List AV→Option (Out×Heap)}(h:(mkPrg tbl orc q).orc f=some F):(f,F)∈orc:=by
 simp only[mkPrg,Option.map_eq_some_iff]at h
 obtain ⟨p,h1,rfl⟩:=h
 have:=List.find?_some h1
 have e:p.1=f:=Nat.eq_of_beq_eq_true this
 subst e
 exact List.mem_of_find?_eq_some h1
inductive Is {α:Type}(c:α):Prop where
 |mk:Is c
abbrev Ig (α:Type):=(c:α)→Is c→α
abbrev Ih (α:Type)(c:α):=Is c→α
theorem Im {α:Type}(c:α):Is c:=.mk
abbrev cr (c:CFun):=some (erase c.body,c.res)
namespace Y
def t (n:Nat):Opd:=.t n
def i (n:Int):Opd:=.k (.p (.i .i64 n))
def T:Opd:=.k (.p (.b true))
def N:Opd:=.k (.p (.b false))
def y (n:Int):AV:=.p (.i .i64 n)
def z:AV:=.p (.i .i64 0)
def I (d:Nat)(o:COp):CI:=⟨some d,o,none⟩
def J (g:Nat)(c:CI):CI:=⟨c.d,c.o,some (g,false)⟩
def K (g:Nat)(c:CI):CI:=⟨c.d,c.o,some (g,true)⟩
def A (d k s j:Nat):CI:=⟨some d,.iaddr k none (.t s) (.t j),none⟩
def V (d s:Nat):CI:=⟨some d,.len false (.t s),none⟩
def H (d s:Nat):CI:=⟨some d,.not (.t s),none⟩
def a (d f x:Nat):CI:=⟨some d,.call f [.t x],none⟩
def b (d f x y:Nat):CI:=⟨some d,.call f [.t x,.t y],none⟩
def c (d f x y z:Nat):CI:=⟨some d,.call f [.t x,.t y,.t z],none⟩
def D (d x y:Nat):CI:=⟨some d,.pick (.t x) (.k (.p (.b true))) (.t y),none⟩
def e (d x y:Nat):CI:=⟨some d,.pick (.t x) (.t y) (.k (.p (.b false))),none⟩
def M (d s:Nat):CI:=⟨some d,.mov (.t s),none⟩
def F (d k s:Nat):CI:=⟨some d,.faddr k (.t s),none⟩
def l (d k s:Nat):CI:=⟨some d,.load k false (.t s),none⟩
def r (d k s:Nat):CI:=⟨some d,.load k true (.t s),none⟩
def S (k a b:Nat):CI:=⟨none,.store k (.t a) (.t b),none⟩
def X (d s k:Nat):CI:=⟨some d,.extract (.t s) k,none⟩
def B (d:Nat)(o:BinOp)(s:Nat)(x:Opd):CI:=⟨some d,.bin o .int (.t s) x,none⟩
def Q (a b:CCode):CCode:=.seq a b
def O (l:List Nat)(a:List CI):CCode:=.ops l a
def C (c:Opd)(a b:CCode):CCode:=.cond c a b
end Y
end Go.Proofs.Z
end
