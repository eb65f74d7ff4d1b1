/- A part of the proof. -/
import Derived.Test.YtffohgbmjjbhiaaGreatB04
import Derived.LoopN
import Derived.Test.YtffohgbmjjbhiaaGreatB00
import Derived.Laws.Sem
import Derived.KernelRfl
import Derived.Test.YtffohgbmjjbhiaaGreatProg
set_option linter.all false
namespace Go.Proofs.Z
def ET (wV:Nat->Bool)(aN:Env):Env:=aN.filter λp=>!wV p.1
theorem uj (wV:Nat->Bool):∀(aN:Env) (t:Nat),lk (ET wV aN) t=if wV t=true then none else lk aN t
 |[],t=>by simp[ET,lk]
 |(k,v)::r,t=>by
  have ih:=uj wV r t;unfold ET at ih ⊢;rw[ig];by_cases hp:wV k=true
  ·simp only[hp,V2,aZ,if_false];rw[ih];simp only[lk];by_cases e:k=t
   ·subst e;simp[hp]
   ·simp[e]
  ·simp only[hp,jh,if_true,lk];by_cases e:k=t
   ·subst e;simp[hp]
   ·simp only[e,if_false];exact ih
section
variable {P:Program}{pg:fX}{call:di}{N:Nat}{ops:Array Oper}{E:zR}{l:List CI}{T:List (List Nat)}{chk:List qK}
def mo (bR:Array Bool)(n k:Nat):Bool:=Nat.blt k n && !bR.getD k true
def wW (l:List CI)(bR:Array Bool):List Nat:=(List.range l.length).filter λk=>mo bR l.length k && !nU l dZ k
def XZ (l:List CI)(bR:Array Bool)(t:Nat):Prop:=∃q d cells,mo bR l.length q=true/\l[q]?=some ⟨some d,.new cells,none⟩/\t=d
structure St (pg:fX)(call:di)(N:Nat)(ops:Array Oper)(E:zR)(l:List CI)(af:List (List Nat))(L:Nat)(pid:Nat->Nat)(F:Env)(GF:Heap)(bR:Array Bool)(a:Act)(w:World)
  (aN:Env) (G:Heap) (m:Mem) (μ:Mu):Prop where
 size:bR.size=l.length
 down:∀k,k<l.length->bR.getD k true=true->∀e,e∈af.getD k []->bR.getD e true=true
 ev:∃F',uf pg call (gz l (wW l bR)) aN G=some (F',GF)/\zu F' F
 inv:Inv m μ G w
 tmps:N<=a.tmps.size
 val:∀t x,lk aN t=some x->¬ XZ l bR t->R m μ (inf G) (a.tmps.getD t undef) x
 tG:a.defers=E.ds
 wV:∀q d cells,mo bR l.length q=true->l[q]?=some ⟨some d,.new cells,none⟩->lk aN d=some (.ptr (pid q) 0)/\μ (pid q)=none/\G[pid q]?=some (.box cells)/\cells.all AV.flat=true
 named:∀id,id<G.length->μ id=none->∃q,mo bR l.length q=true/\nU l dZ q=true/\pid q=id
 ext:Ext E.m E.μ E.G m μ G
 fr:Fr E.m E.μ E.w m μ w
 low:L<=G.length
theorem GU {bR:Array Bool}{n i k:Nat}(hs:bR.size=n)(hi:i<n):mo (bR.setIfInBounds i true) n k=(mo bR n k && !Nat.beq k i):=by
 unfold mo;by_cases e:k=i
 ·subst e;have:k<bR.size:=by omega
  simp[this]
 ·rw[getD_set_ne true (Ne.symm e)];have:Nat.beq k i=false:=by
   cases h:Nat.beq k i with
   |false=>rfl
   |true=>exact absurd (U2 h) e
  simp[this]
theorem St.done {af:List (List Nat)}{L:Nat}{pid:Nat->Nat}{F:Env}{GF:Heap}{bR:Array Bool}{a:Act}{w:World}{aN:Env}{G:Heap}{m:Mem}{μ:Mu}(h:St pg call N ops E l af L pid F GF bR a w aN G m μ)
  (hall:∀k,mo bR l.length k=false):Pt N E GF F a w m μ:=by
 have hr:wW l bR=[]:=by
  unfold wW;rw[mv];intro k hk;simp[hall k]
 obtain⟨F',h1,h2⟩:=h.ev;rw[hr]at h1;simp[gz,uf]at h1;obtain⟨rfl,rfl⟩:=h1;have hnp:∀t,¬ XZ l bR t:=by
  rintro t ⟨q,d,cells,hq,_⟩;rw[hall q]at hq;cases hq
 refine⟨h.inv,⟨h.tmps,λk x hk=>h.val k x (by rw[h2 k];exact hk) (hnp k)⟩,h.tG,λid hid=>?_,h.ext,h.fr⟩;cases hμ:μ id with
 |some loc=>exact⟨loc,rfl⟩
 |none =>
  obtain⟨q,hq,_⟩:=h.named id hid hμ;rw[hall q]at hq;cases hq
theorem least {p:Nat->Bool}:∀(n:Nat),(∃k,k<n/\p k=true)->∃k,k<n/\p k=true/\∀j,j<k->p j=false
 |0,⟨k,h,_⟩=>by omega
 |n+1,⟨k,h,hp⟩=>by
  by_cases hx:∃k,k<n/\p k=true
  ·obtain⟨k,h1,h2,h3⟩:=least n hx;exact⟨k,by omega,h2,h3⟩
  ·have hk:k=n:=by
    by_cases e:k=n
    ·exact e
    ·exact absurd ⟨k,by omega,hp⟩ hx
   subst hk;refine⟨k,h,hp,λj hj=>?_⟩;cases hpj:p j with
   |false=>rfl
   |true=>exact absurd ⟨j,hj,hpj⟩ hx
variable (hlen:l.length=ops.size)(wR:∀(k:Nat) (o:Oper),ops[k]?=some o->∃c,l[k]?=some c/\mJ P N ops o=some c)
variable {af:List (List Nat)}(H2:af=ops.toList.map WB)(g_:H0 l af T chk)
include hlen wR H2 g_
theorem H3 {k:Nat}{o:Oper}(ho:ops[k]?=some o):af.getD k []=WB o:=by
 subst H2;simp[List.getD_eq_getElem?_getD,ho]
theorem X0 {bR:Array Bool}(hs:bR.size=l.length){i:Nat}:i∈Region.ready .any ops bR↔mo bR l.length i=true/\∀e,e∈af.getD i []->bR.getD e true=true:=by
 rw[mem_ready];constructor
 ·rintro⟨h0,o,ho,h⟩;have hi:i<l.length:=by rw[hlen];exact(Array.getElem?_eq_some_iff.1 ho).1
  refine⟨by simp[mo,h0,hi],λe he=>?_⟩;rw[H3 hlen wR H2 g_ ho]at he;simp only[WB,bj,dH]at he;obtain⟨ed,⟨h1,h2⟩,rfl⟩:=he;have:=h ed (by simpa using h1) h2;by_cases hlt:ed.on<bR.size
  ·simpa [bQ,hlt] using this
  ·simp[bQ,hlt]at this
 ·rintro⟨h0,h⟩;simp only[mo,ab,bJ,a_]at h0;obtain⟨hi,h0⟩:=h0;have ho:=Array.getElem?_eq_getElem (xs:=ops) (i:=i) (by omega);refine⟨h0,_,ho,λed hed hb=>?_⟩;have hm:ed.on∈af.getD i []:=by
   rw[H3 hlen wR H2 g_ ho];simp only[WB,bj,dH];exact⟨ed,⟨by simpa using hed,hb⟩,rfl⟩
  have h1:=h _ hm;have h2:=g_.e1 i hi _ hm;have hlt:ed.on<bR.size:=by omega
  simpa [bQ,hlt] using h1
theorem zT {bR:Array Bool}(hdown:∀k,k<l.length->bR.getD k true=true->∀e,e∈af.getD k []->bR.getD e true=true) :
  ∀(i:Nat),i<l.length->(∀e,e∈af.getD i []->bR.getD e true=true)->∀x,x∈T.getD i []->bR.getD x true=true:=by
 intro i
 induction i using Nat.strongRecOn with
 |_ i ih =>
  intro hi hall x hx;rcases g_.e2 i hi x hx with h|⟨m,hm,hx'⟩
  ·exact hall x h
  ·have hmi:=g_.e1 i hi m hm;exact ih m hmi (by omega) (hdown m (by omega) (hall m hm)) x hx'
theorem DH (hR:ir pg call)(hC:f_ P call)(hE:fy P call){Q:Exit->Act->World->Prop}{L:Nat}{pid:Nat->Nat}{F:Env}{GF:Heap}
  (hpid:∀q q',nU l dZ q=true->nU l dZ q'=true->pid q=pid q'->q=q')
  (hchk:∀c,c∈chk->VS pg F L c=true)
  (hq:∀a w m μ,Pt N E GF F a w m μ->Q .normal a w):∀(fuel:Nat) {bR:Array Bool} {a:Act} {w:World} {aN:Env} {G:Heap} {m:Mem} {μ:Mu},St pg call N ops E l af L pid F GF bR a w aN G m μ ->
   ((List.range l.length).filter (mo bR l.length)).length<=fuel->wpAny P .any ops Q fuel bR a w:=by
 intro fuel
 induction fuel with
 |zero =>
  intro bR a w aN G m μ hst hfuel;have hall:∀k,mo bR l.length k=false:=by
   intro k;cases hk:mo bR l.length k with
   |false=>rfl
   |true =>
    have hlt:k<l.length:=by simp only[mo,ab,bJ]at hk;exact hk.1
    have:k∈(List.range l.length).filter (mo bR l.length):=by simp[hlt,hk]
    have:=fZ this;omega
  refine⟨?_,hq a w m μ (hst.done hall)⟩;cases hr:Region.ready .any ops bR with
  |nil=>rfl
  |cons i r =>
   have:i∈Region.ready .any ops bR:=by rw[hr];simp
   rw[X0 hlen wR H2 g_ hst.size,hall i]at this;cases this.1
 |succ fuel ih =>
  intro bR a w aN G m μ hst hfuel;refine⟨λhr=>?_,λi hi=>?_⟩
  ·
   refine hq a w m μ (hst.done λk=>?_);cases hk:mo bR l.length k with
   |false=>rfl
   |true =>
    have hlt:k<l.length:=by simp only[mo,ab,bJ]at hk;exact hk.1
    obtain⟨j,h1,h2,h3⟩:=least (p:=mo bR l.length) l.length ⟨k,hlt,hk⟩;have:j∈Region.ready .any ops bR:=by
     rw[X0 hlen wR H2 g_ hst.size];refine⟨h2,λe he=>?_⟩;have hej:=g_.e1 j h1 e he;have:=h3 e hej;have hel:e<l.length:=by omega
     cases hx:bR.getD e true with
     |true=>rfl
     |false =>
      have hb:Nat.blt e l.length=true:=bJ.mpr hel;simp[mo,hb,hx]at this
    rw[hr]at this;cases this
  ·rw[X0 hlen wR H2 g_ hst.size]at hi;obtain⟨hiu,hia⟩:=hi;have hilt:i<l.length:=by simp only[mo,ab,bJ]at hiu;exact hiu.1
   have hdone:=zT hlen wR H2 g_ hst.down i hilt hia;have hout:∀k,mo bR l.length k=true->k∉af.getD i []/\k∉T.getD i []:=by
    intro k hk;have hk':bR.getD k true=false:=by simp only[mo,ab,a_]at hk;exact hk.2
    refine⟨λh=>?_,λh=>?_⟩
    ·rw[hia k h]at hk';cases hk'
    ·rw[hdone k h]at hk';cases hk'
   have ho:=Array.getElem?_eq_getElem (xs:=ops) (i:=i) (by omega);obtain⟨ci,hci,hcoi⟩:=wR i _ ho;have hsize':(bR.setIfInBounds i true).size=l.length:=by simpa using hst.size
   have hunl':∀k,mo (bR.setIfInBounds i true) l.length k=(mo bR l.length k && !Nat.beq k i):=λk=>GU hst.size hilt;have hbeq:∀k,k≠i->Nat.beq k i=false:=λk hk=>by
    cases h:Nat.beq k i with
    |false=>rfl
    |true=>exact absurd (U2 h) hk
   have hbeqi:Nat.beq i i=true:=Nat.beq_refl i;have hunlt:∀k,mo (bR.setIfInBounds i true) l.length k=true->mo bR l.length k=true/\k≠i:=λk hk=>by
    rw[hunl' k]at hk;simp only[ab,a_]at hk;exact⟨hk.1,λe=>by subst e;rw[hbeqi]at hk;cases hk.2⟩
   have hunlf:∀k,mo bR l.length k=true->k≠i->mo (bR.setIfInBounds i true) l.length k=true:=λk hk hne=>by
    rw[hunl' k,hk,hbeq k hne];rfl
   have hdown':∀k,k<l.length->(bR.setIfInBounds i true).getD k true=true->∀e,e∈af.getD k []->(bR.setIfInBounds i true).getD e true=true:=by
    intro k hk hkl e he;have hmono:∀x,bR.getD x true=true->(bR.setIfInBounds i true).getD x true=true:=λx hx=>by
     by_cases ex:i=x
     ·subst ex;have:i<bR.size:=by rw[hst.size];exact hilt
      simp[this]
     ·rw[getD_set_ne true ex];exact hx
    by_cases ek:k=i
    ·subst ek;exact hmono e (hia e he)
    ·rw[getD_set_ne true (Ne.symm ek)]at hkl;exact hmono e (hst.down k hk hkl e he)
   have hfuel':((List.range l.length).filter (mo (bR.setIfInBounds i true) l.length)).length<=fuel:=by
    rw[range_split hilt _ hiu]at hfuel;rw[oW hilt (mo bR l.length) (mo (bR.setIfInBounds i true) l.length) (by rw[hunl',hbeqi];simp) (λk hk=>by rw[hunl',hbeq k hk];simp)];simp only[aR,av]at hfuel ⊢;omega
   unfold wpOp;rw[ho];dsimp only;by_cases hnew:dZ ci=true
   ·
    obtain⟨d,cells,rfl⟩:=sP hnew;obtain⟨c1,c2,c3,c4⟩:=nD hcoi;dsimp only at c1 c2 c4;obtain⟨TT,hT,hz⟩:=GS c1;obtain⟨p1,p2,p3,p4⟩:=hst.wV i d cells hiu hci;have hw:Region.wanted ops[i] (yielded ops a.tmps)=true:=by
     rcases c4 with ⟨g1,_⟩|⟨j,w',d',_,_,g3⟩
     ·simp[Region.wanted,g1]
     ·cases g3
    rw[hw];simp only[if_true];left;obtain⟨vs,hvs,hrun⟩:=DG (P:=P) (a:=a) hT hz p4 w;refine i_ hrun ?_;obtain⟨n1,n2,n3,n4⟩:=newAt hst.inv p3 p2 TT hvs p4;refine ih (aN:=aN) (G:=G) (m:=m) (μ:=λk=>if k=pid i then some ⟨w.heap.size,0⟩ else μ k) ⟨hsize',hdown',?_,n1,?_,?_,?_,?_,?_,?_,?_,hst.low⟩ hfuel'
    ·have:wW l (bR.setIfInBounds i true)=wW l bR:=by
      unfold wW;refine gd λk hk=>?_;by_cases e:k=i
      ·subst e;have:nU l dZ k=true:=by simp[nU,hci,hnew]
       simp[this]
      ·rw[hunl',hbeq k e];simp
     rw[this];exact hst.ev
    ·rw[<- c2];simp[Act.put];exact hst.tmps
    ·intro t x hx hnp;rw[<- c2];by_cases e:t=d
     ·subst e;rw[p1]at hx;cases hx;have hd':t<N:=by rw[<- c2]at c3;simpa [zn,bJ] using c3
      have hts:t<a.tmps.size:=eW hd' hst.tmps;simpa [Act.put,hts] using n4
     ·have hold:¬ XZ l bR t:=by
       rintro⟨q,d',cells',hqu,hql,rfl⟩;by_cases eq:q=i
       ·subst eq;rw[hci]at hql;cases hql;exact e rfl
       ·exact hnp ⟨q,t,cells',hunlf q hqu eq,hql,rfl⟩
      have hr:=(hst.val t x hx hold).mono n2;simpa [Act.put,bQ,Array.getElem?_setIfInBounds,Ne.symm e] using hr
    ·rw[Act.j5];exact hst.tG
    ·intro q d' cells' hqu hql;obtain⟨hqu',hne⟩:=hunlt q hqu;obtain⟨b1,b2,b3,b4⟩:=hst.wV q d' cells' hqu' hql;refine⟨b1,?_,b3,b4⟩;have:pid q≠pid i:=λe=>hne (hpid q i (by simp[nU,hql,dZ]) (by simp[nU,hci,hnew]) e);simp[this,b2]
    ·intro id hid hn;split at hn
     ·cases hn
     ·rename_i hne;obtain⟨q,b1,b2,b3⟩:=hst.named id hid hn;refine⟨q,hunlf q b1 (λe=>?_),b2,b3⟩;subst e;exact hne b3.symm
    ·exact hst.ext.trans n2
    ·exact hst.fr.trans n3
   ·
    have hnew':dZ ci=false:=by simpa using hnew
    have hfi:(λk=>mo bR l.length k && !nU l dZ k) i=true:=by simp[hiu,nU,hci,hnew']
    have hsplit:wW l bR=(List.range i).filter (λk=>mo bR l.length k && !nU l dZ k)++i::(List.range' (i+1) (l.length-i-1)).filter (λk=>mo bR l.length k && !nU l dZ k):=range_split hilt _ hfi;have hoff:wW l (bR.setIfInBounds i true)=(List.range i).filter (λk=>mo bR l.length k && !nU l dZ k)++(List.range' (i+1) (l.length-i-1)).filter (λk=>mo bR l.length k && !nU l dZ k) :=
     oW hilt _ _ (by rw[hunl',hbeqi];simp) (λk hk=>by rw[hunl',hbeq k hk];simp)
    generalize hp:(List.range i).filter (λk=>mo bR l.length k && !nU l dZ k)=p at hsplit hoff;generalize hqq:(List.range' (i+1) (l.length-i-1)).filter (λk=>mo bR l.length k && !nU l dZ k)=q at hsplit hoff;have hpm:∀j,j∈p->j<i/\mo bR l.length j=true/\nU l dZ j=false:=by
     intro j hj;rw[<- hp]at hj;simp at hj;exact hj
    have hqm:∀j,j∈q->i<j/\mo bR l.length j=true/\nU l dZ j=false:=by
     intro j hj;rw[<- hqq]at hj;simp[VM]at hj;obtain⟨⟨h1,h2⟩,h3⟩:=hj;exact⟨by omega,h3⟩
    have hps:p.Pairwise (·<·):=by rw[<- hp];exact iX _ mw
    have hnat:∀{k:Nat} {c:CI},l[k]?=some c->nU l dZ k=dZ c:=λh=>by simp[nU,h]
    obtain⟨F',hev,hF⟩:=hst.ev;rw[hsplit,rS,qU hci]at hev;have hreads:cN (bg ci.o)=false->∀t,t∈ej ci->∀k ck,mo bR l.length k=true->l[k]?=some ck->ck.d≠some t:=by
     intro hs t ht k ck hk hck e;rcases g_.e4 i k ci ck t hci hck e ht with ⟨_,h2⟩|⟨_,_,h3,_⟩
     ·exact(hout k hk).1 h2
     ·rw[hs]at h3;cases h3
    have hstab:yv ci (gz l p++ci::gz l q):=by
     intro hs t ht c' hc';simp only[Uz,aA]at hc';rcases hc' with h|rfl|h
     ·obtain⟨k,hk,hck⟩:=jZ h;exact hreads hs t ht k c' (hpm k hk).2.1 hck
     ·exact hreads hs t ht i c' hiu hci
     ·obtain⟨k,hk,hck⟩:=jZ h;exact hreads hs t ht k c' (hqm k hk).2.1 hck
    have hfree:∀j,j∈gz l p->GO pg F' L j ci:=by
     intro cj hj;obtain⟨j,hjp,hcj⟩:=jZ hj;obtain⟨hji,hju,hjn⟩:=hpm j hjp;refine⟨λd hd=>g_.e3 i j ci cj d (by omega) hci hcj hd,λd hd hr=>?_,λd hd hr=>?_,?_⟩
     ·rcases g_.e4 i j ci cj d hci hcj hd hr with ⟨_,h2⟩|⟨h1,_⟩
      ·exact(hout j hju).1 h2
      ·omega
     ·rcases g_.e4 j i cj ci d hcj hci hd hr with ⟨h1,_⟩|⟨_,h2,_⟩
      ·omega
      ·exact(hout j hju).2 h2
     ·rcases g_.e5 j i cj ci hji hcj hci (by rw[<- hnat hcj];exact hjn) hnew' with h|⟨cs,h1,h2⟩
      ·exact absurd h (hout j hju).2
      ·exact⟨cs,h1,λc hc=>by rw[XT (F:=F) (λt _=>hF t)];exact hchk c (h2 c hc)⟩
    have hstabp:∀a' j b,gz l p=a'++j::b->yv j (j::b++ci::gz l q):=by
     intro a' cj b hab hs t ht c' hc' e;have hsplitp:∃p1 j p2,p=p1++j::p2/\l[j]?=some cj/\gz l p2=b:=by
      clear hsplit hoff hev hstab hfree hp hps;revert a' p;intro p
      induction p with
      |nil=>intro _ a' h;simp[gz]at h
      |cons x p ihp =>
       intro hpm' a' h;cases hx:l[x]? with
       |none =>
        have:gz l (x::p)=gz l p:=by simp[gz,hx]
        rw[this]at h;obtain⟨p1,j,p2,rfl,h2,h3⟩:=ihp (λj hj=>hpm' j (by simp[hj])) a' h;exact⟨x::p1,j,p2,rfl,h2,h3⟩
       |some cx =>
        rw[qU hx]at h;cases a' with
        |nil =>
         simp at h;exact⟨[],x,p,rfl,by rw[hx,h.1],h.2⟩
        |cons y a' =>
         simp at h;obtain⟨p1,j,p2,rfl,h2,h3⟩:=ihp (λj hj=>hpm' j (by simp[hj])) a' h.2;exact⟨x::p1,j,p2,rfl,h2,h3⟩
     obtain⟨p1,j,p2,hpp,hcj,hb⟩:=hsplitp;have hji:j<i:=(hpm j (by rw[hpp];simp)).1;have hkey:∀k ck,j<=k->l[k]?=some ck->ck.d≠some t:=by
      intro k ck hjk hck e;rcases g_.e4 j k cj ck t hcj hck e ht with ⟨h1,_⟩|⟨_,_,h3,_⟩
      ·omega
      ·rw[hs]at h3;cases h3
     simp only[aH,aA,Uz]at hc';rcases hc' with rfl|h|rfl|h
     ·exact hkey j c' (aB _) hcj e
     ·rw[<- hb]at h;obtain⟨k,hk,hck⟩:=jZ h;rw[hpp,List.pairwise_append]at hps;have:=(List.pairwise_cons.1 hps.2.1).1 k hk;exact hkey k c' (by omega) hck e
     ·exact hkey i c' (by omega) hci e
     ·obtain⟨k,hk,hck⟩:=jZ h;exact hkey k c' (by have:=(hqm k hk).1;omega) hck e
    obtain⟨F1,hev1,hF1⟩:=EH hR (gz l p) hst.low hev hstab hstabp hfree;simp only[aH,uf]at hev1;split at hev1
    ·cases hev1
    ·rename_i e1 G1 hstep;obtain⟨v,rfl,hst2,_⟩:=nz hstep;have hpendr:∀t,t∈ej ci->¬ XZ l bR t:=by
      rintro t ht ⟨qk,d,cells,hqu,hql,rfl⟩;rcases g_.e4 i qk ci _ t hci hql rfl ht with ⟨_,h2⟩|⟨_,_,_,h4⟩
      ·exact(hout qk hqu).1 h2
      ·simp[dZ]at h4
     let pb:Nat->Bool:=λt=>(List.range l.length).any λq=>mo bR l.length q && nU l (λc=>dZ c && (match c.d with|some d=>Nat.beq d t|none=>false)) q
     have hpb:∀t,pb t=true↔XZ l bR t:=by
      intro t;constructor
      ·intro h;simp only[pb,fC,ab]at h;obtain⟨qk,_,h1,h2⟩:=h;unfold nU at h2;split at h2
       ·rename_i c hc;simp only[ab]at h2;obtain⟨d,cells,rfl⟩:=sP h2.1;exact⟨qk,d,cells,h1,hc,(U2 h2.2).symm⟩
       ·cases h2
      ·rintro⟨qk,d,cells,h1,h2,rfl⟩;simp only[pb,fC,ab];refine⟨qk,?_,h1,?_⟩
       ·simp only[mo,ab,bJ]at h1;simp[h1.1]
       ·simp[nU,h2,dZ]
     have henvS:iq m μ (inf G) N (ET pb aN) a:=by
      refine⟨hst.tmps,λk x hk=>?_⟩;rw[uj]at hk;split at hk
      ·cases hk
      ·rename_i hn;exact hst.val k x hk (λh=>hn ((hpb k).2 h))
     have hstepS:=hst2 (ET pb aN) (λt ht=>by
      rw[uj,aa];intro h;exact hpendr t ht ((hpb t).1 h))
     obtain⟨c1,c2,c3,c4⟩:=nD hcoi;have hfinal:=XY (P:=P) (ops:=ops) (N:=N) hC hE hcoi hstepS hst.inv henvS (a:=a) (w:=w) (next:=wpAny P .any ops Q fuel (bR.setIfInBounds i true)) (Q:=Q) ?_
     ·split
      ·rename_i hw;rw[ah hw]at hfinal;exact .inl hfinal
      ·rename_i hw;rw[aa hw]at hfinal;exact hfinal
     ·intro m' cA w' val hI' hS hE';refine ih (aN:=put aN ci.d v) (G:=G1) (m:=m') (μ:=cA) ⟨hsize',hdown',?_,hI',?_,?_,?_,?_,?_,?_,?_,?_⟩ hfuel'
      ·rw[hoff,rS];exact⟨F1,hev1,λt=>(hF1 t).trans (hF t)⟩
      ·have:=hE'.size;exact this
      ·intro t x hx hnp;refine hE'.val t x ?_;rw[lU]at hx ⊢;by_cases e:ci.d=some t
       ·rw[ah e]at hx ⊢;exact hx
       ·rw[aa e]at hx ⊢;rw[uj,aa]
        ·exact hx
        ·intro h;obtain⟨qk,d,cells,h1,h2,rfl⟩:=(hpb t).1 h;refine hnp ⟨qk,t,cells,hunlf qk h1 (λe'=>?_),h2,rfl⟩;subst e';rw[hci]at h2;cases h2;simp[dZ]at hnew'
      ·rw[Act.j5];exact hst.tG
      ·intro qk d cells hqu hql;obtain⟨hqu',hne⟩:=hunlt qk hqu;obtain⟨b1,b2,b3,b4⟩:=hst.wV qk d cells hqu' hql;obtain⟨k1,k2⟩:=hS.pX.bq (pid qk) (gE b3).1 b2;refine⟨?_,k1,k2.trans b3,b4⟩;rw[lU,aa]
       ·exact b1
       ·exact g_.e3 i qk ci _ d hne hci hql rfl
      ·intro id hid hn;by_cases hlt:id<G.length
       ·cases hμ:μ id with
        |some loc =>
         obtain⟨l',hl'⟩:=hS.pX.pX id hid (λ_=>⟨loc,hμ⟩);rw[hl']at hn;cases hn
        |none =>
         obtain⟨qk,b1,b2,b3⟩:=hst.named id hlt hμ;refine⟨qk,hunlf qk b1 (λe=>?_),b2,b3⟩;subst e;rw[hnat hci,hnew']at b2;cases b2
       ·obtain⟨l',hl'⟩:=hS.pX.pX id hid (λh=>absurd h hlt);rw[hl']at hn;cases hn
      ·exact hst.ext.trans hS.ext
      ·exact hst.fr.trans hS.fr
      ·exact cm hst.low (YC hstep)
end
theorem Inv.drawn {m:Mem}{μ:Mu}{G:Heap}{w:World}(h:Inv m μ G w)(k:Nat):Inv m μ G { w with drawn:=k }:=by
 refine⟨h.known,h.inj,λid o ho loc hl=>?_,h.ph⟩;have:=h.obj id o ho loc hl;cases o<;>exact this
section
variable {P:Program}{pg:fX}{call:di}{N:Nat}{ops:Array Oper}{E:zR}
theorem BH (hm:P.follows .mixedOrders=true)(hR:ir pg call)(hC:f_ P call)(hE:fy P call){Q:Exit->Act->World->Prop}{id:Nat}{l:List CI}(hl:pc P N ops ops.toList=some l){news rest:List CI}{chk:List qK}(hd:Cs l (ops.toList.map WB)=some (news,rest,chk))
  {aN:Env} {G:Heap} {a:Act} {w:World} {m:Mem} {μ:Mu} {env1:Env} {G1:Heap} {F:Env} {G2:Heap} (h1:dP pg call news aN G=some (.normal,env1,G1)) (h2:dP pg call rest env1 G1=some (.normal,F,G2))
  (hchk:chk.all (VS pg F G1.length)=true) (hp:Pt N E G aN a w m μ) (hq:∀a w m μ,Pt N E G2 F a w m μ->Q .normal a w):(Code.region id ops true).wp P Q a w:=by
 obtain⟨hlen',hat'⟩:=sO hl;have hlen:l.length=ops.size:=by simpa using hlen'
 have wR:∀(k:Nat) (o:Oper),ops[k]?=some o->∃c,l[k]?=some c/\mJ P N ops o=some c:=λk o ho=>hat' k o (by simpa using ho);obtain⟨rfl,rfl,hf⟩:=ES hd;have h1':=lp h1;have h2':=lp h2;rw[yB]at h1' h2';have hnew:∀q,q∈(List.range l.length).filter (nU l dZ)->∃d cells,l[q]?=some ⟨some d,.new cells,none⟩:=by
  intro q hq;simp only[dH,fp]at hq;have hc:=gG hq.1;have:dZ l[q]=true:=by simpa [nU,hc] using hq.2
  obtain⟨d,cells,e⟩:=sP this;exact⟨d,cells,by rw[hc,e]⟩
 obtain⟨g1,g2,pid,g3,g4,g5⟩:=zS ((List.range l.length).filter (nU l dZ)) hnew (iX _ (V7)) (λq q' d c c' _ _ hne hq hq'=>by
  have:=hf.e3 q' q _ _ d hne hq' hq rfl;exact this rfl) h1'
 have hnat:∀{q:Nat} {d:Nat} {cells:List AV},l[q]?=some ⟨some d,.new cells,none⟩->q∈(List.range l.length).filter (nU l dZ):=by
  intro q d cells hq;simp only[dH,fp];exact⟨(gE hq).1,by simp[nU,hq,dZ]⟩
 have hin:∀id,id<G.length->inf G1 id=inf G id:=λid hid=>by unfold inf;rw[g2 id hid]
 have hext:Ext m μ G m μ G1:=⟨λ_ _ _ h=>h,λk loc h h'=>⟨h,by rw[hin k (hp.inv.ph k loc h)];exact h'⟩,λk loc g sz h h'=>⟨loc,g,h,by rw[hin k (hp.inv.ph k loc h)];exact h',aB _,λ_=>rfl⟩⟩
 have hinv:Inv m μ G1 w:=by
  refine⟨hp.inv.known,hp.inv.inj,λk o ho loc hl=>?_,λk loc h=>eW (hp.inv.ph k loc h) g1⟩;rw[g2 k (hp.inv.ph k loc hl)]at ho;exact(hp.inv.obj k o ho loc hl).move hext rfl (λ_ h=>h)
 have hunl:∀k,mo (Array.replicate ops.size false) l.length k=Nat.blt k l.length:=by
  intro k;unfold mo;cases hk:Nat.blt k l.length with
  |false=>rfl
  |true =>
   have:k<ops.size:=by rw[<- hlen];exact bJ.mp hk
   simp[this]
 refine wp_region_any hm (DH (T:=Bq [] (ops.toList.map WB)) (chk:=chk) (E:=E) hlen wR rfl hf hR hC hE (L:=G1.length) (pid:=pid) (F:=F) (GF:=G2) ?_ (λc hc=>by simpa using bc.1 hchk c hc) hq ops.size (aN:=env1) (G:=G1) (m:=m) (μ:=μ) ⟨?_,?_,?_,hinv.drawn _,hp.aN.size,?_,hp.tG,?_,?_,hp.ext.trans hext,?_,aB _⟩ ?_)
 ·intro q q' hq hq';have hmem:∀q,nU l dZ q=true->q∈(List.range l.length).filter (nU l dZ):=by
   intro q hq;simp only[dH,fp];refine⟨?_,hq⟩;unfold nU at hq;split at hq
   ·rename_i hc;exact(gE hc).1
   ·cases hq
  exact g4 q q' (hmem q hq) (hmem q' hq')
 ·simp[hlen]
 ·intro k hk hkl;have:k<ops.size:=by omega
  simp[this]at hkl
 ·refine⟨F,?_,λ_=>rfl⟩;have:wW l (Array.replicate ops.size false)=(List.range l.length).filter (nU l λc=>!dZ c):=by
   unfold wW;refine gd λk hk=>?_;simp at hk;rw[hunl,bJ.mpr hk];simp[nU,gG hk]
  rw[this];exact h2'
 ·intro t x hx hnp;have:lk env1 t=lk aN t:=by
   refine uH h1' t λc hc e=>?_;obtain⟨k,hk,hck⟩:=jZ hc;obtain⟨d,cells,hk'⟩:=hnew k hk;rw[hk']at hck;cases hck;cases e;refine hnp ⟨k,t,cells,?_,hk',rfl⟩;rw[hunl];exact bJ.mpr (gE hk').1
  rw[this]at hx;exact(hp.aN.val t x hx).mono hext
 ·intro q d cells hq hql;obtain⟨b1,b2,b3,b4⟩:=g3 q d cells (hnat hql) hql;refine⟨b2,?_,b3,b4⟩;cases hμ:μ (pid q) with
  |none=>rfl
  |some loc=>have:=hp.inv.ph _ _ hμ;omega
 ·intro k hk hn;have hge:G.length<=k:=by
   rcases Nat.lt_or_ge k G.length with h|h
   ·obtain⟨loc,hl⟩:=hp.pX k h;rw[hl]at hn;cases hn
   ·exact h
  obtain⟨q,b1,b2⟩:=g5 k hge hk;simp only[dH,fp]at b1;exact⟨q,by rw[hunl];exact bJ.mpr b1.1,b1.2,b2⟩
 ·exact⟨hp.fr.os,hp.fr.tape,hp.fr.output,hp.fr.size,hp.fr.gD,hp.fr.mem,hp.fr.loc⟩
 ·refine cm (gq _ _) ?_;simp[hlen]
end
theorem sQ {aN:Env}:∀{live:List Nat} {p:Nat×AV},p∈U9 live aN->lk aN p.1=some p.2
 |[],p,h=>by simp[U9]at h
 |k::r,p,h=>by
  simp only[U9]at h;split at h
  ·rename_i v hv;rcases aA.1 h with rfl|h
   ·exact hv
   ·exact sQ h
  ·exact sQ h
theorem EU:∀{aN:Env} {k:Nat} {x:AV},lk aN k=some x->(k,x)∈aN
 |[],k,x,h=>by simp[lk]at h
 |(k',v)::r,k,x,h=>by
  simp only[lk]at h;split at h
  ·rename_i e;cases h;subst e;simp
  ·exact bA _ (EU h)
section
variable {m:Mem}{μ:Mu}{w:World}
theorem tI {a:Act}:∀(aN:Env) {e e':fI} {UO:Env},Inv m μ e.G w->mM μ e.ids->o9 e aN=some (UO,e')->(∀p,p∈aN->R m μ (inf e.G) (a.tmps.getD p.1 undef) p.2) ->
  mN μ w m e m e'/\e'.G=e.G/\∀p,p∈UO->R m (sub e'.ids μ) (sub e'.ids (inf e'.G)) (a.tmps.getD p.1 undef) p.2
 |[],e,e',UO,hI,hk,h,hr=>by
  simp[o9]at h;obtain⟨rfl,rfl⟩:=h;exact⟨.refl hI hk,rfl,λp hp=>by simp at hp⟩
 |(k,x)::r,e,e',UO,hI,hk,h,hr=>by
  simp only[o9]at h;split at h
  ·cases h
  ·rename_i x' e1 hx;split at h
   ·cases h
   ·rename_i r' e2 hr2;cases h;obtain⟨m1,hx1,hxr,hkk⟩:=sM true x hI hk hx (hr (k,x) (by simp));obtain⟨hG,hmm⟩:=hkk rfl;rw[hmm]at hx1 hxr;obtain⟨h1,h2,h3⟩:=tI r hx1.inv hx1.ok hr2 (λp hp=>by rw[hG];exact hr p (by simp[hp]));refine⟨hx1.trans h1,h2.trans hG,λp hp=>?_⟩;rcases aA.1 hp with rfl|hp
    ·exact hxr.rI h1.ext
    ·exact h3 p hp
variable {N:Nat}{E:zR}
theorem zU {live:List Nat}{aN UO:Env}{G G':Heap}{a:Act}(hE:∀id,id<E.G.length->∃l,E.μ id=some l)(hd:∀id l,E.μ id=some l->id<E.G.length)(h:gc E.G.length live aN G=some (UO,G'))(hp:Pt N E G aN a w m μ):∃cA,Pt N E G' UO a w m cA:=by
 unfold gc at h;split at h
 ·cases h
 ·rename_i env1 e hg;split at h
  ·cases h
  ·rename_i os e' ho;cases h;have hold:∀id,id<E.G.length->∃l,μ id=some l:=by
    intro id hid;obtain⟨l,hl⟩:=hE id hid;have hi:inf E.G id=some (VU E.G[id]):=by simp[inf,gG hid]
    cases hio:VU E.G[id] with
    |none=>rw[hio]at hi;exact⟨_,(hp.ext.box id l hl hi).1⟩
    |some p =>
     rcases p with ⟨g,sz⟩
     rw[hio]at hi;obtain⟨l',_,h1,_⟩:=hp.ext.arr id l g sz hl hi;exact⟨l',h1⟩
   have hids:mM μ (List.range E.G.length):=⟨V7,λid h=>hold id (by simpa using h)⟩
   obtain⟨h1,h2,h3⟩:=tI (a:=a) (U9 live aN) (e:=⟨List.range E.G.length,G⟩) hp.inv hids hg (λp hpm=>hp.aN.val p.1 p.2 (sQ hpm));obtain⟨i1,i2,i3,i4,⟨l2,i5⟩,i6,i7⟩:=tB h1.inv h1.ok ho;obtain⟨l1,hl1⟩:=h1.ids;have hpre:∀id,id<E.G.length->e'.ids[id]?=some id:=by
    intro id hid;rw[i5,hl1];dsimp only;rw[pd,List.getElem?_append_left (by simpa using hid)];simp[hid]
   have hGG:e.G=G:=h2;refine⟨sub e'.ids μ,i1,⟨hp.aN.size,λk x hk=>?_⟩,hp.tG,i2,?_,⟨hp.fr.os,hp.fr.tape,hp.fr.output,hp.fr.size,hp.fr.gD,hp.fr.mem,?_⟩⟩
   ·have:=(h3 (k,x) (EU hk)).rI (uh l2 (.refl _ _ _));rw[<- i5]at this;rw[i3];exact this
   ·refine⟨hp.ext.mem,λid loc g1 g2=>?_,λid loc g sz g1 g2=>?_⟩
    ·obtain⟨a1,a2⟩:=hp.ext.box id loc g1 g2;have hid:=hpre id (hd id loc g1);rw[i3,hGG];exact⟨by simp[sub,hid,a1],by simp[sub,hid,a2]⟩
    ·obtain⟨l',g',a1,a2,a3,a4⟩:=hp.ext.arr id loc g sz g1 g2;have hid:=hpre id (hd id loc g1);rw[i3,hGG];exact⟨l',g',by simp[sub,hid,a1],by simp[sub,hid,a2],a3,a4⟩
   ·intro id mB hl;unfold sub at hl;cases hi:e'.ids[id]? with
    |none=>rw[hi]at hl;cases hl
    |some x=>rw[hi]at hl;exact hp.fr.loc x mB hl
end
def erase:aU->aU
 |.skip=>.skip
 |.seq a b=>.seq (erase a) (erase b)
 |.ops _ l=>.ops [] l
 |.draw _ n r k=>.draw [] n r k
 |.cond c a b=>.cond c (erase a) (erase b)
 |.block id a=>.block id (erase a)
 |.loop _ a=>.loop [] (erase a)
 |.exit id=>.exit id
 |.ret=>.ret
section
variable {P:Program}{pg:fX}{call:di}{loop:js}
def Xe (P:Program)(loop:js)(k:Nat):Prop:=∀(N:Nat) (E:zR),(∀id,id<E.G.length->∃l,E.μ id=some l)->(∀id l,E.μ id=some l->id<E.G.length)->∀{live:List Nat} {c:aU} {code:Code} {aN:Env} {G:Heap} {e:Ex} {UO:Env} {G':Heap} {a:Act} {w:World} {m:Mem} {μ:Mu} {Q:Exit->Act->World->Prop},
 gy P N code=some (erase c)->loop E.G.length live c aN G=some (e,UO,G')->Pt N E G aN a w m μ->Ends N E Q e UO G'->Code.rounds P code Q k a w
theorem lD {N:Nat}{E:zR}{Q:Exit->Act->World->Prop}{K:Act->World->Prop}{e:Ex}{aN:Env}{G:Heap}(hne:e≠.normal)(h:Ends N E Q e aN G):Ends N E (Exit.then K Q) e aN G:=by
 intro a w m μ hp;have:=h a w m μ hp;cases e with
 |normal=>exact absurd rfl hne
 |_=>exact this
theorem fz (hm:P.follows .mixedOrders=true)(hR:ir pg call)(hC:f_ P call)(hE:fy P call){k:Nat}(hL:Xe P loop k){N:Nat}{E:zR}(hE0:∀id,id<E.G.length->∃l,E.μ id=some l)(hE1:∀id l,E.μ id=some l->id<E.G.length) :
  ∀(code:Code) (c:aU) {aN:Env} {G:Heap} {e:Ex} {UO:Env} {G':Heap} {a:Act} {w:World} {m:Mem} {μ:Mu} {Q:Exit->Act->World->Prop},
   gy P N code=some (erase c)->bo pg call loop E.G.length c aN G=some (e,UO,G')->Pt N E G aN a w m μ->Ends N E Q e UO G'->code.wp P Q a w:=by
 intro code
 induction code with
 |skip =>
  intro c aN G e UO G' a w m μ Q hc hev hp hq;cases c<;>simp[gy,erase]at hc;simp[bo]at hev;obtain⟨rfl,rfl,rfl⟩:=hev;exact wp_skip (hq a w m μ hp)
 |ret =>
  intro c aN G e UO G' a w m μ Q hc hev hp hq;cases c<;>simp[gy,erase]at hc;simp[bo]at hev;obtain⟨rfl,rfl,rfl⟩:=hev;exact wp_ret (hq a w m μ hp)
 |exit id =>
  intro c aN G e UO G' a w m μ Q hc hev hp hq;cases c<;>simp[gy,erase]at hc;subst hc;simp[bo]at hev;obtain⟨rfl,rfl,rfl⟩:=hev;exact wp_exit (hq a w m μ hp)
 |seq x y ihx ihy =>
  intro c aN G e UO G' a w m μ Q hc hev hp hq;simp only[gy]at hc;split at hc
  ·rename_i cx cy hx hy;cases c<;>simp[erase]at hc;rename_i c1 c2;obtain⟨rfl,rfl⟩:=hc;simp only[bo]at hev;refine wp_seq ?_;cases h1:bo pg call loop E.G.length c1 aN G with
   |none=>rw[h1]at hev;cases hev
   |some r1 =>
    rcases r1 with ⟨e1,env1,G1⟩
    rw[h1]at hev;cases e1 with
    |normal =>
     refine ihx c1 hx h1 hp ?_;intro a' w' m' cA hp';exact ihy c2 hy hev hp' hq
    |exit id=>cases hev;exact ihx c1 hx h1 hp (lD (by simp) hq)
    |ret=>cases hev;exact ihx c1 hx h1 hp (lD (by simp) hq)
    |iL v=>cases hev;exact ihx c1 hx h1 hp (lD (by simp) hq)
  ·cases hc
 |cond x t f iht ihf =>
  intro c aN G e UO G' a w m μ Q hc hev hp hq;simp only[gy]at hc;split at hc
  ·rename_i cx ct cf hx ht hf;cases c<;>simp[erase]at hc;rename_i ox c1 c2;obtain⟨rfl,rfl,rfl⟩:=hc;simp only[bo]at hev;split at hev
   ·rename_i b hb;have hv:=(dx hp.aN hx hb).nA;refine wp_cond (t:=b) hv ?_;cases b with
    |true=>simp only[if_true]at hev ⊢;exact iht c1 ht hev hp hq
    |false=>simp only[aZ,if_false]at hev ⊢;exact ihf c2 hf hev hp hq
   ·cases hev
  ·cases hc
 |block id x ih =>
  intro c aN G e UO G' a w m μ Q hc hev hp hq;simp only[gy,aP]at hc;obtain⟨cx,hx,he⟩:=hc;cases c<;>simp[erase]at he;rename_i id' c1;obtain⟨rfl,rfl⟩:=he;simp only[bo]at hev;refine wp_block ?_;cases h1:bo pg call loop E.G.length c1 aN G with
  |none=>rw[h1]at hev;cases hev
  |some r1 =>
   rcases r1 with ⟨e1,env1,G1⟩
   rw[h1]at hev;cases e1 with
   |normal=>cases hev;exact ih c1 hx h1 hp (λa' w' m' cA hp'=>hq a' w' m' cA hp')
   |ret=>cases hev;exact ih c1 hx h1 hp (λa' w' m' cA hp'=>hq a' w' m' cA hp')
   |iL v=>cases hev;exact ih c1 hx h1 hp (λa' w' m' cA hp' val hv=>hq a' w' m' cA hp' val hv)
   |exit id2 =>
    dsimp only at hev;refine ih c1 hx h1 hp (λa' w' m' cA hp'=>?_)
    show Exit.inBlock id Q (.exit id2) a' w'
    simp only[Exit.inBlock];split at hev
    ·rename_i e2;cases hev;rw[ah e2];exact hq a' w' m' cA hp'
    ·rename_i e2;cases hev;rw[aa e2];exact hq a' w' m' cA hp'
 |loop x ih =>
  intro c aN G e UO G' a w m μ Q hc hev hp hq;simp only[gy,aP]at hc;obtain⟨cx,hx,he⟩:=hc;cases c<;>simp[erase]at he;rename_i live c1;subst he;simp only[bo]at hev;split at hev
  ·rename_i env1 G1 hg;obtain⟨cA,hp'⟩:=zU hE0 hE1 hg hp;exact wp_loop_rounds k (hL N E hE0 hE1 hx hev hp' hq)
  ·cases hev
 |region id ops draw =>
  intro c aN G e UO G' a w m μ Q hc hev hp hq;cases draw with
  |false =>
   simp only[gy,aP]at hc;obtain⟨l,hl,he⟩:=hc;cases c<;>simp[erase]at he;rename_i live l';subst he;simp only[bo]at hev;cases h1:dP pg call l aN G with
   |none=>rw[h1]at hev;cases hev
   |some r1 =>
    rcases r1 with ⟨e1,env1,G1⟩
    rw[h1]at hev;refine yA hC hE hl h1 hp ?_;cases e1 with
    |normal=>cases hev;exact λa' w' m' cA hp'=>hq a' w' m' cA ⟨hp'.inv,hp'.aN.U9 live,hp'.tG,hp'.pX,hp'.ext,hp'.fr⟩
    |exit id=>cases hev;exact hq
    |ret=>cases hev;exact hq
    |iL v=>cases hev;exact hq
  |true =>
   simp only[gy]at hc;split at hc
   ·cases hc
   ·rename_i l hl;split at hc
    ·rename_i news rest chk hd;cases c<;>simp[erase]at hc;rename_i live n r k;obtain⟨rfl,rfl,rfl⟩:=hc;simp only[bo]at hev;split at hev
     ·rename_i env1 G1 h1;split at hev
      ·rename_i F G2 h2;split at hev
       ·rename_i hchk;cases hev;exact BH hm hR hC hE hl hd h1 h2 hchk hp (λa' w' m' cA hp'=>hq a' w' m' cA ⟨hp'.inv,hp'.aN.U9 live,hp'.tG,hp'.pX,hp'.ext,hp'.fr⟩)
       ·cases hev
      ·cases hev
     ·cases hev
    ·cases hc
 |_=>intro c aN G e UO G' a w m μ Q hc;simp[gy]at hc
end
section
def EW (c c':di):Prop:=∀f a G o,c f a G=some o->c' f a G=some o
def H4 (l l':js):Prop:=∀b v a aN G o,l b v a aN G=some o->l' b v a aN G=some o
theorem EW.IQ {c:di}:EW c c:=λ_ _ _ _ h=>h
theorem H4.IQ {c:js}:H4 c c:=λ_ _ _ _ _ _ h=>h
variable {pg:fX}{c c':di}{l l':js}
theorem qn (h:EW c c'){f:Nat}{args:List AV}{G:Heap}{o:Out×Heap}
  (hr:UM pg c f args G=some o):UM pg c' f args G=some o:=by
 unfold UM at hr ⊢;split at hr
 ·cases hr
 ·split at hr
  ·cases hr
  ·split at hr
   ·cases hr
   ·rename_i hc;rw[h _ _ _ _ hc];exact hr
theorem sR (h:EW c c'){o:qd}{aN:Env}{G:Heap}{r:jV}
  (hr:Uu pg c o aN G=some r):Uu pg c' o aN G=some r:=by
 cases o
 case call f args =>
  unfold Uu at hr ⊢;dsimp only at hr ⊢;split at hr
  ·revert hr;cases hc:UM pg c f _ G with
   |none=>intro hr;simp[jV.of]at hr
   |some o=>rw[qn h hc];exact id
  ·cases hr
 case callv x args =>
  unfold Uu at hr ⊢;dsimp only at hr ⊢;split at hr
  ·revert hr;cases hc:UM pg c _ _ G with
   |none=>intro hr;simp[jV.of]at hr
   |some o=>rw[qn h hc];exact id
  ·cases hr
 all_goals exact hr
theorem VX (h:EW c c'):∀(ops:List CI) {aN:Env} {G:Heap} {r:Ex×Env×Heap},
  dP pg c ops aN G=some r->dP pg c' ops aN G=some r
 |[],_,_,_,hr=>hr
 |i::ops,aN,G,r,hr=>by
  unfold dP at hr ⊢;split at hr
  ·cases hr
  ·exact VX h ops hr
  ·split at hr
   ·cases hr
   ·rename_i he;rw[sR h he];exact VX h ops hr
   ·rename_i he;rw[sR h he];exact hr
theorem Vd (h:EW c c')(hl:H4 l l')(aK:Nat):∀(a:aU) {aN:Env} {G:Heap} {r:Ex×Env×Heap},
  bo pg c l aK a aN G=some r->bo pg c' l' aK a aN G=some r
 |.skip,_,_,_,hr=>hr
 |.ret,_,_,_,hr=>hr
 |.exit _,_,_,_,hr=>hr
 |.seq a b,aN,G,r,hr=>by
  unfold bo at hr ⊢;cases ha:bo pg c l aK a aN G with
  |none=>rw[ha]at hr;cases hr
  |some x =>
   rw[Vd h hl aK a ha];rw[ha]at hr;rcases x with ⟨e,UO,G'⟩
   cases e with
   |normal=>exact Vd h hl aK b hr
   |_=>exact hr
 |.ops live ops,aN,G,r,hr=>by
  unfold bo at hr ⊢;cases ha:dP pg c ops aN G with
  |none=>rw[ha]at hr;cases hr
  |some x=>rw[VX h ops ha];rw[ha]at hr;exact hr
 |.draw live news rest chk,aN,G,r,hr=>by
  unfold bo at hr ⊢;cases ha:dP pg c news aN G with
  |none=>rw[ha]at hr;cases hr
  |some x =>
   rw[VX h news ha];rw[ha]at hr;rcases x with ⟨e,UO,G'⟩
   cases e with
   |normal =>
    dsimp only at hr ⊢;cases hb:dP pg c rest UO G' with
    |none=>rw[hb]at hr;cases hr
    |some y=>rw[VX h rest hb];rw[hb]at hr;exact hr
   |_=>exact hr
 |.cond x a b,aN,G,r,hr=>by
  unfold bo at hr ⊢;split at hr
  ·rename_i hx;split at hr
   ·rename_i hb;rw[ah hb];exact Vd h hl aK a hr
   ·rename_i hb;rw[aa hb];exact Vd h hl aK b hr
  ·cases hr
 |.block id a,aN,G,r,hr=>by
  unfold bo at hr ⊢;cases ha:bo pg c l aK a aN G with
  |none=>rw[ha]at hr;cases hr
  |some x=>rw[Vd h hl aK a ha];rw[ha]at hr;exact hr
 |.loop live a,aN,G,r,hr=>by
  unfold bo at hr ⊢;split at hr
  ·exact hl _ _ _ _ _ _ hr
  ·cases hr
theorem X1 (h:EW c c')(hl:H4 l l'){x:bz}{args:List AV}{G:Heap}{r:Out×Heap}
  (hr:ic pg c l x args G=some r):ic pg c' l' x args G=some r:=by
 unfold ic at hr ⊢;cases ha:bo pg c l G.length x.body (sE 0 args) G with
 |none=>rw[ha]at hr;cases hr
 |some y=>rw[Vd h hl _ _ ha];rw[ha]at hr;exact hr
theorem oe:∀n,EW (dr pg n) (dr pg (n+1))/\H4 (ew pg n) (ew pg (n+1))
 |0=>⟨λ_ _ _ _ h=>by simp[dr]at h,λ_ _ _ _ _ _ h=>by simp[ew]at h⟩
 |n+1=>by
  obtain⟨hc,hl⟩:=oe n;constructor
  ·intro f a G o h;unfold dr at h ⊢;split at h
   ·exact h
   ·split at h
    ·exact X1 hc hl h
    ·cases h
  ·intro b v a aN G o h;unfold ew at h ⊢;cases ha:bo pg (dr pg n) (ew pg n) b a aN G with
   |none=>rw[ha]at h;cases h
   |some x =>
    rw[Vd hc hl _ _ ha];rw[ha]at h;rcases x with ⟨e,UO,G'⟩
    cases e with
    |normal =>
     dsimp only at h ⊢;split at h
     ·exact hl _ _ _ _ _ _ h
     ·cases h
    |_=>exact h
theorem Vx {n m:Nat}(hnm:n<=m):EW (dr pg n) (dr pg m)/\H4 (ew pg n) (ew pg m):=by
 induction hnm with
 |refl=>exact⟨EW.IQ,H4.IQ⟩
 |step _ ih=>exact⟨λ_ _ _ _ h=>(oe _).1 _ _ _ _ (ih.1 _ _ _ _ h),λ_ _ _ _ _ _ h=>(oe _).2 _ _ _ _ _ _ (ih.2 _ _ _ _ _ _ h)⟩
open Classical in
noncomputable def E (pg:fX):di:=λf a G=>if h:∃o,∃n,dr pg n f a G=some o then some h.choose else none
open Classical in
noncomputable def L (pg:fX):js:=λb v a aN G=>if h:∃o,∃n,ew pg n b v a aN G=some o then some h.choose else none
theorem gh {f:Nat}{a:List AV}{G:Heap}{o:Out×Heap}:E pg f a G=some o↔∃n,dr pg n f a G=some o:=by
 unfold E;constructor
 ·intro h;split at h
  ·rename_i hx;obtain⟨n,hn⟩:=hx.choose_spec;cases h;exact⟨n,hn⟩
  ·cases h
 ·rintro⟨n,hn⟩;have hx:∃o,∃n,dr pg n f a G=some o:=⟨o,n,hn⟩
  rw[nW hx];obtain⟨m,hm⟩:=hx.choose_spec;have h1:=(Vx (pg:=pg) (dG n m)).1 _ _ _ _ hn;have h2:=(Vx (pg:=pg) (dL n m)).1 _ _ _ _ hm;rw[h1]at h2;exact h2.symm
theorem xw {b:Nat}{v:List Nat}{a:aU}{aN:Env}{G:Heap}{o:Ex×Env×Heap}:L pg b v a aN G=some o↔∃n,ew pg n b v a aN G=some o:=by
 unfold L;constructor
 ·intro h;split at h
  ·rename_i hx;obtain⟨n,hn⟩:=hx.choose_spec;cases h;exact⟨n,hn⟩
  ·cases h
 ·rintro⟨n,hn⟩;have hx:∃o,∃n,ew pg n b v a aN G=some o:=⟨o,n,hn⟩
  rw[nW hx];obtain⟨m,hm⟩:=hx.choose_spec;have h1:=(Vx (pg:=pg) (dG n m)).2 _ _ _ _ _ _ hn;have h2:=(Vx (pg:=pg) (dL n m)).2 _ _ _ _ _ _ hm;rw[h1]at h2;exact h2.symm
theorem KP (n:Nat):EW (dr pg n) (E pg):=λ_ _ _ _ h=>gh.2 ⟨n,h⟩
theorem IS (n:Nat):H4 (ew pg n) (L pg):=λ_ _ _ _ _ _ h=>xw.2 ⟨n,h⟩
theorem rT {f:Nat}{args:List AV}{G:Heap}{o:Out×Heap}
  (hr:UM pg (E pg) f args G=some o):∃n,UM pg (dr pg n) f args G=some o:=by
 unfold UM at hr ⊢;split at hr
 ·cases hr
 ·split at hr
  ·cases hr
  ·split at hr
   ·cases hr
   ·rename_i hc;obtain⟨n,hn⟩:=gh.1 hc;refine⟨n,?_⟩;rw[hn];exact hr
theorem zV {o:qd}{aN:Env}{G:Heap}{r:jV}
  (hr:Uu pg (E pg) o aN G=some r):∃n,Uu pg (dr pg n) o aN G=some r:=by
 cases o
 case call f args =>
  unfold Uu at hr ⊢;dsimp only at hr ⊢;split at hr
  ·revert hr;cases hc:UM pg (E pg) f _ G with
   |none=>intro hr;simp[jV.of]at hr
   |some o=>intro hr;obtain⟨n,hn⟩:=rT hc;exact⟨n,by rw[hn];exact hr⟩
  ·cases hr
 case callv x args =>
  unfold Uu at hr ⊢;dsimp only at hr ⊢;split at hr
  ·revert hr;cases hc:UM pg (E pg) _ _ G with
   |none=>intro hr;simp[jV.of]at hr
   |some o=>intro hr;obtain⟨n,hn⟩:=rT hc;exact⟨n,by rw[hn];exact hr⟩
  ·cases hr
 all_goals exact⟨0,hr⟩
theorem nE:∀(ops:List CI) {aN:Env} {G:Heap} {r:Ex×Env×Heap},
  dP pg (E pg) ops aN G=some r->∃n,dP pg (dr pg n) ops aN G=some r
 |[],_,_,_,hr=>⟨0,hr⟩
 |i::ops,aN,G,r,hr=>by
  unfold dP at hr ⊢;split at hr
  ·cases hr
  ·exact nE ops hr
  ·split at hr
   ·cases hr
   ·rename_i he;obtain⟨n,hn⟩:=zV he;obtain⟨m,hm⟩:=nE ops hr;refine⟨Nat.max n m,?_⟩;rw[sR (Vx (dG n m)).1 hn];exact VX (Vx (dL n m)).1 ops hm
   ·rename_i he;obtain⟨n,hn⟩:=zV he;exact⟨n,by rw[hn];exact hr⟩
theorem iU (aK:Nat):∀(a:aU) {aN:Env} {G:Heap} {r:Ex×Env×Heap},
  bo pg (E pg) (L pg) aK a aN G=some r->∃n,bo pg (dr pg n) (ew pg n) aK a aN G=some r
 |.skip,_,_,_,hr=>⟨0,hr⟩
 |.ret,_,_,_,hr=>⟨0,hr⟩
 |.exit _,_,_,_,hr=>⟨0,hr⟩
 |.seq a b,aN,G,r,hr=>by
  unfold bo at hr ⊢;cases ha:bo pg (E pg) (L pg) aK a aN G with
  |none=>rw[ha]at hr;cases hr
  |some x =>
   obtain⟨n,hn⟩:=iU aK a ha;rw[ha]at hr;rcases x with ⟨e,UO,G'⟩
   cases e with
   |normal =>
    obtain⟨m,hm⟩:=iU aK b hr;refine⟨Nat.max n m,?_⟩;rw[Vd (Vx (dG n m)).1 (Vx (dG n m)).2 aK a hn];exact Vd (Vx (dL n m)).1 (Vx (dL n m)).2 aK b hm
   |_=>exact⟨n,by rw[hn];exact hr⟩
 |.ops live ops,aN,G,r,hr=>by
  unfold bo at hr ⊢;cases ha:dP pg (E pg) ops aN G with
  |none=>rw[ha]at hr;cases hr
  |some x=>obtain⟨n,hn⟩:=nE ops ha;rw[ha]at hr;exact⟨n,by rw[hn];exact hr⟩
 |.draw live news rest chk,aN,G,r,hr=>by
  unfold bo at hr ⊢;cases ha:dP pg (E pg) news aN G with
  |none=>rw[ha]at hr;cases hr
  |some x =>
   obtain⟨n,hn⟩:=nE news ha;rw[ha]at hr;rcases x with ⟨e,UO,G'⟩
   cases e with
   |normal =>
    dsimp only at hr;cases hb:dP pg (E pg) rest UO G' with
    |none=>rw[hb]at hr;cases hr
    |some y =>
     obtain⟨m,hm⟩:=nE rest hb;rw[hb]at hr;refine⟨Nat.max n m,?_⟩;rw[VX (Vx (dG n m)).1 news hn];dsimp only;rw[VX (Vx (dL n m)).1 rest hm];exact hr
   |_=>cases hr
 |.cond x a b,aN,G,r,hr=>by
  unfold bo at hr ⊢;split at hr
  ·rename_i hx;split at hr
   ·rename_i hb;simp only[ah hb];exact iU aK a hr
   ·rename_i hb;simp only[aa hb];exact iU aK b hr
  ·cases hr
 |.block id a,aN,G,r,hr=>by
  unfold bo at hr ⊢;cases ha:bo pg (E pg) (L pg) aK a aN G with
  |none=>rw[ha]at hr;cases hr
  |some x=>obtain⟨n,hn⟩:=iU aK a ha;rw[ha]at hr;exact⟨n,by rw[hn];exact hr⟩
 |.loop live a,aN,G,r,hr=>by
  unfold bo at hr ⊢;split at hr
  ·exact xw.1 hr
  ·cases hr
theorem DI {x:bz}{args:List AV}{G:Heap}{r:Out×Heap}
  (hr:ic pg (E pg) (L pg) x args G=some r):∃n,ic pg (dr pg n) (ew pg n) x args G=some r:=by
 unfold ic at hr ⊢;cases ha:bo pg (E pg) (L pg) G.length x.body (sE 0 args) G with
 |none=>rw[ha]at hr;cases hr
 |some y=>obtain⟨n,hn⟩:=iU _ _ ha;rw[ha]at hr;exact⟨n,by rw[hn];exact hr⟩
theorem IT {f:Nat}{x:bz}(ho:pg.Xa f=none)(hc:pg.code f=some x)(a:List AV)(G:Heap) :
  E pg f a G=ic pg (E pg) (L pg) x a G:=by
 apply Xm;intro r;constructor
 ·intro h;obtain⟨n,hn⟩:=gh.1 h;cases n with
  |zero=>simp[dr]at hn
  |succ n =>
   unfold dr at hn;rw[ho,hc]at hn;exact X1 (KP n) (IS n) hn
 ·intro h;obtain⟨n,hn⟩:=DI h;refine gh.2 ⟨n+1,?_⟩;unfold dr;rw[ho,hc];exact hn
theorem EX {f:Nat}{F:List AV->Option (Out×Heap)}(ho:pg.Xa f=some F)(a:List AV){o:Out×Heap}(h:F a=some o) :
  E pg f a []=some o:=by
 refine gh.2 ⟨1,?_⟩;unfold dr;rw[ho];exact h
theorem MO (b:Nat)(v:List Nat)(a:aU)(aN:Env)(G:Heap) :
  L pg b v a aN G=match bo pg (E pg) (L pg) b a aN G with
   |some (.normal,aN,G)=>match gc b v aN G with
    |some (aN,G)=>L pg b v a aN G
    |none=>none
   |r=>r:=by
 apply Xm;intro r;constructor
 ·intro h;obtain⟨n,hn⟩:=xw.1 h;cases n with
  |zero=>simp[ew]at hn
  |succ n =>
   unfold ew at hn;cases ha:bo pg (dr pg n) (ew pg n) b a aN G with
   |none=>rw[ha]at hn;cases hn
   |some x =>
    rw[Vd (KP n) (IS n) _ _ ha];rw[ha]at hn;rcases x with ⟨e,UO,G'⟩
    cases e with
    |normal =>
     dsimp only at hn ⊢;split at hn
     ·rename_i hg;rw[hg];exact IS n _ _ _ _ _ _ hn
     ·cases hn
    |_=>exact hn
 ·intro h;cases ha:bo pg (E pg) (L pg) b a aN G with
  |none=>rw[ha]at h;cases h
  |some x =>
   obtain⟨n,hn⟩:=iU b a ha;rw[ha]at h;rcases x with ⟨e,UO,G'⟩
   cases e with
   |normal =>
    dsimp only at h;split at h
    ·rename_i env₂ G₂ hg;obtain⟨m,hm⟩:=xw.1 h;refine xw.2 ⟨Nat.max n m+1,?_⟩;unfold ew;rw[Vd (Vx (dG n m)).1 (Vx (dG n m)).2 b a hn];dsimp only;rw[hg];exact(Vx (dL n m)).2 _ _ _ _ _ _ hm
    ·cases h
   |_ =>
    refine xw.2 ⟨n+1,?_⟩;unfold ew;rw[hn];exact h
end
section
variable {P:Program}{pg:fX}{call:di}{loop:js}
theorem BI {t:TypeId}{v val:Value}{w:World}(h:(Instr.loadAt t v).run P w=.ok val w):(do loadVar t (<- asAddr v):Sem Value).run P w=.ok val w:=by
 cases v with
 |pointer p=>cases p with
  |some a=>simpa [Instr.loadAt,Instr.sureAddr,asAddr] using h
  |none=>simp[Instr.loadAt,Instr.sureAddr,go_sem]at h
 |_=>simp[Instr.loadAt,Instr.sureAddr,go_sem]at h
def xx (tmps:Array Value):ResultVar->Sem Value
 |.tmp t=>pure (tmps.getD t undef)
 |.cell a t=>do loadVar t (<- asAddr (tmps.getD a undef))
theorem nF {N:Nat}{E:zR}{aN:Env}{G:Heap}{a:Act}{w:World}{m:Mem}{μ:Mu}(hp:Pt N E G aN a w m μ):∀(rs:List ResultVar) {crs:List sH} {vs:List AV},XX P rs=some crs->VI aN G crs=some vs ->
  ∃vals,(rs.mapM (xx a.tmps)).run P w=.ok vals w/\RL m μ (inf G) vals vs
 |[],crs,vs,hc,hv=>by
  simp[XX]at hc;subst hc;simp[VI]at hv;subst hv;exact⟨[],by simp,.nil⟩
 |.tmp t::r,crs,vs,hc,hv=>by
  simp only[XX,aP]at hc;obtain⟨crs',hr,rfl⟩:=hc;simp only[VI]at hv;split at hv
  ·cases hv
  ·rename_i v hvt;split at hv
   ·cases hv
   ·rename_i vs' hvs;cases hv;obtain⟨vals,h1,h2⟩:=nF hp r hr hvs;exact⟨_::vals,by simp[xx,h1],.cons (hp.aN.val t v hvt) h2⟩
 |.cell x t::r,crs,vs,hc,hv=>by
  simp only[XX]at hc;split at hc
  ·rename_i n g crs' hn hg hr;cases hc;simp only[VI]at hv;split at hv
   ·cases hv
   ·rename_i p hpt;split at hv
    ·cases hv
    ·rename_i v hl;split at hv
     ·cases hv
     ·rename_i vs' hvs;cases hv;obtain⟨vals,h1,h2⟩:=nF hp r hr hvs;obtain⟨val,k1,k2⟩:=zz hp.inv hn hg (hp.aN.val x p hpt) hl;have k3:=BI k1;refine⟨val::vals,?_,.cons k2 h2⟩;rw[VG];simp only[Sem.run_bind];rw[show xx a.tmps (.cell x t)=(do loadVar t (<- asAddr (a.tmps.getD x undef)):Sem Value) from rfl,k3];simp[h1]
  ·cases hc
def og (vals:List Value):Value:=if h:vals.toArray.size=1 then vals.toArray[0] else .tuple vals.toArray
theorem yC {m:Mem}{μ:Mu}{i:Wp}{vals:List Value}{vs:List AV}(h:RL m μ i vals vs):R m μ i (og vals) (VT vs):=by
 cases vs with
 |nil=>rw[h.mK];exact .uP (cs:=#[]) .nil
 |cons a r =>
  obtain⟨v,vals',rfl,h1,h2⟩:=h.iC;cases r with
  |nil=>rw[h2.mK];exact h1
  |cons b r =>
   obtain⟨v',vals'',rfl,h3,h4⟩:=h2.iC;exact .uP (cs:=#[v,v']++vals''.toArray |> λ_=>(v::v'::vals'').toArray) h
theorem jb {fn:Func}{tmps:Array Value}{vals:List Value}{w:World}(h:(fn.results.toList.mapM (xx tmps)).run P w=.ok vals w):(results fn tmps).run P w=.ok (og vals) w:=by
 have e:results fn tmps=(do let vs <- fn.results.mapM (xx tmps);pure (if h:vs.size=1 then vs[0] else .tuple vs)):=rfl;rw[e,kA];simp[h,og]
mutual
theorem mO {m:Mem}{μ cA:Mu}{i i':Wp}{n:Nat}(h:∀id,id<n->cA id=μ id/\i' id=i id):∀(a:AV) {z:Value},bf n a=true->R m μ i z a->R m cA i' z a
 |.p x,z,hb,hr=>by cases hr with|p _ _ hp=>exact .p _ _ hp
 |.aC,z,hb,hr=>by cases hr;exact .aC
 |.undef,z,hb,hr=>by cases hr;exact .undef
 |.rp cs,z,hb,hr=>by cases hr with|rp b o cells f hc=>exact .rp b o cs f hc
 |.arr id len gen,z,hb,hr=>by
  cases hr with|arr _ _ _ ad n c loc g sz h1 h2 h3 h4 =>
  obtain⟨a1,a2⟩:=h id (bJ.mp hb);exact .arr _ len gen ad n c loc g sz (a1.trans h1) (a2.trans h2) h3 h4
 |.ptr id off,z,hb,hr=>by
  cases hr with|ptr _ _ loc h1 h2 =>
  obtain⟨a1,a2⟩:=h id (bJ.mp hb);exact .ptr _ off loc (a1.trans h1) (a2.trans h2)
 |.ez id idx off gen,z,hb,hr=>by
  cases hr with|ez _ _ _ _ ad loc g sz h1 h2 h3 h4 =>
  obtain⟨a1,a2⟩:=h id (bJ.mp hb);exact .ez _ idx off gen ad loc g sz (a1.trans h1) (a2.trans h2) h3 h4
 |.ag cs,z,hb,hr=>by
  obtain⟨ca,rfl,h1,h2⟩:=hr.WJ;exact .EB (V6 h cs (by simpa [bf] using hb) (RL.km h1 h2))
 |.dF cs,z,hb,hr=>by
  obtain⟨ca,rfl,h1,h2⟩:=hr.rJ;exact .uP (V6 h cs (by simpa [bf] using hb) (RL.km h1 h2))
 |.eT t x,z,hb,hr=>by
  cases hr with|eT _ z' _ hr=>exact .eT _ _ _ (mO h x (by simpa [bf] using hb) hr)
 |.fn f x y,z,hb,hr=>by
  obtain⟨a,b,rfl,ha,hb'⟩:=hr.zI;simp only[bf,ab]at hb;exact .IJ (V6 h x hb.1 ha) (V6 h y hb.2 hb')
theorem V6 {m:Mem}{μ cA:Mu}{i i':Wp}{n:Nat}(h:∀id,id<n->cA id=μ id/\i' id=i id):∀(l:List AV) {zs:List Value},cH n l=true->RL m μ i zs l->RL m cA i' zs l
 |[],zs,hb,hr=>by rw[hr.mK];exact .nil
 |a::r,zs,hb,hr=>by
  obtain⟨z,zs,rfl,hz,hr⟩:=hr.iC;simp only[cH,ab]at hb;exact .cons (mO h a hb.1 hz) (V6 h r hb.2 hr)
end
theorem kn {m0 m:Mem}{μ0 μ:Mu}{G0 G G':Heap}{w0 w:World}{out out':Out}(hI:Inv m μ G w)(hext:Ext m0 μ0 G0 m μ G)(hfr:Fr m0 μ0 w0 m μ w)(ht:∀id,id<G0.length->∃l,μ0 id=some l)(hd:∀id l,μ0 id=some l->id<G0.length)
  (h:aj G0.length out G=some (out',G')) {e:Ending} (ho:WL m μ (inf G) out e):∃cA,Inv m cA G' w/\lC m0 μ0 G0 w0 m cA G' w/\WL m cA (inf G') out' e:=by
 unfold aj at h;split at h
 ·rename_i hb;cases h;simp only[ab,bc]at hb
  let cA:Mu:=λid=>if id<G0.length then μ id else none
  have hin:∀id,id<G0.length->cA id=μ id/\inf (G.take G0.length) id=inf G id:=λid hid=>by
   refine⟨by simp[cA,hid],?_⟩;unfold inf;rw[List.getElem?_take,ah hid]
  have hinv:∀id loc,cA id=some loc->id<G0.length/\μ id=some loc:=λid loc hl=>by
   simp only[cA]at hl;split at hl
   ·exact⟨by assumption,hl⟩
   ·cases hl
  have hmap:∀id,id<G0.length->∃l,μ id=some l:=by
   intro id hid;obtain⟨l,hl⟩:=ht id hid;have hi:inf G0 id=some (VU G0[id]):=by simp[inf,gG hid]
   cases hio:VU G0[id] with
   |none=>rw[hio]at hi;exact⟨_,(hext.box id l hl hi).1⟩
   |some p =>
    rcases p with ⟨g,sz⟩
    rw[hio]at hi;obtain⟨l',_,h1,_⟩:=hext.arr id l g sz hl hi;exact⟨l',h1⟩
  refine⟨cA,⟨hI.known,?_,?_,?_⟩,⟨⟨hext.mem,?_,?_⟩,⟨hfr.os,hfr.tape,hfr.output,hfr.size,hfr.gD,hfr.mem,λid loc hl=>hfr.loc id loc (hinv id loc hl).2⟩,⟨?_,?_⟩⟩,?_⟩
  ·intro i j l l' h1 h2 he;exact hI.inj i j l l' (hinv i l h1).2 (hinv j l' h2).2 he
  ·intro id o ho' loc hl;obtain⟨hid,hl'⟩:=hinv id loc hl;rw[List.getElem?_take,ah hid]at ho';have hob:=hI.obj id o ho' loc hl';cases o with
   |arr sz ay g sl=>exact hob
   |box cells =>
    obtain⟨cs,T,k1,k2,k3,k4,k5⟩:=hob;have hbel:cH G0.length cells=true:=by
     have:=hb.2 (.box cells) (by
      rw[UF];exact⟨id,by rw[List.getElem?_take,ah hid];exact ho'⟩)
     exact this
    have:=V6 (m:=m) (i':=inf (G.take G0.length)) hin cells hbel (RL.km k2 k3);exact⟨cs,T,k1,k2,λj v a g1 g2=>this.2 j v a (by simpa using g1) g2,k4,k5⟩
  ·intro id loc hl;obtain⟨hid,hl'⟩:=hinv id loc hl;have:=hI.ph id loc hl';simp;omega
  ·intro id loc h1 h2;obtain⟨a1,a2⟩:=hext.box id loc h1 h2;obtain⟨b1,b2⟩:=hin id (hd id loc h1);exact⟨b1.trans a1,b2.trans a2⟩
  ·intro id loc g sz h1 h2;obtain⟨l',g',a1,a2,a3,a4⟩:=hext.arr id loc g sz h1 h2;obtain⟨b1,b2⟩:=hin id (hd id loc h1);exact⟨l',g',b1.trans a1,b2.trans a2,a3,a4⟩
  ·intro id hid _;simp at hid;obtain⟨l,hl⟩:=hmap id (by omega);exact⟨l,(hin id (by omega)).1.trans hl⟩
  ·intro id hid hn;obtain⟨l,hl⟩:=ht id hid;rw[hl]at hn;cases hn
  ·cases out with
   |ret v=>cases e<;>first|exact ho.elim|exact mO hin v hb.1 ho
   |iL v=>cases e<;>first|exact ho.elim|(obtain⟨z,h1,h2⟩:=ho;exact⟨z,h1,mO hin v hb.1 h2⟩)
 ·cases h
structure DJ (P:Program)(f:Nat)(c:bz):Prop where
 ok:∃fn code,P.funcs[f]?=some fn/\fn.body=some code/\(fn.name == "runtime.NumGoroutine")=false/\gy P fn.ntmps code=some (erase c.body)/\XX P fn.results.toList=some c.res
theorem XW:∀(args:List AV) (k:Nat) (j:Nat) (x:AV),lk (sE k args) j=some x->k<=j/\args[j-k]?=some x
 |[],k,j,x,h=>by simp[sE,lk]at h
 |a::r,k,j,x,h=>by
  simp only[sE,lk]at h;split at h
  ·rename_i e;cases h;subst e;simp
  ·rename_i e;obtain⟨h1,h2⟩:=XW r (k+1) j x h;refine⟨by omega,?_⟩;rw[show j-k=(j-(k+1))+1 by omega];simpa using h2
theorem DK (hm:P.follows .mixedOrders=true)(hR:ir pg call)(hC:f_ P call)(hE:fy P call){k:Nat}(hL:Xe P loop k){f:Nat}{c:bz}(hf:DJ P f c){args:List AV}{G G':Heap}{out:Out}(h:ic pg call loop c args G=some (out,G'))
  {m:Mem} {μ:Mu} {w:World} {vargs:List Value} (hI:Inv m μ G w) (ht:∀id,id<G.length->∃l,μ id=some l) (hr:RL m μ (inf G) vargs args) :
  Calls P f vargs.toArray w λe w'=>∃m' cA,Inv m' cA G' w'/\lC m μ G w m' cA G' w'/\WL m' cA (inf G') out e:=by
 obtain⟨fn,code,h1,h2,h3,h4,h5⟩:=hf.ok;refine calls_of_wp h1 h2 ?_
 let E:zR:=⟨m,μ,G,w,[]⟩
 have hp:Pt fn.ntmps E G (sE 0 args) { tmps:=vargs.toArray++Array.replicate (fn.ntmps-vargs.toArray.size) undef,defers:=[] } w m μ:=by
  refine⟨hI,⟨by simp;omega,λk x hk=>?_⟩,rfl,ht,.refl _ _ _,.refl _ _ _⟩;obtain⟨_,hx⟩:=XW args 0 k x hk;simp at hx;have hlt:k<vargs.length:=by rw[hr.1];exact(gE hx).1
  have:=hr.2 k vargs[k] x (gG hlt) hx;simpa [bQ,Array.getElem?_append,hlt] using this
 unfold ic at h;have hbody:∀{e:Ex} {UO:Env} {G1:Heap},bo pg call loop G.length c.body (sE 0 args) G=some (e,UO,G1)->Ends fn.ntmps E (bodyPost P fn λe w'=>∃m' cA,Inv m' cA G' w'/\lC m μ G w m' cA G' w'/\WL m' cA (inf G') out e) e UO G1->code.wp P (bodyPost P fn λe w'=>∃m' cA,Inv m' cA G' w'/\lC m μ G w m' cA G' w'/\WL m' cA (inf G') out e) { tmps:=vargs.toArray++Array.replicate (fn.ntmps-vargs.toArray.size) undef,defers:=[] } w :=
  λhev hq=>fz (E:=E) hm hR hC hE hL ht (λid l hl=>hI.ph id l hl) code c.body h4 hev hp hq
 have hret:∀{UO:Env} {G1:Heap},(match VI UO G1 c.res with
    |none=>none
    |some vs=>if c.nZ then some (Out.ret (VT vs),G1) else match norm G1 (VT vs) with
     |some (v,G')=>aj G.length (.ret v) G'
     |none=>none)=some (out,G')->∀a' w' m' cA,Pt fn.ntmps E G1 UO a' w' m' cA->a'.defers=[]/\∃v,(results fn a'.tmps).run P w'=.ok v w'/\∃m'' μ'',Inv m'' μ'' G' w'/\lC m μ G w m'' μ'' G' w'/\WL m'' μ'' (inf G') out (.returned v):=by
  intro UO G1 hres a' w' m' cA hp';refine⟨hp'.tG,?_⟩;split at hres
  ·cases hres
  ·rename_i vs hvs;obtain⟨vals,k1,k2⟩:=nF hp' fn.results.toList h5 hvs;refine⟨og vals,jb k1,?_⟩;have hw:=yC k2;split at hres
   ·cases hres;refine⟨m',cA,hp'.inv,⟨hp'.ext,hp'.fr,⟨λid hid _=>hp'.pX id hid,λid hid hn=>?_⟩⟩,hw⟩;obtain⟨l,hl⟩:=ht id hid;rw[hl]at hn;cases hn
   ·split at hres
    ·rename_i v G2 hn;obtain⟨m2,i1,i2,i3⟩:=jW _ hp'.inv hn hw;obtain⟨μ3,j1,j2,j3⟩:=kn (out:=.ret v) i1 (hp'.ext.trans i2.ext) (hp'.fr.trans i2.fr) ht (λid l hl=>hI.ph id l hl) hres (e:=.returned (og vals)) i3;exact⟨m2,μ3,j1,j2,j3⟩
    ·cases hres
 cases hev:bo pg call loop G.length c.body (sE 0 args) G with
 |none=>rw[hev]at h;cases h
 |some r =>
  rcases r with ⟨e,UO,G1⟩
  rw[hev]at h;refine hbody hev λa' w' m' cA hp'=>?_;cases e with
  |normal=>exact hret h a' w' m' cA hp'
  |ret=>exact hret h a' w' m' cA hp'
  |exit id=>cases h
  |iL v =>
   intro val hv;dsimp only at h;obtain⟨μ3,j1,j2,j3⟩:=kn (out:=.iL v) hp'.inv hp'.ext hp'.fr ht (λid l hl=>hI.ph id l hl) h (e:=.panicked [{ v:=val,recovered:=false }]) ⟨val,rfl,hv⟩;exact⟨hp'.tG,m',μ3,j1,j2,j3⟩
theorem DL {c:bz}(hk:c.nZ=false){args:List AV}{out:Out}{os':Heap}(h:ic pg call loop c args []=some (out,os')):os'=[]/\out.bf 0=true:=by
 have hl:∀{o o':Out} {G G':Heap},aj 0 o G=some (o',G')->G'=[]/\o'.bf 0=true:=by
  intro o o' G G' h;unfold aj at h;split at h
  ·rename_i hb;cases h;simp only[ab]at hb;exact⟨by simp,hb.1⟩
  ·cases h
 unfold ic at h;cases hev:bo pg call loop ([]:Heap).length c.body (sE 0 args) [] with
 |none=>rw[hev]at h;cases h
 |some r =>
  rcases r with ⟨e,UO,G1⟩
  rw[hev]at h;have hret:(match VI UO G1 c.res with
    |none=>none
    |some vs=>if c.nZ then some (Out.ret (VT vs),G1) else match norm G1 (VT vs) with
     |some (v,G')=>aj ([]:Heap).length (.ret v) G'
     |none=>none)=some (out,os')->os'=[]/\out.bf 0=true:=by
   intro h;split at h
   ·cases h
   ·rw[hk]at h;simp only[aZ,if_false]at h;split at h
    ·exact hl h
    ·cases h
  cases e with
  |normal=>exact hret h
  |ret=>exact hret h
  |exit id'=>cases h
  |iL v=>exact hl h
structure tJ (P:Program)(pg:fX):Prop where
 mixed:P.follows .mixedOrders=true
 code:∀f c,pg.Xa f=none->pg.code f=some c->DJ P f c
 quiet:∀f F args out G',pg.Xa f=some F->pg.quiet f=true->F args=some (out,G')->G'=[]/\out.bf 0=true
 Xa:∀f F,pg.Xa f=some F->od P f/\∀args out G',F args=some (out,G')->∀m w vargs,Inv m (λ_=>none) [] w->RL m (λ_=>none) (inf []) vargs args ->
  Calls P f vargs.toArray w λe w'=>∃m' cA,Inv m' cA G' w'/\lC m (λ_=>none) [] w m' cA G' w'/\WL m' cA (inf G') out e
theorem lE (h:tJ P pg):∀n,f_ P (dr pg n)/\fy P (dr pg n)/\ir pg (dr pg n)/\Xe P (ew pg n) n/\uT pg (ew pg n)
 |0=>⟨λf args G out G' hc=>by simp[dr]at hc,λf args G r hc=>by simp[dr]at hc,⟨λf args out os' _ hc=>by simp[dr]at hc,λk f args os out os' _ _ hc=>by simp[dr]at hc⟩,λN E _ _ live c code aN G e UO G' a w m μ Q _ hl=>by simp[ew]at hl,λk b live a aN G e F G' own own' _ _ _ _ _ h=>by simp[ew]at h⟩
 |n+1=>by
  obtain⟨hC,hE,hR,hL,hRL⟩:=lE h n;refine⟨?_,?_,?_,?_,GN n hR hRL⟩
  ·intro f args G out G' hc m μ w vargs hI ht hr;unfold dr at hc;split at hc
   ·rename_i F ho;split at hc
    ··have hμ:μ=λ_=>none:=by
       funext id;cases hm:μ id with
       |none=>rfl
       |some l=>have:=hI.ph id l hm;simp at this
      subst hμ;exact(h.Xa f F ho).2 args out G' hc m w vargs hI hr
    ·cases hc
   ·rename_i ho;split at hc
    ·rename_i c hcode;exact DK h.mixed hR hC hE hL (h.code f c ho hcode) hc hI ht hr
    ·cases hc
  ·intro f args G r hc;unfold dr at hc;split at hc
   ·rename_i F ho;exact(h.Xa f F ho).1
   ·rename_i ho;split at hc
    ·rename_i c hcode;obtain⟨fn,code,h1,h2,h3,_⟩:=(h.code f c ho hcode).ok;exact⟨fn,h1,h3,by rw[h2];rfl⟩
    ·cases hc
  ·refine⟨λf args out os' hf hc=>?_,?_⟩
   ·unfold dr at hc;unfold mI at hf;cases ho:pg.Xa f with
    |some F =>
     rw[ho]at hc hf;exact h.quiet f F args out os' ho hf hc
    |none =>
     rw[ho]at hc hf;dsimp only at hc hf;cases hcode:pg.code f with
     |none=>rw[hcode]at hc;cases hc
     |some c =>
      rw[hcode]at hc hf;simp only[a_]at hf;exact DL hf hc
   intro k f args os out os' hf hcl hc;cases k with
   |zero=>simp[kh]at hf
   |succ k =>
   unfold kh at hf;split at hf
   ·rename_i c ho hcode;unfold dr at hc;rw[ho,hcode]at hc;exact IN hR hRL hf hcl hc
   ·cases hf
  ·intro N E hE0 hE1 live c code aN G e UO G' a w m μ Q hcc hl hp hq;unfold ew at hl;cases hev:bo pg (dr pg n) (ew pg n) E.G.length c aN G with
   |none=>rw[hev]at hl;cases hl
   |some r =>
    rcases r with ⟨e1,env1,G1⟩
    rw[hev]at hl;rw[rounds_succ];refine fz (k:=n) h.mixed hR hC hE hL hE0 hE1 code c hcc hev hp ?_;cases e1 with
    |normal =>
     intro a' w' m' cA hp';dsimp only at hl;split at hl
     ·rename_i env2 G2 hg;obtain⟨μ2,hp2⟩:=zU hE0 hE1 hg hp';exact hL N E hE0 hE1 hcc hl hp2 hq
     ·cases hl
    |exit id=>cases hl;exact lD (by simp) hq
    |ret=>cases hl;exact lD (by simp) hq
    |iL v=>cases hl;exact lD (by simp) hq
theorem GV (h:tJ P pg){f:Nat}{args:List AV}{out:Out}{G':Heap}(he:E pg f args []=some (out,G')){m:Mem}{w:World}{vargs:List Value}(hI:Inv m (λ_=>none) [] w)(hr:RL m (λ_=>none) (inf []) vargs args) :
  Calls P f vargs.toArray w λe w'=>∃m' cA,Inv m' cA G' w'/\lC m (λ_=>none) [] w m' cA G' w'/\WL m' cA (inf G') out e:=by
 obtain⟨n,hn⟩:=gh.1 he;exact(lE h n).1 f args [] out G' hn m _ w vargs hI (λid h=>by simp at h) hr
end
def comp (P:Program)(f:Nat):Option (aU×List sH):=match P.funcs[f]? with
 |some fn=>if (fn.name == "runtime.NumGoroutine")=true then none else HY P fn
 |none=>none
theorem MP {P:Program}{f:Nat}{c:bz}(h:comp P f=some (erase c.body,c.res)):DJ P f c:=by
 unfold comp at h;split at h
 ·rename_i fn hf;split at h
  ·cases h
  ·rename_i hn;unfold HY at h;split at h
   ·cases h
   ·rename_i code hb;split at h
    ·rename_i b r h1 h2;cases h;exact⟨fn,code,hf,hb,by simpa using hn,h1,h2⟩
    ·cases h
 ·cases h
def CG (P:Program):List (Nat×bz)->Prop
 |[]=>True
 |p::r=>DJ P p.1 p.2/\CG P r
theorem CG.mem {P:Program}:∀{l:List (Nat×bz)},CG P l->∀f c,(f,c)∈l->DJ P f c
 |[],_,f,c,h=>by simp at h
 |p::r,hl,f,c,h=>by
  rcases aA.1 h with rfl|h
  ·exact hl.1
  ·exact hl.2.mem f c h
def X2 (EY:List (Nat×bz))(Xa:List (Nat×(List AV->Option (Out×Heap))))(quiet:List Nat):fX :=
 ⟨λf=>(EY.find? (λp=>Nat.beq p.1 f)).map (·.2),λf=>(Xa.find? (λp=>Nat.beq p.1 f)).map (·.2),λf=>quiet.contains f⟩
theorem X3 {EY:List (Nat×bz)}{Xa:List (Nat×(List AV->Option (Out×Heap)))}{q:List Nat}{f:Nat}{c:bz}(h:(X2 EY Xa q).code f=some c):(f,c)∈EY:=by
 simp only[X2,aP]at h;obtain⟨p,h1,rfl⟩:=h;have:=List.find?_some h1;have e:p.1=f:=U2 this;subst e;exact List.mem_of_find?_eq_some h1
theorem DM {EY:List (Nat×bz)}{Xa:List (Nat×(List AV->Option (Out×Heap)))}{q:List Nat}{f:Nat}{F:List AV->Option (Out×Heap)}(h:(X2 EY Xa q).Xa f=some F):(f,F)∈Xa:=by
 simp only[X2,aP]at h;obtain⟨p,h1,rfl⟩:=h;have:=List.find?_some h1;have e:p.1=f:=U2 this;subst e;exact List.mem_of_find?_eq_some h1
abbrev cr (c:bz):=some (erase c.body,c.res)
theorem fk {P:Program}{f:Nat}{c:bz}(h:comp P f=cr c:=by kernel_rfl):DJ P f c:=MP h
section
variable (P:Program)
def Qq:Nat->TypeId->Nat->List (Nat×Nat)
 |0,_,_=>[]
 |d+1,t,aK=>match P.underlying t with
  |some .bool=>[(aK,0)]
  |some (.int _)=>[(aK,1)]
  |some .string=>[(aK,2)]
  |some (.struct fs)=>fs.toList.flatMap fun (f:Field)=>Qq d f.type (aK+f.offset)
  |some (.array len e)=>match UR P e with
   |some n=>(List.range len).flatMap λi=>Qq d e (aK+i * n)
   |none=>[]
  |_=>[]
def Tt (o:Op):Option qd:=match o with
 |.binOp op t x y _=>match P.underlying t with
  |some (.struct _)|some (.array _ _)=>match UR P t,cY x,cY y with
   |some n,some x,some y=>some (.bin op (.leaves n (Qq P 8 t 0)) x y)
   |_,_,_=>none
  |_=>tv P o
 |o=>tv P o
def O_ (ops:Array Oper):List Oper->Option (List CI)
 |[]=>some []
 |o::r=>match Tt P o.op,O_ ops r with
  |some c,some l=>match o.guard with
   |none=>some (⟨o.dst,c,none⟩::l)
   |some (j,w)=>match (ops[j]?).bind (·.dst) with
    |some d=>some (⟨o.dst,c,some (d,w)⟩::l)
    |none=>none
  |_,_=>none
def D_:Code->Option aU
 |.skip=>some .skip
 |.ret=>some .ret
 |.exit id=>some (.exit id)
 |.seq a b=>match D_ a,D_ b with
  |some a,some b=>some (.seq a b)
  |_,_=>none
 |.region _ ops false=>(O_ P ops ops.toList).map (.ops [])
 |.region _ ops true=>(O_ P ops ops.toList).map (.draw [] · [] ((ops.toList.map WB).map (.closed 0)))
 |.cond c a b=>match cY c,D_ a,D_ b with
  |some c,some a,some b=>some (.cond c a b)
  |_,_,_=>none
 |.block id a=>(D_ a).map (.block id)
 |.loop a=>(D_ a).map (.loop [])
 |_=>none
def wv (k:Nat):Option (aU×List sH):=match P.funcs[k]? with
 |none=>none
 |some f=>match f.body with
  |none=>none
  |some b=>match D_ P b,XX P f.results.toList with
   |some c,some r=>some (c,r)
   |_,_=>none
end
def bit (n:Nat):Nat:=Nat.shiftLeft 1 n
def bits (l:List Nat):Nat:=l.foldr (λn s=>Nat.lor (bit n) s) 0
def RJ (s n:Nat):Nat:=Nat.xor (Nat.lor s (bit n)) (bit n)
def RK (s n:Nat):Bool:=Nat.beq (Nat.mod (Nat.shiftRight s n) 2) 1
def HV:Nat->Nat->Nat->List Nat
 |0,_,_=>[]
 |f+1,k,s=>match Nat.beq (Nat.mod s 2) 1 with
  |true=>k::HV f (k+1) (Nat.shiftRight s 1)
  |false=>match Nat.beq s 0 with
   |true=>[]
   |false=>HV f (k+1) (Nat.shiftRight s 1)
def QX:List Nat->List qK->List Nat
 |acc,[]=>acc
 |acc,.closed _ a::r=>QX (acc++[a.foldr (λj s=>Nat.lor (bit j) (Nat.lor (acc.getD j 0) s)) 0]) r
 |acc,_::r=>QX acc r
def RM:List Nat->List Nat->Bool
 |[],[]=>true
 |a::r,b::s=>match Nat.beq a b with|true=>RM r s|false=>false
 |_,_=>false
def Tu:qK->qK->Bool
 |.low a,.low b=>Nat.beq a b
 |.apart a b,.apart c d=>match Nat.beq a c with|true=>Nat.beq b d|false=>false
 |.closed a b,.closed c d=>match Nat.beq a c with|true=>RM b d|false=>false
 |.quiet a b,.quiet c d=>match Nat.beq a c with|true=>RM b d|false=>false
 |_,_=>false
def YX (c:qK):List qK->Bool
 |[]=>false
 |d::r=>match Tu d c with|true=>true|false=>YX c r
def QY:List qK->List qK->List qK
 |[],acc=>acc
 |c::r,acc=>match YX c acc with|true=>QY r acc|false=>QY r (acc++[c])
def Km (i:Nat)(ci:CI)(Ti:Nat):List CI->Nat->List qK->List qK
 |[],_,acc=>acc
 |cj::r,j,acc=>match Nat.beq i j with
  |true=>acc
  |false=>match RK Ti j with
   |true=>Km i ci Ti r (j+1) acc
   |false=>match dZ cj with
    |true=>Km i ci Ti r (j+1) acc
    |false=>match dC (bg cj.o) (bg ci.o) with
     |some c=>Km i ci Ti r (j+1) (QY c acc)
     |none=>Km i ci Ti r (j+1) acc
def PD (l:List CI):List CI->List Nat->Nat->List qK->List qK
 |ci::r,T::Ts,i,acc=>match dZ ci with
  |true=>PD l r Ts (i+1) acc
  |false=>PD l r Ts (i+1) (Km i ci T l 0 acc)
 |_,_,_,acc=>acc
def Di:List CI->Nat->Nat
 |[],s=>s
 |i::r,s=>Nat.lor (match i.d with|some d=>RJ (Di r s) d|none=>Di r s) (bits (ej i))
def Rf:List (Nat×Nat)->Nat->Nat
 |[],_=>0
 |(k,s)::r,id=>match Nat.beq k id with|true=>s|false=>Rf r id
def Rg (f:Nat->Nat):Nat->Nat->Nat
 |0,s=>s
 |n+1,s=>match Nat.beq (Nat.lor s (f s)) s with|true=>s|false=>Rg f n (Nat.lor s (f s))
def lv:aU->Nat->List (Nat×Nat)->Nat->Nat
 |.skip,s,_,_=>s
 |.ret,_,_,rs=>rs
 |.exit id,_,ex,_=>Rf ex id
 |.seq a b,s,ex,rs=>lv a (lv b s ex rs) ex rs
 |.ops _ l,s,_,_=>Di l s
 |.draw _ l _ _,s,_,_=>Di (l.filter dZ++l.filter (λc=>!dZ c)) s
 |.cond c a b,s,ex,rs=>Nat.lor (bits (oT c)) (Nat.lor (lv a s ex rs) (lv b s ex rs))
 |.block id a,s,ex,rs=>lv a s ((id,s)::ex) rs
 |.loop _ a,_,ex,rs=>Rg (λs=>lv a s ex rs) 20 0
def QZ:aU->Nat->List (Nat×Nat)->Nat->List aU->aU×List aU
 |.skip,_,_,_,k=>(.skip,k)
 |.ret,_,_,_,k=>(.ret,k)
 |.exit id,_,_,_,k=>(.exit id,k)
 |.seq a b,s,ex,rs,k=>match QZ a (lv b s ex rs) ex rs k with
  |(a,k)=>match QZ b s ex rs k with
   |(b,k)=>(.seq a b,k)
 |.ops _ l,s,_,_,k=>(.ops (HV 999 0 s) l,k)
 |.draw _ l _ c,s,_,_,k=>(.draw (HV 999 0 s) (l.filter dZ) (l.filter (λc=>!dZ c)) (PD l l (QX [] c) 0 []),k)
 |.cond c a b,s,ex,rs,k=>match QZ a s ex rs k with
  |(a,k)=>match QZ b s ex rs k with
   |(b,k)=>(.cond c a b,k)
 |.block id a,s,ex,rs,k=>match QZ a s ((id,s)::ex) rs k with
  |(a,k)=>(.block id a,k)
 |.loop l a,s,ex,rs,k=>match QZ a (lv (.loop l a) s ex rs) ex rs k with
  |(b,k)=>(.loop (HV 999 0 (lv (.loop l a) s ex rs)) (.exit (1000+k.length)),k++[b])
def Rh (r:List sH):Nat:=bits (r.map fun|.t n=>n|.cell a _ _=>a)
def an (r:Option (aU×List sH)):aU×List aU×List sH:=match r with
 |some (c,r)=>match QZ c (Rh r) [] (Rh r) [] with
  |(c,l)=>(c,l,r)
 |none=>(.skip,[],[])
def P7 (cs:List aU):aU->aU
 |.seq a b=>.seq (P7 cs a) (P7 cs b)
 |.cond c a b=>.cond c (P7 cs a) (P7 cs b)
 |.block id a=>.block id (P7 cs a)
 |.loop l a=>.loop l (match a with|.exit n=>cs.getD (n-1000) .skip|a=>a)
 |c=>c
def mk (a:aU×List aU×List sH)(ka kr:Bool)(cs:List aU):bz:=⟨P7 cs a.1,a.2.2,ka,kr⟩
def ml (a:aU×List aU×List sH)(cs:List aU):aU:=P7 cs (a.2.1.getD cs.length .skip)
def w {α:Type}(r:α){l:α}(_:r=l:=by conv=>lhs;reduce):α:=l
theorem Tv (n:Nat)(h:n<2 ^ 8):UInt8.ofBitVec ⟨⟨n,h⟩⟩=UInt8.ofNat n:=by
 apply yi.1;have:=ye (n:=n) h;rw[this];rfl
def wf {α:Type}(r:α){l:α}(_:r=l:=by conv=>lhs;reduce;simp only[Tv,Int.ofNat_eq_natCast,Int.cast_ofNat_Int]):α:=l
@[simp ↓] theorem S3 {α:Type} {r l:α} (h:r=l):@wf α r l h=l:=rfl
section
set_option maxRecDepth 100000
set_option maxHeartbeats 400000
noncomputable section
def a3:=w (an (w (wv Tryz.prog 3)))
def c3:=wf (mk a3 false false [])
def a5:=w (an (w (wv Tryz.prog 5)))
def c5:=wf (mk a5 false false [])
def a6:=w (an (w (wv Tryz.prog 6)))
def c6:=wf (mk a6 false false [])
def a8:=w (an (w (wv Tryz.prog 8)))
def c8:=wf (mk a8 false false [])
def a9:=w (an (w (wv Tryz.prog 9)))
def DN:=wf (ml a9 [])
def c9:=(wf λx=>mk a9 false false [x]) DN
def Cq:=w (an (w (wv Tryz.prog 10)))
def XU:=wf (ml Cq [])
def tK:=(wf λx=>ml Cq [x]) XU
def H5:=(wf λx y=>mk Cq false false [x,y]) XU tK
def Bl:=w (an (w (wv Tryz.prog 12)))
def CH:=wf (ml Bl [])
def Ms:=(wf λx=>mk Bl false false [x]) CH
def Cr:=w (an (w (wv Tryz.prog 13)))
def zW:=wf (ml Cr [])
def H6:=(wf λx=>mk Cr false false [x]) zW
def Qr:=w (an (w (wv Tryz.prog 14)))
def CJ:=wf (ml Qr [])
def MQ:=(wf λx=>mk Qr false false [x]) CJ
def Q0:=w (an (w (wv Tryz.prog 15)))
def zX:=wf (ml Q0 [])
def MR:=(wf λx=>mk Q0 false false [x]) zX
def GH:=w (an (w (wv Tryz.prog 16)))
def Mt:=wf (mk GH false false [])
def OD:=w (an (w (wv Tryz.prog 17)))
def zY:=wf (ml OD [])
def MS:=(wf λx=>mk OD false false [x]) zY
def P_:=w (an (w (wv Tryz.prog 18)))
def MT:=wf (mk P_ false false [])
def Ud:=w (an (w (wv Tryz.prog 19)))
def T8:=wf (ml Ud [])
def Uk:=(wf λx=>mk Ud false false [x]) T8
def Qg:=w (an (w (wv Tryz.prog 20)))
def Mv:=wf (mk Qg false false [])
def Qb:=w (an (w (wv Tryz.prog 21)))
def qo:=wf (ml Qb [])
def GI:=(wf λx=>mk Qb false false [x]) qo
def Tw:=w (an (w (wv Tryz.prog 22)))
def Mw:=wf (mk Tw false false [])
def S4:=w (an (w (wv Tryz.prog 23)))
def zZ:=wf (ml S4 [])
def z0:=(wf λx=>mk S4 false false [x]) zZ
def S5:=w (an (w (wv Tryz.prog 24)))
def qp:=wf (ml S5 [])
def GW:=(wf λx=>mk S5 false false [x]) qp
def Tx:=w (an (w (wv Tryz.prog 25)))
def Pj:=wf (mk Tx false false [])
def S6:=w (an (w (wv Tryz.prog 26)))
def KQ:=wf (ml S6 [])
def Pk:=(wf λx=>mk S6 false false [x]) KQ
def Ty:=w (an (w (wv Tryz.prog 27)))
def MU:=wf (mk Ty false false [])
def RN:=w (an (w (wv Tryz.prog 28)))
def rU:=wf (ml RN [])
def qq:=(wf λx=>ml RN [x]) rU
def EZ:=(wf λx y=>mk RN false false [x,y]) rU qq
def Tz:=w (an (w (wv Tryz.prog 29)))
def Mx:=wf (mk Tz false false [])
def TA:=w (an (w (wv Tryz.prog 30)))
def Kv:=wf (mk TA false false [])
def TB:=w (an (w (wv Tryz.prog 32)))
def CK:=wf (mk TB false false [])
def RO:=w (an (w (wv Tryz.prog 33)))
def CL:=wf (ml RO [])
def CM:=(wf λx=>ml RO [x]) CL
def MV:=(wf λx y=>mk RO false false [x,y]) CL CM
def QI:=w (an (w (wv Tryz.prog 34)))
def xy:=wf (ml QI [])
def Kw:=(wf λx=>mk QI false false [x]) xy
def Ra:=w (an (w (wv Tryz.prog 35)))
def oX:=wf (ml Ra [])
def pw:=(wf λx=>ml Ra [x]) oX
def H7:=(wf λx y=>mk Ra false false [x,y]) oX pw
def Ul:=w (an (w (wv Tryz.prog 36)))
def T5:=wf (ml Ul [])
def T7:=(wf λx=>ml Ul [x]) T5
def Uh:=(wf λx y=>mk Ul false false [x,y]) T5 T7
def S7:=w (an (w (wv Tryz.prog 37)))
def X4:=wf (ml S7 [])
def Bm:=(wf λx=>mk S7 false true [x]) X4
def TC:=w (an (w (wv Tryz.prog 38)))
def My:=wf (mk TC false false [])
def TD:=w (an (w (wv Tryz.prog 39)))
def Mz:=wf (mk TD false false [])
def S8:=w (an (w (wv Tryz.prog 40)))
def X5:=wf (ml S8 [])
def MA:=(wf λx=>mk S8 false false [x]) X5
def S9:=w (an (w (wv Tryz.prog 41)))
def xz:=wf (ml S9 [])
def Kx:=(wf λx=>mk S9 false false [x]) xz
def QV:=w (an (w (wv Tryz.prog 42)))
def YQ:=wf (mk QV false false [])
def TE:=w (an (w (wv Tryz.prog 43)))
def Pl:=wf (mk TE false false [])
end
noncomputable section
def TF:=w (an (w (wv Tryz.prog 44)))
def Pm:=wf (mk TF false false [])
def TG:=w (an (w (wv Tryz.prog 45)))
def Pn:=wf (mk TG false false [])
def S_:=w (an (w (wv Tryz.prog 46)))
def oY:=wf (ml S_ [])
def MB:=(wf λx=>mk S_ false false [x]) oY
def Ta:=w (an (w (wv Tryz.prog 47)))
def qt:=wf (ml Ta [])
def MW:=(wf λx=>mk Ta false false [x]) qt
def QJ:=w (an (w (wv Tryz.prog 48)))
def MX:=wf (mk QJ false false [])
def Un:=w (an (w (wv Tryz.prog 49)))
def T_:=wf (ml Un [])
def Uf:=(wf λx=>mk Un false false [x]) T_
def TH:=w (an (w (wv Tryz.prog 50)))
def Ky:=wf (mk TH false false [])
def Tb:=w (an (w (wv Tryz.prog 51)))
def qu:=wf (ml Tb [])
def YD:=(wf λx=>mk Tb false true [x]) qu
def Tc:=w (an (w (wv Tryz.prog 52)))
def rV:=wf (ml Tc [])
def GJ:=(wf λx=>mk Tc false true [x]) rV
def TI:=w (an (w (wv Tryz.prog 53)))
def Kz:=wf (mk TI false false [])
def Td:=w (an (w (wv Tryz.prog 54)))
def YE:=wf (ml Td [])
def MY:=(wf λx=>mk Td false false [x]) YE
def TJ:=w (an (w (wv Tryz.prog 55)))
def yD:=wf (mk TJ false false [])
def Qc:=w (an (w (wv Tryz.prog 56)))
def rW:=wf (ml Qc [])
def MZ:=(wf λx=>mk Qc false false [x]) rW
def Rb:=w (an (w (wv Tryz.prog 57)))
def YF:=wf (ml Rb [])
def KA:=(wf λx=>mk Rb false false [x]) YF
def O6:=w (an (w (wv Tryz.prog 58)))
def Ej:=wf (mk O6 false false [])
def Rc:=w (an (w (wv Tryz.prog 59)))
def YG:=wf (ml Rc [])
def M0:=(wf λx=>mk Rc false false [x]) YG
def RI:=w (an (w (wv Tryz.prog 60)))
def H8:=wf (mk RI false false [])
def Te:=w (an (w (wv Tryz.prog 61)))
def KR:=wf (ml Te [])
def Po:=(wf λx=>mk Te false false [x]) KR
def TK:=w (an (w (wv Tryz.prog 62)))
def Pp:=wf (mk TK false false [])
def Tf:=w (an (w (wv Tryz.prog 63)))
def KS:=wf (ml Tf [])
def Pq:=(wf λx=>mk Tf false false [x]) KS
def TL:=w (an (w (wv Tryz.prog 64)))
def Pr:=wf (mk TL false false [])
def RQ:=w (an (w (wv Tryz.prog 65)))
def KT:=wf (ml RQ [])
def KU:=(wf λx=>ml RQ [x]) KT
def Ps:=(wf λx y=>mk RQ false false [x,y]) KT KU
def TM:=w (an (w (wv Tryz.prog 66)))
def M1:=wf (mk TM false false [])
def Qd:=w (an (w (wv Tryz.prog 67)))
def IU:=wf (mk Qd false false [])
def TN:=w (an (w (wv Tryz.prog 68)))
def YP:=wf (mk TN false false [])
def Ri:=w (an (w (wv Tryz.prog 69)))
def YH:=wf (ml Ri [])
def MC:=(wf λx=>mk Ri false false [x]) YH
def TO:=w (an (w (wv Tryz.prog 70)))
def M3:=wf (mk TO false true [])
def Tg:=w (an (w (wv Tryz.prog 71)))
def YI:=wf (ml Tg [])
def KV:=(wf λx=>mk Tg false false [x]) YI
def TP:=w (an (w (wv Tryz.prog 72)))
def H9:=wf (mk TP false true [])
def Th:=w (an (w (wv Tryz.prog 73)))
def Vl:=wf (ml Th [])
def CN:=(wf λx=>mk Th true true [x]) Vl
def TQ:=w (an (w (wv Tryz.prog 74)))
def MD:=wf (mk TQ false false [])
def TR:=w (an (w (wv Tryz.prog 75)))
def IV:=wf (mk TR false false [])
def TS:=w (an (w (wv Tryz.prog 76)))
def ME:=wf (mk TS false false [])
def Y_:=w (an (w (wv Tryz.prog 77)))
def qv:=wf (ml Y_ [])
def IW:=(wf λx=>mk Y_ false false [x]) qv
def Zf:=w (an (w (wv Tryz.prog 78)))
def M4:=wf (mk Zf false false [])
def Qh:=w (an (w (wv Tryz.prog 79)))
def M5:=wf (mk Qh false false [])
def TU:=w (an (w (wv Tryz.prog 80)))
def DO:=wf (mk TU false false [])
def TV:=w (an (w (wv Tryz.prog 81)))
def Pu:=wf (mk TV false false [])
def TW:=w (an (w (wv Tryz.prog 82)))
def Pv:=wf (mk TW false false [])
def TX:=w (an (w (wv Tryz.prog 83)))
def Pw:=wf (mk TX false false [])
end
end
end Go.Proofs.Z
