/- A part of the proof. -/
import Derived.Test.YtffohgbmjjbhiaaGreatB00
import Derived.Deep.AppendSrc
import Derived.Deep.MidRow
import Derived.Laws.StructEq
set_option linter.all false
namespace Go.Proofs.Z
def kE (pg:fX)(call:di)(c:CI)(aN:Env)(G:Heap):Option (Env×Heap) :=
 match tu aN c.g with
 |none=>none
 |some false=>some (put aN c.d .undef,G)
 |some true=>match Uu pg call c.o aN G with
  |some (.val v G)=>some (put aN c.d v,G)
  |_=>none
def uf (pg:fX)(call:di):List CI->Env->Heap->Option (Env×Heap)
 |[],aN,G=>some (aN,G)
 |c::r,aN,G=>match kE pg call c aN G with
  |none=>none
  |some (aN,G)=>uf pg call r aN G
def zu (e e':Env):Prop:=∀t,lk e t=lk e' t
theorem lU (aN:Env)(d:Option Nat)(v:AV)(t:Nat):lk (put aN d v) t=if d=some t then some v else lk aN t:=by
 cases d with
 |none=>simp[put]
 |some d=>simp[put,lk]
section
variable {pg:fX}{call:di}
theorem lp:∀{l:List CI} {aN:Env} {G:Heap} {F:Env} {G':Heap},dP pg call l aN G=some (.normal,F,G')->uf pg call l aN G=some (F,G')
 |[],aN,G,F,G',h=>by simp[dP]at h;simp[uf,h]
 |c::r,aN,G,F,G',h=>by
  simp only[dP]at h;simp only[uf,kE];split at h
  ·cases h
  ·rename_i hg;rw[hg];exact lp h
  ·rename_i hg;rw[hg];split at h
   ·cases h
   ·rename_i hv;dsimp only;rw[hv];exact lp h
   ·cases h
theorem nz {c:CI}{aN:Env}{G:Heap}{F:Env}{G1:Heap}(h:kE pg call c aN G=some (F,G1)):∃v,F=put aN c.d v /\
  (∀UO,(∀t,t∈ej c->lk aN t=lk UO t)->kE pg call c UO G=some (put UO c.d v,G1)) /\
  ((G1=G/\∀UO G',(∀t,t∈ej c->lk aN t=lk UO t)->kE pg call c UO G'=some (put UO c.d v,G')) \/
   (tu aN c.g=some true/\Uu pg call c.o aN G=some (.val v G1)/\cN (bg c.o)=false)):=by
 have hg':∀UO,(∀t,t∈ej c->lk aN t=lk UO t)->tu UO c.g=tu aN c.g:=by
  intro UO he;cases hc:c.g with
  |none=>rfl
  |some p =>
   rcases p with ⟨t,w⟩
   simp only[tu];rw[he t (by simp[ej,hc])]
 unfold kE at h ⊢;split at h
 ·cases h
 ·rename_i hg;cases h;refine⟨_,rfl,λUO he=>by rw[hg' UO he,hg],.inl ⟨rfl,λUO G' he=>by rw[hg' UO he,hg]⟩⟩
 ·rename_i hg;split at h
  ·rename_i v G2 hv;cases h;have ho:∀UO,(∀t,t∈ej c->lk aN t=lk UO t)->∀G',Uu pg call c.o UO G'=Uu pg call c.o aN G':=λUO he G'=>(qN λt ht=>he t (by simp[ej,ht])).symm;refine⟨v,rfl,λUO he=>by rw[hg' UO he,hg];dsimp only;rw[ho UO he,hv],?_⟩;cases hs:cN (bg c.o) with
   |false=>exact .inr ⟨hg,hv,rfl⟩
   |true =>
    obtain⟨u,e,hall⟩:=pe hs hv;cases e;exact .inl ⟨rfl,λUO G' he=>by rw[hg' UO he,hg];dsimp only;rw[ho UO he,hall]⟩
  ·cases h
theorem Eu {o:qd}{aN:Env}{G G1:Heap}{v:AV}(h:Uu pg call o aN G=some (.val v G1)):G.length<=G1.length:=by
 cases hs:cN (bg o) with
 |true=>obtain⟨u,e,_⟩:=pe hs h;cases e;exact aB _
 |false =>
  have hcall:∀{f:Nat} {args:List AV},jV.of (UM pg call f args G)=some (.val v G1)->G.length<=G1.length:=by
   intro f args hc;cases hx:UM pg call f args G with
   |none=>rw[hx]at hc;simp[jV.of]at hc
   |some y =>
    rcases y with ⟨out,G2⟩
    have:G2=G1:=by
     rw[hx]at hc;cases out<;>simp[jV.of]at hc;exact hc.2
    subst this;unfold UM at hx;split at hx
    ·cases hx
    ·rename_i args' e hex;split at hx
     ·cases hx
     ·rename_i os e' ho;split at hx
      ·cases hx
      ·cases hx;have h1:∀(bq:Bool) {l l':List AV} {e e':fI},aQ bq e l=some (l',e')->e'.G.length=e.G.length:=by
        intro bq l;refine(?_:∀{l':List AV} {e e':fI},aQ bq e l=some (l',e')->e'.G.length=e.G.length);exact lV bq
       have h2:∀(fuel:Nat) {e e':fI} {k:Nat} {os:Heap},UG fuel e k=some (os,e')->e'.G.length=e.G.length:=λfuel=>pf fuel;have h3:_=G.length:=h1 _ hex;have:=h2 _ ho;have hsl:∀(ids:List Nat) (aK:Nat) (l:List Nat) (G os:Heap),(b_ ids aK G l os).length=G.length:=by
        intro ids aK l
        induction l with
        |nil=>intro G os;simp[b_]
        |cons x r ih=>intro G os;cases os with
         |nil=>simp[b_]
         |cons o os=>simp[b_,ih]
       simp only[aR,hsl];omega
  cases o with
  |call f args =>
   simp only[Uu]at h;split at h
   ·exact hcall h
   ·cases h
  |callv x args =>
   simp only[Uu]at h;split at h
   ·exact hcall h
   ·cases h
  |panic x =>
   simp only[Uu]at h;split at h
   ·split at h<;>cases h
   ·cases h
   ·cases h
  |new cs =>
   simp only[Uu]at h;split at h
   ·cases h;simp
   ·cases h
  |box x =>
   simp only[Uu]at h;split at h
   ·split at h
    ·cases h;simp
    ·cases h
   ·cases h
  |g7 a b c d e =>
   simp only[Uu]at h;split at h
   ·split at h
    ·cases h;simp
    ·cases h
   ·cases h
  |Wy a b c d =>
   simp only[Uu]at h;split at h
   ·split at h
    ·cases h
    ·split at h
     ·cases h
     ·rename_i hr;cases h;have:=WY (V3 hr);simp;omega
   ·cases h
  |rH str sz x lo hi =>
   simp only[Uu]at h;split at h
   ·cases h
   ·split at h
    ·split at h
     ·split at h
      ·rename_i hs';cases h;unfold jQ at hs';split at hs'<;>try dsimp only at hs'
       ·split at hs'
        ·cases hs';exact aB _
        ·cases hs'
       ·split at hs'
        ·cases hs';exact aB _
        ·cases hs'
       ·split at hs'
        ·cases hs';exact aB _
        ·cases hs'
       ·split at hs'
        ·split at hs'
         ·split at hs'
          ·cases hs';exact aB _
          ·cases hs';simp
         ·cases hs'
        ·cases hs'
       ·cases hs'
      ·cases h
     ·cases h
    ·cases h
  |store n x y =>
   simp only[Uu]at h;split at h
   ·split at h
    ·rename_i hs';cases h;unfold iM at hs';split at hs'
     ·split at hs'
      ·split at hs'
       ·split at hs'
        ·cases hs';simp
        ·cases hs'
       ·cases hs'
      ·split at hs'
       ·cases hs'
       ·rename_i hn;have:=WY (ny hn);split at hs'
        ·split at hs'
         ·split at hs'
          ·split at hs'
           ·cases hs';simp;omega
           ·cases hs'
          ·cases hs'
         ·cases hs'
        ·cases hs'
      ·cases hs'
     ·cases hs'
    ·cases h
   ·cases h
  |app a b c x y =>
   simp only[Uu]at h;split at h
   ·split at h
    ·rename_i hs';cases h;unfold cX at hs';split at hs'
     ·cases hs'
     ·split at hs'
      ·split at hs'
       ·split at hs'
        ·cases hs';exact aB _
        ·split at hs'
         ·cases hs';simp
         ·cases hs'
       ·split at hs'
        ·split at hs'
         ·cases hs';simp
         ·cases hs'
        ·cases hs'
       ·cases hs'
      ·cases hs'
    ·cases h
   ·cases h
  |load n g x =>
   simp only[Uu]at h;split at h
   ·obtain⟨u,e,_⟩:=ln h;cases e;exact aB _
   ·cases h
  |len n x =>
   simp only[Uu]at h;split at h
   ·split at h
    ·cases h;exact aB _
    ·cases h
   ·cases h
  |iY x =>
   simp only[Uu]at h;split at h
   ·split at h
    ·cases h;exact aB _
    ·cases h
   ·cases h
  |eC a b x y =>
   simp only[Uu]at h;split at h
   ·split at h
    ·split at h
     ·split at h
      ·cases h;exact aB _
      ·cases h
     ·split at h
      ·cases h;exact aB _
      ·cases h
     ·cases h
    ·split at h
     ·split at h
      ·split at h
       ·split at h
        ·cases h;exact aB _
        ·cases h
       ·cases h
      ·cases h
     ·split at h
      ·split at h
       ·cases h;exact aB _
       ·cases h
      ·cases h
     ·cases h
   ·cases h
  |_=>simp[bg,cN]at hs
where
 lV (bq:Bool):∀{l l':List AV} {e e':fI},aQ bq e l=some (l',e')->e'.G.length=e.G.length
  |[],l',e,e',h=>by simp[aQ]at h;rw[<- h.2]
  |a::r,l',e,e',h=>by
   simp only[aQ]at h
   split at h
   ·cases h
   ·rename_i hn
    split at h
    ·cases h
    ·rename_i hn2
     cases h
     rw[lV bq hn2,exp_len bq hn]
 exp_len (bq:Bool):∀{a a':AV} {e e':fI},exp bq e a=some (a',e')->e'.G.length=e.G.length
  |.p x,a',e,e',h=>by simp[exp]at h;rw[<- h.2]
  |.aC,a',e,e',h=>by simp only[exp]at h;split at h<;>(cases h;rfl)
  |.undef,a',e,e',h=>by simp[exp]at h;rw[<- h.2]
  |.rp cs,a',e,e',h=>by simp[exp]at h;rw[<- h.2]
  |.arr id len gen,a',e,e',h=>by
   simp only[exp]at h
   split at h
   ·cases h;unfold fI.id;split<;>rfl
   ·split at h
    ·rename_i hn;cases h;exact WY (nx hn)
    ·cases h
  |.ptr id off,a',e,e',h=>by simp only[exp]at h;cases h;unfold fI.id;split<;>rfl
  |.ez id idx off gen,a',e,e',h=>by simp only[exp]at h;cases h;unfold fI.id;split<;>rfl
  |.ag cs,a',e,e',h=>by
   simp only[exp]at h
   split at h
   ·rename_i hn;cases h;exact lV bq hn
   ·cases h
  |.dF cs,a',e,e',h=>by
   simp only[exp]at h
   split at h
   ·rename_i hn;cases h;exact lV bq hn
   ·cases h
  |.eT t x,a',e,e',h=>by
   simp only[exp]at h
   split at h
   ·rename_i hn;cases h;exact exp_len bq hn
   ·cases h
  |.fn f x y,a',e,e',h=>by
   simp only[exp]at h
   split at h
   ·cases h
   ·rename_i hx
    split at h
    ·cases h
    ·rename_i hy
     cases h
     rw[lV true hy,lV true hx]
 pf:∀(fuel:Nat) {e e':fI} {k:Nat} {os:Heap},UG fuel e k=some (os,e')->e'.G.length=e.G.length
  |0,e,e',k,os,h=>by
   simp only[UG]at h
   split at h
   ·cases h
   ·cases h;rfl
  |fuel+1,e,e',k,os,h=>by
   simp only[UG]at h
   split at h
   ·cases h;rfl
   ·split at h
    ·cases h
    ·split at h
     ·cases h
     ·rename_i hr;cases h;exact pf fuel hr
    ·split at h
     ·cases h
     ·rename_i hx
      split at h
      ·cases h
      ·rename_i hr
       cases h
       rw[pf fuel hr,lV true hx]
theorem YC {c:CI}{aN:Env}{G:Heap}{F:Env}{G1:Heap}(h:kE pg call c aN G=some (F,G1)):G.length<=G1.length:=by
 obtain⟨v,_,_,h3⟩:=nz h;rcases h3 with ⟨rfl,_⟩|⟨_,h3,_⟩
 ·exact aB _
 ·exact Eu h3
theorem uH:∀{l:List CI} {aN:Env} {G:Heap} {F:Env} {G1:Heap},uf pg call l aN G=some (F,G1)->∀t,(∀c,c∈l->c.d≠some t)->lk F t=lk aN t
 |[],aN,G,F,G1,h,t,ht=>by simp[uf]at h;rw[h.1]
 |c::r,aN,G,F,G1,h,t,ht=>by
  simp only[uf]at h;split at h
  ·cases h
  ·rename_i e g hc;obtain⟨v,rfl,_,_⟩:=nz hc;rw[uH h t (λc' hc'=>ht c' (by simp[hc'])),lU,aa (ht c (by simp))]
theorem Yk:∀{l:List CI} {aN UO:Env} {G:Heap} {F:Env} {G1:Heap},uf pg call l aN G=some (F,G1)->zu UO aN->∃F',uf pg call l UO G=some (F',G1)/\zu F' F
 |[],aN,UO,G,F,G1,h,he=>by simp[uf]at h;obtain⟨rfl,rfl⟩:=h;exact⟨UO,rfl,he⟩
 |c::r,aN,UO,G,F,G1,h,he=>by
  simp only[uf]at h ⊢;split at h
  ·cases h
  ·rename_i e g hc;obtain⟨v,rfl,h2,_⟩:=nz hc;rw[h2 UO (λt _=>(he t).symm)];exact Yk h λt=>by rw[lU,lU,he t]
def V4:qK->List Nat
 |.low t=>[t]
 |.apart t u=>[t,u]
 |.closed _ ts=>ts
 |.quiet _ ts=>ts
theorem XT {F aN:Env}{L:Nat}{c:qK}(h:∀t,t∈V4 c->lk aN t=lk F t):VS pg aN L c=VS pg F L c:=by
 cases c with
 |low t=>simp only[VS];rw[h t (by simp[V4])]
 |apart t u=>simp only[VS];rw[h t (by simp[V4]),h u (by simp[V4])]
 |closed f ts =>
  have:∀(ts:List Nat),(∀t,t∈ts->lk aN t=lk F t)->ts.all (eu aN)=ts.all (eu F):=by
   intro ts
   induction ts with
   |nil=>intro _;rfl
   |cons a r ih=>intro hh;simp only[dJ,eu];rw[hh a (by simp),ih (λt ht=>hh t (by simp[ht]))]
  simp only[VS];rw[this ts (λt ht=>h t (by simpa [V4] using ht))]
 |quiet f ts =>
  have:∀(ts:List Nat),(∀t,t∈ts->lk aN t=lk F t)->ts.all (qM aN)=ts.all (qM F):=by
   intro ts
   induction ts with
   |nil=>intro _;rfl
   |cons a r ih=>intro hh;simp only[dJ,qM];rw[hh a (by simp),ih (λt ht=>hh t (by simp[ht]))]
  simp only[VS];rw[this ts (λt ht=>h t (by simpa [V4] using ht))]
theorem uI {o:qd}:(∀x,bg o=.reader x->x∈reads o)/\(∀x,bg o=.writer (some x)->x∈reads o)/\(∀f args,bg o=.call f args->reads o=sF args):=by
 refine⟨λx h=>?_,λx h=>?_,λf args h=>?_⟩
 ·cases o with
  |load n g y=>cases y<;>simp[bg]at h;subst h;simp[reads,oT]
  |len n y=>cases y<;>simp[bg]at h;subst h;simp[reads,oT]
  |iY y=>cases y<;>simp[bg]at h;subst h;simp[reads,oT]
  |eC a b y z=>cases y<;>simp[bg]at h;subst h;simp[reads,oT]
  |store n x y=>cases x<;>simp[bg]at h
  |app a b c x y=>cases x<;>simp[bg]at h
  |call f args=>simp only[bg]at h;split at h<;>cases h
  |_=>simp[bg]at h
 ·cases o with
  |load n g y=>cases y<;>simp[bg]at h
  |len n y=>cases y<;>simp[bg]at h
  |iY y=>cases y<;>simp[bg]at h
  |eC a b y z=>cases y<;>simp[bg]at h
  |store n x y=>cases x<;>simp[bg]at h;subst h;simp[reads,oT]
  |app a b c x y=>cases x<;>simp[bg]at h;subst h;simp[reads,oT]
  |call f args=>simp only[bg]at h;split at h<;>cases h
  |_=>simp[bg]at h
 ·cases o with
  |load n g y=>cases y<;>simp[bg]at h
  |len n y=>cases y<;>simp[bg]at h
  |iY y=>cases y<;>simp[bg]at h
  |eC a b y z=>cases y<;>simp[bg]at h
  |store n x y=>cases x<;>simp[bg]at h
  |app a b c x y=>cases x<;>simp[bg]at h
  |call f args =>
   simp only[bg]at h;split at h
   ·cases h;rfl
   ·cases h
  |_=>simp[bg]at h
theorem Bu {j i:qd}{cs:List qK}(h:dC (bg j) (bg i)=some cs){c:qK}(hc:c∈cs):cN (bg j)=false/\cN (bg i)=false/\∀t,t∈V4 c->t∈reads j\/t∈reads i:=by
 obtain⟨j1,j2,j3⟩:=uI (o:=j);obtain⟨i1,i2,i3⟩:=uI (o:=i);revert j1 j2 j3 i1 i2 i3 h;generalize bg j=kj;generalize bg i=ki;intro h j1 j2 j3 i1 i2 i3;cases kj with
 |im=>simp[dC]at h;subst h;simp at hc
 |reader x=>cases ki with
  |im=>simp[dC]at h;subst h;simp at hc
  |reader y=>simp[dC]at h;subst h;simp at hc
  |writer y=>cases y with
   |none=>simp[dC]at h;subst h;simp at hc
   |some y =>
    simp[dC]at h;subst h;simp at hc;subst hc;refine⟨rfl,rfl,λt ht=>?_⟩;simp[V4]at ht;rcases ht with rfl|rfl
    ·exact .inl (j1 _ rfl)
    ·exact .inr (i2 _ rfl)
  |call f args =>
   simp[dC]at h;subst h;simp at hc;subst hc;refine⟨rfl,rfl,λt ht=>.inr ?_⟩;rw[i3 f args rfl];exact ht
  |alloc=>simp[dC]at h;subst h;simp at hc
  |bad=>simp[dC]at h
 |alloc=>cases ki with
  |im=>simp[dC]at h;subst h;simp at hc
  |reader y =>
   simp[dC]at h;subst h;simp at hc;subst hc;refine⟨rfl,rfl,λt ht=>?_⟩;simp[V4]at ht;subst ht;exact .inr (i1 _ rfl)
  |call f args =>
   simp[dC]at h;subst h;simp at hc;subst hc;refine⟨rfl,rfl,λt ht=>.inr ?_⟩;rw[i3 f args rfl];exact ht
  |writer y=>cases y<;>simp[dC]at h
  |_=>simp[dC]at h
 |writer x=>cases ki with
  |alloc=>cases x<;>simp[dC]at h
  |im=>cases x<;>(simp[dC]at h;subst h;simp at hc)
  |reader y=>cases x with
   |none =>
    simp[dC]at h;subst h;simp at hc;subst hc;refine⟨rfl,rfl,λt ht=>?_⟩;simp[V4]at ht;subst ht;exact .inr (i1 _ rfl)
   |some x =>
    simp[dC]at h;subst h;simp at hc;rcases hc with rfl|rfl
    ·refine⟨rfl,rfl,λt ht=>?_⟩;simp[V4]at ht;subst ht;exact .inr (i1 _ rfl)
    ·refine⟨rfl,rfl,λt ht=>?_⟩;simp[V4]at ht;rcases ht with rfl|rfl
     ·exact .inr (i1 _ rfl)
     ·exact .inl (j2 _ rfl)
  |writer y=>cases x<;>simp[dC]at h
  |call f args=>cases x<;>simp[dC]at h
  |bad=>cases x<;>simp[dC]at h
 |call f args=>cases ki with
  |im=>simp[dC]at h;subst h;simp at hc
  |reader y =>
   simp[dC]at h;subst h;simp at hc;rcases hc with rfl|rfl
   ·refine⟨rfl,rfl,λt ht=>?_⟩;simp[V4]at ht;subst ht;exact .inr (i1 _ rfl)
   ·refine⟨rfl,rfl,λt ht=>.inl ?_⟩;rw[j3 f args rfl];exact ht
  |writer y=>simp[dC]at h
  |call _ _=>simp[dC]at h
  |alloc =>
   simp[dC]at h;subst h;simp at hc;subst hc;refine⟨rfl,rfl,λt ht=>.inl ?_⟩;rw[j3 f args rfl];exact ht
  |bad=>simp[dC]at h
 |bad=>cases ki with
  |im=>simp[dC]at h;subst h;simp at hc
  |_=>simp[dC]at h
end
structure Loc where
 gD:Nat
 aV:Nat
abbrev Mem:=Nat->Nat->Option Value
abbrev Mu:=Nat->Option Loc
abbrev Wp:=Nat->Option (Option (Nat×Nat))
def VU:fE->Option (Nat×Nat)
 |.box _=>none
 |.arr sz _ g _=>some (g,sz)
def inf (G:Heap):Wp:=λid=>(G[id]?).map VU
inductive RP (m:Mem):Value->PV->Prop
 |b (x):RP m (.bool x) (.b x)
 |i (k n):RP m (.int k n) (.i k n)
 |s (l:List UInt8):RP m (.string ⟨l.toArray⟩) (.s l)
 |sl (a:Option Addr) (aV:Nat) (ay:List (List PV)) (sz:Nat) (f:Nat->Nat->Value)
   (jH:ay.length<=aV) (hs:bH sz ay=true)
   (ha:ay≠[]->∃b o,a=some ⟨b,o,none⟩/\∀(i j:Nat) (r:List PV) (c:PV),ay[i]?=some r->r[j]?=some c->m b (o+i * sz+j)=some (f i j))
   (hf:∀(i j:Nat) (r:List PV) (c:PV),ay[i]?=some r->r[j]?=some c->RP m (f i j) c):RP m (.slice a ay.length aV) (.sl ay)
 |pn:RP m (.pointer none) .pn
 |rF:RP m .nilFunc .rF
 |lS:RP m .nilIface .lS
 |ag (cs:Array Value) (l:List PV) (h:cs.size=l.length) (hr:∀(j:Nat) (v:Value) (c:PV),cs[j]?=some v->l[j]?=some c->RP m v c):RP m (.agg cs) (.ag l)
 |eT (t v x):RP m v x->RP m (.iface t v) (.eT t x)
inductive R (m:Mem)(μ:Mu)(inf:Wp):Value->AV->Prop
 |p (v x):RP m v x->R m μ inf v (.p x)
 |aC:R m μ inf (.slice none 0 0) .aC
 |undef:R m μ inf Go.undef .undef
 |ptr (id off loc):μ id=some loc->inf id=some none->R m μ inf (.pointer (some ⟨loc.gD,off,none⟩)) (.ptr id off)
 |arr (id len gen a n c loc g sz):μ id=some loc->inf id=some (some (g,sz))->gen<=g ->
   (gen=g->a=some ⟨loc.gD,0,none⟩/\n=len/\c=loc.aV)->R m μ inf (.slice a n c) (.arr id len gen)
 |ez (id idx off gen a loc g sz):μ id=some loc->inf id=some (some (g,sz))->gen<=g ->
   (gen=g->a=⟨loc.gD,idx * sz+off,none⟩)->R m μ inf (.pointer (some a)) (.ez id idx off gen)
 |rp (b o cells) (f:Nat->Value):(∀(j:Nat) (c:PV),cells[j]?=some c->m b (o+j)=some (f j)/\RP m (f j) c)->R m μ inf (.pointer (some ⟨b,o,none⟩)) (.rp cells)
 |ag (cs:Array Value) (l:List AV) (h:cs.size=l.length) (hr:∀(j:Nat) (v:Value) (c:AV),cs[j]?=some v->l[j]?=some c->R m μ inf v c):R m μ inf (.agg cs) (.ag l)
 |dF (cs:Array Value) (l:List AV) (h:cs.size=l.length) (hr:∀(j:Nat) (v:Value) (c:AV),cs[j]?=some v->l[j]?=some c->R m μ inf v c):R m μ inf (.tuple cs) (.dF l)
 |fn (f) (a:Array Value) (a':List AV) (b:Array Value) (b':List AV) (ha:a.size=a'.length) (hb:b.size=b'.length)
   (IG:∀(j:Nat) (v:Value) (c:AV),a[j]?=some v->a'[j]?=some c->R m μ inf v c) (KN:∀(j:Nat) (v:Value) (c:AV),b[j]?=some v->b'[j]?=some c->R m μ inf v c):R m μ inf (.func (.func f) a b) (.fn f a' b')
 |eT (t v x):R m μ inf v x->R m μ inf (.iface t v) (.eT t x)
def RL (m:Mem)(μ:Mu)(inf:Wp)(vs:List Value)(l:List AV):Prop :=
 vs.length=l.length/\∀(j:Nat) (v:Value) (c:AV),vs[j]?=some v->l[j]?=some c->R m μ inf v c
def yp (m:Mem)(μ:Mu)(inf:Wp)(w:World)(loc:Loc):fE->Prop
 |.box cells=>∃cs T,w.heap[loc.gD]?=some (.cells cs T (0,0))/\cs.size=cells.length/\(∀(j:Nat) (v:Value) (a:AV),cs[j]?=some v->cells[j]?=some a->R m μ inf v a) /\
   cells.all AV.flat=true/\(∀o,m loc.gD o=none)
 |.arr sz ay g sl=>∃cs T,w.heap[loc.gD]?=some (.cells cs T (0,0))/\cs.size=loc.aV * sz/\ay.length<=loc.aV/\1<=sz/\bH sz ay=true /\
   (∀(i j:Nat) (r:List PV) (c:PV),ay[i]?=some r->r[j]?=some c->∃v,cs[i * sz+j]?=some v/\RP m v c)/\(∀o,sl * sz<=o->m loc.gD o=none)
structure Inv (m:Mem)(μ:Mu)(G:Heap)(w:World):Prop where
 known:∀b o v,m b o=some v->w.cell? ⟨b,o,none⟩=some v
 inj:∀i j l l',μ i=some l->μ j=some l'->l.gD=l'.gD->i=j
 obj:∀id o,G[id]?=some o->∀loc,μ id=some loc->yp m μ (inf G) w loc o
 ph:∀id loc,μ id=some loc->id<G.length
structure zw (m:Mem)(μ:Mu)(i:Wp)(m':Mem)(cA:Mu)(i':Wp):Prop where
 mem:∀b o v,m b o=some v->m' b o=some v
 box:∀id loc,μ id=some loc->i id=some none->cA id=some loc/\i' id=some none
 arr:∀id loc g sz,μ id=some loc->i id=some (some (g,sz))->∃mB g',cA id=some mB/\i' id=some (some (g',sz))/\g<=g'/\(g'=g->mB=loc)
abbrev Ext (m:Mem)(μ:Mu)(G:Heap)(m':Mem)(cA:Mu)(G':Heap):Prop:=zw m μ (inf G) m' cA (inf G')
structure Fr (m:Mem)(μ:Mu)(w:World)(m':Mem)(cA:Mu)(w':World):Prop where
 os:w'.os=w.os
 tape:w'.tape=w.tape
 output:w'.output=w.output
 size:w.heap.size<=w'.heap.size
 gD:∀b,b<w.heap.size->(∀id loc,μ id=some loc->loc.gD≠b)->w'.heap[b]?=w.heap[b]?
 mem:∀b o v,m' b o=some v->m b o=some v\/w.heap.size<=b\/∃id loc,μ id=some loc/\loc.gD=b
 loc:∀id mB,cA id=some mB->w.heap.size<=mB.gD\/∃id loc,μ id=some loc/\loc.gD=mB.gD
structure IH (μ:Mu)(G:Heap)(cA:Mu)(G':Heap):Prop where
 pX:∀id,id<G'.length->(id<G.length->∃l,μ id=some l)->∃l,cA id=some l
 bq:∀id,id<G.length->μ id=none->cA id=none/\G'[id]?=G[id]?
structure lC (m:Mem)(μ:Mu)(G:Heap)(w:World)(m':Mem)(cA:Mu)(G':Heap)(w':World):Prop where
 ext:Ext m μ G m' cA G'
 fr:Fr m μ w m' cA w'
 pX:IH μ G cA G'
theorem RP.mono {m m':Mem}(h:∀b o v,m b o=some v->m' b o=some v){v:Value}{x:PV}(hr:RP m v x):RP m' v x:=by
 induction hr with
 |b x=>exact .b x
 |i k n=>exact .i k n
 |s l=>exact .s l
 |sl a aV ay sz f jH hs ha hf ih =>
  exact .sl a aV ay sz f jH hs (λhne=>let ⟨bb,oo,e,hc⟩:=ha hne;⟨bb,oo,e,λi j r c h1 h2=>h _ _ _ (hc i j r c h1 h2)⟩) ih
 |pn=>exact .pn
 |rF=>exact .rF
 |lS=>exact .lS
 |ag cs l hl hr ih=>exact .ag cs l hl ih
 |eT t v x _ ih=>exact .eT t v x ih
theorem R.rI {m m':Mem}{μ cA:Mu}{i i':Wp}(h:zw m μ i m' cA i'){v:Value}{x:AV}(hr:R m μ i v x):R m' cA i' v x:=by
 induction hr with
 |p v x hp=>exact .p v x (hp.mono h.mem)
 |aC=>exact .aC
 |undef=>exact .undef
 |ptr id off loc h1 h2=>obtain⟨a,b⟩:=h.box id loc h1 h2;exact .ptr id off loc a b
 |arr id len gen a n c loc g sz h1 h2 h3 h4 =>
  obtain⟨mB,g',a1,a2,a3,a4⟩:=h.arr id loc g sz h1 h2;refine .arr id len gen a n c mB g' sz a1 a2 (by omega) (λe=>?_);have hg:g'=g:=by omega
  rw[a4 hg];exact h4 (by omega)
 |ez id idx off gen a loc g sz h1 h2 h3 h4 =>
  obtain⟨mB,g',a1,a2,a3,a4⟩:=h.arr id loc g sz h1 h2;refine .ez id idx off gen a mB g' sz a1 a2 (by omega) (λe=>?_);have hg:g'=g:=by omega
  rw[a4 hg];exact h4 (by omega)
 |rp b o cells f hc=>exact .rp b o cells f λj c hj=>⟨h.mem _ _ _ (hc j c hj).1,(hc j c hj).2.mono h.mem⟩
 |ag cs l hl hr ih=>exact .ag cs l hl ih
 |dF cs l hl hr ih=>exact .dF cs l hl ih
 |fn f a a' b b' ha hb IG KN iha ihb=>exact .fn f a a' b b' ha hb iha ihb
 |eT t v x _ ih=>exact .eT t v x ih
theorem R.mono {m m':Mem}{μ cA:Mu}{G G':Heap}(h:Ext m μ G m' cA G'){v:Value}{x:AV}(hr:R m μ (inf G) v x):R m' cA (inf G') v x:=hr.rI h
theorem Ext.refl (m:Mem)(μ:Mu)(G:Heap):Ext m μ G m μ G :=
 ⟨λ_ _ _ h=>h,λ_ _ h h'=>⟨h,h'⟩,λ_ loc g _ h h'=>⟨loc,g,h,h',aB _,λ_=>rfl⟩⟩
theorem Ext.trans {m m' m'':Mem}{μ cA μ'':Mu}{G G' G'':Heap}(h:Ext m μ G m' cA G')(h':Ext m' cA G' m'' μ'' G''):Ext m μ G m'' μ'' G'':=by
 refine⟨λb o v hm=>h'.mem _ _ _ (h.mem _ _ _ hm),λid loc h1 h2=>?_,λid loc g sz h1 h2=>?_⟩
 ·obtain⟨a,b⟩:=h.box id loc h1 h2;exact h'.box id loc a b
 ·obtain⟨l1,g1,a1,a2,a3,a4⟩:=h.arr id loc g sz h1 h2;obtain⟨l2,g2,b1,b2,b3,b4⟩:=h'.arr id l1 g1 sz a1 a2;exact⟨l2,g2,b1,b2,by omega,λe=>by rw[b4 (by omega),a4 (by omega)]⟩
theorem Fr.refl (m:Mem)(μ:Mu)(w:World):Fr m μ w m μ w :=
 ⟨rfl,rfl,rfl,aB _,λ_ _ _=>rfl,λ_ _ _ h=>.inl h,λid loc h=>.inr ⟨id,loc,h,rfl⟩⟩
theorem Fr.trans {m m' m'':Mem}{μ cA μ'':Mu}{w w' w'':World}(h:Fr m μ w m' cA w')(h':Fr m' cA w' m'' μ'' w''):Fr m μ w m'' μ'' w'':=by
 refine⟨h'.os.trans h.os,h'.tape.trans h.tape,h'.output.trans h.output,cm h.size h'.size,λb hb hn=>?_,λb o v hm=>?_,λid l hl=>?_⟩
 ·rw[h'.gD b (eW hb h.size) (λid l hl e=>?_),h.gD b hb hn];rcases h.loc id l hl with h1|⟨id',l',h1,h2⟩
  ·omega
  ·exact hn id' l' h1 (h2.trans e)
 ·rcases h'.mem b o v hm with h1|h1|⟨id,l,h1,h2⟩
  ·exact h.mem b o v h1
  ·exact .inr (.inl (cm h.size h1))
  ·rcases h.loc id l h1 with h3|⟨id',l',h3,h4⟩
   ·exact .inr (.inl (by omega))
   ·exact .inr (.inr ⟨id',l',h3,h4.trans h2⟩)
 ·rcases h'.loc id l hl with h1|⟨id',l',h1,h2⟩
  ·exact .inl (cm h.size h1)
  ·rcases h.loc id' l' h1 with h3|⟨id2,l2,h3,h4⟩
   ·exact .inl (by omega)
   ·exact .inr ⟨id2,l2,h3,h4.trans h2⟩
theorem IH.refl (μ:Mu)(G:Heap):IH μ G μ G:=⟨λid h t=>t h,λid h t=>⟨t,rfl⟩⟩
theorem IH.trans {μ cA μ'':Mu}{G G' G'':Heap}(h:IH μ G cA G')(h':IH cA G' μ'' G''):IH μ G μ'' G'':=by
 refine⟨λid hid t=>h'.pX id hid λhid'=>h.pX id hid' t,λid hid t=>?_⟩;obtain⟨a1,a2⟩:=h.bq id hid t;have hid':id<G'.length:=by rw[gG hid]at a2;exact(gE a2).1
 obtain⟨b1,b2⟩:=h'.bq id hid' a1;exact⟨b1,b2.trans a2⟩
theorem lC.total {m m':Mem}{μ cA:Mu}{G G':Heap}{w w':World}(h:lC m μ G w m' cA G' w')(t:∀id,id<G.length->∃l,μ id=some l):∀id,id<G'.length->∃l,cA id=some l :=
 λid hid=>h.pX.pX id hid (t id)
theorem lC.refl (m:Mem)(μ:Mu)(G:Heap)(w:World):lC m μ G w m μ G w:=⟨.refl _ _ _,.refl _ _ _,.refl _ _⟩
theorem lC.trans {m m' m'':Mem}{μ cA μ'':Mu}{G G' G'':Heap}{w w' w'':World}(h:lC m μ G w m' cA G' w')(h':lC m' cA G' w' m'' μ'' G'' w''):lC m μ G w m'' μ'' G'' w'' :=
 ⟨h.ext.trans h'.ext,h.fr.trans h'.fr,h.pX.trans h'.pX⟩
theorem RL.mono {m m':Mem}{μ cA:Mu}{G G':Heap}(h:Ext m μ G m' cA G'){vs:List Value}{l:List AV}(hr:RL m μ (inf G) vs l):RL m' cA (inf G') vs l :=
 ⟨hr.1,λj v c h1 h2=>(hr.2 j v c h1 h2).mono h⟩
theorem RL.nil {m:Mem}{μ:Mu}{i:Wp}:RL m μ i [] []:=⟨rfl,λj v c h=>by simp at h⟩
theorem RL.cons {m:Mem}{μ:Mu}{i:Wp}{v:Value}{a:AV}{vs:List Value}{l:List AV}(h:R m μ i v a)(hr:RL m μ i vs l):RL m μ i (v::vs) (a::l) :=
 ⟨by simp[hr.1],λj v' c h1 h2=>by
  cases j with
  |zero=>simp at h1 h2;subst h1;subst h2;exact h
  |succ j=>simp at h1 h2;exact hr.2 j v' c h1 h2⟩
theorem RL.iC {m:Mem}{μ:Mu}{i:Wp}{a:AV}{vs:List Value}{l:List AV}(h:RL m μ i vs (a::l)):∃v vs',vs=v::vs'/\R m μ i v a/\RL m μ i vs' l:=by
 cases vs with
 |nil=>have:=h.1;simp at this
 |cons v vs'=>exact⟨v,vs',rfl,h.2 0 v a rfl rfl,by have:=h.1;simpa using this,λj v' c h1 h2=>h.2 (j+1) v' c (by simpa using h1) (by simpa using h2)⟩
theorem RL.mK {m:Mem}{μ:Mu}{i:Wp}{vs:List Value}(h:RL m μ i vs []):vs=[]:=by
 have:=h.1;exact aW (by simpa using this)
theorem RL.app {m:Mem}{μ:Mu}{i:Wp}{vs vs':List Value}{l l':List AV}(h:RL m μ i vs l)(h':RL m μ i vs' l'):RL m μ i (vs++vs') (l++l'):=by
 induction l generalizing vs with
 |nil=>rw[h.mK];exact h'
 |cons a l ih=>obtain⟨v,vs,rfl,hv,hr⟩:=h.iC;exact .cons hv (ih hr)
theorem RL.cellsOf {m:Mem}{μ:Mu}{i:Wp}{v:Value}{a:AV}(h:R m μ i v a)(hf:a.cells.all AV.flat=true):RL m μ i v.cells.toList a.cells:=by
 cases h with
 |ag cs l hl hr=>exact⟨by simpa [Value.cells,AV.cells] using hl,λj v c h1 h2=>hr j v c (by simpa [Value.cells] using h1) h2⟩
 |p v x hp =>
  cases hp with
  |ag cs l hl hr=>simp[AV.cells,AV.flat,PV.flat]at hf
  |b=>exact .cons (.p _ _ (.b _)) .nil
  |i=>exact .cons (.p _ _ (.i _ _)) .nil
  |s=>exact .cons (.p _ _ (.s _)) .nil
  |sl a aV ay sz f jH hs ha hff=>exact .cons (.p _ _ (.sl a aV ay sz f jH hs ha hff)) .nil
  |pn=>exact .cons (.p _ _ .pn) .nil
  |rF=>exact .cons (.p _ _ .rF) .nil
  |lS=>exact .cons (.p _ _ .lS) .nil
  |eT t v x h=>exact .cons (.p _ _ (.eT t v x h)) .nil
 |aC=>exact .cons .aC .nil
 |undef=>simp[AV.cells,AV.flat]at hf
 |ptr id off loc h1 h2=>exact .cons (.ptr id off loc h1 h2) .nil
 |arr id len gen a n c loc g sz h1 h2 h3 h4=>exact .cons (.arr id len gen a n c loc g sz h1 h2 h3 h4) .nil
 |ez id idx off gen a loc g sz h1 h2 h3 h4=>exact .cons (.ez id idx off gen a loc g sz h1 h2 h3 h4) .nil
 |rp b o cells f hc=>exact .cons (.rp b o cells f hc) .nil
 |dF=>simp[AV.cells,AV.flat]at hf
 |fn f a a' b b' ha hb IG KN=>exact .cons (.fn f a a' b b' ha hb IG KN) .nil
 |eT t v x h=>exact .cons (.eT t v x h) .nil
theorem RP.II {m:Mem}{z:Value}{ay:List (List PV)}(h:RP m z (.sl ay)):∃(a:Option Addr) (aV sz:Nat) (f:Nat->Nat->Value),z=.slice a ay.length aV/\ay.length<=aV/\bH sz ay=true /\
  (ay≠[]->∃bb oo,a=some ⟨bb,oo,none⟩/\∀(i j:Nat) (r:List PV) (c:PV),ay[i]?=some r->r[j]?=some c->m bb (oo+i * sz+j)=some (f i j)) /\
  (∀(i j:Nat) (r:List PV) (c:PV),ay[i]?=some r->r[j]?=some c->RP m (f i j) c):=by
 cases h with|sl a aV _ sz f jH hs ha hf=>exact⟨a,aV,sz,f,rfl,jH,hs,ha,hf⟩
theorem R.one {m:Mem}{μ:Mu}{i:Wp}{v:Value}{a:AV}(h:R m μ i v a)(hf:a.flat=true):v.oneCell'=true:=by
 cases h with
 |p v x hp=>cases hp<;>first|rfl|simp[AV.flat,PV.flat]at hf
 |_=>first|rfl|simp[AV.flat]at hf
theorem RP.one {m:Mem}{v:Value}{x:PV}(h:RP m v x)(hf:x.flat=true):v.oneCell'=true:=by
 cases h<;>first|rfl|simp[PV.flat]at hf
theorem ug (m:Mem)(μ:Mu)(i:Wp):∀(v:Value) (a:AV),VJ v=some a->R m μ i v a:=by
 intro v;refine Value.rec (motive_1:=λv=>∀a,VJ v=some a->R m μ i v a) (motive_2:=λc=>∀a,sI c.toList=some a->RL m μ i c.toList a)
  (motive_3:=λl=>∀a,sI l=some a->RL m μ i l a) ?_ ?_ ?_ ?_ ?_ ?_ ?_ ?_ ?_ ?_ ?_ ?_ ?_ ?_ ?_ ?_ ?_ ?_ v
 ·intro b a h;simp[VJ]at h;subst h;exact .p _ _ (.b _)
 ·intro k n a h;simp[VJ]at h;subst h;exact .p _ _ (.i _ _)
 ·intro k n a h;simp[VJ]at h
 ·intro k n n' a h;simp[VJ]at h
 ·intro s a h;simp[VJ]at h;subst h;have:Value.string s=.string ⟨s.data.toList.toArray⟩:=by simp
  rw[this];exact .p _ _ (.s _)
 ·intro p a h;cases p with
  |none=>simp[VJ]at h;subst h;exact .p _ _ .pn
  |some p=>simp[VJ]at h
 ·intro p n c a h;cases p with
  |none=>cases n with
   |zero=>cases c with
    |zero=>simp[VJ]at h;subst h;exact .aC
    |succ c=>simp[VJ]at h
   |succ n=>simp[VJ]at h
  |some p=>simp[VJ]at h
 ·intro r a h;simp[VJ]at h
 ·intro r a h;simp[VJ]at h
 ·intro fn f c _ _ a h;simp[VJ]at h
 ·intro a h;simp[VJ]at h;subst h;exact .p _ _ .rF
 ·intro t v _ a h;simp[VJ]at h
 ·intro a h;simp[VJ]at h;subst h;exact .p _ _ .lS
 ·intro cs ih a h;rcases cs with ⟨cs⟩
  simp only[VJ]at h;split at h
  ·rename_i l hl;cases h;have:=ih l hl;exact .ag _ _ (by simpa using this.1) (λj v c h1 h2=>this.2 j v c (by simpa using h1) h2)
  ·cases h
 ·intro vs _ a h;simp[VJ]at h
 ·intro l ih a h;exact ih a h
 ·intro a h;simp[sI]at h;subst h;exact .nil
 ·intro v l ihv ihl a h;simp only[sI]at h;split at h
  ·cases h
  ·rename_i x hx;split at h
   ·cases h
   ·rename_i l' hl;cases h;exact .cons (ihv _ hx) (ihl _ hl)
structure iq (m:Mem)(μ:Mu)(i:Wp)(N:Nat)(aN:Env)(a:Act):Prop where
 size:N<=a.tmps.size
 val:∀k x,lk aN k=some x->R m μ i (a.tmps.getD k undef) x
section
variable {m:Mem}{μ:Mu}{i:Wp}{N:Nat}{aN:Env}{a:Act}
theorem iq.mono {m':Mem}{cA:Mu}{G G':Heap}(h:iq m μ (inf G) N aN a)(e:Ext m μ G m' cA G'):iq m' cA (inf G') N aN a :=
 ⟨h.size,λk x hk=>(h.val k x hk).mono e⟩
theorem iq.put (h:iq m μ i N aN a){d:Option Nat}(hd:zn N d=true){v:Value}{x:AV}(hv:R m μ i v x):iq m μ i N (put aN d x) (a.put d v):=by
 cases d with
 |none=>exact h
 |some d =>
  have hd':d<N:=by simpa [zn,bJ] using hd
  refine⟨by simpa [Act.put] using h.size,λk y hk=>?_⟩;simp only[Z.put,lk]at hk;by_cases e:d=k
  ·subst e;rw[ah rfl]at hk;cases hk;have:d<a.tmps.size:=eW hd' h.size;simpa [Act.put,bQ,this] using hv
  ·rw[aa e]at hk;have:=h.val k y hk;simpa [Act.put,bQ,Array.getElem?_setIfInBounds,e] using this
theorem iq.U9 (h:iq m μ i N aN a):∀(l:List Nat),iq m μ i N (U9 l aN) a:=by
 intro l;refine⟨h.size,?_⟩
 induction l with
 |nil=>intro k x hk;simp[Z.U9,lk]at hk
 |cons n l ih =>
  intro k x hk;unfold Z.U9 at hk;split at hk
  ·rename_i v hv;simp only[lk]at hk;split at hk
   ·rename_i e;subst e;cases hk;exact h.val _ _ hv
   ·exact ih k x hk
  ·exact ih k x hk
theorem dx (h:iq m μ i N aN a){x:Operand}{o:fe}(hc:cY x=some o){v:AV}(ho:eH aN o=some v):R m μ i (a.eval x) v:=by
 cases x with
 |tmp t=>simp[cY]at hc;subst hc;exact h.val _ _ ho
 |const c =>
  simp only[cY,aP]at hc;obtain⟨b,hb,rfl⟩:=hc;simp[eH]at ho;subst ho;exact ug _ _ _ _ _ hb
 |global g=>simp[cY]at hc
 |func f =>
  simp[cY]at hc;subst hc;simp[eH]at ho;subst ho;exact .fn f #[] [] #[] [] rfl rfl (λj v c h=>by simp at h) (λj v c h=>by simp at h)
theorem uJ (h:iq m μ i N aN a):∀{xs:List Operand} {os:List fe},jR xs=some os->∀{vs:List AV},gQ aN os=some vs->RL m μ i (xs.map a.eval) vs
 |[],os,hc,vs,ho=>by
  simp[jR]at hc;subst hc;simp[gQ]at ho;subst ho;exact .nil
 |x::xs,os,hc,vs,ho=>by
  simp only[jR]at hc;split at hc
  ·cases hc
  ·rename_i b hb;split at hc
   ·cases hc
   ·rename_i bs hbs;cases hc;simp only[gQ]at ho;split at ho
    ·cases ho
    ·rename_i v hv;split at ho
     ·cases ho
     ·rename_i vs' hvs;cases ho;exact .cons (dx h hb hv) (uJ h hbs hvs)
end
section
variable {P:Program}{o:Oper}{a:Act}{w w':World}{next:Act->World->Prop}{Q:Exit->Act->World->Prop}
theorem i_ {v:Value}(h:(execOp a.eval o).run P w=.ok (.value v) w')(hn:next (a.put o.dst v) w'):o.wp P a w next Q:=by
 unfold Oper.wp;rw[h];exact hn
theorem uK (h:(execOp a.eval o).run P w=.ok .skip w')(hn:next (a.put o.dst undef) w'):o.wp P a w next Q:=by
 unfold Oper.wp;rw[h];exact hn
theorem Yl {v:Value}(h:(execOp a.eval o).run P w=.halt (.panic v) w')(hn:Q (.panic [{ v,recovered:=false }]) a w'):o.wp P a w next Q:=by
 unfold Oper.wp;rw[h];exact hn
end
def Good (P:Program)(o:Oper)(a:Act)(m:Mem)(μ:Mu)(G:Heap)(w:World)(r:jV):Prop :=
 ∀(next:Act->World->Prop) (Q:Exit->Act->World->Prop),
  match r with
  |.val v G'=>(∀m' cA w' val,Inv m' cA G' w'->lC m μ G w m' cA G' w'->R m' cA (inf G') val v->next (a.put o.dst val) w')->o.wp P a w next Q
  |.iL v G'=>(∀m' cA w' val,Inv m' cA G' w'->lC m μ G w m' cA G' w'->R m' cA (inf G') val v->Q (.panic [{ v:=val,recovered:=false }]) a w')->o.wp P a w next Q
section
variable {P:Program}{o:Oper}{a:Act}{m:Mem}{μ:Mu}{G:Heap}{w:World}
theorem Good.same (hI:Inv m μ G w){v:AV}{val:Value}(h:(execOp a.eval o).run P w=.ok (.value val) w)(hr:R m μ (inf G) val v):Good P o a m μ G w (.val v G) :=
 λnext Q hn=>i_ h (hn m μ w val hI (.refl _ _ _ _) hr)
variable {i:Wp}{v:Value}
theorem R.nA {x:Bool}(h:R m μ i v (.p (.b x))):v=.bool x:=by
 cases h with|p _ _ h=>cases h;rfl
theorem R.gL {k:IntKind}{n:Int}(h:R m μ i v (.p (.i k n))):v=.int k n:=by
 cases h with|p _ _ h=>cases h;rfl
theorem R.n5 {l:List UInt8}(h:R m μ i v (.p (.s l))):v=.string ⟨l.toArray⟩:=by
 cases h with|p _ _ h=>cases h;rfl
theorem R.WJ {l:List AV}(h:R m μ i v (.ag l)):∃cs,v=.agg cs/\cs.size=l.length/\∀(j:Nat) (v:Value) (c:AV),cs[j]?=some v->l[j]?=some c->R m μ i v c:=by
 cases h with|ag cs l h hr=>exact⟨cs,rfl,h,hr⟩
theorem R.rJ {l:List AV}(h:R m μ i v (.dF l)):∃cs,v=.tuple cs/\cs.size=l.length/\∀(j:Nat) (v:Value) (c:AV),cs[j]?=some v->l[j]?=some c->R m μ i v c:=by
 cases h with|dF cs l h hr=>exact⟨cs,rfl,h,hr⟩
theorem R.bool (x:Bool):R m μ i (.bool x) (.p (.b x)):=.p _ _ (.b _)
theorem R.int (k:IntKind)(n:Int):R m μ i (.int k n) (.p (.i k n)):=.p _ _ (.i _ _)
theorem R.str (l:List UInt8):R m μ i (.string ⟨l.toArray⟩) (.p (.s l)):=.p _ _ (.s _)
variable {N:Nat}{aN:Env}(hI:Inv m μ G w)(he:iq m μ (inf G) N aN a)
include hI he
theorem zx {x:Operand}{ox:fe}(ho:o.op=.move x\/o.op=.assign x)(hx:cY x=some ox){v:AV}(hv:eH aN ox=some v):Good P o a m μ G w (.val v G) :=
 .same hI (by rcases ho with ho|ho<;>simp[execOp,ho]) (dx he hx hv)
theorem Ym {c x y:Operand}{oc ox oy:fe}(ho:o.op=.pick c x y)(hc:cY c=some oc)(hx:cY x=some ox)(hy:cY y=some oy)
  {b:Bool} (hb:eH aN oc=some (.p (.b b))) {v:AV} (hv:eH aN (if b then ox else oy)=some v):Good P o a m μ G w (.val v G):=by
 have hb':=(dx he hc hb).nA;cases b
 ·exact .same hI (by simp[execOp,ho,hb',asBool]) (dx he hy (by simpa using hv))
 ·exact .same hI (by simp[execOp,ho,hb',asBool]) (dx he hx (by simpa using hv))
theorem n6 {x:Operand}{ox:fe}(ho:o.op=.nilCheck x)(hx:cY x=some ox){v:AV}(hv:eH aN ox=some v)
  (hk:(∃id off,v=.ptr id off)\/(∃id idx off gen,v=.ez id idx off gen)\/(∃cs,v=.rp cs)\/∃f a b,v=.fn f a b):Good P o a m μ G w (.val v G):=by
 have hr:=dx he hx hv;refine .same hI (val:=a.eval x) ?_ hr;rcases hk with ⟨id,off,rfl⟩|⟨id,idx,off,gen,rfl⟩|⟨cs,rfl⟩|⟨f,b,c,rfl⟩
 ·generalize hz:a.eval x=z at hr;cases hr;simp[execOp,ho,hz]
 ·generalize hz:a.eval x=z at hr;cases hr;simp[execOp,ho,hz]
 ·generalize hz:a.eval x=z at hr;cases hr;simp[execOp,ho,hz]
 ·generalize hz:a.eval x=z at hr;cases hr;simp[execOp,ho,hz]
theorem Ev {x:Operand}{ox:fe}{t:TypeId}(ho:o.op=.unOp .not t x)(hx:cY x=some ox){b:Bool}(hv:eH aN ox=some (.p (.b b))):Good P o a m μ G w (.val (.p (.b (!b))) G):=by
 have hb':=(dx he hx hv).nA;exact .same hI (by simp[execOp,ho,hb',Op.unary]) (.bool _)
theorem Ew {x:Operand}{ox:fe}{t:TypeId}(ho:o.op=.unOp .neg t x)(hx:cY x=some ox){k:IntKind}{n:Int}(hv:eH aN ox=some (.p (.i k n))):Good P o a m μ G w (.val (.p (.i k (k.wrap (0-n)))) G):=by
 have hb':=(dx he hx hv).gL;exact .same hI (by simp[execOp,ho,hb',Op.unary,Op.intArith]) (.int _ _)
theorem Ds {x:Operand}{ox:fe}{s d:TypeId}{ks k:IntKind}(ho:o.op=.convert s d x)(hs:P.underlying s=some (.int ks))(hd:P.underlying d=some (.int k))(hx:cY x=some ox){k':IntKind}{n:Int}(hv:eH aN ox=some (.p (.i k' n))):Good P o a m μ G w (.val (.p (.i k (k.wrap n))) G):=by
 have hb':=(dx he hx hv).gL;exact .same hI (by simp[execOp,ho,hb',convert,run_underlying hs,run_underlying hd,Conv.intToInt]) (.int _ _)
theorem Dt {x:Operand}{ox:fe}{t:TypeId}(ho:o.op=.makeInterface t x){d:TypeDesc}(ht:P.underlying t=some d)(hd:∀ms,d≠.interface ms)(hx:cY x=some ox){v:AV}(hv:eH aN ox=some v):Good P o a m μ G w (.val (.eT t v) G):=by
 refine .same hI (val:=.iface t (a.eval x)) ?_ (.eT _ _ _ (dx he hx hv));simp only[execOp,ho,Instr.makeInterface,Sem.run_bind,run_underlying ht,Result.andThen_ok];cases d<;>first|rfl|exact absurd rfl (hd _)
theorem Du {f:Nat}{x y:Array Operand}{ox oy:List fe}(ho:o.op=.makeFunc (.func f) x y)(hx:jR x.toList=some ox)(hy:jR y.toList=some oy){vs us:List AV}(hv:gQ aN ox=some vs)(hu:gQ aN oy=some us):Good P o a m μ G w (.val (.fn f vs us) G):=by
 have h1:=uJ he hx hv;have h2:=uJ he hy hu;refine .same hI (val:=.func (.func f) (x.map a.eval) (y.map a.eval)) (by simp[execOp,ho,Instr.makeFunc]) (.fn _ _ _ _ _ (by simpa using h1.1) (by simpa using h2.1) ?_ ?_)
 ·intro j v c g1 g2;exact h1.2 j v c (by simpa using g1) g2
 ·intro j v c g1 g2;exact h2.2 j v c (by simpa using g1) g2
theorem yq {x:Operand}{ox:fe}{k:Nat}(ho:o.op=.extract x k)(hx:cY x=some ox){vs:List AV}(hv:eH aN ox=some (.dF vs)){v:AV}(hk:vs[k]?=some v):Good P o a m μ G w (.val v G):=by
 obtain⟨cs,e,hs,hr⟩:=(dx he hx hv).rJ;have hlt:k<cs.size:=by rw[hs];exact(gE hk).1
 exact .same hI (val:=cs[k]) (by simp[execOp,ho,e,Instr.extract,Array.getElem?_eq_getElem hlt]) (hr k _ v (Array.getElem?_eq_getElem hlt) hk)
theorem Ey {args:Array Operand}{ts:Array TypeId}{x y:Operand}{ox oy:fe}(ho:o.op=.call ⟨.builtin .max,args,ts⟩)(ha:args.toList=[x,y])(hx:cY x=some ox)(hy:cY y=some oy){k k':IntKind}{n n':Int}
  (hv:eH aN ox=some (.p (.i k n))) (hu:eH aN oy=some (.p (.i k' n'))):Good P o a m μ G w (.val (.p (.i k (qL n n'))) G):=by
 have h1:=(dx he hx hv).gL;have h2:=(dx he hy hu).gL;have ha':args=#[x,y]:=by apply fH;simpa using ha
 refine .same hI (val:=.int k (qL n n')) ?_ (.int _ _);simp[execOp,ho,ha',resolve,invoke,builtin,h1,h2,Builtin.max_,Builtin.max2,qL]
theorem Ez {args:Array Operand}{ts:Array TypeId}{x y:Operand}{ox oy:fe}(ho:o.op=.call ⟨.builtin .min,args,ts⟩)(ha:args.toList=[x,y])(hx:cY x=some ox)(hy:cY y=some oy){k k':IntKind}{n n':Int}
  (hv:eH aN ox=some (.p (.i k n))) (hu:eH aN oy=some (.p (.i k' n'))):Good P o a m μ G w (.val (.p (.i k (Dn n n'))) G):=by
 have h1:=(dx he hx hv).gL;have h2:=(dx he hy hu).gL;have ha':args=#[x,y]:=by apply fH;simpa using ha
 refine .same hI (val:=.int k (Dn n n')) ?_ (.int _ _);simp[execOp,ho,ha',resolve,invoke,builtin,h1,h2,Builtin.min_,Builtin.min2,Dn]
end
theorem dQ {sz:Nat}{r:List PV}(h:aS sz r=true):r.length=sz:=by
 simp[aS]at h;exact h.1
theorem lW {sz:Nat}{r:List PV}(h:aS sz r=true):∀c∈r,c.flat=true:=by
 simp[aS]at h;exact h.2
theorem eo {sz:Nat}{ay:List (List PV)}(h:bH sz ay=true){i:Nat}{r:List PV}(hr:ay[i]?=some r):aS sz r=true:=by
 simp only[bH,bc]at h;exact h r (aE hr)
theorem zy {P:Program}{t:TypeId}(h:Wi P t=some true):∃d,P.underlying t=some d/\d.isRow=true:=by
 unfold Wi at h;split at h
 ·rename_i fs hd;exact⟨_,hd,rfl⟩
 ·rename_i n e hd;exact⟨_,hd,rfl⟩
 ·cases h
 ·cases h
theorem pY {P:Program}{t:TypeId}(h:Wi P t=some false)(w:World):(isAgg t).run P w=.ok false w:=by
 unfold Wi at h;split at h
 ·cases h
 ·cases h
 ·rename_i d hs ha hd;simp only[isAgg,Sem.run_bind,run_underlying hd,Result.andThen_ok];cases d<;>first|rfl|exact absurd rfl (hs _)|exact absurd rfl (ha _ _)
 ·cases h
theorem lX {P:Program}{t:TypeId}(h:Wi P t=some true)(w:World):(isAgg t).run P w=.ok true w:=by
 obtain⟨d,hd,hr⟩:=zy h;simp only[isAgg,Sem.run_bind,run_underlying hd,Result.andThen_ok];cases d<;>first|rfl|simp at hr
theorem ep {P:Program}{t:TypeId}{n:Nat}(h:UR P t=some n)(w:World):(sizeOf t).run P w=.ok n w:=by
 unfold UR at h;cases hq:P.info? t with
 |none=>simp[hq]at h
 |some i=>simp[hq]at h;simp[sizeOf,typeInfo,hq,h]
section
variable {P:Program}{o:Oper}{a:Act}{m:Mem}{μ:Mu}{G:Heap}{w:World}
theorem rK {loc:Loc}{cs:Array Value}{T:TypeId}(h:w.heap[loc.gD]?=some (.cells cs T (0,0)))(off:Nat):w.cell? ⟨loc.gD,off,none⟩=cs[off]?:=by
 simp[World.cell?,h]
theorem uL {t:TypeId}{n b off:Nat}{vs:List Value}(hn:UR P t=some n)(hg:Wi P t=some true)(hl:vs.length=n)(hc:w.rangeAt b off vs) :
  (Instr.loadAt t (.pointer (some ⟨b,off,none⟩))).run P w=.ok (.agg vs.toArray) w:=by
 obtain⟨d,hd,hr⟩:=zy hg;exact run_loadAt_mid w b off t vs d hc hd hr (by unfold UR at hn;rw[hn,hl])
theorem sL {t:TypeId}{b off:Nat}{v:Value}(hg:Wi P t=some false)(hc:w.cell? ⟨b,off,none⟩=some v) :
  (Instr.loadAt t (.pointer (some ⟨b,off,none⟩))).run P w=.ok v w:=by
 simp[Instr.loadAt,Instr.sureAddr,loadVar,pY hg,hc]
theorem zz {t:TypeId}{n:Nat}{ag:Bool}(hI:Inv m μ G w)(hn:UR P t=some n)(hg:Wi P t=some ag){v:Value}{x y:AV}(hr:R m μ (inf G) v x)(he:fN n ag G x=some y) :
  ∃val,(Instr.loadAt t v).run P w=.ok val w/\R m μ (inf G) val y:=by
 cases x with
 |ptr id off =>
  cases hr with|ptr _ _ loc h1 h2 =>
  simp only[fN]at he;split at he
  ·rename_i cs hG;obtain⟨cv,T,hh,hs,hc,hf,hm⟩:=hI.obj id _ hG loc h1;cases ag with
   |true =>
    simp only[if_true]at he;split at he
    ·rename_i hle;cases he;have hlen:((cv.toList.drop off).take n).length=n:=by simp;omega
     refine⟨_,uL hn hg hlen ?_,.ag _ _ ?_ ?_⟩
     ·intro j u hj;rw[rK hh];simp only[List.getElem?_take,List.getElem?_drop]at hj;split at hj
      ·simpa using hj
      ·cases hj
     ·simp;omega
     ·intro j u c g1 g2;simp only[List.getElem?_toArray,List.getElem?_take,List.getElem?_drop]at g1 g2;split at g1
      ·rename_i hj;rw[ah hj]at g2;exact hc (off+j) u c (by simpa using g1) g2
      ·cases g1
    ·cases he
   |false =>
    simp only[aZ,if_false]at he;have hlt:off<cv.size:=by rw[hs];exact(gE he).1
    exact⟨_,sL hg (by rw[rK hh,Array.getElem?_eq_getElem hlt]),hc off _ _ (Array.getElem?_eq_getElem hlt) he⟩
  ·cases he
 |rp cells =>
  cases hr with|rp b oo _ f hc =>
  simp only[fN]at he;cases ag with
  |true =>
   simp only[if_true]at he;split at he
   ·rename_i hle;cases he;have hlen:((List.range n).map f).length=n:=by simp
    refine⟨_,uL hn hg hlen ?_,.ag _ _ ?_ ?_⟩
    ·intro j u hj;simp only[List.getElem?_map,aP]at hj;obtain⟨k,hk,rfl⟩:=hj;obtain⟨hk1,hk2⟩:=gE hk;simp at hk1 hk2;subst hk2;exact hI.known _ _ _ (hc j cells[j] (gG (by omega))).1
    ·simp[bP];omega
    ·intro j u c g1 g2;simp only[List.getElem?_toArray,List.getElem?_map,aP]at g1;obtain⟨k,hk,rfl⟩:=g1;obtain⟨hk1,hk2⟩:=gE hk;simp at hk1 hk2;subst hk2;simp only[bP,List.getElem?_map,List.getElem?_take,hk1,if_true,aP]at g2;obtain⟨c',hc',rfl⟩:=g2;exact .p _ _ (hc j c' hc').2
   ·cases he
  |false =>
   simp only[aZ,if_false,aP]at he;obtain⟨c,h0,rfl⟩:=he;have:=hc 0 c h0;exact⟨f 0,sL hg (hI.known _ _ _ this.1),.p _ _ this.2⟩
 |ez id idx off gen =>
  cases hr with|ez _ _ _ _ ad loc g sz h1 h2 h3 h4 =>
  simp only[fN]at he;split at he
  ·rename_i sz' ay g' sl hG;have hinf:inf G id=some (some (g',sz')):=by simp[inf,hG,VU]
   rw[hinf]at h2;cases h2;obtain⟨cv,T,hh,hs,hrl,h1s,hok,hc,hm⟩:=hI.obj id _ hG loc h1;split at he
   ·rename_i hgen;subst hgen;rw[h4 rfl];split at he
    ·rename_i row hrow;have hokr:=eo hok hrow;cases ag with
     |true =>
      simp only[if_true]at he;split at he
      ·rename_i hle;cases he;have hc':∀j,j<n->∃v,cv[idx * sz+(off+j)]?=some v/\∃c,row[off+j]?=some c/\RP m v c:=λj hj=>by
        obtain⟨v,h1,h2⟩:=hc idx (off+j) row row[off+j] hrow (gG (by omega));exact⟨v,h1,_,gG (by omega),h2⟩
       have hsz:idx * sz+off+n<=cv.size:=by
        have hr1:=dQ hokr;have hi1:idx<ay.length:=(gE hrow).1;have:idx * sz+sz<=loc.aV * sz:=by
         rw[<- db];exact bh _ (by omega)
        omega
       have hlen:((cv.toList.drop (idx * sz+off)).take n).length=n:=by simp;omega
       refine⟨_,uL hn hg hlen ?_,.ag _ _ ?_ ?_⟩
       ·intro j u hj;rw[rK hh];simp only[List.getElem?_take,List.getElem?_drop]at hj;split at hj
        ·simpa using hj
        ·cases hj
       ·simp[bP];omega
       ·intro j u c g1 g2;simp only[List.getElem?_toArray,List.getElem?_take,List.getElem?_drop]at g1;split at g1
        ·rename_i hj;obtain⟨v,k1,c',k2,k3⟩:=hc' j hj;simp only[bP,List.getElem?_map,List.getElem?_take,hj,if_true,List.getElem?_drop,k2,dT,bG]at g2;subst g2;rw[eI]at g1;have:some u=some v:=by rw[<- k1,<- g1];simp
         cases this;exact .p _ _ k3
        ·cases g1
      ·cases he
     |false =>
      simp only[aZ,if_false,aP]at he;obtain⟨c,h0,rfl⟩:=he;obtain⟨v,k1,k2⟩:=hc idx off row c hrow h0;exact⟨v,sL hg (by rw[rK hh];exact k1),.p _ _ k2⟩
    ·cases he
   ·cases he
  ·cases he
 |_=>simp[fN]at he
variable {N:Nat}{aN:Env}(hI:Inv m μ G w)(he:iq m μ (inf G) N aN a)
include hI he
theorem Dv {x:Operand}{ox:fe}{t:TypeId}{n:Nat}{ag:Bool}(ho:o.op=.load t x)(hn:UR P t=some n)(hg:Wi P t=some ag)(hx:cY x=some ox){v y:AV}(hv:eH aN ox=some v)(hl:fN n ag G v=some y):Good P o a m μ G w (.val y G):=by
 obtain⟨val,h1,h2⟩:=zz hI hn hg (dx he hx hv) hl;exact .same hI (by simp[execOp,ho,h1]) h2
theorem qP {x:Operand}{ox:fe}{t:TypeId}{k:Nat}{fs:Array Field}{f:Field}{n:Nat}(ho:o.op=.fieldAddr t x k)(ht:P.underlying t=some (.struct fs))(hf:fs[k]?=some f)(hn:UR P f.type=some n)(hn0:n≠0)(hx:cY x=some ox){v:AV}(hv:eH aN ox=some v)
  {y:AV} (hy:(∃id off,v=.ptr id off/\y=.ptr id (off+f.offset))\/(∃id idx off gen,v=.ez id idx off gen/\y=.ez id idx (off+f.offset) gen)\/(∃cs,v=.rp cs/\y=.rp (cs.drop f.offset))):Good P o a m μ G w (.val y G):=by
 have hr:=dx he hx hv;have hrun:∀ad,a.eval x=.pointer (some ad)->(execOp a.eval o).run P w=.ok (.value (.pointer (some (ad.add f.offset)))) w:=by
  intro ad e;simp[execOp,ho,Instr.fieldAt,run_underlying ht,hf,e,Instr.sureAddr,fieldPlace,ep hn,hn0]
 rcases hy with ⟨id,off,rfl,rfl⟩|⟨id,idx,off,gen,rfl,rfl⟩|⟨cs,rfl,rfl⟩
 ·generalize hz:a.eval x=z at hr;cases hr with|ptr _ _ loc h1 h2 =>
  exact .same hI (hrun _ hz) (by rw[Addr.add_mid];exact .ptr _ _ _ h1 h2)
 ·generalize hz:a.eval x=z at hr;cases hr with|ez _ _ _ _ ad loc g sz h1 h2 h3 h4 =>
  exact .same hI (hrun _ hz) (.ez _ _ _ _ _ loc g sz h1 h2 h3 (λe=>by rw[h4 e,Addr.add_mid];simp[eI]))
 ·generalize hz:a.eval x=z at hr;cases hr with|rp b oo _ g hc =>
  refine .same hI (hrun _ hz) ?_;rw[Addr.add_mid];exact .rp _ _ _ (λj=>g (f.offset+j)) (λj c hj=>by
   have:=hc (f.offset+j) c (by simpa using hj);rw[eI];exact this)
theorem tz {x y:Operand}{ox oy:fe}{t e:TypeId}{n sz:Nat}(ho:o.op=.indexAddr t x y)(ht:P.underlying t=some (.array n e))(hn:UR P e=some sz)(hx:cY x=some ox)(hy:cY y=some oy){v:AV}(hv:eH aN ox=some v)
  {k:IntKind} {i:Int} (hi:eH aN oy=some (.p (.i k i))) (h0:0<=i) (h1:i<n)
  {r:AV} (hr:(∃id off,v=.ptr id off/\r=.ptr id (off+i.toNat * sz))\/(∃cs,v=.rp cs/\r=.rp (cs.drop (i.toNat * sz)))):Good P o a m μ G w (.val r G):=by
 have hrv:=dx he hx hv;have hri:=(dx he hy hi).gL;have hrun:∀ad,a.eval x=.pointer (some ad)->(execOp a.eval o).run P w=.ok (.value (.pointer (some (ad.add (i.toNat * sz))))) w:=by
  intro ad e;simp[execOp,ho,Instr.indexAt,asIntOf,hri,run_underlying ht,e,Instr.sureAddr,ep hn,h0,h1]
 rcases hr with ⟨id,off,rfl,rfl⟩|⟨cs,rfl,rfl⟩
 ·generalize hz:a.eval x=z at hrv;cases hrv with|ptr _ _ loc h1 h2 =>
  exact .same hI (hrun _ hz) (by rw[Addr.add_mid];exact .ptr _ _ _ h1 h2)
 ·generalize hz:a.eval x=z at hrv;cases hrv with|rp b oo _ g hc =>
  refine .same hI (hrun _ hz) ?_;rw[Addr.add_mid];exact .rp _ _ _ (λj=>g (i.toNat * sz+j)) (λj c hj=>by
   have:=hc (i.toNat * sz+j) c (by simpa using hj);rw[eI];exact this)
theorem zA {x y:Operand}{ox oy:fe}{t e:TypeId}{sz:Nat}(ho:o.op=.indexAddr t x y)(ht:P.underlying t=some (.slice e))(hn:UR P e=some sz)(hx:cY x=some ox)(hy:cY y=some oy){ay:List (List PV)}(hv:eH aN ox=some (.p (.sl ay)))
  {k:IntKind} {i:Int} (hi:eH aN oy=some (.p (.i k i))) (h0:0<=i) {row:List PV} (hrow:ay[i.toNat]?=some row) (hok:aS sz row=true):Good P o a m μ G w (.val (.rp row) G):=by
 have hrv:=dx he hx hv;have hri:=(dx he hy hi).gL;generalize hz:a.eval x=z at hrv;cases hrv with|p _ _ hp =>
 cases hp with|sl ad aV _ sz' f jH hs ha hf =>
 have hlt:i.toNat<ay.length:=(gE hrow).1;have hlt':i<(ay.length:Int):=by omega
 have hne:ay≠[]:=by intro e;subst e;simp at hlt
 obtain⟨b,oo,rfl,hm⟩:=ha hne;have hsz:sz'=sz:=by rw[<- dQ hok,dQ (eo hs hrow)]
 subst hsz;refine .same hI (val:=.pointer (some ⟨b,oo+i.toNat * sz',none⟩)) ?_ (.rp _ _ _ (λj=>f i.toNat j) λj c hj=>⟨hm _ _ _ _ hrow hj,hf _ _ _ _ hrow hj⟩);have:((if 0<=i/\i<(ay.length:Int) then (1:Nat) else 0)=1):=by simp[h0,hlt']
 simp[execOp,ho,Instr.indexAt,asIntOf,hri,run_underlying ht,hz,ep hn,h0,hlt',Addr.add_mid]
theorem zB {x y:Operand}{ox oy:fe}{t e:TypeId}{sz:Nat}(ho:o.op=.indexAddr t x y)(ht:P.underlying t=some (.slice e))(hn:UR P e=some sz)(hx:cY x=some ox)(hy:cY y=some oy){id len gen:Nat}(hv:eH aN ox=some (.arr id len gen))
  {k:IntKind} {i:Int} (hi:eH aN oy=some (.p (.i k i))) (h0:0<=i) (h1:i<len) {ay:List (List PV)} {sl:Nat} (hG:G[id]?=some (.arr sz ay gen sl)):Good P o a m μ G w (.val (.ez id i.toNat 0 gen) G):=by
 have hrv:=dx he hx hv;have hri:=(dx he hy hi).gL;generalize hz:a.eval x=z at hrv;cases hrv with|arr _ _ _ ad n c loc g sz' g1 g2 g3 g4 =>
 have hinf:inf G id=some (some (gen,sz)):=by simp[inf,hG,VU]
 rw[hinf]at g2;cases g2;obtain⟨rfl,rfl,rfl⟩:=g4 rfl;refine .same hI (val:=.pointer (some ⟨loc.gD,i.toNat * sz,none⟩)) ?_ (.ez _ _ _ _ _ loc gen sz g1 hinf (aB _) (λ_=>by simp));simp[execOp,ho,Instr.indexAt,asIntOf,hri,run_underlying ht,hz,ep hn,h0,h1,Addr.add_mid]
end
theorem g9 (l:List UInt8):(⟨l.toArray⟩:ByteArray).toList=l:=by rw[ByteArray.toList_eq]
theorem iS (l:List UInt8):(⟨l.toArray⟩:ByteArray).size=l.length:=by simp[ByteArray.size]
theorem Dw (l:List UInt8)(k:Nat):(⟨l.toArray⟩:ByteArray)[k]?=l[k]?:=by
 by_cases h:k<l.length
 ·have h':k<(⟨l.toArray⟩:ByteArray).size:=by rw[iS];exact h
  rw[gG h];simp only[getElem?_pos,h',ByteArray.getElem_eq_getElem_data];simp
 ·have h':¬ k<(⟨l.toArray⟩:ByteArray).size:=by rw[iS];exact h
  simp only[getElem?_neg,h',gb];simp at h;exact(List.getElem?_eq_none h).symm
theorem yr (l l':List UInt8):(⟨l.toArray⟩:ByteArray)++⟨l'.toArray⟩=⟨(l++l').toArray⟩:=by
 apply ByteArray.ext;rw[ByteArray.data_append];simp
theorem wT (l:List UInt8)(a b:Nat):(⟨l.toArray⟩:ByteArray).extract a b=⟨((l.take b).drop a).toArray⟩:=by
 apply ByteArray.ext;rw[ByteArray.data_extract];simp[Wq,List.drop_take]
section
variable {P:Program}{o:Oper}{a:Act}{m:Mem}{μ:Mu}{G:Heap}{w:World}
theorem EA {t:TypeId}{n:Nat}{ag:Bool}(hn:UR P t=some n)(hg:Wi P t=some ag){i:Wp}{cs:Array Value}{l:List AV}(hs:cs.size=l.length)
  (hr:∀(j:Nat) (v:Value) (c:AV),cs[j]?=some v->l[j]?=some c->R m μ i v c) {off:Nat} {y:AV}
  (hy:(if ag=true then (if off+n<=l.length then some (AV.ag ((l.drop off).take n)) else none) else l[off]?)=some y) :
  ∃v,(part t cs off).run P w=.ok v w/\R m μ i v y:=by
 cases ag with
 |true =>
  simp only[if_true]at hy;split at hy
  ·rename_i hle;cases hy;refine⟨.agg (cs.extract off (off+n)),by simp[part,lX hg,ep hn],.ag _ _ ?_ ?_⟩
   ·simp;omega
   ·intro j v c h1 h2;simp only[Array.getElem?_extract]at h1;simp only[List.getElem?_take,List.getElem?_drop]at h2;split at h2
    ·split at h1
     ·exact hr (off+j) v c h1 h2
     ·cases h1
    ·cases h2
  ·cases hy
 |false =>
  simp only[aZ,if_false]at hy;have hlt:off<cs.size:=by rw[hs];exact(gE hy).1
  exact⟨cs[off],by simp[part,pY hg,Array.getElem?_eq_getElem hlt],hr off _ _ (Array.getElem?_eq_getElem hlt) hy⟩
variable {N:Nat}{aN:Env}(hI:Inv m μ G w)(he:iq m μ (inf G) N aN a)
include hI he
theorem Bv {x:Operand}{ox:fe}{t:TypeId}{k:Nat}{fs:Array Field}{f:Field}{n:Nat}{ag:Bool}(ho:o.op=.field t x k)(ht:P.underlying t=some (.struct fs))(hf:fs[k]?=some f)(hn:UR P f.type=some n)(hg:Wi P f.type=some ag)(hx:cY x=some ox){l:List AV}(hv:eH aN ox=some (.ag l)){y:AV}
  (hy:(if ag=true then (if f.offset+n<=l.length then some (AV.ag ((l.drop f.offset).take n)) else none) else l[f.offset]?)=some y):Good P o a m μ G w (.val y G):=by
 obtain⟨cs,e,hs,hr⟩:=(dx he hx hv).WJ;obtain⟨v,h1,h2⟩:=EA (w:=w) hn hg hs hr hy;exact .same hI (by simp[execOp,ho,Instr.field,run_underlying ht,hf,e,asAgg,h1]) h2
theorem zC {x y:Operand}{ox oy:fe}{t e:TypeId}{len n:Nat}{ag:Bool}(ho:o.op=.index t x y)(ht:P.underlying t=some (.array len e))(hn:UR P e=some n)(hg:Wi P e=some ag)(hx:cY x=some ox)(hy:cY y=some oy){l:List AV}(hv:eH aN ox=some (.ag l))
  {k:IntKind} {i:Int} (hi:eH aN oy=some (.p (.i k i))) (h0:0<=i) (h1:i<len) {r:AV}
  (hr:(if ag=true then (if i.toNat * n+n<=l.length then some (AV.ag ((l.drop (i.toNat * n)).take n)) else none) else l[i.toNat * n]?)=some r):Good P o a m μ G w (.val r G):=by
 obtain⟨cs,ec,hs,hrr⟩:=(dx he hx hv).WJ;have hri:=(dx he hy hi).gL;obtain⟨v,g1,g2⟩:=EA (w:=w) hn hg hs hrr hr;exact .same hI (by simp[execOp,ho,Instr.index,asIntOf,hri,run_underlying ht,ec,ep hn,h0,h1,g1]) g2
theorem zD {x y:Operand}{ox oy:fe}{t:TypeId}(ho:o.op=.index t x y)(ht:P.underlying t=some .string)(hx:cY x=some ox)(hy:cY y=some oy){l:List UInt8}(hv:eH aN ox=some (.p (.s l)))
  {k:IntKind} {i:Int} (hi:eH aN oy=some (.p (.i k i))) (h0:0<=i) {c:UInt8} (hc:l[i.toNat]?=some c):Good P o a m μ G w (.val (.p (.i .u8 c.toNat)) G):=by
 have hrv:=(dx he hx hv).n5;have hri:=(dx he hy hi).gL;exact .same hI (by simp[execOp,ho,Instr.index,asIntOf,hri,run_underlying ht,hrv,h0,Dw,hc]) (.int _ _)
theorem zE {args:Array Operand}{ts:Array TypeId}{x:Operand}{ox:fe}{t:TypeId}{d:TypeDesc}{str:Bool}(ho:o.op=.call ⟨.builtin .len,args,ts⟩)(ha:args.toList=[x])(ht:ts[0]?=some t)(hd:P.underlying t=some d)(hdd:if str=true then d=.string else ∃e,d=.slice e)(hx:cY x=some ox){v:AV}(hv:eH aN ox=some v){n:Int}(hn:iB str G v=some n):Good P o a m μ G w (.val (.p (.i .i64 n)) G):=by
 have ha':args=#[x]:=by apply fH;simpa using ha
 have hr:=dx he hx hv;generalize hz:a.eval x=z at hr;have key:(Builtin.len_ ts o.type #[z]).run P w=.ok (.int .i64 n) w->Good P o a m μ G w (.val (.p (.i .i64 n)) G):=λh =>
  .same hI (by simp[execOp,ho,ha',resolve,invoke,builtin,hz,h]) (.int _ _)
 apply key;cases str with
 |true =>
  simp only[if_true]at hdd;subst hdd;cases v with
  |p x =>
   cases x with
   |s l =>
    simp[iB]at hn;subst hn;have:=hr.n5;subst this;simp[Builtin.len_,ht,run_underlying hd,goInt,iS]
   |_=>simp[iB]at hn
  |_=>simp[iB]at hn
 |false =>
  simp only[aZ,if_false]at hdd;obtain⟨e,rfl⟩:=hdd;cases v with
  |p x =>
   cases x with
   |sl ay =>
    simp[iB]at hn;subst hn;cases hr with|p _ _ hp =>
    cases hp;simp[Builtin.len_,ht,run_underlying hd,goInt]
   |_=>simp[iB]at hn
  |aC =>
   simp[iB]at hn;subst hn;cases hr;simp[Builtin.len_,ht,run_underlying hd,goInt]
  |arr id len gen =>
   simp only[iB,aZ,if_false]at hn;split at hn
   ·rename_i sz ay g sl hG;split at hn
    ·rename_i hg;subst hg;cases hn;cases hr with|arr _ _ _ ad n c loc g' sz' g1 g2 g3 g4 =>
     have hinf:inf G id=some (some (g,sz)):=by simp[inf,hG,VU]
     rw[hinf]at g2;cases g2;obtain⟨rfl,rfl,rfl⟩:=g4 rfl;simp[Builtin.len_,ht,run_underlying hd,goInt]
    ·cases hn
   ·cases hn
  |_=>simp[iB]at hn
end
section
variable {m:Mem}{μ:Mu}{G:Heap}{w:World}
theorem Inv.d_ (hI:Inv m μ G w){b:Nat}(hb:w.heap.size<=b)(o:Nat):m b o=none:=by
 cases h:m b o with
 |none=>rfl
 |some v =>
  have:=hI.known b o v h;have:=World.block_lt_of_cell? w _ this;simp at this;omega
theorem Inv.lt (hI:Inv m μ G w){id:Nat}{loc:Loc}(h:μ id=some loc):loc.gD<w.heap.size:=by
 have hd:=hI.ph id loc h;have ho:=hI.obj id _ (gG hd) loc h;have:∃cs T,w.heap[loc.gD]?=some (.cells cs T (0,0)):=by
  revert ho;cases G[id] with
  |box c=>rintro⟨cs,T,h,_⟩;exact⟨cs,T,h⟩
  |arr sz ay g sl=>rintro⟨cs,T,h,_⟩;exact⟨cs,T,h⟩
 obtain⟨cs,T,h⟩:=this;exact(Array.getElem?_eq_some_iff.1 h).1
theorem yp.move {m':Mem}{cA:Mu}{G':Heap}{w':World}{loc:Loc}{ob:fE}(h:yp m μ (inf G) w loc ob)(e:Ext m μ G m' cA G')
  (hw:w'.heap[loc.gD]?=w.heap[loc.gD]?) (hm:∀o,m loc.gD o=none->m' loc.gD o=none):yp m' cA (inf G') w' loc ob:=by
 cases ob with
 |box cells =>
  obtain⟨cs,T,h1,h2,h3,h4,h5⟩:=h;exact⟨cs,T,by rw[hw];exact h1,h2,λj v a g1 g2=>(h3 j v a g1 g2).mono e,h4,λo=>hm o (h5 o)⟩
 |arr sz ay g sl =>
  obtain⟨cs,T,h1,h2,h3,h4,h5,h6,h7⟩:=h;exact⟨cs,T,by rw[hw];exact h1,h2,h3,h4,h5,λi j r c g1 g2=>let ⟨v,k1,k2⟩:=h6 i j r c g1 g2;⟨v,k1,k2.mono e.mem⟩,λo ho=>hm o (h7 o ho)⟩
theorem Cu (G:Heap)(ob:fE)(id:Nat)(h:id<G.length):inf (G++[ob]) id=inf G id:=by
 simp[inf,List.getElem?_append_left h]
theorem zF (G:Heap)(ob:fE):inf (G++[ob]) G.length=some (VU ob):=by simp[inf]
theorem rL (G:Heap)(ob:fE)(id k:Nat)(h:k≠id):inf (G.set id ob) k=inf G k:=by
 simp[inf,List.getElem?_set,Ne.symm h]
theorem V5 (G:Heap)(ob:fE)(id:Nat)(h:id<G.length):inf (G.set id ob) id=some (VU ob):=by
 simp[inf,h]
theorem uM (hI:Inv m μ G w)(ob:fE)(cs:Array Value)(T:TypeId)(aV:Nat)
  (cA:Mu) (hμ:cA=λid=>if id=G.length then some ⟨w.heap.size,aV⟩ else μ id) (w':World) (hw:w'={ w with heap:=w.heap.push (.cells cs T (0,0)) })
  (hob:Ext m μ G m cA (G++[ob])->yp m cA (inf (G++[ob])) w' ⟨w.heap.size,aV⟩ ob) :
  Inv m cA (G++[ob]) w'/\lC m μ G w m cA (G++[ob]) w':=by
 have hne:∀id loc,μ id=some loc->id≠G.length:=λid loc h=>iJ (hI.ph id loc h);have hμo:∀id loc,μ id=some loc->cA id=some loc:=λid loc h=>by rw[hμ];simp[hne id loc h,h]
 have hext:Ext m μ G m cA (G++[ob]) :=
  ⟨λ_ _ _ h=>h,λid loc h h'=>⟨hμo id loc h,by rw[Cu _ _ _ (hI.ph id loc h)];exact h'⟩,
   λid loc g sz h h'=>⟨loc,g,hμo id loc h,by rw[Cu _ _ _ (hI.ph id loc h)];exact h',aB _,λ_=>rfl⟩⟩
 have hblk:∀b,b<w.heap.size->w'.heap[b]?=w.heap[b]?:=λb hb=>by rw[hw];simp[Array.getElem?_push,iJ hb]
 have hinv:∀id loc,cA id=some loc->(id=G.length/\loc=⟨w.heap.size,aV⟩)\/μ id=some loc:=λid loc h=>by
  rw[hμ]at h;dsimp only at h;split at h
  ·cases h;exact .inl ⟨by assumption,rfl⟩
  ·exact .inr h
 refine⟨⟨?_,?_,?_,?_⟩,⟨hext,⟨by rw[hw],by rw[hw],by rw[hw],by rw[hw];simp,λb hb _=>hblk b hb,λ_ _ _ h=>.inl h,?_⟩,?_⟩⟩
 ·intro b o v h;have h1:=hI.known b o v h;have h2:=World.block_lt_of_cell? w _ h1;simp at h2;unfold World.cell? at h1 ⊢;dsimp only at h1 ⊢;rw[hblk b h2];exact h1
 ·intro i j l l' h1 h2 e;rcases hinv i l h1 with ⟨rfl,rfl⟩|h1'<;>rcases hinv j l' h2 with ⟨rfl,rfl⟩|h2'
  ·rfl
  ·have:=hI.lt h2';simp at e;omega
  ·have:=hI.lt h1';simp at e;omega
  ·exact hI.inj i j l l' h1' h2' e
 ·intro id o ho loc hl;rcases hinv id loc hl with ⟨rfl,rfl⟩|hl'
  ·simp at ho;subst ho;exact hob hext
  ·have hd:=hI.ph id loc hl';rw[List.getElem?_append_left hd]at ho;exact(hI.obj id o ho loc hl').move hext (hblk _ (hI.lt hl')) (λ_ h=>h)
 ·intro id loc h;rcases hinv id loc h with ⟨rfl,rfl⟩|h'
  ·simp
  ·have:=hI.ph id loc h';simp;omega
 ·intro id loc h;rcases hinv id loc h with ⟨rfl,rfl⟩|h'
  ·exact .inl (aB _)
  ·exact .inr ⟨id,loc,h',rfl⟩
 ·refine⟨λid hid ht=>?_,λid hid hn=>⟨?_,?_⟩⟩
  ·simp at hid;rw[hμ];by_cases e:id=G.length
   ·exact⟨_,by simp[e];rfl⟩
   ·simp only[e,if_false];exact ht (by omega)
  ·rw[hμ];have:id≠G.length:=by omega
   simp[this,hn]
  ·rw[List.getElem?_append_left hid]
theorem uN (hI:Inv m μ G w){id:Nat}{old new:fE}{loc:Loc}(hG:G[id]?=some old)(hl:μ id=some loc){w':World}{cs:Array Value}{T:TypeId}
  (hos:w'.os=w.os) (htape:w'.tape=w.tape) (hout:w'.output=w.output) (hsz:w'.heap.size=w.heap.size)
  (hblk:∀b,b≠loc.gD->w'.heap[b]?=w.heap[b]?)
  (hkn:∀o v,m loc.gD o=some v->w'.cell? ⟨loc.gD,o,none⟩=some v)
  (hbox:VU old=none->VU new=none) (harr:∀g sz,VU old=some (g,sz)->∃g',VU new=some (g',sz)/\g<=g')
  (hob:Ext m μ G m μ (G.set id new)->yp m μ (inf (G.set id new)) w' loc new) :
  Inv m μ (G.set id new) w'/\lC m μ G w m μ (G.set id new) w':=by
 have hid:id<G.length:=(gE hG).1;have hold:inf G id=some (VU old):=by simp[inf,hG]
 have hext:Ext m μ G m μ (G.set id new):=by
  refine⟨λ_ _ _ h=>h,λk l h h'=>⟨h,?_⟩,λk l g sz h h'=>?_⟩
  ·by_cases e:k=id
   ·subst e;rw[hold]at h';rw[V5 _ _ _ hid,hbox (by simpa using h')]
   ·rw[rL _ _ _ _ e];exact h'
  ·by_cases e:k=id
   ·subst e;rw[hold]at h';obtain⟨g',h1,h2⟩:=harr g sz (by simpa using h');exact⟨l,g',h,by rw[V5 _ _ _ hid,h1],h2,λ_=>rfl⟩
   ·exact⟨l,g,h,by rw[rL _ _ _ _ e];exact h',aB _,λ_=>rfl⟩
 refine⟨⟨?_,hI.inj,?_,λk l h=>by simpa using hI.ph k l h⟩,⟨hext,⟨hos,htape,hout,by omega,λb hb hn=>hblk b (λe=>hn id loc hl e.symm),λ_ _ _ h=>.inl h,λk l h=>.inr ⟨k,l,h,rfl⟩⟩,⟨λk hk ht=>ht (by simpa using hk),λk hk hn=>⟨hn,by rw[List.getElem?_set,aa];rintro rfl;rw[hl]at hn;cases hn⟩⟩⟩⟩
 ·intro b o v h;by_cases e:b=loc.gD
  ·subst e;exact hkn o v h
  ·have:=hI.known b o v h;unfold World.cell? at this ⊢;dsimp only at this ⊢;rw[hblk b e];exact this
 ·intro k ob hk l h;by_cases e:k=id
  ·subst e;rw[hl]at h;cases h;simp[hid]at hk;subst hk;exact hob hext
  ·rw[List.getElem?_set,aa (Ne.symm e)]at hk;exact(hI.obj k ob hk l h).move hext (hblk _ (λe'=>e (hI.inj _ _ _ _ h hl e'))) (λ_ h=>h)
theorem Dx (hI:Inv m μ G w){id:Nat}{sz g sl len:Nat}{ay:List (List PV)}{loc:Loc}(hG:G[id]?=some (.arr sz ay g sl))(hl:μ id=some loc)(hlen:len<=ay.length) :
  ∃m',Inv m' μ (G.set id (.arr sz ay g (Nat.max sl len))) w/\lC m μ G w m' μ (G.set id (.arr sz ay g (Nat.max sl len))) w /\
   ∃cs:Array Value,w.heap[loc.gD]?=some (.cells cs ((w.shape? loc.gD).map (·.1) |>.getD 0) (0,0))/\∀o,o<len * sz->∃v,cs[o]?=some v/\m' loc.gD o=some v:=by
 obtain⟨cs,T,h1,h2,h3,h4,h5,h6,h7⟩:=hI.obj id _ hG loc hl;have hid:id<G.length:=(gE hG).1
 let m':Mem:=λb o=>if b=loc.gD/\o<len * sz then cs[o]? else m b o
 have hcell:∀o,w.cell? ⟨loc.gD,o,none⟩=cs[o]?:=λo=>by simp[World.cell?,h1]
 have hmem:∀b o v,m b o=some v->m' b o=some v:=by
  intro b o v h
  show(if b=loc.gD/\o<len * sz then cs[o]? else m b o)=some v
  split
  ·rename_i e;rw[<- hcell,<- e.1];exact hI.known b o v h
  ·exact h
 have hin:∀k,inf (G.set id (.arr sz ay g (Nat.max sl len))) k=inf G k:=by
  intro k;by_cases e:k=id
  ·subst e;rw[V5 _ _ _ hid];simp[inf,hG,VU]
  ·exact rL _ _ _ _ e
 have hext:Ext m μ G m' μ (G.set id (.arr sz ay g (Nat.max sl len))) :=
  ⟨hmem,λk l h h'=>⟨h,by rw[hin];exact h'⟩,λk l g' sz' h h'=>⟨l,g',h,by rw[hin];exact h',aB _,λ_=>rfl⟩⟩
 have hsz:len * sz<=cs.size:=by rw[h2];exact bh _ (by omega)
 refine⟨m',⟨?_,hI.inj,?_,λk l h=>by simpa using hI.ph k l h⟩,⟨hext,⟨rfl,rfl,rfl,aB _,λ_ _ _=>rfl,?_,λk l h=>.inr ⟨k,l,h,rfl⟩⟩,⟨λk hk ht=>ht (by simpa using hk),λk hk hn=>⟨hn,by rw[List.getElem?_set,aa];rintro rfl;rw[hl]at hn;cases hn⟩⟩⟩,cs,?_,?_⟩
 ·intro b o v h;change (if b=loc.gD/\o<len * sz then cs[o]? else m b o)=some v at h;split at h
  ·rename_i e;rw[e.1,hcell];exact h
  ·exact hI.known b o v h
 ·intro k ob hk l h;by_cases e:k=id
  ·subst e;rw[hl]at h;cases h;simp[hid]at hk;subst hk;refine⟨cs,T,h1,h2,h3,h4,h5,λi j r c g1 g2=>let ⟨v,k1,k2⟩:=h6 i j r c g1 g2;⟨v,k1,k2.mono hmem⟩,λo ho=>?_⟩
   show(if loc.gD=loc.gD/\o<len * sz then cs[o]? else m loc.gD o)=none
   have hmax1:sl * sz<=Nat.max sl len * sz:=bh _ (dG _ _);have hmax2:len * sz<=Nat.max sl len * sz:=bh _ (dL _ _);rw[aa (by omega)];exact h7 o (by omega)
  ·rw[List.getElem?_set,aa (Ne.symm e)]at hk;refine(hI.obj k ob hk l h).move hext rfl (λo ho=>?_)
   show(if l.gD=loc.gD/\o<len * sz then cs[o]? else m l.gD o)=none
   rw[aa (λe'=>e (hI.inj _ _ _ _ h hl e'.1))];exact ho
 ·intro b o v h;change (if b=loc.gD/\o<len * sz then cs[o]? else m b o)=some v at h;split at h
  ·rename_i e;exact .inr (.inr ⟨id,loc,hl,e.1.symm⟩)
  ·exact .inl h
 ·simp[World.shape?,h1]
 ·intro o ho;refine⟨cs[o],Array.getElem?_eq_getElem (by omega),?_⟩
  show(if loc.gD=loc.gD/\o<len * sz then cs[o]? else m loc.gD o)=some cs[o]
  rw[ah ⟨rfl,ho⟩];exact Array.getElem?_eq_getElem (by omega)
end
def _root_.Go.Value.w9:Value->Nat
 |.slice _ _ c=>c
 |_=>0
section
variable {m:Mem}{μ:Mu}{G:Heap}{w:World}
theorem VV {sz n:Nat}{ay:List (List PV)}(h:bH sz ay=true):bH sz (ay.take n)=true:=by
 simp only[bH,bc]at h ⊢;exact λr hr=>h r (U6 hr)
theorem zG {sz n:Nat}{ay:List (List PV)}(h:bH sz ay=true):bH sz (ay.drop n)=true:=by
 simp only[bH,bc]at h ⊢;exact λr hr=>h r (gO hr)
theorem uO {s t:Nat}{ay:List (List PV)}(h:bH s ay=true)(h':bH t ay=true)(hne:ay≠[]):s=t:=by
 cases ay with
 |nil=>exact absurd rfl hne
 |cons r rs =>
  rw[<- dQ (eo h (i:=0) rfl),dQ (eo h' (i:=0) rfl)]
theorem RP.Cv {b o sz aV:Nat}{ay:List (List PV)}(jH:ay.length<=aV)(hs:bH sz ay=true)
  (h:∀(i j:Nat) (r:List PV) (c:PV),ay[i]?=some r->r[j]?=some c->∃v,m b (o+i * sz+j)=some v/\RP m v c):RP m (.slice (some ⟨b,o,none⟩) ay.length aV) (.sl ay):=by
 refine .sl _ aV ay sz (λi j=>(m b (o+i * sz+j)).getD undef) jH hs (λ_=>⟨b,o,rfl,λi j r c h1 h2=>?_⟩) (λi j r c h1 h2=>?_)
 ·obtain⟨v,k1,k2⟩:=h i j r c h1 h2;rw[k1];rfl
 ·obtain⟨v,k1,k2⟩:=h i j r c h1 h2;rw[k1];exact k2
theorem zH (hI:Inv m μ G w){id len gen:Nat}{z:Value}(hr:R m μ (inf G) z (.arr id len gen)){sz g sl:Nat}{ay:List (List PV)}(hG:G[id]?=some (.arr sz ay g sl))(hg:g=gen)(hle:len<=ay.length) :
  ∃m',Inv m' μ (G.set id (.arr sz ay g (Nat.max sl len))) w/\lC m μ G w m' μ (G.set id (.arr sz ay g (Nat.max sl len))) w /\
   (∃loc,z=.slice (some ⟨loc,0,none⟩) len (z.w9)/\len<=z.w9/\∀(i j:Nat) (r:List PV) (c:PV),(ay.take len)[i]?=some r->r[j]?=some c->∃v,m' loc (i * sz+j)=some v/\RP m' v c)/\bH sz ay=true/\1<=sz:=by
 subst hg;cases hr with|arr _ _ _ ad n c loc g' sz' h1 h2 h3 h4 =>
 have hinf:inf G id=some (some (g,sz)):=by simp[inf,hG,VU]
 rw[hinf]at h2;cases h2;obtain⟨rfl,rfl,rfl⟩:=h4 rfl;obtain⟨m',hI',hS,cs,hcs,hm⟩:=Dx hI hG h1 hle;obtain⟨cs',T,k1,k2,k3,k4,k5,k6,k7⟩:=hI.obj id _ hG loc h1;have:cs'=cs:=by
  rw[hcs]at k1;injection k1 with k1
  injection k1 with e _ _
  exact e.symm
 subst this;refine⟨m',hI',hS,⟨loc.gD,by simp[Value.w9],by simp[Value.w9];omega,λi j r c g1 g2=>?_⟩,k5,k4⟩;rw[List.getElem?_take]at g1;split at g1
 ·rename_i hi;obtain⟨v,q1,q2⟩:=k6 i j r c g1 g2;have hj:j<sz:=by rw[<- dQ (eo k5 g1)];exact(gE g2).1
  have hlt:i * sz+j<n * sz:=by
   have:i * sz+sz<=n * sz:=by rw[<- db];exact bh _ hi
   omega
  obtain⟨v',q3,q4⟩:=hm _ hlt;have:v'=v:=by rw[q3]at q1;cases q1;rfl
  subst this;exact⟨v',q4,q2.mono hS.ext.mem⟩
 ·cases g1
theorem RL.km {i:Wp}{cs:Array Value}{l:List AV}(h:cs.size=l.length)(hr:∀(j:Nat) (v:Value) (c:AV),cs[j]?=some v->l[j]?=some c->R m μ i v c):RL m μ i cs.toList l :=
 ⟨by simpa using h,λj v c h1 h2=>hr j v c (by simpa using h1) h2⟩
theorem R.EB {i:Wp}{cs:Array Value}{l:List AV}(h:RL m μ i cs.toList l):R m μ i (.agg cs) (.ag l) :=
 .ag _ _ (by simpa using h.1) (λj v c h1 h2=>h.2 j v c (by simpa using h1) h2)
theorem R.uP {i:Wp}{cs:Array Value}{l:List AV}(h:RL m μ i cs.toList l):R m μ i (.tuple cs) (.dF l) :=
 .dF _ _ (by simpa using h.1) (λj v c h1 h2=>h.2 j v c (by simpa using h1) h2)
end
mutual
theorem jW {μ:Mu}{w:World}:∀(a:AV) {m:Mem} {G G':Heap} {v:AV} {z:Value},Inv m μ G w->norm G a=some (v,G')->R m μ (inf G) z a ->
  ∃m',Inv m' μ G' w/\lC m μ G w m' μ G' w/\R m' μ (inf G') z v
 |.p x,m,G,G',v,z,hI,h,hr=>by
  simp[norm]at h;obtain⟨rfl,rfl⟩:=h;exact⟨m,hI,.refl _ _ _ _,hr⟩
 |.aC,m,G,G',v,z,hI,h,hr=>by
  simp[norm]at h;obtain⟨rfl,rfl⟩:=h;cases hr;exact⟨m,hI,.refl _ _ _ _,.p _ _ (.sl none 0 [] 0 (λ_ _=>undef) (aB _) rfl (λh=>absurd rfl h) (λi j r c h=>by simp at h))⟩
 |.arr id len gen,m,G,G',v,z,hI,h,hr=>by
  simp only[norm]at h;split at h
  ·rename_i sz ay g sl hG;split at h
   ·rename_i hc;cases h;obtain⟨m',hI',hS,⟨b,hz,jH,hm⟩,hok,h1⟩:=zH hI hr hG hc.1 hc.2;refine⟨m',hI',hS,.p _ _ ?_⟩;have hl:(ay.take len).length=len:=by simp;have:=hc.2;omega
    rw[hz];have:=RP.Cv (m:=m') (b:=b) (o:=0) (sz:=sz) (aV:=z.w9) (ay:=ay.take len) (by omega) (VV hok) (by simpa using hm);rw[hl]at this;exact this
   ·cases h
  ·cases h
 |.ag cs,m,G,G',v,z,hI,h,hr=>by
  simp only[norm]at h;split at h
  ·rename_i vs G1 hn;cases h;obtain⟨ca,rfl,h1,h2⟩:=hr.WJ;obtain⟨m',hI',hS,hr'⟩:=mL cs hI hn (RL.km h1 h2);exact⟨m',hI',hS,.EB hr'⟩
  ·cases h
 |.dF cs,m,G,G',v,z,hI,h,hr=>by
  simp only[norm]at h;split at h
  ·rename_i vs G1 hn;cases h;obtain⟨ca,rfl,h1,h2⟩:=hr.rJ;obtain⟨m',hI',hS,hr'⟩:=mL cs hI hn (RL.km h1 h2);exact⟨m',hI',hS,.uP hr'⟩
  ·cases h
 |.eT t x,m,G,G',v,z,hI,h,hr=>by
  simp only[norm]at h;split at h
  ·rename_i y G1 hn;cases h;cases hr with|eT _ z' _ hr =>
   obtain⟨m',hI',hS,hr'⟩:=jW x hI hn hr;exact⟨m',hI',hS,.eT _ _ _ hr'⟩
  ·cases h
 |.undef,m,G,G',v,z,hI,h,hr=>by simp[norm]at h
 |.ptr _ _,m,G,G',v,z,hI,h,hr=>by simp[norm]at h
 |.ez _ _ _ _,m,G,G',v,z,hI,h,hr=>by simp[norm]at h
 |.rp _,m,G,G',v,z,hI,h,hr=>by simp[norm]at h
 |.fn _ _ _,m,G,G',v,z,hI,h,hr=>by simp[norm]at h
theorem mL {μ:Mu}{w:World}:∀(l:List AV) {m:Mem} {G G':Heap} {vs:List AV} {zs:List Value},Inv m μ G w->Vu G l=some (vs,G')->RL m μ (inf G) zs l ->
  ∃m',Inv m' μ G' w/\lC m μ G w m' μ G' w/\RL m' μ (inf G') zs vs
 |[],m,G,G',vs,zs,hI,h,hr=>by
  simp[Vu]at h;obtain⟨rfl,rfl⟩:=h;exact⟨m,hI,.refl _ _ _ _,hr⟩
 |a::r,m,G,G',vs,zs,hI,h,hr=>by
  simp only[Vu]at h;split at h
  ·cases h
  ·rename_i v G1 hn;split at h
   ·cases h
   ·rename_i vs' G2 hn2;cases h;obtain⟨z,zs,rfl,hz,hr⟩:=hr.iC;obtain⟨m1,hI1,hS1,hz1⟩:=jW a hI hn hz;obtain⟨m2,hI2,hS2,hr2⟩:=mL r hI1 hn2 (hr.mono hS1.ext);exact⟨m2,hI2,hS1.trans hS2,.cons (hz1.mono hS2.ext) hr2⟩
end
def HZ (m:Mem)(zs:List Value)(l:List PV):Prop:=zs.length=l.length/\∀(j:Nat) (v:Value) (c:PV),zs[j]?=some v->l[j]?=some c->RP m v c
theorem HZ.cons {m:Mem}{z:Value}{x:PV}{zs:List Value}{l:List PV}(h:RP m z x)(hr:HZ m zs l):HZ m (z::zs) (x::l) :=
 ⟨by simp[hr.1],λj v' c h1 h2=>by
  cases j with
  |zero=>simp at h1 h2;subst h1;subst h2;exact h
  |succ j=>simp at h1 h2;exact hr.2 j v' c h1 h2⟩
theorem HZ.mono {m m':Mem}(h:∀b o v,m b o=some v->m' b o=some v){zs:List Value}{l:List PV}(hr:HZ m zs l):HZ m' zs l :=
 ⟨hr.1,λj v c h1 h2=>(hr.2 j v c h1 h2).mono h⟩
mutual
theorem w_ {m:Mem}{μ:Mu}{i:Wp}:∀(a:AV) {x:PV} {z:Value},Vy a=some x->R m μ i z a->RP m z x
 |.p x,y,z,h,hr=>by simp[Vy]at h;subst h;cases hr;assumption
 |.ag cs,y,z,h,hr=>by
  simp only[Vy]at h;split at h
  ·rename_i l hl;cases h;obtain⟨ca,rfl,h1,h2⟩:=hr.WJ;have:=qQ cs hl (RL.km h1 h2);exact .ag _ _ (by simpa using this.1) (λj v c h1 h2=>this.2 j v c (by simpa using h1) h2)
  ·cases h
 |.eT t v,y,z,h,hr=>by
  simp only[Vy]at h;split at h
  ·rename_i x hx;cases h;cases hr with|eT _ z' _ hr =>
   exact .eT _ _ _ (w_ v hx hr)
  ·cases h
 |.aC,y,z,h,hr=>by simp[Vy]at h
 |.undef,y,z,h,hr=>by simp[Vy]at h
 |.ptr _ _,y,z,h,hr=>by simp[Vy]at h
 |.arr _ _ _,y,z,h,hr=>by simp[Vy]at h
 |.ez _ _ _ _,y,z,h,hr=>by simp[Vy]at h
 |.rp _,y,z,h,hr=>by simp[Vy]at h
 |.dF _,y,z,h,hr=>by simp[Vy]at h
 |.fn _ _ _,y,z,h,hr=>by simp[Vy]at h
theorem qQ {m:Mem}{μ:Mu}{i:Wp}:∀(l:List AV) {xs:List PV} {zs:List Value},ee l=some xs->RL m μ i zs l->HZ m zs xs
 |[],xs,zs,h,hr=>by
  simp[ee]at h;subst h;exact⟨hr.1,λj v c _ h2=>by simp at h2⟩
 |a::r,xs,zs,h,hr=>by
  simp only[ee]at h;split at h
  ·cases h
  ·rename_i x hx;split at h
   ·cases h
   ·rename_i xs' hxs;cases h;obtain⟨z,zs,rfl,hz,hr⟩:=hr.iC;exact .cons (w_ a hx hz) (qQ r hxs hr)
end
theorem tA {μ:Mu}{w:World}{a:AV}{m:Mem}{G G':Heap}{l:List PV}{z:Value}(hI:Inv m μ G w)(h:cO G a=some (l,G'))(hr:R m μ (inf G) z a)(hf:l.all PV.flat=true) :
  ∃m',Inv m' μ G' w/\lC m μ G w m' μ G' w/\HZ m' z.cells.toList l:=by
 unfold cO at h;split at h
 ·cases h
 ·rename_i vs G1 hn;split at h
  ·cases h
  ·rename_i l' hl;cases h;have hcells:RL m μ (inf G) z.cells.toList a.cells:=by
    cases a with
    |ag cs =>
     obtain⟨ca,rfl,h1,h2⟩:=hr.WJ;exact RL.km h1 h2
    |p x =>
     simp[AV.cells,Vu,norm]at hn;obtain⟨rfl,rfl⟩:=hn;simp[ee,Vy]at hl;subst hl;exact RL.cellsOf hr (by simpa [AV.cells,AV.flat] using hf)
    |aC=>exact RL.cellsOf hr rfl
    |arr id len gen=>exact RL.cellsOf hr rfl
    |eT t v=>exact RL.cellsOf hr rfl
    |undef=>simp[AV.cells,Vu,norm]at hn
    |ptr _ _=>simp[AV.cells,Vu,norm]at hn
    |ez _ _ _ _=>simp[AV.cells,Vu,norm]at hn
    |rp _=>simp[AV.cells,Vu,norm]at hn
    |dF l =>
     simp only[AV.cells,Vu,norm]at hn;cases hq:Vu G l with
     |none=>simp[hq]at hn
     |some y=>simp[hq]at hn;obtain⟨rfl,rfl⟩:=hn;simp[ee,Vy]at hl
    |fn _ _ _=>simp[AV.cells,Vu,norm]at hn
   obtain⟨m',hI',hS,hrl⟩:=mL _ hI hn hcells;exact⟨m',hI',hS,qQ _ hl hrl⟩
end Go.Proofs.Z
