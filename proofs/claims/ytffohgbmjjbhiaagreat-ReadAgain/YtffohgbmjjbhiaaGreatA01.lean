/- A part of the proof. -/
import Derived.Test.YtffohgbmjjbhiaaGreatA00
import Derived.Deep.AppendSrc
import Derived.Deep.MidRow
import Derived.Laws.StructEq
set_option linter.all false
section
namespace Go.Proofs.Z
open Go
def evCI (pg:Prg)(call:CallF)(c:CI)(env:Env)(G:Heap):Option (Env×Heap) :=
 match gOK env c.g with
 |none=>none
 |some false=>some (put env c.d .undef,G)
 |some true=>match evOp pg call c.o env G with
  |some (.val v G)=>some (put env c.d v,G)
  |_=>none
def evN (pg:Prg)(call:CallF):List CI→Env→Heap→Option (Env×Heap)
 |[],env,G=>some (env,G)
 |c::r,env,G=>match evCI pg call c env G with
  |none=>none
  |some (env,G)=>evN pg call r env G
def LkEq (e e':Env):Prop:=∀ t,lk e t=lk e' t
theorem lk_put (env:Env)(d:Option Nat)(v:AV)(t:Nat):lk (put env d v) t=if d=some t then some v else lk env t:=by
 cases d with
 |none=>simp[put]
 |some d=>simp[put,lk]
section
variable {pg:Prg}{call:CallF}
theorem evOps_normal:∀ {l:List CI} {env:Env} {G:Heap} {F:Env} {G':Heap},evOps pg call l env G=some (.normal,F,G')→evN pg call l env G=some (F,G')
 |[],env,G,F,G',h=>by simp[evOps]at h;simp[evN,h]
 |c::r,env,G,F,G',h=>by
  simp only[evOps]at h
  simp only[evN,evCI]
  split at h
  ·cases h
  ·rename_i hg;rw[hg];exact evOps_normal h
  ·rename_i hg
   rw[hg]
   split at h
   ·cases h
   ·rename_i hv;dsimp only;rw[hv];exact evOps_normal h
   ·cases h
theorem evCI_inv {c:CI}{env:Env}{G:Heap}{F:Env}{G1:Heap}(h:evCI pg call c env G=some (F,G1)):∃ v,F=put env c.d v ∧
  (∀ env',(∀ t,t∈ciReads c→lk env t=lk env' t)→evCI pg call c env' G=some (put env' c.d v,G1)) ∧
  ((G1=G∧∀ env' G',(∀ t,t∈ciReads c→lk env t=lk env' t)→evCI pg call c env' G'=some (put env' c.d v,G')) ∨
   (gOK env c.g=some true∧evOp pg call c.o env G=some (.val v G1)∧isSilent (kindOf c.o)=false)):=by
 have hg':∀ env',(∀ t,t∈ciReads c→lk env t=lk env' t)→gOK env' c.g=gOK env c.g:=by
  intro env' he
  cases hc:c.g with
  |none=>rfl
  |some p =>
   rcases p with ⟨t,w⟩
   simp only[gOK]
   rw[he t (by simp[ciReads,hc])]
 unfold evCI at h ⊢
 split at h
 ·cases h
 ·rename_i hg
  cases h
  refine ⟨_,rfl,fun env' he=>by rw[hg' env' he,hg],.inl ⟨rfl,fun env' G' he=>by rw[hg' env' he,hg]⟩⟩
 ·rename_i hg
  split at h
  ·rename_i v G2 hv
   cases h
   have ho:∀ env',(∀ t,t∈ciReads c→lk env t=lk env' t)→∀ G',evOp pg call c.o env' G'=evOp pg call c.o env G':=fun env' he G'=>(evOp_reads fun t ht=>he t (by simp[ciReads,ht])).symm
   refine ⟨v,rfl,fun env' he=>by rw[hg' env' he,hg];dsimp only;rw[ho env' he,hv],?_⟩
   cases hs:isSilent (kindOf c.o) with
   |false=>exact .inr ⟨hg,hv,rfl⟩
   |true =>
    obtain ⟨u,e,hall⟩:=silent_spec hs hv
    cases e
    exact .inl ⟨rfl,fun env' G' he=>by rw[hg' env' he,hg];dsimp only;rw[ho env' he,hall]⟩
  ·cases h
theorem evOp_len {o:COp}{env:Env}{G G1:Heap}{v:AV}(h:evOp pg call o env G=some (.val v G1)):G.length≤G1.length:=by
 cases hs:isSilent (kindOf o) with
 |true=>obtain ⟨u,e,_⟩:=silent_spec hs h;cases e;exact Nat.le_refl _
 |false =>
  have hcall:∀ {f:Nat} {args:List AV},Res.of (eCA pg call f args G)=some (.val v G1)→G.length≤G1.length:=by
   intro f args hc
   cases hx:eCA pg call f args G with
   |none=>rw[hx]at hc;simp[Res.of]at hc
   |some y =>
    rcases y with ⟨out,G2⟩
    have:G2=G1:=by
     rw[hx]at hc
     cases out<;>simp[Res.of]at hc
     exact hc.2
    subst this
    unfold eCA at hx
    split at hx
    ·cases hx
    ·rename_i args' e hex
     split at hx
     ·cases hx
     ·rename_i os e' ho
      split at hx
      ·cases hx
      ·cases hx
       have h1:∀ (keep:Bool) {l l':List AV} {e e':Exp},expL keep e l=some (l',e')→e'.G.length=e.G.length:=by
        intro keep l
        refine (?_:∀ {l':List AV} {e e':Exp},expL keep e l=some (l',e')→e'.G.length=e.G.length)
        exact expL_len keep
       have h2:∀ (fuel:Nat) {e e':Exp} {k:Nat} {os:Heap},eOs fuel e k=some (os,e')→e'.G.length=e.G.length:=fun fuel=>expObjs_len fuel
       have h3:_=G.length:=h1 _ hex
       have:=h2 _ ho
       have hsl:∀ (ids:List Nat) (base:Nat) (l:List Nat) (G os:Heap),(setAll ids base G l os).length=G.length:=by
        intro ids base l
        induction l with
        |nil=>intro G os;simp[setAll]
        |cons x r ih=>intro G os;cases os with
         |nil=>simp[setAll]
         |cons o os=>simp[setAll,ih]
       simp only[List.length_append,hsl]
       omega
  cases o with
  |call f args =>
   simp only[evOp]at h
   split at h
   ·exact hcall h
   ·cases h
  |callv x args =>
   simp only[evOp]at h
   split at h
   ·exact hcall h
   ·cases h
  |panic x =>
   simp only[evOp]at h
   split at h
   ·split at h<;>cases h
   ·cases h
   ·cases h
  |new cs =>
   simp only[evOp]at h
   split at h
   ·cases h;simp
   ·cases h
  |box x =>
   simp only[evOp]at h
   split at h
   ·split at h
    ·cases h;simp
    ·cases h
   ·cases h
  |mkslice a b c d e =>
   simp only[evOp]at h
   split at h
   ·split at h
    ·cases h;simp
    ·cases h
   ·cases h
  |bslice a b c d =>
   simp only[evOp]at h
   split at h
   ·split at h
    ·cases h
    ·split at h
     ·cases h
     ·rename_i hr
      cases h
      have:=aeq_lt (fillRows_aeq hr)
      simp
      omega
   ·cases h
  |subs str sz x lo hi =>
   simp only[evOp]at h
   split at h
   ·cases h
   ·split at h
    ·split at h
     ·split at h
      ·rename_i hs'
       cases h
       unfold evSub at hs'
       split at hs'<;>try dsimp only at hs'
       ·split at hs'
        ·cases hs';exact Nat.le_refl _
        ·cases hs'
       ·split at hs'
        ·cases hs';exact Nat.le_refl _
        ·cases hs'
       ·split at hs'
        ·cases hs';exact Nat.le_refl _
        ·cases hs'
       ·split at hs'
        ·split at hs'
         ·split at hs'
          ·cases hs';exact Nat.le_refl _
          ·cases hs';simp
         ·cases hs'
        ·cases hs'
       ·cases hs'
      ·cases h
     ·cases h
    ·cases h
  |store n x y =>
   simp only[evOp]at h
   split at h
   ·split at h
    ·rename_i hs'
     cases h
     unfold evStore at hs'
     split at hs'
     ·split at hs'
      ·split at hs'
       ·split at hs'
        ·cases hs';simp
        ·cases hs'
       ·cases hs'
      ·split at hs'
       ·cases hs'
       ·rename_i hn
        have:=aeq_lt (normP_aeq hn)
        split at hs'
        ·split at hs'
         ·split at hs'
          ·split at hs'
           ·cases hs';simp;omega
           ·cases hs'
          ·cases hs'
         ·cases hs'
        ·cases hs'
      ·cases hs'
     ·cases hs'
    ·cases h
   ·cases h
  |app a b c x y =>
   simp only[evOp]at h
   split at h
   ·split at h
    ·rename_i hs'
     cases h
     unfold evApp at hs'
     split at hs'
     ·cases hs'
     ·split at hs'
      ·split at hs'
       ·split at hs'
        ·cases hs';exact Nat.le_refl _
        ·split at hs'
         ·cases hs';simp
         ·cases hs'
       ·split at hs'
        ·split at hs'
         ·cases hs';simp
         ·cases hs'
        ·cases hs'
       ·cases hs'
      ·cases hs'
    ·cases h
   ·cases h
  |load n g x =>
   simp only[evOp]at h
   split at h
   ·obtain ⟨u,e,_⟩:=one_val h;cases e;exact Nat.le_refl _
   ·cases h
  |len n x =>
   simp only[evOp]at h
   split at h
   ·split at h
    ·cases h;exact Nat.le_refl _
    ·cases h
   ·cases h
  |tostr x =>
   simp only[evOp]at h
   split at h
   ·split at h
    ·cases h;exact Nat.le_refl _
    ·cases h
   ·cases h
  |iaddr a b x y =>
   simp only[evOp]at h
   split at h
   ·split at h
    ·split at h
     ·split at h
      ·cases h;exact Nat.le_refl _
      ·cases h
     ·split at h
      ·cases h;exact Nat.le_refl _
      ·cases h
     ·cases h
    ·split at h
     ·split at h
      ·split at h
       ·split at h
        ·cases h;exact Nat.le_refl _
        ·cases h
       ·cases h
      ·cases h
     ·split at h
      ·split at h
       ·cases h;exact Nat.le_refl _
       ·cases h
      ·cases h
     ·cases h
   ·cases h
  |_=>simp[kindOf,isSilent]at hs
where
 expL_len (keep:Bool):∀ {l l':List AV} {e e':Exp},expL keep e l=some (l',e')→e'.G.length=e.G.length
  |[],l',e,e',h=>by simp[expL]at h;rw[← h.2]
  |a::r,l',e,e',h=>by
   simp only[expL]at h
   split at h
   ·cases h
   ·rename_i hn
    split at h
    ·cases h
    ·rename_i hn2
     cases h
     rw[expL_len keep hn2,exp_len keep hn]
 exp_len (keep:Bool):∀ {a a':AV} {e e':Exp},exp keep e a=some (a',e')→e'.G.length=e.G.length
  |.p x,a',e,e',h=>by simp[exp]at h;rw[← h.2]
  |.nils,a',e,e',h=>by simp only[exp]at h;split at h<;>(cases h;rfl)
  |.undef,a',e,e',h=>by simp[exp]at h;rw[← h.2]
  |.rp cs,a',e,e',h=>by simp[exp]at h;rw[← h.2]
  |.arr id len gen,a',e,e',h=>by
   simp only[exp]at h
   split at h
   ·cases h;unfold Exp.id;split<;>rfl
   ·split at h
    ·rename_i hn;cases h;exact aeq_lt (norm_aeq hn)
    ·cases h
  |.ptr id off,a',e,e',h=>by simp only[exp]at h;cases h;unfold Exp.id;split<;>rfl
  |.eptr id idx off gen,a',e,e',h=>by simp only[exp]at h;cases h;unfold Exp.id;split<;>rfl
  |.ag cs,a',e,e',h=>by
   simp only[exp]at h
   split at h
   ·rename_i hn;cases h;exact expL_len keep hn
   ·cases h
  |.tup cs,a',e,e',h=>by
   simp only[exp]at h
   split at h
   ·rename_i hn;cases h;exact expL_len keep hn
   ·cases h
  |.ifc t x,a',e,e',h=>by
   simp only[exp]at h
   split at h
   ·rename_i hn;cases h;exact exp_len keep hn
   ·cases h
  |.fn f x y,a',e,e',h=>by
   simp only[exp]at h
   split at h
   ·cases h
   ·rename_i hx
    split at h
    ·cases h
    ·rename_i hy
     cases h
     rw[expL_len true hy,expL_len true hx]
 expObjs_len:∀ (fuel:Nat) {e e':Exp} {k:Nat} {os:Heap},eOs fuel e k=some (os,e')→e'.G.length=e.G.length
  |0,e,e',k,os,h=>by
   simp only[eOs]at h
   split at h
   ·cases h
   ·cases h;rfl
  |fuel+1,e,e',k,os,h=>by
   simp only[eOs]at h
   split at h
   ·cases h;rfl
   ·split at h
    ·cases h
    ·split at h
     ·cases h
     ·rename_i hr;cases h;exact expObjs_len fuel hr
    ·split at h
     ·cases h
     ·rename_i hx
      split at h
      ·cases h
      ·rename_i hr
       cases h
       rw[expObjs_len fuel hr,expL_len true hx]
theorem evCI_len {c:CI}{env:Env}{G:Heap}{F:Env}{G1:Heap}(h:evCI pg call c env G=some (F,G1)):G.length≤G1.length:=by
 obtain ⟨v,_,_,h3⟩:=evCI_inv h
 rcases h3 with ⟨rfl,_⟩|⟨_,h3,_⟩
 ·exact Nat.le_refl _
 ·exact evOp_len h3
theorem evN_lk:∀ {l:List CI} {env:Env} {G:Heap} {F:Env} {G1:Heap},evN pg call l env G=some (F,G1)→∀ t,(∀ c,c∈l→c.d≠some t)→lk F t=lk env t
 |[],env,G,F,G1,h,t,ht=>by simp[evN]at h;rw[h.1]
 |c::r,env,G,F,G1,h,t,ht=>by
  simp only[evN]at h
  split at h
  ·cases h
  ·rename_i e g hc
   obtain ⟨v,rfl,_,_⟩:=evCI_inv hc
   rw[evN_lk h t (fun c' hc'=>ht c' (by simp[hc'])),lk_put,if_neg (ht c (by simp))]
theorem evN_congr:∀ {l:List CI} {env env':Env} {G:Heap} {F:Env} {G1:Heap},evN pg call l env G=some (F,G1)→LkEq env' env→∃ F',evN pg call l env' G=some (F',G1)∧LkEq F' F
 |[],env,env',G,F,G1,h,he=>by simp[evN]at h;obtain ⟨rfl,rfl⟩:=h;exact ⟨env',rfl,he⟩
 |c::r,env,env',G,F,G1,h,he=>by
  simp only[evN]at h ⊢
  split at h
  ·cases h
  ·rename_i e g hc
   obtain ⟨v,rfl,h2,_⟩:=evCI_inv hc
   rw[h2 env' (fun t _=>(he t).symm)]
   exact evN_congr h fun t=>by rw[lk_put,lk_put,he t]
def chkTmps:Chk→List Nat
 |.low t=>[t]
 |.apart t u=>[t,u]
 |.closed _ ts=>ts
 |.quiet _ ts=>ts
theorem chkOK_congr {F env:Env}{L:Nat}{c:Chk}(h:∀ t,t∈chkTmps c→lk env t=lk F t):chkOK pg env L c=chkOK pg F L c:=by
 cases c with
 |low t=>simp only[chkOK];rw[h t (by simp[chkTmps])]
 |apart t u=>simp only[chkOK];rw[h t (by simp[chkTmps]),h u (by simp[chkTmps])]
 |closed f ts =>
  have:∀ (ts:List Nat),(∀ t,t∈ts→lk env t=lk F t)→ts.all (noIdAt env)=ts.all (noIdAt F):=by
   intro ts
   induction ts with
   |nil=>intro _;rfl
   |cons a r ih=>intro hh;simp only[List.all_cons,noIdAt];rw[hh a (by simp),ih (fun t ht=>hh t (by simp[ht]))]
  simp only[chkOK]
  rw[this ts (fun t ht=>h t (by simpa [chkTmps] using ht))]
 |quiet f ts =>
  have:∀ (ts:List Nat),(∀ t,t∈ts→lk env t=lk F t)→ts.all (pureAt env)=ts.all (pureAt F):=by
   intro ts
   induction ts with
   |nil=>intro _;rfl
   |cons a r ih=>intro hh;simp only[List.all_cons,pureAt];rw[hh a (by simp),ih (fun t ht=>hh t (by simp[ht]))]
  simp only[chkOK]
  rw[this ts (fun t ht=>h t (by simpa [chkTmps] using ht))]
theorem kind_reads {o:COp}:(∀ x,kindOf o=.reader x→x∈reads o)∧(∀ x,kindOf o=.writer (some x)→x∈reads o)∧(∀ f args,kindOf o=.call f args→reads o=oTs args):=by
 refine ⟨fun x h=>?_,fun x h=>?_,fun f args h=>?_⟩
 ·cases o with
  |load n g y=>cases y<;>simp[kindOf]at h;subst h;simp[reads,oT]
  |len n y=>cases y<;>simp[kindOf]at h;subst h;simp[reads,oT]
  |tostr y=>cases y<;>simp[kindOf]at h;subst h;simp[reads,oT]
  |iaddr a b y z=>cases y<;>simp[kindOf]at h;subst h;simp[reads,oT]
  |store n x y=>cases x<;>simp[kindOf]at h
  |app a b c x y=>cases x<;>simp[kindOf]at h
  |call f args=>simp only[kindOf]at h;split at h<;>cases h
  |_=>simp[kindOf]at h
 ·cases o with
  |load n g y=>cases y<;>simp[kindOf]at h
  |len n y=>cases y<;>simp[kindOf]at h
  |tostr y=>cases y<;>simp[kindOf]at h
  |iaddr a b y z=>cases y<;>simp[kindOf]at h
  |store n x y=>cases x<;>simp[kindOf]at h;subst h;simp[reads,oT]
  |app a b c x y=>cases x<;>simp[kindOf]at h;subst h;simp[reads,oT]
  |call f args=>simp only[kindOf]at h;split at h<;>cases h
  |_=>simp[kindOf]at h
 ·cases o with
  |load n g y=>cases y<;>simp[kindOf]at h
  |len n y=>cases y<;>simp[kindOf]at h
  |tostr y=>cases y<;>simp[kindOf]at h
  |iaddr a b y z=>cases y<;>simp[kindOf]at h
  |store n x y=>cases x<;>simp[kindOf]at h
  |app a b c x y=>cases x<;>simp[kindOf]at h
  |call f args =>
   simp only[kindOf]at h
   split at h
   ·cases h;rfl
   ·cases h
  |_=>simp[kindOf]at h
theorem needs_tmps {j i:COp}{cs:List Chk}(h:needs (kindOf j) (kindOf i)=some cs){c:Chk}(hc:c∈cs):isSilent (kindOf j)=false∧isSilent (kindOf i)=false∧∀ t,t∈chkTmps c→t∈reads j∨t∈reads i:=by
 obtain ⟨j1,j2,j3⟩:=kind_reads (o:=j)
 obtain ⟨i1,i2,i3⟩:=kind_reads (o:=i)
 revert j1 j2 j3 i1 i2 i3 h
 generalize kindOf j=kj
 generalize kindOf i=ki
 intro h j1 j2 j3 i1 i2 i3
 cases kj with
 |silent=>simp[needs]at h;subst h;simp at hc
 |reader x=>cases ki with
  |silent=>simp[needs]at h;subst h;simp at hc
  |reader y=>simp[needs]at h;subst h;simp at hc
  |writer y=>cases y with
   |none=>simp[needs]at h;subst h;simp at hc
   |some y =>
    simp[needs]at h;subst h;simp at hc;subst hc
    refine ⟨rfl,rfl,fun t ht=>?_⟩
    simp[chkTmps]at ht
    rcases ht with rfl|rfl
    ·exact .inl (j1 _ rfl)
    ·exact .inr (i2 _ rfl)
  |call f args =>
   simp[needs]at h;subst h;simp at hc;subst hc
   refine ⟨rfl,rfl,fun t ht=>.inr ?_⟩
   rw[i3 f args rfl]
   exact ht
  |alloc=>simp[needs]at h;subst h;simp at hc
  |bad=>simp[needs]at h
 |alloc=>cases ki with
  |silent=>simp[needs]at h;subst h;simp at hc
  |reader y =>
   simp[needs]at h;subst h;simp at hc;subst hc
   refine ⟨rfl,rfl,fun t ht=>?_⟩
   simp[chkTmps]at ht
   subst ht
   exact .inr (i1 _ rfl)
  |call f args =>
   simp[needs]at h;subst h;simp at hc;subst hc
   refine ⟨rfl,rfl,fun t ht=>.inr ?_⟩
   rw[i3 f args rfl]
   exact ht
  |writer y=>cases y<;>simp[needs]at h
  |_=>simp[needs]at h
 |writer x=>cases ki with
  |alloc=>cases x<;>simp[needs]at h
  |silent=>cases x<;>(simp[needs]at h;subst h;simp at hc)
  |reader y=>cases x with
   |none =>
    simp[needs]at h;subst h;simp at hc;subst hc
    refine ⟨rfl,rfl,fun t ht=>?_⟩
    simp[chkTmps]at ht
    subst ht
    exact .inr (i1 _ rfl)
   |some x =>
    simp[needs]at h;subst h;simp at hc
    rcases hc with rfl|rfl
    ·refine ⟨rfl,rfl,fun t ht=>?_⟩
     simp[chkTmps]at ht
     subst ht
     exact .inr (i1 _ rfl)
    ·refine ⟨rfl,rfl,fun t ht=>?_⟩
     simp[chkTmps]at ht
     rcases ht with rfl|rfl
     ·exact .inr (i1 _ rfl)
     ·exact .inl (j2 _ rfl)
  |writer y=>cases x<;>simp[needs]at h
  |call f args=>cases x<;>simp[needs]at h
  |bad=>cases x<;>simp[needs]at h
 |call f args=>cases ki with
  |silent=>simp[needs]at h;subst h;simp at hc
  |reader y =>
   simp[needs]at h;subst h;simp at hc
   rcases hc with rfl|rfl
   ·refine ⟨rfl,rfl,fun t ht=>?_⟩
    simp[chkTmps]at ht
    subst ht
    exact .inr (i1 _ rfl)
   ·refine ⟨rfl,rfl,fun t ht=>.inl ?_⟩
    rw[j3 f args rfl]
    exact ht
  |writer y=>simp[needs]at h
  |call _ _=>simp[needs]at h
  |alloc =>
   simp[needs]at h;subst h;simp at hc;subst hc
   refine ⟨rfl,rfl,fun t ht=>.inl ?_⟩
   rw[j3 f args rfl]
   exact ht
  |bad=>simp[needs]at h
 |bad=>cases ki with
  |silent=>simp[needs]at h;subst h;simp at hc
  |_=>simp[needs]at h
end
structure Loc where
 blk:Nat
 cap:Nat
abbrev Mem:=Nat→Nat→Option Value
abbrev Mu:=Nat→Option Loc
abbrev Inf:=Nat→Option (Option (Nat×Nat))
def infO:AObj→Option (Nat×Nat)
 |.box _=>none
 |.arr sz _ g _=>some (g,sz)
def inf (G:Heap):Inf:=fun id=>(G[id]?).map infO
inductive RP (m:Mem):Value→PV→Prop
 |b (x):RP m (.bool x) (.b x)
 |i (k n):RP m (.int k n) (.i k n)
 |s (l:List UInt8):RP m (.string ⟨l.toArray⟩) (.s l)
 |sl (a:Option Addr) (cap:Nat) (rows:List (List PV)) (sz:Nat) (f:Nat→Nat→Value)
   (hcap:rows.length≤cap) (hs:okRows sz rows=true)
   (ha:rows≠[]→∃ b o,a=some ⟨b,o,none⟩∧∀ (i j:Nat) (r:List PV) (c:PV),rows[i]?=some r→r[j]?=some c→m b (o+i * sz+j)=some (f i j))
   (hf:∀ (i j:Nat) (r:List PV) (c:PV),rows[i]?=some r→r[j]?=some c→RP m (f i j) c):RP m (.slice a rows.length cap) (.sl rows)
 |pn:RP m (.pointer none) .pn
 |fnil:RP m .nilFunc .fnil
 |inil:RP m .nilIface .inil
 |ag (cs:Array Value) (l:List PV) (h:cs.size=l.length) (hr:∀ (j:Nat) (v:Value) (c:PV),cs[j]?=some v→l[j]?=some c→RP m v c):RP m (.agg cs) (.ag l)
 |ifc (t v x):RP m v x→RP m (.iface t v) (.ifc t x)
inductive R (m:Mem)(μ:Mu)(inf:Inf):Value→AV→Prop
 |p (v x):RP m v x→R m μ inf v (.p x)
 |nils:R m μ inf (.slice none 0 0) .nils
 |undef:R m μ inf Go.undef .undef
 |ptr (id off loc):μ id=some loc→inf id=some none→R m μ inf (.pointer (some ⟨loc.blk,off,none⟩)) (.ptr id off)
 |arr (id len gen a n c loc g sz):μ id=some loc→inf id=some (some (g,sz))→gen≤g →
   (gen=g→a=some ⟨loc.blk,0,none⟩∧n=len∧c=loc.cap)→R m μ inf (.slice a n c) (.arr id len gen)
 |eptr (id idx off gen a loc g sz):μ id=some loc→inf id=some (some (g,sz))→gen≤g →
   (gen=g→a=⟨loc.blk,idx * sz+off,none⟩)→R m μ inf (.pointer (some a)) (.eptr id idx off gen)
 |rp (b o cells) (f:Nat→Value):(∀ (j:Nat) (c:PV),cells[j]?=some c→m b (o+j)=some (f j)∧RP m (f j) c)→R m μ inf (.pointer (some ⟨b,o,none⟩)) (.rp cells)
 |ag (cs:Array Value) (l:List AV) (h:cs.size=l.length) (hr:∀ (j:Nat) (v:Value) (c:AV),cs[j]?=some v→l[j]?=some c→R m μ inf v c):R m μ inf (.agg cs) (.ag l)
 |tup (cs:Array Value) (l:List AV) (h:cs.size=l.length) (hr:∀ (j:Nat) (v:Value) (c:AV),cs[j]?=some v→l[j]?=some c→R m μ inf v c):R m μ inf (.tuple cs) (.tup l)
 |fn (f) (a:Array Value) (a':List AV) (b:Array Value) (b':List AV) (ha:a.size=a'.length) (hb:b.size=b'.length)
   (hra:∀ (j:Nat) (v:Value) (c:AV),a[j]?=some v→a'[j]?=some c→R m μ inf v c) (hrb:∀ (j:Nat) (v:Value) (c:AV),b[j]?=some v→b'[j]?=some c→R m μ inf v c):R m μ inf (.func (.func f) a b) (.fn f a' b')
 |ifc (t v x):R m μ inf v x→R m μ inf (.iface t v) (.ifc t x)
def RL (m:Mem)(μ:Mu)(inf:Inf)(vs:List Value)(l:List AV):Prop :=
 vs.length=l.length∧∀ (j:Nat) (v:Value) (c:AV),vs[j]?=some v→l[j]?=some c→R m μ inf v c
def ObjR (m:Mem)(μ:Mu)(inf:Inf)(w:World)(loc:Loc):AObj→Prop
 |.box cells=>∃ cs T,w.heap[loc.blk]?=some (.cells cs T (0,0))∧cs.size=cells.length∧(∀ (j:Nat) (v:Value) (a:AV),cs[j]?=some v→cells[j]?=some a→R m μ inf v a) ∧
   cells.all AV.flat=true∧(∀ o,m loc.blk o=none)
 |.arr sz rows g sl=>∃ cs T,w.heap[loc.blk]?=some (.cells cs T (0,0))∧cs.size=loc.cap * sz∧rows.length≤loc.cap∧1≤sz∧okRows sz rows=true ∧
   (∀ (i j:Nat) (r:List PV) (c:PV),rows[i]?=some r→r[j]?=some c→∃ v,cs[i * sz+j]?=some v∧RP m v c)∧(∀ o,sl * sz≤o→m loc.blk o=none)
structure Inv (m:Mem)(μ:Mu)(G:Heap)(w:World):Prop where
 known:∀ b o v,m b o=some v→w.cell? ⟨b,o,none⟩=some v
 inj:∀ i j l l',μ i=some l→μ j=some l'→l.blk=l'.blk→i=j
 obj:∀ id o,G[id]?=some o→∀ loc,μ id=some loc→ObjR m μ (inf G) w loc o
 dom:∀ id loc,μ id=some loc→id<G.length
structure ExtI (m:Mem)(μ:Mu)(i:Inf)(m':Mem)(μ':Mu)(i':Inf):Prop where
 mem:∀ b o v,m b o=some v→m' b o=some v
 box:∀ id loc,μ id=some loc→i id=some none→μ' id=some loc∧i' id=some none
 arr:∀ id loc g sz,μ id=some loc→i id=some (some (g,sz))→∃ loc' g',μ' id=some loc'∧i' id=some (some (g',sz))∧g≤g'∧(g'=g→loc'=loc)
abbrev Ext (m:Mem)(μ:Mu)(G:Heap)(m':Mem)(μ':Mu)(G':Heap):Prop:=ExtI m μ (inf G) m' μ' (inf G')
structure Fr (m:Mem)(μ:Mu)(w:World)(m':Mem)(μ':Mu)(w':World):Prop where
 os:w'.os=w.os
 tape:w'.tape=w.tape
 output:w'.output=w.output
 size:w.heap.size≤w'.heap.size
 blk:∀ b,b<w.heap.size→(∀ id loc,μ id=some loc→loc.blk≠b)→w'.heap[b]?=w.heap[b]?
 mem:∀ b o v,m' b o=some v→m b o=some v∨w.heap.size≤b∨∃ id loc,μ id=some loc∧loc.blk=b
 loc:∀ id loc',μ' id=some loc'→w.heap.size≤loc'.blk∨∃ id loc,μ id=some loc∧loc.blk=loc'.blk
structure Tot (μ:Mu)(G:Heap)(μ':Mu)(G':Heap):Prop where
 tot:∀ id,id<G'.length→(id<G.length→∃ l,μ id=some l)→∃ l,μ' id=some l
 keep:∀ id,id<G.length→μ id=none→μ' id=none∧G'[id]?=G[id]?
structure Stp (m:Mem)(μ:Mu)(G:Heap)(w:World)(m':Mem)(μ':Mu)(G':Heap)(w':World):Prop where
 ext:Ext m μ G m' μ' G'
 fr:Fr m μ w m' μ' w'
 tot:Tot μ G μ' G'
theorem RP.mono {m m':Mem}(h:∀ b o v,m b o=some v→m' b o=some v){v:Value}{x:PV}(hr:RP m v x):RP m' v x:=by
 induction hr with
 |b x=>exact .b x
 |i k n=>exact .i k n
 |s l=>exact .s l
 |sl a cap rows sz f hcap hs ha hf ih =>
  exact .sl a cap rows sz f hcap hs (fun hne=>let ⟨bb,oo,e,hc⟩:=ha hne;⟨bb,oo,e,fun i j r c h1 h2=>h _ _ _ (hc i j r c h1 h2)⟩) ih
 |pn=>exact .pn
 |fnil=>exact .fnil
 |inil=>exact .inil
 |ag cs l hl hr ih=>exact .ag cs l hl ih
 |ifc t v x _ ih=>exact .ifc t v x ih
theorem R.monoI {m m':Mem}{μ μ':Mu}{i i':Inf}(h:ExtI m μ i m' μ' i'){v:Value}{x:AV}(hr:R m μ i v x):R m' μ' i' v x:=by
 induction hr with
 |p v x hp=>exact .p v x (hp.mono h.mem)
 |nils=>exact .nils
 |undef=>exact .undef
 |ptr id off loc h1 h2=>obtain ⟨a,b⟩:=h.box id loc h1 h2;exact .ptr id off loc a b
 |arr id len gen a n c loc g sz h1 h2 h3 h4 =>
  obtain ⟨loc',g',a1,a2,a3,a4⟩:=h.arr id loc g sz h1 h2
  refine .arr id len gen a n c loc' g' sz a1 a2 (by omega) (fun e=>?_)
  have hg:g'=g:=by omega
  rw[a4 hg]
  exact h4 (by omega)
 |eptr id idx off gen a loc g sz h1 h2 h3 h4 =>
  obtain ⟨loc',g',a1,a2,a3,a4⟩:=h.arr id loc g sz h1 h2
  refine .eptr id idx off gen a loc' g' sz a1 a2 (by omega) (fun e=>?_)
  have hg:g'=g:=by omega
  rw[a4 hg]
  exact h4 (by omega)
 |rp b o cells f hc=>exact .rp b o cells f fun j c hj=>⟨h.mem _ _ _ (hc j c hj).1,(hc j c hj).2.mono h.mem⟩
 |ag cs l hl hr ih=>exact .ag cs l hl ih
 |tup cs l hl hr ih=>exact .tup cs l hl ih
 |fn f a a' b b' ha hb hra hrb iha ihb=>exact .fn f a a' b b' ha hb iha ihb
 |ifc t v x _ ih=>exact .ifc t v x ih
theorem R.mono {m m':Mem}{μ μ':Mu}{G G':Heap}(h:Ext m μ G m' μ' G'){v:Value}{x:AV}(hr:R m μ (inf G) v x):R m' μ' (inf G') v x:=hr.monoI h
theorem Ext.refl (m:Mem)(μ:Mu)(G:Heap):Ext m μ G m μ G :=
 ⟨fun _ _ _ h=>h,fun _ _ h h'=>⟨h,h'⟩,fun _ loc g _ h h'=>⟨loc,g,h,h',Nat.le_refl _,fun _=>rfl⟩⟩
theorem Ext.trans {m m' m'':Mem}{μ μ' μ'':Mu}{G G' G'':Heap}(h:Ext m μ G m' μ' G')(h':Ext m' μ' G' m'' μ'' G''):Ext m μ G m'' μ'' G'':=by
 refine ⟨fun b o v hm=>h'.mem _ _ _ (h.mem _ _ _ hm),fun id loc h1 h2=>?_,fun id loc g sz h1 h2=>?_⟩
 ·obtain ⟨a,b⟩:=h.box id loc h1 h2
  exact h'.box id loc a b
 ·obtain ⟨l1,g1,a1,a2,a3,a4⟩:=h.arr id loc g sz h1 h2
  obtain ⟨l2,g2,b1,b2,b3,b4⟩:=h'.arr id l1 g1 sz a1 a2
  exact ⟨l2,g2,b1,b2,by omega,fun e=>by rw[b4 (by omega),a4 (by omega)]⟩
theorem Fr.refl (m:Mem)(μ:Mu)(w:World):Fr m μ w m μ w :=
 ⟨rfl,rfl,rfl,Nat.le_refl _,fun _ _ _=>rfl,fun _ _ _ h=>.inl h,fun id loc h=>.inr ⟨id,loc,h,rfl⟩⟩
theorem Fr.trans {m m' m'':Mem}{μ μ' μ'':Mu}{w w' w'':World}(h:Fr m μ w m' μ' w')(h':Fr m' μ' w' m'' μ'' w''):Fr m μ w m'' μ'' w'':=by
 refine ⟨h'.os.trans h.os,h'.tape.trans h.tape,h'.output.trans h.output,Nat.le_trans h.size h'.size,fun b hb hn=>?_,fun b o v hm=>?_,fun id l hl=>?_⟩
 ·rw[h'.blk b (Nat.lt_of_lt_of_le hb h.size) (fun id l hl e=>?_),h.blk b hb hn]
  rcases h.loc id l hl with h1|⟨id',l',h1,h2⟩
  ·omega
  ·exact hn id' l' h1 (h2.trans e)
 ·rcases h'.mem b o v hm with h1|h1|⟨id,l,h1,h2⟩
  ·exact h.mem b o v h1
  ·exact .inr (.inl (Nat.le_trans h.size h1))
  ·rcases h.loc id l h1 with h3|⟨id',l',h3,h4⟩
   ·exact .inr (.inl (by omega))
   ·exact .inr (.inr ⟨id',l',h3,h4.trans h2⟩)
 ·rcases h'.loc id l hl with h1|⟨id',l',h1,h2⟩
  ·exact .inl (Nat.le_trans h.size h1)
  ·rcases h.loc id' l' h1 with h3|⟨id2,l2,h3,h4⟩
   ·exact .inl (by omega)
   ·exact .inr ⟨id2,l2,h3,h4.trans h2⟩
theorem Tot.refl (μ:Mu)(G:Heap):Tot μ G μ G:=⟨fun id h t=>t h,fun id h t=>⟨t,rfl⟩⟩
theorem Tot.trans {μ μ' μ'':Mu}{G G' G'':Heap}(h:Tot μ G μ' G')(h':Tot μ' G' μ'' G''):Tot μ G μ'' G'':=by
 refine ⟨fun id hid t=>h'.tot id hid fun hid'=>h.tot id hid' t,fun id hid t=>?_⟩
 obtain ⟨a1,a2⟩:=h.keep id hid t
 have hid':id<G'.length:=by rw[gG hid]at a2;exact (gE a2).1
 obtain ⟨b1,b2⟩:=h'.keep id hid' a1
 exact ⟨b1,b2.trans a2⟩
theorem Stp.total {m m':Mem}{μ μ':Mu}{G G':Heap}{w w':World}(h:Stp m μ G w m' μ' G' w')(t:∀ id,id<G.length→∃ l,μ id=some l):∀ id,id<G'.length→∃ l,μ' id=some l :=
 fun id hid=>h.tot.tot id hid (t id)
theorem Stp.refl (m:Mem)(μ:Mu)(G:Heap)(w:World):Stp m μ G w m μ G w:=⟨.refl _ _ _,.refl _ _ _,.refl _ _⟩
theorem Stp.trans {m m' m'':Mem}{μ μ' μ'':Mu}{G G' G'':Heap}{w w' w'':World}(h:Stp m μ G w m' μ' G' w')(h':Stp m' μ' G' w' m'' μ'' G'' w''):Stp m μ G w m'' μ'' G'' w'' :=
 ⟨h.ext.trans h'.ext,h.fr.trans h'.fr,h.tot.trans h'.tot⟩
theorem RL.mono {m m':Mem}{μ μ':Mu}{G G':Heap}(h:Ext m μ G m' μ' G'){vs:List Value}{l:List AV}(hr:RL m μ (inf G) vs l):RL m' μ' (inf G') vs l :=
 ⟨hr.1,fun j v c h1 h2=>(hr.2 j v c h1 h2).mono h⟩
theorem RL.nil {m:Mem}{μ:Mu}{i:Inf}:RL m μ i [] []:=⟨rfl,fun j v c h=>by simp at h⟩
theorem RL.cons {m:Mem}{μ:Mu}{i:Inf}{v:Value}{a:AV}{vs:List Value}{l:List AV}(h:R m μ i v a)(hr:RL m μ i vs l):RL m μ i (v::vs) (a::l) :=
 ⟨by simp[hr.1],fun j v' c h1 h2=>by
  cases j with
  |zero=>simp at h1 h2;subst h1;subst h2;exact h
  |succ j=>simp at h1 h2;exact hr.2 j v' c h1 h2⟩
theorem RL.inv_cons {m:Mem}{μ:Mu}{i:Inf}{a:AV}{vs:List Value}{l:List AV}(h:RL m μ i vs (a::l)):∃ v vs',vs=v::vs'∧R m μ i v a∧RL m μ i vs' l:=by
 cases vs with
 |nil=>have:=h.1;simp at this
 |cons v vs'=>exact ⟨v,vs',rfl,h.2 0 v a rfl rfl,by have:=h.1;simpa using this,fun j v' c h1 h2=>h.2 (j+1) v' c (by simpa using h1) (by simpa using h2)⟩
theorem RL.inv_nil {m:Mem}{μ:Mu}{i:Inf}{vs:List Value}(h:RL m μ i vs []):vs=[]:=by
 have:=h.1
 exact List.eq_nil_of_length_eq_zero (by simpa using this)
theorem RL.app {m:Mem}{μ:Mu}{i:Inf}{vs vs':List Value}{l l':List AV}(h:RL m μ i vs l)(h':RL m μ i vs' l'):RL m μ i (vs++vs') (l++l'):=by
 induction l generalizing vs with
 |nil=>rw[h.inv_nil];exact h'
 |cons a l ih=>obtain ⟨v,vs,rfl,hv,hr⟩:=h.inv_cons;exact .cons hv (ih hr)
theorem RL.cellsOf {m:Mem}{μ:Mu}{i:Inf}{v:Value}{a:AV}(h:R m μ i v a)(hf:a.cells.all AV.flat=true):RL m μ i v.cells.toList a.cells:=by
 cases h with
 |ag cs l hl hr=>exact ⟨by simpa [Value.cells,AV.cells] using hl,fun j v c h1 h2=>hr j v c (by simpa [Value.cells] using h1) h2⟩
 |p v x hp =>
  cases hp with
  |ag cs l hl hr=>simp[AV.cells,AV.flat,PV.flat]at hf
  |b=>exact .cons (.p _ _ (.b _)) .nil
  |i=>exact .cons (.p _ _ (.i _ _)) .nil
  |s=>exact .cons (.p _ _ (.s _)) .nil
  |sl a cap rows sz f hcap hs ha hff=>exact .cons (.p _ _ (.sl a cap rows sz f hcap hs ha hff)) .nil
  |pn=>exact .cons (.p _ _ .pn) .nil
  |fnil=>exact .cons (.p _ _ .fnil) .nil
  |inil=>exact .cons (.p _ _ .inil) .nil
  |ifc t v x h=>exact .cons (.p _ _ (.ifc t v x h)) .nil
 |nils=>exact .cons .nils .nil
 |undef=>simp[AV.cells,AV.flat]at hf
 |ptr id off loc h1 h2=>exact .cons (.ptr id off loc h1 h2) .nil
 |arr id len gen a n c loc g sz h1 h2 h3 h4=>exact .cons (.arr id len gen a n c loc g sz h1 h2 h3 h4) .nil
 |eptr id idx off gen a loc g sz h1 h2 h3 h4=>exact .cons (.eptr id idx off gen a loc g sz h1 h2 h3 h4) .nil
 |rp b o cells f hc=>exact .cons (.rp b o cells f hc) .nil
 |tup=>simp[AV.cells,AV.flat]at hf
 |fn f a a' b b' ha hb hra hrb=>exact .cons (.fn f a a' b b' ha hb hra hrb) .nil
 |ifc t v x h=>exact .cons (.ifc t v x h) .nil
theorem RP.sl_inv {m:Mem}{z:Value}{rows:List (List PV)}(h:RP m z (.sl rows)):∃ (a:Option Addr) (cap sz:Nat) (f:Nat→Nat→Value),z=.slice a rows.length cap∧rows.length≤cap∧okRows sz rows=true ∧
  (rows≠[]→∃ bb oo,a=some ⟨bb,oo,none⟩∧∀ (i j:Nat) (r:List PV) (c:PV),rows[i]?=some r→r[j]?=some c→m bb (oo+i * sz+j)=some (f i j)) ∧
  (∀ (i j:Nat) (r:List PV) (c:PV),rows[i]?=some r→r[j]?=some c→RP m (f i j) c):=by
 cases h with|sl a cap _ sz f hcap hs ha hf=>exact ⟨a,cap,sz,f,rfl,hcap,hs,ha,hf⟩
theorem R.one {m:Mem}{μ:Mu}{i:Inf}{v:Value}{a:AV}(h:R m μ i v a)(hf:a.flat=true):v.oneCell'=true:=by
 cases h with
 |p v x hp=>cases hp<;>first|rfl|simp[AV.flat,PV.flat]at hf
 |_=>first|rfl|simp[AV.flat]at hf
theorem RP.one {m:Mem}{v:Value}{x:PV}(h:RP m v x)(hf:x.flat=true):v.oneCell'=true:=by
 cases h<;>first|rfl|simp[PV.flat]at hf
theorem ofVal_R (m:Mem)(μ:Mu)(i:Inf):∀ (v:Value) (a:AV),ofVal v=some a→R m μ i v a:=by
 intro v
 refine Value.rec (motive_1:=fun v=>∀ a,ofVal v=some a→R m μ i v a) (motive_2:=fun c=>∀ a,ofVals c.toList=some a→RL m μ i c.toList a)
  (motive_3:=fun l=>∀ a,ofVals l=some a→RL m μ i l a) ?_ ?_ ?_ ?_ ?_ ?_ ?_ ?_ ?_ ?_ ?_ ?_ ?_ ?_ ?_ ?_ ?_ ?_ v
 ·intro b a h;simp[ofVal]at h;subst h;exact .p _ _ (.b _)
 ·intro k n a h;simp[ofVal]at h;subst h;exact .p _ _ (.i _ _)
 ·intro k n a h;simp[ofVal]at h
 ·intro k n n' a h;simp[ofVal]at h
 ·intro s a h
  simp[ofVal]at h
  subst h
  have:Value.string s=.string ⟨s.data.toList.toArray⟩:=by simp
  rw[this]
  exact .p _ _ (.s _)
 ·intro p a h
  cases p with
  |none=>simp[ofVal]at h;subst h;exact .p _ _ .pn
  |some p=>simp[ofVal]at h
 ·intro p n c a h
  cases p with
  |none=>cases n with
   |zero=>cases c with
    |zero=>simp[ofVal]at h;subst h;exact .nils
    |succ c=>simp[ofVal]at h
   |succ n=>simp[ofVal]at h
  |some p=>simp[ofVal]at h
 ·intro r a h;simp[ofVal]at h
 ·intro r a h;simp[ofVal]at h
 ·intro fn f c _ _ a h;simp[ofVal]at h
 ·intro a h;simp[ofVal]at h;subst h;exact .p _ _ .fnil
 ·intro t v _ a h;simp[ofVal]at h
 ·intro a h;simp[ofVal]at h;subst h;exact .p _ _ .inil
 ·intro cs ih a h
  rcases cs with ⟨cs⟩
  simp only[ofVal]at h
  split at h
  ·rename_i l hl
   cases h
   have:=ih l hl
   exact .ag _ _ (by simpa using this.1) (fun j v c h1 h2=>this.2 j v c (by simpa using h1) h2)
  ·cases h
 ·intro vs _ a h;simp[ofVal]at h
 ·intro l ih a h;exact ih a h
 ·intro a h;simp[ofVals]at h;subst h;exact .nil
 ·intro v l ihv ihl a h
  simp only[ofVals]at h
  split at h
  ·cases h
  ·rename_i x hx
   split at h
   ·cases h
   ·rename_i l' hl
    cases h
    exact .cons (ihv _ hx) (ihl _ hl)
structure EnvR (m:Mem)(μ:Mu)(i:Inf)(N:Nat)(env:Env)(a:Act):Prop where
 size:N≤a.tmps.size
 val:∀ k x,lk env k=some x→R m μ i (a.tmps.getD k undef) x
section
variable {m:Mem}{μ:Mu}{i:Inf}{N:Nat}{env:Env}{a:Act}
theorem EnvR.mono {m':Mem}{μ':Mu}{G G':Heap}(h:EnvR m μ (inf G) N env a)(e:Ext m μ G m' μ' G'):EnvR m' μ' (inf G') N env a :=
 ⟨h.size,fun k x hk=>(h.val k x hk).mono e⟩
theorem EnvR.put (h:EnvR m μ i N env a){d:Option Nat}(hd:dstOK N d=true){v:Value}{x:AV}(hv:R m μ i v x):EnvR m μ i N (put env d x) (a.put d v):=by
 cases d with
 |none=>exact h
 |some d =>
  have hd':d<N:=by simpa [dstOK,Nat.blt_eq] using hd
  refine ⟨by simpa [Act.put] using h.size,fun k y hk=>?_⟩
  simp only[Z.put,lk]at hk
  by_cases e:d=k
  ·subst e
   rw[if_pos rfl]at hk
   cases hk
   have:d<a.tmps.size:=Nat.lt_of_lt_of_le hd' h.size
   simpa [Act.put,Array.getD_eq_getD_getElem?,this] using hv
  ·rw[if_neg e]at hk
   have:=h.val k y hk
   simpa [Act.put,Array.getD_eq_getD_getElem?,Array.getElem?_setIfInBounds,e] using this
theorem EnvR.restr (h:EnvR m μ i N env a):∀ (l:List Nat),EnvR m μ i N (restr l env) a:=by
 intro l
 refine ⟨h.size,?_⟩
 induction l with
 |nil=>intro k x hk;simp[Z.restr,lk]at hk
 |cons n l ih =>
  intro k x hk
  unfold Z.restr at hk
  split at hk
  ·rename_i v hv
   simp only[lk]at hk
   split at hk
   ·rename_i e
    subst e
    cases hk
    exact h.val _ _ hv
   ·exact ih k x hk
  ·exact ih k x hk
theorem opd_R (h:EnvR m μ i N env a){x:Operand}{o:Opd}(hc:cOpd x=some o){v:AV}(ho:opd env o=some v):R m μ i (a.eval x) v:=by
 cases x with
 |tmp t=>simp[cOpd]at hc;subst hc;exact h.val _ _ ho
 |const c =>
  simp only[cOpd,Option.map_eq_some_iff]at hc
  obtain ⟨b,hb,rfl⟩:=hc
  simp[opd]at ho
  subst ho
  exact ofVal_R _ _ _ _ _ hb
 |global g=>simp[cOpd]at hc
 |func f =>
  simp[cOpd]at hc
  subst hc
  simp[opd]at ho
  subst ho
  exact .fn f #[] [] #[] [] rfl rfl (fun j v c h=>by simp at h) (fun j v c h=>by simp at h)
theorem opds_R (h:EnvR m μ i N env a):∀ {xs:List Operand} {os:List Opd},cOpds xs=some os→∀ {vs:List AV},opds env os=some vs→RL m μ i (xs.map a.eval) vs
 |[],os,hc,vs,ho=>by
  simp[cOpds]at hc
  subst hc
  simp[opds]at ho
  subst ho
  exact .nil
 |x::xs,os,hc,vs,ho=>by
  simp only[cOpds]at hc
  split at hc
  ·cases hc
  ·rename_i b hb
   split at hc
   ·cases hc
   ·rename_i bs hbs
    cases hc
    simp only[opds]at ho
    split at ho
    ·cases ho
    ·rename_i v hv
     split at ho
     ·cases ho
     ·rename_i vs' hvs
      cases ho
      exact .cons (opd_R h hb hv) (opds_R h hbs hvs)
end
section
variable {P:Program}{o:Oper}{a:Act}{w w':World}{next:Act→World→Prop}{Q:Exit→Act→World→Prop}
theorem wp_of_val {v:Value}(h:(execOp a.eval o).run P w=.ok (.value v) w')(hn:next (a.put o.dst v) w'):o.wp P a w next Q:=by
 unfold Oper.wp
 rw[h]
 exact hn
theorem wp_of_skip (h:(execOp a.eval o).run P w=.ok .skip w')(hn:next (a.put o.dst undef) w'):o.wp P a w next Q:=by
 unfold Oper.wp
 rw[h]
 exact hn
theorem wp_of_pan {v:Value}(h:(execOp a.eval o).run P w=.halt (.panic v) w')(hn:Q (.panic [{ v,recovered:=false }]) a w'):o.wp P a w next Q:=by
 unfold Oper.wp
 rw[h]
 exact hn
end
def Good (P:Program)(o:Oper)(a:Act)(m:Mem)(μ:Mu)(G:Heap)(w:World)(r:Res):Prop :=
 ∀ (next:Act→World→Prop) (Q:Exit→Act→World→Prop),
  match r with
  |.val v G'=>(∀ m' μ' w' val,Inv m' μ' G' w'→Stp m μ G w m' μ' G' w'→R m' μ' (inf G') val v→next (a.put o.dst val) w')→o.wp P a w next Q
  |.pan v G'=>(∀ m' μ' w' val,Inv m' μ' G' w'→Stp m μ G w m' μ' G' w'→R m' μ' (inf G') val v→Q (.panic [{ v:=val,recovered:=false }]) a w')→o.wp P a w next Q
section
variable {P:Program}{o:Oper}{a:Act}{m:Mem}{μ:Mu}{G:Heap}{w:World}
theorem Good.same (hI:Inv m μ G w){v:AV}{val:Value}(h:(execOp a.eval o).run P w=.ok (.value val) w)(hr:R m μ (inf G) val v):Good P o a m μ G w (.val v G) :=
 fun next Q hn=>wp_of_val h (hn m μ w val hI (.refl _ _ _ _) hr)
variable {i:Inf}{v:Value}
theorem R.bool_inv {x:Bool}(h:R m μ i v (.p (.b x))):v=.bool x:=by
 cases h with|p _ _ h=>cases h;rfl
theorem R.int_inv {k:IntKind}{n:Int}(h:R m μ i v (.p (.i k n))):v=.int k n:=by
 cases h with|p _ _ h=>cases h;rfl
theorem R.str_inv {l:List UInt8}(h:R m μ i v (.p (.s l))):v=.string ⟨l.toArray⟩:=by
 cases h with|p _ _ h=>cases h;rfl
theorem R.ag_inv {l:List AV}(h:R m μ i v (.ag l)):∃ cs,v=.agg cs∧cs.size=l.length∧∀ (j:Nat) (v:Value) (c:AV),cs[j]?=some v→l[j]?=some c→R m μ i v c:=by
 cases h with|ag cs l h hr=>exact ⟨cs,rfl,h,hr⟩
theorem R.tup_inv {l:List AV}(h:R m μ i v (.tup l)):∃ cs,v=.tuple cs∧cs.size=l.length∧∀ (j:Nat) (v:Value) (c:AV),cs[j]?=some v→l[j]?=some c→R m μ i v c:=by
 cases h with|tup cs l h hr=>exact ⟨cs,rfl,h,hr⟩
theorem R.bool (x:Bool):R m μ i (.bool x) (.p (.b x)):=.p _ _ (.b _)
theorem R.int (k:IntKind)(n:Int):R m μ i (.int k n) (.p (.i k n)):=.p _ _ (.i _ _)
theorem R.str (l:List UInt8):R m μ i (.string ⟨l.toArray⟩) (.p (.s l)):=.p _ _ (.s _)
variable {N:Nat}{env:Env}(hI:Inv m μ G w)(he:EnvR m μ (inf G) N env a)
include hI he
theorem good_mov {x:Operand}{ox:Opd}(ho:o.op=.move x∨o.op=.assign x)(hx:cOpd x=some ox){v:AV}(hv:opd env ox=some v):Good P o a m μ G w (.val v G) :=
 .same hI (by rcases ho with ho|ho<;>simp[execOp,ho]) (opd_R he hx hv)
theorem good_pick {c x y:Operand}{oc ox oy:Opd}(ho:o.op=.pick c x y)(hc:cOpd c=some oc)(hx:cOpd x=some ox)(hy:cOpd y=some oy)
  {b:Bool} (hb:opd env oc=some (.p (.b b))) {v:AV} (hv:opd env (if b then ox else oy)=some v):Good P o a m μ G w (.val v G):=by
 have hb':=(opd_R he hc hb).bool_inv
 cases b
 ·exact .same hI (by simp[execOp,ho,hb',asBool]) (opd_R he hy (by simpa using hv))
 ·exact .same hI (by simp[execOp,ho,hb',asBool]) (opd_R he hx (by simpa using hv))
theorem good_nilck {x:Operand}{ox:Opd}(ho:o.op=.nilCheck x)(hx:cOpd x=some ox){v:AV}(hv:opd env ox=some v)
  (hk:(∃ id off,v=.ptr id off)∨(∃ id idx off gen,v=.eptr id idx off gen)∨(∃ cs,v=.rp cs)∨∃ f a b,v=.fn f a b):Good P o a m μ G w (.val v G):=by
 have hr:=opd_R he hx hv
 refine .same hI (val:=a.eval x) ?_ hr
 rcases hk with ⟨id,off,rfl⟩|⟨id,idx,off,gen,rfl⟩|⟨cs,rfl⟩|⟨f,b,c,rfl⟩
 ·generalize hz:a.eval x=z at hr
  cases hr;simp[execOp,ho,hz]
 ·generalize hz:a.eval x=z at hr
  cases hr;simp[execOp,ho,hz]
 ·generalize hz:a.eval x=z at hr
  cases hr;simp[execOp,ho,hz]
 ·generalize hz:a.eval x=z at hr
  cases hr;simp[execOp,ho,hz]
theorem good_not {x:Operand}{ox:Opd}{t:TypeId}(ho:o.op=.unOp .not t x)(hx:cOpd x=some ox){b:Bool}(hv:opd env ox=some (.p (.b b))):Good P o a m μ G w (.val (.p (.b (!b))) G):=by
 have hb':=(opd_R he hx hv).bool_inv
 exact .same hI (by simp[execOp,ho,hb',Op.unary]) (.bool _)
theorem good_neg {x:Operand}{ox:Opd}{t:TypeId}(ho:o.op=.unOp .neg t x)(hx:cOpd x=some ox){k:IntKind}{n:Int}(hv:opd env ox=some (.p (.i k n))):Good P o a m μ G w (.val (.p (.i k (k.wrap (0-n)))) G):=by
 have hb':=(opd_R he hx hv).int_inv
 exact .same hI (by simp[execOp,ho,hb',Op.unary,Op.intArith]) (.int _ _)
theorem good_conv {x:Operand}{ox:Opd}{s d:TypeId}{ks k:IntKind}(ho:o.op=.convert s d x)(hs:P.underlying s=some (.int ks))(hd:P.underlying d=some (.int k))(hx:cOpd x=some ox){k':IntKind}{n:Int}(hv:opd env ox=some (.p (.i k' n))):Good P o a m μ G w (.val (.p (.i k (k.wrap n))) G):=by
 have hb':=(opd_R he hx hv).int_inv
 exact .same hI (by simp[execOp,ho,hb',convert,run_underlying hs,run_underlying hd,Conv.intToInt]) (.int _ _)
theorem good_mkif {x:Operand}{ox:Opd}{t:TypeId}(ho:o.op=.makeInterface t x){d:TypeDesc}(ht:P.underlying t=some d)(hd:∀ ms,d≠.interface ms)(hx:cOpd x=some ox){v:AV}(hv:opd env ox=some v):Good P o a m μ G w (.val (.ifc t v) G):=by
 refine .same hI (val:=.iface t (a.eval x)) ?_ (.ifc _ _ _ (opd_R he hx hv))
 simp only[execOp,ho,Instr.makeInterface,Sem.run_bind,run_underlying ht,Result.andThen_ok]
 cases d<;>first|rfl|exact absurd rfl (hd _)
theorem good_mkfn {f:Nat}{x y:Array Operand}{ox oy:List Opd}(ho:o.op=.makeFunc (.func f) x y)(hx:cOpds x.toList=some ox)(hy:cOpds y.toList=some oy){vs us:List AV}(hv:opds env ox=some vs)(hu:opds env oy=some us):Good P o a m μ G w (.val (.fn f vs us) G):=by
 have h1:=opds_R he hx hv
 have h2:=opds_R he hy hu
 refine .same hI (val:=.func (.func f) (x.map a.eval) (y.map a.eval)) (by simp[execOp,ho,Instr.makeFunc]) (.fn _ _ _ _ _ (by simpa using h1.1) (by simpa using h2.1) ?_ ?_)
 ·intro j v c g1 g2;exact h1.2 j v c (by simpa using g1) g2
 ·intro j v c g1 g2;exact h2.2 j v c (by simpa using g1) g2
theorem good_extract {x:Operand}{ox:Opd}{k:Nat}(ho:o.op=.extract x k)(hx:cOpd x=some ox){vs:List AV}(hv:opd env ox=some (.tup vs)){v:AV}(hk:vs[k]?=some v):Good P o a m μ G w (.val v G):=by
 obtain ⟨cs,e,hs,hr⟩:=(opd_R he hx hv).tup_inv
 have hlt:k<cs.size:=by rw[hs];exact (gE hk).1
 exact .same hI (val:=cs[k]) (by simp[execOp,ho,e,Instr.extract,Array.getElem?_eq_getElem hlt]) (hr k _ v (Array.getElem?_eq_getElem hlt) hk)
theorem good_max {args:Array Operand}{ts:Array TypeId}{x y:Operand}{ox oy:Opd}(ho:o.op=.call ⟨.builtin .max,args,ts⟩)(ha:args.toList=[x,y])(hx:cOpd x=some ox)(hy:cOpd y=some oy){k k':IntKind}{n n':Int}
  (hv:opd env ox=some (.p (.i k n))) (hu:opd env oy=some (.p (.i k' n'))):Good P o a m μ G w (.val (.p (.i k (maxI n n'))) G):=by
 have h1:=(opd_R he hx hv).int_inv
 have h2:=(opd_R he hy hu).int_inv
 have ha':args=#[x,y]:=by apply Array.ext';simpa using ha
 refine .same hI (val:=.int k (maxI n n')) ?_ (.int _ _)
 simp[execOp,ho,ha',resolve,invoke,builtin,h1,h2,Builtin.max_,Builtin.max2,maxI]
theorem good_min {args:Array Operand}{ts:Array TypeId}{x y:Operand}{ox oy:Opd}(ho:o.op=.call ⟨.builtin .min,args,ts⟩)(ha:args.toList=[x,y])(hx:cOpd x=some ox)(hy:cOpd y=some oy){k k':IntKind}{n n':Int}
  (hv:opd env ox=some (.p (.i k n))) (hu:opd env oy=some (.p (.i k' n'))):Good P o a m μ G w (.val (.p (.i k (minI n n'))) G):=by
 have h1:=(opd_R he hx hv).int_inv
 have h2:=(opd_R he hy hu).int_inv
 have ha':args=#[x,y]:=by apply Array.ext';simpa using ha
 refine .same hI (val:=.int k (minI n n')) ?_ (.int _ _)
 simp[execOp,ho,ha',resolve,invoke,builtin,h1,h2,Builtin.min_,Builtin.min2,minI]
end
theorem okRow_len {sz:Nat}{r:List PV}(h:okRow sz r=true):r.length=sz:=by
 simp[okRow]at h;exact h.1
theorem okRow_flat {sz:Nat}{r:List PV}(h:okRow sz r=true):∀ c∈r,c.flat=true:=by
 simp[okRow]at h;exact h.2
theorem okRows_at {sz:Nat}{rows:List (List PV)}(h:okRows sz rows=true){i:Nat}{r:List PV}(hr:rows[i]?=some r):okRow sz r=true:=by
 simp only[okRows,List.all_eq_true]at h
 exact h r (List.mem_of_getElem? hr)
theorem cAgg_row {P:Program}{t:TypeId}(h:cAgg P t=some true):∃ d,P.underlying t=some d∧d.isRow=true:=by
 unfold cAgg at h
 split at h
 ·rename_i fs hd;exact ⟨_,hd,rfl⟩
 ·rename_i n e hd;exact ⟨_,hd,rfl⟩
 ·cases h
 ·cases h
theorem cAgg_cell {P:Program}{t:TypeId}(h:cAgg P t=some false)(w:World):(isAgg t).run P w=.ok false w:=by
 unfold cAgg at h
 split at h
 ·cases h
 ·cases h
 ·rename_i d hs ha hd
  simp only[isAgg,Sem.run_bind,run_underlying hd,Result.andThen_ok]
  cases d<;>first|rfl|exact absurd rfl (hs _)|exact absurd rfl (ha _ _)
 ·cases h
theorem cAgg_agg {P:Program}{t:TypeId}(h:cAgg P t=some true)(w:World):(isAgg t).run P w=.ok true w:=by
 obtain ⟨d,hd,hr⟩:=cAgg_row h
 simp only[isAgg,Sem.run_bind,run_underlying hd,Result.andThen_ok]
 cases d<;>first|rfl|simp at hr
theorem cSize_run {P:Program}{t:TypeId}{n:Nat}(h:cSize P t=some n)(w:World):(sizeOf t).run P w=.ok n w:=by
 unfold cSize at h
 cases hq:P.info? t with
 |none=>simp[hq]at h
 |some i=>simp[hq]at h;simp[sizeOf,typeInfo,hq,h]
section
variable {P:Program}{o:Oper}{a:Act}{m:Mem}{μ:Mu}{G:Heap}{w:World}
theorem box_cell {loc:Loc}{cs:Array Value}{T:TypeId}(h:w.heap[loc.blk]?=some (.cells cs T (0,0)))(off:Nat):w.cell? ⟨loc.blk,off,none⟩=cs[off]?:=by
 simp[World.cell?,h]
theorem load_agg {t:TypeId}{n b off:Nat}{vs:List Value}(hn:cSize P t=some n)(hg:cAgg P t=some true)(hl:vs.length=n)(hc:w.rangeAt b off vs) :
  (Instr.loadAt t (.pointer (some ⟨b,off,none⟩))).run P w=.ok (.agg vs.toArray) w:=by
 obtain ⟨d,hd,hr⟩:=cAgg_row hg
 exact run_loadAt_mid w b off t vs d hc hd hr (by unfold cSize at hn;rw[hn,hl])
theorem load_cell {t:TypeId}{b off:Nat}{v:Value}(hg:cAgg P t=some false)(hc:w.cell? ⟨b,off,none⟩=some v) :
  (Instr.loadAt t (.pointer (some ⟨b,off,none⟩))).run P w=.ok v w:=by
 simp[Instr.loadAt,Instr.sureAddr,loadVar,cAgg_cell hg,hc]
theorem loadAt_R {t:TypeId}{n:Nat}{ag:Bool}(hI:Inv m μ G w)(hn:cSize P t=some n)(hg:cAgg P t=some ag){v:Value}{x y:AV}(hr:R m μ (inf G) v x)(he:evLoad n ag G x=some y) :
  ∃ val,(Instr.loadAt t v).run P w=.ok val w∧R m μ (inf G) val y:=by
 cases x with
 |ptr id off =>
  cases hr with|ptr _ _ loc h1 h2 =>
  simp only[evLoad]at he
  split at he
  ·rename_i cs hG
   obtain ⟨cv,T,hh,hs,hc,hf,hm⟩:=hI.obj id _ hG loc h1
   cases ag with
   |true =>
    simp only[if_true]at he
    split at he
    ·rename_i hle
     cases he
     have hlen:((cv.toList.drop off).take n).length=n:=by simp;omega
     refine ⟨_,load_agg hn hg hlen ?_,.ag _ _ ?_ ?_⟩
     ·intro j u hj
      rw[box_cell hh]
      simp only[List.getElem?_take,List.getElem?_drop]at hj
      split at hj
      ·simpa using hj
      ·cases hj
     ·simp;omega
     ·intro j u c g1 g2
      simp only[List.getElem?_toArray,List.getElem?_take,List.getElem?_drop]at g1 g2
      split at g1
      ·rename_i hj
       rw[if_pos hj]at g2
       exact hc (off+j) u c (by simpa using g1) g2
      ·cases g1
    ·cases he
   |false =>
    simp only[Bool.false_eq_true,if_false]at he
    have hlt:off<cv.size:=by rw[hs];exact (gE he).1
    exact ⟨_,load_cell hg (by rw[box_cell hh,Array.getElem?_eq_getElem hlt]),hc off _ _ (Array.getElem?_eq_getElem hlt) he⟩
  ·cases he
 |rp cells =>
  cases hr with|rp b oo _ f hc =>
  simp only[evLoad]at he
  cases ag with
  |true =>
   simp only[if_true]at he
   split at he
   ·rename_i hle
    cases he
    have hlen:((List.range n).map f).length=n:=by simp
    refine ⟨_,load_agg hn hg hlen ?_,.ag _ _ ?_ ?_⟩
    ·intro j u hj
     simp only[List.getElem?_map,Option.map_eq_some_iff]at hj
     obtain ⟨k,hk,rfl⟩:=hj
     obtain ⟨hk1,hk2⟩:=gE hk
     simp at hk1 hk2
     subst hk2
     exact hI.known _ _ _ (hc j cells[j] (gG (by omega))).1
    ·simp[pcs];omega
    ·intro j u c g1 g2
     simp only[List.getElem?_toArray,List.getElem?_map,Option.map_eq_some_iff]at g1
     obtain ⟨k,hk,rfl⟩:=g1
     obtain ⟨hk1,hk2⟩:=gE hk
     simp at hk1 hk2
     subst hk2
     simp only[pcs,List.getElem?_map,List.getElem?_take,hk1,if_true,Option.map_eq_some_iff]at g2
     obtain ⟨c',hc',rfl⟩:=g2
     exact .p _ _ (hc j c' hc').2
   ·cases he
  |false =>
   simp only[Bool.false_eq_true,if_false,Option.map_eq_some_iff]at he
   obtain ⟨c,h0,rfl⟩:=he
   have:=hc 0 c h0
   exact ⟨f 0,load_cell hg (hI.known _ _ _ this.1),.p _ _ this.2⟩
 |eptr id idx off gen =>
  cases hr with|eptr _ _ _ _ ad loc g sz h1 h2 h3 h4 =>
  simp only[evLoad]at he
  split at he
  ·rename_i sz' rows g' sl hG
   have hinf:inf G id=some (some (g',sz')):=by simp[inf,hG,infO]
   rw[hinf]at h2
   cases h2
   obtain ⟨cv,T,hh,hs,hrl,h1s,hok,hc,hm⟩:=hI.obj id _ hG loc h1
   split at he
   ·rename_i hgen
    subst hgen
    rw[h4 rfl]
    split at he
    ·rename_i row hrow
     have hokr:=okRows_at hok hrow
     cases ag with
     |true =>
      simp only[if_true]at he
      split at he
      ·rename_i hle
       cases he
       have hc':∀ j,j<n→∃ v,cv[idx * sz+(off+j)]?=some v∧∃ c,row[off+j]?=some c∧RP m v c:=fun j hj=>by
        obtain ⟨v,h1,h2⟩:=hc idx (off+j) row row[off+j] hrow (gG (by omega))
        exact ⟨v,h1,_,gG (by omega),h2⟩
       have hsz:idx * sz+off+n≤cv.size:=by
        have hr1:=okRow_len hokr
        have hi1:idx<rows.length:=(gE hrow).1
        have:idx * sz+sz≤loc.cap * sz:=by
         rw[← Nat.succ_mul];exact Nat.mul_le_mul_right _ (by omega)
        omega
       have hlen:((cv.toList.drop (idx * sz+off)).take n).length=n:=by simp;omega
       refine ⟨_,load_agg hn hg hlen ?_,.ag _ _ ?_ ?_⟩
       ·intro j u hj
        rw[box_cell hh]
        simp only[List.getElem?_take,List.getElem?_drop]at hj
        split at hj
        ·simpa using hj
        ·cases hj
       ·simp[pcs];omega
       ·intro j u c g1 g2
        simp only[List.getElem?_toArray,List.getElem?_take,List.getElem?_drop]at g1
        split at g1
        ·rename_i hj
         obtain ⟨v,k1,c',k2,k3⟩:=hc' j hj
         simp only[pcs,List.getElem?_map,List.getElem?_take,hj,if_true,List.getElem?_drop,k2,Option.map_some,Option.some.injEq]at g2
         subst g2
         rw[Nat.add_assoc]at g1
         have:some u=some v:=by rw[← k1,← g1];simp
         cases this
         exact .p _ _ k3
        ·cases g1
      ·cases he
     |false =>
      simp only[Bool.false_eq_true,if_false,Option.map_eq_some_iff]at he
      obtain ⟨c,h0,rfl⟩:=he
      obtain ⟨v,k1,k2⟩:=hc idx off row c hrow h0
      exact ⟨v,load_cell hg (by rw[box_cell hh];exact k1),.p _ _ k2⟩
    ·cases he
   ·cases he
  ·cases he
 |_=>simp[evLoad]at he
variable {N:Nat}{env:Env}(hI:Inv m μ G w)(he:EnvR m μ (inf G) N env a)
include hI he
theorem good_load {x:Operand}{ox:Opd}{t:TypeId}{n:Nat}{ag:Bool}(ho:o.op=.load t x)(hn:cSize P t=some n)(hg:cAgg P t=some ag)(hx:cOpd x=some ox){v y:AV}(hv:opd env ox=some v)(hl:evLoad n ag G v=some y):Good P o a m μ G w (.val y G):=by
 obtain ⟨val,h1,h2⟩:=loadAt_R hI hn hg (opd_R he hx hv) hl
 exact .same hI (by simp[execOp,ho,h1]) h2
theorem good_faddr {x:Operand}{ox:Opd}{t:TypeId}{k:Nat}{fs:Array Field}{f:Field}{n:Nat}(ho:o.op=.fieldAddr t x k)(ht:P.underlying t=some (.struct fs))(hf:fs[k]?=some f)(hn:cSize P f.type=some n)(hn0:n≠0)(hx:cOpd x=some ox){v:AV}(hv:opd env ox=some v)
  {y:AV} (hy:(∃ id off,v=.ptr id off∧y=.ptr id (off+f.offset))∨(∃ id idx off gen,v=.eptr id idx off gen∧y=.eptr id idx (off+f.offset) gen)∨(∃ cs,v=.rp cs∧y=.rp (cs.drop f.offset))):Good P o a m μ G w (.val y G):=by
 have hr:=opd_R he hx hv
 have hrun:∀ ad,a.eval x=.pointer (some ad)→(execOp a.eval o).run P w=.ok (.value (.pointer (some (ad.add f.offset)))) w:=by
  intro ad e
  simp[execOp,ho,Instr.fieldAt,run_underlying ht,hf,e,Instr.sureAddr,fieldPlace,cSize_run hn,hn0]
 rcases hy with ⟨id,off,rfl,rfl⟩|⟨id,idx,off,gen,rfl,rfl⟩|⟨cs,rfl,rfl⟩
 ·generalize hz:a.eval x=z at hr
  cases hr with|ptr _ _ loc h1 h2 =>
  exact .same hI (hrun _ hz) (by rw[Addr.add_mid];exact .ptr _ _ _ h1 h2)
 ·generalize hz:a.eval x=z at hr
  cases hr with|eptr _ _ _ _ ad loc g sz h1 h2 h3 h4 =>
  exact .same hI (hrun _ hz) (.eptr _ _ _ _ _ loc g sz h1 h2 h3 (fun e=>by rw[h4 e,Addr.add_mid];simp[Nat.add_assoc]))
 ·generalize hz:a.eval x=z at hr
  cases hr with|rp b oo _ g hc =>
  refine .same hI (hrun _ hz) ?_
  rw[Addr.add_mid]
  exact .rp _ _ _ (fun j=>g (f.offset+j)) (fun j c hj=>by
   have:=hc (f.offset+j) c (by simpa using hj)
   rw[Nat.add_assoc]
   exact this)
theorem good_iaddrA {x y:Operand}{ox oy:Opd}{t e:TypeId}{n sz:Nat}(ho:o.op=.indexAddr t x y)(ht:P.underlying t=some (.array n e))(hn:cSize P e=some sz)(hx:cOpd x=some ox)(hy:cOpd y=some oy){v:AV}(hv:opd env ox=some v)
  {k:IntKind} {i:Int} (hi:opd env oy=some (.p (.i k i))) (h0:0≤i) (h1:i<n)
  {r:AV} (hr:(∃ id off,v=.ptr id off∧r=.ptr id (off+i.toNat * sz))∨(∃ cs,v=.rp cs∧r=.rp (cs.drop (i.toNat * sz)))):Good P o a m μ G w (.val r G):=by
 have hrv:=opd_R he hx hv
 have hri:=(opd_R he hy hi).int_inv
 have hrun:∀ ad,a.eval x=.pointer (some ad)→(execOp a.eval o).run P w=.ok (.value (.pointer (some (ad.add (i.toNat * sz))))) w:=by
  intro ad e
  simp[execOp,ho,Instr.indexAt,asIntOf,hri,run_underlying ht,e,Instr.sureAddr,cSize_run hn,h0,h1]
 rcases hr with ⟨id,off,rfl,rfl⟩|⟨cs,rfl,rfl⟩
 ·generalize hz:a.eval x=z at hrv
  cases hrv with|ptr _ _ loc h1 h2 =>
  exact .same hI (hrun _ hz) (by rw[Addr.add_mid];exact .ptr _ _ _ h1 h2)
 ·generalize hz:a.eval x=z at hrv
  cases hrv with|rp b oo _ g hc =>
  refine .same hI (hrun _ hz) ?_
  rw[Addr.add_mid]
  exact .rp _ _ _ (fun j=>g (i.toNat * sz+j)) (fun j c hj=>by
   have:=hc (i.toNat * sz+j) c (by simpa using hj)
   rw[Nat.add_assoc]
   exact this)
theorem good_iaddrP {x y:Operand}{ox oy:Opd}{t e:TypeId}{sz:Nat}(ho:o.op=.indexAddr t x y)(ht:P.underlying t=some (.slice e))(hn:cSize P e=some sz)(hx:cOpd x=some ox)(hy:cOpd y=some oy){rows:List (List PV)}(hv:opd env ox=some (.p (.sl rows)))
  {k:IntKind} {i:Int} (hi:opd env oy=some (.p (.i k i))) (h0:0≤i) {row:List PV} (hrow:rows[i.toNat]?=some row) (hok:okRow sz row=true):Good P o a m μ G w (.val (.rp row) G):=by
 have hrv:=opd_R he hx hv
 have hri:=(opd_R he hy hi).int_inv
 generalize hz:a.eval x=z at hrv
 cases hrv with|p _ _ hp =>
 cases hp with|sl ad cap _ sz' f hcap hs ha hf =>
 have hlt:i.toNat<rows.length:=(gE hrow).1
 have hlt':i<(rows.length:Int):=by omega
 have hne:rows≠[]:=by intro e;subst e;simp at hlt
 obtain ⟨b,oo,rfl,hm⟩:=ha hne
 have hsz:sz'=sz:=by rw[← okRow_len hok,okRow_len (okRows_at hs hrow)]
 subst hsz
 refine .same hI (val:=.pointer (some ⟨b,oo+i.toNat * sz',none⟩)) ?_ (.rp _ _ _ (fun j=>f i.toNat j) fun j c hj=>⟨hm _ _ _ _ hrow hj,hf _ _ _ _ hrow hj⟩)
 have:((if 0≤i∧i<(rows.length:Int) then (1:Nat) else 0)=1):=by simp[h0,hlt']
 simp[execOp,ho,Instr.indexAt,asIntOf,hri,run_underlying ht,hz,cSize_run hn,h0,hlt',Addr.add_mid]
theorem good_iaddrR {x y:Operand}{ox oy:Opd}{t e:TypeId}{sz:Nat}(ho:o.op=.indexAddr t x y)(ht:P.underlying t=some (.slice e))(hn:cSize P e=some sz)(hx:cOpd x=some ox)(hy:cOpd y=some oy){id len gen:Nat}(hv:opd env ox=some (.arr id len gen))
  {k:IntKind} {i:Int} (hi:opd env oy=some (.p (.i k i))) (h0:0≤i) (h1:i<len) {rows:List (List PV)} {sl:Nat} (hG:G[id]?=some (.arr sz rows gen sl)):Good P o a m μ G w (.val (.eptr id i.toNat 0 gen) G):=by
 have hrv:=opd_R he hx hv
 have hri:=(opd_R he hy hi).int_inv
 generalize hz:a.eval x=z at hrv
 cases hrv with|arr _ _ _ ad n c loc g sz' g1 g2 g3 g4 =>
 have hinf:inf G id=some (some (gen,sz)):=by simp[inf,hG,infO]
 rw[hinf]at g2
 cases g2
 obtain ⟨rfl,rfl,rfl⟩:=g4 rfl
 refine .same hI (val:=.pointer (some ⟨loc.blk,i.toNat * sz,none⟩)) ?_ (.eptr _ _ _ _ _ loc gen sz g1 hinf (Nat.le_refl _) (fun _=>by simp))
 simp[execOp,ho,Instr.indexAt,asIntOf,hri,run_underlying ht,hz,cSize_run hn,h0,h1,Addr.add_mid]
end
theorem bytes_toList (l:List UInt8):(⟨l.toArray⟩:ByteArray).toList=l:=by rw[ByteArray.toList_eq]
theorem bytes_size (l:List UInt8):(⟨l.toArray⟩:ByteArray).size=l.length:=by simp[ByteArray.size]
theorem bytes_get (l:List UInt8)(k:Nat):(⟨l.toArray⟩:ByteArray)[k]?=l[k]?:=by
 by_cases h:k<l.length
 ·have h':k<(⟨l.toArray⟩:ByteArray).size:=by rw[bytes_size];exact h
  rw[gG h]
  simp only[getElem?_pos,h',ByteArray.getElem_eq_getElem_data]
  simp
 ·have h':¬ k<(⟨l.toArray⟩:ByteArray).size:=by rw[bytes_size];exact h
  simp only[getElem?_neg,h',not_false_eq_true]
  simp at h
  exact (List.getElem?_eq_none h).symm
theorem bytes_append (l l':List UInt8):(⟨l.toArray⟩:ByteArray)++⟨l'.toArray⟩=⟨(l++l').toArray⟩:=by
 apply ByteArray.ext
 rw[ByteArray.data_append]
 simp
theorem bytes_extract (l:List UInt8)(a b:Nat):(⟨l.toArray⟩:ByteArray).extract a b=⟨((l.take b).drop a).toArray⟩:=by
 apply ByteArray.ext
 rw[ByteArray.data_extract]
 simp[List.extract_eq_take_drop,List.drop_take]
section
variable {P:Program}{o:Oper}{a:Act}{m:Mem}{μ:Mu}{G:Heap}{w:World}
theorem part_R {t:TypeId}{n:Nat}{ag:Bool}(hn:cSize P t=some n)(hg:cAgg P t=some ag){i:Inf}{cs:Array Value}{l:List AV}(hs:cs.size=l.length)
  (hr:∀ (j:Nat) (v:Value) (c:AV),cs[j]?=some v→l[j]?=some c→R m μ i v c) {off:Nat} {y:AV}
  (hy:(if ag=true then (if off+n≤l.length then some (AV.ag ((l.drop off).take n)) else none) else l[off]?)=some y) :
  ∃ v,(part t cs off).run P w=.ok v w∧R m μ i v y:=by
 cases ag with
 |true =>
  simp only[if_true]at hy
  split at hy
  ·rename_i hle
   cases hy
   refine ⟨.agg (cs.extract off (off+n)),by simp[part,cAgg_agg hg,cSize_run hn],.ag _ _ ?_ ?_⟩
   ·simp;omega
   ·intro j v c h1 h2
    simp only[Array.getElem?_extract]at h1
    simp only[List.getElem?_take,List.getElem?_drop]at h2
    split at h2
    ·split at h1
     ·exact hr (off+j) v c h1 h2
     ·cases h1
    ·cases h2
  ·cases hy
 |false =>
  simp only[Bool.false_eq_true,if_false]at hy
  have hlt:off<cs.size:=by rw[hs];exact (gE hy).1
  exact ⟨cs[off],by simp[part,cAgg_cell hg,Array.getElem?_eq_getElem hlt],hr off _ _ (Array.getElem?_eq_getElem hlt) hy⟩
variable {N:Nat}{env:Env}(hI:Inv m μ G w)(he:EnvR m μ (inf G) N env a)
include hI he
theorem good_field {x:Operand}{ox:Opd}{t:TypeId}{k:Nat}{fs:Array Field}{f:Field}{n:Nat}{ag:Bool}(ho:o.op=.field t x k)(ht:P.underlying t=some (.struct fs))(hf:fs[k]?=some f)(hn:cSize P f.type=some n)(hg:cAgg P f.type=some ag)(hx:cOpd x=some ox){l:List AV}(hv:opd env ox=some (.ag l)){y:AV}
  (hy:(if ag=true then (if f.offset+n≤l.length then some (AV.ag ((l.drop f.offset).take n)) else none) else l[f.offset]?)=some y):Good P o a m μ G w (.val y G):=by
 obtain ⟨cs,e,hs,hr⟩:=(opd_R he hx hv).ag_inv
 obtain ⟨v,h1,h2⟩:=part_R (w:=w) hn hg hs hr hy
 exact .same hI (by simp[execOp,ho,Instr.field,run_underlying ht,hf,e,asAgg,h1]) h2
theorem good_indexA {x y:Operand}{ox oy:Opd}{t e:TypeId}{len n:Nat}{ag:Bool}(ho:o.op=.index t x y)(ht:P.underlying t=some (.array len e))(hn:cSize P e=some n)(hg:cAgg P e=some ag)(hx:cOpd x=some ox)(hy:cOpd y=some oy){l:List AV}(hv:opd env ox=some (.ag l))
  {k:IntKind} {i:Int} (hi:opd env oy=some (.p (.i k i))) (h0:0≤i) (h1:i<len) {r:AV}
  (hr:(if ag=true then (if i.toNat * n+n≤l.length then some (AV.ag ((l.drop (i.toNat * n)).take n)) else none) else l[i.toNat * n]?)=some r):Good P o a m μ G w (.val r G):=by
 obtain ⟨cs,ec,hs,hrr⟩:=(opd_R he hx hv).ag_inv
 have hri:=(opd_R he hy hi).int_inv
 obtain ⟨v,g1,g2⟩:=part_R (w:=w) hn hg hs hrr hr
 exact .same hI (by simp[execOp,ho,Instr.index,asIntOf,hri,run_underlying ht,ec,cSize_run hn,h0,h1,g1]) g2
theorem good_indexS {x y:Operand}{ox oy:Opd}{t:TypeId}(ho:o.op=.index t x y)(ht:P.underlying t=some .string)(hx:cOpd x=some ox)(hy:cOpd y=some oy){l:List UInt8}(hv:opd env ox=some (.p (.s l)))
  {k:IntKind} {i:Int} (hi:opd env oy=some (.p (.i k i))) (h0:0≤i) {c:UInt8} (hc:l[i.toNat]?=some c):Good P o a m μ G w (.val (.p (.i .u8 c.toNat)) G):=by
 have hrv:=(opd_R he hx hv).str_inv
 have hri:=(opd_R he hy hi).int_inv
 exact .same hI (by simp[execOp,ho,Instr.index,asIntOf,hri,run_underlying ht,hrv,h0,bytes_get,hc]) (.int _ _)
theorem good_len {args:Array Operand}{ts:Array TypeId}{x:Operand}{ox:Opd}{t:TypeId}{d:TypeDesc}{str:Bool}(ho:o.op=.call ⟨.builtin .len,args,ts⟩)(ha:args.toList=[x])(ht:ts[0]?=some t)(hd:P.underlying t=some d)(hdd:if str=true then d=.string else ∃ e,d=.slice e)(hx:cOpd x=some ox){v:AV}(hv:opd env ox=some v){n:Int}(hn:evLen str G v=some n):Good P o a m μ G w (.val (.p (.i .i64 n)) G):=by
 have ha':args=#[x]:=by apply Array.ext';simpa using ha
 have hr:=opd_R he hx hv
 generalize hz:a.eval x=z at hr
 have key:(Builtin.len_ ts o.type #[z]).run P w=.ok (.int .i64 n) w→Good P o a m μ G w (.val (.p (.i .i64 n)) G):=fun h =>
  .same hI (by simp[execOp,ho,ha',resolve,invoke,builtin,hz,h]) (.int _ _)
 apply key
 cases str with
 |true =>
  simp only[if_true]at hdd
  subst hdd
  cases v with
  |p x =>
   cases x with
   |s l =>
    simp[evLen]at hn
    subst hn
    have:=hr.str_inv
    subst this
    simp[Builtin.len_,ht,run_underlying hd,goInt,bytes_size]
   |_=>simp[evLen]at hn
  |_=>simp[evLen]at hn
 |false =>
  simp only[Bool.false_eq_true,if_false]at hdd
  obtain ⟨e,rfl⟩:=hdd
  cases v with
  |p x =>
   cases x with
   |sl rows =>
    simp[evLen]at hn
    subst hn
    cases hr with|p _ _ hp =>
    cases hp
    simp[Builtin.len_,ht,run_underlying hd,goInt]
   |_=>simp[evLen]at hn
  |nils =>
   simp[evLen]at hn
   subst hn
   cases hr
   simp[Builtin.len_,ht,run_underlying hd,goInt]
  |arr id len gen =>
   simp only[evLen,Bool.false_eq_true,if_false]at hn
   split at hn
   ·rename_i sz rows g sl hG
    split at hn
    ·rename_i hg
     subst hg
     cases hn
     cases hr with|arr _ _ _ ad n c loc g' sz' g1 g2 g3 g4 =>
     have hinf:inf G id=some (some (g,sz)):=by simp[inf,hG,infO]
     rw[hinf]at g2
     cases g2
     obtain ⟨rfl,rfl,rfl⟩:=g4 rfl
     simp[Builtin.len_,ht,run_underlying hd,goInt]
    ·cases hn
   ·cases hn
  |_=>simp[evLen]at hn
end
section
variable {m:Mem}{μ:Mu}{G:Heap}{w:World}
theorem Inv.fresh (hI:Inv m μ G w){b:Nat}(hb:w.heap.size≤b)(o:Nat):m b o=none:=by
 cases h:m b o with
 |none=>rfl
 |some v =>
  have:=hI.known b o v h
  have:=World.block_lt_of_cell? w _ this
  simp at this
  omega
theorem Inv.lt (hI:Inv m μ G w){id:Nat}{loc:Loc}(h:μ id=some loc):loc.blk<w.heap.size:=by
 have hd:=hI.dom id loc h
 have ho:=hI.obj id _ (gG hd) loc h
 have:∃ cs T,w.heap[loc.blk]?=some (.cells cs T (0,0)):=by
  revert ho
  cases G[id] with
  |box c=>rintro ⟨cs,T,h,_⟩;exact ⟨cs,T,h⟩
  |arr sz rows g sl=>rintro ⟨cs,T,h,_⟩;exact ⟨cs,T,h⟩
 obtain ⟨cs,T,h⟩:=this
 exact (Array.getElem?_eq_some_iff.1 h).1
theorem ObjR.move {m':Mem}{μ':Mu}{G':Heap}{w':World}{loc:Loc}{ob:AObj}(h:ObjR m μ (inf G) w loc ob)(e:Ext m μ G m' μ' G')
  (hw:w'.heap[loc.blk]?=w.heap[loc.blk]?) (hm:∀ o,m loc.blk o=none→m' loc.blk o=none):ObjR m' μ' (inf G') w' loc ob:=by
 cases ob with
 |box cells =>
  obtain ⟨cs,T,h1,h2,h3,h4,h5⟩:=h
  exact ⟨cs,T,by rw[hw];exact h1,h2,fun j v a g1 g2=>(h3 j v a g1 g2).mono e,h4,fun o=>hm o (h5 o)⟩
 |arr sz rows g sl =>
  obtain ⟨cs,T,h1,h2,h3,h4,h5,h6,h7⟩:=h
  exact ⟨cs,T,by rw[hw];exact h1,h2,h3,h4,h5,fun i j r c g1 g2=>let ⟨v,k1,k2⟩:=h6 i j r c g1 g2;⟨v,k1,k2.mono e.mem⟩,fun o ho=>hm o (h7 o ho)⟩
theorem inf_app (G:Heap)(ob:AObj)(id:Nat)(h:id<G.length):inf (G++[ob]) id=inf G id:=by
 simp[inf,List.getElem?_append_left h]
theorem inf_last (G:Heap)(ob:AObj):inf (G++[ob]) G.length=some (infO ob):=by simp[inf]
theorem inf_set (G:Heap)(ob:AObj)(id k:Nat)(h:k≠id):inf (G.set id ob) k=inf G k:=by
 simp[inf,List.getElem?_set,Ne.symm h]
theorem inf_set_same (G:Heap)(ob:AObj)(id:Nat)(h:id<G.length):inf (G.set id ob) id=some (infO ob):=by
 simp[inf,h]
theorem alloc_step (hI:Inv m μ G w)(ob:AObj)(cs:Array Value)(T:TypeId)(cap:Nat)
  (μ':Mu) (hμ:μ'=fun id=>if id=G.length then some ⟨w.heap.size,cap⟩ else μ id) (w':World) (hw:w'={ w with heap:=w.heap.push (.cells cs T (0,0)) })
  (hob:Ext m μ G m μ' (G++[ob])→ObjR m μ' (inf (G++[ob])) w' ⟨w.heap.size,cap⟩ ob) :
  Inv m μ' (G++[ob]) w'∧Stp m μ G w m μ' (G++[ob]) w':=by
 have hne:∀ id loc,μ id=some loc→id≠G.length:=fun id loc h=>Nat.ne_of_lt (hI.dom id loc h)
 have hμo:∀ id loc,μ id=some loc→μ' id=some loc:=fun id loc h=>by rw[hμ];simp[hne id loc h,h]
 have hext:Ext m μ G m μ' (G++[ob]) :=
  ⟨fun _ _ _ h=>h,fun id loc h h'=>⟨hμo id loc h,by rw[inf_app _ _ _ (hI.dom id loc h)];exact h'⟩,
   fun id loc g sz h h'=>⟨loc,g,hμo id loc h,by rw[inf_app _ _ _ (hI.dom id loc h)];exact h',Nat.le_refl _,fun _=>rfl⟩⟩
 have hblk:∀ b,b<w.heap.size→w'.heap[b]?=w.heap[b]?:=fun b hb=>by rw[hw];simp[Array.getElem?_push,Nat.ne_of_lt hb]
 have hinv:∀ id loc,μ' id=some loc→(id=G.length∧loc=⟨w.heap.size,cap⟩)∨μ id=some loc:=fun id loc h=>by
  rw[hμ]at h
  dsimp only at h
  split at h
  ·cases h;exact .inl ⟨by assumption,rfl⟩
  ·exact .inr h
 refine ⟨⟨?_,?_,?_,?_⟩,⟨hext,⟨by rw[hw],by rw[hw],by rw[hw],by rw[hw];simp,fun b hb _=>hblk b hb,fun _ _ _ h=>.inl h,?_⟩,?_⟩⟩
 ·intro b o v h
  have h1:=hI.known b o v h
  have h2:=World.block_lt_of_cell? w _ h1
  simp at h2
  unfold World.cell? at h1 ⊢
  dsimp only at h1 ⊢
  rw[hblk b h2]
  exact h1
 ·intro i j l l' h1 h2 e
  rcases hinv i l h1 with ⟨rfl,rfl⟩|h1'<;>rcases hinv j l' h2 with ⟨rfl,rfl⟩|h2'
  ·rfl
  ·have:=hI.lt h2';simp at e;omega
  ·have:=hI.lt h1';simp at e;omega
  ·exact hI.inj i j l l' h1' h2' e
 ·intro id o ho loc hl
  rcases hinv id loc hl with ⟨rfl,rfl⟩|hl'
  ·simp at ho
   subst ho
   exact hob hext
  ·have hd:=hI.dom id loc hl'
   rw[List.getElem?_append_left hd]at ho
   exact (hI.obj id o ho loc hl').move hext (hblk _ (hI.lt hl')) (fun _ h=>h)
 ·intro id loc h
  rcases hinv id loc h with ⟨rfl,rfl⟩|h'
  ·simp
  ·have:=hI.dom id loc h';simp;omega
 ·intro id loc h
  rcases hinv id loc h with ⟨rfl,rfl⟩|h'
  ·exact .inl (Nat.le_refl _)
  ·exact .inr ⟨id,loc,h',rfl⟩
 ·refine ⟨fun id hid ht=>?_,fun id hid hn=>⟨?_,?_⟩⟩
  ·simp at hid
   rw[hμ]
   by_cases e:id=G.length
   ·exact ⟨_,by simp[e];rfl⟩
   ·simp only[e,if_false];exact ht (by omega)
  ·rw[hμ]
   have:id≠G.length:=by omega
   simp[this,hn]
  ·rw[List.getElem?_append_left hid]
theorem set_step (hI:Inv m μ G w){id:Nat}{old new:AObj}{loc:Loc}(hG:G[id]?=some old)(hl:μ id=some loc){w':World}{cs:Array Value}{T:TypeId}
  (hos:w'.os=w.os) (htape:w'.tape=w.tape) (hout:w'.output=w.output) (hsz:w'.heap.size=w.heap.size)
  (hblk:∀ b,b≠loc.blk→w'.heap[b]?=w.heap[b]?)
  (hkn:∀ o v,m loc.blk o=some v→w'.cell? ⟨loc.blk,o,none⟩=some v)
  (hbox:infO old=none→infO new=none) (harr:∀ g sz,infO old=some (g,sz)→∃ g',infO new=some (g',sz)∧g≤g')
  (hob:Ext m μ G m μ (G.set id new)→ObjR m μ (inf (G.set id new)) w' loc new) :
  Inv m μ (G.set id new) w'∧Stp m μ G w m μ (G.set id new) w':=by
 have hid:id<G.length:=(gE hG).1
 have hold:inf G id=some (infO old):=by simp[inf,hG]
 have hext:Ext m μ G m μ (G.set id new):=by
  refine ⟨fun _ _ _ h=>h,fun k l h h'=>⟨h,?_⟩,fun k l g sz h h'=>?_⟩
  ·by_cases e:k=id
   ·subst e
    rw[hold]at h'
    rw[inf_set_same _ _ _ hid,hbox (by simpa using h')]
   ·rw[inf_set _ _ _ _ e];exact h'
  ·by_cases e:k=id
   ·subst e
    rw[hold]at h'
    obtain ⟨g',h1,h2⟩:=harr g sz (by simpa using h')
    exact ⟨l,g',h,by rw[inf_set_same _ _ _ hid,h1],h2,fun _=>rfl⟩
   ·exact ⟨l,g,h,by rw[inf_set _ _ _ _ e];exact h',Nat.le_refl _,fun _=>rfl⟩
 refine ⟨⟨?_,hI.inj,?_,fun k l h=>by simpa using hI.dom k l h⟩,⟨hext,⟨hos,htape,hout,by omega,fun b hb hn=>hblk b (fun e=>hn id loc hl e.symm),fun _ _ _ h=>.inl h,fun k l h=>.inr ⟨k,l,h,rfl⟩⟩,⟨fun k hk ht=>ht (by simpa using hk),fun k hk hn=>⟨hn,by rw[List.getElem?_set,if_neg];rintro rfl;rw[hl]at hn;cases hn⟩⟩⟩⟩
 ·intro b o v h
  by_cases e:b=loc.blk
  ·subst e;exact hkn o v h
  ·have:=hI.known b o v h
   unfold World.cell? at this ⊢
   dsimp only at this ⊢
   rw[hblk b e]
   exact this
 ·intro k ob hk l h
  by_cases e:k=id
  ·subst e
   rw[hl]at h
   cases h
   simp[hid]at hk
   subst hk
   exact hob hext
  ·rw[List.getElem?_set,if_neg (Ne.symm e)]at hk
   exact (hI.obj k ob hk l h).move hext (hblk _ (fun e'=>e (hI.inj _ _ _ _ h hl e'))) (fun _ h=>h)
theorem seal_step (hI:Inv m μ G w){id:Nat}{sz g sl len:Nat}{rows:List (List PV)}{loc:Loc}(hG:G[id]?=some (.arr sz rows g sl))(hl:μ id=some loc)(hlen:len≤rows.length) :
  ∃ m',Inv m' μ (G.set id (.arr sz rows g (Nat.max sl len))) w∧Stp m μ G w m' μ (G.set id (.arr sz rows g (Nat.max sl len))) w ∧
   ∃ cs:Array Value,w.heap[loc.blk]?=some (.cells cs ((w.shape? loc.blk).map (·.1) |>.getD 0) (0,0))∧∀ o,o<len * sz→∃ v,cs[o]?=some v∧m' loc.blk o=some v:=by
 obtain ⟨cs,T,h1,h2,h3,h4,h5,h6,h7⟩:=hI.obj id _ hG loc hl
 have hid:id<G.length:=(gE hG).1
 let m':Mem:=fun b o=>if b=loc.blk∧o<len * sz then cs[o]? else m b o
 have hcell:∀ o,w.cell? ⟨loc.blk,o,none⟩=cs[o]?:=fun o=>by simp[World.cell?,h1]
 have hmem:∀ b o v,m b o=some v→m' b o=some v:=by
  intro b o v h
  show (if b=loc.blk∧o<len * sz then cs[o]? else m b o)=some v
  split
  ·rename_i e
   rw[← hcell,← e.1]
   exact hI.known b o v h
  ·exact h
 have hin:∀ k,inf (G.set id (.arr sz rows g (Nat.max sl len))) k=inf G k:=by
  intro k
  by_cases e:k=id
  ·subst e;rw[inf_set_same _ _ _ hid];simp[inf,hG,infO]
  ·exact inf_set _ _ _ _ e
 have hext:Ext m μ G m' μ (G.set id (.arr sz rows g (Nat.max sl len))) :=
  ⟨hmem,fun k l h h'=>⟨h,by rw[hin];exact h'⟩,fun k l g' sz' h h'=>⟨l,g',h,by rw[hin];exact h',Nat.le_refl _,fun _=>rfl⟩⟩
 have hsz:len * sz≤cs.size:=by rw[h2];exact Nat.mul_le_mul_right _ (by omega)
 refine ⟨m',⟨?_,hI.inj,?_,fun k l h=>by simpa using hI.dom k l h⟩,⟨hext,⟨rfl,rfl,rfl,Nat.le_refl _,fun _ _ _=>rfl,?_,fun k l h=>.inr ⟨k,l,h,rfl⟩⟩,⟨fun k hk ht=>ht (by simpa using hk),fun k hk hn=>⟨hn,by rw[List.getElem?_set,if_neg];rintro rfl;rw[hl]at hn;cases hn⟩⟩⟩,cs,?_,?_⟩
 ·intro b o v h
  change (if b=loc.blk∧o<len * sz then cs[o]? else m b o)=some v at h
  split at h
  ·rename_i e
   rw[e.1,hcell];exact h
  ·exact hI.known b o v h
 ·intro k ob hk l h
  by_cases e:k=id
  ·subst e
   rw[hl]at h
   cases h
   simp[hid]at hk
   subst hk
   refine ⟨cs,T,h1,h2,h3,h4,h5,fun i j r c g1 g2=>let ⟨v,k1,k2⟩:=h6 i j r c g1 g2;⟨v,k1,k2.mono hmem⟩,fun o ho=>?_⟩
   show (if loc.blk=loc.blk∧o<len * sz then cs[o]? else m loc.blk o)=none
   have hmax1:sl * sz≤Nat.max sl len * sz:=Nat.mul_le_mul_right _ (Nat.le_max_left _ _)
   have hmax2:len * sz≤Nat.max sl len * sz:=Nat.mul_le_mul_right _ (Nat.le_max_right _ _)
   rw[if_neg (by omega)]
   exact h7 o (by omega)
  ·rw[List.getElem?_set,if_neg (Ne.symm e)]at hk
   refine (hI.obj k ob hk l h).move hext rfl (fun o ho=>?_)
   show (if l.blk=loc.blk∧o<len * sz then cs[o]? else m l.blk o)=none
   rw[if_neg (fun e'=>e (hI.inj _ _ _ _ h hl e'.1))]
   exact ho
 ·intro b o v h
  change (if b=loc.blk∧o<len * sz then cs[o]? else m b o)=some v at h
  split at h
  ·rename_i e
   exact .inr (.inr ⟨id,loc,hl,e.1.symm⟩)
  ·exact .inl h
 ·simp[World.shape?,h1]
 ·intro o ho
  refine ⟨cs[o],Array.getElem?_eq_getElem (by omega),?_⟩
  show (if loc.blk=loc.blk∧o<len * sz then cs[o]? else m loc.blk o)=some cs[o]
  rw[if_pos ⟨rfl,ho⟩]
  exact Array.getElem?_eq_getElem (by omega)
end
def _root_.Go.Value.slcap:Value→Nat
 |.slice _ _ c=>c
 |_=>0
section
variable {m:Mem}{μ:Mu}{G:Heap}{w:World}
theorem okRows_take {sz n:Nat}{rows:List (List PV)}(h:okRows sz rows=true):okRows sz (rows.take n)=true:=by
 simp only[okRows,List.all_eq_true]at h ⊢
 exact fun r hr=>h r (List.mem_of_mem_take hr)
theorem okRows_drop {sz n:Nat}{rows:List (List PV)}(h:okRows sz rows=true):okRows sz (rows.drop n)=true:=by
 simp only[okRows,List.all_eq_true]at h ⊢
 exact fun r hr=>h r (List.mem_of_mem_drop hr)
theorem okRows_two {s t:Nat}{rows:List (List PV)}(h:okRows s rows=true)(h':okRows t rows=true)(hne:rows≠[]):s=t:=by
 cases rows with
 |nil=>exact absurd rfl hne
 |cons r rs =>
  rw[← okRow_len (okRows_at h (i:=0) rfl),okRow_len (okRows_at h' (i:=0) rfl)]
theorem RP.ofBlock {b o sz cap:Nat}{rows:List (List PV)}(hcap:rows.length≤cap)(hs:okRows sz rows=true)
  (h:∀ (i j:Nat) (r:List PV) (c:PV),rows[i]?=some r→r[j]?=some c→∃ v,m b (o+i * sz+j)=some v∧RP m v c):RP m (.slice (some ⟨b,o,none⟩) rows.length cap) (.sl rows):=by
 refine .sl _ cap rows sz (fun i j=>(m b (o+i * sz+j)).getD undef) hcap hs (fun _=>⟨b,o,rfl,fun i j r c h1 h2=>?_⟩) (fun i j r c h1 h2=>?_)
 ·obtain ⟨v,k1,k2⟩:=h i j r c h1 h2
  rw[k1];rfl
 ·obtain ⟨v,k1,k2⟩:=h i j r c h1 h2
  rw[k1];exact k2
theorem norm_arr (hI:Inv m μ G w){id len gen:Nat}{z:Value}(hr:R m μ (inf G) z (.arr id len gen)){sz g sl:Nat}{rows:List (List PV)}(hG:G[id]?=some (.arr sz rows g sl))(hg:g=gen)(hle:len≤rows.length) :
  ∃ m',Inv m' μ (G.set id (.arr sz rows g (Nat.max sl len))) w∧Stp m μ G w m' μ (G.set id (.arr sz rows g (Nat.max sl len))) w ∧
   (∃ loc,z=.slice (some ⟨loc,0,none⟩) len (z.slcap)∧len≤z.slcap∧∀ (i j:Nat) (r:List PV) (c:PV),(rows.take len)[i]?=some r→r[j]?=some c→∃ v,m' loc (i * sz+j)=some v∧RP m' v c)∧okRows sz rows=true∧1≤sz:=by
 subst hg
 cases hr with|arr _ _ _ ad n c loc g' sz' h1 h2 h3 h4 =>
 have hinf:inf G id=some (some (g,sz)):=by simp[inf,hG,infO]
 rw[hinf]at h2
 cases h2
 obtain ⟨rfl,rfl,rfl⟩:=h4 rfl
 obtain ⟨m',hI',hS,cs,hcs,hm⟩:=seal_step hI hG h1 hle
 obtain ⟨cs',T,k1,k2,k3,k4,k5,k6,k7⟩:=hI.obj id _ hG loc h1
 have:cs'=cs:=by
  rw[hcs]at k1
  injection k1 with k1
  injection k1 with e _ _
  exact e.symm
 subst this
 refine ⟨m',hI',hS,⟨loc.blk,by simp[Value.slcap],by simp[Value.slcap];omega,fun i j r c g1 g2=>?_⟩,k5,k4⟩
 rw[List.getElem?_take]at g1
 split at g1
 ·rename_i hi
  obtain ⟨v,q1,q2⟩:=k6 i j r c g1 g2
  have hj:j<sz:=by rw[← okRow_len (okRows_at k5 g1)];exact (gE g2).1
  have hlt:i * sz+j<n * sz:=by
   have:i * sz+sz≤n * sz:=by rw[← Nat.succ_mul];exact Nat.mul_le_mul_right _ hi
   omega
  obtain ⟨v',q3,q4⟩:=hm _ hlt
  have:v'=v:=by rw[q3]at q1;cases q1;rfl
  subst this
  exact ⟨v',q4,q2.mono hS.ext.mem⟩
 ·cases g1
theorem RL.ofArr {i:Inf}{cs:Array Value}{l:List AV}(h:cs.size=l.length)(hr:∀ (j:Nat) (v:Value) (c:AV),cs[j]?=some v→l[j]?=some c→R m μ i v c):RL m μ i cs.toList l :=
 ⟨by simpa using h,fun j v c h1 h2=>hr j v c (by simpa using h1) h2⟩
theorem R.agOf {i:Inf}{cs:Array Value}{l:List AV}(h:RL m μ i cs.toList l):R m μ i (.agg cs) (.ag l) :=
 .ag _ _ (by simpa using h.1) (fun j v c h1 h2=>h.2 j v c (by simpa using h1) h2)
theorem R.tupOf {i:Inf}{cs:Array Value}{l:List AV}(h:RL m μ i cs.toList l):R m μ i (.tuple cs) (.tup l) :=
 .tup _ _ (by simpa using h.1) (fun j v c h1 h2=>h.2 j v c (by simpa using h1) h2)
end
mutual
theorem norm_sound {μ:Mu}{w:World}:∀ (a:AV) {m:Mem} {G G':Heap} {v:AV} {z:Value},Inv m μ G w→norm G a=some (v,G')→R m μ (inf G) z a →
  ∃ m',Inv m' μ G' w∧Stp m μ G w m' μ G' w∧R m' μ (inf G') z v
 |.p x,m,G,G',v,z,hI,h,hr=>by
  simp[norm]at h
  obtain ⟨rfl,rfl⟩:=h
  exact ⟨m,hI,.refl _ _ _ _,hr⟩
 |.nils,m,G,G',v,z,hI,h,hr=>by
  simp[norm]at h
  obtain ⟨rfl,rfl⟩:=h
  cases hr
  exact ⟨m,hI,.refl _ _ _ _,.p _ _ (.sl none 0 [] 0 (fun _ _=>undef) (Nat.le_refl _) rfl (fun h=>absurd rfl h) (fun i j r c h=>by simp at h))⟩
 |.arr id len gen,m,G,G',v,z,hI,h,hr=>by
  simp only[norm]at h
  split at h
  ·rename_i sz rows g sl hG
   split at h
   ·rename_i hc
    cases h
    obtain ⟨m',hI',hS,⟨b,hz,hcap,hm⟩,hok,h1⟩:=norm_arr hI hr hG hc.1 hc.2
    refine ⟨m',hI',hS,.p _ _ ?_⟩
    have hl:(rows.take len).length=len:=by simp;have:=hc.2;omega
    rw[hz]
    have:=RP.ofBlock (m:=m') (b:=b) (o:=0) (sz:=sz) (cap:=z.slcap) (rows:=rows.take len) (by omega) (okRows_take hok) (by simpa using hm)
    rw[hl]at this
    exact this
   ·cases h
  ·cases h
 |.ag cs,m,G,G',v,z,hI,h,hr=>by
  simp only[norm]at h
  split at h
  ·rename_i vs G1 hn
   cases h
   obtain ⟨ca,rfl,h1,h2⟩:=hr.ag_inv
   obtain ⟨m',hI',hS,hr'⟩:=normL_sound cs hI hn (RL.ofArr h1 h2)
   exact ⟨m',hI',hS,.agOf hr'⟩
  ·cases h
 |.tup cs,m,G,G',v,z,hI,h,hr=>by
  simp only[norm]at h
  split at h
  ·rename_i vs G1 hn
   cases h
   obtain ⟨ca,rfl,h1,h2⟩:=hr.tup_inv
   obtain ⟨m',hI',hS,hr'⟩:=normL_sound cs hI hn (RL.ofArr h1 h2)
   exact ⟨m',hI',hS,.tupOf hr'⟩
  ·cases h
 |.ifc t x,m,G,G',v,z,hI,h,hr=>by
  simp only[norm]at h
  split at h
  ·rename_i y G1 hn
   cases h
   cases hr with|ifc _ z' _ hr =>
   obtain ⟨m',hI',hS,hr'⟩:=norm_sound x hI hn hr
   exact ⟨m',hI',hS,.ifc _ _ _ hr'⟩
  ·cases h
 |.undef,m,G,G',v,z,hI,h,hr=>by simp[norm]at h
 |.ptr _ _,m,G,G',v,z,hI,h,hr=>by simp[norm]at h
 |.eptr _ _ _ _,m,G,G',v,z,hI,h,hr=>by simp[norm]at h
 |.rp _,m,G,G',v,z,hI,h,hr=>by simp[norm]at h
 |.fn _ _ _,m,G,G',v,z,hI,h,hr=>by simp[norm]at h
theorem normL_sound {μ:Mu}{w:World}:∀ (l:List AV) {m:Mem} {G G':Heap} {vs:List AV} {zs:List Value},Inv m μ G w→normL G l=some (vs,G')→RL m μ (inf G) zs l →
  ∃ m',Inv m' μ G' w∧Stp m μ G w m' μ G' w∧RL m' μ (inf G') zs vs
 |[],m,G,G',vs,zs,hI,h,hr=>by
  simp[normL]at h
  obtain ⟨rfl,rfl⟩:=h
  exact ⟨m,hI,.refl _ _ _ _,hr⟩
 |a::r,m,G,G',vs,zs,hI,h,hr=>by
  simp only[normL]at h
  split at h
  ·cases h
  ·rename_i v G1 hn
   split at h
   ·cases h
   ·rename_i vs' G2 hn2
    cases h
    obtain ⟨z,zs,rfl,hz,hr⟩:=hr.inv_cons
    obtain ⟨m1,hI1,hS1,hz1⟩:=norm_sound a hI hn hz
    obtain ⟨m2,hI2,hS2,hr2⟩:=normL_sound r hI1 hn2 (hr.mono hS1.ext)
    exact ⟨m2,hI2,hS1.trans hS2,.cons (hz1.mono hS2.ext) hr2⟩
end
def RPL (m:Mem)(zs:List Value)(l:List PV):Prop:=zs.length=l.length∧∀ (j:Nat) (v:Value) (c:PV),zs[j]?=some v→l[j]?=some c→RP m v c
theorem RPL.cons {m:Mem}{z:Value}{x:PV}{zs:List Value}{l:List PV}(h:RP m z x)(hr:RPL m zs l):RPL m (z::zs) (x::l) :=
 ⟨by simp[hr.1],fun j v' c h1 h2=>by
  cases j with
  |zero=>simp at h1 h2;subst h1;subst h2;exact h
  |succ j=>simp at h1 h2;exact hr.2 j v' c h1 h2⟩
theorem RPL.mono {m m':Mem}(h:∀ b o v,m b o=some v→m' b o=some v){zs:List Value}{l:List PV}(hr:RPL m zs l):RPL m' zs l :=
 ⟨hr.1,fun j v c h1 h2=>(hr.2 j v c h1 h2).mono h⟩
mutual
theorem toP_sound {m:Mem}{μ:Mu}{i:Inf}:∀ (a:AV) {x:PV} {z:Value},toP a=some x→R m μ i z a→RP m z x
 |.p x,y,z,h,hr=>by simp[toP]at h;subst h;cases hr;assumption
 |.ag cs,y,z,h,hr=>by
  simp only[toP]at h
  split at h
  ·rename_i l hl
   cases h
   obtain ⟨ca,rfl,h1,h2⟩:=hr.ag_inv
   have:=toPL_sound cs hl (RL.ofArr h1 h2)
   exact .ag _ _ (by simpa using this.1) (fun j v c h1 h2=>this.2 j v c (by simpa using h1) h2)
  ·cases h
 |.ifc t v,y,z,h,hr=>by
  simp only[toP]at h
  split at h
  ·rename_i x hx
   cases h
   cases hr with|ifc _ z' _ hr =>
   exact .ifc _ _ _ (toP_sound v hx hr)
  ·cases h
 |.nils,y,z,h,hr=>by simp[toP]at h
 |.undef,y,z,h,hr=>by simp[toP]at h
 |.ptr _ _,y,z,h,hr=>by simp[toP]at h
 |.arr _ _ _,y,z,h,hr=>by simp[toP]at h
 |.eptr _ _ _ _,y,z,h,hr=>by simp[toP]at h
 |.rp _,y,z,h,hr=>by simp[toP]at h
 |.tup _,y,z,h,hr=>by simp[toP]at h
 |.fn _ _ _,y,z,h,hr=>by simp[toP]at h
theorem toPL_sound {m:Mem}{μ:Mu}{i:Inf}:∀ (l:List AV) {xs:List PV} {zs:List Value},toPL l=some xs→RL m μ i zs l→RPL m zs xs
 |[],xs,zs,h,hr=>by
  simp[toPL]at h
  subst h
  exact ⟨hr.1,fun j v c _ h2=>by simp at h2⟩
 |a::r,xs,zs,h,hr=>by
  simp only[toPL]at h
  split at h
  ·cases h
  ·rename_i x hx
   split at h
   ·cases h
   ·rename_i xs' hxs
    cases h
    obtain ⟨z,zs,rfl,hz,hr⟩:=hr.inv_cons
    exact .cons (toP_sound a hx hz) (toPL_sound r hxs hr)
end
theorem normP_sound {μ:Mu}{w:World}{a:AV}{m:Mem}{G G':Heap}{l:List PV}{z:Value}(hI:Inv m μ G w)(h:normP G a=some (l,G'))(hr:R m μ (inf G) z a)(hf:l.all PV.flat=true) :
  ∃ m',Inv m' μ G' w∧Stp m μ G w m' μ G' w∧RPL m' z.cells.toList l:=by
 unfold normP at h
 split at h
 ·cases h
 ·rename_i vs G1 hn
  split at h
  ·cases h
  ·rename_i l' hl
   cases h
   have hcells:RL m μ (inf G) z.cells.toList a.cells:=by
    cases a with
    |ag cs =>
     obtain ⟨ca,rfl,h1,h2⟩:=hr.ag_inv
     exact RL.ofArr h1 h2
    |p x =>
     simp[AV.cells,normL,norm]at hn
     obtain ⟨rfl,rfl⟩:=hn
     simp[toPL,toP]at hl
     subst hl
     exact RL.cellsOf hr (by simpa [AV.cells,AV.flat] using hf)
    |nils=>exact RL.cellsOf hr rfl
    |arr id len gen=>exact RL.cellsOf hr rfl
    |ifc t v=>exact RL.cellsOf hr rfl
    |undef=>simp[AV.cells,normL,norm]at hn
    |ptr _ _=>simp[AV.cells,normL,norm]at hn
    |eptr _ _ _ _=>simp[AV.cells,normL,norm]at hn
    |rp _=>simp[AV.cells,normL,norm]at hn
    |tup l =>
     simp only[AV.cells,normL,norm]at hn
     cases hq:normL G l with
     |none=>simp[hq]at hn
     |some y=>simp[hq]at hn;obtain ⟨rfl,rfl⟩:=hn;simp[toPL,toP]at hl
    |fn _ _ _=>simp[AV.cells,normL,norm]at hn
   obtain ⟨m',hI',hS,hrl⟩:=normL_sound _ hI hn hcells
   exact ⟨m',hI',hS,toPL_sound _ hl hrl⟩
end Go.Proofs.Z
end
