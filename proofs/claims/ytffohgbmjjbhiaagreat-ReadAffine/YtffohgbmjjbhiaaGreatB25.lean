/- gossamerlaw21.ReadRight: whatever the input, the law returns true, and the arguments read afterwards as they did before. No condition. -/
import Derived.Test.YtffohgbmjjbhiaaGreatB24
import Derived.Test.YtffohgbmjjbhiaaGreatB18
import Derived.Test.YtffohgbmjjbhiaaGreatB14
import Derived.Test.YtffohgbmjjbhiaaGreatB23
import Derived.Test.YtffohgbmjjbhiaaGreatB20
import Derived.WalkKit
import Derived.ProofKit
import Derived.OpenShut
import Derived.ShutString
import Derived.ChangeOld
import Derived.Below
set_option linter.all false
namespace Go.Proofs.Z
theorem mn (us:List Ct):∀(N:Nat) (t:Ct) (b:Nat),t.size<=N->t.wf b=true->t.sub us b=t
 |0,t,b,hs,hw=>by have:=size_pos t;omega
 |N+1,t,b,hs,hw=>by
  cases t with
  |var i=>simp only[Ct.wf,Uq]at hw;simp only[Ct.sub];rw[ah hw]
  |int v=>rfl
  |fail=>rfl
  |alt s n x=>simp[Ct.wf]at hw
  |lam x =>
   simp only[Ct.wf]at hw;simp only[Ct.size]at hs;simp only[Ct.sub,mn us N x (b+1) (by omega) hw]
  |app x y =>
   simp only[Ct.wf,ab]at hw;simp only[Ct.size]at hs;simp only[Ct.sub,mn us N x b (by omega) hw.1,mn us N y b (by omega) hw.2]
  |op s x y =>
   simp only[Ct.wf,ab]at hw;simp only[Ct.size]at hs;simp only[Ct.sub,mn us N x b (by omega) hw.1.2,mn us N y b (by omega) hw.2]
  |UW s l =>
   simp only[Ct.wf,ab]at hw;simp only[Ct.size]at hs;simp only[Ct.sub,Ct.Vh];rw[show l.map (Ct.sub us b)=l from by
    conv=>rhs;rw[<- gP l]
    exact cL λt ht=>mn us N t b (by have:=dm ht;omega) (Vi hw.2 t ht)]
  |case x l =>
   simp only[Ct.wf,ab]at hw;simp only[Ct.size]at hs;simp only[Ct.sub,Ct.Vh,mn us N x b (by omega) hw.1.1.1];rw[show l.map (Ct.sub us b)=l from by
    conv=>rhs;rw[<- gP l]
    refine cL λt ht=>?_;obtain⟨s,n,y,rfl,w1,w2⟩:=fV hw.2 t ht;have hsz:=dm ht;simp only[Ct.size]at hsz;simp only[Ct.sub,mn us N y (b+n) (by omega) w2,id]]
theorem lA (us ws:List Ct)(hw:∀w∈ws,w.wf 0=true):∀(N:Nat) (t:Ct) (b:Nat),t.size<=N->t.wf (b+us.length+ws.length)=true->(t.sub ws (b+us.length)).sub us b=t.sub (us++ws) b
 |0,t,b,hs,_=>by have:=size_pos t;omega
 |N+1,t,b,hs,hwf=>by
  cases t with
  |var i =>
   simp only[Ct.wf,Uq]at hwf;simp only[Ct.sub];by_cases c1:i<b+us.length
   ·rw[ah c1];simp only[Ct.sub];by_cases c2:i<b
    ·rw[ah c2,ah c2]
    ·rw[aa c2,aa c2,List.getD_eq_getElem?_getD,List.getD_eq_getElem?_getD,List.getElem?_append_left (by omega)]
   ·rw[aa c1,aa (show ¬ i<b by omega),List.getD_eq_getElem?_getD,List.getD_eq_getElem?_getD,List.getElem?_append_right (by omega)];rw[show i-b-us.length=i-(b+us.length) from by omega];have hi:i-(b+us.length)<ws.length:=by omega
    rw[gG hi];have hc:=hw _ (bM hi);exact mn us _ _ b (aB _) (j9 _ _ 0 b (aB _) (by omega) hc)
  |int v=>rfl
  |fail=>rfl
  |alt s n x=>simp[Ct.wf]at hwf
  |lam x =>
   simp only[Ct.wf]at hwf;simp only[Ct.size]at hs;have:=lA us ws hw N x (b+1) (by omega) (by rw[show b+1+us.length+ws.length=b+us.length+ws.length+1 from by omega];exact hwf);simp only[Ct.sub,show b+us.length+1=b+1+us.length from by omega,this]
  |app x y =>
   simp only[Ct.wf,ab]at hwf;simp only[Ct.size]at hs;simp only[Ct.sub,lA us ws hw N x b (by omega) hwf.1,lA us ws hw N y b (by omega) hwf.2]
  |op s x y =>
   simp only[Ct.wf,ab]at hwf;simp only[Ct.size]at hs;simp only[Ct.sub,lA us ws hw N x b (by omega) hwf.1.2,lA us ws hw N y b (by omega) hwf.2]
  |UW s l =>
   simp only[Ct.wf,ab]at hwf;simp only[Ct.size]at hs;simp only[Ct.sub,Ct.Vh,UJ];rw[show l.map (Ct.sub us b ∘ Ct.sub ws (b+us.length))=l.map (Ct.sub (us++ws) b) from
    cL λt ht=>lA us ws hw N t b (by have:=dm ht;omega) (Vi hwf.2 t ht)]
  |case x l =>
   simp only[Ct.wf,ab]at hwf;simp only[Ct.size]at hs;simp only[Ct.sub,Ct.Vh,UJ,lA us ws hw N x b (by omega) hwf.1.1.1];rw[show l.map (Ct.sub us b ∘ Ct.sub ws (b+us.length))=l.map (Ct.sub (us++ws) b) from
    cL λt ht=>by
     obtain⟨s,n,y,rfl,w1,w2⟩:=fV hwf.2 t ht;have hsz:=dm ht;simp only[Ct.size]at hsz;have:=lA us ws hw N y (b+n) (by omega) (by rw[show b+n+us.length+ws.length=b+us.length+ws.length+n from by omega];exact w2);simp only[jq,Ct.sub,show b+us.length+n=b+n+us.length from by omega,this]]
inductive ld:T->Ct->Prop
 |jJ {t:Ct} {ρ:List T} {cs:List Ct}:ρ.length=cs.length->(∀(i:Nat) (X:T) (c:Ct),ρ[i]?=some X->cs[i]?=some c->ld X c)->(∀c,c∈cs->c.wf 0=true)->t.wf cs.length=true->ld (.jJ t ρ) (t.sub cs 0)
 |app {A B:T} {a b:Ct}:ld A a->ld B b->ld (.app A B) (.app a b)
 |UW {s:List UInt8} {l:List T} {cl:List Ct}:l.length=cl.length->(∀(i:Nat) (X:T) (c:Ct),l[i]?=some X->cl[i]?=some c->ld X c)->ld (.UW s l) (.UW s cl)
 |case {A:T} {x:Ct} {l:List T} {cl:List Ct}:ld A x->l.length=cl.length->(∀(i:Nat) (X:T) (c:Ct),l[i]?=some X->cl[i]?=some c->ld X (wx c))->ld (.case A (cl.map fQ) l) (.case x cl)
 |int {v:Int}:ld (.int v) (.int v)
 |op {s:List UInt8} {A B:T} {a b:Ct}:ld A a->ld B b->ld (.op s A B) (.op s a b)
 |fail:ld .fail .fail
structure HW (ρ:List T)(cs:List Ct):Prop where
 len:ρ.length=cs.length
 rep:∀(i:Nat) (X:T) (c:Ct),ρ[i]?=some X->cs[i]?=some c->ld X c
 wf:∀c,c∈cs->c.wf 0=true
theorem HW.jJ {ρ:List T}{cs:List Ct}(h:HW ρ cs){t:Ct}(hw:t.wf cs.length=true):ld (.jJ t ρ) (t.sub cs 0):=.jJ h.len h.rep h.wf hw
theorem HW.cons {ρ:List T}{cs:List Ct}(h:HW ρ cs){A:T}{a:Ct}(ha:ld A a)(hw:a.wf 0=true):HW (A::ρ) (a::cs):=by
 refine⟨by simp[h.len],λi X c h1 h2=>?_,λc hc=>?_⟩
 ·cases i with
  |zero=>simp at h1 h2;subst h1 h2;exact ha
  |succ i=>exact h.rep i X c (by simpa using h1) (by simpa using h2)
 ·rcases aA.1 hc with rfl|hc
  ·exact hw
  ·exact h.wf c hc
def Mr (X:T):Ct->Prop
 |.app a b=>∃A B,X=.app A B/\ld A a/\ld B b
 |.lam b'=>∃b ρ cs,X=.jJ (.lam b) ρ/\b'=b.sub cs 1/\HW ρ cs/\b.wf (cs.length+1)=true
 |.UW s cl=>∃l,X=.UW s l/\l.length=cl.length/\∀(i:Nat) (Y:T) (c:Ct),l[i]?=some Y->cl[i]?=some c->ld Y c
 |.case x cl=>∃A l,X=.case A (cl.map fQ) l/\ld A x/\l.length=cl.length/\∀(i:Nat) (Y:T) (c:Ct),l[i]?=some Y->cl[i]?=some c->ld Y (wx c)
 |.int v=>X=.int v
 |.op s a b=>∃A B,X=.op s A B/\ld A a/\ld B b
 |.fail=>X=.fail
 |_=>False
theorem Qf:∀(n:Nat) (b:Ct) (f:Nat),(Ct.wu n b).wf f=b.wf (f+n)
 |0,b,f=>rfl
 |n+1,b,f=>by
  simp only[Ct.wu,Ct.wf,Qf n b (f+1)];rw[show f+1+n=f+(n+1) from by omega]
theorem Bj (us:List Ct):∀(n:Nat) (b:Ct) (f:Nat),(Ct.wu n b).sub us f=Ct.wu n (b.sub us (f+n))
 |0,b,f=>rfl
 |n+1,b,f=>by
  simp only[Ct.wu,Ct.sub,Bj us n b (f+1)];rw[show f+1+n=f+(n+1) from by omega]
theorem ld.HS {X:T}{c:Ct}(h:ld X c):∃X',qG X X'/\Mr X' c:=by
 induction h with
 |@jJ t ρ cs h1 h2 h3 h4 ih =>
  have he:HW ρ cs:=⟨h1,h2,h3⟩
  cases t with
  |var i =>
   simp only[Ct.wf,Uq]at h4;have hi:i<ρ.length:=by omega
   obtain⟨X',e1,e2⟩:=ih i ρ[i] cs[i] (gG hi) (gG h4);have hs:Ct.sub cs 0 (.var i)=cs[i]:=by
    simp only[Ct.sub];rw[aa (by omega),List.getD_eq_getElem?_getD,Nat.sub_zero,gG h4];rfl
   rw[hs];exact⟨X',.step (by simp[T.hd,C_,hi]) e1,e2⟩
  |lam b =>
   simp only[Ct.wf]at h4;exact⟨_,.refl,b,ρ,cs,rfl,rfl,he,h4⟩
  |app a b =>
   simp only[Ct.wf,ab]at h4;exact⟨_,.one rfl,_,_,rfl,he.jJ h4.1,he.jJ h4.2⟩
  |op s a b =>
   simp only[Ct.wf,ab]at h4;exact⟨_,.one rfl,_,_,rfl,he.jJ h4.1.2,he.jJ h4.2⟩
  |int v=>exact⟨_,.one rfl,rfl⟩
  |fail=>exact⟨_,.one rfl,rfl⟩
  |alt s n b=>simp[Ct.wf]at h4
  |UW s l =>
   simp only[Ct.wf,ab]at h4;refine⟨_,.one rfl,l.map (λa=>.jJ a ρ),rfl,by simp[Ct.Vh],λi Y c e1 e2=>?_⟩;rw[List.getElem?_map]at e1;obtain⟨a,e3,rfl⟩:=aP.1 e1;rw[Ct.Vh,List.getElem?_map,e3]at e2;cases e2;exact he.jJ (Vi h4.2 a (aE e3))
  |case x l =>
   simp only[Ct.wf,ab]at h4;have ha:=Eh cs 0 h4.2;refine⟨_,.one rfl,.jJ x ρ,l.map (λa=>.jJ (wx a) ρ),by rw[ha],he.jJ h4.1.1.1,by simp[Ct.Vh],λi Y c e1 e2=>?_⟩;rw[List.getElem?_map]at e1;obtain⟨a,e3,rfl⟩:=aP.1 e1;rw[Ct.Vh,List.getElem?_map,e3]at e2;cases e2;obtain⟨s,n,b,rfl,w1,w2⟩:=fV h4.2 a (aE e3);have:wx (Ct.sub cs 0 (.alt s n b))=(wx (.alt s n b)).sub cs 0:=by
    simp only[Ct.sub,wx,Bj]
   rw[this];exact he.jJ (by simp only[wx,Qf];exact w2)
 |app h1 h2 _ _=>exact⟨_,.refl,_,_,rfl,h1,h2⟩
 |UW h1 h2 _=>exact⟨_,.refl,_,rfl,h1,h2⟩
 |case h1 h2 h3 _ _=>exact⟨_,.refl,_,_,rfl,h1,h2,h3⟩
 |int=>exact⟨_,.refl,rfl⟩
 |op h1 h2 _ _=>exact⟨_,.refl,_,_,rfl,h1,h2⟩
 |fail=>exact⟨_,.refl,rfl⟩
theorem Mr.val {X:T}{c:Ct}(h:Mr X c)(hv:c.val=true):X.val=true:=by
 cases c with
 |lam b=>obtain⟨_,_,_,rfl,_⟩:=h;rfl
 |UW s l=>obtain⟨_,rfl,_⟩:=h;rfl
 |int v=>rw[show X=_ from h];rfl
 |fail=>rw[show X=_ from h];rfl
 |_=>simp[Ct.val]at hv
theorem qG.apps {F F':T}(h:qG F F'):∀l:List T,qG (apps F l) (apps F' l):=by
 intro l
 induction l generalizing F F' with
 |nil=>exact h
 |cons a r ih=>exact ih h.app
theorem ld.beta {A B:T}{b' b:Ct}(hA:ld A (.lam b'))(hB:ld B b)(hb:b.wf 0=true):∃X,qG (.app A B) X/\ld X (b'.sub [b] 0):=by
 obtain⟨X',e1,bd,ρ,cs,rfl,rfl,he,hw⟩:=hA.HS;refine⟨.jJ bd (B::ρ),e1.app.trans (.one (A_ rfl)),?_⟩;have:=(he.cons hB hb).jJ (t:=bd) hw;rw[show(bd.sub cs 1).sub [b] 0=bd.sub (b::cs) 0 from by
  have:=lA [b] cs he.wf bd.size bd 0 (aB _) (by simpa [kD] using hw);simpa using this]
 exact this
theorem ld.apps:∀(n:Nat) {F:T} {b':Ct} {As:List T} {as':List Ct},ld F (.wu n b')->b'.wf n=true->As.length=n->as'.length=n->(∀(i:Nat) (X:T) (c:Ct),As[i]?=some X->as'[i]?=some c->ld X c)->(∀c,c∈as'->c.wf 0=true) ->
  ∃X,qG (Z.apps F As) X/\ld X (b'.sub as'.reverse 0)
 |0,F,b',As,as',hF,hb,h1,h2,h3,h4=>by
  have e1:=aW h1;have e2:=aW h2;subst e1 e2;refine⟨F,.refl,?_⟩;rw[List.reverse_nil,mn [] b'.size b' 0 (aB _) hb];exact hF
 |n+1,F,b',As,as',hF,hb,h1,h2,h3,h4=>by
  match As,as',h1,h2 with
  |A::Ar,a::ar,h1,h2 =>
   have ha:=h4 a (by simp);obtain⟨Y,e1,e2⟩:=hF.beta (h3 0 A a rfl rfl) ha;rw[Bj,aG]at e2;have hb2:(b'.sub [a] n).wf n=true:=yj [a] (by simpa using ha) b'.size b' n (aB _) hb;simp only[av]at h1 h2;obtain⟨X,e3,e4⟩:=ld.apps n (As:=Ar) (as':=ar) e2 hb2 (by omega) (by omega) (λi X c q1 q2=>h3 (i+1) X c (by simpa using q1) (by simpa using q2)) (λc hc=>h4 c (by simp[hc]));refine⟨X,(e1.apps Ar).trans e3,?_⟩;rw[List.reverse_cons,<- lA ar.reverse [a] (by simpa using ha) b'.size b' 0 (aB _) (by simp;rw[show ar.length+1=n+1 from by omega];exact hb)];rw[aG,jn,show ar.length=n from by omega];exact e4
theorem Bk (cl:List Ct)(s:List UInt8)(n:Nat):Gd (cl.map fQ) s (n+1)=qI cl s n:=by
 unfold Gd qI;rw[List.findIdx?_map]
 congr 1
 funext t;simp only[jq];rcases fQ t with ⟨a,k⟩
 by_cases h1:a=s<;>by_cases h2:k=n<;>simp[h1,h2]
theorem GB (s:List UInt8)(hs:A3 s=true)(a b:Int):ld (Ki s a b) (ue s a b).1:=by
 have tr:∀x:Bool,ld (Cb x) (.UW (if x then [84,114,117,101] else [70,97,108,115,101]) []):=λx=>.UW rfl (by simp);unfold A3 at hs;simp only[UP,Uq]at hs;unfold Ki ue;rcases hs with ((((h|h)|h)|h)|h)|h<;>subst h
 ·exact .int
 ·exact .int
 ·exact .int
 ·simp only[dV,reduceCtorEq];by_cases hb:b=0
  ·simp[hb];exact .fail
  ·simp[hb];exact .int
 ·by_cases hb:a<b
  ·have:=tr true;simp[hb]at this ⊢;exact this
  ·have:=tr false;simp[hb]at this ⊢;exact this
 ·by_cases hb:a=b
  ·have:=tr true;simp[hb]at this ⊢;exact this
  ·have:=tr false;simp[hb]at this ⊢;exact this
theorem Mr.QF {A B:T}{a:Ct}(h:Mr A a)(hv:a.val=true)(hn:∀b,a≠.lam b):(T.app A B).hd=some .fail:=by
 have e:=A_ (a:=B) (h.val hv);cases a with
 |lam b=>exact absurd rfl (hn b)
 |UW s l=>obtain⟨_,rfl,_⟩:=h;exact e
 |int v=>rw[show A=_ from h]at e ⊢;exact e
 |fail=>rw[show A=_ from h]at e ⊢;exact e
 |_=>simp[Ct.val]at hv
theorem Mr.Qm {A:T}{al:List (List UInt8×Nat)}{l:List T}{a:Ct}(h:Mr A a)(hv:a.val=true)(hn:∀s b,a≠.UW s b):(T.case A al l).hd=some .fail:=by
 have e:=Gf (al:=al) (l:=l) (h.val hv);cases a with
 |UW s b=>exact absurd rfl (hn s b)
 |lam b=>obtain⟨_,_,_,rfl,_⟩:=h;exact e
 |int v=>rw[show A=_ from h]at e ⊢;exact e
 |fail=>rw[show A=_ from h]at e ⊢;exact e
 |_=>simp[Ct.val]at hv
theorem Mr.QG {A B:T}{s:List UInt8}{a:Ct}(h:Mr A a)(hv:a.val=true)(hn:∀n,a≠.int n):(T.op s A B).hd=some .fail:=by
 refine Qv (h.val hv) λn e=>?_;subst e;cases a with
 |int v=>exact absurd rfl (hn v)
 |lam b=>obtain⟨_,_,_,h,_⟩:=h;cases h
 |UW s l=>obtain⟨_,h,_⟩:=h;cases h
 |fail=>exact absurd (show T.int n=_ from h) (by simp)
 |_=>simp[Ct.val]at hv
theorem Mr.QH {B:T}{s:List UInt8}{n:Int}{b:Ct}(h:Mr B b)(hv:b.val=true)(hn:∀m,b≠.int m):(T.op s (.int n) B).hd=some .fail:=by
 have e:=Kj (s:=s) (n:=n) (h.val hv);cases b with
 |int v=>exact absurd rfl (hn v)
 |lam b=>obtain⟨_,_,_,rfl,_⟩:=h;exact e
 |UW s l=>obtain⟨_,rfl,_⟩:=h;exact e
 |fail=>rw[show B=_ from h]at e ⊢;exact e
 |_=>simp[Ct.val]at hv
theorem ld.step:∀(c:Ct) {X:T},ld X c->c.wf 0=true->c.step.2≠0->∃X',qG X X'/\ld X' c.step.1
 |.var i,X,_,h,_=>by simp[Ct.wf]at h
 |.alt s n b,X,_,h,_=>by simp[Ct.wf]at h
 |.int v,X,_,_,h=>absurd rfl h
 |.fail,X,_,_,h=>absurd rfl h
 |.lam b,X,_,_,h=>absurd rfl h
 |.UW s l,X,_,_,h=>absurd rfl h
 |.app f a,X,hR,hw,hs=>by
  simp only[Ct.wf,ab]at hw;obtain⟨X',e1,A,B,rfl,hA,hB⟩:=hR.HS;simp only[Ct.step]at hs ⊢;split
  ·rename_i hv;split
   ·obtain⟨Y,e2,e3⟩:=hA.beta hB hw.2;exact⟨Y,e1.trans e2,e3⟩
   ·rename_i hn;obtain⟨A',e2,e3⟩:=hA.HS;exact⟨.fail,(e1.trans e2.app).trans (.one (e3.QF hv λb e=>hn b e)),.fail⟩
  ·rename_i hv;rw[aa hv]at hs;split
   ·rename_i c;rw[ah c]at hs;exact absurd rfl hs
   ·rename_i c;obtain⟨A',e2,e3⟩:=ld.step f hA hw.1 c;exact⟨_,e1.trans e2.app,.app e3 hB⟩
 |.case x l,X,hR,hw,hs=>by
  simp only[Ct.wf,ab]at hw;obtain⟨X',e1,A,ls,rfl,hA,hl,hB⟩:=hR.HS;simp only[Ct.step]at hs ⊢;split
  ·rename_i hv;obtain⟨A',e2,e3⟩:=hA.HS;unfold Ct.pick;split
   ·rename_i s cl;obtain⟨As,rfl,hc1,hc2⟩:=e3;have hx:=hw.1.1.1;simp only[Ct.wf,ab]at hx;have e4:(T.case (.UW s As) (l.map fQ) ls).hd=_:=Gf rfl;simp only[Ge,Bk,hc1]at e4;split
    ·rename_i k hk;obtain⟨a,h1,h2⟩:=rE hk;obtain⟨s',n,b,rfl,w1,w2⟩:=fV hw.2 a (aE h1);simp only[fQ,eK]at h2;obtain⟨rfl,rfl⟩:=h2;have hk2:k<ls.length:=by rw[hl];exact(gE h1).1
     rw[hk]at e4;simp only[gG hk2]at e4;have hb:=hB k _ _ (gG hk2) h1;obtain⟨Y,e5,e6⟩:=ld.apps cl.length (As:=As) (as':=cl) (b':=b) hb (by simpa using w2) hc1 rfl hc2 (λc hc=>Vi hx.2 c hc);refine⟨Y,((e1.trans e2.case).trans (.one e4)).trans e5,?_⟩;rw[List.getD_eq_getElem?_getD,h1];exact e6
    ·rename_i hk;rw[hk]at e4;exact⟨.fail,(e1.trans e2.case).trans (.one e4),.fail⟩
   ·rename_i hn;exact⟨.fail,(e1.trans e2.case).trans (.one (e3.Qm hv λs b e=>hn s b e)),.fail⟩
  ·rename_i hv;rw[aa hv]at hs;split
   ·rename_i c;rw[ah c]at hs;exact absurd rfl hs
   ·rename_i c;obtain⟨A',e2,e3⟩:=ld.step x hA hw.1.1.1 c;exact⟨_,e1.trans e2.case,.case e3 hl hB⟩
 |.op s a b,X,hR,hw,hs=>by
  simp only[Ct.wf,ab]at hw;obtain⟨X',e1,A,B,rfl,hA,hB⟩:=hR.HS;simp only[Ct.step]at hs ⊢;split
  ·rename_i hv;rw[ah hv]at hs;obtain⟨A',e2,e3⟩:=hA.HS;split
   ·rename_i n;have:A'=.int n:=e3;subst this;dsimp only at hs;split
    ·rename_i hvb;obtain⟨B',e4,e5⟩:=hB.HS;split
     ·rename_i m;have:B'=.int m:=e5;subst this;have e6:(T.op s (.int n) (.int m)).hd=_:=Kj rfl;exact⟨_,((e1.trans e2.Q8).trans e4.RG).trans (.one e6),GB s hw.1.1 n m⟩
     ·rename_i hn;exact⟨.fail,((e1.trans e2.Q8).trans e4.RG).trans (.one (e5.QH hvb λm e=>hn m e)),.fail⟩
    ·rename_i hvb;rw[aa hvb]at hs;split
     ·rename_i c;rw[ah c]at hs;exact absurd rfl hs
     ·rename_i c;obtain⟨B',e4,e5⟩:=ld.step b hB hw.2 c;exact⟨_,(e1.trans e2.Q8).trans e4.RG,.op .int e5⟩
   ·rename_i hn;exact⟨.fail,(e1.trans e2.Q8).trans (.one (e3.QG hv λn e=>hn n e)),.fail⟩
  ·rename_i hv;rw[aa hv]at hs;split
   ·rename_i c;rw[ah c]at hs;exact absurd rfl hs
   ·rename_i c;obtain⟨A',e2,e3⟩:=ld.step a hA hw.1.2 c;exact⟨_,e1.trans e2.Q8,.op e3 hB⟩
theorem ld.run:∀(m:Nat) {c:Ct} {X:T},ld X c->c.wf 0=true->(dz m c).2.2=0->∃X',qG X X'/\ld X' (dz m c).1
 |0,c,X,hR,hw,he=>by
  unfold dz at he ⊢;split at he
  ·cases he
  ·rename_i c1;rw[aa c1];split at he
   ·rename_i c2;rw[ah c2];exact⟨X,.refl,hR⟩
   ·cases he
 |m+1,c,X,hR,hw,he=>by
  unfold dz at he ⊢;split at he
  ·cases he
  ·rename_i c1;rw[aa c1];split at he
   ·rename_i c2;rw[ah c2];exact⟨X,.refl,hR⟩
   ·rename_i c2;rw[aa c2];obtain⟨X',e1,e2⟩:=hR.step c hw c2;obtain⟨X'',e3,e4⟩:=ld.run m e2 (oQ c hw) he;exact⟨X'',e1.trans e3,e4⟩
theorem pU {ev:Nat->Ct->Tm×Nat×Nat}{D:Bool}{F:Nat}(ih:∀F t X,ld X t->t.wf 0=true->(ev F t).2.2=0->∃s:aO,s.tm=(ev F t).1/\Comes true X s) :
  ∀(l:List Ct) (As:List T) (n:Nat),As.length=l.length->(∀(i:Nat) (Y:T) (c:Ct),As[i]?=some Y->l[i]?=some c->ld Y c)->(∀c,c∈l->c.wf 0=true)->(fR ev D F l n).2.2=0 ->
  ∃sl:List aO,aO.gp sl=(fR ev D F l n).1/\sl.length=l.length/\(D=true->∀(i:Nat) (t':T) (s':aO),As[i]?=some t'->sl[i]?=some s'->Comes true t' s')/\(D=false->sl=List.replicate l.length .lazy)
 |[],As,n,h1,_,_,_=>by
  refine⟨[],rfl,rfl,λ_ i t' s' _ h=>by simp at h,λ_=>rfl⟩
 |t::r,As,n,h1,h2,h3,he=>by
  match As,h1 with
  |A::Ar,h1 =>
   have hr:∀(i:Nat) (Y:T) (c:Ct),Ar[i]?=some Y->r[i]?=some c->ld Y c:=λi Y c q1 q2=>h2 (i+1) Y c (by simpa using q1) (by simpa using q2);have hwr:∀c,c∈r->c.wf 0=true:=λc hc=>h3 c (by simp[hc]);simp only[av,Wv]at h1;unfold fR at he ⊢;split at he
   ·rename_i cD;rw[ah cD];split at he
    ·rename_i c;exact absurd he c
    ·rename_i c;rw[aa c];obtain⟨s,q1,q2⟩:=ih (F-n) t A (h2 0 A t rfl rfl) (h3 t (by simp)) (VQ.1 c);obtain⟨sl,p1,p2,p3,p4⟩:=pU ih r Ar _ h1 hr hwr he;refine⟨s::sl,by simp only[aO.gp,q1,p1],by simp[p2],λ_ i t' s' w1 w2=>?_,λc=>by rw[cD]at c;cases c⟩;cases i with
     |zero=>simp at w1 w2;subst w1 w2;exact q2
     |succ i=>exact p3 cD i t' s' (by simpa using w1) (by simpa using w2)
   ·rename_i cD;rw[aa cD];obtain⟨sl,p1,p2,p3,p4⟩:=pU ih r Ar _ h1 hr hwr he;refine⟨.lazy::sl,by simp only[aO.gp,p1];rfl,by simp[p2],λc=>absurd c cD,λc=>by rw[p4 c];rfl⟩
theorem wO:∀(g:Nat) (D:Bool) (F:Nat) (c:Ct) (X:T),ld X c->c.wf 0=true->(fS g D F c).2.2=0->∃s:aO,s.tm=(fS g D F c).1/\Comes D X s
 |0,D,F,c,X,hR,hw,he=>by cases he
 |g+1,D,F,c,X,hR,hw,he=>by
  have hk:=uB F c hw;have hrun:=ld.run F hR hw;unfold fS at he ⊢;split at he
  ·rename_i c1;exact absurd he c1
  ·rename_i c1;rw[aa c1];have c0:(dz F c).2.2=0:=by omega
   obtain⟨X',e1,e2⟩:=hrun c0;obtain⟨X'',e3,e4⟩:=e2.HS;have e5:=e1.trans e3;obtain⟨k1,k2,-,-⟩:=hk c0;generalize hr:(dz F c).1=r at he e4 k1 k2;cases r with
   |int v=>exact⟨.mk 1 v [] [],rfl,.int (by rw[show X''=_ from e4]at e5;exact e5)⟩
   |lam b =>
    obtain⟨b0,ρ,cs,rfl,-⟩:=e4;exact⟨.mk 3 0 [] [],rfl,.lam e5⟩
   |fail=>exact⟨.mk 4 0 [] [],rfl,.fail (by rw[show X''=_ from e4]at e5;exact e5)⟩
   |UW s l =>
    obtain⟨As,rfl,h1,h2⟩:=e4;simp only[Ct.wf,ab]at k1;dsimp only at he ⊢;split at he
    ·rename_i c2;exact absurd he c2
    ·rename_i c2;rw[aa c2];obtain⟨sl,p1,p2,p3,p4⟩:=pU (D:=D) (λF t X a b c=>wO g true F t X a b c) (F:=F) l As (dz F c).2.1 h1 h2 (λc hc=>Vi k1.2 c hc) (VQ.1 c2);exact⟨.mk 2 0 s sl,by simp only[aO.tm,p1];rfl,.UW e5 (by omega) (λhD=>by subst hD;exact p3 rfl) (λhD=>by rw[h1];exact p4 hD)⟩
   |_=>simp[Ct.val]at k2
theorem GC {t:Ct}(hw:t.wf 0=true):ld (.jJ t []) t:=by
 have:ld (.jJ t []) (t.sub [] 0):=.jJ (ρ:=[]) (cs:=[]) rfl (λi X c h=>by simp at h) (by simp) hw;rwa [mn [] t.size t 0 (aB _) hw]at this
mutual
def Ct.qJ:Ct->Nat
 |.var _=>1
 |.int _=>0
 |.fail=>0
 |.lam b=>b.qJ
 |.app f a=>f.qJ+a.qJ
 |.UW _ l=>Ct.Yi l
 |.case h l=>h.qJ+Ct.Yi l
 |.alt _ _ b=>b.qJ
 |.op _ a b=>a.qJ+b.qJ
def Ct.Yi:List Ct->Nat
 |[]=>0
 |a::r=>a.qJ+Ct.Yi r
end
mutual
def Ct.cost:Ct->Nat
 |.var _=>2
 |.int _=>1
 |.fail=>1
 |.lam b=>b.cost+2
 |.app f a=>f.cost+(a.cost+a.qJ)+1
 |.UW _ l=>Ct.Dg l+1
 |.case h l=>h.cost+Ct.Bf l+1
 |.alt _ _ b=>b.cost
 |.op _ a b=>a.cost+b.cost+1
def Ct.Dg:List Ct->Nat
 |[]=>0
 |a::r=>a.cost+a.qJ+Ct.Dg r
def Ct.Bf:List Ct->Nat
 |[]=>0
 |.alt _ k b::r=>b.cost+2 * k+Ct.Bf r
 |_::r=>Ct.Bf r
end
theorem qc {n:aI}{x:Up}(h:WI n)(hk:2<=x.ao)(hl:x.Us<=60)(hx:x.ok=true)(hr:n.ae.length<n.aV) :
  (n.bK x).2.2=0/\WI (n.bK x).1/\(n.bK x).1.ae.length=n.ae.length+1/\(n.bK x).1.aV=n.aV:=by
 refine⟨?_,h.bK hk λ_=>hx,?_,aI.V0 n x⟩
 ·unfold aI.bK aI.nN;rw[aa (by omega),ah (by rw[h.used];exact hr)]
 ·unfold aI.bK aI.nN;rw[aa (by omega),ah (by rw[h.used];exact hr)];dsimp only;rw[h.Xx];simp
theorem ga (n:aI)(p q:aq):(n.bx p q).ae.length=n.ae.length:=by
 unfold aI.bx aI.link;split
 ·rw[aI.rZ,aI.rZ]
 ·rfl
structure Mo (c s:Nat)(n:aI)(w:W):Prop where
 e:w.e=0
 wi:WI w.n
 aV:w.n.aV=n.aV
 ID:w.n.ae.length+w.l.length<=n.ae.length+c
 ends:w.l.length<=s
def mh (c s:Nat)(f:aI->W):Prop:=∀n,WI n->n.ae.length+c<=n.aV->Mo c s n (f n)
inductive rD:List (aI->W)->Nat->Nat->Prop
 |nil:rD [] 0 0
 |cons {f:aI->W} {fs:List (aI->W)} {c s C S:Nat}:mh c s f->rD fs C S->rD (f::fs) (c+C) (s+S)
theorem Xz {x:Up}{out:Nat}{l:Nat->List bW}{s:Nat}(hk:2<=x.ao)(hl:x.Us<=60)(hx:x.ok=true)(hs:∀k,(l k).length<=s):mh (1+s) s (iH x out l):=by
 intro n hn hr;obtain⟨a1,a2,a3,a4⟩:=qc hn hk hl hx (by omega);have:=hs (n.bK x).2.1;exact⟨a1,a2,a4,by show _+(l _).length<=_;rw[show(iH x out l n).n=(n.bK x).1 from rfl];omega,this⟩
theorem Bg {Us m c s:Nat}{n:aI}{w:W}(hl:Us<=60)(h:Mo c s n w)(hr:n.ae.length+(c+1)<=n.aV):Mo (c+1) s n (Xc Us m w):=by
 have h1:=h.ID;have h2:=h.aV;have h3:=h.ends;have h4:=tb w.l;unfold Xc;split
 ·exact⟨rfl,(h.wi.bx _ _).bx _ _,by simp only[aI.dq];exact h.aV,by simp only[ga];omega,by dsimp only;omega⟩
 ·obtain⟨a1,a2,a3,a4⟩:=qc (x:=kt Us) (h.wi.bx w.out ⟨m,1⟩) (by simp[kt]) hl (ux hl) (by rw[ga,aI.dq];omega);rw[ah a1];rw[ga]at a3;rw[aI.dq]at a4;exact⟨rfl,a2.bx _ _,by simp only[aI.dq];omega,by simp only[ga];omega,by dsimp only;omega⟩
theorem oP {Us c s:Nat}{f:aI->W}(hl:Us<=60)(h:mh c s f):∀k,mh (c+2 * k) s (iG Us f k)
 |0=>h
 |k+1=>by
  intro n hn hr;obtain⟨a1,a2,a3,a4⟩:=qc (x:=Wc Us) hn (by simp[Wc]) hl (wg hl) (by omega);have ih:=oP hl h k _ a2 (by omega);unfold iG;rw[ah a1,ah ih.e];have:=Bg (m:=(n.bK (Wc Us)).2.1) hl ih (by omega);exact⟨this.e,this.wi,by rw[this.aV,a4],by have:=this.ID;omega,this.ends⟩
theorem ua {Us:Nat}(hl:Us<=60):∀(l:List bW) (n:aI),WI n->n.ae.length+l.length<=n.aV->(dE Us n l).2.2=0/\WI (dE Us n l).1/\(dE Us n l).1.aV=n.aV/\(dE Us n l).1.ae.length=n.ae.length+l.length
 |[],n,hn,hr=>⟨rfl,hn,rfl,rfl⟩
 |x::r,n,hn,hr=>by
  simp only[av]at hr;obtain⟨a1,a2,a3,a4⟩:=qc (x:=eE Us) hn (by simp[eE]) hl (Xk hl) (by omega);obtain⟨b1,b2,b3,b4⟩:=ua hl r ((n.bK (eE Us)).1.bx ⟨(n.bK (eE Us)).2.1,1⟩ x.p) (a2.bx _ _) (by rw[ga,aI.dq];omega);rw[ga]at b4;rw[aI.dq]at b3;unfold dE;rw[ah a1];exact⟨b1,b2,by dsimp only;omega,by dsimp only;rw[b4,a3,av];omega⟩
theorem tp {Us c s:Nat}{f:aI->W}(hl:Us<=60)(h:mh c s f):mh (c+s) s (λn=>jI Us (f n)):=by
 intro n hn hr;have hf:=h n hn (by omega);have h1:=hf.ID;have h2:=hf.aV;have h3:=hf.ends;obtain⟨b1,b2,b3,b4⟩:=ua hl (f n).l (f n).n hf.wi (by omega);have h5:=Xl Us (f n).l (f n).n
 show Mo _ _ n (jI Us (f n))
 unfold jI;rw[ah hf.e];exact⟨b1,b2,by dsimp only;omega,by dsimp only;omega,by dsimp only;omega⟩
theorem nq {Us:Nat}(hl:Us<=60):∀(r:List bW) (n:aI) (l:List bW),WI n->n.ae.length+r.length<=n.aV ->
  (Uw Us n l r).2.2=0/\WI (Uw Us n l r).1/\(Uw Us n l r).1.aV=n.aV/\(Uw Us n l r).1.ae.length+(Uw Us n l r).2.1.length<=n.ae.length+l.length+r.length/\(Uw Us n l r).2.1.length<=l.length+r.length
 |[],n,l,hn,hr=>⟨rfl,hn,rfl,aB _,aB _⟩
 |x::r,n,l,hn,hr=>by
  simp only[av]at hr ⊢;unfold Uw;split
  ·obtain⟨b1,b2,b3,b4,b5⟩:=nq hl r n (Vr l x) hn (by omega);have hwl:=nO l x;exact⟨b1,b2,b3,by omega,by omega⟩
  ·rename_i k _;obtain⟨a1,a2,a3,a4⟩:=qc (x:=dY Us) hn (by simp[dY]) hl (WS hl) (by omega);rw[ah a1];obtain⟨b1,b2,b3,b4,b5⟩:=nq hl r (((n.bK (dY Us)).1.bx ⟨(n.bK (dY Us)).2.1,1⟩ (l.getD k default).p).bx ⟨(n.bK (dY Us)).2.1,2⟩ x.p) (l.set k ⟨(l.getD k default).v,⟨(n.bK (dY Us)).2.1,0⟩⟩) ((a2.bx _ _).bx _ _) (by rw[ga,ga,aI.dq,aI.dq];omega);rw[ga,ga,cK]at b4;rw[cK]at b5;rw[aI.dq,aI.dq]at b3;exact⟨b1,b2,by omega,by omega,by omega⟩
theorem Bh {Us m:Nat}(hl:Us<=60):∀{fs:List (aI->W)} {C S:Nat},rD fs C S->∀(ss:List Nat) (n:aI) (l:List bW),WI n->n.ae.length+l.length+C<=n.aV ->
  Mo (l.length+C) (l.length+S) n (dg Us m fs ss n l):=by
 intro fs C S h
 induction h with
 |nil=>intro ss n l hn hr;exact⟨rfl,hn,rfl,aB _,aB _⟩
 |@cons f fs c s C S hf _ ih =>
  intro ss n l hn hr;cases ss with
  |nil=>exact⟨rfl,hn,rfl,by show n.ae.length+l.length<=_;omega,by show l.length<=_;omega⟩
  |cons s0 ss =>
   have h1:=hf n hn (by omega);have p1:=h1.ID;have p2:=h1.aV;have p3:=h1.ends;obtain⟨b1,b2,b3,b4,b5⟩:=nq (Us:=Us) hl (f n).l ((f n).n.bx (f n).out ⟨m,s0⟩) l (h1.wi.bx _ _) (by rw[ga,aI.dq];omega);rw[ga]at b4;rw[aI.dq]at b3;have key:=ih ss (U5 Us ⟨(f n).n.bx (f n).out ⟨m,s0⟩,(f n).out,(f n).l,0⟩ l).n (U5 Us ⟨(f n).n.bx (f n).out ⟨m,s0⟩,(f n).out,(f n).l,0⟩ l).l b2 (by simp only[U5];omega);unfold dg;rw[ah h1.e,ah (show(U5 Us ⟨(f n).n.bx (f n).out ⟨m,s0⟩,(f n).out,(f n).l,0⟩ l).e=0 from b1)];have k1:=key.aV;have k2:=key.ID;have k3:=key.ends;simp only[U5]at k1 k2 k3 key ⊢;exact⟨key.e,key.wi,by omega,by omega,by omega⟩
theorem mi {x:Up}{fs:List (aI->W)}{ss:List Nat}{out C S:Nat}(hk:2<=x.ao)(hl:x.Us<=60)(hx:x.ok=true)(h:rD fs C S):mh (C+1) S (mS x fs ss out):=by
 intro n hn hr;obtain⟨a1,a2,a3,a4⟩:=qc hn hk hl hx (by omega);have hp:=Bh (m:=(n.bK x).2.1) hl h ss (n.bK x).1 [] a2 (by simp;omega);simp only[aJ,aG]at hp;unfold mS;rw[ah a1,ah hp.e];exact⟨hp.e,hp.wi,by dsimp only;rw[hp.aV,a4],by have:=hp.ID;dsimp only;omega,hp.ends⟩
theorem gn:∀(N:Nat) (t:Ct) (f Us:Nat),t.size<=N->t.wf f=true->Us+t.tm.depth<=61->mh t.cost t.qJ (t.cP Us)
 |0,t,f,Us,hs,_,_=>by have:=size_pos t;omega
 |N+1,t,f,Us,hs,hw,hd=>by
  cases t with
  |var i =>
   simp only[Ct.tm,Tm.depth,Tm.dp]at hd;exact Xz (x:=⟨5,Us,0,[],[],[]⟩) (s:=1) (by show 2<=5;omega) (by show Us<=60;omega) (iP (.inl rfl) 0 rfl (by omega)) (λk=>aB _)
  |int v =>
   simp only[Ct.tm,Tm.depth,Tm.dp]at hd;exact Xz (x:=⟨10,Us,v,[],[],[]⟩) (s:=0) (by show 2<=10;omega) (by show Us<=60;omega) (tc v (by omega)) (λk=>aB _)
  |fail =>
   simp only[Ct.tm,Tm.depth,Tm.dp]at hd;exact Xz (x:=⟨13,Us,0,[],[],[]⟩) (s:=0) (by show 2<=13;omega) (by show Us<=60;omega) (iP (.inr rfl) 0 rfl (by omega)) (λk=>aB _)
  |lam b =>
   simp only[Ct.wf]at hw;simp only[Ct.size]at hs;simp only[Ct.tm,Tm.depth,Tm.dp]at hd;exact oP (by omega) (gn N b (f+1) Us (by omega) hw (by omega)) 1
  |app x y =>
   simp only[Ct.wf,ab]at hw;simp only[Ct.size]at hs;simp only[Ct.tm,Tm.depth,Tm.dp]at hd;exact mi (x:=⟨3,Us,0,[],[],[]⟩) (by show 2<=3;omega) (by show Us<=60;omega) (y8 (by omega)) (.cons (gn N x f Us (by omega) hw.1 (by omega)) (.cons (tp (by omega) (gn N y f (Us+1) (by omega) hw.2 (by omega))) .nil))
  |op s x y =>
   simp only[Ct.wf,ab]at hw;simp only[Ct.size]at hs;simp only[Ct.tm,Tm.depth,Tm.dp]at hd;exact mi (x:=⟨11,Us,0,s,[],[]⟩) (by show 2<=11;omega) (by show Us<=60;omega) (C5 (y7 hw.1.1) (by omega)) (.cons (gn N x f Us (by omega) hw.1.2 (by omega)) (.cons (gn N y f Us (by omega) hw.2 (by omega)) .nil))
  |alt s n b=>simp[Ct.wf]at hw
  |UW s l =>
   simp only[Ct.wf,ab,Uq]at hw;simp only[Ct.size]at hs;simp only[Ct.tm,Tm.depth]at hd;refine mi (x:=⟨8,Us,0,s,[],List.replicate (l.length+1) ⟨0,0⟩⟩) (by show 2<=8;omega) (by show Us<=60;omega) (YM (XM hw.1.1) hw.1.2 (by omega)) ?_;have hall:∀t,t∈l->mh t.cost t.qJ (t.cP (Us+1)):=λt ht=>gn N t f (Us+1) (by have:=dm ht;omega) (Vi hw.2 t ht) (by
    have:=Tm.VE (show t.tm∈Ct.gp l by rw[Ct.cM];exact UH ht);omega)
   have hl:Us<=60:=by omega
   clear hs hd hw
   induction l with
   |nil=>exact .nil
   |cons a r ih=>exact .cons (tp hl (hall a (by simp))) (ih λt ht=>hall t (by simp[ht]))
  |case x l =>
   simp only[Ct.wf,ab,Uq]at hw;simp only[Ct.size]at hs;simp only[Ct.tm,Tm.depth,Tm.dp]at hd;refine mi (x:=⟨9,Us,0,[],l.map fQ,[]⟩) (by show 2<=9;omega) (by show Us<=60;omega) (y9 (by simpa using hw.1.1.2) hw.1.2 (by omega)) (.cons (gn N x f Us (by omega) hw.1.1.1 (by omega)) ?_);have hall:∀t,t∈l->∃s k b,t=.alt s k b/\mh b.cost b.qJ (b.cP Us):=λt ht=>by
    obtain⟨s,k,b,rfl,w1,w2⟩:=fV hw.2 t ht;refine⟨s,k,b,rfl,gn N b (f+k) Us (by have:=dm ht;simp only[Ct.size]at this;omega) w2 ?_⟩;have:=Tm.VE (show(Ct.alt s k b).tm∈Ct.gp l by rw[Ct.cM];exact UH ht);simp only[Ct.tm,Tm.depth,Tm.dp]at this;omega
   have hl:Us<=60:=by omega
   clear hs hd hw
   induction l with
   |nil=>exact .nil
   |cons a r ih =>
    obtain⟨s,k,b,rfl,w⟩:=hall a (by simp);exact .cons (oP hl w k) (ih λt ht=>hall t (by simp[ht]))
mutual
theorem jF:∀(t:Ct),t.qJ<=t.size
 |.var i=>by simp[Ct.qJ,Ct.size]
 |.int v=>by simp[Ct.qJ,Ct.size]
 |.fail=>by simp[Ct.qJ,Ct.size]
 |.lam b=>by have:=jF b;simp only[Ct.qJ,Ct.size];omega
 |.app f a=>by have:=jF f;have:=jF a;simp only[Ct.qJ,Ct.size];omega
 |.UW s l=>by have:=tq l;simp only[Ct.qJ,Ct.size];omega
 |.case h l=>by have:=tq l;have:=jF h;simp only[Ct.qJ,Ct.size];omega
 |.alt s n b=>by have:=jF b;simp only[Ct.qJ,Ct.size];omega
 |.op s a b=>by have:=jF a;have:=jF b;simp only[Ct.qJ,Ct.size];omega
theorem tq:∀(l:List Ct),Ct.Yi l<=Ct.dt l
 |[]=>aB _
 |a::r=>by have:=jF a;have:=tq r;simp only[Ct.Yi,Ct.dt];omega
end
theorem lz:∀(N:Nat) (t:Ct) (f D:Nat),t.size<=N->t.wf f=true->t.tm.depth<=D->t.cost<=17 * t.size+t.qJ * D
 |0,t,f,D,hs,_,_=>by have:=size_pos t;omega
 |N+1,t,f,0,hs,hw,hd=>by cases t<;>simp[Ct.tm,Tm.depth]at hd
 |N+1,t,f,D+1,hs,hw,hd=>by
  cases t with
  |var i=>simp only[Ct.cost,Ct.size];omega
  |int v=>simp only[Ct.cost,Ct.size];omega
  |fail=>simp only[Ct.cost,Ct.size];omega
  |lam b =>
   simp only[Ct.wf]at hw;simp only[Ct.size]at hs;simp only[Ct.tm,Tm.depth,Tm.dp]at hd;have:=lz N b (f+1) D (by omega) hw (by omega);simp only[Ct.cost,Ct.size,Ct.qJ,VA];omega
  |app x y =>
   simp only[Ct.wf,ab]at hw;simp only[Ct.size]at hs;simp only[Ct.tm,Tm.depth,Tm.dp]at hd;have h1:=lz N x f D (by omega) hw.1 (by omega);have h2:=lz N y f D (by omega) hw.2 (by omega);simp only[Ct.cost,Ct.size,Ct.qJ,VA,cW];omega
  |op s x y =>
   simp only[Ct.wf,ab]at hw;simp only[Ct.size]at hs;simp only[Ct.tm,Tm.depth,Tm.dp]at hd;have h1:=lz N x f D (by omega) hw.1.2 (by omega);have h2:=lz N y f D (by omega) hw.2 (by omega);simp only[Ct.cost,Ct.size,Ct.qJ,VA,cW];omega
  |alt s n b=>simp[Ct.wf]at hw
  |UW s l =>
   simp only[Ct.wf,ab,Uq]at hw;simp only[Ct.size]at hs;simp only[Ct.tm,Tm.depth]at hd;have hall:∀t,t∈l->t.cost<=17 * t.size+t.qJ * D:=λt ht=>lz N t f D (by have:=dm ht;omega) (Vi hw.2 t ht) (by
    have:=Tm.VE (show t.tm∈Ct.gp l by rw[Ct.cM];exact UH ht);omega)
   have:Ct.Dg l<=17 * Ct.dt l+Ct.Yi l * D+Ct.Yi l:=by
    clear hs hd hw
    induction l with
    |nil=>exact dv _
    |cons a r ih =>
     have h1:=hall a (by simp);have h2:=ih λt ht=>hall t (by simp[ht]);simp only[Ct.Dg,Ct.dt,Ct.Yi,cW];omega
   simp only[Ct.cost,Ct.size,Ct.qJ,VA];omega
  |case x l =>
   simp only[Ct.wf,ab,Uq]at hw;simp only[Ct.size]at hs;simp only[Ct.tm,Tm.depth,Tm.dp]at hd;have h8:=h_ hw.1.2;have h1:=lz N x f D (by omega) hw.1.1.1 (by omega);have hall:∀t,t∈l->∃s k b,t=.alt s k b/\k<=8/\b.cost<=17 * b.size+b.qJ * D:=λt ht=>by
    obtain⟨s,k,b,rfl,w1,w2⟩:=fV hw.2 t ht;refine⟨s,k,b,rfl,h8 (s,k) (bj.2 ⟨_,ht,rfl⟩),lz N b (f+k) D (by have:=dm ht;simp only[Ct.size]at this;omega) w2 ?_⟩;have:=Tm.VE (show(Ct.alt s k b).tm∈Ct.gp l by rw[Ct.cM];exact UH ht);simp only[Ct.tm,Tm.depth,Tm.dp]at this;omega
   have:Ct.Bf l<=17 * Ct.dt l+Ct.Yi l * D:=by
    clear hs hd hw h8
    induction l with
    |nil=>exact dv _
    |cons a r ih =>
     obtain⟨s,k,b,rfl,w1,w2⟩:=hall a (by simp);have h2:=ih λt ht=>hall t (by simp[ht]);simp only[Ct.Bf,Ct.dt,Ct.Yi,Ct.size,Ct.qJ,cW];omega
   simp only[Ct.cost,Ct.size,Ct.qJ,VA,cW];omega
theorem Gx {t:Ct}{most:Nat}(hm:2<=most/\most<=4000)(hw:t.wf 0=true)(hd:t.tm.depth<=61)(hc:t.cost+1<=most):(t.cS most).2=0:=by
 have h:=gn t.size t 0 0 (aB _) hw (by omega) (kP most) (y_ hm) (by show 1+t.cost<=most;omega);unfold Ct.cS;rw[ah h.e]
theorem V1 {t:Ct}(hw:t.wf 0=true)(hs:t.size<=60)(hd:t.tm.depth<=30):(t.cS 4000).2=0:=by
 refine Gx (by omega) hw (by omega) ?_;have h1:=lz t.size t 0 30 (aB _) hw hd;have h2:=jF t;omega
section
variable {G:Heap}
mutual
theorem Tm.wP:∀(t:Tm) (a d v:Nat),t.te a d=some v->t.size+v=a
 |.mk _ _ _ l,a,d,v,h=>by
  unfold Tm.te at h;split at h
  ·cases h
  ·have:=Tm.yh l _ _ _ h;simp only[Tm.size];omega
theorem Tm.yh:∀(l:List Tm) (a d v:Nat),Tm.oL l a d=some v->Tm.dt l+v=a
 |[],a,d,v,h=>by
  simp only[Tm.oL,bG]at h;simp only[Tm.dt];omega
 |x::r,a,d,v,h=>by
  simp only[Tm.oL]at h;cases hx:x.te a d with
  |none=>rw[hx]at h;cases h
  |some u =>
   rw[hx]at h;have h1:=Tm.wP x a d u hx;have h2:=Tm.yh r u d v h;simp only[Tm.dt];omega
end
theorem Ei {c:Ct}(hw:c.wf 0=true)(hs:c.size<=60)(hd:c.tm.depth<=30)(D:Bool)(F g F':Nat) :
  x8 (bI (c.cS 4000).1 D F).2.1/\((bI (c.cS 4000).1 D F).2.1=0->(fS g D F' c).2.2=0->(bI (c.cS 4000).1 D F).2.2.tm=(fS g D F' c).1):=by
 obtain⟨h1,h2⟩:=Ef eA (by omega) hw (V1 hw hs hd) D F;refine⟨h1,λe1 e2=>?_⟩;obtain⟨s,q1,q2⟩:=wO g D F' c _ (GC hw) hw e2;rw[(h2 e1).O9 q2,q1]
theorem GD {t:Tm}(hf:(t.te 60 600).isSome=true)(hm:t.may 0 false=true):∃c:Ct,c.tm=t/\c.wf 0=true/\c.size<=60:=by
 obtain⟨v,hv⟩:=dM.1 hf;have h1:=Tm.wP t 60 600 v hv;obtain⟨c,rfl,hw⟩:=(Kr t 0).1 hm;exact⟨c,rfl,hw,by rw[<- Ct.iQ];omega⟩
set_option maxHeartbeats 1000000 in
theorem t5 (h8:sw)(t:Tm)(ht:t.wq)(D:Bool):E iE 5 [.ag (bP t.aw),.p (.b D)] []=some (.ret (.p (.b true)),[]):=by
 have h:=Xj;unfold sw at h8;have GH:=λG=>t16 (G:=G) h t ht;obtain⟨tk,tn,ts,tl,hte⟩:=t.jC;rw[h.run (x:=c5)];cases c1:(t.te 60 600).isSome with
 |false =>
  rw[hte,c1]at GH;rw[hte];simp only[bP,ai,au]at GH;simp[c5,aj,h8,GH]
 |true =>
  obtain⟨v,hv⟩:=dM.1 c1;obtain⟨f1,f2,f3⟩:=Tm.tj t 60 600 v hv (by omega);have OD:=λG=>t17 h t f1 (by omega) G;by_cases c2:30<t.depth
  ·have c2':(30:Int)<(t.depth:Nat):=by omega
   rw[hte,c1]at GH;rw[hte]at OD;rw[hte];simp only[bP,ai,au]at GH OD;simp[c5,aj,h8,GH,OD,c2,c2']
  ·have c2':¬ (30:Int)<(t.depth:Nat):=by omega
   have P_:=λG=>t18 (G:=G) h ht (by omega);cases c3:t.may 0 false with
   |false =>
    rw[hte,c1]at GH;rw[hte]at OD;rw[hte,c3]at P_;rw[hte];simp only[bP,ai,au]at GH OD P_;simp[c5,aj,h8,GH,OD,P_,c2,c2']
   |true =>
    obtain⟨c,rfl,hw,hs⟩:=GD c1 c3;rw[c1]at GH;rw[c3]at P_;have Qg:=λG=>t20 (G:=G) h (most:=4000) (by omega) ⟨hw,by omega,by omega,by omega⟩ P_;have hn:=Gt (most:=4000) (by omega) hw (V1 hw hs (by omega));have he:=V1 hw hs (by omega);have a11:=λG=>t11 (G:=G) hn.1 D (F:=150) (by omega);have Qb:=λG=>t21 h (60 * 5001+c.size+1) D 60 c (by unfold wN;split<;>omega) (by omega) hw (by omega) G;obtain⟨k1,k2⟩:=Ei hw hs (by omega) D 150 (60 * 5001+c.size+1) 60;have hfit:=ta hn.1 D 150;have hT:=(VD eA hn.1 D 150).2.1.ok.2.1;obtain⟨t0,t1,t2,t3,t4,t5,t6,t7,t8,hTe⟩:∃t0 t1 t2 t3 t4 t5 t6 t7 t8,(bI (c.cS 4000).1 D 150).1.T=[t0,t1,t2,t3,t4,t5,t6,t7,t8]:=by
     match (bI (c.cS 4000).1 D 150).1.T,hT with
     |[t0,t1,t2,t3,t4,t5,t6,t7,t8],_=>exact⟨t0,t1,t2,t3,t4,t5,t6,t7,t8,rfl⟩
    rw[he]at Qg;have Cr:=fun (b:Tm) G=>t13 h _ hfit b G;rw[aO.v7]at Cr;generalize hE:fS (60 * 5001+c.size+1) D 60 c=ev at *;obtain⟨vt,vn,ve⟩:=ev;obtain⟨vk,vn',vs,vl,hve⟩:=vt.jC;generalize hR:bI (c.cS 4000).1 D 150=R at *;obtain⟨RS,Re,Rs⟩:=R;obtain⟨sk,sn,snm,sl,hsh⟩:=Rs.sv;rw[hte]at GH OD P_ Qg Qb;rw[hte];dsimp only at *;by_cases c4:Re=0
    ·by_cases c5':ve=0
     ·have a13':=Cr vt;rw[show Rs.tm.same vt=true from Tm.pL.2 (k2 c4 c5')]at a13';rw[hve,hsh]at a13';simp only[Tm.nv,hve,bP,ai,au]at GH OD P_ Qg Qb a13';simp only[fu,ah c4,Vt,cJ,hTe,hsh,ai,au,bP]at a11;rw[c4]at a11;rw[c5']at Qb;simp only[fW,uC,Eo,Bn]at a11 Qg Qb;simp[c5,aj,h8,GH,OD,P_,c2,c2',Qg,a11,Qb,a13']
     ·have c5'':¬ (ve:Int)=0:=by omega
      simp only[Tm.nv,hve,bP,ai,au]at GH OD P_ Qg Qb;simp only[fu,ah c4,Vt,cJ,hTe,hsh,ai,au,bP]at a11;rw[c4]at a11;simp only[fW,uC,Eo,Bn]at a11 Qg Qb;simp[c5,aj,h8,GH,OD,P_,c2,c2',Qg,a11,Qb,c5',c5'']
    ·have c4':¬ (Re:Int)=0:=by omega
     simp only[Tm.nv,hve,bP,ai,au]at GH OD P_ Qg Qb;simp only[fu,aa c4,Vt,cJ,hTe,ai,au,bP]at a11;simp only[fW,uC,Eo,Bn]at a11 Qg Qb;rcases k1 with e|e|e|e
     ·exact absurd e c4
     all_goals
      subst e;simp only[MN,KL,KM]at a11;simp[c5,aj,h8,GH,OD,P_,c2,c2',Qg,a11,Qb]
end
section
variable {pg:fX}{G:Heap}
theorem Uo (h:bY pg){body:aU}(hb:body=T_)(k n v:Int)(s:List UInt8)(l:List Tm)(hl:l.length<=60)
  (ih:∀t∈l,∀v:Int,∃r:Int,∀(G:Heap),UM pg (E pg) 49 [.ag (bP t.aw),.p (.i .i64 v)] G=some (.ret (.p (.i .i64 r)),G)) :
  ∀m i (a:Int),i+m=l.length->∃r:Int,
  L pg 0 [1,2,5,6] body [(1,.p (.i .i64 v)),(2,.ptr 0 0),(5,.p (.i .i64 a)),(6,.p (.i .i64 (i:Nat)))] [.box [.p (iv k),.p (iv n),.p (.s s),.p (.sl (l.map Tm.aw))]] =
   some (.exit 0,[(1,.p (.i .i64 v)),(2,.ptr 0 0),(5,.p (.i .i64 r)),(6,.p (.i .i64 l.length)),(18,.p (.b false))],[.box [.p (iv k),.p (iv n),.p (.s s),.p (.sl (l.map Tm.aw))]])
 |0,i,a,hi=>by
  have:i=l.length:=by omega
  subst this;refine⟨a,?_⟩;rw[dA hb];simp[T_,aj]
 |m+1,i,a,hi=>by
  have hlt:i<l.length:=by omega
  have hx:l[i]?=some l[i]:=gG hlt;obtain⟨q,e1⟩:=ih l[i] (aE hx) (IntKind.i64.wrap (v+de k n));have w1:=cR ((i:Int)+1);obtain⟨r,ih'⟩:=Uo h hb k n v s l hl ih m (i+1) (IntKind.i64.wrap (a+q)) (by omega);rw[show((i+1:Nat):Int)=(i:Int)+1 from by omega]at ih';have t68':=λG=>t68 (G:=G) h k n s (l.map Tm.aw);have k68:bC pg 68=false:=h.bq (x:=YP) rfl;simp only[bP]at e1;refine⟨r,?_⟩;rw[dA hb];simp[T_,aj,hlt,hx,Tm.aS,e1,t68',k68,Tm.pS,Tm.ku,w1,gc,exp,aQ,UG,ih']
theorem t49 (h:bY pg):∀(t:Tm),t.qH->∀v:Int,∃r:Int,∀(G:Heap),UM pg (E pg) 49 [.ag (bP t.aw),.p (.i .i64 v)] G=some (.ret (.p (.i .i64 r)),G):=by
 refine Tm.ind λk n s l ih hf v=>?_;have hfl:l.length<=60/\∀t∈l,t.qH:=by cases hf with|mk h1 h2=>exact⟨h1,h2⟩
 obtain⟨r,hL⟩:=Uo h (body:=T_) rfl k n v s l hfl.1 (λt ht v=>ih t ht (hfl.2 t ht) v) l.length 0 0 (by omega);simp only[fW]at hL;by_cases c1:k=1
 ·by_cases c2:n=v
  ·refine⟨1,λG=>Ut ?_ (by simp only[Tm.aw];rfl) rfl⟩;rw[h.run (x:=Uf)];simp[Uf,aj,Tm.aw,bP,Tm.ba,c1,c2]
  ·refine⟨0,λG=>Ut ?_ (by simp only[Tm.aw];rfl) rfl⟩;rw[h.run (x:=Uf)];simp[Uf,aj,Tm.aw,bP,Tm.ba,c1,c2]
 ·refine⟨r,λG=>Ut ?_ (by simp only[Tm.aw];rfl) rfl⟩;rw[h.run (x:=Uf)];simp[Uf,aj,Tm.aw,bP,Tm.ba,c1,gc,exp,aQ,UG,hL]
def Uc (k n:Int)(s:List UInt8)(l:List Tm)(rs:List Int)(g:Nat):Heap :=
 [.box [.p (iv k),.p (iv n),.p (.s s),.p (.sl (l.map Tm.aw))],.arr 1 (rs.map λx=>[iv x]) g 0]
theorem Ua (rs:List Int):bH 1 (rs.map λx=>[iv x])=true:=by
 induction rs with
 |nil=>rfl
 |cons a r ih=>simpa [bH,aS,PV.flat] using ih
theorem Ui (h:bY pg){body:aU}(hb:body=T5)(k n:Int)(s:List UInt8)(l:List Tm)(hl:∀t∈l,t.qH) :
  ∀m i (rs:List Int) (g:Nat),i+m=8->rs.length+m<=2 ^ 30->∃(rs':List Int) (g':Nat) (j:Int),rs'.length<=rs.length+m /\
  L pg 0 [1,3,4] body [(1,.ptr 0 0),(3,.arr 1 rs.length g),(4,.p (.i .i64 (i:Nat)))] (Uc k n s l rs g) =
   some (.exit 0,[(1,.ptr 0 0),(3,.arr 1 rs'.length g'),(4,.p (.i .i64 j)),(42,.p (.b false))],Uc k n s l rs' g')
 |0,i,rs,g,hi,hr=>by
  have:i=8:=by omega
  subst this;refine⟨rs,g,8,by omega,?_⟩;rw[dA hb];by_cases c1:(8:Int)<n
  ·simp[T5,aj,Uc,c1]
  ·simp[T5,aj,Uc,c1]
 |m+1,i,rs,g,hi,hr=>by
  have hi8:(i:Int)<8:=by omega
  have hi8':i<8:=by omega
  by_cases c1:(i:Int)<n
  ·by_cases c2:k=6
   ·cases l with
    |nil =>
     refine⟨rs,g,i,by omega,?_⟩;rw[dA hb];simp[T5,aj,Uc,c1,c2,hi8,hi8']
    |cons a l =>
     obtain⟨q,e1⟩:=t49 h a (hl a (by simp)) (IntKind.i64.wrap (IntKind.i64.wrap (n-1)-(i:Int)));have w1:=cR ((i:Int)+1);obtain⟨rs',g',j,h1,ih'⟩:=Ui h hb k n s (a::l) hl m (i+1) (rs++[q]) (g+1) (by omega) (by simp;omega);rw[show((i+1:Nat):Int)=(i:Int)+1 from by omega]at ih';have e7:bZ (rs.length+1) 8=true:=by simp[bZ];omega
     have ok1:aS 1 [iv q]=true:=rfl;have ok2:bH 1 [[iv q]]=true:=rfl;have ok3:aS 1 [PV.i .i64 0]=true:=rfl;have e10:List.take rs.length (rs.map λx=>[iv x])=rs.map λx=>[iv x]:=aF (by simp);have hpos:(0:Int)<(l.length:Int)+1:=by omega
     subst c2;have k49:bC pg 49=false:=h.bq (x:=Uf) rfl;simp only[bP]at e1;simp only[aR,av,aJ]at h1;refine⟨rs',g',j,by omega,?_⟩;rw[dA hb];unfold Uc at ih' ⊢;simp only[bB,aR,av,aJ,aG,ai,au]at ih' ⊢;simp[T5,aj,c1,hi8,hi8',hpos,Tm.aS,Tm.pS,Tm.ku,e1,k49,w1,cX,Uu.Uv,cO,Vy,ee,ok1,ok2,ok3,e7,e10,gc,exp,aQ,UG];exact ih'
   ·refine⟨rs,g,i,by omega,?_⟩;rw[dA hb];simp[T5,aj,Uc,c1,c2,hi8,hi8']
  ·refine⟨rs,g,i,by omega,?_⟩;rw[dA hb];simp[T5,aj,Uc,c1,hi8,hi8']
theorem Uj (h:bY pg){body:aU}(hb:body=T7)(k n:Int)(s:List UInt8)(l:List Tm)(hl:l.length<=60)
  (ih:∀t∈l,∃rs:List Int,rs.length<=9 * t.size/\∀(G:Heap),UM pg (E pg) 36 [.ag (bP t.aw)] G=some (.ret (.p (.sl (rs.map λx=>[iv x]))),G)) :
  ∀m i (rs:List Int) (g:Nat),i+m=l.length->rs.length+9 * Tm.dt (l.drop i)<=2 ^ 30->∃(rs':List Int) (g':Nat),rs'.length<=rs.length+9 * Tm.dt (l.drop i) /\
  L pg 0 [1,3,5] body [(1,.ptr 0 0),(3,.arr 1 rs.length g),(5,.p (.i .i64 (i:Nat)))] (Uc k n s l rs g) =
   some (.exit 2,[(1,.ptr 0 0),(3,.arr 1 rs'.length g'),(5,.p (.i .i64 l.length)),(62,.p (.b false))],Uc k n s l rs' g')
 |0,i,rs,g,hi,hr=>by
  have:i=l.length:=by omega
  subst this;refine⟨rs,g,by omega,?_⟩;rw[dA hb];simp[T7,aj,Uc]
 |m+1,i,rs,g,hi,hr=>by
  have hlt:i<l.length:=by omega
  have hx:l[i]?=some l[i]:=gG hlt;obtain⟨q,hq,e1⟩:=ih l[i] (aE hx);have w1:=cR ((i:Int)+1);rw[Tm.Cj hlt]at hr ⊢;obtain⟨rs',g',h1,ih'⟩:=Uj h hb k n s l hl ih m (i+1) (rs++q) (g+1) (by omega) (by simp;omega);rw[show((i+1:Nat):Int)=(i:Int)+1 from by omega]at ih';have e7:bZ (rs.length+q.length) 8=true:=by simp[bZ];omega
  have e10:List.take rs.length (rs.map λx=>[iv x])=rs.map λx=>[iv x]:=aF (by simp);have e11:=Ua q;have k36:bC pg 36=false:=h.bq (x:=Uh) rfl;simp only[bP]at e1;simp only[aR]at h1;refine⟨rs',g',by omega,?_⟩;rw[dA hb];unfold Uc at ih' ⊢;simp only[bB,aR]at ih' ⊢;simp[T7,aj,hlt,hx,Tm.aS,Tm.pS,Tm.ku,e1,k36,w1,cX,e7,e10,e11,gc,exp,aQ,UG];exact ih'
theorem t36 (h:bY pg):∀(t:Tm),t.qH->t.size<=2 ^ 20->∃rs:List Int,rs.length<=9 * t.size/\∀(G:Heap),UM pg (E pg) 36 [.ag (bP t.aw)] G=some (.ret (.p (.sl (rs.map λx=>[iv x]))),G):=by
 refine Tm.ind λk n s l ih hf hsz=>?_;have hfl:l.length<=60/\∀t∈l,t.qH:=by cases hf with|mk h1 h2=>exact⟨h1,h2⟩
 simp only[Tm.size]at hsz ⊢;have ih':∀t∈l,∃rs:List Int,rs.length<=9 * t.size/\∀(G:Heap),UM pg (E pg) 36 [.ag (bP t.aw)] G=some (.ret (.p (.sl (rs.map λx=>[iv x]))),G):=λt ht=>ih t ht (hfl.2 t ht) (by have:=Tm.Gv ht;omega);by_cases c1:k=2/\0<l.length
 ·obtain⟨c1,c2⟩:=c1;subst c1
  match l,c2 with
  |a::l,_ =>
   obtain⟨q,e1⟩:=t49 h a (hfl.2 a (by simp)) 0;obtain⟨rs1,g1,j1,p1,L1⟩:=Ui h (body:=T5) rfl 2 n s (a::l) hfl.2 8 0 [q] 1 (by omega) (by simp);obtain⟨rs2,g2,p2,L2⟩:=Uj h (body:=T7) rfl 2 n s (a::l) hfl.1 ih' (a::l).length 0 rs1 g1 (by omega) (by simp only[bp,av,aJ]at p1 ⊢;omega);simp only[fW,bp,av,aJ]at L1 L2 p1 p2;have e10:List.take rs2.length (rs2.map λx=>[iv x])=rs2.map λx=>[iv x]:=aF (by simp);have ok1:aS 1 [iv q]=true:=rfl;have ok2:bH 1 [[iv q]]=true:=rfl;have ok3:aS 1 [PV.i .i64 0]=true:=rfl;have hpos:(0:Int)<(l.length:Int)+1:=by omega
   have k49:bC pg 49=false:=h.bq (x:=Uf) rfl;have e7:bZ 1 8=true:=rfl;have hbel:Out.bf 0 (.ret (.p (.sl (rs2.map λx=>[iv x]))))=true:=rfl;refine⟨rs2,by omega,λG=>Ut ?_ (by simp only[Tm.aw];rfl) hbel⟩;simp only[bP]at e1;unfold Uc at L1 L2;rw[h.run (x:=Uh)];simp[Uh,aj,Tm.aw,bP,Tm.ba,hpos,Tm.aS,Tm.pS,Tm.ku,e1,k49,cX,Uu.Uv,cO,Vy,ee,ok1,ok2,ok3,e7,e10,gc,exp,aQ,UG];rw[show L pg 0 [1,3,4] T5 [(1,AV.ptr 0 0),(3,AV.arr 1 1 1),(4,AV.p (PV.i IntKind.i64 0))]
      [fE.box [AV.p (iv 2),AV.p (iv n),AV.p (PV.s s),AV.p (PV.sl (a.aw::List.map Tm.aw l))],
       fE.arr 1 [[PV.i IntKind.i64 q]] 1 0]=_ from L1]
   simp[aj,gc,exp,aQ,UG];rw[show L pg 0 [1,3,5] T7 [(1,AV.ptr 0 0),(3,AV.arr 1 rs1.length g1),(5,AV.p (PV.i IntKind.i64 0))]
      [fE.box [AV.p (iv 2),AV.p (iv n),AV.p (PV.s s),AV.p (PV.sl (a.aw::List.map Tm.aw l))],
       fE.arr 1 (List.map (λx=>[iv x]) rs1) g1 0]=_ from L2]
   simp[aj,gc,exp,aQ,UG,e10]
 ·obtain⟨rs1,g1,j1,p1,L1⟩:=Ui h (body:=T5) rfl k n s l hfl.2 8 0 [] 0 (by omega) (by simp);obtain⟨rs2,g2,p2,L2⟩:=Uj h (body:=T7) rfl k n s l hfl.1 ih' l.length 0 rs1 g1 (by omega) (by simp only[bp,av,aJ]at p1 ⊢;omega);simp only[fW,bp,av,aJ]at L1 L2 p1 p2;have e10:List.take rs2.length (rs2.map λx=>[iv x])=rs2.map λx=>[iv x]:=aF (by simp);have ok3:aS 1 [PV.i .i64 0]=true:=rfl;have hbel:Out.bf 0 (.ret (.p (.sl (rs2.map λx=>[iv x]))))=true:=rfl;refine⟨rs2,by omega,λG=>Ut ?_ (by simp only[Tm.aw];rfl) hbel⟩;unfold Uc at L1 L2;rw[h.run (x:=Uh)];by_cases c2:k=2
  ·have c3:l=[]:=by
    cases l with
    |nil=>rfl
    |cons a r=>exact absurd ⟨c2,by simp⟩ c1
   subst c3;simp[Uh,aj,Tm.aw,bP,Tm.ba,c2,Tm.aS,Tm.pS,Tm.ku,cX,Uu.Uv,ok3,gc,exp,aQ,UG];subst c2;rw[show L pg 0 [1,3,4] T5 [(1,AV.ptr 0 0),(3,AV.arr 1 0 0),(4,AV.p (PV.i IntKind.i64 0))]
      [fE.box [AV.p (iv 2),AV.p (iv n),AV.p (PV.s s),AV.p (PV.sl [])],fE.arr 1 [] 0 0]=_ from L1]
   simp[aj,gc,exp,aQ,UG];rw[show L pg 0 [1,3,5] T7 [(1,AV.ptr 0 0),(3,AV.arr 1 rs1.length g1),(5,AV.p (PV.i IntKind.i64 0))]
      [fE.box [AV.p (iv 2),AV.p (iv n),AV.p (PV.s s),AV.p (PV.sl [])],
       fE.arr 1 (List.map (λx=>[iv x]) rs1) g1 0]=_ from L2]
   simp[aj,gc,exp,aQ,UG,e10]
  ·simp[Uh,aj,Tm.aw,bP,Tm.ba,c2,Tm.aS,Tm.pS,Tm.ku,cX,Uu.Uv,ok3,gc,exp,aQ,UG];rw[show L pg 0 [1,3,4] T5 [(1,AV.ptr 0 0),(3,AV.arr 1 0 0),(4,AV.p (PV.i IntKind.i64 0))]
      [fE.box [AV.p (iv k),AV.p (iv n),AV.p (PV.s s),AV.p (PV.sl (l.map Tm.aw))],fE.arr 1 [] 0 0]=_ from L1]
   simp[aj,gc,exp,aQ,UG];rw[L2];simp[aj,gc,exp,aQ,UG,e10]
theorem Um (h:bY pg){body:aU}(hb:body=T8)(rs:List Int)(hl:rs.length<=2 ^ 40):∀m i (a:Int),i+m=rs.length->∃r:Int,
  L pg 0 [3,4,5] body [(3,.p (.i .i64 a)),(4,.p (.sl (rs.map λx=>[iv x]))),(5,.p (.i .i64 (i:Nat)))] [] =
   some (.exit 0,[(3,.p (.i .i64 r)),(4,.p (.sl (rs.map λx=>[iv x]))),(5,.p (.i .i64 rs.length)),(11,.p (.b false))],[])
 |0,i,a,hi=>by
  have:i=rs.length:=by omega
  subst this;refine⟨a,?_⟩;rw[dA hb];simp[T8,aj]
 |m+1,i,a,hi=>by
  have hlt:i<rs.length:=by omega
  have hx:rs[i]?=some rs[i]:=gG hlt;have w1:=cR ((i:Int)+1);have ok1:aS 1 [iv rs[i]]=true:=rfl;by_cases c1:(1:Int)<rs[i]
  ·obtain⟨r,ih'⟩:=Um h hb rs hl m (i+1) (IntKind.i64.wrap (a+IntKind.i64.wrap (rs[i]-1))) (by omega);rw[show((i+1:Nat):Int)=(i:Int)+1 from by omega]at ih';refine⟨r,?_⟩;rw[dA hb];simp[T8,aj,hlt,hx,ok1,c1,w1,gc,exp,aQ,UG,ih']
  ·obtain⟨r,ih'⟩:=Um h hb rs hl m (i+1) a (by omega);rw[show((i+1:Nat):Int)=(i:Int)+1 from by omega]at ih';refine⟨r,?_⟩;rw[dA hb];simp[T8,aj,hlt,hx,ok1,c1,w1,gc,exp,aQ,UG,ih']
theorem t19 (h:bY pg)(t:Tm)(hf:t.qH)(hs:t.size<=2 ^ 20):∃r:Int,∀(G:Heap),UM pg (E pg) 19 [.ag (bP t.aw)] G=some (.ret (.p (.i .i64 r)),G):=by
 obtain⟨rs,q1,q2⟩:=t36 h t hf hs;obtain⟨r,hL⟩:=Um h (body:=T8) rfl rs (by omega) rs.length 0 0 (by omega);obtain⟨k,n,s,l⟩:=t;refine⟨r,λG=>Ut ?_ (by simp only[Tm.aw];rfl) rfl⟩;simp only[fW]at hL;simp only[Tm.aw,Tm.ba,bP,ai,au]at q2;rw[h.run (x:=Uk)];simp[Uk,aj,Tm.aw,bP,Tm.ba,q2,gc,exp,aQ,UG,hL]
end
end Go.Proofs.Z
section
namespace Go.Proofs.YtffohgbmjjbhiaaGreat
open Go.ChangeShapes Go.WideShapes Go.ChangeAt Go.RowKit Go.Proofs.Z
theorem Tryz.own:ownKnob Tryz.prog.godebug=none:=by kernel_rfl
theorem Tryz.laidOut:laidOutB Tryz.prog=true:=by kernel_rfl
theorem told {f:Nat}{args:List AV}{G:Heap}(he:E iE f args []=some (.ret (.p (.b true)),G)){w:World}{vargs:List Value}(hr:RL (mW w) (λ_=>none) (inf []) vargs args) :
  Calls Tryz.prog f vargs.toArray w λe w'=>e=.returned (.bool true)/\Below w.heap.size w w':=by
 refine(GV JL he (m:=mW w) (w:=w) ⟨λb o v h=>h,λi j l l' h=>(by cases h),λid o h=>(by simp at h),λid loc h=>(by cases h)⟩ hr).mono λe w' h=>?_;obtain⟨m',cA,hI,hS,hO⟩:=h;refine⟨?_,⟨hS.fr.os,hS.fr.tape,hS.fr.output,hS.fr.size,λk hk=>hS.fr.gD k hk (λid loc h=>(by cases h))⟩⟩;cases e with
 |returned v =>
  have h:R m' cA (inf G) v (.p (.b true)):=hO;cases h with
  |p v x hp=>cases hp;rfl
 |_=>exact hO.elim
section
variable {H:Type}{aw:TypeId×Value->H}{W:World}{aK:Nat}{spare:Nat->Bool}{held:Bool}
set_option maxRecDepth 100000 in
theorem Qn {r:Reach}{b0:Nat}{v:Value}{d:DataW H}{p:List MemPlace}(hv:Value.okWide Tryz.prog W r b0 42 v)(h:DataW.Trod aw Tryz.prog W aK spare held 42 v d p) :
  ∃t:Tm,t.wq/\R (mW W) (λ_=>none) (inf []) v (.ag (bP t.aw)):=by
 obtain⟨v0,v1,v2,v3,y0,y1,y2,y3,n,rfl,_,_,h0,h1,h2,h3⟩:=Go.Joins.open_agg4 Tryz.underlying42 (by kernel_rfl) QL hv h;obtain⟨k0,e0,_⟩:=uz h0;obtain⟨k1,e1,_⟩:=uz h1;obtain⟨k2,e2,n2⟩:=C8 h2;obtain⟨a,c,l,e,rr,hq,hn⟩:=xW Tm.aw Tm.wq Tryz.underlying40 QL (by omega) Tm.aS h3 (λn' _ _ _ g _=>Qu n' g);cases e0;cases e1;cases e2;cases e;have hM:=x6;refine⟨.mk k0 k1 k2 l,.mk (by omega) (by omega) hq,?_⟩;refine .ag _ _ (by simp only[Tm.aw];rfl) λj v c h1 h2=>?_;simp only[Tm.aw,Tm.ba,bP,ai,au]at h2
 match j with
 |0=>simp at h1 h2;subst h1 h2;exact .p _ _ (.i _ _)
 |1=>simp at h1 h2;subst h1 h2;exact .p _ _ (.i _ _)
 |2=>simp at h1 h2;subst h1 h2;exact .p _ _ (.s _)
 |3=>simp at h1 h2;subst h1 h2;exact .p _ _ rr
 |j+4=>simp at h1
end
theorem Qo {t:Tm}{D:Bool}(ht:t.wq){w:World}{v:Value}(hv:R (mW w) (λ_=>none) (inf []) v (.ag (bP t.aw))) :
  Calls Tryz.prog 5 #[v,.bool D] w λe w'=>e=.returned (.bool true)/\Below w.heap.size w w':=by
 refine told (vargs:=[v,.bool D]) (t5 Ca t ht D) ⟨rfl,λj v' c h1 h2=>?_⟩
 match j with
 |0=>simp at h1 h2;subst h1 h2;exact hv
 |1=>simp at h1 h2;subst h1 h2;exact .p _ _ (.b _)
 |j+2=>simp at h1
set_option maxRecDepth 100000 in
theorem OC (os:Os)(started:os.Started)(H:Type)(aw:TypeId×Value->H) :
  ReturnsInHanded {} Tryz.checked os 5 .any (Rows.readRightSpec.pre6 aw Tryz.prog Tryz.f5 Rows.readRightRow.domain false) (Rows.readRightSpec.post aw Tryz.prog Tryz.f5 false true false false):=by
 refine returnsInHanded_of_change (C:=Tryz.checked) Tryz.own started (by kernel_rfl) Tryz.func5
  (ChangeSpec.witness6 (enc:=aw) (C:=Tryz.checked) false ⟨#[],#[.agg #[.int .i64 0,.int .i64 0,.string ⟨#[]⟩,.slice none 0 0],.bool false],[]⟩ 8 (by kernel_rfl) (by kernel_rfl) (by kernel_rfl) (by kernel_rfl)) ?_
 intro W aK args ds gs before hval0 hW hcnd _;have hval:∀(j:Nat) t v,Tryz.f5.params[j]?=some t->args[j]?=some v->Value.okWide Tryz.prog W .any aK t v:=hval0;have hW':=hW;obtain⟨p,q,hA0,hV,rfl,hfz,hnd⟩:=hW;have hA:DataW.TrodAll aw Tryz.prog W 0 (λ_=>true) true Tryz.f5.params.toList args.toList ds p:=hA0;rw[Tryz.params5]at hA hval;obtain⟨v0,vs0,d0,ds0,p0,q0,hargs,rfl,rfl,h0,r0⟩:=trodAll_cons hA;obtain⟨v1,vs1,d1,ds1,p1,q1,rfl,rfl,rfl,h1,r1⟩:=trodAll_cons r0;obtain⟨rfl,rfl,rfl⟩:=trodAll_nil r1;obtain rfl:args=#[v0,v1]:=by cases args;simp_all
 obtain⟨rfl,rfl⟩:=trodVars_none hV;have k0:=h0;have lt0:∀x∈p0,x.block<W.heap.size:=by obtain⟨m,hm⟩:=k0;exact DataW.trod_lt m _ _ _ hm
 obtain⟨t,ht,hv⟩:=Qn (hval 0 42 v0 rfl rfl) h0;obtain⟨D,rfl,rfl,rfl⟩:=open_bool Tryz.underlying4 (hval 1 4 v1 rfl rfl) h1;clear hA0 hval0;refine(Qo (D:=D) ht hv).mono λe W' ⟨he,bel⟩=>?_;subst he;exact⟨_,rfl,_,_,_,[],_,[],hW',trodAll_mk1 (shut_bool Tryz.underlying4 _),(trodAll_cons_mk (Below.trod Tryz.laidOut (by kernel_rfl) (UC (by kernel_rfl)) k0 bel lt0) (trodAll_cons_mk (shut_bool Tryz.underlying4 _) trodAll_mk0)),rfl,bel.frame _,λh=>by cases h⟩
theorem readRight_holds:Rows.ReadRightSaid :=
 OpenClaim.holds_of_wide 5 Tryz.f5 rfl rfl rfl rfl rfl rfl rfl ⟨rfl,rfl,rfl,rfl,rfl⟩ rfl rfl rfl rfl rfl (by kernel_rfl) Tryz.func5 (by kernel_rfl)
  (UC (by kernel_rfl)) (by unfold Func.isWrapper;rw[aa (of_decide_eq_false (by kernel_rfl))];exact⟨rfl,rfl⟩)
  (λos started H aw _=>OC os started H aw)
end Go.Proofs.YtffohgbmjjbhiaaGreat
end
