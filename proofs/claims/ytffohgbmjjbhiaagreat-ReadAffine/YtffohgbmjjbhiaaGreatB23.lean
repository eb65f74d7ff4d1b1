/- A part of the proof. -/
import Derived.Test.YtffohgbmjjbhiaaGreatB22
import Derived.Test.YtffohgbmjjbhiaaGreatB18
import Derived.Test.YtffohgbmjjbhiaaGreatB21
set_option linter.all false
namespace Go.Proofs.Z
section
variable {pg:fX}
inductive Len (n:aI):aq->Nat->Prop
 |stop {q:aq}:q.aT=0->Len n q 0
 |step {q:aq} {k:Nat}:q.aT≠0->Len n (n.pr ⟨q.aD,0⟩) k->Len n q (k+1)
theorem Len.uniq {n:aI}{q:aq}{k l:Nat}(h:Len n q k)(h':Len n q l):k=l:=by
 induction h generalizing l with
 |stop h0=>cases h' with
  |stop _=>rfl
  |step h1 _=>exact absurd h0 h1
 |step h0 _ ih=>cases h' with
  |stop h1=>exact absurd h1 h0
  |step _ h2=>rw[ih h2]
theorem At.len {n:aI}{q:aq}{C:Cx}{t:T}(h:At n.gr sD q C t):∃k,Len n q k:=by
 refine At.ind (S:=λΓ q C t=>Γ=sD->∃k,Len n q k) (λΓ q x C t hx hl he=>?_) h rfl;have hl:=hl.mono (λ_ _ _ _ h=>h.2);obtain⟨m,j⟩:=q;have step:∀{Γ:Bd},j≠0->(Γ=sD->∃k,Len n (n.gr.pr ⟨m,0⟩) k)->Γ=sD->∃k,Len n ⟨m,j⟩ k:=fun {Γ} h0 h1 h2=>by
  obtain⟨k,hk⟩:=h1 h2;exact⟨k+1,.step h0 hk⟩
 by_cases h0:j=0
 ·exact⟨0,.stop h0⟩
 dsimp only at hl;cases hl with
 |var a b c d=>rw[he]at c;exact c.elim
 |app a b c d e=>exact step h0 d he
 |case a b c d e f=>exact step h0 e he
 |op a b c d e=>exact step h0 d he
 |half a b c d=>exact step h0 d he
 |Em a b=>exact step h0 b he
 |_=>exact absurd rfl h0
theorem tW.WD {g:Gr}{S:Bd->aq->Cx->T->Prop}{m:Nat}{x:Up}{k:Nat}{C:Cx}{t:T}(h:tW g S sD m x k C t)(h0:k≠0):WD x.ao k=true/\∃C' t',S sD (g.pr ⟨m,0⟩) C' t':=by
 cases h with
 |var a b c d=>exact c.elim
 |app a b c d e=>exact⟨by rw[a];rfl,_,_,d⟩
 |case a b c d e f=>exact⟨by rw[a];rfl,_,_,e⟩
 |op a b c d e=>exact⟨by rw[a];rfl,_,_,d⟩
 |half a b c d=>exact⟨by rw[a];rfl,_,_,d⟩
 |Em a b =>
  refine⟨?_,_,_,b⟩;obtain⟨p,q,X,c,h1,h2,_,_⟩:=a;generalize x.ao=kk at *;cases h2<;>rfl
 |_=>exact absurd rfl h0
theorem Db {n:aI}(ho:n.Ok):∀(f:Nat) (path:List Nat) (q:aq) {C:Cx} {t:T} {k:Nat},q.aT≠0->n.has q->At n.gr sD q C t->Len n q k->(∀c,c∈path->∃l,k<=l/\Len n (n.pr ⟨c,0⟩) l)->path.Nodup->(∀c,c∈path->c<n.ae.length)->n.ae.length+1<=f+path.length ->
  (n.walk f path q).2.2=(true,0)/\∃s C' t',s≠0/\At n.gr sD ⟨(n.walk f path q).2.1,s⟩ C' t'/\(n.pr ⟨(n.walk f path q).2.1,0⟩).aT=0
 |0,path,q,C,t,k,h0,hh,ha,hk,hp,hn,hlt,hf=>by
  have:=lG hn hlt;omega
 |f+1,path,q,C,t,k,h0,hh,ha,hk,hp,hn,hlt,hf=>by
  obtain⟨x,hx,hl⟩:=ha.lay;obtain⟨h1,C',t',h2⟩:=hl.WD h0;have hx':n.ae[q.aD]?=some x:=hx;cases hk with
  |stop e=>exact absurd e h0
  |@step _ k1 _ hk1 =>
   have hnot:¬ path.contains q.aD=true:=λe=>by
    rw[e_]at e;obtain⟨l,e1,e2⟩:=hp _ e;have:=hk1.uniq e2;omega
   have hka:vO n q.aD=x.ao:=by unfold vO;rw[hx']
   unfold aI.walk;rw[aa hnot,aa h0,hka,h1,aa (by simp)];by_cases h4:(n.pr ⟨q.aD,0⟩).aT=0
   ·rw[ah h4];exact⟨rfl,q.aT,C,t,h0,ha,h4⟩
   ·rw[aa h4];refine Db ho f _ _ h4 (ho.lk ⟨q.aD,0⟩ (aI.JD hh) id).1 h2 hk1 (λc hc=>?_) ?_ (λc hc=>?_) (by simp;omega)
    ·rcases Uz.1 hc with hc|hc
     ·obtain⟨l,e1,e2⟩:=hp c hc;exact⟨l,by omega,e2⟩
     ·simp only[br]at hc;subst hc;exact⟨k1,aB _,hk1⟩
    ·rw[fj];refine⟨hn,by simp,λa ha b hb e=>?_⟩;simp only[br]at hb;subst e;subst hb;exact hnot (e_.2 ha)
    ·rcases Uz.1 hc with hc|hc
     ·exact hlt c hc
     ·simp only[br]at hc;subst hc;exact(gE hx').1
theorem tW.zero {g:Gr}{S:Bd->aq->Cx->T->Prop}{Γ:Bd}{m:Nat}{y:Up}{C:Cx}{t:T}(h:tW g S Γ m y 0 C t):(fY y.ao=2/\y.Us=C.length)\/(fY y.ao=3/\∃k D,Cc y.ao y.Us k D C):=by
 cases h with
 |lam a b c d=>exact .inl ⟨by rw[a];rfl,b⟩
 |UW a b c d e=>exact .inl ⟨by rw[a];rfl,b⟩
 |int a b c=>exact .inl ⟨by rw[a];rfl,b⟩
 |fail a b c=>exact .inl ⟨by rw[a];rfl,b⟩
 |out a b =>
  refine .inr ⟨?_,_,_,a⟩;have:=a.aT.2.2;rcases this with e|e|e<;>rw[e]<;>rfl
 |Em a b=>have:=a.aT;omega
theorem Ww {x y:Up}(h:x.Us<y.Us):(dD x y).2=0\/(dD x y).2=141:=by
 unfold dD;rw[aa (by omega)];split
 ·exact .inr rfl
 ·exact .inl rfl
theorem tX {r:cF×Nat}(h:r.2=0\/r.2=141):(fU r).2=0\/(fU r).2=141:=by
 unfold fU;split
 ·exact .inl rfl
 ·exact h
theorem Ec {x y:Up}(hx:fY x.ao=1)(hy:fY y.ao=2)(hl:(x.ao=3\/x.ao=9)->x.Us=y.Us):(aX x y).2=0:=by
 unfold aX;rw[aa (by omega),aa (by omega),aa (by omega),aa (by omega),aa (by omega),aa (by omega),ah ⟨hx,hy⟩];unfold fi;split
 ·rename_i c;rw[ah (hl (.inl c.1))]
 ·split
  ·rename_i c;unfold jx;rw[ah (hl (.inr c.1))];split<;>rfl
  ·split
   ·rfl
   ·split
    ·unfold VK;split<;>rfl
    ·rfl
theorem Gk {x y:Up}(hx:fY x.ao=1)(hy:fY y.ao=3)(hl:y.Us<x.Us):(aX x y).2=0\/(aX x y).2=141:=by
 unfold aX;rw[aa (by omega),aa (by omega),aa (by omega),aa (by omega),aa (by omega),ah hy];exact tX (Ww hl)
theorem Ed {x y:Up}(hx:fY x.ao=3)(hy:fY y.ao=2)(hl:x.Us<y.Us):(aX x y).2=0\/(aX x y).2=141:=by
 unfold aX;rw[aa (by omega),aa (by omega),aa (by omega),aa (by omega),ah ⟨hx,.inl (by omega)⟩];exact Ww hl
theorem Ee {x y:Up}(hx:fY x.ao=3)(hy:fY y.ao=3)(hl:x.Us=y.Us->x.ao=y.ao):(aX x y).2=0\/(aX x y).2=141:=by
 unfold aX;rw[aa (by omega),aa (by omega),aa (by omega)];by_cases e:x.Us=y.Us
 ·rw[ah ⟨hx,hy,e,hl e⟩];exact .inl rfl
 ·rw[aa (λc=>e c.2.2.1)];by_cases e2:x.Us<=y.Us
  ·rw[ah ⟨hx,.inr e2⟩];exact Ww (by omega)
  ·rw[aa (λc=>c.2.elim (λc=>c hy) e2),ah hy];exact tX (Ww (by omega))
theorem Kn.ao {k l j j':Nat}{X X':Cx}{c:Sg}(h:Kn k j X c)(h':Kn l j' X' c):k=l:=by
 cases h<;>cases h'<;>rfl
theorem Cc.ao {k l v j j':Nat}{D D' C:Cx}(h:Cc k v j D C)(h':Cc l v j' D' C):k=l:=by
 obtain⟨p,q,X,c,h1,h2,rfl,rfl⟩:=h;obtain⟨p',q',X',c',h1',h2',rfl,e⟩:=h';obtain⟨rfl,e2⟩:=Wx e (by omega);cases e2;exact h2.ao h2'
theorem HQ {n:aI}{i j s:Nat}{x y:Up}{C:Cx}{t:T}(h:At n.gr sD ⟨i,s⟩ C t)(h0:s≠0)(hx:n.ae[i]?=some x)(hy:n.ae[j]?=some y)(hpr:n.pr ⟨i,0⟩=⟨j,0⟩):(aX x y).2=0\/(aX x y).2=141:=by
 have hl:=h.Q9 (x:=x) hx;have hy0:∀{C:Cx} {t:T},At n.gr sD (n.gr.pr ⟨i,0⟩) C t->(fY y.ao=2/\y.Us=C.length)\/(fY y.ao=3/\∃k D,Cc y.ao y.Us k D C):=fun {C t} ha=>by
  rw[show n.gr.pr ⟨i,0⟩=⟨j,0⟩ from hpr]at ha;exact(ha.Q9 (x:=y) hy).zero
 have asks:∀{t:T},fY x.ao=1->x.Us=C.length->At n.gr sD (n.gr.pr ⟨i,0⟩) C t->(aX x y).2=0\/(aX x y).2=141:=fun {t} h1 h2 h3=>by
  rcases hy0 h3 with ⟨c1,c2⟩|⟨c1,k,D,c2⟩
  ·exact .inl (Ec h1 c1 (λ_=>h2.trans c2.symm))
  ·exact Gk h1 c1 (by have:=c2.lt;omega)
 cases hl with
 |var a b c d=>exact c.elim
 |app a b c d e=>exact asks (by rw[a];rfl) b d
 |case a b c d e f=>exact asks (by rw[a];rfl) b e
 |op a b c d e=>exact asks (by rw[a];rfl) b d
 |half a b c d=>exact asks (by rw[a];rfl) b d
 |Em a b =>
  have hc:fY x.ao=3:=by
   have:=a.aT.2.2;rcases this with e|e|e<;>rw[e]<;>rfl
  rcases hy0 b with ⟨c1,c2⟩|⟨c1,k,D,c2⟩
  ·exact Ed hc c1 (by have:=a.lt;omega)
  ·refine Ee hc c1 (λe=>?_);rw[e]at a;exact a.ao c2
 |_=>exact absurd rfl h0
def Reads (n:aI)(p:aq)(d:Nat)(t:T):Prop:=∀C:Cx,C.length=d->At n.gr sD (n.pr p) C t
theorem Qj {k v:Nat}{d:Nat}(h:∀C:Cx,C.length=d->∃j D,Cc k v j D C):False:=by
 obtain⟨j,D,h1⟩:=h (List.replicate d .o) (by simp);obtain⟨j',D',h2⟩:=h (List.replicate d (.l .o)) (by simp);obtain⟨p,q,X,c,a1,a2,_,a3⟩:=h1;obtain⟨p',q',X',c',b1,b2,_,b3⟩:=h2;have e1:c=.o:=wL (a:=Sg.o) (n:=d) (by rw[a3];simp);have e2:c'=.l .o:=wL (a:=Sg.l .o) (n:=d) (by rw[b3];simp);subst e1 e2;cases a2;cases b2
def Head (n:aI)(i d:Nat)(y:Up)(t:T):Prop :=
 (y.ao=2/\∃b r,qG t (.jJ (.lam b) r))\/(y.ao=10/\qG t (.int y.n))\/(y.ao=13/\qG t .fail) \/
 (y.ao=8/\∃l,qG t (.UW y.name l)/\l.length+1=y.to.length/\∀(k:Nat) (t':T),l[k]?=some t'->Reads n ⟨i,k+1⟩ (d+1) t')
theorem Reads.head {n:aI}{p:aq}{d i:Nat}{t:T}{y:Up}(h:Reads n p d t)(hp:n.pr p=⟨i,0⟩)(hy:n.ae[i]?=some y):Head n i d y t:=by
 have hl:∀C:Cx,C.length=d->tW n.gr (At n.gr) sD i y 0 C t:=λC hC=>by
  have:=h C hC;rw[hp]at this;exact this.Q9 (x:=y) hy
 have hc:fY y.ao=2:=by
  rcases(hl (List.replicate d .o) (by simp)).zero with e|e
  ·exact e.1
  ·refine(Qj (k:=y.ao) (v:=y.Us) (d:=d) (λC hC=>?_)).elim;rcases(hl C hC).zero with e'|e'
   ·omega
   ·exact e'.2
 have h1:=hl (List.replicate d .o) (by simp);cases h1 with
 |lam a b c e=>exact .inl ⟨a,_,_,c⟩
 |int a b c=>exact .inr (.inl ⟨a,c⟩)
 |fail a b c=>exact .inr (.inr (.inl ⟨a,c⟩))
 |UW a b c e f =>
  refine .inr (.inr (.inr ⟨a,_,c,e,λk t' hk C hC=>?_⟩));have hC0:(C.take d).length=d:=by simp;omega
  have h2:=hl (C.take d) hC0;cases h2 with
  |UW a' b' c' e' f' =>
   have:=c.eq c' rfl rfl;cases this;have hd:C.drop d=[C[d]'(by omega)]:=by
    rw[aM (by omega),wQ (by omega)]
   have:=f' k t' hk (C[d]'(by omega));rw[<- hd,Vm]at this;exact this
  |lam a'=>omega
  |int a'=>omega
  |fail a'=>omega
  |out a'=>exact(wC a' (by omega)).elim
  |Em a'=>exact(wC a' (by omega)).elim
 |out a=>exact(wC a (by omega)).elim
 |Em a=>exact(wC a (by omega)).elim
theorem Reads.next {n:aI}(ho:n.Ok){p:aq}{d:Nat}{t:T}(h:Reads n p d t)(hp:n.has p)(hr:n.Reach p.aD) :
  (n.next p).2.2=0/\((n.next p).2.1=true->∃j x y,qf n (n.next p).1 j x y/\n.Reach (n.next p).1/\((aX x y).2=0\/(aX x y).2=141)):=by
 have hq:=(ho.lk p hp id).1;by_cases h0:(n.pr p).aT=0
 ·rw[re h0];exact⟨rfl,λe=>by cases e⟩
 ·have ha:=h (List.replicate d .o) (by simp);obtain⟨k,hk⟩:=ha.len;obtain⟨w1,s,C',t',w2,w3,w4⟩:=Db ho (n.ae.length+1) [] (n.pr p) h0 hq ha hk (by simp) (by simp) (by simp) (by simp);have hn:(n.next p)=(n.walk (n.ae.length+1) [] (n.pr p)).2:=rfl;have e2:(n.next p).2=(true,0):=by rw[hn];exact w1
  refine⟨by rw[e2],λ_=>?_⟩;obtain⟨j,x,y,m1,m2⟩:=xN ho hp hr (by rw[e2]) (by rw[e2]);refine⟨j,x,y,m1,m2,?_⟩;exact HQ (i:=(n.next p).1) (s:=s) (by rw[hn];exact w3) w2 m1.hx m1.hy m1.pr
inductive GL (t0:T)(n:aI):List Nat->aq->Nat->T->Prop
 |root:GL t0 n [0] ⟨0,0⟩ 0 t0
 |UW {l:List Nat} {p:aq} {d i k:Nat} {t t':T} {x:Up} {ts:List T}:GL t0 n l p d t->n.pr p=⟨i,0⟩->n.ae[i]?=some x->x.ao=8->qG t (.UW x.name ts)->ts.length+1=x.to.length->ts[k]?=some t'->GL t0 n (i::l) ⟨i,k+1⟩ (d+1) t'
theorem GL.spine {t0:T}{n:aI}{l:List Nat}{p:aq}{d:Nat}{t:T}(h:GL t0 n l p d t):eV n l p:=by
 induction h with
 |root=>exact .root
 |UW h1 h2 h3 h4 h5 h6 h7 ih=>exact .UW ih h2 h3 h4 (by omega) (by have:=(gE h7).1;omega)
theorem GL.same {t0:T}{n m:aI}(hs:Same n m){l:List Nat}{p:aq}{d:Nat}{t:T}(h:GL t0 n l p d t):GL t0 m l p d t:=by
 induction h with
 |root=>exact .root
 |UW h1 h2 h3 h4 h5 h6 h7 ih =>
  obtain⟨a1,a2⟩:=hs.pr _ _ _ h1.spine h2;obtain⟨y',b1,b2⟩:=a2 _ h3 (by omega);have b3:=Up.eB b2;exact .UW ih a1 b1 (by rw[b3.2.2.1];exact h4) (by rw[b3.2.2.2.2.2.2.2];exact h5) (by rw[b3.2.2.2.1];exact h6) h7
theorem GL.reads {t0:T}{n:aI}(h0:At n.gr sD (n.pr ⟨0,0⟩) [] t0){l:List Nat}{p:aq}{d:Nat}{t:T}(h:GL t0 n l p d t):Reads n p d t:=by
 induction h with
 |root =>
  intro C hC;rw[aW hC];exact h0
 |UW h1 h2 h3 h4 h5 h6 h7 ih =>
  rcases ih.head h2 h3 with ⟨c,_⟩|⟨c,_⟩|⟨c,_⟩|⟨c,ts',c1,c2,c3⟩
  ·omega
  ·omega
  ·omega
  ·have:=h5.eq c1 rfl rfl;cases this;exact c3 _ _ h7
inductive Comes (D:Bool):T->aO->Prop
 |int {t:T} {v:Int}:qG t (.int v)->Comes D t (.mk 1 v [] [])
 |lam {t:T} {b:Ct} {r:List T}:qG t (.jJ (.lam b) r)->Comes D t (.mk 3 0 [] [])
 |fail {t:T}:qG t .fail->Comes D t (.mk 4 0 [] [])
 |UW {t:T} {nm:List UInt8} {l:List T} {sl:List aO}:qG t (.UW nm l)->sl.length=l.length->(D=true->∀(i:Nat) (t':T) (s':aO),l[i]?=some t'->sl[i]?=some s'->Comes D t' s')->(D=false->sl=List.replicate l.length .lazy)->Comes D t (.mk 2 0 nm sl)
theorem Comes.O9 {D:Bool}{t:T}{s s':aO}(h:Comes D t s)(h':Comes D t s'):s=s':=by
 induction h generalizing s' with
 |int h1 =>
  cases h' with
  |int h2=>have:=h1.eq h2 rfl rfl;cases this;rfl
  |lam h2=>have:=h1.eq h2 rfl rfl;cases this
  |fail h2=>have:=h1.eq h2 rfl rfl;cases this
  |UW h2 _ _ _=>have:=h1.eq h2 rfl rfl;cases this
 |lam h1 =>
  cases h' with
  |int h2=>have:=h1.eq h2 rfl rfl;cases this
  |lam h2=>rfl
  |fail h2=>have:=h1.eq h2 rfl rfl;cases this
  |UW h2 _ _ _=>have:=h1.eq h2 rfl rfl;cases this
 |fail h1 =>
  cases h' with
  |int h2=>have:=h1.eq h2 rfl rfl;cases this
  |lam h2=>have:=h1.eq h2 rfl rfl;cases this
  |fail h2=>rfl
  |UW h2 _ _ _=>have:=h1.eq h2 rfl rfl;cases this
 |@UW t nm l sl h1 k1 k2 k3 ih =>
  generalize hs:s'=z at h';cases h' with
  |int h2=>have:=h1.eq h2 rfl rfl;cases this
  |lam h2=>have:=h1.eq h2 rfl rfl;cases this
  |fail h2=>have:=h1.eq h2 rfl rfl;cases this
  |@UW _ nm' l' sl' h2 j1 j2 j3 =>
   have:=h1.eq h2 rfl rfl;cases this
   congr 1
   cases D with
   |false=>rw[k3 rfl,j3 rfl]
   |true =>
    refine kX (by omega) (λi hi hi'=>?_);exact ih rfl i l[i] sl[i] (gG (by omega)) (gG hi) (j2 rfl i l[i] sl'[i] (gG (by omega)) (gG hi'))
theorem Dc (h:bY pg){t0:T}:∀(l:Nat) {n:aI} {path:List Nat} {p:aq} {d:Nat} {t:T},n.Ok->At n.gr sD (n.pr ⟨0,0⟩) [] t0->GL t0 n path p d t ->
  At (dc bL l n p).1.gr sD ((dc bL l n p).1.pr ⟨0,0⟩) [] t0/\((dc bL l n p).2.2.2=0\/(dc bL l n p).2.2.2=90\/(dc bL l n p).2.2.2=121\/(dc bL l n p).2.2.2=141)
 |0,n,path,p,d,t,ho,h0,hs=>by
  obtain⟨a1,a2⟩:=(hs.reads h0).next ho (hs.spine.has ho) (hs.spine.reach ho);unfold dc;rw[aa (by simpa using a1)];split
  ·exact⟨h0,.inl rfl⟩
  ·exact⟨h0,.inr (.inl rfl)⟩
 |l+1,n,path,p,d,t,ho,h0,hs=>by
  obtain⟨a1,a2⟩:=(hs.reads h0).next ho (hs.spine.has ho) (hs.spine.reach ho);unfold dc;rw[aa (by simpa using a1)];split
  ·exact⟨h0,.inl rfl⟩
  ·rename_i c;obtain⟨j,x,y,m1,m2,m3⟩:=a2 (by simpa using c);by_cases he:(bL n (n.next p).1).2.2=0
   ·rw[aa (by simpa using he)];have hsame:=(vU h m1 m2).2 he;have wR:=Gj m1 m2 he h0;exact Dc h l hsame.ok wR (hs.same hsame)
   ·rw[ah he];refine⟨h0,?_⟩;dsimp only;rcases Eb m1 with e|e|e
    ·exact absurd e he
    ·exact .inr (.inr (.inl e))
    ·rcases m3 with e2|e2
     ·exact absurd (e.trans e2) he
     ·exact .inr (.inr (.inr (e.trans e2)))
def x8 (e:Nat):Prop:=e=0\/e=90\/e=121\/e=141
theorem A4 (h:bY pg){t0:T}{F:Nat}{D:Bool}{i L d:Nat}{path:List Nat}{f:Nat}{ts:List T}
  (ih:∀{s:RS} {p:aq} {t:T},s.cS.Ok->At s.cS.gr sD (s.cS.pr ⟨0,0⟩) [] t0->GL t0 s.cS path p d t->Yf F s ->
   At (fF bL F D f s p).1.cS.gr sD ((fF bL F D f s p).1.cS.pr ⟨0,0⟩) [] t0/\x8 (fF bL F D f s p).2.1/\((fF bL F D f s p).2.1=0->Comes D t (fF bL F D f s p).2.2)/\XI F s (fF bL F D f s p).1) :
  ∀(c k:Nat) {s:RS},s.cS.Ok->At s.cS.gr sD (s.cS.pr ⟨0,0⟩) [] t0->(∀j t',ts[j]?=some t'->GL t0 s.cS path ⟨i,j+1⟩ d t')->k+1+c=L->ts.length+1=L->Yf F s ->
   At (gA D (fF bL F D f) i c (k+1) s).1.cS.gr sD ((gA D (fF bL F D f) i c (k+1) s).1.cS.pr ⟨0,0⟩) [] t0/\x8 (gA D (fF bL F D f) i c (k+1) s).2.1 /\
   ((gA D (fF bL F D f) i c (k+1) s).2.1=0->(gA D (fF bL F D f) i c (k+1) s).2.2.length=c/\(D=true->∀(j:Nat) (t':T) (s':aO),ts[k+j]?=some t'->(gA D (fF bL F D f) i c (k+1) s).2.2[j]?=some s'->Comes D t' s')/\(D=false->(gA D (fF bL F D f) i c (k+1) s).2.2=List.replicate c .lazy))/\XI F s (gA D (fF bL F D f) i c (k+1) s).1
 |0,k,s,ho,h0,hsp,hk,hL,hr=>⟨h0,.inl rfl,λ_=>⟨rfl,λ_ j t' s' _ hj=>by simp[gA]at hj,λ_=>rfl⟩,.refl ho hr⟩
 |c+1,k,s,ho,h0,hsp,hk,hL,hr=>by
  cases D with
  |false =>
   rw[l7];exact⟨h0,.inl rfl,λ_=>⟨by simp,(λe=>nomatch e),λ_=>rfl⟩,.refl ho hr⟩
  |true =>
   have hkt:k<ts.length:=by omega
   obtain⟨b1,b2,b3,b4⟩:=ih ho h0 (hsp k ts[k] (gG hkt)) hr;simp only[gA];by_cases e:(fF bL F true f s ⟨i,k+1⟩).2.1=0
   ·rw[aa (by simpa using e)];obtain⟨a1,a2,a3,a4⟩:=A4 h ih c (k+1) b4.same.ok b1 (λj t' hj=>(hsp j t' hj).same b4.same) (by omega) hL b4.ok;refine⟨a1,a2,λe2=>?_,b4.trans a4⟩;obtain⟨q1,q2,q3⟩:=a3 e2;refine⟨by simp[q1],λ_ j t' s' hj hs'=>?_,λe=>by cases e⟩;cases j with
    |zero =>
     simp only[List.getElem?_cons_zero,bG]at hs';subst hs';rw[U3,gG hkt]at hj;cases hj;exact b3 e
    |succ j =>
     simp only[List.getElem?_cons_succ]at hs';exact q2 rfl j t' s' (by rw[show k+1+j=k+(j+1) from by omega];exact hj) hs'
   ·rw[ah e];exact⟨b1,b2,λe2=>absurd e2 e,b4⟩
theorem A5 (h:bY pg){t0:T}{F:Nat}{D:Bool}:∀(f:Nat) {s:RS} {path:List Nat} {p:aq} {d:Nat} {t:T},s.cS.Ok->At s.cS.gr sD (s.cS.pr ⟨0,0⟩) [] t0->GL t0 s.cS path p d t->4000<path.length+f->Yf F s ->
  At (fF bL F D f s p).1.cS.gr sD ((fF bL F D f s p).1.cS.pr ⟨0,0⟩) [] t0/\x8 (fF bL F D f s p).2.1/\((fF bL F D f s p).2.1=0->Comes D t (fF bL F D f s p).2.2)/\XI F s (fF bL F D f s p).1
 |0,s,path,p,d,t,ho,h0,hs,hl,hr=>by have:=hs.spine.short ho;omega
 |f+1,s,path,p,d,t,ho,h0,hs,hl,hr=>by
  obtain⟨h1,h2,h3,h4⟩:=uv h (F-s.d) ho hs.spine;obtain⟨g1,g2⟩:=Dc h (F-s.d) ho h0 hs;have ha:=AR h ho hs.spine hr;by_cases he:(dc bL (F-s.d) s.cS p).2.2.2=0
  ·have hpr:=h3 he;have hpm:=(h2.ok.lk _ ((h2.spine _ _ hs.spine).has h2.ok) id).1;rw[hpr]at hpm;obtain⟨x,hx,hx0,hxk⟩:=aI.pK h2.ok hpm;dsimp only at hx hx0;have hrun:fF bL F D (f+1) s p=shapeOf D (fF bL F D f) (UN (dc bL (F-s.d) s.cS p) s) (dc bL (F-s.d) s.cS p).2.2.1:=by
    simp only[fF];rw[aa (by simpa using he)]
   have hs2:=hs.same h2;have hrd:=(hs2.reads g1).head hpr hx;rw[hrun];have hxn:(UN (dc bL (F-s.d) s.cS p) s).cS.ae[(dc bL (F-s.d) s.cS p).2.2.1]?=some x:=hx;unfold shapeOf;rw[hxn];dsimp only;rcases hrd with ⟨k,b,r,e⟩|⟨k,e⟩|⟨k,e⟩|⟨k,ts,e,e2,e3⟩
   ·rw[aa (by omega),ah k];exact⟨g1,.inl rfl,λ_=>.lam e,ha⟩
   ·rw[ah k];exact⟨g1,.inl rfl,λ_=>.int e,ha⟩
   ·rw[aa (by omega),aa (by omega),ah k];exact⟨g1,.inl rfl,λ_=>.fail e,ha⟩
   ·rw[aa (by omega),aa (by omega),aa (by omega),ah k];obtain⟨q1,q2,q3,q4⟩:=A4 h (F:=F) (D:=D) (i:=(dc bL (F-s.d) s.cS p).2.2.1) (L:=x.to.length) (d:=d+1) (path:=(dc bL (F-s.d) s.cS p).2.2.1::path) (f:=f) (ts:=ts)
     (fun {s'} {p'} {t'} o1 o2 o3 o4=>A5 h f o1 o2 o3 (by simp only[av];omega) o4) (x.to.length-1) 0 (s:=UN (dc bL (F-s.d) s.cS p) s) ha.same.ok g1
     (λj t' hj=>.UW hs2 hpr hx k e e2 hj) (by omega) e2 ha.ok
    rw[aG]at q1 q2 q3 q4;by_cases c:(gA D (fF bL F D f) (dc bL (F-s.d) s.cS p).2.2.1 (x.to.length-1) 1 (UN (dc bL (F-s.d) s.cS p) s)).2.1=0
    ·rw[aa (by simpa using c)];obtain⟨r1,r2,r3⟩:=q3 c;refine⟨q1,.inl rfl,λ_=>.UW e (by rw[r1];omega) (λhD j t' s' hj hs'=>r2 hD j t' s' (by rw[aG];exact hj) hs') (λhD=>by rw[r3 hD];congr 1;omega),ha.trans q4⟩
    ·rw[ah c];exact⟨q1,q2,λe=>absurd e c,ha.trans q4⟩
  ·have hrun:fF bL F D (f+1) s p=(UN (dc bL (F-s.d) s.cS p) s,(dc bL (F-s.d) s.cS p).2.2.2,.zero):=by
    simp only[fF];rw[ah he]
   rw[hrun];exact⟨g1,g2,λe=>absurd e he,ha⟩
theorem Gl (h:bY pg){n:aI}(ho:n.Ok){t0:T}(h0:At n.gr sD (n.pr ⟨0,0⟩) [] t0)(D:Bool)(F:Nat):x8 (bI n D F).2.1/\((bI n D F).2.1=0->Comes D t0 (bI n D F).2.2):=by
 obtain⟨a1,a2,a3,a4⟩:=A5 h (F:=F) (D:=D) 4001 (s:=tT n) (p:=⟨0,0⟩) ho h0 .root (by simp) ⟨dv _,rfl,by simp[tT,U4]⟩;exact⟨a2,a3⟩
end
structure Bs (n:aI)(L:List aq):Prop where
 sk:n.Sk
 lk:Lk n (λr=>r∈L)
 nd:L.Nodup
 has:∀r,r∈L->n.has r
structure x9 (n:aI)(L:List aq)(m:aI)(M:List aq):Prop where
 aD:∀(i:Nat) (x:Up),n.ae[i]?=some x->x.ao≠0->∃x',m.ae[i]?=some x'/\x'.bare=x.bare
 pr:∀p,n.has p->p∉L->m.has p/\p∉M/\m.pr p=n.pr p
structure Dd (g:Gr)(m:aI)(M:List aq):Prop where
 aD:∀(i:Nat) (x:Up),m.ae[i]?=some x->x.ao≠0->∃x',g.nd i=some x'/\x'.bare=x.bare
 pr:∀p,m.has p->p∉M->g.pr p=m.pr p
theorem x9.refl (n:aI)(L:List aq):x9 n L n L:=⟨λi x hx _=>⟨x,hx,rfl⟩,λp h1 h2=>⟨h1,h2,rfl⟩⟩
theorem x9.trans {n m k:aI}{L M N:List aq}(h:x9 n L m M)(h':x9 m M k N):x9 n L k N:=by
 refine⟨λi x hx hk=>?_,λp h1 h2=>?_⟩
 ·obtain⟨x',a1,a2⟩:=h.aD i x hx hk;obtain⟨x'',b1,b2⟩:=h'.aD i x' a1 (by rw[(Up.eB a2).2.2.1];exact hk);exact⟨x'',b1,b2.trans a2⟩
 ·obtain⟨a1,a2,a3⟩:=h.pr p h1 h2;obtain⟨b1,b2,b3⟩:=h'.pr p a1 a2;exact⟨b1,b2,b3.trans a3⟩
theorem x9.Cd {n m:aI}{L M:List aq}{g:Gr}(h:x9 n L m M)(hg:Dd g m M):Dd g n L:=by
 refine⟨λi x hx hk=>?_,λp h1 h2=>?_⟩
 ·obtain⟨x',a1,a2⟩:=h.aD i x hx hk;obtain⟨x'',b1,b2⟩:=hg.aD i x' a1 (by rw[(Up.eB a2).2.2.1];exact hk);exact⟨x'',b1,b2.trans a2⟩
 ·obtain⟨a1,a2,a3⟩:=h.pr p h1 h2;exact(hg.pr p a1 a2).trans a3
theorem Bs.perm {n:aI}{L M:List aq}(h:Bs n L)(hp:L.Perm M):Bs n M :=
 ⟨h.sk,h.lk.congr (λp _=>hp.mem_iff.symm),hp.nodup_iff.1 h.nd,λr hr=>h.has r (hp.mem_iff.2 hr)⟩
theorem x9.perm {n m:aI}{L L' M M':List aq}(h:x9 n L m M)(h1:L.Perm L')(h2:M.Perm M'):x9 n L' m M' :=
 ⟨h.aD,λp a b=>by
  obtain⟨c1,c2,c3⟩:=h.pr p a (λe=>b (h1.mem_iff.1 e));exact⟨c1,λe=>c2 (h2.mem_iff.2 e),c3⟩⟩
theorem Bs.bK {n:aI}{L:List aq}{x:Up}(h:Bs n L)(hk:2<=x.ao)(hx:x.Us<=60->x.ok=true)(hp:x.ao=8->x.to.length=x.bO)(he:(n.bK x).2.2=0) :
  x.Us<=60/\Bs (n.bK x).1 (UQ (n.bK x).2.1 0 x.bO++L)/\x9 n L (n.bK x).1 (UQ (n.bK x).2.1 0 x.bO++L)/\(n.bK x).1.ae[(n.bK x).2.1]?=some x.d_:=by
 unfold aI.bK at he ⊢;by_cases hl:60<x.Us
 ·rw[ah hl]at he;cases he
 ·rw[aa hl]at he ⊢;unfold aI.nN at he ⊢;by_cases hu:n.used<n.aV
  ·rw[ah hu]at he ⊢;dsimp only;have hxo:=hx (by omega);have hnew:∀p,n.has p->p∉UQ n.cg 0 x.bO:=λp hp e=>h.sk.hZ hp (bu.1 e).1;refine⟨by omega,⟨h.sk.make hk hxo hp hu,(h.lk.make h.sk x).congr (λp hpp=>?_),?_,λr hr=>?_⟩,⟨λi y hy hky=>⟨y,aI.Xh h.sk hy hky,rfl⟩,λp a b=>⟨(aI.VC h.sk).2 (.inr a),λe=>?_,aI.r7 (h.sk.hZ a)⟩⟩,by rw[aI.oz,ah rfl]⟩
   ·rw[Uz,bu];constructor
    ·rintro(e|e)
     ·exact .inr e.1
     ·exact .inl e
    ·rintro(e|e)
     ·exact .inr e
     ·rcases(aI.VC h.sk).1 hpp with e2|e2
      ·exact .inl ⟨e,by omega,by omega⟩
      ·exact absurd e (h.sk.hZ e2)
   ·rw[fj];exact⟨du _ _ _,h.nd,λa ha b hb e=>hnew b (h.has b hb) (by rw[<- e];exact ha)⟩
   ·rw[Uz,bu]at hr;rcases hr with e|e
    ·exact(aI.VC h.sk).2 (.inl ⟨e.1,by omega⟩)
    ·exact(aI.VC h.sk).2 (.inr (h.has r e))
   ·rw[Uz]at e;rcases e with e|e
    ·exact hnew p a e
    ·exact b e
  ·rw[aa hu]at he;cases he
theorem Bs.link {n:aI}{p q:aq}{L:List aq}(h:Bs n (p::q::L)):Bs (n.bx p q) L/\x9 n (p::q::L) (n.bx p q) L/\((n.bx p q).has p/\p∉L/\(n.bx p q).pr p=q)/\(n.bx p q).has q/\q∉L/\(n.bx p q).pr q=p:=by
 have hp:=h.has p (by simp);have hq:=h.has q (by simp);have hnd:=h.nd;simp only[UB,aA,eX]at hnd;obtain⟨⟨hne,hpL⟩,hqL,hL⟩:=hnd;have e:n.bx p q=n.link p q:=by
  unfold aI.bx;rw[aI.sy.2 hp,aI.sy.2 hq];simp[hne]
 rw[e];have hpr:=aI.j8 hp hq hne;have hb:=UU.link n p q;have hl:=(h.lk.link hp hq hne (by simp) (by simp)).congr (D':=λr=>r∈L) (λr _=>by
  simp only[aA];constructor
  ·intro hr;exact⟨.inr (.inr hr),λe=>hpL (by rw[<- e];exact hr),λe=>hqL (by rw[<- e];exact hr)⟩
  ·rintro⟨a|a|a,b,c⟩
   ·exact absurd a b
   ·exact absurd a c
   ·exact a)
 refine⟨⟨h.sk.bare hb,hl,hL,λr hr=>aI.ef.2 (h.has r (by simp[hr]))⟩,⟨λi x hx _=>hb.at hx,λr h1 h2=>?_⟩,⟨aI.ef.2 hp,hpL,by rw[hpr,ah rfl]⟩,aI.ef.2 hq,hqL,by rw[hpr,aa (Ne.symm hne),ah rfl]⟩;simp only[aA,eX]at h2;exact⟨aI.ef.2 h1,h2.2.2,by rw[hpr,aa h2.1,aa h2.2.1]⟩
def IB (g:Gr)(Γ:Bd)(C:Cx)(ρ:List T)(l:List bW):Prop:=∀e,e∈l->∀s,∃v,ρ[e.v]?=some v/\At g Γ (g.pr e.p) (C++[s]) v
theorem IB.RH {g:Gr}{Γ Δ:Bd}{C:Cx}{ρ:List T}{l:List bW}(h:IB g Γ C ρ l)(hd:∀m C v,Γ m C v->Δ m C v):IB g Δ C ρ l:=λe he s=>by
 obtain⟨v,h1,h2⟩:=h e he s;exact⟨v,h1,h2.RH hd⟩
def PS (Us k dl:Nat)(f:aI->W)(rd:List T->T):Prop:=∀(n:aI) (L:List aq),Bs n L->(f n).e=0 ->
 Bs (f n).n ((f n).out::((f n).l.map bW.p++L))/\x9 n L (f n).n ((f n).out::((f n).l.map bW.p++L))/\((f n).l.map bW.v).Nodup/\(∀e,e∈(f n).l->e.v<k) /\
 ∀g,Dd g (f n).n ((f n).out::((f n).l.map bW.p++L))->∀(Γ:Bd) (C X:Cx) (ρ:List T),C.length=Us->X.length=dl->IB g Γ C ρ (f n).l->At g Γ (f n).out (C++X) (rd ρ)
theorem Dd.nd {g:Gr}{m:aI}{M:List aq}(h:Dd g m M){i:Nat}{x:Up}(hx:m.ae[i]?=some x)(hk:x.ao≠0):∃x',g.nd i=some x'/\x'.ao=x.ao/\x'.Us=x.Us/\x'.aY=x.aY/\x'.n=x.n/\x'.name=x.name/\x'.to.length=x.to.length:=by
 obtain⟨z,h1,h2⟩:=h.aD i x hx hk;obtain⟨b1,b2,b3,b4,b5,b6,b7,b8⟩:=Up.eB h2;exact⟨z,h1,b3,b5,b6,b7,b8,b4⟩
theorem PS.leaf {Us k:Nat}{x:Up}{v:T}(hk:x.ao=10\/x.ao=13)(hl:x.Us=Us)(hx:x.Us<=60->x.ok=true)(rd:List T->T)(hr:∀ρ,(x.ao=10/\qG (rd ρ) (.int x.n))\/(x.ao=13/\qG (rd ρ) .fail)):PS Us k 0 (iH x 0 (λ_=>[])) rd:=by
 intro n L hb he;have hp1:x.bO=1:=by
  unfold Up.bO;rcases hk with e|e<;>rw[e]<;>rfl
 obtain⟨a1,a2,a3,a4⟩:=hb.bK (by omega) hx (by omega) he;rw[hp1]at a2 a3;refine⟨a2,a3,by simp[iH],by simp[iH],λg hg Γ C X ρ hC hX hc=>?_⟩;obtain⟨z,z1,z2,z3,z4,z5,z6,z7⟩:=hg.nd (i:=(n.bK x).2.1) (x:=x.d_) a4 (by show x.ao≠0;omega);have hX0:X=[]:=aW hX;subst hX0;rw[UD];have zl:z.Us=C.length:=by rw[z3];show x.Us=_;omega
 rcases hr ρ with ⟨e,h1⟩|⟨e,h1⟩
 ·exact At.mk' z1 (.int (z2.trans e) zl (by rw[z5];exact h1))
 ·exact At.mk' z1 (.fail (z2.trans e) zl h1)
theorem PS.var {Us k i:Nat}(hi:i<k):PS Us k 0 ((Ct.var i).cP Us) (λρ=>.jJ (.var i) ρ):=by
 intro n L hb he;obtain⟨a1,a2,a3,a4⟩:=hb.bK (x:=⟨5,Us,0,[],[],[]⟩) (by show 2<=5;omega) (λh=>iP (.inl rfl) 0 rfl h) (λe=>by cases e) he;have hp2:(Up.mk 5 Us 0 [] [] []).bO=2:=rfl;rw[hp2]at a2 a3;have hperm:(UQ (n.bK ⟨5,Us,0,[],[],[]⟩).2.1 0 2++L).Perm (⟨(n.bK ⟨5,Us,0,[],[],[]⟩).2.1,1⟩::([⟨(n.bK ⟨5,Us,0,[],[],[]⟩).2.1,0⟩]++L)):=by
  show(_::_::L).Perm _
  exact List.Perm.swap _ _ _
 refine⟨a2.perm hperm,a3.perm (.refl _) hperm,by simp[Ct.cP,iH],by simpa [Ct.cP,iH] using hi,λg hg Γ C X ρ hC hX hc=>?_⟩;obtain⟨z,z1,z2,z3,z4,z5,z6,z7⟩:=hg.nd (i:=(n.bK ⟨5,Us,0,[],[],[]⟩).2.1) a4 (by show(5:Nat)≠0;omega);have hX0:X=[]:=aW hX;subst hX0;rw[UD];obtain⟨v,v1,v2⟩:=hc ⟨i,⟨(n.bK ⟨5,Us,0,[],[],[]⟩).2.1,0⟩⟩ (by simp[Ct.cP,iH]) .o;refine At.mk' z1 (.Em (C':=C++[.o]) ?_ (v2.back (.one ?_)))
 ·rw[z2,z3];exact⟨C,[],[],.o,hC,.o,by simp,rfl⟩
 ·simp only[T.hd,C_];exact v1
theorem A6 {Us:Nat}:∀(r:List bW) (n:aI) (L:List aq),Bs n (r.map bW.p++L)->(dE Us n r).2.2=0 ->
  Bs (dE Us n r).1 ((dE Us n r).2.1.map bW.p++L)/\x9 n (r.map bW.p++L) (dE Us n r).1 ((dE Us n r).2.1.map bW.p++L)/\(dE Us n r).2.1.map bW.v=r.map bW.v /\
  ∀g,Dd g (dE Us n r).1 ((dE Us n r).2.1.map bW.p++L)->∀(Γ:Bd) (C:Cx) (s:Sg) (ρ:List T),C.length=Us->IB g Γ C ρ (dE Us n r).2.1->IB g Γ (C++[s]) ρ r
 |[],n,L,hb,he=>⟨hb,.refl _ _,rfl,λg hg Γ C s ρ hC hc e he=>by simp at he⟩
 |e::r,n,L,hb,he=>by
  unfold dE at he ⊢;by_cases hm:(n.bK (eE Us)).2.2=0
  ·rw[ah hm]at he ⊢;obtain⟨a1,a2,a3,a4⟩:=hb.bK (x:=eE Us) (by show 2<=6;omega) (λh=>Xk h) (λe=>by cases e) hm;have hp2:(eE Us).bO=2:=rfl;rw[hp2]at a2 a3;generalize hM:(n.bK (eE Us)).1=m at *;generalize hS:(n.bK (eE Us)).2.1=s at *;have hperm:(UQ s 0 2++((e::r).map bW.p++L)).Perm (⟨s,1⟩::e.p::(r.map bW.p++(⟨s,0⟩::L))):=by
    show(⟨s,0⟩::⟨s,1⟩::e.p::(r.map bW.p++L)).Perm _
    refine(List.Perm.swap _ _ _).trans (.cons _ ((List.Perm.swap _ _ _).trans (.cons _ ?_)));exact eh.symm
   obtain⟨b1,b2,b3,b4⟩:=(a2.perm hperm).link;obtain⟨c1,c2,c3,c4⟩:=A6 r _ _ b1 he;have hperm2:∀l:List aq,(l++(⟨s,0⟩::L)).Perm (⟨s,0⟩::(l++L)):=λl=>eh;have ext:x9 n ((e::r).map bW.p++L) _ _:=(a3.perm (.refl _) hperm).trans (b2.trans c2);refine⟨c1.perm (hperm2 _),ext.perm (.refl _) (hperm2 _),by simp[c3],λg hg Γ C s0 ρ hC hc=>?_⟩;have hg':Dd g _ _:=⟨hg.aD,λp h1 h2=>hg.pr p h1 (λe=>h2 ((hperm2 _).mem_iff.2 e))⟩
   have hr:=c4 g hg' Γ C s0 ρ hC (λe' he'=>hc e' (by simp[he']));intro e' he' s1;rcases aA.1 he' with rfl|he'
   ·obtain⟨v,v1,v2⟩:=hc ⟨e'.v,⟨s,0⟩⟩ (by simp) (.s s0 s1);refine⟨v,v1,?_⟩;have gk:=(c2.Cd hg').pr e'.p b4.1 b4.2.1;rw[gk,b4.2.2];obtain⟨z,z1,z2,z3,z4,z5,z6,z7⟩:=((b2.trans c2).Cd hg').nd (i:=s) (x:=(eE Us).d_) a4 (by show(6:Nat)≠0;omega);refine At.mk' z1 (.Em (C':=C++[.s s0 s1]) ?_ v2);rw[z2,z3];exact⟨C,[],[s0,s1],.s s0 s1,hC,.s,by simp,rfl⟩
   ·exact hr e' he' s1
  ·rw[aa hm]at he;exact absurd he hm
theorem PS.box {Us k:Nat}{f:aI->W}{rd:List T->T}(h:PS (Us+1) k 0 f rd):PS Us k 1 (λn=>jI Us (f n)) rd:=by
 intro n L hb he;dsimp only at he ⊢;unfold jI at he ⊢;by_cases hf:(f n).e=0
 ·rw[ah hf]at he ⊢;obtain⟨a1,a2,a3,a4,a5⟩:=h n L hb hf;have hperm:∀l:List aq,((f n).out::(l++L)).Perm (l++(f n).out::L):=λl=>eh.symm;obtain⟨b1,b2,b3,b4⟩:=A6 (Us:=Us) (f n).l (f n).n ((f n).out::L) (a1.perm (hperm _)) he;have ext:=(a2.perm (.refl _) (hperm _)).trans b2;refine⟨b1.perm (hperm _).symm,ext.perm (.refl _) (hperm _).symm,by rw[b3];exact a3,λe he'=>?_,λg hg Γ C X ρ hC hX hc=>?_⟩
  ·have:e.v∈(f n).l.map bW.v:=by rw[<- b3];exact UH he'
   obtain⟨e',h1,h2⟩:=bj.1 this;rw[<- h2];exact a4 e' h1
  ·obtain⟨s,rfl⟩:∃s,X=[s]:=by
    cases X with
    |nil=>simp at hX
    |cons s t=>exact⟨s,by rw[aW (l:=t) (by simpa using hX)]⟩
   have hg':Dd g _ _:=⟨hg.aD,λp h1 h2=>hg.pr p h1 (λe=>h2 ((hperm _).mem_iff.1 e))⟩
   have hcov:=b4 g hg' Γ C s ρ hC hc;have:=a5 g ((b2.perm (hperm _).symm (.refl _)).Cd hg') Γ (C++[s]) [] ρ (by simp[hC]) rfl hcov;rw[UD]at this;exact this
 ·rw[aa hf]at he;exact absurd he hf
theorem tY (x:bW):∀r:List bW,((dy x false r).2=true->(dy x false r).1.Perm (x::r))/\((dy x false r).2=false->(dy x false r).1=r)
 |[]=>by simp[dy]
 |y::r=>by
  simp only[dy];by_cases c:x.v<y.v
  ·rw[ah c];refine⟨λ_=>?_,λe=>by cases e⟩;rw[fK]
  ·rw[aa c];obtain⟨h1,h2⟩:=tY x r;refine⟨λe=>?_,λe=>?_⟩
   ·exact((h1 e).cons y).trans (.swap _ _ _)
   ·rw[h2 e]
theorem Ce (l:List bW)(x:bW):(Vr l x).Perm (x::l):=by
 unfold Vr;obtain⟨h1,h2⟩:=tY x l;cases e:(dy x false l).2 with
 |true=>rw[ah rfl];exact h1 e
 |false =>
  rw[aa (by simp),h2 e];exact kf x l
theorem Cf {l:List bW}{v:Nat}(h:jT l v=none):∀e,e∈l->e.v≠v:=by
 intro e he;have:=List.findIdx?_eq_none_iff.1 h e he;simpa using this
theorem Cg {l:List bW}{v k:Nat}(h:jT l v=some k):∃hk:k<l.length,(l[k]).v=v:=by
 obtain⟨h1,h2,_⟩:=List.findIdx?_eq_some_iff_getElem.1 h;exact⟨h1,by simpa using h2⟩
theorem wA:∀(l:List bW) {k:Nat} (hk:k<l.length),(l[k]::l.eraseIdx k).Perm l
 |[],k,hk=>by simp at hk
 |a::l,0,hk=>.refl _
 |a::l,k+1,hk=>by
  simp only[mz,lQ];exact(List.Perm.swap _ _ _).trans ((wA l (by simpa using hk)).cons a)
theorem x_ {l:List bW}{k:Nat}(hk:k<l.length)(f:bW->aq):(l.map f).Perm (f l[k]::(l.eraseIdx k).map f):=by
 have:=(wA l hk).symm.map f;simpa using this
theorem ry {Us:Nat}:∀(r:List bW) (n:aI) (l:List bW) (L:List aq),Bs n (r.map bW.p++(l.map bW.p++L))->(l.map bW.v).Nodup->(r.map bW.v).Nodup->(Uw Us n l r).2.2=0 ->
  Bs (Uw Us n l r).1 ((Uw Us n l r).2.1.map bW.p++L)/\x9 n (r.map bW.p++(l.map bW.p++L)) (Uw Us n l r).1 ((Uw Us n l r).2.1.map bW.p++L)/\((Uw Us n l r).2.1.map bW.v).Nodup /\
  ∀g,Dd g (Uw Us n l r).1 ((Uw Us n l r).2.1.map bW.p++L)->∀(Γ:Bd) (C:Cx) (ρ:List T),C.length=Us->IB g Γ C ρ (Uw Us n l r).2.1->IB g Γ C ρ l/\IB g Γ C ρ r
 |[],n,l,L,hb,v1,v2,he=>⟨hb,.refl _ _,v1,λg hg Γ C ρ hC hc=>⟨hc,λe he=>by simp at he⟩⟩
 |x::r,n,l,L,hb,v1,v2,he=>by
  simp only[ai,UB]at v2;unfold Uw at he ⊢;cases hf:jT l x.v with
  |none =>
   rw[hf]at he;dsimp only at he ⊢;have hw:=Ce l x;have hperm:((x::r).map bW.p++(l.map bW.p++L)).Perm (r.map bW.p++((Vr l x).map bW.p++L)):=by
    have h1:((Vr l x).map bW.p++L).Perm (x.p::(l.map bW.p++L)):=(hw.map bW.p).append_right L;refine List.Perm.trans ?_ ((h1.append_left (r.map bW.p)).symm);exact eh.symm
   have hv:((Vr l x).map bW.v).Nodup:=by
    rw[(hw.map bW.v).nodup_iff];simp only[ai,UB];refine⟨λe=>?_,v1⟩;obtain⟨e',h1,h2⟩:=bj.1 e;exact Cf hf e' h1 h2
   obtain⟨a1,a2,a3,a4⟩:=ry r n (Vr l x) L (hb.perm hperm) hv v2.2 he;refine⟨a1,a2.perm hperm.symm (.refl _),a3,λg hg Γ C ρ hC hc=>?_⟩;obtain⟨b1,b2⟩:=a4 g hg Γ C ρ hC hc;refine⟨λe he'=>b1 e (hw.mem_iff.2 (by simp[he'])),λe he'=>?_⟩;rcases aA.1 he' with rfl|he'
   ·exact b1 e (hw.mem_iff.2 (by simp))
   ·exact b2 e he'
  |some k =>
   rw[hf]at he;dsimp only at he ⊢;obtain⟨hk,hkv⟩:=Cg hf;by_cases hm:(n.bK (dY Us)).2.2=0
   ·rw[ah hm]at he ⊢;obtain⟨a1,a2,a3,a4⟩:=hb.bK (x:=dY Us) (by show 2<=4;omega) (λh=>WS h) (λe=>by cases e) hm;have hp3:(dY Us).bO=3:=rfl;rw[hp3]at a2 a3;generalize hM:(n.bK (dY Us)).1=m at *;generalize hS:(n.bK (dY Us)).2.1=f at *;have hlk:l.getD k default=l[k]:=by rw[List.getD_eq_getElem?_getD,gG hk];rfl
    rw[hlk]at he ⊢;have hset:((l.set k ⟨l[k].v,⟨f,0⟩⟩).map bW.p).Perm (⟨f,0⟩::(l.eraseIdx k).map bW.p):=by
     have:=x_ (l:=l.set k ⟨l[k].v,⟨f,0⟩⟩) (k:=k) (by simpa using hk) bW.p;rw[List.eraseIdx_set_eq]at this;simpa using this
    have hperm:(UQ f 0 3++((x::r).map bW.p++(l.map bW.p++L))).Perm (⟨f,1⟩::l[k].p::⟨f,2⟩::x.p::(r.map bW.p++((l.set k ⟨l[k].v,⟨f,0⟩⟩).map bW.p++L))):=by
     rw[UY];intro a;have e1:=(x_ hk bW.p).count_eq a;have e2:=hset.count_eq a;simp only[UQ,List.range',ai,au,aH,aL,lR,U7,Nat.reduceAdd,aG]at e1 e2 ⊢;omega
    obtain⟨b1,b2,b3,b4⟩:=(a2.perm hperm).link;obtain⟨c1,c2,c3,c4⟩:=b1.link;have hvs:(l.set k ⟨l[k].v,⟨f,0⟩⟩).map bW.v=l.map bW.v:=by
     refine kX (by simp) (λi h1 h2=>?_);simp only[gK,kY];split
     ·rename_i e;subst e;rfl
     ·rfl
    obtain⟨d1,d2,d3,d4⟩:=ry r _ _ L c1 (by rw[hvs];exact v1) v2.2 he;have ext:=(a3.perm (.refl _) hperm).trans (b2.trans (c2.trans d2));refine⟨d1,ext,d3,λg hg Γ C ρ hC hc=>?_⟩;obtain⟨q1,q2⟩:=d4 g hg Γ C ρ hC hc;have hfan:=q1 ⟨l[k].v,⟨f,0⟩⟩ (dw.2 ⟨k,by simpa using hk,by simp⟩);obtain⟨z,z1,z2,z3,z4,z5,z6,z7⟩:=((b2.trans (c2.trans d2)).Cd hg).nd (i:=f) (x:=(dY Us).d_) a4 (by show(4:Nat)≠0;omega);have g1:=((c2.trans d2).Cd hg).pr l[k].p b4.1 b4.2.1;have g2:=(d2.Cd hg).pr x.p c4.1 c4.2.1;refine⟨λe he' s=>?_,λe he' s=>?_⟩
    ·obtain⟨j,hj,rfl⟩:=dw.1 he';by_cases hjk:j=k
     ·subst hjk;obtain⟨v,w1,w2⟩:=hfan (.l s);refine⟨v,w1,?_⟩;rw[g1,b4.2.2];refine At.mk' z1 (.Em (C':=C++[.l s]) ?_ w2);rw[z2,z3];exact⟨C,[],[s],.l s,hC,.l,by simp,rfl⟩
     ·refine q1 l[j] (dw.2 ⟨j,by simpa using hj,?_⟩) s;rw[kY,aa (λe=>hjk e.symm)]
    ·rcases aA.1 he' with rfl|he'
     ·obtain⟨v,w1,w2⟩:=hfan (.r s);refine⟨v,by rw[<- hkv];exact w1,?_⟩;rw[g2,c4.2.2];refine At.mk' z1 (.Em (C':=C++[.r s]) ?_ w2);rw[z2,z3];exact⟨C,[],[s],.r s,hC,.r,by simp,rfl⟩
     ·exact q2 e he' s
   ·rw[aa hm]at he;exact absurd he hm
theorem P9 {l:List bW}{i:Nat}(hi:i<l.length)(hz:l[i].v=0)(hv:(l.map bW.v).Nodup):((eN l).map bW.p).Perm ((l.eraseIdx i).map bW.p):=by
 have e1:(eN l).map bW.p=(l.filter λe=>decide (0<e.v)).map bW.p:=by
  unfold eN;rw[UJ];rfl
 rw[e1];have hp:=wA l hi;have hv2:=(hp.map bW.v).nodup_iff.2 hv;simp only[ai,UB]at hv2;have h2:=(hp.filter λe=>decide (0<e.v)).symm.map bW.p;refine h2.trans ?_;rw[ig,aa (by simp[hz]),yd.2 (λe he=>?_)];have:e.v≠0:=λe0=>hv2.1 (by rw[hz,<- e0];exact UH he);simpa using wK this
theorem Qk {l:List bW}(h:∀e,e∈l->e.v≠0):(eN l).map bW.p=l.map bW.p:=by
 unfold eN;rw[UJ,yd.2 (λe he=>by simpa using wK (h e he))];rfl
theorem OA {l:List bW}(hv:(l.map bW.v).Nodup):((eN l).map bW.v).Nodup:=by
 unfold eN;rw[UJ];have h1:((l.filter λe=>decide (0<e.v)).map bW.v).Nodup:=hv.sublist ((List.filter_sublist).map bW.v);rw[List.Nodup,List.pairwise_map]at h1 ⊢;refine h1.imp_of_mem (fun {a b} ha hb hab e=>hab ?_);simp only[dH,Uq]at ha hb;simp only[jq]at e;omega
theorem Ql {l:List bW}{e:bW}(h:e∈l)(hv:e.v≠0):(⟨e.v-1,e.p⟩:bW)∈eN l:=by
 unfold eN;exact bj.2 ⟨e,dH.2 ⟨h,by simpa using wK hv⟩,rfl⟩
theorem QE {l:List bW}{e:bW}(h:e∈eN l):∃e',e'∈l/\e'.v=e.v+1:=by
 unfold eN at h;obtain⟨e',h1,rfl⟩:=bj.1 h;simp only[dH,Uq]at h1;exact⟨e',h1.1,by dsimp only;omega⟩
theorem PS.lam {Us k:Nat}{f:aI->W}{b:Ct}(h:PS Us (k+1) 0 f (λρ=>.jJ b ρ)) :
  PS Us k 0 (λn=>if (n.bK (Wc Us)).2.2=0 then (if (f (n.bK (Wc Us)).1).e=0 then Xc Us (n.bK (Wc Us)).2.1 (f (n.bK (Wc Us)).1) else f (n.bK (Wc Us)).1) else pN (n.bK (Wc Us)).2.2) (λρ=>.jJ (.lam b) ρ):=by
 intro n L hb he;dsimp only at he ⊢;by_cases hm:(n.bK (Wc Us)).2.2=0
 ·rw[ah hm]at he ⊢;obtain⟨a1,a2,a3,a4⟩:=hb.bK (x:=Wc Us) (by show 2<=2;omega) (λh=>wg h) (λe=>by cases e) hm;have hp3:(Wc Us).bO=3:=rfl;rw[hp3]at a2 a3;generalize hM:(n.bK (Wc Us)).1=n1 at *;generalize hS:(n.bK (Wc Us)).2.1=m at *;by_cases hf:(f n1).e=0
  ·rw[ah hf]at he ⊢;obtain⟨b1,b2,b3,b4,b5⟩:=h n1 _ a2 hf;generalize hW:f n1=w at *;have hperm:(w.out::(w.l.map bW.p++(UQ m 0 3++L))).Perm (w.out::⟨m,1⟩::(w.l.map bW.p++(⟨m,0⟩::⟨m,2⟩::L))):=by
    rw[UY];intro a;simp only[UQ,List.range',ai,au,aH,aL,lR,U7,Nat.reduceAdd,aG];omega
   obtain⟨c1,c2,c3,c4⟩:=(b1.perm hperm).link;have gx1:=(a3.trans b2).trans (c2.perm hperm.symm (.refl _));have bound:∀e,e∈eN w.l->e.v<k:=λe he'=>by
    obtain⟨e',h1,h2⟩:=QE he';have:=b4 e' h1;omega
   have fin:∀(w':W),w'.out=⟨m,0⟩->w'.l=eN w.l->x9 (w.n.bx w.out ⟨m,1⟩) (w.l.map bW.p++(⟨m,0⟩::⟨m,2⟩::L)) w'.n (⟨m,0⟩::((eN w.l).map bW.p++L)) ->
     (∀g,Dd g w'.n (⟨m,0⟩::((eN w.l).map bW.p++L))->∀e,e∈w.l->e.v=0->g.pr e.p=⟨m,2⟩) ->
     ∀g,Dd g w'.n (⟨m,0⟩::((eN w.l).map bW.p++L))->∀(Γ:Bd) (C X:Cx) (ρ:List T),C.length=Us->X.length=0->IB g Γ C ρ (eN w.l)->At g Γ ⟨m,0⟩ (C++X) (.jJ (.lam b) ρ):=by
    intro w' e1 e2 gx hz g hg Γ C X ρ hC hX hc;have hX0:X=[]:=aW hX;subst hX0;rw[UD];have g1:=gx.Cd hg;have g2:=(c2.perm hperm.symm (.refl _)).Cd g1;have g3:=b2.Cd g2;obtain⟨z,z1,z2,z3,z4,z5,z6,z7⟩:=g3.nd (i:=m) (x:=(Wc Us).d_) a4 (by show(2:Nat)≠0;omega);have zl:z.Us=C.length:=by rw[z3];exact hC.symm
    refine At.mk' z1 (.lam z2 zl .refl (λu=>?_));have:=g1.pr ⟨m,1⟩ c4.1 c4.2.1;rw[c4.2.2]at this;rw[this];have hr:=b5 g g2 (Γ.add m C u) C [] (u::ρ) hC rfl (λe he' s=>?_)
    ·rw[UD]at hr;exact hr
    ·by_cases hv0:e.v=0
     ·refine⟨u,by rw[hv0];rfl,?_⟩;rw[hz g hg e he' hv0];exact At.mk' z1 (.var z2 zl (.inr ⟨rfl,rfl,rfl⟩) .refl)
     ·obtain⟨v,v1,v2⟩:=hc _ (Ql he' hv0) s;refine⟨v,?_,v2.RH (λ_ _ _ e=>.inl e)⟩;rw[show e.v=(e.v-1)+1 from by omega];exact v1
   unfold Xc at he ⊢;cases hfi:jT w.l 0 with
   |some i =>
    rw[hfi]at he;dsimp only at he ⊢;obtain⟨hi,hiv⟩:=Cg hfi;have hli:w.l.getD i default=w.l[i]:=by rw[List.getD_eq_getElem?_getD,gG hi];rfl
    rw[hli];have hlow:=P9 hi hiv b3;have hp1:(w.l.map bW.p++(⟨m,0⟩::⟨m,2⟩::L)).Perm (w.l[i].p::⟨m,2⟩::(⟨m,0⟩::((eN w.l).map bW.p++L))):=by
     rw[UY];intro a;have e1:=(x_ hi bW.p).count_eq a;have e2:=hlow.count_eq a;simp only[lR,U7,Nat.reduceAdd,aG]at e1 e2 ⊢;omega
    obtain⟨d1,d2,d3,d4⟩:=(c1.perm hp1).link;have gx2:=d2.perm hp1.symm (.refl _);refine⟨d1,gx1.trans gx2,OA b3,bound,fin ⟨(w.n.bx w.out ⟨m,1⟩).bx w.l[i].p ⟨m,2⟩,⟨m,0⟩,eN w.l,0⟩ rfl rfl gx2 (λg hg e he' hv0=>?_)⟩;have e2:e=w.l[i]:=by
     obtain⟨j,hj,rfl⟩:=dw.1 he';have:=(List.getElem_inj (i:=j) (j:=i) (h₀:=by simpa using hj) (h₁:=by simpa using hi) b3).1 (by simp[hv0,hiv]);subst this;rfl
    have:=hg.pr _ d3.1 d3.2.1;rw[e2,this];exact d3.2.2
   |none =>
    rw[hfi]at he;dsimp only at he ⊢;have hnz:=Cf hfi;by_cases hd:((w.n.bx w.out ⟨m,1⟩).bK (kt Us)).2.2=0
    ·rw[ah hd]at he ⊢;obtain⟨d1,d2,d3,d4⟩:=c1.bK (x:=kt Us) (by show 2<=7;omega) (λh=>ux h) (λe=>by cases e) hd;have hp1:(kt Us).bO=1:=rfl;rw[hp1]at d2 d3;generalize hN2:((w.n.bx w.out ⟨m,1⟩).bK (kt Us)).1=n2 at *;generalize hS2:((w.n.bx w.out ⟨m,1⟩).bK (kt Us)).2.1=d at *;have hp2:(UQ d 0 1++(w.l.map bW.p++(⟨m,0⟩::⟨m,2⟩::L))).Perm (⟨d,0⟩::⟨m,2⟩::(⟨m,0⟩::((eN w.l).map bW.p++L))):=by
      rw[Qk hnz,UY];intro a;simp only[UQ,List.range',ai,au,aH,aL,lR,U7,Nat.reduceAdd,aG];omega
     obtain⟨e1,e2,e3,e4⟩:=(d2.perm hp2).link;have gx2:=d3.trans (e2.perm hp2.symm (.refl _));exact⟨e1,gx1.trans gx2,OA b3,bound,fin ⟨_,⟨m,0⟩,eN w.l,0⟩ rfl rfl gx2 (λg hg e he' hv0=>absurd hv0 (hnz e he'))⟩
    ·rw[aa hd]at he;exact absurd he hd
  ·rw[aa hf]at he;exact absurd he hf
 ·rw[aa hm]at he;exact absurd he hm
theorem PS.wu {Us:Nat}{pb:aI->W}{b:Ct}:∀(j:Nat) {k:Nat},PS Us (k+j) 0 pb (λρ=>.jJ b ρ)->PS Us k 0 (iG Us pb j) (λρ=>.jJ (Ct.wu j b) ρ)
 |0,k,h=>h
 |j+1,k,h=>by
  have h1:=PS.wu j (k:=k+1) (pb:=pb) (b:=b) (by rw[show k+1+j=k+(j+1) from by omega];exact h);exact h1.lam
structure nV where
 f:aI->W
 aT:Nat
 dl:Nat
 rd:List T->T
theorem ya {Us k m:Nat}:∀(qs:List nV) (n:aI) (l:List bW) (L:List aq),(∀q,q∈qs->PS Us k q.dl q.f q.rd)->Bs n (qs.map (λq=>(⟨m,q.aT⟩:aq))++(l.map bW.p++L))->(l.map bW.v).Nodup->(∀e,e∈l->e.v<k) ->
  (dg Us m (qs.map nV.f) (qs.map nV.aT) n l).e=0 ->
  Bs (dg Us m (qs.map nV.f) (qs.map nV.aT) n l).n ((dg Us m (qs.map nV.f) (qs.map nV.aT) n l).l.map bW.p++L) /\
  x9 n (qs.map (λq=>(⟨m,q.aT⟩:aq))++(l.map bW.p++L)) (dg Us m (qs.map nV.f) (qs.map nV.aT) n l).n ((dg Us m (qs.map nV.f) (qs.map nV.aT) n l).l.map bW.p++L) /\
  ((dg Us m (qs.map nV.f) (qs.map nV.aT) n l).l.map bW.v).Nodup/\(∀e,e∈(dg Us m (qs.map nV.f) (qs.map nV.aT) n l).l->e.v<k) /\
  ∀g,Dd g (dg Us m (qs.map nV.f) (qs.map nV.aT) n l).n ((dg Us m (qs.map nV.f) (qs.map nV.aT) n l).l.map bW.p++L)->∀(Γ:Bd) (C:Cx) (ρ:List T),C.length=Us->IB g Γ C ρ (dg Us m (qs.map nV.f) (qs.map nV.aT) n l).l ->
   IB g Γ C ρ l/\∀q,q∈qs->∀X:Cx,X.length=q.dl->At g Γ (g.pr ⟨m,q.aT⟩) (C++X) (q.rd ρ)
 |[],n,l,L,hq,hb,v1,v2,he=>⟨hb,.refl _ _,v1,v2,λg hg Γ C ρ hC hc=>⟨hc,λq hq=>by simp at hq⟩⟩
 |q::qs,n,l,L,hq,hb,v1,v2,he=>by
  simp only[ai,dg]at he ⊢;by_cases hf:(q.f n).e=0
  ·rw[ah hf]at he ⊢;obtain⟨a1,a2,a3,a4,a5⟩:=hq q (by simp) n _ hb hf;generalize hW:q.f n=w at *;have hperm:(w.out::(w.l.map bW.p++((q::qs).map (λq=>(⟨m,q.aT⟩:aq))++(l.map bW.p++L)))).Perm (w.out::⟨m,q.aT⟩::(w.l.map bW.p++(l.map bW.p++(qs.map (λq=>(⟨m,q.aT⟩:aq))++L)))):=by
    rw[UY];intro a;simp only[ai,aH,lR,U7,Nat.reduceAdd,aG];omega
   obtain⟨b1,b2,b3,b4⟩:=(a1.perm hperm).link;have he':(U5 Us ⟨w.n.bx w.out ⟨m,q.aT⟩,w.out,w.l,0⟩ l).e=0:=by
    by_cases c:(U5 Us ⟨w.n.bx w.out ⟨m,q.aT⟩,w.out,w.l,0⟩ l).e=0
    ·exact c
    ·rw[aa c]at he;exact absurd he c
   rw[ah he']at he ⊢;obtain⟨c1,c2,c3,c4⟩:=ry (Us:=Us) w.l (w.n.bx w.out ⟨m,q.aT⟩) l (qs.map (λq=>(⟨m,q.aT⟩:aq))++L) b1 v1 a3 he';have hmv:=qa (Us:=Us) (·<k) w.l (w.n.bx w.out ⟨m,q.aT⟩) l a4 v2;have hMn:(U5 Us ⟨w.n.bx w.out ⟨m,q.aT⟩,w.out,w.l,0⟩ l).n=(Uw Us (w.n.bx w.out ⟨m,q.aT⟩) l w.l).1:=rfl;have hMl:(U5 Us ⟨w.n.bx w.out ⟨m,q.aT⟩,w.out,w.l,0⟩ l).l=(Uw Us (w.n.bx w.out ⟨m,q.aT⟩) l w.l).2.1:=rfl;rw[hMn,hMl]at he ⊢;generalize (Uw Us (w.n.bx w.out ⟨m,q.aT⟩) l w.l)=M at *;have hp2:(M.2.1.map bW.p++(qs.map (λq=>(⟨m,q.aT⟩:aq))++L)).Perm (qs.map (λq=>(⟨m,q.aT⟩:aq))++(M.2.1.map bW.p++L)):=by
    rw[UY];intro a;simp only[U7];omega
   obtain⟨d1,d2,d3,d4,d5⟩:=ya qs M.1 M.2.1 L (λq' hq'=>hq q' (by simp[hq'])) (c1.perm hp2) c3 hmv he;have gx:=(c2.perm (.refl _) hp2).trans d2;have gx0:=b2.trans gx;refine⟨d1,(a2.perm (.refl _) hperm).trans gx0,d3,d4,λg hg Γ C ρ hC hc=>?_⟩;obtain⟨e1,e2⟩:=d5 g hg Γ C ρ hC hc;have gM:=d2.Cd hg;have gM':Dd g M.1 (M.2.1.map bW.p++(qs.map (λq=>(⟨m,q.aT⟩:aq))++L)):=⟨gM.aD,λp h1 h2=>gM.pr p h1 (λe=>h2 (hp2.mem_iff.2 e))⟩
   obtain⟨f1,f2⟩:=c4 g gM' Γ C ρ hC e1;refine⟨f1,λq' hq' X hX=>?_⟩;rcases aA.1 hq' with rfl|hq'
   ·have:=(gx.Cd hg).pr ⟨m,q'.aT⟩ b4.1 b4.2.1;rw[b4.2.2]at this;rw[this];have g0:=gx0.Cd hg;exact a5 g ⟨g0.aD,λp h1 h2=>g0.pr p h1 (λe=>h2 (hperm.mem_iff.2 e))⟩ Γ C X ρ hC hX f2
   ·exact e2 q' hq' X hX
  ·rw[aa hf]at he;exact absurd he hf
theorem PS.aD {Us k out:Nat}{x:Up}{rd:List T->T}(qs:List nV)(hq:∀q,q∈qs->PS Us k q.dl q.f q.rd)(hk:2<=x.ao)(hl:x.Us=Us)(hx:x.Us<=60->x.ok=true)(hp:x.ao=8->x.to.length=x.bO)
  (hports:∀s,(UQ s 0 x.bO).Perm (⟨s,out⟩::qs.map (λq=>(⟨s,q.aT⟩:aq))))
  (hr:∀(g:Gr) (Γ:Bd) (C:Cx) (ρ:List T) (m:Nat) (z:Up),C.length=Us->g.nd m=some z->z.ao=x.ao->z.Us=C.length->z.aY=x.aY->z.n=x.n->z.name=x.name->z.to.length=x.bO->(∀q,q∈qs->∀X:Cx,X.length=q.dl->At g Γ (g.pr ⟨m,q.aT⟩) (C++X) (q.rd ρ))->At g Γ ⟨m,out⟩ C (rd ρ)) :
  PS Us k 0 (mS x (qs.map nV.f) (qs.map nV.aT) out) rd:=by
 intro n L hb he;unfold mS at he ⊢;by_cases hm:(n.bK x).2.2=0
 ·rw[ah hm]at he ⊢;obtain⟨a1,a2,a3,a4⟩:=hb.bK hk hx hp hm;rw[hl]at he ⊢;generalize hM:(n.bK x).1=n1 at *;generalize hS:(n.bK x).2.1=m at *;have he':(dg Us m (qs.map nV.f) (qs.map nV.aT) n1 []).e=0:=by
   by_cases c:(dg Us m (qs.map nV.f) (qs.map nV.aT) n1 []).e=0
   ·exact c
   ·rw[aa c]at he;exact absurd he c
  rw[ah he']at he ⊢;have hperm:(UQ m 0 x.bO++L).Perm (qs.map (λq=>(⟨m,q.aT⟩:aq))++(([]:List bW).map bW.p++(⟨m,out⟩::L))):=by
   refine((hports m).append_right L).trans ?_;exact eh.symm
  obtain⟨b1,b2,b3,b4,b5⟩:=ya (Us:=Us) (k:=k) (m:=m) qs n1 [] (⟨m,out⟩::L) hq (a2.perm hperm) (by simp) (by simp) he';generalize (dg Us m (qs.map nV.f) (qs.map nV.aT) n1 [])=w at *;dsimp only;have hp2:(w.l.map bW.p++(⟨m,out⟩::L)).Perm (⟨m,out⟩::(w.l.map bW.p++L)):=eh;have gx:=b2.perm (.refl _) hp2;refine⟨b1.perm hp2,(a3.perm (.refl _) hperm).trans gx,b3,b4,λg hg Γ C X ρ hC hX hc=>?_⟩;have hX0:X=[]:=aW hX;subst hX0;rw[UD];obtain⟨z,z1,z2,z3,z4,z5,z6,z7⟩:=(gx.Cd hg).nd (i:=m) (x:=x.d_) a4 (by show x.ao≠0;omega);refine hr g Γ C ρ m z hC z1 z2 (by rw[z3];show x.Us=_;omega) z4 z5 z6 (by rw[z7];exact wb x) ?_;exact(b5 g ⟨hg.aD,λp h1 h2=>hg.pr p h1 (λe=>h2 (hp2.mem_iff.2 e))⟩ Γ C ρ hC hc).2
 ·rw[aa hm]at he;exact absurd he hm
section
variable {pg:fX}
theorem Gm (s out a b:Nat)(h:(out,a,b)=(1,0,2)):(UQ s 0 3).Perm (⟨s,out⟩::[(⟨s,a⟩:aq),⟨s,b⟩]):=by
 cases h;exact List.Perm.swap _ _ _
def Gn (Us:Nat)(i:Nat)(t:Ct):nV:=⟨λn=>jI Us (t.cP (Us+1) n),i,1,λρ=>.jJ t ρ⟩
def mb (Us:Nat):Nat->List Ct->List nV
 |_,[]=>[]
 |i,t::l=>Gn Us i t::mb Us (i+1) l
theorem A7 {Us:Nat}:∀(i:Nat) (l:List Ct),(mb Us i l).map nV.f=Ct.l9 l Us/\(mb Us i l).map nV.aT=List.range' i l.length/\∀s,(mb Us i l).map (λq=>(⟨s,q.aT⟩:aq))=UQ s i l.length
 |i,[]=>⟨rfl,rfl,λ_=>rfl⟩
 |i,t::l=>by
  obtain⟨h1,h2,h3⟩:=A7 (Us:=Us) (i+1) l;refine⟨by simp only[mb,ai,h1,Ct.l9];rfl,by simp only[mb,ai,h2,av,cq];rfl,λs=>?_⟩;simp only[mb,ai,h3,av];unfold UQ;rw[cq];rfl
theorem rz {Us:Nat}:∀(i:Nat) (l:List Ct) (q:nV),q∈mb Us i l↔∃j t,l[j]?=some t/\q=Gn Us (i+j) t
 |i,[],q=>by simp[mb]
 |i,t::l,q=>by
  simp only[mb,aA,rz (i+1) l];constructor
  ·rintro(rfl|⟨j,t',h1,rfl⟩)
   ·exact⟨0,t,by simp,rfl⟩
   ·exact⟨j+1,t',by simpa using h1,by rw[show i+1+j=i+(j+1) from by omega]⟩
  ·rintro⟨j,t',h1,rfl⟩;cases j with
   |zero =>
    simp only[List.getElem?_cons_zero,bG]at h1;subst h1;exact .inl rfl
   |succ j=>exact .inr ⟨j,t',by simpa using h1,by rw[show i+1+j=i+(j+1) from by omega]⟩
def Gp (Us:Nat)(i:Nat)(t:Ct):nV:=⟨match t with
 |.alt _ k b=>iG Us (b.cP Us) k
 |_=>λ_=>pN 999,i,0,λρ=>.jJ (wx t) ρ⟩
def mc (Us:Nat):Nat->List Ct->List nV
 |_,[]=>[]
 |i,t::l=>Gp Us i t::mc Us (i+1) l
theorem A8 {Us:Nat}:∀(i:Nat) (l:List Ct),(mc Us i l).map nV.f=Ct.nk l Us/\(mc Us i l).map nV.aT=List.range' i l.length/\∀s,(mc Us i l).map (λq=>(⟨s,q.aT⟩:aq))=UQ s i l.length
 |i,[]=>⟨rfl,rfl,λ_=>rfl⟩
 |i,t::l=>by
  obtain⟨h1,h2,h3⟩:=A8 (Us:=Us) (i+1) l;refine⟨?_,by simp only[mc,ai,h2,av,cq];rfl,λs=>?_⟩
  ·simp only[mc,ai,h1];cases t<;>rfl
  ·simp only[mc,ai,h3,av];unfold UQ;rw[cq];rfl
theorem rA {Us:Nat}:∀(i:Nat) (l:List Ct) (q:nV),q∈mc Us i l↔∃j t,l[j]?=some t/\q=Gp Us (i+j) t
 |i,[],q=>by simp[mc]
 |i,t::l,q=>by
  simp only[mc,aA,rA (i+1) l];constructor
  ·rintro(rfl|⟨j,t',h1,rfl⟩)
   ·exact⟨0,t,by simp,rfl⟩
   ·exact⟨j+1,t',by simpa using h1,by rw[show i+1+j=i+(j+1) from by omega]⟩
  ·rintro⟨j,t',h1,rfl⟩;cases j with
   |zero =>
    simp only[List.getElem?_cons_zero,bG]at h1;subst h1;exact .inl rfl
   |succ j=>exact .inr ⟨j,t',by simpa using h1,by rw[show i+1+j=i+(j+1) from by omega]⟩
theorem Gq (s:List UInt8)(k:Nat)(b:Ct):b.size<(Ct.alt s k b).size:=by simp[Ct.size]
theorem jE:∀(N:Nat) (t:Ct) (k Us:Nat),t.size<=N->t.wf k=true->PS Us k 0 (t.cP Us) (λρ=>.jJ t ρ)
 |0,t,k,Us,hs,hw=>by have:=size_pos t;omega
 |N+1,t,k,Us,hs,hw=>by
  cases t with
  |var i =>
   simp only[Ct.wf,Uq]at hw;exact PS.var hw
  |int v=>exact PS.leaf (x:=⟨10,Us,v,[],[],[]⟩) (v:=.fail) (.inl rfl) rfl (λh=>tc v h) _ (λρ=>.inl ⟨rfl,.one rfl⟩)
  |fail=>exact PS.leaf (x:=⟨13,Us,0,[],[],[]⟩) (v:=.fail) (.inr rfl) rfl (λh=>iP (.inr rfl) 0 rfl h) _ (λρ=>.inr ⟨rfl,.one rfl⟩)
  |lam b =>
   simp only[Ct.wf]at hw;simp only[Ct.size]at hs;exact PS.wu 1 (jE N b (k+1) Us (by omega) hw)
  |alt s j b=>simp[Ct.wf]at hw
  |app f a =>
   simp only[Ct.wf,ab]at hw;simp only[Ct.size]at hs;have hf:=jE N f k Us (by omega) hw.1;have ha:=(jE N a k (Us+1) (by omega) hw.2).box;refine PS.aD (x:=⟨3,Us,0,[],[],[]⟩) (out:=1) [⟨f.cP Us,0,0,λρ=>.jJ f ρ⟩,⟨λn=>jI Us (a.cP (Us+1) n),2,1,λρ=>.jJ a ρ⟩] ?_ (by show 2<=3;omega) rfl (λh=>y8 h) (λe=>by cases e) (λs=>Gm s 1 0 2 rfl) ?_
   ·intro q hq;simp only[aA,UA,dU]at hq;rcases hq with rfl|rfl
    ·exact hf
    ·exact ha
   ·intro g Γ C ρ m z hC z1 z2 z3 z4 z5 z6 z7 hr;have h1:=hr ⟨f.cP Us,0,0,λρ=>.jJ f ρ⟩ (by simp) [] rfl;rw[UD]at h1;exact At.mk' z1 (.app z2 z3 (.one rfl) h1 (λs=>hr ⟨λn=>jI Us (a.cP (Us+1) n),2,1,λρ=>.jJ a ρ⟩ (by simp) [s] rfl))
  |op s a b =>
   simp only[Ct.wf,ab]at hw;simp only[Ct.size]at hs;have hf:=jE N a k Us (by omega) hw.1.2;have ha:=jE N b k Us (by omega) hw.2;refine PS.aD (x:=⟨11,Us,0,s,[],[]⟩) (out:=1) [⟨a.cP Us,0,0,λρ=>.jJ a ρ⟩,⟨b.cP Us,2,0,λρ=>.jJ b ρ⟩] ?_ (by show 2<=11;omega) rfl (λh=>C5 (y7 hw.1.1) h) (λe=>by cases e) (λs=>Gm s 1 0 2 rfl) ?_
   ·intro q hq;simp only[aA,UA,dU]at hq;rcases hq with rfl|rfl
    ·exact hf
    ·exact ha
   ·intro g Γ C ρ m z hC z1 z2 z3 z4 z5 z6 z7 hr;have h1:=hr ⟨a.cP Us,0,0,λρ=>.jJ a ρ⟩ (by simp) [] rfl;have h2:=hr ⟨b.cP Us,2,0,λρ=>.jJ b ρ⟩ (by simp) [] rfl;rw[UD]at h1 h2;exact At.mk' z1 (.op z2 z3 (by rw[z6];exact .one rfl) h1 h2)
  |UW s l =>
   simp only[Ct.wf,ab,Uq]at hw;simp only[Ct.size]at hs;obtain⟨e1,e2,e3⟩:=A7 (Us:=Us) 1 l;have hnode:=PS.aD (Us:=Us) (k:=k) (out:=0) (x:=⟨8,Us,0,s,[],List.replicate (l.length+1) ⟨0,0⟩⟩) (rd:=λρ=>.jJ (.UW s l) ρ) (mb Us 1 l) (λq hq=>by
    obtain⟨j,t,h1,rfl⟩:=(rz 1 l q).1 hq;have hm:=aE h1;exact(jE N t k (Us+1) (by have:=dm hm;omega) (Vi hw.2 t hm)).box) (by show 2<=8;omega) rfl (λh=>YM (XM hw.1.1) hw.1.2 h) (λ_=>by simp[Up.bO]) (λs'=>by
    rw[e3];have:(Up.mk 8 Us 0 s [] (List.replicate (l.length+1) ⟨0,0⟩)).bO=l.length+1:=by simp[Up.bO]
    rw[this];unfold UQ;rw[cq];exact .refl _) (λg Γ C ρ m z hC z1 z2 z3 z4 z5 z6 z7 hr=>by
    refine At.mk' z1 (.UW (l:=l.map λa=>.jJ a ρ) z2 z3 (by rw[z6];exact .one rfl) (by rw[z7];simp[Up.bO]) (λi t' hi s0=>?_));rw[List.getElem?_map]at hi;obtain⟨t,h1,rfl⟩:=aP.1 hi;have:=hr (Gn Us (1+i) t) ((rz 1 l _).2 ⟨i,t,h1,rfl⟩) [s0] rfl;rw[show i+1=1+i from by omega];exact this)
   rw[e1,e2]at hnode;exact hnode
  |case h l =>
   simp only[Ct.wf,ab,Uq]at hw;simp only[Ct.size]at hs;obtain⟨e1,e2,e3⟩:=A8 (Us:=Us) 2 l;have hh:=jE N h k Us (by omega) hw.1.1.1;have hport:(Up.mk 9 Us 0 [] (l.map fQ) []).bO=l.length+2:=by simp[Up.bO];omega
   have hnode:=PS.aD (Us:=Us) (k:=k) (out:=1) (x:=⟨9,Us,0,[],l.map fQ,[]⟩) (rd:=λρ=>.jJ (.case h l) ρ) (⟨h.cP Us,0,0,λρ=>.jJ h ρ⟩::mc Us 2 l) (λq hq=>by
    rcases aA.1 hq with rfl|hq
    ·exact hh
    ·obtain⟨j,t,h1,rfl⟩:=(rA 2 l q).1 hq;have hm:=aE h1;obtain⟨s',k',b,rfl,w1,w2⟩:=fV hw.2 t hm;have h3:=Gq s' k' b;exact PS.wu k' (jE N b (k+k') Us (by have:=dm hm;omega) w2)) (by show 2<=9;omega) rfl (λhl=>y9 (by simpa using hw.1.1.2) hw.1.2 hl) (λe=>by cases e) (λs'=>by
    rw[hport];simp only[ai,e3];unfold UQ;rw[cq,cq];exact List.Perm.swap _ _ _) (λg Γ C ρ m z hC z1 z2 z3 z4 z5 z6 z7 hr=>by
    have h1:=hr ⟨h.cP Us,0,0,λρ=>.jJ h ρ⟩ (by simp) [] rfl;rw[UD]at h1;refine At.mk' z1 (.case (l:=l.map λa=>.jJ (wx a) ρ) z2 z3 (by rw[z4];exact .one rfl) (by rw[z4];simp) h1 (λi t' hi=>?_));rw[List.getElem?_map]at hi;obtain⟨t,h2,rfl⟩:=aP.1 hi;have:=hr (Gp Us (2+i) t) (bA _ ((rA 2 l _).2 ⟨i,t,h2,rfl⟩)) [] rfl;rw[UD]at this;rw[show i+2=2+i from by omega];exact this)
   simp only[ai,e1,e2]at hnode;exact hnode
theorem De {most:Nat}(h:2<=most/\most<=4000):Bs (kP most) [⟨0,0⟩]:=by
 have hn:∀(i:Nat) (x:Up),(kP most).ae[i]?=some x->i=0/\x=⟨1,0,0,[],[],[⟨0,0⟩]⟩:=λi x hx=>by
  cases i with
  |zero=>exact⟨rfl,by simpa [kP] using hx.symm⟩
  |succ i=>simp[kP]at hx
 refine⟨⟨by show 1<=most/\most<=4000;omega,by show 1<=1/\1<=most;omega,λx hx=>?_,λi x hx=>?_⟩,λp hp hD=>?_,by simp,λr hr=>?_⟩
 ·rw[(hn _ x hx).2];show(1:Nat)≠0;omega
 ·obtain⟨rfl,rfl⟩:=hn i x hx;exact⟨by decide,by decide,by simp⟩
 ·exfalso;obtain⟨x,hx,hs⟩:=hp;obtain⟨h1,h2⟩:=hn _ x hx;rw[h2]at hs;simp at hs;apply hD;simp only[br];exact aq.ext' h1 hs
 ·simp only[br]at hr;subst hr;exact⟨_,rfl,by decide⟩
theorem Gt {t:Ct}{most:Nat}(hm:2<=most/\most<=4000)(hw:t.wf 0=true)(he:(t.cS most).2=0):(t.cS most).1.Ok/\At (t.cS most).1.gr sD ((t.cS most).1.pr ⟨0,0⟩) [] (.jJ t []):=by
 unfold Ct.cS at he ⊢;by_cases h:(t.cP 0 (kP most)).e=0
 ·rw[ah h];obtain⟨a1,a2,a3,a4,a5⟩:=jE t.size t 0 0 (aB _) hw (kP most) _ (De hm) h;generalize t.cP 0 (kP most)=w at *;have hl:w.l=[]:=by
   cases hl:w.l with
   |nil=>rfl
   |cons e r=>have:=a4 e (by rw[hl];simp);omega
  rw[hl]at a1 a5;obtain⟨b1,b2,b3,b4⟩:=a1.link;dsimp only;refine⟨b1.sk.ok (D:=λ_=>False) (b1.lk.congr (λp _=>by simp)) (λ_ _ h=>h),?_⟩;have hg:Dd (w.n.bx w.out ⟨0,0⟩).gr (w.n.bx w.out ⟨0,0⟩) []:=⟨λi x hx _=>⟨x,hx,rfl⟩,λp _ _=>rfl⟩
  have:=a5 _ (b2.Cd hg) sD [] [] [] rfl rfl (λe he=>by simp at he);rw[b4.2.2];exact this
 ·rw[aa h]at he;exact absurd he h
theorem Ef (hS:bY pg){t:Ct}{most:Nat}(hm:2<=most/\most<=4000)(hw:t.wf 0=true)(he:(t.cS most).2=0)(D:Bool)(F:Nat):x8 (bI (t.cS most).1 D F).2.1/\((bI (t.cS most).1 D F).2.1=0->Comes D (.jJ t []) (bI (t.cS most).1 D F).2.2):=by
 obtain⟨h1,h2⟩:=Gt hm hw he;exact Gl hS h1 h2 D F
end
section
variable {pg:fX}{G:Heap}
mutual
def Ct.sub (us:List Ct):Nat->Ct->Ct
 |b,.var i=>if i<b then .var i else us.getD (i-b) .fail
 |b,.lam t=>.lam (t.sub us (b+1))
 |b,.app f a=>.app (f.sub us b) (a.sub us b)
 |b,.UW s l=>.UW s (Ct.Bc us b l)
 |b,.case h l=>.case (h.sub us b) (Ct.Bc us b l)
 |b,.alt s n t=>.alt s n (t.sub us (b+n))
 |_,.int v=>.int v
 |b,.op s x y=>.op s (x.sub us b) (y.sub us b)
 |_,.fail=>.fail
def Ct.Bc (us:List Ct):Nat->List Ct->List Ct
 |_,[]=>[]
 |b,a::r=>a.sub us b::Ct.Bc us b r
end
theorem Ct.Vh (us:List Ct)(b:Nat):∀l,Ct.Bc us b l=l.map (Ct.sub us b)
 |[]=>rfl
 |a::r=>by simp[Ct.Bc,Ct.Vh us b r]
mutual
theorem Ct.WT (us:List Ct):∀(t:Ct) (b:Nat),(t.sub us b).tm=t.tm.subst (us.map Ct.tm) b
 |.var i,b=>by
  simp only[Ct.sub,Ct.tm,Tm.subst];by_cases c:i<b
  ·rw[ah c,ah trivial,ah (by omega)];rfl
  ·rw[aa c,ah trivial,aa (by omega)];rw[List.getD_eq_getElem?_getD,List.getD_eq_getElem?_getD,List.getElem?_map,show((i:Int)-b).toNat=i-b from by omega];cases us[i-b]?<;>rfl
 |.lam t,b=>by
  have:=Ct.WT us t (b+1);simp only[Ct.sub,Ct.tm,Tm.subst,Tm.iW,aa (show ¬ (2:Int)=1 by omega),this];rfl
 |.app f a,b=>by
  have h1:=Ct.WT us f b;have h2:=Ct.WT us a b;simp only[Ct.sub,Ct.tm,Tm.subst,Tm.iW,aa (show ¬ (3:Int)=1 by omega),h1,h2,de,aa (show ¬ (3:Int)=2 by omega),aa (show ¬ (3:Int)=6 by omega),iK]
 |.UW s l,b=>by
  have:=Ct.zd us l b;simp only[Ct.sub,Ct.tm,Tm.subst,aa (show ¬ (4:Int)=1 by omega),this,de,aa (show ¬ (4:Int)=2 by omega),aa (show ¬ (4:Int)=6 by omega),iK]
 |.case h l,b=>by
  have h1:=Ct.WT us h b;have h2:=Ct.zd us l b;simp only[Ct.sub,Ct.tm,Tm.subst,Tm.iW,aa (show ¬ (5:Int)=1 by omega),h1,h2,de,aa (show ¬ (5:Int)=2 by omega),aa (show ¬ (5:Int)=6 by omega),iK]
 |.alt s n t,b=>by
  have:=Ct.WT us t (b+n);simp only[Ct.sub,Ct.tm,Tm.subst,Tm.iW,aa (show ¬ (6:Int)=1 by omega),this,de,aa (show ¬ (6:Int)=2 by omega),ah (show(6:Int)=6 by rfl)];rfl
 |.int v,b=>by simp[Ct.sub,Ct.tm,Tm.subst,Tm.iW]
 |.op s x y,b=>by
  have h1:=Ct.WT us x b;have h2:=Ct.WT us y b;simp only[Ct.sub,Ct.tm,Tm.subst,Tm.iW,aa (show ¬ (8:Int)=1 by omega),h1,h2,de,aa (show ¬ (8:Int)=2 by omega),aa (show ¬ (8:Int)=6 by omega),iK]
 |.fail,b=>by simp[Ct.sub,Ct.tm,Tm.subst,Tm.iW]
theorem Ct.zd (us:List Ct):∀(l:List Ct) (b:Nat),Ct.gp (Ct.Bc us b l)=Tm.iW (us.map Ct.tm) b (Ct.gp l)
 |[],b=>rfl
 |a::r,b=>by
  have h1:=Ct.WT us a b;have h2:=Ct.zd us r b;simp only[Ct.Bc,Ct.gp,Tm.iW,h1,h2]
end
theorem Ct.jJ:∀(N:Nat) (t:Ct) (f:Nat),t.size<=N->t.wf f=true->t.tm.Ck f
 |0,t,f,hs,hw=>by have:=size_pos t;omega
 |N+1,t,f,hs,hw=>by
  cases t with
  |var i =>
   simp only[Ct.wf,Uq]at hw;exact .mk (λ_=>by omega) (λe=>by omega) (by simp) (by simp)
  |lam b =>
   simp only[Ct.wf]at hw;simp only[Ct.size]at hs;refine .mk (λe=>by omega) (λe=>by omega) (by simp) (λt ht=>?_);simp only[br]at ht;subst ht;exact Ct.jJ N b (f+1) (by omega) hw
  |app x y =>
   simp only[Ct.wf,ab]at hw;simp only[Ct.size]at hs;refine .mk (λe=>by omega) (λe=>by omega) (by simp) (λt ht=>?_);simp only[aA,UA,dU]at ht;have e:(f:Int)+de 3 0=f:=by simp[de]
   rw[e];rcases ht with rfl|rfl
   ·exact Ct.jJ N x f (by omega) hw.1
   ·exact Ct.jJ N y f (by omega) hw.2
  |UW s l =>
   simp only[Ct.wf,ab,Uq]at hw;simp only[Ct.size]at hs;refine .mk (λe=>by omega) (λe=>by omega) (by rw[Ct.cM];simp;omega) (λt ht=>?_);have e:(f:Int)+de 4 0=f:=by simp[de]
   rw[e];rw[Ct.cM]at ht;obtain⟨t',h1,rfl⟩:=bj.1 ht;exact Ct.jJ N t' f (by have:=dm h1;omega) (Vi hw.2 t' h1)
  |case h l =>
   simp only[Ct.wf,ab,Uq]at hw;simp only[Ct.size]at hs;have e:(f:Int)+de 5 0=f:=by simp[de]
   refine .mk (λe=>by omega) (λe=>by omega) (by rw[Ct.cM];simp;omega) (λt ht=>?_);rw[e];rw[Ct.cM]at ht;rcases aA.1 ht with rfl|ht
   ·exact Ct.jJ N h f (by omega) hw.1.1.1
   ·obtain⟨t',h1,rfl⟩:=bj.1 ht;obtain⟨s,k,b,rfl,w1,w2⟩:=fV hw.2 t' h1;have hk8:k<=8:=h_ hw.1.2 (s,k) (bj.2 ⟨_,h1,rfl⟩);have hsz:=dm h1;simp only[Ct.size]at hsz;refine .mk (λe=>by omega) (λ_=>by omega) (by simp) (λt ht=>?_);simp only[br]at ht;subst ht;have:=Ct.jJ N b (f+k) (by omega) w2;rw[show(f:Int)+de 6 k=((f+k:Nat):Int) from by simp[de]];exact this
  |alt s n b=>simp[Ct.wf]at hw
  |int v=>exact .mk (λe=>by omega) (λe=>by omega) (by simp) (by simp)
  |op s x y =>
   simp only[Ct.wf,ab]at hw;simp only[Ct.size]at hs;refine .mk (λe=>by omega) (λe=>by omega) (by simp) (λt ht=>?_);simp only[aA,UA,dU]at ht;have e:(f:Int)+de 8 0=f:=by simp[de]
   rw[e];rcases ht with rfl|rfl
   ·exact Ct.jJ N x f (by omega) hw.1.2
   ·exact Ct.jJ N y f (by omega) hw.2
  |fail=>exact .mk (λe=>by omega) (λe=>by omega) (by simp) (by simp)
theorem Tm.Ck.short {f:Int}{t:Tm}(h:t.Ck f):t.qH:=by
 induction h with
 |mk a b c d ih=>exact .mk c ih
mutual
theorem Ct.iQ:∀t:Ct,t.tm.size=t.size
 |.var _|.int _|.fail=>rfl
 |.lam b|.alt _ _ b=>by have:=Ct.iQ b;simp only[Ct.tm,Tm.size,Tm.dt,Ct.size,this];try omega
 |.app a b|.op _ a b=>by have h1:=Ct.iQ a;have h2:=Ct.iQ b;simp only[Ct.tm,Tm.size,Tm.dt,Ct.size,h1,h2];omega
 |.UW _ l=>by have:=Ct.wH l;simp only[Ct.tm,Tm.size,Ct.size,this]
 |.case h l=>by have h1:=Ct.iQ h;have h2:=Ct.wH l;simp only[Ct.tm,Tm.size,Tm.dt,Ct.size,h1,h2]
theorem Ct.wH:∀l:List Ct,Tm.dt (Ct.gp l)=Ct.dt l
 |[]=>rfl
 |a::r=>by have h1:=Ct.iQ a;have h2:=Ct.wH r;simp only[Ct.gp,Tm.dt,Ct.dt,h1,h2]
end
mutual
theorem Tm.oM:∀t:Tm,t.depth<=t.size
 |.mk _ _ _ l=>by have:=Tm.tZ l;simp only[Tm.depth,Tm.size];omega
theorem Tm.tZ:∀l:List Tm,Tm.dp l<=Tm.dt l
 |[]=>aB _
 |a::r=>by
  have h1:=Tm.oM a;have h2:=Tm.tZ r;simp only[Tm.dp,Tm.dt];exact ql.2 ⟨by omega,by omega⟩
end
structure Ct.Cl (t:Ct):Prop where
 wf:t.wf 0=true
 sz:t.size<=2 ^ 50
theorem Ct.Cl.jJ {t:Ct}(h:t.Cl):t.tm.Ck 0:=Ct.jJ t.size t 0 (aB _) h.wf
theorem Ct.Cl.dep {t:Ct}(h:t.Cl):8 * t.tm.depth<=2 ^ 59:=by
 have:=Tm.oM t.tm;rw[Ct.iQ]at this;have:=h.sz;omega
def Ct.val:Ct->Bool
 |.lam _|.UW _ _|.int _|.fail=>true
 |_=>false
def ue (s:List UInt8)(a b:Int):Ct×Nat :=
 if s=[43] then (.int (IntKind.i64.wrap (a+b)),3) else if s=[45] then (.int (IntKind.i64.wrap (a-b)),3)
 else if s=[42] then (.int (IntKind.i64.wrap (a * b)),3) else if s=[47] then (if b=0 then (.fail,4) else (.int (IntKind.i64.wrap (a.tdiv b)),3))
 else if (s=[60]/\a<b)\/(s=[61,61]/\a=b) then (.UW [84,114,117,101] [],3) else (.UW [70,97,108,115,101] [],3)
theorem HT (s:List UInt8)(a b:Int):(Eg s a b).1=(ue s a b).1.tm/\(Eg s a b).2=(ue s a b).2:=by
 unfold Eg ue
 repeat' split
 all_goals exact⟨rfl,rfl⟩
def gm:Ct->Ct
 |.alt _ _ b=>b
 |t=>t
def qI (l:List Ct)(s:List UInt8)(n:Nat):Option Nat:=l.findIdx? λt=>decide (fQ t=(s,n))
def Ct.pick (h:Ct)(l:List Ct):Ct×Nat:=match h with
 |.UW s ls=>match qI l s ls.length with
  |some k=>((gm (l.getD k .fail)).sub ls.reverse 0,2)
  |none=>(.fail,4)
 |_=>(.fail,4)
def Ct.step:Ct->Ct×Nat
 |.app f a=>if f.val then (match f with
   |.lam b=>(b.sub [a] 0,1)
   |_=>(.fail,4)) else if f.step.2=0 then (.app f a,0) else (.app f.step.1 a,f.step.2)
 |.case h l=>if h.val then h.pick l else if h.step.2=0 then (.case h l,0) else (.case h.step.1 l,h.step.2)
 |.op s a b=>if a.val then (match a with
   |.int n=>if b.val then (match b with
    |.int m=>ue s n m
    |_=>(.fail,4)) else if b.step.2=0 then (.op s (.int n) b,0) else (.op s (.int n) b.step.1,b.step.2)
   |_=>(.fail,4)) else if a.step.2=0 then (.op s a b,0) else (.op s a.step.1 b,a.step.2)
 |t=>(t,0)
theorem Ct.iI (t:Ct):∃k n s l,t.tm=.mk k n s l/\(decide (k=2) || decide (k=4) || decide (k=7) || decide (k=9))=t.val:=by
 cases t<;>exact⟨_,_,_,_,rfl,rfl⟩
theorem Cp (h:bY pg)(t:Ct):UM pg (E pg) 75 [.ag (bP t.tm.aw)] G=some (.ret (.p (.b t.val)),G):=by
 obtain⟨k,n,s,l,e,e2⟩:=t.iI;rw[e,<- e2];simp only[Tm.aw,Tm.ba,bP,ai,au];exact t75 h k n s _
theorem t99 (h:bY pg)(us:List Tm)(hu:∀u∈us,u.Ck 0/\8 * u.depth<=2 ^ 60)(hus:us.length<=60){t:Tm}(ht:t.Ck us.length)(htd:8 * t.depth<=2 ^ 59):UM pg (E pg) 99 [.ag (bP t.aw),.p (.sl ((us.map Tm.aw).reverse))] G=some (.ret (t.subst us 0).nv,G):=by
 have Qt:=λG=>t118 h us hu hus t 0 (by rw[Int.zero_add];exact ht) (by omega) (by omega) G;generalize t.subst us 0=r at *;obtain⟨tk,tn,tnm,tl⟩:=t;obtain⟨rk,rn,rnm,rl⟩:=r;simp only[Tm.aw,Tm.ba,bP,ai,au,Tm.eS]at Qt ⊢;refine Ut ?_ rfl rfl;rw[h.run (x:=M8)];simp[M8,aj,Qt]
theorem t76 (h:bY pg){k n:Int}{s:List UInt8}{l:List Tm}{i:Nat}{c x:Tm}{w:Nat}(hi:l[i]?=some c)(hl:l.length<=60)(e:∀G,UM pg (E pg) 55 [.ag (bP c.aw)] G=some (.ret (.dF [x.nv,.p (.i .i64 w)]),G)) :
  UM pg (E pg) 76 [.ag (bP (Tm.mk k n s l).aw),.p (.i .i64 i)] G=some (.ret (.dF [if w=0 then (Tm.mk k n s l).nv else (Tm.mk k n s (l.set i x)).nv,.p (.i .i64 w)]),G):=by
 have hlt:i<l.length:=(gE hi).1;have hci:l[i]=c:=(gE hi).2;have hne:l≠[]:=λe=>by rw[e]at hlt;simp at hlt
 have e7:bZ l.length 56=true:=by simp[bZ];omega
 have ok1:bH 4 (l.map Tm.aw)=true:=by
  unfold bH;rw[bc];intro r hr;obtain⟨t,_,rfl⟩:=bj.1 hr;exact Tm.aS t
 have hc4:aS 4 c.aw=true:=Tm.aS c;have hx4:=Tm.pS x;have hxf:x.aw.all PV.flat=true:=by cases x;rfl
 have tk:List.take l.length (l.map Tm.aw)=l.map Tm.aw:=aF (by simp);have c4:=Tm.ku c;have c4':=Tm.pS c;simp only[Tm.aw,Tm.ba,bP,ai,au]at e ⊢;refine Ut ?_ rfl ?_
 ·rw[h.run (x:=ME)];by_cases hw:w=0
  ·obtain⟨xk,xn,xnm,xl⟩:=x;obtain⟨ck,cn,cnm,cl⟩:=c;simp only[Tm.aw,Tm.ba,bP,ai,au,Tm.eS]at e ⊢;have hrow:(l.map Tm.aw)[i]?=some [iv ck,iv cn,.s cnm,.sl (cl.map Tm.aw)]:=by rw[List.getElem?_map,hi];simp[Tm.aw,Tm.ba]
   have okc:aS 4 [iv ck,iv cn,.s cnm,.sl (cl.map Tm.aw)]=true:=rfl;simp[ME,aj,hi,hw,e,okc,Tm.aw,Tm.ba]
  ·obtain⟨xk,xn,xnm,xl⟩:=x;obtain⟨ck,cn,cnm,cl⟩:=c;simp only[Tm.aw,Tm.ba,bP,ai,au,Tm.eS]at e ⊢;have okc:aS 4 [iv ck,iv cn,.s cnm,.sl (cl.map Tm.aw)]=true:=rfl;have hset:(l.map Tm.aw).set i [iv xk,iv xn,.s xnm,.sl (xl.map Tm.aw)]=(l.set i (.mk xk xn xnm xl)).map Tm.aw:=by rw[cz];simp[Tm.aw,Tm.ba]
   have hrow:(l.map Tm.aw)[i]?=some [iv ck,iv cn,.s cnm,.sl (cl.map Tm.aw)]:=by rw[List.getElem?_map,hi];simp[Tm.aw,Tm.ba]
   have dc:l.map Tm.aw≠[]:=by simpa using hne
   have hRl:(l.map Tm.aw).length=l.length:=by simp
   rw[<- hset];clear hset;generalize l.map Tm.aw=R at *;have hi3:i<R.length:=by omega
   have hrow':R[i]'hi3=[iv ck,iv cn,.s cnm,.sl (cl.map Tm.aw)]:=(gE hrow).2;have e5:=λG=>vJ (sz:=4) (b:=56) (G:=G) (y:=.p (.sl R)) (new:=R) rfl rfl dc ok1 (by rw[hRl];exact e7);have hi2:(i:Int)<(l.length:Int):=by omega
   simp[ME,aj,hrow,hrow',hRl,hw,e,okc,e5,hi2,hi3,hlt,cO,Vy,ee,Vn,PV.flat];exact aF (by simp;omega)
 ·simp only[Out.bf,bf,cH];split<;>simp only[Tm.nv,bf,bE 0 (eZ _)]<;>rfl
def t_ (a:Ct):Tm:=.mk 6 (fQ a).2 (fQ a).1 [(gm a).tm]
theorem Df {f:Nat}:∀{l:List Ct},Ct.El f l=true->Ct.gp l=l.map t_
 |[],_=>rfl
 |a::r,h=>by
  cases a with
  |alt s n b =>
   simp only[Ct.El,ab]at h;simp only[Ct.gp,ai,Df h.2];rfl
  |_=>simp[Ct.El]at h
theorem Pd (h:bY pg){body:aU}(hb:body=qv){ay:List (List PV)}{al:List Ct}{sn:List UInt8}{ls:List Ct}{a0:List PV}(hrows:ay=a0::al.map (λa=>(t_ a).aw))(hal:al.length<=60)(hls:ls.length<=60){k n:Int}{s:List UInt8}
  (e99:∀a,a∈al->(fQ a).2=ls.length->∀G,UM pg (E pg) 99 [.ag (bP (gm a).tm.aw),.p (.sl ((Ct.gp ls).map Tm.aw))] G=some (.ret ((gm a).sub ls.reverse 0).tm.nv,G)):∀m i,i+m=al.length ->
  L pg 0 [1,2,4,5] body [(1,.ptr 0 0),(2,.ptr 1 0),(4,.ptr 2 0),(5,.p (.i .i64 ((i:Nat)+1)))]
   [.box [.p (iv k),.p (iv n),.p (.s s),.p (.sl ay)],.box [.p (iv 0),.p (iv 0),.p (.s []),.aC],.box [.p (iv 4),.p (iv 0),.p (.s sn),.p (.sl ((Ct.gp ls).map Tm.aw))]] =
  (match qI (al.drop i) sn ls.length with
   |some j=>some (.ret,[(2,.ptr 1 0),(3,.p (.i .i64 2))],[.box [.p (iv k),.p (iv n),.p (.s s),.p (.sl ay)],.box (bP ((gm ((al.drop i).getD j .fail)).sub ls.reverse 0).tm.aw),.box [.p (iv 4),.p (iv 0),.p (.s sn),.p (.sl ((Ct.gp ls).map Tm.aw))]])
   |none=>some (.exit 0,[(1,.ptr 0 0),(2,.ptr 1 0),(4,.ptr 2 0),(5,.p (.i .i64 (al.length+1))),(19,.p (.b false))],[.box [.p (iv k),.p (iv n),.p (.s s),.p (.sl ay)],.box [.p (iv 0),.p (iv 0),.p (.s []),.aC],.box [.p (iv 4),.p (iv 0),.p (.s sn),.p (.sl ((Ct.gp ls).map Tm.aw))]]))
 |0,i,hi=>by
  have:i=al.length:=by omega
  subst this;have hrl:ay.length=al.length+1:=by rw[hrows];simp
  rw[dA hb];simp[qv,aj,hrl,qI]
 |m+1,i,hi=>by
  have hlt:i<al.length:=by omega
  have hrl:ay.length=al.length+1:=by rw[hrows];simp
  have hx:ay[i+1]?=some (t_ al[i]).aw:=by rw[hrows];simp[hlt]
  have hx':ay[(((i:Int)+1).toNat)]?=some (t_ al[i]).aw:=by rw[show((i:Int)+1).toNat=i+1 from by omega];exact hx
  have hll:((Ct.gp ls).map Tm.aw).length=ls.length:=by rw[Ct.cM];simp
  have ih':=Pd h hb (sn:=sn) hrows hal hls (k:=k) (n:=n) (s:=s) e99 m (i+1) (by omega);rw[show(((i+1:Nat):Int))+1=(i:Int)+1+1 from by omega]at ih';have w1:=cR ((i:Int)+1+1);have hd:al.drop i=al[i]::al.drop (i+1):=aM hlt;have e99':=e99 al[i] (bM hlt);have hge:0<=(i:Int)+1:=by omega
  have hlt':(i:Int)<(al.length:Int):=by omega
  have hok:aS 4 (t_ al[i]).aw=true:=Tm.aS _;rw[hd];unfold qI at ih' ⊢;rw[List.findIdx?_cons];generalize hA:al[i]=a at *;unfold t_ at hx hx' hok;generalize hP:fQ a=p at *;obtain⟨an,ak⟩:=p;have hB:=Tm.ku (gm a).tm;have hB2:aS 4 (gm a).tm.aw=true:=Tm.aS _;have hB3:=Tm.pS (gm a).tm;simp only[Tm.aw,Tm.df,ai,au]at hx hx' hok;have hlt2:i+1<ay.length:=by omega
  have hxg:ay[i+1]'hlt2=[iv 6,iv ak,.s an,.sl [(gm a).tm.aw]]:=(gE hx).2;have hpl:((an,ak)=(sn,ls.length))↔(an=sn/\ak=ls.length):=by simp
  simp only[hpl];by_cases c1:an=sn
  ·subst c1;by_cases c2:ak=ls.length
   ·have c2':(ak:Int)=(ls.length:Int):=by omega
    rw[c2']at hok hx hx' hxg;have e9:=e99' c2;generalize hr:((gm a).sub ls.reverse 0).tm=r at *;obtain⟨rk,rn,rnm,rl⟩:=r;simp only[bP,Tm.eS]at e9;have e9':=e9;rw[dA hb];simp[qv,aj,hrl,hx,hx',hxg,hok,hll,hlt,hlt',hge,c2,c2',hB,hB2,hB3,e9',w1];rw[hr];simp[Tm.aw,Tm.ba]
   ·have c2':¬ (ak:Int)=(ls.length:Int):=by omega
    rw[dA hb];simp[qv,aj,hrl,hx,hx',hxg,hok,hll,hlt,hlt',hge,c2,c2',w1,gc,exp,aQ,UG,ih'];cases List.findIdx? (λt=>decide (fQ t=(an,ls.length))) (List.drop (i+1) al)<;>simp
  ·rw[dA hb];simp[qv,aj,hrl,hx,hx',hxg,hok,hll,hlt,hlt',hge,c1,w1,gc,exp,aQ,UG,ih'];cases List.findIdx? (λt=>decide (fQ t=(sn,ls.length))) (List.drop (i+1) al)<;>simp
theorem OF (h:bY pg){body:aU}(hb:body=qv){ay:List (List PV)}{k n k4 n4:Int}{s s4:List UInt8}{l4:List (List PV)}(hk:k4≠4)(hr:1<ay.length) :
  L pg 0 [1,2,4,5] body [(1,.ptr 0 0),(2,.ptr 1 0),(4,.ptr 2 0),(5,.p (.i .i64 1))]
   [.box [.p (iv k),.p (iv n),.p (.s s),.p (.sl ay)],.box [.p (iv 0),.p (iv 0),.p (.s []),.aC],.box [.p (iv k4),.p (iv n4),.p (.s s4),.p (.sl l4)]] =
  some (.exit 0,[(1,.ptr 0 0),(2,.ptr 1 0),(4,.ptr 2 0),(5,.p (.i .i64 1)),(19,.p (.b false))],[.box [.p (iv k),.p (iv n),.p (.s s),.p (.sl ay)],.box [.p (iv 0),.p (iv 0),.p (.s []),.aC],.box [.p (iv k4),.p (iv n4),.p (.s s4),.p (.sl l4)]]):=by
 have hr':(1:Int)<(ay.length:Int):=by omega
 rw[dA hb];simp[qv,aj,hr,hr',hk]
theorem ze:∀a:Ct,(gm a).size<=a.size:=by
 intro a;cases a with
 |alt s n b=>simp only[gm,Ct.size];omega
 |_=>exact aB _
theorem t77 (h:bY pg){x:Ct}{al:List Ct}(hc:(Ct.case x al).Cl)(hv:x.val=true):UM pg (E pg) 77 [.ag (bP (Ct.case x al).tm.aw)] G=some (.ret (.dF [(x.pick al).1.tm.nv,.p (.i .i64 (x.pick al).2)]),G):=by
 have hw:=hc.wf;simp only[Ct.wf,ab,Uq]at hw;have hsz:=hc.sz;simp only[Ct.size]at hsz;have hrow:(Ct.gp al).map Tm.aw=al.map (λa=>(t_ a).aw):=by rw[Df hw.2,UJ];rfl
 have Qh:=λG=>t79 (G:=G) h;simp only[Tm.aw,Tm.df,bP,ai,au]at Qh;have hlen:al.length<=8/\1<=al.length:=⟨hw.1.1.2.2,hw.1.1.2.1⟩
 have hA:((Ct.gp al).map Tm.aw).length=al.length:=by rw[Ct.cM];simp
 have ok1:=Tm.aS x.tm;have e4:=Tm.ku x.tm;have e4':=Tm.pS x.tm;have other:∀(k4 n4:Int) (s4:List UInt8) (l4:List Tm),x.tm=.mk k4 n4 s4 l4->k4≠4->UM pg (E pg) 77 [.ag (bP (Ct.case x al).tm.aw)] G=some (.ret (.dF [Ct.fail.tm.nv,.p (.i .i64 4)]),G):=by
  intro k4 n4 s4 l4 hx hk;simp only[Ct.tm,hx,Tm.aw,Tm.df,Tm.ba,bP,ai,au,Tm.eS];refine Ut ?_ rfl rfl;have hL:=OF h (body:=qv) rfl (ay:=[iv k4,iv n4,.s s4,.sl (l4.map Tm.aw)]::(Ct.gp al).map Tm.aw) (k:=5) (n:=0) (s:=[]) (k4:=k4) (n4:=n4) (s4:=s4) (l4:=l4.map Tm.aw) hk (by simp only[av,hA];omega);rw[h.run (x:=IW)];simp[IW,aj,aS,PV.flat,gc,exp,aQ,UG,hL,Qh]
 cases x with
 |UW sn ls =>
  have hls:ls.length<=8:=by
   have:=hw.1.1.1;simp only[Ct.wf,ab,Uq]at this;exact this.1.2
  have hwl:Ct.JW 0 ls=true:=by
   have:=hw.1.1.1;simp only[Ct.wf,ab,Uq]at this;exact this.2
  have hL:=Pd h (body:=qv) rfl (ay:=(Ct.UW sn ls).tm.aw::al.map (λa=>(t_ a).aw)) (al:=al) (sn:=sn) (ls:=ls) (a0:=(Ct.UW sn ls).tm.aw) rfl (by omega) (by omega) (k:=5) (n:=0) (s:=[]) (λa ha hn G=>by
   obtain⟨s',k',b,rfl,w1,w2⟩:=fV hw.2 a ha;simp only[fQ]at hn;subst hn;have hsa:=dm ha;simp only[Ct.size]at hsa;have hb:=Ct.jJ b.size b (0+ls.length) (aB _) w2;rw[aG]at hb;have hls':Ct.dt ls<=2 ^ 50:=by simp only[Ct.size]at hsz;omega
   have:=t99 (G:=G) h ((ls.map Ct.tm).reverse) (λu hu=>by
    rw[ik]at hu;obtain⟨c,h1,rfl⟩:=bj.1 hu;have hcl:c.Cl:=⟨Vi hwl c h1,by have:=dm h1;omega⟩
    exact⟨hcl.jJ,by have:=hcl.dep;omega⟩) (by simp;omega) (t:=b.tm) (by simpa using hb) (by
    have h1:=Tm.oM b.tm;rw[Ct.iQ]at h1;omega)
   have e1:((ls.map Ct.tm).reverse.map Tm.aw).reverse=(Ct.gp ls).map Tm.aw:=by rw[kZ,List.reverse_reverse,Ct.cM]
   rw[e1]at this;have e2:(Ct.sub ls.reverse 0 b).tm=b.tm.subst ((ls.map Ct.tm).reverse) 0:=by
    have:=Ct.WT ls.reverse b 0;rw[kZ]at this;exact this
   show UM pg (E pg) 99 [.ag (bP b.tm.aw),_] G=_
   rw[this];simp only[gm,e2]) al.length 0 (by omega)
  simp only[bp,show((0:Nat):Int)+1=1 from rfl]at hL;have hpick:(Ct.UW sn ls).pick al=(match qI al sn ls.length with
   |some k=>((gm (al.getD k .fail)).sub ls.reverse 0,2)
   |none=>(.fail,4)):=rfl
  rw[hpick];clear hpick other;have hr2:((Ct.gp ls).map Tm.aw)=(Ct.gp ls).map Tm.aw:=rfl;cases hk:qI al sn ls.length with
  |some j =>
   rw[hk]at hL;dsimp only at hL ⊢;generalize ((gm (al.getD j .fail)).sub ls.reverse 0).tm=r at *;obtain⟨rk,rn,rnm,rl⟩:=r;simp only[Ct.tm,Tm.aw,Tm.df,Tm.ba,bP,ai,au,Tm.eS,hrow]at hL ⊢;refine Ut ?_ rfl rfl;rw[h.run (x:=IW)];simp[IW,aj,aS,PV.flat,gc,exp,aQ,UG,hL]
  |none =>
   rw[hk]at hL;dsimp only at hL ⊢;simp only[Ct.tm,Tm.aw,Tm.df,Tm.ba,bP,ai,au,Tm.eS,hrow]at hL ⊢;refine Ut ?_ rfl rfl;rw[h.run (x:=IW)];simp[IW,aj,aS,PV.flat,gc,exp,aQ,UG,hL,Qh]
 |lam b=>exact other _ _ _ _ rfl (by omega)
 |int v=>exact other _ _ _ _ rfl (by omega)
 |fail=>exact other _ _ _ _ rfl (by omega)
 |_=>simp[Ct.val]at hv
end
end Go.Proofs.Z
