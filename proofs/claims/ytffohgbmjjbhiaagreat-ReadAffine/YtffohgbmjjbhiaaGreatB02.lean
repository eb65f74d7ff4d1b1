/- A part of the proof. -/
import Derived.Test.YtffohgbmjjbhiaaGreatB01
set_option linter.all false
namespace Go.Proofs.Z
def sub {α:Type}(ids:List Nat)(f:Nat->Option α):Nat->Option α:=λk=>(ids[k]?).bind f
structure mM (μ:Mu)(ids:List Nat):Prop where
 nodup:ids.Nodup
 mapped:∀id,id∈ids->∃loc,μ id=some loc
theorem n7 {ids:List Nat}{id k:Nat}(h:eP ids id=some k):ids[k]?=some id:=by
 induction ids generalizing k with
 |nil=>simp[eP]at h
 |cons x r ih =>
  simp only[eP]at h;split at h
  ·rename_i e;cases h;simp[e]
  ·cases hr:eP r id with
   |none=>rw[hr]at h;simp at h
   |some j=>rw[hr]at h;simp at h;subst h;simpa using ih hr
theorem uQ {ids:List Nat}{id:Nat}(h:eP ids id=none):id∉ids:=by
 induction ids with
 |nil=>simp
 |cons x r ih =>
  simp only[eP]at h;split at h
  ·cases h
  ·rename_i e;cases hr:eP r id with
   |none=>simp;exact⟨λh=>e h.symm,ih hr⟩
   |some j=>rw[hr]at h;simp at h
theorem EC {ids:List Nat}(hn:ids.Nodup){id k:Nat}(h:ids[k]?=some id):eP ids id=some k:=by
 cases hi:eP ids id with
 |none=>exact absurd (UF.2 ⟨k,h⟩) (uQ hi)
 |some j =>
  have h2:=n7 hi;have h3:=(gE h).1;rw[(List.getElem?_inj h3 hn).1 (h.trans h2.symm)]
theorem uh {m m':Mem}{μ:Mu}{i i':Wp}{ids:List Nat}(l:List Nat)(h:zw m μ i m' μ i'):zw m (sub ids μ) (sub ids i) m' (sub (ids++l) μ) (sub (ids++l) i'):=by
 have hp:∀k x,ids[k]?=some x->(ids++l)[k]?=some x:=λk x hk=>by rw[List.getElem?_append_left (gE hk).1];exact hk
 refine⟨h.mem,λk loc h1 h2=>?_,λk loc g sz h1 h2=>?_⟩
 ·unfold sub at h1 h2 ⊢;cases hk:ids[k]? with
  |none=>rw[hk]at h1;cases h1
  |some x =>
   rw[hk]at h1 h2;rw[hp k x hk];exact h.box x loc h1 h2
 ·unfold sub at h1 h2 ⊢;cases hk:ids[k]? with
  |none=>rw[hk]at h1;cases h1
  |some x =>
   rw[hk]at h1 h2;rw[hp k x hk];exact h.arr x loc g sz h1 h2
theorem zw.refl (m:Mem)(μ:Mu)(i:Wp):zw m μ i m μ i :=
 ⟨λ_ _ _ h=>h,λ_ _ h h'=>⟨h,h'⟩,λ_ loc g _ h h'=>⟨loc,g,h,h',aB _,λ_=>rfl⟩⟩
theorem fI.rM {e e':fI}{id k:Nat}(h:e.id id=(k,e')):e'.G=e.G/\e'.ids[k]?=some id/\(∃l,e'.ids=e.ids++l)/\∀μ:Mu,mM μ e.ids->(∃loc,μ id=some loc)->mM μ e'.ids:=by
 unfold fI.id at h;cases hi:eP e.ids id with
 |some j =>
  rw[hi]at h;cases h;exact⟨rfl,n7 hi,⟨[],by simp⟩,λμ h _=>h⟩
 |none =>
  rw[hi]at h;cases h;refine⟨rfl,by simp,⟨[id],rfl⟩,λμ h hm=>⟨?_,?_⟩⟩
  ·rw[fj];refine⟨h.nodup,by simp,λa ha b hb=>?_⟩;simp at hb;subst hb;exact λe=>uQ hi (e ▸ ha)
  ·intro x hx;rcases Uz.1 hx with h1|h1
   ·exact h.mapped x h1
   ·simp at h1;subst h1;exact hm
structure mN (μ:Mu)(w:World)(m:Mem)(e:fI)(m':Mem)(e':fI):Prop where
 inv:Inv m' μ e'.G w
 Kt:lC m μ e.G w m' μ e'.G w
 ids:∃l,e'.ids=e.ids++l
 ok:mM μ e'.ids
theorem mN.trans {μ:Mu}{w:World}{m m' m'':Mem}{e e' e'':fI}(h:mN μ w m e m' e')(h':mN μ w m' e' m'' e''):mN μ w m e m'' e'':=by
 obtain⟨l,hl⟩:=h.ids;obtain⟨l',hl'⟩:=h'.ids;exact⟨h'.inv,h.Kt.trans h'.Kt,⟨l++l',by rw[hl',hl,pd]⟩,h'.ok⟩
theorem mN.ext {μ:Mu}{w:World}{m m':Mem}{e e':fI}(h:mN μ w m e m' e'):zw m (sub e.ids μ) (sub e.ids (inf e.G)) m' (sub e'.ids μ) (sub e'.ids (inf e'.G)):=by
 obtain⟨l,hl⟩:=h.ids;rw[hl];exact uh l h.Kt.ext
theorem mN.refl {μ:Mu}{w:World}{m:Mem}{e:fI}(h:Inv m μ e.G w)(hk:mM μ e.ids):mN μ w m e m e:=⟨h,.refl _ _ _ _,⟨[],by simp⟩,hk⟩
theorem RL.rI {m m':Mem}{μ cA:Mu}{i i':Wp}(h:zw m μ i m' cA i'){vs:List Value}{l:List AV}(hr:RL m μ i vs l):RL m' cA i' vs l :=
 ⟨hr.1,λj v c h1 h2=>(hr.2 j v c h1 h2).rI h⟩
theorem mN.id {μ:Mu}{w:World}{m:Mem}{e e':fI}{id k:Nat}(h:e.id id=(k,e'))(hI:Inv m μ e.G w)(hk:mM μ e.ids)(hm:∃loc,μ id=some loc):mN μ w m e m e':=by
 obtain⟨h1,h2,h3,h4⟩:=fI.rM h;exact⟨by rw[h1];exact hI,by rw[h1];exact .refl _ _ _ _,h3,h4 μ hk hm⟩
theorem R.zI {m:Mem}{μ:Mu}{i:Wp}{v:Value}{f:Nat}{x y:List AV}(h:R m μ i v (.fn f x y)):∃a b,v=.func (.func f) a b/\RL m μ i a.toList x/\RL m μ i b.toList y:=by
 cases h with|fn f a a' b b' ha hb IG KN=>exact⟨a,b,rfl,.km ha IG,.km hb KN⟩
theorem R.IJ {m:Mem}{μ:Mu}{i:Wp}{f:Nat}{a b:Array Value}{x y:List AV}(ha:RL m μ i a.toList x)(hb:RL m μ i b.toList y):R m μ i (.func (.func f) a b) (.fn f x y) :=
 .fn f a x b y (by simpa using ha.1) (by simpa using hb.1) (λj v c h1 h2=>ha.2 j v c (by simpa using h1) h2) (λj v c h1 h2=>hb.2 j v c (by simpa using h1) h2)
mutual
theorem sM {μ:Mu}{w:World}(bq:Bool):∀(a:AV) {m:Mem} {e e':fI} {a':AV} {z:Value},Inv m μ e.G w->mM μ e.ids->exp bq e a=some (a',e')->R m μ (inf e.G) z a ->
  ∃m',mN μ w m e m' e'/\R m' (sub e'.ids μ) (sub e'.ids (inf e'.G)) z a'/\(bq=true->e'.G=e.G/\m'=m)
 |.p x,m,e,e',a',z,hI,hk,h,hr=>by
  simp[exp]at h;obtain⟨rfl,rfl⟩:=h;cases hr with|p _ _ hp=>exact⟨m,.refl hI hk,.p _ _ hp,λ_=>⟨rfl,rfl⟩⟩
 |.aC,m,e,e',a',z,hI,hk,h,hr=>by
  cases hr;simp only[exp]at h;split at h
  ·cases h;exact⟨m,.refl hI hk,.aC,λ_=>⟨rfl,rfl⟩⟩
  ·rename_i hkk;cases h;exact⟨m,.refl hI hk,.p _ _ (.sl none 0 [] 0 (λ_ _=>undef) (aB _) rfl (λh=>absurd rfl h) (λi j r c h=>by simp at h)),λh=>absurd h hkk⟩
 |.undef,m,e,e',a',z,hI,hk,h,hr=>by
  simp[exp]at h;obtain⟨rfl,rfl⟩:=h;cases hr;exact⟨m,.refl hI hk,.undef,λ_=>⟨rfl,rfl⟩⟩
 |.rp cs,m,e,e',a',z,hI,hk,h,hr=>by
  simp[exp]at h;obtain⟨rfl,rfl⟩:=h;cases hr with|rp b o cells f hc=>exact⟨m,.refl hI hk,.rp b o cs f hc,λ_=>⟨rfl,rfl⟩⟩
 |.arr id len gen,m,e,e',a',z,hI,hk,h,hr=>by
  simp only[exp]at h;split at h
  ·cases hid:e.id id with|mk k e1 =>
   rw[hid]at h;cases h;cases hr with|arr _ _ _ ad n c loc g sz h1 h2 h3 h4 =>
   obtain⟨g1,g2,g3,g4⟩:=fI.rM hid;refine⟨m,.id hid hI hk ⟨loc,h1⟩,.arr k len gen ad n c loc g sz ?_ ?_ h3 h4,λ_=>⟨g1,rfl⟩⟩
   ·simp[sub,g2,h1]
   ·simp[sub,g2,g1,h2]
  ·rename_i hkk;split at h
   ·rename_i v G1 hn;cases h;obtain⟨m',hI',hS,hr'⟩:=jW (.arr id len gen) hI hn hr;refine⟨m',⟨hI',hS,⟨[],by simp⟩,hk⟩,?_,λh=>absurd h hkk⟩;simp only[norm]at hn;split at hn
    ·split at hn
     ·cases hn;cases hr' with|p _ _ hp=>exact .p _ _ hp
     ·cases hn
    ·cases hn
   ·cases h
 |.ptr id off,m,e,e',a',z,hI,hk,h,hr=>by
  simp only[exp]at h;cases hid:e.id id with|mk k e1 =>
  rw[hid]at h;cases h;cases hr with|ptr _ _ loc h1 h2 =>
  obtain⟨g1,g2,g3,g4⟩:=fI.rM hid;exact⟨m,.id hid hI hk ⟨loc,h1⟩,.ptr k off loc (by simp[sub,g2,h1]) (by simp[sub,g2,g1,h2]),λ_=>⟨g1,rfl⟩⟩
 |.ez id idx off gen,m,e,e',a',z,hI,hk,h,hr=>by
  simp only[exp]at h;cases hid:e.id id with|mk k e1 =>
  rw[hid]at h;cases h;cases hr with|ez _ _ _ _ ad loc g sz h1 h2 h3 h4 =>
  obtain⟨g1,g2,g3,g4⟩:=fI.rM hid;exact⟨m,.id hid hI hk ⟨loc,h1⟩,.ez k idx off gen ad loc g sz (by simp[sub,g2,h1]) (by simp[sub,g2,g1,h2]) h3 h4,λ_=>⟨g1,rfl⟩⟩
 |.ag cs,m,e,e',a',z,hI,hk,h,hr=>by
  simp only[exp]at h;split at h
  ·rename_i vs e1 hn;cases h;obtain⟨ca,rfl,h1,h2⟩:=hr.WJ;obtain⟨m',hx,hr',hkk⟩:=iT bq cs hI hk hn (RL.km h1 h2);exact⟨m',hx,.EB hr',hkk⟩
  ·cases h
 |.dF cs,m,e,e',a',z,hI,hk,h,hr=>by
  simp only[exp]at h;split at h
  ·rename_i vs e1 hn;cases h;obtain⟨ca,rfl,h1,h2⟩:=hr.rJ;obtain⟨m',hx,hr',hkk⟩:=iT bq cs hI hk hn (RL.km h1 h2);exact⟨m',hx,.uP hr',hkk⟩
  ·cases h
 |.eT t x,m,e,e',a',z,hI,hk,h,hr=>by
  simp only[exp]at h;split at h
  ·rename_i y e1 hn;cases h;cases hr with|eT _ z' _ hr =>
   obtain⟨m',hx,hr',hkk⟩:=sM bq x hI hk hn hr;exact⟨m',hx,.eT _ _ _ hr',hkk⟩
  ·cases h
 |.fn f x y,m,e,e',a',z,hI,hk,h,hr=>by
  simp only[exp]at h;split at h
  ·cases h
  ·rename_i x' e1 hx;split at h
   ·cases h
   ·rename_i y' e2 hy;cases h;obtain⟨a,b,rfl,ha,hb⟩:=hr.zI;obtain⟨m1,hx1,hr1,hk1⟩:=iT true x hI hk hx ha;obtain⟨m2,hx2,hr2,hk2⟩:=iT true y hx1.inv hx1.ok hy (hb.mono hx1.Kt.ext);obtain⟨e1G,rfl⟩:=hk1 rfl;obtain⟨e2G,rfl⟩:=hk2 rfl;exact⟨m2,hx1.trans hx2,.IJ (hr1.rI hx2.ext) hr2,λ_=>⟨e2G.trans e1G,rfl⟩⟩
theorem iT {μ:Mu}{w:World}(bq:Bool):∀(l:List AV) {m:Mem} {e e':fI} {l':List AV} {zs:List Value},Inv m μ e.G w->mM μ e.ids->aQ bq e l=some (l',e')->RL m μ (inf e.G) zs l ->
  ∃m',mN μ w m e m' e'/\RL m' (sub e'.ids μ) (sub e'.ids (inf e'.G)) zs l'/\(bq=true->e'.G=e.G/\m'=m)
 |[],m,e,e',l',zs,hI,hk,h,hr=>by
  simp[aQ]at h;obtain⟨rfl,rfl⟩:=h;rw[hr.mK];exact⟨m,.refl hI hk,.nil,λ_=>⟨rfl,rfl⟩⟩
 |a::r,m,e,e',l',zs,hI,hk,h,hr=>by
  simp only[aQ]at h;split at h
  ·cases h
  ·rename_i v e1 hn;split at h
   ·cases h
   ·rename_i vs e2 hn2;cases h;obtain⟨z,zs,rfl,hz,hr⟩:=hr.iC;obtain⟨m1,hx1,hz1,hk1⟩:=sM bq a hI hk hn hz;obtain⟨m2,hx2,hr2,hk2⟩:=iT bq r hx1.inv hx1.ok hn2 (hr.mono hx1.Kt.ext);refine⟨m2,hx1.trans hx2,.cons (hz1.rI hx2.ext) hr2,λh=>?_⟩;obtain⟨a1,a2⟩:=hk1 h;obtain⟨b1,b2⟩:=hk2 h;exact⟨b1.trans a1,b2.trans a2⟩
end
theorem ED {bq:Bool}:∀{a a':AV} {e e':fI},exp bq e a=some (a',e')->a.flat=true->a'.flat=true:=by
 intro a a' e e' h hf;cases a with
 |p x=>simp[exp]at h;obtain⟨rfl,_⟩:=h;exact hf
 |aC=>simp only[exp]at h;split at h<;>(cases h;rfl)
 |undef=>simp[AV.flat]at hf
 |rp cs=>simp[exp]at h;obtain⟨rfl,_⟩:=h;rfl
 |arr id len gen =>
  simp only[exp]at h;split at h
  ·cases h;rfl
  ·split at h
   ·rename_i v G1 hn;cases h;simp only[norm]at hn;split at hn
    ·split at hn
     ·cases hn;rfl
     ·cases hn
    ·cases hn
   ·cases h
 |ptr=>simp only[exp]at h;cases h;rfl
 |ez=>simp only[exp]at h;cases h;rfl
 |ag=>simp[AV.flat]at hf
 |dF=>simp[AV.flat]at hf
 |eT t x=>simp only[exp]at h;split at h<;>first|(cases h;rfl)|cases h
 |fn f x y =>
  simp only[exp]at h;split at h
  ·cases h
  ·split at h
   ·cases h
   ·cases h;rfl
theorem xe {bq:Bool}:∀{l l':List AV} {e e':fI},aQ bq e l=some (l',e')->l.all AV.flat=true->l'.all AV.flat=true
 |[],l',e,e',h,hf=>by simp[aQ]at h;obtain⟨rfl,_⟩:=h;rfl
 |a::r,l',e,e',h,hf=>by
  simp only[aQ]at h;split at h
  ·cases h
  ·rename_i v e1 hn;split at h
   ·cases h
   ·rename_i vs e2 hn2;cases h;simp only[dJ,ab]at hf ⊢;exact⟨ED hn hf.1,xe hn2 hf.2⟩
structure IK (μ:Mu)(w:World)(m:Mem)(e:fI)(k:Nat)(os:Heap)(e':fI):Prop where
 G:e'.G=e.G
 ids:∃l,e'.ids=e.ids++l
 ok:mM μ e'.ids
 len:e'.ids.length=k+os.length
 obj:∀(j:Nat) (o:fE),os[j]?=some o->∃id o0,e'.ids[k+j]?=some id/\e.G[id]?=some o0/\VU o=VU o0/\∀loc,μ id=some loc->yp m (sub e'.ids μ) (sub e'.ids (inf e.G)) w loc o
theorem WK {μ:Mu}{w:World}{m:Mem}:∀(fuel:Nat) {e e':fI} {k:Nat} {os:Heap},Inv m μ e.G w->mM μ e.ids->k<=e.ids.length->UG fuel e k=some (os,e')->IK μ w m e k os e'
 |0,e,e',k,os,hI,hk,hle,h=>by
  simp only[UG]at h;split at h
  ·cases h
  ·cases h;exact⟨rfl,⟨[],by simp⟩,hk,by simp;omega,λj o h=>by simp at h⟩
 |fuel+1,e,e',k,os,hI,hk,hle,h=>by
  simp only[UG]at h;split at h
  ·rename_i hn;cases h;have:=List.getElem?_eq_none_iff.1 hn;exact⟨rfl,⟨[],by simp⟩,hk,by simp;omega,λj o h=>by simp at h⟩
  ·rename_i id hid;have hlt:k<e.ids.length:=(gE hid).1;split at h
   ·cases h
   ·rename_i sz ay g sl hG;split at h
    ·cases h
    ·rename_i os' e1 hr;cases h;have r:=WK fuel hI hk hlt hr;obtain⟨l,hl⟩:=r.ids;refine⟨r.G,r.ids,r.ok,by rw[r.len];simp;omega,λj o hj=>?_⟩;cases j with
     |zero =>
      simp at hj;subst hj;refine⟨id,_,by rw[hl,U3,List.getElem?_append_left hlt];exact hid,hG,rfl,λloc hloc=>?_⟩;exact hI.obj id _ hG loc hloc
     |succ j =>
      simp at hj;have:=r.obj j o hj;rwa [show k+1+j=k+(j+1) by omega]at this
   ·rename_i cs hG;split at h
    ·cases h
    ·rename_i cs' e1 hx;split at h
     ·cases h
     ·rename_i os' e2 hr;cases h;have hE:∀zs,RL m μ (inf e.G) zs cs->∃m',mN μ w m e m' e1/\RL m' (sub e1.ids μ) (sub e1.ids (inf e1.G)) zs cs'/\(true=true->e1.G=e.G/\m'=m):=λzs hz=>iT true cs hI hk hx hz;have hmap:∃loc,μ id=some loc:=hk.mapped id (UF.2 ⟨k,hid⟩);obtain⟨loc,hloc⟩:=hmap;obtain⟨ca,T,h1,h2,h3,h4,h5⟩:=hI.obj id _ hG loc hloc;obtain⟨m',hx1,hr1,hkk⟩:=hE ca.toList (.km h2 h3);obtain⟨hG1,rfl⟩:=hkk rfl;obtain⟨l1,hl1⟩:=hx1.ids;have hlt1:k<e1.ids.length:=by rw[hl1];simp;omega
      have r:=WK fuel hx1.inv hx1.ok hlt1 hr;obtain⟨l,hl⟩:=r.ids;refine⟨r.G.trans hG1,⟨l1++l,by rw[hl,hl1,pd]⟩,r.ok,by rw[r.len];simp;omega,λj o hj=>?_⟩;cases j with
      |zero =>
       simp at hj;subst hj;refine⟨id,_,by rw[hl,hl1,U3,pd,List.getElem?_append_left hlt];exact hid,hG,rfl,λmB hloc'=>?_⟩;rw[hloc]at hloc';cases hloc';have hr2:RL m' (sub e'.ids μ) (sub e'.ids (inf e.G)) ca.toList cs':=by
        rw[hl,<- hG1];exact hr1.rI (uh l (.refl _ _ _))
       exact⟨ca,T,h1,by simpa using hr2.1,λj v a g1 g2=>hr2.2 j v a (by simpa using g1) g2,xe hx h4,h5⟩
      |succ j =>
       simp at hj;obtain⟨id',o0,a1,a2,a3,a4⟩:=r.obj j o hj;rw[show k+1+j=k+(j+1) by omega]at a1;exact⟨id',o0,a1,by rw[<- hG1];exact a2,a3,λloc hl=>by rw[<- hG1];exact a4 loc hl⟩
theorem tB {μ:Mu}{w:World}{m:Mem}{fuel:Nat}{e e':fI}{os:Heap}(hI:Inv m μ e.G w)(hk:mM μ e.ids)(h:UG fuel e 0=some (os,e')) :
  Inv m (sub e'.ids μ) os w/\(∀k,k<os.length->∃l,sub e'.ids μ k=some l)/\inf os=sub e'.ids (inf e.G)/\e'.G=e.G/\(∃l,e'.ids=e.ids++l)/\mM μ e'.ids/\e'.ids.length=os.length:=by
 have r:=WK fuel hI hk (dv _) h;have hlen:e'.ids.length=os.length:=by rw[r.len];omega
 have hinf:inf os=sub e'.ids (inf e.G):=by
  funext k;unfold inf sub;by_cases hlt:k<os.length
  ·obtain⟨id,o0,a1,a2,a3,a4⟩:=r.obj k _ (gG hlt);simp at a1;rw[a1,gG hlt];simp[a2,a3]
  ·rw[List.getElem?_eq_none (by omega),List.getElem?_eq_none (by omega)];rfl
 refine⟨⟨hI.known,?_,?_,?_⟩,?_,hinf,r.G,r.ids,r.ok,hlen⟩
 ·intro i j l l' h1 h2 he;unfold sub at h1 h2;cases hi:e'.ids[i]? with
  |none=>rw[hi]at h1;cases h1
  |some x =>
   cases hj:e'.ids[j]? with
   |none=>rw[hj]at h2;cases h2
   |some y =>
    rw[hi]at h1;rw[hj]at h2;have hxy:=hI.inj x y l l' h1 h2 he;subst hxy;exact(List.getElem?_inj (gE hi).1 r.ok.nodup).1 (hi.trans hj.symm)
 ·intro k o hko loc hloc;obtain⟨id,o0,a1,a2,a3,a4⟩:=r.obj k o hko;simp at a1;unfold sub at hloc;rw[a1]at hloc;rw[hinf];exact a4 loc hloc
 ·intro k loc hloc;unfold sub at hloc;cases hi:e'.ids[k]? with
  |none=>rw[hi]at hloc;cases hloc
  |some x=>rw[<- hlen];exact(gE hi).1
 ·intro k hlt;have:k<e'.ids.length:=by omega
  unfold sub;rw[gG this];exact r.ok.mapped _ (bM this)
def Ku (μ:Mu)(i:Wp)(cA:Mu)(i':Wp)(r:Nat->Nat):Prop:=∀id loc,μ id=some loc->cA (r id)=some loc/\i' (r id)=i id
mutual
theorem WZ {m:Mem}{μ cA:Mu}{i i':Wp}{ids:List Nat}{aK:Nat}(h:Ku μ i cA i' (UL ids aK)):∀(a:AV) {z:Value},R m μ i z a->R m cA i' z (back ids aK a)
 |.p x,z,hr=>by cases hr with|p _ _ hp=>exact .p _ _ hp
 |.aC,z,hr=>by cases hr;exact .aC
 |.undef,z,hr=>by cases hr;exact .undef
 |.rp cs,z,hr=>by cases hr with|rp b o cells f hc=>exact .rp b o cs f hc
 |.arr id len gen,z,hr=>by
  cases hr with|arr _ _ _ ad n c loc g sz h1 h2 h3 h4 =>
  obtain⟨a1,a2⟩:=h id loc h1;exact .arr _ len gen ad n c loc g sz a1 (a2.trans h2) h3 h4
 |.ptr id off,z,hr=>by
  cases hr with|ptr _ _ loc h1 h2 =>
  obtain⟨a1,a2⟩:=h id loc h1;exact .ptr _ off loc a1 (a2.trans h2)
 |.ez id idx off gen,z,hr=>by
  cases hr with|ez _ _ _ _ ad loc g sz h1 h2 h3 h4 =>
  obtain⟨a1,a2⟩:=h id loc h1;exact .ez _ idx off gen ad loc g sz a1 (a2.trans h2) h3 h4
 |.ag cs,z,hr=>by
  obtain⟨ca,rfl,h1,h2⟩:=hr.WJ;exact .EB (ja h cs (RL.km h1 h2))
 |.dF cs,z,hr=>by
  obtain⟨ca,rfl,h1,h2⟩:=hr.rJ;exact .uP (ja h cs (RL.km h1 h2))
 |.eT t x,z,hr=>by
  cases hr with|eT _ z' _ hr=>exact .eT _ _ _ (WZ h x hr)
 |.fn f x y,z,hr=>by
  obtain⟨a,b,rfl,ha,hb⟩:=hr.zI;exact .IJ (ja h x ha) (ja h y hb)
theorem ja {m:Mem}{μ cA:Mu}{i i':Wp}{ids:List Nat}{aK:Nat}(h:Ku μ i cA i' (UL ids aK)):∀(l:List AV) {zs:List Value},RL m μ i zs l->RL m cA i' zs (dh ids aK l)
 |[],zs,hr=>by rw[hr.mK];exact .nil
 |a::r,zs,hr=>by
  obtain⟨z,zs,rfl,hz,hr⟩:=hr.iC;exact .cons (WZ h a hz) (ja h r hr)
end
theorem Dy {ids:List Nat}{aK:Nat}(a:AV):(back ids aK a).flat=a.flat:=by cases a<;>rfl
theorem uR {ids:List Nat}{aK:Nat}:∀(l:List AV),(dh ids aK l).all AV.flat=l.all AV.flat
 |[]=>rfl
 |a::r=>by simp[dh,Dy,uR r]
theorem xf {ids:List Nat}{aK:Nat}(o:fE):VU (bD ids aK o)=VU o:=by cases o<;>rfl
theorem wU {m:Mem}{μ cA:Mu}{i i':Wp}{ids:List Nat}{aK:Nat}{w:World}{loc:Loc}(h:Ku μ i cA i' (UL ids aK)){o:fE}(ho:yp m μ i w loc o):yp m cA i' w loc (bD ids aK o):=by
 cases o with
 |box cells =>
  obtain⟨cs,T,h1,h2,h3,h4,h5⟩:=ho;have:=ja h cells (RL.km h2 h3);exact⟨cs,T,h1,by simpa using this.1,λj v a g1 g2=>this.2 j v a (by simpa using g1) g2,by rw[uR];exact h4,h5⟩
 |arr sz ay g sl=>exact ho
theorem fJ {ids:List Nat}{aK:Nat}:∀(l:List Nat) (G os:Heap),(b_ ids aK G l os).length=G.length
 |[],G,os=>by simp[b_]
 |id::r,G,[]=>by simp[b_]
 |id::r,G,o::os=>by simp[b_,fJ r]
theorem lq {ids:List Nat}{aK:Nat}:∀(l:List Nat) (G os:Heap) (x:Nat),x∉l->(b_ ids aK G l os)[x]?=G[x]?
 |[],G,os,x,h=>by simp[b_]
 |id::r,G,[],x,h=>by simp[b_]
 |id::r,G,o::os,x,h=>by
  simp only[aA,eX]at h;simp only[b_];rw[lq r _ os x h.2,List.getElem?_set,aa (Ne.symm h.1)]
theorem sN {ids:List Nat}{aK:Nat}:∀(l:List Nat) (G os:Heap) (k x:Nat) (o:fE),l.Nodup->l[k]?=some x->x<G.length->os[k]?=some o->(b_ ids aK G l os)[x]?=some (bD ids aK o)
 |[],G,os,k,x,o,hn,hk,hx,ho=>by simp at hk
 |id::r,G,[],k,x,o,hn,hk,hx,ho=>by simp at ho
 |id::r,G,o'::os,k,x,o,hn,hk,hx,ho=>by
  simp only[UB]at hn;simp only[b_];cases k with
  |zero =>
   simp at hk ho;subst hk;subst ho;rw[lq r _ os _ hn.1];simp[hx]
  |succ k =>
   simp at hk ho;exact sN r _ os k x o hn.2 hk (by simpa using hx) ho
def WL (m:Mem)(μ:Mu)(i:Wp):Out->Ending->Prop
 |.ret a,.returned v=>R m μ i v a
 |.iL a,.panicked chain=>∃v,chain=[{ v:=v,recovered:=false }]/\R m μ i v a
 |_,_=>False
theorem WL.back {m:Mem}{μ cA:Mu}{i i':Wp}{ids:List Nat}{aK:Nat}(h:Ku μ i cA i' (UL ids aK)){o:Out}{e:Ending}(ho:WL m μ i o e):WL m cA i' (o.back ids aK) e:=by
 cases o<;>cases e<;>first|exact WZ h _ ho|exact ho.elim|skip;obtain⟨v,h1,h2⟩:=ho;exact⟨v,h1,WZ h _ h2⟩
theorem Dz {m:Mem}{μ:Mu}{G os os':Heap}{w w':World}{ids:List Nat}{m':Mem}{μ2:Mu}(hI:Inv m μ G w)(hk:mM μ ids)(hos:inf os=sub ids (inf G))(hlen:ids.length=os.length)
  (htot:∀k,k<os.length->∃l,sub ids μ k=some l) (hI':Inv m' μ2 os' w') (hS:lC m (sub ids μ) os w m' μ2 os' w') :
  ∃cA,Inv m' cA (b_ ids G.length G ids os'++(os'.drop ids.length).map (bD ids G.length)) w' /\
   lC m μ G w m' cA (b_ ids G.length G ids os'++(os'.drop ids.length).map (bD ids G.length)) w' /\
   Ku μ2 (inf os') cA (inf (b_ ids G.length G ids os'++(os'.drop ids.length).map (bD ids G.length))) (UL ids G.length):=by
 generalize hG2:b_ ids G.length G ids os'++(os'.drop ids.length).map (bD ids G.length)=G2
 let cA:Mu:=λid=>match eP ids id with
  |some k=>μ2 k
  |none=>if id<G.length then μ id else μ2 (ids.length+(id-G.length))
 have hidlt:∀id,id∈ids->id<G.length:=λid hi=>let ⟨loc,hl⟩:=hk.mapped id hi;hI.ph id loc hl;have hfirst:∀k,k<ids.length->∃l,μ2 k=some l:=λk hlt=>by
  obtain⟨l,hl⟩:=htot k (by omega);have hd:k<os.length:=by omega
  have hi:inf os k=some (VU os[k]):=by simp[inf,gG hd]
  cases ho:VU os[k] with
  |none=>rw[ho]at hi;exact⟨_,(hS.ext.box k l hl hi).1⟩
  |some p =>
   rcases p with ⟨g,sz⟩
   rw[ho]at hi;obtain⟨mB,g',a1,_⟩:=hS.ext.arr k l g sz hl hi;exact⟨_,a1⟩
 have hlen':ids.length<=os'.length:=by
  rcases U1 ids.length with h0|h0
  ·omega
  ·obtain⟨l,hl⟩:=hfirst (ids.length-1) (by omega);have:=hI'.ph _ _ hl;omega
 have hG2len:G2.length=G.length+(os'.length-ids.length):=by rw[<- hG2];simp[fJ]
 have wR:∀k x o,ids[k]?=some x->os'[k]?=some o->G2[x]?=some (bD ids G.length o):=λk x o h1 h2=>by
  have hx:=hidlt x (UF.2 ⟨k,h1⟩);rw[<- hG2,List.getElem?_append_left (by rw[fJ];exact hx)];exact sN ids G os' k x o hk.nodup h1 hx h2
 have hold:∀x,x<G.length->x∉ids->G2[x]?=G[x]?:=λx hx hn=>by
  rw[<- hG2,List.getElem?_append_left (by rw[fJ];exact hx)];exact lq ids G os' x hn
 have hnew:∀x o,G.length<=x->os'[ids.length+(x-G.length)]?=some o->G2[x]?=some (bD ids G.length o):=λx o hx ho=>by
  rw[<- hG2,List.getElem?_append_right (by rw[fJ];exact hx),fJ];rw[List.getElem?_map,List.getElem?_drop,ho];rfl
 have hμk:∀k x,ids[k]?=some x->cA x=μ2 k:=λk x h=>by
  show(match eP ids x with|some k=>μ2 k|none=>_)=_
  rw[EC hk.nodup h]
 have hμo:∀x,x<G.length->x∉ids->cA x=μ x:=λx hx hn=>by
  show(match eP ids x with|some k=>μ2 k|none=>if x<G.length then μ x else _)=_
  cases hi:eP ids x with
  |some k=>exact absurd (UF.2 ⟨k,n7 hi⟩) hn
  |none=>simp[hx]
 have hμn:∀x,G.length<=x->cA x=μ2 (ids.length+(x-G.length)):=λx hx=>by
  show(match eP ids x with|some k=>μ2 k|none=>if x<G.length then μ x else _)=_
  cases hi:eP ids x with
  |some k=>have:=hidlt x (UF.2 ⟨k,n7 hi⟩);omega
  |none=>simp[Nat.not_lt.2 hx]
 have hren:Ku μ2 (inf os') cA (inf G2) (UL ids G.length):=by
  intro id loc hl;have hd:=hI'.ph id loc hl;have hob:=gG hd;by_cases hlt:id<ids.length
  ·have h1:=gG hlt;have hb:UL ids G.length id=ids[id]:=by simp[UL,h1]
   rw[hb];refine⟨(hμk id _ h1).trans hl,?_⟩;unfold inf;rw[wR id _ _ h1 hob,hob];simp[xf]
  ·have h1:ids[id]?=none:=List.getElem?_eq_none (by omega);have hb:UL ids G.length id=G.length+(id-ids.length):=by simp[UL,h1]
   rw[hb];have e:ids.length+(G.length+(id-ids.length)-G.length)=id:=by omega
   refine⟨?_,?_⟩
   ·rw[hμn _ (by omega),e];exact hl
   ·unfold inf;rw[hnew _ os'[id] (by omega) (by rw[e];exact hob),hob];simp[xf]
 have hcase:∀x loc,cA x=some loc->(∃id,x=UL ids G.length id/\μ2 id=some loc/\((∃k,ids[k]?=some x/\id=k)\/(G.length<=x/\id=ids.length+(x-G.length))))\/(x<G.length/\x∉ids/\μ x=some loc):=by
  intro x loc hl;by_cases hm:x∈ids
  ·obtain⟨k,hkx⟩:=UF.1 hm;rw[hμk k x hkx]at hl;exact .inl ⟨k,by simp[UL,hkx],hl,.inl ⟨k,hkx,rfl⟩⟩
  ·by_cases hx:x<G.length
   ·rw[hμo x hx hm]at hl;exact .inr ⟨hx,hm,hl⟩
   ·rw[hμn x (by omega)]at hl;refine .inl ⟨_,?_,hl,.inr ⟨by omega,rfl⟩⟩;unfold UL;rw[List.getElem?_eq_none (by omega)];simp;omega
 have hin:∀x loc,x∉ids->μ x=some loc->∀id l,sub ids μ id=some l->l.gD≠loc.gD:=by
  intro x loc hn hl id l hs he;unfold sub at hs;cases hi:ids[id]? with
  |none=>rw[hi]at hs;cases hs
  |some y =>
   rw[hi]at hs;have:=hI.inj y x l loc hs hl he;subst this;exact hn (UF.2 ⟨id,hi⟩)
 have hapart:∀x loc id mB,x∉ids->μ x=some loc->μ2 id=some mB->mB.gD≠loc.gD:=by
  intro x loc id mB hn hl hl2 he;rcases hS.fr.loc id mB hl2 with h1|⟨id1,l1,h1,h2⟩
  ·have:=hI.lt hl;omega
  ·exact hin x loc hn hl id1 l1 h1 (h2.trans he)
 have hext:Ext m μ G m' cA G2:=by
  refine⟨hS.ext.mem,λx loc h1 h2=>?_,λx loc g sz h1 h2=>?_⟩
  ·by_cases hm:x∈ids
   ·obtain⟨k,hkx⟩:=UF.1 hm;obtain⟨a1,a2⟩:=hS.ext.box k loc (by simp[sub,hkx,h1]) (by rw[hos];simp[sub,hkx,h2]);obtain⟨b1,b2⟩:=hren k loc a1;have:UL ids G.length k=x:=by simp[UL,hkx]
    rw[this]at b1 b2;exact⟨b1,b2.trans a2⟩
   ·have hx:=hI.ph x loc h1;refine⟨(hμo x hx hm).trans h1,?_⟩;unfold inf at h2 ⊢;rw[hold x hx hm];exact h2
  ·by_cases hm:x∈ids
   ·obtain⟨k,hkx⟩:=UF.1 hm;obtain⟨mB,g',a1,a2,a3,a4⟩:=hS.ext.arr k loc g sz (by simp[sub,hkx,h1]) (by rw[hos];simp[sub,hkx,h2]);obtain⟨b1,b2⟩:=hren k mB a1;have:UL ids G.length k=x:=by simp[UL,hkx]
    rw[this]at b1 b2;exact⟨mB,g',b1,b2.trans a2,a3,a4⟩
   ·have hx:=hI.ph x loc h1;refine⟨loc,g,(hμo x hx hm).trans h1,?_,aB _,λ_=>rfl⟩;unfold inf at h2 ⊢;rw[hold x hx hm];exact h2
 have hmnone:∀x loc o,x∉ids->μ x=some loc->m loc.gD o=none->m' loc.gD o=none:=by
  intro x loc o hn hl hnone;cases hc:m' loc.gD o with
  |none=>rfl
  |some v =>
   rcases hS.fr.mem _ _ _ hc with h1|h1|⟨id,l,h1,h2⟩
   ·rw[hnone]at h1;cases h1
   ·have:=hI.lt hl;omega
   ·exact absurd h2 (hin x loc hn hl id l h1)
 refine⟨cA,⟨hI'.known,?_,?_,?_⟩,⟨hext,⟨hS.fr.os,hS.fr.tape,hS.fr.output,hS.fr.size,?_,?_,?_⟩,?_⟩,hren⟩
 ·intro x y l l' h1 h2 he;rcases hcase x l h1 with ⟨id,rfl,a1,_⟩|⟨a0,a1,a2⟩<;>rcases hcase y l' h2 with ⟨id',rfl,b1,_⟩|⟨b0,b1,b2⟩
  ·rw[hI'.inj id id' l l' a1 b1 he]
  ·exact absurd he (hapart y l' id l b1 b2 a1)
  ·exact absurd he.symm (hapart x l id' l' a1 a2 b1)
  ·exact hI.inj x y l l' a2 b2 he
 ·intro x o hxo loc hl;rcases hcase x loc hl with ⟨id,hxe,a1,ha⟩|⟨a0,a1,a2⟩
  ·have hd:=hI'.ph id loc a1;have hob:=gG hd;have:o=bD ids G.length os'[id]:=by
    rcases ha with ⟨k,hkx,rfl⟩|⟨hge,rfl⟩
    ·rw[wR id x _ hkx hob]at hxo;cases hxo;rfl
    ·rw[hnew x _ hge hob]at hxo;cases hxo;rfl
   rw[this];exact wU hren (hI'.obj id _ hob loc a1)
  ·rw[hold x a0 a1]at hxo;exact(hI.obj x o hxo loc a2).move hext (hS.fr.gD _ (hI.lt a2) (λid l h1 h2=>hin x loc a1 a2 id l h1 h2)) (λo h=>hmnone x loc o a1 a2 h)
 ·intro x loc hl;rcases hcase x loc hl with ⟨id,hxe,a1,ha⟩|⟨a0,a1,a2⟩
  ·have hd:=hI'.ph id loc a1;rcases ha with ⟨k,hkx,rfl⟩|⟨hge,rfl⟩
   ·have:=hidlt x (UF.2 ⟨_,hkx⟩);omega
   ·omega
  ·omega
 ·intro b hb hn;refine hS.fr.gD b hb (λid l h1=>?_);unfold sub at h1;cases hi:ids[id]? with
  |none=>rw[hi]at h1;cases h1
  |some y=>rw[hi]at h1;exact hn y l h1
 ·intro b o v h;rcases hS.fr.mem b o v h with h1|h1|⟨id,l,h1,h2⟩
  ·exact .inl h1
  ·exact .inr (.inl h1)
  ·unfold sub at h1;cases hi:ids[id]? with
   |none=>rw[hi]at h1;cases h1
   |some y=>rw[hi]at h1;exact .inr (.inr ⟨y,l,h1,h2⟩)
 ·intro x loc hl;rcases hcase x loc hl with ⟨id,hxe,a1,ha⟩|⟨a0,a1,a2⟩
  ·rcases hS.fr.loc id loc a1 with h1|⟨id',l,h1,h2⟩
   ·exact .inl h1
   ·unfold sub at h1;cases hi:ids[id']? with
    |none=>rw[hi]at h1;cases h1
    |some y=>rw[hi]at h1;exact .inr ⟨y,l,h1,h2⟩
  ·exact .inr ⟨x,loc,a2,rfl⟩
 ·refine⟨λx hx ht=>?_,λx hx hn=>?_⟩
  ·have htc:=hS.total htot;by_cases hm:x∈ids
   ·obtain⟨k,hkx⟩:=UF.1 hm;rw[hμk k x hkx];exact hfirst k (gE hkx).1
   ·by_cases hlt:x<G.length
    ·rw[hμo x hlt hm];exact ht hlt
    ·rw[hμn x (by omega)];exact htc _ (by omega)
  ·have hm:x∉ids:=λhm=>by
    obtain⟨loc,hl⟩:=hk.mapped x hm;rw[hl]at hn;cases hn
   exact⟨(hμo x hx hm).trans hn,hold x hx hm⟩
def f_ (P:Program)(call:di):Prop:=∀f args G out G',call f args G=some (out,G')->∀m μ w vargs,Inv m μ G w->(∀id,id<G.length->∃l,μ id=some l)->RL m μ (inf G) vargs args ->
 Calls P f vargs.toArray w λe w'=>∃m' cA,Inv m' cA G' w'/\lC m μ G w m' cA G' w'/\WL m' cA (inf G') out e
theorem Calls.mono {P:Program}{f:FuncId}{args:Array Value}{w:World}{A B:Ending->World->Prop}(h:Calls P f args w A)(hr:∀e w',A e w'->B e w'):Calls P f args w B :=
 λcs=>let ⟨e,w',fr,r,s⟩:=h cs;⟨e,w',fr,hr _ _ r,s⟩
theorem Yu {P:Program}{pg:fX}{call:di}(hc:f_ P call){m:Mem}{μ:Mu}{G G':Heap}{w:World}(hI:Inv m μ G w){f:Nat}{args:List AV}{out:Out}
  (h:UM pg call f args G=some (out,G')) {vargs:List Value} (hr:RL m μ (inf G) vargs args) :
  Calls P f vargs.toArray w λe w'=>∃m' cA,Inv m' cA G' w'/\lC m μ G w m' cA G' w'/\WL m' cA (inf G') out e:=by
 unfold UM at h;split at h
 ·cases h
 ·rename_i args' e hx;split at h
  ·cases h
  ·rename_i os e' ho;split at h
   ·cases h
   ·rename_i out' os' hcall;cases h;obtain⟨m1,hx1,hr1,_⟩:=iT _ args (e:=⟨[],G⟩) (w:=w) hI ⟨by simp,λid h=>by simp at h⟩ hx hr;obtain⟨hIc,htot,hinf,heG,⟨l,hl⟩,hok,hlen⟩:=tB hx1.inv hx1.ok ho;have IG:RL m1 (sub e'.ids μ) (inf os) vargs args':=by
     rw[hinf,hl];exact hr1.rI (uh l (.refl _ _ _))
    refine Calls.mono (hc f args' os out' os' hcall m1 _ w vargs hIc htot IG) λen w' hp=>?_;obtain⟨m',μ2,hI',hS,hout⟩:=hp;rw[<- heG]at hinf;obtain⟨cA,b1,b2,b3⟩:=Dz (G:=e'.G) (by rw[heG];exact hx1.inv) hok hinf hlen htot hI' hS;refine⟨m',cA,b1,?_,hout.back b3⟩;have hs1:=hx1.Kt;rw[<- heG]at hs1;exact hs1.trans b2
section
variable {pg:fX}{call:di}{loop:js}
def Kept (G G':Heap):Prop:=G.length<=G'.length/\∀id:Nat,id<G.length->WX G'[id]? G[id]?
theorem Kept.refl (G:Heap):Kept G G:=⟨aB _,λ_ _=>.refl _⟩
theorem Kept.trans {G G' G'':Heap}(h:Kept G G')(h':Kept G' G''):Kept G G'' :=
 ⟨cm h.1 h'.1,λid hid=>(h'.2 id (eW hid h.1)).trans (h.2 id hid)⟩
def jv (aK:Nat)(G G':Heap):Prop:=aK<=G'.length/\∀id:Nat,id<aK->WX G'[id]? G[id]?
theorem jv.refl {aK:Nat}{G:Heap}(h:aK<=G.length):jv aK G G:=⟨h,λ_ _=>.refl _⟩
theorem jv.trans {aK:Nat}{G G' G'':Heap}(h:jv aK G G')(h':jv aK G' G''):jv aK G G'' :=
 ⟨h'.1,λid hid=>(h'.2 id hid).trans (h.2 id hid)⟩
def Cl (aK:Nat)(G:Heap):Prop:=∀id o,id<aK->G[id]?=some o->ym aK o=true
theorem Cl.kept {aK:Nat}{G G':Heap}(h:Cl aK G)(hk:jv aK G G'):Cl aK G':=by
 intro id o hid ho;rcases hk.2 id hid with e|⟨sz,ay,g,s,s',e1,e2⟩
 ·rw[e]at ho;exact h id o hid ho
 ·rw[e1]at ho;cases ho;rfl
def Own (aK:Nat)(own:List Nat)(aN:Env):Prop:=∀d,d∈own->∀v,lk aN d=some v->∀id,id∈Vc v->aK<=id
theorem Own.nil (aK:Nat)(aN:Env):Own aK [] aN:=λd h=>by simp at h
def DA (e e':fI):Prop:=∃l,e'.ids=e.ids++l
theorem DA.refl (e:fI):DA e e:=⟨[],by simp⟩
theorem DA.trans {e e' e'':fI}(h:DA e e')(h':DA e' e''):DA e e'':=by
 obtain⟨l,hl⟩:=h;obtain⟨l',hl'⟩:=h';exact⟨l++l',by rw[hl',hl,pd]⟩
theorem DA.at {e e':fI}(h:DA e e'){k x:Nat}(hk:e.ids[k]?=some x):e'.ids[k]?=some x:=by
 obtain⟨l,hl⟩:=h;rw[hl,List.getElem?_append_left (gE hk).1];exact hk
structure Rt (e e':fI):Prop where
 pre:DA e e'
 nodup:e.ids.Nodup->e'.ids.Nodup
 IL:∀id:Nat,WX e'.G[id]? e.G[id]?
theorem Rt.refl (e:fI):Rt e e:=⟨.refl e,λh=>h,λ_=>.refl _⟩
theorem Rt.trans {e e' e'':fI}(h:Rt e e')(h':Rt e' e''):Rt e e'':=⟨h.pre.trans h'.pre,λn=>h'.nodup (h.nodup n),λid=>(h'.IL id).trans (h.IL id)⟩
theorem Cy {e e':fI}{id k:Nat}(h:e.id id=(k,e')):Rt e e'/\e'.ids[k]?=some id:=by
 obtain⟨h1,h2,h3,h4⟩:=fI.rM h;exact⟨⟨h3,λn=>(h4 (λ_=>some ⟨0,0⟩) ⟨n,λ_ _=>⟨_,rfl⟩⟩ ⟨_,rfl⟩).nodup,λid=>by rw[h1];exact .refl _⟩,h2⟩
mutual
theorem Bw (bq:Bool):∀{a a':AV} {e e':fI},exp bq e a=some (a',e')->Rt e e'/\(bq=true->∀e2 aK,DA e' e2->back e2.ids aK a'=a)
 |.p x,a',e,e',h=>by simp[exp]at h;obtain⟨rfl,rfl⟩:=h;exact⟨.refl _,λ_ _ _ _=>rfl⟩
 |.aC,a',e,e',h=>by
  simp only[exp]at h;split at h
  ·cases h;exact⟨.refl _,λ_ _ _ _=>rfl⟩
  ·rename_i hk;cases h;exact⟨.refl _,λhk'=>absurd hk' hk⟩
 |.undef,a',e,e',h=>by simp[exp]at h;obtain⟨rfl,rfl⟩:=h;exact⟨.refl _,λ_ _ _ _=>rfl⟩
 |.rp cs,a',e,e',h=>by simp[exp]at h;obtain⟨rfl,rfl⟩:=h;exact⟨.refl _,λ_ _ _ _=>rfl⟩
 |.arr id len gen,a',e,e',h=>by
  simp only[exp]at h;split at h
  ·cases hid:e.id id with|mk k e1 =>
   rw[hid]at h;cases h;obtain⟨r1,r2⟩:=Cy hid;exact⟨r1,λ_ e2 aK hp=>by simp[back,UL,hp.at r2]⟩
  ·rename_i hk;split at h
   ·rename_i hn;cases h;exact⟨⟨⟨[],by simp⟩,λh=>h,nx hn⟩,λhk'=>absurd hk' hk⟩
   ·cases h
 |.ptr id off,a',e,e',h=>by
  simp only[exp]at h;cases hid:e.id id with|mk k e1 =>
  rw[hid]at h;cases h;obtain⟨r1,r2⟩:=Cy hid;exact⟨r1,λ_ e2 aK hp=>by simp[back,UL,hp.at r2]⟩
 |.ez id idx off gen,a',e,e',h=>by
  simp only[exp]at h;cases hid:e.id id with|mk k e1 =>
  rw[hid]at h;cases h;obtain⟨r1,r2⟩:=Cy hid;exact⟨r1,λ_ e2 aK hp=>by simp[back,UL,hp.at r2]⟩
 |.ag cs,a',e,e',h=>by
  simp only[exp]at h;split at h
  ·rename_i hn;cases h;obtain⟨r1,r2⟩:=iN bq hn;exact⟨r1,λhk e2 aK hp=>by simp[back,r2 hk e2 aK hp]⟩
  ·cases h
 |.dF cs,a',e,e',h=>by
  simp only[exp]at h;split at h
  ·rename_i hn;cases h;obtain⟨r1,r2⟩:=iN bq hn;exact⟨r1,λhk e2 aK hp=>by simp[back,r2 hk e2 aK hp]⟩
  ·cases h
 |.eT t x,a',e,e',h=>by
  simp only[exp]at h;split at h
  ·rename_i hn;cases h;obtain⟨r1,r2⟩:=Bw bq hn;exact⟨r1,λhk e2 aK hp=>by simp[back,r2 hk e2 aK hp]⟩
  ·cases h
 |.fn f x y,a',e,e',h=>by
  simp only[exp]at h;split at h
  ·cases h
  ·rename_i hx;split at h
   ·cases h
   ·rename_i hy;cases h;obtain⟨r1,r2⟩:=iN true hx;obtain⟨s1,s2⟩:=iN true hy;exact⟨r1.trans s1,λ_ e2 aK hp=>by simp[back,r2 rfl e2 aK (s1.pre.trans hp),s2 rfl e2 aK hp]⟩
theorem iN (bq:Bool):∀{l l':List AV} {e e':fI},aQ bq e l=some (l',e')->Rt e e'/\(bq=true->∀e2 aK,DA e' e2->dh e2.ids aK l'=l)
 |[],l',e,e',h=>by simp[aQ]at h;obtain⟨rfl,rfl⟩:=h;exact⟨.refl _,λ_ _ _ _=>rfl⟩
 |a::r,l',e,e',h=>by
  simp only[aQ]at h;split at h
  ·cases h
  ·rename_i hn;split at h
   ·cases h
   ·rename_i hn2;cases h;obtain⟨r1,r2⟩:=Bw bq hn;obtain⟨s1,s2⟩:=iN bq hn2;exact⟨r1.trans s1,λhk e2 aK hp=>by simp[dh,r2 hk e2 aK (s1.pre.trans hp),s2 hk e2 aK hp]⟩
end
theorem pZ:∀(fuel:Nat) {e e':fI} {k:Nat} {os:Heap},UG fuel e k=some (os,e')->Rt e e'/\∀(j:Nat) (o:fE),os[j]?=some o->∃id o0,e'.ids[k+j]?=some id/\WX (some o0) e.G[id]?/\∀aK,bD e'.ids aK o=o0
 |0,e,e',k,os,h=>by
  simp only[UG]at h;split at h
  ·cases h
  ·cases h;exact⟨.refl _,λj o h=>by simp at h⟩
 |fuel+1,e,e',k,os,h=>by
  simp only[UG]at h;split at h
  ·cases h;exact⟨.refl _,λj o h=>by simp at h⟩
  ·rename_i id hid;split at h
   ·cases h
   ·rename_i sz ay g sl hG;split at h
    ·cases h
    ·rename_i os' e1 hr;cases h;obtain⟨r1,r2⟩:=pZ fuel hr;refine⟨r1,λj o hj=>?_⟩;cases j with
     |zero =>
      simp at hj;subst hj;exact⟨id,_,r1.pre.at hid,by rw[hG];exact .refl _,λ_=>rfl⟩
     |succ j =>
      obtain⟨id',o0,a1,a2,a3⟩:=r2 j o (by simpa using hj);exact⟨id',o0,by rw[show k+(j+1)=k+1+j by omega];exact a1,a2,a3⟩
   ·rename_i cs hG;split at h
    ·cases h
    ·rename_i cs' e1 hx;split at h
     ·cases h
     ·rename_i os' e2 hr;cases h;obtain⟨x1,x2⟩:=iN true hx;obtain⟨r1,r2⟩:=pZ fuel hr;refine⟨x1.trans r1,λj o hj=>?_⟩;cases j with
      |zero =>
       simp at hj;subst hj;exact⟨id,.box cs,(x1.trans r1).pre.at hid,by rw[hG];exact .refl _,λaK=>by simp[bD,x2 rfl e' aK r1.pre]⟩
      |succ j =>
       obtain⟨id',o0,a1,a2,a3⟩:=r2 j o (by simpa using hj);exact⟨id',o0,by rw[show k+(j+1)=k+1+j by omega];exact a1,a2.trans (x1.IL id'),a3⟩
def ir (pg:fX)(call:di):Prop:=Et pg call/\∀k f args os out os',kh pg k f=true->Cl os.length os->call f args os=some (out,os')->∀id:Nat,id<os.length->WX os'[id]? os[id]?
theorem zJ {ids:List Nat}{aK:Nat}{o o':fE}(h:WX (some o') (some o)):WX (some (bD ids aK o')) (some (bD ids aK o)):=by
 rcases h with h|⟨sz,ay,g,s,s',h1,h2⟩
 ·cases h;exact .refl _
 ·cases h1;cases h2;exact .inr ⟨_,_,_,_,_,rfl,rfl⟩
mutual
theorem n9 {n m:Nat}(h:n<=m):∀{a:AV},bf n a=true->bf m a=true
 |.p x,_=>by simp[bf]
 |.aC,_=>by simp[bf]
 |.undef,_=>by simp[bf]
 |.rp _,_=>by simp[bf]
 |.arr id _ _,hb=>by simp only[bf]at hb ⊢;have:=bJ.mp hb;exact bJ.mpr (by omega)
 |.ptr id _,hb=>by simp only[bf]at hb ⊢;have:=bJ.mp hb;exact bJ.mpr (by omega)
 |.ez id _ _ _,hb=>by simp only[bf]at hb ⊢;have:=bJ.mp hb;exact bJ.mpr (by omega)
 |.ag cs,hb=>by simp only[bf]at hb ⊢;exact VW h hb
 |.dF cs,hb=>by simp only[bf]at hb ⊢;exact VW h hb
 |.eT t v,hb=>by simp only[bf]at hb ⊢;exact n9 h hb
 |.fn f a b,hb=>by simp only[bf,ab]at hb ⊢;exact⟨VW h hb.1,VW h hb.2⟩
theorem VW {n m:Nat}(h:n<=m):∀{l:List AV},cH n l=true->cH m l=true
 |[],_=>rfl
 |a::r,hb=>by simp only[cH,ab]at hb ⊢;exact⟨n9 h hb.1,VW h hb.2⟩
end
mutual
theorem pj:∀{a v:AV} {G G':Heap},norm G a=some (v,G')->bf 0 v=true
 |.p x,v,G,G',h=>by simp[norm]at h;obtain⟨rfl,_⟩:=h;simp[bf]
 |.aC,v,G,G',h=>by simp[norm]at h;obtain⟨rfl,_⟩:=h;simp[bf]
 |.arr id len gen,v,G,G',h=>by
  simp only[norm]at h;split at h
  ·split at h
   ·cases h;simp[bf]
   ·cases h
  ·cases h
 |.ag cs,v,G,G',h=>by
  simp only[norm]at h;split at h
  ·rename_i hn;cases h;simp only[bf];exact n_ hn
  ·cases h
 |.dF cs,v,G,G',h=>by
  simp only[norm]at h;split at h
  ·rename_i hn;cases h;simp only[bf];exact n_ hn
  ·cases h
 |.eT t x,v,G,G',h=>by
  simp only[norm]at h;split at h
  ·rename_i hn;cases h;simp only[bf];exact pj hn
  ·cases h
 |.undef,v,G,G',h=>by simp[norm]at h
 |.ptr _ _,v,G,G',h=>by simp[norm]at h
 |.ez _ _ _ _,v,G,G',h=>by simp[norm]at h
 |.rp _,v,G,G',h=>by simp[norm]at h
 |.fn _ _ _,v,G,G',h=>by simp[norm]at h
theorem n_:∀{l vs:List AV} {G G':Heap},Vu G l=some (vs,G')->cH 0 vs=true
 |[],vs,G,G',h=>by simp[Vu]at h;obtain⟨rfl,_⟩:=h;rfl
 |a::r,vs,G,G',h=>by
  simp only[Vu]at h;split at h
  ·cases h
  ·rename_i hn;split at h
   ·cases h
   ·rename_i hn2;cases h;simp only[cH,ab];exact⟨pj hn,n_ hn2⟩
end
theorem yt {e e':fI}(h:DA e e'):e.ids.length<=e'.ids.length:=by obtain⟨l,hl⟩:=h;rw[hl];simp
theorem EE {e e':fI}{id k:Nat}(h:e.id id=(k,e')):k<e'.ids.length:=(gE (Cy h).2).1
mutual
theorem xg (bq:Bool):∀{a a':AV} {e e':fI},exp bq e a=some (a',e')->bf e'.ids.length a'=true
 |.p x,a',e,e',h=>by simp[exp]at h;obtain⟨rfl,rfl⟩:=h;simp[bf]
 |.aC,a',e,e',h=>by
  simp only[exp]at h;split at h<;>(cases h;simp[bf])
 |.undef,a',e,e',h=>by simp[exp]at h;obtain⟨rfl,rfl⟩:=h;simp[bf]
 |.rp cs,a',e,e',h=>by simp[exp]at h;obtain⟨rfl,rfl⟩:=h;simp[bf]
 |.arr id len gen,a',e,e',h=>by
  simp only[exp]at h;split at h
  ·cases hid:e.id id with|mk k e1 =>
   rw[hid]at h;cases h;simp only[bf];exact bJ.mpr (EE hid)
  ·split at h
   ·rename_i hn;cases h;exact n9 (dv _) (pj hn)
   ·cases h
 |.ptr id off,a',e,e',h=>by
  simp only[exp]at h;cases hid:e.id id with|mk k e1 =>
  rw[hid]at h;cases h;simp only[bf];exact bJ.mpr (EE hid)
 |.ez id idx off gen,a',e,e',h=>by
  simp only[exp]at h;cases hid:e.id id with|mk k e1 =>
  rw[hid]at h;cases h;simp only[bf];exact bJ.mpr (EE hid)
 |.ag cs,a',e,e',h=>by
  simp only[exp]at h;split at h
  ·rename_i hx;cases h;simp only[bf];exact jX bq hx
  ·cases h
 |.dF cs,a',e,e',h=>by
  simp only[exp]at h;split at h
  ·rename_i hx;cases h;simp only[bf];exact jX bq hx
  ·cases h
 |.eT t v,a',e,e',h=>by
  simp only[exp]at h;split at h
  ·rename_i hx;cases h;simp only[bf];exact xg bq hx
  ·cases h
 |.fn f a b,a',e,e',h=>by
  simp only[exp]at h;split at h
  ·cases h
  ·rename_i hx;split at h
   ·cases h
   ·rename_i hx2;cases h;simp only[bf,ab];exact⟨VW (yt (iN true hx2).1.pre) (jX true hx),jX true hx2⟩
theorem jX (bq:Bool):∀{l l':List AV} {e e':fI},aQ bq e l=some (l',e')->cH e'.ids.length l'=true
 |[],l',e,e',h=>by simp[aQ]at h;obtain⟨rfl,rfl⟩:=h;rfl
 |a::r,l',e,e',h=>by
  simp only[aQ]at h;split at h
  ·cases h
  ·rename_i hx;split at h
   ·cases h
   ·rename_i hx2;cases h;simp only[cH,ab];exact⟨n9 (yt (iN bq hx2).1.pre) (xg bq hx),jX bq hx2⟩
end
theorem qR:∀(fuel:Nat) {e e':fI} {k:Nat} {os:Heap},UG fuel e k=some (os,e')->∀(j:Nat) (o:fE),os[j]?=some o->ym e'.ids.length o=true
 |0,e,e',k,os,h,j,o,ho=>by
  simp only[UG]at h;split at h
  ·cases h
  ·cases h;simp at ho
 |fuel+1,e,e',k,os,h,j,o,ho=>by
  simp only[UG]at h;split at h
  ·cases h;simp at ho
  ·split at h
   ·cases h
   ·split at h
    ·cases h
    ·rename_i hr;cases h;cases j with
     |zero=>simp at ho;subst ho;rfl
     |succ j=>simp at ho;exact qR fuel hr j o ho
   ·split at h
    ·cases h
    ·rename_i hx;split at h
     ·cases h
     ·rename_i hr;cases h;cases j with
      |zero =>
       simp at ho;subst ho;simp only[ym];exact VW (yt (pZ fuel hr).1.pre) (jX true hx)
      |succ j=>simp at ho;exact qR fuel hr j o ho
theorem rN:∀(fuel:Nat) {e e':fI} {k:Nat} {os:Heap},UG fuel e k=some (os,e')->k<=e.ids.length->e'.ids.length=k+os.length
 |0,e,e',k,os,h,hle=>by
  simp only[UG]at h;split at h
  ·cases h
  ·cases h;simp;omega
 |fuel+1,e,e',k,os,h,hle=>by
  simp only[UG]at h;split at h
  ·rename_i hn;cases h;have:=List.getElem?_eq_none_iff.1 hn;simp;omega
  ·rename_i id hid;have hlt:=(gE hid).1;split at h
   ·cases h
   ·split at h
    ·cases h
    ·rename_i hr;cases h;have:=rN fuel hr hlt;simp;omega
   ·split at h
    ·cases h
    ·rename_i hx;split at h
     ·cases h
     ·rename_i hr;cases h;obtain⟨⟨⟨l,hl⟩,_,_⟩,_⟩:=iN true hx;have:=rN fuel hr (by rw[hl];simp;omega);simp;omega
theorem Bx {bq:Bool}{args args':List AV}{G:Heap}{e e':fI}{os:Heap}{fuel:Nat}(hx:aQ bq ⟨[],G⟩ args=some (args',e))(ho:UG fuel e 0=some (os,e')):Cl os.length os:=by
 intro id o hid h;have h1:=qR _ ho id o h;have h2:=rN _ ho (by omega);rw[h2]at h1;simpa using h1
mutual
theorem xh {ids:List Nat}{aK b:Nat}(hp:∀i,i<aK->ids[i]?=some i)(hnd:ids.Nodup)(hb:aK<=b):∀{a:AV},bf aK (back ids b a)=true->back ids b a=a
 |.p x,_=>by simp[back]
 |.aC,_=>by simp[back]
 |.undef,_=>by simp[back]
 |.rp _,_=>by simp[back]
 |.arr id _ _,h=>by simp only[back,bf]at h ⊢;rw[pk hp hnd hb (bJ.mp h)]
 |.ptr id _,h=>by simp only[back,bf]at h ⊢;rw[pk hp hnd hb (bJ.mp h)]
 |.ez id _ _ _,h=>by simp only[back,bf]at h ⊢;rw[pk hp hnd hb (bJ.mp h)]
 |.ag cs,h=>by simp only[back,bf]at h ⊢;rw[jY hp hnd hb h]
 |.dF cs,h=>by simp only[back,bf]at h ⊢;rw[jY hp hnd hb h]
 |.eT t v,h=>by simp only[back,bf]at h ⊢;rw[xh hp hnd hb h]
 |.fn f u v,h=>by simp only[back,bf,ab]at h ⊢;rw[jY hp hnd hb h.1,jY hp hnd hb h.2]
theorem jY {ids:List Nat}{aK b:Nat}(hp:∀i,i<aK->ids[i]?=some i)(hnd:ids.Nodup)(hb:aK<=b):∀{l:List AV},cH aK (dh ids b l)=true->dh ids b l=l
 |[],_=>rfl
 |a::r,h=>by simp only[dh,cH,ab]at h ⊢;rw[xh hp hnd hb h.1,jY hp hnd hb h.2]
theorem pk {ids:List Nat}{aK b i:Nat}(hp:∀i,i<aK->ids[i]?=some i)(hnd:ids.Nodup)(hb:aK<=b)(h:UL ids b i<aK):UL ids b i=i:=by
 unfold UL at h ⊢;cases hi:ids[i]? with
 |none=>rw[hi]at h;simp at h;omega
 |some v =>
  rw[hi]at h;simp at h ⊢;have h2:=hp v h;obtain⟨a1,a2⟩:=gE hi;obtain⟨b1,b2⟩:=gE h2;have h3:=kz.1 hnd;rcases j_ v i with hlt|he|hgt
  ·exact absurd (b2.trans a2.symm) (h3 v i b1 a1 hlt)
  ·exact he
  ·exact absurd (a2.trans b2.symm) (h3 i v a1 b1 hgt)
end
theorem EF:∀{aN env1:Env} {e e1:fI},o9 e aN=some (env1,e1)->Rt e e1/\∀d v1,lk env1 d=some v1->∃v,lk aN d=some v/\∀e2 aK,DA e1 e2->back e2.ids aK v1=v
 |[],env1,e,e1,h=>by simp[o9]at h;obtain⟨rfl,rfl⟩:=h;exact⟨.refl _,λd v1 h=>by simp[lk]at h⟩
 |(k,a)::r,env1,e,e1,h=>by
  simp only[o9]at h;split at h
  ·cases h
  ·rename_i a' e' hx;split at h
   ·cases h
   ·rename_i UO e'' hr;cases h;obtain⟨x1,x2⟩:=Bw true hx;obtain⟨y1,y2⟩:=EF hr;refine⟨x1.trans y1,λd v1 hl=>?_⟩;simp only[lk]at hl ⊢;split at hl
    ·rename_i e;subst e;cases hl;exact⟨a,by simp,λe2 aK hp=>x2 rfl e2 aK (y1.pre.trans hp)⟩
    ·rename_i hne;rw[aa hne];exact y2 d v1 hl
theorem DB {ids:List Nat}{b:Nat}{v:AV}{id:Nat}(h:id∈Vc v):UL ids b id∈Vc (back ids b v):=by
 cases v<;>simp[Vc,back]at h ⊢
 all_goals rw[h]
theorem Cz {aK:Nat}{live:List Nat}{aN env1:Env}{G G1:Heap}(h:gc aK live aN G=some (env1,G1))(hb:aK<=G.length)(hc:Cl aK G):jv aK G G1/\∀own,Own aK own aN->Own aK own env1:=by
 unfold gc at h;split at h
 ·cases h
 ·rename_i UO e hx;split at h
  ·cases h
  ·rename_i os e' ho;cases h;obtain⟨x1,x2⟩:=EF hx;obtain⟨y1,y2⟩:=pZ _ ho;have hrt:=x1.trans y1;have hp:∀i,i<aK->e'.ids[i]?=some i:=λi hi=>hrt.pre.at (by simp[hi]);have hnd:e'.ids.Nodup:=hrt.nodup V7;have hle:aK<=e'.ids.length:=by
    cases aK with
    |zero=>omega
    |succ m=>have:=(gE (hp m (by omega))).1;omega
   have hal:=rN _ ho (by omega);refine⟨⟨by omega,λid hid=>?_⟩,λown hown d hd v1 hv1 id hid=>?_⟩
   ·have hlt:id<G1.length:=by omega
    obtain⟨id',o0,a1,a2,a3⟩:=y2 id _ (gG hlt);rw[aG,hp id hid]at a1;cases a1;have a4:=a2.trans (x1.IL id);have hG:G[id]?=some G[id]:=gG (by omega);have hbo:=hc id _ hid hG;have a5:=a3 aK;rw[gG hlt];have key:some o0=some G1[id]\/WX (some G1[id]) (some o0):=by
     cases hg:G1[id] with
     |arr sz ay g sl=>rw[hg]at a5;simp only[bD]at a5;subst a5;exact .inl rfl
     |box cs =>
      rw[hg]at a5;simp only[bD]at a5;subst a5;have:cH aK (dh e'.ids aK cs)=true:=by
       rcases a4 with e|⟨_,_,_,_,_,e,_⟩
       ·dsimp only at e;rw[hG]at e;cases hgg:G[id] with
        |arr _ _ _ _=>rw[hgg]at e;cases e
        |box cs'=>rw[hgg]at e hbo;cases e;simpa [ym] using hbo
       ·cases e
      rw[jY hp hnd (aB _) this];exact .inl rfl
    rcases key with k|k
    ·rw[<- k];exact a4
    ·exact k.trans a4
   ·obtain⟨v,b1,b2⟩:=x2 d v1 hv1;have b3:=b2 e' aK y1.pre;have b4:lk aN d=some v:=by
     clear hx x1 x2 y2 hv1 b2 b3
     induction live with
     |nil=>simp[Z.U9,lk]at b1
     |cons k r ih =>
      unfold Z.U9 at b1;split at b1
      ·rename_i w hw;simp only[lk]at b1;split at b1
       ·rename_i e;subst e;cases b1;exact hw
       ·exact ih b1
      ·exact ih b1
    have b5:=DB (ids:=e'.ids) (b:=aK) hid;rw[b3]at b5;have b6:=hown d hd v b4 _ b5;by_cases hlt:id<aK
    ·exfalso;unfold UL at b6;rw[hp id hlt]at b6;simp at b6;omega
    ·omega
theorem xi (hR:ir pg call){k f:Nat}(hf:kh pg k f=true){args:List AV}{G G':Heap}{out:Out}(h:UM pg call f args G=some (out,G')):∀id:Nat,id<G.length->WX G'[id]? G[id]?:=by
 intro id hid;unfold UM at h;split at h
 ·cases h
 ·rename_i args' e hx;split at h
  ·cases h
  ·rename_i os e' ho;split at h
   ·cases h
   ·rename_i out' os' hcall;cases h;obtain⟨x1,_⟩:=iN _ hx;obtain⟨y1,y2⟩:=pZ _ ho;have hro:=hR.2 k f args' os out' os' hf (Bx hx ho) hcall;have haeq:=(x1.trans y1).IL;have hlen:e'.G.length=G.length:=WY haeq;have hnd:e'.ids.Nodup:=(x1.trans y1).nodup (by simp);rw[List.getElem?_append_left (by rw[fJ];omega)];by_cases hm:id∈e'.ids
    ·obtain⟨k,hk⟩:=UF.1 hm;by_cases hkl:k<os.length
     ·obtain⟨id',o0,a1,a2,a3⟩:=y2 k _ (gG hkl);simp at a1;rw[hk]at a1;cases a1;have h1:=hro k hkl;rw[gG hkl]at h1;cases hok:os'[k]? with
      |none =>
       rw[hok]at h1;rcases h1 with h|⟨_,_,_,_,_,h,_⟩<;>cases h
      |some o' =>
       rw[hok]at h1;rw[sN e'.ids e'.G os' k id o' hnd hk (by omega) hok];have h2:=zJ (ids:=e'.ids) (aK:=e'.G.length) h1;rw[a3]at h2;exact(h2.trans a2).trans (x1.IL id)
     ·
      have:(b_ e'.ids e'.G.length e'.G e'.ids os')[id]?=e'.G[id]?\/True:=.inr trivial;exfalso;have:=po _ ho (by simp);have hkl':=(gE hk).1;omega
    ·rw[lq _ _ _ _ hm];exact haeq id
where
 po:∀(fuel:Nat) {e e':fI} {k:Nat} {os:Heap},UG fuel e k=some (os,e')->k<=e.ids.length->e'.ids.length=k+os.length
  |0,e,e',k,os,h,hle=>by
   simp only[UG]at h
   split at h
   ·cases h
   ·cases h;simp;omega
  |fuel+1,e,e',k,os,h,hle=>by
   simp only[UG]at h
   split at h
   ·rename_i hn
    cases h
    have:=List.getElem?_eq_none_iff.1 hn
    simp
    omega
   ·rename_i id hid
    have hlt:=(gE hid).1
    split at h
    ·cases h
    ·split at h
     ·cases h
     ·rename_i hr;cases h
      have:=po fuel hr hlt
      simp
      omega
    ·split at h
     ·cases h
     ·rename_i hx
      split at h
      ·cases h
      ·rename_i hr;cases h
       obtain⟨⟨⟨l,hl⟩,_,_⟩,_⟩:=iN true hx
       have:=po fuel hr (by rw[hl];simp;omega)
       simp
       omega
theorem By {f:Nat}{args:List AV}{G G':Heap}{out:Out}(h:UM pg call f args G=some (out,G')):G.length<=G'.length:=by
 unfold UM at h;split at h
 ·cases h
 ·rename_i args' e hx;split at h
  ·cases h
  ·rename_i os e' ho;split at h
   ·cases h
   ·cases h;obtain⟨x1,_⟩:=iN _ hx;obtain⟨y1,y2⟩:=pZ _ ho;have hlen:e'.G.length=G.length:=WY (x1.trans y1).IL;simp only[aR,fJ];omega
theorem xj {o:qd}(ho:uc o=true){aN:Env}{G:Heap}{r:jV}(h:Uu pg call o aN G=some r){aK:Nat}(hb:aK<=G.length):∃v G',r=.val v G'/\jv aK G G':=by
 have hs:cN (bg o)=true->∃v G',r=.val v G'/\jv aK G G':=λhk=>let ⟨v,e,_⟩:=pe hk h;⟨v,G,e,.refl hb⟩;have hr:∀{x:Nat},bg o=.reader x->∃v G',r=.val v G'/\jv aK G G':=λhk=>let ⟨v,e,_⟩:=Wl hk h;⟨v,G,e,.refl hb⟩;cases o with
 |box x =>
  simp only[Uu]at h;split at h
  ·split at h
   ·cases h;exact⟨_,_,rfl,by simp;omega,λid hid=>by rw[List.getElem?_append_left (by omega)];exact .refl _⟩
   ·cases h
  ·cases h
 |new cs =>
  simp only[Uu]at h;split at h
  ·cases h;exact⟨_,_,rfl,by simp;omega,λid hid=>by rw[List.getElem?_append_left (by omega)];exact .refl _⟩
  ·cases h
 |load n g x=>cases x with|t x=>exact hr rfl|k a=>simp[uc]at ho
 |len n x=>cases x with|t x=>exact hr rfl|k a=>simp[uc]at ho
 |iY x=>cases x with|t x=>exact hr rfl|k a=>simp[uc]at ho
 |eC a b x y=>cases x with|t x=>exact hr rfl|k a=>simp[uc]at ho
 |_=>first|exact hs rfl|simp[uc]at ho
theorem Own.kH {aK:Nat}{own:List Nat}{aN:Env}(h:Own aK own aN){d:Nat}{v:AV}(hv:∀id,id∈Vc v->aK<=id):Own aK (d::own) (Z.put aN (some d) v):=by
 intro x hx u hu id hid;rw[lU]at hu;split at hu
 ·cases hu;exact hv id hid
 ·rename_i hne;rcases aA.1 hx with rfl|hx
  ·exact absurd rfl hne
  ·exact h x hx u hu id hid
theorem Own.other {aK:Nat}{own:List Nat}{aN:Env}(h:Own aK own aN)(d:Nat)(v:AV):Own aK (own.filter λx=>!Nat.beq x d) (put aN (some d) v):=by
 intro x hx u hu id hid;simp only[dH,a_]at hx;rw[lU,aa]at hu
 ·exact h x hx.1 u hu id hid
 ·intro e;cases e;simp at hx
theorem Own.sub {aK:Nat}{own own':List Nat}{aN:Env}(h:Own aK own aN)(hs:∀d,d∈own'->d∈own):Own aK own' aN:=λd hd=>h d (hs d hd)
theorem EG {aK:Nat}{G G':Heap}{n:Nat}{u v:AV}(hb:aK<=G.length)(hu:∀id,id∈Vc u->aK<=id)(hs:iM n G u v=some G'):jv aK G G':=by
 unfold iM at hs;split at hs
 ·split at hs
  ·rename_i k off;have hk:=hu k (by simp[Vc]);split at hs
   ·split at hs
    ·cases hs;exact⟨by simp;omega,λid hid=>by rw[List.getElem?_set,aa (by omega)];exact .refl _⟩
    ·cases hs
   ·cases hs
  ·rename_i k idx off gen;have hk:=hu k (by simp[Vc]);split at hs
   ·cases hs
   ·rename_i l G3 hn;have hl:=WY (ny hn);split at hs
    ·split at hs
     ·split at hs
      ·split at hs
       ·cases hs;exact⟨by simp;omega,λid hid=>by rw[List.getElem?_set,aa (by omega)];exact ny hn id⟩
       ·cases hs
      ·cases hs
     ·cases hs
    ·cases hs
  ·cases hs
 ·cases hs
def yu (aK:Nat)(own':List Nat)(aN:Env)(d:Option Nat)(G:Heap)(r:jV):Prop :=
 (∃v G',r=.val v G'/\jv aK G G'/\Own aK own' (put aN d v))\/∃v G',r=.iL v G'/\jv aK G G'
theorem Yn (hR:ir pg call){n f:Nat}{args:List fe}(hf:kh pg n f=true){aN:Env}{G:Heap}{r:jV}(h:Uu pg call (.call f args) aN G=some r){aK:Nat}(hb:aK<=G.length){own':List Nat}{d:Option Nat}(ho:∀v,Own aK own' (put aN d v)) :
  yu aK own' aN d G r:=by
 simp only[Uu]at h;split at h
 ·rename_i vs hv;cases hc:UM pg call f vs G with
  |none=>rw[hc]at h;simp[jV.of]at h
  |some y =>
   rcases y with ⟨out,G2⟩
   rw[hc]at h;have hk:jv aK G G2:=⟨cm hb (By hc),λid hid=>xi hR hf hc id (by omega)⟩
   cases out with
   |ret u=>simp[jV.of]at h;subst h;exact .inl ⟨_,_,rfl,hk,ho u⟩
   |iL u=>simp[jV.of]at h;subst h;exact .inr ⟨_,_,rfl,hk⟩
 ·cases h
theorem IM {str:Bool}{sz bytes:Nat}{G G':Heap}{x y v:AV}{aK:Nat}(hb:aK<=G.length)(hx:∀id,id∈Vc x->aK<=id)(h:cX str sz bytes G x y=some (v,G')):jv aK G G'/\∀id,id∈Vc v->aK<=id:=by
 unfold cX at h;split at h
 ·cases h
 ·split at h
  ·split at h
   ·split at h
    ·cases h;exact⟨.refl hb,λid hid=>by simp[Vc]at hid⟩
    ·split at h
     ·cases h;exact⟨⟨by simp;omega,λid hid=>by rw[List.getElem?_append_left (by omega)];exact .refl _⟩,λid hid=>by simp[Vc]at hid;omega⟩
     ·cases h
   ·rename_i id len gen;have hid:=hx id (by simp[Vc]);split at h
    ·split at h
     ·cases h;exact⟨⟨by simp;omega,λj hj=>by rw[List.getElem?_set,aa (by omega)];exact .refl _⟩,λj hj=>by simp[Vc]at hj;omega⟩
     ·cases h
    ·cases h
   ·cases h
  ·cases h
theorem GM (hR:ir pg call){n:Nat}{own own':List Nat}{i:CI}(hi:gR (kh pg n) own i=some own'){aK:Nat}{aN:Env}{G:Heap}(ho:Own aK own aN)(hb:aK<=G.length) :
  (Own aK own' (put aN i.d .undef))/\∀r,Uu pg call i.o aN G=some r->yu aK own' aN i.d G r:=by
 rcases i with ⟨d,o,g⟩
 have hun:∀id,id∈Vc .undef->aK<=id:=λid h=>by simp[Vc]at h
 have gen:∀{own'},uc o=true->(match d with|none=>some own|some d=>some (own.filter λx=>!Nat.beq x d))=some own' ->
   (Own aK own' (put aN d .undef))/\∀r,Uu pg call o aN G=some r->yu aK own' aN d G r:=by
  intro own' hr h;cases d with
  |none =>
   cases h;exact⟨ho,λr hv=>.inl (let ⟨v,G',e,hk⟩:=xj hr hv hb;⟨v,G',e,hk,ho⟩)⟩
  |some d =>
   cases h;exact⟨ho.other d _,λr hv=>.inl (let ⟨v,G',e,hk⟩:=xj hr hv hb;⟨v,G',e,hk,ho.other d v⟩)⟩
 have gen2:∀{own'},(match d with|none=>if uc o then some own else none|some d=>if uc o then some (own.filter λx=>!Nat.beq x d) else none)=some own' ->
   (Own aK own' (put aN d .undef))/\∀r,Uu pg call o aN G=some r->yu aK own' aN d G r:=by
  intro own' h;by_cases hr:uc o=true
  ·exact gen hr (by cases d<;>simpa [hr] using h)
  ·exfalso;cases d<;>simp[hr]at h
 cases o with
 |call f args =>
  cases d with
  |none =>
   simp only[gR]at hi;split at hi
   ·rename_i hf;cases hi;exact⟨ho,λr h=>Yn hR hf h hb λv=>ho⟩
   ·cases hi
  |some d =>
   simp only[gR]at hi;split at hi
   ·rename_i hf;cases hi;exact⟨ho.other d _,λr h=>Yn hR hf h hb λv=>ho.other d v⟩
   ·cases hi
 |box x =>
  cases d with
  |none=>exact gen2 (by simpa [gR] using hi)
  |some d =>
   simp only[gR]at hi;cases hi;refine⟨ho.kH hun,λr hv=>?_⟩;obtain⟨v,G',e,hk⟩:=xj (o:=.box x) rfl hv hb;refine .inl ⟨v,G',e,hk,ho.kH λid hid=>?_⟩;subst e;simp only[Uu]at hv;split at hv
   ·split at hv
    ·cases hv;simp[Vc]at hid;omega
    ·cases hv
   ·cases hv
 |new x =>
  cases d with
  |none=>exact gen2 (by simpa [gR] using hi)
  |some d =>
   simp only[gR]at hi;cases hi;refine⟨ho.kH hun,λr hv=>?_⟩;obtain⟨v,G',e,hk⟩:=xj (o:=.new x) rfl hv hb;refine .inl ⟨v,G',e,hk,ho.kH λid hid=>?_⟩;subst e;simp only[Uu]at hv;split at hv
   ·cases hv;simp[Vc]at hid;omega
   ·cases hv
 |Wy sz z m ps =>
  cases d with
  |none=>exact gen2 (by simpa [gR] using hi)
  |some d =>
   simp only[gR]at hi;cases hi;refine⟨ho.kH hun,λr hv=>?_⟩;simp only[Uu]at hv;split at hv
   ·split at hv
    ·cases hv
    ·split at hv
     ·cases hv
     ·rename_i ay G2 hf;cases hv;have hl:=WY (V3 hf);refine .inl ⟨_,_,rfl,⟨by simp;omega,λid hid=>?_⟩,ho.kH λid hid=>?_⟩
      ·rw[List.getElem?_append_left (by omega)];exact V3 hf id
      ·simp[Vc]at hid;omega
   ·cases hv
 |app str sz b x y =>
  cases x with
  |k a=>cases d<;>exact gen2 (by simpa [gR] using hi)
  |t x =>
   cases d with
   |none=>exact gen2 (by simpa [gR] using hi)
   |some d =>
    simp only[gR]at hi;split at hi
    ·rename_i hm;cases hi;refine⟨ho.kH hun,λr hv=>?_⟩;simp only[Uu,eH]at hv;split at hv
     ·rename_i u v hu hvv;split at hv
      ·rename_i w G2 ha;cases hv;obtain⟨a1,a2⟩:=IM hb (λid hid=>ho x (by simpa using hm) u hu id hid) ha;exact .inl ⟨_,_,rfl,a1,ho.kH a2⟩
      ·cases hv
     ·cases hv
    ·cases hi
 |Vo x =>
  cases d with
  |none=>cases x<;>exact gen2 (by simpa [gR] using hi)
  |some d =>
   cases x with
   |t x =>
    simp only[gR]at hi;split at hi
    ·rename_i hm;cases hi;refine⟨ho.kH hun,λr hv=>?_⟩;obtain⟨v,G',e,hk⟩:=xj (o:=.Vo (.t x)) rfl hv hb;refine .inl ⟨v,G',e,hk,ho.kH λid hid=>?_⟩;subst e;simp only[Uu,eH]at hv;cases hl:lk aN x with
     |none=>rw[hl]at hv;simp[one]at hv
     |some u=>rw[hl]at hv;simp[one]at hv;obtain⟨rfl,_⟩:=hv;exact ho x (by simpa using hm) u hl id hid
    ·exact gen rfl hi
   |k a =>
    simp only[gR]at hi;split at hi
    ·rename_i hm;cases hi;refine⟨ho.kH hun,λr hv=>?_⟩;obtain⟨v,G',e,hk⟩:=xj (o:=.Vo (.k a)) rfl hv hb;refine .inl ⟨v,G',e,hk,ho.kH λid hid=>?_⟩;subst e;simp[Uu,eH,one]at hv;obtain⟨rfl,_⟩:=hv;cases a<;>simp[Vc,bf]at hid hm
    ·exact gen rfl hi
 |store m x y =>
  cases x with
  |k a=>cases d<;>exact gen2 (by simpa [gR] using hi)
  |t dd =>
   cases d with
   |some d=>exact gen2 (by simpa [gR] using hi)
   |none =>
    simp only[gR]at hi;split at hi
    ·rename_i hm;cases hi;refine⟨ho,λr hv=>?_⟩;simp only[Uu,eH]at hv;split at hv
     ·rename_i u v hu hvv;split at hv
      ·rename_i G' hs;cases hv;exact .inl ⟨_,_,rfl,EG hb (λid hid=>ho dd (by simpa using hm) u hu id hid) hs,ho⟩
      ·cases hv
     ·cases hv
    ·cases hi
 |_=>cases d<;>exact gen2 (by simpa [gR] using hi)
theorem uS (hR:ir pg call){n:Nat}{aK:Nat}:∀{l:List CI} {own own':List Nat} {aN:Env} {G:Heap} {e:Ex} {F:Env} {G':Heap},uD (kh pg n) own l=some own'->Own aK own aN->aK<=G.length->dP pg call l aN G=some (e,F,G')->jv aK G G'/\(e=.normal->Own aK own' F)/\∀j,e≠.exit j
 |[],own,own',aN,G,e,F,G',hl,ho,hb,h=>by
  simp[dP]at h;simp[uD]at hl;obtain⟨rfl,rfl,rfl⟩:=h;subst hl;exact⟨.refl hb,λ_=>ho,λj h=>by cases h⟩
 |i::r,own,own',aN,G,e,F,G',hl,ho,hb,h=>by
  simp only[uD]at hl;split at hl
  ·cases hl
  ·rename_i own1 h1;obtain⟨s1,s2⟩:=GM hR h1 ho hb;simp only[dP]at h;split at h
   ·cases h
   ·exact uS hR hl s1 hb h
   ·split at h
    ·cases h
    ·rename_i v G1 hv;rcases s2 _ hv with ⟨v',G1',e1,hk,ho'⟩|⟨v',G1',e1,hk⟩
     ·cases e1;obtain⟨a1,a2⟩:=uS hR hl ho' hk.1 h;exact⟨hk.trans a1,a2⟩
     ·cases e1
    ·rename_i v G1 hv;rcases s2 _ hv with ⟨v',G1',e1,hk,ho'⟩|⟨v',G1',e1,hk⟩
     ·cases e1
     ·cases e1;cases h;exact⟨hk,(λh=>by cases h),λj h=>by cases h⟩
theorem Own.U9 {aK:Nat}{own:List Nat}{aN:Env}(h:Own aK own aN)(live:List Nat):Own aK own (U9 live aN):=by
 intro d hd v hv id hid;refine h d hd v ?_ id hid;clear hd
 induction live with
 |nil=>simp[Z.U9,lk]at hv
 |cons k r ih =>
  unfold Z.U9 at hv;split at hv
  ·rename_i w hw;simp only[lk]at hv;split at hv
   ·rename_i e;subst e;cases hv;exact hw
   ·exact ih hv
  ·exact ih hv
def uT (pg:fX)(loop:js):Prop:=∀n b live a aN G e F G' own own',VR (kh pg n) own a=some own'->(∀d,d∈own->d∈own')->Own b own aN->Cl b G->b<=G.length->loop b live a aN G=some (e,F,G')->jv b G G'/\e≠.normal/\∀j,e=.exit j->il j a=false
theorem W0 (hR:ir pg call)(hL:uT pg loop){n:Nat}{aK:Nat}:∀{c:aU} {own own':List Nat} {aN:Env} {G:Heap} {e:Ex} {F:Env} {G':Heap},VR (kh pg n) own c=some own'->Own aK own aN->Cl aK G->aK<=G.length->bo pg call loop aK c aN G=some (e,F,G')->jv aK G G'/\(e=.normal->Own aK own' F)/\∀j,e=.exit j->il j c=false
 |.skip,own,own',aN,G,e,F,G',hc,ho,hcl,hb,h=>by simp[bo]at h;simp[VR]at hc;obtain⟨rfl,rfl,rfl⟩:=h;subst hc;exact⟨.refl hb,λ_=>ho,λj h=>by cases h⟩
 |.ret,own,own',aN,G,e,F,G',hc,ho,hcl,hb,h=>by simp[bo]at h;obtain⟨rfl,rfl,rfl⟩:=h;exact⟨.refl hb,(λh=>by cases h),λj h=>by cases h⟩
 |.exit id,own,own',aN,G,e,F,G',hc,ho,hcl,hb,h=>by simp[bo]at h;obtain⟨rfl,rfl,rfl⟩:=h;exact⟨.refl hb,(λh=>by cases h),λj h=>by cases h;simp[il]⟩
 |.seq a b,own,own',aN,G,e,F,G',hc,ho,hcl,hb,h=>by
  simp only[VR]at hc;split at hc
  ·cases hc
  ·rename_i own1 h1;simp only[bo]at h;cases ha:bo pg call loop aK a aN G with
   |none=>rw[ha]at h;cases h
   |some x =>
    rcases x with ⟨e1,env1,G1⟩
    rw[ha]at h;obtain⟨k1,k2,k3⟩:=W0 hR hL h1 ho hcl hb ha;cases e1 with
    |normal =>
     obtain⟨l1,l2,l3⟩:=W0 hR hL hc (k2 rfl) (hcl.kept k1) k1.1 h;exact⟨k1.trans l1,l2,λj hj=>by simp[il,l3 j hj]⟩
    |_=>cases h;exact⟨k1,(λh=>by cases h),λj hj=>by simp[il,k3 j hj]⟩
 |.cond x a b,own,own',aN,G,e,F,G',hc,ho,hcl,hb,h=>by
  simp only[VR]at hc;split at hc
  ·rename_i o1 o2 h1 h2;cases hc;simp only[bo]at h;split at h
   ·split at h
    ·obtain⟨k1,k2,k3⟩:=W0 hR hL h1 ho hcl hb h;exact⟨k1,λe=>(k2 e).sub λd hd=>by simp at hd;exact hd.1,λj hj=>by simp[il,k3 j hj]⟩
    ·obtain⟨k1,k2,k3⟩:=W0 hR hL h2 ho hcl hb h;exact⟨k1,λe=>(k2 e).sub λd hd=>by simp at hd;exact hd.2,λj hj=>by simp[il,k3 j hj]⟩
   ·cases h
  ·cases hc
 |.block id a,own,own',aN,G,e,F,G',hc,ho,hcl,hb,h=>by
  simp only[VR]at hc;split at hc
  ·rename_i o1 h1;simp only[bo]at h;cases ha:bo pg call loop aK a aN G with
   |none=>rw[ha]at h;cases h
   |some x =>
    rcases x with ⟨e1,env1,G1⟩
    rw[ha]at h;obtain⟨k1,k2,k3⟩:=W0 hR hL h1 ho hcl hb ha;cases e1 with
    |exit id' =>
     dsimp only at h;split at h
     ·rename_i he;subst he;cases h;rw[k3 _ rfl]at hc;simp at hc;subst hc;exact⟨k1,λ_=>.nil _ _,λj h=>by cases h⟩
     ·cases h;exact⟨k1,(λh=>by cases h),λj hj=>by cases hj;simp[il,k3 _ rfl]⟩
    |normal =>
     cases h;refine⟨k1,λ_=>?_,λj h=>by cases h⟩;split at hc
     ·cases hc;exact k2 rfl
     ·cases hc;exact .nil _ _
    |_=>cases h;exact⟨k1,(λh=>by cases h),λj h=>by cases h⟩
  ·cases hc
 |.ops live l,own,own',aN,G,e,F,G',hc,ho,hcl,hb,h=>by
  simp only[VR]at hc;simp only[bo]at h;cases ha:dP pg call l aN G with
  |none=>rw[ha]at h;cases h
  |some x =>
   rcases x with ⟨e1,env1,G1⟩
   rw[ha]at h;obtain⟨k1,k2,k3⟩:=uS hR hc ho hb ha;cases e1 with
   |normal=>cases h;exact⟨k1,λ_=>(k2 rfl).U9 live,λj h=>by cases h⟩
   |exit j=>exact absurd rfl (k3 j)
   |_=>cases h;exact⟨k1,(λh=>by cases h),λj h=>by cases h⟩
 |.draw live n r k,own,own',aN,G,e,F,G',hc,ho,hcl,hb,h=>by
  simp only[VR]at hc;split at hc
  ·cases hc
  ·rename_i own1 hn;simp only[bo]at h;split at h
   ·rename_i h1;obtain⟨k1,k2,_⟩:=uS hR hn ho hb h1;split at h
    ·rename_i h2;obtain⟨l1,l2,_⟩:=uS hR hc (k2 rfl) k1.1 h2;split at h
     ·cases h;exact⟨k1.trans l1,λ_=>(l2 rfl).U9 live,λj h=>by cases h⟩
     ·cases h
    ·cases h
   ·cases h
 |.loop live a,own,own',aN,G,e,F,G',hc,ho,hcl,hb,h=>by
  simp only[VR]at hc;split at hc
  ·rename_i o1 h1;split at hc
   ·rename_i hs;cases hc;simp only[bo]at h;split at h
    ·rename_i env1 G1 hg;obtain⟨g1,g2⟩:=Cz hg hb hcl;obtain⟨m1,m2,m3⟩:=hL n aK live a env1 G1 e F G' own o1 h1 (λd hd=>by simpa using bc.mp hs d hd) (g2 own ho) (hcl.kept g1) g1.1 h;exact⟨g1.trans m1,λ_=>.nil _ _,λj hj=>by simp[il,m3 j hj]⟩
    ·cases h
   ·cases hc
  ·cases hc
theorem uU {aK:Nat}{o o':Out}{G G':Heap}(h:aj aK o G=some (o',G')):G'=G.take aK:=by
 unfold aj at h;split at h
 ·cases h;rfl
 ·cases h
theorem IN (hR:ir pg call)(hL:uT pg loop){n:Nat}{c:bz}(hc:(VR (kh pg n) [] c.body).isSome=true){args:List AV}{G G':Heap}{out:Out}(hcl:Cl G.length G)(h:ic pg call loop c args G=some (out,G')):∀id:Nat,id<G.length->WX G'[id]? G[id]?:=by
 intro id hid;unfold ic at h;cases hev:bo pg call loop G.length c.body (sE 0 args) G with
 |none=>rw[hev]at h;cases h
 |some r =>
  rcases r with ⟨e,UO,G1⟩
  rw[hev]at h;obtain⟨own',hc'⟩:=dM.1 hc;have h1:=(W0 hR hL (aK:=G.length) hc' (.nil _ _) hcl (aB _) hev).1;have hret:(match VI UO G1 c.res with
    |none=>none
    |some vs=>if c.nZ then some (Out.ret (VT vs),G1) else match norm G1 (VT vs) with
     |some (v,G')=>aj G.length (.ret v) G'
     |none=>none)=some (out,G')->WX G'[id]? G[id]?:=by
   intro h;split at h
   ·cases h
   ·split at h
    ·cases h;exact h1.2 id hid
    ·split at h
     ·rename_i v G2 hn;rw[uU h,List.getElem?_take,ah hid];exact(nx hn id).trans (h1.2 id hid)
     ·cases h
  cases e with
  |normal=>exact hret h
  |ret=>exact hret h
  |exit id'=>cases h
  |iL v=>rw[uU h,List.getElem?_take,ah hid];exact h1.2 id hid
theorem GN:∀n,ir pg (dr pg n)->uT pg (ew pg n)->uT pg (ew pg (n+1)):=by
 intro n hR hL;intro k b live a aN G e F G' own own' hc hs ho hcl hb h;unfold ew at h;cases hev:bo pg (dr pg n) (ew pg n) b a aN G with
 |none=>rw[hev]at h;cases h
 |some r =>
  rcases r with ⟨e1,env1,G1⟩
  rw[hev]at h;obtain⟨k1,k2,k3⟩:=W0 hR hL hc ho hcl hb hev;cases e1 with
  |normal =>
   dsimp only at h;split at h
   ·rename_i env2 G2 hg;obtain⟨g1,g2⟩:=Cz hg k1.1 (hcl.kept k1);obtain⟨m1,m2,m3⟩:=hL k b live a env2 G2 e F G' own own' hc hs (g2 own ((k2 rfl).sub hs)) ((hcl.kept k1).kept g1) g1.1 h;exact⟨(k1.trans g1).trans m1,m2,m3⟩
   ·cases h
  |_=>cases h;exact⟨k1,(λh=>by cases h),λj hj=>k3 j hj⟩
theorem tC (hR:ir pg call){o:qd}{f:Nat}{args:List fe}{aN:Env}{G:Heap}(hk:bg o=.call f args){v:AV}{G1:Heap}(h:Uu pg call o aN G=some (.val v G1)){F:Env}{L:Nat}(hF:∀t,t∈sF args->lk aN t=lk F t)(hc:VS pg F L (.closed f (sF args))=true):∀id:Nat,id<G.length->WX G1[id]? G[id]?:=by
 simp only[VS,UP,ab,bc,a_]at hc;rcases hc with hf|⟨hka,hts⟩
 ·cases o with
  |call f' args' =>
   simp only[bg]at hk;split at hk
   ·cases hk;simp only[Uu]at h;split at h
    ·rename_i vs hv;cases hc:UM pg call f vs G with
     |none=>rw[hc]at h;simp[jV.of]at h
     |some y =>
      rcases y with ⟨out,G2⟩
      rw[hc]at h;cases out with
      |ret u=>simp[jV.of]at h;obtain⟨rfl,rfl⟩:=h;exact xi hR hf hc
      |iL u=>simp[jV.of]at h
    ·cases h
   ·cases hk
  |store n x y=>cases x<;>simp[bg]at hk
  |app a b c x y=>cases x<;>simp[bg]at hk
  |load n g y=>cases y<;>simp[bg]at hk
  |len b y=>cases y<;>simp[bg]at hk
  |iY y=>cases y<;>simp[bg]at hk
  |eC sz YA y i=>cases y<;>simp[bg]at hk
  |_=>simp[bg]at hk
 ·exact zt hk h hka λt ht v hv=>by
   have:=hts t ht;simpa [eu,<- hF t ht,hv] using this
end
section
variable {pg:fX}{call:di}
structure GO (pg:fX)(F:Env)(L:Nat)(j i:CI):Prop where
 dst:∀d,j.d=some d->i.d≠some d
 ji:∀d,j.d=some d->d∉ej i
 ij:∀d,i.d=some d->d∉ej j
 VB:∃cs,dC (bg j.o) (bg i.o)=some cs/\∀c,c∈cs->VS pg F L c=true
theorem swap (hR:ir pg call){j i:CI}{aN:Env}{G:Heap}{e1:Env}{G1:Heap}{F:Env}{G2:Heap}{L:Nat}(hL:L<=G.length)(h1:kE pg call j aN G=some (e1,G1))(h2:kE pg call i e1 G1=some (F,G2))(hf:GO pg aN L j i) :
  ∃e1' G1' F',kE pg call i aN G=some (e1',G1')/\kE pg call j e1' G1'=some (F',G2)/\zu F' F:=by
 obtain⟨vj,rfl,hj2,hj3⟩:=nz h1;obtain⟨vi,rfl,hi2,hi3⟩:=nz h2;have hri:∀t,t∈ej i->lk (put aN j.d vj) t=lk aN t:=λt ht=>by
  rw[lU,aa];intro e;exact hf.ji t e ht
 have hrj:∀t,t∈ej j->lk aN t=lk (put aN i.d vi) t:=λt ht=>by
  rw[lU,aa];intro e;exact hf.ij t e ht
 have hfin:zu (put (put aN i.d vi) j.d vj) (put (put aN j.d vj) i.d vi):=by
  intro t;simp only[lU];by_cases e1:j.d=some t
  ·have:=hf.dst t e1;simp[e1,this]
  ·simp[e1]
 rcases hj3 with ⟨rfl,hj3⟩|⟨gj,oj,sj⟩
 ·exact⟨_,_,_,hi2 aN hri,hj3 _ _ hrj,hfin⟩
 ·rcases hi3 with ⟨rfl,hi3⟩|⟨gi,oi,si⟩
  ·exact⟨_,_,_,hi3 aN G hri,hj2 _ hrj,hfin⟩
  ·obtain⟨cs,hn,hcs⟩:=hf.VB;have oi':Uu pg call i.o aN G1=some (.val vi G2):=by rw[<- qN λt ht=>hri t (by simp[ej,ht])];exact oi
   have hg:∀UO,(∀t,t∈ej i->lk (put aN j.d vj) t=lk UO t)->tu UO i.g=some true:=by
    intro UO he;rw[<- gi];cases hc:i.g with
    |none=>rfl
    |some p =>
     rcases p with ⟨t,w⟩
     simp only[tu];rw[he t (by simp[ej,hc])]
   have hgj:∀UO,(∀t,t∈ej j->lk aN t=lk UO t)->tu UO j.g=some true:=by
    intro UO he;rw[<- gj];cases hc:j.g with
    |none=>rfl
    |some p =>
     rcases p with ⟨t,w⟩
     simp only[tu];rw[he t (by simp[ej,hc])]
   have mkI:∀{G':Heap} {G'':Heap},Uu pg call i.o aN G'=some (.val vi G'')->kE pg call i aN G'=some (put aN i.d vi,G''):=by
    intro G' G'' h;unfold kE;rw[hg aN hri];dsimp only;rw[h]
   have mkJ:∀{G':Heap} {G'':Heap},Uu pg call j.o aN G'=some (.val vj G'')->kE pg call j (put aN i.d vi) G'=some (put (put aN i.d vi) j.d vj,G''):=by
    intro G' G'' h;unfold kE;rw[hgj _ hrj];dsimp only;rw[<- qN (aN:=aN) λt ht=>hrj t (by simp[ej,ht]),h]
   have readThenWrite:∀{x:Nat},bg j.o=.reader x->(∀u,lk aN x=some u->∀id:Nat,id∈Vc u->id<G.length->WX G2[id]? G[id]?)->∃e1' G1' F',kE pg call i aN G=some (e1',G1')/\kE pg call j e1' G1'=some (F',G2)/\zu F' (put (put aN j.d vj) i.d vi):=by
    intro x hk ha;obtain⟨v,e,hall⟩:=Wl hk oj;cases e;exact⟨_,_,_,mkI oi',mkJ (hall G2 ha),hfin⟩
   have writeThenRead:∀{x:Nat},bg i.o=.reader x->(∀u,lk aN x=some u->∀id:Nat,id∈Vc u->WX G[id]? G1[id]?)->∃e1' G1' F',kE pg call i aN G=some (e1',G1')/\kE pg call j e1' G1'=some (F',G2)/\zu F' (put (put aN j.d vj) i.d vi):=by
    intro x hk ha;obtain⟨v,e,hall⟩:=Wl hk oi';cases e;exact⟨_,_,_,mkI (hall G (λu hu id hid _=>ha u hu id hid)),mkJ oj,hfin⟩
   have hG1:∀{x:Nat},bg j.o=.reader x->G1=G:=by
    intro x hk;obtain⟨v,e,_⟩:=Wl hk oj;cases e;rfl
   have hlow:∀{x:Nat},qK.low x∈cs->∀u,lk aN x=some u->∀id:Nat,id∈Vc u->id<G.length:=by
    intro x hx u hu id hid;have:=hcs _ hx;simp only[VS,hu,bc]at this;have:=bJ.mp (this id hid);omega
   have hapart:∀{x y:Nat},qK.apart x y∈cs->∀u v,lk aN x=some u->lk aN y=some v->∀id:Nat,id∈Vc u->id∉Vc v:=by
    intro x y hx u v hu hv id hid hid';have:=hcs _ hx;simp only[VS,hu,hv,bc]at this;have:=this id hid id hid';simp at this
   have hquiet:∀{f:Nat} {ts:List Nat},qK.quiet f ts∈cs->mI pg f=true/\∀t,t∈ts->∀v,lk aN t=some v->bf 0 v=true:=by
    intro f ts hx;have:=hcs _ hx;simp only[VS,ab,bc,a_]at this;exact⟨this.1.1,λt ht v hv=>by have:=this.2 t ht;simpa [qM,hv] using this⟩
   have hclosed:∀{f:Nat} {ts:List Nat},qK.closed f ts∈cs->VS pg aN L (.closed f ts)=true:=λhx=>hcs _ hx;cases hkj:bg j.o with
   |im=>rw[hkj]at sj;simp[cN]at sj
   |bad =>
    rw[hkj]at hn;cases hki:bg i.o with
    |im=>rw[hki]at si;simp[cN]at si
    |_=>rw[hki]at hn;simp[dC]at hn
   |reader x =>
    have e:=hG1 hkj;subst e;rw[hkj]at hn;cases hki:bg i.o with
    |im=>rw[hki]at si;simp[cN]at si
    |bad=>rw[hki]at hn;simp[dC]at hn
    |reader y =>
     refine readThenWrite hkj λu hu id hid hlt=>?_;obtain⟨v,e,_⟩:=Wl hki oi';cases e;exact .refl _
    |writer y =>
     refine readThenWrite hkj λu hu id hid hlt=>tw hki oi' id hlt λt v ht hv=>?_;subst ht;rw[hki]at hn;simp[dC]at hn;exact hapart (x:=x) (y:=t) (by rw[<- hn];simp) u v hu hv id hid
    |alloc =>
     refine readThenWrite hkj λu hu id hid hlt=>?_;obtain⟨ob,rfl⟩:=uG hki oi';rw[List.getElem?_append_left hlt];exact .refl _
    |call f args =>
     rw[hki]at hn;simp[dC]at hn;have hc:=hclosed (f:=f) (ts:=sF args) (by rw[<- hn];simp);exact readThenWrite hkj λu hu id hid hlt=>tC hR hki oi' (λ_ _=>rfl) hc id hlt
   |alloc =>
    rw[hkj]at hn;obtain⟨ob,hob⟩:=uG hkj oj;cases hki:bg i.o with
    |im=>rw[hki]at si;simp[cN]at si
    |bad=>rw[hki]at hn;simp[dC]at hn
    |writer z=>rw[hki]at hn;cases z<;>simp[dC]at hn
    |alloc=>rw[hki]at hn;simp[dC]at hn
    |call f args =>
     rw[hki]at hn;simp[dC]at hn;obtain⟨q1,q2⟩:=hquiet (f:=f) (ts:=sF args) (by rw[<- hn];simp);obtain⟨e,hall⟩:=YB hR.1 hki oi' q1 q2;subst e;exact⟨_,_,_,mkI (hall G),mkJ oj,hfin⟩
    |reader x =>
     rw[hki]at hn;simp[dC]at hn;refine writeThenRead hki λu hu id hid=>?_;have:=hlow (x:=x) (by rw[<- hn];simp) u hu id hid;rw[hob,List.getElem?_append_left this];exact .refl _
   |writer y =>
    rw[hkj]at hn;cases hki:bg i.o with
    |alloc=>rw[hki]at hn;cases y<;>simp[dC]at hn
    |im=>rw[hki]at si;simp[cN]at si
    |bad=>rw[hki]at hn;cases y<;>simp[dC]at hn
    |writer z=>rw[hki]at hn;cases y<;>simp[dC]at hn
    |call f args=>rw[hki]at hn;cases y<;>simp[dC]at hn
    |reader x =>
     rw[hki]at hn;refine writeThenRead hki λu hu id hid=>(tw hkj oj id (hlow (x:=x) ?_ u hu id hid) λt v ht hv=>?_).symm
     ·cases y<;>(simp[dC]at hn;rw[<- hn];simp)
     ·subst ht;simp[dC]at hn;exact hapart (x:=x) (y:=t) (by rw[<- hn];simp) u v hu hv id hid
   |call f args =>
    rw[hkj]at hn;cases hki:bg i.o with
    |im=>rw[hki]at si;simp[cN]at si
    |bad=>rw[hki]at hn;simp[dC]at hn
    |writer z=>rw[hki]at hn;simp[dC]at hn
    |call f args=>rw[hki]at hn;simp[dC]at hn
    |alloc =>
     rw[hki]at hn;simp[dC]at hn;obtain⟨q1,q2⟩:=hquiet (f:=f) (ts:=sF args) (by rw[<- hn];simp);obtain⟨e,hall⟩:=YB hR.1 hkj oj q1 q2;subst e;exact⟨_,_,_,mkI oi',mkJ (hall G2),hfin⟩
    |reader x =>
     rw[hki]at hn;simp[dC]at hn;have hc:=hclosed (f:=f) (ts:=sF args) (by rw[<- hn];simp);exact writeThenRead hki λu hu id hid=>(tC hR hkj oj (λ_ _=>rfl) hc id (hlow (x:=x) (by rw[<- hn];simp) u hu id hid)).symm
def yv (c:CI)(rest:List CI):Prop:=cN (bg c.o)=false->∀t,t∈ej c->∀c',c'∈rest->c'.d≠some t
theorem EH (hR:ir pg call){i:CI}{q:List CI}{L:Nat}:∀(p:List CI) {aN:Env} {G:Heap} {F:Env} {G2:Heap},L<=G.length->uf pg call (p++i::q) aN G=some (F,G2) ->
  yv i (p++i::q)->(∀a j b,p=a++j::b->yv j (j::b++i::q))->(∀j,j∈p->GO pg F L j i)->∃F',uf pg call (i::p++q) aN G=some (F',G2)/\zu F' F
 |[],aN,G,F,G2,hL,h,hi,hp,hf=>⟨F,h,λ_=>rfl⟩
 |j::p,aN,G,F,G2,hL,h,hi,hp,hf=>by
  simp only[aH,uf]at h;split at h
  ·cases h
  ·rename_i e1 G1 hj;have hL1:L<=G1.length:=cm hL (YC hj);obtain⟨F1,h1,hF1⟩:=EH hR p hL1 h (λhs t ht c' hc'=>hi hs t ht c' (by simp only[aH,aA];exact .inr hc')) (λa j' b e=>hp (j::a) j' b (by rw[e];rfl)) (λj' hj'=>hf j' (by simp[hj']));simp only[aH,uf]at h1;split at h1
   ·cases h1
   ·rename_i e2 G3 hi';have hfj:=hf j (by simp);have hwhole:uf pg call (j::i::(p++q)) aN G=some (F1,G2):=by simp only[uf];rw[hj];dsimp only;rw[hi'];exact h1
    have hlkj:cN (bg j.o)=false->∀t,t∈ej j->lk aN t=lk F t:=by
     intro hs t ht;rw[<- hF1 t];refine(uH hwhole t λc hc=>?_).symm;refine hp [] j p rfl hs t ht c ?_;simp only[aA,Uz]at hc ⊢;rcases hc with rfl|rfl|hc|hc
     ·simp
     ·simp
     ·simp[hc]
     ·simp[hc]
    have hlki:cN (bg i.o)=false->∀t,t∈ej i->lk aN t=lk F t:=by
     intro hs t ht;rw[<- hF1 t];refine(uH hwhole t λc hc=>?_).symm;refine hi hs t ht c ?_;simp only[aH,aA,Uz]at hc ⊢;rcases hc with rfl|rfl|hc|hc
     ·simp
     ·simp
     ·simp[hc]
     ·simp[hc]
    have hfree:GO pg aN L j i:=by
     refine⟨hfj.dst,hfj.ji,hfj.ij,?_⟩;obtain⟨cs,hn,hcs⟩:=hfj.VB;refine⟨cs,hn,λc hc=>?_⟩;obtain⟨s1,s2,s3⟩:=Bu hn hc;rw[XT (F:=F) (λt ht=>?_)]
     ·exact hcs c hc
     ·rcases s3 t ht with h|h
      ·exact hlkj s1 t (by simp[ej,h])
      ·exact hlki s2 t (by simp[ej,h])
    obtain⟨e1',G1',F',a1,a2,a3⟩:=swap hR hL hj hi' hfree;obtain⟨F2,b1,b2⟩:=Yk h1 a3;refine⟨F2,?_,λt=>(b2 t).trans (hF1 t)⟩;simp only[aH,uf];rw[a1];dsimp only;rw[a2];exact b1
end
end Go.Proofs.Z
