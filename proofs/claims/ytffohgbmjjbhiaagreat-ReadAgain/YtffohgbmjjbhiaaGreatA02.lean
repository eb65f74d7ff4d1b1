/- A part of the proof. -/
import Derived.Test.YtffohgbmjjbhiaaGreatA01
set_option linter.all false
section
namespace Go.Proofs.Z
open Go
def sub {α:Type}(ids:List Nat)(f:Nat→Option α):Nat→Option α:=fun k=>(ids[k]?).bind f
structure IdsOK (μ:Mu)(ids:List Nat):Prop where
 nodup:ids.Nodup
 mapped:∀ id,id∈ids→∃ loc,μ id=some loc
theorem idxOf_some {ids:List Nat}{id k:Nat}(h:idxOf ids id=some k):ids[k]?=some id:=by
 induction ids generalizing k with
 |nil=>simp[idxOf]at h
 |cons x r ih =>
  simp only[idxOf]at h
  split at h
  ·rename_i e;cases h;simp[e]
  ·cases hr:idxOf r id with
   |none=>rw[hr]at h;simp at h
   |some j=>rw[hr]at h;simp at h;subst h;simpa using ih hr
theorem idxOf_none {ids:List Nat}{id:Nat}(h:idxOf ids id=none):id∉ids:=by
 induction ids with
 |nil=>simp
 |cons x r ih =>
  simp only[idxOf]at h
  split at h
  ·cases h
  ·rename_i e
   cases hr:idxOf r id with
   |none=>simp;exact ⟨fun h=>e h.symm,ih hr⟩
   |some j=>rw[hr]at h;simp at h
theorem idxOf_at {ids:List Nat}(hn:ids.Nodup){id k:Nat}(h:ids[k]?=some id):idxOf ids id=some k:=by
 cases hi:idxOf ids id with
 |none=>exact absurd (List.mem_iff_getElem?.2 ⟨k,h⟩) (idxOf_none hi)
 |some j =>
  have h2:=idxOf_some hi
  have h3:=(gE h).1
  rw[(List.getElem?_inj h3 hn).1 (h.trans h2.symm)]
theorem sub_ext {m m':Mem}{μ:Mu}{i i':Inf}{ids:List Nat}(l:List Nat)(h:ExtI m μ i m' μ i'):ExtI m (sub ids μ) (sub ids i) m' (sub (ids++l) μ) (sub (ids++l) i'):=by
 have hp:∀ k x,ids[k]?=some x→(ids++l)[k]?=some x:=fun k x hk=>by rw[List.getElem?_append_left (gE hk).1];exact hk
 refine ⟨h.mem,fun k loc h1 h2=>?_,fun k loc g sz h1 h2=>?_⟩
 ·unfold sub at h1 h2 ⊢
  cases hk:ids[k]? with
  |none=>rw[hk]at h1;cases h1
  |some x =>
   rw[hk]at h1 h2
   rw[hp k x hk]
   exact h.box x loc h1 h2
 ·unfold sub at h1 h2 ⊢
  cases hk:ids[k]? with
  |none=>rw[hk]at h1;cases h1
  |some x =>
   rw[hk]at h1 h2
   rw[hp k x hk]
   exact h.arr x loc g sz h1 h2
theorem ExtI.refl (m:Mem)(μ:Mu)(i:Inf):ExtI m μ i m μ i :=
 ⟨fun _ _ _ h=>h,fun _ _ h h'=>⟨h,h'⟩,fun _ loc g _ h h'=>⟨loc,g,h,h',Nat.le_refl _,fun _=>rfl⟩⟩
theorem Exp.id_spec {e e':Exp}{id k:Nat}(h:e.id id=(k,e')):e'.G=e.G∧e'.ids[k]?=some id∧(∃ l,e'.ids=e.ids++l)∧∀ μ:Mu,IdsOK μ e.ids→(∃ loc,μ id=some loc)→IdsOK μ e'.ids:=by
 unfold Exp.id at h
 cases hi:idxOf e.ids id with
 |some j =>
  rw[hi]at h
  cases h
  exact ⟨rfl,idxOf_some hi,⟨[],by simp⟩,fun μ h _=>h⟩
 |none =>
  rw[hi]at h
  cases h
  refine ⟨rfl,by simp,⟨[id],rfl⟩,fun μ h hm=>⟨?_,?_⟩⟩
  ·rw[List.nodup_append]
   refine ⟨h.nodup,by simp,fun a ha b hb=>?_⟩
   simp at hb
   subst hb
   exact fun e=>idxOf_none hi (e ▸ ha)
  ·intro x hx
   rcases List.mem_append.1 hx with h1|h1
   ·exact h.mapped x h1
   ·simp at h1;subst h1;exact hm
structure ExpOK (μ:Mu)(w:World)(m:Mem)(e:Exp)(m':Mem)(e':Exp):Prop where
 inv:Inv m' μ e'.G w
 stp:Stp m μ e.G w m' μ e'.G w
 ids:∃ l,e'.ids=e.ids++l
 ok:IdsOK μ e'.ids
theorem ExpOK.trans {μ:Mu}{w:World}{m m' m'':Mem}{e e' e'':Exp}(h:ExpOK μ w m e m' e')(h':ExpOK μ w m' e' m'' e''):ExpOK μ w m e m'' e'':=by
 obtain ⟨l,hl⟩:=h.ids
 obtain ⟨l',hl'⟩:=h'.ids
 exact ⟨h'.inv,h.stp.trans h'.stp,⟨l++l',by rw[hl',hl,List.append_assoc]⟩,h'.ok⟩
theorem ExpOK.ext {μ:Mu}{w:World}{m m':Mem}{e e':Exp}(h:ExpOK μ w m e m' e'):ExtI m (sub e.ids μ) (sub e.ids (inf e.G)) m' (sub e'.ids μ) (sub e'.ids (inf e'.G)):=by
 obtain ⟨l,hl⟩:=h.ids
 rw[hl]
 exact sub_ext l h.stp.ext
theorem ExpOK.refl {μ:Mu}{w:World}{m:Mem}{e:Exp}(h:Inv m μ e.G w)(hk:IdsOK μ e.ids):ExpOK μ w m e m e:=⟨h,.refl _ _ _ _,⟨[],by simp⟩,hk⟩
theorem RL.monoI {m m':Mem}{μ μ':Mu}{i i':Inf}(h:ExtI m μ i m' μ' i'){vs:List Value}{l:List AV}(hr:RL m μ i vs l):RL m' μ' i' vs l :=
 ⟨hr.1,fun j v c h1 h2=>(hr.2 j v c h1 h2).monoI h⟩
theorem ExpOK.id {μ:Mu}{w:World}{m:Mem}{e e':Exp}{id k:Nat}(h:e.id id=(k,e'))(hI:Inv m μ e.G w)(hk:IdsOK μ e.ids)(hm:∃ loc,μ id=some loc):ExpOK μ w m e m e':=by
 obtain ⟨h1,h2,h3,h4⟩:=Exp.id_spec h
 exact ⟨by rw[h1];exact hI,by rw[h1];exact .refl _ _ _ _,h3,h4 μ hk hm⟩
theorem R.fnInv {m:Mem}{μ:Mu}{i:Inf}{v:Value}{f:Nat}{x y:List AV}(h:R m μ i v (.fn f x y)):∃ a b,v=.func (.func f) a b∧RL m μ i a.toList x∧RL m μ i b.toList y:=by
 cases h with|fn f a a' b b' ha hb hra hrb=>exact ⟨a,b,rfl,.ofArr ha hra,.ofArr hb hrb⟩
theorem R.fnOf {m:Mem}{μ:Mu}{i:Inf}{f:Nat}{a b:Array Value}{x y:List AV}(ha:RL m μ i a.toList x)(hb:RL m μ i b.toList y):R m μ i (.func (.func f) a b) (.fn f x y) :=
 .fn f a x b y (by simpa using ha.1) (by simpa using hb.1) (fun j v c h1 h2=>ha.2 j v c (by simpa using h1) h2) (fun j v c h1 h2=>hb.2 j v c (by simpa using h1) h2)
mutual
theorem exp_sound {μ:Mu}{w:World}(keep:Bool):∀ (a:AV) {m:Mem} {e e':Exp} {a':AV} {z:Value},Inv m μ e.G w→IdsOK μ e.ids→exp keep e a=some (a',e')→R m μ (inf e.G) z a →
  ∃ m',ExpOK μ w m e m' e'∧R m' (sub e'.ids μ) (sub e'.ids (inf e'.G)) z a'∧(keep=true→e'.G=e.G∧m'=m)
 |.p x,m,e,e',a',z,hI,hk,h,hr=>by
  simp[exp]at h
  obtain ⟨rfl,rfl⟩:=h
  cases hr with|p _ _ hp=>exact ⟨m,.refl hI hk,.p _ _ hp,fun _=>⟨rfl,rfl⟩⟩
 |.nils,m,e,e',a',z,hI,hk,h,hr=>by
  cases hr
  simp only[exp]at h
  split at h
  ·cases h;exact ⟨m,.refl hI hk,.nils,fun _=>⟨rfl,rfl⟩⟩
  ·rename_i hkk
   cases h
   exact ⟨m,.refl hI hk,.p _ _ (.sl none 0 [] 0 (fun _ _=>undef) (Nat.le_refl _) rfl (fun h=>absurd rfl h) (fun i j r c h=>by simp at h)),fun h=>absurd h hkk⟩
 |.undef,m,e,e',a',z,hI,hk,h,hr=>by
  simp[exp]at h
  obtain ⟨rfl,rfl⟩:=h
  cases hr
  exact ⟨m,.refl hI hk,.undef,fun _=>⟨rfl,rfl⟩⟩
 |.rp cs,m,e,e',a',z,hI,hk,h,hr=>by
  simp[exp]at h
  obtain ⟨rfl,rfl⟩:=h
  cases hr with|rp b o cells f hc=>exact ⟨m,.refl hI hk,.rp b o cs f hc,fun _=>⟨rfl,rfl⟩⟩
 |.arr id len gen,m,e,e',a',z,hI,hk,h,hr=>by
  simp only[exp]at h
  split at h
  ·cases hid:e.id id with|mk k e1 =>
   rw[hid]at h
   cases h
   cases hr with|arr _ _ _ ad n c loc g sz h1 h2 h3 h4 =>
   obtain ⟨g1,g2,g3,g4⟩:=Exp.id_spec hid
   refine ⟨m,.id hid hI hk ⟨loc,h1⟩,.arr k len gen ad n c loc g sz ?_ ?_ h3 h4,fun _=>⟨g1,rfl⟩⟩
   ·simp[sub,g2,h1]
   ·simp[sub,g2,g1,h2]
  ·rename_i hkk
   split at h
   ·rename_i v G1 hn
    cases h
    obtain ⟨m',hI',hS,hr'⟩:=norm_sound (.arr id len gen) hI hn hr
    refine ⟨m',⟨hI',hS,⟨[],by simp⟩,hk⟩,?_,fun h=>absurd h hkk⟩
    simp only[norm]at hn
    split at hn
    ·split at hn
     ·cases hn
      cases hr' with|p _ _ hp=>exact .p _ _ hp
     ·cases hn
    ·cases hn
   ·cases h
 |.ptr id off,m,e,e',a',z,hI,hk,h,hr=>by
  simp only[exp]at h
  cases hid:e.id id with|mk k e1 =>
  rw[hid]at h
  cases h
  cases hr with|ptr _ _ loc h1 h2 =>
  obtain ⟨g1,g2,g3,g4⟩:=Exp.id_spec hid
  exact ⟨m,.id hid hI hk ⟨loc,h1⟩,.ptr k off loc (by simp[sub,g2,h1]) (by simp[sub,g2,g1,h2]),fun _=>⟨g1,rfl⟩⟩
 |.eptr id idx off gen,m,e,e',a',z,hI,hk,h,hr=>by
  simp only[exp]at h
  cases hid:e.id id with|mk k e1 =>
  rw[hid]at h
  cases h
  cases hr with|eptr _ _ _ _ ad loc g sz h1 h2 h3 h4 =>
  obtain ⟨g1,g2,g3,g4⟩:=Exp.id_spec hid
  exact ⟨m,.id hid hI hk ⟨loc,h1⟩,.eptr k idx off gen ad loc g sz (by simp[sub,g2,h1]) (by simp[sub,g2,g1,h2]) h3 h4,fun _=>⟨g1,rfl⟩⟩
 |.ag cs,m,e,e',a',z,hI,hk,h,hr=>by
  simp only[exp]at h
  split at h
  ·rename_i vs e1 hn
   cases h
   obtain ⟨ca,rfl,h1,h2⟩:=hr.ag_inv
   obtain ⟨m',hx,hr',hkk⟩:=expL_sound keep cs hI hk hn (RL.ofArr h1 h2)
   exact ⟨m',hx,.agOf hr',hkk⟩
  ·cases h
 |.tup cs,m,e,e',a',z,hI,hk,h,hr=>by
  simp only[exp]at h
  split at h
  ·rename_i vs e1 hn
   cases h
   obtain ⟨ca,rfl,h1,h2⟩:=hr.tup_inv
   obtain ⟨m',hx,hr',hkk⟩:=expL_sound keep cs hI hk hn (RL.ofArr h1 h2)
   exact ⟨m',hx,.tupOf hr',hkk⟩
  ·cases h
 |.ifc t x,m,e,e',a',z,hI,hk,h,hr=>by
  simp only[exp]at h
  split at h
  ·rename_i y e1 hn
   cases h
   cases hr with|ifc _ z' _ hr =>
   obtain ⟨m',hx,hr',hkk⟩:=exp_sound keep x hI hk hn hr
   exact ⟨m',hx,.ifc _ _ _ hr',hkk⟩
  ·cases h
 |.fn f x y,m,e,e',a',z,hI,hk,h,hr=>by
  simp only[exp]at h
  split at h
  ·cases h
  ·rename_i x' e1 hx
   split at h
   ·cases h
   ·rename_i y' e2 hy
    cases h
    obtain ⟨a,b,rfl,ha,hb⟩:=hr.fnInv
    obtain ⟨m1,hx1,hr1,hk1⟩:=expL_sound true x hI hk hx ha
    obtain ⟨m2,hx2,hr2,hk2⟩:=expL_sound true y hx1.inv hx1.ok hy (hb.mono hx1.stp.ext)
    obtain ⟨e1G,rfl⟩:=hk1 rfl
    obtain ⟨e2G,rfl⟩:=hk2 rfl
    exact ⟨m2,hx1.trans hx2,.fnOf (hr1.monoI hx2.ext) hr2,fun _=>⟨e2G.trans e1G,rfl⟩⟩
theorem expL_sound {μ:Mu}{w:World}(keep:Bool):∀ (l:List AV) {m:Mem} {e e':Exp} {l':List AV} {zs:List Value},Inv m μ e.G w→IdsOK μ e.ids→expL keep e l=some (l',e')→RL m μ (inf e.G) zs l →
  ∃ m',ExpOK μ w m e m' e'∧RL m' (sub e'.ids μ) (sub e'.ids (inf e'.G)) zs l'∧(keep=true→e'.G=e.G∧m'=m)
 |[],m,e,e',l',zs,hI,hk,h,hr=>by
  simp[expL]at h
  obtain ⟨rfl,rfl⟩:=h
  rw[hr.inv_nil]
  exact ⟨m,.refl hI hk,.nil,fun _=>⟨rfl,rfl⟩⟩
 |a::r,m,e,e',l',zs,hI,hk,h,hr=>by
  simp only[expL]at h
  split at h
  ·cases h
  ·rename_i v e1 hn
   split at h
   ·cases h
   ·rename_i vs e2 hn2
    cases h
    obtain ⟨z,zs,rfl,hz,hr⟩:=hr.inv_cons
    obtain ⟨m1,hx1,hz1,hk1⟩:=exp_sound keep a hI hk hn hz
    obtain ⟨m2,hx2,hr2,hk2⟩:=expL_sound keep r hx1.inv hx1.ok hn2 (hr.mono hx1.stp.ext)
    refine ⟨m2,hx1.trans hx2,.cons (hz1.monoI hx2.ext) hr2,fun h=>?_⟩
    obtain ⟨a1,a2⟩:=hk1 h
    obtain ⟨b1,b2⟩:=hk2 h
    exact ⟨b1.trans a1,b2.trans a2⟩
end
theorem exp_flat {keep:Bool}:∀ {a a':AV} {e e':Exp},exp keep e a=some (a',e')→a.flat=true→a'.flat=true:=by
 intro a a' e e' h hf
 cases a with
 |p x=>simp[exp]at h;obtain ⟨rfl,_⟩:=h;exact hf
 |nils=>simp only[exp]at h;split at h<;>(cases h;rfl)
 |undef=>simp[AV.flat]at hf
 |rp cs=>simp[exp]at h;obtain ⟨rfl,_⟩:=h;rfl
 |arr id len gen =>
  simp only[exp]at h
  split at h
  ·cases h;rfl
  ·split at h
   ·rename_i v G1 hn
    cases h
    simp only[norm]at hn
    split at hn
    ·split at hn
     ·cases hn;rfl
     ·cases hn
    ·cases hn
   ·cases h
 |ptr=>simp only[exp]at h;cases h;rfl
 |eptr=>simp only[exp]at h;cases h;rfl
 |ag=>simp[AV.flat]at hf
 |tup=>simp[AV.flat]at hf
 |ifc t x=>simp only[exp]at h;split at h<;>first|(cases h;rfl)|cases h
 |fn f x y =>
  simp only[exp]at h
  split at h
  ·cases h
  ·split at h
   ·cases h
   ·cases h;rfl
theorem expL_flat {keep:Bool}:∀ {l l':List AV} {e e':Exp},expL keep e l=some (l',e')→l.all AV.flat=true→l'.all AV.flat=true
 |[],l',e,e',h,hf=>by simp[expL]at h;obtain ⟨rfl,_⟩:=h;rfl
 |a::r,l',e,e',h,hf=>by
  simp only[expL]at h
  split at h
  ·cases h
  ·rename_i v e1 hn
   split at h
   ·cases h
   ·rename_i vs e2 hn2
    cases h
    simp only[List.all_cons,Bool.and_eq_true]at hf ⊢
    exact ⟨exp_flat hn hf.1,expL_flat hn2 hf.2⟩
structure ObjsOK (μ:Mu)(w:World)(m:Mem)(e:Exp)(k:Nat)(os:Heap)(e':Exp):Prop where
 G:e'.G=e.G
 ids:∃ l,e'.ids=e.ids++l
 ok:IdsOK μ e'.ids
 len:e'.ids.length=k+os.length
 obj:∀ (j:Nat) (o:AObj),os[j]?=some o→∃ id o0,e'.ids[k+j]?=some id∧e.G[id]?=some o0∧infO o=infO o0∧∀ loc,μ id=some loc→ObjR m (sub e'.ids μ) (sub e'.ids (inf e.G)) w loc o
theorem expObjs_sound {μ:Mu}{w:World}{m:Mem}:∀ (fuel:Nat) {e e':Exp} {k:Nat} {os:Heap},Inv m μ e.G w→IdsOK μ e.ids→k≤e.ids.length→eOs fuel e k=some (os,e')→ObjsOK μ w m e k os e'
 |0,e,e',k,os,hI,hk,hle,h=>by
  simp only[eOs]at h
  split at h
  ·cases h
  ·cases h
   exact ⟨rfl,⟨[],by simp⟩,hk,by simp;omega,fun j o h=>by simp at h⟩
 |fuel+1,e,e',k,os,hI,hk,hle,h=>by
  simp only[eOs]at h
  split at h
  ·rename_i hn
   cases h
   have:=List.getElem?_eq_none_iff.1 hn
   exact ⟨rfl,⟨[],by simp⟩,hk,by simp;omega,fun j o h=>by simp at h⟩
  ·rename_i id hid
   have hlt:k<e.ids.length:=(gE hid).1
   split at h
   ·cases h
   ·rename_i sz rows g sl hG
    split at h
    ·cases h
    ·rename_i os' e1 hr
     cases h
     have r:=expObjs_sound fuel hI hk hlt hr
     obtain ⟨l,hl⟩:=r.ids
     refine ⟨r.G,r.ids,r.ok,by rw[r.len];simp;omega,fun j o hj=>?_⟩
     cases j with
     |zero =>
      simp at hj
      subst hj
      refine ⟨id,_,by rw[hl,Nat.add_zero,List.getElem?_append_left hlt];exact hid,hG,rfl,fun loc hloc=>?_⟩
      exact hI.obj id _ hG loc hloc
     |succ j =>
      simp at hj
      have:=r.obj j o hj
      rwa [show k+1+j=k+(j+1) by omega]at this
   ·rename_i cs hG
    split at h
    ·cases h
    ·rename_i cs' e1 hx
     split at h
     ·cases h
     ·rename_i os' e2 hr
      cases h
      have hE:∀ zs,RL m μ (inf e.G) zs cs→∃ m',ExpOK μ w m e m' e1∧RL m' (sub e1.ids μ) (sub e1.ids (inf e1.G)) zs cs'∧(true=true→e1.G=e.G∧m'=m):=fun zs hz=>expL_sound true cs hI hk hx hz
      have hmap:∃ loc,μ id=some loc:=hk.mapped id (List.mem_iff_getElem?.2 ⟨k,hid⟩)
      obtain ⟨loc,hloc⟩:=hmap
      obtain ⟨ca,T,h1,h2,h3,h4,h5⟩:=hI.obj id _ hG loc hloc
      obtain ⟨m',hx1,hr1,hkk⟩:=hE ca.toList (.ofArr h2 h3)
      obtain ⟨hG1,rfl⟩:=hkk rfl
      obtain ⟨l1,hl1⟩:=hx1.ids
      have hlt1:k<e1.ids.length:=by rw[hl1];simp;omega
      have r:=expObjs_sound fuel hx1.inv hx1.ok hlt1 hr
      obtain ⟨l,hl⟩:=r.ids
      refine ⟨r.G.trans hG1,⟨l1++l,by rw[hl,hl1,List.append_assoc]⟩,r.ok,by rw[r.len];simp;omega,fun j o hj=>?_⟩
      cases j with
      |zero =>
       simp at hj
       subst hj
       refine ⟨id,_,by rw[hl,hl1,Nat.add_zero,List.append_assoc,List.getElem?_append_left hlt];exact hid,hG,rfl,fun loc' hloc'=>?_⟩
       rw[hloc]at hloc'
       cases hloc'
       have hr2:RL m' (sub e'.ids μ) (sub e'.ids (inf e.G)) ca.toList cs':=by
        rw[hl,← hG1]
        exact hr1.monoI (sub_ext l (.refl _ _ _))
       exact ⟨ca,T,h1,by simpa using hr2.1,fun j v a g1 g2=>hr2.2 j v a (by simpa using g1) g2,expL_flat hx h4,h5⟩
      |succ j =>
       simp at hj
       obtain ⟨id',o0,a1,a2,a3,a4⟩:=r.obj j o hj
       rw[show k+1+j=k+(j+1) by omega]at a1
       exact ⟨id',o0,a1,by rw[← hG1];exact a2,a3,fun loc hl=>by rw[← hG1];exact a4 loc hl⟩
theorem expObjs_inv {μ:Mu}{w:World}{m:Mem}{fuel:Nat}{e e':Exp}{os:Heap}(hI:Inv m μ e.G w)(hk:IdsOK μ e.ids)(h:eOs fuel e 0=some (os,e')) :
  Inv m (sub e'.ids μ) os w∧(∀ k,k<os.length→∃ l,sub e'.ids μ k=some l)∧inf os=sub e'.ids (inf e.G)∧e'.G=e.G∧(∃ l,e'.ids=e.ids++l)∧IdsOK μ e'.ids∧e'.ids.length=os.length:=by
 have r:=expObjs_sound fuel hI hk (Nat.zero_le _) h
 have hlen:e'.ids.length=os.length:=by rw[r.len];omega
 have hinf:inf os=sub e'.ids (inf e.G):=by
  funext k
  unfold inf sub
  by_cases hlt:k<os.length
  ·obtain ⟨id,o0,a1,a2,a3,a4⟩:=r.obj k _ (gG hlt)
   simp at a1
   rw[a1,gG hlt]
   simp[a2,a3]
  ·rw[List.getElem?_eq_none (by omega),List.getElem?_eq_none (by omega)];rfl
 refine ⟨⟨hI.known,?_,?_,?_⟩,?_,hinf,r.G,r.ids,r.ok,hlen⟩
 ·intro i j l l' h1 h2 he
  unfold sub at h1 h2
  cases hi:e'.ids[i]? with
  |none=>rw[hi]at h1;cases h1
  |some x =>
   cases hj:e'.ids[j]? with
   |none=>rw[hj]at h2;cases h2
   |some y =>
    rw[hi]at h1
    rw[hj]at h2
    have hxy:=hI.inj x y l l' h1 h2 he
    subst hxy
    exact (List.getElem?_inj (gE hi).1 r.ok.nodup).1 (hi.trans hj.symm)
 ·intro k o hko loc hloc
  obtain ⟨id,o0,a1,a2,a3,a4⟩:=r.obj k o hko
  simp at a1
  unfold sub at hloc
  rw[a1]at hloc
  rw[hinf]
  exact a4 loc hloc
 ·intro k loc hloc
  unfold sub at hloc
  cases hi:e'.ids[k]? with
  |none=>rw[hi]at hloc;cases hloc
  |some x=>rw[← hlen];exact (gE hi).1
 ·intro k hlt
  have:k<e'.ids.length:=by omega
  unfold sub
  rw[gG this]
  exact r.ok.mapped _ (List.getElem_mem this)
def Ren (μ:Mu)(i:Inf)(μ':Mu)(i':Inf)(r:Nat→Nat):Prop:=∀ id loc,μ id=some loc→μ' (r id)=some loc∧i' (r id)=i id
mutual
theorem back_sound {m:Mem}{μ μ':Mu}{i i':Inf}{ids:List Nat}{base:Nat}(h:Ren μ i μ' i' (backId ids base)):∀ (a:AV) {z:Value},R m μ i z a→R m μ' i' z (back ids base a)
 |.p x,z,hr=>by cases hr with|p _ _ hp=>exact .p _ _ hp
 |.nils,z,hr=>by cases hr;exact .nils
 |.undef,z,hr=>by cases hr;exact .undef
 |.rp cs,z,hr=>by cases hr with|rp b o cells f hc=>exact .rp b o cs f hc
 |.arr id len gen,z,hr=>by
  cases hr with|arr _ _ _ ad n c loc g sz h1 h2 h3 h4 =>
  obtain ⟨a1,a2⟩:=h id loc h1
  exact .arr _ len gen ad n c loc g sz a1 (a2.trans h2) h3 h4
 |.ptr id off,z,hr=>by
  cases hr with|ptr _ _ loc h1 h2 =>
  obtain ⟨a1,a2⟩:=h id loc h1
  exact .ptr _ off loc a1 (a2.trans h2)
 |.eptr id idx off gen,z,hr=>by
  cases hr with|eptr _ _ _ _ ad loc g sz h1 h2 h3 h4 =>
  obtain ⟨a1,a2⟩:=h id loc h1
  exact .eptr _ idx off gen ad loc g sz a1 (a2.trans h2) h3 h4
 |.ag cs,z,hr=>by
  obtain ⟨ca,rfl,h1,h2⟩:=hr.ag_inv
  exact .agOf (backL_sound h cs (RL.ofArr h1 h2))
 |.tup cs,z,hr=>by
  obtain ⟨ca,rfl,h1,h2⟩:=hr.tup_inv
  exact .tupOf (backL_sound h cs (RL.ofArr h1 h2))
 |.ifc t x,z,hr=>by
  cases hr with|ifc _ z' _ hr=>exact .ifc _ _ _ (back_sound h x hr)
 |.fn f x y,z,hr=>by
  obtain ⟨a,b,rfl,ha,hb⟩:=hr.fnInv
  exact .fnOf (backL_sound h x ha) (backL_sound h y hb)
theorem backL_sound {m:Mem}{μ μ':Mu}{i i':Inf}{ids:List Nat}{base:Nat}(h:Ren μ i μ' i' (backId ids base)):∀ (l:List AV) {zs:List Value},RL m μ i zs l→RL m μ' i' zs (backL ids base l)
 |[],zs,hr=>by rw[hr.inv_nil];exact .nil
 |a::r,zs,hr=>by
  obtain ⟨z,zs,rfl,hz,hr⟩:=hr.inv_cons
  exact .cons (back_sound h a hz) (backL_sound h r hr)
end
theorem back_flat {ids:List Nat}{base:Nat}(a:AV):(back ids base a).flat=a.flat:=by cases a<;>rfl
theorem backL_flat {ids:List Nat}{base:Nat}:∀ (l:List AV),(backL ids base l).all AV.flat=l.all AV.flat
 |[]=>rfl
 |a::r=>by simp[backL,back_flat,backL_flat r]
theorem infO_back {ids:List Nat}{base:Nat}(o:AObj):infO (backObj ids base o)=infO o:=by cases o<;>rfl
theorem backObj_sound {m:Mem}{μ μ':Mu}{i i':Inf}{ids:List Nat}{base:Nat}{w:World}{loc:Loc}(h:Ren μ i μ' i' (backId ids base)){o:AObj}(ho:ObjR m μ i w loc o):ObjR m μ' i' w loc (backObj ids base o):=by
 cases o with
 |box cells =>
  obtain ⟨cs,T,h1,h2,h3,h4,h5⟩:=ho
  have:=backL_sound h cells (RL.ofArr h2 h3)
  exact ⟨cs,T,h1,by simpa using this.1,fun j v a g1 g2=>this.2 j v a (by simpa using g1) g2,by rw[backL_flat];exact h4,h5⟩
 |arr sz rows g sl=>exact ho
theorem setAll_length {ids:List Nat}{base:Nat}:∀ (l:List Nat) (G os:Heap),(setAll ids base G l os).length=G.length
 |[],G,os=>by simp[setAll]
 |id::r,G,[]=>by simp[setAll]
 |id::r,G,o::os=>by simp[setAll,setAll_length r]
theorem setAll_other {ids:List Nat}{base:Nat}:∀ (l:List Nat) (G os:Heap) (x:Nat),x∉l→(setAll ids base G l os)[x]?=G[x]?
 |[],G,os,x,h=>by simp[setAll]
 |id::r,G,[],x,h=>by simp[setAll]
 |id::r,G,o::os,x,h=>by
  simp only[List.mem_cons,not_or]at h
  simp only[setAll]
  rw[setAll_other r _ os x h.2,List.getElem?_set,if_neg (Ne.symm h.1)]
theorem setAll_at {ids:List Nat}{base:Nat}:∀ (l:List Nat) (G os:Heap) (k x:Nat) (o:AObj),l.Nodup→l[k]?=some x→x<G.length→os[k]?=some o→(setAll ids base G l os)[x]?=some (backObj ids base o)
 |[],G,os,k,x,o,hn,hk,hx,ho=>by simp at hk
 |id::r,G,[],k,x,o,hn,hk,hx,ho=>by simp at ho
 |id::r,G,o'::os,k,x,o,hn,hk,hx,ho=>by
  simp only[List.nodup_cons]at hn
  simp only[setAll]
  cases k with
  |zero =>
   simp at hk ho
   subst hk
   subst ho
   rw[setAll_other r _ os _ hn.1]
   simp[hx]
  |succ k =>
   simp at hk ho
   exact setAll_at r _ os k x o hn.2 hk (by simpa using hx) ho
def OutR (m:Mem)(μ:Mu)(i:Inf):Out→Ending→Prop
 |.ret a,.returned v=>R m μ i v a
 |.pan a,.panicked chain=>∃ v,chain=[{ v:=v,recovered:=false }]∧R m μ i v a
 |_,_=>False
theorem OutR.back {m:Mem}{μ μ':Mu}{i i':Inf}{ids:List Nat}{base:Nat}(h:Ren μ i μ' i' (backId ids base)){o:Out}{e:Ending}(ho:OutR m μ i o e):OutR m μ' i' (o.back ids base) e:=by
 cases o<;>cases e<;>first|exact back_sound h _ ho|exact ho.elim|skip
 obtain ⟨v,h1,h2⟩:=ho
 exact ⟨v,h1,back_sound h _ h2⟩
theorem back_step {m:Mem}{μ:Mu}{G os os':Heap}{w w':World}{ids:List Nat}{m':Mem}{μ2:Mu}(hI:Inv m μ G w)(hk:IdsOK μ ids)(hos:inf os=sub ids (inf G))(hlen:ids.length=os.length)
  (htot:∀ k,k<os.length→∃ l,sub ids μ k=some l) (hI':Inv m' μ2 os' w') (hS:Stp m (sub ids μ) os w m' μ2 os' w') :
  ∃ μ',Inv m' μ' (setAll ids G.length G ids os'++(os'.drop ids.length).map (backObj ids G.length)) w' ∧
   Stp m μ G w m' μ' (setAll ids G.length G ids os'++(os'.drop ids.length).map (backObj ids G.length)) w' ∧
   Ren μ2 (inf os') μ' (inf (setAll ids G.length G ids os'++(os'.drop ids.length).map (backObj ids G.length))) (backId ids G.length):=by
 generalize hG2:setAll ids G.length G ids os'++(os'.drop ids.length).map (backObj ids G.length)=G2
 let μ':Mu:=fun id=>match idxOf ids id with
  |some k=>μ2 k
  |none=>if id<G.length then μ id else μ2 (ids.length+(id-G.length))
 have hidlt:∀ id,id∈ids→id<G.length:=fun id hi=>let ⟨loc,hl⟩:=hk.mapped id hi;hI.dom id loc hl
 have hfirst:∀ k,k<ids.length→∃ l,μ2 k=some l:=fun k hlt=>by
  obtain ⟨l,hl⟩:=htot k (by omega)
  have hd:k<os.length:=by omega
  have hi:inf os k=some (infO os[k]):=by simp[inf,gG hd]
  cases ho:infO os[k] with
  |none=>rw[ho]at hi;exact ⟨_,(hS.ext.box k l hl hi).1⟩
  |some p =>
   rcases p with ⟨g,sz⟩
   rw[ho]at hi
   obtain ⟨loc',g',a1,_⟩:=hS.ext.arr k l g sz hl hi
   exact ⟨_,a1⟩
 have hlen':ids.length≤os'.length:=by
  rcases Nat.eq_zero_or_pos ids.length with h0|h0
  ·omega
  ·obtain ⟨l,hl⟩:=hfirst (ids.length-1) (by omega)
   have:=hI'.dom _ _ hl
   omega
 have hG2len:G2.length=G.length+(os'.length-ids.length):=by rw[← hG2];simp[setAll_length]
 have hat:∀ k x o,ids[k]?=some x→os'[k]?=some o→G2[x]?=some (backObj ids G.length o):=fun k x o h1 h2=>by
  have hx:=hidlt x (List.mem_iff_getElem?.2 ⟨k,h1⟩)
  rw[← hG2,List.getElem?_append_left (by rw[setAll_length];exact hx)]
  exact setAll_at ids G os' k x o hk.nodup h1 hx h2
 have hold:∀ x,x<G.length→x∉ids→G2[x]?=G[x]?:=fun x hx hn=>by
  rw[← hG2,List.getElem?_append_left (by rw[setAll_length];exact hx)]
  exact setAll_other ids G os' x hn
 have hnew:∀ x o,G.length≤x→os'[ids.length+(x-G.length)]?=some o→G2[x]?=some (backObj ids G.length o):=fun x o hx ho=>by
  rw[← hG2,List.getElem?_append_right (by rw[setAll_length];exact hx),setAll_length]
  rw[List.getElem?_map,List.getElem?_drop,ho];rfl
 have hμk:∀ k x,ids[k]?=some x→μ' x=μ2 k:=fun k x h=>by
  show (match idxOf ids x with|some k=>μ2 k|none=>_)=_
  rw[idxOf_at hk.nodup h]
 have hμo:∀ x,x<G.length→x∉ids→μ' x=μ x:=fun x hx hn=>by
  show (match idxOf ids x with|some k=>μ2 k|none=>if x<G.length then μ x else _)=_
  cases hi:idxOf ids x with
  |some k=>exact absurd (List.mem_iff_getElem?.2 ⟨k,idxOf_some hi⟩) hn
  |none=>simp[hx]
 have hμn:∀ x,G.length≤x→μ' x=μ2 (ids.length+(x-G.length)):=fun x hx=>by
  show (match idxOf ids x with|some k=>μ2 k|none=>if x<G.length then μ x else _)=_
  cases hi:idxOf ids x with
  |some k=>have:=hidlt x (List.mem_iff_getElem?.2 ⟨k,idxOf_some hi⟩);omega
  |none=>simp[Nat.not_lt.2 hx]
 have hren:Ren μ2 (inf os') μ' (inf G2) (backId ids G.length):=by
  intro id loc hl
  have hd:=hI'.dom id loc hl
  have hob:=gG hd
  by_cases hlt:id<ids.length
  ·have h1:=gG hlt
   have hb:backId ids G.length id=ids[id]:=by simp[backId,h1]
   rw[hb]
   refine ⟨(hμk id _ h1).trans hl,?_⟩
   unfold inf
   rw[hat id _ _ h1 hob,hob]
   simp[infO_back]
  ·have h1:ids[id]?=none:=List.getElem?_eq_none (by omega)
   have hb:backId ids G.length id=G.length+(id-ids.length):=by simp[backId,h1]
   rw[hb]
   have e:ids.length+(G.length+(id-ids.length)-G.length)=id:=by omega
   refine ⟨?_,?_⟩
   ·rw[hμn _ (by omega),e];exact hl
   ·unfold inf
    rw[hnew _ os'[id] (by omega) (by rw[e];exact hob),hob]
    simp[infO_back]
 have hcase:∀ x loc,μ' x=some loc→(∃ id,x=backId ids G.length id∧μ2 id=some loc∧((∃ k,ids[k]?=some x∧id=k)∨(G.length≤x∧id=ids.length+(x-G.length))))∨(x<G.length∧x∉ids∧μ x=some loc):=by
  intro x loc hl
  by_cases hm:x∈ids
  ·obtain ⟨k,hkx⟩:=List.mem_iff_getElem?.1 hm
   rw[hμk k x hkx]at hl
   exact .inl ⟨k,by simp[backId,hkx],hl,.inl ⟨k,hkx,rfl⟩⟩
  ·by_cases hx:x<G.length
   ·rw[hμo x hx hm]at hl
    exact .inr ⟨hx,hm,hl⟩
   ·rw[hμn x (by omega)]at hl
    refine .inl ⟨_,?_,hl,.inr ⟨by omega,rfl⟩⟩
    unfold backId
    rw[List.getElem?_eq_none (by omega)]
    simp
    omega
 have hin:∀ x loc,x∉ids→μ x=some loc→∀ id l,sub ids μ id=some l→l.blk≠loc.blk:=by
  intro x loc hn hl id l hs he
  unfold sub at hs
  cases hi:ids[id]? with
  |none=>rw[hi]at hs;cases hs
  |some y =>
   rw[hi]at hs
   have:=hI.inj y x l loc hs hl he
   subst this
   exact hn (List.mem_iff_getElem?.2 ⟨id,hi⟩)
 have hapart:∀ x loc id loc',x∉ids→μ x=some loc→μ2 id=some loc'→loc'.blk≠loc.blk:=by
  intro x loc id loc' hn hl hl2 he
  rcases hS.fr.loc id loc' hl2 with h1|⟨id1,l1,h1,h2⟩
  ·have:=hI.lt hl;omega
  ·exact hin x loc hn hl id1 l1 h1 (h2.trans he)
 have hext:Ext m μ G m' μ' G2:=by
  refine ⟨hS.ext.mem,fun x loc h1 h2=>?_,fun x loc g sz h1 h2=>?_⟩
  ·by_cases hm:x∈ids
   ·obtain ⟨k,hkx⟩:=List.mem_iff_getElem?.1 hm
    obtain ⟨a1,a2⟩:=hS.ext.box k loc (by simp[sub,hkx,h1]) (by rw[hos];simp[sub,hkx,h2])
    obtain ⟨b1,b2⟩:=hren k loc a1
    have:backId ids G.length k=x:=by simp[backId,hkx]
    rw[this]at b1 b2
    exact ⟨b1,b2.trans a2⟩
   ·have hx:=hI.dom x loc h1
    refine ⟨(hμo x hx hm).trans h1,?_⟩
    unfold inf at h2 ⊢
    rw[hold x hx hm];exact h2
  ·by_cases hm:x∈ids
   ·obtain ⟨k,hkx⟩:=List.mem_iff_getElem?.1 hm
    obtain ⟨loc',g',a1,a2,a3,a4⟩:=hS.ext.arr k loc g sz (by simp[sub,hkx,h1]) (by rw[hos];simp[sub,hkx,h2])
    obtain ⟨b1,b2⟩:=hren k loc' a1
    have:backId ids G.length k=x:=by simp[backId,hkx]
    rw[this]at b1 b2
    exact ⟨loc',g',b1,b2.trans a2,a3,a4⟩
   ·have hx:=hI.dom x loc h1
    refine ⟨loc,g,(hμo x hx hm).trans h1,?_,Nat.le_refl _,fun _=>rfl⟩
    unfold inf at h2 ⊢
    rw[hold x hx hm];exact h2
 have hmnone:∀ x loc o,x∉ids→μ x=some loc→m loc.blk o=none→m' loc.blk o=none:=by
  intro x loc o hn hl hnone
  cases hc:m' loc.blk o with
  |none=>rfl
  |some v =>
   rcases hS.fr.mem _ _ _ hc with h1|h1|⟨id,l,h1,h2⟩
   ·rw[hnone]at h1;cases h1
   ·have:=hI.lt hl;omega
   ·exact absurd h2 (hin x loc hn hl id l h1)
 refine ⟨μ',⟨hI'.known,?_,?_,?_⟩,⟨hext,⟨hS.fr.os,hS.fr.tape,hS.fr.output,hS.fr.size,?_,?_,?_⟩,?_⟩,hren⟩
 ·intro x y l l' h1 h2 he
  rcases hcase x l h1 with ⟨id,rfl,a1,_⟩|⟨a0,a1,a2⟩<;>rcases hcase y l' h2 with ⟨id',rfl,b1,_⟩|⟨b0,b1,b2⟩
  ·rw[hI'.inj id id' l l' a1 b1 he]
  ·exact absurd he (hapart y l' id l b1 b2 a1)
  ·exact absurd he.symm (hapart x l id' l' a1 a2 b1)
  ·exact hI.inj x y l l' a2 b2 he
 ·intro x o hxo loc hl
  rcases hcase x loc hl with ⟨id,hxe,a1,ha⟩|⟨a0,a1,a2⟩
  ·have hd:=hI'.dom id loc a1
   have hob:=gG hd
   have:o=backObj ids G.length os'[id]:=by
    rcases ha with ⟨k,hkx,rfl⟩|⟨hge,rfl⟩
    ·rw[hat id x _ hkx hob]at hxo;cases hxo;rfl
    ·rw[hnew x _ hge hob]at hxo;cases hxo;rfl
   rw[this]
   exact backObj_sound hren (hI'.obj id _ hob loc a1)
  ·rw[hold x a0 a1]at hxo
   exact (hI.obj x o hxo loc a2).move hext (hS.fr.blk _ (hI.lt a2) (fun id l h1 h2=>hin x loc a1 a2 id l h1 h2)) (fun o h=>hmnone x loc o a1 a2 h)
 ·intro x loc hl
  rcases hcase x loc hl with ⟨id,hxe,a1,ha⟩|⟨a0,a1,a2⟩
  ·have hd:=hI'.dom id loc a1
   rcases ha with ⟨k,hkx,rfl⟩|⟨hge,rfl⟩
   ·have:=hidlt x (List.mem_iff_getElem?.2 ⟨_,hkx⟩);omega
   ·omega
  ·omega
 ·intro b hb hn
  refine hS.fr.blk b hb (fun id l h1=>?_)
  unfold sub at h1
  cases hi:ids[id]? with
  |none=>rw[hi]at h1;cases h1
  |some y=>rw[hi]at h1;exact hn y l h1
 ·intro b o v h
  rcases hS.fr.mem b o v h with h1|h1|⟨id,l,h1,h2⟩
  ·exact .inl h1
  ·exact .inr (.inl h1)
  ·unfold sub at h1
   cases hi:ids[id]? with
   |none=>rw[hi]at h1;cases h1
   |some y=>rw[hi]at h1;exact .inr (.inr ⟨y,l,h1,h2⟩)
 ·intro x loc hl
  rcases hcase x loc hl with ⟨id,hxe,a1,ha⟩|⟨a0,a1,a2⟩
  ·rcases hS.fr.loc id loc a1 with h1|⟨id',l,h1,h2⟩
   ·exact .inl h1
   ·unfold sub at h1
    cases hi:ids[id']? with
    |none=>rw[hi]at h1;cases h1
    |some y=>rw[hi]at h1;exact .inr ⟨y,l,h1,h2⟩
  ·exact .inr ⟨x,loc,a2,rfl⟩
 ·refine ⟨fun x hx ht=>?_,fun x hx hn=>?_⟩
  ·have htc:=hS.total htot
   by_cases hm:x∈ids
   ·obtain ⟨k,hkx⟩:=List.mem_iff_getElem?.1 hm
    rw[hμk k x hkx]
    exact hfirst k (gE hkx).1
   ·by_cases hlt:x<G.length
    ·rw[hμo x hlt hm];exact ht hlt
    ·rw[hμn x (by omega)]
     exact htc _ (by omega)
  ·have hm:x∉ids:=fun hm=>by
    obtain ⟨loc,hl⟩:=hk.mapped x hm
    rw[hl]at hn;cases hn
   exact ⟨(hμo x hx hm).trans hn,hold x hx hm⟩
def CallSound (P:Program)(call:CallF):Prop:=∀ f args G out G',call f args G=some (out,G')→∀ m μ w vargs,Inv m μ G w→(∀ id,id<G.length→∃ l,μ id=some l)→RL m μ (inf G) vargs args →
 Calls P f vargs.toArray w fun e w'=>∃ m' μ',Inv m' μ' G' w'∧Stp m μ G w m' μ' G' w'∧OutR m' μ' (inf G') out e
theorem Calls.mono {P:Program}{f:FuncId}{args:Array Value}{w:World}{A B:Ending→World→Prop}(h:Calls P f args w A)(hr:∀ e w',A e w'→B e w'):Calls P f args w B :=
 fun cs=>let ⟨e,w',fr,r,s⟩:=h cs;⟨e,w',fr,hr _ _ r,s⟩
theorem callAt_sound {P:Program}{pg:Prg}{call:CallF}(hc:CallSound P call){m:Mem}{μ:Mu}{G G':Heap}{w:World}(hI:Inv m μ G w){f:Nat}{args:List AV}{out:Out}
  (h:eCA pg call f args G=some (out,G')) {vargs:List Value} (hr:RL m μ (inf G) vargs args) :
  Calls P f vargs.toArray w fun e w'=>∃ m' μ',Inv m' μ' G' w'∧Stp m μ G w m' μ' G' w'∧OutR m' μ' (inf G') out e:=by
 unfold eCA at h
 split at h
 ·cases h
 ·rename_i args' e hx
  split at h
  ·cases h
  ·rename_i os e' ho
   split at h
   ·cases h
   ·rename_i out' os' hcall
    cases h
    obtain ⟨m1,hx1,hr1,_⟩:=expL_sound _ args (e:=⟨[],G⟩) (w:=w) hI ⟨by simp,fun id h=>by simp at h⟩ hx hr
    obtain ⟨hIc,htot,hinf,heG,⟨l,hl⟩,hok,hlen⟩:=expObjs_inv hx1.inv hx1.ok ho
    have hra:RL m1 (sub e'.ids μ) (inf os) vargs args':=by
     rw[hinf,hl]
     exact hr1.monoI (sub_ext l (.refl _ _ _))
    refine Calls.mono (hc f args' os out' os' hcall m1 _ w vargs hIc htot hra) fun en w' hp=>?_
    obtain ⟨m',μ2,hI',hS,hout⟩:=hp
    rw[← heG]at hinf
    obtain ⟨μ',b1,b2,b3⟩:=back_step (G:=e'.G) (by rw[heG];exact hx1.inv) hok hinf hlen htot hI' hS
    refine ⟨m',μ',b1,?_,hout.back b3⟩
    have hs1:=hx1.stp
    rw[← heG]at hs1
    exact hs1.trans b2
section
variable {pg:Prg}{call:CallF}{loop:LoopF}
def Kept (G G':Heap):Prop:=G.length≤G'.length∧∀ id:Nat,id<G.length→AEq G'[id]? G[id]?
theorem Kept.refl (G:Heap):Kept G G:=⟨Nat.le_refl _,fun _ _=>.refl _⟩
theorem Kept.trans {G G' G'':Heap}(h:Kept G G')(h':Kept G' G''):Kept G G'' :=
 ⟨Nat.le_trans h.1 h'.1,fun id hid=>(h'.2 id (Nat.lt_of_lt_of_le hid h.1)).trans (h.2 id hid)⟩
def KeptB (base:Nat)(G G':Heap):Prop:=base≤G'.length∧∀ id:Nat,id<base→AEq G'[id]? G[id]?
theorem KeptB.refl {base:Nat}{G:Heap}(h:base≤G.length):KeptB base G G:=⟨h,fun _ _=>.refl _⟩
theorem KeptB.trans {base:Nat}{G G' G'':Heap}(h:KeptB base G G')(h':KeptB base G' G''):KeptB base G G'' :=
 ⟨h'.1,fun id hid=>(h'.2 id hid).trans (h.2 id hid)⟩
def Cl (base:Nat)(G:Heap):Prop:=∀ id o,id<base→G[id]?=some o→bOb base o=true
theorem Cl.kept {base:Nat}{G G':Heap}(h:Cl base G)(hk:KeptB base G G'):Cl base G':=by
 intro id o hid ho
 rcases hk.2 id hid with e|⟨sz,rows,g,s,s',e1,e2⟩
 ·rw[e]at ho;exact h id o hid ho
 ·rw[e1]at ho;cases ho;rfl
def Own (base:Nat)(own:List Nat)(env:Env):Prop:=∀ d,d∈own→∀ v,lk env d=some v→∀ id,id∈tids v→base≤id
theorem Own.nil (base:Nat)(env:Env):Own base [] env:=fun d h=>by simp at h
def Pre (e e':Exp):Prop:=∃ l,e'.ids=e.ids++l
theorem Pre.refl (e:Exp):Pre e e:=⟨[],by simp⟩
theorem Pre.trans {e e' e'':Exp}(h:Pre e e')(h':Pre e' e''):Pre e e'':=by
 obtain ⟨l,hl⟩:=h
 obtain ⟨l',hl'⟩:=h'
 exact ⟨l++l',by rw[hl',hl,List.append_assoc]⟩
theorem Pre.at {e e':Exp}(h:Pre e e'){k x:Nat}(hk:e.ids[k]?=some x):e'.ids[k]?=some x:=by
 obtain ⟨l,hl⟩:=h
 rw[hl,List.getElem?_append_left (gE hk).1]
 exact hk
structure Rt (e e':Exp):Prop where
 pre:Pre e e'
 nodup:e.ids.Nodup→e'.ids.Nodup
 aeq:∀ id:Nat,AEq e'.G[id]? e.G[id]?
theorem Rt.refl (e:Exp):Rt e e:=⟨.refl e,fun h=>h,fun _=>.refl _⟩
theorem Rt.trans {e e' e'':Exp}(h:Rt e e')(h':Rt e' e''):Rt e e'':=⟨h.pre.trans h'.pre,fun n=>h'.nodup (h.nodup n),fun id=>(h'.aeq id).trans (h.aeq id)⟩
theorem rt_id {e e':Exp}{id k:Nat}(h:e.id id=(k,e')):Rt e e'∧e'.ids[k]?=some id:=by
 obtain ⟨h1,h2,h3,h4⟩:=Exp.id_spec h
 exact ⟨⟨h3,fun n=>(h4 (fun _=>some ⟨0,0⟩) ⟨n,fun _ _=>⟨_,rfl⟩⟩ ⟨_,rfl⟩).nodup,fun id=>by rw[h1];exact .refl _⟩,h2⟩
mutual
theorem rt_exp (keep:Bool):∀ {a a':AV} {e e':Exp},exp keep e a=some (a',e')→Rt e e'∧(keep=true→∀ e2 base,Pre e' e2→back e2.ids base a'=a)
 |.p x,a',e,e',h=>by simp[exp]at h;obtain ⟨rfl,rfl⟩:=h;exact ⟨.refl _,fun _ _ _ _=>rfl⟩
 |.nils,a',e,e',h=>by
  simp only[exp]at h
  split at h
  ·cases h;exact ⟨.refl _,fun _ _ _ _=>rfl⟩
  ·rename_i hk;cases h;exact ⟨.refl _,fun hk'=>absurd hk' hk⟩
 |.undef,a',e,e',h=>by simp[exp]at h;obtain ⟨rfl,rfl⟩:=h;exact ⟨.refl _,fun _ _ _ _=>rfl⟩
 |.rp cs,a',e,e',h=>by simp[exp]at h;obtain ⟨rfl,rfl⟩:=h;exact ⟨.refl _,fun _ _ _ _=>rfl⟩
 |.arr id len gen,a',e,e',h=>by
  simp only[exp]at h
  split at h
  ·cases hid:e.id id with|mk k e1 =>
   rw[hid]at h
   cases h
   obtain ⟨r1,r2⟩:=rt_id hid
   exact ⟨r1,fun _ e2 base hp=>by simp[back,backId,hp.at r2]⟩
  ·rename_i hk
   split at h
   ·rename_i hn;cases h;exact ⟨⟨⟨[],by simp⟩,fun h=>h,norm_aeq hn⟩,fun hk'=>absurd hk' hk⟩
   ·cases h
 |.ptr id off,a',e,e',h=>by
  simp only[exp]at h
  cases hid:e.id id with|mk k e1 =>
  rw[hid]at h
  cases h
  obtain ⟨r1,r2⟩:=rt_id hid
  exact ⟨r1,fun _ e2 base hp=>by simp[back,backId,hp.at r2]⟩
 |.eptr id idx off gen,a',e,e',h=>by
  simp only[exp]at h
  cases hid:e.id id with|mk k e1 =>
  rw[hid]at h
  cases h
  obtain ⟨r1,r2⟩:=rt_id hid
  exact ⟨r1,fun _ e2 base hp=>by simp[back,backId,hp.at r2]⟩
 |.ag cs,a',e,e',h=>by
  simp only[exp]at h
  split at h
  ·rename_i hn;cases h
   obtain ⟨r1,r2⟩:=rt_expL keep hn
   exact ⟨r1,fun hk e2 base hp=>by simp[back,r2 hk e2 base hp]⟩
  ·cases h
 |.tup cs,a',e,e',h=>by
  simp only[exp]at h
  split at h
  ·rename_i hn;cases h
   obtain ⟨r1,r2⟩:=rt_expL keep hn
   exact ⟨r1,fun hk e2 base hp=>by simp[back,r2 hk e2 base hp]⟩
  ·cases h
 |.ifc t x,a',e,e',h=>by
  simp only[exp]at h
  split at h
  ·rename_i hn;cases h
   obtain ⟨r1,r2⟩:=rt_exp keep hn
   exact ⟨r1,fun hk e2 base hp=>by simp[back,r2 hk e2 base hp]⟩
  ·cases h
 |.fn f x y,a',e,e',h=>by
  simp only[exp]at h
  split at h
  ·cases h
  ·rename_i hx
   split at h
   ·cases h
   ·rename_i hy
    cases h
    obtain ⟨r1,r2⟩:=rt_expL true hx
    obtain ⟨s1,s2⟩:=rt_expL true hy
    exact ⟨r1.trans s1,fun _ e2 base hp=>by simp[back,r2 rfl e2 base (s1.pre.trans hp),s2 rfl e2 base hp]⟩
theorem rt_expL (keep:Bool):∀ {l l':List AV} {e e':Exp},expL keep e l=some (l',e')→Rt e e'∧(keep=true→∀ e2 base,Pre e' e2→backL e2.ids base l'=l)
 |[],l',e,e',h=>by simp[expL]at h;obtain ⟨rfl,rfl⟩:=h;exact ⟨.refl _,fun _ _ _ _=>rfl⟩
 |a::r,l',e,e',h=>by
  simp only[expL]at h
  split at h
  ·cases h
  ·rename_i hn
   split at h
   ·cases h
   ·rename_i hn2
    cases h
    obtain ⟨r1,r2⟩:=rt_exp keep hn
    obtain ⟨s1,s2⟩:=rt_expL keep hn2
    exact ⟨r1.trans s1,fun hk e2 base hp=>by simp[backL,r2 hk e2 base (s1.pre.trans hp),s2 hk e2 base hp]⟩
end
theorem rt_objs:∀ (fuel:Nat) {e e':Exp} {k:Nat} {os:Heap},eOs fuel e k=some (os,e')→Rt e e'∧∀ (j:Nat) (o:AObj),os[j]?=some o→∃ id o0,e'.ids[k+j]?=some id∧AEq (some o0) e.G[id]?∧∀ base,backObj e'.ids base o=o0
 |0,e,e',k,os,h=>by
  simp only[eOs]at h
  split at h
  ·cases h
  ·cases h;exact ⟨.refl _,fun j o h=>by simp at h⟩
 |fuel+1,e,e',k,os,h=>by
  simp only[eOs]at h
  split at h
  ·cases h;exact ⟨.refl _,fun j o h=>by simp at h⟩
  ·rename_i id hid
   split at h
   ·cases h
   ·rename_i sz rows g sl hG
    split at h
    ·cases h
    ·rename_i os' e1 hr
     cases h
     obtain ⟨r1,r2⟩:=rt_objs fuel hr
     refine ⟨r1,fun j o hj=>?_⟩
     cases j with
     |zero =>
      simp at hj
      subst hj
      exact ⟨id,_,r1.pre.at hid,by rw[hG];exact .refl _,fun _=>rfl⟩
     |succ j =>
      obtain ⟨id',o0,a1,a2,a3⟩:=r2 j o (by simpa using hj)
      exact ⟨id',o0,by rw[show k+(j+1)=k+1+j by omega];exact a1,a2,a3⟩
   ·rename_i cs hG
    split at h
    ·cases h
    ·rename_i cs' e1 hx
     split at h
     ·cases h
     ·rename_i os' e2 hr
      cases h
      obtain ⟨x1,x2⟩:=rt_expL true hx
      obtain ⟨r1,r2⟩:=rt_objs fuel hr
      refine ⟨x1.trans r1,fun j o hj=>?_⟩
      cases j with
      |zero =>
       simp at hj
       subst hj
       exact ⟨id,.box cs,(x1.trans r1).pre.at hid,by rw[hG];exact .refl _,fun base=>by simp[backObj,x2 rfl e' base r1.pre]⟩
      |succ j =>
       obtain ⟨id',o0,a1,a2,a3⟩:=r2 j o (by simpa using hj)
       exact ⟨id',o0,by rw[show k+(j+1)=k+1+j by omega];exact a1,a2.trans (x1.aeq id'),a3⟩
def RoCall (pg:Prg)(call:CallF):Prop:=QCall pg call∧∀ k f args os out os',roFnD pg k f=true→Cl os.length os→call f args os=some (out,os')→∀ id:Nat,id<os.length→AEq os'[id]? os[id]?
theorem backObj_aeq {ids:List Nat}{base:Nat}{o o':AObj}(h:AEq (some o') (some o)):AEq (some (backObj ids base o')) (some (backObj ids base o)):=by
 rcases h with h|⟨sz,rows,g,s,s',h1,h2⟩
 ·cases h;exact .refl _
 ·cases h1;cases h2;exact .inr ⟨_,_,_,_,_,rfl,rfl⟩
mutual
theorem below_mono {n m:Nat}(h:n≤m):∀ {a:AV},below n a=true→below m a=true
 |.p x,_=>by simp[below]
 |.nils,_=>by simp[below]
 |.undef,_=>by simp[below]
 |.rp _,_=>by simp[below]
 |.arr id _ _,hb=>by simp only[below]at hb ⊢;have:=Nat.blt_eq.mp hb;exact Nat.blt_eq.mpr (by omega)
 |.ptr id _,hb=>by simp only[below]at hb ⊢;have:=Nat.blt_eq.mp hb;exact Nat.blt_eq.mpr (by omega)
 |.eptr id _ _ _,hb=>by simp only[below]at hb ⊢;have:=Nat.blt_eq.mp hb;exact Nat.blt_eq.mpr (by omega)
 |.ag cs,hb=>by simp only[below]at hb ⊢;exact belowL_mono h hb
 |.tup cs,hb=>by simp only[below]at hb ⊢;exact belowL_mono h hb
 |.ifc t v,hb=>by simp only[below]at hb ⊢;exact below_mono h hb
 |.fn f a b,hb=>by simp only[below,Bool.and_eq_true]at hb ⊢;exact ⟨belowL_mono h hb.1,belowL_mono h hb.2⟩
theorem belowL_mono {n m:Nat}(h:n≤m):∀ {l:List AV},belowL n l=true→belowL m l=true
 |[],_=>rfl
 |a::r,hb=>by simp only[belowL,Bool.and_eq_true]at hb ⊢;exact ⟨below_mono h hb.1,belowL_mono h hb.2⟩
end
mutual
theorem norm_below0:∀ {a v:AV} {G G':Heap},norm G a=some (v,G')→below 0 v=true
 |.p x,v,G,G',h=>by simp[norm]at h;obtain ⟨rfl,_⟩:=h;simp[below]
 |.nils,v,G,G',h=>by simp[norm]at h;obtain ⟨rfl,_⟩:=h;simp[below]
 |.arr id len gen,v,G,G',h=>by
  simp only[norm]at h
  split at h
  ·split at h
   ·cases h;simp[below]
   ·cases h
  ·cases h
 |.ag cs,v,G,G',h=>by
  simp only[norm]at h
  split at h
  ·rename_i hn;cases h;simp only[below];exact normL_below0 hn
  ·cases h
 |.tup cs,v,G,G',h=>by
  simp only[norm]at h
  split at h
  ·rename_i hn;cases h;simp only[below];exact normL_below0 hn
  ·cases h
 |.ifc t x,v,G,G',h=>by
  simp only[norm]at h
  split at h
  ·rename_i hn;cases h;simp only[below];exact norm_below0 hn
  ·cases h
 |.undef,v,G,G',h=>by simp[norm]at h
 |.ptr _ _,v,G,G',h=>by simp[norm]at h
 |.eptr _ _ _ _,v,G,G',h=>by simp[norm]at h
 |.rp _,v,G,G',h=>by simp[norm]at h
 |.fn _ _ _,v,G,G',h=>by simp[norm]at h
theorem normL_below0:∀ {l vs:List AV} {G G':Heap},normL G l=some (vs,G')→belowL 0 vs=true
 |[],vs,G,G',h=>by simp[normL]at h;obtain ⟨rfl,_⟩:=h;rfl
 |a::r,vs,G,G',h=>by
  simp only[normL]at h
  split at h
  ·cases h
  ·rename_i hn
   split at h
   ·cases h
   ·rename_i hn2
    cases h
    simp only[belowL,Bool.and_eq_true]
    exact ⟨norm_below0 hn,normL_below0 hn2⟩
end
theorem pre_len {e e':Exp}(h:Pre e e'):e.ids.length≤e'.ids.length:=by obtain ⟨l,hl⟩:=h;rw[hl];simp
theorem id_lt {e e':Exp}{id k:Nat}(h:e.id id=(k,e')):k<e'.ids.length:=(gE (rt_id h).2).1
mutual
theorem exp_below (keep:Bool):∀ {a a':AV} {e e':Exp},exp keep e a=some (a',e')→below e'.ids.length a'=true
 |.p x,a',e,e',h=>by simp[exp]at h;obtain ⟨rfl,rfl⟩:=h;simp[below]
 |.nils,a',e,e',h=>by
  simp only[exp]at h
  split at h<;>(cases h;simp[below])
 |.undef,a',e,e',h=>by simp[exp]at h;obtain ⟨rfl,rfl⟩:=h;simp[below]
 |.rp cs,a',e,e',h=>by simp[exp]at h;obtain ⟨rfl,rfl⟩:=h;simp[below]
 |.arr id len gen,a',e,e',h=>by
  simp only[exp]at h
  split at h
  ·cases hid:e.id id with|mk k e1 =>
   rw[hid]at h
   cases h
   simp only[below]
   exact Nat.blt_eq.mpr (id_lt hid)
  ·split at h
   ·rename_i hn;cases h;exact below_mono (Nat.zero_le _) (norm_below0 hn)
   ·cases h
 |.ptr id off,a',e,e',h=>by
  simp only[exp]at h
  cases hid:e.id id with|mk k e1 =>
  rw[hid]at h
  cases h
  simp only[below]
  exact Nat.blt_eq.mpr (id_lt hid)
 |.eptr id idx off gen,a',e,e',h=>by
  simp only[exp]at h
  cases hid:e.id id with|mk k e1 =>
  rw[hid]at h
  cases h
  simp only[below]
  exact Nat.blt_eq.mpr (id_lt hid)
 |.ag cs,a',e,e',h=>by
  simp only[exp]at h
  split at h
  ·rename_i hx;cases h;simp only[below];exact expL_below keep hx
  ·cases h
 |.tup cs,a',e,e',h=>by
  simp only[exp]at h
  split at h
  ·rename_i hx;cases h;simp only[below];exact expL_below keep hx
  ·cases h
 |.ifc t v,a',e,e',h=>by
  simp only[exp]at h
  split at h
  ·rename_i hx;cases h;simp only[below];exact exp_below keep hx
  ·cases h
 |.fn f a b,a',e,e',h=>by
  simp only[exp]at h
  split at h
  ·cases h
  ·rename_i hx
   split at h
   ·cases h
   ·rename_i hx2
    cases h
    simp only[below,Bool.and_eq_true]
    exact ⟨belowL_mono (pre_len (rt_expL true hx2).1.pre) (expL_below true hx),expL_below true hx2⟩
theorem expL_below (keep:Bool):∀ {l l':List AV} {e e':Exp},expL keep e l=some (l',e')→belowL e'.ids.length l'=true
 |[],l',e,e',h=>by simp[expL]at h;obtain ⟨rfl,rfl⟩:=h;rfl
 |a::r,l',e,e',h=>by
  simp only[expL]at h
  split at h
  ·cases h
  ·rename_i hx
   split at h
   ·cases h
   ·rename_i hx2
    cases h
    simp only[belowL,Bool.and_eq_true]
    exact ⟨below_mono (pre_len (rt_expL keep hx2).1.pre) (exp_below keep hx),expL_below keep hx2⟩
end
theorem objs_below:∀ (fuel:Nat) {e e':Exp} {k:Nat} {os:Heap},eOs fuel e k=some (os,e')→∀ (j:Nat) (o:AObj),os[j]?=some o→bOb e'.ids.length o=true
 |0,e,e',k,os,h,j,o,ho=>by
  simp only[eOs]at h
  split at h
  ·cases h
  ·cases h;simp at ho
 |fuel+1,e,e',k,os,h,j,o,ho=>by
  simp only[eOs]at h
  split at h
  ·cases h;simp at ho
  ·split at h
   ·cases h
   ·split at h
    ·cases h
    ·rename_i hr
     cases h
     cases j with
     |zero=>simp at ho;subst ho;rfl
     |succ j=>simp at ho;exact objs_below fuel hr j o ho
   ·split at h
    ·cases h
    ·rename_i hx
     split at h
     ·cases h
     ·rename_i hr
      cases h
      cases j with
      |zero =>
       simp at ho
       subst ho
       simp only[bOb]
       exact belowL_mono (pre_len (rt_objs fuel hr).1.pre) (expL_below true hx)
      |succ j=>simp at ho;exact objs_below fuel hr j o ho
theorem objs_all:∀ (fuel:Nat) {e e':Exp} {k:Nat} {os:Heap},eOs fuel e k=some (os,e')→k≤e.ids.length→e'.ids.length=k+os.length
 |0,e,e',k,os,h,hle=>by
  simp only[eOs]at h
  split at h
  ·cases h
  ·cases h;simp;omega
 |fuel+1,e,e',k,os,h,hle=>by
  simp only[eOs]at h
  split at h
  ·rename_i hn
   cases h
   have:=List.getElem?_eq_none_iff.1 hn
   simp
   omega
  ·rename_i id hid
   have hlt:=(gE hid).1
   split at h
   ·cases h
   ·split at h
    ·cases h
    ·rename_i hr;cases h
     have:=objs_all fuel hr hlt
     simp
     omega
   ·split at h
    ·cases h
    ·rename_i hx
     split at h
     ·cases h
     ·rename_i hr;cases h
      obtain ⟨⟨⟨l,hl⟩,_,_⟩,_⟩:=rt_expL true hx
      have:=objs_all fuel hr (by rw[hl];simp;omega)
      simp
      omega
theorem exp_closed {keep:Bool}{args args':List AV}{G:Heap}{e e':Exp}{os:Heap}{fuel:Nat}(hx:expL keep ⟨[],G⟩ args=some (args',e))(ho:eOs fuel e 0=some (os,e')):Cl os.length os:=by
 intro id o hid h
 have h1:=objs_below _ ho id o h
 have h2:=objs_all _ ho (by omega)
 rw[h2]at h1
 simpa using h1
mutual
theorem back_idem {ids:List Nat}{base b:Nat}(hp:∀ i,i<base→ids[i]?=some i)(hnd:ids.Nodup)(hb:base≤b):∀ {a:AV},below base (back ids b a)=true→back ids b a=a
 |.p x,_=>by simp[back]
 |.nils,_=>by simp[back]
 |.undef,_=>by simp[back]
 |.rp _,_=>by simp[back]
 |.arr id _ _,h=>by simp only[back,below]at h ⊢;rw[backId_idem hp hnd hb (Nat.blt_eq.mp h)]
 |.ptr id _,h=>by simp only[back,below]at h ⊢;rw[backId_idem hp hnd hb (Nat.blt_eq.mp h)]
 |.eptr id _ _ _,h=>by simp only[back,below]at h ⊢;rw[backId_idem hp hnd hb (Nat.blt_eq.mp h)]
 |.ag cs,h=>by simp only[back,below]at h ⊢;rw[backL_idem hp hnd hb h]
 |.tup cs,h=>by simp only[back,below]at h ⊢;rw[backL_idem hp hnd hb h]
 |.ifc t v,h=>by simp only[back,below]at h ⊢;rw[back_idem hp hnd hb h]
 |.fn f u v,h=>by simp only[back,below,Bool.and_eq_true]at h ⊢;rw[backL_idem hp hnd hb h.1,backL_idem hp hnd hb h.2]
theorem backL_idem {ids:List Nat}{base b:Nat}(hp:∀ i,i<base→ids[i]?=some i)(hnd:ids.Nodup)(hb:base≤b):∀ {l:List AV},belowL base (backL ids b l)=true→backL ids b l=l
 |[],_=>rfl
 |a::r,h=>by simp only[backL,belowL,Bool.and_eq_true]at h ⊢;rw[back_idem hp hnd hb h.1,backL_idem hp hnd hb h.2]
theorem backId_idem {ids:List Nat}{base b i:Nat}(hp:∀ i,i<base→ids[i]?=some i)(hnd:ids.Nodup)(hb:base≤b)(h:backId ids b i<base):backId ids b i=i:=by
 unfold backId at h ⊢
 cases hi:ids[i]? with
 |none=>rw[hi]at h;simp at h;omega
 |some v =>
  rw[hi]at h
  simp at h ⊢
  have h2:=hp v h
  obtain ⟨a1,a2⟩:=gE hi
  obtain ⟨b1,b2⟩:=gE h2
  have h3:=List.pairwise_iff_getElem.1 hnd
  rcases Nat.lt_trichotomy v i with hlt|he|hgt
  ·exact absurd (b2.trans a2.symm) (h3 v i b1 a1 hlt)
  ·exact he
  ·exact absurd (a2.trans b2.symm) (h3 i v a1 b1 hgt)
end
theorem rt_env:∀ {env env1:Env} {e e1:Exp},gcEnv e env=some (env1,e1)→Rt e e1∧∀ d v1,lk env1 d=some v1→∃ v,lk env d=some v∧∀ e2 base,Pre e1 e2→back e2.ids base v1=v
 |[],env1,e,e1,h=>by simp[gcEnv]at h;obtain ⟨rfl,rfl⟩:=h;exact ⟨.refl _,fun d v1 h=>by simp[lk]at h⟩
 |(k,a)::r,env1,e,e1,h=>by
  simp only[gcEnv]at h
  split at h
  ·cases h
  ·rename_i a' e' hx
   split at h
   ·cases h
   ·rename_i env' e'' hr
    cases h
    obtain ⟨x1,x2⟩:=rt_exp true hx
    obtain ⟨y1,y2⟩:=rt_env hr
    refine ⟨x1.trans y1,fun d v1 hl=>?_⟩
    simp only[lk]at hl ⊢
    split at hl
    ·rename_i e;subst e;cases hl;exact ⟨a,by simp,fun e2 base hp=>x2 rfl e2 base (y1.pre.trans hp)⟩
    ·rename_i hne;rw[if_neg hne];exact y2 d v1 hl
theorem tids_back {ids:List Nat}{b:Nat}{v:AV}{id:Nat}(h:id∈tids v):backId ids b id∈tids (back ids b v):=by
 cases v<;>simp[tids,back]at h ⊢
 all_goals rw[h]
theorem gc_kept {base:Nat}{live:List Nat}{env env1:Env}{G G1:Heap}(h:gc base live env G=some (env1,G1))(hb:base≤G.length)(hc:Cl base G):KeptB base G G1∧∀ own,Own base own env→Own base own env1:=by
 unfold gc at h
 split at h
 ·cases h
 ·rename_i env' e hx
  split at h
  ·cases h
  ·rename_i os e' ho
   cases h
   obtain ⟨x1,x2⟩:=rt_env hx
   obtain ⟨y1,y2⟩:=rt_objs _ ho
   have hrt:=x1.trans y1
   have hp:∀ i,i<base→e'.ids[i]?=some i:=fun i hi=>hrt.pre.at (by simp[hi])
   have hnd:e'.ids.Nodup:=hrt.nodup List.nodup_range
   have hle:base≤e'.ids.length:=by
    cases base with
    |zero=>omega
    |succ m=>have:=(gE (hp m (by omega))).1;omega
   have hal:=objs_all _ ho (by omega)
   refine ⟨⟨by omega,fun id hid=>?_⟩,fun own hown d hd v1 hv1 id hid=>?_⟩
   ·have hlt:id<G1.length:=by omega
    obtain ⟨id',o0,a1,a2,a3⟩:=y2 id _ (gG hlt)
    rw[Nat.zero_add,hp id hid]at a1
    cases a1
    have a4:=a2.trans (x1.aeq id)
    have hG:G[id]?=some G[id]:=gG (by omega)
    have hbo:=hc id _ hid hG
    have a5:=a3 base
    rw[gG hlt]
    have key:some o0=some G1[id]∨AEq (some G1[id]) (some o0):=by
     cases hg:G1[id] with
     |arr sz rows g sl=>rw[hg]at a5;simp only[backObj]at a5;subst a5;exact .inl rfl
     |box cs =>
      rw[hg]at a5
      simp only[backObj]at a5
      subst a5
      have:belowL base (backL e'.ids base cs)=true:=by
       rcases a4 with e|⟨_,_,_,_,_,e,_⟩
       ·dsimp only at e;rw[hG]at e
        cases hgg:G[id] with
        |arr _ _ _ _=>rw[hgg]at e;cases e
        |box cs'=>rw[hgg]at e hbo;cases e;simpa [bOb] using hbo
       ·cases e
      rw[backL_idem hp hnd (Nat.le_refl _) this]
      exact .inl rfl
    rcases key with k|k
    ·rw[← k];exact a4
    ·exact k.trans a4
   ·obtain ⟨v,b1,b2⟩:=x2 d v1 hv1
    have b3:=b2 e' base y1.pre
    have b4:lk env d=some v:=by
     clear hx x1 x2 y2 hv1 b2 b3
     induction live with
     |nil=>simp[Z.restr,lk]at b1
     |cons k r ih =>
      unfold Z.restr at b1
      split at b1
      ·rename_i w hw
       simp only[lk]at b1
       split at b1
       ·rename_i e;subst e;cases b1;exact hw
       ·exact ih b1
      ·exact ih b1
    have b5:=tids_back (ids:=e'.ids) (b:=base) hid
    rw[b3]at b5
    have b6:=hown d hd v b4 _ b5
    by_cases hlt:id<base
    ·exfalso
     unfold backId at b6
     rw[hp id hlt]at b6
     simp at b6
     omega
    ·omega
theorem ro_callAt (hR:RoCall pg call){k f:Nat}(hf:roFnD pg k f=true){args:List AV}{G G':Heap}{out:Out}(h:eCA pg call f args G=some (out,G')):∀ id:Nat,id<G.length→AEq G'[id]? G[id]?:=by
 intro id hid
 unfold eCA at h
 split at h
 ·cases h
 ·rename_i args' e hx
  split at h
  ·cases h
  ·rename_i os e' ho
   split at h
   ·cases h
   ·rename_i out' os' hcall
    cases h
    obtain ⟨x1,_⟩:=rt_expL _ hx
    obtain ⟨y1,y2⟩:=rt_objs _ ho
    have hro:=hR.2 k f args' os out' os' hf (exp_closed hx ho) hcall
    have haeq:=(x1.trans y1).aeq
    have hlen:e'.G.length=G.length:=aeq_lt haeq
    have hnd:e'.ids.Nodup:=(x1.trans y1).nodup (by simp)
    rw[List.getElem?_append_left (by rw[setAll_length];omega)]
    by_cases hm:id∈e'.ids
    ·obtain ⟨k,hk⟩:=List.mem_iff_getElem?.1 hm
     by_cases hkl:k<os.length
     ·obtain ⟨id',o0,a1,a2,a3⟩:=y2 k _ (gG hkl)
      simp at a1
      rw[hk]at a1
      cases a1
      have h1:=hro k hkl
      rw[gG hkl]at h1
      cases hok:os'[k]? with
      |none =>
       rw[hok]at h1
       rcases h1 with h|⟨_,_,_,_,_,h,_⟩<;>cases h
      |some o' =>
       rw[hok]at h1
       rw[setAll_at e'.ids e'.G os' k id o' hnd hk (by omega) hok]
       have h2:=backObj_aeq (ids:=e'.ids) (base:=e'.G.length) h1
       rw[a3]at h2
       exact (h2.trans a2).trans (x1.aeq id)
     ·
      have:(setAll e'.ids e'.G.length e'.G e'.ids os')[id]?=e'.G[id]?∨True:=.inr trivial
      exfalso
      have:=expObjs_all _ ho (by simp)
      have hkl':=(gE hk).1
      omega
    ·rw[setAll_other _ _ _ _ hm]
     exact haeq id
where
 expObjs_all:∀ (fuel:Nat) {e e':Exp} {k:Nat} {os:Heap},eOs fuel e k=some (os,e')→k≤e.ids.length→e'.ids.length=k+os.length
  |0,e,e',k,os,h,hle=>by
   simp only[eOs]at h
   split at h
   ·cases h
   ·cases h;simp;omega
  |fuel+1,e,e',k,os,h,hle=>by
   simp only[eOs]at h
   split at h
   ·rename_i hn
    cases h
    have:=List.getElem?_eq_none_iff.1 hn
    simp
    omega
   ·rename_i id hid
    have hlt:=(gE hid).1
    split at h
    ·cases h
    ·split at h
     ·cases h
     ·rename_i hr;cases h
      have:=expObjs_all fuel hr hlt
      simp
      omega
    ·split at h
     ·cases h
     ·rename_i hx
      split at h
      ·cases h
      ·rename_i hr;cases h
       obtain ⟨⟨⟨l,hl⟩,_,_⟩,_⟩:=rt_expL true hx
       have:=expObjs_all fuel hr (by rw[hl];simp;omega)
       simp
       omega
theorem callAt_len {f:Nat}{args:List AV}{G G':Heap}{out:Out}(h:eCA pg call f args G=some (out,G')):G.length≤G'.length:=by
 unfold eCA at h
 split at h
 ·cases h
 ·rename_i args' e hx
  split at h
  ·cases h
  ·rename_i os e' ho
   split at h
   ·cases h
   ·cases h
    obtain ⟨x1,_⟩:=rt_expL _ hx
    obtain ⟨y1,y2⟩:=rt_objs _ ho
    have hlen:e'.G.length=G.length:=aeq_lt (x1.trans y1).aeq
    simp only[List.length_append,setAll_length]
    omega
theorem ro_op {o:COp}(ho:roOp o=true){env:Env}{G:Heap}{r:Res}(h:evOp pg call o env G=some r){base:Nat}(hb:base≤G.length):∃ v G',r=.val v G'∧KeptB base G G':=by
 have hs:isSilent (kindOf o)=true→∃ v G',r=.val v G'∧KeptB base G G':=fun hk=>let ⟨v,e,_⟩:=silent_spec hk h;⟨v,G,e,.refl hb⟩
 have hr:∀ {x:Nat},kindOf o=.reader x→∃ v G',r=.val v G'∧KeptB base G G':=fun hk=>let ⟨v,e,_⟩:=reader_spec hk h;⟨v,G,e,.refl hb⟩
 cases o with
 |box x =>
  simp only[evOp]at h
  split at h
  ·split at h
   ·cases h;exact ⟨_,_,rfl,by simp;omega,fun id hid=>by rw[List.getElem?_append_left (by omega)];exact .refl _⟩
   ·cases h
  ·cases h
 |new cs =>
  simp only[evOp]at h
  split at h
  ·cases h;exact ⟨_,_,rfl,by simp;omega,fun id hid=>by rw[List.getElem?_append_left (by omega)];exact .refl _⟩
  ·cases h
 |load n g x=>cases x with|t x=>exact hr rfl|k a=>simp[roOp]at ho
 |len n x=>cases x with|t x=>exact hr rfl|k a=>simp[roOp]at ho
 |tostr x=>cases x with|t x=>exact hr rfl|k a=>simp[roOp]at ho
 |iaddr a b x y=>cases x with|t x=>exact hr rfl|k a=>simp[roOp]at ho
 |_=>first|exact hs rfl|simp[roOp]at ho
theorem Own.putOwn {base:Nat}{own:List Nat}{env:Env}(h:Own base own env){d:Nat}{v:AV}(hv:∀ id,id∈tids v→base≤id):Own base (d::own) (Z.put env (some d) v):=by
 intro x hx u hu id hid
 rw[lk_put]at hu
 split at hu
 ·cases hu;exact hv id hid
 ·rename_i hne
  rcases List.mem_cons.1 hx with rfl|hx
  ·exact absurd rfl hne
  ·exact h x hx u hu id hid
theorem Own.other {base:Nat}{own:List Nat}{env:Env}(h:Own base own env)(d:Nat)(v:AV):Own base (own.filter fun x=>!Nat.beq x d) (put env (some d) v):=by
 intro x hx u hu id hid
 simp only[List.mem_filter,Bool.not_eq_true']at hx
 rw[lk_put,if_neg]at hu
 ·exact h x hx.1 u hu id hid
 ·intro e
  cases e
  simp at hx
theorem Own.sub {base:Nat}{own own':List Nat}{env:Env}(h:Own base own env)(hs:∀ d,d∈own'→d∈own):Own base own' env:=fun d hd=>h d (hs d hd)
theorem ro_store {base:Nat}{G G':Heap}{n:Nat}{u v:AV}(hb:base≤G.length)(hu:∀ id,id∈tids u→base≤id)(hs:evStore n G u v=some G'):KeptB base G G':=by
 unfold evStore at hs
 split at hs
 ·split at hs
  ·rename_i k off
   have hk:=hu k (by simp[tids])
   split at hs
   ·split at hs
    ·cases hs
     exact ⟨by simp;omega,fun id hid=>by rw[List.getElem?_set,if_neg (by omega)];exact .refl _⟩
    ·cases hs
   ·cases hs
  ·rename_i k idx off gen
   have hk:=hu k (by simp[tids])
   split at hs
   ·cases hs
   ·rename_i l G3 hn
    have hl:=aeq_lt (normP_aeq hn)
    split at hs
    ·split at hs
     ·split at hs
      ·split at hs
       ·cases hs
        exact ⟨by simp;omega,fun id hid=>by rw[List.getElem?_set,if_neg (by omega)];exact normP_aeq hn id⟩
       ·cases hs
      ·cases hs
     ·cases hs
    ·cases hs
  ·cases hs
 ·cases hs
def StepTo (base:Nat)(own':List Nat)(env:Env)(d:Option Nat)(G:Heap)(r:Res):Prop :=
 (∃ v G',r=.val v G'∧KeptB base G G'∧Own base own' (put env d v))∨∃ v G',r=.pan v G'∧KeptB base G G'
theorem ro_opcall (hR:RoCall pg call){n f:Nat}{args:List Opd}(hf:roFnD pg n f=true){env:Env}{G:Heap}{r:Res}(h:evOp pg call (.call f args) env G=some r){base:Nat}(hb:base≤G.length){own':List Nat}{d:Option Nat}(ho:∀ v,Own base own' (put env d v)) :
  StepTo base own' env d G r:=by
 simp only[evOp]at h
 split at h
 ·rename_i vs hv
  cases hc:eCA pg call f vs G with
  |none=>rw[hc]at h;simp[Res.of]at h
  |some y =>
   rcases y with ⟨out,G2⟩
   rw[hc]at h
   have hk:KeptB base G G2:=⟨Nat.le_trans hb (callAt_len hc),fun id hid=>ro_callAt hR hf hc id (by omega)⟩
   cases out with
   |ret u=>simp[Res.of]at h;subst h;exact .inl ⟨_,_,rfl,hk,ho u⟩
   |pan u=>simp[Res.of]at h;subst h;exact .inr ⟨_,_,rfl,hk⟩
 ·cases h
theorem ro_app {str:Bool}{sz bytes:Nat}{G G':Heap}{x y v:AV}{base:Nat}(hb:base≤G.length)(hx:∀ id,id∈tids x→base≤id)(h:evApp str sz bytes G x y=some (v,G')):KeptB base G G'∧∀ id,id∈tids v→base≤id:=by
 unfold evApp at h
 split at h
 ·cases h
 ·split at h
  ·split at h
   ·split at h
    ·cases h;exact ⟨.refl hb,fun id hid=>by simp[tids]at hid⟩
    ·split at h
     ·cases h
      exact ⟨⟨by simp;omega,fun id hid=>by rw[List.getElem?_append_left (by omega)];exact .refl _⟩,fun id hid=>by simp[tids]at hid;omega⟩
     ·cases h
   ·rename_i id len gen
    have hid:=hx id (by simp[tids])
    split at h
    ·split at h
     ·cases h
      exact ⟨⟨by simp;omega,fun j hj=>by rw[List.getElem?_set,if_neg (by omega)];exact .refl _⟩,fun j hj=>by simp[tids]at hj;omega⟩
     ·cases h
    ·cases h
   ·cases h
  ·cases h
theorem ro_step (hR:RoCall pg call){n:Nat}{own own':List Nat}{i:CI}(hi:roStep (roFnD pg n) own i=some own'){base:Nat}{env:Env}{G:Heap}(ho:Own base own env)(hb:base≤G.length) :
  (Own base own' (put env i.d .undef))∧∀ r,evOp pg call i.o env G=some r→StepTo base own' env i.d G r:=by
 rcases i with ⟨d,o,g⟩
 have hun:∀ id,id∈tids .undef→base≤id:=fun id h=>by simp[tids]at h
 have gen:∀ {own'},roOp o=true→(match d with|none=>some own|some d=>some (own.filter fun x=>!Nat.beq x d))=some own' →
   (Own base own' (put env d .undef))∧∀ r,evOp pg call o env G=some r→StepTo base own' env d G r:=by
  intro own' hr h
  cases d with
  |none =>
   cases h
   exact ⟨ho,fun r hv=>.inl (let ⟨v,G',e,hk⟩:=ro_op hr hv hb;⟨v,G',e,hk,ho⟩)⟩
  |some d =>
   cases h
   exact ⟨ho.other d _,fun r hv=>.inl (let ⟨v,G',e,hk⟩:=ro_op hr hv hb;⟨v,G',e,hk,ho.other d v⟩)⟩
 have gen2:∀ {own'},(match d with|none=>if roOp o then some own else none|some d=>if roOp o then some (own.filter fun x=>!Nat.beq x d) else none)=some own' →
   (Own base own' (put env d .undef))∧∀ r,evOp pg call o env G=some r→StepTo base own' env d G r:=by
  intro own' h
  by_cases hr:roOp o=true
  ·exact gen hr (by cases d<;>simpa [hr] using h)
  ·exfalso;cases d<;>simp[hr]at h
 cases o with
 |call f args =>
  cases d with
  |none =>
   simp only[roStep]at hi
   split at hi
   ·rename_i hf;cases hi;exact ⟨ho,fun r h=>ro_opcall hR hf h hb fun v=>ho⟩
   ·cases hi
  |some d =>
   simp only[roStep]at hi
   split at hi
   ·rename_i hf;cases hi;exact ⟨ho.other d _,fun r h=>ro_opcall hR hf h hb fun v=>ho.other d v⟩
   ·cases hi
 |box x =>
  cases d with
  |none=>exact gen2 (by simpa [roStep] using hi)
  |some d =>
   simp only[roStep]at hi
   cases hi
   refine ⟨ho.putOwn hun,fun r hv=>?_⟩
   obtain ⟨v,G',e,hk⟩:=ro_op (o:=.box x) rfl hv hb
   refine .inl ⟨v,G',e,hk,ho.putOwn fun id hid=>?_⟩
   subst e
   simp only[evOp]at hv
   split at hv
   ·split at hv
    ·cases hv;simp[tids]at hid;omega
    ·cases hv
   ·cases hv
 |new x =>
  cases d with
  |none=>exact gen2 (by simpa [roStep] using hi)
  |some d =>
   simp only[roStep]at hi
   cases hi
   refine ⟨ho.putOwn hun,fun r hv=>?_⟩
   obtain ⟨v,G',e,hk⟩:=ro_op (o:=.new x) rfl hv hb
   refine .inl ⟨v,G',e,hk,ho.putOwn fun id hid=>?_⟩
   subst e
   simp only[evOp]at hv
   split at hv
   ·cases hv;simp[tids]at hid;omega
   ·cases hv
 |bslice sz z m ps =>
  cases d with
  |none=>exact gen2 (by simpa [roStep] using hi)
  |some d =>
   simp only[roStep]at hi
   cases hi
   refine ⟨ho.putOwn hun,fun r hv=>?_⟩
   simp only[evOp]at hv
   split at hv
   ·split at hv
    ·cases hv
    ·split at hv
     ·cases hv
     ·rename_i rows G2 hf
      cases hv
      have hl:=aeq_lt (fillRows_aeq hf)
      refine .inl ⟨_,_,rfl,⟨by simp;omega,fun id hid=>?_⟩,ho.putOwn fun id hid=>?_⟩
      ·rw[List.getElem?_append_left (by omega)];exact fillRows_aeq hf id
      ·simp[tids]at hid;omega
   ·cases hv
 |app str sz b x y =>
  cases x with
  |k a=>cases d<;>exact gen2 (by simpa [roStep] using hi)
  |t x =>
   cases d with
   |none=>exact gen2 (by simpa [roStep] using hi)
   |some d =>
    simp only[roStep]at hi
    split at hi
    ·rename_i hm
     cases hi
     refine ⟨ho.putOwn hun,fun r hv=>?_⟩
     simp only[evOp,opd]at hv
     split at hv
     ·rename_i u v hu hvv
      split at hv
      ·rename_i w G2 ha
       cases hv
       obtain ⟨a1,a2⟩:=ro_app hb (fun id hid=>ho x (by simpa using hm) u hu id hid) ha
       exact .inl ⟨_,_,rfl,a1,ho.putOwn a2⟩
      ·cases hv
     ·cases hv
    ·cases hi
 |mov x =>
  cases d with
  |none=>cases x<;>exact gen2 (by simpa [roStep] using hi)
  |some d =>
   cases x with
   |t x =>
    simp only[roStep]at hi
    split at hi
    ·rename_i hm
     cases hi
     refine ⟨ho.putOwn hun,fun r hv=>?_⟩
     obtain ⟨v,G',e,hk⟩:=ro_op (o:=.mov (.t x)) rfl hv hb
     refine .inl ⟨v,G',e,hk,ho.putOwn fun id hid=>?_⟩
     subst e
     simp only[evOp,opd]at hv
     cases hl:lk env x with
     |none=>rw[hl]at hv;simp[one]at hv
     |some u=>rw[hl]at hv;simp[one]at hv;obtain ⟨rfl,_⟩:=hv;exact ho x (by simpa using hm) u hl id hid
    ·exact gen rfl hi
   |k a =>
    simp only[roStep]at hi
    split at hi
    ·rename_i hm
     cases hi
     refine ⟨ho.putOwn hun,fun r hv=>?_⟩
     obtain ⟨v,G',e,hk⟩:=ro_op (o:=.mov (.k a)) rfl hv hb
     refine .inl ⟨v,G',e,hk,ho.putOwn fun id hid=>?_⟩
     subst e
     simp[evOp,opd,one]at hv
     obtain ⟨rfl,_⟩:=hv
     cases a<;>simp[tids,below]at hid hm
    ·exact gen rfl hi
 |store m x y =>
  cases x with
  |k a=>cases d<;>exact gen2 (by simpa [roStep] using hi)
  |t dd =>
   cases d with
   |some d=>exact gen2 (by simpa [roStep] using hi)
   |none =>
    simp only[roStep]at hi
    split at hi
    ·rename_i hm
     cases hi
     refine ⟨ho,fun r hv=>?_⟩
     simp only[evOp,opd]at hv
     split at hv
     ·rename_i u v hu hvv
      split at hv
      ·rename_i G' hs
       cases hv
       exact .inl ⟨_,_,rfl,ro_store hb (fun id hid=>ho dd (by simpa using hm) u hu id hid) hs,ho⟩
      ·cases hv
     ·cases hv
    ·cases hi
 |_=>cases d<;>exact gen2 (by simpa [roStep] using hi)
theorem ro_ops (hR:RoCall pg call){n:Nat}{base:Nat}:∀ {l:List CI} {own own':List Nat} {env:Env} {G:Heap} {e:Ex} {F:Env} {G':Heap},roOps (roFnD pg n) own l=some own'→Own base own env→base≤G.length→evOps pg call l env G=some (e,F,G')→KeptB base G G'∧(e=.normal→Own base own' F)∧∀ j,e≠.exit j
 |[],own,own',env,G,e,F,G',hl,ho,hb,h=>by
  simp[evOps]at h
  simp[roOps]at hl
  obtain ⟨rfl,rfl,rfl⟩:=h
  subst hl
  exact ⟨.refl hb,fun _=>ho,fun j h=>by cases h⟩
 |i::r,own,own',env,G,e,F,G',hl,ho,hb,h=>by
  simp only[roOps]at hl
  split at hl
  ·cases hl
  ·rename_i own1 h1
   obtain ⟨s1,s2⟩:=ro_step hR h1 ho hb
   simp only[evOps]at h
   split at h
   ·cases h
   ·exact ro_ops hR hl s1 hb h
   ·split at h
    ·cases h
    ·rename_i v G1 hv
     rcases s2 _ hv with ⟨v',G1',e1,hk,ho'⟩|⟨v',G1',e1,hk⟩
     ·cases e1
      obtain ⟨a1,a2⟩:=ro_ops hR hl ho' hk.1 h
      exact ⟨hk.trans a1,a2⟩
     ·cases e1
    ·rename_i v G1 hv
     rcases s2 _ hv with ⟨v',G1',e1,hk,ho'⟩|⟨v',G1',e1,hk⟩
     ·cases e1
     ·cases e1;cases h;exact ⟨hk,(fun h=>by cases h),fun j h=>by cases h⟩
theorem Own.restr {base:Nat}{own:List Nat}{env:Env}(h:Own base own env)(live:List Nat):Own base own (restr live env):=by
 intro d hd v hv id hid
 refine h d hd v ?_ id hid
 clear hd
 induction live with
 |nil=>simp[Z.restr,lk]at hv
 |cons k r ih =>
  unfold Z.restr at hv
  split at hv
  ·rename_i w hw
   simp only[lk]at hv
   split at hv
   ·rename_i e;subst e;cases hv;exact hw
   ·exact ih hv
  ·exact ih hv
def RoLoop (pg:Prg)(loop:LoopF):Prop:=∀ n b live a env G e F G' own own',roCode (roFnD pg n) own a=some own'→(∀ d,d∈own→d∈own')→Own b own env→Cl b G→b≤G.length→loop b live a env G=some (e,F,G')→KeptB b G G'∧e≠.normal∧∀ j,e=.exit j→noExit j a=false
theorem ro_code (hR:RoCall pg call)(hL:RoLoop pg loop){n:Nat}{base:Nat}:∀ {c:CCode} {own own':List Nat} {env:Env} {G:Heap} {e:Ex} {F:Env} {G':Heap},roCode (roFnD pg n) own c=some own'→Own base own env→Cl base G→base≤G.length→evCode pg call loop base c env G=some (e,F,G')→KeptB base G G'∧(e=.normal→Own base own' F)∧∀ j,e=.exit j→noExit j c=false
 |.skip,own,own',env,G,e,F,G',hc,ho,hcl,hb,h=>by simp[evCode]at h;simp[roCode]at hc;obtain ⟨rfl,rfl,rfl⟩:=h;subst hc;exact ⟨.refl hb,fun _=>ho,fun j h=>by cases h⟩
 |.ret,own,own',env,G,e,F,G',hc,ho,hcl,hb,h=>by simp[evCode]at h;obtain ⟨rfl,rfl,rfl⟩:=h;exact ⟨.refl hb,(fun h=>by cases h),fun j h=>by cases h⟩
 |.exit id,own,own',env,G,e,F,G',hc,ho,hcl,hb,h=>by simp[evCode]at h;obtain ⟨rfl,rfl,rfl⟩:=h;exact ⟨.refl hb,(fun h=>by cases h),fun j h=>by cases h;simp[noExit]⟩
 |.seq a b,own,own',env,G,e,F,G',hc,ho,hcl,hb,h=>by
  simp only[roCode]at hc
  split at hc
  ·cases hc
  ·rename_i own1 h1
   simp only[evCode]at h
   cases ha:evCode pg call loop base a env G with
   |none=>rw[ha]at h;cases h
   |some x =>
    rcases x with ⟨e1,env1,G1⟩
    rw[ha]at h
    obtain ⟨k1,k2,k3⟩:=ro_code hR hL h1 ho hcl hb ha
    cases e1 with
    |normal =>
     obtain ⟨l1,l2,l3⟩:=ro_code hR hL hc (k2 rfl) (hcl.kept k1) k1.1 h
     exact ⟨k1.trans l1,l2,fun j hj=>by simp[noExit,l3 j hj]⟩
    |_=>cases h;exact ⟨k1,(fun h=>by cases h),fun j hj=>by simp[noExit,k3 j hj]⟩
 |.cond x a b,own,own',env,G,e,F,G',hc,ho,hcl,hb,h=>by
  simp only[roCode]at hc
  split at hc
  ·rename_i o1 o2 h1 h2
   cases hc
   simp only[evCode]at h
   split at h
   ·split at h
    ·obtain ⟨k1,k2,k3⟩:=ro_code hR hL h1 ho hcl hb h
     exact ⟨k1,fun e=>(k2 e).sub fun d hd=>by simp at hd;exact hd.1,fun j hj=>by simp[noExit,k3 j hj]⟩
    ·obtain ⟨k1,k2,k3⟩:=ro_code hR hL h2 ho hcl hb h
     exact ⟨k1,fun e=>(k2 e).sub fun d hd=>by simp at hd;exact hd.2,fun j hj=>by simp[noExit,k3 j hj]⟩
   ·cases h
  ·cases hc
 |.block id a,own,own',env,G,e,F,G',hc,ho,hcl,hb,h=>by
  simp only[roCode]at hc
  split at hc
  ·rename_i o1 h1
   simp only[evCode]at h
   cases ha:evCode pg call loop base a env G with
   |none=>rw[ha]at h;cases h
   |some x =>
    rcases x with ⟨e1,env1,G1⟩
    rw[ha]at h
    obtain ⟨k1,k2,k3⟩:=ro_code hR hL h1 ho hcl hb ha
    cases e1 with
    |exit id' =>
     dsimp only at h
     split at h
     ·rename_i he
      subst he
      cases h
      rw[k3 _ rfl]at hc
      simp at hc
      subst hc
      exact ⟨k1,fun _=>.nil _ _,fun j h=>by cases h⟩
     ·cases h
      exact ⟨k1,(fun h=>by cases h),fun j hj=>by cases hj;simp[noExit,k3 _ rfl]⟩
    |normal =>
     cases h
     refine ⟨k1,fun _=>?_,fun j h=>by cases h⟩
     split at hc
     ·cases hc;exact k2 rfl
     ·cases hc;exact .nil _ _
    |_=>cases h;exact ⟨k1,(fun h=>by cases h),fun j h=>by cases h⟩
  ·cases hc
 |.ops live l,own,own',env,G,e,F,G',hc,ho,hcl,hb,h=>by
  simp only[roCode]at hc
  simp only[evCode]at h
  cases ha:evOps pg call l env G with
  |none=>rw[ha]at h;cases h
  |some x =>
   rcases x with ⟨e1,env1,G1⟩
   rw[ha]at h
   obtain ⟨k1,k2,k3⟩:=ro_ops hR hc ho hb ha
   cases e1 with
   |normal=>cases h;exact ⟨k1,fun _=>(k2 rfl).restr live,fun j h=>by cases h⟩
   |exit j=>exact absurd rfl (k3 j)
   |_=>cases h;exact ⟨k1,(fun h=>by cases h),fun j h=>by cases h⟩
 |.draw live n r k,own,own',env,G,e,F,G',hc,ho,hcl,hb,h=>by
  simp only[roCode]at hc
  split at hc
  ·cases hc
  ·rename_i own1 hn
   simp only[evCode]at h
   split at h
   ·rename_i h1
    obtain ⟨k1,k2,_⟩:=ro_ops hR hn ho hb h1
    split at h
    ·rename_i h2
     obtain ⟨l1,l2,_⟩:=ro_ops hR hc (k2 rfl) k1.1 h2
     split at h
     ·cases h;exact ⟨k1.trans l1,fun _=>(l2 rfl).restr live,fun j h=>by cases h⟩
     ·cases h
    ·cases h
   ·cases h
 |.loop live a,own,own',env,G,e,F,G',hc,ho,hcl,hb,h=>by
  simp only[roCode]at hc
  split at hc
  ·rename_i o1 h1
   split at hc
   ·rename_i hs
    cases hc
    simp only[evCode]at h
    split at h
    ·rename_i env1 G1 hg
     obtain ⟨g1,g2⟩:=gc_kept hg hb hcl
     obtain ⟨m1,m2,m3⟩:=hL n base live a env1 G1 e F G' own o1 h1 (fun d hd=>by simpa using List.all_eq_true.mp hs d hd) (g2 own ho) (hcl.kept g1) g1.1 h
     exact ⟨g1.trans m1,fun _=>.nil _ _,fun j hj=>by simp[noExit,m3 j hj]⟩
    ·cases h
   ·cases hc
  ·cases hc
theorem leave_take {base:Nat}{o o':Out}{G G':Heap}(h:leave base o G=some (o',G')):G'=G.take base:=by
 unfold leave at h
 split at h
 ·cases h;rfl
 ·cases h
theorem ro_fun (hR:RoCall pg call)(hL:RoLoop pg loop){n:Nat}{c:CFun}(hc:(roCode (roFnD pg n) [] c.body).isSome=true){args:List AV}{G G':Heap}{out:Out}(hcl:Cl G.length G)(h:evFun pg call loop c args G=some (out,G')):∀ id:Nat,id<G.length→AEq G'[id]? G[id]?:=by
 intro id hid
 unfold evFun at h
 cases hev:evCode pg call loop G.length c.body (iEv 0 args) G with
 |none=>rw[hev]at h;cases h
 |some r =>
  rcases r with ⟨e,env',G1⟩
  rw[hev]at h
  obtain ⟨own',hc'⟩:=Option.isSome_iff_exists.1 hc
  have h1:=(ro_code hR hL (base:=G.length) hc' (.nil _ _) hcl (Nat.le_refl _) hev).1
  have hret:(match evRes env' G1 c.res with
    |none=>none
    |some vs=>if c.keepRes then some (Out.ret (whole vs),G1) else match norm G1 (whole vs) with
     |some (v,G')=>leave G.length (.ret v) G'
     |none=>none)=some (out,G')→AEq G'[id]? G[id]?:=by
   intro h
   split at h
   ·cases h
   ·split at h
    ·cases h;exact h1.2 id hid
    ·split at h
     ·rename_i v G2 hn
      rw[leave_take h,List.getElem?_take,if_pos hid]
      exact (norm_aeq hn id).trans (h1.2 id hid)
     ·cases h
  cases e with
  |normal=>exact hret h
  |ret=>exact hret h
  |exit id'=>cases h
  |pan v=>rw[leave_take h,List.getElem?_take,if_pos hid];exact h1.2 id hid
theorem ro_loop:∀ n,RoCall pg (evCall pg n)→RoLoop pg (evLoop pg n)→RoLoop pg (evLoop pg (n+1)):=by
 intro n hR hL
 intro k b live a env G e F G' own own' hc hs ho hcl hb h
 unfold evLoop at h
 cases hev:evCode pg (evCall pg n) (evLoop pg n) b a env G with
 |none=>rw[hev]at h;cases h
 |some r =>
  rcases r with ⟨e1,env1,G1⟩
  rw[hev]at h
  obtain ⟨k1,k2,k3⟩:=ro_code hR hL hc ho hcl hb hev
  cases e1 with
  |normal =>
   dsimp only at h
   split at h
   ·rename_i env2 G2 hg
    obtain ⟨g1,g2⟩:=gc_kept hg k1.1 (hcl.kept k1)
    obtain ⟨m1,m2,m3⟩:=hL k b live a env2 G2 e F G' own own' hc hs (g2 own ((k2 rfl).sub hs)) ((hcl.kept k1).kept g1) g1.1 h
    exact ⟨(k1.trans g1).trans m1,m2,m3⟩
   ·cases h
  |_=>cases h;exact ⟨k1,(fun h=>by cases h),fun j hj=>k3 j hj⟩
theorem callop_kept (hR:RoCall pg call){o:COp}{f:Nat}{args:List Opd}{env:Env}{G:Heap}(hk:kindOf o=.call f args){v:AV}{G1:Heap}(h:evOp pg call o env G=some (.val v G1)){F:Env}{L:Nat}(hF:∀ t,t∈oTs args→lk env t=lk F t)(hc:chkOK pg F L (.closed f (oTs args))=true):∀ id:Nat,id<G.length→AEq G1[id]? G[id]?:=by
 simp only[chkOK,Bool.or_eq_true,Bool.and_eq_true,List.all_eq_true,Bool.not_eq_true']at hc
 rcases hc with hf|⟨hka,hts⟩
 ·cases o with
  |call f' args' =>
   simp only[kindOf]at hk
   split at hk
   ·cases hk
    simp only[evOp]at h
    split at h
    ·rename_i vs hv
     cases hc:eCA pg call f vs G with
     |none=>rw[hc]at h;simp[Res.of]at h
     |some y =>
      rcases y with ⟨out,G2⟩
      rw[hc]at h
      cases out with
      |ret u=>simp[Res.of]at h;obtain ⟨rfl,rfl⟩:=h;exact ro_callAt hR hf hc
      |pan u=>simp[Res.of]at h
    ·cases h
   ·cases hk
  |store n x y=>cases x<;>simp[kindOf]at hk
  |app a b c x y=>cases x<;>simp[kindOf]at hk
  |load n g y=>cases y<;>simp[kindOf]at hk
  |len b y=>cases y<;>simp[kindOf]at hk
  |tostr y=>cases y<;>simp[kindOf]at hk
  |iaddr sz alen y i=>cases y<;>simp[kindOf]at hk
  |_=>simp[kindOf]at hk
 ·exact callop_spec hk h hka fun t ht v hv=>by
   have:=hts t ht
   simpa [noIdAt,← hF t ht,hv] using this
end
section
variable {pg:Prg}{call:CallF}
structure Free (pg:Prg)(F:Env)(L:Nat)(j i:CI):Prop where
 dst:∀ d,j.d=some d→i.d≠some d
 ji:∀ d,j.d=some d→d∉ciReads i
 ij:∀ d,i.d=some d→d∉ciReads j
 need:∃ cs,needs (kindOf j.o) (kindOf i.o)=some cs∧∀ c,c∈cs→chkOK pg F L c=true
theorem swap (hR:RoCall pg call){j i:CI}{env:Env}{G:Heap}{e1:Env}{G1:Heap}{F:Env}{G2:Heap}{L:Nat}(hL:L≤G.length)(h1:evCI pg call j env G=some (e1,G1))(h2:evCI pg call i e1 G1=some (F,G2))(hf:Free pg env L j i) :
  ∃ e1' G1' F',evCI pg call i env G=some (e1',G1')∧evCI pg call j e1' G1'=some (F',G2)∧LkEq F' F:=by
 obtain ⟨vj,rfl,hj2,hj3⟩:=evCI_inv h1
 obtain ⟨vi,rfl,hi2,hi3⟩:=evCI_inv h2
 have hri:∀ t,t∈ciReads i→lk (put env j.d vj) t=lk env t:=fun t ht=>by
  rw[lk_put,if_neg]
  intro e
  exact hf.ji t e ht
 have hrj:∀ t,t∈ciReads j→lk env t=lk (put env i.d vi) t:=fun t ht=>by
  rw[lk_put,if_neg]
  intro e
  exact hf.ij t e ht
 have hfin:LkEq (put (put env i.d vi) j.d vj) (put (put env j.d vj) i.d vi):=by
  intro t
  simp only[lk_put]
  by_cases e1:j.d=some t
  ·have:=hf.dst t e1
   simp[e1,this]
  ·simp[e1]
 rcases hj3 with ⟨rfl,hj3⟩|⟨gj,oj,sj⟩
 ·exact ⟨_,_,_,hi2 env hri,hj3 _ _ hrj,hfin⟩
 ·rcases hi3 with ⟨rfl,hi3⟩|⟨gi,oi,si⟩
  ·exact ⟨_,_,_,hi3 env G hri,hj2 _ hrj,hfin⟩
  ·obtain ⟨cs,hn,hcs⟩:=hf.need
   have oi':evOp pg call i.o env G1=some (.val vi G2):=by rw[← evOp_reads fun t ht=>hri t (by simp[ciReads,ht])];exact oi
   have hg:∀ env',(∀ t,t∈ciReads i→lk (put env j.d vj) t=lk env' t)→gOK env' i.g=some true:=by
    intro env' he
    rw[← gi]
    cases hc:i.g with
    |none=>rfl
    |some p =>
     rcases p with ⟨t,w⟩
     simp only[gOK]
     rw[he t (by simp[ciReads,hc])]
   have hgj:∀ env',(∀ t,t∈ciReads j→lk env t=lk env' t)→gOK env' j.g=some true:=by
    intro env' he
    rw[← gj]
    cases hc:j.g with
    |none=>rfl
    |some p =>
     rcases p with ⟨t,w⟩
     simp only[gOK]
     rw[he t (by simp[ciReads,hc])]
   have mkI:∀ {G':Heap} {G'':Heap},evOp pg call i.o env G'=some (.val vi G'')→evCI pg call i env G'=some (put env i.d vi,G''):=by
    intro G' G'' h
    unfold evCI
    rw[hg env hri]
    dsimp only
    rw[h]
   have mkJ:∀ {G':Heap} {G'':Heap},evOp pg call j.o env G'=some (.val vj G'')→evCI pg call j (put env i.d vi) G'=some (put (put env i.d vi) j.d vj,G''):=by
    intro G' G'' h
    unfold evCI
    rw[hgj _ hrj]
    dsimp only
    rw[← evOp_reads (env:=env) fun t ht=>hrj t (by simp[ciReads,ht]),h]
   have readThenWrite:∀ {x:Nat},kindOf j.o=.reader x→(∀ u,lk env x=some u→∀ id:Nat,id∈tids u→id<G.length→AEq G2[id]? G[id]?)→∃ e1' G1' F',evCI pg call i env G=some (e1',G1')∧evCI pg call j e1' G1'=some (F',G2)∧LkEq F' (put (put env j.d vj) i.d vi):=by
    intro x hk ha
    obtain ⟨v,e,hall⟩:=reader_spec hk oj
    cases e
    exact ⟨_,_,_,mkI oi',mkJ (hall G2 ha),hfin⟩
   have writeThenRead:∀ {x:Nat},kindOf i.o=.reader x→(∀ u,lk env x=some u→∀ id:Nat,id∈tids u→AEq G[id]? G1[id]?)→∃ e1' G1' F',evCI pg call i env G=some (e1',G1')∧evCI pg call j e1' G1'=some (F',G2)∧LkEq F' (put (put env j.d vj) i.d vi):=by
    intro x hk ha
    obtain ⟨v,e,hall⟩:=reader_spec hk oi'
    cases e
    exact ⟨_,_,_,mkI (hall G (fun u hu id hid _=>ha u hu id hid)),mkJ oj,hfin⟩
   have hG1:∀ {x:Nat},kindOf j.o=.reader x→G1=G:=by
    intro x hk
    obtain ⟨v,e,_⟩:=reader_spec hk oj
    cases e
    rfl
   have hlow:∀ {x:Nat},Chk.low x∈cs→∀ u,lk env x=some u→∀ id:Nat,id∈tids u→id<G.length:=by
    intro x hx u hu id hid
    have:=hcs _ hx
    simp only[chkOK,hu,List.all_eq_true]at this
    have:=Nat.blt_eq.mp (this id hid)
    omega
   have hapart:∀ {x y:Nat},Chk.apart x y∈cs→∀ u v,lk env x=some u→lk env y=some v→∀ id:Nat,id∈tids u→id∉tids v:=by
    intro x y hx u v hu hv id hid hid'
    have:=hcs _ hx
    simp only[chkOK,hu,hv,List.all_eq_true]at this
    have:=this id hid id hid'
    simp at this
   have hquiet:∀ {f:Nat} {ts:List Nat},Chk.quiet f ts∈cs→quietFn pg f=true∧∀ t,t∈ts→∀ v,lk env t=some v→below 0 v=true:=by
    intro f ts hx
    have:=hcs _ hx
    simp only[chkOK,Bool.and_eq_true,List.all_eq_true,Bool.not_eq_true']at this
    exact ⟨this.1.1,fun t ht v hv=>by have:=this.2 t ht;simpa [pureAt,hv] using this⟩
   have hclosed:∀ {f:Nat} {ts:List Nat},Chk.closed f ts∈cs→chkOK pg env L (.closed f ts)=true:=fun hx=>hcs _ hx
   cases hkj:kindOf j.o with
   |silent=>rw[hkj]at sj;simp[isSilent]at sj
   |bad =>
    rw[hkj]at hn
    cases hki:kindOf i.o with
    |silent=>rw[hki]at si;simp[isSilent]at si
    |_=>rw[hki]at hn;simp[needs]at hn
   |reader x =>
    have e:=hG1 hkj
    subst e
    rw[hkj]at hn
    cases hki:kindOf i.o with
    |silent=>rw[hki]at si;simp[isSilent]at si
    |bad=>rw[hki]at hn;simp[needs]at hn
    |reader y =>
     refine readThenWrite hkj fun u hu id hid hlt=>?_
     obtain ⟨v,e,_⟩:=reader_spec hki oi'
     cases e
     exact .refl _
    |writer y =>
     refine readThenWrite hkj fun u hu id hid hlt=>writer_spec hki oi' id hlt fun t v ht hv=>?_
     subst ht
     rw[hki]at hn
     simp[needs]at hn
     exact hapart (x:=x) (y:=t) (by rw[← hn];simp) u v hu hv id hid
    |alloc =>
     refine readThenWrite hkj fun u hu id hid hlt=>?_
     obtain ⟨ob,rfl⟩:=alloc_spec hki oi'
     rw[List.getElem?_append_left hlt]
     exact .refl _
    |call f args =>
     rw[hki]at hn
     simp[needs]at hn
     have hc:=hclosed (f:=f) (ts:=oTs args) (by rw[← hn];simp)
     exact readThenWrite hkj fun u hu id hid hlt=>callop_kept hR hki oi' (fun _ _=>rfl) hc id hlt
   |alloc =>
    rw[hkj]at hn
    obtain ⟨ob,hob⟩:=alloc_spec hkj oj
    cases hki:kindOf i.o with
    |silent=>rw[hki]at si;simp[isSilent]at si
    |bad=>rw[hki]at hn;simp[needs]at hn
    |writer z=>rw[hki]at hn;cases z<;>simp[needs]at hn
    |alloc=>rw[hki]at hn;simp[needs]at hn
    |call f args =>
     rw[hki]at hn
     simp[needs]at hn
     obtain ⟨q1,q2⟩:=hquiet (f:=f) (ts:=oTs args) (by rw[← hn];simp)
     obtain ⟨e,hall⟩:=quiet_op hR.1 hki oi' q1 q2
     subst e
     exact ⟨_,_,_,mkI (hall G),mkJ oj,hfin⟩
    |reader x =>
     rw[hki]at hn
     simp[needs]at hn
     refine writeThenRead hki fun u hu id hid=>?_
     have:=hlow (x:=x) (by rw[← hn];simp) u hu id hid
     rw[hob,List.getElem?_append_left this]
     exact .refl _
   |writer y =>
    rw[hkj]at hn
    cases hki:kindOf i.o with
    |alloc=>rw[hki]at hn;cases y<;>simp[needs]at hn
    |silent=>rw[hki]at si;simp[isSilent]at si
    |bad=>rw[hki]at hn;cases y<;>simp[needs]at hn
    |writer z=>rw[hki]at hn;cases y<;>simp[needs]at hn
    |call f args=>rw[hki]at hn;cases y<;>simp[needs]at hn
    |reader x =>
     rw[hki]at hn
     refine writeThenRead hki fun u hu id hid=>(writer_spec hkj oj id (hlow (x:=x) ?_ u hu id hid) fun t v ht hv=>?_).symm
     ·cases y<;>(simp[needs]at hn;rw[← hn];simp)
     ·subst ht
      simp[needs]at hn
      exact hapart (x:=x) (y:=t) (by rw[← hn];simp) u v hu hv id hid
   |call f args =>
    rw[hkj]at hn
    cases hki:kindOf i.o with
    |silent=>rw[hki]at si;simp[isSilent]at si
    |bad=>rw[hki]at hn;simp[needs]at hn
    |writer z=>rw[hki]at hn;simp[needs]at hn
    |call f args=>rw[hki]at hn;simp[needs]at hn
    |alloc =>
     rw[hki]at hn
     simp[needs]at hn
     obtain ⟨q1,q2⟩:=hquiet (f:=f) (ts:=oTs args) (by rw[← hn];simp)
     obtain ⟨e,hall⟩:=quiet_op hR.1 hkj oj q1 q2
     subst e
     exact ⟨_,_,_,mkI oi',mkJ (hall G2),hfin⟩
    |reader x =>
     rw[hki]at hn
     simp[needs]at hn
     have hc:=hclosed (f:=f) (ts:=oTs args) (by rw[← hn];simp)
     exact writeThenRead hki fun u hu id hid=>(callop_kept hR hkj oj (fun _ _=>rfl) hc id (hlow (x:=x) (by rw[← hn];simp) u hu id hid)).symm
def Stable (c:CI)(rest:List CI):Prop:=isSilent (kindOf c.o)=false→∀ t,t∈ciReads c→∀ c',c'∈rest→c'.d≠some t
theorem bubble (hR:RoCall pg call){i:CI}{q:List CI}{L:Nat}:∀ (p:List CI) {env:Env} {G:Heap} {F:Env} {G2:Heap},L≤G.length→evN pg call (p++i::q) env G=some (F,G2) →
  Stable i (p++i::q)→(∀ a j b,p=a++j::b→Stable j (j::b++i::q))→(∀ j,j∈p→Free pg F L j i)→∃ F',evN pg call (i::p++q) env G=some (F',G2)∧LkEq F' F
 |[],env,G,F,G2,hL,h,hi,hp,hf=>⟨F,h,fun _=>rfl⟩
 |j::p,env,G,F,G2,hL,h,hi,hp,hf=>by
  simp only[List.cons_append,evN]at h
  split at h
  ·cases h
  ·rename_i e1 G1 hj
   have hL1:L≤G1.length:=Nat.le_trans hL (evCI_len hj)
   obtain ⟨F1,h1,hF1⟩:=bubble hR p hL1 h (fun hs t ht c' hc'=>hi hs t ht c' (by simp only[List.cons_append,List.mem_cons];exact .inr hc')) (fun a j' b e=>hp (j::a) j' b (by rw[e];rfl)) (fun j' hj'=>hf j' (by simp[hj']))
   simp only[List.cons_append,evN]at h1
   split at h1
   ·cases h1
   ·rename_i e2 G3 hi'
    have hfj:=hf j (by simp)
    have hwhole:evN pg call (j::i::(p++q)) env G=some (F1,G2):=by simp only[evN];rw[hj];dsimp only;rw[hi'];exact h1
    have hlkj:isSilent (kindOf j.o)=false→∀ t,t∈ciReads j→lk env t=lk F t:=by
     intro hs t ht
     rw[← hF1 t]
     refine (evN_lk hwhole t fun c hc=>?_).symm
     refine hp [] j p rfl hs t ht c ?_
     simp only[List.mem_cons,List.mem_append]at hc ⊢
     rcases hc with rfl|rfl|hc|hc
     ·simp
     ·simp
     ·simp[hc]
     ·simp[hc]
    have hlki:isSilent (kindOf i.o)=false→∀ t,t∈ciReads i→lk env t=lk F t:=by
     intro hs t ht
     rw[← hF1 t]
     refine (evN_lk hwhole t fun c hc=>?_).symm
     refine hi hs t ht c ?_
     simp only[List.cons_append,List.mem_cons,List.mem_append]at hc ⊢
     rcases hc with rfl|rfl|hc|hc
     ·simp
     ·simp
     ·simp[hc]
     ·simp[hc]
    have hfree:Free pg env L j i:=by
     refine ⟨hfj.dst,hfj.ji,hfj.ij,?_⟩
     obtain ⟨cs,hn,hcs⟩:=hfj.need
     refine ⟨cs,hn,fun c hc=>?_⟩
     obtain ⟨s1,s2,s3⟩:=needs_tmps hn hc
     rw[chkOK_congr (F:=F) (fun t ht=>?_)]
     ·exact hcs c hc
     ·rcases s3 t ht with h|h
      ·exact hlkj s1 t (by simp[ciReads,h])
      ·exact hlki s2 t (by simp[ciReads,h])
    obtain ⟨e1',G1',F',a1,a2,a3⟩:=swap hR hL hj hi' hfree
    obtain ⟨F2,b1,b2⟩:=evN_congr h1 a3
    refine ⟨F2,?_,fun t=>(b2 t).trans (hF1 t)⟩
    simp only[List.cons_append,evN]
    rw[a1]
    dsimp only
    rw[a2]
    exact b1
end
end Go.Proofs.Z
end
