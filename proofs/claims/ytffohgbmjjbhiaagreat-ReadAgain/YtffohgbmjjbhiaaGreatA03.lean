/- A part of the proof. -/
import Derived.Test.YtffohgbmjjbhiaaGreatA01
import Derived.Great.BuildSlice
import Derived.Laws.BytesArg
set_option linter.all false
section
namespace Go.Proofs.Z
open Go
theorem setCells_heap (b:Nat):∀ (vs:List Value) (o:Nat) (w:World) (cs:Array Value) (T:TypeId) (f:Nat×Nat),w.heap[b]?=some (.cells cs T f)→o+vs.length≤cs.size →
  ∃ cs',(w.setCells b o vs).heap[b]?=some (.cells cs' T f)∧cs'.size=cs.size∧(∀ j,j<vs.length→cs'[o+j]?=vs[j]?)∧(∀ k,k<o∨o+vs.length≤k→cs'[k]?=cs[k]?)
 |[],o,w,cs,T,f,h,hs=>⟨cs,h,rfl,fun j hj=>by simp at hj,fun _ _=>rfl⟩
 |v::vs,o,w,cs,T,f,h,hs=>by
  simp at hs
  have h':(w.setCell ⟨b,o,none⟩ v).heap[b]?=some (.cells (cs.setIfInBounds o v) T f):=by
   simp[World.setCell,Array.getElem?_modify,h]
  obtain ⟨cs',h1,h2,h3,h4⟩:=setCells_heap b vs (o+1) (w.setCell ⟨b,o,none⟩ v) _ T f h' (by simp;omega)
  refine ⟨cs',by rw[World.setCells];exact h1,by simpa using h2,fun j hj=>?_,fun k hk=>?_⟩
  ·cases j with
   |zero =>
    rw[h4 (o+0) (by omega)]
    have:o<cs.size:=by omega
    simp[Array.getElem?_setIfInBounds,this]
   |succ j =>
    have:=h3 j (by simpa using hj)
    rw[show o+(j+1)=o+1+j by omega,this]
    simp
  ·simp at hk
   rw[h4 k (by omega)]
   have:o≠k:=by omega
   simp[Array.getElem?_setIfInBounds,this]
theorem setCells_other (b:Nat):∀ (vs:List Value) (o:Nat) (w:World),(w.setCells b o vs).os=w.os∧(w.setCells b o vs).tape=w.tape∧(w.setCells b o vs).output=w.output∧(w.setCells b o vs).heap.size=w.heap.size ∧
  ∀ b',b'≠b→(w.setCells b o vs).heap[b']?=w.heap[b']?
 |[],o,w=>⟨rfl,rfl,rfl,rfl,fun _ _=>rfl⟩
 |v::vs,o,w=>by
  obtain ⟨h1,h2,h3,h4,h5⟩:=setCells_other b vs (o+1) (w.setCell ⟨b,o,none⟩ v)
  rw[World.setCells]
  refine ⟨h1,h2,h3,by rw[h4];simp[World.setCell],fun b' hb=>?_⟩
  rw[h5 b' hb]
  simp[World.setCell,Array.getElem?_modify,Ne.symm hb]
section
variable {P:Program}{o:Oper}{a:Act}{m:Mem}{μ:Mu}{G:Heap}{w:World}
variable {N:Nat}{env:Env}(hI:Inv m μ G w)(he:EnvR m μ (inf G) N env a)
theorem newBox (hI:Inv m μ G w){vs:List Value}{l:List AV}(T:TypeId)(hr:RL m μ (inf G) vs l)(hf:l.all AV.flat=true) :
  ∃ μ',Inv m μ' (G++[.box l]) { w with heap:=w.heap.push (.cells vs.toArray T (0,0)) }∧Stp m μ G w m μ' (G++[.box l]) { w with heap:=w.heap.push (.cells vs.toArray T (0,0)) } ∧
   R m μ' (inf (G++[.box l])) (.pointer (some ⟨w.heap.size,0,none⟩)) (.ptr G.length 0):=by
 obtain ⟨h1,h2⟩:=alloc_step hI (.box l) vs.toArray T 0 _ rfl _ rfl (fun e=>⟨vs.toArray,T,by simp,by simpa using hr.1,fun j v c g1 g2=>(hr.2 j v c (by simpa using g1) g2).mono e,hf,fun o=>hI.fresh (Nat.le_refl _) o⟩)
 exact ⟨_,h1,h2,.ptr _ _ ⟨w.heap.size,0⟩ (by simp) (by rw[inf_last];rfl)⟩
include hI he
theorem good_box {x:Operand}{ox:Opd}{T:TypeId}(ho:o.op=.box T x)(hx:cOpd x=some ox){v:AV}(hv:opd env ox=some v)(hf:v.cells.all AV.flat=true):Good P o a m μ G w (.val (.ptr G.length 0) (G++[.box v.cells])):=by
 have hr:=opd_R he hx hv
 obtain ⟨μ',h1,h2,h3⟩:=newBox hI T (RL.cellsOf hr hf) hf
 intro next Q hn
 refine wp_of_val ?_ (hn _ _ _ _ h1 h2 h3)
 simp[execOp,ho,Instr.box,newVar,newRow]
theorem good_new {T:TypeId}(ho:o.op=.alloc T){cs:List AV}(hz:cZero P T=some cs)(hf:cs.all AV.flat=true):Good P o a m μ G w (.val (.ptr G.length 0) (G++[.box cs])):=by
 unfold cZero at hz
 split at hz
 ·rename_i v hv
  split at hz
  ·rename_i x hx
   cases hz
   obtain ⟨μ',h1,h2,h3⟩:=newBox hI T (RL.cellsOf (ofVal_R m μ (inf G) _ _ hx) hf) hf
   intro next Q hn
   refine wp_of_val ?_ (hn _ _ _ _ h1 h2 h3)
   cases hq:P.info? T with
   |none=>simp[hq]at hv
   |some i =>
    simp[hq]at hv
    simp[execOp,ho,Instr.alloc,zeroValue,typeInfo,hq,hv,newVar,newRow]
  ·cases hz
 ·cases hz
end
section
variable {P:Program}{o:Oper}{a:Act}{m:Mem}{μ:Mu}{G:Heap}{w:World}
theorem splice_get {α:Type}(l:List α)(off:Nat)(vs:List α)(h:off+vs.length≤l.length)(k:Nat):(splice l off vs)[k]?=if off≤k∧k<off+vs.length then vs[k-off]? else l[k]?:=by
 unfold splice
 by_cases h1:k<off
 ·rw[List.getElem?_append_left (by simp;omega),List.getElem?_append_left (by simp;omega),if_neg (by omega),List.getElem?_take,if_pos h1]
 ·by_cases h2:k<off+vs.length
  ·rw[List.getElem?_append_left (by simp;omega),List.getElem?_append_right (by simp;omega),if_pos (by omega)]
   simp[Nat.min_eq_left (show off≤l.length by omega)]
  ·rw[List.getElem?_append_right (by simp;omega),if_neg (by omega),List.getElem?_drop]
   congr 1
   simp[Nat.min_eq_left (show off≤l.length by omega)]
   omega
theorem splice_length {α:Type}(l:List α)(off:Nat)(vs:List α)(h:off+vs.length≤l.length):(splice l off vs).length=l.length:=by
 unfold splice;simp;omega
theorem RL.splice {i:Inf}{zc:Array Value}{zero:List AV}(hz:RL m μ i zc.toList zero){v:Value}{x:AV}(hv:RL m μ i v.cells.toList x.cells){off:Nat}(hle:off+x.cells.length≤zero.length) :
  RL m μ i (v.cells.zipIdx.foldl (fun cs (c,j)=>cs.setIfInBounds (off+j) c) zc).toList (Z.splice zero off x.cells):=by
 obtain ⟨g1,g2⟩:=Great.foldl_set off v.cells.toList 0 zc
 have e:(v.cells.zipIdx.foldl (fun cs (c,j)=>cs.setIfInBounds (off+j) c) zc)=((v.cells.toList.zipIdx 0).foldl (fun cs (x:Value×Nat)=>cs.setIfInBounds (off+x.2) x.1) zc):=by
  rw[← Array.foldl_toList,Array.toList_zipIdx]
 rw[e]
 have hzl:zc.size=zero.length:=by simpa using hz.1
 have hvl:v.cells.toList.length=x.cells.length:=hv.1
 refine ⟨by rw[splice_length _ _ _ hle];simpa using g1.trans hzl,fun k u c h1 h2=>?_⟩
 rw[Array.getElem?_toList,g2 k]at h1
 rw[splice_get _ _ _ hle]at h2
 simp only[Nat.add_zero]at h1
 by_cases hk:off≤k∧k<off+x.cells.length
 ·rw[if_pos ⟨hk.1,by omega,by omega⟩]at h1
  rw[if_pos hk]at h2
  exact hv.2 _ u c h1 h2
 ·rw[if_neg (by omega)]at h1
  rw[if_neg hk]at h2
  exact hz.2 k u c (by simpa using h1) h2
theorem fill_sound {i:Inf}(place:Nat→Option (Nat×Nat)):∀ (ps:List (Nat×Value)) (as:List (Nat×Nat×AV)) (zc:Array Value) (zero cs:List AV),
  ps.length=as.length→(∀ (k:Nat) (p:Nat×Value) (q:Nat×Nat×AV),ps[k]?=some p→as[k]?=some q→place p.1=some (q.1,q.2.1)∧R m μ i p.2 q.2.2) →
  RL m μ i zc.toList zero→fillAt zero as=some cs→∃ rc,Instr.fill place zc ps=some rc∧RL m μ i rc.toList cs
 |[],[],zc,zero,cs,_,_,hz,h=>by simp[fillAt]at h;subst h;exact ⟨zc,rfl,hz⟩
 |[],_::_,_,_,_,hl,_,_,_=>by simp at hl
 |_::_,[],_,_,_,hl,_,_,_=>by simp at hl
 |(k,v)::ps,(off,n,x)::as,zc,zero,cs,hl,hr,hz,h=>by
  obtain ⟨hp,hx⟩:=hr 0 _ _ rfl rfl
  simp only[fillAt]at h
  split at h
  ·rename_i hc
   have hv:=RL.cellsOf hx hc.2.2
   have hle:off+x.cells.length≤zero.length:=by rw[hc.1];exact hc.2.1
   obtain ⟨rc,h1,h2⟩:=fill_sound place ps as _ _ cs (by simpa using hl) (fun j p q g1 g2=>hr (j+1) p q (by simpa using g1) (by simpa using g2)) (hz.splice hv hle) h
   refine ⟨rc,?_,h2⟩
   unfold Instr.fill
   simp only[hp]
   have hvs:v.cells.size=n:=by have:=hv.1;simp at this;rw[this];exact hc.1
   have hzl:zc.size=zero.length:=by simpa using hz.1
   have h21:=hc.2.1
   rw[if_neg (by simp[hvs];omega)]
   exact h1
  ·cases h
theorem cBuild_spec {env:Env}{N:Nat}(he:EnvR m μ (inf G) N env a)(places:Nat→Option (Nat×Nat)):∀ (ps:List (Nat×Operand)) (l:List (Nat×Nat×Opd)),cBuild places ps=some l→∀ (vs:List AV),opds env (l.map (·.2.2))=some vs →
  (ps.map fun (i,x)=>(i,a.eval x)).length=((l.zip vs).map fun (p,v)=>(p.1,p.2.1,v)).length ∧
  ∀ (k:Nat) (p:Nat×Value) (q:Nat×Nat×AV),(ps.map fun (i,x)=>(i,a.eval x))[k]?=some p→((l.zip vs).map fun (p,v)=>(p.1,p.2.1,v))[k]?=some q→places p.1=some (q.1,q.2.1)∧R m μ (inf G) p.2 q.2.2
 |[],l,h,vs,hv=>by
  simp[cBuild]at h
  subst h
  exact ⟨rfl,fun k p q h1=>by simp at h1⟩
 |(i,x)::ps,l,h,vs,hv=>by
  simp only[cBuild]at h
  split at h
  ·rename_i oo n ax l' h1 h2 h3
   cases h
   simp only[List.map_cons,opds]at hv
   split at hv
   ·cases hv
   ·rename_i v hv1
    split at hv
    ·cases hv
    ·rename_i vs' hv2
     cases hv
     obtain ⟨g1,g2⟩:=cBuild_spec he places ps l' h3 vs' hv2
     refine ⟨by simpa using g1,fun k p q q1 q2=>?_⟩
     cases k with
     |zero =>
      simp at q1 q2
      subst q1;subst q2
      exact ⟨h1,opd_R he h2 hv1⟩
     |succ k=>exact g2 k p q (by simpa using q1) (by simpa using q2)
  ·cases h
theorem cZero_R {t:TypeId}{cs:List AV}(h:cZero P t=some cs)(hf:cs.all AV.flat=true)(i:Inf):∃ it z,P.info? t=some it∧it.zero=some z∧RL m μ i z.cells.toList cs:=by
 unfold cZero at h
 cases hq:P.info? t with
 |none=>simp[hq]at h
 |some it =>
  cases hz:it.zero with
  |none=>simp[hq,hz]at h
  |some z =>
   simp only[hq,Option.bind_some,hz]at h
   split at h
   ·rename_i x hx
    cases h
    exact ⟨it,z,rfl,hz,RL.cellsOf (ofVal_R m μ i _ _ hx) hf⟩
   ·cases h
variable {N:Nat}{env:Env}(hI:Inv m μ G w)(he:EnvR m μ (inf G) N env a)
include hI he
theorem good_build {t:TypeId}{ps:Array (Nat×Operand)}(ho:o.op=.build t ps){d:TypeDesc}(ht:P.underlying t=some d){zero:List AV}(hz:cZero P t=some zero)(hzf:zero.all AV.flat=true)
  {places:Nat→Option (Nat×Nat)}
  (hpl:(∃ fs,d=.struct fs∧fs.toList.all (fun f=>(cSize P f.type).isSome)=true∧places=fun i=>match fs[i]? with|some f=>(cSize P f.type).map fun n=>(f.offset,n)|none=>none) ∨
   (∃ k e n,d=.array k e∧cSize P e=some n∧places=fun i=>some (i * n,n)))
  {l:List (Nat×Nat×Opd)} (hl:cBuild places ps.toList=some l) {vs:List AV} (hv:opds env (l.map (·.2.2))=some vs) {cs:List AV} (hc:fillAt zero ((l.zip vs).map fun (p,v)=>(p.1,p.2.1,v))=some cs):Good P o a m μ G w (.val (.ag cs) G):=by
 obtain ⟨it,z,h1,h2,h3⟩:=cZero_R (m:=m) (μ:=μ) hz hzf (inf G)
 obtain ⟨g1,g2⟩:=cBuild_spec he places ps.toList l hl vs hv
 obtain ⟨rc,f1,f2⟩:=fill_sound places _ _ z.cells zero cs g1 g2 h3 hc
 have hb:P.built t (ps.map fun (i,x)=>(i,a.eval x)).toList=some rc:=by
  have e:(ps.map fun (i,x)=>(i,a.eval x)).toList=ps.toList.map fun (i,x)=>(i,a.eval x):=by simp
  rw[e]
  unfold Program.built
  rcases hpl with ⟨fs,rfl,hall,rfl⟩|⟨k,e,n,rfl,hn,rfl⟩
  ·simp only[h1,ht,h2]
   have hm:fs.toList.mapM (fun f=>(P.info? f.type).map fun i=>(f.offset,i.size))=some (fs.toList.map fun f=>(f.offset,(cSize P f.type).getD 0)):=by
    generalize fs.toList=fl at hall
    induction fl with
    |nil=>rfl
    |cons f fl ih =>
     simp only[List.all_cons,Bool.and_eq_true]at hall
     rw[List.mapM_cons,ih hall.2]
     have:=hall.1
     unfold cSize at this ⊢
     cases hq:P.info? f.type with
     |none=>simp[hq]at this
     |some i=>simp[hq]
   rw[hm]
   dsimp only
   have:(((fs.toList.map fun f=>(f.offset,(cSize P f.type).getD 0)).toArray[·]?):Nat→Option (Nat×Nat))=fun i=>match fs[i]? with|some f=>(cSize P f.type).map fun n=>(f.offset,n)|none=>none:=by
    funext i
    simp only[List.getElem?_toArray,List.getElem?_map,Array.getElem?_toList]
    cases hq:fs[i]? with
    |none=>rfl
    |some f =>
     have hmem:f∈fs.toList:=by
      have:=Array.mem_of_getElem? hq
      simpa using this
     have:=List.all_eq_true.1 hall f hmem
     obtain ⟨n,hn⟩:=Option.isSome_iff_exists.1 this
     simp[hn]
   rw[this]
   exact f1
  ·unfold cSize at hn
   cases hq:P.info? e with
   |none=>simp[hq]at hn
   |some ie =>
    simp[hq]at hn
    simp only[h1,ht,h2,hq]
    rw[hn]
    exact f1
 refine .same hI (val:=.agg rc) ?_ (.agOf f2)
 simp[execOp,ho,run_build w t _ rc hb]
end
def FlatR (m:Mem)(cs:Array Value)(sz:Nat)(rows:List (List PV)):Prop :=
 cs.size=rows.length * sz∧∀ (i j:Nat) (r:List PV) (c:PV),rows[i]?=some r→r[j]?=some c→∃ v,cs[i * sz+j]?=some v∧RP m v c
theorem zerosP_R {m:Mem}{μ:Mu}{i:Inf}:∀ (zs:List AV) {zero:List PV} {zc:List Value},zerosP zs=some zero→RL m μ i zc zs→RPL m zc zero
 |[],zero,zc,h,hr=>by simp[zerosP]at h;subst h;exact ⟨hr.1,fun j v c _ h2=>by simp at h2⟩
 |a::r,zero,zc,h,hr=>by
  simp only[zerosP]at h
  split at h
  ·cases h
  ·rename_i x hx
   split at h
   ·cases h
   ·rename_i l hl
    cases h
    obtain ⟨z,zs,rfl,hz,hr⟩:=hr.inv_cons
    refine .cons ?_ (zerosP_R r hl hr)
    cases a with
    |p y=>simp[zeroP]at hx;subst hx;cases hz;assumption
    |nils =>
     simp[zeroP]at hx
     subst hx
     cases hz
     exact .sl none 0 [] 0 (fun _ _=>undef) (Nat.le_refl _) rfl (fun h=>absurd rfl h) (fun i j r c h=>by simp at h)
    |_=>simp[zeroP]at hx
section
variable {P:Program}{o:Oper}{a:Act}{m:Mem}{μ:Mu}{G:Heap}{w:World}
theorem okRows_set {sz k:Nat}{rows:List (List PV)}{r:List PV}(h:okRows sz rows=true)(hr:okRow sz r=true):okRows sz (rows.set k r)=true:=by
 simp only[okRows,List.all_eq_true]at h ⊢
 intro x hx
 rcases List.mem_or_eq_of_mem_set hx with h1|h1
 ·exact h x h1
 ·rw[h1];exact hr
theorem okRows_replicate {sz n:Nat}{r:List PV}(hr:okRow sz r=true):okRows sz (List.replicate n r)=true:=by
 simp only[okRows,List.all_eq_true]
 intro x hx
 rw[(List.mem_replicate.1 hx).2];exact hr
theorem zero_flat {zc:Array Value}{zero:List PV}{sz n:Nat}(hz:RPL m zc.toList zero)(hok:okRow sz zero=true)(h1:1≤sz) :
  FlatR m ((Array.range (n * sz)).map (zc[· % zc.size]!)) sz (List.replicate n zero):=by
 have hs:zc.size=sz:=by have:=hz.1;simp at this;rw[this,okRow_len hok]
 refine ⟨by simp,fun i j r c g1 g2=>?_⟩
 have hi:i<n:=by have:=(gE g1).1;simpa using this
 have hr:r=zero:=by rw[List.getElem?_replicate,if_pos hi]at g1;cases g1;rfl
 subst hr
 have hj:j<sz:=by rw[← okRow_len hok];exact (gE g2).1
 have hlt:i * sz+j<n * sz:=by
  have:i * sz+sz≤n * sz:=by rw[← Nat.succ_mul];exact Nat.mul_le_mul_right _ hi
  omega
 have hmod:(i * sz+j) % sz=j:=by rw[Nat.mul_comm,Nat.mul_add_mod,Nat.mod_eq_of_lt hj]
 have hjz:j<zc.size:=by omega
 refine ⟨zc[j],?_,hz.2 j _ c (by rw[Array.getElem?_toList,Array.getElem?_eq_getElem hjz]) g2⟩
 rw[Array.getElem?_map]
 have:(Array.range (n * sz))[i * sz+j]?=some (i * sz+j):=by simp[hlt]
 rw[this]
 simp only[Option.map_some,hs,hmod]
 rw[getElem!_pos zc j hjz]
theorem fillRows_sound {sz:Nat}(h1:1≤sz):∀ (ps:List (Nat×Value)) (as:List (Nat×AV)) (rows rows':List (List PV)) (G G':Heap) (cs:Array Value) (m:Mem),Inv m μ G w →
  ps.length=as.length→(∀ (k:Nat) (p:Nat×Value) (q:Nat×AV),ps[k]?=some p→as[k]?=some q→p.1=q.1∧R m μ (inf G) p.2 q.2) →
  FlatR m cs sz rows→okRows sz rows=true→evOp.fillRows sz rows G as=some (rows',G') →
  ∃ m' cs',Inv m' μ G' w∧Stp m μ G w m' μ G' w∧Instr.fill (fun i=>some (i * sz,sz)) cs ps=some cs'∧FlatR m' cs' sz rows'∧okRows sz rows'=true∧rows'.length=rows.length
 |[],[],rows,rows',G,G',cs,m,hI,_,_,hf,hok,h=>by
  simp[evOp.fillRows]at h
  obtain ⟨rfl,rfl⟩:=h
  exact ⟨m,cs,hI,.refl _ _ _ _,rfl,hf,hok,rfl⟩
 |[],_::_,_,_,_,_,_,_,_,hl,_,_,_,_=>by simp at hl
 |_::_,[],_,_,_,_,_,_,_,hl,_,_,_,_=>by simp at hl
 |(i,v)::ps,(i',x)::as,rows,rows',G,G',cs,m,hI,hl,hr,hf,hok,h=>by
  obtain ⟨rfl,hx⟩:=hr 0 _ _ rfl rfl
  simp only[evOp.fillRows]at h
  split at h
  ·cases h
  ·rename_i l G1 hn
   split at h
   ·rename_i hc
    have hfl:l.all PV.flat=true:=List.all_eq_true.2 (okRow_flat hc.1)
    obtain ⟨m1,hI1,hS1,hv⟩:=normP_sound hI hn hx hfl
    obtain ⟨g1,g2⟩:=Great.foldl_set (i * sz) v.cells.toList 0 cs
    have e:(v.cells.zipIdx.foldl (fun cs (c,j)=>cs.setIfInBounds (i * sz+j) c) cs)=((v.cells.toList.zipIdx 0).foldl (fun cs (x:Value×Nat)=>cs.setIfInBounds (i * sz+x.2) x.1) cs):=by
     rw[← Array.foldl_toList,Array.toList_zipIdx]
    have hvl:v.cells.toList.length=sz:=by rw[hv.1,okRow_len hc.1]
    have hcs:i * sz+sz≤cs.size:=by rw[hf.1,← Nat.succ_mul];exact Nat.mul_le_mul_right _ hc.2
    have hf':FlatR m1 (v.cells.zipIdx.foldl (fun cs (c,j)=>cs.setIfInBounds (i * sz+j) c) cs) sz (rows.set i l):=by
     rw[e]
     refine ⟨by rw[g1,hf.1];simp,fun i' j r c k1 k2=>?_⟩
     rw[g2]
     simp only[Nat.add_zero]
     by_cases hii:i'=i
     ·subst hii
      have:r=l:=by rw[List.getElem?_set_self hc.2]at k1;cases k1;rfl
      subst this
      have hj:j<sz:=by rw[← okRow_len hc.1];exact (gE k2).1
      rw[if_pos ⟨by omega,by omega,by omega⟩]
      have hj':j<v.cells.toList.length:=by omega
      refine ⟨v.cells.toList[j],by simp[gG hj'],hv.2 j _ c (gG hj') k2⟩
     ·rw[List.getElem?_set,if_neg (Ne.symm hii)]at k1
      obtain ⟨u,q1,q2⟩:=hf.2 i' j r c k1 k2
      have hj:j<sz:=by rw[← okRow_len (okRows_at hok k1)];exact (gE k2).1
      have:¬ (i * sz≤i' * sz+j∧i' * sz+j<i * sz+v.cells.toList.length):=by
       rw[hvl]
       rcases Nat.lt_or_gt_of_ne hii with hlt|hgt
       ·have:i' * sz+sz≤i * sz:=by rw[← Nat.succ_mul];exact Nat.mul_le_mul_right _ hlt
        omega
       ·have:i * sz+sz≤i' * sz:=by rw[← Nat.succ_mul];exact Nat.mul_le_mul_right _ hgt
        omega
      rw[if_neg (by omega)]
      exact ⟨u,q1,q2.mono hS1.ext.mem⟩
    obtain ⟨m2,cs2,hI2,hS2,k1,k2,k3,k4⟩:=fillRows_sound h1 ps as _ rows' G1 G' _ m1 hI1 (by simpa using hl)
     (fun k p q q1 q2=>let ⟨u1,u2⟩:=hr (k+1) p q (by simpa using q1) (by simpa using q2);⟨u1,u2.mono hS1.ext⟩) hf' (okRows_set hok hc.1) h
    refine ⟨m2,cs2,hI2,hS1.trans hS2,?_,k2,k3,by rw[k4];simp⟩
    unfold Instr.fill
    simp only
    have hvs:v.cells.size=sz:=by simpa using hvl
    rw[if_neg (by simp[hvs];omega)]
    exact k1
   ·cases h
theorem newArr (hI:Inv m μ G w){sz n cap:Nat}{rows:List (List PV)}{cs:Array Value}(T:TypeId)(h1:1≤sz)(hn:rows.length=n)(hsz:cs.size=cap * sz)(hcap:n≤cap)(hok:okRows sz rows=true)
  (hf:∀ (i j:Nat) (r:List PV) (c:PV),rows[i]?=some r→r[j]?=some c→∃ v,cs[i * sz+j]?=some v∧RP m v c) :
  ∃ μ',Inv m μ' (G++[.arr sz rows 0 0]) { w with heap:=w.heap.push (.cells cs T (0,0)) }∧Stp m μ G w m μ' (G++[.arr sz rows 0 0]) { w with heap:=w.heap.push (.cells cs T (0,0)) } ∧
   R m μ' (inf (G++[.arr sz rows 0 0])) (.slice (some ⟨w.heap.size,0,none⟩) n cap) (.arr G.length n 0):=by
 obtain ⟨g1,g2⟩:=alloc_step hI (.arr sz rows 0 0) cs T cap _ rfl _ rfl (fun e=>⟨cs,T,by simp,hsz,by simpa [hn] using hcap,h1,hok,hf,fun o _=>hI.fresh (Nat.le_refl _) o⟩)
 exact ⟨_,g1,g2,.arr _ _ _ _ _ _ ⟨w.heap.size,cap⟩ 0 sz (by simp) (by rw[inf_last];rfl) (Nat.le_refl _) (fun _=>⟨rfl,rfl,rfl⟩)⟩
theorem cParts_spec {env:Env}{N:Nat}(he:EnvR m μ (inf G) N env a):∀ (ps:List (Nat×Operand)) (l:List (Nat×Opd)),cParts ps=some l→∀ (vs:List AV),opds env (l.map (·.2))=some vs →
  (ps.map fun (i,x)=>(i,a.eval x)).length=((l.zip vs).map fun (p,v)=>(p.1,v)).length ∧
  ∀ (k:Nat) (p:Nat×Value) (q:Nat×AV),(ps.map fun (i,x)=>(i,a.eval x))[k]?=some p→((l.zip vs).map fun (p,v)=>(p.1,v))[k]?=some q→p.1=q.1∧R m μ (inf G) p.2 q.2
 |[],l,h,vs,hv=>by
  simp[cParts]at h
  subst h
  exact ⟨rfl,fun k p q h1=>by simp at h1⟩
 |(i,x)::ps,l,h,vs,hv=>by
  simp only[cParts]at h
  split at h
  ·rename_i ax l' h2 h3
   cases h
   simp only[List.map_cons,opds]at hv
   split at hv
   ·cases hv
   ·rename_i v hv1
    split at hv
    ·cases hv
    ·rename_i vs' hv2
     cases hv
     obtain ⟨g1,g2⟩:=cParts_spec he ps l' h3 vs' hv2
     refine ⟨by simpa using g1,fun k p q q1 q2=>?_⟩
     cases k with
     |zero =>
      simp at q1 q2
      subst q1;subst q2
      exact ⟨rfl,opd_R he h2 hv1⟩
     |succ k=>exact g2 k p q (by simpa using q1) (by simpa using q2)
  ·cases h
variable {N:Nat}{env:Env}(hI:Inv m μ G w)(he:EnvR m μ (inf G) N env a)
include hI he
theorem zeroRow {e:TypeId}{sz:Nat}{zero:List PV}(hn:cSize P e=some sz)(hz:(cZero P e).bind zerosP=some zero)(hok:okRow sz zero=true) :
  ∃ ie z,P.info? e=some ie∧ie.zero=some z∧ie.size=sz∧RPL m z.cells.toList zero:=by
 simp only[Option.bind_eq_some_iff]at hz
 obtain ⟨zs,h1,h2⟩:=hz
 have hfl:zs.all AV.flat=true:=by
  rw[List.all_eq_true]
  have hzf:=okRow_flat hok
  clear hok h1
  induction zs generalizing zero with
  |nil=>intro x hx;simp at hx
  |cons a r ih =>
   simp only[zerosP]at h2
   split at h2
   ·cases h2
   ·rename_i x hx
    split at h2
    ·cases h2
    ·rename_i l hl
     cases h2
     intro y hy
     rcases List.mem_cons.1 hy with rfl|hy
     ·cases y with
      |p z=>simp[zeroP]at hx;subst hx;exact hzf _ (by simp)
      |nils=>rfl
      |_=>simp[zeroP]at hx
     ·exact ih hl (fun c hc=>hzf c (by simp[hc])) y hy
 obtain ⟨it,z,g1,g2,g3⟩:=cZero_R (m:=m) (μ:=μ) h1 hfl (inf G)
 refine ⟨it,z,g1,g2,?_,zerosP_R zs h2 g3⟩
 unfold cSize at hn
 simpa [g1] using hn
theorem good_bslice {t e:TypeId}{n:Nat}{ps:Array (Nat×Operand)}(ho:o.op=.buildSlice t n ps)(ht:P.underlying t=some (.slice e)){sz:Nat}{zero:List PV}(hn:cSize P e=some sz)(hz:(cZero P e).bind zerosP=some zero)(hok:okRow sz zero=true)(h1:1≤sz)(hbig:n * sz≤2 ^ 20)
  {l:List (Nat×Opd)} (hl:cParts ps.toList=some l) {vs:List AV} (hv:opds env (l.map (·.2))=some vs) {rows:List (List PV)} {G':Heap} (hc:evOp.fillRows sz (List.replicate n zero) G ((l.zip vs).map fun (p,v)=>(p.1,v))=some (rows,G')) :
  Good P o a m μ G w (.val (.arr G'.length n 0) (G'++[.arr sz rows 0 0])):=by
 obtain ⟨ie,z,g1,g2,g3,g4⟩:=zeroRow hI he hn hz hok
 obtain ⟨p1,p2⟩:=cParts_spec he ps.toList l hl vs hv
 obtain ⟨m1,cs,hI1,hS1,k1,k2,k3,k4⟩:=fillRows_sound h1 _ _ _ rows G G' _ m hI p1 p2 (zero_flat (n:=n) g4 hok h1) (okRows_replicate hok) hc
 have hlen:rows.length=n:=by rw[k4];simp
 obtain ⟨μ',hI2,hS2,hR⟩:=newArr hI1 (cap:=n) (cs:=cs) e h1 hlen (by rw[k2.1,hlen]) (Nat.le_refl _) k3 k2.2
 have he':(ps.map fun (i,x)=>(i,a.eval x)).toList=ps.toList.map fun (i,x)=>(i,a.eval x):=by simp
 intro next Q hnx
 refine wp_of_val ?_ (hnx _ _ _ _ hI2 (hS1.trans hS2) hR)
 simp only[execOp,ho,Sem.run_bind]
 have hrun:(Instr.buildSlice t n (ps.map fun (i,x)=>(i,a.eval x))).run P w=.ok (.slice (some ⟨w.heap.size,0,none⟩) n n) { w with heap:=w.heap.push (.cells cs e (0,0)) }:=by
  by_cases hn0:n=0
  ·subst hn0
   have hc0:cs=#[]:=by apply Array.eq_empty_of_size_eq_zero;rw[k2.1,hlen];simp
   subst hc0
   have hps:ps=#[]:=by
    cases hq:ps.toList with
    |nil=>apply Array.ext';simpa using hq
    |cons p r =>
     rw[hq]at p1
     generalize ((l.zip vs).map fun (p,v)=>(p.1,v))=as at hc p1
     cases as with
     |nil=>simp at p1
     |cons x as =>
      rcases x with ⟨i,v⟩
      simp only[evOp.fillRows,List.replicate]at hc
      split at hc
      ·cases hc
      ·simp at hc
   subst hps
   simp[Instr.buildSlice,run_underlying ht,sizeOf,typeInfo,g1,g3,zeroValue,g2,Instr.fill,newRow,show Array.range 0=#[] from rfl]
  ·have hpos:¬ n * ie.size=0:=by rw[g3];exact Nat.mul_ne_zero hn0 (by omega)
   have:=run_buildSlice (P:=P) w t e n (ps.map fun (i,x)=>(i,a.eval x)) cs ie z ht g1 g2 (by rw[g3];omega) hpos (by rw[he',g3];exact k1)
   exact this
 rw[hrun]
 rfl
theorem good_mkslice {t e:TypeId}{x y:Operand}{ox oy:Opd}(ho:o.op=.makeSlice t x y)(ht:P.underlying t=some (.slice e)){sz by_:Nat}{zero:List PV}(hn:cSize P e=some sz)(hb:cBytes P e=some by_)(hz:(cZero P e).bind zerosP=some zero)(hok:okRow sz zero=true)(h1:1≤sz)
  (hx:cOpd x=some ox) (hy:cOpd y=some oy) {l c:Int} (hl:opd env ox=some (.p (.i .i64 l))) (hc:opd env oy=some (.p (.i .i64 c))) (h0:0≤l) (hlc:l≤c) (hroom:roomy c.toNat by_=true) :
  Good P o a m μ G w (.val (.arr G.length l.toNat 0) (G++[.arr sz (List.replicate l.toNat zero) 0 0])):=by
 obtain ⟨ie,z,g1,g2,g3,g4⟩:=zeroRow hI he hn hz hok
 have hl':=(opd_R he hx hl).int_inv
 have hc':=(opd_R he hy hc).int_inv
 have hbytes:ie.bytes=by_:=by unfold cBytes at hb;simpa [g1] using hb
 simp only[roomy,Bool.and_eq_true,decide_eq_true_eq]at hroom
 have hfl:=zero_flat (n:=c.toNat) g4 hok h1
 have hle:l.toNat≤c.toNat:=by omega
 obtain ⟨μ',hI2,hS2,hR⟩:=newArr hI (cap:=c.toNat) (rows:=List.replicate l.toNat zero) e h1 (by simp) (by rw[hfl.1];simp) hle (okRows_replicate hok) (fun i j r cc q1 q2=>by
  refine hfl.2 i j r cc ?_ q2
  have hi:i<l.toNat:=by have:=(gE q1).1;rwa [List.length_replicate]at this
  rw[List.getElem?_replicate,if_pos (by omega)]
  rw[List.getElem?_replicate,if_pos hi]at q1
  exact q1)
 intro next Q hnx
 refine wp_of_val ?_ (hnx _ _ _ _ hI2 hS2 hR)
 have hwl:IntKind.i64.wrap l=l:=by
  unfold IntKind.wrap
  simp[IntKind.bits,IntKind.signed]
  omega
 have hwc:IntKind.i64.wrap c=c:=by
  unfold IntKind.wrap
  simp[IntKind.bits,IntKind.signed]
  omega
 have hbig:¬ ((ie.bytes:Int) * c > 2 ^ 48):=by
  rw[hbytes]
  have h2:((c.toNat * by_:Nat):Int)≤((2 ^ 40:Nat):Int):=Int.ofNat_le.2 hroom.1
  rw[Int.natCast_mul,Int.toNat_of_nonneg (by omega),Int.mul_comm]at h2
  simp at h2 ⊢
  omega
 have hc0:¬ c<0:=by omega
 have hl0:¬ l<0:=by omega
 have hlc':¬ c<l:=by omega
 simp only[execOp,ho,Sem.run_bind]
 have:(Instr.makeSlice t (a.eval x) (a.eval y)).run P w=.ok (.slice (some ⟨w.heap.size,0,none⟩) l.toNat c.toNat) { w with heap:=w.heap.push (.cells ((Array.range (c.toNat * sz)).map (z.cells[· % z.cells.size]!)) e (0,0)) }:=by
  rw[hl',hc']
  simp only[Instr.makeSlice,Sem.run_bind,run_underlying ht,Result.andThen_ok,Go.asInt,asIntOf,Sem.run_pure,typeInfo,run_program,g1,hwl,hwc]
  have hcond:((decide (c<0) || decide ((ie.bytes:Int) * c > 2 ^ 48)) || decide (l<0) || decide (l > c))=false:=by
   simp only[hc0,hbig,hl0,decide_false,Bool.or_false,Bool.false_or,decide_eq_false_iff_not]
   omega
  simp only[hcond,Bool.false_eq_true,if_false,Sem.run_bind,Sem.run_pure,Result.andThen_ok,run_askRoom,sizeOf,typeInfo,run_program,g1,g3]
  by_cases hcz:c.toNat * sz=0
  ·simp[hcz,newRow,show Array.range 0=#[] from rfl]
  ·simp[hcz,zeroValue,typeInfo,g1,g2,newRow]
 rw[this]
 rfl
end
section
variable {P:Program}{o:Oper}{a:Act}{m:Mem}{μ:Mu}{G:Heap}{w:World}
theorem row_index {sz k n:Nat}(h1:1≤sz)(hk:k<n * sz):k / sz<n∧k % sz<sz∧k / sz * sz+k % sz=k:=by
 have:=Nat.div_add_mod k sz
 refine ⟨Nat.div_lt_of_lt_mul (by rw[Nat.mul_comm];exact hk),Nat.mod_lt _ h1,by rw[Nat.mul_comm];exact this⟩
structure SliceSrc (m:Mem)(w:World)(sz:Nat)(z:Value)(rows:List (List PV))(ad:Option Addr)(c:Nat)(news:List Value):Prop where
 val:z=.slice ad rows.length c
 cap:rows.length≤c
 len:news.length=rows.length * sz
 addr:rows≠[]→∃ b o,ad=some ⟨b,o,none⟩∧∀ (j:Nat) (u:Value),news[j]?=some u→w.cell? ⟨b,o+j,none⟩=some u
 rel:∀ (i j:Nat) (r:List PV) (x:PV),rows[i]?=some r→r[j]?=some x→∃ u,news[i * sz+j]?=some u∧RP m u x
 one:∀ u∈news,u.oneCell'=true
theorem SliceSrc.ones {sz:Nat}{rows:List (List PV)}{news:List Value}(h1:1≤sz)(hok:okRows sz rows=true)(hl:news.length=rows.length * sz)
  (rel:∀ (i j:Nat) (r:List PV) (x:PV),rows[i]?=some r→r[j]?=some x→∃ u,news[i * sz+j]?=some u∧RP m u x):∀ u∈news,u.oneCell'=true:=by
 intro u hu
 obtain ⟨k,hk,rfl⟩:=List.mem_iff_getElem.1 hu
 obtain ⟨k1,k2,k3⟩:=row_index (n:=rows.length) h1 (by omega:k<rows.length * sz)
 have hrow:=gG k1
 have hlen:=okRow_len (okRows_at hok hrow)
 have hc:(rows[k / sz])[k % sz]?=some ((rows[k / sz])[k % sz]'(by omega)):=gG (by omega)
 obtain ⟨v,q1,q2⟩:=rel _ _ _ _ hrow hc
 rw[k3,gG hk]at q1
 cases q1
 exact q2.one (okRow_flat (okRows_at hok hrow) _ (List.getElem_mem _))
theorem slice_src (hI:Inv m μ G w){z:Value}{v:AV}(hr:R m μ (inf G) z v){rows:List (List PV)}(hrow:rowsOf G v=some rows)(hns:∀ l,v≠.p (.s l)){sz:Nat}(h1:1≤sz)(hok:okRows sz rows=true) :
  ∃ ad c news,SliceSrc m w sz z rows ad c news:=by
 cases v with
 |p x =>
  cases x with
  |s l=>exact absurd rfl (hns l)
  |sl rs =>
   simp[rowsOf]at hrow
   subst hrow
   cases hr with|p _ _ hp =>
   cases hp with|sl ad cap _ sz' f hcap hs ha hf =>
   have hss:∀ i r,rs[i]?=some r→sz'=sz:=fun i r h=>by rw[← okRow_len (okRows_at hs h),okRow_len (okRows_at hok h)]
   have hrel:∀ (i j:Nat) (r:List PV) (x:PV),rs[i]?=some r→r[j]?=some x→∃ u,((List.range (rs.length * sz)).map fun k=>f (k / sz) (k % sz))[i * sz+j]?=some u∧RP m u x:=by
    intro i j r x g1 g2
    have hi:=(gE g1).1
    have hj:j<sz:=by rw[← okRow_len (okRows_at hok g1)];exact (gE g2).1
    have hlt:i * sz+j<rs.length * sz:=by
     have:i * sz+sz≤rs.length * sz:=by rw[← Nat.succ_mul];exact Nat.mul_le_mul_right _ hi
     omega
    refine ⟨f i j,?_,hf i j r x g1 g2⟩
    have e1:(i * sz+j) / sz=i:=by rw[Nat.mul_comm,Nat.mul_add_div h1,Nat.div_eq_of_lt hj];rfl
    have e2:(i * sz+j) % sz=j:=by rw[Nat.mul_comm,Nat.mul_add_mod,Nat.mod_eq_of_lt hj]
    simp[List.getElem?_map,List.getElem?_range,hlt,e1,e2]
   have hlen:((List.range (rs.length * sz)).map fun k=>f (k / sz) (k % sz)).length=rs.length * sz:=by simp
   refine ⟨ad,cap,(List.range (rs.length * sz)).map fun k=>f (k / sz) (k % sz),rfl,hcap,hlen,fun hne=>?_,hrel,SliceSrc.ones h1 hok hlen hrel⟩
   obtain ⟨b,oo,e,hm⟩:=ha hne
   refine ⟨b,oo,e,fun j u hj=>?_⟩
   have hjl:j<rs.length * sz:=by have:=(gE hj).1;rwa [hlen]at this
   obtain ⟨k1,k2,k3⟩:=row_index h1 hjl
   have hrow:=gG k1
   have hl':=okRow_len (okRows_at hok hrow)
   have:=hm _ _ _ _ hrow (gG (show j % sz<(rs[j / sz]).length by omega))
   rw[hss _ _ hrow,Nat.add_assoc,k3]at this
   have e2:u=f (j / sz) (j % sz):=by
    simp[List.getElem?_map,List.getElem?_range,hjl]at hj
    exact hj.symm
   rw[e2]
   exact hI.known _ _ _ this
  |_=>simp[rowsOf]at hrow
 |nils =>
  simp[rowsOf]at hrow
  subst hrow
  cases hr
  exact ⟨none,0,[],rfl,Nat.le_refl _,by simp,fun h=>absurd rfl h,fun i j r x h=>by simp at h,fun u h=>by cases h⟩
 |arr id len gen =>
  simp only[rowsOf]at hrow
  split at hrow
  ·rename_i sz' rs g sl hG
   split at hrow
   ·rename_i hc
    cases hrow
    obtain ⟨hg,hle⟩:=hc
    subst hg
    cases hr with|arr _ _ _ ad n c loc g' szz q1 q2 q3 q4 =>
    have hinf:inf G id=some (some (g,sz')):=by simp[inf,hG,infO]
    rw[hinf]at q2
    cases q2
    obtain ⟨rfl,rfl,rfl⟩:=q4 rfl
    obtain ⟨cs,T,k1,k2,k3,k4,k5,k6,k7⟩:=hI.obj id _ hG loc q1
    have hl:(rs.take n).length=n:=by simp;omega
    have hsz:n≠0→sz'=sz:=fun hn=>okRows_two (okRows_take k5) hok (by intro e;rw[e]at hl;simp at hl;omega)
    have hcs:n * sz≤cs.size:=by
     rcases Nat.eq_zero_or_pos n with h0|h0
     ·subst h0;simp
     ·rw[k2,hsz (by omega)];exact Nat.mul_le_mul_right _ (by omega)
    have hlen:(cs.toList.take (n * sz)).length=(rs.take n).length * sz:=by rw[hl];simp;omega
    have hrel:∀ (i j:Nat) (r:List PV) (x:PV),(rs.take n)[i]?=some r→r[j]?=some x→∃ u,(cs.toList.take (n * sz))[i * sz+j]?=some u∧RP m u x:=by
     intro i j r x g1 g2
     have hi:i<n:=by have:=(gE g1).1;rwa [hl]at this
     have hj:j<sz:=by rw[← okRow_len (okRows_at hok g1)];exact (gE g2).1
     have hlt:i * sz+j<n * sz:=by
      have:i * sz+sz≤n * sz:=by rw[← Nat.succ_mul];exact Nat.mul_le_mul_right _ hi
      omega
     rw[List.getElem?_take,if_pos hi]at g1
     obtain ⟨u,p1,p2⟩:=k6 i j r x g1 g2
     rw[hsz (by omega)]at p1
     exact ⟨u,by rw[List.getElem?_take,if_pos hlt];simpa using p1,p2⟩
    refine ⟨some ⟨loc.blk,0,none⟩,loc.cap,cs.toList.take (n * sz),by rw[hl],by rw[hl];omega,hlen,fun _=>⟨loc.blk,0,rfl,fun j u hj=>?_⟩,hrel,SliceSrc.ones h1 hok hlen hrel⟩
    rw[List.getElem?_take]at hj
    split at hj
    ·rw[Nat.zero_add]
     simp only[World.cell?,k1]
     simpa using hj
    ·cases hj
   ·cases hrow
  ·cases hrow
 |_=>simp[rowsOf]at hrow
theorem realloc_step (hI:Inv m μ G w){id:Nat}{sz g sl:Nat}{rows:List (List PV)}{loc:Loc}(hG:G[id]?=some (.arr sz rows g sl))(hl:μ id=some loc){rows':List (List PV)}{cs:Array Value}{T:TypeId}{cap:Nat}{w':World}
  (hw:w'.heap=w.heap.push (.cells cs T (0,0))) (hos:w'.os=w.os) (htape:w'.tape=w.tape) (hout:w'.output=w.output)
  (h1:1≤sz) (hsz:cs.size=cap * sz) (hcap:rows'.length≤cap) (hok:okRows sz rows'=true)
  (hf:∀ (i j:Nat) (r:List PV) (c:PV),rows'[i]?=some r→r[j]?=some c→∃ v,cs[i * sz+j]?=some v∧RP m v c) :
  Inv m (fun k=>if k=id then some ⟨w.heap.size,cap⟩ else μ k) (G.set id (.arr sz rows' (g+1) sl)) w' ∧
  Stp m μ G w m (fun k=>if k=id then some ⟨w.heap.size,cap⟩ else μ k) (G.set id (.arr sz rows' (g+1) sl)) w':=by
 have hid:id<G.length:=(gE hG).1
 have hold:inf G id=some (some (g,sz)):=by simp[inf,hG,infO]
 have hblk:∀ b,b<w.heap.size→w'.heap[b]?=w.heap[b]?:=fun b hb=>by rw[hw];simp[Array.getElem?_push,Nat.ne_of_lt hb]
 have hext:Ext m μ G m (fun k=>if k=id then some ⟨w.heap.size,cap⟩ else μ k) (G.set id (.arr sz rows' (g+1) sl)):=by
  refine ⟨fun _ _ _ h=>h,fun k l h h'=>?_,fun k l g' sz' h h'=>?_⟩
  ·have:k≠id:=by intro e;subst e;rw[hold]at h';cases h'
   exact ⟨by simp[this,h],by rw[inf_set _ _ _ _ this];exact h'⟩
  ·by_cases e:k=id
   ·subst e
    rw[hold]at h'
    cases h'
    exact ⟨_,g+1,by simp;rfl,by rw[inf_set_same _ _ _ hid];rfl,by omega,fun e=>by omega⟩
   ·exact ⟨l,g',by simp[e,h],by rw[inf_set _ _ _ _ e];exact h',Nat.le_refl _,fun _=>rfl⟩
 have hinv:∀ k l,(fun k=>if k=id then some (⟨w.heap.size,cap⟩:Loc) else μ k) k=some l→(k=id∧l=⟨w.heap.size,cap⟩)∨(k≠id∧μ k=some l):=fun k l h=>by
  dsimp only at h
  split at h
  ·cases h;exact .inl ⟨by assumption,rfl⟩
  ·exact .inr ⟨by assumption,h⟩
 refine ⟨⟨?_,?_,?_,?_⟩,⟨hext,⟨hos,htape,hout,by rw[hw];simp,fun b hb _=>hblk b hb,fun _ _ _ h=>.inl h,?_⟩,?_⟩⟩
 ·intro b o v h
  have h1:=hI.known b o v h
  have h2:=World.block_lt_of_cell? w _ h1
  simp at h2
  unfold World.cell? at h1 ⊢
  dsimp only at h1 ⊢
  rw[hblk b h2]
  exact h1
 ·intro i j l l' e1 e2 e
  rcases hinv i l e1 with ⟨rfl,rfl⟩|⟨n1,h1'⟩<;>rcases hinv j l' e2 with ⟨rfl,rfl⟩|⟨n2,h2'⟩
  ·rfl
  ·have:=hI.lt h2';simp at e;omega
  ·have:=hI.lt h1';simp at e;omega
  ·exact hI.inj i j l l' h1' h2' e
 ·intro k ob hk l hkl
  rcases hinv k l hkl with ⟨rfl,rfl⟩|⟨n1,h1'⟩
  ·simp[hid]at hk
   subst hk
   exact ⟨cs,T,by rw[hw];simp,hsz,hcap,h1,hok,hf,fun o _=>hI.fresh (Nat.le_refl _) o⟩
  ·rw[List.getElem?_set,if_neg (Ne.symm n1)]at hk
   exact (hI.obj k ob hk l h1').move hext (hblk _ (hI.lt h1')) (fun _ h=>h)
 ·intro k l hkl
  rcases hinv k l hkl with ⟨rfl,rfl⟩|⟨n1,h1'⟩
  ·simpa using hid
  ·simpa using hI.dom k l h1'
 ·intro k l hkl
  rcases hinv k l hkl with ⟨rfl,rfl⟩|⟨n1,h1'⟩
  ·exact .inl (Nat.le_refl _)
  ·exact .inr ⟨k,l,h1',rfl⟩
 ·refine ⟨fun k hk ht=>?_,fun k hk hn=>?_⟩
  ·by_cases e:k=id
   ·exact ⟨_,by simp[e];rfl⟩
   ·obtain ⟨l,hl⟩:=ht (by simpa using hk)
    exact ⟨l,by simp[e,hl]⟩
  ·have e:k≠id:=by rintro rfl;rw[hl]at hn;cases hn
   refine ⟨by simp[e,hn],?_⟩
   rw[List.getElem?_set,if_neg (Ne.symm e)]
end
section
variable {P:Program}{o:Oper}{a:Act}{m:Mem}{μ:Mu}{G:Heap}{w:World}
theorem zeroOK_spec {sz:Nat}{e:TypeId}(h:zeroOK P sz e=true):∃ ie z,P.info? e=some ie∧ie.zero=some z∧z.cells.size=sz:=by
 unfold zeroOK at h
 split at h
 ·rename_i zs hz
  simp only[Bool.and_eq_true,beq_iff_eq]at h
  obtain ⟨ie,z,g1,g2,g3⟩:=cZero_R (m:=fun _ _=>none) (μ:=fun _=>none) hz h.2 (fun _=>none)
  exact ⟨ie,z,g1,g2,by have:=g3.1;simp at this;rw[this];exact h.1⟩
 ·cases h
theorem zeroCells_size (zero:Array Value)(n:Nat):(Builtin.zeroCells zero n).size=n * zero.size:=by simp[Builtin.zeroCells]
theorem grownCap_ge (w:World)(need old:Nat)(e:TypeId):need≤grownCap w need old e:=by
 show need≤need+_
 exact Nat.le_add_right _ _
theorem app_src (hI:Inv m μ G w){z:Value}{v:AV}(hr:R m μ (inf G) z v){rows:List (List PV)}{str:Bool}(hrow:(if isStr v == str then rowsOf G v else none)=some rows){sz:Nat}(h1:1≤sz)(hok:okRows sz rows=true)
  {tx:TypeId} (hk:if str=true then P.underlying tx=some .string∧sz=1 else ∃ e',P.underlying tx=some (.slice e')) :
  ∃ news,Src P sz tx z rows.length news w∧news.length=rows.length * sz∧(∀ (i j:Nat) (r:List PV) (x:PV),rows[i]?=some r→r[j]?=some x→∃ u,news[i * sz+j]?=some u∧RP m u x):=by
 cases str with
 |true =>
  simp only[if_true]at hk
  obtain ⟨hk,rfl⟩:=hk
  cases v with
  |p x =>
   cases x with
   |s l =>
    simp[isStr,rowsOf]at hrow
    subst hrow
    have:=hr.str_inv
    subst this
    refine ⟨byteCells ⟨l.toArray⟩,?_,by rw[byteCells_length,bytes_size];simp,fun i j r x g1 g2=>?_⟩
    ·have:=Src.ofString (P:=P) w hk ⟨l.toArray⟩
     rw[bytes_size]at this
     simpa using this
    ·simp only[List.getElem?_map,Option.map_eq_some_iff]at g1
     obtain ⟨c,hc,rfl⟩:=g1
     cases j with
     |zero =>
      simp at g2
      subst g2
      exact ⟨.int .u8 c.toNat,by simp[byteCells,List.getElem?_map,hc],.i _ _⟩
     |succ j=>simp at g2
   |_=>simp[isStr]at hrow
  |_=>simp[isStr]at hrow
 |false =>
  simp only[Bool.false_eq_true,if_false]at hk
  obtain ⟨e',hk⟩:=hk
  have hns:∀ l,v≠.p (.s l):=by intro l e;subst e;simp[isStr]at hrow
  have hrow':rowsOf G v=some rows:=by
   split at hrow
   ·exact hrow
   ·cases hrow
  obtain ⟨ad,c,news,hs⟩:=slice_src hI hr hrow' hns h1 hok
  refine ⟨news,?_,hs.len,hs.rel⟩
  rw[hs.val]
  cases ad with
  |none =>
   have:rows=[]:=by
    apply Classical.byContradiction
    intro hne
    obtain ⟨b,oo,e,_⟩:=hs.addr hne
    cases e
   subst this
   have hn:news=[]:=List.eq_nil_of_length_eq_zero (by simpa using hs.len)
   subst hn
   exact Src.ofNil w hk c
  |some ad =>
   refine Src.ofSlice w hk ad rows.length c news hs.len (fun j u hj=>?_) hs.one
   have hne:rows≠[]:=by
    intro e
    subst e
    have:=hs.len
    simp at this
    subst this
    simp at hj
   obtain ⟨b,oo,e,hc⟩:=hs.addr hne
   cases e
   rw[Addr.add_mid]
   exact hc j u hj
theorem rows_append {m:Mem}{sz:Nat}(h1:1≤sz){old new:List (List PV)}{cs:List Value}{news:List Value}(hlo:cs.length=old.length * sz)
  (ho:∀ (i j:Nat) (r:List PV) (c:PV),old[i]?=some r→r[j]?=some c→∃ v,cs[i * sz+j]?=some v∧RP m v c)
  (hok:okRows sz old=true)
  (hn:∀ (i j:Nat) (r:List PV) (x:PV),new[i]?=some r→r[j]?=some x→∃ u,news[i * sz+j]?=some u∧RP m u x) :
  ∀ (i j:Nat) (r:List PV) (c:PV),(old++new)[i]?=some r→r[j]?=some c→∃ v,(cs++news)[i * sz+j]?=some v∧RP m v c:=by
 intro i j r c g1 g2
 by_cases hi:i<old.length
 ·rw[List.getElem?_append_left hi]at g1
  obtain ⟨v,k1,k2⟩:=ho i j r c g1 g2
  exact ⟨v,by rw[List.getElem?_append_left (gE k1).1];exact k1,k2⟩
 ·rw[List.getElem?_append_right (by omega)]at g1
  obtain ⟨v,k1,k2⟩:=hn _ j r c g1 g2
  refine ⟨v,?_,k2⟩
  have:old.length * sz≤i * sz:=Nat.mul_le_mul_right _ (by omega)
  rw[List.getElem?_append_right (by omega),hlo]
  rw[← k1]
  congr 1
  rw[Nat.sub_mul]
  omega
variable {N:Nat}{env:Env}(hI:Inv m μ G w)(he:EnvR m μ (inf G) N env a)
include hI he
theorem good_app {args:Array Operand}{ts:Array TypeId}{x y:Operand}{ox oy:Opd}{t tx e:TypeId}{str:Bool}{sz by_:Nat}(ho:o.op=.call ⟨.builtin .append,args,ts⟩)(ha:args.toList=[x,y])
  (hts:ts[0]?=some t) (hts1:ts[1]?=some tx) (htl:ts.size=2) (ht:P.underlying t=some (.slice e)) (hn:cSize P e=some sz) (hb:cBytes P e=some by_) (hz:zeroOK P sz e=true) (h1:1≤sz)
  (hk:if str=true then P.underlying tx=some .string∧sz=1 else ∃ e',P.underlying tx=some (.slice e'))
  (hx:cOpd x=some ox) (hy:cOpd y=some oy) {u v:AV} (hu:opd env ox=some u) (hv:opd env oy=some v) {r:AV} {G':Heap} (hap:evApp str sz by_ G u v=some (r,G')):Good P o a m μ G w (.val r G'):=by
 have ha':args=#[x,y]:=by apply Array.ext';simpa using ha
 have hts':ts=#[t,tx]:=by
  apply Array.ext
  ·simpa using htl
  ·intro i h2 h3
   have:i=0∨i=1:=by simp at h3;omega
   rcases this with rfl|rfl
   ·simp[Array.getElem?_eq_getElem h2]at hts;simp[hts]
   ·simp[Array.getElem?_eq_getElem h2]at hts1;simp[hts1]
 have hrx:=opd_R he hx hu
 have hry:=opd_R he hy hv
 obtain ⟨ie,zv,g1,g2,g3⟩:=zeroOK_spec hz
 have hsize:ie.size=sz:=by unfold cSize at hn;simpa [g1] using hn
 have hbytes:ie.bytes=by_:=by unfold cBytes at hb;simpa [g1] using hb
 unfold evApp at hap
 split at hap
 ·cases hap
 ·rename_i new hnew
  split at hap
  ·rename_i hok
   obtain ⟨news,hsrc,hnl,hrel⟩:=app_src (P:=P) hI hry hnew h1 hok hk
   have hsrc':Src P ie.size tx (a.eval y) new.length news w:=by rw[hsize];exact hsrc
   have fin:∀ {val:Value} {w':World} {m':Mem} {μ':Mu},(Builtin.append_ #[t,tx] o.type #[a.eval x,a.eval y]).run P w=.ok val w'→Inv m' μ' G' w'→Stp m μ G w m' μ' G' w'→R m' μ' (inf G') val r→Good P o a m μ G w (.val r G'):=by
    intro val w' m' μ' hrun hI' hS hR next Q hnx
    refine wp_of_val ?_ (hnx _ _ _ _ hI' hS hR)
    simp[execOp,ho,ha',hts',resolve,invoke,builtin,hrun]
   cases u with
   |nils =>
    generalize hzx:a.eval x=z at hrx fin
    cases hrx
    cases new with
    |nil =>
     simp at hap
     obtain ⟨rfl,rfl⟩:=hap
     have hn0:news=[]:=List.eq_nil_of_length_eq_zero (by simpa using hnl)
     subst hn0
     refine fin ?_ hI (.refl _ _ _ _) .nils
     have hc0:=hsrc'.cells
     have hl0:=hsrc'.len
     simp only[List.length_nil]at hc0 hl0
     rcases hsrc'.kind with ⟨e',hk'⟩|hk'<;>simp[Builtin.append_,run_underlying ht,run_underlying hk',sizeOf,typeInfo,g1,hl0,hc0]
    |cons n0 nr =>
     simp only at hap
     split at hap
     ·rename_i hroom
      cases hap
      simp only[roomy,Bool.and_eq_true,decide_eq_true_eq]at hroom
      have hg:=run_append_grow_src (P:=P) w t tx o.type e ie zv ht g1 g2 none 0 0 [] (run_firstCells_none _ _ _ _ _) (a.eval y) (n0::nr).length news hsrc' (by simp) (by
       have:=hroom.2
       simp only[Nat.zero_add]
       omega) (growslice_fits (by simp) (by rw[hbytes,Nat.zero_add];have:=hroom.1;omega))
      simp only[Nat.zero_add,List.nil_append]at hg
      have hge:=grownCap_ge w (n0::nr).length 0 e
      obtain ⟨μ',hI2,hS2,hR⟩:=newArr (w:=w.drew) (m:=m) (μ:=μ) (G:=G) (by
        exact ⟨hI.known,hI.inj,hI.obj,hI.dom⟩) (cap:=grownCap w (n0::nr).length 0 e) (rows:=n0::nr)
       (cs:=news.toArray++Builtin.zeroCells zv.cells (grownCap w (n0::nr).length 0 e-(n0::nr).length)) e h1 rfl (by
        rw[Array.size_append,zeroCells_size,g3]
        simp only[List.size_toArray,hnl]
        rw[← Nat.add_mul]
        congr 1
        omega) hge hok (fun i j r c q1 q2=>by
         obtain ⟨v,k1,k2⟩:=hrel i j r c q1 q2
         refine ⟨v,?_,k2⟩
         rw[Array.getElem?_append_left (by simpa using (gE k1).1)]
         simpa using k1)
      refine fin hg hI2 ?_ hR
      exact ⟨hS2.ext,⟨hS2.fr.os,hS2.fr.tape,hS2.fr.output,hS2.fr.size,hS2.fr.blk,hS2.fr.mem,hS2.fr.loc⟩,hS2.tot⟩
     ·cases hap
   |arr id len gen =>
    simp only at hap
    split at hap
    ·rename_i sz' rows g sl hG
     split at hap
     ·rename_i hc
      cases hap
      obtain ⟨hgen,hsl,hlen,hszz,hroom⟩:=hc
      subst hgen
      subst hszz
      simp only[roomy,Bool.and_eq_true,decide_eq_true_eq]at hroom
      generalize hzx:a.eval x=z at hrx fin
      cases hrx with|arr _ _ _ ad n c loc g' szz q1 q2 q3 q4 =>
      have hinf:inf G id=some (some (g,sz')):=by simp[inf,hG,infO]
      rw[hinf]at q2
      cases q2
      obtain ⟨rfl,rfl,rfl⟩:=q4 rfl
      obtain ⟨cs,T,k1,k2,k3,k4,k5,k6,k7⟩:=hI.obj id _ hG loc q1
      have hidl:id<G.length:=(gE hG).1
      have hok':okRows sz' (rows.take n++new)=true:=by
       simp only[okRows,List.all_append,Bool.and_eq_true]
       exact ⟨okRows_take k5,hok⟩
      have hlt:(rows.take n).length=n:=by simp;omega
      have hncs:n * sz'≤cs.size:=by rw[k2];exact Nat.mul_le_mul_right _ (by omega)
      have hcell:∀ j,w.cell? ⟨loc.blk,j,none⟩=cs[j]?:=fun j=>by simp[World.cell?,k1]
      have hfz:∀ j,w.frozen? ⟨loc.blk,j,none⟩=false:=fun j=>by
       simp[World.frozen?,k1]
      have hold:∀ (i j:Nat) (r:List PV) (c:PV),(rows.take n)[i]?=some r→r[j]?=some c→∃ v,(cs.toList.take (n * sz'))[i * sz'+j]?=some v∧RP m v c:=by
       intro i j r c p1 p2
       have hi:i<n:=by have:=(gE p1).1;rwa [hlt]at this
       rw[List.getElem?_take,if_pos hi]at p1
       have hj:j<sz':=by rw[← okRow_len (okRows_at k5 p1)];exact (gE p2).1
       have:i * sz'+j<n * sz':=by
        have:i * sz'+sz'≤n * sz':=by rw[← Nat.succ_mul];exact Nat.mul_le_mul_right _ hi
        omega
       obtain ⟨v,e1,e2⟩:=k6 i j r c p1 p2
       exact ⟨v,by rw[List.getElem?_take,if_pos this];simpa using e1,e2⟩
      have hall:=rows_append (m:=m) h1 (old:=rows.take n) (new:=new) (cs:=cs.toList.take (n * sz')) (news:=news) (by rw[hlt];simp;omega) hold (okRows_take k5) hrel
      by_cases hfit:n+new.length≤loc.cap
      ·
       have hnn:n * sz'+news.length≤cs.size:=by
        rw[k2,hnl,← Nat.add_mul];exact Nat.mul_le_mul_right _ hfit
       have hrun:=run_append_room_src (P:=P) w t tx o.type e ie ht g1 loc.blk 0 n loc.cap (a.eval y) new.length news hsrc' hfit (by
        intro j hj
        rw[hcell,hsize,Array.getElem?_eq_getElem (by omega)];rfl) (fun j hj=>hfz _)
       simp only[hsize,Nat.zero_add]at hrun
       obtain ⟨cs',s1,s2,s3,s4⟩:=setCells_heap loc.blk news (n * sz') w cs T (0,0) k1 hnn
       obtain ⟨w1,w2,w3,w4,w5⟩:=setCells_other loc.blk news (n * sz') w
       obtain ⟨hI2,hS2⟩:=set_step (old:=.arr sz' rows g sl) (new:=.arr sz' (rows.take n++new) (g+1) sl) hI hG q1 (w':=w.setCells loc.blk (n * sz') news) (cs:=cs) (T:=T) w1 w2 w3 w4 w5 (by
         intro oo v hm
         have hlt2:oo<sl * sz':=by
          apply Classical.byContradiction
          intro hge
          rw[k7 oo (by omega)]at hm
          cases hm
         have:sl * sz'≤n * sz':=Nat.mul_le_mul_right _ hsl
         have hkk:=hI.known _ _ _ hm
         rw[hcell]at hkk
         simp only[World.cell?,s1,Option.isSome_none,Bool.false_eq_true,if_false]
         rw[s4 oo (.inl (by omega))]
         exact hkk) (by simp[infO]) (by simp[infO]) (fun e=>⟨cs',T,s1,by rw[s2,k2],by simp[hlt];omega,h1,hok',fun i j r c p1 p2=>by
          obtain ⟨v,e1,e2⟩:=hall i j r c p1 p2
          refine ⟨v,?_,e2⟩
          rw[← e1]
          have htl:(cs.toList.take (n * sz')).length=n * sz':=by simp;omega
          by_cases hb:i * sz'+j<n * sz'
          ·rw[s4 _ (.inl hb),List.getElem?_append_left (by omega),List.getElem?_take,if_pos hb]
           simp
          ·rw[List.getElem?_append_right (by omega),htl]
           have hlt3:i * sz'+j-n * sz'<news.length:=by
            have:=(gE e1).1
            rw[List.length_append,htl]at this
            omega
           rw[← s3 _ hlt3]
           congr 1
           omega,k7⟩)
       refine fin hrun hI2 hS2 ?_
       exact .arr _ _ _ _ _ _ loc (g+1) sz' q1 (by rw[inf_set_same _ _ _ hidl];rfl) (Nat.le_refl _) (fun _=>⟨rfl,rfl,rfl⟩)
      ·
       have hold':(Builtin.firstCells ie.size n (.slice (some ⟨loc.blk,0,none⟩) n loc.cap)).run P w.drew=.ok (cs.toList.take (n * sz')).toArray w.drew:=by
        rw[hsize]
        exact run_firstCells_some w.drew sz' n ⟨loc.blk,0,none⟩ n loc.cap _ (by simp;omega) (fun j v hj=>by
         rw[Addr.add_mid]
         rw[List.getElem?_take]at hj
         split at hj
         ·show w.cell? _=_
          rw[Nat.zero_add,hcell];simpa using hj
         ·cases hj)
       have hg:=run_append_grow_src (P:=P) w t tx o.type e ie zv ht g1 g2 (some ⟨loc.blk,0,none⟩) n loc.cap _ hold' (a.eval y) new.length news hsrc' (by omega) (by
        have:=hroom.2
        omega) (growslice_fits (by omega) (by rw[hbytes];have:=hroom.1;omega))
       have hge:=grownCap_ge w (n+new.length) loc.cap e
       obtain ⟨hI2,hS2⟩:=realloc_step hI hG q1 (rows':=rows.take n++new) (cap:=grownCap w (n+new.length) loc.cap e)
        (cs:=(cs.toList.take (n * sz')++news).toArray++Builtin.zeroCells zv.cells (grownCap w (n+new.length) loc.cap e-(n+new.length))) (T:=e)
        (w':=w.drew.alloc (.cells ((cs.toList.take (n * sz')++news).toArray++Builtin.zeroCells zv.cells (grownCap w (n+new.length) loc.cap e-(n+new.length))) e)) rfl rfl rfl rfl h1 (by
         rw[Array.size_append,zeroCells_size,g3]
         have:(cs.toList.take (n * sz')++news).toArray.size=(n+new.length) * sz':=by
          simp only[List.size_toArray,List.length_append,hnl,Nat.add_mul]
          simp;omega
         rw[this,← Nat.add_mul]
         congr 1
         omega) (by simp[hlt];omega) hok' (fun i j r c p1 p2=>by
          obtain ⟨v,e1,e2⟩:=hall i j r c p1 p2
          refine ⟨v,?_,e2⟩
          rw[Array.getElem?_append_left (by simpa using (gE e1).1)]
          simpa using e1)
       refine fin hg hI2 hS2 ?_
       exact .arr _ _ _ _ _ _ _ (g+1) sz' (by simp;rfl) (by rw[inf_set_same _ _ _ hidl];rfl) (Nat.le_refl _) (fun _=>⟨rfl,rfl,rfl⟩)
     ·cases hap
    ·cases hap
   |_=>simp at hap
  ·cases hap
end
section
variable {P:Program}{o:Oper}{a:Act}{m:Mem}{μ:Mu}{G:Heap}{w:World}
theorem store_run {t:TypeId}{n b off:Nat}{z:Value}(hn:cSize P t=some n)(hz:z.cells.size=n)(hc:∀ j,j<n→(w.cell? ⟨b,off+j,none⟩).isSome=true)(hf:∀ j,j<n→w.frozen? ⟨b,off+j,none⟩=false)
  (h1:∀ u∈z.cells.toList,u.oneCell'=true):(Instr.storeAt t (.pointer (some ⟨b,off,none⟩)) z).run P w=.ok () (w.setCells b off z.cells.toList):=by
 have hst:=run_storeCells_cells (P:=P) b off z.cells.toList 0 w (by simpa [hz] using hc) (by simpa [hz] using hf) h1
 simp only[Nat.add_zero]at hst
 simp[Instr.storeAt,Instr.sureAddr,storeVar,cSize_run hn,hz,hst]
variable {N:Nat}{env:Env}(hI:Inv m μ G w)(he:EnvR m μ (inf G) N env a)
include hI he
theorem good_store {x y:Operand}{ox oy:Opd}{t:TypeId}{n:Nat}(ho:o.op=.store t x y)(hn:cSize P t=some n)(hx:cOpd x=some ox)(hy:cOpd y=some oy){u v:AV}(hu:opd env ox=some u)(hv:opd env oy=some v){G':Heap}(hs:evStore n G u v=some G'):Good P o a m μ G w (.val .undef G'):=by
 have hru:=opd_R he hx hu
 have hrv:=opd_R he hy hv
 unfold evStore at hs
 split at hs
 ·rename_i hvn
  cases u with
  |ptr id off =>
   simp only at hs
   split at hs
   ·rename_i cs hG
    split at hs
    ·rename_i hc
     cases hs
     generalize hzx:a.eval x=z at hru
     cases hru with|ptr _ _ loc h1 h2 =>
     obtain ⟨cv,T,k1,k2,k3,k4,k5⟩:=hI.obj id _ hG loc h1
     have hvc:=RL.cellsOf hrv hc.2
     have hzn:(a.eval y).cells.size=n:=by have:=hvc.1;simp at this;omega
     have hcell:∀ j,w.cell? ⟨loc.blk,j,none⟩=cv[j]?:=fun j=>by simp[World.cell?,k1]
     have hone:∀ q∈(a.eval y).cells.toList,q.oneCell'=true:=by
      intro q hq
      obtain ⟨k,hk,rfl⟩:=List.mem_iff_getElem.1 hq
      have hk':k<v.cells.length:=by rw[← hvc.1];exact hk
      exact (hvc.2 k _ _ (gG hk) (gG hk')).one (List.all_eq_true.1 hc.2 _ (List.getElem_mem _))
     have hrun:=store_run (P:=P) (w:=w) (b:=loc.blk) (off:=off) hn hzn (fun j hj=>by rw[hcell,Array.getElem?_eq_getElem (by omega)];rfl) (fun j hj=>by simp[World.frozen?,k1]) hone
     have hzl:(a.eval y).cells.toList.length=n:=by simpa using hzn
     obtain ⟨cs',s1,s2,s3,s4⟩:=setCells_heap loc.blk (a.eval y).cells.toList off w cv T (0,0) k1 (by omega)
     obtain ⟨w1,w2,w3,w4,w5⟩:=setCells_other loc.blk (a.eval y).cells.toList off w
     obtain ⟨hI2,hS2⟩:=set_step (old:=.box cs) (new:=.box (splice cs off v.cells)) hI hG h1 (w':=w.setCells loc.blk off (a.eval y).cells.toList) (cs:=cv) (T:=T) w1 w2 w3 w4 w5
      (fun oo q hm=>by rw[k5 oo]at hm;cases hm) (by simp[infO]) (by simp[infO])
      (fun e=>⟨cs',T,s1,by rw[s2,k2,splice_length _ _ _ (by omega)],fun j q x' p1 p2=>by
       rw[splice_get _ _ _ (by omega)]at p2
       by_cases hj:off≤j∧j<off+v.cells.length
       ·rw[if_pos hj]at p2
        have:=s3 (j-off) (by omega)
        rw[show off+(j-off)=j by omega]at this
        rw[this]at p1
        exact (hvc.2 _ q x' p1 p2).mono e
       ·rw[if_neg hj]at p2
        rw[s4 j (by omega)]at p1
        exact (k3 j q x' p1 p2).mono e,by
       rw[List.all_eq_true]at k4 ⊢
       intro q hq
       unfold splice at hq
       simp only[List.mem_append]at hq
       rcases hq with (hq|hq)|hq
       ·exact k4 q (List.mem_of_mem_take hq)
       ·exact List.all_eq_true.1 hc.2 q hq
       ·exact k4 q (List.mem_of_mem_drop hq),k5⟩)
     intro next Q hnx
     refine wp_of_skip ?_ (hnx _ _ _ undef hI2 hS2 .undef)
     simp[execOp,ho,hzx,hrun]
    ·cases hs
   ·cases hs
  |eptr id idx off gen =>
   simp only at hs
   split at hs
   ·cases hs
   ·rename_i l G1 hnorm
    split at hs
    ·rename_i sz rows g sl hG
     split at hs
     ·rename_i hc
      obtain ⟨hg,hsl,hll,hfl⟩:=hc
      subst hg
      split at hs
      ·rename_i row hrow
       split at hs
       ·rename_i hle
        cases hs
        obtain ⟨m1,hI1,hS1,hvl⟩:=normP_sound hI hnorm hrv hfl
        generalize hzx:a.eval x=z at hru
        have hru1:=hru.mono hS1.ext
        cases hru1 with|eptr _ _ _ _ ad loc g' szz q1 q2 q3 q4 =>
        have hinf:inf G1 id=some (some (g,sz)):=by simp[inf,hG,infO]
        rw[hinf]at q2
        cases q2
        have had:=q4 rfl
        subst had
        obtain ⟨cv,T,k1,k2,k3,k4,k5,k6,k7⟩:=hI1.obj id _ hG loc q1
        have hzn:(a.eval y).cells.size=n:=by have:=hvl.1;simp at this;omega
        have hzl:(a.eval y).cells.toList.length=n:=by simpa using hzn
        have hcell:∀ j,w.cell? ⟨loc.blk,j,none⟩=cv[j]?:=fun j=>by simp[World.cell?,k1]
        have hidx:idx<rows.length:=(gE hrow).1
        have hrl:=okRow_len (okRows_at k5 hrow)
        have hsize:idx * sz+sz≤cv.size:=by
         rw[k2,← Nat.succ_mul];exact Nat.mul_le_mul_right _ (by omega)
        have hone:∀ q∈(a.eval y).cells.toList,q.oneCell'=true:=by
         intro q hq
         obtain ⟨k,hk,rfl⟩:=List.mem_iff_getElem.1 hq
         have hk':k<l.length:=by rw[← hvl.1];exact hk
         exact (hvl.2 k _ _ (gG hk) (gG hk')).one (List.all_eq_true.1 hfl _ (List.getElem_mem _))
        have hrun:=store_run (P:=P) (w:=w) (b:=loc.blk) (off:=idx * sz+off) hn hzn (fun j hj=>by rw[hcell,Array.getElem?_eq_getElem (by omega)];rfl) (fun j hj=>by simp[World.frozen?,k1]) hone
        obtain ⟨cs',s1,s2,s3,s4⟩:=setCells_heap loc.blk (a.eval y).cells.toList (idx * sz+off) w cv T (0,0) k1 (by omega)
        obtain ⟨w1,w2,w3,w4,w5⟩:=setCells_other loc.blk (a.eval y).cells.toList (idx * sz+off) w
        have hokr:okRow sz (splice row off l)=true:=by
         simp only[okRow,Bool.and_eq_true,beq_iff_eq]
         refine ⟨by rw[splice_length _ _ _ (by omega)];exact hrl,?_⟩
         rw[List.all_eq_true]
         intro q hq
         unfold splice at hq
         simp only[List.mem_append]at hq
         rcases hq with (hq|hq)|hq
         ·exact okRow_flat (okRows_at k5 hrow) q (List.mem_of_mem_take hq)
         ·exact List.all_eq_true.1 hfl q hq
         ·exact okRow_flat (okRows_at k5 hrow) q (List.mem_of_mem_drop hq)
        obtain ⟨hI2,hS2⟩:=set_step (old:=.arr sz rows g sl) (new:=.arr sz (rows.set idx (splice row off l)) g sl) hI1 hG q1 (w':=w.setCells loc.blk (idx * sz+off) (a.eval y).cells.toList) (cs:=cv) (T:=T) w1 w2 w3 w4 w5
         (fun oo q hm=>by
          have hlt2:oo<sl * sz:=by
           apply Classical.byContradiction
           intro hge
           rw[k7 oo (by omega)]at hm
           cases hm
          have:sl * sz≤idx * sz:=Nat.mul_le_mul_right _ hsl
          have hkk:=hI1.known _ _ _ hm
          rw[hcell]at hkk
          simp only[World.cell?,s1,Option.isSome_none,Bool.false_eq_true,if_false]
          rw[s4 oo (.inl (by omega))]
          exact hkk) (by simp[infO]) (by simp[infO])
         (fun e=>⟨cs',T,s1,by rw[s2,k2],by simpa using k3,k4,okRows_set k5 hokr,fun i j r c p1 p2=>by
          have hjr:j<sz:=by rw[← okRow_len (okRows_at (okRows_set k5 hokr) p1)];exact (gE p2).1
          by_cases hii:i=idx
          ·subst hii
           rw[List.getElem?_set_self hidx]at p1
           cases p1
           rw[splice_get _ _ _ (by omega)]at p2
           by_cases hj:off≤j∧j<off+l.length
           ·rw[if_pos hj]at p2
            have:=s3 (j-off) (by omega)
            rw[show i * sz+off+(j-off)=i * sz+j by omega]at this
            have hlt:j-off<(a.eval y).cells.toList.length:=by omega
            exact ⟨_,by rw[this,gG hlt],hvl.2 _ _ c (gG hlt) p2⟩
           ·rw[if_neg hj]at p2
            obtain ⟨q,e1,e2⟩:=k6 i j row c hrow p2
            exact ⟨q,by rw[s4 _ (by omega)];exact e1,e2⟩
          ·rw[List.getElem?_set,if_neg (Ne.symm hii)]at p1
           obtain ⟨q,e1,e2⟩:=k6 i j r c p1 p2
           refine ⟨q,?_,e2⟩
           rw[s4 _ ?_]
           ·exact e1
           ·rcases Nat.lt_or_gt_of_ne hii with hlt|hgt
            ·have:i * sz+sz≤idx * sz:=by rw[← Nat.succ_mul];exact Nat.mul_le_mul_right _ hlt
             omega
            ·have:idx * sz+sz≤i * sz:=by rw[← Nat.succ_mul];exact Nat.mul_le_mul_right _ hgt
             omega,k7⟩)
        intro next Q hnx
        refine wp_of_skip ?_ (hnx _ _ _ undef hI2 (hS1.trans hS2) .undef)
        simp[execOp,ho,hzx,hrun]
       ·cases hs
      ·cases hs
     ·cases hs
    ·cases hs
  |_=>simp at hs
 ·cases hs
end
section
variable {P:Program}{o:Oper}{a:Act}{m:Mem}{μ:Mu}{G:Heap}{w:World}
theorem bounds_run (isSlice:Bool)(len cap:Nat)(lo hi:Option Int)(hlo:0≤lo.getD 0)(hle:lo.getD 0≤hi.getD len)(hhi:hi.getD len≤cap)(hlc:len≤cap)(ol oh:Option Value)
  (hol:∀ i,lo=some i→∃ k,ol=some (.int k i)) (hon:lo=none→ol=none) (hoh:∀ i,hi=some i→∃ k,oh=some (.int k i)) (hhn:hi=none→oh=none) :
  (Instr.sliceBounds isSlice len cap ol oh none).run P w=.ok ((lo.getD 0).toNat,(hi.getD len).toNat,cap) w:=by
 cases lo with
 |none =>
  rw[hon rfl]
  cases hi with
  |none=>rw[hhn rfl];simp[Instr.sliceBounds]
  |some h =>
   obtain ⟨k,rfl⟩:=hoh h rfl
   simp at hle hhi
   simp[Instr.sliceBounds,Instr.sliceBound,asIntOf,hle,hhi]
 |some l =>
  obtain ⟨k,rfl⟩:=hol l rfl
  cases hi with
  |none =>
   rw[hhn rfl]
   simp at hle hlo
   simp[Instr.sliceBounds,Instr.sliceBound,asIntOf,hle,hlo]
  |some h =>
   obtain ⟨k',rfl⟩:=hoh h rfl
   simp at hle hlo hhi
   have h0:0≤h:=by omega
   have hle':l≤(h.toNat:Int):=by omega
   have e:max h 0=h:=by omega
   simp[Instr.sliceBounds,Instr.sliceBound,asIntOf,hlo,hhi,h0,hle',e,hle]
theorem cOpt_spec {env:Env}{N:Nat}(he:EnvR m μ (inf G) N env a){x:Option Operand}{ox:Option Opd}(hc:cOpt x=some ox){lo:Option Int}(h:(match ox with|none=>some none|some o=>((opd env o).bind asInt).map some)=some lo) :
  (∀ i,lo=some i→∃ k,x.map a.eval=some (.int k i))∧(lo=none→x.map a.eval=none):=by
 cases x with
 |none =>
  simp[cOpt]at hc
  subst hc
  simp at h
  subst h
  exact ⟨fun i h=>(by cases h),fun _=>rfl⟩
 |some x =>
  simp only[cOpt,Option.map_eq_some_iff]at hc
  obtain ⟨b,hb,rfl⟩:=hc
  change ((opd env b).bind asInt).map some=some lo at h
  cases hq:opd env b with
  |none=>rw[hq]at h;cases h
  |some v =>
  have hv:=hq
  rw[hq]at h
  cases hi:asInt v with
  |none=>simp[hi]at h
  |some i =>
  simp only[Option.bind_some,hi,Option.map_some,Option.some.injEq]at h
  subst h
  refine ⟨fun j hj=>?_,fun h=>by cases h⟩
  cases hj
  have hr:=opd_R he hb hv
  unfold asInt at hi
  split at hi
  ·rename_i k n
   cases hi
   exact ⟨k,by rw[Option.map_some,hr.int_inv]⟩
  ·cases hi
theorem sub_rows {ad:Option Addr}{cap:Nat}{rows:List (List PV)}{sz:Nat}(hp:RP m (.slice ad rows.length cap) (.sl rows))(hok:okRows sz rows=true)(l h:Nat)(hlh:l≤h)(hh:h≤rows.length) :
  RP m (.slice (if cap=l then ad else ad.map (·.add (l * sz))) (h-l) (cap-l)) (.sl ((rows.take h).drop l)):=by
 obtain ⟨ad',cap',sz',f,he,hcap,hs,ha,hf⟩:=hp.sl_inv
 injection he with e1 e2 e3
 subst e1
 subst e3
 have hlen:((rows.take h).drop l).length=h-l:=by simp;omega
 have hget:∀ i,((rows.take h).drop l)[i]?=if l+i<h then rows[l+i]? else none:=fun i=>by
  rw[List.getElem?_drop,List.getElem?_take]
 have key:RP m (.slice (if cap=l then ad else ad.map (·.add (l * sz))) ((rows.take h).drop l).length (cap-l)) (.sl ((rows.take h).drop l)):=by
  refine .sl _ _ _ sz' (fun i j=>f (l+i) j) (by rw[hlen];omega) (okRows_drop (okRows_take hs)) (fun hne=>?_) (fun i j r c g1 g2=>?_)
  ·have hlt:l<h:=by
    apply Classical.byContradiction
    intro hge
    exact hne (List.eq_nil_of_length_eq_zero (by rw[hlen];omega))
   have hrne:rows≠[]:=by intro e;subst e;simp at hh;omega
   obtain ⟨b,oo,rfl,hm⟩:=ha hrne
   have hss:=okRows_two hs hok hrne
   refine ⟨b,oo+l * sz,by rw[if_neg (by omega)];simp[Addr.add_mid],fun i j r c g1 g2=>?_⟩
   rw[hget]at g1
   split at g1
   ·have:=hm _ _ _ _ g1 g2
    rw[← this,hss]
    congr 1
    rw[Nat.add_mul]
    omega
   ·cases g1
  ·rw[hget]at g1
   split at g1
   ·exact hf _ _ _ _ g1 g2
   ·cases g1
 rw[hlen]at key
 exact key
variable {N:Nat}{env:Env}(hI:Inv m μ G w)(he:EnvR m μ (inf G) N env a)
include hI he
theorem good_subs {x:Operand}{ox:Opd}{lo hi:Option Operand}{olo ohi:Option Opd}{t:TypeId}{d:TypeDesc}{sz:Nat}(ho:o.op=.slice t x lo hi none)(ht:P.underlying t=some d)(hd:(d=.string)∨(∃ e,d=.slice e∧cSize P e=some sz))(hx:cOpd x=some ox)(hlo:cOpt lo=some olo)(hhi:cOpt hi=some ohi)
  {v:AV} (hv:opd env ox=some v) {l h:Option Int} (hl:(match olo with|none=>some none|some o=>((opd env o).bind asInt).map some)=some l) (hh:(match ohi with|none=>some none|some o=>((opd env o).bind asInt).map some)=some h)
  (hstr:(d=.string)↔isStr v=true) {r:AV} {G':Heap} (hs:evSub sz G v l h=some (r,G')):Good P o a m μ G w (.val r G'):=by
 have hr:=opd_R he hx hv
 obtain ⟨a1,a2⟩:=cOpt_spec he hlo hl
 obtain ⟨b1,b2⟩:=cOpt_spec he hhi hh
 have fin:∀ {val:Value} {m':Mem},(Instr.slice t (a.eval x) (lo.map a.eval) (hi.map a.eval) none).run P w=.ok val w→(∀ n e,d≠.array n e)→Inv m' μ G' w→Stp m μ G w m' μ G' w→R m' μ (inf G') val r→Good P o a m μ G w (.val r G'):=by
  intro val m' hrun hna hI' hS hR next Q hnx
  refine wp_of_val ?_ (hnx _ _ _ _ hI' hS hR)
  have:(Instr.sliceAt t (a.eval x) (lo.map a.eval) (hi.map a.eval) none).run P w=.ok val w:=by
   simp only[Instr.sliceAt,Sem.run_bind,run_underlying ht,Result.andThen_ok]
   rcases hd with rfl|⟨e,rfl,_⟩<;>exact hrun
  simp[execOp,ho,this]
 have hna:∀ n e,d≠.array n e:=by rcases hd with rfl|⟨e,rfl,_⟩<;>simp
 cases v with
 |p y =>
  cases y with
  |s s =>
   have hd':=hstr.2 rfl
   subst hd'
   have hz:=hr.str_inv
   simp only[evSub]at hs
   split at hs
   ·rename_i hc
    cases hs
    have hb:=bounds_run (P:=P) (w:=w) false s.length s.length l h hc.1 hc.2.1 hc.2.2 (Nat.le_refl _) _ _ a1 a2 b1 b2
    refine fin (val:=.string ⟨((s.take (h.getD s.length).toNat).drop (l.getD 0).toNat).toArray⟩) ?_ hna hI (.refl _ _ _ _) (.str _)
    simp[Instr.slice,run_underlying ht,hz,bytes_size,hb,bytes_extract]
   ·cases hs
  |sl rows =>
   have hd':∃ e,d=.slice e∧cSize P e=some sz:=by
    rcases hd with rfl|hd
    ·have:=hstr.1 rfl;simp[isStr]at this
    ·exact hd
   obtain ⟨e,rfl,hn⟩:=hd'
   simp only[evSub]at hs
   split at hs
   ·rename_i hc
    cases hs
    generalize hzx:a.eval x=z at hr fin
    cases hr with|p _ _ hp =>
    have hp':=hp
    cases hp' with|sl ad cap _ sz' f hcap hs' ha hf =>
    have hb:=bounds_run (P:=P) (w:=w) true rows.length cap l h hc.1 hc.2.1 (by have:=hc.2.2.1;omega) hcap _ _ a1 a2 b1 b2
    have hlh:(l.getD 0).toNat≤(h.getD rows.length).toNat:=by have:=hc.2.1;omega
    have hhr:(h.getD rows.length).toNat≤rows.length:=by have:=hc.2.2.1;omega
    refine fin ?_ hna hI (.refl _ _ _ _) (.p _ _ (sub_rows hp hc.2.2.2 _ _ hlh hhr))
    simp[Instr.slice,run_underlying ht,hb,cSize_run hn]
   ·cases hs
  |_=>simp[evSub]at hs
 |nils =>
  have hd':∃ e,d=.slice e∧cSize P e=some sz:=by
   rcases hd with rfl|hd
   ·have:=hstr.1 rfl;simp[isStr]at this
   ·exact hd
  obtain ⟨e,rfl,hn⟩:=hd'
  simp only[evSub]at hs
  split at hs
  ·rename_i hc
   cases hs
   generalize hzx:a.eval x=z at hr fin
   cases hr
   have hb:=bounds_run (P:=P) (w:=w) true 0 0 l h (by omega) (by simp;omega) (by simp;omega) (Nat.le_refl _) _ _ a1 a2 b1 b2
   refine fin (val:=.slice none 0 0) ?_ hna hI (.refl _ _ _ _) .nils
   have e1:(l.getD 0).toNat=0:=by omega
   have e2:(h.getD 0).toNat=0:=by omega
   simp only[Int.natCast_zero,e1,e2]at hb
   simp[Instr.slice,run_underlying ht,hb,cSize_run hn,e2]
  ·cases hs
 |arr id len gen =>
  have hd':∃ e,d=.slice e∧cSize P e=some sz:=by
   rcases hd with rfl|hd
   ·have:=hstr.1 rfl;simp[isStr]at this
   ·exact hd
  obtain ⟨e,rfl,hn⟩:=hd'
  simp only[evSub]at hs
  split at hs
  ·rename_i sz' rows g sl hG
   split at hs
   ·rename_i hc
    obtain ⟨hg,hsz,h0,h1,h2,h3⟩:=hc
    subst hg
    subst hsz
    generalize hzx:a.eval x=z at hr fin
    have hr0:=hr
    cases hr with|arr _ _ _ ad n c loc g' szz q1 q2 q3 q4 =>
    have hinf:inf G id=some (some (g,sz')):=by simp[inf,hG,infO]
    have q2':=q2
    rw[hinf]at q2'
    cases q2'
    obtain ⟨rfl,rfl,rfl⟩:=q4 rfl
    obtain ⟨cs,T,k1,k2,k3,k4,k5,k6,k7⟩:=hI.obj id _ hG loc q1
    have hb:=bounds_run (P:=P) (w:=w) true n loc.cap l h h0 h1 (by omega) (by omega) _ _ a1 a2 b1 b2
    split at hs
    ·rename_i ho0
     cases hs
     have e1:(l.getD 0).toNat=0:=by omega
     refine fin (val:=.slice (some ⟨loc.blk,0,none⟩) (h.getD n).toNat loc.cap) ?_ hna hI (.refl _ _ _ _) (.arr _ _ _ _ _ _ loc g sz' q1 q2 (Nat.le_refl _) (fun _=>⟨rfl,rfl,rfl⟩))
     simp[Instr.slice,run_underlying ht,hb,cSize_run hn,e1,Addr.add_mid]
    ·cases hs
     obtain ⟨m',hI',hS,⟨bk,hz,hcap,hm⟩,hok,hs1⟩:=norm_arr hI hr0 hG rfl h3
     have hl:(rows.take n).length=n:=by simp;omega
     have hRP:=RP.ofBlock (m:=m') (b:=bk) (o:=0) (sz:=sz') (cap:=loc.cap) (rows:=rows.take n) (by omega) (okRows_take hok) (by simpa using hm)
     simp only[Value.slcap]at hz
     have hbk:bk=loc.blk:=by injection hz with e1 _ _;injection e1 with e1;injection e1 with e1 _ _;exact e1.symm
     subst hbk
     have hlh:(l.getD 0).toNat≤(h.getD n).toNat:=by omega
     have hsub:=sub_rows hRP (okRows_take hok) (l.getD 0).toNat (h.getD n).toNat hlh (by omega)
     have htt:(rows.take n).take (h.getD n).toNat=rows.take (h.getD n).toNat:=by rw[List.take_take];congr 1;omega
     rw[htt]at hsub
     refine fin ?_ hna hI' hS (.p _ _ hsub)
     simp[Instr.slice,run_underlying ht,hb,cSize_run hn]
   ·cases hs
  ·cases hs
 |_=>simp[evSub]at hs
theorem good_tostr {x:Operand}{ox:Opd}{s d e:TypeId}(ho:o.op=.convert s d x)(hs:P.underlying s=some (.slice e))(hd:P.underlying d=some .string)(hu:P.underlying e=some (.int .u8))(hx:cOpd x=some ox){v:AV}(hv:opd env ox=some v){l:List UInt8}(hl:(if isStr v then none else (rowsOf G v).bind bytesOf)=some l):Good P o a m μ G w (.val (.p (.s l)) G):=by
 have hr:=opd_R he hx hv
 split at hl
 ·cases hl
 ·rename_i hns
  simp only[Option.bind_eq_some_iff]at hl
  obtain ⟨rows,h1,h2⟩:=hl
  have hok:okRows 1 rows=true:=by
   clear h1
   induction rows generalizing l with
   |nil=>rfl
   |cons r rows ih =>
    unfold bytesOf at h2
    split at h2
    ·rename_i heq;cases heq
    ·rename_i n r' heq
     cases heq
     split at h2
     ·rename_i l' hl'
      simp only[okRows,List.all_cons,Bool.and_eq_true]
      exact ⟨rfl,ih hl'⟩
     ·cases h2
    ·cases h2
  obtain ⟨ad,c,news,hsrc⟩:=slice_src hI hr h1 (by intro l e;subst e;simp[isStr]at hns) (Nat.le_refl 1) hok
  have hbytes:∀ (j:Nat) (u:Value),news[j]?=some u→∃ n,u=.int .u8 n∧l[j]?=some (UInt8.ofNat n.toNat):=by
   have hlen:=hsrc.len
   have hrel:=hsrc.rel
   clear hsrc h1 hok
   induction rows generalizing l news with
   |nil =>
    intro j u hj
    have:news=[]:=List.eq_nil_of_length_eq_zero (by simpa using hlen)
    subst this
    simp at hj
   |cons r rows ih =>
    unfold bytesOf at h2
    split at h2
    ·rename_i heq;cases heq
    ·rename_i n r' heq
     cases heq
     split at h2
     ·rename_i l' hl'
      cases h2
      cases news with
      |nil=>simp at hlen
      |cons u0 news =>
       intro j u hj
       cases j with
       |zero =>
        simp at hj
        subst hj
        obtain ⟨q,e1,e2⟩:=hrel 0 0 _ _ rfl rfl
        simp at e1
        subst e1
        cases e2
        exact ⟨n,rfl,rfl⟩
       |succ j =>
        refine ih (l:=l') (news:=news) hl' (by simpa using hlen) (fun i j r x g1 g2=>?_) j u (by simpa using hj)
        obtain ⟨q,e1,e2⟩:=hrel (i+1) j r x (by simpa using g1) g2
        refine ⟨q,?_,e2⟩
        rw[← e1,show (i+1) * 1+j=(i * 1+j)+1 by omega]
        simp
     ·cases h2
    ·cases h2
  have hll:l.length=rows.length:=by
   clear hbytes hsrc h1 hok
   induction rows generalizing l with
   |nil=>simp[bytesOf]at h2;subst h2;rfl
   |cons r rows ih =>
    unfold bytesOf at h2
    split at h2
    ·rename_i heq;cases heq
    ·rename_i n r' heq
     cases heq
     split at h2
     ·rename_i l' hl'
      cases h2
      simp[ih hl']
     ·cases h2
    ·cases h2
  have hn:news.length=rows.length:=by have:=hsrc.len;omega
  have hconv:(convert s d (a.eval x)).run P w=.ok (.string ⟨l.toArray⟩) w:=by
   rw[hsrc.val]
   by_cases hr0:rows=[]
   ·subst hr0
    have:l=[]:=List.eq_nil_of_length_eq_zero (by simpa using hll)
    subst this
    cases ad with
    |none=>rw[run_convert_bytes_nil w s e hs hu _ _ d hd];rfl
    |some ad =>
     rw[run_convert_bytes_string w s d e _ _ _ hs hu hd]
     simp[Conv.bytesToString,loadCells,loadCellsFrom]
     rfl
   ·obtain ⟨b,oo,rfl,hc⟩:=hsrc.addr hr0
    rw[run_convert_bytes_arg w s e hs hu b oo rows.length c (news.map fun u=>match u with|.int _ n=>n|_=>0) (by simpa using hn) (fun i hi=>by
     obtain ⟨n,h3,h4⟩:=hbytes i _ (gG (by omega))
     rw[hc i _ (gG (by omega)),h3]
     simp[List.getD_eq_getElem?_getD,List.getElem?_map,gG (show i<news.length by omega),h3]) d hd]
    congr 2
    unfold strOfNums
    congr 2
    apply List.ext_getElem?
    intro j
    rw[List.map_map,List.getElem?_map]
    by_cases hj:j<news.length
    ·obtain ⟨n,h3,h4⟩:=hbytes j _ (gG hj)
     rw[gG hj,h4,Option.map_some]
     simp[h3]
    ·rw[List.getElem?_eq_none (by omega),List.getElem?_eq_none (by omega)]
     rfl
  exact .same hI (by simp[execOp,ho,hconv]) (.str _)
end
end Go.Proofs.Z
end
