/- A part of the proof. -/
import Derived.Test.YtffohgbmjjbhiaaGreatB01
import Derived.Great.BuildSlice
import Derived.Laws.BytesArg
set_option linter.all false
namespace Go.Proofs.Z
theorem Wf (b:Nat):∀(vs:List Value) (o:Nat) (w:World) (cs:Array Value) (T:TypeId) (f:Nat×Nat),w.heap[b]?=some (.cells cs T f)->o+vs.length<=cs.size ->
  ∃cs',(w.setCells b o vs).heap[b]?=some (.cells cs' T f)/\cs'.size=cs.size/\(∀j,j<vs.length->cs'[o+j]?=vs[j]?)/\(∀k,k<o\/o+vs.length<=k->cs'[k]?=cs[k]?)
 |[],o,w,cs,T,f,h,hs=>⟨cs,h,rfl,λj hj=>by simp at hj,λ_ _=>rfl⟩
 |v::vs,o,w,cs,T,f,h,hs=>by
  simp at hs;have h':(w.setCell ⟨b,o,none⟩ v).heap[b]?=some (.cells (cs.setIfInBounds o v) T f):=by
   simp[World.setCell,Array.getElem?_modify,h]
  obtain⟨cs',h1,h2,h3,h4⟩:=Wf b vs (o+1) (w.setCell ⟨b,o,none⟩ v) _ T f h' (by simp;omega);refine⟨cs',by rw[World.setCells];exact h1,by simpa using h2,λj hj=>?_,λk hk=>?_⟩
  ·cases j with
   |zero =>
    rw[h4 (o+0) (by omega)];have:o<cs.size:=by omega
    simp[Array.getElem?_setIfInBounds,this]
   |succ j =>
    have:=h3 j (by simpa using hj);rw[show o+(j+1)=o+1+j by omega,this];simp
  ·simp at hk;rw[h4 k (by omega)];have:o≠k:=by omega
   simp[Array.getElem?_setIfInBounds,this]
theorem jw (b:Nat):∀(vs:List Value) (o:Nat) (w:World),(w.setCells b o vs).os=w.os/\(w.setCells b o vs).tape=w.tape/\(w.setCells b o vs).output=w.output/\(w.setCells b o vs).heap.size=w.heap.size /\
  ∀b',b'≠b->(w.setCells b o vs).heap[b']?=w.heap[b']?
 |[],o,w=>⟨rfl,rfl,rfl,rfl,λ_ _=>rfl⟩
 |v::vs,o,w=>by
  obtain⟨h1,h2,h3,h4,h5⟩:=jw b vs (o+1) (w.setCell ⟨b,o,none⟩ v);rw[World.setCells];refine⟨h1,h2,h3,by rw[h4];simp[World.setCell],λb' hb=>?_⟩;rw[h5 b' hb];simp[World.setCell,Array.getElem?_modify,Ne.symm hb]
section
variable {P:Program}{o:Oper}{a:Act}{m:Mem}{μ:Mu}{G:Heap}{w:World}
variable {N:Nat}{aN:Env}(hI:Inv m μ G w)(he:iq m μ (inf G) N aN a)
theorem EI (hI:Inv m μ G w){vs:List Value}{l:List AV}(T:TypeId)(hr:RL m μ (inf G) vs l)(hf:l.all AV.flat=true) :
  ∃cA,Inv m cA (G++[.box l]) { w with heap:=w.heap.push (.cells vs.toArray T (0,0)) }/\lC m μ G w m cA (G++[.box l]) { w with heap:=w.heap.push (.cells vs.toArray T (0,0)) } /\
   R m cA (inf (G++[.box l])) (.pointer (some ⟨w.heap.size,0,none⟩)) (.ptr G.length 0):=by
 obtain⟨h1,h2⟩:=uM hI (.box l) vs.toArray T 0 _ rfl _ rfl (λe=>⟨vs.toArray,T,by simp,by simpa using hr.1,λj v c g1 g2=>(hr.2 j v c (by simpa using g1) g2).mono e,hf,λo=>hI.d_ (aB _) o⟩);exact⟨_,h1,h2,.ptr _ _ ⟨w.heap.size,0⟩ (by simp) (by rw[zF];rfl)⟩
include hI he
theorem EJ {x:Operand}{ox:fe}{T:TypeId}(ho:o.op=.box T x)(hx:cY x=some ox){v:AV}(hv:eH aN ox=some v)(hf:v.cells.all AV.flat=true):Good P o a m μ G w (.val (.ptr G.length 0) (G++[.box v.cells])):=by
 have hr:=dx he hx hv;obtain⟨cA,h1,h2,h3⟩:=EI hI T (RL.cellsOf hr hf) hf;intro next Q hn;refine i_ ?_ (hn _ _ _ _ h1 h2 h3);simp[execOp,ho,Instr.box,newVar,newRow]
theorem EK {T:TypeId}(ho:o.op=.alloc T){cs:List AV}(hz:Wj P T=some cs)(hf:cs.all AV.flat=true):Good P o a m μ G w (.val (.ptr G.length 0) (G++[.box cs])):=by
 unfold Wj at hz;split at hz
 ·rename_i v hv;split at hz
  ·rename_i x hx;cases hz;obtain⟨cA,h1,h2,h3⟩:=EI hI T (RL.cellsOf (ug m μ (inf G) _ _ hx) hf) hf;intro next Q hn;refine i_ ?_ (hn _ _ _ _ h1 h2 h3);cases hq:P.info? T with
   |none=>simp[hq]at hv
   |some i =>
    simp[hq]at hv;simp[execOp,ho,Instr.alloc,zeroValue,typeInfo,hq,hv,newVar,newRow]
  ·cases hz
 ·cases hz
end
section
variable {P:Program}{o:Oper}{a:Act}{m:Mem}{μ:Mu}{G:Heap}{w:World}
theorem qS {α:Type}(l:List α)(off:Nat)(vs:List α)(h:off+vs.length<=l.length)(k:Nat):(Vn l off vs)[k]?=if off<=k/\k<off+vs.length then vs[k-off]? else l[k]?:=by
 unfold Vn;by_cases h1:k<off
 ·rw[List.getElem?_append_left (by simp;omega),List.getElem?_append_left (by simp;omega),aa (by omega),List.getElem?_take,ah h1]
 ·by_cases h2:k<off+vs.length
  ·rw[List.getElem?_append_left (by simp;omega),List.getElem?_append_right (by simp;omega),ah (by omega)];simp[eF (show off<=l.length by omega)]
  ·rw[List.getElem?_append_right (by simp;omega),aa (by omega),List.getElem?_drop]
   congr 1
   simp[eF (show off<=l.length by omega)];omega
theorem WM {α:Type}(l:List α)(off:Nat)(vs:List α)(h:off+vs.length<=l.length):(Vn l off vs).length=l.length:=by
 unfold Vn;simp;omega
theorem RL.Vn {i:Wp}{zc:Array Value}{zero:List AV}(hz:RL m μ i zc.toList zero){v:Value}{x:AV}(hv:RL m μ i v.cells.toList x.cells){off:Nat}(hle:off+x.cells.length<=zero.length) :
  RL m μ i (v.cells.zipIdx.foldl (λcs (c,j)=>cs.setIfInBounds (off+j) c) zc).toList (Z.Vn zero off x.cells):=by
 obtain⟨g1,g2⟩:=Great.foldl_set off v.cells.toList 0 zc;have e:(v.cells.zipIdx.foldl (λcs (c,j)=>cs.setIfInBounds (off+j) c) zc)=((v.cells.toList.zipIdx 0).foldl (λcs (x:Value×Nat)=>cs.setIfInBounds (off+x.2) x.1) zc):=by
  rw[<- jK,jg]
 rw[e];have hzl:zc.size=zero.length:=by simpa using hz.1
 have hvl:v.cells.toList.length=x.cells.length:=hv.1;refine⟨by rw[WM _ _ _ hle];simpa using g1.trans hzl,λk u c h1 h2=>?_⟩;rw[Array.getElem?_toList,g2 k]at h1;rw[qS _ _ _ hle]at h2;simp only[U3]at h1;by_cases hk:off<=k/\k<off+x.cells.length
 ·rw[ah ⟨hk.1,by omega,by omega⟩]at h1;rw[ah hk]at h2;exact hv.2 _ u c h1 h2
 ·rw[aa (by omega)]at h1;rw[aa hk]at h2;exact hz.2 k u c (by simpa using h1) h2
theorem uV {i:Wp}(cg:Nat->Option (Nat×Nat)):∀(ps:List (Nat×Value)) (as:List (Nat×Nat×AV)) (zc:Array Value) (zero cs:List AV),
  ps.length=as.length->(∀(k:Nat) (p:Nat×Value) (q:Nat×Nat×AV),ps[k]?=some p->as[k]?=some q->cg p.1=some (q.1,q.2.1)/\R m μ i p.2 q.2.2) ->
  RL m μ i zc.toList zero->lT zero as=some cs->∃rc,Instr.fill cg zc ps=some rc/\RL m μ i rc.toList cs
 |[],[],zc,zero,cs,_,_,hz,h=>by simp[lT]at h;subst h;exact⟨zc,rfl,hz⟩
 |[],_::_,_,_,_,hl,_,_,_=>by simp at hl
 |_::_,[],_,_,_,hl,_,_,_=>by simp at hl
 |(k,v)::ps,(off,n,x)::as,zc,zero,cs,hl,hr,hz,h=>by
  obtain⟨hp,hx⟩:=hr 0 _ _ rfl rfl;simp only[lT]at h;split at h
  ·rename_i hc;have hv:=RL.cellsOf hx hc.2.2;have hle:off+x.cells.length<=zero.length:=by rw[hc.1];exact hc.2.1
   obtain⟨rc,h1,h2⟩:=uV cg ps as _ _ cs (by simpa using hl) (λj p q g1 g2=>hr (j+1) p q (by simpa using g1) (by simpa using g2)) (hz.Vn hv hle) h;refine⟨rc,?_,h2⟩;unfold Instr.fill;simp only[hp];have hvs:v.cells.size=n:=by have:=hv.1;simp at this;rw[this];exact hc.1
   have hzl:zc.size=zero.length:=by simpa using hz.1
   have h21:=hc.2.1;rw[aa (by simp[hvs];omega)];exact h1
  ·cases h
theorem tD {aN:Env}{N:Nat}(he:iq m μ (inf G) N aN a)(places:Nat->Option (Nat×Nat)):∀(ps:List (Nat×Operand)) (l:List (Nat×Nat×fe)),o_ places ps=some l->∀(vs:List AV),gQ aN (l.map (·.2.2))=some vs ->
  (ps.map fun (i,x)=>(i,a.eval x)).length=((l.zip vs).map fun (p,v)=>(p.1,p.2.1,v)).length /\
  ∀(k:Nat) (p:Nat×Value) (q:Nat×Nat×AV),(ps.map fun (i,x)=>(i,a.eval x))[k]?=some p->((l.zip vs).map fun (p,v)=>(p.1,p.2.1,v))[k]?=some q->places p.1=some (q.1,q.2.1)/\R m μ (inf G) p.2 q.2.2
 |[],l,h,vs,hv=>by
  simp[o_]at h;subst h;exact⟨rfl,λk p q h1=>by simp at h1⟩
 |(i,x)::ps,l,h,vs,hv=>by
  simp only[o_]at h;split at h
  ·rename_i oo n ax l' h1 h2 h3;cases h;simp only[ai,gQ]at hv;split at hv
   ·cases hv
   ·rename_i v hv1;split at hv
    ·cases hv
    ·rename_i vs' hv2;cases hv;obtain⟨g1,g2⟩:=tD he places ps l' h3 vs' hv2;refine⟨by simpa using g1,λk p q q1 q2=>?_⟩;cases k with
     |zero =>
      simp at q1 q2;subst q1;subst q2;exact⟨h1,dx he h2 hv1⟩
     |succ k=>exact g2 k p q (by simpa using q1) (by simpa using q2)
  ·cases h
theorem yw {t:TypeId}{cs:List AV}(h:Wj P t=some cs)(hf:cs.all AV.flat=true)(i:Wp):∃it z,P.info? t=some it/\it.zero=some z/\RL m μ i z.cells.toList cs:=by
 unfold Wj at h;cases hq:P.info? t with
 |none=>simp[hq]at h
 |some it =>
  cases hz:it.zero with
  |none=>simp[hq,hz]at h
  |some z =>
   simp only[hq,kT,hz]at h;split at h
   ·rename_i x hx;cases h;exact⟨it,z,rfl,hz,RL.cellsOf (ug m μ i _ _ hx) hf⟩
   ·cases h
variable {N:Nat}{aN:Env}(hI:Inv m μ G w)(he:iq m μ (inf G) N aN a)
include hI he
theorem Bz {t:TypeId}{ps:Array (Nat×Operand)}(ho:o.op=.build t ps){d:TypeDesc}(ht:P.underlying t=some d){zero:List AV}(hz:Wj P t=some zero)(hzf:zero.all AV.flat=true)
  {places:Nat->Option (Nat×Nat)}
  (hpl:(∃fs,d=.struct fs/\fs.toList.all (λf=>(UR P f.type).isSome)=true/\places=λi=>match fs[i]? with|some f=>(UR P f.type).map λn=>(f.offset,n)|none=>none) \/
   (∃k e n,d=.array k e/\UR P e=some n/\places=λi=>some (i * n,n)))
  {l:List (Nat×Nat×fe)} (hl:o_ places ps.toList=some l) {vs:List AV} (hv:gQ aN (l.map (·.2.2))=some vs) {cs:List AV} (hc:lT zero ((l.zip vs).map fun (p,v)=>(p.1,p.2.1,v))=some cs):Good P o a m μ G w (.val (.ag cs) G):=by
 obtain⟨it,z,h1,h2,h3⟩:=yw (m:=m) (μ:=μ) hz hzf (inf G);obtain⟨g1,g2⟩:=tD he places ps.toList l hl vs hv;obtain⟨rc,f1,f2⟩:=uV places _ _ z.cells zero cs g1 g2 h3 hc;have hb:P.built t (ps.map fun (i,x)=>(i,a.eval x)).toList=some rc:=by
  have e:(ps.map fun (i,x)=>(i,a.eval x)).toList=ps.toList.map fun (i,x)=>(i,a.eval x):=by simp
  rw[e];unfold Program.built;rcases hpl with ⟨fs,rfl,hall,rfl⟩|⟨k,e,n,rfl,hn,rfl⟩
  ·simp only[h1,ht,h2];have hm:fs.toList.mapM (λf=>(P.info? f.type).map λi=>(f.offset,i.size))=some (fs.toList.map λf=>(f.offset,(UR P f.type).getD 0)):=by
    generalize fs.toList=fl at hall
    induction fl with
    |nil=>rfl
    |cons f fl ih =>
     simp only[dJ,ab]at hall;rw[VG,ih hall.2];have:=hall.1;unfold UR at this ⊢;cases hq:P.info? f.type with
     |none=>simp[hq]at this
     |some i=>simp[hq]
   rw[hm];dsimp only;have:(((fs.toList.map λf=>(f.offset,(UR P f.type).getD 0)).toArray[·]?):Nat->Option (Nat×Nat))=λi=>match fs[i]? with|some f=>(UR P f.type).map λn=>(f.offset,n)|none=>none:=by
    funext i;simp only[List.getElem?_toArray,List.getElem?_map,Array.getElem?_toList];cases hq:fs[i]? with
    |none=>rfl
    |some f =>
     have hmem:f∈fs.toList:=by
      have:=mU hq;simpa using this
     have:=bc.1 hall f hmem;obtain⟨n,hn⟩:=dM.1 this;simp[hn]
   rw[this];exact f1
  ·unfold UR at hn;cases hq:P.info? e with
   |none=>simp[hq]at hn
   |some ie =>
    simp[hq]at hn;simp only[h1,ht,h2,hq];rw[hn];exact f1
 refine .same hI (val:=.agg rc) ?_ (.EB f2);simp[execOp,ho,run_build w t _ rc hb]
end
def CA (m:Mem)(cs:Array Value)(sz:Nat)(ay:List (List PV)):Prop :=
 cs.size=ay.length * sz/\∀(i j:Nat) (r:List PV) (c:PV),ay[i]?=some r->r[j]?=some c->∃v,cs[i * sz+j]?=some v/\RP m v c
theorem zK {m:Mem}{μ:Mu}{i:Wp}:∀(zs:List AV) {zero:List PV} {zc:List Value},WH zs=some zero->RL m μ i zc zs->HZ m zc zero
 |[],zero,zc,h,hr=>by simp[WH]at h;subst h;exact⟨hr.1,λj v c _ h2=>by simp at h2⟩
 |a::r,zero,zc,h,hr=>by
  simp only[WH]at h;split at h
  ·cases h
  ·rename_i x hx;split at h
   ·cases h
   ·rename_i l hl;cases h;obtain⟨z,zs,rfl,hz,hr⟩:=hr.iC;refine .cons ?_ (zK r hl hr);cases a with
    |p y=>simp[Yj]at hx;subst hx;cases hz;assumption
    |aC =>
     simp[Yj]at hx;subst hx;cases hz;exact .sl none 0 [] 0 (λ_ _=>undef) (aB _) rfl (λh=>absurd rfl h) (λi j r c h=>by simp at h)
    |_=>simp[Yj]at hx
section
variable {P:Program}{o:Oper}{a:Act}{m:Mem}{μ:Mu}{G:Heap}{w:World}
theorem qT {sz k:Nat}{ay:List (List PV)}{r:List PV}(h:bH sz ay=true)(hr:aS sz r=true):bH sz (ay.set k r)=true:=by
 simp only[bH,bc]at h ⊢;intro x hx;rcases fw hx with h1|h1
 ·exact h x h1
 ·rw[h1];exact hr
theorem nB {sz n:Nat}{r:List PV}(hr:aS sz r=true):bH sz (List.replicate n r)=true:=by
 simp only[bH,bc];intro x hx;rw[(List.mem_replicate.1 hx).2];exact hr
theorem xm {zc:Array Value}{zero:List PV}{sz n:Nat}(hz:HZ m zc.toList zero)(hok:aS sz zero=true)(h1:1<=sz) :
  CA m ((Array.range (n * sz)).map (zc[· % zc.size]!)) sz (List.replicate n zero):=by
 have hs:zc.size=sz:=by have:=hz.1;simp at this;rw[this,dQ hok]
 refine⟨by simp,λi j r c g1 g2=>?_⟩;have hi:i<n:=by have:=(gE g1).1;simpa using this
 have hr:r=zero:=by rw[List.getElem?_replicate,ah hi]at g1;cases g1;rfl
 subst hr;have hj:j<sz:=by rw[<- dQ hok];exact(gE g2).1
 have hlt:i * sz+j<n * sz:=by
  have:i * sz+sz<=n * sz:=by rw[<- db];exact bh _ hi
  omega
 have hmod:(i * sz+j) % sz=j:=by rw[Vz,lI,kU hj]
 have hjz:j<zc.size:=by omega
 refine⟨zc[j],?_,hz.2 j _ c (by rw[Array.getElem?_toList,Array.getElem?_eq_getElem hjz]) g2⟩;rw[Array.getElem?_map];have:(Array.range (n * sz))[i * sz+j]?=some (i * sz+j):=by simp[hlt]
 rw[this];simp only[dT,hs,hmod];rw[getElem!_pos zc j hjz]
theorem pt {sz:Nat}(h1:1<=sz):∀(ps:List (Nat×Value)) (as:List (Nat×AV)) (ay rows':List (List PV)) (G G':Heap) (cs:Array Value) (m:Mem),Inv m μ G w ->
  ps.length=as.length->(∀(k:Nat) (p:Nat×Value) (q:Nat×AV),ps[k]?=some p->as[k]?=some q->p.1=q.1/\R m μ (inf G) p.2 q.2) ->
  CA m cs sz ay->bH sz ay=true->Uu.Uv sz ay G as=some (rows',G') ->
  ∃m' cs',Inv m' μ G' w/\lC m μ G w m' μ G' w/\Instr.fill (λi=>some (i * sz,sz)) cs ps=some cs'/\CA m' cs' sz rows'/\bH sz rows'=true/\rows'.length=ay.length
 |[],[],ay,rows',G,G',cs,m,hI,_,_,hf,hok,h=>by
  simp[Uu.Uv]at h;obtain⟨rfl,rfl⟩:=h;exact⟨m,cs,hI,.refl _ _ _ _,rfl,hf,hok,rfl⟩
 |[],_::_,_,_,_,_,_,_,_,hl,_,_,_,_=>by simp at hl
 |_::_,[],_,_,_,_,_,_,_,hl,_,_,_,_=>by simp at hl
 |(i,v)::ps,(i',x)::as,ay,rows',G,G',cs,m,hI,hl,hr,hf,hok,h=>by
  obtain⟨rfl,hx⟩:=hr 0 _ _ rfl rfl;simp only[Uu.Uv]at h;split at h
  ·cases h
  ·rename_i l G1 hn;split at h
   ·rename_i hc;have hfl:l.all PV.flat=true:=bc.2 (lW hc.1);obtain⟨m1,hI1,hS1,hv⟩:=tA hI hn hx hfl;obtain⟨g1,g2⟩:=Great.foldl_set (i * sz) v.cells.toList 0 cs;have e:(v.cells.zipIdx.foldl (λcs (c,j)=>cs.setIfInBounds (i * sz+j) c) cs)=((v.cells.toList.zipIdx 0).foldl (λcs (x:Value×Nat)=>cs.setIfInBounds (i * sz+x.2) x.1) cs):=by
     rw[<- jK,jg]
    have hvl:v.cells.toList.length=sz:=by rw[hv.1,dQ hc.1]
    have hcs:i * sz+sz<=cs.size:=by rw[hf.1,<- db];exact bh _ hc.2
    have hf':CA m1 (v.cells.zipIdx.foldl (λcs (c,j)=>cs.setIfInBounds (i * sz+j) c) cs) sz (ay.set i l):=by
     rw[e];refine⟨by rw[g1,hf.1];simp,λi' j r c k1 k2=>?_⟩;rw[g2];simp only[U3];by_cases hii:i'=i
     ·subst hii;have:r=l:=by rw[List.getElem?_set_self hc.2]at k1;cases k1;rfl
      subst this;have hj:j<sz:=by rw[<- dQ hc.1];exact(gE k2).1
      rw[ah ⟨by omega,by omega,by omega⟩];have hj':j<v.cells.toList.length:=by omega
      refine⟨v.cells.toList[j],by simp[gG hj'],hv.2 j _ c (gG hj') k2⟩
     ·rw[List.getElem?_set,aa (Ne.symm hii)]at k1;obtain⟨u,q1,q2⟩:=hf.2 i' j r c k1 k2;have hj:j<sz:=by rw[<- dQ (eo hok k1)];exact(gE k2).1
      have:¬ (i * sz<=i' * sz+j/\i' * sz+j<i * sz+v.cells.toList.length):=by
       rw[hvl];rcases jL hii with hlt|hgt
       ·have:i' * sz+sz<=i * sz:=by rw[<- db];exact bh _ hlt
        omega
       ·have:i * sz+sz<=i' * sz:=by rw[<- db];exact bh _ hgt
        omega
      rw[aa (by omega)];exact⟨u,q1,q2.mono hS1.ext.mem⟩
    obtain⟨m2,cs2,hI2,hS2,k1,k2,k3,k4⟩:=pt h1 ps as _ rows' G1 G' _ m1 hI1 (by simpa using hl)
     (λk p q q1 q2=>let ⟨u1,u2⟩:=hr (k+1) p q (by simpa using q1) (by simpa using q2);⟨u1,u2.mono hS1.ext⟩) hf' (qT hok hc.1) h
    refine⟨m2,cs2,hI2,hS1.trans hS2,?_,k2,k3,by rw[k4];simp⟩;unfold Instr.fill;simp only;have hvs:v.cells.size=sz:=by simpa using hvl
    rw[aa (by simp[hvs];omega)];exact k1
   ·cases h
theorem BA (hI:Inv m μ G w){sz n aV:Nat}{ay:List (List PV)}{cs:Array Value}(T:TypeId)(h1:1<=sz)(hn:ay.length=n)(hsz:cs.size=aV * sz)(jH:n<=aV)(hok:bH sz ay=true)
  (hf:∀(i j:Nat) (r:List PV) (c:PV),ay[i]?=some r->r[j]?=some c->∃v,cs[i * sz+j]?=some v/\RP m v c) :
  ∃cA,Inv m cA (G++[.arr sz ay 0 0]) { w with heap:=w.heap.push (.cells cs T (0,0)) }/\lC m μ G w m cA (G++[.arr sz ay 0 0]) { w with heap:=w.heap.push (.cells cs T (0,0)) } /\
   R m cA (inf (G++[.arr sz ay 0 0])) (.slice (some ⟨w.heap.size,0,none⟩) n aV) (.arr G.length n 0):=by
 obtain⟨g1,g2⟩:=uM hI (.arr sz ay 0 0) cs T aV _ rfl _ rfl (λe=>⟨cs,T,by simp,hsz,by simpa [hn] using jH,h1,hok,hf,λo _=>hI.d_ (aB _) o⟩);exact⟨_,g1,g2,.arr _ _ _ _ _ _ ⟨w.heap.size,aV⟩ 0 sz (by simp) (by rw[zF];rfl) (aB _) (λ_=>⟨rfl,rfl,rfl⟩)⟩
theorem tE {aN:Env}{N:Nat}(he:iq m μ (inf G) N aN a):∀(ps:List (Nat×Operand)) (l:List (Nat×fe)),sK ps=some l->∀(vs:List AV),gQ aN (l.map (·.2))=some vs ->
  (ps.map fun (i,x)=>(i,a.eval x)).length=((l.zip vs).map fun (p,v)=>(p.1,v)).length /\
  ∀(k:Nat) (p:Nat×Value) (q:Nat×AV),(ps.map fun (i,x)=>(i,a.eval x))[k]?=some p->((l.zip vs).map fun (p,v)=>(p.1,v))[k]?=some q->p.1=q.1/\R m μ (inf G) p.2 q.2
 |[],l,h,vs,hv=>by
  simp[sK]at h;subst h;exact⟨rfl,λk p q h1=>by simp at h1⟩
 |(i,x)::ps,l,h,vs,hv=>by
  simp only[sK]at h;split at h
  ·rename_i ax l' h2 h3;cases h;simp only[ai,gQ]at hv;split at hv
   ·cases hv
   ·rename_i v hv1;split at hv
    ·cases hv
    ·rename_i vs' hv2;cases hv;obtain⟨g1,g2⟩:=tE he ps l' h3 vs' hv2;refine⟨by simpa using g1,λk p q q1 q2=>?_⟩;cases k with
     |zero =>
      simp at q1 q2;subst q1;subst q2;exact⟨rfl,dx he h2 hv1⟩
     |succ k=>exact g2 k p q (by simpa using q1) (by simpa using q2)
  ·cases h
variable {N:Nat}{aN:Env}(hI:Inv m μ G w)(he:iq m μ (inf G) N aN a)
include hI he
theorem CB {e:TypeId}{sz:Nat}{zero:List PV}(hn:UR P e=some sz)(hz:(Wj P e).bind WH=some zero)(hok:aS sz zero=true) :
  ∃ie z,P.info? e=some ie/\ie.zero=some z/\ie.size=sz/\HZ m z.cells.toList zero:=by
 simp only[UI]at hz;obtain⟨zs,h1,h2⟩:=hz;have hfl:zs.all AV.flat=true:=by
  rw[bc];have hzf:=lW hok;clear hok h1
  induction zs generalizing zero with
  |nil=>intro x hx;simp at hx
  |cons a r ih =>
   simp only[WH]at h2;split at h2
   ·cases h2
   ·rename_i x hx;split at h2
    ·cases h2
    ·rename_i l hl;cases h2;intro y hy;rcases aA.1 hy with rfl|hy
     ·cases y with
      |p z=>simp[Yj]at hx;subst hx;exact hzf _ (by simp)
      |aC=>rfl
      |_=>simp[Yj]at hx
     ·exact ih hl (λc hc=>hzf c (by simp[hc])) y hy
 obtain⟨it,z,g1,g2,g3⟩:=yw (m:=m) (μ:=μ) h1 hfl (inf G);refine⟨it,z,g1,g2,?_,zK zs h2 g3⟩;unfold UR at hn;simpa [g1] using hn
theorem zL {t e:TypeId}{n:Nat}{ps:Array (Nat×Operand)}(ho:o.op=.buildSlice t n ps)(ht:P.underlying t=some (.slice e)){sz:Nat}{zero:List PV}(hn:UR P e=some sz)(hz:(Wj P e).bind WH=some zero)(hok:aS sz zero=true)(h1:1<=sz)(hbig:n * sz<=2 ^ 20)
  {l:List (Nat×fe)} (hl:sK ps.toList=some l) {vs:List AV} (hv:gQ aN (l.map (·.2))=some vs) {ay:List (List PV)} {G':Heap} (hc:Uu.Uv sz (List.replicate n zero) G ((l.zip vs).map fun (p,v)=>(p.1,v))=some (ay,G')) :
  Good P o a m μ G w (.val (.arr G'.length n 0) (G'++[.arr sz ay 0 0])):=by
 obtain⟨ie,z,g1,g2,g3,g4⟩:=CB hI he hn hz hok;obtain⟨p1,p2⟩:=tE he ps.toList l hl vs hv;obtain⟨m1,cs,hI1,hS1,k1,k2,k3,k4⟩:=pt h1 _ _ _ ay G G' _ m hI p1 p2 (xm (n:=n) g4 hok h1) (nB hok) hc;have hlen:ay.length=n:=by rw[k4];simp
 obtain⟨cA,hI2,hS2,hR⟩:=BA hI1 (aV:=n) (cs:=cs) e h1 hlen (by rw[k2.1,hlen]) (aB _) k3 k2.2;have he':(ps.map fun (i,x)=>(i,a.eval x)).toList=ps.toList.map fun (i,x)=>(i,a.eval x):=by simp
 intro next Q hnx;refine i_ ?_ (hnx _ _ _ _ hI2 (hS1.trans hS2) hR);simp only[execOp,ho,Sem.run_bind];have hrun:(Instr.buildSlice t n (ps.map fun (i,x)=>(i,a.eval x))).run P w=.ok (.slice (some ⟨w.heap.size,0,none⟩) n n) { w with heap:=w.heap.push (.cells cs e (0,0)) }:=by
  by_cases hn0:n=0
  ·subst hn0;have hc0:cs=#[]:=by apply je;rw[k2.1,hlen];simp
   subst hc0;have hps:ps=#[]:=by
    cases hq:ps.toList with
    |nil=>apply fH;simpa using hq
    |cons p r =>
     rw[hq]at p1;generalize ((l.zip vs).map fun (p,v)=>(p.1,v))=as at hc p1;cases as with
     |nil=>simp at p1
     |cons x as =>
      rcases x with ⟨i,v⟩
      simp only[Uu.Uv,List.replicate]at hc;split at hc
      ·cases hc
      ·simp at hc
   subst hps;simp[Instr.buildSlice,run_underlying ht,sizeOf,typeInfo,g1,g3,zeroValue,g2,Instr.fill,newRow,show Array.range 0=#[] from rfl]
  ·have hpos:¬ n * ie.size=0:=by rw[g3];exact Nat.mul_ne_zero hn0 (by omega)
   have:=run_buildSlice (P:=P) w t e n (ps.map fun (i,x)=>(i,a.eval x)) cs ie z ht g1 g2 (by rw[g3];omega) hpos (by rw[he',g3];exact k1);exact this
 rw[hrun];rfl
theorem yx {t e:TypeId}{x y:Operand}{ox oy:fe}(ho:o.op=.makeSlice t x y)(ht:P.underlying t=some (.slice e)){sz by_:Nat}{zero:List PV}(hn:UR P e=some sz)(hb:sJ P e=some by_)(hz:(Wj P e).bind WH=some zero)(hok:aS sz zero=true)(h1:1<=sz)
  (hx:cY x=some ox) (hy:cY y=some oy) {l c:Int} (hl:eH aN ox=some (.p (.i .i64 l))) (hc:eH aN oy=some (.p (.i .i64 c))) (h0:0<=l) (hlc:l<=c) (hroom:bZ c.toNat by_=true) :
  Good P o a m μ G w (.val (.arr G.length l.toNat 0) (G++[.arr sz (List.replicate l.toNat zero) 0 0])):=by
 obtain⟨ie,z,g1,g2,g3,g4⟩:=CB hI he hn hz hok;have hl':=(dx he hx hl).gL;have hc':=(dx he hy hc).gL;have hbytes:ie.bytes=by_:=by unfold sJ at hb;simpa [g1] using hb
 simp only[bZ,ab,Uq]at hroom;have hfl:=xm (n:=c.toNat) g4 hok h1;have hle:l.toNat<=c.toNat:=by omega
 obtain⟨cA,hI2,hS2,hR⟩:=BA hI (aV:=c.toNat) (ay:=List.replicate l.toNat zero) e h1 (by simp) (by rw[hfl.1];simp) hle (nB hok) (λi j r cc q1 q2=>by
  refine hfl.2 i j r cc ?_ q2;have hi:i<l.toNat:=by have:=(gE q1).1;rwa [iw]at this
  rw[List.getElem?_replicate,ah (by omega)];rw[List.getElem?_replicate,ah hi]at q1;exact q1)
 intro next Q hnx;refine i_ ?_ (hnx _ _ _ _ hI2 hS2 hR);have hwl:IntKind.i64.wrap l=l:=by
  unfold IntKind.wrap;simp[IntKind.bits,IntKind.signed];omega
 have hwc:IntKind.i64.wrap c=c:=by
  unfold IntKind.wrap;simp[IntKind.bits,IntKind.signed];omega
 have hbig:¬ ((ie.bytes:Int) * c > 2 ^ 48):=by
  rw[hbytes];have h2:((c.toNat * by_:Nat):Int)<=((2 ^ 40:Nat):Int):=Int.ofNat_le.2 hroom.1;rw[Int.natCast_mul,Vv (by omega),Int.mul_comm]at h2;simp at h2 ⊢;omega
 have hc0:¬ c<0:=by omega
 have hl0:¬ l<0:=by omega
 have hlc':¬ c<l:=by omega
 simp only[execOp,ho,Sem.run_bind];have:(Instr.makeSlice t (a.eval x) (a.eval y)).run P w=.ok (.slice (some ⟨w.heap.size,0,none⟩) l.toNat c.toNat) { w with heap:=w.heap.push (.cells ((Array.range (c.toNat * sz)).map (z.cells[· % z.cells.size]!)) e (0,0)) }:=by
  rw[hl',hc'];simp only[Instr.makeSlice,Sem.run_bind,run_underlying ht,Result.andThen_ok,Go.asInt,asIntOf,Sem.run_pure,typeInfo,run_program,g1,hwl,hwc];have hcond:((decide (c<0) || decide ((ie.bytes:Int) * c > 2 ^ 48)) || decide (l<0) || decide (l > c))=false:=by
   simp only[hc0,hbig,hl0,decide_false,nt,jU,decide_eq_false_iff_not];omega
  simp only[hcond,aZ,if_false,Sem.run_bind,Sem.run_pure,Result.andThen_ok,run_askRoom,sizeOf,typeInfo,run_program,g1,g3];by_cases hcz:c.toNat * sz=0
  ·simp[hcz,newRow,show Array.range 0=#[] from rfl]
  ·simp[hcz,zeroValue,typeInfo,g1,g2,newRow]
 rw[this];rfl
end
section
variable {P:Program}{o:Oper}{a:Act}{m:Mem}{μ:Mu}{G:Heap}{w:World}
theorem xo {sz k n:Nat}(h1:1<=sz)(hk:k<n * sz):k / sz<n/\k % sz<sz/\k / sz * sz+k % sz=k:=by
 have:=Nat.div_add_mod k sz;refine⟨Nat.div_lt_of_lt_mul (by rw[Vz];exact hk),Nat.mod_lt _ h1,by rw[Vz];exact this⟩
structure rO (m:Mem)(w:World)(sz:Nat)(z:Value)(ay:List (List PV))(ad:Option Addr)(c:Nat)(news:List Value):Prop where
 val:z=.slice ad ay.length c
 aV:ay.length<=c
 len:news.length=ay.length * sz
 addr:ay≠[]->∃b o,ad=some ⟨b,o,none⟩/\∀(j:Nat) (u:Value),news[j]?=some u->w.cell? ⟨b,o+j,none⟩=some u
 rel:∀(i j:Nat) (r:List PV) (x:PV),ay[i]?=some r->r[j]?=some x->∃u,news[i * sz+j]?=some u/\RP m u x
 one:∀u∈news,u.oneCell'=true
theorem rO.KO {sz:Nat}{ay:List (List PV)}{news:List Value}(h1:1<=sz)(hok:bH sz ay=true)(hl:news.length=ay.length * sz)
  (rel:∀(i j:Nat) (r:List PV) (x:PV),ay[i]?=some r->r[j]?=some x->∃u,news[i * sz+j]?=some u/\RP m u x):∀u∈news,u.oneCell'=true:=by
 intro u hu;obtain⟨k,hk,rfl⟩:=dw.1 hu;obtain⟨k1,k2,k3⟩:=xo (n:=ay.length) h1 (by omega:k<ay.length * sz);have hrow:=gG k1;have hlen:=dQ (eo hok hrow);have hc:(ay[k / sz])[k % sz]?=some ((ay[k / sz])[k % sz]'(by omega)):=gG (by omega);obtain⟨v,q1,q2⟩:=rel _ _ _ _ hrow hc;rw[k3,gG hk]at q1;cases q1;exact q2.one (lW (eo hok hrow) _ (bM _))
theorem xp (hI:Inv m μ G w){z:Value}{v:AV}(hr:R m μ (inf G) z v){ay:List (List PV)}(hrow:UZ G v=some ay)(hns:∀l,v≠.p (.s l)){sz:Nat}(h1:1<=sz)(hok:bH sz ay=true) :
  ∃ad c news,rO m w sz z ay ad c news:=by
 cases v with
 |p x =>
  cases x with
  |s l=>exact absurd rfl (hns l)
  |sl rs =>
   simp[UZ]at hrow;subst hrow;cases hr with|p _ _ hp =>
   cases hp with|sl ad aV _ sz' f jH hs ha hf =>
   have hss:∀i r,rs[i]?=some r->sz'=sz:=λi r h=>by rw[<- dQ (eo hs h),dQ (eo hok h)]
   have hrel:∀(i j:Nat) (r:List PV) (x:PV),rs[i]?=some r->r[j]?=some x->∃u,((List.range (rs.length * sz)).map λk=>f (k / sz) (k % sz))[i * sz+j]?=some u/\RP m u x:=by
    intro i j r x g1 g2;have hi:=(gE g1).1;have hj:j<sz:=by rw[<- dQ (eo hok g1)];exact(gE g2).1
    have hlt:i * sz+j<rs.length * sz:=by
     have:i * sz+sz<=rs.length * sz:=by rw[<- db];exact bh _ hi
     omega
    refine⟨f i j,?_,hf i j r x g1 g2⟩;have e1:(i * sz+j) / sz=i:=by rw[Vz,Nat.mul_add_div h1,Nat.div_eq_of_lt hj];rfl
    have e2:(i * sz+j) % sz=j:=by rw[Vz,lI,kU hj]
    simp[List.getElem?_map,List.getElem?_range,hlt,e1,e2]
   have hlen:((List.range (rs.length * sz)).map λk=>f (k / sz) (k % sz)).length=rs.length * sz:=by simp
   refine⟨ad,aV,(List.range (rs.length * sz)).map λk=>f (k / sz) (k % sz),rfl,jH,hlen,λhne=>?_,hrel,rO.KO h1 hok hlen hrel⟩;obtain⟨b,oo,e,hm⟩:=ha hne;refine⟨b,oo,e,λj u hj=>?_⟩;have hjl:j<rs.length * sz:=by have:=(gE hj).1;rwa [hlen]at this
   obtain⟨k1,k2,k3⟩:=xo h1 hjl;have hrow:=gG k1;have hl':=dQ (eo hok hrow);have:=hm _ _ _ _ hrow (gG (show j % sz<(rs[j / sz]).length by omega));rw[hss _ _ hrow,eI,k3]at this;have e2:u=f (j / sz) (j % sz):=by
    simp[List.getElem?_map,List.getElem?_range,hjl]at hj;exact hj.symm
   rw[e2];exact hI.known _ _ _ this
  |_=>simp[UZ]at hrow
 |aC =>
  simp[UZ]at hrow;subst hrow;cases hr;exact⟨none,0,[],rfl,aB _,by simp,λh=>absurd rfl h,λi j r x h=>by simp at h,λu h=>by cases h⟩
 |arr id len gen =>
  simp only[UZ]at hrow;split at hrow
  ·rename_i sz' rs g sl hG;split at hrow
   ·rename_i hc;cases hrow;obtain⟨hg,hle⟩:=hc;subst hg;cases hr with|arr _ _ _ ad n c loc g' szz q1 q2 q3 q4 =>
    have hinf:inf G id=some (some (g,sz')):=by simp[inf,hG,VU]
    rw[hinf]at q2;cases q2;obtain⟨rfl,rfl,rfl⟩:=q4 rfl;obtain⟨cs,T,k1,k2,k3,k4,k5,k6,k7⟩:=hI.obj id _ hG loc q1;have hl:(rs.take n).length=n:=by simp;omega
    have hsz:n≠0->sz'=sz:=λhn=>uO (VV k5) hok (by intro e;rw[e]at hl;simp at hl;omega);have hcs:n * sz<=cs.size:=by
     rcases U1 n with h0|h0
     ·subst h0;simp
     ·rw[k2,hsz (by omega)];exact bh _ (by omega)
    have hlen:(cs.toList.take (n * sz)).length=(rs.take n).length * sz:=by rw[hl];simp;omega
    have hrel:∀(i j:Nat) (r:List PV) (x:PV),(rs.take n)[i]?=some r->r[j]?=some x->∃u,(cs.toList.take (n * sz))[i * sz+j]?=some u/\RP m u x:=by
     intro i j r x g1 g2;have hi:i<n:=by have:=(gE g1).1;rwa [hl]at this
     have hj:j<sz:=by rw[<- dQ (eo hok g1)];exact(gE g2).1
     have hlt:i * sz+j<n * sz:=by
      have:i * sz+sz<=n * sz:=by rw[<- db];exact bh _ hi
      omega
     rw[List.getElem?_take,ah hi]at g1;obtain⟨u,p1,p2⟩:=k6 i j r x g1 g2;rw[hsz (by omega)]at p1;exact⟨u,by rw[List.getElem?_take,ah hlt];simpa using p1,p2⟩
    refine⟨some ⟨loc.gD,0,none⟩,loc.aV,cs.toList.take (n * sz),by rw[hl],by rw[hl];omega,hlen,λ_=>⟨loc.gD,0,rfl,λj u hj=>?_⟩,hrel,rO.KO h1 hok hlen hrel⟩;rw[List.getElem?_take]at hj;split at hj
    ·rw[aG];simp only[World.cell?,k1];simpa using hj
    ·cases hj
   ·cases hrow
  ·cases hrow
 |_=>simp[UZ]at hrow
theorem yy (hI:Inv m μ G w){id:Nat}{sz g sl:Nat}{ay:List (List PV)}{loc:Loc}(hG:G[id]?=some (.arr sz ay g sl))(hl:μ id=some loc){rows':List (List PV)}{cs:Array Value}{T:TypeId}{aV:Nat}{w':World}
  (hw:w'.heap=w.heap.push (.cells cs T (0,0))) (hos:w'.os=w.os) (htape:w'.tape=w.tape) (hout:w'.output=w.output)
  (h1:1<=sz) (hsz:cs.size=aV * sz) (jH:rows'.length<=aV) (hok:bH sz rows'=true)
  (hf:∀(i j:Nat) (r:List PV) (c:PV),rows'[i]?=some r->r[j]?=some c->∃v,cs[i * sz+j]?=some v/\RP m v c) :
  Inv m (λk=>if k=id then some ⟨w.heap.size,aV⟩ else μ k) (G.set id (.arr sz rows' (g+1) sl)) w' /\
  lC m μ G w m (λk=>if k=id then some ⟨w.heap.size,aV⟩ else μ k) (G.set id (.arr sz rows' (g+1) sl)) w':=by
 have hid:id<G.length:=(gE hG).1;have hold:inf G id=some (some (g,sz)):=by simp[inf,hG,VU]
 have hblk:∀b,b<w.heap.size->w'.heap[b]?=w.heap[b]?:=λb hb=>by rw[hw];simp[Array.getElem?_push,iJ hb]
 have hext:Ext m μ G m (λk=>if k=id then some ⟨w.heap.size,aV⟩ else μ k) (G.set id (.arr sz rows' (g+1) sl)):=by
  refine⟨λ_ _ _ h=>h,λk l h h'=>?_,λk l g' sz' h h'=>?_⟩
  ·have:k≠id:=by intro e;subst e;rw[hold]at h';cases h'
   exact⟨by simp[this,h],by rw[rL _ _ _ _ this];exact h'⟩
  ·by_cases e:k=id
   ·subst e;rw[hold]at h';cases h';exact⟨_,g+1,by simp;rfl,by rw[V5 _ _ _ hid];rfl,by omega,λe=>by omega⟩
   ·exact⟨l,g',by simp[e,h],by rw[rL _ _ _ _ e];exact h',aB _,λ_=>rfl⟩
 have hinv:∀k l,(λk=>if k=id then some (⟨w.heap.size,aV⟩:Loc) else μ k) k=some l->(k=id/\l=⟨w.heap.size,aV⟩)\/(k≠id/\μ k=some l):=λk l h=>by
  dsimp only at h;split at h
  ·cases h;exact .inl ⟨by assumption,rfl⟩
  ·exact .inr ⟨by assumption,h⟩
 refine⟨⟨?_,?_,?_,?_⟩,⟨hext,⟨hos,htape,hout,by rw[hw];simp,λb hb _=>hblk b hb,λ_ _ _ h=>.inl h,?_⟩,?_⟩⟩
 ·intro b o v h;have h1:=hI.known b o v h;have h2:=World.block_lt_of_cell? w _ h1;simp at h2;unfold World.cell? at h1 ⊢;dsimp only at h1 ⊢;rw[hblk b h2];exact h1
 ·intro i j l l' e1 e2 e;rcases hinv i l e1 with ⟨rfl,rfl⟩|⟨n1,h1'⟩<;>rcases hinv j l' e2 with ⟨rfl,rfl⟩|⟨n2,h2'⟩
  ·rfl
  ·have:=hI.lt h2';simp at e;omega
  ·have:=hI.lt h1';simp at e;omega
  ·exact hI.inj i j l l' h1' h2' e
 ·intro k ob hk l hkl;rcases hinv k l hkl with ⟨rfl,rfl⟩|⟨n1,h1'⟩
  ·simp[hid]at hk;subst hk;exact⟨cs,T,by rw[hw];simp,hsz,jH,h1,hok,hf,λo _=>hI.d_ (aB _) o⟩
  ·rw[List.getElem?_set,aa (Ne.symm n1)]at hk;exact(hI.obj k ob hk l h1').move hext (hblk _ (hI.lt h1')) (λ_ h=>h)
 ·intro k l hkl;rcases hinv k l hkl with ⟨rfl,rfl⟩|⟨n1,h1'⟩
  ·simpa using hid
  ·simpa using hI.ph k l h1'
 ·intro k l hkl;rcases hinv k l hkl with ⟨rfl,rfl⟩|⟨n1,h1'⟩
  ·exact .inl (aB _)
  ·exact .inr ⟨k,l,h1',rfl⟩
 ·refine⟨λk hk ht=>?_,λk hk hn=>?_⟩
  ·by_cases e:k=id
   ·exact⟨_,by simp[e];rfl⟩
   ·obtain⟨l,hl⟩:=ht (by simpa using hk);exact⟨l,by simp[e,hl]⟩
  ·have e:k≠id:=by rintro rfl;rw[hl]at hn;cases hn
   refine⟨by simp[e,hn],?_⟩;rw[List.getElem?_set,aa (Ne.symm e)]
end
section
variable {P:Program}{o:Oper}{a:Act}{m:Mem}{μ:Mu}{G:Heap}{w:World}
theorem zM {sz:Nat}{e:TypeId}(h:uE P sz e=true):∃ie z,P.info? e=some ie/\ie.zero=some z/\z.cells.size=sz:=by
 unfold uE at h;split at h
 ·rename_i zs hz;simp only[ab,cZ]at h;obtain⟨ie,z,g1,g2,g3⟩:=yw (m:=λ_ _=>none) (μ:=λ_=>none) hz h.2 (λ_=>none);exact⟨ie,z,g1,g2,by have:=g3.1;simp at this;rw[this];exact h.1⟩
 ·cases h
theorem Qe (zero:Array Value)(n:Nat):(Builtin.zeroCells zero n).size=n * zero.size:=by simp[Builtin.zeroCells]
theorem grownCap_ge (w:World)(VB old:Nat)(e:TypeId):VB<=grownCap w VB old e:=by
 show VB<=VB+_
 exact Nat.le_add_right _ _
theorem GP (hI:Inv m μ G w){z:Value}{v:AV}(hr:R m μ (inf G) z v){ay:List (List PV)}{str:Bool}(hrow:(if fO v == str then UZ G v else none)=some ay){sz:Nat}(h1:1<=sz)(hok:bH sz ay=true)
  {tx:TypeId} (hk:if str=true then P.underlying tx=some .string/\sz=1 else ∃e',P.underlying tx=some (.slice e')) :
  ∃news,Src P sz tx z ay.length news w/\news.length=ay.length * sz/\(∀(i j:Nat) (r:List PV) (x:PV),ay[i]?=some r->r[j]?=some x->∃u,news[i * sz+j]?=some u/\RP m u x):=by
 cases str with
 |true =>
  simp only[if_true]at hk;obtain⟨hk,rfl⟩:=hk;cases v with
  |p x =>
   cases x with
   |s l =>
    simp[fO,UZ]at hrow;subst hrow;have:=hr.n5;subst this;refine⟨byteCells ⟨l.toArray⟩,?_,by rw[byteCells_length,iS];simp,λi j r x g1 g2=>?_⟩
    ·have:=Src.ofString (P:=P) w hk ⟨l.toArray⟩;rw[iS]at this;simpa using this
    ·simp only[List.getElem?_map,aP]at g1;obtain⟨c,hc,rfl⟩:=g1;cases j with
     |zero =>
      simp at g2;subst g2;exact⟨.int .u8 c.toNat,by simp[byteCells,List.getElem?_map,hc],.i _ _⟩
     |succ j=>simp at g2
   |_=>simp[fO]at hrow
  |_=>simp[fO]at hrow
 |false =>
  simp only[aZ,if_false]at hk;obtain⟨e',hk⟩:=hk;have hns:∀l,v≠.p (.s l):=by intro l e;subst e;simp[fO]at hrow
  have hrow':UZ G v=some ay:=by
   split at hrow
   ·exact hrow
   ·cases hrow
  obtain⟨ad,c,news,hs⟩:=xp hI hr hrow' hns h1 hok;refine⟨news,?_,hs.len,hs.rel⟩;rw[hs.val];cases ad with
  |none =>
   have:ay=[]:=by
    apply dI;intro hne;obtain⟨b,oo,e,_⟩:=hs.addr hne;cases e
   subst this;have hn:news=[]:=aW (by simpa using hs.len);subst hn;exact Src.ofNil w hk c
  |some ad =>
   refine Src.ofSlice w hk ad ay.length c news hs.len (λj u hj=>?_) hs.one;have hne:ay≠[]:=by
    intro e;subst e;have:=hs.len;simp at this;subst this;simp at hj
   obtain⟨b,oo,e,hc⟩:=hs.addr hne;cases e;rw[Addr.add_mid];exact hc j u hj
theorem zN {m:Mem}{sz:Nat}(h1:1<=sz){old new:List (List PV)}{cs:List Value}{news:List Value}(hlo:cs.length=old.length * sz)
  (ho:∀(i j:Nat) (r:List PV) (c:PV),old[i]?=some r->r[j]?=some c->∃v,cs[i * sz+j]?=some v/\RP m v c)
  (hok:bH sz old=true)
  (hn:∀(i j:Nat) (r:List PV) (x:PV),new[i]?=some r->r[j]?=some x->∃u,news[i * sz+j]?=some u/\RP m u x) :
  ∀(i j:Nat) (r:List PV) (c:PV),(old++new)[i]?=some r->r[j]?=some c->∃v,(cs++news)[i * sz+j]?=some v/\RP m v c:=by
 intro i j r c g1 g2;by_cases hi:i<old.length
 ·rw[List.getElem?_append_left hi]at g1;obtain⟨v,k1,k2⟩:=ho i j r c g1 g2;exact⟨v,by rw[List.getElem?_append_left (gE k1).1];exact k1,k2⟩
 ·rw[List.getElem?_append_right (by omega)]at g1;obtain⟨v,k1,k2⟩:=hn _ j r c g1 g2;refine⟨v,?_,k2⟩;have:old.length * sz<=i * sz:=bh _ (by omega);rw[List.getElem?_append_right (by omega),hlo];rw[<- k1]
  congr 1
  rw[Nat.sub_mul];omega
variable {N:Nat}{aN:Env}(hI:Inv m μ G w)(he:iq m μ (inf G) N aN a)
include hI he
theorem zO {args:Array Operand}{ts:Array TypeId}{x y:Operand}{ox oy:fe}{t tx e:TypeId}{str:Bool}{sz by_:Nat}(ho:o.op=.call ⟨.builtin .append,args,ts⟩)(ha:args.toList=[x,y])
  (hts:ts[0]?=some t) (hts1:ts[1]?=some tx) (htl:ts.size=2) (ht:P.underlying t=some (.slice e)) (hn:UR P e=some sz) (hb:sJ P e=some by_) (hz:uE P sz e=true) (h1:1<=sz)
  (hk:if str=true then P.underlying tx=some .string/\sz=1 else ∃e',P.underlying tx=some (.slice e'))
  (hx:cY x=some ox) (hy:cY y=some oy) {u v:AV} (hu:eH aN ox=some u) (hv:eH aN oy=some v) {r:AV} {G':Heap} (hap:cX str sz by_ G u v=some (r,G')):Good P o a m μ G w (.val r G'):=by
 have ha':args=#[x,y]:=by apply fH;simpa using ha
 have hts':ts=#[t,tx]:=by
  apply Array.ext
  ·simpa using htl
  ·intro i h2 h3;have:i=0\/i=1:=by simp at h3;omega
   rcases this with rfl|rfl
   ·simp[Array.getElem?_eq_getElem h2]at hts;simp[hts]
   ·simp[Array.getElem?_eq_getElem h2]at hts1;simp[hts1]
 have hrx:=dx he hx hu;have hry:=dx he hy hv;obtain⟨ie,zv,g1,g2,g3⟩:=zM hz;have hsize:ie.size=sz:=by unfold UR at hn;simpa [g1] using hn
 have hbytes:ie.bytes=by_:=by unfold sJ at hb;simpa [g1] using hb
 unfold cX at hap;split at hap
 ·cases hap
 ·rename_i new hnew;split at hap
  ·rename_i hok;obtain⟨news,hsrc,hnl,hrel⟩:=GP (P:=P) hI hry hnew h1 hok hk;have hsrc':Src P ie.size tx (a.eval y) new.length news w:=by rw[hsize];exact hsrc
   have fin:∀{val:Value} {w':World} {m':Mem} {cA:Mu},(Builtin.append_ #[t,tx] o.type #[a.eval x,a.eval y]).run P w=.ok val w'->Inv m' cA G' w'->lC m μ G w m' cA G' w'->R m' cA (inf G') val r->Good P o a m μ G w (.val r G'):=by
    intro val w' m' cA hrun hI' hS hR next Q hnx;refine i_ ?_ (hnx _ _ _ _ hI' hS hR);simp[execOp,ho,ha',hts',resolve,invoke,builtin,hrun]
   cases u with
   |aC =>
    generalize hzx:a.eval x=z at hrx fin;cases hrx;cases new with
    |nil =>
     simp at hap;obtain⟨rfl,rfl⟩:=hap;have hn0:news=[]:=aW (by simpa using hnl);subst hn0;refine fin ?_ hI (.refl _ _ _ _) .aC;have hc0:=hsrc'.cells;have hl0:=hsrc'.len;simp only[aJ]at hc0 hl0;rcases hsrc'.kind with ⟨e',hk'⟩|hk'<;>simp[Builtin.append_,run_underlying ht,run_underlying hk',sizeOf,typeInfo,g1,hl0,hc0]
    |cons n0 nr =>
     simp only at hap;split at hap
     ·rename_i hroom;cases hap;simp only[bZ,ab,Uq]at hroom;have hg:=run_append_grow_src (P:=P) w t tx o.type e ie zv ht g1 g2 none 0 0 [] (run_firstCells_none _ _ _ _ _) (a.eval y) (n0::nr).length news hsrc' (by simp) (by
       have:=hroom.2;simp only[aG];omega) (growslice_fits (by simp) (by rw[hbytes,aG];have:=hroom.1;omega))
      simp only[aG,aL]at hg;have hge:=grownCap_ge w (n0::nr).length 0 e;obtain⟨cA,hI2,hS2,hR⟩:=BA (w:=w.drew) (m:=m) (μ:=μ) (G:=G) (by
        exact⟨hI.known,hI.inj,hI.obj,hI.ph⟩) (aV:=grownCap w (n0::nr).length 0 e) (ay:=n0::nr)
       (cs:=news.toArray++Builtin.zeroCells zv.cells (grownCap w (n0::nr).length 0 e-(n0::nr).length)) e h1 rfl (by
        rw[Wg,Qe,g3];simp only[Wh,hnl];rw[<- cW]
        congr 1
        omega) hge hok (λi j r c q1 q2=>by
         obtain⟨v,k1,k2⟩:=hrel i j r c q1 q2;refine⟨v,?_,k2⟩;rw[Array.getElem?_append_left (by simpa using (gE k1).1)];simpa using k1)
      refine fin hg hI2 ?_ hR;exact⟨hS2.ext,⟨hS2.fr.os,hS2.fr.tape,hS2.fr.output,hS2.fr.size,hS2.fr.gD,hS2.fr.mem,hS2.fr.loc⟩,hS2.pX⟩
     ·cases hap
   |arr id len gen =>
    simp only at hap;split at hap
    ·rename_i sz' ay g sl hG;split at hap
     ·rename_i hc;cases hap;obtain⟨hgen,hsl,hlen,hszz,hroom⟩:=hc;subst hgen;subst hszz;simp only[bZ,ab,Uq]at hroom;generalize hzx:a.eval x=z at hrx fin;cases hrx with|arr _ _ _ ad n c loc g' szz q1 q2 q3 q4 =>
      have hinf:inf G id=some (some (g,sz')):=by simp[inf,hG,VU]
      rw[hinf]at q2;cases q2;obtain⟨rfl,rfl,rfl⟩:=q4 rfl;obtain⟨cs,T,k1,k2,k3,k4,k5,k6,k7⟩:=hI.obj id _ hG loc q1;have hidl:id<G.length:=(gE hG).1;have hok':bH sz' (ay.take n++new)=true:=by
       simp only[bH,List.all_append,ab];exact⟨VV k5,hok⟩
      have hlt:(ay.take n).length=n:=by simp;omega
      have hncs:n * sz'<=cs.size:=by rw[k2];exact bh _ (by omega)
      have hcell:∀j,w.cell? ⟨loc.gD,j,none⟩=cs[j]?:=λj=>by simp[World.cell?,k1]
      have hfz:∀j,w.frozen? ⟨loc.gD,j,none⟩=false:=λj=>by
       simp[World.frozen?,k1]
      have hold:∀(i j:Nat) (r:List PV) (c:PV),(ay.take n)[i]?=some r->r[j]?=some c->∃v,(cs.toList.take (n * sz'))[i * sz'+j]?=some v/\RP m v c:=by
       intro i j r c p1 p2;have hi:i<n:=by have:=(gE p1).1;rwa [hlt]at this
       rw[List.getElem?_take,ah hi]at p1;have hj:j<sz':=by rw[<- dQ (eo k5 p1)];exact(gE p2).1
       have:i * sz'+j<n * sz':=by
        have:i * sz'+sz'<=n * sz':=by rw[<- db];exact bh _ hi
        omega
       obtain⟨v,e1,e2⟩:=k6 i j r c p1 p2;exact⟨v,by rw[List.getElem?_take,ah this];simpa using e1,e2⟩
      have hall:=zN (m:=m) h1 (old:=ay.take n) (new:=new) (cs:=cs.toList.take (n * sz')) (news:=news) (by rw[hlt];simp;omega) hold (VV k5) hrel;by_cases hfit:n+new.length<=loc.aV
      ·
       have hnn:n * sz'+news.length<=cs.size:=by
        rw[k2,hnl,<- cW];exact bh _ hfit
       have hrun:=run_append_room_src (P:=P) w t tx o.type e ie ht g1 loc.gD 0 n loc.aV (a.eval y) new.length news hsrc' hfit (by
        intro j hj;rw[hcell,hsize,Array.getElem?_eq_getElem (by omega)];rfl) (λj hj=>hfz _)
       simp only[hsize,aG]at hrun;obtain⟨cs',s1,s2,s3,s4⟩:=Wf loc.gD news (n * sz') w cs T (0,0) k1 hnn;obtain⟨w1,w2,w3,w4,w5⟩:=jw loc.gD news (n * sz') w;obtain⟨hI2,hS2⟩:=uN (old:=.arr sz' ay g sl) (new:=.arr sz' (ay.take n++new) (g+1) sl) hI hG q1 (w':=w.setCells loc.gD (n * sz') news) (cs:=cs) (T:=T) w1 w2 w3 w4 w5 (by
         intro oo v hm;have hlt2:oo<sl * sz':=by
          apply dI;intro hge;rw[k7 oo (by omega)]at hm;cases hm
         have:sl * sz'<=n * sz':=bh _ hsl;have hkk:=hI.known _ _ _ hm;rw[hcell]at hkk;simp only[World.cell?,s1,jM,aZ,if_false];rw[s4 oo (.inl (by omega))];exact hkk) (by simp[VU]) (by simp[VU]) (λe=>⟨cs',T,s1,by rw[s2,k2],by simp[hlt];omega,h1,hok',λi j r c p1 p2=>by
          obtain⟨v,e1,e2⟩:=hall i j r c p1 p2;refine⟨v,?_,e2⟩;rw[<- e1];have htl:(cs.toList.take (n * sz')).length=n * sz':=by simp;omega
          by_cases hb:i * sz'+j<n * sz'
          ·rw[s4 _ (.inl hb),List.getElem?_append_left (by omega),List.getElem?_take,ah hb];simp
          ·rw[List.getElem?_append_right (by omega),htl];have hlt3:i * sz'+j-n * sz'<news.length:=by
            have:=(gE e1).1;rw[aR,htl]at this;omega
           rw[<- s3 _ hlt3]
           congr 1
           omega,k7⟩)
       refine fin hrun hI2 hS2 ?_;exact .arr _ _ _ _ _ _ loc (g+1) sz' q1 (by rw[V5 _ _ _ hidl];rfl) (aB _) (λ_=>⟨rfl,rfl,rfl⟩)
      ·
       have hold':(Builtin.firstCells ie.size n (.slice (some ⟨loc.gD,0,none⟩) n loc.aV)).run P w.drew=.ok (cs.toList.take (n * sz')).toArray w.drew:=by
        rw[hsize];exact run_firstCells_some w.drew sz' n ⟨loc.gD,0,none⟩ n loc.aV _ (by simp;omega) (λj v hj=>by
         rw[Addr.add_mid];rw[List.getElem?_take]at hj;split at hj
         ·show w.cell? _=_
          rw[aG,hcell];simpa using hj
         ·cases hj)
       have hg:=run_append_grow_src (P:=P) w t tx o.type e ie zv ht g1 g2 (some ⟨loc.gD,0,none⟩) n loc.aV _ hold' (a.eval y) new.length news hsrc' (by omega) (by
        have:=hroom.2;omega) (growslice_fits (by omega) (by rw[hbytes];have:=hroom.1;omega))
       have hge:=grownCap_ge w (n+new.length) loc.aV e;obtain⟨hI2,hS2⟩:=yy hI hG q1 (rows':=ay.take n++new) (aV:=grownCap w (n+new.length) loc.aV e)
        (cs:=(cs.toList.take (n * sz')++news).toArray++Builtin.zeroCells zv.cells (grownCap w (n+new.length) loc.aV e-(n+new.length))) (T:=e)
        (w':=w.drew.alloc (.cells ((cs.toList.take (n * sz')++news).toArray++Builtin.zeroCells zv.cells (grownCap w (n+new.length) loc.aV e-(n+new.length))) e)) rfl rfl rfl rfl h1 (by
         rw[Wg,Qe,g3];have:(cs.toList.take (n * sz')++news).toArray.size=(n+new.length) * sz':=by
          simp only[Wh,aR,hnl,cW];simp;omega
         rw[this,<- cW]
         congr 1
         omega) (by simp[hlt];omega) hok' (λi j r c p1 p2=>by
          obtain⟨v,e1,e2⟩:=hall i j r c p1 p2;refine⟨v,?_,e2⟩;rw[Array.getElem?_append_left (by simpa using (gE e1).1)];simpa using e1)
       refine fin hg hI2 hS2 ?_;exact .arr _ _ _ _ _ _ _ (g+1) sz' (by simp;rfl) (by rw[V5 _ _ _ hidl];rfl) (aB _) (λ_=>⟨rfl,rfl,rfl⟩)
     ·cases hap
    ·cases hap
   |_=>simp at hap
  ·cases hap
end
section
variable {P:Program}{o:Oper}{a:Act}{m:Mem}{μ:Mu}{G:Heap}{w:World}
theorem xq {t:TypeId}{n b off:Nat}{z:Value}(hn:UR P t=some n)(hz:z.cells.size=n)(hc:∀j,j<n->(w.cell? ⟨b,off+j,none⟩).isSome=true)(hf:∀j,j<n->w.frozen? ⟨b,off+j,none⟩=false)
  (h1:∀u∈z.cells.toList,u.oneCell'=true):(Instr.storeAt t (.pointer (some ⟨b,off,none⟩)) z).run P w=.ok () (w.setCells b off z.cells.toList):=by
 have hst:=run_storeCells_cells (P:=P) b off z.cells.toList 0 w (by simpa [hz] using hc) (by simpa [hz] using hf) h1;simp only[U3]at hst;simp[Instr.storeAt,Instr.sureAddr,storeVar,ep hn,hz,hst]
variable {N:Nat}{aN:Env}(hI:Inv m μ G w)(he:iq m μ (inf G) N aN a)
include hI he
theorem BB {x y:Operand}{ox oy:fe}{t:TypeId}{n:Nat}(ho:o.op=.store t x y)(hn:UR P t=some n)(hx:cY x=some ox)(hy:cY y=some oy){u v:AV}(hu:eH aN ox=some u)(hv:eH aN oy=some v){G':Heap}(hs:iM n G u v=some G'):Good P o a m μ G w (.val .undef G'):=by
 have hru:=dx he hx hu;have hrv:=dx he hy hv;unfold iM at hs;split at hs
 ·rename_i hvn;cases u with
  |ptr id off =>
   simp only at hs;split at hs
   ·rename_i cs hG;split at hs
    ·rename_i hc;cases hs;generalize hzx:a.eval x=z at hru;cases hru with|ptr _ _ loc h1 h2 =>
     obtain⟨cv,T,k1,k2,k3,k4,k5⟩:=hI.obj id _ hG loc h1;have hvc:=RL.cellsOf hrv hc.2;have hzn:(a.eval y).cells.size=n:=by have:=hvc.1;simp at this;omega
     have hcell:∀j,w.cell? ⟨loc.gD,j,none⟩=cv[j]?:=λj=>by simp[World.cell?,k1]
     have hone:∀q∈(a.eval y).cells.toList,q.oneCell'=true:=by
      intro q hq;obtain⟨k,hk,rfl⟩:=dw.1 hq;have hk':k<v.cells.length:=by rw[<- hvc.1];exact hk
      exact(hvc.2 k _ _ (gG hk) (gG hk')).one (bc.1 hc.2 _ (bM _))
     have hrun:=xq (P:=P) (w:=w) (b:=loc.gD) (off:=off) hn hzn (λj hj=>by rw[hcell,Array.getElem?_eq_getElem (by omega)];rfl) (λj hj=>by simp[World.frozen?,k1]) hone;have hzl:(a.eval y).cells.toList.length=n:=by simpa using hzn
     obtain⟨cs',s1,s2,s3,s4⟩:=Wf loc.gD (a.eval y).cells.toList off w cv T (0,0) k1 (by omega);obtain⟨w1,w2,w3,w4,w5⟩:=jw loc.gD (a.eval y).cells.toList off w;obtain⟨hI2,hS2⟩:=uN (old:=.box cs) (new:=.box (Vn cs off v.cells)) hI hG h1 (w':=w.setCells loc.gD off (a.eval y).cells.toList) (cs:=cv) (T:=T) w1 w2 w3 w4 w5
      (λoo q hm=>by rw[k5 oo]at hm;cases hm) (by simp[VU]) (by simp[VU])
      (λe=>⟨cs',T,s1,by rw[s2,k2,WM _ _ _ (by omega)],λj q x' p1 p2=>by
       rw[qS _ _ _ (by omega)]at p2;by_cases hj:off<=j/\j<off+v.cells.length
       ·rw[ah hj]at p2;have:=s3 (j-off) (by omega);rw[show off+(j-off)=j by omega]at this;rw[this]at p1;exact(hvc.2 _ q x' p1 p2).mono e
       ·rw[aa hj]at p2;rw[s4 j (by omega)]at p1;exact(k3 j q x' p1 p2).mono e,by
       rw[bc]at k4 ⊢;intro q hq;unfold Vn at hq;simp only[Uz]at hq;rcases hq with (hq|hq)|hq
       ·exact k4 q (U6 hq)
       ·exact bc.1 hc.2 q hq
       ·exact k4 q (gO hq),k5⟩)
     intro next Q hnx;refine uK ?_ (hnx _ _ _ undef hI2 hS2 .undef);simp[execOp,ho,hzx,hrun]
    ·cases hs
   ·cases hs
  |ez id idx off gen =>
   simp only at hs;split at hs
   ·cases hs
   ·rename_i l G1 hnorm;split at hs
    ·rename_i sz ay g sl hG;split at hs
     ·rename_i hc;obtain⟨hg,hsl,hll,hfl⟩:=hc;subst hg;split at hs
      ·rename_i row hrow;split at hs
       ·rename_i hle;cases hs;obtain⟨m1,hI1,hS1,hvl⟩:=tA hI hnorm hrv hfl;generalize hzx:a.eval x=z at hru;have hru1:=hru.mono hS1.ext;cases hru1 with|ez _ _ _ _ ad loc g' szz q1 q2 q3 q4 =>
        have hinf:inf G1 id=some (some (g,sz)):=by simp[inf,hG,VU]
        rw[hinf]at q2;cases q2;have had:=q4 rfl;subst had;obtain⟨cv,T,k1,k2,k3,k4,k5,k6,k7⟩:=hI1.obj id _ hG loc q1;have hzn:(a.eval y).cells.size=n:=by have:=hvl.1;simp at this;omega
        have hzl:(a.eval y).cells.toList.length=n:=by simpa using hzn
        have hcell:∀j,w.cell? ⟨loc.gD,j,none⟩=cv[j]?:=λj=>by simp[World.cell?,k1]
        have hidx:idx<ay.length:=(gE hrow).1;have hrl:=dQ (eo k5 hrow);have hsize:idx * sz+sz<=cv.size:=by
         rw[k2,<- db];exact bh _ (by omega)
        have hone:∀q∈(a.eval y).cells.toList,q.oneCell'=true:=by
         intro q hq;obtain⟨k,hk,rfl⟩:=dw.1 hq;have hk':k<l.length:=by rw[<- hvl.1];exact hk
         exact(hvl.2 k _ _ (gG hk) (gG hk')).one (bc.1 hfl _ (bM _))
        have hrun:=xq (P:=P) (w:=w) (b:=loc.gD) (off:=idx * sz+off) hn hzn (λj hj=>by rw[hcell,Array.getElem?_eq_getElem (by omega)];rfl) (λj hj=>by simp[World.frozen?,k1]) hone;obtain⟨cs',s1,s2,s3,s4⟩:=Wf loc.gD (a.eval y).cells.toList (idx * sz+off) w cv T (0,0) k1 (by omega);obtain⟨w1,w2,w3,w4,w5⟩:=jw loc.gD (a.eval y).cells.toList (idx * sz+off) w;have hokr:aS sz (Vn row off l)=true:=by
         simp only[aS,ab,cZ];refine⟨by rw[WM _ _ _ (by omega)];exact hrl,?_⟩;rw[bc];intro q hq;unfold Vn at hq;simp only[Uz]at hq;rcases hq with (hq|hq)|hq
         ·exact lW (eo k5 hrow) q (U6 hq)
         ·exact bc.1 hfl q hq
         ·exact lW (eo k5 hrow) q (gO hq)
        obtain⟨hI2,hS2⟩:=uN (old:=.arr sz ay g sl) (new:=.arr sz (ay.set idx (Vn row off l)) g sl) hI1 hG q1 (w':=w.setCells loc.gD (idx * sz+off) (a.eval y).cells.toList) (cs:=cv) (T:=T) w1 w2 w3 w4 w5
         (λoo q hm=>by
          have hlt2:oo<sl * sz:=by
           apply dI;intro hge;rw[k7 oo (by omega)]at hm;cases hm
          have:sl * sz<=idx * sz:=bh _ hsl;have hkk:=hI1.known _ _ _ hm;rw[hcell]at hkk;simp only[World.cell?,s1,jM,aZ,if_false];rw[s4 oo (.inl (by omega))];exact hkk) (by simp[VU]) (by simp[VU])
         (λe=>⟨cs',T,s1,by rw[s2,k2],by simpa using k3,k4,qT k5 hokr,λi j r c p1 p2=>by
          have hjr:j<sz:=by rw[<- dQ (eo (qT k5 hokr) p1)];exact(gE p2).1
          by_cases hii:i=idx
          ·subst hii;rw[List.getElem?_set_self hidx]at p1;cases p1;rw[qS _ _ _ (by omega)]at p2;by_cases hj:off<=j/\j<off+l.length
           ·rw[ah hj]at p2;have:=s3 (j-off) (by omega);rw[show i * sz+off+(j-off)=i * sz+j by omega]at this;have hlt:j-off<(a.eval y).cells.toList.length:=by omega
            exact⟨_,by rw[this,gG hlt],hvl.2 _ _ c (gG hlt) p2⟩
           ·rw[aa hj]at p2;obtain⟨q,e1,e2⟩:=k6 i j row c hrow p2;exact⟨q,by rw[s4 _ (by omega)];exact e1,e2⟩
          ·rw[List.getElem?_set,aa (Ne.symm hii)]at p1;obtain⟨q,e1,e2⟩:=k6 i j r c p1 p2;refine⟨q,?_,e2⟩;rw[s4 _ ?_]
           ·exact e1
           ·rcases jL hii with hlt|hgt
            ·have:i * sz+sz<=idx * sz:=by rw[<- db];exact bh _ hlt
             omega
            ·have:idx * sz+sz<=i * sz:=by rw[<- db];exact bh _ hgt
             omega,k7⟩)
        intro next Q hnx;refine uK ?_ (hnx _ _ _ undef hI2 (hS1.trans hS2) .undef);simp[execOp,ho,hzx,hrun]
       ·cases hs
      ·cases hs
     ·cases hs
    ·cases hs
  |_=>simp at hs
 ·cases hs
end
section
variable {P:Program}{o:Oper}{a:Act}{m:Mem}{μ:Mu}{G:Heap}{w:World}
theorem W1 (isSlice:Bool)(len aV:Nat)(lo hi:Option Int)(hlo:0<=lo.getD 0)(hle:lo.getD 0<=hi.getD len)(hhi:hi.getD len<=aV)(hlc:len<=aV)(ol oh:Option Value)
  (hol:∀i,lo=some i->∃k,ol=some (.int k i)) (hon:lo=none->ol=none) (hoh:∀i,hi=some i->∃k,oh=some (.int k i)) (hhn:hi=none->oh=none) :
  (Instr.sliceBounds isSlice len aV ol oh none).run P w=.ok ((lo.getD 0).toNat,(hi.getD len).toNat,aV) w:=by
 cases lo with
 |none =>
  rw[hon rfl];cases hi with
  |none=>rw[hhn rfl];simp[Instr.sliceBounds]
  |some h =>
   obtain⟨k,rfl⟩:=hoh h rfl;simp at hle hhi;simp[Instr.sliceBounds,Instr.sliceBound,asIntOf,hle,hhi]
 |some l =>
  obtain⟨k,rfl⟩:=hol l rfl;cases hi with
  |none =>
   rw[hhn rfl];simp at hle hlo;simp[Instr.sliceBounds,Instr.sliceBound,asIntOf,hle,hlo]
  |some h =>
   obtain⟨k',rfl⟩:=hoh h rfl;simp at hle hlo hhi;have h0:0<=h:=by omega
   have hle':l<=(h.toNat:Int):=by omega
   have e:max h 0=h:=by omega
   simp[Instr.sliceBounds,Instr.sliceBound,asIntOf,hlo,hhi,h0,hle',e,hle]
theorem Yo {aN:Env}{N:Nat}(he:iq m μ (inf G) N aN a){x:Option Operand}{ox:Option fe}(hc:Yt x=some ox){lo:Option Int}(h:(match ox with|none=>some none|some o=>((eH aN o).bind asInt).map some)=some lo) :
  (∀i,lo=some i->∃k,x.map a.eval=some (.int k i))/\(lo=none->x.map a.eval=none):=by
 cases x with
 |none =>
  simp[Yt]at hc;subst hc;simp at h;subst h;exact⟨λi h=>(by cases h),λ_=>rfl⟩
 |some x =>
  simp only[Yt,aP]at hc;obtain⟨b,hb,rfl⟩:=hc;change ((eH aN b).bind asInt).map some=some lo at h;cases hq:eH aN b with
  |none=>rw[hq]at h;cases h
  |some v =>
  have hv:=hq;rw[hq]at h;cases hi:asInt v with
  |none=>simp[hi]at h
  |some i =>
  simp only[kT,hi,dT,bG]at h;subst h;refine⟨λj hj=>?_,λh=>by cases h⟩;cases hj;have hr:=dx he hb hv;unfold asInt at hi;split at hi
  ·rename_i k n;cases hi;exact⟨k,by rw[dT,hr.gL]⟩
  ·cases hi
theorem zP {ad:Option Addr}{aV:Nat}{ay:List (List PV)}{sz:Nat}(hp:RP m (.slice ad ay.length aV) (.sl ay))(hok:bH sz ay=true)(l h:Nat)(hlh:l<=h)(hh:h<=ay.length) :
  RP m (.slice (if aV=l then ad else ad.map (·.add (l * sz))) (h-l) (aV-l)) (.sl ((ay.take h).drop l)):=by
 obtain⟨ad',cap',sz',f,he,jH,hs,ha,hf⟩:=hp.II;injection he with e1 e2 e3
 subst e1;subst e3;have hlen:((ay.take h).drop l).length=h-l:=by simp;omega
 have hget:∀i,((ay.take h).drop l)[i]?=if l+i<h then ay[l+i]? else none:=λi=>by
  rw[List.getElem?_drop,List.getElem?_take]
 have key:RP m (.slice (if aV=l then ad else ad.map (·.add (l * sz))) ((ay.take h).drop l).length (aV-l)) (.sl ((ay.take h).drop l)):=by
  refine .sl _ _ _ sz' (λi j=>f (l+i) j) (by rw[hlen];omega) (zG (VV hs)) (λhne=>?_) (λi j r c g1 g2=>?_)
  ·have hlt:l<h:=by
    apply dI;intro hge;exact hne (aW (by rw[hlen];omega))
   have hrne:ay≠[]:=by intro e;subst e;simp at hh;omega
   obtain⟨b,oo,rfl,hm⟩:=ha hrne;have hss:=uO hs hok hrne;refine⟨b,oo+l * sz,by rw[aa (by omega)];simp[Addr.add_mid],λi j r c g1 g2=>?_⟩;rw[hget]at g1;split at g1
   ·have:=hm _ _ _ _ g1 g2;rw[<- this,hss]
    congr 1
    rw[cW];omega
   ·cases g1
  ·rw[hget]at g1;split at g1
   ·exact hf _ _ _ _ g1 g2
   ·cases g1
 rw[hlen]at key;exact key
variable {N:Nat}{aN:Env}(hI:Inv m μ G w)(he:iq m μ (inf G) N aN a)
include hI he
theorem xu {x:Operand}{ox:fe}{lo hi:Option Operand}{olo ohi:Option fe}{t:TypeId}{d:TypeDesc}{sz:Nat}(ho:o.op=.slice t x lo hi none)(ht:P.underlying t=some d)(hd:(d=.string)\/(∃e,d=.slice e/\UR P e=some sz))(hx:cY x=some ox)(hlo:Yt lo=some olo)(hhi:Yt hi=some ohi)
  {v:AV} (hv:eH aN ox=some v) {l h:Option Int} (hl:(match olo with|none=>some none|some o=>((eH aN o).bind asInt).map some)=some l) (hh:(match ohi with|none=>some none|some o=>((eH aN o).bind asInt).map some)=some h)
  (hstr:(d=.string)↔fO v=true) {r:AV} {G':Heap} (hs:jQ sz G v l h=some (r,G')):Good P o a m μ G w (.val r G'):=by
 have hr:=dx he hx hv;obtain⟨a1,a2⟩:=Yo he hlo hl;obtain⟨b1,b2⟩:=Yo he hhi hh;have fin:∀{val:Value} {m':Mem},(Instr.slice t (a.eval x) (lo.map a.eval) (hi.map a.eval) none).run P w=.ok val w->(∀n e,d≠.array n e)->Inv m' μ G' w->lC m μ G w m' μ G' w->R m' μ (inf G') val r->Good P o a m μ G w (.val r G'):=by
  intro val m' hrun hna hI' hS hR next Q hnx;refine i_ ?_ (hnx _ _ _ _ hI' hS hR);have:(Instr.sliceAt t (a.eval x) (lo.map a.eval) (hi.map a.eval) none).run P w=.ok val w:=by
   simp only[Instr.sliceAt,Sem.run_bind,run_underlying ht,Result.andThen_ok];rcases hd with rfl|⟨e,rfl,_⟩<;>exact hrun
  simp[execOp,ho,this]
 have hna:∀n e,d≠.array n e:=by rcases hd with rfl|⟨e,rfl,_⟩<;>simp
 cases v with
 |p y =>
  cases y with
  |s s =>
   have hd':=hstr.2 rfl;subst hd';have hz:=hr.n5;simp only[jQ]at hs;split at hs
   ·rename_i hc;cases hs;have hb:=W1 (P:=P) (w:=w) false s.length s.length l h hc.1 hc.2.1 hc.2.2 (aB _) _ _ a1 a2 b1 b2;refine fin (val:=.string ⟨((s.take (h.getD s.length).toNat).drop (l.getD 0).toNat).toArray⟩) ?_ hna hI (.refl _ _ _ _) (.str _);simp[Instr.slice,run_underlying ht,hz,iS,hb,wT]
   ·cases hs
  |sl ay =>
   have hd':∃e,d=.slice e/\UR P e=some sz:=by
    rcases hd with rfl|hd
    ·have:=hstr.1 rfl;simp[fO]at this
    ·exact hd
   obtain⟨e,rfl,hn⟩:=hd';simp only[jQ]at hs;split at hs
   ·rename_i hc;cases hs;generalize hzx:a.eval x=z at hr fin;cases hr with|p _ _ hp =>
    have hp':=hp;cases hp' with|sl ad aV _ sz' f jH hs' ha hf =>
    have hb:=W1 (P:=P) (w:=w) true ay.length aV l h hc.1 hc.2.1 (by have:=hc.2.2.1;omega) jH _ _ a1 a2 b1 b2;have hlh:(l.getD 0).toNat<=(h.getD ay.length).toNat:=by have:=hc.2.1;omega
    have hhr:(h.getD ay.length).toNat<=ay.length:=by have:=hc.2.2.1;omega
    refine fin ?_ hna hI (.refl _ _ _ _) (.p _ _ (zP hp hc.2.2.2 _ _ hlh hhr));simp[Instr.slice,run_underlying ht,hb,ep hn]
   ·cases hs
  |_=>simp[jQ]at hs
 |aC =>
  have hd':∃e,d=.slice e/\UR P e=some sz:=by
   rcases hd with rfl|hd
   ·have:=hstr.1 rfl;simp[fO]at this
   ·exact hd
  obtain⟨e,rfl,hn⟩:=hd';simp only[jQ]at hs;split at hs
  ·rename_i hc;cases hs;generalize hzx:a.eval x=z at hr fin;cases hr;have hb:=W1 (P:=P) (w:=w) true 0 0 l h (by omega) (by simp;omega) (by simp;omega) (aB _) _ _ a1 a2 b1 b2;refine fin (val:=.slice none 0 0) ?_ hna hI (.refl _ _ _ _) .aC;have e1:(l.getD 0).toNat=0:=by omega
   have e2:(h.getD 0).toNat=0:=by omega
   simp only[Int.natCast_zero,e1,e2]at hb;simp[Instr.slice,run_underlying ht,hb,ep hn,e2]
  ·cases hs
 |arr id len gen =>
  have hd':∃e,d=.slice e/\UR P e=some sz:=by
   rcases hd with rfl|hd
   ·have:=hstr.1 rfl;simp[fO]at this
   ·exact hd
  obtain⟨e,rfl,hn⟩:=hd';simp only[jQ]at hs;split at hs
  ·rename_i sz' ay g sl hG;split at hs
   ·rename_i hc;obtain⟨hg,hsz,h0,h1,h2,h3⟩:=hc;subst hg;subst hsz;generalize hzx:a.eval x=z at hr fin;have hr0:=hr;cases hr with|arr _ _ _ ad n c loc g' szz q1 q2 q3 q4 =>
    have hinf:inf G id=some (some (g,sz')):=by simp[inf,hG,VU]
    have q2':=q2;rw[hinf]at q2';cases q2';obtain⟨rfl,rfl,rfl⟩:=q4 rfl;obtain⟨cs,T,k1,k2,k3,k4,k5,k6,k7⟩:=hI.obj id _ hG loc q1;have hb:=W1 (P:=P) (w:=w) true n loc.aV l h h0 h1 (by omega) (by omega) _ _ a1 a2 b1 b2;split at hs
    ·rename_i ho0;cases hs;have e1:(l.getD 0).toNat=0:=by omega
     refine fin (val:=.slice (some ⟨loc.gD,0,none⟩) (h.getD n).toNat loc.aV) ?_ hna hI (.refl _ _ _ _) (.arr _ _ _ _ _ _ loc g sz' q1 q2 (aB _) (λ_=>⟨rfl,rfl,rfl⟩));simp[Instr.slice,run_underlying ht,hb,ep hn,e1,Addr.add_mid]
    ·cases hs;obtain⟨m',hI',hS,⟨bk,hz,jH,hm⟩,hok,hs1⟩:=zH hI hr0 hG rfl h3;have hl:(ay.take n).length=n:=by simp;omega
     have hRP:=RP.Cv (m:=m') (b:=bk) (o:=0) (sz:=sz') (aV:=loc.aV) (ay:=ay.take n) (by omega) (VV hok) (by simpa using hm);simp only[Value.w9]at hz;have hbk:bk=loc.gD:=by injection hz with e1 _ _;injection e1 with e1;injection e1 with e1 _ _;exact e1.symm
     subst hbk;have hlh:(l.getD 0).toNat<=(h.getD n).toNat:=by omega
     have hsub:=zP hRP (VV hok) (l.getD 0).toNat (h.getD n).toNat hlh (by omega);have htt:(ay.take n).take (h.getD n).toNat=ay.take (h.getD n).toNat:=by rw[eQ];congr 1;omega
     rw[htt]at hsub;refine fin ?_ hna hI' hS (.p _ _ hsub);simp[Instr.slice,run_underlying ht,hb,ep hn]
   ·cases hs
  ·cases hs
 |_=>simp[jQ]at hs
theorem BC {x:Operand}{ox:fe}{s d e:TypeId}(ho:o.op=.convert s d x)(hs:P.underlying s=some (.slice e))(hd:P.underlying d=some .string)(hu:P.underlying e=some (.int .u8))(hx:cY x=some ox){v:AV}(hv:eH aN ox=some v){l:List UInt8}(hl:(if fO v then none else (UZ G v).bind bytesOf)=some l):Good P o a m μ G w (.val (.p (.s l)) G):=by
 have hr:=dx he hx hv;split at hl
 ·cases hl
 ·rename_i hns;simp only[UI]at hl;obtain⟨ay,h1,h2⟩:=hl;have hok:bH 1 ay=true:=by
   clear h1
   induction ay generalizing l with
   |nil=>rfl
   |cons r ay ih =>
    unfold bytesOf at h2;split at h2
    ·rename_i heq;cases heq
    ·rename_i n r' heq;cases heq;split at h2
     ·rename_i l' hl';simp only[bH,dJ,ab];exact⟨rfl,ih hl'⟩
     ·cases h2
    ·cases h2
  obtain⟨ad,c,news,hsrc⟩:=xp hI hr h1 (by intro l e;subst e;simp[fO]at hns) (aB 1) hok;have hbytes:∀(j:Nat) (u:Value),news[j]?=some u->∃n,u=.int .u8 n/\l[j]?=some (UInt8.ofNat n.toNat):=by
   have hlen:=hsrc.len;have hrel:=hsrc.rel;clear hsrc h1 hok
   induction ay generalizing l news with
   |nil =>
    intro j u hj;have:news=[]:=aW (by simpa using hlen);subst this;simp at hj
   |cons r ay ih =>
    unfold bytesOf at h2;split at h2
    ·rename_i heq;cases heq
    ·rename_i n r' heq;cases heq;split at h2
     ·rename_i l' hl';cases h2;cases news with
      |nil=>simp at hlen
      |cons u0 news =>
       intro j u hj;cases j with
       |zero =>
        simp at hj;subst hj;obtain⟨q,e1,e2⟩:=hrel 0 0 _ _ rfl rfl;simp at e1;subst e1;cases e2;exact⟨n,rfl,rfl⟩
       |succ j =>
        refine ih (l:=l') (news:=news) hl' (by simpa using hlen) (λi j r x g1 g2=>?_) j u (by simpa using hj);obtain⟨q,e1,e2⟩:=hrel (i+1) j r x (by simpa using g1) g2;refine⟨q,?_,e2⟩;rw[<- e1,show(i+1) * 1+j=(i * 1+j)+1 by omega];simp
     ·cases h2
    ·cases h2
  have hll:l.length=ay.length:=by
   clear hbytes hsrc h1 hok
   induction ay generalizing l with
   |nil=>simp[bytesOf]at h2;subst h2;rfl
   |cons r ay ih =>
    unfold bytesOf at h2;split at h2
    ·rename_i heq;cases heq
    ·rename_i n r' heq;cases heq;split at h2
     ·rename_i l' hl';cases h2;simp[ih hl']
     ·cases h2
    ·cases h2
  have hn:news.length=ay.length:=by have:=hsrc.len;omega
  have hconv:(convert s d (a.eval x)).run P w=.ok (.string ⟨l.toArray⟩) w:=by
   rw[hsrc.val];by_cases hr0:ay=[]
   ·subst hr0;have:l=[]:=aW (by simpa using hll);subst this;cases ad with
    |none=>rw[run_convert_bytes_nil w s e hs hu _ _ d hd];rfl
    |some ad =>
     rw[run_convert_bytes_string w s d e _ _ _ hs hu hd];simp[Conv.bytesToString,loadCells,loadCellsFrom];rfl
   ·obtain⟨b,oo,rfl,hc⟩:=hsrc.addr hr0;rw[run_convert_bytes_arg w s e hs hu b oo ay.length c (news.map λu=>match u with|.int _ n=>n|_=>0) (by simpa using hn) (λi hi=>by
     obtain⟨n,h3,h4⟩:=hbytes i _ (gG (by omega));rw[hc i _ (gG (by omega)),h3];simp[List.getD_eq_getElem?_getD,List.getElem?_map,gG (show i<news.length by omega),h3]) d hd]
    congr 2
    unfold strOfNums
    congr 2
    apply List.ext_getElem?;intro j;rw[UJ,List.getElem?_map];by_cases hj:j<news.length
    ·obtain⟨n,h3,h4⟩:=hbytes j _ (gG hj);rw[gG hj,h4,dT];simp[h3]
    ·rw[List.getElem?_eq_none (by omega),List.getElem?_eq_none (by omega)];rfl
  exact .same hI (by simp[execOp,ho,hconv]) (.str _)
end
end Go.Proofs.Z
