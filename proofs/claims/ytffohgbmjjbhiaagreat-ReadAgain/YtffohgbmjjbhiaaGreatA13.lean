/- A part of the proof. -/
import Derived.Test.YtffohgbmjjbhiaaGreatA12
import Derived.Test.YtffohgbmjjbhiaaGreatA11
set_option linter.all false
section
namespace Go.Proofs.Z
open Go Go.Proofs
attribute [local simp] k_nil k_ops k_opsg kG_true kG_false kO_val kO_pan k_seq kS_n kS_r kS_e kS_p k_o kR_n kR_p kD2_n kD1_n k_d k_c kC_t kC_f k_b kB_n kB_r kB_p kB_e k_skip k_ret k_exit k_l kL_s kLp_n kLp_r kLp_e kLp_p k_f kF_n kF_r kF_p kV_f kV_t kN_s evOp evBin gOK opd opds lk put restr iEv evRes whole norm normL one Out.below below belowL bOb evStore evLoad evLen AV.cells AV.flat PV.flat splice fillAt pcs isStr rowsOf Res.of evCmp lvE leafEq asInt noIdAt noId noIdL tids chkOK
variable {pg:Prg}{G:Heap}
mutual
theorem flatA_below (n:Nat):∀ {a:AV},flatA a=true→below n a=true
 |.p x,_=>by simp[below]
 |.undef,_=>by simp[below]
 |.ag cs,h=>by simp only[below];exact flatAL_below n (by simpa [flatA] using h)
 |.nils,h=>by simp[flatA]at h
 |.rp _,h=>by simp[flatA]at h
 |.arr _ _ _,h=>by simp[flatA]at h
 |.ptr _ _,h=>by simp[flatA]at h
 |.eptr _ _ _ _,h=>by simp[flatA]at h
 |.tup cs,h=>by simp[flatA]at h
 |.ifc t v,h=>by simp[flatA]at h
 |.fn f a b,h=>by simp[flatA]at h
theorem flatAL_below (n:Nat):∀ {l:List AV},flatAL l=true→belowL n l=true
 |[],_=>rfl
 |a::r,h=>by
  simp only[flatAL,Bool.and_eq_true]at h
  simp only[belowL,Bool.and_eq_true]
  exact ⟨flatA_below n h.1,flatAL_below n h.2⟩
end
mutual
theorem flatA_back (ids:List Nat)(base:Nat):∀ {a:AV},flatA a=true→back ids base a=a
 |.p x,_=>by simp[back]
 |.undef,_=>by simp[back]
 |.ag cs,h=>by simp only[back];rw[flatAL_back ids base (by simpa [flatA] using h)]
 |.nils,h=>by simp[flatA]at h
 |.rp _,h=>by simp[flatA]at h
 |.arr _ _ _,h=>by simp[flatA]at h
 |.ptr _ _,h=>by simp[flatA]at h
 |.eptr _ _ _ _,h=>by simp[flatA]at h
 |.tup cs,h=>by simp[flatA]at h
 |.ifc t v,h=>by simp[flatA]at h
 |.fn f a b,h=>by simp[flatA]at h
theorem flatAL_back (ids:List Nat)(base:Nat):∀ {l:List AV},flatAL l=true→backL ids base l=l
 |[],_=>rfl
 |a::r,h=>by
  simp only[flatAL,Bool.and_eq_true]at h
  simp only[backL]
  rw[flatA_back ids base h.1,flatAL_back ids base h.2]
end
mutual
theorem back_below0' (ids:List Nat)(base:Nat):∀ {a:AV},below 0 a=true→back ids base a=a
 |.p x,_=>by simp[back]
 |.nils,_=>by simp[back]
 |.undef,_=>by simp[back]
 |.rp _,_=>by simp[back]
 |.arr _ _ _,h=>by simp[below]at h
 |.ptr _ _,h=>by simp[below]at h
 |.eptr _ _ _ _,h=>by simp[below]at h
 |.ag cs,h=>by simp only[back];rw[backL_below0' ids base (by simpa [below] using h)]
 |.tup cs,h=>by simp only[back];rw[backL_below0' ids base (by simpa [below] using h)]
 |.ifc t v,h=>by simp only[back];rw[back_below0' ids base (by simpa [below] using h)]
 |.fn f a b,h=>by simp only[below,Bool.and_eq_true]at h;simp only[back];rw[backL_below0' ids base h.1,backL_below0' ids base h.2]
theorem backL_below0' (ids:List Nat)(base:Nat):∀ {l:List AV},belowL 0 l=true→backL ids base l=l
 |[],_=>rfl
 |a::r,h=>by simp only[belowL,Bool.and_eq_true]at h;simp only[backL];rw[back_below0' ids base h.1,backL_below0' ids base h.2]
end
theorem at_box {call:CallF}{f k:Nat}{c c' args:List AV}{out:Out}(hcall:call f (.ptr 0 0::args) [.box c]=some (out,[.box c']))(hG:G[k]?=some (.box c))(ha:flatAL args=true)(hc:flatAL c=true)(hc':flatAL c'=true)(ho:out.below 0=true) :
  eCA pg call f (.ptr k 0::args) G=some (out,G.set k (.box c')):=by
 have hlt:k<G.length:=(gE hG).1
 unfold eCA
 simp only[expL,exp,Exp.id,idxOf,List.nil_append,List.length_nil]
 rw[flatAL_exp _ _ ha]
 dsimp only
 have e2:eOs (G.length+1) ⟨[k],G⟩ 0=some ([.box c],⟨[k],G⟩):=by
  obtain ⟨m,hm⟩:∃ m,G.length=m+1:=⟨G.length-1,by omega⟩
  rw[hm]
  simp only[eOs,List.getElem?_cons_zero,hG,flatAL_exp true _ hc,Nat.zero_add,List.getElem?_cons_succ,List.getElem?_nil]
 rw[e2]
 dsimp only
 rw[hcall]
 have hback:∀ ids n,out.back ids n=out:=fun ids n=>by
  cases out with
  |ret v=>simp only[Out.back];rw[back_below0' ids n (by simpa [Out.below] using ho)]
  |pan v=>simp only[Out.back];rw[back_below0' ids n (by simpa [Out.below] using ho)]
 simp[hback,setAll,backObj,flatAL_back _ _ hc']
theorem at_box0 {call:CallF}{f:Nat}{c c' args:List AV}{out:Out}{Gs:Heap}(hcall:call f (.ptr 0 0::args) [.box c]=some (out,[.box c']))(ha:flatAL args=true)(hc:flatAL c=true)(hc':flatAL c'=true)(ho:out.below 0=true) :
  eCA pg call f (.ptr 0 0::args) (.box c::Gs)=some (out,.box c'::Gs):=by
 rw[at_box hcall rfl ha hc hc' ho];rfl
theorem t152 (h:Std pg)(a b:Int):eCA pg (E pg) 152 [.p (.i .i64 a),.p (.i .i64 b)] G=some (.ret (.ag [.p (.i .i64 a),.p (.i .i64 b)]),G):=by
 refine at_pure ?_ rfl rfl
 rw[h.run (x:=c152) rfl (by decide) (by decide) (by decide) (by decide)]
 simp[c152,leave]
theorem s179 (h:Std pg){n:Net}{r:List AV}{i:Nat}{x:Node}(hx:n.nodes[i]?=some x)(hr:flatAL r=true) :
  E pg 179 [.ptr 0 0,.p (.i .i64 i)] [.box (.p (.sl (n.nodes.map Node.enc))::.p (.i .i64 n.cap)::r)]=some (.ret (.ag [.p (.i .i64 x.kind),.p (.i .i64 x.lev),.p (.i .i64 x.n),.p (.s x.name),.p (.sl (x.alts.map encAr)),.p (.sl (x.to.map Port.enc))]),[.box (.p (.sl (n.nodes.map Node.enc))::.p (.i .i64 n.cap)::r)]):=by
 have h5:n.nodes[i]?=some x:=hx
 have hb:=flatAL_below 1 hr
 rw[h.run (x:=c179) rfl (by decide) (by decide) (by decide) (by decide)]
 simp[c179,leave,h5,Node.enc,okRow,hb]
theorem t179 (h:Std pg){n:Net}{r:List AV}{i:Nat}{x:Node}{Gs:Heap}(hx:n.nodes[i]?=some x)(hr:flatAL r=true) :
  eCA pg (E pg) 179 [.ptr 0 0,.p (.i .i64 i)] (.box (.p (.sl (n.nodes.map Node.enc))::.p (.i .i64 n.cap)::r)::Gs)=some (.ret (.ag [.p (.i .i64 x.kind),.p (.i .i64 x.lev),.p (.i .i64 x.n),.p (.s x.name),.p (.sl (x.alts.map encAr)),.p (.sl (x.to.map Port.enc))]),.box (.p (.sl (n.nodes.map Node.enc))::.p (.i .i64 n.cap)::r)::Gs) :=
 at_box0 (s179 h hx hr) rfl (by simpa [flatAL,flatA] using hr) (by simpa [flatAL,flatA] using hr) rfl
theorem s181 (h:Std pg){n:Net}{r:List AV}{i:Nat}{x:Node}(hx:n.nodes[i]?=some x)(hr:flatAL r=true)(h10:r[10]?=some (.p (.i .i64 i))) :
  E pg 181 [.ptr 0 0] [.box (.p (.sl (n.nodes.map Node.enc))::.p (.i .i64 n.cap)::r)]=some (.ret (.p (.i .i64 x.lev)),[.box (.p (.sl (n.nodes.map Node.enc))::.p (.i .i64 n.cap)::r)]):=by
 have hb:=flatAL_below 1 hr
 rw[h.run (x:=c181) rfl (by decide) (by decide) (by decide) (by decide)]
 simp[c181,leave,h10,t179 h hx hr,hb]
theorem t181 (h:Std pg){n:Net}{r:List AV}{i:Nat}{x:Node}{Gs:Heap}(hx:n.nodes[i]?=some x)(hr:flatAL r=true)(h10:r[10]?=some (.p (.i .i64 i))) :
  eCA pg (E pg) 181 [.ptr 0 0] (.box (.p (.sl (n.nodes.map Node.enc))::.p (.i .i64 n.cap)::r)::Gs)=some (.ret (.p (.i .i64 x.lev)),.box (.p (.sl (n.nodes.map Node.enc))::.p (.i .i64 n.cap)::r)::Gs) :=
 at_box0 (s181 h hx hr h10) rfl (by simpa [flatAL,flatA] using hr) (by simpa [flatAL,flatA] using hr) rfl
theorem t184 (h:Std pg){n:Net}{x:Node}(hl:n.nodes.length<2 ^ 30)(hk:2≤x.kind)(hx:x.ok=true)(hp:x.ports<2 ^ 30)(hu:n.used<n.cap) :
  eCA pg (E pg) 184 [.ag [.p (.sl (n.nodes.map Node.enc)),.p (.i .i64 n.cap)],.ag [.p (.i .i64 x.kind),.p (.i .i64 x.lev),.p (.i .i64 x.n),.p (.s x.name),.p (.sl (x.alts.map encAr)),.p (.sl (x.to.map Port.enc))]] G=some (.ret (.tup [.ag [.p (.sl ((n.make x).nodes.map Node.enc)),.p (.i .i64 n.cap)],.p (.i .i64 n.place),.p (.i .i64 0)]),G):=at_pure (s184 h hl hk hx hp hu) rfl rfl
theorem s166 (h:Std pg){n:Net}{r:List AV}{x:Node}(hl:n.nodes.length<2 ^ 30)(hk:2≤x.kind)(hx:x.ok=true)(hp:x.ports<2 ^ 30)(hu:n.used<n.cap)(hr:flatAL r=true) :
  E pg 166 [.ptr 0 0,.ag [.p (.i .i64 x.kind),.p (.i .i64 x.lev),.p (.i .i64 x.n),.p (.s x.name),.p (.sl (x.alts.map encAr)),.p (.sl (x.to.map Port.enc))]] [.box (.p (.sl (n.nodes.map Node.enc))::.p (.i .i64 n.cap)::r)]=some (.ret (.p (.i .i64 n.place)),[.box (.p (.sl ((n.make x).nodes.map Node.enc))::.p (.i .i64 (n.make x).cap)::r)]):=by
 have hb:=flatAL_below 1 hr
 rw[h.run (x:=c166) rfl (by decide) (by decide) (by decide) (by decide)]
 simp[c166,leave,t184 h hl hk hx hp hu,hb,show (n.make x).cap=n.cap from rfl]
theorem t166 (h:Std pg){n:Net}{r:List AV}{x:Node}{Gs:Heap}(hl:n.nodes.length<2 ^ 30)(hk:2≤x.kind)(hx:x.ok=true)(hp:x.ports<2 ^ 30)(hu:n.used<n.cap)(hr:flatAL r=true) :
  eCA pg (E pg) 166 [.ptr 0 0,.ag [.p (.i .i64 x.kind),.p (.i .i64 x.lev),.p (.i .i64 x.n),.p (.s x.name),.p (.sl (x.alts.map encAr)),.p (.sl (x.to.map Port.enc))]] (.box (.p (.sl (n.nodes.map Node.enc))::.p (.i .i64 n.cap)::r)::Gs)=some (.ret (.p (.i .i64 n.place)),.box (.p (.sl ((n.make x).nodes.map Node.enc))::.p (.i .i64 (n.make x).cap)::r)::Gs) :=
 at_box0 (s166 h hl hk hx hp hu hr) rfl (by simpa [flatAL,flatA] using hr) (by simpa [flatAL,flatA] using hr) rfl
theorem t183 (h:Std pg){n:Net}{p q:Port}(hp:n.hasT p)(hq:n.has q)(hr:n.has (n.pr p))(hne:p≠q) :
  eCA pg (E pg) 183 [.ag [.p (.sl (n.nodes.map Node.enc)),.p (.i .i64 n.cap)],.ag [.p (.i .i64 p.node),.p (.i .i64 p.slot)],.ag [.p (.i .i64 q.node),.p (.i .i64 q.slot)]] G=some (.ret (.tup [.ag [.p (.sl ((n.move p q).nodes.map Node.enc)),.p (.i .i64 (n.move p q).cap)],.p (.i .i64 0)]),G):=at_pure (s183 h hp hq hr hne) rfl rfl
theorem s165 (h:Std pg){n:Net}{r:List AV}{p q:Port}(hp:n.hasT p)(hq:n.has q)(hpr:n.has (n.pr p))(hne:p≠q)(hr:flatAL r=true) :
  E pg 165 [.ptr 0 0,.ag [.p (.i .i64 p.node),.p (.i .i64 p.slot)],.ag [.p (.i .i64 q.node),.p (.i .i64 q.slot)]] [.box (.p (.sl (n.nodes.map Node.enc))::.p (.i .i64 n.cap)::r)]=some (.ret (.tup []),[.box (.p (.sl ((n.move p q).nodes.map Node.enc))::.p (.i .i64 (n.move p q).cap)::r)]):=by
 have hb:=flatAL_below 1 hr
 rw[h.run (x:=c165) rfl (by decide) (by decide) (by decide) (by decide)]
 simp[c165,leave,t183 h hp hq hpr hne,hb]
theorem t165 (h:Std pg){n:Net}{r:List AV}{p q:Port}{Gs:Heap}(hp:n.hasT p)(hq:n.has q)(hpr:n.has (n.pr p))(hne:p≠q)(hr:flatAL r=true) :
  eCA pg (E pg) 165 [.ptr 0 0,.ag [.p (.i .i64 p.node),.p (.i .i64 p.slot)],.ag [.p (.i .i64 q.node),.p (.i .i64 q.slot)]] (.box (.p (.sl (n.nodes.map Node.enc))::.p (.i .i64 n.cap)::r)::Gs)=some (.ret (.tup []),.box (.p (.sl ((n.move p q).nodes.map Node.enc))::.p (.i .i64 (n.move p q).cap)::r)::Gs) :=
 at_box0 (s165 h hp hq hpr hne hr) rfl (by simpa [flatAL,flatA] using hr) (by simpa [flatAL,flatA] using hr) rfl
theorem t190 (h:Std pg){n:Net}{p q:Port}(hp:n.hasT p)(hq:n.has q)(hr:n.has (n.pr p))(hs:n.has (n.pr q))(hne:p≠q)(hrs:n.pr p≠q→n.pr p≠n.pr q) :
  eCA pg (E pg) 190 [.ag [.p (.sl (n.nodes.map Node.enc)),.p (.i .i64 n.cap)],.ag [.p (.i .i64 p.node),.p (.i .i64 p.slot)],.ag [.p (.i .i64 q.node),.p (.i .i64 q.slot)]] G=some (.ret (.tup [.ag [.p (.sl ((n.join p q).nodes.map Node.enc)),.p (.i .i64 (n.join p q).cap)],.p (.i .i64 0)]),G):=at_pure (s190 h hp hq hr hs hne hrs) rfl rfl
theorem s178 (h:Std pg){n:Net}{r:List AV}{p q:Port}(hp:n.hasT p)(hq:n.has q)(hpr:n.has (n.pr p))(hqr:n.has (n.pr q))(hne:p≠q)(hrs:n.pr p≠q→n.pr p≠n.pr q)(hr:flatAL r=true) :
  E pg 178 [.ptr 0 0,.ag [.p (.i .i64 p.node),.p (.i .i64 p.slot)],.ag [.p (.i .i64 q.node),.p (.i .i64 q.slot)]] [.box (.p (.sl (n.nodes.map Node.enc))::.p (.i .i64 n.cap)::r)]=some (.ret (.tup []),[.box (.p (.sl ((n.join p q).nodes.map Node.enc))::.p (.i .i64 (n.join p q).cap)::r)]):=by
 have hb:=flatAL_below 1 hr
 rw[h.run (x:=c178) rfl (by decide) (by decide) (by decide) (by decide)]
 simp[c178,leave,t190 h hp hq hpr hqr hne hrs,hb]
theorem t178 (h:Std pg){n:Net}{r:List AV}{p q:Port}{Gs:Heap}(hp:n.hasT p)(hq:n.has q)(hpr:n.has (n.pr p))(hqr:n.has (n.pr q))(hne:p≠q)(hrs:n.pr p≠q→n.pr p≠n.pr q)(hr:flatAL r=true) :
  eCA pg (E pg) 178 [.ptr 0 0,.ag [.p (.i .i64 p.node),.p (.i .i64 p.slot)],.ag [.p (.i .i64 q.node),.p (.i .i64 q.slot)]] (.box (.p (.sl (n.nodes.map Node.enc))::.p (.i .i64 n.cap)::r)::Gs)=some (.ret (.tup []),.box (.p (.sl ((n.join p q).nodes.map Node.enc))::.p (.i .i64 (n.join p q).cap)::r)::Gs) :=
 at_box0 (s178 h hp hq hpr hqr hne hrs hr) rfl (by simpa [flatAL,flatA] using hr) (by simpa [flatAL,flatA] using hr) rfl
theorem t191 (h:Std pg){n:Net}{p q:Port}(hp:n.hasT p)(hq:n.has q)(hne:p≠q) :
  eCA pg (E pg) 191 [.ag [.p (.sl (n.nodes.map Node.enc)),.p (.i .i64 n.cap)],.ag [.p (.i .i64 p.node),.p (.i .i64 p.slot)],.ag [.p (.i .i64 q.node),.p (.i .i64 q.slot)]] G=some (.ret (.tup [.ag [.p (.sl ((n.link p q).nodes.map Node.enc)),.p (.i .i64 (n.link p q).cap)],.p (.i .i64 0)]),G):=at_pure (s191 h hp hq hne) rfl rfl
theorem s182 (h:Std pg){n:Net}{r:List AV}{p q:Port}(hp:n.hasT p)(hq:n.has q)(hne:p≠q)(hr:flatAL r=true) :
  E pg 182 [.ptr 0 0,.ag [.p (.i .i64 p.node),.p (.i .i64 p.slot)],.ag [.p (.i .i64 q.node),.p (.i .i64 q.slot)]] [.box (.p (.sl (n.nodes.map Node.enc))::.p (.i .i64 n.cap)::r)]=some (.ret (.tup []),[.box (.p (.sl ((n.link p q).nodes.map Node.enc))::.p (.i .i64 (n.link p q).cap)::r)]):=by
 have hb:=flatAL_below 1 hr
 rw[h.run (x:=c182) rfl (by decide) (by decide) (by decide) (by decide)]
 simp[c182,leave,t191 h hp hq hne,hb]
theorem t182 (h:Std pg){n:Net}{r:List AV}{p q:Port}{Gs:Heap}(hp:n.hasT p)(hq:n.has q)(hne:p≠q)(hr:flatAL r=true) :
  eCA pg (E pg) 182 [.ptr 0 0,.ag [.p (.i .i64 p.node),.p (.i .i64 p.slot)],.ag [.p (.i .i64 q.node),.p (.i .i64 q.slot)]] (.box (.p (.sl (n.nodes.map Node.enc))::.p (.i .i64 n.cap)::r)::Gs)=some (.ret (.tup []),.box (.p (.sl ((n.link p q).nodes.map Node.enc))::.p (.i .i64 (n.link p q).cap)::r)::Gs) :=
 at_box0 (s182 h hp hq hne hr) rfl (by simpa [flatAL,flatA] using hr) (by simpa [flatAL,flatA] using hr) rfl
def ints (l:List Nat):List (List PV):=l.map fun (i:Nat)=>[iv (i:Int)]
theorem l180 (h:Std pg){body:CCode}(hb:body=c180l0){x:Node}{r:List AV}(hk:2≤x.kind)(hx:x.ok=true)(hp:x.ports<2 ^ 30)(hr:flatAL r=true){many:Nat} :
  ∀ (m:Nat) (n:Net) (acc:List Nat),acc≠[]→acc.length+m=many→n.nodes.length+m<2 ^ 30→many<2 ^ 30→n.used+m≤n.cap →
   ∃ G',L pg 1 [0,4,7,8,9] body [(0,.ptr 0 0),(4,.ptr 1 0),(7,.arr 2 acc.length (acc.length-1)),(8,.p (.i .i64 many)),(9,.p (.i .i64 acc.length))] [.box (.p (.sl (n.nodes.map Node.enc))::.p (.i .i64 n.cap)::r),.box [.p (.i .i64 x.kind),.p (.i .i64 x.lev),.p (.i .i64 x.n),.p (.s x.name),.p (.sl (x.alts.map encAr)),.p (.sl (x.to.map Port.enc))],.arr 1 (ints acc) (acc.length-1) 0] =
   some (.exit 0,[(0,.ptr 0 0),(4,.ptr 1 0),(7,.arr 2 many (many-1)),(8,.p (.i .i64 many)),(9,.p (.i .i64 many)),(10,.p (.b false))],.box (.p (.sl ((n.like x m).1.nodes.map Node.enc))::.p (.i .i64 (n.like x m).1.cap)::r)::.box [.p (.i .i64 x.kind),.p (.i .i64 x.lev),.p (.i .i64 x.n),.p (.s x.name),.p (.sl (x.alts.map encAr)),.p (.sl (x.to.map Port.enc))]::.arr 1 (ints (acc++(n.like x m).2)) (many-1) 0::G')
 |0,n,acc,ha,hm,hl,hmm,hu=>by
  have hm':many=acc.length:=by omega
  subst hm'
  rw[k_L hb]
  refine ⟨[],?_⟩
  simp[c180l0,leave,Net.like]
 |m+1,n,acc,ha,hm,hl,hmm,hu=>by
  have he:∀ e,expL true e r=some (r,e):=fun e=>flatAL_exp true e hr
  have hml:=Net.make_len n x
  have hmu:=Net.make_used (n:=n) (x:=x) (by omega)
  have hmc:=Net.make_cap n x
  obtain ⟨G',ih⟩:=l180 h hb hk hx hp hr m (n.make x) (acc++[n.place]) (by simp) (by simp;omega) (by omega) hmm (by omega)
  refine ⟨G',?_⟩
  have hal:0<acc.length:=by cases acc with|nil=>exact absurd rfl ha|cons=>simp
  have e1:acc.length<many:=by omega
  have e2:roomy (acc.length+1) 8=true:=by simp[roomy];omega
  have e3:acc.length-1+1=acc.length:=by omega
  have e5:(ints acc).length=acc.length:=by simp[ints]
  have e4:(ints acc).take acc.length=ints acc:=by rw[← e5];exact List.take_length
  have e6:∀ v,okRows 1 [[.i .i64 v]]=true:=fun _=>rfl
  rw[List.append_assoc]at ih
  simp only[List.length_append,List.length_cons,List.length_nil,Nat.zero_add,Nat.add_sub_cancel,hmc]at ih
  rw[show ((acc.length+1:Nat):Int)=(acc.length:Int)+1 from by omega,show ints (acc++[n.place])=ints acc++[[.i .i64 n.place]] from by simp[ints]]at ih
  rw[k_L hb]
  simp[c180l0,leave,e1,t166 h (by omega:n.nodes.length<2 ^ 30) hk hx hp (by omega) hr,evOp.fillRows,normP,toP,toPL,okRow,evApp,e2,e3,e4,e5,e6,w64 ((acc.length:Int)+1) (by omega) (by omega),gc,gcEnv,exp,expL,eOs,Exp.id,idxOf,List.range,List.range.loop,he,ih,Net.like,hmc]
theorem s180 (h:Std pg){n:Net}{x:Node}{r:List AV}{k:Nat}(hk:2≤x.kind)(hx:x.ok=true)(hp:x.ports<2 ^ 30)(hr:flatAL r=true)(hl:n.nodes.length+k<2 ^ 30)(hkk:k<2 ^ 30)(hu:n.used+k≤n.cap) :
  E pg 180 [.ptr 0 0,.ag [.p (.i .i64 x.kind),.p (.i .i64 x.lev),.p (.i .i64 x.n),.p (.s x.name),.p (.sl (x.alts.map encAr)),.p (.sl (x.to.map Port.enc))],.p (.i .i64 k)] [.box (.p (.sl (n.nodes.map Node.enc))::.p (.i .i64 n.cap)::r)]=some (.ret (.p (.sl (ints (n.like x k).2))),[.box (.p (.sl ((n.like x k).1.nodes.map Node.enc))::.p (.i .i64 (n.like x k).1.cap)::r)]):=by
 have he:∀ e,expL true e r=some (r,e):=fun e=>flatAL_exp true e hr
 have hb:=flatAL_below 1 hr
 obtain ⟨body,hbd⟩:∃ body,body=c180l0:=⟨_,rfl⟩
 rw[h.run (x:=c180) rfl (by decide) (by decide) (by decide) (by decide)]
 cases k with
 |zero =>
  have h1:L pg 1 [0,4,7,8,9] body [(0,.ptr 0 0),(4,.ptr 1 0),(7,.nils),(8,.p (.i .i64 0)),(9,.p (.i .i64 0))] [.box (.p (.sl (n.nodes.map Node.enc))::.p (.i .i64 n.cap)::r),.box [.p (.i .i64 x.kind),.p (.i .i64 x.lev),.p (.i .i64 x.n),.p (.s x.name),.p (.sl (x.alts.map encAr)),.p (.sl (x.to.map Port.enc))]] =
    some (.exit 0,[(0,.ptr 0 0),(4,.ptr 1 0),(7,.nils),(8,.p (.i .i64 0)),(9,.p (.i .i64 0)),(10,.p (.b false))],[.box (.p (.sl (n.nodes.map Node.enc))::.p (.i .i64 n.cap)::r),.box [.p (.i .i64 x.kind),.p (.i .i64 x.lev),.p (.i .i64 x.n),.p (.s x.name),.p (.sl (x.alts.map encAr)),.p (.sl (x.to.map Port.enc))]]):=by
   rw[k_L hbd]
   simp[c180l0,leave]
  simp[c180,← hbd,leave,gc,gcEnv,exp,expL,eOs,Exp.id,idxOf,List.range,List.range.loop,he,h1,hb,Net.like,ints]
 |succ m =>
  have hml:=Net.make_len n x
  have hmu:=Net.make_used (n:=n) (x:=x) (by omega)
  have hmc:=Net.make_cap n x
  obtain ⟨G',ih⟩:=l180 h hbd hk hx hp hr (many:=m+1) m (n.make x) [n.place] (by simp) (by simp;omega) (by omega) hkk (by omega)
  have e1:(0:Int)<(m:Int)+1:=by omega
  have e6:∀ v,okRows 1 [[.i .i64 v]]=true:=fun _=>rfl
  have e2:roomy 1 8=true:=rfl
  have e7:(ints (n.place::((n.make x).like x m).2)).length=m+1:=by
   have:∀ (m:Nat) (n:Net),(n.like x m).2.length=m:=by
    intro m
    induction m with
    |zero=>intro n;rfl
    |succ m ih=>intro n;simp[Net.like,ih]
   simp[ints,this]
  have e8:(ints (n.place::((n.make x).like x m).2)).take (m+1)=ints (n.place::((n.make x).like x m).2):=by rw[← e7];exact List.take_length
  have e9:m+1≤(ints (n.place::((n.make x).like x m).2)).length:=by omega
  simp only[List.length_cons,List.length_nil,Nat.zero_add,Nat.sub_self,hmc,List.singleton_append,Nat.add_sub_cancel]at ih
  rw[show ints [n.place]=[[.i .i64 n.place]] from rfl,show ((m+1:Nat):Int)=(m:Int)+1 from by omega,show ((1:Nat):Int)=1 from rfl]at ih
  have h1:L pg 1 [0,4,7,8,9] body [(0,.ptr 0 0),(4,.ptr 1 0),(7,.nils),(8,.p (.i .i64 ((m:Int)+1))),(9,.p (.i .i64 0))] [.box (.p (.sl (n.nodes.map Node.enc))::.p (.i .i64 n.cap)::r),.box [.p (.i .i64 x.kind),.p (.i .i64 x.lev),.p (.i .i64 x.n),.p (.s x.name),.p (.sl (x.alts.map encAr)),.p (.sl (x.to.map Port.enc))]] =
    some (.exit 0,[(0,.ptr 0 0),(4,.ptr 1 0),(7,.arr 2 (m+1) m),(8,.p (.i .i64 ((m:Int)+1))),(9,.p (.i .i64 ((m:Int)+1))),(10,.p (.b false))],.box (.p (.sl (((n.make x).like x m).1.nodes.map Node.enc))::.p (.i .i64 ((n.make x).like x m).1.cap)::r)::.box [.p (.i .i64 x.kind),.p (.i .i64 x.lev),.p (.i .i64 x.n),.p (.s x.name),.p (.sl (x.alts.map encAr)),.p (.sl (x.to.map Port.enc))]::.arr 1 (ints (n.place::((n.make x).like x m).2)) m 0::G'):=by
   rw[k_L hbd]
   simp[c180l0,leave,e1,t166 h (by omega:n.nodes.length<2 ^ 30) hk hx hp (by omega) hr,evOp.fillRows,normP,toP,toPL,okRow,evApp,e2,e6,w64 1 (by omega) (by omega),gc,gcEnv,exp,expL,eOs,Exp.id,idxOf,List.range,List.range.loop,he,ih,hmc]
  simp[c180,← hbd,leave,gc,gcEnv,exp,expL,eOs,Exp.id,idxOf,List.range,List.range.loop,he,h1,hb,Net.like,e8,e9]
theorem t180 (h:Std pg){n:Net}{x:Node}{r:List AV}{k:Nat}{K:Int}{Gs:Heap}(hK:K=k)(hk:2≤x.kind)(hx:x.ok=true)(hp:x.ports<2 ^ 30)(hr:flatAL r=true)(hl:n.nodes.length+k<2 ^ 30)(hkk:k<2 ^ 30)(hu:n.used+k≤n.cap) :
  eCA pg (E pg) 180 [.ptr 0 0,.ag [.p (.i .i64 x.kind),.p (.i .i64 x.lev),.p (.i .i64 x.n),.p (.s x.name),.p (.sl (x.alts.map encAr)),.p (.sl (x.to.map Port.enc))],.p (.i .i64 K)] (.box (.p (.sl (n.nodes.map Node.enc))::.p (.i .i64 n.cap)::r)::Gs)=some (.ret (.p (.sl (ints (n.like x k).2))),.box (.p (.sl ((n.like x k).1.nodes.map Node.enc))::.p (.i .i64 (n.like x k).1.cap)::r)::Gs):=by
 subst hK
 exact at_box0 (s180 h hk hx hp hr hl hkk hu) rfl (by simpa [flatAL,flatA] using hr) (by simpa [flatAL,flatA] using hr) rfl
theorem at_box0k {call:CallF}{f:Nat}{c c' args:List AV}{out:Out}{Gs os:Heap}(hcall:call f (.ptr 0 0::args) [.box c]=some (out,.box c'::os))(ha:flatAL args=true)(hc:flatAL c=true)(hc':flatAL c'=true) :
  eCA pg call f (.ptr 0 0::args) (.box c::Gs)=some (out.back [0] (Gs.length+1),.box c'::Gs++os.map (backObj [0] (Gs.length+1))):=by
 unfold eCA
 simp only[expL,exp,Exp.id,idxOf,List.nil_append,List.length_nil]
 rw[flatAL_exp _ _ ha]
 dsimp only
 have e2:eOs ((AObj.box c::Gs).length+1) ⟨[0],.box c::Gs⟩ 0=some ([.box c],⟨[0],.box c::Gs⟩):=by
  simp only[List.length_cons,eOs,List.getElem?_cons_zero,flatAL_exp true _ hc,Nat.zero_add,List.getElem?_cons_succ,List.getElem?_nil]
 rw[e2]
 dsimp only
 rw[hcall]
 simp[setAll,backObj,flatAL_back _ _ hc']
def psF (i k m:Nat):List Port:=(List.range' k m).map fun j=>⟨i,j⟩
theorem portsFrom_snoc (i k m:Nat):psF i k (m+1)=psF i k m++[⟨i,k+m⟩]:=by
 unfold psF
 rw[List.range'_concat]
 simp
theorem portsFrom_len (i k m:Nat):(psF i k m).length=m:=by simp[psF]
theorem l170 (h:Std pg){body:CCode}(hb:body=c170l0){n:Net}{x:Node}{r:List AV}{i k0:Nat}(hx:n.nodes[i]?=some x)(hr:flatAL r=true)(hxl:x.to.length<2 ^ 30) :
  ∀ (m j:Nat),0<j→k0+j+m=x.to.length →
   L pg 1 [0,1,7,8] body [(0,.ptr 0 0),(1,.p (.i .i64 i)),(7,.arr 1 j (j-1)),(8,.p (.i .i64 (k0+j:Nat)))] [.box (.p (.sl (n.nodes.map Node.enc))::.p (.i .i64 n.cap)::r),.arr 2 ((psF i k0 j).map Port.enc) (j-1) 0] =
   some (.exit 0,[(0,.ptr 0 0),(1,.p (.i .i64 i)),(7,.arr 1 (j+m) (j+m-1)),(8,.p (.i .i64 x.to.length)),(16,.p (.b false))],[.box (.p (.sl (n.nodes.map Node.enc))::.p (.i .i64 n.cap)::r),.arr 2 ((psF i k0 (j+m)).map Port.enc) (j+m-1) 0])
 |0,j,hj,hm=>by
  rw[k_L hb]
  have e1:¬ k0+j<x.to.length:=by omega
  have e2:¬ ((k0:Int)+j<x.to.length):=by omega
  simp[c170l0,leave,t179 h hx hr,e1,e2]
  omega
 |m+1,j,hj,hm=>by
  have he:∀ e,expL true e r=some (r,e):=fun e=>flatAL_exp true e hr
  have ih:=l170 (k0:=k0) h hb hx hr hxl m (j+1) (by omega) (by omega)
  have e1:k0+j<x.to.length:=by omega
  have e1':((k0:Int)+j<x.to.length):=by omega
  have e2:roomy (j+1) 16=true:=by simp[roomy];omega
  have e3:j-1+1=j:=by omega
  have e5:((psF i k0 j).map Port.enc).length=j:=by simp[portsFrom_len]
  have e4:((psF i k0 j).map Port.enc).take j=(psF i k0 j).map Port.enc:=by
   conv=>lhs;arg 1;rw[← e5]
   exact List.take_length
  have e6:∀ u v,okRows 2 [[.i .i64 u,.i .i64 v]]=true:=fun _ _=>rfl
  have e7:(psF i k0 j).length=j:=portsFrom_len _ _ _
  rw[portsFrom_snoc,show j+1+m=j+(m+1) from by omega]at ih
  simp only[List.map_append,List.map_cons,List.map_nil,Nat.add_sub_cancel,Port.enc]at ih
  rw[show ((k0+(j+1):Nat):Int)=(k0:Int)+j+1 from by omega,show ((k0+j:Nat):Int)=(k0:Int)+j from by omega]at ih
  rw[k_L hb]
  simp[c170l0,leave,t179 h hx hr,t152 h,e1,e1',evOp.fillRows,normP,toP,toPL,okRow,evApp,e2,e3,e4,e5,e6,e7,w64 ((k0:Int)+j+1) (by omega) (by omega),gc,gcEnv,exp,expL,eOs,Exp.id,idxOf,List.range,List.range.loop,he,ih]
theorem s170n (h:Std pg){n:Net}{x:Node}{r:List AV}{i k0:Nat}{K:Int}(hK:K=k0)(hx:n.nodes[i]?=some x)(hr:flatAL r=true)(hxl:x.to.length<2 ^ 30)(hm:x.to.length≤k0)(hk:k0<2 ^ 30) :
  E pg 170 [.ptr 0 0,.p (.i .i64 i),.p (.i .i64 K)] [.box (.p (.sl (n.nodes.map Node.enc))::.p (.i .i64 n.cap)::r)]=some (.ret .nils,[.box (.p (.sl (n.nodes.map Node.enc))::.p (.i .i64 n.cap)::r)]):=by
 subst hK
 have he:∀ e,expL true e r=some (r,e):=fun e=>flatAL_exp true e hr
 have e1:¬ k0<x.to.length:=by omega
 have e1':¬ ((k0:Int)<x.to.length):=by omega
 obtain ⟨body,hbd⟩:∃ body,body=c170l0:=⟨_,rfl⟩
 have h1:L pg 1 [0,1,7,8] body [(0,.ptr 0 0),(1,.p (.i .i64 i)),(7,.nils),(8,.p (.i .i64 k0))] [.box (.p (.sl (n.nodes.map Node.enc))::.p (.i .i64 n.cap)::r)] =
   some (.exit 0,[(0,.ptr 0 0),(1,.p (.i .i64 i)),(7,.nils),(8,.p (.i .i64 k0)),(16,.p (.b false))],[.box (.p (.sl (n.nodes.map Node.enc))::.p (.i .i64 n.cap)::r)]):=by
  rw[k_L hbd]
  simp[c170l0,leave,t179 h hx hr,e1,e1']
 rw[h.run (x:=c170) rfl (by decide) (by decide) (by decide) (by decide)]
 simp[c170,← hbd,leave,gc,gcEnv,exp,expL,eOs,Exp.id,idxOf,List.range,List.range.loop,he,h1]
theorem s170 (h:Std pg){n:Net}{x:Node}{r:List AV}{i k0 m:Nat}{K:Int}(hK:K=k0)(hx:n.nodes[i]?=some x)(hr:flatAL r=true)(hxl:x.to.length<2 ^ 30)(hm:k0+(m+1)=x.to.length) :
  E pg 170 [.ptr 0 0,.p (.i .i64 i),.p (.i .i64 K)] [.box (.p (.sl (n.nodes.map Node.enc))::.p (.i .i64 n.cap)::r)]=some (.ret (.arr 1 (m+1) m),[.box (.p (.sl (n.nodes.map Node.enc))::.p (.i .i64 n.cap)::r),.arr 2 ((psF i k0 (m+1)).map Port.enc) m 0]):=by
 subst hK
 have he:∀ e,expL true e r=some (r,e):=fun e=>flatAL_exp true e hr
 have e1:k0<x.to.length:=by omega
 have e1':((k0:Int)<x.to.length):=by omega
 have e2:roomy 1 16=true:=rfl
 have e6:∀ u v,okRows 2 [[.i .i64 u,.i .i64 v]]=true:=fun _ _=>rfl
 obtain ⟨body,hbd⟩:∃ body,body=c170l0:=⟨_,rfl⟩
 have ih:=l170 (k0:=k0) h hbd hx hr hxl m 1 (by omega) (by omega)
 rw[show ((k0+1:Nat):Int)=(k0:Int)+1 from by omega,show psF i k0 1=[⟨i,k0⟩] from rfl,show 1+m=m+1 from by omega]at ih
 simp only[List.map_cons,List.map_nil,Port.enc,Nat.sub_self,Nat.add_sub_cancel]at ih
 have h1:L pg 1 [0,1,7,8] body [(0,.ptr 0 0),(1,.p (.i .i64 i)),(7,.nils),(8,.p (.i .i64 k0))] [.box (.p (.sl (n.nodes.map Node.enc))::.p (.i .i64 n.cap)::r)] =
   some (.exit 0,[(0,.ptr 0 0),(1,.p (.i .i64 i)),(7,.arr 1 (m+1) m),(8,.p (.i .i64 x.to.length)),(16,.p (.b false))],[.box (.p (.sl (n.nodes.map Node.enc))::.p (.i .i64 n.cap)::r),.arr 2 ((psF i k0 (m+1)).map Port.enc) m 0]):=by
  rw[k_L hbd]
  simp[c170l0,leave,t179 h hx hr,t152 h,e1,e1',evOp.fillRows,normP,toP,toPL,okRow,evApp,e2,e6,w64 ((k0:Int)+1) (by omega) (by omega),gc,gcEnv,exp,expL,eOs,Exp.id,idxOf,List.range,List.range.loop,he,ih]
 rw[h.run (x:=c170) rfl (by decide) (by decide) (by decide) (by decide)]
 simp[c170,← hbd,leave,gc,gcEnv,exp,expL,eOs,Exp.id,idxOf,List.range,List.range.loop,he,h1]
theorem t170n (h:Std pg){n:Net}{x:Node}{r:List AV}{i k0:Nat}{K:Int}{Gs:Heap}(hK:K=k0)(hx:n.nodes[i]?=some x)(hr:flatAL r=true)(hxl:x.to.length<2 ^ 30)(hm:x.to.length≤k0)(hk:k0<2 ^ 30) :
  eCA pg (E pg) 170 [.ptr 0 0,.p (.i .i64 i),.p (.i .i64 K)] (.box (.p (.sl (n.nodes.map Node.enc))::.p (.i .i64 n.cap)::r)::Gs)=some (.ret .nils,.box (.p (.sl (n.nodes.map Node.enc))::.p (.i .i64 n.cap)::r)::Gs):=by
 rw[at_box0k (s170n h hK hx hr hxl hm hk) rfl (by simpa [flatAL,flatA] using hr) (by simpa [flatAL,flatA] using hr)]
 simp[Out.back,back]
theorem t170 (h:Std pg){n:Net}{x:Node}{r:List AV}{i k0 m:Nat}{K:Int}{Gs:Heap}(hK:K=k0)(hx:n.nodes[i]?=some x)(hr:flatAL r=true)(hxl:x.to.length<2 ^ 30)(hm:k0+(m+1)=x.to.length) :
  eCA pg (E pg) 170 [.ptr 0 0,.p (.i .i64 i),.p (.i .i64 K)] (.box (.p (.sl (n.nodes.map Node.enc))::.p (.i .i64 n.cap)::r)::Gs)=some (.ret (.arr (Gs.length+1) (m+1) m),.box (.p (.sl (n.nodes.map Node.enc))::.p (.i .i64 n.cap)::r)::Gs++[.arr 2 ((psF i k0 (m+1)).map Port.enc) m 0]):=by
 rw[at_box0k (s170 h hK hx hr hxl hm) rfl (by simpa [flatAL,flatA] using hr) (by simpa [flatAL,flatA] using hr)]
 simp[Out.back,back,backId,backObj]
theorem at_norm {call:CallF}{f:Nat}{args args':List AV}(h:∀ e,expL (keepA pg f) e args=expL (keepA pg f) e args'):eCA pg call f args G=eCA pg call f args' G:=by
 unfold eCA
 rw[h]
theorem t180n (h:Std pg){n:Net}{lev kind:Nat}{K:Int}{r:List AV}{k:Nat}{Gs:Heap}{M:Int}(hM:M=k)(hK:K=kind)(hk:2≤kind)(hx:(Node.mk kind lev 0 [] [] []).ok=true)(hp:(Node.mk kind lev 0 [] [] []).ports<2 ^ 30)(hr:flatAL r=true)(hl:n.nodes.length+k<2 ^ 30)(hkk:k<2 ^ 30)(hu:n.used+k≤n.cap) :
  eCA pg (E pg) 180 [.ptr 0 0,.ag [.p (.i .i64 K),.p (.i .i64 lev),.p (.i .i64 0),.p (.s []),.nils,.nils],.p (.i .i64 M)] (.box (.p (.sl (n.nodes.map Node.enc))::.p (.i .i64 n.cap)::r)::Gs)=some (.ret (.p (.sl (ints (n.like ⟨kind,lev,0,[],[],[]⟩ k).2))),.box (.p (.sl ((n.like ⟨kind,lev,0,[],[],[]⟩ k).1.nodes.map Node.enc))::.p (.i .i64 (n.like ⟨kind,lev,0,[],[],[]⟩ k).1.cap)::r)::Gs):=by
 subst hM;subst hK
 rw[← t180 (K:=k) h rfl hk hx hp hr hl hkk hu]
 refine at_norm fun e=>?_
 simp[(show keepA pg 180=false from h.keep (x:=c180) rfl),exp,expL,Exp.id]
theorem s169 (h:Std pg){n:Net}{x:Node}{r:List AV}{i:Nat}{l:List Port}(hx:n.nodes[i]?=some x)(hr:flatAL r=true)(h10:r[10]?=some (.p (.i .i64 i)))(hlev:x.lev≤60)(hl:n.nodes.length+l.length<2 ^ 30)(hu:n.used+l.length≤n.cap) :
  E pg 169 [.ptr 0 0,.p (.sl (l.map Port.enc))] [.box (.p (.sl (n.nodes.map Node.enc))::.p (.i .i64 n.cap)::r)]=some (.ret (.fn 185 [] [.ptr 2 0,.ptr 1 0,.ptr 3 0]),[.box (.p (.sl ((n.like (dropNode x.lev) l.length).1.nodes.map Node.enc))::.p (.i .i64 (n.like (dropNode x.lev) l.length).1.cap)::r),.box [.ptr 0 0],.box [.p (.sl (l.map Port.enc))],.box [.p (.sl (ints (n.like (dropNode x.lev) l.length).2))]]):=by
 obtain ⟨d1,d2⟩:=dropNode_ok hlev
 have e1:=fun Gs=>t180n (Gs:=Gs) (kind:=7) (K:=7) (lev:=x.lev) (k:=l.length) h rfl rfl (by omega) d1 (by rw[show (Node.mk 7 x.lev 0 [] [] []).ports=1 from d2];omega) hr hl (by omega) hu
 rw[h.run (x:=c169) rfl (by decide) (by decide) (by decide) (by decide)]
 simp[c169,leave,t181 h hx hr h10,e1,h.ro,show roFn pg0 181=true from rfl,dropNode]
theorem t165k (h:Std pg){n:Net}{r:List AV}{p q:Port}{a b c:AObj}{Gs:Heap}(hp:n.hasT p)(hq:n.has q)(hpr:n.has (n.pr p))(hne:p≠q)(hr:flatAL r=true) :
  eCA pg (E pg) 165 [.ptr 3 0,.ag [.p (.i .i64 p.node),.p (.i .i64 p.slot)],.ag [.p (.i .i64 q.node),.p (.i .i64 q.slot)]] (a::b::c::.box (.p (.sl (n.nodes.map Node.enc))::.p (.i .i64 n.cap)::r)::Gs)=some (.ret (.tup []),a::b::c::.box (.p (.sl ((n.move p q).nodes.map Node.enc))::.p (.i .i64 (n.move p q).cap)::r)::Gs):=by
 rw[at_box (k:=3) (s165 h hp hq hpr hne hr) rfl rfl (by simpa [flatAL,flatA] using hr) (by simpa [flatAL,flatA] using hr) rfl]
 rfl
theorem l185 (h:Std pg){body:CCode}(hb:body=c185l0){r:List AV}(hr:flatAL r=true){l:List Port}{ds:List Nat}(hll:l.length<2 ^ 30)(hds:ds.length=l.length) :
  ∀ (m j:Nat) (n:Net),j+m=l.length→MovesOK n ((l.zip (ds.map fun d=>(⟨d,0⟩:Port))).drop j) →
   L pg 4 [1,2,5,6,7] body [(1,.ptr 1 0),(2,.ptr 2 0),(5,.p (.sl (l.map Port.enc))),(6,.p (.i .i64 l.length)),(7,.p (.i .i64 j))] [.box [.p (.sl (l.map Port.enc))],.box [.ptr 3 0],.box [.p (.sl (ints ds))],.box (.p (.sl (n.nodes.map Node.enc))::.p (.i .i64 n.cap)::r)] =
   some (.exit 0,[(1,.ptr 1 0),(2,.ptr 2 0),(5,.p (.sl (l.map Port.enc))),(6,.p (.i .i64 l.length)),(7,.p (.i .i64 l.length)),(8,.p (.b false))],[.box [.p (.sl (l.map Port.enc))],.box [.ptr 3 0],.box [.p (.sl (ints ds))],.box (.p (.sl ((n.moves ((l.zip (ds.map fun d=>(⟨d,0⟩:Port))).drop j)).nodes.map Node.enc))::.p (.i .i64 (n.moves ((l.zip (ds.map fun d=>(⟨d,0⟩:Port))).drop j)).cap)::r)])
 |0,j,n,hm,hok=>by
  have:j=l.length:=by omega
  subst this
  have e:(l.zip (ds.map fun d=>(⟨d,0⟩:Port))).drop l.length=[]:=List.drop_eq_nil_of_le (by simp;omega)
  rw[k_L hb,e]
  simp[c185l0,leave,Net.moves]
 |m+1,j,n,hm,hok=>by
  have he:∀ e,expL true e r=some (r,e):=fun e=>flatAL_exp true e hr
  have hlt:j<l.length:=by omega
  have hlt':j<ds.length:=by omega
  have hz:(l.zip (ds.map fun d=>(⟨d,0⟩:Port))).drop j=(l[j],⟨ds[j],0⟩)::(l.zip (ds.map fun d=>(⟨d,0⟩:Port))).drop (j+1):=by
   rw[List.drop_eq_getElem_cons (by simp;omega)]
   simp
  rw[hz]at hok
  obtain ⟨⟨a1,a2,a3,a4⟩,hok'⟩:=hok
  have ih:=l185 h hb hr hll hds m (j+1) (n.move l[j] ⟨ds[j],0⟩) (by omega) hok'
  rw[show ((j+1:Nat):Int)=(j:Int)+1 from by omega]at ih
  have e1:=fun Gs a b c=>t165k (Gs:=Gs) (a:=a) (b:=b) (c:=c) (q:=⟨ds[j],0⟩) h a1 a2 a3 a4 hr
  simp only[show ((0:Nat):Int)=0 from rfl]at e1
  have e2:(ints ds)[j]?=some [.i .i64 ds[j]]:=by simp[ints,hlt']
  have e3:(Net.move n l[j] ⟨ds[j],0⟩).cap=n.cap:=Net.move_cap
  have e4:=(show keepA pg 152=false from h.keep (x:=c152) rfl)
  rw[e3]at ih
  rw[k_L hb,hz]
  simp[c185l0,leave,hlt,hlt',okRow,Port.enc,t152 h,e1,e2,e3,e4,w64 ((j:Int)+1) (by omega) (by omega),gc,gcEnv,exp,expL,eOs,Exp.id,idxOf,List.range,List.range.loop,he,ih,Net.moves]
theorem s185 (h:Std pg){n:Net}{r:List AV}(hr:flatAL r=true){l:List Port}{ds:List Nat}(hll:l.length<2 ^ 30)(hds:ds.length=l.length)(hok:MovesOK n (l.zip (ds.map fun d=>(⟨d,0⟩:Port)))) :
  E pg 185 [.ptr 0 0,.ptr 1 0,.ptr 2 0] [.box [.p (.sl (l.map Port.enc))],.box [.ptr 3 0],.box [.p (.sl (ints ds))],.box (.p (.sl (n.nodes.map Node.enc))::.p (.i .i64 n.cap)::r)] =
   some (.ret (.tup []),[.box [.p (.sl (l.map Port.enc))],.box [.ptr 3 0],.box [.p (.sl (ints ds))],.box (.p (.sl ((n.moves (l.zip (ds.map fun d=>(⟨d,0⟩:Port)))).nodes.map Node.enc))::.p (.i .i64 (n.moves (l.zip (ds.map fun d=>(⟨d,0⟩:Port)))).cap)::r)]):=by
 have he:∀ e,expL true e r=some (r,e):=fun e=>flatAL_exp true e hr
 have hb:=flatAL_below 4 hr
 have hL:=l185 h rfl hr hll hds l.length 0 n (by omega) (by simpa using hok)
 rw[show ((0:Nat):Int)=0 from rfl,List.drop_zero]at hL
 rw[h.run (x:=c185) rfl (by decide) (by decide) (by decide) (by decide)]
 simp[c185,leave,gc,gcEnv,exp,expL,eOs,Exp.id,idxOf,List.range,List.range.loop,he,hL,hb]
theorem portsFrom_at (i k m j:Nat)(h:j<m):(psF i k m)[j]'(by rw[portsFrom_len];exact h)=⟨i,k+j⟩:=by
 simp[psF]
theorem zip_drop (a b k k' m j:Nat)(h:j<m):((psF a k m).zip (psF b k' m)).drop j=(⟨a,k+j⟩,⟨b,k'+j⟩)::((psF a k m).zip (psF b k' m)).drop (j+1):=by
 rw[List.drop_eq_getElem_cons (by simp[portsFrom_len];exact h)]
 simp[psF]
theorem l162 (h:Std pg){body:CCode}(hb:body=c162l0){r:List AV}{a b m0:Nat}(hr:flatAL r=true)(h10:r[10]?=some (.p (.i .i64 a)))(h11:r[11]?=some (.p (.i .i64 b)))(hm0:m0<2 ^ 30) :
  ∀ (m j:Nat) (n:Net),j+m=m0→JoinsOK n (((psF a 1 m0).zip (psF b 1 m0)).drop j) →
   L pg 1 [0,9,10] body [(0,.ptr 0 0),(9,.p (.i .i64 m0)),(10,.p (.i .i64 j))] [.box (.p (.sl (n.nodes.map Node.enc))::.p (.i .i64 n.cap)::r)] =
   some (.exit 0,[(0,.ptr 0 0),(9,.p (.i .i64 m0)),(10,.p (.i .i64 m0)),(11,.p (.b false))],[.box (.p (.sl ((n.joins (((psF a 1 m0).zip (psF b 1 m0)).drop j)).nodes.map Node.enc))::.p (.i .i64 (n.joins (((psF a 1 m0).zip (psF b 1 m0)).drop j)).cap)::r)])
 |0,j,n,hm,hok=>by
  have:j=m0:=by omega
  subst this
  have e:((psF a 1 j).zip (psF b 1 j)).drop j=[]:=List.drop_eq_nil_of_le (by simp[portsFrom_len])
  rw[k_L hb,e]
  simp[c162l0,leave,Net.joins]
 |m+1,j,n,hm,hok=>by
  have he:∀ e,expL true e r=some (r,e):=fun e=>flatAL_exp true e hr
  have hlt:j<m0:=by omega
  have hz:=zip_drop a b 1 1 m0 j hlt
  rw[hz]at hok
  obtain ⟨⟨a1,a2,a3,a4,a5,a6⟩,hok'⟩:=hok
  have ih:=l162 h hb hr h10 h11 hm0 m (j+1) _ (by omega) hok'
  have e1:=fun Gs=>t178 (Gs:=Gs) h a1 a2 a3 a4 a5 a6 hr
  simp only[show ((1+j:Nat):Int)=(j:Int)+1 from by omega]at e1
  rw[show ((j+1:Nat):Int)=(j:Int)+1 from by omega]at ih
  rw[k_L hb,hz]
  simp[c162l0,leave,hlt,h10,h11,t152 h,(show keepA pg 152=false from h.keep (x:=c152) rfl),e1,w64 ((j:Int)+1) (by omega) (by omega),gc,gcEnv,exp,expL,eOs,Exp.id,idxOf,List.range,List.range.loop,he,ih,Net.joins]
theorem s162 (h:Std pg){n:Net}{x:Node}{r:List AV}{a b:Nat}(hx:n.nodes[a]?=some x)(hr:flatAL r=true)(h10:r[10]?=some (.p (.i .i64 a)))(h11:r[11]?=some (.p (.i .i64 b)))(hxl:x.to.length<2 ^ 30)
  (hok:JoinsOK n ((psF a 1 (x.to.length-1)).zip (psF b 1 (x.to.length-1)))) :
  E pg 162 [.ptr 0 0] [.box (.p (.sl (n.nodes.map Node.enc))::.p (.i .i64 n.cap)::r)]=some (.ret (.tup []),[.box (.p (.sl ((n.joins ((psF a 1 (x.to.length-1)).zip (psF b 1 (x.to.length-1)))).nodes.map Node.enc))::.p (.i .i64 (n.joins ((psF a 1 (x.to.length-1)).zip (psF b 1 (x.to.length-1)))).cap)::r)]):=by
 have he:∀ e,expL true e r=some (r,e):=fun e=>flatAL_exp true e hr
 have hb:=flatAL_below 1 hr
 have hL:=l162 (m0:=x.to.length-1) h rfl hr h10 h11 (by omega) (x.to.length-1) 0 n (by omega) (by simpa using hok)
 rw[show ((0:Nat):Int)=0 from rfl,List.drop_zero]at hL
 rw[h.run (x:=c162) rfl (by decide) (by decide) (by decide) (by decide)]
 cases hm:x.to.length-1 with
 |zero =>
  rw[hm]at hL
  simp only[show ((0:Nat):Int)=0 from rfl]at hL
  have e1:=fun Gs=>t170n (Gs:=Gs) (k0:=1) (K:=1) h rfl hx hr hxl (by omega) (by omega)
  simp[c162,leave,h10,e1,gc,gcEnv,exp,expL,eOs,Exp.id,idxOf,List.range,List.range.loop,he,hL,hb]
 |succ m =>
  rw[hm]at hL
  have e1:=fun Gs=>t170 (Gs:=Gs) (k0:=1) (m:=m) (K:=1) h rfl hx hr hxl (by omega)
  rw[show ((m+1:Nat):Int)=(m:Int)+1 from by omega]at hL
  simp[c162,leave,h10,e1,gc,gcEnv,exp,expL,eOs,Exp.id,idxOf,List.range,List.range.loop,he,hL,hb]
theorem t166n (h:Std pg){n:Net}{lev kind:Nat}{K v:Int}{name:List UInt8}{r:List AV}{Gs:Heap}(hK:K=kind)(hl:n.nodes.length<2 ^ 30)(hk:2≤kind)(hx:(Node.mk kind lev v name [] []).ok=true)(hp:(Node.mk kind lev v name [] []).ports<2 ^ 30)(hu:n.used<n.cap)(hr:flatAL r=true) :
  eCA pg (E pg) 166 [.ptr 0 0,.ag [.p (.i .i64 K),.p (.i .i64 lev),.p (.i .i64 v),.p (.s name),.nils,.nils]] (.box (.p (.sl (n.nodes.map Node.enc))::.p (.i .i64 n.cap)::r)::Gs)=some (.ret (.p (.i .i64 n.place)),.box (.p (.sl ((n.make (Node.mk kind lev v name [] [])).nodes.map Node.enc))::.p (.i .i64 (n.make (Node.mk kind lev v name [] [])).cap)::r)::Gs):=by
 subst hK
 rw[← t166 h hl hk hx hp hu hr]
 refine at_norm fun e=>?_
 simp[(show keepA pg 166=false from h.keep (x:=c166) rfl),exp,expL,Exp.id]
def halfNode (x y:Node):Node:=⟨12,x.lev,y.n,x.name,[],[]⟩
def Net.half (n:Net)(a b:Nat)(x y:Node):Net:=((n.make (halfNode x y)).move ⟨a,2⟩ ⟨n.place,0⟩).move ⟨a,1⟩ ⟨n.place,1⟩
theorem s164 (h:Std pg){n:Net}{x y:Node}{r:List AV}{a b:Nat}(hx:n.nodes[a]?=some x)(hy:n.nodes[b]?=some y)(hr:flatAL r=true)(h10:r[10]?=some (.p (.i .i64 a)))(h11:r[11]?=some (.p (.i .i64 b)))
  (hl:n.nodes.length<2 ^ 30) (hok:(halfNode x y).ok=true) (hu:n.used<n.cap)
  (hmv:MovesOK (n.make (halfNode x y)) [(⟨a,2⟩,⟨n.place,0⟩),(⟨a,1⟩,⟨n.place,1⟩)]) :
  E pg 164 [.ptr 0 0] [.box (.p (.sl (n.nodes.map Node.enc))::.p (.i .i64 n.cap)::r)]=some (.ret (.tup []),[.box (.p (.sl ((n.half a b x y).nodes.map Node.enc))::.p (.i .i64 (n.half a b x y).cap)::r)]):=by
 have hb:=flatAL_below 1 hr
 obtain ⟨⟨a1,a2,a3,a4⟩,⟨b1,b2,b3,b4⟩,_⟩:=hmv
 have e1:=fun Gs=>t166n (Gs:=Gs) (kind:=12) (K:=12) (lev:=x.lev) (v:=y.n) (name:=x.name) h rfl hl (by omega) hok (by rw[show (Node.mk 12 x.lev y.n x.name [] []).ports=2 from rfl];omega) hu hr
 have e2:=fun Gs=>t165 (Gs:=Gs) h a1 a2 a3 a4 hr
 have e3:=fun Gs=>t165 (Gs:=Gs) h b1 b2 b3 b4 hr
 simp only[show ((0:Nat):Int)=0 from rfl,show ((1:Nat):Int)=1 from rfl,show ((2:Nat):Int)=2 from rfl,halfNode]at e1 e2 e3
 rw[h.run (x:=c164) rfl (by decide) (by decide) (by decide) (by decide)]
 simp[c164,leave,h10,h11,t179 h hx hr,t179 h hy hr,(show keepA pg 179=false from h.keep (x:=c179) rfl),h.ro,show roFn pg0 179=true from rfl,e1,e2,e3,t152 h,hb,Net.half,halfNode]
theorem t169 (h:Std pg){n:Net}{x:Node}{r:List AV}{i:Nat}{l:List Port}{Gs:Heap}(hx:n.nodes[i]?=some x)(hr:flatAL r=true)(h10:r[10]?=some (.p (.i .i64 i)))(hlev:x.lev≤60)(hl:n.nodes.length+l.length<2 ^ 30)(hu:n.used+l.length≤n.cap) :
  eCA pg (E pg) 169 [.ptr 0 0,.p (.sl (l.map Port.enc))] (.box (.p (.sl (n.nodes.map Node.enc))::.p (.i .i64 n.cap)::r)::Gs)=some (.ret (.fn 185 [] [.ptr (Gs.length+2) 0,.ptr (Gs.length+1) 0,.ptr (Gs.length+3) 0]),.box (.p (.sl ((n.like (dropNode x.lev) l.length).1.nodes.map Node.enc))::.p (.i .i64 (n.like (dropNode x.lev) l.length).1.cap)::r)::Gs++[.box [.ptr 0 0],.box [.p (.sl (l.map Port.enc))],.box [.p (.sl (ints (n.like (dropNode x.lev) l.length).2))]]):=by
 rw[at_box0k (s169 h hx hr h10 hlev hl hu) rfl (by simpa [flatAL,flatA] using hr) (by simpa [flatAL,flatA] using hr)]
 simp[Out.back,back,backL,backId,backObj]
theorem at_arr {call:CallF}{f id len gen:Nat}{sz:Nat}{rows:List (List PV)}{sl:Nat}{c:List AV}{Gs:Heap}(hk:keepA pg f=false)(hG:Gs[id]?=some (.arr sz rows gen sl))(hl:len≤rows.length) :
  eCA pg call f [.ptr 0 0,.arr (id+1) len gen] (.box c::Gs)=eCA pg call f [.ptr 0 0,.p (.sl (rows.take len))] (.box c::Gs.set id (.arr sz rows gen (Nat.max sl len))):=by
 unfold eCA
 rw[hk]
 simp[expL,exp,Exp.id,idxOf,norm,hG,hl]
theorem at_nils {call:CallF}{f:Nat}{Gs:Heap}(hk:keepA pg f=false) :
  eCA pg call f [.ptr 0 0,.nils] Gs=eCA pg call f [.ptr 0 0,.p (.sl [])] Gs:=by
 unfold eCA
 rw[hk]
 simp[expL,exp,Exp.id,idxOf]
theorem t185 (h:Std pg){n:Net}{r:List AV}{i j k:Nat}{l:List Port}{ds:List Nat}{Gs:Heap}(h1:Gs[i]?=some (.box [.ptr 0 0]))(h2:Gs[j]?=some (.box [.p (.sl (l.map Port.enc))]))(h3:Gs[k]?=some (.box [.p (.sl (ints ds))]))(hij:i≠j)(hjk:j≠k)(hik:i≠k)
  (hr:flatAL r=true) (hll:l.length<2 ^ 30) (hds:ds.length=l.length) (hok:MovesOK n (l.zip (ds.map fun d=>(⟨d,0⟩:Port)))) :
  eCA pg (E pg) 185 [.ptr (j+1) 0,.ptr (i+1) 0,.ptr (k+1) 0] (.box (.p (.sl (n.nodes.map Node.enc))::.p (.i .i64 n.cap)::r)::Gs)=some (.ret (.tup []),.box (.p (.sl ((n.moves (l.zip (ds.map fun d=>(⟨d,0⟩:Port)))).nodes.map Node.enc))::.p (.i .i64 (n.moves (l.zip (ds.map fun d=>(⟨d,0⟩:Port)))).cap)::r)::Gs):=by
 have he:∀ e,expL true e r=some (r,e):=fun e=>flatAL_exp true e hr
 have hbk:∀ ids base,backL ids base r=r:=fun ids base=>flatAL_back ids base hr
 have hs:=s185 h hr hll hds hok
 have hlen:∃ m,(.box (.p (.sl (n.nodes.map Node.enc))::.p (.i .i64 n.cap)::r)::Gs).length=m+4:=by
  have a1:=(gE h1).1
  have a2:=(gE h2).1
  have a3:=(gE h3).1
  exact ⟨Gs.length-3,by simp;omega⟩
 obtain ⟨m,hm⟩:=hlen
 unfold eCA
 rw[hm]
 simp[expL,exp,Exp.id,idxOf,eOs,h1,h2,h3,hij,hij.symm,hjk,hjk.symm,hik,hik.symm,he,hs,Out.back,back,backL,backId,backObj,setAll,hbk]
 rw[set_same h2,set_same h1,set_same h3]
end Go.Proofs.Z
end
section
namespace Go.Proofs.Z
open Go Go.Proofs
variable {pg:Prg}{G:Heap}
def failNode (lev:Nat):Node:=⟨13,lev,0,[],[],[]⟩
def zero0 (ds:List Nat):List Port:=ds.map fun d=>(⟨d,0⟩:Port)
def failPorts (a b:Nat)(x y:Node):List Port:=psF a 2 (x.to.length-2)++psF b 1 (y.to.length-1)
def Net.fail (n:Net)(a b:Nat)(x y:Node):Net :=
 (((((n.make (failNode x.lev)).like (dropNode x.lev) (failPorts a b x y).length).1).move ⟨a,1⟩ ⟨n.place,0⟩).moves ((failPorts a b x y).zip (zero0 ((n.make (failNode x.lev)).like (dropNode x.lev) (failPorts a b x y).length).2)))
theorem like_len (x:Node):∀ (m:Nat) (n:Net),(n.like x m).2.length=m
 |0,n=>rfl
 |m+1,n=>by simp[Net.like,like_len x m]
theorem evApp_nils {sz b:Nat}{G:Heap}{y:AV}{new:List (List PV)}(hr:rowsOf G y=some new)(hs:isStr y=false)(hne:new≠[])(hok:okRows sz new=true)(hro:roomy new.length b=true) :
  evApp false sz b G .nils y=some (.arr G.length new.length 0,G++[.arr sz new 0 0]):=by
 unfold evApp
 cases new with
 |nil=>exact absurd rfl hne
 |cons c r=>simp[hs,hr,hok];simpa using hro
theorem evApp_none {sz b:Nat}{G:Heap}:evApp false sz b G .nils .nils=some (.nils,G):=by
 simp[evApp,isStr,rowsOf,okRows]
theorem evApp_arr {sz b id len gen:Nat}{G:Heap}{y:AV}{rows new:List (List PV)}(hr:rowsOf G y=some new)(hs:isStr y=false)(hok:okRows sz new=true)(hG:G[id]?=some (.arr sz rows gen 0))(hl:rows.length=len)(hro:roomy (len+new.length) b=true) :
  evApp false sz b G (.arr id len gen) y=some (.arr id (len+new.length) (gen+1),G.set id (.arr sz (rows++new) (gen+1) 0)):=by
 unfold evApp
 subst hl
 simp[hs,hr,hok,hG,hro]
theorem s167 (h:Std pg){n:Net}{x y:Node}{r:List AV}{a b:Nat}(hx0:n.nodes[a]?=some x)(hx:(n.make (failNode x.lev)).nodes[a]?=some x)(hy:(n.make (failNode x.lev)).nodes[b]?=some y)(hr:flatAL r=true)(h10:r[10]?=some (.p (.i .i64 a)))(h11:r[11]?=some (.p (.i .i64 b)))
  (hxl:x.to.length<2 ^ 20) (hyl:y.to.length<2 ^ 20) (hlev:x.lev≤60) (hl:n.nodes.length<2 ^ 20) (hu:n.used+1+(failPorts a b x y).length≤n.cap)
  (hm:MovesOK ((n.make (failNode x.lev)).like (dropNode x.lev) (failPorts a b x y).length).1 [(⟨a,1⟩,⟨n.place,0⟩)])
  (hok:MovesOK ((((n.make (failNode x.lev)).like (dropNode x.lev) (failPorts a b x y).length).1).move ⟨a,1⟩ ⟨n.place,0⟩) ((failPorts a b x y).zip (zero0 ((n.make (failNode x.lev)).like (dropNode x.lev) (failPorts a b x y).length).2))) :
  E pg 167 [.ptr 0 0] [.box (.p (.sl (n.nodes.map Node.enc))::.p (.i .i64 n.cap)::r)]=some (.ret (.tup []),[.box (.p (.sl ((n.fail a b x y).nodes.map Node.enc))::.p (.i .i64 (n.fail a b x y).cap)::r)]):=by
 have hb:=flatAL_below 1 hr
 have hfl:(failPorts a b x y).length=(x.to.length-2)+(y.to.length-1):=by simp[failPorts,portsFrom_len]
 obtain ⟨⟨a1,a2,a3,a4⟩,_⟩:=hm
 have hml:=Net.make_len n (failNode x.lev)
 have hmu:=Net.make_used (n:=n) (x:=failNode x.lev) (by simp[failNode])
 have hmc:=Net.make_cap n (failNode x.lev)
 have hfok:(failNode x.lev).ok=true:=by simp[failNode,Node.ok,Node.altsOK,hlev]
 have e1:=fun Gs=>t166n (Gs:=Gs) (kind:=13) (K:=13) (lev:=x.lev) (v:=0) (name:=[]) h rfl (by omega) (by omega) hfok (by rw[show (Node.mk 13 x.lev 0 [] [] []).ports=1 from rfl];omega) (by omega:n.used<n.cap) hr
 have e2:=fun Gs=>t165 (Gs:=Gs) h a1 a2 a3 a4 hr
 have e3:=fun Gs=>t169 (Gs:=Gs) (l:=failPorts a b x y) h hx hr h10 hlev (by omega) (by omega)
 have e4:=fun Gs i j k h1 h2 h3 hij hjk hik=>t185 (i:=i) (j:=j) (k:=k) (Gs:=Gs) h h1 h2 h3 hij hjk hik hr (by omega) (like_len _ _ _) hok
 have e5:∀ u v,okRows 2 ((psF u v (y.to.length-1)).map Port.enc)=true:=fun u v=>okRows_enc okPort _
 simp only[show ((0:Nat):Int)=0 from rfl,show ((1:Nat):Int)=1 from rfl]at e1 e2
 rw[show (Node.mk 13 x.lev 0 [] [] [])=failNode x.lev from rfl]at e1
 have hP:∀ i k m,okRows 2 ((psF i k m).map Port.enc)=true:=fun i k m=>okRows_enc okPort _
 have tP:∀ i k m,((psF i k m).map Port.enc).take m=(psF i k m).map Port.enc:=fun i k m=>List.take_of_length_le (by simp[portsFrom_len])
 have lP:∀ i k m,((psF i k m).map Port.enc).length=m:=fun i k m=>by simp[portsFrom_len]
 have nP:∀ i k m,(psF i k (m+1)).map Port.enc≠[]:=fun i k m e=>by have:=lP i k (m+1);rw[e]at this;simp at this
 have rP:∀ m,m<2 ^ 30→roomy m 16=true:=fun m hm=>by simp[roomy];omega
 have hro:roFn pg 170=true:=by rw[h.ro];rfl
 have k169:keepA pg 169=false:=(show keepA pg 169=false from h.keep (x:=c169) rfl)
 have hp0:∀ i k,psF i k 0=[]:=fun _ _=>rfl
 by_cases hx2:x.to.length≤2
 ·have hx3:x.to.length-2=0:=by omega
  have f1:=fun Gs=>t170n (Gs:=Gs) (k0:=2) (K:=2) h rfl hx hr (by omega) hx2 (by omega)
  by_cases hy2:y.to.length≤1
  ·have hy3:y.to.length-1=0:=by omega
   have hf:failPorts a b x y=[]:=by simp[failPorts,hx3,hy3,hp0]
   have f2:=fun Gs=>t170n (Gs:=Gs) (k0:=1) (K:=1) h rfl hy hr (by omega) hy2 (by omega)
   unfold Net.fail
   rw[hf]at e3 e4 e2 ⊢
   have e6:=e4 [.box [.ptr 0 0],.box [.p (.sl [])],.box [.p (.sl (ints ((n.make (failNode x.lev)).like (dropNode x.lev) 0).2))]] 0 1 2 rfl rfl rfl (by omega) (by omega) (by omega)
   have e5:=e3 []
   simp only[List.map_nil,List.length_nil,Nat.zero_add,Nat.reduceAdd]at e5 e2 e6
   rw[h.run (x:=c167) rfl (by decide) (by decide) (by decide) (by decide)]
   simp[c167,k_nil,k_ops,k_opsg,kG_true,kG_false,kO_val,kO_pan,k_seq,kS_n,kS_r,kS_e,kS_p,k_o,kR_n,kR_p,kD2_n,kD1_n,k_d,k_c,kC_t,kC_f,k_b,kB_n,kB_r,kB_p,kB_e,k_skip,k_ret,k_exit,k_l,kL_s,kLp_n,kLp_r,kLp_e,kLp_p,k_f,kF_n,kF_r,kF_p,kV_f,kV_t,kN_s,evOp,evBin,gOK,opd,opds,lk,put,restr,iEv,evRes,whole,norm,normL,one,leave,Out.below,below,belowL,bOb,evStore,evLoad,evLen,AV.cells,AV.flat,PV.flat,splice,fillAt,pcs,isStr,rowsOf,Res.of,evCmp,lvE,leafEq,asInt,noIdAt,noId,noIdL,tids,chkOK,h10,h11,t181 h hx0 hr h10,e1,f1,f2,evApp_none,at_nils k169,hro,e5,t152 h,e2,e6,hb,zero0]
  ·obtain ⟨v,hv'⟩:∃ v,y.to.length=1+(v+1):=⟨y.to.length-2,by omega⟩
   have hy3:y.to.length-1=v+1:=by omega
   have hf:failPorts a b x y=psF b 1 (v+1):=by simp[failPorts,hx3,hy3,hp0]
   have f2:=fun Gs=>t170 (Gs:=Gs) (k0:=1) (K:=1) (m:=v) h rfl hy hr (by omega) (by omega)
   unfold Net.fail
   rw[hf]at e3 e4 e2 ⊢
   have g1:=evApp_nils (sz:=2) (b:=16) (G:=[.box (.p (.sl ((n.make (failNode x.lev)).nodes.map Node.enc))::.p (.i .i64 (n.make (failNode x.lev)).cap)::r),.arr 2 ((psF b 1 (v+1)).map Port.enc) v 0]) (y:=.arr 1 (v+1) v) (new:=(psF b 1 (v+1)).map Port.enc) (by simp[rowsOf,tP,lP,portsFrom_len]) rfl (nP _ _ _) (hP _ _ _) (by rw[lP];exact rP _ (by omega))
   have g2:=at_arr (pg:=pg) (call:=E pg) (f:=169) (c:=(.p (.sl ((n.make (failNode x.lev)).nodes.map Node.enc))::.p (.i .i64 (n.make (failNode x.lev)).cap)::r)) (id:=1) (len:=v+1) (gen:=0) (Gs:=[.arr 2 ((psF b 1 (v+1)).map Port.enc) v 0,.arr 2 ((psF b 1 (v+1)).map Port.enc) 0 0]) k169 rfl (by rw[lP];omega)
   have e5:=e3 [.arr 2 ((psF b 1 (v+1)).map Port.enc) v 0,.arr 2 ((psF b 1 (v+1)).map Port.enc) 0 (Nat.max 0 (v+1))]
   have e6:=e4 [.arr 2 ((psF b 1 (v+1)).map Port.enc) v 0,.arr 2 ((psF b 1 (v+1)).map Port.enc) 0 (v+1),.box [.ptr 0 0],.box [.p (.sl ((psF b 1 (v+1)).map Port.enc))],.box [.p (.sl (ints ((n.make (failNode x.lev)).like (dropNode x.lev) (psF b 1 (v+1)).length).2))]] 2 3 4 rfl rfl rfl (by omega) (by omega) (by omega)
   rw[tP]at g2
   rw[show [AObj.arr 2 ((psF b 1 (v+1)).map Port.enc) v 0,.arr 2 ((psF b 1 (v+1)).map Port.enc) 0 0].set 1 (.arr 2 ((psF b 1 (v+1)).map Port.enc) 0 (Nat.max 0 (v+1)))=[.arr 2 ((psF b 1 (v+1)).map Port.enc) v 0,.arr 2 ((psF b 1 (v+1)).map Port.enc) 0 (Nat.max 0 (v+1))] from rfl,e5]at g2
   rw[lP]at g1
   simp only[List.length_cons,List.length_nil,Nat.zero_add,Nat.reduceAdd,List.cons_append,List.nil_append]at g1 g2 e6
   rw[h.run (x:=c167) rfl (by decide) (by decide) (by decide) (by decide)]
   simp[c167,k_nil,k_ops,k_opsg,kG_true,kG_false,kO_val,kO_pan,k_seq,kS_n,kS_r,kS_e,kS_p,k_o,kR_n,kR_p,kD2_n,kD1_n,k_d,k_c,kC_t,kC_f,k_b,kB_n,kB_r,kB_p,kB_e,k_skip,k_ret,k_exit,k_l,kL_s,kLp_n,kLp_r,kLp_e,kLp_p,k_f,kF_n,kF_r,kF_p,kV_f,kV_t,kN_s,evOp,evBin,gOK,opd,opds,lk,put,restr,iEv,evRes,whole,norm,normL,one,leave,Out.below,below,belowL,bOb,evStore,evLoad,evLen,AV.cells,AV.flat,PV.flat,splice,fillAt,pcs,isStr,rowsOf,Res.of,evCmp,lvE,leafEq,asInt,noIdAt,noId,noIdL,tids,chkOK,h10,h11,t181 h hx0 hr h10,e1,f1,f2,g1,g2,hro,t152 h,e2,e6,hb,zero0]
 ·obtain ⟨u,hu'⟩:∃ u,x.to.length=2+(u+1):=⟨x.to.length-3,by omega⟩
  have hx3:x.to.length-2=u+1:=by omega
  have f1:=fun Gs=>t170 (Gs:=Gs) (k0:=2) (K:=2) (m:=u) h rfl hx hr (by omega) (by omega)
  by_cases hy2:y.to.length≤1
  ·have hy3:y.to.length-1=0:=by omega
   have hf:failPorts a b x y=psF a 2 (u+1):=by simp[failPorts,hx3,hy3,hp0]
   have f2:=fun Gs=>t170n (Gs:=Gs) (k0:=1) (K:=1) h rfl hy hr (by omega) hy2 (by omega)
   unfold Net.fail
   rw[hf]at e3 e4 e2 ⊢
   have g1:=evApp_arr (sz:=2) (b:=16) (id:=1) (len:=u+1) (gen:=u) (G:=[.box (.p (.sl ((n.make (failNode x.lev)).nodes.map Node.enc))::.p (.i .i64 (n.make (failNode x.lev)).cap)::r),.arr 2 ((psF a 2 (u+1)).map Port.enc) u 0]) (y:=.nils) (new:=[]) (rows:=(psF a 2 (u+1)).map Port.enc) rfl rfl rfl rfl (lP _ _ _) (by exact rP _ (by simp;omega))
   have g2:=at_arr (pg:=pg) (call:=E pg) (f:=169) (c:=(.p (.sl ((n.make (failNode x.lev)).nodes.map Node.enc))::.p (.i .i64 (n.make (failNode x.lev)).cap)::r)) (id:=0) (len:=u+1) (gen:=u+1) (Gs:=[.arr 2 ((psF a 2 (u+1)).map Port.enc) (u+1) 0]) k169 rfl (by rw[lP];omega)
   have e5:=e3 [.arr 2 ((psF a 2 (u+1)).map Port.enc) (u+1) (Nat.max 0 (u+1))]
   have e6:=e4 [.arr 2 ((psF a 2 (u+1)).map Port.enc) (u+1) (u+1),.box [.ptr 0 0],.box [.p (.sl ((psF a 2 (u+1)).map Port.enc))],.box [.p (.sl (ints ((n.make (failNode x.lev)).like (dropNode x.lev) (psF a 2 (u+1)).length).2))]] 1 2 3 rfl rfl rfl (by omega) (by omega) (by omega)
   rw[tP]at g2
   rw[show [AObj.arr 2 ((psF a 2 (u+1)).map Port.enc) (u+1) 0].set 0 (.arr 2 ((psF a 2 (u+1)).map Port.enc) (u+1) (Nat.max 0 (u+1)))=[.arr 2 ((psF a 2 (u+1)).map Port.enc) (u+1) (Nat.max 0 (u+1))] from rfl,e5]at g2
   simp only[List.length_cons,List.length_nil,Nat.zero_add,Nat.add_zero,Nat.reduceAdd,List.cons_append,List.nil_append,List.append_nil,List.set_cons_succ,List.set_cons_zero]at g1 g2 e6
   rw[h.run (x:=c167) rfl (by decide) (by decide) (by decide) (by decide)]
   simp[c167,k_nil,k_ops,k_opsg,kG_true,kG_false,kO_val,kO_pan,k_seq,kS_n,kS_r,kS_e,kS_p,k_o,kR_n,kR_p,kD2_n,kD1_n,k_d,k_c,kC_t,kC_f,k_b,kB_n,kB_r,kB_p,kB_e,k_skip,k_ret,k_exit,k_l,kL_s,kLp_n,kLp_r,kLp_e,kLp_p,k_f,kF_n,kF_r,kF_p,kV_f,kV_t,kN_s,evOp,evBin,gOK,opd,opds,lk,put,restr,iEv,evRes,whole,norm,normL,one,leave,Out.below,below,belowL,bOb,evStore,evLoad,evLen,AV.cells,AV.flat,PV.flat,splice,fillAt,pcs,isStr,rowsOf,Res.of,evCmp,lvE,leafEq,asInt,noIdAt,noId,noIdL,tids,chkOK,h10,h11,t181 h hx0 hr h10,e1,f1,f2,g1,g2,hro,t152 h,e2,e6,hb,zero0]
  ·obtain ⟨v,hv'⟩:∃ v,y.to.length=1+(v+1):=⟨y.to.length-2,by omega⟩
   have hy3:y.to.length-1=v+1:=by omega
   have hf:failPorts a b x y=psF a 2 (u+1)++psF b 1 (v+1):=by simp[failPorts,hx3,hy3]
   have hfm:(failPorts a b x y).map Port.enc=(psF a 2 (u+1)).map Port.enc++(psF b 1 (v+1)).map Port.enc:=by rw[hf,List.map_append]
   have f2:=fun Gs=>t170 (Gs:=Gs) (k0:=1) (K:=1) (m:=v) h rfl hy hr (by omega) (by omega)
   unfold Net.fail
   have hfl2:(failPorts a b x y).length=u+1+(v+1):=by omega
   have g1:=evApp_arr (sz:=2) (b:=16) (id:=1) (len:=u+1) (gen:=u) (G:=[.box (.p (.sl ((n.make (failNode x.lev)).nodes.map Node.enc))::.p (.i .i64 (n.make (failNode x.lev)).cap)::r),.arr 2 ((psF a 2 (u+1)).map Port.enc) u 0,.arr 2 ((psF b 1 (v+1)).map Port.enc) v 0]) (y:=.arr 2 (v+1) v) (new:=(psF b 1 (v+1)).map Port.enc) (rows:=(psF a 2 (u+1)).map Port.enc) (by simp[rowsOf,tP,lP,portsFrom_len]) rfl (hP _ _ _) rfl (lP _ _ _) (by rw[lP];exact rP _ (by omega))
   have g2:=at_arr (pg:=pg) (call:=E pg) (f:=169) (c:=(.p (.sl ((n.make (failNode x.lev)).nodes.map Node.enc))::.p (.i .i64 (n.make (failNode x.lev)).cap)::r)) (id:=0) (len:=u+1+(v+1)) (gen:=u+1) (Gs:=[.arr 2 ((failPorts a b x y).map Port.enc) (u+1) 0,.arr 2 ((psF b 1 (v+1)).map Port.enc) v 0]) k169 rfl (by simp;omega)
   have e5:=e3 [.arr 2 ((failPorts a b x y).map Port.enc) (u+1) (Nat.max 0 (u+1+(v+1))),.arr 2 ((psF b 1 (v+1)).map Port.enc) v 0]
   have e6:=e4 [.arr 2 ((failPorts a b x y).map Port.enc) (u+1) (u+1+(v+1)),.arr 2 ((psF b 1 (v+1)).map Port.enc) v 0,.box [.ptr 0 0],.box [.p (.sl ((failPorts a b x y).map Port.enc))],.box [.p (.sl (ints ((n.make (failNode x.lev)).like (dropNode x.lev) (failPorts a b x y).length).2))]] 2 3 4 rfl rfl rfl (by omega) (by omega) (by omega)
   rw[← hfm,lP]at g1
   rw[List.take_of_length_le (by simp;omega)]at g2
   rw[show [AObj.arr 2 ((failPorts a b x y).map Port.enc) (u+1) 0,.arr 2 ((psF b 1 (v+1)).map Port.enc) v 0].set 0 (.arr 2 ((failPorts a b x y).map Port.enc) (u+1) (Nat.max 0 (u+1+(v+1))))=[.arr 2 ((failPorts a b x y).map Port.enc) (u+1) (Nat.max 0 (u+1+(v+1))),.arr 2 ((psF b 1 (v+1)).map Port.enc) v 0] from rfl,e5]at g2
   simp only[List.length_cons,List.length_nil,Nat.zero_add,Nat.add_zero,Nat.reduceAdd,List.cons_append,List.nil_append,List.append_nil,List.set_cons_succ,List.set_cons_zero]at g1 g2 e6
   rw[h.run (x:=c167) rfl (by decide) (by decide) (by decide) (by decide)]
   simp[c167,k_nil,k_ops,k_opsg,kG_true,kG_false,kO_val,kO_pan,k_seq,kS_n,kS_r,kS_e,kS_p,k_o,kR_n,kR_p,kD2_n,kD1_n,k_d,k_c,kC_t,kC_f,k_b,kB_n,kB_r,kB_p,kB_e,k_skip,k_ret,k_exit,k_l,kL_s,kLp_n,kLp_r,kLp_e,kLp_p,k_f,kF_n,kF_r,kF_p,kV_f,kV_t,kN_s,evOp,evBin,gOK,opd,opds,lk,put,restr,iEv,evRes,whole,norm,normL,one,leave,Out.below,below,belowL,bOb,evStore,evLoad,evLen,AV.cells,AV.flat,PV.flat,splice,fillAt,pcs,isStr,rowsOf,Res.of,evCmp,lvE,leafEq,asInt,noIdAt,noId,noIdL,tids,chkOK,h10,h11,t181 h hx0 hr h10,e1,f1,f2,g1,g2,hro,t152 h,e2,e6,hb,zero0]
end Go.Proofs.Z
end
section
namespace Go.Proofs.Z
open Go Go.Proofs
attribute [local simp] k_nil k_ops k_opsg kG_true kG_false kO_val kO_pan k_seq kS_n kS_r kS_e kS_p k_o kR_n kR_p kD2_n kD1_n k_d k_c kC_t kC_f k_b kB_n kB_r kB_p kB_e k_skip k_ret k_exit k_l kL_s kLp_n kLp_r kLp_e kLp_p k_f kF_n kF_r kF_p kV_f kV_t kN_s evOp evBin gOK opd opds lk put restr iEv evRes whole norm normL one Out.below below belowL bOb evStore evLoad evLen AV.cells AV.flat PV.flat splice fillAt pcs isStr rowsOf Res.of evCmp lvE leafEq asInt noIdAt noId noIdL tids chkOK
variable {pg:Prg}{G:Heap}
def crossLinks (m k:Nat)(cs:List Nat):List (Port×Port):=(psF m 1 cs.length).zip (cs.map fun c=>(⟨c,k+1⟩:Port))
def Net.cross (n:Net)(b:Nat)(cs:List Nat):Nat→List Nat→Net
 |_,[]=>n
 |k,m::r=>(((n.move ⟨b,k+1⟩ ⟨m,0⟩).links (crossLinks m k cs)).cross b cs (k+1) r)
def CrossOK (n:Net)(b:Nat)(cs:List Nat):Nat→List Nat→Prop
 |_,[]=>True
 |k,m::r=>MovesOK n [(⟨b,k+1⟩,⟨m,0⟩)]∧LinksOK (n.move ⟨b,k+1⟩ ⟨m,0⟩) (crossLinks m k cs)∧CrossOK ((n.move ⟨b,k+1⟩ ⟨m,0⟩).links (crossLinks m k cs)) b cs (k+1) r
def Net.pass1 (n:Net)(x y:Node)(lev:Nat):Net:=(n.like { y with lev:=lev } (x.to.length-1)).1
def Net.passC (n:Net)(x y:Node)(lev:Nat):List Nat:=(n.like { y with lev:=lev } (x.to.length-1)).2
def Net.pass2 (n:Net)(x y:Node)(lev:Nat):Net:=((n.pass1 x y lev).like x (y.to.length-1)).1
def Net.passM (n:Net)(x y:Node)(lev:Nat):List Nat:=((n.pass1 x y lev).like x (y.to.length-1)).2
def Net.pass3 (n:Net)(a:Nat)(x y:Node)(lev:Nat):Net:=(n.pass2 x y lev).moves ((psF a 1 (x.to.length-1)).zip (zero0 (n.passC x y lev)))
def Net.pass (n:Net)(a b:Nat)(x y:Node)(lev:Nat):Net:=(n.pass3 a x y lev).cross b (n.passC x y lev) 0 (n.passM x y lev)
theorem Net.moves_cap {l:List (Port×Port)}:∀ {n:Net},(n.moves l).cap=n.cap:=by
 induction l with
 |nil=>intro n;rfl
 |cons p r ih=>intro n;obtain ⟨p,q⟩:=p;simp only[Net.moves];rw[ih];exact Net.move_cap
theorem l168a (h:Std pg){body:CCode}(hb:body=c168l0){r:List AV}{a:Nat}{M:AV}(hr:flatAL r=true)(hM:flatA M=true)(h10:r[10]?=some (.p (.i .i64 a))){cs:List Nat}(hc:cs.length<2 ^ 30) :
  ∀ (m j:Nat) (n:Net),j+m=cs.length→MovesOK n (((psF a 1 cs.length).zip (zero0 cs)).drop j) →
   L pg 1 [0,4,5,44,45,46] body [(0,.ptr 0 0),(4,.p (.sl (ints cs))),(5,M),(44,.p (.sl (ints cs))),(45,.p (.i .i64 cs.length)),(46,.p (.i .i64 j))] [.box (.p (.sl (n.nodes.map Node.enc))::.p (.i .i64 n.cap)::r)] =
   some (.exit 0,[(0,.ptr 0 0),(4,.p (.sl (ints cs))),(5,M),(44,.p (.sl (ints cs))),(45,.p (.i .i64 cs.length)),(46,.p (.i .i64 cs.length)),(47,.p (.b false))],[.box (.p (.sl ((n.moves (((psF a 1 cs.length).zip (zero0 cs)).drop j)).nodes.map Node.enc))::.p (.i .i64 (n.moves (((psF a 1 cs.length).zip (zero0 cs)).drop j)).cap)::r)])
 |0,j,n,hm,hok=>by
  have:j=cs.length:=by omega
  subst this
  have e:((psF a 1 cs.length).zip (zero0 cs)).drop cs.length=[]:=List.drop_eq_nil_of_le (by simp[portsFrom_len,zero0])
  rw[k_L hb,e]
  simp[c168l0,leave,Net.moves]
 |m+1,j,n,hm,hok=>by
  have he:∀ e,expL true e r=some (r,e):=fun e=>flatAL_exp true e hr
  have heM:∀ e,exp true e M=some (M,e):=fun e=>flatA_exp true e hM
  have hlt:j<cs.length:=by omega
  have hz:((psF a 1 cs.length).zip (zero0 cs)).drop j=(⟨a,1+j⟩,⟨cs[j],0⟩)::((psF a 1 cs.length).zip (zero0 cs)).drop (j+1):=by
   rw[List.drop_eq_getElem_cons (by simp[portsFrom_len,zero0];exact hlt)]
   simp[psF,zero0]
  rw[hz]at hok
  obtain ⟨⟨a1,a2,a3,a4⟩,hok'⟩:=hok
  have ih:=l168a h hb hr hM h10 hc m (j+1) _ (by omega) hok'
  rw[show ((j+1:Nat):Int)=(j:Int)+1 from by omega]at ih
  have e1:=fun Gs=>t165 (Gs:=Gs) h a1 a2 a3 a4 hr
  simp only[show ((0:Nat):Int)=0 from rfl,show ((1+j:Nat):Int)=(j:Int)+1 from by omega]at e1
  have e2:(ints cs)[j]?=some [.i .i64 cs[j]]:=by simp[ints,hlt]
  rw[k_L hb,hz]
  simp[c168l0,leave,hlt,okRow,h10,t152 h,e1,e2,w64 ((j:Int)+1) (by omega) (by omega),gc,gcEnv,exp,expL,eOs,Exp.id,idxOf,List.range,List.range.loop,he,heM,ih,Net.moves]
theorem l168b (h:Std pg){body:CCode}(hb:body=c168l1){r:List AV}{k mm:Nat}{M u v:AV}(hr:flatAL r=true)(hM:flatA M=true)(hu:flatA u=true)(hv:flatA v=true)(hk:k<2 ^ 30){cs:List Nat}(hc:cs.length<2 ^ 30) :
  ∀ (m j:Nat) (n:Net),j+m=cs.length→LinksOK n ((crossLinks mm k cs).drop j) →
   L pg 1 [0,4,8,9,63,64,65,81,82,83] body [(0,.ptr 0 0),(4,.p (.sl (ints cs))),(8,.p (.i .i64 k)),(9,.p (.i .i64 mm)),(63,M),(64,u),(65,v),(81,.p (.sl (ints cs))),(82,.p (.i .i64 cs.length)),(83,.p (.i .i64 j))] [.box (.p (.sl (n.nodes.map Node.enc))::.p (.i .i64 n.cap)::r)] =
   some (.exit 4,[(0,.ptr 0 0),(4,.p (.sl (ints cs))),(8,.p (.i .i64 k)),(9,.p (.i .i64 mm)),(63,M),(64,u),(65,v),(81,.p (.sl (ints cs))),(82,.p (.i .i64 cs.length)),(83,.p (.i .i64 cs.length)),(84,.p (.b false))],[.box (.p (.sl ((n.links ((crossLinks mm k cs).drop j)).nodes.map Node.enc))::.p (.i .i64 (n.links ((crossLinks mm k cs).drop j)).cap)::r)])
 |0,j,n,hm,hok=>by
  have:j=cs.length:=by omega
  subst this
  have e:(crossLinks mm k cs).drop cs.length=[]:=List.drop_eq_nil_of_le (by simp[crossLinks,portsFrom_len])
  rw[k_L hb,e]
  simp[c168l1,leave,Net.links]
 |m+1,j,n,hm,hok=>by
  have he:∀ e,expL true e r=some (r,e):=fun e=>flatAL_exp true e hr
  have heM:∀ e,exp true e M=some (M,e):=fun e=>flatA_exp true e hM
  have heu:∀ e,exp true e u=some (u,e):=fun e=>flatA_exp true e hu
  have hev:∀ e,exp true e v=some (v,e):=fun e=>flatA_exp true e hv
  have hlt:j<cs.length:=by omega
  have hz:(crossLinks mm k cs).drop j=(⟨mm,1+j⟩,⟨cs[j],k+1⟩)::(crossLinks mm k cs).drop (j+1):=by
   rw[List.drop_eq_getElem_cons (by simp[crossLinks,portsFrom_len];exact hlt)]
   simp[crossLinks,psF]
  rw[hz]at hok
  obtain ⟨⟨a1,a2,a3⟩,hok'⟩:=hok
  have ih:=l168b h hb hr hM hu hv hk hc m (j+1) _ (by omega) hok'
  rw[show ((j+1:Nat):Int)=(j:Int)+1 from by omega]at ih
  have e1:=fun Gs=>t182 (Gs:=Gs) h a1 a2 a3 hr
  simp only[show ((k+1:Nat):Int)=(k:Int)+1 from by omega,show ((1+j:Nat):Int)=(j:Int)+1 from by omega]at e1
  have e2:(ints cs)[j]?=some [.i .i64 cs[j]]:=by simp[ints,hlt]
  rw[k_L hb,hz]
  simp[c168l1,leave,hlt,okRow,t152 h,e1,e2,w64 ((j:Int)+1) (by omega) (by omega),w64 ((k:Int)+1) (by omega) (by omega),gc,gcEnv,exp,expL,eOs,Exp.id,idxOf,List.range,List.range.loop,he,heM,heu,hev,ih,Net.links]
theorem l168c (h:Std pg){body:CCode}(hb:body=c168l2){r:List AV}{b:Nat}(hr:flatAL r=true)(h11:r[11]?=some (.p (.i .i64 b))){cs ms:List Nat}(hc:cs.length<2 ^ 30)(hms:ms.length<2 ^ 30) :
  ∀ (m j:Nat) (n:Net),j+m=ms.length→CrossOK n b cs j (ms.drop j) →
   L pg 1 [0,4,63,64,65] body [(0,.ptr 0 0),(4,.p (.sl (ints cs))),(63,.p (.sl (ints ms))),(64,.p (.i .i64 ms.length)),(65,.p (.i .i64 j))] [.box (.p (.sl (n.nodes.map Node.enc))::.p (.i .i64 n.cap)::r)] =
   some (.exit 2,[(0,.ptr 0 0),(4,.p (.sl (ints cs))),(63,.p (.sl (ints ms))),(64,.p (.i .i64 ms.length)),(65,.p (.i .i64 ms.length)),(66,.p (.b false))],[.box (.p (.sl ((n.cross b cs j (ms.drop j)).nodes.map Node.enc))::.p (.i .i64 (n.cross b cs j (ms.drop j)).cap)::r)])
 |0,j,n,hm,hok=>by
  have:j=ms.length:=by omega
  subst this
  rw[k_L hb,List.drop_length]
  simp[c168l2,leave,Net.cross]
 |m+1,j,n,hm,hok=>by
  have he:∀ e,expL true e r=some (r,e):=fun e=>flatAL_exp true e hr
  have hlt:j<ms.length:=by omega
  have hz:ms.drop j=ms[j]::ms.drop (j+1):=List.drop_eq_getElem_cons hlt
  rw[hz]at hok
  obtain ⟨⟨⟨a1,a2,a3,a4⟩,_⟩,hlk,hok'⟩:=hok
  have ih:=l168c h hb hr h11 hc hms m (j+1) _ (by omega) hok'
  rw[show ((j+1:Nat):Int)=(j:Int)+1 from by omega]at ih
  have e1:=fun Gs=>t165 (Gs:=Gs) h a1 a2 a3 a4 hr
  simp only[show ((0:Nat):Int)=0 from rfl,show ((j+1:Nat):Int)=(j:Int)+1 from by omega]at e1
  have e2:(ints ms)[j]?=some [.i .i64 ms[j]]:=by simp[ints,hlt]
  have hL:=l168b h rfl hr (M:=.p (.sl (ints ms))) (u:=.p (.i .i64 ms.length)) (v:=.p (.i .i64 j)) rfl rfl rfl (k:=j) (mm:=ms[j]) (by omega) hc cs.length 0 (n.move ⟨b,j+1⟩ ⟨ms[j],0⟩) (by omega) (by simpa using hlk)
  rw[show ((0:Nat):Int)=0 from rfl,List.drop_zero]at hL
  have e3:(ints cs).length=cs.length:=by simp[ints]
  rw[k_L hb,hz]
  simp[c168l2,leave,hlt,okRow,h11,t152 h,e1,e2,e3,hL,w64 ((j:Int)+1) (by omega) (by omega),gc,gcEnv,exp,expL,eOs,Exp.id,idxOf,List.range,List.range.loop,he,ih,Net.cross]
theorem like_cap (x:Node):∀ (m:Nat) (n:Net),(n.like x m).1.cap=n.cap
 |0,n=>rfl
 |m+1,n=>by simp only[Net.like];rw[like_cap x m];rfl
theorem like_lens (x:Node):∀ (m:Nat) (n:Net),(n.like x m).1.nodes.length≤n.nodes.length+m
 |0,n=>by simp[Net.like]
 |m+1,n=>by
  simp only[Net.like]
  have:=like_lens x m (n.make x)
  have:=Net.make_len n x
  omega
theorem like_used {x:Node}(hk:x.kind≠0):∀ (m:Nat) (n:Net),(n.like x m).1.used=n.used+m
 |0,n=>rfl
 |m+1,n=>by
  simp only[Net.like]
  rw[like_used hk m,Net.make_used hk]
  omega
theorem s168 (h:Std pg){n:Net}{x y:Node}{r:List AV}{a b lev:Nat}(hx:n.nodes[a]?=some x)(hy:n.nodes[b]?=some y)(hr:flatAL r=true)(h2:r[2]?=some (.p (.i .i64 lev)))(h10:r[10]?=some (.p (.i .i64 a)))(h11:r[11]?=some (.p (.i .i64 b)))
  (hkx:2≤x.kind) (hky:2≤y.kind) (hox:x.ok=true) (hoy:({ y with lev:=lev }:Node).ok=true) (hxl:1≤x.to.length∧x.to.length<2 ^ 20) (hyl:1≤y.to.length∧y.to.length<2 ^ 20) (hpx:x.ports<2 ^ 20) (hpy:y.ports<2 ^ 20)
  (hl:n.nodes.length<2 ^ 20) (hu:n.used+(x.to.length-1)+(y.to.length-1)≤n.cap)
  (hm:MovesOK (n.pass2 x y lev) ((psF a 1 (x.to.length-1)).zip (zero0 (n.passC x y lev)))) (hcr:CrossOK (n.pass3 a x y lev) b (n.passC x y lev) 0 (n.passM x y lev)) :
  E pg 168 [.ptr 0 0] [.box (.p (.sl (n.nodes.map Node.enc))::.p (.i .i64 n.cap)::r)]=some (.ret (.tup []),[.box (.p (.sl ((n.pass a b x y lev).nodes.map Node.enc))::.p (.i .i64 (n.pass a b x y lev).cap)::r)]):=by
 have he:∀ e,expL true e r=some (r,e):=fun e=>flatAL_exp true e hr
 have hb:=flatAL_below 1 hr
 have hlC:(n.passC x y lev).length=x.to.length-1:=like_len _ _ _
 have hlM:(n.passM x y lev).length=y.to.length-1:=like_len _ _ _
 have hn1:(n.pass1 x y lev).nodes.length≤n.nodes.length+(x.to.length-1):=like_lens _ _ _
 have hn2:(n.pass1 x y lev).used=n.used+(x.to.length-1):=like_used (by dsimp only;omega) _ _
 have hn3:(n.pass1 x y lev).cap=n.cap:=like_cap _ _ _
 have hn4:(n.pass2 x y lev).cap=n.cap:=by unfold Net.pass2;rw[like_cap];exact hn3
 have hn5:(n.pass3 a x y lev).cap=n.cap:=by unfold Net.pass3;rw[Net.moves_cap];exact hn4
 have e1:=fun Gs=>t180 (Gs:=Gs) (n:=n) (x:={ y with lev:=lev }) (k:=x.to.length-1) (K:=(x.to.length:Int)-1) h (by omega) hky hoy (by simpa [Node.ports] using (show y.ports<2 ^ 30 by omega)) hr (by omega) (by omega) (by omega)
 have e2:=fun Gs=>t180 (Gs:=Gs) (n:=n.pass1 x y lev) (x:=x) (k:=y.to.length-1) (K:=(y.to.length:Int)-1) h (by omega) hkx hox (by omega) hr (by omega) (by omega) (by omega)
 have e3:=l168a h rfl hr (M:=.p (.sl (ints (n.passM x y lev)))) rfl h10 (cs:=n.passC x y lev) (by omega) (n.passC x y lev).length 0 (n.pass2 x y lev) (by omega) (by rw[hlC];simpa using hm)
 have e4:=l168c h rfl hr h11 (cs:=n.passC x y lev) (ms:=n.passM x y lev) (by omega) (by omega) (n.passM x y lev).length 0 (n.pass3 a x y lev) (by omega) (by simpa using hcr)
 rw[show (n.like { y with lev:=lev } (x.to.length-1)).1=n.pass1 x y lev from rfl,show (n.like { y with lev:=lev } (x.to.length-1)).2=n.passC x y lev from rfl]at e1
 rw[show ((n.pass1 x y lev).like x (y.to.length-1)).1=n.pass2 x y lev from rfl,show ((n.pass1 x y lev).like x (y.to.length-1)).2=n.passM x y lev from rfl]at e2
 simp only[show ((0:Nat):Int)=0 from rfl,List.drop_zero]at e3 e4
 rw[show (n.pass2 x y lev).moves ((psF a 1 (n.passC x y lev).length).zip (zero0 (n.passC x y lev)))=n.pass3 a x y lev from by rw[hlC];rfl]at e3
 rw[show (n.pass3 a x y lev).cross b (n.passC x y lev) 0 (n.passM x y lev)=n.pass a b x y lev from rfl]at e4
 have e5:∀ l:List Nat,(ints l).length=l.length:=fun l=>by simp[ints]
 have k179:=(show keepA pg 179=false from h.keep (x:=c179) rfl)
 have r179:roFn pg 179=true:=by rw[h.ro];rfl
 rw[h.run (x:=c168) rfl (by decide) (by decide) (by decide) (by decide)]
 simp[c168,leave,h10,h11,h2,t179 h hx hr,t179 h hy hr,r179,e1,e2,e3,e4,e5,w64 ((x.to.length:Int)-1) (by omega) (by omega),w64 ((y.to.length:Int)-1) (by omega) (by omega),gc,gcEnv,exp,expL,eOs,Exp.id,idxOf,List.range,List.range.loop,he,hb]
def accV (acc:List Port):AV:=match acc with
 |[]=>.nils
 |_::r=>.arr 2 (r.length+1) r.length
def accH (acc:List Port):Heap:=match acc with
 |[]=>[]
 |c::r=>[.arr 2 ((c::r).map Port.enc) r.length 0]
def othV (acc:List Port)(M:Nat):AV:=match acc with
 |[]=>.arr 2 (M+1) M
 |_::_=>.arr 3 (M+1) M
theorem l163a (h:Std pg){body:CCode}(hb:body=c163l0){n:Net}{r:List AV}{a s M:Nat}{C A:AV}(hr:flatAL r=true)(hC:flatA C=true)(hA:flatA A=true)(hM:M<2 ^ 20) :
  ∀ (m j:Nat) (acc:List Port),j+m=M+1→acc.length≤j →
   L pg 1 [0,2,3,4,5,48,49,50] body [(0,.ptr 0 0),(2,C),(3,.ptr 1 0),(4,A),(5,accV acc),(48,othV acc M),(49,.p (.i .i64 (M+1:Nat))),(50,.p (.i .i64 j))] (.box (.p (.sl (n.nodes.map Node.enc))::.p (.i .i64 n.cap)::r)::.box [.p (.i .i64 a),.p (.i .i64 (s+2:Nat))]::accH acc++[.arr 2 ((psF a 2 (M+1)).map Port.enc) M 0]) =
   some (.exit 0,[(0,.ptr 0 0),(2,C),(3,.ptr 1 0),(4,A),(5,accV (acc++((psF a 2 (M+1)).drop j).filter fun q=>decide (q≠⟨a,s+2⟩))),(48,othV (acc++((psF a 2 (M+1)).drop j).filter fun q=>decide (q≠⟨a,s+2⟩)) M),(49,.p (.i .i64 (M+1:Nat))),(50,.p (.i .i64 (M+1:Nat))),(51,.p (.b false))],
    .box (.p (.sl (n.nodes.map Node.enc))::.p (.i .i64 n.cap)::r)::.box [.p (.i .i64 a),.p (.i .i64 (s+2:Nat))]::accH (acc++((psF a 2 (M+1)).drop j).filter fun q=>decide (q≠⟨a,s+2⟩))++[.arr 2 ((psF a 2 (M+1)).map Port.enc) M 0])
 |0,j,acc,hm,hj=>by
  have:j=M+1:=by omega
  subst this
  have e:(psF a 2 (M+1)).drop (M+1)=[]:=List.drop_eq_nil_of_le (by simp[portsFrom_len])
  rw[k_L hb,e]
  simp[c163l0,leave]
 |m+1,j,acc,hm,hj=>by
  have he:∀ e,expL true e r=some (r,e):=fun e=>flatAL_exp true e hr
  have heC:∀ e,exp true e C=some (C,e):=fun e=>flatA_exp true e hC
  have heA:∀ e,exp true e A=some (A,e):=fun e=>flatA_exp true e hA
  have hlt:j<M+1:=by omega
  have hlt':(j:Int)<(M:Int)+1:=by omega
  have hz:(psF a 2 (M+1)).drop j=⟨a,2+j⟩::(psF a 2 (M+1)).drop (j+1):=by
   rw[List.drop_eq_getElem_cons (by simp[portsFrom_len];exact hlt)]
   simp[psF]
  have hat:(psF a 2 (M+1))[j]?=some ⟨a,2+j⟩:=by
   rw[gG (by rw[portsFrom_len];exact hlt)]
   simp[psF]
  have hat2:∀ hh,(psF a 2 (M+1))[j]'hh=⟨a,2+j⟩:=fun hh=>portsFrom_at a 2 (M+1) j hlt
  have hlen:M+1≤((psF a 2 (M+1)).map Port.enc).length:=by simp[portsFrom_len]
  have hlen':(psF a 2 (M+1)).length=M+1:=portsFrom_len _ _ _
  have e6:∀ u v,okRows 2 [[.i .i64 u,.i .i64 v]]=true:=fun _ _=>rfl
  rw[k_L hb,hz]
  by_cases hs:j=s
  ·have ih:=l163a h hb (n:=n) (a:=a) (s:=s) hr hC hA hM m (j+1) acc (by omega) (by omega)
   have hf:(⟨a,2+j⟩::(psF a 2 (M+1)).drop (j+1)).filter (fun q=>decide (q≠(⟨a,s+2⟩:Port)))=((psF a 2 (M+1)).drop (j+1)).filter (fun q=>decide (q≠(⟨a,s+2⟩:Port))):=by
    rw[List.filter_cons_of_neg]
    simp;omega
   rw[hf]
   generalize ((psF a 2 (M+1)).drop (j+1)).filter (fun q=>decide (q≠(⟨a,s+2⟩:Port)))=F at ih ⊢
   have c1:(2+(j:Int)=(s:Int)+2)=True:=eq_true (by omega)
   simp only[show ((j+1:Nat):Int)=(j:Int)+1 from by omega,show ((M+1:Nat):Int)=(M:Int)+1 from by omega,show ((s+2:Nat):Int)=(s:Int)+2 from by omega]at ih ⊢
   cases acc with
   |nil =>
    simp only[accV,accH,othV,List.nil_append,List.cons_append]at ih ⊢
    simp[c163l0,leave,hlt,hlt',hat,hat2,hlen,hlen',okRow,Port.enc,c1,w64 ((j:Int)+1) (by omega) (by omega),gc,gcEnv,exp,expL,eOs,Exp.id,idxOf,List.range,List.range.loop,he,heC,heA,ih]
   |cons q0 acc =>
    simp only[accV,accH,othV,List.nil_append,List.cons_append,List.map_cons,Port.enc]at ih ⊢
    simp[c163l0,leave,hlt,hlt',hat,hat2,hlen,hlen',okRow,Port.enc,c1,w64 ((j:Int)+1) (by omega) (by omega),gc,gcEnv,exp,expL,eOs,Exp.id,idxOf,List.range,List.range.loop,he,heC,heA,ih]
  ·have ih:=l163a h hb (n:=n) (a:=a) (s:=s) hr hC hA hM m (j+1) (acc++[⟨a,2+j⟩]) (by omega) (by simp;omega)
   have hf:(⟨a,2+j⟩::(psF a 2 (M+1)).drop (j+1)).filter (fun q=>decide (q≠(⟨a,s+2⟩:Port)))=⟨a,2+j⟩::((psF a 2 (M+1)).drop (j+1)).filter (fun q=>decide (q≠(⟨a,s+2⟩:Port))):=by
    rw[List.filter_cons_of_pos]
    simp;omega
   rw[hf]
   generalize ((psF a 2 (M+1)).drop (j+1)).filter (fun q=>decide (q≠(⟨a,s+2⟩:Port)))=F at ih ⊢
   have c1:(2+(j:Int)=(s:Int)+2)=False:=eq_false (by omega)
   rw[List.append_assoc,List.singleton_append]at ih
   simp only[show ((j+1:Nat):Int)=(j:Int)+1 from by omega,show ((M+1:Nat):Int)=(M:Int)+1 from by omega,show ((s+2:Nat):Int)=(s:Int)+2 from by omega]at ih ⊢
   cases acc with
   |nil =>
    simp only[accV,accH,othV,List.nil_append,List.cons_append,List.map_cons,List.map_nil,List.length_nil,List.length_cons,Port.enc,Nat.zero_add,show ((2+j:Nat):Int)=2+(j:Int) from by omega]at ih ⊢
    simp[c163l0,leave,hlt,hlt',hat,hat2,hlen,hlen',okRow,Port.enc,c1,evOp.fillRows,normP,toP,toPL,evApp,rowsOf,isStr,e6,show roomy 1 16=true from rfl,w64 ((j:Int)+1) (by omega) (by omega),gc,gcEnv,exp,expL,eOs,Exp.id,idxOf,List.range,List.range.loop,he,heC,heA,ih]
    done
   |cons q0 acc =>
    have e8:(acc.map Port.enc).take acc.length=acc.map Port.enc:=List.take_of_length_le (by simp)
    have e7:roomy (acc.length+1+1) 16=true:=by simp at hj;simp[roomy];omega
    simp only[accV,accH,othV,List.nil_append,List.cons_append,List.map_cons,List.map_append,List.map_nil,List.length_append,List.length_cons,List.length_nil,Port.enc,Nat.zero_add,show ((2+j:Nat):Int)=2+(j:Int) from by omega]at ih ⊢
    simp[c163l0,leave,hlt,hlt',hat,hat2,hlen,hlen',okRow,Port.enc,c1,evOp.fillRows,normP,toP,toPL,evApp,rowsOf,isStr,e6,e7,e8,w64 ((j:Int)+1) (by omega) (by omega),gc,gcEnv,exp,expL,eOs,Exp.id,idxOf,List.range,List.range.loop,he,heC,heA,ih]
    done
end Go.Proofs.Z
end
