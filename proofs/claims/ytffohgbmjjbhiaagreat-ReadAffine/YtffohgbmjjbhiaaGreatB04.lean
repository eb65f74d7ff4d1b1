/- A part of the proof. -/
import Derived.Test.YtffohgbmjjbhiaaGreatB03
import Derived.DeepKeys
import Derived.Test.YtffohgbmjjbhiaaGreatB02
import Derived.Orders
set_option linter.all false
namespace Go.Proofs.Z
section
variable {P:Program}{o:Oper}{a:Act}{m:Mem}{μ:Mu}{G:Heap}{w:World}
theorem DC {x y:PV}{u v:Value}(hx:RP m u x)(hy:RP m v y){b:Bool}(h:jr 0 x y=some b){t:TypeId}(d:Nat)(hu:P.underlying t=some .bool) :
  (Op.equalIn (d+1) t u v).run P w=.ok b w:=by
 cases x<;>cases y<;>simp[jr]at h;subst h;cases hx;cases hy;simp[Op.equalIn,run_underlying hu]
theorem EL {x y:PV}{u v:Value}(hx:RP m u x)(hy:RP m v y){b:Bool}(h:jr 1 x y=some b){t:TypeId}(d:Nat){k:IntKind}(hu:P.underlying t=some (.int k)) :
  (Op.equalIn (d+1) t u v).run P w=.ok b w:=by
 cases x<;>cases y<;>simp[jr]at h;obtain⟨rfl,rfl⟩:=h;cases hx;cases hy;rename_i p q;simp[Op.equalIn,run_underlying hu];by_cases e:p=q<;>simp[e]
theorem EM {x y:PV}{u v:Value}(hx:RP m u x)(hy:RP m v y){b:Bool}(h:jr 2 x y=some b){t:TypeId}(d:Nat)(hu:P.underlying t=some .string) :
  (Op.equalIn (d+1) t u v).run P w=.ok b w:=by
 cases x<;>cases y<;>simp[jr]at h;subst h;cases hx;cases hy;rename_i p q;simp[Op.equalIn,run_underlying hu,g9,beq_toListBytes];by_cases e:p=q<;>simp[e]
theorem R.jS {i:Wp}{v:Value}{x:PV}(h:R m μ i v (.p x)):RP m v x:=by
 cases h;assumption
theorem RP.nC {v:Value}(h:RP m v .lS):v=.nilIface:=by cases h;rfl
theorem RP.yz {v:Value}(h:RP m v .pn):v=.pointer none:=by cases h;rfl
theorem RP.XA {v:Value}(h:RP m v .rF):v=.nilFunc:=by cases h;rfl
theorem RP.rQ {v:Value}{t:Nat}{x:PV}(h:RP m v (.eT t x)):∃z,v=.iface t z:=by cases h;exact⟨_,rfl⟩
theorem R.rQ {i:Wp}{v:Value}{t:Nat}{x:AV}(h:R m μ i v (.eT t x)):∃z,v=.iface t z:=by cases h;exact⟨_,rfl⟩
theorem R.CC {i:Wp}{v:Value}{id off:Nat}(h:R m μ i v (.ptr id off)):∃z,v=.pointer (some z):=by cases h;exact⟨_,rfl⟩
theorem R.EN {i:Wp}{v:Value}{f:Nat}{p q:List AV}(h:R m μ i v (.fn f p q)):∃g b c,v=.func g b c:=by cases h;exact⟨_,_,_,rfl⟩
theorem ui {t:TypeId}{n:Nat}(hn:UR P t=some n){xs:Array Value}{aK sz off:Nat}(h1:1<=n)(hle:off+n<=sz)(hs:aK+sz<=xs.size) :
  (part t (xs.extract aK (aK+sz)) off).run P w=(part t xs (aK+off)).run P w:=by
 simp only[part,Sem.run_bind];cases hq:(isAgg t).run P w with
 |halt h w'=>rfl
 |ok b w' =>
  simp only[Result.andThen_ok];cases b with
  |true =>
   have e:(xs.extract aK (aK+sz)).extract off (off+n)=xs.extract (aK+off) (aK+off+n):=by
    rw[mV]
    congr 1
    rw[eF (by omega)];omega
   simp[ep hn,eF hle,eI]
  |false =>
   simp only[aZ,if_false];have e:(xs.extract aK (aK+sz))[off]?=xs[aK+off]?:=by
    rw[Array.getElem?_extract,ah (by omega)]
   rw[e]
theorem qm (l l':List (Nat×Nat))(xs ys:List AV){r:Bool}(h:Ys (l++l') xs ys=some r):∃r1 r2,Ys l xs ys=some r1/\Ys l' xs ys=some r2/\r=(r1 && r2):=by
 induction l generalizing r with
 |nil=>exact⟨true,r,rfl,h,by simp⟩
 |cons p l ih =>
  rcases p with ⟨o,k⟩
  simp only[aH,Ys]at h ⊢;split at h
  ·split at h
   ·cases h
   ·rename_i e he;split at h
    ·cases h
    ·rename_i e' he';cases h;obtain⟨r1,r2,h1,h2,rfl⟩:=ih he';exact⟨e && r1,r2,by simp[he,h1],h2,by simp[mD]⟩
  ·cases h
theorem W2:∀(d:Nat) (t:TypeId) (aK:Nat) (ub:List (Nat×Nat)),jt P d t aK=some ub->∀(n:Nat),UR P t=some n->∀(xs ys:Array Value) (X Y:List AV) (i:Wp),
  RL m μ i xs.toList X->RL m μ i ys.toList Y->aK+n<=xs.size->aK+n<=ys.size->∀(r:Bool),Ys ub X Y=some r->∀D,
  ∃u v,(part t xs aK).run P w=.ok u w/\(part t ys aK).run P w=.ok v w/\(Op.equalIn (D+d) t u v).run P w=.ok r w
 |0,t,aK,ub,h,_,_=>by simp[jt]at h
 |d+1,t,aK,ub,h,n,hn=>by
  intro xs ys X Y i hX hY hxs hys r hr D;unfold jt at h;have leaf:∀k,ub=[(aK,k)]->Wi P t=some false->(∀{x y:PV} {u v:Value},RP m u x->RP m v y->∀{b:Bool},jr k x y=some b->(Op.equalIn (D+d+1) t u v).run P w=.ok b w) ->
    ∃u v,(part t xs aK).run P w=.ok u w/\(part t ys aK).run P w=.ok v w/\(Op.equalIn (D+(d+1)) t u v).run P w=.ok r w:=by
   intro k ho hg hl;subst ho;simp only[Ys]at hr;split at hr
   ·rename_i x y h1 h2;split at hr
    ·cases hr
    ·rename_i e he;cases hr;have e1:aK<xs.size:=by have:=(gE h1).1;have:=hX.1;simp at this;omega
     have e2:aK<ys.size:=by have:=(gE h2).1;have:=hY.1;simp at this;omega
     have r1:=hX.2 aK xs[aK] _ (by rw[Array.getElem?_toList,Array.getElem?_eq_getElem e1]) h1;have r2:=hY.2 aK ys[aK] _ (by rw[Array.getElem?_toList,Array.getElem?_eq_getElem e2]) h2;refine⟨xs[aK],ys[aK],by simp[part,pY hg,Array.getElem?_eq_getElem e1],by simp[part,pY hg,Array.getElem?_eq_getElem e2],?_⟩;exact hl r1.jS r2.jS (by rw[he,fL])
   ·cases hr
  split at h
  ·rename_i hu;split at h
   ·cases h;exact leaf 0 rfl (by simp[Wi,hu]) (λh1 h2 b h3=>DC h1 h2 h3 _ hu)
   ·cases h
  ·rename_i k hu;split at h
   ·cases h;exact leaf 1 rfl (by simp[Wi,hu]) (λh1 h2 b h3=>EL h1 h2 h3 _ hu)
   ·cases h
  ·rename_i hu;split at h
   ·cases h;exact leaf 2 rfl (by simp[Wi,hu]) (λh1 h2 b h3=>EM h1 h2 h3 _ hu)
   ·cases h
  ·rename_i fs hu;split at h
   ·cases h
   ·rename_i hst;rw[hn]at h;simp only[aP]at h;obtain⟨ls,hls,rfl⟩:=h;have hg:Wi P t=some true:=by simp[Wi,hu]
    refine⟨.agg (xs.extract aK (aK+n)),.agg (ys.extract aK (aK+n)),by simp[part,lX hg,ep hn],by simp[part,lX hg,ep hn],?_⟩;have hf:P.fieldsOf t=fs:=by simp[Program.fieldsOf,hu]
    rw[show D+(d+1)=(D+d)+1 from rfl,run_equalIn_struct (P:=P) w (D+d) t _ _ (by rw[hf];exact hu) (by simpa using hst),hf];generalize fs.toList=fl at hls;clear leaf
    induction fl generalizing ls r with
    |nil =>
     simp at hls;subst hls;simp[Ys]at hr;subst hr;simp[Op.eqFields]
    |cons f fl ih =>
     rw[VG]at hls;simp only[bind,UI,pure,bG]at hls;obtain⟨l1,h1,ls',h2,rfl⟩:=hls;rw[kc]at hr;obtain⟨r1,r2,q1,q2,rfl⟩:=qm _ _ _ _ hr;split at h1
     ·rename_i k hk;split at h1
      ·rename_i hc;obtain⟨u,v,p1,p2,p3⟩:=W2 d f.type (aK+f.offset) l1 h1 k hk xs ys X Y i hX hY (by omega) (by omega) r1 q1 D;have p1':(part f.type (xs.extract aK (aK+n)) f.offset).run P w=.ok u w:=by rw[ui hk hc.2.2 hc.2.1 hxs];exact p1
       have p2':(part f.type (ys.extract aK (aK+n)) f.offset).run P w=.ok v w:=by rw[ui hk hc.2.2 hc.2.1 hys];exact p2
       have hrec:=ih r2 ls' q2 h2;rw[Op.eqFields];simp only[ah hc.1,Sem.run_bind,p1',p2',p3,Result.andThen_ok];cases r1
       ·simp
       ·simpa using hrec
      ·cases h1
     ·cases h1
  ·rename_i len e hu;rw[hn]at h;split at h
   ·rename_i sz k hsz hk;cases hsz;split at h
    ·rename_i hc;simp only[aP]at h;obtain⟨ls,hls,rfl⟩:=h;have hg:Wi P t=some true:=by simp[Wi,hu]
     refine⟨.agg (xs.extract aK (aK+n)),.agg (ys.extract aK (aK+n)),by simp[part,lX hg,ep hn],by simp[part,lX hg,ep hn],?_⟩;have hie:∃ie,P.info? e=some ie/\ie.size=k:=by
      unfold UR at hk;cases hq:P.info? e with
      |none=>simp[hq]at hk
      |some ie=>exact⟨ie,rfl,by simpa [hq] using hk⟩
     obtain⟨ie,hie,hies⟩:=hie;rw[show D+(d+1)=(D+d)+1 from rfl,run_equalIn_array w (D+d) _ _ hu hie];have hcells:P.cellsOf e=k:=by simp[Program.cellsOf,hie,hies]
     rw[hcells];have hbound:∀j∈List.range len,j * k+k<=n:=λj hj=>by
      have:j<len:=by simpa using hj
      have:j * k+k<=len * k:=by rw[<- db];exact bh _ this
      omega
     generalize List.range len=fl at hls hbound;clear leaf
     induction fl generalizing ls r with
     |nil =>
      simp at hls;subst hls;simp[Ys]at hr;subst hr;simp[Op.eqItems]
     |cons j fl ih =>
      rw[VG]at hls;simp only[bind,UI,pure,bG]at hls;obtain⟨l1,h1,ls',h2,rfl⟩:=hls;rw[kc]at hr;obtain⟨r1,r2,q1,q2,rfl⟩:=qm _ _ _ _ hr;have hj:=hbound j (by simp);obtain⟨u,v,p1,p2,p3⟩:=W2 d e (aK+j * k) l1 h1 k hk xs ys X Y i hX hY (by omega) (by omega) r1 q1 D;have p1':(part e (xs.extract aK (aK+n)) (j * k)).run P w=.ok u w:=by rw[ui hk hc.2 hj hxs];exact p1
      have p2':(part e (ys.extract aK (aK+n)) (j * k)).run P w=.ok v w:=by rw[ui hk hc.2 hj hys];exact p2
      have hrec:=ih r2 ls' q2 h2 (λj' hj'=>hbound j' (by simp[hj']));rw[Op.eqItems];simp only[Sem.run_bind,p1',p2',p3,Result.andThen_ok];cases r1
      ·simp
      ·simpa using hrec
    ·cases h
   ·cases h
  ·cases h
theorem CD {t ty:TypeId}{x y:Operand}{b:Bool}(ho:o.op=.binOp .eql t x y ty)(hg:(eqGuard .eql t x y (a.eval x) (a.eval y)).run P w=.ok () w)
  (hb:binOp .eql t (a.eval x) (a.eval y)=(do let r <- Op.equal t (a.eval x) (a.eval y);pure (.bool r))) (h:(Op.equal t (a.eval x) (a.eval y)).run P w=.ok b w):(execOp a.eval o).run P w=.ok (.value (.bool b)) w:=by
 simp only[execOp,ho,Sem.run_bind,hg,Result.andThen_ok,hb,h,Sem.run_pure]
theorem CE {t ty:TypeId}{x y:Operand}{b:Bool}(ho:o.op=.binOp .neq t x y ty)(hg:(eqGuard .neq t x y (a.eval x) (a.eval y)).run P w=.ok () w)
  (hb:binOp .neq t (a.eval x) (a.eval y)=(do let r <- Op.equal t (a.eval x) (a.eval y);pure (.bool (!r)))) (h:(Op.equal t (a.eval x) (a.eval y)).run P w=.ok b w):(execOp a.eval o).run P w=.ok (.value (.bool (!b))) w:=by
 simp only[execOp,ho,Sem.run_bind,hg,Result.andThen_ok,hb,h,Sem.run_pure]
variable {N:Nat}{aN:Env}(hI:Inv m μ G w)(he:iq m μ (inf G) N aN a)
include hI he
theorem tF {op:BinOp}{t ty:TypeId}{x y:Operand}{ox oy:fe}(ho:o.op=.binOp op t x y ty)(hop:op=.eql\/op=.neq){d:TypeDesc}(ht:P.underlying t=some d)(hd:(∃fs,d=.struct fs)\/(∃n e,d=.array n e)){n:Nat}{ub:List (Nat×Nat)}(hn:UR P t=some n)(hl:jt P 8 t 0=some ub)(hgt:P.eqGuardType P.depth t=false)
  (hx:cY x=some ox) (hy:cY y=some oy) {u v:AV} (hu:eH aN ox=some u) (hv:eH aN oy=some v) (hun:u.cells.length=n) (hvn:v.cells.length=n) (huf:∃l,u=.ag l) (hvf:∃l,v=.ag l) {b:Bool} (hb:Ys ub u.cells v.cells=some b) {r:AV} (hr:Wr op (some b)=some r):Good P o a m μ G w (.val r G):=by
 obtain⟨l,rfl⟩:=huf;obtain⟨l',rfl⟩:=hvf;obtain⟨cs,ec,hs,hrr⟩:=(dx he hx hu).WJ;obtain⟨cs',ec',hs',hrr'⟩:=(dx he hy hv).WJ;simp only[AV.cells]at hun hvn hb;obtain⟨p,q,h1,h2,h3⟩:=W2 (P:=P) (w:=w) 8 t 0 ub hl n hn cs cs' l l' _ (RL.km hs hrr) (RL.km hs' hrr') (by omega) (by omega) b hb 9992;have hg:Wi P t=some true:=by rcases hd with ⟨fs,rfl⟩|⟨k,e,rfl⟩<;>simp[Wi,ht]
 have hex:∀(c:Array Value),c.size=n->c.extract 0 n=c:=λc hc=>by rw[<- hc];exact Array.extract_size
 have e1:p=.agg cs:=by
  simp only[part,Sem.run_bind,lX hg,Result.andThen_ok,if_true,ep hn,Sem.run_pure,aG,hex cs (by omega)]at h1;cases h1;rfl
 have e2:q=.agg cs':=by
  simp only[part,Sem.run_bind,lX hg,Result.andThen_ok,if_true,ep hn,Sem.run_pure,aG,hex cs' (by omega)]at h2;cases h2;rfl
 subst e1;subst e2;have hguard:(eqGuard op t x y (.agg cs) (.agg cs')).run P w=.ok () w:=by
  rcases hop with rfl|rfl<;>simp[eqGuard,hgt]
 rcases hop with rfl|rfl
 ·simp[Wr]at hr;subst hr;refine .same hI (val:=.bool b) ?_ (.bool _);simp[execOp,ho,ec,ec',hguard,binOp,Op.equal,Op.maxDepth,h3]
 ·simp[Wr]at hr;subst hr;refine .same hI (val:=.bool (!b)) ?_ (.bool _);simp[execOp,ho,ec,ec',hguard,binOp,Op.equal,Op.maxDepth,h3]
theorem EO {op:BinOp}{t ty:TypeId}{x y:Operand}{ox oy:fe}(ho:o.op=.binOp op t x y ty)(hx:cY x=some ox)(hy:cY y=some oy){u v:AV}(hu:eH aN ox=some u)(hv:eH aN oy=some v){r:AV}(hr:oV op .int u v=some r):Good P o a m μ G w (.val r G):=by
 unfold oV at hr;split at hr
 ·rename_i k p k' q heq;have h1:=(dx he hx hu).gL;have h2:=(dx he hy hv).gL;split at hr
  ·rename_i hk;subst hk;cases op
   case add=>cases hr;exact .same hI (by simp[execOp,ho,h1,h2,eqGuard,binOp,Op.intArith]) (.int _ _)
   case sub=>cases hr;exact .same hI (by simp[execOp,ho,h1,h2,eqGuard,binOp,Op.intArith]) (.int _ _)
   case mul=>cases hr;exact .same hI (by simp[execOp,ho,h1,h2,eqGuard,binOp,Op.intArith]) (.int _ _)
   case quo =>
    dsimp only at hr;split at hr
    ·cases hr
    ·rename_i hq;cases hr;exact .same hI (by simp[execOp,ho,h1,h2,eqGuard,binOp,Op.intDiv,hq]) (.int _ _)
   case rem =>
    dsimp only at hr;split at hr
    ·cases hr
    ·rename_i hq;cases hr;exact .same hI (by simp[execOp,ho,h1,h2,eqGuard,binOp,Op.intDiv,hq]) (.int _ _)
   case eql=>cases hr;exact .same hI (by simp[execOp,ho,h1,h2,eqGuard,binOp,Op.intCmp];rfl) (.bool _)
   case neq=>cases hr;exact .same hI (by simp[execOp,ho,h1,h2,eqGuard,binOp,Op.intCmp];rfl) (.bool _)
   case lss=>cases hr;exact .same hI (by simp[execOp,ho,h1,h2,eqGuard,binOp,Op.intCmp]) (.bool _)
   case leq=>cases hr;exact .same hI (by simp[execOp,ho,h1,h2,eqGuard,binOp,Op.intCmp]) (.bool _)
   case gtr=>cases hr;exact .same hI (by simp[execOp,ho,h1,h2,eqGuard,binOp,Op.intCmp]) (.bool _)
   case geq=>cases hr;exact .same hI (by simp[execOp,ho,h1,h2,eqGuard,binOp,Op.intCmp]) (.bool _)
   all_goals cases hr
  ·cases hr
 all_goals (rename_i h;first|cases h|cases hr)
theorem EP {op:BinOp}{t ty:TypeId}{x y:Operand}{ox oy:fe}(ho:o.op=.binOp op t x y ty)(hx:cY x=some ox)(hy:cY y=some oy){u v:AV}(hu:eH aN ox=some u)(hv:eH aN oy=some v){r:AV}(hr:oV op .str u v=some r):Good P o a m μ G w (.val r G):=by
 unfold oV at hr;split at hr
 ·rename_i heq;cases heq
 ·rename_i p q heq;have h1:=(dx he hx hu).n5;have h2:=(dx he hy hv).n5;cases op
  case add =>
   dsimp only at hr;split at hr
   ·rename_i hroom;cases hr;simp only[bZ,ab,Uq]at hroom;have hb:¬ ((((p.length+q.length:Nat):Int)) > IntKind.i64.max):=by
     have:=hroom.2;simp[IntKind.max,IntKind.signed,IntKind.bits];omega
    refine .same hI (val:=.string ⟨(p++q).toArray⟩) ?_ (.str _);simp only[execOp,ho,h1,h2,eqGuard,binOp,Op.stringOp,iS,yr,Sem.run_bind,hb,if_false];rfl
   ·cases hr
  case eql=>cases hr;exact .same hI (by simp[execOp,ho,h1,h2,eqGuard,binOp,Op.stringOp,g9];by_cases e:p=q<;>simp[e]) (.bool _)
  case neq=>cases hr;exact .same hI (by simp[execOp,ho,h1,h2,eqGuard,binOp,Op.stringOp,g9];by_cases e:p=q<;>simp[e]) (.bool _)
  case lss=>cases hr;exact .same hI (by simp[execOp,ho,h1,h2,eqGuard,binOp,Op.stringOp,g9]) (.bool _)
  case leq=>cases hr;exact .same hI (by simp[execOp,ho,h1,h2,eqGuard,binOp,Op.stringOp,g9];by_cases e:p=q<;>simp[e]) (.bool _)
  case gtr=>cases hr;exact .same hI (by simp[execOp,ho,h1,h2,eqGuard,binOp,Op.stringOp,g9];by_cases e:p=q<;>simp[e]) (.bool _)
  case geq=>cases hr;exact .same hI (by simp[execOp,ho,h1,h2,eqGuard,binOp,Op.stringOp,g9]) (.bool _)
  all_goals cases hr
 all_goals (rename_i h;first|cases h|cases hr)
theorem DD {op:BinOp}{t ty:TypeId}(ht:P.underlying t=some .bool){x y:Operand}{ox oy:fe}(ho:o.op=.binOp op t x y ty)(hx:cY x=some ox)(hy:cY y=some oy){u v:AV}(hu:eH aN ox=some u)(hv:eH aN oy=some v){r:AV}(hr:oV op .bool u v=some r):Good P o a m μ G w (.val r G):=by
 unfold oV at hr;split at hr
 ·rename_i heq;cases heq
 ·rename_i heq;cases heq
 ·rename_i p q heq;have h1:=(dx he hx hu).nA;have h2:=(dx he hy hv).nA;cases op
  case eql=>cases hr;exact .same hI (CD ho (by rw[h1,eqGuard_at_bool];rfl) (by rw[h1,h2];rfl) (by rw[h1,h2];exact run_equal_bool w t p q ht)) (.bool _)
  case neq=>cases hr;exact .same hI (CE ho (by rw[h1,eqGuard_at_bool];rfl) (by rw[h1,h2];rfl) (by rw[h1,h2];exact run_equal_bool w t p q ht)) (.bool _)
  all_goals cases hr
 ·cases hr
theorem uW {op:BinOp}{t ty:TypeId}{x y:Operand}{ox oy:fe}(ho:o.op=.binOp op t x y ty){c:o8}{d:TypeDesc}(ht:P.underlying t=some d)
  (hc:(c=.ptr/\∃e,d=.pointer e)\/(c=.fn/\∃p r v,d=.func p r v)\/(c=.eT/\(∃ms,d=.interface ms)/\(isNil x || isNil y)=true))
  (hx:cY x=some ox) (hy:cY y=some oy) {u v:AV} (hu:eH aN ox=some u) (hv:eH aN oy=some v) {r:AV} (hr:Wr op (mG c u v)=some r):Good P o a m μ G w (.val r G):=by
 have h1:=dx he hx hu;have h2:=dx he hy hv;cases hq:mG c u v with
 |none=>rw[hq]at hr;cases hr
 |some b =>
  rw[hq]at hr;have hop:op=.eql/\r=.p (.b b)\/op=.neq/\r=.p (.b (!b)):=by
   unfold Wr at hr;cases op<;>simp at hr<;>simp[hr]
  have fin:(eqGuard .eql t x y (a.eval x) (a.eval y)=pure ())->(eqGuard .neq t x y (a.eval x) (a.eval y)=pure ()) ->
    (binOp .eql t (a.eval x) (a.eval y)=(do let r <- Op.equal t (a.eval x) (a.eval y);pure (.bool r)))->(binOp .neq t (a.eval x) (a.eval y)=(do let r <- Op.equal t (a.eval x) (a.eval y);pure (.bool (!r)))) ->
    (Op.equalIn (9999+1) t (a.eval x) (a.eval y)).run P w=.ok b w->Good P o a m μ G w (.val r G):=by
   intro g1 g2 b1 b2 hh;rcases hop with ⟨rfl,rfl⟩|⟨rfl,rfl⟩
   ·exact .same hI (CD ho (by rw[g1];rfl) b1 hh) (.bool _)
   ·exact .same hI (CE ho (by rw[g2];rfl) b2 hh) (.bool _)
  unfold mG at hq;have kptr:c=.ptr->∃e,d=.pointer e:=λe=>by subst e;rcases hc with ⟨h,h'⟩|⟨h,_⟩|⟨h,_⟩<;>first|exact h'|cases h
  have kfn:c=.fn->∃p r v,d=.func p r v:=λe=>by subst e;rcases hc with ⟨h,h'⟩|⟨h,h'⟩|⟨h,_⟩<;>first|exact h'|cases h
  have kifc:c=.eT->(∃ms,d=.interface ms)/\(isNil x || isNil y)=true:=λe=>by subst e;rcases hc with ⟨h,h'⟩|⟨h,h'⟩|⟨h,h'⟩<;>first|exact h'|cases h
  have hnilc:∀z:Operand,isNil z=true->∃q,z=.const q:=λz hz=>by
   cases z with
   |const q=>exact⟨q,rfl⟩
   |_=>simp[isNil]at hz
  split at hq
  ·obtain⟨⟨ms,rfl⟩,hnil⟩:=kifc rfl;cases hq;have e1:=h1.jS.nC;have e2:=h2.jS.nC;have hg:∀op,eqGuard op t x y .nilIface .nilIface=pure ():=λop=>by
    rcases Bool.or_eq_true_iff.1 hnil with h|h
    ·obtain⟨q,rfl⟩:=hnilc _ h;exact eqGuard_nil_constL op t y q
    ·obtain⟨q,rfl⟩:=hnilc _ h;exact eqGuard_nil_constR op t x q
   rw[e1,e2]at fin;exact fin (hg _) (hg _) rfl rfl (by rw[Op.equalIn];simp[run_underlying ht])
  ·obtain⟨⟨ms,rfl⟩,hnil⟩:=kifc rfl;cases hq;have e1:=h1.jS.nC;obtain⟨z,e2⟩:=h2.rQ;rw[e1,e2]at fin;exact fin rfl rfl rfl rfl (by rw[Op.equalIn];simp[run_underlying ht])
  ·obtain⟨⟨ms,rfl⟩,hnil⟩:=kifc rfl;cases hq;obtain⟨z,e1⟩:=h1.rQ;have e2:=h2.jS.nC;rw[e1,e2]at fin;exact fin rfl rfl rfl rfl (by rw[Op.equalIn];simp[run_underlying ht])
  ·obtain⟨⟨ms,rfl⟩,hnil⟩:=kifc rfl;cases hq;have e1:=h1.jS.nC;obtain⟨z,e2⟩:=h2.jS.rQ;rw[e1,e2]at fin;exact fin rfl rfl rfl rfl (by rw[Op.equalIn];simp[run_underlying ht])
  ·obtain⟨⟨ms,rfl⟩,hnil⟩:=kifc rfl;cases hq;obtain⟨z,e1⟩:=h1.jS.rQ;have e2:=h2.jS.nC;rw[e1,e2]at fin;exact fin rfl rfl rfl rfl (by rw[Op.equalIn];simp[run_underlying ht])
  ·obtain⟨e,rfl⟩:=kptr rfl;cases hq;have e1:=h1.jS.yz;have e2:=h2.jS.yz;rw[e1,e2]at fin;exact fin rfl rfl rfl rfl (by rw[Op.equalIn];simp[run_underlying ht])
  ·obtain⟨e,rfl⟩:=kptr rfl;cases hq;have e1:=h1.jS.yz;obtain⟨z,e2⟩:=h2.CC;rw[e1,e2]at fin;exact fin rfl rfl rfl rfl (by rw[Op.equalIn];simp[run_underlying ht])
  ·obtain⟨e,rfl⟩:=kptr rfl;cases hq;obtain⟨z,e1⟩:=h1.CC;have e2:=h2.jS.yz;rw[e1,e2]at fin;exact fin rfl rfl rfl rfl (by rw[Op.equalIn];simp[run_underlying ht])
  ·obtain⟨p,r,v,rfl⟩:=kfn rfl;cases hq;have e1:=h1.jS.XA;have e2:=h2.jS.XA;rw[e1,e2]at fin;exact fin rfl rfl rfl rfl (by rw[Op.equalIn];simp[run_underlying ht])
  ·obtain⟨p,r,v,rfl⟩:=kfn rfl;cases hq;have e1:=h1.jS.XA;obtain⟨f,b,c,e2⟩:=h2.EN;rw[e1,e2]at fin;exact fin rfl rfl rfl rfl (by rw[Op.equalIn];simp[run_underlying ht])
  ·obtain⟨p,r,v,rfl⟩:=kfn rfl;cases hq;obtain⟨f,b,c,e1⟩:=h1.EN;have e2:=h2.jS.XA;rw[e1,e2]at fin;exact fin rfl rfl rfl rfl (by rw[Op.equalIn];simp[run_underlying ht])
  ·cases hq
end
theorem Vk {G:Heap}{x:Option AV}{r:jV}(h:one G x=some r):∃v,x=some v/\r=.val v G:=by
 cases x with
 |none=>simp[one]at h
 |some v=>simp[one]at h;exact⟨v,rfl,h.symm⟩
def od (P:Program)(f:Nat):Prop:=∃fn,P.funcs[f]?=some fn/\(fn.name == "runtime.NumGoroutine")=false/\fn.body.isNone=false
def fy (P:Program)(call:di):Prop:=∀f args G r,call f args G=some r->od P f
theorem rR {P:Program}{f:Nat}(h:od P f)(args:Array Value)(w:World):(callFunc f args).run P w=.ok (.enter f args) w:=by
 obtain⟨fn,h1,h2,h3⟩:=h;have h4:fn.name≠ "runtime.NumGoroutine":=by simpa using h2
 have h5:fn.body≠none:=by intro e;rw[e]at h3;cases h3
 simp[callFunc,go_sem,h1,h4,h5]
section
variable {P:Program}{pg:fX}{call:di}{o:Oper}{a:Act}{m:Mem}{μ:Mu}{G:Heap}{w:World}{N:Nat}{aN:Env}
theorem ud (hE:fy P call){f:Nat}{args:List AV}{r:Out×Heap}(h:UM pg call f args G=some r):od P f:=by
 unfold UM at h;split at h
 ·cases h
 ·split at h
  ·cases h
  ·split at h
   ·cases h
   ·rename_i hcall;exact hE _ _ _ _ hcall
variable (hC:f_ P call)(hE:fy P call)(hI:Inv m μ G w)(he:iq m μ (inf G) N aN a)
include hC hE hI he
theorem uX {f:Nat}{vargs:List Value}{args:List AV}(hrun:od P f->(execOp a.eval o).run P w=.ok (.enter f vargs.toArray) w)(hr:RL m μ (inf G) vargs args){r:jV}(h:jV.of (UM pg call f args G)=some r):Good P o a m μ G w r:=by
 cases hx:UM pg call f args G with
 |none=>rw[hx]at h;simp[jV.of]at h
 |some y =>
  rcases y with ⟨out,G'⟩
  rw[hx]at h;have hent:=ud hE hx;have hcall:=Yu hC hI hx hr;cases out with
  |ret v =>
   simp[jV.of]at h;subst h;intro next Q hn;unfold Oper.wp;rw[hrun hent,Oper.upon_enter];refine hcall.mono λe w' hp=>?_;obtain⟨m',cA,h1,h2,h3⟩:=hp;cases e with
   |returned v'=>exact hn m' cA w' v' h1 h2 h3
   |panicked chain=>exact h3.elim
   |outgrown=>exact h3.elim
  |iL v =>
   simp[jV.of]at h;subst h;intro next Q hn;unfold Oper.wp;rw[hrun hent,Oper.upon_enter];refine hcall.mono λe w' hp=>?_;obtain⟨m',cA,h1,h2,h3⟩:=hp;cases e with
   |returned v'=>exact h3.elim
   |panicked chain =>
    obtain⟨v',rfl,hv⟩:=h3;exact hn m' cA w' v' h1 h2 hv
   |outgrown=>exact h3.elim
theorem DE {f:Nat}{xs:Array Operand}{ts:Array TypeId}(ho:o.op=.call ⟨.value (.func f),xs,ts⟩){os:List fe}(hx:jR xs.toList=some os){args:List AV}(hv:gQ aN os=some args){r:jV}(h:jV.of (UM pg call f args G)=some r):Good P o a m μ G w r:=by
 refine uX hC hE hI he (vargs:=xs.toList.map a.eval) (λhent=>?_) (uJ he hx hv) h;have:(xs.toList.map a.eval).toArray=xs.map a.eval:=by apply fH;simp
 rw[this];simp[execOp,ho,resolve,Deferred.ofValue,Act.eval,invoke,rR hent]
theorem BD {x:Operand}{xs:Array Operand}{ts:Array TypeId}(ho:o.op=.call ⟨.value x,xs,ts⟩){ox:fe}(hx:cY x=some ox){os:List fe}(hxs:jR xs.toList=some os){f:Nat}{first aV:List AV}(hf:eH aN ox=some (.fn f first aV)){args:List AV}(hv:gQ aN os=some args){r:jV}(h:jV.of (UM pg call f (first++args++aV) G)=some r):Good P o a m μ G w r:=by
 obtain⟨va,vb,e,h1,h2⟩:=(dx he hx hf).zI;refine uX hC hE hI he (vargs:=va.toList++xs.toList.map a.eval++vb.toList) (λhent=>?_) ((h1.app (uJ he hxs hv)).app h2) h;have:(va.toList++xs.toList.map a.eval++vb.toList).toArray=va++xs.map a.eval++vb:=by apply fH;simp
 rw[this];simp[execOp,ho,resolve,Deferred.ofValue,e,invoke,rR hent]
omit hC hE
theorem BE {x:Operand}{ox:fe}(ho:o.op=.panic x)(hx:cY x=some ox){v:AV}(hv:eH aN ox=some v){r:jV}
  (h:(match some v with
   |some (.eT t v)=>match norm G (.eT t v) with
    |some (v,G)=>some (jV.iL v G)
    |none=>none
   |some (.p (.eT t v))=>some (.iL (.p (.eT t v)) G)
   |_=>none)=some r):Good P o a m μ G w r:=by
 have hr:=dx he hx hv;cases v with
 |eT t v =>
  dsimp only at h;split at h
  ·rename_i v' G' hn;cases h;obtain⟨m',hI',hS,hr'⟩:=jW _ hI hn hr;intro next Q hq;generalize hz:a.eval x=z at hr hr';cases hr with|eT _ z' _ hz' =>
   refine Yl (w':=w) (v:=.iface t z') ?_ ?_
   ·simp only[execOp,ho,hz];simp[Instr.panic,go_sem]
   ·exact hq m' μ w _ hI' hS hr'
  ·cases h
 |p x =>
  cases x with
  |eT t v =>
   dsimp only at h;cases h;intro next Q hq;have hr0:=hr;generalize hz:a.eval x=z at hr;cases hr with|p _ _ hp =>
   cases hp with|eT _ z' _ hz' =>
   refine Yl (w':=w) (v:=.iface t z') ?_ ?_
   ·simp only[execOp,ho,hz];simp[Instr.panic,go_sem]
   ·rw[hz]at hr0;exact hq m μ w _ hI (.refl _ _ _ _) hr0
  |_=>simp at h
 |_=>simp at h
theorem BF {x:Operand}{ox:fe}{s d:TypeId}(ho:o.op=.convert s d x)(hs:P.underlying s=some .string)(hd:P.underlying d=some .string)(hx:cY x=some ox){l:List UInt8}(hv:eH aN ox=some (.p (.s l))):Good P o a m μ G w (.val (.p (.s l)) G):=by
 have hb':=(dx he hx hv).n5;exact .same hI (by simp[execOp,ho,hb',convert,run_underlying hs,run_underlying hd]) (.str _)
theorem DF {args:Array Operand}{ts:Array TypeId}{x:Operand}{t e:TypeId}{n:Nat}(ho:o.op=.call ⟨.builtin .len,args,ts⟩)(ha:args.toList=[x])(ht:ts[0]?=some t)(hd:P.underlying t=some (.array n e)):Good P o a m μ G w (.val (.p (.i .i64 n)) G):=by
 have ha':args=#[x]:=by apply fH;simpa using ha
 refine .same hI (val:=.int .i64 n) ?_ (.int _ _);simp[execOp,ho,ha',resolve,invoke,builtin,Builtin.len_,Builtin.lenOf,go_sem,ht,run_underlying hd]
end
theorem Vp {α β:Type}{x:Option α}{f:α->β}{y:β}(h:x.map f=some y):∃a,x=some a/\y=f a:=by
 cases x with
 |none=>simp at h
 |some a=>simp at h;exact⟨a,rfl,h.symm⟩
section
variable {P:Program}{pg:fX}{call:di}{o:Oper}{a:Act}{m:Mem}{μ:Mu}{G:Heap}{w:World}{N:Nat}{aN:Env}
variable (hC:f_ P call)(hE:fy P call)(hI:Inv m μ G w)(he:iq m μ (inf G) N aN a)
include hC hE hI he
theorem IP {op:BinOp}{t ty:TypeId}{x y:Operand}(ho:o.op=.binOp op t x y ty){c:o8}(hcl:Bp P op t x y=some c){ox oy:fe}(hx:cY x=some ox)(hy:cY y=some oy){r:jV}(h:Uu pg call (.bin op c ox oy) aN G=some r):Good P o a m μ G w r:=by
 simp only[Uu]at h;split at h
 ·rename_i u v hu hv;unfold Bp at hcl;split at hcl
  ·cases hcl;obtain⟨z,hz,rfl⟩:=Vk h;exact EO hI he ho hx hy hu hv hz
  ·cases hcl;obtain⟨z,hz,rfl⟩:=Vk h;exact EP hI he ho hx hy hu hv hz
  ·rename_i ht;cases hcl;obtain⟨z,hz,rfl⟩:=Vk h;exact DD hI he ht ho hx hy hu hv hz
  ·rename_i e ht;cases hcl;obtain⟨z,hz,rfl⟩:=Vk h;exact uW hI he ho ht (.inl ⟨rfl,e,rfl⟩) hx hy hu hv hz
  ·rename_i p q vv ht;cases hcl;obtain⟨z,hz,rfl⟩:=Vk h;exact uW hI he ho ht (.inr (.inl ⟨rfl,p,q,vv,rfl⟩)) hx hy hu hv hz
  ·rename_i ms ht;split at hcl
   ·rename_i hnil;cases hcl;obtain⟨z,hz,rfl⟩:=Vk h;exact uW hI he ho ht (.inr (.inr ⟨rfl,⟨ms,rfl⟩,hnil⟩)) hx hy hu hv hz
   ·cases hcl
  ·rename_i fs ht;have key:(op=.eql\/op=.neq)->(match UR P t,jt P 8 t 0 with
    |some n,some l=>if P.eqGuardType P.depth t=true then none else some (o8.leaves n l)
    |_,_=>none)=some c->Good P o a m μ G w r:=by
    intro hop hcl;split at hcl
    ·rename_i n l hn hl;split at hcl
     ·cases hcl
     ·rename_i hgt;cases hcl;dsimp only at h;split at h
      ·split at h
       ·rename_i hlen;obtain⟨z,hz,rfl⟩:=Vk h;cases hb:Ys l _ _ with
        |none=>rw[hb]at hz;simp[Wr]at hz
        |some b =>
         rw[hb]at hz;exact tF hI he ho hop ht (.inl ⟨fs,rfl⟩) hn hl (by simpa using hgt) hx hy hu hv (by simpa [AV.cells] using hlen.1) (by simpa [AV.cells] using hlen.2) ⟨_,rfl⟩ ⟨_,rfl⟩ (by simpa [AV.cells] using hb) hz
       ·cases h
      ·cases h
    ·cases hcl
   split at hcl
   ·exact key (.inl rfl) hcl
   ·exact key (.inr rfl) hcl
   ·cases hcl
  ·rename_i k e ht;have key:(op=.eql\/op=.neq)->(match UR P t,jt P 8 t 0 with
    |some n,some l=>if P.eqGuardType P.depth t=true then none else some (o8.leaves n l)
    |_,_=>none)=some c->Good P o a m μ G w r:=by
    intro hop hcl;split at hcl
    ·rename_i n l hn hl;split at hcl
     ·cases hcl
     ·rename_i hgt;cases hcl;dsimp only at h;split at h
      ·split at h
       ·rename_i hlen;obtain⟨z,hz,rfl⟩:=Vk h;cases hb:Ys l _ _ with
        |none=>rw[hb]at hz;simp[Wr]at hz
        |some b =>
         rw[hb]at hz;exact tF hI he ho hop ht (.inr ⟨k,e,rfl⟩) hn hl (by simpa using hgt) hx hy hu hv (by simpa [AV.cells] using hlen.1) (by simpa [AV.cells] using hlen.2) ⟨_,rfl⟩ ⟨_,rfl⟩ (by simpa [AV.cells] using hb) hz
       ·cases h
      ·cases h
    ·cases hcl
   split at hcl
   ·exact key (.inl rfl) hcl
   ·exact key (.inr rfl) hcl
   ·cases hcl
  ·cases hcl
 ·cases h
end
theorem uY {x:Operand}{xs:List Operand}{ox:List fe}(h:jR (x::xs)=some ox):∃y ys,ox=y::ys/\cY x=some y/\jR xs=some ys:=by
 simp only[jR]at h;split at h
 ·cases h
 ·rename_i y hy;split at h
  ·cases h
  ·rename_i ys hys;cases h;exact⟨y,ys,rfl,hy,hys⟩
theorem ER {l:List Operand}{y:fe}(h:jR l=some [y]):∃x,l=[x]/\cY x=some y:=by
 cases l with
 |nil=>simp[jR]at h
 |cons x xs =>
  obtain⟨y',ys,e,h1,h2⟩:=uY h;cases e;cases xs with
  |nil=>exact⟨x,rfl,h1⟩
  |cons x' xs=>obtain⟨y',ys,e,h1,h2⟩:=uY h2;cases e
theorem BG {l:List Operand}{y z:fe}(h:jR l=some [y,z]):∃x x',l=[x,x']/\cY x=some y/\cY x'=some z:=by
 cases l with
 |nil=>simp[jR]at h
 |cons x xs =>
  obtain⟨y',ys,e,h1,h2⟩:=uY h;cases e;obtain⟨x',e,h3⟩:=ER h2;subst e;exact⟨x,x',rfl,h1,h3⟩
theorem zQ {aN:Env}{x y:fe}{p q:AV}(h:gQ aN [x,y]=some [p,q]):eH aN x=some p/\eH aN y=some q:=by
 simp only[gQ]at h;split at h
 ·cases h
 ·rename_i p' hp;split at h
  ·cases h
  ·rename_i vs hv;split at hv
   ·cases hv
   ·rename_i q' hq;cases hv;cases h;exact⟨hp,hq⟩
section
variable {P:Program}{pg:fX}{call:di}{o:Oper}{a:Act}{m:Mem}{μ:Mu}{G:Heap}{w:World}{N:Nat}{aN:Env}
variable (hC:f_ P call)(hE:fy P call)(hI:Inv m μ G w)(he:iq m μ (inf G) N aN a)
include hC hE hI he
theorem GQ {c:Call}(ho:o.op=.call c){co:qd}(hc:tv P (.call c)=some co){r:jV}(h:Uu pg call co aN G=some r):Good P o a m μ G w r:=by
 rcases c with ⟨callee,args,ts⟩
 simp only[tv]at hc;split at hc
 ·
  rename_i f os hos;cases hc;simp only[Uu]at h;split at h
  ·rename_i vs hvs;exact DE hC hE hI he ho hos hvs h
  ·cases h
 ·rename_i x os hne hos;obtain⟨ox,hx,rfl⟩:=Vp hc;simp only[Uu]at h;split at h
  ·rename_i hf hvs;exact BD hC hE hI he ho hx hos hf hvs h
  ·cases h
 ·rename_i y hos;obtain⟨x,hl,hx⟩:=ER hos;split at hc
  ·rename_i ht;cases hc;obtain⟨t,ht1,ht2⟩:=UI.1 ht;simp only[Uu]at h;split at h
   ·rename_i v hv;split at h
    ·rename_i n hn;cases h;exact zE hI he ho hl ht1 ht2 (by simp) hx hv hn
    ·cases h
   ·cases h
  ·rename_i e ht;cases hc;obtain⟨t,ht1,ht2⟩:=UI.1 ht;simp only[Uu]at h;split at h
   ·rename_i v hv;split at h
    ·rename_i n hn;cases h;exact zE hI he ho hl ht1 ht2 (by simp) hx hv hn
    ·cases h
   ·cases h
  ·rename_i n e ht;cases hc;obtain⟨t,ht1,ht2⟩:=UI.1 ht;simp only[Uu]at h;obtain⟨z,hz,rfl⟩:=Vk h;simp[eH]at hz;subst hz;exact DF hI he ho hl ht1 ht2
  ·cases hc
 ·rename_i y z hos;obtain⟨x,x',hl,hx,hx'⟩:=BG hos;split at hc
  ·rename_i e u ht hu;obtain⟨t,ht1,ht2⟩:=UI.1 ht;obtain⟨t',ht1',ht2'⟩:=UI.1 hu;split at hc
   ·rename_i sz by_ _ e' hn hb;split at hc
    ·rename_i hok;cases hc;simp only[ab,Uq,cZ]at hok;simp only[Uu]at h;split at h
     ·rename_i p q hp hq;split at h
      ·rename_i v G' hap;cases h;exact zO hI he ho hl ht1 ht1' hok.2 ht2 hn hb hok.1.2 hok.1.1 (by simpa using ⟨_,ht2'⟩) hx hx' hp hq hap
      ·cases h
     ·cases h
    ·cases hc
   ·rename_i sz by_ _ hn hb;split at hc
    ·rename_i hok;cases hc;simp only[ab,Uq,cZ]at hok;simp only[Uu]at h;split at h
     ·rename_i p q hp hq;split at h
      ·rename_i v G' hap;cases h;exact zO hI he ho hl ht1 ht1' hok.2 ht2 hn hb hok.1.2 (by omega) (by simpa using ⟨ht2',hok.1.1⟩) hx hx' hp hq hap
      ·cases h
     ·cases h
    ·cases hc
   ·cases hc
  ·cases hc
 ·rename_i y z hos;obtain⟨x,x',hl,hx,hx'⟩:=BG hos;cases hc;simp only[Uu]at h;split at h
  ·rename_i k p k' q hpq;cases h;obtain⟨h1,h2⟩:=zQ hpq;exact Ey hI he ho hl hx hx' h1 h2
  ·cases h
 ·rename_i y z hos;obtain⟨x,x',hl,hx,hx'⟩:=BG hos;cases hc;simp only[Uu]at h;split at h
  ·rename_i k p k' q hpq;cases h;obtain⟨h1,h2⟩:=zQ hpq;exact Ez hI he ho hl hx hx' h1 h2
  ·cases h
 ·cases hc
theorem uZ {co:qd}(hc:tv P o.op=some co){r:jV}(h:Uu pg call co aN G=some r):Good P o a m μ G w r:=by
 cases ho:o.op with
 |move x =>
  rw[ho]at hc;obtain⟨ox,hx,rfl⟩:=Vp hc;obtain⟨v,hv,rfl⟩:=Vk h;exact zx hI he (.inl ho) hx hv
 |assign x =>
  rw[ho]at hc;obtain⟨ox,hx,rfl⟩:=Vp hc;obtain⟨v,hv,rfl⟩:=Vk h;exact zx hI he (.inr ho) hx hv
 |pick c x y =>
  rw[ho]at hc;simp only[tv]at hc;split at hc
  ·rename_i oc ox oy hcc hx hy;cases hc;simp only[Uu]at h;split at h
   ·rename_i b hb;split at h
    ·rename_i hbt;obtain⟨v,hv,rfl⟩:=Vk h;exact Ym hI he ho hcc hx hy hb (by rw[ah hbt];exact hv)
    ·rename_i hbt;obtain⟨v,hv,rfl⟩:=Vk h;exact Ym hI he ho hcc hx hy hb (by rw[aa hbt];exact hv)
   ·cases h
  ·cases hc
 |alloc e =>
  rw[ho]at hc;obtain⟨cs,hz,rfl⟩:=Vp hc;simp only[Uu]at h;split at h
  ·rename_i hf;cases h;exact EK hI he ho hz hf
  ·cases h
 |box t x =>
  rw[ho]at hc;obtain⟨ox,hx,rfl⟩:=Vp hc;simp only[Uu]at h;split at h
  ·rename_i v hv;split at h
   ·rename_i hf;cases h;exact EJ hI he ho hx hv hf
   ·cases h
  ·cases h
 |build t ps =>
  rw[ho]at hc;simp only[tv]at hc;have key:∀{places:Nat->Option (Nat×Nat)} {d:TypeDesc} {z:List AV},P.underlying t=some d->Wj P t=some z->z.all AV.flat=true ->
    ((∃fs,d=.struct fs/\fs.toList.all (λf=>(UR P f.type).isSome)=true/\places=λi=>match fs[i]? with|some f=>(UR P f.type).map λn=>(f.offset,n)|none=>none) \/
    (∃k e n,d=.array k e/\UR P e=some n/\places=λi=>some (i * n,n)))->(o_ places ps.toList).map (.build z)=some co->Good P o a m μ G w r:=by
   intro places d z ht hz hzf hpl hc;obtain⟨l,hl,rfl⟩:=Vp hc;simp only[Uu]at h;split at h
   ·cases h
   ·rename_i vs hv;split at h
    ·cases h
    ·rename_i cs hcs;cases h;exact Bz hI he ho ht hz hzf hpl hl hv hcs
  split at hc
  ·rename_i fs z ht hz;split at hc
   ·rename_i hall;exact key ht hz hall.1 (.inl ⟨fs,rfl,hall.2,rfl⟩) hc
   ·cases hc
  ·rename_i k e z ht hz;split at hc
   ·rename_i n hn;split at hc
    ·rename_i hall;exact key ht hz hall (.inr ⟨k,e,n,rfl,hn,rfl⟩) hc
    ·cases hc
   ·cases hc
  ·cases hc
 |buildSlice t n ps =>
  rw[ho]at hc;simp only[tv]at hc;split at hc
  ·rename_i e ht;split at hc
   ·rename_i sz z l hn hz hl;split at hc
    ·rename_i hok;simp only[ab,Uq,cZ]at hok;cases hc;simp only[Uu]at h;split at h
     ·rename_i hok2;split at h
      ·cases h
      ·rename_i vs hv;split at h
       ·cases h
       ·rename_i ay G' hrows;cases h;exact zL hI he ho ht hn hz hok2.1 hok2.2 hok.1.1 hl hv hrows
     ·cases h
    ·cases hc
   ·cases hc
  ·cases hc
 |load t x =>
  rw[ho]at hc;simp only[tv]at hc;split at hc
  ·rename_i n g ox hn hg hx;cases hc;simp only[Uu]at h;split at h
   ·rename_i v hv;obtain⟨y,hy,rfl⟩:=Vk h;exact Dv hI he ho hn hg hx hv hy
   ·cases h
  ·cases hc
 |store t x y =>
  rw[ho]at hc;simp only[tv]at hc;split at hc
  ·rename_i n ox oy hn hx hy;cases hc;simp only[Uu]at h;split at h
   ·rename_i u v hu hv;split at h
    ·rename_i G' hs;cases h;exact BB hI he ho hn hx hy hu hv hs
    ·cases h
   ·cases h
  ·cases hc
 |nilCheck x =>
  rw[ho]at hc;obtain⟨ox,hx,rfl⟩:=Vp hc;simp only[Uu]at h;split at h
  ·rename_i hv;cases h;exact n6 hI he ho hx hv (.inl ⟨_,_,rfl⟩)
  ·rename_i hv;cases h;exact n6 hI he ho hx hv (.inr (.inl ⟨_,_,_,_,rfl⟩))
  ·rename_i hv;cases h;exact n6 hI he ho hx hv (.inr (.inr (.inl ⟨_,rfl⟩)))
  ·rename_i hv;cases h;exact n6 hI he ho hx hv (.inr (.inr (.inr ⟨_,_,_,rfl⟩)))
  ·cases h
 |binOp op t x y ty =>
  rw[ho]at hc;simp only[tv]at hc;split at hc
  ·rename_i c ox oy hcl hx hy;cases hc;exact IP hC hE hI he ho hcl hx hy h
  ·cases hc
 |unOp op t x =>
  rw[ho]at hc;cases op with
  |not =>
   obtain⟨ox,hx,rfl⟩:=Vp hc;simp only[Uu]at h;split at h
   ·rename_i hv;cases h;exact Ev hI he ho hx hv
   ·cases h
  |neg =>
   obtain⟨ox,hx,rfl⟩:=Vp hc;simp only[Uu]at h;split at h
   ·rename_i hv;cases h;exact Ew hI he ho hx hv
   ·cases h
  |_=>simp[tv]at hc
 |convert s d x =>
  rw[ho]at hc;simp only[tv]at hc;split at hc
  ·rename_i k k' hs hd;obtain⟨ox,hx,rfl⟩:=Vp hc;simp only[Uu]at h;split at h
   ·rename_i hv;cases h;exact Ds hI he ho hs hd hx hv
   ·cases h
  ·rename_i hs hd;obtain⟨ox,hx,rfl⟩:=Vp hc;simp only[Uu]at h;split at h
   ·rename_i hv;cases h;exact BF hI he ho hs hd hx hv
   ·cases h
  ·rename_i e hs hd;split at hc
   ·rename_i hu;obtain⟨ox,hx,rfl⟩:=Vp hc;simp only[Uu]at h;split at h
    ·rename_i v hv;split at h
     ·rename_i l hl;cases h;exact BC hI he ho hs hd hu hx hv hl
     ·cases h
    ·cases h
   ·cases hc
  ·cases hc
 |makeInterface t x =>
  rw[ho]at hc;simp only[tv]at hc;split at hc
  ·cases hc
  ·rename_i d hne ht;obtain⟨ox,hx,rfl⟩:=Vp hc;simp only[Uu]at h;split at h
   ·rename_i v hv;cases h;exact Dt hI he ho ht (λms e=>hne ms e) hx hv
   ·cases h
  ·cases hc
 |makeFunc f x y =>
  rw[ho]at hc;cases f with
  |func f =>
   simp only[tv]at hc;split at hc
   ·rename_i ox oy hx hy;cases hc;simp only[Uu]at h;split at h
    ·rename_i u v hu hv;cases h;exact Du hI he ho hx hy hu hv
    ·cases h
   ·cases hc
  |_=>simp[tv]at hc
 |makeSlice t x y =>
  rw[ho]at hc;simp only[tv]at hc;split at hc
  ·rename_i e ht;split at hc
   ·rename_i sz by_ z ox oy hn hb hz hx hy;split at hc
    ·rename_i hok;cases hc;simp only[Uu]at h;split at h
     ·rename_i l c hl hcc;split at h
      ·rename_i hh;cases h;exact yx hI he ho ht hn hb hz hh.2.2.2.1 hh.2.2.2.2 hx hy hl hcc hh.1 hh.2.1 hh.2.2.1
      ·cases h
     ·cases h
    ·cases hc
   ·cases hc
  ·cases hc
 |slice t x lo hi mx =>
  rw[ho]at hc;cases mx with
  |some mx=>simp[tv]at hc
  |none =>
   simp only[tv]at hc;split at hc
   ·rename_i ht;split at hc
    ·rename_i ox olo ohi hx hlo hhi;cases hc;simp only[Uu]at h;split at h
     ·cases h
     ·rename_i v hv;split at h
      ·rename_i hstr;split at h
       ·rename_i l hh hl hhh;split at h
        ·rename_i r' G' hs;cases h;exact xu hI he ho ht (.inl rfl) hx hlo hhi hv (by cases olo<;>exact hl) (by cases ohi<;>exact hhh) (by simpa using hstr) hs
        ·cases h
       ·cases h
      ·cases h
    ·cases hc
   ·rename_i e ht;split at hc
    ·rename_i sz ox olo ohi hn hx hlo hhi;cases hc;simp only[Uu]at h;split at h
     ·cases h
     ·rename_i v hv;split at h
      ·rename_i hstr;split at h
       ·rename_i l hh hl hhh;split at h
        ·rename_i r' G' hs;cases h;exact xu hI he ho ht (.inr ⟨e,rfl,hn⟩) hx hlo hhi hv (by cases olo<;>exact hl) (by cases ohi<;>exact hhh) (by simpa using hstr) hs
        ·cases h
       ·cases h
      ·cases h
    ·cases hc
   ·cases hc
 |fieldAddr t x k =>
  rw[ho]at hc;simp only[tv]at hc;split at hc
  ·rename_i fs ht;split at hc
   ·rename_i f hf;split at hc
    ·rename_i n ox hn hx;split at hc
     ·cases hc
     ·rename_i hn0;cases hc;simp only[Uu]at h;split at h
      ·rename_i hv;cases h;exact qP hI he ho ht hf hn hn0 hx hv (.inl ⟨_,_,rfl,rfl⟩)
      ·rename_i hv;cases h;exact qP hI he ho ht hf hn hn0 hx hv (.inr (.inl ⟨_,_,_,_,rfl,rfl⟩))
      ·rename_i hv;cases h;exact qP hI he ho ht hf hn hn0 hx hv (.inr (.inr ⟨_,rfl,rfl⟩))
      ·cases h
    ·cases hc
   ·cases hc
  ·cases hc
 |field t x k =>
  rw[ho]at hc;simp only[tv]at hc;split at hc
  ·rename_i fs ht;split at hc
   ·rename_i f hf;split at hc
    ·rename_i n g ox hn hg hx;cases hc;simp only[Uu]at h;split at h
     ·rename_i cs hv;have:∀y,r=.val y G->(if g=true then (if f.offset+n<=cs.length then some (AV.ag ((cs.drop f.offset).take n)) else none) else cs[f.offset]?)=some y->Good P o a m μ G w r:=by
       intro y e hy;subst e;exact Bv hI he ho ht hf hn hg hx hv hy
      split at h
      ·rename_i hg1;split at h
       ·rename_i hle;cases h;exact this _ rfl (by rw[ah hg1,ah hle])
       ·cases h
      ·rename_i hg1;obtain⟨y,hy,rfl⟩:=Vk h;exact this _ rfl (by rw[aa hg1];exact hy)
     ·cases h
    ·cases hc
   ·cases hc
  ·cases hc
 |indexAddr t x y =>
  rw[ho]at hc;simp only[tv]at hc;split at hc
  ·rename_i k e ht;split at hc
   ·rename_i sz ox oy hn hx hy;cases hc;simp only[Uu]at h;split at h
    ·rename_i v kk i hv hi;split at h
     ·split at h
      ·rename_i hh;cases h;exact tz hI he ho ht hn hx hy hv hi hh.1 hh.2 (.inl ⟨_,_,rfl,rfl⟩)
      ·cases h
     ·split at h
      ·rename_i hh;cases h;exact tz hI he ho ht hn hx hy hv hi hh.1 hh.2 (.inr ⟨_,rfl,rfl⟩)
      ·cases h
     ·cases h
    ·cases h
   ·cases hc
  ·rename_i e ht;split at hc
   ·rename_i sz ox oy hn hx hy;cases hc;simp only[Uu]at h;split at h
    ·rename_i v kk i hv hi;split at h
     ·split at h
      ·rename_i h0;split at h
       ·rename_i row hrow;split at h
        ·rename_i hok;cases h;exact zA hI he ho ht hn hx hy hv hi h0 hrow hok
        ·cases h
       ·cases h
      ·cases h
     ·split at h
      ·rename_i hG;split at h
       ·rename_i hh;cases h;obtain⟨h0,h1,h2,h3,h4⟩:=hh;subst h2;subst h3;exact zB hI he ho ht hn hx hy hv hi h0 h1 hG
       ·cases h
      ·cases h
     ·cases h
    ·cases h
   ·cases hc
  ·cases hc
 |index t x y =>
  rw[ho]at hc;simp only[tv]at hc;split at hc
  ·rename_i k e ht;split at hc
   ·rename_i sz g ox oy hn hg hx hy;cases hc;simp only[Uu]at h;split at h
    ·rename_i v kk i hv hi;split at h
     ·rename_i len n ag cs heq;cases heq;split at h
      ·rename_i hh;have:∀y,r=.val y G->(if g=true then (if i.toNat * sz+sz<=cs.length then some (AV.ag ((cs.drop (i.toNat * sz)).take sz)) else none) else cs[i.toNat * sz]?)=some y->Good P o a m μ G w r:=by
        intro y e hy';subst e;exact zC hI he ho ht hn hg hx hy hv hi hh.1 hh.2 hy'
       split at h
       ·rename_i hg1;split at h
        ·rename_i hle;cases h;exact this _ rfl (by rw[ah hg1,ah hle])
        ·cases h
       ·rename_i hg1;obtain⟨y,hy,rfl⟩:=Vk h;exact this _ rfl (by rw[aa hg1];exact hy)
      ·cases h
     ·rename_i heq;cases heq
     ·cases h
    ·cases h
   ·cases hc
  ·rename_i ht;split at hc
   ·rename_i ox oy hx hy;cases hc;simp only[Uu]at h;split at h
    ·rename_i v kk i hv hi;split at h
     ·rename_i heq;cases heq
     ·split at h
      ·rename_i h0;split at h
       ·rename_i c hcc;cases h;exact zD hI he ho ht hx hy hv hi h0 hcc
       ·cases h
      ·cases h
     ·cases h
    ·cases h
   ·cases hc
  ·cases hc
 |extract x k =>
  rw[ho]at hc;obtain⟨ox,hx,rfl⟩:=Vp hc;simp only[Uu]at h;split at h
  ·rename_i vs hv;obtain⟨y,hy,rfl⟩:=Vk h;exact yq hI he ho hx hv hy
  ·cases h
 |call c =>
  rw[ho]at hc;exact GQ hC hE hI he ho hc h
 |panic x =>
  rw[ho]at hc;obtain⟨ox,hx,rfl⟩:=Vp hc;cases hv:eH aN ox with
  |none=>simp[Uu,hv]at h
  |some v =>
   refine BE hI he ho hx hv ?_;simp only[Uu,hv]at h;exact h
 |_=>rw[ho]at hc;simp[tv]at hc
end
theorem nD {P:Program}{N:Nat}{ops:Array Oper}{o:Oper}{ci:CI}(h:mJ P N ops o=some ci) :
  tv P o.op=some ci.o/\ci.d=o.dst/\zn N o.dst=true/\((o.guard=none/\ci.g=none)\/∃j w d,o.guard=some (j,w)/\(ops[j]?).bind (·.dst)=some d/\ci.g=some (d,w)):=by
 unfold mJ at h;split at h
 ·cases h
 ·rename_i c hc;split at h
  ·rename_i hd;split at h
   ·rename_i hg;cases h;exact⟨hc,rfl,hd,.inl ⟨hg,rfl⟩⟩
   ·rename_i j w hg;split at h
    ·rename_i d hj;cases h;exact⟨hc,rfl,hd,.inr ⟨j,w,d,hg,hj,rfl⟩⟩
    ·cases h
  ·cases h
theorem R.GR {m:Mem}{μ:Mu}{i:Wp}{v:Value}{x:AV}(h:R m μ i v x)(hx:∀b,x≠.p (.b b)):∀b,v≠.bool b:=by
 intro b e;subst e;cases h with
 |p _ _ hp=>cases hp;exact hx _ rfl
theorem Xd {P:Program}{N:Nat}{ops:Array Oper}{o:Oper}{ci:CI}(h:mJ P N ops o=some ci){m:Mem}{μ:Mu}{i:Wp}{aN:Env}{a:Act}(he:iq m μ i N aN a){b:Bool}(hg:tu aN ci.g=some b) :
  Region.wanted o (yielded ops a.tmps)=b:=by
 obtain⟨_,_,_,h4⟩:=nD h;rcases h4 with ⟨h1,h2⟩|⟨j,w,d,h1,h2,h3⟩
 ·rw[h2]at hg;simp[tu]at hg;subst hg;simp[Region.wanted,h1]
 ·rw[h3]at hg;simp only[tu]at hg;have hy:yielded ops a.tmps j=(match a.tmps[d]? with|some (.bool b)=>some b|_=>none):=by
   unfold yielded;rw[h2];rfl
  simp only[Region.wanted,h1,hy];split at hg
  ·rename_i bb hb;cases hg;have hv:=(he.val d _ hb).nA;have:a.tmps[d]?=some (.bool bb):=by
    cases ht:a.tmps[d]? with
    |none=>simp[bQ,ht,undef]at hv
    |some v=>simp[bQ,ht]at hv;rw[hv]
   rw[this];cases bb<;>cases w<;>rfl
  ·rename_i x hne hx;cases hg;have hnb:=(he.val d _ hx).GR (λb e=>hne b e);cases ht:a.tmps[d]? with
   |none=>rfl
   |some v =>
    have hnb':∀b,v≠.bool b:=λb e=>hnb b (by simp[bQ,ht,e]);cases v<;>first|rfl|exact absurd rfl (hnb' _)
  ·cases hg
section
variable {P:Program}{pg:fX}{call:di}{N:Nat}{ops:Array Oper}
variable (hC:f_ P call)(hE:fy P call)
include hC hE
theorem XY {o:Oper}{ci:CI}(h:mJ P N ops o=some ci){aN:Env}{G:Heap}{F:Env}{G1:Heap}(hev:kE pg call ci aN G=some (F,G1)){m:Mem}{μ:Mu}{a:Act}{w:World}
  (hI:Inv m μ G w) (he:iq m μ (inf G) N aN a) {next:Act->World->Prop} {Q:Exit->Act->World->Prop}
  (hn:∀m' cA w' val,Inv m' cA G1 w'->lC m μ G w m' cA G1 w'->iq m' cA (inf G1) N F (a.put o.dst val)->next (a.put o.dst val) w') :
  if Region.wanted o (yielded ops a.tmps) then o.wp P a w next Q else next (a.put o.dst undef) w:=by
 obtain⟨h1,h2,h3,h4⟩:=nD h;unfold kE at hev;split at hev
 ·cases hev
 ·rename_i hg;cases hev;rw[Xd h he hg];exact hn m μ w undef hI (.refl _ _ _ _) (by rw[h2];exact he.put h3 .undef)
 ·rename_i hg;rw[Xd h he hg];split at hev
  ·rename_i v G2 hv;cases hev;have:=uZ hC hE hI he h1 hv next Q;refine this λm' cA w' val hI' hS hr=>hn m' cA w' val hI' hS ?_;rw[h2];exact(he.mono hS.ext).put h3 hr
  ·cases hev
structure zR where
 m:Mem
 μ:Mu
 G:Heap
 w:World
 ds:List Deferred
omit hC hE
variable (E:zR)(N)
structure Pt (G:Heap)(aN:Env)(a:Act)(w:World)(m:Mem)(μ:Mu):Prop where
 inv:Inv m μ G w
 aN:iq m μ (inf G) N aN a
 tG:a.defers=E.ds
 pX:∀id,id<G.length->∃l,μ id=some l
 ext:Ext E.m E.μ E.G m μ G
 fr:Fr E.m E.μ E.w m μ w
def Ends (Q:Exit->Act->World->Prop)(e:Ex)(aN:Env)(G:Heap):Prop:=∀a w m μ,Pt N E G aN a w m μ ->
 match e with
 |.normal=>Q .normal a w
 |.exit id=>Q (.exit id) a w
 |.ret=>Q .ret a w
 |.iL v=>∀val,R m μ (inf G) val v->Q (.panic [{ v:=val,recovered:=false }]) a w
variable {E}{N}
theorem Act.j5 (a:Act)(d:Option Nat)(v:Value):(a.put d v).defers=a.defers:=by cases d<;>rfl
theorem Pt.step {G:Heap}{aN:Env}{a:Act}{w:World}{m:Mem}{μ:Mu}(h:Pt N E G aN a w m μ){m':Mem}{cA:Mu}{G':Heap}{w':World}(hI:Inv m' cA G' w')(hS:lC m μ G w m' cA G' w'){UO:Env}{a':Act}(he:iq m' cA (inf G') N UO a')(hd:a'.defers=E.ds):Pt N E G' UO a' w' m' cA :=
 ⟨hI,he,hd,hS.total h.pX,h.ext.trans hS.ext,h.fr.trans hS.fr⟩
inductive Al (P:Program)(N:Nat)(ops:Array Oper):List Nat->List CI->Prop
 |nil:Al P N ops [] []
 |cons {k:Nat} {o:Oper} {c:CI} {is:List Nat} {cs:List CI}:ops[k]?=some o->mJ P N ops o=some c->Al P N ops is cs->Al P N ops (k::is) (c::cs)
include hC hE
theorem xv {Q:Exit->Act->World->Prop}{is:List Nat}{cs:List CI}(hal:Al P N ops is cs):∀{aN:Env} {G:Heap} {a:Act} {w:World} {m:Mem} {μ:Mu} {e:Ex} {UO:Env} {G':Heap},
  dP pg call cs aN G=some (e,UO,G')->Pt N E G aN a w m μ->Ends N E Q e UO G'->wpOps P ops Q is a w:=by
 induction hal with
 |nil =>
  intro aN G a w m μ e UO G' hev hp hq;simp[dP]at hev;obtain⟨rfl,rfl,rfl⟩:=hev;exact hq a w m μ hp
 |@cons k o c is cs ho hc hal ih =>
  intro aN G a w m μ e UO G' hev hp hq;rw[wpOps_cons];unfold wpOp;rw[ho];dsimp only;simp only[dP]at hev;obtain⟨h1,h2,h3,h4⟩:=nD hc;split at hev
  ·cases hev
  ·rename_i hg;rw[Xd hc hp.aN hg];simp only[aZ,if_false];exact ih hev ⟨hp.inv,by rw[h2];exact hp.aN.put h3 .undef,by rw[Act.j5];exact hp.tG,hp.pX,hp.ext,hp.fr⟩ hq
  ·rename_i hg;rw[Xd hc hp.aN hg];simp only[if_true];refine .inl ?_;split at hev
   ·cases hev
   ·rename_i v G1 hv;refine uZ hC hE hp.inv hp.aN h1 hv _ Q λm' cA w' val hI' hS hr=>?_;exact ih hev (hp.step hI' hS (by rw[h2];exact(hp.aN.mono hS.ext).put h3 hr) (by rw[Act.j5];exact hp.tG)) hq
   ·rename_i v G1 hv;cases hev;refine uZ hC hE hp.inv hp.aN h1 hv _ Q λm' cA w' val hI' hS hr=>?_;exact hq a w' m' cA (hp.step hI' hS (hp.aN.mono hS.ext) hp.tG) val hr
omit hC hE
theorem sO:∀{l:List Oper} {cs:List CI},pc P N ops l=some cs->cs.length=l.length/\∀(k:Nat) (o:Oper),l[k]?=some o->∃c,cs[k]?=some c/\mJ P N ops o=some c
 |[],cs,h=>by simp[pc]at h;subst h;exact⟨rfl,λk o h=>by simp at h⟩
 |o::r,cs,h=>by
  simp only[pc]at h;split at h
  ·cases h
  ·rename_i c hc;split at h
   ·cases h
   ·rename_i cs' hr;cases h;obtain⟨h1,h2⟩:=sO hr;refine⟨by simp[h1],λk o' hk=>?_⟩;cases k with
    |zero=>simp at hk;subst hk;exact⟨c,rfl,hc⟩
    |succ k=>simpa using h2 k o' (by simpa using hk)
theorem CF {l:List CI}(hlen:l.length=ops.size)(h:∀(k:Nat) (o:Oper),ops[k]?=some o->∃c,l[k]?=some c/\mJ P N ops o=some c):∀(n k:Nat),k+n=ops.size->Al P N ops (List.range' k n) (l.drop k)
 |0,k,hk=>by
  rw[cV (by omega)];exact .nil
 |n+1,k,hk=>by
  have hlt:k<ops.size:=by omega
  obtain⟨c,h1,h2⟩:=h k ops[k] (Array.getElem?_eq_getElem hlt);have hd:l.drop k=c::l.drop (k+1):=by
   rw[aM (by omega)]
   congr 1
   rw[gG (by omega)]at h1;exact cT h1
  rw[hd,cq];exact .cons (Array.getElem?_eq_getElem hlt) h2 (CF hlen h n (k+1) (by omega))
include hC hE
theorem yA {Q:Exit->Act->World->Prop}{id:Nat}{l:List CI}(hl:pc P N ops ops.toList=some l){aN:Env}{G:Heap}{a:Act}{w:World}{m:Mem}{μ:Mu}{e:Ex}{UO:Env}{G':Heap}
  (hev:dP pg call l aN G=some (e,UO,G')) (hp:Pt N E G aN a w m μ) (hq:Ends N E Q e UO G'):(Code.region id ops false).wp P Q a w:=by
 obtain⟨h1,h2⟩:=sO hl;have hal:=CF (l:=l) (by simpa using h1) (λk o ho=>h2 k o (by simpa using ho)) ops.size 0 (by omega);rw[bp,<- dO]at hal;exact wp_region (xv hC hE hal hev hp hq)
end
def gz (l:List CI)(is:List Nat):List CI:=is.filterMap (l[·]?)
theorem rS (l:List CI)(a b:List Nat):gz l (a++b)=gz l a++gz l b:=by simp[gz]
theorem qU {l:List CI}{i:Nat}{c:CI}(h:l[i]?=some c)(r:List Nat):gz l (i::r)=c::gz l r:=by simp[gz,h]
theorem jZ {l:List CI}{is:List Nat}{c:CI}(h:c∈gz l is):∃k,k∈is/\l[k]?=some c:=by
 simp[gz]at h;exact h
theorem tH:∀(l:List CI),gz l (List.range l.length)=l
 |[]=>rfl
 |c::r=>by
  have:=tH r;unfold gz at this ⊢;rw[av,mu,List.filterMap_cons];simp only[List.getElem?_cons_zero,List.filterMap_map];rw[show((λx=>(c::r)[x]?) ∘ Nat.succ)=λx=>r[x]? by funext x;simp];rw[this]
def nU (l:List CI)(p:CI->Bool)(k:Nat):Bool:=match l[k]? with
 |some c=>p c
 |none=>false
theorem yB (l:List CI)(p:CI->Bool):l.filter p=gz l ((List.range l.length).filter (nU l p)):=by
 conv=>lhs;rw[<- tH l]
 unfold gz;rw[mX,mY]
 congr 1
 funext k;unfold nU;cases l[k]? with
 |none=>rfl
 |some c=>cases hp:p c<;>simp[hp]
theorem range_split {n i:Nat}(hi:i<n)(f:Nat->Bool)(hf:f i=true):(List.range n).filter f=(List.range i).filter f++i::(List.range' (i+1) (n-i-1)).filter f:=by
 have:List.range n=List.range i++i::List.range' (i+1) (n-i-1):=by
  rw[dO,dO];have h1:n=i+(1+(n-i-1)):=by omega
  conv=>lhs;rw[h1]
  rw[<- fo,<- fo];simp[cq]
 rw[this,jN,ig,ah hf]
theorem oW {n i:Nat}(hi:i<n)(f g:Nat->Bool)(hg:g i=false)(hfg:∀k,k≠i->g k=f k):(List.range n).filter g=(List.range i).filter f++(List.range' (i+1) (n-i-1)).filter f:=by
 have:List.range n=List.range i++i::List.range' (i+1) (n-i-1):=by
  rw[dO,dO];have h1:n=i+(1+(n-i-1)):=by omega
  conv=>lhs;rw[h1]
  rw[<- fo,<- fo];simp[cq]
 rw[this,jN,ig,aa (by simp[hg])]
 congr 1
 ·exact gd λk hk=>hfg k (by simp at hk;omega)
 ·exact gd λk hk=>hfg k (by simp[VM]at hk;omega)
structure H0 (l:List CI)(af T:List (List Nat))(chk:List qK):Prop where
 e1:∀k,k<l.length->∀e,e∈af.getD k []->e<k
 e2:∀k,k<l.length->∀x,x∈T.getD k []->x∈af.getD k []\/∃m,m∈af.getD k []/\x∈T.getD m []
 e3:∀(k j:Nat) (ck cj:CI) (d:Nat),j≠k->l[k]?=some ck->l[j]?=some cj->cj.d=some d->ck.d≠some d
 e4:∀(k j:Nat) (ck cj:CI) (d:Nat),l[k]?=some ck->l[j]?=some cj->cj.d=some d->d∈ej ck->(j<k/\j∈af.getD k [])\/(k<j/\k∈T.getD j []/\cN (bg ck.o)=true/\dZ cj=false)
 e5:∀(j i:Nat) (cj ci:CI),j<i->l[j]?=some cj->l[i]?=some ci->dZ cj=false->dZ ci=false->j∈T.getD i []\/∃cs,dC (bg cj.o) (bg ci.o)=some cs/\∀c,c∈cs->c∈chk
theorem qV:∀(cs acc:List qK) (c:qK),(c∈acc\/c∈cs)->c∈uF cs acc
 |[],acc,c,h=>by simpa [uF] using h
 |x::r,acc,c,h=>by
  simp only[uF];apply qV r;rcases h with h|h
  ·left;split
   ·exact h
   ·simp[h]
  ·rcases aA.1 h with rfl|h
   ·left;split
    ·rename_i hc;simpa using hc
    ·simp
   ·exact .inr h
theorem WN {l:List CI}{T:List (List Nat)}:∀(ps:List (Nat×Nat)) (acc chk:List qK),nw l T ps acc=some chk ->
  (∀c,c∈acc->c∈chk)/\∀(j i:Nat),(j,i)∈ps->∀(cj ci:CI),l[j]?=some cj->l[i]?=some ci->dZ cj=false->dZ ci=false->j∈T.getD i []\/∃cs,dC (bg cj.o) (bg ci.o)=some cs/\∀c,c∈cs->c∈chk
 |[],acc,chk,h=>by simp[nw]at h;subst h;exact⟨λ_ h=>h,λj i h=>by simp at h⟩
 |(j',i')::r,acc,chk,h=>by
  simp only[nw]at h;split at h
  ·rename_i cj' ci' hj' hi';split at h
   ·rename_i hc;obtain⟨h1,h2⟩:=WN r acc chk h;refine⟨h1,λj i hm cj ci hj hi nj ni=>?_⟩;rcases aA.1 hm with e|hm
    ·cases e;rw[hj']at hj;rw[hi']at hi;cases hj;cases hi;simp[nj,ni]at hc;left;simpa using hc
    ·exact h2 j i hm cj ci hj hi nj ni
   ·split at h
    ·rename_i cs hn;obtain⟨h1,h2⟩:=WN r _ chk h;refine⟨λc hc=>h1 c (qV _ _ _ (.inl hc)),λj i hm cj ci hj hi nj ni=>?_⟩;rcases aA.1 hm with e|hm
     ·cases e;rw[hj']at hj;rw[hi']at hi;cases hj;cases hi;exact .inr ⟨cs,hn,λc hc=>h1 c (qV _ _ _ (.inr hc))⟩
     ·exact h2 j i hm cj ci hj hi nj ni
    ·cases h
  ·cases h
theorem ES {l:List CI}{af:List (List Nat)}{news rest:List CI}{chk:List qK}(h:Cs l af=some (news,rest,chk)):news=l.filter dZ/\rest=l.filter (λc=>!dZ c)/\H0 l af (Bq [] af) chk:=by
 unfold Cs at h;dsimp only at h;split at h
 ·rename_i hok;split at h
  ·rename_i chk' hp;cases h;refine⟨rfl,rfl,?_⟩;unfold Ep at hok;simp only[ab,bc,fp,cZ]at hok;obtain⟨⟨hl1,hl2⟩,hok⟩:=hok;obtain⟨_,hpairs⟩:=WN _ _ _ hp;have key:∀k,k<l.length->∀ck,l[k]?=some ck->(∀e,e∈af.getD k []->e<k)/\(∀x,x∈(Bq [] af).getD k []->x∈af.getD k []\/∃m,m∈af.getD k []/\x∈(Bq [] af).getD m []) /\
     ∀j,j<l.length->∀cj,l[j]?=some cj->∀d,cj.d=some d->(j≠k->ck.d≠some d)/\(d∈ej ck->(j<k/\j∈af.getD k [])\/(k<j/\k∈(Bq [] af).getD j []/\cN (bg ck.o)=true/\dZ cj=false)):=by
    intro k hk ck hck;have:=hok k hk;rw[hck]at this;dsimp only at this;simp only[ab,bc]at this;obtain⟨⟨a1,a2⟩,a3⟩:=this;refine⟨λe he=>bJ.mp (a1 e he),λx hx=>?_,λj hj cj hcj d hd=>?_⟩
    ·have:=a2 x hx;simp only[UP,fC,e_]at this;rcases this with h|⟨m,h1,h2⟩
     ·exact .inl h
     ·exact .inr ⟨m,h1,h2⟩
    ·have:=a3 j (by simpa using hj);rw[hcj]at this;dsimp only at this;rw[hd]at this;dsimp only at this;simp only[ab]at this;obtain⟨b1,b2⟩:=this;refine⟨λhne e=>?_,λhr=>?_⟩
     ·rw[aa hne,e]at b1;simp at b1
     ·rw[ah (by simpa using hr)]at b2;simp only[UP,ab,e_,a_]at b2;rcases b2 with ⟨h1,h2⟩|⟨⟨⟨h1,h2⟩,h3⟩,h4⟩
      ·exact .inl ⟨bJ.mp h1,h2⟩
      ·exact .inr ⟨bJ.mp h1,h2,h3,h4⟩
   have hlt:∀{k:Nat} {c:CI},l[k]?=some c->k<l.length:=λh=>(gE h).1;refine⟨λk hk=>(key k hk _ (gG hk)).1,λk hk=>(key k hk _ (gG hk)).2.1,?_,?_,?_⟩
   ·intro k j ck cj d hne hk hj hd;exact((key k (hlt hk) ck hk).2.2 j (hlt hj) cj hj d hd).1 hne
   ·intro k j ck cj d hk hj hd hr;exact((key k (hlt hk) ck hk).2.2 j (hlt hj) cj hj d hd).2 hr
   ·intro j i cj ci hji hj hi nj ni;refine hpairs j i ?_ cj ci hj hi nj ni;simp only[zo,List.mem_flatMap,fp,bj];exact⟨i,hlt hi,j,hji,rfl⟩
  ·cases h
 ·cases h
theorem sP {c:CI}(h:dZ c=true):∃d cells,c=⟨some d,.new cells,none⟩:=by
 rcases c with ⟨d,o,g⟩
 unfold dZ at h;split at h
 ·rename_i h1 h2 h3;dsimp only at h1 h2 h3;subst h1;subst h2;subst h3;exact⟨_,_,rfl⟩
 ·cases h
theorem zS {pg:fX}{call:di}{l:List CI}:∀(is:List Nat) {aN:Env} {G:Heap} {env1:Env} {G1:Heap},(∀q,q∈is->∃d cells,l[q]?=some ⟨some d,.new cells,none⟩)->is.Nodup ->
  (∀(q q':Nat) (d:Nat) (c c':List AV),q∈is->q'∈is->q≠q'->l[q]?=some ⟨some d,.new c,none⟩->l[q']?≠some ⟨some d,.new c',none⟩) ->
  uf pg call (gz l is) aN G=some (env1,G1) ->
  G.length<=G1.length/\(∀id:Nat,id<G.length->G1[id]?=G[id]?)/\∃pid:Nat->Nat,
   (∀q d cells,q∈is->l[q]?=some ⟨some d,.new cells,none⟩->G.length<=pid q/\lk env1 d=some (.ptr (pid q) 0)/\G1[pid q]?=some (.box cells)/\cells.all AV.flat=true) /\
   (∀q q',q∈is->q'∈is->pid q=pid q'->q=q') /\
   (∀id,G.length<=id->id<G1.length->∃q,q∈is/\pid q=id)
 |[],aN,G,env1,G1,hn,hd,hdst,h=>by
  simp[gz,uf]at h;obtain⟨rfl,rfl⟩:=h;exact⟨aB _,λ_ _=>rfl,λ_=>0,λq d c h=>by simp at h,λq q' h=>by simp at h,λid h1 h2=>by omega⟩
 |q::is,aN,G,env1,G1,hn,hd,hdst,h=>by
  obtain⟨d,cells,hq⟩:=hn q (by simp);rw[qU hq]at h;simp only[uf,kE,tu,Uu]at h;split at h
  ·cases h
  ·rename_i e1 g1 hstep;split at hstep
   ·rename_i hv;split at hv
    ·rename_i hflat;cases hv;cases hstep;have hd':q∉is/\is.Nodup:=by simpa using hd
     have hfull:=h;obtain⟨a1,a2,pid,a3,a4,a5⟩:=zS is (λq' hq'=>hn q' (by simp[hq'])) hd'.2 (λq1 q2 d c c' h1 h2=>hdst q1 q2 d c c' (by simp[h1]) (by simp[h2])) h;simp at a1;have hkeep:lk env1 d=some (.ptr G.length 0):=by
      rw[uH hfull d,lU,ah rfl];intro c hc e;obtain⟨k,hk,hck⟩:=jZ hc;obtain⟨d',cells',hk'⟩:=hn k (by simp[hk]);rw[hk']at hck;cases hck;simp at e;subst e;have hne:q≠k:=λe=>hd'.1 (e ▸ hk);exact hdst q k d' cells cells' (by simp) (by simp[hk]) hne hq hk'
     refine⟨by omega,λid hid=>?_,λx=>if x=q then G.length else pid x,?_,?_,?_⟩
     ·rw[a2 id (by simp;omega),List.getElem?_append_left hid]
     ·intro q' d' cells' hq' hl';by_cases e:q'=q
      ·subst e;rw[hq]at hl';cases hl';simp only[if_true];refine⟨aB _,hkeep,?_,hflat⟩;rw[a2 G.length (by simp)];simp
      ·simp only[e,if_false];have hm:q'∈is:=by simpa [e] using hq'
       obtain⟨b1,b2,b3,b4⟩:=a3 q' d' cells' hm hl';simp at b1;exact⟨by omega,b2,b3,b4⟩
     ·intro x y hx hy hxy;have hge:∀z,z∈is->G.length+1<=pid z:=λz hz=>by
       obtain⟨d',c',hz'⟩:=hn z (by simp[hz]);have:=(a3 z d' c' hz hz').1;simpa using this
      by_cases ex:x=q
      ·by_cases ey:y=q
       ·rw[ex,ey]
       ·simp only[ex,ey,if_true,if_false]at hxy;have:=hge y (by simpa [ey] using hy);omega
      ·by_cases ey:y=q
       ·simp only[ex,ey,if_true,if_false]at hxy;have:=hge x (by simpa [ex] using hx);omega
       ·simp only[ex,ey,if_false]at hxy;exact a4 x y (by simpa [ex] using hx) (by simpa [ey] using hy) hxy
     ·intro id h1 h2;by_cases e:id=G.length
      ·exact⟨q,by simp,by simp[e]⟩
      ·obtain⟨q',b1,b2⟩:=a5 id (by simp;omega) h2;have hne:q'≠q:=λe=>hd'.1 (e ▸ b1);exact⟨q',by simp[b1],by simp[hne,b2]⟩
    ·cases hv
   ·cases hstep
theorem GS {P:Program}{op:Op}{cs:List AV}(h:tv P op=some (.new cs)):∃T,op=.alloc T/\Wj P T=some cs:=by
 unfold tv at h;split at h
 case h_4 e =>
  obtain⟨a,ha,he⟩:=Vp h;cases he;exact⟨e,rfl,ha⟩
 all_goals
  exfalso;revert h
  repeat' split
  all_goals intro h
  all_goals first|cases h|(rw[aP]at h;obtain⟨a,ha,he⟩:=h;cases he)
section
variable {m:Mem}{μ:Mu}{G:Heap}{w:World}
theorem newAt (hI:Inv m μ G w){id:Nat}{cells:List AV}(hG:G[id]?=some (.box cells))(hn:μ id=none)(T:TypeId){vs:List Value}(hr:∀m μ i,RL m μ i vs cells)(hf:cells.all AV.flat=true) :
  Inv m (λk=>if k=id then some ⟨w.heap.size,0⟩ else μ k) G { w with heap:=w.heap.push (.cells vs.toArray T (0,0)) } /\
  Ext m μ G m (λk=>if k=id then some ⟨w.heap.size,0⟩ else μ k) G /\
  Fr m μ w m (λk=>if k=id then some ⟨w.heap.size,0⟩ else μ k) { w with heap:=w.heap.push (.cells vs.toArray T (0,0)) } /\
  R m (λk=>if k=id then some ⟨w.heap.size,0⟩ else μ k) (inf G) (.pointer (some ⟨w.heap.size,0,none⟩)) (.ptr id 0):=by
 have hid:id<G.length:=(gE hG).1;have hext:Ext m μ G m (λk=>if k=id then some (⟨w.heap.size,0⟩:Loc) else μ k) G:=by
  have hμ:∀k loc,μ k=some loc->(λk=>if k=id then some (⟨w.heap.size,0⟩:Loc) else μ k) k=some loc:=λk loc h=>by
   have:k≠id:=by intro e;subst e;rw[hn]at h;cases h
   simp[this,h]
  exact⟨λ_ _ _ h=>h,λk loc h h'=>⟨hμ k loc h,h'⟩,λk loc g sz h h'=>⟨loc,g,hμ k loc h,h',aB _,λ_=>rfl⟩⟩
 have hinv:∀k loc,(λk=>if k=id then some (⟨w.heap.size,0⟩:Loc) else μ k) k=some loc->(k=id/\loc=⟨w.heap.size,0⟩)\/μ k=some loc:=λk loc h=>by
  dsimp only at h;split at h
  ·cases h;exact .inl ⟨by assumption,rfl⟩
  ·exact .inr h
 have hblk:∀b,b<w.heap.size->(w.heap.push (.cells vs.toArray T (0,0)))[b]?=w.heap[b]?:=λb hb=>by simp[Array.getElem?_push,iJ hb]
 refine⟨⟨?_,?_,?_,?_⟩,hext,⟨rfl,rfl,rfl,by simp,λb hb _=>hblk b hb,λ_ _ _ h=>.inl h,?_⟩,.ptr _ _ ⟨w.heap.size,0⟩ (by simp) (by simp[inf,hG,VU])⟩
 ·intro b o v h;have h1:=hI.known b o v h;have h2:=World.block_lt_of_cell? w _ h1;simp at h2;unfold World.cell? at h1 ⊢;dsimp only at h1 ⊢;rw[hblk b h2];exact h1
 ·intro i j l l' h1 h2 e;rcases hinv i l h1 with ⟨rfl,rfl⟩|h1'<;>rcases hinv j l' h2 with ⟨rfl,rfl⟩|h2'
  ·rfl
  ·have:=hI.lt h2';simp at e;omega
  ·have:=hI.lt h1';simp at e;omega
  ·exact hI.inj i j l l' h1' h2' e
 ·intro k o ho loc hl;rcases hinv k loc hl with ⟨rfl,rfl⟩|hl'
  ·rw[hG]at ho;cases ho;have hrl:=hr m (λx=>if x=k then some (⟨w.heap.size,0⟩:Loc) else μ x) (inf G);exact⟨vs.toArray,T,by simp,by simpa using hrl.1,λj v c g1 g2=>hrl.2 j v c (by simpa using g1) g2,hf,λo=>hI.d_ (aB _) o⟩
  ·exact(hI.obj k o ho loc hl').move hext (hblk _ (hI.lt hl')) (λ_ h=>h)
 ·intro k loc h;rcases hinv k loc h with ⟨rfl,rfl⟩|h'
  ·exact hid
  ·exact hI.ph k loc h'
 ·intro k loc h;rcases hinv k loc h with ⟨rfl,rfl⟩|h'
  ·exact .inl (aB _)
  ·exact .inr ⟨k,loc,h',rfl⟩
theorem DG {P:Program}{o:Oper}{a:Act}{T:TypeId}(ho:o.op=.alloc T){cs:List AV}(hz:Wj P T=some cs)(hf:cs.all AV.flat=true)(w:World) :
  ∃vs,(∀m μ i,RL m μ i vs cs)/\(execOp a.eval o).run P w=.ok (.value (.pointer (some ⟨w.heap.size,0,none⟩))) { w with heap:=w.heap.push (.cells vs.toArray T (0,0)) }:=by
 unfold Wj at hz;split at hz
 ·rename_i v hv;split at hz
  ·rename_i x hx;cases hz;refine⟨v.cells.toList,λm μ i=>RL.cellsOf (ug m μ i _ _ hx) hf,?_⟩;cases hq:P.info? T with
   |none=>simp[hq]at hv
   |some i =>
    simp[hq]at hv;simp[execOp,ho,Instr.alloc,zeroValue,typeInfo,hq,hv,newVar,newRow]
  ·cases hz
 ·cases hz
end
end Go.Proofs.Z
