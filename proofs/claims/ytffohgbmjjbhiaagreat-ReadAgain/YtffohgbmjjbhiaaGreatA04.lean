/- A part of the proof. -/
import Derived.Test.YtffohgbmjjbhiaaGreatA03
import Derived.DeepKeys
import Derived.Test.YtffohgbmjjbhiaaGreatA02
import Derived.Orders
set_option linter.all false
section
namespace Go.Proofs.Z
open Go
section
variable {P:Program}{o:Oper}{a:Act}{m:Mem}{μ:Mu}{G:Heap}{w:World}
theorem leaf_bool {x y:PV}{u v:Value}(hx:RP m u x)(hy:RP m v y){b:Bool}(h:leafEq 0 x y=some b){t:TypeId}(d:Nat)(hu:P.underlying t=some .bool) :
  (Op.equalIn (d+1) t u v).run P w=.ok b w:=by
 cases x<;>cases y<;>simp[leafEq]at h
 subst h
 cases hx;cases hy
 simp[Op.equalIn,run_underlying hu]
theorem leaf_int {x y:PV}{u v:Value}(hx:RP m u x)(hy:RP m v y){b:Bool}(h:leafEq 1 x y=some b){t:TypeId}(d:Nat){k:IntKind}(hu:P.underlying t=some (.int k)) :
  (Op.equalIn (d+1) t u v).run P w=.ok b w:=by
 cases x<;>cases y<;>simp[leafEq]at h
 obtain ⟨rfl,rfl⟩:=h
 cases hx;cases hy
 rename_i p q
 simp[Op.equalIn,run_underlying hu]
 by_cases e:p=q<;>simp[e]
theorem leaf_str {x y:PV}{u v:Value}(hx:RP m u x)(hy:RP m v y){b:Bool}(h:leafEq 2 x y=some b){t:TypeId}(d:Nat)(hu:P.underlying t=some .string) :
  (Op.equalIn (d+1) t u v).run P w=.ok b w:=by
 cases x<;>cases y<;>simp[leafEq]at h
 subst h
 cases hx;cases hy
 rename_i p q
 simp[Op.equalIn,run_underlying hu,bytes_toList,beq_toListBytes]
 by_cases e:p=q<;>simp[e]
theorem R.p_inv {i:Inf}{v:Value}{x:PV}(h:R m μ i v (.p x)):RP m v x:=by
 cases h;assumption
theorem RP.inil_inv {v:Value}(h:RP m v .inil):v=.nilIface:=by cases h;rfl
theorem RP.pn_inv {v:Value}(h:RP m v .pn):v=.pointer none:=by cases h;rfl
theorem RP.fnil_inv {v:Value}(h:RP m v .fnil):v=.nilFunc:=by cases h;rfl
theorem RP.ifc_inv {v:Value}{t:Nat}{x:PV}(h:RP m v (.ifc t x)):∃ z,v=.iface t z:=by cases h;exact ⟨_,rfl⟩
theorem R.ifc_inv {i:Inf}{v:Value}{t:Nat}{x:AV}(h:R m μ i v (.ifc t x)):∃ z,v=.iface t z:=by cases h;exact ⟨_,rfl⟩
theorem R.ptr_inv {i:Inf}{v:Value}{id off:Nat}(h:R m μ i v (.ptr id off)):∃ z,v=.pointer (some z):=by cases h;exact ⟨_,rfl⟩
theorem R.fn_inv {i:Inf}{v:Value}{f:Nat}{p q:List AV}(h:R m μ i v (.fn f p q)):∃ g b c,v=.func g b c:=by cases h;exact ⟨_,_,_,rfl⟩
theorem part_at {t:TypeId}{n:Nat}(hn:cSize P t=some n){xs:Array Value}{base sz off:Nat}(h1:1≤n)(hle:off+n≤sz)(hs:base+sz≤xs.size) :
  (part t (xs.extract base (base+sz)) off).run P w=(part t xs (base+off)).run P w:=by
 simp only[part,Sem.run_bind]
 cases hq:(isAgg t).run P w with
 |halt h w'=>rfl
 |ok b w' =>
  simp only[Result.andThen_ok]
  cases b with
  |true =>
   have e:(xs.extract base (base+sz)).extract off (off+n)=xs.extract (base+off) (base+off+n):=by
    rw[Array.extract_extract]
    congr 1
    rw[Nat.min_eq_left (by omega)]
    omega
   simp[cSize_run hn,Nat.min_eq_left hle,Nat.add_assoc]
  |false =>
   simp only[Bool.false_eq_true,if_false]
   have e:(xs.extract base (base+sz))[off]?=xs[base+off]?:=by
    rw[Array.getElem?_extract,if_pos (by omega)]
   rw[e]
theorem leaves_append (l l':List (Nat×Nat))(xs ys:List AV){r:Bool}(h:lvE (l++l') xs ys=some r):∃ r1 r2,lvE l xs ys=some r1∧lvE l' xs ys=some r2∧r=(r1 && r2):=by
 induction l generalizing r with
 |nil=>exact ⟨true,r,rfl,h,by simp⟩
 |cons p l ih =>
  rcases p with ⟨o,k⟩
  simp only[List.cons_append,lvE]at h ⊢
  split at h
  ·split at h
   ·cases h
   ·rename_i e he
    split at h
    ·cases h
    ·rename_i e' he'
     cases h
     obtain ⟨r1,r2,h1,h2,rfl⟩:=ih he'
     exact ⟨e && r1,r2,by simp[he,h1],h2,by simp[Bool.and_assoc]⟩
  ·cases h
theorem leaves_sound:∀ (d:Nat) (t:TypeId) (base:Nat) (offs:List (Nat×Nat)),leafOffs P d t base=some offs→∀ (n:Nat),cSize P t=some n→∀ (xs ys:Array Value) (X Y:List AV) (i:Inf),
  RL m μ i xs.toList X→RL m μ i ys.toList Y→base+n≤xs.size→base+n≤ys.size→∀ (r:Bool),lvE offs X Y=some r→∀ D,
  ∃ u v,(part t xs base).run P w=.ok u w∧(part t ys base).run P w=.ok v w∧(Op.equalIn (D+d) t u v).run P w=.ok r w
 |0,t,base,offs,h,_,_=>by simp[leafOffs]at h
 |d+1,t,base,offs,h,n,hn=>by
  intro xs ys X Y i hX hY hxs hys r hr D
  unfold leafOffs at h
  have leaf:∀ k,offs=[(base,k)]→cAgg P t=some false→(∀ {x y:PV} {u v:Value},RP m u x→RP m v y→∀ {b:Bool},leafEq k x y=some b→(Op.equalIn (D+d+1) t u v).run P w=.ok b w) →
    ∃ u v,(part t xs base).run P w=.ok u w∧(part t ys base).run P w=.ok v w∧(Op.equalIn (D+(d+1)) t u v).run P w=.ok r w:=by
   intro k ho hg hl
   subst ho
   simp only[lvE]at hr
   split at hr
   ·rename_i x y h1 h2
    split at hr
    ·cases hr
    ·rename_i e he
     cases hr
     have e1:base<xs.size:=by have:=(gE h1).1;have:=hX.1;simp at this;omega
     have e2:base<ys.size:=by have:=(gE h2).1;have:=hY.1;simp at this;omega
     have r1:=hX.2 base xs[base] _ (by rw[Array.getElem?_toList,Array.getElem?_eq_getElem e1]) h1
     have r2:=hY.2 base ys[base] _ (by rw[Array.getElem?_toList,Array.getElem?_eq_getElem e2]) h2
     refine ⟨xs[base],ys[base],by simp[part,cAgg_cell hg,Array.getElem?_eq_getElem e1],by simp[part,cAgg_cell hg,Array.getElem?_eq_getElem e2],?_⟩
     exact hl r1.p_inv r2.p_inv (by rw[he,Bool.and_true])
   ·cases hr
  split at h
  ·rename_i hu
   split at h
   ·cases h
    exact leaf 0 rfl (by simp[cAgg,hu]) (fun h1 h2 b h3=>leaf_bool h1 h2 h3 _ hu)
   ·cases h
  ·rename_i k hu
   split at h
   ·cases h
    exact leaf 1 rfl (by simp[cAgg,hu]) (fun h1 h2 b h3=>leaf_int h1 h2 h3 _ hu)
   ·cases h
  ·rename_i hu
   split at h
   ·cases h
    exact leaf 2 rfl (by simp[cAgg,hu]) (fun h1 h2 b h3=>leaf_str h1 h2 h3 _ hu)
   ·cases h
  ·rename_i fs hu
   split at h
   ·cases h
   ·rename_i hst
    rw[hn]at h
    simp only[Option.map_eq_some_iff]at h
    obtain ⟨ls,hls,rfl⟩:=h
    have hg:cAgg P t=some true:=by simp[cAgg,hu]
    refine ⟨.agg (xs.extract base (base+n)),.agg (ys.extract base (base+n)),by simp[part,cAgg_agg hg,cSize_run hn],by simp[part,cAgg_agg hg,cSize_run hn],?_⟩
    have hf:P.fieldsOf t=fs:=by simp[Program.fieldsOf,hu]
    rw[show D+(d+1)=(D+d)+1 from rfl,run_equalIn_struct (P:=P) w (D+d) t _ _ (by rw[hf];exact hu) (by simpa using hst),hf]
    generalize fs.toList=fl at hls
    clear leaf
    induction fl generalizing ls r with
    |nil =>
     simp at hls
     subst hls
     simp[lvE]at hr
     subst hr
     simp[Op.eqFields]
    |cons f fl ih =>
     rw[List.mapM_cons]at hls
     simp only[bind,Option.bind_eq_some_iff,pure,Option.some.injEq]at hls
     obtain ⟨l1,h1,ls',h2,rfl⟩:=hls
     rw[List.flatten_cons]at hr
     obtain ⟨r1,r2,q1,q2,rfl⟩:=leaves_append _ _ _ _ hr
     split at h1
     ·rename_i k hk
      split at h1
      ·rename_i hc
       obtain ⟨u,v,p1,p2,p3⟩:=leaves_sound d f.type (base+f.offset) l1 h1 k hk xs ys X Y i hX hY (by omega) (by omega) r1 q1 D
       have p1':(part f.type (xs.extract base (base+n)) f.offset).run P w=.ok u w:=by rw[part_at hk hc.2.2 hc.2.1 hxs];exact p1
       have p2':(part f.type (ys.extract base (base+n)) f.offset).run P w=.ok v w:=by rw[part_at hk hc.2.2 hc.2.1 hys];exact p2
       have hrec:=ih r2 ls' q2 h2
       rw[Op.eqFields]
       simp only[if_pos hc.1,Sem.run_bind,p1',p2',p3,Result.andThen_ok]
       cases r1
       ·simp
       ·simpa using hrec
      ·cases h1
     ·cases h1
  ·rename_i len e hu
   rw[hn]at h
   split at h
   ·rename_i sz k hsz hk
    cases hsz
    split at h
    ·rename_i hc
     simp only[Option.map_eq_some_iff]at h
     obtain ⟨ls,hls,rfl⟩:=h
     have hg:cAgg P t=some true:=by simp[cAgg,hu]
     refine ⟨.agg (xs.extract base (base+n)),.agg (ys.extract base (base+n)),by simp[part,cAgg_agg hg,cSize_run hn],by simp[part,cAgg_agg hg,cSize_run hn],?_⟩
     have hie:∃ ie,P.info? e=some ie∧ie.size=k:=by
      unfold cSize at hk
      cases hq:P.info? e with
      |none=>simp[hq]at hk
      |some ie=>exact ⟨ie,rfl,by simpa [hq] using hk⟩
     obtain ⟨ie,hie,hies⟩:=hie
     rw[show D+(d+1)=(D+d)+1 from rfl,run_equalIn_array w (D+d) _ _ hu hie]
     have hcells:P.cellsOf e=k:=by simp[Program.cellsOf,hie,hies]
     rw[hcells]
     have hbound:∀ j∈List.range len,j * k+k≤n:=fun j hj=>by
      have:j<len:=by simpa using hj
      have:j * k+k≤len * k:=by rw[← Nat.succ_mul];exact Nat.mul_le_mul_right _ this
      omega
     generalize List.range len=fl at hls hbound
     clear leaf
     induction fl generalizing ls r with
     |nil =>
      simp at hls
      subst hls
      simp[lvE]at hr
      subst hr
      simp[Op.eqItems]
     |cons j fl ih =>
      rw[List.mapM_cons]at hls
      simp only[bind,Option.bind_eq_some_iff,pure,Option.some.injEq]at hls
      obtain ⟨l1,h1,ls',h2,rfl⟩:=hls
      rw[List.flatten_cons]at hr
      obtain ⟨r1,r2,q1,q2,rfl⟩:=leaves_append _ _ _ _ hr
      have hj:=hbound j (by simp)
      obtain ⟨u,v,p1,p2,p3⟩:=leaves_sound d e (base+j * k) l1 h1 k hk xs ys X Y i hX hY (by omega) (by omega) r1 q1 D
      have p1':(part e (xs.extract base (base+n)) (j * k)).run P w=.ok u w:=by rw[part_at hk hc.2 hj hxs];exact p1
      have p2':(part e (ys.extract base (base+n)) (j * k)).run P w=.ok v w:=by rw[part_at hk hc.2 hj hys];exact p2
      have hrec:=ih r2 ls' q2 h2 (fun j' hj'=>hbound j' (by simp[hj']))
      rw[Op.eqItems]
      simp only[Sem.run_bind,p1',p2',p3,Result.andThen_ok]
      cases r1
      ·simp
      ·simpa using hrec
    ·cases h
   ·cases h
  ·cases h
theorem bin_eql {t ty:TypeId}{x y:Operand}{b:Bool}(ho:o.op=.binOp .eql t x y ty)(hg:(eqGuard .eql t x y (a.eval x) (a.eval y)).run P w=.ok () w)
  (hb:binOp .eql t (a.eval x) (a.eval y)=(do let r ← Op.equal t (a.eval x) (a.eval y);pure (.bool r))) (h:(Op.equal t (a.eval x) (a.eval y)).run P w=.ok b w):(execOp a.eval o).run P w=.ok (.value (.bool b)) w:=by
 simp only[execOp,ho,Sem.run_bind,hg,Result.andThen_ok,hb,h,Sem.run_pure]
theorem bin_neq {t ty:TypeId}{x y:Operand}{b:Bool}(ho:o.op=.binOp .neq t x y ty)(hg:(eqGuard .neq t x y (a.eval x) (a.eval y)).run P w=.ok () w)
  (hb:binOp .neq t (a.eval x) (a.eval y)=(do let r ← Op.equal t (a.eval x) (a.eval y);pure (.bool (!r)))) (h:(Op.equal t (a.eval x) (a.eval y)).run P w=.ok b w):(execOp a.eval o).run P w=.ok (.value (.bool (!b))) w:=by
 simp only[execOp,ho,Sem.run_bind,hg,Result.andThen_ok,hb,h,Sem.run_pure]
variable {N:Nat}{env:Env}(hI:Inv m μ G w)(he:EnvR m μ (inf G) N env a)
include hI he
theorem good_leaves {op:BinOp}{t ty:TypeId}{x y:Operand}{ox oy:Opd}(ho:o.op=.binOp op t x y ty)(hop:op=.eql∨op=.neq){d:TypeDesc}(ht:P.underlying t=some d)(hd:(∃ fs,d=.struct fs)∨(∃ n e,d=.array n e)){n:Nat}{offs:List (Nat×Nat)}(hn:cSize P t=some n)(hl:leafOffs P 8 t 0=some offs)(hgt:P.eqGuardType P.depth t=false)
  (hx:cOpd x=some ox) (hy:cOpd y=some oy) {u v:AV} (hu:opd env ox=some u) (hv:opd env oy=some v) (hun:u.cells.length=n) (hvn:v.cells.length=n) (huf:∃ l,u=.ag l) (hvf:∃ l,v=.ag l) {b:Bool} (hb:lvE offs u.cells v.cells=some b) {r:AV} (hr:evCmp op (some b)=some r):Good P o a m μ G w (.val r G):=by
 obtain ⟨l,rfl⟩:=huf
 obtain ⟨l',rfl⟩:=hvf
 obtain ⟨cs,ec,hs,hrr⟩:=(opd_R he hx hu).ag_inv
 obtain ⟨cs',ec',hs',hrr'⟩:=(opd_R he hy hv).ag_inv
 simp only[AV.cells]at hun hvn hb
 obtain ⟨p,q,h1,h2,h3⟩:=leaves_sound (P:=P) (w:=w) 8 t 0 offs hl n hn cs cs' l l' _ (RL.ofArr hs hrr) (RL.ofArr hs' hrr') (by omega) (by omega) b hb 9992
 have hg:cAgg P t=some true:=by rcases hd with ⟨fs,rfl⟩|⟨k,e,rfl⟩<;>simp[cAgg,ht]
 have hex:∀ (c:Array Value),c.size=n→c.extract 0 n=c:=fun c hc=>by rw[← hc];exact Array.extract_size
 have e1:p=.agg cs:=by
  simp only[part,Sem.run_bind,cAgg_agg hg,Result.andThen_ok,if_true,cSize_run hn,Sem.run_pure,Nat.zero_add,hex cs (by omega)]at h1
  cases h1;rfl
 have e2:q=.agg cs':=by
  simp only[part,Sem.run_bind,cAgg_agg hg,Result.andThen_ok,if_true,cSize_run hn,Sem.run_pure,Nat.zero_add,hex cs' (by omega)]at h2
  cases h2;rfl
 subst e1
 subst e2
 have hguard:(eqGuard op t x y (.agg cs) (.agg cs')).run P w=.ok () w:=by
  rcases hop with rfl|rfl<;>simp[eqGuard,hgt]
 rcases hop with rfl|rfl
 ·simp[evCmp]at hr
  subst hr
  refine .same hI (val:=.bool b) ?_ (.bool _)
  simp[execOp,ho,ec,ec',hguard,binOp,Op.equal,Op.maxDepth,h3]
 ·simp[evCmp]at hr
  subst hr
  refine .same hI (val:=.bool (!b)) ?_ (.bool _)
  simp[execOp,ho,ec,ec',hguard,binOp,Op.equal,Op.maxDepth,h3]
theorem good_int {op:BinOp}{t ty:TypeId}{x y:Operand}{ox oy:Opd}(ho:o.op=.binOp op t x y ty)(hx:cOpd x=some ox)(hy:cOpd y=some oy){u v:AV}(hu:opd env ox=some u)(hv:opd env oy=some v){r:AV}(hr:evBin op .int u v=some r):Good P o a m μ G w (.val r G):=by
 unfold evBin at hr
 split at hr
 ·rename_i k p k' q heq
  have h1:=(opd_R he hx hu).int_inv
  have h2:=(opd_R he hy hv).int_inv
  split at hr
  ·rename_i hk
   subst hk
   cases op
   case add=>cases hr;exact .same hI (by simp[execOp,ho,h1,h2,eqGuard,binOp,Op.intArith]) (.int _ _)
   case sub=>cases hr;exact .same hI (by simp[execOp,ho,h1,h2,eqGuard,binOp,Op.intArith]) (.int _ _)
   case mul=>cases hr;exact .same hI (by simp[execOp,ho,h1,h2,eqGuard,binOp,Op.intArith]) (.int _ _)
   case quo =>
    dsimp only at hr
    split at hr
    ·cases hr
    ·rename_i hq
     cases hr
     exact .same hI (by simp[execOp,ho,h1,h2,eqGuard,binOp,Op.intDiv,hq]) (.int _ _)
   case rem =>
    dsimp only at hr
    split at hr
    ·cases hr
    ·rename_i hq
     cases hr
     exact .same hI (by simp[execOp,ho,h1,h2,eqGuard,binOp,Op.intDiv,hq]) (.int _ _)
   case eql=>cases hr;exact .same hI (by simp[execOp,ho,h1,h2,eqGuard,binOp,Op.intCmp];rfl) (.bool _)
   case neq=>cases hr;exact .same hI (by simp[execOp,ho,h1,h2,eqGuard,binOp,Op.intCmp];rfl) (.bool _)
   case lss=>cases hr;exact .same hI (by simp[execOp,ho,h1,h2,eqGuard,binOp,Op.intCmp]) (.bool _)
   case leq=>cases hr;exact .same hI (by simp[execOp,ho,h1,h2,eqGuard,binOp,Op.intCmp]) (.bool _)
   case gtr=>cases hr;exact .same hI (by simp[execOp,ho,h1,h2,eqGuard,binOp,Op.intCmp]) (.bool _)
   case geq=>cases hr;exact .same hI (by simp[execOp,ho,h1,h2,eqGuard,binOp,Op.intCmp]) (.bool _)
   all_goals cases hr
  ·cases hr
 all_goals (rename_i h;first|cases h|cases hr)
theorem good_str {op:BinOp}{t ty:TypeId}{x y:Operand}{ox oy:Opd}(ho:o.op=.binOp op t x y ty)(hx:cOpd x=some ox)(hy:cOpd y=some oy){u v:AV}(hu:opd env ox=some u)(hv:opd env oy=some v){r:AV}(hr:evBin op .str u v=some r):Good P o a m μ G w (.val r G):=by
 unfold evBin at hr
 split at hr
 ·rename_i heq;cases heq
 ·rename_i p q heq
  have h1:=(opd_R he hx hu).str_inv
  have h2:=(opd_R he hy hv).str_inv
  cases op
  case add =>
   dsimp only at hr
   split at hr
   ·rename_i hroom
    cases hr
    simp only[roomy,Bool.and_eq_true,decide_eq_true_eq]at hroom
    have hb:¬ ((((p.length+q.length:Nat):Int)) > IntKind.i64.max):=by
     have:=hroom.2
     simp[IntKind.max,IntKind.signed,IntKind.bits]
     omega
    refine .same hI (val:=.string ⟨(p++q).toArray⟩) ?_ (.str _)
    simp only[execOp,ho,h1,h2,eqGuard,binOp,Op.stringOp,bytes_size,bytes_append,Sem.run_bind,hb,if_false]
    rfl
   ·cases hr
  case eql=>cases hr;exact .same hI (by simp[execOp,ho,h1,h2,eqGuard,binOp,Op.stringOp,bytes_toList];by_cases e:p=q<;>simp[e]) (.bool _)
  case neq=>cases hr;exact .same hI (by simp[execOp,ho,h1,h2,eqGuard,binOp,Op.stringOp,bytes_toList];by_cases e:p=q<;>simp[e]) (.bool _)
  case lss=>cases hr;exact .same hI (by simp[execOp,ho,h1,h2,eqGuard,binOp,Op.stringOp,bytes_toList]) (.bool _)
  case leq=>cases hr;exact .same hI (by simp[execOp,ho,h1,h2,eqGuard,binOp,Op.stringOp,bytes_toList];by_cases e:p=q<;>simp[e]) (.bool _)
  case gtr=>cases hr;exact .same hI (by simp[execOp,ho,h1,h2,eqGuard,binOp,Op.stringOp,bytes_toList];by_cases e:p=q<;>simp[e]) (.bool _)
  case geq=>cases hr;exact .same hI (by simp[execOp,ho,h1,h2,eqGuard,binOp,Op.stringOp,bytes_toList]) (.bool _)
  all_goals cases hr
 all_goals (rename_i h;first|cases h|cases hr)
theorem good_bool {op:BinOp}{t ty:TypeId}(ht:P.underlying t=some .bool){x y:Operand}{ox oy:Opd}(ho:o.op=.binOp op t x y ty)(hx:cOpd x=some ox)(hy:cOpd y=some oy){u v:AV}(hu:opd env ox=some u)(hv:opd env oy=some v){r:AV}(hr:evBin op .bool u v=some r):Good P o a m μ G w (.val r G):=by
 unfold evBin at hr
 split at hr
 ·rename_i heq;cases heq
 ·rename_i heq;cases heq
 ·rename_i p q heq
  have h1:=(opd_R he hx hu).bool_inv
  have h2:=(opd_R he hy hv).bool_inv
  cases op
  case eql=>cases hr;exact .same hI (bin_eql ho (by rw[h1,eqGuard_at_bool];rfl) (by rw[h1,h2];rfl) (by rw[h1,h2];exact run_equal_bool w t p q ht)) (.bool _)
  case neq=>cases hr;exact .same hI (bin_neq ho (by rw[h1,eqGuard_at_bool];rfl) (by rw[h1,h2];rfl) (by rw[h1,h2];exact run_equal_bool w t p q ht)) (.bool _)
  all_goals cases hr
 ·cases hr
theorem good_nil {op:BinOp}{t ty:TypeId}{x y:Operand}{ox oy:Opd}(ho:o.op=.binOp op t x y ty){c:BClass}{d:TypeDesc}(ht:P.underlying t=some d)
  (hc:(c=.ptr∧∃ e,d=.pointer e)∨(c=.fn∧∃ p r v,d=.func p r v)∨(c=.ifc∧(∃ ms,d=.interface ms)∧(isNil x || isNil y)=true))
  (hx:cOpd x=some ox) (hy:cOpd y=some oy) {u v:AV} (hu:opd env ox=some u) (hv:opd env oy=some v) {r:AV} (hr:evCmp op (evNilEq c u v)=some r):Good P o a m μ G w (.val r G):=by
 have h1:=opd_R he hx hu
 have h2:=opd_R he hy hv
 cases hq:evNilEq c u v with
 |none=>rw[hq]at hr;cases hr
 |some b =>
  rw[hq]at hr
  have hop:op=.eql∧r=.p (.b b)∨op=.neq∧r=.p (.b (!b)):=by
   unfold evCmp at hr
   cases op<;>simp at hr<;>simp[hr]
  have fin:(eqGuard .eql t x y (a.eval x) (a.eval y)=pure ())→(eqGuard .neq t x y (a.eval x) (a.eval y)=pure ()) →
    (binOp .eql t (a.eval x) (a.eval y)=(do let r ← Op.equal t (a.eval x) (a.eval y);pure (.bool r)))→(binOp .neq t (a.eval x) (a.eval y)=(do let r ← Op.equal t (a.eval x) (a.eval y);pure (.bool (!r)))) →
    (Op.equalIn (9999+1) t (a.eval x) (a.eval y)).run P w=.ok b w→Good P o a m μ G w (.val r G):=by
   intro g1 g2 b1 b2 hh
   rcases hop with ⟨rfl,rfl⟩|⟨rfl,rfl⟩
   ·exact .same hI (bin_eql ho (by rw[g1];rfl) b1 hh) (.bool _)
   ·exact .same hI (bin_neq ho (by rw[g2];rfl) b2 hh) (.bool _)
  unfold evNilEq at hq
  have kptr:c=.ptr→∃ e,d=.pointer e:=fun e=>by subst e;rcases hc with ⟨h,h'⟩|⟨h,_⟩|⟨h,_⟩<;>first|exact h'|cases h
  have kfn:c=.fn→∃ p r v,d=.func p r v:=fun e=>by subst e;rcases hc with ⟨h,h'⟩|⟨h,h'⟩|⟨h,_⟩<;>first|exact h'|cases h
  have kifc:c=.ifc→(∃ ms,d=.interface ms)∧(isNil x || isNil y)=true:=fun e=>by subst e;rcases hc with ⟨h,h'⟩|⟨h,h'⟩|⟨h,h'⟩<;>first|exact h'|cases h
  have hnilc:∀ z:Operand,isNil z=true→∃ q,z=.const q:=fun z hz=>by
   cases z with
   |const q=>exact ⟨q,rfl⟩
   |_=>simp[isNil]at hz
  split at hq
  ·obtain ⟨⟨ms,rfl⟩,hnil⟩:=kifc rfl
   cases hq
   have e1:=h1.p_inv.inil_inv
   have e2:=h2.p_inv.inil_inv
   have hg:∀ op,eqGuard op t x y .nilIface .nilIface=pure ():=fun op=>by
    rcases Bool.or_eq_true_iff.1 hnil with h|h
    ·obtain ⟨q,rfl⟩:=hnilc _ h;exact eqGuard_nil_constL op t y q
    ·obtain ⟨q,rfl⟩:=hnilc _ h;exact eqGuard_nil_constR op t x q
   rw[e1,e2]at fin
   exact fin (hg _) (hg _) rfl rfl (by rw[Op.equalIn];simp[run_underlying ht])
  ·obtain ⟨⟨ms,rfl⟩,hnil⟩:=kifc rfl
   cases hq
   have e1:=h1.p_inv.inil_inv
   obtain ⟨z,e2⟩:=h2.ifc_inv
   rw[e1,e2]at fin
   exact fin rfl rfl rfl rfl (by rw[Op.equalIn];simp[run_underlying ht])
  ·obtain ⟨⟨ms,rfl⟩,hnil⟩:=kifc rfl
   cases hq
   obtain ⟨z,e1⟩:=h1.ifc_inv
   have e2:=h2.p_inv.inil_inv
   rw[e1,e2]at fin
   exact fin rfl rfl rfl rfl (by rw[Op.equalIn];simp[run_underlying ht])
  ·obtain ⟨⟨ms,rfl⟩,hnil⟩:=kifc rfl
   cases hq
   have e1:=h1.p_inv.inil_inv
   obtain ⟨z,e2⟩:=h2.p_inv.ifc_inv
   rw[e1,e2]at fin
   exact fin rfl rfl rfl rfl (by rw[Op.equalIn];simp[run_underlying ht])
  ·obtain ⟨⟨ms,rfl⟩,hnil⟩:=kifc rfl
   cases hq
   obtain ⟨z,e1⟩:=h1.p_inv.ifc_inv
   have e2:=h2.p_inv.inil_inv
   rw[e1,e2]at fin
   exact fin rfl rfl rfl rfl (by rw[Op.equalIn];simp[run_underlying ht])
  ·obtain ⟨e,rfl⟩:=kptr rfl
   cases hq
   have e1:=h1.p_inv.pn_inv
   have e2:=h2.p_inv.pn_inv
   rw[e1,e2]at fin
   exact fin rfl rfl rfl rfl (by rw[Op.equalIn];simp[run_underlying ht])
  ·obtain ⟨e,rfl⟩:=kptr rfl
   cases hq
   have e1:=h1.p_inv.pn_inv
   obtain ⟨z,e2⟩:=h2.ptr_inv
   rw[e1,e2]at fin
   exact fin rfl rfl rfl rfl (by rw[Op.equalIn];simp[run_underlying ht])
  ·obtain ⟨e,rfl⟩:=kptr rfl
   cases hq
   obtain ⟨z,e1⟩:=h1.ptr_inv
   have e2:=h2.p_inv.pn_inv
   rw[e1,e2]at fin
   exact fin rfl rfl rfl rfl (by rw[Op.equalIn];simp[run_underlying ht])
  ·obtain ⟨p,r,v,rfl⟩:=kfn rfl
   cases hq
   have e1:=h1.p_inv.fnil_inv
   have e2:=h2.p_inv.fnil_inv
   rw[e1,e2]at fin
   exact fin rfl rfl rfl rfl (by rw[Op.equalIn];simp[run_underlying ht])
  ·obtain ⟨p,r,v,rfl⟩:=kfn rfl
   cases hq
   have e1:=h1.p_inv.fnil_inv
   obtain ⟨f,b,c,e2⟩:=h2.fn_inv
   rw[e1,e2]at fin
   exact fin rfl rfl rfl rfl (by rw[Op.equalIn];simp[run_underlying ht])
  ·obtain ⟨p,r,v,rfl⟩:=kfn rfl
   cases hq
   obtain ⟨f,b,c,e1⟩:=h1.fn_inv
   have e2:=h2.p_inv.fnil_inv
   rw[e1,e2]at fin
   exact fin rfl rfl rfl rfl (by rw[Op.equalIn];simp[run_underlying ht])
  ·cases hq
end
theorem one_inv {G:Heap}{x:Option AV}{r:Res}(h:one G x=some r):∃ v,x=some v∧r=.val v G:=by
 cases x with
 |none=>simp[one]at h
 |some v=>simp[one]at h;exact ⟨v,rfl,h.symm⟩
def Entered (P:Program)(f:Nat):Prop:=∃ fn,P.funcs[f]?=some fn∧(fn.name == "runtime.NumGoroutine")=false∧fn.body.isNone=false
def CallEnters (P:Program)(call:CallF):Prop:=∀ f args G r,call f args G=some r→Entered P f
theorem callFunc_run {P:Program}{f:Nat}(h:Entered P f)(args:Array Value)(w:World):(callFunc f args).run P w=.ok (.enter f args) w:=by
 obtain ⟨fn,h1,h2,h3⟩:=h
 have h4:fn.name≠ "runtime.NumGoroutine":=by simpa using h2
 have h5:fn.body≠none:=by intro e;rw[e]at h3;cases h3
 simp[callFunc,go_sem,h1,h4,h5]
section
variable {P:Program}{pg:Prg}{call:CallF}{o:Oper}{a:Act}{m:Mem}{μ:Mu}{G:Heap}{w:World}{N:Nat}{env:Env}
theorem evCallAt_enters (hE:CallEnters P call){f:Nat}{args:List AV}{r:Out×Heap}(h:eCA pg call f args G=some r):Entered P f:=by
 unfold eCA at h
 split at h
 ·cases h
 ·split at h
  ·cases h
  ·split at h
   ·cases h
   ·rename_i hcall
    exact hE _ _ _ _ hcall
variable (hC:CallSound P call)(hE:CallEnters P call)(hI:Inv m μ G w)(he:EnvR m μ (inf G) N env a)
include hC hE hI he
theorem good_enter {f:Nat}{vargs:List Value}{args:List AV}(hrun:Entered P f→(execOp a.eval o).run P w=.ok (.enter f vargs.toArray) w)(hr:RL m μ (inf G) vargs args){r:Res}(h:Res.of (eCA pg call f args G)=some r):Good P o a m μ G w r:=by
 cases hx:eCA pg call f args G with
 |none=>rw[hx]at h;simp[Res.of]at h
 |some y =>
  rcases y with ⟨out,G'⟩
  rw[hx]at h
  have hent:=evCallAt_enters hE hx
  have hcall:=callAt_sound hC hI hx hr
  cases out with
  |ret v =>
   simp[Res.of]at h
   subst h
   intro next Q hn
   unfold Oper.wp
   rw[hrun hent,Oper.upon_enter]
   refine hcall.mono fun e w' hp=>?_
   obtain ⟨m',μ',h1,h2,h3⟩:=hp
   cases e with
   |returned v'=>exact hn m' μ' w' v' h1 h2 h3
   |panicked chain=>exact h3.elim
   |outgrown=>exact h3.elim
  |pan v =>
   simp[Res.of]at h
   subst h
   intro next Q hn
   unfold Oper.wp
   rw[hrun hent,Oper.upon_enter]
   refine hcall.mono fun e w' hp=>?_
   obtain ⟨m',μ',h1,h2,h3⟩:=hp
   cases e with
   |returned v'=>exact h3.elim
   |panicked chain =>
    obtain ⟨v',rfl,hv⟩:=h3
    exact hn m' μ' w' v' h1 h2 hv
   |outgrown=>exact h3.elim
theorem good_call {f:Nat}{xs:Array Operand}{ts:Array TypeId}(ho:o.op=.call ⟨.value (.func f),xs,ts⟩){os:List Opd}(hx:cOpds xs.toList=some os){args:List AV}(hv:opds env os=some args){r:Res}(h:Res.of (eCA pg call f args G)=some r):Good P o a m μ G w r:=by
 refine good_enter hC hE hI he (vargs:=xs.toList.map a.eval) (fun hent=>?_) (opds_R he hx hv) h
 have:(xs.toList.map a.eval).toArray=xs.map a.eval:=by apply Array.ext';simp
 rw[this]
 simp[execOp,ho,resolve,Deferred.ofValue,Act.eval,invoke,callFunc_run hent]
theorem good_callv {x:Operand}{xs:Array Operand}{ts:Array TypeId}(ho:o.op=.call ⟨.value x,xs,ts⟩){ox:Opd}(hx:cOpd x=some ox){os:List Opd}(hxs:cOpds xs.toList=some os){f:Nat}{first cap:List AV}(hf:opd env ox=some (.fn f first cap)){args:List AV}(hv:opds env os=some args){r:Res}(h:Res.of (eCA pg call f (first++args++cap) G)=some r):Good P o a m μ G w r:=by
 obtain ⟨va,vb,e,h1,h2⟩:=(opd_R he hx hf).fnInv
 refine good_enter hC hE hI he (vargs:=va.toList++xs.toList.map a.eval++vb.toList) (fun hent=>?_) ((h1.app (opds_R he hxs hv)).app h2) h
 have:(va.toList++xs.toList.map a.eval++vb.toList).toArray=va++xs.map a.eval++vb:=by apply Array.ext';simp
 rw[this]
 simp[execOp,ho,resolve,Deferred.ofValue,e,invoke,callFunc_run hent]
omit hC hE
theorem good_panic {x:Operand}{ox:Opd}(ho:o.op=.panic x)(hx:cOpd x=some ox){v:AV}(hv:opd env ox=some v){r:Res}
  (h:(match some v with
   |some (.ifc t v)=>match norm G (.ifc t v) with
    |some (v,G)=>some (Res.pan v G)
    |none=>none
   |some (.p (.ifc t v))=>some (.pan (.p (.ifc t v)) G)
   |_=>none)=some r):Good P o a m μ G w r:=by
 have hr:=opd_R he hx hv
 cases v with
 |ifc t v =>
  dsimp only at h
  split at h
  ·rename_i v' G' hn
   cases h
   obtain ⟨m',hI',hS,hr'⟩:=norm_sound _ hI hn hr
   intro next Q hq
   generalize hz:a.eval x=z at hr hr'
   cases hr with|ifc _ z' _ hz' =>
   refine wp_of_pan (w':=w) (v:=.iface t z') ?_ ?_
   ·simp only[execOp,ho,hz];simp[Instr.panic,go_sem]
   ·exact hq m' μ w _ hI' hS hr'
  ·cases h
 |p x =>
  cases x with
  |ifc t v =>
   dsimp only at h
   cases h
   intro next Q hq
   have hr0:=hr
   generalize hz:a.eval x=z at hr
   cases hr with|p _ _ hp =>
   cases hp with|ifc _ z' _ hz' =>
   refine wp_of_pan (w':=w) (v:=.iface t z') ?_ ?_
   ·simp only[execOp,ho,hz];simp[Instr.panic,go_sem]
   ·rw[hz]at hr0;exact hq m μ w _ hI (.refl _ _ _ _) hr0
  |_=>simp at h
 |_=>simp at h
theorem good_convs {x:Operand}{ox:Opd}{s d:TypeId}(ho:o.op=.convert s d x)(hs:P.underlying s=some .string)(hd:P.underlying d=some .string)(hx:cOpd x=some ox){l:List UInt8}(hv:opd env ox=some (.p (.s l))):Good P o a m μ G w (.val (.p (.s l)) G):=by
 have hb':=(opd_R he hx hv).str_inv
 exact .same hI (by simp[execOp,ho,hb',convert,run_underlying hs,run_underlying hd]) (.str _)
theorem good_lenA {args:Array Operand}{ts:Array TypeId}{x:Operand}{t e:TypeId}{n:Nat}(ho:o.op=.call ⟨.builtin .len,args,ts⟩)(ha:args.toList=[x])(ht:ts[0]?=some t)(hd:P.underlying t=some (.array n e)):Good P o a m μ G w (.val (.p (.i .i64 n)) G):=by
 have ha':args=#[x]:=by apply Array.ext';simpa using ha
 refine .same hI (val:=.int .i64 n) ?_ (.int _ _)
 simp[execOp,ho,ha',resolve,invoke,builtin,Builtin.len_,Builtin.lenOf,go_sem,ht,run_underlying hd]
end
theorem map_inv {α β:Type}{x:Option α}{f:α→β}{y:β}(h:x.map f=some y):∃ a,x=some a∧y=f a:=by
 cases x with
 |none=>simp at h
 |some a=>simp at h;exact ⟨a,rfl,h.symm⟩
section
variable {P:Program}{pg:Prg}{call:CallF}{o:Oper}{a:Act}{m:Mem}{μ:Mu}{G:Heap}{w:World}{N:Nat}{env:Env}
variable (hC:CallSound P call)(hE:CallEnters P call)(hI:Inv m μ G w)(he:EnvR m μ (inf G) N env a)
include hC hE hI he
theorem op_bin {op:BinOp}{t ty:TypeId}{x y:Operand}(ho:o.op=.binOp op t x y ty){c:BClass}(hcl:cClass P op t x y=some c){ox oy:Opd}(hx:cOpd x=some ox)(hy:cOpd y=some oy){r:Res}(h:evOp pg call (.bin op c ox oy) env G=some r):Good P o a m μ G w r:=by
 simp only[evOp]at h
 split at h
 ·rename_i u v hu hv
  unfold cClass at hcl
  split at hcl
  ·cases hcl
   obtain ⟨z,hz,rfl⟩:=one_inv h
   exact good_int hI he ho hx hy hu hv hz
  ·cases hcl
   obtain ⟨z,hz,rfl⟩:=one_inv h
   exact good_str hI he ho hx hy hu hv hz
  ·rename_i ht
   cases hcl
   obtain ⟨z,hz,rfl⟩:=one_inv h
   exact good_bool hI he ht ho hx hy hu hv hz
  ·rename_i e ht
   cases hcl
   obtain ⟨z,hz,rfl⟩:=one_inv h
   exact good_nil hI he ho ht (.inl ⟨rfl,e,rfl⟩) hx hy hu hv hz
  ·rename_i p q vv ht
   cases hcl
   obtain ⟨z,hz,rfl⟩:=one_inv h
   exact good_nil hI he ho ht (.inr (.inl ⟨rfl,p,q,vv,rfl⟩)) hx hy hu hv hz
  ·rename_i ms ht
   split at hcl
   ·rename_i hnil
    cases hcl
    obtain ⟨z,hz,rfl⟩:=one_inv h
    exact good_nil hI he ho ht (.inr (.inr ⟨rfl,⟨ms,rfl⟩,hnil⟩)) hx hy hu hv hz
   ·cases hcl
  ·rename_i fs ht
   have key:(op=.eql∨op=.neq)→(match cSize P t,leafOffs P 8 t 0 with
    |some n,some l=>if P.eqGuardType P.depth t=true then none else some (BClass.leaves n l)
    |_,_=>none)=some c→Good P o a m μ G w r:=by
    intro hop hcl
    split at hcl
    ·rename_i n l hn hl
     split at hcl
     ·cases hcl
     ·rename_i hgt
      cases hcl
      dsimp only at h
      split at h
      ·split at h
       ·rename_i hlen
        obtain ⟨z,hz,rfl⟩:=one_inv h
        cases hb:lvE l _ _ with
        |none=>rw[hb]at hz;simp[evCmp]at hz
        |some b =>
         rw[hb]at hz
         exact good_leaves hI he ho hop ht (.inl ⟨fs,rfl⟩) hn hl (by simpa using hgt) hx hy hu hv (by simpa [AV.cells] using hlen.1) (by simpa [AV.cells] using hlen.2) ⟨_,rfl⟩ ⟨_,rfl⟩ (by simpa [AV.cells] using hb) hz
       ·cases h
      ·cases h
    ·cases hcl
   split at hcl
   ·exact key (.inl rfl) hcl
   ·exact key (.inr rfl) hcl
   ·cases hcl
  ·rename_i k e ht
   have key:(op=.eql∨op=.neq)→(match cSize P t,leafOffs P 8 t 0 with
    |some n,some l=>if P.eqGuardType P.depth t=true then none else some (BClass.leaves n l)
    |_,_=>none)=some c→Good P o a m μ G w r:=by
    intro hop hcl
    split at hcl
    ·rename_i n l hn hl
     split at hcl
     ·cases hcl
     ·rename_i hgt
      cases hcl
      dsimp only at h
      split at h
      ·split at h
       ·rename_i hlen
        obtain ⟨z,hz,rfl⟩:=one_inv h
        cases hb:lvE l _ _ with
        |none=>rw[hb]at hz;simp[evCmp]at hz
        |some b =>
         rw[hb]at hz
         exact good_leaves hI he ho hop ht (.inr ⟨k,e,rfl⟩) hn hl (by simpa using hgt) hx hy hu hv (by simpa [AV.cells] using hlen.1) (by simpa [AV.cells] using hlen.2) ⟨_,rfl⟩ ⟨_,rfl⟩ (by simpa [AV.cells] using hb) hz
       ·cases h
      ·cases h
    ·cases hcl
   split at hcl
   ·exact key (.inl rfl) hcl
   ·exact key (.inr rfl) hcl
   ·cases hcl
  ·cases hcl
 ·cases h
end
theorem opds_one {x:Operand}{xs:List Operand}{ox:List Opd}(h:cOpds (x::xs)=some ox):∃ y ys,ox=y::ys∧cOpd x=some y∧cOpds xs=some ys:=by
 simp only[cOpds]at h
 split at h
 ·cases h
 ·rename_i y hy
  split at h
  ·cases h
  ·rename_i ys hys
   cases h
   exact ⟨y,ys,rfl,hy,hys⟩
theorem opds_1 {l:List Operand}{y:Opd}(h:cOpds l=some [y]):∃ x,l=[x]∧cOpd x=some y:=by
 cases l with
 |nil=>simp[cOpds]at h
 |cons x xs =>
  obtain ⟨y',ys,e,h1,h2⟩:=opds_one h
  cases e
  cases xs with
  |nil=>exact ⟨x,rfl,h1⟩
  |cons x' xs=>obtain ⟨y',ys,e,h1,h2⟩:=opds_one h2;cases e
theorem opds_2 {l:List Operand}{y z:Opd}(h:cOpds l=some [y,z]):∃ x x',l=[x,x']∧cOpd x=some y∧cOpd x'=some z:=by
 cases l with
 |nil=>simp[cOpds]at h
 |cons x xs =>
  obtain ⟨y',ys,e,h1,h2⟩:=opds_one h
  cases e
  obtain ⟨x',e,h3⟩:=opds_1 h2
  subst e
  exact ⟨x,x',rfl,h1,h3⟩
theorem opds_ev2 {env:Env}{x y:Opd}{p q:AV}(h:opds env [x,y]=some [p,q]):opd env x=some p∧opd env y=some q:=by
 simp only[opds]at h
 split at h
 ·cases h
 ·rename_i p' hp
  split at h
  ·cases h
  ·rename_i vs hv
   split at hv
   ·cases hv
   ·rename_i q' hq
    cases hv
    cases h
    exact ⟨hp,hq⟩
section
variable {P:Program}{pg:Prg}{call:CallF}{o:Oper}{a:Act}{m:Mem}{μ:Mu}{G:Heap}{w:World}{N:Nat}{env:Env}
variable (hC:CallSound P call)(hE:CallEnters P call)(hI:Inv m μ G w)(he:EnvR m μ (inf G) N env a)
include hC hE hI he
theorem op_call {c:Call}(ho:o.op=.call c){co:COp}(hc:cOp P (.call c)=some co){r:Res}(h:evOp pg call co env G=some r):Good P o a m μ G w r:=by
 rcases c with ⟨callee,args,ts⟩
 simp only[cOp]at hc
 split at hc
 ·
  rename_i f os hos
  cases hc
  simp only[evOp]at h
  split at h
  ·rename_i vs hvs
   exact good_call hC hE hI he ho hos hvs h
  ·cases h
 ·rename_i x os hne hos
  obtain ⟨ox,hx,rfl⟩:=map_inv hc
  simp only[evOp]at h
  split at h
  ·rename_i hf hvs
   exact good_callv hC hE hI he ho hx hos hf hvs h
  ·cases h
 ·rename_i y hos
  obtain ⟨x,hl,hx⟩:=opds_1 hos
  split at hc
  ·rename_i ht
   cases hc
   obtain ⟨t,ht1,ht2⟩:=Option.bind_eq_some_iff.1 ht
   simp only[evOp]at h
   split at h
   ·rename_i v hv
    split at h
    ·rename_i n hn
     cases h
     exact good_len hI he ho hl ht1 ht2 (by simp) hx hv hn
    ·cases h
   ·cases h
  ·rename_i e ht
   cases hc
   obtain ⟨t,ht1,ht2⟩:=Option.bind_eq_some_iff.1 ht
   simp only[evOp]at h
   split at h
   ·rename_i v hv
    split at h
    ·rename_i n hn
     cases h
     exact good_len hI he ho hl ht1 ht2 (by simp) hx hv hn
    ·cases h
   ·cases h
  ·rename_i n e ht
   cases hc
   obtain ⟨t,ht1,ht2⟩:=Option.bind_eq_some_iff.1 ht
   simp only[evOp]at h
   obtain ⟨z,hz,rfl⟩:=one_inv h
   simp[opd]at hz
   subst hz
   exact good_lenA hI he ho hl ht1 ht2
  ·cases hc
 ·rename_i y z hos
  obtain ⟨x,x',hl,hx,hx'⟩:=opds_2 hos
  split at hc
  ·rename_i e u ht hu
   obtain ⟨t,ht1,ht2⟩:=Option.bind_eq_some_iff.1 ht
   obtain ⟨t',ht1',ht2'⟩:=Option.bind_eq_some_iff.1 hu
   split at hc
   ·rename_i sz by_ _ e' hn hb
    split at hc
    ·rename_i hok
     cases hc
     simp only[Bool.and_eq_true,decide_eq_true_eq,beq_iff_eq]at hok
     simp only[evOp]at h
     split at h
     ·rename_i p q hp hq
      split at h
      ·rename_i v G' hap
       cases h
       exact good_app hI he ho hl ht1 ht1' hok.2 ht2 hn hb hok.1.2 hok.1.1 (by simpa using ⟨_,ht2'⟩) hx hx' hp hq hap
      ·cases h
     ·cases h
    ·cases hc
   ·rename_i sz by_ _ hn hb
    split at hc
    ·rename_i hok
     cases hc
     simp only[Bool.and_eq_true,decide_eq_true_eq,beq_iff_eq]at hok
     simp only[evOp]at h
     split at h
     ·rename_i p q hp hq
      split at h
      ·rename_i v G' hap
       cases h
       exact good_app hI he ho hl ht1 ht1' hok.2 ht2 hn hb hok.1.2 (by omega) (by simpa using ⟨ht2',hok.1.1⟩) hx hx' hp hq hap
      ·cases h
     ·cases h
    ·cases hc
   ·cases hc
  ·cases hc
 ·rename_i y z hos
  obtain ⟨x,x',hl,hx,hx'⟩:=opds_2 hos
  cases hc
  simp only[evOp]at h
  split at h
  ·rename_i k p k' q hpq
   cases h
   obtain ⟨h1,h2⟩:=opds_ev2 hpq
   exact good_max hI he ho hl hx hx' h1 h2
  ·cases h
 ·rename_i y z hos
  obtain ⟨x,x',hl,hx,hx'⟩:=opds_2 hos
  cases hc
  simp only[evOp]at h
  split at h
  ·rename_i k p k' q hpq
   cases h
   obtain ⟨h1,h2⟩:=opds_ev2 hpq
   exact good_min hI he ho hl hx hx' h1 h2
  ·cases h
 ·cases hc
theorem op_sound {co:COp}(hc:cOp P o.op=some co){r:Res}(h:evOp pg call co env G=some r):Good P o a m μ G w r:=by
 cases ho:o.op with
 |move x =>
  rw[ho]at hc
  obtain ⟨ox,hx,rfl⟩:=map_inv hc
  obtain ⟨v,hv,rfl⟩:=one_inv h
  exact good_mov hI he (.inl ho) hx hv
 |assign x =>
  rw[ho]at hc
  obtain ⟨ox,hx,rfl⟩:=map_inv hc
  obtain ⟨v,hv,rfl⟩:=one_inv h
  exact good_mov hI he (.inr ho) hx hv
 |pick c x y =>
  rw[ho]at hc
  simp only[cOp]at hc
  split at hc
  ·rename_i oc ox oy hcc hx hy
   cases hc
   simp only[evOp]at h
   split at h
   ·rename_i b hb
    split at h
    ·rename_i hbt
     obtain ⟨v,hv,rfl⟩:=one_inv h
     exact good_pick hI he ho hcc hx hy hb (by rw[if_pos hbt];exact hv)
    ·rename_i hbt
     obtain ⟨v,hv,rfl⟩:=one_inv h
     exact good_pick hI he ho hcc hx hy hb (by rw[if_neg hbt];exact hv)
   ·cases h
  ·cases hc
 |alloc e =>
  rw[ho]at hc
  obtain ⟨cs,hz,rfl⟩:=map_inv hc
  simp only[evOp]at h
  split at h
  ·rename_i hf
   cases h
   exact good_new hI he ho hz hf
  ·cases h
 |box t x =>
  rw[ho]at hc
  obtain ⟨ox,hx,rfl⟩:=map_inv hc
  simp only[evOp]at h
  split at h
  ·rename_i v hv
   split at h
   ·rename_i hf
    cases h
    exact good_box hI he ho hx hv hf
   ·cases h
  ·cases h
 |build t ps =>
  rw[ho]at hc
  simp only[cOp]at hc
  have key:∀ {places:Nat→Option (Nat×Nat)} {d:TypeDesc} {z:List AV},P.underlying t=some d→cZero P t=some z→z.all AV.flat=true →
    ((∃ fs,d=.struct fs∧fs.toList.all (fun f=>(cSize P f.type).isSome)=true∧places=fun i=>match fs[i]? with|some f=>(cSize P f.type).map fun n=>(f.offset,n)|none=>none) ∨
    (∃ k e n,d=.array k e∧cSize P e=some n∧places=fun i=>some (i * n,n)))→(cBuild places ps.toList).map (.build z)=some co→Good P o a m μ G w r:=by
   intro places d z ht hz hzf hpl hc
   obtain ⟨l,hl,rfl⟩:=map_inv hc
   simp only[evOp]at h
   split at h
   ·cases h
   ·rename_i vs hv
    split at h
    ·cases h
    ·rename_i cs hcs
     cases h
     exact good_build hI he ho ht hz hzf hpl hl hv hcs
  split at hc
  ·rename_i fs z ht hz
   split at hc
   ·rename_i hall
    exact key ht hz hall.1 (.inl ⟨fs,rfl,hall.2,rfl⟩) hc
   ·cases hc
  ·rename_i k e z ht hz
   split at hc
   ·rename_i n hn
    split at hc
    ·rename_i hall
     exact key ht hz hall (.inr ⟨k,e,n,rfl,hn,rfl⟩) hc
    ·cases hc
   ·cases hc
  ·cases hc
 |buildSlice t n ps =>
  rw[ho]at hc
  simp only[cOp]at hc
  split at hc
  ·rename_i e ht
   split at hc
   ·rename_i sz z l hn hz hl
    split at hc
    ·rename_i hok
     simp only[Bool.and_eq_true,decide_eq_true_eq,beq_iff_eq]at hok
     cases hc
     simp only[evOp]at h
     split at h
     ·rename_i hok2
      split at h
      ·cases h
      ·rename_i vs hv
       split at h
       ·cases h
       ·rename_i rows G' hrows
        cases h
        exact good_bslice hI he ho ht hn hz hok2.1 hok2.2 hok.1.1 hl hv hrows
     ·cases h
    ·cases hc
   ·cases hc
  ·cases hc
 |load t x =>
  rw[ho]at hc
  simp only[cOp]at hc
  split at hc
  ·rename_i n g ox hn hg hx
   cases hc
   simp only[evOp]at h
   split at h
   ·rename_i v hv
    obtain ⟨y,hy,rfl⟩:=one_inv h
    exact good_load hI he ho hn hg hx hv hy
   ·cases h
  ·cases hc
 |store t x y =>
  rw[ho]at hc
  simp only[cOp]at hc
  split at hc
  ·rename_i n ox oy hn hx hy
   cases hc
   simp only[evOp]at h
   split at h
   ·rename_i u v hu hv
    split at h
    ·rename_i G' hs
     cases h
     exact good_store hI he ho hn hx hy hu hv hs
    ·cases h
   ·cases h
  ·cases hc
 |nilCheck x =>
  rw[ho]at hc
  obtain ⟨ox,hx,rfl⟩:=map_inv hc
  simp only[evOp]at h
  split at h
  ·rename_i hv;cases h;exact good_nilck hI he ho hx hv (.inl ⟨_,_,rfl⟩)
  ·rename_i hv;cases h;exact good_nilck hI he ho hx hv (.inr (.inl ⟨_,_,_,_,rfl⟩))
  ·rename_i hv;cases h;exact good_nilck hI he ho hx hv (.inr (.inr (.inl ⟨_,rfl⟩)))
  ·rename_i hv;cases h;exact good_nilck hI he ho hx hv (.inr (.inr (.inr ⟨_,_,_,rfl⟩)))
  ·cases h
 |binOp op t x y ty =>
  rw[ho]at hc
  simp only[cOp]at hc
  split at hc
  ·rename_i c ox oy hcl hx hy
   cases hc
   exact op_bin hC hE hI he ho hcl hx hy h
  ·cases hc
 |unOp op t x =>
  rw[ho]at hc
  cases op with
  |not =>
   obtain ⟨ox,hx,rfl⟩:=map_inv hc
   simp only[evOp]at h
   split at h
   ·rename_i hv;cases h;exact good_not hI he ho hx hv
   ·cases h
  |neg =>
   obtain ⟨ox,hx,rfl⟩:=map_inv hc
   simp only[evOp]at h
   split at h
   ·rename_i hv;cases h;exact good_neg hI he ho hx hv
   ·cases h
  |_=>simp[cOp]at hc
 |convert s d x =>
  rw[ho]at hc
  simp only[cOp]at hc
  split at hc
  ·rename_i k k' hs hd
   obtain ⟨ox,hx,rfl⟩:=map_inv hc
   simp only[evOp]at h
   split at h
   ·rename_i hv;cases h;exact good_conv hI he ho hs hd hx hv
   ·cases h
  ·rename_i hs hd
   obtain ⟨ox,hx,rfl⟩:=map_inv hc
   simp only[evOp]at h
   split at h
   ·rename_i hv;cases h;exact good_convs hI he ho hs hd hx hv
   ·cases h
  ·rename_i e hs hd
   split at hc
   ·rename_i hu
    obtain ⟨ox,hx,rfl⟩:=map_inv hc
    simp only[evOp]at h
    split at h
    ·rename_i v hv
     split at h
     ·rename_i l hl
      cases h
      exact good_tostr hI he ho hs hd hu hx hv hl
     ·cases h
    ·cases h
   ·cases hc
  ·cases hc
 |makeInterface t x =>
  rw[ho]at hc
  simp only[cOp]at hc
  split at hc
  ·cases hc
  ·rename_i d hne ht
   obtain ⟨ox,hx,rfl⟩:=map_inv hc
   simp only[evOp]at h
   split at h
   ·rename_i v hv
    cases h
    exact good_mkif hI he ho ht (fun ms e=>hne ms e) hx hv
   ·cases h
  ·cases hc
 |makeFunc f x y =>
  rw[ho]at hc
  cases f with
  |func f =>
   simp only[cOp]at hc
   split at hc
   ·rename_i ox oy hx hy
    cases hc
    simp only[evOp]at h
    split at h
    ·rename_i u v hu hv
     cases h
     exact good_mkfn hI he ho hx hy hu hv
    ·cases h
   ·cases hc
  |_=>simp[cOp]at hc
 |makeSlice t x y =>
  rw[ho]at hc
  simp only[cOp]at hc
  split at hc
  ·rename_i e ht
   split at hc
   ·rename_i sz by_ z ox oy hn hb hz hx hy
    split at hc
    ·rename_i hok
     cases hc
     simp only[evOp]at h
     split at h
     ·rename_i l c hl hcc
      split at h
      ·rename_i hh
       cases h
       exact good_mkslice hI he ho ht hn hb hz hh.2.2.2.1 hh.2.2.2.2 hx hy hl hcc hh.1 hh.2.1 hh.2.2.1
      ·cases h
     ·cases h
    ·cases hc
   ·cases hc
  ·cases hc
 |slice t x lo hi mx =>
  rw[ho]at hc
  cases mx with
  |some mx=>simp[cOp]at hc
  |none =>
   simp only[cOp]at hc
   split at hc
   ·rename_i ht
    split at hc
    ·rename_i ox olo ohi hx hlo hhi
     cases hc
     simp only[evOp]at h
     split at h
     ·cases h
     ·rename_i v hv
      split at h
      ·rename_i hstr
       split at h
       ·rename_i l hh hl hhh
        split at h
        ·rename_i r' G' hs
         cases h
         exact good_subs hI he ho ht (.inl rfl) hx hlo hhi hv (by cases olo<;>exact hl) (by cases ohi<;>exact hhh) (by simpa using hstr) hs
        ·cases h
       ·cases h
      ·cases h
    ·cases hc
   ·rename_i e ht
    split at hc
    ·rename_i sz ox olo ohi hn hx hlo hhi
     cases hc
     simp only[evOp]at h
     split at h
     ·cases h
     ·rename_i v hv
      split at h
      ·rename_i hstr
       split at h
       ·rename_i l hh hl hhh
        split at h
        ·rename_i r' G' hs
         cases h
         exact good_subs hI he ho ht (.inr ⟨e,rfl,hn⟩) hx hlo hhi hv (by cases olo<;>exact hl) (by cases ohi<;>exact hhh) (by simpa using hstr) hs
        ·cases h
       ·cases h
      ·cases h
    ·cases hc
   ·cases hc
 |fieldAddr t x k =>
  rw[ho]at hc
  simp only[cOp]at hc
  split at hc
  ·rename_i fs ht
   split at hc
   ·rename_i f hf
    split at hc
    ·rename_i n ox hn hx
     split at hc
     ·cases hc
     ·rename_i hn0
      cases hc
      simp only[evOp]at h
      split at h
      ·rename_i hv;cases h;exact good_faddr hI he ho ht hf hn hn0 hx hv (.inl ⟨_,_,rfl,rfl⟩)
      ·rename_i hv;cases h;exact good_faddr hI he ho ht hf hn hn0 hx hv (.inr (.inl ⟨_,_,_,_,rfl,rfl⟩))
      ·rename_i hv;cases h;exact good_faddr hI he ho ht hf hn hn0 hx hv (.inr (.inr ⟨_,rfl,rfl⟩))
      ·cases h
    ·cases hc
   ·cases hc
  ·cases hc
 |field t x k =>
  rw[ho]at hc
  simp only[cOp]at hc
  split at hc
  ·rename_i fs ht
   split at hc
   ·rename_i f hf
    split at hc
    ·rename_i n g ox hn hg hx
     cases hc
     simp only[evOp]at h
     split at h
     ·rename_i cs hv
      have:∀ y,r=.val y G→(if g=true then (if f.offset+n≤cs.length then some (AV.ag ((cs.drop f.offset).take n)) else none) else cs[f.offset]?)=some y→Good P o a m μ G w r:=by
       intro y e hy
       subst e
       exact good_field hI he ho ht hf hn hg hx hv hy
      split at h
      ·rename_i hg1
       split at h
       ·rename_i hle
        cases h
        exact this _ rfl (by rw[if_pos hg1,if_pos hle])
       ·cases h
      ·rename_i hg1
       obtain ⟨y,hy,rfl⟩:=one_inv h
       exact this _ rfl (by rw[if_neg hg1];exact hy)
     ·cases h
    ·cases hc
   ·cases hc
  ·cases hc
 |indexAddr t x y =>
  rw[ho]at hc
  simp only[cOp]at hc
  split at hc
  ·rename_i k e ht
   split at hc
   ·rename_i sz ox oy hn hx hy
    cases hc
    simp only[evOp]at h
    split at h
    ·rename_i v kk i hv hi
     split at h
     ·split at h
      ·rename_i hh
       cases h
       exact good_iaddrA hI he ho ht hn hx hy hv hi hh.1 hh.2 (.inl ⟨_,_,rfl,rfl⟩)
      ·cases h
     ·split at h
      ·rename_i hh
       cases h
       exact good_iaddrA hI he ho ht hn hx hy hv hi hh.1 hh.2 (.inr ⟨_,rfl,rfl⟩)
      ·cases h
     ·cases h
    ·cases h
   ·cases hc
  ·rename_i e ht
   split at hc
   ·rename_i sz ox oy hn hx hy
    cases hc
    simp only[evOp]at h
    split at h
    ·rename_i v kk i hv hi
     split at h
     ·split at h
      ·rename_i h0
       split at h
       ·rename_i row hrow
        split at h
        ·rename_i hok
         cases h
         exact good_iaddrP hI he ho ht hn hx hy hv hi h0 hrow hok
        ·cases h
       ·cases h
      ·cases h
     ·split at h
      ·rename_i hG
       split at h
       ·rename_i hh
        cases h
        obtain ⟨h0,h1,h2,h3,h4⟩:=hh
        subst h2
        subst h3
        exact good_iaddrR hI he ho ht hn hx hy hv hi h0 h1 hG
       ·cases h
      ·cases h
     ·cases h
    ·cases h
   ·cases hc
  ·cases hc
 |index t x y =>
  rw[ho]at hc
  simp only[cOp]at hc
  split at hc
  ·rename_i k e ht
   split at hc
   ·rename_i sz g ox oy hn hg hx hy
    cases hc
    simp only[evOp]at h
    split at h
    ·rename_i v kk i hv hi
     split at h
     ·rename_i len n ag cs heq
      cases heq
      split at h
      ·rename_i hh
       have:∀ y,r=.val y G→(if g=true then (if i.toNat * sz+sz≤cs.length then some (AV.ag ((cs.drop (i.toNat * sz)).take sz)) else none) else cs[i.toNat * sz]?)=some y→Good P o a m μ G w r:=by
        intro y e hy'
        subst e
        exact good_indexA hI he ho ht hn hg hx hy hv hi hh.1 hh.2 hy'
       split at h
       ·rename_i hg1
        split at h
        ·rename_i hle
         cases h
         exact this _ rfl (by rw[if_pos hg1,if_pos hle])
        ·cases h
       ·rename_i hg1
        obtain ⟨y,hy,rfl⟩:=one_inv h
        exact this _ rfl (by rw[if_neg hg1];exact hy)
      ·cases h
     ·rename_i heq;cases heq
     ·cases h
    ·cases h
   ·cases hc
  ·rename_i ht
   split at hc
   ·rename_i ox oy hx hy
    cases hc
    simp only[evOp]at h
    split at h
    ·rename_i v kk i hv hi
     split at h
     ·rename_i heq;cases heq
     ·split at h
      ·rename_i h0
       split at h
       ·rename_i c hcc
        cases h
        exact good_indexS hI he ho ht hx hy hv hi h0 hcc
       ·cases h
      ·cases h
     ·cases h
    ·cases h
   ·cases hc
  ·cases hc
 |extract x k =>
  rw[ho]at hc
  obtain ⟨ox,hx,rfl⟩:=map_inv hc
  simp only[evOp]at h
  split at h
  ·rename_i vs hv
   obtain ⟨y,hy,rfl⟩:=one_inv h
   exact good_extract hI he ho hx hv hy
  ·cases h
 |call c =>
  rw[ho]at hc
  exact op_call hC hE hI he ho hc h
 |panic x =>
  rw[ho]at hc
  obtain ⟨ox,hx,rfl⟩:=map_inv hc
  cases hv:opd env ox with
  |none=>simp[evOp,hv]at h
  |some v =>
   refine good_panic hI he ho hx hv ?_
   simp only[evOp,hv]at h
   exact h
 |_=>rw[ho]at hc;simp[cOp]at hc
end
theorem cOper_inv {P:Program}{N:Nat}{ops:Array Oper}{o:Oper}{ci:CI}(h:cOper P N ops o=some ci) :
  cOp P o.op=some ci.o∧ci.d=o.dst∧dstOK N o.dst=true∧((o.guard=none∧ci.g=none)∨∃ j w d,o.guard=some (j,w)∧(ops[j]?).bind (·.dst)=some d∧ci.g=some (d,w)):=by
 unfold cOper at h
 split at h
 ·cases h
 ·rename_i c hc
  split at h
  ·rename_i hd
   split at h
   ·rename_i hg
    cases h
    exact ⟨hc,rfl,hd,.inl ⟨hg,rfl⟩⟩
   ·rename_i j w hg
    split at h
    ·rename_i d hj
     cases h
     exact ⟨hc,rfl,hd,.inr ⟨j,w,d,hg,hj,rfl⟩⟩
    ·cases h
  ·cases h
theorem R.notBool {m:Mem}{μ:Mu}{i:Inf}{v:Value}{x:AV}(h:R m μ i v x)(hx:∀ b,x≠.p (.b b)):∀ b,v≠.bool b:=by
 intro b e
 subst e
 cases h with
 |p _ _ hp=>cases hp;exact hx _ rfl
theorem wanted_of {P:Program}{N:Nat}{ops:Array Oper}{o:Oper}{ci:CI}(h:cOper P N ops o=some ci){m:Mem}{μ:Mu}{i:Inf}{env:Env}{a:Act}(he:EnvR m μ i N env a){b:Bool}(hg:gOK env ci.g=some b) :
  Region.wanted o (yielded ops a.tmps)=b:=by
 obtain ⟨_,_,_,h4⟩:=cOper_inv h
 rcases h4 with ⟨h1,h2⟩|⟨j,w,d,h1,h2,h3⟩
 ·rw[h2]at hg
  simp[gOK]at hg
  subst hg
  simp[Region.wanted,h1]
 ·rw[h3]at hg
  simp only[gOK]at hg
  have hy:yielded ops a.tmps j=(match a.tmps[d]? with|some (.bool b)=>some b|_=>none):=by
   unfold yielded
   rw[h2]
   rfl
  simp only[Region.wanted,h1,hy]
  split at hg
  ·rename_i bb hb
   cases hg
   have hv:=(he.val d _ hb).bool_inv
   have:a.tmps[d]?=some (.bool bb):=by
    cases ht:a.tmps[d]? with
    |none=>simp[Array.getD_eq_getD_getElem?,ht,undef]at hv
    |some v=>simp[Array.getD_eq_getD_getElem?,ht]at hv;rw[hv]
   rw[this]
   cases bb<;>cases w<;>rfl
  ·rename_i x hne hx
   cases hg
   have hnb:=(he.val d _ hx).notBool (fun b e=>hne b e)
   cases ht:a.tmps[d]? with
   |none=>rfl
   |some v =>
    have hnb':∀ b,v≠.bool b:=fun b e=>hnb b (by simp[Array.getD_eq_getD_getElem?,ht,e])
    cases v<;>first|rfl|exact absurd rfl (hnb' _)
  ·cases hg
section
variable {P:Program}{pg:Prg}{call:CallF}{N:Nat}{ops:Array Oper}
variable (hC:CallSound P call)(hE:CallEnters P call)
include hC hE
theorem step_sound {o:Oper}{ci:CI}(h:cOper P N ops o=some ci){env:Env}{G:Heap}{F:Env}{G1:Heap}(hev:evCI pg call ci env G=some (F,G1)){m:Mem}{μ:Mu}{a:Act}{w:World}
  (hI:Inv m μ G w) (he:EnvR m μ (inf G) N env a) {next:Act→World→Prop} {Q:Exit→Act→World→Prop}
  (hn:∀ m' μ' w' val,Inv m' μ' G1 w'→Stp m μ G w m' μ' G1 w'→EnvR m' μ' (inf G1) N F (a.put o.dst val)→next (a.put o.dst val) w') :
  if Region.wanted o (yielded ops a.tmps) then o.wp P a w next Q else next (a.put o.dst undef) w:=by
 obtain ⟨h1,h2,h3,h4⟩:=cOper_inv h
 unfold evCI at hev
 split at hev
 ·cases hev
 ·rename_i hg
  cases hev
  rw[wanted_of h he hg]
  exact hn m μ w undef hI (.refl _ _ _ _) (by rw[h2];exact he.put h3 .undef)
 ·rename_i hg
  rw[wanted_of h he hg]
  split at hev
  ·rename_i v G2 hv
   cases hev
   have:=op_sound hC hE hI he h1 hv next Q
   refine this fun m' μ' w' val hI' hS hr=>hn m' μ' w' val hI' hS ?_
   rw[h2]
   exact (he.mono hS.ext).put h3 hr
  ·cases hev
structure Ent where
 m:Mem
 μ:Mu
 G:Heap
 w:World
 ds:List Deferred
omit hC hE
variable (E:Ent)(N)
structure Pt (G:Heap)(env:Env)(a:Act)(w:World)(m:Mem)(μ:Mu):Prop where
 inv:Inv m μ G w
 env:EnvR m μ (inf G) N env a
 dfr:a.defers=E.ds
 tot:∀ id,id<G.length→∃ l,μ id=some l
 ext:Ext E.m E.μ E.G m μ G
 fr:Fr E.m E.μ E.w m μ w
def Ends (Q:Exit→Act→World→Prop)(e:Ex)(env:Env)(G:Heap):Prop:=∀ a w m μ,Pt N E G env a w m μ →
 match e with
 |.normal=>Q .normal a w
 |.exit id=>Q (.exit id) a w
 |.ret=>Q .ret a w
 |.pan v=>∀ val,R m μ (inf G) val v→Q (.panic [{ v:=val,recovered:=false }]) a w
variable {E}{N}
theorem Act.put_dfr (a:Act)(d:Option Nat)(v:Value):(a.put d v).defers=a.defers:=by cases d<;>rfl
theorem Pt.step {G:Heap}{env:Env}{a:Act}{w:World}{m:Mem}{μ:Mu}(h:Pt N E G env a w m μ){m':Mem}{μ':Mu}{G':Heap}{w':World}(hI:Inv m' μ' G' w')(hS:Stp m μ G w m' μ' G' w'){env':Env}{a':Act}(he:EnvR m' μ' (inf G') N env' a')(hd:a'.defers=E.ds):Pt N E G' env' a' w' m' μ' :=
 ⟨hI,he,hd,hS.total h.tot,h.ext.trans hS.ext,h.fr.trans hS.fr⟩
inductive Al (P:Program)(N:Nat)(ops:Array Oper):List Nat→List CI→Prop
 |nil:Al P N ops [] []
 |cons {k:Nat} {o:Oper} {c:CI} {is:List Nat} {cs:List CI}:ops[k]?=some o→cOper P N ops o=some c→Al P N ops is cs→Al P N ops (k::is) (c::cs)
include hC hE
theorem ops_sound {Q:Exit→Act→World→Prop}{is:List Nat}{cs:List CI}(hal:Al P N ops is cs):∀ {env:Env} {G:Heap} {a:Act} {w:World} {m:Mem} {μ:Mu} {e:Ex} {env':Env} {G':Heap},
  evOps pg call cs env G=some (e,env',G')→Pt N E G env a w m μ→Ends N E Q e env' G'→wpOps P ops Q is a w:=by
 induction hal with
 |nil =>
  intro env G a w m μ e env' G' hev hp hq
  simp[evOps]at hev
  obtain ⟨rfl,rfl,rfl⟩:=hev
  exact hq a w m μ hp
 |@cons k o c is cs ho hc hal ih =>
  intro env G a w m μ e env' G' hev hp hq
  rw[wpOps_cons]
  unfold wpOp
  rw[ho]
  dsimp only
  simp only[evOps]at hev
  obtain ⟨h1,h2,h3,h4⟩:=cOper_inv hc
  split at hev
  ·cases hev
  ·rename_i hg
   rw[wanted_of hc hp.env hg]
   simp only[Bool.false_eq_true,if_false]
   exact ih hev ⟨hp.inv,by rw[h2];exact hp.env.put h3 .undef,by rw[Act.put_dfr];exact hp.dfr,hp.tot,hp.ext,hp.fr⟩ hq
  ·rename_i hg
   rw[wanted_of hc hp.env hg]
   simp only[if_true]
   refine .inl ?_
   split at hev
   ·cases hev
   ·rename_i v G1 hv
    refine op_sound hC hE hp.inv hp.env h1 hv _ Q fun m' μ' w' val hI' hS hr=>?_
    exact ih hev (hp.step hI' hS (by rw[h2];exact (hp.env.mono hS.ext).put h3 hr) (by rw[Act.put_dfr];exact hp.dfr)) hq
   ·rename_i v G1 hv
    cases hev
    refine op_sound hC hE hp.inv hp.env h1 hv _ Q fun m' μ' w' val hI' hS hr=>?_
    exact hq a w' m' μ' (hp.step hI' hS (hp.env.mono hS.ext) hp.dfr) val hr
omit hC hE
theorem cOpers_at:∀ {l:List Oper} {cs:List CI},cOpers P N ops l=some cs→cs.length=l.length∧∀ (k:Nat) (o:Oper),l[k]?=some o→∃ c,cs[k]?=some c∧cOper P N ops o=some c
 |[],cs,h=>by simp[cOpers]at h;subst h;exact ⟨rfl,fun k o h=>by simp at h⟩
 |o::r,cs,h=>by
  simp only[cOpers]at h
  split at h
  ·cases h
  ·rename_i c hc
   split at h
   ·cases h
   ·rename_i cs' hr
    cases h
    obtain ⟨h1,h2⟩:=cOpers_at hr
    refine ⟨by simp[h1],fun k o' hk=>?_⟩
    cases k with
    |zero=>simp at hk;subst hk;exact ⟨c,rfl,hc⟩
    |succ k=>simpa using h2 k o' (by simpa using hk)
theorem al_from {l:List CI}(hlen:l.length=ops.size)(h:∀ (k:Nat) (o:Oper),ops[k]?=some o→∃ c,l[k]?=some c∧cOper P N ops o=some c):∀ (n k:Nat),k+n=ops.size→Al P N ops (List.range' k n) (l.drop k)
 |0,k,hk=>by
  rw[List.drop_eq_nil_of_le (by omega)]
  exact .nil
 |n+1,k,hk=>by
  have hlt:k<ops.size:=by omega
  obtain ⟨c,h1,h2⟩:=h k ops[k] (Array.getElem?_eq_getElem hlt)
  have hd:l.drop k=c::l.drop (k+1):=by
   rw[List.drop_eq_getElem_cons (by omega)]
   congr 1
   rw[gG (by omega)]at h1
   exact Option.some.inj h1
  rw[hd,List.range'_succ]
  exact .cons (Array.getElem?_eq_getElem hlt) h2 (al_from hlen h n (k+1) (by omega))
include hC hE
theorem region_sound {Q:Exit→Act→World→Prop}{id:Nat}{l:List CI}(hl:cOpers P N ops ops.toList=some l){env:Env}{G:Heap}{a:Act}{w:World}{m:Mem}{μ:Mu}{e:Ex}{env':Env}{G':Heap}
  (hev:evOps pg call l env G=some (e,env',G')) (hp:Pt N E G env a w m μ) (hq:Ends N E Q e env' G'):(Code.region id ops false).wp P Q a w:=by
 obtain ⟨h1,h2⟩:=cOpers_at hl
 have hal:=al_from (l:=l) (by simpa using h1) (fun k o ho=>h2 k o (by simpa using ho)) ops.size 0 (by omega)
 rw[List.drop_zero,← List.range_eq_range']at hal
 exact wp_region (ops_sound hC hE hal hev hp hq)
end
def pickL (l:List CI)(is:List Nat):List CI:=is.filterMap (l[·]?)
theorem pickL_append (l:List CI)(a b:List Nat):pickL l (a++b)=pickL l a++pickL l b:=by simp[pickL]
theorem pickL_cons {l:List CI}{i:Nat}{c:CI}(h:l[i]?=some c)(r:List Nat):pickL l (i::r)=c::pickL l r:=by simp[pickL,h]
theorem mem_pickL {l:List CI}{is:List Nat}{c:CI}(h:c∈pickL l is):∃ k,k∈is∧l[k]?=some c:=by
 simp[pickL]at h
 exact h
theorem pickL_range:∀ (l:List CI),pickL l (List.range l.length)=l
 |[]=>rfl
 |c::r=>by
  have:=pickL_range r
  unfold pickL at this ⊢
  rw[List.length_cons,List.range_succ_eq_map,List.filterMap_cons]
  simp only[List.getElem?_cons_zero,List.filterMap_map]
  rw[show ((fun x=>(c::r)[x]?) ∘ Nat.succ)=fun x=>r[x]? by funext x;simp]
  rw[this]
def at' (l:List CI)(p:CI→Bool)(k:Nat):Bool:=match l[k]? with
 |some c=>p c
 |none=>false
theorem pickL_filter (l:List CI)(p:CI→Bool):l.filter p=pickL l ((List.range l.length).filter (at' l p)):=by
 conv=>lhs;rw[← pickL_range l]
 unfold pickL
 rw[List.filter_filterMap,List.filterMap_filter]
 congr 1
 funext k
 unfold at'
 cases l[k]? with
 |none=>rfl
 |some c=>cases hp:p c<;>simp[hp]
theorem range_split {n i:Nat}(hi:i<n)(f:Nat→Bool)(hf:f i=true):(List.range n).filter f=(List.range i).filter f++i::(List.range' (i+1) (n-i-1)).filter f:=by
 have:List.range n=List.range i++i::List.range' (i+1) (n-i-1):=by
  rw[List.range_eq_range',List.range_eq_range']
  have h1:n=i+(1+(n-i-1)):=by omega
  conv=>lhs;rw[h1]
  rw[← List.range'_append_1,← List.range'_append_1]
  simp[List.range'_succ]
 rw[this,List.filter_append,List.filter_cons,if_pos hf]
theorem range_split_off {n i:Nat}(hi:i<n)(f g:Nat→Bool)(hg:g i=false)(hfg:∀ k,k≠i→g k=f k):(List.range n).filter g=(List.range i).filter f++(List.range' (i+1) (n-i-1)).filter f:=by
 have:List.range n=List.range i++i::List.range' (i+1) (n-i-1):=by
  rw[List.range_eq_range',List.range_eq_range']
  have h1:n=i+(1+(n-i-1)):=by omega
  conv=>lhs;rw[h1]
  rw[← List.range'_append_1,← List.range'_append_1]
  simp[List.range'_succ]
 rw[this,List.filter_append,List.filter_cons,if_neg (by simp[hg])]
 congr 1
 ·exact List.filter_congr fun k hk=>hfg k (by simp at hk;omega)
 ·exact List.filter_congr fun k hk=>hfg k (by simp[List.mem_range'_1]at hk;omega)
structure Facts (l:List CI)(af T:List (List Nat))(chk:List Chk):Prop where
 e1:∀ k,k<l.length→∀ e,e∈af.getD k []→e<k
 e2:∀ k,k<l.length→∀ x,x∈T.getD k []→x∈af.getD k []∨∃ m,m∈af.getD k []∧x∈T.getD m []
 e3:∀ (k j:Nat) (ck cj:CI) (d:Nat),j≠k→l[k]?=some ck→l[j]?=some cj→cj.d=some d→ck.d≠some d
 e4:∀ (k j:Nat) (ck cj:CI) (d:Nat),l[k]?=some ck→l[j]?=some cj→cj.d=some d→d∈ciReads ck→(j<k∧j∈af.getD k [])∨(k<j∧k∈T.getD j []∧isSilent (kindOf ck.o)=true∧isNew cj=false)
 e5:∀ (j i:Nat) (cj ci:CI),j<i→l[j]?=some cj→l[i]?=some ci→isNew cj=false→isNew ci=false→j∈T.getD i []∨∃ cs,needs (kindOf cj.o) (kindOf ci.o)=some cs∧∀ c,c∈cs→c∈chk
theorem addChk_mem:∀ (cs acc:List Chk) (c:Chk),(c∈acc∨c∈cs)→c∈addChk cs acc
 |[],acc,c,h=>by simpa [addChk] using h
 |x::r,acc,c,h=>by
  simp only[addChk]
  apply addChk_mem r
  rcases h with h|h
  ·left
   split
   ·exact h
   ·simp[h]
  ·rcases List.mem_cons.1 h with rfl|h
   ·left
    split
    ·rename_i hc;simpa using hc
    ·simp
   ·exact .inr h
theorem pairsChk_spec {l:List CI}{T:List (List Nat)}:∀ (ps:List (Nat×Nat)) (acc chk:List Chk),pairsChk l T ps acc=some chk →
  (∀ c,c∈acc→c∈chk)∧∀ (j i:Nat),(j,i)∈ps→∀ (cj ci:CI),l[j]?=some cj→l[i]?=some ci→isNew cj=false→isNew ci=false→j∈T.getD i []∨∃ cs,needs (kindOf cj.o) (kindOf ci.o)=some cs∧∀ c,c∈cs→c∈chk
 |[],acc,chk,h=>by simp[pairsChk]at h;subst h;exact ⟨fun _ h=>h,fun j i h=>by simp at h⟩
 |(j',i')::r,acc,chk,h=>by
  simp only[pairsChk]at h
  split at h
  ·rename_i cj' ci' hj' hi'
   split at h
   ·rename_i hc
    obtain ⟨h1,h2⟩:=pairsChk_spec r acc chk h
    refine ⟨h1,fun j i hm cj ci hj hi nj ni=>?_⟩
    rcases List.mem_cons.1 hm with e|hm
    ·cases e
     rw[hj']at hj
     rw[hi']at hi
     cases hj
     cases hi
     simp[nj,ni]at hc
     left
     simpa using hc
    ·exact h2 j i hm cj ci hj hi nj ni
   ·split at h
    ·rename_i cs hn
     obtain ⟨h1,h2⟩:=pairsChk_spec r _ chk h
     refine ⟨fun c hc=>h1 c (addChk_mem _ _ _ (.inl hc)),fun j i hm cj ci hj hi nj ni=>?_⟩
     rcases List.mem_cons.1 hm with e|hm
     ·cases e
      rw[hj']at hj
      rw[hi']at hi
      cases hj
      cases hi
      exact .inr ⟨cs,hn,fun c hc=>h1 c (addChk_mem _ _ _ (.inr hc))⟩
     ·exact h2 j i hm cj ci hj hi nj ni
    ·cases h
  ·cases h
theorem facts_of {l:List CI}{af:List (List Nat)}{news rest:List CI}{chk:List Chk}(h:cDraw l af=some (news,rest,chk)):news=l.filter isNew∧rest=l.filter (fun c=>!isNew c)∧Facts l af (ancs [] af) chk:=by
 unfold cDraw at h
 dsimp only at h
 split at h
 ·rename_i hok
  split at h
  ·rename_i chk' hp
   cases h
   refine ⟨rfl,rfl,?_⟩
   unfold drawOK at hok
   simp only[Bool.and_eq_true,List.all_eq_true,List.mem_range,beq_iff_eq]at hok
   obtain ⟨⟨hl1,hl2⟩,hok⟩:=hok
   obtain ⟨_,hpairs⟩:=pairsChk_spec _ _ _ hp
   have key:∀ k,k<l.length→∀ ck,l[k]?=some ck→(∀ e,e∈af.getD k []→e<k)∧(∀ x,x∈(ancs [] af).getD k []→x∈af.getD k []∨∃ m,m∈af.getD k []∧x∈(ancs [] af).getD m []) ∧
     ∀ j,j<l.length→∀ cj,l[j]?=some cj→∀ d,cj.d=some d→(j≠k→ck.d≠some d)∧(d∈ciReads ck→(j<k∧j∈af.getD k [])∨(k<j∧k∈(ancs [] af).getD j []∧isSilent (kindOf ck.o)=true∧isNew cj=false)):=by
    intro k hk ck hck
    have:=hok k hk
    rw[hck]at this
    dsimp only at this
    simp only[Bool.and_eq_true,List.all_eq_true]at this
    obtain ⟨⟨a1,a2⟩,a3⟩:=this
    refine ⟨fun e he=>Nat.blt_eq.mp (a1 e he),fun x hx=>?_,fun j hj cj hcj d hd=>?_⟩
    ·have:=a2 x hx
     simp only[Bool.or_eq_true,List.any_eq_true,List.contains_iff_mem]at this
     rcases this with h|⟨m,h1,h2⟩
     ·exact .inl h
     ·exact .inr ⟨m,h1,h2⟩
    ·have:=a3 j (by simpa using hj)
     rw[hcj]at this
     dsimp only at this
     rw[hd]at this
     dsimp only at this
     simp only[Bool.and_eq_true]at this
     obtain ⟨b1,b2⟩:=this
     refine ⟨fun hne e=>?_,fun hr=>?_⟩
     ·rw[if_neg hne,e]at b1
      simp at b1
     ·rw[if_pos (by simpa using hr)]at b2
      simp only[Bool.or_eq_true,Bool.and_eq_true,List.contains_iff_mem,Bool.not_eq_true']at b2
      rcases b2 with ⟨h1,h2⟩|⟨⟨⟨h1,h2⟩,h3⟩,h4⟩
      ·exact .inl ⟨Nat.blt_eq.mp h1,h2⟩
      ·exact .inr ⟨Nat.blt_eq.mp h1,h2,h3,h4⟩
   have hlt:∀ {k:Nat} {c:CI},l[k]?=some c→k<l.length:=fun h=>(gE h).1
   refine ⟨fun k hk=>(key k hk _ (gG hk)).1,fun k hk=>(key k hk _ (gG hk)).2.1,?_,?_,?_⟩
   ·intro k j ck cj d hne hk hj hd
    exact ((key k (hlt hk) ck hk).2.2 j (hlt hj) cj hj d hd).1 hne
   ·intro k j ck cj d hk hj hd hr
    exact ((key k (hlt hk) ck hk).2.2 j (hlt hj) cj hj d hd).2 hr
   ·intro j i cj ci hji hj hi nj ni
    refine hpairs j i ?_ cj ci hj hi nj ni
    simp only[allPairs,List.mem_flatMap,List.mem_range,List.mem_map]
    exact ⟨i,hlt hi,j,hji,rfl⟩
  ·cases h
 ·cases h
theorem isNew_inv {c:CI}(h:isNew c=true):∃ d cells,c=⟨some d,.new cells,none⟩:=by
 rcases c with ⟨d,o,g⟩
 unfold isNew at h
 split at h
 ·rename_i h1 h2 h3
  dsimp only at h1 h2 h3
  subst h1
  subst h2
  subst h3
  exact ⟨_,_,rfl⟩
 ·cases h
theorem news_run {pg:Prg}{call:CallF}{l:List CI}:∀ (is:List Nat) {env:Env} {G:Heap} {env1:Env} {G1:Heap},(∀ q,q∈is→∃ d cells,l[q]?=some ⟨some d,.new cells,none⟩)→is.Nodup →
  (∀ (q q':Nat) (d:Nat) (c c':List AV),q∈is→q'∈is→q≠q'→l[q]?=some ⟨some d,.new c,none⟩→l[q']?≠some ⟨some d,.new c',none⟩) →
  evN pg call (pickL l is) env G=some (env1,G1) →
  G.length≤G1.length∧(∀ id:Nat,id<G.length→G1[id]?=G[id]?)∧∃ pid:Nat→Nat,
   (∀ q d cells,q∈is→l[q]?=some ⟨some d,.new cells,none⟩→G.length≤pid q∧lk env1 d=some (.ptr (pid q) 0)∧G1[pid q]?=some (.box cells)∧cells.all AV.flat=true) ∧
   (∀ q q',q∈is→q'∈is→pid q=pid q'→q=q') ∧
   (∀ id,G.length≤id→id<G1.length→∃ q,q∈is∧pid q=id)
 |[],env,G,env1,G1,hn,hd,hdst,h=>by
  simp[pickL,evN]at h
  obtain ⟨rfl,rfl⟩:=h
  exact ⟨Nat.le_refl _,fun _ _=>rfl,fun _=>0,fun q d c h=>by simp at h,fun q q' h=>by simp at h,fun id h1 h2=>by omega⟩
 |q::is,env,G,env1,G1,hn,hd,hdst,h=>by
  obtain ⟨d,cells,hq⟩:=hn q (by simp)
  rw[pickL_cons hq]at h
  simp only[evN,evCI,gOK,evOp]at h
  split at h
  ·cases h
  ·rename_i e1 g1 hstep
   split at hstep
   ·rename_i hv
    split at hv
    ·rename_i hflat
     cases hv
     cases hstep
     have hd':q∉is∧is.Nodup:=by simpa using hd
     have hfull:=h
     obtain ⟨a1,a2,pid,a3,a4,a5⟩:=news_run is (fun q' hq'=>hn q' (by simp[hq'])) hd'.2 (fun q1 q2 d c c' h1 h2=>hdst q1 q2 d c c' (by simp[h1]) (by simp[h2])) h
     simp at a1
     have hkeep:lk env1 d=some (.ptr G.length 0):=by
      rw[evN_lk hfull d,lk_put,if_pos rfl]
      intro c hc e
      obtain ⟨k,hk,hck⟩:=mem_pickL hc
      obtain ⟨d',cells',hk'⟩:=hn k (by simp[hk])
      rw[hk']at hck
      cases hck
      simp at e
      subst e
      have hne:q≠k:=fun e=>hd'.1 (e ▸ hk)
      exact hdst q k d' cells cells' (by simp) (by simp[hk]) hne hq hk'
     refine ⟨by omega,fun id hid=>?_,fun x=>if x=q then G.length else pid x,?_,?_,?_⟩
     ·rw[a2 id (by simp;omega),List.getElem?_append_left hid]
     ·intro q' d' cells' hq' hl'
      by_cases e:q'=q
      ·subst e
       rw[hq]at hl'
       cases hl'
       simp only[if_true]
       refine ⟨Nat.le_refl _,hkeep,?_,hflat⟩
       rw[a2 G.length (by simp)]
       simp
      ·simp only[e,if_false]
       have hm:q'∈is:=by simpa [e] using hq'
       obtain ⟨b1,b2,b3,b4⟩:=a3 q' d' cells' hm hl'
       simp at b1
       exact ⟨by omega,b2,b3,b4⟩
     ·intro x y hx hy hxy
      have hge:∀ z,z∈is→G.length+1≤pid z:=fun z hz=>by
       obtain ⟨d',c',hz'⟩:=hn z (by simp[hz])
       have:=(a3 z d' c' hz hz').1
       simpa using this
      by_cases ex:x=q
      ·by_cases ey:y=q
       ·rw[ex,ey]
       ·simp only[ex,ey,if_true,if_false]at hxy
        have:=hge y (by simpa [ey] using hy)
        omega
      ·by_cases ey:y=q
       ·simp only[ex,ey,if_true,if_false]at hxy
        have:=hge x (by simpa [ex] using hx)
        omega
       ·simp only[ex,ey,if_false]at hxy
        exact a4 x y (by simpa [ex] using hx) (by simpa [ey] using hy) hxy
     ·intro id h1 h2
      by_cases e:id=G.length
      ·exact ⟨q,by simp,by simp[e]⟩
      ·obtain ⟨q',b1,b2⟩:=a5 id (by simp;omega) h2
       have hne:q'≠q:=fun e=>hd'.1 (e ▸ b1)
       exact ⟨q',by simp[b1],by simp[hne,b2]⟩
    ·cases hv
   ·cases hstep
theorem cOp_new {P:Program}{op:Op}{cs:List AV}(h:cOp P op=some (.new cs)):∃ T,op=.alloc T∧cZero P T=some cs:=by
 unfold cOp at h
 split at h
 case h_4 e =>
  obtain ⟨a,ha,he⟩:=map_inv h
  cases he
  exact ⟨e,rfl,ha⟩
 all_goals
  exfalso
  revert h
  repeat' split
  all_goals intro h
  all_goals first|cases h|(rw[Option.map_eq_some_iff]at h;obtain ⟨a,ha,he⟩:=h;cases he)
section
variable {m:Mem}{μ:Mu}{G:Heap}{w:World}
theorem newAt (hI:Inv m μ G w){id:Nat}{cells:List AV}(hG:G[id]?=some (.box cells))(hn:μ id=none)(T:TypeId){vs:List Value}(hr:∀ m μ i,RL m μ i vs cells)(hf:cells.all AV.flat=true) :
  Inv m (fun k=>if k=id then some ⟨w.heap.size,0⟩ else μ k) G { w with heap:=w.heap.push (.cells vs.toArray T (0,0)) } ∧
  Ext m μ G m (fun k=>if k=id then some ⟨w.heap.size,0⟩ else μ k) G ∧
  Fr m μ w m (fun k=>if k=id then some ⟨w.heap.size,0⟩ else μ k) { w with heap:=w.heap.push (.cells vs.toArray T (0,0)) } ∧
  R m (fun k=>if k=id then some ⟨w.heap.size,0⟩ else μ k) (inf G) (.pointer (some ⟨w.heap.size,0,none⟩)) (.ptr id 0):=by
 have hid:id<G.length:=(gE hG).1
 have hext:Ext m μ G m (fun k=>if k=id then some (⟨w.heap.size,0⟩:Loc) else μ k) G:=by
  have hμ:∀ k loc,μ k=some loc→(fun k=>if k=id then some (⟨w.heap.size,0⟩:Loc) else μ k) k=some loc:=fun k loc h=>by
   have:k≠id:=by intro e;subst e;rw[hn]at h;cases h
   simp[this,h]
  exact ⟨fun _ _ _ h=>h,fun k loc h h'=>⟨hμ k loc h,h'⟩,fun k loc g sz h h'=>⟨loc,g,hμ k loc h,h',Nat.le_refl _,fun _=>rfl⟩⟩
 have hinv:∀ k loc,(fun k=>if k=id then some (⟨w.heap.size,0⟩:Loc) else μ k) k=some loc→(k=id∧loc=⟨w.heap.size,0⟩)∨μ k=some loc:=fun k loc h=>by
  dsimp only at h
  split at h
  ·cases h;exact .inl ⟨by assumption,rfl⟩
  ·exact .inr h
 have hblk:∀ b,b<w.heap.size→(w.heap.push (.cells vs.toArray T (0,0)))[b]?=w.heap[b]?:=fun b hb=>by simp[Array.getElem?_push,Nat.ne_of_lt hb]
 refine ⟨⟨?_,?_,?_,?_⟩,hext,⟨rfl,rfl,rfl,by simp,fun b hb _=>hblk b hb,fun _ _ _ h=>.inl h,?_⟩,.ptr _ _ ⟨w.heap.size,0⟩ (by simp) (by simp[inf,hG,infO])⟩
 ·intro b o v h
  have h1:=hI.known b o v h
  have h2:=World.block_lt_of_cell? w _ h1
  simp at h2
  unfold World.cell? at h1 ⊢
  dsimp only at h1 ⊢
  rw[hblk b h2]
  exact h1
 ·intro i j l l' h1 h2 e
  rcases hinv i l h1 with ⟨rfl,rfl⟩|h1'<;>rcases hinv j l' h2 with ⟨rfl,rfl⟩|h2'
  ·rfl
  ·have:=hI.lt h2';simp at e;omega
  ·have:=hI.lt h1';simp at e;omega
  ·exact hI.inj i j l l' h1' h2' e
 ·intro k o ho loc hl
  rcases hinv k loc hl with ⟨rfl,rfl⟩|hl'
  ·rw[hG]at ho
   cases ho
   have hrl:=hr m (fun x=>if x=k then some (⟨w.heap.size,0⟩:Loc) else μ x) (inf G)
   exact ⟨vs.toArray,T,by simp,by simpa using hrl.1,fun j v c g1 g2=>hrl.2 j v c (by simpa using g1) g2,hf,fun o=>hI.fresh (Nat.le_refl _) o⟩
  ·exact (hI.obj k o ho loc hl').move hext (hblk _ (hI.lt hl')) (fun _ h=>h)
 ·intro k loc h
  rcases hinv k loc h with ⟨rfl,rfl⟩|h'
  ·exact hid
  ·exact hI.dom k loc h'
 ·intro k loc h
  rcases hinv k loc h with ⟨rfl,rfl⟩|h'
  ·exact .inl (Nat.le_refl _)
  ·exact .inr ⟨k,loc,h',rfl⟩
theorem alloc_run {P:Program}{o:Oper}{a:Act}{T:TypeId}(ho:o.op=.alloc T){cs:List AV}(hz:cZero P T=some cs)(hf:cs.all AV.flat=true)(w:World) :
  ∃ vs,(∀ m μ i,RL m μ i vs cs)∧(execOp a.eval o).run P w=.ok (.value (.pointer (some ⟨w.heap.size,0,none⟩))) { w with heap:=w.heap.push (.cells vs.toArray T (0,0)) }:=by
 unfold cZero at hz
 split at hz
 ·rename_i v hv
  split at hz
  ·rename_i x hx
   cases hz
   refine ⟨v.cells.toList,fun m μ i=>RL.cellsOf (ofVal_R m μ i _ _ hx) hf,?_⟩
   cases hq:P.info? T with
   |none=>simp[hq]at hv
   |some i =>
    simp[hq]at hv
    simp[execOp,ho,Instr.alloc,zeroValue,typeInfo,hq,hv,newVar,newRow]
  ·cases hz
 ·cases hz
end
end Go.Proofs.Z
end
