/- A part of the proof. -/
import Derived.Test.YtffohgbmjjbhiaaGreatA16
import Derived.Test.YtffohgbmjjbhiaaGreatA05
import Derived.Test.YtffohgbmjjbhiaaGreatA08
import Derived.Lib.SliceRun
import Derived.Recover
import Derived.KernelRfl
import Derived.ProofKit
import Derived.Test.YtffohgbmjjbhiaaGreatRows
set_option linter.all false
section
namespace Go.Proofs.Z
open Go Go.Proofs
attribute [local simp] k_nil k_ops k_opsg kG_true kG_false kO_val kO_pan k_seq kS_n kS_r kS_e kS_p k_o kR_n kR_p kD2_n kD1_n k_d k_c kC_t kC_f k_b kB_n kB_r kB_p kB_e k_skip k_ret k_exit k_l kL_s kLp_n kLp_r kLp_e kLp_p k_f kF_n kF_r kF_p kV_f kV_t kN_s evOp evBin gOK opd opds lk put restr iEv evRes whole norm normL one Out.below below belowL bOb evStore evLoad evLen AV.cells AV.flat PV.flat splice fillAt pcs isStr rowsOf Res.of evCmp lvE leafEq asInt noIdAt noId noIdL tids chkOK
variable {pg:Prg}{G:Heap}
theorem l12 (h:Std pg){body:CCode}(hb:body=c12l0){T:List Nat}(hT:T.length=9)(hs:T.sum<2 ^ 60) :
  ∀ m i,i+m=9→L pg 0 [1,3,4] body [(1,.ptr 0 0),(3,.p (.i .i64 ((T.take i).sum:Nat))),(4,.p (.i .i64 (i:Nat)))] [.box (tallyAV T)]=some (.exit 0,[(1,.ptr 0 0),(3,.p (.i .i64 (T.sum:Nat))),(4,.p (.i .i64 9)),(6,.p (.b false))],[.box (tallyAV T)])
 |0,i,hi=>by
  have:i=9:=by omega
  subst this
  have e:T.take 9=T:=List.take_of_length_le (by omega)
  rw[k_L hb,e]
  simp[c12l0,leave]
 |m+1,i,hi=>by
  have hlt:i<T.length:=by omega
  have h9:i<9:=by omega
  have ih:=l12 h hb hT hs m (i+1) (by omega)
  have hsum:(T.take (i+1)).sum=(T.take i).sum+T[i]:=by
   rw[List.take_succ,gG hlt,List.sum_append_nat];simp
  have hd:T.take i++(T[i]::T.drop (i+1))=T:=by rw[← List.drop_eq_getElem_cons hlt,List.take_append_drop]
  have hle:(T.take i).sum+T[i]≤T.sum:=by
   conv=>rhs;rw[← hd,List.sum_append_nat,List.sum_cons]
   omega
  have hg:(tallyAV T)[i]?=some (.p (.i .i64 (T[i]:Nat))):=by
   unfold tallyAV
   rw[List.getElem?_map,gG hlt];rfl
  have hflat:flatAL (tallyAV T)=true:=by
   unfold tallyAV
   clear hg hle hd hsum ih hs hT hlt
   induction T with
   |nil=>rfl
   |cons a r ih=>simpa [flatAL,flatA] using ih
  have he:∀ e,expL true e (tallyAV T)=some (tallyAV T,e):=fun e=>flatAL_exp true e hflat
  rw[k_L hb]
  rw[show ((i+1:Nat):Int)=(i:Int)+1 from by omega,hsum]at ih
  simp only[Int.natCast_add]at ih
  simp[c12l0,leave,h9,eq_true (show (i:Int)<9 from by omega),hg,w64 ((i:Int)+1) (by omega) (by omega),w64 (((T.take i).sum:Nat)+(T[i]:Int)) (by omega) (by omega),gc,gcEnv,exp,expL,eOs,Exp.id,idxOf,List.range,List.range.loop,he,ih]
theorem t12 (h:Std pg){T:List Nat}(hT:T.length=9)(hs:T.sum<2 ^ 60):eCA pg (E pg) 12 [.ag (tallyAV T)] G=some (.ret (.p (.i .i64 (T.sum:Nat))),G):=by
 have hflat:flatAL (tallyAV T)=true:=by
  unfold tallyAV
  clear hs hT
  induction T with
  |nil=>rfl
  |cons a r ih=>simpa [flatAL,flatA] using ih
 have he:∀ e,expL true e (tallyAV T)=some (tallyAV T,e):=fun e=>flatAL_exp true e hflat
 refine at_pure ?_ (by simpa [flatAL,flatA] using hflat) rfl
 rw[h.run (x:=c12) rfl (by decide) (by decide) (by decide) (by decide)]
 have hL:=l12 h rfl hT hs 9 0 (by omega)
 simp only[List.take_zero,List.sum_nil,show ((0:Nat):Int)=0 from rfl]at hL
 obtain ⟨t0,t1,t2,t3,t4,t5,t6,t7,t8,rfl⟩:∃ t0 t1 t2 t3 t4 t5 t6 t7 t8,T=[t0,t1,t2,t3,t4,t5,t6,t7,t8]:=by
  match T,hT with
  |[t0,t1,t2,t3,t4,t5,t6,t7,t8],_=>exact ⟨t0,t1,t2,t3,t4,t5,t6,t7,t8,rfl⟩
 generalize hS:[t0,t1,t2,t3,t4,t5,t6,t7,t8].sum=S at *
 simp only[tallyAV,List.map_cons,List.map_nil]at hL ⊢
 simp[c12,leave,gc,gcEnv,exp,expL,eOs,Exp.id,idxOf,List.range,List.range.loop]
 rw[hL]
 simp[leave]
theorem t33 (h:Std pg)(x:Node)(hx:x.to.length<2 ^ 60∧x.alts.length<2 ^ 60):eCA pg (E pg) 33 [.ag (pcs x.enc),.ag (pcs x.enc)] G=some (.ret (.p (.b true)),G):=by
 obtain ⟨k,l,n,name,alts,to⟩:=x
 obtain ⟨hx1,hx2⟩:=hx
 dsimp only at hx1 hx2
 refine at_pure ?_ (by simp only[Node.enc];rfl) rfl
 rw[h.run (x:=c33) rfl (by decide) (by decide) (by decide) (by decide)]
 have h1:=L_list (pg:=pg) (base:=0) (live:=[2,3,5]) (body:=c33l0) rfl (fun i=>[(2,.ptr 0 0),(3,.ptr 1 0),(5,.p (.i .i64 (i:Nat)))]) [.box [.p (iv k),.p (iv l),.p (iv n),.p (.s name),.p (.sl (alts.map encAr)),.p (.sl (to.map Port.enc))],.box [.p (iv k),.p (iv l),.p (iv n),.p (.s name),.p (.sl (alts.map encAr)),.p (.sl (to.map Port.enc))]]
  [] alts 0 (fun _ _=>true) [] [(2,.ptr 0 0),(3,.ptr 1 0),(5,.p (.i .i64 alts.length)),(55,.p (.b false))]
  (fun i a hi hy hy' hp=>by
   simp[c33l0,leave,hi,hy,hy',encAr,okRow,w64 ((i:Int)+1) (by omega) (by omega),gc,gcEnv,exp,expL,eOs,Exp.id,idxOf,List.range,List.range.loop])
  (fun i a hi hy hy' hp=>by cases hp)
  (by simp[c33l0,leave])
 have h2:=L_list (pg:=pg) (base:=0) (live:=[2,3,6]) (body:=c33l1) rfl (fun i=>[(2,.ptr 0 0),(3,.ptr 1 0),(6,.p (.i .i64 (i:Nat)))]) [.box [.p (iv k),.p (iv l),.p (iv n),.p (.s name),.p (.sl (alts.map encAr)),.p (.sl (to.map Port.enc))],.box [.p (iv k),.p (iv l),.p (iv n),.p (.s name),.p (.sl (alts.map encAr)),.p (.sl (to.map Port.enc))]]
  [] to 2 (fun _ _=>true) [] [(2,.ptr 0 0),(3,.ptr 1 0),(6,.p (.i .i64 to.length)),(73,.p (.b false))]
  (fun i a hi hy hy' hp=>by
   simp[c33l1,leave,hi,hy,hy',Port.enc,okRow,w64 ((i:Int)+1) (by omega) (by omega),gc,gcEnv,exp,expL,eOs,Exp.id,idxOf,List.range,List.range.loop])
  (fun i a hi hy hy' hp=>by cases hp)
  (by simp[c33l1,leave])
 have ht:∀ {α:Type} (l:List α) (i:Nat),allI (fun _ _=>true) i l=true:=fun l i=>allI_mk fun _ _ _=>rfl
 simp only[show ((0:Nat):Int)=0 from rfl,ht,cond_true]at h1 h2
 simp[c33,leave,Node.enc,pcs,gc,gcEnv,exp,expL,eOs,Exp.id,idxOf,List.range,List.range.loop]
 rw[h1]
 simp[leave,gc,gcEnv,exp,expL,eOs,Exp.id,idxOf,List.range,List.range.loop]
 rw[h2]
 simp[leave]
theorem t14 (h:Std pg)(n:Net)(hn:n.nodes.length<2 ^ 60∧∀ x∈n.nodes,x.to.length<2 ^ 60∧x.alts.length<2 ^ 60):eCA pg (E pg) 14 [.ag [.p (.sl (n.nodes.map Node.enc)),.p (.i .i64 n.cap)],.ag [.p (.sl (n.nodes.map Node.enc)),.p (.i .i64 n.cap)]] G=some (.ret (.p (.b true)),G):=by
 refine at_pure ?_ rfl rfl
 rw[h.run (x:=c14) rfl (by decide) (by decide) (by decide) (by decide)]
 have h1:=L_list (pg:=pg) (base:=0) (live:=[2,3,5]) (body:=c14l0) rfl (fun i=>[(2,.ptr 0 0),(3,.ptr 1 0),(5,.p (.i .i64 (i:Nat)))]) [.box [.p (.sl (n.nodes.map Node.enc)),.p (.i .i64 n.cap)],.box [.p (.sl (n.nodes.map Node.enc)),.p (.i .i64 n.cap)]]
  [] n.nodes 0 (fun _ _=>true) [] [(2,.ptr 0 0),(3,.ptr 1 0),(5,.p (.i .i64 n.nodes.length)),(24,.p (.b false))]
  (fun i a hi hy hy' hp=>by
   have e1:=fun G=>t33 (G:=G) h a (hn.2 a (List.mem_of_getElem? hy))
   have e2:∀ t:Node,t.enc.length=6:=fun t=>by cases t;rfl
   have e3:∀ t:Node,t.enc.take 6=t.enc:=fun t=>by cases t;rfl
   simp only[pcs]at e1
   simp[c14l0,leave,hi,hy,hy',okNode,e1,e2,e3,w64 ((i:Int)+1) (by omega) (by omega),gc,gcEnv,exp,expL,eOs,Exp.id,idxOf,List.range,List.range.loop])
  (fun i a hi hy hy' hp=>by cases hp)
  (by simp[c14l0,leave])
 have ht:∀ {α:Type} (l:List α) (i:Nat),allI (fun _ _=>true) i l=true:=fun l i=>allI_mk fun _ _ _=>rfl
 simp only[show ((0:Nat):Int)=0 from rfl,ht,cond_true]at h1
 simp[c14,leave,gc,gcEnv,exp,expL,eOs,Exp.id,idxOf,List.range,List.range.loop]
 rw[h1]
 simp[leave]
end Go.Proofs.Z
end
section
namespace Go.Proofs.Z
open Go
section
variable {P:Program}{pg:Prg}{call:CallF}{loop:LoopF}
theorem tail_sound (hm:P.follows .mixedOrders=true)(hR:RoCall pg call)(hC:CallSound P call)(hE:CallEnters P call){k:Nat}(hL:LoopSound P loop k){fn:Func}{code:Code}{c:CFun}
  (h4:cCode P fn.ntmps code=some (erase c.body)) (h5:cRes P fn.results.toList=some c.res) {args:List AV} {G G':Heap} {out:Out} (h:evFun pg call loop c args G=some (out,G'))
  {m:Mem} {μ:Mu} {w:World} {a:Act} (hp:Pt fn.ntmps ⟨m,μ,G,w,[]⟩ G (iEv 0 args) a w m μ) (ht:∀ id,id<G.length→∃ l,μ id=some l) :
  code.wp P (bodyPost P fn fun e w'=>∃ m' μ',Inv m' μ' G' w'∧Stp m μ G w m' μ' G' w'∧OutR m' μ' (inf G') out e) a w:=by
 let E:Ent:=⟨m,μ,G,w,[]⟩
 have hI:=hp.inv
 unfold evFun at h
 have hbody:∀ {e:Ex} {env':Env} {G1:Heap},evCode pg call loop G.length c.body (iEv 0 args) G=some (e,env',G1)→Ends fn.ntmps E (bodyPost P fn fun e w'=>∃ m' μ',Inv m' μ' G' w'∧Stp m μ G w m' μ' G' w'∧OutR m' μ' (inf G') out e) e env' G1→code.wp P (bodyPost P fn fun e w'=>∃ m' μ',Inv m' μ' G' w'∧Stp m μ G w m' μ' G' w'∧OutR m' μ' (inf G') out e) a w :=
  fun hev hq=>code_sound (E:=E) hm hR hC hE hL ht (fun id l hl=>hI.dom id l hl) code c.body h4 hev hp hq
 have hret:∀ {env':Env} {G1:Heap},(match evRes env' G1 c.res with
    |none=>none
    |some vs=>if c.keepRes then some (Out.ret (whole vs),G1) else match norm G1 (whole vs) with
     |some (v,G')=>leave G.length (.ret v) G'
     |none=>none)=some (out,G')→∀ a' w' m' μ',Pt fn.ntmps E G1 env' a' w' m' μ'→a'.defers=[]∧∃ v,(results fn a'.tmps).run P w'=.ok v w'∧∃ m'' μ'',Inv m'' μ'' G' w'∧Stp m μ G w m'' μ'' G' w'∧OutR m'' μ'' (inf G') out (.returned v):=by
  intro env' G1 hres a' w' m' μ' hp'
  refine ⟨hp'.dfr,?_⟩
  split at hres
  ·cases hres
  ·rename_i vs hvs
   obtain ⟨vals,k1,k2⟩:=res_sound hp' fn.results.toList h5 hvs
   refine ⟨wholeV vals,results_run k1,?_⟩
   have hw:=whole_R k2
   split at hres
   ·cases hres
    refine ⟨m',μ',hp'.inv,⟨hp'.ext,hp'.fr,⟨fun id hid _=>hp'.tot id hid,fun id hid hn=>?_⟩⟩,hw⟩
    obtain ⟨l,hl⟩:=ht id hid
    rw[hl]at hn;cases hn
   ·split at hres
    ·rename_i v G2 hn
     obtain ⟨m2,i1,i2,i3⟩:=norm_sound _ hp'.inv hn hw
     obtain ⟨μ3,j1,j2,j3⟩:=leave_sound (out:=.ret v) i1 (hp'.ext.trans i2.ext) (hp'.fr.trans i2.fr) ht (fun id l hl=>hI.dom id l hl) hres (e:=.returned (wholeV vals)) i3
     exact ⟨m2,μ3,j1,j2,j3⟩
    ·cases hres
 cases hev:evCode pg call loop G.length c.body (iEv 0 args) G with
 |none=>rw[hev]at h;cases h
 |some r =>
  rcases r with ⟨e,env',G1⟩
  rw[hev]at h
  refine hbody hev fun a' w' m' μ' hp'=>?_
  cases e with
  |normal=>exact hret h a' w' m' μ' hp'
  |ret=>exact hret h a' w' m' μ' hp'
  |exit id=>cases h
  |pan v =>
   intro val hv
   dsimp only at h
   obtain ⟨μ3,j1,j2,j3⟩:=leave_sound (out:=.pan v) hp'.inv hp'.ext hp'.fr ht (fun id l hl=>hI.dom id l hl) h (e:=.panicked [{ v:=val,recovered:=false }]) ⟨val,rfl,hv⟩
   exact ⟨hp'.dfr,m',μ3,j1,j2,j3⟩
end
def pgE:Prg:=⟨fun _=>none,fun _=>none,fun _=>false⟩
theorem pgE_ok {P:Program}(hm:P.follows .mixedOrders=true):PrgOK P pgE :=
 { mixed:=hm,code:=fun _ _ _ h=>(nomatch h),quiet:=fun _ _ _ _ _ h=>(nomatch h),orc:=fun _ _ h=>(nomatch h) }
end Go.Proofs.Z
end
section
namespace Go.Proofs.Z
open Go Go.Proofs
variable {P:Program}
theorem wpOps_val {ops:Array Oper}{Q:Exit→Act→World→Prop}{i:Nat}{rest:List Nat}{a:Act}{w w':World}{o:Oper}{v:Value}(ho:ops[i]?=some o)(hw:Region.wanted o (yielded ops a.tmps)=true)(hr:(execOp a.eval o).run P w=.ok (.value v) w')(h:wpOps P ops Q rest (a.put o.dst v) w'):wpOps P ops Q (i::rest) a w:=by
 rw[wpOps_cons]
 unfold wpOp
 rw[ho]
 dsimp only
 rw[hw]
 simp only[if_true]
 refine .inl ?_
 unfold Oper.wp
 rw[hr]
 exact h
theorem wpOps_to {ops:Array Oper}{Q:Exit→Act→World→Prop}{i:Nat}{rest:List Nat}{a a':Act}{w w':World}{o:Oper}{v:Value}(ho:ops[i]?=some o)(hw:Region.wanted o (yielded ops a.tmps)=true)(hr:(execOp a.eval o).run P w=.ok (.value v) w')(ha:a.put o.dst v=a')(h:wpOps P ops Q rest a' w'):wpOps P ops Q (i::rest) a w :=
 wpOps_val ho hw hr (by rw[ha];exact h)
def clHead (t:TypeId):Array Oper:=#[{ dst:=some 2,op:=.assign (.const (.slice none 0 0)),type:=t,pos:= "slices.go:355",after:=#[],guard:=none }]
def clTest (t:TypeId):Array Oper:=#[{ dst:=some 3,op:=.move (.tmp 0),type:=t,pos:= "slices.go:357",after:=#[],guard:=none },
 { dst:=some 4,op:=.binOp .eql t (.tmp 3) (.const (.slice none 0 0)) t,type:=4,pos:= "slices.go:357",after:=#[{ on:=0,ground:=.data }],guard:=none }]
def clNil (t:TypeId):Array Oper:=#[{ dst:=some 2,op:=.assign (.const (.slice none 0 0)),type:=t,pos:= "slices.go:358",after:=#[],guard:=none }]
def clTail (t:TypeId):Code:=.seq (.region 3 #[{ dst:=some 5,op:=.buildSlice t 0 #[],type:=t,pos:= "slices.go:362",after:=#[],guard:=none },
 { dst:=some 6,op:=.move (.tmp 0),type:=t,pos:= "slices.go:362",after:=#[],guard:=none },
 { dst:=some 7,op:=.call { callee:=.builtin .append,args:=#[.tmp 5,.tmp 6],argTypes:=#[t,t] },type:=t,pos:= "slices.go:362",after:=#[{ on:=0,ground:=.data },{ on:=1,ground:=.data }],guard:=none },
 { dst:=some 2,op:=.assign (.tmp 7),type:=t,pos:= "slices.go:362",after:=#[{ on:=2,ground:=.data },{ on:=2,ground:=.chain },{ on:=0,ground:=.phase },{ on:=1,ground:=.phase },{ on:=2,ground:=.phase }],guard:=none }] false) .ret
def clBody (t:TypeId):Code:=.seq (.region 0 (clHead t) false) (.seq (.seq (.region 1 (clTest t) false) (.cond (.tmp 4) (.seq (.region 2 (clNil t) false) .ret) .skip)) (clTail t))
def clC (sz bytes:Nat)(zero:List PV)(k:Bool):CFun:=⟨.seq (.ops [2] [⟨some 5,.bslice sz zero 0 [],none⟩,⟨some 6,.mov (.t 0),none⟩,⟨some 7,.app false sz bytes (.t 5) (.t 6),none⟩,⟨some 2,.mov (.t 7),none⟩]) .ret,[.t 2],false,k⟩
structure ClFn (P:Program)(f t:Nat)(sz bytes:Nat)(zero:List PV):Prop where
 fn:∃ (fn:Func) (e:TypeId),P.funcs[f]?=some fn∧fn.body=some (clBody t)∧fn.ntmps=8∧fn.results=#[.tmp 2]∧P.underlying t=some (.slice e)∧(fn.name == "runtime.NumGoroutine")=false
 tail:cCode P 8 (clTail t)=some (erase (clC sz bytes zero false).body)
 zero:okRow sz zero=true∧1≤sz
theorem cl_ev (k:Bool){sz bytes:Nat}{zero:List PV}(hz:okRow sz zero=true∧1≤sz){rows:List (List PV)}(h1:okRows sz rows=true)(h2:roomy rows.length bytes=true) :
  evFun pgE (evCall pgE 0) (evLoop pgE 0) (clC sz bytes zero k) [.p (.sl rows)] []=if k=true then some (.ret (.arr 0 rows.length 1),[.arr sz rows 1 0]) else some (.ret (.p (.sl rows)),[]):=by
 cases k
 ·simp[evFun,evCode,evOps,clC,evOp,opd,opds,lk,put,restr,iEv,gOK,hz,evOp.fillRows,evApp,isStr,rowsOf,h1,h2,evRes,whole,norm,leave,Out.below,below,one]
 ·simp[evFun,evCode,evOps,clC,evOp,opd,opds,lk,put,restr,iEv,gOK,hz,evOp.fillRows,evApp,isStr,rowsOf,h1,h2,evRes,whole,norm,leave,Out.below,below,one]
theorem clone_ok (hm:P.follows .mixedOrders=true){f t sz bytes:Nat}{zero:List PV}(hc:ClFn P f t sz bytes zero){rows:List (List PV)}{out:Out}{G':Heap}{k:Bool}(h1:okRows sz rows=true)(h2:roomy rows.length bytes=true)
  (hk:k=true→rows≠[]) (ho:(if k=true then some (Out.ret (.arr 0 rows.length 1),[AObj.arr sz rows 1 0]) else some (Out.ret (.p (.sl rows)),[]))=some (out,G')) {m:Mem} {w:World} {vargs:List Value} (hI:Inv m (fun _=>none) [] w) (hr:RL m (fun _=>none) (inf []) vargs [.p (.sl rows)]) :
  Calls P f vargs.toArray w fun e w'=>∃ m' μ',Inv m' μ' G' w'∧Stp m (fun _=>none) [] w m' μ' G' w'∧OutR m' μ' (inf G') out e:=by
 obtain ⟨fn,e,e1,e2,e3,e4,e5,e6⟩:=hc.fn
 obtain ⟨v,vs,rfl,hv,hvs⟩:=hr.inv_cons
 rw[hvs.inv_nil]
 have hv':RP m v (.sl rows):=by cases hv with|p _ _ h=>exact h
 obtain ⟨a,cap,rfl,ha⟩:∃ a cap,v=.slice a rows.length cap∧(rows≠[]→a≠none):=by
  generalize hrr:rows=rr at hv'
  cases hv' with
  |sl a cap rows' sz f hcap hs ha hf =>
   subst hrr
   exact ⟨a,cap,rfl,fun hne=>by obtain ⟨b,o,h,_⟩:=ha hne;rw[h];simp⟩
 refine calls_of_wp e1 e2 ?_
 rw[e3,show (#[Value.slice a rows.length cap]++Array.replicate (8-#[Value.slice a rows.length cap].size) undef:Array Value)=#[.slice a rows.length cap,undef,undef,undef,undef,undef,undef,undef] from rfl]
 refine wp_seq (wp_region ?_)
 refine wpOps_to (a':=⟨#[.slice a rows.length cap,undef,.slice none 0 0,undef,undef,undef,undef,undef],[]⟩) (v:=.slice none 0 0) rfl rfl rfl rfl ?_
 refine wp_seq (wp_seq (wp_region ?_))
 refine wpOps_to (a':=⟨#[.slice a rows.length cap,undef,.slice none 0 0,.slice a rows.length cap,undef,undef,undef,undef],[]⟩) (v:=.slice a rows.length cap) rfl rfl rfl rfl ?_
 refine wpOps_to (a':=⟨#[.slice a rows.length cap,undef,.slice none 0 0,.slice a rows.length cap,.bool a.isNone,undef,undef,undef],[]⟩) (w':=w) (v:=.bool a.isNone) rfl rfl ?_ rfl ?_
 ·have:=Go.Lib.run_eql_slice_nil w t e a rows.length cap 0 0 e5
  simp[execOp,Act.eval,go_sem,this,clTest]
 show Code.wp _ _ _ _ _
 refine wp_cond (t:=a.isNone) rfl ?_
 cases a with
 |none =>
  have hrn:rows=[]:=Classical.byContradiction fun hne=>ha hne rfl
  subst hrn
  have hkf:k=false:=by cases k;rfl;exact absurd rfl (hk rfl)
  subst hkf
  simp only[Bool.false_eq_true,if_false,Option.some.injEq,Prod.mk.injEq]at ho
  obtain ⟨rfl,rfl⟩:=ho
  refine wp_seq (wp_region ?_)
  refine wpOps_to (a':=⟨#[.slice none 0 cap,undef,.slice none 0 0,.slice none 0 cap,.bool true,undef,undef,undef],[]⟩) (v:=.slice none 0 0) rfl rfl rfl rfl ?_
  refine wp_ret ?_
  refine ⟨rfl,.slice none 0 0,?_,m,fun _=>none,hI,.refl _ _ _ _,?_⟩
  ·refine results_run (vals:=[.slice none 0 0]) ?_
   rw[e4]
   simp[resOf]
  ·exact .p _ _ (.sl none 0 [] 1 (fun _ _=>undef) (by simp) rfl (fun h=>absurd rfl h) (fun i j r c h=>by simp at h))
 |some a =>
  refine wp_skip ?_
  have hp:Pt 8 ⟨m,fun _=>none,[],w,[]⟩ [] (iEv 0 [.p (.sl rows)]) { tmps:=#[.slice (some a) rows.length cap,undef,.slice none 0 0,.slice (some a) rows.length cap,.bool false,undef,undef,undef],defers:=[] } w m (fun _=>none) :=
   ⟨hI,⟨Nat.le_refl 8,fun k' x hk'=>by
    obtain ⟨_,hx⟩:=init_lk [.p (.sl rows)] 0 k' x hk'
    cases k' with
    |zero=>simp at hx;subst hx;exact hv
    |succ k'=>simp at hx⟩,rfl,fun id hid=>by simp at hid,.refl _ _ _,.refl _ _ _⟩
  have hs:=sound_all (pgE_ok (P:=P) hm) 0
  have:=tail_sound (fn:={ fn with ntmps:=8,results:=#[.tmp 2] }) (c:=clC sz bytes zero k) hm hs.2.2.1 hs.1 hs.2.1 hs.2.2.2.1 (by cases k<;>exact hc.tail) rfl ((cl_ev k hc.zero h1 h2).trans ho) hp (fun id hid=>by simp at hid)
  rw[show ({ fn with ntmps:=8,results:=#[ResultVar.tmp 2] }:Func)=fn by cases fn;simp_all]at this
  exact this
end Go.Proofs.Z
end
section
namespace Go.Proofs.Z
open Go Go.Proofs
attribute [local simp] k_nil k_ops k_opsg kG_true kG_false kO_val kO_pan k_seq kS_n kS_r kS_e kS_p k_o kR_n kR_p kD2_n kD1_n k_d k_c kC_t kC_f k_b kB_n kB_r kB_p kB_e k_skip k_ret k_exit k_l kL_s kLp_n kLp_r kLp_e kLp_p k_f kF_n kF_r kF_p kV_f kV_t kN_s evOp evBin gOK opd opds lk put restr iEv evRes whole norm normL one Out.below below belowL bOb evStore evLoad evLen AV.cells AV.flat PV.flat splice fillAt pcs isStr rowsOf Res.of evCmp lvE leafEq asInt noIdAt noId noIdL tids chkOK
variable {pg:Prg}{G:Heap}
def r11a:CCode:=.ops [1,2,3,6,7,8,9] [⟨some 3,.box (.t 0),none⟩,⟨some 6,.new [.nils,(.p (.i .i64 0))],none⟩,⟨some 7,.new [(.p (.i .i64 0)),(.p (.i .i64 0)),(.p (.s [])),.nils],none⟩,⟨some 8,.new [(.p (.i .i64 0)),(.p (.i .i64 0)),(.p (.i .i64 0)),(.p (.i .i64 0)),(.p (.i .i64 0)),(.p (.i .i64 0)),(.p (.i .i64 0)),(.p (.i .i64 0)),(.p (.i .i64 0))],none⟩,⟨some 9,.new [(.p (.i .i64 0))],none⟩]
def r11b:CCode:=.ops [1,2,6,7,8,9,10] [⟨some 12,.load 2 true (.t 3),none⟩,⟨some 13,.mov (.t 2),none⟩,⟨some 14,.mov (.t 1),none⟩,⟨some 15,.build [.nils,(.p (.i .i64 0)),(.p (.i .i64 0)),(.p (.i .i64 0)),(.p (.i .i64 0)),(.p (.i .i64 0)),(.p (.i .i64 0)),(.p (.i .i64 0)),(.p (.i .i64 0)),(.p (.i .i64 0)),(.p (.i .i64 0)),(.p (.i .i64 0)),(.p (.i .i64 0)),(.p (.b false))] [(0,2,(.t 12)),(12,1,(.t 13)),(13,1,(.t 14))],none⟩,⟨some 16,.box (.t 15),none⟩,⟨some 10,.new [(.p .pn)],none⟩,⟨none,.store 1 (.t 10) (.t 16),none⟩]
def r11m:CI:=⟨some 17,.mkfn 31 [] [(.t 10),(.t 6),(.t 8),(.t 7),(.t 9)],none⟩
def r11c:CCode:=(.seq (.ops [6,7,8,9,10,11] [⟨some 18,.load 1 false (.t 10),none⟩,⟨some 19,.build [(.p (.i .i64 0)),(.p (.i .i64 0))] [],none⟩,⟨some 20,.call 32 [(.t 18),(.t 19)],none⟩,⟨some 11,.new [(.p (.i .i64 0)),(.p (.i .i64 0)),(.p (.s [])),.nils],none⟩,⟨none,.store 4 (.t 11) (.t 20),none⟩])
 (.seq (.draw [6,7,8,9] [] [⟨some 21,.load 1 false (.t 10),none⟩,⟨some 22,.nilck (.t 21),none⟩,⟨some 23,.faddr 0 (.t 22),none⟩,⟨some 24,.load 2 true (.t 23),none⟩,⟨some 25,.load 4 true (.t 11),none⟩,⟨some 26,.load 1 false (.t 10),none⟩,⟨some 27,.nilck (.t 26),none⟩,⟨some 28,.faddr 2 (.t 27),none⟩,⟨some 29,.load 9 true (.t 28),none⟩,⟨none,.store 2 (.t 6) (.t 24),none⟩,⟨none,.store 4 (.t 7) (.t 25),none⟩,⟨none,.store 9 (.t 8) (.t 29),none⟩,⟨none,.store 1 (.t 9) (.k (.p (.i .i64 0))),none⟩] [.apart 11 6,.apart 10 6,.apart 28 6,.apart 10 7,.apart 28 7])
 .ret))
def r31a:CCode:=(.draw [3,4] [] [⟨some 8,.load 1 false (.t 0),none⟩,⟨some 9,.nilck (.t 8),none⟩,⟨some 10,.faddr 0 (.t 9),none⟩,⟨some 11,.load 2 true (.t 10),none⟩,⟨some 12,.load 1 false (.t 0),none⟩,⟨some 13,.nilck (.t 12),none⟩,⟨some 14,.faddr 2 (.t 13),none⟩,⟨some 15,.load 9 true (.t 14),none⟩,⟨none,.store 2 (.t 1) (.t 11),none⟩,⟨none,.store 9 (.t 2) (.t 15),none⟩] [])
def r31b:CCode:=(.ops [3,4,5,18] [⟨some 17,.mov (.t 5),none⟩,⟨some 18,.bin .neq .ifc (.t 17) (.k (.p .inil)),none⟩])
def r31c0:CI:=⟨some 20,.mov (.t 5),none⟩
def r31c:List CI:=[⟨some 19,.mov (.t 21),none⟩,⟨some 22,.extract (.t 19) 0,none⟩,⟨some 23,.extract (.t 19) 1,none⟩,⟨some 6,.new [(.p (.i .i64 0))],none⟩,⟨none,.store 1 (.t 6) (.t 22),none⟩,⟨some 7,.mov (.t 23),none⟩]
def r31d:CCode:=(.seq (.seq (.ops [3,4,5,6,25] [⟨some 24,.mov (.t 7),none⟩,⟨some 25,.not (.t 24),none⟩])
 (.cond (.t 25) (.ops [3,4,6] [⟨some 26,.mov (.t 5),none⟩,⟨none,.panic (.t 26),none⟩])
  .skip))
 (.draw [] [] [⟨some 27,.build [(.p (.i .i64 0)),(.p (.i .i64 0)),(.p (.s [])),.nils] [],none⟩,⟨some 28,.faddr 0 (.t 6),none⟩,⟨some 29,.load 1 false (.t 28),none⟩,⟨none,.store 4 (.t 3) (.t 27),none⟩,⟨none,.store 1 (.t 4) (.t 29),none⟩] [.apart 28 3]))
variable {call:CallF}{loop:LoopF}{base:Nat}
def z9:List AV:=[.p (.i .i64 0),.p (.i .i64 0),.p (.i .i64 0),.p (.i .i64 0),.p (.i .i64 0),.p (.i .i64 0),.p (.i .i64 0),.p (.i .i64 0),.p (.i .i64 0)]
def shp0:List AV:=[.p (.i .i64 0),.p (.i .i64 0),.p (.s []),.nils]
theorem ev11a {rows:List (List PV)}{C F:Int}{D:Bool}:evCode pg call loop base r11a (iEv 0 [.ag [.p (.sl rows),.p (.i .i64 C)],.p (.b D),.p (.i .i64 F)]) [] =
  some (.normal,[(1,.p (.b D)),(2,.p (.i .i64 F)),(3,.ptr 0 0),(6,.ptr 1 0),(7,.ptr 2 0),(8,.ptr 3 0),(9,.ptr 4 0)],[.box [.p (.sl rows),.p (.i .i64 C)],.box [.nils,.p (.i .i64 0)],.box shp0,.box z9,.box [.p (.i .i64 0)]]):=by
 simp[r11a,leave,shp0,z9]
def env11 (F:Int)(D:Bool):Env:=[(1,.p (.b D)),(2,.p (.i .i64 F)),(6,.ptr 1 0),(7,.ptr 2 0),(8,.ptr 3 0),(9,.ptr 4 0),(10,.ptr 6 0)]
def rdc (rows:List (List PV))(C:Int)(t:List Int)(d F:Int)(D:Bool):List AV:=.p (.sl rows)::.p (.i .i64 C)::(t.map fun i=>AV.p (.i .i64 i))++[.p (.i .i64 d),.p (.i .i64 F),.p (.b D)]
def h11 (rows:List (List PV))(C:Int)(c:List AV):Heap:=[.box [.p (.sl rows),.p (.i .i64 C)],.box [.nils,.p (.i .i64 0)],.box shp0,.box z9,.box [.p (.i .i64 0)],.box c,.box [.ptr 5 0]]
def z9i:List Int:=[0,0,0,0,0,0,0,0,0]
theorem ev11b {rows:List (List PV)}{C F:Int}{D:Bool}:evCode pg call loop base r11b [(1,.p (.b D)),(2,.p (.i .i64 F)),(3,.ptr 0 0),(6,.ptr 1 0),(7,.ptr 2 0),(8,.ptr 3 0),(9,.ptr 4 0)] [.box [.p (.sl rows),.p (.i .i64 C)],.box [.nils,.p (.i .i64 0)],.box shp0,.box z9,.box [.p (.i .i64 0)]] =
  some (.normal,env11 F D,h11 rows C (rdc rows C z9i 0 F D)):=by
 simp[r11b,leave,shp0,z9,env11,h11,rdc,z9i]
def shv (k n:Int)(s:List UInt8)(l:List (List PV)):List AV:=[.p (.i .i64 k),.p (.i .i64 n),.p (.s s),.p (.sl l)]
def ti (t:List Int):List AV:=t.map fun i=>AV.p (.i .i64 i)
def Shp (call:CallF)(rows:List (List PV))(C F:Int)(D:Bool)(o:Out)(rows':List (List PV))(C':Int)(t:List Int)(d F':Int)(D':Bool):Prop :=
 eCA pg call 32 [.ptr 5 0,.ag [.p (.i .i64 0),.p (.i .i64 0)]] (h11 rows C (rdc rows C z9i 0 F D))=some (o,h11 rows C (rdc rows' C' t d F' D'))
def h11r (rows:List (List PV))(C:Int)(rows':List (List PV))(C':Int)(t:List Int)(d F':Int)(D':Bool)(sh:List AV)(e:Int)(sh':List AV):Heap:=[.box [.p (.sl rows),.p (.i .i64 C)],.box [.p (.sl rows'),.p (.i .i64 C')],.box sh,.box (ti t),.box [.p (.i .i64 e)],.box (rdc rows' C' t d F' D'),.box [.ptr 5 0],.box sh']
theorem ev11c {rows rows' l:List (List PV)}{C C' F F' d k n:Int}{D D':Bool}{t:List Int}{s:List UInt8}{v:AV}(ht:t.length=9)(hs:Shp (pg:=pg) call rows C F D (.ret (.ag (shv k n s l))) rows' C' t d F' D') :
  evCode pg call loop base r11c ((17,v)::env11 F D) (h11 rows C (rdc rows C z9i 0 F D))=some (.ret,[(6,.ptr 1 0),(7,.ptr 2 0),(8,.ptr 3 0),(9,.ptr 4 0)],h11r rows C rows' C' t d F' D' (shv k n s l) 0 (shv k n s l)):=by
 obtain ⟨t0,t1,t2,t3,t4,t5,t6,t7,t8,rfl⟩:∃ t0 t1 t2 t3 t4 t5 t6 t7 t8,t=[t0,t1,t2,t3,t4,t5,t6,t7,t8]:=by
  match t,ht with
  |[t0,t1,t2,t3,t4,t5,t6,t7,t8],_=>exact ⟨t0,t1,t2,t3,t4,t5,t6,t7,t8,rfl⟩
 unfold Shp at hs
 generalize hG:h11 rows C (rdc rows C z9i 0 F D)=G0 at *
 have h6:G0[6]?=some (.box [.ptr 5 0]):=by rw[← hG];rfl
 simp[r11c,leave,env11,h6,hs]
 simp[h11,shv,rdc,shp0,z9,h11r,ti,leave]
 rw[if_pos ⟨rfl,rfl,rfl,rfl,rfl⟩]
 rfl
theorem ev11p {rows rows':List (List PV)}{C C' F F' d:Int}{D D':Bool}{t:List Int}{w v:AV}(hs:Shp (pg:=pg) call rows C F D (.pan w) rows' C' t d F' D') :
  evCode pg call loop base r11c ((17,v)::env11 F D) (h11 rows C (rdc rows C z9i 0 F D))=some (.pan w,(19,.ag [.p (.i .i64 0),.p (.i .i64 0)])::(18,.ptr 5 0)::(17,v)::env11 F D,h11 rows C (rdc rows' C' t d F' D')):=by
 unfold Shp at hs
 generalize hG:h11 rows C (rdc rows C z9i 0 F D)=G0 at *
 have h6:G0[6]?=some (.box [.ptr 5 0]):=by rw[← hG];rfl
 simp[r11c,leave,env11,h6,hs]
def hg (rows:List (List PV))(C:Int)(a1 a2 a3 a4 c5:List AV)(tl:Heap):Heap:=.box [.p (.sl rows),.p (.i .i64 C)]::.box a1::.box a2::.box a3::.box a4::.box c5::.box [.ptr 5 0]::tl
def net2 (rows:List (List PV))(C:Int):List AV:=[.p (.sl rows),.p (.i .i64 C)]
def env31:Env:=iEv 0 [.ptr 6 0,.ptr 1 0,.ptr 3 0,.ptr 2 0,.ptr 4 0]
theorem ev31a {rows rows':List (List PV)}{C C' F' d:Int}{D':Bool}{t:List Int}{x1 x2:AV}{a2 a3 a4:List AV}{tl:Heap}(ht:t.length=9)(h3:a3.length=9)(hx:x1.flat=true∧x2.flat=true)(ha:a3.all AV.flat=true) :
  evCode pg call loop base r31a env31 (hg rows C [x1,x2] a2 a3 a4 (rdc rows' C' t d F' D') tl)=some (.normal,[(3,.ptr 2 0),(4,.ptr 4 0)],hg rows C (net2 rows' C') a2 (ti t) a4 (rdc rows' C' t d F' D') tl):=by
 obtain ⟨t0,t1,t2,t3,t4,t5,t6,t7,t8,rfl⟩:∃ t0 t1 t2 t3 t4 t5 t6 t7 t8,t=[t0,t1,t2,t3,t4,t5,t6,t7,t8]:=by
  match t,ht with
  |[t0,t1,t2,t3,t4,t5,t6,t7,t8],_=>exact ⟨t0,t1,t2,t3,t4,t5,t6,t7,t8,rfl⟩
 obtain ⟨u0,u1,u2,u3,u4,u5,u6,u7,u8,rfl⟩:∃ t0 t1 t2 t3 t4 t5 t6 t7 t8,a3=[t0,t1,t2,t3,t4,t5,t6,t7,t8]:=by
  match a3,h3 with
  |[t0,t1,t2,t3,t4,t5,t6,t7,t8],_=>exact ⟨t0,t1,t2,t3,t4,t5,t6,t7,t8,rfl⟩
 simp[r31a,env31,hg,rdc,net2,ti,leave]
theorem ev31bn {G:Heap}:evCode pg call loop base r31b [(5,.p .inil),(16,.p .inil),(3,.ptr 2 0),(4,.ptr 4 0)] G=some (.normal,[(3,.ptr 2 0),(4,.ptr 4 0),(5,.p .inil),(18,.p (.b false))],G):=by
 simp[r31b,leave,evNilEq]
theorem ev31bp {G:Heap}{v:AV}:evCode pg call loop base r31b [(5,.ifc 70 v),(16,.ifc 70 v),(3,.ptr 2 0),(4,.ptr 4 0)] G=some (.normal,[(3,.ptr 2 0),(4,.ptr 4 0),(5,.ifc 70 v),(18,.p (.b true))],G):=by
 simp[r31b,leave,evNilEq]
theorem ev31c {v:AV}{e:Int}{G:Heap}:evOps pg call r31c [(21,.tup [.ag [.p (.i .i64 e)],.p (.b true)]),(20,.ifc 70 v),(3,.ptr 2 0),(4,.ptr 4 0),(5,.ifc 70 v),(18,.p (.b true))] G =
  some (.normal,[(7,.p (.b true)),(6,.ptr G.length 0),(23,.p (.b true)),(22,.ag [.p (.i .i64 e)]),(19,.tup [.ag [.p (.i .i64 e)],.p (.b true)]),(21,.tup [.ag [.p (.i .i64 e)],.p (.b true)]),(20,.ifc 70 v),(3,.ptr 2 0),(4,.ptr 4 0),(5,.ifc 70 v),(18,.p (.b true))],G++[.box [.p (.i .i64 e)]]):=by
 simp[r31c,leave]
theorem ev31d {v:AV}{e:Int}{rows:List (List PV)}{C:Int}{a1 a3 c5:List AV}:evCode pg call loop base r31d [(7,.p (.b true)),(6,.ptr 7 0),(23,.p (.b true)),(22,.ag [.p (.i .i64 e)]),(19,.tup [.ag [.p (.i .i64 e)],.p (.b true)]),(21,.tup [.ag [.p (.i .i64 e)],.p (.b true)]),(20,.ifc 70 v),(3,.ptr 2 0),(4,.ptr 4 0),(5,.ifc 70 v),(18,.p (.b true))] (hg rows C a1 shp0 a3 [.p (.i .i64 0)] c5 [.box [.p (.i .i64 e)]]) =
  some (.normal,[],hg rows C a1 shp0 a3 [.p (.i .i64 e)] c5 [.box [.p (.i .i64 e)]]):=by
 simp[r31d,leave,hg,shp0]
end Go.Proofs.Z
end
section
namespace Go.Proofs.Z
open Go Go.Proofs
attribute [local simp] k_nil k_ops k_opsg kG_true kG_false kO_val kO_pan k_seq kS_n kS_r kS_e kS_p k_o kR_n kR_p kD2_n kD1_n k_d k_c kC_t kC_f k_b kB_n kB_r kB_p kB_e k_skip k_ret k_exit k_l kL_s kLp_n kLp_r kLp_e kLp_p k_f kF_n kF_r kF_p kV_f kV_t kN_s evOp evBin gOK opd opds lk put restr iEv evRes whole norm normL one Out.below below belowL bOb evStore evLoad evLen AV.cells AV.flat PV.flat splice fillAt pcs isStr rowsOf Res.of evCmp lvE leafEq asInt noIdAt noId noIdL tids chkOK
variable {pg:Prg}{G:Heap}
noncomputable def s11:Code×Code×Array Oper×Code:=match Tryz.f11.body with
 |some (.seq r0 (.seq r1 (.seq (.region _ ops _) tl)))=>(r0,r1,ops,tl)
 |_=>(.skip,.skip,#[],.skip)
theorem b11:Tryz.f11.body=some (.seq s11.1 (.seq s11.2.1 (.seq (.region 2 s11.2.2.1 false) s11.2.2.2))):=by kernel_rfl
theorem ok11a:cCode Tryz.prog 30 s11.1=some (erase r11a):=by kernel_rfl
theorem ok11b:cCode Tryz.prog 30 s11.2.1=some (erase r11b):=by kernel_rfl
theorem ok11c:cCode Tryz.prog 30 s11.2.2.2=some (erase r11c):=by kernel_rfl
noncomputable def o11a:Oper:=s11.2.2.1.getD 0 default
def o11b:Oper:={ dst:=none,op:=.defer { callee:=.value (.tmp 17),args:=#[],argTypes:=#[] },type:=0,pos:= "read.go:66",after:=#[{ on:=0,ground:=.data }],guard:=none }
theorem op11a:s11.2.2.1[0]?=some o11a:=by kernel_rfl
theorem op11b:s11.2.2.1[1]?=some o11b:=by kernel_rfl
theorem op11s:List.range s11.2.2.1.size=[0,1]:=by kernel_rfl
theorem op11m:cOper Tryz.prog 30 s11.2.2.1 o11a=some r11m:=by kernel_rfl
noncomputable def s31:Code×Array Oper×Code×Array Oper×Code:=match Tryz.f31.body with
 |some (.seq r0 (.seq (.region _ o1 _) (.seq r2 (.cond _ (.seq (.region _ o3 _) x) _))))=>(r0,o1,r2,o3,x)
 |_=>(.skip,#[],.skip,#[],.skip)
theorem b31:Tryz.f31.body=some (.seq s31.1 (.seq (.region 1 s31.2.1 false) (.seq s31.2.2.1 (.cond (.tmp 18) (.seq (.region 3 s31.2.2.2.1 false) s31.2.2.2.2) .skip)))):=by kernel_rfl
theorem ok31a:cCode Tryz.prog 30 s31.1=some (erase r31a):=by kernel_rfl
theorem ok31b:cCode Tryz.prog 30 s31.2.2.1=some (erase r31b):=by kernel_rfl
theorem ok31d:cCode Tryz.prog 30 s31.2.2.2.2=some (erase r31d):=by kernel_rfl
def o31a:Oper:={ dst:=some 16,op:=.call { callee:=.builtin .recover,args:=#[],argTypes:=#[] },type:=20,pos:= "read.go:68",after:=#[],guard:=none }
def o31b:Oper:={ dst:=some 5,op:=.assign (.tmp 16),type:=20,pos:= "read.go:68",after:=#[{ on:=0,ground:=.data },{ on:=0,ground:=.chain },{ on:=0,ground:=.phase }],guard:=none }
def o33t:Oper:={ dst:=some 21,op:=.typeAssert (.tmp 20) 20 70 true,type:=71,pos:= "read.go:69",after:=#[{ on:=0,ground:=.data }],guard:=none }
theorem op31s:List.range s31.2.1.size=[0,1]:=by kernel_rfl
theorem op31a:s31.2.1[0]?=some o31a:=by kernel_rfl
theorem op31b:s31.2.1[1]?=some o31b:=by kernel_rfl
noncomputable def o33 (k:Nat):Oper:=s31.2.2.2.1.getD k default
theorem op33s:List.range s31.2.2.2.1.size=[0,1,2,3,4,5,6,7]:=by kernel_rfl
theorem op33a:s31.2.2.2.1[0]?=some (o33 0):=by kernel_rfl
theorem op33b:s31.2.2.2.1[1]?=some o33t:=by kernel_rfl
theorem op33m:cOper Tryz.prog 30 s31.2.2.2.1 (o33 0)=some r31c0:=by kernel_rfl
theorem op33c:∀ k,k<6→s31.2.2.2.1[k+2]?=some (o33 (k+2))∧cOper Tryz.prog 30 s31.2.2.2.1 (o33 (k+2))=r31c[k]?:=by
 intro k hk
 match k,hk with
 |0,_=>exact ⟨by kernel_rfl,by kernel_rfl⟩
 |1,_=>exact ⟨by kernel_rfl,by kernel_rfl⟩
 |2,_=>exact ⟨by kernel_rfl,by kernel_rfl⟩
 |3,_=>exact ⟨by kernel_rfl,by kernel_rfl⟩
 |4,_=>exact ⟨by kernel_rfl,by kernel_rfl⟩
 |5,_=>exact ⟨by kernel_rfl,by kernel_rfl⟩
theorem al33:Al Tryz.prog 30 s31.2.2.2.1 [2,3,4,5,6,7] r31c:=by
 have h:=op33c
 exact .cons (h 0 (by omega)).1 (h 0 (by omega)).2 (.cons (h 1 (by omega)).1 (h 1 (by omega)).2 (.cons (h 2 (by omega)).1 (h 2 (by omega)).2 (.cons (h 3 (by omega)).1 (h 3 (by omega)).2 (.cons (h 4 (by omega)).1 (h 4 (by omega)).2 (.cons (h 5 (by omega)).1 (h 5 (by omega)).2 .nil)))))
theorem res11:cRes Tryz.prog Tryz.f11.results.toList=some [.cell 6 2 true,.cell 7 4 true,.cell 8 9 true,.cell 9 1 false]:=by kernel_rfl
section
variable {P:Program}{call:CallF}{N:Nat}{ops:Array Oper}
theorem wpOps_ci (hC:CallSound P call)(hE:CallEnters P call){E:Ent}{Q:Exit→Act→World→Prop}{k:Nat}{is:List Nat}{o:Oper}{ci:CI}(ho:ops[k]?=some o)(hc:cOper P N ops o=some ci){env F:Env}{G G1:Heap}(hev:evCI pg call ci env G=some (F,G1)){m:Mem}{μ:Mu}{a:Act}{w:World}
  (hp:Pt N E G env a w m μ) (h:∀ m' μ' a' w',Pt N E G1 F a' w' m' μ'→wpOps P ops Q is a' w'):wpOps P ops Q (k::is) a w:=by
 rw[wpOps_cons]
 unfold wpOp
 rw[ho]
 dsimp only
 have:=step_sound hC hE hc hev hp.inv hp.env (next:=wpOps P ops Q is) (Q:=Q) (fun m' μ' w' val hI hS he=>h m' μ' (a.put o.dst val) w' (hp.step hI hS he (by rw[Act.put_dfr];exact hp.dfr)))
 split
 ·rename_i hw
  rw[if_pos hw]at this
  exact .inl this
 ·rename_i hw
  rw[if_neg hw]at this
  exact this
end
section
variable {P:Program}{Q:Exit→Act→List Frame→World→Prop}{ops:Array Oper}{i:Nat}{rest:List Nat}{a:Act}{cs:List Frame}{w w':World}{o:Oper}
theorem wpOpsS_none (ho:ops[i]?=some o)(hw:Region.wanted o (yielded ops a.tmps)=true)(hr:(execOp a.eval o).run P w=.ok .recover w')(hc:recoverD cs=none)(h:wpOpsS P ops Q rest (a.put o.dst .nilIface) cs w'):wpOpsS P ops Q (i::rest) a cs w:=by
 unfold wpOpsS
 rw[ho]
 dsimp only
 rw[if_pos hw,hr]
 dsimp only
 rw[hc]
 exact h
theorem wpOpsS_some {v:Value}{cs':List Frame}(ho:ops[i]?=some o)(hw:Region.wanted o (yielded ops a.tmps)=true)(hr:(execOp a.eval o).run P w=.ok .recover w')(hc:recoverD cs=some (v,cs'))(h:wpOpsS P ops Q rest (a.put o.dst v) cs' w'):wpOpsS P ops Q (i::rest) a cs w:=by
 unfold wpOpsS
 rw[ho]
 dsimp only
 rw[if_pos hw,hr]
 dsimp only
 rw[hc]
 exact h
theorem wpOpsS_val {v:Value}(ho:ops[i]?=some o)(hw:Region.wanted o (yielded ops a.tmps)=true)(hr:(execOp a.eval o).run P w=.ok (.value v) w')(h:wpOpsS P ops Q rest (a.put o.dst v) cs w'):wpOpsS P ops Q (i::rest) a cs w:=by
 unfold wpOpsS
 rw[ho]
 dsimp only
 rw[if_pos hw,hr]
 exact h
end
theorem a31_pt {m:Mem}{μ:Mu}{G:Heap}{w:World}(hI:Inv m μ G w)(ht:∀ id,id<G.length→∃ l,μ id=some l){vs:List Value}{args:List AV}(hr:RL m μ (inf G) vs args)(hl:args.length≤30) :
  Pt 30 ⟨m,μ,G,w,[]⟩ G (iEv 0 args) { tmps:=vs.toArray++Array.replicate (30-vs.toArray.size) undef,defers:=[] } w m μ:=by
 refine ⟨hI,⟨by simp;omega,fun k x hk=>?_⟩,rfl,ht,.refl _ _ _,.refl _ _ _⟩
 obtain ⟨_,hx⟩:=init_lk args 0 k x hk
 simp at hx
 have hlt:k<vs.length:=by rw[hr.1];exact (gE hx).1
 have:=hr.2 k vs[k] x (gG hlt) hx
 simpa [Array.getD_eq_getD_getElem?,Array.getElem?_append,hlt] using this
theorem R.bool_inv' {m:Mem}{μ:Mu}{i:Inf}{v:Value}{b:Bool}(h:R m μ i v (.p (.b b))):v=.bool b:=by
 cases h with|p _ _ h=>cases h;rfl
theorem R.ifc_inv' {m:Mem}{μ:Mu}{i:Inf}{v:Value}{t:Nat}{x:AV}(h:R m μ i v (.ifc t x)):∃ z,v=.iface t z∧R m μ i z x:=by
 cases h with|ifc _ z _ h=>exact ⟨z,rfl,h⟩
theorem d31n (hok:PrgOK Tryz.prog pg){n:Nat}{rows rows':List (List PV)}{C C' d F':Int}{D':Bool}{t:List Int}{x1 x2:AV}{a2 a3 a4:List AV}{tl:Heap}(ht:t.length=9)(h3:a3.length=9)(hx:x1.flat=true∧x2.flat=true)(ha:a3.all AV.flat=true)
  {m:Mem} {μ:Mu} {w:World} (hI:Inv m μ (hg rows C [x1,x2] a2 a3 a4 (rdc rows' C' t d F' D') tl) w) (htot:∀ id,id<(hg rows C [x1,x2] a2 a3 a4 (rdc rows' C' t d F' D') tl).length→∃ l,μ id=some l) {vs:List Value}
  (hr:RL m μ (inf (hg rows C [x1,x2] a2 a3 a4 (rdc rows' C' t d F' D') tl)) vs [.ptr 6 0,.ptr 1 0,.ptr 3 0,.ptr 2 0,.ptr 4 0]) :
  CallsD Tryz.prog 31 vs.toArray .returning w fun e u' w'=>(∃ v,e=.returned v)∧u'=.returning∧∃ m' μ',Inv m' μ' (hg rows C (net2 rows' C') a2 (ti t) a4 (rdc rows' C' t d F' D') tl) w' ∧
   Stp m μ (hg rows C [x1,x2] a2 a3 a4 (rdc rows' C' t d F' D') tl) w m' μ' (hg rows C (net2 rows' C') a2 (ti t) a4 (rdc rows' C' t d F' D') tl) w':=by
 obtain ⟨hC,hE,hR,hL,hRL⟩:=sound_all hok n
 have hm:=hok.mixed
 refine callsD_of_wpS Tryz.func31 b31 fun c₀ cs hu=>?_
 have hp:=a31_pt hI htot hr (by simp)
 generalize hG3:hg rows C [x1,x2] a2 a3 a4 (rdc rows' C' t d F' D') tl=G3 at *
 let E:Ent:=⟨m,μ,G3,w,[]⟩
 have hdom:∀ id l,E.μ id=some l→id<E.G.length:=fun id l hl=>hI.dom id l hl
 refine wpS_seq (wpS_of_wp ?_)
 refine code_sound (E:=E) hm hR hC hE hL htot hdom _ r31a ok31a (by rw[← hG3];exact ev31a ht h3 hx ha) hp (fun a1 w1 m1 μ1 hp1=>?_)
 show Code.wpS _ _ _ _ _ _
 refine wpS_seq (wpS_region ?_)
 rw[op31s]
 have hrec:recoverD (c₀::cs)=none:=by unfold recoverD;simp[hu]
 refine wpOpsS_none op31a rfl rfl hrec ?_
 have hq1:Pt 30 E (hg rows C (net2 rows' C') a2 (ti t) a4 (rdc rows' C' t d F' D') tl) ((16,.p .inil)::[(3,.ptr 2 0),(4,.ptr 4 0)]) (a1.put (some 16) .nilIface) w1 m1 μ1 :=
  ⟨hp1.inv,hp1.env.put (d:=some 16) rfl (.p _ _ .inil),by rw[Act.put_dfr];exact hp1.dfr,hp1.tot,hp1.ext,hp1.fr⟩
 have hv16:=hq1.env.val 16 _ rfl
 refine wpOpsS_val (v:=(a1.put (some 16) .nilIface).tmps.getD 16 undef) op31b rfl rfl ?_
 have hq2:Pt 30 E (hg rows C (net2 rows' C') a2 (ti t) a4 (rdc rows' C' t d F' D') tl) ((5,.p .inil)::(16,.p .inil)::[(3,.ptr 2 0),(4,.ptr 4 0)]) ((a1.put (some 16) .nilIface).put (some 5) ((a1.put (some 16) .nilIface).tmps.getD 16 undef)) w1 m1 μ1 :=
  ⟨hq1.inv,hq1.env.put (d:=some 5) rfl hv16,by rw[Act.put_dfr];exact hq1.dfr,hq1.tot,hq1.ext,hq1.fr⟩
 show Code.wpS _ _ _ _ _ _
 refine wpS_of_wp (wp_seq ?_)
 refine code_sound (E:=E) hm hR hC hE hL htot hdom _ r31b ok31b ev31bn hq2 (fun a3' w3 m3 μ3 hp3=>?_)
 have h18:a3'.eval (.tmp 18)=.bool false:=R.bool_inv' (hp3.env.val 18 _ rfl)
 show Code.wp _ _ _ _ _
 refine wp_cond_false h18 (wp_skip ?_)
 refine ⟨hp3.dfr,c₀.mode,?_,.tuple #[],?_,⟨_,rfl⟩,hu,m3,μ3,hp3.inv,⟨hp3.ext,hp3.fr,⟨fun id hid _=>hp3.tot id hid,fun id hid hn=>?_⟩⟩⟩
 ·rfl
 ·exact results_run (fn:=Tryz.f31) (vals:=[]) (by rw[show Tryz.f31.results=#[] from Tryz.results31];rfl)
 ·obtain ⟨l,hl⟩:=htot id hid
  rw[hl]at hn;cases hn
theorem run_ta (a:Act)(z:Value)(w:World)(h20:a.tmps.getD 20 undef=.iface 70 z):(execOp a.eval o33t).run Tryz.prog w=.ok (.value (.tuple #[z,.bool true])) w:=by
 have h1:(Instr.typeAssert (.iface 70 z) 20 70 true).run Tryz.prog w=.ok (.tuple #[z,.bool true]) w:=by
  simp[Instr.typeAssert,Tryz.runUnderlying70]
 have h2:execOp a.eval o33t=(do let v ← Instr.typeAssert (a.tmps.getD 20 undef) 20 70 true;pure (Next.value v)):=rfl
 rw[h2,h20,Sem.run_bind,h1]
 rfl
theorem d31p (hok:PrgOK Tryz.prog pg){n:Nat}{rows rows':List (List PV)}{C C' d F' e0:Int}{D':Bool}{t:List Int}{x1 x2:AV}{a3:List AV}(ht:t.length=9)(h3:a3.length=9)(hx:x1.flat=true∧x2.flat=true)(ha:a3.all AV.flat=true)
  {m:Mem} {μ:Mu} {w:World} (hI:Inv m μ (hg rows C [x1,x2] shp0 a3 [.p (.i .i64 0)] (rdc rows' C' t d F' D') []) w) (htot:∀ id,id<(hg rows C [x1,x2] shp0 a3 [.p (.i .i64 0)] (rdc rows' C' t d F' D') []).length→∃ l,μ id=some l) {vs:List Value}
  (hr:RL m μ (inf (hg rows C [x1,x2] shp0 a3 [.p (.i .i64 0)] (rdc rows' C' t d F' D') [])) vs [.ptr 6 0,.ptr 1 0,.ptr 3 0,.ptr 2 0,.ptr 4 0]) {val:Value} (hval:R m μ (inf (hg rows C [x1,x2] shp0 a3 [.p (.i .i64 0)] (rdc rows' C' t d F' D') [])) val (.ifc 70 (.ag [.p (.i .i64 e0)]))) :
  CallsD Tryz.prog 31 vs.toArray (.panicking [{ v:=val,recovered:=false }]) w fun e u' w'=>(∃ v,e=.returned v)∧u'=.panicking [{ v:=val,recovered:=true }]∧∃ m' μ',Inv m' μ' (hg rows C (net2 rows' C') shp0 (ti t) [.p (.i .i64 e0)] (rdc rows' C' t d F' D') [.box [.p (.i .i64 e0)]]) w' ∧
   Stp m μ (hg rows C [x1,x2] shp0 a3 [.p (.i .i64 0)] (rdc rows' C' t d F' D') []) w m' μ' (hg rows C (net2 rows' C') shp0 (ti t) [.p (.i .i64 e0)] (rdc rows' C' t d F' D') [.box [.p (.i .i64 e0)]]) w':=by
 obtain ⟨hC,hE,hR,hL,hRL⟩:=sound_all hok n
 have hm:=hok.mixed
 refine callsD_of_wpS Tryz.func31 b31 fun c₀ cs hu=>?_
 have hp:=a31_pt hI htot hr (by simp)
 generalize hG3:hg rows C [x1,x2] shp0 a3 [.p (.i .i64 0)] (rdc rows' C' t d F' D') []=G3 at *
 let E:Ent:=⟨m,μ,G3,w,[]⟩
 have hdom:∀ id l,E.μ id=some l→id<E.G.length:=fun id l hl=>hI.dom id l hl
 refine wpS_seq (wpS_of_wp ?_)
 refine code_sound (E:=E) hm hR hC hE hL htot hdom _ r31a ok31a (by rw[← hG3];exact ev31a ht h3 hx ha) hp (fun a1 w1 m1 μ1 hp1=>?_)
 show Code.wpS _ _ _ _ _ _
 refine wpS_seq (wpS_region ?_)
 rw[op31s]
 have hrec:recoverD (c₀::cs)=some (val,{ c₀ with mode:=.panicking [{ v:=val,recovered:=true }] }::cs):=by unfold recoverD;simp[hu]
 refine wpOpsS_some op31a rfl rfl hrec ?_
 have hq1:Pt 30 E (hg rows C (net2 rows' C') shp0 (ti t) [.p (.i .i64 0)] (rdc rows' C' t d F' D') []) ((16,.ifc 70 (.ag [.p (.i .i64 e0)]))::[(3,.ptr 2 0),(4,.ptr 4 0)]) (a1.put (some 16) val) w1 m1 μ1 :=
  ⟨hp1.inv,hp1.env.put (d:=some 16) rfl (hval.mono hp1.ext),by rw[Act.put_dfr];exact hp1.dfr,hp1.tot,hp1.ext,hp1.fr⟩
 have hv16:=hq1.env.val 16 _ rfl
 refine wpOpsS_val (v:=(a1.put (some 16) val).tmps.getD 16 undef) op31b rfl rfl ?_
 have hq2:Pt 30 E (hg rows C (net2 rows' C') shp0 (ti t) [.p (.i .i64 0)] (rdc rows' C' t d F' D') []) ((5,.ifc 70 (.ag [.p (.i .i64 e0)]))::(16,.ifc 70 (.ag [.p (.i .i64 e0)]))::[(3,.ptr 2 0),(4,.ptr 4 0)]) ((a1.put (some 16) val).put (some 5) ((a1.put (some 16) val).tmps.getD 16 undef)) w1 m1 μ1 :=
  ⟨hq1.inv,hq1.env.put (d:=some 5) rfl hv16,by rw[Act.put_dfr];exact hq1.dfr,hq1.tot,hq1.ext,hq1.fr⟩
 show Code.wpS _ _ _ _ _ _
 refine wpS_of_wp (wp_seq ?_)
 refine code_sound (E:=E) hm hR hC hE hL htot hdom _ r31b ok31b ev31bp hq2 (fun a4 w4 m4 μ4 hp4=>?_)
 have h18:a4.eval (.tmp 18)=.bool true:=R.bool_inv' (hp4.env.val 18 _ rfl)
 show Code.wp _ _ _ _ _
 refine wp_cond_true h18 (wp_seq (wp_region ?_))
 rw[op33s]
 refine wpOps_ci (pg:=pg) (F:=[(20,.ifc 70 (.ag [.p (.i .i64 e0)])),(3,.ptr 2 0),(4,.ptr 4 0),(5,.ifc 70 (.ag [.p (.i .i64 e0)])),(18,.p (.b true))]) (G1:=hg rows C (net2 rows' C') shp0 (ti t) [.p (.i .i64 0)] (rdc rows' C' t d F' D') []) hC hE op33a op33m (by simp[evCI,r31c0,gOK,evOp,opd,lk,put,one]) hp4 (fun m5 μ5 a5 w5 hp5=>?_)
 obtain ⟨z,hz,hzr⟩:=R.ifc_inv' (hp5.env.val 20 _ rfl)
 have hta:=run_ta a5 z w5 hz
 refine wpOps_val op33b rfl hta ?_
 have hq5:Pt 30 E (hg rows C (net2 rows' C') shp0 (ti t) [.p (.i .i64 0)] (rdc rows' C' t d F' D') []) ((21,.tup [.ag [.p (.i .i64 e0)],.p (.b true)])::[(20,.ifc 70 (.ag [.p (.i .i64 e0)])),(3,.ptr 2 0),(4,.ptr 4 0),(5,.ifc 70 (.ag [.p (.i .i64 e0)])),(18,.p (.b true))]) (a5.put (some 21) (.tuple #[z,.bool true])) w5 m5 μ5 :=
  ⟨hp5.inv,hp5.env.put (d:=some 21) rfl (.tupOf (cs:=#[z,.bool true]) (.cons hzr (.cons (.p _ _ (.b true)) .nil))),by rw[Act.put_dfr];exact hp5.dfr,hp5.tot,hp5.ext,hp5.fr⟩
 refine ops_sound (pg:=pg) hC hE al33 ev31c hq5 (fun a6 w6 m6 μ6 hp6=>?_)
 show Code.wp _ _ _ _ _
 refine code_sound (E:=E) hm hR hC hE hL htot hdom _ r31d ok31d ev31d hp6 (fun a7 w7 m7 μ7 hp7=>?_)
 refine ⟨hp7.dfr,.panicking [{ v:=val,recovered:=true }],rfl,.tuple #[],?_,⟨_,rfl⟩,rfl,m7,μ7,hp7.inv,⟨hp7.ext,hp7.fr,⟨fun id hid _=>hp7.tot id hid,fun id hid hn=>?_⟩⟩⟩
 ·exact results_run (fn:=Tryz.f31) (vals:=[]) (by rw[show Tryz.f31.results=#[] from Tryz.results31];rfl)
 ·obtain ⟨l,hl⟩:=htot id hid
  rw[hl]at hn;cases hn
def shOut (rows:List (List PV))(C:Int)(sh:List AV)(t:List Int)(e:Int):Out:=.ret (.tup [.ag (net2 rows C),.ag sh,.ag (ti t),.p (.i .i64 e)])
theorem ti_flat:∀ t:List Int,flatAL (ti t)=true
 |[]=>rfl
 |a::r=>by
  have:=ti_flat r
  simpa [ti,flatAL,flatA] using this
theorem fin11 {m0 m:Mem}{μ0 μ:Mu}{w0 w:World}{E:Ent}{env:Env}{a:Act}{m1:Mem}{μ1:Mu}{w1:World}{G1:Heap}(hp:Pt 30 E G1 env a w1 m1 μ1)(h0:Ext m0 μ0 [] m1 μ1 G1)(f0:Fr m0 μ0 w0 m1 μ1 w1)(hμ0:μ0=fun _=>none)
  (hn6:lk env 6=some (.ptr 1 0)) (hn7:lk env 7=some (.ptr 2 0)) (hn8:lk env 8=some (.ptr 3 0)) (hn9:lk env 9=some (.ptr 4 0))
  {rows rows':List (List PV)} {C C' e:Int} {sh c5:List AV} {t:List Int} {tl:Heap} (ht:t.length=9) (hsh:sh.length=4∧belowL 0 sh=true) (hS:Stp m1 μ1 G1 w1 m μ (hg rows C (net2 rows' C') sh (ti t) [.p (.i .i64 e)] c5 tl) w) (hI:Inv m μ (hg rows C (net2 rows' C') sh (ti t) [.p (.i .i64 e)] c5 tl) w) :
  ∃ v,(results Tryz.f11 a.tmps).run Tryz.prog w=.ok v w∧∃ m' μ',Inv m' μ' [] w∧Stp m0 μ0 [] w0 m' μ' [] w∧OutR m' μ' (inf []) (shOut rows' C' sh t e) (.returned v):=by
 have hp':Pt 30 ⟨m,μ,hg rows C (net2 rows' C') sh (ti t) [.p (.i .i64 e)] c5 tl,w,a.defers⟩ (hg rows C (net2 rows' C') sh (ti t) [.p (.i .i64 e)] c5 tl) env a w m μ :=
  ⟨hI,hp.env.mono hS.ext,rfl,hS.total hp.tot,.refl _ _ _,.refl _ _ _⟩
 have htl:(ti t).length=9:=by simp[ti,ht]
 have hev:evRes env (hg rows C (net2 rows' C') sh (ti t) [.p (.i .i64 e)] c5 tl) [.cell 6 2 true,.cell 7 4 true,.cell 8 9 true,.cell 9 1 false]=some [.ag (net2 rows' C'),.ag sh,.ag (ti t),.p (.i .i64 e)]:=by
  obtain ⟨s0,s1,s2,s3,rfl⟩:∃ s0 s1 s2 s3,sh=[s0,s1,s2,s3]:=by
   match sh,hsh.1 with
   |[s0,s1,s2,s3],_=>exact ⟨s0,s1,s2,s3,rfl⟩
  obtain ⟨t0,t1,t2,t3,t4,t5,t6,t7,t8,rfl⟩:∃ t0 t1 t2 t3 t4 t5 t6 t7 t8,t=[t0,t1,t2,t3,t4,t5,t6,t7,t8]:=by
   match t,ht with
   |[t0,t1,t2,t3,t4,t5,t6,t7,t8],_=>exact ⟨t0,t1,t2,t3,t4,t5,t6,t7,t8,rfl⟩
  simp[evRes,hn6,hn7,hn8,hn9,evLoad,hg,net2,ti]
 obtain ⟨vals,k1,k2⟩:=res_sound hp' Tryz.f11.results.toList res11 hev
 refine ⟨wholeV vals,results_run k1,?_⟩
 have hw:=whole_R k2
 have hbel:(shOut rows' C' sh t e).below 0=true:=by
  have h1:belowL 0 sh=true:=hsh.2
  have h2:belowL 0 (ti t)=true:=flatAL_below 0 (ti_flat t)
  simp[shOut,Out.below,below,belowL,net2,h1,h2]
 obtain ⟨μ3,j1,j2,j3⟩:=leave_sound (out:=shOut rows' C' sh t e) (out':=shOut rows' C' sh t e) (G':=[]) hI (h0.trans hS.ext) (f0.trans hS.fr) (fun id hid=>by simp at hid) (fun id l hl=>by rw[hμ0]at hl;cases hl) (by unfold leave;rw[show ([]:Heap).length=0 from rfl,hbel];simp) (e:=.returned (wholeV vals)) hw
 exact ⟨m,μ3,j1,j2,j3⟩
theorem shape_calls (hok:PrgOK Tryz.prog pg){n:Nat}{rows rows':List (List PV)}{C C' F F' d:Int}{D D':Bool}{t:List Int}(ht:t.length=9){o res:Out}
  (hs:evCall pg n 32 [.ptr 0 0,.ag [.p (.i .i64 0),.p (.i .i64 0)]] [.box (rdc rows C z9i 0 F D)]=some (o,[.box (rdc rows' C' t d F' D')]))
  (ho:(∃ k nn s l,o=.ret (.ag (shv k nn s l))∧res=shOut rows' C' (shv k nn s l) t 0)∨∃ e,o=.pan (.ifc 70 (.ag [.p (.i .i64 e)]))∧res=shOut rows' C' shp0 t e)
  {m:Mem} {w:World} {vargs:List Value} (hI:Inv m (fun _=>none) [] w) (hr:RL m (fun _=>none) (inf []) vargs [.ag [.p (.sl rows),.p (.i .i64 C)],.p (.b D),.p (.i .i64 F)]) :
  Calls Tryz.prog 11 vargs.toArray w fun e w'=>∃ m' μ',Inv m' μ' [] w'∧Stp m (fun _=>none) [] w m' μ' [] w'∧OutR m' μ' (inf []) res e:=by
 have hflat:∀ rows C t d F D,flatAL (rdc rows C t d F D)=true:=by
  intro rows C t d F D
  unfold rdc
  simp only[List.cons_append,flatAL,flatA,Bool.true_and,flatAL_app,Bool.and_true]
  induction t with
  |nil=>rfl
  |cons a r ih=>simpa [flatAL,flatA] using ih
 obtain ⟨hC,hE,hR,hL,hRL⟩:=sound_all hok n
 have hm:=hok.mixed
 have hob:o.below 0=true:=by
  rcases ho with ⟨k,nn,s,l,rfl,_⟩|⟨e,rfl,_⟩<;>rfl
 have hShp:Shp (pg:=pg) (evCall pg n) rows C F D o rows' C' t d F' D' :=
  at_box (pg:=pg) (k:=5) (G:=h11 rows C (rdc rows C z9i 0 F D)) hs rfl rfl (hflat _ _ _ _ _ _) (hflat _ _ _ _ _ _) hob
 refine calls_of_wp_defers Tryz.func11 b11 ?_
 have hp:=a31_pt hI (fun id hid=>by simp at hid) hr (by simp)
 let E:Ent:=⟨m,fun _=>none,[],w,[]⟩
 have ht0:∀ id,id<E.G.length→∃ l,E.μ id=some l:=fun id hid=>by simp[E]at hid
 have hd0:∀ id l,E.μ id=some l→id<E.G.length:=fun id l hl=>by cases hl
 refine wp_seq ?_
 refine code_sound (E:=E) hm hR hC hE hL ht0 hd0 _ r11a ok11a ev11a hp (fun a1 w1 m1 μ1 hp1=>?_)
 show Code.wp _ _ _ _ _
 refine wp_seq ?_
 refine code_sound (E:=E) hm hR hC hE hL ht0 hd0 _ r11b ok11b ev11b hp1 (fun a2 w2 m2 μ2 hp2=>?_)
 show Code.wp _ _ _ _ _
 refine wp_seq (wp_region ?_)
 rw[op11s]
 refine wpOps_ci (pg:=pg) (F:=(17,.fn 31 [] [.ptr 6 0,.ptr 1 0,.ptr 3 0,.ptr 2 0,.ptr 4 0])::env11 F D) (G1:=h11 rows C (rdc rows C z9i 0 F D)) hC hE op11a op11m (by simp[evCI,r11m,gOK,evOp,opds,opd,lk,put,one,env11]) hp2 (fun m3 μ3 a3 w3 hp3=>?_)
 obtain ⟨x,y,hxy,hx,hy⟩:=R.fnInv (hp3.env.val 17 _ rfl)
 have hx0:x=#[]:=by
  have:=hx.inv_nil
  exact Array.toList_eq_nil_iff.1 this
 subst hx0
 have h17:a3.tmps[17]?.getD undef=.func (.func 31) #[] y:=by simpa [Array.getD_eq_getD_getElem?] using hxy
 have hdef:(execOp a3.eval o11b).run Tryz.prog w3=.ok (.defer { target:=.fn (.func 31) y,args:=#[] }) w3:=by
  simp[execOp,o11b,h17,go_sem]
 rw[wpOps_cons]
 unfold wpOp
 rw[op11b]
 dsimp only
 rw[if_pos (show Region.wanted o11b (yielded _ a3.tmps)=true from rfl)]
 refine .inl ?_
 unfold Oper.wp
 rw[hdef,Oper.upon_defer]
 show Code.wp _ _ _ _ _
 let E1:Ent:=⟨m3,μ3,h11 rows C (rdc rows C z9i 0 F D),w3,[{ target:=.fn (.func 31) y,args:=#[] }]⟩
 have hp4:Pt 30 E1 (h11 rows C (rdc rows C z9i 0 F D)) ((17,.fn 31 [] [.ptr 6 0,.ptr 1 0,.ptr 3 0,.ptr 2 0,.ptr 4 0])::env11 F D) ({ a3 with defers:={ target:=.fn (.func 31) y,args:=#[] }::a3.defers }.put o11b.dst undef) w3 m3 μ3 :=
  ⟨hp3.inv,⟨hp3.env.size,hp3.env.val⟩,by show _::a3.defers=_;rw[hp3.dfr],hp3.tot,.refl _ _ _,.refl _ _ _⟩
 have hinv:∀ w5,(invoke (.fn (.func 31) y) #[]).run Tryz.prog w5=.ok (.enter 31 y.toList.toArray) w5:=fun w5=>by
  simp[invoke,Tryz.call31,go_sem]
 have hdom1:∀ id l,E1.μ id=some l→id<E1.G.length:=fun id l hl=>hp3.inv.dom id l hl
 rcases ho with ⟨k,nn,s,l,rfl,rfl⟩|⟨e,rfl,rfl⟩
 ·refine code_sound (E:=E1) hm hR hC hE hL hp3.tot hdom1 _ r11c ok11c (ev11c ht hShp) hp4 (fun a5 w5 m5 μ5 hp5=>?_)
  show Leaves _ _ _ _ _ _ _
  rw[hp5.dfr]
  refine leaves_cons (by simp) (hinv w5) ?_
  refine (d31n hok (n:=n) (rows:=rows) (C:=C) (x1:=.p (.sl rows')) (x2:=.p (.i .i64 C')) (a2:=shv k nn s l) (a3:=ti t) (a4:=[.p (.i .i64 0)]) (d:=d) (F':=F') (D':=D') (tl:=[.box (shv k nn s l)]) ht (by simp[ti,ht]) ⟨rfl,rfl⟩ (by simp[ti,AV.flat,PV.flat]) hp5.inv hp5.tot (hy.mono hp5.ext)).mono ?_
  rintro e u' w' ⟨⟨v,rfl⟩,rfl,m6,μ6,hI6,hS6⟩
  exact fin11 hp5 (hp3.ext.trans hp5.ext) (hp3.fr.trans hp5.fr) rfl rfl rfl rfl rfl ht ⟨rfl,rfl⟩ hS6 hI6
 ·refine code_sound (E:=E1) hm hR hC hE hL hp3.tot hdom1 _ r11c ok11c (ev11p hShp) hp4 (fun a5 w5 m5 μ5 hp5 val hval=>?_)
  show Leaves _ _ _ _ _ _ _
  rw[hp5.dfr]
  refine leaves_cons (by simp) (hinv w5) ?_
  refine (d31p hok (n:=n) (rows:=rows) (C:=C) (x1:=.nils) (x2:=.p (.i .i64 0)) (a3:=z9) (d:=d) (F':=F') (D':=D') (e0:=e) ht rfl ⟨rfl,rfl⟩ rfl hp5.inv hp5.tot (hy.mono hp5.ext) hval).mono ?_
  rintro e' u' w' ⟨⟨v,rfl⟩,rfl,m6,μ6,hI6,hS6⟩
  exact fin11 hp5 (hp3.ext.trans hp5.ext) (hp3.fr.trans hp5.fr) rfl rfl rfl rfl rfl ht ⟨rfl,rfl⟩ hS6 hI6
end Go.Proofs.Z
end
section
namespace Go.Proofs.Z
open Go Go.Proofs
theorem mixed:Tryz.prog.follows .mixedOrders=true:=by kernel_rfl
theorem cl193:ClFn Tryz.prog 193 57 2 24 [.s [],.i .i64 0] :=
 ⟨⟨Tryz.f193,_,Tryz.func193,by kernel_rfl,by kernel_rfl,by kernel_rfl,Tryz.underlying57,by kernel_rfl⟩,by kernel_rfl,by kernel_rfl,by omega⟩
theorem cl196:ClFn Tryz.prog 196 58 2 16 [.i .i64 0,.i .i64 0] :=
 ⟨⟨Tryz.f196,_,Tryz.func196,by kernel_rfl,by kernel_rfl,by kernel_rfl,Tryz.underlying58,by kernel_rfl⟩,by kernel_rfl,by kernel_rfl,by omega⟩
theorem cl197:ClFn Tryz.prog 197 22 6 88 [.i .i64 0,.i .i64 0,.i .i64 0,.s [],.sl [],.sl []] :=
 ⟨⟨Tryz.f197,_,Tryz.func197,by kernel_rfl,by kernel_rfl,by kernel_rfl,Tryz.underlying22,by kernel_rfl⟩,by kernel_rfl,by kernel_rfl,by omega⟩
theorem ClFn.entered {P:Program}{f t sz bytes:Nat}{zero:List PV}(h:ClFn P f t sz bytes zero):Entered P f:=by
 obtain ⟨fn,e,e1,e2,e3,e4,e5,e6⟩:=h.fn
 exact ⟨fn,e1,e6,by rw[e2];rfl⟩
theorem cloneO_calls {P:Program}(hm:P.follows .mixedOrders=true){f t sz bytes:Nat}{zero:List PV}(hc:ClFn P f t sz bytes zero){args:List AV}{out:Out}{G':Heap}(h:cloneO sz bytes args=some (out,G')){m:Mem}{w:World}{vargs:List Value}
  (hI:Inv m (fun _=>none) [] w) (hr:RL m (fun _=>none) (inf []) vargs args):Calls P f vargs.toArray w fun e w'=>∃ m' μ',Inv m' μ' G' w'∧Stp m (fun _=>none) [] w m' μ' G' w'∧OutR m' μ' (inf G') out e:=by
 unfold cloneO at h
 split at h
 ·exact clone_ok hm hc (k:=false) (rows:=[]) rfl (by simp[roomy]) (fun e=>by cases e) (by simpa using h) hI hr
 ·rename_i rows hne
  split at h
  ·rename_i hb
   simp only[Bool.and_eq_true]at hb
   exact clone_ok hm hc (k:=true) hb.1 hb.2 (fun _ e=>by subst e;exact hne rfl) (by simpa using h) hI hr
  ·cases h
 ·cases h
theorem pg0_ok:PrgOK Tryz.prog pg0:=by
 refine ⟨mixed,fun f c _ h=>tbl_all.mem f c (mkPrg_code h),?_,?_⟩
 ·intro f F args out G' h1 h2 h3
  have hf:f=193:=by
   simp only[pg0,mkPrg,List.contains_cons,List.contains_nil,Bool.or_false,beq_iff_eq]at h2
   exact h2
  subst hf
  have hF:F=cloneP:=by
   have:=pg0_std.o193
   rw[h1]at this
   exact Option.some.inj this
  subst hF
  unfold cloneP at h3
  split at h3
  ·split at h3
   ·cases h3;exact ⟨rfl,rfl⟩
   ·cases h3
  ·cases h3
 ·intro f F h
  have:=mkPrg_orc h
  simp only[List.mem_cons,Prod.mk.injEq,List.not_mem_nil,or_false]at this
  rcases this with ⟨rfl,rfl⟩|⟨rfl,rfl⟩|⟨rfl,rfl⟩
  ·refine ⟨cl193.entered,fun args out G' h m w vargs hI hr=>?_⟩
   unfold cloneP at h
   split at h
   ·split at h
    ·rename_i hb
     simp only[Bool.and_eq_true]at hb
     exact clone_ok mixed cl193 (k:=false) hb.1 hb.2 (fun e=>by cases e) (by simpa using h) hI hr
    ·cases h
   ·cases h
  ·exact ⟨cl196.entered,fun args out G' h m w vargs hI hr=>cloneO_calls mixed cl196 h hI hr⟩
  ·exact ⟨cl197.entered,fun args out G' h m w vargs hI hr=>cloneO_calls mixed cl197 h hI hr⟩
end Go.Proofs.Z
end
section
namespace Go.Proofs.Z
open Go Go.Proofs
attribute [local simp] k_nil k_ops k_opsg kG_true kG_false kO_val kO_pan k_seq kS_n kS_r kS_e kS_p k_o kR_n kR_p kD2_n kD1_n k_d k_c kC_t kC_f k_b kB_n kB_r kB_p kB_e k_skip k_ret k_exit k_l kL_s kLp_n kLp_r kLp_e kLp_p k_f kF_n kF_r kF_p kV_f kV_t kN_s evOp evBin gOK opd opds lk put restr iEv evRes whole norm normL one Out.below below belowL bOb evStore evLoad evLen AV.cells AV.flat PV.flat splice fillAt pcs isStr rowsOf Res.of evCmp lvE leafEq asInt noIdAt noId noIdL tids chkOK
variable {pg:Prg}{G:Heap}
def ShapeRes (args:List AV)(r:Out):Prop:=∃ rows C D F o rows' C' t d F' D',args=[.ag [.p (.sl rows),.p (.i .i64 C)],.p (.b D),.p (.i .i64 F)]∧t.length=9 ∧
 E pg0 32 [.ptr 0 0,.ag [.p (.i .i64 0),.p (.i .i64 0)]] [.box (rdc rows C z9i 0 F D)]=some (o,[.box (rdc rows' C' t d F' D')]) ∧
 ((∃ k nn s l,o=.ret (.ag (shv k nn s l))∧r=shOut rows' C' (shv k nn s l) t 0)∨∃ e,o=.pan (.ifc 70 (.ag [.p (.i .i64 e)]))∧r=shOut rows' C' shp0 t e)
open Classical in
noncomputable def shapeO (args:List AV):Option (Out×Heap):=if h:∃ r,ShapeRes args r then some (Classical.choose h,[]) else none
theorem rdc_inj {rows rows':List (List PV)}{C C':Int}{t t':List Int}{d d' F F':Int}{D D':Bool}(ht:t.length=9)(ht':t'.length=9)(h:rdc rows C t d F D=rdc rows' C' t' d' F' D'):rows=rows'∧C=C'∧t=t':=by
 simp only[rdc,List.cons_append,List.cons.injEq,AV.p.injEq,PV.sl.injEq,PV.i.injEq,true_and]at h
 obtain ⟨h1,h2,h3⟩:=h
 have:=List.append_inj_left h3 (by simp[ht,ht'])
 refine ⟨h1,h2,?_⟩
 have hinj:Function.Injective (fun i:Int=>AV.p (.i .i64 i)):=fun a b e=>by simpa using e
 exact (List.map_inj_right (fun a b e=>hinj e)).1 this
theorem ShapeRes.uniq {args:List AV}{r r':Out}(h:ShapeRes args r)(h':ShapeRes args r'):r=r':=by
 obtain ⟨rows,C,D,F,o,rows1,C1,t,d,F1,D1,rfl,ht,he,hr⟩:=h
 obtain ⟨rows',C',D',F',o',rows1',C1',t',d',F1',D1',e,ht',he',hr'⟩:=h'
 simp only[List.cons.injEq,AV.ag.injEq,AV.p.injEq,PV.sl.injEq,PV.i.injEq,PV.b.injEq,true_and,and_true]at e
 obtain ⟨⟨rfl,rfl⟩,rfl,rfl⟩:=e
 rw[he]at he'
 simp only[Option.some.injEq,Prod.mk.injEq,List.cons.injEq,AObj.box.injEq,and_true]at he'
 obtain ⟨rfl,hb⟩:=he'
 obtain ⟨rfl,rfl,rfl⟩:=rdc_inj ht ht' hb
 rcases hr with ⟨k,nn,s,l,rfl,rfl⟩|⟨x,rfl,rfl⟩
 ·rcases hr' with ⟨k',nn',s',l',e,rfl⟩|⟨x',e,rfl⟩
  ·simp only[Out.ret.injEq,AV.ag.injEq]at e
   rw[e]
  ·cases e
 ·rcases hr' with ⟨k',nn',s',l',e,rfl⟩|⟨x',e,rfl⟩
  ·cases e
  ·simp only[Out.pan.injEq,AV.ifc.injEq,AV.ag.injEq,List.cons.injEq,AV.p.injEq,PV.i.injEq,true_and,and_true]at e
   rw[e]
theorem shapeO_of {args:List AV}{r:Out}(h:ShapeRes args r):shapeO args=some (r,[]):=by
 have hx:∃ r,ShapeRes args r:=⟨r,h⟩
 unfold shapeO
 rw[dif_pos hx]
 rw[(Classical.choose_spec hx).uniq h]
noncomputable def pgF:Prg:=⟨pg0.code,fun f=>if f=11 then some shapeO else pg0.orc f,pg0.quiet⟩
theorem pgF_std:Std pgF :=
 ⟨rfl,fun f h1 h2 h3 h4=>by simp only[pgF,if_neg h4];exact pg0_std.orc f h1 h2 h3 h4,pg0_std.o193,pg0_std.o196,pg0_std.o197,rfl⟩
theorem entered11:Entered Tryz.prog 11:=⟨Tryz.f11,Tryz.func11,by kernel_rfl,by kernel_rfl⟩
theorem pg0_mem {f:Nat}{c:CFun}(h:pg0.code f=some c):(f,c)∈tbl:=mkPrg_code h
theorem pgF_ok:PrgOK Tryz.prog pgF:=by
 refine ⟨mixed,fun f c ho h=>tbl_all.mem f c (pg0_mem h),fun f F args out G' h1 h2 h3=>?_,fun f F h=>?_⟩
 ·simp only[pgF]at h1
  split at h1
  ·rename_i e
   subst e
   have:pg0.quiet 11=false:=by rfl
   have h2':pg0.quiet 11=true:=h2
   rw[this]at h2';cases h2'
  ·exact pg0_ok.quiet f F args out G' h1 h2 h3
 ·simp only[pgF]at h
  split at h
  ·rename_i e
   subst e
   cases h
   refine ⟨entered11,fun args out G' h m w vargs hI hr=>?_⟩
   unfold shapeO at h
   split at h
   ·rename_i hx
    cases h
    obtain ⟨rows,C,D,F,o,rows1,C1,t,d,F1,D1,e,ht,he,ho⟩:=Classical.choose_spec hx
    generalize Classical.choose hx=r at *
    subst e
    obtain ⟨n,hn⟩:=E_iff.1 he
    exact shape_calls pg0_ok ht hn ho hI hr
   ·cases h
  ·exact pg0_ok.orc f F h
def rdOut11 (r:RS×Nat×Shape):Out:=.ret (.tup [.ag [.p (.sl (r.1.net.nodes.map Node.enc)),.p (.i .i64 r.1.net.cap)],if r.2.1=0 then .ag (pcs r.2.2.enc) else .ag shp0,.ag (tallyAV r.1.T),.p (.i .i64 r.2.1)])
theorem t11 {n:Net}(ho:n.Ok)(D:Bool){F:Nat}(hF:F≤100000):eCA pgF (E pgF) 11 [.ag [.p (.sl (n.nodes.map Node.enc)),.p (.i .i64 n.cap)],.p (.b D),.p (.i .i64 F)] G=some (rdOut11 (readN n D F),G):=by
 obtain ⟨h1,h2,_⟩:=readN_ok pg0_std ho D F
 have h3:=s32 pg0_std hF 4001 (rs0 n) ⟨0,0⟩ h1
 have hT:(readN n D F).1.T.length=9:=h2.ok.2.1
 have hs:ShapeRes [.ag [.p (.sl (n.nodes.map Node.enc)),.p (.i .i64 n.cap)],.p (.b D),.p (.i .i64 F)] (rdOut11 (readN n D F)):=by
  have hc:∀ (m:Net) (T:List Nat) (d:Nat),rdr m T d F D=rdc (m.nodes.map Node.enc) m.cap (T.map fun (k:Nat)=>(k:Int)) d F D:=by
   intro m T d
   simp only[rdr,rdc,tallyAV,List.map_map,List.cons_append]
   rfl
  refine ⟨_,_,_,_,(rdEnd (readN n D F) F D).1,(readN n D F).1.net.nodes.map Node.enc,(readN n D F).1.net.cap,(readN n D F).1.T.map fun (k:Nat)=>(k:Int),(readN n D F).1.d,F,D,rfl,by simp[hT],?_,?_⟩
  ·have e:rdc (n.nodes.map Node.enc) n.cap z9i 0 F D=(rs0 n).cells F D:=by
    simp only[RS.cells,rs0]
    rw[hc]
    rfl
   rw[e,← hc]
   exact h3
  ·have et:ti ((readN n D F).1.T.map fun (k:Nat)=>(k:Int))=tallyAV (readN n D F).1.T:=by
    simp only[ti,tallyAV,List.map_map]
    rfl
   show (_∨_)
   by_cases e0:(readN n D F).2.1=0
   ·left
    obtain ⟨k,nn,s,l,hsh⟩:∃ k nn s l,(readN n D F).2.2=Shape.mk k nn s l:=by cases (readN n D F).2.2;exact ⟨_,_,_,_,rfl⟩
    refine ⟨k,nn,s,Shape.encL l,?_,?_⟩
    ·show (if (readN n D F).2.1=0 then _ else _)=_
     rw[if_pos e0,show (readN n D F).2.2.enc=(Shape.mk k nn s l).enc by rw[hsh]]
     rfl
    ·unfold rdOut11 shOut
     rw[if_pos e0,e0,hsh,et]
     rfl
   ·right
    refine ⟨(readN n D F).2.1,?_,?_⟩
    ·show (if (readN n D F).2.1=0 then _ else _)=_
     rw[if_neg e0]
    ·unfold rdOut11 shOut
     rw[if_neg e0,et]
     rfl
 have hE:E pgF 11 [.ag [.p (.sl (n.nodes.map Node.enc)),.p (.i .i64 n.cap)],.p (.b D),.p (.i .i64 F)] []=some (rdOut11 (readN n D F),[]):=by
  refine E_iff.2 ⟨1,?_⟩
  simp only[evCall]
  rw[show pgF.orc 11=some shapeO by simp[pgF]]
  exact shapeO_of hs
 refine at_pure hE rfl ?_
 unfold rdOut11
 simp only[Out.below,below,belowL,Bool.and_true,Bool.true_and]
 have a:=flatAL_below 0 (tally_flat (readN n D F).1.T)
 have b:below 0 (if (readN n D F).2.1=0 then AV.ag (pcs (readN n D F).2.2.enc) else .ag shp0)=true:=by
  split
  ·simp only[below];exact flatAL_below 0 (flatAL_pcs _)
  ·rfl
 rw[a,b]
 rfl
end Go.Proofs.Z
end
section
namespace Go.Proofs.Z
open Go Go.Proofs
attribute [local simp] k_nil k_ops k_opsg kG_true kG_false kO_val kO_pan k_seq kS_n kS_r kS_e kS_p k_o kR_n kR_p kD2_n kD1_n k_d k_c kC_t kC_f k_b kB_n kB_r kB_p kB_e k_skip k_ret k_exit k_l kL_s kLp_n kLp_r kLp_e kLp_p k_f kF_n kF_r kF_p kV_f kV_t kN_s evOp evBin gOK opd opds lk put restr iEv evRes whole norm normL one Out.below below belowL bOb evStore evLoad evLen AV.cells AV.flat PV.flat splice fillAt pcs isStr rowsOf Res.of evCmp lvE leafEq asInt noIdAt noId noIdL tids chkOK
variable {pg:Prg}{G:Heap}
theorem tmL_length:∀ l:List Shape,(Shape.tmL l).length=l.length
 |[]=>rfl
 |a::r=>by simp[Shape.tmL,tmL_length r]
theorem tmL_mem:∀ {l:List Shape} {t:Tm},t∈Shape.tmL l→∃ s∈l,t=s.tm
 |[],t,h=>by simp[Shape.tmL]at h
 |a::r,t,h=>by
  simp only[Shape.tmL,List.mem_cons]at h
  rcases h with rfl|h
  ·exact ⟨a,by simp,rfl⟩
  ·obtain ⟨s,hs,e⟩:=tmL_mem h
   exact ⟨s,by simp[hs],e⟩
theorem parts_fit {D:Bool}{rd:RS→Port→RS×Nat×Shape}{i:Nat}{ok:RS→Port→Prop}(hrd:∀ s p,ok s p→(rd s p).2.2.tm.Fit):∀ (c k:Nat) (s:RS),PartsOK D ok rd i c k s→(∀ t∈(pRn D rd i c k s).2.2,t.tm.Fit)∧(pRn D rd i c k s).2.2.length≤c
 |0,k,s,h=>by simp[pRn]
 |c+1,k,s,h=>by
  cases D with
  |false =>
   simp only[pRn]
   have:=parts_fit (D:=false) (i:=i) (ok:=ok) hrd c (k+1) s (by cases c<;>trivial)
   refine ⟨fun t ht=>?_,by simp only[List.length_cons];omega⟩
   rcases List.mem_cons.1 ht with rfl|ht
   ·exact .mk (by simp[Shape.tmL]) (by simp[Shape.tmL])
   ·exact this.1 t ht
  |true =>
   obtain ⟨h1,h2⟩:=h
   simp only[pRn]
   split
   ·simp
   ·rename_i e
    have e:(rd s ⟨i,k⟩).2.1=0:=by simpa using e
    have:=parts_fit (D:=true) hrd c (k+1) _ (h2 e)
    refine ⟨fun t ht=>?_,by simp only[List.length_cons];omega⟩
    rcases List.mem_cons.1 ht with rfl|ht
    ·exact hrd _ _ h1
    ·exact this.1 t ht
theorem fit0 (k n:Int)(s:List UInt8):(Tm.mk k n s []).Fit:=.mk (by simp) (by simp)
theorem shape_fit {step:StepF}{F:Nat}{D:Bool}:∀ (f:Nat) (s:RS) (p:Port),ShapeOK pg step F D f s p→(sRn step F D f s p).2.2.tm.Fit
 |0,s,p,h=>h.elim
 |f+1,s,p,h=>by
  obtain ⟨h1,h2,h3⟩:=h
  simp only[sRn]
  split
  ·exact fit0 _ _ _
  ·rename_i e
   have e:(hRn step (F-s.d) s.net p).2.2.2=0:=by simpa using e
   obtain ⟨x,hx,hxl,h8⟩:=h3 e
   have hx':(afterHead (hRn step (F-s.d) s.net p) s).net.nodes[(hRn step (F-s.d) s.net p).2.2.1]?=some x:=hx
   unfold shapeOf
   rw[hx']
   dsimp only
   split
   ·exact fit0 _ _ _
   ·split
    ·exact fit0 _ _ _
    ·split
     ·exact fit0 _ _ _
     ·split
      ·rename_i hk
       have:=parts_fit (rd:=sRn step F D f) (fun s p hp=>shape_fit f s p hp) _ _ _ (h8 hk).2
       split
       ·exact fit0 _ _ _
       ·refine .mk (by rw[tmL_length];omega) (fun t ht=>?_)
        obtain ⟨u,hu,rfl⟩:=tmL_mem ht
        exact this.1 u hu
      ·exact fit0 _ _ _
theorem readN_fit {n:Net}(ho:n.Ok)(D:Bool)(F:Nat):(readN n D F).2.2.tm.Fit:=shape_fit _ _ _ (readN_ok pg0_std ho D F).1
theorem Net.Ok.bounds {n:Net}(ho:n.Ok):n.nodes.length<2 ^ 60∧∀ x∈n.nodes,x.to.length<2 ^ 60∧x.alts.length<2 ^ 60:=by
 refine ⟨by have:=ho.len;have:=ho.cap;omega,fun x hx=>?_⟩
 obtain ⟨i,hi,rfl⟩:=List.getElem_of_mem hx
 have h1:=ho.node i _ (gG hi)
 have h2:=Node.ports_le h1.1 h1.2.1
 have h3:=Node.alts_len h1.1
 omega
theorem guard_net {l:List RNode}{C:Int}(h1:rsmall l 120=true)(h2:rcheck l C=true):∃ n:Net,n.Ok∧l.map RNode.enc=n.nodes.map Node.enc∧C=n.cap:=by
 obtain ⟨n,h3,h4,h5⟩:=rcheck_net h2
 exact ⟨n,h3,by rw[← h4,raw_nodes],h5.symm⟩
structure RawFit (l:List RNode):Prop where
 len:l.length<2 ^ 60
 node:∀ x∈l,x.to.length<2 ^ 60∧x.alts.length<2 ^ 60
theorem RawFit.of {l:List RNode}(h:rsmall l 120=true):RawFit l:=by
 simp only[rsmall,Bool.and_eq_true,List.all_eq_true,decide_eq_true_eq]at h
 exact ⟨by omega,fun x hx=>by have:=h.1 x hx;omega⟩
theorem Shape.pcs_enc (s:Shape):∃ k n nm l,s.enc=[iv k,iv n,.s nm,.sl l]:=by cases s;exact ⟨_,_,_,_,rfl⟩
end Go.Proofs.Z
end
section
namespace Go.Proofs.Z
open Go
def mW (W:World):Mem:=fun b o=>W.cell? ⟨b,o,none⟩
def Cw (m:Mem)(cs:List Value)(ps:List PV):Prop:=cs.length=ps.length∧∀ (j:Nat) (v:Value) (c:PV),cs[j]?=some v→ps[j]?=some c→RP m v c
theorem Cw.nil {m:Mem}:Cw m [] []:=⟨rfl,fun j v c h=>by simp at h⟩
theorem Cw.cons {m:Mem}{v:Value}{c:PV}{cs:List Value}{ps:List PV}(h:RP m v c)(k:Cw m cs ps):Cw m (v::cs) (c::ps):=by
 refine ⟨by simp[k.1],fun j v' c' h1 h2=>?_⟩
 cases j with
 |zero=>simp at h1 h2;subst h1 h2;exact h
 |succ j=>simp at h1 h2;exact k.2 j v' c' h1 h2
section
variable {H:Type}{enc:TypeId×Value→H}{P:Program}{W:World}{base:Nat}{spare:Nat→Bool}{held:Bool}
theorem open_rows {α:Type}{t e:TypeId}{fuel:Nat}{cs:List Value}{x:DataW H×List MemPlace}{sz:Nat}(f:α→List PV)(Q:α→Prop)(ht:P.underlying t=some (.slice e))(hsz:P.cellsOf e=sz)(h0:0<sz)
  (hf:∀ r,okRow sz (f r)=true) (h:DataW.trod enc P W base spare held fuel t cs=some x)
  (hE:∀ n cs' y,fuel=n+1→DataW.trod enc P W base spare held n e cs'=some y→cs'.length=sz→∃ r:α,Q r∧Cw (mW W) cs' (f r)) :
  ∃ a cap,∃ l:List α,cs=[.slice a l.length cap]∧RP (mW W) (.slice a l.length cap) (.sl (l.map f))∧(∀ r∈l,Q r)∧l.length≤maxLen:=by
 have hlen:∀ r,(f r).length=sz:=fun r=>by
  have:=hf r
  simp only[okRow,Bool.and_eq_true,beq_iff_eq]at this
  exact this.1
 rcases DataW.trod_slice ht h with ⟨rfl,_⟩|⟨a,len,cap,elems,rest,n,hn,rfl,_,hb,hl,hm,hel,hrow,_,_⟩
 ·refine ⟨none,0,[],rfl,?_,by simp,by simp⟩
  have:=RP.sl (m:=mW W) none 0 ([]:List (List PV)) sz (fun _ _=>.bool false) (by simp) (by simp[okRows]) (by simp) (by simp)
  simpa using this
 ·have key:∀ i:Fin len,∃ r:α,Q r∧∀ (j:Nat) (c:PV),(f r)[j]?=some c→a.spot=none∧∃ v,W.cell? ⟨a.block,a.off+i * sz+j,none⟩=some v∧RP (mW W) v c:=by
   intro i
   have hil:=i.2
   have hi:=hrow i.1 i.2
   rw[gG (by rw[hel];exact i.2),hsz]at hi
   obtain ⟨cs',h1,h2⟩:=Option.bind_eq_some_iff.1 hi
   obtain ⟨_,h4,h5⟩:=World.cells?_some h1
   obtain ⟨r,hQ,hc,hr⟩:=hE n cs' _ hn h2 h4
   have hsp:a.spot=none:=by
    have e:=h5 0 h0
    rw[gG (by omega)]at e
    have:=World.cell?_spot e
    by_cases hi0:i.1 * sz=0
    ·simpa [Addr.add,hi0] using this
    ·have:=h5 0 h0
     have e0:=hrow 0 (by omega)
     rw[gG (by omega),hsz]at e0
     obtain ⟨cs0,g1,_⟩:=Option.bind_eq_some_iff.1 e0
     obtain ⟨_,g4,g5⟩:=World.cells?_some g1
     have e:=g5 0 h0
     rw[gG (by omega)]at e
     have:=World.cell?_spot e
     simpa [Addr.add] using this
   refine ⟨r,hQ,fun j c hj=>⟨hsp,?_⟩⟩
   have hj':j<sz:=by
    have:=(gE hj).1
    rw[hlen]at this;exact this
   have e:=h5 j hj'
   rw[gG (by omega)]at e
   refine ⟨_,?_,hr j _ c (gG (by omega)) hj⟩
   rw[← e]
   congr 1
   obtain ⟨b,o,s⟩:=a
   subst hsp
   simp only[Addr.add]
   repeat' split
   all_goals (simp_all<;>omega)
  obtain ⟨F,hF⟩:=Classical.axiomOfChoice key
  refine ⟨some a,cap,List.ofFn F,by simp,?_,?_,by simp;omega⟩
  ·have hget:∀ (i:Nat) (r:List PV),((List.ofFn F).map f)[i]?=some r→∃ hi:i<len,r=f (F ⟨i,hi⟩):=by
    intro i r hr
    by_cases hi:i<len
    ·rw[List.getElem?_map,List.getElem?_ofFn,dif_pos hi]at hr
     exact ⟨hi,(Option.some.inj hr).symm⟩
    ·rw[List.getElem?_map,List.getElem?_ofFn,dif_neg hi]at hr
     cases hr
   have:=RP.sl (m:=mW W) (some a) cap ((List.ofFn F).map f) sz (fun i j=>(W.cell? ⟨a.block,a.off+i * sz+j,none⟩).getD undef) (by simp;omega)
    (by simp only[okRows,List.all_eq_true];intro r hr;obtain ⟨q,_,rfl⟩:=List.mem_map.1 hr;exact hf q)
    (fun hne=>?_) (fun i j r c h1 h2=>?_)
   ·simpa using this
   ·have hpos:0<len:=by
     cases len with
     |zero=>simp at hne
     |succ k=>omega
    have hs:a.spot=none:=by
     have hk:0<(f (F ⟨0,hpos⟩)).length:=by rw[hlen];exact h0
     exact ((hF ⟨0,hpos⟩).2 0 _ (gG hk)).1
    refine ⟨a.block,a.off,by obtain ⟨b,o,s⟩:=a;cases hs;rfl,fun i j r c h1 h2=>?_⟩
    obtain ⟨hi,rfl⟩:=hget i r h1
    obtain ⟨_,v,hv,_⟩:=(hF ⟨i,hi⟩).2 j c h2
    simp only[mW]
    rw[hv];rfl
   ·obtain ⟨hi,rfl⟩:=hget i r h1
    obtain ⟨_,v,hv,hr⟩:=(hF ⟨i,hi⟩).2 j c h2
    simp only[hv,Option.getD_some]
    exact hr
  ·intro r hr
   obtain ⟨i,rfl⟩:=List.mem_ofFn.1 hr
   exact (hF i).1
end
end Go.Proofs.Z
end
section
namespace Go.Proofs.Z
open Go Go.Proofs
attribute [local simp] k_nil k_ops k_opsg kG_true kG_false kO_val kO_pan k_seq kS_n kS_r kS_e kS_p k_o kR_n kR_p kD2_n kD1_n k_d k_c kC_t kC_f k_b kB_n kB_r kB_p kB_e k_skip k_ret k_exit k_l kL_s kLp_n kLp_r kLp_e kLp_p k_f kF_n kF_r kF_p kV_f kV_t kN_s evOp evBin gOK opd opds lk put restr iEv evRes whole norm normL one Out.below below belowL bOb evStore evLoad evLen AV.cells AV.flat PV.flat splice fillAt pcs isStr rowsOf Res.of evCmp lvE leafEq asInt noIdAt noId noIdL tids chkOK
variable {pg:Prg}{G:Heap}
theorem okZ6:okRow 6 [iv 0,iv 0,iv 0,.s [],.sl [],.sl []]=true:=rfl
theorem okZ3:okRow 3 [iv 0,iv 0,iv 0]=true:=rfl
theorem okZ2:okRow 2 [iv 0,iv 0]=true:=rfl
theorem okA2:okRow 2 [.s [],iv 0]=true:=rfl
def hCopy (n:Net)(i:Nat):Heap:=[.box [.p (.sl (n.nodes.map Node.enc)),.p (.i .i64 n.cap)],.box [.nils,.p (.i .i64 0)],.box [.arr 3 i (i-1),.p (.i .i64 n.cap)],.arr 6 ((n.nodes.take i).map Node.enc) (i-1) 0]
theorem l96 (h:Std pg){body:CCode}(hb:body=c96l0){n:Net}(hl:n.nodes.length<2 ^ 30):∀ m i,1≤i→i+m=n.nodes.length →
  L pg 0 [1,2,3,4] body [(1,.ptr 0 0),(2,.ptr 1 0),(3,.ptr 2 0),(4,.p (.i .i64 (i:Nat)))] (hCopy n i)=some (.exit 0,[(1,.ptr 0 0),(2,.ptr 1 0),(3,.ptr 2 0),(4,.p (.i .i64 n.nodes.length)),(12,.p (.b false))],hCopy n n.nodes.length)
 |0,i,h1,hi=>by
  have:i=n.nodes.length:=by omega
  subst this
  rw[k_L hb]
  simp[c96l0,leave,hCopy]
 |m+1,i,h1,hi=>by
  have hlt:i<n.nodes.length:=by omega
  have ih:=l96 h hb hl m (i+1) (by omega) (by omega)
  rw[show ((i+1:Nat):Int)=(i:Int)+1 from by omega]at ih
  have e0:=okNode n.nodes[i]
  have e2:n.nodes[i].enc.length=6:=by cases n.nodes[i];rfl
  have e3:n.nodes[i].enc.take 6=n.nodes[i].enc:=by cases n.nodes[i];rfl
  have e4:∀ G,normP G (.ag (List.map AV.p n.nodes[i].enc))=some (n.nodes[i].enc,G):=by
   intro G;cases n.nodes[i];rfl
  have e5:List.take (i+1) n.nodes=List.take i n.nodes++[n.nodes[i]]:=by rw[List.take_add_one,gG hlt];rfl
  have e6:i-1+1=i:=by omega
  have e7:roomy (i+1) 88=true:=by simp[roomy];omega
  have e8:∀ l:List (List PV),List.take i (List.take i l)=List.take i l:=fun l=>by rw[List.take_take,Nat.min_self]
  have e9:i≤n.nodes.length:=by omega
  have e10:List.take n.nodes.length (List.map Node.enc n.nodes)=List.map Node.enc n.nodes:=List.take_of_length_le (by simp)
  rw[k_L hb]
  unfold hCopy at ih ⊢
  simp only[show i+1-1=i from by omega,e5,List.map_append,List.map_take,List.map_cons,List.map_nil]at ih
  simp[c96l0,leave,hlt,e0,e2,e3,pcs,evOp.fillRows,e4,evApp,e6,e7,e8,e9,okRows,okZ6,w64 ((i:Int)+1) (by omega) (by omega),gc,gcEnv,exp,expL,eOs,Exp.id,idxOf,List.range,List.range.loop,ih,e10]
theorem l96z (h:Std pg){body:CCode}(hb:body=c96l0){n:Net}(hl:n.nodes.length<2 ^ 30)(h1:1≤n.nodes.length) :
  L pg 0 [1,2,3,4] body [(1,.ptr 0 0),(2,.ptr 1 0),(3,.ptr 2 0),(4,.p (.i .i64 0))] [.box [.p (.sl (n.nodes.map Node.enc)),.p (.i .i64 n.cap)],.box [.nils,.p (.i .i64 0)],.box [.nils,.p (.i .i64 n.cap)]]=some (.exit 0,[(1,.ptr 0 0),(2,.ptr 1 0),(3,.ptr 2 0),(4,.p (.i .i64 n.nodes.length)),(12,.p (.b false))],hCopy n n.nodes.length):=by
 have hL:=l96 h hb hl (n.nodes.length-1) 1 (by omega) (by omega)
 have hpos:(0:Int)<(n.nodes.length:Int):=by omega
 have hpos':0<n.nodes.length:=by omega
 have e0:=okNode n.nodes[0]
 have e2:n.nodes[0].enc.length=6:=by cases n.nodes[0];rfl
 have e3:n.nodes[0].enc.take 6=n.nodes[0].enc:=by cases n.nodes[0];rfl
 have e4:∀ G,normP G (.ag (List.map AV.p n.nodes[0].enc))=some (n.nodes[0].enc,G):=by
  intro G;cases n.nodes[0];rfl
 have e5:List.take 1 n.nodes=[n.nodes[0]]:=by rw[List.take_add_one,gG (by omega)];rfl
 have e7:roomy 1 88=true:=by rfl
 unfold hCopy at hL ⊢
 simp only[e5,List.map_cons,List.map_nil,show ((1:Nat):Int)=1 from rfl,Nat.sub_self]at hL
 rw[k_L hb]
 simp[c96l0,leave,hpos,hpos',e0,e2,e3,pcs,evOp.fillRows,e4,evApp,e7,okRows,okZ6,w64 1 (by omega) (by omega),gc,gcEnv,exp,expL,eOs,Exp.id,idxOf,List.range,List.range.loop,hL]
theorem s96 (h:Std pg){n:Net}(hl:n.nodes.length<2 ^ 30)(h1:1≤n.nodes.length) :
  E pg 96 [.ag [.p (.sl (n.nodes.map Node.enc)),.p (.i .i64 n.cap)]] []=some (.ret (.ag [.arr 3 n.nodes.length (n.nodes.length-1),.p (.i .i64 n.cap)]),[.box [.p (.sl (n.nodes.map Node.enc)),.p (.i .i64 n.cap)],.box [.arr 3 n.nodes.length (n.nodes.length-1),.p (.i .i64 n.cap)],.box [.arr 3 n.nodes.length (n.nodes.length-1),.p (.i .i64 n.cap)],.arr 6 (n.nodes.map Node.enc) (n.nodes.length-1) 0]):=by
 have hL:=l96z (body:=c96l0) h rfl hl h1
 rw[h.run (x:=c96) rfl (by decide) (by decide) (by decide) (by decide)]
 simp[c96,leave,gc,gcEnv,exp,expL,eOs,Exp.id,idxOf,List.range,List.range.loop]
 rw[hL]
 simp[hCopy,leave]
theorem t96 (h:Std pg){n:Net}(hl:n.nodes.length<2 ^ 30)(h1:1≤n.nodes.length) :
  eCA pg (E pg) 96 [.ag [.p (.sl (n.nodes.map Node.enc)),.p (.i .i64 n.cap)]] G=some (.ret (.ag [.arr (G.length+3) n.nodes.length (n.nodes.length-1),.p (.i .i64 n.cap)]),G++[.box [.p (.sl (n.nodes.map Node.enc)),.p (.i .i64 n.cap)],.box [.arr (G.length+3) n.nodes.length (n.nodes.length-1),.p (.i .i64 n.cap)],.box [.arr (G.length+3) n.nodes.length (n.nodes.length-1),.p (.i .i64 n.cap)],.arr 6 (n.nodes.map Node.enc) (n.nodes.length-1) 0]):=by
 rw[at_gen (s96 h hl h1) rfl]
 simp[Out.back,back,backL,backId,backObj,setAll]
theorem l95 (h:Std pg){body:CCode}(hb:body=c95l0){n:Net}(hl:n.nodes.length<2 ^ 40):∀ m i,i+m=n.nodes.length →
  L pg 0 [1,3,4] body [(1,.ptr 0 0),(3,.p (.i .i64 ((n.nodes.take i).countP fun x=>decide (x.kind≠0)))),(4,.p (.i .i64 (i:Nat)))] [.box [.p (.sl (n.nodes.map Node.enc)),.p (.i .i64 n.cap)]]=some (.exit 0,[(1,.ptr 0 0),(3,.p (.i .i64 n.used)),(4,.p (.i .i64 n.nodes.length)),(9,.p (.b false))],[.box [.p (.sl (n.nodes.map Node.enc)),.p (.i .i64 n.cap)]])
 |0,i,hi=>by
  have:i=n.nodes.length:=by omega
  subst this
  rw[k_L hb]
  simp[c95l0,leave,Net.used]
 |m+1,i,hi=>by
  have hlt:i<n.nodes.length:=by omega
  have ih:=l95 h hb hl m (i+1) (by omega)
  rw[show ((i+1:Nat):Int)=(i:Int)+1 from by omega]at ih
  have e0:=okNode n.nodes[i]
  have e5:List.take (i+1) n.nodes=List.take i n.nodes++[n.nodes[i]]:=by rw[List.take_add_one,gG hlt];rfl
  have hc:(n.nodes.take i).countP (fun x=>decide (x.kind≠0))≤i:=Nat.le_trans List.countP_le_length (by simp;omega)
  rw[e5,List.countP_append]at ih
  rw[k_L hb]
  generalize hcc:(n.nodes.take i).countP (fun x=>decide (x.kind≠0))=cc at *
  simp only[Node.enc]at e0
  by_cases hz:n.nodes[i].kind=0
  ·have hz':(n.nodes[i].kind:Int)=0:=by omega
   simp[hz]at ih
   simp[c95l0,leave,hlt,Node.enc,e0,hz,hz',w64 ((i:Int)+1) (by omega) (by omega),okZ6,okW,gc,gcEnv,exp,expL,eOs,Exp.id,idxOf,List.range,List.range.loop]
   exact ih
  ·have hz':¬ (n.nodes[i].kind:Int)=0:=by omega
   simp[hz]at ih
   simp[c95l0,leave,hlt,Node.enc,e0,hz,hz',w64 ((i:Int)+1) (by omega) (by omega),w64 ((cc:Int)+1) (by omega) (by omega),gc,gcEnv,exp,expL,eOs,Exp.id,idxOf,List.range,List.range.loop]
   exact ih
theorem t95 (h:Std pg){n:Net}(hl:n.nodes.length<2 ^ 40):eCA pg (E pg) 95 [.ag [.p (.sl (n.nodes.map Node.enc)),.p (.i .i64 n.cap)]] G=some (.ret (.p (.i .i64 n.used)),G):=by
 refine at_pure ?_ rfl rfl
 have hL:=l95 h rfl hl n.nodes.length 0 (by omega)
 simp only[List.take_zero,List.countP_nil,show ((0:Nat):Int)=0 from rfl]at hL
 rw[h.run (x:=c95) rfl (by decide) (by decide) (by decide) (by decide)]
 simp[c95,leave,gc,gcEnv,exp,expL,eOs,Exp.id,idxOf,List.range,List.range.loop,hL]
end Go.Proofs.Z
end
section
namespace Go.Proofs.Z
open Go Go.Proofs
attribute [local simp] k_nil k_ops k_opsg kG_true kG_false kO_val kO_pan k_seq kS_n kS_r kS_e kS_p k_o kR_n kR_p kD2_n kD1_n k_d k_c kC_t kC_f k_b kB_n kB_r kB_p kB_e k_skip k_ret k_exit k_l kL_s kLp_n kLp_r kLp_e kLp_p k_f kF_n kF_r kF_p kV_f kV_t kN_s evOp evBin gOK opd opds lk put restr iEv evRes whole norm normL one Out.below below belowL bOb evStore evLoad evLen AV.cells AV.flat PV.flat splice fillAt pcs isStr rowsOf Res.of evCmp lvE leafEq asInt noIdAt noId noIdL tids chkOK
variable {G:Heap}
def Fixed:Prop:=∀ G,eCA pgF (E pgF) 8 [] G=some (.ret (.p (.b true)),G)
set_option maxHeartbeats 1000000 in
theorem t6 (h8:Fixed)(l:List RNode)(hl:l.length<2 ^ 63)(C less:Int)(D:Bool)(hless:less≤9223372036854775807) :
  E pgF 6 [.ag [.p (.sl (l.map RNode.enc)),.p (.i .i64 C)],.p (.b D),.p (.i .i64 less)] []=some (.ret (.p (.b true)),[]):=by
 have h:=pgF_std
 unfold Fixed at h8
 rw[h.run (x:=c6) rfl (by decide) (by decide) (by decide) (by decide)]
 cases c1:rsmall l 120 with
 |false=>simp[c6,leave,h8,t9 h l C 120 hl,c1]
 |true =>
  have hr:=RawFit.of c1
  cases c2:rcheck l C with
  |false=>simp[c6,leave,h8,t9 h l C 120 hl,c1,t10 h l C hr.len hr.node,c2]
  |true =>
   by_cases c3:less<0
   ·simp[c6,leave,h8,t9 h l C 120 hl,c1,t10 h l C hr.len hr.node,c2,c3]
   obtain ⟨n,ho,e1,rfl⟩:=guard_net c1 c2
   have a9:=fun G=>t9 (G:=G) h l n.cap 120 hl
   have a10:=fun G=>t10 (G:=G) h l n.cap hr.len hr.node
   rw[c1]at a9
   rw[c2]at a10
   rw[e1]at a9 a10 ⊢
   have a11:=fun G=>t11 (G:=G) ho D (F:=60) (by omega)
   have hsum:=readN_sum pg0_std ho D 60
   have hinv:=(readN_ok pg0_std ho D 60).2.1
   have hfit:=readN_fit ho D 60
   obtain ⟨sk,sn,snm,sl,hsh⟩:=(readN n D 60).2.2.pcs_enc
   by_cases c4:(readN n D 60).2.1=0
   ·have hT:(readN n D 60).1.T.length=9:=hinv.ok.2.1
    obtain ⟨t0,t1,t2,t3,t4,t5,t6,t7,t8,hTe⟩:∃ t0 t1 t2 t3 t4 t5 t6 t7 t8,(readN n D 60).1.T=[t0,t1,t2,t3,t4,t5,t6,t7,t8]:=by
     match (readN n D 60).1.T,hT with
     |[t0,t1,t2,t3,t4,t5,t6,t7,t8],_=>exact ⟨t0,t1,t2,t3,t4,t5,t6,t7,t8,rfl⟩
    have a12:=fun G=>t12 (G:=G) h hT (by omega)
    have b11:=fun G=>t11 (G:=G) ho D (F:=(readN n D 60).1.d) (by omega)
    rw[readN_more c4 (Nat.le_refl _)]at b11
    have d11:=fun G=>t11 (G:=G) ho D (F:=(readN n D 60).1.d-1-less.toNat) (by omega)
    have hless:0<(readN n D 60).1.d→(readN n D ((readN n D 60).1.d-1-less.toNat)).2.1=90:=fun hd=>readN_less c4 (by omega)
    have a14:=fun G=>t14 (G:=G) h (readN n D 60).1.net hinv.same.ok.bounds
    have a13:=fun G=>t13 h _ hfit (readN n D 60).2.2.tm G
    rw[show ((readN n D 60).2.2.tm.same (readN n D 60).2.2.tm)=true from Tm.same_iff.2 rfl]at a13
    rw[Shape.tm_enc,hsh]at a13
    have hw:maxI (IntKind.i64.wrap (IntKind.i64.wrap ((readN n D 60).1.d-1)-less)) 0=((readN n D 60).1.d-1-less.toNat:Nat):=by
     have hd:=hsum.2
     rw[w64 ((readN n D 60).1.d-1:Int) (by omega) (by omega),w64 _ (by omega) (by omega)]
     unfold maxI
     split<;>omega
    rw[hsum.1]at a12
    generalize hR3:readN n D ((readN n D 60).1.d-1-less.toNat)=R3 at *
    obtain ⟨u0,u1,u2,u3,u4,u5,u6,u7,u8,hTe3⟩:∃ t0 t1 t2 t3 t4 t5 t6 t7 t8,R3.1.T=[t0,t1,t2,t3,t4,t5,t6,t7,t8]:=by
     have hT3:R3.1.T.length=9:=by rw[← hR3];exact (readN_ok pg0_std ho D _).2.1.ok.2.1
     match R3.1.T,hT3 with
     |[t0,t1,t2,t3,t4,t5,t6,t7,t8],_=>exact ⟨t0,t1,t2,t3,t4,t5,t6,t7,t8,rfl⟩
    simp only[rdOut11,if_pos c4,shp0,tallyAV,hTe,hsh,List.map_cons,List.map_nil,c4,pcs]at a11 b11 a12 a13
    simp only[rdOut11,tallyAV,hTe3,List.map_cons,List.map_nil]at d11
    simp only[show ((60:Nat):Int)=60 from rfl,show ((0:Nat):Int)=0 from rfl,cond_true]at a11 b11 a10
    generalize hd:(readN n D 60).1.d=d at *
    obtain ⟨q0,q1,q2,q3,hq,f3⟩:∃ (q0 q1:Int) (q2:List UInt8) (q3:AV),(if R3.2.1=0 then AV.ag (List.map AV.p R3.2.2.enc) else AV.ag [.p (.i .i64 0),.p (.i .i64 0),.p (.s []),.nils])=AV.ag [.p (.i .i64 q0),.p (.i .i64 q1),.p (.s q2),q3]∧(q3=.nils∨∃ l,q3=.p (.sl l)):=by
     obtain ⟨k',n',m',l',e⟩:=R3.2.2.pcs_enc
     split
     ·rw[e];exact ⟨_,_,_,_,rfl,.inr ⟨_,rfl⟩⟩
     ·exact ⟨_,_,_,_,rfl,.inl rfl⟩
    simp only[pcs,shp0]at d11
    rw[hq]at d11
    have hk8:d=0∨R3.2.1=90:=by omega
    rcases hk8 with e|e<;>rcases f3 with rfl|⟨l3,rfl⟩
    ·simp[c6,leave,h8,a9,a10,c3,a11,c4,a12,b11,hw,d11,a13,a14,eq_true e]
    ·simp[c6,leave,h8,a9,a10,c3,a11,c4,a12,b11,hw,d11,a13,a14,eq_true e]
    ·by_cases e':d=0
     ·simp[c6,leave,h8,a9,a10,c3,a11,c4,a12,b11,hw,d11,a13,a14,eq_true e']
     ·simp[c6,leave,h8,a9,a10,c3,a11,c4,a12,b11,hw,d11,a13,a14,eq_true e,eq_true (show ((R3.2.1:Nat):Int)=90 from by omega),eq_false e']
    ·by_cases e':d=0
     ·simp[c6,leave,h8,a9,a10,c3,a11,c4,a12,b11,hw,d11,a13,a14,eq_true e']
     ·simp[c6,leave,h8,a9,a10,c3,a11,c4,a12,b11,hw,d11,a13,a14,eq_true e,eq_true (show ((R3.2.1:Nat):Int)=90 from by omega),eq_false e']
   ·have hT:(readN n D 60).1.T.length=9:=hinv.ok.2.1
    obtain ⟨t0,t1,t2,t3,t4,t5,t6,t7,t8,hTe⟩:∃ t0 t1 t2 t3 t4 t5 t6 t7 t8,(readN n D 60).1.T=[t0,t1,t2,t3,t4,t5,t6,t7,t8]:=by
     match (readN n D 60).1.T,hT with
     |[t0,t1,t2,t3,t4,t5,t6,t7,t8],_=>exact ⟨t0,t1,t2,t3,t4,t5,t6,t7,t8,rfl⟩
    have a12:=fun G=>t12 (G:=G) h hT (by omega)
    have c5:(((readN n D 60).1.T.sum:Nat):Int)≤60:=by omega
    rw[hTe]at a12 c5
    simp only[rdOut11,if_neg c4,shp0,tallyAV,hTe,List.map_cons,List.map_nil]at a11 a12
    simp only[show ((60:Nat):Int)=60 from rfl,cond_true]at a11 a10
    generalize hS:[t0,t1,t2,t3,t4,t5,t6,t7,t8].sum=S at *
    have c4':¬ ((readN n D 60).2.1:Int)=0:=by omega
    simp[c6,leave,h8,a9,a10,c3,a11,c4,c4',a12,c5]
end Go.Proofs.Z
end
