/- gossamerlaw21.ReadAffine: whatever the input, the law returns true, and the arguments read afterwards as they did before. No condition. -/
import Derived.Test.YtffohgbmjjbhiaaGreatB25
set_option linter.all false
namespace Go.Proofs.Z
section
open Go Go.Proofs
set_option maxRecDepth 100000
set_option maxHeartbeats 400000
noncomputable def a4:=w (an (w (wv Tryz.prog 4)))
noncomputable def c4:=wf (mk a4 false false [])
theorem ok4:DJ Tryz.prog 4 c4:=fk
end
section
open Go Go.Proofs
variable {G:Heap}
set_option maxHeartbeats 1000000 in
theorem t4 (h8:sw)(t:Tm)(ht:t.wq)(D:Bool):ic iE (E iE) (L iE) Z.c4 [.ag (bP t.aw),.p (.b D)] []=some (.ret (.p (.b true)),[]):=by
 have h:=Xj;unfold sw at h8;have GH:=λG=>t16 (G:=G) h t ht;obtain⟨tk,tn,ts,tl,hte⟩:=t.jC;cases c1:(t.te 60 600).isSome with
 |false =>
  rw[hte,c1]at GH;rw[hte];simp only[bP,ai,au]at GH;simp[Z.c4,aj,h8,GH]
 |true =>
  obtain⟨v,hv⟩:=dM.1 c1;obtain⟨f1,f2,f3⟩:=Tm.tj t 60 600 v hv (by omega);have OD:=λG=>t17 h t f1 (by omega) G;by_cases c2:30<t.depth
  ·have c2':(30:Int)<(t.depth:Nat):=by omega
   rw[hte,c1]at GH;rw[hte]at OD;rw[hte];simp only[bP,ai,au]at GH OD;simp[Z.c4,aj,h8,GH,OD,c2,c2']
  ·have c2':¬ (30:Int)<(t.depth:Nat):=by omega
   have P_:=λG=>t18 (G:=G) h ht (by omega);cases c3:t.may 0 false with
   |false =>
    rw[hte,c1]at GH;rw[hte]at OD;rw[hte,c3]at P_;rw[hte];simp only[bP,ai,au]at GH OD P_;simp[Z.c4,aj,h8,GH,OD,P_,c2,c2']
   |true =>
    obtain⟨c,rfl,hw,hs⟩:=GD c1 c3;rw[c1]at GH;rw[c3]at P_;obtain⟨fr,Ud⟩:=t19 h c.tm f1 (by rw[Ct.iQ];omega);by_cases c6:0<fr
    ·rw[hte]at GH OD P_ Ud;rw[hte];simp only[bP,ai,au]at GH OD P_ Ud;simp[Z.c4,aj,h8,GH,OD,P_,Ud,c2,c2',c6]
    have Qg:=λG=>t20 (G:=G) h (most:=4000) (by omega) ⟨hw,by omega,by omega,by omega⟩ P_;have hn:=Gt (most:=4000) (by omega) hw (V1 hw hs (by omega));have he:=V1 hw hs (by omega);have a11:=λG=>t11 (G:=G) hn.1 D (F:=200) (by omega);have Qb:=λG=>t21 h (80 * 5001+c.size+1) D 80 c (by unfold wN;split<;>omega) (by omega) hw (by omega) G;obtain⟨k1,k2⟩:=Ei hw hs (by omega) D 200 (80 * 5001+c.size+1) 80;have hfit:=ta hn.1 D 200;have hT:=(VD eA hn.1 D 200).2.1.ok.2.1;obtain⟨t0,t1,t2,t3,t4,t5,t6,t7,t8,hTe⟩:∃t0 t1 t2 t3 t4 t5 t6 t7 t8,(bI (c.cS 4000).1 D 200).1.T=[t0,t1,t2,t3,t4,t5,t6,t7,t8]:=by
     match (bI (c.cS 4000).1 D 200).1.T,hT with
     |[t0,t1,t2,t3,t4,t5,t6,t7,t8],_=>exact⟨t0,t1,t2,t3,t4,t5,t6,t7,t8,rfl⟩
    rw[he]at Qg;have Cr:=fun (b:Tm) G=>t13 h _ hfit b G;rw[aO.v7]at Cr;generalize hE:fS (80 * 5001+c.size+1) D 80 c=ev at *;obtain⟨vt,vn,ve⟩:=ev;obtain⟨vk,vn',vs,vl,hve⟩:=vt.jC;generalize hR:bI (c.cS 4000).1 D 200=R at *;obtain⟨RS,Re,Rs⟩:=R;obtain⟨sk,sn,snm,sl,hsh⟩:=Rs.sv;rw[hte]at GH OD P_ Ud Qg Qb;rw[hte];dsimp only at *;by_cases d4:Re=0
    ·by_cases c5':ve=0
     ·have a13':=Cr vt;rw[show Rs.tm.same vt=true from Tm.pL.2 (k2 d4 c5')]at a13';rw[hve,hsh]at a13';simp only[Tm.nv,hve,bP,ai,au]at GH OD P_ Ud Qg Qb a13';simp only[fu,ah d4,Vt,cJ,hTe,hsh,ai,au,bP]at a11;rw[d4]at a11;rw[c5']at Qb;simp only[fW,uC,Ue,Ug]at a11 Qg Qb;simp[Z.c4,aj,h8,GH,OD,P_,Ud,c6,c2,c2',Qg,a11,Qb,a13']
     ·have c5'':¬ (ve:Int)=0:=by omega
      simp only[Tm.nv,hve,bP,ai,au]at GH OD P_ Ud Qg Qb;simp only[fu,ah d4,Vt,cJ,hTe,hsh,ai,au,bP]at a11;rw[d4]at a11;simp only[fW,uC,Ue,Ug]at a11 Qg Qb;simp[Z.c4,aj,h8,GH,OD,P_,Ud,c6,c2,c2',Qg,a11,Qb,c5',c5'']
    ·have d4':¬ (Re:Int)=0:=by omega
     simp only[Tm.nv,hve,bP,ai,au]at GH OD P_ Ud Qg Qb;simp only[fu,aa d4,Vt,cJ,hTe,ai,au,bP]at a11;simp only[fW,uC,Ue,Ug]at a11 Qg Qb;rcases k1 with e|e|e|e
     ·exact absurd e d4
     all_goals
      subst e;simp only[MN,KL,KM]at a11;simp[Z.c4,aj,h8,GH,OD,P_,Ud,c6,c2,c2',Qg,a11,Qb]
end
end Go.Proofs.Z
namespace Go.Proofs.YtffohgbmjjbhiaaGreat
open Go.ChangeShapes Go.WideShapes Go.ChangeAt Go.RowKit Go.Proofs.Z
theorem told4 {args:List AV}{G:Heap}(he:ic iE (E iE) (L iE) Z.c4 args []=some (.ret (.p (.b true)),G)){w:World}{vargs:List Value}(hr:RL (mW w) (λ_=>none) (inf []) vargs args) :
  Calls Tryz.prog 4 vargs.toArray w λe w'=>e=.returned (.bool true)/\Below w.heap.size w w':=by
 obtain⟨n,hn⟩:=DI he
 obtain⟨hC,hE,hR,hL,_⟩:=lE JL n
 refine(DK JL.mixed hR hC hE hL Z.ok4 hn (m:=mW w) (w:=w) ⟨λb o v h=>h,λi j l l' h=>(by cases h),λid o h=>(by simp at h),λid loc h=>(by cases h)⟩ (λid h=>by simp at h) hr).mono λe w' h=>?_;obtain⟨m',cA,hI,hS,hO⟩:=h;refine⟨?_,⟨hS.fr.os,hS.fr.tape,hS.fr.output,hS.fr.size,λk hk=>hS.fr.gD k hk (λid loc h=>(by cases h))⟩⟩;cases e with
 |returned v =>
  have h:R m' cA (inf G) v (.p (.b true)):=hO;cases h with
  |p v x hp=>cases hp;rfl
 |_=>exact hO.elim
theorem Ub {t:Tm}{D:Bool}(ht:t.wq){w:World}{v:Value}(hv:R (mW w) (λ_=>none) (inf []) v (.ag (bP t.aw))) :
  Calls Tryz.prog 4 #[v,.bool D] w λe w'=>e=.returned (.bool true)/\Below w.heap.size w w':=by
 refine told4 (vargs:=[v,.bool D]) (t4 Ca t ht D) ⟨rfl,λj v' c h1 h2=>?_⟩
 match j with
 |0=>simp at h1 h2;subst h1 h2;exact hv
 |1=>simp at h1 h2;subst h1 h2;exact .p _ _ (.b _)
 |j+2=>simp at h1
set_option maxRecDepth 100000 in
theorem T9 (os:Os)(started:os.Started)(H:Type)(aw:TypeId×Value->H) :
  ReturnsInHanded {} Tryz.checked os 4 .any (Rows.readAffineSpec.pre6 aw Tryz.prog Tryz.f4 Rows.readAffineRow.domain false) (Rows.readAffineSpec.post aw Tryz.prog Tryz.f4 false true false false):=by
 refine returnsInHanded_of_change (C:=Tryz.checked) Tryz.own started (by kernel_rfl) Tryz.func4
  (ChangeSpec.witness6 (enc:=aw) (C:=Tryz.checked) false ⟨#[],#[.agg #[.int .i64 0,.int .i64 0,.string ⟨#[]⟩,.slice none 0 0],.bool false],[]⟩ 8 (by kernel_rfl) (by kernel_rfl) (by kernel_rfl) (by kernel_rfl)) ?_
 intro W aK args ds gs before hval0 hW hcnd _;have hval:∀(j:Nat) t v,Tryz.f4.params[j]?=some t->args[j]?=some v->Value.okWide Tryz.prog W .any aK t v:=hval0;have hW':=hW;obtain⟨p,q,hA0,hV,rfl,hfz,hnd⟩:=hW;have hA:DataW.TrodAll aw Tryz.prog W 0 (λ_=>true) true Tryz.f4.params.toList args.toList ds p:=hA0;rw[Tryz.params4]at hA hval;obtain⟨v0,vs0,d0,ds0,p0,q0,hargs,rfl,rfl,h0,r0⟩:=trodAll_cons hA;obtain⟨v1,vs1,d1,ds1,p1,q1,rfl,rfl,rfl,h1,r1⟩:=trodAll_cons r0;obtain⟨rfl,rfl,rfl⟩:=trodAll_nil r1;obtain rfl:args=#[v0,v1]:=by cases args;simp_all
 obtain⟨rfl,rfl⟩:=trodVars_none hV;have k0:=h0;have lt0:∀x∈p0,x.block<W.heap.size:=by obtain⟨m,hm⟩:=k0;exact DataW.trod_lt m _ _ _ hm
 obtain⟨t,ht,hv⟩:=Qn (hval 0 42 v0 rfl rfl) h0;obtain⟨D,rfl,rfl,rfl⟩:=open_bool Tryz.underlying4 (hval 1 4 v1 rfl rfl) h1;clear hA0 hval0;refine(Ub (D:=D) ht hv).mono λe W' ⟨he,bel⟩=>?_;subst he;exact⟨_,rfl,_,_,_,[],_,[],hW',trodAll_mk1 (shut_bool Tryz.underlying4 _),(trodAll_cons_mk (Below.trod Tryz.laidOut (by kernel_rfl) (UC (by kernel_rfl)) k0 bel lt0) (trodAll_cons_mk (shut_bool Tryz.underlying4 _) trodAll_mk0)),rfl,bel.frame _,λh=>by cases h⟩
theorem readAffine_holds:Rows.ReadAffineSaid :=
 OpenClaim.holds_of_wide 4 Tryz.f4 rfl rfl rfl rfl rfl rfl rfl ⟨rfl,rfl,rfl,rfl,rfl⟩ rfl rfl rfl rfl rfl (by kernel_rfl) Tryz.func4 (by kernel_rfl)
  (UC (by kernel_rfl)) (by unfold Func.isWrapper;rw[aa (of_decide_eq_false (by kernel_rfl))];exact⟨rfl,rfl⟩)
  (λos started H aw _=>T9 os started H aw)
end Go.Proofs.YtffohgbmjjbhiaaGreat
