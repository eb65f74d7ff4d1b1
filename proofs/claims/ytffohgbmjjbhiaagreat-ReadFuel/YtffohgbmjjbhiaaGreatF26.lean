/- gossamerlaw21.ReadFuel: whatever the input, the law returns true, and the arguments read afterwards as they did before. No condition. -/
import Derived.Test.YtffohgbmjjbhiaaGreatF25
import Derived.Test.YtffohgbmjjbhiaaGreatF17
set_option linter.all false
section
namespace Go.Proofs.YtffohgbmjjbhiaaGreat
open Go.ChangeShapes Go.WideShapes Go.ChangeAt Go.RowKit Go.Proofs.Z
theorem walkFuel {l:List RNode}{C less:Int}{D:Bool}(hl:l.length<2 ^ 63)(hless:(Lit.int .i64 less).wf=true){w:World}{v:Value}(hv:R (mW w) (fun _=>none) (inf []) v (.ag [.p (.sl (l.map RNode.enc)),.p (.i .i64 C)])) :
  Calls Tryz.prog 6 #[v,.bool D,.int .i64 less] w fun e w'=>e=.returned (.bool true)∧Below w.heap.size w w':=by
 have hb:less≤9223372036854775807:=by
  have:=hless
  simp only[Lit.wf,Bool.and_eq_true,decide_eq_true_eq]at this
  have e:IntKind.max .i64=9223372036854775807:=by decide
  omega
 refine told (vargs:=[v,.bool D,.int .i64 less]) (t6 fixed_true l hl C less D hb) ⟨rfl,fun j v' c h1 h2=>?_⟩
 match j with
 |0=>simp at h1 h2;subst h1 h2;exact hv
 |1=>simp at h1 h2;subst h1 h2;exact .p _ _ (.b _)
 |2=>simp at h1 h2;subst h1 h2;exact .p _ _ (.i _ _)
 |j+3=>simp at h1
set_option maxRecDepth 100000 in
theorem liftedFuel (os:Os)(started:os.Started)(H:Type)(enc:TypeId×Value→H) :
  ReturnsInHanded {} Tryz.checked os 6 .any (Rows.readFuelSpec.pre6 enc Tryz.prog Tryz.f6 Rows.readFuelRow.domain false) (Rows.readFuelSpec.post enc Tryz.prog Tryz.f6 false true false false):=by
 refine returnsInHanded_of_change (C:=Tryz.checked) Tryz.own started (by kernel_rfl) Tryz.func6
  (ChangeSpec.witness6 (enc:=enc) (C:=Tryz.checked) false ⟨#[],#[.agg #[.slice none 0 0,.int .i64 0],.bool false,.int .i64 0],[]⟩ 8 (by kernel_rfl) (by kernel_rfl) (by kernel_rfl) (by kernel_rfl)) ?_
 intro W base args ds gs before hval0 hW hcnd _
 have hval:∀ (j:Nat) t v,Tryz.f6.params[j]?=some t→args[j]?=some v→Value.okWide Tryz.prog W .any base t v:=hval0
 have hW':=hW
 obtain ⟨p,q,hA0,hV,rfl,hfz,hnd⟩:=hW
 have hA:DataW.TrodAll enc Tryz.prog W 0 (fun _=>true) true Tryz.f6.params.toList args.toList ds p:=hA0
 rw[Tryz.params6]at hA hval
 obtain ⟨v0,vs0,d0,ds0,p0,q0,hargs,rfl,rfl,h0,r0⟩:=trodAll_cons hA
 obtain ⟨v1,vs1,d1,ds1,p1,q1,rfl,rfl,rfl,h1,r1⟩:=trodAll_cons r0
 obtain ⟨v2,vs2,d2,ds2,p2,q2,rfl,rfl,rfl,h2,r2⟩:=trodAll_cons r1
 obtain ⟨rfl,rfl,rfl⟩:=trodAll_nil r2
 obtain rfl:args=#[v0,v1,v2]:=by cases args;simp_all
 obtain ⟨rfl,rfl⟩:=trodVars_none hV
 have k0:=h0
 have lt0:∀ x∈p0,x.block<W.heap.size:=by obtain ⟨m,hm⟩:=k0;exact DataW.trod_lt m _ _ _ hm
 obtain ⟨l,C,hl,hv⟩:=open_net (hval 0 24 v0 rfl rfl) h0
 obtain ⟨D,rfl,rfl,rfl⟩:=open_bool Tryz.underlying4 (hval 1 4 v1 rfl rfl) h1
 obtain ⟨a2,rfl,rfl,rfl,w2⟩:=open_int Tryz.underlying3 (hval 2 3 v2 rfl rfl) h2
 clear hA0 hval0
 refine (walkFuel (C:=C) (D:=D) hl w2 hv).mono fun e W' ⟨he,bel⟩=>?_
 subst he
 exact ⟨_,rfl,_,_,_,[],_,[],hW',trodAll_mk1 (shut_bool Tryz.underlying4 _),(trodAll_cons_mk (Below.trod Tryz.laidOut (by kernel_rfl) (of_decide_eq_true (by kernel_rfl)) k0 bel lt0) (trodAll_cons_mk (shut_bool Tryz.underlying4 _) (trodAll_cons_mk (shut_int Tryz.underlying3 w2) trodAll_mk0))),rfl,bel.frame _,fun h=>by cases h⟩
theorem readFuel_holds:Rows.ReadFuelSaid :=
 OpenClaim.holds_of_wide 6 Tryz.f6 rfl rfl rfl rfl rfl rfl rfl ⟨rfl,rfl,rfl,rfl,rfl⟩ rfl rfl rfl rfl rfl (by kernel_rfl) Tryz.func6 (by kernel_rfl)
  (of_decide_eq_true (by kernel_rfl)) (by unfold Func.isWrapper;rw[if_neg (of_decide_eq_false (by kernel_rfl))];exact ⟨rfl,rfl⟩)
  (fun os started H enc _=>liftedFuel os started H enc)
#print axioms readFuel_holds
end Go.Proofs.YtffohgbmjjbhiaaGreat
end
