/- gossamerlaw21.ReadAgain: whatever the input, the law returns true, and the arguments read afterwards as they did before. No condition. -/
import Derived.Test.YtffohgbmjjbhiaaGreatA25
import Derived.Test.YtffohgbmjjbhiaaGreatA18
set_option linter.all false
section
namespace Go.Proofs.YtffohgbmjjbhiaaGreat
open Go.ChangeShapes Go.WideShapes Go.ChangeAt Go.RowKit Go.Proofs.Z
theorem walkAgain {l:List RNode}{C fuel:Int}(hl:l.length<2 ^ 63){w:World}{v:Value}(hv:R (mW w) (fun _=>none) (inf []) v (.ag [.p (.sl (l.map RNode.enc)),.p (.i .i64 C)])) :
  Calls Tryz.prog 3 #[v,.int .i64 fuel] w fun e w'=>e=.returned (.bool true)∧Below w.heap.size w w':=by
 refine told (vargs:=[v,.int .i64 fuel]) (t3 fixed_true l hl C fuel) ⟨rfl,fun j v' c h1 h2=>?_⟩
 match j with
 |0=>simp at h1 h2;subst h1 h2;exact hv
 |1=>simp at h1 h2;subst h1 h2;exact .p _ _ (.i _ _)
 |j+2=>simp at h1
set_option maxRecDepth 100000 in
theorem liftedAgain (os:Os)(started:os.Started)(H:Type)(enc:TypeId×Value→H) :
  ReturnsInHanded {} Tryz.checked os 3 .any (Rows.readAgainSpec.pre6 enc Tryz.prog Tryz.f3 Rows.readAgainRow.domain false) (Rows.readAgainSpec.post enc Tryz.prog Tryz.f3 false true false false):=by
 refine returnsInHanded_of_change (C:=Tryz.checked) Tryz.own started (by kernel_rfl) Tryz.func3
  (ChangeSpec.witness6 (enc:=enc) (C:=Tryz.checked) false ⟨#[],#[.agg #[.slice none 0 0,.int .i64 0],.int .i64 0],[]⟩ 8 (by kernel_rfl) (by kernel_rfl) (by kernel_rfl) (by kernel_rfl)) ?_
 intro W base args ds gs before hval0 hW hcnd _
 have hval:∀ (j:Nat) t v,Tryz.f3.params[j]?=some t→args[j]?=some v→Value.okWide Tryz.prog W .any base t v:=hval0
 have hW':=hW
 obtain ⟨p,q,hA0,hV,rfl,hfz,hnd⟩:=hW
 have hA:DataW.TrodAll enc Tryz.prog W 0 (fun _=>true) true Tryz.f3.params.toList args.toList ds p:=hA0
 rw[Tryz.params3]at hA hval
 obtain ⟨v0,vs0,d0,ds0,p0,q0,hargs,rfl,rfl,h0,r0⟩:=trodAll_cons hA
 obtain ⟨v1,vs1,d1,ds1,p1,q1,rfl,rfl,rfl,h1,r1⟩:=trodAll_cons r0
 obtain ⟨rfl,rfl,rfl⟩:=trodAll_nil r1
 obtain rfl:args=#[v0,v1]:=by cases args;simp_all
 obtain ⟨rfl,rfl⟩:=trodVars_none hV
 have k0:=h0
 have lt0:∀ x∈p0,x.block<W.heap.size:=by obtain ⟨m,hm⟩:=k0;exact DataW.trod_lt m _ _ _ hm
 obtain ⟨l,C,hl,hv⟩:=open_net (hval 0 24 v0 rfl rfl) h0
 obtain ⟨a1,rfl,rfl,rfl,w1⟩:=open_int Tryz.underlying3 (hval 1 3 v1 rfl rfl) h1
 clear hA0 hval0
 refine (walkAgain (C:=C) (fuel:=a1) hl hv).mono fun e W' ⟨he,bel⟩=>?_
 subst he
 exact ⟨_,rfl,_,_,_,[],_,[],hW',trodAll_mk1 (shut_bool Tryz.underlying4 _),(trodAll_cons_mk (Below.trod Tryz.laidOut (by kernel_rfl) (of_decide_eq_true (by kernel_rfl)) k0 bel lt0) (trodAll_cons_mk (shut_int Tryz.underlying3 w1) trodAll_mk0)),rfl,bel.frame _,fun h=>by cases h⟩
theorem readAgain_holds:Rows.ReadAgainSaid :=
 OpenClaim.holds_of_wide 3 Tryz.f3 rfl rfl rfl rfl rfl rfl rfl ⟨rfl,rfl,rfl,rfl,rfl⟩ rfl rfl rfl rfl rfl (by kernel_rfl) Tryz.func3 (by kernel_rfl)
  (of_decide_eq_true (by kernel_rfl)) (by unfold Func.isWrapper;rw[if_neg (of_decide_eq_false (by kernel_rfl))];exact ⟨rfl,rfl⟩)
  (fun os started H enc _=>liftedAgain os started H enc)
#print axioms readAgain_holds
end Go.Proofs.YtffohgbmjjbhiaaGreat
end
