/- A part of the proof. -/
import Derived.Test.YtmlaokgdomfmgaaGreatDoorL09
import Derived.Test.YtmlaokgdomfmgaaGreatDoorL00
import Derived.KernelRfl
import Derived.Test.YtmlaokgdomfmgaaGreatDoorL01
set_option linter.all false
section
namespace Go.Proofs.Z
open Go
variable [hP : HasP]
section
attribute [local irreducible] CallsX
variable {pg : Prg} {call : CallF} {loop : LoopF}
theorem R.isIfc_inv {m : Mem} {μ : Mu} {i : Inf} {v : Value} {x : AV} (h : R m μ i v x) (hx : x.isIfc = true) : ∃ t z, v = .iface t z := by
  cases h with
  | p _ _ hp => cases hp <;> first | exact ⟨_, _, rfl⟩ | simp [AV.isIfc] at hx
  | ifc t z x hr => exact ⟨_, _, rfl⟩
  | _ => simp [AV.isIfc] at hx
theorem whole_args {m : Mem} {μ : Mu} {G : Heap} {N : Nat} {vargs : List Value} {args : List AV} (hr : RL m μ (inf G) vargs args) (env : Env) (he : ∀ k x, lk env k = some x → k < dK → lk (initEnv 0 args) k = some x) : EnvR m μ (inf G) N env { tmps := vargs.toArray ++ Array.replicate (N - vargs.toArray.size) undef, defers := [] } := by
  refine ⟨by simp; omega, fun k x hk hd => ?_⟩
  obtain ⟨_, hx⟩ := init_lk args 0 k x (he k x hk hd)
  simp at hx
  have hlt : k < vargs.length := by rw [hr.1]; exact (List.getElem?_eq_some_iff.1 hx).1
  have := hr.2 k vargs[k] x (List.getElem?_eq_getElem hlt) hx
  simpa [Array.getD_eq_getD_getElem?, Array.getElem?_append, hlt] using this
theorem init_none {args : List AV} {k : Nat} (h : args.length ≤ k) : lk (initEnv 0 args) k = none := by
  cases hl : lk (initEnv 0 args) k with
  | none => rfl
  | some x =>
    have := (init_lk args 0 k x hl).2
    have := (List.getElem?_eq_some_iff.1 this).1
    omega
def Back (m : Mem) (μ : Mu) (G : Heap) (w : World) (G' : Heap) (out : Out) (e : Ending) (w' : World) : Prop := ∃ m' μ', Inv m' μ' G' w' ∧ Stp m μ G w m' μ' G' w' ∧ OutR m' μ' (inf G') out e
theorem fun_sound (hm : hP.P.follows .mixedOrders = true) (hC : CallSound hP.P call) (hE : CallEnters hP.P call) {k : Nat} (hL : LoopSound loop k) {f : Nat} {c : CFun} (hf : FnOK hP.P f c) (hmd : c.md < 2) {args : List AV} (hlen : args.length < dK) {G G' : Heap} {out : Out} (h : evFun pg call loop c (initEnv 0 args) G = some (out, G'))
    {m : Mem} {μ : Mu} {w : World} {vargs : List Value} (hI : Inv m μ G w) (ht : ∀ id, id < G.length → ∃ l, μ id = some l) (hr : RL m μ (inf G) vargs args) :
    CallsIn (Fn none) 0 hP.P f vargs.toArray w (Back m μ G w G' out) := by
  obtain ⟨fn, code, h1, h2, h3, hN, h5, h6, h7, h8⟩ := hf.ok
  rw [if_pos hmd] at h8
  refine callsIn_of_wp_marks h1 h2 trivial ?_
  let E : Ent := ⟨m, μ, G, w, c.md⟩
  have hk0 : lk (initEnv 0 args) dK = none := init_none (Nat.le_of_lt hlen)
  have hp : Pt fn.ntmps E G (initEnv 0 args) { tmps := vargs.toArray ++ Array.replicate (fn.ntmps - vargs.toArray.size) undef, defers := [] } w m μ := by
    refine ⟨hI, whole_args hr _ fun k x h _ => h, ⟨[], [], rfl, by simp, fun r h => by simp at h, by rw [hk0]; rfl, fun _ => rfl, fun _ => hk0⟩, ht, .refl _ _ _, .refl _ _ _⟩
  have hE1 : ∀ id l, E.μ id = some l → id < E.G.length := fun id l hl => hI.dom id l hl
  unfold evFun at h
  cases hev : evCode pg call loop G.length c.body (initEnv 0 args) G with
  | none => rw [hev] at h; cases h
  | some r =>
    rcases r with ⟨e, env', G1⟩
    rw [hev] at h
    dsimp only at h
    refine code_sound (E := E) (md := c.md) (ro := none) hm hC hE hL ht hE1 hN rfl (fun _ => rfl) code c.body ⟨h8, h7⟩ hev hp fun a' w' m' μ' hp' => ?_
    obtain ⟨rs, d, q1, q2, q3, q4, q5, q6⟩ := hp'.dfr
    have hend : ∀ {env' : Env} {G1 : Heap} {m' : Mem} {μ' : Mu} {w' : World} {G' : Heap} {out : Out}, evEnd c G.length env' G1 = some (out, G') → Inv m' μ' G1 w' → EnvR m' μ' (inf G1) fn.ntmps env' a' → (∀ id, id < G1.length → ∃ l, μ' id = some l) → Ext m μ G m' μ' G1 → Fr m μ w m' μ' w' → ∃ v, (results fn a'.tmps).run hP.P w' = .ok v w' ∧ Back m μ G w G' out (.returned v) w' :=
      fun hend hI he ht' hx hf => end_sound (E := E) h5 h6 ht hE1 hend hI ⟨he.size, he.val⟩ ht' hx hf
    cases hdk : lk env' dK with
    | none =>
      rw [hdk] at h q4
      have : d = [] := q4
      subst this
      rw [List.append_nil] at q1
      have hret : evEnd c G.length env' G1 = some (out, G') → LeavesInM (Fn none) 0 hP.P fn a'.tmps (Back m μ G w G' out) a'.defers .returning w' := fun h => by
        rw [q1]
        exact leaves_marks (E := E) (by simp) rs q2 q3 hp'.inv hp'.fr fun w2 hI2 hF2 => hend h hI2 hp'.env hp'.tot hp'.ext hF2
      cases e with
      | normal => exact hret h
      | ret => exact hret h
      | exit id => cases h
      | pan v =>
        intro val hv
        dsimp only at h
        show LeavesInM (Fn none) 0 hP.P fn a'.tmps (Back m μ G w G' out) a'.defers (.panicking _) w'
        rw [q1]
        refine leaves_marks (E := E) (by simp) rs q2 q3 hp'.inv hp'.fr fun w2 hI2 hF2 => ?_
        obtain ⟨μ3, j1, j2, j3⟩ := leave_sound (out := .pan v) hI2 hp'.ext hF2 ht (fun id l hl => hI.dom id l hl) h (e := .panicked [{ v := val, recovered := false }]) ⟨val, rfl, hv⟩
        exact ⟨m', μ3, j1, j2, j3⟩
    | some dv =>
      rw [hdk] at h q4
      obtain ⟨g, cap, cv, rfl, hok, rfl, hcv⟩ := q4
      dsimp only at h
      split at h
      · cases h
      · rename_i hcond
        simp only [Bool.not_eq_false, Bool.and_eq_true] at hcond
        have hmd1 : E.md ≠ 0 := by show c.md ≠ 0; rw [Nat.eq_of_beq_eq_true hcond.2]; simp
        have hrs := q5 hmd1
        subst hrs
        split at h
        · rename_i rv G2 hcall
          have hne : g + dF ≠ yF := fun e => (okF_spec hok).1 (by unfold yF at *; omega)
          have hen : Entered hP.P g := by
            have := evCallAt_enters hE hcall hne
            rwa [Nat.add_mod_right, (okF_spec hok).2.2] at this
          have key : ∀ (pv : Value) (u : FrameMode), ((u = .returning ∧ pv = .nilIface) ∨ ∃ t v, pv = .iface t v ∧ u = .panicking [{ v := pv, recovered := false }]) → R m' μ' (inf G1) pv e.pv → LeavesInM (Fn none) 0 hP.P fn a'.tmps (Back m μ G w G' out) a'.defers u w' := by
            intro pv u hu hpv
            have hargs : RL m' μ' (inf G1) (pv :: cv.toList) (e.pv :: cap) := .cons hpv hcv
            have hX := @callAt_sound hP hP.P pg call hC m' μ' G1 G2 w' hp'.inv (g + dF) (e.pv :: cap) (Out.ret rv) hcall (pv :: cv.toList) hargs
            unfold CallsX at hX
            have hnl : ¬ (g + dF < dF) := by omega
            rw [if_neg hne, if_neg hnl] at hX
            obtain ⟨pv', rest, e1, e2⟩ := hX
            cases e1
            rw [q1]
            refine ⟨by rcases hu with ⟨h, _⟩ | ⟨_, _, _, h⟩ <;> rw [h] <;> simp, .inr ⟨fun h => by simp [Fence.wide] at h, .func g, cv, g, cv, rfl, ?_, fun _ _ => trivial, ?_⟩⟩
            · simp only [invoke]
              have := callFunc_run hen (#[] ++ cv) w'
              simpa using this
            · have e3 := e2 u hu
              rw [Nat.add_sub_cancel, Array.toArray_toList] at e3
              refine e3.mono fun en u' w2 hb => ?_
              obtain ⟨b1, m2, μ2, b2, b3, b4⟩ := hb
              cases en with
              | returned v2 =>
                show LeavesInM (Fn none) 0 HasP.P fn a'.tmps (Back m μ G w G' out) [] (settle u') w2
                rw [b1]
                exact hend h b2 (hp'.env.mono b3.ext) (b3.total hp'.tot) (hp'.ext.trans b3.ext) (hp'.fr.trans b3.fr)
              | panicked ch => exact b4.elim
              | outgrown => exact b4.elim
          cases e with
          | normal => exact key .nilIface .returning (.inl ⟨rfl, rfl⟩) (.p _ _ .inil)
          | ret => exact key .nilIface .returning (.inl ⟨rfl, rfl⟩) (.p _ _ .inil)
          | exit id => simp [Ex.okPv] at hcond
          | pan v =>
            intro val hv
            obtain ⟨t, z, rfl⟩ := hv.isIfc_inv (by simpa [Ex.okPv] using hcond.1)
            exact key _ _ (.inr ⟨t, z, rfl, rfl⟩) hv
        · cases h
theorem dfr_sound (hm : hP.P.follows .mixedOrders = true) (hC : CallSound hP.P call) (hE : CallEnters hP.P call) {k : Nat} (hL : LoopSound loop k) {f : Nat} {c : CFun} (hf : FnOK hP.P f c) (hmd : c.md = 2) {args : List AV} (hlen : args.length < dK) {G G' : Heap} {x r : AV} (h : evFun pg call loop c ((rK, x) :: initEnv 0 args) G = some (.ret r, G'))
    {m : Mem} {μ : Mu} {w : World} {pv : Value} {vargs : List Value} (hI : Inv m μ G w) (ht : ∀ id, id < G.length → ∃ l, μ id = some l) (hpv : R m μ (inf G) pv x) (hr : RL m μ (inf G) vargs args) {u : FrameMode} (hu : (u = .returning ∧ pv = .nilIface) ∨ ∃ t v, pv = .iface t v ∧ u = .panicking [{ v := pv, recovered := false }]) :
    CallsDIn (Fn none) 0 hP.P f vargs.toArray u w fun e u' w' => settle u' = .returning ∧ Back m μ G w G' (.ret r) e w' := by
  obtain ⟨fn, code, h1, h2, h3, hN, h5, h6, h7, h8⟩ := hf.ok
  rw [if_neg (by omega)] at h8
  rw [hmd] at h7
  refine callsDIn_of_wpSIn h1 h2 trivial fun c₀ cs hc0 => ?_
  let E : Ent := ⟨m, μ, G, w, 2⟩
  have hk0 : lk ((rK, x) :: initEnv 0 args) dK = none := by
    simp only [lk]
    rw [if_neg (show ¬ (rK = dK) by show ¬ (_ = _); simp only [rK, dK]; omega), init_none (Nat.le_of_lt hlen)]
  have hp : Pt fn.ntmps E G ((rK, x) :: initEnv 0 args) { tmps := vargs.toArray ++ Array.replicate (fn.ntmps - vargs.toArray.size) undef, defers := [] } w m μ := by
    refine ⟨hI, whole_args hr _ fun k x h hd => ?_, ⟨[], [], rfl, by simp, fun r h => by simp at h, by rw [hk0]; rfl, fun _ => rfl, fun _ => hk0⟩, ht, .refl _ _ _, .refl _ _ _⟩
    simp only [lk] at h
    rwa [if_neg (show ¬ (rK = k) by unfold rK dK at *; omega)] at h
  have hE1 : ∀ id l, E.μ id = some l → id < E.G.length := fun id l hl => hI.dom id l hl
  have hrec : R E.m E.μ (inf E.G) (recv (c₀ :: cs)) x ∧ ∃ u', recd (c₀ :: cs) = { c₀ with mode := u' } :: cs ∧ settle u' = .returning := by
    rcases hu with ⟨rfl, rfl⟩ | ⟨t, v, rfl, rfl⟩
    · have : recoverD (c₀ :: cs) = none := by simp [recoverD, hc0]
      unfold recv recd
      rw [this]
      exact ⟨hpv, .returning, by rw [← hc0], rfl⟩
    · have : recoverD (c₀ :: cs) = some (.iface t v, { c₀ with mode := .panicking [{ v := .iface t v, recovered := true }] } :: cs) := by simp [recoverD, hc0]
      unfold recv recd
      rw [this]
      exact ⟨hpv, _, rfl, rfl⟩
  obtain ⟨hrec, u', hu1, hu2⟩ := hrec
  unfold evFun at h
  cases hev : evCode pg call loop G.length c.body ((rK, x) :: initEnv 0 args) G with
  | none => rw [hev] at h; cases h
  | some y =>
    rcases y with ⟨e, env', G1⟩
    rw [hev] at h
    dsimp only at h
    have hdk : lk env' dK = none ∧ (∀ v, e ≠ .pan v) ∧ (∀ k, e ≠ .exit k) ∧ evEnd c G.length env' G1 = some (.ret r, G') := by
      split at h
      · rename_i g _ cap hg
        rw [hmd] at h
        simp at h
      · cases h
      · rename_i hg
        split at h
        · unfold leave at h; split at h <;> cases h
        · cases h
        · rename_i e _ hn1 hn2
          exact ⟨hg, fun v e => hn1 v (by simp [e]), fun k e => hn2 k (by simp [e]), h⟩
    obtain ⟨d1, d2, d3, d4⟩ := hdk
    refine def_sound (E := E) hm hC hE hL ht hE1 hN rfl hrec code c.body h8 h7 hev d2 hp (fun v hv => ?_) fun a' w' m' μ' hp' => ?_
    · simp [lk] at hv; exact hv.symm
    · obtain ⟨rs, d, q1, q2, q3, q4, q5, q6⟩ := hp'.dfr
      rw [d1] at q4
      have : d = [] := q4
      subst this
      have := q5 (by show 2 ≠ 0; simp)
      subst this
      have hd0 : a'.defers = [] := by rw [q1]; rfl
      have key : ∃ u', recd (c₀ :: cs) = { c₀ with mode := u' } :: cs ∧ ∃ v, (results fn a'.tmps).run hP.P w' = .ok v w' ∧ settle u' = .returning ∧ Back m μ G w G' (.ret r) (.returned v) w' := by
        obtain ⟨v, e1, e2⟩ := end_sound (E := E) h5 h6 ht hE1 d4 hp'.inv ⟨hp'.env.size, hp'.env.val⟩ hp'.tot hp'.ext hp'.fr
        exact ⟨u', hu1, v, e1, hu2, e2⟩
      cases e with
      | normal => exact ⟨hd0, key⟩
      | ret => exact ⟨hd0, key⟩
      | exit k => exact absurd rfl (d3 k)
      | pan v => exact absurd rfl (d2 v)
end
end Go.Proofs.Z
end
section
namespace Go.Proofs.Z
open Go
def CLe (c c' : CallF) : Prop := ∀ f a G o, c f a G = some o → c' f a G = some o
def LLe (l l' : LoopF) : Prop := ∀ b v a env G o, l b v a env G = some o → l' b v a env G = some o
theorem CLe.rfl' {c : CallF} : CLe c c := fun _ _ _ _ h => h
theorem LLe.rfl' {c : LoopF} : LLe c c := fun _ _ _ _ _ _ h => h
variable {pg : Prg} {c c' : CallF} {l l' : LoopF}
theorem evCallAt_mono (h : CLe c c') {f : Nat} {args : List AV} {G : Heap} {o : Out × Heap}
    (hr : evCallAt pg c f args G = some o) : evCallAt pg c' f args G = some o := by
  unfold evCallAt at hr ⊢
  split at hr
  · cases hr
  · split at hr
    · cases hr
    · split at hr
      · cases hr
      · rename_i hc
        rw [h _ _ _ _ hc]
        exact hr
theorem evOp_mono (h : CLe c c') {o : COp} {env : Env} {G : Heap} {r : Res}
    (hr : evOp pg c o env G = some r) : evOp pg c' o env G = some r := by
  cases o
  case call f args =>
    unfold evOp at hr ⊢
    dsimp only at hr ⊢
    split at hr
    · revert hr
      cases hc : evCallAt pg c f _ G with
      | none => intro hr; simp [Res.of] at hr
      | some o => rw [evCallAt_mono h hc]; exact id
    · cases hr
  case pcall f args =>
    unfold evOp at hr ⊢
    dsimp only at hr ⊢
    split at hr
    · split at hr
      · rename_i hx
        rw [if_pos hx]
        split at hr
        · rename_i hc; rw [h _ _ _ _ hc]; exact hr
        · cases hr
      · cases hr
    · cases hr
  case callv x args =>
    unfold evOp at hr ⊢
    dsimp only at hr ⊢
    split at hr
    · split at hr
      · rename_i hx
        rw [if_pos hx]
        revert hr
        cases hc : evCallAt pg c _ _ G with
        | none => intro hr; simp [Res.of] at hr
        | some o => rw [evCallAt_mono h hc]; exact id
      · cases hr
    · revert hr
      cases hc : evCallAt pg c _ _ G with
      | none => intro hr; simp [Res.of] at hr
      | some o => rw [evCallAt_mono h hc]; exact id
    · cases hr
  all_goals exact hr
theorem evOps_mono (h : CLe c c') : ∀ (ops : List CI) {env : Env} {G : Heap} {r : Ex × Env × Heap},
    evOps pg c ops env G = some r → evOps pg c' ops env G = some r
  | [], _, _, _, hr => hr
  | i :: ops, env, G, r, hr => by
    unfold evOps at hr ⊢
    split at hr
    · cases hr
    · exact evOps_mono h ops hr
    · split at hr
      · cases hr
      · rename_i he
        rw [evOp_mono h he]
        exact evOps_mono h ops hr
      · rename_i he
        rw [evOp_mono h he]
        exact hr
theorem evCI_mono (h : CLe c c') {o : CI} {env : Env} {G : Heap} {r : AV × Heap} (hr : evCI pg c o env G = some r) : evCI pg c' o env G = some r := by
  unfold evCI at hr ⊢
  split at hr
  · cases hr
  · exact hr
  · revert hr
    cases ha : evOp pg c o.o env G with
    | none => intro hr; cases hr
    | some x => rw [evOp_mono h ha]; exact id
theorem evSnap_mono (h : CLe c c') : ∀ (ops : List CI) {env : Env} {G : Heap} {r : List (Env × Heap)}, evSnap pg c ops env G = some r → evSnap pg c' ops env G = some r
  | [], _, _, _, hr => hr
  | i :: ops, env, G, r, hr => by
    unfold evSnap at hr ⊢
    split at hr
    · cases hr
    · rename_i he
      rw [evCI_mono h he]
      dsimp only
      split at hr
      · cases hr
      · rename_i hs
        rw [evSnap_mono h ops hs]
        exact hr
theorem evCode_mono (h : CLe c c') (hl : LLe l l') (base : Nat) : ∀ (a : CCode) {env : Env} {G : Heap} {r : Ex × Env × Heap},
    evCode pg c l base a env G = some r → evCode pg c' l' base a env G = some r
  | .skip, _, _, _, hr => hr
  | .ret, _, _, _, hr => hr
  | .exit _, _, _, _, hr => hr
  | .seq a b, env, G, r, hr => by
    unfold evCode at hr ⊢
    cases ha : evCode pg c l base a env G with
    | none => rw [ha] at hr; cases hr
    | some x =>
      rw [evCode_mono h hl base a ha]
      rw [ha] at hr
      rcases x with ⟨e, env', G'⟩
      cases e with
      | normal => exact evCode_mono h hl base b hr
      | _ => exact hr
  | .ops live ops, env, G, r, hr => by
    unfold evCode at hr ⊢
    cases ha : evOps pg c ops env G with
    | none => rw [ha] at hr; cases hr
    | some x => rw [evOps_mono h ops ha]; rw [ha] at hr; exact hr
  | .draw live pre rest chk, env, G, r, hr => by
    unfold evCode at hr ⊢
    cases ha : evSnap pg c (pre ++ rest) env G with
    | none => rw [ha] at hr; cases hr
    | some x => rw [evSnap_mono h _ ha]; rw [ha] at hr; exact hr
  | .rangeF live lin ps x asg body, env, G, r, hr => by
    unfold evCode at hr ⊢
    split at hr
    · split at hr
      · cases hr
      · rename_i hx
        rw [if_neg hx]
        revert hr
        cases ha : evCallAt pg c _ _ _ with
        | none => intro hr; cases hr
        | some x => rw [evCallAt_mono h ha]; exact id
    · cases hr
  | .cond x a b, env, G, r, hr => by
    unfold evCode at hr ⊢
    split at hr
    · rename_i hx
      split at hr
      · rename_i hb; rw [if_pos hb]; exact evCode_mono h hl base a hr
      · rename_i hb; rw [if_neg hb]; exact evCode_mono h hl base b hr
    · cases hr
  | .block id a, env, G, r, hr => by
    unfold evCode at hr ⊢
    cases ha : evCode pg c l base a env G with
    | none => rw [ha] at hr; cases hr
    | some x => rw [evCode_mono h hl base a ha]; rw [ha] at hr; exact hr
  | .loop live a, env, G, r, hr => by
    unfold evCode at hr ⊢
    split at hr
    · exact hl _ _ _ _ _ _ hr
    · cases hr
theorem evFun_mono (h : CLe c c') (hl : LLe l l') {x : CFun} {env : Env} {G : Heap} {r : Out × Heap}
    (hr : evFun pg c l x env G = some r) : evFun pg c' l' x env G = some r := by
  unfold evFun at hr ⊢
  cases ha : evCode pg c l G.length x.body env G with
  | none => rw [ha] at hr; cases hr
  | some y =>
    rw [evCode_mono h hl _ _ ha]; rw [ha] at hr
    dsimp only at hr ⊢
    split at hr
    · split at hr
      · cases hr
      · rename_i hx
        rw [if_neg hx]
        revert hr
        cases hb : evCallAt pg c _ _ _ with
        | none => intro hr; cases hr
        | some z => rw [evCallAt_mono h hb]; exact id
    · cases hr
    · exact hr
theorem evYld_mono (h : CLe c c') (hl : LLe l l') {args : List AV} {G : Heap} {r : Out × Heap}
    (hr : evYld pg c l args G = some r) : evYld pg c' l' args G = some r := by
  unfold evYld at hr ⊢
  split at hr
  · split at hr
    · split at hr
      · rename_i hx
        rw [if_pos hx]
        revert hr
        cases ha : evCode pg c l _ _ _ _ with
        | none => intro hr; cases hr
        | some y =>
          rw [evCode_mono h hl _ _ ha]
          intro hr
          split at hr
          · rename_i he
            cases he
            try dsimp only
            split at hr
            · revert hr
              cases hb : evCode pg c l _ _ _ _ with
              | none => intro hr; cases hr
              | some z => rw [evCode_mono h hl _ _ hb]; exact id
            · cases hr
          · cases hr
      · cases hr
    · cases hr
  · cases hr
theorem ev_mono_succ : ∀ n, CLe (evCall pg n) (evCall pg (n + 1)) ∧ LLe (evLoop pg n) (evLoop pg (n + 1))
  | 0 => ⟨fun _ _ _ _ h => by simp [evCall] at h, fun _ _ _ _ _ _ h => by simp [evLoop] at h⟩
  | n + 1 => by
    obtain ⟨hc, hl⟩ := ev_mono_succ n
    constructor
    · intro f a G o h
      unfold evCall at h ⊢
      by_cases hf : f = yF
      · rw [if_pos hf] at h ⊢; exact evYld_mono hc hl h
      · rw [if_neg hf] at h ⊢
        by_cases hd : f < dF
        · rw [if_pos hd] at h ⊢
          split at h
          · exact h
          · split at h
            · split at h
              · rename_i hx; rw [if_pos hx]; exact evFun_mono hc hl h
              · cases h
            · cases h
        · rw [if_neg hd] at h ⊢
          split at h
          · split at h
            · split at h
              · rename_i hx
                rw [if_pos hx]
                revert h
                cases hb : evFun pg _ _ _ _ _ with
                | none => intro h; cases h
                | some z => rw [evFun_mono hc hl hb]; exact id
              · cases h
            · cases h
          · cases h
    · intro b v a env G o h
      unfold evLoop at h ⊢
      cases ha : evCode pg (evCall pg n) (evLoop pg n) b a env G with
      | none => rw [ha] at h; cases h
      | some x =>
        rw [evCode_mono hc hl _ _ ha]
        rw [ha] at h
        rcases x with ⟨e, env', G'⟩
        cases e with
        | normal =>
          dsimp only at h ⊢
          split at h
          · exact hl _ _ _ _ _ _ h
          · cases h
        | _ => exact h
theorem ev_mono {n m : Nat} (hnm : n ≤ m) : CLe (evCall pg n) (evCall pg m) ∧ LLe (evLoop pg n) (evLoop pg m) := by
  induction hnm with
  | refl => exact ⟨CLe.rfl', LLe.rfl'⟩
  | step _ ih => exact ⟨fun _ _ _ _ h => (ev_mono_succ _).1 _ _ _ _ (ih.1 _ _ _ _ h), fun _ _ _ _ _ _ h => (ev_mono_succ _).2 _ _ _ _ _ _ (ih.2 _ _ _ _ _ _ h)⟩
open Classical in
noncomputable def E (pg : Prg) : CallF := fun f a G => if h : ∃ o, ∃ n, evCall pg n f a G = some o then some h.choose else none
open Classical in
noncomputable def L (pg : Prg) : LoopF := fun b v a env G => if h : ∃ o, ∃ n, evLoop pg n b v a env G = some o then some h.choose else none
theorem E_iff {f : Nat} {a : List AV} {G : Heap} {o : Out × Heap} : E pg f a G = some o ↔ ∃ n, evCall pg n f a G = some o := by
  unfold E
  constructor
  · intro h
    split at h
    · rename_i hx
      obtain ⟨n, hn⟩ := hx.choose_spec
      cases h
      exact ⟨n, hn⟩
    · cases h
  · rintro ⟨n, hn⟩
    have hx : ∃ o, ∃ n, evCall pg n f a G = some o := ⟨o, n, hn⟩
    rw [dif_pos hx]
    obtain ⟨m, hm⟩ := hx.choose_spec
    have h1 := (ev_mono (pg := pg) (Nat.le_max_left n m)).1 _ _ _ _ hn
    have h2 := (ev_mono (pg := pg) (Nat.le_max_right n m)).1 _ _ _ _ hm
    rw [h1] at h2
    exact h2.symm
theorem L_iff {b : Nat} {v : List Nat} {a : CCode} {env : Env} {G : Heap} {o : Ex × Env × Heap} : L pg b v a env G = some o ↔ ∃ n, evLoop pg n b v a env G = some o := by
  unfold L
  constructor
  · intro h
    split at h
    · rename_i hx
      obtain ⟨n, hn⟩ := hx.choose_spec
      cases h
      exact ⟨n, hn⟩
    · cases h
  · rintro ⟨n, hn⟩
    have hx : ∃ o, ∃ n, evLoop pg n b v a env G = some o := ⟨o, n, hn⟩
    rw [dif_pos hx]
    obtain ⟨m, hm⟩ := hx.choose_spec
    have h1 := (ev_mono (pg := pg) (Nat.le_max_left n m)).2 _ _ _ _ _ _ hn
    have h2 := (ev_mono (pg := pg) (Nat.le_max_right n m)).2 _ _ _ _ _ _ hm
    rw [h1] at h2
    exact h2.symm
theorem le_E (n : Nat) : CLe (evCall pg n) (E pg) := fun _ _ _ _ h => E_iff.2 ⟨n, h⟩
theorem le_L (n : Nat) : LLe (evLoop pg n) (L pg) := fun _ _ _ _ _ _ h => L_iff.2 ⟨n, h⟩
theorem evCallAt_fin {f : Nat} {args : List AV} {G : Heap} {o : Out × Heap}
    (hr : evCallAt pg (E pg) f args G = some o) : ∃ n, evCallAt pg (evCall pg n) f args G = some o := by
  unfold evCallAt at hr ⊢
  split at hr
  · cases hr
  · split at hr
    · cases hr
    · split at hr
      · cases hr
      · rename_i hc
        obtain ⟨n, hn⟩ := E_iff.1 hc
        refine ⟨n, ?_⟩
        rw [hn]
        exact hr
theorem evOp_fin {o : COp} {env : Env} {G : Heap} {r : Res}
    (hr : evOp pg (E pg) o env G = some r) : ∃ n, evOp pg (evCall pg n) o env G = some r := by
  cases o
  case call f args =>
    unfold evOp at hr ⊢
    dsimp only at hr ⊢
    split at hr
    · revert hr
      cases hc : evCallAt pg (E pg) f _ G with
      | none => intro hr; simp [Res.of] at hr
      | some o => intro hr; obtain ⟨n, hn⟩ := evCallAt_fin hc; exact ⟨n, by rw [hn]; exact hr⟩
    · cases hr
  case pcall f args =>
    unfold evOp at hr ⊢
    dsimp only at hr ⊢
    split at hr
    · split at hr
      · rename_i hx
        simp only [if_pos hx]
        split at hr
        · rename_i hc; obtain ⟨n, hn⟩ := E_iff.1 hc; exact ⟨n, by rw [hn]; exact hr⟩
        · cases hr
      · cases hr
    · cases hr
  case callv x args =>
    unfold evOp at hr ⊢
    dsimp only at hr ⊢
    split at hr
    · split at hr
      · rename_i hx
        simp only [if_pos hx]
        revert hr
        cases hc : evCallAt pg (E pg) _ _ G with
        | none => intro hr; simp [Res.of] at hr
        | some o => intro hr; obtain ⟨n, hn⟩ := evCallAt_fin hc; exact ⟨n, by rw [hn]; exact hr⟩
      · cases hr
    · revert hr
      cases hc : evCallAt pg (E pg) _ _ G with
      | none => intro hr; simp [Res.of] at hr
      | some o => intro hr; obtain ⟨n, hn⟩ := evCallAt_fin hc; exact ⟨n, by rw [hn]; exact hr⟩
    · cases hr
  all_goals exact ⟨0, hr⟩
theorem evOps_fin : ∀ (ops : List CI) {env : Env} {G : Heap} {r : Ex × Env × Heap},
    evOps pg (E pg) ops env G = some r → ∃ n, evOps pg (evCall pg n) ops env G = some r
  | [], _, _, _, hr => ⟨0, hr⟩
  | i :: ops, env, G, r, hr => by
    unfold evOps at hr ⊢
    split at hr
    · cases hr
    · exact evOps_fin ops hr
    · split at hr
      · cases hr
      · rename_i he
        obtain ⟨n, hn⟩ := evOp_fin he
        obtain ⟨m, hm⟩ := evOps_fin ops hr
        refine ⟨Nat.max n m, ?_⟩
        rw [evOp_mono (ev_mono (Nat.le_max_left n m)).1 hn]
        exact evOps_mono (ev_mono (Nat.le_max_right n m)).1 ops hm
      · rename_i he
        obtain ⟨n, hn⟩ := evOp_fin he
        exact ⟨n, by rw [hn]; exact hr⟩
theorem evCI_fin {o : CI} {env : Env} {G : Heap} {r : AV × Heap} (hr : evCI pg (E pg) o env G = some r) : ∃ n, evCI pg (evCall pg n) o env G = some r := by
  unfold evCI at hr ⊢
  split at hr
  · cases hr
  · exact ⟨0, hr⟩
  · revert hr
    cases ha : evOp pg (E pg) o.o env G with
    | none => intro hr; cases hr
    | some x => intro hr; obtain ⟨n, hn⟩ := evOp_fin ha; exact ⟨n, by rw [hn]; exact hr⟩
theorem evSnap_fin : ∀ (ops : List CI) {env : Env} {G : Heap} {r : List (Env × Heap)}, evSnap pg (E pg) ops env G = some r → ∃ n, evSnap pg (evCall pg n) ops env G = some r
  | [], _, _, _, hr => ⟨0, hr⟩
  | i :: ops, env, G, r, hr => by
    unfold evSnap at hr ⊢
    split at hr
    · cases hr
    · rename_i he
      obtain ⟨n, hn⟩ := evCI_fin he
      try dsimp only at hr
      split at hr
      · cases hr
      · rename_i hs
        obtain ⟨m, hm⟩ := evSnap_fin ops hs
        refine ⟨Nat.max n m, ?_⟩
        rw [evCI_mono (ev_mono (Nat.le_max_left n m)).1 hn]
        dsimp only
        rw [evSnap_mono (ev_mono (Nat.le_max_right n m)).1 ops hm]
        exact hr
theorem evCode_fin (base : Nat) : ∀ (a : CCode) {env : Env} {G : Heap} {r : Ex × Env × Heap},
    evCode pg (E pg) (L pg) base a env G = some r → ∃ n, evCode pg (evCall pg n) (evLoop pg n) base a env G = some r
  | .skip, _, _, _, hr => ⟨0, hr⟩
  | .ret, _, _, _, hr => ⟨0, hr⟩
  | .exit _, _, _, _, hr => ⟨0, hr⟩
  | .seq a b, env, G, r, hr => by
    unfold evCode at hr ⊢
    cases ha : evCode pg (E pg) (L pg) base a env G with
    | none => rw [ha] at hr; cases hr
    | some x =>
      obtain ⟨n, hn⟩ := evCode_fin base a ha
      rw [ha] at hr
      rcases x with ⟨e, env', G'⟩
      cases e with
      | normal =>
        obtain ⟨m, hm⟩ := evCode_fin base b hr
        refine ⟨Nat.max n m, ?_⟩
        rw [evCode_mono (ev_mono (Nat.le_max_left n m)).1 (ev_mono (Nat.le_max_left n m)).2 base a hn]
        exact evCode_mono (ev_mono (Nat.le_max_right n m)).1 (ev_mono (Nat.le_max_right n m)).2 base b hm
      | _ => exact ⟨n, by rw [hn]; exact hr⟩
  | .ops live ops, env, G, r, hr => by
    unfold evCode at hr ⊢
    cases ha : evOps pg (E pg) ops env G with
    | none => rw [ha] at hr; cases hr
    | some x => obtain ⟨n, hn⟩ := evOps_fin ops ha; rw [ha] at hr; exact ⟨n, by rw [hn]; exact hr⟩
  | .draw live pre rest chk, env, G, r, hr => by
    unfold evCode at hr ⊢
    cases ha : evSnap pg (E pg) (pre ++ rest) env G with
    | none => rw [ha] at hr; cases hr
    | some x => obtain ⟨n, hn⟩ := evSnap_fin _ ha; rw [ha] at hr; exact ⟨n, by rw [hn]; exact hr⟩
  | .rangeF live lin ps x asg body, env, G, r, hr => by
    unfold evCode at hr ⊢
    split at hr
    · split at hr
      · cases hr
      · rename_i hx
        simp only [if_neg hx]
        revert hr
        cases ha : evCallAt pg (E pg) _ _ _ with
        | none => intro hr; cases hr
        | some x => intro hr; obtain ⟨n, hn⟩ := evCallAt_fin ha; exact ⟨n, by rw [hn]; exact hr⟩
    · cases hr
  | .cond x a b, env, G, r, hr => by
    unfold evCode at hr ⊢
    split at hr
    · rename_i hx
      split at hr
      · rename_i hb; simp only [if_pos hb]; exact evCode_fin base a hr
      · rename_i hb; simp only [if_neg hb]; exact evCode_fin base b hr
    · cases hr
  | .block id a, env, G, r, hr => by
    unfold evCode at hr ⊢
    cases ha : evCode pg (E pg) (L pg) base a env G with
    | none => rw [ha] at hr; cases hr
    | some x => obtain ⟨n, hn⟩ := evCode_fin base a ha; rw [ha] at hr; exact ⟨n, by rw [hn]; exact hr⟩
  | .loop live a, env, G, r, hr => by
    unfold evCode at hr ⊢
    split at hr
    · exact L_iff.1 hr
    · cases hr
theorem evFun_fin {x : CFun} {env : Env} {G : Heap} {r : Out × Heap}
    (hr : evFun pg (E pg) (L pg) x env G = some r) : ∃ n, evFun pg (evCall pg n) (evLoop pg n) x env G = some r := by
  unfold evFun at hr ⊢
  cases ha : evCode pg (E pg) (L pg) G.length x.body env G with
  | none => rw [ha] at hr; cases hr
  | some y =>
    obtain ⟨n, hn⟩ := evCode_fin _ _ ha
    rw [ha] at hr
    rcases y with ⟨e, env', G'⟩
    dsimp only at hr
    cases hk : lk env' dK with
    | none => rw [hk] at hr; exact ⟨n, by rw [hn]; dsimp only; rw [hk]; exact hr⟩
    | some v =>
      rw [hk] at hr
      cases v with
      | fn f fi cap =>
        dsimp only at hr
        split at hr
        · cases hr
        · rename_i hx
          revert hr
          cases hb : evCallAt pg (E pg) (f + dF) (e.pv :: cap) G' with
          | none => intro hr; cases hr
          | some z =>
            intro hr
            obtain ⟨m, hm⟩ := evCallAt_fin hb
            refine ⟨Nat.max n m, ?_⟩
            rw [evCode_mono (ev_mono (Nat.le_max_left n m)).1 (ev_mono (Nat.le_max_left n m)).2 _ _ hn]
            dsimp only
            rw [hk]
            dsimp only
            rw [if_neg hx, evCallAt_mono (ev_mono (Nat.le_max_right n m)).1 hm]
            exact hr
      | _ => cases hr
theorem evYld_fin {args : List AV} {G : Heap} {r : Out × Heap}
    (hr : evYld pg (E pg) (L pg) args G = some r) : ∃ n, evYld pg (evCall pg n) (evLoop pg n) args G = some r := by
  unfold evYld at hr ⊢
  split at hr
  · split at hr
    · split at hr
      · rename_i hx
        simp only [if_pos hx]
        revert hr
        cases ha : evCode pg (E pg) (L pg) _ _ _ _ with
        | none => intro hr; cases hr
        | some y =>
          intro hr
          obtain ⟨n, hn⟩ := evCode_fin _ _ ha
          split at hr
          · rename_i he
            cases he
            split at hr
            · rename_i hg
              revert hr
              cases hb : evCode pg (E pg) (L pg) _ _ _ _ with
              | none => intro hr; cases hr
              | some z =>
                intro hr
                obtain ⟨m, hm⟩ := evCode_fin _ _ hb
                refine ⟨Nat.max n m, ?_⟩
                rw [evCode_mono (ev_mono (Nat.le_max_left n m)).1 (ev_mono (Nat.le_max_left n m)).2 _ _ hn]
                dsimp only
                rw [hg]
                simp only [evCode_mono (ev_mono (Nat.le_max_right n m)).1 (ev_mono (Nat.le_max_right n m)).2 _ _ hm]
                exact hr
            · cases hr
          · cases hr
      · cases hr
    · cases hr
  · cases hr
theorem E_code {f : Nat} {x : CFun} (hf : okF f = true) (ho : pg.orc f = none) (hc : pg.code f = some x) {a : List AV} (hx : (Nat.blt x.md 2 && Nat.blt a.length dK) = true) (G : Heap) :
    E pg f a G = evFun pg (E pg) (L pg) x (initEnv 0 a) G := by
  simp only [okF, Bool.and_eq_true, Nat.blt_eq] at hf
  have h1 : ¬ f = yF := by unfold yF; omega
  apply Option.ext
  intro r
  constructor
  · intro h
    obtain ⟨n, hn⟩ := E_iff.1 h
    cases n with
    | zero => simp [evCall] at hn
    | succ n =>
      unfold evCall at hn
      rw [if_neg h1, if_pos hf.2, ho, hc] at hn
      dsimp only at hn
      rw [if_pos hx] at hn
      exact evFun_mono (le_E n) (le_L n) hn
  · intro h
    obtain ⟨n, hn⟩ := evFun_fin h
    refine E_iff.2 ⟨n + 1, ?_⟩
    unfold evCall
    rw [if_neg h1, if_pos hf.2, ho, hc]
    dsimp only
    rw [if_pos hx]
    exact hn
theorem E_orc {f : Nat} {F : List AV → Heap → Option (Out × Heap)} (hf : okF f = true) (ho : pg.orc f = some F) (a : List AV) (G : Heap) : E pg f a G = F a G := by
  simp only [okF, Bool.and_eq_true, Nat.blt_eq] at hf
  have h1 : ¬ f = yF := by unfold yF; omega
  apply Option.ext
  intro r
  constructor
  · intro h
    obtain ⟨n, hn⟩ := E_iff.1 h
    cases n with
    | zero => simp [evCall] at hn
    | succ n =>
      unfold evCall at hn
      rw [if_neg h1, if_pos hf.2, ho] at hn
      exact hn
  · intro h
    refine E_iff.2 ⟨1, ?_⟩
    unfold evCall
    rw [if_neg h1, if_pos hf.2, ho]
    exact h
theorem E_yld (a : List AV) (G : Heap) : E pg yF a G = evYld pg (E pg) (L pg) a G := by
  apply Option.ext
  intro r
  constructor
  · intro h
    obtain ⟨n, hn⟩ := E_iff.1 h
    cases n with
    | zero => simp [evCall] at hn
    | succ n =>
      unfold evCall at hn
      rw [if_pos rfl] at hn
      exact evYld_mono (le_E n) (le_L n) hn
  · intro h
    obtain ⟨n, hn⟩ := evYld_fin h
    refine E_iff.2 ⟨n + 1, ?_⟩
    unfold evCall
    rw [if_pos rfl]
    exact hn
theorem E_dfr {f : Nat} {x : CFun} (hc : pg.code f = some x) {v : AV} {a : List AV} (hx : (Nat.beq x.md 2 && Nat.blt a.length dK) = true) (G : Heap) :
    E pg (f + dF) (v :: a) G = match evFun pg (E pg) (L pg) x ((rK, v) :: initEnv 0 a) G with
      | some (.ret v, G) => some (.ret v, G)
      | _ => none := by
  have h1 : ¬ f + dF = yF := by unfold yF dF; omega
  have h2 : ¬ f + dF < dF := by omega
  have key : ∀ n, evCall pg (n + 1) (f + dF) (v :: a) G = match evFun pg (evCall pg n) (evLoop pg n) x ((rK, v) :: initEnv 0 a) G with
      | some (.ret v, G) => some (.ret v, G)
      | _ => none := fun n => by
    rw [evCall]
    rw [if_neg h1, if_neg h2]
    try dsimp only
    rw [Nat.add_sub_cancel, hc]
    dsimp only
    rw [if_pos hx]
    cases evFun pg (evCall pg n) (evLoop pg n) x ((rK, v) :: initEnv 0 a) G with
    | none => rfl
    | some r => rcases r with ⟨o, G'⟩; cases o <;> rfl
  apply Option.ext
  intro r
  constructor
  · intro h
    obtain ⟨n, hn⟩ := E_iff.1 h
    cases n with
    | zero => simp [evCall] at hn
    | succ n =>
      rw [key] at hn
      split at hn
      · rename_i he; rw [evFun_mono (le_E n) (le_L n) he]; exact hn
      · cases hn
  · intro h
    split at h
    · rename_i he
      obtain ⟨n, hn⟩ := evFun_fin he
      refine E_iff.2 ⟨n + 1, ?_⟩
      rw [key, hn]
      exact h
    · cases h
theorem L_eq (b : Nat) (v : List Nat) (a : CCode) (env : Env) (G : Heap) :
    L pg b v a env G = match evCode pg (E pg) (L pg) b a env G with
      | some (.normal, env, G) => match gc b v env G with
        | some (env, G) => L pg b v a env G
        | none => none
      | r => r := by
  apply Option.ext
  intro r
  constructor
  · intro h
    obtain ⟨n, hn⟩ := L_iff.1 h
    cases n with
    | zero => simp [evLoop] at hn
    | succ n =>
      unfold evLoop at hn
      cases ha : evCode pg (evCall pg n) (evLoop pg n) b a env G with
      | none => rw [ha] at hn; cases hn
      | some x =>
        rw [evCode_mono (le_E n) (le_L n) _ _ ha]
        rw [ha] at hn
        rcases x with ⟨e, env', G'⟩
        cases e with
        | normal =>
          dsimp only at hn ⊢
          split at hn
          · rename_i hg
            rw [hg]
            exact le_L n _ _ _ _ _ _ hn
          · cases hn
        | _ => exact hn
  · intro h
    cases ha : evCode pg (E pg) (L pg) b a env G with
    | none => rw [ha] at h; cases h
    | some x =>
      obtain ⟨n, hn⟩ := evCode_fin b a ha
      rw [ha] at h
      rcases x with ⟨e, env', G'⟩
      cases e with
      | normal =>
        dsimp only at h
        split at h
        · rename_i env₂ G₂ hg
          obtain ⟨m, hm⟩ := L_iff.1 h
          refine L_iff.2 ⟨Nat.max n m + 1, ?_⟩
          unfold evLoop
          rw [evCode_mono (ev_mono (Nat.le_max_left n m)).1 (ev_mono (Nat.le_max_left n m)).2 b a hn]
          dsimp only
          rw [hg]
          exact (ev_mono (Nat.le_max_right n m)).2 _ _ _ _ _ _ hm
        · cases h
      | _ =>
        refine L_iff.2 ⟨n + 1, ?_⟩
        unfold evLoop
        rw [hn]
        exact h
end Go.Proofs.Z
end
section
namespace Go.Proofs.Z
open Go
variable [hP : HasP]
structure PrgOK (pg : Prg) : Prop where
  mixed : hP.P.follows .mixedOrders = true
  size : hP.P.funcs.size ≤ dF
  code : ∀ f c, pg.code f = some c → FnOK hP.P f c
  orc : ∀ f F, pg.orc f = some F → Entered hP.P f ∧ ∀ args G out G', F args G = some (out, G') → ∀ m μ w vargs, Inv m μ G w → (∀ id, id < G.length → ∃ l, μ id = some l) → RL m μ (inf G) vargs args →
    CallsIn (Fn none) 0 hP.P f vargs.toArray w (Back m μ G w G' out)
theorem fnOK_entered {f : Nat} {c : CFun} (h : FnOK hP.P f c) : Entered hP.P f := by
  obtain ⟨fn, code, h1, h2, h3, _⟩ := h.ok
  exact ⟨fn, h1, h3, by rw [h2]; rfl⟩
section
attribute [local irreducible] CallsX
variable {pg : Prg}
theorem sound_all (h : PrgOK pg) : ∀ n, CallSound hP.P (evCall pg n) ∧ CallEnters hP.P (evCall pg n) ∧ LoopSound (evLoop pg n) n
  | 0 => ⟨fun f args G out G' hc => by simp [evCall] at hc, fun f args G r hc => by simp [evCall] at hc, fun N E md ro _ _ _ _ _ live c code env G e env' G' a w m μ Q _ _ hl => by simp [evLoop] at hl⟩
  | n + 1 => by
    obtain ⟨hC, hE, hL⟩ := sound_all h n
    refine ⟨?_, ?_, ?_⟩
    · intro f args G out G' hc m μ w vargs hI ht hr
      unfold evCall at hc
      unfold CallsX
      by_cases e1 : f = yF
      · rw [if_pos e1] at hc ⊢
        exact yld_sound h.mixed hC hE hL hc hI ht hr
      · rw [if_neg e1] at hc ⊢
        by_cases e2 : f < dF
        · rw [if_pos e2] at hc ⊢
          split at hc
          · rename_i F ho
            exact (h.orc f F ho).2 args G out G' hc m μ w vargs hI ht hr
          · split at hc
            · rename_i c hcode
              split at hc
              · rename_i hx
                simp only [Bool.and_eq_true, Nat.blt_eq] at hx
                exact fun_sound h.mixed hC hE hL (h.code f c hcode) hx.1 hx.2 hc hI ht hr
              · cases hc
            · cases hc
        · rw [if_neg e2] at hc ⊢
          split at hc
          · rename_i v args
            split at hc
            · rename_i c hcode
              split at hc
              · rename_i hx
                simp only [Bool.and_eq_true, Nat.blt_eq] at hx
                obtain ⟨pv, rest, rfl, hpv, hr'⟩ := hr.inv_cons
                split at hc
                · rename_i rv G2 he
                  cases hc
                  exact ⟨pv, rest, rfl, fun u hu => dfr_sound h.mixed hC hE hL (h.code _ c hcode) (Nat.eq_of_beq_eq_true hx.1) hx.2 he hI ht hpv hr' hu⟩
                · cases hc
              · cases hc
            · cases hc
          · cases hc
    · intro f args G r hc e1
      unfold evCall at hc
      rw [if_neg e1] at hc
      by_cases e2 : f < dF
      · rw [if_pos e2] at hc
        rw [Nat.mod_eq_of_lt e2]
        split at hc
        · rename_i F ho
          exact (h.orc f F ho).1
        · split at hc
          · rename_i c hcode
            exact fnOK_entered (h.code f c hcode)
          · cases hc
      · rw [if_neg e2] at hc
        split at hc
        · split at hc
          · rename_i c hcode
            have hf := h.code _ c hcode
            obtain ⟨fn, _, h1, _⟩ := hf.ok
            have hlt : f - dF < dF := Nat.lt_of_lt_of_le (Array.getElem?_eq_some_iff.1 h1).1 h.size
            have : f % dF = f - dF := by
              rw [Nat.mod_eq_sub_mod (by omega), Nat.mod_eq_of_lt hlt]
            rw [this]
            exact fnOK_entered hf
          · cases hc
        · cases hc
    · intro N E md ro hE0 hE1 hN hmm hro live c code env G e env' G' a w m μ Q hcc hlv hl hp hq
      unfold evLoop at hl
      cases hev : evCode pg (evCall pg n) (evLoop pg n) E.G.length c env G with
      | none => rw [hev] at hl; cases hl
      | some r =>
        rcases r with ⟨e1, env1, G1⟩
        rw [hev] at hl
        rw [roundsIn_succ]
        refine code_sound (k := n) h.mixed hC hE hL hE0 hE1 hN hmm hro code c hcc hev hp ?_
        cases e1 with
        | normal =>
          intro a' w' m' μ' hp'
          dsimp only at hl
          split at hl
          · rename_i env2 G2 hg
            have hlv' := hlv
            simp only [Bool.and_eq_true] at hlv'
            obtain ⟨μ2, hp2⟩ := gc_sound hE0 hE1 (fun k hk => by simpa using List.all_eq_true.1 hlv'.1 k hk) (okLive_mem (by rw [← hmm]; rfl) hlv'.2) hg hp'
            exact hL N E md ro hE0 hE1 hN hmm hro hcc hlv hl hp2 hq
          · cases hl
        | exit id => cases hl; exact ends_then (by simp) hq
        | ret => cases hl; exact ends_then (by simp) hq
        | pan v => cases hl; exact ends_then (by simp) hq
theorem E_sound (h : PrgOK pg) {f : Nat} (hf : okF f = true) {args : List AV} {out : Out} {G G' : Heap} (he : E pg f args G = some (out, G')) {m : Mem} {μ : Mu} {w : World} {vargs : List Value} (hI : Inv m μ G w) (ht : ∀ id, id < G.length → ∃ l, μ id = some l) (hr : RL m μ (inf G) vargs args) :
    CallsIn (Fn none) 0 hP.P f vargs.toArray w (Back m μ G w G' out) := by
  obtain ⟨n, hn⟩ := E_iff.1 he
  exact ((sound_all h n).1 f args G out G' hn m μ w vargs hI ht hr).fn hf
end
end Go.Proofs.Z
end
section
namespace Go.Proofs.Z
open Go
def comp (P : Program) (f md : Nat) : Option (CCode × List CRes) := match P.funcs[f]? with
  | some fn => if (fn.name == "runtime.NumGoroutine") = true then none else cFunc P fn md
  | none => none
def CFun.fit (c : CFun) : Bool := liveOK c.md c.body && c.res.all fun r => Nat.blt r.tmp dK
variable [hP : HasP]
theorem fnOK {f : Nat} {c : CFun} (h : comp hP.P f c.md = some (erase c.body, c.res)) (h2 : c.fit = true) : FnOK hP.P f c := by
  simp only [CFun.fit, Bool.and_eq_true, List.all_eq_true, Nat.blt_eq] at h2
  unfold comp at h
  split at h
  · rename_i fn hf
    split at h
    · cases h
    · rename_i hn
      unfold cFunc at h
      split at h
      · cases h
      · rename_i code hb
        split at h
        · rename_i b r h1 hr
          split at h
          · rename_i hle
            cases h
            refine ⟨fn, code, hf, hb, by simpa using hn, Nat.le_of_ble_eq_true hle, hr, fun x hx => ?_, h2.1, ?_⟩
            · obtain ⟨y, hy, rfl⟩ := List.mem_map.1 hx
              exact h2.2 y hy
            · by_cases hmd : c.md < 2
              · rw [if_pos hmd]; rw [if_pos (by simpa [Nat.blt_eq] using hmd)] at h1; exact h1
              · rw [if_neg hmd]; rw [if_neg (by simpa [Nat.blt_eq] using hmd)] at h1; exact h1
          · cases h
        · cases h
  · cases h
def AllOK : List (Nat × CFun) → Prop
  | [] => True
  | p :: r => FnOK hP.P p.1 p.2 ∧ AllOK r
theorem AllOK.mem : ∀ {l : List (Nat × CFun)}, AllOK l → ∀ f c, (f, c) ∈ l → FnOK hP.P f c
  | [], _, f, c, h => by simp at h
  | p :: r, hl, f, c, h => by
    rcases List.mem_cons.1 h with rfl | h
    · exact hl.1
    · exact hl.2.mem f c h
abbrev Orc := List AV → Heap → Option (Out × Heap)
def mkPrg (tbl : List (Nat × CFun)) (orc : List (Nat × Orc)) : Prg :=
  ⟨fun f => (tbl.find? (fun p => Nat.beq p.1 f)).map (·.2), fun f => (orc.find? (fun p => Nat.beq p.1 f)).map (·.2)⟩
omit hP in
theorem mkPrg_code {tbl : List (Nat × CFun)} {orc : List (Nat × Orc)} {f : Nat} {c : CFun} (h : (mkPrg tbl orc).code f = some c) : (f, c) ∈ tbl := by
  simp only [mkPrg, Option.map_eq_some_iff] at h
  obtain ⟨p, h1, rfl⟩ := h
  have := List.find?_some h1
  have e : p.1 = f := Nat.eq_of_beq_eq_true this
  subst e
  exact List.mem_of_find?_eq_some h1
omit hP in
theorem mkPrg_orc {tbl : List (Nat × CFun)} {orc : List (Nat × Orc)} {f : Nat} {F : Orc} (h : (mkPrg tbl orc).orc f = some F) : (f, F) ∈ orc := by
  simp only [mkPrg, Option.map_eq_some_iff] at h
  obtain ⟨p, h1, rfl⟩ := h
  have := List.find?_some h1
  have e : p.1 = f := Nat.eq_of_beq_eq_true this
  subst e
  exact List.mem_of_find?_eq_some h1
end Go.Proofs.Z
end
section
namespace Go.Proofs.Z
open Go
section
variable (P : Program)
def qLeaf : Nat → TypeId → Nat → List (Nat × Nat)
  | 0, _, _ => []
  | d + 1, t, base => match P.underlying t with
    | some .bool => [(base, 0)]
    | some (.int _) => [(base, 1)]
    | some .string => [(base, 2)]
    | some (.struct fs) => fs.toList.flatMap fun (f : Field) => qLeaf d f.type (base + f.offset)
    | some (.array len e) => match cSize P e with
      | some n => (List.range len).flatMap fun i => qLeaf d e (base + i * n)
      | none => []
    | _ => []
def qOp (o : Op) : Option COp := match o with
  | .binOp op t x y _ => match P.underlying t with
    | some (.struct _) | some (.array _ _) => match cSize P t, cOpd x, cOpd y with
      | some n, some x, some y => some (.bin op (.leaves n (qLeaf P 8 t 0)) x y)
      | _, _, _ => none
    | _ => cOp P o
  | o => cOp P o
def qOpers (ops : Array Oper) : List Oper → Option (List CI)
  | [] => some []
  | o :: r => match qOp P o.op, qOpers ops r with
    | some c, some l => match o.guard with
      | none => some (⟨match c with | .dfr _ => some dK | _ => o.dst, c, none⟩ :: l)
      | some (j, w) => match (ops[j]?).bind (·.dst) with
        | some d => some (⟨o.dst, c, some (d, w)⟩ :: l)
        | none => none
    | _, _ => none
def numAf : List (List Nat) → Nat → List (Nat × Nat)
  | [], _ => []
  | a :: r, k => a.map (fun e => (k, e)) ++ numAf r (k + 1)
def qCode : Code → Option CCode
  | .skip => some .skip
  | .ret => some .ret
  | .exit id => some (.exit id)
  | .seq a b => match qCode a, qCode b with
    | some a, some b => some (.seq a b)
    | _, _ => none
  | .region _ ops false => match cRcv 99999 ops with
    | some c => some c
    | none => (qOpers P ops ops.toList).map (.ops [])
  | .region _ ops true => (qOpers P ops ops.toList).map fun l => .draw [] l [] (numAf (ops.toList.map binding) 0)
  | .cond c a b => match cOpd c, qCode a, qCode b with
    | some c, some a, some b => some (.cond c a b)
    | _, _, _ => none
  | .block id a => (qCode a).map (.block id)
  | .loop a => (qCode a).map (.loop [])
  | .rangeFunc x ps a b => match cOpd x, qCode a, qCode b with
    | some x, some a, some b => some (.rangeF [] [] ps.toList x a b)
    | _, _, _ => none
  | _ => none
def qFunc (k : Nat) : Option (CCode × List CRes) := match P.funcs[k]? with
  | none => none
  | some f => match f.body with
    | none => none
    | some b => match qCode P b, cRes P f.results.toList with
      | some c, some r => some (c, r)
      | _, _ => none
end
def down (n : Nat) : Nat := match Nat.ble dK n with | true => Nat.sub n 1047676 | false => n
def upw (n : Nat) : Nat := match Nat.ble 900 n with | true => Nat.add n 1047676 | false => n
def bit (n : Nat) : Nat := Nat.shiftLeft 1 (down n)
def bits (l : List Nat) : Nat := l.foldr (fun n s => Nat.lor (bit n) s) 0
def bdel (s n : Nat) : Nat := Nat.xor (Nat.lor s (bit n)) (bit n)
def bhas (s n : Nat) : Bool := Nat.beq (Nat.mod (Nat.shiftRight s n) 2) 1
def blist : Nat → Nat → Nat → List Nat
  | 0, _, _ => []
  | f + 1, k, s => match Nat.beq (Nat.mod s 2) 1 with
    | true => upw k :: blist f (k + 1) (Nat.shiftRight s 1)
    | false => match Nat.beq s 0 with
      | true => []
      | false => blist f (k + 1) (Nat.shiftRight s 1)
def afOf (chk : List (Nat × Nat)) (k : Nat) : List Nat := (chk.filter fun p => Nat.beq p.1 k).map (·.2)
def ancB : Nat → List (Nat × Nat) → Nat → List Nat → List Nat
  | 0, _, _, acc => acc
  | n + 1, chk, k, acc => ancB n chk (k + 1) (acc ++ [(afOf chk k).foldr (fun j s => Nat.lor (Nat.shiftLeft 1 j) (Nat.lor (acc.getD j 0) s)) 0])
def kNum (l : List CI) : List Nat := l.map fun c => kindOf c.o
def andB (a b : Bool) : Bool := match a with | true => b | false => false
def orB (a b : Bool) : Bool := match a with | true => true | false => b
def notB (a : Bool) : Bool := match a with | true => false | false => true
def effB (ks : List Nat) (pre : Nat) (i : Nat) : Bool := andB (Nat.ble 2 (ks.getD i 9)) (notB (bhas pre i))
def preB (ks : List Nat) (T : List Nat) : Nat :=
  let n := ks.length
  let fl := (List.range n).filter fun i => andB (Nat.beq (ks.getD i 9) 2) ((List.range n).any fun j => andB (Nat.ble 2 (ks.getD j 9)) (andB (notB (Nat.beq i j)) (andB (notB (bhas (T.getD i 0) j)) (notB (bhas (T.getD j 0) i)))))
  fl.foldr (fun i s => Nat.lor (Nat.shiftLeft 1 i) (Nat.lor (T.getD i 0) s)) 0
def mayB (ks : List Nat) (T : List Nat) (pre : Nat) (i : Nat) (done : Nat) : Bool :=
  (List.range ks.length).all fun e => orB (notB (effB ks pre e)) (match bhas done e with | true => notB (bhas (T.getD e 0) i) | false => notB (bhas (T.getD i 0) e))
def bsum (l : List Nat) : Nat := l.foldr (fun n s => Nat.lor (Nat.shiftLeft 1 n) s) 0
def chksB (ks : List Nat) (T : List Nat) (pre : Nat) (npre : Nat) (o : List Nat) : List (Nat × Nat) :=
  let eff := (List.range o.length).filter fun k => effB ks pre (o.getD k 0)
  let places := npre :: eff.map (· + 1)
  (List.range o.length).flatMap fun k => let i := o.getD k 0
    match Nat.beq (ks.getD i 9) 1 with
    | true => (places.filter fun q => andB (mayB ks T pre i (bsum ((o.take q).filter fun e => effB ks pre e))) (notB (andB (Nat.ble npre k) (andB (Nat.ble q k) (places.all fun q' => orB (Nat.ble q' q) (Nat.blt k q')))))).map fun q => (k, q)
    | false => []
def drawB (l : List CI) (af : List (Nat × Nat)) : List CI × List CI × List (Nat × Nat) :=
  let ks := kNum l
  let T := ancB l.length af 0 []
  let pre := preB ks T
  let ps := (List.range l.length).filter fun i => bhas pre i
  let rs := (List.range l.length).filter fun i => notB (bhas pre i)
  ((pickL l ps).map CI.pc, pickL l rs, chksB ks T pre ps.length (ps ++ rs))
def liveOps : List CI → Nat → Nat
  | [], s => s
  | i :: r, s => Nat.lor (match i.d with | some d => bdel (liveOps r s) d | none => liveOps r s) (bits (ciReads i))
def exOf : List (Nat × Nat) → Nat → Nat
  | [], _ => 0
  | (k, s) :: r, id => match Nat.beq k id with | true => s | false => exOf r id
def exAll : List (Nat × Nat) → Nat
  | [] => 0
  | (_, s) :: r => Nat.lor s (exAll r)
def fixL (f : Nat → Nat) : Nat → Nat → Nat
  | 0, s => s
  | n + 1, s => match Nat.beq (Nat.lor s (f s)) s with | true => s | false => fixL f n (Nat.lor s (f s))
def dels (s : Nat) : List Nat → Nat
  | [] => s
  | p :: r => dels (bdel s p) r
def lv (al : Nat) : CCode → Nat → List (Nat × Nat) → Nat → Nat
  | .skip, s, _, _ => s
  | .ret, _, _, rs => rs
  | .exit id, _, ex, _ => exOf ex id
  | .seq a b, s, ex, rs => lv al a (lv al b s ex rs) ex rs
  | .ops _ l, s, _, _ => Nat.lor al (liveOps l s)
  | .draw _ l _ af, s, _, _ => match drawB l af with | (p, r, _) => Nat.lor al (liveOps (p ++ r) s)
  | .cond c a b, s, ex, rs => Nat.lor (bits (oT c)) (Nat.lor (lv al a s ex rs) (lv al b s ex rs))
  | .block id a, s, ex, rs => lv al a s ((id, s) :: ex) rs
  | .loop _ a, _, ex, rs => fixL (fun s => Nat.lor al (lv al a s ex rs)) 20 0
  | .rangeF _ _ ps x a b, s, ex, rs => Nat.lor (bits (oT x)) (Nat.lor (dels (lv 0 a (lv 0 b 0 [] 0) [] 0) ps) (Nat.lor s (Nat.lor rs (exAll ex))))
def ann (al : Nat) : CCode → Nat → List (Nat × Nat) → Nat → List CCode → CCode × List CCode
  | .skip, _, _, _, k => (.skip, k)
  | .ret, _, _, _, k => (.ret, k)
  | .exit id, _, _, _, k => (.exit id, k)
  | .seq a b, s, ex, rs, k => match ann al a (lv al b s ex rs) ex rs k with
    | (a, k) => match ann al b s ex rs k with
      | (b, k) => (.seq a b, k)
  | .ops _ l, s, _, _, k => (.ops (blist 999 0 (Nat.lor al s)) l, k)
  | .draw _ l _ af, s, _, _, k => match drawB l af with | (p, r, c) => (.draw (blist 999 0 (Nat.lor al s)) p r c, k)
  | .cond c a b, s, ex, rs, k => match ann al a s ex rs k with
    | (a, k) => match ann al b s ex rs k with
      | (b, k) => (.cond c a b, k)
  | .block id a, s, ex, rs, k => match ann al a s ((id, s) :: ex) rs k with
    | (a, k) => (.block id a, k)
  | .loop l a, s, ex, rs, k => match ann al a (lv al (.loop l a) s ex rs) ex rs k with
    | (b, k) => (.loop (blist 999 0 (lv al (.loop l a) s ex rs)) (.exit (1000 + k.length)), k ++ [b])
  | .rangeF _ _ ps x a b, s, ex, rs, k => match ann 0 a (lv 0 b 0 [] 0) [] 0 k with
    | (a', k) => match ann 0 b 0 [] 0 k with
      | (b', k) => (.rangeF (blist 999 0 (Nat.lor al s)) (blist 999 0 (dels (lv 0 a (lv 0 b 0 [] 0) [] 0) ps)) ps x a' b', k)
def resB (r : List CRes) : Nat := bits (r.map fun | .t n => n | .cell a _ _ => a)
def hasDfr : CCode → Bool
  | .seq a b | .cond _ a b => orB (hasDfr a) (hasDfr b)
  | .block _ a | .loop _ a => hasDfr a
  | .ops _ l => l.any fun c => match c.o with | .dfr _ => true | _ => false
  | _ => false
def hasRcv : CCode → Bool
  | .seq a b | .cond _ a b => orB (hasRcv a) (hasRcv b)
  | .block _ a | .loop _ a => hasRcv a
  | .ops _ l => l.any fun c => match c.o with | .mov (.t n) => Nat.beq n rK | _ => false
  | _ => false
def mdOf (c : CCode) : Nat := match hasDfr c with | true => 1 | false => match hasRcv c with | true => 2 | false => 0
def an (r : Option (CCode × List CRes)) : CCode × List CCode × List CRes × Nat := match r with
  | some (c, r) => match ann (match hasDfr c with | true => Nat.lor (bit dK) (resB r) | false => 0) c (resB r) [] (resB r) [] with
    | (c', l) => (c', l, r, mdOf c)
  | none => (.skip, [], [], 0)
def subc (cs : List CCode) : CCode → CCode
  | .seq a b => .seq (subc cs a) (subc cs b)
  | .cond c a b => .cond c (subc cs a) (subc cs b)
  | .block id a => .block id (subc cs a)
  | .loop l a => .loop l (match a with | .exit n => cs.getD (n - 1000) .skip | a => a)
  | .rangeF l m ps x a b => .rangeF l m ps x (subc cs a) (subc cs b)
  | c => c
def mk (a : CCode × List CCode × List CRes × Nat) (ka kr : Bool) (cs : List CCode) : CFun := ⟨subc cs a.1, a.2.2.1, ka, kr, a.2.2.2⟩
def ml (a : CCode × List CCode × List CRes × Nat) (cs : List CCode) : CCode := subc cs (a.2.1.getD cs.length .skip)
def w {α : Type} (r : α) {l : α} (_ : r = l := by conv => lhs; reduce) : α := l
def mkAll (a : CCode × List CCode × List CRes × Nat) (ka kr : Bool) : CFun :=
  let cs := a.2.1.foldl (fun cs b => cs ++ [subc cs b]) []
  mk a ka kr cs
end Go.Proofs.Z
end
section
namespace Go.Proofs.Z
theorem u8l (n : Nat) (h : n < 2 ^ 8) : UInt8.ofBitVec ⟨⟨n, h⟩⟩ = UInt8.ofNat n := by
  apply UInt8.toNat_inj.1
  have := UInt8.toNat_ofNat_of_lt' (n := n) h
  rw [this]; rfl
def wf {α : Type} (r : α) {l : α} (_ : r = l := by conv => lhs; reduce; simp only [u8l, Int.ofNat_eq_natCast, Int.cast_ofNat_Int]) : α := l
@[simp ↓] theorem wf_eq {α : Type} {r l : α} (h : r = l) : @wf α r l h = l := rfl
end Go.Proofs.Z
end
