/- gossamerlaw24.DeskLimits: whatever the input, the law returns true, and the arguments read afterwards as they did before. No condition of our own is added. -/
import Derived.Test.YtmlaokgdomfmgaaGreatDoorL32
import Derived.Test.YtmlaokgdomfmgaaGreatDoorL33
import Derived.Test.YtmlaokgdomfmgaaGreatDoorL35
import Derived.Test.YtmlaokgdomfmgaaGreatDoorL36
import Derived.Test.YtmlaokgdomfmgaaGreatDoorCards
import Derived.WalkKit
import Derived.ProofKit
import Derived.OpenShut
import Derived.ShutString
import Derived.ChangeOld
import Derived.Below
import Derived.LaidMore
import Derived.LaidLaws
import Derived.Stop.Joined
import Derived.JoinedOf
set_option linter.all false
section
namespace Go.Proofs.YtmlaokgdomfmgaaGreatDoor
open Go.ChangeShapes Go.WideShapes Go.ChangeAt Go.RowKit Go.Proofs.Z
set_option maxRecDepth 100000
theorem ownK : ownKnob Tryz.prog.godebug = none := by kernel_rfl
theorem handed_sh {H : Type} {enc : TypeId × Value → H} {a : Assume} {C : Checked} {os : Os} {f : FuncId} {fn : Func} {s : ChangeSpec} {conds : List PathCond} {apart fresh handsOn again : Bool} {X : World → Array Value → Prop}
    (hX : ∀ (w w' : World) (args : Array Value), w.heap = w'.heap → X w args → X w' args)
    (own : ownKnob C.prog.godebug = none) (started : os.Started) (noInit : C.prog.inits.idxOf? f = none) (hfn : C.prog.funcs[f]? = some fn)
    (witness : ∃ (w : World) (tape : Tape) (i : Input), w.os = os ∧ (w.forCall tape i).Shaped C.prog ∧ i.vars = [] ∧ Input.okWide C.prog (w.forCall tape i) .any w.heap.size f i ∧
      ((s.pre enc C.prog fn conds apart (w.forCall tape i).memory i.args ∧ X (w.forCall tape i).memory i.args) ∧ sizedMet enc C.prog fn (OpenSpec.ofChange s) apart (w.forCall tape i).memory i.args) ∧ a.holds C.prog (lone (Frame.enter C.prog f i.args .normal) [] (w.forCall tape i)))
    (contract : ∀ (W : World) (base : Nat) (args : Array Value) (ds gs : List (DataW H)) (before : List MemPlace),
      (∀ (j : Nat) t v, fn.params[j]? = some t → args[j]? = some v → Value.okWide C.prog W .any base t v) →
      DataW.Whole enc C.prog fn.params.toList s.vars apart W args.toList ds gs before → X W args → W.ShapedOpen C.prog →
      Calls C.prog f args W fun e W' => ∃ v, e = .returned v ∧ s.post enc C.prog fn apart fresh handsOn again W args v W') :
    ReturnsInHanded a C os f .any (fun w args => (s.pre enc C.prog fn conds apart w args ∧ X w args) ∧ sizedMet enc C.prog fn (OpenSpec.ofChange s) apart w args) (s.post enc C.prog fn apart fresh handsOn again) := by
  refine returnsInHanded_of_calls own started noInit witness ?_
  intro w tape i _ hsh _ hok hpre hholds
  obtain ⟨_, _, _, fn', hfn', _, _, _, _, hval⟩ := hok
  have e : fn' = fn := Option.some.inj (hfn'.symm.trans hfn)
  subst e
  obtain ⟨⟨⟨ds, gs, before, hw, hc⟩, hx⟩, hz⟩ := hpre
  have hw' := DataW.Whole.of_heap (w' := w.forCall tape i) (by rfl) hw
  refine (contract (w.forCall tape i) w.heap.size i.args ds gs before hval hw' (hX _ _ _ (by rfl) hx) hsh).mono fun e W' ⟨v, he, hp⟩ => ?_
  subst he
  exact ChangeSpec.post_blind hp
theorem told {f : Nat} (hf : okF f = true) {args : List AV} {G : Heap} (he : E pgD f args [] = some (.ret (.p (.b true)), G)) {w : World} (hg : Glob (fun _ => none) w) {vargs : List Value} (hr : RL (mW w) (fun _ => none) (inf []) vargs args) :
    Calls Tryz.prog f vargs.toArray w fun e w' => e = .returned (.bool true) ∧ Below w.heap.size w w' := by
  have hI : Inv (mW w) (fun _ => none) [] w := ⟨fun b o v h => h, fun i j l l' h => (by cases h), fun id o h => (by simp at h), fun id loc h => (by cases h), hg⟩
  refine (callsIn_wide (n := 0)).1 (CallsIn.mono (E_sound pgD_ok hf he hI (fun id h => (by simp at h)) hr) fun e w' h => ?_)
  cases e with
  | returned v =>
    obtain ⟨m', μ', hI', hS, hO⟩ := h
    refine ⟨?_, ⟨hS.fr.os, hS.fr.tape, hS.fr.output, hS.fr.size, fun k hk => hS.fr.blk k hk (fun id loc h => (by cases h))⟩⟩
    have h : R m' μ' (inf G) v (.p (.b true)) := hO
    cases h with | p v x hp => cases hp; rfl
  | _ => first | exact h.elim | (obtain ⟨m', μ', hI', hS, hO⟩ := h; exact hO.elim)
theorem walkLimits {D : Dk} (hD : D.Ok) {n : Int} {w : World} (hg : Glob (fun _ => none) w) {v : Value} (hv : R (mW w) (fun _ => none) (inf []) v (.ag D.cs)) :
    Calls Tryz.prog 5 #[v, .int .i64 n] w fun e w' => e = .returned (.bool true) ∧ Below w.heap.size w w' := by
  refine told (vargs := [v, .int .i64 n]) rfl (s5 D hD n) hg ⟨rfl, fun j v' c h1 h2 => ?_⟩
  match j with
  | 0 => simp at h1 h2; subst h1 h2; exact hv
  | 1 => simp at h1 h2; subst h1 h2; exact .p _ _ (.i _ _)
  | j + 2 => simp at h1
theorem liftedLimits (os : Os) (started : os.Started) (H : Type) (enc : TypeId × Value → H) :
    ReturnsInHanded {} Tryz.checked os 5 .any (fun w args => (Rows.deskLimitsSpec.pre enc Tryz.prog Tryz.f5 [] false w args ∧ laidMetH Tryz.prog lL w) ∧ sizedMet enc Tryz.prog Tryz.f5 (OpenSpec.ofChange Rows.deskLimitsSpec) false w args)
      (Rows.deskLimitsSpec.post enc Tryz.prog Tryz.f5 false true false false) := by
  refine handed_sh (C := Tryz.checked) (X := fun w _ => laidMetH Tryz.prog lL w) (fun _ _ _ hh h => h.of_heap hh) ownK started jh5_noInit Tryz.func5
    (ChangeSpec.witness_shaped (enc := enc) (C := Tryz.checked) (os := os) (X := fun w _ => laidMetH Tryz.prog lL w) false (wW os) zArgs 8 rfl (wSh os) (wOk os) (wPre enc os) (wSz enc os) (met os _)) ?_
  intro W base args ds gs before hval0 hW hL hsh
  have hval : ∀ (j : Nat) t v, Tryz.f5.params[j]? = some t → args[j]? = some v → Value.okWide Tryz.prog W .any base t v := hval0
  have hW' := hW
  obtain ⟨p, q, hA0, hV, rfl, hfz, hnd⟩ := hW
  have hA : DataW.TrodAll enc Tryz.prog W 0 (fun _ => true) true Tryz.f5.params.toList args.toList ds p := hA0
  rw [Tryz.params5] at hA hval
  obtain ⟨v0, vs0, d0, ds0, p0, q0, hargs, rfl, rfl, h0, r0⟩ := trodAll_cons hA
  obtain ⟨v1, vs1, d1, ds1, p1, q1, rfl, rfl, rfl, h1, r1⟩ := trodAll_cons r0
  obtain ⟨rfl, rfl, rfl⟩ := trodAll_nil r1
  obtain rfl : args = #[v0, v1] := by cases args; simp_all
  obtain ⟨rfl, rfl⟩ := trodVars_none hV
  have k0 := h0
  have lt0 : ∀ x ∈ p0, x.block < W.heap.size := by obtain ⟨m, hm⟩ := k0; exact DataW.trod_lt m _ _ _ hm
  obtain ⟨D, hD, hv⟩ := open_desk (hval 0 35 v0 rfl rfl) h0
  obtain ⟨a1, rfl, rfl, rfl, w1⟩ := open_int Tryz.underlying3 (hval 1 3 v1 rfl rfl) h1
  clear hA0 hval0
  refine (walkLimits hD (glob_of hL hsh) hv).mono fun e W' ⟨he, bel⟩ => ?_
  subst he
  exact ⟨_, rfl, _, _, _, [], _, [], hW', trodAll_mk1 (shut_bool Tryz.underlying4 _), (trodAll_cons_mk (Below.trod jf5_lay (by kernel_rfl) (of_decide_eq_true (by kernel_rfl)) k0 bel lt0) (trodAll_cons_mk (shut_int Tryz.underlying3 w1) trodAll_mk0)), rfl, bel.frame _, fun h => by cases h⟩
theorem limitsRow : Rows.DeskLimitsSaid :=
  OpenClaim.holds_of_wide 5 Tryz.f5 rfl rfl rfl rfl rfl rfl rfl ⟨rfl, rfl, rfl, rfl, rfl⟩ rfl rfl rfl rfl rfl jh5_fn Tryz.func5 jf5 jh5_inst jh5_wrap
    (fun os started H enc _ => liftedLimits os started H enc)
theorem deskLimits_holds : Rows.DeskLimitsCardSaid :=
  Claim7.holds_tied_plain_at .later [] [.pinned, .data, .sentinel, .sentinel, .data, .data, .data, .data, .listed, .handle] true (true, "e1bc7262c49f8d73cd4c01980d1c7c16d6874c8fd42151b64429784552f00e1d") true
    limitsRow (fun _ h => by cases h) jh5_wf (fun _ h => by cases h) limits_tied rfl ⟨rfl, rfl⟩ jh_main rfl
    (fun f fn hf hfn => by
      obtain rfl : f = 5 := Option.some.inj (jh5_fn.symm.trans hf) |>.symm
      obtain rfl : fn = Tryz.f5 := (Option.some.inj (Tryz.func5.symm.trans hfn)).symm
      exact ⟨jh_looks, fun j t ht => by
        rw [Tryz.params5] at ht
        have hm : t ∈ [35, 3] := by simpa using Array.mem_of_getElem? ht
        exact (show Tryz.prog.wantsStandIn t = false by simpa using List.all_eq_true.1 jh5_std t hm)⟩)
    (goesBy_false rfl)
end Go.Proofs.YtmlaokgdomfmgaaGreatDoor
end
