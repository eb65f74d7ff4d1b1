/- A part of the proof. -/
import Derived.Test.YtmlaokgdomfmgaaGreatDoorL03
import Derived.Test.YtmlaokgdomfmgaaGreatDoorL05
import Derived.Test.YtmlaokgdomfmgaaGreatDoorL04
set_option linter.all false
section
namespace Go.Proofs.Z
open Go
variable [hP : HasP]
theorem one_inv {G : Heap} {x : Option AV} {r : Res} (h : one G x = some r) : ∃ v, x = some v ∧ r = .val v G := by
  cases x with
  | none => simp [one] at h
  | some v => simp [one] at h; exact ⟨v, rfl, h.symm⟩
def Entered (P : Program) (f : Nat) : Prop := ∃ fn, P.funcs[f]? = some fn ∧ (fn.name == "runtime.NumGoroutine") = false ∧ fn.body.isNone = false
def CallEnters (P : Program) (call : CallF) : Prop := ∀ f args G r, call f args G = some r → f ≠ yF → Entered P (f % dF)
theorem callFunc_run {P : Program} {f : Nat} (h : Entered P f) (args : Array Value) (w : World) : (callFunc f args).run P w = .ok (.enter f args) w := by
  obtain ⟨fn, h1, h2, h3⟩ := h
  have h4 : fn.name ≠ "runtime.NumGoroutine" := by simpa using h2
  have h5 : fn.body ≠ none := by intro e; rw [e] at h3; cases h3
  simp [callFunc, go_sem, h1, h4, h5]
section
variable {P : Program} {pg : Prg} {call : CallF} {o : Oper} {a : Act} {m : Mem} {μ : Mu} {G : Heap} {w : World} {N : Nat} {env : Env}
theorem evCallAt_enters (hE : CallEnters P call) {f : Nat} {args : List AV} {r : Out × Heap} (h : evCallAt pg call f args G = some r) (hf : f ≠ yF) : Entered P (f % dF) := by
  unfold evCallAt at h
  split at h
  · cases h
  · split at h
    · cases h
    · split at h
      · cases h
      · rename_i hcall
        exact hE _ _ _ _ hcall hf
theorem okF_spec {f : Nat} (h : okF f = true) : f ≠ yF ∧ f < dF ∧ f % dF = f := by
  simp only [okF, Bool.and_eq_true, Nat.blt_eq] at h
  exact ⟨by have := h.1; simp [yF]; omega, h.2, Nat.mod_eq_of_lt h.2⟩
theorem CallsX.fn {f : Nat} (hf : okF f = true) {vargs : List Value} {w : World} {Q : Ending → World → Prop} {ro : Option Nat} (h : CallsX P f vargs w Q) : CallsIn (Fn ro) 0 P f vargs.toArray w Q := by
  obtain ⟨h1, h2, _⟩ := okF_spec hf
  unfold CallsX at h
  rw [if_neg h1, if_pos h2] at h
  exact h
theorem no_depth {ro : Option Nat} {p : Prop} : (Fn ro).depth.isSome = true → p := fun h => by cases h
variable (hC : CallSound P call) (hE : CallEnters P call) (hI : Inv m μ G w) (he : EnvR m μ (inf G) N env a)
include hC hE hI he
theorem good_ends {vargs : List Value} {args : List AV} {f : Nat} (hr : RL m μ (inf G) vargs args) {r : Res} (h : Res.of (evCallAt pg call f args G) = some r)
    (hk : ∀ (ro : Option Nat) (next : Act → World → Prop) (Q : Exit → Act → World → Prop), CallsX P f vargs w (fun
      | .returned v, w'' => next (a.put o.dst v) w''
      | .panicked chain, w'' => Q (.panic chain) a w''
      | .outgrown, _ => LetsOut Q) → o.wpIn (Fn ro) 0 P a w next Q) : Good P o a m μ G w r := by
  cases hx : evCallAt pg call f args G with
  | none => rw [hx] at h; simp [Res.of] at h
  | some y =>
    rcases y with ⟨out, G'⟩
    rw [hx] at h
    have hcall := callAt_sound hC hI hx hr
    cases out with
    | ret v =>
      simp [Res.of] at h
      subst h
      intro ro next Q hn
      refine hk ro next Q (hcall.mono fun e w' hp => ?_)
      obtain ⟨m', μ', h1, h2, h3⟩ := hp
      cases e with
      | returned v' => exact hn m' μ' w' v' h1 h2 h3
      | panicked chain => exact h3.elim
      | outgrown => exact h3.elim
    | pan v =>
      simp [Res.of] at h
      subst h
      intro ro next Q hn
      refine hk ro next Q (hcall.mono fun e w' hp => ?_)
      obtain ⟨m', μ', h1, h2, h3⟩ := hp
      cases e with
      | returned v' => exact h3.elim
      | panicked chain =>
        obtain ⟨v', rfl, hv⟩ := h3
        exact hn m' μ' w' v' h1 h2 hv
      | outgrown => exact h3.elim
theorem good_enter {f : Nat} (hf : okF f = true) {vargs : List Value} {args : List AV} (hrun : Entered P f → (execOp a.eval o).run P w = .ok (.enter f vargs.toArray) w) (hr : RL m μ (inf G) vargs args) {r : Res} (h : Res.of (evCallAt pg call f args G) = some r) : Good P o a m μ G w r := by
  refine good_ends hC hE hI he hr h fun ro next Q hq => ?_
  have hent : Entered P f := by
    cases hx : evCallAt pg call f args G with
    | none => rw [hx] at h; simp [Res.of] at h
    | some y => have := evCallAt_enters hE hx (okF_spec hf).1; rwa [(okF_spec hf).2.2] at this
  unfold Oper.wpIn
  rw [sem_same (hrun hent) (not_dfr (hrun hent) (by simp))]
  refine ⟨fun _ _ => trivial, ?_⟩
  rw [Oper.uponIn_enter]
  exact ⟨no_depth, hq.fn hf⟩
theorem good_call {f : Nat} (hf : okF f = true) {xs : Array Operand} {ts : Array TypeId} (ho : o.op = .call ⟨.value (.func f), xs, ts⟩) {os : List Opd} (hx : cOpds xs.toList = some os) {args : List AV} (hv : opds env os = some args) {r : Res} (h : Res.of (evCallAt pg call f args G) = some r) : Good P o a m μ G w r := by
  refine good_enter hC hE hI he hf (vargs := xs.toList.map a.eval) (fun hent => ?_) (opds_R he hx hv) h
  have : (xs.toList.map a.eval).toArray = xs.map a.eval := by apply Array.ext'; simp
  rw [this]
  simp [execOp, ho, resolve, Deferred.ofValue, Act.eval, invoke, callFunc_run hent]
theorem good_callv {x : Operand} {xs : Array Operand} {ts : Array TypeId} (ho : o.op = .call ⟨.value x, xs, ts⟩) {ox : Opd} (hx : cOpd x = some ox) {os : List Opd} (hxs : cOpds xs.toList = some os) {f : Nat} (hok : okF f = true) {first cap : List AV} (hf : opd env ox = some (.fn f first cap)) {args : List AV} (hv : opds env os = some args) {r : Res} (h : Res.of (evCallAt pg call f (first ++ args ++ cap) G) = some r) : Good P o a m μ G w r := by
  obtain ⟨va, vb, e, h1, h2⟩ := (opd_R he hx hf).fnInv
  refine good_enter hC hE hI he hok (vargs := va.toList ++ xs.toList.map a.eval ++ vb.toList) (fun hent => ?_) ((h1.app (opds_R he hxs hv)).app h2) h
  have : (va.toList ++ xs.toList.map a.eval ++ vb.toList).toArray = va ++ xs.map a.eval ++ vb := by apply Array.ext'; simp
  rw [this]
  simp [execOp, ho, resolve, Deferred.ofValue, e, invoke, callFunc_run hent]
theorem good_yld {x : Operand} {xs : Array Operand} {ts : Array TypeId} (ho : o.op = .call ⟨.value x, xs, ts⟩) {ox : Opd} (hx : cOpd x = some ox) {os : List Opd} (hxs : cOpds xs.toList = some os) {id : Nat} (hf : opd env ox = some (.yld id)) {args : List AV} (hv : opds env os = some args) {r : Res} (h : Res.of (evCallAt pg call yF (.yld id :: args) G) = some r) : Good P o a m μ G w r := by
  have hy := opd_R he hx hf
  have hv' := opds_R he hxs hv
  generalize hz : a.eval x = z at hy
  cases hy with | yld _ loc q1 q2 =>
  refine good_ends hC hE hI he (.cons (.yld id loc q1 q2) hv') h fun ro next Q hq => ?_
  unfold CallsX at hq
  rw [if_pos rfl] at hq
  obtain ⟨l, rest, e, fn, tmps, asg, body, hrun, hround⟩ := hq
  cases e
  have hx' : (execOp a.eval o).run P w = .ok (.round loc.blk fn tmps asg body) w := by
    have e2 : (xs.toList.map a.eval).toArray = xs.map a.eval := by apply Array.ext'; simp
    rw [e2] at hrun
    simp [execOp, ho, resolve, Deferred.ofValue, hz, invoke, hrun]
  unfold Oper.wpIn
  rw [sem_same hx' (not_dfr hx' (by simp))]
  refine ⟨fun _ _ => trivial, ?_⟩
  rw [Oper.uponIn_round]
  exact ⟨no_depth, hround⟩
omit hC hE
theorem good_panic {x : Operand} {ox : Opd} (ho : o.op = .panic x) (hx : cOpd x = some ox) {v : AV} (hv : opd env ox = some v) {r : Res}
    (h : (match some v with
      | some (.ifc t v) => match norm G (.ifc t v) with
        | some (v, G) => some (Res.pan v G)
        | none => none
      | some (.p (.ifc t v)) => some (.pan (.p (.ifc t v)) G)
      | _ => none) = some r) : Good P o a m μ G w r := by
  have hr := opd_R he hx hv
  cases v with
  | ifc t v =>
    dsimp only at h
    split at h
    · rename_i v' G' hn
      cases h
      obtain ⟨m', hI', hS, hr'⟩ := norm_sound _ hI hn hr
      intro ro next Q hq
      generalize hz : a.eval x = z at hr hr'
      cases hr with | ifc _ z' _ hz' =>
      refine wp_of_pan (by simp [ho]) (w' := w) (v := .iface t z') ?_ ?_
      · simp only [execOp, ho, hz]; simp [Instr.panic, go_sem]
      · exact hq m' μ w _ hI' hS hr'
    · cases h
  | p x =>
    cases x with
    | ifc t v =>
      dsimp only at h
      cases h
      intro ro next Q hq
      have hr0 := hr
      generalize hz : a.eval x = z at hr
      cases hr with | p _ _ hp =>
      cases hp with | ifc _ z' _ hz' =>
      refine wp_of_pan (by simp [ho]) (w' := w) (v := .iface t z') ?_ ?_
      · simp only [execOp, ho, hz]; simp [Instr.panic, go_sem]
      · rw [hz] at hr0; exact hq m μ w _ hI (.refl _ _ _ _) hr0
    | _ => simp at h
  | _ => simp at h
theorem good_convs {x : Operand} {ox : Opd} {s d : TypeId} (ho : o.op = .convert s d x) (hs : P.underlying s = some .string) (hd : P.underlying d = some .string) (hx : cOpd x = some ox) {l : List UInt8} (hv : opd env ox = some (.p (.s l))) : Good P o a m μ G w (.val (.p (.s l)) G) := by
  have hb' := (opd_R he hx hv).str_inv
  exact .same hI (by simp [execOp, ho, hb', convert, run_underlying hs, run_underlying hd]) (.str _)
theorem good_lenA {args : Array Operand} {ts : Array TypeId} {x : Operand} {t e : TypeId} {n : Nat} (ho : o.op = .call ⟨.builtin .len, args, ts⟩) (ha : args.toList = [x]) (ht : ts[0]? = some t) (hd : P.underlying t = some (.array n e)) : Good P o a m μ G w (.val (.p (.i .i64 n)) G) := by
  have ha' : args = #[x] := by apply Array.ext'; simpa using ha
  refine .same hI (val := .int .i64 n) ?_ (.int _ _)
  simp [execOp, ho, ha', resolve, invoke, builtin, Builtin.len_, Builtin.lenOf, go_sem, ht, run_underlying hd]
end
end Go.Proofs.Z
end
section
namespace Go.Proofs.Z
open Go
variable [hP : HasP]
theorem RP.i_inv {m : Mem} {v : Value} {k : IntKind} {n : Int} (h : RP m v (.i k n)) : v = .int k n := by cases h; rfl
theorem RP.s_inv {m : Mem} {v : Value} {l : List UInt8} (h : RP m v (.s l)) : v = .string ⟨l.toArray⟩ := by cases h; rfl
theorem ba_beq (x y : Array UInt8) : ((⟨x⟩ : ByteArray) == ⟨y⟩) = decide (x = y) := by
  show ByteArray.beq _ _ = _
  unfold ByteArray.beq
  rw [Bool.eq_iff_iff]; simp
theorem eqK_symm {a b : PV} : eqK a b = eqK b a := by
  cases a <;> cases b <;> simp [eqK, eq_comm]
theorem eqK_eq {a b : PV} (h : eqK a b = true) (hs : sameK a b = true) : a = b := by
  cases a <;> cases b <;> simp_all [eqK, sameK]
theorem mins_perm (k v : PV) : ∀ l : List (PV × PV), (mins k v l).Perm ((k, v) :: l)
  | [] => .refl _
  | e :: r => by
    simp only [mins]
    split
    · exact .refl _
    · exact ((mins_perm k v r).cons e).trans (.swap _ _ _)
theorem pair_symm {l l' : List (PV × PV)} (h : l.Perm l') (hp : l'.Pairwise fun a b => eqK a.1 b.1 = false) : l.Pairwise fun a b => eqK a.1 b.1 = false :=
  (h.pairwise_iff (R := fun a b => eqK a.1 b.1 = false) (fun {a b} h => by rw [eqK_symm]; exact h)).2 hp
theorem any_perm {α : Type} {p : α → Bool} {l l' : List α} (h : l.Perm l') : l.any p = l'.any p := by
  rw [Bool.eq_iff_iff, List.any_eq_true, List.any_eq_true]
  exact ⟨fun ⟨x, a, b⟩ => ⟨x, h.mem_iff.1 a, b⟩, fun ⟨x, a, b⟩ => ⟨x, h.mem_iff.2 a, b⟩⟩
theorem set_map {k v : PV} : ∀ {l : List (PV × PV)} {i : Nat} {p : PV × PV}, l.Pairwise (fun a b => eqK a.1 b.1 = false) → (∀ e, e ∈ l → sameK k e.1 = true) → l[i]? = some p → eqK k p.1 = true →
    l.set i (k, v) = l.map fun e => if eqK k e.1 = true then (k, v) else e
  | [], i, p, _, _, hi, _ => by simp at hi
  | e :: r, i, p, hp, hs, hi, he => by
    obtain ⟨h1, h2⟩ := List.pairwise_cons.1 hp
    cases i with
    | zero =>
      simp at hi
      subst hi
      simp only [List.set_cons_zero, List.map_cons, if_pos he, List.cons.injEq, true_and]
      have ek := eqK_eq he (hs _ (by simp))
      symm
      rw [List.map_congr_left (g := id) (fun x hx => ?_)]
      · simp
      · rw [if_neg (by rw [ek]; simp [h1 x hx])]; rfl
    | succ i =>
      simp at hi
      have hm := List.mem_of_getElem? hi
      have : eqK k e.1 = false := by
        have e1 := eqK_eq he (hs _ (List.mem_cons_of_mem _ hm))
        rw [e1, eqK_symm]; exact h1 p hm
      simp only [List.set_cons_succ, List.map_cons, this, Bool.false_eq_true, if_false, List.cons.injEq, true_and]
      exact set_map h2 (fun x hx => hs x (by simp [hx])) hi he
theorem mput_keys {k v : PV} {l : List (PV × PV)} (hp : l.Pairwise fun a b => eqK a.1 b.1 = false) (hs : ∀ e, e ∈ l → sameK k e.1 = true) : (mput k v l).Pairwise fun a b => eqK a.1 b.1 = false := by
  unfold mput
  split
  · rw [List.pairwise_map]
    refine hp.imp_of_mem fun {a b} ha hb hab => ?_
    have : ∀ x, x ∈ l → (if eqK k x.1 = true then (k, v) else x).1 = x.1 := fun x hx => by
      split
      · exact eqK_eq (by assumption) (hs x hx)
      · rfl
    rw [this a ha, this b hb]; exact hab
  · rename_i hn
    refine pair_symm (mins_perm k v l) (List.pairwise_cons.2 ⟨fun x hx => ?_, hp⟩)
    simp only [List.any_eq_true, not_exists, not_and] at hn
    simpa using hn x hx
theorem find_spec {m : Mem} {kd : TypeDesc} {s : Bool} (hkd : kd = .string ∧ s = true ∨ ∃ q, kd = .int q ∧ s = false) {kv : Value} {k : PV} (hk : RP m kv k) (hks : k.key s = true) :
    ∀ (es : List MapEntry) (l : List (PV × PV)) (i : Nat), l.length = es.length → (∀ (j : Nat) (e : MapEntry) (p : PV × PV), es[j]? = some e → l[j]? = some p → RP m e.key p.1 ∧ RP m e.val p.2) → (∀ e, e ∈ l → sameK k e.1 = true) →
      (l.any (fun e => eqK k e.1) = false ∧ Instr.findNow kd kv es i = some none) ∨ ∃ j e p, es[j]? = some e ∧ l[j]? = some p ∧ eqK k p.1 = true ∧ Instr.findNow kd kv es i = some (some (i + j, e.val))
  | [], [], i, _, _, _ => .inl ⟨rfl, rfl⟩
  | [], _ :: _, i, h, _, _ => by simp at h
  | _ :: _, [], i, h, _, _ => by simp at h
  | e :: es, p :: l, i, hl, hr, hs => by
    obtain ⟨h1, h2⟩ := hr 0 e p rfl rfl
    have hsk := hs p (by simp)
    have hn : Instr.sameNow kd kv e.key = some (eqK k p.1) := by
      rcases p with ⟨p1, p2⟩
      dsimp only at h1 hsk ⊢
      rcases hkd with ⟨rfl, rfl⟩ | ⟨q, rfl, rfl⟩
      · cases k <;> simp [PV.key] at hks
        rename_i x
        cases p1 <;> simp [sameK] at hsk
        rename_i y
        rw [hk.s_inv, h1.s_inv]
        simp [Instr.sameNow, eqK, ba_beq]
      · cases k <;> simp [PV.key] at hks
        rename_i kk x
        cases p1 <;> simp [sameK] at hsk
        rename_i kk' y
        subst hsk
        rw [hk.i_inv, h1.i_inv]
        by_cases e : x = y <;> simp [Instr.sameNow, eqK, e]
    simp only [Instr.findNow, hn]
    cases he : eqK k p.1 with
    | true => exact .inr ⟨0, e, p, rfl, rfl, he, by simp⟩
    | false =>
      rcases find_spec hkd hk hks es l (i + 1) (by simpa using hl) (fun j e' p' a b => hr (j + 1) e' p' (by simpa using a) (by simpa using b)) (fun e' h => hs e' (by simp [h])) with ⟨a, b⟩ | ⟨j, e', p', a, b, c, d⟩
      · exact .inl ⟨by simp [he, a], b⟩
      · exact .inr ⟨j + 1, e', p', by simpa using a, by simpa using b, c, by rw [d]; simp; omega⟩
theorem mfind_at {k : PV} : ∀ {l : List (PV × PV)} {j : Nat} {p : PV × PV}, l.Pairwise (fun a b => eqK a.1 b.1 = false) → (∀ e, e ∈ l → sameK k e.1 = true) → p ∈ l → eqK k p.1 = true → mfind k l = some p.2
  | e :: r, j, p, hp, hs, hm, he => by
    obtain ⟨h1, h2⟩ := List.pairwise_cons.1 hp
    simp only [mfind]
    rcases List.mem_cons.1 hm with rfl | hm
    · rw [if_pos he]
    · have e1 := eqK_eq he (hs _ (List.mem_cons_of_mem _ hm))
      have : eqK k e.1 = false := by rw [e1, eqK_symm]; exact h1 p hm
      simp only [this, Bool.false_eq_true, if_false]
      exact mfind_at (j := j) h2 (fun x hx => hs x (by simp [hx])) hm he
theorem mfind_none {k : PV} : ∀ {l : List (PV × PV)}, l.any (fun e => eqK k e.1) = false → mfind k l = none
  | [], _ => rfl
  | e :: r, h => by
    simp only [List.any_cons, Bool.or_eq_false_iff] at h
    simp only [mfind, h.1, Bool.false_eq_true, if_false]
    exact mfind_none h.2
mutual
theorem av_R {m : Mem} {μ : Mu} {i : Inf} : ∀ {v : Value} {x : PV}, RP m v x → R m μ i v x.av
  | v, .ag l, h => by
    cases h with | ag cs _ h1 h2 =>
    refine .ag cs _ (by simp [pcs, h1]) (fun j v c a b => ?_)
    simp only [pcs, List.getElem?_map, Option.map_eq_some_iff] at b
    obtain ⟨c', b1, rfl⟩ := b
    exact .p _ _ (h2 j v c' a b1)
  | v, .b _, h => .p _ _ h
  | v, .i _ _, h => .p _ _ h
  | v, .s _, h => .p _ _ h
  | v, .sl _, h => .p _ _ h
  | v, .pn, h => .p _ _ h
  | v, .fnil, h => .p _ _ h
  | v, .inil, h => .p _ _ h
  | v, .ifc _ _, h => .p _ _ h
  | v, .opq, h => .p _ _ h
end
section
variable {P : Program} {o : Oper} {a : Act} {m : Mem} {μ : Mu} {G : Heap} {w : World} {N : Nat} {env : Env}
theorem zeroOf_run {t : TypeId} {z : AV} (h : zeroOf P t = some z) : ∃ v, (zeroValue t : Sem Value).run P w = .ok v w ∧ ofVal v = some z := by
  unfold zeroOf at h
  split at h
  · rename_i v hv
    obtain ⟨i, h1, h2⟩ := Option.bind_eq_some_iff.1 hv
    exact ⟨v, by simp [zeroValue, typeInfo, h1, h2], h⟩
  · cases h
theorem mapOK_spec {t : TypeId} (h : mapOK P t = true) : ∃ k e kd, P.underlying t = some (.map k e) ∧ P.underlying k = some kd ∧ (kd = .string ∧ keyStr P t = true ∨ ∃ q, kd = .int q ∧ keyStr P t = false) := by
  unfold mapOK at h
  split at h
  · rename_i k e ht
    split at h
    · rename_i q hk; exact ⟨k, e, _, ht, hk, .inr ⟨q, rfl, by simp [keyStr, ht, hk]⟩⟩
    · rename_i hk; exact ⟨k, e, _, ht, hk, .inl ⟨rfl, by simp [keyStr, ht, hk]⟩⟩
    · cases h
  · cases h
theorem key_run {k : TypeId} {kd : TypeDesc} {s b : Bool} (hk : P.underlying k = some kd) (hkd : kd = .string ∧ s = true ∨ ∃ q, kd = .int q ∧ s = false) {kv : Value} : (Instr.checkKey b 10000 k kv).run P w = .ok () w := by
  show (Instr.checkKey b (9999 + 1) k kv).run P w = .ok () w
  unfold Instr.checkKey
  simp only [Sem.run_bind, run_underlying hk, Result.andThen_ok]
  rcases hkd with ⟨rfl, _⟩ | ⟨q, rfl, _⟩ <;> rfl
variable (hI : Inv m μ G w) (he : EnvR m μ (inf G) N env a)
include hI he
theorem good_mkmap {t : TypeId} {k e : TypeId} (ho : o.op = .makeMap t none) : Good P o a m μ G w (.val (.map G.length) (G ++ [.map []])) := by
  intro ro next Q hn
  obtain ⟨h1, h2⟩ := alloc_stepO hI (.map []) (.map #[] 0) 0 _ rfl _ rfl (fun _ => ⟨#[], by simp, ⟨[], .refl _, rfl, fun i e p h => by simp at h⟩, fun i e h => by simp at h, .nil, hI.fresh (Nat.le_refl _)⟩)
  refine wp_of_val (w' := w.alloc (.map #[] 0)) (v := .map (some w.heap.size)) ?_ (hn _ _ _ _ h1 h2 ?_)
  · simp [execOp, ho, Instr.makeMap, run_newObj_alloc, Sem.run_bind, Result.andThen]
  · exact .map G.length ⟨w.heap.size, 0⟩ (by simp) (by rw [inf_last]; rfl)
theorem good_mput {t : TypeId} {x k v : Operand} (ho : o.op = .mapUpdate t x k v ∨ o.op = .insert t x k v) (ht : mapOK P t = true) {ox ok ov : Opd} (hx : cOpd x = some ox) (hk : cOpd k = some ok) (hv : cOpd v = some ov) {id : Nat} {kp vp : PV}
    (h1 : opd env ox = some (.map id)) (h2 : opd env ok = some (.p kp)) (h3 : (opd env ov).bind toP = some vp) {ents : List (PV × PV)} (hG : G[id]? = some (.map ents)) (hkk : kp.key (keyStr P t) = true) (hs : ents.all (fun e => sameK kp e.1) = true) :
    Good P o a m μ G w (.val .undef (G.set id (.map (mput kp vp ents)))) := by
  obtain ⟨av, h4, h5⟩ := Option.bind_eq_some_iff.1 h3
  have hrx := opd_R he hx h1
  have hrk := (opd_R he hk h2).p_inv
  have hrv := toP_sound _ h5 (opd_R he hv h4)
  generalize hkv : a.eval k = kv at hrk
  generalize hvv : a.eval v = vv at hrv
  obtain ⟨kt, e, kd, q1, q2, q3⟩ := mapOK_spec ht
  simp only [List.all_eq_true] at hs
  generalize hz : a.eval x = z at hrx
  cases hrx with | map _ loc g1 g2 =>
  obtain ⟨es, k1, ⟨l, l1, l2, l3⟩, k3, k4, k5⟩ := hI.obj id _ hG loc g1
  have hid : id < G.length := (List.getElem?_eq_some_iff.1 hG).1
  have hl := pair_symm l1 k4
  have hsl : ∀ e, e ∈ l → sameK kp e.1 = true := fun e h => hs e (l1.mem_iff.1 h)
  have hblt := hI.lt g1
  have hget : (getObj loc.blk).run P w = .ok (.map es es.size) w := by simp [getObj, Sem.run, k1]
  have fin : ∀ (es' : Array MapEntry) (l' : List (PV × PV)), (Instr.mapUpdate t (.map (some loc.blk)) kv vv).run P w = .ok () (w.putObj loc.blk (.map es' es'.size)) → l'.Perm (mput kp vp ents) → l'.length = es'.size →
      (∀ (i : Nat) (e : MapEntry) (p : PV × PV), es'[i]? = some e → l'[i]? = some p → RP m e.key p.1 ∧ RP m e.val p.2) → (∀ (i : Nat) (e : MapEntry), es'[i]? = some e → e.born = i) → Good P o a m μ G w (.val .undef (G.set id (.map (mput kp vp ents)))) := by
    intro es' l' hrun p1 p2 p3 p4 ro next Q hn
    obtain ⟨r1, r2⟩ := set_step (old := .map ents) (new := .map (mput kp vp ents)) (cs := #[]) (T := 0) hI hG g1 (w' := w.putObj loc.blk (.map es' es'.size)) rfl rfl rfl (by simp) (fun b hb => World.putObj_heap_other hb) (fun o v hm => by rw [k5 o] at hm; cases hm) (fun _ => rfl) (fun g sz h => by cases h)
      (fun _ => ⟨es', by simp [World.putObj, hblt], ⟨l', p1, p2, p3⟩, p4, mput_keys k4 hs, k5⟩)
    refine wp_of_skip (w' := w.putObj loc.blk (.map es' es'.size)) ?_ (hn _ _ _ _ r1 r2 .undef)
    rcases ho with ho | ho <;> simp [execOp, ho, hz, hkv, hvv, hrun]
  rcases find_spec q3 hrk hkk es.toList l 0 (by simpa using l2) (fun j e p a b => l3 j e p (by simpa using a) b) hsl with ⟨c1, c2⟩ | ⟨j, en, p, c1, c2, c3, c4⟩
  · refine fin (es.push { key := kv, val := vv, born := es.size }) (l ++ [(kp, vp)]) ?_ ?_ (by simp [l2]) ?_ ?_
    · simp [Instr.mapUpdate, Sem.run_bind, run_underlying q1, hget, key_run q2 q3, Instr.findKey, run_underlying q2, c2, setObj, Sem.run, k1, World.putObj, Result.andThen]
    · rw [any_perm l1] at c1
      unfold mput
      rw [if_neg (by rw [c1]; simp)]
      exact (List.perm_append_comm.trans (l1.cons _)).trans (mins_perm kp vp ents).symm
    · intro i e p h h'
      by_cases hlt : i < es.size
      · rw [Array.getElem?_push_lt hlt] at h
        rw [List.getElem?_append_left (by omega)] at h'
        exact l3 i e p (by rw [Array.getElem?_eq_getElem hlt]; exact h) h'
      · have hi : i = es.size := by
          have := (Array.getElem?_eq_some_iff.1 h).1
          simp at this; omega
        subst hi
        simp at h
        rw [← l2] at h'
        simp at h'
        subst h; subst h'
        exact ⟨hrk, hrv⟩
    · intro i e h
      by_cases hlt : i < es.size
      · rw [Array.getElem?_push_lt hlt] at h
        exact k3 i e (by rw [Array.getElem?_eq_getElem hlt]; exact h)
      · have hi : i = es.size := by
          have := (Array.getElem?_eq_some_iff.1 h).1
          simp at this; omega
        subst hi
        simp at h
        subst h; rfl
  · have c1' : es[j]? = some en := by simpa using c1
    have hjl := (Array.getElem?_eq_some_iff.1 c1').1
    have hstay : Instr.sameBits 10000 en.key kv = true := by
      have ek := eqK_eq c3 (hsl p (List.mem_of_getElem? c2))
      obtain ⟨r1, _⟩ := l3 j en p c1' c2
      rw [← ek] at r1
      rcases q3 with ⟨_, hq⟩ | ⟨_, _, hq⟩
      · rw [hq] at hkk
        cases kp <;> simp [PV.key] at hkk
        rw [hrk.s_inv, r1.s_inv]
        simp [Instr.sameBits, ba_beq]
      · rw [hq] at hkk
        cases kp <;> simp [PV.key] at hkk
        rw [hrk.i_inv, r1.i_inv]
        simp [Instr.sameBits]
    refine fin (es.modify j fun e => { e with key := kv, val := vv }) (l.set j (kp, vp)) ?_ ?_ (by simp [l2]) ?_ ?_
    · simp [Instr.mapUpdate, Sem.run_bind, run_underlying q1, hget, key_run q2 q3, Instr.findKey, run_underlying q2, c4, setObj, Sem.run, k1, World.putObj, Result.andThen, Instr.keyThatStays, c1', hstay]
    · have hany : l.any (fun e => eqK kp e.1) = true := List.any_eq_true.2 ⟨p, List.mem_of_getElem? c2, c3⟩
      rw [set_map hl hsl c2 c3]
      rw [any_perm l1] at hany
      unfold mput
      rw [if_pos hany]
      exact l1.map _
    · intro i e p' h h'
      rw [Array.getElem?_modify] at h
      split at h
      · rename_i hij
        subst hij
        rw [c1'] at h
        simp at h
        simp [List.getElem?_set, (List.getElem?_eq_some_iff.1 c2).1] at h'
        subst h; subst h'
        exact ⟨hrk, hrv⟩
      · rename_i hij
        rw [List.getElem?_set, if_neg hij] at h'
        exact l3 i e p' h h'
    · intro i e h
      rw [Array.getElem?_modify] at h
      split at h
      · rename_i hij
        subst hij
        rw [c1'] at h
        simp at h
        subst h
        exact k3 j en c1'
      · exact k3 i e h
theorem good_mget {t kt e : TypeId} {x k : Operand} {okk : Bool} (ho : o.op = .lookup t x k okk) (ht : mapOK P t = true) (hte : P.underlying t = some (.map kt e)) {z : AV} (hz : zeroOf P e = some z) {ox ok : Opd} (hx : cOpd x = some ox) (hk : cOpd k = some ok) {id : Nat} {kp : PV}
    (h1 : opd env ox = some (.map id)) (h2 : opd env ok = some (.p kp)) {ents : List (PV × PV)} (hG : G[id]? = some (.map ents)) (hkk : kp.key (keyStr P t) = true) (hs : ents.all (fun e => sameK kp e.1) = true) {r : Res}
    (hr : (match mfind kp ents with
          | some v => some (Res.val (if okk then .tup [v.av, .p (.b true)] else v.av) G)
          | none => some (.val (if okk then .tup [z, .p (.b false)] else z) G)) = some r) : Good P o a m μ G w r := by
  have hrx := opd_R he hx h1
  have hrk := (opd_R he hk h2).p_inv
  generalize hkv : a.eval k = kv at hrk
  obtain ⟨kt', e', kd, q1, q2, q3⟩ := mapOK_spec ht
  rw [hte] at q1
  cases q1
  simp only [List.all_eq_true] at hs
  generalize hzz : a.eval x = zz at hrx
  cases hrx with | map _ loc g1 g2 =>
  obtain ⟨es, k1, ⟨l, l1, l2, l3⟩, k3, k4, k5⟩ := hI.obj id _ hG loc g1
  have hl := pair_symm l1 k4
  have hsl : ∀ e, e ∈ l → sameK kp e.1 = true := fun e h => hs e (l1.mem_iff.1 h)
  have hget : (getObj loc.blk).run P w = .ok (.map es es.size) w := by simp [getObj, Sem.run, k1]
  have htt : ∀ (b : Bool), R m μ (inf G) (.bool b) (.p (.b b)) := fun b => .bool b
  rcases find_spec q3 hrk hkk es.toList l 0 (by simpa using l2) (fun j e p a b => l3 j e p (by simpa using a) b) hsl with ⟨c1, c2⟩ | ⟨j, en, p, c1, c2, c3, c4⟩
  · rw [any_perm l1] at c1
    rw [mfind_none c1] at hr
    cases hr
    obtain ⟨zv, z1, z2⟩ := zeroOf_run (w := w) hz
    have hrz := ofVal_R m μ (inf G) _ _ z2
    refine .same hI (val := if okk then .tuple #[zv, .bool false] else zv) ?_ ?_
    · simp [execOp, ho, hzz, hkv, Instr.lookup, Sem.run_bind, run_underlying hte, hget, key_run q2 q3, Instr.findKey, run_underlying q2, c2, z1, Result.andThen]
    · cases okk
      · exact hrz
      · exact .tupOf (.cons hrz (.cons (htt _) .nil))
  · obtain ⟨r1, r2⟩ := l3 j en p (by simpa using c1) c2
    rw [mfind_at (j := 0) k4 hs (l1.mem_iff.1 (List.mem_of_getElem? c2)) c3] at hr
    cases hr
    refine .same hI (val := if okk then .tuple #[en.val, .bool true] else en.val) ?_ ?_
    · simp [execOp, ho, hzz, hkv, Instr.lookup, Sem.run_bind, run_underlying hte, hget, key_run q2 q3, Instr.findKey, run_underlying q2, c4, Result.andThen]
    · cases okk
      · exact av_R r2
      · exact .tupOf (.cons (av_R r2) (.cons (htt _) .nil))
theorem good_tassert {x : Operand} {xt t : TypeId} {d : TypeDesc} (ho : o.op = .typeAssert x xt t true) (ht : P.underlying t = some d) (hd : ∀ ms, d ≠ .interface ms) {z : AV} (hz : zeroOf P t = some z) {ox : Opd} (hx : cOpd x = some ox) {t' : Nat} {v : AV}
    (h1 : opd env ox = some (.ifc t' v) ∨ ∃ v', opd env ox = some (.p (.ifc t' v')) ∧ v = v'.av) {r : Res} (hr : (if t' = t then some (Res.val (.tup [v, .p (.b true)]) G) else some (.val (.tup [z, .p (.b false)]) G)) = some r) : Good P o a m μ G w r := by
  have hv : ∃ zv, a.eval x = .iface t' zv ∧ R m μ (inf G) zv v := by
    rcases h1 with h1 | ⟨v', h1, rfl⟩
    · have := opd_R he hx h1
      generalize a.eval x = q at this
      cases this with | ifc _ z' _ h => exact ⟨z', rfl, h⟩
    · have := (opd_R he hx h1).p_inv
      generalize a.eval x = q at this
      cases this with | ifc _ z' _ h => exact ⟨z', rfl, av_R h⟩
  obtain ⟨zv, e1, e2⟩ := hv
  have htt : ∀ (b : Bool), R m μ (inf G) (.bool b) (.p (.b b)) := fun b => .bool b
  split at hr
  · rename_i e
    subst e
    cases hr
    refine .same hI (val := .tuple #[zv, .bool true]) ?_ (.tupOf (.cons e2 (.cons (htt _) .nil)))
    simp only [execOp, ho, e1, Instr.typeAssert, Sem.run_bind, run_underlying ht, Result.andThen_ok]
    cases d <;> first | simp [Result.andThen] | exact absurd rfl (hd _)
  · rename_i hne
    cases hr
    obtain ⟨zv', z1, z2⟩ := zeroOf_run (w := w) hz
    refine .same hI (val := .tuple #[zv', .bool false]) ?_ (.tupOf (.cons (ofVal_R m μ (inf G) _ _ z2) (.cons (htt _) .nil)))
    simp only [execOp, ho, e1, Instr.typeAssert, Sem.run_bind, run_underlying ht, Result.andThen_ok]
    cases d <;> first | simp [hne, z1, Result.andThen] | exact absurd rfl (hd _)
theorem good_clip {x h mx : Operand} {t e : TypeId} (ho : o.op = .slice t x none (some h) (some mx)) (ht : P.underlying t = some (.slice e)) {n : Nat} (hn : cSize P e = some n) {ox oh om : Opd} (hx : cOpd x = some ox) (hh : cOpd h = some oh) (hm : cOpd mx = some om) {rows : List (List PV)}
    (h1 : opd env ox = some (.p (.sl rows))) (h2 : opd env oh = some (.p (.i .i64 rows.length))) (h3 : opd env om = some (.p (.i .i64 rows.length))) : Good P o a m μ G w (.val (.clip rows) G) := by
  have hr := (opd_R he hx h1).p_inv
  have e2 := (opd_R he hh h2).int_inv
  have e3 := (opd_R he hm h3).int_inv
  obtain ⟨ad, cap, sz, f, e1, hcap, hs, ha, hf⟩ := hr.sl_inv
  refine .same hI (val := .slice ad rows.length rows.length) ?_ (.clip ad rows (.sl ad _ rows sz f (Nat.le_refl _) hs ha hf))
  have hb : (Instr.sliceBounds true rows.length cap none (some (.int .i64 rows.length)) (some (.int .i64 rows.length))).run P w = .ok (0, rows.length, rows.length) w := by
    simp [Instr.sliceBounds, Instr.sliceBound, asIntOf, go_sem, hcap]
  have h0 : (if rows.length = 0 then ad else ad.map (·.add (0 * n))) = ad := by
    split
    · rfl
    · cases ad <;> simp [Addr.add]
  have : (Instr.sliceAt t (a.eval x) none (some (a.eval h)) (some (a.eval mx))).run P w = .ok (.slice ad rows.length rows.length) w := by
    simp only [Instr.sliceAt, Sem.run_bind, run_underlying ht, Result.andThen_ok, Instr.slice, e1, e2, e3, hb, cSize_run hn, h0, Sem.run_pure, Nat.sub_zero]
  simp [execOp, ho, this]
end
end Go.Proofs.Z
end
section
namespace Go.Proofs.Z
open Go
variable [hP : HasP]
theorem map_inv {α β : Type} {x : Option α} {f : α → β} {y : β} (h : x.map f = some y) : ∃ a, x = some a ∧ y = f a := by
  cases x with
  | none => simp at h
  | some a => simp at h; exact ⟨a, rfl, h.symm⟩
section
variable {P : Program} {pg : Prg} {call : CallF} {o : Oper} {a : Act} {m : Mem} {μ : Mu} {G : Heap} {w : World} {N : Nat} {env : Env}
variable (hC : CallSound P call) (hE : CallEnters P call) (hI : Inv m μ G w) (he : EnvR m μ (inf G) N env a)
include hC hE hI he
theorem op_bin {op : BinOp} {t ty : TypeId} {x y : Operand} (ho : o.op = .binOp op t x y ty) {c : BClass} (hcl : cClass P op t x y = some c) {ox oy : Opd} (hx : cOpd x = some ox) (hy : cOpd y = some oy) {r : Res} (h : evOp pg call (.bin op c ox oy) env G = some r) : Good P o a m μ G w r := by
  simp only [evOp] at h
  split at h
  · rename_i u v hu hv
    unfold cClass at hcl
    split at hcl
    · cases hcl
      obtain ⟨z, hz, rfl⟩ := one_inv h
      exact good_int hI he ho hx hy hu hv hz
    · cases hcl
      obtain ⟨z, hz, rfl⟩ := one_inv h
      exact good_str hI he ho hx hy hu hv hz
    · rename_i ht
      cases hcl
      obtain ⟨z, hz, rfl⟩ := one_inv h
      exact good_bool hI he ht ho hx hy hu hv hz
    · rename_i e ht
      cases hcl
      obtain ⟨z, hz, rfl⟩ := one_inv h
      exact good_nil hI he ho ht (.inl ⟨rfl, e, rfl⟩) hx hy hu hv hz
    · rename_i p q vv ht
      cases hcl
      obtain ⟨z, hz, rfl⟩ := one_inv h
      exact good_nil hI he ho ht (.inr (.inl ⟨rfl, p, q, vv, rfl⟩)) hx hy hu hv hz
    · rename_i ms ht
      split at hcl
      · rename_i hnil
        cases hcl
        obtain ⟨z, hz, rfl⟩ := one_inv h
        exact good_nil hI he ho ht (.inr (.inr ⟨rfl, ⟨ms, rfl⟩, hnil⟩)) hx hy hu hv hz
      · cases hcl
    · rename_i fs ht
      have key : (op = .eql ∨ op = .neq) → (match cSize P t, leafOffs P 8 t 0 with
        | some n, some l => if P.eqGuardType P.depth t = true then none else some (BClass.leaves n l)
        | _, _ => none) = some c → Good P o a m μ G w r := by
        intro hop hcl
        split at hcl
        · rename_i n l hn hl
          split at hcl
          · cases hcl
          · rename_i hgt
            cases hcl
            dsimp only at h
            split at h
            · split at h
              · rename_i hlen
                obtain ⟨z, hz, rfl⟩ := one_inv h
                cases hb : leavesEq l _ _ with
                | none => rw [hb] at hz; simp [evCmp] at hz
                | some b =>
                  rw [hb] at hz
                  exact good_leaves hI he ho hop ht (.inl ⟨fs, rfl⟩) hn hl (by simpa using hgt) hx hy hu hv (by simpa [AV.cells] using hlen.1) (by simpa [AV.cells] using hlen.2) ⟨_, rfl⟩ ⟨_, rfl⟩ (by simpa [AV.cells] using hb) hz
              · cases h
            · cases h
        · cases hcl
      split at hcl
      · exact key (.inl rfl) hcl
      · exact key (.inr rfl) hcl
      · cases hcl
    · rename_i k e ht
      have key : (op = .eql ∨ op = .neq) → (match cSize P t, leafOffs P 8 t 0 with
        | some n, some l => if P.eqGuardType P.depth t = true then none else some (BClass.leaves n l)
        | _, _ => none) = some c → Good P o a m μ G w r := by
        intro hop hcl
        split at hcl
        · rename_i n l hn hl
          split at hcl
          · cases hcl
          · rename_i hgt
            cases hcl
            dsimp only at h
            split at h
            · split at h
              · rename_i hlen
                obtain ⟨z, hz, rfl⟩ := one_inv h
                cases hb : leavesEq l _ _ with
                | none => rw [hb] at hz; simp [evCmp] at hz
                | some b =>
                  rw [hb] at hz
                  exact good_leaves hI he ho hop ht (.inr ⟨k, e, rfl⟩) hn hl (by simpa using hgt) hx hy hu hv (by simpa [AV.cells] using hlen.1) (by simpa [AV.cells] using hlen.2) ⟨_, rfl⟩ ⟨_, rfl⟩ (by simpa [AV.cells] using hb) hz
              · cases h
            · cases h
        · cases hcl
      split at hcl
      · exact key (.inl rfl) hcl
      · exact key (.inr rfl) hcl
      · cases hcl
    · cases hcl
  · cases h
end
theorem opds_one {x : Operand} {xs : List Operand} {ox : List Opd} (h : cOpds (x :: xs) = some ox) : ∃ y ys, ox = y :: ys ∧ cOpd x = some y ∧ cOpds xs = some ys := by
  simp only [cOpds] at h
  split at h
  · cases h
  · rename_i y hy
    split at h
    · cases h
    · rename_i ys hys
      cases h
      exact ⟨y, ys, rfl, hy, hys⟩
theorem opds_1 {l : List Operand} {y : Opd} (h : cOpds l = some [y]) : ∃ x, l = [x] ∧ cOpd x = some y := by
  cases l with
  | nil => simp [cOpds] at h
  | cons x xs =>
    obtain ⟨y', ys, e, h1, h2⟩ := opds_one h
    cases e
    cases xs with
    | nil => exact ⟨x, rfl, h1⟩
    | cons x' xs => obtain ⟨y', ys, e, h1, h2⟩ := opds_one h2; cases e
theorem opds_2 {l : List Operand} {y z : Opd} (h : cOpds l = some [y, z]) : ∃ x x', l = [x, x'] ∧ cOpd x = some y ∧ cOpd x' = some z := by
  cases l with
  | nil => simp [cOpds] at h
  | cons x xs =>
    obtain ⟨y', ys, e, h1, h2⟩ := opds_one h
    cases e
    obtain ⟨x', e, h3⟩ := opds_1 h2
    subst e
    exact ⟨x, x', rfl, h1, h3⟩
theorem opds_ev2 {env : Env} {x y : Opd} {p q : AV} (h : opds env [x, y] = some [p, q]) : opd env x = some p ∧ opd env y = some q := by
  simp only [opds] at h
  split at h
  · cases h
  · rename_i p' hp
    split at h
    · cases h
    · rename_i vs hv
      split at hv
      · cases hv
      · rename_i q' hq
        cases hv
        cases h
        exact ⟨hp, hq⟩
section
variable {P : Program} {pg : Prg} {call : CallF} {o : Oper} {a : Act} {m : Mem} {μ : Mu} {G : Heap} {w : World} {N : Nat} {env : Env}
variable (hC : CallSound P call) (hE : CallEnters P call) (hI : Inv m μ G w) (he : EnvR m μ (inf G) N env a)
include hC hE hI he
theorem op_call {c : Call} (ho : o.op = .call c) {co : COp} (hc : cOp P (.call c) = some co) {r : Res} (h : evOp pg call co env G = some r) : Good P o a m μ G w r := by
  rcases c with ⟨callee, args, ts⟩
  simp only [cOp] at hc
  split at hc
  ·
    rename_i f os hos
    split at hc
    · rename_i hok
      cases hc
      simp only [evOp] at h
      split at h
      · rename_i vs hvs
        exact good_call hC hE hI he hok ho hos hvs h
      · cases h
    · cases hc
  · rename_i x os hne hos
    obtain ⟨ox, hx, rfl⟩ := map_inv hc
    simp only [evOp] at h
    split at h
    · rename_i hf hvs
      split at h
      · rename_i hok
        exact good_callv hC hE hI he ho hx hos hok hf hvs h
      · cases h
    · rename_i hf hvs
      exact good_yld hC hE hI he ho hx hos hf hvs h
    · cases h
  · rename_i y hos
    obtain ⟨x, hl, hx⟩ := opds_1 hos
    split at hc
    · rename_i ht
      cases hc
      obtain ⟨t, ht1, ht2⟩ := Option.bind_eq_some_iff.1 ht
      simp only [evOp] at h
      split at h
      · rename_i v hv
        split at h
        · rename_i n hn
          cases h
          exact good_len hI he ho hl ht1 ht2 (by simp) hx hv hn
        · cases h
      · cases h
    · rename_i e ht
      cases hc
      obtain ⟨t, ht1, ht2⟩ := Option.bind_eq_some_iff.1 ht
      simp only [evOp] at h
      split at h
      · rename_i v hv
        split at h
        · rename_i n hn
          cases h
          exact good_len hI he ho hl ht1 ht2 (by simp) hx hv hn
        · cases h
      · cases h
    · rename_i n e ht
      cases hc
      obtain ⟨t, ht1, ht2⟩ := Option.bind_eq_some_iff.1 ht
      simp only [evOp] at h
      obtain ⟨z, hz, rfl⟩ := one_inv h
      simp [opd] at hz
      subst hz
      exact good_lenA hI he ho hl ht1 ht2
    · cases hc
  · rename_i y z hos
    obtain ⟨x, x', hl, hx, hx'⟩ := opds_2 hos
    split at hc
    · rename_i e u ht hu
      obtain ⟨t, ht1, ht2⟩ := Option.bind_eq_some_iff.1 ht
      obtain ⟨t', ht1', ht2'⟩ := Option.bind_eq_some_iff.1 hu
      split at hc
      · rename_i sz by_ _ e' hn hb
        split at hc
        · rename_i hok
          cases hc
          simp only [Bool.and_eq_true, decide_eq_true_eq, beq_iff_eq] at hok
          simp only [evOp] at h
          split at h
          · rename_i p q hp hq
            split at h
            · rename_i v G' hap
              cases h
              exact good_app hI he ho hl ht1 ht1' hok.2 ht2 hn hb hok.1.2 hok.1.1 (by simpa using ⟨_, ht2'⟩) hx hx' hp hq hap
            · cases h
          · cases h
        · cases hc
      · rename_i sz by_ _ hn hb
        split at hc
        · rename_i hok
          cases hc
          simp only [Bool.and_eq_true, decide_eq_true_eq, beq_iff_eq] at hok
          simp only [evOp] at h
          split at h
          · rename_i p q hp hq
            split at h
            · rename_i v G' hap
              cases h
              exact good_app hI he ho hl ht1 ht1' hok.2 ht2 hn hb hok.1.2 (by omega) (by simpa using ⟨ht2', hok.1.1⟩) hx hx' hp hq hap
            · cases h
          · cases h
        · cases hc
      · cases hc
    · cases hc
  · rename_i y z hos
    obtain ⟨x, x', hl, hx, hx'⟩ := opds_2 hos
    cases hc
    simp only [evOp] at h
    split at h
    · rename_i k p k' q hpq
      cases h
      obtain ⟨h1, h2⟩ := opds_ev2 hpq
      exact good_max hI he ho hl hx hx' h1 h2
    · cases h
  · rename_i y z hos
    obtain ⟨x, x', hl, hx, hx'⟩ := opds_2 hos
    cases hc
    simp only [evOp] at h
    split at h
    · rename_i k p k' q hpq
      cases h
      obtain ⟨h1, h2⟩ := opds_ev2 hpq
      exact good_min hI he ho hl hx hx' h1 h2
    · cases h
  · cases hc
theorem op_mput {t : TypeId} {x k v : Operand} (ho : o.op = .mapUpdate t x k v ∨ o.op = .insert t x k v) {co : COp} (hc : cOp P (.mapUpdate t x k v) = some co) {r : Res} (h : evOp pg call co env G = some r) : Good P o a m μ G w r := by
  simp only [cOp] at hc
  split at hc
  · rename_i hok
    split at hc
    · rename_i om okk ov hx hk hv
      cases hc
      simp only [evOp] at h
      split at h
      · rename_i id kp vp h1 h2 h3
        split at h
        · rename_i ents hG
          split at h
          · rename_i hh
            cases h
            exact good_mput hI he ho hok hx hk hv h1 h2 h3 hG hh.1 hh.2
          · cases h
        · cases h
      · cases h
    · cases hc
  · cases hc
theorem op_sound {co : COp} (hd : ∀ c, o.op ≠ .defer c) (hc : cOp P o.op = some co) {r : Res} (h : evOp pg call co env G = some r) : Good P o a m μ G w r := by
  cases ho : o.op with
  | move x =>
    rw [ho] at hc
    obtain ⟨ox, hx, rfl⟩ := map_inv hc
    obtain ⟨v, hv, rfl⟩ := one_inv h
    exact good_mov hI he (.inl ho) hx hv
  | assign x =>
    rw [ho] at hc
    obtain ⟨ox, hx, rfl⟩ := map_inv hc
    obtain ⟨v, hv, rfl⟩ := one_inv h
    exact good_mov hI he (.inr ho) hx hv
  | pick c x y =>
    rw [ho] at hc
    simp only [cOp] at hc
    split at hc
    · rename_i oc ox oy hcc hx hy
      cases hc
      simp only [evOp] at h
      split at h
      · rename_i b hb
        split at h
        · rename_i hbt
          obtain ⟨v, hv, rfl⟩ := one_inv h
          exact good_pick hI he ho hcc hx hy hb (by rw [if_pos hbt]; exact hv)
        · rename_i hbt
          obtain ⟨v, hv, rfl⟩ := one_inv h
          exact good_pick hI he ho hcc hx hy hb (by rw [if_neg hbt]; exact hv)
      · cases h
    · cases hc
  | alloc e =>
    rw [ho] at hc
    obtain ⟨cs, hz, rfl⟩ := map_inv hc
    simp only [evOp] at h
    split at h
    · rename_i hf
      cases h
      exact good_new hI he ho hz hf
    · cases h
  | box t x =>
    rw [ho] at hc
    obtain ⟨ox, hx, rfl⟩ := map_inv hc
    simp only [evOp] at h
    split at h
    · rename_i v hv
      split at h
      · rename_i hf
        cases h
        exact good_box hI he ho hx hv hf
      · cases h
    · cases h
  | build t ps =>
    rw [ho] at hc
    simp only [cOp] at hc
    have key : ∀ {places : Nat → Option (Nat × Nat)} {d : TypeDesc} {z : List AV}, P.underlying t = some d → cZero P t = some z → z.all AV.flat = true →
        ((∃ fs, d = .struct fs ∧ fs.toList.all (fun f => (cSize P f.type).isSome) = true ∧ places = fun i => match fs[i]? with | some f => (cSize P f.type).map fun n => (f.offset, n) | none => none) ∨
        (∃ k e n, d = .array k e ∧ cSize P e = some n ∧ places = fun i => some (i * n, n))) → (cBuild places ps.toList).map (.build z) = some co → Good P o a m μ G w r := by
      intro places d z ht hz hzf hpl hc
      obtain ⟨l, hl, rfl⟩ := map_inv hc
      simp only [evOp] at h
      split at h
      · cases h
      · rename_i vs hv
        split at h
        · cases h
        · rename_i cs hcs
          cases h
          exact good_build hI he ho ht hz hzf hpl hl hv hcs
    split at hc
    · rename_i fs z ht hz
      split at hc
      · rename_i hall
        exact key ht hz hall.1 (.inl ⟨fs, rfl, hall.2, rfl⟩) hc
      · cases hc
    · rename_i k e z ht hz
      split at hc
      · rename_i n hn
        split at hc
        · rename_i hall
          exact key ht hz hall (.inr ⟨k, e, n, rfl, hn, rfl⟩) hc
        · cases hc
      · cases hc
    · cases hc
  | buildSlice t n ps =>
    rw [ho] at hc
    simp only [cOp] at hc
    split at hc
    · rename_i e ht
      split at hc
      · rename_i sz z l hn hz hl
        split at hc
        · rename_i hok
          simp only [Bool.and_eq_true, decide_eq_true_eq, beq_iff_eq] at hok
          cases hc
          simp only [evOp] at h
          split at h
          · rename_i hok2
            split at h
            · cases h
            · rename_i vs hv
              split at h
              · cases h
              · rename_i rows G' hrows
                cases h
                exact good_bslice hI he ho ht hn hz hok2.1 hok2.2 hok.1.1 hl hv hrows
          · cases h
        · cases hc
      · cases hc
    · cases hc
  | load t x =>
    rw [ho] at hc
    simp only [cOp] at hc
    split at hc
    · rename_i n g ox hn hg hx
      cases hc
      simp only [evOp] at h
      split at h
      · rename_i v hv
        obtain ⟨y, hy, rfl⟩ := one_inv h
        exact good_load hI he ho hn hg hx hv hy
      · cases h
    · cases hc
  | store t x y =>
    rw [ho] at hc
    simp only [cOp] at hc
    split at hc
    · rename_i n ox oy hn hx hy
      cases hc
      simp only [evOp] at h
      split at h
      · rename_i u v hu hv
        split at h
        · rename_i G' hs
          cases h
          exact good_store hI he ho hn hx hy hu hv hs
        · cases h
      · cases h
    · cases hc
  | nilCheck x =>
    rw [ho] at hc
    obtain ⟨ox, hx, rfl⟩ := map_inv hc
    simp only [evOp] at h
    split at h
    · rename_i hv; cases h; exact good_nilck hI he ho hx hv (.inl ⟨_, _, rfl⟩)
    · rename_i hv; cases h; exact good_nilck hI he ho hx hv (.inr (.inl ⟨_, _, _, _, rfl⟩))
    · rename_i hv; cases h; exact good_nilck hI he ho hx hv (.inr (.inr (.inl ⟨_, rfl⟩)))
    · rename_i hv; cases h; exact good_nilck hI he ho hx hv (.inr (.inr (.inr ⟨_, _, _, rfl⟩)))
    · cases h
  | binOp op t x y ty =>
    rw [ho] at hc
    simp only [cOp] at hc
    split at hc
    · rename_i c ox oy hcl hx hy
      cases hc
      exact op_bin hC hE hI he ho hcl hx hy h
    · cases hc
  | unOp op t x =>
    rw [ho] at hc
    cases op with
    | not =>
      obtain ⟨ox, hx, rfl⟩ := map_inv hc
      simp only [evOp] at h
      split at h
      · rename_i hv; cases h; exact good_not hI he ho hx hv
      · cases h
    | neg =>
      obtain ⟨ox, hx, rfl⟩ := map_inv hc
      simp only [evOp] at h
      split at h
      · rename_i hv; cases h; exact good_neg hI he ho hx hv
      · cases h
    | _ => simp [cOp] at hc
  | convert s d x =>
    rw [ho] at hc
    simp only [cOp] at hc
    split at hc
    · rename_i k k' hs hd
      obtain ⟨ox, hx, rfl⟩ := map_inv hc
      simp only [evOp] at h
      split at h
      · rename_i hv; cases h; exact good_conv hI he ho hs hd hx hv
      · cases h
    · rename_i hs hd
      obtain ⟨ox, hx, rfl⟩ := map_inv hc
      simp only [evOp] at h
      split at h
      · rename_i hv; cases h; exact good_convs hI he ho hs hd hx hv
      · cases h
    · rename_i e hs hd
      split at hc
      · rename_i hu
        obtain ⟨ox, hx, rfl⟩ := map_inv hc
        simp only [evOp] at h
        split at h
        · rename_i v hv
          split at h
          · rename_i l hl
            cases h
            exact good_tostr hI he ho hs hd hu hx hv hl
          · cases h
        · cases h
      · cases hc
    · cases hc
  | makeInterface t x =>
    rw [ho] at hc
    simp only [cOp] at hc
    split at hc
    · cases hc
    · rename_i d hne ht
      obtain ⟨ox, hx, rfl⟩ := map_inv hc
      simp only [evOp] at h
      split at h
      · rename_i v hv
        cases h
        exact good_mkif hI he ho ht (fun ms e => hne ms e) hx hv
      · cases h
    · cases hc
  | makeFunc f x y =>
    rw [ho] at hc
    cases f with
    | func f =>
      simp only [cOp] at hc
      split at hc
      · rename_i ox oy hx hy
        cases hc
        simp only [evOp] at h
        split at h
        · rename_i u v hu hv
          cases h
          exact good_mkfn hI he ho hx hy hu hv
        · cases h
      · cases hc
    | _ => simp [cOp] at hc
  | makeSlice t x y =>
    rw [ho] at hc
    simp only [cOp] at hc
    split at hc
    · rename_i e ht
      split at hc
      · rename_i sz by_ z ox oy hn hb hz hx hy
        split at hc
        · rename_i hok
          cases hc
          simp only [evOp] at h
          split at h
          · rename_i l c hl hcc
            split at h
            · rename_i hh
              cases h
              exact good_mkslice hI he ho ht hn hb hz hh.2.2.2.1 hh.2.2.2.2 hx hy hl hcc hh.1 hh.2.1 hh.2.2.1
            · cases h
          · cases h
        · cases hc
      · cases hc
    · cases hc
  | slice t x lo hi mx =>
    rw [ho] at hc
    cases mx with
    | some mx =>
      cases lo with
      | some lo => simp only [cOp] at hc; cases hc
      | none =>
        cases hi with
        | none => simp only [cOp] at hc; cases hc
        | some hi =>
          simp only [cOp] at hc
          split at hc
          · rename_i e ht
            split at hc
            · rename_i n ox oh om hn hx hh hm
              cases hc
              simp only [evOp] at h
              split at h
              · rename_i rows kh km h1 h2 h3
                split at h
                · rename_i hk
                  cases h
                  obtain ⟨rfl, rfl⟩ := hk
                  exact good_clip hI he ho ht hn hx hh hm h1 h2 h3
                · cases h
              · cases h
            · cases hc
          · cases hc
    | none =>
      simp only [cOp] at hc
      split at hc
      · rename_i ht
        split at hc
        · rename_i ox olo ohi hx hlo hhi
          cases hc
          simp only [evOp] at h
          split at h
          · cases h
          · rename_i v hv
            split at h
            · rename_i hstr
              split at h
              · rename_i l hh hl hhh
                split at h
                · rename_i r' G' hs
                  cases h
                  exact good_subs hI he ho ht (.inl rfl) hx hlo hhi hv (by cases olo <;> exact hl) (by cases ohi <;> exact hhh) (by simpa using hstr) hs
                · cases h
              · cases h
            · cases h
        · cases hc
      · rename_i e ht
        split at hc
        · rename_i sz ox olo ohi hn hx hlo hhi
          cases hc
          simp only [evOp] at h
          split at h
          · cases h
          · rename_i v hv
            split at h
            · rename_i hstr
              split at h
              · rename_i l hh hl hhh
                split at h
                · rename_i r' G' hs
                  cases h
                  exact good_subs hI he ho ht (.inr ⟨e, rfl, hn⟩) hx hlo hhi hv (by cases olo <;> exact hl) (by cases ohi <;> exact hhh) (by simpa using hstr) hs
                · cases h
              · cases h
            · cases h
        · cases hc
      · cases hc
  | fieldAddr t x k =>
    rw [ho] at hc
    simp only [cOp] at hc
    split at hc
    · rename_i fs ht
      split at hc
      · rename_i f hf
        split at hc
        · rename_i n ox hn hx
          split at hc
          · cases hc
          · rename_i hn0
            cases hc
            simp only [evOp] at h
            split at h
            · rename_i hv; cases h; exact good_faddr hI he ho ht hf hn hn0 hx hv (.inl ⟨_, _, rfl, rfl⟩)
            · rename_i hv; cases h; exact good_faddr hI he ho ht hf hn hn0 hx hv (.inr (.inl ⟨_, _, _, _, rfl, rfl⟩))
            · rename_i hv; cases h; exact good_faddr hI he ho ht hf hn hn0 hx hv (.inr (.inr ⟨_, rfl, rfl⟩))
            · cases h
        · cases hc
      · cases hc
    · cases hc
  | field t x k =>
    rw [ho] at hc
    simp only [cOp] at hc
    split at hc
    · rename_i fs ht
      split at hc
      · rename_i f hf
        split at hc
        · rename_i n g ox hn hg hx
          cases hc
          simp only [evOp] at h
          split at h
          · rename_i cs hv
            have : ∀ y, r = .val y G → (if g = true then (if f.offset + n ≤ cs.length then some (AV.ag ((cs.drop f.offset).take n)) else none) else cs[f.offset]?) = some y → Good P o a m μ G w r := by
              intro y e hy
              subst e
              exact good_field hI he ho ht hf hn hg hx hv hy
            split at h
            · rename_i hg1
              split at h
              · rename_i hle
                cases h
                exact this _ rfl (by rw [if_pos hg1, if_pos hle])
              · cases h
            · rename_i hg1
              obtain ⟨y, hy, rfl⟩ := one_inv h
              exact this _ rfl (by rw [if_neg hg1]; exact hy)
          · cases h
        · cases hc
      · cases hc
    · cases hc
  | indexAddr t x y =>
    rw [ho] at hc
    simp only [cOp] at hc
    split at hc
    · rename_i k e ht
      split at hc
      · rename_i sz ox oy hn hx hy
        cases hc
        simp only [evOp] at h
        split at h
        · rename_i v kk i hv hi
          split at h
          · split at h
            · rename_i hh
              cases h
              exact good_iaddrA hI he ho ht hn hx hy hv hi hh.1 hh.2 (.inl ⟨_, _, rfl, rfl⟩)
            · cases h
          · split at h
            · rename_i hh
              cases h
              exact good_iaddrA hI he ho ht hn hx hy hv hi hh.1 hh.2 (.inr ⟨_, rfl, rfl⟩)
            · cases h
          · cases h
        · cases h
      · cases hc
    · rename_i e ht
      split at hc
      · rename_i sz ox oy hn hx hy
        cases hc
        simp only [evOp] at h
        split at h
        · rename_i v kk i hv hi
          split at h
          · split at h
            · rename_i h0
              split at h
              · rename_i row hrow
                split at h
                · rename_i hok
                  cases h
                  exact good_iaddrP hI he ho ht hn hx hy hv hi h0 hrow hok
                · cases h
              · cases h
            · cases h
          · split at h
            · rename_i hG
              split at h
              · rename_i hh
                cases h
                obtain ⟨h0, h1, h2, h3, h4⟩ := hh
                subst h2
                subst h3
                exact good_iaddrR hI he ho ht hn hx hy hv hi h0 h1 hG
              · cases h
            · cases h
          · cases h
        · cases h
      · cases hc
    · cases hc
  | index t x y =>
    rw [ho] at hc
    simp only [cOp] at hc
    split at hc
    · rename_i k e ht
      split at hc
      · rename_i sz g ox oy hn hg hx hy
        cases hc
        simp only [evOp] at h
        split at h
        · rename_i v kk i hv hi
          split at h
          · rename_i len n ag cs heq
            cases heq
            split at h
            · rename_i hh
              have : ∀ y, r = .val y G → (if g = true then (if i.toNat * sz + sz ≤ cs.length then some (AV.ag ((cs.drop (i.toNat * sz)).take sz)) else none) else cs[i.toNat * sz]?) = some y → Good P o a m μ G w r := by
                intro y e hy'
                subst e
                exact good_indexA hI he ho ht hn hg hx hy hv hi hh.1 hh.2 hy'
              split at h
              · rename_i hg1
                split at h
                · rename_i hle
                  cases h
                  exact this _ rfl (by rw [if_pos hg1, if_pos hle])
                · cases h
              · rename_i hg1
                obtain ⟨y, hy, rfl⟩ := one_inv h
                exact this _ rfl (by rw [if_neg hg1]; exact hy)
            · cases h
          · rename_i heq; cases heq
          · cases h
        · cases h
      · cases hc
    · rename_i ht
      split at hc
      · rename_i ox oy hx hy
        cases hc
        simp only [evOp] at h
        split at h
        · rename_i v kk i hv hi
          split at h
          · rename_i heq; cases heq
          · split at h
            · rename_i h0
              split at h
              · rename_i c hcc
                cases h
                exact good_indexS hI he ho ht hx hy hv hi h0 hcc
              · cases h
            · cases h
          · cases h
        · cases h
      · cases hc
    · cases hc
  | extract x k =>
    rw [ho] at hc
    obtain ⟨ox, hx, rfl⟩ := map_inv hc
    simp only [evOp] at h
    split at h
    · rename_i vs hv
      obtain ⟨y, hy, rfl⟩ := one_inv h
      exact good_extract hI he ho hx hv hy
    · cases h
  | call c =>
    rw [ho] at hc
    exact op_call hC hE hI he ho hc h
  | panic x =>
    rw [ho] at hc
    obtain ⟨ox, hx, rfl⟩ := map_inv hc
    cases hv : opd env ox with
    | none => simp [evOp, hv] at h
    | some v =>
      refine good_panic hI he ho hx hv ?_
      simp only [evOp, hv] at h
      exact h
  | makeMap t r =>
    rw [ho] at hc
    cases r with
    | some r => simp [cOp] at hc
    | none =>
      simp only [cOp] at hc
      split at hc
      · rename_i k e ht
        cases hc
        simp only [evOp, Option.some.injEq] at h
        subst h
        exact good_mkmap hI he (k := k) (e := e) ho
      · cases hc
  | mapUpdate t x k v =>
    rw [ho] at hc
    exact op_mput hC hE hI he (.inl ho) hc h
  | insert t x k v =>
    rw [ho] at hc
    exact op_mput hC hE hI he (.inr ho) hc h
  | lookup t x k ok =>
    rw [ho] at hc
    simp only [cOp] at hc
    split at hc
    · rename_i kt e hte
      split at hc
      · rename_i hok
        split at hc
        · rename_i z om okk hz hx hk
          cases hc
          simp only [evOp] at h
          split at h
          · rename_i id kp h1 h2
            split at h
            · rename_i ents hG
              split at h
              · rename_i hh
                exact good_mget hI he ho hok hte hz hx hk h1 h2 hG hh.1 hh.2 h
              · cases h
            · cases h
          · cases h
        · cases hc
      · cases hc
    · cases hc
  | typeAssert x xt t ok =>
    rw [ho] at hc
    cases ok with
    | false => simp [cOp] at hc
    | true =>
      simp only [cOp] at hc
      split at hc
      · cases hc
      · rename_i d hd' ht
        split at hc
        · rename_i z ox hz hx
          cases hc
          simp only [evOp] at h
          split at h
          · rename_i t' v hv
            exact good_tassert hI he ho ht hd' hz hx (.inl hv) h
          · rename_i t' v hv
            exact good_tassert hI he ho ht hd' hz hx (.inr ⟨v, hv, rfl⟩) h
          · cases h
        · cases hc
      · cases hc
  | defer c => exact absurd ho (hd c)
  | _ => rw [ho] at hc; simp [cOp] at hc
end
end Go.Proofs.Z
end
