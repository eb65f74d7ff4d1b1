/- A part of the proof. -/
import Derived.Test.YtmlaokgdomfmgaaGreatDoorL08
import Derived.RangeFuncIn
import Derived.Laws.Sem
set_option linter.all false
section
namespace Go.Proofs.Z
open Go
variable [hP : HasP]
theorem okLive_mem {E : Ent} {md : Nat} (hmd : E.top = Nat.beq md 1) {live : List Nat} (h : okLive md live = true) : E.top = true → dK ∈ live := by
  intro ht
  rw [hmd] at ht
  simpa only [okLive, ht, Bool.not_true, Bool.false_or, List.contains_eq_mem, decide_eq_true_eq] using h
theorem Pt.keep {N : Nat} {E : Ent} {md : Nat} (hmd : E.top = Nat.beq md 1) {G : Heap} {env : Env} {a : Act} {w : World} {m : Mem} {μ : Mu} (h : Pt N E G env a w m μ) {live : List Nat} (hl : okLive md live = true) : Pt N E G (restr live env) a w m μ := by
  refine ⟨h.inv, h.env.restr live, ?_, h.tot, h.ext, h.fr⟩
  have hk := okLive_mem hmd hl
  cases ht : E.top with
  | true => rw [lk_restr (hk ht)]; exact h.dfr
  | false =>
    obtain ⟨rs, d, w1, w2, w3, w4, w5, w6⟩ := h.dfr
    have e := w6 ht
    have e' : lk (restr live env) dK = none := by
      cases hc : lk (restr live env) dK with
      | none => rfl
      | some v => have := (mem_restr' (lk_mem' hc)).2; dsimp only at this; rw [e] at this; cases this
    rw [e] at w4
    rw [e']
    exact ⟨rs, d, w1, w2, w3, w4, w5, fun _ => rfl⟩
section
variable {pg : Prg} {call : CallF} {loop : LoopF}
def LoopSound (loop : LoopF) (k : Nat) : Prop := ∀ (N : Nat) (E : Ent) (md : Nat) (ro : Option Nat), (∀ id, id < E.G.length → ∃ l, E.μ id = some l) → (∀ id l, E.μ id = some l → id < E.G.length) → N ≤ dK → E.md = md → (md ≠ 2 → ro = none) → ∀ {live : List Nat} {c : CCode} {code : Code} {env : Env} {G : Heap} {e : Ex} {env' : Env} {G' : Heap} {a : Act} {w : World} {m : Mem} {μ : Mu} {Q : Exit → Act → World → Prop},
  Comp hP.P N md code c → (live.all (fun k => Nat.ble k dK) && okLive md live) = true → loop E.G.length live c env G = some (e, env', G') → Pt N E G env a w m μ → Ends N E Q e env' G' → Code.roundsIn (Fn ro) 0 hP.P code Q k a w
theorem ends_then {N : Nat} {E : Ent} {Q : Exit → Act → World → Prop} {K : Act → World → Prop} {e : Ex} {env : Env} {G : Heap} (hne : e ≠ .normal) (h : Ends N E Q e env G) : Ends N E (Exit.then K Q) e env G := by
  intro a w m μ hp
  have := h a w m μ hp
  cases e with
  | normal => exact absurd rfl hne
  | _ => exact this
theorem push_step {m : Mem} {μ : Mu} {G : Heap} {w : World} (hI : Inv m μ G w) (x : Obj) : Inv m μ G (w.alloc x) ∧ Stp m μ G w m μ G (w.alloc x) := by
  have hblk : ∀ b, b < w.heap.size → (w.alloc x).heap[b]? = w.heap[b]? := fun b hb => by show (w.heap.push x)[b]? = _; simp [Array.getElem?_push, Nat.ne_of_lt hb]
  have hfr : Fr m μ w m μ (w.alloc x) := ⟨rfl, rfl, rfl, by simp, fun b hb _ => hblk b hb, fun _ _ _ h => .inl h, fun id loc h => .inr ⟨id, loc, h, rfl⟩⟩
  refine ⟨⟨fun b o v h => ?_, hI.inj, fun id o ho loc hl => (hI.obj id o ho loc hl).move (.refl _ _ _) (hblk _ (hI.lt hl)) (fun _ h => h), hI.dom, hI.glob.step hfr⟩, ⟨.refl _ _ _, hfr, .refl _ _⟩⟩
  have h1 := hI.known b o v h
  have h2 := World.block_lt_of_cell? w _ h1
  simp at h2
  unfold World.cell? at h1 ⊢
  dsimp only at h1 ⊢
  rw [hblk b h2]
  exact h1
set_option maxHeartbeats 800000 in
theorem rangeF_sound (hC : CallSound hP.P call) (hE : CallEnters hP.P call) {N : Nat} {E : Ent} (hN : N ≤ dK) (hm0 : E.md = 0) {x : Operand} {ox : Opd} (hx : cOpd x = some ox) {ps : Array Tmp} (hps : ∀ p, p ∈ ps.toList → p < N) {asg body : Code} {ca cb : CCode} (h1 : Comp hP.P N 2 asg ca) (h2 : Comp hP.P N 2 body cb)
    {live lin : List Nat} (hl : okLive 0 live = true) {env : Env} {G : Heap} {e : Ex} {env' : Env} {G' : Heap} {a : Act} {w : World} {m : Mem} {μ : Mu} {Q : Exit → Act → World → Prop} {base : Nat} (hev : evCode pg call loop base (.rangeF live lin ps.toList ox ca cb) env G = some (e, env', G')) (hp : Pt N E G env a w m μ) (hq : Ends N E Q e env' G') :
    (Code.rangeFunc x ps asg body).wpIn (Fn none) 0 hP.P Q a w := by
  have hmd : E.top = false := by unfold Ent.top; rw [hm0]; rfl
  simp only [evCode] at hev
  split at hev
  · rename_i f first cap hf
    split at hev
    · cases hev
    · rename_i hok
      simp only [Bool.not_eq_false, Bool.and_eq_true, List.all_eq_true, Nat.blt_eq] at hok
      obtain ⟨hlin, hokf⟩ := hok
      obtain ⟨va, vb, e1, e2, e3⟩ := (opd_R hp.env hx hf).fnInv
      refine wpIn_rangeFunc fun fn _ => ?_
      let rc : Loop := { state := .ready, pending := none, fn, tmps := a.tmps, params := ps, assign := asg, body, defers := w.heap.size }
      let w1 := (w.alloc (.deferred (some []))).alloc (.loop rc)
      obtain ⟨i1, i2⟩ := push_step hp.inv (.deferred (some []))
      have hw1s : (w.alloc (.deferred (some []))).heap.size = w.heap.size + 1 := by simp
      obtain ⟨j1, j2⟩ := alloc_stepO i1 (.frm ps.toList ca cb (restr lin env) 0 none) (.loop rc) 0 (fun id => if id = G.length then some ⟨(w.alloc (.deferred (some []))).heap.size, 0⟩ else μ id) rfl w1 rfl (fun ee => by
        refine ⟨rc, N, World.alloc_heap_new _ _, rfl, h1, h2, hps, hN, hp.env.size, fun p hpm => ?_, rfl, rfl, fun o => i1.fresh (Nat.le_refl _) o⟩
        obtain ⟨q1, q2⟩ := mem_restr' hpm
        exact ((hp.env.val p.1 p.2 q2 (hlin _ q1)).mono i2.ext).mono ee)
      generalize hμ1 : (fun id => if id = G.length then some ⟨(w.alloc (.deferred (some []))).heap.size, 0⟩ else μ id : Mu) = μ1 at j1 j2
      have hμG : μ1 G.length = some ⟨w.heap.size + 1, 0⟩ := by rw [← hμ1]; simp
      have hS1 := i2.trans j2
      have hyl : R m μ1 (inf (G ++ [.frm ps.toList ca cb (restr lin env) 0 none])) (.func (.yield (w.heap.size + 1)) #[] #[]) (.yld G.length) := .yld _ ⟨w.heap.size + 1, 0⟩ hμG (by rw [inf_last]; rfl)
      have hargs : RL m μ1 (inf (G ++ [.frm ps.toList ca cb (restr lin env) 0 none])) (va.toList ++ [.func (.yield (w.heap.size + 1)) #[] #[]] ++ vb.toList) (first ++ [.yld G.length] ++ cap) :=
        ((e2.mono hS1.ext).app (.cons hyl .nil)).app (e3.mono hS1.ext)
      have hent : ∀ {r : Out × Heap}, evCallAt pg call f (first ++ [.yld G.length] ++ cap) (G ++ [.frm ps.toList ca cb (restr lin env) 0 none]) = some r → Entered hP.P f := fun h => by
        have := evCallAt_enters hE h (okF_spec hokf).1; rwa [(okF_spec hokf).2.2] at this
      have hlam : ∃ r, evCallAt pg call f (first ++ [.yld G.length] ++ cap) (G ++ [.frm ps.toList ca cb (restr lin env) 0 none]) = some r := by
        cases hr : evCallAt pg call f (first ++ [.yld G.length] ++ cap) (G ++ [.frm ps.toList ca cb (restr lin env) 0 none]) with
        | none => rw [hr] at hev; cases hev
        | some r => exact ⟨r, rfl⟩
      obtain ⟨⟨out, G2⟩, hr⟩ := hlam
      have hen := hent hr
      have heq : (va.toList ++ [Value.func (.yield (w.heap.size + 1)) #[] #[]] ++ vb.toList).toArray = (va ++ #[Value.func (.yield (w.heap.size + 1)) #[] #[]]) ++ vb := by apply Array.ext'; simp
      have hcall := (callAt_sound hC j1 hr hargs).fn (ro := none) hokf
      rw [heq] at hcall
      have hres : (resolve a.eval (rangeCall x (w.heap.size + 1)) 0).run hP.P w1 = .ok { target := .fn (.func f) vb, args := va ++ #[Value.func (.yield (w.heap.size + 1)) #[] #[]] } w1 := by
        generalize w1 = w1'
        have hcc : ∀ v, a.eval (.const v) = v := fun _ => rfl
        simp [rangeCall, resolve, Deferred.ofValue, e1, hcc]
      have hinv : (invoke (.fn (.func f) vb) (va ++ #[Value.func (.yield (w.heap.size + 1)) #[] #[]])).run hP.P w1 = .ok (.enter f ((va ++ #[Value.func (.yield (w.heap.size + 1)) #[] #[]]) ++ vb)) w1 := by
        simp only [invoke]; exact callFunc_run hen _ _
      have hcall2 : CallsIn (Fn none) (0 - 1) hP.P f ((va ++ #[Value.func (.yield (w.heap.size + 1)) #[] #[]]) ++ vb) w1 (rangePost (Fn none) 0 hP.P (w.heap.size + 1) Q { a with defers := [mark w.heap.size] ++ a.defers }) := by
        refine hcall.mono fun en w3 hpost => ?_
        clear hcall hres hinv
        obtain ⟨m', μ', k1, k2, k3⟩ := hpost
        have hwait : ∀ {m2 : Mem} {μ2 : Mu} {G3 : Heap} {w4 : World}, Stp m' μ' G2 w3 m2 μ2 G3 w4 → Waits E m2 μ2 (inf G3) w4 (lk env dK) ([mark w.heap.size] ++ a.defers) := by
          intro m2 μ2 G3 w4 hS4
          obtain ⟨rs, d, w1', w2', w3', w4', w5', w6'⟩ := hp.dfr
          have hall := (hS1.trans k2).trans hS4
          have hnew : MarkOK E μ1 w1 w.heap.size := by
            refine ⟨hp.fr.size, ?_, fun id loc hl => ?_⟩
            · show ((w.alloc (.deferred (some []))).heap.push _)[w.heap.size]? = _
              rw [Array.getElem?_push_lt (by simp)]
              show some ((w.heap.push _)[w.heap.size]'(by simp)) = _
              simp
            · rw [← hμ1] at hl
              dsimp only at hl
              split at hl
              · cases hl; simp
              · have := hp.inv.lt hl; omega
          refine ⟨w.heap.size :: rs, d, by rw [w1']; rfl, List.nodup_cons.2 ⟨fun hm => ?_, w2'⟩, fun r hr' => ?_, w4'.mono hall.ext, fun ht => absurd hm0 ht, w6'⟩
          · have := (Array.getElem?_eq_some_iff.1 (w3' _ hm).at_).1; omega
          · rcases List.mem_cons.1 hr' with rfl | hr'
            · exact (hnew.step k2.fr).step hS4.fr
            · exact (w3' r hr').step hall.fr
        have hpt : ∀ {m2 : Mem} {μ2 : Mu} {G3 : Heap} {w4 : World}, Inv m2 μ2 G3 w4 → Stp m' μ' G2 w3 m2 μ2 G3 w4 → Pt N E G3 env { a with defers := [mark w.heap.size] ++ a.defers } w4 m2 μ2 := by
          intro m2 μ2 G3 w4 hI4 hS4
          have hall := (hS1.trans k2).trans hS4
          have he := hp.env.mono hall.ext
          exact ⟨hI4, ⟨he.size, he.val⟩, hwait hS4, hall.total hp.tot, hp.ext.trans hall.ext, hp.fr.trans hall.fr⟩
        rw [hr] at hev
        cases en with
        | outgrown => cases out <;> exact k3.elim
        | panicked chain =>
          cases out with
          | ret v => exact k3.elim
          | pan v =>
            obtain ⟨val, rfl, hv⟩ := k3
            cases hev
            exact hq _ _ _ _ (hpt k1 (.refl _ _ _ _)) val hv
        | returned v =>
          cases out with
          | pan v => exact k3.elim
          | ret vv =>
            dsimp only at hev
            split at hev
            · rename_i ps' ca' cb' ev' st pend hG2
              split at hev
              · cases hev
              · rename_i hst
                have hbx := k2.ext.box G.length _ hμG (by rw [inf_last]; rfl)
                obtain ⟨r, N', o1, o2, o3, o4, o5, o6, o7, o8, o9, o10, o11⟩ := k1.obj _ _ hG2 _ hbx.1
                dsimp only at o1
                have hbusy : r.state ≠ .busy := by
                  rw [o9]
                  rcases st with _ | _ | _ | st
                  · simp [stOf]
                  · exact absurd rfl hst
                  · simp [stOf]
                  · simp [stOf]
                have hlt : w.heap.size + 1 < w3.heap.size := (Array.getElem?_eq_some_iff.1 o1).1
                obtain ⟨q1, q2⟩ := set_step (old := .frm ps' ca' cb' ev' st pend) (new := .frm ps' ca' cb' ev' 3 pend) (cs := #[]) (T := 0) k1 hG2 hbx.1 (w' := w3.putObj (w.heap.size + 1) (.loop { r with state := .exhausted })) rfl rfl rfl (by simp) (fun b hb => World.putObj_heap_other hb) (fun o v hm => by rw [o11 o] at hm; cases hm) (fun _ => rfl) (fun g sz h => by cases h)
                  (fun ee => ⟨{ r with state := .exhausted }, N', by simp [World.putObj, hlt], o2, o3, o4, o5, o6, o7, fun p hp => (o8 p hp).mono ee, rfl, o10, o11⟩)
                have hend := run_endLoop (P := hP.P) o1 hbusy
                generalize w3.putObj (w.heap.size + 1) (.loop { r with state := .exhausted }) = w4 at hend q1 q2
                rw [o10] at hend
                refine ⟨pendOf pend, w4, hend, ?_⟩
                have hP' := hpt q1 q2
                rcases pend with _ | _ | kk
                · cases hev
                  exact hq _ _ _ _ (hP'.keep (md := 0) hmd hl)
                · cases hev
                  exact wpIn_ret (hq _ _ _ _ hP')
                · cases hev
                  exact wpIn_exit (hq _ _ _ _ hP')
            · cases hev
      exact ⟨w.heap.size + 1, [mark w.heap.size], w1, _, w1, f, _, w1, run_enterLoop_outer fn a.tmps ps asg body, hres, fun _ _ => trivial, hinv, no_depth, hcall2⟩
  · cases hev
theorem code_sound (hm : hP.P.follows .mixedOrders = true) (hC : CallSound hP.P call) (hE : CallEnters hP.P call) {k : Nat} (hL : LoopSound loop k) {N : Nat} {E : Ent} (hE0 : ∀ id, id < E.G.length → ∃ l, E.μ id = some l) (hE1 : ∀ id l, E.μ id = some l → id < E.G.length) (hN : N ≤ dK) {md : Nat} (hmm : E.md = md) {ro : Option Nat} (hro : md ≠ 2 → ro = none) :
    ∀ (code : Code) (c : CCode) {env : Env} {G : Heap} {e : Ex} {env' : Env} {G' : Heap} {a : Act} {w : World} {m : Mem} {μ : Mu} {Q : Exit → Act → World → Prop},
      Comp hP.P N md code c → evCode pg call loop E.G.length c env G = some (e, env', G') → Pt N E G env a w m μ → Ends N E Q e env' G' → code.wpIn (Fn ro) 0 hP.P Q a w := by
  have hmd : E.top = Nat.beq md 1 := by rw [← hmm]; rfl
  intro code
  induction code with
  | skip =>
    intro c env G e env' G' a w m μ Q hc hev hp hq
    obtain ⟨hc, hlv⟩ := hc
    cases c <;> simp [cCode, erase] at hc
    simp [evCode] at hev
    obtain ⟨rfl, rfl, rfl⟩ := hev
    exact wpIn_skip (hq a w m μ hp)
  | ret =>
    intro c env G e env' G' a w m μ Q hc hev hp hq
    obtain ⟨hc, hlv⟩ := hc
    cases c <;> simp [cCode, erase] at hc
    simp [evCode] at hev
    obtain ⟨rfl, rfl, rfl⟩ := hev
    exact wpIn_ret (hq a w m μ hp)
  | exit id =>
    intro c env G e env' G' a w m μ Q hc hev hp hq
    obtain ⟨hc, hlv⟩ := hc
    cases c <;> simp [cCode, erase] at hc
    subst hc
    simp [evCode] at hev
    obtain ⟨rfl, rfl, rfl⟩ := hev
    exact wpIn_exit (hq a w m μ hp)
  | seq x y ihx ihy =>
    intro c env G e env' G' a w m μ Q hc hev hp hq
    obtain ⟨hc, hlv⟩ := hc
    simp only [cCode] at hc
    split at hc
    · rename_i cx cy hx hy
      cases c <;> simp [erase] at hc
      rename_i c1 c2
      obtain ⟨rfl, rfl⟩ := hc
      simp only [liveOK, Bool.and_eq_true] at hlv
      simp only [evCode] at hev
      refine wpIn_seq ?_
      cases h1 : evCode pg call loop E.G.length c1 env G with
      | none => rw [h1] at hev; cases hev
      | some r1 =>
        rcases r1 with ⟨e1, env1, G1⟩
        rw [h1] at hev
        cases e1 with
        | normal =>
          refine ihx c1 ⟨hx, hlv.1⟩ h1 hp ?_
          intro a' w' m' μ' hp'
          exact ihy c2 ⟨hy, hlv.2⟩ hev hp' hq
        | exit id => cases hev; exact ihx c1 ⟨hx, hlv.1⟩ h1 hp (ends_then (by simp) hq)
        | ret => cases hev; exact ihx c1 ⟨hx, hlv.1⟩ h1 hp (ends_then (by simp) hq)
        | pan v => cases hev; exact ihx c1 ⟨hx, hlv.1⟩ h1 hp (ends_then (by simp) hq)
    · cases hc
  | cond x t f iht ihf =>
    intro c env G e env' G' a w m μ Q hc hev hp hq
    obtain ⟨hc, hlv⟩ := hc
    simp only [cCode] at hc
    split at hc
    · rename_i cx ct cf hx ht hf
      cases c <;> simp [erase] at hc
      rename_i ox c1 c2
      obtain ⟨rfl, rfl, rfl⟩ := hc
      simp only [liveOK, Bool.and_eq_true] at hlv
      simp only [evCode] at hev
      split at hev
      · rename_i b hb
        have hv := (opd_R hp.env hx hb).bool_inv
        refine wpIn_cond (t := b) hv ?_
        cases b with
        | true => simp only [if_true] at hev ⊢; exact iht c1 ⟨ht, hlv.1⟩ hev hp hq
        | false => simp only [Bool.false_eq_true, if_false] at hev ⊢; exact ihf c2 ⟨hf, hlv.2⟩ hev hp hq
      · cases hev
    · cases hc
  | block id x ih =>
    intro c env G e env' G' a w m μ Q hc hev hp hq
    obtain ⟨hc, hlv⟩ := hc
    simp only [cCode, Option.map_eq_some_iff] at hc
    obtain ⟨cx, hx, he⟩ := hc
    cases c <;> simp [erase] at he
    rename_i id' c1
    obtain ⟨rfl, rfl⟩ := he
    simp only [evCode] at hev
    refine wpIn_block ?_
    cases h1 : evCode pg call loop E.G.length c1 env G with
    | none => rw [h1] at hev; cases hev
    | some r1 =>
      rcases r1 with ⟨e1, env1, G1⟩
      rw [h1] at hev
      cases e1 with
      | normal => cases hev; exact ih c1 ⟨hx, hlv⟩ h1 hp (fun a' w' m' μ' hp' => hq a' w' m' μ' hp')
      | ret => cases hev; exact ih c1 ⟨hx, hlv⟩ h1 hp (fun a' w' m' μ' hp' => hq a' w' m' μ' hp')
      | pan v => cases hev; exact ih c1 ⟨hx, hlv⟩ h1 hp (fun a' w' m' μ' hp' val hv => hq a' w' m' μ' hp' val hv)
      | exit id2 =>
        dsimp only at hev
        refine ih c1 ⟨hx, hlv⟩ h1 hp (fun a' w' m' μ' hp' => ?_)
        show Exit.inBlock id Q (.exit id2) a' w'
        simp only [Exit.inBlock]
        split at hev
        · rename_i e2
          cases hev
          rw [if_pos e2]
          exact hq a' w' m' μ' hp'
        · rename_i e2
          cases hev
          rw [if_neg e2]
          exact hq a' w' m' μ' hp'
  | loop x ih =>
    intro c env G e env' G' a w m μ Q hc hev hp hq
    obtain ⟨hc, hlv⟩ := hc
    simp only [cCode, Option.map_eq_some_iff] at hc
    obtain ⟨cx, hx, he⟩ := hc
    cases c <;> simp [erase] at he
    rename_i live c1
    subst he
    simp only [evCode] at hev
    split at hev
    · rename_i env1 G1 hg
      simp only [liveOK, Bool.and_eq_true] at hlv
      obtain ⟨μ', hp'⟩ := gc_sound hE0 hE1 (fun k hk => by simpa using List.all_eq_true.1 hlv.1.1 k hk) (okLive_mem hmd hlv.1.2) hg hp
      exact wpIn_loop_rounds k (hL N E md ro hE0 hE1 hN hmm hro ⟨hx, hlv.2⟩ (by simp only [Bool.and_eq_true]; exact hlv.1) hev hp' hq)
    · cases hev
  | region id ops draw =>
    intro c env G e env' G' a w m μ Q hc hev hp hq
    obtain ⟨hc, hlv⟩ := hc
    cases draw with
    | false =>
      simp only [cCode] at hc
      split at hc
      · rename_i l hl
        split at hc
        · rename_i hnd
          cases c <;> simp [erase] at hc
          rename_i live l'
          subst hc
          simp only [liveOK] at hlv
          simp only [evCode] at hev
          cases h1 : evOps pg call l env G with
          | none => rw [h1] at hev; cases hev
          | some r1 =>
            rcases r1 with ⟨e1, env1, G1⟩
            rw [h1] at hev
            have hnd' : (E.top = true ∧ ro = none) ∨ noDfr l = true := by
              rcases Bool.or_eq_true_iff.1 hnd with h | h
              · left
                exact ⟨hmd.trans h, hro (fun e => by rw [e] at h; cases h)⟩
              · exact .inr h
            refine region_sound hC hE hN hl hnd' h1 hp ?_
            cases e1 with
            | normal => cases hev; exact fun a' w' m' μ' hp' => hq a' w' m' μ' (hp'.keep hmd hlv)
            | exit id => cases hev; exact hq
            | ret => cases hev; exact hq
            | pan v => cases hev; exact hq
        · cases hc
      · cases hc
    | true =>
      simp only [cCode] at hc
      split at hc
      · cases hc
      · rename_i l hl
        split at hc
        · rename_i pre rest chk hd
          cases c <;> simp [erase] at hc
          rename_i live n r k
          obtain ⟨rfl, rfl, rfl⟩ := hc
          simp only [liveOK] at hlv
          simp only [evCode] at hev
          split at hev
          · rename_i sn h1
            split at hev
            · rename_i hchk
              split at hev
              · rename_i F G2 h2
                cases hev
                exact draw_sound hC hE hN hm hl hd h1 hchk h2 hp (fun a' w' m' μ' hp' => hq a' w' m' μ' (hp'.keep hmd hlv))
              · cases hev
            · cases hev
          · cases hev
        · cases hc
  | rangeFunc x ps A B iha ihb =>
    intro c env G e env' G' a w m μ Q hc hev hp hq
    obtain ⟨hc, hlv⟩ := hc
    simp only [cCode] at hc
    split at hc
    · cases hc
    · rename_i hmd0
      split at hc
      · rename_i cx ca cb hx ha hb
        split at hc
        · rename_i hps
          cases c <;> simp [erase] at hc
          rename_i live lin ps' ox c1 c2
          obtain ⟨rfl, rfl, rfl, rfl⟩ := hc
          simp only [liveOK, Bool.and_eq_true] at hlv
          have hmd' : md = 0 := Nat.eq_of_beq_eq_true (by simpa using hmd0)
          subst hmd'
          have hro' := hro (by omega)
          subst hro'
          simp only [List.all_eq_true, Nat.blt_eq] at hps
          exact rangeF_sound hC hE hN hmm hx hps ⟨ha, hlv.2.1⟩ ⟨hb, hlv.2.2⟩ hlv.1 hev hp hq
        · cases hc
      · cases hc
  | _ => intro c env G e env' G' a w m μ Q hc; have := hc.code; simp [cCode] at this
end
end Go.Proofs.Z
end
section
namespace Go.Proofs.Z
open Go
variable [hP : HasP]
def CRes.tmp : CRes → Nat
  | .t n => n
  | .cell a _ _ => a
section
variable {P : Program} {pg : Prg} {call : CallF} {loop : LoopF}
theorem loadAt_var {t : TypeId} {v val : Value} {w : World} (h : (Instr.loadAt t v).run P w = .ok val w) : (do loadVar t (← asAddr v) : Sem Value).run P w = .ok val w := by
  cases v with
  | pointer p => cases p with
    | some a => simpa [Instr.loadAt, Instr.sureAddr, asAddr] using h
    | none => simp [Instr.loadAt, Instr.sureAddr, go_sem] at h
  | _ => simp [Instr.loadAt, Instr.sureAddr, go_sem] at h
def resOf (tmps : Array Value) : ResultVar → Sem Value
  | .tmp t => pure (tmps.getD t undef)
  | .cell a t => do loadVar t (← asAddr (tmps.getD a undef))
theorem res_sound {N : Nat} {env : Env} {G : Heap} {a : Act} {w : World} {m : Mem} {μ : Mu} (hI : Inv m μ G w) (he : EnvR m μ (inf G) N env a) : ∀ (rs : List ResultVar) {crs : List CRes} {vs : List AV}, (∀ x, x ∈ crs.map CRes.tmp → x < dK) → cRes P rs = some crs → evRes env G crs = some vs →
    ∃ vals, (rs.mapM (resOf a.tmps)).run P w = .ok vals w ∧ RL m μ (inf G) vals vs
  | [], crs, vs, ht, hc, hv => by
    simp [cRes] at hc
    subst hc
    simp [evRes] at hv
    subst hv
    exact ⟨[], by simp, .nil⟩
  | .tmp t :: r, crs, vs, ht, hc, hv => by
    simp only [cRes, Option.map_eq_some_iff] at hc
    obtain ⟨crs', hr, rfl⟩ := hc
    simp only [evRes] at hv
    split at hv
    · cases hv
    · rename_i v hvt
      split at hv
      · cases hv
      · rename_i vs' hvs
        cases hv
        obtain ⟨vals, h1, h2⟩ := res_sound hI he r (fun y hy => ht y (by simp [hy])) hr hvs
        exact ⟨_ :: vals, by simp [resOf, h1], .cons (he.val t v hvt (ht t (by simp [CRes.tmp]))) h2⟩
  | .cell x t :: r, crs, vs, ht, hc, hv => by
    simp only [cRes] at hc
    split at hc
    · rename_i n g crs' hn hg hr
      cases hc
      simp only [evRes] at hv
      split at hv
      · cases hv
      · rename_i p hpt
        split at hv
        · cases hv
        · rename_i v hl
          split at hv
          · cases hv
          · rename_i vs' hvs
            cases hv
            obtain ⟨vals, h1, h2⟩ := res_sound hI he r (fun y hy => ht y (by simp [hy])) hr hvs
            obtain ⟨val, k1, k2⟩ := loadAt_R hI hn hg (he.val x p hpt (ht x (by simp [CRes.tmp]))) hl
            have k3 := loadAt_var k1
            refine ⟨val :: vals, ?_, .cons k2 h2⟩
            rw [List.mapM_cons]
            simp only [Sem.run_bind]
            rw [show resOf a.tmps (.cell x t) = (do loadVar t (← asAddr (a.tmps.getD x undef)) : Sem Value) from rfl, k3]
            simp [h1]
    · cases hc
def wholeV (vals : List Value) : Value := if h : vals.toArray.size = 1 then vals.toArray[0] else .tuple vals.toArray
theorem whole_R {m : Mem} {μ : Mu} {i : Inf} {vals : List Value} {vs : List AV} (h : RL m μ i vals vs) : R m μ i (wholeV vals) (whole vs) := by
  cases vs with
  | nil => rw [h.inv_nil]; exact .tupOf (cs := #[]) .nil
  | cons a r =>
    obtain ⟨v, vals', rfl, h1, h2⟩ := h.inv_cons
    cases r with
    | nil => rw [h2.inv_nil]; exact h1
    | cons b r =>
      obtain ⟨v', vals'', rfl, h3, h4⟩ := h2.inv_cons
      exact .tupOf (cs := #[v, v'] ++ vals''.toArray |> fun _ => (v :: v' :: vals'').toArray) h
theorem results_run {fn : Func} {tmps : Array Value} {vals : List Value} {w : World} (h : (fn.results.toList.mapM (resOf tmps)).run P w = .ok vals w) : (results fn tmps).run P w = .ok (wholeV vals) w := by
  have e : results fn tmps = (do let vs ← fn.results.mapM (resOf tmps); pure (if h : vs.size = 1 then vs[0] else .tuple vs)) := rfl
  rw [e, Array.mapM_eq_mapM_toList]
  simp [h, wholeV]
mutual
theorem below_sound {m : Mem} {μ μ' : Mu} {i i' : Inf} {n : Nat} (h : ∀ id, id < n → μ' id = μ id ∧ i' id = i id) : ∀ (a : AV) {z : Value}, below n a = true → R m μ i z a → R m μ' i' z a
  | .p x, z, hb, hr => by cases hr with | p _ _ hp => exact .p _ _ hp
  | .nils, z, hb, hr => by cases hr; exact .nils
  | .undef, z, hb, hr => by cases hr; exact .undef
  | .rp cs, z, hb, hr => by cases hr with | rp b o cells f hc => exact .rp b o cs f hc
  | .arr id len gen, z, hb, hr => by
    cases hr with | arr _ _ _ ad n c loc g sz h1 h2 h3 h4 =>
    obtain ⟨a1, a2⟩ := h id (Nat.blt_eq.mp hb)
    exact .arr _ len gen ad n c loc g sz (a1.trans h1) (a2.trans h2) h3 h4
  | .ptr id off, z, hb, hr => by
    cases hr with | ptr _ _ loc h1 h2 =>
    obtain ⟨a1, a2⟩ := h id (Nat.blt_eq.mp hb)
    exact .ptr _ off loc (a1.trans h1) (a2.trans h2)
  | .eptr id idx off gen, z, hb, hr => by
    cases hr with | eptr _ _ _ _ ad loc g sz h1 h2 h3 h4 =>
    obtain ⟨a1, a2⟩ := h id (Nat.blt_eq.mp hb)
    exact .eptr _ idx off gen ad loc g sz (a1.trans h1) (a2.trans h2) h3 h4
  | .ag cs, z, hb, hr => by
    obtain ⟨ca, rfl, h1, h2⟩ := hr.ag_inv
    exact .agOf (belowL_sound h cs (by simpa [below] using hb) (RL.ofArr h1 h2))
  | .tup cs, z, hb, hr => by
    obtain ⟨ca, rfl, h1, h2⟩ := hr.tup_inv
    exact .tupOf (belowL_sound h cs (by simpa [below] using hb) (RL.ofArr h1 h2))
  | .ifc t x, z, hb, hr => by
    cases hr with | ifc _ z' _ hr => exact .ifc _ _ _ (below_sound h x (by simpa [below] using hb) hr)
  | .fn f x y, z, hb, hr => by
    obtain ⟨a, b, rfl, ha, hb'⟩ := hr.fnInv
    simp only [below, Bool.and_eq_true] at hb
    exact .fnOf (belowL_sound h x hb.1 ha) (belowL_sound h y hb.2 hb')
  | .map id, z, hb, hr => by
    cases hr with | map _ loc h1 h2 =>
    obtain ⟨a1, a2⟩ := h id (Nat.blt_eq.mp hb)
    exact .map _ loc (a1.trans h1) (a2.trans h2)
  | .yld id, z, hb, hr => by
    cases hr with | yld _ loc h1 h2 =>
    obtain ⟨a1, a2⟩ := h id (Nat.blt_eq.mp hb)
    exact .yld _ loc (a1.trans h1) (a2.trans h2)
  | .nmap, z, hb, hr => by cases hr; exact .nmap
  | .clip rows, z, hb, hr => by cases hr with | clip a _ hp => exact .clip a rows hp
theorem belowL_sound {m : Mem} {μ μ' : Mu} {i i' : Inf} {n : Nat} (h : ∀ id, id < n → μ' id = μ id ∧ i' id = i id) : ∀ (l : List AV) {zs : List Value}, belowL n l = true → RL m μ i zs l → RL m μ' i' zs l
  | [], zs, hb, hr => by rw [hr.inv_nil]; exact .nil
  | a :: r, zs, hb, hr => by
    obtain ⟨z, zs, rfl, hz, hr⟩ := hr.inv_cons
    simp only [belowL, Bool.and_eq_true] at hb
    exact .cons (below_sound h a hb.1 hz) (belowL_sound h r hb.2 hr)
end
theorem leave_sound {m0 m : Mem} {μ0 μ : Mu} {G0 G G' : Heap} {w0 w : World} {out out' : Out} (hI : Inv m μ G w) (hext : Ext m0 μ0 G0 m μ G) (hfr : Fr m0 μ0 w0 m μ w) (ht : ∀ id, id < G0.length → ∃ l, μ0 id = some l) (hd : ∀ id l, μ0 id = some l → id < G0.length)
    (h : leave G0.length out G = some (out', G')) {e : Ending} (ho : OutR m μ (inf G) out e) : ∃ μ', Inv m μ' G' w ∧ Stp m0 μ0 G0 w0 m μ' G' w ∧ OutR m μ' (inf G') out' e := by
  unfold leave at h
  split at h
  · rename_i hb
    cases h
    simp only [Bool.and_eq_true, List.all_eq_true] at hb
    let μ' : Mu := fun id => if id < G0.length then μ id else none
    have hin : ∀ id, id < G0.length → μ' id = μ id ∧ inf (G.take G0.length) id = inf G id := fun id hid => by
      refine ⟨by simp [μ', hid], ?_⟩
      unfold inf
      rw [List.getElem?_take, if_pos hid]
    have hinv : ∀ id loc, μ' id = some loc → id < G0.length ∧ μ id = some loc := fun id loc hl => by
      simp only [μ'] at hl
      split at hl
      · exact ⟨by assumption, hl⟩
      · cases hl
    have hmap : ∀ id, id < G0.length → ∃ l, μ id = some l := by
      intro id hid
      obtain ⟨l, hl⟩ := ht id hid
      have hi : inf G0 id = some (infO G0[id]) := by simp [inf, List.getElem?_eq_getElem hid]
      cases hio : infO G0[id] with
      | none => rw [hio] at hi; exact ⟨_, (hext.box id l hl hi).1⟩
      | some p =>
        rcases p with ⟨g, sz⟩
        rw [hio] at hi
        obtain ⟨l', _, h1, _⟩ := hext.arr id l g sz hl hi
        exact ⟨l', h1⟩
    refine ⟨μ', ⟨hI.known, ?_, ?_, ?_, hI.glob.sub fun id loc hl => ⟨id, (hinv id loc hl).2⟩⟩, ⟨⟨hext.mem, ?_, ?_⟩, ⟨hfr.os, hfr.tape, hfr.output, hfr.size, hfr.blk, hfr.mem, fun id loc hl => hfr.loc id loc (hinv id loc hl).2⟩, ⟨?_, ?_⟩⟩, ?_⟩
    · intro i j l l' h1 h2 he
      exact hI.inj i j l l' (hinv i l h1).2 (hinv j l' h2).2 he
    · intro id o ho' loc hl
      obtain ⟨hid, hl'⟩ := hinv id loc hl
      rw [List.getElem?_take, if_pos hid] at ho'
      have hob := hI.obj id o ho' loc hl'
      cases o with
      | arr ty sz rows g sl => exact hob
      | map ents => exact hob
      | dead g sz => exact hob
      | frm ps ag bd env st pend =>
        obtain ⟨rc, N, k1, k2, k3, k4, k5, k6, k7, k8, k9⟩ := hob
        have hbel : belowL G0.length (env.map (·.2)) = true := by
          have := hb.2 (.frm ps ag bd env st pend) (by
            rw [List.mem_iff_getElem?]
            exact ⟨id, by rw [List.getElem?_take, if_pos hid]; exact ho'⟩)
          exact this
        have := belowL_sound (m := m) (i' := inf (G.take G0.length)) hin (env.map (·.2)) hbel (zs := env.map fun p => rc.tmps.getD p.1 undef) ⟨by simp, fun j v c g1 g2 => by
          simp only [List.getElem?_map, Option.map_eq_some_iff] at g1 g2
          obtain ⟨p, q1, rfl⟩ := g1
          obtain ⟨p', q2, rfl⟩ := g2
          rw [q1] at q2
          cases q2
          exact k8 p (List.mem_iff_getElem?.2 ⟨j, q1⟩)⟩
        refine ⟨rc, N, k1, k2, k3, k4, k5, k6, k7, fun p hpm => ?_, k9⟩
        obtain ⟨j, hj⟩ := List.mem_iff_getElem?.1 hpm
        exact this.2 j (rc.tmps.getD p.1 undef) p.2 (by simp [hj]) (by simp [hj])
      | box ty cells =>
        obtain ⟨cs, T, k1, k2, k3, k4, k5⟩ := hob
        have hbel : belowL G0.length cells = true := by
          have := hb.2 (.box ty cells) (by
            rw [List.mem_iff_getElem?]
            exact ⟨id, by rw [List.getElem?_take, if_pos hid]; exact ho'⟩)
          exact this
        have := belowL_sound (m := m) (i' := inf (G.take G0.length)) hin cells hbel (RL.ofArr k2 k3)
        exact ⟨cs, T, k1, k2, fun j v a g1 g2 => this.2 j v a (by simpa using g1) g2, k4, k5⟩
    · intro id loc hl
      obtain ⟨hid, hl'⟩ := hinv id loc hl
      have := hI.dom id loc hl'
      simp
      omega
    · intro id loc h1 h2
      obtain ⟨a1, a2⟩ := hext.box id loc h1 h2
      obtain ⟨b1, b2⟩ := hin id (hd id loc h1)
      exact ⟨b1.trans a1, b2.trans a2⟩
    · intro id loc g sz h1 h2
      obtain ⟨l', g', a1, a2, a3, a4⟩ := hext.arr id loc g sz h1 h2
      obtain ⟨b1, b2⟩ := hin id (hd id loc h1)
      exact ⟨l', g', b1.trans a1, b2.trans a2, a3, a4⟩
    · intro id hid _
      simp at hid
      obtain ⟨l, hl⟩ := hmap id (by omega)
      exact ⟨l, (hin id (by omega)).1.trans hl⟩
    · intro id hid hn
      obtain ⟨l, hl⟩ := ht id hid
      rw [hl] at hn; cases hn
    · cases out with
      | ret v => cases e <;> first | exact ho.elim | exact below_sound hin v hb.1 ho
      | pan v => cases e <;> first | exact ho.elim | (obtain ⟨z, h1, h2⟩ := ho; exact ⟨z, h1, below_sound hin v hb.1 h2⟩)
  · cases h
end
end Go.Proofs.Z
end
section
namespace Go.Proofs.Z
open Go
variable [hP : HasP]
structure FnOK (P : Program) (f : Nat) (c : CFun) : Prop where
  ok : ∃ fn code, P.funcs[f]? = some fn ∧ fn.body = some code ∧ (fn.name == "runtime.NumGoroutine") = false ∧ fn.ntmps ≤ dK ∧ cRes P fn.results.toList = some c.res ∧ (∀ x, x ∈ c.res.map CRes.tmp → x < dK) ∧
    liveOK c.md c.body = true ∧ if c.md < 2 then cCode P fn.ntmps c.md code = some (erase c.body) else cDef P fn.ntmps code = some (erase c.body)
theorem init_lk : ∀ (args : List AV) (k : Nat) (j : Nat) (x : AV), lk (initEnv k args) j = some x → k ≤ j ∧ args[j - k]? = some x
  | [], k, j, x, h => by simp [initEnv, lk] at h
  | a :: r, k, j, x, h => by
    simp only [initEnv, lk] at h
    split at h
    · rename_i e; cases h; subst e; simp
    · rename_i e
      obtain ⟨h1, h2⟩ := init_lk r (k + 1) j x h
      refine ⟨by omega, ?_⟩
      rw [show j - k = (j - (k + 1)) + 1 by omega]
      simpa using h2
theorem putObj_keep {m : Mem} {μ : Mu} {G : Heap} {w : World} (hI : Inv m μ G w) {r : Nat} {x y : Obj} (hr : w.heap[r]? = some x) (hx : ∀ cs T f, x ≠ .cells cs T f) (ha : ∀ id loc, μ id = some loc → loc.blk ≠ r) : Inv m μ G (w.putObj r y) := by
  have hblk : ∀ b, b ≠ r → (w.putObj r y).heap[b]? = w.heap[b]? := fun b hb => World.putObj_heap_other hb
  refine ⟨fun b o v h => ?_, hI.inj, fun id o ho loc hl => (hI.obj id o ho loc hl).move (.refl _ _ _) (hblk _ (ha id loc hl)) (fun _ h => h), hI.dom, fun g p hg => ?_⟩
  have h1 := hI.known b o v h
  by_cases e : b = r
  · subst e
    simp only [World.cell?, hr] at h1
    cases x with
    | cells cs T f => exact absurd rfl (hx cs T f)
    | _ => simp at h1
  · unfold World.cell? at h1 ⊢
    dsimp only at h1 ⊢
    rw [hblk b e]
    exact h1
  · obtain ⟨⟨cs, T, f, h1, h2⟩, h3⟩ := hI.glob g p hg
    have : g ≠ r := fun e => by subst e; rw [hr] at h1; exact hx cs T f (Option.some.inj h1)
    exact ⟨⟨cs, T, f, by rw [hblk g this]; exact h1, h2⟩, h3⟩
section
variable {pg : Prg} {call : CallF} {loop : LoopF}
theorem leaves_marks {E : Ent} {fn : Func} {tmps : Array Value} {R : Ending → World → Prop} {m : Mem} {μ : Mu} {G : Heap} {u : FrameMode} (hu : u ≠ .run) : ∀ (rs : List Nat) {w : World}, rs.Nodup → (∀ r, r ∈ rs → MarkOK E μ w r) → Inv m μ G w → Fr E.m E.μ E.w m μ w →
    (∀ w', Inv m μ G w' → Fr E.m E.μ E.w m μ w' → LeavesIn (Fn none) 0 hP.P fn tmps R [] u w') → LeavesInM (Fn none) 0 hP.P fn tmps R (rs.map mark) u w
  | [], w, _, _, hI, hF, hk => hk w hI hF
  | r :: rs, w, hn, hm, hI, hF, hk => by
    obtain ⟨hr, hn'⟩ := List.nodup_cons.1 hn
    have h0 := hm r (by simp)
    refine ⟨hu, .inl ⟨r, w.putObj r (.deferred none), rfl, run_takeDeferred h0.at_, ?_⟩⟩
    refine leaves_marks hu rs hn' (fun r' hr' => ?_) (putObj_keep hI h0.at_ (fun _ _ _ e => by cases e) h0.apart) ⟨hF.os, hF.tape, hF.output, by simpa using hF.size, fun b hb hne => ?_, hF.mem, hF.loc⟩ hk
    · have h1 := hm r' (by simp [hr'])
      exact ⟨h1.new, by rw [World.putObj_heap_other (fun e => by subst e; exact hr hr')]; exact h1.at_, h1.apart⟩
    · rw [World.putObj_heap_other (by have := h0.new; omega)]
      exact hF.blk b hb hne
theorem end_sound {E : Ent} {N : Nat} {fn : Func} {c : CFun} (hres : cRes hP.P fn.results.toList = some c.res) (htm : ∀ x, x ∈ c.res.map CRes.tmp → x < dK) (hE0 : ∀ id, id < E.G.length → ∃ l, E.μ id = some l) (hE1 : ∀ id l, E.μ id = some l → id < E.G.length) {env : Env} {G1 G' : Heap} {out : Out} (h : evEnd c E.G.length env G1 = some (out, G'))
    {tmps : Array Value} {w : World} {m : Mem} {μ : Mu} (hI : Inv m μ G1 w) (he : EnvR m μ (inf G1) N env { tmps := tmps, defers := [] }) (htot : ∀ id, id < G1.length → ∃ l, μ id = some l) (hx : Ext E.m E.μ E.G m μ G1) (hf : Fr E.m E.μ E.w m μ w) :
    ∃ v, (results fn tmps).run hP.P w = .ok v w ∧ ∃ m' μ', Inv m' μ' G' w ∧ Stp E.m E.μ E.G E.w m' μ' G' w ∧ OutR m' μ' (inf G') out (.returned v) := by
  unfold evEnd at h
  split at h
  · cases h
  · rename_i vs hvs
    obtain ⟨vals, k1, k2⟩ := res_sound (P := hP.P) hI he fn.results.toList htm hres hvs
    · refine ⟨wholeV vals, results_run k1, ?_⟩
      have hw := whole_R k2
      split at h
      · cases h
        refine ⟨m, μ, hI, ⟨hx, hf, ⟨fun id hid _ => htot id hid, fun id hid hn => ?_⟩⟩, hw⟩
        obtain ⟨l, hl⟩ := hE0 id hid
        rw [hl] at hn; cases hn
      · split at h
        · rename_i v G2 hn
          obtain ⟨m2, i1, i2, i3⟩ := norm_sound _ hI hn hw
          obtain ⟨μ3, j1, j2, j3⟩ := leave_sound (out := .ret v) i1 (hx.trans i2.ext) (hf.trans i2.fr) hE0 hE1 h (e := .returned (wholeV vals)) i3
          exact ⟨m2, μ3, j1, j2, j3⟩
        · cases h
end
end Go.Proofs.Z
end
section
namespace Go.Proofs.Z
open Go
variable [hP : HasP]
section
variable {pg : Prg} {call : CallF} {loop : LoopF}
theorem params_env {m : Mem} {μ : Mu} {i : Inf} {N : Nat} : ∀ (ps : List Nat) (vals : List Value) (args : List AV) {env : Env} {tmps : Array Value}, ps.length = args.length → RL m μ i vals args → (∀ p, p ∈ ps → p < N) → EnvR m μ i N env { tmps := tmps, defers := [] } →
    EnvR m μ i N ((ps.zip args).reverse ++ env) { tmps := (ps.zip vals).foldl (fun t (x : Nat × Value) => t.setIfInBounds x.1 x.2) tmps, defers := [] }
  | [], vals, args, env, tmps, hl, hr, hp, he => by
    have : args = [] := List.eq_nil_of_length_eq_zero (by simpa using hl.symm)
    subst this
    simpa using he
  | p :: ps, vals, [], env, tmps, hl, hr, hp, he => by simp at hl
  | p :: ps, vals, a :: args, env, tmps, hl, hr, hp, he => by
    obtain ⟨v, vals, rfl, hv, hr⟩ := hr.inv_cons
    have h1 : EnvR m μ i N (Z.put env (some p) a) { tmps := tmps.setIfInBounds p v, defers := [] } := he.put (d := some p) (by simp [dstOK, Nat.blt_eq, hp p (by simp)]) hv
    have := params_env ps vals args (by simpa using hl) hr (fun q hq => hp q (by simp [hq])) h1
    simpa [Z.put] using this
theorem zip_run {ps : Array Tmp} {vals : Array Value} {tmps : Array Value} : (ps.zip vals).foldl (fun t (x, v) => t.setIfInBounds x v) tmps = (ps.toList.zip vals.toList).foldl (fun t (x : Nat × Value) => t.setIfInBounds x.1 x.2) tmps := by
  rw [← Array.foldl_toList, Array.toList_zip]
theorem stp_of {m : Mem} {μ : Mu} {G : Heap} {w : World} (ht : ∀ id, id < G.length → ∃ l, μ id = some l) {m' : Mem} {μ' : Mu} {G' : Heap} {w' : World} (hx : Ext m μ G m' μ' G') (hf : Fr m μ w m' μ' w') (htot : ∀ id, id < G'.length → ∃ l, μ' id = some l) : Stp m μ G w m' μ' G' w' :=
  ⟨hx, hf, ⟨fun id hid _ => htot id hid, fun id hid hn => by obtain ⟨l, hl⟩ := ht id hid; rw [hl] at hn; cases hn⟩⟩
theorem yld_sound (hm : hP.P.follows .mixedOrders = true) (hC : CallSound hP.P call) (hE : CallEnters hP.P call) {k : Nat} (hL : LoopSound loop k) {args : List AV} {G G' : Heap} {out : Out} (h : evYld pg call loop args G = some (out, G'))
    {m : Mem} {μ : Mu} {w : World} {vargs : List Value} (hI : Inv m μ G w) (ht : ∀ id, id < G.length → ∃ l, μ id = some l) (hr : RL m μ (inf G) vargs args) : ∃ l rest, vargs = .func (.yield l) #[] #[] :: rest ∧ YieldAt (Fn none) 0 hP.P l rest.toArray w fun e w' => ∃ m' μ', Inv m' μ' G' w' ∧ Stp m μ G w m' μ' G' w' ∧ OutR m' μ' (inf G') out e := by
  unfold evYld at h
  split at h
  · rename_i id args'
    obtain ⟨v, rest, rfl, hy, hr'⟩ := hr.inv_cons
    cases hy with | yld _ loc q1 q2 =>
    refine ⟨loc.blk, rest, rfl, ?_⟩
    split at h
    · rename_i ps ca cb env hG
      split at h
      · rename_i hlen
        obtain ⟨hlen, hdk0⟩ := hlen
        split at h
        · rename_i env1 G1 hev1
          split at h
          · rename_i ps1 ca1 cb1 envx hG1
            split at h
            · rename_i e env2 G2 hev2
              split at h
              · rename_i ps2 ca2 cb2 envy j hG2 hj
                cases h
                obtain ⟨r, N, k1, k2, k3, k4, k5, k6, k7, k8, k9, k10, k11⟩ := hI.obj id _ hG loc q1
                have hsz : rest.toArray.size = r.params.size := by
                  have e1 := hr'.1
                  have e2 : r.params.size = ps.length := by rw [← k2]; simp
                  simp only [List.size_toArray]; omega
                refine ⟨_, _, _, _, run_yield k1 hsz, roundIn_of_wpIn trivial ?_⟩
                let E : Ent := ⟨m, μ, G, w, 2⟩
                have henv : EnvR m μ (inf G) N ((ps.zip args').reverse ++ env) { tmps := (r.params.zip rest.toArray).foldl (fun tmps (t, a) => tmps.setIfInBounds t a) r.tmps, defers := [] } := by
                  rw [zip_run, k2]
                  have := params_env (i := inf G) (N := N) ps rest args' (env := env) (tmps := r.tmps) hlen hr' k5 ⟨k7, fun x v hv hd => k8 (x, v) (lk_mem' hv)⟩
                  simpa using this
                have hk0 : lk ((ps.zip args').reverse ++ env) dK = none := by simpa using hdk0
                have hp0 : ∀ (env0 : Env), EnvR m μ (inf G) N env0 { tmps := (r.params.zip rest.toArray).foldl (fun tmps (t, a) => tmps.setIfInBounds t a) r.tmps, defers := [] } → lk env0 dK = none → Pt N E G env0 { tmps := (r.params.zip rest.toArray).foldl (fun tmps (t, a) => tmps.setIfInBounds t a) r.tmps, defers := [] } w m μ := fun env0 he hk =>
                  ⟨hI, he, ⟨[], [], rfl, by simp, fun r h => by simp at h, by rw [hk]; rfl, fun _ => rfl, fun _ => hk⟩, ht, .refl _ _ _, .refl _ _ _⟩
                refine code_sound (E := E) (md := 2) (ro := some loc.blk) hm hC hE hL ht (fun id l hl => hI.dom id l hl) k6 rfl (fun h => absurd rfl h) _ _ k3 hev1 (hp0 _ henv hk0) (fun a1 w1 m1 μ1 hp1 => ?_)
                have hb1 := (hp1.ext.box id loc q1 q2).1
                obtain ⟨r1, N1, o1, o2, o3, o4, o5, o6, o7, o8, o9, o10, o11⟩ := hp1.inv.obj _ _ hG1 loc hb1
                have hbeg := run_beginRound (P := hP.P) o1 o9
                have hlt : loc.blk < w1.heap.size := (Array.getElem?_eq_some_iff.1 o1).1
                refine ⟨_, hbeg, ?_⟩
                obtain ⟨s1, s2⟩ := set_step (old := .frm ps1 ca1 cb1 envx 0 none) (new := .frm ps1 ca1 cb1 envx 1 none) (cs := #[]) (T := 0) hp1.inv hG1 hb1 (w' := w1.putObj loc.blk (.loop { r1 with state := .busy })) rfl rfl rfl (by simp) (fun b hb => World.putObj_heap_other hb) (fun o v hm => by rw [o11 o] at hm; cases hm) (fun _ => rfl) (fun g sz h => by cases h)
                  (fun ee => ⟨{ r1 with state := .busy }, N1, by simp [World.putObj, hlt], o2, o3, o4, o5, o6, o7, fun p hp => (o8 p hp).mono ee, rfl, o10, o11⟩)
                have hp1' := hp1.step s1 s2 (hp1.env.mono s2.ext) rfl rfl
                have fin : ∀ (jump : Option Code) (j' : Option (Option Nat)), jump = pendOf j' → j = j' → ∀ a2 w2 m2 μ2, Pt N E G2 env2 a2 w2 m2 μ2 → ∃ v w3, (Instr.endRound loc.blk jump).run hP.P w2 = .ok v w3 ∧ (∃ m' μ', Inv m' μ' (G2.set id (.frm ps2 ca2 cb2 envy (if j.isNone then 0 else 2) j)) w3 ∧ Stp m μ G w m' μ' (G2.set id (.frm ps2 ca2 cb2 envy (if j.isNone then 0 else 2) j)) w3 ∧ OutR m' μ' (inf (G2.set id (.frm ps2 ca2 cb2 envy (if j.isNone then 0 else 2) j))) (.ret (.p (.b j.isNone))) (.returned v)) := by
                  intro jump j' hjj e2 a2 w2 m2 μ2 hp2
                  subst e2
                  have hb2 := (hp2.ext.box id loc q1 q2).1
                  obtain ⟨r2, N2, p1, p2, p3, p4, p5, p6, p7, p8, p9, p10, p11⟩ := hp2.inv.obj _ _ hG2 loc hb2
                  have hlt2 : loc.blk < w2.heap.size := (Array.getElem?_eq_some_iff.1 p1).1
                  have hrun := run_endRound (P := hP.P) jump p1
                  obtain ⟨t1, t2⟩ := set_step (old := .frm ps2 ca2 cb2 envy 1 none) (new := .frm ps2 ca2 cb2 envy (if j.isNone then 0 else 2) j) (cs := #[]) (T := 0) hp2.inv hG2 hb2 (w' := w2.putObj loc.blk (.loop { r2 with state := if jump.isNone then .ready else .done, pending := jump })) rfl rfl rfl (by simp) (fun b hb => World.putObj_heap_other hb) (fun o v hm => by rw [p11 o] at hm; cases hm) (fun _ => rfl) (fun g sz h => by cases h)
                    (fun ee => ⟨{ r2 with state := if jump.isNone then .ready else .done, pending := jump }, N2, by simp [World.putObj, hlt2], p2, p3, p4, p5, p6, p7, fun p hp => (p8 p hp).mono ee, by rw [hjj]; rcases j with _ | _ | _ <;> rfl, hjj, p11⟩)
                  have hp2' := hp2.step t1 t2 (hp2.env.mono t2.ext) rfl rfl
                  refine ⟨_, _, hrun, m2, μ2, t1, stp_of ht hp2'.ext hp2'.fr hp2'.tot, ?_⟩
                  have : jump.isNone = j.isNone := by rw [hjj]; rcases j with _ | _ | _ <;> rfl
                  rw [this]
                  exact .bool _
                refine code_sound (E := E) (md := 2) (ro := some loc.blk) hm hC hE hL ht (fun id l hl => hI.dom id l hl) k6 rfl (fun h => absurd rfl h) _ _ k4 hev2 hp1' (fun a2 w2 m2 μ2 hp2 => ?_)
                cases e with
                | normal => simp only [Ex.jump, Option.some.injEq] at hj; exact fin none none rfl hj.symm a2 w2 m2 μ2 hp2
                | ret => simp only [Ex.jump, Option.some.injEq] at hj; exact fin (some .ret) (some none) rfl hj.symm a2 w2 m2 μ2 hp2
                | exit kk => simp only [Ex.jump, Option.some.injEq] at hj; exact fin (some (.exit kk)) (some (some kk)) rfl hj.symm a2 w2 m2 μ2 hp2
                | pan v => cases hj
              · cases h
            · cases h
          · cases h
        · cases h
      · cases h
    · cases h
  · cases h
end
end Go.Proofs.Z
end
section
namespace Go.Proofs.Z
open Go
variable [hP : HasP]
section
variable {pg : Prg} {call : CallF} {loop : LoopF}
theorem snap_lk {x : Nat} : ∀ {L : List CI} {env : Env} {G : Heap} {sn : List (Env × Heap)} {y : Env × Heap}, (∀ c, c ∈ L → c.d ≠ some x) → evSnap pg call L env G = some sn → sn.getLast? = some y → lk y.1 x = lk env x
  | [], env, G, sn, y, _, h, hy => by
    simp [evSnap] at h
    subst h
    simp at hy
    subst hy; rfl
  | c :: r, env, G, sn, y, hd, h, hy => by
    simp only [evSnap] at h
    split at h
    · cases h
    · split at h
      · cases h
      · rename_i v G' _ l hl
        cases h
        have hne : l ≠ [] := by intro e; subst e; have := (snap_at hl).1; simp at this
        rw [List.getLast?_cons_of_ne_nil hne] at hy
        rw [snap_lk (fun c' hc' => hd c' (by simp [hc'])) hl hy]
        have := hd c (by simp)
        cases hcd : c.d with
        | none => rfl
        | some d => rw [hcd] at this; simp only [put, lk]; rw [if_neg (fun e => this (by rw [e]))]
theorem ops_lk {x : Nat} : ∀ {L : List CI} {env : Env} {G : Heap} {e : Ex} {env' : Env} {G' : Heap}, (∀ c, c ∈ L → c.d ≠ some x) → evOps pg call L env G = some (e, env', G') → lk env' x = lk env x
  | [], env, G, e, env', G', _, h => by simp [evOps] at h; rw [h.2.1]
  | c :: r, env, G, e, env', G', hd, h => by
    have hput : ∀ v, lk (put env c.d v) x = lk env x := fun v => by
      have := hd c (by simp)
      cases hcd : c.d with
      | none => rfl
      | some d => rw [hcd] at this; simp only [put, lk]; rw [if_neg (fun e => this (by rw [e]))]
    simp only [evOps] at h
    split at h
    · cases h
    · rw [ops_lk (fun c' hc' => hd c' (by simp [hc'])) h, hput]
    · split at h
      · cases h
      · rw [ops_lk (fun c' hc' => hd c' (by simp [hc'])) h, hput]
      · cases h; rfl
theorem cOpers_d {N : Nat} (hN : N ≤ dK) {ops : Array Oper} {l : List Oper} {cs : List CI} (h : cOpers hP.P N ops l = some cs) : ∀ c, c ∈ cs → c.d ≠ some rK := by
  intro c hc e
  obtain ⟨k, hk⟩ := List.mem_iff_getElem?.1 hc
  obtain ⟨h1, h2⟩ := cOpers_at h
  have hkl : k < l.length := by rw [← h1]; exact (List.getElem?_eq_some_iff.1 hk).1
  obtain ⟨c', a1, a2⟩ := h2 k _ (List.getElem?_eq_getElem hkl)
  rw [hk] at a1
  cases a1
  obtain ⟨_, b2, b3, _, b5⟩ := cOper_inv a2
  cases hd : (l[k]).isDfr with
  | true => rw [(b5 hd).1] at e; cases e
  | false =>
    rw [← b2 hd, e] at b3
    have : rK < N := by simpa [dstOK, Nat.blt_eq] using b3
    simp [rK, dK] at this hN; omega
theorem region_lk {N : Nat} (hN : N ≤ dK) {id : Nat} {ops : Array Oper} {dr : Bool} {c : CCode} (hc : cCode hP.P N 2 (.region id ops dr) = some (erase c)) {base : Nat} {env : Env} {G : Heap} {e : Ex} {env' : Env} {G' : Heap} (h : evCode pg call loop base c env G = some (e, env', G')) {v : AV} (hv : lk env' rK = some v) : lk env rK = some v := by
  cases dr with
  | false =>
    simp only [cCode] at hc
    split at hc
    · rename_i l hl
      split at hc
      · cases c <;> simp [erase] at hc
        subst hc
        simp only [evCode] at h
        rename_i live l'
        cases h1 : evOps pg call l env G with
        | none => rw [h1] at h; cases h
        | some r1 =>
          rcases r1 with ⟨e1, env1, G1⟩
          rw [h1] at h
          have hk := ops_lk (cOpers_d hN hl) h1
          cases e1 with
          | normal => cases h; rw [← hk]; exact (mem_restr' (lk_mem' hv)).2
          | _ => cases h; rw [← hk]; exact hv
      · cases hc
    · cases hc
  | true =>
    simp only [cCode] at hc
    split at hc
    · cases hc
    · rename_i l hl
      split at hc
      · rename_i pre rest chk hd
        cases c <;> simp [erase] at hc
        obtain ⟨rfl, rfl, rfl⟩ := hc
        simp only [evCode] at h
        split at h
        · rename_i sn h1
          split at h
          · split at h
            · rename_i F G2 h2
              cases h
              have hmem : ∀ c, c ∈ pre ++ rest → c.d ≠ some rK := by
                intro c hc
                suffices hs : ∃ c0, c0 ∈ l ∧ Pc c0 c by
                  obtain ⟨c0, h0, hpc⟩ := hs
                  rw [hpc.d]; exact cOpers_d hN hl c0 h0
                unfold cDraw at hd
                dsimp only at hd
                split at hd
                · cases hd
                  have key : ∀ is, c ∈ pickL (pcAt (preOf l (ancs [] (ops.toList.map binding))) 0 l) is → ∃ c0, c0 ∈ l ∧ Pc c0 c := fun is h => by
                    simp only [pickL, List.mem_filterMap] at h
                    obtain ⟨i, _, hi⟩ := h
                    have hil := (List.getElem?_eq_some_iff.1 hi).1
                    rw [pcAt_len] at hil
                    obtain ⟨c1, e1, e2⟩ := pcAt_at (pre := preOf l (ancs [] (ops.toList.map binding))) (n := 0) (List.getElem?_eq_getElem hil)
                    rw [hi] at e1
                    cases e1
                    exact ⟨_, List.getElem_mem hil, e2⟩
                  rcases List.mem_append.1 hc with h | h <;> exact key _ h
                · cases hd
              rw [← snap_lk hmem h1 h2]
              exact (mem_restr' (lk_mem' hv)).2
            · cases h
          · cases h
        · cases h
      · cases hc
def recd (cs : List Frame) : List Frame := match recoverD cs with
  | some (_, cs') => cs'
  | none => cs
def recv (cs : List Frame) : Value := match recoverD cs with
  | some (v, _) => v
  | none => .nilIface
def EndsS (N : Nat) (E : Ent) (Q : Exit → Act → List Frame → World → Prop) (cs : List Frame) (e : Ex) (env : Env) (G : Heap) : Prop := Ends N E (fun x a w => Q x a cs w) e env G
theorem recover_run {o : Oper} {args : Array Operand} {ts : Array TypeId} (ho : o.op = .call ⟨.builtin .recover, args, ts⟩) (ha : args.isEmpty = true) (a : Act) (w : World) : (execOp a.eval o).run hP.P w = .ok .recover w := by
  have : args = #[] := by simpa using ha
  subst this
  simp [execOp, ho, resolve, invoke, builtin]
theorem rcv_sound {N : Nat} {E : Ent} (hN : N ≤ dK) (hmm : E.md = 2) {cs : List Frame} {pv : AV} {id : Nat} {ops : Array Oper} {c : CCode} (hc : cRcv N ops = some (erase c)) {base : Nat} {env : Env} {G : Heap} {e : Ex} {env' : Env} {G' : Heap} {a : Act} {w : World} {m : Mem} {μ : Mu} {Q : Exit → Act → List Frame → World → Prop}
    (hev : evCode pg call loop base c env G = some (e, env', G')) (hp : Pt N E G env a w m μ) (hv : ∀ v, lk env rK = some v → v = pv) (hr : R E.m E.μ (inf E.G) (recv cs) pv) (hq : EndsS N E Q (recd cs) e env' G') : (Code.region id ops false).wpSIn (Fn none) 0 hP.P Q a cs w := by
  unfold cRcv at hc
  split at hc
  · rename_i o o' hops
    split at hc
    · rename_i args ts d d' ee h1 h2 h3 h4 h5 h6
      split at hc
      · rename_i hcond
        simp only [Bool.and_eq_true, Nat.blt_eq] at hcond
        obtain ⟨⟨⟨c1, c2⟩, c3⟩, c4⟩ := hcond
        have c2 := Nat.eq_of_beq_eq_true c2
        subst c2
        cases c <;> simp [erase] at hc
        rename_i live l
        subst hc
        have hsz : ops = #[o, o'] := by apply Array.ext'; simpa using hops
        simp only [evCode] at hev
        have hr' := hr.mono hp.ext
        cases hl : lk env rK with
        | none => simp [evOps, guardOK, evOp, opd, one, hl] at hev
        | some v =>
          have := hv v hl
          subst this
          simp [evOps, guardOK, evOp, opd, one, hl, put, lk] at hev
          obtain ⟨rfl, rfl, rfl⟩ := hev
          refine wpSIn_region ?_
          rw [hsz]
          show wpOpsSIn (Fn none) 0 hP.P #[o, o'] Q [0, 1] a cs w
          have hw1 : Region.wanted o (yielded #[o, o'] a.tmps) = true := by simp [Region.wanted, h3]
          have hw2 : ∀ a' : Act, Region.wanted o' (yielded #[o, o'] a'.tmps) = true := fun a' => by simp [Region.wanted, h6]
          have hd : d < a.tmps.size := Nat.lt_of_lt_of_le c3 hp.env.size
          have hev2 : (a.put (some d) (recv cs)).eval (.tmp d) = recv cs := by simp [Act.eval, Act.put, Array.getD_eq_getD_getElem?, hd]
          have key : wpOpsSIn (Fn none) 0 hP.P #[o, o'] Q [1] (a.put (some d) (recv cs)) (recd cs) w := by
            unfold wpOpsSIn
            simp only [List.getElem?_toArray, List.getElem?_cons_succ, List.getElem?_cons_zero, hw2, if_true]
            refine ⟨fun _ _ => trivial, ?_⟩
            have hrun : (execOp (a.put (some d) (recv cs)).eval o').run hP.P w = .ok (.value (recv cs)) w := by
              simp only [execOp, h4, hev2]; rfl
            rw [hrun]
            dsimp only
            unfold wpOpsSIn
            rw [h5]
            have h1' := (hp.env.put (d := some d) (by simp [dstOK, Nat.blt_eq, c3]) hr').put (d := some ee) (by simp [dstOK, Nat.blt_eq, c4]) hr'
            have hpt : Pt N E G (Z.put (Z.put env (some d) v) (some ee) v) ((a.put (some d) (recv cs)).put (some ee) (recv cs)) w m μ := hp.step hp.inv (.refl _ _ _ _) h1' rfl (by
              rw [lk_put_lt (N := N) (by simp [dstOK, Nat.blt_eq, c4]) hN, lk_put_lt (N := N) (by simp [dstOK, Nat.blt_eq, c3]) hN])
            exact hq _ _ _ _ (hpt.keep (md := 2) (by rw [Ent.top, hmm]) rfl)
          unfold wpOpsSIn
          simp only [List.getElem?_toArray, List.getElem?_cons_zero, hw1, if_true]
          refine ⟨fun _ _ => trivial, ?_⟩
          rw [recover_run h1 c1]
          dsimp only
          rw [h2]
          unfold recv recd at key
          split
          · rename_i v' cs' hrec; rw [hrec] at key; exact key
          · rename_i hrec; rw [hrec] at key; exact key
      · cases hc
    · cases hc
  · cases hc
theorem region_ends {N : Nat} {md : Nat} {id : Nat} {ops : Array Oper} {dr : Bool} {c : CCode} (hc : cCode hP.P N md (.region id ops dr) = some (erase c)) {base : Nat} {env : Env} {G : Heap} {e : Ex} {env' : Env} {G' : Heap} (h : evCode pg call loop base c env G = some (e, env', G')) : e = .normal ∨ ∃ v, e = .pan v := by
  have key : ∀ {L : List CI} {env : Env} {G : Heap} {e : Ex} {env' : Env} {G' : Heap}, evOps pg call L env G = some (e, env', G') → e = .normal ∨ ∃ v, e = .pan v := by
    intro L
    induction L with
    | nil => intro env G e env' G' h; simp [evOps] at h; exact .inl h.1.symm
    | cons c r ih =>
      intro env G e env' G' h
      simp only [evOps] at h
      split at h
      · cases h
      · exact ih h
      · split at h
        · cases h
        · exact ih h
        · cases h; exact .inr ⟨_, rfl⟩
  cases dr with
  | false =>
    simp only [cCode] at hc
    split at hc
    · split at hc
      · cases c <;> simp [erase] at hc
        subst hc
        simp only [evCode] at h
        split at h
        · cases h; exact .inl rfl
        · exact key h
      · cases hc
    · cases hc
  | true =>
    simp only [cCode] at hc
    split at hc
    · cases hc
    · split at hc
      · cases c <;> simp [erase] at hc
        simp only [evCode] at h
        split at h
        · split at h
          · split at h
            · cases h; exact .inl rfl
            · cases h
          · cases h
        · cases h
      · cases hc
theorem def_sound (hm : hP.P.follows .mixedOrders = true) (hC : CallSound hP.P call) (hE : CallEnters hP.P call) {k : Nat} (hL : LoopSound loop k) {N : Nat} {E : Ent} (hE0 : ∀ id, id < E.G.length → ∃ l, E.μ id = some l) (hE1 : ∀ id l, E.μ id = some l → id < E.G.length) (hN : N ≤ dK) (hmm : E.md = 2) {cs : List Frame} {pv : AV} (hr : R E.m E.μ (inf E.G) (recv cs) pv) :
    ∀ (code : Code) (c : CCode) {env : Env} {G : Heap} {e : Ex} {env' : Env} {G' : Heap} {a : Act} {w : World} {m : Mem} {μ : Mu} {Q : Exit → Act → List Frame → World → Prop},
      cDef hP.P N code = some (erase c) → liveOK 2 c = true → evCode pg call loop E.G.length c env G = some (e, env', G') → (∀ v, e ≠ .pan v) → Pt N E G env a w m μ → (∀ v, lk env rK = some v → v = pv) → EndsS N E Q (recd cs) e env' G' → code.wpSIn (Fn none) 0 hP.P Q a cs w := by
  intro code
  induction code with
  | seq x y ihx ihy =>
    intro c env G e env' G' a w m μ Q hc hlv hev hne hp hv hq
    have hthen : ∀ {e1 : Ex} {env1 : Env} {G1 : Heap} {K : Act → List Frame → World → Prop}, e1 ≠ .normal → EndsS N E Q (recd cs) e1 env1 G1 → EndsS N E (Exit.thenS K Q) (recd cs) e1 env1 G1 := by
      intro e1 env1 G1 K hne1 h a' w' m' μ' hp'
      have := h a' w' m' μ' hp'
      cases e1 with
      | normal => exact absurd rfl hne1
      | _ => exact this
    simp only [cDef] at hc
    split at hc
    · rename_i cx cy hx hy
      cases c <;> simp [erase] at hc
      rename_i c1 c2
      obtain ⟨rfl, rfl⟩ := hc
      simp only [liveOK, Bool.and_eq_true] at hlv
      simp only [evCode] at hev
      refine wpSIn_seq ?_
      cases h1 : evCode pg call loop E.G.length c1 env G with
      | none => rw [h1] at hev; cases hev
      | some r1 =>
        rcases r1 with ⟨e1, env1, G1⟩
        rw [h1] at hev
        cases e1 with
        | normal =>
          refine ihx c1 hx hlv.1 h1 (fun v e => by cases e) hp hv (fun a' w' m' μ' hp' => ?_)
          exact wpSIn_of_wpIn rfl (code_sound (md := 2) (ro := none) hm hC hE hL hE0 hE1 hN hmm (fun _ => rfl) y c2 ⟨hy, hlv.2⟩ hev hp' hq)
        | exit id => cases hev; exact ihx c1 hx hlv.1 h1 hne hp hv (hthen (by simp) hq)
        | ret => cases hev; exact ihx c1 hx hlv.1 h1 hne hp hv (hthen (by simp) hq)
        | pan v => cases hev; exact absurd rfl (hne v)
    · split at hc
      · split at hc
        · rename_i id ops dr cx cy hx hy
          cases c <;> simp [erase] at hc
          rename_i c1 c2
          obtain ⟨rfl, rfl⟩ := hc
          simp only [liveOK, Bool.and_eq_true] at hlv
          simp only [evCode] at hev
          refine wpSIn_seq ?_
          cases h1 : evCode pg call loop E.G.length c1 env G with
          | none => rw [h1] at hev; cases hev
          | some r1 =>
            rcases r1 with ⟨e1, env1, G1⟩
            rw [h1] at hev
            rcases region_ends hx h1 with rfl | ⟨v, rfl⟩
            · refine wpSIn_of_wpIn rfl (code_sound (md := 2) (ro := none) hm hC hE hL hE0 hE1 hN hmm (fun _ => rfl) _ c1 ⟨hx, hlv.1⟩ h1 hp (fun a' w' m' μ' hp' => ?_))
              exact ihy c2 hy hlv.2 hev hne hp' (fun v hv' => hv v (region_lk hN hx h1 hv')) hq
            · cases hev; exact absurd rfl (hne v)
        · cases hc
      · cases hc
  | region id ops dr =>
    intro c env G e env' G' a w m μ Q hc hlv hev hne hp hv hq
    cases dr with
    | true => simp [cDef] at hc
    | false => exact rcv_sound hN hmm hc hev hp hv hr hq
  | _ => intro c env G e env' G' a w m μ Q hc; simp [cDef] at hc
end
end Go.Proofs.Z
end
