/- A part of the proof. -/
import Derived.Test.YtmlaokgdomfmgaaGreatDoorL07
set_option linter.all false
section
namespace Go.Proofs.Z
open Go
variable [hP : HasP]
section
variable {P : Program} {pg : Prg} {call : CallF} {N : Nat} {ops : Array Oper} {l : List CI} {T : List (List Nat)} {pre rest : List Nat} {en : Nat → Env} {hh : Nat → Heap} {E : Ent}
theorem af_at' (hlen : l.length = ops.size) {k : Nat} {o : Oper} (ho : ops[k]? = some o) : (ops.toList.map binding).getD k [] = binding o := by
  simp [List.getD_eq_getElem?_getD, ho]
theorem ready_iff (X : Ctx P pg call N ops l T pre rest en hh) {listed : Array Bool} (hs : listed.size = l.length) {i : Nat} : i ∈ Region.ready .any ops listed ↔ i < l.length ∧ ¬ Dn listed i ∧ ∀ e, e ∈ (ops.toList.map binding).getD i [] → Dn listed e := by
  rw [mem_ready]
  constructor
  · rintro ⟨h0, o, ho, h⟩
    have hi : i < l.length := by rw [X.len]; exact (Array.getElem?_eq_some_iff.1 ho).1
    have hil : i < listed.size := by omega
    refine ⟨hi, fun hd => ?_, fun e he => ?_⟩
    · unfold Dn at hd
      simp [Array.getD_eq_getD_getElem?, hil] at h0 hd
      rw [h0] at hd; cases hd
    · rw [af_at' X.len ho] at he
      simp only [binding, List.mem_map, List.mem_filter] at he
      obtain ⟨ed, ⟨h1, h2⟩, rfl⟩ := he
      have := h ed (by simpa using h1) h2
      unfold Dn
      by_cases hlt : ed.on < listed.size
      · simpa [Array.getD_eq_getD_getElem?, hlt] using this
      · simp [Array.getD_eq_getD_getElem?, hlt] at this
  · rintro ⟨hi, h0, h⟩
    have hil : i < listed.size := by omega
    have ho := Array.getElem?_eq_getElem (xs := ops) (i := i) (by rw [← X.len]; exact hi)
    refine ⟨?_, _, ho, fun ed hed hb => ?_⟩
    · unfold Dn at h0
      simpa [Array.getD_eq_getD_getElem?, hil] using h0
    · have hm : ed.on ∈ (ops.toList.map binding).getD i [] := by
        rw [af_at' X.len ho]
        simp only [binding, List.mem_map, List.mem_filter]
        exact ⟨ed, ⟨by simpa using hed, hb⟩, rfl⟩
      have h1 := h _ hm
      have h2 := X.df.afk i hi _ hm
      have hlt : ed.on < listed.size := by omega
      unfold Dn at h1
      simpa [Array.getD_eq_getD_getElem?, hlt] using h1
variable (X : Ctx P pg call N ops l T pre rest en hh)
include X
theorem St.sees {listed : Array Bool} {a : Act} {w : World} {m : Mem} {μ : Mu} {q : Nat} (h : St E N l T pre rest en hh listed a w m μ q) {i k : Nat} {c : CI} (hc : l[i]? = some c) (hk : (pre ++ rest)[k]? = some i) (hn : ¬ Dn listed i) (hanc : ∀ j, j ∈ T.getD i [] → Dn listed j)
    (hkd : kindOf c.o < 2) : ∃ v, evCI pg call c (restr (ciReads c) (en k)) (hh q) = some (v, hh q) ∧ (∀ d, c.d = some d → lk (en (k + 1)) d = some v) := by
  obtain ⟨v, h1, h2⟩ := X.sn.at_ k c (X.cL hk hc)
  have hv : ∀ d, c.d = some d → lk (en (k + 1)) d = some v := fun d hd => by rw [h2, hd]; simp [put, lk]
  by_cases h0 : kindOf c.o = 0
  · exact ⟨v, ci_si h0 h1, hv⟩
  · have hk1 : kindOf c.o = 1 := by omega
    have h1' := (ci_rd1 (call' := call) hk1 h1).2
    have hkl : k < (pre ++ rest).length := (List.getElem?_eq_some_iff.1 hk).1
    let places : List Nat := pre.length :: ((List.range (pre ++ rest).length).filter fun k => match (pre ++ rest)[k]? with | some i => isEff l pre i | none => false).map (· + 1)
    have hplace : ∀ q', q' ∈ places ↔ q' = pre.length ∨ ∃ k' i', q' = k' + 1 ∧ (pre ++ rest)[k']? = some i' ∧ isEff l pre i' = true := by
      intro q'
      simp only [places, List.mem_cons, List.mem_map, List.mem_filter, List.mem_range]
      constructor
      · rintro (h | ⟨k', ⟨h3, h4⟩, rfl⟩)
        · exact .inl h
        · split at h4
          · rename_i i' hi'; exact .inr ⟨k', i', rfl, hi', h4⟩
          · cases h4
      · rintro (h | ⟨k', i', rfl, h3, h4⟩)
        · exact .inl h
        · exact .inr ⟨k', ⟨(List.getElem?_eq_some_iff.1 h3).1, by rw [h3]; exact h4⟩, rfl⟩
    have hq : q ∈ places := (hplace q).2 (by
      rcases h.qe with e | ⟨k', i', e1, e2, e3, _⟩
      · exact .inl e
      · exact .inr ⟨k', i', e1, e2, e3⟩)
    by_cases hcan : pre.length ≤ k ∧ q ≤ k ∧ ∀ q', q' ∈ places → q' ≤ q ∨ k < q'
    · obtain ⟨c1, c2, c3⟩ := hcan
      have : hh k = hh q := X.sn.heap_keep c2 (by rw [X.Llen]; omega) (fun j cj j1 j2 hj => X.no_eff hj (by have := h.qp.1; omega) (fun i' hi' => by
        cases he : isEff l pre i' with
        | false => rfl
        | true =>
          rcases c3 (j + 1) ((hplace _).2 (.inr ⟨j, i', rfl, hi', he⟩)) with h3 | h3 <;> omega))
      rw [this] at h1'
      exact ⟨v, h1', hv⟩
    · have hmem : (k, q) ∈ chksOf l T pre rest := by
        simp only [chksOf, List.mem_flatMap, List.mem_range]
        refine ⟨k, hkl, ?_⟩
        have hkk : kOf l i = 1 := by simp [kOf, hc, hk1]
        simp only [hk, hkk, Nat.beq_refl, if_true, List.mem_map, List.mem_filter, Prod.mk.injEq, true_and, exists_eq_right, Bool.and_eq_true]
        refine ⟨hq, ?_, ?_⟩
        · simp only [mayAt, List.all_eq_true, List.mem_range, Bool.or_eq_true, Bool.not_eq_true']
          intro e he
          cases hee : isEff l pre e with
          | false => exact .inl rfl
          | true =>
            right
            obtain ⟨ke, hkel, hke⟩ := X.pos he
            have hd := h.effs ke e hke hee
            split
            · rename_i hcon
              simp only [List.contains_eq_mem, List.mem_filter, decide_eq_true_eq] at hcon
              obtain ⟨j, hj⟩ := List.mem_iff_getElem?.1 hcon.1
              rw [List.getElem?_take] at hj
              split at hj
              · rename_i hjq
                have := X.pos_inj hj hke
                subst this
                have hde := hd.2 hjq
                simp only [isAnc, List.contains_eq_mem, Bool.not_eq_true', decide_eq_false_iff_not]
                exact fun hia => hn (h.closed e hde i hia)
              · cases hj
            · rename_i hcon
              simp only [List.contains_eq_mem, List.mem_filter, decide_eq_true_eq, not_and] at hcon
              simp only [isAnc, List.contains_eq_mem, Bool.not_eq_true', decide_eq_false_iff_not]
              intro hia
              have hlt := hd.1 (hanc e hia)
              refine hcon (List.mem_iff_getElem?.2 ⟨ke, ?_⟩) hee
              rw [List.getElem?_take, if_pos hlt]; exact hke
        · apply Classical.byContradiction
          intro hcc
          refine hcan ?_
          simp only [Bool.not_eq_true', Bool.not_eq_false, Bool.and_eq_true, Nat.ble_eq, List.all_eq_true, Bool.or_eq_true, Nat.blt_eq] at hcc
          exact ⟨hcc.1.1, hcc.1.2, fun q' hq' => hcc.2 q' hq'⟩
      obtain ⟨v', H', h3, h4⟩ := X.chk k q c hmem (X.cL hk hc)
      exact ⟨v', (ci_rd1 (call' := call) hk1 h3).2, h4⟩
omit X
end
end Go.Proofs.Z
end
section
namespace Go.Proofs.Z
open Go
variable [hP : HasP]
theorem Stp.len {m m' : Mem} {μ μ' : Mu} {G G' : Heap} {w w' : World} (h : Stp m μ G w m' μ' G' w') : G.length ≤ G'.length := by
  rcases Nat.eq_zero_or_pos G.length with h0 | h0
  · omega
  · have hid : G.length - 1 < G.length := by omega
    have hi : inf G (G.length - 1) = some (infO G[G.length - 1]) := by simp [inf, List.getElem?_eq_getElem hid]
    have key : ∀ x, inf G' (G.length - 1) = some x → G.length - 1 < G'.length := fun x hx => by
      unfold inf at hx
      cases hg : G'[G.length - 1]? with
      | none => rw [hg] at hx; cases hx
      | some y => exact (List.getElem?_eq_some_iff.1 hg).1
    have : G.length - 1 < G'.length := by
      cases hμ : μ (G.length - 1) with
      | none =>
        have := (h.tot.keep _ hid hμ).2
        rw [List.getElem?_eq_getElem hid] at this
        exact (List.getElem?_eq_some_iff.1 this).1
      | some loc =>
        cases ho : infO G[G.length - 1] with
        | none => rw [ho] at hi; exact key _ (h.ext.box _ _ hμ hi).2
        | some p => rcases p with ⟨g, sz⟩; rw [ho] at hi; obtain ⟨_, _, _, h2, _⟩ := h.ext.arr _ _ _ _ hμ hi; exact key _ h2
    omega
theorem Ext.mapped {m m' : Mem} {μ μ' : Mu} {G G' : Heap} (h : Ext m μ G m' μ' G') {id : Nat} (hid : id < G.length) {loc : Loc} (hl : μ id = some loc) : ∃ l, μ' id = some l := by
  have hi : inf G id = some (infO G[id]) := by simp [inf, List.getElem?_eq_getElem hid]
  cases ho : infO G[id] with
  | none => rw [ho] at hi; exact ⟨_, (h.box id loc hl hi).1⟩
  | some p => rcases p with ⟨g, sz⟩; rw [ho] at hi; obtain ⟨l', _, h1, _⟩ := h.arr id loc g sz hl hi; exact ⟨l', h1⟩
section
variable {P : Program} {pg : Prg} {call : CallF} {N : Nat} {ops : Array Oper} {l : List CI} {T : List (List Nat)} {pre rest : List Nat} {en : Nat → Env} {hh : Nat → Heap} {E : Ent}
variable (X : Ctx P pg call N ops l T pre rest en hh)
include X
theorem St.fin {listed : Array Bool} {a : Act} {w : World} {m : Mem} {μ : Mu} {q : Nat} (h : St E N l T pre rest en hh listed a w m μ q) (hall : ∀ i, i < l.length → Dn listed i) (hdk : lk (en (pre ++ rest).length) dK = lk (en 0) dK) : Pt N E (hh (pre ++ rest).length) (en (pre ++ rest).length) a w m μ := by
  have hH : hh (pre ++ rest).length = hh q := X.sn.heap_keep h.qp.2 (by rw [X.Llen]; omega) (fun j c j1 j2 hj => X.no_eff hj (by have := h.qp.1; omega) (fun i hi => by
    cases he : isEff l pre i with
    | false => rfl
    | true => have := (h.effs j i hi he).1 (hall i (X.mem hi)); omega))
  rw [hH]
  refine ⟨h.inv, ⟨h.tsz, fun x v hx hd => ?_⟩, by rw [hdk]; exact h.dfr, fun id hid => ?_, h.ext, h.fr⟩
  · by_cases hw : ∃ (j : Nat) (cj : CI), l[j]? = some cj ∧ cj.d = some x
    · obtain ⟨j, cj, hj, hdj⟩ := hw
      have hjl := (List.getElem?_eq_some_iff.1 hj).1
      obtain ⟨kj, hkjl, hkj⟩ := X.pos hjl
      have : lk (en (pre ++ rest).length) x = lk (en (kj + 1)) x := X.sn.env_keep (by omega) (by rw [X.Llen]; omega) (fun b c' b1 b2 hc' => by
        obtain ⟨i', h1, h2⟩ := X.Lc hc'
        refine X.df.dst i' j c' cj x h2 hj (fun e => ?_) hdj
        subst e
        have := X.pos_inj h1 hkj; omega)
      rw [this] at hx
      exact h.new j kj x cj v hd (hall j hjl) hj hdj hkj hx
    · have : lk (en (pre ++ rest).length) x = lk (en 0) x := X.sn.env_keep (Nat.zero_le _) (by rw [X.Llen]; omega) (fun b c' _ b2 hc' e => by
        obtain ⟨i', h1, h2⟩ := X.Lc hc'
        exact hw ⟨i', c', h2, e⟩)
      rw [this] at hx
      exact h.old x v hd (fun i' c' hdn hi' e => hw ⟨i', c', hi', e⟩) hx
  · cases hm : μ id with
    | some l => exact ⟨l, rfl⟩
    | none =>
      obtain ⟨k, i, _, h2, h3, _⟩ := h.tot id hid hm
      exact absurd (hall i (X.mem h2)) h3
theorem Ctx.prek_lt {k k' : Nat} (hk : k < pre.length) (hk' : k' < pre.length) (h1 : (hh (k + 1)).length ≠ (hh k).length) (h2 : (hh (k' + 1)).length ≠ (hh k').length) (he : (hh k').length = (hh k).length) : k' = k := by
  have hp : pre.length ≤ (pickL l (pre ++ rest)).length := by rw [X.Llen]; simp
  have g := fun {a b : Nat} (h1 : a ≤ b) (h2 : b ≤ pre.length) => (X.sn.grow hp (fun k hk => X.make hk) h1 h2).1
  rcases Nat.lt_trichotomy k' k with h | h | h
  · have a1 := g (show k' ≤ k' + 1 by omega) (by omega)
    have a2 := g (show k' + 1 ≤ k by omega) (by omega)
    omega
  · exact h
  · have a1 := g (show k ≤ k + 1 by omega) (by omega)
    have a2 := g (show k + 1 ≤ k' by omega) (by omega)
    omega
variable (hC : CallSound P call) (hE : CallEnters P call) (hN : N ≤ dK)
include hC hE hN
theorem St.step {listed : Array Bool} {a : Act} {w : World} {m : Mem} {μ : Mu} {q : Nat} (h : St E N l T pre rest en hh listed a w m μ q) {i : Nat} (hi : i < l.length) (hn : ¬ Dn listed i) (haf : ∀ e, e ∈ (ops.toList.map binding).getD i [] → Dn listed e)
    {ro : Option Nat} {Q : Exit → Act → World → Prop} {K : Act → World → Prop} (hK : ∀ a' w' m' μ' q', St E N l T pre rest en hh (listed.setIfInBounds i true) a' w' m' μ' q' → K a' w') : wpOpIn (Fn ro) 0 P ops Q i K a w := by
  have hanc : ∀ j, j ∈ T.getD i [] → Dn listed j := fun j hj => by
    rcases (X.df.tk i hi j hj).2 with h1 | ⟨m', h1, h2⟩
    · exact haf j h1
    · exact h.closed m' (haf m' h1) j h2
  obtain ⟨k, hkl, hk⟩ := X.pos hi
  have ho := Array.getElem?_eq_getElem (xs := ops) (i := i) (by rw [← X.len]; exact hi)
  generalize ops[i]'(by rw [← X.len]; exact hi) = o at ho
  obtain ⟨c, hc, c0, hco, hpc⟩ := X.at_ i o ho
  obtain ⟨k1, k2, k3, k4, k5⟩ := cOper_inv hco
  have hnd : o.isDfr = false := by
    cases hd : o.isDfr with
    | false => rfl
    | true =>
      unfold Oper.isDfr at hd
      split at hd
      · rename_i cl hop
        rw [hop] at k1
        simp only [cOp] at k1
        split at k1
        · obtain ⟨ox, _, e⟩ := map_inv k1
          rcases hpc with rfl | ⟨f, a, h1, _⟩
          · exact absurd e (X.df.ok i _ hc ox)
          · rw [e] at h1; cases h1
        · cases k1
      · cases hd
  have hdst : c.d = o.dst := hpc.d.trans (k2 hnd)
  have he := h.reads X hc hk hn hanc
  have hgl := guard_lt hN X.dst hco
  obtain ⟨v0, s1, s2⟩ := X.sn.at_ k c (X.cL hk hc)
  have hp : pre.length ≤ (pickL l (pre ++ rest)).length := by rw [X.Llen]; simp
  have hmk : ∀ k, k < pre.length → hh (k + 1) = hh k ∨ ∃ ob, hh (k + 1) = hh k ++ [ob] := fun k hk => X.make hk
  have hlow : ∀ k', k' < pre.length → (hh (k' + 1)).length ≠ (hh k').length → (hh k').length < (hh q).length := fun k' h1 h2 => by
    have a1 := (X.sn.grow hp hmk (show k' ≤ k' + 1 by omega) (by omega)).1
    have a2 := (X.sn.grow hp hmk (show k' + 1 ≤ pre.length by omega) (Nat.le_refl _)).1
    have := h.glen
    omega
  unfold wpOpIn
  rw [ho]
  dsimp only
  have plain : ∀ {v : AV} {q' : Nat}, evCI pg call c (restr (ciReads c) (en k)) (hh q) = some (v, hh q') → en (k + 1) = put (en k) c.d v → (pre.length ≤ q' ∧ q' ≤ (pre ++ rest).length) → (q' = q ∨ q' = k + 1 ∧ isEff l pre i = true) →
      (∀ k' i', (pre ++ rest)[k']? = some i' → isEff l pre i' = true → ((Dn listed i' ∨ i' = i) ↔ k' < q')) → (∀ k', k' < pre.length → (hh (k' + 1)).length ≠ (hh k').length → (pre ++ rest)[k']? = some i → False) →
      (if Region.wanted o (yielded ops a.tmps) then o.wpIn (Fn ro) 0 P a w K Q else (∀ f, o.about P w a.eval = some f → (Fn ro).fn f) ∧ K (a.put o.dst undef) w) := by
    intro v q' hev hv hqp hqe heffs hno
    refine step_sound hC hE hN X.dst hnd hco (pc_ev hpc hev) h.inv he (fun m' μ' w' val hI' hS hr => hK _ _ _ _ _ (h.next X hc hk hdst.symm k3 hanc hv hI' hS.ext hS.fr hr hqp hqe heffs ?_ ?_ ?_ hS.len))
    · intro k' i' b1 b2 b3 b4 b5
      exact (hS.tot.keep _ (hlow k' b1 b3) (h.un k' i' b1 b2 b3 b4)).1
    · intro id b1 b2
      have hlt : id < (hh q).length ∧ μ id = none := by
        apply Classical.byContradiction
        intro hcon
        obtain ⟨l', hl'⟩ := hS.tot.tot id b1 (fun hlt => by
          cases hm : μ id with
          | some l => exact ⟨l, rfl⟩
          | none => exact absurd ⟨hlt, hm⟩ hcon)
        rw [hl'] at b2; cases b2
      exact ⟨hlt.1, hlt.2, fun k' _ c1 c2 c3 => hno k' c1 c2 c3⟩
    · intro id b1 b2
      have hlt : id < (hh q).length := Nat.lt_of_lt_of_le b1 h.glen
      cases hm : μ id with
      | none => exact (hS.tot.keep id hlt hm).2
      | some l => obtain ⟨l', hl'⟩ := hS.ext.mapped hlt hm; rw [hl'] at b2; cases b2
  have same : ∀ {v : AV}, evCI pg call c (restr (ciReads c) (en k)) (hh q) = some (v, hh q) → en (k + 1) = put (en k) c.d v → isEff l pre i = false → ((hh (k + 1)).length = (hh k).length ∨ pre.length ≤ k) →
      (if Region.wanted o (yielded ops a.tmps) then o.wpIn (Fn ro) 0 P a w K Q else (∀ f, o.about P w a.eval = some f → (Fn ro).fn f) ∧ K (a.put o.dst undef) w) := by
    intro v hev hv hne hsame
    refine plain hev hv h.qp (.inl rfl) (fun k' i' h1 h2 => ?_) (fun k' h1 h2 h3 => ?_)
    · rw [← h.effs k' i' h1 h2]
      exact ⟨fun h => h.resolve_right (fun e => by rw [e, hne] at h2; cases h2), .inl⟩
    · have := X.pos_inj h3 hk
      subst this
      rcases hsame with h4 | h4
      · exact h2 h4
      · omega
  by_cases hkd : kindOf c.o < 2
  · obtain ⟨v, e1, e2⟩ := h.sees X hc hk hn hanc hkd
    have hv : en (k + 1) = put (en k) c.d v := by
      rw [s2]
      cases hd : c.d with
      | none => rfl
      | some d =>
        have := e2 d hd
        rw [s2, hd] at this
        simp [put, lk] at this
        rw [this]
    refine same e1 hv ?_ (.inl (by rw [ci_rd hkd s1]))
    cases hee : isEff l pre i with
    | false => rfl
    | true => have := ((X.eff_iff hk hc).1 hee).2; omega
  · rcases X.side hk with ⟨p1, p2, p3, p4⟩ | ⟨p1, p2, p3, p4⟩
    · have h2 : kindOf c.o = 2 := by have := X.df.prek i c hc p3; omega
      have hne : isEff l pre i = false := by
        cases hee : isEff l pre i with
        | false => rfl
        | true => have := ((X.eff_iff hk hc).1 hee).1; omega
      have := hpc.eqk (by omega)
      subst this
      have s1' := s1
      unfold evCI at s1'
      rcases hg : guardOK (restr (ciReads c) (en k)) c.g with _ | _ | _ <;> rw [hg] at s1' <;> dsimp only at s1'
      · cases s1'
      · simp only [Option.some.injEq, Prod.mk.injEq] at s1'
        obtain ⟨rfl, heq⟩ := s1'
        refine same (v := .undef) ?_ s2 hne (.inl (by rw [← heq]))
        unfold evCI
        rw [hg]
      · rcases hv : evOp pg call c.o (restr (ciReads c) (en k)) (hh k) with _ | ⟨v', G'⟩ | ⟨v', G'⟩ <;> rw [hv] at s1' <;> dsimp only at s1'
        · cases s1'
        · simp only [Option.some.injEq, Prod.mk.injEq] at s1'
          obtain ⟨rfl, hG'⟩ := s1'
          obtain ⟨ob, e1, hlate⟩ := late_op (N := N) k1 h2 hv
          rw [hG'] at e1
          have hgrow : (hh (k + 1)).length ≠ (hh k).length := by rw [e1]; simp
          have hun := h.un k i p1 hk hgrow hn
          have hlt1 : (hh k).length < (hh (k + 1)).length := by rw [e1]; simp
          obtain ⟨g1, g2⟩ := X.sn.grow hp hmk (show k + 1 ≤ pre.length by omega) (Nat.le_refl _)
          have hat : (hh q)[(hh k).length]? = some ob := by
            rw [h.gro _ (by omega) hun, g2 _ hlt1, e1]
            simp
          have hwt : Region.wanted o (yielded ops a.tmps) = true := wanted_of hco he hgl hg
          rw [if_pos hwt]
          refine hlate h.inv he hat hun ro K Q (fun μ' w' val hI' hX hF hμ hm hr => hK _ _ _ _ _ (h.next X (q' := q) hc hk hdst.symm k3 hanc s2 hI' hX hF hr h.qp (.inl rfl) (fun k' i' c1 c2 => ?_) (fun k' i' c1 c2 c3 c4 c5 => ?_) (fun id c1 c2 => ?_) (fun _ _ _ => rfl) (Nat.le_refl _)))
          · rw [← h.effs k' i' c1 c2]
            exact ⟨fun h => h.resolve_right (fun e => by rw [e, hne] at c2; cases c2), .inl⟩
          · rw [hμ _ (fun e => c5 (by have := X.prek_lt p1 c1 hgrow c3 e; subst this; rw [hk] at c2; exact (Option.some.inj c2).symm))]
            exact h.un k' i' c1 c2 c3 c4
          · have hne' : id ≠ (hh k).length := fun e => by rw [e] at c2; obtain ⟨l', hl'⟩ := hm; rw [hl'] at c2; cases c2
            rw [hμ id hne'] at c2
            refine ⟨c1, c2, fun k' d1 d2 d3 d4 => ?_⟩
            have := X.pos_inj d4 hk
            subst this
            exact hne' d1.symm
        · cases s1'
    · have hee : isEff l pre i = true := (X.eff_iff hk hc).2 ⟨p1, by omega⟩
      have hord : ∀ k' i', (pre ++ rest)[k']? = some i' → isEff l pre i' = true → (k' < k → Dn listed i') ∧ (k < k' → ¬ Dn listed i') := by
        intro k' i' b1 b2
        have hil := X.mem b1
        rcases X.df.eff i i' hi hil hee b2 with e | e | e
        · subst e
          have := X.pos_inj b1 hk
          exact ⟨fun h => by omega, fun h => by omega⟩
        · refine ⟨fun _ => hanc i' e, fun hlt => ?_⟩
          have h1 := (X.df.tk i hi i' e).1
          have := X.pos_lt b1 hk h1 (fun h => absurd h p4)
          omega
        · have h1 := (X.df.tk i' hil i e).1
          have hi'r : i' ∉ pre := by
            rcases X.side b1 with ⟨d1, d2, d3, d4⟩ | ⟨d1, d2, d3, d4⟩
            · have := ((X.eff_iff b1 (List.getElem?_eq_getElem hil)).1 b2).1; omega
            · exact d4
          have := X.pos_lt hk b1 h1 (fun h => absurd h hi'r)
          exact ⟨fun h => by omega, fun _ hd => hn (h.closed i' hd i e)⟩
      have hqk : q ≤ k := by
        rcases h.qe with e | ⟨k', i', e1, e2, e3, e4⟩
        · omega
        · have := hord k' i' e2 e3
          rcases Nat.lt_trichotomy k' k with h1 | h1 | h1
          · omega
          · subst h1; rw [hk] at e2; cases e2; exact absurd e4 hn
          · exact absurd e4 (this.2 h1)
      have hH : hh k = hh q := X.sn.heap_keep hqk (by rw [X.Llen]; omega) (fun j cj j1 j2 hj => X.no_eff hj (by have := h.qp.1; omega) (fun i' hi' => by
        cases he' : isEff l pre i' with
        | false => rfl
        | true =>
          have h1 := (hord j i' hi' he').1 j2
          have := (h.effs j i' hi' he').1 h1
          omega))
      rw [hH] at s1
      refine plain s1 s2 ⟨by omega, by omega⟩ (.inr ⟨rfl, hee⟩) (fun k' i' b1 b2 => ?_) (fun k' b1 b2 b3 => ?_)
      · constructor
        · rintro (h1 | rfl)
          · have := (h.effs k' i' b1 b2).1 h1; omega
          · have := X.pos_inj b1 hk; omega
        · intro hlt
          rcases Nat.lt_or_ge k' k with h1 | h1
          · exact .inl ((hord k' i' b1 b2).1 h1)
          · have : k' = k := by omega
            subst this
            rw [hk] at b1
            exact .inr (Option.some.inj b1).symm
      · have := X.pos_inj b3 hk; omega
theorem draw_any {ro : Option Nat} {Q : Exit → Act → World → Prop} (hdk : lk (en (pre ++ rest).length) dK = lk (en 0) dK) (hq : ∀ a w m μ, Pt N E (hh (pre ++ rest).length) (en (pre ++ rest).length) a w m μ → Q .normal a w) : ∀ (fuel : Nat) (S : List Nat) {listed : Array Bool} {a : Act} {w : World} {m : Mem} {μ : Mu} {q : Nat},
    St E N l T pre rest en hh listed a w m μ q → S.length ≤ fuel → (∀ i, i < l.length → Dn listed i ∨ i ∈ S) → wpAnyIn (Fn ro) 0 P .any ops Q fuel listed a w
  | 0, S, listed, a, w, m, μ, q, h, hS, hall => by
    have hnil : S = [] := List.eq_nil_of_length_eq_zero (by omega)
    subst hnil
    have hd : ∀ i, i < l.length → Dn listed i := fun i hi => (hall i hi).resolve_right (by simp)
    refine ⟨?_, hq _ _ _ _ (h.fin X hd hdk)⟩
    cases hr : Region.ready .any ops listed with
    | nil => rfl
    | cons i r =>
      have : i ∈ Region.ready .any ops listed := by rw [hr]; simp
      rw [ready_iff X h.size] at this
      exact absurd (hd i this.1) this.2.1
  | fuel + 1, S, listed, a, w, m, μ, q, h, hS, hall => by
    refine ⟨fun hr => hq _ _ _ _ (h.fin X (fun i => ?_) hdk), fun i hi => ?_⟩
    · induction i using Nat.strongRecOn with
      | _ i ih =>
        intro hi
        apply Classical.byContradiction
        intro hn
        have : i ∈ Region.ready .any ops listed := (ready_iff X h.size).2 ⟨hi, hn, fun e he => ih e (X.df.afk i hi e he) (by have := X.df.afk i hi e he; omega)⟩
        rw [hr] at this; simp at this
    · rw [ready_iff X h.size] at hi
      obtain ⟨h1, h2, h3⟩ := hi
      refine h.step X hC hE hN h1 h2 h3 (fun a' w' m' μ' q' h' => draw_any hdk hq fuel (S.erase i) h' ?_ (fun j hj => ?_))
      · have hm := (hall i h1).resolve_left h2
        rw [List.length_erase_of_mem hm]; omega
      · rw [Dn.set (by rw [h.size]; exact h1)]
        rcases hall j hj with h4 | h4
        · exact .inl (.inl h4)
        · by_cases e : j = i
          · exact .inl (.inr e)
          · exact .inr ((List.mem_erase_of_ne e).2 h4)
end
end Go.Proofs.Z
end
section
namespace Go.Proofs.Z
open Go
mutual
theorem PV.eq_spec : ∀ x y : PV, x.eq y = true → x = y
  | .sl x, y, h => by cases y <;> simp only [PV.eq, Bool.false_eq_true] at h; rw [PV.eqLL_spec _ _ h]
  | .ag x, y, h => by cases y <;> simp only [PV.eq, Bool.false_eq_true] at h; rw [PV.eqL_spec _ _ h]
  | .ifc t v, y, h => by
    cases y <;> simp only [PV.eq, Bool.false_eq_true, Bool.and_eq_true] at h
    rw [Nat.eq_of_beq_eq_true h.1, PV.eq_spec _ _ h.2]
  | .b _, y, h => by cases y <;> simp_all [PV.eq]
  | .i _ _, y, h => by cases y <;> simp_all [PV.eq]
  | .s _, y, h => by cases y <;> simp_all [PV.eq]
  | .pn, y, h => by cases y <;> simp_all [PV.eq]
  | .fnil, y, h => by cases y <;> simp_all [PV.eq]
  | .inil, y, h => by cases y <;> simp_all [PV.eq]
  | .opq, y, h => by cases y <;> simp_all [PV.eq]
theorem PV.eqL_spec : ∀ x y : List PV, PV.eqL x y = true → x = y
  | [], y, h => by cases y <;> simp_all [PV.eqL]
  | a :: r, y, h => by
    cases y <;> simp only [PV.eqL, Bool.false_eq_true, Bool.and_eq_true] at h
    rw [PV.eq_spec _ _ h.1, PV.eqL_spec _ _ h.2]
theorem PV.eqLL_spec : ∀ x y : List (List PV), PV.eqLL x y = true → x = y
  | [], y, h => by cases y <;> simp_all [PV.eqLL]
  | a :: r, y, h => by
    cases y <;> simp only [PV.eqLL, Bool.false_eq_true, Bool.and_eq_true] at h
    rw [PV.eqL_spec _ _ h.1, PV.eqLL_spec _ _ h.2]
end
mutual
theorem AV.eq_spec : ∀ x y : AV, x.eq y = true → x = y
  | .p x, y, h => by cases y <;> simp only [AV.eq, Bool.false_eq_true] at h; rw [PV.eq_spec _ _ h]
  | .ag x, y, h => by cases y <;> simp only [AV.eq, Bool.false_eq_true] at h; rw [AV.eqL_spec _ _ h]
  | .tup x, y, h => by cases y <;> simp only [AV.eq, Bool.false_eq_true] at h; rw [AV.eqL_spec _ _ h]
  | .rp x, y, h => by cases y <;> simp only [AV.eq, Bool.false_eq_true] at h; rw [PV.eqL_spec _ _ h]
  | .clip x, y, h => by cases y <;> simp only [AV.eq, Bool.false_eq_true] at h; rw [PV.eqLL_spec _ _ h]
  | .ifc t v, y, h => by
    cases y <;> simp only [AV.eq, Bool.false_eq_true, Bool.and_eq_true] at h
    rw [Nat.eq_of_beq_eq_true h.1, AV.eq_spec _ _ h.2]
  | .fn f a b, y, h => by
    cases y <;> simp only [AV.eq, Bool.false_eq_true, Bool.and_eq_true] at h
    rw [Nat.eq_of_beq_eq_true h.1, AV.eqL_spec _ _ h.2.1, AV.eqL_spec _ _ h.2.2]
  | .ptr _ _, y, h => by cases y <;> simp_all [AV.eq]
  | .arr _ _ _, y, h => by cases y <;> simp_all [AV.eq]
  | .eptr _ _ _ _, y, h => by cases y <;> simp_all [AV.eq]
  | .map _, y, h => by cases y <;> simp_all [AV.eq]
  | .yld _, y, h => by cases y <;> simp_all [AV.eq]
  | .nils, y, h => by cases y <;> simp_all [AV.eq]
  | .undef, y, h => by cases y <;> simp_all [AV.eq]
  | .nmap, y, h => by cases y <;> simp_all [AV.eq]
theorem AV.eqL_spec : ∀ x y : List AV, AV.eqL x y = true → x = y
  | [], y, h => by cases y <;> simp_all [AV.eqL]
  | a :: r, y, h => by
    cases y <;> simp only [AV.eqL, Bool.false_eq_true, Bool.and_eq_true] at h
    rw [AV.eq_spec _ _ h.1, AV.eqL_spec _ _ h.2]
end
variable [hP : HasP]
section
variable {P : Program} {pg : Prg} {call : CallF} {N : Nat} {ops : Array Oper} {E : Ent}
theorem draw_sound (hC : CallSound P call) (hE : CallEnters P call) (hN : N ≤ dK) (hm : P.follows .mixedOrders = true) {ro : Option Nat} {Q : Exit → Act → World → Prop} {id : Nat} {l : List CI} (hl : cOpers P N ops ops.toList = some l) {pr re : List CI} {chk : List (Nat × Nat)} (hd : cDraw l (ops.toList.map binding) = some (pr, re, chk))
    {env F : Env} {G G2 : Heap} {a : Act} {w : World} {m : Mem} {μ : Mu} {sn : List (Env × Heap)} (hev : evSnap pg call (pr ++ re) env G = some sn) (hchk : drawChk pg (pr ++ re) sn chk = true) (hlast : sn.getLast? = some (F, G2)) (hp : Pt N E G env a w m μ) (hq : ∀ a w m μ, Pt N E G2 F a w m μ → Q .normal a w) :
    (Code.region id ops true).wpIn (Fn ro) 0 P Q a w := by
  obtain ⟨hlen', hat'⟩ := cOpers_at hl
  have hlen : l.length = ops.size := by simpa using hlen'
  unfold cDraw at hd
  dsimp only at hd
  generalize hT : ancs [] (ops.toList.map binding) = T at hd
  generalize hpre : preOf l T = pre at hd
  generalize hll : pcAt pre 0 l = l' at hd
  have hlen'' : l'.length = l.length := by rw [← hll, pcAt_len]
  generalize hrest : ((List.range l'.length).filter fun i => !pre.contains i) = rest at hd
  split at hd
  · rename_i hok
    cases hd
    have hdf := df_of hok
    have hr : ∀ {n : Nat} {p : Nat → Bool}, ((List.range n).filter p).Pairwise (· < ·) := fun {n p} => List.Pairwise.filter _ List.pairwise_lt_range
    have asc1 : pre.Pairwise (· < ·) := by rw [← hpre]; exact hr
    have asc2 : rest.Pairwise (· < ·) := by rw [← hrest]; exact hr
    have inn : ∀ i, i ∈ pre ++ rest → i < l'.length := by
      intro i hi
      rcases List.mem_append.1 hi with h | h
      · rw [← hpre] at h; simp [preOf] at h; rw [hlen'']; exact h.1
      · rw [← hrest] at h; simp at h; exact h.1
    have happ : pickL l' pre ++ pickL l' rest = pickL l' (pre ++ rest) := by simp [pickL]
    have hlen : l'.length = ops.size := hlen''.trans hlen
    rw [happ] at hev hchk
    obtain ⟨h1, h2, h3⟩ := snap_at hev
    let en : Nat → Env := fun k => ((sn[k]?).map (·.1)).getD env
    let hh : Nat → Heap := fun k => ((sn[k]?).map (·.2)).getD G
    have hsn : ∀ k, k < sn.length → sn[k]? = some (en k, hh k) := fun k hk => by simp [en, hh, List.getElem?_eq_getElem hk]
    have hS : Snaps pg call (pickL l' (pre ++ rest)) en hh := ⟨fun k c hc => by
      have hk := (List.getElem?_eq_some_iff.1 hc).1
      obtain ⟨v, H, a1, a2⟩ := h3 k c _ hc (hsn k (by omega))
      have a3 := hsn (k + 1) (by omega)
      rw [a2] at a3
      simp only [Option.some.injEq, Prod.mk.injEq] at a3
      exact ⟨v, by rw [← a3.2]; exact a1, a3.1.symm⟩⟩
    have hX : Ctx P pg call N ops l' T pre rest en hh := by
      refine ⟨hdf, hlen, fun k o ho => (by
        obtain ⟨c0, b1, b2⟩ := hat' k o (by simpa using ho)
        obtain ⟨c, b3, b4⟩ := pcAt_at (pre := pre) (n := 0) b1
        rw [hll] at b3
        exact ⟨c, b3, c0, b2, b4⟩), fun j o ho => cOpers_dst hl o (List.mem_of_getElem? (by simpa using ho)), asc1, asc2, inn, hS, fun k q c hm hc => ?_⟩
      simp only [drawChk, List.all_eq_true] at hchk
      have := hchk (k, q) hm
      dsimp only at this
      rw [hc] at this
      have hk := (List.getElem?_eq_some_iff.1 hc).1
      rw [hsn k (by omega), hsn (k + 1) (by omega)] at this
      cases hq' : sn[q]? with
      | none => rw [hq'] at this; cases this
      | some y =>
        rw [hq'] at this
        have hy : y = (en q, hh q) := by
          have := hsn q (List.getElem?_eq_some_iff.1 hq').1
          rw [hq'] at this; exact Option.some.inj this
        subst hy
        dsimp only at this
        split at this
        · rename_i v H hv
          refine ⟨v, H, hv, fun d hd => ?_⟩
          rw [hd] at this
          dsimp only at this
          split at this
          · rename_i v' hv'; rw [hv']; rw [AV.eq_spec _ _ this]
          · cases this
        · cases this
    have hlenL : (pickL l' (pre ++ rest)).length = (pre ++ rest).length := hX.Llen
    have hn : sn.length = (pre ++ rest).length + 1 := by omega
    have hfin : F = en (pre ++ rest).length ∧ G2 = hh (pre ++ rest).length := by
      rw [List.getLast?_eq_getElem?, hn, Nat.add_sub_cancel, hsn _ (by omega)] at hlast
      simp only [Option.some.injEq, Prod.mk.injEq] at hlast
      exact ⟨hlast.1.symm, hlast.2.symm⟩
    obtain ⟨rfl, rfl⟩ := hfin
    have h00 : en 0 = env ∧ hh 0 = G := by
      have := hsn 0 (by omega)
      rw [h2] at this
      simp only [Option.some.injEq, Prod.mk.injEq] at this
      exact ⟨this.1.symm, this.2.symm⟩
    have hpp : pre.length ≤ (pickL l' (pre ++ rest)).length := by rw [hlenL]; simp
    have hmk : ∀ k, k < pre.length → hh (k + 1) = hh k ∨ ∃ ob, hh (k + 1) = hh k ++ [ob] := fun k hk => hX.make hk
    have hdk : lk (en (pre ++ rest).length) dK = lk (en 0) dK := hS.env_keep (Nat.zero_le _) (by omega) (fun j c _ _ hc e => by
      obtain ⟨i, i1, i2⟩ := hX.Lc hc
      obtain ⟨c', c1, c0, c2, hpc⟩ := hX.at_ i _ (Array.getElem?_eq_getElem (show i < ops.size by rw [← hlen]; exact hX.mem i1))
      rw [i2] at c1
      cases c1
      obtain ⟨d1, d2, d3, d4, d5⟩ := cOper_inv c2
      cases hdf' : (ops[i]'(by rw [← hlen]; exact hX.mem i1)).isDfr with
      | false =>
        rw [← d2 hdf', ← hpc.d, e] at d3
        have : dK < N := by simpa [dstOK, Nat.blt_eq] using d3
        omega
      | true =>
        unfold Oper.isDfr at hdf'
        split at hdf'
        · rename_i cl hop
          rw [hop] at d1
          simp only [cOp] at d1
          split at d1
          · obtain ⟨ox, _, e⟩ := map_inv d1
            rcases hpc with rfl | ⟨_, _, h9, _⟩
            · exact absurd e (hdf.ok i _ i2 ox)
            · rw [e] at h9; cases h9
          · cases d1
        · cases hdf')
    obtain ⟨g1, g2⟩ := hS.grow hpp hmk (Nat.zero_le pre.length) (Nat.le_refl _)
    rw [h00.2] at g1 g2
    have hin : ∀ id, id < G.length → inf (hh pre.length) id = inf G id := fun id hid => by unfold inf; rw [g2 id hid]
    have hext : Ext m μ G m μ (hh pre.length) := ⟨fun _ _ _ h => h, fun k loc h h' => ⟨h, by rw [hin k (hp.inv.dom k loc h)]; exact h'⟩, fun k loc g sz h h' => ⟨loc, g, h, by rw [hin k (hp.inv.dom k loc h)]; exact h', Nat.le_refl _, fun _ => rfl⟩⟩
    have hinv : Inv m μ (hh pre.length) w := by
      refine ⟨hp.inv.known, hp.inv.inj, fun k o ho loc hl => ?_, fun k loc h => Nat.lt_of_lt_of_le (hp.inv.dom k loc h) g1, hp.inv.glob⟩
      rw [g2 k (hp.inv.dom k loc hl)] at ho
      exact (hp.inv.obj k o ho loc hl).move hext rfl (fun _ h => h)
    have hnd : ∀ i, ¬ Dn (Array.replicate ops.size false) i := fun i h => by
      unfold Dn at h
      simp [Array.getD_eq_getD_getElem?, Array.getElem?_replicate] at h
      split at h <;> cases h
    refine wpIn_region_any hm (draw_any hX hC hE hN (E := E) hdk hq ops.size (List.range l'.length) (m := m) (μ := μ) (q := pre.length) ⟨by simp [hlen], fun i h => absurd h (hnd i), hinv.drawn _, hp.env.size, fun x v hx _ hv => ?_, fun i k x c v _ h => absurd h (hnd i), ?_, ⟨Nat.le_refl _, by simp⟩, .inl rfl, fun k i hk he => ⟨fun h => absurd h (hnd i), fun h => ?_⟩, fun k i hk _ _ _ => ?_, fun id h1 h2 => ?_, fun _ _ _ => rfl, Nat.le_refl _, hp.ext.trans hext, ?_⟩ (by simp [hlen]) (fun i hi => .inr (by simpa using hi)))
    · rw [h00.1] at hv
      exact (hp.env.val x v hv hx).mono hext
    · rw [h00.1]
      obtain ⟨rs, d, w1, w2, w3, w4, w5, w6⟩ := hp.dfr
      exact ⟨rs, d, w1, w2, fun r hr => ⟨(w3 r hr).new, (w3 r hr).at_, (w3 r hr).apart⟩, w4.mono hext, w5, w6⟩
    · have := ((hX.eff_iff hk (List.getElem?_eq_getElem (hX.mem hk))).1 he).1; omega
    · cases hμ : μ (hh k).length with
      | none => rfl
      | some loc =>
        have := hp.inv.dom _ _ hμ
        have := (hS.grow hpp hmk (Nat.zero_le k) (by omega)).1
        rw [h00.2] at this
        omega
    · have hge : (hh 0).length ≤ id := by
        rw [h00.2]
        rcases Nat.lt_or_ge id G.length with h | h
        · obtain ⟨loc, hl⟩ := hp.tot id h
          rw [hl] at h2; cases h2
        · exact h
      obtain ⟨k, k1, k2, k3⟩ := Snaps.made hmk (Nat.le_refl _) id hge h1
      have hkl : k < (pre ++ rest).length := by simp; omega
      exact ⟨k, _, k1, List.getElem?_eq_getElem hkl, hnd _, k2, k3⟩
    · exact ⟨hp.fr.os, hp.fr.tape, hp.fr.output, hp.fr.size, hp.fr.blk, hp.fr.mem, hp.fr.loc⟩
  · cases hd
end
end Go.Proofs.Z
end
section
namespace Go.Proofs.Z
open Go
variable [hP : HasP]
section
variable {m : Mem} {μ : Mu} {w : World}
theorem gcEnv_sound {f : Nat → Value} : ∀ (env : Env) {e e' : Exp} {env' : Env}, Inv m μ e.G w → IdsOK μ e.ids → gcEnv e env = some (env', e') → (∀ p, p ∈ env → R m μ (inf e.G) (f p.1) p.2) →
    ExpOK μ w m e m e' ∧ e'.G = e.G ∧ (∀ p, p ∈ env' → R m (sub e'.ids μ) (sub e'.ids (inf e'.G)) (f p.1) p.2) ∧ ∀ p, p ∈ env' → ∃ q, q ∈ env ∧ q.1 = p.1
  | [], e, e', env', hI, hk, h, hr => by
    simp [gcEnv] at h
    obtain ⟨rfl, rfl⟩ := h
    exact ⟨.refl hI hk, rfl, fun p hp => by simp at hp, fun p hp => by simp at hp⟩
  | (k, x) :: r, e, e', env', hI, hk, h, hr => by
    simp only [gcEnv] at h
    split at h
    · cases h
    · rename_i x' e1 hx
      split at h
      · cases h
      · rename_i r' e2 hr2
        cases h
        obtain ⟨m1, hx1, hxr, hkk⟩ := exp_sound true x hI hk hx (hr (k, x) (by simp))
        obtain ⟨hG, hmm⟩ := hkk rfl
        rw [hmm] at hx1 hxr
        obtain ⟨h1, h2, h3, h4⟩ := gcEnv_sound r hx1.inv hx1.ok hr2 (fun p hp => by rw [hG]; exact hr p (by simp [hp]))
        refine ⟨hx1.trans h1, h2.trans hG, fun p hp => ?_, fun p hp => ?_⟩
        · rcases List.mem_cons.1 hp with rfl | hp
          · exact hxr.monoI h1.ext
          · exact h3 p hp
        · rcases List.mem_cons.1 hp with rfl | hp
          · exact ⟨(k, x), by simp, rfl⟩
          · obtain ⟨q, q1, q2⟩ := h4 p hp
            exact ⟨q, by simp [q1], q2⟩
variable {N : Nat} {E : Ent}
theorem lk_restr {live : List Nat} {env : Env} {k : Nat} (h : k ∈ live) : lk (restr live env) k = lk env k := by
  induction live with
  | nil => simp at h
  | cons x r ih =>
    unfold restr
    by_cases e : x = k
    · subst e
      cases hx : lk env x with
      | some v => simp [lk]
      | none =>
        dsimp only
        rcases List.mem_cons.1 h with _ | h'
        · by_cases hr : x ∈ r
          · rw [ih hr, hx]
          · cases hc : lk (restr r env) x with
            | none => rfl
            | some v => exact absurd (mem_restr' (lk_mem' hc)).1 hr
        · rw [ih h', hx]
    · have hr : k ∈ r := by
        rcases List.mem_cons.1 h with h | h
        · exact absurd h.symm e
        · exact h
      split
      · simp only [lk, if_neg e]; exact ih hr
      · exact ih hr
theorem gcEnv_keys : ∀ {env env' : Env} {e e' : Exp}, gcEnv e env = some (env', e') → env'.map (·.1) = env.map (·.1)
  | [], env', e, e', h => by simp [gcEnv] at h; rw [h.1.symm]
  | (k, x) :: r, env', e, e', h => by
    simp only [gcEnv] at h
    split at h
    · cases h
    · split at h
      · cases h
      · rename_i hr; cases h; simp [gcEnv_keys hr]
theorem lk_none {env : Env} {k : Nat} : lk env k = none ↔ k ∉ env.map (·.1) := by
  induction env with
  | nil => simp [lk]
  | cons p r ih =>
    rcases p with ⟨k', v⟩
    simp only [lk]
    by_cases e : k' = k
    · simp [e]
    · rw [if_neg e, ih]; simp [Ne.symm e]
theorem gcEnv_keep {live : List Nat} {env env' : Env} {e e' : Exp} (h : gcEnv e (restr live env) = some (env', e')) {k : Nat} (hk : k ∈ live) {v : AV} (hv : lk env k = some v) (hn : lk env' k = none) : False := by
  rw [lk_none, gcEnv_keys h, ← lk_none, lk_restr hk, hv] at hn
  cases hn
theorem gc_sound {live : List Nat} {env env' : Env} {G G' : Heap} {a : Act} (hE : ∀ id, id < E.G.length → ∃ l, E.μ id = some l) (hd : ∀ id l, E.μ id = some l → id < E.G.length) (hlv : ∀ k, k ∈ live → k ≤ dK) (hdl : E.top = true → dK ∈ live) (h : gc E.G.length live env G = some (env', G')) (hp : Pt N E G env a w m μ) : ∃ μ', Pt N E G' env' a w m μ' := by
  unfold gc at h
  obtain ⟨rs, dd, w1, w2, w3, w4, w5, w6⟩ := hp.dfr
  obtain ⟨f, hf1, hf2⟩ : ∃ f : Nat → Value, (∀ k, k < dK → f k = a.tmps.getD k undef) ∧ ∀ v, lk env dK = some v → R m μ (inf G) (f dK) v ∧ ∃ fn cv, f dK = .func (.func fn) #[] cv ∧ okF fn = true ∧ dd = [{ target := .fn (.func fn) cv, args := #[] }] := by
    cases hdk : lk env dK with
    | none => exact ⟨fun k => a.tmps.getD k undef, fun _ _ => rfl, fun v h => by cases h⟩
    | some v =>
      rw [hdk] at w4
      obtain ⟨fn, cap, cv, e1, e2, e3, e4⟩ := w4
      refine ⟨fun k => if k < dK then a.tmps.getD k undef else .func (.func fn) #[] cv, fun k hk => if_pos hk, fun v' h => ?_⟩
      cases h
      dsimp only
      rw [if_neg (Nat.lt_irrefl _), e1]
      exact ⟨.fnOf (a := #[]) (x := []) .nil e4, fn, cv, rfl, e2, e3⟩
  split at h
  · cases h
  · rename_i env1 e hg
    split at h
    · cases h
    · rename_i os e' ho
      cases h
      have hold : ∀ id, id < E.G.length → ∃ l, μ id = some l := by
        intro id hid
        obtain ⟨l, hl⟩ := hE id hid
        have hi : inf E.G id = some (infO E.G[id]) := by simp [inf, List.getElem?_eq_getElem hid]
        cases hio : infO E.G[id] with
        | none => rw [hio] at hi; exact ⟨_, (hp.ext.box id l hl hi).1⟩
        | some p =>
          rcases p with ⟨g, sz⟩
          rw [hio] at hi
          obtain ⟨l', _, h1, _⟩ := hp.ext.arr id l g sz hl hi
          exact ⟨l', h1⟩
      have hids : IdsOK μ (List.range E.G.length) := ⟨List.nodup_range, fun id h => hold id (by simpa using h)⟩
      obtain ⟨h1, h2, h3, h4⟩ := gcEnv_sound (f := f) (restr live env) (e := ⟨List.range E.G.length, G⟩) hp.inv hids hg (fun p hpm => by
        obtain ⟨g1, g2⟩ := mem_restr' hpm
        rcases Nat.lt_or_ge p.1 dK with hlt | hge
        · rw [hf1 _ hlt]; exact hp.env.val p.1 p.2 g2 hlt
        · have : p.1 = dK := Nat.le_antisymm (hlv _ g1) hge
          rw [this] at g2 ⊢
          exact (hf2 _ g2).1)
      obtain ⟨i1, i2, i3, i4, ⟨l2, i5⟩, i6, i7⟩ := expObjs_inv h1.inv h1.ok ho
      obtain ⟨l1, hl1⟩ := h1.ids
      have hpre : ∀ id, id < E.G.length → e'.ids[id]? = some id := by
        intro id hid
        rw [i5, hl1]
        dsimp only
        rw [List.append_assoc, List.getElem?_append_left (by simpa using hid)]
        simp [hid]
      have hGG : e.G = G := h2
      refine ⟨sub e'.ids μ, i1, ⟨hp.env.size, fun k x hk hkd => ?_⟩, ?_, i2, ?_, ⟨hp.fr.os, hp.fr.tape, hp.fr.output, hp.fr.size, hp.fr.blk, hp.fr.mem, ?_⟩⟩
      · have := (h3 (k, x) (lk_mem' hk)).monoI (sub_ext l2 (.refl _ _ _))
        rw [← i5] at this
        rw [i3]
        rw [← hf1 k hkd]
        exact this
      · have hmono : ∀ {z : Value} {x : AV}, R m (sub e.ids μ) (sub e.ids (inf e.G)) z x → R m (sub e'.ids μ) (inf G') z x := fun hr => by
          have := hr.monoI (sub_ext l2 (.refl _ _ _))
          rw [← i5] at this
          rw [i3]; exact this
        refine ⟨rs, dd, w1, w2, fun r hr => ⟨(w3 r hr).new, (w3 r hr).at_, fun id loc hl => ?_⟩, ?_, w5, fun ht => ?_⟩
        · unfold sub at hl
          cases hi : e'.ids[id]? with
          | none => rw [hi] at hl; cases hl
          | some x => rw [hi] at hl; exact (w3 r hr).apart x loc hl
        · cases hd' : lk env' dK with
          | none =>
            cases hdk : lk env dK with
            | none => rw [hdk] at w4; exact w4
            | some v =>
              exfalso
              cases ht : E.top with
              | false => have := w6 ht; rw [hdk] at this; cases this
              | true => exact gcEnv_keep hg (hdl ht) hdk hd'
          | some v' =>
            obtain ⟨q, q1, q2⟩ := h4 (dK, v') (lk_mem' hd')
            obtain ⟨_, g2⟩ := mem_restr' q1
            rw [q2] at g2
            obtain ⟨g3, fn, cv, g4, g5, g6⟩ := hf2 _ g2
            have hr' := hmono (h3 (dK, v') (lk_mem' hd'))
            dsimp only at hr'
            rw [g4] at hr'
            cases hr' with
            | p _ _ hp' => cases hp'
            | fn _ _ a' _ b' ha hb hra hrb =>
              have : a' = [] := List.eq_nil_of_length_eq_zero (by simpa using ha.symm)
              subst this
              exact ⟨fn, b', cv, rfl, g5, g6, .ofArr hb hrb⟩
        · have := w6 ht
          cases hd' : lk env' dK with
          | none => rfl
          | some v' =>
            obtain ⟨q, q1, q2⟩ := h4 (dK, v') (lk_mem' hd')
            obtain ⟨_, g2⟩ := mem_restr' q1
            rw [q2] at g2
            rw [this] at g2; cases g2
      · refine ⟨hp.ext.mem, fun id loc g1 g2 => ?_, fun id loc g sz g1 g2 => ?_⟩
        · obtain ⟨a1, a2⟩ := hp.ext.box id loc g1 g2
          have hid := hpre id (hd id loc g1)
          rw [i3, hGG]
          exact ⟨by simp [sub, hid, a1], by simp [sub, hid, a2]⟩
        · obtain ⟨l', g', a1, a2, a3, a4⟩ := hp.ext.arr id loc g sz g1 g2
          have hid := hpre id (hd id loc g1)
          rw [i3, hGG]
          exact ⟨l', g', by simp [sub, hid, a1], by simp [sub, hid, a2], a3, a4⟩
      · intro id loc' hl
        unfold sub at hl
        cases hi : e'.ids[id]? with
        | none => rw [hi] at hl; cases hl
        | some x => rw [hi] at hl; exact hp.fr.loc x loc' hl
end
end Go.Proofs.Z
end
