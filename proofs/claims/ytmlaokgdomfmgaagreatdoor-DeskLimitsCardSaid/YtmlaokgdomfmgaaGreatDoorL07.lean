/- A part of the proof. -/
import Derived.Test.YtmlaokgdomfmgaaGreatDoorL06
import Derived.OrdersIn
set_option linter.all false
section
namespace Go.Proofs.Z
open Go
variable [hP : HasP]
theorem isDfr_iff {o : Oper} : o.isDfr = false ↔ ∀ c, o.op ≠ .defer c := by
  unfold Oper.isDfr
  split
  · rename_i c h; simp; exact ⟨c, h⟩
  · rename_i h; simp; exact fun c e => h c e
theorem cOper_inv {P : Program} {N : Nat} {ops : Array Oper} {o : Oper} {ci : CI} (h : cOper P N ops o = some ci) :
    cOp P o.op = some ci.o ∧ (o.isDfr = false → ci.d = o.dst) ∧ dstOK N o.dst = true ∧ ((o.guard = none ∧ ci.g = none) ∨ ∃ j w d, o.guard = some (j, w) ∧ (ops[j]?).bind (·.dst) = some d ∧ ci.g = some (d, w)) ∧
      (o.isDfr = true → ci.d = some dK ∧ o.dst = none ∧ o.guard = none) := by
  unfold cOper at h
  split at h
  · cases h
  · rename_i c hc
    split at h
    · rename_i hd
      split at h
      · rename_i hg
        cases h
        refine ⟨hc, fun e => ?_, hd.1, .inl ⟨hg, rfl⟩, fun e => ?_⟩
        · unfold Oper.isDfr at e; dsimp only; split <;> simp_all
        · refine ⟨?_, (hd.2 e).1, hg⟩
          unfold Oper.isDfr at e; dsimp only; split <;> simp_all
      · rename_i j w hg
        split at h
        · rename_i d hj
          cases h
          exact ⟨hc, fun _ => rfl, hd.1, .inr ⟨j, w, d, hg, hj, rfl⟩, fun e => by have := (hd.2 e).2; rw [hg] at this; cases this⟩
        · cases h
    · cases h
theorem R.notBool {m : Mem} {μ : Mu} {i : Inf} {v : Value} {x : AV} (h : R m μ i v x) (hx : ∀ b, x ≠ .p (.b b)) : ∀ b, v ≠ .bool b := by
  intro b e
  subst e
  cases h with
  | p _ _ hp => cases hp; exact hx _ rfl
theorem wanted_of {P : Program} {N : Nat} {ops : Array Oper} {o : Oper} {ci : CI} (h : cOper P N ops o = some ci) {m : Mem} {μ : Mu} {i : Inf} {env : Env} {a : Act} (he : EnvR m μ i N env a) (hlt : ∀ d w, ci.g = some (d, w) → d < dK) {b : Bool} (hg : guardOK env ci.g = some b) :
    Region.wanted o (yielded ops a.tmps) = b := by
  obtain ⟨_, _, _, h4, _⟩ := cOper_inv h
  rcases h4 with ⟨h1, h2⟩ | ⟨j, w, d, h1, h2, h3⟩
  · rw [h2] at hg
    simp [guardOK] at hg
    subst hg
    simp [Region.wanted, h1]
  · rw [h3] at hg
    simp only [guardOK] at hg
    have hdlt : d < dK := hlt d w h3
    have hy : yielded ops a.tmps j = (match a.tmps[d]? with | some (.bool b) => some b | _ => none) := by
      unfold yielded
      rw [h2]
      rfl
    simp only [Region.wanted, h1, hy]
    split at hg
    · rename_i bb hb
      cases hg
      have hv := (he.val d _ hb hdlt).bool_inv
      have : a.tmps[d]? = some (.bool bb) := by
        cases ht : a.tmps[d]? with
        | none => simp [Array.getD_eq_getD_getElem?, ht, undef] at hv
        | some v => simp [Array.getD_eq_getD_getElem?, ht] at hv; rw [hv]
      rw [this]
      cases bb <;> cases w <;> rfl
    · rename_i x hne hx
      cases hg
      have hnb := (he.val d _ hx hdlt).notBool (fun b e => hne b e)
      cases ht : a.tmps[d]? with
      | none => rfl
      | some v =>
        have hnb' : ∀ b, v ≠ .bool b := fun b e => hnb b (by simp [Array.getD_eq_getD_getElem?, ht, e])
        cases v <;> first | rfl | exact absurd rfl (hnb' _)
    · cases hg
section
variable {P : Program} {pg : Prg} {call : CallF} {N : Nat} {ops : Array Oper}
theorem EnvR.putK {m : Mem} {μ : Mu} {i : Inf} {env : Env} {a : Act} (h : EnvR m μ i N env a) {k : Nat} (hk : dK ≤ k) (v : AV) : EnvR m μ i N (Z.put env (some k) v) a :=
  ⟨h.size, fun j x hj hd => by
    simp only [Z.put, lk] at hj
    rw [if_neg (by omega)] at hj
    exact h.val j x hj hd⟩
theorem Act.put_dfr (a : Act) (d : Option Nat) (v : Value) : (a.put d v).defers = a.defers := by cases d <;> rfl
structure Ent where
  m : Mem
  μ : Mu
  G : Heap
  w : World
  md : Nat
def Ent.top (E : Ent) : Bool := Nat.beq E.md 1
theorem Ent.top_md {E : Ent} (h : E.top = true) : E.md = 1 := Nat.eq_of_beq_eq_true h
def mark (r : Nat) : Deferred := { target := .collected r, args := #[] }
structure MarkOK (E : Ent) (μ : Mu) (w : World) (r : Nat) : Prop where
  new : E.w.heap.size ≤ r
  at_ : w.heap[r]? = some (.deferred (some []))
  apart : ∀ id loc, μ id = some loc → loc.blk ≠ r
def DfrR (m : Mem) (μ : Mu) (i : Inf) : Option AV → List Deferred → Prop
  | none, d => d = []
  | some v, d => ∃ f cap cv, v = .fn f [] cap ∧ okF f = true ∧ d = [{ target := .fn (.func f) cv, args := #[] }] ∧ RL m μ i cv.toList cap
variable (E : Ent) (N)
def Waits (m : Mem) (μ : Mu) (i : Inf) (w : World) (v : Option AV) (ds : List Deferred) : Prop := ∃ (rs : List Nat) (d : List Deferred), ds = rs.map mark ++ d ∧ rs.Nodup ∧ (∀ r, r ∈ rs → MarkOK E μ w r) ∧ DfrR m μ i v d ∧ (E.md ≠ 0 → rs = []) ∧ (E.top = false → v = none)
structure Pt (G : Heap) (ev : Env) (a : Act) (w : World) (m : Mem) (μ : Mu) : Prop where
  inv : Inv m μ G w
  env : EnvR m μ (inf G) N ev a
  dfr : Waits E m μ (inf G) w (lk ev dK) a.defers
  tot : ∀ id, id < G.length → ∃ l, μ id = some l
  ext : Ext E.m E.μ E.G m μ G
  fr : Fr E.m E.μ E.w m μ w
def Ends (Q : Exit → Act → World → Prop) (e : Ex) (env : Env) (G : Heap) : Prop := ∀ a w m μ, Pt N E G env a w m μ →
  match e with
  | .normal => Q .normal a w
  | .exit id => Q (.exit id) a w
  | .ret => Q .ret a w
  | .pan v => ∀ val, R m μ (inf G) val v → Q (.panic [{ v := val, recovered := false }]) a w
variable {E} {N}
theorem MarkOK.step {m m' : Mem} {μ μ' : Mu} {w w' : World} {r : Nat} (h : MarkOK E μ w r) (hf : Fr m μ w m' μ' w') : MarkOK E μ' w' r := by
  have hlt : r < w.heap.size := (Array.getElem?_eq_some_iff.1 h.at_).1
  refine ⟨h.new, (hf.blk r hlt h.apart).trans h.at_, fun id loc hl e => ?_⟩
  rcases hf.loc id loc hl with h1 | ⟨id', l', h1, h2⟩
  · omega
  · exact h.apart id' l' h1 (h2.trans e)
theorem DfrR.mono {m m' : Mem} {μ μ' : Mu} {i i' : Inf} (h : ExtI m μ i m' μ' i') {v : Option AV} {d : List Deferred} (hd : DfrR m μ i v d) : DfrR m' μ' i' v d := by
  cases v with
  | none => exact hd
  | some v => obtain ⟨f, cap, cv, h1, h2, h3, h4⟩ := hd; exact ⟨f, cap, cv, h1, h2, h3, h4.monoI h⟩
theorem Waits.step {m m' : Mem} {μ μ' : Mu} {G G' : Heap} {w w' : World} {v : Option AV} {ds : List Deferred} (h : Waits E m μ (inf G) w v ds) (hS : Stp m μ G w m' μ' G' w') : Waits E m' μ' (inf G') w' v ds := by
  obtain ⟨rs, d, h1, h2, h3, h4, h5, h6⟩ := h
  exact ⟨rs, d, h1, h2, fun r hr => (h3 r hr).step hS.fr, h4.mono hS.ext, h5, h6⟩
theorem Pt.step {G : Heap} {env : Env} {a : Act} {w : World} {m : Mem} {μ : Mu} (h : Pt N E G env a w m μ) {m' : Mem} {μ' : Mu} {G' : Heap} {w' : World} (hI : Inv m' μ' G' w') (hS : Stp m μ G w m' μ' G' w') {env' : Env} {a' : Act} (he : EnvR m' μ' (inf G') N env' a') (hd : a'.defers = a.defers) (hk : lk env' dK = lk env dK) : Pt N E G' env' a' w' m' μ' :=
  ⟨hI, he, by rw [hd, hk]; exact h.dfr.step hS, hS.total h.tot, h.ext.trans hS.ext, h.fr.trans hS.fr⟩
theorem lk_put_lt {env : Env} {d : Option Nat} (hd : dstOK N d = true) (hN : N ≤ dK) (v : AV) : lk (Z.put env d v) dK = lk env dK := by
  cases d with
  | none => rfl
  | some d =>
    have : d < N := by simpa [dstOK, Nat.blt_eq] using hd
    simp only [Z.put, lk]
    rw [if_neg (by omega)]
variable (hC : CallSound P call) (hE : CallEnters P call) (hN : N ≤ dK)
theorem guard_lt (hN : N ≤ dK) {o : Oper} {ci : CI} (hcs : ∀ (j : Nat) (o : Oper), ops[j]? = some o → dstOK N o.dst = true) (h : cOper P N ops o = some ci) : ∀ d w, ci.g = some (d, w) → d < dK := by
  intro d w hg
  obtain ⟨_, _, _, h4, _⟩ := cOper_inv h
  rcases h4 with ⟨_, h2⟩ | ⟨j, w', d', h1, h2, h3⟩
  · rw [h2] at hg; cases hg
  · rw [h3] at hg
    cases hg
    obtain ⟨o', ho', hd'⟩ := Option.bind_eq_some_iff.1 h2
    have := hcs j o' ho'
    rw [hd'] at this
    have : d < N := by simpa [dstOK, Nat.blt_eq] using this
    omega
inductive Al (P : Program) (N : Nat) (ops : Array Oper) : List Nat → List CI → Prop
  | nil : Al P N ops [] []
  | cons {k : Nat} {o : Oper} {c : CI} {is : List Nat} {cs : List CI} : ops[k]? = some o → cOper P N ops o = some c → Al P N ops is cs → Al P N ops (k :: is) (c :: cs)
include hC hE hN
theorem step_sound (hcs : ∀ (j : Nat) (o : Oper), ops[j]? = some o → dstOK N o.dst = true) {o : Oper} {ci : CI} (hnd : o.isDfr = false) (h : cOper P N ops o = some ci) {env : Env} {G : Heap} {v : AV} {G1 : Heap} (hev : evCI pg call ci env G = some (v, G1)) {m : Mem} {μ : Mu} {a : Act} {w : World}
    (hI : Inv m μ G w) (he : EnvR m μ (inf G) N env a) {ro : Option Nat} {next : Act → World → Prop} {Q : Exit → Act → World → Prop}
    (hn : ∀ m' μ' w' val, Inv m' μ' G1 w' → Stp m μ G w m' μ' G1 w' → R m' μ' (inf G1) val v → next (a.put o.dst val) w') :
    if Region.wanted o (yielded ops a.tmps) then o.wpIn (Fn ro) 0 P a w next Q else (∀ f, o.about P w a.eval = some f → (Fn ro).fn f) ∧ next (a.put o.dst undef) w := by
  obtain ⟨h1, h2, h3, h4, h5⟩ := cOper_inv h
  unfold evCI at hev
  split at hev
  · cases hev
  · rename_i hg
    cases hev
    rw [wanted_of h he (guard_lt hN hcs h) hg]
    exact ⟨fun _ _ => trivial, hn m μ w undef hI (.refl _ _ _ _) .undef⟩
  · rename_i hg
    rw [wanted_of h he (guard_lt hN hcs h) hg]
    split at hev
    · rename_i v G2 hv
      cases hev
      exact op_sound hC hE hI he (isDfr_iff.1 hnd) h1 hv ro next Q hn
    · cases hev
theorem ops_sound (hcs : ∀ (j : Nat) (o : Oper), ops[j]? = some o → dstOK N o.dst = true) {ro : Option Nat} {Q : Exit → Act → World → Prop} {is : List Nat} {cs : List CI} (hal : Al P N ops is cs) (hnd : (E.top = true ∧ ro = none) ∨ noDfr cs = true) : ∀ {env : Env} {G : Heap} {a : Act} {w : World} {m : Mem} {μ : Mu} {e : Ex} {env' : Env} {G' : Heap},
    evOps pg call cs env G = some (e, env', G') → Pt N E G env a w m μ → Ends N E Q e env' G' → wpOpsIn (Fn ro) 0 P ops Q is a w := by
  induction hal with
  | nil =>
    intro env G a w m μ e env' G' hev hp hq
    simp [evOps] at hev
    obtain ⟨rfl, rfl, rfl⟩ := hev
    exact hq a w m μ hp
  | @cons k o c is cs ho hc hal ih =>
    intro env G a w m μ e env' G' hev hp hq
    rw [wpOpsIn_cons]
    unfold wpOpIn
    rw [ho]
    dsimp only
    simp only [evOps] at hev
    obtain ⟨h1, h2, h3, h4, h5⟩ := cOper_inv hc
    have hnd' : (E.top = true ∧ ro = none) ∨ noDfr cs = true := hnd.imp id fun h => by simp only [noDfr, List.all_cons, Bool.and_eq_true] at h ⊢; exact h.2
    cases hdf : o.isDfr with
    | true =>
      obtain ⟨k1, k2, k3⟩ := h5 hdf
      have hop : ∃ cl, o.op = .defer cl := by
        unfold Oper.isDfr at hdf
        split at hdf
        · rename_i cl h; exact ⟨cl, h⟩
        · cases hdf
      obtain ⟨cl, hop⟩ := hop
      have hg : c.g = none := by
        rcases h4 with ⟨_, h⟩ | ⟨j, w', d, h, _⟩
        · exact h
        · rw [k3] at h; cases h
      rw [hop] at h1
      simp only [cOp] at h1
      split at h1
      · rename_i x hcal hargs
        obtain ⟨ox, hx, ho'⟩ := map_inv h1
        rw [hg, ho'] at hev
        simp only [guardOK, evOp] at hev
        split at hev
        · cases hev
        · rename_i v G1 hv
          split at hv
          · rename_i f cap hf hdk
            split at hv
            · rename_i hok
              cases hv
              obtain ⟨va, vb, e1, e2, e3⟩ := (opd_R hp.env hx hf).fnInv
              have hva : va = #[] := by apply Array.ext'; simpa using e2.inv_nil
              subst hva
              have hro : E.top = true ∧ ro = none := by
                rcases hnd with h | h
                · exact h
                · simp [noDfr, ho'] at h
              have hrun : (o.semAt ro a.eval).run P w = .ok (.defer { target := .fn (.func f) vb, args := #[] }) w := by
                rw [hro.2, Oper.semAt_none]
                have ha : cl.args = #[] := by apply Array.ext'; simpa using hargs
                simp [execOp, hop, resolve, hcal, ha, Deferred.ofValue, e1]
              have hwt : Region.wanted o (yielded ops a.tmps) = true := by simp [Region.wanted, k3]
              rw [if_pos hwt]
              unfold Oper.wpIn
              have hrun' : (o.semAt (Fn ro).round a.eval).run P w = .ok (.defer { target := .fn (.func f) vb, args := #[] }) w := hrun
              rw [hrun', Oper.uponIn_defer, k2]
              refine ⟨fun _ _ => trivial, ih hnd' hev ⟨hp.inv, ?_, ?_, hp.tot, hp.ext, hp.fr⟩ hq⟩
              · rw [k1]
                have := hp.env.putK (Nat.le_refl dK) (.fn f [] cap)
                exact ⟨this.size, this.val⟩
              · obtain ⟨rs, d, g1, g2, g3, g4, g5, g6⟩ := hp.dfr
                rw [hdk] at g4
                have : d = [] := g4
                subst this
                have := g5 (by rw [Ent.top_md hro.1]; simp)
                subst this
                refine ⟨[], [{ target := .fn (.func f) vb, args := #[] }], ?_, by simp, fun r h => by simp at h, ?_, fun _ => rfl, fun h => by rw [hro.1] at h; cases h⟩
                · show _ :: a.defers = _
                  rw [g1]; rfl
                · rw [k1]
                  simp only [Z.put, lk, if_pos]
                  exact ⟨f, cap, vb, rfl, hok, rfl, e3⟩
            · cases hv
          · cases hv
        · rename_i v G1 hv
          split at hv
          · split at hv <;> cases hv
          · cases hv
      · cases h1
    | false =>
      have h2 := h2 hdf
      have hgl := guard_lt hN hcs hc
      split at hev
      · cases hev
      · rename_i hg
        rw [wanted_of hc hp.env hgl hg]
        simp only [Bool.false_eq_true, if_false]
        exact ⟨fun _ _ => trivial, ih hnd' hev ⟨hp.inv, by rw [h2]; exact hp.env.put h3 .undef, by rw [Act.put_dfr, h2, lk_put_lt h3 hN]; exact hp.dfr, hp.tot, hp.ext, hp.fr⟩ hq⟩
      · rename_i hg
        rw [wanted_of hc hp.env hgl hg]
        simp only [if_true]
        split at hev
        · cases hev
        · rename_i v G1 hv
          refine op_sound hC hE hp.inv hp.env (isDfr_iff.1 hdf) h1 hv ro _ Q fun m' μ' w' val hI' hS hr => ?_
          exact ih hnd' hev (hp.step hI' hS (by rw [h2]; exact (hp.env.mono hS.ext).put h3 hr) (Act.put_dfr _ _ _) (by rw [h2]; exact lk_put_lt h3 hN _)) hq
        · rename_i v G1 hv
          cases hev
          refine op_sound hC hE hp.inv hp.env (isDfr_iff.1 hdf) h1 hv ro _ Q fun m' μ' w' val hI' hS hr => ?_
          exact hq a w' m' μ' (hp.step hI' hS (hp.env.mono hS.ext) rfl rfl) val hr
omit hC hE hN
theorem cOpers_at : ∀ {l : List Oper} {cs : List CI}, cOpers P N ops l = some cs → cs.length = l.length ∧ ∀ (k : Nat) (o : Oper), l[k]? = some o → ∃ c, cs[k]? = some c ∧ cOper P N ops o = some c
  | [], cs, h => by simp [cOpers] at h; subst h; exact ⟨rfl, fun k o h => by simp at h⟩
  | o :: r, cs, h => by
    simp only [cOpers] at h
    split at h
    · cases h
    · rename_i c hc
      split at h
      · cases h
      · rename_i cs' hr
        cases h
        obtain ⟨h1, h2⟩ := cOpers_at hr
        refine ⟨by simp [h1], fun k o' hk => ?_⟩
        cases k with
        | zero => simp at hk; subst hk; exact ⟨c, rfl, hc⟩
        | succ k => simpa using h2 k o' (by simpa using hk)
theorem al_from {l : List CI} (hlen : l.length = ops.size) (h : ∀ (k : Nat) (o : Oper), ops[k]? = some o → ∃ c, l[k]? = some c ∧ cOper P N ops o = some c) : ∀ (n k : Nat), k + n = ops.size → Al P N ops (List.range' k n) (l.drop k)
  | 0, k, hk => by
    rw [List.drop_eq_nil_of_le (by omega)]
    exact .nil
  | n + 1, k, hk => by
    have hlt : k < ops.size := by omega
    obtain ⟨c, h1, h2⟩ := h k ops[k] (Array.getElem?_eq_getElem hlt)
    have hd : l.drop k = c :: l.drop (k + 1) := by
      rw [List.drop_eq_getElem_cons (by omega)]
      congr 1
      rw [List.getElem?_eq_getElem (by omega)] at h1
      exact Option.some.inj h1
    rw [hd, List.range'_succ]
    exact .cons (Array.getElem?_eq_getElem hlt) h2 (al_from hlen h n (k + 1) (by omega))
theorem cOpers_dst : ∀ {l : List Oper} {cs : List CI}, cOpers P N ops l = some cs → ∀ o, o ∈ l → dstOK N o.dst = true := by
  intro l cs h o ho
  obtain ⟨k, hk⟩ := List.mem_iff_getElem?.1 ho
  obtain ⟨_, h2⟩ := cOpers_at h
  obtain ⟨c, _, hc⟩ := h2 k o hk
  exact (cOper_inv hc).2.2.1
include hC hE hN
theorem region_sound {ro : Option Nat} {Q : Exit → Act → World → Prop} {id : Nat} {l : List CI} (hl : cOpers P N ops ops.toList = some l) (hnd : (E.top = true ∧ ro = none) ∨ noDfr l = true) {env : Env} {G : Heap} {a : Act} {w : World} {m : Mem} {μ : Mu} {e : Ex} {env' : Env} {G' : Heap}
    (hev : evOps pg call l env G = some (e, env', G')) (hp : Pt N E G env a w m μ) (hq : Ends N E Q e env' G') : (Code.region id ops false).wpIn (Fn ro) 0 P Q a w := by
  obtain ⟨h1, h2⟩ := cOpers_at hl
  have hal := al_from (l := l) (by simpa using h1) (fun k o ho => h2 k o (by simpa using ho)) ops.size 0 (by omega)
  rw [List.drop_zero, ← List.range_eq_range'] at hal
  exact wpIn_region (ops_sound hC hE hN (fun j o ho => cOpers_dst hl o (List.mem_of_getElem? (by simpa using ho))) hal hnd hev hp hq)
end
end Go.Proofs.Z
end
section
namespace Go.Proofs.Z
open Go
def Res.at (H : Heap) : Res → Res
  | .val v _ => .val v H
  | .pan v _ => .pan v H
section
variable {pg : Prg} {call call' : CallF} {o : COp} {env : Env} {H H2 : Heap}
theorem one_at (x : Option AV) : one H2 x = (one H x).map (Res.at H2) := by cases x <;> rfl
theorem si_same (hk : kindOf o = 0) : evOp pg call o env H2 = (evOp pg call o env H).map (Res.at H2) := by
  cases o <;> first
    | (simp [kindOf] at hk; done)
    | (simp only [evOp]; exact one_at _)
    | (simp only [evOp]; (repeat' split) <;> first | rfl | exact one_at _ | simp_all [Res.at])
theorem rd_same (hk : kindOf o = 1) : evOp pg call o env H = (evOp pg call' o env H).map (Res.at H) := by
  cases o <;> first
    | (simp [kindOf] at hk; done)
    | (simp only [evOp]; (repeat' split) <;> first | rfl | exact one_at _ | simp_all [Res.at])
theorem ci_si {c : CI} (hk : kindOf c.o = 0) {v : AV} {H' : Heap} (h : evCI pg call c env H = some (v, H')) : evCI pg call c env H2 = some (v, H2) := by
  unfold evCI at h ⊢
  rcases hg : guardOK env c.g with _ | _ | _ <;> rw [hg] at h <;> dsimp only at h ⊢
  · cases h
  · cases h; rfl
  · rw [si_same (call := call) (H := H) hk]
    rcases hv : evOp pg call c.o env H with _ | ⟨v', G'⟩ | ⟨v', G'⟩ <;> rw [hv] at h <;> dsimp only at h
    · cases h
    · cases h; rfl
    · cases h
theorem ci_rd1 {c : CI} (hk : kindOf c.o = 1) {v : AV} {H' : Heap} (h : evCI pg call c env H = some (v, H')) : H' = H ∧ evCI pg call' c env H = some (v, H) := by
  unfold evCI at h ⊢
  rcases hg : guardOK env c.g with _ | _ | _ <;> rw [hg] at h <;> dsimp only at h ⊢
  · cases h
  · cases h; exact ⟨rfl, rfl⟩
  · have h1 := rd_same (pg := pg) (call := call) (call' := call) (env := env) (H := H) hk
    have h2 := rd_same (pg := pg) (call := call') (call' := call) (env := env) (H := H) hk
    rcases hv : evOp pg call c.o env H with _ | ⟨v', G'⟩ | ⟨v', G'⟩ <;> rw [hv] at h h1 h2 <;> dsimp only at h
    · cases h
    · cases h
      simp only [Option.map, Res.at, Option.some.injEq, Res.val.injEq, true_and] at h1
      rw [h2]
      exact ⟨h1, rfl⟩
    · cases h
theorem ci_rd {c : CI} (hk : kindOf c.o < 2) {v : AV} {H' : Heap} (h : evCI pg call c env H = some (v, H')) : H' = H := by
  by_cases h0 : kindOf c.o = 0
  · have := ci_si (H2 := H) h0 h
    rw [h] at this
    cases this; rfl
  · exact (ci_rd1 (call' := call) (by omega) h).1
def Pc (c0 c : CI) : Prop := c = c0 ∨ ∃ f a, c0.o = .call f a ∧ c = ⟨c0.d, .pcall f a, c0.g⟩
theorem Pc.d {c0 c : CI} (h : Pc c0 c) : c.d = c0.d := by rcases h with rfl | ⟨_, _, _, rfl⟩ <;> rfl
theorem Pc.g {c0 c : CI} (h : Pc c0 c) : c.g = c0.g := by rcases h with rfl | ⟨_, _, _, rfl⟩ <;> rfl
theorem Pc.eqk {c0 c : CI} (h : Pc c0 c) (hk : kindOf c.o ≠ 0) : c = c0 := by
  rcases h with rfl | ⟨_, _, _, rfl⟩
  · rfl
  · exact absurd rfl hk
theorem Pc.pc (c : CI) : Pc c c.pc := by
  unfold CI.pc
  split
  · rename_i f a h; exact .inr ⟨f, a, h, rfl⟩
  · exact .inl rfl
theorem pcAt_at {pre : List Nat} : ∀ {l : List CI} {n k : Nat} {c0 : CI}, l[k]? = some c0 → ∃ c, (pcAt pre n l)[k]? = some c ∧ Pc c0 c
  | [], n, k, c0, h => by simp at h
  | a :: r, n, 0, c0, h => by
    simp at h; subst h
    refine ⟨_, rfl, ?_⟩
    split
    · exact Pc.pc a
    · exact .inl rfl
  | a :: r, n, k + 1, c0, h => by simpa [pcAt] using pcAt_at (n := n + 1) (l := r) (k := k) (by simpa using h)
theorem pcAt_len {pre : List Nat} : ∀ (l : List CI) (n : Nat), (pcAt pre n l).length = l.length
  | [], n => rfl
  | a :: r, n => by simp [pcAt, pcAt_len r]
mutual
theorem exp_toP {k : Bool} {e : Exp} : ∀ {a : AV} {x : PV}, toP a = some x → exp k e a = some (a, e)
  | .p x, _, h => by simp [exp]
  | .ag cs, x, h => by
    simp only [toP] at h
    split at h
    · rename_i l hl; simp [exp, expL_toP hl]
    · cases h
  | .ifc t v, x, h => by
    simp only [toP] at h
    split at h
    · rename_i l hl; simp [exp, exp_toP hl]
    · cases h
  | .nils, _, h | .undef, _, h | .ptr _ _, _, h | .arr _ _ _, _, h | .eptr _ _ _ _, _, h | .rp _, _, h | .tup _, _, h | .fn _ _ _, _, h | .map _, _, h | .nmap, _, h | .yld _, _, h | .clip _, _, h => by simp [toP] at h
theorem expL_toP {k : Bool} {e : Exp} : ∀ {l : List AV} {x : List PV}, toPL l = some x → expL k e l = some (l, e)
  | [], _, h => by simp [expL]
  | a :: r, x, h => by
    simp only [toPL] at h
    split at h
    · cases h
    · rename_i v hv
      split at h
      · cases h
      · rename_i vs hvs
        simp [expL, exp_toP hv, expL_toP hvs]
end
theorem expL_all {k : Bool} {e : Exp} : ∀ {l : List AV}, l.all (fun a => (toP a).isSome) = true → expL k e l = some (l, e)
  | [], h => by simp [expL]
  | a :: r, h => by
    simp only [List.all_cons, Bool.and_eq_true] at h
    obtain ⟨x, hx⟩ := Option.isSome_iff_exists.1 h.1
    simp [expL, exp_toP hx, expL_all h.2]
theorem pcall_call {f : Nat} {a : List Opd} {v : AV} {H' : Heap} (h : evOp pg call (.pcall f a) env H = some (.val v H')) : evOp pg call (.call f a) env H = some (.val v H') := by
  simp only [evOp] at h ⊢
  split at h
  · rename_i args ha
    split at h
    · rename_i hall
      split at h
      · rename_i x hx
        cases h
        simp [evCallAt, expL_all hall, expObjs, hx, Out.back, back, setAll, Res.of]
      · cases h
    · cases h
  · cases h
theorem pc_ev {c0 c : CI} (h : Pc c0 c) {v : AV} {H' : Heap} (hev : evCI pg call c env H = some (v, H')) : evCI pg call c0 env H = some (v, H') := by
  rcases h with rfl | ⟨f, a, h1, rfl⟩
  · exact hev
  · unfold evCI at hev ⊢
    dsimp only at hev ⊢
    rw [h1]
    rcases hg : guardOK env c0.g with _ | _ | _ <;> rw [hg] at hev <;> dsimp only at hev ⊢
    · cases hev
    · exact hev
    · rcases hv : evOp pg call (.pcall f a) env H with _ | ⟨v', G'⟩ | ⟨v', G'⟩ <;> rw [hv] at hev <;> dsimp only at hev
      · cases hev
      · rw [pcall_call hv]; exact hev
      · cases hev
end
end Go.Proofs.Z
end
section
namespace Go.Proofs.Z
open Go
variable [hP : HasP]
theorem Inv.drawn {m : Mem} {μ : Mu} {G : Heap} {w : World} (h : Inv m μ G w) (k : Nat) : Inv m μ G { w with drawn := k } := by
  refine ⟨h.known, h.inj, fun id o ho loc hl => ?_, h.dom, h.glob⟩
  have := h.obj id o ho loc hl
  cases o <;> exact this
theorem late_step {m : Mem} {μ : Mu} {H : Heap} {w : World} (hI : Inv m μ H w) {id : Nat} {ob : AObj} (hH : H[id]? = some ob) (hn : μ id = none) (x : Obj) (cap : Nat) {μ' : Mu} (hμ : μ' = fun k => if k = id then some ⟨w.heap.size, cap⟩ else μ k) {w' : World} (hw : w' = { w with heap := w.heap.push x })
    (hob : Ext m μ H m μ' H → ObjR m μ' (inf H) w' ⟨w.heap.size, cap⟩ ob) : Inv m μ' H w' ∧ Ext m μ H m μ' H ∧ Fr m μ w m μ' w' := by
  have hne : ∀ k loc, μ k = some loc → k ≠ id := fun k loc h e => by rw [e, hn] at h; cases h
  have hμo : ∀ k loc, μ k = some loc → μ' k = some loc := fun k loc h => by rw [hμ]; simp [hne k loc h, h]
  have hext : Ext m μ H m μ' H := ⟨fun _ _ _ h => h, fun k loc h h' => ⟨hμo k loc h, h'⟩, fun k loc g sz h h' => ⟨loc, g, hμo k loc h, h', Nat.le_refl _, fun _ => rfl⟩⟩
  have hblk : ∀ b, b < w.heap.size → w'.heap[b]? = w.heap[b]? := fun b hb => by rw [hw]; simp [Array.getElem?_push, Nat.ne_of_lt hb]
  have hinv : ∀ k loc, μ' k = some loc → (k = id ∧ loc = ⟨w.heap.size, cap⟩) ∨ μ k = some loc := fun k loc h => by
    rw [hμ] at h
    dsimp only at h
    split at h
    · cases h; exact .inl ⟨by assumption, rfl⟩
    · exact .inr h
  have hfr : Fr m μ w m μ' w' := ⟨by rw [hw], by rw [hw], by rw [hw], by rw [hw]; simp, fun b hb _ => hblk b hb, fun _ _ _ h => .inl h, fun k loc h => by
    rcases hinv k loc h with ⟨rfl, rfl⟩ | h'
    · exact .inl (Nat.le_refl _)
    · exact .inr ⟨k, loc, h', rfl⟩⟩
  refine ⟨⟨?_, ?_, ?_, ?_, hI.glob.step hfr⟩, hext, hfr⟩
  · intro b o v h
    have h1 := hI.known b o v h
    have h2 := World.block_lt_of_cell? w _ h1
    simp at h2
    unfold World.cell? at h1 ⊢
    dsimp only at h1 ⊢
    rw [hblk b h2]
    exact h1
  · intro i j l l' h1 h2 e
    rcases hinv i l h1 with ⟨rfl, rfl⟩ | h1' <;> rcases hinv j l' h2 with ⟨rfl, rfl⟩ | h2'
    · rfl
    · have := hI.lt h2'; simp at e; omega
    · have := hI.lt h1'; simp at e; omega
    · exact hI.inj i j l l' h1' h2' e
  · intro k o ho loc hl
    rcases hinv k loc hl with ⟨rfl, rfl⟩ | hl'
    · rw [hH] at ho
      cases ho
      exact hob hext
    · exact (hI.obj k o ho loc hl').move hext (hblk _ (hI.lt hl')) (fun _ h => h)
  · intro k loc h
    rcases hinv k loc h with ⟨rfl, rfl⟩ | h'
    · exact (List.getElem?_eq_some_iff.1 hH).1
    · exact hI.dom k loc h'
section
variable {P : Program} {pg : Prg} {call : CallF} {N : Nat}
theorem cOp_kind2 {op : Op} {co : COp} (h : cOp P op = some co) (hk : kindOf co = 2) : (∃ T, op = .alloc T) ∨ (∃ t, op = .makeMap t none) ∨ ∃ t l c, op = .makeSlice t l c := by
  unfold cOp at h
  split at h
  all_goals first
    | exact .inl ⟨_, rfl⟩
    | exact .inr (.inl ⟨_, rfl⟩)
    | exact .inr (.inr ⟨_, _, _, rfl⟩)
    | (exfalso; (repeat' split at h) <;> first | (cases h; done) | (cases h; simp [kindOf] at hk; done) | (obtain ⟨_, _, rfl⟩ := map_inv h; simp [kindOf] at hk; done))
theorem late_op {o : Oper} {co : COp} (hop : cOp P o.op = some co) (hk : kindOf co = 2) {env : Env} {G G1 : Heap} {v : AV} (hev : evOp pg call co env G = some (.val v G1)) : ∃ ob, G1 = G ++ [ob] ∧ ∀ {m : Mem} {μ : Mu} {H : Heap} {w : World} {a : Act}, Inv m μ H w → EnvR m μ (inf H) N env a → H[G.length]? = some ob → μ G.length = none →
    ∀ (ro : Option Nat) (next : Act → World → Prop) (Q : Exit → Act → World → Prop), (∀ μ' w' val, Inv m μ' H w' → Ext m μ H m μ' H → Fr m μ w m μ' w' → (∀ k, k ≠ G.length → μ' k = μ k) → (∃ l, μ' G.length = some l) → R m μ' (inf H) val v → next (a.put o.dst val) w') → o.wpIn (Fn ro) 0 P a w next Q := by
  have hinf : ∀ {H : Heap} {ob : AObj} {id : Nat}, H[id]? = some ob → inf H id = some (infO ob) := fun h => by simp [inf, h]
  rcases cOp_kind2 hop hk with ⟨T, ho⟩ | ⟨t, ho⟩ | ⟨t, x, y, ho⟩
  · rw [ho] at hop
    obtain ⟨cs, hz, rfl⟩ := map_inv hop
    simp only [evOp] at hev
    split at hev
    · rename_i hf
      cases hev
      refine ⟨_, rfl, fun {m μ H w a} hI he hH hn ro next Q hq => ?_⟩
      unfold cZero at hz
      split at hz
      · rename_i v hv
        split at hz
        · rename_i x hx
          cases hz
          have hr := RL.cellsOf (ofVal_R m μ (inf H) _ _ hx) hf
          obtain ⟨h1, h2, h3⟩ := late_step hI hH hn (.cells v.cells.toList.toArray T (0, 0)) 0 rfl rfl (fun e => ⟨v.cells.toList.toArray, T, by simp, by simpa using hr.1, fun j v' c g1 g2 => (hr.2 j v' c (by simpa using g1) g2).mono e, hf, fun o => hI.fresh (Nat.le_refl _) o, rfl⟩)
          refine wp_of_val ?_ (hq _ _ (.pointer (some ⟨w.heap.size, 0, none⟩)) h1 h2 h3 (fun k hk => if_neg hk) ⟨_, if_pos rfl⟩ (.ptr _ _ ⟨w.heap.size, 0⟩ (if_pos rfl) (hinf hH)))
          cases hi : P.info? T with
          | none => simp [hi] at hv
          | some i =>
            simp [hi] at hv
            simp [execOp, ho, Instr.alloc, zeroValue, typeInfo, hi, hv, newVar, newRow]
        · cases hz
      · cases hz
    · cases hev
  · rw [ho] at hop
    simp only [cOp] at hop
    split at hop
    · cases hop
      simp only [evOp, Option.some.injEq, Res.val.injEq] at hev
      obtain ⟨rfl, rfl⟩ := hev
      refine ⟨_, rfl, fun {m μ H w a} hI he hH hn ro next Q hq => ?_⟩
      obtain ⟨h1, h2, h3⟩ := late_step hI hH hn (.map #[] 0) 0 rfl rfl (fun _ => ⟨#[], by simp, ⟨[], .refl _, rfl, fun i e p h => by simp at h⟩, fun i e h => by simp at h, .nil, hI.fresh (Nat.le_refl _)⟩)
      refine wp_of_val (w' := w.alloc (.map #[] 0)) (v := .map (some w.heap.size)) ?_ (hq _ _ _ h1 h2 h3 (fun k hk => if_neg hk) ⟨_, if_pos rfl⟩ (.map _ ⟨w.heap.size, 0⟩ (if_pos rfl) (hinf hH)))
      simp [execOp, ho, Instr.makeMap, run_newObj_alloc, Sem.run_bind, Result.andThen]
    · cases hop
  · rw [ho] at hop
    simp only [cOp] at hop
    split at hop
    · rename_i e ht
      split at hop
      · rename_i sz by_ z ox oy hn hb hz hx hy
        split at hop
        · rename_i hok
          cases hop
          simp only [evOp] at hev
          split at hev
          · rename_i l c hl hcc
            split at hev
            · rename_i hh
              cases hev
              refine ⟨_, rfl, fun {m μ H w a} hI he hH hnn ro next Q hq => ?_⟩
              obtain ⟨cs, k1, k2, k3⟩ := mkslice_run (P := P) hI he ho ht hn hb hz hh.2.2.2.1 hh.2.2.2.2 hx hy hl hcc hh.1 hh.2.1 hh.2.2.1
              have hle : l.toNat ≤ c.toNat := by have := hh.1; have := hh.2.1; omega
              obtain ⟨h1, h2, h3⟩ := late_step hI hH hnn (.cells cs e (0, 0)) c.toNat rfl rfl (fun _ => ⟨cs, e, by simp, k2, by simpa using hle, hh.2.2.2.2, okRows_replicate hh.2.2.2.1, k3, fun o _ => hI.fresh (Nat.le_refl _) o, rfl⟩)
              exact wp_of_val k1 (hq _ _ _ h1 h2 h3 (fun k hk => if_neg hk) ⟨_, if_pos rfl⟩ (.arr _ _ _ _ _ _ ⟨w.heap.size, c.toNat⟩ 0 sz (if_pos rfl) (hinf hH) (Nat.le_refl _) (fun _ => ⟨rfl, rfl, rfl⟩)))
            · cases hev
          · cases hev
        · cases hop
      · cases hop
    · cases hop
end
end Go.Proofs.Z
end
section
namespace Go.Proofs.Z
open Go
variable [hP : HasP]
theorem pickL_at {α : Type} {l : List α} : ∀ {is : List Nat}, (∀ i, i ∈ is → i < l.length) → ∀ k : Nat, (pickL l is)[k]? = (is[k]?).bind (l[·]?)
  | [], _, k => by simp [pickL]
  | i :: r, h, k => by
    have hi := List.getElem?_eq_getElem (h i (by simp))
    have ih := pickL_at (l := l) (is := r) (fun j hj => h j (by simp [hj]))
    unfold pickL at ih ⊢
    rw [List.filterMap_cons, hi]
    cases k with
    | zero => simp [hi]
    | succ k => simpa using ih k
theorem pickL_len {α : Type} {l : List α} : ∀ {is : List Nat}, (∀ i, i ∈ is → i < l.length) → (pickL l is).length = is.length
  | [], _ => by simp [pickL]
  | i :: r, h => by
    have hi := List.getElem?_eq_getElem (h i (by simp))
    have ih := pickL_len (l := l) (is := r) (fun j hj => h j (by simp [hj]))
    unfold pickL at ih ⊢
    rw [List.filterMap_cons, hi]
    simp [ih]
theorem asc_lt {l : List Nat} (h : l.Pairwise (· < ·)) {a b i j : Nat} (ha : l[a]? = some i) (hb : l[b]? = some j) (hij : i < j) : a < b := by
  obtain ⟨a1, a2⟩ := List.getElem?_eq_some_iff.1 ha
  obtain ⟨b1, b2⟩ := List.getElem?_eq_some_iff.1 hb
  rw [List.pairwise_iff_getElem] at h
  rcases Nat.lt_trichotomy a b with h1 | h1 | h1
  · exact h1
  · subst h1; omega
  · have := h b a b1 a1 h1; omega
theorem mem_restr' {env : Env} : ∀ {live : List Nat} {p : Nat × AV}, p ∈ restr live env → p.1 ∈ live ∧ lk env p.1 = some p.2
  | [], p, h => by simp [restr] at h
  | k :: r, p, h => by
    simp only [restr] at h
    split at h
    · rename_i v hv
      rcases List.mem_cons.1 h with rfl | h
      · exact ⟨by simp, hv⟩
      · exact ⟨by simp [(mem_restr' h).1], (mem_restr' h).2⟩
    · exact ⟨by simp [(mem_restr' h).1], (mem_restr' h).2⟩
theorem lk_mem' : ∀ {env : Env} {k : Nat} {x : AV}, lk env k = some x → (k, x) ∈ env
  | [], k, x, h => by simp [lk] at h
  | (k', v) :: r, k, x, h => by
    simp only [lk] at h
    split at h
    · rename_i e; cases h; subst e; simp
    · exact List.mem_cons_of_mem _ (lk_mem' h)
structure Snaps (pg : Prg) (call : CallF) (L : List CI) (en : Nat → Env) (hh : Nat → Heap) : Prop where
  at_ : ∀ k c, L[k]? = some c → ∃ v, evCI pg call c (restr (ciReads c) (en k)) (hh k) = some (v, hh (k + 1)) ∧ en (k + 1) = put (en k) c.d v
section
variable {pg : Prg} {call : CallF}
theorem snap_at : ∀ {L : List CI} {env : Env} {G : Heap} {sn : List (Env × Heap)}, evSnap pg call L env G = some sn → sn.length = L.length + 1 ∧ sn[0]? = some (env, G) ∧
    ∀ k c e, L[k]? = some c → sn[k]? = some e → ∃ v H, evCI pg call c (restr (ciReads c) e.1) e.2 = some (v, H) ∧ sn[k + 1]? = some (put e.1 c.d v, H)
  | [], env, G, sn, h => by
    simp [evSnap] at h
    subst h
    exact ⟨rfl, rfl, fun k c e h => by simp at h⟩
  | c :: r, env, G, sn, h => by
    simp only [evSnap] at h
    split at h
    · cases h
    · rename_i v G' hc
      split at h
      · cases h
      · rename_i l hl
        cases h
        obtain ⟨h1, h2, h3⟩ := snap_at hl
        refine ⟨by simp [h1], rfl, fun k c' e hk he => ?_⟩
        cases k with
        | zero => simp at hk he; subst hk; subst he; exact ⟨v, G', hc, by simpa using h2⟩
        | succ k => simp at hk he; obtain ⟨v', H, a, b⟩ := h3 k c' e hk he; exact ⟨v', H, a, by simpa using b⟩
variable {L : List CI} {en : Nat → Env} {hh : Nat → Heap}
theorem Snaps.env_keep (h : Snaps pg call L en hh) {x a : Nat} : ∀ {b : Nat}, a ≤ b → b ≤ L.length → (∀ j c, a ≤ j → j < b → L[j]? = some c → c.d ≠ some x) → lk (en b) x = lk (en a) x
  | b, hab, hb, hx => by
    rcases Nat.eq_or_lt_of_le hab with rfl | hlt
    · rfl
    · cases b with
      | zero => omega
      | succ b =>
        have hc := List.getElem?_eq_getElem (show b < L.length by omega)
        obtain ⟨v, _, h2⟩ := h.at_ b _ hc
        have := hx b _ (by omega) (by omega) hc
        rw [h2, ← h.env_keep (show a ≤ b by omega) (by omega) (fun j c h1 h2 => hx j c h1 (by omega))]
        cases hd : L[b].d with
        | none => rfl
        | some d =>
          rw [hd] at this
          simp only [put, lk]
          rw [if_neg (fun e => this (by rw [e]))]
theorem Snaps.heap_keep (h : Snaps pg call L en hh) {a : Nat} : ∀ {b : Nat}, a ≤ b → b ≤ L.length → (∀ j c, a ≤ j → j < b → L[j]? = some c → kindOf c.o < 2) → hh b = hh a
  | b, hab, hb, hx => by
    rcases Nat.eq_or_lt_of_le hab with rfl | hlt
    · rfl
    · cases b with
      | zero => omega
      | succ b =>
        have hc := List.getElem?_eq_getElem (show b < L.length by omega)
        obtain ⟨v, h1, _⟩ := h.at_ b _ hc
        rw [ci_rd (hx b _ (by omega) (by omega) hc) h1]
        exact h.heap_keep (show a ≤ b by omega) (by omega) (fun j c h1 h2 => hx j c h1 (by omega))
theorem ci_make {P : Program} {N : Nat} {ops : Array Oper} {o : Oper} {c c0 : CI} (hc : cOper P N ops o = some c0) (hpc : Pc c0 c) (hk : kindOf c.o < 3) {env : Env} {H H' : Heap} {v : AV} (h : evCI pg call c env H = some (v, H')) : H' = H ∨ (∃ ob, H' = H ++ [ob]) ∧ kindOf c.o = 2 := by
  by_cases h2 : kindOf c.o < 2
  · exact .inl (ci_rd h2 h)
  · have h2 : kindOf c.o = 2 := by omega
    have := hpc.eqk (by omega)
    subst this
    unfold evCI at h
    rcases hg : guardOK env c.g with _ | _ | _ <;> rw [hg] at h <;> dsimp only at h
    · cases h
    · cases h; exact .inl rfl
    · rcases hv : evOp pg call c.o env H with _ | ⟨v', G'⟩ | ⟨v', G'⟩ <;> rw [hv] at h <;> dsimp only at h
      · cases h
      · cases h
        obtain ⟨ob, e, _⟩ := late_op (N := N) (cOper_inv hc).1 h2 hv
        exact .inr ⟨⟨ob, e⟩, h2⟩
      · cases h
theorem Snaps.grow (h : Snaps pg call L en hh) {p : Nat} (hp : p ≤ L.length) (hm : ∀ k, k < p → hh (k + 1) = hh k ∨ ∃ ob, hh (k + 1) = hh k ++ [ob]) {a : Nat} : ∀ {b : Nat}, a ≤ b → b ≤ p → (hh a).length ≤ (hh b).length ∧ ∀ id, id < (hh a).length → (hh b)[id]? = (hh a)[id]?
  | b, hab, hb => by
    rcases Nat.eq_or_lt_of_le hab with rfl | hlt
    · exact ⟨Nat.le_refl _, fun _ _ => rfl⟩
    · cases b with
      | zero => omega
      | succ b =>
        obtain ⟨g1, g2⟩ := h.grow hp hm (show a ≤ b by omega) (by omega)
        rcases hm b (by omega) with e | ⟨ob, e⟩ <;> rw [e]
        · exact ⟨g1, g2⟩
        · refine ⟨by simp; omega, fun id hid => ?_⟩
          rw [List.getElem?_append_left (by omega)]
          exact g2 id hid
theorem Snaps.made {p : Nat} (hm : ∀ k, k < p → hh (k + 1) = hh k ∨ ∃ ob, hh (k + 1) = hh k ++ [ob]) : ∀ {b : Nat}, b ≤ p → ∀ id, (hh 0).length ≤ id → id < (hh b).length → ∃ k, k < b ∧ (hh k).length = id ∧ (hh (k + 1)).length ≠ (hh k).length
  | 0, _, id, h1, h2 => by omega
  | b + 1, hb, id, h1, h2 => by
    by_cases hlt : id < (hh b).length
    · obtain ⟨k, a1, a2, a3⟩ := Snaps.made hm (show b ≤ p by omega) id h1 hlt
      exact ⟨k, by omega, a2, a3⟩
    · rcases hm b (by omega) with e | ⟨ob, e⟩
      · rw [e] at h2; omega
      · rw [e] at h2
        simp at h2
        exact ⟨b, by omega, by omega, by rw [e]; simp⟩
end
structure DF (l : List CI) (af T : List (List Nat)) (pre rest : List Nat) : Prop where
  ok : ∀ (k : Nat) (c : CI), l[k]? = some c → ∀ x, c.o ≠ .dfr x
  part : ∀ k, k < l.length → (k ∈ pre ∨ k ∈ rest) ∧ ¬ (k ∈ pre ∧ k ∈ rest)
  prek : ∀ (k : Nat) (c : CI), l[k]? = some c → k ∈ pre → kindOf c.o < 3
  afk : ∀ k, k < l.length → ∀ e, e ∈ af.getD k [] → e < k
  tk : ∀ k, k < l.length → ∀ x, x ∈ T.getD k [] → x < k ∧ (x ∈ af.getD k [] ∨ ∃ m, m ∈ af.getD k [] ∧ x ∈ T.getD m [])
  dst : ∀ (k j : Nat) (c cj : CI) (d : Nat), l[k]? = some c → l[j]? = some cj → j ≠ k → cj.d = some d → c.d ≠ some d
  rds : ∀ (k j : Nat) (c cj : CI) (d : Nat), l[k]? = some c → l[j]? = some cj → cj.d = some d → d ∈ ciReads c → (j ∈ T.getD k [] ∧ (k ∈ pre → j ∈ pre)) ∨ (k ∈ T.getD j [] ∧ (j ∈ pre → k ∈ pre))
  eff : ∀ k j, k < l.length → j < l.length → isEff l pre k = true → isEff l pre j = true → j = k ∨ j ∈ T.getD k [] ∨ k ∈ T.getD j []
theorem df_of {l : List CI} {af T : List (List Nat)} {pre rest : List Nat} (h : drawOK l af T pre rest = true) : DF l af T pre rest := by
  simp only [drawOK, Bool.and_eq_true, List.all_eq_true, List.mem_range] at h
  obtain ⟨_, h⟩ := h
  have hk : ∀ (k : Nat) (c : CI), l[k]? = some c → k < l.length := fun k c h => (List.getElem?_eq_some_iff.1 h).1
  have hat : ∀ k, k < l.length → l[k]? = some (l.getD k ⟨none, .mkmap, none⟩) := fun k hk => by simp [List.getD_eq_getElem?_getD, List.getElem?_eq_getElem hk]
  have g : ∀ (k : Nat) (c : CI), l[k]? = some c → _ := fun k c hc => by have := h k (hk k c hc); rw [hc] at this; simp only [Bool.and_eq_true, List.all_eq_true, List.mem_range, Bool.or_eq_true, Bool.not_eq_true', List.any_eq_true, List.contains_eq_mem, decide_eq_true_eq, Nat.blt_eq, Nat.beq_eq_true_eq, decide_eq_false_iff_not, isAnc] at this; exact this
  have g2 : ∀ (k j : Nat) (c cj : CI), l[k]? = some c → l[j]? = some cj → _ := fun k j c cj hc hj => by have := (g k c hc).2 j (hk j cj hj); rw [hj] at this; simp only [Bool.and_eq_true, Bool.or_eq_true, Nat.beq_eq_true_eq] at this; exact this
  refine ⟨fun k c hc x e => ?_, fun k hkl => ?_, fun k c hc hp => ?_, fun k hkl e he => ?_, fun k hkl x hx => ?_, fun k j c cj d hc hj hne hd => ?_, fun k j c cj d hc hj hd hr => ?_, fun k j hkl hjl h1 h2 => ?_⟩
  · have := (g k c hc).1.1.1.1.1
    rw [e] at this; cases this
  · have := (g k _ (hat k hkl)).1.1.1.1.2
    by_cases a : k ∈ pre <;> by_cases b : k ∈ rest <;> simp_all
  · have := (g k c hc).1.1.1.2
    rcases this with h | h
    · exact absurd hp h
    · exact h
  · exact (g k _ (hat k hkl)).1.1.2 e he
  · exact (g k _ (hat k hkl)).1.2 x hx
  · have := (g2 k j c cj hc hj).1.1
    rw [hd] at this
    rcases this with h | h
    · exact absurd (Nat.eq_of_beq_eq_true h) hne
    · intro e; rw [e] at h; simp at h
  · have := (g2 k j c cj hc hj).1.2
    rw [hd] at this
    simp only [Bool.or_eq_true, Bool.and_eq_true, Bool.not_eq_true', List.contains_eq_mem, decide_eq_true_eq, decide_eq_false_iff_not] at this
    rcases this with (h | ⟨h1, h2⟩) | ⟨h1, h2⟩
    · exact absurd hr h
    · exact .inl ⟨h1, fun h => h2.resolve_left (fun h' => h' h)⟩
    · exact .inr ⟨h1, fun h => h2.resolve_left (fun h' => h' h)⟩
  · have := (g2 k j _ _ (hat k hkl) (hat j hjl)).2
    rcases this with ((h | h) | h) | h
    · simp [h1, h2] at h
    · exact .inl (Nat.eq_of_beq_eq_true h)
    · exact .inr (.inl (by simpa using h))
    · exact .inr (.inr (by simpa using h))
end Go.Proofs.Z
end
section
namespace Go.Proofs.Z
open Go
variable [hP : HasP]
structure Ctx (P : Program) (pg : Prg) (call : CallF) (N : Nat) (ops : Array Oper) (l : List CI) (T : List (List Nat)) (pre rest : List Nat) (en : Nat → Env) (hh : Nat → Heap) : Prop where
  df : DF l (ops.toList.map binding) T pre rest
  len : l.length = ops.size
  at_ : ∀ (k : Nat) (o : Oper), ops[k]? = some o → ∃ c, l[k]? = some c ∧ ∃ c0, cOper P N ops o = some c0 ∧ Pc c0 c
  dst : ∀ (j : Nat) (o : Oper), ops[j]? = some o → dstOK N o.dst = true
  asc1 : pre.Pairwise (· < ·)
  asc2 : rest.Pairwise (· < ·)
  inn : ∀ i, i ∈ pre ++ rest → i < l.length
  sn : Snaps pg call (pickL l (pre ++ rest)) en hh
  chk : ∀ (k q : Nat) (c : CI), (k, q) ∈ chksOf l T pre rest → (pickL l (pre ++ rest))[k]? = some c → ∃ v H, evCI pg (fun _ _ _ => none) c (restr (ciReads c) (en k)) (hh q) = some (v, H) ∧ ∀ d, c.d = some d → lk (en (k + 1)) d = some v
def Dn (listed : Array Bool) (i : Nat) : Prop := listed.getD i false = true
section
variable {P : Program} {pg : Prg} {call : CallF} {N : Nat} {ops : Array Oper} {l : List CI} {T : List (List Nat)} {pre rest : List Nat} {en : Nat → Env} {hh : Nat → Heap}
variable (X : Ctx P pg call N ops l T pre rest en hh)
include X
theorem Ctx.mem {k i : Nat} (h : (pre ++ rest)[k]? = some i) : i < l.length := X.inn i (List.mem_of_getElem? h)
theorem Ctx.cL {k i : Nat} {c : CI} (h : (pre ++ rest)[k]? = some i) (hc : l[i]? = some c) : (pickL l (pre ++ rest))[k]? = some c := by
  rw [pickL_at X.inn, h]; exact hc
theorem Ctx.Lc {k : Nat} {c : CI} (h : (pickL l (pre ++ rest))[k]? = some c) : ∃ i, (pre ++ rest)[k]? = some i ∧ l[i]? = some c := by
  rw [pickL_at X.inn] at h
  obtain ⟨i, h1, h2⟩ := Option.bind_eq_some_iff.1 h
  exact ⟨i, h1, h2⟩
theorem Ctx.Llen : (pickL l (pre ++ rest)).length = (pre ++ rest).length := pickL_len X.inn
theorem Ctx.pos {i : Nat} (h : i < l.length) : ∃ k, k < (pre ++ rest).length ∧ (pre ++ rest)[k]? = some i := by
  have : i ∈ pre ++ rest := by
    rcases (X.df.part i h).1 with h | h <;> simp [h]
  obtain ⟨k, hk⟩ := List.mem_iff_getElem?.1 this
  exact ⟨k, (List.getElem?_eq_some_iff.1 hk).1, hk⟩
theorem Ctx.side {k i : Nat} (h : (pre ++ rest)[k]? = some i) : (k < pre.length ∧ pre[k]? = some i ∧ i ∈ pre ∧ i ∉ rest) ∨ (pre.length ≤ k ∧ rest[k - pre.length]? = some i ∧ i ∈ rest ∧ i ∉ pre) := by
  have hp := X.df.part i (X.mem h)
  by_cases hk : k < pre.length
  · rw [List.getElem?_append_left hk] at h
    have hm := List.mem_of_getElem? h
    exact .inl ⟨hk, h, hm, fun h' => hp.2 ⟨hm, h'⟩⟩
  · rw [List.getElem?_append_right (by omega)] at h
    have hm := List.mem_of_getElem? h
    exact .inr ⟨by omega, h, hm, fun h' => hp.2 ⟨h', hm⟩⟩
theorem Ctx.pos_lt {a b j k : Nat} (ha : (pre ++ rest)[a]? = some j) (hb : (pre ++ rest)[b]? = some k) (hjk : j < k) (hp : k ∈ pre → j ∈ pre) : a < b := by
  rcases X.side ha with ⟨a1, a2, a3, a4⟩ | ⟨a1, a2, a3, a4⟩ <;> rcases X.side hb with ⟨b1, b2, b3, b4⟩ | ⟨b1, b2, b3, b4⟩
  · exact asc_lt X.asc1 a2 b2 hjk
  · omega
  · exact absurd (hp b3) a4
  · have := asc_lt X.asc2 a2 b2 hjk; omega
theorem Ctx.pos_inj {a b i : Nat} (ha : (pre ++ rest)[a]? = some i) (hb : (pre ++ rest)[b]? = some i) : a = b := by
  have key : ∀ {l : List Nat} {a b : Nat}, l.Pairwise (· < ·) → l[a]? = some i → l[b]? = some i → a = b := by
    intro l a b h h1 h2
    obtain ⟨p1, p2⟩ := List.getElem?_eq_some_iff.1 h1
    obtain ⟨q1, q2⟩ := List.getElem?_eq_some_iff.1 h2
    rw [List.pairwise_iff_getElem] at h
    rcases Nat.lt_trichotomy a b with h3 | h3 | h3
    · have := h a b p1 q1 h3; omega
    · exact h3
    · have := h b a q1 p1 h3; omega
  rcases X.side ha with ⟨a1, a2, a3, a4⟩ | ⟨a1, a2, a3, a4⟩ <;> rcases X.side hb with ⟨b1, b2, b3, b4⟩ | ⟨b1, b2, b3, b4⟩
  · exact key X.asc1 a2 b2
  · exact absurd b3 a4
  · exact absurd a3 b4
  · have := key X.asc2 a2 b2; omega
theorem Ctx.eff_iff {k i : Nat} {c : CI} (h : (pre ++ rest)[k]? = some i) (hc : l[i]? = some c) : isEff l pre i = true ↔ pre.length ≤ k ∧ 2 ≤ kindOf c.o := by
  have : kOf l i = kindOf c.o := by simp [kOf, hc]
  simp only [isEff, this, Bool.and_eq_true, Nat.ble_eq, Bool.not_eq_true', List.contains_eq_mem, decide_eq_false_iff_not]
  rcases X.side h with ⟨a1, a2, a3, a4⟩ | ⟨a1, a2, a3, a4⟩
  · exact ⟨fun h => absurd a3 h.2, fun h => absurd h.1 (by omega)⟩
  · exact ⟨fun h => ⟨a1, h.1⟩, fun h => ⟨h.2, a4⟩⟩
theorem Ctx.no_eff {k : Nat} {c : CI} (h : (pickL l (pre ++ rest))[k]? = some c) (hk : pre.length ≤ k) (hn : ∀ i, (pre ++ rest)[k]? = some i → isEff l pre i = false) : kindOf c.o < 2 := by
  obtain ⟨i, h1, h2⟩ := X.Lc h
  have := hn i h1
  have e := X.eff_iff h1 h2
  rw [this] at e
  simp at e
  have := e hk
  omega
theorem Ctx.make {k : Nat} (hk : k < pre.length) : hh (k + 1) = hh k ∨ ∃ ob, hh (k + 1) = hh k ++ [ob] := by
  have hlt : k < (pickL l (pre ++ rest)).length := by rw [X.Llen]; simp; omega
  have hc := List.getElem?_eq_getElem hlt
  obtain ⟨i, h1, h2⟩ := X.Lc hc
  obtain ⟨v, h3, _⟩ := X.sn.at_ k _ hc
  have hi := X.mem h1
  obtain ⟨c', h5, c0, h6, hpc⟩ := X.at_ i _ (Array.getElem?_eq_getElem (show i < ops.size by rw [← X.len]; exact hi))
  rw [h2] at h5
  cases h5
  rcases X.side h1 with ⟨a1, a2, a3, a4⟩ | ⟨a1, a2, a3, a4⟩
  · rcases ci_make h6 hpc (X.df.prek i _ h2 a3) h3 with e | ⟨⟨ob, e⟩, _⟩
    · exact .inl e
    · exact .inr ⟨ob, e⟩
  · omega
omit X
variable (E : Ent)
structure St (N : Nat) (l : List CI) (T : List (List Nat)) (pre rest : List Nat) (en : Nat → Env) (hh : Nat → Heap) (listed : Array Bool) (a : Act) (w : World) (m : Mem) (μ : Mu) (q : Nat) : Prop where
  size : listed.size = l.length
  closed : ∀ i, Dn listed i → ∀ j, j ∈ T.getD i [] → Dn listed j
  inv : Inv m μ (hh q) w
  tsz : N ≤ a.tmps.size
  old : ∀ x v, x < dK → (∀ (i : Nat) (c : CI), Dn listed i → l[i]? = some c → c.d ≠ some x) → lk (en 0) x = some v → R m μ (inf (hh q)) (a.tmps.getD x undef) v
  new : ∀ (i k x : Nat) (c : CI) (v : AV), x < dK → Dn listed i → l[i]? = some c → c.d = some x → (pre ++ rest)[k]? = some i → lk (en (k + 1)) x = some v → R m μ (inf (hh q)) (a.tmps.getD x undef) v
  dfr : Waits E m μ (inf (hh q)) w (lk (en 0) dK) a.defers
  qp : pre.length ≤ q ∧ q ≤ (pre ++ rest).length
  qe : q = pre.length ∨ ∃ k i, q = k + 1 ∧ (pre ++ rest)[k]? = some i ∧ isEff l pre i = true ∧ Dn listed i
  effs : ∀ k i, (pre ++ rest)[k]? = some i → isEff l pre i = true → (Dn listed i ↔ k < q)
  un : ∀ k i, k < pre.length → (pre ++ rest)[k]? = some i → (hh (k + 1)).length ≠ (hh k).length → ¬ Dn listed i → μ (hh k).length = none
  tot : ∀ id, id < (hh q).length → μ id = none → ∃ k i, k < pre.length ∧ (pre ++ rest)[k]? = some i ∧ ¬ Dn listed i ∧ (hh k).length = id ∧ (hh (k + 1)).length ≠ (hh k).length
  gro : ∀ id, id < (hh pre.length).length → μ id = none → (hh q)[id]? = (hh pre.length)[id]?
  glen : (hh pre.length).length ≤ (hh q).length
  ext : Ext E.m E.μ E.G m μ (hh q)
  fr : Fr E.m E.μ E.w m μ w
theorem Dn.set {listed : Array Bool} {i j : Nat} (hi : i < listed.size) : Dn (listed.setIfInBounds i true) j ↔ Dn listed j ∨ j = i := by
  unfold Dn
  simp only [Array.getD_eq_getD_getElem?, Array.getElem?_setIfInBounds]
  by_cases e : i = j
  · subst e; simp [hi]
  · simp [e]; intro h; exact absurd h.symm e
variable {E}
include X
theorem St.reads {listed : Array Bool} {a : Act} {w : World} {m : Mem} {μ : Mu} {q : Nat} (h : St E N l T pre rest en hh listed a w m μ q) {i k : Nat} {c : CI} (hc : l[i]? = some c) (hk : (pre ++ rest)[k]? = some i) (hn : ¬ Dn listed i) (hanc : ∀ j, j ∈ T.getD i [] → Dn listed j) :
    EnvR m μ (inf (hh q)) N (restr (ciReads c) (en k)) a := by
  refine ⟨h.tsz, fun x v hx hd => ?_⟩
  have hmem : (x, v) ∈ restr (ciReads c) (en k) := lk_mem' hx
  obtain ⟨hrd, hv⟩ := mem_restr' hmem
  dsimp only at hrd hv
  have hkl : k < (pre ++ rest).length := (List.getElem?_eq_some_iff.1 hk).1
  by_cases hw : ∃ (j : Nat) (cj : CI), l[j]? = some cj ∧ cj.d = some x
  · obtain ⟨j, cj, hj, hdj⟩ := hw
    have hjl := (List.getElem?_eq_some_iff.1 hj).1
    obtain ⟨kj, hkjl, hkj⟩ := X.pos hjl
    have hone : ∀ (b : Nat) (c' : CI), b ≠ kj → (pickL l (pre ++ rest))[b]? = some c' → c'.d ≠ some x := by
      intro b c' hb hc'
      obtain ⟨i', h1, h2⟩ := X.Lc hc'
      refine X.df.dst i' j c' cj x h2 hj (fun e => ?_) hdj
      subst e
      exact hb (X.pos_inj h1 hkj)
    rcases X.df.rds i j c cj x hc hj hdj hrd with ⟨h1, h2⟩ | ⟨h1, h2⟩
    · have hji := (X.df.tk i (X.mem hk) j h1).1
      have hlt := X.pos_lt hkj hk hji h2
      have : lk (en k) x = lk (en (kj + 1)) x := X.sn.env_keep (by omega) (by rw [X.Llen]; omega) (fun b c' b1 b2 hc' => hone b c' (by omega) hc')
      rw [this] at hv
      exact h.new j kj x cj v hd (hanc j h1) hj hdj hkj hv
    · have hij := (X.df.tk j hjl i h1).1
      have hlt := X.pos_lt hk hkj hij h2
      have hnj : ¬ Dn listed j := fun hd => hn (h.closed j hd i h1)
      have : lk (en k) x = lk (en 0) x := X.sn.env_keep (Nat.zero_le _) (by rw [X.Llen]; omega) (fun b c' _ b2 hc' => hone b c' (by omega) hc')
      rw [this] at hv
      refine h.old x v hd (fun i' c' hdn hi' e => ?_) hv
      by_cases e' : i' = j
      · subst e'; exact hnj hdn
      · exact X.df.dst i' j c' cj x hi' hj (fun e'' => e' e''.symm) hdj e
  · have : lk (en k) x = lk (en 0) x := X.sn.env_keep (Nat.zero_le _) (by rw [X.Llen]; omega) (fun b c' _ b2 hc' e => by
      obtain ⟨i', h1, h2⟩ := X.Lc hc'
      exact hw ⟨i', c', h2, e⟩)
    rw [this] at hv
    exact h.old x v hd (fun i' c' hdn hi' e => hw ⟨i', c', hi', e⟩) hv
theorem St.next {listed : Array Bool} {a : Act} {w : World} {m : Mem} {μ : Mu} {q : Nat} (h : St E N l T pre rest en hh listed a w m μ q) {i k : Nat} {c : CI} {o : Oper} (hc : l[i]? = some c) (hk : (pre ++ rest)[k]? = some i) (ho : o.dst = c.d) (hdo : dstOK N o.dst = true) (hanc : ∀ j, j ∈ T.getD i [] → Dn listed j)
    {m' : Mem} {μ' : Mu} {w' : World} {q' : Nat} {val : Value} {v : AV} (hv : en (k + 1) = put (en k) c.d v) (hI : Inv m' μ' (hh q') w') (hx : Ext m μ (hh q) m' μ' (hh q')) (hf : Fr m μ w m' μ' w') (hr : R m' μ' (inf (hh q')) val v)
    (hqp : pre.length ≤ q' ∧ q' ≤ (pre ++ rest).length) (hqe' : q' = q ∨ q' = k + 1 ∧ isEff l pre i = true)
    (heffs : ∀ k' i', (pre ++ rest)[k']? = some i' → isEff l pre i' = true → ((Dn listed i' ∨ i' = i) ↔ k' < q'))
    (hun : ∀ k' i', k' < pre.length → (pre ++ rest)[k']? = some i' → (hh (k' + 1)).length ≠ (hh k').length → ¬ Dn listed i' → i' ≠ i → μ' (hh k').length = none)
    (htot : ∀ id, id < (hh q').length → μ' id = none → id < (hh q).length ∧ μ id = none ∧ (∀ k', (hh k').length = id → k' < pre.length → (hh (k' + 1)).length ≠ (hh k').length → (pre ++ rest)[k']? = some i → False))
    (hgro : ∀ id, id < (hh pre.length).length → μ' id = none → (hh q')[id]? = (hh q)[id]?) (hglen : (hh q).length ≤ (hh q').length) :
    St E N l T pre rest en hh (listed.setIfInBounds i true) (a.put o.dst val) w' m' μ' q' := by
  have hi := X.mem hk
  have hil : i < listed.size := by rw [h.size]; exact hi
  have hS : ∀ {v : Option AV} {ds : List Deferred}, Waits E m μ (inf (hh q)) w v ds → Waits E m' μ' (inf (hh q')) w' v ds := by
    rintro v ds ⟨rs, d, h1, h2, h3, h4, h5, h6⟩
    exact ⟨rs, d, h1, h2, fun r hr => (h3 r hr).step hf, h4.mono hx, h5, h6⟩
  have hput : ∀ x, c.d ≠ some x → (a.put o.dst val).tmps.getD x undef = a.tmps.getD x undef := by
    intro x hne
    rw [ho]
    cases hd : c.d with
    | none => rfl
    | some d =>
      rw [hd] at hne
      have : d ≠ x := fun e => hne (by rw [e])
      simp [Act.put, Array.getD_eq_getD_getElem?, Array.getElem?_setIfInBounds, this]
  refine ⟨by simp [h.size], fun j hj j' hj' => ?_, hI, ?_, fun x u hxd hno hu => ?_, fun j kj x cj u hxd hj hcj hdj hkj hu => ?_, ?_, hqp, ?_, fun k' i' h1 h2 => ?_, fun k' i' h1 h2 h3 h4 => ?_, fun id h1 h2 => ?_, fun id h1 h2 => ?_, ?_, h.ext.trans hx, h.fr.trans hf⟩
  · rw [Dn.set hil] at hj ⊢
    rcases hj with hj | rfl
    · exact .inl (h.closed j hj j' hj')
    · exact .inl (hanc j' hj')
  · rw [ho]; cases c.d <;> simpa [Act.put] using h.tsz
  · rw [hput x (hno i c ((Dn.set hil).2 (.inr rfl)) hc)]
    exact (h.old x u hxd (fun j cj hj => hno j cj ((Dn.set hil).2 (.inl hj))) hu).mono hx
  · rw [Dn.set hil] at hj
    by_cases e : j = i
    · subst e
      rw [hc] at hcj
      cases hcj
      have := X.pos_inj hkj hk
      subst this
      rw [hv, hdj] at hu
      simp [put, lk] at hu
      subst hu
      have hdN : x < N := by rw [ho, hdj] at hdo; simpa [dstOK, Nat.blt_eq] using hdo
      have : x < a.tmps.size := Nat.lt_of_lt_of_le hdN h.tsz
      rw [ho, hdj]
      simpa [Act.put, Array.getD_eq_getD_getElem?, this] using hr
    · rw [hput x (X.df.dst i j c cj x hc hcj e hdj)]
      exact (h.new j kj x cj u hxd (hj.resolve_right e) hcj hdj hkj hu).mono hx
  · rw [Act.put_dfr]; exact hS h.dfr
  · rcases hqe' with rfl | ⟨rfl, he⟩
    · rcases h.qe with e | ⟨k', i', h1, h2, h3, h4⟩
      · exact .inl e
      · exact .inr ⟨k', i', h1, h2, h3, (Dn.set hil).2 (.inl h4)⟩
    · exact .inr ⟨k, i, rfl, hk, he, (Dn.set hil).2 (.inr rfl)⟩
  · rw [Dn.set hil]; exact heffs k' i' h1 h2
  · rw [Dn.set hil] at h4
    exact hun k' i' h1 h2 h3 (fun h => h4 (.inl h)) (fun h => h4 (.inr h))
  · obtain ⟨g1, g2, g3⟩ := htot id h1 h2
    obtain ⟨k', i', b1, b2, b3, b4, b5⟩ := h.tot id g1 g2
    refine ⟨k', i', b1, b2, fun hd => ?_, b4, b5⟩
    rw [Dn.set hil] at hd
    rcases hd with hd | rfl
    · exact b3 hd
    · exact g3 k' b4 b1 b5 b2
  · rw [hgro id h1 h2]
    have hlt : id < (hh q).length := Nat.lt_of_lt_of_le h1 h.glen
    by_cases hlt' : id < (hh q').length
    · exact h.gro id h1 (htot id hlt' h2).2.1
    · have := hglen; omega
  · exact Nat.le_trans h.glen hglen
end
end Go.Proofs.Z
end
