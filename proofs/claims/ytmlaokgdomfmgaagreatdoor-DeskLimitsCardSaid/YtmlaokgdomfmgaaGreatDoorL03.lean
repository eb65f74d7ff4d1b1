/- A part of the proof. -/
import Derived.Test.YtmlaokgdomfmgaaGreatDoorL02
import Derived.RangeFuncSeq
import Derived.RecoverIn
import Derived.Great.BuildSlice
set_option linter.all false
section
namespace Go.Proofs.Z
open Go
variable [hP : HasP]
def sub {α : Type} (ids : List Nat) (f : Nat → Option α) : Nat → Option α := fun k => (ids[k]?).bind f
structure IdsOK (μ : Mu) (ids : List Nat) : Prop where
  nodup : ids.Nodup
  mapped : ∀ id, id ∈ ids → ∃ loc, μ id = some loc
theorem idxOf_some {ids : List Nat} {id k : Nat} (h : idxOf ids id = some k) : ids[k]? = some id := by
  induction ids generalizing k with
  | nil => simp [idxOf] at h
  | cons x r ih =>
    simp only [idxOf] at h
    split at h
    · rename_i e; cases h; simp [e]
    · cases hr : idxOf r id with
      | none => rw [hr] at h; simp at h
      | some j => rw [hr] at h; simp at h; subst h; simpa using ih hr
theorem idxOf_none {ids : List Nat} {id : Nat} (h : idxOf ids id = none) : id ∉ ids := by
  induction ids with
  | nil => simp
  | cons x r ih =>
    simp only [idxOf] at h
    split at h
    · cases h
    · rename_i e
      cases hr : idxOf r id with
      | none => simp; exact ⟨fun h => e h.symm, ih hr⟩
      | some j => rw [hr] at h; simp at h
theorem idxOf_at {ids : List Nat} (hn : ids.Nodup) {id k : Nat} (h : ids[k]? = some id) : idxOf ids id = some k := by
  cases hi : idxOf ids id with
  | none => exact absurd (List.mem_iff_getElem?.2 ⟨k, h⟩) (idxOf_none hi)
  | some j =>
    have h2 := idxOf_some hi
    have h3 := (List.getElem?_eq_some_iff.1 h).1
    rw [(List.getElem?_inj h3 hn).1 (h.trans h2.symm)]
theorem sub_ext {m m' : Mem} {μ : Mu} {i i' : Inf} {ids : List Nat} (l : List Nat) (h : ExtI m μ i m' μ i') : ExtI m (sub ids μ) (sub ids i) m' (sub (ids ++ l) μ) (sub (ids ++ l) i') := by
  have hp : ∀ k x, ids[k]? = some x → (ids ++ l)[k]? = some x := fun k x hk => by rw [List.getElem?_append_left (List.getElem?_eq_some_iff.1 hk).1]; exact hk
  refine ⟨h.mem, fun k loc h1 h2 => ?_, fun k loc g sz h1 h2 => ?_⟩
  · unfold sub at h1 h2 ⊢
    cases hk : ids[k]? with
    | none => rw [hk] at h1; cases h1
    | some x =>
      rw [hk] at h1 h2
      rw [hp k x hk]
      exact h.box x loc h1 h2
  · unfold sub at h1 h2 ⊢
    cases hk : ids[k]? with
    | none => rw [hk] at h1; cases h1
    | some x =>
      rw [hk] at h1 h2
      rw [hp k x hk]
      exact h.arr x loc g sz h1 h2
theorem ExtI.refl (m : Mem) (μ : Mu) (i : Inf) : ExtI m μ i m μ i :=
  ⟨fun _ _ _ h => h, fun _ _ h h' => ⟨h, h'⟩, fun _ loc g _ h h' => ⟨loc, g, h, h', Nat.le_refl _, fun _ => rfl⟩⟩
theorem Exp.id_spec {e e' : Exp} {id k : Nat} (h : e.id id = (k, e')) : e'.G = e.G ∧ e'.ids[k]? = some id ∧ (∃ l, e'.ids = e.ids ++ l) ∧ ∀ μ : Mu, IdsOK μ e.ids → (∃ loc, μ id = some loc) → IdsOK μ e'.ids := by
  unfold Exp.id at h
  cases hi : idxOf e.ids id with
  | some j =>
    rw [hi] at h
    cases h
    exact ⟨rfl, idxOf_some hi, ⟨[], by simp⟩, fun μ h _ => h⟩
  | none =>
    rw [hi] at h
    cases h
    refine ⟨rfl, by simp, ⟨[id], rfl⟩, fun μ h hm => ⟨?_, ?_⟩⟩
    · rw [List.nodup_append]
      refine ⟨h.nodup, by simp, fun a ha b hb => ?_⟩
      simp at hb
      subst hb
      exact fun e => idxOf_none hi (e ▸ ha)
    · intro x hx
      rcases List.mem_append.1 hx with h1 | h1
      · exact h.mapped x h1
      · simp at h1; subst h1; exact hm
structure ExpOK (μ : Mu) (w : World) (m : Mem) (e : Exp) (m' : Mem) (e' : Exp) : Prop where
  inv : Inv m' μ e'.G w
  stp : Stp m μ e.G w m' μ e'.G w
  ids : ∃ l, e'.ids = e.ids ++ l
  ok : IdsOK μ e'.ids
theorem ExpOK.trans {μ : Mu} {w : World} {m m' m'' : Mem} {e e' e'' : Exp} (h : ExpOK μ w m e m' e') (h' : ExpOK μ w m' e' m'' e'') : ExpOK μ w m e m'' e'' := by
  obtain ⟨l, hl⟩ := h.ids
  obtain ⟨l', hl'⟩ := h'.ids
  exact ⟨h'.inv, h.stp.trans h'.stp, ⟨l ++ l', by rw [hl', hl, List.append_assoc]⟩, h'.ok⟩
theorem ExpOK.ext {μ : Mu} {w : World} {m m' : Mem} {e e' : Exp} (h : ExpOK μ w m e m' e') : ExtI m (sub e.ids μ) (sub e.ids (inf e.G)) m' (sub e'.ids μ) (sub e'.ids (inf e'.G)) := by
  obtain ⟨l, hl⟩ := h.ids
  rw [hl]
  exact sub_ext l h.stp.ext
theorem ExpOK.refl {μ : Mu} {w : World} {m : Mem} {e : Exp} (h : Inv m μ e.G w) (hk : IdsOK μ e.ids) : ExpOK μ w m e m e := ⟨h, .refl _ _ _ _, ⟨[], by simp⟩, hk⟩
theorem RL.monoI {m m' : Mem} {μ μ' : Mu} {i i' : Inf} (h : ExtI m μ i m' μ' i') {vs : List Value} {l : List AV} (hr : RL m μ i vs l) : RL m' μ' i' vs l :=
  ⟨hr.1, fun j v c h1 h2 => (hr.2 j v c h1 h2).monoI h⟩
theorem ExpOK.id {μ : Mu} {w : World} {m : Mem} {e e' : Exp} {id k : Nat} (h : e.id id = (k, e')) (hI : Inv m μ e.G w) (hk : IdsOK μ e.ids) (hm : ∃ loc, μ id = some loc) : ExpOK μ w m e m e' := by
  obtain ⟨h1, h2, h3, h4⟩ := Exp.id_spec h
  exact ⟨by rw [h1]; exact hI, by rw [h1]; exact .refl _ _ _ _, h3, h4 μ hk hm⟩
theorem R.fnInv {m : Mem} {μ : Mu} {i : Inf} {v : Value} {f : Nat} {x y : List AV} (h : R m μ i v (.fn f x y)) : ∃ a b, v = .func (.func f) a b ∧ RL m μ i a.toList x ∧ RL m μ i b.toList y := by
  cases h with | fn f a a' b b' ha hb hra hrb => exact ⟨a, b, rfl, .ofArr ha hra, .ofArr hb hrb⟩
theorem R.fnOf {m : Mem} {μ : Mu} {i : Inf} {f : Nat} {a b : Array Value} {x y : List AV} (ha : RL m μ i a.toList x) (hb : RL m μ i b.toList y) : R m μ i (.func (.func f) a b) (.fn f x y) :=
  .fn f a x b y (by simpa using ha.1) (by simpa using hb.1) (fun j v c h1 h2 => ha.2 j v c (by simpa using h1) h2) (fun j v c h1 h2 => hb.2 j v c (by simpa using h1) h2)
mutual
theorem exp_sound {μ : Mu} {w : World} (keep : Bool) : ∀ (a : AV) {m : Mem} {e e' : Exp} {a' : AV} {z : Value}, Inv m μ e.G w → IdsOK μ e.ids → exp keep e a = some (a', e') → R m μ (inf e.G) z a →
    ∃ m', ExpOK μ w m e m' e' ∧ R m' (sub e'.ids μ) (sub e'.ids (inf e'.G)) z a' ∧ (keep = true → e'.G = e.G ∧ m' = m)
  | .p x, m, e, e', a', z, hI, hk, h, hr => by
    simp [exp] at h
    obtain ⟨rfl, rfl⟩ := h
    cases hr with | p _ _ hp => exact ⟨m, .refl hI hk, .p _ _ hp, fun _ => ⟨rfl, rfl⟩⟩
  | .nils, m, e, e', a', z, hI, hk, h, hr => by
    cases hr
    simp only [exp] at h
    split at h
    · cases h; exact ⟨m, .refl hI hk, .nils, fun _ => ⟨rfl, rfl⟩⟩
    · rename_i hkk
      cases h
      exact ⟨m, .refl hI hk, .p _ _ (.sl none 0 [] 0 (fun _ _ => undef) (Nat.le_refl _) rfl (fun h => absurd rfl h) (fun i j r c h => by simp at h)), fun h => absurd h hkk⟩
  | .undef, m, e, e', a', z, hI, hk, h, hr => by
    simp [exp] at h
    obtain ⟨rfl, rfl⟩ := h
    cases hr
    exact ⟨m, .refl hI hk, .undef, fun _ => ⟨rfl, rfl⟩⟩
  | .rp cs, m, e, e', a', z, hI, hk, h, hr => by
    simp [exp] at h
    obtain ⟨rfl, rfl⟩ := h
    cases hr with | rp b o cells f hc => exact ⟨m, .refl hI hk, .rp b o cs f hc, fun _ => ⟨rfl, rfl⟩⟩
  | .arr id len gen, m, e, e', a', z, hI, hk, h, hr => by
    simp only [exp] at h
    split at h
    · cases hid : e.id id with | mk k e1 =>
      rw [hid] at h
      cases h
      cases hr with | arr _ _ _ ad n c loc g sz h1 h2 h3 h4 =>
      obtain ⟨g1, g2, g3, g4⟩ := Exp.id_spec hid
      refine ⟨m, .id hid hI hk ⟨loc, h1⟩, .arr k len gen ad n c loc g sz ?_ ?_ h3 h4, fun _ => ⟨g1, rfl⟩⟩
      · simp [sub, g2, h1]
      · simp [sub, g2, g1, h2]
    · rename_i hkk
      split at h
      · rename_i v G1 hn
        cases h
        obtain ⟨m', hI', hS, hr'⟩ := norm_sound (.arr id len gen) hI hn hr
        refine ⟨m', ⟨hI', hS, ⟨[], by simp⟩, hk⟩, ?_, fun h => absurd h hkk⟩
        simp only [norm] at hn
        split at hn
        · split at hn
          · cases hn
            cases hr' with | p _ _ hp => exact .p _ _ hp
          · cases hn
        · cases hn
      · cases h
  | .ptr id off, m, e, e', a', z, hI, hk, h, hr => by
    simp only [exp] at h
    cases hid : e.id id with | mk k e1 =>
    rw [hid] at h
    cases h
    cases hr with | ptr _ _ loc h1 h2 =>
    obtain ⟨g1, g2, g3, g4⟩ := Exp.id_spec hid
    exact ⟨m, .id hid hI hk ⟨loc, h1⟩, .ptr k off loc (by simp [sub, g2, h1]) (by simp [sub, g2, g1, h2]), fun _ => ⟨g1, rfl⟩⟩
  | .eptr id idx off gen, m, e, e', a', z, hI, hk, h, hr => by
    simp only [exp] at h
    cases hid : e.id id with | mk k e1 =>
    rw [hid] at h
    cases h
    cases hr with | eptr _ _ _ _ ad loc g sz h1 h2 h3 h4 =>
    obtain ⟨g1, g2, g3, g4⟩ := Exp.id_spec hid
    exact ⟨m, .id hid hI hk ⟨loc, h1⟩, .eptr k idx off gen ad loc g sz (by simp [sub, g2, h1]) (by simp [sub, g2, g1, h2]) h3 h4, fun _ => ⟨g1, rfl⟩⟩
  | .ag cs, m, e, e', a', z, hI, hk, h, hr => by
    simp only [exp] at h
    split at h
    · rename_i vs e1 hn
      cases h
      obtain ⟨ca, rfl, h1, h2⟩ := hr.ag_inv
      obtain ⟨m', hx, hr', hkk⟩ := expL_sound keep cs hI hk hn (RL.ofArr h1 h2)
      exact ⟨m', hx, .agOf hr', hkk⟩
    · cases h
  | .tup cs, m, e, e', a', z, hI, hk, h, hr => by
    simp only [exp] at h
    split at h
    · rename_i vs e1 hn
      cases h
      obtain ⟨ca, rfl, h1, h2⟩ := hr.tup_inv
      obtain ⟨m', hx, hr', hkk⟩ := expL_sound keep cs hI hk hn (RL.ofArr h1 h2)
      exact ⟨m', hx, .tupOf hr', hkk⟩
    · cases h
  | .ifc t x, m, e, e', a', z, hI, hk, h, hr => by
    simp only [exp] at h
    split at h
    · rename_i y e1 hn
      cases h
      cases hr with | ifc _ z' _ hr =>
      obtain ⟨m', hx, hr', hkk⟩ := exp_sound keep x hI hk hn hr
      exact ⟨m', hx, .ifc _ _ _ hr', hkk⟩
    · cases h
  | .fn f x y, m, e, e', a', z, hI, hk, h, hr => by
    simp only [exp] at h
    split at h
    · cases h
    · rename_i x' e1 hx
      split at h
      · cases h
      · rename_i y' e2 hy
        cases h
        obtain ⟨a, b, rfl, ha, hb⟩ := hr.fnInv
        obtain ⟨m1, hx1, hr1, hk1⟩ := expL_sound true x hI hk hx ha
        obtain ⟨m2, hx2, hr2, hk2⟩ := expL_sound true y hx1.inv hx1.ok hy (hb.mono hx1.stp.ext)
        obtain ⟨e1G, rfl⟩ := hk1 rfl
        obtain ⟨e2G, rfl⟩ := hk2 rfl
        exact ⟨m2, hx1.trans hx2, .fnOf (hr1.monoI hx2.ext) hr2, fun _ => ⟨e2G.trans e1G, rfl⟩⟩
  | .map id, m, e, e', a', z, hI, hk, h, hr => by
    simp only [exp] at h
    cases hid : e.id id with | mk k e1 =>
    rw [hid] at h
    cases h
    cases hr with | map _ loc h1 h2 =>
    obtain ⟨g1, g2, g3, g4⟩ := Exp.id_spec hid
    exact ⟨m, .id hid hI hk ⟨loc, h1⟩, .map k loc (by simp [sub, g2, h1]) (by simp [sub, g2, g1, h2]), fun _ => ⟨g1, rfl⟩⟩
  | .yld id, m, e, e', a', z, hI, hk, h, hr => by
    simp only [exp] at h
    cases hid : e.id id with | mk k e1 =>
    rw [hid] at h
    cases h
    cases hr with | yld _ loc h1 h2 =>
    obtain ⟨g1, g2, g3, g4⟩ := Exp.id_spec hid
    exact ⟨m, .id hid hI hk ⟨loc, h1⟩, .yld k loc (by simp [sub, g2, h1]) (by simp [sub, g2, g1, h2]), fun _ => ⟨g1, rfl⟩⟩
  | .nmap, m, e, e', a', z, hI, hk, h, hr => by
    simp [exp] at h
    obtain ⟨rfl, rfl⟩ := h
    cases hr
    exact ⟨m, .refl hI hk, .nmap, fun _ => ⟨rfl, rfl⟩⟩
  | .clip rows, m, e, e', a', z, hI, hk, h, hr => by
    simp only [exp, Option.some.injEq, Prod.mk.injEq] at h
    obtain ⟨rfl, rfl⟩ := h
    cases hr with | clip a _ hp =>
    refine ⟨m, .refl hI hk, ?_, fun _ => ⟨rfl, rfl⟩⟩
    split
    · exact .clip a rows hp
    · exact .p _ _ hp
theorem expL_sound {μ : Mu} {w : World} (keep : Bool) : ∀ (l : List AV) {m : Mem} {e e' : Exp} {l' : List AV} {zs : List Value}, Inv m μ e.G w → IdsOK μ e.ids → expL keep e l = some (l', e') → RL m μ (inf e.G) zs l →
    ∃ m', ExpOK μ w m e m' e' ∧ RL m' (sub e'.ids μ) (sub e'.ids (inf e'.G)) zs l' ∧ (keep = true → e'.G = e.G ∧ m' = m)
  | [], m, e, e', l', zs, hI, hk, h, hr => by
    simp [expL] at h
    obtain ⟨rfl, rfl⟩ := h
    rw [hr.inv_nil]
    exact ⟨m, .refl hI hk, .nil, fun _ => ⟨rfl, rfl⟩⟩
  | a :: r, m, e, e', l', zs, hI, hk, h, hr => by
    simp only [expL] at h
    split at h
    · cases h
    · rename_i v e1 hn
      split at h
      · cases h
      · rename_i vs e2 hn2
        cases h
        obtain ⟨z, zs, rfl, hz, hr⟩ := hr.inv_cons
        obtain ⟨m1, hx1, hz1, hk1⟩ := exp_sound keep a hI hk hn hz
        obtain ⟨m2, hx2, hr2, hk2⟩ := expL_sound keep r hx1.inv hx1.ok hn2 (hr.mono hx1.stp.ext)
        refine ⟨m2, hx1.trans hx2, .cons (hz1.monoI hx2.ext) hr2, fun h => ?_⟩
        obtain ⟨a1, a2⟩ := hk1 h
        obtain ⟨b1, b2⟩ := hk2 h
        exact ⟨b1.trans a1, b2.trans a2⟩
end
theorem exp_flat {keep : Bool} : ∀ {a a' : AV} {e e' : Exp}, exp keep e a = some (a', e') → a.flat = true → a'.flat = true := by
  intro a a' e e' h hf
  cases a with
  | p x => simp [exp] at h; obtain ⟨rfl, _⟩ := h; exact hf
  | nils => simp only [exp] at h; split at h <;> (cases h; rfl)
  | undef => simp [AV.flat] at hf
  | rp cs => simp [exp] at h; obtain ⟨rfl, _⟩ := h; rfl
  | arr id len gen =>
    simp only [exp] at h
    split at h
    · cases h; rfl
    · split at h
      · rename_i v G1 hn
        cases h
        simp only [norm] at hn
        split at hn
        · split at hn
          · cases hn; rfl
          · cases hn
        · cases hn
      · cases h
  | ptr => simp only [exp] at h; cases h; rfl
  | eptr => simp only [exp] at h; cases h; rfl
  | ag => simp [AV.flat] at hf
  | tup => simp [AV.flat] at hf
  | ifc t x => simp only [exp] at h; split at h <;> first | (cases h; rfl) | cases h
  | fn f x y =>
    simp only [exp] at h
    split at h
    · cases h
    · split at h
      · cases h
      · cases h; rfl
  | map => simp only [exp] at h; cases h; rfl
  | yld => simp only [exp] at h; cases h; rfl
  | nmap => simp only [exp] at h; cases h; rfl
  | clip rows => simp only [exp] at h; cases h; split <;> rfl
theorem expL_flat {keep : Bool} : ∀ {l l' : List AV} {e e' : Exp}, expL keep e l = some (l', e') → l.all AV.flat = true → l'.all AV.flat = true
  | [], l', e, e', h, hf => by simp [expL] at h; obtain ⟨rfl, _⟩ := h; rfl
  | a :: r, l', e, e', h, hf => by
    simp only [expL] at h
    split at h
    · cases h
    · rename_i v e1 hn
      split at h
      · cases h
      · rename_i vs e2 hn2
        cases h
        simp only [List.all_cons, Bool.and_eq_true] at hf ⊢
        exact ⟨exp_flat hn hf.1, expL_flat hn2 hf.2⟩
structure ObjsOK (μ : Mu) (w : World) (m : Mem) (e : Exp) (k : Nat) (os : Heap) (e' : Exp) : Prop where
  G : e'.G = e.G
  ids : ∃ l, e'.ids = e.ids ++ l
  ok : IdsOK μ e'.ids
  len : e'.ids.length = k + os.length
  obj : ∀ (j : Nat) (o : AObj), os[j]? = some o → ∃ id o0, e'.ids[k + j]? = some id ∧ e.G[id]? = some o0 ∧ infO o = infO o0 ∧ ∀ loc, μ id = some loc → ObjR m (sub e'.ids μ) (sub e'.ids (inf e.G)) w loc o
theorem zip_env {m : Mem} {μ : Mu} {i : Inf} {tmps : Array Value} {env : Env} {vs : List AV} (h : RL m μ i (env.map fun p => tmps.getD p.1 undef) vs) : ∀ p, p ∈ (env.map (·.1)).zip vs → R m μ i (tmps.getD p.1 undef) p.2 := by
  intro p hp
  obtain ⟨j, hj⟩ := List.mem_iff_getElem?.1 hp
  rw [List.getElem?_zip_eq_some] at hj
  obtain ⟨h1, h2⟩ := hj
  simp only [List.getElem?_map, Option.map_eq_some_iff] at h1
  obtain ⟨q, h3, h4⟩ := h1
  have := h.2 j (tmps.getD q.1 undef) p.2 (by simp [h3]) h2
  rw [← h4]; exact this
theorem expObjs_sound {μ : Mu} {w : World} {m : Mem} : ∀ (fuel : Nat) {e e' : Exp} {k : Nat} {os : Heap}, Inv m μ e.G w → IdsOK μ e.ids → k ≤ e.ids.length → expObjs fuel e k = some (os, e') → ObjsOK μ w m e k os e'
  | 0, e, e', k, os, hI, hk, hle, h => by
    simp only [expObjs] at h
    split at h
    · cases h
    · cases h
      exact ⟨rfl, ⟨[], by simp⟩, hk, by simp; omega, fun j o h => by simp at h⟩
  | fuel + 1, e, e', k, os, hI, hk, hle, h => by
    simp only [expObjs] at h
    split at h
    · rename_i hn
      cases h
      have := List.getElem?_eq_none_iff.1 hn
      exact ⟨rfl, ⟨[], by simp⟩, hk, by simp; omega, fun j o h => by simp at h⟩
    · rename_i id hid
      have hlt : k < e.ids.length := (List.getElem?_eq_some_iff.1 hid).1
      split at h
      · cases h
      · rename_i sz rows g sl hG
        split at h
        · cases h
        · rename_i os' e1 hr
          cases h
          have r := expObjs_sound fuel hI hk hlt hr
          obtain ⟨l, hl⟩ := r.ids
          refine ⟨r.G, r.ids, r.ok, by rw [r.len]; simp; omega, fun j o hj => ?_⟩
          cases j with
          | zero =>
            simp at hj
            subst hj
            refine ⟨id, _, by rw [hl, Nat.add_zero, List.getElem?_append_left hlt]; exact hid, hG, rfl, fun loc hloc => ?_⟩
            exact hI.obj id _ hG loc hloc
          | succ j =>
            simp at hj
            have := r.obj j o hj
            rwa [show k + 1 + j = k + (j + 1) by omega] at this
      · rename_i cs hG
        split at h
        · cases h
        · rename_i cs' e1 hx
          split at h
          · cases h
          · rename_i os' e2 hr
            cases h
            have hE : ∀ zs, RL m μ (inf e.G) zs cs → ∃ m', ExpOK μ w m e m' e1 ∧ RL m' (sub e1.ids μ) (sub e1.ids (inf e1.G)) zs cs' ∧ (true = true → e1.G = e.G ∧ m' = m) := fun zs hz => expL_sound true cs hI hk hx hz
            have hmap : ∃ loc, μ id = some loc := hk.mapped id (List.mem_iff_getElem?.2 ⟨k, hid⟩)
            obtain ⟨loc, hloc⟩ := hmap
            obtain ⟨ca, T, h1, h2, h3, h4, h5⟩ := hI.obj id _ hG loc hloc
            obtain ⟨m', hx1, hr1, hkk⟩ := hE ca.toList (.ofArr h2 h3)
            obtain ⟨hG1, rfl⟩ := hkk rfl
            obtain ⟨l1, hl1⟩ := hx1.ids
            have hlt1 : k < e1.ids.length := by rw [hl1]; simp; omega
            have r := expObjs_sound fuel hx1.inv hx1.ok hlt1 hr
            obtain ⟨l, hl⟩ := r.ids
            refine ⟨r.G.trans hG1, ⟨l1 ++ l, by rw [hl, hl1, List.append_assoc]⟩, r.ok, by rw [r.len]; simp; omega, fun j o hj => ?_⟩
            cases j with
            | zero =>
              simp at hj
              subst hj
              refine ⟨id, _, by rw [hl, hl1, Nat.add_zero, List.append_assoc, List.getElem?_append_left hlt]; exact hid, hG, rfl, fun loc' hloc' => ?_⟩
              rw [hloc] at hloc'
              cases hloc'
              have hr2 : RL m' (sub e'.ids μ) (sub e'.ids (inf e.G)) ca.toList cs' := by
                rw [hl, ← hG1]
                exact hr1.monoI (sub_ext l (.refl _ _ _))
              exact ⟨ca, T, h1, by simpa using hr2.1, fun j v a g1 g2 => hr2.2 j v a (by simpa using g1) g2, expL_flat hx h4, h5⟩
            | succ j =>
              simp at hj
              obtain ⟨id', o0, a1, a2, a3, a4⟩ := r.obj j o hj
              rw [show k + 1 + j = k + (j + 1) by omega] at a1
              exact ⟨id', o0, a1, by rw [← hG1]; exact a2, a3, fun loc hl => by rw [← hG1]; exact a4 loc hl⟩
      · rename_i ents hG
        split at h
        · cases h
        · rename_i os' e1 hr
          cases h
          have r := expObjs_sound fuel hI hk hlt hr
          obtain ⟨l, hl⟩ := r.ids
          refine ⟨r.G, r.ids, r.ok, by rw [r.len]; simp; omega, fun j o hj => ?_⟩
          cases j with
          | zero =>
            simp at hj
            subst hj
            refine ⟨id, _, by rw [hl, Nat.add_zero, List.getElem?_append_left hlt]; exact hid, hG, rfl, fun loc hloc => ?_⟩
            exact hI.obj id _ hG loc hloc
          | succ j =>
            simp at hj
            have := r.obj j o hj
            rwa [show k + 1 + j = k + (j + 1) by omega] at this
      · rename_i dg dsz hG
        split at h
        · cases h
        · rename_i os' e1 hr
          cases h
          have r := expObjs_sound fuel hI hk hlt hr
          obtain ⟨l, hl⟩ := r.ids
          refine ⟨r.G, r.ids, r.ok, by rw [r.len]; simp; omega, fun j o hj => ?_⟩
          cases j with
          | zero =>
            simp at hj
            subst hj
            refine ⟨id, _, by rw [hl, Nat.add_zero, List.getElem?_append_left hlt]; exact hid, hG, rfl, fun loc hloc => ?_⟩
            exact hI.obj id _ hG loc hloc
          | succ j =>
            simp at hj
            have := r.obj j o hj
            rwa [show k + 1 + j = k + (j + 1) by omega] at this
      · rename_i ps ag bd env st pend hG
        split at h
        · cases h
        · rename_i vs e1 hx
          split at h
          · cases h
          · rename_i os' e2 hr
            cases h
            obtain ⟨loc, hloc⟩ := hk.mapped id (List.mem_iff_getElem?.2 ⟨k, hid⟩)
            obtain ⟨rc, N, h1, h2, h3, h4, h5, hdd, h6, h7, h8, h9, h10⟩ := hI.obj id _ hG loc hloc
            have hzs : RL m μ (inf e.G) (env.map fun p => rc.tmps.getD p.1 undef) (env.map (·.2)) := by
              refine ⟨by simp, fun j v c g1 g2 => ?_⟩
              simp only [List.getElem?_map, Option.map_eq_some_iff] at g1 g2
              obtain ⟨p, q1, rfl⟩ := g1
              obtain ⟨p', q2, rfl⟩ := g2
              rw [q1] at q2
              cases q2
              exact h7 p (List.mem_iff_getElem?.2 ⟨j, q1⟩)
            obtain ⟨m', hx1, hr1, hkk⟩ := expL_sound true (env.map (·.2)) hI hk hx hzs
            obtain ⟨hG1, rfl⟩ := hkk rfl
            obtain ⟨l1, hl1⟩ := hx1.ids
            have hlt1 : k < e1.ids.length := by rw [hl1]; simp; omega
            have r := expObjs_sound fuel hx1.inv hx1.ok hlt1 hr
            obtain ⟨l, hl⟩ := r.ids
            refine ⟨r.G.trans hG1, ⟨l1 ++ l, by rw [hl, hl1, List.append_assoc]⟩, r.ok, by rw [r.len]; simp; omega, fun j o hj => ?_⟩
            cases j with
            | zero =>
              simp at hj
              subst hj
              refine ⟨id, _, by rw [hl, hl1, Nat.add_zero, List.append_assoc, List.getElem?_append_left hlt]; exact hid, hG, rfl, fun loc' hloc' => ?_⟩
              rw [hloc] at hloc'
              cases hloc'
              have hr2 : RL m' (sub e'.ids μ) (sub e'.ids (inf e.G)) (env.map fun p => rc.tmps.getD p.1 undef) vs := by
                rw [hl, ← hG1]
                exact hr1.monoI (sub_ext l (.refl _ _ _))
              exact ⟨rc, N, h1, h2, h3, h4, h5, hdd, h6, zip_env hr2, h8, h9, h10⟩
            | succ j =>
              simp at hj
              obtain ⟨id', o0, a1, a2, a3, a4⟩ := r.obj j o hj
              rw [show k + 1 + j = k + (j + 1) by omega] at a1
              exact ⟨id', o0, a1, by rw [← hG1]; exact a2, a3, fun loc hl => by rw [← hG1]; exact a4 loc hl⟩
theorem expObjs_inv {μ : Mu} {w : World} {m : Mem} {fuel : Nat} {e e' : Exp} {os : Heap} (hI : Inv m μ e.G w) (hk : IdsOK μ e.ids) (h : expObjs fuel e 0 = some (os, e')) :
    Inv m (sub e'.ids μ) os w ∧ (∀ k, k < os.length → ∃ l, sub e'.ids μ k = some l) ∧ inf os = sub e'.ids (inf e.G) ∧ e'.G = e.G ∧ (∃ l, e'.ids = e.ids ++ l) ∧ IdsOK μ e'.ids ∧ e'.ids.length = os.length := by
  have r := expObjs_sound fuel hI hk (Nat.zero_le _) h
  have hlen : e'.ids.length = os.length := by rw [r.len]; omega
  have hinf : inf os = sub e'.ids (inf e.G) := by
    funext k
    unfold inf sub
    by_cases hlt : k < os.length
    · obtain ⟨id, o0, a1, a2, a3, a4⟩ := r.obj k _ (List.getElem?_eq_getElem hlt)
      simp at a1
      rw [a1, List.getElem?_eq_getElem hlt]
      simp [a2, a3]
    · rw [List.getElem?_eq_none (by omega), List.getElem?_eq_none (by omega)]; rfl
  refine ⟨⟨hI.known, ?_, ?_, ?_, hI.glob.sub fun id loc hl => by
    unfold sub at hl
    cases hi : e'.ids[id]? with
    | none => rw [hi] at hl; cases hl
    | some x => rw [hi] at hl; exact ⟨x, hl⟩⟩, ?_, hinf, r.G, r.ids, r.ok, hlen⟩
  · intro i j l l' h1 h2 he
    unfold sub at h1 h2
    cases hi : e'.ids[i]? with
    | none => rw [hi] at h1; cases h1
    | some x =>
      cases hj : e'.ids[j]? with
      | none => rw [hj] at h2; cases h2
      | some y =>
        rw [hi] at h1
        rw [hj] at h2
        have hxy := hI.inj x y l l' h1 h2 he
        subst hxy
        exact (List.getElem?_inj (List.getElem?_eq_some_iff.1 hi).1 r.ok.nodup).1 (hi.trans hj.symm)
  · intro k o hko loc hloc
    obtain ⟨id, o0, a1, a2, a3, a4⟩ := r.obj k o hko
    simp at a1
    unfold sub at hloc
    rw [a1] at hloc
    rw [hinf]
    exact a4 loc hloc
  · intro k loc hloc
    unfold sub at hloc
    cases hi : e'.ids[k]? with
    | none => rw [hi] at hloc; cases hloc
    | some x => rw [← hlen]; exact (List.getElem?_eq_some_iff.1 hi).1
  · intro k hlt
    have : k < e'.ids.length := by omega
    unfold sub
    rw [List.getElem?_eq_getElem this]
    exact r.ok.mapped _ (List.getElem_mem this)
end Go.Proofs.Z
end
section
namespace Go.Proofs.Z
open Go
variable [hP : HasP]
def Ren (μ : Mu) (i : Inf) (μ' : Mu) (i' : Inf) (r : Nat → Nat) : Prop := ∀ id loc, μ id = some loc → μ' (r id) = some loc ∧ i' (r id) = i id
mutual
theorem back_sound {m : Mem} {μ μ' : Mu} {i i' : Inf} {ids : List Nat} {base : Nat} (h : Ren μ i μ' i' (backId ids base)) : ∀ (a : AV) {z : Value}, R m μ i z a → R m μ' i' z (back ids base a)
  | .p x, z, hr => by cases hr with | p _ _ hp => exact .p _ _ hp
  | .nils, z, hr => by cases hr; exact .nils
  | .undef, z, hr => by cases hr; exact .undef
  | .rp cs, z, hr => by cases hr with | rp b o cells f hc => exact .rp b o cs f hc
  | .arr id len gen, z, hr => by
    cases hr with | arr _ _ _ ad n c loc g sz h1 h2 h3 h4 =>
    obtain ⟨a1, a2⟩ := h id loc h1
    exact .arr _ len gen ad n c loc g sz a1 (a2.trans h2) h3 h4
  | .ptr id off, z, hr => by
    cases hr with | ptr _ _ loc h1 h2 =>
    obtain ⟨a1, a2⟩ := h id loc h1
    exact .ptr _ off loc a1 (a2.trans h2)
  | .eptr id idx off gen, z, hr => by
    cases hr with | eptr _ _ _ _ ad loc g sz h1 h2 h3 h4 =>
    obtain ⟨a1, a2⟩ := h id loc h1
    exact .eptr _ idx off gen ad loc g sz a1 (a2.trans h2) h3 h4
  | .ag cs, z, hr => by
    obtain ⟨ca, rfl, h1, h2⟩ := hr.ag_inv
    exact .agOf (backL_sound h cs (RL.ofArr h1 h2))
  | .tup cs, z, hr => by
    obtain ⟨ca, rfl, h1, h2⟩ := hr.tup_inv
    exact .tupOf (backL_sound h cs (RL.ofArr h1 h2))
  | .ifc t x, z, hr => by
    cases hr with | ifc _ z' _ hr => exact .ifc _ _ _ (back_sound h x hr)
  | .fn f x y, z, hr => by
    obtain ⟨a, b, rfl, ha, hb⟩ := hr.fnInv
    exact .fnOf (backL_sound h x ha) (backL_sound h y hb)
  | .map id, z, hr => by
    cases hr with | map _ loc h1 h2 =>
    obtain ⟨a1, a2⟩ := h id loc h1
    exact .map _ loc a1 (a2.trans h2)
  | .yld id, z, hr => by
    cases hr with | yld _ loc h1 h2 =>
    obtain ⟨a1, a2⟩ := h id loc h1
    exact .yld _ loc a1 (a2.trans h2)
  | .nmap, z, hr => by cases hr; exact .nmap
  | .clip rows, z, hr => by cases hr with | clip a _ hp => exact .clip a rows hp
theorem backL_sound {m : Mem} {μ μ' : Mu} {i i' : Inf} {ids : List Nat} {base : Nat} (h : Ren μ i μ' i' (backId ids base)) : ∀ (l : List AV) {zs : List Value}, RL m μ i zs l → RL m μ' i' zs (backL ids base l)
  | [], zs, hr => by rw [hr.inv_nil]; exact .nil
  | a :: r, zs, hr => by
    obtain ⟨z, zs, rfl, hz, hr⟩ := hr.inv_cons
    exact .cons (back_sound h a hz) (backL_sound h r hr)
end
theorem back_flat {ids : List Nat} {base : Nat} (a : AV) : (back ids base a).flat = a.flat := by cases a <;> rfl
theorem backL_flat {ids : List Nat} {base : Nat} : ∀ (l : List AV), (backL ids base l).all AV.flat = l.all AV.flat
  | [] => rfl
  | a :: r => by simp [backL, back_flat, backL_flat r]
theorem infO_back {ids : List Nat} {base : Nat} (o : AObj) : infO (backObj ids base o) = infO o := by cases o <;> rfl
theorem backObj_sound {m : Mem} {μ μ' : Mu} {i i' : Inf} {ids : List Nat} {base : Nat} {w : World} {loc : Loc} (h : Ren μ i μ' i' (backId ids base)) {o : AObj} (ho : ObjR m μ i w loc o) : ObjR m μ' i' w loc (backObj ids base o) := by
  cases o with
  | box ty cells =>
    obtain ⟨cs, T, h1, h2, h3, h4, h5⟩ := ho
    have := backL_sound h cells (RL.ofArr h2 h3)
    exact ⟨cs, T, h1, by simpa using this.1, fun j v a g1 g2 => this.2 j v a (by simpa using g1) g2, by rw [backL_flat]; exact h4, h5⟩
  | arr ty sz rows g sl => exact ho
  | map ents => exact ho
  | dead g sz => exact ho
  | frm ps ag bd env st pend =>
    obtain ⟨rc, N, h1, h2, h3, h4, h5, hdd, h6, h7, h8, h9, h10⟩ := ho
    refine ⟨rc, N, h1, h2, h3, h4, h5, hdd, h6, zip_env (backL_sound h _ ⟨by simp, fun j v c g1 g2 => ?_⟩), h8, h9, h10⟩
    simp only [List.getElem?_map, Option.map_eq_some_iff] at g1 g2
    obtain ⟨p, q1, rfl⟩ := g1
    obtain ⟨p', q2, rfl⟩ := g2
    rw [q1] at q2
    cases q2
    exact h7 p (List.mem_iff_getElem?.2 ⟨j, q1⟩)
theorem setAll_length {ids : List Nat} {base : Nat} : ∀ (l : List Nat) (G os : Heap), (setAll ids base G l os).length = G.length
  | [], G, os => by simp [setAll]
  | id :: r, G, [] => by simp [setAll]
  | id :: r, G, o :: os => by simp [setAll, setAll_length r]
theorem setAll_other {ids : List Nat} {base : Nat} : ∀ (l : List Nat) (G os : Heap) (x : Nat), x ∉ l → (setAll ids base G l os)[x]? = G[x]?
  | [], G, os, x, h => by simp [setAll]
  | id :: r, G, [], x, h => by simp [setAll]
  | id :: r, G, o :: os, x, h => by
    simp only [List.mem_cons, not_or] at h
    simp only [setAll]
    rw [setAll_other r _ os x h.2, List.getElem?_set, if_neg (Ne.symm h.1)]
theorem setAll_at {ids : List Nat} {base : Nat} : ∀ (l : List Nat) (G os : Heap) (k x : Nat) (o : AObj), l.Nodup → l[k]? = some x → x < G.length → os[k]? = some o → (setAll ids base G l os)[x]? = some (backObj ids base o)
  | [], G, os, k, x, o, hn, hk, hx, ho => by simp at hk
  | id :: r, G, [], k, x, o, hn, hk, hx, ho => by simp at ho
  | id :: r, G, o' :: os, k, x, o, hn, hk, hx, ho => by
    simp only [List.nodup_cons] at hn
    simp only [setAll]
    cases k with
    | zero =>
      simp at hk ho
      subst hk
      subst ho
      rw [setAll_other r _ os _ hn.1]
      simp [hx]
    | succ k =>
      simp at hk ho
      exact setAll_at r _ os k x o hn.2 hk (by simpa using hx) ho
def OutR (m : Mem) (μ : Mu) (i : Inf) : Out → Ending → Prop
  | .ret a, .returned v => R m μ i v a
  | .pan a, .panicked chain => ∃ v, chain = [{ v := v, recovered := false }] ∧ R m μ i v a
  | _, _ => False
theorem OutR.back {m : Mem} {μ μ' : Mu} {i i' : Inf} {ids : List Nat} {base : Nat} (h : Ren μ i μ' i' (backId ids base)) {o : Out} {e : Ending} (ho : OutR m μ i o e) : OutR m μ' i' (o.back ids base) e := by
  cases o <;> cases e <;> first | exact back_sound h _ ho | exact ho.elim | skip
  obtain ⟨v, h1, h2⟩ := ho
  exact ⟨v, h1, back_sound h _ h2⟩
theorem back_step {m : Mem} {μ : Mu} {G os os' : Heap} {w w' : World} {ids : List Nat} {m' : Mem} {μ2 : Mu} (hI : Inv m μ G w) (hk : IdsOK μ ids) (hos : inf os = sub ids (inf G)) (hlen : ids.length = os.length)
    (htot : ∀ k, k < os.length → ∃ l, sub ids μ k = some l) (hI' : Inv m' μ2 os' w') (hS : Stp m (sub ids μ) os w m' μ2 os' w') :
    ∃ μ', Inv m' μ' (setAll ids G.length G ids os' ++ (os'.drop ids.length).map (backObj ids G.length)) w' ∧
      Stp m μ G w m' μ' (setAll ids G.length G ids os' ++ (os'.drop ids.length).map (backObj ids G.length)) w' ∧
      Ren μ2 (inf os') μ' (inf (setAll ids G.length G ids os' ++ (os'.drop ids.length).map (backObj ids G.length))) (backId ids G.length) := by
  generalize hG2 : setAll ids G.length G ids os' ++ (os'.drop ids.length).map (backObj ids G.length) = G2
  let μ' : Mu := fun id => match idxOf ids id with
    | some k => μ2 k
    | none => if id < G.length then μ id else μ2 (ids.length + (id - G.length))
  have hidlt : ∀ id, id ∈ ids → id < G.length := fun id hi => let ⟨loc, hl⟩ := hk.mapped id hi; hI.dom id loc hl
  have hfirst : ∀ k, k < ids.length → ∃ l, μ2 k = some l := fun k hlt => by
    obtain ⟨l, hl⟩ := htot k (by omega)
    have hd : k < os.length := by omega
    have hi : inf os k = some (infO os[k]) := by simp [inf, List.getElem?_eq_getElem hd]
    cases ho : infO os[k] with
    | none => rw [ho] at hi; exact ⟨_, (hS.ext.box k l hl hi).1⟩
    | some p =>
      rcases p with ⟨g, sz⟩
      rw [ho] at hi
      obtain ⟨loc', g', a1, _⟩ := hS.ext.arr k l g sz hl hi
      exact ⟨_, a1⟩
  have hlen' : ids.length ≤ os'.length := by
    rcases Nat.eq_zero_or_pos ids.length with h0 | h0
    · omega
    · obtain ⟨l, hl⟩ := hfirst (ids.length - 1) (by omega)
      have := hI'.dom _ _ hl
      omega
  have hG2len : G2.length = G.length + (os'.length - ids.length) := by rw [← hG2]; simp [setAll_length]
  have hat : ∀ k x o, ids[k]? = some x → os'[k]? = some o → G2[x]? = some (backObj ids G.length o) := fun k x o h1 h2 => by
    have hx := hidlt x (List.mem_iff_getElem?.2 ⟨k, h1⟩)
    rw [← hG2, List.getElem?_append_left (by rw [setAll_length]; exact hx)]
    exact setAll_at ids G os' k x o hk.nodup h1 hx h2
  have hold : ∀ x, x < G.length → x ∉ ids → G2[x]? = G[x]? := fun x hx hn => by
    rw [← hG2, List.getElem?_append_left (by rw [setAll_length]; exact hx)]
    exact setAll_other ids G os' x hn
  have hnew : ∀ x o, G.length ≤ x → os'[ids.length + (x - G.length)]? = some o → G2[x]? = some (backObj ids G.length o) := fun x o hx ho => by
    rw [← hG2, List.getElem?_append_right (by rw [setAll_length]; exact hx), setAll_length]
    rw [List.getElem?_map, List.getElem?_drop, ho]; rfl
  have hμk : ∀ k x, ids[k]? = some x → μ' x = μ2 k := fun k x h => by
    show (match idxOf ids x with | some k => μ2 k | none => _) = _
    rw [idxOf_at hk.nodup h]
  have hμo : ∀ x, x < G.length → x ∉ ids → μ' x = μ x := fun x hx hn => by
    show (match idxOf ids x with | some k => μ2 k | none => if x < G.length then μ x else _) = _
    cases hi : idxOf ids x with
    | some k => exact absurd (List.mem_iff_getElem?.2 ⟨k, idxOf_some hi⟩) hn
    | none => simp [hx]
  have hμn : ∀ x, G.length ≤ x → μ' x = μ2 (ids.length + (x - G.length)) := fun x hx => by
    show (match idxOf ids x with | some k => μ2 k | none => if x < G.length then μ x else _) = _
    cases hi : idxOf ids x with
    | some k => have := hidlt x (List.mem_iff_getElem?.2 ⟨k, idxOf_some hi⟩); omega
    | none => simp [Nat.not_lt.2 hx]
  have hren : Ren μ2 (inf os') μ' (inf G2) (backId ids G.length) := by
    intro id loc hl
    have hd := hI'.dom id loc hl
    have hob := List.getElem?_eq_getElem hd
    by_cases hlt : id < ids.length
    · have h1 := List.getElem?_eq_getElem hlt
      have hb : backId ids G.length id = ids[id] := by simp [backId, h1]
      rw [hb]
      refine ⟨(hμk id _ h1).trans hl, ?_⟩
      unfold inf
      rw [hat id _ _ h1 hob, hob]
      simp [infO_back]
    · have h1 : ids[id]? = none := List.getElem?_eq_none (by omega)
      have hb : backId ids G.length id = G.length + (id - ids.length) := by simp [backId, h1]
      rw [hb]
      have e : ids.length + (G.length + (id - ids.length) - G.length) = id := by omega
      refine ⟨?_, ?_⟩
      · rw [hμn _ (by omega), e]; exact hl
      · unfold inf
        rw [hnew _ os'[id] (by omega) (by rw [e]; exact hob), hob]
        simp [infO_back]
  have hcase : ∀ x loc, μ' x = some loc → (∃ id, x = backId ids G.length id ∧ μ2 id = some loc ∧ ((∃ k, ids[k]? = some x ∧ id = k) ∨ (G.length ≤ x ∧ id = ids.length + (x - G.length)))) ∨ (x < G.length ∧ x ∉ ids ∧ μ x = some loc) := by
    intro x loc hl
    by_cases hm : x ∈ ids
    · obtain ⟨k, hkx⟩ := List.mem_iff_getElem?.1 hm
      rw [hμk k x hkx] at hl
      exact .inl ⟨k, by simp [backId, hkx], hl, .inl ⟨k, hkx, rfl⟩⟩
    · by_cases hx : x < G.length
      · rw [hμo x hx hm] at hl
        exact .inr ⟨hx, hm, hl⟩
      · rw [hμn x (by omega)] at hl
        refine .inl ⟨_, ?_, hl, .inr ⟨by omega, rfl⟩⟩
        unfold backId
        rw [List.getElem?_eq_none (by omega)]
        simp
        omega
  have hin : ∀ x loc, x ∉ ids → μ x = some loc → ∀ id l, sub ids μ id = some l → l.blk ≠ loc.blk := by
    intro x loc hn hl id l hs he
    unfold sub at hs
    cases hi : ids[id]? with
    | none => rw [hi] at hs; cases hs
    | some y =>
      rw [hi] at hs
      have := hI.inj y x l loc hs hl he
      subst this
      exact hn (List.mem_iff_getElem?.2 ⟨id, hi⟩)
  have hapart : ∀ x loc id loc', x ∉ ids → μ x = some loc → μ2 id = some loc' → loc'.blk ≠ loc.blk := by
    intro x loc id loc' hn hl hl2 he
    rcases hS.fr.loc id loc' hl2 with h1 | ⟨id1, l1, h1, h2⟩
    · have := hI.lt hl; omega
    · exact hin x loc hn hl id1 l1 h1 (h2.trans he)
  have hext : Ext m μ G m' μ' G2 := by
    refine ⟨hS.ext.mem, fun x loc h1 h2 => ?_, fun x loc g sz h1 h2 => ?_⟩
    · by_cases hm : x ∈ ids
      · obtain ⟨k, hkx⟩ := List.mem_iff_getElem?.1 hm
        obtain ⟨a1, a2⟩ := hS.ext.box k loc (by simp [sub, hkx, h1]) (by rw [hos]; simp [sub, hkx, h2])
        obtain ⟨b1, b2⟩ := hren k loc a1
        have : backId ids G.length k = x := by simp [backId, hkx]
        rw [this] at b1 b2
        exact ⟨b1, b2.trans a2⟩
      · have hx := hI.dom x loc h1
        refine ⟨(hμo x hx hm).trans h1, ?_⟩
        unfold inf at h2 ⊢
        rw [hold x hx hm]; exact h2
    · by_cases hm : x ∈ ids
      · obtain ⟨k, hkx⟩ := List.mem_iff_getElem?.1 hm
        obtain ⟨loc', g', a1, a2, a3, a4⟩ := hS.ext.arr k loc g sz (by simp [sub, hkx, h1]) (by rw [hos]; simp [sub, hkx, h2])
        obtain ⟨b1, b2⟩ := hren k loc' a1
        have : backId ids G.length k = x := by simp [backId, hkx]
        rw [this] at b1 b2
        exact ⟨loc', g', b1, b2.trans a2, a3, a4⟩
      · have hx := hI.dom x loc h1
        refine ⟨loc, g, (hμo x hx hm).trans h1, ?_, Nat.le_refl _, fun _ => rfl⟩
        unfold inf at h2 ⊢
        rw [hold x hx hm]; exact h2
  have hmnone : ∀ x loc o, x ∉ ids → μ x = some loc → m loc.blk o = none → m' loc.blk o = none := by
    intro x loc o hn hl hnone
    cases hc : m' loc.blk o with
    | none => rfl
    | some v =>
      rcases hS.fr.mem _ _ _ hc with h1 | h1 | ⟨id, l, h1, h2⟩
      · rw [hnone] at h1; cases h1
      · have := hI.lt hl; omega
      · exact absurd h2 (hin x loc hn hl id l h1)
  refine ⟨μ', ⟨hI'.known, ?_, ?_, ?_, fun g p hg => ⟨(hI'.glob g p hg).1, fun x loc hl => ?_⟩⟩, ⟨hext, ⟨hS.fr.os, hS.fr.tape, hS.fr.output, hS.fr.size, ?_, ?_, ?_⟩, ?_⟩, hren⟩
  · intro x y l l' h1 h2 he
    rcases hcase x l h1 with ⟨id, rfl, a1, _⟩ | ⟨a0, a1, a2⟩ <;> rcases hcase y l' h2 with ⟨id', rfl, b1, _⟩ | ⟨b0, b1, b2⟩
    · rw [hI'.inj id id' l l' a1 b1 he]
    · exact absurd he (hapart y l' id l b1 b2 a1)
    · exact absurd he.symm (hapart x l id' l' a1 a2 b1)
    · exact hI.inj x y l l' a2 b2 he
  · intro x o hxo loc hl
    rcases hcase x loc hl with ⟨id, hxe, a1, ha⟩ | ⟨a0, a1, a2⟩
    · have hd := hI'.dom id loc a1
      have hob := List.getElem?_eq_getElem hd
      have : o = backObj ids G.length os'[id] := by
        rcases ha with ⟨k, hkx, rfl⟩ | ⟨hge, rfl⟩
        · rw [hat id x _ hkx hob] at hxo; cases hxo; rfl
        · rw [hnew x _ hge hob] at hxo; cases hxo; rfl
      rw [this]
      exact backObj_sound hren (hI'.obj id _ hob loc a1)
    · rw [hold x a0 a1] at hxo
      exact (hI.obj x o hxo loc a2).move hext (hS.fr.blk _ (hI.lt a2) (fun id l h1 h2 => hin x loc a1 a2 id l h1 h2)) (fun o h => hmnone x loc o a1 a2 h)
  · intro x loc hl
    rcases hcase x loc hl with ⟨id, hxe, a1, ha⟩ | ⟨a0, a1, a2⟩
    · have hd := hI'.dom id loc a1
      rcases ha with ⟨k, hkx, rfl⟩ | ⟨hge, rfl⟩
      · have := hidlt x (List.mem_iff_getElem?.2 ⟨_, hkx⟩); omega
      · omega
    · omega
  · rcases hcase x loc hl with ⟨id, _, a1, _⟩ | ⟨_, _, a2⟩
    · exact (hI'.glob g p hg).2 id loc a1
    · exact (hI.glob g p hg).2 x loc a2
  · intro b hb hn
    refine hS.fr.blk b hb (fun id l h1 => ?_)
    unfold sub at h1
    cases hi : ids[id]? with
    | none => rw [hi] at h1; cases h1
    | some y => rw [hi] at h1; exact hn y l h1
  · intro b o v h
    rcases hS.fr.mem b o v h with h1 | h1 | ⟨id, l, h1, h2⟩
    · exact .inl h1
    · exact .inr (.inl h1)
    · unfold sub at h1
      cases hi : ids[id]? with
      | none => rw [hi] at h1; cases h1
      | some y => rw [hi] at h1; exact .inr (.inr ⟨y, l, h1, h2⟩)
  · intro x loc hl
    rcases hcase x loc hl with ⟨id, hxe, a1, ha⟩ | ⟨a0, a1, a2⟩
    · rcases hS.fr.loc id loc a1 with h1 | ⟨id', l, h1, h2⟩
      · exact .inl h1
      · unfold sub at h1
        cases hi : ids[id']? with
        | none => rw [hi] at h1; cases h1
        | some y => rw [hi] at h1; exact .inr ⟨y, l, h1, h2⟩
    · exact .inr ⟨x, loc, a2, rfl⟩
  · refine ⟨fun x hx ht => ?_, fun x hx hn => ?_⟩
    · have htc := hS.total htot
      by_cases hm : x ∈ ids
      · obtain ⟨k, hkx⟩ := List.mem_iff_getElem?.1 hm
        rw [hμk k x hkx]
        exact hfirst k (List.getElem?_eq_some_iff.1 hkx).1
      · by_cases hlt : x < G.length
        · rw [hμo x hlt hm]; exact ht hlt
        · rw [hμn x (by omega)]
          exact htc _ (by omega)
    · have hm : x ∉ ids := fun hm => by
        obtain ⟨loc, hl⟩ := hk.mapped x hm
        rw [hl] at hn; cases hn
      exact ⟨(hμo x hx hm).trans hn, hold x hx hm⟩
def CallsX (P : Program) (f : Nat) (vargs : List Value) (w : World) (Q : Ending → World → Prop) : Prop :=
  if f = yF then ∃ l rest, vargs = .func (.yield l) #[] #[] :: rest ∧ YieldAt (Fn none) 0 P l rest.toArray w Q
  else if f < dF then CallsIn (Fn none) 0 P f vargs.toArray w Q
  else ∃ pv rest, vargs = pv :: rest ∧ ∀ u, ((u = .returning ∧ pv = .nilIface) ∨ ∃ t v, pv = .iface t v ∧ u = .panicking [{ v := pv, recovered := false }]) →
    CallsDIn (Fn none) 0 P (f - dF) rest.toArray u w fun e u' w' => settle u' = .returning ∧ Q e w'
theorem CallsX.mono {P : Program} {f : Nat} {vargs : List Value} {w : World} {A B : Ending → World → Prop} (h : CallsX P f vargs w A) (hr : ∀ e w', A e w' → B e w') : CallsX P f vargs w B := by
  unfold CallsX at h ⊢
  by_cases e1 : f = yF
  · rw [if_pos e1] at h ⊢
    obtain ⟨l, rest, h1, fn, tmps, asg, body, h2, h3⟩ := h
    exact ⟨l, rest, h1, fn, tmps, asg, body, h2, h3.mono hr⟩
  · rw [if_neg e1] at h ⊢
    by_cases e2 : f < dF
    · rw [if_pos e2] at h ⊢
      exact h.mono hr
    · rw [if_neg e2] at h ⊢
      obtain ⟨pv, rest, h1, h2⟩ := h
      exact ⟨pv, rest, h1, fun u hu => (h2 u hu).mono fun e u' w' h => ⟨h.1, hr e w' h.2⟩⟩
def CallSound (P : Program) (call : CallF) : Prop := ∀ f args G out G', call f args G = some (out, G') → ∀ m μ w vargs, Inv m μ G w → (∀ id, id < G.length → ∃ l, μ id = some l) → RL m μ (inf G) vargs args →
  CallsX P f vargs w fun e w' => ∃ m' μ', Inv m' μ' G' w' ∧ Stp m μ G w m' μ' G' w' ∧ OutR m' μ' (inf G') out e
theorem callAt_sound {P : Program} {pg : Prg} {call : CallF} (hc : CallSound P call) {m : Mem} {μ : Mu} {G G' : Heap} {w : World} (hI : Inv m μ G w) {f : Nat} {args : List AV} {out : Out}
    (h : evCallAt pg call f args G = some (out, G')) {vargs : List Value} (hr : RL m μ (inf G) vargs args) :
    CallsX P f vargs w fun e w' => ∃ m' μ', Inv m' μ' G' w' ∧ Stp m μ G w m' μ' G' w' ∧ OutR m' μ' (inf G') out e := by
  unfold evCallAt at h
  split at h
  · cases h
  · rename_i args' e hx
    split at h
    · cases h
    · rename_i os e' ho
      split at h
      · cases h
      · rename_i out' os' hcall
        cases h
        obtain ⟨m1, hx1, hr1, _⟩ := expL_sound _ args (e := ⟨[], G⟩) (w := w) hI ⟨by simp, fun id h => by simp at h⟩ hx hr
        obtain ⟨hIc, htot, hinf, heG, ⟨l, hl⟩, hok, hlen⟩ := expObjs_inv hx1.inv hx1.ok ho
        have hra : RL m1 (sub e'.ids μ) (inf os) vargs args' := by
          rw [hinf, hl]
          exact hr1.monoI (sub_ext l (.refl _ _ _))
        refine CallsX.mono (hc f args' os out' os' hcall m1 _ w vargs hIc htot hra) fun en w' hp => ?_
        obtain ⟨m', μ2, hI', hS, hout⟩ := hp
        rw [← heG] at hinf
        obtain ⟨μ', b1, b2, b3⟩ := back_step (G := e'.G) (by rw [heG]; exact hx1.inv) hok hinf hlen htot hI' hS
        refine ⟨m', μ', b1, ?_, hout.back b3⟩
        have hs1 := hx1.stp
        rw [← heG] at hs1
        exact hs1.trans b2
end Go.Proofs.Z
end
section
namespace Go.Proofs.Z
open Go
variable [hP : HasP]
theorem setCells_heap (b : Nat) : ∀ (vs : List Value) (o : Nat) (w : World) (cs : Array Value) (T : TypeId) (f : Nat × Nat), w.heap[b]? = some (.cells cs T f) → o + vs.length ≤ cs.size →
    ∃ cs', (w.setCells b o vs).heap[b]? = some (.cells cs' T f) ∧ cs'.size = cs.size ∧ (∀ j, j < vs.length → cs'[o + j]? = vs[j]?) ∧ (∀ k, k < o ∨ o + vs.length ≤ k → cs'[k]? = cs[k]?)
  | [], o, w, cs, T, f, h, hs => ⟨cs, h, rfl, fun j hj => by simp at hj, fun _ _ => rfl⟩
  | v :: vs, o, w, cs, T, f, h, hs => by
    simp at hs
    have h' : (w.setCell ⟨b, o, none⟩ v).heap[b]? = some (.cells (cs.setIfInBounds o v) T f) := by
      simp [World.setCell, Array.getElem?_modify, h]
    obtain ⟨cs', h1, h2, h3, h4⟩ := setCells_heap b vs (o + 1) (w.setCell ⟨b, o, none⟩ v) _ T f h' (by simp; omega)
    refine ⟨cs', by rw [World.setCells]; exact h1, by simpa using h2, fun j hj => ?_, fun k hk => ?_⟩
    · cases j with
      | zero =>
        rw [h4 (o + 0) (by omega)]
        have : o < cs.size := by omega
        simp [Array.getElem?_setIfInBounds, this]
      | succ j =>
        have := h3 j (by simpa using hj)
        rw [show o + (j + 1) = o + 1 + j by omega, this]
        simp
    · simp at hk
      rw [h4 k (by omega)]
      have : o ≠ k := by omega
      simp [Array.getElem?_setIfInBounds, this]
theorem setCells_other (b : Nat) : ∀ (vs : List Value) (o : Nat) (w : World), (w.setCells b o vs).os = w.os ∧ (w.setCells b o vs).tape = w.tape ∧ (w.setCells b o vs).output = w.output ∧ (w.setCells b o vs).heap.size = w.heap.size ∧
    ∀ b', b' ≠ b → (w.setCells b o vs).heap[b']? = w.heap[b']?
  | [], o, w => ⟨rfl, rfl, rfl, rfl, fun _ _ => rfl⟩
  | v :: vs, o, w => by
    obtain ⟨h1, h2, h3, h4, h5⟩ := setCells_other b vs (o + 1) (w.setCell ⟨b, o, none⟩ v)
    rw [World.setCells]
    refine ⟨h1, h2, h3, by rw [h4]; simp [World.setCell], fun b' hb => ?_⟩
    rw [h5 b' hb]
    simp [World.setCell, Array.getElem?_modify, Ne.symm hb]
section
variable {P : Program} {o : Oper} {a : Act} {m : Mem} {μ : Mu} {G : Heap} {w : World}
variable {N : Nat} {env : Env} (hI : Inv m μ G w) (he : EnvR m μ (inf G) N env a)
theorem newBox (hI : Inv m μ G w) {vs : List Value} {l : List AV} (T : TypeId) (hr : RL m μ (inf G) vs l) (hf : l.all AV.flat = true) :
    ∃ μ', Inv m μ' (G ++ [.box T l]) { w with heap := w.heap.push (.cells vs.toArray T (0, 0)) } ∧ Stp m μ G w m μ' (G ++ [.box T l]) { w with heap := w.heap.push (.cells vs.toArray T (0, 0)) } ∧
      R m μ' (inf (G ++ [.box T l])) (.pointer (some ⟨w.heap.size, 0, none⟩)) (.ptr G.length 0) := by
  obtain ⟨h1, h2⟩ := alloc_step hI (.box T l) vs.toArray T 0 _ rfl _ rfl (fun e => ⟨vs.toArray, T, by simp, by simpa using hr.1, fun j v c g1 g2 => (hr.2 j v c (by simpa using g1) g2).mono e, hf, fun o => hI.fresh (Nat.le_refl _) o, rfl⟩)
  exact ⟨_, h1, h2, .ptr _ _ ⟨w.heap.size, 0⟩ (by simp) (by rw [inf_last]; rfl)⟩
include hI he
theorem good_box {x : Operand} {ox : Opd} {T : TypeId} (ho : o.op = .box T x) (hx : cOpd x = some ox) {v : AV} (hv : opd env ox = some v) (hf : v.cells.all AV.flat = true) : Good P o a m μ G w (.val (.ptr G.length 0) (G ++ [.box T v.cells])) := by
  have hr := opd_R he hx hv
  obtain ⟨μ', h1, h2, h3⟩ := newBox hI T (RL.cellsOf hr hf) hf
  intro ro next Q hn
  refine wp_of_val ?_ (hn _ _ _ _ h1 h2 h3)
  simp [execOp, ho, Instr.box, newVar, newRow]
theorem good_new {T : TypeId} (ho : o.op = .alloc T) {cs : List AV} (hz : cZero P T = some cs) (hf : cs.all AV.flat = true) : Good P o a m μ G w (.val (.ptr G.length 0) (G ++ [.box T cs])) := by
  unfold cZero at hz
  split at hz
  · rename_i v hv
    split at hz
    · rename_i x hx
      cases hz
      obtain ⟨μ', h1, h2, h3⟩ := newBox hI T (RL.cellsOf (ofVal_R m μ (inf G) _ _ hx) hf) hf
      intro ro next Q hn
      refine wp_of_val ?_ (hn _ _ _ _ h1 h2 h3)
      cases hq : P.info? T with
      | none => simp [hq] at hv
      | some i =>
        simp [hq] at hv
        simp [execOp, ho, Instr.alloc, zeroValue, typeInfo, hq, hv, newVar, newRow]
    · cases hz
  · cases hz
end
end Go.Proofs.Z
end
section
namespace Go.Proofs.Z
open Go
variable [hP : HasP]
section
variable {P : Program} {o : Oper} {a : Act} {m : Mem} {μ : Mu} {G : Heap} {w : World}
theorem splice_get {α : Type} (l : List α) (off : Nat) (vs : List α) (h : off + vs.length ≤ l.length) (k : Nat) : (splice l off vs)[k]? = if off ≤ k ∧ k < off + vs.length then vs[k - off]? else l[k]? := by
  unfold splice
  by_cases h1 : k < off
  · rw [List.getElem?_append_left (by simp; omega), List.getElem?_append_left (by simp; omega), if_neg (by omega), List.getElem?_take, if_pos h1]
  · by_cases h2 : k < off + vs.length
    · rw [List.getElem?_append_left (by simp; omega), List.getElem?_append_right (by simp; omega), if_pos (by omega)]
      simp [Nat.min_eq_left (show off ≤ l.length by omega)]
    · rw [List.getElem?_append_right (by simp; omega), if_neg (by omega), List.getElem?_drop]
      congr 1
      simp [Nat.min_eq_left (show off ≤ l.length by omega)]
      omega
theorem splice_length {α : Type} (l : List α) (off : Nat) (vs : List α) (h : off + vs.length ≤ l.length) : (splice l off vs).length = l.length := by
  unfold splice; simp; omega
theorem RL.splice {i : Inf} {zc : Array Value} {zero : List AV} (hz : RL m μ i zc.toList zero) {v : Value} {x : AV} (hv : RL m μ i v.cells.toList x.cells) {off : Nat} (hle : off + x.cells.length ≤ zero.length) :
    RL m μ i (v.cells.zipIdx.foldl (fun cs (c, j) => cs.setIfInBounds (off + j) c) zc).toList (Z.splice zero off x.cells) := by
  obtain ⟨g1, g2⟩ := Great.foldl_set off v.cells.toList 0 zc
  have e : (v.cells.zipIdx.foldl (fun cs (c, j) => cs.setIfInBounds (off + j) c) zc) = ((v.cells.toList.zipIdx 0).foldl (fun cs (x : Value × Nat) => cs.setIfInBounds (off + x.2) x.1) zc) := by
    rw [← Array.foldl_toList, Array.toList_zipIdx]
  rw [e]
  have hzl : zc.size = zero.length := by simpa using hz.1
  have hvl : v.cells.toList.length = x.cells.length := hv.1
  refine ⟨by rw [splice_length _ _ _ hle]; simpa using g1.trans hzl, fun k u c h1 h2 => ?_⟩
  rw [Array.getElem?_toList, g2 k] at h1
  rw [splice_get _ _ _ hle] at h2
  simp only [Nat.add_zero] at h1
  by_cases hk : off ≤ k ∧ k < off + x.cells.length
  · rw [if_pos ⟨hk.1, by omega, by omega⟩] at h1
    rw [if_pos hk] at h2
    exact hv.2 _ u c h1 h2
  · rw [if_neg (by omega)] at h1
    rw [if_neg hk] at h2
    exact hz.2 k u c (by simpa using h1) h2
theorem fill_sound {i : Inf} (place : Nat → Option (Nat × Nat)) : ∀ (ps : List (Nat × Value)) (as : List (Nat × Nat × AV)) (zc : Array Value) (zero cs : List AV),
    ps.length = as.length → (∀ (k : Nat) (p : Nat × Value) (q : Nat × Nat × AV), ps[k]? = some p → as[k]? = some q → place p.1 = some (q.1, q.2.1) ∧ R m μ i p.2 q.2.2) →
    RL m μ i zc.toList zero → fillAt zero as = some cs → ∃ rc, Instr.fill place zc ps = some rc ∧ RL m μ i rc.toList cs
  | [], [], zc, zero, cs, _, _, hz, h => by simp [fillAt] at h; subst h; exact ⟨zc, rfl, hz⟩
  | [], _ :: _, _, _, _, hl, _, _, _ => by simp at hl
  | _ :: _, [], _, _, _, hl, _, _, _ => by simp at hl
  | (k, v) :: ps, (off, n, x) :: as, zc, zero, cs, hl, hr, hz, h => by
    obtain ⟨hp, hx⟩ := hr 0 _ _ rfl rfl
    simp only [fillAt] at h
    split at h
    · rename_i hc
      have hv := RL.cellsOf hx hc.2.2
      have hle : off + x.cells.length ≤ zero.length := by rw [hc.1]; exact hc.2.1
      obtain ⟨rc, h1, h2⟩ := fill_sound place ps as _ _ cs (by simpa using hl) (fun j p q g1 g2 => hr (j + 1) p q (by simpa using g1) (by simpa using g2)) (hz.splice hv hle) h
      refine ⟨rc, ?_, h2⟩
      unfold Instr.fill
      simp only [hp]
      have hvs : v.cells.size = n := by have := hv.1; simp at this; rw [this]; exact hc.1
      have hzl : zc.size = zero.length := by simpa using hz.1
      have h21 := hc.2.1
      rw [if_neg (by simp [hvs]; omega)]
      exact h1
    · cases h
theorem cBuild_spec {env : Env} {N : Nat} (he : EnvR m μ (inf G) N env a) (places : Nat → Option (Nat × Nat)) : ∀ (ps : List (Nat × Operand)) (l : List (Nat × Nat × Opd)), cBuild places ps = some l → ∀ (vs : List AV), opds env (l.map (·.2.2)) = some vs →
    (ps.map fun (i, x) => (i, a.eval x)).length = ((l.zip vs).map fun (p, v) => (p.1, p.2.1, v)).length ∧
    ∀ (k : Nat) (p : Nat × Value) (q : Nat × Nat × AV), (ps.map fun (i, x) => (i, a.eval x))[k]? = some p → ((l.zip vs).map fun (p, v) => (p.1, p.2.1, v))[k]? = some q → places p.1 = some (q.1, q.2.1) ∧ R m μ (inf G) p.2 q.2.2
  | [], l, h, vs, hv => by
    simp [cBuild] at h
    subst h
    exact ⟨rfl, fun k p q h1 => by simp at h1⟩
  | (i, x) :: ps, l, h, vs, hv => by
    simp only [cBuild] at h
    split at h
    · rename_i oo n ax l' h1 h2 h3
      cases h
      simp only [List.map_cons, opds] at hv
      split at hv
      · cases hv
      · rename_i v hv1
        split at hv
        · cases hv
        · rename_i vs' hv2
          cases hv
          obtain ⟨g1, g2⟩ := cBuild_spec he places ps l' h3 vs' hv2
          refine ⟨by simpa using g1, fun k p q q1 q2 => ?_⟩
          cases k with
          | zero =>
            simp at q1 q2
            subst q1; subst q2
            exact ⟨h1, opd_R he h2 hv1⟩
          | succ k => exact g2 k p q (by simpa using q1) (by simpa using q2)
    · cases h
theorem cZero_R {t : TypeId} {cs : List AV} (h : cZero P t = some cs) (hf : cs.all AV.flat = true) (i : Inf) : ∃ it z, P.info? t = some it ∧ it.zero = some z ∧ RL m μ i z.cells.toList cs := by
  unfold cZero at h
  cases hq : P.info? t with
  | none => simp [hq] at h
  | some it =>
    cases hz : it.zero with
    | none => simp [hq, hz] at h
    | some z =>
      simp only [hq, Option.bind_some, hz] at h
      split at h
      · rename_i x hx
        cases h
        exact ⟨it, z, rfl, hz, RL.cellsOf (ofVal_R m μ i _ _ hx) hf⟩
      · cases h
variable {N : Nat} {env : Env} (hI : Inv m μ G w) (he : EnvR m μ (inf G) N env a)
include hI he
theorem good_build {t : TypeId} {ps : Array (Nat × Operand)} (ho : o.op = .build t ps) {d : TypeDesc} (ht : P.underlying t = some d) {zero : List AV} (hz : cZero P t = some zero) (hzf : zero.all AV.flat = true)
    {places : Nat → Option (Nat × Nat)}
    (hpl : (∃ fs, d = .struct fs ∧ fs.toList.all (fun f => (cSize P f.type).isSome) = true ∧ places = fun i => match fs[i]? with | some f => (cSize P f.type).map fun n => (f.offset, n) | none => none) ∨
      (∃ k e n, d = .array k e ∧ cSize P e = some n ∧ places = fun i => some (i * n, n)))
    {l : List (Nat × Nat × Opd)} (hl : cBuild places ps.toList = some l) {vs : List AV} (hv : opds env (l.map (·.2.2)) = some vs) {cs : List AV} (hc : fillAt zero ((l.zip vs).map fun (p, v) => (p.1, p.2.1, v)) = some cs) : Good P o a m μ G w (.val (.ag cs) G) := by
  obtain ⟨it, z, h1, h2, h3⟩ := cZero_R (m := m) (μ := μ) hz hzf (inf G)
  obtain ⟨g1, g2⟩ := cBuild_spec he places ps.toList l hl vs hv
  obtain ⟨rc, f1, f2⟩ := fill_sound places _ _ z.cells zero cs g1 g2 h3 hc
  have hb : P.built t (ps.map fun (i, x) => (i, a.eval x)).toList = some rc := by
    have e : (ps.map fun (i, x) => (i, a.eval x)).toList = ps.toList.map fun (i, x) => (i, a.eval x) := by simp
    rw [e]
    unfold Program.built
    rcases hpl with ⟨fs, rfl, hall, rfl⟩ | ⟨k, e, n, rfl, hn, rfl⟩
    · simp only [h1, ht, h2]
      have hm : fs.toList.mapM (fun f => (P.info? f.type).map fun i => (f.offset, i.size)) = some (fs.toList.map fun f => (f.offset, (cSize P f.type).getD 0)) := by
        generalize fs.toList = fl at hall
        induction fl with
        | nil => rfl
        | cons f fl ih =>
          simp only [List.all_cons, Bool.and_eq_true] at hall
          rw [List.mapM_cons, ih hall.2]
          have := hall.1
          unfold cSize at this ⊢
          cases hq : P.info? f.type with
          | none => simp [hq] at this
          | some i => simp [hq]
      rw [hm]
      dsimp only
      have : (((fs.toList.map fun f => (f.offset, (cSize P f.type).getD 0)).toArray[·]?) : Nat → Option (Nat × Nat)) = fun i => match fs[i]? with | some f => (cSize P f.type).map fun n => (f.offset, n) | none => none := by
        funext i
        simp only [List.getElem?_toArray, List.getElem?_map, Array.getElem?_toList]
        cases hq : fs[i]? with
        | none => rfl
        | some f =>
          have hmem : f ∈ fs.toList := by
            have := Array.mem_of_getElem? hq
            simpa using this
          have := List.all_eq_true.1 hall f hmem
          obtain ⟨n, hn⟩ := Option.isSome_iff_exists.1 this
          simp [hn]
      rw [this]
      exact f1
    · unfold cSize at hn
      cases hq : P.info? e with
      | none => simp [hq] at hn
      | some ie =>
        simp [hq] at hn
        simp only [h1, ht, h2, hq]
        rw [hn]
        exact f1
  refine .same hI (val := .agg rc) ?_ (.agOf f2)
  simp [execOp, ho, run_build w t _ rc hb]
end
end Go.Proofs.Z
end
