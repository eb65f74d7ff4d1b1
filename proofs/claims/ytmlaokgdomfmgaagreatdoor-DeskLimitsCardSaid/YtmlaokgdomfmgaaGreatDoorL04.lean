/- A part of the proof. -/
import Derived.Test.YtmlaokgdomfmgaaGreatDoorL03
set_option linter.all false
section
namespace Go.Proofs.Z
open Go
variable [hP : HasP]
def FlatR (m : Mem) (cs : Array Value) (sz : Nat) (rows : List (List PV)) : Prop :=
  cs.size = rows.length * sz ∧ ∀ (i j : Nat) (r : List PV) (c : PV), rows[i]? = some r → r[j]? = some c → ∃ v, cs[i * sz + j]? = some v ∧ RP m v c
theorem zerosP_R {m : Mem} {μ : Mu} {i : Inf} : ∀ (zs : List AV) {zero : List PV} {zc : List Value}, zerosP zs = some zero → RL m μ i zc zs → RPL m zc zero
  | [], zero, zc, h, hr => by simp [zerosP] at h; subst h; exact ⟨hr.1, fun j v c _ h2 => by simp at h2⟩
  | a :: r, zero, zc, h, hr => by
    simp only [zerosP] at h
    split at h
    · cases h
    · rename_i x hx
      split at h
      · cases h
      · rename_i l hl
        cases h
        obtain ⟨z, zs, rfl, hz, hr⟩ := hr.inv_cons
        refine .cons ?_ (zerosP_R r hl hr)
        cases a with
        | p y => simp [zeroP] at hx; subst hx; cases hz; assumption
        | nils =>
          simp [zeroP] at hx
          subst hx
          cases hz
          exact .sl none 0 [] 0 (fun _ _ => undef) (Nat.le_refl _) rfl (fun h => absurd rfl h) (fun i j r c h => by simp at h)
        | _ => simp [zeroP] at hx
section
variable {P : Program} {o : Oper} {a : Act} {m : Mem} {μ : Mu} {G : Heap} {w : World}
theorem okRows_set {sz k : Nat} {rows : List (List PV)} {r : List PV} (h : okRows sz rows = true) (hr : okRow sz r = true) : okRows sz (rows.set k r) = true := by
  simp only [okRows, List.all_eq_true] at h ⊢
  intro x hx
  rcases List.mem_or_eq_of_mem_set hx with h1 | h1
  · exact h x h1
  · rw [h1]; exact hr
theorem okRows_replicate {sz n : Nat} {r : List PV} (hr : okRow sz r = true) : okRows sz (List.replicate n r) = true := by
  simp only [okRows, List.all_eq_true]
  intro x hx
  rw [(List.mem_replicate.1 hx).2]; exact hr
theorem zero_flat {zc : Array Value} {zero : List PV} {sz n : Nat} (hz : RPL m zc.toList zero) (hok : okRow sz zero = true) (h1 : 1 ≤ sz) :
    FlatR m ((Array.range (n * sz)).map (zc[· % zc.size]!)) sz (List.replicate n zero) := by
  have hs : zc.size = sz := by have := hz.1; simp at this; rw [this, okRow_len hok]
  refine ⟨by simp, fun i j r c g1 g2 => ?_⟩
  have hi : i < n := by have := (List.getElem?_eq_some_iff.1 g1).1; simpa using this
  have hr : r = zero := by rw [List.getElem?_replicate, if_pos hi] at g1; cases g1; rfl
  subst hr
  have hj : j < sz := by rw [← okRow_len hok]; exact (List.getElem?_eq_some_iff.1 g2).1
  have hlt : i * sz + j < n * sz := by
    have : i * sz + sz ≤ n * sz := by rw [← Nat.succ_mul]; exact Nat.mul_le_mul_right _ hi
    omega
  have hmod : (i * sz + j) % sz = j := by rw [Nat.mul_comm, Nat.mul_add_mod, Nat.mod_eq_of_lt hj]
  have hjz : j < zc.size := by omega
  refine ⟨zc[j], ?_, hz.2 j _ c (by rw [Array.getElem?_toList, Array.getElem?_eq_getElem hjz]) g2⟩
  rw [Array.getElem?_map]
  have : (Array.range (n * sz))[i * sz + j]? = some (i * sz + j) := by simp [hlt]
  rw [this]
  simp only [Option.map_some, hs, hmod]
  rw [getElem!_pos zc j hjz]
theorem fillRows_sound {sz : Nat} (h1 : 1 ≤ sz) : ∀ (ps : List (Nat × Value)) (as : List (Nat × AV)) (rows rows' : List (List PV)) (G G' : Heap) (cs : Array Value) (m : Mem), Inv m μ G w →
    ps.length = as.length → (∀ (k : Nat) (p : Nat × Value) (q : Nat × AV), ps[k]? = some p → as[k]? = some q → p.1 = q.1 ∧ R m μ (inf G) p.2 q.2) →
    FlatR m cs sz rows → okRows sz rows = true → evOp.fillRows sz rows G as = some (rows', G') →
    ∃ m' cs', Inv m' μ G' w ∧ Stp m μ G w m' μ G' w ∧ Instr.fill (fun i => some (i * sz, sz)) cs ps = some cs' ∧ FlatR m' cs' sz rows' ∧ okRows sz rows' = true ∧ rows'.length = rows.length
  | [], [], rows, rows', G, G', cs, m, hI, _, _, hf, hok, h => by
    simp [evOp.fillRows] at h
    obtain ⟨rfl, rfl⟩ := h
    exact ⟨m, cs, hI, .refl _ _ _ _, rfl, hf, hok, rfl⟩
  | [], _ :: _, _, _, _, _, _, _, _, hl, _, _, _, _ => by simp at hl
  | _ :: _, [], _, _, _, _, _, _, _, hl, _, _, _, _ => by simp at hl
  | (i, v) :: ps, (i', x) :: as, rows, rows', G, G', cs, m, hI, hl, hr, hf, hok, h => by
    obtain ⟨rfl, hx⟩ := hr 0 _ _ rfl rfl
    simp only [evOp.fillRows] at h
    split at h
    · cases h
    · rename_i l G1 hn
      split at h
      · rename_i hc
        have hfl : l.all PV.flat = true := List.all_eq_true.2 (okRow_flat hc.1)
        obtain ⟨m1, hI1, hS1, hv⟩ := normP_sound hI hn hx hfl
        obtain ⟨g1, g2⟩ := Great.foldl_set (i * sz) v.cells.toList 0 cs
        have e : (v.cells.zipIdx.foldl (fun cs (c, j) => cs.setIfInBounds (i * sz + j) c) cs) = ((v.cells.toList.zipIdx 0).foldl (fun cs (x : Value × Nat) => cs.setIfInBounds (i * sz + x.2) x.1) cs) := by
          rw [← Array.foldl_toList, Array.toList_zipIdx]
        have hvl : v.cells.toList.length = sz := by rw [hv.1, okRow_len hc.1]
        have hcs : i * sz + sz ≤ cs.size := by rw [hf.1, ← Nat.succ_mul]; exact Nat.mul_le_mul_right _ hc.2
        have hf' : FlatR m1 (v.cells.zipIdx.foldl (fun cs (c, j) => cs.setIfInBounds (i * sz + j) c) cs) sz (rows.set i l) := by
          rw [e]
          refine ⟨by rw [g1, hf.1]; simp, fun i' j r c k1 k2 => ?_⟩
          rw [g2]
          simp only [Nat.add_zero]
          by_cases hii : i' = i
          · subst hii
            have : r = l := by rw [List.getElem?_set_self hc.2] at k1; cases k1; rfl
            subst this
            have hj : j < sz := by rw [← okRow_len hc.1]; exact (List.getElem?_eq_some_iff.1 k2).1
            rw [if_pos ⟨by omega, by omega, by omega⟩]
            have hj' : j < v.cells.toList.length := by omega
            refine ⟨v.cells.toList[j], by simp [List.getElem?_eq_getElem hj'], hv.2 j _ c (List.getElem?_eq_getElem hj') k2⟩
          · rw [List.getElem?_set, if_neg (Ne.symm hii)] at k1
            obtain ⟨u, q1, q2⟩ := hf.2 i' j r c k1 k2
            have hj : j < sz := by rw [← okRow_len (okRows_at hok k1)]; exact (List.getElem?_eq_some_iff.1 k2).1
            have : ¬ (i * sz ≤ i' * sz + j ∧ i' * sz + j < i * sz + v.cells.toList.length) := by
              rw [hvl]
              rcases Nat.lt_or_gt_of_ne hii with hlt | hgt
              · have : i' * sz + sz ≤ i * sz := by rw [← Nat.succ_mul]; exact Nat.mul_le_mul_right _ hlt
                omega
              · have : i * sz + sz ≤ i' * sz := by rw [← Nat.succ_mul]; exact Nat.mul_le_mul_right _ hgt
                omega
            rw [if_neg (by omega)]
            exact ⟨u, q1, q2.mono hS1.ext.mem⟩
        obtain ⟨m2, cs2, hI2, hS2, k1, k2, k3, k4⟩ := fillRows_sound h1 ps as _ rows' G1 G' _ m1 hI1 (by simpa using hl)
          (fun k p q q1 q2 => let ⟨u1, u2⟩ := hr (k + 1) p q (by simpa using q1) (by simpa using q2); ⟨u1, u2.mono hS1.ext⟩) hf' (okRows_set hok hc.1) h
        refine ⟨m2, cs2, hI2, hS1.trans hS2, ?_, k2, k3, by rw [k4]; simp⟩
        unfold Instr.fill
        simp only
        have hvs : v.cells.size = sz := by simpa using hvl
        rw [if_neg (by simp [hvs]; omega)]
        exact k1
      · cases h
theorem newArr (hI : Inv m μ G w) {sz n cap : Nat} {rows : List (List PV)} {cs : Array Value} (ty : TypeId) (h1 : 1 ≤ sz) (hn : rows.length = n) (hsz : cs.size = cap * sz) (hcap : n ≤ cap) (hok : okRows sz rows = true)
    (hf : ∀ (i j : Nat) (r : List PV) (c : PV), rows[i]? = some r → r[j]? = some c → ∃ v, cs[i * sz + j]? = some v ∧ RP m v c) :
    ∃ μ', Inv m μ' (G ++ [.arr ty sz rows 0 0]) { w with heap := w.heap.push (.cells cs ty (0, 0)) } ∧ Stp m μ G w m μ' (G ++ [.arr ty sz rows 0 0]) { w with heap := w.heap.push (.cells cs ty (0, 0)) } ∧
      R m μ' (inf (G ++ [.arr ty sz rows 0 0])) (.slice (some ⟨w.heap.size, 0, none⟩) n cap) (.arr G.length n 0) := by
  obtain ⟨g1, g2⟩ := alloc_step hI (.arr ty sz rows 0 0) cs ty cap _ rfl _ rfl (fun e => ⟨cs, ty, by simp, hsz, by simpa [hn] using hcap, h1, hok, hf, fun o _ => hI.fresh (Nat.le_refl _) o, rfl⟩)
  exact ⟨_, g1, g2, .arr _ _ _ _ _ _ ⟨w.heap.size, cap⟩ 0 sz (by simp) (by rw [inf_last]; rfl) (Nat.le_refl _) (fun _ => ⟨rfl, rfl, rfl⟩)⟩
theorem cParts_spec {env : Env} {N : Nat} (he : EnvR m μ (inf G) N env a) : ∀ (ps : List (Nat × Operand)) (l : List (Nat × Opd)), cParts ps = some l → ∀ (vs : List AV), opds env (l.map (·.2)) = some vs →
    (ps.map fun (i, x) => (i, a.eval x)).length = ((l.zip vs).map fun (p, v) => (p.1, v)).length ∧
    ∀ (k : Nat) (p : Nat × Value) (q : Nat × AV), (ps.map fun (i, x) => (i, a.eval x))[k]? = some p → ((l.zip vs).map fun (p, v) => (p.1, v))[k]? = some q → p.1 = q.1 ∧ R m μ (inf G) p.2 q.2
  | [], l, h, vs, hv => by
    simp [cParts] at h
    subst h
    exact ⟨rfl, fun k p q h1 => by simp at h1⟩
  | (i, x) :: ps, l, h, vs, hv => by
    simp only [cParts] at h
    split at h
    · rename_i ax l' h2 h3
      cases h
      simp only [List.map_cons, opds] at hv
      split at hv
      · cases hv
      · rename_i v hv1
        split at hv
        · cases hv
        · rename_i vs' hv2
          cases hv
          obtain ⟨g1, g2⟩ := cParts_spec he ps l' h3 vs' hv2
          refine ⟨by simpa using g1, fun k p q q1 q2 => ?_⟩
          cases k with
          | zero =>
            simp at q1 q2
            subst q1; subst q2
            exact ⟨rfl, opd_R he h2 hv1⟩
          | succ k => exact g2 k p q (by simpa using q1) (by simpa using q2)
    · cases h
variable {N : Nat} {env : Env} (hI : Inv m μ G w) (he : EnvR m μ (inf G) N env a)
include hI he
theorem zeroRow {e : TypeId} {sz : Nat} {zero : List PV} (hn : cSize P e = some sz) (hz : (cZero P e).bind zerosP = some zero) (hok : okRow sz zero = true) :
    ∃ ie z, P.info? e = some ie ∧ ie.zero = some z ∧ ie.size = sz ∧ RPL m z.cells.toList zero := by
  simp only [Option.bind_eq_some_iff] at hz
  obtain ⟨zs, h1, h2⟩ := hz
  have hfl : zs.all AV.flat = true := by
    rw [List.all_eq_true]
    have hzf := okRow_flat hok
    clear hok h1
    induction zs generalizing zero with
    | nil => intro x hx; simp at hx
    | cons a r ih =>
      simp only [zerosP] at h2
      split at h2
      · cases h2
      · rename_i x hx
        split at h2
        · cases h2
        · rename_i l hl
          cases h2
          intro y hy
          rcases List.mem_cons.1 hy with rfl | hy
          · cases y with
            | p z => simp [zeroP] at hx; subst hx; exact hzf _ (by simp)
            | nils => rfl
            | _ => simp [zeroP] at hx
          · exact ih hl (fun c hc => hzf c (by simp [hc])) y hy
  obtain ⟨it, z, g1, g2, g3⟩ := cZero_R (m := m) (μ := μ) h1 hfl (inf G)
  refine ⟨it, z, g1, g2, ?_, zerosP_R zs h2 g3⟩
  unfold cSize at hn
  simpa [g1] using hn
theorem good_bslice {t e : TypeId} {n : Nat} {ps : Array (Nat × Operand)} (ho : o.op = .buildSlice t n ps) (ht : P.underlying t = some (.slice e)) {sz : Nat} {zero : List PV} (hn : cSize P e = some sz) (hz : (cZero P e).bind zerosP = some zero) (hok : okRow sz zero = true) (h1 : 1 ≤ sz) (hbig : n * sz ≤ 2 ^ 20)
    {l : List (Nat × Opd)} (hl : cParts ps.toList = some l) {vs : List AV} (hv : opds env (l.map (·.2)) = some vs) {rows : List (List PV)} {G' : Heap} (hc : evOp.fillRows sz (List.replicate n zero) G ((l.zip vs).map fun (p, v) => (p.1, v)) = some (rows, G')) :
    Good P o a m μ G w (.val (.arr G'.length n 0) (G' ++ [.arr e sz rows 0 0])) := by
  obtain ⟨ie, z, g1, g2, g3, g4⟩ := zeroRow hI he hn hz hok
  obtain ⟨p1, p2⟩ := cParts_spec he ps.toList l hl vs hv
  obtain ⟨m1, cs, hI1, hS1, k1, k2, k3, k4⟩ := fillRows_sound h1 _ _ _ rows G G' _ m hI p1 p2 (zero_flat (n := n) g4 hok h1) (okRows_replicate hok) hc
  have hlen : rows.length = n := by rw [k4]; simp
  obtain ⟨μ', hI2, hS2, hR⟩ := newArr hI1 (cap := n) (cs := cs) e h1 hlen (by rw [k2.1, hlen]) (Nat.le_refl _) k3 k2.2
  have he' : (ps.map fun (i, x) => (i, a.eval x)).toList = ps.toList.map fun (i, x) => (i, a.eval x) := by simp
  intro ro next Q hnx
  refine wp_of_val ?_ (hnx _ _ _ _ hI2 (hS1.trans hS2) hR)
  simp only [execOp, ho, Sem.run_bind]
  have hrun : (Instr.buildSlice t n (ps.map fun (i, x) => (i, a.eval x))).run P w = .ok (.slice (some ⟨w.heap.size, 0, none⟩) n n) { w with heap := w.heap.push (.cells cs e (0, 0)) } := by
    by_cases hn0 : n = 0
    · subst hn0
      have hc0 : cs = #[] := by apply Array.eq_empty_of_size_eq_zero; rw [k2.1, hlen]; simp
      subst hc0
      have hps : ps = #[] := by
        cases hq : ps.toList with
        | nil => apply Array.ext'; simpa using hq
        | cons p r =>
          rw [hq] at p1
          generalize ((l.zip vs).map fun (p, v) => (p.1, v)) = as at hc p1
          cases as with
          | nil => simp at p1
          | cons x as =>
            rcases x with ⟨i, v⟩
            simp only [evOp.fillRows, List.replicate] at hc
            split at hc
            · cases hc
            · simp at hc
      subst hps
      simp [Instr.buildSlice, run_underlying ht, sizeOf, typeInfo, g1, g3, zeroValue, g2, Instr.fill, newRow, show Array.range 0 = #[] from rfl]
    · have hpos : ¬ n * ie.size = 0 := by rw [g3]; exact Nat.mul_ne_zero hn0 (by omega)
      have := run_buildSlice (P := P) w t e n (ps.map fun (i, x) => (i, a.eval x)) cs ie z ht g1 g2 (by rw [g3]; omega) hpos (by rw [he', g3]; exact k1)
      exact this
  rw [hrun]
  rfl
theorem mkslice_run {t e : TypeId} {x y : Operand} {ox oy : Opd} (ho : o.op = .makeSlice t x y) (ht : P.underlying t = some (.slice e)) {sz by_ : Nat} {zero : List PV} (hn : cSize P e = some sz) (hb : cBytes P e = some by_) (hz : (cZero P e).bind zerosP = some zero) (hok : okRow sz zero = true) (h1 : 1 ≤ sz)
    (hx : cOpd x = some ox) (hy : cOpd y = some oy) {l c : Int} (hl : opd env ox = some (.p (.i .i64 l))) (hc : opd env oy = some (.p (.i .i64 c))) (h0 : 0 ≤ l) (hlc : l ≤ c) (hroom : roomy c.toNat by_ = true) :
    ∃ cs : Array Value, (execOp a.eval o).run P w = .ok (.value (.slice (some ⟨w.heap.size, 0, none⟩) l.toNat c.toNat)) { w with heap := w.heap.push (.cells cs e (0, 0)) } ∧ cs.size = c.toNat * sz ∧
      ∀ (i j : Nat) (r : List PV) (cc : PV), (List.replicate l.toNat zero)[i]? = some r → r[j]? = some cc → ∃ v, cs[i * sz + j]? = some v ∧ RP m v cc := by
  obtain ⟨ie, z, g1, g2, g3, g4⟩ := zeroRow hI he hn hz hok
  have hl' := (opd_R he hx hl).int_inv
  have hc' := (opd_R he hy hc).int_inv
  have hbytes : ie.bytes = by_ := by unfold cBytes at hb; simpa [g1] using hb
  simp only [roomy, Bool.and_eq_true, decide_eq_true_eq] at hroom
  have hfl := zero_flat (n := c.toNat) g4 hok h1
  have hle : l.toNat ≤ c.toNat := by omega
  refine ⟨(Array.range (c.toNat * sz)).map (z.cells[· % z.cells.size]!), ?_, by rw [hfl.1]; simp, fun i j r cc q1 q2 => by
    refine hfl.2 i j r cc ?_ q2
    have hi : i < l.toNat := by have := (List.getElem?_eq_some_iff.1 q1).1; rwa [List.length_replicate] at this
    rw [List.getElem?_replicate, if_pos (by omega)]
    rw [List.getElem?_replicate, if_pos hi] at q1
    exact q1⟩
  have hwl : IntKind.i64.wrap l = l := by
    unfold IntKind.wrap
    simp [IntKind.bits, IntKind.signed]
    omega
  have hwc : IntKind.i64.wrap c = c := by
    unfold IntKind.wrap
    simp [IntKind.bits, IntKind.signed]
    omega
  have hbig : ¬ ((ie.bytes : Int) * c > 2 ^ 48) := by
    rw [hbytes]
    have h2 : ((c.toNat * by_ : Nat) : Int) ≤ ((2 ^ 40 : Nat) : Int) := Int.ofNat_le.2 hroom.1
    rw [Int.natCast_mul, Int.toNat_of_nonneg (by omega), Int.mul_comm] at h2
    simp at h2 ⊢
    omega
  have hc0 : ¬ c < 0 := by omega
  have hl0 : ¬ l < 0 := by omega
  have hlc' : ¬ c < l := by omega
  simp only [execOp, ho, Sem.run_bind]
  have : (Instr.makeSlice t (a.eval x) (a.eval y)).run P w = .ok (.slice (some ⟨w.heap.size, 0, none⟩) l.toNat c.toNat) { w with heap := w.heap.push (.cells ((Array.range (c.toNat * sz)).map (z.cells[· % z.cells.size]!)) e (0, 0)) } := by
    rw [hl', hc']
    simp only [Instr.makeSlice, Sem.run_bind, run_underlying ht, Result.andThen_ok, Go.asInt, asIntOf, Sem.run_pure, typeInfo, run_program, g1, hwl, hwc]
    have hcond : ((decide (c < 0) || decide ((ie.bytes : Int) * c > 2 ^ 48)) || decide (l < 0) || decide (l > c)) = false := by
      simp only [hc0, hbig, hl0, decide_false, Bool.or_false, Bool.false_or, decide_eq_false_iff_not]
      omega
    simp only [hcond, Bool.false_eq_true, if_false, Sem.run_bind, Sem.run_pure, Result.andThen_ok, run_askRoom, sizeOf, typeInfo, run_program, g1, g3]
    by_cases hcz : c.toNat * sz = 0
    · simp [hcz, newRow, show Array.range 0 = #[] from rfl]
    · simp [hcz, zeroValue, typeInfo, g1, g2, newRow]
  rw [this]
  rfl
theorem good_mkslice {t e : TypeId} {x y : Operand} {ox oy : Opd} (ho : o.op = .makeSlice t x y) (ht : P.underlying t = some (.slice e)) {sz by_ : Nat} {zero : List PV} (hn : cSize P e = some sz) (hb : cBytes P e = some by_) (hz : (cZero P e).bind zerosP = some zero) (hok : okRow sz zero = true) (h1 : 1 ≤ sz)
    (hx : cOpd x = some ox) (hy : cOpd y = some oy) {l c : Int} (hl : opd env ox = some (.p (.i .i64 l))) (hc : opd env oy = some (.p (.i .i64 c))) (h0 : 0 ≤ l) (hlc : l ≤ c) (hroom : roomy c.toNat by_ = true) :
    Good P o a m μ G w (.val (.arr G.length l.toNat 0) (G ++ [.arr e sz (List.replicate l.toNat zero) 0 0])) := by
  obtain ⟨cs, k1, k2, k3⟩ := mkslice_run hI he ho ht hn hb hz hok h1 hx hy hl hc h0 hlc hroom
  obtain ⟨μ', hI2, hS2, hR⟩ := newArr hI (cap := c.toNat) (rows := List.replicate l.toNat zero) e h1 (by simp) k2 (by omega : l.toNat ≤ c.toNat) (okRows_replicate hok) k3
  intro ro next Q hnx
  exact wp_of_val k1 (hnx _ _ _ _ hI2 hS2 hR)
end
end Go.Proofs.Z
end
section
namespace Go.Proofs.Z
open Go
variable [hP : HasP]
section
variable {P : Program} {o : Oper} {a : Act} {m : Mem} {μ : Mu} {G : Heap} {w : World}
theorem row_index {sz k n : Nat} (h1 : 1 ≤ sz) (hk : k < n * sz) : k / sz < n ∧ k % sz < sz ∧ k / sz * sz + k % sz = k := by
  have := Nat.div_add_mod k sz
  refine ⟨Nat.div_lt_of_lt_mul (by rw [Nat.mul_comm]; exact hk), Nat.mod_lt _ h1, by rw [Nat.mul_comm]; exact this⟩
structure SliceSrc (m : Mem) (w : World) (sz : Nat) (z : Value) (rows : List (List PV)) (ad : Option Addr) (c : Nat) (news : List Value) : Prop where
  val : z = .slice ad rows.length c
  cap : rows.length ≤ c
  len : news.length = rows.length * sz
  addr : rows ≠ [] → ∃ b o, ad = some ⟨b, o, none⟩ ∧ ∀ (j : Nat) (u : Value), news[j]? = some u → w.cell? ⟨b, o + j, none⟩ = some u
  rel : ∀ (i j : Nat) (r : List PV) (x : PV), rows[i]? = some r → r[j]? = some x → ∃ u, news[i * sz + j]? = some u ∧ RP m u x
  one : ∀ u ∈ news, u.oneCell' = true
theorem SliceSrc.ones {sz : Nat} {rows : List (List PV)} {news : List Value} (h1 : 1 ≤ sz) (hok : okRows sz rows = true) (hl : news.length = rows.length * sz)
    (rel : ∀ (i j : Nat) (r : List PV) (x : PV), rows[i]? = some r → r[j]? = some x → ∃ u, news[i * sz + j]? = some u ∧ RP m u x) : ∀ u ∈ news, u.oneCell' = true := by
  intro u hu
  obtain ⟨k, hk, rfl⟩ := List.mem_iff_getElem.1 hu
  obtain ⟨k1, k2, k3⟩ := row_index (n := rows.length) h1 (by omega : k < rows.length * sz)
  have hrow := List.getElem?_eq_getElem k1
  have hlen := okRow_len (okRows_at hok hrow)
  have hc : (rows[k / sz])[k % sz]? = some ((rows[k / sz])[k % sz]'(by omega)) := List.getElem?_eq_getElem (by omega)
  obtain ⟨v, q1, q2⟩ := rel _ _ _ _ hrow hc
  rw [k3, List.getElem?_eq_getElem hk] at q1
  cases q1
  exact q2.one (okRow_flat (okRows_at hok hrow) _ (List.getElem_mem _))
theorem slice_src (hI : Inv m μ G w) {z : Value} {v : AV} (hr : R m μ (inf G) z v) {rows : List (List PV)} (hrow : rowsOf G v = some rows) (hns : ∀ l, v ≠ .p (.s l)) {sz : Nat} (h1 : 1 ≤ sz) (hok : okRows sz rows = true) :
    ∃ ad c news, SliceSrc m w sz z rows ad c news := by
  cases v with
  | p x =>
    cases x with
    | s l => exact absurd rfl (hns l)
    | sl rs =>
      simp [rowsOf] at hrow
      subst hrow
      cases hr with | p _ _ hp =>
      cases hp with | sl ad cap _ sz' f hcap hs ha hf =>
      have hss : ∀ i r, rs[i]? = some r → sz' = sz := fun i r h => by rw [← okRow_len (okRows_at hs h), okRow_len (okRows_at hok h)]
      have hrel : ∀ (i j : Nat) (r : List PV) (x : PV), rs[i]? = some r → r[j]? = some x → ∃ u, ((List.range (rs.length * sz)).map fun k => f (k / sz) (k % sz))[i * sz + j]? = some u ∧ RP m u x := by
        intro i j r x g1 g2
        have hi := (List.getElem?_eq_some_iff.1 g1).1
        have hj : j < sz := by rw [← okRow_len (okRows_at hok g1)]; exact (List.getElem?_eq_some_iff.1 g2).1
        have hlt : i * sz + j < rs.length * sz := by
          have : i * sz + sz ≤ rs.length * sz := by rw [← Nat.succ_mul]; exact Nat.mul_le_mul_right _ hi
          omega
        refine ⟨f i j, ?_, hf i j r x g1 g2⟩
        have e1 : (i * sz + j) / sz = i := by rw [Nat.mul_comm, Nat.mul_add_div h1, Nat.div_eq_of_lt hj]; rfl
        have e2 : (i * sz + j) % sz = j := by rw [Nat.mul_comm, Nat.mul_add_mod, Nat.mod_eq_of_lt hj]
        simp [List.getElem?_map, List.getElem?_range, hlt, e1, e2]
      have hlen : ((List.range (rs.length * sz)).map fun k => f (k / sz) (k % sz)).length = rs.length * sz := by simp
      refine ⟨ad, cap, (List.range (rs.length * sz)).map fun k => f (k / sz) (k % sz), rfl, hcap, hlen, fun hne => ?_, hrel, SliceSrc.ones h1 hok hlen hrel⟩
      obtain ⟨b, oo, e, hm⟩ := ha hne
      refine ⟨b, oo, e, fun j u hj => ?_⟩
      have hjl : j < rs.length * sz := by have := (List.getElem?_eq_some_iff.1 hj).1; rwa [hlen] at this
      obtain ⟨k1, k2, k3⟩ := row_index h1 hjl
      have hrow := List.getElem?_eq_getElem k1
      have hl' := okRow_len (okRows_at hok hrow)
      have := hm _ _ _ _ hrow (List.getElem?_eq_getElem (show j % sz < (rs[j / sz]).length by omega))
      rw [hss _ _ hrow, Nat.add_assoc, k3] at this
      have e2 : u = f (j / sz) (j % sz) := by
        simp [List.getElem?_map, List.getElem?_range, hjl] at hj
        exact hj.symm
      rw [e2]
      exact hI.known _ _ _ this
    | _ => simp [rowsOf] at hrow
  | nils =>
    simp [rowsOf] at hrow
    subst hrow
    cases hr
    exact ⟨none, 0, [], rfl, Nat.le_refl _, by simp, fun h => absurd rfl h, fun i j r x h => by simp at h, fun u h => by cases h⟩
  | arr id len gen =>
    simp only [rowsOf] at hrow
    split at hrow
    · rename_i sz' rs g sl hG
      split at hrow
      · rename_i hc
        cases hrow
        obtain ⟨hg, hle⟩ := hc
        subst hg
        cases hr with | arr _ _ _ ad n c loc g' szz q1 q2 q3 q4 =>
        have hinf : inf G id = some (some (g, sz')) := by simp [inf, hG, infO]
        rw [hinf] at q2
        cases q2
        obtain ⟨rfl, rfl, rfl⟩ := q4 rfl
        obtain ⟨cs, T, k1, k2, k3, k4, k5, k6, k7⟩ := hI.obj id _ hG loc q1
        have hl : (rs.take n).length = n := by simp; omega
        have hsz : n ≠ 0 → sz' = sz := fun hn => okRows_two (okRows_take k5) hok (by intro e; rw [e] at hl; simp at hl; omega)
        have hcs : n * sz ≤ cs.size := by
          rcases Nat.eq_zero_or_pos n with h0 | h0
          · subst h0; simp
          · rw [k2, hsz (by omega)]; exact Nat.mul_le_mul_right _ (by omega)
        have hlen : (cs.toList.take (n * sz)).length = (rs.take n).length * sz := by rw [hl]; simp; omega
        have hrel : ∀ (i j : Nat) (r : List PV) (x : PV), (rs.take n)[i]? = some r → r[j]? = some x → ∃ u, (cs.toList.take (n * sz))[i * sz + j]? = some u ∧ RP m u x := by
          intro i j r x g1 g2
          have hi : i < n := by have := (List.getElem?_eq_some_iff.1 g1).1; rwa [hl] at this
          have hj : j < sz := by rw [← okRow_len (okRows_at hok g1)]; exact (List.getElem?_eq_some_iff.1 g2).1
          have hlt : i * sz + j < n * sz := by
            have : i * sz + sz ≤ n * sz := by rw [← Nat.succ_mul]; exact Nat.mul_le_mul_right _ hi
            omega
          rw [List.getElem?_take, if_pos hi] at g1
          obtain ⟨u, p1, p2⟩ := k6 i j r x g1 g2
          rw [hsz (by omega)] at p1
          exact ⟨u, by rw [List.getElem?_take, if_pos hlt]; simpa using p1, p2⟩
        refine ⟨some ⟨loc.blk, 0, none⟩, loc.cap, cs.toList.take (n * sz), by rw [hl], by rw [hl]; omega, hlen, fun _ => ⟨loc.blk, 0, rfl, fun j u hj => ?_⟩, hrel, SliceSrc.ones h1 hok hlen hrel⟩
        rw [List.getElem?_take] at hj
        split at hj
        · rw [Nat.zero_add]
          simp only [World.cell?, k1]
          simpa using hj
        · cases hj
      · cases hrow
    · cases hrow
  | _ => simp [rowsOf] at hrow
theorem realloc_step (hI : Inv m μ G w) {id : Nat} {ty sz g sl : Nat} {rows : List (List PV)} {loc : Loc} (hG : G[id]? = some (.arr ty sz rows g sl)) (hl : μ id = some loc) {rows' : List (List PV)} {cs : Array Value} {cap : Nat} {w' : World}
    (hw : w'.heap = w.heap.push (.cells cs ty (0, 0))) (hos : w'.os = w.os) (htape : w'.tape = w.tape) (hout : w'.output = w.output)
    (h1 : 1 ≤ sz) (hsz : cs.size = cap * sz) (hcap : rows'.length ≤ cap) (hok : okRows sz rows' = true)
    (hf : ∀ (i j : Nat) (r : List PV) (c : PV), rows'[i]? = some r → r[j]? = some c → ∃ v, cs[i * sz + j]? = some v ∧ RP m v c) :
    Inv m (fun k => if k = id then some ⟨w.heap.size, cap⟩ else μ k) (G.set id (.arr ty sz rows' (g + 1) sl)) w' ∧
    Stp m μ G w m (fun k => if k = id then some ⟨w.heap.size, cap⟩ else μ k) (G.set id (.arr ty sz rows' (g + 1) sl)) w' := by
  have hid : id < G.length := (List.getElem?_eq_some_iff.1 hG).1
  have hold : inf G id = some (some (g, sz)) := by simp [inf, hG, infO]
  have hblk : ∀ b, b < w.heap.size → w'.heap[b]? = w.heap[b]? := fun b hb => by rw [hw]; simp [Array.getElem?_push, Nat.ne_of_lt hb]
  have hext : Ext m μ G m (fun k => if k = id then some ⟨w.heap.size, cap⟩ else μ k) (G.set id (.arr ty sz rows' (g + 1) sl)) := by
    refine ⟨fun _ _ _ h => h, fun k l h h' => ?_, fun k l g' sz' h h' => ?_⟩
    · have : k ≠ id := by intro e; subst e; rw [hold] at h'; cases h'
      exact ⟨by simp [this, h], by rw [inf_set _ _ _ _ this]; exact h'⟩
    · by_cases e : k = id
      · subst e
        rw [hold] at h'
        cases h'
        exact ⟨_, g + 1, by simp; rfl, by rw [inf_set_same _ _ _ hid]; rfl, by omega, fun e => by omega⟩
      · exact ⟨l, g', by simp [e, h], by rw [inf_set _ _ _ _ e]; exact h', Nat.le_refl _, fun _ => rfl⟩
  have hinv : ∀ k l, (fun k => if k = id then some (⟨w.heap.size, cap⟩ : Loc) else μ k) k = some l → (k = id ∧ l = ⟨w.heap.size, cap⟩) ∨ (k ≠ id ∧ μ k = some l) := fun k l h => by
    dsimp only at h
    split at h
    · cases h; exact .inl ⟨by assumption, rfl⟩
    · exact .inr ⟨by assumption, h⟩
  have hfr : Fr m μ w m (fun k => if k = id then some ⟨w.heap.size, cap⟩ else μ k) w' := ⟨hos, htape, hout, by rw [hw]; simp, fun b hb _ => hblk b hb, fun _ _ _ h => .inl h, fun k l hkl => by
    rcases hinv k l hkl with ⟨rfl, rfl⟩ | ⟨n1, h1'⟩
    · exact .inl (Nat.le_refl _)
    · exact .inr ⟨k, l, h1', rfl⟩⟩
  refine ⟨⟨?_, ?_, ?_, ?_, hI.glob.step hfr⟩, ⟨hext, hfr, ?_⟩⟩
  · intro b o v h
    have h1 := hI.known b o v h
    have h2 := World.block_lt_of_cell? w _ h1
    simp at h2
    unfold World.cell? at h1 ⊢
    dsimp only at h1 ⊢
    rw [hblk b h2]
    exact h1
  · intro i j l l' e1 e2 e
    rcases hinv i l e1 with ⟨rfl, rfl⟩ | ⟨n1, h1'⟩ <;> rcases hinv j l' e2 with ⟨rfl, rfl⟩ | ⟨n2, h2'⟩
    · rfl
    · have := hI.lt h2'; simp at e; omega
    · have := hI.lt h1'; simp at e; omega
    · exact hI.inj i j l l' h1' h2' e
  · intro k ob hk l hkl
    rcases hinv k l hkl with ⟨rfl, rfl⟩ | ⟨n1, h1'⟩
    · simp [hid] at hk
      subst hk
      exact ⟨cs, ty, by rw [hw]; simp, hsz, hcap, h1, hok, hf, fun o _ => hI.fresh (Nat.le_refl _) o, rfl⟩
    · rw [List.getElem?_set, if_neg (Ne.symm n1)] at hk
      exact (hI.obj k ob hk l h1').move hext (hblk _ (hI.lt h1')) (fun _ h => h)
  · intro k l hkl
    rcases hinv k l hkl with ⟨rfl, rfl⟩ | ⟨n1, h1'⟩
    · simpa using hid
    · simpa using hI.dom k l h1'
  · refine ⟨fun k hk ht => ?_, fun k hk hn => ?_⟩
    · by_cases e : k = id
      · exact ⟨_, by simp [e]; rfl⟩
      · obtain ⟨l, hl⟩ := ht (by simpa using hk)
        exact ⟨l, by simp [e, hl]⟩
    · have e : k ≠ id := by rintro rfl; rw [hl] at hn; cases hn
      refine ⟨by simp [e, hn], ?_⟩
      rw [List.getElem?_set, if_neg (Ne.symm e)]
end
end Go.Proofs.Z
end
section
namespace Go.Proofs.Z
open Go
variable [hP : HasP]
section
variable {P : Program} {o : Oper} {a : Act} {m : Mem} {μ : Mu} {G : Heap} {w : World}
theorem zeroOK_spec {sz : Nat} {e : TypeId} (h : zeroOK P sz e = true) : ∃ ie z, P.info? e = some ie ∧ ie.zero = some z ∧ z.cells.size = sz := by
  unfold zeroOK at h
  split at h
  · rename_i zs hz
    simp only [Bool.and_eq_true, beq_iff_eq] at h
    obtain ⟨ie, z, g1, g2, g3⟩ := cZero_R (m := fun _ _ => none) (μ := fun _ => none) hz h.2 (fun _ => none)
    exact ⟨ie, z, g1, g2, by have := g3.1; simp at this; rw [this]; exact h.1⟩
  · cases h
theorem zeroCells_size (zero : Array Value) (n : Nat) : (Builtin.zeroCells zero n).size = n * zero.size := by simp [Builtin.zeroCells]
theorem grownCap_ge (w : World) (need old : Nat) (e : TypeId) : need ≤ grownCap w need old e := by
  show need ≤ need + _
  exact Nat.le_add_right _ _
theorem app_src (hI : Inv m μ G w) {z : Value} {v : AV} (hr : R m μ (inf G) z v) {rows : List (List PV)} {str : Bool} (hrow : (if isStr v == str then rowsOf G v else none) = some rows) {sz : Nat} (h1 : 1 ≤ sz) (hok : okRows sz rows = true)
    {tx : TypeId} (hk : if str = true then P.underlying tx = some .string ∧ sz = 1 else ∃ e', P.underlying tx = some (.slice e')) :
    ∃ news, Src P sz tx z rows.length news w ∧ news.length = rows.length * sz ∧ (∀ (i j : Nat) (r : List PV) (x : PV), rows[i]? = some r → r[j]? = some x → ∃ u, news[i * sz + j]? = some u ∧ RP m u x) := by
  cases str with
  | true =>
    simp only [if_true] at hk
    obtain ⟨hk, rfl⟩ := hk
    cases v with
    | p x =>
      cases x with
      | s l =>
        simp [isStr, rowsOf] at hrow
        subst hrow
        have := hr.str_inv
        subst this
        refine ⟨byteCells ⟨l.toArray⟩, ?_, by rw [byteCells_length, bytes_size]; simp, fun i j r x g1 g2 => ?_⟩
        · have := Src.ofString (P := P) w hk ⟨l.toArray⟩
          rw [bytes_size] at this
          simpa using this
        · simp only [List.getElem?_map, Option.map_eq_some_iff] at g1
          obtain ⟨c, hc, rfl⟩ := g1
          cases j with
          | zero =>
            simp at g2
            subst g2
            exact ⟨.int .u8 c.toNat, by simp [byteCells, List.getElem?_map, hc], .i _ _⟩
          | succ j => simp at g2
      | _ => simp [isStr] at hrow
    | _ => simp [isStr] at hrow
  | false =>
    simp only [Bool.false_eq_true, if_false] at hk
    obtain ⟨e', hk⟩ := hk
    have hns : ∀ l, v ≠ .p (.s l) := by intro l e; subst e; simp [isStr] at hrow
    have hrow' : rowsOf G v = some rows := by
      split at hrow
      · exact hrow
      · cases hrow
    obtain ⟨ad, c, news, hs⟩ := slice_src hI hr hrow' hns h1 hok
    refine ⟨news, ?_, hs.len, hs.rel⟩
    rw [hs.val]
    cases ad with
    | none =>
      have : rows = [] := by
        apply Classical.byContradiction
        intro hne
        obtain ⟨b, oo, e, _⟩ := hs.addr hne
        cases e
      subst this
      have hn : news = [] := List.eq_nil_of_length_eq_zero (by simpa using hs.len)
      subst hn
      exact Src.ofNil w hk c
    | some ad =>
      refine Src.ofSlice w hk ad rows.length c news hs.len (fun j u hj => ?_) hs.one
      have hne : rows ≠ [] := by
        intro e
        subst e
        have := hs.len
        simp at this
        subst this
        simp at hj
      obtain ⟨b, oo, e, hc⟩ := hs.addr hne
      cases e
      rw [Addr.add_mid]
      exact hc j u hj
theorem rows_append {m : Mem} {sz : Nat} (h1 : 1 ≤ sz) {old new : List (List PV)} {cs : List Value} {news : List Value} (hlo : cs.length = old.length * sz)
    (ho : ∀ (i j : Nat) (r : List PV) (c : PV), old[i]? = some r → r[j]? = some c → ∃ v, cs[i * sz + j]? = some v ∧ RP m v c)
    (hok : okRows sz old = true)
    (hn : ∀ (i j : Nat) (r : List PV) (x : PV), new[i]? = some r → r[j]? = some x → ∃ u, news[i * sz + j]? = some u ∧ RP m u x) :
    ∀ (i j : Nat) (r : List PV) (c : PV), (old ++ new)[i]? = some r → r[j]? = some c → ∃ v, (cs ++ news)[i * sz + j]? = some v ∧ RP m v c := by
  intro i j r c g1 g2
  by_cases hi : i < old.length
  · rw [List.getElem?_append_left hi] at g1
    obtain ⟨v, k1, k2⟩ := ho i j r c g1 g2
    exact ⟨v, by rw [List.getElem?_append_left (List.getElem?_eq_some_iff.1 k1).1]; exact k1, k2⟩
  · rw [List.getElem?_append_right (by omega)] at g1
    obtain ⟨v, k1, k2⟩ := hn _ j r c g1 g2
    refine ⟨v, ?_, k2⟩
    have : old.length * sz ≤ i * sz := Nat.mul_le_mul_right _ (by omega)
    rw [List.getElem?_append_right (by omega), hlo]
    rw [← k1]
    congr 1
    rw [Nat.sub_mul]
    omega
theorem clip_cells {sz : Nat} (hI : Inv m μ G w) {ad : Option Addr} {rows : List (List PV)} (hp : RP m (.slice ad rows.length rows.length) (.sl rows)) (hs : okRows sz rows = true) (h1 : 1 ≤ sz) :
    ∃ OLD : List Value, OLD.length = rows.length * sz ∧ (Builtin.firstCells sz rows.length (.slice ad rows.length rows.length)).run P w.drew = .ok OLD.toArray w.drew ∧
      ∀ (i j : Nat) (r : List PV) (c : PV), rows[i]? = some r → r[j]? = some c → ∃ v, OLD[i * sz + j]? = some v ∧ RP m v c := by
  obtain ⟨a', cap, sz', f, e, hcap, hs', ha, hf⟩ := hp.sl_inv
  cases e
  cases rows with
  | nil =>
    refine ⟨[], by simp, ?_, fun i j r c h => by simp at h⟩
    cases ad with
    | none => exact run_firstCells_none _ _ _ _ _
    | some ad => exact run_firstCells_some w.drew sz 0 ad _ _ _ (by simp) (fun j v h => by simp at h)
  | cons r0 rs =>
    obtain ⟨b, o, rfl, hm⟩ := ha (by simp)
    have hsz : sz' = sz := okRows_two hs' hs (by simp)
    subst hsz
    have hcell : ∀ k, k < (r0 :: rs).length * sz' → ∃ v, m b (o + k) = some v := by
      intro k hk
      have hi : k / sz' < (r0 :: rs).length := Nat.div_lt_of_lt_mul (by rw [Nat.mul_comm]; exact hk)
      have hj : k % sz' < sz' := Nat.mod_lt _ (by omega)
      have hr := List.getElem?_eq_getElem hi
      have hl := okRow_len (okRows_at hs hr)
      have hc : k % sz' < ((r0 :: rs)[k / sz']).length := by omega
      have := hm _ _ _ _ hr (List.getElem?_eq_getElem hc)
      rw [show o + k / sz' * sz' + k % sz' = o + k by rw [Nat.add_assoc, Nat.mul_comm, Nat.div_add_mod]] at this
      exact ⟨_, this⟩
    let OLD : List Value := (List.range ((r0 :: rs).length * sz')).map fun k => (m b (o + k)).getD undef
    have hat : ∀ k v, OLD[k]? = some v → m b (o + k) = some v := by
      intro k v h
      simp only [OLD, List.getElem?_map, Option.map_eq_some_iff] at h
      obtain ⟨k', h1, h2⟩ := h
      rw [List.getElem?_eq_some_iff] at h1
      obtain ⟨h3, h4⟩ := h1
      simp at h3 h4
      subst h4
      obtain ⟨v', hv⟩ := hcell k (by simpa using h3)
      rw [hv] at h2
      simp at h2
      rw [hv, h2]
    refine ⟨OLD, by simp [OLD], ?_, fun i j r c h1 h2 => ?_⟩
    · refine run_firstCells_some w.drew sz' _ _ _ _ _ (by simp [OLD]) (fun j v hj => ?_)
      rw [Addr.add_mid]
      exact hI.known _ _ _ (hat j v hj)
    · have hj : j < sz' := by rw [← okRow_len (okRows_at hs h1)]; exact (List.getElem?_eq_some_iff.1 h2).1
      have hi := (List.getElem?_eq_some_iff.1 h1).1
      have hlt : i * sz' + j < (r0 :: rs).length * sz' := by
        have : i * sz' + sz' ≤ (r0 :: rs).length * sz' := by rw [← Nat.succ_mul]; exact Nat.mul_le_mul_right _ hi
        omega
      have := hm i j r c h1 h2
      refine ⟨f i j, ?_, hf i j r c h1 h2⟩
      simp only [OLD, List.getElem?_map]
      rw [List.getElem?_eq_getElem (by simpa using hlt)]
      simp [← Nat.add_assoc, this]
variable {N : Nat} {env : Env} (hI : Inv m μ G w) (he : EnvR m μ (inf G) N env a)
include hI he
theorem good_app {args : Array Operand} {ts : Array TypeId} {x y : Operand} {ox oy : Opd} {t tx e : TypeId} {str : Bool} {sz by_ : Nat} (ho : o.op = .call ⟨.builtin .append, args, ts⟩) (ha : args.toList = [x, y])
    (hts : ts[0]? = some t) (hts1 : ts[1]? = some tx) (htl : ts.size = 2) (ht : P.underlying t = some (.slice e)) (hn : cSize P e = some sz) (hb : cBytes P e = some by_) (hz : zeroOK P sz e = true) (h1 : 1 ≤ sz)
    (hk : if str = true then P.underlying tx = some .string ∧ sz = 1 else ∃ e', P.underlying tx = some (.slice e'))
    (hx : cOpd x = some ox) (hy : cOpd y = some oy) {u v : AV} (hu : opd env ox = some u) (hv : opd env oy = some v) {r : AV} {G' : Heap} (hap : evApp str e sz by_ G u v = some (r, G')) : Good P o a m μ G w (.val r G') := by
  have ha' : args = #[x, y] := by apply Array.ext'; simpa using ha
  have hts' : ts = #[t, tx] := by
    apply Array.ext
    · simpa using htl
    · intro i h2 h3
      have : i = 0 ∨ i = 1 := by simp at h3; omega
      rcases this with rfl | rfl
      · simp [Array.getElem?_eq_getElem h2] at hts; simp [hts]
      · simp [Array.getElem?_eq_getElem h2] at hts1; simp [hts1]
  have hrx := opd_R he hx hu
  have hry := opd_R he hy hv
  obtain ⟨ie, zv, g1, g2, g3⟩ := zeroOK_spec hz
  have hsize : ie.size = sz := by unfold cSize at hn; simpa [g1] using hn
  have hbytes : ie.bytes = by_ := by unfold cBytes at hb; simpa [g1] using hb
  unfold evApp at hap
  split at hap
  · cases hap
  · rename_i new hnew
    split at hap
    · rename_i hok
      obtain ⟨news, hsrc, hnl, hrel⟩ := app_src (P := P) hI hry hnew h1 hok hk
      have hsrc' : Src P ie.size tx (a.eval y) new.length news w := by rw [hsize]; exact hsrc
      have fin : ∀ {val : Value} {w' : World} {m' : Mem} {μ' : Mu}, (Builtin.append_ #[t, tx] o.type #[a.eval x, a.eval y]).run P w = .ok val w' → Inv m' μ' G' w' → Stp m μ G w m' μ' G' w' → R m' μ' (inf G') val r → Good P o a m μ G w (.val r G') := by
        intro val w' m' μ' hrun hI' hS hR ro next Q hnx
        refine wp_of_val ?_ (hnx _ _ _ _ hI' hS hR)
        simp [execOp, ho, ha', hts', resolve, invoke, builtin, hrun]
      cases u with
      | nils =>
        generalize hzx : a.eval x = z at hrx fin
        cases hrx
        cases new with
        | nil =>
          simp at hap
          obtain ⟨rfl, rfl⟩ := hap
          have hn0 : news = [] := List.eq_nil_of_length_eq_zero (by simpa using hnl)
          subst hn0
          refine fin ?_ hI (.refl _ _ _ _) .nils
          have hc0 := hsrc'.cells
          have hl0 := hsrc'.len
          simp only [List.length_nil] at hc0 hl0
          rcases hsrc'.kind with ⟨e', hk'⟩ | hk' <;> simp [Builtin.append_, run_underlying ht, run_underlying hk', sizeOf, typeInfo, g1, hl0, hc0]
        | cons n0 nr =>
          simp only at hap
          split at hap
          · rename_i hroom
            cases hap
            simp only [roomy, Bool.and_eq_true, decide_eq_true_eq] at hroom
            have hg := run_append_grow_src (P := P) w t tx o.type e ie zv ht g1 g2 none 0 0 [] (run_firstCells_none _ _ _ _ _) (a.eval y) (n0 :: nr).length news hsrc' (by simp) (by
              have := hroom.2
              simp only [Nat.zero_add]
              omega) (growslice_fits (by simp) (by rw [hbytes, Nat.zero_add]; have := hroom.1; omega))
            simp only [Nat.zero_add, List.nil_append] at hg
            have hge := grownCap_ge w (n0 :: nr).length 0 e
            obtain ⟨μ', hI2, hS2, hR⟩ := newArr (w := w.drew) (m := m) (μ := μ) (G := G) (by
                exact ⟨hI.known, hI.inj, hI.obj, hI.dom, hI.glob⟩) (cap := grownCap w (n0 :: nr).length 0 e) (rows := n0 :: nr)
              (cs := news.toArray ++ Builtin.zeroCells zv.cells (grownCap w (n0 :: nr).length 0 e - (n0 :: nr).length)) e h1 rfl (by
                rw [Array.size_append, zeroCells_size, g3]
                simp only [List.size_toArray, hnl]
                rw [← Nat.add_mul]
                congr 1
                omega) hge hok (fun i j r c q1 q2 => by
                  obtain ⟨v, k1, k2⟩ := hrel i j r c q1 q2
                  refine ⟨v, ?_, k2⟩
                  rw [Array.getElem?_append_left (by simpa using (List.getElem?_eq_some_iff.1 k1).1)]
                  simpa using k1)
            refine fin hg hI2 ?_ hR
            exact ⟨hS2.ext, ⟨hS2.fr.os, hS2.fr.tape, hS2.fr.output, hS2.fr.size, hS2.fr.blk, hS2.fr.mem, hS2.fr.loc⟩, hS2.tot⟩
          · cases hap
      | arr id len gen =>
        simp only at hap
        split at hap
        · rename_i sz' rows g sl hG
          split at hap
          · rename_i hc
            cases hap
            obtain ⟨hgen, hsl, hlen, ⟨hszz, htt⟩, hroom⟩ := hc
            subst hgen
            subst hszz
            have htt := htt.symm
            subst htt
            simp only [roomy, Bool.and_eq_true, decide_eq_true_eq] at hroom
            generalize hzx : a.eval x = z at hrx fin
            cases hrx with | arr _ _ _ ad n c loc g' szz q1 q2 q3 q4 =>
            have hinf : inf G id = some (some (g, sz')) := by simp [inf, hG, infO]
            rw [hinf] at q2
            cases q2
            obtain ⟨rfl, rfl, rfl⟩ := q4 rfl
            obtain ⟨cs, T, k1, k2, k3, k4, k5, k6, k7⟩ := hI.obj id _ hG loc q1
            have hidl : id < G.length := (List.getElem?_eq_some_iff.1 hG).1
            have hok' : okRows sz' (rows.take n ++ new) = true := by
              simp only [okRows, List.all_append, Bool.and_eq_true]
              exact ⟨okRows_take k5, hok⟩
            have hlt : (rows.take n).length = n := by simp; omega
            have hncs : n * sz' ≤ cs.size := by rw [k2]; exact Nat.mul_le_mul_right _ (by omega)
            have hcell : ∀ j, w.cell? ⟨loc.blk, j, none⟩ = cs[j]? := fun j => by simp [World.cell?, k1]
            have hfz : ∀ j, w.frozen? ⟨loc.blk, j, none⟩ = false := fun j => by
              simp [World.frozen?, k1]
            have hold : ∀ (i j : Nat) (r : List PV) (c : PV), (rows.take n)[i]? = some r → r[j]? = some c → ∃ v, (cs.toList.take (n * sz'))[i * sz' + j]? = some v ∧ RP m v c := by
              intro i j r c p1 p2
              have hi : i < n := by have := (List.getElem?_eq_some_iff.1 p1).1; rwa [hlt] at this
              rw [List.getElem?_take, if_pos hi] at p1
              have hj : j < sz' := by rw [← okRow_len (okRows_at k5 p1)]; exact (List.getElem?_eq_some_iff.1 p2).1
              have : i * sz' + j < n * sz' := by
                have : i * sz' + sz' ≤ n * sz' := by rw [← Nat.succ_mul]; exact Nat.mul_le_mul_right _ hi
                omega
              obtain ⟨v, e1, e2⟩ := k6 i j r c p1 p2
              exact ⟨v, by rw [List.getElem?_take, if_pos this]; simpa using e1, e2⟩
            have hall := rows_append (m := m) h1 (old := rows.take n) (new := new) (cs := cs.toList.take (n * sz')) (news := news) (by rw [hlt]; simp; omega) hold (okRows_take k5) hrel
            by_cases hfit : n + new.length ≤ loc.cap
            ·
              have hnn : n * sz' + news.length ≤ cs.size := by
                rw [k2, hnl, ← Nat.add_mul]; exact Nat.mul_le_mul_right _ hfit
              have hrun := run_append_room_src (P := P) w t tx o.type e ie ht g1 loc.blk 0 n loc.cap (a.eval y) new.length news hsrc' hfit (by
                intro j hj
                rw [hcell, hsize, Array.getElem?_eq_getElem (by omega)]; rfl) (fun j hj => hfz _)
              simp only [hsize, Nat.zero_add] at hrun
              obtain ⟨cs', s1, s2, s3, s4⟩ := setCells_heap loc.blk news (n * sz') w cs T (0, 0) k1 hnn
              obtain ⟨w1, w2, w3, w4, w5⟩ := setCells_other loc.blk news (n * sz') w
              obtain ⟨hI2, hS2⟩ := set_step (old := .arr e sz' rows g sl) (new := .arr e sz' (rows.take n ++ new) (g + 1) sl) hI hG q1 (w' := w.setCells loc.blk (n * sz') news) (cs := cs) (T := T) w1 w2 w3 w4 w5 (by
                  intro oo v hm
                  have hlt2 : oo < sl * sz' := by
                    apply Classical.byContradiction
                    intro hge
                    rw [k7.1 oo (by omega)] at hm
                    cases hm
                  have : sl * sz' ≤ n * sz' := Nat.mul_le_mul_right _ hsl
                  have hkk := hI.known _ _ _ hm
                  rw [hcell] at hkk
                  simp only [World.cell?, s1, Option.isSome_none, Bool.false_eq_true, if_false]
                  rw [s4 oo (.inl (by omega))]
                  exact hkk) (by simp [infO]) (by simp [infO]) (fun e => ⟨cs', T, s1, by rw [s2, k2], by simp [hlt]; omega, h1, hok', fun i j r c p1 p2 => by
                    obtain ⟨v, e1, e2⟩ := hall i j r c p1 p2
                    refine ⟨v, ?_, e2⟩
                    rw [← e1]
                    have htl : (cs.toList.take (n * sz')).length = n * sz' := by simp; omega
                    by_cases hb : i * sz' + j < n * sz'
                    · rw [s4 _ (.inl hb), List.getElem?_append_left (by omega), List.getElem?_take, if_pos hb]
                      simp
                    · rw [List.getElem?_append_right (by omega), htl]
                      have hlt3 : i * sz' + j - n * sz' < news.length := by
                        have := (List.getElem?_eq_some_iff.1 e1).1
                        rw [List.length_append, htl] at this
                        omega
                      rw [← s3 _ hlt3]
                      congr 1
                      omega, k7⟩)
              refine fin hrun hI2 hS2 ?_
              exact .arr _ _ _ _ _ _ loc (g + 1) sz' q1 (by rw [inf_set_same _ _ _ hidl]; rfl) (Nat.le_refl _) (fun _ => ⟨rfl, rfl, rfl⟩)
            ·
              have hold' : (Builtin.firstCells ie.size n (.slice (some ⟨loc.blk, 0, none⟩) n loc.cap)).run P w.drew = .ok (cs.toList.take (n * sz')).toArray w.drew := by
                rw [hsize]
                exact run_firstCells_some w.drew sz' n ⟨loc.blk, 0, none⟩ n loc.cap _ (by simp; omega) (fun j v hj => by
                  rw [Addr.add_mid]
                  rw [List.getElem?_take] at hj
                  split at hj
                  · show w.cell? _ = _
                    rw [Nat.zero_add, hcell]; simpa using hj
                  · cases hj)
              have hg := run_append_grow_src (P := P) w t tx o.type e ie zv ht g1 g2 (some ⟨loc.blk, 0, none⟩) n loc.cap _ hold' (a.eval y) new.length news hsrc' (by omega) (by
                have := hroom.2
                omega) (growslice_fits (by omega) (by rw [hbytes]; have := hroom.1; omega))
              have hge := grownCap_ge w (n + new.length) loc.cap e
              obtain ⟨hI2, hS2⟩ := realloc_step hI hG q1 (rows' := rows.take n ++ new) (cap := grownCap w (n + new.length) loc.cap e)
                (cs := (cs.toList.take (n * sz') ++ news).toArray ++ Builtin.zeroCells zv.cells (grownCap w (n + new.length) loc.cap e - (n + new.length)))
                (w' := w.drew.alloc (.cells ((cs.toList.take (n * sz') ++ news).toArray ++ Builtin.zeroCells zv.cells (grownCap w (n + new.length) loc.cap e - (n + new.length))) e)) rfl rfl rfl rfl h1 (by
                  rw [Array.size_append, zeroCells_size, g3]
                  have : (cs.toList.take (n * sz') ++ news).toArray.size = (n + new.length) * sz' := by
                    simp only [List.size_toArray, List.length_append, hnl, Nat.add_mul]
                    simp; omega
                  rw [this, ← Nat.add_mul]
                  congr 1
                  omega) (by simp [hlt]; omega) hok' (fun i j r c p1 p2 => by
                    obtain ⟨v, e1, e2⟩ := hall i j r c p1 p2
                    refine ⟨v, ?_, e2⟩
                    rw [Array.getElem?_append_left (by simpa using (List.getElem?_eq_some_iff.1 e1).1)]
                    simpa using e1)
              refine fin hg hI2 hS2 ?_
              exact .arr _ _ _ _ _ _ _ (g + 1) sz' (by simp; rfl) (by rw [inf_set_same _ _ _ hidl]; rfl) (Nat.le_refl _) (fun _ => ⟨rfl, rfl, rfl⟩)
          · cases hap
        · cases hap
      | clip old =>
        cases new with
        | nil => simp at hap
        | cons n0 nr =>
          simp only at hap
          split at hap
          · rename_i hc
            cases hap
            simp only [roomy, Bool.and_eq_true, decide_eq_true_eq] at hc
            obtain ⟨hoo, hroom⟩ := hc
            generalize hzx : a.eval x = z at hrx fin
            cases hrx with | clip ad _ hp =>
            obtain ⟨OLD, c1, c2, c3⟩ := clip_cells (P := P) hI hp hoo h1
            have hall := rows_append (m := m) h1 (old := old) (new := n0 :: nr) (cs := OLD) (news := news) c1 c3 hoo hrel
            have hg := run_append_grow_src (P := P) w t tx o.type e ie zv ht g1 g2 ad old.length old.length OLD (by rw [hsize]; exact c2) (a.eval y) (n0 :: nr).length news hsrc' (by simp) (by
              have := hroom.2
              omega) (growslice_fits (by simp) (by rw [hbytes]; have := hroom.1; omega))
            have hge := grownCap_ge w (old.length + (n0 :: nr).length) old.length e
            obtain ⟨μ', hI2, hS2, hR⟩ := newArr (w := w.drew) (m := m) (μ := μ) (G := G) (by
                exact ⟨hI.known, hI.inj, hI.obj, hI.dom, hI.glob⟩) (cap := grownCap w (old.length + (n0 :: nr).length) old.length e) (rows := old ++ n0 :: nr)
              (cs := (OLD ++ news).toArray ++ Builtin.zeroCells zv.cells (grownCap w (old.length + (n0 :: nr).length) old.length e - (old.length + (n0 :: nr).length))) e h1 rfl (by
                rw [Array.size_append, zeroCells_size, g3]
                have : (OLD ++ news).toArray.size = (old.length + (n0 :: nr).length) * sz := by
                  simp only [List.size_toArray, List.length_append, hnl, c1, Nat.add_mul]
                rw [this, ← Nat.add_mul]
                congr 1
                omega) (by simpa using hge) (by simp only [okRows, List.all_append, Bool.and_eq_true]; exact ⟨hoo, hok⟩) (fun i j r c q1 q2 => by
                  obtain ⟨v, k1, k2⟩ := hall i j r c q1 q2
                  refine ⟨v, ?_, k2⟩
                  rw [Array.getElem?_append_left (by simpa using (List.getElem?_eq_some_iff.1 k1).1)]
                  simpa using k1)
            refine fin hg hI2 ?_ (by simpa using hR)
            exact ⟨hS2.ext, ⟨hS2.fr.os, hS2.fr.tape, hS2.fr.output, hS2.fr.size, hS2.fr.blk, hS2.fr.mem, hS2.fr.loc⟩, hS2.tot⟩
          · cases hap
      | _ => simp at hap
    · cases hap
end
end Go.Proofs.Z
end
