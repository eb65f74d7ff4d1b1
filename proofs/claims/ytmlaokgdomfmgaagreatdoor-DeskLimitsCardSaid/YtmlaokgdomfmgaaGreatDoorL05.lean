/- A part of the proof. -/
import Derived.Test.YtmlaokgdomfmgaaGreatDoorL04
import Derived.Laws.BytesArg
import Derived.DeepKeys
set_option linter.all false
section
namespace Go.Proofs.Z
open Go
variable [hP : HasP]
section
variable {P : Program} {o : Oper} {a : Act} {m : Mem} {μ : Mu} {G : Heap} {w : World}
theorem addr_add_add (ad : Addr) (i j : Nat) : True := trivial
theorem store_run {t : TypeId} {n b off : Nat} {z : Value} (hn : cSize P t = some n) (hz : z.cells.size = n) (hc : ∀ j, j < n → (w.cell? ⟨b, off + j, none⟩).isSome = true) (hf : ∀ j, j < n → w.frozen? ⟨b, off + j, none⟩ = false)
    (h1 : ∀ u ∈ z.cells.toList, u.oneCell' = true) : (Instr.storeAt t (.pointer (some ⟨b, off, none⟩)) z).run P w = .ok () (w.setCells b off z.cells.toList) := by
  have hst := run_storeCells_cells (P := P) b off z.cells.toList 0 w (by simpa [hz] using hc) (by simpa [hz] using hf) h1
  simp only [Nat.add_zero] at hst
  simp [Instr.storeAt, Instr.sureAddr, storeVar, cSize_run hn, hz, hst]
variable {N : Nat} {env : Env} (hI : Inv m μ G w) (he : EnvR m μ (inf G) N env a)
include hI he
theorem good_store {x y : Operand} {ox oy : Opd} {t : TypeId} {n : Nat} (ho : o.op = .store t x y) (hn : cSize P t = some n) (hx : cOpd x = some ox) (hy : cOpd y = some oy) {u v : AV} (hu : opd env ox = some u) (hv : opd env oy = some v) {G' : Heap} (hs : evStore n G u v = some G') : Good P o a m μ G w (.val .undef G') := by
  have hru := opd_R he hx hu
  have hrv := opd_R he hy hv
  unfold evStore at hs
  split at hs
  · rename_i hvn
    cases u with
    | ptr id off =>
      simp only at hs
      split at hs
      · rename_i ty cs hG
        split at hs
        · rename_i hc
          cases hs
          generalize hzx : a.eval x = z at hru
          cases hru with | ptr _ _ loc h1 h2 =>
          obtain ⟨cv, T, k1, k2, k3, k4, k5⟩ := hI.obj id _ hG loc h1
          have hvc := RL.cellsOf hrv hc.2
          have hzn : (a.eval y).cells.size = n := by have := hvc.1; simp at this; omega
          have hcell : ∀ j, w.cell? ⟨loc.blk, j, none⟩ = cv[j]? := fun j => by simp [World.cell?, k1]
          have hone : ∀ q ∈ (a.eval y).cells.toList, q.oneCell' = true := by
            intro q hq
            obtain ⟨k, hk, rfl⟩ := List.mem_iff_getElem.1 hq
            have hk' : k < v.cells.length := by rw [← hvc.1]; exact hk
            exact (hvc.2 k _ _ (List.getElem?_eq_getElem hk) (List.getElem?_eq_getElem hk')).one (List.all_eq_true.1 hc.2 _ (List.getElem_mem _))
          have hrun := store_run (P := P) (w := w) (b := loc.blk) (off := off) hn hzn (fun j hj => by rw [hcell, Array.getElem?_eq_getElem (by omega)]; rfl) (fun j hj => by simp [World.frozen?, k1]) hone
          have hzl : (a.eval y).cells.toList.length = n := by simpa using hzn
          obtain ⟨cs', s1, s2, s3, s4⟩ := setCells_heap loc.blk (a.eval y).cells.toList off w cv T (0, 0) k1 (by omega)
          obtain ⟨w1, w2, w3, w4, w5⟩ := setCells_other loc.blk (a.eval y).cells.toList off w
          obtain ⟨hI2, hS2⟩ := set_step (old := .box ty cs) (new := .box ty (splice cs off v.cells)) hI hG h1 (w' := w.setCells loc.blk off (a.eval y).cells.toList) (cs := cv) (T := T) w1 w2 w3 w4 w5
            (fun oo q hm => by rw [k5.1 oo] at hm; cases hm) (by simp [infO]) (by simp [infO])
            (fun e => ⟨cs', T, s1, by rw [s2, k2, splice_length _ _ _ (by omega)], fun j q x' p1 p2 => by
              rw [splice_get _ _ _ (by omega)] at p2
              by_cases hj : off ≤ j ∧ j < off + v.cells.length
              · rw [if_pos hj] at p2
                have := s3 (j - off) (by omega)
                rw [show off + (j - off) = j by omega] at this
                rw [this] at p1
                exact (hvc.2 _ q x' p1 p2).mono e
              · rw [if_neg hj] at p2
                rw [s4 j (by omega)] at p1
                exact (k3 j q x' p1 p2).mono e, by
              rw [List.all_eq_true] at k4 ⊢
              intro q hq
              unfold splice at hq
              simp only [List.mem_append] at hq
              rcases hq with (hq | hq) | hq
              · exact k4 q (List.mem_of_mem_take hq)
              · exact List.all_eq_true.1 hc.2 q hq
              · exact k4 q (List.mem_of_mem_drop hq), k5⟩)
          intro ro next Q hnx
          refine wp_of_skip ?_ (hnx _ _ _ undef hI2 hS2 .undef)
          simp [execOp, ho, hzx, hrun]
        · cases hs
      · cases hs
    | eptr id idx off gen =>
      simp only at hs
      split at hs
      · cases hs
      · rename_i l G1 hnorm
        split at hs
        · rename_i ty sz rows g sl hG
          split at hs
          · rename_i hc
            obtain ⟨hg, hsl, hll, hfl⟩ := hc
            subst hg
            split at hs
            · rename_i row hrow
              split at hs
              · rename_i hle
                cases hs
                obtain ⟨m1, hI1, hS1, hvl⟩ := normP_sound hI hnorm hrv hfl
                generalize hzx : a.eval x = z at hru
                have hru1 := hru.mono hS1.ext
                cases hru1 with | eptr _ _ _ _ ad loc g' szz q1 q2 q3 q4 =>
                have hinf : inf G1 id = some (some (g, sz)) := by simp [inf, hG, infO]
                rw [hinf] at q2
                cases q2
                have had := q4 rfl
                subst had
                obtain ⟨cv, T, k1, k2, k3, k4, k5, k6, k7⟩ := hI1.obj id _ hG loc q1
                have hzn : (a.eval y).cells.size = n := by have := hvl.1; simp at this; omega
                have hzl : (a.eval y).cells.toList.length = n := by simpa using hzn
                have hcell : ∀ j, w.cell? ⟨loc.blk, j, none⟩ = cv[j]? := fun j => by simp [World.cell?, k1]
                have hidx : idx < rows.length := (List.getElem?_eq_some_iff.1 hrow).1
                have hrl := okRow_len (okRows_at k5 hrow)
                have hsize : idx * sz + sz ≤ cv.size := by
                  rw [k2, ← Nat.succ_mul]; exact Nat.mul_le_mul_right _ (by omega)
                have hone : ∀ q ∈ (a.eval y).cells.toList, q.oneCell' = true := by
                  intro q hq
                  obtain ⟨k, hk, rfl⟩ := List.mem_iff_getElem.1 hq
                  have hk' : k < l.length := by rw [← hvl.1]; exact hk
                  exact (hvl.2 k _ _ (List.getElem?_eq_getElem hk) (List.getElem?_eq_getElem hk')).one (List.all_eq_true.1 hfl _ (List.getElem_mem _))
                have hrun := store_run (P := P) (w := w) (b := loc.blk) (off := idx * sz + off) hn hzn (fun j hj => by rw [hcell, Array.getElem?_eq_getElem (by omega)]; rfl) (fun j hj => by simp [World.frozen?, k1]) hone
                obtain ⟨cs', s1, s2, s3, s4⟩ := setCells_heap loc.blk (a.eval y).cells.toList (idx * sz + off) w cv T (0, 0) k1 (by omega)
                obtain ⟨w1, w2, w3, w4, w5⟩ := setCells_other loc.blk (a.eval y).cells.toList (idx * sz + off) w
                have hokr : okRow sz (splice row off l) = true := by
                  simp only [okRow, Bool.and_eq_true, beq_iff_eq]
                  refine ⟨by rw [splice_length _ _ _ (by omega)]; exact hrl, ?_⟩
                  rw [List.all_eq_true]
                  intro q hq
                  unfold splice at hq
                  simp only [List.mem_append] at hq
                  rcases hq with (hq | hq) | hq
                  · exact okRow_flat (okRows_at k5 hrow) q (List.mem_of_mem_take hq)
                  · exact List.all_eq_true.1 hfl q hq
                  · exact okRow_flat (okRows_at k5 hrow) q (List.mem_of_mem_drop hq)
                obtain ⟨hI2, hS2⟩ := set_step (old := .arr ty sz rows g sl) (new := .arr ty sz (rows.set idx (splice row off l)) g sl) hI1 hG q1 (w' := w.setCells loc.blk (idx * sz + off) (a.eval y).cells.toList) (cs := cv) (T := T) w1 w2 w3 w4 w5
                  (fun oo q hm => by
                    have hlt2 : oo < sl * sz := by
                      apply Classical.byContradiction
                      intro hge
                      rw [k7.1 oo (by omega)] at hm
                      cases hm
                    have : sl * sz ≤ idx * sz := Nat.mul_le_mul_right _ hsl
                    have hkk := hI1.known _ _ _ hm
                    rw [hcell] at hkk
                    simp only [World.cell?, s1, Option.isSome_none, Bool.false_eq_true, if_false]
                    rw [s4 oo (.inl (by omega))]
                    exact hkk) (by simp [infO]) (by simp [infO])
                  (fun e => ⟨cs', T, s1, by rw [s2, k2], by simpa using k3, k4, okRows_set k5 hokr, fun i j r c p1 p2 => by
                    have hjr : j < sz := by rw [← okRow_len (okRows_at (okRows_set k5 hokr) p1)]; exact (List.getElem?_eq_some_iff.1 p2).1
                    by_cases hii : i = idx
                    · subst hii
                      rw [List.getElem?_set_self hidx] at p1
                      cases p1
                      rw [splice_get _ _ _ (by omega)] at p2
                      by_cases hj : off ≤ j ∧ j < off + l.length
                      · rw [if_pos hj] at p2
                        have := s3 (j - off) (by omega)
                        rw [show i * sz + off + (j - off) = i * sz + j by omega] at this
                        have hlt : j - off < (a.eval y).cells.toList.length := by omega
                        exact ⟨_, by rw [this, List.getElem?_eq_getElem hlt], hvl.2 _ _ c (List.getElem?_eq_getElem hlt) p2⟩
                      · rw [if_neg hj] at p2
                        obtain ⟨q, e1, e2⟩ := k6 i j row c hrow p2
                        exact ⟨q, by rw [s4 _ (by omega)]; exact e1, e2⟩
                    · rw [List.getElem?_set, if_neg (Ne.symm hii)] at p1
                      obtain ⟨q, e1, e2⟩ := k6 i j r c p1 p2
                      refine ⟨q, ?_, e2⟩
                      rw [s4 _ ?_]
                      · exact e1
                      · rcases Nat.lt_or_gt_of_ne hii with hlt | hgt
                        · have : i * sz + sz ≤ idx * sz := by rw [← Nat.succ_mul]; exact Nat.mul_le_mul_right _ hlt
                          omega
                        · have : idx * sz + sz ≤ i * sz := by rw [← Nat.succ_mul]; exact Nat.mul_le_mul_right _ hgt
                          omega, k7⟩)
                intro ro next Q hnx
                refine wp_of_skip ?_ (hnx _ _ _ undef hI2 (hS1.trans hS2) .undef)
                simp [execOp, ho, hzx, hrun]
              · cases hs
            · cases hs
          · cases hs
        · cases hs
    | _ => simp at hs
  · cases hs
end
end Go.Proofs.Z
end
section
namespace Go.Proofs.Z
open Go
variable [hP : HasP]
section
variable {P : Program} {o : Oper} {a : Act} {m : Mem} {μ : Mu} {G : Heap} {w : World}
theorem bounds_run (isSlice : Bool) (len cap : Nat) (lo hi : Option Int) (hlo : 0 ≤ lo.getD 0) (hle : lo.getD 0 ≤ hi.getD len) (hhi : hi.getD len ≤ cap) (hlc : len ≤ cap) (ol oh : Option Value)
    (hol : ∀ i, lo = some i → ∃ k, ol = some (.int k i)) (hon : lo = none → ol = none) (hoh : ∀ i, hi = some i → ∃ k, oh = some (.int k i)) (hhn : hi = none → oh = none) :
    (Instr.sliceBounds isSlice len cap ol oh none).run P w = .ok ((lo.getD 0).toNat, (hi.getD len).toNat, cap) w := by
  cases lo with
  | none =>
    rw [hon rfl]
    cases hi with
    | none => rw [hhn rfl]; simp [Instr.sliceBounds]
    | some h =>
      obtain ⟨k, rfl⟩ := hoh h rfl
      simp at hle hhi
      simp [Instr.sliceBounds, Instr.sliceBound, asIntOf, hle, hhi]
  | some l =>
    obtain ⟨k, rfl⟩ := hol l rfl
    cases hi with
    | none =>
      rw [hhn rfl]
      simp at hle hlo
      simp [Instr.sliceBounds, Instr.sliceBound, asIntOf, hle, hlo]
    | some h =>
      obtain ⟨k', rfl⟩ := hoh h rfl
      simp at hle hlo hhi
      have h0 : 0 ≤ h := by omega
      have hle' : l ≤ (h.toNat : Int) := by omega
      have e : max h 0 = h := by omega
      simp [Instr.sliceBounds, Instr.sliceBound, asIntOf, hlo, hhi, h0, hle', e, hle]
theorem cOpt_spec {env : Env} {N : Nat} (he : EnvR m μ (inf G) N env a) {x : Option Operand} {ox : Option Opd} (hc : cOpt x = some ox) {lo : Option Int} (h : (match ox with | none => some none | some o => ((opd env o).bind asInt).map some) = some lo) :
    (∀ i, lo = some i → ∃ k, x.map a.eval = some (.int k i)) ∧ (lo = none → x.map a.eval = none) := by
  cases x with
  | none =>
    simp [cOpt] at hc
    subst hc
    simp at h
    subst h
    exact ⟨fun i h => (by cases h), fun _ => rfl⟩
  | some x =>
    simp only [cOpt, Option.map_eq_some_iff] at hc
    obtain ⟨b, hb, rfl⟩ := hc
    change ((opd env b).bind asInt).map some = some lo at h
    cases hq : opd env b with
    | none => rw [hq] at h; cases h
    | some v =>
    have hv := hq
    rw [hq] at h
    cases hi : asInt v with
    | none => simp [hi] at h
    | some i =>
    simp only [Option.bind_some, hi, Option.map_some, Option.some.injEq] at h
    subst h
    refine ⟨fun j hj => ?_, fun h => by cases h⟩
    cases hj
    have hr := opd_R he hb hv
    unfold asInt at hi
    split at hi
    · rename_i k n
      cases hi
      exact ⟨k, by rw [Option.map_some, hr.int_inv]⟩
    · cases hi
theorem sub_rows {ad : Option Addr} {cap : Nat} {rows : List (List PV)} {sz : Nat} (hp : RP m (.slice ad rows.length cap) (.sl rows)) (hok : okRows sz rows = true) (l h : Nat) (hlh : l ≤ h) (hh : h ≤ rows.length) :
    RP m (.slice (if cap = l then ad else ad.map (·.add (l * sz))) (h - l) (cap - l)) (.sl ((rows.take h).drop l)) := by
  obtain ⟨ad', cap', sz', f, he, hcap, hs, ha, hf⟩ := hp.sl_inv
  injection he with e1 e2 e3
  subst e1
  subst e3
  have hlen : ((rows.take h).drop l).length = h - l := by simp; omega
  have hget : ∀ i, ((rows.take h).drop l)[i]? = if l + i < h then rows[l + i]? else none := fun i => by
    rw [List.getElem?_drop, List.getElem?_take]
  have key : RP m (.slice (if cap = l then ad else ad.map (·.add (l * sz))) ((rows.take h).drop l).length (cap - l)) (.sl ((rows.take h).drop l)) := by
    refine .sl _ _ _ sz' (fun i j => f (l + i) j) (by rw [hlen]; omega) (okRows_drop (okRows_take hs)) (fun hne => ?_) (fun i j r c g1 g2 => ?_)
    · have hlt : l < h := by
        apply Classical.byContradiction
        intro hge
        exact hne (List.eq_nil_of_length_eq_zero (by rw [hlen]; omega))
      have hrne : rows ≠ [] := by intro e; subst e; simp at hh; omega
      obtain ⟨b, oo, rfl, hm⟩ := ha hrne
      have hss := okRows_two hs hok hrne
      refine ⟨b, oo + l * sz, by rw [if_neg (by omega)]; simp [Addr.add_mid], fun i j r c g1 g2 => ?_⟩
      rw [hget] at g1
      split at g1
      · have := hm _ _ _ _ g1 g2
        rw [← this, hss]
        congr 1
        rw [Nat.add_mul]
        omega
      · cases g1
    · rw [hget] at g1
      split at g1
      · exact hf _ _ _ _ g1 g2
      · cases g1
  rw [hlen] at key
  exact key
variable {N : Nat} {env : Env} (hI : Inv m μ G w) (he : EnvR m μ (inf G) N env a)
include hI he
theorem good_subs {x : Operand} {ox : Opd} {lo hi : Option Operand} {olo ohi : Option Opd} {t : TypeId} {d : TypeDesc} {sz : Nat} (ho : o.op = .slice t x lo hi none) (ht : P.underlying t = some d) (hd : (d = .string) ∨ (∃ e, d = .slice e ∧ cSize P e = some sz)) (hx : cOpd x = some ox) (hlo : cOpt lo = some olo) (hhi : cOpt hi = some ohi)
    {v : AV} (hv : opd env ox = some v) {l h : Option Int} (hl : (match olo with | none => some none | some o => ((opd env o).bind asInt).map some) = some l) (hh : (match ohi with | none => some none | some o => ((opd env o).bind asInt).map some) = some h)
    (hstr : (d = .string) ↔ isStr v = true) {r : AV} {G' : Heap} (hs : evSub sz G v l h = some (r, G')) : Good P o a m μ G w (.val r G') := by
  have hr := opd_R he hx hv
  obtain ⟨a1, a2⟩ := cOpt_spec he hlo hl
  obtain ⟨b1, b2⟩ := cOpt_spec he hhi hh
  have fin : ∀ {val : Value} {m' : Mem}, (Instr.slice t (a.eval x) (lo.map a.eval) (hi.map a.eval) none).run P w = .ok val w → (∀ n e, d ≠ .array n e) → Inv m' μ G' w → Stp m μ G w m' μ G' w → R m' μ (inf G') val r → Good P o a m μ G w (.val r G') := by
    intro val m' hrun hna hI' hS hR ro next Q hnx
    refine wp_of_val ?_ (hnx _ _ _ _ hI' hS hR)
    have : (Instr.sliceAt t (a.eval x) (lo.map a.eval) (hi.map a.eval) none).run P w = .ok val w := by
      simp only [Instr.sliceAt, Sem.run_bind, run_underlying ht, Result.andThen_ok]
      rcases hd with rfl | ⟨e, rfl, _⟩ <;> exact hrun
    simp [execOp, ho, this]
  have hna : ∀ n e, d ≠ .array n e := by rcases hd with rfl | ⟨e, rfl, _⟩ <;> simp
  cases v with
  | p y =>
    cases y with
    | s s =>
      have hd' := hstr.2 rfl
      subst hd'
      have hz := hr.str_inv
      simp only [evSub] at hs
      split at hs
      · rename_i hc
        cases hs
        have hb := bounds_run (P := P) (w := w) false s.length s.length l h hc.1 hc.2.1 hc.2.2 (Nat.le_refl _) _ _ a1 a2 b1 b2
        refine fin (val := .string ⟨((s.take (h.getD s.length).toNat).drop (l.getD 0).toNat).toArray⟩) ?_ hna hI (.refl _ _ _ _) (.str _)
        simp [Instr.slice, run_underlying ht, hz, bytes_size, hb, bytes_extract]
      · cases hs
    | sl rows =>
      have hd' : ∃ e, d = .slice e ∧ cSize P e = some sz := by
        rcases hd with rfl | hd
        · have := hstr.1 rfl; simp [isStr] at this
        · exact hd
      obtain ⟨e, rfl, hn⟩ := hd'
      simp only [evSub] at hs
      split at hs
      · rename_i hc
        cases hs
        generalize hzx : a.eval x = z at hr fin
        cases hr with | p _ _ hp =>
        have hp' := hp
        cases hp' with | sl ad cap _ sz' f hcap hs' ha hf =>
        have hb := bounds_run (P := P) (w := w) true rows.length cap l h hc.1 hc.2.1 (by have := hc.2.2.1; omega) hcap _ _ a1 a2 b1 b2
        have hlh : (l.getD 0).toNat ≤ (h.getD rows.length).toNat := by have := hc.2.1; omega
        have hhr : (h.getD rows.length).toNat ≤ rows.length := by have := hc.2.2.1; omega
        refine fin ?_ hna hI (.refl _ _ _ _) (.p _ _ (sub_rows hp hc.2.2.2 _ _ hlh hhr))
        simp [Instr.slice, run_underlying ht, hb, cSize_run hn]
      · cases hs
    | _ => simp [evSub] at hs
  | nils =>
    have hd' : ∃ e, d = .slice e ∧ cSize P e = some sz := by
      rcases hd with rfl | hd
      · have := hstr.1 rfl; simp [isStr] at this
      · exact hd
    obtain ⟨e, rfl, hn⟩ := hd'
    simp only [evSub] at hs
    split at hs
    · rename_i hc
      cases hs
      generalize hzx : a.eval x = z at hr fin
      cases hr
      have hb := bounds_run (P := P) (w := w) true 0 0 l h (by omega) (by simp; omega) (by simp; omega) (Nat.le_refl _) _ _ a1 a2 b1 b2
      refine fin (val := .slice none 0 0) ?_ hna hI (.refl _ _ _ _) .nils
      have e1 : (l.getD 0).toNat = 0 := by omega
      have e2 : (h.getD 0).toNat = 0 := by omega
      simp only [Int.natCast_zero, e1, e2] at hb
      simp [Instr.slice, run_underlying ht, hb, cSize_run hn, e2]
    · cases hs
  | arr id len gen =>
    have hd' : ∃ e, d = .slice e ∧ cSize P e = some sz := by
      rcases hd with rfl | hd
      · have := hstr.1 rfl; simp [isStr] at this
      · exact hd
    obtain ⟨e, rfl, hn⟩ := hd'
    simp only [evSub] at hs
    split at hs
    · rename_i sz' rows g sl hG
      split at hs
      · rename_i hc
        obtain ⟨hg, hsz, h0, h1, h2, h3⟩ := hc
        subst hg
        subst hsz
        generalize hzx : a.eval x = z at hr fin
        have hr0 := hr
        cases hr with | arr _ _ _ ad n c loc g' szz q1 q2 q3 q4 =>
        have hinf : inf G id = some (some (g, sz')) := by simp [inf, hG, infO]
        have q2' := q2
        rw [hinf] at q2'
        cases q2'
        obtain ⟨rfl, rfl, rfl⟩ := q4 rfl
        obtain ⟨cs, T, k1, k2, k3, k4, k5, k6, k7⟩ := hI.obj id _ hG loc q1
        have hb := bounds_run (P := P) (w := w) true n loc.cap l h h0 h1 (by omega) (by omega) _ _ a1 a2 b1 b2
        split at hs
        · rename_i ho0
          cases hs
          have e1 : (l.getD 0).toNat = 0 := by omega
          refine fin (val := .slice (some ⟨loc.blk, 0, none⟩) (h.getD n).toNat loc.cap) ?_ hna hI (.refl _ _ _ _) (.arr _ _ _ _ _ _ loc g sz' q1 q2 (Nat.le_refl _) (fun _ => ⟨rfl, rfl, rfl⟩))
          simp [Instr.slice, run_underlying ht, hb, cSize_run hn, e1, Addr.add_mid]
        · cases hs
          obtain ⟨m', hI', hS, ⟨bk, hz, hcap, hm⟩, hok, hs1⟩ := norm_arr hI hr0 hG rfl h3
          have hl : (rows.take n).length = n := by simp; omega
          have hRP := RP.ofBlock (m := m') (b := bk) (o := 0) (sz := sz') (cap := loc.cap) (rows := rows.take n) (by omega) (okRows_take hok) (by simpa using hm)
          simp only [Value.slcap] at hz
          have hbk : bk = loc.blk := by injection hz with e1 _ _; injection e1 with e1; injection e1 with e1 _ _; exact e1.symm
          subst hbk
          have hlh : (l.getD 0).toNat ≤ (h.getD n).toNat := by omega
          have hsub := sub_rows hRP (okRows_take hok) (l.getD 0).toNat (h.getD n).toNat hlh (by omega)
          have htt : (rows.take n).take (h.getD n).toNat = rows.take (h.getD n).toNat := by rw [List.take_take]; congr 1; omega
          rw [htt] at hsub
          refine fin ?_ hna hI' hS (.p _ _ hsub)
          simp [Instr.slice, run_underlying ht, hb, cSize_run hn]
      · cases hs
    · cases hs
  | _ => simp [evSub] at hs
theorem good_tostr {x : Operand} {ox : Opd} {s d e : TypeId} (ho : o.op = .convert s d x) (hs : P.underlying s = some (.slice e)) (hd : P.underlying d = some .string) (hu : P.underlying e = some (.int .u8)) (hx : cOpd x = some ox) {v : AV} (hv : opd env ox = some v) {l : List UInt8} (hl : (if isStr v then none else (rowsOf G v).bind bytesOf) = some l) : Good P o a m μ G w (.val (.p (.s l)) G) := by
  have hr := opd_R he hx hv
  split at hl
  · cases hl
  · rename_i hns
    simp only [Option.bind_eq_some_iff] at hl
    obtain ⟨rows, h1, h2⟩ := hl
    have hok : okRows 1 rows = true := by
      clear h1
      induction rows generalizing l with
      | nil => rfl
      | cons r rows ih =>
        unfold bytesOf at h2
        split at h2
        · rename_i heq; cases heq
        · rename_i n r' heq
          cases heq
          split at h2
          · rename_i l' hl'
            simp only [okRows, List.all_cons, Bool.and_eq_true]
            exact ⟨rfl, ih hl'⟩
          · cases h2
        · cases h2
    obtain ⟨ad, c, news, hsrc⟩ := slice_src hI hr h1 (by intro l e; subst e; simp [isStr] at hns) (Nat.le_refl 1) hok
    have hbytes : ∀ (j : Nat) (u : Value), news[j]? = some u → ∃ n, u = .int .u8 n ∧ l[j]? = some (UInt8.ofNat n.toNat) := by
      have hlen := hsrc.len
      have hrel := hsrc.rel
      clear hsrc h1 hok
      induction rows generalizing l news with
      | nil =>
        intro j u hj
        have : news = [] := List.eq_nil_of_length_eq_zero (by simpa using hlen)
        subst this
        simp at hj
      | cons r rows ih =>
        unfold bytesOf at h2
        split at h2
        · rename_i heq; cases heq
        · rename_i n r' heq
          cases heq
          split at h2
          · rename_i l' hl'
            cases h2
            cases news with
            | nil => simp at hlen
            | cons u0 news =>
              intro j u hj
              cases j with
              | zero =>
                simp at hj
                subst hj
                obtain ⟨q, e1, e2⟩ := hrel 0 0 _ _ rfl rfl
                simp at e1
                subst e1
                cases e2
                exact ⟨n, rfl, rfl⟩
              | succ j =>
                refine ih (l := l') (news := news) hl' (by simpa using hlen) (fun i j r x g1 g2 => ?_) j u (by simpa using hj)
                obtain ⟨q, e1, e2⟩ := hrel (i + 1) j r x (by simpa using g1) g2
                refine ⟨q, ?_, e2⟩
                rw [← e1, show (i + 1) * 1 + j = (i * 1 + j) + 1 by omega]
                simp
          · cases h2
        · cases h2
    have hll : l.length = rows.length := by
      clear hbytes hsrc h1 hok
      induction rows generalizing l with
      | nil => simp [bytesOf] at h2; subst h2; rfl
      | cons r rows ih =>
        unfold bytesOf at h2
        split at h2
        · rename_i heq; cases heq
        · rename_i n r' heq
          cases heq
          split at h2
          · rename_i l' hl'
            cases h2
            simp [ih hl']
          · cases h2
        · cases h2
    have hn : news.length = rows.length := by have := hsrc.len; omega
    have hconv : (convert s d (a.eval x)).run P w = .ok (.string ⟨l.toArray⟩) w := by
      rw [hsrc.val]
      by_cases hr0 : rows = []
      · subst hr0
        have : l = [] := List.eq_nil_of_length_eq_zero (by simpa using hll)
        subst this
        cases ad with
        | none => rw [run_convert_bytes_nil w s e hs hu _ _ d hd]; rfl
        | some ad =>
          rw [run_convert_bytes_string w s d e _ _ _ hs hu hd]
          simp [Conv.bytesToString, loadCells, loadCellsFrom]
          rfl
      · obtain ⟨b, oo, rfl, hc⟩ := hsrc.addr hr0
        rw [run_convert_bytes_arg w s e hs hu b oo rows.length c (news.map fun u => match u with | .int _ n => n | _ => 0) (by simpa using hn) (fun i hi => by
          obtain ⟨n, h3, h4⟩ := hbytes i _ (List.getElem?_eq_getElem (by omega))
          rw [hc i _ (List.getElem?_eq_getElem (by omega)), h3]
          simp [List.getD_eq_getElem?_getD, List.getElem?_map, List.getElem?_eq_getElem (show i < news.length by omega), h3]) d hd]
        congr 2
        unfold strOfNums
        congr 2
        apply List.ext_getElem?
        intro j
        rw [List.map_map, List.getElem?_map]
        by_cases hj : j < news.length
        · obtain ⟨n, h3, h4⟩ := hbytes j _ (List.getElem?_eq_getElem hj)
          rw [List.getElem?_eq_getElem hj, h4, Option.map_some]
          simp [h3]
        · rw [List.getElem?_eq_none (by omega), List.getElem?_eq_none (by omega)]
          rfl
    exact .same hI (by simp [execOp, ho, hconv]) (.str _)
end
end Go.Proofs.Z
end
section
namespace Go.Proofs.Z
open Go
variable [hP : HasP]
section
variable {P : Program} {o : Oper} {a : Act} {m : Mem} {μ : Mu} {G : Heap} {w : World}
theorem leaf_bool {x y : PV} {u v : Value} (hx : RP m u x) (hy : RP m v y) {b : Bool} (h : leafEq 0 x y = some b) {t : TypeId} (d : Nat) (hu : P.underlying t = some .bool) :
    (Op.equalIn (d + 1) t u v).run P w = .ok b w := by
  cases x <;> cases y <;> simp [leafEq] at h
  subst h
  cases hx; cases hy
  simp [Op.equalIn, run_underlying hu]
theorem leaf_int {x y : PV} {u v : Value} (hx : RP m u x) (hy : RP m v y) {b : Bool} (h : leafEq 1 x y = some b) {t : TypeId} (d : Nat) {k : IntKind} (hu : P.underlying t = some (.int k)) :
    (Op.equalIn (d + 1) t u v).run P w = .ok b w := by
  cases x <;> cases y <;> simp [leafEq] at h
  obtain ⟨rfl, rfl⟩ := h
  cases hx; cases hy
  rename_i p q
  simp [Op.equalIn, run_underlying hu]
  by_cases e : p = q <;> simp [e]
theorem leaf_str {x y : PV} {u v : Value} (hx : RP m u x) (hy : RP m v y) {b : Bool} (h : leafEq 2 x y = some b) {t : TypeId} (d : Nat) (hu : P.underlying t = some .string) :
    (Op.equalIn (d + 1) t u v).run P w = .ok b w := by
  cases x <;> cases y <;> simp [leafEq] at h
  subst h
  cases hx; cases hy
  rename_i p q
  simp [Op.equalIn, run_underlying hu, bytes_toList, beq_toListBytes]
  by_cases e : p = q <;> simp [e]
theorem R.p_inv {i : Inf} {v : Value} {x : PV} (h : R m μ i v (.p x)) : RP m v x := by
  cases h; assumption
theorem RP.inil_inv {v : Value} (h : RP m v .inil) : v = .nilIface := by cases h; rfl
theorem RP.pn_inv {v : Value} (h : RP m v .pn) : v = .pointer none := by cases h; rfl
theorem RP.fnil_inv {v : Value} (h : RP m v .fnil) : v = .nilFunc := by cases h; rfl
theorem RP.ifc_inv {v : Value} {t : Nat} {x : PV} (h : RP m v (.ifc t x)) : ∃ z, v = .iface t z := by cases h; exact ⟨_, rfl⟩
theorem R.ifc_inv {i : Inf} {v : Value} {t : Nat} {x : AV} (h : R m μ i v (.ifc t x)) : ∃ z, v = .iface t z := by cases h; exact ⟨_, rfl⟩
theorem R.ptr_inv {i : Inf} {v : Value} {id off : Nat} (h : R m μ i v (.ptr id off)) : ∃ z, v = .pointer (some z) := by cases h; exact ⟨_, rfl⟩
theorem R.fn_inv {i : Inf} {v : Value} {f : Nat} {p q : List AV} (h : R m μ i v (.fn f p q)) : ∃ g b c, v = .func g b c := by cases h; exact ⟨_, _, _, rfl⟩
theorem part_at {t : TypeId} {n : Nat} (hn : cSize P t = some n) {xs : Array Value} {base sz off : Nat} (h1 : 1 ≤ n) (hle : off + n ≤ sz) (hs : base + sz ≤ xs.size) :
    (part t (xs.extract base (base + sz)) off).run P w = (part t xs (base + off)).run P w := by
  simp only [part, Sem.run_bind]
  cases hq : (isAgg t).run P w with
  | halt h w' => rfl
  | ok b w' =>
    simp only [Result.andThen_ok]
    cases b with
    | true =>
      have e : (xs.extract base (base + sz)).extract off (off + n) = xs.extract (base + off) (base + off + n) := by
        rw [Array.extract_extract]
        congr 1
        rw [Nat.min_eq_left (by omega)]
        omega
      simp [cSize_run hn, Nat.min_eq_left hle, Nat.add_assoc]
    | false =>
      simp only [Bool.false_eq_true, if_false]
      have e : (xs.extract base (base + sz))[off]? = xs[base + off]? := by
        rw [Array.getElem?_extract, if_pos (by omega)]
      rw [e]
theorem leaves_append (l l' : List (Nat × Nat)) (xs ys : List AV) {r : Bool} (h : leavesEq (l ++ l') xs ys = some r) : ∃ r1 r2, leavesEq l xs ys = some r1 ∧ leavesEq l' xs ys = some r2 ∧ r = (r1 && r2) := by
  induction l generalizing r with
  | nil => exact ⟨true, r, rfl, h, by simp⟩
  | cons p l ih =>
    rcases p with ⟨o, k⟩
    simp only [List.cons_append, leavesEq] at h ⊢
    split at h
    · split at h
      · cases h
      · rename_i e he
        split at h
        · cases h
        · rename_i e' he'
          cases h
          obtain ⟨r1, r2, h1, h2, rfl⟩ := ih he'
          exact ⟨e && r1, r2, by simp [he, h1], h2, by simp [Bool.and_assoc]⟩
    · cases h
theorem leaves_sound : ∀ (d : Nat) (t : TypeId) (base : Nat) (offs : List (Nat × Nat)), leafOffs P d t base = some offs → ∀ (n : Nat), cSize P t = some n → ∀ (xs ys : Array Value) (X Y : List AV) (i : Inf),
    RL m μ i xs.toList X → RL m μ i ys.toList Y → base + n ≤ xs.size → base + n ≤ ys.size → ∀ (r : Bool), leavesEq offs X Y = some r → ∀ D,
    ∃ u v, (part t xs base).run P w = .ok u w ∧ (part t ys base).run P w = .ok v w ∧ (Op.equalIn (D + d) t u v).run P w = .ok r w
  | 0, t, base, offs, h, _, _ => by simp [leafOffs] at h
  | d + 1, t, base, offs, h, n, hn => by
    intro xs ys X Y i hX hY hxs hys r hr D
    unfold leafOffs at h
    have leaf : ∀ k, offs = [(base, k)] → cAgg P t = some false → (∀ {x y : PV} {u v : Value}, RP m u x → RP m v y → ∀ {b : Bool}, leafEq k x y = some b → (Op.equalIn (D + d + 1) t u v).run P w = .ok b w) →
        ∃ u v, (part t xs base).run P w = .ok u w ∧ (part t ys base).run P w = .ok v w ∧ (Op.equalIn (D + (d + 1)) t u v).run P w = .ok r w := by
      intro k ho hg hl
      subst ho
      simp only [leavesEq] at hr
      split at hr
      · rename_i x y h1 h2
        split at hr
        · cases hr
        · rename_i e he
          cases hr
          have e1 : base < xs.size := by have := (List.getElem?_eq_some_iff.1 h1).1; have := hX.1; simp at this; omega
          have e2 : base < ys.size := by have := (List.getElem?_eq_some_iff.1 h2).1; have := hY.1; simp at this; omega
          have r1 := hX.2 base xs[base] _ (by rw [Array.getElem?_toList, Array.getElem?_eq_getElem e1]) h1
          have r2 := hY.2 base ys[base] _ (by rw [Array.getElem?_toList, Array.getElem?_eq_getElem e2]) h2
          refine ⟨xs[base], ys[base], by simp [part, cAgg_cell hg, Array.getElem?_eq_getElem e1], by simp [part, cAgg_cell hg, Array.getElem?_eq_getElem e2], ?_⟩
          exact hl r1.p_inv r2.p_inv (by rw [he, Bool.and_true])
      · cases hr
    split at h
    · rename_i hu
      split at h
      · cases h
        exact leaf 0 rfl (by simp [cAgg, hu]) (fun h1 h2 b h3 => leaf_bool h1 h2 h3 _ hu)
      · cases h
    · rename_i k hu
      split at h
      · cases h
        exact leaf 1 rfl (by simp [cAgg, hu]) (fun h1 h2 b h3 => leaf_int h1 h2 h3 _ hu)
      · cases h
    · rename_i hu
      split at h
      · cases h
        exact leaf 2 rfl (by simp [cAgg, hu]) (fun h1 h2 b h3 => leaf_str h1 h2 h3 _ hu)
      · cases h
    · rename_i fs hu
      split at h
      · cases h
      · rename_i hst
        rw [hn] at h
        simp only [Option.map_eq_some_iff] at h
        obtain ⟨ls, hls, rfl⟩ := h
        have hg : cAgg P t = some true := by simp [cAgg, hu]
        refine ⟨.agg (xs.extract base (base + n)), .agg (ys.extract base (base + n)), by simp [part, cAgg_agg hg, cSize_run hn], by simp [part, cAgg_agg hg, cSize_run hn], ?_⟩
        have hf : P.fieldsOf t = fs := by simp [Program.fieldsOf, hu]
        rw [show D + (d + 1) = (D + d) + 1 from rfl, run_equalIn_struct (P := P) w (D + d) t _ _ (by rw [hf]; exact hu) (by simpa using hst), hf]
        generalize fs.toList = fl at hls
        clear leaf
        induction fl generalizing ls r with
        | nil =>
          simp at hls
          subst hls
          simp [leavesEq] at hr
          subst hr
          simp [Op.eqFields]
        | cons f fl ih =>
          rw [List.mapM_cons] at hls
          simp only [bind, Option.bind_eq_some_iff, pure, Option.some.injEq] at hls
          obtain ⟨l1, h1, ls', h2, rfl⟩ := hls
          rw [List.flatten_cons] at hr
          obtain ⟨r1, r2, q1, q2, rfl⟩ := leaves_append _ _ _ _ hr
          split at h1
          · rename_i k hk
            split at h1
            · rename_i hc
              obtain ⟨u, v, p1, p2, p3⟩ := leaves_sound d f.type (base + f.offset) l1 h1 k hk xs ys X Y i hX hY (by omega) (by omega) r1 q1 D
              have p1' : (part f.type (xs.extract base (base + n)) f.offset).run P w = .ok u w := by rw [part_at hk hc.2.2 hc.2.1 hxs]; exact p1
              have p2' : (part f.type (ys.extract base (base + n)) f.offset).run P w = .ok v w := by rw [part_at hk hc.2.2 hc.2.1 hys]; exact p2
              have hrec := ih r2 ls' q2 h2
              rw [Op.eqFields]
              simp only [if_pos hc.1, Sem.run_bind, p1', p2', p3, Result.andThen_ok]
              cases r1
              · simp
              · simpa using hrec
            · cases h1
          · cases h1
    · rename_i len e hu
      rw [hn] at h
      split at h
      · rename_i sz k hsz hk
        cases hsz
        split at h
        · rename_i hc
          simp only [Option.map_eq_some_iff] at h
          obtain ⟨ls, hls, rfl⟩ := h
          have hg : cAgg P t = some true := by simp [cAgg, hu]
          refine ⟨.agg (xs.extract base (base + n)), .agg (ys.extract base (base + n)), by simp [part, cAgg_agg hg, cSize_run hn], by simp [part, cAgg_agg hg, cSize_run hn], ?_⟩
          have hie : ∃ ie, P.info? e = some ie ∧ ie.size = k := by
            unfold cSize at hk
            cases hq : P.info? e with
            | none => simp [hq] at hk
            | some ie => exact ⟨ie, rfl, by simpa [hq] using hk⟩
          obtain ⟨ie, hie, hies⟩ := hie
          rw [show D + (d + 1) = (D + d) + 1 from rfl, run_equalIn_array w (D + d) _ _ hu hie]
          have hcells : P.cellsOf e = k := by simp [Program.cellsOf, hie, hies]
          rw [hcells]
          have hbound : ∀ j ∈ List.range len, j * k + k ≤ n := fun j hj => by
            have : j < len := by simpa using hj
            have : j * k + k ≤ len * k := by rw [← Nat.succ_mul]; exact Nat.mul_le_mul_right _ this
            omega
          generalize List.range len = fl at hls hbound
          clear leaf
          induction fl generalizing ls r with
          | nil =>
            simp at hls
            subst hls
            simp [leavesEq] at hr
            subst hr
            simp [Op.eqItems]
          | cons j fl ih =>
            rw [List.mapM_cons] at hls
            simp only [bind, Option.bind_eq_some_iff, pure, Option.some.injEq] at hls
            obtain ⟨l1, h1, ls', h2, rfl⟩ := hls
            rw [List.flatten_cons] at hr
            obtain ⟨r1, r2, q1, q2, rfl⟩ := leaves_append _ _ _ _ hr
            have hj := hbound j (by simp)
            obtain ⟨u, v, p1, p2, p3⟩ := leaves_sound d e (base + j * k) l1 h1 k hk xs ys X Y i hX hY (by omega) (by omega) r1 q1 D
            have p1' : (part e (xs.extract base (base + n)) (j * k)).run P w = .ok u w := by rw [part_at hk hc.2 hj hxs]; exact p1
            have p2' : (part e (ys.extract base (base + n)) (j * k)).run P w = .ok v w := by rw [part_at hk hc.2 hj hys]; exact p2
            have hrec := ih r2 ls' q2 h2 (fun j' hj' => hbound j' (by simp [hj']))
            rw [Op.eqItems]
            simp only [Sem.run_bind, p1', p2', p3, Result.andThen_ok]
            cases r1
            · simp
            · simpa using hrec
        · cases h
      · cases h
    · cases h
theorem bin_eql {t ty : TypeId} {x y : Operand} {b : Bool} (ho : o.op = .binOp .eql t x y ty) (hg : (eqGuard .eql t x y (a.eval x) (a.eval y)).run P w = .ok () w)
    (hb : binOp .eql t (a.eval x) (a.eval y) = (do let r ← Op.equal t (a.eval x) (a.eval y); pure (.bool r))) (h : (Op.equal t (a.eval x) (a.eval y)).run P w = .ok b w) : (execOp a.eval o).run P w = .ok (.value (.bool b)) w := by
  simp only [execOp, ho, Sem.run_bind, hg, Result.andThen_ok, hb, h, Sem.run_pure]
theorem bin_neq {t ty : TypeId} {x y : Operand} {b : Bool} (ho : o.op = .binOp .neq t x y ty) (hg : (eqGuard .neq t x y (a.eval x) (a.eval y)).run P w = .ok () w)
    (hb : binOp .neq t (a.eval x) (a.eval y) = (do let r ← Op.equal t (a.eval x) (a.eval y); pure (.bool (!r)))) (h : (Op.equal t (a.eval x) (a.eval y)).run P w = .ok b w) : (execOp a.eval o).run P w = .ok (.value (.bool (!b))) w := by
  simp only [execOp, ho, Sem.run_bind, hg, Result.andThen_ok, hb, h, Sem.run_pure]
variable {N : Nat} {env : Env} (hI : Inv m μ G w) (he : EnvR m μ (inf G) N env a)
include hI he
theorem good_leaves {op : BinOp} {t ty : TypeId} {x y : Operand} {ox oy : Opd} (ho : o.op = .binOp op t x y ty) (hop : op = .eql ∨ op = .neq) {d : TypeDesc} (ht : P.underlying t = some d) (hd : (∃ fs, d = .struct fs) ∨ (∃ n e, d = .array n e)) {n : Nat} {offs : List (Nat × Nat)} (hn : cSize P t = some n) (hl : leafOffs P 8 t 0 = some offs) (hgt : P.eqGuardType P.depth t = false)
    (hx : cOpd x = some ox) (hy : cOpd y = some oy) {u v : AV} (hu : opd env ox = some u) (hv : opd env oy = some v) (hun : u.cells.length = n) (hvn : v.cells.length = n) (huf : ∃ l, u = .ag l) (hvf : ∃ l, v = .ag l) {b : Bool} (hb : leavesEq offs u.cells v.cells = some b) {r : AV} (hr : evCmp op (some b) = some r) : Good P o a m μ G w (.val r G) := by
  obtain ⟨l, rfl⟩ := huf
  obtain ⟨l', rfl⟩ := hvf
  obtain ⟨cs, ec, hs, hrr⟩ := (opd_R he hx hu).ag_inv
  obtain ⟨cs', ec', hs', hrr'⟩ := (opd_R he hy hv).ag_inv
  simp only [AV.cells] at hun hvn hb
  obtain ⟨p, q, h1, h2, h3⟩ := leaves_sound (P := P) (w := w) 8 t 0 offs hl n hn cs cs' l l' _ (RL.ofArr hs hrr) (RL.ofArr hs' hrr') (by omega) (by omega) b hb 9992
  have hg : cAgg P t = some true := by rcases hd with ⟨fs, rfl⟩ | ⟨k, e, rfl⟩ <;> simp [cAgg, ht]
  have hex : ∀ (c : Array Value), c.size = n → c.extract 0 n = c := fun c hc => by rw [← hc]; exact Array.extract_size
  have e1 : p = .agg cs := by
    simp only [part, Sem.run_bind, cAgg_agg hg, Result.andThen_ok, if_true, cSize_run hn, Sem.run_pure, Nat.zero_add, hex cs (by omega)] at h1
    cases h1; rfl
  have e2 : q = .agg cs' := by
    simp only [part, Sem.run_bind, cAgg_agg hg, Result.andThen_ok, if_true, cSize_run hn, Sem.run_pure, Nat.zero_add, hex cs' (by omega)] at h2
    cases h2; rfl
  subst e1
  subst e2
  have hguard : (eqGuard op t x y (.agg cs) (.agg cs')).run P w = .ok () w := by
    rcases hop with rfl | rfl <;> simp [eqGuard, hgt]
  rcases hop with rfl | rfl
  · simp [evCmp] at hr
    subst hr
    refine .same hI (val := .bool b) ?_ (.bool _)
    simp [execOp, ho, ec, ec', hguard, binOp, Op.equal, Op.maxDepth, h3]
  · simp [evCmp] at hr
    subst hr
    refine .same hI (val := .bool (!b)) ?_ (.bool _)
    simp [execOp, ho, ec, ec', hguard, binOp, Op.equal, Op.maxDepth, h3]
theorem good_int {op : BinOp} {t ty : TypeId} {x y : Operand} {ox oy : Opd} (ho : o.op = .binOp op t x y ty) (hx : cOpd x = some ox) (hy : cOpd y = some oy) {u v : AV} (hu : opd env ox = some u) (hv : opd env oy = some v) {r : AV} (hr : evBin op .int u v = some r) : Good P o a m μ G w (.val r G) := by
  unfold evBin at hr
  split at hr
  · rename_i k p k' q heq
    have h1 := (opd_R he hx hu).int_inv
    have h2 := (opd_R he hy hv).int_inv
    split at hr
    · rename_i hk
      subst hk
      cases op
      case add => cases hr; exact .same hI (by simp [execOp, ho, h1, h2, eqGuard, binOp, Op.intArith]) (.int _ _)
      case sub => cases hr; exact .same hI (by simp [execOp, ho, h1, h2, eqGuard, binOp, Op.intArith]) (.int _ _)
      case mul => cases hr; exact .same hI (by simp [execOp, ho, h1, h2, eqGuard, binOp, Op.intArith]) (.int _ _)
      case quo =>
        dsimp only at hr
        split at hr
        · cases hr
        · rename_i hq
          cases hr
          exact .same hI (by simp [execOp, ho, h1, h2, eqGuard, binOp, Op.intDiv, hq]) (.int _ _)
      case rem =>
        dsimp only at hr
        split at hr
        · cases hr
        · rename_i hq
          cases hr
          exact .same hI (by simp [execOp, ho, h1, h2, eqGuard, binOp, Op.intDiv, hq]) (.int _ _)
      case eql => cases hr; exact .same hI (by simp [execOp, ho, h1, h2, eqGuard, binOp, Op.intCmp]; rfl) (.bool _)
      case neq => cases hr; exact .same hI (by simp [execOp, ho, h1, h2, eqGuard, binOp, Op.intCmp]; rfl) (.bool _)
      case lss => cases hr; exact .same hI (by simp [execOp, ho, h1, h2, eqGuard, binOp, Op.intCmp]) (.bool _)
      case leq => cases hr; exact .same hI (by simp [execOp, ho, h1, h2, eqGuard, binOp, Op.intCmp]) (.bool _)
      case gtr => cases hr; exact .same hI (by simp [execOp, ho, h1, h2, eqGuard, binOp, Op.intCmp]) (.bool _)
      case geq => cases hr; exact .same hI (by simp [execOp, ho, h1, h2, eqGuard, binOp, Op.intCmp]) (.bool _)
      all_goals cases hr
    · cases hr
  all_goals (rename_i h; first | cases h | cases hr)
theorem good_str {op : BinOp} {t ty : TypeId} {x y : Operand} {ox oy : Opd} (ho : o.op = .binOp op t x y ty) (hx : cOpd x = some ox) (hy : cOpd y = some oy) {u v : AV} (hu : opd env ox = some u) (hv : opd env oy = some v) {r : AV} (hr : evBin op .str u v = some r) : Good P o a m μ G w (.val r G) := by
  unfold evBin at hr
  split at hr
  · rename_i heq; cases heq
  · rename_i p q heq
    have h1 := (opd_R he hx hu).str_inv
    have h2 := (opd_R he hy hv).str_inv
    cases op
    case add =>
      dsimp only at hr
      split at hr
      · rename_i hroom
        cases hr
        simp only [roomy, Bool.and_eq_true, decide_eq_true_eq] at hroom
        have hb : ¬ ((((p.length + q.length : Nat) : Int)) > IntKind.i64.max) := by
          have := hroom.2
          simp [IntKind.max, IntKind.signed, IntKind.bits]
          omega
        refine .same hI (val := .string ⟨(p ++ q).toArray⟩) ?_ (.str _)
        simp only [execOp, ho, h1, h2, eqGuard, binOp, Op.stringOp, bytes_size, bytes_append, Sem.run_bind, hb, if_false]
        rfl
      · cases hr
    case eql => cases hr; exact .same hI (by simp [execOp, ho, h1, h2, eqGuard, binOp, Op.stringOp, bytes_toList]; by_cases e : p = q <;> simp [e]) (.bool _)
    case neq => cases hr; exact .same hI (by simp [execOp, ho, h1, h2, eqGuard, binOp, Op.stringOp, bytes_toList]; by_cases e : p = q <;> simp [e]) (.bool _)
    case lss => cases hr; exact .same hI (by simp [execOp, ho, h1, h2, eqGuard, binOp, Op.stringOp, bytes_toList]) (.bool _)
    case leq => cases hr; exact .same hI (by simp [execOp, ho, h1, h2, eqGuard, binOp, Op.stringOp, bytes_toList]; by_cases e : p = q <;> simp [e]) (.bool _)
    case gtr => cases hr; exact .same hI (by simp [execOp, ho, h1, h2, eqGuard, binOp, Op.stringOp, bytes_toList]; by_cases e : p = q <;> simp [e]) (.bool _)
    case geq => cases hr; exact .same hI (by simp [execOp, ho, h1, h2, eqGuard, binOp, Op.stringOp, bytes_toList]) (.bool _)
    all_goals cases hr
  all_goals (rename_i h; first | cases h | cases hr)
theorem good_bool {op : BinOp} {t ty : TypeId} (ht : P.underlying t = some .bool) {x y : Operand} {ox oy : Opd} (ho : o.op = .binOp op t x y ty) (hx : cOpd x = some ox) (hy : cOpd y = some oy) {u v : AV} (hu : opd env ox = some u) (hv : opd env oy = some v) {r : AV} (hr : evBin op .bool u v = some r) : Good P o a m μ G w (.val r G) := by
  unfold evBin at hr
  split at hr
  · rename_i heq; cases heq
  · rename_i heq; cases heq
  · rename_i p q heq
    have h1 := (opd_R he hx hu).bool_inv
    have h2 := (opd_R he hy hv).bool_inv
    cases op
    case eql => cases hr; exact .same hI (bin_eql ho (by rw [h1, eqGuard_at_bool]; rfl) (by rw [h1, h2]; rfl) (by rw [h1, h2]; exact run_equal_bool w t p q ht)) (.bool _)
    case neq => cases hr; exact .same hI (bin_neq ho (by rw [h1, eqGuard_at_bool]; rfl) (by rw [h1, h2]; rfl) (by rw [h1, h2]; exact run_equal_bool w t p q ht)) (.bool _)
    all_goals cases hr
  · cases hr
theorem good_nil {op : BinOp} {t ty : TypeId} {x y : Operand} {ox oy : Opd} (ho : o.op = .binOp op t x y ty) {c : BClass} {d : TypeDesc} (ht : P.underlying t = some d)
    (hc : (c = .ptr ∧ ∃ e, d = .pointer e) ∨ (c = .fn ∧ ∃ p r v, d = .func p r v) ∨ (c = .ifc ∧ (∃ ms, d = .interface ms) ∧ (isNil x || isNil y) = true))
    (hx : cOpd x = some ox) (hy : cOpd y = some oy) {u v : AV} (hu : opd env ox = some u) (hv : opd env oy = some v) {r : AV} (hr : evCmp op (evNilEq c u v) = some r) : Good P o a m μ G w (.val r G) := by
  have h1 := opd_R he hx hu
  have h2 := opd_R he hy hv
  cases hq : evNilEq c u v with
  | none => rw [hq] at hr; cases hr
  | some b =>
    rw [hq] at hr
    have hop : op = .eql ∧ r = .p (.b b) ∨ op = .neq ∧ r = .p (.b (!b)) := by
      unfold evCmp at hr
      cases op <;> simp at hr <;> simp [hr]
    have fin : (eqGuard .eql t x y (a.eval x) (a.eval y) = pure ()) → (eqGuard .neq t x y (a.eval x) (a.eval y) = pure ()) →
        (binOp .eql t (a.eval x) (a.eval y) = (do let r ← Op.equal t (a.eval x) (a.eval y); pure (.bool r))) → (binOp .neq t (a.eval x) (a.eval y) = (do let r ← Op.equal t (a.eval x) (a.eval y); pure (.bool (!r)))) →
        (Op.equalIn (9999 + 1) t (a.eval x) (a.eval y)).run P w = .ok b w → Good P o a m μ G w (.val r G) := by
      intro g1 g2 b1 b2 hh
      rcases hop with ⟨rfl, rfl⟩ | ⟨rfl, rfl⟩
      · exact .same hI (bin_eql ho (by rw [g1]; rfl) b1 hh) (.bool _)
      · exact .same hI (bin_neq ho (by rw [g2]; rfl) b2 hh) (.bool _)
    unfold evNilEq at hq
    have kptr : c = .ptr → ∃ e, d = .pointer e := fun e => by subst e; rcases hc with ⟨h, h'⟩ | ⟨h, _⟩ | ⟨h, _⟩ <;> first | exact h' | cases h
    have kfn : c = .fn → ∃ p r v, d = .func p r v := fun e => by subst e; rcases hc with ⟨h, h'⟩ | ⟨h, h'⟩ | ⟨h, _⟩ <;> first | exact h' | cases h
    have kifc : c = .ifc → (∃ ms, d = .interface ms) ∧ (isNil x || isNil y) = true := fun e => by subst e; rcases hc with ⟨h, h'⟩ | ⟨h, h'⟩ | ⟨h, h'⟩ <;> first | exact h' | cases h
    have hnilc : ∀ z : Operand, isNil z = true → ∃ q, z = .const q := fun z hz => by
      cases z with
      | const q => exact ⟨q, rfl⟩
      | _ => simp [isNil] at hz
    split at hq
    · obtain ⟨⟨ms, rfl⟩, hnil⟩ := kifc rfl
      cases hq
      have e1 := h1.p_inv.inil_inv
      have e2 := h2.p_inv.inil_inv
      have hg : ∀ op, eqGuard op t x y .nilIface .nilIface = pure () := fun op => by
        rcases Bool.or_eq_true_iff.1 hnil with h | h
        · obtain ⟨q, rfl⟩ := hnilc _ h; exact eqGuard_nil_constL op t y q
        · obtain ⟨q, rfl⟩ := hnilc _ h; exact eqGuard_nil_constR op t x q
      rw [e1, e2] at fin
      exact fin (hg _) (hg _) rfl rfl (by rw [Op.equalIn]; simp [run_underlying ht])
    · obtain ⟨⟨ms, rfl⟩, hnil⟩ := kifc rfl
      cases hq
      have e1 := h1.p_inv.inil_inv
      obtain ⟨z, e2⟩ := h2.ifc_inv
      rw [e1, e2] at fin
      exact fin rfl rfl rfl rfl (by rw [Op.equalIn]; simp [run_underlying ht])
    · obtain ⟨⟨ms, rfl⟩, hnil⟩ := kifc rfl
      cases hq
      obtain ⟨z, e1⟩ := h1.ifc_inv
      have e2 := h2.p_inv.inil_inv
      rw [e1, e2] at fin
      exact fin rfl rfl rfl rfl (by rw [Op.equalIn]; simp [run_underlying ht])
    · obtain ⟨⟨ms, rfl⟩, hnil⟩ := kifc rfl
      cases hq
      have e1 := h1.p_inv.inil_inv
      obtain ⟨z, e2⟩ := h2.p_inv.ifc_inv
      rw [e1, e2] at fin
      exact fin rfl rfl rfl rfl (by rw [Op.equalIn]; simp [run_underlying ht])
    · obtain ⟨⟨ms, rfl⟩, hnil⟩ := kifc rfl
      cases hq
      obtain ⟨z, e1⟩ := h1.p_inv.ifc_inv
      have e2 := h2.p_inv.inil_inv
      rw [e1, e2] at fin
      exact fin rfl rfl rfl rfl (by rw [Op.equalIn]; simp [run_underlying ht])
    · obtain ⟨⟨ms, rfl⟩, hnil⟩ := kifc rfl
      cases hq
      have e1 := h1.p_inv.inil_inv
      obtain ⟨tt, z, e2⟩ := h2.p_inv.opq_inv
      rw [e1, e2] at fin
      exact fin rfl rfl rfl rfl (by rw [Op.equalIn]; simp [run_underlying ht])
    · obtain ⟨⟨ms, rfl⟩, hnil⟩ := kifc rfl
      cases hq
      obtain ⟨tt, z, e1⟩ := h1.p_inv.opq_inv
      have e2 := h2.p_inv.inil_inv
      rw [e1, e2] at fin
      exact fin rfl rfl rfl rfl (by rw [Op.equalIn]; simp [run_underlying ht])
    · obtain ⟨e, rfl⟩ := kptr rfl
      cases hq
      have e1 := h1.p_inv.pn_inv
      have e2 := h2.p_inv.pn_inv
      rw [e1, e2] at fin
      exact fin rfl rfl rfl rfl (by rw [Op.equalIn]; simp [run_underlying ht])
    · obtain ⟨e, rfl⟩ := kptr rfl
      cases hq
      have e1 := h1.p_inv.pn_inv
      obtain ⟨z, e2⟩ := h2.ptr_inv
      rw [e1, e2] at fin
      exact fin rfl rfl rfl rfl (by rw [Op.equalIn]; simp [run_underlying ht])
    · obtain ⟨e, rfl⟩ := kptr rfl
      cases hq
      obtain ⟨z, e1⟩ := h1.ptr_inv
      have e2 := h2.p_inv.pn_inv
      rw [e1, e2] at fin
      exact fin rfl rfl rfl rfl (by rw [Op.equalIn]; simp [run_underlying ht])
    · obtain ⟨p, r, v, rfl⟩ := kfn rfl
      cases hq
      have e1 := h1.p_inv.fnil_inv
      have e2 := h2.p_inv.fnil_inv
      rw [e1, e2] at fin
      exact fin rfl rfl rfl rfl (by rw [Op.equalIn]; simp [run_underlying ht])
    · obtain ⟨p, r, v, rfl⟩ := kfn rfl
      cases hq
      have e1 := h1.p_inv.fnil_inv
      obtain ⟨f, b, c, e2⟩ := h2.fn_inv
      rw [e1, e2] at fin
      exact fin rfl rfl rfl rfl (by rw [Op.equalIn]; simp [run_underlying ht])
    · obtain ⟨p, r, v, rfl⟩ := kfn rfl
      cases hq
      obtain ⟨f, b, c, e1⟩ := h1.fn_inv
      have e2 := h2.p_inv.fnil_inv
      rw [e1, e2] at fin
      exact fin rfl rfl rfl rfl (by rw [Op.equalIn]; simp [run_underlying ht])
    · cases hq
end
end Go.Proofs.Z
end
