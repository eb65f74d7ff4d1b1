/- A part of the proof. -/
import Derived.Test.YtmlaokgdomfmgaaGreatDoorL01
import Derived.Laws.StructEq
set_option linter.all false
section
namespace Go.Proofs.Z
open Go
variable [hP : HasP]
theorem okRow_len {sz : Nat} {r : List PV} (h : okRow sz r = true) : r.length = sz := by
  simp [okRow] at h; exact h.1
theorem okRow_flat {sz : Nat} {r : List PV} (h : okRow sz r = true) : ∀ c ∈ r, c.flat = true := by
  simp [okRow] at h; exact h.2
theorem okRows_at {sz : Nat} {rows : List (List PV)} (h : okRows sz rows = true) {i : Nat} {r : List PV} (hr : rows[i]? = some r) : okRow sz r = true := by
  simp only [okRows, List.all_eq_true] at h
  exact h r (List.mem_of_getElem? hr)
theorem cAgg_row {P : Program} {t : TypeId} (h : cAgg P t = some true) : ∃ d, P.underlying t = some d ∧ d.isRow = true := by
  unfold cAgg at h
  split at h
  · rename_i fs hd; exact ⟨_, hd, rfl⟩
  · rename_i n e hd; exact ⟨_, hd, rfl⟩
  · cases h
  · cases h
theorem cAgg_cell {P : Program} {t : TypeId} (h : cAgg P t = some false) (w : World) : (isAgg t).run P w = .ok false w := by
  unfold cAgg at h
  split at h
  · cases h
  · cases h
  · rename_i d hs ha hd
    simp only [isAgg, Sem.run_bind, run_underlying hd, Result.andThen_ok]
    cases d <;> first | rfl | exact absurd rfl (hs _) | exact absurd rfl (ha _ _)
  · cases h
theorem cAgg_agg {P : Program} {t : TypeId} (h : cAgg P t = some true) (w : World) : (isAgg t).run P w = .ok true w := by
  obtain ⟨d, hd, hr⟩ := cAgg_row h
  simp only [isAgg, Sem.run_bind, run_underlying hd, Result.andThen_ok]
  cases d <;> first | rfl | simp at hr
theorem cSize_run {P : Program} {t : TypeId} {n : Nat} (h : cSize P t = some n) (w : World) : (sizeOf t).run P w = .ok n w := by
  unfold cSize at h
  cases hq : P.info? t with
  | none => simp [hq] at h
  | some i => simp [hq] at h; simp [sizeOf, typeInfo, hq, h]
section
variable {P : Program} {o : Oper} {a : Act} {m : Mem} {μ : Mu} {G : Heap} {w : World}
theorem box_cell {loc : Loc} {cs : Array Value} {T : TypeId} (h : w.heap[loc.blk]? = some (.cells cs T (0, 0))) (off : Nat) : w.cell? ⟨loc.blk, off, none⟩ = cs[off]? := by
  simp [World.cell?, h]
theorem load_agg {t : TypeId} {n b off : Nat} {vs : List Value} (hn : cSize P t = some n) (hg : cAgg P t = some true) (hl : vs.length = n) (hc : w.rangeAt b off vs) :
    (Instr.loadAt t (.pointer (some ⟨b, off, none⟩))).run P w = .ok (.agg vs.toArray) w := by
  obtain ⟨d, hd, hr⟩ := cAgg_row hg
  exact run_loadAt_mid w b off t vs d hc hd hr (by unfold cSize at hn; rw [hn, hl])
theorem load_cell {t : TypeId} {b off : Nat} {v : Value} (hg : cAgg P t = some false) (hc : w.cell? ⟨b, off, none⟩ = some v) :
    (Instr.loadAt t (.pointer (some ⟨b, off, none⟩))).run P w = .ok v w := by
  simp [Instr.loadAt, Instr.sureAddr, loadVar, cAgg_cell hg, hc]
theorem loadAt_R {t : TypeId} {n : Nat} {ag : Bool} (hI : Inv m μ G w) (hn : cSize P t = some n) (hg : cAgg P t = some ag) {v : Value} {x y : AV} (hr : R m μ (inf G) v x) (he : evLoad n ag G x = some y) :
    ∃ val, (Instr.loadAt t v).run P w = .ok val w ∧ R m μ (inf G) val y := by
  cases x with
  | ptr id off =>
    cases hr with | ptr _ _ loc h1 h2 =>
    simp only [evLoad] at he
    split at he
    · rename_i cs hG
      obtain ⟨cv, T, hh, hs, hc, hf, hm⟩ := hI.obj id _ hG loc h1
      cases ag with
      | true =>
        simp only [if_true] at he
        split at he
        · rename_i hle
          cases he
          have hlen : ((cv.toList.drop off).take n).length = n := by simp; omega
          refine ⟨_, load_agg hn hg hlen ?_, .ag _ _ ?_ ?_⟩
          · intro j u hj
            rw [box_cell hh]
            simp only [List.getElem?_take, List.getElem?_drop] at hj
            split at hj
            · simpa using hj
            · cases hj
          · simp; omega
          · intro j u c g1 g2
            simp only [List.getElem?_toArray, List.getElem?_take, List.getElem?_drop] at g1 g2
            split at g1
            · rename_i hj
              rw [if_pos hj] at g2
              exact hc (off + j) u c (by simpa using g1) g2
            · cases g1
        · cases he
      | false =>
        simp only [Bool.false_eq_true, if_false] at he
        have hlt : off < cv.size := by rw [hs]; exact (List.getElem?_eq_some_iff.1 he).1
        exact ⟨_, load_cell hg (by rw [box_cell hh, Array.getElem?_eq_getElem hlt]), hc off _ _ (Array.getElem?_eq_getElem hlt) he⟩
    · cases he
  | rp cells =>
    cases hr with | rp b oo _ f hc =>
    simp only [evLoad] at he
    cases ag with
    | true =>
      simp only [if_true] at he
      split at he
      · rename_i hle
        cases he
        have hlen : ((List.range n).map f).length = n := by simp
        refine ⟨_, load_agg hn hg hlen ?_, .ag _ _ ?_ ?_⟩
        · intro j u hj
          simp only [List.getElem?_map, Option.map_eq_some_iff] at hj
          obtain ⟨k, hk, rfl⟩ := hj
          obtain ⟨hk1, hk2⟩ := List.getElem?_eq_some_iff.1 hk
          simp at hk1 hk2
          subst hk2
          exact hI.known _ _ _ (hc j cells[j] (List.getElem?_eq_getElem (by omega))).1
        · simp [pcs]; omega
        · intro j u c g1 g2
          simp only [List.getElem?_toArray, List.getElem?_map, Option.map_eq_some_iff] at g1
          obtain ⟨k, hk, rfl⟩ := g1
          obtain ⟨hk1, hk2⟩ := List.getElem?_eq_some_iff.1 hk
          simp at hk1 hk2
          subst hk2
          simp only [pcs, List.getElem?_map, List.getElem?_take, hk1, if_true, Option.map_eq_some_iff] at g2
          obtain ⟨c', hc', rfl⟩ := g2
          exact .p _ _ (hc j c' hc').2
      · cases he
    | false =>
      simp only [Bool.false_eq_true, if_false, Option.map_eq_some_iff] at he
      obtain ⟨c, h0, rfl⟩ := he
      have := hc 0 c h0
      exact ⟨f 0, load_cell hg (hI.known _ _ _ this.1), .p _ _ this.2⟩
  | eptr id idx off gen =>
    cases hr with | eptr _ _ _ _ ad loc g sz h1 h2 h3 h4 =>
    simp only [evLoad] at he
    split at he
    · rename_i sz' rows g' sl hG
      have hinf : inf G id = some (some (g', sz')) := by simp [inf, hG, infO]
      rw [hinf] at h2
      cases h2
      obtain ⟨cv, T, hh, hs, hrl, h1s, hok, hc, hm⟩ := hI.obj id _ hG loc h1
      split at he
      · rename_i hgen
        subst hgen
        rw [h4 rfl]
        split at he
        · rename_i row hrow
          have hokr := okRows_at hok hrow
          cases ag with
          | true =>
            simp only [if_true] at he
            split at he
            · rename_i hle
              cases he
              have hc' : ∀ j, j < n → ∃ v, cv[idx * sz + (off + j)]? = some v ∧ ∃ c, row[off + j]? = some c ∧ RP m v c := fun j hj => by
                obtain ⟨v, h1, h2⟩ := hc idx (off + j) row row[off + j] hrow (List.getElem?_eq_getElem (by omega))
                exact ⟨v, h1, _, List.getElem?_eq_getElem (by omega), h2⟩
              have hsz : idx * sz + off + n ≤ cv.size := by
                have hr1 := okRow_len hokr
                have hi1 : idx < rows.length := (List.getElem?_eq_some_iff.1 hrow).1
                have : idx * sz + sz ≤ loc.cap * sz := by
                  rw [← Nat.succ_mul]; exact Nat.mul_le_mul_right _ (by omega)
                omega
              have hlen : ((cv.toList.drop (idx * sz + off)).take n).length = n := by simp; omega
              refine ⟨_, load_agg hn hg hlen ?_, .ag _ _ ?_ ?_⟩
              · intro j u hj
                rw [box_cell hh]
                simp only [List.getElem?_take, List.getElem?_drop] at hj
                split at hj
                · simpa using hj
                · cases hj
              · simp [pcs]; omega
              · intro j u c g1 g2
                simp only [List.getElem?_toArray, List.getElem?_take, List.getElem?_drop] at g1
                split at g1
                · rename_i hj
                  obtain ⟨v, k1, c', k2, k3⟩ := hc' j hj
                  simp only [pcs, List.getElem?_map, List.getElem?_take, hj, if_true, List.getElem?_drop, k2, Option.map_some, Option.some.injEq] at g2
                  subst g2
                  rw [Nat.add_assoc] at g1
                  have : some u = some v := by rw [← k1, ← g1]; simp
                  cases this
                  exact .p _ _ k3
                · cases g1
            · cases he
          | false =>
            simp only [Bool.false_eq_true, if_false, Option.map_eq_some_iff] at he
            obtain ⟨c, h0, rfl⟩ := he
            obtain ⟨v, k1, k2⟩ := hc idx off row c hrow h0
            exact ⟨v, load_cell hg (by rw [box_cell hh]; exact k1), .p _ _ k2⟩
        · cases he
      · cases he
    · cases he
  | _ => simp [evLoad] at he
variable {N : Nat} {env : Env} (hI : Inv m μ G w) (he : EnvR m μ (inf G) N env a)
include hI he
theorem good_load {x : Operand} {ox : Opd} {t : TypeId} {n : Nat} {ag : Bool} (ho : o.op = .load t x) (hn : cSize P t = some n) (hg : cAgg P t = some ag) (hx : cOpd x = some ox) {v y : AV} (hv : opd env ox = some v) (hl : evLoad n ag G v = some y) : Good P o a m μ G w (.val y G) := by
  obtain ⟨val, h1, h2⟩ := loadAt_R hI hn hg (opd_R he hx hv) hl
  exact .same hI (by simp [execOp, ho, h1]) h2
theorem good_faddr {x : Operand} {ox : Opd} {t : TypeId} {k : Nat} {fs : Array Field} {f : Field} {n : Nat} (ho : o.op = .fieldAddr t x k) (ht : P.underlying t = some (.struct fs)) (hf : fs[k]? = some f) (hn : cSize P f.type = some n) (hn0 : n ≠ 0) (hx : cOpd x = some ox) {v : AV} (hv : opd env ox = some v)
    {y : AV} (hy : (∃ id off, v = .ptr id off ∧ y = .ptr id (off + f.offset)) ∨ (∃ id idx off gen, v = .eptr id idx off gen ∧ y = .eptr id idx (off + f.offset) gen) ∨ (∃ cs, v = .rp cs ∧ y = .rp (cs.drop f.offset))) : Good P o a m μ G w (.val y G) := by
  have hr := opd_R he hx hv
  have hrun : ∀ ad, a.eval x = .pointer (some ad) → (execOp a.eval o).run P w = .ok (.value (.pointer (some (ad.add f.offset)))) w := by
    intro ad e
    simp [execOp, ho, Instr.fieldAt, run_underlying ht, hf, e, Instr.sureAddr, fieldPlace, cSize_run hn, hn0]
  rcases hy with ⟨id, off, rfl, rfl⟩ | ⟨id, idx, off, gen, rfl, rfl⟩ | ⟨cs, rfl, rfl⟩
  · generalize hz : a.eval x = z at hr
    cases hr with | ptr _ _ loc h1 h2 =>
    exact .same hI (hrun _ hz) (by rw [Addr.add_mid]; exact .ptr _ _ _ h1 h2)
  · generalize hz : a.eval x = z at hr
    cases hr with | eptr _ _ _ _ ad loc g sz h1 h2 h3 h4 =>
    exact .same hI (hrun _ hz) (.eptr _ _ _ _ _ loc g sz h1 h2 h3 (fun e => by rw [h4 e, Addr.add_mid]; simp [Nat.add_assoc]))
  · generalize hz : a.eval x = z at hr
    cases hr with | rp b oo _ g hc =>
    refine .same hI (hrun _ hz) ?_
    rw [Addr.add_mid]
    exact .rp _ _ _ (fun j => g (f.offset + j)) (fun j c hj => by
      have := hc (f.offset + j) c (by simpa using hj)
      rw [Nat.add_assoc]
      exact this)
theorem good_iaddrA {x y : Operand} {ox oy : Opd} {t e : TypeId} {n sz : Nat} (ho : o.op = .indexAddr t x y) (ht : P.underlying t = some (.array n e)) (hn : cSize P e = some sz) (hx : cOpd x = some ox) (hy : cOpd y = some oy) {v : AV} (hv : opd env ox = some v)
    {k : IntKind} {i : Int} (hi : opd env oy = some (.p (.i k i))) (h0 : 0 ≤ i) (h1 : i < n)
    {r : AV} (hr : (∃ id off, v = .ptr id off ∧ r = .ptr id (off + i.toNat * sz)) ∨ (∃ cs, v = .rp cs ∧ r = .rp (cs.drop (i.toNat * sz)))) : Good P o a m μ G w (.val r G) := by
  have hrv := opd_R he hx hv
  have hri := (opd_R he hy hi).int_inv
  have hrun : ∀ ad, a.eval x = .pointer (some ad) → (execOp a.eval o).run P w = .ok (.value (.pointer (some (ad.add (i.toNat * sz))))) w := by
    intro ad e
    simp [execOp, ho, Instr.indexAt, asIntOf, hri, run_underlying ht, e, Instr.sureAddr, cSize_run hn, h0, h1]
  rcases hr with ⟨id, off, rfl, rfl⟩ | ⟨cs, rfl, rfl⟩
  · generalize hz : a.eval x = z at hrv
    cases hrv with | ptr _ _ loc h1 h2 =>
    exact .same hI (hrun _ hz) (by rw [Addr.add_mid]; exact .ptr _ _ _ h1 h2)
  · generalize hz : a.eval x = z at hrv
    cases hrv with | rp b oo _ g hc =>
    refine .same hI (hrun _ hz) ?_
    rw [Addr.add_mid]
    exact .rp _ _ _ (fun j => g (i.toNat * sz + j)) (fun j c hj => by
      have := hc (i.toNat * sz + j) c (by simpa using hj)
      rw [Nat.add_assoc]
      exact this)
theorem good_iaddrP {x y : Operand} {ox oy : Opd} {t e : TypeId} {sz : Nat} (ho : o.op = .indexAddr t x y) (ht : P.underlying t = some (.slice e)) (hn : cSize P e = some sz) (hx : cOpd x = some ox) (hy : cOpd y = some oy) {rows : List (List PV)} (hv : opd env ox = some (.p (.sl rows)))
    {k : IntKind} {i : Int} (hi : opd env oy = some (.p (.i k i))) (h0 : 0 ≤ i) {row : List PV} (hrow : rows[i.toNat]? = some row) (hok : okRow sz row = true) : Good P o a m μ G w (.val (.rp row) G) := by
  have hrv := opd_R he hx hv
  have hri := (opd_R he hy hi).int_inv
  generalize hz : a.eval x = z at hrv
  cases hrv with | p _ _ hp =>
  cases hp with | sl ad cap _ sz' f hcap hs ha hf =>
  have hlt : i.toNat < rows.length := (List.getElem?_eq_some_iff.1 hrow).1
  have hlt' : i < (rows.length : Int) := by omega
  have hne : rows ≠ [] := by intro e; subst e; simp at hlt
  obtain ⟨b, oo, rfl, hm⟩ := ha hne
  have hsz : sz' = sz := by rw [← okRow_len hok, okRow_len (okRows_at hs hrow)]
  subst hsz
  refine .same hI (val := .pointer (some ⟨b, oo + i.toNat * sz', none⟩)) ?_ (.rp _ _ _ (fun j => f i.toNat j) fun j c hj => ⟨hm _ _ _ _ hrow hj, hf _ _ _ _ hrow hj⟩)
  have : ((if 0 ≤ i ∧ i < (rows.length : Int) then (1 : Nat) else 0) = 1) := by simp [h0, hlt']
  simp [execOp, ho, Instr.indexAt, asIntOf, hri, run_underlying ht, hz, cSize_run hn, h0, hlt', Addr.add_mid]
theorem good_iaddrR {x y : Operand} {ox oy : Opd} {t e : TypeId} {sz : Nat} (ho : o.op = .indexAddr t x y) (ht : P.underlying t = some (.slice e)) (hn : cSize P e = some sz) (hx : cOpd x = some ox) (hy : cOpd y = some oy) {id len gen : Nat} (hv : opd env ox = some (.arr id len gen))
    {k : IntKind} {i : Int} (hi : opd env oy = some (.p (.i k i))) (h0 : 0 ≤ i) (h1 : i < len) {rows : List (List PV)} {ty sl : Nat} (hG : G[id]? = some (.arr ty sz rows gen sl)) : Good P o a m μ G w (.val (.eptr id i.toNat 0 gen) G) := by
  have hrv := opd_R he hx hv
  have hri := (opd_R he hy hi).int_inv
  generalize hz : a.eval x = z at hrv
  cases hrv with | arr _ _ _ ad n c loc g sz' g1 g2 g3 g4 =>
  have hinf : inf G id = some (some (gen, sz)) := by simp [inf, hG, infO]
  rw [hinf] at g2
  cases g2
  obtain ⟨rfl, rfl, rfl⟩ := g4 rfl
  refine .same hI (val := .pointer (some ⟨loc.blk, i.toNat * sz, none⟩)) ?_ (.eptr _ _ _ _ _ loc gen sz g1 hinf (Nat.le_refl _) (fun _ => by simp))
  simp [execOp, ho, Instr.indexAt, asIntOf, hri, run_underlying ht, hz, cSize_run hn, h0, h1, Addr.add_mid]
end
end Go.Proofs.Z
end
section
namespace Go.Proofs.Z
open Go
variable [hP : HasP]
theorem bytes_toList (l : List UInt8) : (⟨l.toArray⟩ : ByteArray).toList = l := by rw [ByteArray.toList_eq]
theorem bytes_size (l : List UInt8) : (⟨l.toArray⟩ : ByteArray).size = l.length := by simp [ByteArray.size]
theorem bytes_get (l : List UInt8) (k : Nat) : (⟨l.toArray⟩ : ByteArray)[k]? = l[k]? := by
  by_cases h : k < l.length
  · have h' : k < (⟨l.toArray⟩ : ByteArray).size := by rw [bytes_size]; exact h
    rw [List.getElem?_eq_getElem h]
    simp only [getElem?_pos, h', ByteArray.getElem_eq_getElem_data]
    simp
  · have h' : ¬ k < (⟨l.toArray⟩ : ByteArray).size := by rw [bytes_size]; exact h
    simp only [getElem?_neg, h', not_false_eq_true]
    simp at h
    exact (List.getElem?_eq_none h).symm
theorem bytes_append (l l' : List UInt8) : (⟨l.toArray⟩ : ByteArray) ++ ⟨l'.toArray⟩ = ⟨(l ++ l').toArray⟩ := by
  apply ByteArray.ext
  rw [ByteArray.data_append]
  simp
theorem bytes_extract (l : List UInt8) (a b : Nat) : (⟨l.toArray⟩ : ByteArray).extract a b = ⟨((l.take b).drop a).toArray⟩ := by
  apply ByteArray.ext
  rw [ByteArray.data_extract]
  simp [List.extract_eq_take_drop, List.drop_take]
section
variable {P : Program} {o : Oper} {a : Act} {m : Mem} {μ : Mu} {G : Heap} {w : World}
theorem part_R {t : TypeId} {n : Nat} {ag : Bool} (hn : cSize P t = some n) (hg : cAgg P t = some ag) {i : Inf} {cs : Array Value} {l : List AV} (hs : cs.size = l.length)
    (hr : ∀ (j : Nat) (v : Value) (c : AV), cs[j]? = some v → l[j]? = some c → R m μ i v c) {off : Nat} {y : AV}
    (hy : (if ag = true then (if off + n ≤ l.length then some (AV.ag ((l.drop off).take n)) else none) else l[off]?) = some y) :
    ∃ v, (part t cs off).run P w = .ok v w ∧ R m μ i v y := by
  cases ag with
  | true =>
    simp only [if_true] at hy
    split at hy
    · rename_i hle
      cases hy
      refine ⟨.agg (cs.extract off (off + n)), by simp [part, cAgg_agg hg, cSize_run hn], .ag _ _ ?_ ?_⟩
      · simp; omega
      · intro j v c h1 h2
        simp only [Array.getElem?_extract] at h1
        simp only [List.getElem?_take, List.getElem?_drop] at h2
        split at h2
        · split at h1
          · exact hr (off + j) v c h1 h2
          · cases h1
        · cases h2
    · cases hy
  | false =>
    simp only [Bool.false_eq_true, if_false] at hy
    have hlt : off < cs.size := by rw [hs]; exact (List.getElem?_eq_some_iff.1 hy).1
    exact ⟨cs[off], by simp [part, cAgg_cell hg, Array.getElem?_eq_getElem hlt], hr off _ _ (Array.getElem?_eq_getElem hlt) hy⟩
variable {N : Nat} {env : Env} (hI : Inv m μ G w) (he : EnvR m μ (inf G) N env a)
include hI he
theorem good_field {x : Operand} {ox : Opd} {t : TypeId} {k : Nat} {fs : Array Field} {f : Field} {n : Nat} {ag : Bool} (ho : o.op = .field t x k) (ht : P.underlying t = some (.struct fs)) (hf : fs[k]? = some f) (hn : cSize P f.type = some n) (hg : cAgg P f.type = some ag) (hx : cOpd x = some ox) {l : List AV} (hv : opd env ox = some (.ag l)) {y : AV}
    (hy : (if ag = true then (if f.offset + n ≤ l.length then some (AV.ag ((l.drop f.offset).take n)) else none) else l[f.offset]?) = some y) : Good P o a m μ G w (.val y G) := by
  obtain ⟨cs, e, hs, hr⟩ := (opd_R he hx hv).ag_inv
  obtain ⟨v, h1, h2⟩ := part_R (w := w) hn hg hs hr hy
  exact .same hI (by simp [execOp, ho, Instr.field, run_underlying ht, hf, e, asAgg, h1]) h2
theorem good_indexA {x y : Operand} {ox oy : Opd} {t e : TypeId} {len n : Nat} {ag : Bool} (ho : o.op = .index t x y) (ht : P.underlying t = some (.array len e)) (hn : cSize P e = some n) (hg : cAgg P e = some ag) (hx : cOpd x = some ox) (hy : cOpd y = some oy) {l : List AV} (hv : opd env ox = some (.ag l))
    {k : IntKind} {i : Int} (hi : opd env oy = some (.p (.i k i))) (h0 : 0 ≤ i) (h1 : i < len) {r : AV}
    (hr : (if ag = true then (if i.toNat * n + n ≤ l.length then some (AV.ag ((l.drop (i.toNat * n)).take n)) else none) else l[i.toNat * n]?) = some r) : Good P o a m μ G w (.val r G) := by
  obtain ⟨cs, ec, hs, hrr⟩ := (opd_R he hx hv).ag_inv
  have hri := (opd_R he hy hi).int_inv
  obtain ⟨v, g1, g2⟩ := part_R (w := w) hn hg hs hrr hr
  exact .same hI (by simp [execOp, ho, Instr.index, asIntOf, hri, run_underlying ht, ec, cSize_run hn, h0, h1, g1]) g2
theorem good_indexS {x y : Operand} {ox oy : Opd} {t : TypeId} (ho : o.op = .index t x y) (ht : P.underlying t = some .string) (hx : cOpd x = some ox) (hy : cOpd y = some oy) {l : List UInt8} (hv : opd env ox = some (.p (.s l)))
    {k : IntKind} {i : Int} (hi : opd env oy = some (.p (.i k i))) (h0 : 0 ≤ i) {c : UInt8} (hc : l[i.toNat]? = some c) : Good P o a m μ G w (.val (.p (.i .u8 c.toNat)) G) := by
  have hrv := (opd_R he hx hv).str_inv
  have hri := (opd_R he hy hi).int_inv
  exact .same hI (by simp [execOp, ho, Instr.index, asIntOf, hri, run_underlying ht, hrv, h0, bytes_get, hc]) (.int _ _)
theorem good_len {args : Array Operand} {ts : Array TypeId} {x : Operand} {ox : Opd} {t : TypeId} {d : TypeDesc} {str : Bool} (ho : o.op = .call ⟨.builtin .len, args, ts⟩) (ha : args.toList = [x]) (ht : ts[0]? = some t) (hd : P.underlying t = some d) (hdd : if str = true then d = .string else ∃ e, d = .slice e) (hx : cOpd x = some ox) {v : AV} (hv : opd env ox = some v) {n : Int} (hn : evLen str G v = some n) : Good P o a m μ G w (.val (.p (.i .i64 n)) G) := by
  have ha' : args = #[x] := by apply Array.ext'; simpa using ha
  have hr := opd_R he hx hv
  generalize hz : a.eval x = z at hr
  have key : (Builtin.len_ ts o.type #[z]).run P w = .ok (.int .i64 n) w → Good P o a m μ G w (.val (.p (.i .i64 n)) G) := fun h =>
    .same hI (by simp [execOp, ho, ha', resolve, invoke, builtin, hz, h]) (.int _ _)
  apply key
  cases str with
  | true =>
    simp only [if_true] at hdd
    subst hdd
    cases v with
    | p x =>
      cases x with
      | s l =>
        simp [evLen] at hn
        subst hn
        have := hr.str_inv
        subst this
        simp [Builtin.len_, ht, run_underlying hd, goInt, bytes_size]
      | _ => simp [evLen] at hn
    | _ => simp [evLen] at hn
  | false =>
    simp only [Bool.false_eq_true, if_false] at hdd
    obtain ⟨e, rfl⟩ := hdd
    cases v with
    | p x =>
      cases x with
      | sl rows =>
        simp [evLen] at hn
        subst hn
        cases hr with | p _ _ hp =>
        cases hp
        simp [Builtin.len_, ht, run_underlying hd, goInt]
      | _ => simp [evLen] at hn
    | nils =>
      simp [evLen] at hn
      subst hn
      cases hr
      simp [Builtin.len_, ht, run_underlying hd, goInt]
    | arr id len gen =>
      simp only [evLen, Bool.false_eq_true, if_false] at hn
      split at hn
      · rename_i sz rows g sl hG
        split at hn
        · rename_i hg
          subst hg
          cases hn
          cases hr with | arr _ _ _ ad n c loc g' sz' g1 g2 g3 g4 =>
          have hinf : inf G id = some (some (g, sz)) := by simp [inf, hG, infO]
          rw [hinf] at g2
          cases g2
          obtain ⟨rfl, rfl, rfl⟩ := g4 rfl
          simp [Builtin.len_, ht, run_underlying hd, goInt]
        · cases hn
      · cases hn
    | _ => simp [evLen] at hn
end
end Go.Proofs.Z
end
section
namespace Go.Proofs.Z
open Go
variable [hP : HasP]
section
variable {m : Mem} {μ : Mu} {G : Heap} {w : World}
theorem Inv.fresh (hI : Inv m μ G w) {b : Nat} (hb : w.heap.size ≤ b) (o : Nat) : m b o = none := by
  cases h : m b o with
  | none => rfl
  | some v =>
    have := hI.known b o v h
    have := World.block_lt_of_cell? w _ this
    simp at this
    omega
theorem Inv.lt (hI : Inv m μ G w) {id : Nat} {loc : Loc} (h : μ id = some loc) : loc.blk < w.heap.size := by
  have hd := hI.dom id loc h
  have ho := hI.obj id _ (List.getElem?_eq_getElem hd) loc h
  have : ∃ x, w.heap[loc.blk]? = some x := by
    revert ho
    cases G[id] with
    | box ty c => rintro ⟨cs, T, h, _⟩; exact ⟨_, h⟩
    | arr ty sz rows g sl => rintro ⟨cs, T, h, _⟩; exact ⟨_, h⟩
    | map ents => rintro ⟨es, h, _⟩; exact ⟨_, h⟩
    | dead g sz => rintro ⟨x, h⟩; exact ⟨_, h⟩
    | frm => rintro ⟨r, N, h, _⟩; exact ⟨_, h⟩
  obtain ⟨x, h⟩ := this
  exact (Array.getElem?_eq_some_iff.1 h).1
theorem MapR.mono {m' : Mem} {es : Array MapEntry} {ents : List (PV × PV)} (h : MapR m es ents) (hm : ∀ b o v, m b o = some v → m' b o = some v) : MapR m' es ents := by
  obtain ⟨l, h1, h2, h3⟩ := h
  exact ⟨l, h1, h2, fun i e p a b => ⟨(h3 i e p a b).1.mono hm, (h3 i e p a b).2.mono hm⟩⟩
theorem ObjR.move {m' : Mem} {μ' : Mu} {G' : Heap} {w' : World} {loc : Loc} {ob : AObj} (h : ObjR m μ (inf G) w loc ob) (e : Ext m μ G m' μ' G')
    (hw : w'.heap[loc.blk]? = w.heap[loc.blk]?) (hm : ∀ o, m loc.blk o = none → m' loc.blk o = none) : ObjR m' μ' (inf G') w' loc ob := by
  cases ob with
  | box ty cells =>
    obtain ⟨cs, T, h1, h2, h3, h4, h5⟩ := h
    exact ⟨cs, T, by rw [hw]; exact h1, h2, fun j v a g1 g2 => (h3 j v a g1 g2).mono e, h4, fun o => hm o (h5.1 o), h5.2⟩
  | arr ty sz rows g sl =>
    obtain ⟨cs, T, h1, h2, h3, h4, h5, h6, h7⟩ := h
    exact ⟨cs, T, by rw [hw]; exact h1, h2, h3, h4, h5, fun i j r c g1 g2 => let ⟨v, k1, k2⟩ := h6 i j r c g1 g2; ⟨v, k1, k2.mono e.mem⟩, fun o ho => hm o (h7.1 o ho), h7.2⟩
  | map ents =>
    obtain ⟨es, h1, h2, h3, h4, h5⟩ := h
    exact ⟨es, by rw [hw]; exact h1, h2.mono e.mem, h3, h4, fun o => hm o (h5 o)⟩
  | dead g sz =>
    obtain ⟨x, h⟩ := h
    exact ⟨x, by rw [hw]; exact h⟩
  | frm ps asg body env st pend =>
    obtain ⟨r, N, h1, h2, h3, h4, h5, hd, h6, h7, h8, h9, h10⟩ := h
    exact ⟨r, N, by rw [hw]; exact h1, h2, h3, h4, h5, hd, h6, fun p hp => (h7 p hp).mono e, h8, h9, fun o => hm o (h10 o)⟩
theorem inf_app (G : Heap) (ob : AObj) (id : Nat) (h : id < G.length) : inf (G ++ [ob]) id = inf G id := by
  simp [inf, List.getElem?_append_left h]
theorem inf_last (G : Heap) (ob : AObj) : inf (G ++ [ob]) G.length = some (infO ob) := by simp [inf]
theorem inf_set (G : Heap) (ob : AObj) (id k : Nat) (h : k ≠ id) : inf (G.set id ob) k = inf G k := by
  simp [inf, List.getElem?_set, Ne.symm h]
theorem inf_set_same (G : Heap) (ob : AObj) (id : Nat) (h : id < G.length) : inf (G.set id ob) id = some (infO ob) := by
  simp [inf, h]
theorem alloc_stepO (hI : Inv m μ G w) (ob : AObj) (x : Obj) (cap : Nat)
    (μ' : Mu) (hμ : μ' = fun id => if id = G.length then some ⟨w.heap.size, cap⟩ else μ id) (w' : World) (hw : w' = { w with heap := w.heap.push x })
    (hob : Ext m μ G m μ' (G ++ [ob]) → ObjR m μ' (inf (G ++ [ob])) w' ⟨w.heap.size, cap⟩ ob) :
    Inv m μ' (G ++ [ob]) w' ∧ Stp m μ G w m μ' (G ++ [ob]) w' := by
  have hne : ∀ id loc, μ id = some loc → id ≠ G.length := fun id loc h => Nat.ne_of_lt (hI.dom id loc h)
  have hμo : ∀ id loc, μ id = some loc → μ' id = some loc := fun id loc h => by rw [hμ]; simp [hne id loc h, h]
  have hext : Ext m μ G m μ' (G ++ [ob]) :=
    ⟨fun _ _ _ h => h, fun id loc h h' => ⟨hμo id loc h, by rw [inf_app _ _ _ (hI.dom id loc h)]; exact h'⟩,
      fun id loc g sz h h' => ⟨loc, g, hμo id loc h, by rw [inf_app _ _ _ (hI.dom id loc h)]; exact h', Nat.le_refl _, fun _ => rfl⟩⟩
  have hblk : ∀ b, b < w.heap.size → w'.heap[b]? = w.heap[b]? := fun b hb => by rw [hw]; simp [Array.getElem?_push, Nat.ne_of_lt hb]
  have hinv : ∀ id loc, μ' id = some loc → (id = G.length ∧ loc = ⟨w.heap.size, cap⟩) ∨ μ id = some loc := fun id loc h => by
    rw [hμ] at h
    dsimp only at h
    split at h
    · cases h; exact .inl ⟨by assumption, rfl⟩
    · exact .inr h
  have hfr : Fr m μ w m μ' w' := ⟨by rw [hw], by rw [hw], by rw [hw], by rw [hw]; simp, fun b hb _ => hblk b hb, fun _ _ _ h => .inl h, fun id loc h => by
    rcases hinv id loc h with ⟨rfl, rfl⟩ | h'
    · exact .inl (Nat.le_refl _)
    · exact .inr ⟨id, loc, h', rfl⟩⟩
  refine ⟨⟨?_, ?_, ?_, ?_, hI.glob.step hfr⟩, ⟨hext, hfr, ?_⟩⟩
  · intro b o v h
    have h1 := hI.known b o v h
    have h2 := World.block_lt_of_cell? w _ h1
    simp at h2
    unfold World.cell? at h1 ⊢
    dsimp only at h1 ⊢
    rw [hblk b h2]
    exact h1
  · intro i j l l' h1 h2 e
    rcases hinv i l h1 with ⟨rfl, rfl⟩ | h1' <;> rcases hinv j l' h2 with ⟨rfl, rfl⟩ | h2'
    · rfl
    · have := hI.lt h2'; simp at e; omega
    · have := hI.lt h1'; simp at e; omega
    · exact hI.inj i j l l' h1' h2' e
  · intro id o ho loc hl
    rcases hinv id loc hl with ⟨rfl, rfl⟩ | hl'
    · simp at ho
      subst ho
      exact hob hext
    · have hd := hI.dom id loc hl'
      rw [List.getElem?_append_left hd] at ho
      exact (hI.obj id o ho loc hl').move hext (hblk _ (hI.lt hl')) (fun _ h => h)
  · intro id loc h
    rcases hinv id loc h with ⟨rfl, rfl⟩ | h'
    · simp
    · have := hI.dom id loc h'; simp; omega
  · refine ⟨fun id hid ht => ?_, fun id hid hn => ⟨?_, ?_⟩⟩
    · simp at hid
      rw [hμ]
      by_cases e : id = G.length
      · exact ⟨_, by simp [e]; rfl⟩
      · simp only [e, if_false]; exact ht (by omega)
    · rw [hμ]
      have : id ≠ G.length := by omega
      simp [this, hn]
    · rw [List.getElem?_append_left hid]
theorem alloc_step (hI : Inv m μ G w) (ob : AObj) (cs : Array Value) (T : TypeId) (cap : Nat)
    (μ' : Mu) (hμ : μ' = fun id => if id = G.length then some ⟨w.heap.size, cap⟩ else μ id) (w' : World) (hw : w' = { w with heap := w.heap.push (.cells cs T (0, 0)) })
    (hob : Ext m μ G m μ' (G ++ [ob]) → ObjR m μ' (inf (G ++ [ob])) w' ⟨w.heap.size, cap⟩ ob) :
    Inv m μ' (G ++ [ob]) w' ∧ Stp m μ G w m μ' (G ++ [ob]) w' := alloc_stepO hI ob _ cap μ' hμ w' hw hob
theorem set_step (hI : Inv m μ G w) {id : Nat} {old new : AObj} {loc : Loc} (hG : G[id]? = some old) (hl : μ id = some loc) {w' : World} {cs : Array Value} {T : TypeId}
    (hos : w'.os = w.os) (htape : w'.tape = w.tape) (hout : w'.output = w.output) (hsz : w'.heap.size = w.heap.size)
    (hblk : ∀ b, b ≠ loc.blk → w'.heap[b]? = w.heap[b]?)
    (hkn : ∀ o v, m loc.blk o = some v → w'.cell? ⟨loc.blk, o, none⟩ = some v)
    (hbox : infO old = none → infO new = none) (harr : ∀ g sz, infO old = some (g, sz) → ∃ g', infO new = some (g', sz) ∧ g ≤ g')
    (hob : Ext m μ G m μ (G.set id new) → ObjR m μ (inf (G.set id new)) w' loc new) :
    Inv m μ (G.set id new) w' ∧ Stp m μ G w m μ (G.set id new) w' := by
  have hid : id < G.length := (List.getElem?_eq_some_iff.1 hG).1
  have hold : inf G id = some (infO old) := by simp [inf, hG]
  have hext : Ext m μ G m μ (G.set id new) := by
    refine ⟨fun _ _ _ h => h, fun k l h h' => ⟨h, ?_⟩, fun k l g sz h h' => ?_⟩
    · by_cases e : k = id
      · subst e
        rw [hold] at h'
        rw [inf_set_same _ _ _ hid, hbox (by simpa using h')]
      · rw [inf_set _ _ _ _ e]; exact h'
    · by_cases e : k = id
      · subst e
        rw [hold] at h'
        obtain ⟨g', h1, h2⟩ := harr g sz (by simpa using h')
        exact ⟨l, g', h, by rw [inf_set_same _ _ _ hid, h1], h2, fun _ => rfl⟩
      · exact ⟨l, g, h, by rw [inf_set _ _ _ _ e]; exact h', Nat.le_refl _, fun _ => rfl⟩
  have hfr : Fr m μ w m μ w' := ⟨hos, htape, hout, by omega, fun b hb hn => hblk b (fun e => hn id loc hl e.symm), fun _ _ _ h => .inl h, fun k l h => .inr ⟨k, l, h, rfl⟩⟩
  refine ⟨⟨?_, hI.inj, ?_, fun k l h => by simpa using hI.dom k l h, hI.glob.step hfr⟩, ⟨hext, hfr, ⟨fun k hk ht => ht (by simpa using hk), fun k hk hn => ⟨hn, by rw [List.getElem?_set, if_neg]; rintro rfl; rw [hl] at hn; cases hn⟩⟩⟩⟩
  · intro b o v h
    by_cases e : b = loc.blk
    · subst e; exact hkn o v h
    · have := hI.known b o v h
      unfold World.cell? at this ⊢
      dsimp only at this ⊢
      rw [hblk b e]
      exact this
  · intro k ob hk l h
    by_cases e : k = id
    · subst e
      rw [hl] at h
      cases h
      simp [hid] at hk
      subst hk
      exact hob hext
    · rw [List.getElem?_set, if_neg (Ne.symm e)] at hk
      exact (hI.obj k ob hk l h).move hext (hblk _ (fun e' => e (hI.inj _ _ _ _ h hl e'))) (fun _ h => h)
theorem seal_step (hI : Inv m μ G w) {id : Nat} {ty sz g sl len : Nat} {rows : List (List PV)} {loc : Loc} (hG : G[id]? = some (.arr ty sz rows g sl)) (hl : μ id = some loc) (hlen : len ≤ rows.length) :
    ∃ m', Inv m' μ (G.set id (.arr ty sz rows g (Nat.max sl len))) w ∧ Stp m μ G w m' μ (G.set id (.arr ty sz rows g (Nat.max sl len))) w ∧
      ∃ cs : Array Value, w.heap[loc.blk]? = some (.cells cs ((w.shape? loc.blk).map (·.1) |>.getD 0) (0, 0)) ∧ ∀ o, o < len * sz → ∃ v, cs[o]? = some v ∧ m' loc.blk o = some v := by
  obtain ⟨cs, T, h1, h2, h3, h4, h5, h6, h7⟩ := hI.obj id _ hG loc hl
  have hid : id < G.length := (List.getElem?_eq_some_iff.1 hG).1
  let m' : Mem := fun b o => if b = loc.blk ∧ o < len * sz then cs[o]? else m b o
  have hcell : ∀ o, w.cell? ⟨loc.blk, o, none⟩ = cs[o]? := fun o => by simp [World.cell?, h1]
  have hmem : ∀ b o v, m b o = some v → m' b o = some v := by
    intro b o v h
    show (if b = loc.blk ∧ o < len * sz then cs[o]? else m b o) = some v
    split
    · rename_i e
      rw [← hcell, ← e.1]
      exact hI.known b o v h
    · exact h
  have hin : ∀ k, inf (G.set id (.arr ty sz rows g (Nat.max sl len))) k = inf G k := by
    intro k
    by_cases e : k = id
    · subst e; rw [inf_set_same _ _ _ hid]; simp [inf, hG, infO]
    · exact inf_set _ _ _ _ e
  have hext : Ext m μ G m' μ (G.set id (.arr ty sz rows g (Nat.max sl len))) :=
    ⟨hmem, fun k l h h' => ⟨h, by rw [hin]; exact h'⟩, fun k l g' sz' h h' => ⟨l, g', h, by rw [hin]; exact h', Nat.le_refl _, fun _ => rfl⟩⟩
  have hsz : len * sz ≤ cs.size := by rw [h2]; exact Nat.mul_le_mul_right _ (by omega)
  refine ⟨m', ⟨?_, hI.inj, ?_, fun k l h => by simpa using hI.dom k l h, hI.glob⟩, ⟨hext, ⟨rfl, rfl, rfl, Nat.le_refl _, fun _ _ _ => rfl, ?_, fun k l h => .inr ⟨k, l, h, rfl⟩⟩, ⟨fun k hk ht => ht (by simpa using hk), fun k hk hn => ⟨hn, by rw [List.getElem?_set, if_neg]; rintro rfl; rw [hl] at hn; cases hn⟩⟩⟩, cs, ?_, ?_⟩
  · intro b o v h
    change (if b = loc.blk ∧ o < len * sz then cs[o]? else m b o) = some v at h
    split at h
    · rename_i e
      rw [e.1, hcell]; exact h
    · exact hI.known b o v h
  · intro k ob hk l h
    by_cases e : k = id
    · subst e
      rw [hl] at h
      cases h
      simp [hid] at hk
      subst hk
      refine ⟨cs, T, h1, h2, h3, h4, h5, fun i j r c g1 g2 => let ⟨v, k1, k2⟩ := h6 i j r c g1 g2; ⟨v, k1, k2.mono hmem⟩, fun o ho => ?_, h7.2⟩
      show (if loc.blk = loc.blk ∧ o < len * sz then cs[o]? else m loc.blk o) = none
      have hmax1 : sl * sz ≤ Nat.max sl len * sz := Nat.mul_le_mul_right _ (Nat.le_max_left _ _)
      have hmax2 : len * sz ≤ Nat.max sl len * sz := Nat.mul_le_mul_right _ (Nat.le_max_right _ _)
      rw [if_neg (by omega)]
      exact h7.1 o (by omega)
    · rw [List.getElem?_set, if_neg (Ne.symm e)] at hk
      refine (hI.obj k ob hk l h).move hext rfl (fun o ho => ?_)
      show (if l.blk = loc.blk ∧ o < len * sz then cs[o]? else m l.blk o) = none
      rw [if_neg (fun e' => e (hI.inj _ _ _ _ h hl e'.1))]
      exact ho
  · intro b o v h
    change (if b = loc.blk ∧ o < len * sz then cs[o]? else m b o) = some v at h
    split at h
    · rename_i e
      exact .inr (.inr ⟨id, loc, hl, e.1.symm⟩)
    · exact .inl h
  · simp [World.shape?, h1]
  · intro o ho
    refine ⟨cs[o], Array.getElem?_eq_getElem (by omega), ?_⟩
    show (if loc.blk = loc.blk ∧ o < len * sz then cs[o]? else m loc.blk o) = some cs[o]
    rw [if_pos ⟨rfl, ho⟩]
    exact Array.getElem?_eq_getElem (by omega)
end
end Go.Proofs.Z
end
section
namespace Go.Proofs.Z
open Go
variable [hP : HasP]
def _root_.Go.Value.slcap : Value → Nat
  | .slice _ _ c => c
  | _ => 0
section
variable {m : Mem} {μ : Mu} {G : Heap} {w : World}
theorem okRows_take {sz n : Nat} {rows : List (List PV)} (h : okRows sz rows = true) : okRows sz (rows.take n) = true := by
  simp only [okRows, List.all_eq_true] at h ⊢
  exact fun r hr => h r (List.mem_of_mem_take hr)
theorem okRows_drop {sz n : Nat} {rows : List (List PV)} (h : okRows sz rows = true) : okRows sz (rows.drop n) = true := by
  simp only [okRows, List.all_eq_true] at h ⊢
  exact fun r hr => h r (List.mem_of_mem_drop hr)
theorem okRows_two {s t : Nat} {rows : List (List PV)} (h : okRows s rows = true) (h' : okRows t rows = true) (hne : rows ≠ []) : s = t := by
  cases rows with
  | nil => exact absurd rfl hne
  | cons r rs =>
    rw [← okRow_len (okRows_at h (i := 0) rfl), okRow_len (okRows_at h' (i := 0) rfl)]
theorem RP.ofBlock {b o sz cap : Nat} {rows : List (List PV)} (hcap : rows.length ≤ cap) (hs : okRows sz rows = true)
    (h : ∀ (i j : Nat) (r : List PV) (c : PV), rows[i]? = some r → r[j]? = some c → ∃ v, m b (o + i * sz + j) = some v ∧ RP m v c) : RP m (.slice (some ⟨b, o, none⟩) rows.length cap) (.sl rows) := by
  refine .sl _ cap rows sz (fun i j => (m b (o + i * sz + j)).getD undef) hcap hs (fun _ => ⟨b, o, rfl, fun i j r c h1 h2 => ?_⟩) (fun i j r c h1 h2 => ?_)
  · obtain ⟨v, k1, k2⟩ := h i j r c h1 h2
    rw [k1]; rfl
  · obtain ⟨v, k1, k2⟩ := h i j r c h1 h2
    rw [k1]; exact k2
theorem norm_arr (hI : Inv m μ G w) {id len gen : Nat} {z : Value} (hr : R m μ (inf G) z (.arr id len gen)) {ty sz g sl : Nat} {rows : List (List PV)} (hG : G[id]? = some (.arr ty sz rows g sl)) (hg : g = gen) (hle : len ≤ rows.length) :
    ∃ m', Inv m' μ (G.set id (.arr ty sz rows g (Nat.max sl len))) w ∧ Stp m μ G w m' μ (G.set id (.arr ty sz rows g (Nat.max sl len))) w ∧
      (∃ loc, z = .slice (some ⟨loc, 0, none⟩) len (z.slcap) ∧ len ≤ z.slcap ∧ ∀ (i j : Nat) (r : List PV) (c : PV), (rows.take len)[i]? = some r → r[j]? = some c → ∃ v, m' loc (i * sz + j) = some v ∧ RP m' v c) ∧ okRows sz rows = true ∧ 1 ≤ sz := by
  subst hg
  cases hr with | arr _ _ _ ad n c loc g' sz' h1 h2 h3 h4 =>
  have hinf : inf G id = some (some (g, sz)) := by simp [inf, hG, infO]
  rw [hinf] at h2
  cases h2
  obtain ⟨rfl, rfl, rfl⟩ := h4 rfl
  obtain ⟨m', hI', hS, cs, hcs, hm⟩ := seal_step hI hG h1 hle
  obtain ⟨cs', T, k1, k2, k3, k4, k5, k6, k7⟩ := hI.obj id _ hG loc h1
  have : cs' = cs := by
    rw [hcs] at k1
    injection k1 with k1
    injection k1 with e _ _
    exact e.symm
  subst this
  refine ⟨m', hI', hS, ⟨loc.blk, by simp [Value.slcap], by simp [Value.slcap]; omega, fun i j r c g1 g2 => ?_⟩, k5, k4⟩
  rw [List.getElem?_take] at g1
  split at g1
  · rename_i hi
    obtain ⟨v, q1, q2⟩ := k6 i j r c g1 g2
    have hj : j < sz := by rw [← okRow_len (okRows_at k5 g1)]; exact (List.getElem?_eq_some_iff.1 g2).1
    have hlt : i * sz + j < n * sz := by
      have : i * sz + sz ≤ n * sz := by rw [← Nat.succ_mul]; exact Nat.mul_le_mul_right _ hi
      omega
    obtain ⟨v', q3, q4⟩ := hm _ hlt
    have : v' = v := by rw [q3] at q1; cases q1; rfl
    subst this
    exact ⟨v', q4, q2.mono hS.ext.mem⟩
  · cases g1
theorem RL.ofArr {i : Inf} {cs : Array Value} {l : List AV} (h : cs.size = l.length) (hr : ∀ (j : Nat) (v : Value) (c : AV), cs[j]? = some v → l[j]? = some c → R m μ i v c) : RL m μ i cs.toList l :=
  ⟨by simpa using h, fun j v c h1 h2 => hr j v c (by simpa using h1) h2⟩
theorem R.agOf {i : Inf} {cs : Array Value} {l : List AV} (h : RL m μ i cs.toList l) : R m μ i (.agg cs) (.ag l) :=
  .ag _ _ (by simpa using h.1) (fun j v c h1 h2 => h.2 j v c (by simpa using h1) h2)
theorem R.tupOf {i : Inf} {cs : Array Value} {l : List AV} (h : RL m μ i cs.toList l) : R m μ i (.tuple cs) (.tup l) :=
  .tup _ _ (by simpa using h.1) (fun j v c h1 h2 => h.2 j v c (by simpa using h1) h2)
end
mutual
theorem norm_sound {μ : Mu} {w : World} : ∀ (a : AV) {m : Mem} {G G' : Heap} {v : AV} {z : Value}, Inv m μ G w → norm G a = some (v, G') → R m μ (inf G) z a →
    ∃ m', Inv m' μ G' w ∧ Stp m μ G w m' μ G' w ∧ R m' μ (inf G') z v
  | .p x, m, G, G', v, z, hI, h, hr => by
    simp [norm] at h
    obtain ⟨rfl, rfl⟩ := h
    exact ⟨m, hI, .refl _ _ _ _, hr⟩
  | .nils, m, G, G', v, z, hI, h, hr => by
    simp [norm] at h
    obtain ⟨rfl, rfl⟩ := h
    cases hr
    exact ⟨m, hI, .refl _ _ _ _, .p _ _ (.sl none 0 [] 0 (fun _ _ => undef) (Nat.le_refl _) rfl (fun h => absurd rfl h) (fun i j r c h => by simp at h))⟩
  | .arr id len gen, m, G, G', v, z, hI, h, hr => by
    simp only [norm] at h
    split at h
    · rename_i sz rows g sl hG
      split at h
      · rename_i hc
        cases h
        obtain ⟨m', hI', hS, ⟨b, hz, hcap, hm⟩, hok, h1⟩ := norm_arr hI hr hG hc.1 hc.2
        refine ⟨m', hI', hS, .p _ _ ?_⟩
        have hl : (rows.take len).length = len := by simp; have := hc.2; omega
        rw [hz]
        have := RP.ofBlock (m := m') (b := b) (o := 0) (sz := sz) (cap := z.slcap) (rows := rows.take len) (by omega) (okRows_take hok) (by simpa using hm)
        rw [hl] at this
        exact this
      · cases h
    · cases h
  | .ag cs, m, G, G', v, z, hI, h, hr => by
    simp only [norm] at h
    split at h
    · rename_i vs G1 hn
      cases h
      obtain ⟨ca, rfl, h1, h2⟩ := hr.ag_inv
      obtain ⟨m', hI', hS, hr'⟩ := normL_sound cs hI hn (RL.ofArr h1 h2)
      exact ⟨m', hI', hS, .agOf hr'⟩
    · cases h
  | .tup cs, m, G, G', v, z, hI, h, hr => by
    simp only [norm] at h
    split at h
    · rename_i vs G1 hn
      cases h
      obtain ⟨ca, rfl, h1, h2⟩ := hr.tup_inv
      obtain ⟨m', hI', hS, hr'⟩ := normL_sound cs hI hn (RL.ofArr h1 h2)
      exact ⟨m', hI', hS, .tupOf hr'⟩
    · cases h
  | .ifc t x, m, G, G', v, z, hI, h, hr => by
    simp only [norm] at h
    split at h
    · rename_i y G1 hn
      cases h
      cases hr with | ifc _ z' _ hr =>
      obtain ⟨m', hI', hS, hr'⟩ := norm_sound x hI hn hr
      exact ⟨m', hI', hS, .ifc _ _ _ hr'⟩
    · cases h
      cases hr with | ifc _ z' _ hr => exact ⟨m, hI, .refl _ _ _ _, .p _ _ (.opq _ _)⟩
  | .clip rows, m, G, G', v, z, hI, h, hr => by
    simp [norm] at h
    obtain ⟨rfl, rfl⟩ := h
    cases hr with | clip a _ hp => exact ⟨m, hI, .refl _ _ _ _, .p _ _ hp⟩
  | .map _, m, G, G', v, z, hI, h, hr => by simp [norm] at h
  | .nmap, m, G, G', v, z, hI, h, hr => by simp [norm] at h
  | .yld _, m, G, G', v, z, hI, h, hr => by simp [norm] at h
  | .undef, m, G, G', v, z, hI, h, hr => by simp [norm] at h
  | .ptr _ _, m, G, G', v, z, hI, h, hr => by simp [norm] at h
  | .eptr _ _ _ _, m, G, G', v, z, hI, h, hr => by simp [norm] at h
  | .rp _, m, G, G', v, z, hI, h, hr => by simp [norm] at h
  | .fn _ _ _, m, G, G', v, z, hI, h, hr => by simp [norm] at h
theorem normL_sound {μ : Mu} {w : World} : ∀ (l : List AV) {m : Mem} {G G' : Heap} {vs : List AV} {zs : List Value}, Inv m μ G w → normL G l = some (vs, G') → RL m μ (inf G) zs l →
    ∃ m', Inv m' μ G' w ∧ Stp m μ G w m' μ G' w ∧ RL m' μ (inf G') zs vs
  | [], m, G, G', vs, zs, hI, h, hr => by
    simp [normL] at h
    obtain ⟨rfl, rfl⟩ := h
    exact ⟨m, hI, .refl _ _ _ _, hr⟩
  | a :: r, m, G, G', vs, zs, hI, h, hr => by
    simp only [normL] at h
    split at h
    · cases h
    · rename_i v G1 hn
      split at h
      · cases h
      · rename_i vs' G2 hn2
        cases h
        obtain ⟨z, zs, rfl, hz, hr⟩ := hr.inv_cons
        obtain ⟨m1, hI1, hS1, hz1⟩ := norm_sound a hI hn hz
        obtain ⟨m2, hI2, hS2, hr2⟩ := normL_sound r hI1 hn2 (hr.mono hS1.ext)
        exact ⟨m2, hI2, hS1.trans hS2, .cons (hz1.mono hS2.ext) hr2⟩
end
def RPL (m : Mem) (zs : List Value) (l : List PV) : Prop := zs.length = l.length ∧ ∀ (j : Nat) (v : Value) (c : PV), zs[j]? = some v → l[j]? = some c → RP m v c
theorem RPL.cons {m : Mem} {z : Value} {x : PV} {zs : List Value} {l : List PV} (h : RP m z x) (hr : RPL m zs l) : RPL m (z :: zs) (x :: l) :=
  ⟨by simp [hr.1], fun j v' c h1 h2 => by
    cases j with
    | zero => simp at h1 h2; subst h1; subst h2; exact h
    | succ j => simp at h1 h2; exact hr.2 j v' c h1 h2⟩
theorem RPL.mono {m m' : Mem} (h : ∀ b o v, m b o = some v → m' b o = some v) {zs : List Value} {l : List PV} (hr : RPL m zs l) : RPL m' zs l :=
  ⟨hr.1, fun j v c h1 h2 => (hr.2 j v c h1 h2).mono h⟩
mutual
theorem toP_sound {m : Mem} {μ : Mu} {i : Inf} : ∀ (a : AV) {x : PV} {z : Value}, toP a = some x → R m μ i z a → RP m z x
  | .p x, y, z, h, hr => by simp [toP] at h; subst h; cases hr; assumption
  | .ag cs, y, z, h, hr => by
    simp only [toP] at h
    split at h
    · rename_i l hl
      cases h
      obtain ⟨ca, rfl, h1, h2⟩ := hr.ag_inv
      have := toPL_sound cs hl (RL.ofArr h1 h2)
      exact .ag _ _ (by simpa using this.1) (fun j v c h1 h2 => this.2 j v c (by simpa using h1) h2)
    · cases h
  | .ifc t v, y, z, h, hr => by
    simp only [toP] at h
    split at h
    · rename_i x hx
      cases h
      cases hr with | ifc _ z' _ hr =>
      exact .ifc _ _ _ (toP_sound v hx hr)
    · cases h
  | .nils, y, z, h, hr => by simp [toP] at h
  | .undef, y, z, h, hr => by simp [toP] at h
  | .ptr _ _, y, z, h, hr => by simp [toP] at h
  | .arr _ _ _, y, z, h, hr => by simp [toP] at h
  | .eptr _ _ _ _, y, z, h, hr => by simp [toP] at h
  | .rp _, y, z, h, hr => by simp [toP] at h
  | .tup _, y, z, h, hr => by simp [toP] at h
  | .fn _ _ _, y, z, h, hr => by simp [toP] at h
  | .clip _, y, z, h, hr => by simp [toP] at h
  | .map _, y, z, h, hr => by simp [toP] at h
  | .nmap, y, z, h, hr => by simp [toP] at h
  | .yld _, y, z, h, hr => by simp [toP] at h
theorem toPL_sound {m : Mem} {μ : Mu} {i : Inf} : ∀ (l : List AV) {xs : List PV} {zs : List Value}, toPL l = some xs → RL m μ i zs l → RPL m zs xs
  | [], xs, zs, h, hr => by
    simp [toPL] at h
    subst h
    exact ⟨hr.1, fun j v c _ h2 => by simp at h2⟩
  | a :: r, xs, zs, h, hr => by
    simp only [toPL] at h
    split at h
    · cases h
    · rename_i x hx
      split at h
      · cases h
      · rename_i xs' hxs
        cases h
        obtain ⟨z, zs, rfl, hz, hr⟩ := hr.inv_cons
        exact .cons (toP_sound a hx hz) (toPL_sound r hxs hr)
end
theorem toPL_length : ∀ (l : List AV) {xs : List PV}, toPL l = some xs → xs.length = l.length
  | [], xs, h => by simp [toPL] at h; subst h; rfl
  | a :: r, xs, h => by
    simp only [toPL] at h
    split at h
    · cases h
    · split at h
      · cases h
      · rename_i xs' hxs
        cases h
        simp [toPL_length r hxs]
theorem normP_sound {μ : Mu} {w : World} {a : AV} {m : Mem} {G G' : Heap} {l : List PV} {z : Value} (hI : Inv m μ G w) (h : normP G a = some (l, G')) (hr : R m μ (inf G) z a) (hf : l.all PV.flat = true) :
    ∃ m', Inv m' μ G' w ∧ Stp m μ G w m' μ G' w ∧ RPL m' z.cells.toList l := by
  unfold normP at h
  split at h
  · cases h
  · rename_i vs G1 hn
    split at h
    · cases h
    · rename_i l' hl
      cases h
      have hcells : RL m μ (inf G) z.cells.toList a.cells := by
        cases a with
        | ag cs =>
          obtain ⟨ca, rfl, h1, h2⟩ := hr.ag_inv
          exact RL.ofArr h1 h2
        | p x =>
          simp [AV.cells, normL, norm] at hn
          obtain ⟨rfl, rfl⟩ := hn
          simp [toPL, toP] at hl
          subst hl
          exact RL.cellsOf hr (by simpa [AV.cells, AV.flat] using hf)
        | nils => exact RL.cellsOf hr rfl
        | arr id len gen => exact RL.cellsOf hr rfl
        | ifc t v => exact RL.cellsOf hr rfl
        | undef => simp [AV.cells, normL, norm] at hn
        | ptr _ _ => simp [AV.cells, normL, norm] at hn
        | eptr _ _ _ _ => simp [AV.cells, normL, norm] at hn
        | rp _ => simp [AV.cells, normL, norm] at hn
        | tup l =>
          simp only [AV.cells, normL, norm] at hn
          cases hq : normL G l with
          | none => simp [hq] at hn
          | some y => simp [hq] at hn; obtain ⟨rfl, rfl⟩ := hn; simp [toPL, toP] at hl
        | fn _ _ _ => simp [AV.cells, normL, norm] at hn
        | map _ => simp [AV.cells, normL, norm] at hn
        | nmap => simp [AV.cells, normL, norm] at hn
        | yld _ => simp [AV.cells, normL, norm] at hn
        | clip _ => exact RL.cellsOf hr rfl
      obtain ⟨m', hI', hS, hrl⟩ := normL_sound _ hI hn hcells
      exact ⟨m', hI', hS, toPL_sound _ hl hrl⟩
end Go.Proofs.Z
end
