/- A part of the proof. -/
import Derived.Test.YtmlaokgdomfmgaaGreatDoorL30
import Derived.ProofKit
import Derived.Lib.SmallJoins
import Derived.Lib.LaidTab
import Derived.Shelf.Vars
import Derived.Test.YtmlaokgdomfmgaaGreatDoorRows
import Derived.LaidHandle
import Derived.Stop.Joined
import Derived.HandedShaped
import Derived.LaidLaws
import GoSem.ClaimJoined
set_option linter.all false
section
namespace Go.Proofs.Z
open Go
set_option maxRecDepth 100000
def mW (W : World) : Mem := fun b o => W.cell? ⟨b, o, none⟩
def Cw (m : Mem) (cs : List Value) (ps : List PV) : Prop := cs.length = ps.length ∧ ∀ (j : Nat) (v : Value) (c : PV), cs[j]? = some v → ps[j]? = some c → RP m v c
theorem Cw.nil {m : Mem} : Cw m [] [] := ⟨rfl, fun j v c h => by simp at h⟩
theorem Cw.cons {m : Mem} {v : Value} {c : PV} {cs : List Value} {ps : List PV} (h : RP m v c) (k : Cw m cs ps) : Cw m (v :: cs) (c :: ps) := by
  refine ⟨by simp [k.1], fun j v' c' h1 h2 => ?_⟩
  cases j with
  | zero => simp at h1 h2; subst h1 h2; exact h
  | succ j => simp at h1 h2; exact k.2 j v' c' h1 h2
section
variable {H : Type} {enc : TypeId × Value → H} {P : Program} {W : World} {base : Nat} {spare : Nat → Bool} {held : Bool}
theorem open_rows {α : Type} {t e : TypeId} {fuel : Nat} {cs : List Value} {x : DataW H × List MemPlace} {sz : Nat} (f : α → List PV) (Q : α → Prop) (ht : P.underlying t = some (.slice e)) (hsz : P.cellsOf e = sz) (h0 : 0 < sz)
    (hf : ∀ r, okRow sz (f r) = true) (h : DataW.trod enc P W base spare held fuel t cs = some x)
    (hE : ∀ n cs' y, fuel = n + 1 → DataW.trod enc P W base spare held n e cs' = some y → cs'.length = sz → ∃ r : α, Q r ∧ Cw (mW W) cs' (f r)) :
    ∃ a cap, ∃ l : List α, cs = [.slice a l.length cap] ∧ RP (mW W) (.slice a l.length cap) (.sl (l.map f)) ∧ (∀ r ∈ l, Q r) ∧ l.length ≤ maxLen := by
  have hlen : ∀ r, (f r).length = sz := fun r => by
    have := hf r
    simp only [okRow, Bool.and_eq_true, beq_iff_eq] at this
    exact this.1
  rcases DataW.trod_slice ht h with ⟨rfl, _⟩ | ⟨a, len, cap, elems, rest, n, hn, rfl, _, hb, hl, hm, hel, hrow, _, _⟩
  · refine ⟨none, 0, [], rfl, ?_, by simp, by simp⟩
    have := RP.sl (m := mW W) none 0 ([] : List (List PV)) sz (fun _ _ => .bool false) (by simp) (by simp [okRows]) (by simp) (by simp)
    simpa using this
  · have key : ∀ i : Fin len, ∃ r : α, Q r ∧ ∀ (j : Nat) (c : PV), (f r)[j]? = some c → a.spot = none ∧ ∃ v, W.cell? ⟨a.block, a.off + i * sz + j, none⟩ = some v ∧ RP (mW W) v c := by
      intro i
      have hil := i.2
      have hi := hrow i.1 i.2
      rw [List.getElem?_eq_getElem (by rw [hel]; exact i.2), hsz] at hi
      obtain ⟨cs', h1, h2⟩ := Option.bind_eq_some_iff.1 hi
      obtain ⟨_, h4, h5⟩ := World.cells?_some h1
      obtain ⟨r, hQ, hc, hr⟩ := hE n cs' _ hn h2 h4
      have hsp : a.spot = none := by
        have e := h5 0 h0
        rw [List.getElem?_eq_getElem (by omega)] at e
        have := World.cell?_spot e
        by_cases hi0 : i.1 * sz = 0
        · simpa [Addr.add, hi0] using this
        · have := h5 0 h0
          have e0 := hrow 0 (by omega)
          rw [List.getElem?_eq_getElem (by omega), hsz] at e0
          obtain ⟨cs0, g1, _⟩ := Option.bind_eq_some_iff.1 e0
          obtain ⟨_, g4, g5⟩ := World.cells?_some g1
          have e := g5 0 h0
          rw [List.getElem?_eq_getElem (by omega)] at e
          have := World.cell?_spot e
          simpa [Addr.add] using this
      refine ⟨r, hQ, fun j c hj => ⟨hsp, ?_⟩⟩
      have hj' : j < sz := by
        have := (List.getElem?_eq_some_iff.1 hj).1
        rw [hlen] at this; exact this
      have e := h5 j hj'
      rw [List.getElem?_eq_getElem (by omega)] at e
      refine ⟨_, ?_, hr j _ c (List.getElem?_eq_getElem (by omega)) hj⟩
      rw [← e]
      congr 1
      obtain ⟨b, o, s⟩ := a
      subst hsp
      simp only [Addr.add]
      repeat' split
      all_goals (simp_all <;> omega)
    obtain ⟨F, hF⟩ := Classical.axiomOfChoice key
    refine ⟨some a, cap, List.ofFn F, by simp, ?_, ?_, by simp; omega⟩
    · have hget : ∀ (i : Nat) (r : List PV), ((List.ofFn F).map f)[i]? = some r → ∃ hi : i < len, r = f (F ⟨i, hi⟩) := by
        intro i r hr
        by_cases hi : i < len
        · rw [List.getElem?_map, List.getElem?_ofFn, dif_pos hi] at hr
          exact ⟨hi, (Option.some.inj hr).symm⟩
        · rw [List.getElem?_map, List.getElem?_ofFn, dif_neg hi] at hr
          cases hr
      have := RP.sl (m := mW W) (some a) cap ((List.ofFn F).map f) sz (fun i j => (W.cell? ⟨a.block, a.off + i * sz + j, none⟩).getD undef) (by simp; omega)
        (by simp only [okRows, List.all_eq_true]; intro r hr; obtain ⟨q, _, rfl⟩ := List.mem_map.1 hr; exact hf q)
        (fun hne => ?_) (fun i j r c h1 h2 => ?_)
      · simpa using this
      · have hpos : 0 < len := by
          cases len with
          | zero => simp at hne
          | succ k => omega
        have hs : a.spot = none := by
          have hk : 0 < (f (F ⟨0, hpos⟩)).length := by rw [hlen]; exact h0
          exact ((hF ⟨0, hpos⟩).2 0 _ (List.getElem?_eq_getElem hk)).1
        refine ⟨a.block, a.off, by obtain ⟨b, o, s⟩ := a; cases hs; rfl, fun i j r c h1 h2 => ?_⟩
        obtain ⟨hi, rfl⟩ := hget i r h1
        obtain ⟨_, v, hv, _⟩ := (hF ⟨i, hi⟩).2 j c h2
        simp only [mW]
        rw [hv]; rfl
      · obtain ⟨hi, rfl⟩ := hget i r h1
        obtain ⟨_, v, hv, hr⟩ := (hF ⟨i, hi⟩).2 j c h2
        simp only [hv, Option.getD_some]
        exact hr
    · intro r hr
      obtain ⟨i, rfl⟩ := List.mem_ofFn.1 hr
      exact (hF i).1
end
section
variable {H : Type} {enc : TypeId × Value → H} {W : World} {base : Nat} {spare : Nat → Bool} {held : Bool} {n : Nat} {cs : List Value} {y : DataW H × List MemPlace}
theorem co3 : Tryz.prog.cellsOf 3 = 1 := by kernel_rfl
theorem co9 : Tryz.prog.cellsOf 9 = 1 := by kernel_rfl
theorem co24 : Tryz.prog.cellsOf 24 = 4 := by kernel_rfl
theorem co25 : Tryz.prog.cellsOf 25 = 1 := by kernel_rfl
theorem co26 : Tryz.prog.cellsOf 26 = 1 := by kernel_rfl
theorem co27 : Tryz.prog.cellsOf 27 = 1 := by kernel_rfl
theorem co29 : Tryz.prog.cellsOf 29 = 4 := by kernel_rfl
theorem co31 : Tryz.prog.cellsOf 31 = 9 := by kernel_rfl
theorem co33 : Tryz.prog.cellsOf 33 = 17 := by kernel_rfl
theorem co35 : Tryz.prog.cellsOf 35 = 24 := by kernel_rfl
theorem one_int (h : DataW.trod enc Tryz.prog W base spare held n 3 cs = some y) : ∃ k : Int, cs = [.int .i64 k] ∧ (Lit.int .i64 k).wf = true := by
  obtain ⟨k, rfl, _, w⟩ := DataW.trod_int Tryz.underlying3 h
  exact ⟨k, rfl, w⟩
theorem one_err (h : DataW.trod enc Tryz.prog W base spare held n 26 cs = some y) : ∃ k : Int, cs = [.int .i64 k] ∧ (Lit.int .i64 k).wf = true := by
  obtain ⟨k, rfl, _, w⟩ := DataW.trod_int Tryz.underlying26 h
  exact ⟨k, rfl, w⟩
theorem one_str (h : DataW.trod enc Tryz.prog W base spare held n 9 cs = some y) : ∃ s : List UInt8, cs = [.string ⟨s.toArray⟩] ∧ s.length ≤ maxLen := by
  obtain ⟨k, rfl, _, w⟩ := DataW.trod_string Tryz.underlying9 h
  exact ⟨k.data.toList, by simp, by simpa using w⟩
theorem maxLen_le : maxLen < 2 ^ 63 := by decide
theorem one_shape : ∀ (n : Nat) {cs : List Value} {y : DataW H × List MemPlace}, DataW.trod enc Tryz.prog W base spare held n 29 cs = some y → ∃ t : Tm, t.Big ∧ Cw (mW W) cs t.enc := by
  intro n
  induction n using Nat.strongRecOn with
  | _ n ih =>
    intro cs y h
    obtain ⟨xs, m, hm, _, hl, hxs, hf⟩ := DataW.trod_struct Tryz.underlying29 h
    rw [co29] at hl
    match cs, hl with
    | [c0, c1, c2, c3], _ =>
      match xs, hxs with
      | [x0, x1, x2, x3], _ =>
        have f0 := hf 0 _ rfl
        have f1 := hf 1 _ rfl
        have f2 := hf 2 _ rfl
        have f3 := hf 3 _ rfl
        simp [co3, co9, co27] at f0 f1 f2 f3
        obtain ⟨k0, e0, _⟩ := one_int f0
        obtain ⟨k1, e1, _⟩ := one_int f1
        obtain ⟨k2, e2, n2⟩ := one_str f2
        obtain ⟨a3, c3', l3, e3, r3, q3, n3⟩ := open_rows Tm.enc Tm.Big Tryz.underlying27 co29 (by omega) Tm.okRow f3 (fun n' cs' y' hn g _ => ih n' (by omega) g)
        cases e0; cases e1; cases e2; cases e3
        have hM := maxLen_le
        refine ⟨.mk k0 k1 k2 l3, .mk (by omega) (by omega) q3, ?_⟩
        simp only [Tm.enc, Tm.encL_map]
        exact .cons (.i _ _) (.cons (.i _ _) (.cons (.s _) (.cons r3 .nil)))
theorem Cw.app {m : Mem} {cs cs' : List Value} {ps ps' : List PV} (h : Cw m cs ps) (h' : Cw m cs' ps') : Cw m (cs ++ cs') (ps ++ ps') := by
  refine ⟨by simp [h.1, h'.1], fun j v c h1 h2 => ?_⟩
  by_cases hj : j < cs.length
  · rw [List.getElem?_append_left hj] at h1
    rw [List.getElem?_append_left (by rw [← h.1]; exact hj)] at h2
    exact h.2 j v c h1 h2
  · rw [List.getElem?_append_right (by omega)] at h1
    rw [List.getElem?_append_right (by rw [← h.1]; omega), ← h.1] at h2
    exact h'.2 _ v c h1 h2
theorem one_tally (h : DataW.trod enc Tryz.prog W base spare held n 31 cs = some y) : ∃ a0 a1 a2 a3 a4 a5 a6 a7 a8 : Int, cs = [.int .i64 a0, .int .i64 a1, .int .i64 a2, .int .i64 a3, .int .i64 a4, .int .i64 a5, .int .i64 a6, .int .i64 a7, .int .i64 a8] := by
  obtain ⟨xs, m, rfl, hx, hl, hn, hel⟩ := DataW.trod_array Tryz.underlying31 h
  rw [co31] at hl
  match cs, hl with
  | [c0, c1, c2, c3, c4, c5, c6, c7, c8], _ =>
    match xs, hn with
    | [x0, x1, x2, x3, x4, x5, x6, x7, x8], _ =>
      have f0 := hel 0 (by decide)
      have f1 := hel 1 (by decide)
      have f2 := hel 2 (by decide)
      have f3 := hel 3 (by decide)
      have f4 := hel 4 (by decide)
      have f5 := hel 5 (by decide)
      have f6 := hel 6 (by decide)
      have f7 := hel 7 (by decide)
      have f8 := hel 8 (by decide)
      simp [co3] at f0 f1 f2 f3 f4 f5 f6 f7 f8
      obtain ⟨a0, e0, _⟩ := one_int f0
      obtain ⟨a1, e1, _⟩ := one_int f1
      obtain ⟨a2, e2, _⟩ := one_int f2
      obtain ⟨a3, e3, _⟩ := one_int f3
      obtain ⟨a4, e4, _⟩ := one_int f4
      obtain ⟨a5, e5, _⟩ := one_int f5
      obtain ⟨a6, e6, _⟩ := one_int f6
      obtain ⟨a7, e7, _⟩ := one_int f7
      obtain ⟨a8, e8, _⟩ := one_int f8
      cases e0; cases e1; cases e2; cases e3; cases e4; cases e5; cases e6; cases e7; cases e8
      exact ⟨_, _, _, _, _, _, _, _, _, rfl⟩
theorem one_limits (h : DataW.trod enc Tryz.prog W base spare held n 24 cs = some y) : ∃ a0 a1 a2 a3 : Int, cs = [.int .i64 a0, .int .i64 a1, .int .i64 a2, .int .i64 a3] := by
  obtain ⟨xs, m, _, _, hl, hxs, hf⟩ := DataW.trod_struct Tryz.underlying24 h
  rw [co24] at hl
  match cs, hl with
  | [c0, c1, c2, c3], _ =>
    match xs, hxs with
    | [x0, x1, x2, x3], _ =>
      have f0 := hf 0 _ rfl
      have f1 := hf 1 _ rfl
      have f2 := hf 2 _ rfl
      have f3 := hf 3 _ rfl
      simp [co3] at f0 f1 f2 f3
      obtain ⟨a0, e0, _⟩ := one_int f0
      obtain ⟨a1, e1, _⟩ := one_int f1
      obtain ⟨a2, e2, _⟩ := one_int f2
      obtain ⟨a3, e3, _⟩ := one_int f3
      cases e0; cases e1; cases e2; cases e3
      exact ⟨_, _, _, _, rfl⟩
theorem one_result (h : DataW.trod enc Tryz.prog W base spare held n 33 cs = some y) : ∃ (a0 a1 a2 : Int) (t : Tm) (s0 s1 s2 s3 : Value) (b0 b1 b2 b3 b4 b5 b6 b7 b8 st : Int), t.Big ∧ Cw (mW W) [s0, s1, s2, s3] t.enc ∧
    cs = [.int .i64 a0, .int .i64 a1, .int .i64 a2, s0, s1, s2, s3, .int .i64 b0, .int .i64 b1, .int .i64 b2, .int .i64 b3, .int .i64 b4, .int .i64 b5, .int .i64 b6, .int .i64 b7, .int .i64 b8, .int .i64 st] := by
  obtain ⟨xs, m, _, _, hl, hxs, hf⟩ := DataW.trod_struct Tryz.underlying33 h
  rw [co33] at hl
  match cs, hl with
  | [c0, c1, c2, c3, c4, c5, c6, c7, c8, c9, c10, c11, c12, c13, c14, c15, c16], _ =>
    match xs, hxs with
    | [x0, x1, x2, x3, x4, x5], _ =>
      have f0 := hf 0 _ rfl
      have f1 := hf 1 _ rfl
      have f2 := hf 2 _ rfl
      have f3 := hf 3 _ rfl
      have f4 := hf 4 _ rfl
      have f5 := hf 5 _ rfl
      simp [co3, co26, co29, co31] at f0 f1 f2 f3 f4 f5
      obtain ⟨a0, e0, _⟩ := one_int f0
      obtain ⟨a1, e1, _⟩ := one_err f1
      obtain ⟨a2, e2, _⟩ := one_int f2
      obtain ⟨t, ht, hc⟩ := one_shape _ f3
      obtain ⟨b0, b1, b2, b3, b4, b5, b6, b7, b8, e4⟩ := one_tally f4
      obtain ⟨st, e5, _⟩ := one_int f5
      cases e0; cases e1; cases e2; cases e4; cases e5
      exact ⟨_, _, _, t, _, _, _, _, _, _, _, _, _, _, _, _, _, _, ht, hc, rfl⟩
theorem okInts : ∀ r : Int, okRow 1 [iv r] = true := fun r => rfl
theorem open_desk {r : Reach} {b0 : Nat} {v : Value} {d : DataW H} {p : List MemPlace} (hv : Value.okWide Tryz.prog W r b0 35 v) (h : DataW.Trod enc Tryz.prog W base spare held 35 v d p) :
    ∃ D : Dk, D.Ok ∧ R (mW W) (fun _ => none) (inf []) v (.ag D.cs) := by
  obtain ⟨cs, rfl, hsz⟩ := Go.WideShapes.okWide_struct Tryz.underlying35 hv
  obtain ⟨fuel, hf0⟩ := h
  obtain ⟨xs, m, _, _, hl, hxs, hf⟩ := DataW.trod_struct Tryz.underlying35 hf0
  rw [co35] at hl
  rcases cs with ⟨cs⟩
  simp only [Value.cells] at hl hf
  match cs, hl with
  | [c0, c1, c2, c3, c4, c5, c6, c7, c8, c9, c10, c11, c12, c13, c14, c15, c16, c17, c18, c19, c20, c21, c22, c23], _ =>
    match xs, hxs with
    | [x0, x1, x2, x3, x4], _ =>
      have f0 := hf 0 _ rfl
      have f1 := hf 1 _ rfl
      have f2 := hf 2 _ rfl
      have f3 := hf 3 _ rfl
      have f4 := hf 4 _ rfl
      simp [co3, co9, co24, co25, co33] at f0 f1 f2 f3 f4
      obtain ⟨tx, e0, n0⟩ := one_str f0
      obtain ⟨a0, a1, a2, a3, e1⟩ := one_limits f1
      obtain ⟨ad, cap, pk, e2, r2, _, n2⟩ := open_rows (fun n => [iv n]) (fun _ : Int => True) Tryz.underlying25 co3 (by omega) okInts f2 (fun _ _ _ _ g _ => by
        obtain ⟨k, rfl, _⟩ := one_int g
        exact ⟨k, trivial, .cons (.i _ _) .nil⟩)
      obtain ⟨k0, k1, k2, t, s0, s1, s2, s3, b0, b1, b2, b3, b4, b5, b6, b7, b8, st, ht, hc, e3⟩ := one_result f3
      obtain ⟨rn, e4, _⟩ := one_int f4
      obtain ⟨tk, tn, ts, tl⟩ := t
      cases e0; cases e1; cases e2; cases e3; cases e4
      have hM := maxLen_le
      refine ⟨⟨tx, a0, a1, a2, a3, pk.map fun n => [iv n], k0, k1, k2, tk, tn, ts, Tm.encL tl, b0, b1, b2, b3, b4, b5, b6, b7, b8, st, rn⟩, ⟨⟨tl, rfl, ht⟩, ⟨pk, rfl, by omega⟩⟩, ?_⟩
      obtain ⟨_, hc⟩ := hc
      refine .ag _ _ rfl fun j v c h1 h2 => ?_
      match j with
      | 0 => simp at h1 h2; subst h1 h2; exact .p _ _ (.s _)
      | 1 => simp at h1 h2; subst h1 h2; exact .p _ _ (.i _ _)
      | 2 => simp at h1 h2; subst h1 h2; exact .p _ _ (.i _ _)
      | 3 => simp at h1 h2; subst h1 h2; exact .p _ _ (.i _ _)
      | 4 => simp at h1 h2; subst h1 h2; exact .p _ _ (.i _ _)
      | 5 => simp at h1 h2; subst h1 h2; exact .p _ _ r2
      | 6 => simp at h1 h2; subst h1 h2; exact .p _ _ (.i _ _)
      | 7 => simp at h1 h2; subst h1 h2; exact .p _ _ (.i _ _)
      | 8 => simp at h1 h2; subst h1 h2; exact .p _ _ (.i _ _)
      | 9 => simp at h1 h2; subst h1 h2; exact .p _ _ (hc 0 _ _ rfl rfl)
      | 10 => simp at h1 h2; subst h1 h2; exact .p _ _ (hc 1 _ _ rfl rfl)
      | 11 => simp at h1 h2; subst h1 h2; exact .p _ _ (hc 2 _ _ rfl rfl)
      | 12 => simp at h1 h2; subst h1 h2; exact .p _ _ (hc 3 _ _ rfl rfl)
      | 13 => simp at h1 h2; subst h1 h2; exact .p _ _ (.i _ _)
      | 14 => simp at h1 h2; subst h1 h2; exact .p _ _ (.i _ _)
      | 15 => simp at h1 h2; subst h1 h2; exact .p _ _ (.i _ _)
      | 16 => simp at h1 h2; subst h1 h2; exact .p _ _ (.i _ _)
      | 17 => simp at h1 h2; subst h1 h2; exact .p _ _ (.i _ _)
      | 18 => simp at h1 h2; subst h1 h2; exact .p _ _ (.i _ _)
      | 19 => simp at h1 h2; subst h1 h2; exact .p _ _ (.i _ _)
      | 20 => simp at h1 h2; subst h1 h2; exact .p _ _ (.i _ _)
      | 21 => simp at h1 h2; subst h1 h2; exact .p _ _ (.i _ _)
      | 22 => simp at h1 h2; subst h1 h2; exact .p _ _ (.i _ _)
      | 23 => simp at h1 h2; subst h1 h2; exact .p _ _ (.i _ _)
      | j + 24 => simp at h1
end
end Go.Proofs.Z
end
section
set_option maxRecDepth 100000
namespace Go.Proofs.Z
open Go Go.Proofs Go.Proofs.YtmlaokgdomfmgaaGreatDoor
noncomputable abbrev lL : List (String × DataW Unit) := Rows.deskLimitsRow.laid
theorem var_heap {P : Program} {W : World} {name : String} {g : Nat} {cs : Array Value} (hg : P.globalNamed name = some g) (h : W.var? P name = some cs) : ∃ T f, W.heap[g]? = some (.cells cs T f) := by
  unfold World.var? at h
  rw [hg] at h
  simp only [Option.bind_some] at h
  split at h
  · rename_i c T f hh; cases h; exact ⟨T, f, hh⟩
  · cases h
theorem trod_iface {H : Type} {enc : TypeId × Value → H} {P : Program} {w : World} {base : Nat} {sp : Nat → Bool} {held : Bool} {fuel : Nat} {t : TypeId} {ms : Array (String × TypeId)} {cs : List Value} {nm : String} {d : DataW H} {p : List MemPlace}
    (ht : P.underlying t = some (.interface ms)) (h : DataW.trod enc P w base sp held fuel t cs = some (.iface nm d, p)) : ∃ u v, cs = [.iface u v] := by
  cases fuel with
  | zero => simp [DataW.trod] at h
  | succ fuel =>
    unfold DataW.trod at h
    rw [ht] at h
    split at h <;> first | (rename_i h1 _; cases h1; done) | skip
    all_goals first | exact ⟨_, _, rfl⟩ | skip
    all_goals first | (cases h; done) | skip
    all_goals simp_all
theorem gn0 : Tryz.prog.globalNamed "errors.errorType" = some 0 := by kernel_rfl
theorem gn2 : Tryz.prog.globalNamed "internal/strconv.uint64pow10" = some 2 := by kernel_rfl
theorem gn5 : Tryz.prog.globalNamed "strconv.ErrSyntax" = some 5 := by kernel_rfl
theorem gn6 : Tryz.prog.globalNamed "strconv.ErrRange" = some 6 := by kernel_rfl
theorem gn7 : Tryz.prog.globalNamed "strings.asciiSpace" = some 7 := by kernel_rfl
theorem gt2 : (Tryz.prog.globals[2]?).map (·.type) = some 393 := by kernel_rfl
theorem gt5 : (Tryz.prog.globals[5]?).map (·.type) = some 59 := by kernel_rfl
theorem gt6 : (Tryz.prog.globals[6]?).map (·.type) = some 59 := by kernel_rfl
theorem gt7 : (Tryz.prog.globals[7]?).map (·.type) = some 406 := by kernel_rfl
theorem rtT : (Tryz.prog.cutTypes.find? (·.1 == "internal/reflectlite.rtype")).map (·.2) = some 158 := by kernel_rfl
theorem nTypes : Tryz.prog.types.size = 568 := by kernel_rfl
theorem oneErr : ((List.range 568).filter fun t => Tryz.prog.rowNamed t [101, 114, 114, 111, 114]) = [59] := by kernel_rfl
theorem pow_eq : (Rows.laid_internal_strconv_uint64pow10 : DataW Unit) = Lib.tabData .u64 Lib.pow10Tab := by kernel_rfl
theorem spc_eq : (Rows.laid_strings_asciiSpace : DataW Unit) = Lib.tabData .u8 Lib.asciiSpaceTab := by kernel_rfl
theorem glob_of {W : World} (h : laidMetH Tryz.prog lL W) (hs : W.ShapedOpen Tryz.prog) : Glob (fun _ => none) W := by
  have h' : laidMet Tryz.prog [("unicode/utf8.first", Rows.laid_unicode_utf8_first), ("unicode/utf8.acceptRanges", Rows.laid_unicode_utf8_acceptRanges), ("strconv.ErrSyntax", Rows.laid_strconv_ErrSyntax), ("strconv.ErrRange", Rows.laid_strconv_ErrRange), ("internal/strconv.uint64pow10", Rows.laid_internal_strconv_uint64pow10), ("math/bits.deBruijn32tab", Rows.laid_math_bits_deBruijn32tab), ("math/bits.deBruijn64tab", Rows.laid_math_bits_deBruijn64tab), ("strings.asciiSpace", Rows.laid_strings_asciiSpace), ("unicode.White_Space", Rows.laid_unicode_White_Space)] W ∧ handlesMet Tryz.prog [("errors.errorType", Rows.laid_errors_errorType)] W := h
  obtain ⟨⟨ps, ⟨_, _, _, _, _, _, _, _, _, _, ⟨_, _, _, _, _, _, _, _, _, _, ⟨g5, t5, c5, f5, p5, q5, n5, y5, v5, d5, ⟨g6, t6, c6, f6, p6, q6, n6, y6, v6, d6, ⟨g2, t2, c2, f2, p2, q2, n2, y2, v2, d2, ⟨_, _, _, _, _, _, _, _, _, _, ⟨_, _, _, _, _, _, _, _, _, _, ⟨g7, t7, c7, f7, p7, q7, n7, y7, v7, d7, _⟩, _⟩, _⟩, _⟩, _⟩, _⟩, _⟩, _⟩, _⟩, hE⟩ := h'
  obtain rfl := Option.some.inj (gn5.symm.trans n5)
  obtain rfl := Option.some.inj (gt5.symm.trans y5)
  obtain rfl := Option.some.inj (gn6.symm.trans n6)
  obtain rfl := Option.some.inj (gt6.symm.trans y6)
  obtain rfl := Option.some.inj (gn2.symm.trans n2)
  obtain rfl := Option.some.inj (gt2.symm.trans y2)
  obtain rfl := Option.some.inj (gn7.symm.trans n7)
  obtain rfl := Option.some.inj (gt7.symm.trans y7)
  obtain ⟨name, u, ty, e1, e2, e3, e4, e5⟩ := hE _ (List.mem_singleton.2 rfl)
  have en : name = [101, 114, 114, 111, 114] := (Option.some.inj e1).symm
  subst en
  obtain rfl := Option.some.inj (rtT.symm.trans e2)
  have hm : ty ∈ (List.range 568).filter fun t => Tryz.prog.rowNamed t [101, 114, 114, 111, 114] := List.mem_filter.2 ⟨List.mem_range.2 (by rw [← nTypes]; exact e3), e4⟩
  rw [oneErr] at hm
  obtain rfl := List.mem_singleton.1 hm
  have hh : typeHandle Tryz.prog 59 = .pointer (some ⟨12, 59, none⟩) := by kernel_rfl
  rw [hh] at e5
  rw [pow_eq] at d2
  rw [spc_eq] at d7
  have k2 := Lib.cells_of_tab Tryz.underlying393 Tryz.underlying308 (by kernel_rfl) (by kernel_rfl) d2
  have k7 := Lib.cells_of_tab Tryz.underlying406 Tryz.underlying5 (by kernel_rfl) (by kernel_rfl) d7
  obtain ⟨a5, b5, k5⟩ := trod_iface Tryz.underlying59 d5
  obtain ⟨a6, b6, k6⟩ := trod_iface Tryz.underlying59 d6
  have k2 : c2 = (Lib.pow10Tab.map fun z => Value.int .u64 z).toArray := by rw [← k2]
  have k7 : c7 = (Lib.asciiSpaceTab.map fun z => Value.int .u8 z).toArray := by rw [← k7]
  have k5 : c5 = #[.iface a5 b5] := by apply Array.ext'; simpa using k5
  have k6 : c6 = #[.iface a6 b6] := by apply Array.ext'; simpa using k6
  obtain ⟨ml, hml⟩ := cell_of_shapedOpen_int (P := Tryz.prog) (g := 1) (t := 3) (zero := #[.int .i64 0]) hs (of_decide_eq_true (by kernel_rfl)) (by kernel_rfl) rfl (by kernel_rfl) (by kernel_rfl) Tryz.underlying3
  obtain ⟨cs1, hc1, hz1, _⟩ := hs.1 1 #[.int .i64 0] 3 (of_decide_eq_true (by kernel_rfl)) (by kernel_rfl)
  have k1 : cs1 = #[.int .i64 ml] := by
    rcases cs1 with ⟨cl⟩
    simp at hz1
    match cl, hz1 with
    | [x], _ =>
      simp [World.cell?, hc1] at hml
      rw [hml]
  intro g p hg
  refine ⟨?_, fun id loc h => by cases h⟩
  change theGl g = some p at hg
  unfold theGl at hg
  split at hg
  · rename_i e; subst e; cases hg
    obtain ⟨T, f, hw⟩ := var_heap gn2 v2
    exact ⟨_, T, f, hw, k2⟩
  · split at hg
    · rename_i e
      cases hg
      rcases e with rfl | rfl
      · obtain ⟨T, f, hw⟩ := var_heap gn5 v5
        exact ⟨_, T, f, hw, _, _, k5⟩
      · obtain ⟨T, f, hw⟩ := var_heap gn6 v6
        exact ⟨_, T, f, hw, _, _, k6⟩
    · split at hg
      · rename_i e; subst e; cases hg
        obtain ⟨T, f, hw⟩ := var_heap gn7 v7
        exact ⟨_, T, f, hw, k7⟩
      · split at hg
        · rename_i e; subst e; cases hg
          obtain ⟨T, f, hw⟩ := var_heap gn0 e5
          exact ⟨_, T, f, hw, rfl⟩
        · split at hg
          · rename_i e; subst e; cases hg
            exact ⟨_, _, _, hc1, ml, k1⟩
          · cases hg
end Go.Proofs.Z
end
section
namespace Go.Proofs.Z
open Go
def encP : MemPlace → Option Nat
  | .cell b off => if Nat.blt off 4096 then some (b * 4096 + off) else none
  | _ => none
def nodB : Nat → List MemPlace → Bool
  | _, [] => true
  | mask, p :: r => match encP p with
    | none => false
    | some k => Nat.beq (Nat.land (Nat.shiftRight mask k) 1) 0 && nodB (Nat.lor mask (Nat.shiftLeft 1 k)) r
theorem encP_inj {p q : MemPlace} {k : Nat} (h1 : encP p = some k) (h2 : encP q = some k) : p = q := by
  cases p with
  | cell b off =>
    cases q with
    | cell b' off' =>
      simp only [encP] at h1 h2
      split at h1
      · split at h2
        · rename_i u v
          rw [Nat.blt_eq] at u v
          cases h1
          simp only [Option.some.injEq] at h2
          have : b' = b ∧ off' = off := by omega
          obtain ⟨rfl, rfl⟩ := this
          rfl
        · cases h2
      · cases h1
    | _ => simp [encP] at h2
  | _ => simp [encP] at h1
theorem bit_iff (mask k : Nat) : Nat.beq (Nat.land (Nat.shiftRight mask k) 1) 0 = true ↔ mask.testBit k = false := by
  have e : Nat.beq (Nat.land (Nat.shiftRight mask k) 1) 0 = true ↔ (mask >>> k) &&& 1 = 0 := ⟨Nat.eq_of_beq_eq_true, fun h => by show Nat.beq ((mask >>> k) &&& 1) 0 = true; rw [h]; rfl⟩
  rw [e]
  rw [Nat.and_one_is_mod, Nat.shiftRight_eq_div_pow, Nat.testBit_eq_decide_div_mod_eq]
  simp
theorem nodB_sound : ∀ (l : List MemPlace) (mask : Nat), nodB mask l = true → l.Nodup ∧ ∀ p ∈ l, ∀ k, encP p = some k → mask.testBit k = false
  | [], _, _ => ⟨List.nodup_nil, fun p h => by cases h⟩
  | p :: r, mask, h => by
    simp only [nodB] at h
    split at h
    · cases h
    · rename_i k hk
      simp only [Bool.and_eq_true] at h
      obtain ⟨h1, h2⟩ := h
      rw [bit_iff] at h1
      obtain ⟨i1, i2⟩ := nodB_sound r _ h2
      have hor : ∀ j, (Nat.lor mask (Nat.shiftLeft 1 k)).testBit j = (mask.testBit j || decide (k = j)) := fun j => by
        show (mask ||| (1 <<< k)).testBit j = _
        rw [Nat.testBit_or, Nat.one_shiftLeft, Nat.testBit_two_pow]
      refine ⟨List.nodup_cons.2 ⟨fun hp => ?_, i1⟩, fun q hq j hj => ?_⟩
      · have := i2 p hp k hk
        rw [hor] at this
        simp at this
      · rcases List.mem_cons.1 hq with rfl | hq
        · rw [hk] at hj; cases hj; exact h1
        · have := i2 q hq j hj
          rw [hor] at this
          simp only [Bool.or_eq_false_iff] at this
          exact this.1
theorem nodup_of {l : List MemPlace} (h : nodB 0 l = true) : decide l.Nodup = true := decide_eq_true (nodB_sound l 0 h).1
theorem rowsB_cons {P : Program} {w : World} {f : Nat} {n : String} {ns : List String} (h1 : (DataW.laidRun P w f [n]).map (fun x => laidRowsB P w x.2) = some true) (h2 : (DataW.laidRun P w f ns).map (fun x => laidRowsB P w x.2) = some true) :
    (DataW.laidRun P w f (n :: ns)).map (fun x => laidRowsB P w x.2) = some true := by
  unfold DataW.laidRun at h1 ⊢
  cases hg : P.globalNamed n with
  | none => rw [hg] at h1; cases h1
  | some g =>
    rw [hg] at h1
    dsimp only at h1 ⊢
    split at h1
    · rename_i t cs ht hv
      cases htr : DataW.trod (fun _ => ()) P w 0 (fun _ => true) false f t cs.toList with
      | none => rw [htr] at h1; simp [DataW.laidRun] at h1
      | some x =>
        rw [htr] at h1
        cases hl : DataW.laidRun P w f ns with
        | none => rw [hl] at h2; cases h2
        | some y =>
          rw [hl] at h2
          simp only [DataW.laidRun, Option.map_some, Option.some.injEq, laidRowsB, List.append_nil, List.all_append, Bool.and_eq_true] at h1 h2 ⊢
          exact ⟨h1, h2⟩
    · cases h1
end Go.Proofs.Z
end
