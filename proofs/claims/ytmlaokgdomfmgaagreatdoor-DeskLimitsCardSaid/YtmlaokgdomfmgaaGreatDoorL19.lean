/- A part of the proof. -/
import Derived.Test.YtmlaokgdomfmgaaGreatDoorL18
import Derived.Test.YtmlaokgdomfmgaaGreatDoorL13
import Derived.Shelf.SlIterI.Nil
import Derived.Shelf.SortM.Plain
import Derived.Shelf.SortM.SortNone
import Derived.Ground.GgzProg
import Derived.Ground.SlgmProg
import Derived.Test.YtmlaokgdomfmgaaGreatDoorProg
import Derived.Lib.SlKeysI
import Derived.Test.YtmlaokgdomfmgaaGreatDoorL10
set_option linter.all false
section
namespace Go.Proofs.Z
open Go Go.RowKit Go.Proofs
def refOf : AV → Option (Int × List UInt8)
  | .ifc 63 (.ag [.p (.i .i64 n), .p (.s l)]) => some (n, l)
  | .p (.ifc 63 (.ag [.i .i64 n, .s l])) => some (n, l)
  | _ => none
def asO : Orc := fun args G => match args with
  | [e, .ifc 65 (.ptr id off)] => match e with
    | .p .inil => some (.ret (.p (.b false)), G)
    | e => match refOf e, G[id]? with
      | some (n, l), some (.box ty cs) => if off + 2 ≤ cs.length then some (.ret (.p (.b true)), G.set id (.box ty (splice cs off [.p (.i .i64 n), .p (.s l)]))) else none
      | _, _ => none
  | _ => none
theorem refOf_R {m : Mem} {μ : Mu} {i : Inf} {v : Value} {e : AV} {n : Int} {l : List UInt8} (h : R m μ i v e) (hr : refOf e = some (n, l)) : v = .iface 63 (.agg #[.int .i64 n, .string ⟨l.toArray⟩]) := by
  unfold refOf at hr
  split at hr
  · cases hr
    cases h with | ifc _ z _ hz =>
    obtain ⟨ca, rfl, h1, h2⟩ := hz.ag_inv
    have hl := RL.ofArr h1 h2
    obtain ⟨a, b, hab, ha, hb⟩ := hl.two
    have : ca = #[a, b] := by apply Array.ext'; simpa using hab
    subst this
    rw [ha.intv, hb.strv]
  · cases hr
    cases h with | p _ _ hp =>
    cases hp with | ifc _ z _ hz =>
    cases hz with | ag cs _ hs hr =>
    have h0 := hr 0
    have h1 := hr 1
    obtain ⟨a, b, rfl⟩ : ∃ a b, cs = #[a, b] := by
      rcases cs with ⟨cl⟩
      simp at hs
      match cl, hs with
      | [a, b], _ => exact ⟨a, b, rfl⟩
    have e0 := h0 a _ rfl rfl
    have e1 := h1 b _ rfl rfl
    cases e0; cases e1; rfl
  · cases hr
theorem set2_heap {w : World} {b o : Nat} {x y : Value} {cs : Array Value} {T : TypeId} (hb : w.heap[b]? = some (.cells cs T (0, 0))) :
    ((w.setCell ⟨b, o, none⟩ x).setCell ⟨b, o + 1, none⟩ y).heap[b]? = some (.cells ((cs.setIfInBounds o x).setIfInBounds (o + 1) y) T (0, 0)) := by
  have hlt : b < w.heap.size := (Array.getElem?_eq_some_iff.1 hb).1
  simp [World.setCell, Array.getElem?_modify, hb]
theorem set2_other {w : World} {b o : Nat} {x y : Value} (q : Nat) (hq : q ≠ b) :
    ((w.setCell ⟨b, o, none⟩ x).setCell ⟨b, o + 1, none⟩ y).heap[q]? = w.heap[q]? := by
  have hq' : ¬ b = q := fun e => hq e.symm
  simp [World.setCell, Array.getElem?_modify, hq']
theorem below4 (w : World) (a b c d : Obj) : Below w.heap.size w ((((w.alloc a).alloc b).alloc c).alloc d) := by
  refine ⟨rfl, rfl, rfl, by simp; omega, fun k hk => ?_⟩
  simp only [World.alloc]
  rw [Array.getElem?_push_lt (by simp; omega), Array.getElem_push_lt (by simp; omega), Array.getElem_push_lt (by simp; omega), Array.getElem_push_lt hk]
  exact (Array.getElem?_eq_getElem hk).symm
theorem splice2 {cs : List AV} {off : Nat} {a0 a1 : AV} (h : off + 2 ≤ cs.length) (j : Nat) : (splice cs off [a0, a1])[j]? = if j = off then some a0 else if j = off + 1 then some a1 else cs[j]? := by
  have hl : (cs.take off).length = off := by simp; omega
  unfold splice
  rw [List.append_assoc, List.getElem?_append, hl]
  by_cases h1 : j < off
  · rw [if_pos h1, if_neg (by omega), if_neg (by omega), List.getElem?_take, if_pos h1]
  · rw [if_neg h1]
    by_cases h2 : j = off
    · subst h2; simp
    · by_cases h3 : j = off + 1
      · subst h3; simp
      · rw [if_neg h2, if_neg h3]
        obtain ⟨k, rfl⟩ : ∃ k, j = off + 2 + k := ⟨j - (off + 2), by omega⟩
        rw [show off + 2 + k - off = k + 2 by omega]
        simp [Nat.add_comm, Nat.add_left_comm]
theorem asO_ok : OrcOK 20 asO := by
  refine ⟨entered_of (by kernel_rfl), fun args G out G' h m μ w vargs hI ht hr => ?_⟩
  unfold asO at h
  split at h
  · rename_i e id off
    obtain ⟨v, u, rfl, hv, hu⟩ := hr.two
    cases hu with | ifc _ u _ hu =>
    split at h
    · cases h
      have : v = .nilIface := by cases hv with | p _ _ hp => cases hp; rfl
      subst this
      exact pure_orc hI (.p _ _ (.b _)) ((as_nil _ w).mono fun e w' hp => ⟨hp.1, hp.2 ▸ RowKit.Below.refl _ _⟩)
    · split at h
      · rename_i n l ty cs hre hG
        split at h
        · rename_i hle
          cases h
          have hv := refOf_R hv hre
          subst hv
          cases hu with | ptr _ _ loc h1 h2 =>
          obtain ⟨cv, T, k1, k2, k3, k4, k5⟩ := hI.obj id _ hG loc h1
          obtain ⟨⟨gc, gT, gf, g1, g2⟩, _⟩ := hI.glob 0 _ (show theGl 0 = some fun cs => cs = #[.iface 158 (.agg #[.pointer (some ⟨12, 59, none⟩)])] from rfl)
          subst g2
          have hc := as_hit loc.blk off (.int .i64 n) (.string ⟨l.toArray⟩) T cv w (by simp [World.cell?, g1]) k1 (by omega) rfl rfl
          refine CallsIn.mono ((callsIn_wide (n := 0)).2 hc) fun e w' hp => ?_
          obtain ⟨rfl, rfl⟩ := hp
          have hB := below4 w (.cells #[.pointer (some ⟨loc.blk, off, none⟩)] 65) (asBox w) (asBox w) (.cells #[.int .i64 n, .string ⟨l.toArray⟩] 63)
          obtain ⟨i1, i2⟩ := below_step hI hB
          have k1' := (hB.block loc.blk (hI.lt h1)).trans k1
          generalize ((((w.alloc (.cells #[.pointer (some ⟨loc.blk, off, none⟩)] 65)).alloc (asBox w)).alloc (asBox w)).alloc (.cells #[.int .i64 n, .string ⟨l.toArray⟩] 63)) = w4 at *
          have hs := set2_heap (o := off) (x := .int .i64 n) (y := .string ⟨l.toArray⟩) k1'
          obtain ⟨j1, j2⟩ := set_step (new := .box ty (splice cs off [.p (.i .i64 n), .p (.s l)])) i1 hG h1 (w' := (w4.setCell ⟨loc.blk, off, none⟩ (.int .i64 n)).setCell ⟨loc.blk, off + 1, none⟩ (.string ⟨l.toArray⟩)) (cs := #[]) (T := 0) rfl rfl rfl (by simp [World.setCell]) (fun q hq => set2_other q hq) (fun o v hm => by rw [k5.1 o] at hm; cases hm) (fun _ => rfl) (fun g sz h => by cases h)
            (fun ee => by
              refine ⟨_, T, hs, ?_, fun j v a p1 p2 => ?_, ?_, k5⟩
              · simp [splice, k2]; omega
              · rw [splice2 hle] at p2
                rw [Array.getElem?_setIfInBounds, Array.getElem?_setIfInBounds] at p1
                by_cases e1 : j = off
                · subst e1
                  rw [if_pos rfl] at p2
                  rw [if_neg (by omega), if_pos rfl, if_pos (by omega)] at p1
                  cases p1; cases p2
                  exact .p _ _ (.i _ _)
                · by_cases e2 : j = off + 1
                  · subst e2
                    rw [if_neg (by omega), if_pos rfl] at p2
                    rw [if_pos rfl, if_pos (by simp; omega)] at p1
                    cases p1; cases p2
                    exact .p _ _ (.s _)
                  · rw [if_neg e1, if_neg e2] at p2
                    rw [if_neg (fun h => e2 h.symm), if_neg (fun h => e1 h.symm)] at p1
                    exact ((k3 j v a p1 p2).mono i2.ext).mono ee
              · rw [List.all_eq_true] at k4 ⊢
                intro q hq
                unfold splice at hq
                simp only [List.mem_append] at hq
                rcases hq with (hq | hq) | hq
                · exact k4 q (List.mem_of_mem_take hq)
                · simp at hq; rcases hq with rfl | rfl <;> rfl
                · exact k4 q (List.mem_of_mem_drop hq))
          exact ⟨m, μ, j1, i2.trans j2, .p _ _ (.b _)⟩
        · cases h
      · cases h
  · cases h
end Go.Proofs.Z
end
section
namespace Go.Proofs.Z
open Go Go.RowKit Go.Proofs
def copyO : Orc := fun args G => match args with
  | [.ptr id 0] => match G[id]? with
    | some (.box 223 [a, b]) => match a with
      | .p .pn => some (.ret (.tup []), G.set id (.box 223 [.ptr id 0, b]))
      | .ptr i 0 => if i = id then some (.ret (.tup []), G) else none
      | _ => none
    | _ => none
  | _ => none
def bytesX : List (List PV) → Option (List UInt8)
  | [] => some []
  | [.i .u8 (.ofNat n)] :: r => if Nat.blt n 256 = true then match bytesX r with
    | some l => some (UInt8.ofNat n :: l)
    | none => none
    else none
  | _ => none
def stringO : Orc := fun args G => match args with
  | [.ptr id 0] => match G[id]? with
    | some (.box 223 [a, b]) => match b with
      | .nils => some (.ret (.p (.s [])), G)
      | .arr k len gen => match G[k]? with
        | some (.arr 5 1 rows g sl) => if g = gen ∧ len ≤ rows.length ∧ roomy len 1 = true then match bytesX (rows.take len) with
            | some (x :: l) => some (.ret (.p (.s (x :: l))), G.set k (.dead g 1))
            | _ => none
          else none
        | _ => none
      | _ => none
    | _ => none
  | _ => none
theorem R_tup0 {m : Mem} {μ : Mu} {i : Inf} : R m μ i (.tuple #[]) (.tup []) := .tup _ _ rfl (fun j v c h => by simp at h)
theorem copyO_ok : OrcOK 211 copyO := by
  refine ⟨entered_of (by kernel_rfl), fun args G out G' h m μ w vargs hI ht hr => ?_⟩
  unfold copyO at h
  split at h
  · rename_i id
    obtain ⟨v, vs, rfl, hv, hvs⟩ := hr.inv_cons
    rw [hvs.inv_nil]
    cases hv with | ptr _ _ loc h1 h2 =>
    split at h
    · rename_i a b hG
      obtain ⟨cv, T, k1, k2, k3, k4, k5, rfl⟩ := hI.obj id _ hG loc h1
      obtain ⟨va, vb, rfl⟩ : ∃ va vb, cv = #[va, vb] := by
        rcases cv with ⟨cl⟩
        simp at k2
        match cl, k2 with
        | [x, y], _ => exact ⟨x, y, rfl⟩
      have ha := k3 0 va a rfl rfl
      have hb := k3 1 vb b rfl rfl
      split at h
      · cases h
        have : va = .pointer none := by cases ha with | p _ _ hp => cases hp; rfl
        subst this
        have hc := copy_fresh loc.blk 223 rfl w (by simp [World.cell?, k1]) (by simp [World.shape?, k1]) (by simp [World.frozen?, k1])
        refine CallsIn.mono ((callsIn_wide (n := 0)).2 hc) fun e w' hp => ?_
        obtain ⟨rfl, rfl⟩ := hp
        have hlt : loc.blk < w.heap.size := hI.lt h1
        have hs : (w.setCell ⟨loc.blk, 0, none⟩ (.pointer (some ⟨loc.blk, 0, none⟩))).heap[loc.blk]? = some (.cells #[.pointer (some ⟨loc.blk, 0, none⟩), vb] 223 (0, 0)) := by
          simp [World.setCell, Array.getElem?_modify, k1]
        obtain ⟨j1, j2⟩ := set_step (new := .box 223 [.ptr id 0, b]) hI hG h1 (w' := w.setCell ⟨loc.blk, 0, none⟩ (.pointer (some ⟨loc.blk, 0, none⟩))) (cs := #[]) (T := 0) rfl rfl rfl (by simp [World.setCell])
          (fun q hq => by
            have hq' : ¬ loc.blk = q := fun e => hq e.symm
            simp [World.setCell, Array.getElem?_modify, hq'])
          (fun o v hm => by rw [k5 o] at hm; cases hm) (fun _ => rfl) (fun g sz h => by cases h)
          (fun ee => by
            refine ⟨_, 223, hs, rfl, fun j v a p1 p2 => ?_, ?_, k5, rfl⟩
            · match j with
              | 0 => simp at p1 p2; subst p1 p2; exact (R.ptr id 0 loc h1 h2).mono ee
              | 1 => simp at p1 p2; subst p1 p2; exact hb.mono ee
              | j + 2 => simp at p2
            · simp only [List.all_cons, List.all_nil, Bool.and_true, Bool.and_eq_true] at k4 ⊢
              exact ⟨rfl, k4.2⟩)
        exact ⟨m, μ, j1, j2, R_tup0⟩
      · split at h
        · rename_i i hid
          cases h
          subst hid
          cases ha with | ptr _ _ loc' g1 g2 =>
          rw [h1] at g1
          cases g1
          have hc := copy_used loc.blk w (by simp [World.cell?, k1])
          refine CallsIn.mono ((callsIn_wide (n := 0)).2 hc) fun e w' hp => ?_
          obtain ⟨rfl, rfl⟩ := hp
          exact ⟨m, μ, hI, .refl _ _ _ _, R_tup0⟩
        · cases h
      · cases h
    · cases h
  · cases h
theorem bytesX_eq : ∀ {rows : List (List PV)} {l : List UInt8}, bytesX rows = some l → rows.length = l.length ∧ ∀ (j : Nat) x, l[j]? = some x → rows[j]? = some [.i .u8 (x.toNat : Int)]
  | [], l, h => by simp [bytesX] at h; subst h; simp
  | row :: r, l, h => by
    unfold bytesX at h
    split at h
    · rename_i h'; cases h'
    · rename_i n r' h'
      cases h'
      split at h
      · rename_i hn
        split at h
        · rename_i l' hl
          cases h
          obtain ⟨a, b⟩ := bytesX_eq hl
          refine ⟨by simp [a], fun j x hx => ?_⟩
          cases j with
          | zero =>
            simp at hx; subst hx
            have hn : n < 256 := by simpa [Nat.blt_eq] using hn
            simp
            omega
          | succ j => simp at hx; simpa using b j x hx
        · cases h
      · cases h
    · cases h
theorem freeze_at (w : World) (g n : Nat) (hn : n ≠ 0) {cs : Array Value} {T : TypeId} (h : w.heap[g]? = some (.cells cs T (0, 0))) : (w.freeze ⟨g, 0, none⟩ n).heap[g]? = some (.cells cs T (0, n)) := by
  unfold World.freeze
  rw [if_neg hn]
  simp [Array.getElem?_modify, h]
theorem freeze_other (w : World) (g n : Nat) (hn : n ≠ 0) (q : Nat) (hq : q ≠ g) : (w.freeze ⟨g, 0, none⟩ n).heap[q]? = w.heap[q]? := by
  unfold World.freeze
  rw [if_neg hn]
  have hq' : ¬ g = q := fun e => hq e.symm
  simp [Array.getElem?_modify, hq']
theorem freeze_rest (w : World) (g n : Nat) (hn : n ≠ 0) : (w.freeze ⟨g, 0, none⟩ n).os = w.os ∧ (w.freeze ⟨g, 0, none⟩ n).tape = w.tape ∧ (w.freeze ⟨g, 0, none⟩ n).output = w.output ∧ (w.freeze ⟨g, 0, none⟩ n).heap.size = w.heap.size := by
  unfold World.freeze
  rw [if_neg hn]
  simp
theorem stringO_ok : OrcOK 127 stringO := by
  refine ⟨entered_of (by kernel_rfl), fun args G out G' h m μ w vargs hI ht hr => ?_⟩
  unfold stringO at h
  split at h
  · rename_i id
    obtain ⟨v, vs, rfl, hv, hvs⟩ := hr.inv_cons
    rw [hvs.inv_nil]
    cases hv with | ptr _ _ loc h1 h2 =>
    split at h
    · rename_i a b hG
      obtain ⟨cv, T, k1, k2, k3, k4, k5, rfl⟩ := hI.obj id _ hG loc h1
      obtain ⟨va, vb, rfl⟩ : ∃ va vb, cv = #[va, vb] := by
        rcases cv with ⟨cl⟩
        simp at k2
        match cl, k2 with
        | [x, y], _ => exact ⟨x, y, rfl⟩
      have ha := k3 0 va a rfl rfl
      have hb := k3 1 vb b rfl rfl
      split at h
      · cases h
        cases hb
        refine CallsIn.mono ((callsIn_wide (n := 0)).2 (string_nil loc.blk 223 va w k1)) fun e w' hp => ?_
        obtain ⟨rfl, rfl⟩ := hp
        obtain ⟨j1, j2⟩ := below_step hI (w' := w.drew) (Below.drew (RowKit.Below.refl _ w))
        exact ⟨m, μ, j1, j2, .p _ _ (.s [])⟩
      · rename_i k len gen
        split at h
        · rename_i rows g sl hGk
          split at h
          · rename_i hc
            obtain ⟨hgen, hle, hroom⟩ := hc
            subst hgen
            split at h
            · rename_i x l hx
              cases h
              obtain ⟨hlen, hrow⟩ := bytesX_eq hx
              have hl : (x :: l).length = len := by rw [← hlen]; simp; omega
              have hnil : x :: l ≠ [] := by simp
              generalize x :: l = l at hx hlen hrow hl hnil ⊢
              cases hb with | arr _ _ _ ad n c loc' g' sz' q1 q2 q3 q4 =>
              have hinf : inf G k = some (some (g, 1)) := by simp [inf, hGk, infO]
              rw [hinf] at q2
              cases q2
              obtain ⟨rfl, rfl, rfl⟩ := q4 rfl
              obtain ⟨cs, T, o1, o2, o3, o4, o5, o6, o7, rfl⟩ := hI.obj k _ hGk loc' q1
              simp only [roomy, Bool.and_eq_true, decide_eq_true_eq] at hroom
              have hc := string_hit loc.blk loc'.blk loc'.cap 223 va cs l w (by rw [hl]; exact k1) o1 hnil (by omega) (by rw [o2]; omega) (by omega) (fun j x hj => by
                have h1 := hrow j x hj
                have hjl : j < l.length := (List.getElem?_eq_some_iff.1 hj).1
                rw [List.getElem?_take, if_pos (by omega)] at h1
                obtain ⟨v, p1, p2⟩ := o6 j 0 _ _ h1 rfl
                cases p2
                simpa using p1)
              refine CallsIn.mono ((callsIn_wide (n := 0)).2 hc) fun e w' hp => ?_
              obtain ⟨rfl, rfl⟩ := hp
              obtain ⟨j1, j2⟩ := below_step hI (w' := w.drew) (Below.drew (RowKit.Below.refl _ w))
              have o1' : w.drew.heap[loc'.blk]? = some (.cells cs 5 (0, 0)) := o1
              generalize w.drew = w1 at *
              have hn0 : l.length ≠ 0 := by simpa using hnil
              have hs := freeze_at w1 loc'.blk l.length hn0 o1'
              have hso := freeze_other w1 loc'.blk l.length hn0
              obtain ⟨i1, i2⟩ := set_step (new := .dead g 1) j1 hGk q1 (w' := w1.freeze ⟨loc'.blk, 0, none⟩ l.length) (cs := #[]) (T := 0) (freeze_rest w1 _ _ hn0).1 (freeze_rest w1 _ _ hn0).2.1 (freeze_rest w1 _ _ hn0).2.2.1 (freeze_rest w1 _ _ hn0).2.2.2 hso
                (fun o v hm => by
                  have := j1.known _ _ _ hm
                  simp only [World.cell?, hs]
                  simp only [World.cell?, o1'] at this
                  exact this) (fun h => by cases h) (fun g sz h => by cases h; exact ⟨_, rfl, Nat.le_refl _⟩)
                (fun ee => ⟨_, hs⟩)
              exact ⟨m, μ, i1, j2.trans i2, .p _ _ (.s l)⟩
            · cases h
          · cases h
        · cases h
      · cases h
    · cases h
  · cases h
end Go.Proofs.Z
end
section
namespace Go.Proofs
open Go.Shelf
def Tryz.keysK_ren : Go.Shelf.Ren := ⟨fun | 7 => 424 | 10 => 461 | n => n, fun | 23 => 426 | 26 => 3 | 3 => 126 | 28 => 485 | 0 => 0 | 27 => 484 | 33 => 317 | 4 => 4 | n => n, fun | n => n⟩
theorem Tryz.keysK : Go.Proofs.SlLaysZI.n7 Tryz.prog Tryz.keysK_ren := {
  mixed := by kernel_rfl
  f7 := ⟨Tryz.f424.name, by decide, Tryz.func424.trans (congrArg some (by kernel_rfl))⟩
  f10 := ⟨Tryz.f461.name, by decide, Tryz.func461.trans (congrArg some (by kernel_rfl))⟩
  t0 := Tryz.underlying0
  a0 := Tryz.isAgg0
  z0 := Tryz.sizeOf0
  v0 := Tryz.zeroValue0
  t4 := Tryz.underlying4
  a4 := Tryz.isAgg4
  z4 := Tryz.sizeOf4
  v4 := Tryz.zeroValue4
  t23 := Tryz.underlying426
  a23 := Tryz.isAgg426
  z23 := Tryz.sizeOf426
  v23 := Tryz.zeroValue426
  t26 := Tryz.underlying3
  a26 := Tryz.isAgg3
  z26 := Tryz.sizeOf3
  v26 := Tryz.zeroValue3
  t27 := Tryz.underlying484
  a27 := Tryz.isAgg484
  z27 := Tryz.sizeOf484
  v27 := Tryz.zeroValue484
  t28 := Tryz.underlying485
  a28 := Tryz.isAgg485
  z28 := Tryz.sizeOf485
  v28 := Tryz.zeroValue485
  t33 := Tryz.underlying317
  a33 := Tryz.isAgg317
  z33 := Tryz.sizeOf317
  v33 := Tryz.zeroValue317 }
def Tryz.sortedK_ren : Go.Shelf.Ren := ⟨fun | 6 => 423 | 8 => 459 | 9 => 460 | 11 => 487 | 13 => 489 | 12 => 488 | 23 => 506 | 24 => 299 | 14 => 497 | 15 => 498 | 16 => 499 | 17 => 500 | 18 => 501 | 19 => 502 | 20 => 503 | 21 => 504 | 22 => 505 | 25 => 507 | 26 => 508 | 27 => 509 | 28 => 510 | 29 => 511 | 30 => 512 | 31 => 513 | n => n, fun | 26 => 3 | 28 => 485 | 24 => 25 | 0 => 0 | 3 => 3 | 37 => 356 | 48 => 394 | 50 => 308 | 4 => 4 | 40 => 530 | 39 => 529 | 45 => 171 | 5 => 5 | 9 => 9 | 51 => 535 | 55 => 151 | 57 => 540 | 58 => 541 | 33 => 317 | n => n, fun | n => n⟩
theorem Tryz.sortedK : Go.Proofs.SlLaysZI.n6 Tryz.prog Tryz.sortedK_ren := {
  mixed := by kernel_rfl
  f6 := ⟨Tryz.f423.name, by decide, Tryz.func423.trans (congrArg some (by kernel_rfl))⟩
  f8 := ⟨Tryz.f459.name, by decide, Tryz.func459.trans (congrArg some (by kernel_rfl))⟩
  f11 := ⟨Tryz.f487.name, by decide, Tryz.func487.trans (congrArg some (by kernel_rfl))⟩
  t0 := Tryz.underlying0
  a0 := Tryz.isAgg0
  z0 := Tryz.sizeOf0
  v0 := Tryz.zeroValue0
  t24 := Tryz.underlying25
  a24 := Tryz.isAgg25
  z24 := Tryz.sizeOf25
  v24 := Tryz.zeroValue25
  t26 := Tryz.underlying3
  a26 := Tryz.isAgg3
  z26 := Tryz.sizeOf3
  v26 := Tryz.zeroValue3
  t28 := Tryz.underlying485
  a28 := Tryz.isAgg485
  z28 := Tryz.sizeOf485
  v28 := Tryz.zeroValue485
  i26 := by kernel_rfl }
def Tryz.sortK_ren : Go.Shelf.Ren := ⟨fun | 5 => 460 | 8 => 489 | 7 => 488 | 19 => 506 | 20 => 299 | 10 => 497 | 11 => 498 | 12 => 499 | 13 => 500 | 14 => 501 | 15 => 502 | 16 => 503 | 17 => 504 | 18 => 505 | 30 => 507 | 31 => 508 | 32 => 509 | 33 => 510 | 34 => 511 | 35 => 512 | 40 => 513 | n => n, fun | 23 => 25 | 25 => 3 | 3 => 3 | 32 => 356 | 22 => 25 | 0 => 0 | 44 => 394 | 46 => 308 | 4 => 4 | 36 => 530 | 35 => 529 | 41 => 171 | 5 => 5 | 9 => 9 | 53 => 535 | 57 => 151 | 63 => 540 | 64 => 541 | n => n, fun | n => n⟩
theorem Tryz.sortK : Go.Proofs.SlLaysM.n5 Tryz.prog Tryz.sortK_ren := {
  mixed := by kernel_rfl
  f5 := ⟨Tryz.f460.name, by decide, Tryz.func460.trans (congrArg some (by kernel_rfl))⟩
  f7 := ⟨Tryz.f488.name, by decide, Tryz.func488.trans (congrArg some (by kernel_rfl))⟩
  f8 := Tryz.func489.trans (congrArg some (by kernel_rfl))
  f10 := ⟨Tryz.f497.name, by decide, Tryz.func497.trans (congrArg some (by kernel_rfl))⟩
  f11 := ⟨Tryz.f498.name, by decide, Tryz.func498.trans (congrArg some (by kernel_rfl))⟩
  f12 := ⟨Tryz.f499.name, by decide, Tryz.func499.trans (congrArg some (by kernel_rfl))⟩
  f13 := ⟨Tryz.f500.name, by decide, Tryz.func500.trans (congrArg some (by kernel_rfl))⟩
  f14 := ⟨Tryz.f501.name, by decide, Tryz.func501.trans (congrArg some (by kernel_rfl))⟩
  f15 := ⟨Tryz.f502.name, by decide, Tryz.func502.trans (congrArg some (by kernel_rfl))⟩
  f16 := ⟨Tryz.f503.name, by decide, Tryz.func503.trans (congrArg some (by kernel_rfl))⟩
  f17 := ⟨Tryz.f504.name, by decide, Tryz.func504.trans (congrArg some (by kernel_rfl))⟩
  f18 := ⟨Tryz.f505.name, by decide, Tryz.func505.trans (congrArg some (by kernel_rfl))⟩
  f19 := Tryz.func506.trans (congrArg some (by kernel_rfl))
  f20 := Tryz.func299.trans (congrArg some (by kernel_rfl))
  f30 := ⟨Tryz.f507.name, by decide, Tryz.func507.trans (congrArg some (by kernel_rfl))⟩
  f31 := Tryz.func508.trans (congrArg some (by kernel_rfl))
  f32 := Tryz.func509.trans (congrArg some (by kernel_rfl))
  f33 := ⟨Tryz.f510.name, by decide, Tryz.func510.trans (congrArg some (by kernel_rfl))⟩
  f34 := ⟨Tryz.f511.name, by decide, Tryz.func511.trans (congrArg some (by kernel_rfl))⟩
  f35 := ⟨Tryz.f512.name, by decide, Tryz.func512.trans (congrArg some (by kernel_rfl))⟩
  f40 := ⟨Tryz.f513.name, by decide, Tryz.func513.trans (congrArg some (by kernel_rfl))⟩
  t0 := Tryz.underlying0
  a0 := Tryz.isAgg0
  z0 := Tryz.sizeOf0
  v0 := Tryz.zeroValue0
  t3 := Tryz.underlying3
  a3 := Tryz.isAgg3
  z3 := Tryz.sizeOf3
  v3 := Tryz.zeroValue3
  t4 := Tryz.underlying4
  a4 := Tryz.isAgg4
  z4 := Tryz.sizeOf4
  v4 := Tryz.zeroValue4
  t5 := Tryz.underlying5
  a5 := Tryz.isAgg5
  z5 := Tryz.sizeOf5
  v5 := Tryz.zeroValue5
  t9 := Tryz.underlying9
  a9 := Tryz.isAgg9
  z9 := Tryz.sizeOf9
  v9 := Tryz.zeroValue9
  t22 := Tryz.underlying25
  a22 := Tryz.isAgg25
  z22 := Tryz.sizeOf25
  v22 := Tryz.zeroValue25
  t23 := Tryz.underlying25
  a23 := Tryz.isAgg25
  z23 := Tryz.sizeOf25
  v23 := Tryz.zeroValue25
  t25 := Tryz.underlying3
  a25 := Tryz.isAgg3
  z25 := Tryz.sizeOf3
  v25 := Tryz.zeroValue3
  t32 := Tryz.underlying356
  a32 := Tryz.isAgg356
  z32 := Tryz.sizeOf356
  v32 := Tryz.zeroValue356
  t35 := Tryz.underlying529
  a35 := Tryz.isAgg529
  z35 := Tryz.sizeOf529
  v35 := Tryz.zeroValue529
  t36 := Tryz.underlying530
  a36 := Tryz.isAgg530
  z36 := Tryz.sizeOf530
  v36 := Tryz.zeroValue530
  t41 := Tryz.underlying171
  a41 := Tryz.isAgg171
  z41 := Tryz.sizeOf171
  v41 := Tryz.zeroValue171
  t44 := Tryz.underlying394
  a44 := Tryz.isAgg394
  z44 := Tryz.sizeOf394
  v44 := Tryz.zeroValue394
  t46 := Tryz.underlying308
  a46 := Tryz.isAgg308
  z46 := Tryz.sizeOf308
  v46 := Tryz.zeroValue308
  t53 := Tryz.underlying535
  a53 := Tryz.isAgg535
  z53 := Tryz.sizeOf535
  v53 := Tryz.zeroValue535
  t57 := Tryz.underlying151
  a57 := Tryz.isAgg151
  z57 := Tryz.sizeOf151
  v57 := Tryz.zeroValue151
  t63 := Tryz.underlying540
  a63 := Tryz.isAgg540
  z63 := Tryz.sizeOf540
  v63 := Tryz.zeroValue540
  t64 := Tryz.underlying541
  a64 := Tryz.isAgg541
  z64 := Tryz.sizeOf541
  v64 := Tryz.zeroValue541 }
end Go.Proofs
end
section
namespace Go.Proofs.Z
open Go Go.RowKit Go.Proofs Go.Maps Go.Sort Go.Shelf
theorem insert_perm {H : Type} (x : Lit × DataW H) : ∀ l : List (Lit × DataW H), (DataW.insert x l).Perm (x :: l)
  | [] => .refl _
  | y :: r => by
    unfold DataW.insert
    split
    · exact .refl _
    · exact ((insert_perm x r).cons y).trans (.swap x y r)
theorem foldr_insert_perm {H : Type} : ∀ l : List (Lit × DataW H), (l.foldr DataW.insert []).Perm l
  | [] => .refl _
  | x :: r => by
    simp only [List.foldr_cons]
    exact (insert_perm x _).trans ((foldr_insert_perm r).cons x)
def keyInts : List (PV × PV) → Option (List Int)
  | [] => some []
  | (.i .i64 n, _) :: r => if 0 ≤ n ∧ n < 1099511627776 then match keyInts r with
      | some l => some (n :: l)
      | none => none
    else none
  | _ => none
def rising : List Int → Bool
  | a :: b :: r => decide (a < b) && rising (b :: r)
  | _ => true
def keysO : Orc := fun args G => match args with
  | [.fn 461 [] [.ptr id 0]] => match G[id]? with
    | some (.box _ [.nmap]) => some (.ret (.p (.sl [])), G)
    | some (.box _ [.map k]) => match G[k]? with
      | some (.map ents) => match keyInts ents with
        | some l => if rising l = true ∧ l.length < 1099511627776 then some (.ret (.p (.sl (l.map fun n => [.i .i64 n]))), G) else none
        | none => none
      | _ => none
    | _ => none
  | _ => none
theorem keyInts_at : ∀ {ents : List (PV × PV)} {l : List Int}, keyInts ents = some l → ents.map (·.1) = l.map (PV.i .i64) ∧ ∀ n ∈ l, 0 ≤ n ∧ n < 1099511627776
  | [], l, h => by simp [keyInts] at h; subst h; simp
  | e :: r, l, h => by
    unfold keyInts at h
    split at h
    · rename_i h'; cases h'
    · rename_i n v r' h'
      cases h'
      split at h
      · rename_i hn
        split at h
        · rename_i l' hl
          cases h
          obtain ⟨a, b⟩ := keyInts_at hl
          exact ⟨by simp [a], fun m hm => by
            rcases List.mem_cons.1 hm with rfl | hm
            · exact hn
            · exact b m hm⟩
        · cases h
      · cases h
    · cases h
theorem rising_pw : ∀ {l : List Int}, rising l = true → l.Pairwise (· < ·)
  | [], _ => .nil
  | [a], _ => by simp
  | a :: b :: r, h => by
    simp only [rising, Bool.and_eq_true, decide_eq_true_eq] at h
    have ih := rising_pw h.2
    refine List.pairwise_cons.2 ⟨fun x hx => ?_, ih⟩
    rcases List.mem_cons.1 hx with rfl | hx
    · exact h.1
    · have := (List.pairwise_cons.1 ih).1 x hx; omega
theorem sort_rising {l ss : List Int} (h : rising l = true) (hp : ss.Perm l) : ss.mergeSort (fun x y => decide (x ≤ y)) = l := by
  have tr : ∀ a b c : Int, leI a b = true → leI b c = true → leI a c = true := fun a b c h1 h2 => by simp only [leI, decide_eq_true_eq] at *; exact Int.le_trans h1 h2
  have tot : ∀ a b : Int, (leI a b || leI b a) = true := fun a b => by simp only [leI, Bool.or_eq_true, decide_eq_true_eq]; exact Int.le_total a b
  refine List.Perm.eq_of_pairwise (le := fun a b => leI a b = true) (fun a b _ _ h1 h2 => ?_) (List.pairwise_mergeSort tr tot ss) ((rising_pw h).imp fun {a b} hab => by simp [leI]; omega) ((List.mergeSort_perm ss leI).trans hp)
  simp only [leI, decide_eq_true_eq] at h1 h2
  exact Int.le_antisymm h1 h2
theorem rp_ints {m : Mem} {N cap : Nat} {xs : List Int} (hcap : xs.length ≤ cap) (hm : ∀ (o : Nat) x, xs[o]? = some x → m N o = some (encZ x)) :
    RP m (.slice (some ⟨N, 0, none⟩) xs.length cap) (.sl (xs.map fun n => [.i .i64 n])) := by
  have hlen : (xs.map fun n => [PV.i .i64 n]).length = xs.length := by simp
  have hrow : ∀ (i j : Nat) (r : List PV) (c : PV), (xs.map fun n => [PV.i .i64 n])[i]? = some r → r[j]? = some c → ∃ x, xs[i]? = some x ∧ j = 0 ∧ c = .i .i64 x := by
    intro i j r c h1 h2
    simp only [List.getElem?_map, Option.map_eq_some_iff] at h1
    obtain ⟨x, h1, rfl⟩ := h1
    cases j with
    | zero => simp at h2; exact ⟨x, h1, rfl, h2.symm⟩
    | succ j => simp at h2
  have := RP.sl (m := m) (some ⟨N, 0, none⟩) cap (xs.map fun n => [PV.i .i64 n]) 1 (fun i j => encZ ((xs[i]?).getD 0)) (by rw [hlen]; exact hcap) (by simp [okRows, okRow, PV.flat]) (fun _ => ⟨N, 0, rfl, fun i j r c h1 h2 => by
    obtain ⟨x, hx, rfl, rfl⟩ := hrow i j r c h1 h2
    rw [show 0 + i * 1 + 0 = i by omega, hm _ _ hx, hx]
    rfl⟩) (fun i j r c h1 h2 => by
    obtain ⟨x, hx, rfl, rfl⟩ := hrow i j r c h1 h2
    simp [hx]
    exact .i _ _)
  rwa [hlen] at this
theorem sortsK (m : Nat) : AnyZI.SortsIn Tryz.prog Tryz.sortedK_ren Fence.wide m :=
  ⟨fun blk off cap ss W hH hblk hsz => callsIn_wide.2 (AnyM.slices_Sort_int Tryz.sortK blk off cap ss W hH hblk hsz),
   fun p cap W => callsIn_wide.2 (AnyM.slices_Sort_int_none Tryz.sortK p cap W)⟩
theorem sorted_at {S : List Int → Prop} {N : Nat} (w : World) (b : Nat) (hN : N ≤ 1099511627776) (hseq : SeqGives Fence.wide 2 Tryz.prog 461 #[.pointer (some ⟨b, 0, none⟩)] encZ S N w) :
    Calls Tryz.prog 423 #[.func (.func 461) #[] #[.pointer (some ⟨b, 0, none⟩)]] w fun e w' => ∃ (v : Value) (ss : List Int), e = .returned v ∧ S ss ∧
      w'.ownsRow w.heap.size 3 1 v ss.length ((ss.mergeSort (fun x y => decide (x ≤ y))).map encZ) ∧ (v = .slice none 0 0 ↔ ss = []) ∧ RowKit.Below w.heap.size w w' :=
  callsIn_wide.1 (AnyZI.sorted_in Tryz.sortedK Fence.wide 5 trivial trivial trivial trivial rfl (by omega) (sortsK _) (enters_of Tryz.func460 (by kernel_rfl) rfl) 461 _ trivial (enters_of Tryz.func461 (by kernel_rfl) rfl) _ _ (by unfold maxLen; omega) (by omega) _ hseq)
theorem keys_back {m : Mem} {μ : Mu} {G : Heap} {w w' : World} (hI : Inv m μ G w) {v : Value} {ss l : List Int} (hsl : ss.mergeSort (fun x y => decide (x ≤ y)) = l)
    (hrow : w'.ownsRow w.heap.size 3 1 v ss.length ((ss.mergeSort (fun x y => decide (x ≤ y))).map encZ)) (hb : RowKit.Below w.heap.size w w') :
    Back m μ G w G (.ret (.p (.sl (l.map fun n => [.i .i64 n])))) (.returned v) w' := by
  have hlen : l.length = ss.length := by rw [← hsl]; exact List.length_mergeSort ss
  rw [hsl] at hrow
  rcases hrow.2 with ⟨rfl, hz⟩ | ⟨g, cap, cur, rfl, hbase, hg, h1, h2, h3, h4⟩
  · have : l = [] := List.eq_nil_of_length_eq_zero (by omega)
    subst this
    obtain ⟨i1, i2⟩ := below_step hI hb
    exact ⟨m, μ, i1, i2, .p _ _ (.sl none 0 [] 1 (fun _ _ => undef) (by simp) rfl (fun h => absurd rfl h) (fun i j r c h => by simp at h))⟩
  · obtain ⟨m', i1, i2, i3, i4⟩ := fresh_step hI hbase hg hb
    refine ⟨m', μ, i1, i2, .p _ _ ?_⟩
    rw [← hlen]
    refine rp_ints (by omega) (fun o x hx => i4 o _ ?_)
    have ho : o < l.length := (List.getElem?_eq_some_iff.1 hx).1
    have := congrArg (fun z : List Value => z[o]?) h4
    simp only [List.getElem?_map, hx, Option.map_some] at this
    rw [List.getElem?_take, if_pos (by omega)] at this
    simpa using this
theorem RP_int {m : Mem} {v : Value} {k : IntKind} {n : Int} (h : RP m v (.i k n)) : v = .int k n := by cases h; rfl
theorem hmin : IntKind.i64.min = -9223372036854775808 := by decide
theorem hmax : IntKind.i64.max = 9223372036854775807 := by decide
def kint : PV → Int
  | .i _ n => n
  | _ => 0
def kintV : Value → Int
  | .int _ n => n
  | _ => 0
theorem keysO_ok : OrcOK 423 keysO := by
  refine ⟨entered_of (by kernel_rfl), fun args G out G' h m μ w vargs hI ht hr => ?_⟩
  unfold keysO at h
  split at h
  · rename_i id
    obtain ⟨v, rfl, hv⟩ := hr.one
    cases hv with | fn _ a _ b _ ha hb hra hrb =>
    have ha' : a = #[] := Array.eq_empty_of_size_eq_zero (by simpa using ha)
    obtain ⟨p, rfl⟩ : ∃ p, b = #[p] := by
      rcases b with ⟨bl⟩
      simp at hb
      match bl, hb with
      | [x], _ => exact ⟨x, rfl⟩
    subst ha'
    have hp := hrb 0 p _ rfl rfl
    cases hp with | ptr _ _ loc h1 h2 =>
    have hlt := hI.lt h1
    split at h
    · rename_i T hG
      cases h
      obtain ⟨cv, T', k1, k2, k3, k4⟩ := hI.obj id _ hG loc h1
      obtain ⟨x, rfl⟩ : ∃ x, cv = #[x] := by
        rcases cv with ⟨bl⟩
        simp at k2
        match bl, k2 with
        | [x], _ => exact ⟨x, rfl⟩
      have hx := k3 0 x _ rfl rfl
      cases hx
      have hseq := AnyZI.keys_gives_nil (ρ := Tryz.keysK_ren) { Tryz.keysK with } Fence.wide 2 trivial rfl loc.blk w hlt (by simp [World.cell?, k1])
      refine CallsIn.mono ((callsIn_wide (n := 0)).2 (sorted_at w loc.blk (by omega) hseq)) fun e w' hp => ?_
      obtain ⟨v, ss, rfl, hS, hrow, hnil, hbl⟩ := hp
      subst hS
      exact keys_back hI (l := []) (by simp) hrow hbl
    · rename_i T k hG
      obtain ⟨cv, T', k1, k2, k3, k4⟩ := hI.obj id _ hG loc h1
      obtain ⟨x, rfl⟩ : ∃ x, cv = #[x] := by
        rcases cv with ⟨bl⟩
        simp at k2
        match bl, k2 with
        | [x], _ => exact ⟨x, rfl⟩
      have hx := k3 0 x _ rfl rfl
      cases hx with | map _ loc' q1 q2 =>
      split at h
      · rename_i ents hGk
        split at h
        · rename_i l hl
          split at h
          · rename_i hc
            cases h
            obtain ⟨es, o1, ⟨le, o2, o3, o4⟩, o5, o6, o7⟩ := hI.obj k _ hGk loc' q1
            obtain ⟨hkeys, hran⟩ := keyInts_at hl
            have hlen : es.size = l.length := by
              have e1 := congrArg List.length hkeys
              simp only [List.length_map] at e1
              rw [← o3, o2.length_eq, e1]
            have hek : ∀ (i : Nat) (e : MapEntry), es[i]? = some e → ∃ p n, le[i]? = some p ∧ p.1 = .i .i64 n ∧ n ∈ l ∧ e.key = encZ n := by
              intro i e he
              have hi : i < le.length := by rw [o3]; exact (Array.getElem?_eq_some_iff.1 he).1
              have hle := List.getElem?_eq_getElem hi
              have hm : (le[i]).1 ∈ l.map (PV.i .i64) := by
                rw [← hkeys]
                exact List.mem_map.2 ⟨le[i], o2.mem_iff.1 (List.getElem_mem hi), rfl⟩
              obtain ⟨n, hn, hnn⟩ := List.mem_map.1 hm
              refine ⟨le[i], n, hle, hnn.symm, hn, ?_⟩
              have := (o4 i e _ he hle).1
              rw [← hnn] at this
              exact RP_int this
            have hkl : (es.toList.map fun e => kintV e.key).Perm l := by
              have e1 : (es.toList.map fun e => kintV e.key) = le.map fun p => kint p.1 := by
                apply List.ext_getElem?
                intro i
                simp only [List.getElem?_map, Array.getElem?_toList]
                cases he : es[i]? with
                | none =>
                  have : le[i]? = none := by rw [List.getElem?_eq_none_iff, o3]; exact Array.getElem?_eq_none_iff.1 he
                  rw [this]; rfl
                | some e =>
                  obtain ⟨p, n, a1, a2, _, a4⟩ := hek i e he
                  rw [a1]
                  simp [a2, a4, kint, kintV]
              have e2 : (ents.map fun p => kint p.1) = l := by
                have := congrArg (List.map kint) hkeys
                rw [List.map_map, List.map_map] at this
                have e3 : (kint ∘ PV.i .i64) = _root_.id := by funext n; rfl
                rw [e3, List.map_id] at this
                exact this
              rw [e1, ← e2]
              exact o2.map _
            have hnd : (es.toList.map fun e => kintV e.key).Nodup := hkl.nodup_iff.2 ((rising_pw hc.1).imp fun {a b} h => by omega)
            have hrd : ∀ x ∈ es.toList, ∃ n, n ∈ l ∧ x.key = encZ n := fun x hx => by
              obtain ⟨i, hi⟩ := List.mem_iff_getElem?.1 hx
              obtain ⟨p, n, a1, a2, a3, a4⟩ := hek i x (by simpa using hi)
              exact ⟨n, a3, a4⟩
            have hkey : ∀ x ∈ es.toList, Go.WideElems.rd (H := Unit) Tryz.prog 3 (fun _ => some (.lit (.bool true), [])) x = some (.int .i64 (kintV x.key), .lit (.bool true)) := fun x hx => by
              obtain ⟨n, hn, e⟩ := hrd x hx
              have := hran n hn
              simp only [Go.WideElems.rd, e, kintV, keyOf, mapKey, show Tryz.prog.underlying 3 = some (.int .i64) from Tryz.underlying3]
              have hwf : (Lit.int .i64 n).wf = true := by
                simp only [Lit.wf, hmin, hmax, Bool.and_eq_true, decide_eq_true_eq]
                omega
              simp [hwf]
            have hfit : Go.WideElems.Fit (H := Unit) Tryz.prog 3 (fun _ => some (.lit (.bool true), [])) es es.size := by
              refine ⟨by unfold maxLen; omega, ⟨fun x hx => ?_, ?_, ?_⟩, fun x hx => ⟨_, hkey x hx⟩⟩
              · obtain ⟨i, hi⟩ := List.mem_iff_getElem?.1 hx
                have hi' : es[i]? = some x := by simpa using hi
                rw [o5 i x hi']
                exact (Array.getElem?_eq_some_iff.1 hi').1
              · have : es.toList.map (·.born) = List.range es.size := by
                  apply List.ext_getElem?
                  intro i
                  simp only [List.getElem?_map, Array.getElem?_toList]
                  cases he : es[i]? with
                  | none => simp [Array.getElem?_eq_none_iff.1 he]
                  | some e => simp [o5 i e he, List.getElem?_range (Array.getElem?_eq_some_iff.1 he).1]
                rw [this]
                exact List.nodup_range
              · have : es.toList.map (·.key) = (es.toList.map fun e => kintV e.key).map encZ := by
                  rw [List.map_map]
                  refine List.map_congr_left fun x hx => ?_
                  obtain ⟨n, hn, e⟩ := hrd x hx
                  simp [e, kintV]
                rw [this]
                exact List.pairwise_map.2 (hnd.imp fun {a b} h e => h (encZ_inj e))
            have hown : w.ownsMap (H := Unit) Tryz.prog 3 (fun _ => some (.lit (.bool true), [])) loc'.blk es.size (.map ((es.toList.map (Go.WideElems.rg Tryz.prog 3 fun _ => some (.lit (.bool true), []))).foldr DataW.insert [])) :=
              ⟨es, es.size, o1, hfit, Nat.le_refl _, rfl⟩
            have hik : (intKeys (.map ((es.toList.map (Go.WideElems.rg (H := Unit) Tryz.prog 3 fun _ => some (.lit (.bool true), []))).foldr DataW.insert []))).Perm l := by
              unfold intKeys
              refine ((foldr_insert_perm _).map _).trans ?_
              rw [List.map_map]
              refine .trans (.of_eq (List.map_congr_left fun x hx => ?_)) hkl
              simp [Go.WideElems.rg, hkey x hx, Go.intOf]
            have hsz : Maps.size (.map ((es.toList.map (Go.WideElems.rg (H := Unit) Tryz.prog 3 fun _ => some (.lit (.bool true), []))).foldr DataW.insert [])) ≤ 1099511627776 := by
              have e1 := (foldr_insert_perm (es.toList.map (Go.WideElems.rg (H := Unit) Tryz.prog 3 fun _ => some (.lit (.bool true), [])))).length_eq
              simp only [Maps.size, e1]
              simp; omega
            have hseq := AnyZI.keys_gives (ρ := Tryz.keysK_ren) { Tryz.keysK with } Fence.wide 2 trivial rfl (by omega) loc.blk loc'.blk es.size _ w hlt (by simp [World.cell?, k1]) hown
            refine CallsIn.mono ((callsIn_wide (n := 0)).2 (sorted_at w loc.blk hsz hseq)) fun e w' hp => ?_
            obtain ⟨v, ss, rfl, hS, hrow, hnil, hbl⟩ := hp
            exact keys_back hI (sort_rising hc.1 (hS.trans hik)) hrow hbl
          · cases h
        · cases h
      · cases h
    · cases h
  · cases h
end Go.Proofs.Z
end
section
namespace Go.Proofs.Z
open Go
theorem idxOf_range' : ∀ (n s id : Nat), s ≤ id → id < s + n → idxOf (List.range' s n) id = some (id - s)
  | 0, s, id, h1, h2 => by omega
  | n + 1, s, id, h1, h2 => by
    rw [List.range'_succ]
    unfold idxOf
    by_cases h : s = id
    · subst h; simp
    · rw [if_neg h, idxOf_range' n (s + 1) id (by omega) (by omega)]
      simp
      omega
def Ids (base : Nat) (e : Exp) : Prop := ∀ id, id < base → idxOf e.ids id = some id
theorem ids_range (base : Nat) (G : Heap) : Ids base ⟨List.range base, G⟩ := fun id h => by
  rw [List.range_eq_range']
  have := idxOf_range' base 0 id (by omega) (by omega)
  simpa using this
theorem Ids.id {base : Nat} {e : Exp} (h : Ids base e) {id : Nat} (hid : id < base) : e.id id = (id, e) := by
  unfold Exp.id
  rw [h id hid]
mutual
theorem exp_same {base : Nat} {e : Exp} (h : Ids base e) : ∀ {a : AV}, below base a = true → exp true e a = some (a, e)
  | .p x, _ => by simp [exp]
  | .nils, _ => by simp [exp]
  | .undef, _ => by simp [exp]
  | .rp _, _ => by simp [exp]
  | .arr id _ _, hb => by simp only [below] at hb; simp [exp, h.id (Nat.blt_eq.mp hb)]
  | .ptr id _, hb => by simp only [below] at hb; simp [exp, h.id (Nat.blt_eq.mp hb)]
  | .eptr id _ _ _, hb => by simp only [below] at hb; simp [exp, h.id (Nat.blt_eq.mp hb)]
  | .ag cs, hb => by simp only [exp]; rw [expL_same h (l := cs) (by simpa [below] using hb)]
  | .tup cs, hb => by simp only [exp]; rw [expL_same h (l := cs) (by simpa [below] using hb)]
  | .ifc t v, hb => by simp only [exp]; rw [exp_same h (a := v) (by simpa [below] using hb)]
  | .fn f a b, hb => by
    simp only [below, Bool.and_eq_true] at hb
    simp only [exp]
    rw [expL_same h hb.1]
    dsimp only
    rw [expL_same h hb.2]
  | .map id, hb => by simp only [below] at hb; simp [exp, h.id (Nat.blt_eq.mp hb)]
  | .nmap, _ => by simp [exp]
  | .yld id, hb => by simp only [below] at hb; simp [exp, h.id (Nat.blt_eq.mp hb)]
  | .clip _, _ => by simp [exp]
theorem expL_same {base : Nat} {e : Exp} (h : Ids base e) : ∀ {l : List AV}, belowL base l = true → expL true e l = some (l, e)
  | [], _ => by simp [expL]
  | a :: r, hb => by
    simp only [belowL, Bool.and_eq_true] at hb
    simp only [expL]
    rw [exp_same h hb.1]
    dsimp only
    rw [expL_same h hb.2]
end
theorem zip_fs : ∀ env : Env, (env.map (·.1)).zip (env.map (·.2)) = env
  | [] => rfl
  | p :: r => by simp [zip_fs r]
theorem expObjs_same {base : Nat} {G : Heap} (hG : G.length = base) (ho : G.all (belowObj base) = true) : ∀ (fuel k : Nat), base < fuel + k → k ≤ base → expObjs fuel ⟨List.range base, G⟩ k = some (G.drop k, ⟨List.range base, G⟩)
  | 0, k, h1, h2 => by omega
  | fuel + 1, k, h1, h2 => by
    unfold expObjs
    by_cases hk : k = base
    · subst hk
      rw [List.getElem?_eq_none (by simp)]
      rw [List.drop_eq_nil_of_le (by omega)]
    · have hlt : k < base := by omega
      have e1 : (⟨List.range base, G⟩ : Exp).ids[k]? = some k := by simp [hlt]
      rw [e1]
      dsimp only
      have hkG : k < G.length := by omega
      rw [List.getElem?_eq_getElem hkG]
      have hd : G.drop k = G[k] :: G.drop (k + 1) := List.drop_eq_getElem_cons hkG
      have hb : belowObj base G[k] = true := List.all_eq_true.mp ho _ (List.getElem_mem hkG)
      have ih := expObjs_same hG ho fuel (k + 1) (by omega) (by omega)
      cases hc : G[k] with
      | arr ty sz rows g sl =>
        dsimp only
        rw [ih]
        rw [hd, hc]
      | map ents =>
        dsimp only
        rw [ih]
        rw [hd, hc]
      | dead g sz =>
        dsimp only
        rw [ih]
        rw [hd, hc]
      | frm ps az bo env st pend =>
        rw [hc] at hb
        dsimp only
        rw [expL_same (ids_range base G) (by simpa [belowObj] using hb)]
        dsimp only
        rw [ih]
        rw [hd, hc]
        rw [zip_fs]
      | box ty cs =>
        rw [hc] at hb
        dsimp only
        rw [expL_same (ids_range base G) (by simpa [belowObj] using hb)]
        dsimp only
        rw [ih]
        rw [hd, hc]
theorem gcEnv_same {base : Nat} {e : Exp} (h : Ids base e) : ∀ {env : Env}, (∀ p, p ∈ env → below base p.2 = true) → gcEnv e env = some (env, e)
  | [], _ => rfl
  | (k, a) :: r, hb => by
    unfold gcEnv
    rw [exp_same h (hb (k, a) (by simp))]
    dsimp only
    rw [gcEnv_same h fun p hp => hb p (by simp [hp])]
theorem gc_same {base : Nat} {live : List Nat} {env : Env} {G : Heap} (hG : G.length = base) (ho : G.all (belowObj base) = true) (he : ∀ p, p ∈ restr live env → below base p.2 = true) : gc base live env G = some (restr live env, G) := by
  unfold gc
  rw [gcEnv_same (ids_range base G) he]
  dsimp only
  rw [expObjs_same hG ho _ 0 (by omega) (by omega)]
  simp
theorem leave_same {base : Nat} {o : Out} {G : Heap} (hG : G.length = base) (ho : G.all (belowObj base) = true) (hb : o.below base = true) : leave base o G = some (o, G) := by
  unfold leave
  have : G.take base = G := by rw [← hG]; simp
  rw [this, hb, ho]
  rfl
theorem L_unf {pg : Prg} {b : Nat} {v : List Nat} {body c : CCode} (hb : body = c) {env : Env} {G : Heap} :
    L pg b v body env G = match evCode pg (E pg) (L pg) b c env G with
      | some (.normal, env, G) => match gc b v env G with
        | some (env, G) => L pg b v body env G
        | none => none
      | r => r := by subst hb; exact L_eq b v body env G
end Go.Proofs.Z
end
section
namespace Go.Proofs.Z
open Go
section
variable {pg : Prg} {call : CallF} {loop : LoopF} {base : Nat}
abbrev Rs := Option (Ex × Env × Heap)
def kO (pg : Prg) (call : CallF) (d : Option Nat) (r : List CI) (x : Option Res) (env : Env) : Rs := match x with
  | none => none
  | some (.val v G) => evOps pg call r (put env d v) G
  | some (.pan v G) => some (.pan v, env, G)
def kG (pg : Prg) (call : CallF) (d : Option Nat) (o : COp) (r : List CI) (g : Option Bool) (env : Env) (G : Heap) : Rs := match g with
  | none => none
  | some false => evOps pg call r (put env d .undef) G
  | some true => kO pg call d r (evOp pg call o env G) env
theorem k_nil {env : Env} {G : Heap} : evOps pg call [] env G = some (.normal, env, G) := by simp [evOps]
theorem k_ops {d : Option Nat} {o : COp} {r : List CI} {env : Env} {G : Heap} : evOps pg call (⟨d, o, none⟩ :: r) env G = kO pg call d r (evOp pg call o env G) env := by
  rw [evOps]
  simp only [guardOK, kO]
  rcases evOp pg call o env G with _ | ⟨_ | _⟩ <;> rfl
theorem k_opsg {d : Option Nat} {o : COp} {g : Nat × Bool} {r : List CI} {env : Env} {G : Heap} : evOps pg call (⟨d, o, some g⟩ :: r) env G = kG pg call d o r (guardOK env (some g)) env G := by
  rw [evOps]
  simp only [kG]
  rcases guardOK env (some g) with _ | ⟨_ | _⟩
  · rfl
  · rfl
  · simp only [kO]; rcases evOp pg call o env G with _ | ⟨_ | _⟩ <;> rfl
theorem kG_true {d : Option Nat} {o : COp} {r : List CI} {env : Env} {G : Heap} : kG pg call d o r (some true) env G = kO pg call d r (evOp pg call o env G) env := rfl
theorem kG_false {d : Option Nat} {o : COp} {r : List CI} {env : Env} {G : Heap} : kG pg call d o r (some false) env G = evOps pg call r (put env d .undef) G := rfl
theorem kO_val {d : Option Nat} {r : List CI} {v : AV} {env : Env} {G : Heap} : kO pg call d r (some (.val v G)) env = evOps pg call r (put env d v) G := rfl
theorem kO_pan {d : Option Nat} {r : List CI} {v : AV} {env : Env} {G : Heap} : kO pg call d r (some (.pan v G)) env = some (.pan v, env, G) := rfl
def kS (pg : Prg) (call : CallF) (loop : LoopF) (base : Nat) (b : CCode) (x : Rs) : Rs := match x with
  | some (.normal, env, G) => evCode pg call loop base b env G
  | r => r
theorem k_seq {a b : CCode} {env : Env} {G : Heap} : evCode pg call loop base (.seq a b) env G = kS pg call loop base b (evCode pg call loop base a env G) := by
  rw [evCode]; rfl
theorem kS_n {b : CCode} {env : Env} {G : Heap} : kS pg call loop base b (some (.normal, env, G)) = evCode pg call loop base b env G := rfl
theorem kS_r {b : CCode} {env : Env} {G : Heap} : kS pg call loop base b (some (.ret, env, G)) = some (.ret, env, G) := rfl
theorem kS_e {b : CCode} {id : Nat} {env : Env} {G : Heap} : kS pg call loop base b (some (.exit id, env, G)) = some (.exit id, env, G) := rfl
theorem kS_p {b : CCode} {v : AV} {env : Env} {G : Heap} : kS pg call loop base b (some (.pan v, env, G)) = some (.pan v, env, G) := rfl
def kR (live : List Nat) (x : Rs) : Rs := match x with
  | some (.normal, env, G) => some (.normal, restr live env, G)
  | r => r
theorem k_o {live : List Nat} {l : List CI} {env : Env} {G : Heap} : evCode pg call loop base (.ops live l) env G = kR live (evOps pg call l env G) := by
  rw [evCode]; rfl
theorem kR_n {live : List Nat} {env : Env} {G : Heap} : kR live (some (.normal, env, G)) = some (.normal, restr live env, G) := rfl
theorem kR_p {live : List Nat} {v : AV} {env : Env} {G : Heap} : kR live (some (.pan v, env, G)) = some (.pan v, env, G) := rfl
abbrev Sn := Option (List (Env × Heap))
def kCI (x : Option Res) : Option (AV × Heap) := match x with
  | some (.val v G) => some (v, G)
  | _ => none
def kCg (pg : Prg) (call : CallF) (o : COp) (g : Option Bool) (env : Env) (G : Heap) : Option (AV × Heap) := match g with
  | none => none
  | some false => some (.undef, G)
  | some true => kCI (evOp pg call o env G)
theorem k_ci {d : Option Nat} {o : COp} {env : Env} {G : Heap} : evCI pg call ⟨d, o, none⟩ env G = kCI (evOp pg call o env G) := by
  unfold evCI; simp only [guardOK, kCI]
  rcases evOp pg call o env G with _ | ⟨_ | _⟩ <;> rfl
theorem k_cig {d : Option Nat} {o : COp} {g : Nat × Bool} {env : Env} {G : Heap} : evCI pg call ⟨d, o, some g⟩ env G = kCg pg call o (guardOK env (some g)) env G := by
  unfold evCI; simp only [kCg]
  rcases guardOK env (some g) with _ | ⟨_ | _⟩
  · rfl
  · rfl
  · simp only [kCI]; rcases evOp pg call o env G with _ | ⟨_ | _⟩ <;> rfl
theorem kCI_v {v : AV} {G : Heap} : kCI (some (.val v G)) = some (v, G) := rfl
theorem kCg_t {o : COp} {env : Env} {G : Heap} : kCg pg call o (some true) env G = kCI (evOp pg call o env G) := rfl
theorem kCg_f {o : COp} {env : Env} {G : Heap} : kCg pg call o (some false) env G = some (.undef, G) := rfl
def kSc (env : Env) (G : Heap) (x : Sn) : Sn := match x with
  | some l => some ((env, G) :: l)
  | none => none
def kSn (pg : Prg) (call : CallF) (d : Option Nat) (r : List CI) (env : Env) (G : Heap) (x : Option (AV × Heap)) : Sn := match x with
  | none => none
  | some (v, G') => kSc env G (evSnap pg call r (put env d v) G')
theorem k_s0 {env : Env} {G : Heap} : evSnap pg call [] env G = some [(env, G)] := by simp [evSnap]
theorem k_s {c : CI} {r : List CI} {env : Env} {G : Heap} : evSnap pg call (c :: r) env G = kSn pg call c.d r env G (evCI pg call c (restr (ciReads c) env) G) := by
  rw [evSnap]
  rcases evCI pg call c (restr (ciReads c) env) G with _ | ⟨v, G'⟩
  · rfl
  · simp only [kSn]
    rcases evSnap pg call r (put env c.d v) G' with _ | l <;> rfl
theorem kSn_s {d : Option Nat} {r : List CI} {env : Env} {G : Heap} {v : AV} {G' : Heap} : kSn pg call d r env G (some (v, G')) = kSc env G (evSnap pg call r (put env d v) G') := rfl
theorem kSc_s {env : Env} {G : Heap} {l : List (Env × Heap)} : kSc env G (some l) = some ((env, G) :: l) := rfl
def kD (pg : Prg) (live : List Nat) (ops : List CI) (chk : List (Nat × Nat)) (x : Sn) : Rs := match x with
  | some l => if drawChk pg ops l chk = true then match l.getLast? with
    | some (env, G) => some (.normal, restr live env, G)
    | none => none
    else none
  | none => none
theorem k_d {live : List Nat} {pre rest : List CI} {chk : List (Nat × Nat)} {env : Env} {G : Heap} : evCode pg call loop base (.draw live pre rest chk) env G = kD pg live (pre ++ rest) chk (evSnap pg call (pre ++ rest) env G) := by
  rw [evCode]
  rcases evSnap pg call (pre ++ rest) env G with _ | l <;> rfl
theorem kD_some {live : List Nat} {ops : List CI} {chk : List (Nat × Nat)} {l : List (Env × Heap)} : kD pg live ops chk (some l) = if drawChk pg ops l chk = true then (match l.getLast? with | some (env, G) => some (.normal, restr live env, G) | none => none) else none := rfl
theorem kD_s {live : List Nat} {ops : List CI} {chk : List (Nat × Nat)} {l : List (Env × Heap)} {e : Env} {G : Heap} (hl : l.getLast? = some (e, G)) (hc : drawChk pg ops l chk = true) : kD pg live ops chk (some l) = some (.normal, restr live e, G) := by
  simp [kD, hc, hl]
def kCk (c : CI) (e' : Env) (x : Option (AV × Heap)) : Bool := match x with
  | some (v, _) => match c.d with
    | some d => match lk e' d with
      | some v' => v.eq v'
      | none => false
    | none => true
  | none => false
def kDc (pg : Prg) (c : Option CI) (e e' h : Option (Env × Heap)) : Bool := match c, e, e', h with
  | some c, some e, some e', some h => kCk c e'.1 (evCI pg (fun _ _ _ => none) c (restr (ciReads c) e.1) h.2)
  | _, _, _, _ => false
theorem k_dc {L : List CI} {l : List (Env × Heap)} {chk : List (Nat × Nat)} : drawChk pg L l chk = chk.all fun p => kDc pg L[p.1]? l[p.1]? l[p.1 + 1]? l[p.2]? := rfl
theorem kDc_s {c : CI} {e e' h : Env × Heap} : kDc pg (some c) (some e) (some e') (some h) = kCk c e'.1 (evCI pg (fun _ _ _ => none) c (restr (ciReads c) e.1) h.2) := rfl
theorem kCk_d {d : Nat} {o : COp} {g : Option (Nat × Bool)} {e' : Env} {v v' : AV} {G : Heap} (h : lk e' d = some v') : kCk ⟨some d, o, g⟩ e' (some (v, G)) = v.eq v' := by simp [kCk, h]
theorem kCk_n {o : COp} {g : Option (Nat × Bool)} {e' : Env} {v : AV} {G : Heap} : kCk ⟨none, o, g⟩ e' (some (v, G)) = true := rfl
def kC (pg : Prg) (call : CallF) (loop : LoopF) (base : Nat) (a b : CCode) (env : Env) (G : Heap) (x : Option AV) : Rs := match x with
  | some (.p (.b x)) => if x then evCode pg call loop base a env G else evCode pg call loop base b env G
  | _ => none
theorem k_c {c : Opd} {a b : CCode} {env : Env} {G : Heap} : evCode pg call loop base (.cond c a b) env G = kC pg call loop base a b env G (opd env c) := by
  rw [evCode]; rfl
theorem kC_t {a b : CCode} {env : Env} {G : Heap} : kC pg call loop base a b env G (some (.p (.b true))) = evCode pg call loop base a env G := rfl
theorem kC_f {a b : CCode} {env : Env} {G : Heap} : kC pg call loop base a b env G (some (.p (.b false))) = evCode pg call loop base b env G := rfl
def kB (id : Nat) (x : Rs) : Rs := match x with
  | some (.exit id', env, G) => if id' = id then some (.normal, env, G) else some (.exit id', env, G)
  | r => r
theorem k_b {id : Nat} {a : CCode} {env : Env} {G : Heap} : evCode pg call loop base (.block id a) env G = kB id (evCode pg call loop base a env G) := by
  rw [evCode]; rfl
theorem kB_n {id : Nat} {env : Env} {G : Heap} : kB id (some (.normal, env, G)) = some (.normal, env, G) := rfl
theorem kB_r {id : Nat} {env : Env} {G : Heap} : kB id (some (.ret, env, G)) = some (.ret, env, G) := rfl
theorem kB_p {id : Nat} {v : AV} {env : Env} {G : Heap} : kB id (some (.pan v, env, G)) = some (.pan v, env, G) := rfl
theorem kB_e {id id' : Nat} {env : Env} {G : Heap} : kB id (some (.exit id', env, G)) = if id' = id then some (.normal, env, G) else some (.exit id', env, G) := rfl
theorem k_skip {env : Env} {G : Heap} : evCode pg call loop base .skip env G = some (.normal, env, G) := by rw [evCode]
theorem k_ret {env : Env} {G : Heap} : evCode pg call loop base .ret env G = some (.ret, env, G) := by rw [evCode]
theorem k_exit {id : Nat} {env : Env} {G : Heap} : evCode pg call loop base (.exit id) env G = some (.exit id, env, G) := by rw [evCode]
def kL (loop : LoopF) (base : Nat) (live : List Nat) (a : CCode) (x : Option (Env × Heap)) : Rs := match x with
  | some (env, G) => loop base live a env G
  | none => none
theorem k_l {live : List Nat} {a : CCode} {env : Env} {G : Heap} : evCode pg call loop base (.loop live a) env G = kL loop base live a (gc base live env G) := by
  rw [evCode]; rfl
theorem kL_s {live : List Nat} {a : CCode} {env : Env} {G : Heap} : kL loop base live a (some (env, G)) = loop base live a env G := rfl
def kGc (base : Nat) (x : Option (Env × Exp)) : Option (Env × Heap) := match x with
  | none => none
  | some (env, e) => match expObjs (e.G.length + 1) e 0 with
    | none => none
    | some (os, _) => some (env, os)
noncomputable def kLp (pg : Prg) (base : Nat) (live : List Nat) (body : CCode) (x : Rs) : Rs := match x with
  | some (.normal, env, G) => kL (L pg) base live body (gc base live env G)
  | r => r
theorem k_L {live : List Nat} {body c : CCode} (hb : body = c) {env : Env} {G : Heap} : L pg base live body env G = kLp pg base live body (evCode pg (E pg) (L pg) base c env G) := by
  rw [L_unf hb]; rfl
theorem kLp_n {live : List Nat} {body : CCode} {env : Env} {G : Heap} : kLp pg base live body (some (.normal, env, G)) = kL (L pg) base live body (gc base live env G) := rfl
theorem kLp_r {live : List Nat} {body : CCode} {env : Env} {G : Heap} : kLp pg base live body (some (.ret, env, G)) = some (.ret, env, G) := rfl
theorem kLp_e {live : List Nat} {body : CCode} {id : Nat} {env : Env} {G : Heap} : kLp pg base live body (some (.exit id, env, G)) = some (.exit id, env, G) := rfl
theorem kLp_p {live : List Nat} {body : CCode} {v : AV} {env : Env} {G : Heap} : kLp pg base live body (some (.pan v, env, G)) = some (.pan v, env, G) := rfl
def kN (n : Nat) (x : Option (AV × Heap)) : Option (Out × Heap) := match x with
  | some (v, G) => leave n (.ret v) G
  | none => none
def kV (n : Nat) (keep : Bool) (G : Heap) (x : Option (List AV)) : Option (Out × Heap) := match x with
  | none => none
  | some vs => if keep then some (.ret (whole vs), G) else kN n (norm G (whole vs))
theorem k_end {c : CFun} {n : Nat} {env : Env} {G : Heap} : evEnd c n env G = kV n c.keepRes G (evRes env G c.res) := by
  unfold evEnd kV
  rcases evRes env G c.res with _ | vs <;> dsimp only
  cases c.keepRes
  · simp only [Bool.false_eq_true, if_false, kN]
    rcases norm G (whole vs) with _ | ⟨_, _⟩ <;> rfl
  · rfl
def kDf (pg : Prg) (call : CallF) (c : CFun) (n : Nat) (e : Ex) (env : Env) (G : Heap) (x : Option AV) : Option (Out × Heap) := match x with
  | some (.fn f _ cap) => if (e.okPv && Nat.beq c.md 1) = false then none else match evCallAt pg call (f + dF) (e.pv :: cap) G with
      | some (.ret _, G') => evEnd c n env G'
      | _ => none
  | some _ => none
  | none => match e with
    | .pan v => leave n (.pan v) G
    | .exit _ => none
    | _ => evEnd c n env G
def kF (pg : Prg) (call : CallF) (c : CFun) (n : Nat) (x : Rs) : Option (Out × Heap) := match x with
  | some (e, env, G) => kDf pg call c n e env G (lk env dK)
  | none => none
theorem k_f {c : CFun} {env : Env} {G : Heap} : evFun pg call loop c env G = kF pg call c G.length (evCode pg call loop G.length c.body env G) := by
  unfold evFun kF
  rcases evCode pg call loop G.length c.body env G with _ | ⟨e, env, G'⟩ <;> rfl
theorem kF_s {c : CFun} {n : Nat} {e : Ex} {env : Env} {G : Heap} : kF pg call c n (some (e, env, G)) = kDf pg call c n e env G (lk env dK) := rfl
theorem kDf_n {c : CFun} {n : Nat} {env : Env} {G : Heap} : kDf pg call c n .normal env G none = evEnd c n env G := rfl
theorem kDf_r {c : CFun} {n : Nat} {env : Env} {G : Heap} : kDf pg call c n .ret env G none = evEnd c n env G := rfl
theorem kDf_p {c : CFun} {n : Nat} {v : AV} {env : Env} {G : Heap} : kDf pg call c n (.pan v) env G none = leave n (.pan v) G := rfl
theorem kV_f {n : Nat} {G : Heap} {vs : List AV} : kV n false G (some vs) = kN n (norm G (whole vs)) := rfl
theorem kV_t {n : Nat} {G : Heap} {vs : List AV} : kV n true G (some vs) = some (.ret (whole vs), G) := rfl
theorem kN_s {n : Nat} {v : AV} {G : Heap} : kN n (some (v, G)) = leave n (.ret v) G := rfl
end
mutual
theorem PV.eq_rfl : ∀ x : PV, x.eq x = true
  | .b x => by simp [PV.eq]
  | .i k n => by simp [PV.eq]
  | .s x => by simp [PV.eq]
  | .sl x => by simp [PV.eq, PV.eqLL_rfl x]
  | .pn | .fnil | .inil | .opq => by simp [PV.eq]
  | .ag x => by simp [PV.eq, PV.eqL_rfl x]
  | .ifc t v => by simp [PV.eq, PV.eq_rfl v]
theorem PV.eqL_rfl : ∀ x : List PV, PV.eqL x x = true
  | [] => by simp [PV.eqL]
  | a :: r => by simp [PV.eqL, PV.eq_rfl a, PV.eqL_rfl r]
theorem PV.eqLL_rfl : ∀ x : List (List PV), PV.eqLL x x = true
  | [] => by simp [PV.eqLL]
  | a :: r => by simp [PV.eqLL, PV.eqL_rfl a, PV.eqLL_rfl r]
end
mutual
theorem AV.eq_rfl : ∀ x : AV, x.eq x = true
  | .p x => by simp [AV.eq, PV.eq_rfl]
  | .nils | .undef | .nmap => by simp [AV.eq]
  | .ptr _ _ | .arr _ _ _ | .eptr _ _ _ _ | .map _ | .yld _ => by simp [AV.eq]
  | .rp x => by simp [AV.eq, PV.eqL_rfl]
  | .ag x | .tup x => by simp [AV.eq, AV.eqL_rfl x]
  | .fn f a b => by simp [AV.eq, AV.eqL_rfl a, AV.eqL_rfl b]
  | .ifc t v => by simp [AV.eq, AV.eq_rfl v]
  | .clip x => by simp [AV.eq, PV.eqLL_rfl]
theorem AV.eqL_rfl : ∀ x : List AV, AV.eqL x x = true
  | [] => by simp [AV.eqL]
  | a :: r => by simp [AV.eqL, AV.eq_rfl a, AV.eqL_rfl r]
end
end Go.Proofs.Z
end
