/- A part of the proof. -/
import Derived.Test.YtmlaokgdomfmgaaGreatDoorL13
import Derived.Test.YtmlaokgdomfmgaaGreatDoorL14
import Derived.Lib.SplitLaws
import Derived.Lib.SliceRun
set_option linter.all false
section
namespace Go.Proofs.Z
open Go Go.RowKit Go.Proofs Go.Sort
def OrcOK (f : Nat) (F : Orc) : Prop := Entered theP.P f ∧ ∀ args G out G', F args G = some (out, G') → ∀ m μ w vargs, Inv m μ G w → (∀ id, id < G.length → ∃ l, μ id = some l) → RL m μ (inf G) vargs args → CallsIn (Fn none) 0 theP.P f vargs.toArray w (Back m μ G w G' out)
theorem entered_of {P : Program} {f : Nat} (h : (match P.funcs[f]? with | some fn => !(fn.name == "runtime.NumGoroutine") && !fn.body.isNone | none => false) = true) : Entered P f := by
  split at h
  · rename_i fn hf
    simp only [Bool.and_eq_true, Bool.not_eq_true'] at h
    exact ⟨fn, hf, h.1, h.2⟩
  · cases h
section
variable {m : Mem} {μ : Mu} {i : Inf}
theorem RL.one {vs : List Value} {a : AV} (h : RL m μ i vs [a]) : ∃ v, vs = [v] ∧ R m μ i v a := by
  obtain ⟨v, r, rfl, h1, h2⟩ := h.inv_cons
  rw [h2.inv_nil]
  exact ⟨v, rfl, h1⟩
theorem RL.two {vs : List Value} {a b : AV} (h : RL m μ i vs [a, b]) : ∃ v u, vs = [v, u] ∧ R m μ i v a ∧ R m μ i u b := by
  obtain ⟨v, r, rfl, h1, h2⟩ := h.inv_cons
  obtain ⟨u, rfl, h3⟩ := h2.one
  exact ⟨v, u, rfl, h1, h3⟩
theorem R.intv {v : Value} {k : IntKind} {n : Int} (h : R m μ i v (.p (.i k n))) : v = .int k n := by
  cases h with | p _ _ hp => cases hp; rfl
theorem R.strv {v : Value} {l : List UInt8} (h : R m μ i v (.p (.s l))) : v = .string ⟨l.toArray⟩ := by
  cases h with | p _ _ hp => cases hp; rfl
end
theorem Below.grow' {w : World} (k : Nat) (os : Array Obj) : Below w.heap.size w (grow (w.drewN k) os) := by
  refine ⟨rfl, rfl, rfl, by simp [grow, World.drewN], fun b hb => ?_⟩
  show (w.heap ++ os)[b]? = _
  rw [Array.getElem?_append_left hb]
theorem tabIs {μ : Mu} {w : World} (h : Glob μ w) {g : Nat} {name : String} {k : IntKind} {zs : List Int} (hn : theP.P.globalNamed name = some g) (hg : theGl g = some fun cs => cs = (zs.map fun z => Value.int k z).toArray) : Lib.TabIs theP.P w name k zs := by
  obtain ⟨⟨cs, T, f, h1, h2⟩, _⟩ := h g _ hg
  subst h2
  simp [Lib.TabIs, World.var?, hn, h1]
def digK : Nat → Nat → List UInt8
  | 0, _ => []
  | f + 1, n => match Nat.blt n 10 with
    | true => [UInt8.ofNat (48 + n)]
    | false => digK f (n / 10) ++ [UInt8.ofNat (48 + n % 10)]
theorem digK_eq : ∀ (f n : Nat), n < 10 ^ f → 1 ≤ f → digK f n = Lib.decDigits n
  | 0, _, _, h => by omega
  | f + 1, n, h, _ => by
    rw [Lib.decDigits, digK]
    cases hb : Nat.blt n 10 with
    | true => rw [Nat.blt_eq] at hb; rw [dif_pos hb]
    | false =>
      have hge : ¬ n < 10 := fun h => by rw [← Nat.blt_eq, hb] at h; cases h
      rw [dif_neg hge]
      have hf : 1 ≤ f := by
        rcases Nat.eq_zero_or_pos f with h0 | h0
        · subst h0; simp at h; omega
        · exact h0
      rw [digK_eq f (n / 10) (by rw [Nat.pow_succ] at h; omega) hf]
def itoaK : Int → List UInt8
  | .ofNat n => digK 20 n
  | .negSucc n => 45 :: digK 20 (n + 1)
theorem ten20 : (10 : Nat) ^ 20 = 100000000000000000000 := by decide
theorem itoaK_eq {n : Int} (h0 : -9223372036854775808 ≤ n) (h1 : n ≤ 9223372036854775807) : itoaK n = Lib.itoa n := by
  unfold itoaK Lib.itoa
  split
  · rename_i n
    rw [Int.ofNat_eq_natCast] at h0 h1 ⊢
    rw [if_neg (by omega), digK_eq 20 n (by rw [ten20]; omega) (by omega)]; rfl
  · rename_i n
    rw [if_pos (by omega), digK_eq 20 (n + 1) (by rw [ten20]; omega) (by omega)]; rfl
def itoaO : Orc := fun args G => match args with
  | [.p (.i .i64 n)] => if -9223372036854775808 ≤ n ∧ n ≤ 9223372036854775807 then some (.ret (.p (.s (itoaK n))), G) else none
  | _ => none
theorem itoaO_ok : OrcOK 46 itoaO := by
  refine ⟨entered_of (by kernel_rfl), fun args G out G' h m μ w vargs hI ht hr => ?_⟩
  unfold itoaO at h
  split at h
  · rename_i n
    split at h
    · rename_i hn
      cases h
      obtain ⟨v, rfl, hv⟩ := hr.one
      rw [hv.intv]
      refine pure_orc hI (v := .string ⟨(Lib.itoa n).toArray⟩) (by rw [itoaK_eq hn.1 hn.2]; exact .p _ _ (.s _)) ?_
      refine (Tryz.strconv_Itoa n hn.1 hn.2 w (tabIs hI.glob (g := 2) (by kernel_rfl) rfl)).mono fun e w' hp => ?_
      obtain ⟨h1, k, os, rfl⟩ := hp
      exact ⟨h1, Below.grow' k os⟩
    · cases h
  · cases h
def atoiO : Orc := fun args G => match args with
  | [.p (.s l)] => if l.length ≤ 281474976710656 then match Lib.atoiAll l with
      | .ok v => some (.ret (.tup [.p (.i .i64 v), .p .inil]), G)
      | Lib.NumEnd.syntax => some (.ret (.tup [.p (.i .i64 0), .p .opq]), G)
      | .range => some (.ret (.tup [.p (.i .i64 (Lib.atoiSat l)), .p .opq]), G)
    else none
  | _ => none
theorem errVar {μ : Mu} {w : World} (h : Glob μ w) {g : Nat} (hg : theGl g = some fun cs => ∃ te pe, cs = #[.iface te pe]) : ∃ ev, w.cell? ⟨g, 0, none⟩ = some ev ∧ ∃ te pe, ev = .iface te pe := by
  obtain ⟨⟨cs, T, f, h1, te, pe, rfl⟩, _⟩ := h g _ hg
  exact ⟨_, by simp [World.cell?, h1], te, pe, rfl⟩
theorem tup2 {m : Mem} {μ : Mu} {i : Inf} {v u : Value} {a b : AV} (h1 : R m μ i v a) (h2 : R m μ i u b) : R m μ i (.tuple #[v, u]) (.tup [a, b]) := .tupOf (.cons h1 (.cons h2 .nil))
theorem szOf (l : List UInt8) : ByteArray.size ⟨l.toArray⟩ = l.length := rfl
theorem atoiO_ok : OrcOK 123 atoiO := by
  refine ⟨entered_of (by kernel_rfl), fun args G out G' h m μ w vargs hI ht hr => ?_⟩
  unfold atoiO at h
  split at h
  · rename_i l
    split at h
    · rename_i hl
      obtain ⟨v, rfl, hv⟩ := hr.one
      rw [hv.strv]
      have hsz := szOf l
      split at h
      · rename_i n hn
        cases h
        refine pure_orc hI (tup2 (.p _ _ (.i _ _)) (.p _ _ .inil)) ?_
        refine (Tryz.strconv_Atoi_ok ⟨l.toArray⟩ (by omega) n (by simpa using hn) w).mono fun e w' hp => ?_
        obtain ⟨h1, h2⟩ := hp
        refine ⟨h1, ?_⟩
        rcases h2 with rfl | ⟨t, rfl⟩
        · exact Below.refl _ _
        · exact Lib.bytesWorld_below _ _ _
      · rename_i hn
        cases h
        obtain ⟨ev, e1, e2⟩ := errVar hI.glob (g := 5) rfl
        have hc := Tryz.strconv_Atoi_syntax ⟨l.toArray⟩ (by omega) (by simpa using hn) ev w e1 (.inr e2)
        refine CallsIn.mono ((callsIn_wide (n := 0)).2 hc) fun e w' hp => ?_
        obtain ⟨N, rfl, _, _, hb⟩ := hp
        obtain ⟨i1, i2⟩ := below_step hI hb
        exact ⟨m, μ, i1, i2, tup2 (.p _ _ (.i _ _)) (.p _ _ (.opq _ _))⟩
      · rename_i hn
        cases h
        obtain ⟨ev, e1, e2⟩ := errVar hI.glob (g := 6) rfl
        have hc := Tryz.strconv_Atoi_range ⟨l.toArray⟩ (by omega) (by simpa using hn) ev w e1 (.inr e2)
        refine CallsIn.mono ((callsIn_wide (n := 0)).2 hc) fun e w' hp => ?_
        obtain ⟨N, rfl, _, _, hb⟩ := hp
        obtain ⟨i1, i2⟩ := below_step hI hb
        exact ⟨m, μ, i1, i2, tup2 (.p _ _ (.i _ _)) (.p _ _ (.opq _ _))⟩
    · cases h
  · cases h
end Go.Proofs.Z
end
section
namespace Go.Proofs.Z
open Go Go.RowKit Go.Proofs Go.Sort
theorem Below.alloc' (w : World) (o : Obj) : Below w.heap.size w (w.alloc o) := by
  refine ⟨rfl, rfl, rfl, by simp, fun b hb => ?_⟩
  show (w.heap.push o)[b]? = _
  rw [Array.getElem?_push_lt hb]
  exact (Array.getElem?_eq_getElem hb).symm
def strs (rows : List (List PV)) : Option (List (List UInt8)) := match rows with
  | [] => some []
  | [.s x] :: r => match strs r with
    | some l => some (x :: l)
    | none => none
  | _ => none
def unstrs (l : List (List UInt8)) : List (List PV) := l.map fun x => [.s x]
theorem strs_eq : ∀ {rows : List (List PV)} {l : List (List UInt8)}, strs rows = some l → rows = unstrs l
  | [], l, h => by simp [strs] at h; subst h; rfl
  | row :: r, l, h => by
    unfold strs at h
    split at h
    · rename_i h'; cases h'
    · rename_i x r' h'
      cases h'
      split at h
      · rename_i l' hl
        cases h
        rw [strs_eq hl]; rfl
      · cases h
    · cases h
theorem rp_strs {m : Mem} {N : Nat} {xs : List (List UInt8)} (hm : ∀ (o : Nat) v, ((xs.map fun l => Value.string ⟨l.toArray⟩).toArray)[o]? = some v → m N o = some v) :
    RP m (.slice (some ⟨N, 0, none⟩) xs.length xs.length) (.sl (unstrs xs)) := by
  have hlen : (unstrs xs).length = xs.length := by simp [unstrs]
  have hrow : ∀ (i j : Nat) (r : List PV) (c : PV), (unstrs xs)[i]? = some r → r[j]? = some c → ∃ x, xs[i]? = some x ∧ j = 0 ∧ c = .s x := by
    intro i j r c h1 h2
    simp only [unstrs, List.getElem?_map, Option.map_eq_some_iff] at h1
    obtain ⟨x, h1, rfl⟩ := h1
    cases j with
    | zero => simp at h2; exact ⟨x, h1, rfl, h2.symm⟩
    | succ j => simp at h2
  have := RP.sl (m := m) (some ⟨N, 0, none⟩) xs.length (unstrs xs) 1 (fun i j => ((xs[i]?).map fun l => Value.string ⟨l.toArray⟩).getD undef) (by rw [hlen]; exact Nat.le_refl _) (by simp [unstrs, okRows, okRow, PV.flat]) (fun _ => ⟨N, 0, rfl, fun i j r c h1 h2 => by
    obtain ⟨x, hx, rfl, rfl⟩ := hrow i j r c h1 h2
    refine hm _ _ ?_
    simp [hx]⟩) (fun i j r c h1 h2 => by
    obtain ⟨x, hx, rfl, rfl⟩ := hrow i j r c h1 h2
    simp [hx]
    exact .s x)
  rwa [hlen] at this
theorem strs_at {m : Mem} {μ : Mu} {G : Heap} {w : World} (hI : Inv m μ G w) {v : Value} {xs : List (List UInt8)} (h : RP m v (.sl (unstrs xs))) : ∃ a cap, v = .slice a xs.length cap ∧ xs.length ≤ cap ∧ (xs ≠ [] → ∃ b o, a = some ⟨b, o, none⟩ ∧ b < w.heap.size ∧ ∀ (j : Nat) x, xs[j]? = some x → w.cell? ⟨b, o + j, none⟩ = some (.string ⟨x.toArray⟩)) := by
  have hlen : (unstrs xs).length = xs.length := by simp [unstrs]
  cases h with
  | sl a cap _ sz f hcap hs ha hf =>
    rw [hlen] at hcap
    refine ⟨a, cap, by rw [hlen], hcap, fun hne => ?_⟩
    have hne' : unstrs xs ≠ [] := by intro e; apply hne; simpa [unstrs] using e
    obtain ⟨b, o, rfl, hm⟩ := ha hne'
    have hat : ∀ (j : Nat) x, xs[j]? = some x → w.cell? ⟨b, o + j * sz, none⟩ = some (.string ⟨x.toArray⟩) := fun j x hx => by
      have h1 : (unstrs xs)[j]? = some [.s x] := by simp [unstrs, hx]
      have h2 := hI.known _ _ _ (hm j 0 _ _ h1 rfl)
      have h3 := hf j 0 _ _ h1 rfl
      rw [Nat.add_zero] at h2
      generalize hv : f j 0 = v at h2 h3
      cases h3
      exact h2
    have hsz : sz = 1 := by
      cases xs with
      | nil => exact absurd rfl hne
      | cons x r =>
        have : okRow sz [PV.s x] = true := by
          simp only [okRows, unstrs, List.map_cons, List.all_cons, Bool.and_eq_true] at hs
          exact hs.1
        simp [okRow] at this
        exact this.1.symm
    subst hsz
    refine ⟨b, o, rfl, ?_, fun j x hx => by simpa using hat j x hx⟩
    cases xs with
    | nil => exact absurd rfl hne
    | cons x r => exact World.block_lt_of_cell? w _ (hat 0 x rfl)
def fieldsO : Orc := fun args G => match args with
  | [.p (.s l)] => if l.length < 4294967281 ∧ l.all (fun b => Nat.blt b.toNat 128) = true then some (.ret (.p (.sl (unstrs (Lib.fields l)))), G) else none
  | _ => none
theorem fieldsO_ok : OrcOK 340 fieldsO := by
  refine ⟨entered_of (by kernel_rfl), fun args G out G' h m μ w vargs hI ht hr => ?_⟩
  unfold fieldsO at h
  split at h
  · rename_i l
    split at h
    · rename_i hl
      cases h
      obtain ⟨v, rfl, hv⟩ := hr.one
      rw [hv.strv]
      have hc := Tryz.strings_Fields ⟨l.toArray⟩ w (by rw [szOf]; exact hl.1) (fun j b hb => by
        have := List.all_eq_true.1 hl.2 b (List.mem_of_getElem? (by simpa using hb))
        simpa [Nat.blt_eq] using this) (tabIs hI.glob (g := 7) (by kernel_rfl) rfl)
      refine CallsIn.mono ((callsIn_wide (n := 0)).2 hc) fun e w' hp => ?_
      obtain ⟨rfl, rfl⟩ := hp
      obtain ⟨m', i1, i2, i3, i4⟩ := fresh_step hI (N := w.heap.size) (Nat.le_refl _) (World.alloc_heap_new _ _) (Below.alloc' w _)
      exact ⟨m', μ, i1, i2, .p _ _ (rp_strs i4)⟩
    · cases h
  · cases h
def joinO : Orc := fun args G => match args with
  | [.p (.sl rows), .p (.s sep)] => match strs rows with
    | some xs => if xs.length ≤ 140737488355328 ∧ (Lib.join xs sep).length ≤ 140737488355328 then some (.ret (.p (.s (Lib.join xs sep))), G) else none
    | none => none
  | _ => none
theorem joinO_ok : OrcOK 78 joinO := by
  refine ⟨entered_of (by kernel_rfl), fun args G out G' h m μ w vargs hI ht hr => ?_⟩
  unfold joinO at h
  split at h
  · rename_i rows sep
    split at h
    · rename_i xs hx
      split at h
      · rename_i hl
        cases h
        obtain ⟨v, u, rfl, hv, hu⟩ := hr.two
        rw [hu.strv]
        rw [strs_eq hx] at hv
        cases hv with | p _ _ hv =>
        obtain ⟨a, cap, rfl, hcap, hat⟩ := strs_at hI hv
        by_cases hne : xs = []
        · subst hne
          refine pure_orc hI (v := .string ⟨#[]⟩) (.p _ _ (.s [])) ?_
          exact (Tryz.strings_Join_none a cap ⟨sep.toArray⟩ w).mono fun e w' hp => ⟨hp.1, hp.2 ▸ Below.refl _ _⟩
        · obtain ⟨b, o, rfl, hb, hcell⟩ := hat hne
          have hmap : (xs.map fun l => (⟨l.toArray⟩ : ByteArray)).map (fun x => x.data.toList) = xs := by simp [Function.comp_def]
          refine pure_orc hI (v := .string ⟨(Lib.join xs sep).toArray⟩) (.p _ _ (.s _)) ?_
          have hc := Tryz.strings_Join b o cap (xs.map fun l => ⟨l.toArray⟩) ⟨sep.toArray⟩ w (fun j x hj => by
            simp only [List.getElem?_map, Option.map_eq_some_iff] at hj
            obtain ⟨y, hy, rfl⟩ := hj
            exact hcell j y hy) hb (by simpa using hl.1) (by simpa using hcap) (by rw [hmap]; exact hl.2)
          rw [hmap, List.length_map] at hc
          exact hc
      · cases h
    · cases h
  · cases h
end Go.Proofs.Z
end
section
namespace Go.Proofs.Z
open Go Go.RowKit Go.Proofs Go.Sort
def splitOn (c : UInt8) : List UInt8 → List (List UInt8)
  | [] => [[]]
  | x :: r => match Nat.beq x.toNat c.toNat with
    | true => [] :: splitOn c r
    | false => match splitOn c r with
      | a :: q => (x :: a) :: q
      | [] => [[x]]
theorem split_on (c : UInt8) : ∀ l : List UInt8, Lib.splitK [c] 0 (Lib.count l [c]) l = splitOn c l
  | [] => by rw [Lib.count_one]; rfl
  | x :: r => by
    have ih := split_on c r
    by_cases h : x = c
    · subst h
      have e : Nat.beq x.toNat x.toNat = true := by simp
      rw [splitOn, e, Lib.count_cons_eq, Nat.add_comm, Lib.splitK]
      have hi : Lib.index (x :: r) [x] = 0 := by simp [Lib.index]
      simp only [hi]
      rw [if_neg (by decide)]
      simp [ih]
    · have e : Nat.beq x.toNat c.toNat = false := by
        cases hb : Nat.beq x.toNat c.toNat with
        | false => rfl
        | true => exact absurd (UInt8.toNat_inj.1 (Nat.eq_of_beq_eq_true hb)) h
      rw [splitOn, e, Lib.count_cons_ne x c r h, ← ih]
      cases hk : Lib.count r [c] with
      | zero => rfl
      | succ k =>
        have hne : Lib.index r [c] ≠ -1 := fun hm => by rw [Lib.count_miss hm] at hk; cases hk
        have hx : Lib.index (x :: r) [c] = Lib.index r [c] + 1 := by
          have hp : List.isPrefixOf [c] (x :: r) = false := by simp [List.isPrefixOf]; exact fun e => h e.symm
          simp [Lib.index, hp, hne]
        have hge := Lib.index_ge r [c]
        have hne' : ¬ (Lib.index r [c] + 1 == -1) = true := by simp; omega
        have hne2 : ¬ (Lib.index r [c] == -1) = true := by simpa using hne
        simp only [Lib.splitK, hx]
        rw [if_neg hne', if_neg hne2]
        obtain ⟨i, hi⟩ : ∃ i : Nat, Lib.index r [c] = i := ⟨(Lib.index r [c]).toNat, by omega⟩
        rw [hi]
        have e1 : ((i : Int) + 1).toNat = i + 1 := by omega
        have e2 : ((i : Int)).toNat = i := by omega
        rw [e1, e2]
        simp [Nat.add_right_comm]
def splitO : Orc := fun args G => match args with
  | [.p (.s l), .p (.s [c])] => if l.length < 4294967281 then some (.ret (.p (.sl (unstrs (splitOn c l)))), G) else none
  | _ => none
theorem splitO_ok : OrcOK 36 splitO := by
  refine ⟨entered_of (by kernel_rfl), fun args G out G' h m μ w vargs hI ht hr => ?_⟩
  unfold splitO at h
  split at h
  · rename_i l c
    split at h
    · rename_i hl
      cases h
      obtain ⟨v, u, rfl, hv, hu⟩ := hr.two
      rw [hv.strv, hu.strv]
      obtain ⟨⟨cs, T, f, h1, n, rfl⟩, _⟩ := hI.glob 1 _ (show theGl 1 = some fun cs => ∃ n, cs = #[.int .i64 n] from rfl)
      have hc := Tryz.strings_Split ⟨l.toArray⟩ ⟨#[c]⟩ n w (by rw [szOf]; exact hl) (by simp [World.cell?, h1]) (Nat.le_refl 1)
      have hdat := Lib.splitB_data ⟨#[c]⟩ 0 (Lib.countB ⟨l.toArray⟩ ⟨#[c]⟩) ⟨l.toArray⟩
      have hcnt : Lib.countB ⟨l.toArray⟩ ⟨#[c]⟩ = Lib.count l [c] := rfl
      rw [hcnt] at hdat hc
      have hdat' : (Lib.splitB ⟨#[c]⟩ 0 (Lib.count l [c]) ⟨l.toArray⟩).map (·.data.toList) = splitOn c l := hdat.trans (split_on c l)
      have hlen : (splitOn c l).length = Lib.count l [c] + 1 := by
        rw [← hdat', List.length_map]
        exact Lib.splitB_all ⟨#[c]⟩ (Nat.le_refl 1) 0 _ ⟨l.toArray⟩ hcnt
      refine CallsIn.mono ((callsIn_wide (n := 0)).2 hc) fun e w' hp => ?_
      obtain ⟨rfl, rfl⟩ := hp
      have hcs : (Lib.splitB ⟨#[c]⟩ 0 (Lib.count l [c]) ⟨l.toArray⟩).map Value.string = (splitOn c l).map fun l => Value.string ⟨l.toArray⟩ := by
        rw [← hdat', List.map_map]
        apply List.map_congr_left
        intro b _
        simp
      rw [hcs]
      obtain ⟨m', i1, i2, i3, i4⟩ := fresh_step hI (N := w.heap.size) (Nat.le_refl _) (World.alloc_heap_new _ _) (Below.alloc' w _)
      refine ⟨m', μ, i1, i2, ?_⟩
      rw [← hlen]
      exact .p _ _ (rp_strs i4)
    · cases h
  · cases h
end Go.Proofs.Z
end
section
namespace Go.Proofs.Z
open Go Go.Proofs
variable [hP : HasP]
def pgE : Prg := ⟨fun _ => none, fun _ => none⟩
theorem pgE_ok (h1 : hP.P.follows .mixedOrders = true) (h2 : hP.P.funcs.size ≤ dF) : PrgOK pgE := ⟨h1, h2, fun f c h => (by simp [pgE] at h), fun f F h => (by simp [pgE] at h)⟩
theorem wpOpsIn_to {P : Program} {ops : Array Oper} {Q : Exit → Act → World → Prop} {i : Nat} {rest : List Nat} {a a' : Act} {w w' : World} {o : Oper} {v : Value} (ho : ops[i]? = some o) (hd : o.isDfr = false) (hw : Region.wanted o (yielded ops a.tmps) = true) (hr : (execOp a.eval o).run P w = .ok (.value v) w') (ha : a.put o.dst v = a') (h : wpOpsIn (Fn none) 0 P ops Q rest a' w') : wpOpsIn (Fn none) 0 P ops Q (i :: rest) a w := by
  subst ha
  rw [wpOpsIn_cons]
  unfold wpOpIn
  rw [ho]
  dsimp only
  rw [hw]
  simp only [if_true]
  unfold Oper.wpIn
  have hrun' : (o.semAt (Fn none).round a.eval).run P w = .ok (.value v) w' := by
    show (o.semAt none a.eval).run P w = _
    rw [Oper.semAt_none]; exact hr
  rw [hrun', Oper.uponIn_value]
  exact ⟨fun _ _ => trivial, h⟩
def clHead (t : TypeId) : Array Oper := #[{ dst := some 2, op := .assign (.const (.slice none 0 0)), type := t, pos := "slices.go:355", after := #[], guard := none }]
def clTest (t : TypeId) : Array Oper := #[{ dst := some 3, op := .move (.tmp 0), type := t, pos := "slices.go:357", after := #[], guard := none },
  { dst := some 4, op := .binOp .eql t (.tmp 3) (.const (.slice none 0 0)) t, type := 4, pos := "slices.go:357", after := #[{ on := 0, ground := .data }], guard := none }]
def clNil (t : TypeId) : Array Oper := #[{ dst := some 2, op := .assign (.const (.slice none 0 0)), type := t, pos := "slices.go:358", after := #[], guard := none }]
def clTail (t : TypeId) : Code := .seq (.region 3 #[{ dst := some 5, op := .buildSlice t 0 #[], type := t, pos := "slices.go:362", after := #[], guard := none },
  { dst := some 6, op := .move (.tmp 0), type := t, pos := "slices.go:362", after := #[], guard := none },
  { dst := some 7, op := .call { callee := .builtin .append, args := #[.tmp 5, .tmp 6], argTypes := #[t, t] }, type := t, pos := "slices.go:362", after := #[{ on := 0, ground := .data }, { on := 1, ground := .data }], guard := none },
  { dst := some 2, op := .assign (.tmp 7), type := t, pos := "slices.go:362", after := #[{ on := 2, ground := .data }, { on := 2, ground := .chain }, { on := 0, ground := .phase }, { on := 1, ground := .phase }, { on := 2, ground := .phase }], guard := none }] false) .ret
def clBody (t : TypeId) : Code := .seq (.region 0 (clHead t) false) (.seq (.seq (.region 1 (clTest t) false) (.cond (.tmp 4) (.seq (.region 2 (clNil t) false) .ret) .skip)) (clTail t))
def clC (ty sz bytes : Nat) (zero : List PV) : CFun := ⟨.seq (.ops [2] [⟨some 5, .bslice ty sz zero 0 [], none⟩, ⟨some 6, .mov (.t 0), none⟩, ⟨some 7, .app false ty sz bytes (.t 5) (.t 6), none⟩, ⟨some 2, .mov (.t 7), none⟩]) .ret, [.t 2], false, true, 0⟩
structure ClFn (P : Program) (f t : Nat) (ty sz bytes : Nat) (zero : List PV) : Prop where
  fn : ∃ (fn : Func) (e : TypeId), P.funcs[f]? = some fn ∧ fn.body = some (clBody t) ∧ fn.ntmps = 8 ∧ fn.results = #[.tmp 2] ∧ P.underlying t = some (.slice e) ∧ (fn.name == "runtime.NumGoroutine") = false
  tail : cCode P 8 2 (clTail t) = some (erase (clC ty sz bytes zero).body)
  zero : okRow sz zero = true ∧ 1 ≤ sz
def cloneO (ty sz bytes : Nat) : List AV → Heap → Option (Out × Heap) := fun args G => match args with
  | [.p (.sl rows)] => if okRows sz rows = true ∧ roomy rows.length bytes = true then match rows with
      | [] => some (.ret (.p (.sl [])), G)
      | _ :: _ => some (.ret (.arr G.length rows.length 1), G ++ [.arr ty sz rows 1 0])
    else none
  | _ => none
theorem cl_ev {ty sz bytes : Nat} {zero : List PV} (hz : okRow sz zero = true ∧ 1 ≤ sz) {rows : List (List PV)} (h1 : okRows sz rows = true) (h2 : roomy rows.length bytes = true) (G : Heap) :
    evCode pgE (evCall pgE 0) (evLoop pgE 0) G.length (clC ty sz bytes zero).body (initEnv 0 [.p (.sl rows)]) G = some (.ret, [(2, .arr G.length rows.length 1)], G ++ [.arr ty sz rows 1 0]) := by
  simp [evCode, evOps, clC, evOp, opd, opds, lk, put, restr, initEnv, guardOK, hz, evOp.fillRows, evApp, isStr, rowsOf, h1, h2, one]
theorem clone_ok (hm : hP.P.follows .mixedOrders = true) (hsz : hP.P.funcs.size ≤ dF) {f t ty sz bytes : Nat} {zero : List PV} (hc : ClFn hP.P f t ty sz bytes zero) {args : List AV} {G G' : Heap} {out : Out} (h : cloneO ty sz bytes args G = some (out, G'))
    {m : Mem} {μ : Mu} {w : World} {vargs : List Value} (hI : Inv m μ G w) (ht : ∀ id, id < G.length → ∃ l, μ id = some l) (hr : RL m μ (inf G) vargs args) : CallsIn (Fn none) 0 hP.P f vargs.toArray w (Back m μ G w G' out) := by
  unfold cloneO at h
  split at h
  · rename_i rows
    split at h
    · rename_i hrow
      obtain ⟨fn, e, e1, e2, e3, e4, e5, e6⟩ := hc.fn
      obtain ⟨v, vs, rfl, hv, hvs⟩ := hr.inv_cons
      rw [hvs.inv_nil]
      have hv' : RP m v (.sl rows) := by cases hv with | p _ _ h => exact h
      obtain ⟨a, cap, rfl, ha⟩ : ∃ a cap, v = .slice a rows.length cap ∧ (rows ≠ [] → a ≠ none) := by
        generalize hrr : rows = rr at hv'
        cases hv' with
        | sl a cap rows' sz f hcap hs ha hf =>
          subst hrr
          exact ⟨a, cap, rfl, fun hne => by obtain ⟨b, o, h, _⟩ := ha hne; rw [h]; simp⟩
      refine callsIn_of_wp_marks e1 e2 trivial ?_
      rw [e3, show (#[Value.slice a rows.length cap] ++ Array.replicate (8 - #[Value.slice a rows.length cap].size) undef : Array Value) = #[.slice a rows.length cap, undef, undef, undef, undef, undef, undef, undef] from rfl]
      refine wpIn_seq (wpIn_region ?_)
      refine wpOpsIn_to (a' := ⟨#[.slice a rows.length cap, undef, .slice none 0 0, undef, undef, undef, undef, undef], []⟩) (v := .slice none 0 0) rfl rfl rfl rfl rfl ?_
      refine wpIn_seq (wpIn_seq (wpIn_region ?_))
      refine wpOpsIn_to (a' := ⟨#[.slice a rows.length cap, undef, .slice none 0 0, .slice a rows.length cap, undef, undef, undef, undef], []⟩) (v := .slice a rows.length cap) rfl rfl rfl rfl rfl ?_
      refine wpOpsIn_to (a' := ⟨#[.slice a rows.length cap, undef, .slice none 0 0, .slice a rows.length cap, .bool a.isNone, undef, undef, undef], []⟩) (w' := w) (v := .bool a.isNone) rfl rfl rfl ?_ rfl ?_
      · have := Go.Lib.run_eql_slice_nil w t e a rows.length cap 0 0 e5
        simp [execOp, Act.eval, go_sem, this, clTest]
      show Code.wpIn _ _ _ _ _ _ _
      refine wpIn_cond (t := a.isNone) rfl ?_
      have hend : ∀ (tmps : Array Value) (G2 : Heap) (out2 : Out) (m2 : Mem) (μ2 : Mu) (w2 : World) (u : Value) (x : AV), Inv m2 μ2 G2 w2 → Stp m μ G w m2 μ2 G2 w2 → R m2 μ2 (inf G2) u x → tmps.getD 2 undef = u → (some (Out.ret x, G2) = some (out2, G')) → LeavesInM (Fn none) 0 hP.P fn tmps (Back m μ G w G' out2) [] .returning w2 := by
        intro tmps G2 out2 m2 μ2 w2 u x i1 i2 i3 hu hh
        cases hh
        refine ⟨u, ?_, m2, μ2, i1, i2, i3⟩
        refine results_run (vals := [u]) ?_
        rw [e4]
        simp [resOf, hu]
      cases a with
      | none =>
        have hrn : rows = [] := Classical.byContradiction fun hne => ha hne rfl
        subst hrn
        refine wpIn_seq (wpIn_region ?_)
        refine wpOpsIn_to (a' := ⟨#[.slice none 0 cap, undef, .slice none 0 0, .slice none 0 cap, .bool true, undef, undef, undef], []⟩) (v := .slice none 0 0) rfl rfl rfl rfl rfl ?_
        refine wpIn_ret ?_
        exact hend _ _ _ m μ w _ _ hI (.refl _ _ _ _) (.p _ _ (.sl none 0 [] 1 (fun _ _ => undef) (by simp) rfl (fun h => absurd rfl h) (fun i j r c h => by simp at h))) rfl h
      | some a =>
        refine wpIn_skip ?_
        have key : ∀ (μ1 : Mu) (G1 : Heap), Inv m μ1 G1 w → (∀ id, id < G1.length → ∃ l, μ1 id = some l) → R m μ1 (inf G1) (.slice (some a) rows.length cap) (.p (.sl rows)) →
            (∀ (tmps : Array Value) (m2 : Mem) (μ2 : Mu) (w2 : World), Inv m2 μ2 (G1 ++ [.arr ty sz rows 1 0]) w2 → Stp m μ1 G1 w m2 μ2 (G1 ++ [.arr ty sz rows 1 0]) w2 → R m2 μ2 (inf (G1 ++ [.arr ty sz rows 1 0])) (tmps.getD 2 undef) (.arr G1.length rows.length 1) → LeavesInM (Fn none) 0 hP.P fn tmps (Back m μ G w G' out) [] .returning w2) →
            (clTail t).wpIn (Fn none) 0 hP.P (bodyPostM (Fn none) 0 hP.P fn (Back m μ G w G' out)) ⟨#[.slice (some a) rows.length cap, undef, .slice none 0 0, .slice (some a) rows.length cap, .bool false, undef, undef, undef], []⟩ w := by
          intro μ1 G1 hI1 ht1 hv1 hfin
          let E : Ent := ⟨m, μ1, G1, w, 2⟩
          have hp : Pt 8 E G1 (initEnv 0 [.p (.sl rows)]) { tmps := #[.slice (some a) rows.length cap, undef, .slice none 0 0, .slice (some a) rows.length cap, .bool false, undef, undef, undef], defers := [] } w m μ1 :=
            ⟨hI1, ⟨Nat.le_refl 8, fun k' x hk' hd => by
              obtain ⟨_, hx⟩ := init_lk [.p (.sl rows)] 0 k' x hk'
              cases k' with
              | zero => simp at hx; subst hx; exact hv1
              | succ k' => simp at hx⟩, ⟨[], [], rfl, by simp, fun r h => by simp at h, rfl, fun _ => rfl, fun _ => rfl⟩, ht1, .refl _ _ _, .refl _ _ _⟩
          obtain ⟨s1, s2, s3⟩ := sound_all (pgE_ok hm hsz) 0
          refine code_sound (E := E) (md := 2) (ro := none) hm s1 s2 s3 ht1 (fun id l hl => hI1.dom id l hl) (by decide) rfl (fun _ => rfl) (clTail t) (clC ty sz bytes zero).body ⟨hc.tail, rfl⟩ (cl_ev hc.zero hrow.1 hrow.2 G1) hp (fun a' w' m' μ' hp' => ?_)
          obtain ⟨rs, d, q1, q2, q3, q4, q5, q6⟩ := hp'.dfr
          have hrs := q5 (by show 2 ≠ 0; simp)
          have hd : d = [] := q4
          subst hrs hd
          have hres := hp'.env.val 2 (.arr G1.length rows.length 1) rfl (by decide)
          show LeavesInM (Fn none) 0 hP.P fn a'.tmps (Back m μ G w G' out) a'.defers .returning w'
          rw [show a'.defers = [] from q1]
          exact hfin a'.tmps m' μ' w' hp'.inv (stp_of ht1 hp'.ext hp'.fr hp'.tot) hres
        cases rows with
        | nil =>
          refine key (fun _ => none) [] ⟨hI.known, fun i j l l' h => (by cases h), fun id o h => (by simp at h), fun id l h => (by cases h), hI.glob.sub fun id l h => (by cases h)⟩ (fun id h => by simp at h) (.p _ _ hv') (fun tmps m2 μ2 w2 i1 i2 i3 => ?_)
          have hb : RowKit.Below w.heap.size w w2 := ⟨i2.fr.os, i2.fr.tape, i2.fr.output, i2.fr.size, fun b hb => i2.fr.blk b hb (fun id loc h => by cases h)⟩
          obtain ⟨j1, j2⟩ := below_step hI hb
          generalize hu : tmps.getD 2 undef = u at i3
          cases i3 with
          | arr _ _ _ a2 n2 c2 loc g sz' k1 k2 k3 k4 =>
            simp only [List.nil_append, inf, List.length_nil, List.getElem?_cons_zero, Option.map_some, infO, Option.some.injEq, Prod.mk.injEq] at k2
            obtain ⟨rfl, rfl, rfl⟩ := k4 k2.1
            exact hend tmps G out m μ w2 _ _ j1 j2 (.p _ _ (.sl _ _ [] 1 (fun _ _ => undef) (by simp) rfl (fun h => absurd rfl h) (fun i j r c h => by simp at h))) hu h
        | cons r0 rr =>
          refine key μ G hI ht hv (fun tmps m2 μ2 w2 i1 i2 i3 => ?_)
          exact hend tmps _ out m2 μ2 w2 _ _ i1 i2 i3 rfl h
    · cases h
  · cases h
end Go.Proofs.Z
end
section
namespace Go.Proofs.Z
open Go Go.Proofs
theorem mixed : theP.P.follows .mixedOrders = true := by kernel_rfl
theorem fnsz : theP.P.funcs.size ≤ dF := by
  have h : Nat.ble theP.P.funcs.size dF = true := by kernel_rfl
  exact Nat.le_of_ble_eq_true h
theorem cl419 : ClFn theP.P 419 132 193 2 24 [.s [], .i .i64 0] :=
  ⟨⟨Tryz.f419, _, Tryz.func419, by kernel_rfl, by kernel_rfl, by kernel_rfl, Tryz.underlying132, by kernel_rfl⟩, by kernel_rfl, by kernel_rfl, by omega⟩
theorem clO419 : OrcOK 419 (cloneO 193 2 24) := ⟨entered_of (by kernel_rfl), fun args G out G' h m μ w vargs hI ht hr => clone_ok mixed fnsz cl419 h hI ht hr⟩
theorem cl464 : ClFn theP.P 464 131 126 2 16 [.i .i64 0, .i .i64 0] :=
  ⟨⟨Tryz.f464, _, Tryz.func464, by kernel_rfl, by kernel_rfl, by kernel_rfl, Tryz.underlying131, by kernel_rfl⟩, by kernel_rfl, by kernel_rfl, by omega⟩
theorem clO464 : OrcOK 464 (cloneO 126 2 16) := ⟨entered_of (by kernel_rfl), fun args G out G' h m μ w vargs hI ht hr => clone_ok mixed fnsz cl464 h hI ht hr⟩
theorem cl465 : ClFn theP.P 465 82 134 6 88 [.i .i64 0, .i .i64 0, .i .i64 0, .s [], .sl [], .sl []] :=
  ⟨⟨Tryz.f465, _, Tryz.func465, by kernel_rfl, by kernel_rfl, by kernel_rfl, Tryz.underlying82, by kernel_rfl⟩, by kernel_rfl, by kernel_rfl, by omega⟩
theorem clO465 : OrcOK 465 (cloneO 134 6 88) := ⟨entered_of (by kernel_rfl), fun args G out G' h m μ w vargs hI ht hr => clone_ok mixed fnsz cl465 h hI ht hr⟩
theorem cl481 : ClFn theP.P 481 77 79 4 56 [.i .i64 0, .i .i64 0, .s [], .sl []] :=
  ⟨⟨Tryz.f481, _, Tryz.func481, by kernel_rfl, by kernel_rfl, by kernel_rfl, Tryz.underlying77, by kernel_rfl⟩, by kernel_rfl, by kernel_rfl, by omega⟩
theorem clO481 : OrcOK 481 (cloneO 79 4 56) := ⟨entered_of (by kernel_rfl), fun args G out G' h m μ w vargs hI ht hr => clone_ok mixed fnsz cl481 h hI ht hr⟩
end Go.Proofs.Z
end
section
namespace Go.Proofs.Z
open Go Go.RowKit Go.Proofs Go.Sort
def idxP (p : Nat → Bool) : List UInt8 → Nat → Int
  | [], _ => -1
  | c :: r, k => match p c.toNat with
    | true => k
    | false => idxP p r (k + 1)
theorem decode_high (s : ByteArray) (i : Nat) (h : 128 ≤ (s.get! i).toNat) : 128 ≤ (Utf8.decode s i).1 := by
  unfold Utf8.decode
  have h' : ¬ (s.get! (i + 0)).toNat < 128 := by have : 128 ≤ (s.get! (i + 0)).toNat := h; omega
  dsimp only
  rw [if_neg h']
  repeat' split
  all_goals first
    | (simp [Utf8.runeError]; done)
    | (dsimp only; omega)
    | (rename_i hx; have hx := hx.1; dsimp only; omega)
    | (rename_i hx; simp only [Bool.and_eq_true, decide_eq_true_eq] at hx; have hx := hx.1; dsimp only; omega)
theorem decode_low (s : ByteArray) (i : Nat) (h : (s.get! i).toNat < 128) : Utf8.decode s i = ((s.get! i).toNat, 1) := by
  unfold Utf8.decode
  have h' : (s.get! (i + 0)).toNat < 128 := h
  dsimp only
  rw [if_pos h']
  rfl
theorem idxP_eq (p : Nat → Bool) (hp : ∀ n, 128 ≤ n → p n = true) (l : List UInt8) : ∀ (f pos : Nat), l.length ≤ pos + f → Lib.idxFuncFrom p true ⟨l.toArray⟩ f pos = idxP p (l.drop pos) pos
  | 0, pos, h => by
    rw [List.drop_eq_nil_of_le (by omega)]; rfl
  | f + 1, pos, h => by
    rw [Lib.idxFuncFrom]
    by_cases hlt : pos < l.length
    · rw [if_pos (by rw [szOf]; exact hlt)]
      have hd : l.drop pos = l[pos] :: l.drop (pos + 1) := List.drop_eq_getElem_cons hlt
      have hb : ((⟨l.toArray⟩ : ByteArray).get! pos) = l[pos] := by
        show l.toArray[pos]! = l[pos]
        rw [List.getElem!_toArray, getElem!_pos l pos hlt]
      rw [hd]
      by_cases hhi : 128 ≤ (l[pos]).toNat
      · rw [if_pos (hp _ (decode_high _ _ (by rw [hb]; exact hhi)))]
        simp only [idxP, hp _ hhi]
      · rw [decode_low _ _ (by rw [hb]; omega), hb]
        dsimp only
        cases hpp : p (l[pos]).toNat with
        | true => simp [idxP, hpp]
        | false =>
          simp only [Bool.false_eq_true, if_false, idxP, hpp]
          exact idxP_eq p hp l f (pos + 1) (by omega)
    · rw [if_neg (by rw [szOf]; exact hlt), List.drop_eq_nil_of_le (by omega)]; rfl
noncomputable def pg0 : Prg := mkPrg tbl []
theorem pg0_ok : PrgOK pg0 := ⟨mixed, fnsz, fun f c h => tbl_all.mem f c (mkPrg_code h), fun f F h => by have := mkPrg_orc h; simp at this⟩
theorem pred_grows {g : Nat} {p : Nat → Bool} (hg : okF g = true) (he : ∀ n : Nat, ∃ k, evCall pg0 k g [.p (.i .i32 n)] [] = some (.ret (.p (.b (p n))), [])) {m : Mem} {μ : Mu} {G : Heap} {w : World} (hI : Inv m μ G w) : PredGrows theP.P g #[] p w := by
  intro W x _ hb
  obtain ⟨k, hk⟩ := he x
  have hInv : Inv (fun _ _ => none) (fun _ => none) [] W := ⟨fun b o v h => (by cases h), fun i j l l' h => (by cases h), fun id o h => (by simp at h), fun id l h => (by cases h), fun g' p' hg' => by
    obtain ⟨⟨cs, T, f, h1, h2⟩, _⟩ := hI.glob g' p' hg'
    have hlt : g' < w.heap.size := (Array.getElem?_eq_some_iff.1 h1).1
    exact ⟨⟨cs, T, f, (hb.block g' hlt).trans h1, h2⟩, fun id l h => (by cases h)⟩⟩
  have hc := E_sound pg0_ok hg (E_iff.2 ⟨k, hk⟩) hInv (fun id h => (by simp at h)) (vargs := [Value.int .i32 x]) (.cons (.p _ _ (.i _ _)) .nil)
  refine Calls.mono ((callsIn_wide (n := 0)).1 hc) fun e w' hbk => ?_
  obtain ⟨m', μ', i1, i2, i3⟩ := hbk
  cases e with
  | returned v =>
    have hv : R m' μ' (inf []) v (.p (.b (p x))) := i3
    have hv2 : v = .bool (p x) := hv.bool_inv
    rw [hv2]
    exact ⟨rfl, ⟨i2.fr.os, i2.fr.tape, i2.fr.output, i2.fr.size, fun b hb' => i2.fr.blk b hb' (fun id loc h => (by cases h))⟩⟩
  | panicked ch => exact i3.elim
  | outgrown => exact i3.elim
end Go.Proofs.Z
end
section
namespace Go.Proofs.Z
open Go Go.RowKit Go.Proofs Go.Sort
def pW (c : Nat) : Bool := match Nat.ble 128 c with
  | true => true
  | false => !((Nat.ble 97 c && Nat.ble c 122) || ((Nat.ble 65 c && Nat.ble c 90) || (Nat.ble 48 c && Nat.ble c 57)))
def pC (c : Nat) : Bool := Nat.blt 57 c
def isB (x : Bool) : Option (Out × Heap) → Bool
  | some (.ret (.p (.b b)), []) => b == x
  | _ => false
theorem isB_eq {x : Bool} {o : Option (Out × Heap)} (h : isB x o = true) : o = some (.ret (.p (.b x)), []) := by
  unfold isB at h
  split at h
  · rename_i b; rw [eq_of_beq h]
  · cases h
theorem low252 : ((List.range 128).all fun n => isB (pW n) (evCall pg0 20 252 [.p (.i .i32 n)] [])) = true := by kernel_rfl
theorem low323 : ((List.range 128).all fun n => isB (pC n) (evCall pg0 20 323 [.p (.i .i32 n)] [])) = true := by kernel_rfl
theorem code252 : pg0.code 252 = some c252 := rfl
theorem code323 : pg0.code 323 = some c323 := rfl
theorem orc0 (f : Nat) : pg0.orc f = none := rfl
theorem high252 (n : Nat) (h : 128 ≤ n) : E pg0 252 [.p (.i .i32 n)] [] = some (.ret (.p (.b true)), []) := by
  rw [E_code rfl (orc0 _) code252 rfl]
  have h' : (127 : Int) < n := by omega
  simp [c252, evFun, evCode, evOps, evOp, evBin, guardOK, opd, opds, lk, put, restr, initEnv, evEnd, evRes, whole, norm, leave, Out.below, below, belowL, one, h', dK]
theorem high323 (n : Nat) (h : 128 ≤ n) : E pg0 323 [.p (.i .i32 n)] [] = some (.ret (.p (.b true)), []) := by
  rw [E_code rfl (orc0 _) code323 rfl]
  have h' : (57 : Int) < n := by omega
  simp [c323, evFun, evCode, evOps, evOp, evBin, guardOK, opd, opds, lk, put, restr, initEnv, evEnd, evRes, whole, norm, leave, Out.below, below, belowL, one, h', dK]
theorem pW_high (n : Nat) (h : 128 ≤ n) : pW n = true := by
  unfold pW
  have : Nat.ble 128 n = true := Nat.ble_eq_true_of_le h
  rw [this]
theorem pC_high (n : Nat) (h : 128 ≤ n) : pC n = true := by
  unfold pC
  rw [Nat.blt_eq]; omega
theorem at252 (n : Nat) : ∃ k, evCall pg0 k 252 [.p (.i .i32 n)] [] = some (.ret (.p (.b (pW n))), []) := by
  by_cases h : 128 ≤ n
  · rw [pW_high n h]; exact E_iff.1 (high252 n h)
  · exact ⟨20, isB_eq (List.all_eq_true.1 low252 n (List.mem_range.2 (by omega)))⟩
theorem at323 (n : Nat) : ∃ k, evCall pg0 k 323 [.p (.i .i32 n)] [] = some (.ret (.p (.b (pC n))), []) := by
  by_cases h : 128 ≤ n
  · rw [pC_high n h]; exact E_iff.1 (high323 n h)
  · exact ⟨20, isB_eq (List.all_eq_true.1 low323 n (List.mem_range.2 (by omega)))⟩
def indexO : Orc := fun args G => match args with
  | [.p (.s l), .fn f [] []] => match Nat.beq f 252 with
    | true => some (.ret (.p (.i .i64 (idxP pW l 0))), G)
    | false => match Nat.beq f 323 with
      | true => some (.ret (.p (.i .i64 (idxP pC l 0))), G)
      | false => none
  | _ => none
theorem indexO_ok : OrcOK 251 indexO := by
  refine ⟨entered_of (by kernel_rfl), fun args G out G' h m μ w vargs hI ht hr => ?_⟩
  unfold indexO at h
  split at h
  · rename_i l f
    obtain ⟨v, u, rfl, hv, hu⟩ := hr.two
    rw [hv.strv]
    obtain ⟨va, vb, rfl, ha, hb⟩ := hu.fnInv
    have hva : va = #[] := by apply Array.ext'; simpa using ha.inv_nil
    have hvb : vb = #[] := by apply Array.ext'; simpa using hb.inv_nil
    subst hva hvb
    have key : ∀ (g : Nat) (p : Nat → Bool), okF g = true → (∀ n, 128 ≤ n → p n = true) → (∀ n : Nat, ∃ k, evCall pg0 k g [.p (.i .i32 n)] [] = some (.ret (.p (.b (p n))), [])) → Entered theP.P g → CallsIn (Fn none) 0 theP.P 251 #[.string ⟨l.toArray⟩, .func (.func g) #[] #[]] w (Back m μ G w G (.ret (.p (.i .i64 (idxP p l 0))))) := by
      intro g p hg hp he hen
      have hc := Tryz.strings_IndexFunc_grows g #[] (fun args w => callFunc_run hen args w) p ⟨l.toArray⟩ w (pred_grows hg he hI)
      refine pure_orc hI (v := .int .i64 (Lib.idxFunc p true ⟨l.toArray⟩)) ?_ hc
      have := idxP_eq p hp l l.length 0 (by omega)
      rw [List.drop_zero] at this
      rw [show Lib.idxFunc p true ⟨l.toArray⟩ = idxP p l 0 from this]
      exact .p _ _ (.i _ _)
    split at h
    · rename_i hf
      cases h
      have hf := Nat.eq_of_beq_eq_true hf
      subst hf
      exact key 252 pW rfl pW_high at252 (entered_of (by kernel_rfl))
    · split at h
      · rename_i hf
        cases h
        have hf := Nat.eq_of_beq_eq_true hf
        subst hf
        exact key 323 pC rfl pC_high at323 (entered_of (by kernel_rfl))
      · cases h
  · cases h
end Go.Proofs.Z
end
