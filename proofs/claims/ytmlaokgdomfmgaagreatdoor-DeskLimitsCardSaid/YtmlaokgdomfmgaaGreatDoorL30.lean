/- A part of the proof. -/
import Derived.Test.YtmlaokgdomfmgaaGreatDoorL20
import Derived.KernelRfl
import Derived.Test.YtmlaokgdomfmgaaGreatDoorL21
import Derived.Test.YtmlaokgdomfmgaaGreatDoorL22
import Derived.Test.YtmlaokgdomfmgaaGreatDoorL23
import Derived.Test.YtmlaokgdomfmgaaGreatDoorL24
import Derived.Test.YtmlaokgdomfmgaaGreatDoorL25
import Derived.Test.YtmlaokgdomfmgaaGreatDoorL26
import Derived.Test.YtmlaokgdomfmgaaGreatDoorL27
import Derived.Test.YtmlaokgdomfmgaaGreatDoorL28
import Derived.Test.YtmlaokgdomfmgaaGreatDoorL29
set_option linter.all false
section
set_option maxRecDepth 100000
namespace Go.Proofs.Z
open Go
theorem do14 : evCall pgF 300 9 [dk9, ln14] [] = some (.ret (.tup [dk9, rs14]), []) := by kernel_rfl
end Go.Proofs.Z
end
section
set_option maxRecDepth 100000
namespace Go.Proofs.Z
open Go
theorem do15 : evCall pgF 300 9 [dk9, ln15] [] = some (.ret (.tup [dk9, rs15]), []) := by kernel_rfl
end Go.Proofs.Z
end
section
set_option maxRecDepth 100000
namespace Go.Proofs.Z
open Go
theorem do16 : evCall pgF 300 9 [dk9, ln16] [] = some (.ret (.tup [dk9, rs16]), []) := by kernel_rfl
end Go.Proofs.Z
end
section
set_option maxRecDepth 100000
namespace Go.Proofs.Z
open Go
theorem do17 : evCall pgF 300 9 [dk9, ln17] [] = some (.ret (.tup [dk10, rs17]), []) := by kernel_rfl
end Go.Proofs.Z
end
section
set_option maxRecDepth 100000
namespace Go.Proofs.Z
open Go
theorem do18 : evCall pgF 300 9 [dk10, ln18] [] = some (.ret (.tup [dk10, rs18]), []) := by kernel_rfl
end Go.Proofs.Z
end
section
set_option maxRecDepth 100000
namespace Go.Proofs.Z
open Go
theorem do19 : evCall pgF 300 9 [dk0, ln3] [] = some (.ret (.tup [dk0, rs19]), []) := by kernel_rfl
end Go.Proofs.Z
end
section
namespace Go.Proofs.Z
open Go
def doT : List (AV × AV × AV × AV) := [(dk0, ln0, dk1, rs0), (dk1, ln1, dk2, rs1), (dk2, ln2, dk2, rs2), (dk2, ln3, dk2, rs3), (dk2, ln4, dk2, rs4), (dk2, ln5, dk3, rs5), (dk3, ln6, dk4, rs6), (dk4, ln7, dk4, rs7), (dk4, ln8, dk4, rs8), (dk4, ln9, dk5, rs9), (dk5, ln10, dk6, rs10), (dk6, ln11, dk7, rs11), (dk7, ln12, dk8, rs12), (dk8, ln13, dk9, rs13), (dk9, ln14, dk9, rs14), (dk9, ln15, dk9, rs15), (dk9, ln16, dk9, rs16), (dk9, ln17, dk10, rs17), (dk10, ln18, dk10, rs18), (dk0, ln3, dk0, rs19)]
def doLook : List (AV × AV × AV × AV) → AV → AV → Option AV
  | [], _, _ => none
  | e :: r, d, l => match e.2.1.eq l with
    | true => match e.1.eq d with
      | true => some (.tup [e.2.2.1, e.2.2.2])
      | false => doLook r d l
    | false => doLook r d l
def doO : Orc := fun args G => match args, G with
  | [d, l], [] => match doLook doT d l with
    | some v => some (.ret v, [])
    | none => none
  | _, _ => none
theorem doLook_ok : ∀ {t : List (AV × AV × AV × AV)}, (∀ e ∈ t, E pgF 9 [e.1, e.2.1] [] = some (.ret (.tup [e.2.2.1, e.2.2.2]), [])) → ∀ {d l v : AV}, doLook t d l = some v → E pgF 9 [d, l] [] = some (.ret v, [])
  | [], _, d, l, v, h => by cases h
  | e :: r, ht, d, l, v, h => by
    unfold doLook at h
    have ih := doLook_ok (t := r) (fun e he => ht e (by simp [he])) (d := d) (l := l) (v := v)
    split at h
    · rename_i h1
      split at h
      · rename_i h2
        cases h
        have := ht e (by simp)
        rw [AV.eq_spec _ _ h1, AV.eq_spec _ _ h2] at this
        exact this
      · exact ih h
    · exact ih h
theorem doT_ok : ∀ e ∈ doT, E pgF 9 [e.1, e.2.1] [] = some (.ret (.tup [e.2.2.1, e.2.2.2]), []) := by
  intro e he
  simp only [doT, List.mem_cons, List.not_mem_nil, or_false] at he
  rcases he with rfl | rfl | rfl | rfl | rfl | rfl | rfl | rfl | rfl | rfl | rfl | rfl | rfl | rfl | rfl | rfl | rfl | rfl | rfl | rfl
  · exact E_iff.2 ⟨300, do0⟩
  · exact E_iff.2 ⟨300, do1⟩
  · exact E_iff.2 ⟨300, do2⟩
  · exact E_iff.2 ⟨300, do3⟩
  · exact E_iff.2 ⟨300, do4⟩
  · exact E_iff.2 ⟨300, do5⟩
  · exact E_iff.2 ⟨300, do6⟩
  · exact E_iff.2 ⟨300, do7⟩
  · exact E_iff.2 ⟨300, do8⟩
  · exact E_iff.2 ⟨300, do9⟩
  · exact E_iff.2 ⟨300, do10⟩
  · exact E_iff.2 ⟨300, do11⟩
  · exact E_iff.2 ⟨300, do12⟩
  · exact E_iff.2 ⟨300, do13⟩
  · exact E_iff.2 ⟨300, do14⟩
  · exact E_iff.2 ⟨300, do15⟩
  · exact E_iff.2 ⟨300, do16⟩
  · exact E_iff.2 ⟨300, do17⟩
  · exact E_iff.2 ⟨300, do18⟩
  · exact E_iff.2 ⟨300, do19⟩
theorem doO_ok : OrcOK 9 doO := by
  refine ⟨entered_of (by kernel_rfl), fun args G out G' h m μ w vargs hI ht hr => ?_⟩
  unfold doO at h
  split at h
  · split at h
    · rename_i v hv
      cases h
      exact E_sound pgF_ok rfl (doLook_ok doT_ok hv) hI ht hr
    · cases h
  · cases h
noncomputable def pgC : Prg := ⟨ft.get, fun f => match Nat.beq f 9 with | true => some doO | false => ot.get f⟩
theorem pgC_ok : PrgOK pgC := ⟨mixed, fnsz, fun f c h => ft_ok h, fun f F h => by
  change (match Nat.beq f 9 with | true => some doO | false => ot.get f) = some F at h
  split at h
  · rename_i hf
    cases h
    rw [Nat.eq_of_beq_eq_true hf]
    exact doO_ok
  · exact ot_ok h⟩
theorem fixed_ev : evCall pgC 300 7 [] [] = some (.ret (.p (.b true)), []) := by kernel_rfl
def fixO : Orc := fun args G => match args, G with
  | [], [] => some (.ret (.p (.b true)), [])
  | _, _ => none
theorem fixO_ok : OrcOK 7 fixO := by
  refine ⟨entered_of (by kernel_rfl), fun args G out G' h m μ w vargs hI ht hr => ?_⟩
  unfold fixO at h
  split at h
  · cases h
    exact E_sound pgC_ok rfl (E_iff.2 ⟨300, fixed_ev⟩) hI ht hr
  · cases h
noncomputable def pgD : Prg := ⟨ft.get, fun f => match Nat.beq f 7 with | true => some fixO | false => ot.get f⟩
theorem pgD_ok : PrgOK pgD := ⟨mixed, fnsz, fun f c h => ft_ok h, fun f F h => by
  change (match Nat.beq f 7 with | true => some fixO | false => ot.get f) = some F at h
  split at h
  · rename_i hf
    cases h
    rw [Nat.eq_of_beq_eq_true hf]
    exact fixO_ok
  · exact ot_ok h⟩
end Go.Proofs.Z
end
section
set_option maxHeartbeats 1000000
set_option maxRecDepth 100000
namespace Go.Proofs.Z
open Go Go.Proofs
attribute [local simp] k_nil k_ops k_opsg kG_true kG_false kO_val kO_pan k_seq kS_n kS_r kS_e kS_p k_o kR_n kR_p k_d kD_some k_s0 k_s kSn_s kSc_s k_ci k_cig kCI_v kCg_t kCg_f k_dc kDc_s kCk k_c kC_t kC_f k_b kB_n kB_r kB_p kB_e k_skip k_ret k_exit k_l kL_s kLp_n kLp_r kLp_e kLp_p k_f kF_s kDf_n kDf_r kDf_p k_end kV_f kV_t kN_s AV.eq_rfl ciReads reads oT oTs oO dK evOp evBin guardOK opd opds lk put restr initEnv evRes whole norm normL one Out.below below belowL belowObj evStore evLoad evLen AV.cells AV.flat PV.flat splice fillAt pcs isStr rowsOf Res.of evCmp evNilEq leavesEq leafEq asInt
theorem w64 (n : Int) (h0 : -9223372036854775808 ≤ n) (h1 : n ≤ 9223372036854775807) : IntKind.i64.wrap n = n := by
  unfold IntKind.wrap
  simp [IntKind.bits, IntKind.signed]
  omega
mutual
def pureA : AV → Bool
  | .p _ => true
  | .ag cs | .tup cs => pureL cs
  | .ifc _ v => pureA v
  | _ => false
def pureL : List AV → Bool
  | [] => true
  | a :: r => pureA a && pureL r
end
mutual
theorem exp_pure {keep : Bool} {e : Exp} : ∀ {a : AV}, pureA a = true → exp keep e a = some (a, e)
  | .p x, _ => by simp [exp]
  | .ag cs, h => by simp only [pureA] at h; simp only [exp]; rw [expL_pure h]
  | .tup cs, h => by simp only [pureA] at h; simp only [exp]; rw [expL_pure h]
  | .ifc t v, h => by simp only [pureA] at h; simp only [exp]; rw [exp_pure h]
theorem expL_pure {keep : Bool} {e : Exp} : ∀ {l : List AV}, pureL l = true → expL keep e l = some (l, e)
  | [], _ => by simp [expL]
  | a :: r, h => by
    simp only [pureL, Bool.and_eq_true] at h
    simp only [expL]
    rw [exp_pure h.1]
    dsimp only
    rw [expL_pure h.2]
end
mutual
theorem back_pure {ids : List Nat} {base : Nat} : ∀ {a : AV}, pureA a = true → back ids base a = a
  | .p x, _ => by simp [back]
  | .ag cs, h => by simp only [pureA] at h; simp only [back]; rw [backL_pure h]
  | .tup cs, h => by simp only [pureA] at h; simp only [back]; rw [backL_pure h]
  | .ifc t v, h => by simp only [pureA] at h; simp only [back]; rw [back_pure h]
theorem backL_pure {ids : List Nat} {base : Nat} : ∀ {l : List AV}, pureL l = true → backL ids base l = l
  | [], _ => by simp [backL]
  | a :: r, h => by
    simp only [pureL, Bool.and_eq_true] at h
    simp only [backL]
    rw [back_pure h.1, backL_pure h.2]
end
theorem at_pure {f : Nat} {args : List AV} {v : AV} (ha : pureL args = true) (h : E pgD f args [] = some (.ret v, [])) (hv : pureA v = true) (G : Heap) : evCallAt pgD (E pgD) f args G = some (.ret v, G) := by
  unfold evCallAt
  rw [expL_pure ha]
  dsimp only
  unfold expObjs
  dsimp only
  rw [List.getElem?_nil]
  dsimp only
  rw [h]
  dsimp only
  simp [Out.back, back_pure hv, setAll]
theorem s124 (n a b : Int) : E pgD 124 [.p (.i .i64 n), .p (.i .i64 a), .p (.i .i64 b)] [] = some (.ret (.p (.b (decide (a ≤ n ∧ n ≤ b)))), []) := by
  rw [E_code (pg := pgD) (x := c124) rfl rfl rfl rfl]
  by_cases h1 : a ≤ n
  · simp [c124, h1, leave]
  · simp [c124, h1, leave]
theorem t124 (n a b : Int) (G : Heap) : evCallAt pgD (E pgD) 124 [.p (.i .i64 n), .p (.i .i64 a), .p (.i .i64 b)] G = some (.ret (.p (.b (decide (a ≤ n ∧ n ≤ b)))), G) := at_pure rfl (s124 n a b) rfl G
def mayL (a b c d : Int) : Bool := decide (1 ≤ a ∧ a ≤ 200) && (decide (2 ≤ b ∧ b ≤ 4000) && (decide (0 ≤ c ∧ c ≤ 100000) && decide (0 ≤ d ∧ d ≤ 100000)))
theorem s74 (a b c d : Int) : E pgD 74 [.ag [.p (.i .i64 a), .p (.i .i64 b), .p (.i .i64 c), .p (.i .i64 d)]] [] = some (.ret (.p (.b (mayL a b c d))), []) := by
  rw [E_code (pg := pgD) (x := c74) rfl rfl rfl rfl]
  unfold mayL
  by_cases h1 : 1 ≤ a ∧ a ≤ 200
  · by_cases h2 : 2 ≤ b ∧ b ≤ 4000
    · by_cases h3 : 0 ≤ c ∧ c ≤ 100000
      · simp [c74, t124, h1, h2, h3, leave]
      · simp [c74, t124, h1, h2, h3, leave]
    · simp [c74, t124, h1, h2, leave]
  · simp [c74, t124, h1, leave]
theorem t74 (a b c d : Int) (G : Heap) : evCallAt pgD (E pgD) 74 [.ag [.p (.i .i64 a), .p (.i .i64 b), .p (.i .i64 c), .p (.i .i64 d)]] G = some (.ret (.p (.b (mayL a b c d))), G) := at_pure rfl (s74 a b c d) rfl G
theorem s16 (a b c d : Int) : E pgD 16 [.ag [.p (.i .i64 a), .p (.i .i64 b), .p (.i .i64 c), .p (.i .i64 d)]] [] = some (.ret (.p (.b (mayL a b c d))), []) := by
  rw [E_code (pg := pgD) (x := c16) rfl rfl rfl rfl]
  unfold mayL
  by_cases h1 : 1 ≤ a
  · by_cases h2 : a ≤ 200
    · by_cases h3 : 2 ≤ b
      · by_cases h4 : b ≤ 4000
        · by_cases h5 : 0 ≤ c
          · by_cases h6 : c ≤ 100000
            · by_cases h7 : 0 ≤ d
              · simp [c16, h1, h2, h3, h4, h5, h6, h7, leave]
              · simp [c16, h1, h2, h3, h4, h5, h6, h7, leave]
            · simp [c16, h1, h2, h3, h4, h5, h6, leave]
          · simp [c16, h1, h2, h3, h4, h5, leave]
        · simp [c16, h1, h2, h3, h4, leave]
      · simp [c16, h1, h2, h3, leave]
    · simp [c16, h1, h2, leave]
  · simp [c16, h1, leave]
theorem t16 (a b c d : Int) (G : Heap) : evCallAt pgD (E pgD) 16 [.ag [.p (.i .i64 a), .p (.i .i64 b), .p (.i .i64 c), .p (.i .i64 d)]] G = some (.ret (.p (.b (mayL a b c d))), G) := at_pure rfl (s16 a b c d) rfl G
def fewL (b c d : Int) : Bool := decide (b ≤ 400) && (decide (c ≤ 150) && decide (d ≤ 80))
theorem s56 (a b c d : Int) : E pgD 56 [.ag [.p (.i .i64 a), .p (.i .i64 b), .p (.i .i64 c), .p (.i .i64 d)]] [] = some (.ret (.p (.b (fewL b c d))), []) := by
  rw [E_code (pg := pgD) (x := c56) rfl rfl rfl rfl]
  unfold fewL
  by_cases h1 : b ≤ 400
  · by_cases h2 : c ≤ 150
    · simp [c56, h1, h2, leave]
    · simp [c56, h1, h2, leave]
  · simp [c56, h1, leave]
theorem t56 (a b c d : Int) (G : Heap) : evCallAt pgD (E pgD) 56 [.ag [.p (.i .i64 a), .p (.i .i64 b), .p (.i .i64 c), .p (.i .i64 d)]] G = some (.ret (.p (.b (fewL b c d))), G) := at_pure rfl (s56 a b c d) rfl G
end Go.Proofs.Z
end
section
set_option maxHeartbeats 1000000
set_option maxRecDepth 100000
namespace Go.Proofs.Z
open Go Go.Proofs
attribute [local simp] k_nil k_ops k_opsg kG_true kG_false kO_val kO_pan k_seq kS_n kS_r kS_e kS_p k_o kR_n kR_p k_d kD_some k_s0 k_s kSn_s kSc_s k_ci k_cig kCI_v kCg_t kCg_f k_dc kDc_s kCk k_c kC_t kC_f k_b kB_n kB_r kB_p kB_e k_skip k_ret k_exit k_l kL_s kLp_n kLp_r kLp_e kLp_p k_f kF_s kDf_n kDf_r kDf_p k_end kV_f kV_t kN_s AV.eq_rfl ciReads reads oT oTs oO dK evOp evBin guardOK opd opds lk put restr initEnv evRes whole norm normL one Out.below below belowL belowObj evStore evLoad evLen AV.cells AV.flat PV.flat splice fillAt pcs isStr rowsOf Res.of evCmp evNilEq leavesEq leafEq asInt
def hasP (s p : List UInt8) : Bool := decide (p.length ≤ s.length) && decide (s.take p.length = p)
theorem s114 (s p : List UInt8) : E pgD 114 [.p (.s s), .p (.s p)] [] = some (.ret (.p (.b (hasP s p))), []) := by
  rw [E_code (pg := pgD) (x := c114) rfl rfl rfl rfl]
  unfold hasP
  by_cases h1 : p.length ≤ s.length
  · have h1' : (p.length : Int) ≤ (s.length : Int) := by omega
    simp [c114, h1, h1', evSub, leave]
  · have h1' : ¬ (p.length : Int) ≤ (s.length : Int) := by omega
    simp [c114, h1, h1', leave]
theorem t114 (s p : List UInt8) (G : Heap) : evCallAt pgD (E pgD) 114 [.p (.s s), .p (.s p)] G = some (.ret (.p (.b (hasP s p))), G) := at_pure rfl (s114 s p) rfl G
def cutP (s p : List UInt8) : List UInt8 × Bool := match hasP s p with
  | true => (s.drop p.length, true)
  | false => (s, false)
theorem s67 (s p : List UInt8) : E pgD 67 [.p (.s s), .p (.s p)] [] = some (.ret (.tup [.p (.s (cutP s p).1), .p (.b (cutP s p).2)]), []) := by
  rw [E_code (pg := pgD) (x := c67) rfl rfl rfl rfl]
  unfold cutP
  cases h : hasP s p with
  | false => simp [c67, t114, h, leave]
  | true =>
    have h' := h
    simp only [hasP, Bool.and_eq_true, decide_eq_true_eq] at h'
    have h1' : (p.length : Int) ≤ (s.length : Int) := by omega
    simp [c67, t114, h, h1', evSub, leave]
theorem t67 (s p : List UInt8) (G : Heap) : evCallAt pgD (E pgD) 67 [.p (.s s), .p (.s p)] G = some (.ret (.tup [.p (.s (cutP s p).1), .p (.b (cutP s p).2)]), G) := at_pure rfl (s67 s p) rfl G
theorem s34 (s p : List UInt8) : E pgD 34 [.p (.s s), .p (.s p)] [] = some (.ret (.tup [.p (.s (cutP s p).1), .p (.b (cutP s p).2)]), []) := by
  rw [E_code (pg := pgD) (x := c34) rfl rfl rfl rfl]
  simp [c34, t67, leave]
theorem t34 (s p : List UInt8) (G : Heap) : evCallAt pgD (E pgD) 34 [.p (.s s), .p (.s p)] G = some (.ret (.tup [.p (.s (cutP s p).1), .p (.b (cutP s p).2)]), G) := at_pure rfl (s34 s p) rfl G
def dg (n : Nat) : List UInt8 := Lib.decDigits n
theorem dg_lt {n : Nat} (h : n < 10) : dg n = [UInt8.ofNat (48 + n)] := by unfold dg; rw [Lib.decDigits, dif_pos h]
theorem dg_ge {n : Nat} (h : ¬ n < 10) : dg n = dg (n / 10) ++ [UInt8.ofNat (48 + n % 10)] := by unfold dg; rw [Lib.decDigits, dif_neg h]
theorem dg_len : ∀ (k n : Nat), n < 10 ^ k → 1 ≤ k → (dg n).length ≤ k
  | 0, n, _, h => by omega
  | k + 1, n, h, _ => by
    by_cases h1 : n < 10
    · rw [dg_lt h1]; simp
    · rw [dg_ge h1]
      have hk : 1 ≤ k := by
        rcases Nat.eq_zero_or_pos k with h0 | h0
        · subst h0; simp at h; omega
        · exact h0
      have := dg_len k (n / 10) (by rw [Nat.pow_succ] at h; omega) hk
      simp; omega
theorem dg_dig : ∀ (n : Nat) (c : UInt8), c ∈ dg n → 48 ≤ c.toNat ∧ c.toNat ≤ 57 := by
  intro n
  induction n using Nat.strongRecOn with
  | ind n ih =>
    intro c hc
    by_cases h1 : n < 10
    · rw [dg_lt h1] at hc
      simp at hc
      subst hc
      simp
      omega
    · rw [dg_ge h1] at hc
      rcases List.mem_append.1 hc with hc | hc
      · exact ih (n / 10) (by omega) c hc
      · simp at hc
        subst hc
        simp
        omega
theorem dg_ne (n : Nat) : dg n ≠ [] := by
  by_cases h1 : n < 10
  · rw [dg_lt h1]; simp
  · rw [dg_ge h1]; simp
theorem s15 : ∀ (n : Nat), n < 10 ^ 18 → E pgD 15 [.p (.i .i64 n)] [] = some (.ret (.p (.s (dg n))), []) := by
  intro n
  induction n using Nat.strongRecOn with
  | ind n ih =>
    intro hn
    rw [E_code (pg := pgD) (x := c15) rfl rfl rfl rfl]
    have h0 : ¬ (n : Int) < 0 := by omega
    have hm : ((n : Int).tmod 10) = ((n % 10 : Nat) : Int) := rfl
    have hq : ((n : Int).tdiv 10) = ((n / 10 : Nat) : Int) := rfl
    have hr9 : n % 10 ≤ 9 := by omega
    have hq9 : n / 10 < 10 ^ 17 := by omega
    have hlt : ¬ n < 10 → n / 10 < n := by omega
    by_cases h1 : n < 10
    · have h1' : ¬ (10 : Int) ≤ (n : Int) := by omega
      have e : n % 10 = n := by omega
      rw [dg_lt h1]
      rw [e] at hm
      have hw : IntKind.u8.wrap (48 + (n : Int)) = 48 + (n : Int) := by
        unfold IntKind.wrap
        simp [IntKind.bits, IntKind.signed]
        omega
      have hw2 : IntKind.i64.wrap (48 + (n : Int)) = 48 + (n : Int) := w64 _ (by omega) (by omega)
      have hn2 : (48 + (n : Int)).toNat = 48 + n := by omega
      simp [c15, h0, h1', hm, hw, hw2, hn2, evOp.fillRows, normP, toP, toPL, okRow, bytesOf, leave]
    · have h1' : (10 : Int) ≤ (n : Int) := by omega
      rw [dg_ge h1]
      have ih' := ih (n / 10) (hlt h1) (by omega)
      have hl := dg_len 18 (n / 10) (by omega) (by omega)
      generalize n % 10 = r at *
      generalize n / 10 = q at *
      have ht : ∀ G, evCallAt pgD (E pgD) 15 [AV.p (.i .i64 (q : Int))] G = some (.ret (.p (.s (dg q))), G) := fun G => at_pure rfl ih' rfl G
      have hw : IntKind.u8.wrap (48 + (r : Int)) = 48 + (r : Int) := by
        unfold IntKind.wrap
        simp [IntKind.bits, IntKind.signed]
        omega
      have hw2 : IntKind.i64.wrap (48 + (r : Int)) = 48 + (r : Int) := w64 _ (by omega) (by omega)
      have hw3 : IntKind.i64.wrap (q : Int) = (q : Int) := w64 _ (by omega) (by omega)
      have hn2 : (48 + (r : Int)).toNat = 48 + r := by omega
      have hr : roomy ((dg q).length + 1) 1 = true := by simp [roomy]; omega
      simp [c15, h0, h1', hm, hq, hw, hw2, hw3, hn2, ht, evOp.fillRows, normP, toP, toPL, okRow, bytesOf, hr, leave]
end Go.Proofs.Z
end
section
set_option maxHeartbeats 1000000
set_option maxRecDepth 100000
namespace Go.Proofs.Z
open Go Go.Proofs
attribute [local simp] k_nil k_ops k_opsg kG_true kG_false kO_val kO_pan k_seq kS_n kS_r kS_e kS_p k_o kR_n kR_p k_d kD_some k_s0 k_s kSn_s kSc_s k_ci k_cig kCI_v kCg_t kCg_f k_dc kDc_s kCk k_c kC_t kC_f k_b kB_n kB_r kB_p kB_e k_skip k_ret k_exit k_l kL_s kLp_n kLp_r kLp_e kLp_p k_f kF_s kDf_n kDf_r kDf_p k_end kV_f kV_t kN_s AV.eq_rfl ciReads reads oT oTs oO dK evOp evBin guardOK opd opds lk put restr initEnv evRes whole norm normL one Out.below below belowL belowObj evStore evLoad evLen AV.cells AV.flat PV.flat splice fillAt pcs isStr rowsOf Res.of evCmp evNilEq leavesEq leafEq asInt
theorem parse_app : ∀ (l : List UInt8) (acc v : Nat) (c : UInt8), Lib.parseUint10 acc l = .ok v → 48 ≤ c.toNat → c.toNat ≤ 57 → v < 10 ^ 17 → Lib.parseUint10 acc (l ++ [c]) = .ok (v * 10 + (c.toNat - 48))
  | [], acc, v, c, h, h1, h2, h3 => by
    simp only [Lib.parseUint10] at h
    cases h
    simp only [List.nil_append, Lib.parseUint10]
    rw [if_pos ⟨h1, h2⟩, if_neg (by omega), if_neg (by omega)]
  | x :: r, acc, v, c, h, h1, h2, h3 => by
    simp only [Lib.parseUint10] at h
    simp only [List.cons_append, Lib.parseUint10]
    split at h
    · rename_i hx
      rw [if_pos hx]
      split at h
      · cases h
      · rename_i ha
        rw [if_neg ha]
        split at h
        · cases h
        · rename_i hb
          rw [if_neg hb]
          exact parse_app r _ v c h h1 h2 h3
    · cases h
theorem parse_dg : ∀ n : Nat, n < 10 ^ 18 → Lib.parseUint10 0 (dg n) = .ok n := by
  intro n
  induction n using Nat.strongRecOn with
  | ind n ih =>
    intro hn
    by_cases h1 : n < 10
    · rw [dg_lt h1]
      have e : (UInt8.ofNat (48 + n)).toNat = 48 + n := by simp; omega
      simp only [Lib.parseUint10, e]
      rw [if_pos (by omega), if_neg (by omega), if_neg (by omega)]
      congr 1
      omega
    · rw [dg_ge h1]
      have e : (UInt8.ofNat (48 + n % 10)).toNat = 48 + n % 10 := by simp; omega
      rw [parse_app (dg (n / 10)) 0 (n / 10) _ (ih (n / 10) (by omega) (by omega)) (by rw [e]; omega) (by rw [e]; omega) (by omega), e]
      congr 1
      omega
theorem atoi_dg (n : Nat) (hn : n < 10 ^ 18) : Lib.atoiAll (dg n) = .ok (n : Int) := by
  have h := parse_dg n hn
  have hd := dg_dig n
  have hne := dg_ne n
  generalize dg n = l at *
  cases l with
  | nil => exact absurd rfl hne
  | cons c r =>
    have hc := hd c (by simp)
    unfold Lib.atoiAll
    have hx : ¬ (c.toNat = 43 ∨ c.toNat = 45) := by omega
    simp only [Lib.parseMag, if_neg hx]
    rw [if_neg (List.cons_ne_nil c r), h]
    dsimp only
    have h1 : ¬ (¬ c.toNat = 45 ∧ 9223372036854775808 ≤ n) := by omega
    have h2 : ¬ (c.toNat = 45 ∧ 9223372036854775808 < n) := by omega
    rw [if_neg h1, if_neg h2, if_neg (by omega)]
theorem itoa_dg (n : Nat) (hn : n < 10 ^ 18) : itoaK (n : Int) = dg n := by
  rw [itoaK_eq (by omega) (by omega)]
  unfold Lib.itoa dg
  rw [if_neg (by omega)]
  rfl
theorem split_dg (n : Nat) : splitOn 32 (dg n) = [dg n] := by
  have hd := dg_dig n
  generalize dg n = l at *
  induction l with
  | nil => rfl
  | cons c r ih =>
    have hc := hd c (by simp)
    have e : Nat.beq c.toNat (32 : UInt8).toNat = false := by
      cases hb : Nat.beq c.toNat (32 : UInt8).toNat with
      | false => rfl
      | true => have := Nat.eq_of_beq_eq_true hb; simp at this; omega
    simp only [splitOn, e]
    rw [ih fun c hc => hd c (by simp [hc])]
theorem e123 (n : Nat) (hn : n < 10 ^ 18) (G : Heap) : evCallAt pgD (E pgD) 123 [.p (.s (dg n))] G = some (.ret (.tup [.p (.i .i64 n), .p .inil]), G) := by
  refine at_pure rfl ?_ rfl G
  rw [E_orc (pg := pgD) (F := atoiO) rfl rfl]
  have hl := dg_len 18 n hn (by omega)
  simp only [atoiO]
  rw [if_pos (by omega), atoi_dg n hn]
theorem e46 (n : Nat) (hn : n < 10 ^ 18) (G : Heap) : evCallAt pgD (E pgD) 46 [.p (.i .i64 n)] G = some (.ret (.p (.s (dg n))), G) := by
  refine at_pure rfl ?_ rfl G
  rw [E_orc (pg := pgD) (F := itoaO) rfl rfl]
  simp only [itoaO]
  rw [if_pos (by omega), itoa_dg n hn]
theorem s71 (n : Nat) (hn : n < 10 ^ 6) : E pgD 71 [.p (.s (dg n))] [] = some (.ret (.tup [.p (.i .i64 n), .p .inil]), []) := by
  rw [E_code (pg := pgD) (x := c71) rfl rfl rfl rfl]
  have h0 : ¬ (n : Int) < 0 := by omega
  have hl := dg_len 6 n hn (by omega)
  have hl' : ¬ (6 : Int) < ((dg n).length : Int) := by omega
  have h1 := e123 n (by omega)
  have h2 := e46 n (by omega)
  simp [c71, h0, hl', h1, h2, leave]
theorem t71 (n : Nat) (hn : n < 10 ^ 6) (G : Heap) : evCallAt pgD (E pgD) 71 [.p (.s (dg n))] G = some (.ret (.tup [.p (.i .i64 n), .p .inil]), G) := at_pure rfl (s71 n hn) rfl G
structure Dk where
  t : List UInt8
  dp : Int
  nd : Int
  fu : Int
  st : Int
  pk : List (List PV)
  lk : Int
  le : Int
  la : Int
  sk : Int
  sn : Int
  sm : List UInt8
  sl : List (List PV)
  t0 : Int
  t1 : Int
  t2 : Int
  t3 : Int
  t4 : Int
  t5 : Int
  t6 : Int
  t7 : Int
  t8 : Int
  ls : Int
  rn : Int
abbrev Dk.cs (d : Dk) : List AV := [.p (.s d.t), .p (.i .i64 d.dp), .p (.i .i64 d.nd), .p (.i .i64 d.fu), .p (.i .i64 d.st), .p (.sl d.pk), .p (.i .i64 d.lk), .p (.i .i64 d.le), .p (.i .i64 d.la), .p (.i .i64 d.sk), .p (.i .i64 d.sn), .p (.s d.sm), .p (.sl d.sl),
  .p (.i .i64 d.t0), .p (.i .i64 d.t1), .p (.i .i64 d.t2), .p (.i .i64 d.t3), .p (.i .i64 d.t4), .p (.i .i64 d.t5), .p (.i .i64 d.t6), .p (.i .i64 d.t7), .p (.i .i64 d.t8), .p (.i .i64 d.ls), .p (.i .i64 d.rn)]
def wDepth : List UInt8 := [100, 101, 112, 116, 104]
def wSteps : List UInt8 := [115, 116, 101, 112, 115]
theorem s73s (d : Dk) : E pgD 73 [.ptr 0 1, .p (.s wSteps)] [.box 35 d.cs] = some (.ret (.ptr 0 4), [.box 35 d.cs]) := by
  rw [E_code (pg := pgD) (x := c73) rfl rfl rfl rfl]
  simp [c73, wSteps, leave]
theorem s73d (d : Dk) : E pgD 73 [.ptr 0 1, .p (.s wDepth)] [.box 35 d.cs] = some (.ret (.ptr 0 1), [.box 35 d.cs]) := by
  rw [E_code (pg := pgD) (x := c73) rfl rfl rfl rfl]
  simp [c73, wDepth, leave]
end Go.Proofs.Z
end
section
set_option maxHeartbeats 1000000
set_option maxRecDepth 100000
namespace Go.Proofs.Z
open Go Go.Proofs
attribute [local simp] k_nil k_ops k_opsg kG_true kG_false kO_val kO_pan k_seq kS_n kS_r kS_e kS_p k_o kR_n kR_p k_d kD_some k_s0 k_s kSn_s kSc_s k_ci k_cig kCI_v kCg_t kCg_f k_dc kDc_s kCk k_c kC_t kC_f k_b kB_n kB_r kB_p kB_e k_skip k_ret k_exit k_l kL_s kLp_n kLp_r kLp_e kLp_p k_f kF_s kDf_n kDf_r kDf_p k_end kV_f kV_t kN_s AV.eq_rfl ciReads reads oT oTs oO dK evOp evBin guardOK opd opds lk put restr initEnv evRes whole norm normL one Out.below below belowL belowObj evStore evLoad evLen AV.cells AV.flat PV.flat splice fillAt pcs isStr rowsOf Res.of evCmp evNilEq leavesEq leafEq asInt
mutual
theorem norm_pure {G : Heap} : ∀ {a : AV}, pureA a = true → norm G a = some (a, G)
  | .p x, _ => by simp [norm]
  | .ag cs, h => by simp only [pureA] at h; simp only [norm]; rw [normL_pure h]
  | .tup cs, h => by simp only [pureA] at h; simp only [norm]; rw [normL_pure h]
  | .ifc t v, h => by simp only [pureA] at h; simp only [norm]; rw [norm_pure h]
theorem normL_pure {G : Heap} : ∀ {l : List AV}, pureL l = true → normL G l = some (l, G)
  | [], _ => by simp [normL]
  | a :: r, h => by
    simp only [pureL, Bool.and_eq_true] at h
    simp only [normL]
    rw [norm_pure h.1]
    dsimp only
    rw [normL_pure h.2]
end
mutual
theorem below_pure {n : Nat} : ∀ {a : AV}, pureA a = true → below n a = true
  | .p x, _ => by simp [below]
  | .ag cs, h => by simp only [pureA] at h; simp only [below]; exact belowL_pure h
  | .tup cs, h => by simp only [pureA] at h; simp only [below]; exact belowL_pure h
  | .ifc t v, h => by simp only [pureA] at h; simp only [below]; exact below_pure h
theorem belowL_pure {n : Nat} : ∀ {l : List AV}, pureL l = true → belowL n l = true
  | [], _ => by simp [belowL]
  | a :: r, h => by
    simp only [pureL, Bool.and_eq_true] at h
    simp only [belowL]
    rw [below_pure h.1, belowL_pure h.2]; rfl
end
theorem pure_cs (d : Dk) : pureL d.cs = true := rfl
theorem t73 {w : List UInt8} {k : Nat} (d : Dk) (h : E pgD 73 [.ptr 0 1, .p (.s w)] [.box 35 d.cs] = some (.ret (.ptr 0 k), [.box 35 d.cs])) (G : Heap) :
    evCallAt pgD (E pgD) 73 [.ptr 0 1, .p (.s w)] (.box 35 d.cs :: G) = some (.ret (.ptr 0 k), .box 35 d.cs :: G) := by
  have e1 : ∀ e : Exp, expL true e d.cs = some (d.cs, e) := fun e => expL_pure (pure_cs d)
  have e2 : backL [0] (G.length + 1) d.cs = d.cs := backL_pure (pure_cs d)
  unfold evCallAt
  simp only [(show keepA pgD 73 = false from rfl), expL, exp, Exp.id, idxOf, expObjs, List.getElem?_cons_zero, e1, List.nil_append, List.length_nil, List.length_cons]
  simp [expObjs, e1, h, back, backId, setAll, backObj, e2, Out.back]
def tOk : AV := .p (.s [111, 107])
def eArg : AV := .ifc 63 (.ag [.p (.i .i64 1), .p (.s [])])
theorem s38s (d : Dk) (n : Nat) (hn : n < 10 ^ 6) : E pgD 38 [.ag d.cs, .p (.sl [[.s wSteps], [.s (dg n)]])] [] =
    some (.ret (match mayL d.dp d.nd d.fu n with
      | true => .tup [.ag { d with st := n }.cs, .p (.s [111, 107]), .p .inil]
      | false => .tup [.ag { d with st := n }.cs, .p (.s []), eArg]), []) := by
  rw [E_code (pg := pgD) (x := c38) rfl rfl rfl rfl]
  have h1 := t71 n hn
  have h2 := t73 d (s73s d)
  have h3 := t74 d.dp d.nd d.fu n
  cases h : mayL d.dp d.nd d.fu n with
  | true =>
    rw [h] at h3
    simp [c38, h1, h2, h3, okRow, eArg, leave]
  | false =>
    rw [h] at h3
    simp [c38, h1, h2, h3, okRow, eArg, leave]
theorem s38d (d : Dk) (n : Nat) (hn : n < 10 ^ 6) : E pgD 38 [.ag d.cs, .p (.sl [[.s wDepth], [.s (dg n)]])] [] =
    some (.ret (match mayL n d.nd d.fu d.st with
      | true => .tup [.ag { d with dp := n }.cs, .p (.s [111, 107]), .p .inil]
      | false => .tup [.ag { d with dp := n }.cs, .p (.s []), eArg]), []) := by
  rw [E_code (pg := pgD) (x := c38) rfl rfl rfl rfl]
  have h1 := t71 n hn
  have h2 := t73 d (s73d d)
  have h3 := t74 n d.nd d.fu d.st
  cases h : mayL n d.nd d.fu d.st with
  | true =>
    rw [h] at h3
    simp [c38, h1, h2, h3, okRow, eArg, leave]
  | false =>
    rw [h] at h3
    simp [c38, h1, h2, h3, okRow, eArg, leave]
theorem split_wd {w : List UInt8} (n : Nat) (hw : w = wSteps ∨ w = wDepth) : splitOn 32 (w ++ 32 :: dg n) = [w, dg n] := by
  rcases hw with rfl | rfl <;> simp [wSteps, wDepth, splitOn, split_dg]
theorem e36 {w : List UInt8} (n : Nat) (hn : n < 10 ^ 6) (hw : w = wSteps ∨ w = wDepth) (G : Heap) : evCallAt pgD (E pgD) 36 [.p (.s (w ++ 32 :: dg n)), .p (.s [32])] G = some (.ret (.p (.sl [[.s w], [.s (dg n)]])), G) := by
  refine at_pure rfl ?_ rfl G
  rw [E_orc (pg := pgD) (F := splitO) rfl rfl]
  have hl := dg_len 6 n hn (by omega)
  have hl2 : (w ++ 32 :: dg n).length < 4294967281 := by
    rcases hw with rfl | rfl <;> simp [wSteps, wDepth] <;> omega
  simp only [splitO]
  rw [if_pos hl2, split_wd n hw]
  rfl
theorem s19 {w : List UInt8} (d d' : Dk) (n : Nat) (hn : n < 10 ^ 6) (hw : w = wSteps ∨ w = wDepth) {tx er : AV} (hp : pureA tx = true ∧ pureA er = true) (hx : AV.flat tx = true ∧ AV.flat er = true)
    (h : E pgD 38 [.ag d.cs, .p (.sl [[.s w], [.s (dg n)]])] [] = some (.ret (.tup [.ag d'.cs, tx, er]), [])) :
    E pgD 19 [.ag d.cs, .p (.s (w ++ 32 :: dg n))] [] = some (.ret (.tup [.ag d'.cs, tx, er]), []) := by
  rw [E_code (pg := pgD) (x := c19) rfl rfl rfl rfl]
  have h1 := e36 n hn hw
  have h2 : ∀ G, evCallAt pgD (E pgD) 38 [.ag d.cs, .p (.sl [[.s w], [.s (dg n)]])] G = some (.ret (.tup [.ag d'.cs, tx, er]), G) := at_pure rfl h (by simpa [pureA, pureL] using hp)
  have h3 := t34 (w ++ 32 :: dg n) [108, 111, 97, 100, 32]
  have h4 : cutP (w ++ 32 :: dg n) [108, 111, 97, 100, 32] = (w ++ 32 :: dg n, false) := by
    rcases hw with rfl | rfl <;> simp [wSteps, wDepth, cutP, hasP]
  rw [h4] at h3
  have h5 : (w = [112, 105, 99, 107, 115]) = False := by
    rcases hw with rfl | rfl <;> simp [wSteps, wDepth]
  have n1 := fun G => norm_pure (G := G) hp.1
  have n2 := fun G => norm_pure (G := G) hp.2
  have b1 := fun n => below_pure (n := n) hp.1
  have b2 := fun n => below_pure (n := n) hp.2
  simp [c19, h1, h2, h3, h5, hx, n1, n2, b1, b2, okRow, leave]
theorem t19 {a : AV} {d' : Dk} {l : List UInt8} {tx er : AV} (ha : pureA a = true) (hp : pureA tx = true ∧ pureA er = true) (h : E pgD 19 [a, .p (.s l)] [] = some (.ret (.tup [.ag d'.cs, tx, er]), [])) (G : Heap) :
    evCallAt pgD (E pgD) 19 [a, .p (.s l)] G = some (.ret (.tup [.ag d'.cs, tx, er]), G) := at_pure (by simp [pureL, ha]; rfl) h (by simp [pureA, pureL, hp]) G
theorem s21 : E pgD 21 [.ag [.p (.i .i64 1), .p (.s [])]] [] = some (.ret (.p (.s [101, 114, 114, 111, 114, 32, 49])), []) := E_iff.2 ⟨30, by kernel_rfl⟩
theorem t21 (G : Heap) : evCallAt pgD (E pgD) 21 [.ag [.p (.i .i64 1), .p (.s [])]] G = some (.ret (.p (.s [101, 114, 114, 111, 114, 32, 49])), G) := at_pure rfl s21 rfl G
theorem e20 (args : List AV) (G : Heap) : E pgD 20 args G = asO args G := E_orc (pg := pgD) (F := asO) rfl rfl args G
theorem t20n (b0 b1 b2 : AObj) : evCallAt pgD (E pgD) 20 [.p .inil, .ifc 65 (.ptr 3 0)] [b0, b1, b2, .box 63 [.p (.i .i64 0), .p (.s [])]] = some (.ret (.p (.b false)), [b0, b1, b2, .box 63 [.p (.i .i64 0), .p (.s [])]]) := by
  simp [evCallAt, e20, asO, (show keepA pgD 20 = false from rfl), exp, expL, Exp.id, idxOf, expObjs, back, backL, backId, backObj, setAll, Out.back]
theorem t20e (b0 b1 b2 : AObj) : evCallAt pgD (E pgD) 20 [eArg, .ifc 65 (.ptr 3 0)] [b0, b1, b2, .box 63 [.p (.i .i64 0), .p (.s [])]] = some (.ret (.p (.b true)), [b0, b1, b2, .box 63 [.p (.i .i64 1), .p (.s [])]]) := by
  simp [evCallAt, e20, asO, (show keepA pgD 20 = false from rfl), exp, expL, Exp.id, idxOf, expObjs, back, backL, backId, backObj, setAll, Out.back, eArg, refOf]
theorem s9_ok (d d' : Dk) {l tx : List UInt8} (h : E pgD 19 [.ag d.cs, .p (.s l)] [] = some (.ret (.tup [.ag d'.cs, .p (.s tx), .p .inil]), [])) :
    E pgD 9 [.ag d.cs, .p (.s l)] [] = some (.ret (.tup [.ag d'.cs, .p (.s tx)]), []) := by
  rw [E_code (pg := pgD) (x := c9) rfl rfl rfl rfl]
  have h1 := t19 rfl ⟨rfl, rfl⟩ h
  simp [c9, h1, t20n, leave]
theorem s9_err (d d' : Dk) {l tx : List UInt8} (h : E pgD 19 [.ag d.cs, .p (.s l)] [] = some (.ret (.tup [.ag d'.cs, .p (.s tx), eArg]), [])) :
    E pgD 9 [.ag d.cs, .p (.s l)] [] = some (.ret (.tup [.ag d.cs, .p (.s [101, 114, 114, 111, 114, 32, 49])]), []) := by
  rw [E_code (pg := pgD) (x := c9) rfl rfl rfl rfl]
  have h1 := t19 rfl ⟨rfl, rfl⟩ h
  have hf : AV.flat eArg = true := rfl
  simp [c9, h1, t20e, t21, hf, leave]
theorem do_steps (d : Dk) (n : Nat) (hn : n < 10 ^ 6) : E pgD 9 [.ag d.cs, .p (.s (wSteps ++ 32 :: dg n))] [] = some (.ret (match mayL d.dp d.nd d.fu n with
      | true => .tup [.ag { d with st := n }.cs, .p (.s [111, 107])]
      | false => .tup [.ag d.cs, .p (.s [101, 114, 114, 111, 114, 32, 49])]), []) := by
  have h := s38s d n hn
  cases hm : mayL d.dp d.nd d.fu n with
  | true =>
    rw [hm] at h
    exact s9_ok d _ (s19 d _ n hn (.inl rfl) ⟨rfl, rfl⟩ ⟨rfl, rfl⟩ h)
  | false =>
    rw [hm] at h
    exact s9_err d _ (s19 d _ n hn (.inl rfl) ⟨rfl, rfl⟩ ⟨rfl, rfl⟩ h)
theorem do_depth (d : Dk) (n : Nat) (hn : n < 10 ^ 6) : E pgD 9 [.ag d.cs, .p (.s (wDepth ++ 32 :: dg n))] [] = some (.ret (match mayL n d.nd d.fu d.st with
      | true => .tup [.ag { d with dp := n }.cs, .p (.s [111, 107])]
      | false => .tup [.ag d.cs, .p (.s [101, 114, 114, 111, 114, 32, 49])]), []) := by
  have h := s38d d n hn
  cases hm : mayL n d.nd d.fu d.st with
  | true =>
    rw [hm] at h
    exact s9_ok d _ (s19 d _ n hn (.inr rfl) ⟨rfl, rfl⟩ ⟨rfl, rfl⟩ h)
  | false =>
    rw [hm] at h
    exact s9_err d _ (s19 d _ n hn (.inr rfl) ⟨rfl, rfl⟩ ⟨rfl, rfl⟩ h)
end Go.Proofs.Z
end
section
set_option maxHeartbeats 2000000
set_option maxRecDepth 100000
namespace Go.Proofs.Z
open Go Go.Proofs
attribute [local simp] k_nil k_ops k_opsg kG_true kG_false kO_val kO_pan k_seq kS_n kS_r kS_e kS_p k_o kR_n kR_p k_d kD_some k_s0 k_s kSn_s kSc_s k_ci k_cig kCI_v kCg_t kCg_f k_dc kDc_s kCk k_c kC_t kC_f k_b kB_n kB_r kB_p kB_e k_skip k_ret k_exit k_l kL_s kLp_n kLp_r kLp_e kLp_p k_f kF_s kDf_n kDf_r kDf_p k_end kV_f kV_t kN_s AV.eq_rfl ciReads reads oT oTs oO dK evOp evBin guardOK opd opds lk put restr initEnv evRes whole norm normL one Out.below below belowL belowObj evStore evLoad evLen AV.cells AV.flat PV.flat splice fillAt pcs isStr rowsOf Res.of evCmp evNilEq leavesEq leafEq asInt
abbrev iv (n : Int) : PV := .i .i64 n
inductive Tm where
  | mk (k n : Int) (name : List UInt8) (l : List Tm)
  deriving Inhabited
mutual
def Tm.enc : Tm → List PV
  | .mk k n s l => [iv k, iv n, .s s, .sl (Tm.encL l)]
def Tm.encL : List Tm → List (List PV)
  | [] => []
  | a :: r => a.enc :: Tm.encL r
end
theorem Tm.encL_map : ∀ l : List Tm, Tm.encL l = l.map Tm.enc
  | [] => rfl
  | a :: r => by simp [Tm.encL, Tm.encL_map r]
theorem Tm.ind {P : Tm → Prop} (h : ∀ k n s l, (∀ t ∈ l, P t) → P (.mk k n s l)) : ∀ t, P t
  | .mk k n s l => h k n s l (fun t ht => Tm.ind h t)
theorem Tm.okRow (t : Tm) : okRow 4 t.enc = true := by
  cases t; simp [Tm.enc, Z.okRow, PV.flat]
inductive Tm.Big : Tm → Prop
  | mk {k n s l} : l.length < 2 ^ 63 → s.length < 2 ^ 63 → (∀ t ∈ l, Tm.Big t) → Tm.Big (.mk k n s l)
theorem t33 : ∀ (a : Tm), a.Big → ∀ (G : Heap), evCallAt pgD (E pgD) 33 [.ag (pcs a.enc), .ag (pcs a.enc)] G = some (.ret (.p (.b true)), G) := by
  refine Tm.ind fun k n s l ih hf G => ?_
  have hfl : l.length < 2 ^ 63 ∧ ∀ t ∈ l, t.Big := by cases hf with | mk h1 _ h2 => exact ⟨h1, h2⟩
  refine at_pure (by simp [Tm.enc, pureL, pureA, pcs]) ?_ rfl G
  rw [E_code (pg := pgD) (x := c33) rfl rfl rfl rfl]
  have e2 : ∀ t : Tm, t.enc.length = 4 := fun t => by cases t; rfl
  have e3 : ∀ t : Tm, t.enc.take 4 = t.enc := fun t => by cases t; rfl
  have hL : ∀ (m i : Nat), i + m = l.length → L pgD 0 [2, 3, 5] c33l0 [(2, .ptr 0 0), (3, .ptr 1 0), (5, .p (.i .i64 (i : Nat)))] [.box 29 [.p (iv k), .p (iv n), .p (.s s), .p (.sl (l.map Tm.enc))], .box 29 [.p (iv k), .p (iv n), .p (.s s), .p (.sl (l.map Tm.enc))]] =
      some (.exit 0, [(2, .ptr 0 0), (3, .ptr 1 0), (5, .p (.i .i64 l.length)), (38, .p (.b false))], [.box 29 [.p (iv k), .p (iv n), .p (.s s), .p (.sl (l.map Tm.enc))], .box 29 [.p (iv k), .p (iv n), .p (.s s), .p (.sl (l.map Tm.enc))]]) := by
    intro m
    induction m with
    | zero =>
      intro i hi
      have : i = l.length := by omega
      subst this
      rw [k_L rfl]
      simp [c33l0, leave]
    | succ m ihm =>
      intro i hi
      have hlt : i < l.length := by omega
      have hlt' : (i : Int) < l.length := by omega
      have hx : l[i]? = some l[i] := List.getElem?_eq_getElem hlt
      have e1 := fun G => ih l[i] (List.getElem_mem hlt) (hfl.2 _ (List.getElem_mem hlt)) G
      simp only [pcs] at e1
      have hs := ihm (i + 1) (by omega)
      rw [show (((i + 1 : Nat) : Int)) = (i : Int) + 1 from by omega] at hs
      rw [k_L rfl]
      simp [c33l0, hlt, hlt', hx, Tm.okRow, e1, e2, e3, w64 ((i : Int) + 1) (by omega) (by omega), gc, gcEnv, exp, expL, expObjs, Exp.id, idxOf, List.range, List.range.loop, leave]
      exact hs
  have hL0 := hL l.length 0 (by omega)
  rw [show ((0 : Nat) : Int) = 0 from rfl] at hL0
  simp [c33, Tm.enc, pcs, Tm.encL_map, gc, gcEnv, exp, expL, expObjs, Exp.id, idxOf, List.range, List.range.loop, leave]
  rw [hL0]
  simp [leave]
end Go.Proofs.Z
end
section
set_option maxHeartbeats 2000000
set_option maxRecDepth 100000
namespace Go.Proofs.Z
open Go Go.Proofs
attribute [local simp] k_nil k_ops k_opsg kG_true kG_false kO_val kO_pan k_seq kS_n kS_r kS_e kS_p k_o kR_n kR_p k_d kD_some k_s0 k_s kSn_s kSc_s k_ci k_cig kCI_v kCg_t kCg_f k_dc kDc_s kCk k_c kC_t kC_f k_b kB_n kB_r kB_p kB_e k_skip k_ret k_exit k_l kL_s kLp_n kLp_r kLp_e kLp_p k_f kF_s kDf_n kDf_r kDf_p k_end kV_f kV_t kN_s AV.eq_rfl ciReads reads oT oTs oO dK evOp evBin guardOK opd opds lk put restr initEnv evRes whole norm normL one Out.below below belowL belowObj evStore evLoad evLen AV.cells AV.flat PV.flat splice fillAt pcs isStr rowsOf Res.of evCmp evNilEq leavesEq leafEq asInt
structure Dk.Ok (d : Dk) : Prop where
  sh : ∃ l : List Tm, d.sl = Tm.encL l ∧ (Tm.mk d.sk d.sn d.sm l).Big
  pk : ∃ l : List Int, d.pk = l.map (fun n => [iv n]) ∧ l.length < 2 ^ 63
theorem u33 {d : Dk} (h : d.Ok) (G : Heap) : evCallAt pgD (E pgD) 33 [.ag [.p (iv d.sk), .p (iv d.sn), .p (.s d.sm), .p (.sl d.sl)], .ag [.p (iv d.sk), .p (iv d.sn), .p (.s d.sm), .p (.sl d.sl)]] G = some (.ret (.p (.b true)), G) := by
  obtain ⟨l, hl, hb⟩ := h.sh
  have := t33 _ hb G
  simpa [Tm.enc, pcs, ← hl] using this
abbrev Dk.last (d : Dk) : List AV := [.p (iv d.lk), .p (iv d.le), .p (iv d.la), .p (iv d.sk), .p (iv d.sn), .p (.s d.sm), .p (.sl d.sl), .p (iv d.t0), .p (iv d.t1), .p (iv d.t2), .p (iv d.t3), .p (iv d.t4), .p (iv d.t5), .p (iv d.t6), .p (iv d.t7), .p (iv d.t8), .p (iv d.ls)]
theorem s14 {d : Dk} (h : d.Ok) : E pgD 14 [.ag d.last, .ag d.last] [] = some (.ret (.p (.b true)), []) := by
  rw [E_code (pg := pgD) (x := c14) rfl rfl rfl rfl]
  have h1 := u33 h
  simp [c14, h1, leave]
theorem t14 {d : Dk} (h : d.Ok) (G : Heap) : evCallAt pgD (E pgD) 14 [.ag d.last, .ag d.last] G = some (.ret (.p (.b true)), G) := at_pure rfl (s14 h) rfl G
theorem s11 {d : Dk} (h : d.Ok) : E pgD 11 [.ag d.cs, .ag d.cs] [] = some (.ret (.p (.b true)), []) := by
  rw [E_code (pg := pgD) (x := c11) rfl rfl rfl rfl]
  have h1 := t14 h
  obtain ⟨l, hl, hlen⟩ := h.pk
  clear h
  obtain ⟨dt, dp, nd, fu, st, pk, lk, le, la, sk, sn, sm, sl, t0, t1, t2, t3, t4, t5, t6, t7, t8, ls, rn⟩ := d
  dsimp only at hl
  subst hl
  have hL : ∀ (m i : Nat), i + m = l.length → L pgD 0 [2, 3, 5] c11l0 [(2, .ptr 0 0), (3, .ptr 1 0), (5, .p (.i .i64 (i : Nat)))] [.box 35 (Dk.mk dt dp nd fu st (l.map fun n => [iv n]) lk le la sk sn sm sl t0 t1 t2 t3 t4 t5 t6 t7 t8 ls rn).cs, .box 35 (Dk.mk dt dp nd fu st (l.map fun n => [iv n]) lk le la sk sn sm sl t0 t1 t2 t3 t4 t5 t6 t7 t8 ls rn).cs] =
      some (.exit 0, [(2, .ptr 0 0), (3, .ptr 1 0), (5, .p (.i .i64 l.length)), (46, .p (.b false))], [.box 35 (Dk.mk dt dp nd fu st (l.map fun n => [iv n]) lk le la sk sn sm sl t0 t1 t2 t3 t4 t5 t6 t7 t8 ls rn).cs, .box 35 (Dk.mk dt dp nd fu st (l.map fun n => [iv n]) lk le la sk sn sm sl t0 t1 t2 t3 t4 t5 t6 t7 t8 ls rn).cs]) := by
    intro m
    induction m with
    | zero =>
      intro i hi
      have : i = l.length := by omega
      subst this
      rw [k_L rfl]
      simp [c11l0, leave]
    | succ m ihm =>
      intro i hi
      have hlt : i < l.length := by omega
      have hlt' : (i : Int) < l.length := by omega
      have hx : l[i]? = some l[i] := List.getElem?_eq_getElem hlt
      have hs := ihm (i + 1) (by omega)
      rw [show (((i + 1 : Nat) : Int)) = (i : Int) + 1 from by omega] at hs
      rw [k_L rfl]
      simp [c11l0, hlt, hlt', hx, okRow, w64 ((i : Int) + 1) (by omega) (by omega), gc, gcEnv, exp, expL, expObjs, Exp.id, idxOf, List.range, List.range.loop, leave]
      exact hs
  have hL0 := hL l.length 0 (by omega)
  rw [show ((0 : Nat) : Int) = 0 from rfl] at hL0
  simp [c11, h1, gc, gcEnv, exp, expL, expObjs, Exp.id, idxOf, List.range, List.range.loop, leave]
  rw [hL0]
  simp [leave]
theorem t11 {d : Dk} (h : d.Ok) (G : Heap) : evCallAt pgD (E pgD) 11 [.ag d.cs, .ag d.cs] G = some (.ret (.p (.b true)), G) := at_pure rfl (s11 h) rfl G
theorem s37 (d : Dk) : E pgD 37 [.ag d.cs, .p (.sl [])] [] = some (.ret (.tup [.ag { d with pk := [] }.cs, .p (.s [111, 107]), .p .inil]), []) := by
  rw [E_code (pg := pgD) (x := c37) rfl rfl rfl rfl]
  have hl : ∀ G : Heap, L pgD 0 [2, 4, 7, 8, 13, 14, 15] c37l0 [(2, .ptr 0 0), (4, .ptr 1 0), (7, .nils), (8, .p .inil), (13, .p (.sl [])), (14, .p (.i .i64 0)), (15, .p (.i .i64 0))] G = some (.exit 0, [(2, .ptr 0 0), (4, .ptr 1 0), (7, .nils), (8, .p .inil), (13, .p (.sl [])), (14, .p (.i .i64 0)), (15, .p (.i .i64 0)), (16, .p (.b false))], G) := by
    intro G
    rw [k_L rfl]
    simp [c37l0, leave]
  simp [c37, gc, gcEnv, exp, expL, expObjs, Exp.id, idxOf, List.range, List.range.loop, leave]
  rw [hl]
  simp [leave]
theorem s19p (d : Dk) : E pgD 19 [.ag d.cs, .p (.s [112, 105, 99, 107, 115])] [] = some (.ret (.tup [.ag { d with pk := [] }.cs, .p (.s [111, 107]), .p .inil]), []) := by
  rw [E_code (pg := pgD) (x := c19) rfl rfl rfl rfl]
  have h1 : ∀ G, evCallAt pgD (E pgD) 36 [.p (.s [112, 105, 99, 107, 115]), .p (.s [32])] G = some (.ret (.p (.sl [[.s [112, 105, 99, 107, 115]]])), G) := by
    refine at_pure rfl ?_ rfl
    rw [E_orc (pg := pgD) (F := splitO) rfl rfl]
    rfl
  have h2 := at_pure (f := 37) rfl (s37 d) rfl
  have h3 := t34 [112, 105, 99, 107, 115] [108, 111, 97, 100, 32]
  have h4 : cutP [112, 105, 99, 107, 115] [108, 111, 97, 100, 32] = ([112, 105, 99, 107, 115], false) := rfl
  rw [h4] at h3
  simp [c19, h1, h2, h3, okRow, evSub, okRows, leave]
theorem do_picks (d : Dk) : E pgD 9 [.ag d.cs, .p (.s [112, 105, 99, 107, 115])] [] = some (.ret (.tup [.ag { d with pk := [] }.cs, .p (.s [111, 107])]), []) := s9_ok d _ (s19p d)
def Dk.few (d : Dk) : Bool := decide (d.t.length ≤ 300) && (decide (d.pk.length ≤ 20) && fewL d.nd d.fu d.st)
theorem s26 (d : Dk) : E pgD 26 [.ag d.cs] [] = some (.ret (.p (.b d.few)), []) := by
  rw [E_code (pg := pgD) (x := c26) rfl rfl rfl rfl]
  have h3 := t56 d.dp d.nd d.fu d.st
  unfold Dk.few
  by_cases h1 : d.t.length ≤ 300
  · have h1' : (d.t.length : Int) ≤ 300 := by omega
    by_cases h2 : d.pk.length ≤ 20
    · have h2' : (d.pk.length : Int) ≤ 20 := by omega
      simp [c26, h1, h1', h2, h2', h3, leave]
    · have h2' : ¬ (d.pk.length : Int) ≤ 20 := by omega
      simp [c26, h1, h1', h2, h2', h3, leave]
  · have h1' : ¬ (d.t.length : Int) ≤ 300 := by omega
    simp [c26, h1, h1', leave]
theorem t26 (d : Dk) (G : Heap) : evCallAt pgD (E pgD) 26 [.ag d.cs] G = some (.ret (.p (.b d.few)), G) := at_pure rfl (s26 d) rfl G
theorem s12 (d : Dk) : E pgD 12 [.ag d.cs, .p (.sl [])] [] = some (.ret (.p (.b d.few)), []) := by
  rw [E_code (pg := pgD) (x := c12) rfl rfl rfl rfl]
  have h1 := t26 d
  have hl : L pgD 0 [1, 2, 5] c12l0 [(1, .p (.sl [])), (2, .ptr 0 0), (5, .p (.i .i64 0))] [.box 35 d.cs] = some (.exit 0, [(1, .p (.sl [])), (2, .ptr 0 0), (5, .p (.i .i64 0)), (9, .p (.b false))], [.box 35 d.cs]) := by
    rw [k_L rfl]
    simp [c12l0, leave]
  simp [c12, gc, gcEnv, exp, expL, expObjs, Exp.id, idxOf, List.range, List.range.loop, leave]
  rw [hl]
  cases hf : d.few with
  | true => rw [hf] at h1; simp [h1, leave]
  | false => rw [hf] at h1; simp [h1, leave]
theorem t12 (d : Dk) (G : Heap) : evCallAt pgD (E pgD) 12 [.ag d.cs, .nils] G = some (.ret (.p (.b d.few)), G) := by
  rw [← at_pure (f := 12) rfl (s12 d) rfl G]
  unfold evCallAt
  have e1 : ∀ e : Exp, expL false e d.cs = some (d.cs, e) := fun e => expL_pure (pure_cs d)
  simp only [(show keepA pgD 12 = false from rfl), expL, exp, e1]
  rfl
end Go.Proofs.Z
end
section
set_option maxHeartbeats 4000000
set_option maxRecDepth 100000
namespace Go.Proofs.Z
open Go Go.Proofs
attribute [local simp] k_nil k_ops k_opsg kG_true kG_false kO_val kO_pan k_seq kS_n kS_r kS_e kS_p k_o kR_n kR_p k_d kD_some k_s0 k_s kSn_s kSc_s k_ci k_cig kCI_v kCg_t kCg_f k_dc kDc_s kCk k_c kC_t kC_f k_b kB_n kB_r kB_p kB_e k_skip k_ret k_exit k_l kL_s kLp_n kLp_r kLp_e kLp_p k_f kF_s kDf_n kDf_r kDf_p k_end kV_f kV_t kN_s AV.eq_rfl ciReads reads oT oTs oO dK evOp evBin guardOK opd opds lk put restr initEnv evRes whole norm normL one Out.below below belowL belowObj evStore evLoad evLen AV.cells AV.flat PV.flat splice fillAt pcs isStr rowsOf Res.of evCmp evNilEq leavesEq leafEq asInt
theorem t7 (G : Heap) : evCallAt pgD (E pgD) 7 [] G = some (.ret (.p (.b true)), G) := at_pure rfl (E_orc (pg := pgD) (F := fixO) rfl rfl [] []) rfl G
theorem t15 (n : Nat) (hn : n < 10 ^ 18) (G : Heap) : evCallAt pgD (E pgD) 15 [.p (.i .i64 n)] G = some (.ret (.p (.s (dg n))), G) := at_pure rfl (s15 n hn) rfl G
theorem Dk.Ok.st {d : Dk} (h : d.Ok) (n : Int) : ({ d with st := n } : Dk).Ok := ⟨h.sh, h.pk⟩
theorem s5 (d : Dk) (hd : d.Ok) (n : Int) : E pgD 5 [.ag d.cs, .p (.i .i64 n)] [] = some (.ret (.p (.b true)), []) := by
  rw [E_code (pg := pgD) (x := c5) rfl rfl rfl rfl]
  have h12 := t12 d
  cases hf : d.few with
  | false =>
    rw [hf] at h12
    simp [c5, t7, h12, leave]
  | true =>
    rw [hf] at h12
    by_cases h0 : n < 0
    · simp [c5, t7, h12, h0, leave]
    by_cases h1 : 999999 < n
    · simp [c5, t7, h12, h0, h1, leave]
    obtain ⟨m, rfl⟩ : ∃ m : Nat, n = m := ⟨n.toNat, by omega⟩
    have hm : m < 10 ^ 6 := by omega
    have h15 := t15 m (by omega)
    have hl := dg_len 6 m hm (by omega)
    have hr1 : roomy ((dg m).length + 6) 1 = true := by simp [roomy]; omega
    have hr2 : roomy (6 + (dg m).length) 1 = true := by simp [roomy]; omega
    have hS : ∀ G, _ := at_pure (f := 9) (args := [.ag d.cs, .p (.s (wSteps ++ 32 :: dg m))]) rfl (do_steps d m hm) (by split <;> rfl)
    have hD : ∀ G, _ := at_pure (f := 9) (args := [.ag d.cs, .p (.s (wDepth ++ 32 :: dg m))]) rfl (do_depth d m hm) (by split <;> rfl)
    have hP1 : ∀ G, _ := at_pure (f := 9) (args := [.ag ({ d with st := (m : Int) } : Dk).cs, .p (.s [112, 105, 99, 107, 115])]) rfl (do_picks _) rfl
    have hP2 : ∀ G, _ := at_pure (f := 9) (args := [.ag d.cs, .p (.s [112, 105, 99, 107, 115])]) rfl (do_picks d) rfl
    have h11a := t11 (hd.st m)
    have h11b := t11 hd
    have h16a := t16 d.dp d.nd d.fu m
    have h16b := t16 m d.nd d.fu d.st
    simp only [wSteps, wDepth, List.cons_append, List.nil_append] at hS hD
    cases hA : mayL d.dp d.nd d.fu m <;> cases hB : mayL m d.nd d.fu d.st <;> rw [hA] at hS h16a <;> rw [hB] at hD h16b <;> dsimp only at hS hD
    · simp [c5, t7, h12, h0, h1, h15, hr2, hS, hD, hP2, h11b, h16a, h16b, leave]
    · simp [c5, t7, h12, h0, h1, h15, hr2, hS, hD, hP2, h11b, h16a, h16b, leave]
    · simp [c5, t7, h12, h0, h1, h15, hr2, hS, hD, hP1, h11a, h16a, h16b, leave]
    · simp [c5, t7, h12, h0, h1, h15, hr2, hS, hD, hP1, h11a, h16a, h16b, leave]
end Go.Proofs.Z
end
