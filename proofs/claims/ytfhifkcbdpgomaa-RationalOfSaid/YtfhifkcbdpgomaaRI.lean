/- Cmp, Floor, Sum. Conditions: none. -/
import Derived.Test.YtfhifkcbdpgomaaRH
namespace Go.Proofs.Ytfhifkcbdpgomaa
set_option linter.unusedSimpArgs false
set_option linter.unusedVariables false
open Go.RowKit
set_option maxRecDepth 20000

def cmpI (x y : Int) : Int := if x < y then -1 else if x = y then 0 else 1
/-- Which of two numbers that have a denominator is the greater. -/
def cmpE (a b : Rt) : Int := cmpI (a.n * b.d) (b.n * a.d)
def cmpR (a b : Rt) : Int := if vldR a = true ∧ vldR b = true then cmpE (nrmR a) (nrmR b) else 0
theorem cmpN_I (m k : Nat) : cmpN m k = cmpI m k := by
  unfold cmpN cmpI
  by_cases h : m < k
  · rw [decide_eq_true h, if_pos (by omega)]; rfl
  · rw [decide_eq_false h, if_neg (by omega)]
    by_cases h2 : m = k
    · rw [decide_eq_true h2, if_pos (by omega)]; rfl
    · rw [decide_eq_false h2, if_neg (by omega)]; rfl
theorem sg_both {s t : Bool} {m k : Nat} (hs : s = true) (ht : t = true) : cmpI (sg s m) (sg t k) = cmpI k m := by
  subst hs ht
  unfold cmpI sg
  simp only [cond_true]
  rcases Nat.lt_trichotomy k m with h | h | h
  · rw [if_pos (by omega), if_pos (by omega)]
  · rw [if_neg (by omega), if_pos (by omega), if_neg (by omega), if_pos (by omega)]
  · rw [if_neg (by omega), if_neg (by omega), if_neg (by omega), if_neg (by omega)]
theorem ev_cmp (a b : Rt) (ha : RtOk a) (hb : RtOk b) : Ev Try.prog 27 [ratV a, ratV b] (.sc (.int .i64 (cmpR a b))) := by
  have v1 := ev_valid a ha
  have v2 := ev_valid b hb
  unfold ratV at *
  refine ev_fn Try.func27 comp27 (show 2 ≤ Try.f27.ntmps by decide) ?_; unfold cf27 rf27; simp only [↓EVP0, EVQ0, EVQ1, EVQ2, EVQ3, EVQ4, EVA, EVK, EVFR, ↓reduceIte, Nat.reduceEqDiff, Nat.reduceAdd, Nat.reduceSub, Nat.reduceMul, Nat.reduceLT, Nat.reduceLeDiff, reduceCtorEq, Int.reduceToNat, Int.reduceLT, Int.reduceLE, Int.reduceAdd, Int.reduceSub, Int.reduceMul, Int.reduceNeg, Int.reduceEq, Nat.reduceMod, forall_eq_or_imp, forall_eq, forall_const, cond_true, cond_false, decide_true, decide_false, true_imp_iff, implies_true, Int.cast_ofNat_Int, forall_eq']
  refine callK_ro (v1) ?_ ?_
  · simp only [↓EVP0, EVQ0, EVQ1, EVQ2, EVQ3, EVQ4, EVA, EVK, EVFR, ↓reduceIte, Nat.reduceEqDiff, Nat.reduceAdd, Nat.reduceSub, Nat.reduceMul, Nat.reduceLT, Nat.reduceLeDiff, reduceCtorEq, Int.reduceToNat, Int.reduceLT, Int.reduceLE, Int.reduceAdd, Int.reduceSub, Int.reduceMul, Int.reduceNeg, Int.reduceEq, Nat.reduceMod, forall_eq_or_imp, forall_eq, forall_const, cond_true, cond_false, decide_true, decide_false, true_imp_iff, implies_true, Int.cast_ofNat_Int, forall_eq']
  simp only [↓EVP0, EVQ0, EVQ1, EVQ2, EVQ3, EVQ4, EVA, EVK, EVFR, ↓reduceIte, Nat.reduceEqDiff, Nat.reduceAdd, Nat.reduceSub, Nat.reduceMul, Nat.reduceLT, Nat.reduceLeDiff, reduceCtorEq, Int.reduceToNat, Int.reduceLT, Int.reduceLE, Int.reduceAdd, Int.reduceSub, Int.reduceMul, Int.reduceNeg, Int.reduceEq, Nat.reduceMod, forall_eq_or_imp, forall_eq, forall_const, cond_true, cond_false, decide_true, decide_false, true_imp_iff, implies_true, Int.cast_ofNat_Int, forall_eq']
  (refine lops_ge_imp ?_; simp only [↓EVP0, EVQ0, EVQ1, EVQ2, EVQ3, EVQ4, EVA, EVK, EVFR, ↓reduceIte, Nat.reduceEqDiff, Nat.reduceAdd, Nat.reduceSub, Nat.reduceMul, Nat.reduceLT, Nat.reduceLeDiff, reduceCtorEq, Int.reduceToNat, Int.reduceLT, Int.reduceLE, Int.reduceAdd, Int.reduceSub, Int.reduceMul, Int.reduceNeg, Int.reduceEq, Nat.reduceMod, forall_eq_or_imp, forall_eq, forall_const, cond_true, cond_false, decide_true, decide_false, true_imp_iff, implies_true, Int.cast_ofNat_Int, forall_eq'])
  refine gCallK_ro _ (fun _ => v2) (fun _ => ?_) ?_
  · simp only [↓EVP0, EVQ0, EVQ1, EVQ2, EVQ3, EVQ4, EVA, EVK, EVFR, ↓reduceIte, Nat.reduceEqDiff, Nat.reduceAdd, Nat.reduceSub, Nat.reduceMul, Nat.reduceLT, Nat.reduceLeDiff, reduceCtorEq, Int.reduceToNat, Int.reduceLT, Int.reduceLE, Int.reduceAdd, Int.reduceSub, Int.reduceMul, Int.reduceNeg, Int.reduceEq, Nat.reduceMod, forall_eq_or_imp, forall_eq, forall_const, cond_true, cond_false, decide_true, decide_false, true_imp_iff, implies_true, Int.cast_ofNat_Int, forall_eq']
  simp only [↓EVP0, EVQ0, EVQ1, EVQ2, EVQ3, EVQ4, EVA, EVK, EVFR, ↓reduceIte, Nat.reduceEqDiff, Nat.reduceAdd, Nat.reduceSub, Nat.reduceMul, Nat.reduceLT, Nat.reduceLeDiff, reduceCtorEq, Int.reduceToNat, Int.reduceLT, Int.reduceLE, Int.reduceAdd, Int.reduceSub, Int.reduceMul, Int.reduceNeg, Int.reduceEq, Nat.reduceMod, forall_eq_or_imp, forall_eq, forall_const, cond_true, cond_false, decide_true, decide_false, true_imp_iff, implies_true, Int.cast_ofNat_Int, forall_eq']
  rw [nv_cond]
  unfold cmpR
  refine ⟨fun g => ?_, fun g => ?_⟩
  · rw [if_neg (by intro h8; rw [decide_eq_true h8] at g; simp at g)]
  have hv : vldR a = true ∧ vldR b = true := by simpa using g
  rw [if_pos hv]
  have n1 := ev_normal a
  have n2 := ev_normal b
  unfold ratV at n1 n2
  first | refine qCallK_ro (n1) ?_ ?_ | refine eCallK_ro (n1) ?_ ?_
  · simp only [↓EVP0, EVQ0, EVQ1, EVQ2, EVQ3, EVQ4, EVA, EVK, EVFR, ↓reduceIte, Nat.reduceEqDiff, Nat.reduceAdd, Nat.reduceSub, Nat.reduceMul, Nat.reduceLT, Nat.reduceLeDiff, reduceCtorEq, Int.reduceToNat, Int.reduceLT, Int.reduceLE, Int.reduceAdd, Int.reduceSub, Int.reduceMul, Int.reduceNeg, Int.reduceEq, Nat.reduceMod, forall_eq_or_imp, forall_eq, forall_const, cond_true, cond_false, decide_true, decide_false, true_imp_iff, implies_true, Int.cast_ofNat_Int, forall_eq']
  simp only [↓EVP0, EVQ0, EVQ1, EVQ2, EVQ3, EVQ4, EVA, EVK, EVFR, ↓reduceIte, Nat.reduceEqDiff, Nat.reduceAdd, Nat.reduceSub, Nat.reduceMul, Nat.reduceLT, Nat.reduceLeDiff, reduceCtorEq, Int.reduceToNat, Int.reduceLT, Int.reduceLE, Int.reduceAdd, Int.reduceSub, Int.reduceMul, Int.reduceNeg, Int.reduceEq, Nat.reduceMod, forall_eq_or_imp, forall_eq, forall_const, cond_true, cond_false, decide_true, decide_false, true_imp_iff, implies_true, Int.cast_ofNat_Int, forall_eq']
  first | refine qCallK_ro (n2) ?_ ?_ | refine eCallK_ro (n2) ?_ ?_
  · simp only [↓EVP0, EVQ0, EVQ1, EVQ2, EVQ3, EVQ4, EVA, EVK, EVFR, ↓reduceIte, Nat.reduceEqDiff, Nat.reduceAdd, Nat.reduceSub, Nat.reduceMul, Nat.reduceLT, Nat.reduceLeDiff, reduceCtorEq, Int.reduceToNat, Int.reduceLT, Int.reduceLE, Int.reduceAdd, Int.reduceSub, Int.reduceMul, Int.reduceNeg, Int.reduceEq, Nat.reduceMod, forall_eq_or_imp, forall_eq, forall_const, cond_true, cond_false, decide_true, decide_false, true_imp_iff, implies_true, Int.cast_ofNat_Int, forall_eq']
  simp only [↓EVP0, EVQ0, EVQ1, EVQ2, EVQ3, EVQ4, EVA, EVK, EVFR, ↓reduceIte, Nat.reduceEqDiff, Nat.reduceAdd, Nat.reduceSub, Nat.reduceMul, Nat.reduceLT, Nat.reduceLeDiff, reduceCtorEq, Int.reduceToNat, Int.reduceLT, Int.reduceLE, Int.reduceAdd, Int.reduceSub, Int.reduceMul, Int.reduceNeg, Int.reduceEq, Nat.reduceMod, forall_eq_or_imp, forall_eq, forall_const, cond_true, cond_false, decide_true, decide_false, true_imp_iff, implies_true, Int.cast_ofNat_Int, forall_eq']
  have hA := vld_low hv.1
  have hB := vld_low hv.2
  have oA := nrm_ok ha
  have oB := nrm_ok hb
  generalize nrmR a = A at *
  generalize nrmR b = B at *
  have l1 := mag_le oA.1
  have l2 := mag_le oA.2
  have l3 := mag_le oB.1
  have l4 := mag_le oB.2
  have s2 := ev_size A.d oA.2
  have s4 := ev_size B.d oB.2
  have p1 := ev_product A.n (mag B.d) oA.1 (by omega)
  have p2 := ev_product B.n (mag A.d) oB.1 (by omega)
  have w1 := ev_wcmp (decide (A.n < 0)) (decide (B.n < 0)) (mag A.n * mag B.d) (mag B.n * mag A.d)
  have w2 := ev_wcmp (decide (B.n < 0)) (decide (A.n < 0)) (mag B.n * mag A.d) (mag A.n * mag B.d)
  unfold wV at p1 p2 w1 w2
  first | refine qCallK_ro (s4) ?_ ?_ | refine eCallK_ro (s4) ?_ ?_
  · simp only [↓EVP0, EVQ0, EVQ1, EVQ2, EVQ3, EVQ4, EVA, EVK, EVFR, ↓reduceIte, Nat.reduceEqDiff, Nat.reduceAdd, Nat.reduceSub, Nat.reduceMul, Nat.reduceLT, Nat.reduceLeDiff, reduceCtorEq, Int.reduceToNat, Int.reduceLT, Int.reduceLE, Int.reduceAdd, Int.reduceSub, Int.reduceMul, Int.reduceNeg, Int.reduceEq, Nat.reduceMod, forall_eq_or_imp, forall_eq, forall_const, cond_true, cond_false, decide_true, decide_false, true_imp_iff, implies_true, Int.cast_ofNat_Int, forall_eq']
  simp only [↓EVP0, EVQ0, EVQ1, EVQ2, EVQ3, EVQ4, EVA, EVK, EVFR, ↓reduceIte, Nat.reduceEqDiff, Nat.reduceAdd, Nat.reduceSub, Nat.reduceMul, Nat.reduceLT, Nat.reduceLeDiff, reduceCtorEq, Int.reduceToNat, Int.reduceLT, Int.reduceLE, Int.reduceAdd, Int.reduceSub, Int.reduceMul, Int.reduceNeg, Int.reduceEq, Nat.reduceMod, forall_eq_or_imp, forall_eq, forall_const, cond_true, cond_false, decide_true, decide_false, true_imp_iff, implies_true, Int.cast_ofNat_Int, forall_eq']
  first | refine qCallK_ro (p1) ?_ ?_ | refine eCallK_ro (p1) ?_ ?_
  · simp only [↓EVP0, EVQ0, EVQ1, EVQ2, EVQ3, EVQ4, EVA, EVK, EVFR, ↓reduceIte, Nat.reduceEqDiff, Nat.reduceAdd, Nat.reduceSub, Nat.reduceMul, Nat.reduceLT, Nat.reduceLeDiff, reduceCtorEq, Int.reduceToNat, Int.reduceLT, Int.reduceLE, Int.reduceAdd, Int.reduceSub, Int.reduceMul, Int.reduceNeg, Int.reduceEq, Nat.reduceMod, forall_eq_or_imp, forall_eq, forall_const, cond_true, cond_false, decide_true, decide_false, true_imp_iff, implies_true, Int.cast_ofNat_Int, forall_eq']
  simp only [↓EVP0, EVQ0, EVQ1, EVQ2, EVQ3, EVQ4, EVA, EVK, EVFR, ↓reduceIte, Nat.reduceEqDiff, Nat.reduceAdd, Nat.reduceSub, Nat.reduceMul, Nat.reduceLT, Nat.reduceLeDiff, reduceCtorEq, Int.reduceToNat, Int.reduceLT, Int.reduceLE, Int.reduceAdd, Int.reduceSub, Int.reduceMul, Int.reduceNeg, Int.reduceEq, Nat.reduceMod, forall_eq_or_imp, forall_eq, forall_const, cond_true, cond_false, decide_true, decide_false, true_imp_iff, implies_true, Int.cast_ofNat_Int, forall_eq']
  first | refine qCallK_ro (s2) ?_ ?_ | refine eCallK_ro (s2) ?_ ?_
  · simp only [↓EVP0, EVQ0, EVQ1, EVQ2, EVQ3, EVQ4, EVA, EVK, EVFR, ↓reduceIte, Nat.reduceEqDiff, Nat.reduceAdd, Nat.reduceSub, Nat.reduceMul, Nat.reduceLT, Nat.reduceLeDiff, reduceCtorEq, Int.reduceToNat, Int.reduceLT, Int.reduceLE, Int.reduceAdd, Int.reduceSub, Int.reduceMul, Int.reduceNeg, Int.reduceEq, Nat.reduceMod, forall_eq_or_imp, forall_eq, forall_const, cond_true, cond_false, decide_true, decide_false, true_imp_iff, implies_true, Int.cast_ofNat_Int, forall_eq']
  simp only [↓EVP0, EVQ0, EVQ1, EVQ2, EVQ3, EVQ4, EVA, EVK, EVFR, ↓reduceIte, Nat.reduceEqDiff, Nat.reduceAdd, Nat.reduceSub, Nat.reduceMul, Nat.reduceLT, Nat.reduceLeDiff, reduceCtorEq, Int.reduceToNat, Int.reduceLT, Int.reduceLE, Int.reduceAdd, Int.reduceSub, Int.reduceMul, Int.reduceNeg, Int.reduceEq, Nat.reduceMod, forall_eq_or_imp, forall_eq, forall_const, cond_true, cond_false, decide_true, decide_false, true_imp_iff, implies_true, Int.cast_ofNat_Int, forall_eq']
  first | refine qCallK_ro (p2) ?_ ?_ | refine eCallK_ro (p2) ?_ ?_
  · simp only [↓EVP0, EVQ0, EVQ1, EVQ2, EVQ3, EVQ4, EVA, EVK, EVFR, ↓reduceIte, Nat.reduceEqDiff, Nat.reduceAdd, Nat.reduceSub, Nat.reduceMul, Nat.reduceLT, Nat.reduceLeDiff, reduceCtorEq, Int.reduceToNat, Int.reduceLT, Int.reduceLE, Int.reduceAdd, Int.reduceSub, Int.reduceMul, Int.reduceNeg, Int.reduceEq, Nat.reduceMod, forall_eq_or_imp, forall_eq, forall_const, cond_true, cond_false, decide_true, decide_false, true_imp_iff, implies_true, Int.cast_ofNat_Int, forall_eq']
  simp only [↓EVP0, EVQ0, EVQ1, EVQ2, EVQ3, EVQ4, EVA, EVK, EVFR, ↓reduceIte, Nat.reduceEqDiff, Nat.reduceAdd, Nat.reduceSub, Nat.reduceMul, Nat.reduceLT, Nat.reduceLeDiff, reduceCtorEq, Int.reduceToNat, Int.reduceLT, Int.reduceLE, Int.reduceAdd, Int.reduceSub, Int.reduceMul, Int.reduceNeg, Int.reduceEq, Nat.reduceMod, forall_eq_or_imp, forall_eq, forall_const, cond_true, cond_false, decide_true, decide_false, true_imp_iff, implies_true, Int.cast_ofNat_Int, forall_eq']
  have e1 : A.n * B.d = sg (decide (A.n < 0)) (mag A.n * mag B.d) := by rw [sg_prod]; have := hB.1; unfold mag; congr 1; omega
  have e2 : B.n * A.d = sg (decide (B.n < 0)) (mag B.n * mag A.d) := by rw [sg_prod]; have := hA.1; unfold mag; congr 1; omega
  have z1 : A.n < 0 → 0 < mag A.n * mag B.d := fun h => Nat.mul_pos (by unfold mag; omega) (by have := hB.1; unfold mag; omega)
  have z2 : B.n < 0 → 0 < mag B.n * mag A.d := fun h => Nat.mul_pos (by unfold mag; omega) (by have := hA.1; unfold mag; omega)
  have ec : cmpE A B = cmpI (sg (decide (A.n < 0)) (mag A.n * mag B.d)) (sg (decide (B.n < 0)) (mag B.n * mag A.d)) := by unfold cmpE; rw [e1, e2]
  rw [ec]
  clear ec e1 e2 p1 p2 s2 s4 n1 n2 v1 v2
  generalize mag A.n * mag B.d = m at *
  generalize mag B.n * mag A.d = k at *
  rw [cmpN_I] at w1 w2
  refine ⟨?_, ?_⟩
  all_goals
    rw [condF]
    refine ⟨fun h1 => ?_, fun h1 => ⟨fun h2 => ?_, fun h2 => ⟨fun h3 => ?_, fun h3 => ?_⟩⟩⟩
    · simp only [Bool.and_eq_true] at h1
      have q := sg_both h1.1 h1.2 (m := m) (k := k)
      rw [q]
      refine callK_ro (w2) ?_ ?_
      · simp only [↓EVP0, EVQ0, EVQ1, EVQ2, EVQ3, EVQ4, EVA, EVK, EVFR, ↓reduceIte, Nat.reduceEqDiff, Nat.reduceAdd, Nat.reduceSub, Nat.reduceMul, Nat.reduceLT, Nat.reduceLeDiff, reduceCtorEq, Int.reduceToNat, Int.reduceLT, Int.reduceLE, Int.reduceAdd, Int.reduceSub, Int.reduceMul, Int.reduceNeg, Int.reduceEq, Nat.reduceMod, forall_eq_or_imp, forall_eq, forall_const, cond_true, cond_false, decide_true, decide_false, true_imp_iff, implies_true, Int.cast_ofNat_Int, forall_eq']
      simp only [↓EVP0, EVQ0, EVQ1, EVQ2, EVQ3, EVQ4, EVA, EVK, EVFR, ↓reduceIte, Nat.reduceEqDiff, Nat.reduceAdd, Nat.reduceSub, Nat.reduceMul, Nat.reduceLT, Nat.reduceLeDiff, reduceCtorEq, Int.reduceToNat, Int.reduceLT, Int.reduceLE, Int.reduceAdd, Int.reduceSub, Int.reduceMul, Int.reduceNeg, Int.reduceEq, Nat.reduceMod, forall_eq_or_imp, forall_eq, forall_const, cond_true, cond_false, decide_true, decide_false, true_imp_iff, implies_true, Int.cast_ofNat_Int, forall_eq']
    · have h4 : decide (B.n < 0) = false := by rw [h2] at h1; simpa using h1
      rw [h2, h4]
      have := z1 (of_decide_eq_true h2)
      unfold cmpI sg
      simp only [cond_true, cond_false]
      rw [if_pos (by omega)]
    · rw [h2, h3]
      have := z2 (of_decide_eq_true h3)
      unfold cmpI sg
      simp only [cond_true, cond_false]
      rw [if_neg (by omega), if_neg (by omega)]
    · have q : cmpI (sg (decide (A.n < 0)) m) (sg (decide (B.n < 0)) k) = cmpI m k := by rw [h2, h3]; rfl
      rw [q]
      refine callK_ro (w1) ?_ ?_
      · simp only [↓EVP0, EVQ0, EVQ1, EVQ2, EVQ3, EVQ4, EVA, EVK, EVFR, ↓reduceIte, Nat.reduceEqDiff, Nat.reduceAdd, Nat.reduceSub, Nat.reduceMul, Nat.reduceLT, Nat.reduceLeDiff, reduceCtorEq, Int.reduceToNat, Int.reduceLT, Int.reduceLE, Int.reduceAdd, Int.reduceSub, Int.reduceMul, Int.reduceNeg, Int.reduceEq, Nat.reduceMod, forall_eq_or_imp, forall_eq, forall_const, cond_true, cond_false, decide_true, decide_false, true_imp_iff, implies_true, Int.cast_ofNat_Int, forall_eq']
      simp only [↓EVP0, EVQ0, EVQ1, EVQ2, EVQ3, EVQ4, EVA, EVK, EVFR, ↓reduceIte, Nat.reduceEqDiff, Nat.reduceAdd, Nat.reduceSub, Nat.reduceMul, Nat.reduceLT, Nat.reduceLeDiff, reduceCtorEq, Int.reduceToNat, Int.reduceLT, Int.reduceLE, Int.reduceAdd, Int.reduceSub, Int.reduceMul, Int.reduceNeg, Int.reduceEq, Nat.reduceMod, forall_eq_or_imp, forall_eq, forall_const, cond_true, cond_false, decide_true, decide_false, true_imp_iff, implies_true, Int.cast_ofNat_Int, forall_eq']
/-- The greatest integer that is at most a number. -/
theorem floor_facts {A : Rt} (a : Low A) : -1152921504606846976 ≤ A.n / A.d ∧ A.n / A.d ≤ 1152921504606846976 ∧ A.n / A.d * A.d ≤ A.n ∧ A.n < (A.n / A.d + 1) * A.d := by
  obtain ⟨h1, h2, h3, h4, _⟩ := a
  have hp : 0 < A.d := by omega
  refine ⟨?_, ?_, Int.ediv_mul_le _ (by omega), ?_⟩
  · rw [Int.le_ediv_iff_mul_le hp]
    have := Int.mul_le_mul_of_nonneg_left h1 (show (0:Int) ≤ 1152921504606846976 by decide)
    omega
  · have : A.n / A.d < 1152921504606846976 + 1 := by
      rw [Int.ediv_lt_iff_lt_mul hp]
      have := Int.mul_le_mul_of_nonneg_left h1 (show (0:Int) ≤ 1152921504606846976 + 1 by decide)
      omega
    omega
  · have := Int.lt_mul_ediv_self_add (x := A.n) hp
    rw [Int.add_mul, Int.one_mul, Int.mul_comm]; exact this
theorem tdiv_floor {n d : Int} (hd : 1 ≤ d) : n / d = if n.tmod d < 0 then n.tdiv d - 1 else n.tdiv d := by
  have h := Int.tdiv_eq_ediv (a := n) (b := d)
  have hs : d.sign = 1 := Int.sign_eq_one_of_pos (by omega)
  rw [hs] at h
  have hm := Int.mul_tdiv_add_tmod n d
  have he := Int.mul_ediv_add_emod n d
  have h0 := Int.emod_nonneg n (show d ≠ 0 by omega)
  have h1 := Int.emod_lt_of_pos n (show 0 < d by omega)
  rw [h] at hm ⊢
  split at hm
  · rename_i hc
    rw [if_pos hc]
    rw [Int.add_zero] at hm ⊢
    rw [if_neg (by omega)]
  · rename_i hc
    rw [if_neg hc]
    rw [Int.mul_add, Int.mul_one] at hm
    rw [if_pos (by omega)]
    omega
def flr (a : Rt) : Int := if vldR a = true then (nrmR a).n / (nrmR a).d else 0
theorem ev_floor (a : Rt) (ha : RtOk a) : Ev Try.prog 29 [ratV a] (.sc (.int .i64 (flr a))) := by
  have v1 := ev_valid a ha
  have n1 := ev_normal a
  unfold ratV at *
  refine ev_fn Try.func29 comp29 (show 1 ≤ Try.f29.ntmps by decide) ?_; unfold cf29 rf29; simp only [↓EVP0, EVQ0, EVQ1, EVQ2, EVQ3, EVQ4, EVA, EVK, EVFR, ↓reduceIte, Nat.reduceEqDiff, Nat.reduceAdd, Nat.reduceSub, Nat.reduceMul, Nat.reduceLT, Nat.reduceLeDiff, reduceCtorEq, Int.reduceToNat, Int.reduceLT, Int.reduceLE, Int.reduceAdd, Int.reduceSub, Int.reduceMul, Int.reduceNeg, Int.reduceEq, Nat.reduceMod, forall_eq_or_imp, forall_eq, forall_const, cond_true, cond_false, decide_true, decide_false, true_imp_iff, implies_true, Int.cast_ofNat_Int, forall_eq']
  refine callK_ro (v1) ?_ ?_
  · simp only [↓EVP0, EVQ0, EVQ1, EVQ2, EVQ3, EVQ4, EVA, EVK, EVFR, ↓reduceIte, Nat.reduceEqDiff, Nat.reduceAdd, Nat.reduceSub, Nat.reduceMul, Nat.reduceLT, Nat.reduceLeDiff, reduceCtorEq, Int.reduceToNat, Int.reduceLT, Int.reduceLE, Int.reduceAdd, Int.reduceSub, Int.reduceMul, Int.reduceNeg, Int.reduceEq, Nat.reduceMod, forall_eq_or_imp, forall_eq, forall_const, cond_true, cond_false, decide_true, decide_false, true_imp_iff, implies_true, Int.cast_ofNat_Int, forall_eq']
  simp only [↓EVP0, EVQ0, EVQ1, EVQ2, EVQ3, EVQ4, EVA, EVK, EVFR, ↓reduceIte, Nat.reduceEqDiff, Nat.reduceAdd, Nat.reduceSub, Nat.reduceMul, Nat.reduceLT, Nat.reduceLeDiff, reduceCtorEq, Int.reduceToNat, Int.reduceLT, Int.reduceLE, Int.reduceAdd, Int.reduceSub, Int.reduceMul, Int.reduceNeg, Int.reduceEq, Nat.reduceMod, forall_eq_or_imp, forall_eq, forall_const, cond_true, cond_false, decide_true, decide_false, true_imp_iff, implies_true, Int.cast_ofNat_Int, forall_eq']
  unfold flr
  refine ⟨fun g => ?_, fun g => ?_⟩
  · rw [if_neg (by simpa using g)]
  rw [if_pos (by simpa using g)]
  have hA := vld_low (by simpa using g)
  have oA := nrm_ok ha
  generalize nrmR a = A at *
  refine callK_ro (n1) ?_ ?_
  · simp only [↓EVP0, EVQ0, EVQ1, EVQ2, EVQ3, EVQ4, EVA, EVK, EVFR, ↓reduceIte, Nat.reduceEqDiff, Nat.reduceAdd, Nat.reduceSub, Nat.reduceMul, Nat.reduceLT, Nat.reduceLeDiff, reduceCtorEq, Int.reduceToNat, Int.reduceLT, Int.reduceLE, Int.reduceAdd, Int.reduceSub, Int.reduceMul, Int.reduceNeg, Int.reduceEq, Nat.reduceMod, forall_eq_or_imp, forall_eq, forall_const, cond_true, cond_false, decide_true, decide_false, true_imp_iff, implies_true, Int.cast_ofNat_Int, forall_eq']
  simp only [↓EVP0, EVQ0, EVQ1, EVQ2, EVQ3, EVQ4, EVA, EVK, EVFR, ↓reduceIte, Nat.reduceEqDiff, Nat.reduceAdd, Nat.reduceSub, Nat.reduceMul, Nat.reduceLT, Nat.reduceLeDiff, reduceCtorEq, Int.reduceToNat, Int.reduceLT, Int.reduceLE, Int.reduceAdd, Int.reduceSub, Int.reduceMul, Int.reduceNeg, Int.reduceEq, Nat.reduceMod, forall_eq_or_imp, forall_eq, forall_const, cond_true, cond_false, decide_true, decide_false, true_imp_iff, implies_true, Int.cast_ofNat_Int, forall_eq']
  have f := floor_facts hA
  have t := tdiv_floor (n := A.n) hA.1
  have h0 := hA.1
  unfold In64
  refine ⟨⟨by omega, ?_⟩, by omega, fun h => ?_, fun h => ?_⟩
  · split at t <;> omega
  · rw [if_pos (by simpa using h)] at t; omega
  · rw [if_neg (by simpa using h)] at t; omega
def sumR : List Rt → Rt → Rt × Int
  | [], s => (s, 0)
  | r :: l, s => if (addR s r).2 = 0 then sumR l (addR s r).1 else (⟨0, 0⟩, (addR s r).2)
theorem addR_okRt (a b : Rt) : RtOk (addR a b).1 := by
  unfold addR
  split
  · rcases low_ok (x := (nrmR a).n * (nrmR b).d + (nrmR b).n * (nrmR a).d) (y := (nrmR a).d.natAbs * (nrmR b).d.natAbs) (Nat.mul_pos (by rename_i h; have := (vld_low h.1).1; omega) (by rename_i h; have := (vld_low h.2).1; omega)) with ⟨_, h, _⟩ | h
    · unfold Low at h; unfold RtOk In64 addE; omega
    · unfold addE; rw [h]; unfold RtOk In64; simp
  · unfold RtOk In64; simp
theorem ev_sum (l : List Rt) (hl : ∀ r, r ∈ l → RtOk r) : Ev Try.prog 26 [ratsV l] (rrV (sumR l ⟨0, 1⟩)) := by
  unfold rrV ratsV
  unfold ratV
  refine ev_fn Try.func26 comp26 (show 1 ≤ Try.f26.ntmps by decide) ?_; unfold cf26 rf26; simp only [↓EVP0, EVQ0, EVQ1, EVQ2, EVQ3, EVQ4, EVA, EVK, EVFR, ↓reduceIte, Nat.reduceEqDiff, Nat.reduceAdd, Nat.reduceSub, Nat.reduceMul, Nat.reduceLT, Nat.reduceLeDiff, reduceCtorEq, Int.reduceToNat, Int.reduceLT, Int.reduceLE, Int.reduceAdd, Int.reduceSub, Int.reduceMul, Int.reduceNeg, Int.reduceEq, Nat.reduceMod, forall_eq_or_imp, forall_eq, forall_const, cond_true, cond_false, decide_true, decide_false, true_imp_iff, implies_true, Int.cast_ofNat_Int, forall_eq']
  intro hl0
  refine lwp_for (α := Rt) l.length (fun i s => RtOk s ∧ sumR (l.drop i) s = sumR l ⟨0, 1⟩) (fun i _ => [(2, .ptr 0 0 0 0 0), (4, .ptr 1 0 0 0 0), (10, .rsl 2 l.length (rtsF l)), (11, .sc (.int .i64 l.length)), (12, .sc (.int .i64 i))])
    (fun _ s => [(0, .box [.sc (.int .i64 0), .sc (.int .i64 0)]), (0, .box [.sc (.int .i64 s.n), .sc (.int .i64 s.d)])]) ⟨0, 1⟩ ⟨by unfold RtOk In64; simp, rfl⟩ ?_ (fun _ _ => Nat.zero_le _) ?_
  · simp only [↓EVP0, EVQ0, EVQ1, EVQ2, EVQ3, EVQ4, EVA, EVK, EVFR, ↓reduceIte, Nat.reduceEqDiff, Nat.reduceAdd, Nat.reduceSub, Nat.reduceMul, Nat.reduceLT, Nat.reduceLeDiff, reduceCtorEq, Int.reduceToNat, Int.reduceLT, Int.reduceLE, Int.reduceAdd, Int.reduceSub, Int.reduceMul, Int.reduceNeg, Int.reduceEq, Nat.reduceMod, forall_eq_or_imp, forall_eq, forall_const, cond_true, cond_false, decide_true, decide_false, true_imp_iff, implies_true, Int.cast_ofNat_Int, forall_eq']
  rintro i s hi ⟨hs, hx⟩
  unfold lb26_0
  simp only [↓EVP0, EVQ0, EVQ1, EVQ2, EVQ3, EVQ4, EVA, EVK, EVFR, ↓reduceIte, Nat.reduceEqDiff, Nat.reduceAdd, Nat.reduceSub, Nat.reduceMul, Nat.reduceLT, Nat.reduceLeDiff, reduceCtorEq, Int.reduceToNat, Int.reduceLT, Int.reduceLE, Int.reduceAdd, Int.reduceSub, Int.reduceMul, Int.reduceNeg, Int.reduceEq, Nat.reduceMod, forall_eq_or_imp, forall_eq, forall_const, cond_true, cond_false, decide_true, decide_false, true_imp_iff, implies_true, Int.cast_ofNat_Int, forall_eq']
  refine ⟨fun hg => ?_, fun hg => ?_⟩
  · have hi2 : i < l.length := by simpa using hg
    have hr : RtOk (l.getD i default) := by
      rw [List.getD_eq_getElem?_getD, List.getElem?_eq_getElem hi2]
      exact hl _ (List.getElem_mem hi2)
    have h1 := ev_add s (l.getD i default) hs hr
    have hd : sumR (l.drop i) s = sumR (l.getD i default :: l.drop (i + 1)) s := by
      rw [List.drop_eq_getElem_cons hi2, List.getD_eq_getElem?_getD, List.getElem?_eq_getElem hi2]; rfl
    unfold rrV ratV at h1
    refine ⟨⟨by omega, by omega⟩, ?_⟩
    refine callK_ro (h1) ?_ ?_
    · simp only [↓EVP0, EVQ0, EVQ1, EVQ2, EVQ3, EVQ4, EVA, EVK, EVFR, ↓reduceIte, Nat.reduceEqDiff, Nat.reduceAdd, Nat.reduceSub, Nat.reduceMul, Nat.reduceLT, Nat.reduceLeDiff, reduceCtorEq, Int.reduceToNat, Int.reduceLT, Int.reduceLE, Int.reduceAdd, Int.reduceSub, Int.reduceMul, Int.reduceNeg, Int.reduceEq, Nat.reduceMod, forall_eq_or_imp, forall_eq, forall_const, cond_true, cond_false, decide_true, decide_false, true_imp_iff, implies_true, Int.cast_ofNat_Int, forall_eq']
    simp only [↓EVP0, EVQ0, EVQ1, EVQ2, EVQ3, EVQ4, EVA, EVK, EVFR, ↓reduceIte, Nat.reduceEqDiff, Nat.reduceAdd, Nat.reduceSub, Nat.reduceMul, Nat.reduceLT, Nat.reduceLeDiff, reduceCtorEq, Int.reduceToNat, Int.reduceLT, Int.reduceLE, Int.reduceAdd, Int.reduceSub, Int.reduceMul, Int.reduceNeg, Int.reduceEq, Nat.reduceMod, forall_eq_or_imp, forall_eq, forall_const, cond_true, cond_false, decide_true, decide_false, true_imp_iff, implies_true, Int.cast_ofNat_Int, forall_eq']
    have hd2 : sumR (l.getD i default :: l.drop (i + 1)) s = if (addR s (l.getD i default)).2 = 0 then sumR (l.drop (i + 1)) (addR s (l.getD i default)).1 else (⟨0, 0⟩, (addR s (l.getD i default)).2) := rfl
    rw [← hx, hd, hd2]
    refine ⟨fun h => ?_, fun h => ?_⟩
    · rw [if_neg (by simpa using h)]; exact ⟨⟨rfl, rfl⟩, rfl⟩
    · have h' : (addR s (l.getD i default)).2 = 0 := by simpa using h
      rw [if_pos h']
      refine ⟨by unfold In64; omega, hi2, (addR s (l.getD i default)).1, ⟨addR_okRt _ _, rfl⟩, rfl⟩
  · have hii : i = l.length := by simp at hg; omega
    subst hii
    rw [← hx, List.drop_length]
    exact ⟨⟨rfl, rfl⟩, rfl⟩
end Go.Proofs.Ytfhifkcbdpgomaa
